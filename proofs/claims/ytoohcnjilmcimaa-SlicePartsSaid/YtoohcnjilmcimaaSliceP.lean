/- The plain law of slices of operations: which stay, all keys. No program in sight. -/
namespace Go.Proofs.Ytoohcnjilmcimaa.AmS
structure SOp where
  kind : Int
  key : Int
  val : Int
  hash : Int
  iter : Int
deriving DecidableEq

def keyedP (k : Int) : Bool := k == 1 || k == 2 || k == 3
def keyedR (k : Int) : Bool := decide (0 < k) && decide (k < 4)
theorem keyed_eq (k : Int) : keyedR k = keyedP k := by
  unfold keyedR keyedP
  rw [Bool.eq_iff_iff]
  simp
  omega

def keptF (keep : Nat → SOp → Bool) : Nat → List SOp → List SOp
  | _, [] => []
  | i, o :: t => if keep i o then o :: keptF keep (i + 1) t else keptF keep (i + 1) t

theorem keptF_filter (p : SOp → Bool) : ∀ (l : List SOp) (i : Nat), keptF (fun _ o => p o) i l = l.filter p
  | [], _ => rfl
  | o :: t, i => by
    unfold keptF
    rw [keptF_filter p t, List.filter_cons]

theorem keptF_length (keep : Nat → SOp → Bool) : ∀ (l : List SOp) (i : Nat), (keptF keep i l).length ≤ l.length
  | [], _ => Nat.le_refl _
  | o :: t, i => by
    have := keptF_length keep t (i + 1)
    unfold keptF
    split <;> simp <;> omega

theorem keptF_congr {k k' : Nat → SOp → Bool} : ∀ (l : List SOp) (i : Nat), (∀ j o, l[j]? = some o → k (i + j) o = k' (i + j) o) → keptF k i l = keptF k' i l
  | [], _, _ => rfl
  | o :: t, i, h => by
    unfold keptF
    have h0 := h 0 o rfl
    have ht := keptF_congr (k := k) (k' := k') t (i + 1) (fun j o' hj => by
      have := h (j + 1) o' hj
      rwa [show i + (j + 1) = i + 1 + j by omega] at this)
    rw [ht]
    simp only [Nat.add_zero] at h0
    rw [h0]

theorem keptF_snoc (keep : Nat → SOp → Bool) (o : SOp) : ∀ (l : List SOp) (i : Nat), keptF keep i (l ++ [o]) = keptF keep i l ++ (if keep (i + l.length) o then [o] else [])
  | [], i => by simp [keptF]
  | x :: t, i => by
    simp only [List.cons_append, keptF, keptF_snoc keep o t (i + 1), List.length_cons]
    rw [show i + 1 + t.length = i + (t.length + 1) by omega]
    split <;> simp

/-- does an operation end what a key had? -/
def stops (key : Int) (o : SOp) : Bool := o.kind == 5 || (o.kind == 3 && o.key == key) || (o.kind == 2 && o.key == key)

def shrink : List SOp → List SOp
  | [] => []
  | o :: t => if o.kind == 2 && !t.any (stops o.key) then o :: shrink t else shrink t

/-- the place of the put that counts, from behind: 'n' places are still ahead -/
def lastR (key : Int) : List SOp → Option Nat
  | [] => none
  | o :: t =>
    if o.kind == 5 || (o.kind == 3 && o.key == key) then none
    else if o.kind == 2 && o.key == key then some t.length
    else lastR key t
def last (key : Int) (l : List SOp) : Option Nat := lastR key l.reverse

theorem last_snoc (key : Int) (l : List SOp) (o : SOp) : last key (l ++ [o]) =
    if o.kind == 5 || (o.kind == 3 && o.key == key) then none else if o.kind == 2 && o.key == key then some l.length else last key l := by
  simp [last, lastR]

theorem last_lt (key : Int) : ∀ (l : List SOp) (i : Nat), lastR key l = some i → i < l.length
  | [], _, h => by simp [lastR] at h
  | o :: t, i, h => by
    unfold lastR at h
    split at h
    · cases h
    · split at h
      · simp at h; simp; omega
      · have := last_lt key t i h
        simp; omega

theorem last_append (key : Int) (l r : List SOp) : last key (l ++ r) = if r.any (stops key) then (last key r).map (· + l.length) else last key l := by
  have H : ∀ r' : List SOp, last key (l ++ r'.reverse) = if r'.reverse.any (stops key) then (last key r'.reverse).map (· + l.length) else last key l := by
    intro r'
    induction r' with
    | nil => simp
    | cons o t ih =>
      rw [List.reverse_cons, ← List.append_assoc, last_snoc, last_snoc, ih]
      rw [List.any_append]
      simp only [List.any_cons, List.any_nil, Bool.or_false]
      by_cases h1 : (o.kind == 5 || (o.kind == 3 && o.key == key)) = true
      · rw [if_pos h1]
        have : stops key o = true := by unfold stops; rw [h1]; rfl
        rw [this, Bool.or_true, if_pos rfl, if_pos h1]
        rfl
      · rw [if_neg h1, if_neg h1]
        by_cases h2 : (o.kind == 2 && o.key == key) = true
        · rw [if_pos h2, if_pos h2]
          have : stops key o = true := by unfold stops; rw [h2]; simp
          rw [this, Bool.or_true, if_pos rfl]
          simp [Nat.add_comm]
        · rw [if_neg h2, if_neg h2]
          have : stops key o = false := by
            unfold stops
            rw [Bool.not_eq_true] at h1 h2
            rw [h1, h2]; rfl
          rw [this, Bool.or_false]
  have := H r.reverse
  simpa using this

theorem last_cons_put (o : SOp) (t : List SOp) (h : o.kind == 2) : (last o.key (o :: t) == some 0) = !t.any (stops o.key) := by
  have e : o :: t = [o] ++ t := rfl
  rw [e, last_append]
  cases ht : t.any (stops o.key) with
  | true =>
    rw [if_pos rfl]
    cases last o.key t <;> simp
  | false =>
    rw [if_neg (by simp)]
    have hk : o.kind = 2 := by simpa using h
    simp [last, lastR, hk]

/-- the program's slice of the puts that count -/
theorem shrink_kept (l : List SOp) : keptF (fun i o => o.kind == 2 && last o.key l == some i) 0 l = shrink l := by
  have H : ∀ (t p : List SOp), keptF (fun i o => o.kind == 2 && last o.key (p ++ t) == some i) p.length t = shrink t := by
    intro t
    induction t with
    | nil => intro p; rfl
    | cons o t ih =>
      intro p
      unfold keptF shrink
      have e : (o.kind == 2 && last o.key (p ++ o :: t) == some p.length) = (o.kind == 2 && !t.any (stops o.key)) := by
        cases hk : (o.kind == 2) with
        | false => simp
        | true =>
          simp only [Bool.true_and]
          rw [← last_cons_put o t hk, last_append]
          have hs : stops o.key o = true := by unfold stops; rw [hk]; simp
          rw [if_pos (by simp [hs])]
          cases last o.key (o :: t) with
          | none => rfl
          | some j =>
            rw [Bool.eq_iff_iff]; simp
      rw [e]
      have ih' := ih (p ++ [o])
      simp only [List.append_assoc, List.cons_append, List.nil_append, List.length_append, List.length_cons, List.length_nil, Nat.zero_add] at ih'
      rw [ih']
  have := H l []
  simpa using this

/-- the reference's way -/
def bump (o : SOp) (pre : List SOp) (c : List Bool) : List Bool :=
  (List.zipWith (fun x b => if o.kind == 5 || (o.kind == 2 || o.kind == 3) && x.key == o.key then false else b) pre c) ++ [o.kind == 2]
def countR : List SOp → List Bool → List SOp → List Bool
  | _, c, [] => c
  | pre, c, o :: t => countR (pre ++ [o]) (bump o pre c) t
def count (l : List SOp) : List Bool := countR [] [] l

def counts (l : List SOp) : List Bool := (List.range l.length).map fun i => match l[i]? with | some o => o.kind == 2 && !(l.drop (i + 1)).any (stops o.key) | none => false

theorem counts_snoc (l : List SOp) (o : SOp) : counts (l ++ [o]) = bump o l (counts l) := by
  apply List.ext_getElem
  · simp [counts, bump]
  · intro i h1 h2
    simp only [counts, bump, List.length_append, List.length_cons, List.length_nil, List.length_map, List.length_range] at h1 ⊢
    simp only [List.getElem_map, List.getElem_range]
    by_cases hi : i < l.length
    · rw [List.getElem_append_left (by simp; omega)]
      rw [List.getElem_zipWith]
      simp only [List.getElem_map, List.getElem_range]
      rw [List.getElem?_append_left hi, List.getElem?_eq_getElem hi]
      simp only
      rw [List.drop_append_of_le_length (by omega), List.any_append]
      simp only [List.any_cons, List.any_nil, Bool.or_false]
      unfold stops
      have ec : (o.key == l[i].key) = (l[i].key == o.key) := by rw [Bool.eq_iff_iff]; simp; exact eq_comm
      rw [ec]
      cases (l[i].key == o.key) <;> cases (o.kind == 5) <;> cases (o.kind == 3) <;> cases (o.kind == 2) <;> simp
    · have hil : i = l.length := by omega
      subst hil
      rw [List.getElem_append_right (by simp)]
      simp

theorem countR_eq : ∀ (t pre : List SOp) (c : List Bool), c = counts pre → countR pre c t = counts (pre ++ t)
  | [], pre, c, h => by simp [countR, h]
  | o :: t, pre, c, h => by
    unfold countR
    rw [countR_eq t (pre ++ [o]) (bump o pre c) (by rw [counts_snoc, h])]
    simp
theorem count_eq (l : List SOp) : count l = counts l := by
  have := countR_eq l [] [] rfl
  simpa [count] using this

theorem counts_kept (l : List SOp) : keptF (fun i _ => (counts l)[i]?.getD false) 0 l = shrink l := by
  rw [← shrink_kept]
  apply keptF_congr
  intro j o hj
  simp only [Nat.zero_add]
  have hjl : j < l.length := (List.getElem?_eq_some_iff.1 hj).1
  have e : (counts l)[j]? = some (o.kind == 2 && !(l.drop (j + 1)).any (stops o.key)) := by
    unfold counts
    rw [List.getElem?_map, List.getElem?_range hjl]
    simp [hj]
  rw [e]
  simp only [Option.getD_some]
  cases hk : (o.kind == 2) with
  | false => simp
  | true =>
    simp only [Bool.true_and]
    rw [← last_cons_put o _ hk]
    have hl : l = l.take j ++ o :: l.drop (j + 1) := by
      have h1 := (List.getElem?_eq_some_iff.1 hj).2
      rw [← h1, ← List.drop_eq_getElem_cons hjl, List.take_append_drop]
    conv => rhs; rw [hl]
    rw [last_append]
    have hs : stops o.key o = true := by unfold stops; rw [hk]; simp
    rw [if_pos (by simp [hs])]
    have hlen : (l.take j).length = j := by simp; omega
    rw [hlen]
    cases last o.key (o :: l.drop (j + 1)) with
    | none => rfl
    | some i =>
      rw [Bool.eq_iff_iff]; simp

/-! who is sliced again -/

theorem shrink_mem : ∀ (l : List SOp) (o : SOp), o ∈ shrink l → o.kind = 2 ∧ o ∈ l
  | [], _, h => by simp [shrink] at h
  | x :: t, o, h => by
    unfold shrink at h
    split at h
    · next hc =>
      rcases List.mem_cons.1 h with rfl | h
      · simp at hc; exact ⟨hc.1, by simp⟩
      · have := shrink_mem t o h
        exact ⟨this.1, List.mem_cons_of_mem _ this.2⟩
    · have := shrink_mem t o h
      exact ⟨this.1, List.mem_cons_of_mem _ this.2⟩

theorem shrink_nostop (l : List SOp) (key : Int) (h : l.any (stops key) = false) : (shrink l).any (stops key) = false := by
  rw [List.any_eq_false] at h ⊢
  intro o ho
  exact h o (shrink_mem l o ho).2

theorem shrink_twice : ∀ l : List SOp, shrink (shrink l) = shrink l
  | [] => rfl
  | o :: t => by
    conv => lhs; rw [shrink]
    conv => rhs; rw [shrink]
    split
    · next h =>
      simp only [Bool.and_eq_true, Bool.not_eq_true'] at h
      rw [shrink, shrink_twice t, if_pos]
      simp [h.1, shrink_nostop t o.key h.2]
    · exact shrink_twice t

def write (o : SOp) : Bool := o.kind == 2 || o.kind == 3 || o.kind == 5
theorem stops_write (key : Int) (o : SOp) (h : write o = false) : stops key o = false := by
  unfold write at h; unfold stops
  simp only [Bool.or_eq_false_iff] at h
  simp [h.1.1, h.1.2, h.2]
theorem any_writes (key : Int) (l : List SOp) : (l.filter write).any (stops key) = l.any (stops key) := by
  induction l with
  | nil => rfl
  | cons o t ih =>
    rw [List.filter_cons]
    split
    · simp [ih]
    · next h =>
      rw [Bool.not_eq_true] at h
      simp [ih, stops_write key o h]
theorem shrink_writes : ∀ l : List SOp, shrink (l.filter write) = shrink l
  | [] => rfl
  | o :: t => by
    rw [List.filter_cons]
    split
    · rw [shrink, shrink, shrink_writes t, any_writes]
    · next h =>
      rw [Bool.not_eq_true] at h
      rw [shrink_writes t, shrink, if_neg]
      unfold write at h
      simp only [Bool.or_eq_false_iff] at h
      simp [h.1.1]

/-- the keys of what counts are unlike -/
theorem shrink_keys : ∀ l : List SOp, ((shrink l).map (·.key)).Nodup
  | [] => by simp [shrink]
  | o :: t => by
    unfold shrink
    split
    · next h =>
      simp only [Bool.and_eq_true, Bool.not_eq_true'] at h
      rw [List.map_cons, List.nodup_cons]
      refine ⟨?_, shrink_keys t⟩
      intro hm
      obtain ⟨x, hx, he⟩ := List.mem_map.1 hm
      have h2 := shrink_mem t x hx
      have := (List.any_eq_false.1 h.2) x h2.2
      unfold stops at this
      simp [h2.1, he] at this
    · exact shrink_keys t

/-! all keys -/
/-- the distinct keys, in the order of their first operations -/
def hashesGo (known : List Int) : List SOp → List Int
  | [] => []
  | o :: t => if keyedP o.kind then (if known.contains o.key then hashesGo known t else o.key :: hashesGo (known ++ [o.key]) t) else hashesGo known t

/-- the reference: keys rising, each once -/
def insR (out : List Int) (o : SOp) : List Int :=
  let a := out.takeWhile fun x => decide (x < o.key)
  let b := out.dropWhile fun x => decide (x < o.key)
  if keyedP o.kind && !(b.head? == some o.key) then a ++ o.key :: b else out
def keysR (l : List SOp) : List Int := l.foldl insR []


theorem hashesGo_spec : ∀ (l : List SOp) (known : List Int), (hashesGo known l).Nodup ∧ (∀ x ∈ hashesGo known l, x ∉ known) ∧
    ∀ x, x ∈ hashesGo known l ↔ x ∉ known ∧ ∃ o ∈ l, keyedP o.kind = true ∧ o.key = x
  | [], known => by simp [hashesGo]
  | o :: t, known => by
    unfold hashesGo
    by_cases hk : keyedP o.kind = true
    · rw [if_pos hk]
      by_cases hc : known.contains o.key = true
      · rw [if_pos hc]
        obtain ⟨h1, h2, h3⟩ := hashesGo_spec t known
        refine ⟨h1, h2, fun x => ?_⟩
        rw [h3]
        have hc' : o.key ∈ known := by simpa using hc
        constructor
        · rintro ⟨hx, o', ho', hh⟩
          exact ⟨hx, o', List.mem_cons_of_mem _ ho', hh⟩
        · rintro ⟨hx, o', ho', hh, rfl⟩
          rcases List.mem_cons.1 ho' with rfl | ho'
          · exact absurd hc' hx
          · exact ⟨hx, o', ho', hh, rfl⟩
      · rw [if_neg hc]
        obtain ⟨h1, h2, h3⟩ := hashesGo_spec t (known ++ [o.key])
        have hc' : o.key ∉ known := by simpa using hc
        refine ⟨List.nodup_cons.2 ⟨fun hm => (h2 _ hm) (by simp), h1⟩, ?_, fun x => ?_⟩
        · intro x hx
          rcases List.mem_cons.1 hx with rfl | hx
          · exact hc'
          · exact fun hxk => h2 x hx (by simp [hxk])
        · rw [List.mem_cons, h3]
          constructor
          · rintro (rfl | ⟨hx, o', ho', hh⟩)
            · exact ⟨hc', o, by simp, hk, rfl⟩
            · exact ⟨fun hxk => hx (by simp [hxk]), o', List.mem_cons_of_mem _ ho', hh⟩
          · rintro ⟨hx, o', ho', hh, rfl⟩
            by_cases he : o'.key = o.key
            · exact .inl he
            · rcases List.mem_cons.1 ho' with rfl | ho'
              · exact absurd rfl he
              · exact .inr ⟨by simp [hx, he], o', ho', hh, rfl⟩
    · rw [if_neg hk]
      obtain ⟨h1, h2, h3⟩ := hashesGo_spec t known
      refine ⟨h1, h2, fun x => ?_⟩
      rw [h3]
      constructor
      · rintro ⟨hx, o', ho', hh⟩
        exact ⟨hx, o', List.mem_cons_of_mem _ ho', hh⟩
      · rintro ⟨hx, o', ho', hh, rfl⟩
        rcases List.mem_cons.1 ho' with rfl | ho'
        · exact absurd hh hk
        · exact ⟨hx, o', ho', hh, rfl⟩

theorem takeWhile_lt (k : Int) : ∀ (l : List Int), ∀ x ∈ l.takeWhile (fun x => decide (x < k)), x < k
  | [], x, h => by simp at h
  | y :: t, x, h => by
    rw [List.takeWhile_cons] at h
    split at h
    · next hy =>
      rcases List.mem_cons.1 h with rfl | h
      · simpa using hy
      · exact takeWhile_lt k t x h
    · simp at h
theorem dropWhile_ge (k : Int) : ∀ (l : List Int), l.Pairwise (· < ·) → ∀ x ∈ l.dropWhile (fun x => decide (x < k)), k ≤ x
  | [], _, x, h => by simp at h
  | y :: t, hp, x, h => by
    rw [List.dropWhile_cons] at h
    split at h
    · exact dropWhile_ge k t (List.pairwise_cons.1 hp).2 x h
    · next hy =>
      have hy' : k ≤ y := by simpa using hy
      rcases List.mem_cons.1 h with rfl | h
      · exact hy'
      · have := (List.pairwise_cons.1 hp).1 x h; omega

theorem insR_spec (out : List Int) (o : SOp) (hp : out.Pairwise (· < ·)) :
    (insR out o).Pairwise (· < ·) ∧ ∀ x, x ∈ insR out o ↔ x ∈ out ∨ (keyedP o.kind = true ∧ o.key = x) := by
  have hab : out = out.takeWhile (fun x => decide (x < o.key)) ++ out.dropWhile (fun x => decide (x < o.key)) := (List.takeWhile_append_dropWhile).symm
  have ht := takeWhile_lt o.key out
  have hd := dropWhile_ge o.key out hp
  unfold insR
  simp only
  generalize out.takeWhile (fun x => decide (x < o.key)) = a at *
  generalize out.dropWhile (fun x => decide (x < o.key)) = b at *
  subst hab
  by_cases hc : (keyedP o.kind && !(b.head? == some o.key)) = true
  · rw [if_pos hc]
    simp only [Bool.and_eq_true, Bool.not_eq_true'] at hc
    obtain ⟨hk, hh⟩ := hc
    have hne : ∀ x ∈ b, o.key < x := by
      intro x hx
      cases b with
      | nil => cases hx
      | cons y t =>
        have hy := hd y (by simp)
        have hyne : y ≠ o.key := by simpa using hh
        rcases List.mem_cons.1 hx with rfl | hx
        · omega
        · rw [List.pairwise_append] at hp
          have := (List.pairwise_cons.1 hp.2.1).1 x hx
          omega
    refine ⟨?_, fun x => ?_⟩
    · rw [List.pairwise_append] at hp ⊢
      refine ⟨hp.1, List.pairwise_cons.2 ⟨hne, hp.2.1⟩, fun x hx y hy => ?_⟩
      have := ht x hx
      rcases List.mem_cons.1 hy with rfl | hy
      · exact this
      · have := hne y hy; omega
    · simp only [List.mem_append, List.mem_cons, hk, true_and]
      constructor
      · rintro (h | h | h)
        · exact .inl (.inl h)
        · exact .inr h.symm
        · exact .inl (.inr h)
      · rintro ((h | h) | h)
        · exact .inl h
        · exact .inr (.inr h)
        · exact .inr (.inl h.symm)
  · rw [if_neg hc]
    refine ⟨hp, fun x => ⟨.inl, ?_⟩⟩
    rintro (h | ⟨hk, rfl⟩)
    · exact h
    · rw [hk] at hc
      simp only [Bool.true_and, Bool.not_eq_true, Bool.not_eq_false'] at hc
      cases b with
      | nil => simp at hc
      | cons y t => simp at hc; simp [hc]

theorem keysR_spec (l : List SOp) : (keysR l).Pairwise (· < ·) ∧ ∀ x, x ∈ keysR l ↔ ∃ o ∈ l, keyedP o.kind = true ∧ o.key = x := by
  have H : ∀ (l : List SOp) (out : List Int), out.Pairwise (· < ·) → (l.foldl insR out).Pairwise (· < ·) ∧ ∀ x, x ∈ l.foldl insR out ↔ x ∈ out ∨ ∃ o ∈ l, keyedP o.kind = true ∧ o.key = x := by
    intro l
    induction l with
    | nil => intro out hp; exact ⟨hp, by simp⟩
    | cons o t ih =>
      intro out hp
      obtain ⟨h1, h2⟩ := insR_spec out o hp
      obtain ⟨h3, h4⟩ := ih _ h1
      refine ⟨h3, fun x => ?_⟩
      rw [List.foldl_cons, h4, h2]
      constructor
      · rintro ((h | h) | ⟨o', ho', h⟩)
        · exact .inl h
        · exact .inr ⟨o, by simp, h⟩
        · exact .inr ⟨o', List.mem_cons_of_mem _ ho', h⟩
      · rintro (h | ⟨o', ho', h⟩)
        · exact .inl (.inl h)
        · rcases List.mem_cons.1 ho' with rfl | ho'
          · exact .inl (.inr h)
          · exact .inr ⟨o', ho', h⟩
  have := H l [] List.Pairwise.nil
  refine ⟨this.1, fun x => ?_⟩
  rw [keysR, this.2]
  simp

theorem strict_unique : ∀ (a b : List Int), a.Pairwise (· < ·) → b.Pairwise (· < ·) → (∀ x, x ∈ a ↔ x ∈ b) → a = b
  | [], [], _, _, _ => rfl
  | [], y :: t, _, _, h => by have := (h y).2 (by simp); simp at this
  | x :: t, [], _, _, h => by have := (h x).1 (by simp); simp at this
  | x :: s, y :: t, ha, hb, h => by
    obtain ⟨ha1, ha2⟩ := List.pairwise_cons.1 ha
    obtain ⟨hb1, hb2⟩ := List.pairwise_cons.1 hb
    have hxy : x = y := by
      have h1 := (h x).1 (by simp)
      have h2 := (h y).2 (by simp)
      rcases List.mem_cons.1 h1 with e | h1
      · exact e
      · rcases List.mem_cons.1 h2 with e | h2
        · exact e.symm
        · have := hb1 x h1; have := ha1 y h2; omega
    subst hxy
    congr 1
    refine strict_unique s t ha2 hb2 fun z => ?_
    constructor
    · intro hz
      have h1 := (h z).1 (List.mem_cons_of_mem _ hz)
      rcases List.mem_cons.1 h1 with rfl | h1
      · have := ha1 z hz; omega
      · exact h1
    · intro hz
      have h1 := (h z).2 (List.mem_cons_of_mem _ hz)
      rcases List.mem_cons.1 h1 with rfl | h1
      · have := hb1 z hz; omega
      · exact h1

theorem sorted_strict (l : List Int) (h : l.Pairwise (· ≤ ·)) (hn : l.Nodup) : l.Pairwise (· < ·) := by
  induction l with
  | nil => exact List.Pairwise.nil
  | cons x t ih =>
    obtain ⟨h1, h2⟩ := List.pairwise_cons.1 h
    obtain ⟨n1, n2⟩ := List.nodup_cons.1 hn
    refine List.pairwise_cons.2 ⟨fun y hy => ?_, ih h2 n2⟩
    have := h1 y hy
    have : x ≠ y := fun e => n1 (e ▸ hy)
    omega

/-- the program's keys are the reference's -/
theorem keys_eq (l : List SOp) (ks : List Int) (hp : ks.Perm (hashesGo [] l)) (hs : ks.Pairwise (· ≤ ·)) : ks = keysR l := by
  obtain ⟨h1, _, h3⟩ := hashesGo_spec l []
  obtain ⟨k1, k2⟩ := keysR_spec l
  refine strict_unique _ _ (sorted_strict _ hs (hp.nodup_iff.2 h1)) k1 fun x => ?_
  rw [hp.mem_iff, h3, k2]
  simp

/-- the keys of what counts: as many as there are puts that count -/
theorem keys_shrink_length (l : List SOp) (ks : List Int) (hp : ks.Perm (hashesGo [] (shrink l))) : ks.length = (shrink l).length := by
  rw [hp.length_eq]
  have H : ∀ (t : List SOp) (known : List Int), (∀ o ∈ t, keyedP o.kind = true ∧ o.key ∉ known) → (t.map (·.key)).Nodup → (hashesGo known t).length = t.length := by
    intro t
    induction t with
    | nil => intro _ _ _; rfl
    | cons o t ih =>
      intro known h hn
      have h0 := h o (by simp)
      unfold hashesGo
      rw [if_pos h0.1, if_neg (by simpa using h0.2), List.length_cons, List.length_cons]
      rw [List.map_cons, List.nodup_cons] at hn
      rw [ih _ ?_ hn.2]
      intro o' ho'
      have h1 := h o' (List.mem_cons_of_mem _ ho')
      refine ⟨h1.1, ?_⟩
      rw [List.mem_append, not_or]
      refine ⟨h1.2, ?_⟩
      simp only [List.mem_singleton]
      intro e
      exact hn.1 (List.mem_map.2 ⟨o', ho', e⟩)
  refine H _ _ (fun o ho => ?_) (shrink_keys l)
  have := (shrink_mem l o ho).1
  exact ⟨by simp [keyedP, this], by simp⟩

end Go.Proofs.Ytoohcnjilmcimaa.AmS
