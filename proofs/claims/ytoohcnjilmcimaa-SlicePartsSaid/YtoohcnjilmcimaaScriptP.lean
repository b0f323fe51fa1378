/- The plain law of scripts: which operations are right and consistent, and which row of words is which operation. No program in sight. -/
import Derived.Test.YtoohcnjilmcimaaSliceP
import Derived.Test.YtoohcnjilmcimaaDecP
namespace Go.Proofs.Ytoohcnjilmcimaa.AmS
open Go AmD
abbrev Bytes := List UInt8

/-! ### right -/
def isKind (k : Int) : Bool := decide (1 ≤ k) && decide (k ≤ 8)
def iterK (k : Int) : Bool := k == 7 || k == 8
def rightB (o : SOp) : Bool :=
  isKind o.kind && decide (0 ≤ o.iter) && decide (o.iter ≤ 1000000) && (keyedP o.kind || (o.key == 0 && o.hash == 0)) && (o.kind == 2 || o.val == 0) && (iterK o.kind || o.iter == 0)

theorem kinds8' {k : Int} (h : isKind k = true) : 1 ≤ k ∧ k ≤ 8 := by
  unfold isKind at h
  simpa using h

theorem right_kind' {o : SOp} (h : rightB o = true) : isKind o.kind = true := by
  unfold rightB at h
  simp only [Bool.and_eq_true] at h
  exact h.1.1.1.1.1

/-! ### consistent -/
/-- one key, two hashes -/
def clash (a b : SOp) : Bool := keyedP a.kind && keyedP b.kind && a.key == b.key && a.hash != b.hash
def otherGo (pre : List SOp) : List SOp → Option Nat
  | [] => none
  | o :: t => if pre.any (clash o) then some pre.length else otherGo (pre ++ [o]) t
/-- the place of the first operation whose key had another hash ahead -/
def other (l : List SOp) : Option Nat := otherGo [] l
def knownAdd (f : Int → Option Int) (o : SOp) : Int → Option Int := if keyedP o.kind then fun y => if y = o.key then some o.hash else f y else f
/-- the last hash of each key -/
def known (l : List SOp) : Int → Option Int := l.foldl knownAdd (fun _ => none)
theorem known_snoc (l : List SOp) (o : SOp) : known (l ++ [o]) = knownAdd (known l) o := by simp [known]
def free (l : List SOp) : Prop := ∀ a ∈ l, ∀ b ∈ l, clash a b = false

theorem known_mem (x h : Int) : ∀ (n : Nat) (l : List SOp), l.length = n → known l x = some h → ∃ o ∈ l, keyedP o.kind = true ∧ o.key = x ∧ o.hash = h := by
  intro n
  induction n with
  | zero =>
    intro l hl hk
    obtain rfl := List.length_eq_zero_iff.1 hl
    cases hk
  | succ n ih =>
    intro l hl hk
    have hne : l ≠ [] := fun e => by rw [e] at hl; simp at hl
    have e := List.dropLast_concat_getLast hne
    rw [← e, known_snoc] at hk
    unfold knownAdd at hk
    split at hk
    · next hkd =>
      by_cases hx : x = (l.getLast hne).key
      · simp only [hx, if_true] at hk
        exact ⟨_, List.getLast_mem hne, hkd, hx.symm, by injection hk⟩
      · simp only [hx, if_false] at hk
        obtain ⟨o, ho, r⟩ := ih l.dropLast (by simp; omega) hk
        exact ⟨o, List.dropLast_subset _ ho, r⟩
    · obtain ⟨o, ho, r⟩ := ih l.dropLast (by simp; omega) hk
      exact ⟨o, List.dropLast_subset _ ho, r⟩
theorem known_none (x : Int) : ∀ (n : Nat) (l : List SOp), l.length = n → known l x = none → ∀ o ∈ l, keyedP o.kind = true → o.key ≠ x := by
  intro n
  induction n with
  | zero =>
    intro l hl _ o ho
    obtain rfl := List.length_eq_zero_iff.1 hl
    cases ho
  | succ n ih =>
    intro l hl hk o ho hkd
    have hne : l ≠ [] := fun e => by rw [e] at hl; simp at hl
    have e := List.dropLast_concat_getLast hne
    rw [← e, known_snoc] at hk
    rw [← e] at ho
    unfold knownAdd at hk
    rcases List.mem_append.1 ho with ho | ho
    · refine ih l.dropLast (by simp; omega) ?_ o ho hkd
      split at hk
      · by_cases hx : x = (l.getLast hne).key
        · simp only [hx, if_true] at hk; cases hk
        · simpa only [hx, if_false] using hk
      · exact hk
    · obtain rfl : o = l.getLast hne := by simpa using ho
      rw [if_pos hkd] at hk
      intro hx
      rw [hx] at hk
      simp at hk

theorem clash_known {l : List SOp} (hf : free l) (o : SOp) : l.any (clash o) = (keyedP o.kind && match known l o.key with | some h => h != o.hash | none => false) := by
  cases hkd : keyedP o.kind with
  | false =>
    rw [Bool.false_and, Bool.eq_false_iff]
    intro h
    obtain ⟨x, _, hx⟩ := List.any_eq_true.1 h
    simp [clash, hkd] at hx
  | true =>
    rw [Bool.true_and]
    cases hk : known l o.key with
    | none =>
      rw [Bool.eq_false_iff]
      intro h
      obtain ⟨x, hx, hc⟩ := List.any_eq_true.1 h
      simp only [clash, Bool.and_eq_true, beq_iff_eq] at hc
      exact known_none _ _ l rfl hk x hx hc.1.1.2 hc.1.2.symm
    | some h =>
      obtain ⟨x, hx, hxk, hxe, hxh⟩ := known_mem _ _ _ l rfl hk
      by_cases hh : h = o.hash
      · have e : (h != o.hash) = false := by simp [hh]
        simp only [e]
        rw [Bool.eq_false_iff]
        intro hany
        obtain ⟨y, hy, hc⟩ := List.any_eq_true.1 hany
        simp only [clash, Bool.and_eq_true, beq_iff_eq, bne_iff_ne] at hc
        have := hf x hx y hy
        simp only [clash, hxk, hc.1.1.2, Bool.true_and] at this
        rw [hxe, hc.1.2] at this
        simp only [beq_self_eq_true, Bool.true_and, bne_eq_false_iff_eq] at this
        exact hc.2 (by rw [← hh, ← hxh, this])
      · have e : (h != o.hash) = true := by simp [hh]
        simp only [e]
        refine List.any_eq_true.2 ⟨x, hx, ?_⟩
        simp only [clash, hkd, hxk, hxe, hxh, Bool.true_and, beq_self_eq_true]
        simpa using fun e => hh e.symm
theorem clash_comm (a b : SOp) : clash a b = clash b a := by
  unfold clash
  rw [Bool.eq_iff_iff]
  simp only [Bool.and_eq_true, beq_iff_eq, bne_iff_ne]
  constructor
  · rintro ⟨⟨⟨h1, h2⟩, h3⟩, h4⟩; exact ⟨⟨⟨h2, h1⟩, h3.symm⟩, fun e => h4 e.symm⟩
  · rintro ⟨⟨⟨h1, h2⟩, h3⟩, h4⟩; exact ⟨⟨⟨h2, h1⟩, h3.symm⟩, fun e => h4 e.symm⟩
theorem clash_self (a : SOp) : clash a a = false := by simp [clash]
theorem free_snoc {l : List SOp} (hf : free l) {o : SOp} (h : l.any (clash o) = false) : free (l ++ [o]) := by
  have H : ∀ b ∈ l, clash o b = false := by
    intro b hb
    rw [Bool.eq_false_iff] at h ⊢
    exact fun e => h (List.any_eq_true.2 ⟨b, hb, e⟩)
  intro a ha b hb
  rcases List.mem_append.1 ha with ha | ha
  · rcases List.mem_append.1 hb with hb | hb
    · exact hf a ha b hb
    · have hbo : b = o := by simpa using hb
      rw [hbo, clash_comm]; exact H a ha
  · obtain rfl : a = o := by simpa using ha
    rcases List.mem_append.1 hb with hb | hb
    · exact H b hb
    · obtain rfl : b = a := by simpa using hb
      exact clash_self b
theorem free_nil : free [] := fun a ha => by cases ha
theorem otherGo_lt : ∀ (t pre : List SOp) (i : Nat), otherGo pre t = some i → pre.length ≤ i ∧ i < pre.length + t.length
  | [], pre, i, h => by cases h
  | o :: t, pre, i, h => by
    rw [otherGo] at h
    split at h
    · obtain rfl : pre.length = i := by injection h
      simp
    · have := otherGo_lt t _ i h
      simp at this ⊢; omega
theorem other_lt {l : List SOp} {i : Nat} (h : other l = some i) : i < l.length := by
  have := otherGo_lt l [] i h
  simp at this; exact this
theorem otherGo_free : ∀ (t pre : List SOp), free pre → (otherGo pre t = none ↔ free (pre ++ t))
  | [], pre, h => by simp [otherGo, h]
  | o :: t, pre, h => by
    rw [otherGo]
    cases hc : pre.any (clash o) with
    | true =>
      simp only [if_true]
      constructor
      · intro e; cases e
      · intro hf
        obtain ⟨x, hx, hcx⟩ := List.any_eq_true.1 hc
        have := hf o (by simp) x (List.mem_append_left _ hx)
        rw [hcx] at this; cases this
    | false =>
      simp only [Bool.false_eq_true, if_false]
      rw [otherGo_free t (pre ++ [o]) (free_snoc h hc)]
      simp
theorem other_none {l : List SOp} : other l = none ↔ free l := by
  have := otherGo_free l [] free_nil
  simpa [other] using this

/-! ### each key's hash -/
def sameKeyed (o x : SOp) : Bool := keyedP x.kind && x.key == o.key
def firstsGo (pre : List SOp) : List SOp → List SOp
  | [] => []
  | o :: t => if keyedP o.kind && !pre.any (sameKeyed o) then o :: firstsGo (pre ++ [o]) t else firstsGo (pre ++ [o]) t
/-- each key's first operation -/
def firsts (l : List SOp) : List SOp := firstsGo [] l
theorem firstsGo_snoc (o : SOp) : ∀ (t pre : List SOp), firstsGo pre (t ++ [o]) = firstsGo pre t ++ (if keyedP o.kind && !(pre ++ t).any (sameKeyed o) then [o] else [])
  | [], pre => by
    simp only [List.nil_append, firstsGo, List.append_nil]
  | x :: t, pre => by
    simp only [List.cons_append, firstsGo, firstsGo_snoc o t (pre ++ [x])]
    rw [show pre ++ [x] ++ t = pre ++ x :: t by simp]
    split <;> simp
theorem firsts_snoc (l : List SOp) (o : SOp) : firsts (l ++ [o]) = firsts l ++ (if keyedP o.kind && !l.any (sameKeyed o) then [o] else []) := by
  have := firstsGo_snoc o l []
  simpa [firsts] using this
/-- how many operations of a key there are -/
def cnt (l : List SOp) (x : Int) : Nat := l.countP fun o => keyedP o.kind && o.key == x
theorem cnt_snoc (l : List SOp) (o : SOp) (x : Int) : cnt (l ++ [o]) x = cnt l x + if keyedP o.kind && o.key == x then 1 else 0 := by
  unfold cnt
  rw [List.countP_append]
  simp [List.countP_cons]
theorem cnt_le (l : List SOp) (x : Int) : cnt l x ≤ l.length := List.countP_le_length
theorem cnt_any (l : List SOp) (o : SOp) : (cnt l o.key = 0) ↔ l.any (sameKeyed o) = false := by
  unfold cnt
  rw [List.countP_eq_zero, List.any_eq_false]
  rfl
theorem firsts_keyed (l : List SOp) (o : SOp) : l.any (sameKeyed o) = (firsts l).any (fun x => x.key == o.key) := by
  have H : ∀ (n : Nat) (l : List SOp), l.length = n → l.any (sameKeyed o) = (firsts l).any (fun x => x.key == o.key) := by
    intro n
    induction n with
    | zero => intro l hl; obtain rfl := List.length_eq_zero_iff.1 hl; rfl
    | succ n ih =>
      intro l hl
      have hne : l ≠ [] := fun e => by rw [e] at hl; simp at hl
      have e := List.dropLast_concat_getLast hne
      have ih' := ih l.dropLast (by simp; omega)
      rw [← e, firsts_snoc, List.any_append, List.any_append, ← ih']
      generalize l.getLast hne = x
      generalize l.dropLast = m at *
      simp only [List.any_cons, List.any_nil, Bool.or_false]
      by_cases hx : x.key = o.key
      · have e1 : sameKeyed x = sameKeyed o := by funext y; simp [sameKeyed, hx]
        rw [e1]
        cases hk : keyedP x.kind with
        | false => simp [sameKeyed, hk]
        | true =>
          cases hm : m.any (sameKeyed o) <;> simp [sameKeyed, hk, hx]
      · have e1 : sameKeyed o x = false := by simp [sameKeyed, hx]
        rw [e1]
        split <;> simp [hx]
  exact H _ l rfl
theorem firsts_length (l : List SOp) : (firsts l).length ≤ l.length := by
  have H : ∀ (t pre : List SOp), (firstsGo pre t).length ≤ t.length := by
    intro t
    induction t with
    | nil => intro pre; simp [firstsGo]
    | cons o t ih =>
      intro pre
      have := ih (pre ++ [o])
      rw [firstsGo]
      split <;> simp <;> omega
  exact H l []
theorem hashesGo_firsts : ∀ (t pre : List SOp) (ks : List Int), (∀ x, x ∈ ks ↔ ∃ o ∈ pre, keyedP o.kind = true ∧ o.key = x) → hashesGo ks t = (firstsGo pre t).map (·.key)
  | [], _, _, _ => rfl
  | o :: t, pre, ks, h => by
    have hh : pre.any (sameKeyed o) = ks.contains o.key := by
      rw [Bool.eq_iff_iff, List.any_eq_true]
      simp only [List.contains_iff_mem, h, sameKeyed, Bool.and_eq_true, beq_iff_eq]
    rw [hashesGo, firstsGo]
    have hstep : ∀ ks' : List Int, (∀ x, x ∈ ks' ↔ ∃ q ∈ pre ++ [o], keyedP q.kind = true ∧ q.key = x) → hashesGo ks' t = (firstsGo (pre ++ [o]) t).map (·.key) := fun ks' h' => hashesGo_firsts t (pre ++ [o]) ks' h'
    cases hk : keyedP o.kind with
    | false =>
      simp only [Bool.false_eq_true, if_false, Bool.false_and]
      refine hstep ks fun x => ?_
      rw [h]
      constructor
      · rintro ⟨q, hq, r⟩; exact ⟨q, List.mem_append_left _ hq, r⟩
      · rintro ⟨q, hq, r1, r2⟩
        rcases List.mem_append.1 hq with hq | hq
        · exact ⟨q, hq, r1, r2⟩
        · obtain rfl : q = o := by simpa using hq
          rw [hk] at r1; cases r1
    | true =>
      simp only [if_true, Bool.true_and]
      cases hc : ks.contains o.key with
      | true =>
        rw [hc] at hh
        simp only [hh, if_true, Bool.not_true, Bool.false_eq_true, if_false]
        refine hstep ks fun x => ?_
        rw [h]
        constructor
        · rintro ⟨q, hq, r⟩; exact ⟨q, List.mem_append_left _ hq, r⟩
        · rintro ⟨q, hq, r1, r2⟩
          rcases List.mem_append.1 hq with hq | hq
          · exact ⟨q, hq, r1, r2⟩
          · obtain rfl : q = o := by simpa using hq
            have hm : q.key ∈ ks := by simpa using hc
            rw [h, r2] at hm
            exact hm
      | false =>
        rw [hc] at hh
        simp only [hh, Bool.false_eq_true, if_false, Bool.not_false, if_true, List.map_cons]
        congr 1
        refine hstep _ fun x => ?_
        rw [List.mem_append, h]
        constructor
        · rintro (⟨q, hq, r⟩ | hx)
          · exact ⟨q, List.mem_append_left _ hq, r⟩
          · obtain rfl : x = o.key := by simpa using hx
            exact ⟨o, by simp, hk, rfl⟩
        · rintro ⟨q, hq, r1, r2⟩
          rcases List.mem_append.1 hq with hq | hq
          · exact .inl ⟨q, hq, r1, r2⟩
          · obtain rfl : q = o := by simpa using hq
            exact .inr (by simp [r2])
theorem hashes_firsts (l : List SOp) : hashesGo [] l = (firsts l).map (·.key) := hashesGo_firsts l [] [] (by simp)

/-! ### a row of words -/
/-- the kinds' words -/
def names : List Bytes := [[], [103, 101, 116], [112, 117, 116], [100, 101, 108], [108, 101, 110], [99, 108, 101, 97, 114], [111, 112, 101, 110], [110, 101, 120, 116], [99, 108, 111, 115, 101]]
def wordOf (k : Int) : Bytes := if isKind k then names.getD k.toNat [] else []
/-- a word's kind; 0: none -/
def kindOf (w : Bytes) : Nat :=
  if w = [103, 101, 116] then 1 else if w = [112, 117, 116] then 2 else if w = [100, 101, 108] then 3 else if w = [108, 101, 110] then 4 else if w = [99, 108, 101, 97, 114] then 5
  else if w = [111, 112, 101, 110] then 6 else if w = [110, 101, 120, 116] then 7 else if w = [99, 108, 111, 115, 101] then 8 else 0
theorem kindOf_le (w : Bytes) : kindOf w ≤ 8 := by
  unfold kindOf
  repeat (split; · omega)
  omega
/-- how many numbers -/
def manyOf (k : Nat) : Nat := if k = 1 ∨ k = 3 then 2 else if k = 2 then 3 else if k = 7 ∨ k = 8 then 1 else 0
/-- a number of an operation of a kind, or its error's number -/
def numE (k : Nat) (w : Bytes) : Except Nat Nat :=
  if 7 ≤ k then (match dec w with | none => .error 13 | some n => if 1000000 < n then .error 1 else .ok n)
  else (match numOf w with | none => .error 13 | some n => .ok n)
def numsE (k : Nat) (acc : List Nat) : List Bytes → Except Nat (List Nat)
  | [] => .ok acc
  | w :: r => match numE k w with
    | .error e => .error e
    | .ok n => numsE k (acc ++ [n]) r
/-- the operation of its numbers -/
def opOf (k : Nat) (ns : List Nat) : SOp :=
  { kind := k, key := if k ≤ 3 then (ns.getD 0 0 : Nat) else 0, val := if k = 2 then (ns.getD 1 0 : Nat) else 0, hash := if k ≤ 3 then (ns.getD (ns.length - 1) 0 : Nat) else 0, iter := if 7 ≤ k then (ns.getD 0 0 : Nat) else 0 }
/-- the operation of a row of words, or its error's number -/
def one : List Bytes → Except Nat SOp
  | [] => .error 15
  | w :: r => if kindOf w = 0 then .error 15 else if r.length ≠ manyOf (kindOf w) then .error 3 else
    match numsE (kindOf w) [] r with
    | .error e => .error e
    | .ok ns => .ok (opOf (kindOf w) ns)
theorem numE_lt {k : Nat} {w : Bytes} {n : Nat} (h : numE k w = .ok n) : n < 18446744073709551616 ∧ (7 ≤ k → n ≤ 1000000) := by
  unfold numE at h
  split at h
  · split at h
    · cases h
    · next hd =>
      split at h
      · cases h
      · injection h with h
        subst h
        exact ⟨dec_lt hd, fun _ => by omega⟩
  · next hk =>
    split at h
    · cases h
    · next hd =>
      injection h with h
      subst h
      exact ⟨numOf_lt hd, fun h7 => absurd h7 hk⟩
theorem numE_err {k : Nat} {w : Bytes} {e : Nat} (h : numE k w = .error e) : e = 13 ∨ e = 1 := by
  unfold numE at h
  split at h
  · split at h
    · injection h with h; exact .inl h.symm
    · split at h
      · injection h with h; exact .inr h.symm
      · cases h
  · split at h
    · injection h with h; exact .inl h.symm
    · cases h
theorem numsE_ok {k : Nat} : ∀ (r : List Bytes) (acc ns : List Nat), numsE k acc r = .ok ns → ns.length = acc.length + r.length ∧ ∀ n ∈ ns, n ∈ acc ∨ (n < 18446744073709551616 ∧ (7 ≤ k → n ≤ 1000000))
  | [], acc, ns, h => by
    injection h with h
    subst h
    exact ⟨by simp, fun n hn => .inl hn⟩
  | w :: r, acc, ns, h => by
    rw [numsE] at h
    split at h
    · cases h
    · next n0 hn0 =>
      obtain ⟨h1, h2⟩ := numsE_ok r _ ns h
      refine ⟨by simp at h1 ⊢; omega, fun n hn => ?_⟩
      rcases h2 n hn with h3 | h3
      · rcases List.mem_append.1 h3 with h3 | h3
        · exact .inl h3
        · obtain rfl : n = n0 := by simpa using h3
          exact .inr (numE_lt hn0)
      · exact .inr h3
theorem numsE_err {k : Nat} : ∀ (r : List Bytes) (acc : List Nat) (e : Nat), numsE k acc r = .error e → e = 13 ∨ e = 1
  | [], acc, e, h => by cases h
  | w :: r, acc, e, h => by
    rw [numsE] at h
    split at h
    · next e0 he0 =>
      injection h with h
      subst h
      exact numE_err he0
    · exact numsE_err r _ e h
theorem one_err {l : List Bytes} {e : Nat} (h : one l = .error e) : 1 ≤ e ∧ e ≤ 16 := by
  unfold one at h
  split at h
  · injection h with h; omega
  · split at h
    · injection h with h; omega
    · split at h
      · injection h with h; omega
      · split at h
        · next e0 he0 =>
          injection h with h
          rcases numsE_err _ _ _ he0 with h1 | h1 <;> omega
        · cases h
theorem getD_mem {ns : List Nat} {i : Nat} (h : i < ns.length) : ns.getD i 0 ∈ ns := by
  rw [List.getD_eq_getElem?_getD, List.getElem?_eq_getElem h]
  exact List.getElem_mem h
/-- what is parsed is right -/
theorem one_right {l : List Bytes} {o : SOp} (h : one l = .ok o) : rightB o = true ∧ 0 ≤ o.key ∧ o.key < 18446744073709551616 ∧ 0 ≤ o.val ∧ o.val < 18446744073709551616 ∧ 0 ≤ o.hash ∧ o.hash < 18446744073709551616 := by
  cases l with
  | nil => cases h
  | cons w r =>
    unfold one at h
    simp only at h
    split at h
    · cases h
    · next hk0 =>
      split at h
      · cases h
      · next hlen =>
        split at h
        · cases h
        · next ns hns =>
          injection h with h
          subst h
          have hk8 := kindOf_le w
          simp only [opOf]
          generalize kindOf w = k at *
          obtain ⟨h1, h2⟩ := numsE_ok _ _ _ hns
          have hb : ∀ i, i < ns.length → ns.getD i 0 < 18446744073709551616 ∧ (7 ≤ k → ns.getD i 0 ≤ 1000000) := by
            intro i hi
            rcases h2 _ (getD_mem hi) with h3 | h3
            · cases h3
            · exact h3
          have hl : ns.length = manyOf k := by simp at h1; omega
          have hb0 : 0 < ns.length → ns.getD 0 0 < 18446744073709551616 ∧ (7 ≤ k → ns.getD 0 0 ≤ 1000000) := fun h => hb 0 h
          have hb1 : 1 < ns.length → ns.getD 1 0 < 18446744073709551616 := fun h => (hb 1 h).1
          have hb2 : 0 < ns.length → ns.getD (ns.length - 1) 0 < 18446744073709551616 := fun h => (hb _ (by omega)).1
          generalize ns.getD 0 0 = a at *
          generalize ns.getD 1 0 = b at *
          generalize ns.getD (ns.length - 1) 0 = c at *
          generalize ns.length = m at *
          have hk : k = 1 ∨ k = 2 ∨ k = 3 ∨ k = 4 ∨ k = 5 ∨ k = 6 ∨ k = 7 ∨ k = 8 := by omega
          rcases hk with rfl | rfl | rfl | rfl | rfl | rfl | rfl | rfl
          all_goals
            simp [manyOf] at hl
            subst hl
            simp [rightB, isKind, iterK, keyedP] at hb0 hb1 hb2 ⊢
            try omega
end Go.Proofs.Ytoohcnjilmcimaa.AmS
