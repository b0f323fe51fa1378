/- The plain law of operations as a script's lines, and of the text that is parsed to them. No program in sight. -/
import Derived.Test.YtgpkekdbohdbfaaDoorTextP
import Derived.Test.YtgpkekdbohdbfaaDoorHexP
namespace Go.Proofs.YtgpkekdbohdbfaaDoor.AmS
open Go AmD AmW

def hx (n : Int) : Bytes := 48 :: 120 :: hexs n.toNat
/-- the words of an operation's line -/
def parts (o : SOp) : List Bytes :=
  wordOf o.kind :: (if o.kind = 1 ∨ o.kind = 3 then [hx o.key, hx o.hash] else if o.kind = 2 then [hx o.key, hx o.val, hx o.hash] else if o.kind = 7 ∨ o.kind = 8 then [digits o.iter.toNat] else [])
def lineOf (o : SOp) : Bytes := Lib.join (parts o) [32]
/-- how many bytes the lines have -/
def longOf (l : List SOp) : Nat := (l.map fun o => if rightB o then (lineOf o).length + 1 else 0).sum
/-- the first that is not right -/
def wrong (l : List SOp) : Option Nat := l.findIdx? fun o => !rightB o
def textOf (l : List SOp) : Bytes := (l.map fun o => lineOf o ++ [10]).flatten
/-- a place and an error's number, or the text -/
def textE (l : List SOp) : Except (Nat × Nat) Bytes :=
  if 2000 < l.length then .error (0, 9) else
  match wrong l with
  | some i => .error (i, 3)
  | none => match other l with
    | some i => .error (i, 8)
    | none => if 60000 < (textOf l).length then .error (0, 9) else .ok (textOf l)
theorem textOf_snoc (l : List SOp) (o : SOp) : textOf (l ++ [o]) = textOf l ++ (lineOf o ++ [10]) := by simp [textOf]
theorem longOf_snoc (l : List SOp) (o : SOp) : longOf (l ++ [o]) = longOf l + if rightB o then (lineOf o).length + 1 else 0 := by simp [longOf]
theorem wrong_none {l : List SOp} : wrong l = none ↔ ∀ o ∈ l, rightB o = true := by
  unfold wrong
  rw [List.findIdx?_eq_none_iff]
  simp
theorem wrong_hit {l : List SOp} {k : Nat} {o : SOp} (hk : l[k]? = some o) (h : ∀ x ∈ l.take k, rightB x = true) (ho : rightB o = false) : wrong l = some k := by
  obtain ⟨hlt, hge⟩ := List.getElem?_eq_some_iff.1 hk
  unfold wrong
  rw [List.findIdx?_eq_some_iff_getElem]
  refine ⟨hlt, by rw [hge, ho]; rfl, fun j hj => ?_⟩
  have : l[j] ∈ l.take k := by
    rw [List.mem_take_iff_getElem]
    exact ⟨j, by omega, rfl⟩
  simp [h _ this]

theorem longOf_text {l : List SOp} (h : ∀ o ∈ l, rightB o = true) : longOf l = (textOf l).length := by
  induction l with
  | nil => rfl
  | cons o t ih =>
    have e1 : longOf (o :: t) = (lineOf o).length + 1 + longOf t := by simp [longOf, h o (by simp)]
    have e2 : (textOf (o :: t)).length = (lineOf o).length + 1 + (textOf t).length := by simp [textOf]; omega
    rw [e1, e2, ih fun x hx => h x (List.mem_cons_of_mem _ hx)]

/-! ### the text, parsed -/
theorem good_of {l : Bytes} (hne : l ≠ []) (h : ∀ b ∈ l, 48 ≤ b.toNat ∧ b.toNat ≤ 122) : goodW l := by
  refine ⟨hne, fun b hb => ?_⟩
  obtain ⟨h1, h2⟩ := h b hb
  refine ⟨?_, ?_, ?_⟩
  · unfold fineC
    simp only [Bool.and_eq_true, decide_eq_true_eq, UInt8.le_iff_toNat_le]
    have e1 : (32 : UInt8).toNat = 32 := rfl
    have e2 : (126 : UInt8).toNat = 126 := rfl
    omega
  · rintro rfl
    revert h1; decide
  · rintro rfl
    revert h1; decide
theorem hexD_range (d : Nat) (h : d < 16) : 48 ≤ (hexD d).toNat ∧ (hexD d).toNat ≤ 122 := by
  exact match d, h with
  | 0, _ => by decide | 1, _ => by decide | 2, _ => by decide | 3, _ => by decide | 4, _ => by decide | 5, _ => by decide | 6, _ => by decide | 7, _ => by decide
  | 8, _ => by decide | 9, _ => by decide | 10, _ => by decide | 11, _ => by decide | 12, _ => by decide | 13, _ => by decide | 14, _ => by decide | 15, _ => by decide
  | k + 16, hk => absurd hk (by omega)
theorem hexF_range : ∀ (f n : Nat), n < 16 ^ (f + 1) → ∀ b ∈ hexF f n, 48 ≤ b.toNat ∧ b.toNat ≤ 122
  | 0, n, h, b, hb => by
    obtain rfl : b = hexD n := by simpa [hexF] using hb
    exact hexD_range n (by simpa using h)
  | f + 1, n, h, b, hb => by
    rw [hexF] at hb
    split at hb
    · next h16 =>
      obtain rfl : b = hexD n := by simpa using hb
      exact hexD_range n h16
    · rcases List.mem_append.1 hb with hb | hb
      · exact hexF_range f (n / 16) (by rw [Nat.pow_succ] at h; exact Nat.div_lt_of_lt_mul (by rw [Nat.mul_comm]; exact h)) b hb
      · obtain rfl : b = hexD (n % 16) := by simpa using hb
        exact hexD_range _ (Nat.mod_lt _ (by omega))
theorem hx_good (n : Int) (h : n < 18446744073709551616) : goodW (hx n) := by
  refine good_of (by simp [hx]) fun b hb => ?_
  simp only [hx, List.mem_cons] at hb
  rcases hb with rfl | rfl | hb
  · decide
  · decide
  · refine hexF_range 16 n.toNat ?_ b hb
    have e : (16 : Nat) ^ (16 + 1) = 295147905179352825856 := by decide
    rw [e]; omega
theorem digits_good (n : Nat) : goodW (digits n) := by
  refine good_of (digits_ne n) fun b hb => ?_
  have := digits_all n b hb
  unfold isDig at this
  simp at this
  omega
/-- the fields are within their words -/
def fits (o : SOp) : Prop := 0 ≤ o.key ∧ o.key < 18446744073709551616 ∧ 0 ≤ o.val ∧ o.val < 18446744073709551616 ∧ 0 ≤ o.hash ∧ o.hash < 18446744073709551616
theorem kinds8 {k : Int} (h : isKind k = true) : k = 1 ∨ k = 2 ∨ k = 3 ∨ k = 4 ∨ k = 5 ∨ k = 6 ∨ k = 7 ∨ k = 8 := by
  unfold isKind at h
  simp at h
  omega
theorem right_kind {o : SOp} (h : rightB o = true) : isKind o.kind = true := by
  unfold rightB at h
  simp only [Bool.and_eq_true] at h
  exact h.1.1.1.1.1
theorem parts_good {o : SOp} (h : rightB o = true) (hf : fits o) : ∀ x ∈ parts o, goodW x := by
  obtain ⟨h1, h2, h3, h4, h5, h6⟩ := hf
  have hk := kinds8 (right_kind h)
  intro x hx
  unfold parts at hx
  rcases List.mem_cons.1 hx with rfl | hx
  · generalize o.kind = k at *
    rcases hk with rfl | rfl | rfl | rfl | rfl | rfl | rfl | rfl
    all_goals exact good_of (by decide) (by decide)
  · split at hx
    · simp only [List.mem_cons, List.not_mem_nil, or_false] at hx
      rcases hx with rfl | rfl
      · exact hx_good _ h2
      · exact hx_good _ h6
    · split at hx
      · simp only [List.mem_cons, List.not_mem_nil, or_false] at hx
        rcases hx with rfl | rfl | rfl
        · exact hx_good _ h2
        · exact hx_good _ h4
        · exact hx_good _ h6
      · split at hx
        · simp only [List.mem_cons, List.not_mem_nil, or_false] at hx
          subst hx
          exact digits_good _
        · cases hx
theorem numE_hx {k : Nat} (hk : k < 7) (n : Int) (h0 : 0 ≤ n) (h1 : n < 18446744073709551616) : numE k (hx n) = .ok n.toNat := by
  unfold numE hx
  rw [if_neg (by omega), numOf_hexs n.toNat (by omega)]
theorem one_parts {o : SOp} (h : rightB o = true) (hf : fits o) : one (parts o) = .ok o := by
  obtain ⟨h1, h2, h3, h4, h5, h6⟩ := hf
  have hk := kinds8 (right_kind h)
  obtain ⟨kind, key, val, hash, iter⟩ := o
  simp only at *
  have H : rightB ⟨kind, key, val, hash, iter⟩ = true := h
  unfold rightB at H
  simp only [Bool.and_eq_true, Bool.or_eq_true, decide_eq_true_eq, beq_iff_eq] at H
  obtain ⟨⟨⟨⟨⟨_, i1⟩, i2⟩, k1⟩, v1⟩, i3⟩ := H
  rcases hk with rfl | rfl | rfl | rfl | rfl | rfl | rfl | rfl
  · simp [iterK, keyedP] at k1 v1 i3
    have e : kindOf (wordOf 1) = 1 := by decide
    simp [parts, one, e, manyOf, numsE, numE_hx (show 1 < 7 by omega) key h1 h2, numE_hx (show 1 < 7 by omega) hash h5 h6, opOf, v1, i3]
    omega
  · simp [iterK, keyedP] at k1 v1 i3
    have e : kindOf (wordOf 2) = 2 := by decide
    simp [parts, one, e, manyOf, numsE, numE_hx (show 2 < 7 by omega) key h1 h2, numE_hx (show 2 < 7 by omega) val h3 h4, numE_hx (show 2 < 7 by omega) hash h5 h6, opOf, i3]
    omega
  · simp [iterK, keyedP] at k1 v1 i3
    have e : kindOf (wordOf 3) = 3 := by decide
    simp [parts, one, e, manyOf, numsE, numE_hx (show 3 < 7 by omega) key h1 h2, numE_hx (show 3 < 7 by omega) hash h5 h6, opOf, v1, i3]
    omega
  · simp [iterK, keyedP] at k1 v1 i3
    have e : kindOf (wordOf 4) = 4 := by decide
    simp [parts, one, e, manyOf, numsE, opOf, v1, i3, k1]
  · simp [iterK, keyedP] at k1 v1 i3
    have e : kindOf (wordOf 5) = 5 := by decide
    simp [parts, one, e, manyOf, numsE, opOf, v1, i3, k1]
  · simp [iterK, keyedP] at k1 v1 i3
    have e : kindOf (wordOf 6) = 6 := by decide
    simp [parts, one, e, manyOf, numsE, opOf, v1, i3, k1]
  · simp [keyedP] at k1 v1
    have e : kindOf (wordOf 7) = 7 := by decide
    have en : numE 7 (digits iter.toNat) = .ok iter.toNat := by
      unfold numE
      rw [if_pos (by omega), dec_digits _ (by omega)]
      simp only
      rw [if_neg (by omega)]
    simp [parts, one, e, manyOf, numsE, opOf, v1, k1, en]
    omega
  · simp [keyedP] at k1 v1
    have e : kindOf (wordOf 8) = 8 := by decide
    have en : numE 8 (digits iter.toNat) = .ok iter.toNat := by
      unfold numE
      rw [if_pos (by omega), dec_digits _ (by omega)]
      simp only
      rw [if_neg (by omega)]
    simp [parts, one, e, manyOf, numsE, opOf, v1, k1, en]
    omega
/-- the lines, numbered -/
def rowsOf : Nat → List SOp → List (Nat × List Bytes)
  | _, [] => []
  | n, o :: t => (n, parts o) :: rowsOf (n + 1) t
theorem joined_rows : ∀ (l : List SOp) (n : Nat), joined (rowsOf n l) = textOf l
  | [], _ => rfl
  | o :: t, n => by
    have := joined_rows t (n + 1)
    simp only [joined, textOf, rowsOf, List.map_cons, List.flatten_cons] at this ⊢
    rw [this]; rfl
theorem renum_rows : ∀ (l : List SOp) (n m : Nat), renum n (rowsOf m l) = rowsOf n l
  | [], _, _ => rfl
  | o :: t, n, m => by simp only [rowsOf, renum, renum_rows t]
theorem rows_good : ∀ (l : List SOp) (n : Nat), (∀ o ∈ l, rightB o = true ∧ fits o) → ∀ p ∈ rowsOf n l, p.2 ≠ [] ∧ ∀ x ∈ p.2, goodW x
  | [], _, _, p, hp => by cases hp
  | o :: t, n, h, p, hp => by
    rcases List.mem_cons.1 hp with rfl | hp
    · exact ⟨by simp [parts], parts_good (h o (by simp)).1 (h o (by simp)).2⟩
    · exact rows_good t (n + 1) (fun x hx => h x (List.mem_cons_of_mem _ hx)) p hp
theorem split_text {l : List SOp} (h : ∀ o ∈ l, rightB o = true ∧ fits o) : goSplit [] 1 (lines (textOf l)) = .ok (rowsOf 1 l) := by
  have hg := rows_good l 1 h
  rw [← joined_rows l 1, lines_joined _ (fun p hp => (hg p hp).2), goSplit_joined _ [] 1 hg, renum_rows]
  simp
theorem ofGo_rows : ∀ (l acc : List SOp) (n : Nat), (∀ o ∈ l, rightB o = true ∧ fits o) → acc.length + l.length ≤ 2000 → ofGo acc (rowsOf n l) = .ok (acc ++ l)
  | [], acc, n, _, _ => by simp [rowsOf, ofGo]
  | o :: t, acc, n, h, hl => by
    have ho := h o (by simp)
    rw [rowsOf, ofGo, if_neg (by simp at hl; omega), one_parts ho.1 ho.2]
    simp only
    rw [ofGo_rows t _ _ (fun x hx => h x (List.mem_cons_of_mem _ hx)) (by simp at hl ⊢; omega)]
    simp
/-- what is written is parsed to what it was made of -/
theorem ofText_textOf {l : List SOp} {s : Bytes} (hf : ∀ o ∈ l, fits o) (h : textE l = .ok s) : ofText s = .ok l ∧ s = textOf l ∧ other l = none ∧ s.length = longOf l := by
  unfold textE at h
  split at h
  · cases h
  · next hlen =>
    split at h
    · cases h
    · next hw =>
      have hr := wrong_none.1 hw
      split at h
      · cases h
      · next ho =>
        split at h
        · cases h
        · next hs =>
          injection h with h
          subst h
          refine ⟨?_, rfl, ho, (longOf_text hr).symm⟩
          have hrf : ∀ o ∈ l, rightB o = true ∧ fits o := fun o ho => ⟨hr o ho, hf o ho⟩
          unfold ofText
          rw [if_neg hs, split_text hrf]
          simp only
          unfold ofLines
          rw [ofGo_rows l [] 1 hrf (by simp; omega)]
          simp [ho]
/-! ### few operations -/
/-- a place and an error's number, or the text, of few operations -/
def textS (l : List SOp) : Except (Nat × Nat) Bytes :=
  match wrong l with
  | some i => .error (i, 3)
  | none => match other l with
    | some i => .error (i, 8)
    | none => .ok (textOf l)
theorem join_le (m : Nat) : ∀ (l : List Bytes), (∀ x ∈ l, x.length ≤ m) → (Lib.join l [32]).length ≤ l.length * (m + 1)
  | [], _ => by simp [Lib.join]
  | [x], h => by
    rw [Lib.join_one]
    have := h x (by simp)
    simp
    omega
  | x :: z :: r, h => by
    rw [join_cons2, List.length_append, List.length_cons]
    have h1 := h x (by simp)
    have h2 := join_le m (z :: r) (fun y hy => h y (List.mem_cons_of_mem _ hy))
    have h3 : (x :: z :: r).length * (m + 1) = (z :: r).length * (m + 1) + (m + 1) := by rw [List.length_cons, Nat.succ_mul]
    omega
theorem hx_len (n : Int) : (hx n).length ≤ 19 := by
  have := hexs_length n.toNat
  simp only [hx, List.length_cons]
  omega
theorem wordOf_len (k : Int) : (wordOf k).length ≤ 19 := by
  unfold wordOf
  split
  · next h =>
    have hk := kinds8 h
    rcases hk with rfl | rfl | rfl | rfl | rfl | rfl | rfl | rfl <;> decide
  · decide
theorem iter_len {o : SOp} (h : rightB o = true) : (digits o.iter.toNat).length ≤ 19 := by
  have hi : 0 ≤ o.iter ∧ o.iter ≤ 1000000 := by
    unfold rightB at h
    simp only [Bool.and_eq_true, decide_eq_true_eq] at h
    exact ⟨h.1.1.1.1.2, h.1.1.1.2⟩
  have := digits_length 18 o.iter.toNat (by have e : (10 : Nat) ^ (18 + 1) = 10000000000000000000 := by decide
                                            omega)
  omega
theorem parts_len {o : SOp} (h : rightB o = true) : (parts o).length ≤ 4 ∧ ∀ x ∈ parts o, x.length ≤ 19 := by
  have h1 := wordOf_len o.kind
  have h2 := hx_len o.key
  have h3 := hx_len o.val
  have h4 := hx_len o.hash
  have h5 := iter_len h
  unfold parts
  refine ⟨?_, fun x hx' => ?_⟩
  · split
    · simp
    · split
      · simp
      · split <;> simp
  · rcases List.mem_cons.1 hx' with rfl | hx'
    · exact h1
    · split at hx'
      · simp only [List.mem_cons, List.not_mem_nil, or_false] at hx'
        rcases hx' with rfl | rfl <;> assumption
      · split at hx'
        · simp only [List.mem_cons, List.not_mem_nil, or_false] at hx'
          rcases hx' with rfl | rfl | rfl <;> assumption
        · split at hx'
          · simp only [List.mem_cons, List.not_mem_nil, or_false] at hx'
            subst hx'
            exact h5
          · cases hx'
theorem lineOf_len {o : SOp} (h : rightB o = true) : (lineOf o).length ≤ 80 := by
  obtain ⟨h1, h2⟩ := parts_len h
  have := join_le 19 (parts o) h2
  have h3 : (parts o).length * (19 + 1) ≤ 4 * 20 := Nat.mul_le_mul h1 (by omega)
  unfold lineOf
  omega
theorem textOf_le : ∀ (l : List SOp), (∀ o ∈ l, rightB o = true) → (textOf l).length ≤ l.length * 81
  | [], _ => by simp [textOf]
  | o :: t, h => by
    have h1 := lineOf_len (h o (by simp))
    have h2 := textOf_le t (fun x hx => h x (List.mem_cons_of_mem _ hx))
    have e : (textOf (o :: t)).length = (lineOf o).length + 1 + (textOf t).length := by simp [textOf]; omega
    rw [e, List.length_cons, Nat.succ_mul]
    omega
theorem textE_few {l : List SOp} (h : l.length ≤ 300) : textE l = textS l := by
  unfold textE textS
  rw [if_neg (by omega)]
  cases hw : wrong l with
  | some i => rfl
  | none =>
    simp only
    cases other l with
    | some i => rfl
    | none =>
      simp only
      have := textOf_le l (wrong_none.1 hw)
      rw [if_neg (by omega)]
theorem longOf_le : ∀ (l : List SOp), longOf l ≤ l.length * 81
  | [] => by simp [longOf]
  | o :: t => by
    have h2 := longOf_le t
    have e : longOf (o :: t) = (if rightB o then (lineOf o).length + 1 else 0) + longOf t := by simp [longOf]
    rw [e, List.length_cons, Nat.succ_mul]
    cases h : rightB o with
    | false => simp; omega
    | true =>
      have h1 := lineOf_len h
      simp
      omega
theorem wrong_lt {l : List SOp} {i : Nat} (h : wrong l = some i) : i < l.length := by
  unfold wrong at h
  rw [List.findIdx?_eq_some_iff_getElem] at h
  exact h.1
/-! ### a line, by its kind -/
theorem line_two {o : SOp} (h : o.kind = 1 ∨ o.kind = 3) : lineOf o = wordOf o.kind ++ 32 :: (hx o.key ++ 32 :: hx o.hash) := by
  unfold lineOf parts
  rw [if_pos h, join_cons2, join_cons2, Lib.join_one]
theorem line_put {o : SOp} (h : o.kind = 2) : lineOf o = wordOf o.kind ++ 32 :: (hx o.key ++ 32 :: (hx o.val ++ 32 :: hx o.hash)) := by
  unfold lineOf parts
  rw [if_neg (by omega), if_pos h, join_cons2, join_cons2, join_cons2, Lib.join_one]
theorem line_iter {o : SOp} (h : o.kind = 7 ∨ o.kind = 8) : lineOf o = wordOf o.kind ++ 32 :: digits o.iter.toNat := by
  unfold lineOf parts
  rw [if_neg (by omega), if_neg (by omega), if_pos h, join_cons2, Lib.join_one]
theorem line_bare {o : SOp} (h : o.kind = 4 ∨ o.kind = 5 ∨ o.kind = 6) : lineOf o = wordOf o.kind := by
  unfold lineOf parts
  rw [if_neg (by omega), if_neg (by omega), if_neg (by omega), Lib.join_one]
end Go.Proofs.YtgpkekdbohdbfaaDoor.AmS
