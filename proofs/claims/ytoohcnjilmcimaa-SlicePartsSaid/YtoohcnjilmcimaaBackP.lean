/- The plain law of lines, joined and split again; and of figures of base 16, read again. No program in sight. -/
import Derived.Test.YtoohcnjilmcimaaWordsL
import Derived.Test.YtoohcnjilmcimaaRemarksP
import Derived.Lib.Join
namespace Go.Proofs.Ytoohcnjilmcimaa.AmW
open Go

def joined (L : List (Nat × List Bytes)) : Bytes := (L.map fun p => Lib.join p.2 [32] ++ [10]).flatten
def renum : Nat → List (Nat × List Bytes) → List (Nat × List Bytes)
  | _, [] => []
  | n, p :: r => (n, p.2) :: renum (n + 1) r
def goodC (c : UInt8) : Prop := fineC c = true ∧ c ≠ 32 ∧ c ≠ 35
def goodW (x : Bytes) : Prop := x ≠ [] ∧ ∀ b ∈ x, goodC b

theorem goodC_sp {c : UInt8} (h : goodC c) : Lib.isSp c = false := by
  rw [isSp_fine h.1]; simpa using h.2.1
theorem goodC_nl {c : UInt8} (h : goodC c) : c ≠ 10 := by
  rintro rfl
  have := h.1
  revert this; decide

theorem fieldsGo_good : ∀ (l cur : Bytes), (∀ b ∈ cur, goodC b) → (∀ b ∈ l, fineC b = true ∧ b ≠ 35) → ∀ x ∈ Lib.fieldsGo cur l, goodW x
  | [], cur, hc, _, x, hx => by
    rw [fieldsGo_nil_] at hx
    split at hx
    · cases hx
    · next hne =>
      obtain rfl : x = cur := by simpa using hx
      exact ⟨hne, hc⟩
  | b :: l, cur, hc, hl, x, hx => by
    have hb := hl b (by simp)
    have hl' : ∀ b ∈ l, fineC b = true ∧ b ≠ 35 := fun c h => hl c (List.mem_cons_of_mem _ h)
    cases hs : Lib.isSp b with
    | true =>
      rw [Lib.fieldsGo, hs] at hx
      simp only [if_true] at hx
      split at hx
      · exact fieldsGo_good l [] (by simp) hl' x hx
      · next hne =>
        rcases List.mem_cons.1 hx with rfl | hx
        · exact ⟨by simpa using hne, hc⟩
        · exact fieldsGo_good l [] (by simp) hl' x hx
    | false =>
      rw [Lib.fieldsGo, hs] at hx
      simp only [Bool.false_eq_true, if_false] at hx
      refine fieldsGo_good l (cur ++ [b]) (fun c h => ?_) hl' x hx
      rcases List.mem_append.1 h with h | h
      · exact hc c h
      · obtain rfl : c = b := by simpa using h
        rw [isSp_fine hb.1] at hs
        exact ⟨hb.1, by simpa using hs, hb.2⟩
theorem body_no35 : ∀ (l : Bytes), ∀ b ∈ body l, b ≠ 35
  | [], b, h => by cases h
  | c :: t, b, h => by
    unfold body at h
    split at h
    · cases h
    · rcases List.mem_cons.1 h with rfl | h
      · assumption
      · exact body_no35 t b h
theorem fields_good (l : Bytes) (h : fineB (body l) = true) : ∀ x ∈ Lib.fields (body l), goodW x := by
  refine fieldsGo_good (body l) [] (by simp) (fun b hb => ⟨?_, body_no35 l b hb⟩)
  unfold fineB at h
  exact List.all_eq_true.1 h b hb
/-- what the lines that were split are made of -/
theorem goSplit_good : ∀ (ls : List Bytes) (acc : List (Nat × List Bytes)) (n : Nat) (L : List (Nat × List Bytes)), goSplit acc n ls = .ok L →
    (∀ p ∈ acc, p.2 ≠ [] ∧ ∀ x ∈ p.2, goodW x) → ∀ p ∈ L, p.2 ≠ [] ∧ ∀ x ∈ p.2, goodW x
  | [], acc, n, L, h, ha => by
    simp only [goSplit, Res.ok.injEq] at h
    subst h
    exact ha
  | l :: r, acc, n, L, h, ha => by
    rw [goSplit_step] at h
    split at h
    · next hf =>
      refine goSplit_good r _ _ L h (fun p hp => ?_)
      unfold add at hp
      split at hp
      · exact ha p hp
      · next hne =>
        rcases List.mem_append.1 hp with hp | hp
        · exact ha p hp
        · obtain rfl : p = (n, Lib.fields (body l)) := by simpa using hp
          exact ⟨hne, fields_good l hf⟩
    · cases h

theorem join_cons2 (x y : Bytes) (r : List Bytes) : Lib.join (x :: y :: r) [32] = x ++ 32 :: Lib.join (y :: r) [32] := by
  rw [Lib.join_cons, Lib.join_cons]
  simp [Lib.joinTail]
theorem join_mem : ∀ (r : List Bytes), ∀ b ∈ Lib.join r [32], b = 32 ∨ ∃ x ∈ r, b ∈ x
  | [], b, h => by cases h
  | [x], b, h => by rw [Lib.join_one] at h; exact .inr ⟨x, by simp, h⟩
  | x :: y :: r, b, h => by
    rw [join_cons2] at h
    rcases List.mem_append.1 h with h | h
    · exact .inr ⟨x, by simp, h⟩
    · rcases List.mem_cons.1 h with h | h
      · exact .inl h
      · rcases join_mem (y :: r) b h with h | ⟨z, hz, hb⟩
        · exact .inl h
        · exact .inr ⟨z, List.mem_cons_of_mem _ hz, hb⟩

theorem fieldsGo_word : ∀ (x cur t : Bytes), (∀ b ∈ x, goodC b) → Lib.fieldsGo cur (x ++ t) = Lib.fieldsGo (cur ++ x) t
  | [], cur, t, _ => by simp
  | b :: x, cur, t, h => by
    rw [List.cons_append, Lib.fieldsGo_more cur b _ (goodC_sp (h b (by simp))), fieldsGo_word x _ t (fun c hc => h c (List.mem_cons_of_mem _ hc))]
    simp
theorem fields_join : ∀ (r : List Bytes), (∀ x ∈ r, goodW x) → Lib.fields (Lib.join r [32]) = r
  | [], _ => rfl
  | [x], h => by
    have hx := h x (by simp)
    rw [Lib.join_one]
    unfold Lib.fields
    have := fieldsGo_word x [] [] hx.2
    rw [List.append_nil, List.nil_append] at this
    rw [this, fieldsGo_nil_, if_neg hx.1]
  | x :: y :: r, h => by
    have hx := h x (by simp)
    rw [join_cons2]
    unfold Lib.fields
    rw [fieldsGo_word x [] _ hx.2, List.nil_append, Lib.fieldsGo_end x 32 _ (by decide) hx.1]
    have ih := fields_join (y :: r) (fun z hz => h z (List.mem_cons_of_mem _ hz))
    unfold Lib.fields at ih
    rw [ih]
theorem join_good {r : List Bytes} (h : ∀ x ∈ r, goodW x) : ∀ b ∈ Lib.join r [32], fineC b = true ∧ b ≠ 35 ∧ b ≠ 10 := by
  intro b hb
  rcases join_mem r b hb with rfl | ⟨x, hx, hbx⟩
  · exact ⟨by decide, by decide, by decide⟩
  · have := (h x hx).2 b hbx
    exact ⟨this.1, this.2.2, goodC_nl this⟩
theorem body_same : ∀ (l : Bytes), (∀ b ∈ l, b ≠ 35) → body l = l
  | [], _ => rfl
  | b :: t, h => by
    unfold body
    rw [if_neg (h b (by simp)), body_same t (fun c hc => h c (List.mem_cons_of_mem _ hc))]
theorem lines_joined : ∀ (L : List (Nat × List Bytes)), (∀ p ∈ L, ∀ x ∈ p.2, goodW x) → lines (joined L) = L.map (fun p => Lib.join p.2 [32]) ++ [[]]
  | [], _ => rfl
  | p :: L, h => by
    have e : joined (p :: L) = Lib.join p.2 [32] ++ 10 :: joined L := by simp [joined]
    rw [e, lines_first _ (fun b hb => (join_good (h p (by simp)) b hb).2.2), lines_joined L (fun q hq => h q (List.mem_cons_of_mem _ hq))]
    simp
theorem goSplit_joined : ∀ (L acc : List (Nat × List Bytes)) (n : Nat), (∀ p ∈ L, p.2 ≠ [] ∧ ∀ x ∈ p.2, goodW x) →
    goSplit acc n (L.map (fun p => Lib.join p.2 [32]) ++ [[]]) = .ok (acc ++ renum n L)
  | [], acc, n, _ => by
    show goSplit acc n [[]] = _
    rw [goSplit_step]
    rw [if_pos (by decide)]
    simp [goSplit, renum, body, Lib.fields, Lib.fieldsGo, add]
  | p :: L, acc, n, h => by
    obtain ⟨hne, hp⟩ := h p (by simp)
    have hj := join_good hp
    rw [List.map_cons, List.cons_append, goSplit_step, body_same _ (fun b hb => (hj b hb).2.1)]
    rw [if_pos (by unfold fineB; exact List.all_eq_true.2 fun b hb => (hj b hb).1), fields_join _ hp, add, if_neg hne]
    rw [goSplit_joined L _ _ (fun q hq => h q (List.mem_cons_of_mem _ hq))]
    simp [renum]
/-- lines, joined, are split into their words -/
theorem split_joined {s : Bytes} {L : List (Nat × List Bytes)} (h : goSplit [] 1 (lines s) = .ok L) : goSplit [] 1 (lines (joined L)) = .ok (renum 1 L) := by
  have hg := goSplit_good _ _ _ _ h (by simp)
  rw [lines_joined L (fun p hp => (hg p hp).2), goSplit_joined L [] 1 hg]
  simp

theorem lines_sum (s : Bytes) : ((lines s).map (fun l => l.length + 1)).sum = s.length + 1 := by
  induction s with
  | nil => rfl
  | cons b t ih =>
    unfold lines
    split
    · simp [ih]; omega
    · split
      · next h => exact absurd h (lines_ne t)
      · next l r h => rw [h] at ih; simp at ih ⊢; omega
theorem fieldsGo_len : ∀ (l cur : Bytes), (Lib.join (Lib.fieldsGo cur l) [32]).length ≤ cur.length + l.length
  | [], cur => by
    rw [fieldsGo_nil_]
    split
    · simp [Lib.join_nil]
    · simp [Lib.join_one]
  | b :: l, cur => by
    cases hs : Lib.isSp b with
    | true =>
      have ih := fieldsGo_len l []
      by_cases hc : cur = []
      · subst hc
        rw [Lib.fieldsGo_sp b l hs]
        simp at ih ⊢; omega
      · rw [Lib.fieldsGo_end cur b l hs hc]
        cases hf : Lib.fieldsGo [] l with
        | nil => simp [Lib.join_one]
        | cons y r =>
          rw [hf] at ih
          rw [join_cons2]
          simp at ih ⊢; omega
    | false =>
      rw [Lib.fieldsGo_more cur b l hs]
      have ih := fieldsGo_len l (cur ++ [b])
      simp at ih ⊢; omega
theorem joined_append (a b : List (Nat × List Bytes)) : joined (a ++ b) = joined a ++ joined b := by simp [joined]
theorem goSplit_len : ∀ (ls : List Bytes) (acc : List (Nat × List Bytes)) (n : Nat) (L : List (Nat × List Bytes)), goSplit acc n ls = .ok L →
    (joined L).length ≤ (joined acc).length + (ls.map (fun l => l.length + 1)).sum
  | [], acc, n, L, h => by
    simp only [goSplit, Res.ok.injEq] at h
    subst h
    simp
  | l :: r, acc, n, L, h => by
    rw [goSplit_step] at h
    split at h
    · have ih := goSplit_len r _ _ L h
      have hb := body_length l
      have hf := fieldsGo_len (body l) []
      have ha : (joined (add acc n (Lib.fields (body l)))).length ≤ (joined acc).length + (l.length + 1) := by
        unfold add
        split
        · omega
        · rw [joined_append, List.length_append]
          unfold Lib.fields
          simp [joined] at hf ⊢; omega
      simp only [List.map_cons, List.sum_cons]
      omega
    · cases h
theorem joined_len {s : Bytes} {L : List (Nat × List Bytes)} (h : goSplit [] 1 (lines s) = .ok L) : (joined L).length ≤ s.length + 1 := by
  have := goSplit_len _ _ _ _ h
  rw [lines_sum] at this
  simpa [joined] using this
theorem renum_length : ∀ (L : List (Nat × List Bytes)) (n : Nat), (renum n L).length = L.length
  | [], _ => rfl
  | p :: L, n => by simp [renum, renum_length L]
theorem renum_at : ∀ (L : List (Nat × List Bytes)) (n i : Nat) (p : Nat × List Bytes), L[i]? = some p → (renum n L)[i]? = some (n + i, p.2)
  | [], _, _, _, h => by cases h
  | q :: L, n, 0, p, h => by
    obtain rfl : q = p := by simpa using h
    simp [renum]
  | q :: L, n, i + 1, p, h => by
    have := renum_at L (n + 1) i p (by simpa using h)
    rw [renum, List.getElem?_cons_succ, this]
    congr 2; omega
end Go.Proofs.Ytoohcnjilmcimaa.AmW
