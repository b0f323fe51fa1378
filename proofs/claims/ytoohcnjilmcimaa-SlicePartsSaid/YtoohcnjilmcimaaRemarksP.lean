/- The plain law of remarks: a remark's line, a blank line and a remark behind change no word. No program in sight. -/
import Derived.Test.YtoohcnjilmcimaaWordsP
namespace Go.Proofs.Ytoohcnjilmcimaa.AmW

/-- a tail without a line's end stands behind the last line -/
def behind (t : Bytes) : List Bytes → List Bytes
  | [] => []
  | [l] => [l ++ t]
  | l :: m :: r => l :: behind t (m :: r)
theorem behind_cons (t l : Bytes) (ls : List Bytes) (h : ls ≠ []) : behind t (l :: ls) = l :: behind t ls := by
  cases ls with
  | nil => exact absurd rfl h
  | cons m r => rfl
theorem lines_one (t : Bytes) (h : ∀ b ∈ t, b ≠ 10) : lines t = [t] := by
  induction t with
  | nil => rfl
  | cons b t ih =>
    have hb := h b (by simp)
    unfold lines
    rw [if_neg hb, ih fun x hx => h x (by simp [hx])]
theorem lines_behind (t : Bytes) (h : ∀ b ∈ t, b ≠ 10) (s : Bytes) : lines (s ++ t) = behind t (lines s) := by
  induction s with
  | nil => simp only [List.nil_append, lines_one t h, lines, behind]
  | cons b s ih =>
    by_cases hb : b = 10
    · subst hb
      rw [List.cons_append, lines, if_pos rfl, ih]
      conv => rhs; rw [lines, if_pos rfl]
      rw [behind_cons _ _ _ (lines_ne s)]
    · rw [List.cons_append, lines, if_neg hb, ih]
      conv => rhs; rw [lines, if_neg hb]
      obtain ⟨l, r, hl⟩ : ∃ l r, lines s = l :: r := by
        cases hh : lines s with
        | nil => exact absurd hh (lines_ne s)
        | cons l r => exact ⟨l, r, rfl⟩
      rw [hl]
      cases r with
      | nil => simp [behind]
      | cons m r => simp [behind]
theorem lines_first (p : Bytes) (hp : ∀ b ∈ p, b ≠ 10) (s : Bytes) : lines (p ++ 10 :: s) = p :: lines s := by
  induction p with
  | nil => simp [lines]
  | cons b p ih =>
    rw [List.cons_append, lines, if_neg (hp b (by simp)), ih fun x hx => hp x (by simp [hx])]

theorem fieldsGo_blank (x : Bytes) : ∀ w, Lib.fieldsGo w (x ++ [32]) = Lib.fieldsGo w x := by
  induction x with
  | nil =>
    intro w
    by_cases h : w = []
    · subst h; rw [List.nil_append, Lib.fieldsGo_sp 32 _ (by decide)]
    · rw [List.nil_append, Lib.fieldsGo_end w 32 _ (by decide) h, fieldsGo_nil_, fieldsGo_nil_]; simp [h]
  | cons b x ih =>
    intro w
    rw [List.cons_append]
    by_cases hs : Lib.isSp b = true
    · by_cases h : w = []
      · subst h; rw [Lib.fieldsGo_sp b _ hs, Lib.fieldsGo_sp b _ hs, ih]
      · rw [Lib.fieldsGo_end w b _ hs h, Lib.fieldsGo_end w b _ hs h, ih]
    · have hs' : Lib.isSp b = false := by simpa using hs
      rw [Lib.fieldsGo_more w b _ hs', Lib.fieldsGo_more w b _ hs', ih]
theorem body_behind (r l : Bytes) : body (l ++ 32 :: 35 :: r) = body l ∨ body (l ++ 32 :: 35 :: r) = body l ++ [32] := by
  induction l with
  | nil => right; simp [body]
  | cons b l ih =>
    rw [List.cons_append]
    unfold body
    by_cases h : b = 35
    · left; simp [h]
    · simp only [if_neg h]
      rcases ih with ih | ih
      · left; rw [ih]
      · right; rw [ih]; rfl
theorem goSplit_behind (r : Bytes) : ∀ (ls : List Bytes) (acc : List (Nat × List Bytes)) (n : Nat), goSplit acc n (behind (32 :: 35 :: r) ls) = goSplit acc n ls
  | [], acc, n => rfl
  | [l], acc, n => by
    simp only [behind, goSplit]
    have hf : fineB (body (l ++ 32 :: 35 :: r)) = fineB (body l) := by
      rcases body_behind r l with e | e <;> rw [e]
      simp [fineB, fineC]
    have hw : Lib.fields (body (l ++ 32 :: 35 :: r)) = Lib.fields (body l) := by
      rcases body_behind r l with e | e <;> rw [e]
      exact fieldsGo_blank _ _
    rw [hf, hw]
  | l :: m :: ls, acc, n => by
    rw [behind, goSplit]
    conv => rhs; rw [goSplit]
    simp only [goSplit_behind r (m :: ls)]

def up (p : Nat × List Bytes) : Nat × List Bytes := (p.1 + 2, p.2)
def Res.up : Res → Res
  | .bad n => .bad (n + 2)
  | .ok l => .ok (l.map AmW.up)
theorem add_up (acc : List (Nat × List Bytes)) (n : Nat) (row : List Bytes) : add (acc.map up) (n + 2) row = (add acc n row).map up := by
  unfold add
  split <;> simp [up]
theorem goSplit_up : ∀ (ls : List Bytes) (acc : List (Nat × List Bytes)) (n : Nat), goSplit (acc.map up) (n + 2) ls = (goSplit acc n ls).up
  | [], acc, n => rfl
  | l :: r, acc, n => by
    rw [goSplit]
    conv => rhs; rw [goSplit]
    split
    · rw [add_up]; exact goSplit_up r _ (n + 1)
    · rfl

/-- the text with remarks, and a blank line -/
def remarked (r s : Bytes) : Bytes := 35 :: (r ++ ([10, 32, 32, 32, 10] ++ (s ++ (32 :: 35 :: r))))
theorem remarked_split (r s : Bytes) (hr : ∀ b ∈ r, b ≠ 10) : goSplit [] 1 (lines (remarked r s)) = (goSplit [] 1 (lines s)).up := by
  have e : lines (remarked r s) = (35 :: r) :: [32, 32, 32] :: behind (32 :: 35 :: r) (lines s) := by
    have e1 : remarked r s = (35 :: r) ++ 10 :: ([32, 32, 32] ++ 10 :: (s ++ (32 :: 35 :: r))) := by simp [remarked]
    have n1 : ∀ b ∈ (35 :: r : Bytes), b ≠ 10 := by
      intro b hb
      rcases List.mem_cons.1 hb with h | h
      · rw [h]; decide
      · exact hr b h
    have n2 : ∀ b ∈ (32 :: 35 :: r : Bytes), b ≠ 10 := by
      intro b hb
      rcases List.mem_cons.1 hb with h | h
      · rw [h]; decide
      · exact n1 b h
    rw [e1, lines_first _ n1, lines_first _ (by decide), lines_behind _ n2]
  rw [e, goSplit]
  have b1 : body (35 :: r) = [] := by simp [body]
  rw [b1]
  simp only [show fineB [] = true from rfl, if_true]
  rw [goSplit]
  have b2 : body [32, 32, 32] = [32, 32, 32] := by decide
  rw [b2]
  simp only [show fineB [32, 32, 32] = true from rfl, if_true]
  have f1 : Lib.fields ([] : Bytes) = [] := rfl
  have f2 : Lib.fields ([32, 32, 32] : Bytes) = [] := rfl
  rw [f1, f2]
  simp only [add, if_true]
  rw [goSplit_behind]
  exact goSplit_up (lines s) [] 1
end Go.Proofs.Ytoohcnjilmcimaa.AmW
