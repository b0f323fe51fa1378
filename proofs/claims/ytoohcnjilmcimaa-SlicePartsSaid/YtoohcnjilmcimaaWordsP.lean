/- The plain law of lines and words: byte by byte and line by line they are the same. No program in sight. -/
import Derived.Lib.Fields
import Derived.Lib.IndexMore
namespace Go.Proofs.Ytoohcnjilmcimaa.AmW
abbrev Bytes := List UInt8

def fineC (c : UInt8) : Bool := 32 ≤ c && c ≤ 126
def fineB (l : Bytes) : Bool := l.all fineC

def lines : Bytes → List Bytes
  | [] => [[]]
  | b :: t => if b = 10 then [] :: lines t else
    match lines t with
    | [] => [[b]]
    | l :: r => (b :: l) :: r

theorem lines_ne (s : Bytes) : lines s ≠ [] := by
  induction s with
  | nil => simp [lines]
  | cons b t ih =>
    unfold lines
    split
    · simp
    · split <;> simp

/-- what stands ahead of a remark -/
def body : Bytes → Bytes
  | [] => []
  | b :: t => if b = 35 then [] else b :: body t

inductive Res where
  | bad (n : Nat)
  | ok (l : List (Nat × List Bytes))

def add (acc : List (Nat × List Bytes)) (n : Nat) (row : List Bytes) : List (Nat × List Bytes) :=
  if row = [] then acc else acc ++ [(n, row)]

/-- the program's way: line by line -/
def goSplit (acc : List (Nat × List Bytes)) (n : Nat) : List Bytes → Res
  | [] => .ok acc
  | l :: r => if fineB (body l) then goSplit (add acc n (Lib.fields (body l))) (n + 1) r else .bad n

def flush (row : List Bytes) (word : Bytes) (c : Bool) : List Bytes × Bytes :=
  if word ≠ [] ∧ c = true then (row ++ [word], []) else (row, word)

/-- the reference's way: byte by byte -/
def refGo (acc : List (Nat × List Bytes)) (row : List Bytes) (word : Bytes) (remark : Bool) (n : Nat) : Bytes → Res
  | [] => .ok (add acc n (flush row word true).1)
  | b :: t =>
    let f := flush row word (b == 10 || remark || b == 32 || b == 35)
    if b = 10 then refGo (add acc n f.1) [] f.2 false (n + 1) t
    else if remark = true ∨ b = 32 then refGo acc f.1 f.2 remark n t
    else if b = 35 then refGo acc f.1 f.2 true n t
    else if b < 33 ∨ 126 < b then .bad n
    else refGo acc f.1 (f.2 ++ [b]) remark n t

/-- what is still to come of the line that is under way -/
def rest (acc : List (Nat × List Bytes)) (row : List Bytes) (word : Bytes) (remark : Bool) (n : Nat) : List Bytes → Res
  | [] => .ok acc
  | l :: r =>
    let m := if remark then [] else body l
    if fineB m then goSplit (add acc n (row ++ Lib.fieldsGo word m)) (n + 1) r else .bad n

theorem rest_start (acc : List (Nat × List Bytes)) (n : Nat) (l : List Bytes) : rest acc [] [] false n l = goSplit acc n l := by
  cases l with
  | nil => rfl
  | cons l r => simp [rest, goSplit, Lib.fields]

theorem isSp_fine {b : UInt8} (h : fineC b = true) : Lib.isSp b = (b == 32) := by
  unfold fineC at h
  unfold Lib.isSp
  simp only [Bool.and_eq_true, decide_eq_true_eq, UInt8.le_iff_toNat_le] at h
  have e : ∀ k : UInt8, k.toNat < 32 → (b == k) = false := by
    intro k hk
    rw [beq_eq_false_iff_ne]; rintro rfl
    have h1 := h.1
    have : (32 : UInt8).toNat = 32 := rfl
    omega
  rw [e 9 (by decide), e 10 (by decide), e 11 (by decide), e 12 (by decide), e 13 (by decide)]
  simp

theorem fieldsGo_nil_ (w : Bytes) : Lib.fieldsGo w [] = if w = [] then [] else [w] := by
  cases w <;> simp [Lib.fieldsGo]

theorem refGo_eq (s : Bytes) : ∀ (acc : List (Nat × List Bytes)) (row : List Bytes) (word : Bytes) (remark : Bool) (n : Nat),
    (remark = true → word = []) → refGo acc row word remark n s = rest acc row word remark n (lines s) := by
  induction s with
  | nil =>
    intro acc row word remark n hr
    unfold refGo lines rest
    have hm : (if remark then ([] : Bytes) else body []) = [] := by cases remark <;> rfl
    simp only [hm, fineB, List.all_nil, if_true, goSplit, fieldsGo_nil_, flush]
    by_cases h : word = [] <;> simp [h]
  | cons b t ih =>
    intro acc row word remark n hr
    unfold refGo
    simp only
    by_cases h10 : b = 10
    · subst h10
      have hl : lines (10 :: t) = [] :: lines t := by rw [lines, if_pos rfl]
      rw [hl, if_pos rfl]
      unfold rest
      have hm : (if remark then ([] : Bytes) else body []) = [] := by cases remark <;> rfl
      simp only [hm, fineB, List.all_nil, if_true, fieldsGo_nil_, flush]
      by_cases h : word = []
      · simp only [h]
        simp
        rw [ih _ _ _ _ _ (by simp), rest_start]
      · simp [h]
        rw [ih _ _ _ _ _ (by simp), rest_start]
    · rw [if_neg h10]
      obtain ⟨l, r, hl⟩ : ∃ l r, lines t = l :: r := by
        cases hh : lines t with
        | nil => exact absurd hh (lines_ne t)
        | cons l r => exact ⟨l, r, rfl⟩
      have hl' : lines (b :: t) = (b :: l) :: r := by
        conv => lhs; unfold lines
        rw [if_neg h10, hl]
      rw [hl']
      cases remark with
      | true =>
        have hw := hr rfl
        subst hw
        simp only [true_or, if_true]
        rw [ih _ _ _ _ _ (by simp [flush]), hl]
        simp [rest, flush]
      | false =>
        simp only [Bool.false_eq_true, false_or]
        by_cases h32 : b = 32
        · subst h32
          rw [if_pos rfl, ih _ _ _ _ _ (by simp), hl]
          unfold rest
          have hb : body (32 :: l) = 32 :: body l := by
            conv => lhs; unfold body
            rw [if_neg (by decide)]
          simp only [Bool.false_eq_true, if_false, hb]
          have hf : fineB (32 :: body l) = fineB (body l) := by simp [fineB, fineC]
          rw [hf]
          have hfg : (flush row word ((32 : UInt8) == 10 || false || (32 : UInt8) == 32 || (32 : UInt8) == 35)).1 ++ Lib.fieldsGo (flush row word ((32 : UInt8) == 10 || false || (32 : UInt8) == 32 || (32 : UInt8) == 35)).2 (body l) = row ++ Lib.fieldsGo word (32 :: body l) := by
            by_cases h : word = []
            · subst h
              simp [flush, Lib.fieldsGo_sp 32 _ (by decide)]
            · rw [Lib.fieldsGo_end word 32 _ (by decide) h]
              simp [flush, h]
          rw [hfg]
        · rw [if_neg h32]
          by_cases h35 : b = 35
          · subst h35
            rw [if_pos rfl, ih _ _ _ _ _ (by intro _; simp only [flush]; split <;> simp_all), hl]
            unfold rest
            have hb : body (35 :: l) = [] := by unfold body; simp
            simp only [if_true, hb, Bool.false_eq_true, if_false]
            simp only [fineB, List.all_nil, if_true, fieldsGo_nil_, flush]
            by_cases h : word = [] <;> simp [h]
          · rw [if_neg h35]
            have hb : body (b :: l) = b :: body l := by
              conv => lhs; unfold body
              rw [if_neg h35]
            have hfl : flush row word (b == 10 || false || b == 32 || b == 35) = (row, word) := by
              have e1 : (b == 10) = false := by simpa using h10
              have e2 : (b == 32) = false := by simpa using h32
              have e3 : (b == 35) = false := by simpa using h35
              simp [flush, e1, e2, e3]
            rw [hfl]
            have hfin : fineC b = false ↔ (b < 33 ∨ 126 < b) := by
              unfold fineC
              have h32' : b.toNat ≠ 32 := fun e => h32 (by apply UInt8.toNat_inj.1; simpa using e)
              simp only [Bool.and_eq_false_iff, decide_eq_false_iff_not, UInt8.le_iff_toNat_le, UInt8.lt_iff_toNat_lt]
              have : (33 : UInt8).toNat = 33 := rfl
              have : (32 : UInt8).toNat = 32 := rfl
              have : (126 : UInt8).toNat = 126 := rfl
              omega
            by_cases hbad : b < 33 ∨ 126 < b
            · rw [if_pos hbad]
              unfold rest
              have := hfin.2 hbad
              simp [hb, fineB, this]
            · rw [if_neg hbad, ih _ _ _ _ _ (by simp), hl]
              have hg : fineC b = true := by
                cases hh : fineC b with
                | true => rfl
                | false => exact absurd (hfin.1 hh) hbad
              have hns : Lib.isSp b = false := by rw [isSp_fine hg]; simpa using h32
              unfold rest
              simp only [Bool.false_eq_true, if_false, hb]
              rw [Lib.fieldsGo_more word b _ hns]
              simp [fineB, hg]

theorem ref_eq (s : Bytes) : refGo [] [] [] false 1 s = goSplit [] 1 (lines s) := by
  rw [refGo_eq _ _ _ _ _ _ (by simp), rest_start]

/-! the reference's steps -/
def fl (row : List Bytes) (word : Bytes) : List Bytes := if word = [] then row else row ++ [word]
theorem flush_true (row : List Bytes) (word : Bytes) : flush row word true = (fl row word, []) := by
  unfold flush fl
  by_cases h : word = [] <;> simp [h]
theorem refGo_end (acc : List (Nat × List Bytes)) (row : List Bytes) (word : Bytes) (remark : Bool) (n : Nat) : refGo acc row word remark n [] = .ok (add acc n (fl row word)) := by
  rw [refGo, flush_true]
theorem refGo_nl (acc : List (Nat × List Bytes)) (row : List Bytes) (word : Bytes) (remark : Bool) (n : Nat) (t : Bytes) :
    refGo acc row word remark n (10 :: t) = refGo (add acc n (fl row word)) [] [] false (n + 1) t := by
  rw [refGo]
  have : ((10 : UInt8) == 10 || remark || (10 : UInt8) == 32 || (10 : UInt8) == 35) = true := by simp
  simp only [this, flush_true, if_true]
theorem refGo_skip (acc : List (Nat × List Bytes)) (row : List Bytes) (word : Bytes) (remark : Bool) (n : Nat) (b : UInt8) (t : Bytes) (h : b ≠ 10) (h2 : remark = true ∨ b = 32) :
    refGo acc row word remark n (b :: t) = refGo acc (fl row word) [] remark n t := by
  rw [refGo]
  have : (b == 10 || remark || b == 32 || b == 35) = true := by
    rcases h2 with h2 | h2 <;> simp [h2]
  simp only [this, flush_true]
  rw [if_neg h, if_pos h2]
theorem refGo_hash (acc : List (Nat × List Bytes)) (row : List Bytes) (word : Bytes) (n : Nat) (t : Bytes) :
    refGo acc row word false n (35 :: t) = refGo acc (fl row word) [] true n t := by
  rw [refGo]
  have : ((35 : UInt8) == 10 || false || (35 : UInt8) == 32 || (35 : UInt8) == 35) = true := by simp
  simp only [this, flush_true]
  rw [if_neg (by decide), if_neg (by simp), if_pos trivial]
theorem refGo_bad (acc : List (Nat × List Bytes)) (row : List Bytes) (word : Bytes) (n : Nat) (b : UInt8) (t : Bytes) (h1 : b ≠ 10) (h2 : b ≠ 32) (h3 : b ≠ 35) (h : b < 33 ∨ 126 < b) :
    refGo acc row word false n (b :: t) = .bad n := by
  rw [refGo]
  rw [if_neg h1, if_neg (by simp [h2]), if_neg h3, if_pos h]
theorem refGo_more (acc : List (Nat × List Bytes)) (row : List Bytes) (word : Bytes) (n : Nat) (b : UInt8) (t : Bytes) (h1 : b ≠ 10) (h2 : b ≠ 32) (h3 : b ≠ 35) (h : ¬ (b < 33 ∨ 126 < b)) :
    refGo acc row word false n (b :: t) = refGo acc row (word ++ [b]) false n t := by
  rw [refGo]
  have e1 : (b == 10) = false := by simpa using h1
  have e2 : (b == 32) = false := by simpa using h2
  have e3 : (b == 35) = false := by simpa using h3
  simp only [e1, e2, e3, Bool.or_false, flush]
  rw [if_neg h1, if_neg (by simp [h2]), if_neg h3, if_neg h]
  simp

end Go.Proofs.Ytoohcnjilmcimaa.AmW
