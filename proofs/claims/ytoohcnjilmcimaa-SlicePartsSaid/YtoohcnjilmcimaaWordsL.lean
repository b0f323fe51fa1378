/- The lines of a text, as strings.Split and strings.Cut give them. No program in sight. -/
import Derived.Test.YtoohcnjilmcimaaWordsP
import Derived.Lib.SplitLaws
import Derived.Lib.CutLaws
namespace Go.Proofs.Ytoohcnjilmcimaa.AmW
open Go

theorem index_one_cons (b c : UInt8) (l : Bytes) : Lib.index (b :: l) [c] = if b = c then 0 else if Lib.index l [c] = -1 then -1 else Lib.index l [c] + 1 := by
  rw [Lib.index]
  by_cases h : b = c
  · subst h; simp
  · have : ([c].isPrefixOf (b :: l)) = false := by simp [List.isPrefixOf]; exact fun e => h e.symm
    rw [this, if_neg (by simp), if_neg h]
    by_cases h2 : Lib.index l [c] = -1 <;> simp [h2]
theorem index_one_ge (c : UInt8) : ∀ l : Bytes, -1 ≤ Lib.index l [c]
  | [] => by simp [Lib.index]
  | b :: l => by
    have := index_one_ge c l
    rw [index_one_cons]
    split
    · omega
    · split <;> omega

theorem body_cut (l : Bytes) : (Lib.cut l [35]).1 = body l := by
  unfold Lib.cut
  induction l with
  | nil => simp [Lib.index, body]
  | cons b t ih =>
    have hge := index_one_ge 35 t
    rw [index_one_cons]
    unfold body
    by_cases h : b = 35
    · simp [h]
    · rw [if_neg h, if_neg h]
      by_cases h2 : Lib.index t [35] = -1
      · rw [if_pos h2, if_neg (by omega)]
        rw [if_neg (by omega)] at ih
        simp only at ih ⊢
        rw [← ih]
      · rw [if_neg h2, if_pos (by omega)]
        rw [if_pos (by omega)] at ih
        simp only at ih ⊢
        have e : (Lib.index t [35] + 1).toNat = (Lib.index t [35]).toNat + 1 := by omega
        rw [e, List.take_succ_cons, ih]

theorem lines_index (l : Bytes) : (Lib.index l [10] = -1 → lines l = [l]) ∧ (∀ i : Nat, Lib.index l [10] = (i : Int) → lines l = l.take i :: lines (l.drop (i + 1))) := by
  induction l with
  | nil => simp [Lib.index, lines]
  | cons b t ih =>
    have hge := index_one_ge 10 t
    rw [index_one_cons]
    by_cases h : b = 10
    · subst h
      refine ⟨fun e => by simp at e, fun i e => ?_⟩
      rw [if_pos rfl] at e
      obtain rfl : i = 0 := by omega
      simp [lines]
    · rw [if_neg h]
      by_cases h2 : Lib.index t [10] = -1
      · rw [if_pos h2]
        refine ⟨fun _ => ?_, fun i e => by omega⟩
        rw [lines, if_neg h, ih.1 h2]
      · rw [if_neg h2]
        refine ⟨fun e => by omega, fun i e => ?_⟩
        obtain ⟨j, rfl⟩ : ∃ j, i = j + 1 := ⟨i - 1, by omega⟩
        rw [lines, if_neg h, ih.2 j (by omega)]
        simp

theorem splitK_lines : ∀ (fuel : Nat) (l : Bytes), l.length < fuel → Lib.splitK [10] 0 (Lib.countFrom [10] fuel l) l = lines l
  | 0, l, h => by omega
  | fuel + 1, l, h => by
    rw [Lib.countFrom]
    by_cases hi : Lib.index l [10] = -1
    · simp only [hi, beq_self_eq_true, if_true, Lib.splitK]
      exact ((lines_index l).1 hi).symm
    · have hge := index_one_ge 10 l
      obtain ⟨i, hi'⟩ : ∃ i : Nat, Lib.index l [10] = (i : Int) := ⟨(Lib.index l [10]).toNat, by omega⟩
      have hb : (Lib.index l [10] == -1) = false := by simpa using hi
      rw [hb]
      simp only [Bool.false_eq_true, if_false]
      rw [Nat.add_comm, Lib.splitK, hb]
      simp only [Bool.false_eq_true, if_false]
      rw [(lines_index l).2 i hi']
      have e : (Lib.index l [10]).toNat = i := by omega
      have hroom := Lib.index_room l [10] (by omega)
      rw [e]
      have hl : (List.drop (i + ([10] : Bytes).length) l).length < fuel := by
        rw [List.length_drop]
        simp only [List.length_cons, List.length_nil] at hroom ⊢
        omega
      rw [splitK_lines fuel _ hl]
      simp

theorem split_lines (s : ByteArray) : (Lib.splitB ⟨#[10]⟩ 0 (Lib.countB s ⟨#[10]⟩) s).map (·.data.toList) = lines s.data.toList := by
  rw [Lib.splitB_data]
  show Lib.splitK [10] 0 (Lib.count s.data.toList [10]) s.data.toList = _
  exact splitK_lines _ _ (by omega)

theorem lines_length_le (l : Bytes) : (lines l).length ≤ l.length + 1 := by
  induction l with
  | nil => simp [lines]
  | cons b t ih =>
    unfold lines
    split
    · simp; exact ih
    · split
      · simp
      · next h => rw [h] at ih; simp at ih ⊢; omega
theorem lines_mem (l x : Bytes) (h : x ∈ lines l) : x.length ≤ l.length := by
  induction l generalizing x with
  | nil => simp [lines] at h; simp [h]
  | cons b t ih =>
    unfold lines at h
    split at h
    · rcases List.mem_cons.1 h with rfl | h
      · simp
      · have := ih x h; simp; omega
    · split at h
      · simp at h; simp [h]
      · next l0 r0 hl =>
        rcases List.mem_cons.1 h with rfl | h
        · have := ih l0 (by rw [hl]; simp)
          simp at this ⊢; omega
        · have := ih x (by rw [hl]; exact List.mem_cons_of_mem _ h)
          simp; omega
theorem body_length (l : Bytes) : (body l).length ≤ l.length := by
  induction l with
  | nil => simp [body]
  | cons b t ih =>
    unfold body
    split <;> simp
    exact ih
theorem fine_ascii {l : Bytes} (h : fineB l = true) (j : Nat) (b : UInt8) (hj : l[j]? = some b) : b.toNat < 128 := by
  unfold fineB at h
  rw [List.all_eq_true] at h
  have := h b (List.mem_of_getElem? hj)
  unfold fineC at this
  simp only [Bool.and_eq_true, decide_eq_true_eq, UInt8.le_iff_toNat_le] at this
  have e : (126 : UInt8).toNat = 126 := rfl
  omega

/-! the program's steps -/
/-- from line k on -/
theorem goSplit_step (acc : List (Nat × List Bytes)) (n : Nat) (l : Bytes) (r : List Bytes) : goSplit acc n (l :: r) = if fineB (body l) then goSplit (add acc n (Lib.fields (body l))) (n + 1) r else .bad n := rfl

theorem fields_length_le (l : Bytes) : (Lib.fields l).length ≤ l.length := by
  rw [Lib.fields_length]
  have H : ∀ (l : Bytes) (ws : Bool), Lib.cntF ws l ≤ l.length := by
    intro l
    induction l with
    | nil => intro ws; exact Nat.le_refl _
    | cons b t ih =>
      intro ws
      have := ih (Lib.isSp b)
      simp only [Lib.cntF, List.length_cons]
      split <;> omega
  exact H l true
end Go.Proofs.Ytoohcnjilmcimaa.AmW
