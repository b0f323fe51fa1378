/- amblerref32.Line by its contract. -/
import Derived.Test.YtgpkekdbohdbfaaDoorScribeA
import Derived.Test.YtgpkekdbohdbfaaDoorScribeP
import Derived.Test.YtgpkekdbohdbfaaDoorBackW
import Derived.Deep.RegionWith
import Derived.Deep.Cut
import Derived.Deep.CutRange
namespace Go.Proofs.YtgpkekdbohdbfaaDoor
open Go.RowKit AmS AmD

/-- the line, or an error's number -/
def RLinePost (w : World) (o : SOp) (e : Ending) (w' : World) : Prop :=
  (if rightB o then e = .returned (.tuple #[strV (lineOf o), .int .i64 0]) else e = .returned (.tuple #[.string ⟨#[]⟩, .int .i64 3])) ∧ Below w.heap.size w w'

set_option maxHeartbeats 1000000 in
theorem ref32_Line_not (o : SOp) (w : World) (h : rightB o = false) : Calls Tryd.prog 10 #[opV o] w (RLinePost w o) := by
  have HR := Lib.hid (fun (W : World) => by have := ref32_Right o W; rw [h] at this; exact this)
  have H := Lib.hid h
  unfold opV at HR ⊢
  clear h
  go_enter Tryd.func10, Tryd.ntmps10
  go_wp2_with fail
  refine (HR.out _).mono ?_
  rintro e w1 ⟨rfl, h1⟩
  have hb : Below w.heap.size w w1 := by rw [← h1]; exact ((Below.refl _ _).alloc (Nat.le_refl _) _).alloc ((Below.refl _ _).alloc (Nat.le_refl _) _).size _
  clear h1
  go_wp2
  go_ret2
  exact ⟨by rw [H.out]; rfl, hb⟩

theorem right_parts {o : SOp} (h : rightB o = true) : ∃ (k i : Nat), o.kind = k ∧ 1 ≤ k ∧ k ≤ 8 ∧ o.iter = i ∧ i ≤ 1000000 := by
  have hk := kinds8' (right_kind' h)
  have hi : 0 ≤ o.iter ∧ o.iter ≤ 1000000 := by
    unfold rightB at h
    simp only [Bool.and_eq_true, decide_eq_true_eq] at h
    exact ⟨h.1.1.1.1.2, h.1.1.1.2⟩
  obtain ⟨k, e1⟩ := Int.eq_ofNat_of_zero_le (show 0 ≤ o.kind by omega)
  obtain ⟨i, e2⟩ := Int.eq_ofNat_of_zero_le hi.1
  exact ⟨k, i, e1, by omega, by omega, e2, by omega⟩
/-- a text and no error -/
theorem ret_line {x : ByteArray} {l : List UInt8} (h : x.data.toList = l) : Ending.returned (.tuple #[.string x, .int .i64 0]) = .returned (.tuple #[strV l, .int .i64 0]) := by rw [← h, strV_data]
theorem str_eq {a b : ByteArray} (h : a.data.toList = b.data.toList) : a = b := by
  apply ByteArray.ext
  exact Array.toList_inj.1 h

set_option maxHeartbeats 2000000 in
set_option maxRecDepth 100000 in
theorem ref32_Line_right (o : SOp) (w : World) (h : rightB o = true) (hwf : opWf o) : Calls Tryd.prog 10 #[opV o] w (RLinePost w o) := by
  have HR := Lib.hid (fun (W : World) => by have := ref32_Right o W; rw [h] at this; exact this)
  have H := Lib.hid h
  obtain ⟨k, i, hk, hk1, hk8, hi, hi6⟩ := right_parts h
  obtain ⟨kind, key, val, hash, iter⟩ := o
  simp only at hk hi
  subst hk; subst hi
  obtain ⟨-, -, y2, y3, y4, y5, y6, y7, -, -⟩ := hwf
  simp only at y2 y3 y4 y5 y6 y7
  obtain ⟨n0, rfl⟩ := Int.eq_ofNat_of_zero_le y2
  obtain ⟨n1, rfl⟩ := Int.eq_ofNat_of_zero_le y4
  obtain ⟨n2, rfl⟩ := Int.eq_ofNat_of_zero_le y6
  have HX0 := Lib.hid (fun (W : World) => ref_Hex n0 (by omega) W)
  have HX1 := Lib.hid (fun (W : World) => ref_Hex n1 (by omega) W)
  have HX2 := Lib.hid (fun (W : World) => ref_Hex n2 (by omega) W)
  have HFi := Lib.hid (fun (W : World) => num_Figures i (by omega) W)
  have HW := Lib.hid (fun (W : World) => ref_Words W)
  have hnm : (names.map strV).toArray[k]? = some (.string ⟨(names.getD k []).toArray⟩) := names_cell k (by omega)
  obtain ⟨sw, hsw⟩ : ∃ sw : ByteArray, (⟨(names.getD k []).toArray⟩ : ByteArray) = sw := ⟨_, rfl⟩
  have hws : sw.size ≤ 10 := by
    rw [← hsw]
    have K : k = 1 ∨ k = 2 ∨ k = 3 ∨ k = 4 ∨ k = 5 ∨ k = 6 ∨ k = 7 ∨ k = 8 := by omega
    rcases K with rfl | rfl | rfl | rfl | rfl | rfl | rfl | rfl <;> decide
  rw [hsw] at hnm
  have HNm := Lib.hid hnm
  have HSW := Lib.hid hsw
  have hk9 : (k : Int) < 9 := by omega
  unfold opV at HR ⊢
  clear h hnm hsw y2 y3 y4 y5 y6 y7
  go_enter Tryd.func10, Tryd.ntmps10
  go_wp2_with fail
  refine (HR.out _).mono ?_
  rintro e w1 ⟨rfl, h1⟩
  have hb : Below w.heap.size w w1 := by rw [← h1]; exact ((Below.refl _ _).alloc (Nat.le_refl _) _).alloc ((Below.refl _ _).alloc (Nat.le_refl _) _).size _
  have hB : Blk w1 w.heap.size 28 #[.int .i64 (k : Int), .int .u64 (n0 : Int), .int .u64 (n1 : Int), .int .u64 (n2 : Int), .int .i64 (i : Int)] := by rw [← h1]; exact (Blk.new w _ _).alloc _
  clear h1
  go_upto_region 3 with fail
  have z0 := hB.cell 0
  simp only [List.getElem?_toArray, List.getElem?_cons_zero] at z0
  go_cut [4] from 8 (fun v4 wx => v4 = .string sw ∧ Blk wx w.heap.size 28 #[.int .i64 (k : Int), .int .u64 (n0 : Int), .int .u64 (n1 : Int), .int .u64 (n2 : Int), .int .i64 (i : Int)] ∧ Below w.heap.size w wx)
  case first =>
    go_region_with (go_at_call 37; refine (HW.out _).mono ?_; rintro e w2 ⟨rfl, h2⟩; have hB2 : Blk w2 w.heap.size 28 #[.int .i64 (k : Int), .int .u64 (n0 : Int), .int .u64 (n1 : Int), .int .u64 (n2 : Int), .int .i64 (i : Int)] := (by rw [← h2]; exact Blk.alloc hB _); have hb2 : Below w.heap.size w w2 := (by rw [← h2]; exact Below.alloc (Below.drew hb) (Below.drew hb).size _); have hcm : w2.cell? ⟨w1.heap.size, k, none⟩ = some (.string sw) := (by rw [← h2]; exact ((Blk.new _ _ _).cell k).trans HNm.out); have z2 := hB2.cell 0; simp only [List.getElem?_toArray, List.getElem?_cons_zero] at z2; clear h2)
    all_goals
      go_wp2_with fail
      go_meet
      case rel => exact ⟨rfl, hB2, hb2⟩
  case rest =>
    obtain ⟨rfl, hB2, hb2⟩ := hcut
    have c0 := hB2.cell 0
    have c1 := hB2.cell 1
    have c2 := hB2.cell 2
    have c3 := hB2.cell 3
    have c4 := hB2.cell 4
    simp only [List.getElem?_toArray, List.getElem?_cons_zero, List.getElem?_cons_succ] at c0 c1 c2 c3 c4
    unfold strV at HX0 HX1 HX2
    obtain ⟨s0, hs0⟩ : ∃ s0 : ByteArray, (⟨(48 :: 120 :: hexs n0).toArray⟩ : ByteArray) = s0 := ⟨_, rfl⟩
    obtain ⟨s1, hs1⟩ : ∃ s1 : ByteArray, (⟨(48 :: 120 :: hexs n1).toArray⟩ : ByteArray) = s1 := ⟨_, rfl⟩
    obtain ⟨s2, hs2⟩ : ∃ s2 : ByteArray, (⟨(48 :: 120 :: hexs n2).toArray⟩ : ByteArray) = s2 := ⟨_, rfl⟩
    rw [hs0] at HX0
    rw [hs1] at HX1
    rw [hs2] at HX2
    have HS0 := Lib.hid hs0
    have HS1 := Lib.hid hs1
    have HS2 := Lib.hid hs2
    have q0 : s0.size ≤ 70000 := by rw [← hs0]; show (48 :: 120 :: hexs n0).toArray.size ≤ _; have := hexs_length n0; rw [List.size_toArray]; simp only [List.length_cons]; omega
    have q1 : s1.size ≤ 70000 := by rw [← hs1]; show (48 :: 120 :: hexs n1).toArray.size ≤ _; have := hexs_length n1; rw [List.size_toArray]; simp only [List.length_cons]; omega
    have q2 : s2.size ≤ 70000 := by rw [← hs2]; show (48 :: 120 :: hexs n2).toArray.size ≤ _; have := hexs_length n2; rw [List.size_toArray]; simp only [List.length_cons]; omega
    clear hs0 hs1 hs2
    clear HNm HR hB hb z0
    have hwd : sw.data.toList = wordOf (k : Int) := by rw [wordOf_at k hk1 hk8, ← HSW.out]
    have HWD := Lib.hid hwd
    clear hwd
    have G : k = 2 ∨ (k = 1 ∨ k = 3) ∨ (k = 7 ∨ k = 8) ∨ (k = 4 ∨ k = 5 ∨ k = 6) := by omega
    rcases G with G | G | G | G
    · have b4 : (k : Int) < 4 := by omega
      have b2 : ((k : Int) == 2) = true := by rw [G]; rfl
      have b6 : ¬ (6 : Int) < (k : Int) := by omega
      have HG := Lib.hid (line_put (o := ⟨(k : Int), (n0 : Int), (n1 : Int), (n2 : Int), (i : Int)⟩) (show (k : Int) = 2 by omega))
      clear G
      go_wp2_with fail
      refine (HX0.out _).mono ?_
      rintro e w3 ⟨rfl, rfl⟩
      go_wp2_with fail
      obtain ⟨t1, ht1⟩ : ∃ t1 : ByteArray, sw ++ (⟨#[32]⟩ ++ s0) = t1 := ⟨_, rfl⟩
      have hz1 : t1.size ≤ 71000 := by rw [← ht1, ByteArray.size_append, ByteArray.size_append]; show _ + (1 + _) ≤ _; omega
      rw [ht1]
      have HT1 := Lib.hid ht1
      clear ht1
      refine (HX1.out _).mono ?_
      rintro e w4 ⟨rfl, rfl⟩
      go_wp2_with fail
      obtain ⟨t2, ht2⟩ : ∃ t2 : ByteArray, t1 ++ (⟨#[32]⟩ ++ s1) = t2 := ⟨_, rfl⟩
      have hz2 : t2.size ≤ 150000 := by rw [← ht2, ByteArray.size_append, ByteArray.size_append]; show _ + (1 + _) ≤ _; omega
      rw [ht2]
      have HT2 := Lib.hid ht2
      clear ht2
      refine (HX2.out _).mono ?_
      rintro e w5 ⟨rfl, rfl⟩
      go_upto_region 10 with fail
      obtain ⟨t3, ht3⟩ : ∃ t3 : ByteArray, t2 ++ (⟨#[32]⟩ ++ s2) = t3 := ⟨_, rfl⟩
      rw [ht3]
      have HT3 := Lib.hid ht3
      have d6 : k ≤ 6 := by omega
      clear ht3 b4 b2 b6 hk9
      go_wp2
      go_ret2
      refine ⟨?_, hb2⟩
      rw [if_pos H.out]
      refine ret_line ?_
      rw [HG.out, ← HWD.out, hx, hx, hx, Int.toNat_natCast, Int.toNat_natCast, Int.toNat_natCast]
      simp [← HT3.out, ← HT2.out, ← HT1.out, ← HS0.out, ← HS1.out, ← HS2.out]
    · have b4 : (k : Int) < 4 := by omega
      have b2 : ((k : Int) == 2) = false := by simp; omega
      have b6 : ¬ (6 : Int) < (k : Int) := by omega
      have HG := Lib.hid (line_two (o := ⟨(k : Int), (n0 : Int), (n1 : Int), (n2 : Int), (i : Int)⟩) (show (k : Int) = 1 ∨ (k : Int) = 3 by omega))
      clear G
      go_wp2_with fail
      refine (HX0.out _).mono ?_
      rintro e w3 ⟨rfl, rfl⟩
      go_wp2_with fail
      obtain ⟨t1, ht1⟩ : ∃ t1 : ByteArray, sw ++ (⟨#[32]⟩ ++ s0) = t1 := ⟨_, rfl⟩
      have hz1 : t1.size ≤ 71000 := by rw [← ht1, ByteArray.size_append, ByteArray.size_append]; show _ + (1 + _) ≤ _; omega
      rw [ht1]
      have HT1 := Lib.hid ht1
      clear ht1
      refine (HX2.out _).mono ?_
      rintro e w5 ⟨rfl, rfl⟩
      go_upto_region 10 with fail
      obtain ⟨t3, ht3⟩ : ∃ t3 : ByteArray, t1 ++ (⟨#[32]⟩ ++ s2) = t3 := ⟨_, rfl⟩
      rw [ht3]
      have HT3 := Lib.hid ht3
      have d6 : k ≤ 6 := by omega
      clear ht3 b4 b2 b6 hk9
      go_wp2
      go_ret2
      refine ⟨?_, hb2⟩
      rw [if_pos H.out]
      refine ret_line ?_
      rw [HG.out, ← HWD.out, hx, hx, Int.toNat_natCast, Int.toNat_natCast]
      simp [← HT3.out, ← HT1.out, ← HS0.out, ← HS2.out]
    · have b4 : ¬ (k : Int) < 4 := by omega
      have b2 : ((k : Int) == 2) = false := by simp; omega
      have b6 : (6 : Int) < (k : Int) := by omega
      have HG := Lib.hid (line_iter (o := ⟨(k : Int), (n0 : Int), (n1 : Int), (n2 : Int), (i : Int)⟩) (show (k : Int) = 7 ∨ (k : Int) = 8 by omega))
      clear G
      go_wp2_with fail
      refine (HFi.out _).mono ?_
      rintro e w3 ⟨s3, hs3, rfl, hb3⟩
      have HS3 := Lib.hid hs3
      have hl3 : s3.size ≤ 70000 := by
        have h1 := digits_length 18 i (by have e : (10 : Nat) ^ (18 + 1) = 10000000000000000000 := by decide
                                          omega)
        have h2 : s3.data.toList.length = s3.size := by simp
        unfold Says at hs3
        rw [hs3] at h2
        omega
      clear hs3
      go_wp2
      go_ret2
      refine ⟨?_, hb2.trans (hb3.mono hb2.size)⟩
      rw [if_pos H.out]
      refine ret_line ?_
      have e3 := HS3.out
      unfold Says at e3
      rw [HG.out, ← HWD.out, Int.toNat_natCast]
      simp [← e3]
    · have b4 : ¬ (k : Int) < 4 := by omega
      have b2 : ((k : Int) == 2) = false := by simp; omega
      have b6 : ¬ (6 : Int) < (k : Int) := by omega
      have HG := Lib.hid (line_bare (o := ⟨(k : Int), (n0 : Int), (n1 : Int), (n2 : Int), (i : Int)⟩) (show (k : Int) = 4 ∨ (k : Int) = 5 ∨ (k : Int) = 6 by omega))
      clear G
      go_wp2
      go_ret2
      refine ⟨?_, hb2⟩
      rw [if_pos H.out]
      refine ret_line ?_
      rw [HG.out, HWD.out]
theorem ref32_Line (o : SOp) (w : World) (hwf : opWf o) : Calls Tryd.prog 10 #[opV o] w (RLinePost w o) := by
  cases h : rightB o with
  | false => exact ref32_Line_not o w h
  | true => exact ref32_Line_right o w h hwf
end Go.Proofs.YtgpkekdbohdbfaaDoor
