/- A dual's Find, Put, Delete by their contracts, whatever its seek has told. -/
import Derived.Test.YtgfcmdmpegomdaaGreatDoorCoAI
import Derived.Test.YtgfcmdmpegomdaaGreatDoorSqM
import Derived.Test.YtgfcmdmpegomdaaGreatDoorCoO
import Derived.Test.YtgfcmdmpegomdaaGreatDoorLaneP
import Derived.Test.YtgfcmdmpegomdaaGreatDoorCoEnv
namespace Go.Proofs.YtgfcmdmpegomdaaGreatDoor
set_option maxRecDepth 100000
set_option maxHeartbeats 8000000
open Go.RowKit AmC
def SeekTo (w : World) (db : Nat) (P : MP) (x : Mtr) (c : Cnt) (key hash tX gX : Nat) (TX : TabM) (cnt : Nat) : Prop :=
 ∀ V, Below w.heap.size w V → Calls Tryz.prog 134 #[dualP db, lensV (some ⟨P.mb, P.mo, none⟩) c, .int .u64 (key : Int), .int .u64 (hash : Int)] V (SeekPost V P x c key hash tX gX TX cnt)
theorem dual_Find (db tX gX cnt : Nat) (TX : TabM) (P : MP) (x : Mtr) (c : Cnt) (key hash : Nat) (w : World) (hS : SeekTo w db P x c key hash tX gX TX cnt) (h : TabAt w tX gX TX) (hml : P.mb < w.heap.size) (hmt : P.mb ≠ tX) (hmg : P.mb ≠ gX) :
  Calls Tryz.prog 109 #[dualP db, lensV (some ⟨P.mb, P.mo, none⟩) c, .int .u64 (key : Int), .int .u64 (hash : Int)] w fun e w' => e = .returned (optE (foundE TX.gs key hash)) ∧ MetP w' P (x.add c cnt) ∧ Mod [P.mb] w w' := by
 obtain ⟨W, hW, hB, hL, hR⟩ := qX2 w 138 #[.pointer (some ⟨P.mb, P.mo, none⟩), .int .i64 c.p, .int .i64 c.v, .int .i64 c.u] 141 #[.int .u64 0, .int .u64 0, .int .u64 0]
 have lc := hL.c4
 have htl := h.ltT
 have hgl := h.ltG
 have HW := qd hW
 have HSk := qd (hS W hB)
 unfold SeekPost spotV at HSk
 unfold dualP lensV at HSk ⊢
 have HEn := qd (fun ap fp fs hap V hV => spot_Entry tX gX key hash TX ap fp fs hap V hV)
 unfold spotV optE entV at HEn
 unfold optE entV
 obtain ⟨fe, hfe⟩ : ∃ fe, fe = (foundE TX.gs key hash).getD ⟨0, 0, 0⟩ := ⟨_, rfl⟩
 obtain ⟨fb, hfb⟩ : ∃ fb, fb = (foundE TX.gs key hash).isSome := ⟨_, rfl⟩
 rw [← hfe, ← hfb] at HEn ⊢
 clear hfe hfb
 obtain ⟨s1, hs1⟩ : ∃ s, s = slotI (seek TX.gs key hash).1 := ⟨_, rfl⟩
 obtain ⟨s2, hs2⟩ : ∃ s, s = slotI (seek TX.gs key hash).2.1 := ⟨_, rfl⟩
 obtain ⟨sb0, hsb⟩ : ∃ s, s = (seek TX.gs key hash).1.isSome := ⟨_, rfl⟩
 rw [← hs1, ← hs2, ← hsb] at HSk
 rw [← hs1] at HEn
 clear hs1 hs2 hsb
 have HT := qd (h.below hB)
 have HR := qd (hR)
 have Hmod := qd (Mod.of_below hB [P.mb])
 clear hW hB h hL hR hS
 go_in
 go_upto_region 1 with fail
 rw [← HW.out]
 go_wp2_with fail
 refine (HSk.out).mono ?_
 rintro x w1 ⟨ap, fp, rfl, hap, hfp, hM1, hm⟩
 clear lc
 replace HT := qM hm HT
 replace HR := qM hm HR
 have z1 := (hm).size
 replace Hmod := qU Hmod hm
 clear hm
 have HM := qd (hM1)
 clear hM1 hfp
 go_upto_region 2 with fail
 have q2 := qJ HT.out.ltT (qJ HT.out.ltG (qJ HR.out.lt (qJ HM.out.lt Hmod.out.size)))
 refine nameB 189 #[.pointer (some ⟨tX, 0, none⟩), .int .u64 (key : Int), .int .u64 (hash : Int), .pointer ap, .int .i64 s1, .pointer fp, .int .i64 s2] ?_
 rintro w2 ⟨hnew, hb⟩
 replace HT := qB hb HT
 replace HR := qB hb HR
 replace HM := qB hb HM
 have z7 := (hb).size
 replace Hmod := qT Hmod hb
 have HS := qd (hnew)
 clear hnew hb
 have sp := HS.out.c7
 go_wp2_with fail
 refine (HEn.out ap fp s2 hap w2 HT.out).mono ?_
 rintro x w3 ⟨rfl, hb⟩
 clear sp
 replace HT := qB hb HT
 replace HR := qB hb HR
 replace HM := qB hb HM
 replace HS := qB hb HS
 have z8 := (hb).size
 replace Hmod := qT Hmod hb
 clear hb
 have rc := HR.out.c3
 have rf := HR.out.f3
 go_wp2
 have q9 := qJ HT.out.ltT (qJ HT.out.ltG (qJ HR.out.lt (qJ HM.out.lt HS.out.lt)))
 have hnew := (((HR.out.set_ 0 (.int .u64 (fe.key : Int))).set_ 1 (.int .u64 (fe.val : Int))).set_ 2 (.int .u64 (fe.hash : Int)))
 have hm := ((((Mod.refl [(w.heap.size + 1)] w3).sl 0 (.int .u64 (fe.key : Int))).sl 1 (.int .u64 (fe.val : Int))).sl 2 (.int .u64 (fe.hash : Int)))
 simp only [pt] at hnew
 refine nameW (F := fun v => Blk v (w.heap.size + 1) 141 #[.int .u64 (fe.key : Int), .int .u64 (fe.val : Int), .int .u64 (fe.hash : Int)] ∧ Mod [(w.heap.size + 1)] w3 v) ⟨hnew, hm⟩ ?_
 clear hnew hm
 rintro w5 ⟨hnew, hm⟩
 clear rc rf
 replace HT := qM hm HT
 replace HM := qM hm HM
 replace HS := qM hm HS
 have z14 := (hm).size
 replace Hmod := qU Hmod hm
 replace HR := qd hnew
 clear hnew hm
 have rx := HR.out.c3
 refine bodyPost_ret (v := .tuple #[.agg #[.int .u64 (fe.key : Int), .int .u64 (fe.val : Int), .int .u64 (fe.hash : Int)], .bool fb]) (by simp [results, Tryz.results109, go_sem, rx.1, rx.2.1, rx.2.2]) rfl ⟨rfl, HM.out, Hmod.out⟩
theorem dual_Delete_found (db tX gX cnt : Nat) (TX : TabM) (P : MP) (x : Mtr) (c : Cnt) (key hash : Nat) (w : World) (hS : SeekTo w db P x c key hash tX gX TX cnt) (h : TabAt w tX gX TX) (hml : P.mb < w.heap.size) (hmt : P.mb ≠ tX) (hmg : P.mb ≠ gX) (i s : Nat) (hsk : (seek TX.gs key hash).1 = some (i, s)) (e0 : Ent) (he0 : slotAt TX.gs i s = .full e0) (hSm : Small TX) :
  Calls Tryz.prog 111 #[dualP db, lensV (some ⟨P.mb, P.mo, none⟩) c, .int .u64 (key : Int), .int .u64 (hash : Int)] w fun e w' => e = .returned (optE (some e0)) ∧ TabAt w' tX gX (eraseM TX i s) ∧ MetP w' P (x.add c cnt) ∧ Mod [P.mb, tX, gX] w w' := by
 obtain ⟨W, hW, hB, hL, hR⟩ := qX2 w 138 #[.pointer (some ⟨P.mb, P.mo, none⟩), .int .i64 c.p, .int .i64 c.v, .int .i64 c.u] 141 #[.int .u64 0, .int .u64 0, .int .u64 0]
 have lc := hL.c4
 have htl := h.ltT
 have hgl := h.ltG
 have HW := qd hW
 have HSk := qd (hS W hB)
 unfold SeekPost spotV at HSk
 unfold dualP lensV at HSk ⊢
 obtain ⟨e1, he1, hk0, hil, hsl⟩ := seek_full hsk
 have hs8 : s < 8 := by have := h.wide.at_ hil; omega
 have HEn := qd (fun ap fp fs hap V hV => spot_Entry tX gX key hash TX ap fp fs hap V hV)
 unfold foundE at HEn
 obtain ⟨fs, hfs⟩ : ∃ fs, fs = slotI (seek TX.gs key hash).2.1 := ⟨_, rfl⟩
 rw [hsk] at HEn HSk
 rw [← hfs] at HSk
 clear hfs
 simp only [Option.map_some, he0, Option.getD_some, Option.isSome_some, Slot.ent, slotI, optE] at HEn HSk
 unfold spotV entV at HEn
 unfold optE entV
 simp only [Option.getD_some, Option.isSome_some]
 have HT := qd (h.below hB)
 have HR := qd (hR)
 have Hmod := qd (Mod.of_below hB [P.mb, tX, gX])
 clear hW hB h hL hR hS he1
 go_in
 go_upto_region 1 with fail
 rw [← HW.out]
 go_wp2_with fail
 refine (HSk.out).mono ?_
 rintro x w1 ⟨ap, fp, rfl, hap, hfp, hM1, hm⟩
 clear lc
 replace HT := qM hm HT
 replace HR := qM hm HR
 have z1 := (hm).size
 replace Hmod := qU Hmod hm
 clear hm
 obtain rfl := hap i s rfl
 clear hap hfp
 have HM := qd (hM1)
 clear hM1
 go_upto_region 2 with fail
 have q2 := qJ HT.out.ltT (qJ HT.out.ltG (qJ HR.out.lt (qJ HM.out.lt Hmod.out.size)))
 refine nameB 189 #[.pointer (some ⟨tX, 0, none⟩), .int .u64 (key : Int), .int .u64 (hash : Int), .pointer (some ⟨gX, i * 25, none⟩), .int .i64 (s : Int), .pointer fp, .int .i64 fs] ?_
 rintro w2 ⟨hnew, hb⟩
 replace HT := qB hb HT
 replace HR := qB hb HR
 replace HM := qB hb HM
 have z7 := (hb).size
 replace Hmod := qT Hmod hb
 have HS := qd (hnew)
 clear hnew hb
 have sp := HS.out.c7
 go_wp2_with fail
 refine (HEn.out (some ⟨gX, i * 25, none⟩) fp fs (fun i2 s2 hh => by cases hh; rfl) w2 HT.out).mono ?_
 rintro x w3 ⟨rfl, hb⟩
 clear sp
 replace HT := qB hb HT
 replace HR := qB hb HR
 replace HM := qB hb HM
 replace HS := qB hb HS
 have z8 := (hb).size
 replace Hmod := qT Hmod hb
 clear hb
 go_upto_region 3 with fail
 have q9 := qJ HT.out.ltT (qJ HT.out.ltG (qJ HR.out.lt (qJ HM.out.lt (qJ HS.out.lt Hmod.out.size))))
 refine nameB 141 #[.int .u64 (e0.key : Int), .int .u64 (e0.val : Int), .int .u64 (e0.hash : Int)] ?_
 rintro w4 ⟨hnew, hb⟩
 replace HT := qB hb HT
 replace HR := qB hb HR
 replace HM := qB hb HM
 replace HS := qB hb HS
 have z15 := (hb).size
 replace Hmod := qT Hmod hb
 have HD := qd (hnew)
 clear hnew hb
 have sp := HS.out.c7
 have dc := HD.out.c3
 have HRm := qd (spot_Remove tX key hash gX fp fs TX i s hil hs8 e0 he0 hSm w4.drew (HT.out.below (Below.refl _ _).drew))
 refine rT (fun (w' : World) => w'.cell? ⟨w3.heap.size, 0, none⟩ = some (.int .u64 (e0.key : Int)) ∧ w'.cell? ⟨w3.heap.size, 1, none⟩ = some (.int .u64 (e0.val : Int)) ∧ w'.cell? ⟨w3.heap.size, 2, none⟩ = some (.int .u64 (e0.hash : Int)) ∧ w'.cell? ⟨w1.heap.size, 0, none⟩ = some (.pointer (some ⟨tX, 0, none⟩)) ∧ w'.cell? ⟨w1.heap.size, 1, none⟩ = some (.int .u64 (key : Int)) ∧ w'.cell? ⟨w1.heap.size, 2, none⟩ = some (.int .u64 (hash : Int)) ∧ w'.cell? ⟨w1.heap.size, 3, none⟩ = some (.pointer (some ⟨gX, i * 25, none⟩)) ∧ w'.cell? ⟨w1.heap.size, 4, none⟩ = some (.int .i64 (s : Int)) ∧ w'.cell? ⟨w1.heap.size, 5, none⟩ = some (.pointer fp) ∧ w'.cell? ⟨w1.heap.size, 6, none⟩ = some (.int .i64 fs)) [7] ?_
 have hHeld := (⟨dc.1, dc.2.1, dc.2.2, sp.1, sp.2.1, sp.2.2.1, sp.2.2.2.1, sp.2.2.2.2.1, sp.2.2.2.2.2.1, sp.2.2.2.2.2.2⟩ : _ ∧ _ ∧ _ ∧ _ ∧ _ ∧ _ ∧ _ ∧ _ ∧ _ ∧ _)
 refine vT 0 rfl ?_
 refine vW 1 rfl ?_
 refine vW 2 rfl ?_
 refine vT 3 rfl ?_
 refine nT 4 rfl fun K hK => ?_
 go_simp
 refine (HRm.out).mono ?_
 rintro x w5 ⟨rfl, hT5, hm⟩
 replace hm : Mod [tX, gX] w4 w5 := (Mod.drewN [tX, gX] w4 1).then hm
 clear HT sp dc
 replace HR := qM hm HR
 replace HM := qM hm HM
 replace HS := qM hm HS
 replace HD := qM hm HD
 have z16 := (hm).size
 replace Hmod := qU Hmod hm
 have HT := qd (hT5)
 clear hT5 hm
 have sp := HS.out.c7
 have dc := HD.out.c3
 have rc := HR.out.c3
 have rf := HR.out.f3
 go_simp
 have hHeld := (⟨dc.1, dc.2.1, dc.2.2, sp.1, sp.2.1, sp.2.2.1, sp.2.2.2.1, sp.2.2.2.2.1, sp.2.2.2.2.2.1, sp.2.2.2.2.2.2⟩ : _ ∧ _ ∧ _ ∧ _ ∧ _ ∧ _ ∧ _ ∧ _ ∧ _ ∧ _)
 refine kO hK ?_
 clear hK K
 refine vW 5 rfl ?_
 refine vW 6 rfl ?_
 refine nT 7 rfl fun K hK => ?_
 go_simp
 refine kO hK ?_
 clear hK K
 refine vL 8 rfl ?_
 refine doneT (by kernel_rfl) ?_ _
 clear HS HD
 have q17 := qJ HR.out.lt (qJ HM.out.lt (qJ HT.out.ltT HT.out.ltG))
 have hnew := (((HR.out.set_ 0 (.int .u64 (e0.key : Int))).set_ 1 (.int .u64 (e0.val : Int))).set_ 2 (.int .u64 (e0.hash : Int)))
 have hm := ((((Mod.refl [(w.heap.size + 1)] w5).sl 0 (.int .u64 (e0.key : Int))).sl 1 (.int .u64 (e0.val : Int))).sl 2 (.int .u64 (e0.hash : Int)))
 simp only [pt] at hnew
 refine nameW (F := fun v => Blk v (w.heap.size + 1) 141 #[.int .u64 (e0.key : Int), .int .u64 (e0.val : Int), .int .u64 (e0.hash : Int)] ∧ Mod [(w.heap.size + 1)] w5 v) ⟨hnew, hm⟩ ?_
 clear hnew hm
 rintro w6 ⟨hnew, hm⟩
 replace HM := qM hm HM
 replace HT := qM hm HT
 have z21 := (hm).size
 replace Hmod := qU Hmod hm
 replace HR := qd hnew
 clear hnew hm
 have rc := HR.out.c3
 go_wp2
 refine bodyPost_ret (v := .tuple #[.agg #[.int .u64 (e0.key : Int), .int .u64 (e0.val : Int), .int .u64 (e0.hash : Int)], .bool true]) (by simp [results, Tryz.results111, go_sem, rc.1, rc.2.1, rc.2.2]) rfl ⟨rfl, HT.out, HM.out, Hmod.out⟩
theorem dual_Delete_none (db tX gX cnt : Nat) (TX : TabM) (P : MP) (x : Mtr) (c : Cnt) (key hash : Nat) (w : World) (hS : SeekTo w db P x c key hash tX gX TX cnt) (h : TabAt w tX gX TX) (hml : P.mb < w.heap.size) (hmt : P.mb ≠ tX) (hmg : P.mb ≠ gX) (hsk : (seek TX.gs key hash).1 = none) :
  Calls Tryz.prog 111 #[dualP db, lensV (some ⟨P.mb, P.mo, none⟩) c, .int .u64 (key : Int), .int .u64 (hash : Int)] w fun e w' => e = .returned (optE none) ∧ TabAt w' tX gX TX ∧ MetP w' P (x.add c cnt) ∧ Mod [P.mb] w w' := by
 obtain ⟨W, hW, hB, hL, hR⟩ := qX2 w 138 #[.pointer (some ⟨P.mb, P.mo, none⟩), .int .i64 c.p, .int .i64 c.v, .int .i64 c.u] 141 #[.int .u64 0, .int .u64 0, .int .u64 0]
 have lc := hL.c4
 have htl := h.ltT
 have hgl := h.ltG
 have HW := qd hW
 have HSk := qd (hS W hB)
 unfold SeekPost spotV at HSk
 unfold dualP lensV at HSk ⊢
 have HEn := qd (fun ap fp fs hap V hV => spot_Entry tX gX key hash TX ap fp fs hap V hV)
 unfold foundE at HEn
 obtain ⟨fs, hfs⟩ : ∃ fs, fs = slotI (seek TX.gs key hash).2.1 := ⟨_, rfl⟩
 rw [hsk] at HEn HSk
 rw [← hfs] at HSk
 clear hfs
 simp only [Option.map_none, Option.getD_none, Option.isSome_none, Slot.ent, slotI, optE] at HEn HSk
 unfold spotV entV at HEn
 unfold optE entV
 simp only [Option.getD_none, Option.isSome_none]
 have HT := qd (h.below hB)
 have HR := qd (hR)
 have Hmod := qd (Mod.of_below hB [P.mb])
 clear hW hB h hL hR hS
 go_in
 go_upto_region 1 with fail
 rw [← HW.out]
 go_wp2_with fail
 refine (HSk.out).mono ?_
 rintro x w1 ⟨ap, fp, rfl, hap, hfp, hM1, hm⟩
 clear lc
 replace HT := qM hm HT
 replace HR := qM hm HR
 have z1 := (hm).size
 replace Hmod := qU Hmod hm
 clear hm hap hfp
 have HM := qd (hM1)
 clear hM1
 go_upto_region 2 with fail
 have q2 := qJ HT.out.ltT (qJ HT.out.ltG (qJ HR.out.lt (qJ HM.out.lt Hmod.out.size)))
 refine nameB 189 #[.pointer (some ⟨tX, 0, none⟩), .int .u64 (key : Int), .int .u64 (hash : Int), .pointer ap, .int .i64 (-1), .pointer fp, .int .i64 fs] ?_
 rintro w2 ⟨hnew, hb⟩
 replace HT := qB hb HT
 replace HR := qB hb HR
 replace HM := qB hb HM
 have z7 := (hb).size
 replace Hmod := qT Hmod hb
 have HS := qd (hnew)
 clear hnew hb
 have sp := HS.out.c7
 go_wp2_with fail
 refine (HEn.out ap fp fs (fun i2 s2 hh => by cases hh) w2 HT.out).mono ?_
 rintro x w3 ⟨rfl, hb⟩
 clear sp
 replace HT := qB hb HT
 replace HR := qB hb HR
 replace HM := qB hb HM
 replace HS := qB hb HS
 have z8 := (hb).size
 replace Hmod := qT Hmod hb
 clear hb
 go_upto_region 3 with fail
 have q9 := qJ HT.out.ltT (qJ HT.out.ltG (qJ HR.out.lt (qJ HM.out.lt (qJ HS.out.lt Hmod.out.size))))
 refine nameB 141 #[.int .u64 0, .int .u64 0, .int .u64 0] ?_
 rintro w4 ⟨hnew, hb⟩
 replace HT := qB hb HT
 replace HR := qB hb HR
 replace HM := qB hb HM
 replace HS := qB hb HS
 have z15 := (hb).size
 replace Hmod := qT Hmod hb
 have HD := qd (hnew)
 clear hnew hb
 have sp := HS.out.c7
 have dc := HD.out.c3
 have rc := HR.out.c3
 have rf := HR.out.f3
 refine rT (fun (w' : World) => w'.cell? ⟨w3.heap.size, 0, none⟩ = some (.int .u64 0) ∧ w'.cell? ⟨w3.heap.size, 1, none⟩ = some (.int .u64 0) ∧ w'.cell? ⟨w3.heap.size, 2, none⟩ = some (.int .u64 0)) [7] ?_
 have hHeld := (⟨dc.1, dc.2.1, dc.2.2⟩ : _ ∧ _ ∧ _)
 refine vT 0 rfl ?_
 refine vW 1 rfl ?_
 refine vW 2 rfl ?_
 refine vU 3 rfl ?_
 refine vU 4 rfl ?_
 refine vU 5 rfl ?_
 refine vW 6 rfl ?_
 refine nT 7 rfl fun K hK => ?_
 go_simp
 refine kO hK ?_
 clear hK K
 refine vL 8 rfl ?_
 refine doneT (by kernel_rfl) ?_ _
 clear HS HD
 have q16 := qJ HT.out.ltT (qJ HT.out.ltG (qJ HR.out.lt HM.out.lt))
 have hnew := (((HR.out.set_ 0 (.int .u64 0)).set_ 1 (.int .u64 0)).set_ 2 (.int .u64 0)).drew
 have hm := (((((Mod.refl [(w.heap.size + 1)] w4).sl 0 (.int .u64 0)).sl 1 (.int .u64 0)).sl 2 (.int .u64 0)).then (Mod.drewN [(w.heap.size + 1)] _ 1))
 simp only [pt] at hnew
 refine nameW (F := fun v => Blk v (w.heap.size + 1) 141 #[.int .u64 0, .int .u64 0, .int .u64 0] ∧ Mod [(w.heap.size + 1)] w4 v) ⟨hnew, hm⟩ ?_
 clear hnew hm
 rintro w6 ⟨hnew, hm⟩
 replace HT := qM hm HT
 replace HM := qM hm HM
 have z20 := (hm).size
 replace Hmod := qU Hmod hm
 replace HR := qd hnew
 clear hnew hm
 have rc := HR.out.c3
 go_wp2
 refine bodyPost_ret (v := .tuple #[.agg #[.int .u64 0, .int .u64 0, .int .u64 0], .bool false]) (by simp [results, Tryz.results111, go_sem, rc.1, rc.2.1, rc.2.2]) rfl ⟨rfl, HT.out, HM.out, Hmod.out⟩
theorem dual_Put_found (db tX gX cnt : Nat) (TX : TabM) (P : MP) (x : Mtr) (c : Cnt) (e : Ent) (w : World) (hS : SeekTo w db P x c e.key e.hash tX gX TX cnt) (h : TabAt w tX gX TX) (hml : P.mb < w.heap.size) (hmt : P.mb ≠ tX) (hmg : P.mb ≠ gX) (more : Bool) (i s : Nat) (hsk : (seek TX.gs e.key e.hash).1 = some (i, s)) (e0 : Ent) (he0 : slotAt TX.gs i s = .full e0) :
  Calls Tryz.prog 91 #[dualP db, lensV (some ⟨P.mb, P.mo, none⟩) c, entV e, .bool more] w fun y w' => y = .returned (.tuple #[.bool false, .nilIface]) ∧ TabAt w' tX gX (replaceM TX i s e.val e0) ∧ MetP w' P (x.add c cnt) ∧ Mod [P.mb, tX, gX] w w' := by
 obtain ⟨W, hW, hB, hL, hE⟩ := qX2 w 138 #[.pointer (some ⟨P.mb, P.mo, none⟩), .int .i64 c.p, .int .i64 c.v, .int .i64 c.u] 141 #[.int .u64 (e.key : Int), .int .u64 (e.val : Int), .int .u64 (e.hash : Int)]
 have lc := hL.c4
 have ec := hE.c3
 have htl := h.ltT
 have hgl := h.ltG
 have HW := qd hW
 have HSk := qd (hS W hB)
 unfold SeekPost spotV at HSk
 unfold dualP lensV at HSk ⊢
 obtain ⟨e1, he1, hk0, hil, hsl⟩ := seek_full hsk
 have hs8 : s < 8 := by have := h.wide.at_ hil; omega
 obtain ⟨fs, hfs⟩ : ∃ fs, fs = slotI (seek TX.gs e.key e.hash).2.1 := ⟨_, rfl⟩
 rw [hsk] at HSk
 rw [← hfs] at HSk
 clear hfs
 simp only [Option.isSome_some, slotI] at HSk
 unfold entV
 have HT := qd (h.below hB)
 have HE := qd (hE)
 have Hmod := qd (Mod.of_below hB [P.mb, tX, gX])
 clear hW hB h hL hE hS he1
 go_in
 go_upto_region 1 with fail
 rw [← HW.out]
 go_wp2_with fail
 refine (HSk.out).mono ?_
 rintro x w1 ⟨ap, fp, rfl, hap, hfp, hM1, hm⟩
 clear lc ec
 replace HT := qM hm HT
 replace HE := qM hm HE
 have z1 := (hm).size
 replace Hmod := qU Hmod hm
 clear hm
 obtain rfl := hap i s rfl
 clear hap hfp
 have HM := qd (hM1)
 clear hM1
 go_upto_region 2 with fail
 have q2 := qJ HT.out.ltT (qJ HT.out.ltG (qJ HE.out.lt (qJ HM.out.lt Hmod.out.size)))
 refine nameB 189 #[.pointer (some ⟨tX, 0, none⟩), .int .u64 (e.key : Int), .int .u64 (e.hash : Int), .pointer (some ⟨gX, i * 25, none⟩), .int .i64 (s : Int), .pointer fp, .int .i64 fs] ?_
 rintro w2 ⟨hnew, hb⟩
 replace HT := qB hb HT
 replace HE := qB hb HE
 replace HM := qB hb HM
 have z7 := (hb).size
 replace Hmod := qT Hmod hb
 have HS := qd (hnew)
 clear hnew hb
 have sp := HS.out.c7
 have ec := HE.out.c3
 have HRe := qd (spot_Replace tX e.key e.hash gX fp fs TX i s e.val hil hs8 e0 he0 w2 HT.out)
 unfold spotV at HRe
 clear HT
 go_wp2_with fail
 refine (HRe.out).mono ?_
 rintro x w5 ⟨rfl, hT5, hm⟩
 clear sp ec
 replace HE := qM hm HE
 replace HM := qM hm HM
 replace HS := qM hm HS
 have z8 := (hm).size
 replace Hmod := qU Hmod hm
 clear hm
 have HT := qd (hT5)
 clear hT5
 go_wp2
 refine bodyPost_ret (v := .tuple #[.bool false, .nilIface]) (by simp [results, Tryz.results91, go_sem]) rfl ⟨rfl, HT.out, HM.out, Hmod.out⟩
theorem dual_Put_new (db tX gX cnt : Nat) (TX : TabM) (P : MP) (x : Mtr) (c : Cnt) (e : Ent) (w : World) (hS : SeekTo w db P x c e.key e.hash tX gX TX cnt) (h : TabAt w tX gX TX) (hml : P.mb < w.heap.size) (hmt : P.mb ≠ tX) (hmg : P.mb ≠ gX) (hP : Pw TX.gs.length) (h64 : e.hash < 18446744073709551616) (hsk : (seek TX.gs e.key e.hash).1 = none) (i s : Nat) (hfr : (seek TX.gs e.key e.hash).2.1 = some (i, s)) (hSm : Small TX) (hroom : TX.live + TX.tombs + 1 ≤ 7 * (TX.gs.length : Int)) :
  Calls Tryz.prog 91 #[dualP db, lensV (some ⟨P.mb, P.mo, none⟩) c, entV e, .bool true] w fun y w' => y = .returned (.tuple #[.bool true, .nilIface]) ∧ TabAt w' tX gX (placeM TX i s e) ∧ MetP w' P (x.add c cnt) ∧ Mod [P.mb, tX, gX] w w' := by
 obtain ⟨W, hW, hB, hL, hE⟩ := qX2 w 138 #[.pointer (some ⟨P.mb, P.mo, none⟩), .int .i64 c.p, .int .i64 c.v, .int .i64 c.u] 141 #[.int .u64 (e.key : Int), .int .u64 (e.val : Int), .int .u64 (e.hash : Int)]
 have lc := hL.c4
 have ec := hE.c3
 have htl := h.ltT
 have hgl := h.ltG
 have HW := qd hW
 have HSk := qd (hS W hB)
 unfold SeekPost spotV at HSk
 unfold dualP lensV at HSk ⊢
 have h8 := fun i hi => h.wide.at_ (i := i) hi
 obtain ⟨fs, hfs⟩ : ∃ fs, fs = slotI (seek TX.gs e.key e.hash).2.1 := ⟨_, rfl⟩
 rw [hsk] at HSk
 rw [← hfs] at HSk
 rw [hfr] at hfs
 simp only [slotI] at hfs
 subst hfs
 rw [hfr] at HSk
 simp only [Option.isSome_none, slotI] at HSk
 unfold entV
 have HT := qd (h.below hB)
 have HE := qd (hE)
 have Hmod := qd (Mod.of_below hB [P.mb, tX, gX])
 clear hW hB h hL hE hS
 go_in
 go_upto_region 1 with fail
 rw [← HW.out]
 go_wp2_with fail
 refine (HSk.out).mono ?_
 rintro x w1 ⟨ap, fp, rfl, hap, hfp, hM1, hm⟩
 clear lc ec
 replace HT := qM hm HT
 replace HE := qM hm HE
 have z1 := (hm).size
 replace Hmod := qU Hmod hm
 clear hm
 obtain rfl := hfp i s rfl
 clear hap hfp
 have HM := qd (hM1)
 clear hM1
 go_upto_region 2 with fail
 have q2 := qJ HT.out.ltT (qJ HT.out.ltG (qJ HE.out.lt (qJ HM.out.lt Hmod.out.size)))
 refine nameB 189 #[.pointer (some ⟨tX, 0, none⟩), .int .u64 (e.key : Int), .int .u64 (e.hash : Int), .pointer ap, .int .i64 (-1), .pointer (some ⟨gX, i * 25, none⟩), .int .i64 (s : Int)] ?_
 rintro w2 ⟨hnew, hb⟩
 replace HT := qB hb HT
 replace HE := qB hb HE
 replace HM := qB hb HM
 have z7 := (hb).size
 replace Hmod := qT Hmod hb
 have HS := qd (hnew)
 clear hnew hb
 have sp := HS.out.c7
 have ec := HE.out.c3
 have hFp := seek_freePl TX.gs hP.pos e.key e.hash i s hfr
 have hs8 : s < 8 := by have := h8 i hFp.1; omega
 have HPl := qd (spot_Place tX gX ap TX i s e hFp.1 hs8 h64 hFp.2.2 hSm hroom w2 HT.out)
 unfold spotV entV at HPl
 clear HT
 go_wp2_with fail
 refine (HPl.out).mono ?_
 rintro x w5 ⟨rfl, hT5, hm⟩
 clear sp ec
 replace HE := qM hm HE
 replace HM := qM hm HM
 replace HS := qM hm HS
 have z8 := (hm).size
 replace Hmod := qU Hmod hm
 clear hm
 have HT := qd (hT5)
 clear hT5
 go_wp2
 refine bodyPost_ret (v := .tuple #[.bool true, .nilIface]) (by simp [results, Tryz.results91, go_sem]) rfl ⟨rfl, HT.out, HM.out, Hmod.out⟩
theorem dual_Put_full {W0 : World} {E : Nat → Addr} (db tX gX cnt : Nat) (TX : TabM) (P : MP) (x : Mtr) (c : Cnt) (e : Ent) (w : World) (hS : SeekTo w db P x c e.key e.hash tX gX TX cnt) (h : TabAt w tX gX TX) (hml : P.mb < w.heap.size) (hmt : P.mb ≠ tX) (hmg : P.mb ≠ gX) (hEn : Env W0 E w) (hb0 : W0.heap.size ≤ P.mb) (hsk : (seek TX.gs e.key e.hash).1 = none) :
  Calls Tryz.prog 91 #[dualP db, lensV (some ⟨P.mb, P.mo, none⟩) c, entV e, .bool false] w fun y w' => y = .returned (.tuple #[.bool false, errV E 2]) ∧ TabAt w' tX gX TX ∧ MetP w' P (x.add c cnt) ∧ Mod [P.mb] w w' := by
 obtain ⟨W, hW, hB, hL, hE⟩ := qX2 w 138 #[.pointer (some ⟨P.mb, P.mo, none⟩), .int .i64 c.p, .int .i64 c.v, .int .i64 c.u] 141 #[.int .u64 (e.key : Int), .int .u64 (e.val : Int), .int .u64 (e.hash : Int)]
 have lc := hL.c4
 have ec := hE.c3
 have htl := h.ltT
 have hgl := h.ltG
 have HW := qd hW
 have HSk := qd (hS W hB)
 unfold SeekPost spotV at HSk
 unfold dualP lensV at HSk ⊢
 obtain ⟨fs, hfs⟩ : ∃ fs, fs = slotI (seek TX.gs e.key e.hash).2.1 := ⟨_, rfl⟩
 rw [hsk] at HSk
 rw [← hfs] at HSk
 clear hfs
 simp only [Option.isSome_none, slotI] at HSk
 unfold entV
 have HT := qd (h.below hB)
 have HE := qd (hE)
 have HV0 := qd (hEn.next hB)
 have Hmod := qd (Mod.of_below hB [P.mb])
 clear hW hB h hL hE hS hEn
 go_in
 go_upto_region 1 with fail
 rw [← HW.out]
 go_wp2_with fail
 refine (HSk.out).mono ?_
 rintro x w1 ⟨ap, fp, rfl, hap, hfp, hM1, hm⟩
 clear lc ec
 replace HT := qM hm HT
 replace HE := qM hm HE
 replace HV0 := qM hm HV0
 have z1 := (hm).size
 replace Hmod := qU Hmod hm
 clear hm hap hfp
 have HM := qd (hM1)
 clear hM1
 go_upto_region 2 with fail
 have q2 := qJ HT.out.ltT (qJ HT.out.ltG (qJ HE.out.lt (qJ HM.out.lt Hmod.out.size)))
 refine nameB 189 #[.pointer (some ⟨tX, 0, none⟩), .int .u64 (e.key : Int), .int .u64 (e.hash : Int), .pointer ap, .int .i64 (-1), .pointer fp, .int .i64 fs] ?_
 rintro w2 ⟨hnew, hb⟩
 replace HT := qB hb HT
 replace HE := qB hb HE
 replace HV0 := qB hb HV0
 replace HM := qB hb HM
 have z7 := (hb).size
 replace Hmod := qT Hmod hb
 have HS := qd (hnew)
 clear hnew hb
 have sp := HS.out.c7
 have ec := HE.out.c3
 have her := HV0.out.errs.at_ 2 (by omega) (by omega)
 unfold ErrAt gE at her
 simp only at her
 go_upto_region 5 with fail
 go_region
 go_wp2
 replace HT := qd (HT.out.below (Below.refl _ _).drew)
 replace HM := qd (HM.out.below (Below.refl _ _).drew)
 replace Hmod := qd (Hmod.out.then (Mod.drewN [P.mb] _ 1))
 refine bodyPost_ret (v := .tuple #[.bool false, .iface 326 (.pointer (some (E 2)))]) (by simp [results, Tryz.results91, go_sem]) rfl ⟨by rw [errV_pos E (by omega : 1 ≤ 2)], HT.out, HM.out, Hmod.out⟩
theorem info_ptab : (Tryz.prog.info? 167).map (fun i => (i.zero, i.size, i.bytes)) = some (some (.pointer none), 1, 8) := by kernel_rfl
theorem slty_ptab : SlTy Tryz.prog 276 167 1 8 := slTy Tryz.underlying276 info_ptab rfl (by decide) (by decide)
theorem ptrs_all (ts : List Nat) : ((ptrs ts).all fun u => u.oneCell') = true := by
 refine List.all_eq_true.2 fun u hu => ?_
 unfold ptrs at hu
 obtain ⟨t, _, rfl⟩ := List.mem_map.1 hu
 rfl
theorem ptrs_length (ts : List Nat) : (ptrs ts).length = ts.length := List.length_map ..
theorem RowAt.reads {w : World} {rb : Nat} {ts : List Nat} (h : RowAt w rb ts) : Reads w w.heap.size 1 (some ⟨rb, 0, none⟩) ts.length (ptrs ts) :=
 ⟨by rw [ptrs_length, Nat.mul_one], fun _ => ⟨rb, 0, rfl, h.lt, fun j u hu => by
  unfold ptrs at hu
  rw [List.getElem?_map] at hu
  obtain ⟨t, ht, rfl⟩ := Option.map_eq_some_iff.1 hu
  rw [Nat.zero_add]
  exact h.at_ j t ht⟩⟩
section
variable {Ts : List TabM} {j : Nat} {T : TabM}
def mergeLeast (o o2 : Option Ent) : Option Ent := match o2 with
 | none => o
 | some e => match o with
  | none => some e
  | some b => if lessE e b then some e else some b
def leastTs (f : Ent) (Ts : List TabM) : Option Ent := Ts.foldl (fun o T => mergeLeast o (leastL f none (entsT T.gs))) none
def sumG (Ts : List TabM) : Nat := (Ts.map fun T => T.gs.length).sum
end
theorem clone_tabs (rb cap : Nat) (ts : List Nat) (hn : 1 ≤ ts.length ∧ ts.length ≤ 2) (w : World) (h : RowAt w rb ts) :
  Calls Tryz.prog 286 #[.slice (some ⟨rb, 0, none⟩) ts.length cap] w fun e w' => ∃ rb' c', w.heap.size ≤ rb' ∧ e = .returned (.slice (some ⟨rb', 0, none⟩) ts.length c') ∧ RowAt w' rb' ts ∧ Below w.heap.size w w' := by
 have HR := qd h.reads
 obtain ⟨n1, n2⟩ := hn
 have hnn : (Go.binOp .eql 276 (.slice (some ⟨rb, 0, none⟩) ts.length cap) (.slice none 0 0)).run Tryz.prog w = .ok (.bool false) w := by first | rfl | kernel_rfl | simp [Go.binOp, go_sem]
 clear h
 go_in
 go_wp2_with (at_builtin; refine wpList_app rfl rfl slty_ptab (World.ownsRow_lit w #[] 0 (Nat.le_refl _) (by simp) rfl) rfl rfl (HR.out.alloc (Nat.le_refl _) _) (ptrs_all ts) (by omega) (by simp) ?_; intro v4 w4 hown4 hg4)
 rw [Nat.zero_add] at hown4
 obtain ⟨A4, c4, rfl⟩ := own_form hown4
 go_ret
 obtain ⟨rb', rfl, hrb', hrow, _⟩ := RowAt.of_own (show w4.ownsRow w.heap.size 167 1 (.slice A4 ts.length c4) ts.length (ptrs ts) from by simpa using hown4) (by omega)
 have hB : Below w.heap.size w w4 := ((Below.refl _ _).alloc (Nat.le_refl _) _).trans hg4.below
 first | exact ⟨rb', hrb', ⟨_, rfl⟩, hrow, hB⟩ | exact ⟨rb', _, hrb', rfl, hrow, hB⟩
theorem evac_New (tb rb cap depth : Nat) (ts : List Nat) (hn : 1 ≤ ts.length ∧ ts.length ≤ 2) (hd : depth ≤ 15) (w : World) (h : RowAt w rb ts) :
  Calls Tryz.prog 283 #[.pointer (some ⟨tb, 0, none⟩), .int .i64 (depth : Int), .slice (some ⟨rb, 0, none⟩) ts.length cap] w fun e w' => ∃ eb vb c2, w.heap.size ≤ eb ∧ w.heap.size ≤ vb ∧ eb ≠ vb ∧ e = .returned (.tuple #[.pointer (some ⟨eb, 0, none⟩), .nilIface]) ∧ EvAt w' eb tb vb c2 ts depth 0 ∧ Below w.heap.size w w' := by
 obtain ⟨n1, n2⟩ := hn
 have HC := qd (contains_nil rb cap ts n2 w h)
 have HK := qd (clone_tabs rb cap ts ⟨n1, n2⟩ w h)
 have hnl : ts.length = 1 ∨ ts.length = 2 := by omega
 have hd0 : ¬ (depth : Int) < 0 := by omega
 have hd1 : ¬ (depth : Int) > 15 := by omega
 clear h
 obtain ⟨n, hnn⟩ : ∃ n, n = ts.length := ⟨_, rfl⟩
 have HNn := qd hnn
 rw [← hnn] at HC HK hnl n1 n2
 simp only [← hnn]
 clear hnn
 rcases hnl with rfl | rfl
 all_goals
  go_in
  go_wp2_with fail
  refine (HC.out).mono ?_
  rintro y w1 ⟨rfl, rfl⟩
  go_wp2_with fail
  refine (HK.out).mono ?_
  rintro y w2 ⟨vb, c2, hvb, rfl, hrow, hb⟩
  have hvl := hrow.lt
  have HN2 := qd (Blk.new w2 306 #[.pointer (some ⟨tb, 0, none⟩), .slice (some ⟨vb, 0, none⟩) ts.length c2, .int .i64 (depth : Int), .int .i64 0])
  have HE := qd (And.intro (hrow.mod (Mod.of_below ((Below.refl w2.heap.size w2).alloc (Nat.le_refl _) (.cells #[.pointer (some ⟨tb, 0, none⟩), .slice (some ⟨vb, 0, none⟩) ts.length c2, .int .i64 (depth : Int), .int .i64 0] 306)) []) (by simp)) (hb.alloc hb.size (.cells #[.pointer (some ⟨tb, 0, none⟩), .slice (some ⟨vb, 0, none⟩) ts.length c2, .int .i64 (depth : Int), .int .i64 0] 306)))
  rw [← HNn.out] at HN2 HE
  have hbs := hb.size
  clear hrow hb
  go_wp2
  refine bodyPost_ret (v := .tuple #[.pointer (some ⟨w2.heap.size, 0, none⟩), .nilIface]) (by simp [results, Tryz.results283, go_sem]) rfl ?_
  have hEv : EvAt (w2.alloc (.cells #[.pointer (some ⟨tb, 0, none⟩), .slice (some ⟨vb, 0, none⟩) _ c2, .int .i64 (depth : Int), .int .i64 0] 306)) w2.heap.size tb vb c2 ts depth 0 := ⟨by rw [← HNn.out]; exact HN2.out, HE.out.1⟩
  first | exact ⟨w2.heap.size, vb, c2, hbs, hvb, by omega, rfl, hEv, HE.out.2⟩ | exact ⟨w2.heap.size, hbs, vb, hvb, by omega, rfl, c2, hEv, HE.out.2⟩
end Go.Proofs.YtgfcmdmpegomdaaGreatDoor
