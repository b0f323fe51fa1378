/- A dual's Find, Put, Delete by their contracts, whatever its seek has told. -/
import Derived.Test.YtcgjgfgkdoohlaaGreatDoorCoAI
import Derived.Test.YtcgjgfgkdoohlaaGreatDoorSqT
import Derived.Test.YtcgjgfgkdoohlaaGreatDoorLaneP
import Derived.Test.YtcgjgfgkdoohlaaGreatDoorCoEnv
namespace Go.Proofs.YtcgjgfgkdoohlaaGreatDoor
section
set_option maxRecDepth 100000
set_option maxHeartbeats 4000000
open Go.RowKit AmC
def SeekTo (w : World) (db : Nat) (P : MP) (x : Mtr) (c : Cnt) (key hash tX gX : Nat) (TX : TabM) (cnt : Nat) : Prop :=
 ∀ V, Below w.heap.size w V → Calls Tryz.prog 94 #[dualP db, lensV (some ⟨P.mb, P.mo, none⟩) c, .int .u64 (key : Int), .int .u64 (hash : Int)] V (SeekPost V P x c key hash tX gX TX cnt)
theorem dual_Find (db tX gX cnt : Nat) (TX : TabM) (P : MP) (x : Mtr) (c : Cnt) (key hash : Nat) (w : World) (hS : SeekTo w db P x c key hash tX gX TX cnt) (h : TabAt w tX gX TX) (hml : P.mb < w.heap.size) (hmt : P.mb ≠ tX) (hmg : P.mb ≠ gX) :
  Calls Tryz.prog 86 #[dualP db, lensV (some ⟨P.mb, P.mo, none⟩) c, .int .u64 (key : Int), .int .u64 (hash : Int)] w fun e w' => e = .returned (optE (foundE TX.gs key hash)) ∧ MetP w' P (x.add c cnt) ∧ Mod [P.mb] w w' := by
 obtain ⟨W, hW, hB, hL, hR⟩ := qX2 w 89 #[.pointer (some ⟨P.mb, P.mo, none⟩), .int .i64 c.p, .int .i64 c.v, .int .i64 c.u] 37 #[.int .u64 0, .int .u64 0, .int .u64 0]
 have lc := hL.c4
 have htl := h.ltT
 have hgl := h.ltG
 have HW := qd hW
 have HSk := qd (hS W hB)
 unfold SeekPost spotV at HSk
 unfold dualP lensV at HSk ⊢
 have HEn := qd (fun ap fp fs hap V hV => spot_Entry tX gX key hash TX ap fp fs hap V hV)
 unfold spotV optE entV at HEn
 unfold optE entV
 obtain ⟨fe, hfe⟩ : ∃ fe, fe = (foundE TX.gs key hash).getD ⟨0, 0, 0⟩ := ⟨_, rfl⟩
 obtain ⟨fb, hfb⟩ : ∃ fb, fb = (foundE TX.gs key hash).isSome := ⟨_, rfl⟩
 rw [← hfe, ← hfb] at HEn ⊢
 clear hfe hfb
 obtain ⟨s1, hs1⟩ : ∃ s, s = slotI (seek TX.gs key hash).1 := ⟨_, rfl⟩
 obtain ⟨s2, hs2⟩ : ∃ s, s = slotI (seek TX.gs key hash).2.1 := ⟨_, rfl⟩
 obtain ⟨sb0, hsb⟩ : ∃ s, s = (seek TX.gs key hash).1.isSome := ⟨_, rfl⟩
 rw [← hs1, ← hs2, ← hsb] at HSk
 rw [← hs1] at HEn
 clear hs1 hs2 hsb
 have HT := qd (h.below hB)
 have HR := qd (hR)
 have Hmod := qd (Mod.of_below hB [P.mb])
 clear hW hB h hL hR hS
 go_in
 go_upto_region 1 with fail
 rw [← HW.out]
 go_wp2_with fail
 refine (HSk.out).mono ?_
 rintro x w1 ⟨ap, fp, rfl, hap, hfp, hM1, hm⟩
 clear lc
 replace HT := qM hm HT
 replace HR := qM hm HR
 have z1 := (hm).size
 replace Hmod := qU Hmod hm
 clear hm
 have HM := qd (hM1)
 clear hM1 hfp
 go_upto_region 2 with fail
 have q2 := qJ HT.out.ltT (qJ HT.out.ltG (qJ HR.out.lt (qJ HM.out.lt Hmod.out.size)))
 refine nameB 142 #[.pointer (some ⟨tX, 0, none⟩), .int .u64 (key : Int), .int .u64 (hash : Int), .pointer ap, .int .i64 s1, .pointer fp, .int .i64 s2] ?_
 rintro w2 ⟨hnew, hb⟩
 replace HT := qB hb HT
 replace HR := qB hb HR
 replace HM := qB hb HM
 have z7 := (hb).size
 replace Hmod := qT Hmod hb
 have HS := qd (hnew)
 clear hnew hb
 have sp := HS.out.c7
 go_wp2_with fail
 refine (HEn.out ap fp s2 hap w2 HT.out).mono ?_
 rintro x w3 ⟨rfl, hb⟩
 clear sp
 replace HT := qB hb HT
 replace HR := qB hb HR
 replace HM := qB hb HM
 replace HS := qB hb HS
 have z8 := (hb).size
 replace Hmod := qT Hmod hb
 clear hb
 have rc := HR.out.c3
 have rf := HR.out.f3
 go_wp2
 have q9 := qJ HT.out.ltT (qJ HT.out.ltG (qJ HR.out.lt (qJ HM.out.lt HS.out.lt)))
 have hnew := (((HR.out.set_ 0 (.int .u64 (fe.key : Int))).set_ 1 (.int .u64 (fe.val : Int))).set_ 2 (.int .u64 (fe.hash : Int)))
 have hm := ((((Mod.refl [(w.heap.size + 1)] w3).sl 0 (.int .u64 (fe.key : Int))).sl 1 (.int .u64 (fe.val : Int))).sl 2 (.int .u64 (fe.hash : Int)))
 simp only [pt] at hnew
 refine nameW (F := fun v => Blk v (w.heap.size + 1) 37 #[.int .u64 (fe.key : Int), .int .u64 (fe.val : Int), .int .u64 (fe.hash : Int)] ∧ Mod [(w.heap.size + 1)] w3 v) ⟨hnew, hm⟩ ?_
 clear hnew hm
 rintro w5 ⟨hnew, hm⟩
 clear rc rf
 replace HT := qM hm HT
 replace HM := qM hm HM
 replace HS := qM hm HS
 have z14 := (hm).size
 replace Hmod := qU Hmod hm
 replace HR := qd hnew
 clear hnew hm
 have rx := HR.out.c3
 refine bodyPost_ret (v := .tuple #[.agg #[.int .u64 (fe.key : Int), .int .u64 (fe.val : Int), .int .u64 (fe.hash : Int)], .bool fb]) (by simp [results, Tryz.results86, go_sem, rx.1, rx.2.1, rx.2.2]) rfl ⟨rfl, HM.out, Hmod.out⟩
theorem dual_Delete_found (db tX gX cnt : Nat) (TX : TabM) (P : MP) (x : Mtr) (c : Cnt) (key hash : Nat) (w : World) (hS : SeekTo w db P x c key hash tX gX TX cnt) (h : TabAt w tX gX TX) (hml : P.mb < w.heap.size) (hmt : P.mb ≠ tX) (hmg : P.mb ≠ gX) (i s : Nat) (hsk : (seek TX.gs key hash).1 = some (i, s)) (e0 : Ent) (he0 : slotAt TX.gs i s = .full e0) (hSm : Small TX) :
  Calls Tryz.prog 59 #[dualP db, lensV (some ⟨P.mb, P.mo, none⟩) c, .int .u64 (key : Int), .int .u64 (hash : Int)] w fun e w' => e = .returned (optE (some e0)) ∧ TabAt w' tX gX (eraseM TX i s) ∧ MetP w' P (x.add c cnt) ∧ Mod [P.mb, tX, gX] w w' := by
 obtain ⟨W, hW, hB, hL, hR⟩ := qX2 w 89 #[.pointer (some ⟨P.mb, P.mo, none⟩), .int .i64 c.p, .int .i64 c.v, .int .i64 c.u] 37 #[.int .u64 0, .int .u64 0, .int .u64 0]
 have lc := hL.c4
 have htl := h.ltT
 have hgl := h.ltG
 have HW := qd hW
 have HSk := qd (hS W hB)
 unfold SeekPost spotV at HSk
 unfold dualP lensV at HSk ⊢
 obtain ⟨e1, he1, hk0, hil, hsl⟩ := seek_full hsk
 have hs8 : s < 8 := by have := h.wide.at_ hil; omega
 have HEn := qd (fun ap fp fs hap V hV => spot_Entry tX gX key hash TX ap fp fs hap V hV)
 unfold foundE at HEn
 obtain ⟨fs, hfs⟩ : ∃ fs, fs = slotI (seek TX.gs key hash).2.1 := ⟨_, rfl⟩
 rw [hsk] at HEn HSk
 rw [← hfs] at HSk
 clear hfs
 simp only [Option.map_some, he0, Option.getD_some, Option.isSome_some, Slot.ent, slotI, optE] at HEn HSk
 unfold spotV entV at HEn
 unfold optE entV
 simp only [Option.getD_some, Option.isSome_some]
 have HT := qd (h.below hB)
 have HR := qd (hR)
 have Hmod := qd (Mod.of_below hB [P.mb, tX, gX])
 clear hW hB h hL hR hS he1
 go_in
 go_upto_region 1 with fail
 rw [← HW.out]
 go_wp2_with fail
 refine (HSk.out).mono ?_
 rintro x w1 ⟨ap, fp, rfl, hap, hfp, hM1, hm⟩
 clear lc
 replace HT := qM hm HT
 replace HR := qM hm HR
 have z1 := (hm).size
 replace Hmod := qU Hmod hm
 clear hm
 obtain rfl := hap i s rfl
 clear hap hfp
 have HM := qd (hM1)
 clear hM1
 go_upto_region 2 with fail
 have q2 := qJ HT.out.ltT (qJ HT.out.ltG (qJ HR.out.lt (qJ HM.out.lt Hmod.out.size)))
 refine nameB 142 #[.pointer (some ⟨tX, 0, none⟩), .int .u64 (key : Int), .int .u64 (hash : Int), .pointer (some ⟨gX, i * 25, none⟩), .int .i64 (s : Int), .pointer fp, .int .i64 fs] ?_
 rintro w2 ⟨hnew, hb⟩
 replace HT := qB hb HT
 replace HR := qB hb HR
 replace HM := qB hb HM
 have z7 := (hb).size
 replace Hmod := qT Hmod hb
 have HS := qd (hnew)
 clear hnew hb
 have sp := HS.out.c7
 go_wp2_with fail
 refine (HEn.out (some ⟨gX, i * 25, none⟩) fp fs (fun i2 s2 hh => by cases hh; rfl) w2 HT.out).mono ?_
 rintro x w3 ⟨rfl, hb⟩
 clear sp
 replace HT := qB hb HT
 replace HR := qB hb HR
 replace HM := qB hb HM
 replace HS := qB hb HS
 have z8 := (hb).size
 replace Hmod := qT Hmod hb
 clear hb
 go_upto_region 3 with fail
 have q9 := qJ HT.out.ltT (qJ HT.out.ltG (qJ HR.out.lt (qJ HM.out.lt (qJ HS.out.lt Hmod.out.size))))
 refine nameB 37 #[.int .u64 (e0.key : Int), .int .u64 (e0.val : Int), .int .u64 (e0.hash : Int)] ?_
 rintro w4 ⟨hnew, hb⟩
 replace HT := qB hb HT
 replace HR := qB hb HR
 replace HM := qB hb HM
 replace HS := qB hb HS
 have z15 := (hb).size
 replace Hmod := qT Hmod hb
 have HD := qd (hnew)
 clear hnew hb
 have sp := HS.out.c7
 have dc := HD.out.c3
 have HRm := qd (spot_Remove tX key hash gX fp fs TX i s hil hs8 e0 he0 hSm w4.drew (HT.out.below (Below.refl _ _).drew))
 refine region_T (fun (w' : World) => w'.cell? ⟨w3.heap.size, 0, none⟩ = some (.int .u64 (e0.key : Int)) ∧ w'.cell? ⟨w3.heap.size, 1, none⟩ = some (.int .u64 (e0.val : Int)) ∧ w'.cell? ⟨w3.heap.size, 2, none⟩ = some (.int .u64 (e0.hash : Int)) ∧ w'.cell? ⟨w1.heap.size, 0, none⟩ = some (.pointer (some ⟨tX, 0, none⟩)) ∧ w'.cell? ⟨w1.heap.size, 1, none⟩ = some (.int .u64 (key : Int)) ∧ w'.cell? ⟨w1.heap.size, 2, none⟩ = some (.int .u64 (hash : Int)) ∧ w'.cell? ⟨w1.heap.size, 3, none⟩ = some (.pointer (some ⟨gX, i * 25, none⟩)) ∧ w'.cell? ⟨w1.heap.size, 4, none⟩ = some (.int .i64 (s : Int)) ∧ w'.cell? ⟨w1.heap.size, 5, none⟩ = some (.pointer fp) ∧ w'.cell? ⟨w1.heap.size, 6, none⟩ = some (.int .i64 fs)) [7] (by kernel_rfl) ?_
 try (change wpAnyT _ _ _ _ _ _ _ _ _ (World.drew _))
 have hHeld := (⟨dc.1, dc.2.1, dc.2.2, sp.1, sp.2.1, sp.2.2.1, sp.2.2.2.1, sp.2.2.2.2.1, sp.2.2.2.2.2.1, sp.2.2.2.2.2.2⟩ : _ ∧ _ ∧ _ ∧ _ ∧ _ ∧ _ ∧ _ ∧ _ ∧ _ ∧ _)
 refine vT 0 rfl ?_
 refine vW 1 rfl ?_
 refine vW 2 rfl ?_
 refine vT 3 rfl ?_
 refine nT 4 rfl fun K hK => ?_
 go_simp
 refine (HRm.out).mono ?_
 rintro x w5 ⟨rfl, hT5, hm⟩
 replace hm : Mod [tX, gX] w4 w5 := (Mod.drewN [tX, gX] w4 1).then hm
 clear HT sp dc
 replace HR := qM hm HR
 replace HM := qM hm HM
 replace HS := qM hm HS
 replace HD := qM hm HD
 have z16 := (hm).size
 replace Hmod := qU Hmod hm
 have HT := qd (hT5)
 clear hT5 hm
 have sp := HS.out.c7
 have dc := HD.out.c3
 have rc := HR.out.c3
 have rf := HR.out.f3
 go_simp
 have hHeld := (⟨dc.1, dc.2.1, dc.2.2, sp.1, sp.2.1, sp.2.2.1, sp.2.2.2.1, sp.2.2.2.2.1, sp.2.2.2.2.2.1, sp.2.2.2.2.2.2⟩ : _ ∧ _ ∧ _ ∧ _ ∧ _ ∧ _ ∧ _ ∧ _ ∧ _ ∧ _)
 refine kO hK ?_
 clear hK K
 refine vW 5 rfl ?_
 refine vW 6 rfl ?_
 refine nT 7 rfl fun K hK => ?_
 go_simp
 refine kO hK ?_
 clear hK K
 refine vL 8 rfl ?_
 refine doneT (by kernel_rfl) ?_ _
 clear HS HD
 have q17 := qJ HR.out.lt (qJ HM.out.lt (qJ HT.out.ltT HT.out.ltG))
 have hnew := (((HR.out.set_ 0 (.int .u64 (e0.key : Int))).set_ 1 (.int .u64 (e0.val : Int))).set_ 2 (.int .u64 (e0.hash : Int)))
 have hm := ((((Mod.refl [(w.heap.size + 1)] w5).sl 0 (.int .u64 (e0.key : Int))).sl 1 (.int .u64 (e0.val : Int))).sl 2 (.int .u64 (e0.hash : Int)))
 simp only [pt] at hnew
 refine nameW (F := fun v => Blk v (w.heap.size + 1) 37 #[.int .u64 (e0.key : Int), .int .u64 (e0.val : Int), .int .u64 (e0.hash : Int)] ∧ Mod [(w.heap.size + 1)] w5 v) ⟨hnew, hm⟩ ?_
 clear hnew hm
 rintro w6 ⟨hnew, hm⟩
 replace HM := qM hm HM
 replace HT := qM hm HT
 have z21 := (hm).size
 replace Hmod := qU Hmod hm
 replace HR := qd hnew
 clear hnew hm
 have rc := HR.out.c3
 go_wp2
 refine bodyPost_ret (v := .tuple #[.agg #[.int .u64 (e0.key : Int), .int .u64 (e0.val : Int), .int .u64 (e0.hash : Int)], .bool true]) (by simp [results, Tryz.results59, go_sem, rc.1, rc.2.1, rc.2.2]) rfl ⟨rfl, HT.out, HM.out, Hmod.out⟩
theorem dual_Delete_none (db tX gX cnt : Nat) (TX : TabM) (P : MP) (x : Mtr) (c : Cnt) (key hash : Nat) (w : World) (hS : SeekTo w db P x c key hash tX gX TX cnt) (h : TabAt w tX gX TX) (hml : P.mb < w.heap.size) (hmt : P.mb ≠ tX) (hmg : P.mb ≠ gX) (hsk : (seek TX.gs key hash).1 = none) :
  Calls Tryz.prog 59 #[dualP db, lensV (some ⟨P.mb, P.mo, none⟩) c, .int .u64 (key : Int), .int .u64 (hash : Int)] w fun e w' => e = .returned (optE none) ∧ TabAt w' tX gX TX ∧ MetP w' P (x.add c cnt) ∧ Mod [P.mb] w w' := by
 obtain ⟨W, hW, hB, hL, hR⟩ := qX2 w 89 #[.pointer (some ⟨P.mb, P.mo, none⟩), .int .i64 c.p, .int .i64 c.v, .int .i64 c.u] 37 #[.int .u64 0, .int .u64 0, .int .u64 0]
 have lc := hL.c4
 have htl := h.ltT
 have hgl := h.ltG
 have HW := qd hW
 have HSk := qd (hS W hB)
 unfold SeekPost spotV at HSk
 unfold dualP lensV at HSk ⊢
 have HEn := qd (fun ap fp fs hap V hV => spot_Entry tX gX key hash TX ap fp fs hap V hV)
 unfold foundE at HEn
 obtain ⟨fs, hfs⟩ : ∃ fs, fs = slotI (seek TX.gs key hash).2.1 := ⟨_, rfl⟩
 rw [hsk] at HEn HSk
 rw [← hfs] at HSk
 clear hfs
 simp only [Option.map_none, Option.getD_none, Option.isSome_none, Slot.ent, slotI, optE] at HEn HSk
 unfold spotV entV at HEn
 unfold optE entV
 simp only [Option.getD_none, Option.isSome_none]
 have HT := qd (h.below hB)
 have HR := qd (hR)
 have Hmod := qd (Mod.of_below hB [P.mb])
 clear hW hB h hL hR hS
 go_in
 go_upto_region 1 with fail
 rw [← HW.out]
 go_wp2_with fail
 refine (HSk.out).mono ?_
 rintro x w1 ⟨ap, fp, rfl, hap, hfp, hM1, hm⟩
 clear lc
 replace HT := qM hm HT
 replace HR := qM hm HR
 have z1 := (hm).size
 replace Hmod := qU Hmod hm
 clear hm hap hfp
 have HM := qd (hM1)
 clear hM1
 go_upto_region 2 with fail
 have q2 := qJ HT.out.ltT (qJ HT.out.ltG (qJ HR.out.lt (qJ HM.out.lt Hmod.out.size)))
 refine nameB 142 #[.pointer (some ⟨tX, 0, none⟩), .int .u64 (key : Int), .int .u64 (hash : Int), .pointer ap, .int .i64 (-1), .pointer fp, .int .i64 fs] ?_
 rintro w2 ⟨hnew, hb⟩
 replace HT := qB hb HT
 replace HR := qB hb HR
 replace HM := qB hb HM
 have z7 := (hb).size
 replace Hmod := qT Hmod hb
 have HS := qd (hnew)
 clear hnew hb
 have sp := HS.out.c7
 go_wp2_with fail
 refine (HEn.out ap fp fs (fun i2 s2 hh => by cases hh) w2 HT.out).mono ?_
 rintro x w3 ⟨rfl, hb⟩
 clear sp
 replace HT := qB hb HT
 replace HR := qB hb HR
 replace HM := qB hb HM
 replace HS := qB hb HS
 have z8 := (hb).size
 replace Hmod := qT Hmod hb
 clear hb
 go_upto_region 3 with fail
 have q9 := qJ HT.out.ltT (qJ HT.out.ltG (qJ HR.out.lt (qJ HM.out.lt (qJ HS.out.lt Hmod.out.size))))
 refine nameB 37 #[.int .u64 0, .int .u64 0, .int .u64 0] ?_
 rintro w4 ⟨hnew, hb⟩
 replace HT := qB hb HT
 replace HR := qB hb HR
 replace HM := qB hb HM
 replace HS := qB hb HS
 have z15 := (hb).size
 replace Hmod := qT Hmod hb
 have HD := qd (hnew)
 clear hnew hb
 have sp := HS.out.c7
 have dc := HD.out.c3
 have rc := HR.out.c3
 have rf := HR.out.f3
 refine region_T (fun (w' : World) => w'.cell? ⟨w3.heap.size, 0, none⟩ = some (.int .u64 0) ∧ w'.cell? ⟨w3.heap.size, 1, none⟩ = some (.int .u64 0) ∧ w'.cell? ⟨w3.heap.size, 2, none⟩ = some (.int .u64 0)) [7] (by kernel_rfl) ?_
 try (change wpAnyT _ _ _ _ _ _ _ _ _ (World.drew _))
 have hHeld := (⟨dc.1, dc.2.1, dc.2.2⟩ : _ ∧ _ ∧ _)
 refine vT 0 rfl ?_
 refine vW 1 rfl ?_
 refine vW 2 rfl ?_
 refine vU 3 rfl ?_
 refine vU 4 rfl ?_
 refine vU 5 rfl ?_
 refine vW 6 rfl ?_
 refine nT 7 rfl fun K hK => ?_
 go_simp
 refine kO hK ?_
 clear hK K
 refine vL 8 rfl ?_
 refine doneT (by kernel_rfl) ?_ _
 clear HS HD
 have q16 := qJ HT.out.ltT (qJ HT.out.ltG (qJ HR.out.lt HM.out.lt))
 have hnew := (((HR.out.set_ 0 (.int .u64 0)).set_ 1 (.int .u64 0)).set_ 2 (.int .u64 0)).drew
 have hm := (((((Mod.refl [(w.heap.size + 1)] w4).sl 0 (.int .u64 0)).sl 1 (.int .u64 0)).sl 2 (.int .u64 0)).then (Mod.drewN [(w.heap.size + 1)] _ 1))
 simp only [pt] at hnew
 refine nameW (F := fun v => Blk v (w.heap.size + 1) 37 #[.int .u64 0, .int .u64 0, .int .u64 0] ∧ Mod [(w.heap.size + 1)] w4 v) ⟨hnew, hm⟩ ?_
 clear hnew hm
 rintro w6 ⟨hnew, hm⟩
 replace HT := qM hm HT
 replace HM := qM hm HM
 have z20 := (hm).size
 replace Hmod := qU Hmod hm
 replace HR := qd hnew
 clear hnew hm
 have rc := HR.out.c3
 go_wp2
 refine bodyPost_ret (v := .tuple #[.agg #[.int .u64 0, .int .u64 0, .int .u64 0], .bool false]) (by simp [results, Tryz.results59, go_sem, rc.1, rc.2.1, rc.2.2]) rfl ⟨rfl, HT.out, HM.out, Hmod.out⟩
theorem dual_Put_found (db tX gX cnt : Nat) (TX : TabM) (P : MP) (x : Mtr) (c : Cnt) (e : Ent) (w : World) (hS : SeekTo w db P x c e.key e.hash tX gX TX cnt) (h : TabAt w tX gX TX) (hml : P.mb < w.heap.size) (hmt : P.mb ≠ tX) (hmg : P.mb ≠ gX) (more : Bool) (i s : Nat) (hsk : (seek TX.gs e.key e.hash).1 = some (i, s)) (e0 : Ent) (he0 : slotAt TX.gs i s = .full e0) :
  Calls Tryz.prog 70 #[dualP db, lensV (some ⟨P.mb, P.mo, none⟩) c, entV e, .bool more] w fun y w' => y = .returned (.tuple #[.bool false, .nilIface]) ∧ TabAt w' tX gX (replaceM TX i s e.val e0) ∧ MetP w' P (x.add c cnt) ∧ Mod [P.mb, tX, gX] w w' := by
 obtain ⟨W, hW, hB, hL, hE⟩ := qX2 w 89 #[.pointer (some ⟨P.mb, P.mo, none⟩), .int .i64 c.p, .int .i64 c.v, .int .i64 c.u] 37 #[.int .u64 (e.key : Int), .int .u64 (e.val : Int), .int .u64 (e.hash : Int)]
 have lc := hL.c4
 have ec := hE.c3
 have htl := h.ltT
 have hgl := h.ltG
 have HW := qd hW
 have HSk := qd (hS W hB)
 unfold SeekPost spotV at HSk
 unfold dualP lensV at HSk ⊢
 obtain ⟨e1, he1, hk0, hil, hsl⟩ := seek_full hsk
 have hs8 : s < 8 := by have := h.wide.at_ hil; omega
 obtain ⟨fs, hfs⟩ : ∃ fs, fs = slotI (seek TX.gs e.key e.hash).2.1 := ⟨_, rfl⟩
 rw [hsk] at HSk
 rw [← hfs] at HSk
 clear hfs
 simp only [Option.isSome_some, slotI] at HSk
 unfold entV
 have HT := qd (h.below hB)
 have HE := qd (hE)
 have Hmod := qd (Mod.of_below hB [P.mb, tX, gX])
 clear hW hB h hL hE hS he1
 go_in
 go_upto_region 1 with fail
 rw [← HW.out]
 go_wp2_with fail
 refine (HSk.out).mono ?_
 rintro x w1 ⟨ap, fp, rfl, hap, hfp, hM1, hm⟩
 clear lc ec
 replace HT := qM hm HT
 replace HE := qM hm HE
 have z1 := (hm).size
 replace Hmod := qU Hmod hm
 clear hm
 obtain rfl := hap i s rfl
 clear hap hfp
 have HM := qd (hM1)
 clear hM1
 go_upto_region 2 with fail
 have q2 := qJ HT.out.ltT (qJ HT.out.ltG (qJ HE.out.lt (qJ HM.out.lt Hmod.out.size)))
 refine nameB 142 #[.pointer (some ⟨tX, 0, none⟩), .int .u64 (e.key : Int), .int .u64 (e.hash : Int), .pointer (some ⟨gX, i * 25, none⟩), .int .i64 (s : Int), .pointer fp, .int .i64 fs] ?_
 rintro w2 ⟨hnew, hb⟩
 replace HT := qB hb HT
 replace HE := qB hb HE
 replace HM := qB hb HM
 have z7 := (hb).size
 replace Hmod := qT Hmod hb
 have HS := qd (hnew)
 clear hnew hb
 have sp := HS.out.c7
 have ec := HE.out.c3
 have HRe := qd (spot_Replace tX e.key e.hash gX fp fs TX i s e.val hil hs8 e0 he0 w2 HT.out)
 unfold spotV at HRe
 clear HT
 go_wp2_with fail
 refine (HRe.out).mono ?_
 rintro x w5 ⟨rfl, hT5, hm⟩
 clear sp ec
 replace HE := qM hm HE
 replace HM := qM hm HM
 replace HS := qM hm HS
 have z8 := (hm).size
 replace Hmod := qU Hmod hm
 clear hm
 have HT := qd (hT5)
 clear hT5
 go_wp2
 refine bodyPost_ret (v := .tuple #[.bool false, .nilIface]) (by simp [results, Tryz.results70, go_sem]) rfl ⟨rfl, HT.out, HM.out, Hmod.out⟩
theorem dual_Put_new (db tX gX cnt : Nat) (TX : TabM) (P : MP) (x : Mtr) (c : Cnt) (e : Ent) (w : World) (hS : SeekTo w db P x c e.key e.hash tX gX TX cnt) (h : TabAt w tX gX TX) (hml : P.mb < w.heap.size) (hmt : P.mb ≠ tX) (hmg : P.mb ≠ gX) (hP : Pw TX.gs.length) (h64 : e.hash < 18446744073709551616) (hsk : (seek TX.gs e.key e.hash).1 = none) (i s : Nat) (hfr : (seek TX.gs e.key e.hash).2.1 = some (i, s)) (hSm : Small TX) (hroom : TX.live + TX.tombs + 1 ≤ 7 * (TX.gs.length : Int)) :
  Calls Tryz.prog 70 #[dualP db, lensV (some ⟨P.mb, P.mo, none⟩) c, entV e, .bool true] w fun y w' => y = .returned (.tuple #[.bool true, .nilIface]) ∧ TabAt w' tX gX (placeM TX i s e) ∧ MetP w' P (x.add c cnt) ∧ Mod [P.mb, tX, gX] w w' := by
 obtain ⟨W, hW, hB, hL, hE⟩ := qX2 w 89 #[.pointer (some ⟨P.mb, P.mo, none⟩), .int .i64 c.p, .int .i64 c.v, .int .i64 c.u] 37 #[.int .u64 (e.key : Int), .int .u64 (e.val : Int), .int .u64 (e.hash : Int)]
 have lc := hL.c4
 have ec := hE.c3
 have htl := h.ltT
 have hgl := h.ltG
 have HW := qd hW
 have HSk := qd (hS W hB)
 unfold SeekPost spotV at HSk
 unfold dualP lensV at HSk ⊢
 have h8 := fun i hi => h.wide.at_ (i := i) hi
 obtain ⟨fs, hfs⟩ : ∃ fs, fs = slotI (seek TX.gs e.key e.hash).2.1 := ⟨_, rfl⟩
 rw [hsk] at HSk
 rw [← hfs] at HSk
 rw [hfr] at hfs
 simp only [slotI] at hfs
 subst hfs
 rw [hfr] at HSk
 simp only [Option.isSome_none, slotI] at HSk
 unfold entV
 have HT := qd (h.below hB)
 have HE := qd (hE)
 have Hmod := qd (Mod.of_below hB [P.mb, tX, gX])
 clear hW hB h hL hE hS
 go_in
 go_upto_region 1 with fail
 rw [← HW.out]
 go_wp2_with fail
 refine (HSk.out).mono ?_
 rintro x w1 ⟨ap, fp, rfl, hap, hfp, hM1, hm⟩
 clear lc ec
 replace HT := qM hm HT
 replace HE := qM hm HE
 have z1 := (hm).size
 replace Hmod := qU Hmod hm
 clear hm
 obtain rfl := hfp i s rfl
 clear hap hfp
 have HM := qd (hM1)
 clear hM1
 go_upto_region 2 with fail
 have q2 := qJ HT.out.ltT (qJ HT.out.ltG (qJ HE.out.lt (qJ HM.out.lt Hmod.out.size)))
 refine nameB 142 #[.pointer (some ⟨tX, 0, none⟩), .int .u64 (e.key : Int), .int .u64 (e.hash : Int), .pointer ap, .int .i64 (-1), .pointer (some ⟨gX, i * 25, none⟩), .int .i64 (s : Int)] ?_
 rintro w2 ⟨hnew, hb⟩
 replace HT := qB hb HT
 replace HE := qB hb HE
 replace HM := qB hb HM
 have z7 := (hb).size
 replace Hmod := qT Hmod hb
 have HS := qd (hnew)
 clear hnew hb
 have sp := HS.out.c7
 have ec := HE.out.c3
 have hFp := seek_freePl TX.gs hP.pos e.key e.hash i s hfr
 have hs8 : s < 8 := by have := h8 i hFp.1; omega
 have HPl := qd (spot_Place tX gX ap TX i s e hFp.1 hs8 h64 hFp.2.2 hSm hroom w2 HT.out)
 unfold spotV entV at HPl
 clear HT
 go_wp2_with fail
 refine (HPl.out).mono ?_
 rintro x w5 ⟨rfl, hT5, hm⟩
 clear sp ec
 replace HE := qM hm HE
 replace HM := qM hm HM
 replace HS := qM hm HS
 have z8 := (hm).size
 replace Hmod := qU Hmod hm
 clear hm
 have HT := qd (hT5)
 clear hT5
 go_wp2
 refine bodyPost_ret (v := .tuple #[.bool true, .nilIface]) (by simp [results, Tryz.results70, go_sem]) rfl ⟨rfl, HT.out, HM.out, Hmod.out⟩
theorem dual_Put_full {W0 : World} {E : Nat → Addr} (db tX gX cnt : Nat) (TX : TabM) (P : MP) (x : Mtr) (c : Cnt) (e : Ent) (w : World) (hS : SeekTo w db P x c e.key e.hash tX gX TX cnt) (h : TabAt w tX gX TX) (hml : P.mb < w.heap.size) (hmt : P.mb ≠ tX) (hmg : P.mb ≠ gX) (hEn : Env W0 E w) (hb0 : W0.heap.size ≤ P.mb) (hsk : (seek TX.gs e.key e.hash).1 = none) :
  Calls Tryz.prog 70 #[dualP db, lensV (some ⟨P.mb, P.mo, none⟩) c, entV e, .bool false] w fun y w' => y = .returned (.tuple #[.bool false, errV E 2]) ∧ TabAt w' tX gX TX ∧ MetP w' P (x.add c cnt) ∧ Mod [P.mb] w w' := by
 obtain ⟨W, hW, hB, hL, hE⟩ := qX2 w 89 #[.pointer (some ⟨P.mb, P.mo, none⟩), .int .i64 c.p, .int .i64 c.v, .int .i64 c.u] 37 #[.int .u64 (e.key : Int), .int .u64 (e.val : Int), .int .u64 (e.hash : Int)]
 have lc := hL.c4
 have ec := hE.c3
 have htl := h.ltT
 have hgl := h.ltG
 have HW := qd hW
 have HSk := qd (hS W hB)
 unfold SeekPost spotV at HSk
 unfold dualP lensV at HSk ⊢
 obtain ⟨fs, hfs⟩ : ∃ fs, fs = slotI (seek TX.gs e.key e.hash).2.1 := ⟨_, rfl⟩
 rw [hsk] at HSk
 rw [← hfs] at HSk
 clear hfs
 simp only [Option.isSome_none, slotI] at HSk
 unfold entV
 have HT := qd (h.below hB)
 have HE := qd (hE)
 have HV0 := qd (hEn.next hB)
 have Hmod := qd (Mod.of_below hB [P.mb])
 clear hW hB h hL hE hS hEn
 go_in
 go_upto_region 1 with fail
 rw [← HW.out]
 go_wp2_with fail
 refine (HSk.out).mono ?_
 rintro x w1 ⟨ap, fp, rfl, hap, hfp, hM1, hm⟩
 clear lc ec
 replace HT := qM hm HT
 replace HE := qM hm HE
 replace HV0 := qM hm HV0
 have z1 := (hm).size
 replace Hmod := qU Hmod hm
 clear hm hap hfp
 have HM := qd (hM1)
 clear hM1
 go_upto_region 2 with fail
 have q2 := qJ HT.out.ltT (qJ HT.out.ltG (qJ HE.out.lt (qJ HM.out.lt Hmod.out.size)))
 refine nameB 142 #[.pointer (some ⟨tX, 0, none⟩), .int .u64 (e.key : Int), .int .u64 (e.hash : Int), .pointer ap, .int .i64 (-1), .pointer fp, .int .i64 fs] ?_
 rintro w2 ⟨hnew, hb⟩
 replace HT := qB hb HT
 replace HE := qB hb HE
 replace HV0 := qB hb HV0
 replace HM := qB hb HM
 have z7 := (hb).size
 replace Hmod := qT Hmod hb
 have HS := qd (hnew)
 clear hnew hb
 have sp := HS.out.c7
 have ec := HE.out.c3
 have her := HV0.out.errs.at_ 2 (by omega) (by omega)
 unfold ErrAt gE at her
 simp only at her
 go_upto_region 5 with fail
 go_region
 go_wp2
 replace HT := qd (HT.out.below (Below.refl _ _).drew)
 replace HM := qd (HM.out.below (Below.refl _ _).drew)
 replace Hmod := qd (Hmod.out.then (Mod.drewN [P.mb] _ 1))
 refine bodyPost_ret (v := .tuple #[.bool false, .iface 260 (.pointer (some (E 2)))]) (by simp [results, Tryz.results70, go_sem]) rfl ⟨by rw [errV_pos E (by omega : 1 ≤ 2)], HT.out, HM.out, Hmod.out⟩
end
section
set_option maxRecDepth 100000
set_option maxHeartbeats 4000000
open Go.RowKit AmC
theorem info_ptab : (Tryz.prog.info? 109).map (fun i => (i.zero, i.size, i.bytes)) = some (some (.pointer none), 1, 8) := by kernel_rfl
theorem slty_ptab : SlTy Tryz.prog 212 109 1 8 := slTy Tryz.underlying212 info_ptab rfl (by decide) (by decide)
theorem ptrs_all (ts : List Nat) : ((ptrs ts).all fun u => u.oneCell') = true := by
 refine List.all_eq_true.2 fun u hu => ?_
 unfold ptrs at hu
 obtain ⟨t, _, rfl⟩ := List.mem_map.1 hu
 rfl
theorem ptrs_length (ts : List Nat) : (ptrs ts).length = ts.length := List.length_map ..
theorem RowAt.reads {w : World} {rb : Nat} {ts : List Nat} (h : RowAt w rb ts) : Reads w w.heap.size 1 (some ⟨rb, 0, none⟩) ts.length (ptrs ts) :=
 ⟨by rw [ptrs_length, Nat.mul_one], fun _ => ⟨rb, 0, rfl, h.lt, fun j u hu => by
  unfold ptrs at hu
  rw [List.getElem?_map] at hu
  obtain ⟨t, ht, rfl⟩ := Option.map_eq_some_iff.1 hu
  rw [Nat.zero_add]
  exact h.at_ j t ht⟩⟩
theorem dual_tables (db ob cap : Nat) (A : Option Addr) (fr : List Nat) (hl2 : fr.length ≤ 2) (dep bls mv tk : Value) (w : World) (hblk : Blk w db 215 #[.pointer (some ⟨ob, 0, none⟩), dep, bls, .slice A fr.length cap, mv, tk]) (hrd : Reads w w.heap.size 1 A fr.length (ptrs fr)) :
  Calls Tryz.prog 166 #[dualP db] w fun e w' => ∃ rb c, w.heap.size ≤ rb ∧ e = .returned (.slice (some ⟨rb, 0, none⟩) (fr.length + 1) c) ∧ RowAt w' rb (fr ++ [ob]) ∧ Below w.heap.size w w' := by
 have hdl := hblk.lt
 have hrl := hl2
 unfold dualP
 have dc0 := hblk.cell 0
 have dc3 := hblk.cell 3
 simp only [gl] at dc0 dc3
 have HRd := qd hrd
 clear hblk hrd
 go_in
 go_upto_region 1 with fail
 refine region_T (fun (w' : World) => w'.cell? ⟨db, 0, none⟩ = some (.pointer (some ⟨ob, 0, none⟩)) ∧ w'.cell? ⟨db, 3, none⟩ = some (.slice A fr.length cap)) [] (by kernel_rfl) ?_
 try (change wpAnyT _ _ _ _ _ _ _ _ _ (World.drew _))
 have hHeld := (⟨dc0, dc3⟩ : _ ∧ _)
 refine vW 1 rfl ?_
 refine vW 2 rfl ?_
 refine vW 3 rfl ?_
 refine vT 4 rfl ?_
 refine vW 6 rfl ?_
 refine vW 7 rfl ?_
 refine vW 8 rfl ?_
 refine vT 9 rfl ?_
 clear hHeld
 refine nameW (F := fun v => Mod [] w v) (Mod.drewN [] w 1) ?_
 rintro V hmV
 have hb0 : Below w.heap.size w V := hmV.to_below
 have HRv := qd (HRd.out.below hb0)
 have hVs := hmV.size
 have hbV : Below w.heap.size V V := Below.refl _ _
 replace dc0 := (hb0.cell (p := ⟨db, 0, none⟩) hdl).trans dc0
 replace dc3 := (hb0.cell (p := ⟨db, 3, none⟩) hdl).trans dc3
 refine pairT (i := 0) (j := 10) (o := ⟨some 3, _, _, _, _, _⟩) (o' := ⟨some 13, _, _, _, _, _⟩) rfl rfl (by kernel_rfl) (fun K hK => ?_) (fun K hK => ?_)
 ·go_simp
  refine nameW (F := fun v => v.ownsRow w.heap.size 109 1 (.slice (some ⟨V.heap.size, 0, none⟩) 0 0) 0 [] ∧ Below V.heap.size V v) ⟨World.ownsRow_lit V #[] 0 (by have := hbV.size; omega) (by simp) (by rfl), (Below.refl _ _).alloc (Nat.le_refl _) _⟩ ?_
  rintro u1 ⟨ho1, hx1⟩
  have hle1 := hbV.size
  have hlt1 : V.heap.size < u1.heap.size := (ho1.lt _ rfl).2
  have hsz1 := hx1.size
  have hb1 : Below w.heap.size V u1 := hbV.trans (hx1.mono (by have := hbV.size; omega))
  refine hK.out _ _ (fun _ => show (fun (w' : World) => w'.cell? ⟨db, 0, none⟩ = some (.pointer (some ⟨ob, 0, none⟩)) ∧ w'.cell? ⟨db, 3, none⟩ = some (.slice A fr.length cap)) _ from ⟨(hb1.cell (p := ⟨db, 0, none⟩) hdl).trans dc0, (hb1.cell (p := ⟨db, 3, none⟩) hdl).trans dc3⟩) ?_
  clear hK K
  try simp only [pt]
  refine pairT (i := 5) (j := 10) (o := ⟨some 8, _, _, _, _, _⟩) (o' := ⟨some 13, _, _, _, _, _⟩) rfl rfl (by kernel_rfl) (fun K hK => ?_) (fun K hK => ?_)
  ·refine step_app (by rfl) (by rfl) slty_ptab ho1 (by rfl) (by rfl) (HRv.out.below hb1) (ptrs_all fr) (by omega) (by have := hb1.size; omega) ?_
   intro v2 u2 ho2 hgr2
   have hb2 : Below w.heap.size V u2 := hb1.trans hgr2.below
   rw [Nat.zero_add, List.nil_append] at ho2
   refine hK.out _ _ (fun _ => show (fun (w' : World) => w'.cell? ⟨db, 0, none⟩ = some (.pointer (some ⟨ob, 0, none⟩)) ∧ w'.cell? ⟨db, 3, none⟩ = some (.slice A fr.length cap)) _ from ⟨(hb2.cell (p := ⟨db, 0, none⟩) hdl).trans dc0, (hb2.cell (p := ⟨db, 3, none⟩) hdl).trans dc3⟩) ?_
   clear hK K
   try simp only [pt]
   refine nT 10 rfl fun K hK => ?_
   go_simp
   refine nameW (F := fun v => Blk v u2.heap.size 109 #[.pointer (some ⟨ob, 0, none⟩)] ∧ Below u2.heap.size u2 v) ⟨Blk.new u2 _ _, (Below.refl _ _).alloc (Nat.le_refl _) _⟩ ?_
   rintro u3 ⟨hB10, hx3⟩
   have hle3 := hb2.size
   have hlt3 := hB10.lt
   have hsz3 := hx3.size
   have ho3 := own_below ho2 hx3 (Nat.le_refl _)
   have hb3 : Below w.heap.size V u3 := hb2.trans (hx3.mono (by have := hb2.size; omega))
   refine hK.out _ _ (fun _ => show (fun (w' : World) => w'.cell? ⟨db, 0, none⟩ = some (.pointer (some ⟨ob, 0, none⟩)) ∧ w'.cell? ⟨db, 3, none⟩ = some (.slice A fr.length cap)) _ from ⟨(hb3.cell (p := ⟨db, 0, none⟩) hdl).trans dc0, (hb3.cell (p := ⟨db, 3, none⟩) hdl).trans dc3⟩) ?_
   clear hK K
   try simp only [pt]
   refine nT 11 rfl fun K hK => ?_
   refine step_app (by rfl) (by rfl) slty_ptab ho3 (by rfl) (by rfl) (reads_blk (size := 1) (m := 1) hB10 (by rfl)) (by rfl) (by omega) (by have := hb3.size; omega) ?_
   intro v4 u4 ho4 hgr4
   have hb4 : Below w.heap.size V u4 := hb3.trans hgr4.below
   obtain ⟨A4, c4, rfl⟩ := own_form ho4
   refine hK.out _ _ (fun _ => show (fun (w' : World) => w'.cell? ⟨db, 0, none⟩ = some (.pointer (some ⟨ob, 0, none⟩)) ∧ w'.cell? ⟨db, 3, none⟩ = some (.slice A fr.length cap)) _ from ⟨(hb4.cell (p := ⟨db, 0, none⟩) hdl).trans dc0, (hb4.cell (p := ⟨db, 3, none⟩) hdl).trans dc3⟩) ?_
   clear hK K
   try simp only [pt]
   have hHeld := show (fun (w' : World) => w'.cell? ⟨db, 0, none⟩ = some (.pointer (some ⟨ob, 0, none⟩)) ∧ w'.cell? ⟨db, 3, none⟩ = some (.slice A fr.length cap)) _ from ⟨(hb4.cell (p := ⟨db, 0, none⟩) hdl).trans dc0, (hb4.cell (p := ⟨db, 3, none⟩) hdl).trans dc3⟩
   refine vW 12 rfl ?_
   refine doneT (by kernel_rfl) ?_ _
   have hpt : ptrs fr ++ [.pointer (some ⟨ob, 0, none⟩)] = ptrs (fr ++ [ob]) := by simp [ptrs]
   have HQ := qd (show u4.ownsRow w.heap.size 109 1 (.slice A4 (fr.length + 1) c4) (fr.length + 1) (ptrs (fr ++ [ob])) from hpt ▸ ho4)
   have HZ := qd (hb0.trans hb4)
   go_wp2
   go_ret
   obtain ⟨rb', rfl, hrb', hrow, _⟩ := RowAt.of_own HQ.out (by omega)
   first | exact ⟨rb', hrb', ⟨_, rfl⟩, hrow, HZ.out⟩ | exact ⟨rb', _, hrb', rfl, hrow, HZ.out⟩ | exact ⟨rb', hrb', _, rfl, hrow, HZ.out⟩
  ·go_simp
   refine nameW (F := fun v => Blk v u1.heap.size 109 #[.pointer (some ⟨ob, 0, none⟩)] ∧ Below u1.heap.size u1 v) ⟨Blk.new u1 _ _, (Below.refl _ _).alloc (Nat.le_refl _) _⟩ ?_
   rintro u5 ⟨hB10, hx5⟩
   have hle5 := hb1.size
   have hlt5 := hB10.lt
   have hsz5 := hx5.size
   have ho5 := own_below ho1 hx5 (Nat.le_refl _)
   have hb5 : Below w.heap.size V u5 := hb1.trans (hx5.mono (by have := hb1.size; omega))
   refine hK.out _ _ (fun _ => show (fun (w' : World) => w'.cell? ⟨db, 0, none⟩ = some (.pointer (some ⟨ob, 0, none⟩)) ∧ w'.cell? ⟨db, 3, none⟩ = some (.slice A fr.length cap)) _ from ⟨(hb5.cell (p := ⟨db, 0, none⟩) hdl).trans dc0, (hb5.cell (p := ⟨db, 3, none⟩) hdl).trans dc3⟩) ?_
   clear hK K
   try simp only [pt]
   refine nT 5 rfl fun K hK => ?_
   refine step_app (by rfl) (by rfl) slty_ptab ho5 (by rfl) (by rfl) (HRv.out.below hb5) (ptrs_all fr) (by omega) (by have := hb5.size; omega) ?_
   intro v6 u6 ho6 hgr6
   have hb6 : Below w.heap.size V u6 := hb5.trans hgr6.below
   replace hB10 : Blk u6 _ _ _ := (hgr6.by_.block _ hB10.lt (by intro e; simp [Value.ownBlock] at e; omega)).trans hB10
   rw [Nat.zero_add, List.nil_append] at ho6
   refine hK.out _ _ (fun _ => show (fun (w' : World) => w'.cell? ⟨db, 0, none⟩ = some (.pointer (some ⟨ob, 0, none⟩)) ∧ w'.cell? ⟨db, 3, none⟩ = some (.slice A fr.length cap)) _ from ⟨(hb6.cell (p := ⟨db, 0, none⟩) hdl).trans dc0, (hb6.cell (p := ⟨db, 3, none⟩) hdl).trans dc3⟩) ?_
   clear hK K
   try simp only [pt]
   refine nT 11 rfl fun K hK => ?_
   refine step_app (by rfl) (by rfl) slty_ptab ho6 (by rfl) (by rfl) (reads_blk (size := 1) (m := 1) hB10 (by rfl)) (by rfl) (by omega) (by have := hb6.size; omega) ?_
   intro v7 u7 ho7 hgr7
   have hb7 : Below w.heap.size V u7 := hb6.trans hgr7.below
   obtain ⟨A7, c7, rfl⟩ := own_form ho7
   refine hK.out _ _ (fun _ => show (fun (w' : World) => w'.cell? ⟨db, 0, none⟩ = some (.pointer (some ⟨ob, 0, none⟩)) ∧ w'.cell? ⟨db, 3, none⟩ = some (.slice A fr.length cap)) _ from ⟨(hb7.cell (p := ⟨db, 0, none⟩) hdl).trans dc0, (hb7.cell (p := ⟨db, 3, none⟩) hdl).trans dc3⟩) ?_
   clear hK K
   try simp only [pt]
   have hHeld := show (fun (w' : World) => w'.cell? ⟨db, 0, none⟩ = some (.pointer (some ⟨ob, 0, none⟩)) ∧ w'.cell? ⟨db, 3, none⟩ = some (.slice A fr.length cap)) _ from ⟨(hb7.cell (p := ⟨db, 0, none⟩) hdl).trans dc0, (hb7.cell (p := ⟨db, 3, none⟩) hdl).trans dc3⟩
   refine vW 12 rfl ?_
   refine doneT (by kernel_rfl) ?_ _
   have hpt : ptrs fr ++ [.pointer (some ⟨ob, 0, none⟩)] = ptrs (fr ++ [ob]) := by simp [ptrs]
   have HQ := qd (show u7.ownsRow w.heap.size 109 1 (.slice A7 (fr.length + 1) c7) (fr.length + 1) (ptrs (fr ++ [ob])) from hpt ▸ ho7)
   have HZ := qd (hb0.trans hb7)
   go_wp2
   go_ret
   obtain ⟨rb', rfl, hrb', hrow, _⟩ := RowAt.of_own HQ.out (by omega)
   first | exact ⟨rb', hrb', ⟨_, rfl⟩, hrow, HZ.out⟩ | exact ⟨rb', _, hrb', rfl, hrow, HZ.out⟩ | exact ⟨rb', hrb', _, rfl, hrow, HZ.out⟩
 ·go_simp
  refine nameW (F := fun v => Blk v V.heap.size 109 #[.pointer (some ⟨ob, 0, none⟩)] ∧ Below V.heap.size V v) ⟨Blk.new V _ _, (Below.refl _ _).alloc (Nat.le_refl _) _⟩ ?_
  rintro u8 ⟨hB10, hx8⟩
  have hle8 := hbV.size
  have hlt8 := hB10.lt
  have hsz8 := hx8.size
  have hb8 : Below w.heap.size V u8 := hbV.trans (hx8.mono (by have := hbV.size; omega))
  refine hK.out _ _ (fun _ => show (fun (w' : World) => w'.cell? ⟨db, 0, none⟩ = some (.pointer (some ⟨ob, 0, none⟩)) ∧ w'.cell? ⟨db, 3, none⟩ = some (.slice A fr.length cap)) _ from ⟨(hb8.cell (p := ⟨db, 0, none⟩) hdl).trans dc0, (hb8.cell (p := ⟨db, 3, none⟩) hdl).trans dc3⟩) ?_
  clear hK K
  try simp only [pt]
  refine nT 0 rfl fun K hK => ?_
  go_simp
  refine nameW (F := fun v => v.ownsRow w.heap.size 109 1 (.slice (some ⟨u8.heap.size, 0, none⟩) 0 0) 0 [] ∧ Below u8.heap.size u8 v) ⟨World.ownsRow_lit u8 #[] 0 (by have := hb8.size; omega) (by simp) (by rfl), (Below.refl _ _).alloc (Nat.le_refl _) _⟩ ?_
  rintro u9 ⟨ho9, hx9⟩
  have hle9 := hb8.size
  have hlt9 : u8.heap.size < u9.heap.size := (ho9.lt _ rfl).2
  have hsz9 := hx9.size
  replace hB10 := hB10.below hx9 hB10.lt
  have hb9 : Below w.heap.size V u9 := hb8.trans (hx9.mono (by have := hb8.size; omega))
  refine hK.out _ _ (fun _ => show (fun (w' : World) => w'.cell? ⟨db, 0, none⟩ = some (.pointer (some ⟨ob, 0, none⟩)) ∧ w'.cell? ⟨db, 3, none⟩ = some (.slice A fr.length cap)) _ from ⟨(hb9.cell (p := ⟨db, 0, none⟩) hdl).trans dc0, (hb9.cell (p := ⟨db, 3, none⟩) hdl).trans dc3⟩) ?_
  clear hK K
  try simp only [pt]
  refine nT 5 rfl fun K hK => ?_
  refine step_app (by rfl) (by rfl) slty_ptab ho9 (by rfl) (by rfl) (HRv.out.below hb9) (ptrs_all fr) (by omega) (by have := hb9.size; omega) ?_
  intro v10 u10 ho10 hgr10
  have hb10 : Below w.heap.size V u10 := hb9.trans hgr10.below
  replace hB10 : Blk u10 _ _ _ := (hgr10.by_.block _ hB10.lt (by intro e; simp [Value.ownBlock] at e; omega)).trans hB10
  rw [Nat.zero_add, List.nil_append] at ho10
  refine hK.out _ _ (fun _ => show (fun (w' : World) => w'.cell? ⟨db, 0, none⟩ = some (.pointer (some ⟨ob, 0, none⟩)) ∧ w'.cell? ⟨db, 3, none⟩ = some (.slice A fr.length cap)) _ from ⟨(hb10.cell (p := ⟨db, 0, none⟩) hdl).trans dc0, (hb10.cell (p := ⟨db, 3, none⟩) hdl).trans dc3⟩) ?_
  clear hK K
  try simp only [pt]
  refine nT 11 rfl fun K hK => ?_
  refine step_app (by rfl) (by rfl) slty_ptab ho10 (by rfl) (by rfl) (reads_blk (size := 1) (m := 1) hB10 (by rfl)) (by rfl) (by omega) (by have := hb10.size; omega) ?_
  intro v11 u11 ho11 hgr11
  have hb11 : Below w.heap.size V u11 := hb10.trans hgr11.below
  obtain ⟨A11, c11, rfl⟩ := own_form ho11
  refine hK.out _ _ (fun _ => show (fun (w' : World) => w'.cell? ⟨db, 0, none⟩ = some (.pointer (some ⟨ob, 0, none⟩)) ∧ w'.cell? ⟨db, 3, none⟩ = some (.slice A fr.length cap)) _ from ⟨(hb11.cell (p := ⟨db, 0, none⟩) hdl).trans dc0, (hb11.cell (p := ⟨db, 3, none⟩) hdl).trans dc3⟩) ?_
  clear hK K
  try simp only [pt]
  have hHeld := show (fun (w' : World) => w'.cell? ⟨db, 0, none⟩ = some (.pointer (some ⟨ob, 0, none⟩)) ∧ w'.cell? ⟨db, 3, none⟩ = some (.slice A fr.length cap)) _ from ⟨(hb11.cell (p := ⟨db, 0, none⟩) hdl).trans dc0, (hb11.cell (p := ⟨db, 3, none⟩) hdl).trans dc3⟩
  refine vW 12 rfl ?_
  refine doneT (by kernel_rfl) ?_ _
  have hpt : ptrs fr ++ [.pointer (some ⟨ob, 0, none⟩)] = ptrs (fr ++ [ob]) := by simp [ptrs]
  have HQ := qd (show u11.ownsRow w.heap.size 109 1 (.slice A11 (fr.length + 1) c11) (fr.length + 1) (ptrs (fr ++ [ob])) from hpt ▸ ho11)
  have HZ := qd (hb0.trans hb11)
  go_wp2
  go_ret
  obtain ⟨rb', rfl, hrb', hrow, _⟩ := RowAt.of_own HQ.out (by omega)
  first | exact ⟨rb', hrb', ⟨_, rfl⟩, hrow, HZ.out⟩ | exact ⟨rb', _, hrb', rfl, hrow, HZ.out⟩ | exact ⟨rb', hrb', _, rfl, hrow, HZ.out⟩
end
end Go.Proofs.YtcgjgfgkdoohlaaGreatDoor
