/- A dual's Find, Put, Delete by their contracts, whatever its seek has told. -/
import Derived.Test.YtcgjgfgkdoohlaaGreatDoorCoAI
import Derived.Test.YtcgjgfgkdoohlaaGreatDoorCoN
import Derived.Test.YtcgjgfgkdoohlaaGreatDoorLaneP
import Derived.Test.YtcgjgfgkdoohlaaGreatDoorCoY
namespace Go.Proofs.YtcgjgfgkdoohlaaGreatDoor
section
set_option maxRecDepth 100000
set_option maxHeartbeats 4000000
open Go.RowKit AmC
def SeekTo (w : World) (db : Nat) (P : MP) (x : Mtr) (c : Cnt) (key hash tX gX : Nat) (TX : TabM) (cnt : Nat) : Prop :=
 ∀ V, Below w.heap.size w V → Calls Tryz.prog 94 #[dualP db, lensV (some ⟨P.mb, P.mo, none⟩) c, .int .u64 (key : Int), .int .u64 (hash : Int)] V (SeekPost V P x c key hash tX gX TX cnt)
theorem dual_Find (db tX gX cnt : Nat) (TX : TabM) (P : MP) (x : Mtr) (c : Cnt) (key hash : Nat) (w : World) (hS : SeekTo w db P x c key hash tX gX TX cnt) (h : TabAt w tX gX TX) (hml : P.mb < w.heap.size) (hmt : P.mb ≠ tX) (hmg : P.mb ≠ gX) :
  Calls Tryz.prog 86 #[dualP db, lensV (some ⟨P.mb, P.mo, none⟩) c, .int .u64 (key : Int), .int .u64 (hash : Int)] w fun e w' => e = .returned (optE (foundE TX.gs key hash)) ∧ MetP w' P (x.add c cnt) ∧ Mod [P.mb] w w' := by
 have hB := ((Below.refl w.heap.size w).alloc (Nat.le_refl _) (.cells #[.pointer (some ⟨P.mb, P.mo, none⟩), .int .i64 c.p, .int .i64 c.v, .int .i64 c.u] 89)).alloc (by simp) (.cells #[.int .u64 0, .int .u64 0, .int .u64 0] 37)
 have hL := (Blk.new w 89 #[.pointer (some ⟨P.mb, P.mo, none⟩), .int .i64 c.p, .int .i64 c.v, .int .i64 c.u]).alloc (.cells #[.int .u64 0, .int .u64 0, .int .u64 0] 37)
 have hR := Blk.new (w.alloc (.cells #[.pointer (some ⟨P.mb, P.mo, none⟩), .int .i64 c.p, .int .i64 c.v, .int .i64 c.u] 89)) 37 #[.int .u64 0, .int .u64 0, .int .u64 0]
 simp only [World.size_alloc] at hR
 obtain ⟨W, hW⟩ : ∃ W, W = (w.alloc (.cells #[.pointer (some ⟨P.mb, P.mo, none⟩), .int .i64 c.p, .int .i64 c.v, .int .i64 c.u] 89)).alloc (.cells #[.int .u64 0, .int .u64 0, .int .u64 0] 37) := ⟨_, rfl⟩
 rw [← hW] at hB hL hR
 obtain ⟨lc0, lc1, lc2, lc3⟩ := hL.c4
 have htl := h.ltT
 have hgl := h.ltG
 have HW := qd hW
 have HSk := qd (hS W hB)
 unfold SeekPost spotV at HSk
 unfold dualP lensV at HSk ⊢
 have HEn := qd (fun ap fp fs hap V hV => spot_Entry tX gX key hash TX ap fp fs hap V hV)
 unfold spotV optE entV at HEn
 unfold optE entV
 obtain ⟨fe, hfe⟩ : ∃ fe, fe = (foundE TX.gs key hash).getD ⟨0, 0, 0⟩ := ⟨_, rfl⟩
 obtain ⟨fb, hfb⟩ : ∃ fb, fb = (foundE TX.gs key hash).isSome := ⟨_, rfl⟩
 rw [← hfe, ← hfb] at HEn ⊢
 clear hfe hfb
 obtain ⟨s1, hs1⟩ : ∃ s, s = slotI (seek TX.gs key hash).1 := ⟨_, rfl⟩
 obtain ⟨s2, hs2⟩ : ∃ s, s = slotI (seek TX.gs key hash).2.1 := ⟨_, rfl⟩
 obtain ⟨sb0, hsb⟩ : ∃ s, s = (seek TX.gs key hash).1.isSome := ⟨_, rfl⟩
 rw [← hs1, ← hs2, ← hsb] at HSk
 rw [← hs1] at HEn
 clear hs1 hs2 hsb
 have HT := qd (h.below hB)
 have HR := qd (hR)
 have Hmod := qd (Mod.of_below hB [P.mb])
 clear hW hB h hL hR hS
 go_enter Tryz.func86, Tryz.ntmps86
 go_upto_region 1 with fail
 rw [← HW.out]
 go_wp2_with fail
 refine (HSk.out).mono ?_
 rintro x w1 ⟨ap, fp, rfl, hap, hfp, hM1, hm⟩
 clear lc0 lc1 lc2 lc3
 replace HT := qd (HT.out.mod hm (by simp <;> omega) (by simp <;> omega))
 replace HR := qd (HR.out.mod hm (by simp <;> omega))
 have z1 := (hm).size
 replace Hmod := qd (Hmod.out.tr hm)
 clear hm
 have HM := qd (hM1)
 clear hM1 hfp
 go_upto_region 2 with fail
 have q2 := HT.out.ltT
 have q3 := HT.out.ltG
 have q4 := HR.out.lt
 have q5 := HM.out.lt
 have z6 := Hmod.out.size
 refine nameB 142 #[.pointer (some ⟨tX, 0, none⟩), .int .u64 (key : Int), .int .u64 (hash : Int), .pointer ap, .int .i64 s1, .pointer fp, .int .i64 s2] ?_
 rintro w2 ⟨hnew, hb⟩
 replace HT := qd (HT.out.mod (Mod.of_below hb []) (by simp) (by simp))
 replace HR := qd (HR.out.mod (Mod.of_below hb []) (by simp))
 replace HM := qd (HM.out.mod (Mod.of_below hb []) (by simp))
 have z7 := (hb).size
 replace Hmod := qd (Hmod.out.then (Mod.of_below hb _))
 have HS := qd (hnew)
 clear hnew hb
 obtain ⟨sp0, sp1, sp2, sp3, sp4, sp5, sp6⟩ := HS.out.c7
 go_wp2_with fail
 refine (HEn.out ap fp s2 hap w2 HT.out).mono ?_
 rintro x w3 ⟨rfl, hb⟩
 clear sp0 sp1 sp2 sp3 sp4 sp5 sp6
 replace HT := qd (HT.out.mod (Mod.of_below hb []) (by simp) (by simp))
 replace HR := qd (HR.out.mod (Mod.of_below hb []) (by simp))
 replace HM := qd (HM.out.mod (Mod.of_below hb []) (by simp))
 replace HS := qd (HS.out.mod (Mod.of_below hb []) (by simp))
 have z8 := (hb).size
 replace Hmod := qd (Hmod.out.then (Mod.of_below hb _))
 clear hb
 obtain ⟨rc0, rc1, rc2⟩ := HR.out.c3
 obtain ⟨rf0, rf1, rf2⟩ := HR.out.f3
 go_wp2
 have q9 := HT.out.ltT
 have q10 := HT.out.ltG
 have q11 := HR.out.lt
 have q12 := HM.out.lt
 have q13 := HS.out.lt
 have hnew := (((HR.out.set_ 0 (.int .u64 (fe.key : Int))).set_ 1 (.int .u64 (fe.val : Int))).set_ 2 (.int .u64 (fe.hash : Int)))
 have hm := ((((Mod.refl [(w.heap.size + 1)] w3).sl 0 (.int .u64 (fe.key : Int))).sl 1 (.int .u64 (fe.val : Int))).sl 2 (.int .u64 (fe.hash : Int)))
 simp only [List.setIfInBounds_toArray, List.set_cons_zero, List.set_cons_succ] at hnew
 refine nameW (F := fun v => Blk v (w.heap.size + 1) 37 #[.int .u64 (fe.key : Int), .int .u64 (fe.val : Int), .int .u64 (fe.hash : Int)] ∧ Mod [(w.heap.size + 1)] w3 v) ⟨hnew, hm⟩ ?_
 clear hnew hm
 rintro w5 ⟨hnew, hm⟩
 clear rc0 rc1 rc2 rf0 rf1 rf2
 replace HT := qd (HT.out.mod hm (by simp <;> omega) (by simp <;> omega))
 replace HM := qd (HM.out.mod hm (by simp <;> omega))
 replace HS := qd (HS.out.mod hm (by simp <;> omega))
 have z14 := (hm).size
 replace Hmod := qd (Hmod.out.tr hm)
 replace HR := qd hnew
 clear hnew hm
 obtain ⟨rx0, rx1, rx2⟩ := HR.out.c3
 refine bodyPost_ret (v := .tuple #[.agg #[.int .u64 (fe.key : Int), .int .u64 (fe.val : Int), .int .u64 (fe.hash : Int)], .bool fb]) (by simp [results, Tryz.results86, go_sem, rx0, rx1, rx2]) rfl ⟨rfl, HM.out, Hmod.out⟩
theorem dual_Delete_found (db tX gX cnt : Nat) (TX : TabM) (P : MP) (x : Mtr) (c : Cnt) (key hash : Nat) (w : World) (hS : SeekTo w db P x c key hash tX gX TX cnt) (h : TabAt w tX gX TX) (hml : P.mb < w.heap.size) (hmt : P.mb ≠ tX) (hmg : P.mb ≠ gX) (i s : Nat) (hsk : (seek TX.gs key hash).1 = some (i, s)) (e0 : Ent) (he0 : slotAt TX.gs i s = .full e0) (hSm : Small TX) :
  Calls Tryz.prog 59 #[dualP db, lensV (some ⟨P.mb, P.mo, none⟩) c, .int .u64 (key : Int), .int .u64 (hash : Int)] w fun e w' => e = .returned (optE (some e0)) ∧ TabAt w' tX gX (eraseM TX i s) ∧ MetP w' P (x.add c cnt) ∧ Mod [P.mb, tX, gX] w w' := by
 have hB := ((Below.refl w.heap.size w).alloc (Nat.le_refl _) (.cells #[.pointer (some ⟨P.mb, P.mo, none⟩), .int .i64 c.p, .int .i64 c.v, .int .i64 c.u] 89)).alloc (by simp) (.cells #[.int .u64 0, .int .u64 0, .int .u64 0] 37)
 have hL := (Blk.new w 89 #[.pointer (some ⟨P.mb, P.mo, none⟩), .int .i64 c.p, .int .i64 c.v, .int .i64 c.u]).alloc (.cells #[.int .u64 0, .int .u64 0, .int .u64 0] 37)
 have hR := Blk.new (w.alloc (.cells #[.pointer (some ⟨P.mb, P.mo, none⟩), .int .i64 c.p, .int .i64 c.v, .int .i64 c.u] 89)) 37 #[.int .u64 0, .int .u64 0, .int .u64 0]
 simp only [World.size_alloc] at hR
 obtain ⟨W, hW⟩ : ∃ W, W = (w.alloc (.cells #[.pointer (some ⟨P.mb, P.mo, none⟩), .int .i64 c.p, .int .i64 c.v, .int .i64 c.u] 89)).alloc (.cells #[.int .u64 0, .int .u64 0, .int .u64 0] 37) := ⟨_, rfl⟩
 rw [← hW] at hB hL hR
 obtain ⟨lc0, lc1, lc2, lc3⟩ := hL.c4
 have htl := h.ltT
 have hgl := h.ltG
 have HW := qd hW
 have HSk := qd (hS W hB)
 unfold SeekPost spotV at HSk
 unfold dualP lensV at HSk ⊢
 obtain ⟨e1, he1, hk0, hil, hsl⟩ := seek_full hsk
 have hs8 : s < 8 := by have := h.wide.at_ hil; omega
 have HEn := qd (fun ap fp fs hap V hV => spot_Entry tX gX key hash TX ap fp fs hap V hV)
 unfold foundE at HEn
 obtain ⟨fs, hfs⟩ : ∃ fs, fs = slotI (seek TX.gs key hash).2.1 := ⟨_, rfl⟩
 rw [hsk] at HEn HSk
 rw [← hfs] at HSk
 clear hfs
 simp only [Option.map_some, he0, Option.getD_some, Option.isSome_some, Slot.ent, slotI, optE] at HEn HSk
 unfold spotV entV at HEn
 unfold optE entV
 simp only [Option.getD_some, Option.isSome_some]
 have HT := qd (h.below hB)
 have HR := qd (hR)
 have Hmod := qd (Mod.of_below hB [P.mb, tX, gX])
 clear hW hB h hL hR hS he1
 go_enter Tryz.func59, Tryz.ntmps59
 go_upto_region 1 with fail
 rw [← HW.out]
 go_wp2_with fail
 refine (HSk.out).mono ?_
 rintro x w1 ⟨ap, fp, rfl, hap, hfp, hM1, hm⟩
 clear lc0 lc1 lc2 lc3
 replace HT := qd (HT.out.mod hm (by simp <;> omega) (by simp <;> omega))
 replace HR := qd (HR.out.mod hm (by simp <;> omega))
 have z1 := (hm).size
 replace Hmod := qd (Hmod.out.tr hm)
 clear hm
 obtain rfl := hap i s rfl
 clear hap hfp
 have HM := qd (hM1)
 clear hM1
 go_upto_region 2 with fail
 have q2 := HT.out.ltT
 have q3 := HT.out.ltG
 have q4 := HR.out.lt
 have q5 := HM.out.lt
 have z6 := Hmod.out.size
 refine nameB 142 #[.pointer (some ⟨tX, 0, none⟩), .int .u64 (key : Int), .int .u64 (hash : Int), .pointer (some ⟨gX, i * 25, none⟩), .int .i64 (s : Int), .pointer fp, .int .i64 fs] ?_
 rintro w2 ⟨hnew, hb⟩
 replace HT := qd (HT.out.mod (Mod.of_below hb []) (by simp) (by simp))
 replace HR := qd (HR.out.mod (Mod.of_below hb []) (by simp))
 replace HM := qd (HM.out.mod (Mod.of_below hb []) (by simp))
 have z7 := (hb).size
 replace Hmod := qd (Hmod.out.then (Mod.of_below hb _))
 have HS := qd (hnew)
 clear hnew hb
 obtain ⟨sp0, sp1, sp2, sp3, sp4, sp5, sp6⟩ := HS.out.c7
 go_wp2_with fail
 refine (HEn.out (some ⟨gX, i * 25, none⟩) fp fs (fun i2 s2 hh => by cases hh; rfl) w2 HT.out).mono ?_
 rintro x w3 ⟨rfl, hb⟩
 clear sp0 sp1 sp2 sp3 sp4 sp5 sp6
 replace HT := qd (HT.out.mod (Mod.of_below hb []) (by simp) (by simp))
 replace HR := qd (HR.out.mod (Mod.of_below hb []) (by simp))
 replace HM := qd (HM.out.mod (Mod.of_below hb []) (by simp))
 replace HS := qd (HS.out.mod (Mod.of_below hb []) (by simp))
 have z8 := (hb).size
 replace Hmod := qd (Hmod.out.then (Mod.of_below hb _))
 clear hb
 go_upto_region 3 with fail
 have q9 := HT.out.ltT
 have q10 := HT.out.ltG
 have q11 := HR.out.lt
 have q12 := HM.out.lt
 have q13 := HS.out.lt
 have z14 := Hmod.out.size
 refine nameB 37 #[.int .u64 (e0.key : Int), .int .u64 (e0.val : Int), .int .u64 (e0.hash : Int)] ?_
 rintro w4 ⟨hnew, hb⟩
 replace HT := qd (HT.out.mod (Mod.of_below hb []) (by simp) (by simp))
 replace HR := qd (HR.out.mod (Mod.of_below hb []) (by simp))
 replace HM := qd (HM.out.mod (Mod.of_below hb []) (by simp))
 replace HS := qd (HS.out.mod (Mod.of_below hb []) (by simp))
 have z15 := (hb).size
 replace Hmod := qd (Hmod.out.then (Mod.of_below hb _))
 have HD := qd (hnew)
 clear hnew hb
 obtain ⟨sp0, sp1, sp2, sp3, sp4, sp5, sp6⟩ := HS.out.c7
 obtain ⟨dc0, dc1, dc2⟩ := HD.out.c3
 have HRm := qd (spot_Remove tX key hash gX fp fs TX i s hil hs8 e0 he0 hSm w4.drew (HT.out.below (Below.refl _ _).drew))
 refine region_T (fun (w' : World) => w'.cell? ⟨w3.heap.size, 0, none⟩ = some (.int .u64 (e0.key : Int)) ∧ w'.cell? ⟨w3.heap.size, 1, none⟩ = some (.int .u64 (e0.val : Int)) ∧ w'.cell? ⟨w3.heap.size, 2, none⟩ = some (.int .u64 (e0.hash : Int)) ∧ w'.cell? ⟨w1.heap.size, 0, none⟩ = some (.pointer (some ⟨tX, 0, none⟩)) ∧ w'.cell? ⟨w1.heap.size, 1, none⟩ = some (.int .u64 (key : Int)) ∧ w'.cell? ⟨w1.heap.size, 2, none⟩ = some (.int .u64 (hash : Int)) ∧ w'.cell? ⟨w1.heap.size, 3, none⟩ = some (.pointer (some ⟨gX, i * 25, none⟩)) ∧ w'.cell? ⟨w1.heap.size, 4, none⟩ = some (.int .i64 (s : Int)) ∧ w'.cell? ⟨w1.heap.size, 5, none⟩ = some (.pointer fp) ∧ w'.cell? ⟨w1.heap.size, 6, none⟩ = some (.int .i64 fs)) [7] (by kernel_rfl) ?_
 try (change wpAnyT _ _ _ _ _ _ _ _ _ (World.drew _))
 have hHeld := (⟨dc0, dc1, dc2, sp0, sp1, sp2, sp3, sp4, sp5, sp6⟩ : _ ∧ _ ∧ _ ∧ _ ∧ _ ∧ _ ∧ _ ∧ _ ∧ _ ∧ _)
 refine tT 0 (some 27) (.agg #[.int .u64 (e0.key : Int), .int .u64 (e0.val : Int), .int .u64 (e0.hash : Int)]) rfl (by rintro w ⟨hh0, hh1, hh2, hh3, hh4, hh5, hh6, hh7, hh8, hh9⟩; go_simp) hHeld ?_
 try simp only [pt]
 refine tW 1 (some 28) (.bool true) rfl hHeld ?_
 try simp only [pt]
 refine tW 2 (some 29) (.bool true) rfl hHeld ?_
 try simp only [pt]
 refine tT 3 (some 30) (.agg #[.pointer (some ⟨tX, 0, none⟩), .int .u64 (key : Int), .int .u64 (hash : Int), .pointer (some ⟨gX, i * 25, none⟩), .int .i64 (s : Int), .pointer fp, .int .i64 fs]) rfl (by rintro w ⟨hh0, hh1, hh2, hh3, hh4, hh5, hh6, hh7, hh8, hh9⟩; go_simp) hHeld ?_
 try simp only [pt]
 refine nT 4 (some 31) rfl fun K hK => ?_
 go_simp
 refine (HRm.out).mono ?_
 rintro x w5 ⟨rfl, hT5, hm⟩
 replace hm : Mod [tX, gX] w4 w5 := (Mod.drewN [tX, gX] w4 1).then hm
 clear HT
 clear sp0 sp1 sp2 sp3 sp4 sp5 sp6 dc0 dc1 dc2
 replace HR := qd (HR.out.mod hm (by simp <;> omega))
 replace HM := qd (HM.out.mod hm (by simp <;> omega))
 replace HS := qd (HS.out.mod hm (by simp <;> omega))
 replace HD := qd (HD.out.mod hm (by simp <;> omega))
 have z16 := (hm).size
 replace Hmod := qd (Hmod.out.tr hm)
 have HT := qd (hT5)
 clear hT5 hm
 obtain ⟨sp0, sp1, sp2, sp3, sp4, sp5, sp6⟩ := HS.out.c7
 obtain ⟨dc0, dc1, dc2⟩ := HD.out.c3
 obtain ⟨rc0, rc1, rc2⟩ := HR.out.c3
 obtain ⟨rf0, rf1, rf2⟩ := HR.out.f3
 go_simp
 have hHeld := (⟨dc0, dc1, dc2, sp0, sp1, sp2, sp3, sp4, sp5, sp6⟩ : _ ∧ _ ∧ _ ∧ _ ∧ _ ∧ _ ∧ _ ∧ _ ∧ _ ∧ _)
 refine hK.out _ _ (fun _ => hHeld) ?_
 clear hK K
 try simp only [pt]
 refine tW 5 (some 32) (.bool true) rfl hHeld ?_
 try simp only [pt]
 refine tW 6 (some 33) (.bool true) rfl hHeld ?_
 try simp only [pt]
 refine nT 7 none rfl fun K hK => ?_
 go_simp
 refine hK.out _ _ (fun h => absurd (by decide) h) ?_
 clear hK K
 try simp only [pt]
 refine tL 8 (some 9) (.bool true) rfl ?_
 try simp only [pt]
 refine doneT (by kernel_rfl) ?_ _
 clear HS
 clear HD
 have q17 := HR.out.lt
 have q18 := HM.out.lt
 have q19 := HT.out.ltT
 have q20 := HT.out.ltG
 have hnew := (((HR.out.set_ 0 (.int .u64 (e0.key : Int))).set_ 1 (.int .u64 (e0.val : Int))).set_ 2 (.int .u64 (e0.hash : Int)))
 have hm := ((((Mod.refl [(w.heap.size + 1)] w5).sl 0 (.int .u64 (e0.key : Int))).sl 1 (.int .u64 (e0.val : Int))).sl 2 (.int .u64 (e0.hash : Int)))
 simp only [List.setIfInBounds_toArray, List.set_cons_zero, List.set_cons_succ] at hnew
 refine nameW (F := fun v => Blk v (w.heap.size + 1) 37 #[.int .u64 (e0.key : Int), .int .u64 (e0.val : Int), .int .u64 (e0.hash : Int)] ∧ Mod [(w.heap.size + 1)] w5 v) ⟨hnew, hm⟩ ?_
 clear hnew hm
 rintro w6 ⟨hnew, hm⟩
 replace HM := qd (HM.out.mod hm (by simp <;> omega))
 replace HT := qd (HT.out.mod hm (by simp <;> omega) (by simp <;> omega))
 have z21 := (hm).size
 replace Hmod := qd (Hmod.out.tr hm)
 replace HR := qd hnew
 clear hnew hm
 obtain ⟨rc0, rc1, rc2⟩ := HR.out.c3
 go_wp2
 refine bodyPost_ret (v := .tuple #[.agg #[.int .u64 (e0.key : Int), .int .u64 (e0.val : Int), .int .u64 (e0.hash : Int)], .bool true]) (by simp [results, Tryz.results59, go_sem, rc0, rc1, rc2]) rfl ⟨rfl, HT.out, HM.out, Hmod.out⟩
theorem dual_Delete_none (db tX gX cnt : Nat) (TX : TabM) (P : MP) (x : Mtr) (c : Cnt) (key hash : Nat) (w : World) (hS : SeekTo w db P x c key hash tX gX TX cnt) (h : TabAt w tX gX TX) (hml : P.mb < w.heap.size) (hmt : P.mb ≠ tX) (hmg : P.mb ≠ gX) (hsk : (seek TX.gs key hash).1 = none) :
  Calls Tryz.prog 59 #[dualP db, lensV (some ⟨P.mb, P.mo, none⟩) c, .int .u64 (key : Int), .int .u64 (hash : Int)] w fun e w' => e = .returned (optE none) ∧ TabAt w' tX gX TX ∧ MetP w' P (x.add c cnt) ∧ Mod [P.mb] w w' := by
 have hB := ((Below.refl w.heap.size w).alloc (Nat.le_refl _) (.cells #[.pointer (some ⟨P.mb, P.mo, none⟩), .int .i64 c.p, .int .i64 c.v, .int .i64 c.u] 89)).alloc (by simp) (.cells #[.int .u64 0, .int .u64 0, .int .u64 0] 37)
 have hL := (Blk.new w 89 #[.pointer (some ⟨P.mb, P.mo, none⟩), .int .i64 c.p, .int .i64 c.v, .int .i64 c.u]).alloc (.cells #[.int .u64 0, .int .u64 0, .int .u64 0] 37)
 have hR := Blk.new (w.alloc (.cells #[.pointer (some ⟨P.mb, P.mo, none⟩), .int .i64 c.p, .int .i64 c.v, .int .i64 c.u] 89)) 37 #[.int .u64 0, .int .u64 0, .int .u64 0]
 simp only [World.size_alloc] at hR
 obtain ⟨W, hW⟩ : ∃ W, W = (w.alloc (.cells #[.pointer (some ⟨P.mb, P.mo, none⟩), .int .i64 c.p, .int .i64 c.v, .int .i64 c.u] 89)).alloc (.cells #[.int .u64 0, .int .u64 0, .int .u64 0] 37) := ⟨_, rfl⟩
 rw [← hW] at hB hL hR
 obtain ⟨lc0, lc1, lc2, lc3⟩ := hL.c4
 have htl := h.ltT
 have hgl := h.ltG
 have HW := qd hW
 have HSk := qd (hS W hB)
 unfold SeekPost spotV at HSk
 unfold dualP lensV at HSk ⊢
 have HEn := qd (fun ap fp fs hap V hV => spot_Entry tX gX key hash TX ap fp fs hap V hV)
 unfold foundE at HEn
 obtain ⟨fs, hfs⟩ : ∃ fs, fs = slotI (seek TX.gs key hash).2.1 := ⟨_, rfl⟩
 rw [hsk] at HEn HSk
 rw [← hfs] at HSk
 clear hfs
 simp only [Option.map_none, Option.getD_none, Option.isSome_none, Slot.ent, slotI, optE] at HEn HSk
 unfold spotV entV at HEn
 unfold optE entV
 simp only [Option.getD_none, Option.isSome_none]
 have HT := qd (h.below hB)
 have HR := qd (hR)
 have Hmod := qd (Mod.of_below hB [P.mb])
 clear hW hB h hL hR hS
 go_enter Tryz.func59, Tryz.ntmps59
 go_upto_region 1 with fail
 rw [← HW.out]
 go_wp2_with fail
 refine (HSk.out).mono ?_
 rintro x w1 ⟨ap, fp, rfl, hap, hfp, hM1, hm⟩
 clear lc0 lc1 lc2 lc3
 replace HT := qd (HT.out.mod hm (by simp <;> omega) (by simp <;> omega))
 replace HR := qd (HR.out.mod hm (by simp <;> omega))
 have z1 := (hm).size
 replace Hmod := qd (Hmod.out.tr hm)
 clear hm
 clear hap hfp
 have HM := qd (hM1)
 clear hM1
 go_upto_region 2 with fail
 have q2 := HT.out.ltT
 have q3 := HT.out.ltG
 have q4 := HR.out.lt
 have q5 := HM.out.lt
 have z6 := Hmod.out.size
 refine nameB 142 #[.pointer (some ⟨tX, 0, none⟩), .int .u64 (key : Int), .int .u64 (hash : Int), .pointer ap, .int .i64 (-1), .pointer fp, .int .i64 fs] ?_
 rintro w2 ⟨hnew, hb⟩
 replace HT := qd (HT.out.mod (Mod.of_below hb []) (by simp) (by simp))
 replace HR := qd (HR.out.mod (Mod.of_below hb []) (by simp))
 replace HM := qd (HM.out.mod (Mod.of_below hb []) (by simp))
 have z7 := (hb).size
 replace Hmod := qd (Hmod.out.then (Mod.of_below hb _))
 have HS := qd (hnew)
 clear hnew hb
 obtain ⟨sp0, sp1, sp2, sp3, sp4, sp5, sp6⟩ := HS.out.c7
 go_wp2_with fail
 refine (HEn.out ap fp fs (fun i2 s2 hh => by cases hh) w2 HT.out).mono ?_
 rintro x w3 ⟨rfl, hb⟩
 clear sp0 sp1 sp2 sp3 sp4 sp5 sp6
 replace HT := qd (HT.out.mod (Mod.of_below hb []) (by simp) (by simp))
 replace HR := qd (HR.out.mod (Mod.of_below hb []) (by simp))
 replace HM := qd (HM.out.mod (Mod.of_below hb []) (by simp))
 replace HS := qd (HS.out.mod (Mod.of_below hb []) (by simp))
 have z8 := (hb).size
 replace Hmod := qd (Hmod.out.then (Mod.of_below hb _))
 clear hb
 go_upto_region 3 with fail
 have q9 := HT.out.ltT
 have q10 := HT.out.ltG
 have q11 := HR.out.lt
 have q12 := HM.out.lt
 have q13 := HS.out.lt
 have z14 := Hmod.out.size
 refine nameB 37 #[.int .u64 0, .int .u64 0, .int .u64 0] ?_
 rintro w4 ⟨hnew, hb⟩
 replace HT := qd (HT.out.mod (Mod.of_below hb []) (by simp) (by simp))
 replace HR := qd (HR.out.mod (Mod.of_below hb []) (by simp))
 replace HM := qd (HM.out.mod (Mod.of_below hb []) (by simp))
 replace HS := qd (HS.out.mod (Mod.of_below hb []) (by simp))
 have z15 := (hb).size
 replace Hmod := qd (Hmod.out.then (Mod.of_below hb _))
 have HD := qd (hnew)
 clear hnew hb
 obtain ⟨sp0, sp1, sp2, sp3, sp4, sp5, sp6⟩ := HS.out.c7
 obtain ⟨dc0, dc1, dc2⟩ := HD.out.c3
 obtain ⟨rc0, rc1, rc2⟩ := HR.out.c3
 obtain ⟨rf0, rf1, rf2⟩ := HR.out.f3
 refine region_T (fun (w' : World) => w'.cell? ⟨w3.heap.size, 0, none⟩ = some (.int .u64 0) ∧ w'.cell? ⟨w3.heap.size, 1, none⟩ = some (.int .u64 0) ∧ w'.cell? ⟨w3.heap.size, 2, none⟩ = some (.int .u64 0)) [7] (by kernel_rfl) ?_
 try (change wpAnyT _ _ _ _ _ _ _ _ _ (World.drew _))
 have hHeld := (⟨dc0, dc1, dc2⟩ : _ ∧ _ ∧ _)
 refine tT 0 (some 27) (.agg #[.int .u64 0, .int .u64 0, .int .u64 0]) rfl (by rintro w ⟨hh0, hh1, hh2⟩; go_simp) hHeld ?_
 try simp only [pt]
 refine tW 1 (some 28) (.bool false) rfl hHeld ?_
 try simp only [pt]
 refine tW 2 (some 29) (.bool false) rfl hHeld ?_
 try simp only [pt]
 refine tU 3 (some 30) rfl hHeld ?_
 try simp only [pt]
 refine tU 4 (some 31) rfl hHeld ?_
 try simp only [pt]
 refine tU 5 (some 32) rfl hHeld ?_
 try simp only [pt]
 refine tW 6 (some 33) (.bool false) rfl hHeld ?_
 try simp only [pt]
 refine nT 7 none rfl fun K hK => ?_
 go_simp
 refine hK.out _ _ (fun h => absurd (by decide) h) ?_
 clear hK K
 try simp only [pt]
 refine tL 8 (some 9) (.bool false) rfl ?_
 try simp only [pt]
 refine doneT (by kernel_rfl) ?_ _
 clear HS
 clear HD
 have q16 := HT.out.ltT
 have q17 := HT.out.ltG
 have q18 := HR.out.lt
 have q19 := HM.out.lt
 have hnew := (((HR.out.set_ 0 (.int .u64 0)).set_ 1 (.int .u64 0)).set_ 2 (.int .u64 0)).drew
 have hm := (((((Mod.refl [(w.heap.size + 1)] w4).sl 0 (.int .u64 0)).sl 1 (.int .u64 0)).sl 2 (.int .u64 0)).then (Mod.drewN [(w.heap.size + 1)] _ 1))
 simp only [List.setIfInBounds_toArray, List.set_cons_zero, List.set_cons_succ] at hnew
 refine nameW (F := fun v => Blk v (w.heap.size + 1) 37 #[.int .u64 0, .int .u64 0, .int .u64 0] ∧ Mod [(w.heap.size + 1)] w4 v) ⟨hnew, hm⟩ ?_
 clear hnew hm
 rintro w6 ⟨hnew, hm⟩
 replace HT := qd (HT.out.mod hm (by simp <;> omega) (by simp <;> omega))
 replace HM := qd (HM.out.mod hm (by simp <;> omega))
 have z20 := (hm).size
 replace Hmod := qd (Hmod.out.tr hm)
 replace HR := qd hnew
 clear hnew hm
 obtain ⟨rc0, rc1, rc2⟩ := HR.out.c3
 go_wp2
 refine bodyPost_ret (v := .tuple #[.agg #[.int .u64 0, .int .u64 0, .int .u64 0], .bool false]) (by simp [results, Tryz.results59, go_sem, rc0, rc1, rc2]) rfl ⟨rfl, HT.out, HM.out, Hmod.out⟩
theorem dual_Put_found (db tX gX cnt : Nat) (TX : TabM) (P : MP) (x : Mtr) (c : Cnt) (e : Ent) (w : World) (hS : SeekTo w db P x c e.key e.hash tX gX TX cnt) (h : TabAt w tX gX TX) (hml : P.mb < w.heap.size) (hmt : P.mb ≠ tX) (hmg : P.mb ≠ gX) (more : Bool) (i s : Nat) (hsk : (seek TX.gs e.key e.hash).1 = some (i, s)) (e0 : Ent) (he0 : slotAt TX.gs i s = .full e0) :
  Calls Tryz.prog 70 #[dualP db, lensV (some ⟨P.mb, P.mo, none⟩) c, entV e, .bool more] w fun y w' => y = .returned (.tuple #[.bool false, .nilIface]) ∧ TabAt w' tX gX (replaceM TX i s e.val e0) ∧ MetP w' P (x.add c cnt) ∧ Mod [P.mb, tX, gX] w w' := by
 have hB := ((Below.refl w.heap.size w).alloc (Nat.le_refl _) (.cells #[.pointer (some ⟨P.mb, P.mo, none⟩), .int .i64 c.p, .int .i64 c.v, .int .i64 c.u] 89)).alloc (by simp) (.cells #[.int .u64 (e.key : Int), .int .u64 (e.val : Int), .int .u64 (e.hash : Int)] 37)
 have hL := (Blk.new w 89 #[.pointer (some ⟨P.mb, P.mo, none⟩), .int .i64 c.p, .int .i64 c.v, .int .i64 c.u]).alloc (.cells #[.int .u64 (e.key : Int), .int .u64 (e.val : Int), .int .u64 (e.hash : Int)] 37)
 have hE := Blk.new (w.alloc (.cells #[.pointer (some ⟨P.mb, P.mo, none⟩), .int .i64 c.p, .int .i64 c.v, .int .i64 c.u] 89)) 37 #[.int .u64 (e.key : Int), .int .u64 (e.val : Int), .int .u64 (e.hash : Int)]
 simp only [World.size_alloc] at hE
 obtain ⟨W, hW⟩ : ∃ W, W = (w.alloc (.cells #[.pointer (some ⟨P.mb, P.mo, none⟩), .int .i64 c.p, .int .i64 c.v, .int .i64 c.u] 89)).alloc (.cells #[.int .u64 (e.key : Int), .int .u64 (e.val : Int), .int .u64 (e.hash : Int)] 37) := ⟨_, rfl⟩
 rw [← hW] at hB hL hE
 obtain ⟨lc0, lc1, lc2, lc3⟩ := hL.c4
 obtain ⟨ec0, ec1, ec2⟩ := hE.c3
 have htl := h.ltT
 have hgl := h.ltG
 have HW := qd hW
 have HSk := qd (hS W hB)
 unfold SeekPost spotV at HSk
 unfold dualP lensV at HSk ⊢
 obtain ⟨e1, he1, hk0, hil, hsl⟩ := seek_full hsk
 have hs8 : s < 8 := by have := h.wide.at_ hil; omega
 obtain ⟨fs, hfs⟩ : ∃ fs, fs = slotI (seek TX.gs e.key e.hash).2.1 := ⟨_, rfl⟩
 rw [hsk] at HSk
 rw [← hfs] at HSk
 clear hfs
 simp only [Option.isSome_some, slotI] at HSk
 unfold entV
 have HT := qd (h.below hB)
 have HE := qd (hE)
 have Hmod := qd (Mod.of_below hB [P.mb, tX, gX])
 clear hW hB h hL hE hS he1
 go_enter Tryz.func70, Tryz.ntmps70
 go_upto_region 1 with fail
 rw [← HW.out]
 go_wp2_with fail
 refine (HSk.out).mono ?_
 rintro x w1 ⟨ap, fp, rfl, hap, hfp, hM1, hm⟩
 clear lc0 lc1 lc2 lc3 ec0 ec1 ec2
 replace HT := qd (HT.out.mod hm (by simp <;> omega) (by simp <;> omega))
 replace HE := qd (HE.out.mod hm (by simp <;> omega))
 have z1 := (hm).size
 replace Hmod := qd (Hmod.out.tr hm)
 clear hm
 obtain rfl := hap i s rfl
 clear hap hfp
 have HM := qd (hM1)
 clear hM1
 go_upto_region 2 with fail
 have q2 := HT.out.ltT
 have q3 := HT.out.ltG
 have q4 := HE.out.lt
 have q5 := HM.out.lt
 have z6 := Hmod.out.size
 refine nameB 142 #[.pointer (some ⟨tX, 0, none⟩), .int .u64 (e.key : Int), .int .u64 (e.hash : Int), .pointer (some ⟨gX, i * 25, none⟩), .int .i64 (s : Int), .pointer fp, .int .i64 fs] ?_
 rintro w2 ⟨hnew, hb⟩
 replace HT := qd (HT.out.mod (Mod.of_below hb []) (by simp) (by simp))
 replace HE := qd (HE.out.mod (Mod.of_below hb []) (by simp))
 replace HM := qd (HM.out.mod (Mod.of_below hb []) (by simp))
 have z7 := (hb).size
 replace Hmod := qd (Hmod.out.then (Mod.of_below hb _))
 have HS := qd (hnew)
 clear hnew hb
 obtain ⟨sp0, sp1, sp2, sp3, sp4, sp5, sp6⟩ := HS.out.c7
 obtain ⟨ec0, ec1, ec2⟩ := HE.out.c3
 have HRe := qd (spot_Replace tX e.key e.hash gX fp fs TX i s e.val hil hs8 e0 he0 w2 HT.out)
 unfold spotV at HRe
 clear HT
 go_wp2_with fail
 refine (HRe.out).mono ?_
 rintro x w5 ⟨rfl, hT5, hm⟩
 clear sp0 sp1 sp2 sp3 sp4 sp5 sp6 ec0 ec1 ec2
 replace HE := qd (HE.out.mod hm (by simp <;> omega))
 replace HM := qd (HM.out.mod hm (by simp <;> omega))
 replace HS := qd (HS.out.mod hm (by simp <;> omega))
 have z8 := (hm).size
 replace Hmod := qd (Hmod.out.tr hm)
 clear hm
 have HT := qd (hT5)
 clear hT5
 go_wp2
 refine bodyPost_ret (v := .tuple #[.bool false, .nilIface]) (by simp [results, Tryz.results70, go_sem]) rfl ⟨rfl, HT.out, HM.out, Hmod.out⟩
theorem dual_Put_new (db tX gX cnt : Nat) (TX : TabM) (P : MP) (x : Mtr) (c : Cnt) (e : Ent) (w : World) (hS : SeekTo w db P x c e.key e.hash tX gX TX cnt) (h : TabAt w tX gX TX) (hml : P.mb < w.heap.size) (hmt : P.mb ≠ tX) (hmg : P.mb ≠ gX) (hP : Pw TX.gs.length) (h64 : e.hash < 18446744073709551616) (hsk : (seek TX.gs e.key e.hash).1 = none) (i s : Nat) (hfr : (seek TX.gs e.key e.hash).2.1 = some (i, s)) (hSm : Small TX) (hroom : TX.live + TX.tombs + 1 ≤ 7 * (TX.gs.length : Int)) :
  Calls Tryz.prog 70 #[dualP db, lensV (some ⟨P.mb, P.mo, none⟩) c, entV e, .bool true] w fun y w' => y = .returned (.tuple #[.bool true, .nilIface]) ∧ TabAt w' tX gX (placeM TX i s e) ∧ MetP w' P (x.add c cnt) ∧ Mod [P.mb, tX, gX] w w' := by
 have hB := ((Below.refl w.heap.size w).alloc (Nat.le_refl _) (.cells #[.pointer (some ⟨P.mb, P.mo, none⟩), .int .i64 c.p, .int .i64 c.v, .int .i64 c.u] 89)).alloc (by simp) (.cells #[.int .u64 (e.key : Int), .int .u64 (e.val : Int), .int .u64 (e.hash : Int)] 37)
 have hL := (Blk.new w 89 #[.pointer (some ⟨P.mb, P.mo, none⟩), .int .i64 c.p, .int .i64 c.v, .int .i64 c.u]).alloc (.cells #[.int .u64 (e.key : Int), .int .u64 (e.val : Int), .int .u64 (e.hash : Int)] 37)
 have hE := Blk.new (w.alloc (.cells #[.pointer (some ⟨P.mb, P.mo, none⟩), .int .i64 c.p, .int .i64 c.v, .int .i64 c.u] 89)) 37 #[.int .u64 (e.key : Int), .int .u64 (e.val : Int), .int .u64 (e.hash : Int)]
 simp only [World.size_alloc] at hE
 obtain ⟨W, hW⟩ : ∃ W, W = (w.alloc (.cells #[.pointer (some ⟨P.mb, P.mo, none⟩), .int .i64 c.p, .int .i64 c.v, .int .i64 c.u] 89)).alloc (.cells #[.int .u64 (e.key : Int), .int .u64 (e.val : Int), .int .u64 (e.hash : Int)] 37) := ⟨_, rfl⟩
 rw [← hW] at hB hL hE
 obtain ⟨lc0, lc1, lc2, lc3⟩ := hL.c4
 obtain ⟨ec0, ec1, ec2⟩ := hE.c3
 have htl := h.ltT
 have hgl := h.ltG
 have HW := qd hW
 have HSk := qd (hS W hB)
 unfold SeekPost spotV at HSk
 unfold dualP lensV at HSk ⊢
 have h8 := fun i hi => h.wide.at_ (i := i) hi
 obtain ⟨fs, hfs⟩ : ∃ fs, fs = slotI (seek TX.gs e.key e.hash).2.1 := ⟨_, rfl⟩
 rw [hsk] at HSk
 rw [← hfs] at HSk
 rw [hfr] at hfs
 simp only [slotI] at hfs
 subst hfs
 rw [hfr] at HSk
 simp only [Option.isSome_none, slotI] at HSk
 unfold entV
 have HT := qd (h.below hB)
 have HE := qd (hE)
 have Hmod := qd (Mod.of_below hB [P.mb, tX, gX])
 clear hW hB h hL hE hS
 go_enter Tryz.func70, Tryz.ntmps70
 go_upto_region 1 with fail
 rw [← HW.out]
 go_wp2_with fail
 refine (HSk.out).mono ?_
 rintro x w1 ⟨ap, fp, rfl, hap, hfp, hM1, hm⟩
 clear lc0 lc1 lc2 lc3 ec0 ec1 ec2
 replace HT := qd (HT.out.mod hm (by simp <;> omega) (by simp <;> omega))
 replace HE := qd (HE.out.mod hm (by simp <;> omega))
 have z1 := (hm).size
 replace Hmod := qd (Hmod.out.tr hm)
 clear hm
 obtain rfl := hfp i s rfl
 clear hap hfp
 have HM := qd (hM1)
 clear hM1
 go_upto_region 2 with fail
 have q2 := HT.out.ltT
 have q3 := HT.out.ltG
 have q4 := HE.out.lt
 have q5 := HM.out.lt
 have z6 := Hmod.out.size
 refine nameB 142 #[.pointer (some ⟨tX, 0, none⟩), .int .u64 (e.key : Int), .int .u64 (e.hash : Int), .pointer ap, .int .i64 (-1), .pointer (some ⟨gX, i * 25, none⟩), .int .i64 (s : Int)] ?_
 rintro w2 ⟨hnew, hb⟩
 replace HT := qd (HT.out.mod (Mod.of_below hb []) (by simp) (by simp))
 replace HE := qd (HE.out.mod (Mod.of_below hb []) (by simp))
 replace HM := qd (HM.out.mod (Mod.of_below hb []) (by simp))
 have z7 := (hb).size
 replace Hmod := qd (Hmod.out.then (Mod.of_below hb _))
 have HS := qd (hnew)
 clear hnew hb
 obtain ⟨sp0, sp1, sp2, sp3, sp4, sp5, sp6⟩ := HS.out.c7
 obtain ⟨ec0, ec1, ec2⟩ := HE.out.c3
 have hFp := seek_freePl TX.gs hP.pos e.key e.hash i s hfr
 have hs8 : s < 8 := by have := h8 i hFp.1; omega
 have HPl := qd (spot_Place tX gX ap TX i s e hFp.1 hs8 h64 hFp.2.2 hSm hroom w2 HT.out)
 unfold spotV entV at HPl
 clear HT
 go_wp2_with fail
 refine (HPl.out).mono ?_
 rintro x w5 ⟨rfl, hT5, hm⟩
 clear sp0 sp1 sp2 sp3 sp4 sp5 sp6 ec0 ec1 ec2
 replace HE := qd (HE.out.mod hm (by simp <;> omega))
 replace HM := qd (HM.out.mod hm (by simp <;> omega))
 replace HS := qd (HS.out.mod hm (by simp <;> omega))
 have z8 := (hm).size
 replace Hmod := qd (Hmod.out.tr hm)
 clear hm
 have HT := qd (hT5)
 clear hT5
 go_wp2
 refine bodyPost_ret (v := .tuple #[.bool true, .nilIface]) (by simp [results, Tryz.results70, go_sem]) rfl ⟨rfl, HT.out, HM.out, Hmod.out⟩
theorem dual_Put_full {W0 : World} {E : Nat → Addr} (db tX gX cnt : Nat) (TX : TabM) (P : MP) (x : Mtr) (c : Cnt) (e : Ent) (w : World) (hS : SeekTo w db P x c e.key e.hash tX gX TX cnt) (h : TabAt w tX gX TX) (hml : P.mb < w.heap.size) (hmt : P.mb ≠ tX) (hmg : P.mb ≠ gX) (hEn : Env W0 E w) (hb0 : W0.heap.size ≤ P.mb) (hsk : (seek TX.gs e.key e.hash).1 = none) :
  Calls Tryz.prog 70 #[dualP db, lensV (some ⟨P.mb, P.mo, none⟩) c, entV e, .bool false] w fun y w' => y = .returned (.tuple #[.bool false, errV E 2]) ∧ TabAt w' tX gX TX ∧ MetP w' P (x.add c cnt) ∧ Mod [P.mb] w w' := by
 have hB := ((Below.refl w.heap.size w).alloc (Nat.le_refl _) (.cells #[.pointer (some ⟨P.mb, P.mo, none⟩), .int .i64 c.p, .int .i64 c.v, .int .i64 c.u] 89)).alloc (by simp) (.cells #[.int .u64 (e.key : Int), .int .u64 (e.val : Int), .int .u64 (e.hash : Int)] 37)
 have hL := (Blk.new w 89 #[.pointer (some ⟨P.mb, P.mo, none⟩), .int .i64 c.p, .int .i64 c.v, .int .i64 c.u]).alloc (.cells #[.int .u64 (e.key : Int), .int .u64 (e.val : Int), .int .u64 (e.hash : Int)] 37)
 have hE := Blk.new (w.alloc (.cells #[.pointer (some ⟨P.mb, P.mo, none⟩), .int .i64 c.p, .int .i64 c.v, .int .i64 c.u] 89)) 37 #[.int .u64 (e.key : Int), .int .u64 (e.val : Int), .int .u64 (e.hash : Int)]
 simp only [World.size_alloc] at hE
 obtain ⟨W, hW⟩ : ∃ W, W = (w.alloc (.cells #[.pointer (some ⟨P.mb, P.mo, none⟩), .int .i64 c.p, .int .i64 c.v, .int .i64 c.u] 89)).alloc (.cells #[.int .u64 (e.key : Int), .int .u64 (e.val : Int), .int .u64 (e.hash : Int)] 37) := ⟨_, rfl⟩
 rw [← hW] at hB hL hE
 obtain ⟨lc0, lc1, lc2, lc3⟩ := hL.c4
 obtain ⟨ec0, ec1, ec2⟩ := hE.c3
 have htl := h.ltT
 have hgl := h.ltG
 have HW := qd hW
 have HSk := qd (hS W hB)
 unfold SeekPost spotV at HSk
 unfold dualP lensV at HSk ⊢
 obtain ⟨fs, hfs⟩ : ∃ fs, fs = slotI (seek TX.gs e.key e.hash).2.1 := ⟨_, rfl⟩
 rw [hsk] at HSk
 rw [← hfs] at HSk
 clear hfs
 simp only [Option.isSome_none, slotI] at HSk
 unfold entV
 have HT := qd (h.below hB)
 have HE := qd (hE)
 have HV0 := qd (hEn.next hB)
 have Hmod := qd (Mod.of_below hB [P.mb])
 clear hW hB h hL hE hS hEn
 go_enter Tryz.func70, Tryz.ntmps70
 go_upto_region 1 with fail
 rw [← HW.out]
 go_wp2_with fail
 refine (HSk.out).mono ?_
 rintro x w1 ⟨ap, fp, rfl, hap, hfp, hM1, hm⟩
 clear lc0 lc1 lc2 lc3 ec0 ec1 ec2
 replace HT := qd (HT.out.mod hm (by simp <;> omega) (by simp <;> omega))
 replace HE := qd (HE.out.mod hm (by simp <;> omega))
 replace HV0 := qd (HV0.out.mod hm (by intro k hk <;> simp at hk <;> omega))
 have z1 := (hm).size
 replace Hmod := qd (Hmod.out.tr hm)
 clear hm
 clear hap hfp
 have HM := qd (hM1)
 clear hM1
 go_upto_region 2 with fail
 have q2 := HT.out.ltT
 have q3 := HT.out.ltG
 have q4 := HE.out.lt
 have q5 := HM.out.lt
 have z6 := Hmod.out.size
 refine nameB 142 #[.pointer (some ⟨tX, 0, none⟩), .int .u64 (e.key : Int), .int .u64 (e.hash : Int), .pointer ap, .int .i64 (-1), .pointer fp, .int .i64 fs] ?_
 rintro w2 ⟨hnew, hb⟩
 replace HT := qd (HT.out.mod (Mod.of_below hb []) (by simp) (by simp))
 replace HE := qd (HE.out.mod (Mod.of_below hb []) (by simp))
 replace HV0 := qd (HV0.out.mod (Mod.of_below hb []) (by simp))
 replace HM := qd (HM.out.mod (Mod.of_below hb []) (by simp))
 have z7 := (hb).size
 replace Hmod := qd (Hmod.out.then (Mod.of_below hb _))
 have HS := qd (hnew)
 clear hnew hb
 obtain ⟨sp0, sp1, sp2, sp3, sp4, sp5, sp6⟩ := HS.out.c7
 obtain ⟨ec0, ec1, ec2⟩ := HE.out.c3
 have her := HV0.out.errs.at_ 2 (by omega) (by omega)
 unfold ErrAt gE at her
 simp only at her
 go_upto_region 5 with fail
 go_region
 go_wp2
 replace HT := qd (HT.out.below (Below.refl _ _).drew)
 replace HM := qd (HM.out.below (Below.refl _ _).drew)
 replace Hmod := qd (Hmod.out.then (Mod.drewN [P.mb] _ 1))
 refine bodyPost_ret (v := .tuple #[.bool false, .iface 260 (.pointer (some (E 2)))]) (by simp [results, Tryz.results70, go_sem]) rfl ⟨by rw [errV_pos E (by omega : 1 ≤ 2)], HT.out, HM.out, Hmod.out⟩
end
section
set_option maxRecDepth 100000
set_option maxHeartbeats 4000000
open Go.RowKit AmC
theorem info_ptab : (Tryz.prog.info? 109).map (fun i => (i.zero, i.size, i.bytes)) = some (some (.pointer none), 1, 8) := by kernel_rfl
theorem slty_ptab : SlTy Tryz.prog 212 109 1 8 := slTy Tryz.underlying212 info_ptab rfl (by decide) (by decide)
theorem ptrs_all (ts : List Nat) : ((ptrs ts).all fun u => u.oneCell') = true := by
 refine List.all_eq_true.2 fun u hu => ?_
 unfold ptrs at hu
 obtain ⟨t, _, rfl⟩ := List.mem_map.1 hu
 rfl
theorem ptrs_length (ts : List Nat) : (ptrs ts).length = ts.length := List.length_map ..
theorem RowAt.reads {w : World} {rb : Nat} {ts : List Nat} (h : RowAt w rb ts) : Reads w w.heap.size 1 (some ⟨rb, 0, none⟩) ts.length (ptrs ts) :=
 ⟨by rw [ptrs_length, Nat.mul_one], fun _ => ⟨rb, 0, rfl, h.lt, fun j u hu => by
  unfold ptrs at hu
  rw [List.getElem?_map] at hu
  obtain ⟨t, ht, rfl⟩ := Option.map_eq_some_iff.1 hu
  rw [Nat.zero_add]
  exact h.at_ j t ht⟩⟩
end
section
set_option maxRecDepth 100000
set_option maxHeartbeats 8000000
open Go.RowKit AmC
def mergeLeast (o o2 : Option Ent) : Option Ent := match o2 with
 | none => o
 | some e => match o with
  | none => some e
  | some b => if lessE e b then some e else some b
def leastTs (f : Ent) (Ts : List TabM) : Option Ent := Ts.foldl (fun o T => mergeLeast o (leastL f none (entsT T.gs))) none
def sumG (Ts : List TabM) : Nat := (Ts.map fun T => T.gs.length).sum
end
end Go.Proofs.YtcgjgfgkdoohlaaGreatDoor
