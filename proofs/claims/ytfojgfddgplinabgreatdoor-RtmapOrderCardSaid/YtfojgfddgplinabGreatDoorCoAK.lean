/- A dual's Find, Put, Delete by their contracts, whatever its seek has told. -/
import Derived.Test.YtfojgfddgplinabGreatDoorCoAI
import Derived.Test.YtfojgfddgplinabGreatDoorSqT
import Derived.Test.YtfojgfddgplinabGreatDoorLaneP
import Derived.Test.YtfojgfddgplinabGreatDoorLaw25a
namespace Go.Proofs.YtfojgfddgplinabGreatDoor
set_option maxRecDepth 100000
set_option maxHeartbeats 4000000
open Go.RowKit dG
def qY (w : World) (db : Nat) (P : MP) (x : bI) (c : bF) (key hash tX gX : Nat) (TX : aC) (cnt : Nat) : Prop :=
 ∀ V, Below w.heap.size w V → Calls Tryz.prog 99 #[bZ db, aJ (some ⟨P.mb, P.mo, none⟩) c, .int .u64 (key : Int), .int .u64 (hash : Int)] V (kZ V P x c key hash tX gX TX cnt)
theorem CU (db tX gX cnt : Nat) (TX : aC) (P : MP) (x : bI) (c : bF) (key hash : Nat) (w : World) (hS : qY w db P x c key hash tX gX TX cnt) (h : TabAt w tX gX TX) (hml : P.mb < w.heap.size) (hmt : P.mb ≠ tX) (iD : P.mb ≠ gX) (i s : Nat) (hsk : (aH TX.gs key hash).1 = some (i, s)) (e0 : av) (he0 : aD TX.gs i s = .full e0) (Rs : Small TX) :
  Calls Tryz.prog 84 #[bZ db, aJ (some ⟨P.mb, P.mo, none⟩) c, .int .u64 (key : Int), .int .u64 (hash : Int)] w fun e w' => e = .returned (gI (some e0)) ∧ TabAt w' tX gX (iq TX i s) ∧ aO w' P (x.add c cnt) ∧ Mod [P.mb, tX, gX] w w' := by
 obtain ⟨W, hW, hB, hL, hR⟩ := lK w 112 #[.pointer (some ⟨P.mb, P.mo, none⟩), .int .i64 c.p, .int .i64 c.v, .int .i64 c.u] 37 #[.int .u64 0, .int .u64 0, .int .u64 0]
 have lc := hL.c4
 have htl := h.aT
 have hgl := h.aU
 have HW := qd hW
 have aY := qd (hS W hB)
 unfold kZ bQ at aY
 unfold bZ aJ at aY ⊢
 obtain ⟨e1, he1, hk0, hil, hsl⟩ := tK hsk
 have oZ : s < 8 := by have := h.wide.at_ hil; omega
 have bC := qd (fun ap fp fs hap V hV => iI tX gX key hash TX ap fp fs hap V hV)
 unfold lN at bC
 obtain ⟨fs, hfs⟩ : ∃ fs, fs = bO (aH TX.gs key hash).2.1 := ⟨_, rfl⟩
 rw [hsk] at bC aY
 rw [← hfs] at aY
 clear hfs
 simp only [Option.map_some, he0, Option.getD_some, Option.isSome_some, Slot.ent, bO, gI] at bC aY
 unfold bQ aM at bC
 unfold gI aM
 simp only [Option.getD_some, Option.isSome_some]
 have HT := qd (h.below hB)
 have HR := qd (hR)
 have ah := qd (Mod.of_below hB [P.mb, tX, gX])
 clear hW hB h hL hR hS he1
 go_in
 go_upto_region 1 with fail
 rw [← HW.out]
 go_wp2_with fail
 refine (aY.out).mono ?_
 rintro x w1 ⟨ap, fp, rfl, hap, hfp, hM1, hm⟩
 clear lc
 replace HT := qM hm HT
 replace HR := qM hm HR
 have z1 := (hm).size
 replace ah := qU ah hm
 clear hm
 obtain rfl := hap i s rfl
 clear hap hfp
 have HM := qd (hM1)
 clear hM1
 go_upto_region 2 with fail
 have q2 := qJ HT.out.aT (qJ HT.out.aU (qJ HR.out.lt (qJ HM.out.lt ah.out.size)))
 refine bY 159 #[.pointer (some ⟨tX, 0, none⟩), .int .u64 (key : Int), .int .u64 (hash : Int), .pointer (some ⟨gX, i * 25, none⟩), .int .i64 (s : Int), .pointer fp, .int .i64 fs] ?_
 rintro w2 ⟨hnew, hb⟩
 replace HT := qB hb HT
 replace HR := qB hb HR
 replace HM := qB hb HM
 have z7 := (hb).size
 replace ah := qT ah hb
 have HS := qd (hnew)
 clear hnew hb
 have sp := HS.out.c7
 go_wp2_with fail
 refine (bC.out (some ⟨gX, i * 25, none⟩) fp fs (fun i2 s2 hh => by cases hh; rfl) w2 HT.out).mono ?_
 rintro x w3 ⟨rfl, hb⟩
 clear sp
 replace HT := qB hb HT
 replace HR := qB hb HR
 replace HM := qB hb HM
 replace HS := qB hb HS
 have z8 := (hb).size
 replace ah := qT ah hb
 clear hb
 go_upto_region 3 with fail
 have q9 := qJ HT.out.aT (qJ HT.out.aU (qJ HR.out.lt (qJ HM.out.lt (qJ HS.out.lt ah.out.size))))
 refine bY 37 #[.int .u64 (e0.key : Int), .int .u64 (e0.val : Int), .int .u64 (e0.hash : Int)] ?_
 rintro w4 ⟨hnew, hb⟩
 replace HT := qB hb HT
 replace HR := qB hb HR
 replace HM := qB hb HM
 replace HS := qB hb HS
 have z15 := (hb).size
 replace ah := qT ah hb
 have HD := qd (hnew)
 clear hnew hb
 have sp := HS.out.c7
 have dc := HD.out.c3
 have NG := qd (Dl tX key hash gX fp fs TX i s hil oZ e0 he0 Rs w4.drew (HT.out.below (Below.refl _ _).drew))
 refine rT (fun (w' : World) => w'.cell? ⟨w3.heap.size, 0, none⟩ = some (.int .u64 (e0.key : Int)) ∧ w'.cell? ⟨w3.heap.size, 1, none⟩ = some (.int .u64 (e0.val : Int)) ∧ w'.cell? ⟨w3.heap.size, 2, none⟩ = some (.int .u64 (e0.hash : Int)) ∧ w'.cell? ⟨w1.heap.size, 0, none⟩ = some (.pointer (some ⟨tX, 0, none⟩)) ∧ w'.cell? ⟨w1.heap.size, 1, none⟩ = some (.int .u64 (key : Int)) ∧ w'.cell? ⟨w1.heap.size, 2, none⟩ = some (.int .u64 (hash : Int)) ∧ w'.cell? ⟨w1.heap.size, 3, none⟩ = some (.pointer (some ⟨gX, i * 25, none⟩)) ∧ w'.cell? ⟨w1.heap.size, 4, none⟩ = some (.int .i64 (s : Int)) ∧ w'.cell? ⟨w1.heap.size, 5, none⟩ = some (.pointer fp) ∧ w'.cell? ⟨w1.heap.size, 6, none⟩ = some (.int .i64 fs)) [7] ?_
 have hHeld := (⟨dc.1, dc.2.1, dc.2.2, sp.1, sp.2.1, sp.2.2.1, sp.2.2.2.1, sp.2.2.2.2.1, sp.2.2.2.2.2.1, sp.2.2.2.2.2.2⟩ : _ ∧ _ ∧ _ ∧ _ ∧ _ ∧ _ ∧ _ ∧ _ ∧ _ ∧ _)
 refine vT 0 rfl ?_
 refine vW 1 rfl ?_
 refine vW 2 rfl ?_
 refine vT 3 rfl ?_
 refine nT 4 rfl fun K hK => ?_
 go_simp
 refine (NG.out).mono ?_
 rintro x w5 ⟨rfl, mg, hm⟩
 replace hm : Mod [tX, gX] w4 w5 := (Mod.drewN [tX, gX] w4 1).then hm
 clear HT sp dc
 replace HR := qM hm HR
 replace HM := qM hm HM
 replace HS := qM hm HS
 replace HD := qM hm HD
 have z16 := (hm).size
 replace ah := qU ah hm
 have HT := qd (mg)
 clear mg hm
 have sp := HS.out.c7
 have dc := HD.out.c3
 have rc := HR.out.c3
 have rf := HR.out.f3
 go_simp
 have hHeld := (⟨dc.1, dc.2.1, dc.2.2, sp.1, sp.2.1, sp.2.2.1, sp.2.2.2.1, sp.2.2.2.2.1, sp.2.2.2.2.2.1, sp.2.2.2.2.2.2⟩ : _ ∧ _ ∧ _ ∧ _ ∧ _ ∧ _ ∧ _ ∧ _ ∧ _ ∧ _)
 refine kO hK ?_
 clear hK K
 refine vW 5 rfl ?_
 refine vW 6 rfl ?_
 refine nT 7 rfl fun K hK => ?_
 go_simp
 refine kO hK ?_
 clear hK K
 refine vL 8 rfl ?_
 refine aS (by kernel_rfl) ?_ _
 clear HS HD
 have q17 := qJ HR.out.lt (qJ HM.out.lt (qJ HT.out.aT HT.out.aU))
 have hnew := (((HR.out.ak 0 (.int .u64 (e0.key : Int))).ak 1 (.int .u64 (e0.val : Int))).ak 2 (.int .u64 (e0.hash : Int)))
 have hm := ((((Mod.refl [(w.heap.size + 1)] w5).sl 0 (.int .u64 (e0.key : Int))).sl 1 (.int .u64 (e0.val : Int))).sl 2 (.int .u64 (e0.hash : Int)))
 simp only [pt] at hnew
 refine cZ (F := fun v => aj v (w.heap.size + 1) 37 #[.int .u64 (e0.key : Int), .int .u64 (e0.val : Int), .int .u64 (e0.hash : Int)] ∧ Mod [(w.heap.size + 1)] w5 v) ⟨hnew, hm⟩ ?_
 clear hnew hm
 rintro w6 ⟨hnew, hm⟩
 replace HM := qM hm HM
 replace HT := qM hm HT
 have z21 := (hm).size
 replace ah := qU ah hm
 replace HR := qd hnew
 clear hnew hm
 have rc := HR.out.c3
 go_wp2
 refine bodyPost_ret (v := .tuple #[.agg #[.int .u64 (e0.key : Int), .int .u64 (e0.val : Int), .int .u64 (e0.hash : Int)], .bool true]) (by simp [results, Tryz.results84, go_sem, rc.1, rc.2.1, rc.2.2]) rfl ⟨rfl, HT.out, HM.out, ah.out⟩
theorem DZ (db tX gX cnt : Nat) (TX : aC) (P : MP) (x : bI) (c : bF) (key hash : Nat) (w : World) (hS : qY w db P x c key hash tX gX TX cnt) (h : TabAt w tX gX TX) (hml : P.mb < w.heap.size) (hmt : P.mb ≠ tX) (iD : P.mb ≠ gX) (hsk : (aH TX.gs key hash).1 = none) :
  Calls Tryz.prog 84 #[bZ db, aJ (some ⟨P.mb, P.mo, none⟩) c, .int .u64 (key : Int), .int .u64 (hash : Int)] w fun e w' => e = .returned (gI none) ∧ TabAt w' tX gX TX ∧ aO w' P (x.add c cnt) ∧ Mod [P.mb] w w' := by
 obtain ⟨W, hW, hB, hL, hR⟩ := lK w 112 #[.pointer (some ⟨P.mb, P.mo, none⟩), .int .i64 c.p, .int .i64 c.v, .int .i64 c.u] 37 #[.int .u64 0, .int .u64 0, .int .u64 0]
 have lc := hL.c4
 have htl := h.aT
 have hgl := h.aU
 have HW := qd hW
 have aY := qd (hS W hB)
 unfold kZ bQ at aY
 unfold bZ aJ at aY ⊢
 have bC := qd (fun ap fp fs hap V hV => iI tX gX key hash TX ap fp fs hap V hV)
 unfold lN at bC
 obtain ⟨fs, hfs⟩ : ∃ fs, fs = bO (aH TX.gs key hash).2.1 := ⟨_, rfl⟩
 rw [hsk] at bC aY
 rw [← hfs] at aY
 clear hfs
 simp only [Option.map_none, Option.getD_none, Option.isSome_none, Slot.ent, bO, gI] at bC aY
 unfold bQ aM at bC
 unfold gI aM
 simp only [Option.getD_none, Option.isSome_none]
 have HT := qd (h.below hB)
 have HR := qd (hR)
 have ah := qd (Mod.of_below hB [P.mb])
 clear hW hB h hL hR hS
 go_in
 go_upto_region 1 with fail
 rw [← HW.out]
 go_wp2_with fail
 refine (aY.out).mono ?_
 rintro x w1 ⟨ap, fp, rfl, hap, hfp, hM1, hm⟩
 clear lc
 replace HT := qM hm HT
 replace HR := qM hm HR
 have z1 := (hm).size
 replace ah := qU ah hm
 clear hm hap hfp
 have HM := qd (hM1)
 clear hM1
 go_upto_region 2 with fail
 have q2 := qJ HT.out.aT (qJ HT.out.aU (qJ HR.out.lt (qJ HM.out.lt ah.out.size)))
 refine bY 159 #[.pointer (some ⟨tX, 0, none⟩), .int .u64 (key : Int), .int .u64 (hash : Int), .pointer ap, .int .i64 (-1), .pointer fp, .int .i64 fs] ?_
 rintro w2 ⟨hnew, hb⟩
 replace HT := qB hb HT
 replace HR := qB hb HR
 replace HM := qB hb HM
 have z7 := (hb).size
 replace ah := qT ah hb
 have HS := qd (hnew)
 clear hnew hb
 have sp := HS.out.c7
 go_wp2_with fail
 refine (bC.out ap fp fs (fun i2 s2 hh => by cases hh) w2 HT.out).mono ?_
 rintro x w3 ⟨rfl, hb⟩
 clear sp
 replace HT := qB hb HT
 replace HR := qB hb HR
 replace HM := qB hb HM
 replace HS := qB hb HS
 have z8 := (hb).size
 replace ah := qT ah hb
 clear hb
 go_upto_region 3 with fail
 have q9 := qJ HT.out.aT (qJ HT.out.aU (qJ HR.out.lt (qJ HM.out.lt (qJ HS.out.lt ah.out.size))))
 refine bY 37 #[.int .u64 0, .int .u64 0, .int .u64 0] ?_
 rintro w4 ⟨hnew, hb⟩
 replace HT := qB hb HT
 replace HR := qB hb HR
 replace HM := qB hb HM
 replace HS := qB hb HS
 have z15 := (hb).size
 replace ah := qT ah hb
 have HD := qd (hnew)
 clear hnew hb
 have sp := HS.out.c7
 have dc := HD.out.c3
 have rc := HR.out.c3
 have rf := HR.out.f3
 refine rT (fun (w' : World) => w'.cell? ⟨w3.heap.size, 0, none⟩ = some (.int .u64 0) ∧ w'.cell? ⟨w3.heap.size, 1, none⟩ = some (.int .u64 0) ∧ w'.cell? ⟨w3.heap.size, 2, none⟩ = some (.int .u64 0)) [7] ?_
 have hHeld := (⟨dc.1, dc.2.1, dc.2.2⟩ : _ ∧ _ ∧ _)
 refine vT 0 rfl ?_
 refine vW 1 rfl ?_
 refine vW 2 rfl ?_
 refine vU 3 rfl ?_
 refine vU 4 rfl ?_
 refine vU 5 rfl ?_
 refine vW 6 rfl ?_
 refine nT 7 rfl fun K hK => ?_
 go_simp
 refine kO hK ?_
 clear hK K
 refine vL 8 rfl ?_
 refine aS (by kernel_rfl) ?_ _
 clear HS HD
 have q16 := qJ HT.out.aT (qJ HT.out.aU (qJ HR.out.lt HM.out.lt))
 have hnew := (((HR.out.ak 0 (.int .u64 0)).ak 1 (.int .u64 0)).ak 2 (.int .u64 0)).drew
 have hm := (((((Mod.refl [(w.heap.size + 1)] w4).sl 0 (.int .u64 0)).sl 1 (.int .u64 0)).sl 2 (.int .u64 0)).then (Mod.drewN [(w.heap.size + 1)] _ 1))
 simp only [pt] at hnew
 refine cZ (F := fun v => aj v (w.heap.size + 1) 37 #[.int .u64 0, .int .u64 0, .int .u64 0] ∧ Mod [(w.heap.size + 1)] w4 v) ⟨hnew, hm⟩ ?_
 clear hnew hm
 rintro w6 ⟨hnew, hm⟩
 replace HT := qM hm HT
 replace HM := qM hm HM
 have z20 := (hm).size
 replace ah := qU ah hm
 replace HR := qd hnew
 clear hnew hm
 have rc := HR.out.c3
 go_wp2
 refine bodyPost_ret (v := .tuple #[.agg #[.int .u64 0, .int .u64 0, .int .u64 0], .bool false]) (by simp [results, Tryz.results84, go_sem, rc.1, rc.2.1, rc.2.2]) rfl ⟨rfl, HT.out, HM.out, ah.out⟩
theorem Gj (db tX gX cnt : Nat) (TX : aC) (P : MP) (x : bI) (c : bF) (e : av) (w : World) (hS : qY w db P x c e.key e.hash tX gX TX cnt) (h : TabAt w tX gX TX) (hml : P.mb < w.heap.size) (hmt : P.mb ≠ tX) (iD : P.mb ≠ gX) (more : Bool) (i s : Nat) (hsk : (aH TX.gs e.key e.hash).1 = some (i, s)) (e0 : av) (he0 : aD TX.gs i s = .full e0) :
  Calls Tryz.prog 66 #[bZ db, aJ (some ⟨P.mb, P.mo, none⟩) c, aM e, .bool more] w fun y w' => y = .returned (.tuple #[.bool false, .nilIface]) ∧ TabAt w' tX gX (replaceM TX i s e.val e0) ∧ aO w' P (x.add c cnt) ∧ Mod [P.mb, tX, gX] w w' := by
 obtain ⟨W, hW, hB, hL, hE⟩ := lK w 112 #[.pointer (some ⟨P.mb, P.mo, none⟩), .int .i64 c.p, .int .i64 c.v, .int .i64 c.u] 37 #[.int .u64 (e.key : Int), .int .u64 (e.val : Int), .int .u64 (e.hash : Int)]
 have lc := hL.c4
 have ec := hE.c3
 have htl := h.aT
 have hgl := h.aU
 have HW := qd hW
 have aY := qd (hS W hB)
 unfold kZ bQ at aY
 unfold bZ aJ at aY ⊢
 obtain ⟨e1, he1, hk0, hil, hsl⟩ := tK hsk
 have oZ : s < 8 := by have := h.wide.at_ hil; omega
 obtain ⟨fs, hfs⟩ : ∃ fs, fs = bO (aH TX.gs e.key e.hash).2.1 := ⟨_, rfl⟩
 rw [hsk] at aY
 rw [← hfs] at aY
 clear hfs
 simp only [Option.isSome_some, bO] at aY
 unfold aM
 have HT := qd (h.below hB)
 have HE := qd (hE)
 have ah := qd (Mod.of_below hB [P.mb, tX, gX])
 clear hW hB h hL hE hS he1
 go_in
 go_upto_region 1 with fail
 rw [← HW.out]
 go_wp2_with fail
 refine (aY.out).mono ?_
 rintro x w1 ⟨ap, fp, rfl, hap, hfp, hM1, hm⟩
 clear lc ec
 replace HT := qM hm HT
 replace HE := qM hm HE
 have z1 := (hm).size
 replace ah := qU ah hm
 clear hm
 obtain rfl := hap i s rfl
 clear hap hfp
 have HM := qd (hM1)
 clear hM1
 go_upto_region 2 with fail
 have q2 := qJ HT.out.aT (qJ HT.out.aU (qJ HE.out.lt (qJ HM.out.lt ah.out.size)))
 refine bY 159 #[.pointer (some ⟨tX, 0, none⟩), .int .u64 (e.key : Int), .int .u64 (e.hash : Int), .pointer (some ⟨gX, i * 25, none⟩), .int .i64 (s : Int), .pointer fp, .int .i64 fs] ?_
 rintro w2 ⟨hnew, hb⟩
 replace HT := qB hb HT
 replace HE := qB hb HE
 replace HM := qB hb HM
 have z7 := (hb).size
 replace ah := qT ah hb
 have HS := qd (hnew)
 clear hnew hb
 have sp := HS.out.c7
 have ec := HE.out.c3
 have Rt := qd (Bc tX e.key e.hash gX fp fs TX i s e.val hil oZ e0 he0 w2 HT.out)
 unfold bQ at Rt
 clear HT
 go_wp2_with fail
 refine (Rt.out).mono ?_
 rintro x w5 ⟨rfl, mg, hm⟩
 clear sp ec
 replace HE := qM hm HE
 replace HM := qM hm HM
 replace HS := qM hm HS
 have z8 := (hm).size
 replace ah := qU ah hm
 clear hm
 have HT := qd (mg)
 clear mg
 go_wp2
 refine bodyPost_ret (v := .tuple #[.bool false, .nilIface]) (by simp [results, Tryz.results66, go_sem]) rfl ⟨rfl, HT.out, HM.out, ah.out⟩
theorem KM (db tX gX cnt : Nat) (TX : aC) (P : MP) (x : bI) (c : bF) (e : av) (w : World) (hS : qY w db P x c e.key e.hash tX gX TX cnt) (h : TabAt w tX gX TX) (hml : P.mb < w.heap.size) (hmt : P.mb ≠ tX) (iD : P.mb ≠ gX) (hP : Pw TX.gs.length) (h64 : e.hash < 18446744073709551616) (hsk : (aH TX.gs e.key e.hash).1 = none) (i s : Nat) (hfr : (aH TX.gs e.key e.hash).2.1 = some (i, s)) (Rs : Small TX) (hroom : TX.live + TX.bM + 1 ≤ 7 * (TX.gs.length : Int)) :
  Calls Tryz.prog 66 #[bZ db, aJ (some ⟨P.mb, P.mo, none⟩) c, aM e, .bool true] w fun y w' => y = .returned (.tuple #[.bool true, .nilIface]) ∧ TabAt w' tX gX (jk TX i s e) ∧ aO w' P (x.add c cnt) ∧ Mod [P.mb, tX, gX] w w' := by
 obtain ⟨W, hW, hB, hL, hE⟩ := lK w 112 #[.pointer (some ⟨P.mb, P.mo, none⟩), .int .i64 c.p, .int .i64 c.v, .int .i64 c.u] 37 #[.int .u64 (e.key : Int), .int .u64 (e.val : Int), .int .u64 (e.hash : Int)]
 have lc := hL.c4
 have ec := hE.c3
 have htl := h.aT
 have hgl := h.aU
 have HW := qd hW
 have aY := qd (hS W hB)
 unfold kZ bQ at aY
 unfold bZ aJ at aY ⊢
 have h8 := fun i hi => h.wide.at_ (i := i) hi
 obtain ⟨fs, hfs⟩ : ∃ fs, fs = bO (aH TX.gs e.key e.hash).2.1 := ⟨_, rfl⟩
 rw [hsk] at aY
 rw [← hfs] at aY
 rw [hfr] at hfs
 simp only [bO] at hfs
 subst hfs
 rw [hfr] at aY
 simp only [Option.isSome_none, bO] at aY
 unfold aM
 have HT := qd (h.below hB)
 have HE := qd (hE)
 have ah := qd (Mod.of_below hB [P.mb, tX, gX])
 clear hW hB h hL hE hS
 go_in
 go_upto_region 1 with fail
 rw [← HW.out]
 go_wp2_with fail
 refine (aY.out).mono ?_
 rintro x w1 ⟨ap, fp, rfl, hap, hfp, hM1, hm⟩
 clear lc ec
 replace HT := qM hm HT
 replace HE := qM hm HE
 have z1 := (hm).size
 replace ah := qU ah hm
 clear hm
 obtain rfl := hfp i s rfl
 clear hap hfp
 have HM := qd (hM1)
 clear hM1
 go_upto_region 2 with fail
 have q2 := qJ HT.out.aT (qJ HT.out.aU (qJ HE.out.lt (qJ HM.out.lt ah.out.size)))
 refine bY 159 #[.pointer (some ⟨tX, 0, none⟩), .int .u64 (e.key : Int), .int .u64 (e.hash : Int), .pointer ap, .int .i64 (-1), .pointer (some ⟨gX, i * 25, none⟩), .int .i64 (s : Int)] ?_
 rintro w2 ⟨hnew, hb⟩
 replace HT := qB hb HT
 replace HE := qB hb HE
 replace HM := qB hb HM
 have z7 := (hb).size
 replace ah := qT ah hb
 have HS := qd (hnew)
 clear hnew hb
 have sp := HS.out.c7
 have ec := HE.out.c3
 have Bn := xV TX.gs hP.pos e.key e.hash i s hfr
 have oZ : s < 8 := by have := h8 i Bn.1; omega
 have iW := qd (zC tX gX ap TX i s e Bn.1 oZ h64 Bn.2.2 Rs hroom w2 HT.out)
 unfold bQ aM at iW
 clear HT
 go_wp2_with fail
 refine (iW.out).mono ?_
 rintro x w5 ⟨rfl, mg, hm⟩
 clear sp ec
 replace HE := qM hm HE
 replace HM := qM hm HM
 replace HS := qM hm HS
 have z8 := (hm).size
 replace ah := qU ah hm
 clear hm
 have HT := qd (mg)
 clear mg
 go_wp2
 refine bodyPost_ret (v := .tuple #[.bool true, .nilIface]) (by simp [results, Tryz.results66, go_sem]) rfl ⟨rfl, HT.out, HM.out, ah.out⟩
theorem Jj {W0 : World} {E : Nat → Addr} (db tX gX cnt : Nat) (TX : aC) (P : MP) (x : bI) (c : bF) (e : av) (w : World) (hS : qY w db P x c e.key e.hash tX gX TX cnt) (h : TabAt w tX gX TX) (hml : P.mb < w.heap.size) (hmt : P.mb ≠ tX) (iD : P.mb ≠ gX) (xC : Env W0 E w) (hb0 : W0.heap.size ≤ P.mb) (hsk : (aH TX.gs e.key e.hash).1 = none) :
  Calls Tryz.prog 66 #[bZ db, aJ (some ⟨P.mb, P.mo, none⟩) c, aM e, .bool false] w fun y w' => y = .returned (.tuple #[.bool false, kW E 2]) ∧ TabAt w' tX gX TX ∧ aO w' P (x.add c cnt) ∧ Mod [P.mb] w w' := by
 obtain ⟨W, hW, hB, hL, hE⟩ := lK w 112 #[.pointer (some ⟨P.mb, P.mo, none⟩), .int .i64 c.p, .int .i64 c.v, .int .i64 c.u] 37 #[.int .u64 (e.key : Int), .int .u64 (e.val : Int), .int .u64 (e.hash : Int)]
 have lc := hL.c4
 have ec := hE.c3
 have htl := h.aT
 have hgl := h.aU
 have HW := qd hW
 have aY := qd (hS W hB)
 unfold kZ bQ at aY
 unfold bZ aJ at aY ⊢
 obtain ⟨fs, hfs⟩ : ∃ fs, fs = bO (aH TX.gs e.key e.hash).2.1 := ⟨_, rfl⟩
 rw [hsk] at aY
 rw [← hfs] at aY
 clear hfs
 simp only [Option.isSome_none, bO] at aY
 unfold aM
 have HT := qd (h.below hB)
 have HE := qd (hE)
 have ay := qd (xC.next hB)
 have ah := qd (Mod.of_below hB [P.mb])
 clear hW hB h hL hE hS xC
 go_in
 go_upto_region 1 with fail
 rw [← HW.out]
 go_wp2_with fail
 refine (aY.out).mono ?_
 rintro x w1 ⟨ap, fp, rfl, hap, hfp, hM1, hm⟩
 clear lc ec
 replace HT := qM hm HT
 replace HE := qM hm HE
 replace ay := qM hm ay
 have z1 := (hm).size
 replace ah := qU ah hm
 clear hm hap hfp
 have HM := qd (hM1)
 clear hM1
 go_upto_region 2 with fail
 have q2 := qJ HT.out.aT (qJ HT.out.aU (qJ HE.out.lt (qJ HM.out.lt ah.out.size)))
 refine bY 159 #[.pointer (some ⟨tX, 0, none⟩), .int .u64 (e.key : Int), .int .u64 (e.hash : Int), .pointer ap, .int .i64 (-1), .pointer fp, .int .i64 fs] ?_
 rintro w2 ⟨hnew, hb⟩
 replace HT := qB hb HT
 replace HE := qB hb HE
 replace ay := qB hb ay
 replace HM := qB hb HM
 have z7 := (hb).size
 replace ah := qT ah hb
 have HS := qd (hnew)
 clear hnew hb
 have sp := HS.out.c7
 have ec := HE.out.c3
 have her := ay.out.errs.at_ 2 (by omega) (by omega)
 unfold gT gE at her
 simp only at her
 go_upto_region 5 with fail
 go_region
 go_wp2
 replace HT := qd (HT.out.below (Below.refl _ _).drew)
 replace HM := qd (HM.out.below (Below.refl _ _).drew)
 replace ah := qd (ah.out.then (Mod.drewN [P.mb] _ 1))
 refine bodyPost_ret (v := .tuple #[.bool false, .iface 285 (.pointer (some (E 2)))]) (by simp [results, Tryz.results66, go_sem]) rfl ⟨by rw [jc E (by omega : 1 ≤ 2)], HT.out, HM.out, ah.out⟩
theorem Ru : (Tryz.prog.info? 137).map (fun i => (i.zero, i.size, i.bytes)) = some (some (.pointer none), 1, 8) := by kernel_rfl
theorem kM : uD Tryz.prog 236 137 1 8 := DL Tryz.underlying236 Ru rfl (by decide) (by decide)
theorem vY (ts : List Nat) : ((ptrs ts).all fun u => u.oneCell') = true := by
 refine List.all_eq_true.2 fun u hu => ?_
 unfold ptrs at hu
 obtain ⟨t, _, rfl⟩ := List.mem_map.1 hu
 rfl
theorem MX (ts : List Nat) : (ptrs ts).length = ts.length := List.length_map ..
theorem eF.reads {w : World} {rb : Nat} {ts : List Nat} (h : eF w rb ts) : Reads w w.heap.size 1 (some ⟨rb, 0, none⟩) ts.length (ptrs ts) :=
 ⟨by rw [MX, Nat.mul_one], fun _ => ⟨rb, 0, rfl, h.lt, fun j u hu => by
  unfold ptrs at hu
  rw [List.getElem?_map] at hu
  obtain ⟨t, ht, rfl⟩ := Option.map_eq_some_iff.1 hu
  rw [Nat.zero_add]
  exact h.at_ j t ht⟩⟩
theorem MZ (db ob cap : Nat) (A : Option Addr) (fr : List Nat) (hl2 : fr.length ≤ 2) (dep WE mv tk : Value) (w : World) (hblk : aj w db 239 #[.pointer (some ⟨ob, 0, none⟩), dep, WE, .slice A fr.length cap, mv, tk]) (hrd : Reads w w.heap.size 1 A fr.length (ptrs fr)) :
  Calls Tryz.prog 170 #[bZ db] w fun e w' => ∃ rb c, w.heap.size ≤ rb ∧ e = .returned (.slice (some ⟨rb, 0, none⟩) (fr.length + 1) c) ∧ eF w' rb (fr ++ [ob]) ∧ Below w.heap.size w w' := by
 have hdl := hblk.lt
 have hrl := hl2
 unfold bZ
 have rW := hblk.cell 0
 have rX := hblk.cell 3
 simp only [gl] at rW rX
 have mq := qd hrd
 clear hblk hrd
 go_in
 go_upto_region 1 with fail
 refine rT (fun (w' : World) => w'.cell? ⟨db, 0, none⟩ = some (.pointer (some ⟨ob, 0, none⟩)) ∧ w'.cell? ⟨db, 3, none⟩ = some (.slice A fr.length cap)) [] ?_
 have hHeld := (⟨rW, rX⟩ : _ ∧ _)
 refine vW 1 rfl ?_
 refine vW 2 rfl ?_
 refine vW 3 rfl ?_
 refine vT 4 rfl ?_
 refine vW 6 rfl ?_
 refine vW 7 rfl ?_
 refine vW 8 rfl ?_
 refine vT 9 rfl ?_
 clear hHeld
 refine cZ (F := fun v => Mod [] w v) (Mod.drewN [] w 1) ?_
 rintro V hmV
 have hb0 : Below w.heap.size w V := hmV.zo
 have Zb := qd (mq.out.below hb0)
 have Bb := hmV.size
 have qx : Below w.heap.size V V := Below.refl _ _
 replace rW := (hb0.cell (p := ⟨db, 0, none⟩) hdl).trans rW
 replace rX := (hb0.cell (p := ⟨db, 3, none⟩) hdl).trans rX
 refine pairT (i := 0) (j := 10) (o := ⟨some 3, _, _, _, _, _⟩) (o' := ⟨some 13, _, _, _, _, _⟩) rfl rfl (by kernel_rfl) (fun K hK => ?_) (fun K hK => ?_)
 ·go_simp
  refine cZ (F := fun v => v.ownsRow w.heap.size 137 1 (.slice (some ⟨V.heap.size, 0, none⟩) 0 0) 0 [] ∧ Below V.heap.size V v) ⟨World.ownsRow_lit V #[] 0 (by have := qx.size; omega) (by simp) (by rfl), (Below.refl _ _).alloc (Nat.le_refl _) _⟩ ?_
  rintro u1 ⟨ho1, hx1⟩
  have hle1 := qx.size
  have hlt1 : V.heap.size < u1.heap.size := (ho1.lt _ rfl).2
  have hsz1 := hx1.size
  have hb1 : Below w.heap.size V u1 := qx.trans (hx1.mono (by have := qx.size; omega))
  refine hK.out _ _ (fun _ => show (fun (w' : World) => w'.cell? ⟨db, 0, none⟩ = some (.pointer (some ⟨ob, 0, none⟩)) ∧ w'.cell? ⟨db, 3, none⟩ = some (.slice A fr.length cap)) _ from ⟨(hb1.cell (p := ⟨db, 0, none⟩) hdl).trans rW, (hb1.cell (p := ⟨db, 3, none⟩) hdl).trans rX⟩) ?_
  clear hK K
  try simp only [pt]
  refine pairT (i := 5) (j := 10) (o := ⟨some 8, _, _, _, _, _⟩) (o' := ⟨some 13, _, _, _, _, _⟩) rfl rfl (by kernel_rfl) (fun K hK => ?_) (fun K hK => ?_)
  ·refine kX (by rfl) (by rfl) kM ho1 (by rfl) (by rfl) (Zb.out.below hb1) (vY fr) (by omega) (by have := hb1.size; omega) ?_
   intro v2 u2 ho2 aa5
   have hb2 : Below w.heap.size V u2 := hb1.trans aa5.below
   rw [Nat.zero_add, List.nil_append] at ho2
   refine hK.out _ _ (fun _ => show (fun (w' : World) => w'.cell? ⟨db, 0, none⟩ = some (.pointer (some ⟨ob, 0, none⟩)) ∧ w'.cell? ⟨db, 3, none⟩ = some (.slice A fr.length cap)) _ from ⟨(hb2.cell (p := ⟨db, 0, none⟩) hdl).trans rW, (hb2.cell (p := ⟨db, 3, none⟩) hdl).trans rX⟩) ?_
   clear hK K
   try simp only [pt]
   refine nT 10 rfl fun K hK => ?_
   go_simp
   refine cZ (F := fun v => aj v u2.heap.size 137 #[.pointer (some ⟨ob, 0, none⟩)] ∧ Below u2.heap.size u2 v) ⟨aj.new u2 _ _, (Below.refl _ _).alloc (Nat.le_refl _) _⟩ ?_
   rintro u3 ⟨nY, hx3⟩
   have hle3 := hb2.size
   have hlt3 := nY.lt
   have aa6 := hx3.size
   have ho3 := own_below ho2 hx3 (Nat.le_refl _)
   have hb3 : Below w.heap.size V u3 := hb2.trans (hx3.mono (by have := hb2.size; omega))
   refine hK.out _ _ (fun _ => show (fun (w' : World) => w'.cell? ⟨db, 0, none⟩ = some (.pointer (some ⟨ob, 0, none⟩)) ∧ w'.cell? ⟨db, 3, none⟩ = some (.slice A fr.length cap)) _ from ⟨(hb3.cell (p := ⟨db, 0, none⟩) hdl).trans rW, (hb3.cell (p := ⟨db, 3, none⟩) hdl).trans rX⟩) ?_
   clear hK K
   try simp only [pt]
   refine nT 11 rfl fun K hK => ?_
   refine kX (by rfl) (by rfl) kM ho3 (by rfl) (by rfl) (nN (size := 1) (m := 1) nY (by rfl)) (by rfl) (by omega) (by have := hb3.size; omega) ?_
   intro v4 u4 ho4 gH
   have hb4 : Below w.heap.size V u4 := hb3.trans gH.below
   obtain ⟨A4, c4, rfl⟩ := dB ho4
   refine hK.out _ _ (fun _ => show (fun (w' : World) => w'.cell? ⟨db, 0, none⟩ = some (.pointer (some ⟨ob, 0, none⟩)) ∧ w'.cell? ⟨db, 3, none⟩ = some (.slice A fr.length cap)) _ from ⟨(hb4.cell (p := ⟨db, 0, none⟩) hdl).trans rW, (hb4.cell (p := ⟨db, 3, none⟩) hdl).trans rX⟩) ?_
   clear hK K
   try simp only [pt]
   have hHeld := show (fun (w' : World) => w'.cell? ⟨db, 0, none⟩ = some (.pointer (some ⟨ob, 0, none⟩)) ∧ w'.cell? ⟨db, 3, none⟩ = some (.slice A fr.length cap)) _ from ⟨(hb4.cell (p := ⟨db, 0, none⟩) hdl).trans rW, (hb4.cell (p := ⟨db, 3, none⟩) hdl).trans rX⟩
   refine vW 12 rfl ?_
   refine aS (by kernel_rfl) ?_ _
   have hpt : ptrs fr ++ [.pointer (some ⟨ob, 0, none⟩)] = ptrs (fr ++ [ob]) := by simp [ptrs]
   have HQ := qd (show u4.ownsRow w.heap.size 137 1 (.slice A4 (fr.length + 1) c4) (fr.length + 1) (ptrs (fr ++ [ob])) from hpt ▸ ho4)
   have HZ := qd (hb0.trans hb4)
   go_wp2
   go_ret
   obtain ⟨mY, rfl, pV, hrow, _⟩ := eF.qK HQ.out (by omega)
   first | exact ⟨mY, pV, ⟨_, rfl⟩, hrow, HZ.out⟩ | exact ⟨mY, _, pV, rfl, hrow, HZ.out⟩ | exact ⟨mY, pV, _, rfl, hrow, HZ.out⟩
  ·go_simp
   refine cZ (F := fun v => aj v u1.heap.size 137 #[.pointer (some ⟨ob, 0, none⟩)] ∧ Below u1.heap.size u1 v) ⟨aj.new u1 _ _, (Below.refl _ _).alloc (Nat.le_refl _) _⟩ ?_
   rintro u5 ⟨nY, hx5⟩
   have acM := hb1.size
   have acN := nY.lt
   have hsz5 := hx5.size
   have ho5 := own_below ho1 hx5 (Nat.le_refl _)
   have hb5 : Below w.heap.size V u5 := hb1.trans (hx5.mono (by have := hb1.size; omega))
   refine hK.out _ _ (fun _ => show (fun (w' : World) => w'.cell? ⟨db, 0, none⟩ = some (.pointer (some ⟨ob, 0, none⟩)) ∧ w'.cell? ⟨db, 3, none⟩ = some (.slice A fr.length cap)) _ from ⟨(hb5.cell (p := ⟨db, 0, none⟩) hdl).trans rW, (hb5.cell (p := ⟨db, 3, none⟩) hdl).trans rX⟩) ?_
   clear hK K
   try simp only [pt]
   refine nT 5 rfl fun K hK => ?_
   refine kX (by rfl) (by rfl) kM ho5 (by rfl) (by rfl) (Zb.out.below hb5) (vY fr) (by omega) (by have := hb5.size; omega) ?_
   intro v6 u6 ho6 Zc
   have hb6 : Below w.heap.size V u6 := hb5.trans Zc.below
   replace nY : aj u6 _ _ _ := (Zc.je.block _ nY.lt (by intro e; simp [Value.ownBlock] at e; omega)).trans nY
   rw [Nat.zero_add, List.nil_append] at ho6
   refine hK.out _ _ (fun _ => show (fun (w' : World) => w'.cell? ⟨db, 0, none⟩ = some (.pointer (some ⟨ob, 0, none⟩)) ∧ w'.cell? ⟨db, 3, none⟩ = some (.slice A fr.length cap)) _ from ⟨(hb6.cell (p := ⟨db, 0, none⟩) hdl).trans rW, (hb6.cell (p := ⟨db, 3, none⟩) hdl).trans rX⟩) ?_
   clear hK K
   try simp only [pt]
   refine nT 11 rfl fun K hK => ?_
   refine kX (by rfl) (by rfl) kM ho6 (by rfl) (by rfl) (nN (size := 1) (m := 1) nY (by rfl)) (by rfl) (by omega) (by have := hb6.size; omega) ?_
   intro v7 u7 Rv aa7
   have jJ : Below w.heap.size V u7 := hb6.trans aa7.below
   obtain ⟨A7, c7, rfl⟩ := dB Rv
   refine hK.out _ _ (fun _ => show (fun (w' : World) => w'.cell? ⟨db, 0, none⟩ = some (.pointer (some ⟨ob, 0, none⟩)) ∧ w'.cell? ⟨db, 3, none⟩ = some (.slice A fr.length cap)) _ from ⟨(jJ.cell (p := ⟨db, 0, none⟩) hdl).trans rW, (jJ.cell (p := ⟨db, 3, none⟩) hdl).trans rX⟩) ?_
   clear hK K
   try simp only [pt]
   have hHeld := show (fun (w' : World) => w'.cell? ⟨db, 0, none⟩ = some (.pointer (some ⟨ob, 0, none⟩)) ∧ w'.cell? ⟨db, 3, none⟩ = some (.slice A fr.length cap)) _ from ⟨(jJ.cell (p := ⟨db, 0, none⟩) hdl).trans rW, (jJ.cell (p := ⟨db, 3, none⟩) hdl).trans rX⟩
   refine vW 12 rfl ?_
   refine aS (by kernel_rfl) ?_ _
   have hpt : ptrs fr ++ [.pointer (some ⟨ob, 0, none⟩)] = ptrs (fr ++ [ob]) := by simp [ptrs]
   have HQ := qd (show u7.ownsRow w.heap.size 137 1 (.slice A7 (fr.length + 1) c7) (fr.length + 1) (ptrs (fr ++ [ob])) from hpt ▸ Rv)
   have HZ := qd (hb0.trans jJ)
   go_wp2
   go_ret
   obtain ⟨mY, rfl, pV, hrow, _⟩ := eF.qK HQ.out (by omega)
   first | exact ⟨mY, pV, ⟨_, rfl⟩, hrow, HZ.out⟩ | exact ⟨mY, _, pV, rfl, hrow, HZ.out⟩ | exact ⟨mY, pV, _, rfl, hrow, HZ.out⟩
 ·go_simp
  refine cZ (F := fun v => aj v V.heap.size 137 #[.pointer (some ⟨ob, 0, none⟩)] ∧ Below V.heap.size V v) ⟨aj.new V _ _, (Below.refl _ _).alloc (Nat.le_refl _) _⟩ ?_
  rintro u8 ⟨nY, He⟩
  have acO := qx.size
  have acP := nY.lt
  have acQ := He.size
  have kF : Below w.heap.size V u8 := qx.trans (He.mono (by have := qx.size; omega))
  refine hK.out _ _ (fun _ => show (fun (w' : World) => w'.cell? ⟨db, 0, none⟩ = some (.pointer (some ⟨ob, 0, none⟩)) ∧ w'.cell? ⟨db, 3, none⟩ = some (.slice A fr.length cap)) _ from ⟨(kF.cell (p := ⟨db, 0, none⟩) hdl).trans rW, (kF.cell (p := ⟨db, 3, none⟩) hdl).trans rX⟩) ?_
  clear hK K
  try simp only [pt]
  refine nT 0 rfl fun K hK => ?_
  go_simp
  refine cZ (F := fun v => v.ownsRow w.heap.size 137 1 (.slice (some ⟨u8.heap.size, 0, none⟩) 0 0) 0 [] ∧ Below u8.heap.size u8 v) ⟨World.ownsRow_lit u8 #[] 0 (by have := kF.size; omega) (by simp) (by rfl), (Below.refl _ _).alloc (Nat.le_refl _) _⟩ ?_
  rintro u9 ⟨ho9, Zd⟩
  have acR := kF.size
  have acS : u8.heap.size < u9.heap.size := (ho9.lt _ rfl).2
  have acT := Zd.size
  replace nY := nY.below Zd nY.lt
  have Ao : Below w.heap.size V u9 := kF.trans (Zd.mono (by have := kF.size; omega))
  refine hK.out _ _ (fun _ => show (fun (w' : World) => w'.cell? ⟨db, 0, none⟩ = some (.pointer (some ⟨ob, 0, none⟩)) ∧ w'.cell? ⟨db, 3, none⟩ = some (.slice A fr.length cap)) _ from ⟨(Ao.cell (p := ⟨db, 0, none⟩) hdl).trans rW, (Ao.cell (p := ⟨db, 3, none⟩) hdl).trans rX⟩) ?_
  clear hK K
  try simp only [pt]
  refine nT 5 rfl fun K hK => ?_
  refine kX (by rfl) (by rfl) kM ho9 (by rfl) (by rfl) (Zb.out.below Ao) (vY fr) (by omega) (by have := Ao.size; omega) ?_
  intro v10 u10 Ze WG
  have Pk : Below w.heap.size V u10 := Ao.trans WG.below
  replace nY : aj u10 _ _ _ := (WG.je.block _ nY.lt (by intro e; simp [Value.ownBlock] at e; omega)).trans nY
  rw [Nat.zero_add, List.nil_append] at Ze
  refine hK.out _ _ (fun _ => show (fun (w' : World) => w'.cell? ⟨db, 0, none⟩ = some (.pointer (some ⟨ob, 0, none⟩)) ∧ w'.cell? ⟨db, 3, none⟩ = some (.slice A fr.length cap)) _ from ⟨(Pk.cell (p := ⟨db, 0, none⟩) hdl).trans rW, (Pk.cell (p := ⟨db, 3, none⟩) hdl).trans rX⟩) ?_
  clear hK K
  try simp only [pt]
  refine nT 11 rfl fun K hK => ?_
  refine kX (by rfl) (by rfl) kM Ze (by rfl) (by rfl) (nN (size := 1) (m := 1) nY (by rfl)) (by rfl) (by omega) (by have := Pk.size; omega) ?_
  intro v11 u11 Zf aaD
  have KN : Below w.heap.size V u11 := Pk.trans aaD.below
  obtain ⟨A11, c11, rfl⟩ := dB Zf
  refine hK.out _ _ (fun _ => show (fun (w' : World) => w'.cell? ⟨db, 0, none⟩ = some (.pointer (some ⟨ob, 0, none⟩)) ∧ w'.cell? ⟨db, 3, none⟩ = some (.slice A fr.length cap)) _ from ⟨(KN.cell (p := ⟨db, 0, none⟩) hdl).trans rW, (KN.cell (p := ⟨db, 3, none⟩) hdl).trans rX⟩) ?_
  clear hK K
  try simp only [pt]
  have hHeld := show (fun (w' : World) => w'.cell? ⟨db, 0, none⟩ = some (.pointer (some ⟨ob, 0, none⟩)) ∧ w'.cell? ⟨db, 3, none⟩ = some (.slice A fr.length cap)) _ from ⟨(KN.cell (p := ⟨db, 0, none⟩) hdl).trans rW, (KN.cell (p := ⟨db, 3, none⟩) hdl).trans rX⟩
  refine vW 12 rfl ?_
  refine aS (by kernel_rfl) ?_ _
  have hpt : ptrs fr ++ [.pointer (some ⟨ob, 0, none⟩)] = ptrs (fr ++ [ob]) := by simp [ptrs]
  have HQ := qd (show u11.ownsRow w.heap.size 137 1 (.slice A11 (fr.length + 1) c11) (fr.length + 1) (ptrs (fr ++ [ob])) from hpt ▸ Zf)
  have HZ := qd (hb0.trans KN)
  go_wp2
  go_ret
  obtain ⟨mY, rfl, pV, hrow, _⟩ := eF.qK HQ.out (by omega)
  first | exact ⟨mY, pV, ⟨_, rfl⟩, hrow, HZ.out⟩ | exact ⟨mY, _, pV, rfl, hrow, HZ.out⟩ | exact ⟨mY, pV, _, rfl, hrow, HZ.out⟩
end Go.Proofs.YtfojgfddgplinabGreatDoor
