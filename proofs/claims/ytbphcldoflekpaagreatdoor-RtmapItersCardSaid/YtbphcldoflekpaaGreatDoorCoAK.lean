/- A dual's Find, Put, Delete by their contracts, whatever its seek has told. -/
import Derived.Test.YtbphcldoflekpaaGreatDoorCoAI
import Derived.Test.YtbphcldoflekpaaGreatDoorSqT
import Derived.Test.YtbphcldoflekpaaGreatDoorLaneP
import Derived.Test.YtbphcldoflekpaaGreatDoorLaw25a
namespace Go.Proofs.YtbphcldoflekpaaGreatDoor
set_option maxRecDepth 100000
set_option maxHeartbeats 4000000
open Go.RowKit dA
def oH (w : World) (db : Nat) (P : MP) (x : bM) (c : bC) (key hash tX gX : Nat) (TX : aB) (cnt : Nat) : Prop :=
 ∀ V, Below w.heap.size w V → Calls Tryz.prog 116 #[bL db, aG (some ⟨P.mb, P.mo, none⟩) c, nU key, nU hash] V (jV V P x c key hash tX gX TX cnt)
theorem R3 (db tX gX cnt : Nat) (TX : aB) (P : MP) (x : bM) (c : bC) (key hash : Nat) (w : World) (hS : oH w db P x c key hash tX gX TX cnt) (h : TabAt w tX gX TX) (hml : P.mb < w.heap.size) (hmt : P.mb ≠ tX) (gD : P.mb ≠ gX) :
  Calls Tryz.prog 99 #[bL db, aG (some ⟨P.mb, P.mo, none⟩) c, nU key, nU hash] w fun e w' => e = .returned (eT (gP TX.gs key hash)) ∧ aN w' P (x.add c cnt) ∧ Mod [P.mb] w w' := by
 obtain ⟨W, hW, hB, hL, hR⟩ := jS w 115 #[.pointer (some ⟨P.mb, P.mo, none⟩), .int .i64 c.p, .int .i64 c.v, .int .i64 c.u] 38 #[.int .u64 0, .int .u64 0, .int .u64 0]
 have lc := hL.c4
 have htl := h.aQ
 have hgl := h.aR
 have HW := qd hW
 have aW := qd (hS W hB)
 unfold jV bK at aW
 unfold bL aG at aW ⊢
 have bD := qd (fun ap fp fs hap V hV => gG tX gX key hash TX ap fp fs hap V hV)
 unfold bK eT aM at bD
 unfold eT aM
 obtain ⟨fe, hfe⟩ : ∃ fe, fe = (gP TX.gs key hash).getD ⟨0, 0, 0⟩ := ⟨_, rfl⟩
 obtain ⟨fb, nX⟩ : ∃ fb, fb = (gP TX.gs key hash).isSome := ⟨_, rfl⟩
 rw [← hfe, ← nX] at bD ⊢
 clear hfe nX
 obtain ⟨s1, hs1⟩ : ∃ s, s = bS (aH TX.gs key hash).1 := ⟨_, rfl⟩
 obtain ⟨s2, hs2⟩ : ∃ s, s = bS (aH TX.gs key hash).2.1 := ⟨_, rfl⟩
 obtain ⟨sb0, hsb⟩ : ∃ s, s = (aH TX.gs key hash).1.isSome := ⟨_, rfl⟩
 rw [← hs1, ← hs2, ← hsb] at aW
 rw [← hs1] at bD
 clear hs1 hs2 hsb
 have HT := qd (h.below hB)
 have HR := qd (hR)
 have ah := qd (Mod.of_below hB [P.mb])
 clear hW hB h hL hR hS
 go_in
 go_upto_region 1 with fail
 rw [← HW.out]
 go_wp2_with fail
 refine (aW.out).mono ?_
 rintro x w1 ⟨ap, fp, rfl, hap, hfp, hM1, hm⟩
 clear lc
 replace HT := qM hm HT
 replace HR := qM hm HR
 have z1 := (hm).size
 replace ah := qU ah hm
 clear hm
 have HM := qd (hM1)
 clear hM1 hfp
 go_upto_region 2 with fail
 have q2 := qJ HT.out.aQ (qJ HT.out.aR (qJ HR.out.lt (qJ HM.out.lt ah.out.size)))
 refine bW 163 #[pQ tX, nU key, nU hash, .pointer ap, .int .i64 s1, .pointer fp, .int .i64 s2] ?_
 rintro w2 ⟨hnew, hb⟩
 replace HT := qB hb HT
 replace HR := qB hb HR
 replace HM := qB hb HM
 have z7 := (hb).size
 replace ah := qT ah hb
 have HS := qd (hnew)
 clear hnew hb
 have sp := HS.out.c7
 go_wp2_with fail
 refine (bD.out ap fp s2 hap w2 HT.out).mono ?_
 rintro x w3 ⟨rfl, hb⟩
 clear sp
 replace HT := qB hb HT
 replace HR := qB hb HR
 replace HM := qB hb HM
 replace HS := qB hb HS
 have z8 := (hb).size
 replace ah := qT ah hb
 clear hb
 have rc := HR.out.c3
 have rf := HR.out.f3
 go_wp2
 have q9 := qJ HT.out.aQ (qJ HT.out.aR (qJ HR.out.lt (qJ HM.out.lt HS.out.lt)))
 have hnew := (((HR.out.ak 0 (nU fe.key)).ak 1 (nU fe.val)).ak 2 (nU fe.hash))
 have hm := ((((Mod.refl [(w.heap.size + 1)] w3).sl 0 (nU fe.key)).sl 1 (nU fe.val)).sl 2 (nU fe.hash))
 simp only [pt] at hnew
 refine cO (F := fun v => aj v (w.heap.size + 1) 38 #[nU fe.key, nU fe.val, nU fe.hash] ∧ Mod [(w.heap.size + 1)] w3 v) ⟨hnew, hm⟩ ?_
 clear hnew hm
 rintro w5 ⟨hnew, hm⟩
 clear rc rf
 replace HT := qM hm HT
 replace HM := qM hm HM
 replace HS := qM hm HS
 have z14 := (hm).size
 replace ah := qU ah hm
 replace HR := qd hnew
 clear hnew hm
 have rx := HR.out.c3
 refine bodyPost_ret (v := .tuple #[.agg #[nU fe.key, nU fe.val, nU fe.hash], .bool fb]) (by simp [results, Tryz.results99, go_sem, rx.1, rx.2.1, rx.2.2]) rfl ⟨rfl, HM.out, ah.out⟩
theorem Cx (db tX gX cnt : Nat) (TX : aB) (P : MP) (x : bM) (c : bC) (key hash : Nat) (w : World) (hS : oH w db P x c key hash tX gX TX cnt) (h : TabAt w tX gX TX) (hml : P.mb < w.heap.size) (hmt : P.mb ≠ tX) (gD : P.mb ≠ gX) (i s : Nat) (hsk : (aH TX.gs key hash).1 = some (i, s)) (e0 : av) (he0 : aF TX.gs i s = .full e0) (R4 : Small TX) :
  Calls Tryz.prog 97 #[bL db, aG (some ⟨P.mb, P.mo, none⟩) c, nU key, nU hash] w fun e w' => e = .returned (eT (some e0)) ∧ TabAt w' tX gX (iD TX i s) ∧ aN w' P (x.add c cnt) ∧ Mod [P.mb, tX, gX] w w' := by
 obtain ⟨W, hW, hB, hL, hR⟩ := jS w 115 #[.pointer (some ⟨P.mb, P.mo, none⟩), .int .i64 c.p, .int .i64 c.v, .int .i64 c.u] 38 #[.int .u64 0, .int .u64 0, .int .u64 0]
 have lc := hL.c4
 have htl := h.aQ
 have hgl := h.aR
 have HW := qd hW
 have aW := qd (hS W hB)
 unfold jV bK at aW
 unfold bL aG at aW ⊢
 obtain ⟨e1, he1, hk0, hil, hsl⟩ := sQ hsk
 have oG : s < 8 := by have := h.wide.at_ hil; omega
 have bD := qd (fun ap fp fs hap V hV => gG tX gX key hash TX ap fp fs hap V hV)
 unfold gP at bD
 obtain ⟨fs, hfs⟩ : ∃ fs, fs = bS (aH TX.gs key hash).2.1 := ⟨_, rfl⟩
 rw [hsk] at bD aW
 rw [← hfs] at aW
 clear hfs
 simp only [Option.map_some, he0, Option.getD_some, Option.isSome_some, Slot.ent, bS, eT] at bD aW
 unfold bK aM at bD
 unfold eT aM
 simp only [Option.getD_some, Option.isSome_some]
 have HT := qd (h.below hB)
 have HR := qd (hR)
 have ah := qd (Mod.of_below hB [P.mb, tX, gX])
 clear hW hB h hL hR hS he1
 go_in
 go_upto_region 1 with fail
 rw [← HW.out]
 go_wp2_with fail
 refine (aW.out).mono ?_
 rintro x w1 ⟨ap, fp, rfl, hap, hfp, hM1, hm⟩
 clear lc
 replace HT := qM hm HT
 replace HR := qM hm HR
 have z1 := (hm).size
 replace ah := qU ah hm
 clear hm
 obtain rfl := hap i s rfl
 clear hap hfp
 have HM := qd (hM1)
 clear hM1
 go_upto_region 2 with fail
 have q2 := qJ HT.out.aQ (qJ HT.out.aR (qJ HR.out.lt (qJ HM.out.lt ah.out.size)))
 refine bW 163 #[pQ tX, nU key, nU hash, .pointer (some ⟨gX, i * 25, none⟩), nI s, .pointer fp, .int .i64 fs] ?_
 rintro w2 ⟨hnew, hb⟩
 replace HT := qB hb HT
 replace HR := qB hb HR
 replace HM := qB hb HM
 have z7 := (hb).size
 replace ah := qT ah hb
 have HS := qd (hnew)
 clear hnew hb
 have sp := HS.out.c7
 go_wp2_with fail
 refine (bD.out (some ⟨gX, i * 25, none⟩) fp fs (fun i2 s2 hh => by cases hh; rfl) w2 HT.out).mono ?_
 rintro x w3 ⟨rfl, hb⟩
 clear sp
 replace HT := qB hb HT
 replace HR := qB hb HR
 replace HM := qB hb HM
 replace HS := qB hb HS
 have z8 := (hb).size
 replace ah := qT ah hb
 clear hb
 go_upto_region 3 with fail
 have q9 := qJ HT.out.aQ (qJ HT.out.aR (qJ HR.out.lt (qJ HM.out.lt (qJ HS.out.lt ah.out.size))))
 refine bW 38 #[nU e0.key, nU e0.val, nU e0.hash] ?_
 rintro w4 ⟨hnew, hb⟩
 replace HT := qB hb HT
 replace HR := qB hb HR
 replace HM := qB hb HM
 replace HS := qB hb HS
 have z15 := (hb).size
 replace ah := qT ah hb
 have HD := qd (hnew)
 clear hnew hb
 have sp := HS.out.c7
 have dc := HD.out.c3
 have Od := qd (CZ tX key hash gX fp fs TX i s hil oG e0 he0 R4 w4.drew (HT.out.below (Below.refl _ _).drew))
 refine rT (fun (w' : World) => w'.cell? ⟨w3.heap.size, 0, none⟩ = some (nU e0.key) ∧ w'.cell? ⟨w3.heap.size, 1, none⟩ = some (nU e0.val) ∧ w'.cell? ⟨w3.heap.size, 2, none⟩ = some (nU e0.hash) ∧ w'.cell? ⟨w1.heap.size, 0, none⟩ = some (pQ tX) ∧ w'.cell? ⟨w1.heap.size, 1, none⟩ = some (nU key) ∧ w'.cell? ⟨w1.heap.size, 2, none⟩ = some (nU hash) ∧ w'.cell? ⟨w1.heap.size, 3, none⟩ = some (.pointer (some ⟨gX, i * 25, none⟩)) ∧ w'.cell? ⟨w1.heap.size, 4, none⟩ = some (nI s) ∧ w'.cell? ⟨w1.heap.size, 5, none⟩ = some (.pointer fp) ∧ w'.cell? ⟨w1.heap.size, 6, none⟩ = some (.int .i64 fs)) [7] ?_
 have hHeld := (⟨dc.1, dc.2.1, dc.2.2, sp.1, sp.2.1, sp.2.2.1, sp.2.2.2.1, sp.2.2.2.2.1, sp.2.2.2.2.2.1, sp.2.2.2.2.2.2⟩ : _ ∧ _ ∧ _ ∧ _ ∧ _ ∧ _ ∧ _ ∧ _ ∧ _ ∧ _)
 refine vT 0 rfl ?_
 refine vW 1 rfl ?_
 refine vW 2 rfl ?_
 refine vT 3 rfl ?_
 refine nT 4 rfl fun K hK => ?_
 go_simp
 refine (Od.out).mono ?_
 rintro x w5 ⟨rfl, nH, hm⟩
 replace hm : Mod [tX, gX] w4 w5 := (Mod.drewN [tX, gX] w4 1).then hm
 clear HT sp dc
 replace HR := qM hm HR
 replace HM := qM hm HM
 replace HS := qM hm HS
 replace HD := qM hm HD
 have z16 := (hm).size
 replace ah := qU ah hm
 have HT := qd (nH)
 clear nH hm
 have sp := HS.out.c7
 have dc := HD.out.c3
 have rc := HR.out.c3
 have rf := HR.out.f3
 go_simp
 have hHeld := (⟨dc.1, dc.2.1, dc.2.2, sp.1, sp.2.1, sp.2.2.1, sp.2.2.2.1, sp.2.2.2.2.1, sp.2.2.2.2.2.1, sp.2.2.2.2.2.2⟩ : _ ∧ _ ∧ _ ∧ _ ∧ _ ∧ _ ∧ _ ∧ _ ∧ _ ∧ _)
 refine kO hK ?_
 clear hK K
 refine vW 5 rfl ?_
 refine vW 6 rfl ?_
 refine nT 7 rfl fun K hK => ?_
 go_simp
 refine kO hK ?_
 clear hK K
 refine vL 8 rfl ?_
 refine aT (by kernel_rfl) ?_ _
 clear HS HD
 have q17 := qJ HR.out.lt (qJ HM.out.lt (qJ HT.out.aQ HT.out.aR))
 have hnew := (((HR.out.ak 0 (nU e0.key)).ak 1 (nU e0.val)).ak 2 (nU e0.hash))
 have hm := ((((Mod.refl [(w.heap.size + 1)] w5).sl 0 (nU e0.key)).sl 1 (nU e0.val)).sl 2 (nU e0.hash))
 simp only [pt] at hnew
 refine cO (F := fun v => aj v (w.heap.size + 1) 38 #[nU e0.key, nU e0.val, nU e0.hash] ∧ Mod [(w.heap.size + 1)] w5 v) ⟨hnew, hm⟩ ?_
 clear hnew hm
 rintro w6 ⟨hnew, hm⟩
 replace HM := qM hm HM
 replace HT := qM hm HT
 have z21 := (hm).size
 replace ah := qU ah hm
 replace HR := qd hnew
 clear hnew hm
 have rc := HR.out.c3
 go_wp2
 refine bodyPost_ret (v := .tuple #[.agg #[nU e0.key, nU e0.val, nU e0.hash], .bool true]) (by simp [results, Tryz.results97, go_sem, rc.1, rc.2.1, rc.2.2]) rfl ⟨rfl, HT.out, HM.out, ah.out⟩
theorem DU (db tX gX cnt : Nat) (TX : aB) (P : MP) (x : bM) (c : bC) (key hash : Nat) (w : World) (hS : oH w db P x c key hash tX gX TX cnt) (h : TabAt w tX gX TX) (hml : P.mb < w.heap.size) (hmt : P.mb ≠ tX) (gD : P.mb ≠ gX) (hsk : (aH TX.gs key hash).1 = none) :
  Calls Tryz.prog 97 #[bL db, aG (some ⟨P.mb, P.mo, none⟩) c, nU key, nU hash] w fun e w' => e = .returned (eT none) ∧ TabAt w' tX gX TX ∧ aN w' P (x.add c cnt) ∧ Mod [P.mb] w w' := by
 obtain ⟨W, hW, hB, hL, hR⟩ := jS w 115 #[.pointer (some ⟨P.mb, P.mo, none⟩), .int .i64 c.p, .int .i64 c.v, .int .i64 c.u] 38 #[.int .u64 0, .int .u64 0, .int .u64 0]
 have lc := hL.c4
 have htl := h.aQ
 have hgl := h.aR
 have HW := qd hW
 have aW := qd (hS W hB)
 unfold jV bK at aW
 unfold bL aG at aW ⊢
 have bD := qd (fun ap fp fs hap V hV => gG tX gX key hash TX ap fp fs hap V hV)
 unfold gP at bD
 obtain ⟨fs, hfs⟩ : ∃ fs, fs = bS (aH TX.gs key hash).2.1 := ⟨_, rfl⟩
 rw [hsk] at bD aW
 rw [← hfs] at aW
 clear hfs
 simp only [Option.map_none, Option.getD_none, Option.isSome_none, Slot.ent, bS, eT] at bD aW
 unfold bK aM at bD
 unfold eT aM
 simp only [Option.getD_none, Option.isSome_none]
 have HT := qd (h.below hB)
 have HR := qd (hR)
 have ah := qd (Mod.of_below hB [P.mb])
 clear hW hB h hL hR hS
 go_in
 go_upto_region 1 with fail
 rw [← HW.out]
 go_wp2_with fail
 refine (aW.out).mono ?_
 rintro x w1 ⟨ap, fp, rfl, hap, hfp, hM1, hm⟩
 clear lc
 replace HT := qM hm HT
 replace HR := qM hm HR
 have z1 := (hm).size
 replace ah := qU ah hm
 clear hm hap hfp
 have HM := qd (hM1)
 clear hM1
 go_upto_region 2 with fail
 have q2 := qJ HT.out.aQ (qJ HT.out.aR (qJ HR.out.lt (qJ HM.out.lt ah.out.size)))
 refine bW 163 #[pQ tX, nU key, nU hash, .pointer ap, .int .i64 (-1), .pointer fp, .int .i64 fs] ?_
 rintro w2 ⟨hnew, hb⟩
 replace HT := qB hb HT
 replace HR := qB hb HR
 replace HM := qB hb HM
 have z7 := (hb).size
 replace ah := qT ah hb
 have HS := qd (hnew)
 clear hnew hb
 have sp := HS.out.c7
 go_wp2_with fail
 refine (bD.out ap fp fs (fun i2 s2 hh => by cases hh) w2 HT.out).mono ?_
 rintro x w3 ⟨rfl, hb⟩
 clear sp
 replace HT := qB hb HT
 replace HR := qB hb HR
 replace HM := qB hb HM
 replace HS := qB hb HS
 have z8 := (hb).size
 replace ah := qT ah hb
 clear hb
 go_upto_region 3 with fail
 have q9 := qJ HT.out.aQ (qJ HT.out.aR (qJ HR.out.lt (qJ HM.out.lt (qJ HS.out.lt ah.out.size))))
 refine bW 38 #[.int .u64 0, .int .u64 0, .int .u64 0] ?_
 rintro w4 ⟨hnew, hb⟩
 replace HT := qB hb HT
 replace HR := qB hb HR
 replace HM := qB hb HM
 replace HS := qB hb HS
 have z15 := (hb).size
 replace ah := qT ah hb
 have HD := qd (hnew)
 clear hnew hb
 have sp := HS.out.c7
 have dc := HD.out.c3
 have rc := HR.out.c3
 have rf := HR.out.f3
 refine rT (fun (w' : World) => w'.cell? ⟨w3.heap.size, 0, none⟩ = some (.int .u64 0) ∧ w'.cell? ⟨w3.heap.size, 1, none⟩ = some (.int .u64 0) ∧ w'.cell? ⟨w3.heap.size, 2, none⟩ = some (.int .u64 0)) [7] ?_
 have hHeld := (⟨dc.1, dc.2.1, dc.2.2⟩ : _ ∧ _ ∧ _)
 refine vT 0 rfl ?_
 refine vW 1 rfl ?_
 refine vW 2 rfl ?_
 refine vU 3 rfl ?_
 refine vU 4 rfl ?_
 refine vU 5 rfl ?_
 refine vW 6 rfl ?_
 refine nT 7 rfl fun K hK => ?_
 go_simp
 refine kO hK ?_
 clear hK K
 refine vL 8 rfl ?_
 refine aT (by kernel_rfl) ?_ _
 clear HS HD
 have q16 := qJ HT.out.aQ (qJ HT.out.aR (qJ HR.out.lt HM.out.lt))
 have hnew := (((HR.out.ak 0 (.int .u64 0)).ak 1 (.int .u64 0)).ak 2 (.int .u64 0)).drew
 have hm := (((((Mod.refl [(w.heap.size + 1)] w4).sl 0 (.int .u64 0)).sl 1 (.int .u64 0)).sl 2 (.int .u64 0)).then (Mod.drewN [(w.heap.size + 1)] _ 1))
 simp only [pt] at hnew
 refine cO (F := fun v => aj v (w.heap.size + 1) 38 #[.int .u64 0, .int .u64 0, .int .u64 0] ∧ Mod [(w.heap.size + 1)] w4 v) ⟨hnew, hm⟩ ?_
 clear hnew hm
 rintro w6 ⟨hnew, hm⟩
 replace HT := qM hm HT
 replace HM := qM hm HM
 have z20 := (hm).size
 replace ah := qU ah hm
 replace HR := qd hnew
 clear hnew hm
 have rc := HR.out.c3
 go_wp2
 refine bodyPost_ret (v := .tuple #[.agg #[.int .u64 0, .int .u64 0, .int .u64 0], .bool false]) (by simp [results, Tryz.results97, go_sem, rc.1, rc.2.1, rc.2.2]) rfl ⟨rfl, HT.out, HM.out, ah.out⟩
theorem Gb (db tX gX cnt : Nat) (TX : aB) (P : MP) (x : bM) (c : bC) (e : av) (w : World) (hS : oH w db P x c e.key e.hash tX gX TX cnt) (h : TabAt w tX gX TX) (hml : P.mb < w.heap.size) (hmt : P.mb ≠ tX) (gD : P.mb ≠ gX) (more : Bool) (i s : Nat) (hsk : (aH TX.gs e.key e.hash).1 = some (i, s)) (e0 : av) (he0 : aF TX.gs i s = .full e0) :
  Calls Tryz.prog 79 #[bL db, aG (some ⟨P.mb, P.mo, none⟩) c, aM e, .bool more] w fun y w' => y = .returned (.tuple #[.bool false, .nilIface]) ∧ TabAt w' tX gX (replaceM TX i s e.val e0) ∧ aN w' P (x.add c cnt) ∧ Mod [P.mb, tX, gX] w w' := by
 obtain ⟨W, hW, hB, hL, hE⟩ := jS w 115 #[.pointer (some ⟨P.mb, P.mo, none⟩), .int .i64 c.p, .int .i64 c.v, .int .i64 c.u] 38 #[nU e.key, nU e.val, nU e.hash]
 have lc := hL.c4
 have ec := hE.c3
 have htl := h.aQ
 have hgl := h.aR
 have HW := qd hW
 have aW := qd (hS W hB)
 unfold jV bK at aW
 unfold bL aG at aW ⊢
 obtain ⟨e1, he1, hk0, hil, hsl⟩ := sQ hsk
 have oG : s < 8 := by have := h.wide.at_ hil; omega
 obtain ⟨fs, hfs⟩ : ∃ fs, fs = bS (aH TX.gs e.key e.hash).2.1 := ⟨_, rfl⟩
 rw [hsk] at aW
 rw [← hfs] at aW
 clear hfs
 simp only [Option.isSome_some, bS] at aW
 unfold aM
 have HT := qd (h.below hB)
 have HE := qd (hE)
 have ah := qd (Mod.of_below hB [P.mb, tX, gX])
 clear hW hB h hL hE hS he1
 go_in
 go_upto_region 1 with fail
 rw [← HW.out]
 go_wp2_with fail
 refine (aW.out).mono ?_
 rintro x w1 ⟨ap, fp, rfl, hap, hfp, hM1, hm⟩
 clear lc ec
 replace HT := qM hm HT
 replace HE := qM hm HE
 have z1 := (hm).size
 replace ah := qU ah hm
 clear hm
 obtain rfl := hap i s rfl
 clear hap hfp
 have HM := qd (hM1)
 clear hM1
 go_upto_region 2 with fail
 have q2 := qJ HT.out.aQ (qJ HT.out.aR (qJ HE.out.lt (qJ HM.out.lt ah.out.size)))
 refine bW 163 #[pQ tX, nU e.key, nU e.hash, .pointer (some ⟨gX, i * 25, none⟩), nI s, .pointer fp, .int .i64 fs] ?_
 rintro w2 ⟨hnew, hb⟩
 replace HT := qB hb HT
 replace HE := qB hb HE
 replace HM := qB hb HM
 have z7 := (hb).size
 replace ah := qT ah hb
 have HS := qd (hnew)
 clear hnew hb
 have sp := HS.out.c7
 have ec := HE.out.c3
 have R5 := qd (AP tX e.key e.hash gX fp fs TX i s e.val hil oG e0 he0 w2 HT.out)
 unfold bK at R5
 clear HT
 go_wp2_with fail
 refine (R5.out).mono ?_
 rintro x w5 ⟨rfl, nH, hm⟩
 clear sp ec
 replace HE := qM hm HE
 replace HM := qM hm HM
 replace HS := qM hm HS
 have z8 := (hm).size
 replace ah := qU ah hm
 clear hm
 have HT := qd (nH)
 clear nH
 go_wp2
 refine bodyPost_ret (v := .tuple #[.bool false, .nilIface]) (by simp [results, Tryz.results79, go_sem]) rfl ⟨rfl, HT.out, HM.out, ah.out⟩
theorem KY (db tX gX cnt : Nat) (TX : aB) (P : MP) (x : bM) (c : bC) (e : av) (w : World) (hS : oH w db P x c e.key e.hash tX gX TX cnt) (h : TabAt w tX gX TX) (hml : P.mb < w.heap.size) (hmt : P.mb ≠ tX) (gD : P.mb ≠ gX) (hP : Pw TX.gs.length) (h64 : e.hash < 18446744073709551616) (hsk : (aH TX.gs e.key e.hash).1 = none) (i s : Nat) (hfr : (aH TX.gs e.key e.hash).2.1 = some (i, s)) (R4 : Small TX) (hroom : TX.live + TX.bR + 1 ≤ 7 * (TX.gs.length : Int)) :
  Calls Tryz.prog 79 #[bL db, aG (some ⟨P.mb, P.mo, none⟩) c, aM e, .bool true] w fun y w' => y = .returned (.tuple #[.bool true, .nilIface]) ∧ TabAt w' tX gX (jm TX i s e) ∧ aN w' P (x.add c cnt) ∧ Mod [P.mb, tX, gX] w w' := by
 obtain ⟨W, hW, hB, hL, hE⟩ := jS w 115 #[.pointer (some ⟨P.mb, P.mo, none⟩), .int .i64 c.p, .int .i64 c.v, .int .i64 c.u] 38 #[nU e.key, nU e.val, nU e.hash]
 have lc := hL.c4
 have ec := hE.c3
 have htl := h.aQ
 have hgl := h.aR
 have HW := qd hW
 have aW := qd (hS W hB)
 unfold jV bK at aW
 unfold bL aG at aW ⊢
 have h8 := fun i hi => h.wide.at_ (i := i) hi
 obtain ⟨fs, hfs⟩ : ∃ fs, fs = bS (aH TX.gs e.key e.hash).2.1 := ⟨_, rfl⟩
 rw [hsk] at aW
 rw [← hfs] at aW
 rw [hfr] at hfs
 simp only [bS] at hfs
 subst hfs
 rw [hfr] at aW
 simp only [Option.isSome_none, bS] at aW
 unfold aM
 have HT := qd (h.below hB)
 have HE := qd (hE)
 have ah := qd (Mod.of_below hB [P.mb, tX, gX])
 clear hW hB h hL hE hS
 go_in
 go_upto_region 1 with fail
 rw [← HW.out]
 go_wp2_with fail
 refine (aW.out).mono ?_
 rintro x w1 ⟨ap, fp, rfl, hap, hfp, hM1, hm⟩
 clear lc ec
 replace HT := qM hm HT
 replace HE := qM hm HE
 have z1 := (hm).size
 replace ah := qU ah hm
 clear hm
 obtain rfl := hfp i s rfl
 clear hap hfp
 have HM := qd (hM1)
 clear hM1
 go_upto_region 2 with fail
 have q2 := qJ HT.out.aQ (qJ HT.out.aR (qJ HE.out.lt (qJ HM.out.lt ah.out.size)))
 refine bW 163 #[pQ tX, nU e.key, nU e.hash, .pointer ap, .int .i64 (-1), .pointer (some ⟨gX, i * 25, none⟩), nI s] ?_
 rintro w2 ⟨hnew, hb⟩
 replace HT := qB hb HT
 replace HE := qB hb HE
 replace HM := qB hb HM
 have z7 := (hb).size
 replace ah := qT ah hb
 have HS := qd (hnew)
 clear hnew hb
 have sp := HS.out.c7
 have ec := HE.out.c3
 have AY := xQ TX.gs hP.pos e.key e.hash i s hfr
 have oG : s < 8 := by have := h8 i AY.1; omega
 have iX := qd (zw tX gX ap TX i s e AY.1 oG h64 AY.2.2 R4 hroom w2 HT.out)
 unfold bK aM at iX
 clear HT
 go_wp2_with fail
 refine (iX.out).mono ?_
 rintro x w5 ⟨rfl, nH, hm⟩
 clear sp ec
 replace HE := qM hm HE
 replace HM := qM hm HM
 replace HS := qM hm HS
 have z8 := (hm).size
 replace ah := qU ah hm
 clear hm
 have HT := qd (nH)
 clear nH
 go_wp2
 refine bodyPost_ret (v := .tuple #[.bool true, .nilIface]) (by simp [results, Tryz.results79, go_sem]) rfl ⟨rfl, HT.out, HM.out, ah.out⟩
theorem Jv {W0 : World} {E : Nat → Addr} (db tX gX cnt : Nat) (TX : aB) (P : MP) (x : bM) (c : bC) (e : av) (w : World) (hS : oH w db P x c e.key e.hash tX gX TX cnt) (h : TabAt w tX gX TX) (hml : P.mb < w.heap.size) (hmt : P.mb ≠ tX) (gD : P.mb ≠ gX) (wV : Env W0 E w) (hb0 : W0.heap.size ≤ P.mb) (hsk : (aH TX.gs e.key e.hash).1 = none) :
  Calls Tryz.prog 79 #[bL db, aG (some ⟨P.mb, P.mo, none⟩) c, aM e, .bool false] w fun y w' => y = .returned (.tuple #[.bool false, kT E 2]) ∧ TabAt w' tX gX TX ∧ aN w' P (x.add c cnt) ∧ Mod [P.mb] w w' := by
 obtain ⟨W, hW, hB, hL, hE⟩ := jS w 115 #[.pointer (some ⟨P.mb, P.mo, none⟩), .int .i64 c.p, .int .i64 c.v, .int .i64 c.u] 38 #[nU e.key, nU e.val, nU e.hash]
 have lc := hL.c4
 have ec := hE.c3
 have htl := h.aQ
 have hgl := h.aR
 have HW := qd hW
 have aW := qd (hS W hB)
 unfold jV bK at aW
 unfold bL aG at aW ⊢
 obtain ⟨fs, hfs⟩ : ∃ fs, fs = bS (aH TX.gs e.key e.hash).2.1 := ⟨_, rfl⟩
 rw [hsk] at aW
 rw [← hfs] at aW
 clear hfs
 simp only [Option.isSome_none, bS] at aW
 unfold aM
 have HT := qd (h.below hB)
 have HE := qd (hE)
 have ay := qd (wV.next hB)
 have ah := qd (Mod.of_below hB [P.mb])
 clear hW hB h hL hE hS wV
 go_in
 go_upto_region 1 with fail
 rw [← HW.out]
 go_wp2_with fail
 refine (aW.out).mono ?_
 rintro x w1 ⟨ap, fp, rfl, hap, hfp, hM1, hm⟩
 clear lc ec
 replace HT := qM hm HT
 replace HE := qM hm HE
 replace ay := qM hm ay
 have z1 := (hm).size
 replace ah := qU ah hm
 clear hm hap hfp
 have HM := qd (hM1)
 clear hM1
 go_upto_region 2 with fail
 have q2 := qJ HT.out.aQ (qJ HT.out.aR (qJ HE.out.lt (qJ HM.out.lt ah.out.size)))
 refine bW 163 #[pQ tX, nU e.key, nU e.hash, .pointer ap, .int .i64 (-1), .pointer fp, .int .i64 fs] ?_
 rintro w2 ⟨hnew, hb⟩
 replace HT := qB hb HT
 replace HE := qB hb HE
 replace ay := qB hb ay
 replace HM := qB hb HM
 have z7 := (hb).size
 replace ah := qT ah hb
 have HS := qd (hnew)
 clear hnew hb
 have sp := HS.out.c7
 have ec := HE.out.c3
 have her := ay.out.errs.at_ 2 (by omega) (by omega)
 unfold fJ gE at her
 simp only at her
 go_upto_region 5 with fail
 go_region
 go_wp2
 replace HT := qd (HT.out.below (Below.refl _ _).drew)
 replace HM := qd (HM.out.below (Below.refl _ _).drew)
 replace ah := qd (ah.out.then (Mod.drewN [P.mb] _ 1))
 refine bodyPost_ret (v := .tuple #[.bool false, .iface 286 (.pointer (some (E 2)))]) (by simp [results, Tryz.results79, go_sem]) rfl ⟨by rw [jd E (by omega : 1 ≤ 2)], HT.out, HM.out, ah.out⟩
theorem R6 : (Tryz.prog.info? 141).map (fun i => (i.zero, i.size, i.bytes)) = some (some (.pointer none), 1, 8) := by kernel_rfl
theorem kK : xL Tryz.prog 236 141 1 8 := J6 Tryz.underlying236 R6 rfl (by decide) (by decide)
theorem vK (ts : List Nat) : ((ptrs ts).all fun u => u.oneCell') = true := by
 refine List.all_eq_true.2 fun u hu => ?_
 unfold ptrs at hu
 obtain ⟨t, _, rfl⟩ := List.mem_map.1 hu
 rfl
theorem Nl (ts : List Nat) : (ptrs ts).length = ts.length := List.length_map ..
theorem eO.reads {w : World} {rb : Nat} {ts : List Nat} (h : eO w rb ts) : Reads w w.heap.size 1 (some ⟨rb, 0, none⟩) ts.length (ptrs ts) :=
 ⟨by rw [Nl, Nat.mul_one], fun _ => ⟨rb, 0, rfl, h.lt, fun j u hu => by
  unfold ptrs at hu
  rw [List.getElem?_map] at hu
  obtain ⟨t, ht, rfl⟩ := Option.map_eq_some_iff.1 hu
  rw [Nat.zero_add]
  exact h.at_ j t ht⟩⟩
theorem Nn (db ob cap : Nat) (A : Option Addr) (fr : List Nat) (hl2 : fr.length ≤ 2) (dep Xl mv tk : Value) (w : World) (hblk : aj w db 239 #[pQ ob, dep, Xl, .slice A fr.length cap, mv, tk]) (hrd : Reads w w.heap.size 1 A fr.length (ptrs fr)) :
  Calls Tryz.prog 185 #[bL db] w fun e w' => ∃ rb c, w.heap.size ≤ rb ∧ e = .returned (.slice (some ⟨rb, 0, none⟩) (fr.length + 1) c) ∧ eO w' rb (fr ++ [ob]) ∧ Below w.heap.size w w' := by
 have hdl := hblk.lt
 have hrl := hl2
 unfold bL
 have rC := hblk.cell 0
 have rD := hblk.cell 3
 simp only [gl] at rC rD
 have mh := qd hrd
 clear hblk hrd
 go_in
 go_upto_region 1 with fail
 refine rT (fun (w' : World) => w'.cell? ⟨db, 0, none⟩ = some (pQ ob) ∧ w'.cell? ⟨db, 3, none⟩ = some (.slice A fr.length cap)) [] ?_
 have hHeld := (⟨rC, rD⟩ : _ ∧ _)
 refine vW 1 rfl ?_
 refine vW 2 rfl ?_
 refine vW 3 rfl ?_
 refine vT 4 rfl ?_
 refine vW 6 rfl ?_
 refine vW 7 rfl ?_
 refine vW 8 rfl ?_
 refine vT 9 rfl ?_
 clear hHeld
 refine cO (F := fun v => Mod [] w v) (Mod.drewN [] w 1) ?_
 rintro V hmV
 have hb0 : Below w.heap.size w V := hmV.vw
 have Zu := qd (mh.out.below hb0)
 have AL := hmV.size
 have pW : Below w.heap.size V V := Below.refl _ _
 replace rC := (hb0.cell (p := ⟨db, 0, none⟩) hdl).trans rC
 replace rD := (hb0.cell (p := ⟨db, 3, none⟩) hdl).trans rD
 refine pairT (i := 0) (j := 10) (o := ⟨some 3, _, _, _, _, _⟩) (o' := ⟨some 13, _, _, _, _, _⟩) rfl rfl (by kernel_rfl) (fun K hK => ?_) (fun K hK => ?_)
 focus
  go_simp
  refine cO (F := fun v => v.ownsRow w.heap.size 141 1 (.slice (some ⟨V.heap.size, 0, none⟩) 0 0) 0 [] ∧ Below V.heap.size V v) ⟨World.ownsRow_lit V #[] 0 (by have := pW.size; omega) (by simp) (by rfl), (Below.refl _ _).alloc (Nat.le_refl _) _⟩ ?_
  rintro u1 ⟨ho1, hx1⟩
  have hle1 := pW.size
  have hlt1 : V.heap.size < u1.heap.size := (ho1.lt _ rfl).2
  have hsz1 := hx1.size
  have hb1 : Below w.heap.size V u1 := pW.trans (hx1.mono (by have := pW.size; omega))
  refine hK.out _ _ (fun _ => show (fun (w' : World) => w'.cell? ⟨db, 0, none⟩ = some (pQ ob) ∧ w'.cell? ⟨db, 3, none⟩ = some (.slice A fr.length cap)) _ from ⟨(hb1.cell (p := ⟨db, 0, none⟩) hdl).trans rC, (hb1.cell (p := ⟨db, 3, none⟩) hdl).trans rD⟩) ?_
  clear hK K
  try simp only [pt]
  refine pairT (i := 5) (j := 10) (o := ⟨some 8, _, _, _, _, _⟩) (o' := ⟨some 13, _, _, _, _, _⟩) rfl rfl (by kernel_rfl) (fun K hK => ?_) (fun K hK => ?_)
  focus
   refine mJ (by rfl) (by rfl) kK ho1 (by rfl) (by rfl) (Zu.out.below hb1) (vK fr) (by omega) (by have := hb1.size; omega) ?_
   intro v2 u2 ho2 abt
   have hb2 : Below w.heap.size V u2 := hb1.trans abt.below
   rw [Nat.zero_add, List.nil_append] at ho2
   refine hK.out _ _ (fun _ => show (fun (w' : World) => w'.cell? ⟨db, 0, none⟩ = some (pQ ob) ∧ w'.cell? ⟨db, 3, none⟩ = some (.slice A fr.length cap)) _ from ⟨(hb2.cell (p := ⟨db, 0, none⟩) hdl).trans rC, (hb2.cell (p := ⟨db, 3, none⟩) hdl).trans rD⟩) ?_
   clear hK K
   try simp only [pt]
   refine nT 10 rfl fun K hK => ?_
   go_simp
   refine cO (F := fun v => aj v u2.heap.size 141 #[pQ ob] ∧ Below u2.heap.size u2 v) ⟨aj.new u2 _ _, (Below.refl _ _).alloc (Nat.le_refl _) _⟩ ?_
   rintro u3 ⟨kW, hx3⟩
   have hle3 := hb2.size
   have hlt3 := kW.lt
   have abu := hx3.size
   have ho3 := own_below ho2 hx3 (Nat.le_refl _)
   have hb3 : Below w.heap.size V u3 := hb2.trans (hx3.mono (by have := hb2.size; omega))
   refine hK.out _ _ (fun _ => show (fun (w' : World) => w'.cell? ⟨db, 0, none⟩ = some (pQ ob) ∧ w'.cell? ⟨db, 3, none⟩ = some (.slice A fr.length cap)) _ from ⟨(hb3.cell (p := ⟨db, 0, none⟩) hdl).trans rC, (hb3.cell (p := ⟨db, 3, none⟩) hdl).trans rD⟩) ?_
   clear hK K
   try simp only [pt]
   refine nT 11 rfl fun K hK => ?_
   refine mJ (by rfl) (by rfl) kK ho3 (by rfl) (by rfl) (pK (size := 1) (m := 1) kW (by rfl)) (by rfl) (by omega) (by have := hb3.size; omega) ?_
   intro v4 u4 ho4 gN
   have hb4 : Below w.heap.size V u4 := hb3.trans gN.below
   obtain ⟨A4, c4, rfl⟩ := dJ ho4
   refine hK.out _ _ (fun _ => show (fun (w' : World) => w'.cell? ⟨db, 0, none⟩ = some (pQ ob) ∧ w'.cell? ⟨db, 3, none⟩ = some (.slice A fr.length cap)) _ from ⟨(hb4.cell (p := ⟨db, 0, none⟩) hdl).trans rC, (hb4.cell (p := ⟨db, 3, none⟩) hdl).trans rD⟩) ?_
   clear hK K
   try simp only [pt]
   have hHeld := show (fun (w' : World) => w'.cell? ⟨db, 0, none⟩ = some (pQ ob) ∧ w'.cell? ⟨db, 3, none⟩ = some (.slice A fr.length cap)) _ from ⟨(hb4.cell (p := ⟨db, 0, none⟩) hdl).trans rC, (hb4.cell (p := ⟨db, 3, none⟩) hdl).trans rD⟩
   refine vW 12 rfl ?_
   refine aT (by kernel_rfl) ?_ _
   have hpt : ptrs fr ++ [pQ ob] = ptrs (fr ++ [ob]) := by simp [ptrs]
   have HQ := qd (show u4.ownsRow w.heap.size 141 1 (.slice A4 (fr.length + 1) c4) (fr.length + 1) (ptrs (fr ++ [ob])) from hpt ▸ ho4)
   have HZ := qd (hb0.trans hb4)
  rotate_left
  focus
   go_simp
   refine cO (F := fun v => aj v u1.heap.size 141 #[pQ ob] ∧ Below u1.heap.size u1 v) ⟨aj.new u1 _ _, (Below.refl _ _).alloc (Nat.le_refl _) _⟩ ?_
   rintro u5 ⟨kW, hx5⟩
   have ada := hb1.size
   have adb := kW.lt
   have hsz5 := hx5.size
   have ho5 := own_below ho1 hx5 (Nat.le_refl _)
   have hb5 : Below w.heap.size V u5 := hb1.trans (hx5.mono (by have := hb1.size; omega))
   refine hK.out _ _ (fun _ => show (fun (w' : World) => w'.cell? ⟨db, 0, none⟩ = some (pQ ob) ∧ w'.cell? ⟨db, 3, none⟩ = some (.slice A fr.length cap)) _ from ⟨(hb5.cell (p := ⟨db, 0, none⟩) hdl).trans rC, (hb5.cell (p := ⟨db, 3, none⟩) hdl).trans rD⟩) ?_
   clear hK K
   try simp only [pt]
   refine nT 5 rfl fun K hK => ?_
   refine mJ (by rfl) (by rfl) kK ho5 (by rfl) (by rfl) (Zu.out.below hb5) (vK fr) (by omega) (by have := hb5.size; omega) ?_
   intro v6 u6 ho6 Zv
   have hb6 : Below w.heap.size V u6 := hb5.trans Zv.below
   replace kW : aj u6 _ _ _ := (Zv.lZ.block _ kW.lt (by intro e; simp [Value.ownBlock] at e; omega)).trans kW
   rw [Nat.zero_add, List.nil_append] at ho6
   refine hK.out _ _ (fun _ => show (fun (w' : World) => w'.cell? ⟨db, 0, none⟩ = some (pQ ob) ∧ w'.cell? ⟨db, 3, none⟩ = some (.slice A fr.length cap)) _ from ⟨(hb6.cell (p := ⟨db, 0, none⟩) hdl).trans rC, (hb6.cell (p := ⟨db, 3, none⟩) hdl).trans rD⟩) ?_
   clear hK K
   try simp only [pt]
   refine nT 11 rfl fun K hK => ?_
   refine mJ (by rfl) (by rfl) kK ho6 (by rfl) (by rfl) (pK (size := 1) (m := 1) kW (by rfl)) (by rfl) (by omega) (by have := hb6.size; omega) ?_
   intro v7 u7 ho7 abv
   have oI : Below w.heap.size V u7 := hb6.trans abv.below
   obtain ⟨A7, c7, rfl⟩ := dJ ho7
   refine hK.out _ _ (fun _ => show (fun (w' : World) => w'.cell? ⟨db, 0, none⟩ = some (pQ ob) ∧ w'.cell? ⟨db, 3, none⟩ = some (.slice A fr.length cap)) _ from ⟨(oI.cell (p := ⟨db, 0, none⟩) hdl).trans rC, (oI.cell (p := ⟨db, 3, none⟩) hdl).trans rD⟩) ?_
   clear hK K
   try simp only [pt]
   have hHeld := show (fun (w' : World) => w'.cell? ⟨db, 0, none⟩ = some (pQ ob) ∧ w'.cell? ⟨db, 3, none⟩ = some (.slice A fr.length cap)) _ from ⟨(oI.cell (p := ⟨db, 0, none⟩) hdl).trans rC, (oI.cell (p := ⟨db, 3, none⟩) hdl).trans rD⟩
   refine vW 12 rfl ?_
   refine aT (by kernel_rfl) ?_ _
   have hpt : ptrs fr ++ [pQ ob] = ptrs (fr ++ [ob]) := by simp [ptrs]
   have HQ := qd (show u7.ownsRow w.heap.size 141 1 (.slice A7 (fr.length + 1) c7) (fr.length + 1) (ptrs (fr ++ [ob])) from hpt ▸ ho7)
   have HZ := qd (hb0.trans oI)
 rotate_left 2
 focus
  go_simp
  refine cO (F := fun v => aj v V.heap.size 141 #[pQ ob] ∧ Below V.heap.size V v) ⟨aj.new V _ _, (Below.refl _ _).alloc (Nat.le_refl _) _⟩ ?_
  rintro u8 ⟨kW, GY⟩
  have ade := pW.size
  have adf := kW.lt
  have adg := GY.size
  have pE : Below w.heap.size V u8 := pW.trans (GY.mono (by have := pW.size; omega))
  refine hK.out _ _ (fun _ => show (fun (w' : World) => w'.cell? ⟨db, 0, none⟩ = some (pQ ob) ∧ w'.cell? ⟨db, 3, none⟩ = some (.slice A fr.length cap)) _ from ⟨(pE.cell (p := ⟨db, 0, none⟩) hdl).trans rC, (pE.cell (p := ⟨db, 3, none⟩) hdl).trans rD⟩) ?_
  clear hK K
  try simp only [pt]
  refine nT 0 rfl fun K hK => ?_
  go_simp
  refine cO (F := fun v => v.ownsRow w.heap.size 141 1 (.slice (some ⟨u8.heap.size, 0, none⟩) 0 0) 0 [] ∧ Below u8.heap.size u8 v) ⟨World.ownsRow_lit u8 #[] 0 (by have := pE.size; omega) (by simp) (by rfl), (Below.refl _ _).alloc (Nat.le_refl _) _⟩ ?_
  rintro u9 ⟨ho9, Zw⟩
  have adh := pE.size
  have adi : u8.heap.size < u9.heap.size := (ho9.lt _ rfl).2
  have adj := Zw.size
  replace kW := kW.below Zw kW.lt
  have Bf : Below w.heap.size V u9 := pE.trans (Zw.mono (by have := pE.size; omega))
  refine hK.out _ _ (fun _ => show (fun (w' : World) => w'.cell? ⟨db, 0, none⟩ = some (pQ ob) ∧ w'.cell? ⟨db, 3, none⟩ = some (.slice A fr.length cap)) _ from ⟨(Bf.cell (p := ⟨db, 0, none⟩) hdl).trans rC, (Bf.cell (p := ⟨db, 3, none⟩) hdl).trans rD⟩) ?_
  clear hK K
  try simp only [pt]
  refine nT 5 rfl fun K hK => ?_
  refine mJ (by rfl) (by rfl) kK ho9 (by rfl) (by rfl) (Zu.out.below Bf) (vK fr) (by omega) (by have := Bf.size; omega) ?_
  intro v10 u10 Zx Xm
  have P6 : Below w.heap.size V u10 := Bf.trans Xm.below
  replace kW : aj u10 _ _ _ := (Xm.lZ.block _ kW.lt (by intro e; simp [Value.ownBlock] at e; omega)).trans kW
  rw [Nat.zero_add, List.nil_append] at Zx
  refine hK.out _ _ (fun _ => show (fun (w' : World) => w'.cell? ⟨db, 0, none⟩ = some (pQ ob) ∧ w'.cell? ⟨db, 3, none⟩ = some (.slice A fr.length cap)) _ from ⟨(P6.cell (p := ⟨db, 0, none⟩) hdl).trans rC, (P6.cell (p := ⟨db, 3, none⟩) hdl).trans rD⟩) ?_
  clear hK K
  try simp only [pt]
  refine nT 11 rfl fun K hK => ?_
  refine mJ (by rfl) (by rfl) kK Zx (by rfl) (by rfl) (pK (size := 1) (m := 1) kW (by rfl)) (by rfl) (by omega) (by have := P6.size; omega) ?_
  intro v11 u11 Zy aa0
  have KZ : Below w.heap.size V u11 := P6.trans aa0.below
  obtain ⟨A11, c11, rfl⟩ := dJ Zy
  refine hK.out _ _ (fun _ => show (fun (w' : World) => w'.cell? ⟨db, 0, none⟩ = some (pQ ob) ∧ w'.cell? ⟨db, 3, none⟩ = some (.slice A fr.length cap)) _ from ⟨(KZ.cell (p := ⟨db, 0, none⟩) hdl).trans rC, (KZ.cell (p := ⟨db, 3, none⟩) hdl).trans rD⟩) ?_
  clear hK K
  try simp only [pt]
  have hHeld := show (fun (w' : World) => w'.cell? ⟨db, 0, none⟩ = some (pQ ob) ∧ w'.cell? ⟨db, 3, none⟩ = some (.slice A fr.length cap)) _ from ⟨(KZ.cell (p := ⟨db, 0, none⟩) hdl).trans rC, (KZ.cell (p := ⟨db, 3, none⟩) hdl).trans rD⟩
  refine vW 12 rfl ?_
  refine aT (by kernel_rfl) ?_ _
  have hpt : ptrs fr ++ [pQ ob] = ptrs (fr ++ [ob]) := by simp [ptrs]
  have HQ := qd (show u11.ownsRow w.heap.size 141 1 (.slice A11 (fr.length + 1) c11) (fr.length + 1) (ptrs (fr ++ [ob])) from hpt ▸ Zy)
  have HZ := qd (hb0.trans KZ)
 all_goals
  go_wp2
  go_ret
  obtain ⟨tH, rfl, DV, hrow, _⟩ := eO.uZ HQ.out (by omega)
  first | exact ⟨tH, DV, ⟨_, rfl⟩, hrow, HZ.out⟩ | exact ⟨tH, _, DV, rfl, hrow, HZ.out⟩ | exact ⟨tH, DV, _, rfl, hrow, HZ.out⟩
end Go.Proofs.YtbphcldoflekpaaGreatDoor
