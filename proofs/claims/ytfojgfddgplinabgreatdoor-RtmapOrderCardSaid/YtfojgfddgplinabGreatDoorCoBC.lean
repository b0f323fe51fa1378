/- A node's Put by its contracts. -/
import Derived.Test.YtfojgfddgplinabGreatDoorCoBB
import Derived.Test.YtfojgfddgplinabGreatDoorSqT
import Derived.Test.YtfojgfddgplinabGreatDoorLaneP
namespace Go.Proofs.YtfojgfddgplinabGreatDoor
set_option maxRecDepth 100000
set_option maxHeartbeats 8000000
open Go.RowKit dG
variable {W0 : World} {E : Nat → Addr}
theorem uI (nb tb db : Nat) (pfx au job : Int) (P : MP) (c : bF) (e : av) (more b0 : Bool) (er : Value) (Post : World → World → Prop) (w : World) (hnd : aj w nb 142 #[.int .i64 pfx, .int .i64 au, .pointer (some ⟨tb, 0, none⟩), .int .i64 job, .pointer (some ⟨db, 0, none⟩)]) (HC : ∀ V, Below w.heap.size w V → Calls Tryz.prog 66 #[.pointer (some ⟨db, 0, none⟩), aJ (some ⟨P.mb, P.mo, none⟩) c, aM e, .bool more] V fun y V' => y = .returned (.tuple #[.bool b0, er]) ∧ Post V V') :
  Calls Tryz.prog 45 #[aN nb, aJ (some ⟨P.mb, P.mo, none⟩) c, aM e, .bool more] w fun y w' => y = .returned (.tuple #[.bool b0, er]) ∧ ∃ V, Below w.heap.size w V ∧ Post V w' := by
 obtain ⟨W, hW, hB, hL, hE⟩ := lK w 112 #[.pointer (some ⟨P.mb, P.mo, none⟩), .int .i64 c.p, .int .i64 c.v, .int .i64 c.u] 37 #[.int .u64 (e.key : Int), .int .u64 (e.val : Int), .int .u64 (e.hash : Int)]
 have hnl := hnd.lt
 have HW := qd hW
 have xG := qd hB
 have HC := qd (HC W.drew (hB.trans ((Below.refl _ _).drew.mono hB.size)))
 unfold aN
 unfold aJ aM at HC ⊢
 have HN := qd (hnd.below hB hnd.lt)
 have HL := qd (hL)
 have HE := qd (hE)
 have ah := qd (Mod.of_below hB [])
 clear hW hB hnd hL hE
 go_in
 go_upto_region 1 with fail
 rw [← HW.out]
 have nc := HN.out.c5
 have lc := HL.out.c4
 have ec := HE.out.c3
 go_upto_region 2 with fail
 refine rT (fun (w' : World) => w'.cell? ⟨nb, 4, none⟩ = some (.pointer (some ⟨db, 0, none⟩)) ∧ w'.cell? ⟨w.heap.size, 0, none⟩ = some (.pointer (some ⟨P.mb, P.mo, none⟩)) ∧ w'.cell? ⟨w.heap.size, 1, none⟩ = some (.int .i64 c.p) ∧ w'.cell? ⟨w.heap.size, 2, none⟩ = some (.int .i64 c.v) ∧ w'.cell? ⟨w.heap.size, 3, none⟩ = some (.int .i64 c.u) ∧ w'.cell? ⟨w.heap.size + 1, 0, none⟩ = some (.int .u64 (e.key : Int)) ∧ w'.cell? ⟨w.heap.size + 1, 1, none⟩ = some (.int .u64 (e.val : Int)) ∧ w'.cell? ⟨w.heap.size + 1, 2, none⟩ = some (.int .u64 (e.hash : Int))) [7] ?_
 have hHeld := (⟨nc.2.2.2.2, lc.1, lc.2.1, lc.2.2.1, lc.2.2.2, ec.1, ec.2.1, ec.2.2⟩ : _ ∧ _ ∧ _ ∧ _ ∧ _ ∧ _ ∧ _ ∧ _)
 refine vW 0 rfl ?_
 refine vW 1 rfl ?_
 refine vW 2 rfl ?_
 refine vT 3 rfl ?_
 refine vT 4 rfl ?_
 refine vT 5 rfl ?_
 refine vW 6 rfl ?_
 refine nT 7 rfl fun K hK => ?_
 go_simp
 refine (HC.out).mono ?_
 rintro y w2 ⟨rfl, hpost⟩
 have Fz := qd hpost
 clear hpost
 go_wp2_with fail
 refine kO hK ?_
 clear hK K
 refine vL 8 rfl ?_
 refine vL 9 rfl ?_
 refine vL 10 rfl ?_
 refine vL 11 rfl ?_
 refine aS (by kernel_rfl) ?_ _
 go_wp2
 refine bodyPost_ret (v := .tuple #[.bool b0, er]) (by simp [results, Tryz.results45, go_sem]) rfl ⟨rfl, W.drew, xG.out.trans ((Below.refl _ _).drew.mono xG.out.size), Fz.out⟩
theorem Gm (nb tb gb : Nat) (pfx au job : Int) (T : aC) (P : MP) (x : bI) (c : bF) (e : av) (more : Bool) (w : World) (hnd : aj w nb 142 #[.int .i64 pfx, .int .i64 au, .pointer (some ⟨tb, 0, none⟩), .int .i64 job, .pointer none]) (h : TabAt w tb gb T) (hP : Pw T.gs.length) (h64 : e.hash < 18446744073709551616) (hM : aO w P x) (xC : Env W0 E w) (hb0 : W0.heap.size ≤ P.mb) (hmt : P.mb ≠ tb) (iD : P.mb ≠ gb) (hmn : P.mb ≠ nb) (hnt : nb ≠ tb) (Zp : nb ≠ gb) (i s : Nat) (hsk : (aH T.gs e.key e.hash).1 = some (i, s)) (e0 : av) (he0 : aD T.gs i s = .full e0) :
  Calls Tryz.prog 45 #[aN nb, aJ (some ⟨P.mb, P.mo, none⟩) c, aM e, .bool more] w fun y w' => y = .returned (.tuple #[.bool false, .nilIface]) ∧ TabAt w' tb gb (replaceM T i s e.val e0) ∧ aO w' P (x.add c (aH T.gs e.key e.hash).2.2) ∧ Mod [P.mb, tb, gb] w w' := by
 obtain ⟨W, hW, hB, hL, hE⟩ := lK w 112 #[.pointer (some ⟨P.mb, P.mo, none⟩), .int .i64 c.p, .int .i64 c.v, .int .i64 c.u] 37 #[.int .u64 (e.key : Int), .int .u64 (e.val : Int), .int .u64 (e.hash : Int)]
 have hml := hM.lt
 have hnl := hnd.lt
 have htl := h.aT
 have hgl := h.aU
 have hB0 := xC.size
 have HW := qd hW
 unfold aN aJ aM
 obtain ⟨qw, uG⟩ : ∃ s, s = (aH T.gs e.key e.hash).1 := ⟨_, rfl⟩
 obtain ⟨vX, uH⟩ : ∃ s, s = (aH T.gs e.key e.hash).2.1 := ⟨_, rfl⟩
 have gV := qd uG
 have HS2 := qd uH
 clear uG uH
 obtain ⟨s1, hs1⟩ : ∃ s, s = bO qw := ⟨_, rfl⟩
 obtain ⟨s2, hs2⟩ : ∃ s, s = bO vX := ⟨_, rfl⟩
 have HI1 := qd hs1
 have HI2 := qd hs2
 clear hs1 hs2
 obtain ⟨e1, he1, hk0, hil, hsl⟩ := tK hsk
 have oZ : s < 8 := by have := h.wide.at_ hil; omega
 have HN := qd (hnd.below hB hnd.lt)
 have HT := qd (h.below hB)
 have ay := qd (xC.next hB)
 have HM := qd (hM.below hB)
 have HL := qd (hL)
 have HE := qd (hE)
 have ah := qd (Mod.of_below hB [P.mb, tb, gb])
 clear hW hB hnd h hM xC hL hE he1
 go_in
 go_upto_region 1 with fail
 rw [← HW.out]
 have nc := HN.out.c5
 have lc := HL.out.c4
 have ec := HE.out.c3
 go_upto_region 3 with fail
 have q1 := qJ HN.out.lt (qJ HT.out.aT (qJ HT.out.aU (qJ HM.out.lt (qJ HL.out.lt (qJ HE.out.lt ah.out.size)))))
 refine Gi (fun a' wz => ∃ sb ap fp, a' = { tmps := #[.pointer (some ⟨nb, 0, none⟩), .agg #[.pointer (some ⟨P.mb, P.mo, none⟩), .int .i64 c.p, .int .i64 c.v, .int .i64 c.u], .agg #[.int .u64 (e.key : Int), .int .u64 (e.val : Int), .int .u64 (e.hash : Int)], .bool more, undef, .pointer (some ⟨w.heap.size, 0, none⟩), .pointer (some ⟨w.heap.size + 1, 0, none⟩), undef, .bool false, .nilIface, .pointer (some ⟨sb, 0, none⟩), undef, undef, undef, .pointer (some ⟨nb, 0, none⟩), .pointer (some ⟨nb, 0, none⟩), .pointer (some ⟨nb, 4, none⟩), .pointer none, .bool false, undef, undef, undef, undef, undef, undef, undef, undef, undef, undef, .pointer (some ⟨nb, 0, none⟩), .pointer (some ⟨nb, 0, none⟩), .pointer (some ⟨nb, 2, none⟩), .pointer (some ⟨tb, 0, none⟩), .agg #[.pointer (some ⟨P.mb, P.mo, none⟩), .int .i64 c.p, .int .i64 c.v, .int .i64 c.u], .pointer (some ⟨w.heap.size + 1, 0, none⟩), .int .u64 (e.key : Int), .pointer (some ⟨w.heap.size + 1, 2, none⟩), .int .u64 (e.hash : Int), .agg #[.pointer (some ⟨tb, 0, none⟩), .int .u64 (e.key : Int), .int .u64 (e.hash : Int), .pointer ap, .int .i64 s1, .pointer fp, .int .i64 s2], undef, undef, undef, undef, undef, undef, undef, undef, undef, undef, undef, undef, undef, undef, undef, undef, undef, undef, undef], defers := [] } ∧ aj wz nb 142 #[.int .i64 pfx, .int .i64 au, .pointer (some ⟨tb, 0, none⟩), .int .i64 job, .pointer none] ∧ TabAt wz tb gb T ∧ Env W0 E wz ∧ aj wz w.heap.size 112 #[.pointer (some ⟨P.mb, P.mo, none⟩), .int .i64 c.p, .int .i64 c.v, .int .i64 c.u] ∧ aj wz (w.heap.size + 1) 37 #[.int .u64 (e.key : Int), .int .u64 (e.val : Int), .int .u64 (e.hash : Int)] ∧ aO wz P (x.add c (aH T.gs e.key e.hash).2.2) ∧ gy gb qw ap ∧ gy gb vX fp ∧ aj wz sb 159 #[.pointer (some ⟨tb, 0, none⟩), .int .u64 (e.key : Int), .int .u64 (e.hash : Int), .pointer ap, .int .i64 s1, .pointer fp, .int .i64 s2] ∧ W.heap.size ≤ sb ∧ Mod ([P.mb, tb, gb]) w wz) ?_ ?_
 ·refine rT (fun (w' : World) => w'.cell? ⟨nb, 2, none⟩ = some (.pointer (some ⟨tb, 0, none⟩)) ∧ w'.cell? ⟨w.heap.size, 0, none⟩ = some (.pointer (some ⟨P.mb, P.mo, none⟩)) ∧ w'.cell? ⟨w.heap.size, 1, none⟩ = some (.int .i64 c.p) ∧ w'.cell? ⟨w.heap.size, 2, none⟩ = some (.int .i64 c.v) ∧ w'.cell? ⟨w.heap.size, 3, none⟩ = some (.int .i64 c.u) ∧ w'.cell? ⟨w.heap.size + 1, 0, none⟩ = some (.int .u64 (e.key : Int)) ∧ w'.cell? ⟨w.heap.size + 1, 2, none⟩ = some (.int .u64 (e.hash : Int))) [] ?_
  have hHeld := (⟨nc.2.2.1, lc.1, lc.2.1, lc.2.2.1, lc.2.2.2, ec.1, ec.2.2⟩ : _ ∧ _ ∧ _ ∧ _ ∧ _ ∧ _ ∧ _)
  refine vW 0 rfl ?_
  refine vW 1 rfl ?_
  refine vW 2 rfl ?_
  refine vT 3 rfl ?_
  refine vT 4 rfl ?_
  refine vW 5 rfl ?_
  refine vT 6 rfl ?_
  refine vW 7 rfl ?_
  refine vT 8 rfl ?_
  clear hHeld
  refine cZ (F := fun v => Mod [] W v) (Mod.drewN [] W 1) ?_
  rintro v1 hm
  clear nc lc ec
  replace HN := qM hm HN
  replace HT := qM hm HT
  replace ay := qM hm ay
  replace HM := qM hm HM
  replace HL := qM hm HL
  replace HE := qM hm HE
  have z208 := (hm).size
  replace ah := qU ah hm
  clear hm
  refine pairT (i := 9) (j := 10) (o := ⟨some 38, _, _, _, _, _⟩) (o' := ⟨some 10, _, _, _, _, _⟩) rfl rfl (by kernel_rfl) (fun K hK => ?_) (fun K hK => ?_)
  ·have nc := HN.out.c5
   have lc := HL.out.c4
   have ec := HE.out.c3
   go_simp
   have aY := qd (jS tb gb e.key e.hash T P x c v1 HT.out hP h64 HM.out (by omega) (by omega) ay.out hb0)
   rw [← gV.out, ← HS2.out, ← HI1.out, ← HI2.out] at aY
   unfold bQ bT aJ at aY
   refine (aY.out).mono ?_
   rintro y v2 ⟨ap, fp, rfl, hap, hfp, hM2, hm⟩
   clear aY HM nc lc ec
   replace HN := qM hm HN
   replace HT := qM hm HT
   replace ay := qM hm ay
   replace HL := qM hm HL
   replace HE := qM hm HE
   have UL := (hm).size
   replace ah := qU ah hm
   clear hm
   have HM := qd (hM2)
   have HA := qd (hap)
   have HF := qd (hfp)
   have nc := HN.out.c5
   have lc := HL.out.c4
   have ec := HE.out.c3
   go_wp2_with fail
   refine kO hK ?_
   clear hK K
   refine nT 10 rfl fun K hK => ?_
   have nc := HN.out.c5
   have lc := HL.out.c4
   have ec := HE.out.c3
   go_simp
   have UM := qJ HN.out.lt (qJ HT.out.aT (qJ HT.out.aU (qJ HL.out.lt (qJ HE.out.lt (qJ HM.out.lt ah.out.size)))))
   refine bY 159 #[.pointer none, .int .u64 0, .int .u64 0, .pointer none, .int .i64 0, .pointer none, .int .i64 0] ?_
   rintro v3 ⟨hnew, hb⟩
   obtain ⟨sb, hsb⟩ : ∃ sb, sb = v2.heap.size := ⟨_, rfl⟩
   rw [← hsb] at hnew ⊢
   replace hsb : v2.heap.size ≤ sb := by omega
   clear nc lc ec
   replace HN := qB hb HN
   replace HT := qB hb HT
   replace ay := qB hb ay
   replace HL := qB hb HL
   replace HE := qB hb HE
   replace HM := qB hb HM
   have UN := (hb).size
   replace ah := qT ah hb
   have HS := qd (hnew)
   clear hnew hb
   have nc := HN.out.c5
   have lc := HL.out.c4
   have ec := HE.out.c3
   refine kO hK ?_
   clear hK K
   refine nT 11 rfl fun K hK => ?_
   have nc := HN.out.c5
   have lc := HL.out.c4
   have ec := HE.out.c3
   have yc := HS.out.c7
   have yf := HS.out.f7
   go_simp
   have UO := qJ HN.out.lt (qJ HT.out.aT (qJ HT.out.aU (qJ HL.out.lt (qJ HE.out.lt (qJ HM.out.lt HS.out.lt)))))
   refine yH HS.out ?_
   rintro v4 ⟨hnew, hm⟩
   simp only [pt] at hnew
   clear nc lc ec yc yf
   replace HN := qM hm HN
   replace HT := qM hm HT
   replace ay := qM hm ay
   replace HL := qM hm HL
   replace HE := qM hm HE
   replace HM := qM hm HM
   have UQ := (hm).size
   replace ah := qU ah hm
   replace HS := qd hnew
   clear hnew hm
   have nc := HN.out.c5
   have lc := HL.out.c4
   have ec := HE.out.c3
   refine kO hK ?_
   clear hK K
   refine aS (by kernel_rfl) ?_ _
   have UR := ah.out.size
   exact ⟨sb, ap, fp, rfl, HN.out, HT.out, ay.out, HL.out, HE.out, HM.out, HA.out, HF.out, HS.out, by omega, ah.out⟩
  ·have nc := HN.out.c5
   have lc := HL.out.c4
   have ec := HE.out.c3
   go_simp
   have UU := qJ HN.out.lt (qJ HT.out.aT (qJ HT.out.aU (qJ HM.out.lt (qJ HL.out.lt (qJ HE.out.lt ah.out.size)))))
   refine bY 159 #[.pointer none, .int .u64 0, .int .u64 0, .pointer none, .int .i64 0, .pointer none, .int .i64 0] ?_
   rintro v5 ⟨hnew, hb⟩
   obtain ⟨sb, hsb⟩ : ∃ sb, sb = v1.heap.size := ⟨_, rfl⟩
   rw [← hsb] at hnew ⊢
   replace hsb : v1.heap.size ≤ sb := by omega
   clear nc lc ec
   replace HN := qB hb HN
   replace HT := qB hb HT
   replace ay := qB hb ay
   replace HM := qB hb HM
   replace HL := qB hb HL
   replace HE := qB hb HE
   have UW := (hb).size
   replace ah := qT ah hb
   have HS := qd (hnew)
   clear hnew hb
   have nc := HN.out.c5
   have lc := HL.out.c4
   have ec := HE.out.c3
   refine kO hK ?_
   clear hK K
   refine nT 9 rfl fun K hK => ?_
   have nc := HN.out.c5
   have lc := HL.out.c4
   have ec := HE.out.c3
   go_simp
   have aY := qd (jS tb gb e.key e.hash T P x c v5 HT.out hP h64 HM.out (by omega) (by omega) ay.out hb0)
   rw [← gV.out, ← HS2.out, ← HI1.out, ← HI2.out] at aY
   unfold bQ bT aJ at aY
   refine (aY.out).mono ?_
   rintro y v6 ⟨ap, fp, rfl, hap, hfp, hM2, hm⟩
   clear aY HM nc lc ec
   replace HN := qM hm HN
   replace HT := qM hm HT
   replace ay := qM hm ay
   replace HL := qM hm HL
   replace HE := qM hm HE
   replace HS := qM hm HS
   have UY := (hm).size
   replace ah := qU ah hm
   clear hm
   have HM := qd (hM2)
   have HA := qd (hap)
   have HF := qd (hfp)
   have nc := HN.out.c5
   have lc := HL.out.c4
   have ec := HE.out.c3
   go_wp2_with fail
   refine kO hK ?_
   clear hK K
   refine nT 11 rfl fun K hK => ?_
   have nc := HN.out.c5
   have lc := HL.out.c4
   have ec := HE.out.c3
   have yc := HS.out.c7
   have yf := HS.out.f7
   go_simp
   have UZ := qJ HN.out.lt (qJ HT.out.aT (qJ HT.out.aU (qJ HL.out.lt (qJ HE.out.lt (qJ HS.out.lt HM.out.lt)))))
   refine yH HS.out ?_
   rintro v7 ⟨hnew, hm⟩
   simp only [pt] at hnew
   clear nc lc ec yc yf
   replace HN := qM hm HN
   replace HT := qM hm HT
   replace ay := qM hm ay
   replace HL := qM hm HL
   replace HE := qM hm HE
   replace HM := qM hm HM
   have Ph := (hm).size
   replace ah := qU ah hm
   replace HS := qd hnew
   clear hnew hm
   have nc := HN.out.c5
   have lc := HL.out.c4
   have ec := HE.out.c3
   refine kO hK ?_
   clear hK K
   refine aS (by kernel_rfl) ?_ _
   have KH := ah.out.size
   exact ⟨sb, ap, fp, rfl, HN.out, HT.out, ay.out, HL.out, HE.out, HM.out, HA.out, HF.out, HS.out, by omega, ah.out⟩
 clear nc lc ec HN HT ay HM HL HE ah
 rintro a' w2 ⟨sb, ap, fp, rfl, Il, tQ, nW, tV, Im, tY, tZ, uf, kK, Fu, kL⟩
 have HN := qd (Il)
 have HT := qd (tQ)
 have ay := qd (nW)
 have HL := qd (tV)
 have HE := qd (Im)
 have HM := qd (tY)
 have HA := qd (tZ)
 have HF := qd (uf)
 have HS := qd (kK)
 have ah := qd (kL)
 clear Il tQ nW tV Im tY tZ uf kK kL
 go_upto_region 4 with fail
 have sc := HS.out.c7
 have jm := qd (iI tb gb e.key e.hash T ap fp s2 (by rw [← gV.out]; exact HA.out) w2 HT.out)
 unfold lN at jm
 rw [← gV.out, ← HI1.out] at jm
 unfold bQ gI aM at jm
 simp only [Option.isSome_map] at jm
 have hq := gV.out
 rw [hsk] at hq
 rw [hq] at jm HA HI1
 simp only [Option.map_some, he0, Option.getD_some, Option.isSome_some, Slot.ent] at jm
 clear hq
 go_wp2_with fail
 refine (jm.out).mono ?_
 rintro x w3 ⟨rfl, hb⟩
 clear sc
 replace HN := qB hb HN
 replace HT := qB hb HT
 replace ay := qB hb ay
 replace HL := qB hb HL
 replace HE := qB hb HE
 replace HM := qB hb HM
 replace HS := qB hb HS
 have z8 := (hb).size
 replace ah := qT ah hb
 clear hb jm
 go_upto_region 6 with fail
 have q9 := qJ HN.out.lt (qJ HT.out.aT (qJ HT.out.aU (qJ HL.out.lt (qJ HE.out.lt (qJ HM.out.lt (qJ HS.out.lt ah.out.size))))))
 refine bY 37 #[.int .u64 (e0.key : Int), .int .u64 (e0.val : Int), .int .u64 (e0.hash : Int)] ?_
 rintro w4 ⟨hnew, hb⟩
 replace HN := qB hb HN
 replace HT := qB hb HT
 replace ay := qB hb ay
 replace HL := qB hb HL
 replace HE := qB hb HE
 replace HM := qB hb HM
 replace HS := qB hb HS
 have z17 := (hb).size
 replace ah := qT ah hb
 have HD := qd (hnew)
 clear hnew hb
 have hi1 := HI1.out
 simp only [bO] at hi1
 subst hi1
 obtain rfl := HA.out i s rfl
 clear HA HF HI1 HI2 gV HS2
 have sc := HS.out.c7
 have ec := HE.out.c3
 have Rt := qd (Bc tb e.key e.hash gb fp s2 T i s e.val hil oZ e0 he0 w4 HT.out)
 unfold bQ at Rt
 clear HT ay
 go_wp2_with fail
 refine (Rt.out).mono ?_
 rintro x w5 ⟨rfl, mg, hm⟩
 clear sc ec
 replace HN := qM hm HN
 replace HL := qM hm HL
 replace HE := qM hm HE
 replace HM := qM hm HM
 replace HS := qM hm HS
 replace HD := qM hm HD
 have z18 := (hm).size
 replace ah := qU ah hm
 clear hm
 have HT := qd (mg)
 clear mg
 go_wp2
 refine bodyPost_ret (v := .tuple #[.bool false, .nilIface]) (by simp [results, Tryz.results45, go_sem]) rfl ⟨rfl, HT.out, HM.out, ah.out⟩
theorem KV (nb tb gb : Nat) (pfx au job : Int) (T : aC) (P : MP) (x : bI) (c : bF) (e : av) (w : World) (hnd : aj w nb 142 #[.int .i64 pfx, .int .i64 au, .pointer (some ⟨tb, 0, none⟩), .int .i64 job, .pointer none]) (h : TabAt w tb gb T) (hP : Pw T.gs.length) (h64 : e.hash < 18446744073709551616) (hM : aO w P x) (xC : Env W0 E w) (hb0 : W0.heap.size ≤ P.mb) (hmt : P.mb ≠ tb) (iD : P.mb ≠ gb) (hmn : P.mb ≠ nb) (hnt : nb ≠ tb) (Zp : nb ≠ gb) (hsk : (aH T.gs e.key e.hash).1 = none) (i s : Nat) (hfr : (aH T.gs e.key e.hash).2.1 = some (i, s)) (Rs : Small T) (hroom : T.live + T.bM + 1 ≤ 7 * (T.gs.length : Int)) :
  Calls Tryz.prog 45 #[aN nb, aJ (some ⟨P.mb, P.mo, none⟩) c, aM e, .bool true] w fun y w' => y = .returned (.tuple #[.bool true, .nilIface]) ∧ TabAt w' tb gb (jk T i s e) ∧ aO w' P (x.add c (aH T.gs e.key e.hash).2.2) ∧ Mod [P.mb, tb, gb] w w' := by
 obtain ⟨W, hW, hB, hL, hE⟩ := lK w 112 #[.pointer (some ⟨P.mb, P.mo, none⟩), .int .i64 c.p, .int .i64 c.v, .int .i64 c.u] 37 #[.int .u64 (e.key : Int), .int .u64 (e.val : Int), .int .u64 (e.hash : Int)]
 have hml := hM.lt
 have hnl := hnd.lt
 have htl := h.aT
 have hgl := h.aU
 have hB0 := xC.size
 have HW := qd hW
 unfold aN aJ aM
 obtain ⟨qw, uG⟩ : ∃ s, s = (aH T.gs e.key e.hash).1 := ⟨_, rfl⟩
 obtain ⟨vX, uH⟩ : ∃ s, s = (aH T.gs e.key e.hash).2.1 := ⟨_, rfl⟩
 have gV := qd uG
 have HS2 := qd uH
 clear uG uH
 obtain ⟨s1, hs1⟩ : ∃ s, s = bO qw := ⟨_, rfl⟩
 obtain ⟨s2, hs2⟩ : ∃ s, s = bO vX := ⟨_, rfl⟩
 have HI1 := qd hs1
 have HI2 := qd hs2
 clear hs1 hs2
 have Bn := xV T.gs hP.pos e.key e.hash i s hfr
 have oZ : s < 8 := by have := h.wide.at_ (i := i) Bn.1; omega
 have HN := qd (hnd.below hB hnd.lt)
 have HT := qd (h.below hB)
 have ay := qd (xC.next hB)
 have HM := qd (hM.below hB)
 have HL := qd (hL)
 have HE := qd (hE)
 have ah := qd (Mod.of_below hB [P.mb, tb, gb])
 clear hW hB hnd h hM xC hL hE
 go_in
 go_upto_region 1 with fail
 rw [← HW.out]
 have nc := HN.out.c5
 have lc := HL.out.c4
 have ec := HE.out.c3
 go_upto_region 3 with fail
 have q1 := qJ HN.out.lt (qJ HT.out.aT (qJ HT.out.aU (qJ HM.out.lt (qJ HL.out.lt (qJ HE.out.lt ah.out.size)))))
 refine Gi (fun a' wz => ∃ sb ap fp, a' = { tmps := #[.pointer (some ⟨nb, 0, none⟩), .agg #[.pointer (some ⟨P.mb, P.mo, none⟩), .int .i64 c.p, .int .i64 c.v, .int .i64 c.u], .agg #[.int .u64 (e.key : Int), .int .u64 (e.val : Int), .int .u64 (e.hash : Int)], .bool true, undef, .pointer (some ⟨w.heap.size, 0, none⟩), .pointer (some ⟨w.heap.size + 1, 0, none⟩), undef, .bool false, .nilIface, .pointer (some ⟨sb, 0, none⟩), undef, undef, undef, .pointer (some ⟨nb, 0, none⟩), .pointer (some ⟨nb, 0, none⟩), .pointer (some ⟨nb, 4, none⟩), .pointer none, .bool false, undef, undef, undef, undef, undef, undef, undef, undef, undef, undef, .pointer (some ⟨nb, 0, none⟩), .pointer (some ⟨nb, 0, none⟩), .pointer (some ⟨nb, 2, none⟩), .pointer (some ⟨tb, 0, none⟩), .agg #[.pointer (some ⟨P.mb, P.mo, none⟩), .int .i64 c.p, .int .i64 c.v, .int .i64 c.u], .pointer (some ⟨w.heap.size + 1, 0, none⟩), .int .u64 (e.key : Int), .pointer (some ⟨w.heap.size + 1, 2, none⟩), .int .u64 (e.hash : Int), .agg #[.pointer (some ⟨tb, 0, none⟩), .int .u64 (e.key : Int), .int .u64 (e.hash : Int), .pointer ap, .int .i64 s1, .pointer fp, .int .i64 s2], undef, undef, undef, undef, undef, undef, undef, undef, undef, undef, undef, undef, undef, undef, undef, undef, undef, undef, undef], defers := [] } ∧ aj wz nb 142 #[.int .i64 pfx, .int .i64 au, .pointer (some ⟨tb, 0, none⟩), .int .i64 job, .pointer none] ∧ TabAt wz tb gb T ∧ Env W0 E wz ∧ aj wz w.heap.size 112 #[.pointer (some ⟨P.mb, P.mo, none⟩), .int .i64 c.p, .int .i64 c.v, .int .i64 c.u] ∧ aj wz (w.heap.size + 1) 37 #[.int .u64 (e.key : Int), .int .u64 (e.val : Int), .int .u64 (e.hash : Int)] ∧ aO wz P (x.add c (aH T.gs e.key e.hash).2.2) ∧ gy gb qw ap ∧ gy gb vX fp ∧ aj wz sb 159 #[.pointer (some ⟨tb, 0, none⟩), .int .u64 (e.key : Int), .int .u64 (e.hash : Int), .pointer ap, .int .i64 s1, .pointer fp, .int .i64 s2] ∧ W.heap.size ≤ sb ∧ Mod ([P.mb, tb, gb]) w wz) ?_ ?_
 ·refine rT (fun (w' : World) => w'.cell? ⟨nb, 2, none⟩ = some (.pointer (some ⟨tb, 0, none⟩)) ∧ w'.cell? ⟨w.heap.size, 0, none⟩ = some (.pointer (some ⟨P.mb, P.mo, none⟩)) ∧ w'.cell? ⟨w.heap.size, 1, none⟩ = some (.int .i64 c.p) ∧ w'.cell? ⟨w.heap.size, 2, none⟩ = some (.int .i64 c.v) ∧ w'.cell? ⟨w.heap.size, 3, none⟩ = some (.int .i64 c.u) ∧ w'.cell? ⟨w.heap.size + 1, 0, none⟩ = some (.int .u64 (e.key : Int)) ∧ w'.cell? ⟨w.heap.size + 1, 2, none⟩ = some (.int .u64 (e.hash : Int))) [] ?_
  have hHeld := (⟨nc.2.2.1, lc.1, lc.2.1, lc.2.2.1, lc.2.2.2, ec.1, ec.2.2⟩ : _ ∧ _ ∧ _ ∧ _ ∧ _ ∧ _ ∧ _)
  refine vW 0 rfl ?_
  refine vW 1 rfl ?_
  refine vW 2 rfl ?_
  refine vT 3 rfl ?_
  refine vT 4 rfl ?_
  refine vW 5 rfl ?_
  refine vT 6 rfl ?_
  refine vW 7 rfl ?_
  refine vT 8 rfl ?_
  clear hHeld
  refine cZ (F := fun v => Mod [] W v) (Mod.drewN [] W 1) ?_
  rintro v1 hm
  clear nc lc ec
  replace HN := qM hm HN
  replace HT := qM hm HT
  replace ay := qM hm ay
  replace HM := qM hm HM
  replace HL := qM hm HL
  replace HE := qM hm HE
  have z208 := (hm).size
  replace ah := qU ah hm
  clear hm
  refine pairT (i := 9) (j := 10) (o := ⟨some 38, _, _, _, _, _⟩) (o' := ⟨some 10, _, _, _, _, _⟩) rfl rfl (by kernel_rfl) (fun K hK => ?_) (fun K hK => ?_)
  ·have nc := HN.out.c5
   have lc := HL.out.c4
   have ec := HE.out.c3
   go_simp
   have aY := qd (jS tb gb e.key e.hash T P x c v1 HT.out hP h64 HM.out (by omega) (by omega) ay.out hb0)
   rw [← gV.out, ← HS2.out, ← HI1.out, ← HI2.out] at aY
   unfold bQ bT aJ at aY
   refine (aY.out).mono ?_
   rintro y v2 ⟨ap, fp, rfl, hap, hfp, hM2, hm⟩
   clear aY HM nc lc ec
   replace HN := qM hm HN
   replace HT := qM hm HT
   replace ay := qM hm ay
   replace HL := qM hm HL
   replace HE := qM hm HE
   have UL := (hm).size
   replace ah := qU ah hm
   clear hm
   have HM := qd (hM2)
   have HA := qd (hap)
   have HF := qd (hfp)
   have nc := HN.out.c5
   have lc := HL.out.c4
   have ec := HE.out.c3
   go_wp2_with fail
   refine kO hK ?_
   clear hK K
   refine nT 10 rfl fun K hK => ?_
   have nc := HN.out.c5
   have lc := HL.out.c4
   have ec := HE.out.c3
   go_simp
   have UM := qJ HN.out.lt (qJ HT.out.aT (qJ HT.out.aU (qJ HL.out.lt (qJ HE.out.lt (qJ HM.out.lt ah.out.size)))))
   refine bY 159 #[.pointer none, .int .u64 0, .int .u64 0, .pointer none, .int .i64 0, .pointer none, .int .i64 0] ?_
   rintro v3 ⟨hnew, hb⟩
   obtain ⟨sb, hsb⟩ : ∃ sb, sb = v2.heap.size := ⟨_, rfl⟩
   rw [← hsb] at hnew ⊢
   replace hsb : v2.heap.size ≤ sb := by omega
   clear nc lc ec
   replace HN := qB hb HN
   replace HT := qB hb HT
   replace ay := qB hb ay
   replace HL := qB hb HL
   replace HE := qB hb HE
   replace HM := qB hb HM
   have UN := (hb).size
   replace ah := qT ah hb
   have HS := qd (hnew)
   clear hnew hb
   have nc := HN.out.c5
   have lc := HL.out.c4
   have ec := HE.out.c3
   refine kO hK ?_
   clear hK K
   refine nT 11 rfl fun K hK => ?_
   have nc := HN.out.c5
   have lc := HL.out.c4
   have ec := HE.out.c3
   have yc := HS.out.c7
   have yf := HS.out.f7
   go_simp
   have UO := qJ HN.out.lt (qJ HT.out.aT (qJ HT.out.aU (qJ HL.out.lt (qJ HE.out.lt (qJ HM.out.lt HS.out.lt)))))
   refine yH HS.out ?_
   rintro v4 ⟨hnew, hm⟩
   simp only [pt] at hnew
   clear nc lc ec yc yf
   replace HN := qM hm HN
   replace HT := qM hm HT
   replace ay := qM hm ay
   replace HL := qM hm HL
   replace HE := qM hm HE
   replace HM := qM hm HM
   have UQ := (hm).size
   replace ah := qU ah hm
   replace HS := qd hnew
   clear hnew hm
   have nc := HN.out.c5
   have lc := HL.out.c4
   have ec := HE.out.c3
   refine kO hK ?_
   clear hK K
   refine aS (by kernel_rfl) ?_ _
   have UR := ah.out.size
   exact ⟨sb, ap, fp, rfl, HN.out, HT.out, ay.out, HL.out, HE.out, HM.out, HA.out, HF.out, HS.out, by omega, ah.out⟩
  ·have nc := HN.out.c5
   have lc := HL.out.c4
   have ec := HE.out.c3
   go_simp
   have UU := qJ HN.out.lt (qJ HT.out.aT (qJ HT.out.aU (qJ HM.out.lt (qJ HL.out.lt (qJ HE.out.lt ah.out.size)))))
   refine bY 159 #[.pointer none, .int .u64 0, .int .u64 0, .pointer none, .int .i64 0, .pointer none, .int .i64 0] ?_
   rintro v5 ⟨hnew, hb⟩
   obtain ⟨sb, hsb⟩ : ∃ sb, sb = v1.heap.size := ⟨_, rfl⟩
   rw [← hsb] at hnew ⊢
   replace hsb : v1.heap.size ≤ sb := by omega
   clear nc lc ec
   replace HN := qB hb HN
   replace HT := qB hb HT
   replace ay := qB hb ay
   replace HM := qB hb HM
   replace HL := qB hb HL
   replace HE := qB hb HE
   have UW := (hb).size
   replace ah := qT ah hb
   have HS := qd (hnew)
   clear hnew hb
   have nc := HN.out.c5
   have lc := HL.out.c4
   have ec := HE.out.c3
   refine kO hK ?_
   clear hK K
   refine nT 9 rfl fun K hK => ?_
   have nc := HN.out.c5
   have lc := HL.out.c4
   have ec := HE.out.c3
   go_simp
   have aY := qd (jS tb gb e.key e.hash T P x c v5 HT.out hP h64 HM.out (by omega) (by omega) ay.out hb0)
   rw [← gV.out, ← HS2.out, ← HI1.out, ← HI2.out] at aY
   unfold bQ bT aJ at aY
   refine (aY.out).mono ?_
   rintro y v6 ⟨ap, fp, rfl, hap, hfp, hM2, hm⟩
   clear aY HM nc lc ec
   replace HN := qM hm HN
   replace HT := qM hm HT
   replace ay := qM hm ay
   replace HL := qM hm HL
   replace HE := qM hm HE
   replace HS := qM hm HS
   have UY := (hm).size
   replace ah := qU ah hm
   clear hm
   have HM := qd (hM2)
   have HA := qd (hap)
   have HF := qd (hfp)
   have nc := HN.out.c5
   have lc := HL.out.c4
   have ec := HE.out.c3
   go_wp2_with fail
   refine kO hK ?_
   clear hK K
   refine nT 11 rfl fun K hK => ?_
   have nc := HN.out.c5
   have lc := HL.out.c4
   have ec := HE.out.c3
   have yc := HS.out.c7
   have yf := HS.out.f7
   go_simp
   have UZ := qJ HN.out.lt (qJ HT.out.aT (qJ HT.out.aU (qJ HL.out.lt (qJ HE.out.lt (qJ HS.out.lt HM.out.lt)))))
   refine yH HS.out ?_
   rintro v7 ⟨hnew, hm⟩
   simp only [pt] at hnew
   clear nc lc ec yc yf
   replace HN := qM hm HN
   replace HT := qM hm HT
   replace ay := qM hm ay
   replace HL := qM hm HL
   replace HE := qM hm HE
   replace HM := qM hm HM
   have Ph := (hm).size
   replace ah := qU ah hm
   replace HS := qd hnew
   clear hnew hm
   have nc := HN.out.c5
   have lc := HL.out.c4
   have ec := HE.out.c3
   refine kO hK ?_
   clear hK K
   refine aS (by kernel_rfl) ?_ _
   have KH := ah.out.size
   exact ⟨sb, ap, fp, rfl, HN.out, HT.out, ay.out, HL.out, HE.out, HM.out, HA.out, HF.out, HS.out, by omega, ah.out⟩
 clear nc lc ec HN HT ay HM HL HE ah
 rintro a' w2 ⟨sb, ap, fp, rfl, Il, tQ, nW, tV, Im, tY, tZ, uf, kK, Fu, kL⟩
 have HN := qd (Il)
 have HT := qd (tQ)
 have ay := qd (nW)
 have HL := qd (tV)
 have HE := qd (Im)
 have HM := qd (tY)
 have HA := qd (tZ)
 have HF := qd (uf)
 have HS := qd (kK)
 have ah := qd (kL)
 clear Il tQ nW tV Im tY tZ uf kK kL
 go_upto_region 4 with fail
 have sc := HS.out.c7
 have jm := qd (iI tb gb e.key e.hash T ap fp s2 (by rw [← gV.out]; exact HA.out) w2 HT.out)
 unfold lN at jm
 rw [← gV.out, ← HI1.out] at jm
 unfold bQ gI aM at jm
 simp only [Option.isSome_map] at jm
 have hq := gV.out
 rw [hsk] at hq
 rw [hq] at jm HA HI1
 simp only [Option.map_none, Option.getD_none, Option.isSome_none] at jm
 clear hq
 go_wp2_with fail
 refine (jm.out).mono ?_
 rintro x w3 ⟨rfl, hb⟩
 clear sc
 replace HN := qB hb HN
 replace HT := qB hb HT
 replace ay := qB hb ay
 replace HL := qB hb HL
 replace HE := qB hb HE
 replace HM := qB hb HM
 replace HS := qB hb HS
 have z8 := (hb).size
 replace ah := qT ah hb
 clear hb jm
 go_upto_region 9 with fail
 have q9 := qJ HN.out.lt (qJ HT.out.aT (qJ HT.out.aU (qJ HL.out.lt (qJ HE.out.lt (qJ HM.out.lt (qJ HS.out.lt ah.out.size))))))
 refine bY 37 #[.int .u64 0, .int .u64 0, .int .u64 0] ?_
 rintro w4 ⟨hnew, hb⟩
 replace HN := qB hb HN
 replace HT := qB hb HT
 replace ay := qB hb ay
 replace HL := qB hb HL
 replace HE := qB hb HE
 replace HM := qB hb HM
 replace HS := qB hb HS
 have z17 := (hb).size
 replace ah := qT ah hb
 have HD := qd (hnew)
 clear hnew hb
 have hi1 := HI1.out
 simp only [bO] at hi1
 subst hi1
 have hq2 := HS2.out
 rw [hfr] at hq2
 rw [hq2] at HF HI2
 have hi2 := HI2.out
 simp only [bO] at hi2
 subst hi2
 obtain rfl := HF.out i s rfl
 clear HA HF HI1 HI2 gV HS2
 have sc := HS.out.c7
 have ec := HE.out.c3
 have iW := qd (zC tb gb ap T i s e Bn.1 oZ h64 Bn.2.2 Rs hroom w4 HT.out)
 unfold bQ aM at iW
 clear HT ay
 go_wp2_with fail
 refine (iW.out).mono ?_
 rintro x w5 ⟨rfl, mg, hm⟩
 clear sc ec
 replace HN := qM hm HN
 replace HL := qM hm HL
 replace HE := qM hm HE
 replace HM := qM hm HM
 replace HS := qM hm HS
 replace HD := qM hm HD
 have z18 := (hm).size
 replace ah := qU ah hm
 clear hm
 have HT := qd (mg)
 clear mg
 go_wp2
 refine bodyPost_ret (v := .tuple #[.bool true, .nilIface]) (by simp [results, Tryz.results45, go_sem]) rfl ⟨rfl, HT.out, HM.out, ah.out⟩
theorem Jp (nb tb gb : Nat) (pfx au job : Int) (T : aC) (P : MP) (x : bI) (c : bF) (e : av) (w : World) (hnd : aj w nb 142 #[.int .i64 pfx, .int .i64 au, .pointer (some ⟨tb, 0, none⟩), .int .i64 job, .pointer none]) (h : TabAt w tb gb T) (hP : Pw T.gs.length) (h64 : e.hash < 18446744073709551616) (hM : aO w P x) (xC : Env W0 E w) (hb0 : W0.heap.size ≤ P.mb) (hmt : P.mb ≠ tb) (iD : P.mb ≠ gb) (hmn : P.mb ≠ nb) (hnt : nb ≠ tb) (Zp : nb ≠ gb) (hsk : (aH T.gs e.key e.hash).1 = none) :
  Calls Tryz.prog 45 #[aN nb, aJ (some ⟨P.mb, P.mo, none⟩) c, aM e, .bool false] w fun y w' => y = .returned (.tuple #[.bool false, kW E 2]) ∧ TabAt w' tb gb (T) ∧ aO w' P (x.add c (aH T.gs e.key e.hash).2.2) ∧ Mod [P.mb] w w' := by
 obtain ⟨W, hW, hB, hL, hE⟩ := lK w 112 #[.pointer (some ⟨P.mb, P.mo, none⟩), .int .i64 c.p, .int .i64 c.v, .int .i64 c.u] 37 #[.int .u64 (e.key : Int), .int .u64 (e.val : Int), .int .u64 (e.hash : Int)]
 have hml := hM.lt
 have hnl := hnd.lt
 have htl := h.aT
 have hgl := h.aU
 have hB0 := xC.size
 have HW := qd hW
 unfold aN aJ aM
 obtain ⟨qw, uG⟩ : ∃ s, s = (aH T.gs e.key e.hash).1 := ⟨_, rfl⟩
 obtain ⟨vX, uH⟩ : ∃ s, s = (aH T.gs e.key e.hash).2.1 := ⟨_, rfl⟩
 have gV := qd uG
 have HS2 := qd uH
 clear uG uH
 obtain ⟨s1, hs1⟩ : ∃ s, s = bO qw := ⟨_, rfl⟩
 obtain ⟨s2, hs2⟩ : ∃ s, s = bO vX := ⟨_, rfl⟩
 have HI1 := qd hs1
 have HI2 := qd hs2
 clear hs1 hs2
 have HN := qd (hnd.below hB hnd.lt)
 have HT := qd (h.below hB)
 have ay := qd (xC.next hB)
 have HM := qd (hM.below hB)
 have HL := qd (hL)
 have HE := qd (hE)
 have ah := qd (Mod.of_below hB [P.mb])
 clear hW hB hnd h hM xC hL hE
 go_in
 go_upto_region 1 with fail
 rw [← HW.out]
 have nc := HN.out.c5
 have lc := HL.out.c4
 have ec := HE.out.c3
 go_upto_region 3 with fail
 have q1 := qJ HN.out.lt (qJ HT.out.aT (qJ HT.out.aU (qJ HM.out.lt (qJ HL.out.lt (qJ HE.out.lt ah.out.size)))))
 refine Gi (fun a' wz => ∃ sb ap fp, a' = { tmps := #[.pointer (some ⟨nb, 0, none⟩), .agg #[.pointer (some ⟨P.mb, P.mo, none⟩), .int .i64 c.p, .int .i64 c.v, .int .i64 c.u], .agg #[.int .u64 (e.key : Int), .int .u64 (e.val : Int), .int .u64 (e.hash : Int)], .bool false, undef, .pointer (some ⟨w.heap.size, 0, none⟩), .pointer (some ⟨w.heap.size + 1, 0, none⟩), undef, .bool false, .nilIface, .pointer (some ⟨sb, 0, none⟩), undef, undef, undef, .pointer (some ⟨nb, 0, none⟩), .pointer (some ⟨nb, 0, none⟩), .pointer (some ⟨nb, 4, none⟩), .pointer none, .bool false, undef, undef, undef, undef, undef, undef, undef, undef, undef, undef, .pointer (some ⟨nb, 0, none⟩), .pointer (some ⟨nb, 0, none⟩), .pointer (some ⟨nb, 2, none⟩), .pointer (some ⟨tb, 0, none⟩), .agg #[.pointer (some ⟨P.mb, P.mo, none⟩), .int .i64 c.p, .int .i64 c.v, .int .i64 c.u], .pointer (some ⟨w.heap.size + 1, 0, none⟩), .int .u64 (e.key : Int), .pointer (some ⟨w.heap.size + 1, 2, none⟩), .int .u64 (e.hash : Int), .agg #[.pointer (some ⟨tb, 0, none⟩), .int .u64 (e.key : Int), .int .u64 (e.hash : Int), .pointer ap, .int .i64 s1, .pointer fp, .int .i64 s2], undef, undef, undef, undef, undef, undef, undef, undef, undef, undef, undef, undef, undef, undef, undef, undef, undef, undef, undef], defers := [] } ∧ aj wz nb 142 #[.int .i64 pfx, .int .i64 au, .pointer (some ⟨tb, 0, none⟩), .int .i64 job, .pointer none] ∧ TabAt wz tb gb T ∧ Env W0 E wz ∧ aj wz w.heap.size 112 #[.pointer (some ⟨P.mb, P.mo, none⟩), .int .i64 c.p, .int .i64 c.v, .int .i64 c.u] ∧ aj wz (w.heap.size + 1) 37 #[.int .u64 (e.key : Int), .int .u64 (e.val : Int), .int .u64 (e.hash : Int)] ∧ aO wz P (x.add c (aH T.gs e.key e.hash).2.2) ∧ gy gb qw ap ∧ gy gb vX fp ∧ aj wz sb 159 #[.pointer (some ⟨tb, 0, none⟩), .int .u64 (e.key : Int), .int .u64 (e.hash : Int), .pointer ap, .int .i64 s1, .pointer fp, .int .i64 s2] ∧ W.heap.size ≤ sb ∧ Mod ([P.mb]) w wz) ?_ ?_
 ·refine rT (fun (w' : World) => w'.cell? ⟨nb, 2, none⟩ = some (.pointer (some ⟨tb, 0, none⟩)) ∧ w'.cell? ⟨w.heap.size, 0, none⟩ = some (.pointer (some ⟨P.mb, P.mo, none⟩)) ∧ w'.cell? ⟨w.heap.size, 1, none⟩ = some (.int .i64 c.p) ∧ w'.cell? ⟨w.heap.size, 2, none⟩ = some (.int .i64 c.v) ∧ w'.cell? ⟨w.heap.size, 3, none⟩ = some (.int .i64 c.u) ∧ w'.cell? ⟨w.heap.size + 1, 0, none⟩ = some (.int .u64 (e.key : Int)) ∧ w'.cell? ⟨w.heap.size + 1, 2, none⟩ = some (.int .u64 (e.hash : Int))) [] ?_
  have hHeld := (⟨nc.2.2.1, lc.1, lc.2.1, lc.2.2.1, lc.2.2.2, ec.1, ec.2.2⟩ : _ ∧ _ ∧ _ ∧ _ ∧ _ ∧ _ ∧ _)
  refine vW 0 rfl ?_
  refine vW 1 rfl ?_
  refine vW 2 rfl ?_
  refine vT 3 rfl ?_
  refine vT 4 rfl ?_
  refine vW 5 rfl ?_
  refine vT 6 rfl ?_
  refine vW 7 rfl ?_
  refine vT 8 rfl ?_
  clear hHeld
  refine cZ (F := fun v => Mod [] W v) (Mod.drewN [] W 1) ?_
  rintro v1 hm
  clear nc lc ec
  replace HN := qM hm HN
  replace HT := qM hm HT
  replace ay := qM hm ay
  replace HM := qM hm HM
  replace HL := qM hm HL
  replace HE := qM hm HE
  have z208 := (hm).size
  replace ah := qU ah hm
  clear hm
  refine pairT (i := 9) (j := 10) (o := ⟨some 38, _, _, _, _, _⟩) (o' := ⟨some 10, _, _, _, _, _⟩) rfl rfl (by kernel_rfl) (fun K hK => ?_) (fun K hK => ?_)
  ·have nc := HN.out.c5
   have lc := HL.out.c4
   have ec := HE.out.c3
   go_simp
   have aY := qd (jS tb gb e.key e.hash T P x c v1 HT.out hP h64 HM.out (by omega) (by omega) ay.out hb0)
   rw [← gV.out, ← HS2.out, ← HI1.out, ← HI2.out] at aY
   unfold bQ bT aJ at aY
   refine (aY.out).mono ?_
   rintro y v2 ⟨ap, fp, rfl, hap, hfp, hM2, hm⟩
   clear aY HM nc lc ec
   replace HN := qM hm HN
   replace HT := qM hm HT
   replace ay := qM hm ay
   replace HL := qM hm HL
   replace HE := qM hm HE
   have UL := (hm).size
   replace ah := qU ah hm
   clear hm
   have HM := qd (hM2)
   have HA := qd (hap)
   have HF := qd (hfp)
   have nc := HN.out.c5
   have lc := HL.out.c4
   have ec := HE.out.c3
   go_wp2_with fail
   refine kO hK ?_
   clear hK K
   refine nT 10 rfl fun K hK => ?_
   have nc := HN.out.c5
   have lc := HL.out.c4
   have ec := HE.out.c3
   go_simp
   have UM := qJ HN.out.lt (qJ HT.out.aT (qJ HT.out.aU (qJ HL.out.lt (qJ HE.out.lt (qJ HM.out.lt ah.out.size)))))
   refine bY 159 #[.pointer none, .int .u64 0, .int .u64 0, .pointer none, .int .i64 0, .pointer none, .int .i64 0] ?_
   rintro v3 ⟨hnew, hb⟩
   obtain ⟨sb, hsb⟩ : ∃ sb, sb = v2.heap.size := ⟨_, rfl⟩
   rw [← hsb] at hnew ⊢
   replace hsb : v2.heap.size ≤ sb := by omega
   clear nc lc ec
   replace HN := qB hb HN
   replace HT := qB hb HT
   replace ay := qB hb ay
   replace HL := qB hb HL
   replace HE := qB hb HE
   replace HM := qB hb HM
   have UN := (hb).size
   replace ah := qT ah hb
   have HS := qd (hnew)
   clear hnew hb
   have nc := HN.out.c5
   have lc := HL.out.c4
   have ec := HE.out.c3
   refine kO hK ?_
   clear hK K
   refine nT 11 rfl fun K hK => ?_
   have nc := HN.out.c5
   have lc := HL.out.c4
   have ec := HE.out.c3
   have yc := HS.out.c7
   have yf := HS.out.f7
   go_simp
   have UO := qJ HN.out.lt (qJ HT.out.aT (qJ HT.out.aU (qJ HL.out.lt (qJ HE.out.lt (qJ HM.out.lt HS.out.lt)))))
   refine yH HS.out ?_
   rintro v4 ⟨hnew, hm⟩
   simp only [pt] at hnew
   clear nc lc ec yc yf
   replace HN := qM hm HN
   replace HT := qM hm HT
   replace ay := qM hm ay
   replace HL := qM hm HL
   replace HE := qM hm HE
   replace HM := qM hm HM
   have UQ := (hm).size
   replace ah := qU ah hm
   replace HS := qd hnew
   clear hnew hm
   have nc := HN.out.c5
   have lc := HL.out.c4
   have ec := HE.out.c3
   refine kO hK ?_
   clear hK K
   refine aS (by kernel_rfl) ?_ _
   have UR := ah.out.size
   exact ⟨sb, ap, fp, rfl, HN.out, HT.out, ay.out, HL.out, HE.out, HM.out, HA.out, HF.out, HS.out, by omega, ah.out⟩
  ·have nc := HN.out.c5
   have lc := HL.out.c4
   have ec := HE.out.c3
   go_simp
   have UU := qJ HN.out.lt (qJ HT.out.aT (qJ HT.out.aU (qJ HM.out.lt (qJ HL.out.lt (qJ HE.out.lt ah.out.size)))))
   refine bY 159 #[.pointer none, .int .u64 0, .int .u64 0, .pointer none, .int .i64 0, .pointer none, .int .i64 0] ?_
   rintro v5 ⟨hnew, hb⟩
   obtain ⟨sb, hsb⟩ : ∃ sb, sb = v1.heap.size := ⟨_, rfl⟩
   rw [← hsb] at hnew ⊢
   replace hsb : v1.heap.size ≤ sb := by omega
   clear nc lc ec
   replace HN := qB hb HN
   replace HT := qB hb HT
   replace ay := qB hb ay
   replace HM := qB hb HM
   replace HL := qB hb HL
   replace HE := qB hb HE
   have UW := (hb).size
   replace ah := qT ah hb
   have HS := qd (hnew)
   clear hnew hb
   have nc := HN.out.c5
   have lc := HL.out.c4
   have ec := HE.out.c3
   refine kO hK ?_
   clear hK K
   refine nT 9 rfl fun K hK => ?_
   have nc := HN.out.c5
   have lc := HL.out.c4
   have ec := HE.out.c3
   go_simp
   have aY := qd (jS tb gb e.key e.hash T P x c v5 HT.out hP h64 HM.out (by omega) (by omega) ay.out hb0)
   rw [← gV.out, ← HS2.out, ← HI1.out, ← HI2.out] at aY
   unfold bQ bT aJ at aY
   refine (aY.out).mono ?_
   rintro y v6 ⟨ap, fp, rfl, hap, hfp, hM2, hm⟩
   clear aY HM nc lc ec
   replace HN := qM hm HN
   replace HT := qM hm HT
   replace ay := qM hm ay
   replace HL := qM hm HL
   replace HE := qM hm HE
   replace HS := qM hm HS
   have UY := (hm).size
   replace ah := qU ah hm
   clear hm
   have HM := qd (hM2)
   have HA := qd (hap)
   have HF := qd (hfp)
   have nc := HN.out.c5
   have lc := HL.out.c4
   have ec := HE.out.c3
   go_wp2_with fail
   refine kO hK ?_
   clear hK K
   refine nT 11 rfl fun K hK => ?_
   have nc := HN.out.c5
   have lc := HL.out.c4
   have ec := HE.out.c3
   have yc := HS.out.c7
   have yf := HS.out.f7
   go_simp
   have UZ := qJ HN.out.lt (qJ HT.out.aT (qJ HT.out.aU (qJ HL.out.lt (qJ HE.out.lt (qJ HS.out.lt HM.out.lt)))))
   refine yH HS.out ?_
   rintro v7 ⟨hnew, hm⟩
   simp only [pt] at hnew
   clear nc lc ec yc yf
   replace HN := qM hm HN
   replace HT := qM hm HT
   replace ay := qM hm ay
   replace HL := qM hm HL
   replace HE := qM hm HE
   replace HM := qM hm HM
   have Ph := (hm).size
   replace ah := qU ah hm
   replace HS := qd hnew
   clear hnew hm
   have nc := HN.out.c5
   have lc := HL.out.c4
   have ec := HE.out.c3
   refine kO hK ?_
   clear hK K
   refine aS (by kernel_rfl) ?_ _
   have KH := ah.out.size
   exact ⟨sb, ap, fp, rfl, HN.out, HT.out, ay.out, HL.out, HE.out, HM.out, HA.out, HF.out, HS.out, by omega, ah.out⟩
 clear nc lc ec HN HT ay HM HL HE ah
 rintro a' w2 ⟨sb, ap, fp, rfl, Il, tQ, nW, tV, Im, tY, tZ, uf, kK, Fu, kL⟩
 have HN := qd (Il)
 have HT := qd (tQ)
 have ay := qd (nW)
 have HL := qd (tV)
 have HE := qd (Im)
 have HM := qd (tY)
 have HA := qd (tZ)
 have HF := qd (uf)
 have HS := qd (kK)
 have ah := qd (kL)
 clear Il tQ nW tV Im tY tZ uf kK kL
 go_upto_region 4 with fail
 have sc := HS.out.c7
 have jm := qd (iI tb gb e.key e.hash T ap fp s2 (by rw [← gV.out]; exact HA.out) w2 HT.out)
 unfold lN at jm
 rw [← gV.out, ← HI1.out] at jm
 unfold bQ gI aM at jm
 simp only [Option.isSome_map] at jm
 have hq := gV.out
 rw [hsk] at hq
 rw [hq] at jm HA HI1
 simp only [Option.map_none, Option.getD_none, Option.isSome_none] at jm
 clear hq
 go_wp2_with fail
 refine (jm.out).mono ?_
 rintro x w3 ⟨rfl, hb⟩
 clear sc
 replace HN := qB hb HN
 replace HT := qB hb HT
 replace ay := qB hb ay
 replace HL := qB hb HL
 replace HE := qB hb HE
 replace HM := qB hb HM
 replace HS := qB hb HS
 have z8 := (hb).size
 replace ah := qT ah hb
 clear hb jm
 go_upto_region 8 with fail
 have q9 := qJ HN.out.lt (qJ HT.out.aT (qJ HT.out.aU (qJ HL.out.lt (qJ HE.out.lt (qJ HM.out.lt (qJ HS.out.lt ah.out.size))))))
 refine bY 37 #[.int .u64 0, .int .u64 0, .int .u64 0] ?_
 rintro w4 ⟨hnew, hb⟩
 replace HN := qB hb HN
 replace HT := qB hb HT
 replace ay := qB hb ay
 replace HL := qB hb HL
 replace HE := qB hb HE
 replace HM := qB hb HM
 replace HS := qB hb HS
 have z17 := (hb).size
 replace ah := qT ah hb
 have HD := qd (hnew)
 clear hnew hb
 have hi1 := HI1.out
 simp only [bO] at hi1
 subst hi1
 clear HA HF HI1 HI2 gV HS2
 have sc := HS.out.c7
 have ec := HE.out.c3
 have her := ay.out.errs.at_ 2 (by omega) (by omega)
 unfold gT gE at her
 simp only at her
 go_region
 go_wp2
 replace HN := qd (HN.out.drew)
 replace HT := qd (HT.out.below (Below.refl _ _).drew)
 replace HM := qd (HM.out.below (Below.refl _ _).drew)
 replace ah := qd (ah.out.then (Mod.drewN _ _ 1))
 refine bodyPost_ret (v := .tuple #[.bool false, .iface 285 (.pointer (some (E 2)))]) (by simp [results, Tryz.results45, go_sem]) rfl ⟨by rw [jc E (by omega : 1 ≤ 2)], HT.out, HM.out, ah.out⟩
end Go.Proofs.YtfojgfddgplinabGreatDoor
