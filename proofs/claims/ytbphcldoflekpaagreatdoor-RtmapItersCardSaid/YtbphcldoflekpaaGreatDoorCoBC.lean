/- A node's Put by its contracts. -/
import Derived.Test.YtbphcldoflekpaaGreatDoorCoBB
import Derived.Test.YtbphcldoflekpaaGreatDoorSqT
import Derived.Test.YtbphcldoflekpaaGreatDoorLaneP
namespace Go.Proofs.YtbphcldoflekpaaGreatDoor
set_option maxRecDepth 100000
set_option maxHeartbeats 8000000
open Go.RowKit dA
variable {W0 : World} {E : Nat → Addr}
theorem uq (nb tb db : Nat) (pfx au job : Int) (P : MP) (c : bC) (e : av) (more b0 : Bool) (er : Value) (Post : World → World → Prop) (w : World) (hnd : aj w nb 146 #[.int .i64 pfx, .int .i64 au, pQ tb, .int .i64 job, pQ db]) (HC : ∀ V, Below w.heap.size w V → Calls Tryz.prog 79 #[pQ db, aG (some ⟨P.mb, P.mo, none⟩) c, aM e, .bool more] V fun y V' => y = .returned (.tuple #[.bool b0, er]) ∧ Post V V') :
  Calls Tryz.prog 54 #[aK nb, aG (some ⟨P.mb, P.mo, none⟩) c, aM e, .bool more] w fun y w' => y = .returned (.tuple #[.bool b0, er]) ∧ ∃ V, Below w.heap.size w V ∧ Post V w' := by
 obtain ⟨W, hW, hB, hL, hE⟩ := jS w 115 #[.pointer (some ⟨P.mb, P.mo, none⟩), .int .i64 c.p, .int .i64 c.v, .int .i64 c.u] 38 #[nU e.key, nU e.val, nU e.hash]
 have hnl := hnd.lt
 have HW := qd hW
 have pX := qd hB
 have HC := qd (HC W.drew (hB.trans ((Below.refl _ _).drew.mono hB.size)))
 unfold aK
 unfold aG aM at HC ⊢
 have HN := qd (hnd.below hB hnd.lt)
 have HL := qd (hL)
 have HE := qd (hE)
 have ah := qd (Mod.of_below hB [])
 clear hW hB hnd hL hE
 go_in
 go_upto_region 1 with fail
 rw [← HW.out]
 have nc := HN.out.c5
 have lc := HL.out.c4
 have ec := HE.out.c3
 go_upto_region 2 with fail
 refine rT (fun (w' : World) => w'.cell? ⟨nb, 4, none⟩ = some (pQ db) ∧ w'.cell? ⟨w.heap.size, 0, none⟩ = some (.pointer (some ⟨P.mb, P.mo, none⟩)) ∧ w'.cell? ⟨w.heap.size, 1, none⟩ = some (.int .i64 c.p) ∧ w'.cell? ⟨w.heap.size, 2, none⟩ = some (.int .i64 c.v) ∧ w'.cell? ⟨w.heap.size, 3, none⟩ = some (.int .i64 c.u) ∧ w'.cell? ⟨w.heap.size + 1, 0, none⟩ = some (nU e.key) ∧ w'.cell? ⟨w.heap.size + 1, 1, none⟩ = some (nU e.val) ∧ w'.cell? ⟨w.heap.size + 1, 2, none⟩ = some (nU e.hash)) [7] ?_
 have hHeld := (⟨nc.2.2.2.2, lc.1, lc.2.1, lc.2.2.1, lc.2.2.2, ec.1, ec.2.1, ec.2.2⟩ : _ ∧ _ ∧ _ ∧ _ ∧ _ ∧ _ ∧ _ ∧ _)
 refine vW 0 rfl ?_
 refine vW 1 rfl ?_
 refine vW 2 rfl ?_
 refine vT 3 rfl ?_
 refine vT 4 rfl ?_
 refine vT 5 rfl ?_
 refine vW 6 rfl ?_
 refine nT 7 rfl fun K hK => ?_
 go_simp
 refine (HC.out).mono ?_
 rintro y w2 ⟨rfl, hpost⟩
 have qK := qd hpost
 clear hpost
 go_wp2_with fail
 refine kO hK ?_
 clear hK K
 refine vL 8 rfl ?_
 refine vL 9 rfl ?_
 refine vL 10 rfl ?_
 refine vL 11 rfl ?_
 refine aT (by kernel_rfl) ?_ _
 go_wp2
 refine bodyPost_ret (v := .tuple #[.bool b0, er]) (by simp [results, Tryz.results54, go_sem]) rfl ⟨rfl, W.drew, pX.out.trans ((Below.refl _ _).drew.mono pX.out.size), qK.out⟩
theorem Gf (nb tb gb : Nat) (pfx au job : Int) (T : aB) (P : MP) (x : bM) (c : bC) (e : av) (more : Bool) (w : World) (hnd : aj w nb 146 #[.int .i64 pfx, .int .i64 au, pQ tb, .int .i64 job, .pointer none]) (h : TabAt w tb gb T) (hP : Pw T.gs.length) (h64 : e.hash < 18446744073709551616) (hM : aN w P x) (wV : Env W0 E w) (hb0 : W0.heap.size ≤ P.mb) (hmt : P.mb ≠ tb) (gD : P.mb ≠ gb) (hmn : P.mb ≠ nb) (hnt : nb ≠ tb) (ZI : nb ≠ gb) (i s : Nat) (hsk : (aH T.gs e.key e.hash).1 = some (i, s)) (e0 : av) (he0 : aF T.gs i s = .full e0) :
  Calls Tryz.prog 54 #[aK nb, aG (some ⟨P.mb, P.mo, none⟩) c, aM e, .bool more] w fun y w' => y = .returned (.tuple #[.bool false, .nilIface]) ∧ TabAt w' tb gb (replaceM T i s e.val e0) ∧ aN w' P (x.add c (aH T.gs e.key e.hash).2.2) ∧ Mod [P.mb, tb, gb] w w' := by
 obtain ⟨W, hW, hB, hL, hE⟩ := jS w 115 #[.pointer (some ⟨P.mb, P.mo, none⟩), .int .i64 c.p, .int .i64 c.v, .int .i64 c.u] 38 #[nU e.key, nU e.val, nU e.hash]
 have hml := hM.lt
 have hnl := hnd.lt
 have htl := h.aQ
 have hgl := h.aR
 have hB0 := wV.size
 have HW := qd hW
 unfold aK aG aM
 obtain ⟨pV, um⟩ : ∃ s, s = (aH T.gs e.key e.hash).1 := ⟨_, rfl⟩
 obtain ⟨vJ, uo⟩ : ∃ s, s = (aH T.gs e.key e.hash).2.1 := ⟨_, rfl⟩
 have ig := qd um
 have HS2 := qd uo
 clear um uo
 obtain ⟨s1, hs1⟩ : ∃ s, s = bS pV := ⟨_, rfl⟩
 obtain ⟨s2, hs2⟩ : ∃ s, s = bS vJ := ⟨_, rfl⟩
 have HI1 := qd hs1
 have HI2 := qd hs2
 clear hs1 hs2
 obtain ⟨e1, he1, hk0, hil, hsl⟩ := sQ hsk
 have oG : s < 8 := by have := h.wide.at_ hil; omega
 have HN := qd (hnd.below hB hnd.lt)
 have HT := qd (h.below hB)
 have ay := qd (wV.next hB)
 have HM := qd (hM.below hB)
 have HL := qd (hL)
 have HE := qd (hE)
 have ah := qd (Mod.of_below hB [P.mb, tb, gb])
 clear hW hB hnd h hM wV hL hE he1
 go_in
 go_upto_region 1 with fail
 rw [← HW.out]
 have nc := HN.out.c5
 have lc := HL.out.c4
 have ec := HE.out.c3
 go_upto_region 3 with fail
 have q1 := qJ HN.out.lt (qJ HT.out.aQ (qJ HT.out.aR (qJ HM.out.lt (qJ HL.out.lt (qJ HE.out.lt ah.out.size)))))
 refine Ga (fun a' wz => ∃ sb ap fp, a' = { tmps := #[pQ nb, .agg #[.pointer (some ⟨P.mb, P.mo, none⟩), .int .i64 c.p, .int .i64 c.v, .int .i64 c.u], .agg #[nU e.key, nU e.val, nU e.hash], .bool more, undef, pQ w.heap.size, .pointer (some ⟨w.heap.size + 1, 0, none⟩), undef, .bool false, .nilIface, pQ sb, undef, undef, undef, pQ nb, pQ nb, .pointer (some ⟨nb, 4, none⟩), .pointer none, .bool false, undef, undef, undef, undef, undef, undef, undef, undef, undef, undef, pQ nb, pQ nb, .pointer (some ⟨nb, 2, none⟩), pQ tb, .agg #[.pointer (some ⟨P.mb, P.mo, none⟩), .int .i64 c.p, .int .i64 c.v, .int .i64 c.u], .pointer (some ⟨w.heap.size + 1, 0, none⟩), nU e.key, .pointer (some ⟨w.heap.size + 1, 2, none⟩), nU e.hash, .agg #[pQ tb, nU e.key, nU e.hash, .pointer ap, .int .i64 s1, .pointer fp, .int .i64 s2], undef, undef, undef, undef, undef, undef, undef, undef, undef, undef, undef, undef, undef, undef, undef, undef, undef, undef, undef], defers := [] } ∧ aj wz nb 146 #[.int .i64 pfx, .int .i64 au, pQ tb, .int .i64 job, .pointer none] ∧ TabAt wz tb gb T ∧ Env W0 E wz ∧ aj wz w.heap.size 115 #[.pointer (some ⟨P.mb, P.mo, none⟩), .int .i64 c.p, .int .i64 c.v, .int .i64 c.u] ∧ aj wz (w.heap.size + 1) 38 #[nU e.key, nU e.val, nU e.hash] ∧ aN wz P (x.add c (aH T.gs e.key e.hash).2.2) ∧ gW gb pV ap ∧ gW gb vJ fp ∧ aj wz sb 163 #[pQ tb, nU e.key, nU e.hash, .pointer ap, .int .i64 s1, .pointer fp, .int .i64 s2] ∧ W.heap.size ≤ sb ∧ Mod ([P.mb, tb, gb]) w wz) ?_ ?_
 ·refine rT (fun (w' : World) => w'.cell? ⟨nb, 2, none⟩ = some (pQ tb) ∧ w'.cell? ⟨w.heap.size, 0, none⟩ = some (.pointer (some ⟨P.mb, P.mo, none⟩)) ∧ w'.cell? ⟨w.heap.size, 1, none⟩ = some (.int .i64 c.p) ∧ w'.cell? ⟨w.heap.size, 2, none⟩ = some (.int .i64 c.v) ∧ w'.cell? ⟨w.heap.size, 3, none⟩ = some (.int .i64 c.u) ∧ w'.cell? ⟨w.heap.size + 1, 0, none⟩ = some (nU e.key) ∧ w'.cell? ⟨w.heap.size + 1, 2, none⟩ = some (nU e.hash)) [] ?_
  have hHeld := (⟨nc.2.2.1, lc.1, lc.2.1, lc.2.2.1, lc.2.2.2, ec.1, ec.2.2⟩ : _ ∧ _ ∧ _ ∧ _ ∧ _ ∧ _ ∧ _)
  refine vW 0 rfl ?_
  refine vW 1 rfl ?_
  refine vW 2 rfl ?_
  refine vT 3 rfl ?_
  refine vT 4 rfl ?_
  refine vW 5 rfl ?_
  refine vT 6 rfl ?_
  refine vW 7 rfl ?_
  refine vT 8 rfl ?_
  clear hHeld
  refine cO (F := fun v => Mod [] W v) (Mod.drewN [] W 1) ?_
  rintro v1 hm
  clear nc lc ec
  replace HN := qM hm HN
  replace HT := qM hm HT
  replace ay := qM hm ay
  replace HM := qM hm HM
  replace HL := qM hm HL
  replace HE := qM hm HE
  have z208 := (hm).size
  replace ah := qU ah hm
  clear hm
  refine pairT (i := 9) (j := 10) (o := ⟨some 38, _, _, _, _, _⟩) (o' := ⟨some 10, _, _, _, _, _⟩) rfl rfl (by kernel_rfl) (fun K hK => ?_) (fun K hK => ?_)
  focus
   have nc := HN.out.c5
   have lc := HL.out.c4
   have ec := HE.out.c3
   go_simp
   have aW := qd (jQ tb gb e.key e.hash T P x c v1 HT.out hP h64 HM.out (by omega) (by omega) ay.out hb0)
   rw [← ig.out, ← HS2.out, ← HI1.out, ← HI2.out] at aW
   unfold bK bN aG at aW
   refine (aW.out).mono ?_
   rintro y v2 ⟨ap, fp, rfl, hap, hfp, hM2, hm⟩
   clear aW HM nc lc ec
   replace HN := qM hm HN
   replace HT := qM hm HT
   replace ay := qM hm ay
   replace HL := qM hm HL
   replace HE := qM hm HE
   have Vh := (hm).size
   replace ah := qU ah hm
   clear hm
   have HM := qd (hM2)
   have HA := qd (hap)
   have HF := qd (hfp)
   have nc := HN.out.c5
   have lc := HL.out.c4
   have ec := HE.out.c3
   go_wp2_with fail
   refine kO hK ?_
   clear hK K
   refine nT 10 rfl fun K hK => ?_
   have nc := HN.out.c5
   have lc := HL.out.c4
   have ec := HE.out.c3
   go_simp
   have Vi := qJ HN.out.lt (qJ HT.out.aQ (qJ HT.out.aR (qJ HL.out.lt (qJ HE.out.lt (qJ HM.out.lt ah.out.size)))))
   refine bW 163 #[.pointer none, .int .u64 0, .int .u64 0, .pointer none, .int .i64 0, .pointer none, .int .i64 0] ?_
   rintro v3 ⟨hnew, hb⟩
   obtain ⟨sb, hsb⟩ : ∃ sb, sb = v2.heap.size := ⟨_, rfl⟩
   rw [← hsb] at hnew ⊢
   replace hsb : v2.heap.size ≤ sb := by omega
   clear nc lc ec
   replace HN := qB hb HN
   replace HT := qB hb HT
   replace ay := qB hb ay
   replace HL := qB hb HL
   replace HE := qB hb HE
   replace HM := qB hb HM
   have Vj := (hb).size
   replace ah := qT ah hb
   have HS := qd (hnew)
   clear hnew hb
   have nc := HN.out.c5
   have lc := HL.out.c4
   have ec := HE.out.c3
   refine kO hK ?_
   clear hK K
   refine nT 11 rfl fun K hK => ?_
   have nc := HN.out.c5
   have lc := HL.out.c4
   have ec := HE.out.c3
   have yc := HS.out.c7
   have yf := HS.out.f7
   go_simp
   have Vk := qJ HN.out.lt (qJ HT.out.aQ (qJ HT.out.aR (qJ HL.out.lt (qJ HE.out.lt (qJ HM.out.lt HS.out.lt)))))
   refine yC HS.out ?_
   rintro v4 ⟨hnew, hm⟩
   simp only [pt] at hnew
   clear nc lc ec yc yf
   replace HN := qM hm HN
   replace HT := qM hm HT
   replace ay := qM hm ay
   replace HL := qM hm HL
   replace HE := qM hm HE
   replace HM := qM hm HM
   have Vl := (hm).size
   replace ah := qU ah hm
   replace HS := qd hnew
   clear hnew hm
   have nc := HN.out.c5
   have lc := HL.out.c4
   have ec := HE.out.c3
   refine kO hK ?_
   clear hK K
   refine aT (by kernel_rfl) ?_ _
   have Vm := ah.out.size
  rotate_left
  focus
   have nc := HN.out.c5
   have lc := HL.out.c4
   have ec := HE.out.c3
   go_simp
   have Vn := qJ HN.out.lt (qJ HT.out.aQ (qJ HT.out.aR (qJ HM.out.lt (qJ HL.out.lt (qJ HE.out.lt ah.out.size)))))
   refine bW 163 #[.pointer none, .int .u64 0, .int .u64 0, .pointer none, .int .i64 0, .pointer none, .int .i64 0] ?_
   rintro v5 ⟨hnew, hb⟩
   obtain ⟨sb, hsb⟩ : ∃ sb, sb = v1.heap.size := ⟨_, rfl⟩
   rw [← hsb] at hnew ⊢
   replace hsb : v1.heap.size ≤ sb := by omega
   clear nc lc ec
   replace HN := qB hb HN
   replace HT := qB hb HT
   replace ay := qB hb ay
   replace HM := qB hb HM
   replace HL := qB hb HL
   replace HE := qB hb HE
   have Vo := (hb).size
   replace ah := qT ah hb
   have HS := qd (hnew)
   clear hnew hb
   have nc := HN.out.c5
   have lc := HL.out.c4
   have ec := HE.out.c3
   refine kO hK ?_
   clear hK K
   refine nT 9 rfl fun K hK => ?_
   have nc := HN.out.c5
   have lc := HL.out.c4
   have ec := HE.out.c3
   go_simp
   have aW := qd (jQ tb gb e.key e.hash T P x c v5 HT.out hP h64 HM.out (by omega) (by omega) ay.out hb0)
   rw [← ig.out, ← HS2.out, ← HI1.out, ← HI2.out] at aW
   unfold bK bN aG at aW
   refine (aW.out).mono ?_
   rintro y v6 ⟨ap, fp, rfl, hap, hfp, hM2, hm⟩
   clear aW HM nc lc ec
   replace HN := qM hm HN
   replace HT := qM hm HT
   replace ay := qM hm ay
   replace HL := qM hm HL
   replace HE := qM hm HE
   replace HS := qM hm HS
   have Vp := (hm).size
   replace ah := qU ah hm
   clear hm
   have HM := qd (hM2)
   have HA := qd (hap)
   have HF := qd (hfp)
   have nc := HN.out.c5
   have lc := HL.out.c4
   have ec := HE.out.c3
   go_wp2_with fail
   refine kO hK ?_
   clear hK K
   refine nT 11 rfl fun K hK => ?_
   have nc := HN.out.c5
   have lc := HL.out.c4
   have ec := HE.out.c3
   have yc := HS.out.c7
   have yf := HS.out.f7
   go_simp
   have Vq := qJ HN.out.lt (qJ HT.out.aQ (qJ HT.out.aR (qJ HL.out.lt (qJ HE.out.lt (qJ HS.out.lt HM.out.lt)))))
   refine yC HS.out ?_
   rintro v7 ⟨hnew, hm⟩
   simp only [pt] at hnew
   clear nc lc ec yc yf
   replace HN := qM hm HN
   replace HT := qM hm HT
   replace ay := qM hm ay
   replace HL := qM hm HL
   replace HE := qM hm HE
   replace HM := qM hm HM
   have PZ := (hm).size
   replace ah := qU ah hm
   replace HS := qd hnew
   clear hnew hm
   have nc := HN.out.c5
   have lc := HL.out.c4
   have ec := HE.out.c3
   refine kO hK ?_
   clear hK K
   refine aT (by kernel_rfl) ?_ _
   have KU := ah.out.size
  all_goals
   exact ⟨sb, ap, fp, rfl, HN.out, HT.out, ay.out, HL.out, HE.out, HM.out, HA.out, HF.out, HS.out, by omega, ah.out⟩
 clear nc lc ec HN HT ay HM HL HE ah
 rintro a' w2 ⟨sb, ap, fp, rfl, Ik, sZ, nL, tq, Il, tu, tC, tF, kI, E9, kJ⟩
 have HN := qd (Ik)
 have HT := qd (sZ)
 have ay := qd (nL)
 have HL := qd (tq)
 have HE := qd (Il)
 have HM := qd (tu)
 have HA := qd (tC)
 have HF := qd (tF)
 have HS := qd (kI)
 have ah := qd (kJ)
 clear Ik sZ nL tq Il tu tC tF kI kJ
 go_upto_region 4 with fail
 have sc := HS.out.c7
 have jo := qd (gG tb gb e.key e.hash T ap fp s2 (by rw [← ig.out]; exact HA.out) w2 HT.out)
 unfold gP at jo
 rw [← ig.out, ← HI1.out] at jo
 unfold bK eT aM at jo
 simp only [Option.isSome_map] at jo
 have hq := ig.out
 rw [hsk] at hq
 rw [hq] at jo HA HI1
 simp only [Option.map_some, he0, Option.getD_some, Option.isSome_some, Slot.ent] at jo
 clear hq
 go_wp2_with fail
 refine (jo.out).mono ?_
 rintro x w3 ⟨rfl, hb⟩
 clear sc
 replace HN := qB hb HN
 replace HT := qB hb HT
 replace ay := qB hb ay
 replace HL := qB hb HL
 replace HE := qB hb HE
 replace HM := qB hb HM
 replace HS := qB hb HS
 have z8 := (hb).size
 replace ah := qT ah hb
 clear hb jo
 go_upto_region 6 with fail
 have q9 := qJ HN.out.lt (qJ HT.out.aQ (qJ HT.out.aR (qJ HL.out.lt (qJ HE.out.lt (qJ HM.out.lt (qJ HS.out.lt ah.out.size))))))
 refine bW 38 #[nU e0.key, nU e0.val, nU e0.hash] ?_
 rintro w4 ⟨hnew, hb⟩
 replace HN := qB hb HN
 replace HT := qB hb HT
 replace ay := qB hb ay
 replace HL := qB hb HL
 replace HE := qB hb HE
 replace HM := qB hb HM
 replace HS := qB hb HS
 have z17 := (hb).size
 replace ah := qT ah hb
 have HD := qd (hnew)
 clear hnew hb
 have hi1 := HI1.out
 simp only [bS] at hi1
 subst hi1
 obtain rfl := HA.out i s rfl
 clear HA HF HI1 HI2 ig HS2
 have sc := HS.out.c7
 have ec := HE.out.c3
 have R5 := qd (AP tb e.key e.hash gb fp s2 T i s e.val hil oG e0 he0 w4 HT.out)
 unfold bK at R5
 clear HT ay
 go_wp2_with fail
 refine (R5.out).mono ?_
 rintro x w5 ⟨rfl, nH, hm⟩
 clear sc ec
 replace HN := qM hm HN
 replace HL := qM hm HL
 replace HE := qM hm HE
 replace HM := qM hm HM
 replace HS := qM hm HS
 replace HD := qM hm HD
 have z18 := (hm).size
 replace ah := qU ah hm
 clear hm
 have HT := qd (nH)
 clear nH
 go_wp2
 refine bodyPost_ret (v := .tuple #[.bool false, .nilIface]) (by simp [results, Tryz.results54, go_sem]) rfl ⟨rfl, HT.out, HM.out, ah.out⟩
theorem Lc (nb tb gb : Nat) (pfx au job : Int) (T : aB) (P : MP) (x : bM) (c : bC) (e : av) (w : World) (hnd : aj w nb 146 #[.int .i64 pfx, .int .i64 au, pQ tb, .int .i64 job, .pointer none]) (h : TabAt w tb gb T) (hP : Pw T.gs.length) (h64 : e.hash < 18446744073709551616) (hM : aN w P x) (wV : Env W0 E w) (hb0 : W0.heap.size ≤ P.mb) (hmt : P.mb ≠ tb) (gD : P.mb ≠ gb) (hmn : P.mb ≠ nb) (hnt : nb ≠ tb) (ZI : nb ≠ gb) (hsk : (aH T.gs e.key e.hash).1 = none) (i s : Nat) (hfr : (aH T.gs e.key e.hash).2.1 = some (i, s)) (R4 : Small T) (hroom : T.live + T.bR + 1 ≤ 7 * (T.gs.length : Int)) :
  Calls Tryz.prog 54 #[aK nb, aG (some ⟨P.mb, P.mo, none⟩) c, aM e, .bool true] w fun y w' => y = .returned (.tuple #[.bool true, .nilIface]) ∧ TabAt w' tb gb (jm T i s e) ∧ aN w' P (x.add c (aH T.gs e.key e.hash).2.2) ∧ Mod [P.mb, tb, gb] w w' := by
 obtain ⟨W, hW, hB, hL, hE⟩ := jS w 115 #[.pointer (some ⟨P.mb, P.mo, none⟩), .int .i64 c.p, .int .i64 c.v, .int .i64 c.u] 38 #[nU e.key, nU e.val, nU e.hash]
 have hml := hM.lt
 have hnl := hnd.lt
 have htl := h.aQ
 have hgl := h.aR
 have hB0 := wV.size
 have HW := qd hW
 unfold aK aG aM
 obtain ⟨pV, um⟩ : ∃ s, s = (aH T.gs e.key e.hash).1 := ⟨_, rfl⟩
 obtain ⟨vJ, uo⟩ : ∃ s, s = (aH T.gs e.key e.hash).2.1 := ⟨_, rfl⟩
 have ig := qd um
 have HS2 := qd uo
 clear um uo
 obtain ⟨s1, hs1⟩ : ∃ s, s = bS pV := ⟨_, rfl⟩
 obtain ⟨s2, hs2⟩ : ∃ s, s = bS vJ := ⟨_, rfl⟩
 have HI1 := qd hs1
 have HI2 := qd hs2
 clear hs1 hs2
 have AY := xQ T.gs hP.pos e.key e.hash i s hfr
 have oG : s < 8 := by have := h.wide.at_ (i := i) AY.1; omega
 have HN := qd (hnd.below hB hnd.lt)
 have HT := qd (h.below hB)
 have ay := qd (wV.next hB)
 have HM := qd (hM.below hB)
 have HL := qd (hL)
 have HE := qd (hE)
 have ah := qd (Mod.of_below hB [P.mb, tb, gb])
 clear hW hB hnd h hM wV hL hE
 go_in
 go_upto_region 1 with fail
 rw [← HW.out]
 have nc := HN.out.c5
 have lc := HL.out.c4
 have ec := HE.out.c3
 go_upto_region 3 with fail
 have q1 := qJ HN.out.lt (qJ HT.out.aQ (qJ HT.out.aR (qJ HM.out.lt (qJ HL.out.lt (qJ HE.out.lt ah.out.size)))))
 refine Ga (fun a' wz => ∃ sb ap fp, a' = { tmps := #[pQ nb, .agg #[.pointer (some ⟨P.mb, P.mo, none⟩), .int .i64 c.p, .int .i64 c.v, .int .i64 c.u], .agg #[nU e.key, nU e.val, nU e.hash], .bool true, undef, pQ w.heap.size, .pointer (some ⟨w.heap.size + 1, 0, none⟩), undef, .bool false, .nilIface, pQ sb, undef, undef, undef, pQ nb, pQ nb, .pointer (some ⟨nb, 4, none⟩), .pointer none, .bool false, undef, undef, undef, undef, undef, undef, undef, undef, undef, undef, pQ nb, pQ nb, .pointer (some ⟨nb, 2, none⟩), pQ tb, .agg #[.pointer (some ⟨P.mb, P.mo, none⟩), .int .i64 c.p, .int .i64 c.v, .int .i64 c.u], .pointer (some ⟨w.heap.size + 1, 0, none⟩), nU e.key, .pointer (some ⟨w.heap.size + 1, 2, none⟩), nU e.hash, .agg #[pQ tb, nU e.key, nU e.hash, .pointer ap, .int .i64 s1, .pointer fp, .int .i64 s2], undef, undef, undef, undef, undef, undef, undef, undef, undef, undef, undef, undef, undef, undef, undef, undef, undef, undef, undef], defers := [] } ∧ aj wz nb 146 #[.int .i64 pfx, .int .i64 au, pQ tb, .int .i64 job, .pointer none] ∧ TabAt wz tb gb T ∧ Env W0 E wz ∧ aj wz w.heap.size 115 #[.pointer (some ⟨P.mb, P.mo, none⟩), .int .i64 c.p, .int .i64 c.v, .int .i64 c.u] ∧ aj wz (w.heap.size + 1) 38 #[nU e.key, nU e.val, nU e.hash] ∧ aN wz P (x.add c (aH T.gs e.key e.hash).2.2) ∧ gW gb pV ap ∧ gW gb vJ fp ∧ aj wz sb 163 #[pQ tb, nU e.key, nU e.hash, .pointer ap, .int .i64 s1, .pointer fp, .int .i64 s2] ∧ W.heap.size ≤ sb ∧ Mod ([P.mb, tb, gb]) w wz) ?_ ?_
 ·refine rT (fun (w' : World) => w'.cell? ⟨nb, 2, none⟩ = some (pQ tb) ∧ w'.cell? ⟨w.heap.size, 0, none⟩ = some (.pointer (some ⟨P.mb, P.mo, none⟩)) ∧ w'.cell? ⟨w.heap.size, 1, none⟩ = some (.int .i64 c.p) ∧ w'.cell? ⟨w.heap.size, 2, none⟩ = some (.int .i64 c.v) ∧ w'.cell? ⟨w.heap.size, 3, none⟩ = some (.int .i64 c.u) ∧ w'.cell? ⟨w.heap.size + 1, 0, none⟩ = some (nU e.key) ∧ w'.cell? ⟨w.heap.size + 1, 2, none⟩ = some (nU e.hash)) [] ?_
  have hHeld := (⟨nc.2.2.1, lc.1, lc.2.1, lc.2.2.1, lc.2.2.2, ec.1, ec.2.2⟩ : _ ∧ _ ∧ _ ∧ _ ∧ _ ∧ _ ∧ _)
  refine vW 0 rfl ?_
  refine vW 1 rfl ?_
  refine vW 2 rfl ?_
  refine vT 3 rfl ?_
  refine vT 4 rfl ?_
  refine vW 5 rfl ?_
  refine vT 6 rfl ?_
  refine vW 7 rfl ?_
  refine vT 8 rfl ?_
  clear hHeld
  refine cO (F := fun v => Mod [] W v) (Mod.drewN [] W 1) ?_
  rintro v1 hm
  clear nc lc ec
  replace HN := qM hm HN
  replace HT := qM hm HT
  replace ay := qM hm ay
  replace HM := qM hm HM
  replace HL := qM hm HL
  replace HE := qM hm HE
  have z208 := (hm).size
  replace ah := qU ah hm
  clear hm
  refine pairT (i := 9) (j := 10) (o := ⟨some 38, _, _, _, _, _⟩) (o' := ⟨some 10, _, _, _, _, _⟩) rfl rfl (by kernel_rfl) (fun K hK => ?_) (fun K hK => ?_)
  focus
   have nc := HN.out.c5
   have lc := HL.out.c4
   have ec := HE.out.c3
   go_simp
   have aW := qd (jQ tb gb e.key e.hash T P x c v1 HT.out hP h64 HM.out (by omega) (by omega) ay.out hb0)
   rw [← ig.out, ← HS2.out, ← HI1.out, ← HI2.out] at aW
   unfold bK bN aG at aW
   refine (aW.out).mono ?_
   rintro y v2 ⟨ap, fp, rfl, hap, hfp, hM2, hm⟩
   clear aW HM nc lc ec
   replace HN := qM hm HN
   replace HT := qM hm HT
   replace ay := qM hm ay
   replace HL := qM hm HL
   replace HE := qM hm HE
   have Vh := (hm).size
   replace ah := qU ah hm
   clear hm
   have HM := qd (hM2)
   have HA := qd (hap)
   have HF := qd (hfp)
   have nc := HN.out.c5
   have lc := HL.out.c4
   have ec := HE.out.c3
   go_wp2_with fail
   refine kO hK ?_
   clear hK K
   refine nT 10 rfl fun K hK => ?_
   have nc := HN.out.c5
   have lc := HL.out.c4
   have ec := HE.out.c3
   go_simp
   have Vi := qJ HN.out.lt (qJ HT.out.aQ (qJ HT.out.aR (qJ HL.out.lt (qJ HE.out.lt (qJ HM.out.lt ah.out.size)))))
   refine bW 163 #[.pointer none, .int .u64 0, .int .u64 0, .pointer none, .int .i64 0, .pointer none, .int .i64 0] ?_
   rintro v3 ⟨hnew, hb⟩
   obtain ⟨sb, hsb⟩ : ∃ sb, sb = v2.heap.size := ⟨_, rfl⟩
   rw [← hsb] at hnew ⊢
   replace hsb : v2.heap.size ≤ sb := by omega
   clear nc lc ec
   replace HN := qB hb HN
   replace HT := qB hb HT
   replace ay := qB hb ay
   replace HL := qB hb HL
   replace HE := qB hb HE
   replace HM := qB hb HM
   have Vj := (hb).size
   replace ah := qT ah hb
   have HS := qd (hnew)
   clear hnew hb
   have nc := HN.out.c5
   have lc := HL.out.c4
   have ec := HE.out.c3
   refine kO hK ?_
   clear hK K
   refine nT 11 rfl fun K hK => ?_
   have nc := HN.out.c5
   have lc := HL.out.c4
   have ec := HE.out.c3
   have yc := HS.out.c7
   have yf := HS.out.f7
   go_simp
   have Vk := qJ HN.out.lt (qJ HT.out.aQ (qJ HT.out.aR (qJ HL.out.lt (qJ HE.out.lt (qJ HM.out.lt HS.out.lt)))))
   refine yC HS.out ?_
   rintro v4 ⟨hnew, hm⟩
   simp only [pt] at hnew
   clear nc lc ec yc yf
   replace HN := qM hm HN
   replace HT := qM hm HT
   replace ay := qM hm ay
   replace HL := qM hm HL
   replace HE := qM hm HE
   replace HM := qM hm HM
   have Vl := (hm).size
   replace ah := qU ah hm
   replace HS := qd hnew
   clear hnew hm
   have nc := HN.out.c5
   have lc := HL.out.c4
   have ec := HE.out.c3
   refine kO hK ?_
   clear hK K
   refine aT (by kernel_rfl) ?_ _
   have Vm := ah.out.size
  rotate_left
  focus
   have nc := HN.out.c5
   have lc := HL.out.c4
   have ec := HE.out.c3
   go_simp
   have Vn := qJ HN.out.lt (qJ HT.out.aQ (qJ HT.out.aR (qJ HM.out.lt (qJ HL.out.lt (qJ HE.out.lt ah.out.size)))))
   refine bW 163 #[.pointer none, .int .u64 0, .int .u64 0, .pointer none, .int .i64 0, .pointer none, .int .i64 0] ?_
   rintro v5 ⟨hnew, hb⟩
   obtain ⟨sb, hsb⟩ : ∃ sb, sb = v1.heap.size := ⟨_, rfl⟩
   rw [← hsb] at hnew ⊢
   replace hsb : v1.heap.size ≤ sb := by omega
   clear nc lc ec
   replace HN := qB hb HN
   replace HT := qB hb HT
   replace ay := qB hb ay
   replace HM := qB hb HM
   replace HL := qB hb HL
   replace HE := qB hb HE
   have Vo := (hb).size
   replace ah := qT ah hb
   have HS := qd (hnew)
   clear hnew hb
   have nc := HN.out.c5
   have lc := HL.out.c4
   have ec := HE.out.c3
   refine kO hK ?_
   clear hK K
   refine nT 9 rfl fun K hK => ?_
   have nc := HN.out.c5
   have lc := HL.out.c4
   have ec := HE.out.c3
   go_simp
   have aW := qd (jQ tb gb e.key e.hash T P x c v5 HT.out hP h64 HM.out (by omega) (by omega) ay.out hb0)
   rw [← ig.out, ← HS2.out, ← HI1.out, ← HI2.out] at aW
   unfold bK bN aG at aW
   refine (aW.out).mono ?_
   rintro y v6 ⟨ap, fp, rfl, hap, hfp, hM2, hm⟩
   clear aW HM nc lc ec
   replace HN := qM hm HN
   replace HT := qM hm HT
   replace ay := qM hm ay
   replace HL := qM hm HL
   replace HE := qM hm HE
   replace HS := qM hm HS
   have Vp := (hm).size
   replace ah := qU ah hm
   clear hm
   have HM := qd (hM2)
   have HA := qd (hap)
   have HF := qd (hfp)
   have nc := HN.out.c5
   have lc := HL.out.c4
   have ec := HE.out.c3
   go_wp2_with fail
   refine kO hK ?_
   clear hK K
   refine nT 11 rfl fun K hK => ?_
   have nc := HN.out.c5
   have lc := HL.out.c4
   have ec := HE.out.c3
   have yc := HS.out.c7
   have yf := HS.out.f7
   go_simp
   have Vq := qJ HN.out.lt (qJ HT.out.aQ (qJ HT.out.aR (qJ HL.out.lt (qJ HE.out.lt (qJ HS.out.lt HM.out.lt)))))
   refine yC HS.out ?_
   rintro v7 ⟨hnew, hm⟩
   simp only [pt] at hnew
   clear nc lc ec yc yf
   replace HN := qM hm HN
   replace HT := qM hm HT
   replace ay := qM hm ay
   replace HL := qM hm HL
   replace HE := qM hm HE
   replace HM := qM hm HM
   have PZ := (hm).size
   replace ah := qU ah hm
   replace HS := qd hnew
   clear hnew hm
   have nc := HN.out.c5
   have lc := HL.out.c4
   have ec := HE.out.c3
   refine kO hK ?_
   clear hK K
   refine aT (by kernel_rfl) ?_ _
   have KU := ah.out.size
  all_goals
   exact ⟨sb, ap, fp, rfl, HN.out, HT.out, ay.out, HL.out, HE.out, HM.out, HA.out, HF.out, HS.out, by omega, ah.out⟩
 clear nc lc ec HN HT ay HM HL HE ah
 rintro a' w2 ⟨sb, ap, fp, rfl, Ik, sZ, nL, tq, Il, tu, tC, tF, kI, E9, kJ⟩
 have HN := qd (Ik)
 have HT := qd (sZ)
 have ay := qd (nL)
 have HL := qd (tq)
 have HE := qd (Il)
 have HM := qd (tu)
 have HA := qd (tC)
 have HF := qd (tF)
 have HS := qd (kI)
 have ah := qd (kJ)
 clear Ik sZ nL tq Il tu tC tF kI kJ
 go_upto_region 4 with fail
 have sc := HS.out.c7
 have jo := qd (gG tb gb e.key e.hash T ap fp s2 (by rw [← ig.out]; exact HA.out) w2 HT.out)
 unfold gP at jo
 rw [← ig.out, ← HI1.out] at jo
 unfold bK eT aM at jo
 simp only [Option.isSome_map] at jo
 have hq := ig.out
 rw [hsk] at hq
 rw [hq] at jo HA HI1
 simp only [Option.map_none, Option.getD_none, Option.isSome_none] at jo
 clear hq
 go_wp2_with fail
 refine (jo.out).mono ?_
 rintro x w3 ⟨rfl, hb⟩
 clear sc
 replace HN := qB hb HN
 replace HT := qB hb HT
 replace ay := qB hb ay
 replace HL := qB hb HL
 replace HE := qB hb HE
 replace HM := qB hb HM
 replace HS := qB hb HS
 have z8 := (hb).size
 replace ah := qT ah hb
 clear hb jo
 go_upto_region 9 with fail
 have q9 := qJ HN.out.lt (qJ HT.out.aQ (qJ HT.out.aR (qJ HL.out.lt (qJ HE.out.lt (qJ HM.out.lt (qJ HS.out.lt ah.out.size))))))
 refine bW 38 #[.int .u64 0, .int .u64 0, .int .u64 0] ?_
 rintro w4 ⟨hnew, hb⟩
 replace HN := qB hb HN
 replace HT := qB hb HT
 replace ay := qB hb ay
 replace HL := qB hb HL
 replace HE := qB hb HE
 replace HM := qB hb HM
 replace HS := qB hb HS
 have z17 := (hb).size
 replace ah := qT ah hb
 have HD := qd (hnew)
 clear hnew hb
 have hi1 := HI1.out
 simp only [bS] at hi1
 subst hi1
 have hq2 := HS2.out
 rw [hfr] at hq2
 rw [hq2] at HF HI2
 have hi2 := HI2.out
 simp only [bS] at hi2
 subst hi2
 obtain rfl := HF.out i s rfl
 clear HA HF HI1 HI2 ig HS2
 have sc := HS.out.c7
 have ec := HE.out.c3
 have iX := qd (zw tb gb ap T i s e AY.1 oG h64 AY.2.2 R4 hroom w4 HT.out)
 unfold bK aM at iX
 clear HT ay
 go_wp2_with fail
 refine (iX.out).mono ?_
 rintro x w5 ⟨rfl, nH, hm⟩
 clear sc ec
 replace HN := qM hm HN
 replace HL := qM hm HL
 replace HE := qM hm HE
 replace HM := qM hm HM
 replace HS := qM hm HS
 replace HD := qM hm HD
 have z18 := (hm).size
 replace ah := qU ah hm
 clear hm
 have HT := qd (nH)
 clear nH
 go_wp2
 refine bodyPost_ret (v := .tuple #[.bool true, .nilIface]) (by simp [results, Tryz.results54, go_sem]) rfl ⟨rfl, HT.out, HM.out, ah.out⟩
theorem JC (nb tb gb : Nat) (pfx au job : Int) (T : aB) (P : MP) (x : bM) (c : bC) (e : av) (w : World) (hnd : aj w nb 146 #[.int .i64 pfx, .int .i64 au, pQ tb, .int .i64 job, .pointer none]) (h : TabAt w tb gb T) (hP : Pw T.gs.length) (h64 : e.hash < 18446744073709551616) (hM : aN w P x) (wV : Env W0 E w) (hb0 : W0.heap.size ≤ P.mb) (hmt : P.mb ≠ tb) (gD : P.mb ≠ gb) (hmn : P.mb ≠ nb) (hnt : nb ≠ tb) (ZI : nb ≠ gb) (hsk : (aH T.gs e.key e.hash).1 = none) :
  Calls Tryz.prog 54 #[aK nb, aG (some ⟨P.mb, P.mo, none⟩) c, aM e, .bool false] w fun y w' => y = .returned (.tuple #[.bool false, kT E 2]) ∧ TabAt w' tb gb (T) ∧ aN w' P (x.add c (aH T.gs e.key e.hash).2.2) ∧ Mod [P.mb] w w' := by
 obtain ⟨W, hW, hB, hL, hE⟩ := jS w 115 #[.pointer (some ⟨P.mb, P.mo, none⟩), .int .i64 c.p, .int .i64 c.v, .int .i64 c.u] 38 #[nU e.key, nU e.val, nU e.hash]
 have hml := hM.lt
 have hnl := hnd.lt
 have htl := h.aQ
 have hgl := h.aR
 have hB0 := wV.size
 have HW := qd hW
 unfold aK aG aM
 obtain ⟨pV, um⟩ : ∃ s, s = (aH T.gs e.key e.hash).1 := ⟨_, rfl⟩
 obtain ⟨vJ, uo⟩ : ∃ s, s = (aH T.gs e.key e.hash).2.1 := ⟨_, rfl⟩
 have ig := qd um
 have HS2 := qd uo
 clear um uo
 obtain ⟨s1, hs1⟩ : ∃ s, s = bS pV := ⟨_, rfl⟩
 obtain ⟨s2, hs2⟩ : ∃ s, s = bS vJ := ⟨_, rfl⟩
 have HI1 := qd hs1
 have HI2 := qd hs2
 clear hs1 hs2
 have HN := qd (hnd.below hB hnd.lt)
 have HT := qd (h.below hB)
 have ay := qd (wV.next hB)
 have HM := qd (hM.below hB)
 have HL := qd (hL)
 have HE := qd (hE)
 have ah := qd (Mod.of_below hB [P.mb])
 clear hW hB hnd h hM wV hL hE
 go_in
 go_upto_region 1 with fail
 rw [← HW.out]
 have nc := HN.out.c5
 have lc := HL.out.c4
 have ec := HE.out.c3
 go_upto_region 3 with fail
 have q1 := qJ HN.out.lt (qJ HT.out.aQ (qJ HT.out.aR (qJ HM.out.lt (qJ HL.out.lt (qJ HE.out.lt ah.out.size)))))
 refine Ga (fun a' wz => ∃ sb ap fp, a' = { tmps := #[pQ nb, .agg #[.pointer (some ⟨P.mb, P.mo, none⟩), .int .i64 c.p, .int .i64 c.v, .int .i64 c.u], .agg #[nU e.key, nU e.val, nU e.hash], .bool false, undef, pQ w.heap.size, .pointer (some ⟨w.heap.size + 1, 0, none⟩), undef, .bool false, .nilIface, pQ sb, undef, undef, undef, pQ nb, pQ nb, .pointer (some ⟨nb, 4, none⟩), .pointer none, .bool false, undef, undef, undef, undef, undef, undef, undef, undef, undef, undef, pQ nb, pQ nb, .pointer (some ⟨nb, 2, none⟩), pQ tb, .agg #[.pointer (some ⟨P.mb, P.mo, none⟩), .int .i64 c.p, .int .i64 c.v, .int .i64 c.u], .pointer (some ⟨w.heap.size + 1, 0, none⟩), nU e.key, .pointer (some ⟨w.heap.size + 1, 2, none⟩), nU e.hash, .agg #[pQ tb, nU e.key, nU e.hash, .pointer ap, .int .i64 s1, .pointer fp, .int .i64 s2], undef, undef, undef, undef, undef, undef, undef, undef, undef, undef, undef, undef, undef, undef, undef, undef, undef, undef, undef], defers := [] } ∧ aj wz nb 146 #[.int .i64 pfx, .int .i64 au, pQ tb, .int .i64 job, .pointer none] ∧ TabAt wz tb gb T ∧ Env W0 E wz ∧ aj wz w.heap.size 115 #[.pointer (some ⟨P.mb, P.mo, none⟩), .int .i64 c.p, .int .i64 c.v, .int .i64 c.u] ∧ aj wz (w.heap.size + 1) 38 #[nU e.key, nU e.val, nU e.hash] ∧ aN wz P (x.add c (aH T.gs e.key e.hash).2.2) ∧ gW gb pV ap ∧ gW gb vJ fp ∧ aj wz sb 163 #[pQ tb, nU e.key, nU e.hash, .pointer ap, .int .i64 s1, .pointer fp, .int .i64 s2] ∧ W.heap.size ≤ sb ∧ Mod ([P.mb]) w wz) ?_ ?_
 ·refine rT (fun (w' : World) => w'.cell? ⟨nb, 2, none⟩ = some (pQ tb) ∧ w'.cell? ⟨w.heap.size, 0, none⟩ = some (.pointer (some ⟨P.mb, P.mo, none⟩)) ∧ w'.cell? ⟨w.heap.size, 1, none⟩ = some (.int .i64 c.p) ∧ w'.cell? ⟨w.heap.size, 2, none⟩ = some (.int .i64 c.v) ∧ w'.cell? ⟨w.heap.size, 3, none⟩ = some (.int .i64 c.u) ∧ w'.cell? ⟨w.heap.size + 1, 0, none⟩ = some (nU e.key) ∧ w'.cell? ⟨w.heap.size + 1, 2, none⟩ = some (nU e.hash)) [] ?_
  have hHeld := (⟨nc.2.2.1, lc.1, lc.2.1, lc.2.2.1, lc.2.2.2, ec.1, ec.2.2⟩ : _ ∧ _ ∧ _ ∧ _ ∧ _ ∧ _ ∧ _)
  refine vW 0 rfl ?_
  refine vW 1 rfl ?_
  refine vW 2 rfl ?_
  refine vT 3 rfl ?_
  refine vT 4 rfl ?_
  refine vW 5 rfl ?_
  refine vT 6 rfl ?_
  refine vW 7 rfl ?_
  refine vT 8 rfl ?_
  clear hHeld
  refine cO (F := fun v => Mod [] W v) (Mod.drewN [] W 1) ?_
  rintro v1 hm
  clear nc lc ec
  replace HN := qM hm HN
  replace HT := qM hm HT
  replace ay := qM hm ay
  replace HM := qM hm HM
  replace HL := qM hm HL
  replace HE := qM hm HE
  have z208 := (hm).size
  replace ah := qU ah hm
  clear hm
  refine pairT (i := 9) (j := 10) (o := ⟨some 38, _, _, _, _, _⟩) (o' := ⟨some 10, _, _, _, _, _⟩) rfl rfl (by kernel_rfl) (fun K hK => ?_) (fun K hK => ?_)
  focus
   have nc := HN.out.c5
   have lc := HL.out.c4
   have ec := HE.out.c3
   go_simp
   have aW := qd (jQ tb gb e.key e.hash T P x c v1 HT.out hP h64 HM.out (by omega) (by omega) ay.out hb0)
   rw [← ig.out, ← HS2.out, ← HI1.out, ← HI2.out] at aW
   unfold bK bN aG at aW
   refine (aW.out).mono ?_
   rintro y v2 ⟨ap, fp, rfl, hap, hfp, hM2, hm⟩
   clear aW HM nc lc ec
   replace HN := qM hm HN
   replace HT := qM hm HT
   replace ay := qM hm ay
   replace HL := qM hm HL
   replace HE := qM hm HE
   have Vh := (hm).size
   replace ah := qU ah hm
   clear hm
   have HM := qd (hM2)
   have HA := qd (hap)
   have HF := qd (hfp)
   have nc := HN.out.c5
   have lc := HL.out.c4
   have ec := HE.out.c3
   go_wp2_with fail
   refine kO hK ?_
   clear hK K
   refine nT 10 rfl fun K hK => ?_
   have nc := HN.out.c5
   have lc := HL.out.c4
   have ec := HE.out.c3
   go_simp
   have Vi := qJ HN.out.lt (qJ HT.out.aQ (qJ HT.out.aR (qJ HL.out.lt (qJ HE.out.lt (qJ HM.out.lt ah.out.size)))))
   refine bW 163 #[.pointer none, .int .u64 0, .int .u64 0, .pointer none, .int .i64 0, .pointer none, .int .i64 0] ?_
   rintro v3 ⟨hnew, hb⟩
   obtain ⟨sb, hsb⟩ : ∃ sb, sb = v2.heap.size := ⟨_, rfl⟩
   rw [← hsb] at hnew ⊢
   replace hsb : v2.heap.size ≤ sb := by omega
   clear nc lc ec
   replace HN := qB hb HN
   replace HT := qB hb HT
   replace ay := qB hb ay
   replace HL := qB hb HL
   replace HE := qB hb HE
   replace HM := qB hb HM
   have Vj := (hb).size
   replace ah := qT ah hb
   have HS := qd (hnew)
   clear hnew hb
   have nc := HN.out.c5
   have lc := HL.out.c4
   have ec := HE.out.c3
   refine kO hK ?_
   clear hK K
   refine nT 11 rfl fun K hK => ?_
   have nc := HN.out.c5
   have lc := HL.out.c4
   have ec := HE.out.c3
   have yc := HS.out.c7
   have yf := HS.out.f7
   go_simp
   have Vk := qJ HN.out.lt (qJ HT.out.aQ (qJ HT.out.aR (qJ HL.out.lt (qJ HE.out.lt (qJ HM.out.lt HS.out.lt)))))
   refine yC HS.out ?_
   rintro v4 ⟨hnew, hm⟩
   simp only [pt] at hnew
   clear nc lc ec yc yf
   replace HN := qM hm HN
   replace HT := qM hm HT
   replace ay := qM hm ay
   replace HL := qM hm HL
   replace HE := qM hm HE
   replace HM := qM hm HM
   have Vl := (hm).size
   replace ah := qU ah hm
   replace HS := qd hnew
   clear hnew hm
   have nc := HN.out.c5
   have lc := HL.out.c4
   have ec := HE.out.c3
   refine kO hK ?_
   clear hK K
   refine aT (by kernel_rfl) ?_ _
   have Vm := ah.out.size
  rotate_left
  focus
   have nc := HN.out.c5
   have lc := HL.out.c4
   have ec := HE.out.c3
   go_simp
   have Vn := qJ HN.out.lt (qJ HT.out.aQ (qJ HT.out.aR (qJ HM.out.lt (qJ HL.out.lt (qJ HE.out.lt ah.out.size)))))
   refine bW 163 #[.pointer none, .int .u64 0, .int .u64 0, .pointer none, .int .i64 0, .pointer none, .int .i64 0] ?_
   rintro v5 ⟨hnew, hb⟩
   obtain ⟨sb, hsb⟩ : ∃ sb, sb = v1.heap.size := ⟨_, rfl⟩
   rw [← hsb] at hnew ⊢
   replace hsb : v1.heap.size ≤ sb := by omega
   clear nc lc ec
   replace HN := qB hb HN
   replace HT := qB hb HT
   replace ay := qB hb ay
   replace HM := qB hb HM
   replace HL := qB hb HL
   replace HE := qB hb HE
   have Vo := (hb).size
   replace ah := qT ah hb
   have HS := qd (hnew)
   clear hnew hb
   have nc := HN.out.c5
   have lc := HL.out.c4
   have ec := HE.out.c3
   refine kO hK ?_
   clear hK K
   refine nT 9 rfl fun K hK => ?_
   have nc := HN.out.c5
   have lc := HL.out.c4
   have ec := HE.out.c3
   go_simp
   have aW := qd (jQ tb gb e.key e.hash T P x c v5 HT.out hP h64 HM.out (by omega) (by omega) ay.out hb0)
   rw [← ig.out, ← HS2.out, ← HI1.out, ← HI2.out] at aW
   unfold bK bN aG at aW
   refine (aW.out).mono ?_
   rintro y v6 ⟨ap, fp, rfl, hap, hfp, hM2, hm⟩
   clear aW HM nc lc ec
   replace HN := qM hm HN
   replace HT := qM hm HT
   replace ay := qM hm ay
   replace HL := qM hm HL
   replace HE := qM hm HE
   replace HS := qM hm HS
   have Vp := (hm).size
   replace ah := qU ah hm
   clear hm
   have HM := qd (hM2)
   have HA := qd (hap)
   have HF := qd (hfp)
   have nc := HN.out.c5
   have lc := HL.out.c4
   have ec := HE.out.c3
   go_wp2_with fail
   refine kO hK ?_
   clear hK K
   refine nT 11 rfl fun K hK => ?_
   have nc := HN.out.c5
   have lc := HL.out.c4
   have ec := HE.out.c3
   have yc := HS.out.c7
   have yf := HS.out.f7
   go_simp
   have Vq := qJ HN.out.lt (qJ HT.out.aQ (qJ HT.out.aR (qJ HL.out.lt (qJ HE.out.lt (qJ HS.out.lt HM.out.lt)))))
   refine yC HS.out ?_
   rintro v7 ⟨hnew, hm⟩
   simp only [pt] at hnew
   clear nc lc ec yc yf
   replace HN := qM hm HN
   replace HT := qM hm HT
   replace ay := qM hm ay
   replace HL := qM hm HL
   replace HE := qM hm HE
   replace HM := qM hm HM
   have PZ := (hm).size
   replace ah := qU ah hm
   replace HS := qd hnew
   clear hnew hm
   have nc := HN.out.c5
   have lc := HL.out.c4
   have ec := HE.out.c3
   refine kO hK ?_
   clear hK K
   refine aT (by kernel_rfl) ?_ _
   have KU := ah.out.size
  all_goals
   exact ⟨sb, ap, fp, rfl, HN.out, HT.out, ay.out, HL.out, HE.out, HM.out, HA.out, HF.out, HS.out, by omega, ah.out⟩
 clear nc lc ec HN HT ay HM HL HE ah
 rintro a' w2 ⟨sb, ap, fp, rfl, Ik, sZ, nL, tq, Il, tu, tC, tF, kI, E9, kJ⟩
 have HN := qd (Ik)
 have HT := qd (sZ)
 have ay := qd (nL)
 have HL := qd (tq)
 have HE := qd (Il)
 have HM := qd (tu)
 have HA := qd (tC)
 have HF := qd (tF)
 have HS := qd (kI)
 have ah := qd (kJ)
 clear Ik sZ nL tq Il tu tC tF kI kJ
 go_upto_region 4 with fail
 have sc := HS.out.c7
 have jo := qd (gG tb gb e.key e.hash T ap fp s2 (by rw [← ig.out]; exact HA.out) w2 HT.out)
 unfold gP at jo
 rw [← ig.out, ← HI1.out] at jo
 unfold bK eT aM at jo
 simp only [Option.isSome_map] at jo
 have hq := ig.out
 rw [hsk] at hq
 rw [hq] at jo HA HI1
 simp only [Option.map_none, Option.getD_none, Option.isSome_none] at jo
 clear hq
 go_wp2_with fail
 refine (jo.out).mono ?_
 rintro x w3 ⟨rfl, hb⟩
 clear sc
 replace HN := qB hb HN
 replace HT := qB hb HT
 replace ay := qB hb ay
 replace HL := qB hb HL
 replace HE := qB hb HE
 replace HM := qB hb HM
 replace HS := qB hb HS
 have z8 := (hb).size
 replace ah := qT ah hb
 clear hb jo
 go_upto_region 8 with fail
 have q9 := qJ HN.out.lt (qJ HT.out.aQ (qJ HT.out.aR (qJ HL.out.lt (qJ HE.out.lt (qJ HM.out.lt (qJ HS.out.lt ah.out.size))))))
 refine bW 38 #[.int .u64 0, .int .u64 0, .int .u64 0] ?_
 rintro w4 ⟨hnew, hb⟩
 replace HN := qB hb HN
 replace HT := qB hb HT
 replace ay := qB hb ay
 replace HL := qB hb HL
 replace HE := qB hb HE
 replace HM := qB hb HM
 replace HS := qB hb HS
 have z17 := (hb).size
 replace ah := qT ah hb
 have HD := qd (hnew)
 clear hnew hb
 have hi1 := HI1.out
 simp only [bS] at hi1
 subst hi1
 clear HA HF HI1 HI2 ig HS2
 have sc := HS.out.c7
 have ec := HE.out.c3
 have her := ay.out.errs.at_ 2 (by omega) (by omega)
 unfold fJ gE at her
 simp only at her
 go_region
 go_wp2
 replace HN := qd (HN.out.drew)
 replace HT := qd (HT.out.below (Below.refl _ _).drew)
 replace HM := qd (HM.out.below (Below.refl _ _).drew)
 replace ah := qd (ah.out.then (Mod.drewN _ _ 1))
 refine bodyPost_ret (v := .tuple #[.bool false, .iface 286 (.pointer (some (E 2)))]) (by simp [results, Tryz.results54, go_sem]) rfl ⟨by rw [jd E (by omega : 1 ≤ 2)], HT.out, HM.out, ah.out⟩
end Go.Proofs.YtbphcldoflekpaaGreatDoor
