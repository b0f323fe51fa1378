/- A node's Put by its contracts. -/
import Derived.Test.YtgfcmdmpegomdaaGreatDoorCoBB
import Derived.Test.YtgfcmdmpegomdaaGreatDoorSqM
import Derived.Test.YtgfcmdmpegomdaaGreatDoorCoO
import Derived.Test.YtgfcmdmpegomdaaGreatDoorLaneP
namespace Go.Proofs.YtgfcmdmpegomdaaGreatDoor
set_option maxRecDepth 100000
set_option maxHeartbeats 8000000
open Go.RowKit AmC
variable {W0 : World} {E : Nat → Addr}
theorem node_Put_dual (nb tb db : Nat) (pfx dpt job : Int) (P : MP) (c : Cnt) (e : Ent) (more b0 : Bool) (er : Value) (Post : World → World → Prop) (w : World) (hnd : Blk w nb 172 #[.int .i64 pfx, .int .i64 dpt, .pointer (some ⟨tb, 0, none⟩), .int .i64 job, .pointer (some ⟨db, 0, none⟩)]) (HC : ∀ V, Below w.heap.size w V → Calls Tryz.prog 91 #[.pointer (some ⟨db, 0, none⟩), lensV (some ⟨P.mb, P.mo, none⟩) c, entV e, .bool more] V fun y V' => y = .returned (.tuple #[.bool b0, er]) ∧ Post V V') :
  Calls Tryz.prog 70 #[nodeP nb, lensV (some ⟨P.mb, P.mo, none⟩) c, entV e, .bool more] w fun y w' => y = .returned (.tuple #[.bool b0, er]) ∧ ∃ V, Below w.heap.size w V ∧ Post V w' := by
 obtain ⟨W, hW, hB, hL, hE⟩ := qX2 w 138 #[.pointer (some ⟨P.mb, P.mo, none⟩), .int .i64 c.p, .int .i64 c.v, .int .i64 c.u] 141 #[.int .u64 (e.key : Int), .int .u64 (e.val : Int), .int .u64 (e.hash : Int)]
 have hnl := hnd.lt
 have HW := qd hW
 have HWB := qd hB
 have HC := qd (HC W.drew (hB.trans ((Below.refl _ _).drew.mono hB.size)))
 unfold nodeP
 unfold lensV entV at HC ⊢
 have HN := qd (hnd.below hB hnd.lt)
 have HL := qd (hL)
 have HE := qd (hE)
 have Hmod := qd (Mod.of_below hB [])
 clear hW hB hnd hL hE
 go_in
 go_upto_region 1 with fail
 rw [← HW.out]
 have nc := HN.out.c5
 have lc := HL.out.c4
 have ec := HE.out.c3
 go_upto_region 2 with fail
 refine rT (fun (w' : World) => w'.cell? ⟨nb, 4, none⟩ = some (.pointer (some ⟨db, 0, none⟩)) ∧ w'.cell? ⟨w.heap.size, 0, none⟩ = some (.pointer (some ⟨P.mb, P.mo, none⟩)) ∧ w'.cell? ⟨w.heap.size, 1, none⟩ = some (.int .i64 c.p) ∧ w'.cell? ⟨w.heap.size, 2, none⟩ = some (.int .i64 c.v) ∧ w'.cell? ⟨w.heap.size, 3, none⟩ = some (.int .i64 c.u) ∧ w'.cell? ⟨w.heap.size + 1, 0, none⟩ = some (.int .u64 (e.key : Int)) ∧ w'.cell? ⟨w.heap.size + 1, 1, none⟩ = some (.int .u64 (e.val : Int)) ∧ w'.cell? ⟨w.heap.size + 1, 2, none⟩ = some (.int .u64 (e.hash : Int))) [7] ?_
 have hHeld := (⟨nc.2.2.2.2, lc.1, lc.2.1, lc.2.2.1, lc.2.2.2, ec.1, ec.2.1, ec.2.2⟩ : _ ∧ _ ∧ _ ∧ _ ∧ _ ∧ _ ∧ _ ∧ _)
 refine vW 0 rfl ?_
 refine vW 1 rfl ?_
 refine vW 2 rfl ?_
 refine vT 3 rfl ?_
 refine vT 4 rfl ?_
 refine vT 5 rfl ?_
 refine vW 6 rfl ?_
 refine nT 7 rfl fun K hK => ?_
 go_simp
 refine (HC.out).mono ?_
 rintro y w2 ⟨rfl, hpost⟩
 have HPo := qd hpost
 clear hpost
 go_wp2_with fail
 refine kO hK ?_
 clear hK K
 refine vL 8 rfl ?_
 refine vL 9 rfl ?_
 refine vL 10 rfl ?_
 refine vL 11 rfl ?_
 refine doneT (by kernel_rfl) ?_ _
 go_wp2
 refine bodyPost_ret (v := .tuple #[.bool b0, er]) (by simp [results, Tryz.results70, go_sem]) rfl ⟨rfl, W.drew, HWB.out.trans ((Below.refl _ _).drew.mono HWB.out.size), HPo.out⟩
theorem node_Put_found (nb tb gb : Nat) (pfx dpt job : Int) (T : TabM) (P : MP) (x : Mtr) (c : Cnt) (e : Ent) (more : Bool) (w : World) (hnd : Blk w nb 172 #[.int .i64 pfx, .int .i64 dpt, .pointer (some ⟨tb, 0, none⟩), .int .i64 job, .pointer none]) (h : TabAt w tb gb T) (hP : Pw T.gs.length) (h64 : e.hash < 18446744073709551616) (hM : MetP w P x) (hEn : Env W0 E w) (hb0 : W0.heap.size ≤ P.mb) (hmt : P.mb ≠ tb) (hmg : P.mb ≠ gb) (hmn : P.mb ≠ nb) (hnt : nb ≠ tb) (hng : nb ≠ gb) (i s : Nat) (hsk : (seek T.gs e.key e.hash).1 = some (i, s)) (e0 : Ent) (he0 : slotAt T.gs i s = .full e0) :
  Calls Tryz.prog 70 #[nodeP nb, lensV (some ⟨P.mb, P.mo, none⟩) c, entV e, .bool more] w fun y w' => y = .returned (.tuple #[.bool false, .nilIface]) ∧ TabAt w' tb gb (replaceM T i s e.val e0) ∧ MetP w' P (x.add c (seek T.gs e.key e.hash).2.2) ∧ Mod [P.mb, tb, gb] w w' := by
 obtain ⟨W, hW, hB, hL, hE⟩ := qX2 w 138 #[.pointer (some ⟨P.mb, P.mo, none⟩), .int .i64 c.p, .int .i64 c.v, .int .i64 c.u] 141 #[.int .u64 (e.key : Int), .int .u64 (e.val : Int), .int .u64 (e.hash : Int)]
 have hml := hM.lt
 have hnl := hnd.lt
 have htl := h.ltT
 have hgl := h.ltG
 have hB0 := hEn.size
 have HW := qd hW
 unfold nodeP lensV entV
 obtain ⟨sk1, hsk1⟩ : ∃ s, s = (seek T.gs e.key e.hash).1 := ⟨_, rfl⟩
 obtain ⟨sk2, hsk2⟩ : ∃ s, s = (seek T.gs e.key e.hash).2.1 := ⟨_, rfl⟩
 have HS1 := qd hsk1
 have HS2 := qd hsk2
 clear hsk1 hsk2
 obtain ⟨s1, hs1⟩ : ∃ s, s = slotI sk1 := ⟨_, rfl⟩
 obtain ⟨s2, hs2⟩ : ∃ s, s = slotI sk2 := ⟨_, rfl⟩
 have HI1 := qd hs1
 have HI2 := qd hs2
 clear hs1 hs2
 obtain ⟨e1, he1, hk0, hil, hsl⟩ := seek_full hsk
 have hs8 : s < 8 := by have := h.wide.at_ hil; omega
 have HN := qd (hnd.below hB hnd.lt)
 have HT := qd (h.below hB)
 have HV0 := qd (hEn.next hB)
 have HM := qd (hM.below hB)
 have HL := qd (hL)
 have HE := qd (hE)
 have Hmod := qd (Mod.of_below hB [P.mb, tb, gb])
 clear hW hB hnd h hM hEn hL hE he1
 go_in
 go_upto_region 1 with fail
 rw [← HW.out]
 have nc := HN.out.c5
 have lc := HL.out.c4
 have ec := HE.out.c3
 go_upto_region 3 with fail
 have q1 := qJ HN.out.lt (qJ HT.out.ltT (qJ HT.out.ltG (qJ HM.out.lt (qJ HL.out.lt (qJ HE.out.lt Hmod.out.size)))))
 refine cutT (fun a' wz => ∃ sb ap fp, a' = { tmps := #[.pointer (some ⟨nb, 0, none⟩), .agg #[.pointer (some ⟨P.mb, P.mo, none⟩), .int .i64 c.p, .int .i64 c.v, .int .i64 c.u], .agg #[.int .u64 (e.key : Int), .int .u64 (e.val : Int), .int .u64 (e.hash : Int)], .bool more, undef, .pointer (some ⟨w.heap.size, 0, none⟩), .pointer (some ⟨w.heap.size + 1, 0, none⟩), undef, .bool false, .nilIface, .pointer (some ⟨sb, 0, none⟩), undef, undef, undef, .pointer (some ⟨nb, 0, none⟩), .pointer (some ⟨nb, 0, none⟩), .pointer (some ⟨nb, 4, none⟩), .pointer none, .bool false, undef, undef, undef, undef, undef, undef, undef, undef, undef, undef, .pointer (some ⟨nb, 0, none⟩), .pointer (some ⟨nb, 0, none⟩), .pointer (some ⟨nb, 2, none⟩), .pointer (some ⟨tb, 0, none⟩), .agg #[.pointer (some ⟨P.mb, P.mo, none⟩), .int .i64 c.p, .int .i64 c.v, .int .i64 c.u], .pointer (some ⟨w.heap.size + 1, 0, none⟩), .int .u64 (e.key : Int), .pointer (some ⟨w.heap.size + 1, 2, none⟩), .int .u64 (e.hash : Int), .agg #[.pointer (some ⟨tb, 0, none⟩), .int .u64 (e.key : Int), .int .u64 (e.hash : Int), .pointer ap, .int .i64 s1, .pointer fp, .int .i64 s2], undef, undef, undef, undef, undef, undef, undef, undef, undef, undef, undef, undef, undef, undef, undef, undef, undef, undef, undef], defers := [] } ∧ Blk wz nb 172 #[.int .i64 pfx, .int .i64 dpt, .pointer (some ⟨tb, 0, none⟩), .int .i64 job, .pointer none] ∧ TabAt wz tb gb T ∧ Env W0 E wz ∧ Blk wz w.heap.size 138 #[.pointer (some ⟨P.mb, P.mo, none⟩), .int .i64 c.p, .int .i64 c.v, .int .i64 c.u] ∧ Blk wz (w.heap.size + 1) 141 #[.int .u64 (e.key : Int), .int .u64 (e.val : Int), .int .u64 (e.hash : Int)] ∧ MetP wz P (x.add c (seek T.gs e.key e.hash).2.2) ∧ PtrOf gb sk1 ap ∧ PtrOf gb sk2 fp ∧ Blk wz sb 189 #[.pointer (some ⟨tb, 0, none⟩), .int .u64 (e.key : Int), .int .u64 (e.hash : Int), .pointer ap, .int .i64 s1, .pointer fp, .int .i64 s2] ∧ W.heap.size ≤ sb ∧ Mod ([P.mb, tb, gb]) w wz) ?_ ?_
 ·refine rT (fun (w' : World) => w'.cell? ⟨nb, 2, none⟩ = some (.pointer (some ⟨tb, 0, none⟩)) ∧ w'.cell? ⟨w.heap.size, 0, none⟩ = some (.pointer (some ⟨P.mb, P.mo, none⟩)) ∧ w'.cell? ⟨w.heap.size, 1, none⟩ = some (.int .i64 c.p) ∧ w'.cell? ⟨w.heap.size, 2, none⟩ = some (.int .i64 c.v) ∧ w'.cell? ⟨w.heap.size, 3, none⟩ = some (.int .i64 c.u) ∧ w'.cell? ⟨w.heap.size + 1, 0, none⟩ = some (.int .u64 (e.key : Int)) ∧ w'.cell? ⟨w.heap.size + 1, 2, none⟩ = some (.int .u64 (e.hash : Int))) [] ?_
  have hHeld := (⟨nc.2.2.1, lc.1, lc.2.1, lc.2.2.1, lc.2.2.2, ec.1, ec.2.2⟩ : _ ∧ _ ∧ _ ∧ _ ∧ _ ∧ _ ∧ _)
  refine vW 0 rfl ?_
  refine vW 1 rfl ?_
  refine vW 2 rfl ?_
  refine vT 3 rfl ?_
  refine vT 4 rfl ?_
  refine vW 5 rfl ?_
  refine vT 6 rfl ?_
  refine vW 7 rfl ?_
  refine vT 8 rfl ?_
  clear hHeld
  refine nameW (F := fun v => Mod [] W v) (Mod.drewN [] W 1) ?_
  rintro v1 hm
  clear nc lc ec
  replace HN := qM hm HN
  replace HT := qM hm HT
  replace HV0 := qM hm HV0
  replace HM := qM hm HM
  replace HL := qM hm HL
  replace HE := qM hm HE
  have z208 := (hm).size
  replace Hmod := qU Hmod hm
  clear hm
  refine pairT (i := 9) (j := 10) (o := ⟨some 38, _, _, _, _, _⟩) (o' := ⟨some 10, _, _, _, _, _⟩) rfl rfl (by kernel_rfl) (fun K hK => ?_) (fun K hK => ?_)
  ·have nc := HN.out.c5
   have lc := HL.out.c4
   have ec := HE.out.c3
   go_simp
   have HSk := qd (seek_at tb gb e.key e.hash T P x c v1 HT.out hP h64 HM.out (by omega) (by omega) HV0.out hb0)
   rw [← HS1.out, ← HS2.out, ← HI1.out, ← HI2.out] at HSk
   unfold spotV tabP lensV at HSk
   refine (HSk.out).mono ?_
   rintro y v2 ⟨ap, fp, rfl, hap, hfp, hM2, hm⟩
   clear HSk HM nc lc ec
   replace HN := qM hm HN
   replace HT := qM hm HT
   replace HV0 := qM hm HV0
   replace HL := qM hm HL
   replace HE := qM hm HE
   have z309 := (hm).size
   replace Hmod := qU Hmod hm
   clear hm
   have HM := qd (hM2)
   have HA := qd (hap)
   have HF := qd (hfp)
   have nc := HN.out.c5
   have lc := HL.out.c4
   have ec := HE.out.c3
   go_wp2_with fail
   refine kO hK ?_
   clear hK K
   refine nT 10 rfl fun K hK => ?_
   have nc := HN.out.c5
   have lc := HL.out.c4
   have ec := HE.out.c3
   go_simp
   have q310 := qJ HN.out.lt (qJ HT.out.ltT (qJ HT.out.ltG (qJ HL.out.lt (qJ HE.out.lt (qJ HM.out.lt Hmod.out.size)))))
   refine nameB 189 #[.pointer none, .int .u64 0, .int .u64 0, .pointer none, .int .i64 0, .pointer none, .int .i64 0] ?_
   rintro v3 ⟨hnew, hb⟩
   obtain ⟨sb, hsb⟩ : ∃ sb, sb = v2.heap.size := ⟨_, rfl⟩
   rw [← hsb] at hnew ⊢
   replace hsb : v2.heap.size ≤ sb := by omega
   clear nc lc ec
   replace HN := qB hb HN
   replace HT := qB hb HT
   replace HV0 := qB hb HV0
   replace HL := qB hb HL
   replace HE := qB hb HE
   replace HM := qB hb HM
   have z317 := (hb).size
   replace Hmod := qT Hmod hb
   have HS := qd (hnew)
   clear hnew hb
   have nc := HN.out.c5
   have lc := HL.out.c4
   have ec := HE.out.c3
   refine kO hK ?_
   clear hK K
   refine nT 11 rfl fun K hK => ?_
   have nc := HN.out.c5
   have lc := HL.out.c4
   have ec := HE.out.c3
   have yc := HS.out.c7
   have yf := HS.out.f7
   go_simp
   have q318 := qJ HN.out.lt (qJ HT.out.ltT (qJ HT.out.ltG (qJ HL.out.lt (qJ HE.out.lt (qJ HM.out.lt HS.out.lt)))))
   refine qS7 HS.out ?_
   rintro v4 ⟨hnew, hm⟩
   simp only [pt] at hnew
   clear nc lc ec yc yf
   replace HN := qM hm HN
   replace HT := qM hm HT
   replace HV0 := qM hm HV0
   replace HL := qM hm HL
   replace HE := qM hm HE
   replace HM := qM hm HM
   have z325 := (hm).size
   replace Hmod := qU Hmod hm
   replace HS := qd hnew
   clear hnew hm
   have nc := HN.out.c5
   have lc := HL.out.c4
   have ec := HE.out.c3
   refine kO hK ?_
   clear hK K
   refine doneT (by kernel_rfl) ?_ _
   have z326 := Hmod.out.size
   exact ⟨sb, ap, fp, rfl, HN.out, HT.out, HV0.out, HL.out, HE.out, HM.out, HA.out, HF.out, HS.out, by omega, Hmod.out⟩
  ·have nc := HN.out.c5
   have lc := HL.out.c4
   have ec := HE.out.c3
   go_simp
   have q409 := qJ HN.out.lt (qJ HT.out.ltT (qJ HT.out.ltG (qJ HM.out.lt (qJ HL.out.lt (qJ HE.out.lt Hmod.out.size)))))
   refine nameB 189 #[.pointer none, .int .u64 0, .int .u64 0, .pointer none, .int .i64 0, .pointer none, .int .i64 0] ?_
   rintro v5 ⟨hnew, hb⟩
   obtain ⟨sb, hsb⟩ : ∃ sb, sb = v1.heap.size := ⟨_, rfl⟩
   rw [← hsb] at hnew ⊢
   replace hsb : v1.heap.size ≤ sb := by omega
   clear nc lc ec
   replace HN := qB hb HN
   replace HT := qB hb HT
   replace HV0 := qB hb HV0
   replace HM := qB hb HM
   replace HL := qB hb HL
   replace HE := qB hb HE
   have z416 := (hb).size
   replace Hmod := qT Hmod hb
   have HS := qd (hnew)
   clear hnew hb
   have nc := HN.out.c5
   have lc := HL.out.c4
   have ec := HE.out.c3
   refine kO hK ?_
   clear hK K
   refine nT 9 rfl fun K hK => ?_
   have nc := HN.out.c5
   have lc := HL.out.c4
   have ec := HE.out.c3
   go_simp
   have HSk := qd (seek_at tb gb e.key e.hash T P x c v5 HT.out hP h64 HM.out (by omega) (by omega) HV0.out hb0)
   rw [← HS1.out, ← HS2.out, ← HI1.out, ← HI2.out] at HSk
   unfold spotV tabP lensV at HSk
   refine (HSk.out).mono ?_
   rintro y v6 ⟨ap, fp, rfl, hap, hfp, hM2, hm⟩
   clear HSk HM nc lc ec
   replace HN := qM hm HN
   replace HT := qM hm HT
   replace HV0 := qM hm HV0
   replace HL := qM hm HL
   replace HE := qM hm HE
   replace HS := qM hm HS
   have z417 := (hm).size
   replace Hmod := qU Hmod hm
   clear hm
   have HM := qd (hM2)
   have HA := qd (hap)
   have HF := qd (hfp)
   have nc := HN.out.c5
   have lc := HL.out.c4
   have ec := HE.out.c3
   go_wp2_with fail
   refine kO hK ?_
   clear hK K
   refine nT 11 rfl fun K hK => ?_
   have nc := HN.out.c5
   have lc := HL.out.c4
   have ec := HE.out.c3
   have yc := HS.out.c7
   have yf := HS.out.f7
   go_simp
   have q418 := qJ HN.out.lt (qJ HT.out.ltT (qJ HT.out.ltG (qJ HL.out.lt (qJ HE.out.lt (qJ HS.out.lt HM.out.lt)))))
   refine qS7 HS.out ?_
   rintro v7 ⟨hnew, hm⟩
   simp only [pt] at hnew
   clear nc lc ec yc yf
   replace HN := qM hm HN
   replace HT := qM hm HT
   replace HV0 := qM hm HV0
   replace HL := qM hm HL
   replace HE := qM hm HE
   replace HM := qM hm HM
   have z425 := (hm).size
   replace Hmod := qU Hmod hm
   replace HS := qd hnew
   clear hnew hm
   have nc := HN.out.c5
   have lc := HL.out.c4
   have ec := HE.out.c3
   refine kO hK ?_
   clear hK K
   refine doneT (by kernel_rfl) ?_ _
   have z426 := Hmod.out.size
   exact ⟨sb, ap, fp, rfl, HN.out, HT.out, HV0.out, HL.out, HE.out, HM.out, HA.out, HF.out, HS.out, by omega, Hmod.out⟩
 clear nc lc ec HN HT HV0 HM HL HE Hmod
 rintro a' w2 ⟨sb, ap, fp, rfl, m_N, m_T, m_V0, m_L, m_E, m_M, m_A, m_F, m_box, hle_sb, m_mod⟩
 have HN := qd (m_N)
 have HT := qd (m_T)
 have HV0 := qd (m_V0)
 have HL := qd (m_L)
 have HE := qd (m_E)
 have HM := qd (m_M)
 have HA := qd (m_A)
 have HF := qd (m_F)
 have HS := qd (m_box)
 have Hmod := qd (m_mod)
 clear m_N m_T m_V0 m_L m_E m_M m_A m_F m_box m_mod
 go_upto_region 4 with fail
 have sc := HS.out.c7
 have HEnt := qd (spot_Entry tb gb e.key e.hash T ap fp s2 (by rw [← HS1.out]; exact HA.out) w2 HT.out)
 unfold foundE at HEnt
 rw [← HS1.out, ← HI1.out] at HEnt
 unfold spotV optE entV at HEnt
 simp only [Option.isSome_map] at HEnt
 have hq := HS1.out
 rw [hsk] at hq
 rw [hq] at HEnt HA HI1
 simp only [Option.map_some, he0, Option.getD_some, Option.isSome_some, Slot.ent] at HEnt
 clear hq
 go_wp2_with fail
 refine (HEnt.out).mono ?_
 rintro x w3 ⟨rfl, hb⟩
 clear sc
 replace HN := qB hb HN
 replace HT := qB hb HT
 replace HV0 := qB hb HV0
 replace HL := qB hb HL
 replace HE := qB hb HE
 replace HM := qB hb HM
 replace HS := qB hb HS
 have z8 := (hb).size
 replace Hmod := qT Hmod hb
 clear hb HEnt
 go_upto_region 6 with fail
 have q9 := qJ HN.out.lt (qJ HT.out.ltT (qJ HT.out.ltG (qJ HL.out.lt (qJ HE.out.lt (qJ HM.out.lt (qJ HS.out.lt Hmod.out.size))))))
 refine nameB 141 #[.int .u64 (e0.key : Int), .int .u64 (e0.val : Int), .int .u64 (e0.hash : Int)] ?_
 rintro w4 ⟨hnew, hb⟩
 replace HN := qB hb HN
 replace HT := qB hb HT
 replace HV0 := qB hb HV0
 replace HL := qB hb HL
 replace HE := qB hb HE
 replace HM := qB hb HM
 replace HS := qB hb HS
 have z17 := (hb).size
 replace Hmod := qT Hmod hb
 have HD := qd (hnew)
 clear hnew hb
 have hi1 := HI1.out
 simp only [slotI] at hi1
 subst hi1
 obtain rfl := HA.out i s rfl
 clear HA HF HI1 HI2 HS1 HS2
 have sc := HS.out.c7
 have ec := HE.out.c3
 have HRe := qd (spot_Replace tb e.key e.hash gb fp s2 T i s e.val hil hs8 e0 he0 w4 HT.out)
 unfold spotV at HRe
 clear HT HV0
 go_wp2_with fail
 refine (HRe.out).mono ?_
 rintro x w5 ⟨rfl, hT5, hm⟩
 clear sc ec
 replace HN := qM hm HN
 replace HL := qM hm HL
 replace HE := qM hm HE
 replace HM := qM hm HM
 replace HS := qM hm HS
 replace HD := qM hm HD
 have z18 := (hm).size
 replace Hmod := qU Hmod hm
 clear hm
 have HT := qd (hT5)
 clear hT5
 go_wp2
 refine bodyPost_ret (v := .tuple #[.bool false, .nilIface]) (by simp [results, Tryz.results70, go_sem]) rfl ⟨rfl, HT.out, HM.out, Hmod.out⟩
theorem node_Put_new (nb tb gb : Nat) (pfx dpt job : Int) (T : TabM) (P : MP) (x : Mtr) (c : Cnt) (e : Ent) (w : World) (hnd : Blk w nb 172 #[.int .i64 pfx, .int .i64 dpt, .pointer (some ⟨tb, 0, none⟩), .int .i64 job, .pointer none]) (h : TabAt w tb gb T) (hP : Pw T.gs.length) (h64 : e.hash < 18446744073709551616) (hM : MetP w P x) (hEn : Env W0 E w) (hb0 : W0.heap.size ≤ P.mb) (hmt : P.mb ≠ tb) (hmg : P.mb ≠ gb) (hmn : P.mb ≠ nb) (hnt : nb ≠ tb) (hng : nb ≠ gb) (hsk : (seek T.gs e.key e.hash).1 = none) (i s : Nat) (hfr : (seek T.gs e.key e.hash).2.1 = some (i, s)) (hSm : Small T) (hroom : T.live + T.tombs + 1 ≤ 7 * (T.gs.length : Int)) :
  Calls Tryz.prog 70 #[nodeP nb, lensV (some ⟨P.mb, P.mo, none⟩) c, entV e, .bool true] w fun y w' => y = .returned (.tuple #[.bool true, .nilIface]) ∧ TabAt w' tb gb (placeM T i s e) ∧ MetP w' P (x.add c (seek T.gs e.key e.hash).2.2) ∧ Mod [P.mb, tb, gb] w w' := by
 obtain ⟨W, hW, hB, hL, hE⟩ := qX2 w 138 #[.pointer (some ⟨P.mb, P.mo, none⟩), .int .i64 c.p, .int .i64 c.v, .int .i64 c.u] 141 #[.int .u64 (e.key : Int), .int .u64 (e.val : Int), .int .u64 (e.hash : Int)]
 have hml := hM.lt
 have hnl := hnd.lt
 have htl := h.ltT
 have hgl := h.ltG
 have hB0 := hEn.size
 have HW := qd hW
 unfold nodeP lensV entV
 obtain ⟨sk1, hsk1⟩ : ∃ s, s = (seek T.gs e.key e.hash).1 := ⟨_, rfl⟩
 obtain ⟨sk2, hsk2⟩ : ∃ s, s = (seek T.gs e.key e.hash).2.1 := ⟨_, rfl⟩
 have HS1 := qd hsk1
 have HS2 := qd hsk2
 clear hsk1 hsk2
 obtain ⟨s1, hs1⟩ : ∃ s, s = slotI sk1 := ⟨_, rfl⟩
 obtain ⟨s2, hs2⟩ : ∃ s, s = slotI sk2 := ⟨_, rfl⟩
 have HI1 := qd hs1
 have HI2 := qd hs2
 clear hs1 hs2
 have hFp := seek_freePl T.gs hP.pos e.key e.hash i s hfr
 have hs8 : s < 8 := by have := h.wide.at_ (i := i) hFp.1; omega
 have HN := qd (hnd.below hB hnd.lt)
 have HT := qd (h.below hB)
 have HV0 := qd (hEn.next hB)
 have HM := qd (hM.below hB)
 have HL := qd (hL)
 have HE := qd (hE)
 have Hmod := qd (Mod.of_below hB [P.mb, tb, gb])
 clear hW hB hnd h hM hEn hL hE
 go_in
 go_upto_region 1 with fail
 rw [← HW.out]
 have nc := HN.out.c5
 have lc := HL.out.c4
 have ec := HE.out.c3
 go_upto_region 3 with fail
 have q1 := qJ HN.out.lt (qJ HT.out.ltT (qJ HT.out.ltG (qJ HM.out.lt (qJ HL.out.lt (qJ HE.out.lt Hmod.out.size)))))
 refine cutT (fun a' wz => ∃ sb ap fp, a' = { tmps := #[.pointer (some ⟨nb, 0, none⟩), .agg #[.pointer (some ⟨P.mb, P.mo, none⟩), .int .i64 c.p, .int .i64 c.v, .int .i64 c.u], .agg #[.int .u64 (e.key : Int), .int .u64 (e.val : Int), .int .u64 (e.hash : Int)], .bool true, undef, .pointer (some ⟨w.heap.size, 0, none⟩), .pointer (some ⟨w.heap.size + 1, 0, none⟩), undef, .bool false, .nilIface, .pointer (some ⟨sb, 0, none⟩), undef, undef, undef, .pointer (some ⟨nb, 0, none⟩), .pointer (some ⟨nb, 0, none⟩), .pointer (some ⟨nb, 4, none⟩), .pointer none, .bool false, undef, undef, undef, undef, undef, undef, undef, undef, undef, undef, .pointer (some ⟨nb, 0, none⟩), .pointer (some ⟨nb, 0, none⟩), .pointer (some ⟨nb, 2, none⟩), .pointer (some ⟨tb, 0, none⟩), .agg #[.pointer (some ⟨P.mb, P.mo, none⟩), .int .i64 c.p, .int .i64 c.v, .int .i64 c.u], .pointer (some ⟨w.heap.size + 1, 0, none⟩), .int .u64 (e.key : Int), .pointer (some ⟨w.heap.size + 1, 2, none⟩), .int .u64 (e.hash : Int), .agg #[.pointer (some ⟨tb, 0, none⟩), .int .u64 (e.key : Int), .int .u64 (e.hash : Int), .pointer ap, .int .i64 s1, .pointer fp, .int .i64 s2], undef, undef, undef, undef, undef, undef, undef, undef, undef, undef, undef, undef, undef, undef, undef, undef, undef, undef, undef], defers := [] } ∧ Blk wz nb 172 #[.int .i64 pfx, .int .i64 dpt, .pointer (some ⟨tb, 0, none⟩), .int .i64 job, .pointer none] ∧ TabAt wz tb gb T ∧ Env W0 E wz ∧ Blk wz w.heap.size 138 #[.pointer (some ⟨P.mb, P.mo, none⟩), .int .i64 c.p, .int .i64 c.v, .int .i64 c.u] ∧ Blk wz (w.heap.size + 1) 141 #[.int .u64 (e.key : Int), .int .u64 (e.val : Int), .int .u64 (e.hash : Int)] ∧ MetP wz P (x.add c (seek T.gs e.key e.hash).2.2) ∧ PtrOf gb sk1 ap ∧ PtrOf gb sk2 fp ∧ Blk wz sb 189 #[.pointer (some ⟨tb, 0, none⟩), .int .u64 (e.key : Int), .int .u64 (e.hash : Int), .pointer ap, .int .i64 s1, .pointer fp, .int .i64 s2] ∧ W.heap.size ≤ sb ∧ Mod ([P.mb, tb, gb]) w wz) ?_ ?_
 ·refine rT (fun (w' : World) => w'.cell? ⟨nb, 2, none⟩ = some (.pointer (some ⟨tb, 0, none⟩)) ∧ w'.cell? ⟨w.heap.size, 0, none⟩ = some (.pointer (some ⟨P.mb, P.mo, none⟩)) ∧ w'.cell? ⟨w.heap.size, 1, none⟩ = some (.int .i64 c.p) ∧ w'.cell? ⟨w.heap.size, 2, none⟩ = some (.int .i64 c.v) ∧ w'.cell? ⟨w.heap.size, 3, none⟩ = some (.int .i64 c.u) ∧ w'.cell? ⟨w.heap.size + 1, 0, none⟩ = some (.int .u64 (e.key : Int)) ∧ w'.cell? ⟨w.heap.size + 1, 2, none⟩ = some (.int .u64 (e.hash : Int))) [] ?_
  have hHeld := (⟨nc.2.2.1, lc.1, lc.2.1, lc.2.2.1, lc.2.2.2, ec.1, ec.2.2⟩ : _ ∧ _ ∧ _ ∧ _ ∧ _ ∧ _ ∧ _)
  refine vW 0 rfl ?_
  refine vW 1 rfl ?_
  refine vW 2 rfl ?_
  refine vT 3 rfl ?_
  refine vT 4 rfl ?_
  refine vW 5 rfl ?_
  refine vT 6 rfl ?_
  refine vW 7 rfl ?_
  refine vT 8 rfl ?_
  clear hHeld
  refine nameW (F := fun v => Mod [] W v) (Mod.drewN [] W 1) ?_
  rintro v1 hm
  clear nc lc ec
  replace HN := qM hm HN
  replace HT := qM hm HT
  replace HV0 := qM hm HV0
  replace HM := qM hm HM
  replace HL := qM hm HL
  replace HE := qM hm HE
  have z208 := (hm).size
  replace Hmod := qU Hmod hm
  clear hm
  refine pairT (i := 9) (j := 10) (o := ⟨some 38, _, _, _, _, _⟩) (o' := ⟨some 10, _, _, _, _, _⟩) rfl rfl (by kernel_rfl) (fun K hK => ?_) (fun K hK => ?_)
  ·have nc := HN.out.c5
   have lc := HL.out.c4
   have ec := HE.out.c3
   go_simp
   have HSk := qd (seek_at tb gb e.key e.hash T P x c v1 HT.out hP h64 HM.out (by omega) (by omega) HV0.out hb0)
   rw [← HS1.out, ← HS2.out, ← HI1.out, ← HI2.out] at HSk
   unfold spotV tabP lensV at HSk
   refine (HSk.out).mono ?_
   rintro y v2 ⟨ap, fp, rfl, hap, hfp, hM2, hm⟩
   clear HSk HM nc lc ec
   replace HN := qM hm HN
   replace HT := qM hm HT
   replace HV0 := qM hm HV0
   replace HL := qM hm HL
   replace HE := qM hm HE
   have z309 := (hm).size
   replace Hmod := qU Hmod hm
   clear hm
   have HM := qd (hM2)
   have HA := qd (hap)
   have HF := qd (hfp)
   have nc := HN.out.c5
   have lc := HL.out.c4
   have ec := HE.out.c3
   go_wp2_with fail
   refine kO hK ?_
   clear hK K
   refine nT 10 rfl fun K hK => ?_
   have nc := HN.out.c5
   have lc := HL.out.c4
   have ec := HE.out.c3
   go_simp
   have q310 := qJ HN.out.lt (qJ HT.out.ltT (qJ HT.out.ltG (qJ HL.out.lt (qJ HE.out.lt (qJ HM.out.lt Hmod.out.size)))))
   refine nameB 189 #[.pointer none, .int .u64 0, .int .u64 0, .pointer none, .int .i64 0, .pointer none, .int .i64 0] ?_
   rintro v3 ⟨hnew, hb⟩
   obtain ⟨sb, hsb⟩ : ∃ sb, sb = v2.heap.size := ⟨_, rfl⟩
   rw [← hsb] at hnew ⊢
   replace hsb : v2.heap.size ≤ sb := by omega
   clear nc lc ec
   replace HN := qB hb HN
   replace HT := qB hb HT
   replace HV0 := qB hb HV0
   replace HL := qB hb HL
   replace HE := qB hb HE
   replace HM := qB hb HM
   have z317 := (hb).size
   replace Hmod := qT Hmod hb
   have HS := qd (hnew)
   clear hnew hb
   have nc := HN.out.c5
   have lc := HL.out.c4
   have ec := HE.out.c3
   refine kO hK ?_
   clear hK K
   refine nT 11 rfl fun K hK => ?_
   have nc := HN.out.c5
   have lc := HL.out.c4
   have ec := HE.out.c3
   have yc := HS.out.c7
   have yf := HS.out.f7
   go_simp
   have q318 := qJ HN.out.lt (qJ HT.out.ltT (qJ HT.out.ltG (qJ HL.out.lt (qJ HE.out.lt (qJ HM.out.lt HS.out.lt)))))
   refine qS7 HS.out ?_
   rintro v4 ⟨hnew, hm⟩
   simp only [pt] at hnew
   clear nc lc ec yc yf
   replace HN := qM hm HN
   replace HT := qM hm HT
   replace HV0 := qM hm HV0
   replace HL := qM hm HL
   replace HE := qM hm HE
   replace HM := qM hm HM
   have z325 := (hm).size
   replace Hmod := qU Hmod hm
   replace HS := qd hnew
   clear hnew hm
   have nc := HN.out.c5
   have lc := HL.out.c4
   have ec := HE.out.c3
   refine kO hK ?_
   clear hK K
   refine doneT (by kernel_rfl) ?_ _
   have z326 := Hmod.out.size
   exact ⟨sb, ap, fp, rfl, HN.out, HT.out, HV0.out, HL.out, HE.out, HM.out, HA.out, HF.out, HS.out, by omega, Hmod.out⟩
  ·have nc := HN.out.c5
   have lc := HL.out.c4
   have ec := HE.out.c3
   go_simp
   have q409 := qJ HN.out.lt (qJ HT.out.ltT (qJ HT.out.ltG (qJ HM.out.lt (qJ HL.out.lt (qJ HE.out.lt Hmod.out.size)))))
   refine nameB 189 #[.pointer none, .int .u64 0, .int .u64 0, .pointer none, .int .i64 0, .pointer none, .int .i64 0] ?_
   rintro v5 ⟨hnew, hb⟩
   obtain ⟨sb, hsb⟩ : ∃ sb, sb = v1.heap.size := ⟨_, rfl⟩
   rw [← hsb] at hnew ⊢
   replace hsb : v1.heap.size ≤ sb := by omega
   clear nc lc ec
   replace HN := qB hb HN
   replace HT := qB hb HT
   replace HV0 := qB hb HV0
   replace HM := qB hb HM
   replace HL := qB hb HL
   replace HE := qB hb HE
   have z416 := (hb).size
   replace Hmod := qT Hmod hb
   have HS := qd (hnew)
   clear hnew hb
   have nc := HN.out.c5
   have lc := HL.out.c4
   have ec := HE.out.c3
   refine kO hK ?_
   clear hK K
   refine nT 9 rfl fun K hK => ?_
   have nc := HN.out.c5
   have lc := HL.out.c4
   have ec := HE.out.c3
   go_simp
   have HSk := qd (seek_at tb gb e.key e.hash T P x c v5 HT.out hP h64 HM.out (by omega) (by omega) HV0.out hb0)
   rw [← HS1.out, ← HS2.out, ← HI1.out, ← HI2.out] at HSk
   unfold spotV tabP lensV at HSk
   refine (HSk.out).mono ?_
   rintro y v6 ⟨ap, fp, rfl, hap, hfp, hM2, hm⟩
   clear HSk HM nc lc ec
   replace HN := qM hm HN
   replace HT := qM hm HT
   replace HV0 := qM hm HV0
   replace HL := qM hm HL
   replace HE := qM hm HE
   replace HS := qM hm HS
   have z417 := (hm).size
   replace Hmod := qU Hmod hm
   clear hm
   have HM := qd (hM2)
   have HA := qd (hap)
   have HF := qd (hfp)
   have nc := HN.out.c5
   have lc := HL.out.c4
   have ec := HE.out.c3
   go_wp2_with fail
   refine kO hK ?_
   clear hK K
   refine nT 11 rfl fun K hK => ?_
   have nc := HN.out.c5
   have lc := HL.out.c4
   have ec := HE.out.c3
   have yc := HS.out.c7
   have yf := HS.out.f7
   go_simp
   have q418 := qJ HN.out.lt (qJ HT.out.ltT (qJ HT.out.ltG (qJ HL.out.lt (qJ HE.out.lt (qJ HS.out.lt HM.out.lt)))))
   refine qS7 HS.out ?_
   rintro v7 ⟨hnew, hm⟩
   simp only [pt] at hnew
   clear nc lc ec yc yf
   replace HN := qM hm HN
   replace HT := qM hm HT
   replace HV0 := qM hm HV0
   replace HL := qM hm HL
   replace HE := qM hm HE
   replace HM := qM hm HM
   have z425 := (hm).size
   replace Hmod := qU Hmod hm
   replace HS := qd hnew
   clear hnew hm
   have nc := HN.out.c5
   have lc := HL.out.c4
   have ec := HE.out.c3
   refine kO hK ?_
   clear hK K
   refine doneT (by kernel_rfl) ?_ _
   have z426 := Hmod.out.size
   exact ⟨sb, ap, fp, rfl, HN.out, HT.out, HV0.out, HL.out, HE.out, HM.out, HA.out, HF.out, HS.out, by omega, Hmod.out⟩
 clear nc lc ec HN HT HV0 HM HL HE Hmod
 rintro a' w2 ⟨sb, ap, fp, rfl, m_N, m_T, m_V0, m_L, m_E, m_M, m_A, m_F, m_box, hle_sb, m_mod⟩
 have HN := qd (m_N)
 have HT := qd (m_T)
 have HV0 := qd (m_V0)
 have HL := qd (m_L)
 have HE := qd (m_E)
 have HM := qd (m_M)
 have HA := qd (m_A)
 have HF := qd (m_F)
 have HS := qd (m_box)
 have Hmod := qd (m_mod)
 clear m_N m_T m_V0 m_L m_E m_M m_A m_F m_box m_mod
 go_upto_region 4 with fail
 have sc := HS.out.c7
 have HEnt := qd (spot_Entry tb gb e.key e.hash T ap fp s2 (by rw [← HS1.out]; exact HA.out) w2 HT.out)
 unfold foundE at HEnt
 rw [← HS1.out, ← HI1.out] at HEnt
 unfold spotV optE entV at HEnt
 simp only [Option.isSome_map] at HEnt
 have hq := HS1.out
 rw [hsk] at hq
 rw [hq] at HEnt HA HI1
 simp only [Option.map_none, Option.getD_none, Option.isSome_none] at HEnt
 clear hq
 go_wp2_with fail
 refine (HEnt.out).mono ?_
 rintro x w3 ⟨rfl, hb⟩
 clear sc
 replace HN := qB hb HN
 replace HT := qB hb HT
 replace HV0 := qB hb HV0
 replace HL := qB hb HL
 replace HE := qB hb HE
 replace HM := qB hb HM
 replace HS := qB hb HS
 have z8 := (hb).size
 replace Hmod := qT Hmod hb
 clear hb HEnt
 go_upto_region 9 with fail
 have q9 := qJ HN.out.lt (qJ HT.out.ltT (qJ HT.out.ltG (qJ HL.out.lt (qJ HE.out.lt (qJ HM.out.lt (qJ HS.out.lt Hmod.out.size))))))
 refine nameB 141 #[.int .u64 0, .int .u64 0, .int .u64 0] ?_
 rintro w4 ⟨hnew, hb⟩
 replace HN := qB hb HN
 replace HT := qB hb HT
 replace HV0 := qB hb HV0
 replace HL := qB hb HL
 replace HE := qB hb HE
 replace HM := qB hb HM
 replace HS := qB hb HS
 have z17 := (hb).size
 replace Hmod := qT Hmod hb
 have HD := qd (hnew)
 clear hnew hb
 have hi1 := HI1.out
 simp only [slotI] at hi1
 subst hi1
 have hq2 := HS2.out
 rw [hfr] at hq2
 rw [hq2] at HF HI2
 have hi2 := HI2.out
 simp only [slotI] at hi2
 subst hi2
 obtain rfl := HF.out i s rfl
 clear HA HF HI1 HI2 HS1 HS2
 have sc := HS.out.c7
 have ec := HE.out.c3
 have HPl := qd (spot_Place tb gb ap T i s e hFp.1 hs8 h64 hFp.2.2 hSm hroom w4 HT.out)
 unfold spotV entV at HPl
 clear HT HV0
 go_wp2_with fail
 refine (HPl.out).mono ?_
 rintro x w5 ⟨rfl, hT5, hm⟩
 clear sc ec
 replace HN := qM hm HN
 replace HL := qM hm HL
 replace HE := qM hm HE
 replace HM := qM hm HM
 replace HS := qM hm HS
 replace HD := qM hm HD
 have z18 := (hm).size
 replace Hmod := qU Hmod hm
 clear hm
 have HT := qd (hT5)
 clear hT5
 go_wp2
 refine bodyPost_ret (v := .tuple #[.bool true, .nilIface]) (by simp [results, Tryz.results70, go_sem]) rfl ⟨rfl, HT.out, HM.out, Hmod.out⟩
theorem node_Put_full (nb tb gb : Nat) (pfx dpt job : Int) (T : TabM) (P : MP) (x : Mtr) (c : Cnt) (e : Ent) (w : World) (hnd : Blk w nb 172 #[.int .i64 pfx, .int .i64 dpt, .pointer (some ⟨tb, 0, none⟩), .int .i64 job, .pointer none]) (h : TabAt w tb gb T) (hP : Pw T.gs.length) (h64 : e.hash < 18446744073709551616) (hM : MetP w P x) (hEn : Env W0 E w) (hb0 : W0.heap.size ≤ P.mb) (hmt : P.mb ≠ tb) (hmg : P.mb ≠ gb) (hmn : P.mb ≠ nb) (hnt : nb ≠ tb) (hng : nb ≠ gb) (hsk : (seek T.gs e.key e.hash).1 = none) :
  Calls Tryz.prog 70 #[nodeP nb, lensV (some ⟨P.mb, P.mo, none⟩) c, entV e, .bool false] w fun y w' => y = .returned (.tuple #[.bool false, errV E 2]) ∧ TabAt w' tb gb (T) ∧ MetP w' P (x.add c (seek T.gs e.key e.hash).2.2) ∧ Mod [P.mb] w w' := by
 obtain ⟨W, hW, hB, hL, hE⟩ := qX2 w 138 #[.pointer (some ⟨P.mb, P.mo, none⟩), .int .i64 c.p, .int .i64 c.v, .int .i64 c.u] 141 #[.int .u64 (e.key : Int), .int .u64 (e.val : Int), .int .u64 (e.hash : Int)]
 have hml := hM.lt
 have hnl := hnd.lt
 have htl := h.ltT
 have hgl := h.ltG
 have hB0 := hEn.size
 have HW := qd hW
 unfold nodeP lensV entV
 obtain ⟨sk1, hsk1⟩ : ∃ s, s = (seek T.gs e.key e.hash).1 := ⟨_, rfl⟩
 obtain ⟨sk2, hsk2⟩ : ∃ s, s = (seek T.gs e.key e.hash).2.1 := ⟨_, rfl⟩
 have HS1 := qd hsk1
 have HS2 := qd hsk2
 clear hsk1 hsk2
 obtain ⟨s1, hs1⟩ : ∃ s, s = slotI sk1 := ⟨_, rfl⟩
 obtain ⟨s2, hs2⟩ : ∃ s, s = slotI sk2 := ⟨_, rfl⟩
 have HI1 := qd hs1
 have HI2 := qd hs2
 clear hs1 hs2
 have HN := qd (hnd.below hB hnd.lt)
 have HT := qd (h.below hB)
 have HV0 := qd (hEn.next hB)
 have HM := qd (hM.below hB)
 have HL := qd (hL)
 have HE := qd (hE)
 have Hmod := qd (Mod.of_below hB [P.mb])
 clear hW hB hnd h hM hEn hL hE
 go_in
 go_upto_region 1 with fail
 rw [← HW.out]
 have nc := HN.out.c5
 have lc := HL.out.c4
 have ec := HE.out.c3
 go_upto_region 3 with fail
 have q1 := qJ HN.out.lt (qJ HT.out.ltT (qJ HT.out.ltG (qJ HM.out.lt (qJ HL.out.lt (qJ HE.out.lt Hmod.out.size)))))
 refine cutT (fun a' wz => ∃ sb ap fp, a' = { tmps := #[.pointer (some ⟨nb, 0, none⟩), .agg #[.pointer (some ⟨P.mb, P.mo, none⟩), .int .i64 c.p, .int .i64 c.v, .int .i64 c.u], .agg #[.int .u64 (e.key : Int), .int .u64 (e.val : Int), .int .u64 (e.hash : Int)], .bool false, undef, .pointer (some ⟨w.heap.size, 0, none⟩), .pointer (some ⟨w.heap.size + 1, 0, none⟩), undef, .bool false, .nilIface, .pointer (some ⟨sb, 0, none⟩), undef, undef, undef, .pointer (some ⟨nb, 0, none⟩), .pointer (some ⟨nb, 0, none⟩), .pointer (some ⟨nb, 4, none⟩), .pointer none, .bool false, undef, undef, undef, undef, undef, undef, undef, undef, undef, undef, .pointer (some ⟨nb, 0, none⟩), .pointer (some ⟨nb, 0, none⟩), .pointer (some ⟨nb, 2, none⟩), .pointer (some ⟨tb, 0, none⟩), .agg #[.pointer (some ⟨P.mb, P.mo, none⟩), .int .i64 c.p, .int .i64 c.v, .int .i64 c.u], .pointer (some ⟨w.heap.size + 1, 0, none⟩), .int .u64 (e.key : Int), .pointer (some ⟨w.heap.size + 1, 2, none⟩), .int .u64 (e.hash : Int), .agg #[.pointer (some ⟨tb, 0, none⟩), .int .u64 (e.key : Int), .int .u64 (e.hash : Int), .pointer ap, .int .i64 s1, .pointer fp, .int .i64 s2], undef, undef, undef, undef, undef, undef, undef, undef, undef, undef, undef, undef, undef, undef, undef, undef, undef, undef, undef], defers := [] } ∧ Blk wz nb 172 #[.int .i64 pfx, .int .i64 dpt, .pointer (some ⟨tb, 0, none⟩), .int .i64 job, .pointer none] ∧ TabAt wz tb gb T ∧ Env W0 E wz ∧ Blk wz w.heap.size 138 #[.pointer (some ⟨P.mb, P.mo, none⟩), .int .i64 c.p, .int .i64 c.v, .int .i64 c.u] ∧ Blk wz (w.heap.size + 1) 141 #[.int .u64 (e.key : Int), .int .u64 (e.val : Int), .int .u64 (e.hash : Int)] ∧ MetP wz P (x.add c (seek T.gs e.key e.hash).2.2) ∧ PtrOf gb sk1 ap ∧ PtrOf gb sk2 fp ∧ Blk wz sb 189 #[.pointer (some ⟨tb, 0, none⟩), .int .u64 (e.key : Int), .int .u64 (e.hash : Int), .pointer ap, .int .i64 s1, .pointer fp, .int .i64 s2] ∧ W.heap.size ≤ sb ∧ Mod ([P.mb]) w wz) ?_ ?_
 ·refine rT (fun (w' : World) => w'.cell? ⟨nb, 2, none⟩ = some (.pointer (some ⟨tb, 0, none⟩)) ∧ w'.cell? ⟨w.heap.size, 0, none⟩ = some (.pointer (some ⟨P.mb, P.mo, none⟩)) ∧ w'.cell? ⟨w.heap.size, 1, none⟩ = some (.int .i64 c.p) ∧ w'.cell? ⟨w.heap.size, 2, none⟩ = some (.int .i64 c.v) ∧ w'.cell? ⟨w.heap.size, 3, none⟩ = some (.int .i64 c.u) ∧ w'.cell? ⟨w.heap.size + 1, 0, none⟩ = some (.int .u64 (e.key : Int)) ∧ w'.cell? ⟨w.heap.size + 1, 2, none⟩ = some (.int .u64 (e.hash : Int))) [] ?_
  have hHeld := (⟨nc.2.2.1, lc.1, lc.2.1, lc.2.2.1, lc.2.2.2, ec.1, ec.2.2⟩ : _ ∧ _ ∧ _ ∧ _ ∧ _ ∧ _ ∧ _)
  refine vW 0 rfl ?_
  refine vW 1 rfl ?_
  refine vW 2 rfl ?_
  refine vT 3 rfl ?_
  refine vT 4 rfl ?_
  refine vW 5 rfl ?_
  refine vT 6 rfl ?_
  refine vW 7 rfl ?_
  refine vT 8 rfl ?_
  clear hHeld
  refine nameW (F := fun v => Mod [] W v) (Mod.drewN [] W 1) ?_
  rintro v1 hm
  clear nc lc ec
  replace HN := qM hm HN
  replace HT := qM hm HT
  replace HV0 := qM hm HV0
  replace HM := qM hm HM
  replace HL := qM hm HL
  replace HE := qM hm HE
  have z208 := (hm).size
  replace Hmod := qU Hmod hm
  clear hm
  refine pairT (i := 9) (j := 10) (o := ⟨some 38, _, _, _, _, _⟩) (o' := ⟨some 10, _, _, _, _, _⟩) rfl rfl (by kernel_rfl) (fun K hK => ?_) (fun K hK => ?_)
  ·have nc := HN.out.c5
   have lc := HL.out.c4
   have ec := HE.out.c3
   go_simp
   have HSk := qd (seek_at tb gb e.key e.hash T P x c v1 HT.out hP h64 HM.out (by omega) (by omega) HV0.out hb0)
   rw [← HS1.out, ← HS2.out, ← HI1.out, ← HI2.out] at HSk
   unfold spotV tabP lensV at HSk
   refine (HSk.out).mono ?_
   rintro y v2 ⟨ap, fp, rfl, hap, hfp, hM2, hm⟩
   clear HSk HM nc lc ec
   replace HN := qM hm HN
   replace HT := qM hm HT
   replace HV0 := qM hm HV0
   replace HL := qM hm HL
   replace HE := qM hm HE
   have z309 := (hm).size
   replace Hmod := qU Hmod hm
   clear hm
   have HM := qd (hM2)
   have HA := qd (hap)
   have HF := qd (hfp)
   have nc := HN.out.c5
   have lc := HL.out.c4
   have ec := HE.out.c3
   go_wp2_with fail
   refine kO hK ?_
   clear hK K
   refine nT 10 rfl fun K hK => ?_
   have nc := HN.out.c5
   have lc := HL.out.c4
   have ec := HE.out.c3
   go_simp
   have q310 := qJ HN.out.lt (qJ HT.out.ltT (qJ HT.out.ltG (qJ HL.out.lt (qJ HE.out.lt (qJ HM.out.lt Hmod.out.size)))))
   refine nameB 189 #[.pointer none, .int .u64 0, .int .u64 0, .pointer none, .int .i64 0, .pointer none, .int .i64 0] ?_
   rintro v3 ⟨hnew, hb⟩
   obtain ⟨sb, hsb⟩ : ∃ sb, sb = v2.heap.size := ⟨_, rfl⟩
   rw [← hsb] at hnew ⊢
   replace hsb : v2.heap.size ≤ sb := by omega
   clear nc lc ec
   replace HN := qB hb HN
   replace HT := qB hb HT
   replace HV0 := qB hb HV0
   replace HL := qB hb HL
   replace HE := qB hb HE
   replace HM := qB hb HM
   have z317 := (hb).size
   replace Hmod := qT Hmod hb
   have HS := qd (hnew)
   clear hnew hb
   have nc := HN.out.c5
   have lc := HL.out.c4
   have ec := HE.out.c3
   refine kO hK ?_
   clear hK K
   refine nT 11 rfl fun K hK => ?_
   have nc := HN.out.c5
   have lc := HL.out.c4
   have ec := HE.out.c3
   have yc := HS.out.c7
   have yf := HS.out.f7
   go_simp
   have q318 := qJ HN.out.lt (qJ HT.out.ltT (qJ HT.out.ltG (qJ HL.out.lt (qJ HE.out.lt (qJ HM.out.lt HS.out.lt)))))
   refine qS7 HS.out ?_
   rintro v4 ⟨hnew, hm⟩
   simp only [pt] at hnew
   clear nc lc ec yc yf
   replace HN := qM hm HN
   replace HT := qM hm HT
   replace HV0 := qM hm HV0
   replace HL := qM hm HL
   replace HE := qM hm HE
   replace HM := qM hm HM
   have z325 := (hm).size
   replace Hmod := qU Hmod hm
   replace HS := qd hnew
   clear hnew hm
   have nc := HN.out.c5
   have lc := HL.out.c4
   have ec := HE.out.c3
   refine kO hK ?_
   clear hK K
   refine doneT (by kernel_rfl) ?_ _
   have z326 := Hmod.out.size
   exact ⟨sb, ap, fp, rfl, HN.out, HT.out, HV0.out, HL.out, HE.out, HM.out, HA.out, HF.out, HS.out, by omega, Hmod.out⟩
  ·have nc := HN.out.c5
   have lc := HL.out.c4
   have ec := HE.out.c3
   go_simp
   have q409 := qJ HN.out.lt (qJ HT.out.ltT (qJ HT.out.ltG (qJ HM.out.lt (qJ HL.out.lt (qJ HE.out.lt Hmod.out.size)))))
   refine nameB 189 #[.pointer none, .int .u64 0, .int .u64 0, .pointer none, .int .i64 0, .pointer none, .int .i64 0] ?_
   rintro v5 ⟨hnew, hb⟩
   obtain ⟨sb, hsb⟩ : ∃ sb, sb = v1.heap.size := ⟨_, rfl⟩
   rw [← hsb] at hnew ⊢
   replace hsb : v1.heap.size ≤ sb := by omega
   clear nc lc ec
   replace HN := qB hb HN
   replace HT := qB hb HT
   replace HV0 := qB hb HV0
   replace HM := qB hb HM
   replace HL := qB hb HL
   replace HE := qB hb HE
   have z416 := (hb).size
   replace Hmod := qT Hmod hb
   have HS := qd (hnew)
   clear hnew hb
   have nc := HN.out.c5
   have lc := HL.out.c4
   have ec := HE.out.c3
   refine kO hK ?_
   clear hK K
   refine nT 9 rfl fun K hK => ?_
   have nc := HN.out.c5
   have lc := HL.out.c4
   have ec := HE.out.c3
   go_simp
   have HSk := qd (seek_at tb gb e.key e.hash T P x c v5 HT.out hP h64 HM.out (by omega) (by omega) HV0.out hb0)
   rw [← HS1.out, ← HS2.out, ← HI1.out, ← HI2.out] at HSk
   unfold spotV tabP lensV at HSk
   refine (HSk.out).mono ?_
   rintro y v6 ⟨ap, fp, rfl, hap, hfp, hM2, hm⟩
   clear HSk HM nc lc ec
   replace HN := qM hm HN
   replace HT := qM hm HT
   replace HV0 := qM hm HV0
   replace HL := qM hm HL
   replace HE := qM hm HE
   replace HS := qM hm HS
   have z417 := (hm).size
   replace Hmod := qU Hmod hm
   clear hm
   have HM := qd (hM2)
   have HA := qd (hap)
   have HF := qd (hfp)
   have nc := HN.out.c5
   have lc := HL.out.c4
   have ec := HE.out.c3
   go_wp2_with fail
   refine kO hK ?_
   clear hK K
   refine nT 11 rfl fun K hK => ?_
   have nc := HN.out.c5
   have lc := HL.out.c4
   have ec := HE.out.c3
   have yc := HS.out.c7
   have yf := HS.out.f7
   go_simp
   have q418 := qJ HN.out.lt (qJ HT.out.ltT (qJ HT.out.ltG (qJ HL.out.lt (qJ HE.out.lt (qJ HS.out.lt HM.out.lt)))))
   refine qS7 HS.out ?_
   rintro v7 ⟨hnew, hm⟩
   simp only [pt] at hnew
   clear nc lc ec yc yf
   replace HN := qM hm HN
   replace HT := qM hm HT
   replace HV0 := qM hm HV0
   replace HL := qM hm HL
   replace HE := qM hm HE
   replace HM := qM hm HM
   have z425 := (hm).size
   replace Hmod := qU Hmod hm
   replace HS := qd hnew
   clear hnew hm
   have nc := HN.out.c5
   have lc := HL.out.c4
   have ec := HE.out.c3
   refine kO hK ?_
   clear hK K
   refine doneT (by kernel_rfl) ?_ _
   have z426 := Hmod.out.size
   exact ⟨sb, ap, fp, rfl, HN.out, HT.out, HV0.out, HL.out, HE.out, HM.out, HA.out, HF.out, HS.out, by omega, Hmod.out⟩
 clear nc lc ec HN HT HV0 HM HL HE Hmod
 rintro a' w2 ⟨sb, ap, fp, rfl, m_N, m_T, m_V0, m_L, m_E, m_M, m_A, m_F, m_box, hle_sb, m_mod⟩
 have HN := qd (m_N)
 have HT := qd (m_T)
 have HV0 := qd (m_V0)
 have HL := qd (m_L)
 have HE := qd (m_E)
 have HM := qd (m_M)
 have HA := qd (m_A)
 have HF := qd (m_F)
 have HS := qd (m_box)
 have Hmod := qd (m_mod)
 clear m_N m_T m_V0 m_L m_E m_M m_A m_F m_box m_mod
 go_upto_region 4 with fail
 have sc := HS.out.c7
 have HEnt := qd (spot_Entry tb gb e.key e.hash T ap fp s2 (by rw [← HS1.out]; exact HA.out) w2 HT.out)
 unfold foundE at HEnt
 rw [← HS1.out, ← HI1.out] at HEnt
 unfold spotV optE entV at HEnt
 simp only [Option.isSome_map] at HEnt
 have hq := HS1.out
 rw [hsk] at hq
 rw [hq] at HEnt HA HI1
 simp only [Option.map_none, Option.getD_none, Option.isSome_none] at HEnt
 clear hq
 go_wp2_with fail
 refine (HEnt.out).mono ?_
 rintro x w3 ⟨rfl, hb⟩
 clear sc
 replace HN := qB hb HN
 replace HT := qB hb HT
 replace HV0 := qB hb HV0
 replace HL := qB hb HL
 replace HE := qB hb HE
 replace HM := qB hb HM
 replace HS := qB hb HS
 have z8 := (hb).size
 replace Hmod := qT Hmod hb
 clear hb HEnt
 go_upto_region 8 with fail
 have q9 := qJ HN.out.lt (qJ HT.out.ltT (qJ HT.out.ltG (qJ HL.out.lt (qJ HE.out.lt (qJ HM.out.lt (qJ HS.out.lt Hmod.out.size))))))
 refine nameB 141 #[.int .u64 0, .int .u64 0, .int .u64 0] ?_
 rintro w4 ⟨hnew, hb⟩
 replace HN := qB hb HN
 replace HT := qB hb HT
 replace HV0 := qB hb HV0
 replace HL := qB hb HL
 replace HE := qB hb HE
 replace HM := qB hb HM
 replace HS := qB hb HS
 have z17 := (hb).size
 replace Hmod := qT Hmod hb
 have HD := qd (hnew)
 clear hnew hb
 have hi1 := HI1.out
 simp only [slotI] at hi1
 subst hi1
 clear HA HF HI1 HI2 HS1 HS2
 have sc := HS.out.c7
 have ec := HE.out.c3
 have her := HV0.out.errs.at_ 2 (by omega) (by omega)
 unfold ErrAt gE at her
 simp only at her
 go_region
 go_wp2
 replace HN := qd (HN.out.drew)
 replace HT := qd (HT.out.below (Below.refl _ _).drew)
 replace HM := qd (HM.out.below (Below.refl _ _).drew)
 replace Hmod := qd (Hmod.out.then (Mod.drewN _ _ 1))
 refine bodyPost_ret (v := .tuple #[.bool false, .iface 326 (.pointer (some (E 2)))]) (by simp [results, Tryz.results70, go_sem]) rfl ⟨by rw [errV_pos E (by omega : 1 ≤ 2)], HT.out, HM.out, Hmod.out⟩
end Go.Proofs.YtgfcmdmpegomdaaGreatDoor
