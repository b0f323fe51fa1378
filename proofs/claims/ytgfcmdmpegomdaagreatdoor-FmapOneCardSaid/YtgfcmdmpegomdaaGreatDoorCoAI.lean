/- A dual's seek by its contract. -/
import Derived.Test.YtgfcmdmpegomdaaGreatDoorCoAH
import Derived.Test.YtgfcmdmpegomdaaGreatDoorSqM
import Derived.Test.YtgfcmdmpegomdaaGreatDoorCoO
import Derived.Test.YtgfcmdmpegomdaaGreatDoorLaneP
namespace Go.Proofs.YtgfcmdmpegomdaaGreatDoor
set_option maxRecDepth 100000
set_option maxHeartbeats 8000000
open Go.RowKit AmC
variable {W0 : World} {E : Nat → Addr}
theorem cutT {P : Program} {c : Code} {a : Act} {w : World} {Q : Exit → Act → World → Prop} (R : Act → World → Prop) (h : c.wp P (cutQ R Q) a w) (hR : ∀ a w, R a w → Q .normal a w) : c.wp P Q a w :=
 wp_mono h fun e a w hq => by cases e <;> first | exact hR _ _ hq | exact hq
theorem seek_at (tb gb key hash : Nat) (T : TabM) (P : MP) (x : Mtr) (c : Cnt) (w : World) (h : TabAt w tb gb T) (hP : Pw T.gs.length) (h64 : hash < 18446744073709551616) (hM : MetP w P x) (hmt : P.mb ≠ tb) (hmg : P.mb ≠ gb) (hE : Env W0 E w) (hb0 : W0.heap.size ≤ P.mb) :
  Calls Tryz.prog 92 #[tabP tb, lensV (some ⟨P.mb, P.mo, none⟩) c, .int .u64 (key : Int), .int .u64 (hash : Int)] w fun e w' => ∃ ap fp, e = .returned (spotV tb key hash ap (slotI (seek T.gs key hash).1) fp (slotI (seek T.gs key hash).2.1)) ∧
   PtrOf gb (seek T.gs key hash).1 ap ∧ PtrOf gb (seek T.gs key hash).2.1 fp ∧ MetP w' P (x.add c (seek T.gs key hash).2.2) ∧ Mod [P.mb] w w' :=
 table_Seek tb gb key hash T P.mb P.mt P.pre P.post P.mo x.all x.last P.m c w h hP h64 hM hmt hmg hE.tz (by have := hE.tzlt; omega)
def SeekPost (w : World) (P : MP) (x : Mtr) (c : Cnt) (key hash tX gX : Nat) (TX : TabM) (cnt : Nat) (e : Ending) (w' : World) : Prop :=
 ∃ ap fp, e = .returned (.tuple #[spotV tX key hash ap (slotI (seek TX.gs key hash).1) fp (slotI (seek TX.gs key hash).2.1), .bool (seek TX.gs key hash).1.isSome]) ∧
  PtrOf gX (seek TX.gs key hash).1 ap ∧ PtrOf gX (seek TX.gs key hash).2.1 fp ∧ MetP w' P (x.add c cnt) ∧ Mod [P.mb] w w'
theorem dual_seek_bld (db rb cap ob og : Nat) (bl : List (Nat × Nat × Nat)) (T : TabM) (n depth k key hash : Nat) (P : MP) (x : Mtr) (c : Cnt) (w : World) (h : DuB w db rb cap ob og bl T n depth k) (hok : Pw T.gs.length) (h64 : hash < 18446744073709551616) (hM : MetP w P x) (hE : Env W0 E w) (hb0 : W0.heap.size ≤ P.mb) (hmt : P.mb ≠ ob ∧ P.mb ≠ og ∧ P.mb ≠ db) :
  Calls Tryz.prog 134 #[dualP db, lensV (some ⟨P.mb, P.mo, none⟩) c, .int .u64 (key : Int), .int .u64 (hash : Int)] w (SeekPost w P x c key hash ob og T (seek T.gs key hash).2.2) := by
 obtain ⟨hmt, hmg, hmd⟩ := hmt
 obtain ⟨W, hW, hB, hL, hR⟩ := qX2 w 138 #[.pointer (some ⟨P.mb, P.mo, none⟩), .int .i64 c.p, .int .i64 c.v, .int .i64 c.u] 189 #[.pointer none, .int .u64 0, .int .u64 0, .pointer none, .int .i64 0, .pointer none, .int .i64 0]
 have hml := hM.lt
 have hB0 := hE.size
 have hdl := h.blk.lt
 have hol := h.tab.ltT
 have hgl := h.tab.ltG
 have HW := qd hW
 have HRd := qd (dual_Ready_no db W (by have := (h.blk.mod (Mod.of_below hB []) (by simp)).cell 3; simpa using this))
 unfold dualP at HRd
 have HD := qd (h.blk.below hB h.blk.lt)
 have HT := qd (h.tab.below hB)
 have HV0 := qd (hE.next hB)
 have HM := qd (hM.below hB)
 have HL := qd (hL)
 have HR := qd (hR)
 have Hmod := qd (Mod.of_below hB [P.mb])
 clear hW hB h hE hM hL hR
 unfold SeekPost dualP lensV spotV
 obtain ⟨sk1, hsk1⟩ : ∃ s, s = (seek T.gs key hash).1 := ⟨_, rfl⟩
 obtain ⟨sk2, hsk2⟩ : ∃ s, s = (seek T.gs key hash).2.1 := ⟨_, rfl⟩
 rw [← hsk1, ← hsk2]
 have HS1 := qd hsk1
 have HS2 := qd hsk2
 clear hsk1 hsk2
 obtain ⟨s1, hs1⟩ : ∃ s, s = slotI sk1 := ⟨_, rfl⟩
 obtain ⟨s2, hs2⟩ : ∃ s, s = slotI sk2 := ⟨_, rfl⟩
 rw [← hs1, ← hs2]
 have HI1 := qd hs1
 have HI2 := qd hs2
 clear hs1 hs2
 go_in
 go_upto_region 1 with fail
 rw [← HW.out]
 go_wp2_with fail
 refine (HRd.out).mono ?_
 rintro y w1 ⟨rfl, rfl⟩
 clear HRd
 go_upto_region 2 with fail
 have dc := HD.out.c6
 have lc := HL.out.c4
 have q1 := qJ HD.out.lt (qJ HT.out.ltT (qJ HT.out.ltG (qJ HM.out.lt (qJ HL.out.lt (qJ HR.out.lt Hmod.out.size)))))
 refine cutT (fun a' wz => ∃ sb ap fp, a' = { tmps := ([.pointer (some ⟨db, 0, none⟩), .agg #[.pointer (some ⟨P.mb, P.mo, none⟩), .int .i64 c.p, .int .i64 c.v, .int .i64 c.u], .int .u64 (key : Int), .int .u64 (hash : Int), undef, .pointer (some ⟨w.heap.size, 0, none⟩), undef, undef, .pointer (some ⟨w.heap.size + 1, 0, none⟩), .bool false, .pointer (some ⟨sb, 0, none⟩), undef, undef, undef, undef, undef, undef, undef, undef, .pointer (some ⟨db, 0, none⟩), .bool false, .bool true, .pointer (some ⟨db, 0, none⟩), .pointer (some ⟨db, 0, none⟩), .pointer (some ⟨db, 0, none⟩), .pointer (some ⟨ob, 0, none⟩), .agg #[.pointer (some ⟨P.mb, P.mo, none⟩), .int .i64 c.p, .int .i64 c.v, .int .i64 c.u], .int .u64 (key : Int), .int .u64 (hash : Int), .agg #[.pointer (some ⟨ob, 0, none⟩), .int .u64 (key : Int), .int .u64 (hash : Int), .pointer ap, .int .i64 s1, .pointer fp, .int .i64 s2], undef, undef, undef, undef, undef, undef, undef, undef, undef, undef] ++ [undef, undef, undef, undef, undef, undef, undef, undef, undef, undef, undef, undef, undef, undef, undef, undef, undef, undef, undef, undef, undef, undef, undef, undef, undef, undef, undef, undef, undef, undef]).toArray, defers := [] } ∧ Blk wz db 279 #[.pointer (some ⟨ob, 0, none⟩), .int .i64 (depth : Int), .slice (some ⟨rb, 0, none⟩) bl.length cap, .slice none 0 0, .pointer none, .bool false] ∧ TabAt wz ob og T ∧ Env W0 E wz ∧ Blk wz w.heap.size 138 #[.pointer (some ⟨P.mb, P.mo, none⟩), .int .i64 c.p, .int .i64 c.v, .int .i64 c.u] ∧ Blk wz (w.heap.size + 1) 189 #[.pointer none, .int .u64 0, .int .u64 0, .pointer none, .int .i64 0, .pointer none, .int .i64 0] ∧ MetP wz P (x.add c (seek T.gs key hash).2.2) ∧ PtrOf og sk1 ap ∧ PtrOf og sk2 fp ∧ Blk wz sb 189 #[.pointer (some ⟨ob, 0, none⟩), .int .u64 (key : Int), .int .u64 (hash : Int), .pointer ap, .int .i64 s1, .pointer fp, .int .i64 s2] ∧ W.heap.size ≤ sb ∧ Mod ([P.mb]) w wz) ?_ ?_
 ·refine rT (fun (w' : World) => w'.cell? ⟨db, 0, none⟩ = some (.pointer (some ⟨ob, 0, none⟩)) ∧ w'.cell? ⟨w.heap.size, 0, none⟩ = some (.pointer (some ⟨P.mb, P.mo, none⟩)) ∧ w'.cell? ⟨w.heap.size, 1, none⟩ = some (.int .i64 c.p) ∧ w'.cell? ⟨w.heap.size, 2, none⟩ = some (.int .i64 c.v) ∧ w'.cell? ⟨w.heap.size, 3, none⟩ = some (.int .i64 c.u)) [] ?_
  have hHeld := (⟨dc.1, lc.1, lc.2.1, lc.2.2.1, lc.2.2.2⟩ : _ ∧ _ ∧ _ ∧ _ ∧ _)
  refine vW 0 rfl ?_
  refine vW 1 rfl ?_
  refine vW 2 rfl ?_
  refine vT 3 rfl ?_
  refine vT 4 rfl ?_
  refine vW 5 rfl ?_
  refine vW 6 rfl ?_
  clear hHeld
  refine nameW (F := fun v => Mod [] W v) (Mod.drewN [] W 1) ?_
  rintro v1 hm
  clear dc lc
  replace HD := qM hm HD
  replace HT := qM hm HT
  replace HV0 := qM hm HV0
  replace HM := qM hm HM
  replace HL := qM hm HL
  replace HR := qM hm HR
  have z208 := (hm).size
  replace Hmod := qU Hmod hm
  clear hm
  refine pairT (i := 7) (j := 8) (o := ⟨some 29, _, _, _, _, _⟩) (o' := ⟨some 10, _, _, _, _, _⟩) rfl rfl (by kernel_rfl) (fun K hK => ?_) (fun K hK => ?_)
  ·have dc := HD.out.c6
   have lc := HL.out.c4
   go_simp
   have HSk := qd (seek_at ob og key hash T P x c v1 HT.out hok h64 HM.out (by omega) (by omega) HV0.out hb0)
   rw [← HS1.out, ← HS2.out, ← HI1.out, ← HI2.out] at HSk
   unfold spotV tabP lensV at HSk
   refine (HSk.out).mono ?_
   rintro y v2 ⟨ap, fp, rfl, hap, hfp, hM2, hm⟩
   clear HSk HM dc lc
   replace HD := qM hm HD
   replace HT := qM hm HT
   replace HV0 := qM hm HV0
   replace HL := qM hm HL
   replace HR := qM hm HR
   have z309 := (hm).size
   replace Hmod := qU Hmod hm
   clear hm
   have HM := qd (hM2)
   have HA := qd (hap)
   have HF := qd (hfp)
   have dc := HD.out.c6
   have lc := HL.out.c4
   go_wp2_with fail
   refine kO hK ?_
   clear hK K
   refine nT 8 rfl fun K hK => ?_
   have dc := HD.out.c6
   have lc := HL.out.c4
   go_simp
   have q310 := qJ HD.out.lt (qJ HT.out.ltT (qJ HT.out.ltG (qJ HL.out.lt (qJ HR.out.lt (qJ HM.out.lt Hmod.out.size)))))
   refine nameB 189 #[.pointer none, .int .u64 0, .int .u64 0, .pointer none, .int .i64 0, .pointer none, .int .i64 0] ?_
   rintro v3 ⟨hnew, hb⟩
   obtain ⟨sb, hsb⟩ : ∃ sb, sb = v2.heap.size := ⟨_, rfl⟩
   rw [← hsb] at hnew ⊢
   replace hsb : v2.heap.size ≤ sb := by omega
   clear dc lc
   replace HD := qB hb HD
   replace HT := qB hb HT
   replace HV0 := qB hb HV0
   replace HL := qB hb HL
   replace HR := qB hb HR
   replace HM := qB hb HM
   have z317 := (hb).size
   replace Hmod := qT Hmod hb
   have HS := qd (hnew)
   clear hnew hb
   have dc := HD.out.c6
   have lc := HL.out.c4
   refine kO hK ?_
   clear hK K
   refine nT 9 rfl fun K hK => ?_
   have dc := HD.out.c6
   have lc := HL.out.c4
   have yc := HS.out.c7
   have yf := HS.out.f7
   go_simp
   have q318 := qJ HD.out.lt (qJ HT.out.ltT (qJ HT.out.ltG (qJ HL.out.lt (qJ HR.out.lt (qJ HM.out.lt HS.out.lt)))))
   refine qS7 HS.out ?_
   rintro v4 ⟨hnew, hm⟩
   simp only [pt] at hnew
   clear dc lc yc yf
   replace HD := qM hm HD
   replace HT := qM hm HT
   replace HV0 := qM hm HV0
   replace HL := qM hm HL
   replace HR := qM hm HR
   replace HM := qM hm HM
   have z325 := (hm).size
   replace Hmod := qU Hmod hm
   replace HS := qd hnew
   clear hnew hm
   have dc := HD.out.c6
   have lc := HL.out.c4
   refine kO hK ?_
   clear hK K
   refine doneT (by kernel_rfl) ?_ _
   have z326 := Hmod.out.size
   exact ⟨sb, ap, fp, rfl, HD.out, HT.out, HV0.out, HL.out, HR.out, HM.out, HA.out, HF.out, HS.out, by omega, Hmod.out⟩
  ·have dc := HD.out.c6
   have lc := HL.out.c4
   go_simp
   have q409 := qJ HD.out.lt (qJ HT.out.ltT (qJ HT.out.ltG (qJ HM.out.lt (qJ HL.out.lt (qJ HR.out.lt Hmod.out.size)))))
   refine nameB 189 #[.pointer none, .int .u64 0, .int .u64 0, .pointer none, .int .i64 0, .pointer none, .int .i64 0] ?_
   rintro v5 ⟨hnew, hb⟩
   obtain ⟨sb, hsb⟩ : ∃ sb, sb = v1.heap.size := ⟨_, rfl⟩
   rw [← hsb] at hnew ⊢
   replace hsb : v1.heap.size ≤ sb := by omega
   clear dc lc
   replace HD := qB hb HD
   replace HT := qB hb HT
   replace HV0 := qB hb HV0
   replace HM := qB hb HM
   replace HL := qB hb HL
   replace HR := qB hb HR
   have z416 := (hb).size
   replace Hmod := qT Hmod hb
   have HS := qd (hnew)
   clear hnew hb
   have dc := HD.out.c6
   have lc := HL.out.c4
   refine kO hK ?_
   clear hK K
   refine nT 7 rfl fun K hK => ?_
   have dc := HD.out.c6
   have lc := HL.out.c4
   go_simp
   have HSk := qd (seek_at ob og key hash T P x c v5 HT.out hok h64 HM.out (by omega) (by omega) HV0.out hb0)
   rw [← HS1.out, ← HS2.out, ← HI1.out, ← HI2.out] at HSk
   unfold spotV tabP lensV at HSk
   refine (HSk.out).mono ?_
   rintro y v6 ⟨ap, fp, rfl, hap, hfp, hM2, hm⟩
   clear HSk HM dc lc
   replace HD := qM hm HD
   replace HT := qM hm HT
   replace HV0 := qM hm HV0
   replace HL := qM hm HL
   replace HR := qM hm HR
   replace HS := qM hm HS
   have z417 := (hm).size
   replace Hmod := qU Hmod hm
   clear hm
   have HM := qd (hM2)
   have HA := qd (hap)
   have HF := qd (hfp)
   have dc := HD.out.c6
   have lc := HL.out.c4
   go_wp2_with fail
   refine kO hK ?_
   clear hK K
   refine nT 9 rfl fun K hK => ?_
   have dc := HD.out.c6
   have lc := HL.out.c4
   have yc := HS.out.c7
   have yf := HS.out.f7
   go_simp
   have q418 := qJ HD.out.lt (qJ HT.out.ltT (qJ HT.out.ltG (qJ HL.out.lt (qJ HR.out.lt (qJ HS.out.lt HM.out.lt)))))
   refine qS7 HS.out ?_
   rintro v7 ⟨hnew, hm⟩
   simp only [pt] at hnew
   clear dc lc yc yf
   replace HD := qM hm HD
   replace HT := qM hm HT
   replace HV0 := qM hm HV0
   replace HL := qM hm HL
   replace HR := qM hm HR
   replace HM := qM hm HM
   have z425 := (hm).size
   replace Hmod := qU Hmod hm
   replace HS := qd hnew
   clear hnew hm
   have dc := HD.out.c6
   have lc := HL.out.c4
   refine kO hK ?_
   clear hK K
   refine doneT (by kernel_rfl) ?_ _
   have z426 := Hmod.out.size
   exact ⟨sb, ap, fp, rfl, HD.out, HT.out, HV0.out, HL.out, HR.out, HM.out, HA.out, HF.out, HS.out, by omega, Hmod.out⟩
 clear dc lc HD HT HV0 HM HL HR Hmod
 rintro a' w2 ⟨sb, ap, fp, rfl, m_D, m_T, m_V0, m_L, m_R, m_M, m_A, m_F, m_box, hle_sb, m_mod⟩
 simp only [List.cons_append, List.nil_append, List.append_assoc]
 have HD := qd (m_D)
 have HT := qd (m_T)
 have HV0 := qd (m_V0)
 have HL := qd (m_L)
 have HR := qd (m_R)
 have HM := qd (m_M)
 have HA := qd (m_A)
 have HF := qd (m_F)
 have HS := qd (m_box)
 have Hmod := qd (m_mod)
 clear m_D m_T m_V0 m_L m_R m_M m_A m_F m_box m_mod
 obtain ⟨fb, hfb⟩ : ∃ b, b = sk1.isSome := ⟨_, rfl⟩
 have HFB := qd hfb
 clear hfb
 go_upto_region 3 with fail
 have sc := HS.out.c7
 have HEn := qd (spot_Entry ob og key hash T ap fp s2 (by rw [← HS1.out]; exact HA.out) w2 HT.out)
 unfold foundE at HEn
 rw [← HS1.out, ← HI1.out] at HEn
 unfold spotV optE entV at HEn
 simp only [Option.isSome_map] at HEn
 obtain ⟨fe, hfe⟩ : ∃ fe, fe = ((sk1.map fun x => (slotAt T.gs x.1 x.2).ent).getD ⟨0, 0, 0⟩) := ⟨_, rfl⟩
 rw [← hfe] at HEn
 clear hfe
 go_wp2_with fail
 refine (HEn.out).mono ?_
 rintro x w3 ⟨rfl, hb⟩
 clear sc
 replace HD := qB hb HD
 replace HT := qB hb HT
 replace HV0 := qB hb HV0
 replace HL := qB hb HL
 replace HR := qB hb HR
 replace HM := qB hb HM
 replace HS := qB hb HS
 have z8 := (hb).size
 replace Hmod := qT Hmod hb
 clear hb HEn
 go_upto_region 4 with fail
 have q9 := qJ HD.out.lt (qJ HT.out.ltT (qJ HT.out.ltG (qJ HL.out.lt (qJ HR.out.lt (qJ HM.out.lt (qJ HS.out.lt Hmod.out.size))))))
 refine nameB 141 #[.int .u64 (fe.key : Int), .int .u64 (fe.val : Int), .int .u64 (fe.hash : Int)] ?_
 rintro w4 ⟨hnew, hb⟩
 replace HD := qB hb HD
 replace HT := qB hb HT
 replace HV0 := qB hb HV0
 replace HL := qB hb HL
 replace HR := qB hb HR
 replace HM := qB hb HM
 replace HS := qB hb HS
 have z17 := (hb).size
 replace Hmod := qT Hmod hb
 have HY := qd (hnew)
 clear hnew hb
 have sc := HS.out.c7
 have rc := HR.out.c7
 have rf := HR.out.f7
 go_wp2
 have q18 := qJ HD.out.lt (qJ HT.out.ltT (qJ HT.out.ltG (qJ HL.out.lt (qJ HR.out.lt (qJ HM.out.lt (qJ HS.out.lt HY.out.lt))))))
 have hnew := (((((((HR.out.set_ 0 (.pointer (some ⟨ob, 0, none⟩))).set_ 1 (.int .u64 (key : Int))).set_ 2 (.int .u64 (hash : Int))).set_ 3 (.pointer ap)).set_ 4 (.int .i64 s1)).set_ 5 (.pointer fp)).set_ 6 (.int .i64 s2))
 have hm := ((((((((Mod.refl [(w.heap.size + 1)] w4).sl 0 (.pointer (some ⟨ob, 0, none⟩))).sl 1 (.int .u64 (key : Int))).sl 2 (.int .u64 (hash : Int))).sl 3 (.pointer ap)).sl 4 (.int .i64 s1)).sl 5 (.pointer fp)).sl 6 (.int .i64 s2))
 simp only [pt] at hnew
 refine nameW (F := fun v => Blk v (w.heap.size + 1) 189 #[.pointer (some ⟨ob, 0, none⟩), .int .u64 (key : Int), .int .u64 (hash : Int), .pointer ap, .int .i64 s1, .pointer fp, .int .i64 s2] ∧ Mod [(w.heap.size + 1)] w4 v) ⟨hnew, hm⟩ ?_
 clear hnew hm
 rintro w5 ⟨hnew, hm⟩
 clear sc rc rf
 replace HD := qM hm HD
 replace HT := qM hm HT
 replace HV0 := qM hm HV0
 replace HL := qM hm HL
 replace HM := qM hm HM
 replace HS := qM hm HS
 replace HY := qM hm HY
 have z26 := (hm).size
 replace Hmod := qU Hmod hm
 replace HR := qd hnew
 clear hnew hm
 have rx := HR.out.c7
 refine bodyPost_ret (v := .tuple #[.agg #[.pointer (some ⟨ob, 0, none⟩), .int .u64 (key : Int), .int .u64 (hash : Int), .pointer ap, .int .i64 s1, .pointer fp, .int .i64 s2], .bool sk1.isSome]) (by simp [results, Tryz.results134, go_sem, rx.1, rx.2.1, rx.2.2.1, rx.2.2.2.1, rx.2.2.2.2.1, rx.2.2.2.2.2.1, rx.2.2.2.2.2.2]) rfl ⟨ap, fp, rfl, HA.out, HF.out, HM.out, Hmod.out⟩
theorem dual_seek_mov (db rb cap ob og fb fcap eb vb vcap : Nat) (bbs : List Nat) (bs : List (Nat × Nat)) (T : TabM) (Ts : List TabM) (n depth next key hash sd : Nat) (b : Nat × Nat) (Tx : TabM) (P : MP) (x : Mtr) (c : Cnt) (w : World) (h : DuM w db rb cap ob og fb fcap eb vb vcap bbs bs T Ts n depth next) (hsd : sd = sideOf bs.length depth hash) (hb : bs[sd]? = some b) (hTs : Ts[sd]? = some Tx) (hok : Pw T.gs.length) (hpx : Pw Tx.gs.length) (h64 : hash < 18446744073709551616) (hM : MetP w P x) (hE : Env W0 E w) (hb0 : W0.heap.size ≤ P.mb) (hmt : P.mb ∉ footM db rb fb eb vb ob og bbs bs) (tX gX cnt : Nat) (TX : TabM) (hga : if (seek Tx.gs key hash).1.isSome then tX = b.1 ∧ gX = b.2 ∧ TX = Tx ∧ cnt = (seek Tx.gs key hash).2.2 else
   cnt = (seek Tx.gs key hash).2.2 + (seek T.gs key hash).2.2 ∧ if (seek T.gs key hash).1.isSome then tX = ob ∧ gX = og ∧ TX = T else tX = b.1 ∧ gX = b.2 ∧ TX = Tx) :
  Calls Tryz.prog 134 #[dualP db, lensV (some ⟨P.mb, P.mo, none⟩) c, .int .u64 (key : Int), .int .u64 (hash : Int)] w (SeekPost w P x c key hash tX gX TX cnt) := by
 have hmf : ∀ q ∈ footM db rb fb eb vb ob og bbs bs, P.mb ≠ q := fun q hq e => hmt (e ▸ hq)
 have hm1 := hmf db (by simp [footM])
 have hm2 := hmf ob (by simp [footM])
 have hm3 := hmf og (by simp [footM])
 have hm4 := hmf eb (by simp [footM])
 have hm5 := hmf vb (by simp [footM])
 have hm6 := hmf b.1 (by unfold footM; simp [mem_flatB]; exact .inr (.inr (.inr (.inr (.inr (.inr (.inr (.inr ⟨_, _, List.mem_of_getElem? hb, .inl rfl⟩))))))))
 have hm7 := hmf b.2 (by unfold footM; simp [mem_flatB]; exact .inr (.inr (.inr (.inr (.inr (.inr (.inr (.inr ⟨_, _, List.mem_of_getElem? hb, .inr rfl⟩))))))))
 clear hmf
 obtain ⟨W, hW, hB, hL, hR⟩ := qX2 w 138 #[.pointer (some ⟨P.mb, P.mo, none⟩), .int .i64 c.p, .int .i64 c.v, .int .i64 c.u] 189 #[.pointer none, .int .u64 0, .int .u64 0, .pointer none, .int .i64 0, .pointer none, .int .i64 0]
 have hml := hM.lt
 have hB0 := hE.size
 have hdl := h.blk.lt
 have hol := h.tab.ltT
 have hgl := h.tab.ltG
 have HW := qd hW
 have HRd := qd (dual_Ready_yes db fb bs.length fcap W (by have := (h.blk.mod (Mod.of_below hB []) (by simp)).cell 3; simpa using this))
 unfold dualP at HRd
 have hel := h.ev.lt
 have hvl := h.ev.ltV
 have hTx := h.tabs.at_ sd b Tx hb hTs
 have hxl := hTx.ltT
 have hxg := hTx.ltG
 have HTg := qd (fun (V : World) (hV : EvAt V eb ob vb vcap (bs.map Prod.fst) depth next) => evac_Target eb ob vb vcap (bs.map Prod.fst) depth next hash b.1 (by rw [List.length_map]; exact h.many) h.deep h64 (by rw [List.length_map, ← hsd, List.getElem?_map, hb]; rfl) V hV)
 unfold tabP at HTg
 have HD := qd (h.blk.below hB h.blk.lt)
 have HT := qd (h.tab.below hB)
 have HTx := qd (hTx.below hB)
 have HV := qd (h.ev.mod (Mod.of_below hB []) (by simp) (by simp))
 have HV0 := qd (hE.next hB)
 have HM := qd (hM.below hB)
 have HL := qd (hL)
 have HR := qd (hR)
 have Hmod := qd (Mod.of_below hB [P.mb])
 clear hW hB h hE hM hL hR hTx
 unfold SeekPost dualP lensV spotV
 obtain ⟨sk1, h1⟩ : ∃ s, s = (seek Tx.gs key hash).1 := ⟨_, rfl⟩
 obtain ⟨sk2, h2⟩ : ∃ s, s = (seek Tx.gs key hash).2.1 := ⟨_, rfl⟩
 have HS1 := qd h1
 have HS2 := qd h2
 clear h1 h2
 obtain ⟨s1, h1⟩ : ∃ s, s = slotI sk1 := ⟨_, rfl⟩
 obtain ⟨s2, h2⟩ : ∃ s, s = slotI sk2 := ⟨_, rfl⟩
 have HI1 := qd h1
 have HI2 := qd h2
 clear h1 h2
 obtain ⟨ok1, h1⟩ : ∃ s, s = (seek T.gs key hash).1 := ⟨_, rfl⟩
 obtain ⟨ok2, h2⟩ : ∃ s, s = (seek T.gs key hash).2.1 := ⟨_, rfl⟩
 have HO1 := qd h1
 have HO2 := qd h2
 clear h1 h2
 obtain ⟨o1, h1⟩ : ∃ s, s = slotI ok1 := ⟨_, rfl⟩
 obtain ⟨o2, h2⟩ : ∃ s, s = slotI ok2 := ⟨_, rfl⟩
 have HJ1 := qd h1
 have HJ2 := qd h2
 clear h1 h2
 have HGa := qd hga
 clear hga
 go_in
 go_upto_region 1 with fail
 rw [← HW.out]
 go_wp2_with fail
 refine (HRd.out).mono ?_
 rintro y w1 ⟨rfl, rfl⟩
 clear HRd
 go_upto_region 5 with fail
 have dc := HD.out.c6
 have lc := HL.out.c4
 have q1 := qJ HD.out.lt (qJ HT.out.ltT (qJ HT.out.ltG (qJ HTx.out.ltT (qJ HTx.out.ltG (qJ HV.out.lt (qJ HV.out.ltV (qJ HM.out.lt (qJ HL.out.lt (qJ HR.out.lt Hmod.out.size)))))))))
 refine cutT (fun a' wz => ∃ sb ap fp, a' = { tmps := ([.pointer (some ⟨db, 0, none⟩), .agg #[.pointer (some ⟨P.mb, P.mo, none⟩), .int .i64 c.p, .int .i64 c.v, .int .i64 c.u], .int .u64 (key : Int), .int .u64 (hash : Int), undef, .pointer (some ⟨w.heap.size, 0, none⟩), undef, undef, .pointer (some ⟨w.heap.size + 1, 0, none⟩), .bool false, undef, undef, undef, .pointer (some ⟨sb, 0, none⟩), undef, undef, undef, undef, undef, .pointer (some ⟨db, 0, none⟩), .bool true, .bool false, undef, undef, undef, undef, undef, undef, undef, undef, undef, undef, undef, undef, undef, undef, undef, .pointer (some ⟨db, 0, none⟩), .pointer (some ⟨db, 0, none⟩), .pointer (some ⟨db, 4, none⟩)] ++ [.pointer (some ⟨eb, 0, none⟩), .int .u64 (hash : Int), .pointer (some ⟨b.1, 0, none⟩), .agg #[.pointer (some ⟨P.mb, P.mo, none⟩), .int .i64 c.p, .int .i64 c.v, .int .i64 c.u], .int .u64 (key : Int), .int .u64 (hash : Int), .agg #[.pointer (some ⟨b.1, 0, none⟩), .int .u64 (key : Int), .int .u64 (hash : Int), .pointer ap, .int .i64 s1, .pointer fp, .int .i64 s2], undef, undef, undef, undef, undef, undef, undef, undef, undef, undef, undef, undef, undef, undef, undef, undef, undef, undef, undef, undef, undef, undef, undef]).toArray, defers := [] } ∧ Blk wz db 279 #[.pointer (some ⟨ob, 0, none⟩), .int .i64 (depth : Int), .slice (some ⟨rb, 0, none⟩) bbs.length cap, .slice (some ⟨fb, 0, none⟩) bs.length fcap, .pointer (some ⟨eb, 0, none⟩), .bool false] ∧ TabAt wz ob og T ∧ TabAt wz b.1 b.2 Tx ∧ EvAt wz eb ob vb vcap (bs.map Prod.fst) depth next ∧ Env W0 E wz ∧ Blk wz w.heap.size 138 #[.pointer (some ⟨P.mb, P.mo, none⟩), .int .i64 c.p, .int .i64 c.v, .int .i64 c.u] ∧ Blk wz (w.heap.size + 1) 189 #[.pointer none, .int .u64 0, .int .u64 0, .pointer none, .int .i64 0, .pointer none, .int .i64 0] ∧ MetP wz P (x.add c (seek Tx.gs key hash).2.2) ∧ PtrOf b.2 sk1 ap ∧ PtrOf b.2 sk2 fp ∧ Blk wz sb 189 #[.pointer (some ⟨b.1, 0, none⟩), .int .u64 (key : Int), .int .u64 (hash : Int), .pointer ap, .int .i64 s1, .pointer fp, .int .i64 s2] ∧ W.heap.size ≤ sb ∧ Mod ([P.mb]) w wz) ?_ ?_
 ·refine rT (fun (w' : World) => w'.cell? ⟨db, 0, none⟩ = some (.pointer (some ⟨ob, 0, none⟩)) ∧ w'.cell? ⟨db, 4, none⟩ = some (.pointer (some ⟨eb, 0, none⟩)) ∧ w'.cell? ⟨w.heap.size, 0, none⟩ = some (.pointer (some ⟨P.mb, P.mo, none⟩)) ∧ w'.cell? ⟨w.heap.size, 1, none⟩ = some (.int .i64 c.p) ∧ w'.cell? ⟨w.heap.size, 2, none⟩ = some (.int .i64 c.v) ∧ w'.cell? ⟨w.heap.size, 3, none⟩ = some (.int .i64 c.u)) [] ?_
  have hHeld := (⟨dc.1, dc.2.2.2.2.1, lc.1, lc.2.1, lc.2.2.1, lc.2.2.2⟩ : _ ∧ _ ∧ _ ∧ _ ∧ _ ∧ _)
  refine vW 0 rfl ?_
  refine vW 1 rfl ?_
  refine vW 2 rfl ?_
  refine vT 3 rfl ?_
  refine vW 4 rfl ?_
  refine vT 6 rfl ?_
  refine vW 7 rfl ?_
  refine vW 8 rfl ?_
  clear hHeld
  refine nameW (F := fun v => Mod [] W v) (Mod.drewN [] W 1) ?_
  rintro v1 hm
  clear dc lc
  replace HD := qM hm HD
  replace HT := qM hm HT
  replace HTx := qM hm HTx
  replace HV := qM hm HV
  replace HV0 := qM hm HV0
  replace HM := qM hm HM
  replace HL := qM hm HL
  replace HR := qM hm HR
  have z212 := (hm).size
  replace Hmod := qU Hmod hm
  clear hm
  refine pairT (i := 5) (j := 10) (o := ⟨some 42, _, _, _, _, _⟩) (o' := ⟨some 13, _, _, _, _, _⟩) rfl rfl (by kernel_rfl) (fun K hK => ?_) (fun K hK => ?_)
  ·have dc := HD.out.c6
   have lc := HL.out.c4
   go_simp
   refine (HTg.out _ HV.out).mono ?_
   rintro y v2 ⟨rfl, hb⟩
   clear dc lc
   replace HD := qB hb HD
   replace HT := qB hb HT
   replace HTx := qB hb HTx
   replace HV := qB hb HV
   replace HV0 := qB hb HV0
   replace HM := qB hb HM
   replace HL := qB hb HL
   replace HR := qB hb HR
   have z313 := (hb).size
   replace Hmod := qT Hmod hb
   clear hb
   have dc := HD.out.c6
   have lc := HL.out.c4
   go_wp2_with fail
   refine kO hK ?_
   clear hK K
   refine pairT (i := 9) (j := 10) (o := ⟨some 46, _, _, _, _, _⟩) (o' := ⟨some 13, _, _, _, _, _⟩) rfl rfl (by kernel_rfl) (fun K hK => ?_) (fun K hK => ?_)
   ·have dc := HD.out.c6
    have lc := HL.out.c4
    go_simp
    have HSk := qd (seek_at b.1 b.2 key hash Tx P x c v2 HTx.out hpx h64 HM.out (by omega) (by omega) HV0.out hb0)
    rw [← HS1.out, ← HS2.out, ← HI1.out, ← HI2.out] at HSk
    unfold spotV tabP lensV at HSk
    refine (HSk.out).mono ?_
    rintro y v3 ⟨ap, fp, rfl, hap, hfp, hM2, hm⟩
    clear HSk HM dc lc
    replace HD := qM hm HD
    replace HT := qM hm HT
    replace HTx := qM hm HTx
    replace HV := qM hm HV
    replace HV0 := qM hm HV0
    replace HL := qM hm HL
    replace HR := qM hm HR
    have z414 := (hm).size
    replace Hmod := qU Hmod hm
    clear hm
    have HM := qd (hM2)
    have HA := qd (hap)
    have HF := qd (hfp)
    have dc := HD.out.c6
    have lc := HL.out.c4
    go_wp2_with fail
    refine kO hK ?_
    clear hK K
    refine nT 10 rfl fun K hK => ?_
    have dc := HD.out.c6
    have lc := HL.out.c4
    go_simp
    have q415 := qJ HD.out.lt (qJ HT.out.ltT (qJ HT.out.ltG (qJ HTx.out.ltT (qJ HTx.out.ltG (qJ HV.out.lt (qJ HV.out.ltV (qJ HL.out.lt (qJ HR.out.lt (qJ HM.out.lt Hmod.out.size)))))))))
    refine nameB 189 #[.pointer none, .int .u64 0, .int .u64 0, .pointer none, .int .i64 0, .pointer none, .int .i64 0] ?_
    rintro v4 ⟨hnew, hb⟩
    obtain ⟨sb, hsb⟩ : ∃ sb, sb = v3.heap.size := ⟨_, rfl⟩
    rw [← hsb] at hnew ⊢
    replace hsb : v3.heap.size ≤ sb := by omega
    clear dc lc
    replace HD := qB hb HD
    replace HT := qB hb HT
    replace HTx := qB hb HTx
    replace HV := qB hb HV
    replace HV0 := qB hb HV0
    replace HL := qB hb HL
    replace HR := qB hb HR
    replace HM := qB hb HM
    have z426 := (hb).size
    replace Hmod := qT Hmod hb
    have HS := qd (hnew)
    clear hnew hb
    have dc := HD.out.c6
    have lc := HL.out.c4
    refine kO hK ?_
    clear hK K
    refine nT 11 rfl fun K hK => ?_
    have dc := HD.out.c6
    have lc := HL.out.c4
    have yc := HS.out.c7
    have yf := HS.out.f7
    go_simp
    have q427 := qJ HD.out.lt (qJ HT.out.ltT (qJ HT.out.ltG (qJ HTx.out.ltT (qJ HTx.out.ltG (qJ HV.out.lt (qJ HV.out.ltV (qJ HL.out.lt (qJ HR.out.lt (qJ HM.out.lt HS.out.lt)))))))))
    refine qS7 HS.out ?_
    rintro v5 ⟨hnew, hm⟩
    simp only [pt] at hnew
    clear dc lc yc yf
    replace HD := qM hm HD
    replace HT := qM hm HT
    replace HTx := qM hm HTx
    replace HV := qM hm HV
    replace HV0 := qM hm HV0
    replace HL := qM hm HL
    replace HR := qM hm HR
    replace HM := qM hm HM
    have z438 := (hm).size
    replace Hmod := qU Hmod hm
    replace HS := qd hnew
    clear hnew hm
    have dc := HD.out.c6
    have lc := HL.out.c4
    refine kO hK ?_
    clear hK K
    refine doneT (by kernel_rfl) ?_ _
    have z439 := Hmod.out.size
    exact ⟨sb, ap, fp, rfl, HD.out, HT.out, HTx.out, HV.out, HV0.out, HL.out, HR.out, HM.out, HA.out, HF.out, HS.out, by omega, Hmod.out⟩
   ·have dc := HD.out.c6
    have lc := HL.out.c4
    go_simp
    have q514 := qJ HD.out.lt (qJ HT.out.ltT (qJ HT.out.ltG (qJ HTx.out.ltT (qJ HTx.out.ltG (qJ HV.out.lt (qJ HV.out.ltV (qJ HM.out.lt (qJ HL.out.lt (qJ HR.out.lt Hmod.out.size)))))))))
    refine nameB 189 #[.pointer none, .int .u64 0, .int .u64 0, .pointer none, .int .i64 0, .pointer none, .int .i64 0] ?_
    rintro v6 ⟨hnew, hb⟩
    obtain ⟨sb, hsb⟩ : ∃ sb, sb = v2.heap.size := ⟨_, rfl⟩
    rw [← hsb] at hnew ⊢
    replace hsb : v2.heap.size ≤ sb := by omega
    clear dc lc
    replace HD := qB hb HD
    replace HT := qB hb HT
    replace HTx := qB hb HTx
    replace HV := qB hb HV
    replace HV0 := qB hb HV0
    replace HM := qB hb HM
    replace HL := qB hb HL
    replace HR := qB hb HR
    have z525 := (hb).size
    replace Hmod := qT Hmod hb
    have HS := qd (hnew)
    clear hnew hb
    have dc := HD.out.c6
    have lc := HL.out.c4
    refine kO hK ?_
    clear hK K
    refine nT 9 rfl fun K hK => ?_
    have dc := HD.out.c6
    have lc := HL.out.c4
    go_simp
    have HSk := qd (seek_at b.1 b.2 key hash Tx P x c v6 HTx.out hpx h64 HM.out (by omega) (by omega) HV0.out hb0)
    rw [← HS1.out, ← HS2.out, ← HI1.out, ← HI2.out] at HSk
    unfold spotV tabP lensV at HSk
    refine (HSk.out).mono ?_
    rintro y v7 ⟨ap, fp, rfl, hap, hfp, hM2, hm⟩
    clear HSk HM dc lc
    replace HD := qM hm HD
    replace HT := qM hm HT
    replace HTx := qM hm HTx
    replace HV := qM hm HV
    replace HV0 := qM hm HV0
    replace HL := qM hm HL
    replace HR := qM hm HR
    replace HS := qM hm HS
    have z526 := (hm).size
    replace Hmod := qU Hmod hm
    clear hm
    have HM := qd (hM2)
    have HA := qd (hap)
    have HF := qd (hfp)
    have dc := HD.out.c6
    have lc := HL.out.c4
    go_wp2_with fail
    refine kO hK ?_
    clear hK K
    refine nT 11 rfl fun K hK => ?_
    have dc := HD.out.c6
    have lc := HL.out.c4
    have yc := HS.out.c7
    have yf := HS.out.f7
    go_simp
    have q527 := qJ HD.out.lt (qJ HT.out.ltT (qJ HT.out.ltG (qJ HTx.out.ltT (qJ HTx.out.ltG (qJ HV.out.lt (qJ HV.out.ltV (qJ HL.out.lt (qJ HR.out.lt (qJ HS.out.lt HM.out.lt)))))))))
    refine qS7 HS.out ?_
    rintro v8 ⟨hnew, hm⟩
    simp only [pt] at hnew
    clear dc lc yc yf
    replace HD := qM hm HD
    replace HT := qM hm HT
    replace HTx := qM hm HTx
    replace HV := qM hm HV
    replace HV0 := qM hm HV0
    replace HL := qM hm HL
    replace HR := qM hm HR
    replace HM := qM hm HM
    have z538 := (hm).size
    replace Hmod := qU Hmod hm
    replace HS := qd hnew
    clear hnew hm
    have dc := HD.out.c6
    have lc := HL.out.c4
    refine kO hK ?_
    clear hK K
    refine doneT (by kernel_rfl) ?_ _
    have z539 := Hmod.out.size
    exact ⟨sb, ap, fp, rfl, HD.out, HT.out, HTx.out, HV.out, HV0.out, HL.out, HR.out, HM.out, HA.out, HF.out, HS.out, by omega, Hmod.out⟩
  ·have dc := HD.out.c6
   have lc := HL.out.c4
   go_simp
   have q413 := qJ HD.out.lt (qJ HT.out.ltT (qJ HT.out.ltG (qJ HTx.out.ltT (qJ HTx.out.ltG (qJ HV.out.lt (qJ HV.out.ltV (qJ HM.out.lt (qJ HL.out.lt (qJ HR.out.lt Hmod.out.size)))))))))
   refine nameB 189 #[.pointer none, .int .u64 0, .int .u64 0, .pointer none, .int .i64 0, .pointer none, .int .i64 0] ?_
   rintro v9 ⟨hnew, hb⟩
   obtain ⟨sb, hsb⟩ : ∃ sb, sb = v1.heap.size := ⟨_, rfl⟩
   rw [← hsb] at hnew ⊢
   replace hsb : v1.heap.size ≤ sb := by omega
   clear dc lc
   replace HD := qB hb HD
   replace HT := qB hb HT
   replace HTx := qB hb HTx
   replace HV := qB hb HV
   replace HV0 := qB hb HV0
   replace HM := qB hb HM
   replace HL := qB hb HL
   replace HR := qB hb HR
   have z424 := (hb).size
   replace Hmod := qT Hmod hb
   have HS := qd (hnew)
   clear hnew hb
   have dc := HD.out.c6
   have lc := HL.out.c4
   refine kO hK ?_
   clear hK K
   refine nT 5 rfl fun K hK => ?_
   have dc := HD.out.c6
   have lc := HL.out.c4
   go_simp
   refine (HTg.out _ HV.out).mono ?_
   rintro y v10 ⟨rfl, hb⟩
   clear dc lc
   replace HD := qB hb HD
   replace HT := qB hb HT
   replace HTx := qB hb HTx
   replace HV := qB hb HV
   replace HV0 := qB hb HV0
   replace HM := qB hb HM
   replace HL := qB hb HL
   replace HR := qB hb HR
   replace HS := qB hb HS
   have z425 := (hb).size
   replace Hmod := qT Hmod hb
   clear hb
   have dc := HD.out.c6
   have lc := HL.out.c4
   go_wp2_with fail
   refine kO hK ?_
   clear hK K
   refine nT 9 rfl fun K hK => ?_
   have dc := HD.out.c6
   have lc := HL.out.c4
   go_simp
   have HSk := qd (seek_at b.1 b.2 key hash Tx P x c v10 HTx.out hpx h64 HM.out (by omega) (by omega) HV0.out hb0)
   rw [← HS1.out, ← HS2.out, ← HI1.out, ← HI2.out] at HSk
   unfold spotV tabP lensV at HSk
   refine (HSk.out).mono ?_
   rintro y v11 ⟨ap, fp, rfl, hap, hfp, hM2, hm⟩
   clear HSk HM dc lc
   replace HD := qM hm HD
   replace HT := qM hm HT
   replace HTx := qM hm HTx
   replace HV := qM hm HV
   replace HV0 := qM hm HV0
   replace HL := qM hm HL
   replace HR := qM hm HR
   replace HS := qM hm HS
   have z426 := (hm).size
   replace Hmod := qU Hmod hm
   clear hm
   have HM := qd (hM2)
   have HA := qd (hap)
   have HF := qd (hfp)
   have dc := HD.out.c6
   have lc := HL.out.c4
   go_wp2_with fail
   refine kO hK ?_
   clear hK K
   refine nT 11 rfl fun K hK => ?_
   have dc := HD.out.c6
   have lc := HL.out.c4
   have yc := HS.out.c7
   have yf := HS.out.f7
   go_simp
   have q427 := qJ HD.out.lt (qJ HT.out.ltT (qJ HT.out.ltG (qJ HTx.out.ltT (qJ HTx.out.ltG (qJ HV.out.lt (qJ HV.out.ltV (qJ HL.out.lt (qJ HR.out.lt (qJ HS.out.lt HM.out.lt)))))))))
   refine qS7 HS.out ?_
   rintro v12 ⟨hnew, hm⟩
   simp only [pt] at hnew
   clear dc lc yc yf
   replace HD := qM hm HD
   replace HT := qM hm HT
   replace HTx := qM hm HTx
   replace HV := qM hm HV
   replace HV0 := qM hm HV0
   replace HL := qM hm HL
   replace HR := qM hm HR
   replace HM := qM hm HM
   have z438 := (hm).size
   replace Hmod := qU Hmod hm
   replace HS := qd hnew
   clear hnew hm
   have dc := HD.out.c6
   have lc := HL.out.c4
   refine kO hK ?_
   clear hK K
   refine doneT (by kernel_rfl) ?_ _
   have z439 := Hmod.out.size
   exact ⟨sb, ap, fp, rfl, HD.out, HT.out, HTx.out, HV.out, HV0.out, HL.out, HR.out, HM.out, HA.out, HF.out, HS.out, by omega, Hmod.out⟩
 clear dc lc HD HT HTx HV HV0 HM HL HR Hmod
 rintro a' w2 ⟨sb, ap, fp, rfl, m_D, m_T, m_Tx, m_V, m_V0, m_L, m_R, m_M, m_A, m_F, m_box, hle_sb, m_mod⟩
 simp only [List.cons_append, List.nil_append, List.append_assoc]
 have HD := qd (m_D)
 have HT := qd (m_T)
 have HTx := qd (m_Tx)
 have HV := qd (m_V)
 have HV0 := qd (m_V0)
 have HL := qd (m_L)
 have HR := qd (m_R)
 have HM := qd (m_M)
 have HA := qd (m_A)
 have HF := qd (m_F)
 have HS := qd (m_box)
 have Hmod := qd (m_mod)
 clear m_D m_T m_Tx m_V m_V0 m_L m_R m_M m_A m_F m_box m_mod
 obtain ⟨fb1, hfb⟩ : ∃ b, b = sk1.isSome := ⟨_, rfl⟩
 have HFB := qd hfb
 clear hfb
 go_upto_region 6 with fail
 have sc := HS.out.c7
 have HEn := qd (spot_Entry b.1 b.2 key hash Tx ap fp s2 (by rw [← HS1.out]; exact HA.out) w2 HTx.out)
 unfold foundE at HEn
 rw [← HS1.out, ← HI1.out] at HEn
 unfold spotV optE entV at HEn
 simp only [Option.isSome_map] at HEn
 obtain ⟨fe, hfe⟩ : ∃ fe, fe = ((sk1.map fun x => (slotAt Tx.gs x.1 x.2).ent).getD ⟨0, 0, 0⟩) := ⟨_, rfl⟩
 rw [← hfe] at HEn
 clear hfe
 rw [← HFB.out] at HEn
 go_wp2_with fail
 refine (HEn.out).mono ?_
 rintro x w3 ⟨rfl, hb⟩
 clear sc
 replace HD := qB hb HD
 replace HT := qB hb HT
 replace HTx := qB hb HTx
 replace HV := qB hb HV
 replace HV0 := qB hb HV0
 replace HL := qB hb HL
 replace HR := qB hb HR
 replace HM := qB hb HM
 replace HS := qB hb HS
 have z12 := (hb).size
 replace Hmod := qT Hmod hb
 clear hb HEn
 go_upto_region 7 with fail
 have q13 := qJ HD.out.lt (qJ HT.out.ltT (qJ HT.out.ltG (qJ HTx.out.ltT (qJ HTx.out.ltG (qJ HV.out.lt (qJ HV.out.ltV (qJ HL.out.lt (qJ HR.out.lt (qJ HM.out.lt (qJ HS.out.lt Hmod.out.size))))))))))
 refine nameB 141 #[.int .u64 (fe.key : Int), .int .u64 (fe.val : Int), .int .u64 (fe.hash : Int)] ?_
 rintro w4 ⟨hnew, hb⟩
 replace HD := qB hb HD
 replace HT := qB hb HT
 replace HTx := qB hb HTx
 replace HV := qB hb HV
 replace HV0 := qB hb HV0
 replace HL := qB hb HL
 replace HR := qB hb HR
 replace HM := qB hb HM
 replace HS := qB hb HS
 have z25 := (hb).size
 replace Hmod := qT Hmod hb
 have HY := qd (hnew)
 clear hnew hb
 cases fb1 with
 | true =>
  have sc := HS.out.c7
  have rc := HR.out.c7
  have rf := HR.out.f7
  go_wp2
  have q2026 := qJ HD.out.lt (qJ HT.out.ltT (qJ HT.out.ltG (qJ HTx.out.ltT (qJ HTx.out.ltG (qJ HV.out.lt (qJ HV.out.ltV (qJ HL.out.lt (qJ HR.out.lt (qJ HM.out.lt (qJ HS.out.lt HY.out.lt))))))))))
  have hnew := (((((((HR.out.set_ 0 (.pointer (some ⟨b.1, 0, none⟩))).set_ 1 (.int .u64 (key : Int))).set_ 2 (.int .u64 (hash : Int))).set_ 3 (.pointer ap)).set_ 4 (.int .i64 s1)).set_ 5 (.pointer fp)).set_ 6 (.int .i64 s2))
  have hm := ((((((((Mod.refl [(w.heap.size + 1)] w4).sl 0 (.pointer (some ⟨b.1, 0, none⟩))).sl 1 (.int .u64 (key : Int))).sl 2 (.int .u64 (hash : Int))).sl 3 (.pointer ap)).sl 4 (.int .i64 s1)).sl 5 (.pointer fp)).sl 6 (.int .i64 s2))
  simp only [pt] at hnew
  refine nameW (F := fun v => Blk v (w.heap.size + 1) 189 #[.pointer (some ⟨b.1, 0, none⟩), .int .u64 (key : Int), .int .u64 (hash : Int), .pointer ap, .int .i64 s1, .pointer fp, .int .i64 s2] ∧ Mod [(w.heap.size + 1)] w4 v) ⟨hnew, hm⟩ ?_
  clear hnew hm
  rintro w9 ⟨hnew, hm⟩
  clear sc rc rf
  replace HD := qM hm HD
  replace HT := qM hm HT
  replace HTx := qM hm HTx
  replace HV := qM hm HV
  replace HV0 := qM hm HV0
  replace HL := qM hm HL
  replace HM := qM hm HM
  replace HS := qM hm HS
  replace HY := qM hm HY
  have z2038 := (hm).size
  replace Hmod := qU Hmod hm
  replace HR := qd hnew
  clear hnew hm
  have rx := HR.out.c7
  refine bodyPost_ret (v := .tuple #[.agg #[.pointer (some ⟨b.1, 0, none⟩), .int .u64 (key : Int), .int .u64 (hash : Int), .pointer ap, .int .i64 s1, .pointer fp, .int .i64 s2], .bool true]) (by simp [results, Tryz.results134, go_sem, rx.1, rx.2.1, rx.2.2.1, rx.2.2.2.1, rx.2.2.2.2.1, rx.2.2.2.2.2.1, rx.2.2.2.2.2.2]) rfl ?_
  have hg := HGa.out
  rw [← HS1.out, ← HFB.out] at hg
  simp only [if_true] at hg
  obtain ⟨rfl, rfl, rfl, rfl⟩ := hg
  exact ⟨ap, fp, by rw [← HS1.out, ← HS2.out, ← HI1.out, ← HI2.out, ← HFB.out], by rw [← HS1.out]; exact HA.out, by rw [← HS2.out]; exact HF.out, HM.out, Hmod.out⟩
 | false =>
  go_upto_region 9 with fail
  have dc := HD.out.c6
  have lc := HL.out.c4
  have q3026 := qJ HD.out.lt (qJ HT.out.ltT (qJ HT.out.ltG (qJ HTx.out.ltT (qJ HTx.out.ltG (qJ HV.out.lt (qJ HV.out.ltV (qJ HL.out.lt (qJ HR.out.lt (qJ HM.out.lt (qJ HS.out.lt (qJ HY.out.lt Hmod.out.size)))))))))))
  refine cutT (fun a' wz => ∃ sb2 aq fq, a' = { tmps := ([.pointer (some ⟨db, 0, none⟩), .agg #[.pointer (some ⟨P.mb, P.mo, none⟩), .int .i64 c.p, .int .i64 c.v, .int .i64 c.u], .int .u64 (key : Int), .int .u64 (hash : Int), undef, .pointer (some ⟨w.heap.size, 0, none⟩), undef, undef, .pointer (some ⟨w.heap.size + 1, 0, none⟩), .bool false, undef, undef, undef, .pointer (some ⟨sb, 0, none⟩), .pointer (some ⟨w3.heap.size, 0, none⟩), .bool false, .pointer (some ⟨sb2, 0, none⟩), undef, undef, .pointer (some ⟨db, 0, none⟩), .bool true, .bool false, undef, undef, undef, undef, undef, undef, undef, undef, undef, undef, undef, undef, undef, undef, undef, .pointer (some ⟨db, 0, none⟩), .pointer (some ⟨db, 0, none⟩), .pointer (some ⟨db, 4, none⟩)] ++ [.pointer (some ⟨eb, 0, none⟩), .int .u64 (hash : Int), .pointer (some ⟨b.1, 0, none⟩), .agg #[.pointer (some ⟨P.mb, P.mo, none⟩), .int .i64 c.p, .int .i64 c.v, .int .i64 c.u], .int .u64 (key : Int), .int .u64 (hash : Int), .agg #[.pointer (some ⟨b.1, 0, none⟩), .int .u64 (key : Int), .int .u64 (hash : Int), .pointer ap, .int .i64 s1, .pointer fp, .int .i64 s2], .tuple #[.agg #[.int .u64 (fe.key : Int), .int .u64 (fe.val : Int), .int .u64 (fe.hash : Int)], .bool false], .agg #[.pointer (some ⟨b.1, 0, none⟩), .int .u64 (key : Int), .int .u64 (hash : Int), .pointer ap, .int .i64 s1, .pointer fp, .int .i64 s2], .tuple #[.agg #[.int .u64 (fe.key : Int), .int .u64 (fe.val : Int), .int .u64 (fe.hash : Int)], .bool false], .agg #[.int .u64 (fe.key : Int), .int .u64 (fe.val : Int), .int .u64 (fe.hash : Int)], .bool false, .bool false, undef, .pointer (some ⟨db, 0, none⟩), .pointer (some ⟨db, 0, none⟩), .pointer (some ⟨db, 0, none⟩), .pointer (some ⟨ob, 0, none⟩), .agg #[.pointer (some ⟨P.mb, P.mo, none⟩), .int .i64 c.p, .int .i64 c.v, .int .i64 c.u], .int .u64 (key : Int), .int .u64 (hash : Int), .agg #[.pointer (some ⟨ob, 0, none⟩), .int .u64 (key : Int), .int .u64 (hash : Int), .pointer aq, .int .i64 o1, .pointer fq, .int .i64 o2], undef, undef, undef, undef, undef, undef, undef, undef]).toArray, defers := [] } ∧ Blk wz db 279 #[.pointer (some ⟨ob, 0, none⟩), .int .i64 (depth : Int), .slice (some ⟨rb, 0, none⟩) bbs.length cap, .slice (some ⟨fb, 0, none⟩) bs.length fcap, .pointer (some ⟨eb, 0, none⟩), .bool false] ∧ TabAt wz ob og T ∧ TabAt wz b.1 b.2 Tx ∧ EvAt wz eb ob vb vcap (bs.map Prod.fst) depth next ∧ Env W0 E wz ∧ Blk wz w.heap.size 138 #[.pointer (some ⟨P.mb, P.mo, none⟩), .int .i64 c.p, .int .i64 c.v, .int .i64 c.u] ∧ Blk wz (w.heap.size + 1) 189 #[.pointer none, .int .u64 0, .int .u64 0, .pointer none, .int .i64 0, .pointer none, .int .i64 0] ∧ PtrOf b.2 sk1 ap ∧ PtrOf b.2 sk2 fp ∧ Blk wz sb 189 #[.pointer (some ⟨b.1, 0, none⟩), .int .u64 (key : Int), .int .u64 (hash : Int), .pointer ap, .int .i64 s1, .pointer fp, .int .i64 s2] ∧ Blk wz w3.heap.size 141 #[.int .u64 (fe.key : Int), .int .u64 (fe.val : Int), .int .u64 (fe.hash : Int)] ∧ MetP wz P ((x.add c (seek Tx.gs key hash).2.2).add c (seek T.gs key hash).2.2) ∧ PtrOf og ok1 aq ∧ PtrOf og ok2 fq ∧ Blk wz sb2 189 #[.pointer (some ⟨ob, 0, none⟩), .int .u64 (key : Int), .int .u64 (hash : Int), .pointer aq, .int .i64 o1, .pointer fq, .int .i64 o2] ∧ w4.heap.size ≤ sb2 ∧ Mod ([P.mb]) w wz) ?_ ?_
  ·refine rT (fun (w' : World) => w'.cell? ⟨db, 0, none⟩ = some (.pointer (some ⟨ob, 0, none⟩)) ∧ w'.cell? ⟨db, 4, none⟩ = some (.pointer (some ⟨eb, 0, none⟩)) ∧ w'.cell? ⟨w.heap.size, 0, none⟩ = some (.pointer (some ⟨P.mb, P.mo, none⟩)) ∧ w'.cell? ⟨w.heap.size, 1, none⟩ = some (.int .i64 c.p) ∧ w'.cell? ⟨w.heap.size, 2, none⟩ = some (.int .i64 c.v) ∧ w'.cell? ⟨w.heap.size, 3, none⟩ = some (.int .i64 c.u)) [] ?_
   have hHeld := (⟨dc.1, dc.2.2.2.2.1, lc.1, lc.2.1, lc.2.2.1, lc.2.2.2⟩ : _ ∧ _ ∧ _ ∧ _ ∧ _ ∧ _)
   refine vW 0 rfl ?_
   refine vW 1 rfl ?_
   refine vW 2 rfl ?_
   refine vT 3 rfl ?_
   refine vT 4 rfl ?_
   refine vW 5 rfl ?_
   refine vW 6 rfl ?_
   clear hHeld
   refine nameW (F := fun v => Mod [] w4 v) (Mod.drewN [] w4 1) ?_
   rintro v1 hm
   clear dc lc
   replace HD := qM hm HD
   replace HT := qM hm HT
   replace HTx := qM hm HTx
   replace HV := qM hm HV
   replace HV0 := qM hm HV0
   replace HL := qM hm HL
   replace HR := qM hm HR
   replace HM := qM hm HM
   replace HS := qM hm HS
   replace HY := qM hm HY
   have z3239 := (hm).size
   replace Hmod := qU Hmod hm
   clear hm
   refine pairT (i := 7) (j := 8) (o := ⟨some 61, _, _, _, _, _⟩) (o' := ⟨some 16, _, _, _, _, _⟩) rfl rfl (by kernel_rfl) (fun K hK => ?_) (fun K hK => ?_)
   ·have dc := HD.out.c6
    have lc := HL.out.c4
    go_simp
    have HSk := qd (seek_at ob og key hash T P (x.add c (seek Tx.gs key hash).2.2) c v1 HT.out hok h64 HM.out (by omega) (by omega) HV0.out hb0)
    rw [← HO1.out, ← HO2.out, ← HJ1.out, ← HJ2.out] at HSk
    unfold spotV tabP lensV at HSk
    refine (HSk.out).mono ?_
    rintro y v2 ⟨aq, fq, rfl, haq, hfq, hM2, hm⟩
    clear HSk HM dc lc
    replace HD := qM hm HD
    replace HT := qM hm HT
    replace HTx := qM hm HTx
    replace HV := qM hm HV
    replace HV0 := qM hm HV0
    replace HL := qM hm HL
    replace HR := qM hm HR
    replace HS := qM hm HS
    replace HY := qM hm HY
    have z3340 := (hm).size
    replace Hmod := qU Hmod hm
    clear hm
    have HM := qd (hM2)
    have HB := qd (haq)
    have HG := qd (hfq)
    have dc := HD.out.c6
    have lc := HL.out.c4
    go_wp2_with fail
    refine kO hK ?_
    clear hK K
    refine nT 8 rfl fun K hK => ?_
    have dc := HD.out.c6
    have lc := HL.out.c4
    go_simp
    have q3341 := qJ HD.out.lt (qJ HT.out.ltT (qJ HT.out.ltG (qJ HTx.out.ltT (qJ HTx.out.ltG (qJ HV.out.lt (qJ HV.out.ltV (qJ HL.out.lt (qJ HR.out.lt (qJ HS.out.lt (qJ HY.out.lt (qJ HM.out.lt Hmod.out.size)))))))))))
    refine nameB 189 #[.pointer none, .int .u64 0, .int .u64 0, .pointer none, .int .i64 0, .pointer none, .int .i64 0] ?_
    rintro v3 ⟨hnew, hb⟩
    obtain ⟨sb2, hsb2⟩ : ∃ sb2, sb2 = v2.heap.size := ⟨_, rfl⟩
    rw [← hsb2] at hnew ⊢
    replace hsb2 : v2.heap.size ≤ sb2 := by omega
    clear dc lc
    replace HD := qB hb HD
    replace HT := qB hb HT
    replace HTx := qB hb HTx
    replace HV := qB hb HV
    replace HV0 := qB hb HV0
    replace HL := qB hb HL
    replace HR := qB hb HR
    replace HS := qB hb HS
    replace HY := qB hb HY
    replace HM := qB hb HM
    have z3354 := (hb).size
    replace Hmod := qT Hmod hb
    have HS2 := qd (hnew)
    clear hnew hb
    have dc := HD.out.c6
    have lc := HL.out.c4
    refine kO hK ?_
    clear hK K
    refine nT 9 rfl fun K hK => ?_
    have dc := HD.out.c6
    have lc := HL.out.c4
    have yc := HS2.out.c7
    have yf := HS2.out.f7
    go_simp
    have q3355 := qJ HD.out.lt (qJ HT.out.ltT (qJ HT.out.ltG (qJ HTx.out.ltT (qJ HTx.out.ltG (qJ HV.out.lt (qJ HV.out.ltV (qJ HL.out.lt (qJ HR.out.lt (qJ HS.out.lt (qJ HY.out.lt (qJ HM.out.lt HS2.out.lt)))))))))))
    refine qS7 HS2.out ?_
    rintro v4 ⟨hnew, hm⟩
    simp only [pt] at hnew
    clear dc lc yc yf
    replace HD := qM hm HD
    replace HT := qM hm HT
    replace HTx := qM hm HTx
    replace HV := qM hm HV
    replace HV0 := qM hm HV0
    replace HL := qM hm HL
    replace HR := qM hm HR
    replace HS := qM hm HS
    replace HY := qM hm HY
    replace HM := qM hm HM
    have z3368 := (hm).size
    replace Hmod := qU Hmod hm
    replace HS2 := qd hnew
    clear hnew hm
    have dc := HD.out.c6
    have lc := HL.out.c4
    refine kO hK ?_
    clear hK K
    refine doneT (by kernel_rfl) ?_ _
    have z3369 := Hmod.out.size
    exact ⟨sb2, aq, fq, rfl, HD.out, HT.out, HTx.out, HV.out, HV0.out, HL.out, HR.out, HA.out, HF.out, HS.out, HY.out, HM.out, HB.out, HG.out, HS2.out, by omega, Hmod.out⟩
   ·have dc := HD.out.c6
    have lc := HL.out.c4
    go_simp
    have q3440 := qJ HD.out.lt (qJ HT.out.ltT (qJ HT.out.ltG (qJ HTx.out.ltT (qJ HTx.out.ltG (qJ HV.out.lt (qJ HV.out.ltV (qJ HL.out.lt (qJ HR.out.lt (qJ HM.out.lt (qJ HS.out.lt (qJ HY.out.lt Hmod.out.size)))))))))))
    refine nameB 189 #[.pointer none, .int .u64 0, .int .u64 0, .pointer none, .int .i64 0, .pointer none, .int .i64 0] ?_
    rintro v5 ⟨hnew, hb⟩
    obtain ⟨sb2, hsb2⟩ : ∃ sb2, sb2 = v1.heap.size := ⟨_, rfl⟩
    rw [← hsb2] at hnew ⊢
    replace hsb2 : v1.heap.size ≤ sb2 := by omega
    clear dc lc
    replace HD := qB hb HD
    replace HT := qB hb HT
    replace HTx := qB hb HTx
    replace HV := qB hb HV
    replace HV0 := qB hb HV0
    replace HL := qB hb HL
    replace HR := qB hb HR
    replace HM := qB hb HM
    replace HS := qB hb HS
    replace HY := qB hb HY
    have z3453 := (hb).size
    replace Hmod := qT Hmod hb
    have HS2 := qd (hnew)
    clear hnew hb
    have dc := HD.out.c6
    have lc := HL.out.c4
    refine kO hK ?_
    clear hK K
    refine nT 7 rfl fun K hK => ?_
    have dc := HD.out.c6
    have lc := HL.out.c4
    go_simp
    have HSk := qd (seek_at ob og key hash T P (x.add c (seek Tx.gs key hash).2.2) c v5 HT.out hok h64 HM.out (by omega) (by omega) HV0.out hb0)
    rw [← HO1.out, ← HO2.out, ← HJ1.out, ← HJ2.out] at HSk
    unfold spotV tabP lensV at HSk
    refine (HSk.out).mono ?_
    rintro y v6 ⟨aq, fq, rfl, haq, hfq, hM2, hm⟩
    clear HSk HM dc lc
    replace HD := qM hm HD
    replace HT := qM hm HT
    replace HTx := qM hm HTx
    replace HV := qM hm HV
    replace HV0 := qM hm HV0
    replace HL := qM hm HL
    replace HR := qM hm HR
    replace HS := qM hm HS
    replace HY := qM hm HY
    replace HS2 := qM hm HS2
    have z3454 := (hm).size
    replace Hmod := qU Hmod hm
    clear hm
    have HM := qd (hM2)
    have HB := qd (haq)
    have HG := qd (hfq)
    have dc := HD.out.c6
    have lc := HL.out.c4
    go_wp2_with fail
    refine kO hK ?_
    clear hK K
    refine nT 9 rfl fun K hK => ?_
    have dc := HD.out.c6
    have lc := HL.out.c4
    have yc := HS2.out.c7
    have yf := HS2.out.f7
    go_simp
    have q3455 := qJ HD.out.lt (qJ HT.out.ltT (qJ HT.out.ltG (qJ HTx.out.ltT (qJ HTx.out.ltG (qJ HV.out.lt (qJ HV.out.ltV (qJ HL.out.lt (qJ HR.out.lt (qJ HS.out.lt (qJ HY.out.lt (qJ HS2.out.lt HM.out.lt)))))))))))
    refine qS7 HS2.out ?_
    rintro v7 ⟨hnew, hm⟩
    simp only [pt] at hnew
    clear dc lc yc yf
    replace HD := qM hm HD
    replace HT := qM hm HT
    replace HTx := qM hm HTx
    replace HV := qM hm HV
    replace HV0 := qM hm HV0
    replace HL := qM hm HL
    replace HR := qM hm HR
    replace HS := qM hm HS
    replace HY := qM hm HY
    replace HM := qM hm HM
    have z3468 := (hm).size
    replace Hmod := qU Hmod hm
    replace HS2 := qd hnew
    clear hnew hm
    have dc := HD.out.c6
    have lc := HL.out.c4
    refine kO hK ?_
    clear hK K
    refine doneT (by kernel_rfl) ?_ _
    have z3469 := Hmod.out.size
    exact ⟨sb2, aq, fq, rfl, HD.out, HT.out, HTx.out, HV.out, HV0.out, HL.out, HR.out, HA.out, HF.out, HS.out, HY.out, HM.out, HB.out, HG.out, HS2.out, by omega, Hmod.out⟩
  clear dc lc HD HT HTx HV HV0 HL HR HM HA HF HS HY Hmod
  rintro a' w5 ⟨sb2, aq, fq, rfl, m_D, m_T, m_Tx, m_V, m_V0, m_L, m_R, m_A, m_F, m_S, m_Y, m_M, m_B, m_G, m_box, hle_sb2, m_mod⟩
  simp only [List.cons_append, List.nil_append, List.append_assoc]
  have HD := qd (m_D)
  have HT := qd (m_T)
  have HTx := qd (m_Tx)
  have HV := qd (m_V)
  have HV0 := qd (m_V0)
  have HL := qd (m_L)
  have HR := qd (m_R)
  have HA := qd (m_A)
  have HF := qd (m_F)
  have HS := qd (m_S)
  have HY := qd (m_Y)
  have HM := qd (m_M)
  have HB := qd (m_B)
  have HG := qd (m_G)
  have HS2 := qd (m_box)
  have Hmod := qd (m_mod)
  clear m_D m_T m_Tx m_V m_V0 m_L m_R m_A m_F m_S m_Y m_M m_B m_G m_box m_mod
  obtain ⟨fb2, hfb⟩ : ∃ b, b = ok1.isSome := ⟨_, rfl⟩
  have HFB2 := qd hfb
  clear hfb
  go_upto_region 10 with fail
  obtain ⟨sd0, sd1, sd2, sd3, sd4, sd5, sd6⟩ := HS2.out.c7
  have HEn := qd (spot_Entry ob og key hash T aq fq o2 (by rw [← HO1.out]; exact HB.out) w5 HT.out)
  unfold foundE at HEn
  rw [← HO1.out, ← HJ1.out] at HEn
  unfold spotV optE entV at HEn
  simp only [Option.isSome_map] at HEn
  obtain ⟨fe, hfe⟩ : ∃ fe, fe = ((ok1.map fun x => (slotAt T.gs x.1 x.2).ent).getD ⟨0, 0, 0⟩) := ⟨_, rfl⟩
  rw [← hfe] at HEn
  clear hfe
  rw [← HFB2.out] at HEn
  go_wp2_with fail
  refine (HEn.out).mono ?_
  rintro x w6 ⟨rfl, hb⟩
  clear sd0 sd1 sd2 sd3 sd4 sd5 sd6
  replace HD := qB hb HD
  replace HT := qB hb HT
  replace HTx := qB hb HTx
  replace HV := qB hb HV
  replace HV0 := qB hb HV0
  replace HL := qB hb HL
  replace HR := qB hb HR
  replace HS := qB hb HS
  replace HY := qB hb HY
  replace HM := qB hb HM
  replace HS2 := qB hb HS2
  have z3039 := (hb).size
  replace Hmod := qT Hmod hb
  clear hb HEn
  go_upto_region 11 with fail
  clear HY
  have q3040 := qJ HD.out.lt (qJ HT.out.ltT (qJ HT.out.ltG (qJ HTx.out.ltT (qJ HTx.out.ltG (qJ HV.out.lt (qJ HV.out.ltV (qJ HL.out.lt (qJ HR.out.lt (qJ HS.out.lt (qJ HM.out.lt (qJ HS2.out.lt Hmod.out.size)))))))))))
  refine nameB 141 #[.int .u64 (fe.key : Int), .int .u64 (fe.val : Int), .int .u64 (fe.hash : Int)] ?_
  rintro w7 ⟨hnew, hb⟩
  replace HD := qB hb HD
  replace HT := qB hb HT
  replace HTx := qB hb HTx
  replace HV := qB hb HV
  replace HV0 := qB hb HV0
  replace HL := qB hb HL
  replace HR := qB hb HR
  replace HS := qB hb HS
  replace HM := qB hb HM
  replace HS2 := qB hb HS2
  have z3053 := (hb).size
  replace Hmod := qT Hmod hb
  have HY2 := qd (hnew)
  clear hnew hb
  cases fb2 with
  | true =>
   have sc := HS2.out.c7
   have rc := HR.out.c7
   have rf := HR.out.f7
   go_wp2
   have q5054 := qJ HD.out.lt (qJ HT.out.ltT (qJ HT.out.ltG (qJ HTx.out.ltT (qJ HTx.out.ltG (qJ HV.out.lt (qJ HV.out.ltV (qJ HL.out.lt (qJ HR.out.lt (qJ HS.out.lt (qJ HM.out.lt (qJ HS2.out.lt HY2.out.lt)))))))))))
   have hnew := (((((((HR.out.set_ 0 (.pointer (some ⟨ob, 0, none⟩))).set_ 1 (.int .u64 (key : Int))).set_ 2 (.int .u64 (hash : Int))).set_ 3 (.pointer aq)).set_ 4 (.int .i64 o1)).set_ 5 (.pointer fq)).set_ 6 (.int .i64 o2))
   have hm := ((((((((Mod.refl [(w.heap.size + 1)] w7).sl 0 (.pointer (some ⟨ob, 0, none⟩))).sl 1 (.int .u64 (key : Int))).sl 2 (.int .u64 (hash : Int))).sl 3 (.pointer aq)).sl 4 (.int .i64 o1)).sl 5 (.pointer fq)).sl 6 (.int .i64 o2))
   simp only [pt] at hnew
   refine nameW (F := fun v => Blk v (w.heap.size + 1) 189 #[.pointer (some ⟨ob, 0, none⟩), .int .u64 (key : Int), .int .u64 (hash : Int), .pointer aq, .int .i64 o1, .pointer fq, .int .i64 o2] ∧ Mod [(w.heap.size + 1)] w7 v) ⟨hnew, hm⟩ ?_
   clear hnew hm
   rintro w9 ⟨hnew, hm⟩
   clear sc rc rf
   replace HD := qM hm HD
   replace HT := qM hm HT
   replace HTx := qM hm HTx
   replace HV := qM hm HV
   replace HV0 := qM hm HV0
   replace HL := qM hm HL
   replace HS := qM hm HS
   replace HM := qM hm HM
   replace HS2 := qM hm HS2
   replace HY2 := qM hm HY2
   have z5067 := (hm).size
   replace Hmod := qU Hmod hm
   replace HR := qd hnew
   clear hnew hm
   have rx := HR.out.c7
   refine bodyPost_ret (v := .tuple #[.agg #[.pointer (some ⟨ob, 0, none⟩), .int .u64 (key : Int), .int .u64 (hash : Int), .pointer aq, .int .i64 o1, .pointer fq, .int .i64 o2], .bool true]) (by simp [results, Tryz.results134, go_sem, rx.1, rx.2.1, rx.2.2.1, rx.2.2.2.1, rx.2.2.2.2.1, rx.2.2.2.2.2.1, rx.2.2.2.2.2.2]) rfl ?_
   have hg := HGa.out
   rw [← HS1.out, ← HFB.out, ← HO1.out, ← HFB2.out] at hg
   simp only [if_true, if_false, Bool.false_eq_true] at hg
   obtain ⟨rfl, rfl, rfl, rfl⟩ := hg
   exact ⟨aq, fq, by rw [← HO1.out, ← HO2.out, ← HJ1.out, ← HJ2.out, ← HFB2.out], by rw [← HO1.out]; exact HB.out, by rw [← HO2.out]; exact HG.out, Mtr.add_add x c _ _ ▸ HM.out, Hmod.out⟩
  | false =>
   have sc := HS.out.c7
   have rc := HR.out.c7
   have rf := HR.out.f7
   go_wp2
   have q6054 := qJ HD.out.lt (qJ HT.out.ltT (qJ HT.out.ltG (qJ HTx.out.ltT (qJ HTx.out.ltG (qJ HV.out.lt (qJ HV.out.ltV (qJ HL.out.lt (qJ HR.out.lt (qJ HS.out.lt (qJ HM.out.lt (qJ HS2.out.lt HY2.out.lt)))))))))))
   have hnew := (((((((HR.out.set_ 0 (.pointer (some ⟨b.1, 0, none⟩))).set_ 1 (.int .u64 (key : Int))).set_ 2 (.int .u64 (hash : Int))).set_ 3 (.pointer ap)).set_ 4 (.int .i64 s1)).set_ 5 (.pointer fp)).set_ 6 (.int .i64 s2))
   have hm := ((((((((Mod.refl [(w.heap.size + 1)] w7).sl 0 (.pointer (some ⟨b.1, 0, none⟩))).sl 1 (.int .u64 (key : Int))).sl 2 (.int .u64 (hash : Int))).sl 3 (.pointer ap)).sl 4 (.int .i64 s1)).sl 5 (.pointer fp)).sl 6 (.int .i64 s2))
   simp only [pt] at hnew
   refine nameW (F := fun v => Blk v (w.heap.size + 1) 189 #[.pointer (some ⟨b.1, 0, none⟩), .int .u64 (key : Int), .int .u64 (hash : Int), .pointer ap, .int .i64 s1, .pointer fp, .int .i64 s2] ∧ Mod [(w.heap.size + 1)] w7 v) ⟨hnew, hm⟩ ?_
   clear hnew hm
   rintro w9 ⟨hnew, hm⟩
   clear sc rc rf
   replace HD := qM hm HD
   replace HT := qM hm HT
   replace HTx := qM hm HTx
   replace HV := qM hm HV
   replace HV0 := qM hm HV0
   replace HL := qM hm HL
   replace HS := qM hm HS
   replace HM := qM hm HM
   replace HS2 := qM hm HS2
   replace HY2 := qM hm HY2
   have z6067 := (hm).size
   replace Hmod := qU Hmod hm
   replace HR := qd hnew
   clear hnew hm
   have rx := HR.out.c7
   refine bodyPost_ret (v := .tuple #[.agg #[.pointer (some ⟨b.1, 0, none⟩), .int .u64 (key : Int), .int .u64 (hash : Int), .pointer ap, .int .i64 s1, .pointer fp, .int .i64 s2], .bool false]) (by simp [results, Tryz.results134, go_sem, rx.1, rx.2.1, rx.2.2.1, rx.2.2.2.1, rx.2.2.2.2.1, rx.2.2.2.2.2.1, rx.2.2.2.2.2.2]) rfl ?_
   have hg := HGa.out
   rw [← HS1.out, ← HFB.out, ← HO1.out, ← HFB2.out] at hg
   simp only [if_true, if_false, Bool.false_eq_true] at hg
   obtain ⟨rfl, rfl, rfl, rfl⟩ := hg
   exact ⟨ap, fp, by rw [← HS1.out, ← HS2.out, ← HI1.out, ← HI2.out, ← HFB.out], by rw [← HS1.out]; exact HA.out, by rw [← HS2.out]; exact HF.out, Mtr.add_add x c _ _ ▸ HM.out, Hmod.out⟩
end Go.Proofs.YtgfcmdmpegomdaaGreatDoor
