/- A dual's seek by its contract. -/
import Derived.Test.YtfojgfddgplinabGreatDoorCoAH
import Derived.Test.YtfojgfddgplinabGreatDoorSqT
import Derived.Test.YtfojgfddgplinabGreatDoorLaneP
namespace Go.Proofs.YtfojgfddgplinabGreatDoor
set_option maxRecDepth 100000
set_option maxHeartbeats 8000000
open Go.RowKit dG
variable {W0 : World} {E : Nat → Addr}
theorem Gi {P : Program} {c : Code} {a : Act} {w : World} {Q : Exit → Act → World → Prop} (R : Act → World → Prop) (h : c.wp P (YF R Q) a w) (hR : ∀ a w, R a w → Q .normal a w) : c.wp P Q a w :=
 wp_mono h fun e a w hq => by cases e <;> first | exact hR _ _ hq | exact hq
theorem jS (tb gb key hash : Nat) (T : aC) (P : MP) (x : bI) (c : bF) (w : World) (h : TabAt w tb gb T) (hP : Pw T.gs.length) (h64 : hash < 18446744073709551616) (hM : aO w P x) (hmt : P.mb ≠ tb) (iD : P.mb ≠ gb) (hE : Env W0 E w) (hb0 : W0.heap.size ≤ P.mb) :
  Calls Tryz.prog 67 #[bT tb, aJ (some ⟨P.mb, P.mo, none⟩) c, .int .u64 (key : Int), .int .u64 (hash : Int)] w fun e w' => ∃ ap fp, e = .returned (bQ tb key hash ap (bO (aH T.gs key hash).1) fp (bO (aH T.gs key hash).2.1)) ∧
   gy gb (aH T.gs key hash).1 ap ∧ gy gb (aH T.gs key hash).2.1 fp ∧ aO w' P (x.add c (aH T.gs key hash).2.2) ∧ Mod [P.mb] w w' :=
 uU tb gb key hash T P.mb P.mt P.pre P.post P.mo x.all x.last P.m c w h hP h64 hM hmt iD hE.tz (by have := hE.O8; omega)
def kZ (w : World) (P : MP) (x : bI) (c : bF) (key hash tX gX : Nat) (TX : aC) (cnt : Nat) (e : Ending) (w' : World) : Prop :=
 ∃ ap fp, e = .returned (.tuple #[bQ tX key hash ap (bO (aH TX.gs key hash).1) fp (bO (aH TX.gs key hash).2.1), .bool (aH TX.gs key hash).1.isSome]) ∧
  gy gX (aH TX.gs key hash).1 ap ∧ gy gX (aH TX.gs key hash).2.1 fp ∧ aO w' P (x.add c cnt) ∧ Mod [P.mb] w w'
theorem Jh (db rb cap ob og : Nat) (bl : List (Nat × Nat × Nat)) (T : aC) (n depth k key hash : Nat) (P : MP) (x : bI) (c : bF) (w : World) (h : tN w db rb cap ob og bl T n depth k) (hok : Pw T.gs.length) (h64 : hash < 18446744073709551616) (hM : aO w P x) (hE : Env W0 E w) (hb0 : W0.heap.size ≤ P.mb) (hmt : P.mb ≠ ob ∧ P.mb ≠ og ∧ P.mb ≠ db) :
  Calls Tryz.prog 99 #[bZ db, aJ (some ⟨P.mb, P.mo, none⟩) c, .int .u64 (key : Int), .int .u64 (hash : Int)] w (kZ w P x c key hash ob og T (aH T.gs key hash).2.2) := by
 obtain ⟨hmt, iD, hmd⟩ := hmt
 obtain ⟨W, hW, hB, hL, hR⟩ := lK w 112 #[.pointer (some ⟨P.mb, P.mo, none⟩), .int .i64 c.p, .int .i64 c.v, .int .i64 c.u] 159 #[.pointer none, .int .u64 0, .int .u64 0, .pointer none, .int .i64 0, .pointer none, .int .i64 0]
 have hml := hM.lt
 have hB0 := hE.size
 have hdl := h.blk.lt
 have hol := h.tab.aT
 have hgl := h.tab.aU
 have HW := qd hW
 have mq := qd (uF db W (by have := (h.blk.mod (Mod.of_below hB []) (by simp)).cell 3; simpa using this))
 unfold bZ at mq
 have HD := qd (h.blk.below hB h.blk.lt)
 have HT := qd (h.tab.below hB)
 have ay := qd (hE.next hB)
 have HM := qd (hM.below hB)
 have HL := qd (hL)
 have HR := qd (hR)
 have ah := qd (Mod.of_below hB [P.mb])
 clear hW hB h hE hM hL hR
 unfold kZ bZ aJ bQ
 obtain ⟨qw, uG⟩ : ∃ s, s = (aH T.gs key hash).1 := ⟨_, rfl⟩
 obtain ⟨vX, uH⟩ : ∃ s, s = (aH T.gs key hash).2.1 := ⟨_, rfl⟩
 rw [← uG, ← uH]
 have gV := qd uG
 have HS2 := qd uH
 clear uG uH
 obtain ⟨s1, hs1⟩ : ∃ s, s = bO qw := ⟨_, rfl⟩
 obtain ⟨s2, hs2⟩ : ∃ s, s = bO vX := ⟨_, rfl⟩
 rw [← hs1, ← hs2]
 have HI1 := qd hs1
 have HI2 := qd hs2
 clear hs1 hs2
 go_in
 go_upto_region 1 with fail
 rw [← HW.out]
 go_wp2_with fail
 refine (mq.out).mono ?_
 rintro y w1 ⟨rfl, rfl⟩
 clear mq
 go_upto_region 2 with fail
 have dc := HD.out.c6
 have lc := HL.out.c4
 have q1 := qJ HD.out.lt (qJ HT.out.aT (qJ HT.out.aU (qJ HM.out.lt (qJ HL.out.lt (qJ HR.out.lt ah.out.size)))))
 refine Gi (fun a' wz => ∃ sb ap fp, a' = { tmps := ([.pointer (some ⟨db, 0, none⟩), .agg #[.pointer (some ⟨P.mb, P.mo, none⟩), .int .i64 c.p, .int .i64 c.v, .int .i64 c.u], .int .u64 (key : Int), .int .u64 (hash : Int), undef, .pointer (some ⟨w.heap.size, 0, none⟩), undef, undef, .pointer (some ⟨w.heap.size + 1, 0, none⟩), .bool false, .pointer (some ⟨sb, 0, none⟩), undef, undef, undef, undef, undef, undef, undef, undef, .pointer (some ⟨db, 0, none⟩), .bool false, .bool true, .pointer (some ⟨db, 0, none⟩), .pointer (some ⟨db, 0, none⟩), .pointer (some ⟨db, 0, none⟩), .pointer (some ⟨ob, 0, none⟩), .agg #[.pointer (some ⟨P.mb, P.mo, none⟩), .int .i64 c.p, .int .i64 c.v, .int .i64 c.u], .int .u64 (key : Int), .int .u64 (hash : Int), .agg #[.pointer (some ⟨ob, 0, none⟩), .int .u64 (key : Int), .int .u64 (hash : Int), .pointer ap, .int .i64 s1, .pointer fp, .int .i64 s2], undef, undef, undef, undef, undef, undef, undef, undef, undef, undef] ++ [undef, undef, undef, undef, undef, undef, undef, undef, undef, undef, undef, undef, undef, undef, undef, undef, undef, undef, undef, undef, undef, undef, undef, undef, undef, undef, undef, undef, undef, undef]).toArray, defers := [] } ∧ aj wz db 239 #[.pointer (some ⟨ob, 0, none⟩), .int .i64 (depth : Int), .slice (some ⟨rb, 0, none⟩) bl.length cap, .slice none 0 0, .pointer none, .bool false] ∧ TabAt wz ob og T ∧ Env W0 E wz ∧ aj wz w.heap.size 112 #[.pointer (some ⟨P.mb, P.mo, none⟩), .int .i64 c.p, .int .i64 c.v, .int .i64 c.u] ∧ aj wz (w.heap.size + 1) 159 #[.pointer none, .int .u64 0, .int .u64 0, .pointer none, .int .i64 0, .pointer none, .int .i64 0] ∧ aO wz P (x.add c (aH T.gs key hash).2.2) ∧ gy og qw ap ∧ gy og vX fp ∧ aj wz sb 159 #[.pointer (some ⟨ob, 0, none⟩), .int .u64 (key : Int), .int .u64 (hash : Int), .pointer ap, .int .i64 s1, .pointer fp, .int .i64 s2] ∧ W.heap.size ≤ sb ∧ Mod ([P.mb]) w wz) ?_ ?_
 ·refine rT (fun (w' : World) => w'.cell? ⟨db, 0, none⟩ = some (.pointer (some ⟨ob, 0, none⟩)) ∧ w'.cell? ⟨w.heap.size, 0, none⟩ = some (.pointer (some ⟨P.mb, P.mo, none⟩)) ∧ w'.cell? ⟨w.heap.size, 1, none⟩ = some (.int .i64 c.p) ∧ w'.cell? ⟨w.heap.size, 2, none⟩ = some (.int .i64 c.v) ∧ w'.cell? ⟨w.heap.size, 3, none⟩ = some (.int .i64 c.u)) [] ?_
  have hHeld := (⟨dc.1, lc.1, lc.2.1, lc.2.2.1, lc.2.2.2⟩ : _ ∧ _ ∧ _ ∧ _ ∧ _)
  refine vW 0 rfl ?_
  refine vW 1 rfl ?_
  refine vW 2 rfl ?_
  refine vT 3 rfl ?_
  refine vT 4 rfl ?_
  refine vW 5 rfl ?_
  refine vW 6 rfl ?_
  clear hHeld
  refine cZ (F := fun v => Mod [] W v) (Mod.drewN [] W 1) ?_
  rintro v1 hm
  clear dc lc
  replace HD := qM hm HD
  replace HT := qM hm HT
  replace ay := qM hm ay
  replace HM := qM hm HM
  replace HL := qM hm HL
  replace HR := qM hm HR
  have z208 := (hm).size
  replace ah := qU ah hm
  clear hm
  refine pairT (i := 7) (j := 8) (o := ⟨some 29, _, _, _, _, _⟩) (o' := ⟨some 10, _, _, _, _, _⟩) rfl rfl (by kernel_rfl) (fun K hK => ?_) (fun K hK => ?_)
  ·have dc := HD.out.c6
   have lc := HL.out.c4
   go_simp
   have aY := qd (jS ob og key hash T P x c v1 HT.out hok h64 HM.out (by omega) (by omega) ay.out hb0)
   rw [← gV.out, ← HS2.out, ← HI1.out, ← HI2.out] at aY
   unfold bQ bT aJ at aY
   refine (aY.out).mono ?_
   rintro y v2 ⟨ap, fp, rfl, hap, hfp, hM2, hm⟩
   clear aY HM dc lc
   replace HD := qM hm HD
   replace HT := qM hm HT
   replace ay := qM hm ay
   replace HL := qM hm HL
   replace HR := qM hm HR
   have UL := (hm).size
   replace ah := qU ah hm
   clear hm
   have HM := qd (hM2)
   have HA := qd (hap)
   have HF := qd (hfp)
   have dc := HD.out.c6
   have lc := HL.out.c4
   go_wp2_with fail
   refine kO hK ?_
   clear hK K
   refine nT 8 rfl fun K hK => ?_
   have dc := HD.out.c6
   have lc := HL.out.c4
   go_simp
   have UM := qJ HD.out.lt (qJ HT.out.aT (qJ HT.out.aU (qJ HL.out.lt (qJ HR.out.lt (qJ HM.out.lt ah.out.size)))))
   refine bY 159 #[.pointer none, .int .u64 0, .int .u64 0, .pointer none, .int .i64 0, .pointer none, .int .i64 0] ?_
   rintro v3 ⟨hnew, hb⟩
   obtain ⟨sb, hsb⟩ : ∃ sb, sb = v2.heap.size := ⟨_, rfl⟩
   rw [← hsb] at hnew ⊢
   replace hsb : v2.heap.size ≤ sb := by omega
   clear dc lc
   replace HD := qB hb HD
   replace HT := qB hb HT
   replace ay := qB hb ay
   replace HL := qB hb HL
   replace HR := qB hb HR
   replace HM := qB hb HM
   have UN := (hb).size
   replace ah := qT ah hb
   have HS := qd (hnew)
   clear hnew hb
   have dc := HD.out.c6
   have lc := HL.out.c4
   refine kO hK ?_
   clear hK K
   refine nT 9 rfl fun K hK => ?_
   have dc := HD.out.c6
   have lc := HL.out.c4
   have yc := HS.out.c7
   have yf := HS.out.f7
   go_simp
   have UO := qJ HD.out.lt (qJ HT.out.aT (qJ HT.out.aU (qJ HL.out.lt (qJ HR.out.lt (qJ HM.out.lt HS.out.lt)))))
   refine yH HS.out ?_
   rintro v4 ⟨hnew, hm⟩
   simp only [pt] at hnew
   clear dc lc yc yf
   replace HD := qM hm HD
   replace HT := qM hm HT
   replace ay := qM hm ay
   replace HL := qM hm HL
   replace HR := qM hm HR
   replace HM := qM hm HM
   have UQ := (hm).size
   replace ah := qU ah hm
   replace HS := qd hnew
   clear hnew hm
   have dc := HD.out.c6
   have lc := HL.out.c4
   refine kO hK ?_
   clear hK K
   refine aS (by kernel_rfl) ?_ _
   have UR := ah.out.size
   exact ⟨sb, ap, fp, rfl, HD.out, HT.out, ay.out, HL.out, HR.out, HM.out, HA.out, HF.out, HS.out, by omega, ah.out⟩
  ·have dc := HD.out.c6
   have lc := HL.out.c4
   go_simp
   have UU := qJ HD.out.lt (qJ HT.out.aT (qJ HT.out.aU (qJ HM.out.lt (qJ HL.out.lt (qJ HR.out.lt ah.out.size)))))
   refine bY 159 #[.pointer none, .int .u64 0, .int .u64 0, .pointer none, .int .i64 0, .pointer none, .int .i64 0] ?_
   rintro v5 ⟨hnew, hb⟩
   obtain ⟨sb, hsb⟩ : ∃ sb, sb = v1.heap.size := ⟨_, rfl⟩
   rw [← hsb] at hnew ⊢
   replace hsb : v1.heap.size ≤ sb := by omega
   clear dc lc
   replace HD := qB hb HD
   replace HT := qB hb HT
   replace ay := qB hb ay
   replace HM := qB hb HM
   replace HL := qB hb HL
   replace HR := qB hb HR
   have UW := (hb).size
   replace ah := qT ah hb
   have HS := qd (hnew)
   clear hnew hb
   have dc := HD.out.c6
   have lc := HL.out.c4
   refine kO hK ?_
   clear hK K
   refine nT 7 rfl fun K hK => ?_
   have dc := HD.out.c6
   have lc := HL.out.c4
   go_simp
   have aY := qd (jS ob og key hash T P x c v5 HT.out hok h64 HM.out (by omega) (by omega) ay.out hb0)
   rw [← gV.out, ← HS2.out, ← HI1.out, ← HI2.out] at aY
   unfold bQ bT aJ at aY
   refine (aY.out).mono ?_
   rintro y v6 ⟨ap, fp, rfl, hap, hfp, hM2, hm⟩
   clear aY HM dc lc
   replace HD := qM hm HD
   replace HT := qM hm HT
   replace ay := qM hm ay
   replace HL := qM hm HL
   replace HR := qM hm HR
   replace HS := qM hm HS
   have UY := (hm).size
   replace ah := qU ah hm
   clear hm
   have HM := qd (hM2)
   have HA := qd (hap)
   have HF := qd (hfp)
   have dc := HD.out.c6
   have lc := HL.out.c4
   go_wp2_with fail
   refine kO hK ?_
   clear hK K
   refine nT 9 rfl fun K hK => ?_
   have dc := HD.out.c6
   have lc := HL.out.c4
   have yc := HS.out.c7
   have yf := HS.out.f7
   go_simp
   have UZ := qJ HD.out.lt (qJ HT.out.aT (qJ HT.out.aU (qJ HL.out.lt (qJ HR.out.lt (qJ HS.out.lt HM.out.lt)))))
   refine yH HS.out ?_
   rintro v7 ⟨hnew, hm⟩
   simp only [pt] at hnew
   clear dc lc yc yf
   replace HD := qM hm HD
   replace HT := qM hm HT
   replace ay := qM hm ay
   replace HL := qM hm HL
   replace HR := qM hm HR
   replace HM := qM hm HM
   have Ph := (hm).size
   replace ah := qU ah hm
   replace HS := qd hnew
   clear hnew hm
   have dc := HD.out.c6
   have lc := HL.out.c4
   refine kO hK ?_
   clear hK K
   refine aS (by kernel_rfl) ?_ _
   have KH := ah.out.size
   exact ⟨sb, ap, fp, rfl, HD.out, HT.out, ay.out, HL.out, HR.out, HM.out, HA.out, HF.out, HS.out, by omega, ah.out⟩
 clear dc lc HD HT ay HM HL HR ah
 rintro a' w2 ⟨sb, ap, fp, rfl, Ia, tQ, nW, tV, Ib, tY, tZ, uf, kK, Fu, kL⟩
 simp only [List.cons_append, List.nil_append, List.append_assoc]
 have HD := qd (Ia)
 have HT := qd (tQ)
 have ay := qd (nW)
 have HL := qd (tV)
 have HR := qd (Ib)
 have HM := qd (tY)
 have HA := qd (tZ)
 have HF := qd (uf)
 have HS := qd (kK)
 have ah := qd (kL)
 clear Ia tQ nW tV Ib tY tZ uf kK kL
 obtain ⟨fb, uO⟩ : ∃ b, b = qw.isSome := ⟨_, rfl⟩
 have KI := qd uO
 clear uO
 go_upto_region 3 with fail
 have sc := HS.out.c7
 have bC := qd (iI ob og key hash T ap fp s2 (by rw [← gV.out]; exact HA.out) w2 HT.out)
 unfold lN at bC
 rw [← gV.out, ← HI1.out] at bC
 unfold bQ gI aM at bC
 simp only [Option.isSome_map] at bC
 obtain ⟨fe, hfe⟩ : ∃ fe, fe = ((qw.map fun x => (aD T.gs x.1 x.2).ent).getD ⟨0, 0, 0⟩) := ⟨_, rfl⟩
 rw [← hfe] at bC
 clear hfe
 go_wp2_with fail
 refine (bC.out).mono ?_
 rintro x w3 ⟨rfl, hb⟩
 clear sc
 replace HD := qB hb HD
 replace HT := qB hb HT
 replace ay := qB hb ay
 replace HL := qB hb HL
 replace HR := qB hb HR
 replace HM := qB hb HM
 replace HS := qB hb HS
 have z8 := (hb).size
 replace ah := qT ah hb
 clear hb bC
 go_upto_region 4 with fail
 have q9 := qJ HD.out.lt (qJ HT.out.aT (qJ HT.out.aU (qJ HL.out.lt (qJ HR.out.lt (qJ HM.out.lt (qJ HS.out.lt ah.out.size))))))
 refine bY 37 #[.int .u64 (fe.key : Int), .int .u64 (fe.val : Int), .int .u64 (fe.hash : Int)] ?_
 rintro w4 ⟨hnew, hb⟩
 replace HD := qB hb HD
 replace HT := qB hb HT
 replace ay := qB hb ay
 replace HL := qB hb HL
 replace HR := qB hb HR
 replace HM := qB hb HM
 replace HS := qB hb HS
 have z17 := (hb).size
 replace ah := qT ah hb
 have HY := qd (hnew)
 clear hnew hb
 have sc := HS.out.c7
 have rc := HR.out.c7
 have rf := HR.out.f7
 go_wp2
 have q18 := qJ HD.out.lt (qJ HT.out.aT (qJ HT.out.aU (qJ HL.out.lt (qJ HR.out.lt (qJ HM.out.lt (qJ HS.out.lt HY.out.lt))))))
 have hnew := (((((((HR.out.ak 0 (.pointer (some ⟨ob, 0, none⟩))).ak 1 (.int .u64 (key : Int))).ak 2 (.int .u64 (hash : Int))).ak 3 (.pointer ap)).ak 4 (.int .i64 s1)).ak 5 (.pointer fp)).ak 6 (.int .i64 s2))
 have hm := ((((((((Mod.refl [(w.heap.size + 1)] w4).sl 0 (.pointer (some ⟨ob, 0, none⟩))).sl 1 (.int .u64 (key : Int))).sl 2 (.int .u64 (hash : Int))).sl 3 (.pointer ap)).sl 4 (.int .i64 s1)).sl 5 (.pointer fp)).sl 6 (.int .i64 s2))
 simp only [pt] at hnew
 refine cZ (F := fun v => aj v (w.heap.size + 1) 159 #[.pointer (some ⟨ob, 0, none⟩), .int .u64 (key : Int), .int .u64 (hash : Int), .pointer ap, .int .i64 s1, .pointer fp, .int .i64 s2] ∧ Mod [(w.heap.size + 1)] w4 v) ⟨hnew, hm⟩ ?_
 clear hnew hm
 rintro w5 ⟨hnew, hm⟩
 clear sc rc rf
 replace HD := qM hm HD
 replace HT := qM hm HT
 replace ay := qM hm ay
 replace HL := qM hm HL
 replace HM := qM hm HM
 replace HS := qM hm HS
 replace HY := qM hm HY
 have z26 := (hm).size
 replace ah := qU ah hm
 replace HR := qd hnew
 clear hnew hm
 have rx := HR.out.c7
 refine bodyPost_ret (v := .tuple #[.agg #[.pointer (some ⟨ob, 0, none⟩), .int .u64 (key : Int), .int .u64 (hash : Int), .pointer ap, .int .i64 s1, .pointer fp, .int .i64 s2], .bool qw.isSome]) (by simp [results, Tryz.results99, go_sem, rx.1, rx.2.1, rx.2.2.1, rx.2.2.2.1, rx.2.2.2.2.1, rx.2.2.2.2.2.1, rx.2.2.2.2.2.2]) rfl ⟨ap, fp, rfl, HA.out, HF.out, HM.out, ah.out⟩
theorem Ji (db rb cap ob og fb bU eb vb bX : Nat) (bH : List Nat) (bs : List (Nat × Nat)) (T : aC) (Ts : List aC) (n depth next key hash sd : Nat) (b : Nat × Nat) (Tx : aC) (P : MP) (x : bI) (c : bF) (w : World) (h : nV w db rb cap ob og fb bU eb vb bX bH bs T Ts n depth next) (hsd : sd = dx bs.length depth hash) (hb : bs[sd]? = some b) (hTs : Ts[sd]? = some Tx) (hok : Pw T.gs.length) (hpx : Pw Tx.gs.length) (h64 : hash < 18446744073709551616) (hM : aO w P x) (hE : Env W0 E w) (hb0 : W0.heap.size ≤ P.mb) (hmt : P.mb ∉ aV db rb fb eb vb ob og bH bs) (tX gX cnt : Nat) (TX : aC) (hga : if (aH Tx.gs key hash).1.isSome then tX = b.1 ∧ gX = b.2 ∧ TX = Tx ∧ cnt = (aH Tx.gs key hash).2.2 else
   cnt = (aH Tx.gs key hash).2.2 + (aH T.gs key hash).2.2 ∧ if (aH T.gs key hash).1.isSome then tX = ob ∧ gX = og ∧ TX = T else tX = b.1 ∧ gX = b.2 ∧ TX = Tx) :
  Calls Tryz.prog 99 #[bZ db, aJ (some ⟨P.mb, P.mo, none⟩) c, .int .u64 (key : Int), .int .u64 (hash : Int)] w (kZ w P x c key hash tX gX TX cnt) := by
 have nX : ∀ q ∈ aV db rb fb eb vb ob og bH bs, P.mb ≠ q := fun q hq e => hmt (e ▸ hq)
 have hm1 := nX db (by simp [aV])
 have hm2 := nX ob (by simp [aV])
 have jV := nX og (by simp [aV])
 have jy := nX eb (by simp [aV])
 have gJ := nX vb (by simp [aV])
 have lF := nX b.1 (by unfold aV; simp [dK]; exact .inr (.inr (.inr (.inr (.inr (.inr (.inr (.inr ⟨_, _, List.mem_of_getElem? hb, .inl rfl⟩))))))))
 have hm7 := nX b.2 (by unfold aV; simp [dK]; exact .inr (.inr (.inr (.inr (.inr (.inr (.inr (.inr ⟨_, _, List.mem_of_getElem? hb, .inr rfl⟩))))))))
 clear nX
 obtain ⟨W, hW, hB, hL, hR⟩ := lK w 112 #[.pointer (some ⟨P.mb, P.mo, none⟩), .int .i64 c.p, .int .i64 c.v, .int .i64 c.u] 159 #[.pointer none, .int .u64 0, .int .u64 0, .pointer none, .int .i64 0, .pointer none, .int .i64 0]
 have hml := hM.lt
 have hB0 := hE.size
 have hdl := h.blk.lt
 have hol := h.tab.aT
 have hgl := h.tab.aU
 have HW := qd hW
 have mq := qd (sG db fb bs.length bU W (by have := (h.blk.mod (Mod.of_below hB []) (by simp)).cell 3; simpa using this))
 unfold bZ at mq
 have hel := h.ev.lt
 have hvl := h.ev.oJ
 have hTx := h.tabs.at_ sd b Tx hb hTs
 have hxl := hTx.aT
 have hxg := hTx.aU
 have NJ := qd (fun (V : World) (hV : kY V eb ob vb bX (bs.map Prod.fst) depth next) => Dp eb ob vb bX (bs.map Prod.fst) depth next hash b.1 (by rw [List.length_map]; exact h.many) h.deep h64 (by rw [List.length_map, ← hsd, List.getElem?_map, hb]; rfl) V hV)
 unfold bT at NJ
 have HD := qd (h.blk.below hB h.blk.lt)
 have HT := qd (h.tab.below hB)
 have bJ := qd (hTx.below hB)
 have HV := qd (h.ev.mod (Mod.of_below hB []) (by simp) (by simp))
 have ay := qd (hE.next hB)
 have HM := qd (hM.below hB)
 have HL := qd (hL)
 have HR := qd (hR)
 have ah := qd (Mod.of_below hB [P.mb])
 clear hW hB h hE hM hL hR hTx
 unfold kZ bZ aJ bQ
 obtain ⟨qw, h1⟩ : ∃ s, s = (aH Tx.gs key hash).1 := ⟨_, rfl⟩
 obtain ⟨vX, h2⟩ : ∃ s, s = (aH Tx.gs key hash).2.1 := ⟨_, rfl⟩
 have gV := qd h1
 have HS2 := qd h2
 clear h1 h2
 obtain ⟨s1, h1⟩ : ∃ s, s = bO qw := ⟨_, rfl⟩
 obtain ⟨s2, h2⟩ : ∃ s, s = bO vX := ⟨_, rfl⟩
 have HI1 := qd h1
 have HI2 := qd h2
 clear h1 h2
 obtain ⟨ok1, h1⟩ : ∃ s, s = (aH T.gs key hash).1 := ⟨_, rfl⟩
 obtain ⟨QI, h2⟩ : ∃ s, s = (aH T.gs key hash).2.1 := ⟨_, rfl⟩
 have Ag := qd h1
 have Dr := qd h2
 clear h1 h2
 obtain ⟨o1, h1⟩ : ∃ s, s = bO ok1 := ⟨_, rfl⟩
 obtain ⟨o2, h2⟩ : ∃ s, s = bO QI := ⟨_, rfl⟩
 have WC := qd h1
 have HJ2 := qd h2
 clear h1 h2
 have Za := qd hga
 clear hga
 go_in
 go_upto_region 1 with fail
 rw [← HW.out]
 go_wp2_with fail
 refine (mq.out).mono ?_
 rintro y w1 ⟨rfl, rfl⟩
 clear mq
 go_upto_region 5 with fail
 have dc := HD.out.c6
 have lc := HL.out.c4
 have q1 := qJ HD.out.lt (qJ HT.out.aT (qJ HT.out.aU (qJ bJ.out.aT (qJ bJ.out.aU (qJ HV.out.lt (qJ HV.out.oJ (qJ HM.out.lt (qJ HL.out.lt (qJ HR.out.lt ah.out.size)))))))))
 refine Gi (fun a' wz => ∃ sb ap fp, a' = { tmps := ([.pointer (some ⟨db, 0, none⟩), .agg #[.pointer (some ⟨P.mb, P.mo, none⟩), .int .i64 c.p, .int .i64 c.v, .int .i64 c.u], .int .u64 (key : Int), .int .u64 (hash : Int), undef, .pointer (some ⟨w.heap.size, 0, none⟩), undef, undef, .pointer (some ⟨w.heap.size + 1, 0, none⟩), .bool false, undef, undef, undef, .pointer (some ⟨sb, 0, none⟩), undef, undef, undef, undef, undef, .pointer (some ⟨db, 0, none⟩), .bool true, .bool false, undef, undef, undef, undef, undef, undef, undef, undef, undef, undef, undef, undef, undef, undef, undef, .pointer (some ⟨db, 0, none⟩), .pointer (some ⟨db, 0, none⟩), .pointer (some ⟨db, 4, none⟩)] ++ [.pointer (some ⟨eb, 0, none⟩), .int .u64 (hash : Int), .pointer (some ⟨b.1, 0, none⟩), .agg #[.pointer (some ⟨P.mb, P.mo, none⟩), .int .i64 c.p, .int .i64 c.v, .int .i64 c.u], .int .u64 (key : Int), .int .u64 (hash : Int), .agg #[.pointer (some ⟨b.1, 0, none⟩), .int .u64 (key : Int), .int .u64 (hash : Int), .pointer ap, .int .i64 s1, .pointer fp, .int .i64 s2], undef, undef, undef, undef, undef, undef, undef, undef, undef, undef, undef, undef, undef, undef, undef, undef, undef, undef, undef, undef, undef, undef, undef]).toArray, defers := [] } ∧ aj wz db 239 #[.pointer (some ⟨ob, 0, none⟩), .int .i64 (depth : Int), .slice (some ⟨rb, 0, none⟩) bH.length cap, .slice (some ⟨fb, 0, none⟩) bs.length bU, .pointer (some ⟨eb, 0, none⟩), .bool false] ∧ TabAt wz ob og T ∧ TabAt wz b.1 b.2 Tx ∧ kY wz eb ob vb bX (bs.map Prod.fst) depth next ∧ Env W0 E wz ∧ aj wz w.heap.size 112 #[.pointer (some ⟨P.mb, P.mo, none⟩), .int .i64 c.p, .int .i64 c.v, .int .i64 c.u] ∧ aj wz (w.heap.size + 1) 159 #[.pointer none, .int .u64 0, .int .u64 0, .pointer none, .int .i64 0, .pointer none, .int .i64 0] ∧ aO wz P (x.add c (aH Tx.gs key hash).2.2) ∧ gy b.2 qw ap ∧ gy b.2 vX fp ∧ aj wz sb 159 #[.pointer (some ⟨b.1, 0, none⟩), .int .u64 (key : Int), .int .u64 (hash : Int), .pointer ap, .int .i64 s1, .pointer fp, .int .i64 s2] ∧ W.heap.size ≤ sb ∧ Mod ([P.mb]) w wz) ?_ ?_
 ·refine rT (fun (w' : World) => w'.cell? ⟨db, 0, none⟩ = some (.pointer (some ⟨ob, 0, none⟩)) ∧ w'.cell? ⟨db, 4, none⟩ = some (.pointer (some ⟨eb, 0, none⟩)) ∧ w'.cell? ⟨w.heap.size, 0, none⟩ = some (.pointer (some ⟨P.mb, P.mo, none⟩)) ∧ w'.cell? ⟨w.heap.size, 1, none⟩ = some (.int .i64 c.p) ∧ w'.cell? ⟨w.heap.size, 2, none⟩ = some (.int .i64 c.v) ∧ w'.cell? ⟨w.heap.size, 3, none⟩ = some (.int .i64 c.u)) [] ?_
  have hHeld := (⟨dc.1, dc.2.2.2.2.1, lc.1, lc.2.1, lc.2.2.1, lc.2.2.2⟩ : _ ∧ _ ∧ _ ∧ _ ∧ _ ∧ _)
  refine vW 0 rfl ?_
  refine vW 1 rfl ?_
  refine vW 2 rfl ?_
  refine vT 3 rfl ?_
  refine vW 4 rfl ?_
  refine vT 6 rfl ?_
  refine vW 7 rfl ?_
  refine vW 8 rfl ?_
  clear hHeld
  refine cZ (F := fun v => Mod [] W v) (Mod.drewN [] W 1) ?_
  rintro v1 hm
  clear dc lc
  replace HD := qM hm HD
  replace HT := qM hm HT
  replace bJ := qM hm bJ
  replace HV := qM hm HV
  replace ay := qM hm ay
  replace HM := qM hm HM
  replace HL := qM hm HL
  replace HR := qM hm HR
  have z212 := (hm).size
  replace ah := qU ah hm
  clear hm
  refine pairT (i := 5) (j := 10) (o := ⟨some 42, _, _, _, _, _⟩) (o' := ⟨some 13, _, _, _, _, _⟩) rfl rfl (by kernel_rfl) (fun K hK => ?_) (fun K hK => ?_)
  ·have dc := HD.out.c6
   have lc := HL.out.c4
   go_simp
   refine (NJ.out _ HV.out).mono ?_
   rintro y v2 ⟨rfl, hb⟩
   clear dc lc
   replace HD := qB hb HD
   replace HT := qB hb HT
   replace bJ := qB hb bJ
   replace HV := qB hb HV
   replace ay := qB hb ay
   replace HM := qB hb HM
   replace HL := qB hb HL
   replace HR := qB hb HR
   have acB := (hb).size
   replace ah := qT ah hb
   clear hb
   have dc := HD.out.c6
   have lc := HL.out.c4
   go_wp2_with fail
   refine kO hK ?_
   clear hK K
   refine pairT (i := 9) (j := 10) (o := ⟨some 46, _, _, _, _, _⟩) (o' := ⟨some 13, _, _, _, _, _⟩) rfl rfl (by kernel_rfl) (fun K hK => ?_) (fun K hK => ?_)
   ·have dc := HD.out.c6
    have lc := HL.out.c4
    go_simp
    have aY := qd (jS b.1 b.2 key hash Tx P x c v2 bJ.out hpx h64 HM.out (by omega) (by omega) ay.out hb0)
    rw [← gV.out, ← HS2.out, ← HI1.out, ← HI2.out] at aY
    unfold bQ bT aJ at aY
    refine (aY.out).mono ?_
    rintro y v3 ⟨ap, fp, rfl, hap, hfp, hM2, hm⟩
    clear aY HM dc lc
    replace HD := qM hm HD
    replace HT := qM hm HT
    replace bJ := qM hm bJ
    replace HV := qM hm HV
    replace ay := qM hm ay
    replace HL := qM hm HL
    replace HR := qM hm HR
    have acC := (hm).size
    replace ah := qU ah hm
    clear hm
    have HM := qd (hM2)
    have HA := qd (hap)
    have HF := qd (hfp)
    have dc := HD.out.c6
    have lc := HL.out.c4
    go_wp2_with fail
    refine kO hK ?_
    clear hK K
    refine nT 10 rfl fun K hK => ?_
    have dc := HD.out.c6
    have lc := HL.out.c4
    go_simp
    have acD := qJ HD.out.lt (qJ HT.out.aT (qJ HT.out.aU (qJ bJ.out.aT (qJ bJ.out.aU (qJ HV.out.lt (qJ HV.out.oJ (qJ HL.out.lt (qJ HR.out.lt (qJ HM.out.lt ah.out.size)))))))))
    refine bY 159 #[.pointer none, .int .u64 0, .int .u64 0, .pointer none, .int .i64 0, .pointer none, .int .i64 0] ?_
    rintro v4 ⟨hnew, hb⟩
    obtain ⟨sb, hsb⟩ : ∃ sb, sb = v3.heap.size := ⟨_, rfl⟩
    rw [← hsb] at hnew ⊢
    replace hsb : v3.heap.size ≤ sb := by omega
    clear dc lc
    replace HD := qB hb HD
    replace HT := qB hb HT
    replace bJ := qB hb bJ
    replace HV := qB hb HV
    replace ay := qB hb ay
    replace HL := qB hb HL
    replace HR := qB hb HR
    replace HM := qB hb HM
    have KH := (hb).size
    replace ah := qT ah hb
    have HS := qd (hnew)
    clear hnew hb
    have dc := HD.out.c6
    have lc := HL.out.c4
    refine kO hK ?_
    clear hK K
    refine nT 11 rfl fun K hK => ?_
    have dc := HD.out.c6
    have lc := HL.out.c4
    have yc := HS.out.c7
    have yf := HS.out.f7
    go_simp
    have aa2 := qJ HD.out.lt (qJ HT.out.aT (qJ HT.out.aU (qJ bJ.out.aT (qJ bJ.out.aU (qJ HV.out.lt (qJ HV.out.oJ (qJ HL.out.lt (qJ HR.out.lt (qJ HM.out.lt HS.out.lt)))))))))
    refine yH HS.out ?_
    rintro v5 ⟨hnew, hm⟩
    simp only [pt] at hnew
    clear dc lc yc yf
    replace HD := qM hm HD
    replace HT := qM hm HT
    replace bJ := qM hm bJ
    replace HV := qM hm HV
    replace ay := qM hm ay
    replace HL := qM hm HL
    replace HR := qM hm HR
    replace HM := qM hm HM
    have aa3 := (hm).size
    replace ah := qU ah hm
    replace HS := qd hnew
    clear hnew hm
    have dc := HD.out.c6
    have lc := HL.out.c4
    refine kO hK ?_
    clear hK K
    refine aS (by kernel_rfl) ?_ _
    have aa4 := ah.out.size
    exact ⟨sb, ap, fp, rfl, HD.out, HT.out, bJ.out, HV.out, ay.out, HL.out, HR.out, HM.out, HA.out, HF.out, HS.out, by omega, ah.out⟩
   ·have dc := HD.out.c6
    have lc := HL.out.c4
    go_simp
    have acE := qJ HD.out.lt (qJ HT.out.aT (qJ HT.out.aU (qJ bJ.out.aT (qJ bJ.out.aU (qJ HV.out.lt (qJ HV.out.oJ (qJ HM.out.lt (qJ HL.out.lt (qJ HR.out.lt ah.out.size)))))))))
    refine bY 159 #[.pointer none, .int .u64 0, .int .u64 0, .pointer none, .int .i64 0, .pointer none, .int .i64 0] ?_
    rintro v6 ⟨hnew, hb⟩
    obtain ⟨sb, hsb⟩ : ∃ sb, sb = v2.heap.size := ⟨_, rfl⟩
    rw [← hsb] at hnew ⊢
    replace hsb : v2.heap.size ≤ sb := by omega
    clear dc lc
    replace HD := qB hb HD
    replace HT := qB hb HT
    replace bJ := qB hb bJ
    replace HV := qB hb HV
    replace ay := qB hb ay
    replace HM := qB hb HM
    replace HL := qB hb HL
    replace HR := qB hb HR
    have acF := (hb).size
    replace ah := qT ah hb
    have HS := qd (hnew)
    clear hnew hb
    have dc := HD.out.c6
    have lc := HL.out.c4
    refine kO hK ?_
    clear hK K
    refine nT 9 rfl fun K hK => ?_
    have dc := HD.out.c6
    have lc := HL.out.c4
    go_simp
    have aY := qd (jS b.1 b.2 key hash Tx P x c v6 bJ.out hpx h64 HM.out (by omega) (by omega) ay.out hb0)
    rw [← gV.out, ← HS2.out, ← HI1.out, ← HI2.out] at aY
    unfold bQ bT aJ at aY
    refine (aY.out).mono ?_
    rintro y v7 ⟨ap, fp, rfl, hap, hfp, hM2, hm⟩
    clear aY HM dc lc
    replace HD := qM hm HD
    replace HT := qM hm HT
    replace bJ := qM hm bJ
    replace HV := qM hm HV
    replace ay := qM hm ay
    replace HL := qM hm HL
    replace HR := qM hm HR
    replace HS := qM hm HS
    have acG := (hm).size
    replace ah := qU ah hm
    clear hm
    have HM := qd (hM2)
    have HA := qd (hap)
    have HF := qd (hfp)
    have dc := HD.out.c6
    have lc := HL.out.c4
    go_wp2_with fail
    refine kO hK ?_
    clear hK K
    refine nT 11 rfl fun K hK => ?_
    have dc := HD.out.c6
    have lc := HL.out.c4
    have yc := HS.out.c7
    have yf := HS.out.f7
    go_simp
    have acH := qJ HD.out.lt (qJ HT.out.aT (qJ HT.out.aU (qJ bJ.out.aT (qJ bJ.out.aU (qJ HV.out.lt (qJ HV.out.oJ (qJ HL.out.lt (qJ HR.out.lt (qJ HS.out.lt HM.out.lt)))))))))
    refine yH HS.out ?_
    rintro v8 ⟨hnew, hm⟩
    simp only [pt] at hnew
    clear dc lc yc yf
    replace HD := qM hm HD
    replace HT := qM hm HT
    replace bJ := qM hm bJ
    replace HV := qM hm HV
    replace ay := qM hm ay
    replace HL := qM hm HL
    replace HR := qM hm HR
    replace HM := qM hm HM
    have acI := (hm).size
    replace ah := qU ah hm
    replace HS := qd hnew
    clear hnew hm
    have dc := HD.out.c6
    have lc := HL.out.c4
    refine kO hK ?_
    clear hK K
    refine aS (by kernel_rfl) ?_ _
    have acJ := ah.out.size
    exact ⟨sb, ap, fp, rfl, HD.out, HT.out, bJ.out, HV.out, ay.out, HL.out, HR.out, HM.out, HA.out, HF.out, HS.out, by omega, ah.out⟩
  ·have dc := HD.out.c6
   have lc := HL.out.c4
   go_simp
   have acK := qJ HD.out.lt (qJ HT.out.aT (qJ HT.out.aU (qJ bJ.out.aT (qJ bJ.out.aU (qJ HV.out.lt (qJ HV.out.oJ (qJ HM.out.lt (qJ HL.out.lt (qJ HR.out.lt ah.out.size)))))))))
   refine bY 159 #[.pointer none, .int .u64 0, .int .u64 0, .pointer none, .int .i64 0, .pointer none, .int .i64 0] ?_
   rintro v9 ⟨hnew, hb⟩
   obtain ⟨sb, hsb⟩ : ∃ sb, sb = v1.heap.size := ⟨_, rfl⟩
   rw [← hsb] at hnew ⊢
   replace hsb : v1.heap.size ≤ sb := by omega
   clear dc lc
   replace HD := qB hb HD
   replace HT := qB hb HT
   replace bJ := qB hb bJ
   replace HV := qB hb HV
   replace ay := qB hb ay
   replace HM := qB hb HM
   replace HL := qB hb HL
   replace HR := qB hb HR
   have acL := (hb).size
   replace ah := qT ah hb
   have HS := qd (hnew)
   clear hnew hb
   have dc := HD.out.c6
   have lc := HL.out.c4
   refine kO hK ?_
   clear hK K
   refine nT 5 rfl fun K hK => ?_
   have dc := HD.out.c6
   have lc := HL.out.c4
   go_simp
   refine (NJ.out _ HV.out).mono ?_
   rintro y v10 ⟨rfl, hb⟩
   clear dc lc
   replace HD := qB hb HD
   replace HT := qB hb HT
   replace bJ := qB hb bJ
   replace HV := qB hb HV
   replace ay := qB hb ay
   replace HM := qB hb HM
   replace HL := qB hb HL
   replace HR := qB hb HR
   replace HS := qB hb HS
   have Ph := (hb).size
   replace ah := qT ah hb
   clear hb
   have dc := HD.out.c6
   have lc := HL.out.c4
   go_wp2_with fail
   refine kO hK ?_
   clear hK K
   refine nT 9 rfl fun K hK => ?_
   have dc := HD.out.c6
   have lc := HL.out.c4
   go_simp
   have aY := qd (jS b.1 b.2 key hash Tx P x c v10 bJ.out hpx h64 HM.out (by omega) (by omega) ay.out hb0)
   rw [← gV.out, ← HS2.out, ← HI1.out, ← HI2.out] at aY
   unfold bQ bT aJ at aY
   refine (aY.out).mono ?_
   rintro y v11 ⟨ap, fp, rfl, hap, hfp, hM2, hm⟩
   clear aY HM dc lc
   replace HD := qM hm HD
   replace HT := qM hm HT
   replace bJ := qM hm bJ
   replace HV := qM hm HV
   replace ay := qM hm ay
   replace HL := qM hm HL
   replace HR := qM hm HR
   replace HS := qM hm HS
   have KH := (hm).size
   replace ah := qU ah hm
   clear hm
   have HM := qd (hM2)
   have HA := qd (hap)
   have HF := qd (hfp)
   have dc := HD.out.c6
   have lc := HL.out.c4
   go_wp2_with fail
   refine kO hK ?_
   clear hK K
   refine nT 11 rfl fun K hK => ?_
   have dc := HD.out.c6
   have lc := HL.out.c4
   have yc := HS.out.c7
   have yf := HS.out.f7
   go_simp
   have aa2 := qJ HD.out.lt (qJ HT.out.aT (qJ HT.out.aU (qJ bJ.out.aT (qJ bJ.out.aU (qJ HV.out.lt (qJ HV.out.oJ (qJ HL.out.lt (qJ HR.out.lt (qJ HS.out.lt HM.out.lt)))))))))
   refine yH HS.out ?_
   rintro v12 ⟨hnew, hm⟩
   simp only [pt] at hnew
   clear dc lc yc yf
   replace HD := qM hm HD
   replace HT := qM hm HT
   replace bJ := qM hm bJ
   replace HV := qM hm HV
   replace ay := qM hm ay
   replace HL := qM hm HL
   replace HR := qM hm HR
   replace HM := qM hm HM
   have aa3 := (hm).size
   replace ah := qU ah hm
   replace HS := qd hnew
   clear hnew hm
   have dc := HD.out.c6
   have lc := HL.out.c4
   refine kO hK ?_
   clear hK K
   refine aS (by kernel_rfl) ?_ _
   have aa4 := ah.out.size
   exact ⟨sb, ap, fp, rfl, HD.out, HT.out, bJ.out, HV.out, ay.out, HL.out, HR.out, HM.out, HA.out, HF.out, HS.out, by omega, ah.out⟩
 clear dc lc HD HT bJ HV ay HM HL HR ah
 rintro a' w2 ⟨sb, ap, fp, rfl, Ia, tQ, KJ, Rq, nW, tV, Ib, tY, tZ, uf, kK, Fu, kL⟩
 simp only [List.cons_append, List.nil_append, List.append_assoc]
 have HD := qd (Ia)
 have HT := qd (tQ)
 have bJ := qd (KJ)
 have HV := qd (Rq)
 have ay := qd (nW)
 have HL := qd (tV)
 have HR := qd (Ib)
 have HM := qd (tY)
 have HA := qd (tZ)
 have HF := qd (uf)
 have HS := qd (kK)
 have ah := qd (kL)
 clear Ia tQ KJ Rq nW tV Ib tY tZ uf kK kL
 obtain ⟨fb1, uO⟩ : ∃ b, b = qw.isSome := ⟨_, rfl⟩
 have KI := qd uO
 clear uO
 go_upto_region 6 with fail
 have sc := HS.out.c7
 have bC := qd (iI b.1 b.2 key hash Tx ap fp s2 (by rw [← gV.out]; exact HA.out) w2 bJ.out)
 unfold lN at bC
 rw [← gV.out, ← HI1.out] at bC
 unfold bQ gI aM at bC
 simp only [Option.isSome_map] at bC
 obtain ⟨fe, hfe⟩ : ∃ fe, fe = ((qw.map fun x => (aD Tx.gs x.1 x.2).ent).getD ⟨0, 0, 0⟩) := ⟨_, rfl⟩
 rw [← hfe] at bC
 clear hfe
 rw [← KI.out] at bC
 go_wp2_with fail
 refine (bC.out).mono ?_
 rintro x w3 ⟨rfl, hb⟩
 clear sc
 replace HD := qB hb HD
 replace HT := qB hb HT
 replace bJ := qB hb bJ
 replace HV := qB hb HV
 replace ay := qB hb ay
 replace HL := qB hb HL
 replace HR := qB hb HR
 replace HM := qB hb HM
 replace HS := qB hb HS
 have z12 := (hb).size
 replace ah := qT ah hb
 clear hb bC
 go_upto_region 7 with fail
 have q13 := qJ HD.out.lt (qJ HT.out.aT (qJ HT.out.aU (qJ bJ.out.aT (qJ bJ.out.aU (qJ HV.out.lt (qJ HV.out.oJ (qJ HL.out.lt (qJ HR.out.lt (qJ HM.out.lt (qJ HS.out.lt ah.out.size))))))))))
 refine bY 37 #[.int .u64 (fe.key : Int), .int .u64 (fe.val : Int), .int .u64 (fe.hash : Int)] ?_
 rintro w4 ⟨hnew, hb⟩
 replace HD := qB hb HD
 replace HT := qB hb HT
 replace bJ := qB hb bJ
 replace HV := qB hb HV
 replace ay := qB hb ay
 replace HL := qB hb HL
 replace HR := qB hb HR
 replace HM := qB hb HM
 replace HS := qB hb HS
 have z25 := (hb).size
 replace ah := qT ah hb
 have HY := qd (hnew)
 clear hnew hb
 cases fb1 with
 | true =>
  have sc := HS.out.c7
  have rc := HR.out.c7
  have rf := HR.out.f7
  go_wp2
  have abQ := qJ HD.out.lt (qJ HT.out.aT (qJ HT.out.aU (qJ bJ.out.aT (qJ bJ.out.aU (qJ HV.out.lt (qJ HV.out.oJ (qJ HL.out.lt (qJ HR.out.lt (qJ HM.out.lt (qJ HS.out.lt HY.out.lt))))))))))
  have hnew := (((((((HR.out.ak 0 (.pointer (some ⟨b.1, 0, none⟩))).ak 1 (.int .u64 (key : Int))).ak 2 (.int .u64 (hash : Int))).ak 3 (.pointer ap)).ak 4 (.int .i64 s1)).ak 5 (.pointer fp)).ak 6 (.int .i64 s2))
  have hm := ((((((((Mod.refl [(w.heap.size + 1)] w4).sl 0 (.pointer (some ⟨b.1, 0, none⟩))).sl 1 (.int .u64 (key : Int))).sl 2 (.int .u64 (hash : Int))).sl 3 (.pointer ap)).sl 4 (.int .i64 s1)).sl 5 (.pointer fp)).sl 6 (.int .i64 s2))
  simp only [pt] at hnew
  refine cZ (F := fun v => aj v (w.heap.size + 1) 159 #[.pointer (some ⟨b.1, 0, none⟩), .int .u64 (key : Int), .int .u64 (hash : Int), .pointer ap, .int .i64 s1, .pointer fp, .int .i64 s2] ∧ Mod [(w.heap.size + 1)] w4 v) ⟨hnew, hm⟩ ?_
  clear hnew hm
  rintro w9 ⟨hnew, hm⟩
  clear sc rc rf
  replace HD := qM hm HD
  replace HT := qM hm HT
  replace bJ := qM hm bJ
  replace HV := qM hm HV
  replace ay := qM hm ay
  replace HL := qM hm HL
  replace HM := qM hm HM
  replace HS := qM hm HS
  replace HY := qM hm HY
  have abR := (hm).size
  replace ah := qU ah hm
  replace HR := qd hnew
  clear hnew hm
  have rx := HR.out.c7
  refine bodyPost_ret (v := .tuple #[.agg #[.pointer (some ⟨b.1, 0, none⟩), .int .u64 (key : Int), .int .u64 (hash : Int), .pointer ap, .int .i64 s1, .pointer fp, .int .i64 s2], .bool true]) (by simp [results, Tryz.results99, go_sem, rx.1, rx.2.1, rx.2.2.1, rx.2.2.2.1, rx.2.2.2.2.1, rx.2.2.2.2.2.1, rx.2.2.2.2.2.2]) rfl ?_
  have hg := Za.out
  rw [← gV.out, ← KI.out] at hg
  simp only [if_true] at hg
  obtain ⟨rfl, rfl, rfl, rfl⟩ := hg
  exact ⟨ap, fp, by rw [← gV.out, ← HS2.out, ← HI1.out, ← HI2.out, ← KI.out], by rw [← gV.out]; exact HA.out, by rw [← HS2.out]; exact HF.out, HM.out, ah.out⟩
 | false =>
  go_upto_region 9 with fail
  have dc := HD.out.c6
  have lc := HL.out.c4
  have abS := qJ HD.out.lt (qJ HT.out.aT (qJ HT.out.aU (qJ bJ.out.aT (qJ bJ.out.aU (qJ HV.out.lt (qJ HV.out.oJ (qJ HL.out.lt (qJ HR.out.lt (qJ HM.out.lt (qJ HS.out.lt (qJ HY.out.lt ah.out.size)))))))))))
  refine Gi (fun a' wz => ∃ xB aq fq, a' = { tmps := ([.pointer (some ⟨db, 0, none⟩), .agg #[.pointer (some ⟨P.mb, P.mo, none⟩), .int .i64 c.p, .int .i64 c.v, .int .i64 c.u], .int .u64 (key : Int), .int .u64 (hash : Int), undef, .pointer (some ⟨w.heap.size, 0, none⟩), undef, undef, .pointer (some ⟨w.heap.size + 1, 0, none⟩), .bool false, undef, undef, undef, .pointer (some ⟨sb, 0, none⟩), .pointer (some ⟨w3.heap.size, 0, none⟩), .bool false, .pointer (some ⟨xB, 0, none⟩), undef, undef, .pointer (some ⟨db, 0, none⟩), .bool true, .bool false, undef, undef, undef, undef, undef, undef, undef, undef, undef, undef, undef, undef, undef, undef, undef, .pointer (some ⟨db, 0, none⟩), .pointer (some ⟨db, 0, none⟩), .pointer (some ⟨db, 4, none⟩)] ++ [.pointer (some ⟨eb, 0, none⟩), .int .u64 (hash : Int), .pointer (some ⟨b.1, 0, none⟩), .agg #[.pointer (some ⟨P.mb, P.mo, none⟩), .int .i64 c.p, .int .i64 c.v, .int .i64 c.u], .int .u64 (key : Int), .int .u64 (hash : Int), .agg #[.pointer (some ⟨b.1, 0, none⟩), .int .u64 (key : Int), .int .u64 (hash : Int), .pointer ap, .int .i64 s1, .pointer fp, .int .i64 s2], .tuple #[.agg #[.int .u64 (fe.key : Int), .int .u64 (fe.val : Int), .int .u64 (fe.hash : Int)], .bool false], .agg #[.pointer (some ⟨b.1, 0, none⟩), .int .u64 (key : Int), .int .u64 (hash : Int), .pointer ap, .int .i64 s1, .pointer fp, .int .i64 s2], .tuple #[.agg #[.int .u64 (fe.key : Int), .int .u64 (fe.val : Int), .int .u64 (fe.hash : Int)], .bool false], .agg #[.int .u64 (fe.key : Int), .int .u64 (fe.val : Int), .int .u64 (fe.hash : Int)], .bool false, .bool false, undef, .pointer (some ⟨db, 0, none⟩), .pointer (some ⟨db, 0, none⟩), .pointer (some ⟨db, 0, none⟩), .pointer (some ⟨ob, 0, none⟩), .agg #[.pointer (some ⟨P.mb, P.mo, none⟩), .int .i64 c.p, .int .i64 c.v, .int .i64 c.u], .int .u64 (key : Int), .int .u64 (hash : Int), .agg #[.pointer (some ⟨ob, 0, none⟩), .int .u64 (key : Int), .int .u64 (hash : Int), .pointer aq, .int .i64 o1, .pointer fq, .int .i64 o2], undef, undef, undef, undef, undef, undef, undef, undef]).toArray, defers := [] } ∧ aj wz db 239 #[.pointer (some ⟨ob, 0, none⟩), .int .i64 (depth : Int), .slice (some ⟨rb, 0, none⟩) bH.length cap, .slice (some ⟨fb, 0, none⟩) bs.length bU, .pointer (some ⟨eb, 0, none⟩), .bool false] ∧ TabAt wz ob og T ∧ TabAt wz b.1 b.2 Tx ∧ kY wz eb ob vb bX (bs.map Prod.fst) depth next ∧ Env W0 E wz ∧ aj wz w.heap.size 112 #[.pointer (some ⟨P.mb, P.mo, none⟩), .int .i64 c.p, .int .i64 c.v, .int .i64 c.u] ∧ aj wz (w.heap.size + 1) 159 #[.pointer none, .int .u64 0, .int .u64 0, .pointer none, .int .i64 0, .pointer none, .int .i64 0] ∧ gy b.2 qw ap ∧ gy b.2 vX fp ∧ aj wz sb 159 #[.pointer (some ⟨b.1, 0, none⟩), .int .u64 (key : Int), .int .u64 (hash : Int), .pointer ap, .int .i64 s1, .pointer fp, .int .i64 s2] ∧ aj wz w3.heap.size 37 #[.int .u64 (fe.key : Int), .int .u64 (fe.val : Int), .int .u64 (fe.hash : Int)] ∧ aO wz P ((x.add c (aH Tx.gs key hash).2.2).add c (aH T.gs key hash).2.2) ∧ gy og ok1 aq ∧ gy og QI fq ∧ aj wz xB 159 #[.pointer (some ⟨ob, 0, none⟩), .int .u64 (key : Int), .int .u64 (hash : Int), .pointer aq, .int .i64 o1, .pointer fq, .int .i64 o2] ∧ w4.heap.size ≤ xB ∧ Mod ([P.mb]) w wz) ?_ ?_
  ·refine rT (fun (w' : World) => w'.cell? ⟨db, 0, none⟩ = some (.pointer (some ⟨ob, 0, none⟩)) ∧ w'.cell? ⟨db, 4, none⟩ = some (.pointer (some ⟨eb, 0, none⟩)) ∧ w'.cell? ⟨w.heap.size, 0, none⟩ = some (.pointer (some ⟨P.mb, P.mo, none⟩)) ∧ w'.cell? ⟨w.heap.size, 1, none⟩ = some (.int .i64 c.p) ∧ w'.cell? ⟨w.heap.size, 2, none⟩ = some (.int .i64 c.v) ∧ w'.cell? ⟨w.heap.size, 3, none⟩ = some (.int .i64 c.u)) [] ?_
   have hHeld := (⟨dc.1, dc.2.2.2.2.1, lc.1, lc.2.1, lc.2.2.1, lc.2.2.2⟩ : _ ∧ _ ∧ _ ∧ _ ∧ _ ∧ _)
   refine vW 0 rfl ?_
   refine vW 1 rfl ?_
   refine vW 2 rfl ?_
   refine vT 3 rfl ?_
   refine vT 4 rfl ?_
   refine vW 5 rfl ?_
   refine vW 6 rfl ?_
   clear hHeld
   refine cZ (F := fun v => Mod [] w4 v) (Mod.drewN [] w4 1) ?_
   rintro v1 hm
   clear dc lc
   replace HD := qM hm HD
   replace HT := qM hm HT
   replace bJ := qM hm bJ
   replace HV := qM hm HV
   replace ay := qM hm ay
   replace HL := qM hm HL
   replace HR := qM hm HR
   replace HM := qM hm HM
   replace HS := qM hm HS
   replace HY := qM hm HY
   have abT := (hm).size
   replace ah := qU ah hm
   clear hm
   refine pairT (i := 7) (j := 8) (o := ⟨some 61, _, _, _, _, _⟩) (o' := ⟨some 16, _, _, _, _, _⟩) rfl rfl (by kernel_rfl) (fun K hK => ?_) (fun K hK => ?_)
   ·have dc := HD.out.c6
    have lc := HL.out.c4
    go_simp
    have aY := qd (jS ob og key hash T P (x.add c (aH Tx.gs key hash).2.2) c v1 HT.out hok h64 HM.out (by omega) (by omega) ay.out hb0)
    rw [← Ag.out, ← Dr.out, ← WC.out, ← HJ2.out] at aY
    unfold bQ bT aJ at aY
    refine (aY.out).mono ?_
    rintro y v2 ⟨aq, fq, rfl, haq, Bj, hM2, hm⟩
    clear aY HM dc lc
    replace HD := qM hm HD
    replace HT := qM hm HT
    replace bJ := qM hm bJ
    replace HV := qM hm HV
    replace ay := qM hm ay
    replace HL := qM hm HL
    replace HR := qM hm HR
    replace HS := qM hm HS
    replace HY := qM hm HY
    have abU := (hm).size
    replace ah := qU ah hm
    clear hm
    have HM := qd (hM2)
    have HB := qd (haq)
    have HG := qd (Bj)
    have dc := HD.out.c6
    have lc := HL.out.c4
    go_wp2_with fail
    refine kO hK ?_
    clear hK K
    refine nT 8 rfl fun K hK => ?_
    have dc := HD.out.c6
    have lc := HL.out.c4
    go_simp
    have abV := qJ HD.out.lt (qJ HT.out.aT (qJ HT.out.aU (qJ bJ.out.aT (qJ bJ.out.aU (qJ HV.out.lt (qJ HV.out.oJ (qJ HL.out.lt (qJ HR.out.lt (qJ HS.out.lt (qJ HY.out.lt (qJ HM.out.lt ah.out.size)))))))))))
    refine bY 159 #[.pointer none, .int .u64 0, .int .u64 0, .pointer none, .int .i64 0, .pointer none, .int .i64 0] ?_
    rintro v3 ⟨hnew, hb⟩
    obtain ⟨xB, KL⟩ : ∃ xB, xB = v2.heap.size := ⟨_, rfl⟩
    rw [← KL] at hnew ⊢
    replace KL : v2.heap.size ≤ xB := by omega
    clear dc lc
    replace HD := qB hb HD
    replace HT := qB hb HT
    replace bJ := qB hb bJ
    replace HV := qB hb HV
    replace ay := qB hb ay
    replace HL := qB hb HL
    replace HR := qB hb HR
    replace HS := qB hb HS
    replace HY := qB hb HY
    replace HM := qB hb HM
    have abW := (hb).size
    replace ah := qT ah hb
    have HS2 := qd (hnew)
    clear hnew hb
    have dc := HD.out.c6
    have lc := HL.out.c4
    refine kO hK ?_
    clear hK K
    refine nT 9 rfl fun K hK => ?_
    have dc := HD.out.c6
    have lc := HL.out.c4
    have yc := HS2.out.c7
    have yf := HS2.out.f7
    go_simp
    have abX := qJ HD.out.lt (qJ HT.out.aT (qJ HT.out.aU (qJ bJ.out.aT (qJ bJ.out.aU (qJ HV.out.lt (qJ HV.out.oJ (qJ HL.out.lt (qJ HR.out.lt (qJ HS.out.lt (qJ HY.out.lt (qJ HM.out.lt HS2.out.lt)))))))))))
    refine yH HS2.out ?_
    rintro v4 ⟨hnew, hm⟩
    simp only [pt] at hnew
    clear dc lc yc yf
    replace HD := qM hm HD
    replace HT := qM hm HT
    replace bJ := qM hm bJ
    replace HV := qM hm HV
    replace ay := qM hm ay
    replace HL := qM hm HL
    replace HR := qM hm HR
    replace HS := qM hm HS
    replace HY := qM hm HY
    replace HM := qM hm HM
    have abY := (hm).size
    replace ah := qU ah hm
    replace HS2 := qd hnew
    clear hnew hm
    have dc := HD.out.c6
    have lc := HL.out.c4
    refine kO hK ?_
    clear hK K
    refine aS (by kernel_rfl) ?_ _
    have abZ := ah.out.size
    exact ⟨xB, aq, fq, rfl, HD.out, HT.out, bJ.out, HV.out, ay.out, HL.out, HR.out, HA.out, HF.out, HS.out, HY.out, HM.out, HB.out, HG.out, HS2.out, by omega, ah.out⟩
   ·have dc := HD.out.c6
    have lc := HL.out.c4
    go_simp
    have ab0 := qJ HD.out.lt (qJ HT.out.aT (qJ HT.out.aU (qJ bJ.out.aT (qJ bJ.out.aU (qJ HV.out.lt (qJ HV.out.oJ (qJ HL.out.lt (qJ HR.out.lt (qJ HM.out.lt (qJ HS.out.lt (qJ HY.out.lt ah.out.size)))))))))))
    refine bY 159 #[.pointer none, .int .u64 0, .int .u64 0, .pointer none, .int .i64 0, .pointer none, .int .i64 0] ?_
    rintro v5 ⟨hnew, hb⟩
    obtain ⟨xB, KL⟩ : ∃ xB, xB = v1.heap.size := ⟨_, rfl⟩
    rw [← KL] at hnew ⊢
    replace KL : v1.heap.size ≤ xB := by omega
    clear dc lc
    replace HD := qB hb HD
    replace HT := qB hb HT
    replace bJ := qB hb bJ
    replace HV := qB hb HV
    replace ay := qB hb ay
    replace HL := qB hb HL
    replace HR := qB hb HR
    replace HM := qB hb HM
    replace HS := qB hb HS
    replace HY := qB hb HY
    have ab1 := (hb).size
    replace ah := qT ah hb
    have HS2 := qd (hnew)
    clear hnew hb
    have dc := HD.out.c6
    have lc := HL.out.c4
    refine kO hK ?_
    clear hK K
    refine nT 7 rfl fun K hK => ?_
    have dc := HD.out.c6
    have lc := HL.out.c4
    go_simp
    have aY := qd (jS ob og key hash T P (x.add c (aH Tx.gs key hash).2.2) c v5 HT.out hok h64 HM.out (by omega) (by omega) ay.out hb0)
    rw [← Ag.out, ← Dr.out, ← WC.out, ← HJ2.out] at aY
    unfold bQ bT aJ at aY
    refine (aY.out).mono ?_
    rintro y v6 ⟨aq, fq, rfl, haq, Bj, hM2, hm⟩
    clear aY HM dc lc
    replace HD := qM hm HD
    replace HT := qM hm HT
    replace bJ := qM hm bJ
    replace HV := qM hm HV
    replace ay := qM hm ay
    replace HL := qM hm HL
    replace HR := qM hm HR
    replace HS := qM hm HS
    replace HY := qM hm HY
    replace HS2 := qM hm HS2
    have ab2 := (hm).size
    replace ah := qU ah hm
    clear hm
    have HM := qd (hM2)
    have HB := qd (haq)
    have HG := qd (Bj)
    have dc := HD.out.c6
    have lc := HL.out.c4
    go_wp2_with fail
    refine kO hK ?_
    clear hK K
    refine nT 9 rfl fun K hK => ?_
    have dc := HD.out.c6
    have lc := HL.out.c4
    have yc := HS2.out.c7
    have yf := HS2.out.f7
    go_simp
    have ab3 := qJ HD.out.lt (qJ HT.out.aT (qJ HT.out.aU (qJ bJ.out.aT (qJ bJ.out.aU (qJ HV.out.lt (qJ HV.out.oJ (qJ HL.out.lt (qJ HR.out.lt (qJ HS.out.lt (qJ HY.out.lt (qJ HS2.out.lt HM.out.lt)))))))))))
    refine yH HS2.out ?_
    rintro v7 ⟨hnew, hm⟩
    simp only [pt] at hnew
    clear dc lc yc yf
    replace HD := qM hm HD
    replace HT := qM hm HT
    replace bJ := qM hm bJ
    replace HV := qM hm HV
    replace ay := qM hm ay
    replace HL := qM hm HL
    replace HR := qM hm HR
    replace HS := qM hm HS
    replace HY := qM hm HY
    replace HM := qM hm HM
    have ab4 := (hm).size
    replace ah := qU ah hm
    replace HS2 := qd hnew
    clear hnew hm
    have dc := HD.out.c6
    have lc := HL.out.c4
    refine kO hK ?_
    clear hK K
    refine aS (by kernel_rfl) ?_ _
    have ab5 := ah.out.size
    exact ⟨xB, aq, fq, rfl, HD.out, HT.out, bJ.out, HV.out, ay.out, HL.out, HR.out, HA.out, HF.out, HS.out, HY.out, HM.out, HB.out, HG.out, HS2.out, by omega, ah.out⟩
  clear dc lc HD HT bJ HV ay HL HR HM HA HF HS HY ah
  rintro a' w5 ⟨xB, aq, fq, rfl, Ia, tQ, KJ, Rq, nW, tV, Ib, tZ, uf, m_S, m_Y, tY, m_B, m_G, kK, abK, kL⟩
  simp only [List.cons_append, List.nil_append, List.append_assoc]
  have HD := qd (Ia)
  have HT := qd (tQ)
  have bJ := qd (KJ)
  have HV := qd (Rq)
  have ay := qd (nW)
  have HL := qd (tV)
  have HR := qd (Ib)
  have HA := qd (tZ)
  have HF := qd (uf)
  have HS := qd (m_S)
  have HY := qd (m_Y)
  have HM := qd (tY)
  have HB := qd (m_B)
  have HG := qd (m_G)
  have HS2 := qd (kK)
  have ah := qd (kL)
  clear Ia tQ KJ Rq nW tV Ib tZ uf m_S m_Y tY m_B m_G kK kL
  obtain ⟨fb2, uO⟩ : ∃ b, b = ok1.isSome := ⟨_, rfl⟩
  have Pj := qd uO
  clear uO
  go_upto_region 10 with fail
  obtain ⟨sd0, sd1, sd2, sd3, sd4, sd5, sd6⟩ := HS2.out.c7
  have bC := qd (iI ob og key hash T aq fq o2 (by rw [← Ag.out]; exact HB.out) w5 HT.out)
  unfold lN at bC
  rw [← Ag.out, ← WC.out] at bC
  unfold bQ gI aM at bC
  simp only [Option.isSome_map] at bC
  obtain ⟨fe, hfe⟩ : ∃ fe, fe = ((ok1.map fun x => (aD T.gs x.1 x.2).ent).getD ⟨0, 0, 0⟩) := ⟨_, rfl⟩
  rw [← hfe] at bC
  clear hfe
  rw [← Pj.out] at bC
  go_wp2_with fail
  refine (bC.out).mono ?_
  rintro x w6 ⟨rfl, hb⟩
  clear sd0 sd1 sd2 sd3 sd4 sd5 sd6
  replace HD := qB hb HD
  replace HT := qB hb HT
  replace bJ := qB hb bJ
  replace HV := qB hb HV
  replace ay := qB hb ay
  replace HL := qB hb HL
  replace HR := qB hb HR
  replace HS := qB hb HS
  replace HY := qB hb HY
  replace HM := qB hb HM
  replace HS2 := qB hb HS2
  have ab6 := (hb).size
  replace ah := qT ah hb
  clear hb bC
  go_upto_region 11 with fail
  clear HY
  have ab7 := qJ HD.out.lt (qJ HT.out.aT (qJ HT.out.aU (qJ bJ.out.aT (qJ bJ.out.aU (qJ HV.out.lt (qJ HV.out.oJ (qJ HL.out.lt (qJ HR.out.lt (qJ HS.out.lt (qJ HM.out.lt (qJ HS2.out.lt ah.out.size)))))))))))
  refine bY 37 #[.int .u64 (fe.key : Int), .int .u64 (fe.val : Int), .int .u64 (fe.hash : Int)] ?_
  rintro w7 ⟨hnew, hb⟩
  replace HD := qB hb HD
  replace HT := qB hb HT
  replace bJ := qB hb bJ
  replace HV := qB hb HV
  replace ay := qB hb ay
  replace HL := qB hb HL
  replace HR := qB hb HR
  replace HS := qB hb HS
  replace HM := qB hb HM
  replace HS2 := qB hb HS2
  have ab8 := (hb).size
  replace ah := qT ah hb
  have NK := qd (hnew)
  clear hnew hb
  cases fb2 with
  | true =>
   have sc := HS2.out.c7
   have rc := HR.out.c7
   have rf := HR.out.f7
   go_wp2
   have ab9 := qJ HD.out.lt (qJ HT.out.aT (qJ HT.out.aU (qJ bJ.out.aT (qJ bJ.out.aU (qJ HV.out.lt (qJ HV.out.oJ (qJ HL.out.lt (qJ HR.out.lt (qJ HS.out.lt (qJ HM.out.lt (qJ HS2.out.lt NK.out.lt)))))))))))
   have hnew := (((((((HR.out.ak 0 (.pointer (some ⟨ob, 0, none⟩))).ak 1 (.int .u64 (key : Int))).ak 2 (.int .u64 (hash : Int))).ak 3 (.pointer aq)).ak 4 (.int .i64 o1)).ak 5 (.pointer fq)).ak 6 (.int .i64 o2))
   have hm := ((((((((Mod.refl [(w.heap.size + 1)] w7).sl 0 (.pointer (some ⟨ob, 0, none⟩))).sl 1 (.int .u64 (key : Int))).sl 2 (.int .u64 (hash : Int))).sl 3 (.pointer aq)).sl 4 (.int .i64 o1)).sl 5 (.pointer fq)).sl 6 (.int .i64 o2))
   simp only [pt] at hnew
   refine cZ (F := fun v => aj v (w.heap.size + 1) 159 #[.pointer (some ⟨ob, 0, none⟩), .int .u64 (key : Int), .int .u64 (hash : Int), .pointer aq, .int .i64 o1, .pointer fq, .int .i64 o2] ∧ Mod [(w.heap.size + 1)] w7 v) ⟨hnew, hm⟩ ?_
   clear hnew hm
   rintro w9 ⟨hnew, hm⟩
   clear sc rc rf
   replace HD := qM hm HD
   replace HT := qM hm HT
   replace bJ := qM hm bJ
   replace HV := qM hm HV
   replace ay := qM hm ay
   replace HL := qM hm HL
   replace HS := qM hm HS
   replace HM := qM hm HM
   replace HS2 := qM hm HS2
   replace NK := qM hm NK
   have acd := (hm).size
   replace ah := qU ah hm
   replace HR := qd hnew
   clear hnew hm
   have rx := HR.out.c7
   refine bodyPost_ret (v := .tuple #[.agg #[.pointer (some ⟨ob, 0, none⟩), .int .u64 (key : Int), .int .u64 (hash : Int), .pointer aq, .int .i64 o1, .pointer fq, .int .i64 o2], .bool true]) (by simp [results, Tryz.results99, go_sem, rx.1, rx.2.1, rx.2.2.1, rx.2.2.2.1, rx.2.2.2.2.1, rx.2.2.2.2.2.1, rx.2.2.2.2.2.2]) rfl ?_
   have hg := Za.out
   rw [← gV.out, ← KI.out, ← Ag.out, ← Pj.out] at hg
   simp only [if_true, if_false, Bool.false_eq_true] at hg
   obtain ⟨rfl, rfl, rfl, rfl⟩ := hg
   exact ⟨aq, fq, by rw [← Ag.out, ← Dr.out, ← WC.out, ← HJ2.out, ← Pj.out], by rw [← Ag.out]; exact HB.out, by rw [← Dr.out]; exact HG.out, bI.add_add x c _ _ ▸ HM.out, ah.out⟩
  | false =>
   have sc := HS.out.c7
   have rc := HR.out.c7
   have rf := HR.out.f7
   go_wp2
   have ace := qJ HD.out.lt (qJ HT.out.aT (qJ HT.out.aU (qJ bJ.out.aT (qJ bJ.out.aU (qJ HV.out.lt (qJ HV.out.oJ (qJ HL.out.lt (qJ HR.out.lt (qJ HS.out.lt (qJ HM.out.lt (qJ HS2.out.lt NK.out.lt)))))))))))
   have hnew := (((((((HR.out.ak 0 (.pointer (some ⟨b.1, 0, none⟩))).ak 1 (.int .u64 (key : Int))).ak 2 (.int .u64 (hash : Int))).ak 3 (.pointer ap)).ak 4 (.int .i64 s1)).ak 5 (.pointer fp)).ak 6 (.int .i64 s2))
   have hm := ((((((((Mod.refl [(w.heap.size + 1)] w7).sl 0 (.pointer (some ⟨b.1, 0, none⟩))).sl 1 (.int .u64 (key : Int))).sl 2 (.int .u64 (hash : Int))).sl 3 (.pointer ap)).sl 4 (.int .i64 s1)).sl 5 (.pointer fp)).sl 6 (.int .i64 s2))
   simp only [pt] at hnew
   refine cZ (F := fun v => aj v (w.heap.size + 1) 159 #[.pointer (some ⟨b.1, 0, none⟩), .int .u64 (key : Int), .int .u64 (hash : Int), .pointer ap, .int .i64 s1, .pointer fp, .int .i64 s2] ∧ Mod [(w.heap.size + 1)] w7 v) ⟨hnew, hm⟩ ?_
   clear hnew hm
   rintro w9 ⟨hnew, hm⟩
   clear sc rc rf
   replace HD := qM hm HD
   replace HT := qM hm HT
   replace bJ := qM hm bJ
   replace HV := qM hm HV
   replace ay := qM hm ay
   replace HL := qM hm HL
   replace HS := qM hm HS
   replace HM := qM hm HM
   replace HS2 := qM hm HS2
   replace NK := qM hm NK
   have acf := (hm).size
   replace ah := qU ah hm
   replace HR := qd hnew
   clear hnew hm
   have rx := HR.out.c7
   refine bodyPost_ret (v := .tuple #[.agg #[.pointer (some ⟨b.1, 0, none⟩), .int .u64 (key : Int), .int .u64 (hash : Int), .pointer ap, .int .i64 s1, .pointer fp, .int .i64 s2], .bool false]) (by simp [results, Tryz.results99, go_sem, rx.1, rx.2.1, rx.2.2.1, rx.2.2.2.1, rx.2.2.2.2.1, rx.2.2.2.2.2.1, rx.2.2.2.2.2.2]) rfl ?_
   have hg := Za.out
   rw [← gV.out, ← KI.out, ← Ag.out, ← Pj.out] at hg
   simp only [if_true, if_false, Bool.false_eq_true] at hg
   obtain ⟨rfl, rfl, rfl, rfl⟩ := hg
   exact ⟨ap, fp, by rw [← gV.out, ← HS2.out, ← HI1.out, ← HI2.out, ← KI.out], by rw [← gV.out]; exact HA.out, by rw [← HS2.out]; exact HF.out, bI.add_add x c _ _ ▸ HM.out, ah.out⟩
end Go.Proofs.YtfojgfddgplinabGreatDoor
