/- A dual's seek by its contract. -/
import Derived.Test.YtbphcldoflekpaaGreatDoorCoAH
import Derived.Test.YtbphcldoflekpaaGreatDoorSqT
import Derived.Test.YtbphcldoflekpaaGreatDoorLaneP
namespace Go.Proofs.YtbphcldoflekpaaGreatDoor
set_option maxRecDepth 100000
set_option maxHeartbeats 8000000
open Go.RowKit dA
variable {W0 : World} {E : Nat → Addr}
theorem Ga {P : Program} {c : Code} {a : Act} {w : World} {Q : Exit → Act → World → Prop} (R : Act → World → Prop) (h : c.wp P (Za R Q) a w) (hR : ∀ a w, R a w → Q .normal a w) : c.wp P Q a w :=
 wp_mono h fun e a w hq => by cases e <;> first | exact hR _ _ hq | exact hq
theorem jQ (tb gb key hash : Nat) (T : aB) (P : MP) (x : bM) (c : bC) (w : World) (h : TabAt w tb gb T) (hP : Pw T.gs.length) (h64 : hash < 18446744073709551616) (hM : aN w P x) (hmt : P.mb ≠ tb) (gD : P.mb ≠ gb) (hE : Env W0 E w) (hb0 : W0.heap.size ≤ P.mb) :
  Calls Tryz.prog 80 #[bN tb, aG (some ⟨P.mb, P.mo, none⟩) c, nU key, nU hash] w fun e w' => ∃ ap fp, e = .returned (bK tb key hash ap (bS (aH T.gs key hash).1) fp (bS (aH T.gs key hash).2.1)) ∧
   gW gb (aH T.gs key hash).1 ap ∧ gW gb (aH T.gs key hash).2.1 fp ∧ aN w' P (x.add c (aH T.gs key hash).2.2) ∧ Mod [P.mb] w w' :=
 qA tb gb key hash T P.mb P.mt P.pre P.post P.mo x.all x.last P.m c w h hP h64 hM hmt gD hE.tz (by have := hE.KJ; omega)
def jV (w : World) (P : MP) (x : bM) (c : bC) (key hash tX gX : Nat) (TX : aB) (cnt : Nat) (e : Ending) (w' : World) : Prop :=
 ∃ ap fp, e = .returned (.tuple #[bK tX key hash ap (bS (aH TX.gs key hash).1) fp (bS (aH TX.gs key hash).2.1), .bool (aH TX.gs key hash).1.isSome]) ∧
  gW gX (aH TX.gs key hash).1 ap ∧ gW gX (aH TX.gs key hash).2.1 fp ∧ aN w' P (x.add c cnt) ∧ Mod [P.mb] w w'
theorem Jt (db rb cap ob og : Nat) (bl : List (Nat × Nat × Nat)) (T : aB) (n depth k key hash : Nat) (P : MP) (x : bM) (c : bC) (w : World) (h : sU w db rb cap ob og bl T n depth k) (hok : Pw T.gs.length) (h64 : hash < 18446744073709551616) (hM : aN w P x) (hE : Env W0 E w) (hb0 : W0.heap.size ≤ P.mb) (hmt : P.mb ≠ ob ∧ P.mb ≠ og ∧ P.mb ≠ db) :
  Calls Tryz.prog 116 #[bL db, aG (some ⟨P.mb, P.mo, none⟩) c, nU key, nU hash] w (jV w P x c key hash ob og T (aH T.gs key hash).2.2) := by
 obtain ⟨hmt, gD, hmd⟩ := hmt
 obtain ⟨W, hW, hB, hL, hR⟩ := jS w 115 #[.pointer (some ⟨P.mb, P.mo, none⟩), .int .i64 c.p, .int .i64 c.v, .int .i64 c.u] 163 #[.pointer none, .int .u64 0, .int .u64 0, .pointer none, .int .i64 0, .pointer none, .int .i64 0]
 have hml := hM.lt
 have hB0 := hE.size
 have hdl := h.blk.lt
 have hol := h.tab.aQ
 have hgl := h.tab.aR
 have HW := qd hW
 have mh := qd (uj db W (by have := (h.blk.mod (Mod.of_below hB []) (by simp)).cell 3; simpa using this))
 unfold bL at mh
 have HD := qd (h.blk.below hB h.blk.lt)
 have HT := qd (h.tab.below hB)
 have ay := qd (hE.next hB)
 have HM := qd (hM.below hB)
 have HL := qd (hL)
 have HR := qd (hR)
 have ah := qd (Mod.of_below hB [P.mb])
 clear hW hB h hE hM hL hR
 unfold jV bL aG bK
 obtain ⟨pV, um⟩ : ∃ s, s = (aH T.gs key hash).1 := ⟨_, rfl⟩
 obtain ⟨vJ, uo⟩ : ∃ s, s = (aH T.gs key hash).2.1 := ⟨_, rfl⟩
 rw [← um, ← uo]
 have ig := qd um
 have HS2 := qd uo
 clear um uo
 obtain ⟨s1, hs1⟩ : ∃ s, s = bS pV := ⟨_, rfl⟩
 obtain ⟨s2, hs2⟩ : ∃ s, s = bS vJ := ⟨_, rfl⟩
 rw [← hs1, ← hs2]
 have HI1 := qd hs1
 have HI2 := qd hs2
 clear hs1 hs2
 go_in
 go_upto_region 1 with fail
 rw [← HW.out]
 go_wp2_with fail
 refine (mh.out).mono ?_
 rintro y w1 ⟨rfl, rfl⟩
 clear mh
 go_upto_region 2 with fail
 have dc := HD.out.c6
 have lc := HL.out.c4
 have q1 := qJ HD.out.lt (qJ HT.out.aQ (qJ HT.out.aR (qJ HM.out.lt (qJ HL.out.lt (qJ HR.out.lt ah.out.size)))))
 refine Ga (fun a' wz => ∃ sb ap fp, a' = { tmps := ([pQ db, .agg #[.pointer (some ⟨P.mb, P.mo, none⟩), .int .i64 c.p, .int .i64 c.v, .int .i64 c.u], nU key, nU hash, undef, pQ w.heap.size, undef, undef, .pointer (some ⟨w.heap.size + 1, 0, none⟩), .bool false, pQ sb, undef, undef, undef, undef, undef, undef, undef, undef, pQ db, .bool false, .bool true, pQ db, pQ db, pQ db, pQ ob, .agg #[.pointer (some ⟨P.mb, P.mo, none⟩), .int .i64 c.p, .int .i64 c.v, .int .i64 c.u], nU key, nU hash, .agg #[pQ ob, nU key, nU hash, .pointer ap, .int .i64 s1, .pointer fp, .int .i64 s2], undef, undef, undef, undef, undef, undef, undef, undef, undef, undef] ++ [undef, undef, undef, undef, undef, undef, undef, undef, undef, undef, undef, undef, undef, undef, undef, undef, undef, undef, undef, undef, undef, undef, undef, undef, undef, undef, undef, undef, undef, undef]).toArray, defers := [] } ∧ aj wz db 239 #[pQ ob, nI depth, .slice (some ⟨rb, 0, none⟩) bl.length cap, .slice none 0 0, .pointer none, .bool false] ∧ TabAt wz ob og T ∧ Env W0 E wz ∧ aj wz w.heap.size 115 #[.pointer (some ⟨P.mb, P.mo, none⟩), .int .i64 c.p, .int .i64 c.v, .int .i64 c.u] ∧ aj wz (w.heap.size + 1) 163 #[.pointer none, .int .u64 0, .int .u64 0, .pointer none, .int .i64 0, .pointer none, .int .i64 0] ∧ aN wz P (x.add c (aH T.gs key hash).2.2) ∧ gW og pV ap ∧ gW og vJ fp ∧ aj wz sb 163 #[pQ ob, nU key, nU hash, .pointer ap, .int .i64 s1, .pointer fp, .int .i64 s2] ∧ W.heap.size ≤ sb ∧ Mod ([P.mb]) w wz) ?_ ?_
 ·refine rT (fun (w' : World) => w'.cell? ⟨db, 0, none⟩ = some (pQ ob) ∧ w'.cell? ⟨w.heap.size, 0, none⟩ = some (.pointer (some ⟨P.mb, P.mo, none⟩)) ∧ w'.cell? ⟨w.heap.size, 1, none⟩ = some (.int .i64 c.p) ∧ w'.cell? ⟨w.heap.size, 2, none⟩ = some (.int .i64 c.v) ∧ w'.cell? ⟨w.heap.size, 3, none⟩ = some (.int .i64 c.u)) [] ?_
  have hHeld := (⟨dc.1, lc.1, lc.2.1, lc.2.2.1, lc.2.2.2⟩ : _ ∧ _ ∧ _ ∧ _ ∧ _)
  refine vW 0 rfl ?_
  refine vW 1 rfl ?_
  refine vW 2 rfl ?_
  refine vT 3 rfl ?_
  refine vT 4 rfl ?_
  refine vW 5 rfl ?_
  refine vW 6 rfl ?_
  clear hHeld
  refine cO (F := fun v => Mod [] W v) (Mod.drewN [] W 1) ?_
  rintro v1 hm
  clear dc lc
  replace HD := qM hm HD
  replace HT := qM hm HT
  replace ay := qM hm ay
  replace HM := qM hm HM
  replace HL := qM hm HL
  replace HR := qM hm HR
  have z208 := (hm).size
  replace ah := qU ah hm
  clear hm
  refine pairT (i := 7) (j := 8) (o := ⟨some 29, _, _, _, _, _⟩) (o' := ⟨some 10, _, _, _, _, _⟩) rfl rfl (by kernel_rfl) (fun K hK => ?_) (fun K hK => ?_)
  focus
   have dc := HD.out.c6
   have lc := HL.out.c4
   go_simp
   have aW := qd (jQ ob og key hash T P x c v1 HT.out hok h64 HM.out (by omega) (by omega) ay.out hb0)
   rw [← ig.out, ← HS2.out, ← HI1.out, ← HI2.out] at aW
   unfold bK bN aG at aW
   refine (aW.out).mono ?_
   rintro y v2 ⟨ap, fp, rfl, hap, hfp, hM2, hm⟩
   clear aW HM dc lc
   replace HD := qM hm HD
   replace HT := qM hm HT
   replace ay := qM hm ay
   replace HL := qM hm HL
   replace HR := qM hm HR
   have Vh := (hm).size
   replace ah := qU ah hm
   clear hm
   have HM := qd (hM2)
   have HA := qd (hap)
   have HF := qd (hfp)
   have dc := HD.out.c6
   have lc := HL.out.c4
   go_wp2_with fail
   refine kO hK ?_
   clear hK K
   refine nT 8 rfl fun K hK => ?_
   have dc := HD.out.c6
   have lc := HL.out.c4
   go_simp
   have Vi := qJ HD.out.lt (qJ HT.out.aQ (qJ HT.out.aR (qJ HL.out.lt (qJ HR.out.lt (qJ HM.out.lt ah.out.size)))))
   refine bW 163 #[.pointer none, .int .u64 0, .int .u64 0, .pointer none, .int .i64 0, .pointer none, .int .i64 0] ?_
   rintro v3 ⟨hnew, hb⟩
   obtain ⟨sb, hsb⟩ : ∃ sb, sb = v2.heap.size := ⟨_, rfl⟩
   rw [← hsb] at hnew ⊢
   replace hsb : v2.heap.size ≤ sb := by omega
   clear dc lc
   replace HD := qB hb HD
   replace HT := qB hb HT
   replace ay := qB hb ay
   replace HL := qB hb HL
   replace HR := qB hb HR
   replace HM := qB hb HM
   have Vj := (hb).size
   replace ah := qT ah hb
   have HS := qd (hnew)
   clear hnew hb
   have dc := HD.out.c6
   have lc := HL.out.c4
   refine kO hK ?_
   clear hK K
   refine nT 9 rfl fun K hK => ?_
   have dc := HD.out.c6
   have lc := HL.out.c4
   have yc := HS.out.c7
   have yf := HS.out.f7
   go_simp
   have Vk := qJ HD.out.lt (qJ HT.out.aQ (qJ HT.out.aR (qJ HL.out.lt (qJ HR.out.lt (qJ HM.out.lt HS.out.lt)))))
   refine yC HS.out ?_
   rintro v4 ⟨hnew, hm⟩
   simp only [pt] at hnew
   clear dc lc yc yf
   replace HD := qM hm HD
   replace HT := qM hm HT
   replace ay := qM hm ay
   replace HL := qM hm HL
   replace HR := qM hm HR
   replace HM := qM hm HM
   have Vl := (hm).size
   replace ah := qU ah hm
   replace HS := qd hnew
   clear hnew hm
   have dc := HD.out.c6
   have lc := HL.out.c4
   refine kO hK ?_
   clear hK K
   refine aT (by kernel_rfl) ?_ _
   have Vm := ah.out.size
  rotate_left
  focus
   have dc := HD.out.c6
   have lc := HL.out.c4
   go_simp
   have Vn := qJ HD.out.lt (qJ HT.out.aQ (qJ HT.out.aR (qJ HM.out.lt (qJ HL.out.lt (qJ HR.out.lt ah.out.size)))))
   refine bW 163 #[.pointer none, .int .u64 0, .int .u64 0, .pointer none, .int .i64 0, .pointer none, .int .i64 0] ?_
   rintro v5 ⟨hnew, hb⟩
   obtain ⟨sb, hsb⟩ : ∃ sb, sb = v1.heap.size := ⟨_, rfl⟩
   rw [← hsb] at hnew ⊢
   replace hsb : v1.heap.size ≤ sb := by omega
   clear dc lc
   replace HD := qB hb HD
   replace HT := qB hb HT
   replace ay := qB hb ay
   replace HM := qB hb HM
   replace HL := qB hb HL
   replace HR := qB hb HR
   have Vo := (hb).size
   replace ah := qT ah hb
   have HS := qd (hnew)
   clear hnew hb
   have dc := HD.out.c6
   have lc := HL.out.c4
   refine kO hK ?_
   clear hK K
   refine nT 7 rfl fun K hK => ?_
   have dc := HD.out.c6
   have lc := HL.out.c4
   go_simp
   have aW := qd (jQ ob og key hash T P x c v5 HT.out hok h64 HM.out (by omega) (by omega) ay.out hb0)
   rw [← ig.out, ← HS2.out, ← HI1.out, ← HI2.out] at aW
   unfold bK bN aG at aW
   refine (aW.out).mono ?_
   rintro y v6 ⟨ap, fp, rfl, hap, hfp, hM2, hm⟩
   clear aW HM dc lc
   replace HD := qM hm HD
   replace HT := qM hm HT
   replace ay := qM hm ay
   replace HL := qM hm HL
   replace HR := qM hm HR
   replace HS := qM hm HS
   have Vp := (hm).size
   replace ah := qU ah hm
   clear hm
   have HM := qd (hM2)
   have HA := qd (hap)
   have HF := qd (hfp)
   have dc := HD.out.c6
   have lc := HL.out.c4
   go_wp2_with fail
   refine kO hK ?_
   clear hK K
   refine nT 9 rfl fun K hK => ?_
   have dc := HD.out.c6
   have lc := HL.out.c4
   have yc := HS.out.c7
   have yf := HS.out.f7
   go_simp
   have Vq := qJ HD.out.lt (qJ HT.out.aQ (qJ HT.out.aR (qJ HL.out.lt (qJ HR.out.lt (qJ HS.out.lt HM.out.lt)))))
   refine yC HS.out ?_
   rintro v7 ⟨hnew, hm⟩
   simp only [pt] at hnew
   clear dc lc yc yf
   replace HD := qM hm HD
   replace HT := qM hm HT
   replace ay := qM hm ay
   replace HL := qM hm HL
   replace HR := qM hm HR
   replace HM := qM hm HM
   have PZ := (hm).size
   replace ah := qU ah hm
   replace HS := qd hnew
   clear hnew hm
   have dc := HD.out.c6
   have lc := HL.out.c4
   refine kO hK ?_
   clear hK K
   refine aT (by kernel_rfl) ?_ _
   have KU := ah.out.size
  all_goals
   exact ⟨sb, ap, fp, rfl, HD.out, HT.out, ay.out, HL.out, HR.out, HM.out, HA.out, HF.out, HS.out, by omega, ah.out⟩
 clear dc lc HD HT ay HM HL HR ah
 rintro a' w2 ⟨sb, ap, fp, rfl, Ia, sZ, nL, tq, Ib, tu, tC, tF, kI, E9, kJ⟩
 simp only [List.cons_append, List.nil_append, List.append_assoc]
 have HD := qd (Ia)
 have HT := qd (sZ)
 have ay := qd (nL)
 have HL := qd (tq)
 have HR := qd (Ib)
 have HM := qd (tu)
 have HA := qd (tC)
 have HF := qd (tF)
 have HS := qd (kI)
 have ah := qd (kJ)
 clear Ia sZ nL tq Ib tu tC tF kI kJ
 obtain ⟨fb, nX⟩ : ∃ b, b = pV.isSome := ⟨_, rfl⟩
 have KV := qd nX
 clear nX
 go_upto_region 3 with fail
 have sc := HS.out.c7
 have bD := qd (gG ob og key hash T ap fp s2 (by rw [← ig.out]; exact HA.out) w2 HT.out)
 unfold gP at bD
 rw [← ig.out, ← HI1.out] at bD
 unfold bK eT aM at bD
 simp only [Option.isSome_map] at bD
 obtain ⟨fe, hfe⟩ : ∃ fe, fe = ((pV.map fun x => (aF T.gs x.1 x.2).ent).getD ⟨0, 0, 0⟩) := ⟨_, rfl⟩
 rw [← hfe] at bD
 clear hfe
 go_wp2_with fail
 refine (bD.out).mono ?_
 rintro x w3 ⟨rfl, hb⟩
 clear sc
 replace HD := qB hb HD
 replace HT := qB hb HT
 replace ay := qB hb ay
 replace HL := qB hb HL
 replace HR := qB hb HR
 replace HM := qB hb HM
 replace HS := qB hb HS
 have z8 := (hb).size
 replace ah := qT ah hb
 clear hb bD
 go_upto_region 4 with fail
 have q9 := qJ HD.out.lt (qJ HT.out.aQ (qJ HT.out.aR (qJ HL.out.lt (qJ HR.out.lt (qJ HM.out.lt (qJ HS.out.lt ah.out.size))))))
 refine bW 38 #[nU fe.key, nU fe.val, nU fe.hash] ?_
 rintro w4 ⟨hnew, hb⟩
 replace HD := qB hb HD
 replace HT := qB hb HT
 replace ay := qB hb ay
 replace HL := qB hb HL
 replace HR := qB hb HR
 replace HM := qB hb HM
 replace HS := qB hb HS
 have z17 := (hb).size
 replace ah := qT ah hb
 have HY := qd (hnew)
 clear hnew hb
 have sc := HS.out.c7
 have rc := HR.out.c7
 have rf := HR.out.f7
 go_wp2
 have q18 := qJ HD.out.lt (qJ HT.out.aQ (qJ HT.out.aR (qJ HL.out.lt (qJ HR.out.lt (qJ HM.out.lt (qJ HS.out.lt HY.out.lt))))))
 have hnew := (((((((HR.out.ak 0 (pQ ob)).ak 1 (nU key)).ak 2 (nU hash)).ak 3 (.pointer ap)).ak 4 (.int .i64 s1)).ak 5 (.pointer fp)).ak 6 (.int .i64 s2))
 have hm := ((((((((Mod.refl [(w.heap.size + 1)] w4).sl 0 (pQ ob)).sl 1 (nU key)).sl 2 (nU hash)).sl 3 (.pointer ap)).sl 4 (.int .i64 s1)).sl 5 (.pointer fp)).sl 6 (.int .i64 s2))
 simp only [pt] at hnew
 refine cO (F := fun v => aj v (w.heap.size + 1) 163 #[pQ ob, nU key, nU hash, .pointer ap, .int .i64 s1, .pointer fp, .int .i64 s2] ∧ Mod [(w.heap.size + 1)] w4 v) ⟨hnew, hm⟩ ?_
 clear hnew hm
 rintro w5 ⟨hnew, hm⟩
 clear sc rc rf
 replace HD := qM hm HD
 replace HT := qM hm HT
 replace ay := qM hm ay
 replace HL := qM hm HL
 replace HM := qM hm HM
 replace HS := qM hm HS
 replace HY := qM hm HY
 have z26 := (hm).size
 replace ah := qU ah hm
 replace HR := qd hnew
 clear hnew hm
 have rx := HR.out.c7
 refine bodyPost_ret (v := .tuple #[.agg #[pQ ob, nU key, nU hash, .pointer ap, .int .i64 s1, .pointer fp, .int .i64 s2], .bool pV.isSome]) (by simp [results, Tryz.results116, go_sem, rx.1, rx.2.1, rx.2.2.1, rx.2.2.2.1, rx.2.2.2.2.1, rx.2.2.2.2.2.1, rx.2.2.2.2.2.2]) rfl ⟨ap, fp, rfl, HA.out, HF.out, HM.out, ah.out⟩
theorem Ju (db rb cap ob og fb bU eb vb bX : Nat) (bq : List Nat) (bs : List (Nat × Nat)) (T : aB) (Ts : List aB) (n depth next key hash sd : Nat) (b : Nat × Nat) (Tx : aB) (P : MP) (x : bM) (c : bC) (w : World) (h : nK w db rb cap ob og fb bU eb vb bX bq bs T Ts n depth next) (hsd : sd = dx bs.length depth hash) (hb : bs[sd]? = some b) (hTs : Ts[sd]? = some Tx) (hok : Pw T.gs.length) (hpx : Pw Tx.gs.length) (h64 : hash < 18446744073709551616) (hM : aN w P x) (hE : Env W0 E w) (hb0 : W0.heap.size ≤ P.mb) (hmt : P.mb ∉ aV db rb fb eb vb ob og bq bs) (tX gX cnt : Nat) (TX : aB) (hga : if (aH Tx.gs key hash).1.isSome then tX = b.1 ∧ gX = b.2 ∧ TX = Tx ∧ cnt = (aH Tx.gs key hash).2.2 else
   cnt = (aH Tx.gs key hash).2.2 + (aH T.gs key hash).2.2 ∧ if (aH T.gs key hash).1.isSome then tX = ob ∧ gX = og ∧ TX = T else tX = b.1 ∧ gX = b.2 ∧ TX = Tx) :
  Calls Tryz.prog 116 #[bL db, aG (some ⟨P.mb, P.mo, none⟩) c, nU key, nU hash] w (jV w P x c key hash tX gX TX cnt) := by
 have nM : ∀ q ∈ aV db rb fb eb vb ob og bq bs, P.mb ≠ q := fun q hq e => hmt (e ▸ hq)
 have hm1 := nM db (by simp [aV])
 have hm2 := nM ob (by simp [aV])
 have fE := nM og (by simp [aV])
 have iO := nM eb (by simp [aV])
 have gZ := nM vb (by simp [aV])
 have jW := nM b.1 (by unfold aV; simp [dK]; exact .inr (.inr (.inr (.inr (.inr (.inr (.inr (.inr ⟨_, _, List.mem_of_getElem? hb, .inl rfl⟩))))))))
 have hm7 := nM b.2 (by unfold aV; simp [dK]; exact .inr (.inr (.inr (.inr (.inr (.inr (.inr (.inr ⟨_, _, List.mem_of_getElem? hb, .inr rfl⟩))))))))
 clear nM
 obtain ⟨W, hW, hB, hL, hR⟩ := jS w 115 #[.pointer (some ⟨P.mb, P.mo, none⟩), .int .i64 c.p, .int .i64 c.v, .int .i64 c.u] 163 #[.pointer none, .int .u64 0, .int .u64 0, .pointer none, .int .i64 0, .pointer none, .int .i64 0]
 have hml := hM.lt
 have hB0 := hE.size
 have hdl := h.blk.lt
 have hol := h.tab.aQ
 have hgl := h.tab.aR
 have HW := qd hW
 have mh := qd (rQ db fb bs.length bU W (by have := (h.blk.mod (Mod.of_below hB []) (by simp)).cell 3; simpa using this))
 unfold bL at mh
 have hel := h.ev.lt
 have hvl := h.ev.oh
 have hTx := h.tabs.at_ sd b Tx hb hTs
 have hxl := hTx.aQ
 have hxg := hTx.aR
 have Oi := qd (fun (V : World) (hV : kV V eb ob vb bX (bs.map Prod.fst) depth next) => Db eb ob vb bX (bs.map Prod.fst) depth next hash b.1 (by rw [List.length_map]; exact h.many) h.deep h64 (by rw [List.length_map, ← hsd, List.getElem?_map, hb]; rfl) V hV)
 unfold bN at Oi
 have HD := qd (h.blk.below hB h.blk.lt)
 have HT := qd (h.tab.below hB)
 have bP := qd (hTx.below hB)
 have HV := qd (h.ev.mod (Mod.of_below hB []) (by simp) (by simp))
 have ay := qd (hE.next hB)
 have HM := qd (hM.below hB)
 have HL := qd (hL)
 have HR := qd (hR)
 have ah := qd (Mod.of_below hB [P.mb])
 clear hW hB h hE hM hL hR hTx
 unfold jV bL aG bK
 obtain ⟨pV, h1⟩ : ∃ s, s = (aH Tx.gs key hash).1 := ⟨_, rfl⟩
 obtain ⟨vJ, h2⟩ : ∃ s, s = (aH Tx.gs key hash).2.1 := ⟨_, rfl⟩
 have ig := qd h1
 have HS2 := qd h2
 clear h1 h2
 obtain ⟨s1, h1⟩ : ∃ s, s = bS pV := ⟨_, rfl⟩
 obtain ⟨s2, h2⟩ : ∃ s, s = bS vJ := ⟨_, rfl⟩
 have HI1 := qd h1
 have HI2 := qd h2
 clear h1 h2
 obtain ⟨ok1, h1⟩ : ∃ s, s = (aH T.gs key hash).1 := ⟨_, rfl⟩
 obtain ⟨Rh, h2⟩ : ∃ s, s = (aH T.gs key hash).2.1 := ⟨_, rfl⟩
 have zW := qd h1
 have Df := qd h2
 clear h1 h2
 obtain ⟨o1, h1⟩ : ∃ s, s = bS ok1 := ⟨_, rfl⟩
 obtain ⟨o2, h2⟩ : ∃ s, s = bS Rh := ⟨_, rfl⟩
 have Xk := qd h1
 have HJ2 := qd h2
 clear h1 h2
 have Zt := qd hga
 clear hga
 go_in
 go_upto_region 1 with fail
 rw [← HW.out]
 go_wp2_with fail
 refine (mh.out).mono ?_
 rintro y w1 ⟨rfl, rfl⟩
 clear mh
 go_upto_region 5 with fail
 have dc := HD.out.c6
 have lc := HL.out.c4
 have q1 := qJ HD.out.lt (qJ HT.out.aQ (qJ HT.out.aR (qJ bP.out.aQ (qJ bP.out.aR (qJ HV.out.lt (qJ HV.out.oh (qJ HM.out.lt (qJ HL.out.lt (qJ HR.out.lt ah.out.size)))))))))
 refine Ga (fun a' wz => ∃ sb ap fp, a' = { tmps := ([pQ db, .agg #[.pointer (some ⟨P.mb, P.mo, none⟩), .int .i64 c.p, .int .i64 c.v, .int .i64 c.u], nU key, nU hash, undef, pQ w.heap.size, undef, undef, .pointer (some ⟨w.heap.size + 1, 0, none⟩), .bool false, undef, undef, undef, pQ sb, undef, undef, undef, undef, undef, pQ db, .bool true, .bool false, undef, undef, undef, undef, undef, undef, undef, undef, undef, undef, undef, undef, undef, undef, undef, pQ db, pQ db, .pointer (some ⟨db, 4, none⟩)] ++ [pQ eb, nU hash, pQ b.1, .agg #[.pointer (some ⟨P.mb, P.mo, none⟩), .int .i64 c.p, .int .i64 c.v, .int .i64 c.u], nU key, nU hash, .agg #[pQ b.1, nU key, nU hash, .pointer ap, .int .i64 s1, .pointer fp, .int .i64 s2], undef, undef, undef, undef, undef, undef, undef, undef, undef, undef, undef, undef, undef, undef, undef, undef, undef, undef, undef, undef, undef, undef, undef]).toArray, defers := [] } ∧ aj wz db 239 #[pQ ob, nI depth, .slice (some ⟨rb, 0, none⟩) bq.length cap, .slice (some ⟨fb, 0, none⟩) bs.length bU, pQ eb, .bool false] ∧ TabAt wz ob og T ∧ TabAt wz b.1 b.2 Tx ∧ kV wz eb ob vb bX (bs.map Prod.fst) depth next ∧ Env W0 E wz ∧ aj wz w.heap.size 115 #[.pointer (some ⟨P.mb, P.mo, none⟩), .int .i64 c.p, .int .i64 c.v, .int .i64 c.u] ∧ aj wz (w.heap.size + 1) 163 #[.pointer none, .int .u64 0, .int .u64 0, .pointer none, .int .i64 0, .pointer none, .int .i64 0] ∧ aN wz P (x.add c (aH Tx.gs key hash).2.2) ∧ gW b.2 pV ap ∧ gW b.2 vJ fp ∧ aj wz sb 163 #[pQ b.1, nU key, nU hash, .pointer ap, .int .i64 s1, .pointer fp, .int .i64 s2] ∧ W.heap.size ≤ sb ∧ Mod ([P.mb]) w wz) ?_ ?_
 ·refine rT (fun (w' : World) => w'.cell? ⟨db, 0, none⟩ = some (pQ ob) ∧ w'.cell? ⟨db, 4, none⟩ = some (pQ eb) ∧ w'.cell? ⟨w.heap.size, 0, none⟩ = some (.pointer (some ⟨P.mb, P.mo, none⟩)) ∧ w'.cell? ⟨w.heap.size, 1, none⟩ = some (.int .i64 c.p) ∧ w'.cell? ⟨w.heap.size, 2, none⟩ = some (.int .i64 c.v) ∧ w'.cell? ⟨w.heap.size, 3, none⟩ = some (.int .i64 c.u)) [] ?_
  have hHeld := (⟨dc.1, dc.2.2.2.2.1, lc.1, lc.2.1, lc.2.2.1, lc.2.2.2⟩ : _ ∧ _ ∧ _ ∧ _ ∧ _ ∧ _)
  refine vW 0 rfl ?_
  refine vW 1 rfl ?_
  refine vW 2 rfl ?_
  refine vT 3 rfl ?_
  refine vW 4 rfl ?_
  refine vT 6 rfl ?_
  refine vW 7 rfl ?_
  refine vW 8 rfl ?_
  clear hHeld
  refine cO (F := fun v => Mod [] W v) (Mod.drewN [] W 1) ?_
  rintro v1 hm
  clear dc lc
  replace HD := qM hm HD
  replace HT := qM hm HT
  replace bP := qM hm bP
  replace HV := qM hm HV
  replace ay := qM hm ay
  replace HM := qM hm HM
  replace HL := qM hm HL
  replace HR := qM hm HR
  have z212 := (hm).size
  replace ah := qU ah hm
  clear hm
  refine pairT (i := 5) (j := 10) (o := ⟨some 42, _, _, _, _, _⟩) (o' := ⟨some 13, _, _, _, _, _⟩) rfl rfl (by kernel_rfl) (fun K hK => ?_) (fun K hK => ?_)
  focus
   have dc := HD.out.c6
   have lc := HL.out.c4
   go_simp
   refine (Oi.out _ HV.out).mono ?_
   rintro y v2 ⟨rfl, hb⟩
   clear dc lc
   replace HD := qB hb HD
   replace HT := qB hb HT
   replace bP := qB hb bP
   replace HV := qB hb HV
   replace ay := qB hb ay
   replace HM := qB hb HM
   replace HL := qB hb HL
   replace HR := qB hb HR
   have acZ := (hb).size
   replace ah := qT ah hb
   clear hb
   have dc := HD.out.c6
   have lc := HL.out.c4
   go_wp2_with fail
   refine kO hK ?_
   clear hK K
   refine pairT (i := 9) (j := 10) (o := ⟨some 46, _, _, _, _, _⟩) (o' := ⟨some 13, _, _, _, _, _⟩) rfl rfl (by kernel_rfl) (fun K hK => ?_) (fun K hK => ?_)
   focus
    have dc := HD.out.c6
    have lc := HL.out.c4
    go_simp
    have aW := qd (jQ b.1 b.2 key hash Tx P x c v2 bP.out hpx h64 HM.out (by omega) (by omega) ay.out hb0)
    rw [← ig.out, ← HS2.out, ← HI1.out, ← HI2.out] at aW
    unfold bK bN aG at aW
    refine (aW.out).mono ?_
    rintro y v3 ⟨ap, fp, rfl, hap, hfp, hM2, hm⟩
    clear aW HM dc lc
    replace HD := qM hm HD
    replace HT := qM hm HT
    replace bP := qM hm bP
    replace HV := qM hm HV
    replace ay := qM hm ay
    replace HL := qM hm HL
    replace HR := qM hm HR
    have ac0 := (hm).size
    replace ah := qU ah hm
    clear hm
    have HM := qd (hM2)
    have HA := qd (hap)
    have HF := qd (hfp)
    have dc := HD.out.c6
    have lc := HL.out.c4
    go_wp2_with fail
    refine kO hK ?_
    clear hK K
    refine nT 10 rfl fun K hK => ?_
    have dc := HD.out.c6
    have lc := HL.out.c4
    go_simp
    have ac1 := qJ HD.out.lt (qJ HT.out.aQ (qJ HT.out.aR (qJ bP.out.aQ (qJ bP.out.aR (qJ HV.out.lt (qJ HV.out.oh (qJ HL.out.lt (qJ HR.out.lt (qJ HM.out.lt ah.out.size)))))))))
    refine bW 163 #[.pointer none, .int .u64 0, .int .u64 0, .pointer none, .int .i64 0, .pointer none, .int .i64 0] ?_
    rintro v4 ⟨hnew, hb⟩
    obtain ⟨sb, hsb⟩ : ∃ sb, sb = v3.heap.size := ⟨_, rfl⟩
    rw [← hsb] at hnew ⊢
    replace hsb : v3.heap.size ≤ sb := by omega
    clear dc lc
    replace HD := qB hb HD
    replace HT := qB hb HT
    replace bP := qB hb bP
    replace HV := qB hb HV
    replace ay := qB hb ay
    replace HL := qB hb HL
    replace HR := qB hb HR
    replace HM := qB hb HM
    have KU := (hb).size
    replace ah := qT ah hb
    have HS := qd (hnew)
    clear hnew hb
    have dc := HD.out.c6
    have lc := HL.out.c4
    refine kO hK ?_
    clear hK K
    refine nT 11 rfl fun K hK => ?_
    have dc := HD.out.c6
    have lc := HL.out.c4
    have yc := HS.out.c7
    have yf := HS.out.f7
    go_simp
    have abp := qJ HD.out.lt (qJ HT.out.aQ (qJ HT.out.aR (qJ bP.out.aQ (qJ bP.out.aR (qJ HV.out.lt (qJ HV.out.oh (qJ HL.out.lt (qJ HR.out.lt (qJ HM.out.lt HS.out.lt)))))))))
    refine yC HS.out ?_
    rintro v5 ⟨hnew, hm⟩
    simp only [pt] at hnew
    clear dc lc yc yf
    replace HD := qM hm HD
    replace HT := qM hm HT
    replace bP := qM hm bP
    replace HV := qM hm HV
    replace ay := qM hm ay
    replace HL := qM hm HL
    replace HR := qM hm HR
    replace HM := qM hm HM
    have abq := (hm).size
    replace ah := qU ah hm
    replace HS := qd hnew
    clear hnew hm
    have dc := HD.out.c6
    have lc := HL.out.c4
    refine kO hK ?_
    clear hK K
    refine aT (by kernel_rfl) ?_ _
    have abr := ah.out.size
   rotate_left
   focus
    have dc := HD.out.c6
    have lc := HL.out.c4
    go_simp
    have ac2 := qJ HD.out.lt (qJ HT.out.aQ (qJ HT.out.aR (qJ bP.out.aQ (qJ bP.out.aR (qJ HV.out.lt (qJ HV.out.oh (qJ HM.out.lt (qJ HL.out.lt (qJ HR.out.lt ah.out.size)))))))))
    refine bW 163 #[.pointer none, .int .u64 0, .int .u64 0, .pointer none, .int .i64 0, .pointer none, .int .i64 0] ?_
    rintro v6 ⟨hnew, hb⟩
    obtain ⟨sb, hsb⟩ : ∃ sb, sb = v2.heap.size := ⟨_, rfl⟩
    rw [← hsb] at hnew ⊢
    replace hsb : v2.heap.size ≤ sb := by omega
    clear dc lc
    replace HD := qB hb HD
    replace HT := qB hb HT
    replace bP := qB hb bP
    replace HV := qB hb HV
    replace ay := qB hb ay
    replace HM := qB hb HM
    replace HL := qB hb HL
    replace HR := qB hb HR
    have ac3 := (hb).size
    replace ah := qT ah hb
    have HS := qd (hnew)
    clear hnew hb
    have dc := HD.out.c6
    have lc := HL.out.c4
    refine kO hK ?_
    clear hK K
    refine nT 9 rfl fun K hK => ?_
    have dc := HD.out.c6
    have lc := HL.out.c4
    go_simp
    have aW := qd (jQ b.1 b.2 key hash Tx P x c v6 bP.out hpx h64 HM.out (by omega) (by omega) ay.out hb0)
    rw [← ig.out, ← HS2.out, ← HI1.out, ← HI2.out] at aW
    unfold bK bN aG at aW
    refine (aW.out).mono ?_
    rintro y v7 ⟨ap, fp, rfl, hap, hfp, hM2, hm⟩
    clear aW HM dc lc
    replace HD := qM hm HD
    replace HT := qM hm HT
    replace bP := qM hm bP
    replace HV := qM hm HV
    replace ay := qM hm ay
    replace HL := qM hm HL
    replace HR := qM hm HR
    replace HS := qM hm HS
    have ac4 := (hm).size
    replace ah := qU ah hm
    clear hm
    have HM := qd (hM2)
    have HA := qd (hap)
    have HF := qd (hfp)
    have dc := HD.out.c6
    have lc := HL.out.c4
    go_wp2_with fail
    refine kO hK ?_
    clear hK K
    refine nT 11 rfl fun K hK => ?_
    have dc := HD.out.c6
    have lc := HL.out.c4
    have yc := HS.out.c7
    have yf := HS.out.f7
    go_simp
    have ac5 := qJ HD.out.lt (qJ HT.out.aQ (qJ HT.out.aR (qJ bP.out.aQ (qJ bP.out.aR (qJ HV.out.lt (qJ HV.out.oh (qJ HL.out.lt (qJ HR.out.lt (qJ HS.out.lt HM.out.lt)))))))))
    refine yC HS.out ?_
    rintro v8 ⟨hnew, hm⟩
    simp only [pt] at hnew
    clear dc lc yc yf
    replace HD := qM hm HD
    replace HT := qM hm HT
    replace bP := qM hm bP
    replace HV := qM hm HV
    replace ay := qM hm ay
    replace HL := qM hm HL
    replace HR := qM hm HR
    replace HM := qM hm HM
    have ac6 := (hm).size
    replace ah := qU ah hm
    replace HS := qd hnew
    clear hnew hm
    have dc := HD.out.c6
    have lc := HL.out.c4
    refine kO hK ?_
    clear hK K
    refine aT (by kernel_rfl) ?_ _
    have ac7 := ah.out.size
  rotate_left 2
  focus
   have dc := HD.out.c6
   have lc := HL.out.c4
   go_simp
   have ac8 := qJ HD.out.lt (qJ HT.out.aQ (qJ HT.out.aR (qJ bP.out.aQ (qJ bP.out.aR (qJ HV.out.lt (qJ HV.out.oh (qJ HM.out.lt (qJ HL.out.lt (qJ HR.out.lt ah.out.size)))))))))
   refine bW 163 #[.pointer none, .int .u64 0, .int .u64 0, .pointer none, .int .i64 0, .pointer none, .int .i64 0] ?_
   rintro v9 ⟨hnew, hb⟩
   obtain ⟨sb, hsb⟩ : ∃ sb, sb = v1.heap.size := ⟨_, rfl⟩
   rw [← hsb] at hnew ⊢
   replace hsb : v1.heap.size ≤ sb := by omega
   clear dc lc
   replace HD := qB hb HD
   replace HT := qB hb HT
   replace bP := qB hb bP
   replace HV := qB hb HV
   replace ay := qB hb ay
   replace HM := qB hb HM
   replace HL := qB hb HL
   replace HR := qB hb HR
   have ac9 := (hb).size
   replace ah := qT ah hb
   have HS := qd (hnew)
   clear hnew hb
   have dc := HD.out.c6
   have lc := HL.out.c4
   refine kO hK ?_
   clear hK K
   refine nT 5 rfl fun K hK => ?_
   have dc := HD.out.c6
   have lc := HL.out.c4
   go_simp
   refine (Oi.out _ HV.out).mono ?_
   rintro y v10 ⟨rfl, hb⟩
   clear dc lc
   replace HD := qB hb HD
   replace HT := qB hb HT
   replace bP := qB hb bP
   replace HV := qB hb HV
   replace ay := qB hb ay
   replace HM := qB hb HM
   replace HL := qB hb HL
   replace HR := qB hb HR
   replace HS := qB hb HS
   have PZ := (hb).size
   replace ah := qT ah hb
   clear hb
   have dc := HD.out.c6
   have lc := HL.out.c4
   go_wp2_with fail
   refine kO hK ?_
   clear hK K
   refine nT 9 rfl fun K hK => ?_
   have dc := HD.out.c6
   have lc := HL.out.c4
   go_simp
   have aW := qd (jQ b.1 b.2 key hash Tx P x c v10 bP.out hpx h64 HM.out (by omega) (by omega) ay.out hb0)
   rw [← ig.out, ← HS2.out, ← HI1.out, ← HI2.out] at aW
   unfold bK bN aG at aW
   refine (aW.out).mono ?_
   rintro y v11 ⟨ap, fp, rfl, hap, hfp, hM2, hm⟩
   clear aW HM dc lc
   replace HD := qM hm HD
   replace HT := qM hm HT
   replace bP := qM hm bP
   replace HV := qM hm HV
   replace ay := qM hm ay
   replace HL := qM hm HL
   replace HR := qM hm HR
   replace HS := qM hm HS
   have KU := (hm).size
   replace ah := qU ah hm
   clear hm
   have HM := qd (hM2)
   have HA := qd (hap)
   have HF := qd (hfp)
   have dc := HD.out.c6
   have lc := HL.out.c4
   go_wp2_with fail
   refine kO hK ?_
   clear hK K
   refine nT 11 rfl fun K hK => ?_
   have dc := HD.out.c6
   have lc := HL.out.c4
   have yc := HS.out.c7
   have yf := HS.out.f7
   go_simp
   have abp := qJ HD.out.lt (qJ HT.out.aQ (qJ HT.out.aR (qJ bP.out.aQ (qJ bP.out.aR (qJ HV.out.lt (qJ HV.out.oh (qJ HL.out.lt (qJ HR.out.lt (qJ HS.out.lt HM.out.lt)))))))))
   refine yC HS.out ?_
   rintro v12 ⟨hnew, hm⟩
   simp only [pt] at hnew
   clear dc lc yc yf
   replace HD := qM hm HD
   replace HT := qM hm HT
   replace bP := qM hm bP
   replace HV := qM hm HV
   replace ay := qM hm ay
   replace HL := qM hm HL
   replace HR := qM hm HR
   replace HM := qM hm HM
   have abq := (hm).size
   replace ah := qU ah hm
   replace HS := qd hnew
   clear hnew hm
   have dc := HD.out.c6
   have lc := HL.out.c4
   refine kO hK ?_
   clear hK K
   refine aT (by kernel_rfl) ?_ _
   have abr := ah.out.size
  all_goals
   exact ⟨sb, ap, fp, rfl, HD.out, HT.out, bP.out, HV.out, ay.out, HL.out, HR.out, HM.out, HA.out, HF.out, HS.out, by omega, ah.out⟩
 clear dc lc HD HT bP HV ay HM HL HR ah
 rintro a' w2 ⟨sb, ap, fp, rfl, Ia, sZ, KW, RZ, nL, tq, Ib, tu, tC, tF, kI, E9, kJ⟩
 simp only [List.cons_append, List.nil_append, List.append_assoc]
 have HD := qd (Ia)
 have HT := qd (sZ)
 have bP := qd (KW)
 have HV := qd (RZ)
 have ay := qd (nL)
 have HL := qd (tq)
 have HR := qd (Ib)
 have HM := qd (tu)
 have HA := qd (tC)
 have HF := qd (tF)
 have HS := qd (kI)
 have ah := qd (kJ)
 clear Ia sZ KW RZ nL tq Ib tu tC tF kI kJ
 obtain ⟨fb1, nX⟩ : ∃ b, b = pV.isSome := ⟨_, rfl⟩
 have KV := qd nX
 clear nX
 go_upto_region 6 with fail
 have sc := HS.out.c7
 have bD := qd (gG b.1 b.2 key hash Tx ap fp s2 (by rw [← ig.out]; exact HA.out) w2 bP.out)
 unfold gP at bD
 rw [← ig.out, ← HI1.out] at bD
 unfold bK eT aM at bD
 simp only [Option.isSome_map] at bD
 obtain ⟨fe, hfe⟩ : ∃ fe, fe = ((pV.map fun x => (aF Tx.gs x.1 x.2).ent).getD ⟨0, 0, 0⟩) := ⟨_, rfl⟩
 rw [← hfe] at bD
 clear hfe
 rw [← KV.out] at bD
 go_wp2_with fail
 refine (bD.out).mono ?_
 rintro x w3 ⟨rfl, hb⟩
 clear sc
 replace HD := qB hb HD
 replace HT := qB hb HT
 replace bP := qB hb bP
 replace HV := qB hb HV
 replace ay := qB hb ay
 replace HL := qB hb HL
 replace HR := qB hb HR
 replace HM := qB hb HM
 replace HS := qB hb HS
 have z12 := (hb).size
 replace ah := qT ah hb
 clear hb bD
 go_upto_region 7 with fail
 have q13 := qJ HD.out.lt (qJ HT.out.aQ (qJ HT.out.aR (qJ bP.out.aQ (qJ bP.out.aR (qJ HV.out.lt (qJ HV.out.oh (qJ HL.out.lt (qJ HR.out.lt (qJ HM.out.lt (qJ HS.out.lt ah.out.size))))))))))
 refine bW 38 #[nU fe.key, nU fe.val, nU fe.hash] ?_
 rintro w4 ⟨hnew, hb⟩
 replace HD := qB hb HD
 replace HT := qB hb HT
 replace bP := qB hb bP
 replace HV := qB hb HV
 replace ay := qB hb ay
 replace HL := qB hb HL
 replace HR := qB hb HR
 replace HM := qB hb HM
 replace HS := qB hb HS
 have z25 := (hb).size
 replace ah := qT ah hb
 have HY := qd (hnew)
 clear hnew hb
 cases fb1 with
 | true =>
  have sc := HS.out.c7
  have rc := HR.out.c7
  have rf := HR.out.f7
  go_wp2
  have acf := qJ HD.out.lt (qJ HT.out.aQ (qJ HT.out.aR (qJ bP.out.aQ (qJ bP.out.aR (qJ HV.out.lt (qJ HV.out.oh (qJ HL.out.lt (qJ HR.out.lt (qJ HM.out.lt (qJ HS.out.lt HY.out.lt))))))))))
  have hnew := (((((((HR.out.ak 0 (pQ b.1)).ak 1 (nU key)).ak 2 (nU hash)).ak 3 (.pointer ap)).ak 4 (.int .i64 s1)).ak 5 (.pointer fp)).ak 6 (.int .i64 s2))
  have hm := ((((((((Mod.refl [(w.heap.size + 1)] w4).sl 0 (pQ b.1)).sl 1 (nU key)).sl 2 (nU hash)).sl 3 (.pointer ap)).sl 4 (.int .i64 s1)).sl 5 (.pointer fp)).sl 6 (.int .i64 s2))
  simp only [pt] at hnew
  refine cO (F := fun v => aj v (w.heap.size + 1) 163 #[pQ b.1, nU key, nU hash, .pointer ap, .int .i64 s1, .pointer fp, .int .i64 s2] ∧ Mod [(w.heap.size + 1)] w4 v) ⟨hnew, hm⟩ ?_
  clear hnew hm
  rintro w9 ⟨hnew, hm⟩
  clear sc rc rf
  replace HD := qM hm HD
  replace HT := qM hm HT
  replace bP := qM hm bP
  replace HV := qM hm HV
  replace ay := qM hm ay
  replace HL := qM hm HL
  replace HM := qM hm HM
  replace HS := qM hm HS
  replace HY := qM hm HY
  have acg := (hm).size
  replace ah := qU ah hm
  replace HR := qd hnew
  clear hnew hm
  have rx := HR.out.c7
  refine bodyPost_ret (v := .tuple #[.agg #[pQ b.1, nU key, nU hash, .pointer ap, .int .i64 s1, .pointer fp, .int .i64 s2], .bool true]) (by simp [results, Tryz.results116, go_sem, rx.1, rx.2.1, rx.2.2.1, rx.2.2.2.1, rx.2.2.2.2.1, rx.2.2.2.2.2.1, rx.2.2.2.2.2.2]) rfl ?_
  have hg := Zt.out
  rw [← ig.out, ← KV.out] at hg
  simp only [if_true] at hg
  obtain ⟨rfl, rfl, rfl, rfl⟩ := hg
  exact ⟨ap, fp, by rw [← ig.out, ← HS2.out, ← HI1.out, ← HI2.out, ← KV.out], by rw [← ig.out]; exact HA.out, by rw [← HS2.out]; exact HF.out, HM.out, ah.out⟩
 | false =>
  go_upto_region 9 with fail
  have dc := HD.out.c6
  have lc := HL.out.c4
  have ach := qJ HD.out.lt (qJ HT.out.aQ (qJ HT.out.aR (qJ bP.out.aQ (qJ bP.out.aR (qJ HV.out.lt (qJ HV.out.oh (qJ HL.out.lt (qJ HR.out.lt (qJ HM.out.lt (qJ HS.out.lt (qJ HY.out.lt ah.out.size)))))))))))
  refine Ga (fun a' wz => ∃ yL aq fq, a' = { tmps := ([pQ db, .agg #[.pointer (some ⟨P.mb, P.mo, none⟩), .int .i64 c.p, .int .i64 c.v, .int .i64 c.u], nU key, nU hash, undef, pQ w.heap.size, undef, undef, .pointer (some ⟨w.heap.size + 1, 0, none⟩), .bool false, undef, undef, undef, pQ sb, pQ w3.heap.size, .bool false, pQ yL, undef, undef, pQ db, .bool true, .bool false, undef, undef, undef, undef, undef, undef, undef, undef, undef, undef, undef, undef, undef, undef, undef, pQ db, pQ db, .pointer (some ⟨db, 4, none⟩)] ++ [pQ eb, nU hash, pQ b.1, .agg #[.pointer (some ⟨P.mb, P.mo, none⟩), .int .i64 c.p, .int .i64 c.v, .int .i64 c.u], nU key, nU hash, .agg #[pQ b.1, nU key, nU hash, .pointer ap, .int .i64 s1, .pointer fp, .int .i64 s2], .tuple #[.agg #[nU fe.key, nU fe.val, nU fe.hash], .bool false], .agg #[pQ b.1, nU key, nU hash, .pointer ap, .int .i64 s1, .pointer fp, .int .i64 s2], .tuple #[.agg #[nU fe.key, nU fe.val, nU fe.hash], .bool false], .agg #[nU fe.key, nU fe.val, nU fe.hash], .bool false, .bool false, undef, pQ db, pQ db, pQ db, pQ ob, .agg #[.pointer (some ⟨P.mb, P.mo, none⟩), .int .i64 c.p, .int .i64 c.v, .int .i64 c.u], nU key, nU hash, .agg #[pQ ob, nU key, nU hash, .pointer aq, .int .i64 o1, .pointer fq, .int .i64 o2], undef, undef, undef, undef, undef, undef, undef, undef]).toArray, defers := [] } ∧ aj wz db 239 #[pQ ob, nI depth, .slice (some ⟨rb, 0, none⟩) bq.length cap, .slice (some ⟨fb, 0, none⟩) bs.length bU, pQ eb, .bool false] ∧ TabAt wz ob og T ∧ TabAt wz b.1 b.2 Tx ∧ kV wz eb ob vb bX (bs.map Prod.fst) depth next ∧ Env W0 E wz ∧ aj wz w.heap.size 115 #[.pointer (some ⟨P.mb, P.mo, none⟩), .int .i64 c.p, .int .i64 c.v, .int .i64 c.u] ∧ aj wz (w.heap.size + 1) 163 #[.pointer none, .int .u64 0, .int .u64 0, .pointer none, .int .i64 0, .pointer none, .int .i64 0] ∧ gW b.2 pV ap ∧ gW b.2 vJ fp ∧ aj wz sb 163 #[pQ b.1, nU key, nU hash, .pointer ap, .int .i64 s1, .pointer fp, .int .i64 s2] ∧ aj wz w3.heap.size 38 #[nU fe.key, nU fe.val, nU fe.hash] ∧ aN wz P ((x.add c (aH Tx.gs key hash).2.2).add c (aH T.gs key hash).2.2) ∧ gW og ok1 aq ∧ gW og Rh fq ∧ aj wz yL 163 #[pQ ob, nU key, nU hash, .pointer aq, .int .i64 o1, .pointer fq, .int .i64 o2] ∧ w4.heap.size ≤ yL ∧ Mod ([P.mb]) w wz) ?_ ?_
  ·refine rT (fun (w' : World) => w'.cell? ⟨db, 0, none⟩ = some (pQ ob) ∧ w'.cell? ⟨db, 4, none⟩ = some (pQ eb) ∧ w'.cell? ⟨w.heap.size, 0, none⟩ = some (.pointer (some ⟨P.mb, P.mo, none⟩)) ∧ w'.cell? ⟨w.heap.size, 1, none⟩ = some (.int .i64 c.p) ∧ w'.cell? ⟨w.heap.size, 2, none⟩ = some (.int .i64 c.v) ∧ w'.cell? ⟨w.heap.size, 3, none⟩ = some (.int .i64 c.u)) [] ?_
   have hHeld := (⟨dc.1, dc.2.2.2.2.1, lc.1, lc.2.1, lc.2.2.1, lc.2.2.2⟩ : _ ∧ _ ∧ _ ∧ _ ∧ _ ∧ _)
   refine vW 0 rfl ?_
   refine vW 1 rfl ?_
   refine vW 2 rfl ?_
   refine vT 3 rfl ?_
   refine vT 4 rfl ?_
   refine vW 5 rfl ?_
   refine vW 6 rfl ?_
   clear hHeld
   refine cO (F := fun v => Mod [] w4 v) (Mod.drewN [] w4 1) ?_
   rintro v1 hm
   clear dc lc
   replace HD := qM hm HD
   replace HT := qM hm HT
   replace bP := qM hm bP
   replace HV := qM hm HV
   replace ay := qM hm ay
   replace HL := qM hm HL
   replace HR := qM hm HR
   replace HM := qM hm HM
   replace HS := qM hm HS
   replace HY := qM hm HY
   have aci := (hm).size
   replace ah := qU ah hm
   clear hm
   refine pairT (i := 7) (j := 8) (o := ⟨some 61, _, _, _, _, _⟩) (o' := ⟨some 16, _, _, _, _, _⟩) rfl rfl (by kernel_rfl) (fun K hK => ?_) (fun K hK => ?_)
   focus
    have dc := HD.out.c6
    have lc := HL.out.c4
    go_simp
    have aW := qd (jQ ob og key hash T P (x.add c (aH Tx.gs key hash).2.2) c v1 HT.out hok h64 HM.out (by omega) (by omega) ay.out hb0)
    rw [← zW.out, ← Df.out, ← Xk.out, ← HJ2.out] at aW
    unfold bK bN aG at aW
    refine (aW.out).mono ?_
    rintro y v2 ⟨aq, fq, rfl, haq, Hq, hM2, hm⟩
    clear aW HM dc lc
    replace HD := qM hm HD
    replace HT := qM hm HT
    replace bP := qM hm bP
    replace HV := qM hm HV
    replace ay := qM hm ay
    replace HL := qM hm HL
    replace HR := qM hm HR
    replace HS := qM hm HS
    replace HY := qM hm HY
    have acj := (hm).size
    replace ah := qU ah hm
    clear hm
    have HM := qd (hM2)
    have HB := qd (haq)
    have HG := qd (Hq)
    have dc := HD.out.c6
    have lc := HL.out.c4
    go_wp2_with fail
    refine kO hK ?_
    clear hK K
    refine nT 8 rfl fun K hK => ?_
    have dc := HD.out.c6
    have lc := HL.out.c4
    go_simp
    have acn := qJ HD.out.lt (qJ HT.out.aQ (qJ HT.out.aR (qJ bP.out.aQ (qJ bP.out.aR (qJ HV.out.lt (qJ HV.out.oh (qJ HL.out.lt (qJ HR.out.lt (qJ HS.out.lt (qJ HY.out.lt (qJ HM.out.lt ah.out.size)))))))))))
    refine bW 163 #[.pointer none, .int .u64 0, .int .u64 0, .pointer none, .int .i64 0, .pointer none, .int .i64 0] ?_
    rintro v3 ⟨hnew, hb⟩
    obtain ⟨yL, KX⟩ : ∃ yL, yL = v2.heap.size := ⟨_, rfl⟩
    rw [← KX] at hnew ⊢
    replace KX : v2.heap.size ≤ yL := by omega
    clear dc lc
    replace HD := qB hb HD
    replace HT := qB hb HT
    replace bP := qB hb bP
    replace HV := qB hb HV
    replace ay := qB hb ay
    replace HL := qB hb HL
    replace HR := qB hb HR
    replace HS := qB hb HS
    replace HY := qB hb HY
    replace HM := qB hb HM
    have aco := (hb).size
    replace ah := qT ah hb
    have HS2 := qd (hnew)
    clear hnew hb
    have dc := HD.out.c6
    have lc := HL.out.c4
    refine kO hK ?_
    clear hK K
    refine nT 9 rfl fun K hK => ?_
    have dc := HD.out.c6
    have lc := HL.out.c4
    have yc := HS2.out.c7
    have yf := HS2.out.f7
    go_simp
    have acp := qJ HD.out.lt (qJ HT.out.aQ (qJ HT.out.aR (qJ bP.out.aQ (qJ bP.out.aR (qJ HV.out.lt (qJ HV.out.oh (qJ HL.out.lt (qJ HR.out.lt (qJ HS.out.lt (qJ HY.out.lt (qJ HM.out.lt HS2.out.lt)))))))))))
    refine yC HS2.out ?_
    rintro v4 ⟨hnew, hm⟩
    simp only [pt] at hnew
    clear dc lc yc yf
    replace HD := qM hm HD
    replace HT := qM hm HT
    replace bP := qM hm bP
    replace HV := qM hm HV
    replace ay := qM hm ay
    replace HL := qM hm HL
    replace HR := qM hm HR
    replace HS := qM hm HS
    replace HY := qM hm HY
    replace HM := qM hm HM
    have acr := (hm).size
    replace ah := qU ah hm
    replace HS2 := qd hnew
    clear hnew hm
    have dc := HD.out.c6
    have lc := HL.out.c4
    refine kO hK ?_
    clear hK K
    refine aT (by kernel_rfl) ?_ _
    have acs := ah.out.size
   rotate_left
   focus
    have dc := HD.out.c6
    have lc := HL.out.c4
    go_simp
    have acu := qJ HD.out.lt (qJ HT.out.aQ (qJ HT.out.aR (qJ bP.out.aQ (qJ bP.out.aR (qJ HV.out.lt (qJ HV.out.oh (qJ HL.out.lt (qJ HR.out.lt (qJ HM.out.lt (qJ HS.out.lt (qJ HY.out.lt ah.out.size)))))))))))
    refine bW 163 #[.pointer none, .int .u64 0, .int .u64 0, .pointer none, .int .i64 0, .pointer none, .int .i64 0] ?_
    rintro v5 ⟨hnew, hb⟩
    obtain ⟨yL, KX⟩ : ∃ yL, yL = v1.heap.size := ⟨_, rfl⟩
    rw [← KX] at hnew ⊢
    replace KX : v1.heap.size ≤ yL := by omega
    clear dc lc
    replace HD := qB hb HD
    replace HT := qB hb HT
    replace bP := qB hb bP
    replace HV := qB hb HV
    replace ay := qB hb ay
    replace HL := qB hb HL
    replace HR := qB hb HR
    replace HM := qB hb HM
    replace HS := qB hb HS
    replace HY := qB hb HY
    have acv := (hb).size
    replace ah := qT ah hb
    have HS2 := qd (hnew)
    clear hnew hb
    have dc := HD.out.c6
    have lc := HL.out.c4
    refine kO hK ?_
    clear hK K
    refine nT 7 rfl fun K hK => ?_
    have dc := HD.out.c6
    have lc := HL.out.c4
    go_simp
    have aW := qd (jQ ob og key hash T P (x.add c (aH Tx.gs key hash).2.2) c v5 HT.out hok h64 HM.out (by omega) (by omega) ay.out hb0)
    rw [← zW.out, ← Df.out, ← Xk.out, ← HJ2.out] at aW
    unfold bK bN aG at aW
    refine (aW.out).mono ?_
    rintro y v6 ⟨aq, fq, rfl, haq, Hq, hM2, hm⟩
    clear aW HM dc lc
    replace HD := qM hm HD
    replace HT := qM hm HT
    replace bP := qM hm bP
    replace HV := qM hm HV
    replace ay := qM hm ay
    replace HL := qM hm HL
    replace HR := qM hm HR
    replace HS := qM hm HS
    replace HY := qM hm HY
    replace HS2 := qM hm HS2
    have acw := (hm).size
    replace ah := qU ah hm
    clear hm
    have HM := qd (hM2)
    have HB := qd (haq)
    have HG := qd (Hq)
    have dc := HD.out.c6
    have lc := HL.out.c4
    go_wp2_with fail
    refine kO hK ?_
    clear hK K
    refine nT 9 rfl fun K hK => ?_
    have dc := HD.out.c6
    have lc := HL.out.c4
    have yc := HS2.out.c7
    have yf := HS2.out.f7
    go_simp
    have acy := qJ HD.out.lt (qJ HT.out.aQ (qJ HT.out.aR (qJ bP.out.aQ (qJ bP.out.aR (qJ HV.out.lt (qJ HV.out.oh (qJ HL.out.lt (qJ HR.out.lt (qJ HS.out.lt (qJ HY.out.lt (qJ HS2.out.lt HM.out.lt)))))))))))
    refine yC HS2.out ?_
    rintro v7 ⟨hnew, hm⟩
    simp only [pt] at hnew
    clear dc lc yc yf
    replace HD := qM hm HD
    replace HT := qM hm HT
    replace bP := qM hm bP
    replace HV := qM hm HV
    replace ay := qM hm ay
    replace HL := qM hm HL
    replace HR := qM hm HR
    replace HS := qM hm HS
    replace HY := qM hm HY
    replace HM := qM hm HM
    have acz := (hm).size
    replace ah := qU ah hm
    replace HS2 := qd hnew
    clear hnew hm
    have dc := HD.out.c6
    have lc := HL.out.c4
    refine kO hK ?_
    clear hK K
    refine aT (by kernel_rfl) ?_ _
    have acA := ah.out.size
   all_goals
    exact ⟨yL, aq, fq, rfl, HD.out, HT.out, bP.out, HV.out, ay.out, HL.out, HR.out, HA.out, HF.out, HS.out, HY.out, HM.out, HB.out, HG.out, HS2.out, by omega, ah.out⟩
  clear dc lc HD HT bP HV ay HL HR HM HA HF HS HY ah
  rintro a' w5 ⟨yL, aq, fq, rfl, Ia, sZ, KW, RZ, nL, tq, Ib, tC, tF, m_S, m_Y, tu, m_B, m_G, kI, ab4, kJ⟩
  simp only [List.cons_append, List.nil_append, List.append_assoc]
  have HD := qd (Ia)
  have HT := qd (sZ)
  have bP := qd (KW)
  have HV := qd (RZ)
  have ay := qd (nL)
  have HL := qd (tq)
  have HR := qd (Ib)
  have HA := qd (tC)
  have HF := qd (tF)
  have HS := qd (m_S)
  have HY := qd (m_Y)
  have HM := qd (tu)
  have HB := qd (m_B)
  have HG := qd (m_G)
  have HS2 := qd (kI)
  have ah := qd (kJ)
  clear Ia sZ KW RZ nL tq Ib tC tF m_S m_Y tu m_B m_G kI kJ
  obtain ⟨fb2, nX⟩ : ∃ b, b = ok1.isSome := ⟨_, rfl⟩
  have P5 := qd nX
  clear nX
  go_upto_region 10 with fail
  obtain ⟨sd0, sd1, sd2, sd3, sd4, sd5, sd6⟩ := HS2.out.c7
  have bD := qd (gG ob og key hash T aq fq o2 (by rw [← zW.out]; exact HB.out) w5 HT.out)
  unfold gP at bD
  rw [← zW.out, ← Xk.out] at bD
  unfold bK eT aM at bD
  simp only [Option.isSome_map] at bD
  obtain ⟨fe, hfe⟩ : ∃ fe, fe = ((ok1.map fun x => (aF T.gs x.1 x.2).ent).getD ⟨0, 0, 0⟩) := ⟨_, rfl⟩
  rw [← hfe] at bD
  clear hfe
  rw [← P5.out] at bD
  go_wp2_with fail
  refine (bD.out).mono ?_
  rintro x w6 ⟨rfl, hb⟩
  clear sd0 sd1 sd2 sd3 sd4 sd5 sd6
  replace HD := qB hb HD
  replace HT := qB hb HT
  replace bP := qB hb bP
  replace HV := qB hb HV
  replace ay := qB hb ay
  replace HL := qB hb HL
  replace HR := qB hb HR
  replace HS := qB hb HS
  replace HY := qB hb HY
  replace HM := qB hb HM
  replace HS2 := qB hb HS2
  have acB := (hb).size
  replace ah := qT ah hb
  clear hb bD
  go_upto_region 11 with fail
  clear HY
  have acC := qJ HD.out.lt (qJ HT.out.aQ (qJ HT.out.aR (qJ bP.out.aQ (qJ bP.out.aR (qJ HV.out.lt (qJ HV.out.oh (qJ HL.out.lt (qJ HR.out.lt (qJ HS.out.lt (qJ HM.out.lt (qJ HS2.out.lt ah.out.size)))))))))))
  refine bW 38 #[nU fe.key, nU fe.val, nU fe.hash] ?_
  rintro w7 ⟨hnew, hb⟩
  replace HD := qB hb HD
  replace HT := qB hb HT
  replace bP := qB hb bP
  replace HV := qB hb HV
  replace ay := qB hb ay
  replace HL := qB hb HL
  replace HR := qB hb HR
  replace HS := qB hb HS
  replace HM := qB hb HM
  replace HS2 := qB hb HS2
  have acD := (hb).size
  replace ah := qT ah hb
  have Ol := qd (hnew)
  clear hnew hb
  cases fb2 with
  | true =>
   have sc := HS2.out.c7
   have rc := HR.out.c7
   have rf := HR.out.f7
   go_wp2
   have acE := qJ HD.out.lt (qJ HT.out.aQ (qJ HT.out.aR (qJ bP.out.aQ (qJ bP.out.aR (qJ HV.out.lt (qJ HV.out.oh (qJ HL.out.lt (qJ HR.out.lt (qJ HS.out.lt (qJ HM.out.lt (qJ HS2.out.lt Ol.out.lt)))))))))))
   have hnew := (((((((HR.out.ak 0 (pQ ob)).ak 1 (nU key)).ak 2 (nU hash)).ak 3 (.pointer aq)).ak 4 (.int .i64 o1)).ak 5 (.pointer fq)).ak 6 (.int .i64 o2))
   have hm := ((((((((Mod.refl [(w.heap.size + 1)] w7).sl 0 (pQ ob)).sl 1 (nU key)).sl 2 (nU hash)).sl 3 (.pointer aq)).sl 4 (.int .i64 o1)).sl 5 (.pointer fq)).sl 6 (.int .i64 o2))
   simp only [pt] at hnew
   refine cO (F := fun v => aj v (w.heap.size + 1) 163 #[pQ ob, nU key, nU hash, .pointer aq, .int .i64 o1, .pointer fq, .int .i64 o2] ∧ Mod [(w.heap.size + 1)] w7 v) ⟨hnew, hm⟩ ?_
   clear hnew hm
   rintro w9 ⟨hnew, hm⟩
   clear sc rc rf
   replace HD := qM hm HD
   replace HT := qM hm HT
   replace bP := qM hm bP
   replace HV := qM hm HV
   replace ay := qM hm ay
   replace HL := qM hm HL
   replace HS := qM hm HS
   replace HM := qM hm HM
   replace HS2 := qM hm HS2
   replace Ol := qM hm Ol
   have acF := (hm).size
   replace ah := qU ah hm
   replace HR := qd hnew
   clear hnew hm
   have rx := HR.out.c7
   refine bodyPost_ret (v := .tuple #[.agg #[pQ ob, nU key, nU hash, .pointer aq, .int .i64 o1, .pointer fq, .int .i64 o2], .bool true]) (by simp [results, Tryz.results116, go_sem, rx.1, rx.2.1, rx.2.2.1, rx.2.2.2.1, rx.2.2.2.2.1, rx.2.2.2.2.2.1, rx.2.2.2.2.2.2]) rfl ?_
   have hg := Zt.out
   rw [← ig.out, ← KV.out, ← zW.out, ← P5.out] at hg
   simp only [if_true, if_false, Bool.false_eq_true] at hg
   obtain ⟨rfl, rfl, rfl, rfl⟩ := hg
   exact ⟨aq, fq, by rw [← zW.out, ← Df.out, ← Xk.out, ← HJ2.out, ← P5.out], by rw [← zW.out]; exact HB.out, by rw [← Df.out]; exact HG.out, bM.add_add x c _ _ ▸ HM.out, ah.out⟩
  | false =>
   have sc := HS.out.c7
   have rc := HR.out.c7
   have rf := HR.out.f7
   go_wp2
   have acG := qJ HD.out.lt (qJ HT.out.aQ (qJ HT.out.aR (qJ bP.out.aQ (qJ bP.out.aR (qJ HV.out.lt (qJ HV.out.oh (qJ HL.out.lt (qJ HR.out.lt (qJ HS.out.lt (qJ HM.out.lt (qJ HS2.out.lt Ol.out.lt)))))))))))
   have hnew := (((((((HR.out.ak 0 (pQ b.1)).ak 1 (nU key)).ak 2 (nU hash)).ak 3 (.pointer ap)).ak 4 (.int .i64 s1)).ak 5 (.pointer fp)).ak 6 (.int .i64 s2))
   have hm := ((((((((Mod.refl [(w.heap.size + 1)] w7).sl 0 (pQ b.1)).sl 1 (nU key)).sl 2 (nU hash)).sl 3 (.pointer ap)).sl 4 (.int .i64 s1)).sl 5 (.pointer fp)).sl 6 (.int .i64 s2))
   simp only [pt] at hnew
   refine cO (F := fun v => aj v (w.heap.size + 1) 163 #[pQ b.1, nU key, nU hash, .pointer ap, .int .i64 s1, .pointer fp, .int .i64 s2] ∧ Mod [(w.heap.size + 1)] w7 v) ⟨hnew, hm⟩ ?_
   clear hnew hm
   rintro w9 ⟨hnew, hm⟩
   clear sc rc rf
   replace HD := qM hm HD
   replace HT := qM hm HT
   replace bP := qM hm bP
   replace HV := qM hm HV
   replace ay := qM hm ay
   replace HL := qM hm HL
   replace HS := qM hm HS
   replace HM := qM hm HM
   replace HS2 := qM hm HS2
   replace Ol := qM hm Ol
   have acH := (hm).size
   replace ah := qU ah hm
   replace HR := qd hnew
   clear hnew hm
   have rx := HR.out.c7
   refine bodyPost_ret (v := .tuple #[.agg #[pQ b.1, nU key, nU hash, .pointer ap, .int .i64 s1, .pointer fp, .int .i64 s2], .bool false]) (by simp [results, Tryz.results116, go_sem, rx.1, rx.2.1, rx.2.2.1, rx.2.2.2.1, rx.2.2.2.2.1, rx.2.2.2.2.2.1, rx.2.2.2.2.2.2]) rfl ?_
   have hg := Zt.out
   rw [← ig.out, ← KV.out, ← zW.out, ← P5.out] at hg
   simp only [if_true, if_false, Bool.false_eq_true] at hg
   obtain ⟨rfl, rfl, rfl, rfl⟩ := hg
   exact ⟨ap, fp, by rw [← ig.out, ← HS2.out, ← HI1.out, ← HI2.out, ← KV.out], by rw [← ig.out]; exact HA.out, by rw [← HS2.out]; exact HF.out, bM.add_add x c _ _ ▸ HM.out, ah.out⟩
end Go.Proofs.YtbphcldoflekpaaGreatDoor
