/- A dual's seek by its contract. -/
import Derived.Test.YtcgjgfgkdoohlaaGreatDoorCoAH
import Derived.Test.YtcgjgfgkdoohlaaGreatDoorCoN
import Derived.Test.YtcgjgfgkdoohlaaGreatDoorLaneP
namespace Go.Proofs.YtcgjgfgkdoohlaaGreatDoor
set_option maxRecDepth 100000
set_option maxHeartbeats 8000000
open Go.RowKit AmC
theorem cutT {P : Program} {c : Code} {a : Act} {w : World} {Q : Exit → Act → World → Prop} (R : Act → World → Prop) (h : c.wp P (cutQ R Q) a w) (hR : ∀ a w, R a w → Q .normal a w) : c.wp P Q a w :=
 wp_mono h fun e a w hq => by cases e <;> first | exact hR _ _ hq | exact hq
theorem seek_at {W0 : World} {E : Nat → Addr} (tb gb key hash : Nat) (T : TabM) (P : MP) (x : Mtr) (c : Cnt) (w : World) (h : TabAt w tb gb T) (hP : Pw T.gs.length) (h64 : hash < 18446744073709551616) (hM : MetP w P x) (hmt : P.mb ≠ tb) (hmg : P.mb ≠ gb) (hE : Env W0 E w) (hb0 : W0.heap.size ≤ P.mb) :
  Calls Tryz.prog 71 #[tabP tb, lensV (some ⟨P.mb, P.mo, none⟩) c, .int .u64 (key : Int), .int .u64 (hash : Int)] w fun e w' => ∃ ap fp, e = .returned (spotV tb key hash ap (slotI (seek T.gs key hash).1) fp (slotI (seek T.gs key hash).2.1)) ∧
   PtrOf gb (seek T.gs key hash).1 ap ∧ PtrOf gb (seek T.gs key hash).2.1 fp ∧ MetP w' P (x.add c (seek T.gs key hash).2.2) ∧ Mod [P.mb] w w' :=
 table_Seek tb gb key hash T P.mb P.mt P.pre P.post P.mo x.all x.last P.m c w h hP h64 hM hmt hmg hE.tz (by have := hE.tzlt; omega)
def SeekPost (w : World) (P : MP) (x : Mtr) (c : Cnt) (key hash tX gX : Nat) (TX : TabM) (cnt : Nat) (e : Ending) (w' : World) : Prop :=
 ∃ ap fp, e = .returned (.tuple #[spotV tX key hash ap (slotI (seek TX.gs key hash).1) fp (slotI (seek TX.gs key hash).2.1), .bool (seek TX.gs key hash).1.isSome]) ∧
  PtrOf gX (seek TX.gs key hash).1 ap ∧ PtrOf gX (seek TX.gs key hash).2.1 fp ∧ MetP w' P (x.add c cnt) ∧ Mod [P.mb] w w'
theorem dual_seek_bld {W0 : World} {E : Nat → Addr} (db rb cap ob og : Nat) (bl : List (Nat × Nat × Nat)) (T : TabM) (n depth k key hash : Nat) (P : MP) (x : Mtr) (c : Cnt) (w : World) (h : DuB w db rb cap ob og bl T n depth k) (hok : Pw T.gs.length) (h64 : hash < 18446744073709551616) (hM : MetP w P x) (hE : Env W0 E w) (hb0 : W0.heap.size ≤ P.mb) (hmt : P.mb ≠ ob ∧ P.mb ≠ og ∧ P.mb ≠ db) :
  Calls Tryz.prog 94 #[dualP db, lensV (some ⟨P.mb, P.mo, none⟩) c, .int .u64 (key : Int), .int .u64 (hash : Int)] w (SeekPost w P x c key hash ob og T (seek T.gs key hash).2.2) := by
 obtain ⟨hmt, hmg, hmd⟩ := hmt
 have hB := ((Below.refl w.heap.size w).alloc (Nat.le_refl _) (.cells #[.pointer (some ⟨P.mb, P.mo, none⟩), .int .i64 c.p, .int .i64 c.v, .int .i64 c.u] 89)).alloc (by simp) (.cells #[.pointer none, .int .u64 0, .int .u64 0, .pointer none, .int .i64 0, .pointer none, .int .i64 0] 142)
 have hL := (Blk.new w 89 #[.pointer (some ⟨P.mb, P.mo, none⟩), .int .i64 c.p, .int .i64 c.v, .int .i64 c.u]).alloc (.cells #[.pointer none, .int .u64 0, .int .u64 0, .pointer none, .int .i64 0, .pointer none, .int .i64 0] 142)
 have hR := Blk.new (w.alloc (.cells #[.pointer (some ⟨P.mb, P.mo, none⟩), .int .i64 c.p, .int .i64 c.v, .int .i64 c.u] 89)) 142 #[.pointer none, .int .u64 0, .int .u64 0, .pointer none, .int .i64 0, .pointer none, .int .i64 0]
 simp only [World.size_alloc] at hR
 obtain ⟨W, hW⟩ : ∃ W, W = (w.alloc (.cells #[.pointer (some ⟨P.mb, P.mo, none⟩), .int .i64 c.p, .int .i64 c.v, .int .i64 c.u] 89)).alloc (.cells #[.pointer none, .int .u64 0, .int .u64 0, .pointer none, .int .i64 0, .pointer none, .int .i64 0] 142) := ⟨_, rfl⟩
 rw [← hW] at hB hL hR
 have hml := hM.lt
 have hB0 := hE.size
 have hdl := h.blk.lt
 have hol := h.tab.ltT
 have hgl := h.tab.ltG
 have HW := qd hW
 have HRd := qd (dual_Ready_no db W (by have := (h.blk.mod (Mod.of_below hB []) (by simp)).cell 3; simpa using this))
 unfold dualP at HRd
 have HD := qd (h.blk.below hB h.blk.lt)
 have HT := qd (h.tab.below hB)
 have HV0 := qd (hE.next hB)
 have HM := qd (hM.below hB)
 have HL := qd (hL)
 have HR := qd (hR)
 have Hmod := qd (Mod.of_below hB [P.mb])
 clear hW hB h hE hM hL hR
 unfold SeekPost dualP lensV spotV
 obtain ⟨sk1, hsk1⟩ : ∃ s, s = (seek T.gs key hash).1 := ⟨_, rfl⟩
 obtain ⟨sk2, hsk2⟩ : ∃ s, s = (seek T.gs key hash).2.1 := ⟨_, rfl⟩
 rw [← hsk1, ← hsk2]
 have HS1 := qd hsk1
 have HS2 := qd hsk2
 clear hsk1 hsk2
 obtain ⟨s1, hs1⟩ : ∃ s, s = slotI sk1 := ⟨_, rfl⟩
 obtain ⟨s2, hs2⟩ : ∃ s, s = slotI sk2 := ⟨_, rfl⟩
 rw [← hs1, ← hs2]
 have HI1 := qd hs1
 have HI2 := qd hs2
 clear hs1 hs2
 go_enter Tryz.func94, Tryz.ntmps94
 go_upto_region 1 with fail
 rw [← HW.out]
 go_wp2_with fail
 refine (HRd.out).mono ?_
 rintro y w1 ⟨rfl, rfl⟩
 clear HRd
 go_upto_region 2 with fail
 obtain ⟨dc0, dc1, dc2, dc3, dc4, dc5⟩ := HD.out.c6
 obtain ⟨lc0, lc1, lc2, lc3⟩ := HL.out.c4
 have q1 := HD.out.lt
 have q2 := HT.out.ltT
 have q3 := HT.out.ltG
 have q4 := HM.out.lt
 have q5 := HL.out.lt
 have q6 := HR.out.lt
 have z7 := Hmod.out.size
 refine cutT (fun a' wz => ∃ sb ap fp, a' = { tmps := ([.pointer (some ⟨db, 0, none⟩), .agg #[.pointer (some ⟨P.mb, P.mo, none⟩), .int .i64 c.p, .int .i64 c.v, .int .i64 c.u], .int .u64 (key : Int), .int .u64 (hash : Int), undef, .pointer (some ⟨w.heap.size, 0, none⟩), undef, undef, .pointer (some ⟨w.heap.size + 1, 0, none⟩), .bool false, .pointer (some ⟨sb, 0, none⟩), undef, undef, undef, undef, undef, undef, undef, undef, .pointer (some ⟨db, 0, none⟩), .bool false, .bool true, .pointer (some ⟨db, 0, none⟩), .pointer (some ⟨db, 0, none⟩), .pointer (some ⟨db, 0, none⟩), .pointer (some ⟨ob, 0, none⟩), .agg #[.pointer (some ⟨P.mb, P.mo, none⟩), .int .i64 c.p, .int .i64 c.v, .int .i64 c.u], .int .u64 (key : Int), .int .u64 (hash : Int), .agg #[.pointer (some ⟨ob, 0, none⟩), .int .u64 (key : Int), .int .u64 (hash : Int), .pointer ap, .int .i64 s1, .pointer fp, .int .i64 s2], undef, undef, undef, undef, undef, undef, undef, undef, undef, undef] ++ [undef, undef, undef, undef, undef, undef, undef, undef, undef, undef, undef, undef, undef, undef, undef, undef, undef, undef, undef, undef, undef, undef, undef, undef, undef, undef, undef, undef, undef, undef]).toArray, defers := [] } ∧ Blk wz db 215 #[.pointer (some ⟨ob, 0, none⟩), .int .i64 (depth : Int), .slice (some ⟨rb, 0, none⟩) bl.length cap, .slice none 0 0, .pointer none, .bool false] ∧ TabAt wz ob og T ∧ Env W0 E wz ∧ Blk wz w.heap.size 89 #[.pointer (some ⟨P.mb, P.mo, none⟩), .int .i64 c.p, .int .i64 c.v, .int .i64 c.u] ∧ Blk wz (w.heap.size + 1) 142 #[.pointer none, .int .u64 0, .int .u64 0, .pointer none, .int .i64 0, .pointer none, .int .i64 0] ∧ MetP wz P (x.add c (seek T.gs key hash).2.2) ∧ PtrOf og sk1 ap ∧ PtrOf og sk2 fp ∧ Blk wz sb 142 #[.pointer (some ⟨ob, 0, none⟩), .int .u64 (key : Int), .int .u64 (hash : Int), .pointer ap, .int .i64 s1, .pointer fp, .int .i64 s2] ∧ W.heap.size ≤ sb ∧ Mod ([P.mb]) w wz) ?_ ?_
 ·refine region_T (fun (w' : World) => w'.cell? ⟨db, 0, none⟩ = some (.pointer (some ⟨ob, 0, none⟩)) ∧ w'.cell? ⟨w.heap.size, 0, none⟩ = some (.pointer (some ⟨P.mb, P.mo, none⟩)) ∧ w'.cell? ⟨w.heap.size, 1, none⟩ = some (.int .i64 c.p) ∧ w'.cell? ⟨w.heap.size, 2, none⟩ = some (.int .i64 c.v) ∧ w'.cell? ⟨w.heap.size, 3, none⟩ = some (.int .i64 c.u)) [] (by kernel_rfl) ?_
  try (change wpAnyT _ _ _ _ _ _ _ _ _ (World.drew _))
  have hHeld := (⟨dc0, lc0, lc1, lc2, lc3⟩ : _ ∧ _ ∧ _ ∧ _ ∧ _)
  refine tW 0 (some 22) (.pointer (some ⟨db, 0, none⟩)) rfl hHeld ?_
  try simp only [pt]
  refine tW 1 (some 23) (.pointer (some ⟨db, 0, none⟩)) rfl hHeld ?_
  try simp only [pt]
  refine tW 2 (some 24) (.pointer (some ⟨db, 0, none⟩)) rfl hHeld ?_
  try simp only [pt]
  refine tT 3 (some 25) (.pointer (some ⟨ob, 0, none⟩)) rfl (by rintro w ⟨hh0, hh1, hh2, hh3, hh4⟩; go_simp) hHeld ?_
  try simp only [pt]
  refine tT 4 (some 26) (.agg #[.pointer (some ⟨P.mb, P.mo, none⟩), .int .i64 c.p, .int .i64 c.v, .int .i64 c.u]) rfl (by rintro w ⟨hh0, hh1, hh2, hh3, hh4⟩; go_simp) hHeld ?_
  try simp only [pt]
  refine tW 5 (some 27) (.int .u64 (key : Int)) rfl hHeld ?_
  try simp only [pt]
  refine tW 6 (some 28) (.int .u64 (hash : Int)) rfl hHeld ?_
  try simp only [pt]
  clear hHeld
  refine nameW (F := fun v => Mod [] W v) (Mod.drewN [] W 1) ?_
  rintro v1 hm
  clear dc0 dc1 dc2 dc3 dc4 dc5 lc0 lc1 lc2 lc3
  replace HD := qd (HD.out.mod hm (by simp))
  replace HT := qd (HT.out.mod hm (by simp) (by simp))
  replace HV0 := qd (HV0.out.mod hm (by intro k hk <;> simp at hk <;> omega))
  replace HM := qd (HM.out.mod hm (by simp))
  replace HL := qd (HL.out.mod hm (by simp))
  replace HR := qd (HR.out.mod hm (by simp))
  have z208 := (hm).size
  replace Hmod := qd (Hmod.out.tr hm)
  clear hm
  refine pairT (i := 7) (j := 8) (o := ⟨some 29, _, _, _, _, _⟩) (o' := ⟨some 10, _, _, _, _, _⟩) rfl rfl (by kernel_rfl) (fun K hK => ?_) (fun K hK => ?_)
  ·obtain ⟨dc0, dc1, dc2, dc3, dc4, dc5⟩ := HD.out.c6
   obtain ⟨lc0, lc1, lc2, lc3⟩ := HL.out.c4
   go_simp
   have HSk := qd (seek_at ob og key hash T P x c v1 HT.out hok h64 HM.out (by omega) (by omega) HV0.out hb0)
   rw [← HS1.out, ← HS2.out, ← HI1.out, ← HI2.out] at HSk
   unfold spotV tabP lensV at HSk
   refine (HSk.out).mono ?_
   rintro y v2 ⟨ap, fp, rfl, hap, hfp, hM2, hm⟩
   clear HSk
   clear HM
   clear dc0 dc1 dc2 dc3 dc4 dc5 lc0 lc1 lc2 lc3
   replace HD := qd (HD.out.mod hm (by simp <;> omega))
   replace HT := qd (HT.out.mod hm (by simp <;> omega) (by simp <;> omega))
   replace HV0 := qd (HV0.out.mod hm (by intro k hk <;> simp at hk <;> omega))
   replace HL := qd (HL.out.mod hm (by simp <;> omega))
   replace HR := qd (HR.out.mod hm (by simp <;> omega))
   have z309 := (hm).size
   replace Hmod := qd (Hmod.out.tr hm)
   clear hm
   have HM := qd (hM2)
   have HA := qd (hap)
   have HF := qd (hfp)
   obtain ⟨dc0, dc1, dc2, dc3, dc4, dc5⟩ := HD.out.c6
   obtain ⟨lc0, lc1, lc2, lc3⟩ := HL.out.c4
   go_wp2_with fail
   refine hK.out _ _ (fun _ => ⟨dc0, lc0, lc1, lc2, lc3⟩) ?_
   clear hK K
   try simp only [pt]
   refine nT 8 (some 10) rfl fun K hK => ?_
   obtain ⟨dc0, dc1, dc2, dc3, dc4, dc5⟩ := HD.out.c6
   obtain ⟨lc0, lc1, lc2, lc3⟩ := HL.out.c4
   go_simp
   have q310 := HD.out.lt
   have q311 := HT.out.ltT
   have q312 := HT.out.ltG
   have q313 := HL.out.lt
   have q314 := HR.out.lt
   have q315 := HM.out.lt
   have z316 := Hmod.out.size
   refine nameB 142 #[.pointer none, .int .u64 0, .int .u64 0, .pointer none, .int .i64 0, .pointer none, .int .i64 0] ?_
   rintro v3 ⟨hnew, hb⟩
   obtain ⟨sb, hsb⟩ : ∃ sb, sb = v2.heap.size := ⟨_, rfl⟩
   rw [← hsb] at hnew ⊢
   replace hsb : v2.heap.size ≤ sb := by omega
   clear dc0 dc1 dc2 dc3 dc4 dc5 lc0 lc1 lc2 lc3
   replace HD := qd (HD.out.mod (Mod.of_below hb []) (by simp))
   replace HT := qd (HT.out.mod (Mod.of_below hb []) (by simp) (by simp))
   replace HV0 := qd (HV0.out.mod (Mod.of_below hb []) (by simp))
   replace HL := qd (HL.out.mod (Mod.of_below hb []) (by simp))
   replace HR := qd (HR.out.mod (Mod.of_below hb []) (by simp))
   replace HM := qd (HM.out.mod (Mod.of_below hb []) (by simp))
   have z317 := (hb).size
   replace Hmod := qd (Hmod.out.then (Mod.of_below hb _))
   have HS := qd (hnew)
   clear hnew hb
   obtain ⟨dc0, dc1, dc2, dc3, dc4, dc5⟩ := HD.out.c6
   obtain ⟨lc0, lc1, lc2, lc3⟩ := HL.out.c4
   refine hK.out _ _ (fun _ => ⟨dc0, lc0, lc1, lc2, lc3⟩) ?_
   clear hK K
   try simp only [pt]
   refine nT 9 none rfl fun K hK => ?_
   obtain ⟨dc0, dc1, dc2, dc3, dc4, dc5⟩ := HD.out.c6
   obtain ⟨lc0, lc1, lc2, lc3⟩ := HL.out.c4
   obtain ⟨yc0, yc1, yc2, yc3, yc4, yc5, yc6⟩ := HS.out.c7
   obtain ⟨yf0, yf1, yf2, yf3, yf4, yf5, yf6⟩ := HS.out.f7
   go_simp
   have q318 := HD.out.lt
   have q319 := HT.out.ltT
   have q320 := HT.out.ltG
   have q321 := HL.out.lt
   have q322 := HR.out.lt
   have q323 := HM.out.lt
   have q324 := HS.out.lt
   have hnew := (((((((HS.out.set_ 0 (.pointer (some ⟨ob, 0, none⟩))).set_ 1 (.int .u64 (key : Int))).set_ 2 (.int .u64 (hash : Int))).set_ 3 (.pointer ap)).set_ 4 (.int .i64 s1)).set_ 5 (.pointer fp)).set_ 6 (.int .i64 s2))
   have hm := ((((((((Mod.refl [sb] v3).sl 0 (.pointer (some ⟨ob, 0, none⟩))).sl 1 (.int .u64 (key : Int))).sl 2 (.int .u64 (hash : Int))).sl 3 (.pointer ap)).sl 4 (.int .i64 s1)).sl 5 (.pointer fp)).sl 6 (.int .i64 s2))
   simp only [List.setIfInBounds_toArray, List.set_cons_zero, List.set_cons_succ] at hnew
   refine nameM hnew hm ?_
   clear hnew hm
   rintro v4 ⟨hnew, hm⟩
   clear dc0 dc1 dc2 dc3 dc4 dc5 lc0 lc1 lc2 lc3 yc0 yc1 yc2 yc3 yc4 yc5 yc6 yf0 yf1 yf2 yf3 yf4 yf5 yf6
   replace HD := qd (HD.out.mod hm (by simp <;> omega))
   replace HT := qd (HT.out.mod hm (by simp <;> omega) (by simp <;> omega))
   replace HV0 := qd (HV0.out.mod hm (by intro k hk <;> simp at hk <;> omega))
   replace HL := qd (HL.out.mod hm (by simp <;> omega))
   replace HR := qd (HR.out.mod hm (by simp <;> omega))
   replace HM := qd (HM.out.mod hm (by simp <;> omega))
   have z325 := (hm).size
   replace Hmod := qd (Hmod.out.tr hm)
   replace HS := qd hnew
   clear hnew hm
   obtain ⟨dc0, dc1, dc2, dc3, dc4, dc5⟩ := HD.out.c6
   obtain ⟨lc0, lc1, lc2, lc3⟩ := HL.out.c4
   refine hK.out _ _ (fun _ => ⟨dc0, lc0, lc1, lc2, lc3⟩) ?_
   clear hK K
   try simp only [pt]
   refine doneT (by kernel_rfl) ?_ _
   have z326 := Hmod.out.size
   exact ⟨sb, ap, fp, rfl, HD.out, HT.out, HV0.out, HL.out, HR.out, HM.out, HA.out, HF.out, HS.out, by omega, Hmod.out⟩
  ·obtain ⟨dc0, dc1, dc2, dc3, dc4, dc5⟩ := HD.out.c6
   obtain ⟨lc0, lc1, lc2, lc3⟩ := HL.out.c4
   go_simp
   have q409 := HD.out.lt
   have q410 := HT.out.ltT
   have q411 := HT.out.ltG
   have q412 := HM.out.lt
   have q413 := HL.out.lt
   have q414 := HR.out.lt
   have z415 := Hmod.out.size
   refine nameB 142 #[.pointer none, .int .u64 0, .int .u64 0, .pointer none, .int .i64 0, .pointer none, .int .i64 0] ?_
   rintro v5 ⟨hnew, hb⟩
   obtain ⟨sb, hsb⟩ : ∃ sb, sb = v1.heap.size := ⟨_, rfl⟩
   rw [← hsb] at hnew ⊢
   replace hsb : v1.heap.size ≤ sb := by omega
   clear dc0 dc1 dc2 dc3 dc4 dc5 lc0 lc1 lc2 lc3
   replace HD := qd (HD.out.mod (Mod.of_below hb []) (by simp))
   replace HT := qd (HT.out.mod (Mod.of_below hb []) (by simp) (by simp))
   replace HV0 := qd (HV0.out.mod (Mod.of_below hb []) (by simp))
   replace HM := qd (HM.out.mod (Mod.of_below hb []) (by simp))
   replace HL := qd (HL.out.mod (Mod.of_below hb []) (by simp))
   replace HR := qd (HR.out.mod (Mod.of_below hb []) (by simp))
   have z416 := (hb).size
   replace Hmod := qd (Hmod.out.then (Mod.of_below hb _))
   have HS := qd (hnew)
   clear hnew hb
   obtain ⟨dc0, dc1, dc2, dc3, dc4, dc5⟩ := HD.out.c6
   obtain ⟨lc0, lc1, lc2, lc3⟩ := HL.out.c4
   refine hK.out _ _ (fun _ => ⟨dc0, lc0, lc1, lc2, lc3⟩) ?_
   clear hK K
   try simp only [pt]
   refine nT 7 (some 29) rfl fun K hK => ?_
   obtain ⟨dc0, dc1, dc2, dc3, dc4, dc5⟩ := HD.out.c6
   obtain ⟨lc0, lc1, lc2, lc3⟩ := HL.out.c4
   go_simp
   have HSk := qd (seek_at ob og key hash T P x c v5 HT.out hok h64 HM.out (by omega) (by omega) HV0.out hb0)
   rw [← HS1.out, ← HS2.out, ← HI1.out, ← HI2.out] at HSk
   unfold spotV tabP lensV at HSk
   refine (HSk.out).mono ?_
   rintro y v6 ⟨ap, fp, rfl, hap, hfp, hM2, hm⟩
   clear HSk
   clear HM
   clear dc0 dc1 dc2 dc3 dc4 dc5 lc0 lc1 lc2 lc3
   replace HD := qd (HD.out.mod hm (by simp <;> omega))
   replace HT := qd (HT.out.mod hm (by simp <;> omega) (by simp <;> omega))
   replace HV0 := qd (HV0.out.mod hm (by intro k hk <;> simp at hk <;> omega))
   replace HL := qd (HL.out.mod hm (by simp <;> omega))
   replace HR := qd (HR.out.mod hm (by simp <;> omega))
   replace HS := qd (HS.out.mod hm (by simp <;> omega))
   have z417 := (hm).size
   replace Hmod := qd (Hmod.out.tr hm)
   clear hm
   have HM := qd (hM2)
   have HA := qd (hap)
   have HF := qd (hfp)
   obtain ⟨dc0, dc1, dc2, dc3, dc4, dc5⟩ := HD.out.c6
   obtain ⟨lc0, lc1, lc2, lc3⟩ := HL.out.c4
   go_wp2_with fail
   refine hK.out _ _ (fun _ => ⟨dc0, lc0, lc1, lc2, lc3⟩) ?_
   clear hK K
   try simp only [pt]
   refine nT 9 none rfl fun K hK => ?_
   obtain ⟨dc0, dc1, dc2, dc3, dc4, dc5⟩ := HD.out.c6
   obtain ⟨lc0, lc1, lc2, lc3⟩ := HL.out.c4
   obtain ⟨yc0, yc1, yc2, yc3, yc4, yc5, yc6⟩ := HS.out.c7
   obtain ⟨yf0, yf1, yf2, yf3, yf4, yf5, yf6⟩ := HS.out.f7
   go_simp
   have q418 := HD.out.lt
   have q419 := HT.out.ltT
   have q420 := HT.out.ltG
   have q421 := HL.out.lt
   have q422 := HR.out.lt
   have q423 := HS.out.lt
   have q424 := HM.out.lt
   have hnew := (((((((HS.out.set_ 0 (.pointer (some ⟨ob, 0, none⟩))).set_ 1 (.int .u64 (key : Int))).set_ 2 (.int .u64 (hash : Int))).set_ 3 (.pointer ap)).set_ 4 (.int .i64 s1)).set_ 5 (.pointer fp)).set_ 6 (.int .i64 s2))
   have hm := ((((((((Mod.refl [sb] v6).sl 0 (.pointer (some ⟨ob, 0, none⟩))).sl 1 (.int .u64 (key : Int))).sl 2 (.int .u64 (hash : Int))).sl 3 (.pointer ap)).sl 4 (.int .i64 s1)).sl 5 (.pointer fp)).sl 6 (.int .i64 s2))
   simp only [List.setIfInBounds_toArray, List.set_cons_zero, List.set_cons_succ] at hnew
   refine nameM hnew hm ?_
   clear hnew hm
   rintro v7 ⟨hnew, hm⟩
   clear dc0 dc1 dc2 dc3 dc4 dc5 lc0 lc1 lc2 lc3 yc0 yc1 yc2 yc3 yc4 yc5 yc6 yf0 yf1 yf2 yf3 yf4 yf5 yf6
   replace HD := qd (HD.out.mod hm (by simp <;> omega))
   replace HT := qd (HT.out.mod hm (by simp <;> omega) (by simp <;> omega))
   replace HV0 := qd (HV0.out.mod hm (by intro k hk <;> simp at hk <;> omega))
   replace HL := qd (HL.out.mod hm (by simp <;> omega))
   replace HR := qd (HR.out.mod hm (by simp <;> omega))
   replace HM := qd (HM.out.mod hm (by simp <;> omega))
   have z425 := (hm).size
   replace Hmod := qd (Hmod.out.tr hm)
   replace HS := qd hnew
   clear hnew hm
   obtain ⟨dc0, dc1, dc2, dc3, dc4, dc5⟩ := HD.out.c6
   obtain ⟨lc0, lc1, lc2, lc3⟩ := HL.out.c4
   refine hK.out _ _ (fun _ => ⟨dc0, lc0, lc1, lc2, lc3⟩) ?_
   clear hK K
   try simp only [pt]
   refine doneT (by kernel_rfl) ?_ _
   have z426 := Hmod.out.size
   exact ⟨sb, ap, fp, rfl, HD.out, HT.out, HV0.out, HL.out, HR.out, HM.out, HA.out, HF.out, HS.out, by omega, Hmod.out⟩
 clear dc0 dc1 dc2 dc3 dc4 dc5 lc0 lc1 lc2 lc3
 clear HD
 clear HT
 clear HV0
 clear HM
 clear HL
 clear HR
 clear Hmod
 rintro a' w2 ⟨sb, ap, fp, rfl, m_D, m_T, m_V0, m_L, m_R, m_M, m_A, m_F, m_box, hle_sb, m_mod⟩
 simp only [List.cons_append, List.nil_append, List.append_assoc]
 have HD := qd (m_D)
 have HT := qd (m_T)
 have HV0 := qd (m_V0)
 have HL := qd (m_L)
 have HR := qd (m_R)
 have HM := qd (m_M)
 have HA := qd (m_A)
 have HF := qd (m_F)
 have HS := qd (m_box)
 have Hmod := qd (m_mod)
 clear m_D m_T m_V0 m_L m_R m_M m_A m_F m_box m_mod
 obtain ⟨fb, hfb⟩ : ∃ b, b = sk1.isSome := ⟨_, rfl⟩
 have HFB := qd hfb
 clear hfb
 go_upto_region 3 with fail
 obtain ⟨sc0, sc1, sc2, sc3, sc4, sc5, sc6⟩ := HS.out.c7
 have HEn := qd (spot_Entry ob og key hash T ap fp s2 (by rw [← HS1.out]; exact HA.out) w2 HT.out)
 unfold foundE at HEn
 rw [← HS1.out, ← HI1.out] at HEn
 unfold spotV optE entV at HEn
 simp only [Option.isSome_map] at HEn
 obtain ⟨fe, hfe⟩ : ∃ fe, fe = ((sk1.map fun x => (slotAt T.gs x.1 x.2).ent).getD ⟨0, 0, 0⟩) := ⟨_, rfl⟩
 rw [← hfe] at HEn
 clear hfe
 go_wp2_with fail
 refine (HEn.out).mono ?_
 rintro x w3 ⟨rfl, hb⟩
 clear sc0 sc1 sc2 sc3 sc4 sc5 sc6
 replace HD := qd (HD.out.mod (Mod.of_below hb []) (by simp))
 replace HT := qd (HT.out.mod (Mod.of_below hb []) (by simp) (by simp))
 replace HV0 := qd (HV0.out.mod (Mod.of_below hb []) (by simp))
 replace HL := qd (HL.out.mod (Mod.of_below hb []) (by simp))
 replace HR := qd (HR.out.mod (Mod.of_below hb []) (by simp))
 replace HM := qd (HM.out.mod (Mod.of_below hb []) (by simp))
 replace HS := qd (HS.out.mod (Mod.of_below hb []) (by simp))
 have z8 := (hb).size
 replace Hmod := qd (Hmod.out.then (Mod.of_below hb _))
 clear hb
 clear HEn
 go_upto_region 4 with fail
 have q9 := HD.out.lt
 have q10 := HT.out.ltT
 have q11 := HT.out.ltG
 have q12 := HL.out.lt
 have q13 := HR.out.lt
 have q14 := HM.out.lt
 have q15 := HS.out.lt
 have z16 := Hmod.out.size
 refine nameB 37 #[.int .u64 (fe.key : Int), .int .u64 (fe.val : Int), .int .u64 (fe.hash : Int)] ?_
 rintro w4 ⟨hnew, hb⟩
 replace HD := qd (HD.out.mod (Mod.of_below hb []) (by simp))
 replace HT := qd (HT.out.mod (Mod.of_below hb []) (by simp) (by simp))
 replace HV0 := qd (HV0.out.mod (Mod.of_below hb []) (by simp))
 replace HL := qd (HL.out.mod (Mod.of_below hb []) (by simp))
 replace HR := qd (HR.out.mod (Mod.of_below hb []) (by simp))
 replace HM := qd (HM.out.mod (Mod.of_below hb []) (by simp))
 replace HS := qd (HS.out.mod (Mod.of_below hb []) (by simp))
 have z17 := (hb).size
 replace Hmod := qd (Hmod.out.then (Mod.of_below hb _))
 have HY := qd (hnew)
 clear hnew hb
 obtain ⟨sc0, sc1, sc2, sc3, sc4, sc5, sc6⟩ := HS.out.c7
 obtain ⟨rc0, rc1, rc2, rc3, rc4, rc5, rc6⟩ := HR.out.c7
 obtain ⟨rf0, rf1, rf2, rf3, rf4, rf5, rf6⟩ := HR.out.f7
 go_wp2
 have q18 := HD.out.lt
 have q19 := HT.out.ltT
 have q20 := HT.out.ltG
 have q21 := HL.out.lt
 have q22 := HR.out.lt
 have q23 := HM.out.lt
 have q24 := HS.out.lt
 have q25 := HY.out.lt
 have hnew := (((((((HR.out.set_ 0 (.pointer (some ⟨ob, 0, none⟩))).set_ 1 (.int .u64 (key : Int))).set_ 2 (.int .u64 (hash : Int))).set_ 3 (.pointer ap)).set_ 4 (.int .i64 s1)).set_ 5 (.pointer fp)).set_ 6 (.int .i64 s2))
 have hm := ((((((((Mod.refl [(w.heap.size + 1)] w4).sl 0 (.pointer (some ⟨ob, 0, none⟩))).sl 1 (.int .u64 (key : Int))).sl 2 (.int .u64 (hash : Int))).sl 3 (.pointer ap)).sl 4 (.int .i64 s1)).sl 5 (.pointer fp)).sl 6 (.int .i64 s2))
 simp only [List.setIfInBounds_toArray, List.set_cons_zero, List.set_cons_succ] at hnew
 refine nameW (F := fun v => Blk v (w.heap.size + 1) 142 #[.pointer (some ⟨ob, 0, none⟩), .int .u64 (key : Int), .int .u64 (hash : Int), .pointer ap, .int .i64 s1, .pointer fp, .int .i64 s2] ∧ Mod [(w.heap.size + 1)] w4 v) ⟨hnew, hm⟩ ?_
 clear hnew hm
 rintro w5 ⟨hnew, hm⟩
 clear sc0 sc1 sc2 sc3 sc4 sc5 sc6 rc0 rc1 rc2 rc3 rc4 rc5 rc6 rf0 rf1 rf2 rf3 rf4 rf5 rf6
 replace HD := qd (HD.out.mod hm (by simp <;> omega))
 replace HT := qd (HT.out.mod hm (by simp <;> omega) (by simp <;> omega))
 replace HV0 := qd (HV0.out.mod hm (by intro k hk <;> simp at hk <;> omega))
 replace HL := qd (HL.out.mod hm (by simp <;> omega))
 replace HM := qd (HM.out.mod hm (by simp <;> omega))
 replace HS := qd (HS.out.mod hm (by simp <;> omega))
 replace HY := qd (HY.out.mod hm (by simp <;> omega))
 have z26 := (hm).size
 replace Hmod := qd (Hmod.out.tr hm)
 replace HR := qd hnew
 clear hnew hm
 obtain ⟨rx0, rx1, rx2, rx3, rx4, rx5, rx6⟩ := HR.out.c7
 refine bodyPost_ret (v := .tuple #[.agg #[.pointer (some ⟨ob, 0, none⟩), .int .u64 (key : Int), .int .u64 (hash : Int), .pointer ap, .int .i64 s1, .pointer fp, .int .i64 s2], .bool sk1.isSome]) (by simp [results, Tryz.results94, go_sem, rx0, rx1, rx2, rx3, rx4, rx5, rx6]) rfl ⟨ap, fp, rfl, HA.out, HF.out, HM.out, Hmod.out⟩
theorem dual_seek_mov {W0 : World} {E : Nat → Addr} (db rb cap ob og fb fcap eb vb vcap : Nat) (bbs : List Nat) (bs : List (Nat × Nat)) (T : TabM) (Ts : List TabM) (n depth next key hash sd : Nat) (b : Nat × Nat) (Tx : TabM) (P : MP) (x : Mtr) (c : Cnt) (w : World) (h : DuM w db rb cap ob og fb fcap eb vb vcap bbs bs T Ts n depth next)
  (hsd : sd = sideOf bs.length depth hash) (hb : bs[sd]? = some b) (hTs : Ts[sd]? = some Tx) (hok : Pw T.gs.length) (hpx : Pw Tx.gs.length) (h64 : hash < 18446744073709551616) (hM : MetP w P x) (hE : Env W0 E w) (hb0 : W0.heap.size ≤ P.mb) (hmt : P.mb ∉ footM db rb fb eb vb ob og bbs bs)
  (tX gX cnt : Nat) (TX : TabM) (hga : if (seek Tx.gs key hash).1.isSome then tX = b.1 ∧ gX = b.2 ∧ TX = Tx ∧ cnt = (seek Tx.gs key hash).2.2 else
   cnt = (seek Tx.gs key hash).2.2 + (seek T.gs key hash).2.2 ∧ if (seek T.gs key hash).1.isSome then tX = ob ∧ gX = og ∧ TX = T else tX = b.1 ∧ gX = b.2 ∧ TX = Tx) :
  Calls Tryz.prog 94 #[dualP db, lensV (some ⟨P.mb, P.mo, none⟩) c, .int .u64 (key : Int), .int .u64 (hash : Int)] w (SeekPost w P x c key hash tX gX TX cnt) := by
 have hmf : ∀ q ∈ footM db rb fb eb vb ob og bbs bs, P.mb ≠ q := fun q hq e => hmt (e ▸ hq)
 have hm1 := hmf db (by simp [footM])
 have hm2 := hmf ob (by simp [footM])
 have hm3 := hmf og (by simp [footM])
 have hm4 := hmf eb (by simp [footM])
 have hm5 := hmf vb (by simp [footM])
 have hm6 := hmf b.1 (by unfold footM; simp [mem_flatB]; exact .inr (.inr (.inr (.inr (.inr (.inr (.inr (.inr ⟨_, _, List.mem_of_getElem? hb, .inl rfl⟩))))))))
 have hm7 := hmf b.2 (by unfold footM; simp [mem_flatB]; exact .inr (.inr (.inr (.inr (.inr (.inr (.inr (.inr ⟨_, _, List.mem_of_getElem? hb, .inr rfl⟩))))))))
 clear hmf
 have hB := ((Below.refl w.heap.size w).alloc (Nat.le_refl _) (.cells #[.pointer (some ⟨P.mb, P.mo, none⟩), .int .i64 c.p, .int .i64 c.v, .int .i64 c.u] 89)).alloc (by simp) (.cells #[.pointer none, .int .u64 0, .int .u64 0, .pointer none, .int .i64 0, .pointer none, .int .i64 0] 142)
 have hL := (Blk.new w 89 #[.pointer (some ⟨P.mb, P.mo, none⟩), .int .i64 c.p, .int .i64 c.v, .int .i64 c.u]).alloc (.cells #[.pointer none, .int .u64 0, .int .u64 0, .pointer none, .int .i64 0, .pointer none, .int .i64 0] 142)
 have hR := Blk.new (w.alloc (.cells #[.pointer (some ⟨P.mb, P.mo, none⟩), .int .i64 c.p, .int .i64 c.v, .int .i64 c.u] 89)) 142 #[.pointer none, .int .u64 0, .int .u64 0, .pointer none, .int .i64 0, .pointer none, .int .i64 0]
 simp only [World.size_alloc] at hR
 obtain ⟨W, hW⟩ : ∃ W, W = (w.alloc (.cells #[.pointer (some ⟨P.mb, P.mo, none⟩), .int .i64 c.p, .int .i64 c.v, .int .i64 c.u] 89)).alloc (.cells #[.pointer none, .int .u64 0, .int .u64 0, .pointer none, .int .i64 0, .pointer none, .int .i64 0] 142) := ⟨_, rfl⟩
 rw [← hW] at hB hL hR
 have hml := hM.lt
 have hB0 := hE.size
 have hdl := h.blk.lt
 have hol := h.tab.ltT
 have hgl := h.tab.ltG
 have HW := qd hW
 have HRd := qd (dual_Ready_yes db fb bs.length fcap W (by have := (h.blk.mod (Mod.of_below hB []) (by simp)).cell 3; simpa using this))
 unfold dualP at HRd
 have hel := h.ev.lt
 have hvl := h.ev.ltV
 have hTx := h.tabs.at_ sd b Tx hb hTs
 have hxl := hTx.ltT
 have hxg := hTx.ltG
 have HTg := qd (fun (V : World) (hV : EvAt V eb ob vb vcap (bs.map Prod.fst) depth next) => evac_Target eb ob vb vcap (bs.map Prod.fst) depth next hash b.1 (by rw [List.length_map]; exact h.many) h.deep h64 (by rw [List.length_map, ← hsd, List.getElem?_map, hb]; rfl) V hV)
 unfold tabP at HTg
 have HD := qd (h.blk.below hB h.blk.lt)
 have HT := qd (h.tab.below hB)
 have HTx := qd (hTx.below hB)
 have HV := qd (h.ev.mod (Mod.of_below hB []) (by simp) (by simp))
 have HV0 := qd (hE.next hB)
 have HM := qd (hM.below hB)
 have HL := qd (hL)
 have HR := qd (hR)
 have Hmod := qd (Mod.of_below hB [P.mb])
 clear hW hB h hE hM hL hR hTx
 unfold SeekPost dualP lensV spotV
 obtain ⟨sk1, h1⟩ : ∃ s, s = (seek Tx.gs key hash).1 := ⟨_, rfl⟩
 obtain ⟨sk2, h2⟩ : ∃ s, s = (seek Tx.gs key hash).2.1 := ⟨_, rfl⟩
 have HS1 := qd h1
 have HS2 := qd h2
 clear h1 h2
 obtain ⟨s1, h1⟩ : ∃ s, s = slotI sk1 := ⟨_, rfl⟩
 obtain ⟨s2, h2⟩ : ∃ s, s = slotI sk2 := ⟨_, rfl⟩
 have HI1 := qd h1
 have HI2 := qd h2
 clear h1 h2
 obtain ⟨ok1, h1⟩ : ∃ s, s = (seek T.gs key hash).1 := ⟨_, rfl⟩
 obtain ⟨ok2, h2⟩ : ∃ s, s = (seek T.gs key hash).2.1 := ⟨_, rfl⟩
 have HO1 := qd h1
 have HO2 := qd h2
 clear h1 h2
 obtain ⟨o1, h1⟩ : ∃ s, s = slotI ok1 := ⟨_, rfl⟩
 obtain ⟨o2, h2⟩ : ∃ s, s = slotI ok2 := ⟨_, rfl⟩
 have HJ1 := qd h1
 have HJ2 := qd h2
 clear h1 h2
 have HGa := qd hga
 clear hga
 go_enter Tryz.func94, Tryz.ntmps94
 go_upto_region 1 with fail
 rw [← HW.out]
 go_wp2_with fail
 refine (HRd.out).mono ?_
 rintro y w1 ⟨rfl, rfl⟩
 clear HRd
 go_upto_region 5 with fail
 obtain ⟨dc0, dc1, dc2, dc3, dc4, dc5⟩ := HD.out.c6
 obtain ⟨lc0, lc1, lc2, lc3⟩ := HL.out.c4
 have q1 := HD.out.lt
 have q2 := HT.out.ltT
 have q3 := HT.out.ltG
 have q4 := HTx.out.ltT
 have q5 := HTx.out.ltG
 have q6 := HV.out.lt
 have q7 := HV.out.ltV
 have q8 := HM.out.lt
 have q9 := HL.out.lt
 have q10 := HR.out.lt
 have z11 := Hmod.out.size
 refine cutT (fun a' wz => ∃ sb ap fp, a' = { tmps := ([.pointer (some ⟨db, 0, none⟩), .agg #[.pointer (some ⟨P.mb, P.mo, none⟩), .int .i64 c.p, .int .i64 c.v, .int .i64 c.u], .int .u64 (key : Int), .int .u64 (hash : Int), undef, .pointer (some ⟨w.heap.size, 0, none⟩), undef, undef, .pointer (some ⟨w.heap.size + 1, 0, none⟩), .bool false, undef, undef, undef, .pointer (some ⟨sb, 0, none⟩), undef, undef, undef, undef, undef, .pointer (some ⟨db, 0, none⟩), .bool true, .bool false, undef, undef, undef, undef, undef, undef, undef, undef, undef, undef, undef, undef, undef, undef, undef, .pointer (some ⟨db, 0, none⟩), .pointer (some ⟨db, 0, none⟩), .pointer (some ⟨db, 4, none⟩)] ++ [.pointer (some ⟨eb, 0, none⟩), .int .u64 (hash : Int), .pointer (some ⟨b.1, 0, none⟩), .agg #[.pointer (some ⟨P.mb, P.mo, none⟩), .int .i64 c.p, .int .i64 c.v, .int .i64 c.u], .int .u64 (key : Int), .int .u64 (hash : Int), .agg #[.pointer (some ⟨b.1, 0, none⟩), .int .u64 (key : Int), .int .u64 (hash : Int), .pointer ap, .int .i64 s1, .pointer fp, .int .i64 s2], undef, undef, undef, undef, undef, undef, undef, undef, undef, undef, undef, undef, undef, undef, undef, undef, undef, undef, undef, undef, undef, undef, undef]).toArray, defers := [] } ∧ Blk wz db 215 #[.pointer (some ⟨ob, 0, none⟩), .int .i64 (depth : Int), .slice (some ⟨rb, 0, none⟩) bbs.length cap, .slice (some ⟨fb, 0, none⟩) bs.length fcap, .pointer (some ⟨eb, 0, none⟩), .bool false] ∧ TabAt wz ob og T ∧ TabAt wz b.1 b.2 Tx ∧ EvAt wz eb ob vb vcap (bs.map Prod.fst) depth next ∧ Env W0 E wz ∧ Blk wz w.heap.size 89 #[.pointer (some ⟨P.mb, P.mo, none⟩), .int .i64 c.p, .int .i64 c.v, .int .i64 c.u] ∧ Blk wz (w.heap.size + 1) 142 #[.pointer none, .int .u64 0, .int .u64 0, .pointer none, .int .i64 0, .pointer none, .int .i64 0] ∧ MetP wz P (x.add c (seek Tx.gs key hash).2.2) ∧ PtrOf b.2 sk1 ap ∧ PtrOf b.2 sk2 fp ∧ Blk wz sb 142 #[.pointer (some ⟨b.1, 0, none⟩), .int .u64 (key : Int), .int .u64 (hash : Int), .pointer ap, .int .i64 s1, .pointer fp, .int .i64 s2] ∧ W.heap.size ≤ sb ∧ Mod ([P.mb]) w wz) ?_ ?_
 ·refine region_T (fun (w' : World) => w'.cell? ⟨db, 0, none⟩ = some (.pointer (some ⟨ob, 0, none⟩)) ∧ w'.cell? ⟨db, 4, none⟩ = some (.pointer (some ⟨eb, 0, none⟩)) ∧ w'.cell? ⟨w.heap.size, 0, none⟩ = some (.pointer (some ⟨P.mb, P.mo, none⟩)) ∧ w'.cell? ⟨w.heap.size, 1, none⟩ = some (.int .i64 c.p) ∧ w'.cell? ⟨w.heap.size, 2, none⟩ = some (.int .i64 c.v) ∧ w'.cell? ⟨w.heap.size, 3, none⟩ = some (.int .i64 c.u)) [] (by kernel_rfl) ?_
  try (change wpAnyT _ _ _ _ _ _ _ _ _ (World.drew _))
  have hHeld := (⟨dc0, dc4, lc0, lc1, lc2, lc3⟩ : _ ∧ _ ∧ _ ∧ _ ∧ _ ∧ _)
  refine tW 0 (some 37) (.pointer (some ⟨db, 0, none⟩)) rfl hHeld ?_
  try simp only [pt]
  refine tW 1 (some 38) (.pointer (some ⟨db, 0, none⟩)) rfl hHeld ?_
  try simp only [pt]
  refine tW 2 (some 39) (.pointer (some ⟨db, 4, none⟩)) rfl hHeld ?_
  try simp only [pt]
  refine tT 3 (some 40) (.pointer (some ⟨eb, 0, none⟩)) rfl (by rintro w ⟨hh0, hh1, hh2, hh3, hh4, hh5⟩; go_simp) hHeld ?_
  try simp only [pt]
  refine tW 4 (some 41) (.int .u64 (hash : Int)) rfl hHeld ?_
  try simp only [pt]
  refine tT 6 (some 43) (.agg #[.pointer (some ⟨P.mb, P.mo, none⟩), .int .i64 c.p, .int .i64 c.v, .int .i64 c.u]) rfl (by rintro w ⟨hh0, hh1, hh2, hh3, hh4, hh5⟩; go_simp) hHeld ?_
  try simp only [pt]
  refine tW 7 (some 44) (.int .u64 (key : Int)) rfl hHeld ?_
  try simp only [pt]
  refine tW 8 (some 45) (.int .u64 (hash : Int)) rfl hHeld ?_
  try simp only [pt]
  clear hHeld
  refine nameW (F := fun v => Mod [] W v) (Mod.drewN [] W 1) ?_
  rintro v1 hm
  clear dc0 dc1 dc2 dc3 dc4 dc5 lc0 lc1 lc2 lc3
  replace HD := qd (HD.out.mod hm (by simp))
  replace HT := qd (HT.out.mod hm (by simp) (by simp))
  replace HTx := qd (HTx.out.mod hm (by simp) (by simp))
  replace HV := qd (HV.out.mod hm (by simp) (by simp))
  replace HV0 := qd (HV0.out.mod hm (by intro k hk <;> simp at hk <;> omega))
  replace HM := qd (HM.out.mod hm (by simp))
  replace HL := qd (HL.out.mod hm (by simp))
  replace HR := qd (HR.out.mod hm (by simp))
  have z212 := (hm).size
  replace Hmod := qd (Hmod.out.tr hm)
  clear hm
  refine pairT (i := 5) (j := 10) (o := ⟨some 42, _, _, _, _, _⟩) (o' := ⟨some 13, _, _, _, _, _⟩) rfl rfl (by kernel_rfl) (fun K hK => ?_) (fun K hK => ?_)
  ·obtain ⟨dc0, dc1, dc2, dc3, dc4, dc5⟩ := HD.out.c6
   obtain ⟨lc0, lc1, lc2, lc3⟩ := HL.out.c4
   go_simp
   refine (HTg.out _ HV.out).mono ?_
   rintro y v2 ⟨rfl, hb⟩
   clear dc0 dc1 dc2 dc3 dc4 dc5 lc0 lc1 lc2 lc3
   replace HD := qd (HD.out.mod (Mod.of_below hb []) (by simp))
   replace HT := qd (HT.out.mod (Mod.of_below hb []) (by simp) (by simp))
   replace HTx := qd (HTx.out.mod (Mod.of_below hb []) (by simp) (by simp))
   replace HV := qd (HV.out.mod (Mod.of_below hb []) (by simp) (by simp))
   replace HV0 := qd (HV0.out.mod (Mod.of_below hb []) (by simp))
   replace HM := qd (HM.out.mod (Mod.of_below hb []) (by simp))
   replace HL := qd (HL.out.mod (Mod.of_below hb []) (by simp))
   replace HR := qd (HR.out.mod (Mod.of_below hb []) (by simp))
   have z313 := (hb).size
   replace Hmod := qd (Hmod.out.then (Mod.of_below hb _))
   clear hb
   obtain ⟨dc0, dc1, dc2, dc3, dc4, dc5⟩ := HD.out.c6
   obtain ⟨lc0, lc1, lc2, lc3⟩ := HL.out.c4
   go_wp2_with fail
   refine hK.out _ _ (fun _ => ⟨dc0, dc4, lc0, lc1, lc2, lc3⟩) ?_
   clear hK K
   try simp only [pt]
   refine pairT (i := 9) (j := 10) (o := ⟨some 46, _, _, _, _, _⟩) (o' := ⟨some 13, _, _, _, _, _⟩) rfl rfl (by kernel_rfl) (fun K hK => ?_) (fun K hK => ?_)
   ·obtain ⟨dc0, dc1, dc2, dc3, dc4, dc5⟩ := HD.out.c6
    obtain ⟨lc0, lc1, lc2, lc3⟩ := HL.out.c4
    go_simp
    have HSk := qd (seek_at b.1 b.2 key hash Tx P x c v2 HTx.out hpx h64 HM.out (by omega) (by omega) HV0.out hb0)
    rw [← HS1.out, ← HS2.out, ← HI1.out, ← HI2.out] at HSk
    unfold spotV tabP lensV at HSk
    refine (HSk.out).mono ?_
    rintro y v3 ⟨ap, fp, rfl, hap, hfp, hM2, hm⟩
    clear HSk
    clear HM
    clear dc0 dc1 dc2 dc3 dc4 dc5 lc0 lc1 lc2 lc3
    replace HD := qd (HD.out.mod hm (by simp <;> omega))
    replace HT := qd (HT.out.mod hm (by simp <;> omega) (by simp <;> omega))
    replace HTx := qd (HTx.out.mod hm (by simp <;> omega) (by simp <;> omega))
    replace HV := qd (HV.out.mod hm (by simp <;> omega) (by simp <;> omega))
    replace HV0 := qd (HV0.out.mod hm (by intro k hk <;> simp at hk <;> omega))
    replace HL := qd (HL.out.mod hm (by simp <;> omega))
    replace HR := qd (HR.out.mod hm (by simp <;> omega))
    have z414 := (hm).size
    replace Hmod := qd (Hmod.out.tr hm)
    clear hm
    have HM := qd (hM2)
    have HA := qd (hap)
    have HF := qd (hfp)
    obtain ⟨dc0, dc1, dc2, dc3, dc4, dc5⟩ := HD.out.c6
    obtain ⟨lc0, lc1, lc2, lc3⟩ := HL.out.c4
    go_wp2_with fail
    refine hK.out _ _ (fun _ => ⟨dc0, dc4, lc0, lc1, lc2, lc3⟩) ?_
    clear hK K
    try simp only [pt]
    refine nT 10 (some 13) rfl fun K hK => ?_
    obtain ⟨dc0, dc1, dc2, dc3, dc4, dc5⟩ := HD.out.c6
    obtain ⟨lc0, lc1, lc2, lc3⟩ := HL.out.c4
    go_simp
    have q415 := HD.out.lt
    have q416 := HT.out.ltT
    have q417 := HT.out.ltG
    have q418 := HTx.out.ltT
    have q419 := HTx.out.ltG
    have q420 := HV.out.lt
    have q421 := HV.out.ltV
    have q422 := HL.out.lt
    have q423 := HR.out.lt
    have q424 := HM.out.lt
    have z425 := Hmod.out.size
    refine nameB 142 #[.pointer none, .int .u64 0, .int .u64 0, .pointer none, .int .i64 0, .pointer none, .int .i64 0] ?_
    rintro v4 ⟨hnew, hb⟩
    obtain ⟨sb, hsb⟩ : ∃ sb, sb = v3.heap.size := ⟨_, rfl⟩
    rw [← hsb] at hnew ⊢
    replace hsb : v3.heap.size ≤ sb := by omega
    clear dc0 dc1 dc2 dc3 dc4 dc5 lc0 lc1 lc2 lc3
    replace HD := qd (HD.out.mod (Mod.of_below hb []) (by simp))
    replace HT := qd (HT.out.mod (Mod.of_below hb []) (by simp) (by simp))
    replace HTx := qd (HTx.out.mod (Mod.of_below hb []) (by simp) (by simp))
    replace HV := qd (HV.out.mod (Mod.of_below hb []) (by simp) (by simp))
    replace HV0 := qd (HV0.out.mod (Mod.of_below hb []) (by simp))
    replace HL := qd (HL.out.mod (Mod.of_below hb []) (by simp))
    replace HR := qd (HR.out.mod (Mod.of_below hb []) (by simp))
    replace HM := qd (HM.out.mod (Mod.of_below hb []) (by simp))
    have z426 := (hb).size
    replace Hmod := qd (Hmod.out.then (Mod.of_below hb _))
    have HS := qd (hnew)
    clear hnew hb
    obtain ⟨dc0, dc1, dc2, dc3, dc4, dc5⟩ := HD.out.c6
    obtain ⟨lc0, lc1, lc2, lc3⟩ := HL.out.c4
    refine hK.out _ _ (fun _ => ⟨dc0, dc4, lc0, lc1, lc2, lc3⟩) ?_
    clear hK K
    try simp only [pt]
    refine nT 11 none rfl fun K hK => ?_
    obtain ⟨dc0, dc1, dc2, dc3, dc4, dc5⟩ := HD.out.c6
    obtain ⟨lc0, lc1, lc2, lc3⟩ := HL.out.c4
    obtain ⟨yc0, yc1, yc2, yc3, yc4, yc5, yc6⟩ := HS.out.c7
    obtain ⟨yf0, yf1, yf2, yf3, yf4, yf5, yf6⟩ := HS.out.f7
    go_simp
    have q427 := HD.out.lt
    have q428 := HT.out.ltT
    have q429 := HT.out.ltG
    have q430 := HTx.out.ltT
    have q431 := HTx.out.ltG
    have q432 := HV.out.lt
    have q433 := HV.out.ltV
    have q434 := HL.out.lt
    have q435 := HR.out.lt
    have q436 := HM.out.lt
    have q437 := HS.out.lt
    have hnew := (((((((HS.out.set_ 0 (.pointer (some ⟨b.1, 0, none⟩))).set_ 1 (.int .u64 (key : Int))).set_ 2 (.int .u64 (hash : Int))).set_ 3 (.pointer ap)).set_ 4 (.int .i64 s1)).set_ 5 (.pointer fp)).set_ 6 (.int .i64 s2))
    have hm := ((((((((Mod.refl [sb] v4).sl 0 (.pointer (some ⟨b.1, 0, none⟩))).sl 1 (.int .u64 (key : Int))).sl 2 (.int .u64 (hash : Int))).sl 3 (.pointer ap)).sl 4 (.int .i64 s1)).sl 5 (.pointer fp)).sl 6 (.int .i64 s2))
    simp only [List.setIfInBounds_toArray, List.set_cons_zero, List.set_cons_succ] at hnew
    refine nameM hnew hm ?_
    clear hnew hm
    rintro v5 ⟨hnew, hm⟩
    clear dc0 dc1 dc2 dc3 dc4 dc5 lc0 lc1 lc2 lc3 yc0 yc1 yc2 yc3 yc4 yc5 yc6 yf0 yf1 yf2 yf3 yf4 yf5 yf6
    replace HD := qd (HD.out.mod hm (by simp <;> omega))
    replace HT := qd (HT.out.mod hm (by simp <;> omega) (by simp <;> omega))
    replace HTx := qd (HTx.out.mod hm (by simp <;> omega) (by simp <;> omega))
    replace HV := qd (HV.out.mod hm (by simp <;> omega) (by simp <;> omega))
    replace HV0 := qd (HV0.out.mod hm (by intro k hk <;> simp at hk <;> omega))
    replace HL := qd (HL.out.mod hm (by simp <;> omega))
    replace HR := qd (HR.out.mod hm (by simp <;> omega))
    replace HM := qd (HM.out.mod hm (by simp <;> omega))
    have z438 := (hm).size
    replace Hmod := qd (Hmod.out.tr hm)
    replace HS := qd hnew
    clear hnew hm
    obtain ⟨dc0, dc1, dc2, dc3, dc4, dc5⟩ := HD.out.c6
    obtain ⟨lc0, lc1, lc2, lc3⟩ := HL.out.c4
    refine hK.out _ _ (fun _ => ⟨dc0, dc4, lc0, lc1, lc2, lc3⟩) ?_
    clear hK K
    try simp only [pt]
    refine doneT (by kernel_rfl) ?_ _
    have z439 := Hmod.out.size
    exact ⟨sb, ap, fp, rfl, HD.out, HT.out, HTx.out, HV.out, HV0.out, HL.out, HR.out, HM.out, HA.out, HF.out, HS.out, by omega, Hmod.out⟩
   ·obtain ⟨dc0, dc1, dc2, dc3, dc4, dc5⟩ := HD.out.c6
    obtain ⟨lc0, lc1, lc2, lc3⟩ := HL.out.c4
    go_simp
    have q514 := HD.out.lt
    have q515 := HT.out.ltT
    have q516 := HT.out.ltG
    have q517 := HTx.out.ltT
    have q518 := HTx.out.ltG
    have q519 := HV.out.lt
    have q520 := HV.out.ltV
    have q521 := HM.out.lt
    have q522 := HL.out.lt
    have q523 := HR.out.lt
    have z524 := Hmod.out.size
    refine nameB 142 #[.pointer none, .int .u64 0, .int .u64 0, .pointer none, .int .i64 0, .pointer none, .int .i64 0] ?_
    rintro v6 ⟨hnew, hb⟩
    obtain ⟨sb, hsb⟩ : ∃ sb, sb = v2.heap.size := ⟨_, rfl⟩
    rw [← hsb] at hnew ⊢
    replace hsb : v2.heap.size ≤ sb := by omega
    clear dc0 dc1 dc2 dc3 dc4 dc5 lc0 lc1 lc2 lc3
    replace HD := qd (HD.out.mod (Mod.of_below hb []) (by simp))
    replace HT := qd (HT.out.mod (Mod.of_below hb []) (by simp) (by simp))
    replace HTx := qd (HTx.out.mod (Mod.of_below hb []) (by simp) (by simp))
    replace HV := qd (HV.out.mod (Mod.of_below hb []) (by simp) (by simp))
    replace HV0 := qd (HV0.out.mod (Mod.of_below hb []) (by simp))
    replace HM := qd (HM.out.mod (Mod.of_below hb []) (by simp))
    replace HL := qd (HL.out.mod (Mod.of_below hb []) (by simp))
    replace HR := qd (HR.out.mod (Mod.of_below hb []) (by simp))
    have z525 := (hb).size
    replace Hmod := qd (Hmod.out.then (Mod.of_below hb _))
    have HS := qd (hnew)
    clear hnew hb
    obtain ⟨dc0, dc1, dc2, dc3, dc4, dc5⟩ := HD.out.c6
    obtain ⟨lc0, lc1, lc2, lc3⟩ := HL.out.c4
    refine hK.out _ _ (fun _ => ⟨dc0, dc4, lc0, lc1, lc2, lc3⟩) ?_
    clear hK K
    try simp only [pt]
    refine nT 9 (some 46) rfl fun K hK => ?_
    obtain ⟨dc0, dc1, dc2, dc3, dc4, dc5⟩ := HD.out.c6
    obtain ⟨lc0, lc1, lc2, lc3⟩ := HL.out.c4
    go_simp
    have HSk := qd (seek_at b.1 b.2 key hash Tx P x c v6 HTx.out hpx h64 HM.out (by omega) (by omega) HV0.out hb0)
    rw [← HS1.out, ← HS2.out, ← HI1.out, ← HI2.out] at HSk
    unfold spotV tabP lensV at HSk
    refine (HSk.out).mono ?_
    rintro y v7 ⟨ap, fp, rfl, hap, hfp, hM2, hm⟩
    clear HSk
    clear HM
    clear dc0 dc1 dc2 dc3 dc4 dc5 lc0 lc1 lc2 lc3
    replace HD := qd (HD.out.mod hm (by simp <;> omega))
    replace HT := qd (HT.out.mod hm (by simp <;> omega) (by simp <;> omega))
    replace HTx := qd (HTx.out.mod hm (by simp <;> omega) (by simp <;> omega))
    replace HV := qd (HV.out.mod hm (by simp <;> omega) (by simp <;> omega))
    replace HV0 := qd (HV0.out.mod hm (by intro k hk <;> simp at hk <;> omega))
    replace HL := qd (HL.out.mod hm (by simp <;> omega))
    replace HR := qd (HR.out.mod hm (by simp <;> omega))
    replace HS := qd (HS.out.mod hm (by simp <;> omega))
    have z526 := (hm).size
    replace Hmod := qd (Hmod.out.tr hm)
    clear hm
    have HM := qd (hM2)
    have HA := qd (hap)
    have HF := qd (hfp)
    obtain ⟨dc0, dc1, dc2, dc3, dc4, dc5⟩ := HD.out.c6
    obtain ⟨lc0, lc1, lc2, lc3⟩ := HL.out.c4
    go_wp2_with fail
    refine hK.out _ _ (fun _ => ⟨dc0, dc4, lc0, lc1, lc2, lc3⟩) ?_
    clear hK K
    try simp only [pt]
    refine nT 11 none rfl fun K hK => ?_
    obtain ⟨dc0, dc1, dc2, dc3, dc4, dc5⟩ := HD.out.c6
    obtain ⟨lc0, lc1, lc2, lc3⟩ := HL.out.c4
    obtain ⟨yc0, yc1, yc2, yc3, yc4, yc5, yc6⟩ := HS.out.c7
    obtain ⟨yf0, yf1, yf2, yf3, yf4, yf5, yf6⟩ := HS.out.f7
    go_simp
    have q527 := HD.out.lt
    have q528 := HT.out.ltT
    have q529 := HT.out.ltG
    have q530 := HTx.out.ltT
    have q531 := HTx.out.ltG
    have q532 := HV.out.lt
    have q533 := HV.out.ltV
    have q534 := HL.out.lt
    have q535 := HR.out.lt
    have q536 := HS.out.lt
    have q537 := HM.out.lt
    have hnew := (((((((HS.out.set_ 0 (.pointer (some ⟨b.1, 0, none⟩))).set_ 1 (.int .u64 (key : Int))).set_ 2 (.int .u64 (hash : Int))).set_ 3 (.pointer ap)).set_ 4 (.int .i64 s1)).set_ 5 (.pointer fp)).set_ 6 (.int .i64 s2))
    have hm := ((((((((Mod.refl [sb] v7).sl 0 (.pointer (some ⟨b.1, 0, none⟩))).sl 1 (.int .u64 (key : Int))).sl 2 (.int .u64 (hash : Int))).sl 3 (.pointer ap)).sl 4 (.int .i64 s1)).sl 5 (.pointer fp)).sl 6 (.int .i64 s2))
    simp only [List.setIfInBounds_toArray, List.set_cons_zero, List.set_cons_succ] at hnew
    refine nameM hnew hm ?_
    clear hnew hm
    rintro v8 ⟨hnew, hm⟩
    clear dc0 dc1 dc2 dc3 dc4 dc5 lc0 lc1 lc2 lc3 yc0 yc1 yc2 yc3 yc4 yc5 yc6 yf0 yf1 yf2 yf3 yf4 yf5 yf6
    replace HD := qd (HD.out.mod hm (by simp <;> omega))
    replace HT := qd (HT.out.mod hm (by simp <;> omega) (by simp <;> omega))
    replace HTx := qd (HTx.out.mod hm (by simp <;> omega) (by simp <;> omega))
    replace HV := qd (HV.out.mod hm (by simp <;> omega) (by simp <;> omega))
    replace HV0 := qd (HV0.out.mod hm (by intro k hk <;> simp at hk <;> omega))
    replace HL := qd (HL.out.mod hm (by simp <;> omega))
    replace HR := qd (HR.out.mod hm (by simp <;> omega))
    replace HM := qd (HM.out.mod hm (by simp <;> omega))
    have z538 := (hm).size
    replace Hmod := qd (Hmod.out.tr hm)
    replace HS := qd hnew
    clear hnew hm
    obtain ⟨dc0, dc1, dc2, dc3, dc4, dc5⟩ := HD.out.c6
    obtain ⟨lc0, lc1, lc2, lc3⟩ := HL.out.c4
    refine hK.out _ _ (fun _ => ⟨dc0, dc4, lc0, lc1, lc2, lc3⟩) ?_
    clear hK K
    try simp only [pt]
    refine doneT (by kernel_rfl) ?_ _
    have z539 := Hmod.out.size
    exact ⟨sb, ap, fp, rfl, HD.out, HT.out, HTx.out, HV.out, HV0.out, HL.out, HR.out, HM.out, HA.out, HF.out, HS.out, by omega, Hmod.out⟩
  ·obtain ⟨dc0, dc1, dc2, dc3, dc4, dc5⟩ := HD.out.c6
   obtain ⟨lc0, lc1, lc2, lc3⟩ := HL.out.c4
   go_simp
   have q413 := HD.out.lt
   have q414 := HT.out.ltT
   have q415 := HT.out.ltG
   have q416 := HTx.out.ltT
   have q417 := HTx.out.ltG
   have q418 := HV.out.lt
   have q419 := HV.out.ltV
   have q420 := HM.out.lt
   have q421 := HL.out.lt
   have q422 := HR.out.lt
   have z423 := Hmod.out.size
   refine nameB 142 #[.pointer none, .int .u64 0, .int .u64 0, .pointer none, .int .i64 0, .pointer none, .int .i64 0] ?_
   rintro v9 ⟨hnew, hb⟩
   obtain ⟨sb, hsb⟩ : ∃ sb, sb = v1.heap.size := ⟨_, rfl⟩
   rw [← hsb] at hnew ⊢
   replace hsb : v1.heap.size ≤ sb := by omega
   clear dc0 dc1 dc2 dc3 dc4 dc5 lc0 lc1 lc2 lc3
   replace HD := qd (HD.out.mod (Mod.of_below hb []) (by simp))
   replace HT := qd (HT.out.mod (Mod.of_below hb []) (by simp) (by simp))
   replace HTx := qd (HTx.out.mod (Mod.of_below hb []) (by simp) (by simp))
   replace HV := qd (HV.out.mod (Mod.of_below hb []) (by simp) (by simp))
   replace HV0 := qd (HV0.out.mod (Mod.of_below hb []) (by simp))
   replace HM := qd (HM.out.mod (Mod.of_below hb []) (by simp))
   replace HL := qd (HL.out.mod (Mod.of_below hb []) (by simp))
   replace HR := qd (HR.out.mod (Mod.of_below hb []) (by simp))
   have z424 := (hb).size
   replace Hmod := qd (Hmod.out.then (Mod.of_below hb _))
   have HS := qd (hnew)
   clear hnew hb
   obtain ⟨dc0, dc1, dc2, dc3, dc4, dc5⟩ := HD.out.c6
   obtain ⟨lc0, lc1, lc2, lc3⟩ := HL.out.c4
   refine hK.out _ _ (fun _ => ⟨dc0, dc4, lc0, lc1, lc2, lc3⟩) ?_
   clear hK K
   try simp only [pt]
   refine nT 5 (some 42) rfl fun K hK => ?_
   obtain ⟨dc0, dc1, dc2, dc3, dc4, dc5⟩ := HD.out.c6
   obtain ⟨lc0, lc1, lc2, lc3⟩ := HL.out.c4
   go_simp
   refine (HTg.out _ HV.out).mono ?_
   rintro y v10 ⟨rfl, hb⟩
   clear dc0 dc1 dc2 dc3 dc4 dc5 lc0 lc1 lc2 lc3
   replace HD := qd (HD.out.mod (Mod.of_below hb []) (by simp))
   replace HT := qd (HT.out.mod (Mod.of_below hb []) (by simp) (by simp))
   replace HTx := qd (HTx.out.mod (Mod.of_below hb []) (by simp) (by simp))
   replace HV := qd (HV.out.mod (Mod.of_below hb []) (by simp) (by simp))
   replace HV0 := qd (HV0.out.mod (Mod.of_below hb []) (by simp))
   replace HM := qd (HM.out.mod (Mod.of_below hb []) (by simp))
   replace HL := qd (HL.out.mod (Mod.of_below hb []) (by simp))
   replace HR := qd (HR.out.mod (Mod.of_below hb []) (by simp))
   replace HS := qd (HS.out.mod (Mod.of_below hb []) (by simp))
   have z425 := (hb).size
   replace Hmod := qd (Hmod.out.then (Mod.of_below hb _))
   clear hb
   obtain ⟨dc0, dc1, dc2, dc3, dc4, dc5⟩ := HD.out.c6
   obtain ⟨lc0, lc1, lc2, lc3⟩ := HL.out.c4
   go_wp2_with fail
   refine hK.out _ _ (fun _ => ⟨dc0, dc4, lc0, lc1, lc2, lc3⟩) ?_
   clear hK K
   try simp only [pt]
   refine nT 9 (some 46) rfl fun K hK => ?_
   obtain ⟨dc0, dc1, dc2, dc3, dc4, dc5⟩ := HD.out.c6
   obtain ⟨lc0, lc1, lc2, lc3⟩ := HL.out.c4
   go_simp
   have HSk := qd (seek_at b.1 b.2 key hash Tx P x c v10 HTx.out hpx h64 HM.out (by omega) (by omega) HV0.out hb0)
   rw [← HS1.out, ← HS2.out, ← HI1.out, ← HI2.out] at HSk
   unfold spotV tabP lensV at HSk
   refine (HSk.out).mono ?_
   rintro y v11 ⟨ap, fp, rfl, hap, hfp, hM2, hm⟩
   clear HSk
   clear HM
   clear dc0 dc1 dc2 dc3 dc4 dc5 lc0 lc1 lc2 lc3
   replace HD := qd (HD.out.mod hm (by simp <;> omega))
   replace HT := qd (HT.out.mod hm (by simp <;> omega) (by simp <;> omega))
   replace HTx := qd (HTx.out.mod hm (by simp <;> omega) (by simp <;> omega))
   replace HV := qd (HV.out.mod hm (by simp <;> omega) (by simp <;> omega))
   replace HV0 := qd (HV0.out.mod hm (by intro k hk <;> simp at hk <;> omega))
   replace HL := qd (HL.out.mod hm (by simp <;> omega))
   replace HR := qd (HR.out.mod hm (by simp <;> omega))
   replace HS := qd (HS.out.mod hm (by simp <;> omega))
   have z426 := (hm).size
   replace Hmod := qd (Hmod.out.tr hm)
   clear hm
   have HM := qd (hM2)
   have HA := qd (hap)
   have HF := qd (hfp)
   obtain ⟨dc0, dc1, dc2, dc3, dc4, dc5⟩ := HD.out.c6
   obtain ⟨lc0, lc1, lc2, lc3⟩ := HL.out.c4
   go_wp2_with fail
   refine hK.out _ _ (fun _ => ⟨dc0, dc4, lc0, lc1, lc2, lc3⟩) ?_
   clear hK K
   try simp only [pt]
   refine nT 11 none rfl fun K hK => ?_
   obtain ⟨dc0, dc1, dc2, dc3, dc4, dc5⟩ := HD.out.c6
   obtain ⟨lc0, lc1, lc2, lc3⟩ := HL.out.c4
   obtain ⟨yc0, yc1, yc2, yc3, yc4, yc5, yc6⟩ := HS.out.c7
   obtain ⟨yf0, yf1, yf2, yf3, yf4, yf5, yf6⟩ := HS.out.f7
   go_simp
   have q427 := HD.out.lt
   have q428 := HT.out.ltT
   have q429 := HT.out.ltG
   have q430 := HTx.out.ltT
   have q431 := HTx.out.ltG
   have q432 := HV.out.lt
   have q433 := HV.out.ltV
   have q434 := HL.out.lt
   have q435 := HR.out.lt
   have q436 := HS.out.lt
   have q437 := HM.out.lt
   have hnew := (((((((HS.out.set_ 0 (.pointer (some ⟨b.1, 0, none⟩))).set_ 1 (.int .u64 (key : Int))).set_ 2 (.int .u64 (hash : Int))).set_ 3 (.pointer ap)).set_ 4 (.int .i64 s1)).set_ 5 (.pointer fp)).set_ 6 (.int .i64 s2))
   have hm := ((((((((Mod.refl [sb] v11).sl 0 (.pointer (some ⟨b.1, 0, none⟩))).sl 1 (.int .u64 (key : Int))).sl 2 (.int .u64 (hash : Int))).sl 3 (.pointer ap)).sl 4 (.int .i64 s1)).sl 5 (.pointer fp)).sl 6 (.int .i64 s2))
   simp only [List.setIfInBounds_toArray, List.set_cons_zero, List.set_cons_succ] at hnew
   refine nameM hnew hm ?_
   clear hnew hm
   rintro v12 ⟨hnew, hm⟩
   clear dc0 dc1 dc2 dc3 dc4 dc5 lc0 lc1 lc2 lc3 yc0 yc1 yc2 yc3 yc4 yc5 yc6 yf0 yf1 yf2 yf3 yf4 yf5 yf6
   replace HD := qd (HD.out.mod hm (by simp <;> omega))
   replace HT := qd (HT.out.mod hm (by simp <;> omega) (by simp <;> omega))
   replace HTx := qd (HTx.out.mod hm (by simp <;> omega) (by simp <;> omega))
   replace HV := qd (HV.out.mod hm (by simp <;> omega) (by simp <;> omega))
   replace HV0 := qd (HV0.out.mod hm (by intro k hk <;> simp at hk <;> omega))
   replace HL := qd (HL.out.mod hm (by simp <;> omega))
   replace HR := qd (HR.out.mod hm (by simp <;> omega))
   replace HM := qd (HM.out.mod hm (by simp <;> omega))
   have z438 := (hm).size
   replace Hmod := qd (Hmod.out.tr hm)
   replace HS := qd hnew
   clear hnew hm
   obtain ⟨dc0, dc1, dc2, dc3, dc4, dc5⟩ := HD.out.c6
   obtain ⟨lc0, lc1, lc2, lc3⟩ := HL.out.c4
   refine hK.out _ _ (fun _ => ⟨dc0, dc4, lc0, lc1, lc2, lc3⟩) ?_
   clear hK K
   try simp only [pt]
   refine doneT (by kernel_rfl) ?_ _
   have z439 := Hmod.out.size
   exact ⟨sb, ap, fp, rfl, HD.out, HT.out, HTx.out, HV.out, HV0.out, HL.out, HR.out, HM.out, HA.out, HF.out, HS.out, by omega, Hmod.out⟩
 clear dc0 dc1 dc2 dc3 dc4 dc5 lc0 lc1 lc2 lc3
 clear HD
 clear HT
 clear HTx
 clear HV
 clear HV0
 clear HM
 clear HL
 clear HR
 clear Hmod
 rintro a' w2 ⟨sb, ap, fp, rfl, m_D, m_T, m_Tx, m_V, m_V0, m_L, m_R, m_M, m_A, m_F, m_box, hle_sb, m_mod⟩
 simp only [List.cons_append, List.nil_append, List.append_assoc]
 have HD := qd (m_D)
 have HT := qd (m_T)
 have HTx := qd (m_Tx)
 have HV := qd (m_V)
 have HV0 := qd (m_V0)
 have HL := qd (m_L)
 have HR := qd (m_R)
 have HM := qd (m_M)
 have HA := qd (m_A)
 have HF := qd (m_F)
 have HS := qd (m_box)
 have Hmod := qd (m_mod)
 clear m_D m_T m_Tx m_V m_V0 m_L m_R m_M m_A m_F m_box m_mod
 obtain ⟨fb1, hfb⟩ : ∃ b, b = sk1.isSome := ⟨_, rfl⟩
 have HFB := qd hfb
 clear hfb
 go_upto_region 6 with fail
 obtain ⟨sc0, sc1, sc2, sc3, sc4, sc5, sc6⟩ := HS.out.c7
 have HEn := qd (spot_Entry b.1 b.2 key hash Tx ap fp s2 (by rw [← HS1.out]; exact HA.out) w2 HTx.out)
 unfold foundE at HEn
 rw [← HS1.out, ← HI1.out] at HEn
 unfold spotV optE entV at HEn
 simp only [Option.isSome_map] at HEn
 obtain ⟨fe, hfe⟩ : ∃ fe, fe = ((sk1.map fun x => (slotAt Tx.gs x.1 x.2).ent).getD ⟨0, 0, 0⟩) := ⟨_, rfl⟩
 rw [← hfe] at HEn
 clear hfe
 rw [← HFB.out] at HEn
 go_wp2_with fail
 refine (HEn.out).mono ?_
 rintro x w3 ⟨rfl, hb⟩
 clear sc0 sc1 sc2 sc3 sc4 sc5 sc6
 replace HD := qd (HD.out.mod (Mod.of_below hb []) (by simp))
 replace HT := qd (HT.out.mod (Mod.of_below hb []) (by simp) (by simp))
 replace HTx := qd (HTx.out.mod (Mod.of_below hb []) (by simp) (by simp))
 replace HV := qd (HV.out.mod (Mod.of_below hb []) (by simp) (by simp))
 replace HV0 := qd (HV0.out.mod (Mod.of_below hb []) (by simp))
 replace HL := qd (HL.out.mod (Mod.of_below hb []) (by simp))
 replace HR := qd (HR.out.mod (Mod.of_below hb []) (by simp))
 replace HM := qd (HM.out.mod (Mod.of_below hb []) (by simp))
 replace HS := qd (HS.out.mod (Mod.of_below hb []) (by simp))
 have z12 := (hb).size
 replace Hmod := qd (Hmod.out.then (Mod.of_below hb _))
 clear hb
 clear HEn
 go_upto_region 7 with fail
 have q13 := HD.out.lt
 have q14 := HT.out.ltT
 have q15 := HT.out.ltG
 have q16 := HTx.out.ltT
 have q17 := HTx.out.ltG
 have q18 := HV.out.lt
 have q19 := HV.out.ltV
 have q20 := HL.out.lt
 have q21 := HR.out.lt
 have q22 := HM.out.lt
 have q23 := HS.out.lt
 have z24 := Hmod.out.size
 refine nameB 37 #[.int .u64 (fe.key : Int), .int .u64 (fe.val : Int), .int .u64 (fe.hash : Int)] ?_
 rintro w4 ⟨hnew, hb⟩
 replace HD := qd (HD.out.mod (Mod.of_below hb []) (by simp))
 replace HT := qd (HT.out.mod (Mod.of_below hb []) (by simp) (by simp))
 replace HTx := qd (HTx.out.mod (Mod.of_below hb []) (by simp) (by simp))
 replace HV := qd (HV.out.mod (Mod.of_below hb []) (by simp) (by simp))
 replace HV0 := qd (HV0.out.mod (Mod.of_below hb []) (by simp))
 replace HL := qd (HL.out.mod (Mod.of_below hb []) (by simp))
 replace HR := qd (HR.out.mod (Mod.of_below hb []) (by simp))
 replace HM := qd (HM.out.mod (Mod.of_below hb []) (by simp))
 replace HS := qd (HS.out.mod (Mod.of_below hb []) (by simp))
 have z25 := (hb).size
 replace Hmod := qd (Hmod.out.then (Mod.of_below hb _))
 have HY := qd (hnew)
 clear hnew hb
 cases fb1 with
 | true =>
  obtain ⟨sc0, sc1, sc2, sc3, sc4, sc5, sc6⟩ := HS.out.c7
  obtain ⟨rc0, rc1, rc2, rc3, rc4, rc5, rc6⟩ := HR.out.c7
  obtain ⟨rf0, rf1, rf2, rf3, rf4, rf5, rf6⟩ := HR.out.f7
  go_wp2
  have q2026 := HD.out.lt
  have q2027 := HT.out.ltT
  have q2028 := HT.out.ltG
  have q2029 := HTx.out.ltT
  have q2030 := HTx.out.ltG
  have q2031 := HV.out.lt
  have q2032 := HV.out.ltV
  have q2033 := HL.out.lt
  have q2034 := HR.out.lt
  have q2035 := HM.out.lt
  have q2036 := HS.out.lt
  have q2037 := HY.out.lt
  have hnew := (((((((HR.out.set_ 0 (.pointer (some ⟨b.1, 0, none⟩))).set_ 1 (.int .u64 (key : Int))).set_ 2 (.int .u64 (hash : Int))).set_ 3 (.pointer ap)).set_ 4 (.int .i64 s1)).set_ 5 (.pointer fp)).set_ 6 (.int .i64 s2))
  have hm := ((((((((Mod.refl [(w.heap.size + 1)] w4).sl 0 (.pointer (some ⟨b.1, 0, none⟩))).sl 1 (.int .u64 (key : Int))).sl 2 (.int .u64 (hash : Int))).sl 3 (.pointer ap)).sl 4 (.int .i64 s1)).sl 5 (.pointer fp)).sl 6 (.int .i64 s2))
  simp only [List.setIfInBounds_toArray, List.set_cons_zero, List.set_cons_succ] at hnew
  refine nameW (F := fun v => Blk v (w.heap.size + 1) 142 #[.pointer (some ⟨b.1, 0, none⟩), .int .u64 (key : Int), .int .u64 (hash : Int), .pointer ap, .int .i64 s1, .pointer fp, .int .i64 s2] ∧ Mod [(w.heap.size + 1)] w4 v) ⟨hnew, hm⟩ ?_
  clear hnew hm
  rintro w9 ⟨hnew, hm⟩
  clear sc0 sc1 sc2 sc3 sc4 sc5 sc6 rc0 rc1 rc2 rc3 rc4 rc5 rc6 rf0 rf1 rf2 rf3 rf4 rf5 rf6
  replace HD := qd (HD.out.mod hm (by simp <;> omega))
  replace HT := qd (HT.out.mod hm (by simp <;> omega) (by simp <;> omega))
  replace HTx := qd (HTx.out.mod hm (by simp <;> omega) (by simp <;> omega))
  replace HV := qd (HV.out.mod hm (by simp <;> omega) (by simp <;> omega))
  replace HV0 := qd (HV0.out.mod hm (by intro k hk <;> simp at hk <;> omega))
  replace HL := qd (HL.out.mod hm (by simp <;> omega))
  replace HM := qd (HM.out.mod hm (by simp <;> omega))
  replace HS := qd (HS.out.mod hm (by simp <;> omega))
  replace HY := qd (HY.out.mod hm (by simp <;> omega))
  have z2038 := (hm).size
  replace Hmod := qd (Hmod.out.tr hm)
  replace HR := qd hnew
  clear hnew hm
  obtain ⟨rx0, rx1, rx2, rx3, rx4, rx5, rx6⟩ := HR.out.c7
  refine bodyPost_ret (v := .tuple #[.agg #[.pointer (some ⟨b.1, 0, none⟩), .int .u64 (key : Int), .int .u64 (hash : Int), .pointer ap, .int .i64 s1, .pointer fp, .int .i64 s2], .bool true]) (by simp [results, Tryz.results94, go_sem, rx0, rx1, rx2, rx3, rx4, rx5, rx6]) rfl ?_
  have hg := HGa.out
  rw [← HS1.out, ← HFB.out] at hg
  simp only [if_true] at hg
  obtain ⟨rfl, rfl, rfl, rfl⟩ := hg
  exact ⟨ap, fp, by rw [← HS1.out, ← HS2.out, ← HI1.out, ← HI2.out, ← HFB.out], by rw [← HS1.out]; exact HA.out, by rw [← HS2.out]; exact HF.out, HM.out, Hmod.out⟩
 | false =>
  go_upto_region 9 with fail
  obtain ⟨dc0, dc1, dc2, dc3, dc4, dc5⟩ := HD.out.c6
  obtain ⟨lc0, lc1, lc2, lc3⟩ := HL.out.c4
  have q3026 := HD.out.lt
  have q3027 := HT.out.ltT
  have q3028 := HT.out.ltG
  have q3029 := HTx.out.ltT
  have q3030 := HTx.out.ltG
  have q3031 := HV.out.lt
  have q3032 := HV.out.ltV
  have q3033 := HL.out.lt
  have q3034 := HR.out.lt
  have q3035 := HM.out.lt
  have q3036 := HS.out.lt
  have q3037 := HY.out.lt
  have z3038 := Hmod.out.size
  refine cutT (fun a' wz => ∃ sb2 aq fq, a' = { tmps := ([.pointer (some ⟨db, 0, none⟩), .agg #[.pointer (some ⟨P.mb, P.mo, none⟩), .int .i64 c.p, .int .i64 c.v, .int .i64 c.u], .int .u64 (key : Int), .int .u64 (hash : Int), undef, .pointer (some ⟨w.heap.size, 0, none⟩), undef, undef, .pointer (some ⟨w.heap.size + 1, 0, none⟩), .bool false, undef, undef, undef, .pointer (some ⟨sb, 0, none⟩), .pointer (some ⟨w3.heap.size, 0, none⟩), .bool false, .pointer (some ⟨sb2, 0, none⟩), undef, undef, .pointer (some ⟨db, 0, none⟩), .bool true, .bool false, undef, undef, undef, undef, undef, undef, undef, undef, undef, undef, undef, undef, undef, undef, undef, .pointer (some ⟨db, 0, none⟩), .pointer (some ⟨db, 0, none⟩), .pointer (some ⟨db, 4, none⟩)] ++ [.pointer (some ⟨eb, 0, none⟩), .int .u64 (hash : Int), .pointer (some ⟨b.1, 0, none⟩), .agg #[.pointer (some ⟨P.mb, P.mo, none⟩), .int .i64 c.p, .int .i64 c.v, .int .i64 c.u], .int .u64 (key : Int), .int .u64 (hash : Int), .agg #[.pointer (some ⟨b.1, 0, none⟩), .int .u64 (key : Int), .int .u64 (hash : Int), .pointer ap, .int .i64 s1, .pointer fp, .int .i64 s2], .tuple #[.agg #[.int .u64 (fe.key : Int), .int .u64 (fe.val : Int), .int .u64 (fe.hash : Int)], .bool false], .agg #[.pointer (some ⟨b.1, 0, none⟩), .int .u64 (key : Int), .int .u64 (hash : Int), .pointer ap, .int .i64 s1, .pointer fp, .int .i64 s2], .tuple #[.agg #[.int .u64 (fe.key : Int), .int .u64 (fe.val : Int), .int .u64 (fe.hash : Int)], .bool false], .agg #[.int .u64 (fe.key : Int), .int .u64 (fe.val : Int), .int .u64 (fe.hash : Int)], .bool false, .bool false, undef, .pointer (some ⟨db, 0, none⟩), .pointer (some ⟨db, 0, none⟩), .pointer (some ⟨db, 0, none⟩), .pointer (some ⟨ob, 0, none⟩), .agg #[.pointer (some ⟨P.mb, P.mo, none⟩), .int .i64 c.p, .int .i64 c.v, .int .i64 c.u], .int .u64 (key : Int), .int .u64 (hash : Int), .agg #[.pointer (some ⟨ob, 0, none⟩), .int .u64 (key : Int), .int .u64 (hash : Int), .pointer aq, .int .i64 o1, .pointer fq, .int .i64 o2], undef, undef, undef, undef, undef, undef, undef, undef]).toArray, defers := [] } ∧ Blk wz db 215 #[.pointer (some ⟨ob, 0, none⟩), .int .i64 (depth : Int), .slice (some ⟨rb, 0, none⟩) bbs.length cap, .slice (some ⟨fb, 0, none⟩) bs.length fcap, .pointer (some ⟨eb, 0, none⟩), .bool false] ∧ TabAt wz ob og T ∧ TabAt wz b.1 b.2 Tx ∧ EvAt wz eb ob vb vcap (bs.map Prod.fst) depth next ∧ Env W0 E wz ∧ Blk wz w.heap.size 89 #[.pointer (some ⟨P.mb, P.mo, none⟩), .int .i64 c.p, .int .i64 c.v, .int .i64 c.u] ∧ Blk wz (w.heap.size + 1) 142 #[.pointer none, .int .u64 0, .int .u64 0, .pointer none, .int .i64 0, .pointer none, .int .i64 0] ∧ PtrOf b.2 sk1 ap ∧ PtrOf b.2 sk2 fp ∧ Blk wz sb 142 #[.pointer (some ⟨b.1, 0, none⟩), .int .u64 (key : Int), .int .u64 (hash : Int), .pointer ap, .int .i64 s1, .pointer fp, .int .i64 s2] ∧ Blk wz w3.heap.size 37 #[.int .u64 (fe.key : Int), .int .u64 (fe.val : Int), .int .u64 (fe.hash : Int)] ∧ MetP wz P ((x.add c (seek Tx.gs key hash).2.2).add c (seek T.gs key hash).2.2) ∧ PtrOf og ok1 aq ∧ PtrOf og ok2 fq ∧ Blk wz sb2 142 #[.pointer (some ⟨ob, 0, none⟩), .int .u64 (key : Int), .int .u64 (hash : Int), .pointer aq, .int .i64 o1, .pointer fq, .int .i64 o2] ∧ w4.heap.size ≤ sb2 ∧ Mod ([P.mb]) w wz) ?_ ?_
  ·refine region_T (fun (w' : World) => w'.cell? ⟨db, 0, none⟩ = some (.pointer (some ⟨ob, 0, none⟩)) ∧ w'.cell? ⟨db, 4, none⟩ = some (.pointer (some ⟨eb, 0, none⟩)) ∧ w'.cell? ⟨w.heap.size, 0, none⟩ = some (.pointer (some ⟨P.mb, P.mo, none⟩)) ∧ w'.cell? ⟨w.heap.size, 1, none⟩ = some (.int .i64 c.p) ∧ w'.cell? ⟨w.heap.size, 2, none⟩ = some (.int .i64 c.v) ∧ w'.cell? ⟨w.heap.size, 3, none⟩ = some (.int .i64 c.u)) [] (by kernel_rfl) ?_
   try (change wpAnyT _ _ _ _ _ _ _ _ _ (World.drew _))
   have hHeld := (⟨dc0, dc4, lc0, lc1, lc2, lc3⟩ : _ ∧ _ ∧ _ ∧ _ ∧ _ ∧ _)
   refine tW 0 (some 54) (.pointer (some ⟨db, 0, none⟩)) rfl hHeld ?_
   try simp only [pt]
   refine tW 1 (some 55) (.pointer (some ⟨db, 0, none⟩)) rfl hHeld ?_
   try simp only [pt]
   refine tW 2 (some 56) (.pointer (some ⟨db, 0, none⟩)) rfl hHeld ?_
   try simp only [pt]
   refine tT 3 (some 57) (.pointer (some ⟨ob, 0, none⟩)) rfl (by rintro w ⟨hh0, hh1, hh2, hh3, hh4, hh5⟩; go_simp) hHeld ?_
   try simp only [pt]
   refine tT 4 (some 58) (.agg #[.pointer (some ⟨P.mb, P.mo, none⟩), .int .i64 c.p, .int .i64 c.v, .int .i64 c.u]) rfl (by rintro w ⟨hh0, hh1, hh2, hh3, hh4, hh5⟩; go_simp) hHeld ?_
   try simp only [pt]
   refine tW 5 (some 59) (.int .u64 (key : Int)) rfl hHeld ?_
   try simp only [pt]
   refine tW 6 (some 60) (.int .u64 (hash : Int)) rfl hHeld ?_
   try simp only [pt]
   clear hHeld
   refine nameW (F := fun v => Mod [] w4 v) (Mod.drewN [] w4 1) ?_
   rintro v1 hm
   clear dc0 dc1 dc2 dc3 dc4 dc5 lc0 lc1 lc2 lc3
   replace HD := qd (HD.out.mod hm (by simp))
   replace HT := qd (HT.out.mod hm (by simp) (by simp))
   replace HTx := qd (HTx.out.mod hm (by simp) (by simp))
   replace HV := qd (HV.out.mod hm (by simp) (by simp))
   replace HV0 := qd (HV0.out.mod hm (by intro k hk <;> simp at hk <;> omega))
   replace HL := qd (HL.out.mod hm (by simp))
   replace HR := qd (HR.out.mod hm (by simp))
   replace HM := qd (HM.out.mod hm (by simp))
   replace HS := qd (HS.out.mod hm (by simp))
   replace HY := qd (HY.out.mod hm (by simp))
   have z3239 := (hm).size
   replace Hmod := qd (Hmod.out.tr hm)
   clear hm
   refine pairT (i := 7) (j := 8) (o := ⟨some 61, _, _, _, _, _⟩) (o' := ⟨some 16, _, _, _, _, _⟩) rfl rfl (by kernel_rfl) (fun K hK => ?_) (fun K hK => ?_)
   ·obtain ⟨dc0, dc1, dc2, dc3, dc4, dc5⟩ := HD.out.c6
    obtain ⟨lc0, lc1, lc2, lc3⟩ := HL.out.c4
    go_simp
    have HSk := qd (seek_at ob og key hash T P (x.add c (seek Tx.gs key hash).2.2) c v1 HT.out hok h64 HM.out (by omega) (by omega) HV0.out hb0)
    rw [← HO1.out, ← HO2.out, ← HJ1.out, ← HJ2.out] at HSk
    unfold spotV tabP lensV at HSk
    refine (HSk.out).mono ?_
    rintro y v2 ⟨aq, fq, rfl, haq, hfq, hM2, hm⟩
    clear HSk
    clear HM
    clear dc0 dc1 dc2 dc3 dc4 dc5 lc0 lc1 lc2 lc3
    replace HD := qd (HD.out.mod hm (by simp <;> omega))
    replace HT := qd (HT.out.mod hm (by simp <;> omega) (by simp <;> omega))
    replace HTx := qd (HTx.out.mod hm (by simp <;> omega) (by simp <;> omega))
    replace HV := qd (HV.out.mod hm (by simp <;> omega) (by simp <;> omega))
    replace HV0 := qd (HV0.out.mod hm (by intro k hk <;> simp at hk <;> omega))
    replace HL := qd (HL.out.mod hm (by simp <;> omega))
    replace HR := qd (HR.out.mod hm (by simp <;> omega))
    replace HS := qd (HS.out.mod hm (by simp <;> omega))
    replace HY := qd (HY.out.mod hm (by simp <;> omega))
    have z3340 := (hm).size
    replace Hmod := qd (Hmod.out.tr hm)
    clear hm
    have HM := qd (hM2)
    have HB := qd (haq)
    have HG := qd (hfq)
    obtain ⟨dc0, dc1, dc2, dc3, dc4, dc5⟩ := HD.out.c6
    obtain ⟨lc0, lc1, lc2, lc3⟩ := HL.out.c4
    go_wp2_with fail
    refine hK.out _ _ (fun _ => ⟨dc0, dc4, lc0, lc1, lc2, lc3⟩) ?_
    clear hK K
    try simp only [pt]
    refine nT 8 (some 16) rfl fun K hK => ?_
    obtain ⟨dc0, dc1, dc2, dc3, dc4, dc5⟩ := HD.out.c6
    obtain ⟨lc0, lc1, lc2, lc3⟩ := HL.out.c4
    go_simp
    have q3341 := HD.out.lt
    have q3342 := HT.out.ltT
    have q3343 := HT.out.ltG
    have q3344 := HTx.out.ltT
    have q3345 := HTx.out.ltG
    have q3346 := HV.out.lt
    have q3347 := HV.out.ltV
    have q3348 := HL.out.lt
    have q3349 := HR.out.lt
    have q3350 := HS.out.lt
    have q3351 := HY.out.lt
    have q3352 := HM.out.lt
    have z3353 := Hmod.out.size
    refine nameB 142 #[.pointer none, .int .u64 0, .int .u64 0, .pointer none, .int .i64 0, .pointer none, .int .i64 0] ?_
    rintro v3 ⟨hnew, hb⟩
    obtain ⟨sb2, hsb2⟩ : ∃ sb2, sb2 = v2.heap.size := ⟨_, rfl⟩
    rw [← hsb2] at hnew ⊢
    replace hsb2 : v2.heap.size ≤ sb2 := by omega
    clear dc0 dc1 dc2 dc3 dc4 dc5 lc0 lc1 lc2 lc3
    replace HD := qd (HD.out.mod (Mod.of_below hb []) (by simp))
    replace HT := qd (HT.out.mod (Mod.of_below hb []) (by simp) (by simp))
    replace HTx := qd (HTx.out.mod (Mod.of_below hb []) (by simp) (by simp))
    replace HV := qd (HV.out.mod (Mod.of_below hb []) (by simp) (by simp))
    replace HV0 := qd (HV0.out.mod (Mod.of_below hb []) (by simp))
    replace HL := qd (HL.out.mod (Mod.of_below hb []) (by simp))
    replace HR := qd (HR.out.mod (Mod.of_below hb []) (by simp))
    replace HS := qd (HS.out.mod (Mod.of_below hb []) (by simp))
    replace HY := qd (HY.out.mod (Mod.of_below hb []) (by simp))
    replace HM := qd (HM.out.mod (Mod.of_below hb []) (by simp))
    have z3354 := (hb).size
    replace Hmod := qd (Hmod.out.then (Mod.of_below hb _))
    have HS2 := qd (hnew)
    clear hnew hb
    obtain ⟨dc0, dc1, dc2, dc3, dc4, dc5⟩ := HD.out.c6
    obtain ⟨lc0, lc1, lc2, lc3⟩ := HL.out.c4
    refine hK.out _ _ (fun _ => ⟨dc0, dc4, lc0, lc1, lc2, lc3⟩) ?_
    clear hK K
    try simp only [pt]
    refine nT 9 none rfl fun K hK => ?_
    obtain ⟨dc0, dc1, dc2, dc3, dc4, dc5⟩ := HD.out.c6
    obtain ⟨lc0, lc1, lc2, lc3⟩ := HL.out.c4
    obtain ⟨yc0, yc1, yc2, yc3, yc4, yc5, yc6⟩ := HS2.out.c7
    obtain ⟨yf0, yf1, yf2, yf3, yf4, yf5, yf6⟩ := HS2.out.f7
    go_simp
    have q3355 := HD.out.lt
    have q3356 := HT.out.ltT
    have q3357 := HT.out.ltG
    have q3358 := HTx.out.ltT
    have q3359 := HTx.out.ltG
    have q3360 := HV.out.lt
    have q3361 := HV.out.ltV
    have q3362 := HL.out.lt
    have q3363 := HR.out.lt
    have q3364 := HS.out.lt
    have q3365 := HY.out.lt
    have q3366 := HM.out.lt
    have q3367 := HS2.out.lt
    have hnew := (((((((HS2.out.set_ 0 (.pointer (some ⟨ob, 0, none⟩))).set_ 1 (.int .u64 (key : Int))).set_ 2 (.int .u64 (hash : Int))).set_ 3 (.pointer aq)).set_ 4 (.int .i64 o1)).set_ 5 (.pointer fq)).set_ 6 (.int .i64 o2))
    have hm := ((((((((Mod.refl [sb2] v3).sl 0 (.pointer (some ⟨ob, 0, none⟩))).sl 1 (.int .u64 (key : Int))).sl 2 (.int .u64 (hash : Int))).sl 3 (.pointer aq)).sl 4 (.int .i64 o1)).sl 5 (.pointer fq)).sl 6 (.int .i64 o2))
    simp only [List.setIfInBounds_toArray, List.set_cons_zero, List.set_cons_succ] at hnew
    refine nameM hnew hm ?_
    clear hnew hm
    rintro v4 ⟨hnew, hm⟩
    clear dc0 dc1 dc2 dc3 dc4 dc5 lc0 lc1 lc2 lc3 yc0 yc1 yc2 yc3 yc4 yc5 yc6 yf0 yf1 yf2 yf3 yf4 yf5 yf6
    replace HD := qd (HD.out.mod hm (by simp <;> omega))
    replace HT := qd (HT.out.mod hm (by simp <;> omega) (by simp <;> omega))
    replace HTx := qd (HTx.out.mod hm (by simp <;> omega) (by simp <;> omega))
    replace HV := qd (HV.out.mod hm (by simp <;> omega) (by simp <;> omega))
    replace HV0 := qd (HV0.out.mod hm (by intro k hk <;> simp at hk <;> omega))
    replace HL := qd (HL.out.mod hm (by simp <;> omega))
    replace HR := qd (HR.out.mod hm (by simp <;> omega))
    replace HS := qd (HS.out.mod hm (by simp <;> omega))
    replace HY := qd (HY.out.mod hm (by simp <;> omega))
    replace HM := qd (HM.out.mod hm (by simp <;> omega))
    have z3368 := (hm).size
    replace Hmod := qd (Hmod.out.tr hm)
    replace HS2 := qd hnew
    clear hnew hm
    obtain ⟨dc0, dc1, dc2, dc3, dc4, dc5⟩ := HD.out.c6
    obtain ⟨lc0, lc1, lc2, lc3⟩ := HL.out.c4
    refine hK.out _ _ (fun _ => ⟨dc0, dc4, lc0, lc1, lc2, lc3⟩) ?_
    clear hK K
    try simp only [pt]
    refine doneT (by kernel_rfl) ?_ _
    have z3369 := Hmod.out.size
    exact ⟨sb2, aq, fq, rfl, HD.out, HT.out, HTx.out, HV.out, HV0.out, HL.out, HR.out, HA.out, HF.out, HS.out, HY.out, HM.out, HB.out, HG.out, HS2.out, by omega, Hmod.out⟩
   ·obtain ⟨dc0, dc1, dc2, dc3, dc4, dc5⟩ := HD.out.c6
    obtain ⟨lc0, lc1, lc2, lc3⟩ := HL.out.c4
    go_simp
    have q3440 := HD.out.lt
    have q3441 := HT.out.ltT
    have q3442 := HT.out.ltG
    have q3443 := HTx.out.ltT
    have q3444 := HTx.out.ltG
    have q3445 := HV.out.lt
    have q3446 := HV.out.ltV
    have q3447 := HL.out.lt
    have q3448 := HR.out.lt
    have q3449 := HM.out.lt
    have q3450 := HS.out.lt
    have q3451 := HY.out.lt
    have z3452 := Hmod.out.size
    refine nameB 142 #[.pointer none, .int .u64 0, .int .u64 0, .pointer none, .int .i64 0, .pointer none, .int .i64 0] ?_
    rintro v5 ⟨hnew, hb⟩
    obtain ⟨sb2, hsb2⟩ : ∃ sb2, sb2 = v1.heap.size := ⟨_, rfl⟩
    rw [← hsb2] at hnew ⊢
    replace hsb2 : v1.heap.size ≤ sb2 := by omega
    clear dc0 dc1 dc2 dc3 dc4 dc5 lc0 lc1 lc2 lc3
    replace HD := qd (HD.out.mod (Mod.of_below hb []) (by simp))
    replace HT := qd (HT.out.mod (Mod.of_below hb []) (by simp) (by simp))
    replace HTx := qd (HTx.out.mod (Mod.of_below hb []) (by simp) (by simp))
    replace HV := qd (HV.out.mod (Mod.of_below hb []) (by simp) (by simp))
    replace HV0 := qd (HV0.out.mod (Mod.of_below hb []) (by simp))
    replace HL := qd (HL.out.mod (Mod.of_below hb []) (by simp))
    replace HR := qd (HR.out.mod (Mod.of_below hb []) (by simp))
    replace HM := qd (HM.out.mod (Mod.of_below hb []) (by simp))
    replace HS := qd (HS.out.mod (Mod.of_below hb []) (by simp))
    replace HY := qd (HY.out.mod (Mod.of_below hb []) (by simp))
    have z3453 := (hb).size
    replace Hmod := qd (Hmod.out.then (Mod.of_below hb _))
    have HS2 := qd (hnew)
    clear hnew hb
    obtain ⟨dc0, dc1, dc2, dc3, dc4, dc5⟩ := HD.out.c6
    obtain ⟨lc0, lc1, lc2, lc3⟩ := HL.out.c4
    refine hK.out _ _ (fun _ => ⟨dc0, dc4, lc0, lc1, lc2, lc3⟩) ?_
    clear hK K
    try simp only [pt]
    refine nT 7 (some 61) rfl fun K hK => ?_
    obtain ⟨dc0, dc1, dc2, dc3, dc4, dc5⟩ := HD.out.c6
    obtain ⟨lc0, lc1, lc2, lc3⟩ := HL.out.c4
    go_simp
    have HSk := qd (seek_at ob og key hash T P (x.add c (seek Tx.gs key hash).2.2) c v5 HT.out hok h64 HM.out (by omega) (by omega) HV0.out hb0)
    rw [← HO1.out, ← HO2.out, ← HJ1.out, ← HJ2.out] at HSk
    unfold spotV tabP lensV at HSk
    refine (HSk.out).mono ?_
    rintro y v6 ⟨aq, fq, rfl, haq, hfq, hM2, hm⟩
    clear HSk
    clear HM
    clear dc0 dc1 dc2 dc3 dc4 dc5 lc0 lc1 lc2 lc3
    replace HD := qd (HD.out.mod hm (by simp <;> omega))
    replace HT := qd (HT.out.mod hm (by simp <;> omega) (by simp <;> omega))
    replace HTx := qd (HTx.out.mod hm (by simp <;> omega) (by simp <;> omega))
    replace HV := qd (HV.out.mod hm (by simp <;> omega) (by simp <;> omega))
    replace HV0 := qd (HV0.out.mod hm (by intro k hk <;> simp at hk <;> omega))
    replace HL := qd (HL.out.mod hm (by simp <;> omega))
    replace HR := qd (HR.out.mod hm (by simp <;> omega))
    replace HS := qd (HS.out.mod hm (by simp <;> omega))
    replace HY := qd (HY.out.mod hm (by simp <;> omega))
    replace HS2 := qd (HS2.out.mod hm (by simp <;> omega))
    have z3454 := (hm).size
    replace Hmod := qd (Hmod.out.tr hm)
    clear hm
    have HM := qd (hM2)
    have HB := qd (haq)
    have HG := qd (hfq)
    obtain ⟨dc0, dc1, dc2, dc3, dc4, dc5⟩ := HD.out.c6
    obtain ⟨lc0, lc1, lc2, lc3⟩ := HL.out.c4
    go_wp2_with fail
    refine hK.out _ _ (fun _ => ⟨dc0, dc4, lc0, lc1, lc2, lc3⟩) ?_
    clear hK K
    try simp only [pt]
    refine nT 9 none rfl fun K hK => ?_
    obtain ⟨dc0, dc1, dc2, dc3, dc4, dc5⟩ := HD.out.c6
    obtain ⟨lc0, lc1, lc2, lc3⟩ := HL.out.c4
    obtain ⟨yc0, yc1, yc2, yc3, yc4, yc5, yc6⟩ := HS2.out.c7
    obtain ⟨yf0, yf1, yf2, yf3, yf4, yf5, yf6⟩ := HS2.out.f7
    go_simp
    have q3455 := HD.out.lt
    have q3456 := HT.out.ltT
    have q3457 := HT.out.ltG
    have q3458 := HTx.out.ltT
    have q3459 := HTx.out.ltG
    have q3460 := HV.out.lt
    have q3461 := HV.out.ltV
    have q3462 := HL.out.lt
    have q3463 := HR.out.lt
    have q3464 := HS.out.lt
    have q3465 := HY.out.lt
    have q3466 := HS2.out.lt
    have q3467 := HM.out.lt
    have hnew := (((((((HS2.out.set_ 0 (.pointer (some ⟨ob, 0, none⟩))).set_ 1 (.int .u64 (key : Int))).set_ 2 (.int .u64 (hash : Int))).set_ 3 (.pointer aq)).set_ 4 (.int .i64 o1)).set_ 5 (.pointer fq)).set_ 6 (.int .i64 o2))
    have hm := ((((((((Mod.refl [sb2] v6).sl 0 (.pointer (some ⟨ob, 0, none⟩))).sl 1 (.int .u64 (key : Int))).sl 2 (.int .u64 (hash : Int))).sl 3 (.pointer aq)).sl 4 (.int .i64 o1)).sl 5 (.pointer fq)).sl 6 (.int .i64 o2))
    simp only [List.setIfInBounds_toArray, List.set_cons_zero, List.set_cons_succ] at hnew
    refine nameM hnew hm ?_
    clear hnew hm
    rintro v7 ⟨hnew, hm⟩
    clear dc0 dc1 dc2 dc3 dc4 dc5 lc0 lc1 lc2 lc3 yc0 yc1 yc2 yc3 yc4 yc5 yc6 yf0 yf1 yf2 yf3 yf4 yf5 yf6
    replace HD := qd (HD.out.mod hm (by simp <;> omega))
    replace HT := qd (HT.out.mod hm (by simp <;> omega) (by simp <;> omega))
    replace HTx := qd (HTx.out.mod hm (by simp <;> omega) (by simp <;> omega))
    replace HV := qd (HV.out.mod hm (by simp <;> omega) (by simp <;> omega))
    replace HV0 := qd (HV0.out.mod hm (by intro k hk <;> simp at hk <;> omega))
    replace HL := qd (HL.out.mod hm (by simp <;> omega))
    replace HR := qd (HR.out.mod hm (by simp <;> omega))
    replace HS := qd (HS.out.mod hm (by simp <;> omega))
    replace HY := qd (HY.out.mod hm (by simp <;> omega))
    replace HM := qd (HM.out.mod hm (by simp <;> omega))
    have z3468 := (hm).size
    replace Hmod := qd (Hmod.out.tr hm)
    replace HS2 := qd hnew
    clear hnew hm
    obtain ⟨dc0, dc1, dc2, dc3, dc4, dc5⟩ := HD.out.c6
    obtain ⟨lc0, lc1, lc2, lc3⟩ := HL.out.c4
    refine hK.out _ _ (fun _ => ⟨dc0, dc4, lc0, lc1, lc2, lc3⟩) ?_
    clear hK K
    try simp only [pt]
    refine doneT (by kernel_rfl) ?_ _
    have z3469 := Hmod.out.size
    exact ⟨sb2, aq, fq, rfl, HD.out, HT.out, HTx.out, HV.out, HV0.out, HL.out, HR.out, HA.out, HF.out, HS.out, HY.out, HM.out, HB.out, HG.out, HS2.out, by omega, Hmod.out⟩
  clear dc0 dc1 dc2 dc3 dc4 dc5 lc0 lc1 lc2 lc3
  clear HD
  clear HT
  clear HTx
  clear HV
  clear HV0
  clear HL
  clear HR
  clear HM
  clear HA
  clear HF
  clear HS
  clear HY
  clear Hmod
  rintro a' w5 ⟨sb2, aq, fq, rfl, m_D, m_T, m_Tx, m_V, m_V0, m_L, m_R, m_A, m_F, m_S, m_Y, m_M, m_B, m_G, m_box, hle_sb2, m_mod⟩
  simp only [List.cons_append, List.nil_append, List.append_assoc]
  have HD := qd (m_D)
  have HT := qd (m_T)
  have HTx := qd (m_Tx)
  have HV := qd (m_V)
  have HV0 := qd (m_V0)
  have HL := qd (m_L)
  have HR := qd (m_R)
  have HA := qd (m_A)
  have HF := qd (m_F)
  have HS := qd (m_S)
  have HY := qd (m_Y)
  have HM := qd (m_M)
  have HB := qd (m_B)
  have HG := qd (m_G)
  have HS2 := qd (m_box)
  have Hmod := qd (m_mod)
  clear m_D m_T m_Tx m_V m_V0 m_L m_R m_A m_F m_S m_Y m_M m_B m_G m_box m_mod
  obtain ⟨fb2, hfb⟩ : ∃ b, b = ok1.isSome := ⟨_, rfl⟩
  have HFB2 := qd hfb
  clear hfb
  go_upto_region 10 with fail
  obtain ⟨sd0, sd1, sd2, sd3, sd4, sd5, sd6⟩ := HS2.out.c7
  have HEn := qd (spot_Entry ob og key hash T aq fq o2 (by rw [← HO1.out]; exact HB.out) w5 HT.out)
  unfold foundE at HEn
  rw [← HO1.out, ← HJ1.out] at HEn
  unfold spotV optE entV at HEn
  simp only [Option.isSome_map] at HEn
  obtain ⟨fe, hfe⟩ : ∃ fe, fe = ((ok1.map fun x => (slotAt T.gs x.1 x.2).ent).getD ⟨0, 0, 0⟩) := ⟨_, rfl⟩
  rw [← hfe] at HEn
  clear hfe
  rw [← HFB2.out] at HEn
  go_wp2_with fail
  refine (HEn.out).mono ?_
  rintro x w6 ⟨rfl, hb⟩
  clear sd0 sd1 sd2 sd3 sd4 sd5 sd6
  replace HD := qd (HD.out.mod (Mod.of_below hb []) (by simp))
  replace HT := qd (HT.out.mod (Mod.of_below hb []) (by simp) (by simp))
  replace HTx := qd (HTx.out.mod (Mod.of_below hb []) (by simp) (by simp))
  replace HV := qd (HV.out.mod (Mod.of_below hb []) (by simp) (by simp))
  replace HV0 := qd (HV0.out.mod (Mod.of_below hb []) (by simp))
  replace HL := qd (HL.out.mod (Mod.of_below hb []) (by simp))
  replace HR := qd (HR.out.mod (Mod.of_below hb []) (by simp))
  replace HS := qd (HS.out.mod (Mod.of_below hb []) (by simp))
  replace HY := qd (HY.out.mod (Mod.of_below hb []) (by simp))
  replace HM := qd (HM.out.mod (Mod.of_below hb []) (by simp))
  replace HS2 := qd (HS2.out.mod (Mod.of_below hb []) (by simp))
  have z3039 := (hb).size
  replace Hmod := qd (Hmod.out.then (Mod.of_below hb _))
  clear hb
  clear HEn
  go_upto_region 11 with fail
  clear HY
  have q3040 := HD.out.lt
  have q3041 := HT.out.ltT
  have q3042 := HT.out.ltG
  have q3043 := HTx.out.ltT
  have q3044 := HTx.out.ltG
  have q3045 := HV.out.lt
  have q3046 := HV.out.ltV
  have q3047 := HL.out.lt
  have q3048 := HR.out.lt
  have q3049 := HS.out.lt
  have q3050 := HM.out.lt
  have q3051 := HS2.out.lt
  have z3052 := Hmod.out.size
  refine nameB 37 #[.int .u64 (fe.key : Int), .int .u64 (fe.val : Int), .int .u64 (fe.hash : Int)] ?_
  rintro w7 ⟨hnew, hb⟩
  replace HD := qd (HD.out.mod (Mod.of_below hb []) (by simp))
  replace HT := qd (HT.out.mod (Mod.of_below hb []) (by simp) (by simp))
  replace HTx := qd (HTx.out.mod (Mod.of_below hb []) (by simp) (by simp))
  replace HV := qd (HV.out.mod (Mod.of_below hb []) (by simp) (by simp))
  replace HV0 := qd (HV0.out.mod (Mod.of_below hb []) (by simp))
  replace HL := qd (HL.out.mod (Mod.of_below hb []) (by simp))
  replace HR := qd (HR.out.mod (Mod.of_below hb []) (by simp))
  replace HS := qd (HS.out.mod (Mod.of_below hb []) (by simp))
  replace HM := qd (HM.out.mod (Mod.of_below hb []) (by simp))
  replace HS2 := qd (HS2.out.mod (Mod.of_below hb []) (by simp))
  have z3053 := (hb).size
  replace Hmod := qd (Hmod.out.then (Mod.of_below hb _))
  have HY2 := qd (hnew)
  clear hnew hb
  cases fb2 with
  | true =>
   obtain ⟨sc0, sc1, sc2, sc3, sc4, sc5, sc6⟩ := HS2.out.c7
   obtain ⟨rc0, rc1, rc2, rc3, rc4, rc5, rc6⟩ := HR.out.c7
   obtain ⟨rf0, rf1, rf2, rf3, rf4, rf5, rf6⟩ := HR.out.f7
   go_wp2
   have q5054 := HD.out.lt
   have q5055 := HT.out.ltT
   have q5056 := HT.out.ltG
   have q5057 := HTx.out.ltT
   have q5058 := HTx.out.ltG
   have q5059 := HV.out.lt
   have q5060 := HV.out.ltV
   have q5061 := HL.out.lt
   have q5062 := HR.out.lt
   have q5063 := HS.out.lt
   have q5064 := HM.out.lt
   have q5065 := HS2.out.lt
   have q5066 := HY2.out.lt
   have hnew := (((((((HR.out.set_ 0 (.pointer (some ⟨ob, 0, none⟩))).set_ 1 (.int .u64 (key : Int))).set_ 2 (.int .u64 (hash : Int))).set_ 3 (.pointer aq)).set_ 4 (.int .i64 o1)).set_ 5 (.pointer fq)).set_ 6 (.int .i64 o2))
   have hm := ((((((((Mod.refl [(w.heap.size + 1)] w7).sl 0 (.pointer (some ⟨ob, 0, none⟩))).sl 1 (.int .u64 (key : Int))).sl 2 (.int .u64 (hash : Int))).sl 3 (.pointer aq)).sl 4 (.int .i64 o1)).sl 5 (.pointer fq)).sl 6 (.int .i64 o2))
   simp only [List.setIfInBounds_toArray, List.set_cons_zero, List.set_cons_succ] at hnew
   refine nameW (F := fun v => Blk v (w.heap.size + 1) 142 #[.pointer (some ⟨ob, 0, none⟩), .int .u64 (key : Int), .int .u64 (hash : Int), .pointer aq, .int .i64 o1, .pointer fq, .int .i64 o2] ∧ Mod [(w.heap.size + 1)] w7 v) ⟨hnew, hm⟩ ?_
   clear hnew hm
   rintro w9 ⟨hnew, hm⟩
   clear sc0 sc1 sc2 sc3 sc4 sc5 sc6 rc0 rc1 rc2 rc3 rc4 rc5 rc6 rf0 rf1 rf2 rf3 rf4 rf5 rf6
   replace HD := qd (HD.out.mod hm (by simp <;> omega))
   replace HT := qd (HT.out.mod hm (by simp <;> omega) (by simp <;> omega))
   replace HTx := qd (HTx.out.mod hm (by simp <;> omega) (by simp <;> omega))
   replace HV := qd (HV.out.mod hm (by simp <;> omega) (by simp <;> omega))
   replace HV0 := qd (HV0.out.mod hm (by intro k hk <;> simp at hk <;> omega))
   replace HL := qd (HL.out.mod hm (by simp <;> omega))
   replace HS := qd (HS.out.mod hm (by simp <;> omega))
   replace HM := qd (HM.out.mod hm (by simp <;> omega))
   replace HS2 := qd (HS2.out.mod hm (by simp <;> omega))
   replace HY2 := qd (HY2.out.mod hm (by simp <;> omega))
   have z5067 := (hm).size
   replace Hmod := qd (Hmod.out.tr hm)
   replace HR := qd hnew
   clear hnew hm
   obtain ⟨rx0, rx1, rx2, rx3, rx4, rx5, rx6⟩ := HR.out.c7
   refine bodyPost_ret (v := .tuple #[.agg #[.pointer (some ⟨ob, 0, none⟩), .int .u64 (key : Int), .int .u64 (hash : Int), .pointer aq, .int .i64 o1, .pointer fq, .int .i64 o2], .bool true]) (by simp [results, Tryz.results94, go_sem, rx0, rx1, rx2, rx3, rx4, rx5, rx6]) rfl ?_
   have hg := HGa.out
   rw [← HS1.out, ← HFB.out, ← HO1.out, ← HFB2.out] at hg
   simp only [if_true, if_false, Bool.false_eq_true] at hg
   obtain ⟨rfl, rfl, rfl, rfl⟩ := hg
   exact ⟨aq, fq, by rw [← HO1.out, ← HO2.out, ← HJ1.out, ← HJ2.out, ← HFB2.out], by rw [← HO1.out]; exact HB.out, by rw [← HO2.out]; exact HG.out, Mtr.add_add x c _ _ ▸ HM.out, Hmod.out⟩
  | false =>
   obtain ⟨sc0, sc1, sc2, sc3, sc4, sc5, sc6⟩ := HS.out.c7
   obtain ⟨rc0, rc1, rc2, rc3, rc4, rc5, rc6⟩ := HR.out.c7
   obtain ⟨rf0, rf1, rf2, rf3, rf4, rf5, rf6⟩ := HR.out.f7
   go_wp2
   have q6054 := HD.out.lt
   have q6055 := HT.out.ltT
   have q6056 := HT.out.ltG
   have q6057 := HTx.out.ltT
   have q6058 := HTx.out.ltG
   have q6059 := HV.out.lt
   have q6060 := HV.out.ltV
   have q6061 := HL.out.lt
   have q6062 := HR.out.lt
   have q6063 := HS.out.lt
   have q6064 := HM.out.lt
   have q6065 := HS2.out.lt
   have q6066 := HY2.out.lt
   have hnew := (((((((HR.out.set_ 0 (.pointer (some ⟨b.1, 0, none⟩))).set_ 1 (.int .u64 (key : Int))).set_ 2 (.int .u64 (hash : Int))).set_ 3 (.pointer ap)).set_ 4 (.int .i64 s1)).set_ 5 (.pointer fp)).set_ 6 (.int .i64 s2))
   have hm := ((((((((Mod.refl [(w.heap.size + 1)] w7).sl 0 (.pointer (some ⟨b.1, 0, none⟩))).sl 1 (.int .u64 (key : Int))).sl 2 (.int .u64 (hash : Int))).sl 3 (.pointer ap)).sl 4 (.int .i64 s1)).sl 5 (.pointer fp)).sl 6 (.int .i64 s2))
   simp only [List.setIfInBounds_toArray, List.set_cons_zero, List.set_cons_succ] at hnew
   refine nameW (F := fun v => Blk v (w.heap.size + 1) 142 #[.pointer (some ⟨b.1, 0, none⟩), .int .u64 (key : Int), .int .u64 (hash : Int), .pointer ap, .int .i64 s1, .pointer fp, .int .i64 s2] ∧ Mod [(w.heap.size + 1)] w7 v) ⟨hnew, hm⟩ ?_
   clear hnew hm
   rintro w9 ⟨hnew, hm⟩
   clear sc0 sc1 sc2 sc3 sc4 sc5 sc6 rc0 rc1 rc2 rc3 rc4 rc5 rc6 rf0 rf1 rf2 rf3 rf4 rf5 rf6
   replace HD := qd (HD.out.mod hm (by simp <;> omega))
   replace HT := qd (HT.out.mod hm (by simp <;> omega) (by simp <;> omega))
   replace HTx := qd (HTx.out.mod hm (by simp <;> omega) (by simp <;> omega))
   replace HV := qd (HV.out.mod hm (by simp <;> omega) (by simp <;> omega))
   replace HV0 := qd (HV0.out.mod hm (by intro k hk <;> simp at hk <;> omega))
   replace HL := qd (HL.out.mod hm (by simp <;> omega))
   replace HS := qd (HS.out.mod hm (by simp <;> omega))
   replace HM := qd (HM.out.mod hm (by simp <;> omega))
   replace HS2 := qd (HS2.out.mod hm (by simp <;> omega))
   replace HY2 := qd (HY2.out.mod hm (by simp <;> omega))
   have z6067 := (hm).size
   replace Hmod := qd (Hmod.out.tr hm)
   replace HR := qd hnew
   clear hnew hm
   obtain ⟨rx0, rx1, rx2, rx3, rx4, rx5, rx6⟩ := HR.out.c7
   refine bodyPost_ret (v := .tuple #[.agg #[.pointer (some ⟨b.1, 0, none⟩), .int .u64 (key : Int), .int .u64 (hash : Int), .pointer ap, .int .i64 s1, .pointer fp, .int .i64 s2], .bool false]) (by simp [results, Tryz.results94, go_sem, rx0, rx1, rx2, rx3, rx4, rx5, rx6]) rfl ?_
   have hg := HGa.out
   rw [← HS1.out, ← HFB.out, ← HO1.out, ← HFB2.out] at hg
   simp only [if_true, if_false, Bool.false_eq_true] at hg
   obtain ⟨rfl, rfl, rfl, rfl⟩ := hg
   exact ⟨ap, fp, by rw [← HS1.out, ← HS2.out, ← HI1.out, ← HI2.out, ← HFB.out], by rw [← HS1.out]; exact HA.out, by rw [← HS2.out]; exact HF.out, Mtr.add_add x c _ _ ▸ HM.out, Hmod.out⟩
end Go.Proofs.YtcgjgfgkdoohlaaGreatDoor
