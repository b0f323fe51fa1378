/- A node's Put by its contracts. -/
import Derived.Test.YtcgjgfgkdoohlaaGreatDoorCoBB
import Derived.Test.YtcgjgfgkdoohlaaGreatDoorCoN
import Derived.Test.YtcgjgfgkdoohlaaGreatDoorLaneP
namespace Go.Proofs.YtcgjgfgkdoohlaaGreatDoor
set_option maxRecDepth 100000
set_option maxHeartbeats 8000000
open Go.RowKit AmC
theorem node_Put_dual (nb tb db : Nat) (pfx dpt job : Int) (P : MP) (c : Cnt) (e : Ent) (more b0 : Bool) (er : Value) (Post : World → World → Prop) (w : World) (hnd : Blk w nb 114 #[.int .i64 pfx, .int .i64 dpt, .pointer (some ⟨tb, 0, none⟩), .int .i64 job, .pointer (some ⟨db, 0, none⟩)])
  (HC : ∀ V, Below w.heap.size w V → Calls Tryz.prog 70 #[.pointer (some ⟨db, 0, none⟩), lensV (some ⟨P.mb, P.mo, none⟩) c, entV e, .bool more] V fun y V' => y = .returned (.tuple #[.bool b0, er]) ∧ Post V V') :
  Calls Tryz.prog 36 #[nodeP nb, lensV (some ⟨P.mb, P.mo, none⟩) c, entV e, .bool more] w fun y w' => y = .returned (.tuple #[.bool b0, er]) ∧ ∃ V, Below w.heap.size w V ∧ Post V w' := by
 have hB := ((Below.refl w.heap.size w).alloc (Nat.le_refl _) (.cells #[.pointer (some ⟨P.mb, P.mo, none⟩), .int .i64 c.p, .int .i64 c.v, .int .i64 c.u] 89)).alloc (by simp) (.cells #[.int .u64 (e.key : Int), .int .u64 (e.val : Int), .int .u64 (e.hash : Int)] 37)
 have hL := (Blk.new w 89 #[.pointer (some ⟨P.mb, P.mo, none⟩), .int .i64 c.p, .int .i64 c.v, .int .i64 c.u]).alloc (.cells #[.int .u64 (e.key : Int), .int .u64 (e.val : Int), .int .u64 (e.hash : Int)] 37)
 have hE := Blk.new (w.alloc (.cells #[.pointer (some ⟨P.mb, P.mo, none⟩), .int .i64 c.p, .int .i64 c.v, .int .i64 c.u] 89)) 37 #[.int .u64 (e.key : Int), .int .u64 (e.val : Int), .int .u64 (e.hash : Int)]
 simp only [World.size_alloc] at hE
 obtain ⟨W, hW⟩ : ∃ W, W = (w.alloc (.cells #[.pointer (some ⟨P.mb, P.mo, none⟩), .int .i64 c.p, .int .i64 c.v, .int .i64 c.u] 89)).alloc (.cells #[.int .u64 (e.key : Int), .int .u64 (e.val : Int), .int .u64 (e.hash : Int)] 37) := ⟨_, rfl⟩
 rw [← hW] at hB hL hE
 have hnl := hnd.lt
 have HW := qd hW
 have HWB := qd hB
 have HC := qd (HC W.drew (hB.trans ((Below.refl _ _).drew.mono hB.size)))
 unfold nodeP
 unfold lensV entV at HC ⊢
 have HN := qd (hnd.below hB hnd.lt)
 have HL := qd (hL)
 have HE := qd (hE)
 have Hmod := qd (Mod.of_below hB [])
 clear hW hB hnd hL hE
 go_enter Tryz.func36, Tryz.ntmps36
 go_upto_region 1 with fail
 rw [← HW.out]
 obtain ⟨nc0, nc1, nc2, nc3, nc4⟩ := HN.out.c5
 obtain ⟨lc0, lc1, lc2, lc3⟩ := HL.out.c4
 obtain ⟨ec0, ec1, ec2⟩ := HE.out.c3
 go_upto_region 2 with fail
 refine region_T (fun (w' : World) => w'.cell? ⟨nb, 4, none⟩ = some (.pointer (some ⟨db, 0, none⟩)) ∧ w'.cell? ⟨w.heap.size, 0, none⟩ = some (.pointer (some ⟨P.mb, P.mo, none⟩)) ∧ w'.cell? ⟨w.heap.size, 1, none⟩ = some (.int .i64 c.p) ∧ w'.cell? ⟨w.heap.size, 2, none⟩ = some (.int .i64 c.v) ∧ w'.cell? ⟨w.heap.size, 3, none⟩ = some (.int .i64 c.u) ∧ w'.cell? ⟨w.heap.size + 1, 0, none⟩ = some (.int .u64 (e.key : Int)) ∧ w'.cell? ⟨w.heap.size + 1, 1, none⟩ = some (.int .u64 (e.val : Int)) ∧ w'.cell? ⟨w.heap.size + 1, 2, none⟩ = some (.int .u64 (e.hash : Int))) [7] (by kernel_rfl) ?_
 try (change wpAnyT _ _ _ _ _ _ _ _ _ (World.drew _))
 have hHeld := (⟨nc4, lc0, lc1, lc2, lc3, ec0, ec1, ec2⟩ : _ ∧ _ ∧ _ ∧ _ ∧ _ ∧ _ ∧ _ ∧ _)
 refine tW 0 (some 19) (.pointer (some ⟨nb, 0, none⟩)) rfl hHeld ?_
 try simp only [pt]
 refine tW 1 (some 20) (.pointer (some ⟨nb, 0, none⟩)) rfl hHeld ?_
 try simp only [pt]
 refine tW 2 (some 21) (.pointer (some ⟨nb, 4, none⟩)) rfl hHeld ?_
 try simp only [pt]
 refine tT 3 (some 22) (.pointer (some ⟨db, 0, none⟩)) rfl (by rintro w ⟨hh0, hh1, hh2, hh3, hh4, hh5, hh6, hh7⟩; go_simp) hHeld ?_
 try simp only [pt]
 refine tT 4 (some 23) (.agg #[.pointer (some ⟨P.mb, P.mo, none⟩), .int .i64 c.p, .int .i64 c.v, .int .i64 c.u]) rfl (by rintro w ⟨hh0, hh1, hh2, hh3, hh4, hh5, hh6, hh7⟩; go_simp) hHeld ?_
 try simp only [pt]
 refine tT 5 (some 24) (.agg #[.int .u64 (e.key : Int), .int .u64 (e.val : Int), .int .u64 (e.hash : Int)]) rfl (by rintro w ⟨hh0, hh1, hh2, hh3, hh4, hh5, hh6, hh7⟩; go_simp) hHeld ?_
 try simp only [pt]
 refine tW 6 (some 25) (.bool more) rfl hHeld ?_
 try simp only [pt]
 refine nT 7 (some 26) rfl fun K hK => ?_
 go_simp
 refine (HC.out).mono ?_
 rintro y w2 ⟨rfl, hpost⟩
 have HPo := qd hpost
 clear hpost
 go_wp2_with fail
 refine hK.out _ _ (fun h => absurd (by decide) h) ?_
 clear hK K
 try simp only [pt]
 refine tL 8 (some 27) (.bool b0) rfl ?_
 try simp only [pt]
 refine tL 9 (some 28) er rfl ?_
 try simp only [pt]
 refine tL 10 (some 8) (.bool b0) rfl ?_
 try simp only [pt]
 refine tL 11 (some 9) er rfl ?_
 try simp only [pt]
 refine doneT (by kernel_rfl) ?_ _
 go_wp2
 refine bodyPost_ret (v := .tuple #[.bool b0, er]) (by simp [results, Tryz.results36, go_sem]) rfl ⟨rfl, W.drew, HWB.out.trans ((Below.refl _ _).drew.mono HWB.out.size), HPo.out⟩
theorem node_Put_found {W0 : World} {E : Nat → Addr} (nb tb gb : Nat) (pfx dpt job : Int) (T : TabM) (P : MP) (x : Mtr) (c : Cnt) (e : Ent) (more : Bool) (w : World) (hnd : Blk w nb 114 #[.int .i64 pfx, .int .i64 dpt, .pointer (some ⟨tb, 0, none⟩), .int .i64 job, .pointer none]) (h : TabAt w tb gb T) (hP : Pw T.gs.length) (h64 : e.hash < 18446744073709551616) (hM : MetP w P x) (hEn : Env W0 E w) (hb0 : W0.heap.size ≤ P.mb) (hmt : P.mb ≠ tb) (hmg : P.mb ≠ gb) (hmn : P.mb ≠ nb) (hnt : nb ≠ tb) (hng : nb ≠ gb) (i s : Nat) (hsk : (seek T.gs e.key e.hash).1 = some (i, s)) (e0 : Ent) (he0 : slotAt T.gs i s = .full e0) :
  Calls Tryz.prog 36 #[nodeP nb, lensV (some ⟨P.mb, P.mo, none⟩) c, entV e, .bool more] w fun y w' => y = .returned (.tuple #[.bool false, .nilIface]) ∧ TabAt w' tb gb (replaceM T i s e.val e0) ∧ MetP w' P (x.add c (seek T.gs e.key e.hash).2.2) ∧ Mod [P.mb, tb, gb] w w' := by
 have hB := ((Below.refl w.heap.size w).alloc (Nat.le_refl _) (.cells #[.pointer (some ⟨P.mb, P.mo, none⟩), .int .i64 c.p, .int .i64 c.v, .int .i64 c.u] 89)).alloc (by simp) (.cells #[.int .u64 (e.key : Int), .int .u64 (e.val : Int), .int .u64 (e.hash : Int)] 37)
 have hL := (Blk.new w 89 #[.pointer (some ⟨P.mb, P.mo, none⟩), .int .i64 c.p, .int .i64 c.v, .int .i64 c.u]).alloc (.cells #[.int .u64 (e.key : Int), .int .u64 (e.val : Int), .int .u64 (e.hash : Int)] 37)
 have hE := Blk.new (w.alloc (.cells #[.pointer (some ⟨P.mb, P.mo, none⟩), .int .i64 c.p, .int .i64 c.v, .int .i64 c.u] 89)) 37 #[.int .u64 (e.key : Int), .int .u64 (e.val : Int), .int .u64 (e.hash : Int)]
 simp only [World.size_alloc] at hE
 obtain ⟨W, hW⟩ : ∃ W, W = (w.alloc (.cells #[.pointer (some ⟨P.mb, P.mo, none⟩), .int .i64 c.p, .int .i64 c.v, .int .i64 c.u] 89)).alloc (.cells #[.int .u64 (e.key : Int), .int .u64 (e.val : Int), .int .u64 (e.hash : Int)] 37) := ⟨_, rfl⟩
 rw [← hW] at hB hL hE
 have hml := hM.lt
 have hnl := hnd.lt
 have htl := h.ltT
 have hgl := h.ltG
 have hB0 := hEn.size
 have HW := qd hW
 unfold nodeP lensV entV
 obtain ⟨sk1, hsk1⟩ : ∃ s, s = (seek T.gs e.key e.hash).1 := ⟨_, rfl⟩
 obtain ⟨sk2, hsk2⟩ : ∃ s, s = (seek T.gs e.key e.hash).2.1 := ⟨_, rfl⟩
 have HS1 := qd hsk1
 have HS2 := qd hsk2
 clear hsk1 hsk2
 obtain ⟨s1, hs1⟩ : ∃ s, s = slotI sk1 := ⟨_, rfl⟩
 obtain ⟨s2, hs2⟩ : ∃ s, s = slotI sk2 := ⟨_, rfl⟩
 have HI1 := qd hs1
 have HI2 := qd hs2
 clear hs1 hs2
 obtain ⟨e1, he1, hk0, hil, hsl⟩ := seek_full hsk
 have hs8 : s < 8 := by have := h.wide.at_ hil; omega
 have HN := qd (hnd.below hB hnd.lt)
 have HT := qd (h.below hB)
 have HV0 := qd (hEn.next hB)
 have HM := qd (hM.below hB)
 have HL := qd (hL)
 have HE := qd (hE)
 have Hmod := qd (Mod.of_below hB [P.mb, tb, gb])
 clear hW hB hnd h hM hEn hL hE he1
 go_enter Tryz.func36, Tryz.ntmps36
 go_upto_region 1 with fail
 rw [← HW.out]
 obtain ⟨nc0, nc1, nc2, nc3, nc4⟩ := HN.out.c5
 obtain ⟨lc0, lc1, lc2, lc3⟩ := HL.out.c4
 obtain ⟨ec0, ec1, ec2⟩ := HE.out.c3
 go_upto_region 3 with fail
 have q1 := HN.out.lt
 have q2 := HT.out.ltT
 have q3 := HT.out.ltG
 have q4 := HM.out.lt
 have q5 := HL.out.lt
 have q6 := HE.out.lt
 have z7 := Hmod.out.size
 refine cutT (fun a' wz => ∃ sb ap fp, a' = { tmps := #[.pointer (some ⟨nb, 0, none⟩), .agg #[.pointer (some ⟨P.mb, P.mo, none⟩), .int .i64 c.p, .int .i64 c.v, .int .i64 c.u], .agg #[.int .u64 (e.key : Int), .int .u64 (e.val : Int), .int .u64 (e.hash : Int)], .bool more, undef, .pointer (some ⟨w.heap.size, 0, none⟩), .pointer (some ⟨w.heap.size + 1, 0, none⟩), undef, .bool false, .nilIface, .pointer (some ⟨sb, 0, none⟩), undef, undef, undef, .pointer (some ⟨nb, 0, none⟩), .pointer (some ⟨nb, 0, none⟩), .pointer (some ⟨nb, 4, none⟩), .pointer none, .bool false, undef, undef, undef, undef, undef, undef, undef, undef, undef, undef, .pointer (some ⟨nb, 0, none⟩), .pointer (some ⟨nb, 0, none⟩), .pointer (some ⟨nb, 2, none⟩), .pointer (some ⟨tb, 0, none⟩), .agg #[.pointer (some ⟨P.mb, P.mo, none⟩), .int .i64 c.p, .int .i64 c.v, .int .i64 c.u], .pointer (some ⟨w.heap.size + 1, 0, none⟩), .int .u64 (e.key : Int), .pointer (some ⟨w.heap.size + 1, 2, none⟩), .int .u64 (e.hash : Int), .agg #[.pointer (some ⟨tb, 0, none⟩), .int .u64 (e.key : Int), .int .u64 (e.hash : Int), .pointer ap, .int .i64 s1, .pointer fp, .int .i64 s2], undef, undef, undef, undef, undef, undef, undef, undef, undef, undef, undef, undef, undef, undef, undef, undef, undef, undef, undef], defers := [] } ∧ Blk wz nb 114 #[.int .i64 pfx, .int .i64 dpt, .pointer (some ⟨tb, 0, none⟩), .int .i64 job, .pointer none] ∧ TabAt wz tb gb T ∧ Env W0 E wz ∧ Blk wz w.heap.size 89 #[.pointer (some ⟨P.mb, P.mo, none⟩), .int .i64 c.p, .int .i64 c.v, .int .i64 c.u] ∧ Blk wz (w.heap.size + 1) 37 #[.int .u64 (e.key : Int), .int .u64 (e.val : Int), .int .u64 (e.hash : Int)] ∧ MetP wz P (x.add c (seek T.gs e.key e.hash).2.2) ∧ PtrOf gb sk1 ap ∧ PtrOf gb sk2 fp ∧ Blk wz sb 142 #[.pointer (some ⟨tb, 0, none⟩), .int .u64 (e.key : Int), .int .u64 (e.hash : Int), .pointer ap, .int .i64 s1, .pointer fp, .int .i64 s2] ∧ W.heap.size ≤ sb ∧ Mod ([P.mb, tb, gb]) w wz) ?_ ?_
 ·refine region_T (fun (w' : World) => w'.cell? ⟨nb, 2, none⟩ = some (.pointer (some ⟨tb, 0, none⟩)) ∧ w'.cell? ⟨w.heap.size, 0, none⟩ = some (.pointer (some ⟨P.mb, P.mo, none⟩)) ∧ w'.cell? ⟨w.heap.size, 1, none⟩ = some (.int .i64 c.p) ∧ w'.cell? ⟨w.heap.size, 2, none⟩ = some (.int .i64 c.v) ∧ w'.cell? ⟨w.heap.size, 3, none⟩ = some (.int .i64 c.u) ∧ w'.cell? ⟨w.heap.size + 1, 0, none⟩ = some (.int .u64 (e.key : Int)) ∧ w'.cell? ⟨w.heap.size + 1, 2, none⟩ = some (.int .u64 (e.hash : Int))) [] (by kernel_rfl) ?_
  try (change wpAnyT _ _ _ _ _ _ _ _ _ (World.drew _))
  have hHeld := (⟨nc2, lc0, lc1, lc2, lc3, ec0, ec2⟩ : _ ∧ _ ∧ _ ∧ _ ∧ _ ∧ _ ∧ _)
  refine tW 0 (some 29) (.pointer (some ⟨nb, 0, none⟩)) rfl hHeld ?_
  try simp only [pt]
  refine tW 1 (some 30) (.pointer (some ⟨nb, 0, none⟩)) rfl hHeld ?_
  try simp only [pt]
  refine tW 2 (some 31) (.pointer (some ⟨nb, 2, none⟩)) rfl hHeld ?_
  try simp only [pt]
  refine tT 3 (some 32) (.pointer (some ⟨tb, 0, none⟩)) rfl (by rintro w ⟨hh0, hh1, hh2, hh3, hh4, hh5, hh6⟩; go_simp) hHeld ?_
  try simp only [pt]
  refine tT 4 (some 33) (.agg #[.pointer (some ⟨P.mb, P.mo, none⟩), .int .i64 c.p, .int .i64 c.v, .int .i64 c.u]) rfl (by rintro w ⟨hh0, hh1, hh2, hh3, hh4, hh5, hh6⟩; go_simp) hHeld ?_
  try simp only [pt]
  refine tW 5 (some 34) (.pointer (some ⟨w.heap.size + 1, 0, none⟩)) rfl hHeld ?_
  try simp only [pt]
  refine tT 6 (some 35) (.int .u64 (e.key : Int)) rfl (by rintro w ⟨hh0, hh1, hh2, hh3, hh4, hh5, hh6⟩; go_simp) hHeld ?_
  try simp only [pt]
  refine tW 7 (some 36) (.pointer (some ⟨w.heap.size + 1, 2, none⟩)) rfl hHeld ?_
  try simp only [pt]
  refine tT 8 (some 37) (.int .u64 (e.hash : Int)) rfl (by rintro w ⟨hh0, hh1, hh2, hh3, hh4, hh5, hh6⟩; go_simp) hHeld ?_
  try simp only [pt]
  clear hHeld
  refine nameW (F := fun v => Mod [] W v) (Mod.drewN [] W 1) ?_
  rintro v1 hm
  clear nc0 nc1 nc2 nc3 nc4 lc0 lc1 lc2 lc3 ec0 ec1 ec2
  replace HN := qd (HN.out.mod hm (by simp))
  replace HT := qd (HT.out.mod hm (by simp) (by simp))
  replace HV0 := qd (HV0.out.mod hm (by intro k hk <;> simp at hk <;> omega))
  replace HM := qd (HM.out.mod hm (by simp))
  replace HL := qd (HL.out.mod hm (by simp))
  replace HE := qd (HE.out.mod hm (by simp))
  have z208 := (hm).size
  replace Hmod := qd (Hmod.out.tr hm)
  clear hm
  refine pairT (i := 9) (j := 10) (o := ⟨some 38, _, _, _, _, _⟩) (o' := ⟨some 10, _, _, _, _, _⟩) rfl rfl (by kernel_rfl) (fun K hK => ?_) (fun K hK => ?_)
  ·obtain ⟨nc0, nc1, nc2, nc3, nc4⟩ := HN.out.c5
   obtain ⟨lc0, lc1, lc2, lc3⟩ := HL.out.c4
   obtain ⟨ec0, ec1, ec2⟩ := HE.out.c3
   go_simp
   have HSk := qd (seek_at tb gb e.key e.hash T P x c v1 HT.out hP h64 HM.out (by omega) (by omega) HV0.out hb0)
   rw [← HS1.out, ← HS2.out, ← HI1.out, ← HI2.out] at HSk
   unfold spotV tabP lensV at HSk
   refine (HSk.out).mono ?_
   rintro y v2 ⟨ap, fp, rfl, hap, hfp, hM2, hm⟩
   clear HSk
   clear HM
   clear nc0 nc1 nc2 nc3 nc4 lc0 lc1 lc2 lc3 ec0 ec1 ec2
   replace HN := qd (HN.out.mod hm (by simp <;> omega))
   replace HT := qd (HT.out.mod hm (by simp <;> omega) (by simp <;> omega))
   replace HV0 := qd (HV0.out.mod hm (by intro k hk <;> simp at hk <;> omega))
   replace HL := qd (HL.out.mod hm (by simp <;> omega))
   replace HE := qd (HE.out.mod hm (by simp <;> omega))
   have z309 := (hm).size
   replace Hmod := qd (Hmod.out.tr hm)
   clear hm
   have HM := qd (hM2)
   have HA := qd (hap)
   have HF := qd (hfp)
   obtain ⟨nc0, nc1, nc2, nc3, nc4⟩ := HN.out.c5
   obtain ⟨lc0, lc1, lc2, lc3⟩ := HL.out.c4
   obtain ⟨ec0, ec1, ec2⟩ := HE.out.c3
   go_wp2_with fail
   refine hK.out _ _ (fun _ => ⟨nc2, lc0, lc1, lc2, lc3, ec0, ec2⟩) ?_
   clear hK K
   try simp only [pt]
   refine nT 10 (some 10) rfl fun K hK => ?_
   obtain ⟨nc0, nc1, nc2, nc3, nc4⟩ := HN.out.c5
   obtain ⟨lc0, lc1, lc2, lc3⟩ := HL.out.c4
   obtain ⟨ec0, ec1, ec2⟩ := HE.out.c3
   go_simp
   have q310 := HN.out.lt
   have q311 := HT.out.ltT
   have q312 := HT.out.ltG
   have q313 := HL.out.lt
   have q314 := HE.out.lt
   have q315 := HM.out.lt
   have z316 := Hmod.out.size
   refine nameB 142 #[.pointer none, .int .u64 0, .int .u64 0, .pointer none, .int .i64 0, .pointer none, .int .i64 0] ?_
   rintro v3 ⟨hnew, hb⟩
   obtain ⟨sb, hsb⟩ : ∃ sb, sb = v2.heap.size := ⟨_, rfl⟩
   rw [← hsb] at hnew ⊢
   replace hsb : v2.heap.size ≤ sb := by omega
   clear nc0 nc1 nc2 nc3 nc4 lc0 lc1 lc2 lc3 ec0 ec1 ec2
   replace HN := qd (HN.out.mod (Mod.of_below hb []) (by simp))
   replace HT := qd (HT.out.mod (Mod.of_below hb []) (by simp) (by simp))
   replace HV0 := qd (HV0.out.mod (Mod.of_below hb []) (by simp))
   replace HL := qd (HL.out.mod (Mod.of_below hb []) (by simp))
   replace HE := qd (HE.out.mod (Mod.of_below hb []) (by simp))
   replace HM := qd (HM.out.mod (Mod.of_below hb []) (by simp))
   have z317 := (hb).size
   replace Hmod := qd (Hmod.out.then (Mod.of_below hb _))
   have HS := qd (hnew)
   clear hnew hb
   obtain ⟨nc0, nc1, nc2, nc3, nc4⟩ := HN.out.c5
   obtain ⟨lc0, lc1, lc2, lc3⟩ := HL.out.c4
   obtain ⟨ec0, ec1, ec2⟩ := HE.out.c3
   refine hK.out _ _ (fun _ => ⟨nc2, lc0, lc1, lc2, lc3, ec0, ec2⟩) ?_
   clear hK K
   try simp only [pt]
   refine nT 11 none rfl fun K hK => ?_
   obtain ⟨nc0, nc1, nc2, nc3, nc4⟩ := HN.out.c5
   obtain ⟨lc0, lc1, lc2, lc3⟩ := HL.out.c4
   obtain ⟨ec0, ec1, ec2⟩ := HE.out.c3
   obtain ⟨yc0, yc1, yc2, yc3, yc4, yc5, yc6⟩ := HS.out.c7
   obtain ⟨yf0, yf1, yf2, yf3, yf4, yf5, yf6⟩ := HS.out.f7
   go_simp
   have q318 := HN.out.lt
   have q319 := HT.out.ltT
   have q320 := HT.out.ltG
   have q321 := HL.out.lt
   have q322 := HE.out.lt
   have q323 := HM.out.lt
   have q324 := HS.out.lt
   have hnew := (((((((HS.out.set_ 0 (.pointer (some ⟨tb, 0, none⟩))).set_ 1 (.int .u64 (e.key : Int))).set_ 2 (.int .u64 (e.hash : Int))).set_ 3 (.pointer ap)).set_ 4 (.int .i64 s1)).set_ 5 (.pointer fp)).set_ 6 (.int .i64 s2))
   have hm := ((((((((Mod.refl [sb] v3).sl 0 (.pointer (some ⟨tb, 0, none⟩))).sl 1 (.int .u64 (e.key : Int))).sl 2 (.int .u64 (e.hash : Int))).sl 3 (.pointer ap)).sl 4 (.int .i64 s1)).sl 5 (.pointer fp)).sl 6 (.int .i64 s2))
   simp only [List.setIfInBounds_toArray, List.set_cons_zero, List.set_cons_succ] at hnew
   refine nameM hnew hm ?_
   clear hnew hm
   rintro v4 ⟨hnew, hm⟩
   clear nc0 nc1 nc2 nc3 nc4 lc0 lc1 lc2 lc3 ec0 ec1 ec2 yc0 yc1 yc2 yc3 yc4 yc5 yc6 yf0 yf1 yf2 yf3 yf4 yf5 yf6
   replace HN := qd (HN.out.mod hm (by simp <;> omega))
   replace HT := qd (HT.out.mod hm (by simp <;> omega) (by simp <;> omega))
   replace HV0 := qd (HV0.out.mod hm (by intro k hk <;> simp at hk <;> omega))
   replace HL := qd (HL.out.mod hm (by simp <;> omega))
   replace HE := qd (HE.out.mod hm (by simp <;> omega))
   replace HM := qd (HM.out.mod hm (by simp <;> omega))
   have z325 := (hm).size
   replace Hmod := qd (Hmod.out.tr hm)
   replace HS := qd hnew
   clear hnew hm
   obtain ⟨nc0, nc1, nc2, nc3, nc4⟩ := HN.out.c5
   obtain ⟨lc0, lc1, lc2, lc3⟩ := HL.out.c4
   obtain ⟨ec0, ec1, ec2⟩ := HE.out.c3
   refine hK.out _ _ (fun _ => ⟨nc2, lc0, lc1, lc2, lc3, ec0, ec2⟩) ?_
   clear hK K
   try simp only [pt]
   refine doneT (by kernel_rfl) ?_ _
   have z326 := Hmod.out.size
   exact ⟨sb, ap, fp, rfl, HN.out, HT.out, HV0.out, HL.out, HE.out, HM.out, HA.out, HF.out, HS.out, by omega, Hmod.out⟩
  ·obtain ⟨nc0, nc1, nc2, nc3, nc4⟩ := HN.out.c5
   obtain ⟨lc0, lc1, lc2, lc3⟩ := HL.out.c4
   obtain ⟨ec0, ec1, ec2⟩ := HE.out.c3
   go_simp
   have q409 := HN.out.lt
   have q410 := HT.out.ltT
   have q411 := HT.out.ltG
   have q412 := HM.out.lt
   have q413 := HL.out.lt
   have q414 := HE.out.lt
   have z415 := Hmod.out.size
   refine nameB 142 #[.pointer none, .int .u64 0, .int .u64 0, .pointer none, .int .i64 0, .pointer none, .int .i64 0] ?_
   rintro v5 ⟨hnew, hb⟩
   obtain ⟨sb, hsb⟩ : ∃ sb, sb = v1.heap.size := ⟨_, rfl⟩
   rw [← hsb] at hnew ⊢
   replace hsb : v1.heap.size ≤ sb := by omega
   clear nc0 nc1 nc2 nc3 nc4 lc0 lc1 lc2 lc3 ec0 ec1 ec2
   replace HN := qd (HN.out.mod (Mod.of_below hb []) (by simp))
   replace HT := qd (HT.out.mod (Mod.of_below hb []) (by simp) (by simp))
   replace HV0 := qd (HV0.out.mod (Mod.of_below hb []) (by simp))
   replace HM := qd (HM.out.mod (Mod.of_below hb []) (by simp))
   replace HL := qd (HL.out.mod (Mod.of_below hb []) (by simp))
   replace HE := qd (HE.out.mod (Mod.of_below hb []) (by simp))
   have z416 := (hb).size
   replace Hmod := qd (Hmod.out.then (Mod.of_below hb _))
   have HS := qd (hnew)
   clear hnew hb
   obtain ⟨nc0, nc1, nc2, nc3, nc4⟩ := HN.out.c5
   obtain ⟨lc0, lc1, lc2, lc3⟩ := HL.out.c4
   obtain ⟨ec0, ec1, ec2⟩ := HE.out.c3
   refine hK.out _ _ (fun _ => ⟨nc2, lc0, lc1, lc2, lc3, ec0, ec2⟩) ?_
   clear hK K
   try simp only [pt]
   refine nT 9 (some 38) rfl fun K hK => ?_
   obtain ⟨nc0, nc1, nc2, nc3, nc4⟩ := HN.out.c5
   obtain ⟨lc0, lc1, lc2, lc3⟩ := HL.out.c4
   obtain ⟨ec0, ec1, ec2⟩ := HE.out.c3
   go_simp
   have HSk := qd (seek_at tb gb e.key e.hash T P x c v5 HT.out hP h64 HM.out (by omega) (by omega) HV0.out hb0)
   rw [← HS1.out, ← HS2.out, ← HI1.out, ← HI2.out] at HSk
   unfold spotV tabP lensV at HSk
   refine (HSk.out).mono ?_
   rintro y v6 ⟨ap, fp, rfl, hap, hfp, hM2, hm⟩
   clear HSk
   clear HM
   clear nc0 nc1 nc2 nc3 nc4 lc0 lc1 lc2 lc3 ec0 ec1 ec2
   replace HN := qd (HN.out.mod hm (by simp <;> omega))
   replace HT := qd (HT.out.mod hm (by simp <;> omega) (by simp <;> omega))
   replace HV0 := qd (HV0.out.mod hm (by intro k hk <;> simp at hk <;> omega))
   replace HL := qd (HL.out.mod hm (by simp <;> omega))
   replace HE := qd (HE.out.mod hm (by simp <;> omega))
   replace HS := qd (HS.out.mod hm (by simp <;> omega))
   have z417 := (hm).size
   replace Hmod := qd (Hmod.out.tr hm)
   clear hm
   have HM := qd (hM2)
   have HA := qd (hap)
   have HF := qd (hfp)
   obtain ⟨nc0, nc1, nc2, nc3, nc4⟩ := HN.out.c5
   obtain ⟨lc0, lc1, lc2, lc3⟩ := HL.out.c4
   obtain ⟨ec0, ec1, ec2⟩ := HE.out.c3
   go_wp2_with fail
   refine hK.out _ _ (fun _ => ⟨nc2, lc0, lc1, lc2, lc3, ec0, ec2⟩) ?_
   clear hK K
   try simp only [pt]
   refine nT 11 none rfl fun K hK => ?_
   obtain ⟨nc0, nc1, nc2, nc3, nc4⟩ := HN.out.c5
   obtain ⟨lc0, lc1, lc2, lc3⟩ := HL.out.c4
   obtain ⟨ec0, ec1, ec2⟩ := HE.out.c3
   obtain ⟨yc0, yc1, yc2, yc3, yc4, yc5, yc6⟩ := HS.out.c7
   obtain ⟨yf0, yf1, yf2, yf3, yf4, yf5, yf6⟩ := HS.out.f7
   go_simp
   have q418 := HN.out.lt
   have q419 := HT.out.ltT
   have q420 := HT.out.ltG
   have q421 := HL.out.lt
   have q422 := HE.out.lt
   have q423 := HS.out.lt
   have q424 := HM.out.lt
   have hnew := (((((((HS.out.set_ 0 (.pointer (some ⟨tb, 0, none⟩))).set_ 1 (.int .u64 (e.key : Int))).set_ 2 (.int .u64 (e.hash : Int))).set_ 3 (.pointer ap)).set_ 4 (.int .i64 s1)).set_ 5 (.pointer fp)).set_ 6 (.int .i64 s2))
   have hm := ((((((((Mod.refl [sb] v6).sl 0 (.pointer (some ⟨tb, 0, none⟩))).sl 1 (.int .u64 (e.key : Int))).sl 2 (.int .u64 (e.hash : Int))).sl 3 (.pointer ap)).sl 4 (.int .i64 s1)).sl 5 (.pointer fp)).sl 6 (.int .i64 s2))
   simp only [List.setIfInBounds_toArray, List.set_cons_zero, List.set_cons_succ] at hnew
   refine nameM hnew hm ?_
   clear hnew hm
   rintro v7 ⟨hnew, hm⟩
   clear nc0 nc1 nc2 nc3 nc4 lc0 lc1 lc2 lc3 ec0 ec1 ec2 yc0 yc1 yc2 yc3 yc4 yc5 yc6 yf0 yf1 yf2 yf3 yf4 yf5 yf6
   replace HN := qd (HN.out.mod hm (by simp <;> omega))
   replace HT := qd (HT.out.mod hm (by simp <;> omega) (by simp <;> omega))
   replace HV0 := qd (HV0.out.mod hm (by intro k hk <;> simp at hk <;> omega))
   replace HL := qd (HL.out.mod hm (by simp <;> omega))
   replace HE := qd (HE.out.mod hm (by simp <;> omega))
   replace HM := qd (HM.out.mod hm (by simp <;> omega))
   have z425 := (hm).size
   replace Hmod := qd (Hmod.out.tr hm)
   replace HS := qd hnew
   clear hnew hm
   obtain ⟨nc0, nc1, nc2, nc3, nc4⟩ := HN.out.c5
   obtain ⟨lc0, lc1, lc2, lc3⟩ := HL.out.c4
   obtain ⟨ec0, ec1, ec2⟩ := HE.out.c3
   refine hK.out _ _ (fun _ => ⟨nc2, lc0, lc1, lc2, lc3, ec0, ec2⟩) ?_
   clear hK K
   try simp only [pt]
   refine doneT (by kernel_rfl) ?_ _
   have z426 := Hmod.out.size
   exact ⟨sb, ap, fp, rfl, HN.out, HT.out, HV0.out, HL.out, HE.out, HM.out, HA.out, HF.out, HS.out, by omega, Hmod.out⟩
 clear nc0 nc1 nc2 nc3 nc4 lc0 lc1 lc2 lc3 ec0 ec1 ec2
 clear HN
 clear HT
 clear HV0
 clear HM
 clear HL
 clear HE
 clear Hmod
 rintro a' w2 ⟨sb, ap, fp, rfl, m_N, m_T, m_V0, m_L, m_E, m_M, m_A, m_F, m_box, hle_sb, m_mod⟩
 have HN := qd (m_N)
 have HT := qd (m_T)
 have HV0 := qd (m_V0)
 have HL := qd (m_L)
 have HE := qd (m_E)
 have HM := qd (m_M)
 have HA := qd (m_A)
 have HF := qd (m_F)
 have HS := qd (m_box)
 have Hmod := qd (m_mod)
 clear m_N m_T m_V0 m_L m_E m_M m_A m_F m_box m_mod
 go_upto_region 4 with fail
 obtain ⟨sc0, sc1, sc2, sc3, sc4, sc5, sc6⟩ := HS.out.c7
 have HEnt := qd (spot_Entry tb gb e.key e.hash T ap fp s2 (by rw [← HS1.out]; exact HA.out) w2 HT.out)
 unfold foundE at HEnt
 rw [← HS1.out, ← HI1.out] at HEnt
 unfold spotV optE entV at HEnt
 simp only [Option.isSome_map] at HEnt
 have hq := HS1.out
 rw [hsk] at hq
 rw [hq] at HEnt HA HI1
 simp only [Option.map_some, he0, Option.getD_some, Option.isSome_some, Slot.ent] at HEnt
 clear hq
 go_wp2_with fail
 refine (HEnt.out).mono ?_
 rintro x w3 ⟨rfl, hb⟩
 clear sc0 sc1 sc2 sc3 sc4 sc5 sc6
 replace HN := qd (HN.out.mod (Mod.of_below hb []) (by simp))
 replace HT := qd (HT.out.mod (Mod.of_below hb []) (by simp) (by simp))
 replace HV0 := qd (HV0.out.mod (Mod.of_below hb []) (by simp))
 replace HL := qd (HL.out.mod (Mod.of_below hb []) (by simp))
 replace HE := qd (HE.out.mod (Mod.of_below hb []) (by simp))
 replace HM := qd (HM.out.mod (Mod.of_below hb []) (by simp))
 replace HS := qd (HS.out.mod (Mod.of_below hb []) (by simp))
 have z8 := (hb).size
 replace Hmod := qd (Hmod.out.then (Mod.of_below hb _))
 clear hb
 clear HEnt
 go_upto_region 6 with fail
 have q9 := HN.out.lt
 have q10 := HT.out.ltT
 have q11 := HT.out.ltG
 have q12 := HL.out.lt
 have q13 := HE.out.lt
 have q14 := HM.out.lt
 have q15 := HS.out.lt
 have z16 := Hmod.out.size
 refine nameB 37 #[.int .u64 (e0.key : Int), .int .u64 (e0.val : Int), .int .u64 (e0.hash : Int)] ?_
 rintro w4 ⟨hnew, hb⟩
 replace HN := qd (HN.out.mod (Mod.of_below hb []) (by simp))
 replace HT := qd (HT.out.mod (Mod.of_below hb []) (by simp) (by simp))
 replace HV0 := qd (HV0.out.mod (Mod.of_below hb []) (by simp))
 replace HL := qd (HL.out.mod (Mod.of_below hb []) (by simp))
 replace HE := qd (HE.out.mod (Mod.of_below hb []) (by simp))
 replace HM := qd (HM.out.mod (Mod.of_below hb []) (by simp))
 replace HS := qd (HS.out.mod (Mod.of_below hb []) (by simp))
 have z17 := (hb).size
 replace Hmod := qd (Hmod.out.then (Mod.of_below hb _))
 have HD := qd (hnew)
 clear hnew hb
 have hi1 := HI1.out
 simp only [slotI] at hi1
 subst hi1
 obtain rfl := HA.out i s rfl
 clear HA HF HI1 HI2 HS1 HS2
 obtain ⟨sc0, sc1, sc2, sc3, sc4, sc5, sc6⟩ := HS.out.c7
 obtain ⟨ec0, ec1, ec2⟩ := HE.out.c3
 have HRe := qd (spot_Replace tb e.key e.hash gb fp s2 T i s e.val hil hs8 e0 he0 w4 HT.out)
 unfold spotV at HRe
 clear HT
 clear HV0
 go_wp2_with fail
 refine (HRe.out).mono ?_
 rintro x w5 ⟨rfl, hT5, hm⟩
 clear sc0 sc1 sc2 sc3 sc4 sc5 sc6 ec0 ec1 ec2
 replace HN := qd (HN.out.mod hm (by simp <;> omega))
 replace HL := qd (HL.out.mod hm (by simp <;> omega))
 replace HE := qd (HE.out.mod hm (by simp <;> omega))
 replace HM := qd (HM.out.mod hm (by simp <;> omega))
 replace HS := qd (HS.out.mod hm (by simp <;> omega))
 replace HD := qd (HD.out.mod hm (by simp <;> omega))
 have z18 := (hm).size
 replace Hmod := qd (Hmod.out.tr hm)
 clear hm
 have HT := qd (hT5)
 clear hT5
 go_wp2
 refine bodyPost_ret (v := .tuple #[.bool false, .nilIface]) (by simp [results, Tryz.results36, go_sem]) rfl ⟨rfl, HT.out, HM.out, Hmod.out⟩
theorem node_Put_new {W0 : World} {E : Nat → Addr} (nb tb gb : Nat) (pfx dpt job : Int) (T : TabM) (P : MP) (x : Mtr) (c : Cnt) (e : Ent) (w : World) (hnd : Blk w nb 114 #[.int .i64 pfx, .int .i64 dpt, .pointer (some ⟨tb, 0, none⟩), .int .i64 job, .pointer none]) (h : TabAt w tb gb T) (hP : Pw T.gs.length) (h64 : e.hash < 18446744073709551616) (hM : MetP w P x) (hEn : Env W0 E w) (hb0 : W0.heap.size ≤ P.mb) (hmt : P.mb ≠ tb) (hmg : P.mb ≠ gb) (hmn : P.mb ≠ nb) (hnt : nb ≠ tb) (hng : nb ≠ gb) (hsk : (seek T.gs e.key e.hash).1 = none) (i s : Nat) (hfr : (seek T.gs e.key e.hash).2.1 = some (i, s)) (hSm : Small T) (hroom : T.live + T.tombs + 1 ≤ 7 * (T.gs.length : Int)) :
  Calls Tryz.prog 36 #[nodeP nb, lensV (some ⟨P.mb, P.mo, none⟩) c, entV e, .bool true] w fun y w' => y = .returned (.tuple #[.bool true, .nilIface]) ∧ TabAt w' tb gb (placeM T i s e) ∧ MetP w' P (x.add c (seek T.gs e.key e.hash).2.2) ∧ Mod [P.mb, tb, gb] w w' := by
 have hB := ((Below.refl w.heap.size w).alloc (Nat.le_refl _) (.cells #[.pointer (some ⟨P.mb, P.mo, none⟩), .int .i64 c.p, .int .i64 c.v, .int .i64 c.u] 89)).alloc (by simp) (.cells #[.int .u64 (e.key : Int), .int .u64 (e.val : Int), .int .u64 (e.hash : Int)] 37)
 have hL := (Blk.new w 89 #[.pointer (some ⟨P.mb, P.mo, none⟩), .int .i64 c.p, .int .i64 c.v, .int .i64 c.u]).alloc (.cells #[.int .u64 (e.key : Int), .int .u64 (e.val : Int), .int .u64 (e.hash : Int)] 37)
 have hE := Blk.new (w.alloc (.cells #[.pointer (some ⟨P.mb, P.mo, none⟩), .int .i64 c.p, .int .i64 c.v, .int .i64 c.u] 89)) 37 #[.int .u64 (e.key : Int), .int .u64 (e.val : Int), .int .u64 (e.hash : Int)]
 simp only [World.size_alloc] at hE
 obtain ⟨W, hW⟩ : ∃ W, W = (w.alloc (.cells #[.pointer (some ⟨P.mb, P.mo, none⟩), .int .i64 c.p, .int .i64 c.v, .int .i64 c.u] 89)).alloc (.cells #[.int .u64 (e.key : Int), .int .u64 (e.val : Int), .int .u64 (e.hash : Int)] 37) := ⟨_, rfl⟩
 rw [← hW] at hB hL hE
 have hml := hM.lt
 have hnl := hnd.lt
 have htl := h.ltT
 have hgl := h.ltG
 have hB0 := hEn.size
 have HW := qd hW
 unfold nodeP lensV entV
 obtain ⟨sk1, hsk1⟩ : ∃ s, s = (seek T.gs e.key e.hash).1 := ⟨_, rfl⟩
 obtain ⟨sk2, hsk2⟩ : ∃ s, s = (seek T.gs e.key e.hash).2.1 := ⟨_, rfl⟩
 have HS1 := qd hsk1
 have HS2 := qd hsk2
 clear hsk1 hsk2
 obtain ⟨s1, hs1⟩ : ∃ s, s = slotI sk1 := ⟨_, rfl⟩
 obtain ⟨s2, hs2⟩ : ∃ s, s = slotI sk2 := ⟨_, rfl⟩
 have HI1 := qd hs1
 have HI2 := qd hs2
 clear hs1 hs2
 have hFp := seek_freePl T.gs hP.pos e.key e.hash i s hfr
 have hs8 : s < 8 := by have := h.wide.at_ (i := i) hFp.1; omega
 have HN := qd (hnd.below hB hnd.lt)
 have HT := qd (h.below hB)
 have HV0 := qd (hEn.next hB)
 have HM := qd (hM.below hB)
 have HL := qd (hL)
 have HE := qd (hE)
 have Hmod := qd (Mod.of_below hB [P.mb, tb, gb])
 clear hW hB hnd h hM hEn hL hE
 go_enter Tryz.func36, Tryz.ntmps36
 go_upto_region 1 with fail
 rw [← HW.out]
 obtain ⟨nc0, nc1, nc2, nc3, nc4⟩ := HN.out.c5
 obtain ⟨lc0, lc1, lc2, lc3⟩ := HL.out.c4
 obtain ⟨ec0, ec1, ec2⟩ := HE.out.c3
 go_upto_region 3 with fail
 have q1 := HN.out.lt
 have q2 := HT.out.ltT
 have q3 := HT.out.ltG
 have q4 := HM.out.lt
 have q5 := HL.out.lt
 have q6 := HE.out.lt
 have z7 := Hmod.out.size
 refine cutT (fun a' wz => ∃ sb ap fp, a' = { tmps := #[.pointer (some ⟨nb, 0, none⟩), .agg #[.pointer (some ⟨P.mb, P.mo, none⟩), .int .i64 c.p, .int .i64 c.v, .int .i64 c.u], .agg #[.int .u64 (e.key : Int), .int .u64 (e.val : Int), .int .u64 (e.hash : Int)], .bool true, undef, .pointer (some ⟨w.heap.size, 0, none⟩), .pointer (some ⟨w.heap.size + 1, 0, none⟩), undef, .bool false, .nilIface, .pointer (some ⟨sb, 0, none⟩), undef, undef, undef, .pointer (some ⟨nb, 0, none⟩), .pointer (some ⟨nb, 0, none⟩), .pointer (some ⟨nb, 4, none⟩), .pointer none, .bool false, undef, undef, undef, undef, undef, undef, undef, undef, undef, undef, .pointer (some ⟨nb, 0, none⟩), .pointer (some ⟨nb, 0, none⟩), .pointer (some ⟨nb, 2, none⟩), .pointer (some ⟨tb, 0, none⟩), .agg #[.pointer (some ⟨P.mb, P.mo, none⟩), .int .i64 c.p, .int .i64 c.v, .int .i64 c.u], .pointer (some ⟨w.heap.size + 1, 0, none⟩), .int .u64 (e.key : Int), .pointer (some ⟨w.heap.size + 1, 2, none⟩), .int .u64 (e.hash : Int), .agg #[.pointer (some ⟨tb, 0, none⟩), .int .u64 (e.key : Int), .int .u64 (e.hash : Int), .pointer ap, .int .i64 s1, .pointer fp, .int .i64 s2], undef, undef, undef, undef, undef, undef, undef, undef, undef, undef, undef, undef, undef, undef, undef, undef, undef, undef, undef], defers := [] } ∧ Blk wz nb 114 #[.int .i64 pfx, .int .i64 dpt, .pointer (some ⟨tb, 0, none⟩), .int .i64 job, .pointer none] ∧ TabAt wz tb gb T ∧ Env W0 E wz ∧ Blk wz w.heap.size 89 #[.pointer (some ⟨P.mb, P.mo, none⟩), .int .i64 c.p, .int .i64 c.v, .int .i64 c.u] ∧ Blk wz (w.heap.size + 1) 37 #[.int .u64 (e.key : Int), .int .u64 (e.val : Int), .int .u64 (e.hash : Int)] ∧ MetP wz P (x.add c (seek T.gs e.key e.hash).2.2) ∧ PtrOf gb sk1 ap ∧ PtrOf gb sk2 fp ∧ Blk wz sb 142 #[.pointer (some ⟨tb, 0, none⟩), .int .u64 (e.key : Int), .int .u64 (e.hash : Int), .pointer ap, .int .i64 s1, .pointer fp, .int .i64 s2] ∧ W.heap.size ≤ sb ∧ Mod ([P.mb, tb, gb]) w wz) ?_ ?_
 ·refine region_T (fun (w' : World) => w'.cell? ⟨nb, 2, none⟩ = some (.pointer (some ⟨tb, 0, none⟩)) ∧ w'.cell? ⟨w.heap.size, 0, none⟩ = some (.pointer (some ⟨P.mb, P.mo, none⟩)) ∧ w'.cell? ⟨w.heap.size, 1, none⟩ = some (.int .i64 c.p) ∧ w'.cell? ⟨w.heap.size, 2, none⟩ = some (.int .i64 c.v) ∧ w'.cell? ⟨w.heap.size, 3, none⟩ = some (.int .i64 c.u) ∧ w'.cell? ⟨w.heap.size + 1, 0, none⟩ = some (.int .u64 (e.key : Int)) ∧ w'.cell? ⟨w.heap.size + 1, 2, none⟩ = some (.int .u64 (e.hash : Int))) [] (by kernel_rfl) ?_
  try (change wpAnyT _ _ _ _ _ _ _ _ _ (World.drew _))
  have hHeld := (⟨nc2, lc0, lc1, lc2, lc3, ec0, ec2⟩ : _ ∧ _ ∧ _ ∧ _ ∧ _ ∧ _ ∧ _)
  refine tW 0 (some 29) (.pointer (some ⟨nb, 0, none⟩)) rfl hHeld ?_
  try simp only [pt]
  refine tW 1 (some 30) (.pointer (some ⟨nb, 0, none⟩)) rfl hHeld ?_
  try simp only [pt]
  refine tW 2 (some 31) (.pointer (some ⟨nb, 2, none⟩)) rfl hHeld ?_
  try simp only [pt]
  refine tT 3 (some 32) (.pointer (some ⟨tb, 0, none⟩)) rfl (by rintro w ⟨hh0, hh1, hh2, hh3, hh4, hh5, hh6⟩; go_simp) hHeld ?_
  try simp only [pt]
  refine tT 4 (some 33) (.agg #[.pointer (some ⟨P.mb, P.mo, none⟩), .int .i64 c.p, .int .i64 c.v, .int .i64 c.u]) rfl (by rintro w ⟨hh0, hh1, hh2, hh3, hh4, hh5, hh6⟩; go_simp) hHeld ?_
  try simp only [pt]
  refine tW 5 (some 34) (.pointer (some ⟨w.heap.size + 1, 0, none⟩)) rfl hHeld ?_
  try simp only [pt]
  refine tT 6 (some 35) (.int .u64 (e.key : Int)) rfl (by rintro w ⟨hh0, hh1, hh2, hh3, hh4, hh5, hh6⟩; go_simp) hHeld ?_
  try simp only [pt]
  refine tW 7 (some 36) (.pointer (some ⟨w.heap.size + 1, 2, none⟩)) rfl hHeld ?_
  try simp only [pt]
  refine tT 8 (some 37) (.int .u64 (e.hash : Int)) rfl (by rintro w ⟨hh0, hh1, hh2, hh3, hh4, hh5, hh6⟩; go_simp) hHeld ?_
  try simp only [pt]
  clear hHeld
  refine nameW (F := fun v => Mod [] W v) (Mod.drewN [] W 1) ?_
  rintro v1 hm
  clear nc0 nc1 nc2 nc3 nc4 lc0 lc1 lc2 lc3 ec0 ec1 ec2
  replace HN := qd (HN.out.mod hm (by simp))
  replace HT := qd (HT.out.mod hm (by simp) (by simp))
  replace HV0 := qd (HV0.out.mod hm (by intro k hk <;> simp at hk <;> omega))
  replace HM := qd (HM.out.mod hm (by simp))
  replace HL := qd (HL.out.mod hm (by simp))
  replace HE := qd (HE.out.mod hm (by simp))
  have z208 := (hm).size
  replace Hmod := qd (Hmod.out.tr hm)
  clear hm
  refine pairT (i := 9) (j := 10) (o := ⟨some 38, _, _, _, _, _⟩) (o' := ⟨some 10, _, _, _, _, _⟩) rfl rfl (by kernel_rfl) (fun K hK => ?_) (fun K hK => ?_)
  ·obtain ⟨nc0, nc1, nc2, nc3, nc4⟩ := HN.out.c5
   obtain ⟨lc0, lc1, lc2, lc3⟩ := HL.out.c4
   obtain ⟨ec0, ec1, ec2⟩ := HE.out.c3
   go_simp
   have HSk := qd (seek_at tb gb e.key e.hash T P x c v1 HT.out hP h64 HM.out (by omega) (by omega) HV0.out hb0)
   rw [← HS1.out, ← HS2.out, ← HI1.out, ← HI2.out] at HSk
   unfold spotV tabP lensV at HSk
   refine (HSk.out).mono ?_
   rintro y v2 ⟨ap, fp, rfl, hap, hfp, hM2, hm⟩
   clear HSk
   clear HM
   clear nc0 nc1 nc2 nc3 nc4 lc0 lc1 lc2 lc3 ec0 ec1 ec2
   replace HN := qd (HN.out.mod hm (by simp <;> omega))
   replace HT := qd (HT.out.mod hm (by simp <;> omega) (by simp <;> omega))
   replace HV0 := qd (HV0.out.mod hm (by intro k hk <;> simp at hk <;> omega))
   replace HL := qd (HL.out.mod hm (by simp <;> omega))
   replace HE := qd (HE.out.mod hm (by simp <;> omega))
   have z309 := (hm).size
   replace Hmod := qd (Hmod.out.tr hm)
   clear hm
   have HM := qd (hM2)
   have HA := qd (hap)
   have HF := qd (hfp)
   obtain ⟨nc0, nc1, nc2, nc3, nc4⟩ := HN.out.c5
   obtain ⟨lc0, lc1, lc2, lc3⟩ := HL.out.c4
   obtain ⟨ec0, ec1, ec2⟩ := HE.out.c3
   go_wp2_with fail
   refine hK.out _ _ (fun _ => ⟨nc2, lc0, lc1, lc2, lc3, ec0, ec2⟩) ?_
   clear hK K
   try simp only [pt]
   refine nT 10 (some 10) rfl fun K hK => ?_
   obtain ⟨nc0, nc1, nc2, nc3, nc4⟩ := HN.out.c5
   obtain ⟨lc0, lc1, lc2, lc3⟩ := HL.out.c4
   obtain ⟨ec0, ec1, ec2⟩ := HE.out.c3
   go_simp
   have q310 := HN.out.lt
   have q311 := HT.out.ltT
   have q312 := HT.out.ltG
   have q313 := HL.out.lt
   have q314 := HE.out.lt
   have q315 := HM.out.lt
   have z316 := Hmod.out.size
   refine nameB 142 #[.pointer none, .int .u64 0, .int .u64 0, .pointer none, .int .i64 0, .pointer none, .int .i64 0] ?_
   rintro v3 ⟨hnew, hb⟩
   obtain ⟨sb, hsb⟩ : ∃ sb, sb = v2.heap.size := ⟨_, rfl⟩
   rw [← hsb] at hnew ⊢
   replace hsb : v2.heap.size ≤ sb := by omega
   clear nc0 nc1 nc2 nc3 nc4 lc0 lc1 lc2 lc3 ec0 ec1 ec2
   replace HN := qd (HN.out.mod (Mod.of_below hb []) (by simp))
   replace HT := qd (HT.out.mod (Mod.of_below hb []) (by simp) (by simp))
   replace HV0 := qd (HV0.out.mod (Mod.of_below hb []) (by simp))
   replace HL := qd (HL.out.mod (Mod.of_below hb []) (by simp))
   replace HE := qd (HE.out.mod (Mod.of_below hb []) (by simp))
   replace HM := qd (HM.out.mod (Mod.of_below hb []) (by simp))
   have z317 := (hb).size
   replace Hmod := qd (Hmod.out.then (Mod.of_below hb _))
   have HS := qd (hnew)
   clear hnew hb
   obtain ⟨nc0, nc1, nc2, nc3, nc4⟩ := HN.out.c5
   obtain ⟨lc0, lc1, lc2, lc3⟩ := HL.out.c4
   obtain ⟨ec0, ec1, ec2⟩ := HE.out.c3
   refine hK.out _ _ (fun _ => ⟨nc2, lc0, lc1, lc2, lc3, ec0, ec2⟩) ?_
   clear hK K
   try simp only [pt]
   refine nT 11 none rfl fun K hK => ?_
   obtain ⟨nc0, nc1, nc2, nc3, nc4⟩ := HN.out.c5
   obtain ⟨lc0, lc1, lc2, lc3⟩ := HL.out.c4
   obtain ⟨ec0, ec1, ec2⟩ := HE.out.c3
   obtain ⟨yc0, yc1, yc2, yc3, yc4, yc5, yc6⟩ := HS.out.c7
   obtain ⟨yf0, yf1, yf2, yf3, yf4, yf5, yf6⟩ := HS.out.f7
   go_simp
   have q318 := HN.out.lt
   have q319 := HT.out.ltT
   have q320 := HT.out.ltG
   have q321 := HL.out.lt
   have q322 := HE.out.lt
   have q323 := HM.out.lt
   have q324 := HS.out.lt
   have hnew := (((((((HS.out.set_ 0 (.pointer (some ⟨tb, 0, none⟩))).set_ 1 (.int .u64 (e.key : Int))).set_ 2 (.int .u64 (e.hash : Int))).set_ 3 (.pointer ap)).set_ 4 (.int .i64 s1)).set_ 5 (.pointer fp)).set_ 6 (.int .i64 s2))
   have hm := ((((((((Mod.refl [sb] v3).sl 0 (.pointer (some ⟨tb, 0, none⟩))).sl 1 (.int .u64 (e.key : Int))).sl 2 (.int .u64 (e.hash : Int))).sl 3 (.pointer ap)).sl 4 (.int .i64 s1)).sl 5 (.pointer fp)).sl 6 (.int .i64 s2))
   simp only [List.setIfInBounds_toArray, List.set_cons_zero, List.set_cons_succ] at hnew
   refine nameM hnew hm ?_
   clear hnew hm
   rintro v4 ⟨hnew, hm⟩
   clear nc0 nc1 nc2 nc3 nc4 lc0 lc1 lc2 lc3 ec0 ec1 ec2 yc0 yc1 yc2 yc3 yc4 yc5 yc6 yf0 yf1 yf2 yf3 yf4 yf5 yf6
   replace HN := qd (HN.out.mod hm (by simp <;> omega))
   replace HT := qd (HT.out.mod hm (by simp <;> omega) (by simp <;> omega))
   replace HV0 := qd (HV0.out.mod hm (by intro k hk <;> simp at hk <;> omega))
   replace HL := qd (HL.out.mod hm (by simp <;> omega))
   replace HE := qd (HE.out.mod hm (by simp <;> omega))
   replace HM := qd (HM.out.mod hm (by simp <;> omega))
   have z325 := (hm).size
   replace Hmod := qd (Hmod.out.tr hm)
   replace HS := qd hnew
   clear hnew hm
   obtain ⟨nc0, nc1, nc2, nc3, nc4⟩ := HN.out.c5
   obtain ⟨lc0, lc1, lc2, lc3⟩ := HL.out.c4
   obtain ⟨ec0, ec1, ec2⟩ := HE.out.c3
   refine hK.out _ _ (fun _ => ⟨nc2, lc0, lc1, lc2, lc3, ec0, ec2⟩) ?_
   clear hK K
   try simp only [pt]
   refine doneT (by kernel_rfl) ?_ _
   have z326 := Hmod.out.size
   exact ⟨sb, ap, fp, rfl, HN.out, HT.out, HV0.out, HL.out, HE.out, HM.out, HA.out, HF.out, HS.out, by omega, Hmod.out⟩
  ·obtain ⟨nc0, nc1, nc2, nc3, nc4⟩ := HN.out.c5
   obtain ⟨lc0, lc1, lc2, lc3⟩ := HL.out.c4
   obtain ⟨ec0, ec1, ec2⟩ := HE.out.c3
   go_simp
   have q409 := HN.out.lt
   have q410 := HT.out.ltT
   have q411 := HT.out.ltG
   have q412 := HM.out.lt
   have q413 := HL.out.lt
   have q414 := HE.out.lt
   have z415 := Hmod.out.size
   refine nameB 142 #[.pointer none, .int .u64 0, .int .u64 0, .pointer none, .int .i64 0, .pointer none, .int .i64 0] ?_
   rintro v5 ⟨hnew, hb⟩
   obtain ⟨sb, hsb⟩ : ∃ sb, sb = v1.heap.size := ⟨_, rfl⟩
   rw [← hsb] at hnew ⊢
   replace hsb : v1.heap.size ≤ sb := by omega
   clear nc0 nc1 nc2 nc3 nc4 lc0 lc1 lc2 lc3 ec0 ec1 ec2
   replace HN := qd (HN.out.mod (Mod.of_below hb []) (by simp))
   replace HT := qd (HT.out.mod (Mod.of_below hb []) (by simp) (by simp))
   replace HV0 := qd (HV0.out.mod (Mod.of_below hb []) (by simp))
   replace HM := qd (HM.out.mod (Mod.of_below hb []) (by simp))
   replace HL := qd (HL.out.mod (Mod.of_below hb []) (by simp))
   replace HE := qd (HE.out.mod (Mod.of_below hb []) (by simp))
   have z416 := (hb).size
   replace Hmod := qd (Hmod.out.then (Mod.of_below hb _))
   have HS := qd (hnew)
   clear hnew hb
   obtain ⟨nc0, nc1, nc2, nc3, nc4⟩ := HN.out.c5
   obtain ⟨lc0, lc1, lc2, lc3⟩ := HL.out.c4
   obtain ⟨ec0, ec1, ec2⟩ := HE.out.c3
   refine hK.out _ _ (fun _ => ⟨nc2, lc0, lc1, lc2, lc3, ec0, ec2⟩) ?_
   clear hK K
   try simp only [pt]
   refine nT 9 (some 38) rfl fun K hK => ?_
   obtain ⟨nc0, nc1, nc2, nc3, nc4⟩ := HN.out.c5
   obtain ⟨lc0, lc1, lc2, lc3⟩ := HL.out.c4
   obtain ⟨ec0, ec1, ec2⟩ := HE.out.c3
   go_simp
   have HSk := qd (seek_at tb gb e.key e.hash T P x c v5 HT.out hP h64 HM.out (by omega) (by omega) HV0.out hb0)
   rw [← HS1.out, ← HS2.out, ← HI1.out, ← HI2.out] at HSk
   unfold spotV tabP lensV at HSk
   refine (HSk.out).mono ?_
   rintro y v6 ⟨ap, fp, rfl, hap, hfp, hM2, hm⟩
   clear HSk
   clear HM
   clear nc0 nc1 nc2 nc3 nc4 lc0 lc1 lc2 lc3 ec0 ec1 ec2
   replace HN := qd (HN.out.mod hm (by simp <;> omega))
   replace HT := qd (HT.out.mod hm (by simp <;> omega) (by simp <;> omega))
   replace HV0 := qd (HV0.out.mod hm (by intro k hk <;> simp at hk <;> omega))
   replace HL := qd (HL.out.mod hm (by simp <;> omega))
   replace HE := qd (HE.out.mod hm (by simp <;> omega))
   replace HS := qd (HS.out.mod hm (by simp <;> omega))
   have z417 := (hm).size
   replace Hmod := qd (Hmod.out.tr hm)
   clear hm
   have HM := qd (hM2)
   have HA := qd (hap)
   have HF := qd (hfp)
   obtain ⟨nc0, nc1, nc2, nc3, nc4⟩ := HN.out.c5
   obtain ⟨lc0, lc1, lc2, lc3⟩ := HL.out.c4
   obtain ⟨ec0, ec1, ec2⟩ := HE.out.c3
   go_wp2_with fail
   refine hK.out _ _ (fun _ => ⟨nc2, lc0, lc1, lc2, lc3, ec0, ec2⟩) ?_
   clear hK K
   try simp only [pt]
   refine nT 11 none rfl fun K hK => ?_
   obtain ⟨nc0, nc1, nc2, nc3, nc4⟩ := HN.out.c5
   obtain ⟨lc0, lc1, lc2, lc3⟩ := HL.out.c4
   obtain ⟨ec0, ec1, ec2⟩ := HE.out.c3
   obtain ⟨yc0, yc1, yc2, yc3, yc4, yc5, yc6⟩ := HS.out.c7
   obtain ⟨yf0, yf1, yf2, yf3, yf4, yf5, yf6⟩ := HS.out.f7
   go_simp
   have q418 := HN.out.lt
   have q419 := HT.out.ltT
   have q420 := HT.out.ltG
   have q421 := HL.out.lt
   have q422 := HE.out.lt
   have q423 := HS.out.lt
   have q424 := HM.out.lt
   have hnew := (((((((HS.out.set_ 0 (.pointer (some ⟨tb, 0, none⟩))).set_ 1 (.int .u64 (e.key : Int))).set_ 2 (.int .u64 (e.hash : Int))).set_ 3 (.pointer ap)).set_ 4 (.int .i64 s1)).set_ 5 (.pointer fp)).set_ 6 (.int .i64 s2))
   have hm := ((((((((Mod.refl [sb] v6).sl 0 (.pointer (some ⟨tb, 0, none⟩))).sl 1 (.int .u64 (e.key : Int))).sl 2 (.int .u64 (e.hash : Int))).sl 3 (.pointer ap)).sl 4 (.int .i64 s1)).sl 5 (.pointer fp)).sl 6 (.int .i64 s2))
   simp only [List.setIfInBounds_toArray, List.set_cons_zero, List.set_cons_succ] at hnew
   refine nameM hnew hm ?_
   clear hnew hm
   rintro v7 ⟨hnew, hm⟩
   clear nc0 nc1 nc2 nc3 nc4 lc0 lc1 lc2 lc3 ec0 ec1 ec2 yc0 yc1 yc2 yc3 yc4 yc5 yc6 yf0 yf1 yf2 yf3 yf4 yf5 yf6
   replace HN := qd (HN.out.mod hm (by simp <;> omega))
   replace HT := qd (HT.out.mod hm (by simp <;> omega) (by simp <;> omega))
   replace HV0 := qd (HV0.out.mod hm (by intro k hk <;> simp at hk <;> omega))
   replace HL := qd (HL.out.mod hm (by simp <;> omega))
   replace HE := qd (HE.out.mod hm (by simp <;> omega))
   replace HM := qd (HM.out.mod hm (by simp <;> omega))
   have z425 := (hm).size
   replace Hmod := qd (Hmod.out.tr hm)
   replace HS := qd hnew
   clear hnew hm
   obtain ⟨nc0, nc1, nc2, nc3, nc4⟩ := HN.out.c5
   obtain ⟨lc0, lc1, lc2, lc3⟩ := HL.out.c4
   obtain ⟨ec0, ec1, ec2⟩ := HE.out.c3
   refine hK.out _ _ (fun _ => ⟨nc2, lc0, lc1, lc2, lc3, ec0, ec2⟩) ?_
   clear hK K
   try simp only [pt]
   refine doneT (by kernel_rfl) ?_ _
   have z426 := Hmod.out.size
   exact ⟨sb, ap, fp, rfl, HN.out, HT.out, HV0.out, HL.out, HE.out, HM.out, HA.out, HF.out, HS.out, by omega, Hmod.out⟩
 clear nc0 nc1 nc2 nc3 nc4 lc0 lc1 lc2 lc3 ec0 ec1 ec2
 clear HN
 clear HT
 clear HV0
 clear HM
 clear HL
 clear HE
 clear Hmod
 rintro a' w2 ⟨sb, ap, fp, rfl, m_N, m_T, m_V0, m_L, m_E, m_M, m_A, m_F, m_box, hle_sb, m_mod⟩
 have HN := qd (m_N)
 have HT := qd (m_T)
 have HV0 := qd (m_V0)
 have HL := qd (m_L)
 have HE := qd (m_E)
 have HM := qd (m_M)
 have HA := qd (m_A)
 have HF := qd (m_F)
 have HS := qd (m_box)
 have Hmod := qd (m_mod)
 clear m_N m_T m_V0 m_L m_E m_M m_A m_F m_box m_mod
 go_upto_region 4 with fail
 obtain ⟨sc0, sc1, sc2, sc3, sc4, sc5, sc6⟩ := HS.out.c7
 have HEnt := qd (spot_Entry tb gb e.key e.hash T ap fp s2 (by rw [← HS1.out]; exact HA.out) w2 HT.out)
 unfold foundE at HEnt
 rw [← HS1.out, ← HI1.out] at HEnt
 unfold spotV optE entV at HEnt
 simp only [Option.isSome_map] at HEnt
 have hq := HS1.out
 rw [hsk] at hq
 rw [hq] at HEnt HA HI1
 simp only [Option.map_none, Option.getD_none, Option.isSome_none] at HEnt
 clear hq
 go_wp2_with fail
 refine (HEnt.out).mono ?_
 rintro x w3 ⟨rfl, hb⟩
 clear sc0 sc1 sc2 sc3 sc4 sc5 sc6
 replace HN := qd (HN.out.mod (Mod.of_below hb []) (by simp))
 replace HT := qd (HT.out.mod (Mod.of_below hb []) (by simp) (by simp))
 replace HV0 := qd (HV0.out.mod (Mod.of_below hb []) (by simp))
 replace HL := qd (HL.out.mod (Mod.of_below hb []) (by simp))
 replace HE := qd (HE.out.mod (Mod.of_below hb []) (by simp))
 replace HM := qd (HM.out.mod (Mod.of_below hb []) (by simp))
 replace HS := qd (HS.out.mod (Mod.of_below hb []) (by simp))
 have z8 := (hb).size
 replace Hmod := qd (Hmod.out.then (Mod.of_below hb _))
 clear hb
 clear HEnt
 go_upto_region 9 with fail
 have q9 := HN.out.lt
 have q10 := HT.out.ltT
 have q11 := HT.out.ltG
 have q12 := HL.out.lt
 have q13 := HE.out.lt
 have q14 := HM.out.lt
 have q15 := HS.out.lt
 have z16 := Hmod.out.size
 refine nameB 37 #[.int .u64 0, .int .u64 0, .int .u64 0] ?_
 rintro w4 ⟨hnew, hb⟩
 replace HN := qd (HN.out.mod (Mod.of_below hb []) (by simp))
 replace HT := qd (HT.out.mod (Mod.of_below hb []) (by simp) (by simp))
 replace HV0 := qd (HV0.out.mod (Mod.of_below hb []) (by simp))
 replace HL := qd (HL.out.mod (Mod.of_below hb []) (by simp))
 replace HE := qd (HE.out.mod (Mod.of_below hb []) (by simp))
 replace HM := qd (HM.out.mod (Mod.of_below hb []) (by simp))
 replace HS := qd (HS.out.mod (Mod.of_below hb []) (by simp))
 have z17 := (hb).size
 replace Hmod := qd (Hmod.out.then (Mod.of_below hb _))
 have HD := qd (hnew)
 clear hnew hb
 have hi1 := HI1.out
 simp only [slotI] at hi1
 subst hi1
 have hq2 := HS2.out
 rw [hfr] at hq2
 rw [hq2] at HF HI2
 have hi2 := HI2.out
 simp only [slotI] at hi2
 subst hi2
 obtain rfl := HF.out i s rfl
 clear HA HF HI1 HI2 HS1 HS2
 obtain ⟨sc0, sc1, sc2, sc3, sc4, sc5, sc6⟩ := HS.out.c7
 obtain ⟨ec0, ec1, ec2⟩ := HE.out.c3
 have HPl := qd (spot_Place tb gb ap T i s e hFp.1 hs8 h64 hFp.2.2 hSm hroom w4 HT.out)
 unfold spotV entV at HPl
 clear HT
 clear HV0
 go_wp2_with fail
 refine (HPl.out).mono ?_
 rintro x w5 ⟨rfl, hT5, hm⟩
 clear sc0 sc1 sc2 sc3 sc4 sc5 sc6 ec0 ec1 ec2
 replace HN := qd (HN.out.mod hm (by simp <;> omega))
 replace HL := qd (HL.out.mod hm (by simp <;> omega))
 replace HE := qd (HE.out.mod hm (by simp <;> omega))
 replace HM := qd (HM.out.mod hm (by simp <;> omega))
 replace HS := qd (HS.out.mod hm (by simp <;> omega))
 replace HD := qd (HD.out.mod hm (by simp <;> omega))
 have z18 := (hm).size
 replace Hmod := qd (Hmod.out.tr hm)
 clear hm
 have HT := qd (hT5)
 clear hT5
 go_wp2
 refine bodyPost_ret (v := .tuple #[.bool true, .nilIface]) (by simp [results, Tryz.results36, go_sem]) rfl ⟨rfl, HT.out, HM.out, Hmod.out⟩
theorem node_Put_full {W0 : World} {E : Nat → Addr} (nb tb gb : Nat) (pfx dpt job : Int) (T : TabM) (P : MP) (x : Mtr) (c : Cnt) (e : Ent) (w : World) (hnd : Blk w nb 114 #[.int .i64 pfx, .int .i64 dpt, .pointer (some ⟨tb, 0, none⟩), .int .i64 job, .pointer none]) (h : TabAt w tb gb T) (hP : Pw T.gs.length) (h64 : e.hash < 18446744073709551616) (hM : MetP w P x) (hEn : Env W0 E w) (hb0 : W0.heap.size ≤ P.mb) (hmt : P.mb ≠ tb) (hmg : P.mb ≠ gb) (hmn : P.mb ≠ nb) (hnt : nb ≠ tb) (hng : nb ≠ gb) (hsk : (seek T.gs e.key e.hash).1 = none) :
  Calls Tryz.prog 36 #[nodeP nb, lensV (some ⟨P.mb, P.mo, none⟩) c, entV e, .bool false] w fun y w' => y = .returned (.tuple #[.bool false, errV E 2]) ∧ TabAt w' tb gb (T) ∧ MetP w' P (x.add c (seek T.gs e.key e.hash).2.2) ∧ Mod [P.mb] w w' := by
 have hB := ((Below.refl w.heap.size w).alloc (Nat.le_refl _) (.cells #[.pointer (some ⟨P.mb, P.mo, none⟩), .int .i64 c.p, .int .i64 c.v, .int .i64 c.u] 89)).alloc (by simp) (.cells #[.int .u64 (e.key : Int), .int .u64 (e.val : Int), .int .u64 (e.hash : Int)] 37)
 have hL := (Blk.new w 89 #[.pointer (some ⟨P.mb, P.mo, none⟩), .int .i64 c.p, .int .i64 c.v, .int .i64 c.u]).alloc (.cells #[.int .u64 (e.key : Int), .int .u64 (e.val : Int), .int .u64 (e.hash : Int)] 37)
 have hE := Blk.new (w.alloc (.cells #[.pointer (some ⟨P.mb, P.mo, none⟩), .int .i64 c.p, .int .i64 c.v, .int .i64 c.u] 89)) 37 #[.int .u64 (e.key : Int), .int .u64 (e.val : Int), .int .u64 (e.hash : Int)]
 simp only [World.size_alloc] at hE
 obtain ⟨W, hW⟩ : ∃ W, W = (w.alloc (.cells #[.pointer (some ⟨P.mb, P.mo, none⟩), .int .i64 c.p, .int .i64 c.v, .int .i64 c.u] 89)).alloc (.cells #[.int .u64 (e.key : Int), .int .u64 (e.val : Int), .int .u64 (e.hash : Int)] 37) := ⟨_, rfl⟩
 rw [← hW] at hB hL hE
 have hml := hM.lt
 have hnl := hnd.lt
 have htl := h.ltT
 have hgl := h.ltG
 have hB0 := hEn.size
 have HW := qd hW
 unfold nodeP lensV entV
 obtain ⟨sk1, hsk1⟩ : ∃ s, s = (seek T.gs e.key e.hash).1 := ⟨_, rfl⟩
 obtain ⟨sk2, hsk2⟩ : ∃ s, s = (seek T.gs e.key e.hash).2.1 := ⟨_, rfl⟩
 have HS1 := qd hsk1
 have HS2 := qd hsk2
 clear hsk1 hsk2
 obtain ⟨s1, hs1⟩ : ∃ s, s = slotI sk1 := ⟨_, rfl⟩
 obtain ⟨s2, hs2⟩ : ∃ s, s = slotI sk2 := ⟨_, rfl⟩
 have HI1 := qd hs1
 have HI2 := qd hs2
 clear hs1 hs2
 have HN := qd (hnd.below hB hnd.lt)
 have HT := qd (h.below hB)
 have HV0 := qd (hEn.next hB)
 have HM := qd (hM.below hB)
 have HL := qd (hL)
 have HE := qd (hE)
 have Hmod := qd (Mod.of_below hB [P.mb])
 clear hW hB hnd h hM hEn hL hE
 go_enter Tryz.func36, Tryz.ntmps36
 go_upto_region 1 with fail
 rw [← HW.out]
 obtain ⟨nc0, nc1, nc2, nc3, nc4⟩ := HN.out.c5
 obtain ⟨lc0, lc1, lc2, lc3⟩ := HL.out.c4
 obtain ⟨ec0, ec1, ec2⟩ := HE.out.c3
 go_upto_region 3 with fail
 have q1 := HN.out.lt
 have q2 := HT.out.ltT
 have q3 := HT.out.ltG
 have q4 := HM.out.lt
 have q5 := HL.out.lt
 have q6 := HE.out.lt
 have z7 := Hmod.out.size
 refine cutT (fun a' wz => ∃ sb ap fp, a' = { tmps := #[.pointer (some ⟨nb, 0, none⟩), .agg #[.pointer (some ⟨P.mb, P.mo, none⟩), .int .i64 c.p, .int .i64 c.v, .int .i64 c.u], .agg #[.int .u64 (e.key : Int), .int .u64 (e.val : Int), .int .u64 (e.hash : Int)], .bool false, undef, .pointer (some ⟨w.heap.size, 0, none⟩), .pointer (some ⟨w.heap.size + 1, 0, none⟩), undef, .bool false, .nilIface, .pointer (some ⟨sb, 0, none⟩), undef, undef, undef, .pointer (some ⟨nb, 0, none⟩), .pointer (some ⟨nb, 0, none⟩), .pointer (some ⟨nb, 4, none⟩), .pointer none, .bool false, undef, undef, undef, undef, undef, undef, undef, undef, undef, undef, .pointer (some ⟨nb, 0, none⟩), .pointer (some ⟨nb, 0, none⟩), .pointer (some ⟨nb, 2, none⟩), .pointer (some ⟨tb, 0, none⟩), .agg #[.pointer (some ⟨P.mb, P.mo, none⟩), .int .i64 c.p, .int .i64 c.v, .int .i64 c.u], .pointer (some ⟨w.heap.size + 1, 0, none⟩), .int .u64 (e.key : Int), .pointer (some ⟨w.heap.size + 1, 2, none⟩), .int .u64 (e.hash : Int), .agg #[.pointer (some ⟨tb, 0, none⟩), .int .u64 (e.key : Int), .int .u64 (e.hash : Int), .pointer ap, .int .i64 s1, .pointer fp, .int .i64 s2], undef, undef, undef, undef, undef, undef, undef, undef, undef, undef, undef, undef, undef, undef, undef, undef, undef, undef, undef], defers := [] } ∧ Blk wz nb 114 #[.int .i64 pfx, .int .i64 dpt, .pointer (some ⟨tb, 0, none⟩), .int .i64 job, .pointer none] ∧ TabAt wz tb gb T ∧ Env W0 E wz ∧ Blk wz w.heap.size 89 #[.pointer (some ⟨P.mb, P.mo, none⟩), .int .i64 c.p, .int .i64 c.v, .int .i64 c.u] ∧ Blk wz (w.heap.size + 1) 37 #[.int .u64 (e.key : Int), .int .u64 (e.val : Int), .int .u64 (e.hash : Int)] ∧ MetP wz P (x.add c (seek T.gs e.key e.hash).2.2) ∧ PtrOf gb sk1 ap ∧ PtrOf gb sk2 fp ∧ Blk wz sb 142 #[.pointer (some ⟨tb, 0, none⟩), .int .u64 (e.key : Int), .int .u64 (e.hash : Int), .pointer ap, .int .i64 s1, .pointer fp, .int .i64 s2] ∧ W.heap.size ≤ sb ∧ Mod ([P.mb]) w wz) ?_ ?_
 ·refine region_T (fun (w' : World) => w'.cell? ⟨nb, 2, none⟩ = some (.pointer (some ⟨tb, 0, none⟩)) ∧ w'.cell? ⟨w.heap.size, 0, none⟩ = some (.pointer (some ⟨P.mb, P.mo, none⟩)) ∧ w'.cell? ⟨w.heap.size, 1, none⟩ = some (.int .i64 c.p) ∧ w'.cell? ⟨w.heap.size, 2, none⟩ = some (.int .i64 c.v) ∧ w'.cell? ⟨w.heap.size, 3, none⟩ = some (.int .i64 c.u) ∧ w'.cell? ⟨w.heap.size + 1, 0, none⟩ = some (.int .u64 (e.key : Int)) ∧ w'.cell? ⟨w.heap.size + 1, 2, none⟩ = some (.int .u64 (e.hash : Int))) [] (by kernel_rfl) ?_
  try (change wpAnyT _ _ _ _ _ _ _ _ _ (World.drew _))
  have hHeld := (⟨nc2, lc0, lc1, lc2, lc3, ec0, ec2⟩ : _ ∧ _ ∧ _ ∧ _ ∧ _ ∧ _ ∧ _)
  refine tW 0 (some 29) (.pointer (some ⟨nb, 0, none⟩)) rfl hHeld ?_
  try simp only [pt]
  refine tW 1 (some 30) (.pointer (some ⟨nb, 0, none⟩)) rfl hHeld ?_
  try simp only [pt]
  refine tW 2 (some 31) (.pointer (some ⟨nb, 2, none⟩)) rfl hHeld ?_
  try simp only [pt]
  refine tT 3 (some 32) (.pointer (some ⟨tb, 0, none⟩)) rfl (by rintro w ⟨hh0, hh1, hh2, hh3, hh4, hh5, hh6⟩; go_simp) hHeld ?_
  try simp only [pt]
  refine tT 4 (some 33) (.agg #[.pointer (some ⟨P.mb, P.mo, none⟩), .int .i64 c.p, .int .i64 c.v, .int .i64 c.u]) rfl (by rintro w ⟨hh0, hh1, hh2, hh3, hh4, hh5, hh6⟩; go_simp) hHeld ?_
  try simp only [pt]
  refine tW 5 (some 34) (.pointer (some ⟨w.heap.size + 1, 0, none⟩)) rfl hHeld ?_
  try simp only [pt]
  refine tT 6 (some 35) (.int .u64 (e.key : Int)) rfl (by rintro w ⟨hh0, hh1, hh2, hh3, hh4, hh5, hh6⟩; go_simp) hHeld ?_
  try simp only [pt]
  refine tW 7 (some 36) (.pointer (some ⟨w.heap.size + 1, 2, none⟩)) rfl hHeld ?_
  try simp only [pt]
  refine tT 8 (some 37) (.int .u64 (e.hash : Int)) rfl (by rintro w ⟨hh0, hh1, hh2, hh3, hh4, hh5, hh6⟩; go_simp) hHeld ?_
  try simp only [pt]
  clear hHeld
  refine nameW (F := fun v => Mod [] W v) (Mod.drewN [] W 1) ?_
  rintro v1 hm
  clear nc0 nc1 nc2 nc3 nc4 lc0 lc1 lc2 lc3 ec0 ec1 ec2
  replace HN := qd (HN.out.mod hm (by simp))
  replace HT := qd (HT.out.mod hm (by simp) (by simp))
  replace HV0 := qd (HV0.out.mod hm (by intro k hk <;> simp at hk <;> omega))
  replace HM := qd (HM.out.mod hm (by simp))
  replace HL := qd (HL.out.mod hm (by simp))
  replace HE := qd (HE.out.mod hm (by simp))
  have z208 := (hm).size
  replace Hmod := qd (Hmod.out.tr hm)
  clear hm
  refine pairT (i := 9) (j := 10) (o := ⟨some 38, _, _, _, _, _⟩) (o' := ⟨some 10, _, _, _, _, _⟩) rfl rfl (by kernel_rfl) (fun K hK => ?_) (fun K hK => ?_)
  ·obtain ⟨nc0, nc1, nc2, nc3, nc4⟩ := HN.out.c5
   obtain ⟨lc0, lc1, lc2, lc3⟩ := HL.out.c4
   obtain ⟨ec0, ec1, ec2⟩ := HE.out.c3
   go_simp
   have HSk := qd (seek_at tb gb e.key e.hash T P x c v1 HT.out hP h64 HM.out (by omega) (by omega) HV0.out hb0)
   rw [← HS1.out, ← HS2.out, ← HI1.out, ← HI2.out] at HSk
   unfold spotV tabP lensV at HSk
   refine (HSk.out).mono ?_
   rintro y v2 ⟨ap, fp, rfl, hap, hfp, hM2, hm⟩
   clear HSk
   clear HM
   clear nc0 nc1 nc2 nc3 nc4 lc0 lc1 lc2 lc3 ec0 ec1 ec2
   replace HN := qd (HN.out.mod hm (by simp <;> omega))
   replace HT := qd (HT.out.mod hm (by simp <;> omega) (by simp <;> omega))
   replace HV0 := qd (HV0.out.mod hm (by intro k hk <;> simp at hk <;> omega))
   replace HL := qd (HL.out.mod hm (by simp <;> omega))
   replace HE := qd (HE.out.mod hm (by simp <;> omega))
   have z309 := (hm).size
   replace Hmod := qd (Hmod.out.tr hm)
   clear hm
   have HM := qd (hM2)
   have HA := qd (hap)
   have HF := qd (hfp)
   obtain ⟨nc0, nc1, nc2, nc3, nc4⟩ := HN.out.c5
   obtain ⟨lc0, lc1, lc2, lc3⟩ := HL.out.c4
   obtain ⟨ec0, ec1, ec2⟩ := HE.out.c3
   go_wp2_with fail
   refine hK.out _ _ (fun _ => ⟨nc2, lc0, lc1, lc2, lc3, ec0, ec2⟩) ?_
   clear hK K
   try simp only [pt]
   refine nT 10 (some 10) rfl fun K hK => ?_
   obtain ⟨nc0, nc1, nc2, nc3, nc4⟩ := HN.out.c5
   obtain ⟨lc0, lc1, lc2, lc3⟩ := HL.out.c4
   obtain ⟨ec0, ec1, ec2⟩ := HE.out.c3
   go_simp
   have q310 := HN.out.lt
   have q311 := HT.out.ltT
   have q312 := HT.out.ltG
   have q313 := HL.out.lt
   have q314 := HE.out.lt
   have q315 := HM.out.lt
   have z316 := Hmod.out.size
   refine nameB 142 #[.pointer none, .int .u64 0, .int .u64 0, .pointer none, .int .i64 0, .pointer none, .int .i64 0] ?_
   rintro v3 ⟨hnew, hb⟩
   obtain ⟨sb, hsb⟩ : ∃ sb, sb = v2.heap.size := ⟨_, rfl⟩
   rw [← hsb] at hnew ⊢
   replace hsb : v2.heap.size ≤ sb := by omega
   clear nc0 nc1 nc2 nc3 nc4 lc0 lc1 lc2 lc3 ec0 ec1 ec2
   replace HN := qd (HN.out.mod (Mod.of_below hb []) (by simp))
   replace HT := qd (HT.out.mod (Mod.of_below hb []) (by simp) (by simp))
   replace HV0 := qd (HV0.out.mod (Mod.of_below hb []) (by simp))
   replace HL := qd (HL.out.mod (Mod.of_below hb []) (by simp))
   replace HE := qd (HE.out.mod (Mod.of_below hb []) (by simp))
   replace HM := qd (HM.out.mod (Mod.of_below hb []) (by simp))
   have z317 := (hb).size
   replace Hmod := qd (Hmod.out.then (Mod.of_below hb _))
   have HS := qd (hnew)
   clear hnew hb
   obtain ⟨nc0, nc1, nc2, nc3, nc4⟩ := HN.out.c5
   obtain ⟨lc0, lc1, lc2, lc3⟩ := HL.out.c4
   obtain ⟨ec0, ec1, ec2⟩ := HE.out.c3
   refine hK.out _ _ (fun _ => ⟨nc2, lc0, lc1, lc2, lc3, ec0, ec2⟩) ?_
   clear hK K
   try simp only [pt]
   refine nT 11 none rfl fun K hK => ?_
   obtain ⟨nc0, nc1, nc2, nc3, nc4⟩ := HN.out.c5
   obtain ⟨lc0, lc1, lc2, lc3⟩ := HL.out.c4
   obtain ⟨ec0, ec1, ec2⟩ := HE.out.c3
   obtain ⟨yc0, yc1, yc2, yc3, yc4, yc5, yc6⟩ := HS.out.c7
   obtain ⟨yf0, yf1, yf2, yf3, yf4, yf5, yf6⟩ := HS.out.f7
   go_simp
   have q318 := HN.out.lt
   have q319 := HT.out.ltT
   have q320 := HT.out.ltG
   have q321 := HL.out.lt
   have q322 := HE.out.lt
   have q323 := HM.out.lt
   have q324 := HS.out.lt
   have hnew := (((((((HS.out.set_ 0 (.pointer (some ⟨tb, 0, none⟩))).set_ 1 (.int .u64 (e.key : Int))).set_ 2 (.int .u64 (e.hash : Int))).set_ 3 (.pointer ap)).set_ 4 (.int .i64 s1)).set_ 5 (.pointer fp)).set_ 6 (.int .i64 s2))
   have hm := ((((((((Mod.refl [sb] v3).sl 0 (.pointer (some ⟨tb, 0, none⟩))).sl 1 (.int .u64 (e.key : Int))).sl 2 (.int .u64 (e.hash : Int))).sl 3 (.pointer ap)).sl 4 (.int .i64 s1)).sl 5 (.pointer fp)).sl 6 (.int .i64 s2))
   simp only [List.setIfInBounds_toArray, List.set_cons_zero, List.set_cons_succ] at hnew
   refine nameM hnew hm ?_
   clear hnew hm
   rintro v4 ⟨hnew, hm⟩
   clear nc0 nc1 nc2 nc3 nc4 lc0 lc1 lc2 lc3 ec0 ec1 ec2 yc0 yc1 yc2 yc3 yc4 yc5 yc6 yf0 yf1 yf2 yf3 yf4 yf5 yf6
   replace HN := qd (HN.out.mod hm (by simp <;> omega))
   replace HT := qd (HT.out.mod hm (by simp <;> omega) (by simp <;> omega))
   replace HV0 := qd (HV0.out.mod hm (by intro k hk <;> simp at hk <;> omega))
   replace HL := qd (HL.out.mod hm (by simp <;> omega))
   replace HE := qd (HE.out.mod hm (by simp <;> omega))
   replace HM := qd (HM.out.mod hm (by simp <;> omega))
   have z325 := (hm).size
   replace Hmod := qd (Hmod.out.tr hm)
   replace HS := qd hnew
   clear hnew hm
   obtain ⟨nc0, nc1, nc2, nc3, nc4⟩ := HN.out.c5
   obtain ⟨lc0, lc1, lc2, lc3⟩ := HL.out.c4
   obtain ⟨ec0, ec1, ec2⟩ := HE.out.c3
   refine hK.out _ _ (fun _ => ⟨nc2, lc0, lc1, lc2, lc3, ec0, ec2⟩) ?_
   clear hK K
   try simp only [pt]
   refine doneT (by kernel_rfl) ?_ _
   have z326 := Hmod.out.size
   exact ⟨sb, ap, fp, rfl, HN.out, HT.out, HV0.out, HL.out, HE.out, HM.out, HA.out, HF.out, HS.out, by omega, Hmod.out⟩
  ·obtain ⟨nc0, nc1, nc2, nc3, nc4⟩ := HN.out.c5
   obtain ⟨lc0, lc1, lc2, lc3⟩ := HL.out.c4
   obtain ⟨ec0, ec1, ec2⟩ := HE.out.c3
   go_simp
   have q409 := HN.out.lt
   have q410 := HT.out.ltT
   have q411 := HT.out.ltG
   have q412 := HM.out.lt
   have q413 := HL.out.lt
   have q414 := HE.out.lt
   have z415 := Hmod.out.size
   refine nameB 142 #[.pointer none, .int .u64 0, .int .u64 0, .pointer none, .int .i64 0, .pointer none, .int .i64 0] ?_
   rintro v5 ⟨hnew, hb⟩
   obtain ⟨sb, hsb⟩ : ∃ sb, sb = v1.heap.size := ⟨_, rfl⟩
   rw [← hsb] at hnew ⊢
   replace hsb : v1.heap.size ≤ sb := by omega
   clear nc0 nc1 nc2 nc3 nc4 lc0 lc1 lc2 lc3 ec0 ec1 ec2
   replace HN := qd (HN.out.mod (Mod.of_below hb []) (by simp))
   replace HT := qd (HT.out.mod (Mod.of_below hb []) (by simp) (by simp))
   replace HV0 := qd (HV0.out.mod (Mod.of_below hb []) (by simp))
   replace HM := qd (HM.out.mod (Mod.of_below hb []) (by simp))
   replace HL := qd (HL.out.mod (Mod.of_below hb []) (by simp))
   replace HE := qd (HE.out.mod (Mod.of_below hb []) (by simp))
   have z416 := (hb).size
   replace Hmod := qd (Hmod.out.then (Mod.of_below hb _))
   have HS := qd (hnew)
   clear hnew hb
   obtain ⟨nc0, nc1, nc2, nc3, nc4⟩ := HN.out.c5
   obtain ⟨lc0, lc1, lc2, lc3⟩ := HL.out.c4
   obtain ⟨ec0, ec1, ec2⟩ := HE.out.c3
   refine hK.out _ _ (fun _ => ⟨nc2, lc0, lc1, lc2, lc3, ec0, ec2⟩) ?_
   clear hK K
   try simp only [pt]
   refine nT 9 (some 38) rfl fun K hK => ?_
   obtain ⟨nc0, nc1, nc2, nc3, nc4⟩ := HN.out.c5
   obtain ⟨lc0, lc1, lc2, lc3⟩ := HL.out.c4
   obtain ⟨ec0, ec1, ec2⟩ := HE.out.c3
   go_simp
   have HSk := qd (seek_at tb gb e.key e.hash T P x c v5 HT.out hP h64 HM.out (by omega) (by omega) HV0.out hb0)
   rw [← HS1.out, ← HS2.out, ← HI1.out, ← HI2.out] at HSk
   unfold spotV tabP lensV at HSk
   refine (HSk.out).mono ?_
   rintro y v6 ⟨ap, fp, rfl, hap, hfp, hM2, hm⟩
   clear HSk
   clear HM
   clear nc0 nc1 nc2 nc3 nc4 lc0 lc1 lc2 lc3 ec0 ec1 ec2
   replace HN := qd (HN.out.mod hm (by simp <;> omega))
   replace HT := qd (HT.out.mod hm (by simp <;> omega) (by simp <;> omega))
   replace HV0 := qd (HV0.out.mod hm (by intro k hk <;> simp at hk <;> omega))
   replace HL := qd (HL.out.mod hm (by simp <;> omega))
   replace HE := qd (HE.out.mod hm (by simp <;> omega))
   replace HS := qd (HS.out.mod hm (by simp <;> omega))
   have z417 := (hm).size
   replace Hmod := qd (Hmod.out.tr hm)
   clear hm
   have HM := qd (hM2)
   have HA := qd (hap)
   have HF := qd (hfp)
   obtain ⟨nc0, nc1, nc2, nc3, nc4⟩ := HN.out.c5
   obtain ⟨lc0, lc1, lc2, lc3⟩ := HL.out.c4
   obtain ⟨ec0, ec1, ec2⟩ := HE.out.c3
   go_wp2_with fail
   refine hK.out _ _ (fun _ => ⟨nc2, lc0, lc1, lc2, lc3, ec0, ec2⟩) ?_
   clear hK K
   try simp only [pt]
   refine nT 11 none rfl fun K hK => ?_
   obtain ⟨nc0, nc1, nc2, nc3, nc4⟩ := HN.out.c5
   obtain ⟨lc0, lc1, lc2, lc3⟩ := HL.out.c4
   obtain ⟨ec0, ec1, ec2⟩ := HE.out.c3
   obtain ⟨yc0, yc1, yc2, yc3, yc4, yc5, yc6⟩ := HS.out.c7
   obtain ⟨yf0, yf1, yf2, yf3, yf4, yf5, yf6⟩ := HS.out.f7
   go_simp
   have q418 := HN.out.lt
   have q419 := HT.out.ltT
   have q420 := HT.out.ltG
   have q421 := HL.out.lt
   have q422 := HE.out.lt
   have q423 := HS.out.lt
   have q424 := HM.out.lt
   have hnew := (((((((HS.out.set_ 0 (.pointer (some ⟨tb, 0, none⟩))).set_ 1 (.int .u64 (e.key : Int))).set_ 2 (.int .u64 (e.hash : Int))).set_ 3 (.pointer ap)).set_ 4 (.int .i64 s1)).set_ 5 (.pointer fp)).set_ 6 (.int .i64 s2))
   have hm := ((((((((Mod.refl [sb] v6).sl 0 (.pointer (some ⟨tb, 0, none⟩))).sl 1 (.int .u64 (e.key : Int))).sl 2 (.int .u64 (e.hash : Int))).sl 3 (.pointer ap)).sl 4 (.int .i64 s1)).sl 5 (.pointer fp)).sl 6 (.int .i64 s2))
   simp only [List.setIfInBounds_toArray, List.set_cons_zero, List.set_cons_succ] at hnew
   refine nameM hnew hm ?_
   clear hnew hm
   rintro v7 ⟨hnew, hm⟩
   clear nc0 nc1 nc2 nc3 nc4 lc0 lc1 lc2 lc3 ec0 ec1 ec2 yc0 yc1 yc2 yc3 yc4 yc5 yc6 yf0 yf1 yf2 yf3 yf4 yf5 yf6
   replace HN := qd (HN.out.mod hm (by simp <;> omega))
   replace HT := qd (HT.out.mod hm (by simp <;> omega) (by simp <;> omega))
   replace HV0 := qd (HV0.out.mod hm (by intro k hk <;> simp at hk <;> omega))
   replace HL := qd (HL.out.mod hm (by simp <;> omega))
   replace HE := qd (HE.out.mod hm (by simp <;> omega))
   replace HM := qd (HM.out.mod hm (by simp <;> omega))
   have z425 := (hm).size
   replace Hmod := qd (Hmod.out.tr hm)
   replace HS := qd hnew
   clear hnew hm
   obtain ⟨nc0, nc1, nc2, nc3, nc4⟩ := HN.out.c5
   obtain ⟨lc0, lc1, lc2, lc3⟩ := HL.out.c4
   obtain ⟨ec0, ec1, ec2⟩ := HE.out.c3
   refine hK.out _ _ (fun _ => ⟨nc2, lc0, lc1, lc2, lc3, ec0, ec2⟩) ?_
   clear hK K
   try simp only [pt]
   refine doneT (by kernel_rfl) ?_ _
   have z426 := Hmod.out.size
   exact ⟨sb, ap, fp, rfl, HN.out, HT.out, HV0.out, HL.out, HE.out, HM.out, HA.out, HF.out, HS.out, by omega, Hmod.out⟩
 clear nc0 nc1 nc2 nc3 nc4 lc0 lc1 lc2 lc3 ec0 ec1 ec2
 clear HN
 clear HT
 clear HV0
 clear HM
 clear HL
 clear HE
 clear Hmod
 rintro a' w2 ⟨sb, ap, fp, rfl, m_N, m_T, m_V0, m_L, m_E, m_M, m_A, m_F, m_box, hle_sb, m_mod⟩
 have HN := qd (m_N)
 have HT := qd (m_T)
 have HV0 := qd (m_V0)
 have HL := qd (m_L)
 have HE := qd (m_E)
 have HM := qd (m_M)
 have HA := qd (m_A)
 have HF := qd (m_F)
 have HS := qd (m_box)
 have Hmod := qd (m_mod)
 clear m_N m_T m_V0 m_L m_E m_M m_A m_F m_box m_mod
 go_upto_region 4 with fail
 obtain ⟨sc0, sc1, sc2, sc3, sc4, sc5, sc6⟩ := HS.out.c7
 have HEnt := qd (spot_Entry tb gb e.key e.hash T ap fp s2 (by rw [← HS1.out]; exact HA.out) w2 HT.out)
 unfold foundE at HEnt
 rw [← HS1.out, ← HI1.out] at HEnt
 unfold spotV optE entV at HEnt
 simp only [Option.isSome_map] at HEnt
 have hq := HS1.out
 rw [hsk] at hq
 rw [hq] at HEnt HA HI1
 simp only [Option.map_none, Option.getD_none, Option.isSome_none] at HEnt
 clear hq
 go_wp2_with fail
 refine (HEnt.out).mono ?_
 rintro x w3 ⟨rfl, hb⟩
 clear sc0 sc1 sc2 sc3 sc4 sc5 sc6
 replace HN := qd (HN.out.mod (Mod.of_below hb []) (by simp))
 replace HT := qd (HT.out.mod (Mod.of_below hb []) (by simp) (by simp))
 replace HV0 := qd (HV0.out.mod (Mod.of_below hb []) (by simp))
 replace HL := qd (HL.out.mod (Mod.of_below hb []) (by simp))
 replace HE := qd (HE.out.mod (Mod.of_below hb []) (by simp))
 replace HM := qd (HM.out.mod (Mod.of_below hb []) (by simp))
 replace HS := qd (HS.out.mod (Mod.of_below hb []) (by simp))
 have z8 := (hb).size
 replace Hmod := qd (Hmod.out.then (Mod.of_below hb _))
 clear hb
 clear HEnt
 go_upto_region 8 with fail
 have q9 := HN.out.lt
 have q10 := HT.out.ltT
 have q11 := HT.out.ltG
 have q12 := HL.out.lt
 have q13 := HE.out.lt
 have q14 := HM.out.lt
 have q15 := HS.out.lt
 have z16 := Hmod.out.size
 refine nameB 37 #[.int .u64 0, .int .u64 0, .int .u64 0] ?_
 rintro w4 ⟨hnew, hb⟩
 replace HN := qd (HN.out.mod (Mod.of_below hb []) (by simp))
 replace HT := qd (HT.out.mod (Mod.of_below hb []) (by simp) (by simp))
 replace HV0 := qd (HV0.out.mod (Mod.of_below hb []) (by simp))
 replace HL := qd (HL.out.mod (Mod.of_below hb []) (by simp))
 replace HE := qd (HE.out.mod (Mod.of_below hb []) (by simp))
 replace HM := qd (HM.out.mod (Mod.of_below hb []) (by simp))
 replace HS := qd (HS.out.mod (Mod.of_below hb []) (by simp))
 have z17 := (hb).size
 replace Hmod := qd (Hmod.out.then (Mod.of_below hb _))
 have HD := qd (hnew)
 clear hnew hb
 have hi1 := HI1.out
 simp only [slotI] at hi1
 subst hi1
 clear HA HF HI1 HI2 HS1 HS2
 obtain ⟨sc0, sc1, sc2, sc3, sc4, sc5, sc6⟩ := HS.out.c7
 obtain ⟨ec0, ec1, ec2⟩ := HE.out.c3
 have her := HV0.out.errs.at_ 2 (by omega) (by omega)
 unfold ErrAt gE at her
 simp only at her
 go_region
 go_wp2
 replace HN := qd (HN.out.drew)
 replace HT := qd (HT.out.below (Below.refl _ _).drew)
 replace HM := qd (HM.out.below (Below.refl _ _).drew)
 replace Hmod := qd (Hmod.out.then (Mod.drewN _ _ 1))
 refine bodyPost_ret (v := .tuple #[.bool false, .iface 260 (.pointer (some (E 2)))]) (by simp [results, Tryz.results36, go_sem]) rfl ⟨by rw [errV_pos E (by omega : 1 ≤ 2)], HT.out, HM.out, Hmod.out⟩
end Go.Proofs.YtcgjgfgkdoohlaaGreatDoor
