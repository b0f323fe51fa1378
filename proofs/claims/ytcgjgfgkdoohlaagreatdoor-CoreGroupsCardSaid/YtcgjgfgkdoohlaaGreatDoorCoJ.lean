/- A view's functions that write, by their contracts. -/
import Derived.Test.YtcgjgfgkdoohlaaGreatDoorCoH
import Derived.Test.YtcgjgfgkdoohlaaGreatDoorCoN
import Derived.Test.YtcgjgfgkdoohlaaGreatDoorLaneP
import Derived.Deep.MidRow
namespace Go.Proofs.YtcgjgfgkdoohlaaGreatDoor
section
set_option maxRecDepth 100000
set_option maxHeartbeats 1000000
open Go.RowKit AmC
theorem GRaw.drew {w : World} {gb go : Nat} {t : TypeId} {pre post : List Value} {l : List Nat} {es : List Ent} (h : GRaw w gb t pre post go l es) : GRaw w.drew gb t pre post go l es := ⟨h.len, h.l8, h.bytes, h.e8, h.blk.drew⟩
theorem view_Put (gb : Nat) (t : TypeId) (pre post : List Value) (go : Nat) (l : List Nat) (es : List Ent) (i : Nat) (hi : i < 8) (e : Ent) (h64 : e.hash < 18446744073709551616) (w : World) (h : GRaw w gb t pre post go l es) (hm : ¬ l.getD i 0 < 128) :
  Calls Tryz.prog 123 #[viewV ⟨gb, go, none⟩, .int .i64 (i : Int), entV e] w fun x w' => x = .returned (.tuple #[.bool (l.getD i 0 == 254), .nilIface]) ∧ GRaw w' gb t pre post go (l.set i (e.hash % 128)) (es.set i e) ∧ Mod [gb] w w' := by
 have hB := ((Below.refl w.heap.size w).alloc (Nat.le_refl _) (.cells #[.pointer (some ⟨gb, go, none⟩)] 138)).alloc (by simp) (.cells #[.int .u64 (e.key : Int), .int .u64 (e.val : Int), .int .u64 (e.hash : Int)] 37)
 have hV := (Blk.new w 138 #[.pointer (some ⟨gb, go, none⟩)]).alloc (.cells #[.int .u64 (e.key : Int), .int .u64 (e.val : Int), .int .u64 (e.hash : Int)] 37)
 have hE := Blk.new (w.alloc (.cells #[.pointer (some ⟨gb, go, none⟩)] 138)) 37 #[.int .u64 (e.key : Int), .int .u64 (e.val : Int), .int .u64 (e.hash : Int)]
 simp only [World.size_alloc] at hE
 obtain ⟨W, hW⟩ : ∃ W, W = (w.alloc (.cells #[.pointer (some ⟨gb, go, none⟩)] 138)).alloc (.cells #[.int .u64 (e.key : Int), .int .u64 (e.val : Int), .int .u64 (e.hash : Int)] 37) := ⟨_, rfl⟩
 rw [← hW] at hB hV hE
 have hG := h.below hB
 have hlt := h.lt
 have HF := qd (view_full_ok gb t pre post go l es i hi false W hG (decide_eq_false hm))
 have HGt := qd (ctrl_Get l h.bytes i hi)
 have H2 := qd (split_H2 e.hash h64)
 have HM := qd (fun (u : World) (hu : GRaw u gb t pre post go l (es.set i e)) => view_mark gb t pre post go l (es.set i e) i (e.hash % 128) hi (by omega) (.inl (by omega)) u hu)
 have hi8 : (i : Int) < 8 := by omega
 have hi0 : (0 : Int) ≤ (i : Int) := by omega
 have HO : ∀ b : Nat, (((b : Nat) : Int) == 254) = (b == 254) := fun b => by rw [Bool.eq_iff_iff, beq_iff_eq, beq_iff_eq]; omega
 have HO1 := qd (HO (l.getD i 0))
 have HW := qd hW
 have HB := qd hB
 have hne : gb ≠ w.heap.size := by omega
 have hne1 : gb ≠ w.heap.size + 1 := by omega
 unfold viewV at HF HM ⊢
 unfold entV
 clear hW h hB hm HO
 generalize (l.getD i 0 == 254) = o at *
 generalize l.getD i 0 = b at *
 go_enter Tryz.func123, Tryz.ntmps123
 go_upto_region 1 with fail
 rw [← HW.out]
 have v0 := hV.cell 0
 simp only [List.getElem?_toArray, List.getElem?_cons_zero] at v0
 go_wp2_with fail
 refine (HF.out).mono ?_
 rintro e w1 ⟨rfl, hb⟩
 replace hG := hG.below hb
 have hE1 := hE.below hb hE.lt
 replace v0 := cell_in hb v0
 have hw := hG.word
 obtain ⟨e0, e1, e2⟩ := hE1.c3
 go_wp2_with fail
 refine (HGt.out _).mono ?_
 rintro e w2 ⟨rfl, rfl⟩
 have ho := HO1.out
 go_upto_region 5 with fail
 have s0 := hG.at_ i 0 hi (by omega)
 have s1 := hG.at_ i 1 hi (by omega)
 have s2 := hG.at_ i 2 hi (by omega)
 rw [Nat.add_zero] at s0
 simp only [entCells, List.getElem?_cons_zero, List.getElem?_cons_succ] at s0 s1 s2
 have g0 := hG.frz (go + 1 + i * 3)
 have g1 := hG.frz (go + 1 + i * 3 + 1)
 have g2 := hG.frz (go + 1 + i * 3 + 2)
 refine region_T (fun w' => w' = World.drew w1) [7] (by kernel_rfl) ?_
 try (change wpAnyT _ _ _ _ _ _ _ _ _ (World.drew _))
 have hHeld : (fun w' => w' = World.drew w1) (World.drew w1) := rfl
 refine tW 0 (some 24) (.pointer (some ⟨w.heap.size, 0, none⟩)) rfl hHeld ?_
 try simp only [pt]
 refine tT 1 (some 25) (.pointer (some ⟨gb, go, none⟩)) rfl (by rintro w rfl; go_simp) hHeld ?_
 try simp only [pt]
 refine tW 2 (some 26) (.int .i64 (i : Int)) rfl hHeld ?_
 try simp only [pt]
 refine tT 3 (some 27) (.agg #[.int .u64 (e.key : Int), .int .u64 (e.val : Int), .int .u64 (e.hash : Int)]) rfl (by rintro w rfl; go_simp) hHeld ?_
 try simp only [pt]
 refine tW 4 (some 28) (.pointer (some ⟨gb, go, none⟩)) rfl hHeld ?_
 try simp only [pt]
 refine tW 5 (some 29) (.pointer (some ⟨gb, go + 1, none⟩)) rfl hHeld ?_
 try simp only [pt]
 refine tW 6 (some 30) (.pointer (some ⟨gb, go + 1 + i * 3, none⟩)) rfl hHeld ?_
 try simp only [pt]
 refine nT 7 none rfl fun K hK => ?_
 go_simp
 refine hK.out _ _ (fun h => absurd (by decide) h) ?_
 clear hK K
 try simp only [pt]
 refine doneT (by kernel_rfl) ?_ _
 obtain ⟨w2, hw2⟩ : ∃ w2, w2 = (((w1.setCell ⟨gb, go + 1 + i * 3, none⟩ (.int .u64 (e.key : Int))).setCell ⟨gb, go + 1 + i * 3 + 1, none⟩ (.int .u64 (e.val : Int))).setCell ⟨gb, go + 1 + i * 3 + 2, none⟩ (.int .u64 (e.hash : Int))).drew := ⟨_, rfl⟩
 rw [← hw2]
 have hG2 : GRaw w2 gb t pre post go l (es.set i e) := hw2 ▸ (hG.set_ent i hi e).drew
 have hV2 : Blk w2 w.heap.size 138 #[.pointer (some ⟨gb, go, none⟩)] := by
  rw [hw2]
  exact (((Blk.far (hV.below hb hV.lt) (p := ⟨gb, go + 1 + i * 3, none⟩) (Ne.symm hne) _).far (p := ⟨gb, go + 1 + i * 3 + 1, none⟩) (Ne.symm hne) _).far (p := ⟨gb, go + 1 + i * 3 + 2, none⟩) (Ne.symm hne) _).drew
 have hE2 : Blk w2 (w.heap.size + 1) 37 #[.int .u64 (e.key : Int), .int .u64 (e.val : Int), .int .u64 (e.hash : Int)] := by
  rw [hw2]
  exact (((hE1.far (p := ⟨gb, go + 1 + i * 3, none⟩) (Ne.symm hne1) _).far (p := ⟨gb, go + 1 + i * 3 + 1, none⟩) (Ne.symm hne1) _).far (p := ⟨gb, go + 1 + i * 3 + 2, none⟩) (Ne.symm hne1) _).drew
 have hM2 : Mod [gb] w w2 := by
  rw [hw2]
  exact ((((((Mod.of_below HB.out [gb]).then (Mod.of_below hb [gb])).set_ (.inl (by simp)) _ _).set_ (.inl (by simp)) _ _).set_ (.inl (by simp)) _ _)).then (Mod.drewN [gb] _ 1)
 have HW2 := qd (And.intro hG2 hM2)
 clear hw2 hG2 hM2 v0 hw e0 e1 e2 s0 s1 s2 g0 g1 g2 hE1 hb hE hV hG
 go_upto_region 6 with fail
 have v0 := hV2.cell 0
 have e2 := hE2.cell 2
 simp only [gl] at v0 e2
 refine region_T (fun w' => w' = World.drew w2) [5] (by kernel_rfl) ?_
 try (change wpAnyT _ _ _ _ _ _ _ _ _ (World.drew _))
 have hHeld : (fun w' => w' = World.drew w2) (World.drew w2) := rfl
 refine tT 0 (some 31) (.agg #[.pointer (some ⟨gb, go, none⟩)]) rfl (by rintro w rfl; go_simp) hHeld ?_
 try simp only [pt]
 refine tW 1 (some 32) (.int .i64 (i : Int)) rfl hHeld ?_
 try simp only [pt]
 refine tW 2 (some 33) (.pointer (some ⟨w.heap.size + 1, 2, none⟩)) rfl hHeld ?_
 try simp only [pt]
 refine tT 3 (some 34) (.int .u64 (e.hash : Int)) rfl (by rintro w rfl; go_simp) hHeld ?_
 try simp only [pt]
 refine nT 4 (some 35) rfl fun K hK => ?_
 go_simp
 refine (H2.out _).mono ?_
 rintro e w1 ⟨rfl, rfl⟩
 go_wp2_with fail
 have hHeld := show (fun w' => w' = World.drew w2) _ from rfl
 refine hK.out _ _ (fun _ => hHeld) ?_
 clear hK K
 try simp only [pt]
 refine nT 5 (some 36) rfl fun K hK => ?_
 go_simp
 refine (HM.out _ HW2.out.1.drew).mono ?_
 rintro e w3 ⟨rfl, hG3, hm3⟩
 have HG3 := qd hG3
 have HM3 := qd hm3
 clear hG3 hm3
 go_wp2_with fail
 refine hK.out _ _ (fun h => absurd (by decide) h) ?_
 clear hK K
 try simp only [pt]
 refine doneT (by kernel_rfl) ?_ _
 go_wp2
 refine bodyPost_ret (v := .tuple #[.bool o, .nilIface]) (by simp [results, Tryz.results123, go_sem]) rfl ⟨rfl, HG3.out, (HW2.out.2.then (Mod.drewN [gb] _ 1)).then HM3.out⟩
theorem view_Set (gb : Nat) (t : TypeId) (pre post : List Value) (go : Nat) (l : List Nat) (es : List Ent) (i : Nat) (hi : i < 8) (v : Nat) (w : World) (h : GRaw w gb t pre post go l es) (hm : l.getD i 0 < 128) :
  Calls Tryz.prog 121 #[viewV ⟨gb, go, none⟩, .int .i64 (i : Int), .int .u64 (v : Int)] w fun x w' => x = .returned .nilIface ∧ GRaw w' gb t pre post go l (es.set i { es.getD i ⟨0, 0, 0⟩ with val := v }) ∧ Mod [gb] w w' := by
 have hB := (Below.refl w.heap.size w).alloc (Nat.le_refl _) (.cells #[.pointer (some ⟨gb, go, none⟩)] 138)
 have hV := Blk.new w 138 #[.pointer (some ⟨gb, go, none⟩)]
 obtain ⟨W, hW⟩ : ∃ W, W = w.alloc (.cells #[.pointer (some ⟨gb, go, none⟩)] 138) := ⟨_, rfl⟩
 rw [← hW] at hB hV
 have hG := h.below hB
 have HF := qd (view_full_ok gb t pre post go l es i hi true W hG (decide_eq_true hm))
 have hi8 : (i : Int) < 8 := by omega
 have hi0 : (0 : Int) ≤ (i : Int) := by omega
 have HW := qd hW
 have HB := qd hB
 unfold viewV at HF ⊢
 clear hW h hB hm
 go_enter Tryz.func121, Tryz.ntmps121
 go_upto_region 1 with fail
 rw [← HW.out]
 have v0 := hV.cell 0
 simp only [List.getElem?_toArray, List.getElem?_cons_zero] at v0
 go_wp2_with fail
 refine (HF.out).mono ?_
 rintro e w1 ⟨rfl, hb⟩
 replace hG := hG.below hb
 replace v0 := cell_in hb v0
 have s1 := hG.at_ i 1 hi (by omega)
 simp only [entCells, List.getElem?_cons_zero, List.getElem?_cons_succ] at s1
 have g1 := hG.frz (go + 1 + i * 3 + 1)
 have HG1 := qd (hG.set_val i hi v)
 have HM1 := qd (((Mod.of_below HB.out [gb]).then (Mod.of_below hb [gb])).sl (go + 1 + i * 3 + 1) (.int .u64 (v : Int)))
 clear hG hb hV
 go_wp2
 go_ret
 exact ⟨rfl, HG1.out, HM1.out⟩
theorem view_Erase_open (gb : Nat) (t : TypeId) (pre post : List Value) (go : Nat) (l : List Nat) (es : List Ent) (i : Nat) (hi : i < 8) (w : World) (h : GRaw w gb t pre post go l es) (hm : l.getD i 0 < 128) (ho : l.any (· == 128) = true) :
  Calls Tryz.prog 171 #[viewV ⟨gb, go, none⟩, .int .i64 (i : Int)] w fun x w' => x = .returned (.tuple #[.bool false, .nilIface]) ∧ GRaw w' gb t pre post go (l.set i 128) (es.set i ⟨0, 0, 0⟩) ∧ Mod [gb] w w' := by
 have hB := (Below.refl w.heap.size w).alloc (Nat.le_refl _) (.cells #[.pointer (some ⟨gb, go, none⟩)] 138)
 have hV := Blk.new w 138 #[.pointer (some ⟨gb, go, none⟩)]
 obtain ⟨W, hW⟩ : ∃ W, W = w.alloc (.cells #[.pointer (some ⟨gb, go, none⟩)] 138) := ⟨_, rfl⟩
 rw [← hW] at hB hV
 have hG := h.below hB
 have hlt := h.lt
 have HF := qd (view_full_ok gb t pre post go l es i hi true W hG (decide_eq_true hm))
 have hi8 : (i : Int) < 8 := by omega
 have hi0 : (0 : Int) ≤ (i : Int) := by omega
 have hne : gb ≠ w.heap.size := by omega
 have HW := qd hW
 have HB := qd hB
 unfold viewV at HF ⊢
 clear hW h hB hm
 have HM := qd (fun (u : World) (hu : GRaw u gb t pre post go l (es.set i ⟨0, 0, 0⟩)) => view_mark gb t pre post go l (es.set i ⟨0, 0, 0⟩) i 128 hi (by omega) (by omega) u hu)
 unfold viewV at HM
 go_enter Tryz.func171, Tryz.ntmps171
 go_upto_region 1 with fail
 rw [← HW.out]
 have v0 := hV.cell 0
 simp only [List.getElem?_toArray, List.getElem?_cons_zero] at v0
 go_wp2_with fail
 refine (HF.out).mono ?_
 rintro e w1 ⟨rfl, hb⟩
 replace hG := hG.below hb
 replace hV := hV.below hb hV.lt
 replace v0 := cell_in hb v0
 have HO := qd (view_Open gb t pre post go l es w1 hG)
 rw [ho] at HO
 unfold viewV at HO
 go_wp2_with fail
 refine (HO.out).mono ?_
 rintro e w2 ⟨rfl, hb2⟩
 replace hG := hG.below hb2
 replace hV := hV.below hb2 hV.lt
 replace v0 := cell_in hb2 v0
 have s0 := hG.at_ i 0 hi (by omega)
 have s1 := hG.at_ i 1 hi (by omega)
 have s2 := hG.at_ i 2 hi (by omega)
 rw [Nat.add_zero] at s0
 simp only [entCells, List.getElem?_cons_zero, List.getElem?_cons_succ] at s0 s1 s2
 have g0 := hG.frz (go + 1 + i * 3)
 have g1 := hG.frz (go + 1 + i * 3 + 1)
 have g2 := hG.frz (go + 1 + i * 3 + 2)
 go_upto_region 6 with fail
 obtain ⟨w3, hw3⟩ : ∃ w3, w3 = ((w2.setCell ⟨gb, go + 1 + i * 3, none⟩ (.int .u64 0)).setCell ⟨gb, go + 1 + i * 3 + 1, none⟩ (.int .u64 0)).setCell ⟨gb, go + 1 + i * 3 + 2, none⟩ (.int .u64 0) := ⟨_, rfl⟩
 rw [← hw3]
 have hG3 : GRaw w3 gb t pre post go l (es.set i ⟨0, 0, 0⟩) := hw3 ▸ (hG.set_ent i hi ⟨0, 0, 0⟩)
 have hV3 : Blk w3 w.heap.size 138 #[.pointer (some ⟨gb, go, none⟩)] := by
  rw [hw3]
  exact ((hV.far (p := ⟨gb, go + 1 + i * 3, none⟩) (Ne.symm hne) _).far (p := ⟨gb, go + 1 + i * 3 + 1, none⟩) (Ne.symm hne) _).far (p := ⟨gb, go + 1 + i * 3 + 2, none⟩) (Ne.symm hne) _
 have hM3 : Mod [gb] w w3 := by
  rw [hw3]
  exact ((((((Mod.of_below HB.out [gb]).then (Mod.of_below hb [gb])).then (Mod.of_below hb2 [gb])).set_ (.inl (by simp)) _ _).set_ (.inl (by simp)) _ _).set_ (.inl (by simp)) _ _)
 have HW3 := qd (And.intro hG3 hM3)
 clear hw3 hG3 hM3 v0 s0 s1 s2 g0 g1 g2 hb hb2 hV hG
 have v0 := hV3.cell 0
 simp only [List.getElem?_toArray, List.getElem?_cons_zero] at v0
 go_wp2_with fail
 refine (HM.out _ HW3.out.1).mono ?_
 rintro e w4 ⟨rfl, hG4, hm4⟩
 have HG4 := qd hG4
 have HM4 := qd (HW3.out.2.then hm4)
 clear hG4 hm4
 go_wp2
 refine bodyPost_ret (v := .tuple #[.bool false, .nilIface]) (by simp [results, Tryz.results171, go_sem]) rfl ⟨rfl, HG4.out, HM4.out⟩
theorem view_Erase_shut (gb : Nat) (t : TypeId) (pre post : List Value) (go : Nat) (l : List Nat) (es : List Ent) (i : Nat) (hi : i < 8) (w : World) (h : GRaw w gb t pre post go l es) (hm : l.getD i 0 < 128) (ho : l.any (· == 128) = false) :
  Calls Tryz.prog 171 #[viewV ⟨gb, go, none⟩, .int .i64 (i : Int)] w fun x w' => x = .returned (.tuple #[.bool true, .nilIface]) ∧ GRaw w' gb t pre post go (l.set i 254) (es.set i ⟨0, 0, 0⟩) ∧ Mod [gb] w w' := by
 have hB := (Below.refl w.heap.size w).alloc (Nat.le_refl _) (.cells #[.pointer (some ⟨gb, go, none⟩)] 138)
 have hV := Blk.new w 138 #[.pointer (some ⟨gb, go, none⟩)]
 obtain ⟨W, hW⟩ : ∃ W, W = w.alloc (.cells #[.pointer (some ⟨gb, go, none⟩)] 138) := ⟨_, rfl⟩
 rw [← hW] at hB hV
 have hG := h.below hB
 have hlt := h.lt
 have HF := qd (view_full_ok gb t pre post go l es i hi true W hG (decide_eq_true hm))
 have hi8 : (i : Int) < 8 := by omega
 have hi0 : (0 : Int) ≤ (i : Int) := by omega
 have hne : gb ≠ w.heap.size := by omega
 have HW := qd hW
 have HB := qd hB
 unfold viewV at HF ⊢
 clear hW h hB hm
 have HM := qd (fun (u : World) (hu : GRaw u gb t pre post go l (es.set i ⟨0, 0, 0⟩)) => view_mark gb t pre post go l (es.set i ⟨0, 0, 0⟩) i 254 hi (by omega) (by omega) u hu)
 unfold viewV at HM
 go_enter Tryz.func171, Tryz.ntmps171
 go_upto_region 1 with fail
 rw [← HW.out]
 have v0 := hV.cell 0
 simp only [List.getElem?_toArray, List.getElem?_cons_zero] at v0
 go_wp2_with fail
 refine (HF.out).mono ?_
 rintro e w1 ⟨rfl, hb⟩
 replace hG := hG.below hb
 replace hV := hV.below hb hV.lt
 replace v0 := cell_in hb v0
 have HO := qd (view_Open gb t pre post go l es w1 hG)
 rw [ho] at HO
 unfold viewV at HO
 go_wp2_with fail
 refine (HO.out).mono ?_
 rintro e w2 ⟨rfl, hb2⟩
 replace hG := hG.below hb2
 replace hV := hV.below hb2 hV.lt
 replace v0 := cell_in hb2 v0
 have s0 := hG.at_ i 0 hi (by omega)
 have s1 := hG.at_ i 1 hi (by omega)
 have s2 := hG.at_ i 2 hi (by omega)
 rw [Nat.add_zero] at s0
 simp only [entCells, List.getElem?_cons_zero, List.getElem?_cons_succ] at s0 s1 s2
 have g0 := hG.frz (go + 1 + i * 3)
 have g1 := hG.frz (go + 1 + i * 3 + 1)
 have g2 := hG.frz (go + 1 + i * 3 + 2)
 go_upto_region 6 with fail
 obtain ⟨w3, hw3⟩ : ∃ w3, w3 = ((w2.setCell ⟨gb, go + 1 + i * 3, none⟩ (.int .u64 0)).setCell ⟨gb, go + 1 + i * 3 + 1, none⟩ (.int .u64 0)).setCell ⟨gb, go + 1 + i * 3 + 2, none⟩ (.int .u64 0) := ⟨_, rfl⟩
 rw [← hw3]
 have hG3 : GRaw w3 gb t pre post go l (es.set i ⟨0, 0, 0⟩) := hw3 ▸ (hG.set_ent i hi ⟨0, 0, 0⟩)
 have hV3 : Blk w3 w.heap.size 138 #[.pointer (some ⟨gb, go, none⟩)] := by
  rw [hw3]
  exact ((hV.far (p := ⟨gb, go + 1 + i * 3, none⟩) (Ne.symm hne) _).far (p := ⟨gb, go + 1 + i * 3 + 1, none⟩) (Ne.symm hne) _).far (p := ⟨gb, go + 1 + i * 3 + 2, none⟩) (Ne.symm hne) _
 have hM3 : Mod [gb] w w3 := by
  rw [hw3]
  exact ((((((Mod.of_below HB.out [gb]).then (Mod.of_below hb [gb])).then (Mod.of_below hb2 [gb])).set_ (.inl (by simp)) _ _).set_ (.inl (by simp)) _ _).set_ (.inl (by simp)) _ _)
 have HW3 := qd (And.intro hG3 hM3)
 clear hw3 hG3 hM3 v0 s0 s1 s2 g0 g1 g2 hb hb2 hV hG
 have v0 := hV3.cell 0
 simp only [List.getElem?_toArray, List.getElem?_cons_zero] at v0
 go_wp2_with fail
 refine (HM.out _ HW3.out.1).mono ?_
 rintro e w4 ⟨rfl, hG4, hm4⟩
 have HG4 := qd hG4
 have HM4 := qd (HW3.out.2.then hm4)
 clear hG4 hm4
 go_wp2
 refine bodyPost_ret (v := .tuple #[.bool true, .nilIface]) (by simp [results, Tryz.results171, go_sem]) rfl ⟨rfl, HG4.out, HM4.out⟩
end
section
set_option maxRecDepth 100000
set_option maxHeartbeats 1000000
open Go.RowKit AmC
theorem blk_sets {g : Nat} {t : TypeId} {post : List Value} : ∀ (vs x pre : List Value) (w : World), x.length = vs.length → Blk w g t (pre ++ (x ++ post)).toArray → Blk (w.setCells g pre.length vs) g t (pre ++ (vs ++ post)).toArray
 | [], x, pre, w, hl, h => by
  have : x = [] := List.length_eq_zero_iff.1 hl
  subst this; exact h
 | v :: vs, x, pre, w, hl, h => by
  cases x with
  | nil => simp at hl
  | cons y x =>
   have h1 := h.set_ (pre.length + 0) v
   rw [set_mid _ _ _ _ _ (by simp)] at h1
   have h2 := blk_sets vs x (pre ++ [v]) _ (by simpa using hl) (by simpa using h1)
   simpa [World.setCells] using h2
theorem mod_sets {g : Nat} {S : List Nat} (hg : g ∈ S) {w0 : World} : ∀ (vs : List Value) (o : Nat) (w : World), Mod S w0 w → Mod S w0 (w.setCells g o vs)
 | [], _, _, h => h
 | v :: vs, o, _, h => mod_sets hg vs (o + 1) _ (h.set_ (.inl hg) o v)
theorem GRaw.ex {w : World} {gb go : Nat} {t : TypeId} {pre post : List Value} {l : List Nat} {es : List Ent} (h : GRaw w gb t pre post go l es) (j : Nat) (hj : j < 25) : ∃ v, w.cell? ⟨gb, go + j, none⟩ = some v := by
 have hl : j < (rawCells l es).length := by rw [rawCells, List.length_cons, ents_length, h.e8]; exact hj
 rw [h.blk.cell, List.getElem?_toArray, List.getElem?_append_right (by have := h.len; omega), List.getElem?_append_left (by have := h.len; omega)]
 have : go + j - pre.length = j := by have := h.len; omega
 rw [this]
 exact ⟨_, List.getElem?_eq_getElem hl⟩
def newCells : List Value := [.int .u64 ((rep8 128 : Nat) : Int), .int .u64 0, .int .u64 0, .int .u64 0, .int .u64 0, .int .u64 0, .int .u64 0, .int .u64 0, .int .u64 0, .int .u64 0, .int .u64 0, .int .u64 0, .int .u64 0, .int .u64 0, .int .u64 0, .int .u64 0, .int .u64 0, .int .u64 0, .int .u64 0, .int .u64 0, .int .u64 0, .int .u64 0, .int .u64 0, .int .u64 0, .int .u64 0]
theorem newCells_eq : newCells = rawCells (List.replicate 8 128) (List.replicate 8 ⟨0, 0, 0⟩) := by simp [newCells, rawCells, rep8, entCells, List.replicate]
theorem group_New (w : World) : Calls Tryz.prog 135 #[] w fun e w' => e = .returned (.pointer (some ⟨w.heap.size, 0, none⟩)) ∧ w.alloc (.cells newCells.toArray 167) = w' := by
 have H1 := qd (ctrl_New w)
 go_enter Tryz.func135, Tryz.ntmps135
 go_wp2_with fail
 refine (H1.out).mono ?_
 rintro e w1 ⟨rfl, rfl⟩
 go_wp2
 go_ret
 exact ⟨rfl, rfl⟩
theorem view_Clear (gb : Nat) (t : TypeId) (pre post : List Value) (go : Nat) (l : List Nat) (es : List Ent) (w : World) (h : GRaw w gb t pre post go l es) :
  Calls Tryz.prog 91 #[viewV ⟨gb, go, none⟩] w fun x w' => x = .returned undef ∧ GRaw w' gb t pre post go (List.replicate 8 128) (List.replicate 8 ⟨0, 0, 0⟩) ∧ Mod [gb] w w' := by
 have hB := (Below.refl w.heap.size w).alloc (Nat.le_refl _) (.cells #[.pointer (some ⟨gb, go, none⟩)] 138)
 have hV := Blk.new w 138 #[.pointer (some ⟨gb, go, none⟩)]
 obtain ⟨W, hW⟩ : ∃ W, W = w.alloc (.cells #[.pointer (some ⟨gb, go, none⟩)] 138) := ⟨_, rfl⟩
 rw [← hW] at hB hV
 have hG := h.below hB
 have HW := qd hW
 have HB := qd hB
 unfold viewV
 clear hW h hB
 go_enter Tryz.func91, Tryz.ntmps91
 go_upto_region 1 with fail
 rw [← HW.out]
 have v0 := hV.cell 0
 simp only [List.getElem?_toArray, List.getElem?_cons_zero] at v0
 refine region_T (fun (w' : World) => w'.cell? ⟨w.heap.size, 0, none⟩ = some (.pointer (some ⟨gb, go, none⟩))) [6] (by kernel_rfl) ?_
 try (change wpAnyT _ _ _ _ _ _ _ _ _ (World.drew _))
 have hHeld := v0
 refine tW 0 (some 2) (.pointer (some ⟨w.heap.size, 0, none⟩)) rfl hHeld ?_
 try simp only [pt]
 refine tT 1 (some 3) (.pointer (some ⟨gb, go, none⟩)) rfl (by rintro w hv; go_simp) hHeld ?_
 try simp only [pt]
 refine nT 2 (some 4) rfl fun K hK => ?_
 go_simp
 refine (group_New _).mono ?_
 rintro e w1 ⟨rfl, hN⟩
 have hb1 : Below W.heap.size W w1 := hN ▸ ((Below.refl W.heap.size W).drew).alloc (Nat.le_refl _) _
 have hN1 : Blk w1 W.heap.size 167 newCells.toArray := hN ▸ Blk.new W.drew _ _
 clear hN
 go_wp2_with fail
 replace v0 := cell_in hb1 v0
 have hL : w1.rangeAt W.heap.size 0 newCells := fun j v hv => by rw [hN1.cell, Nat.zero_add, List.getElem?_toArray]; exact hv
 have hG1 := hG.below hb1
 have hS : w1.there gb go newCells.toArray.size := fun j hj => ⟨by obtain ⟨v, hv⟩ := hG1.ex j hj; rw [hv]; rfl, hG1.frz _⟩
 have hHeld := v0
 refine hK.out _ _ (fun _ => hHeld) ?_
 clear hK K
 try simp only [pt]
 refine nT 3 (some 5) rfl fun K hK => ?_
 go_simp
 refine hK.out _ _ (fun _ => hHeld) ?_
 clear hK K
 try simp only [pt]
 refine nT 4 (some 6) rfl fun K hK => ?_
 rw [if_pos (by rfl)]
 refine wp_load_mid 167 (.tmp 5) rfl W.heap.size 0 rfl newCells _ hL Tryz.underlying167 rfl (by kernel_rfl) ?_
 refine hK.out _ _ (fun _ => hHeld) ?_
 clear hK K
 try simp only [pt]
 refine tW 5 (some 7) (.pointer (some ⟨gb, go, none⟩)) rfl hHeld ?_
 try simp only [pt]
 refine nT 6 none rfl fun K hK => ?_
 rw [if_pos (by rfl)]
 refine wp_store_mid 167 (.tmp 7) (.tmp 6) rfl gb go newCells.toArray rfl rfl hS (by kernel_rfl) (by simp [newCells]; exact ⟨rfl, rfl⟩) ?_
 refine hK.out _ _ (fun h => absurd (by decide) h) ?_
 clear hK K
 try simp only [pt]
 refine doneT (by kernel_rfl) ?_ _
 have hM2 : Mod [gb] w (w1.setCells gb go newCells) := mod_sets (by simp) _ _ _ (Mod.of_below (below_nx hb1 HB.out) [gb])
 have hG2 : GRaw (w1.setCells gb go newCells) gb t pre post go (List.replicate 8 128) (List.replicate 8 ⟨0, 0, 0⟩) :=
  ⟨hG.len, by simp, bytes_rep (by omega), by simp, by have := blk_sets newCells (rawCells l es) pre w1 (by rw [rawCells, List.length_cons, ents_length, hG.e8]; rfl) (hG.below hb1).blk; rw [hG.len, newCells_eq] at this; rw [newCells_eq]; exact this⟩
 have HP := qd (And.intro hG2 hM2)
 clear hG2 hM2
 go_wp2
 go_end0
 exact ⟨rfl, HP.out.1, HP.out.2⟩
end
end Go.Proofs.YtcgjgfgkdoohlaaGreatDoor
