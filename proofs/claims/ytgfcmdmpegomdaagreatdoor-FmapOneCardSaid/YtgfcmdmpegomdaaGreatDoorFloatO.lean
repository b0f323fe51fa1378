/- A map's writes by their contracts. No statement of the claim. -/
import Derived.Test.YtgfcmdmpegomdaaGreatDoorRmD
import Derived.Test.YtgfcmdmpegomdaaGreatDoorSqM
import Derived.Test.YtgfcmdmpegomdaaGreatDoorCoO
import Derived.Test.YtgfcmdmpegomdaaGreatDoorLaneP
import Derived.Maps.RangeWalk
import Derived.Test.YtgfcmdmpegomdaaGreatDoorCoDA
import Ieee.Arith
namespace Go.Proofs.YtgfcmdmpegomdaaGreatDoor
set_option maxRecDepth 100000
set_option maxHeartbeats 4000000
open Go.RowKit AmC Go.MapKept Ieee
open Go.ChangeMaps (setBlock heap_setBlock_same heap_setBlock_other)
section
variable {W0 : World} {E : Nat → Addr} {H : Nat → Nat} {Kk M I b : Nat} {G0 : List Nat} {w0 w w' : World} {C : RmC} {GC : List Nat} {mb gv : Nat} {a : Pool} {ids : List Nat} {its : List It}
theorem RtS.wrote (h : RtS W0 E H Kk M I b G0 w0 C GC mb gv w a ids its) (hw : Wrote w b C w') : ∃ C', RtS W0 E H Kk M I b G0 w0 C' GC mb gv w' a ids its ∧ Mod [b] w w' ∧ C'.cb = C.cb ∧ C'.ib = C.ib ∧ C'.lf ≤ C.lf := by
 obtain ⟨lf, gn, ma, ml, last, all, h1, h2, h3⟩ := hw
 exact ⟨_, h.setB h2 h3 ⟨rfl, rfl, rfl, rfl, rfl⟩, h3, rfl, rfl, h1⟩
end
theorem rt_Put {W0 : World} {E : Nat → Addr} {H : Nat → Nat} {Kk M I b : Nat} {G : List Nat} {w : World} {a : Pool} {ids : List Nat} {its : List It} {gv : Nat} {lst : Cnt} (h : RtAt W0 E H Kk M I b G w a ids its gv lst) (e : Ent) (he : EntOk H e) : Calls Tryz.prog 22 #[.pointer (some ⟨b, 0, none⟩), .int .u64 (e.key : Int), .int .u64 (e.val : Int), .int .u64 (e.hash : Int)] w fun y w' => y = .returned (errV E (putC M a.ents e.key)) ∧ ∃ a' ids' lst', RtTo W0 E H Kk M I b G w w' a' ids' its gv lst' ∧ PutR H Kk M a ids e a' ids' := by
 obtain ⟨C, GC, mb, hS, rfl, hlst⟩ := h
 obtain ⟨W, hW, hB, hBm, hBk, hBv, hBh, hBe⟩ := qX5 w 39 #[.pointer (some ⟨b, 0, none⟩)] 57 #[.int .u64 (e.key : Int)] 57 #[.int .u64 (e.val : Int)] 57 #[.int .u64 (e.hash : Int)] 26 #[.nilIface]
 have hlt := fun q hq => (hS.lts q hq).1
 have HNe := qd (show ∀ q, w.heap.size ≤ q → q ∉ rtFoot b C GC mb its from fun q hq hg => by have := hlt q hg; omega)
 have HS := qd (hS.below hB)
 have hsz := hB.size
 have HBm := qd hBm
 have HBk := qd hBk
 have HBv := qd hBv
 have HBh := qd hBh
 have HBe := qd hBe
 have hWl := hBe.lt
 have HW := qd hW
 have HE := qd he
 clear hW hB hS hlt hBm hBk hBv hBh hBe
 have hmf : ∀ (fn : Fn) (first cap : Array Value) (w : World), (Instr.makeFunc fn first cap).run Tryz.prog w = .ok (.func fn first cap) w := fun _ _ _ _ => rfl
 have hBc := (Below.refl W.heap.size W).alloc (Nat.le_refl _) (.cells #[.nilIface] 26)
 have HCt := qd (trap_Catch (S := (w.heap.size + 1 + 1 + 1 + 1) :: GC) (K := fun w1 => CloP W0 E H Kk M I b (rtFoot b C GC mb its) w C GC mb gv its (PutR H Kk M a ids e) (w.heap.size + 1 + 1 + 1 + 1) 26 (errV E (putC M a.ents e.key)) (W.alloc (.cells #[.nilIface] 26)) w1) 42 #[.pointer (some ⟨w.heap.size, 0, none⟩), .pointer (some ⟨(w.heap.size + 1), 0, none⟩), .pointer (some ⟨(w.heap.size + 1 + 1), 0, none⟩), .pointer (some ⟨(w.heap.size + 1 + 1 + 1), 0, none⟩), .pointer (some ⟨(w.heap.size + 1 + 1 + 1 + 1), 0, none⟩)] W (fun V => enters_of Tryz.func42 (by kernel_rfl) rfl _ V)
  (fun hg => by
   rcases List.mem_cons.1 hg with k | k
   ·omega
   ·exact HNe.out _ (by omega) (mem_rtFoot.2 (.inr (.inr k))))
  ((put_clo (HS.out.below hBc) (HBm.out.mod (Mod.of_below hBc []) (by simp)) (HBk.out.mod (Mod.of_below hBc []) (by simp)) (HBv.out.mod (Mod.of_below hBc []) (by simp)) (HBh.out.mod (Mod.of_below hBc []) (by simp)) (HBe.out.mod (Mod.of_below hBc []) (by simp)) ⟨HNe.out _ (by omega), by omega⟩ HE.out).mono (fun y w1 hh => ⟨hh.1, (by obtain ⟨_, _, _, _, _, _, _, q⟩ := hh.2; exact q), hh.2⟩)))
 have HBc := qd hBc
 clear hBc
 go_in
 go_upto_region 2 with fail
 rw [← HW.out]
 go_wp2_with fail
 refine HCt.out.mono ?_
 rintro y w1 ⟨rfl, hm1, GC', a', ids', hS1, hpm, hr1, hsu, hm2⟩
 have HS := qd hS1
 have HPm := qd hpm
 have HR := qd hr1
 have hx1 := (HBm.out.mod (Mod.of_below HBc.out []) (by simp)).mod hm1 (fun hg => by
  rcases List.mem_cons.1 hg with k | k
  ·omega
  ·exact HNe.out _ (Nat.le_refl _) (mem_rtFoot.2 (.inr (.inr k))))
 have HX := qd hx1
 have HNb := qd (show (w.heap.size + 1 + 1 + 1 + 1) ∉ [b] from fun hg => HNe.out _ (by omega) (mem_rtFoot.2 (.inl (List.mem_singleton.1 hg))))
 clear hm1 hS1 hpm hr1 hsu hm2 hx1 HCt HBm HBk HBv HBh HBe HBc
 cases hfu : fullB M a.ents e.key with
 | false =>
  have hpc : putC M a.ents e.key = 0 := by unfold putC; rw [hfu]; rfl
  rw [hpc] at HR
  have HP0 := qd hpc
  clear hpc
  rw [errV_zero] at HR
  have r0 := HR.out.cell 0
  simp only [List.getElem?_toArray, List.getElem?_cons_zero] at r0
  go_upto_region 8 with fail
  clear r0
  obtain ⟨cc, hcc⟩ := HS.out.core.c_
  have hbk := HS.out.blk.blk
  unfold RmC.cells at hbk
  have c3 := hbk.cell 3
  simp only [gl] at c3
  have x0 := HX.out.cell 0
  simp only [List.getElem?_toArray, List.getElem?_cons_zero] at x0
  have HLs := qd (at_Last (hcc.below (Below.refl w1.heap.size w1).drew))
  unfold cntV at HLs
  clear hbk hcc
  refine rT (fun (w' : World) => w'.cell? ⟨w.heap.size, 0, none⟩ = some (.pointer (some ⟨b, 0, none⟩)) ∧ w'.cell? ⟨b, 3, none⟩ = some (.pointer (some ⟨C.cb, 0, none⟩))) [7] ?_
  have hHeld := (⟨x0, c3⟩ : _ ∧ _)
  refine vT 0 rfl ?_
  refine nT 1 rfl fun K hK => ?_
  go_simp
  refine kO hK ?_
  clear hK K
  refine vW 2 rfl ?_
  refine vW 3 rfl ?_
  refine nT 4 rfl fun K hK => ?_
  go_simp
  refine kO hK ?_
  clear hK K
  refine nT 5 rfl fun K hK => ?_
  go_simp
  refine (core_Meter _ _).mono ?_
  rintro y V1 ⟨rfl, rfl⟩
  go_wp2_with fail
  have hHeld := (⟨x0, c3⟩ : _ ∧ _)
  refine kO hK ?_
  clear hK K
  refine nT 6 rfl fun K hK => ?_
  go_simp
  refine (HLs.out).mono ?_
  rintro y V2 ⟨rfl, hb⟩
  replace hb : Below w1.heap.size w1 V2 := below_nx hb (Below.refl _ _).drew
  replace HS := qd (HS.out.below hb)
  replace x0 := cell_in hb x0
  replace c3 := cell_in hb c3
  clear hb HLs
  go_wp2_with fail
  have hHeld := (⟨x0, c3⟩ : _ ∧ _)
  refine kO hK ?_
  clear hK K
  refine nT 7 rfl fun K hK => ?_
  go_simp
  have HWr := qd (show Calls Tryz.prog 47 #[.pointer (some ⟨b, 0, none⟩), .agg #[.int .i64 cc.p, .int .i64 cc.v, .int .i64 cc.u]] V2 _ from rm_wrote HS.out.blk HS.out.kk cc)
  refine (HWr.out).mono ?_
  rintro y V3 ⟨rfl, hwr⟩
  obtain ⟨C3, hS3, q3, hcb3, hib3, hlf3⟩ := HS.out.wrote hwr
  have HS3 := qd hS3
  clear hS3 hwr q3 hcb3 hib3 hlf3 HWr HS x0 c3
  go_wp2_with fail
  refine kO hK ?_
  clear hK K
  refine doneT (by kernel_rfl) ?_ _
  go_wp2
  go_ret
  exact ⟨by rw [HP0.out]; rfl, a', ids', _, HS3.out.to, HPm.out⟩
 | true =>
  have hpc : putC M a.ents e.key = 2 := by unfold putC; rw [hfu]; rfl
  rw [hpc] at HR
  have HP0 := qd hpc
  clear hpc
  rw [errV_pos E (by omega : 1 ≤ 2)] at HR
  have r0 := HR.out.cell 0
  simp only [List.getElem?_toArray, List.getElem?_cons_zero] at r0
  go_upto_region 6 with fail
  clear r0
  obtain ⟨cc, hcc⟩ := HS.out.core.c_
  have hbk := HS.out.blk.blk
  unfold RmC.cells at hbk
  have c3 := hbk.cell 3
  simp only [gl] at c3
  have x0 := HX.out.cell 0
  simp only [List.getElem?_toArray, List.getElem?_cons_zero] at x0
  have HLs := qd (at_Last (hcc.below (Below.refl w1.heap.size w1).drew))
  unfold cntV at HLs
  clear hbk hcc
  refine rT (fun (w' : World) => w'.cell? ⟨w.heap.size, 0, none⟩ = some (.pointer (some ⟨b, 0, none⟩)) ∧ w'.cell? ⟨b, 3, none⟩ = some (.pointer (some ⟨C.cb, 0, none⟩))) [7] ?_
  have hHeld := (⟨x0, c3⟩ : _ ∧ _)
  refine vT 0 rfl ?_
  refine nT 1 rfl fun K hK => ?_
  go_simp
  refine kO hK ?_
  clear hK K
  refine vW 2 rfl ?_
  refine vW 3 rfl ?_
  refine nT 4 rfl fun K hK => ?_
  go_simp
  refine kO hK ?_
  clear hK K
  refine nT 5 rfl fun K hK => ?_
  go_simp
  refine (core_Meter _ _).mono ?_
  rintro y V1 ⟨rfl, rfl⟩
  go_wp2_with fail
  have hHeld := (⟨x0, c3⟩ : _ ∧ _)
  refine kO hK ?_
  clear hK K
  refine nT 6 rfl fun K hK => ?_
  go_simp
  refine (HLs.out).mono ?_
  rintro y V2 ⟨rfl, hb⟩
  replace hb : Below w1.heap.size w1 V2 := below_nx hb (Below.refl _ _).drew
  replace HS := qd (HS.out.below hb)
  replace HR := qB hb HR
  replace x0 := cell_in hb x0
  replace c3 := cell_in hb c3
  clear hb HLs
  go_wp2_with fail
  have hHeld := (⟨x0, c3⟩ : _ ∧ _)
  refine kO hK ?_
  clear hK K
  refine nT 7 rfl fun K hK => ?_
  go_simp
  have HWr := qd (show Calls Tryz.prog 44 #[.pointer (some ⟨b, 0, none⟩), .agg #[.int .i64 cc.p, .int .i64 cc.v, .int .i64 cc.u]] V2 _ from rm_count HS.out.blk cc)
  refine (HWr.out).mono ?_
  rintro y V3 ⟨rfl, hwr, q3⟩
  have HS3 := qd (HS.out.setB hwr q3 ⟨rfl, rfl, rfl, rfl, rfl⟩)
  replace HR := qd (HR.out.mod q3 HNb.out)
  clear hwr q3 HWr HS x0 c3
  go_wp2_with fail
  refine kO hK ?_
  clear hK K
  refine doneT (by kernel_rfl) ?_ _
  have r0 := HR.out.cell 0
  simp only [List.getElem?_toArray, List.getElem?_cons_zero] at r0
  go_wp2
  go_ret
  exact ⟨by rw [HP0.out, errV_pos E (by omega : 1 ≤ 2)]; rfl, a', ids', _, HS3.out.to, HPm.out⟩
theorem rt_Delete {W0 : World} {E : Nat → Addr} {H : Nat → Nat} {Kk M I b : Nat} {G : List Nat} {w : World} {a : Pool} {ids : List Nat} {its : List It} {gv : Nat} {lst : Cnt} (h : RtAt W0 E H Kk M I b G w a ids its gv lst) (e : Ent) (he : EntOk H e) : Calls Tryz.prog 31 #[.pointer (some ⟨b, 0, none⟩), .int .u64 (e.key : Int), .int .u64 (e.hash : Int)] w fun y w' => y = .returned (.bool (look a.ents e.key).isSome) ∧ ∃ a' ids' lst', RtTo W0 E H Kk M I b G w w' a' ids' its gv lst' ∧ a'.ents.Perm (rest a.ents e.key) := by
 obtain ⟨iv, hiv⟩ : ∃ i, i = (look a.ents e.key).isSome := ⟨_, rfl⟩
 rw [← hiv]
 have HIv := qd hiv
 clear hiv
 obtain ⟨C, GC, mb, hS, rfl, hlst⟩ := h
 obtain ⟨W, hW, hB, hBm, hBk, hBh, hBe⟩ := qX4 w 39 #[.pointer (some ⟨b, 0, none⟩)] 57 #[.int .u64 (e.key : Int)] 57 #[.int .u64 (e.hash : Int)] 4 #[.bool false]
 have hlt := fun q hq => (hS.lts q hq).1
 have HNe := qd (show ∀ q, w.heap.size ≤ q → q ∉ rtFoot b C GC mb its from fun q hq hg => by have := hlt q hg; omega)
 have HS := qd (hS.below hB)
 have hsz := hB.size
 have HBm := qd hBm
 have HBk := qd hBk
 have HBh := qd hBh
 have HBe := qd hBe
 have hWl := hBe.lt
 have HW := qd hW
 have HE := qd he
 clear hW hB hS hlt hBm hBk hBh hBe
 have hmf : ∀ (fn : Fn) (first cap : Array Value) (w : World), (Instr.makeFunc fn first cap).run Tryz.prog w = .ok (.func fn first cap) w := fun _ _ _ _ => rfl
 have hBc := (Below.refl W.heap.size W).alloc (Nat.le_refl _) (.cells #[.nilIface] 26)
 have HCt := qd (trap_Catch (S := (w.heap.size + 1 + 1 + 1) :: GC) (K := fun w1 => CloP W0 E H Kk M I b (rtFoot b C GC mb its) w C GC mb gv its (fun a' _ => a'.ents.Perm (rest a.ents e.key)) (w.heap.size + 1 + 1 + 1) 4 (.bool (look a.ents e.key).isSome) (W.alloc (.cells #[.nilIface] 26)) w1) 52 #[.pointer (some ⟨w.heap.size, 0, none⟩), .pointer (some ⟨(w.heap.size + 1), 0, none⟩), .pointer (some ⟨(w.heap.size + 1 + 1), 0, none⟩), .pointer (some ⟨(w.heap.size + 1 + 1 + 1), 0, none⟩)] W (fun V => enters_of Tryz.func52 (by kernel_rfl) rfl _ V)
  (fun hg => by
   rcases List.mem_cons.1 hg with k | k
   ·omega
   ·exact HNe.out _ (by omega) (mem_rtFoot.2 (.inr (.inr k))))
  ((del_clo (HS.out.below hBc) (HBm.out.mod (Mod.of_below hBc []) (by simp)) (HBk.out.mod (Mod.of_below hBc []) (by simp)) (HBh.out.mod (Mod.of_below hBc []) (by simp)) (HBe.out.mod (Mod.of_below hBc []) (by simp)) ⟨HNe.out _ (by omega), by omega⟩ HE.out).mono (fun y w1 hh => ⟨hh.1, (by obtain ⟨_, _, _, _, _, _, _, q⟩ := hh.2; exact q), hh.2⟩)))
 have HBc := qd hBc
 clear hBc
 go_in
 go_upto_region 2 with fail
 rw [← HW.out]
 go_wp2_with fail
 refine HCt.out.mono ?_
 rintro y w1 ⟨rfl, hm1, GC', a', ids', hS1, hpm, hr1, hsu, hm2⟩
 have HS := qd hS1
 have HPm := qd hpm
 have HR := qd hr1
 have hx1 := (HBm.out.mod (Mod.of_below HBc.out []) (by simp)).mod hm1 (fun hg => by
  rcases List.mem_cons.1 hg with k | k
  ·omega
  ·exact HNe.out _ (Nat.le_refl _) (mem_rtFoot.2 (.inr (.inr k))))
 have HX := qd hx1
 have HNb := qd (show (w.heap.size + 1 + 1 + 1) ∉ [b] from fun hg => HNe.out _ (by omega) (mem_rtFoot.2 (.inl (List.mem_singleton.1 hg))))
 clear hm1 hS1 hpm hr1 hsu hm2 hx1 HCt HBm HBk HBh HBe HBc
 rw [← HIv.out] at HR
 go_upto_region 3 with fail
 obtain ⟨cc, hcc⟩ := HS.out.core.c_
 have hbk := HS.out.blk.blk
 unfold RmC.cells at hbk
 have c3 := hbk.cell 3
 simp only [gl] at c3
 have x0 := HX.out.cell 0
 simp only [List.getElem?_toArray, List.getElem?_cons_zero] at x0
 have HLs := qd (at_Last (hcc.below (Below.refl w1.heap.size w1).drew))
 unfold cntV at HLs
 clear hbk hcc
 refine rT (fun (w' : World) => w'.cell? ⟨w.heap.size, 0, none⟩ = some (.pointer (some ⟨b, 0, none⟩)) ∧ w'.cell? ⟨b, 3, none⟩ = some (.pointer (some ⟨C.cb, 0, none⟩))) [7] ?_
 have hHeld := (⟨x0, c3⟩ : _ ∧ _)
 refine vT 0 rfl ?_
 refine nT 1 rfl fun K hK => ?_
 go_simp
 refine kO hK ?_
 clear hK K
 refine vW 2 rfl ?_
 refine vW 3 rfl ?_
 refine nT 4 rfl fun K hK => ?_
 go_simp
 refine kO hK ?_
 clear hK K
 refine nT 5 rfl fun K hK => ?_
 go_simp
 refine (core_Meter _ _).mono ?_
 rintro y V1 ⟨rfl, rfl⟩
 go_wp2_with fail
 have hHeld := (⟨x0, c3⟩ : _ ∧ _)
 refine kO hK ?_
 clear hK K
 refine nT 6 rfl fun K hK => ?_
 go_simp
 refine (HLs.out).mono ?_
 rintro y V2 ⟨rfl, hb⟩
 replace hb : Below w1.heap.size w1 V2 := below_nx hb (Below.refl _ _).drew
 replace HS := qd (HS.out.below hb)
 replace HR := qB hb HR
 replace x0 := cell_in hb x0
 replace c3 := cell_in hb c3
 clear hb HLs
 go_wp2_with fail
 have hHeld := (⟨x0, c3⟩ : _ ∧ _)
 refine kO hK ?_
 clear hK K
 refine nT 7 rfl fun K hK => ?_
 go_simp
 have HWr := qd (show Calls Tryz.prog 47 #[.pointer (some ⟨b, 0, none⟩), .agg #[.int .i64 cc.p, .int .i64 cc.v, .int .i64 cc.u]] V2 _ from rm_wrote HS.out.blk HS.out.kk cc)
 refine (HWr.out).mono ?_
 rintro y V3 ⟨rfl, hwr⟩
 obtain ⟨C3, hS3, q3, hcb3, hib3, hlf3⟩ := HS.out.wrote hwr
 have HS3 := qd hS3
 replace HR := qd (HR.out.mod q3 HNb.out)
 clear hS3 hwr q3 hcb3 hib3 hlf3 HWr HS x0 c3
 go_wp2_with fail
 refine kO hK ?_
 clear hK K
 refine doneT (by kernel_rfl) ?_ _
 have r0 := HR.out.cell 0
 simp only [List.getElem?_toArray, List.getElem?_cons_zero] at r0
 go_wp2
 go_ret
 exact ⟨rfl, a', ids', _, HS3.out.to, HPm.out⟩
end Go.Proofs.YtgfcmdmpegomdaaGreatDoor

/-! A new map; a map's Get. No statement of the claim. -/
namespace Go.Proofs.YtgfcmdmpegomdaaGreatDoor
set_option maxRecDepth 100000
set_option maxHeartbeats 4000000
open Go.RowKit AmC Go.MapKept Ieee
open Go.ChangeMaps (setBlock heap_setBlock_same heap_setBlock_other)
variable {W0 w : World} {E : Nat → Addr}
theorem rt_New (H : Nat → Nat) (hE : Env W0 E w) (k m i : Int) (hcf : cfgOk k m i = true) (K M I : Nat) (hkm : (1 ≤ K ∧ K ≤ 64) ∧ (1 ≤ M ∧ M ≤ 192) ∧ k = (K : Int) ∧ m = (M : Int) ∧ i = (I : Int)) (hi8 : 1 ≤ I ∧ I ≤ 8) : Calls Tryz.prog 21 #[cfgV k m i] w fun y w' => ∃ b G, y = .returned (.tuple #[.pointer (some ⟨b, 0, none⟩), .nilIface]) ∧ RtAt W0 E H K M I b G w' pool0 [] [] 0 ⟨0, 0, 0⟩ ∧ (∀ q ∈ G, w.heap.size ≤ q) ∧ Below w.heap.size w w' := by
 obtain ⟨hK, hM, rfl, rfl, rfl⟩ := hkm
 have HI := qd (And.intro hK (And.intro hM hi8))
 have hB0 := Blk.new w 30 #[.int .i64 (K : Int), .int .i64 (M : Int), .int .i64 (I : Int)]
 have hb0 := (Below.refl w.heap.size w).alloc (Nat.le_refl _) (.cells #[.int .i64 (K : Int), .int .i64 (M : Int), .int .i64 (I : Int)] 30)
 obtain ⟨W, hW⟩ : ∃ W, W = w.alloc (.cells #[.int .i64 (K : Int), .int .i64 (M : Int), .int .i64 (I : Int)] 30) := ⟨_, rfl⟩
 rw [← hW] at hB0 hb0
 have hnb := core_New H (hE.next hb0) (K : Int) (M : Int) (I : Int) hcf K M I ⟨hK, hM, rfl, rfl, rfl⟩
 have c := hB0.c3
 unfold cfgV at hnb ⊢
 have HNw := qd hnb
 have HX := qd hB0
 have HB := qd hb0
 have HW := qd hW
 have HE := qd hE
 clear hnb hB0 hb0 hW hK hM hi8 hE
 go_in
 go_upto_region 1 with fail
 rw [← HW.out]
 go_wp2_with fail
 refine HNw.out.mono ?_
 rintro y w1 ⟨cb, rfl, hnew⟩
 obtain ⟨GC, hC, hsu, hmo⟩ := new_at hnew
 have hb1 := hmo.to_below
 have HC := qd hC
 have HSu := qd (show ∀ q ∈ GC, W.heap.size ≤ q from fun q hq => (hsu q hq).elim (fun k => by cases k) (fun k => k))
 have HGl := qd (show ∀ q ∈ GC, q < w1.heap.size from fun q hq => (hC.facts.2.2.2.2.2.2.2.2.2.2.1 q hq).1)
 replace HX := qB hb1 HX
 have HB1 := qd (below_nx hb1 HB.out)
 have HL0 := qd hb1.size
 have HZ := qd (show w.heap.size < W.heap.size from by rw [HW.out]; simp)
 clear hnew hC hsu hmo hb1 HNw c
 have c := HX.out.c3
 have HIt := qd (iters_New I HI.out.2.2 w1)
 unfold coreP
 go_wp2_with fail
 refine HIt.out.mono ?_
 rintro y w2 ⟨rfl, hit, hb2⟩
 replace HC := qd (HC.out.below hb2)
 replace HX := qB hb2 HX
 have HB2 := qd (below_nx hb2 HB1.out)
 have HIa := qd hit
 have HL1 := qd (show W.heap.size ≤ w1.heap.size ∧ w1.heap.size + 1 < w2.heap.size from ⟨HL0.out, hit.blk.lt⟩)
 clear hit hb2 HIt c
 have c := HX.out.c3
 obtain ⟨ib, hib⟩ : ∃ ib, ib = w1.heap.size + 1 := ⟨_, rfl⟩
 obtain ⟨mb, hmb⟩ : ∃ mb, mb = w1.heap.size := ⟨_, rfl⟩
 rw [← hib] at HIa HL1 ⊢
 rw [← hmb] at HIa
 have HQ := qd (show mb = w1.heap.size ∧ ib = w1.heap.size + 1 from ⟨hmb, hib⟩)
 clear hib hmb
 obtain ⟨C, hCdef⟩ : ∃ C : RmC, C = ⟨(K : Int), (M : Int), (I : Int), cb, 0, 0, ⟨0, 0, 0⟩, ⟨0, 0, 0⟩, ib, ⟨0, 0, 0⟩, ⟨0, 0, 0⟩⟩ := ⟨_, rfl⟩
 have hbb := (Below.refl w2.heap.size w2).alloc (Nat.le_refl _) (.cells C.cells 75)
 have hnb := Blk.new w2 75 C.cells
 have hS : RtS W0 E H K M I w2.heap.size [] w C GC mb 0 (w2.alloc (.cells C.cells 75)) pool0 [] [] := by
  have h1 := HL1.out.1
  have h2 := HL1.out.2
  obtain ⟨g1, g2⟩ := HQ.out
  have hg := HGl.out
  have hs := HSu.out
  have hz := HZ.out
  have hw0 := HE.out.size
  have e1 : C.cb = cb := by rw [hCdef]
  have e2 : C.ib = ib := by rw [hCdef]
  have hf : ∀ q, q ∈ itFoot ib mb [] → q = ib ∨ q = mb := fun q hq => by unfold itFoot at hq; simpa using hq
  refine ⟨⟨hnb, by rw [hCdef]; exact Nat.zero_le _, by rw [hCdef]; exact Nat.zero_le _⟩, by rw [hCdef]; exact ⟨rfl, rfl, rfl⟩, by rw [e1]; exact HC.out.below hbb, by rw [e2]; exact HIa.out.below hbb, ⟨by omega, fun q hq => ?_⟩, ⟨fun hh => by have := hg _ hh; omega, fun hh => ?_, fun q hq hh => ?_⟩, fun q hq => .inr ?_, (Mod.of_below (below_nx hbb HB2.out) []), hw0⟩
  ·rw [e2] at hq; rcases hf q hq with k | k <;> omega
  ·rw [e2] at hh; rcases hf _ hh with k | k <;> omega
  ·rw [e2] at hq; have := hg q hh; rcases hf q hq with k | k <;> omega
  ·rcases mem_rtFoot.1 hq with k | k | k
   ·omega
   ·rw [e2] at k; rcases hf q k with k | k <;> omega
   ·have := hs q k; omega
 have hto := hS.to
 have hbz := below_nx hbb HB2.out
 rw [hCdef] at hto hbz
 unfold RmC.cells at hto hbz
 have HF := qd (And.intro hto hbz)
 clear hS hto hbz hbb hnb hCdef
 go_wp2
 refine bodyPost_ret (v := .tuple #[.pointer (some ⟨w2.heap.size, 0, none⟩), .nilIface]) (by simp [results, Tryz.results21, go_sem]) rfl ?_
 obtain ⟨G', k1, k2, k3⟩ := HF.out.1
 exact ⟨w2.heap.size, G', rfl, k1, fun q hq => (k2 q hq).elim (fun z => by cases z) (fun z => z), HF.out.2⟩
theorem rt_Get {H : Nat → Nat} {Kk M I b : Nat} {G : List Nat} {a : Pool} {ids : List Nat} {its : List It} {gv : Nat} {lst : Cnt} (h : RtAt W0 E H Kk M I b G w a ids its gv lst) (key : Nat) (h64 : H key < 18446744073709551616) : Calls Tryz.prog 28 #[.pointer (some ⟨b, 0, none⟩), .int .u64 (key : Int), .int .u64 (H key : Int)] w fun y w' => y = .returned (getV a.ents key) ∧ ∃ lst', RtTo W0 E H Kk M I b G w w' a ids its gv lst' := by
 obtain ⟨C, GC, mb, hS, rfl, hlst⟩ := h
 have hbk := hS.blk.blk
 unfold RmC.cells at hbk
 have c3 := hbk.cell 3
 simp only [gl] at c3
 have hget := at_get hS.core key h64
 unfold coreP getV at hget
 obtain ⟨gu, hgu⟩ : ∃ g : Int, g = (((look a.ents key).getD ⟨0, 0, 0⟩).val : Int) := ⟨_, rfl⟩
 obtain ⟨gi, hgi⟩ : ∃ i, i = (look a.ents key).isSome := ⟨_, rfl⟩
 unfold getV
 rw [← hgu, ← hgi] at hget ⊢
 have HGe := qd hget
 have HS := qd hS
 clear hgu hgi hget hbk hS hlst
 go_in
 go_wp2_with fail
 refine HGe.out.mono ?_
 rintro y w1 ⟨rfl, hto⟩
 obtain ⟨GC', hs1, hsu, hmo⟩ := HS.out.setC hto
 replace HS := qd hs1
 clear hto hs1 hsu hmo HGe c3
 obtain ⟨cc, hcc⟩ := HS.out.core.c_
 have HLs := qd (at_Last hcc)
 unfold cntV at HLs
 have hbk := HS.out.blk.blk
 unfold RmC.cells at hbk
 have c3 := hbk.cell 3
 simp only [gl] at c3
 clear hbk hcc
 go_wp2_with fail
 refine (core_Meter _ _).mono ?_
 rintro y w2 ⟨rfl, rfl⟩
 go_wp2_with fail
 refine HLs.out.mono ?_
 rintro y w2 ⟨rfl, hb⟩
 replace HS := qd (HS.out.below hb)
 clear hb HLs c3
 have HCn := qd (show Calls Tryz.prog 44 #[.pointer (some ⟨b, 0, none⟩), .agg #[.int .i64 cc.p, .int .i64 cc.v, .int .i64 cc.u]] w2 _ from rm_count HS.out.blk cc)
 go_wp2_with fail
 refine HCn.out.mono ?_
 rintro y w3 ⟨rfl, hB3, hm3⟩
 have HE := qd (HS.out.setB hB3 hm3 ⟨rfl, rfl, rfl, rfl, rfl⟩).to
 clear hB3 hm3 HS HCn
 go_wp2
 refine bodyPost_ret (v := .tuple #[.int .u64 gu, .bool gi]) (by simp [results, Tryz.results28, go_sem]) rfl ⟨rfl, _, HE.out⟩
end Go.Proofs.YtgfcmdmpegomdaaGreatDoor

/-! The iterators that are open: At of one that is not there, Close, EndAll. No statement of the claim. -/
namespace Go.Proofs.YtgfcmdmpegomdaaGreatDoor
set_option maxRecDepth 100000
set_option maxHeartbeats 4000000
open Go.RowKit AmC Go.MapKept Ieee
open Go.ChangeMaps (setBlock heap_setBlock_same heap_setBlock_other)
variable {ops : Array Oper} {rest : List Oper} {o : Oper} {a : Act} {Q : Exit → Act → World → Prop} {r : Nat} {seen : Array Nat} {E : Nat → Addr} {w2 : World}
theorem map_erase {α β : Type} (f : α → β) : ∀ (l : List α) (j : Nat), (l.map f).eraseIdx j = (l.eraseIdx j).map f
 | [], _ => by simp
 | x :: l, 0 => rfl
 | x :: l, j + 1 => by simp [map_erase f l j]
section
variable {P : Program} {w w' : World} {b g : Nat} {l : List (Nat × Nat)} {t k e : TypeId}
theorem MapL.del (h : MapL w b g l) (ht : P.underlying t = some (.map k e)) (hk : P.underlying k = some (.int .i64)) {j : Nat} {p : Nat × Nat} (hj : l[j]? = some p) (hn : (l.map Prod.fst).Nodup) (ty : TypeId) :
  (Builtin.delete_ #[t, k] ty #[.map (some b), .int .i64 (p.1 : Int)]).run P w = .ok (.tuple #[]) (setBlock w b (.map ((l.eraseIdx j).map mEnt).toArray g)) := by
 obtain ⟨a, h1, h2, h4⟩ := find_now (p.1 : Int) l 0
 have h3 := run_findKey (P := P) (w := w) hk h1
 cases a with
 | none =>
  have : findL l (p.1 : Int) = none := by cases hf : findL l (p.1 : Int) with | none => rfl | some q => rw [hf] at h2; cases h2
  exact absurd rfl (findL_none.1 this p (List.mem_of_getElem? hj))
 | some q =>
  obtain ⟨i, v⟩ := q
  obtain ⟨j', h5, h6⟩ := h4 _ rfl
  have hij : i = j := by
   simp only [Nat.zero_add] at h5
   rw [List.getElem?_map] at h6
   cases hq : l[j']? with
   | none => rw [hq] at h6; cases h6
   | some q' =>
    rw [hq] at h6
    have e0 : (q'.1 : Int) = (p.1 : Int) := by simpa using h6
    have e1 : q'.1 = p.1 := by omega
    have a1 : (l.map Prod.fst)[j']? = some p.1 := by rw [List.getElem?_map, hq]; simp [e1]
    have a2 : (l.map Prod.fst)[j]? = some p.1 := by rw [List.getElem?_map, hj]; rfl
    obtain ⟨b1, b2⟩ := List.getElem?_eq_some_iff.1 a1
    obtain ⟨b3, b4⟩ := List.getElem?_eq_some_iff.1 a2
    rw [h5]
    have hp := List.pairwise_iff_getElem.1 hn
    rcases Nat.lt_trichotomy j' j with z | z | z
    ·exact absurd (b2.trans b4.symm) (hp _ _ b1 b3 z)
    ·exact z
    ·exact absurd (b4.trans b2.symm) (hp _ _ b3 b1 z)
  subst hij
  simp [Builtin.delete_, run_underlying ht, Go.MapKept.run_getObj_map (show w.heap[b]? = some (.map (l.map mEnt).toArray g) from h), run_checkKey hk key_int, h3, Go.MapKept.run_setObj_map _ (show w.heap[b]? = some (.map (l.map mEnt).toArray g) from h), Result.andThen, setBlock, map_erase]
end
section
variable {w : World} {ib mb most given : Nat} {its : List It}
theorem itMap_fst (its : List It) : (itMap its).map Prod.fst = its.map It.id := by unfold itMap; rw [List.map_map]; rfl
theorem ItAt.mb_cb (h : ItAt w ib mb most given its) {i : It} (hi : i ∈ its) : mb ≠ i.cb ∧ ib ≠ i.cb ∧ ib ≠ mb := by
 have := h.nf
 unfold itFoot at this
 rw [List.nodup_cons, List.nodup_cons] at this
 have hm := List.mem_map_of_mem (f := It.cb) hi
 exact ⟨fun e => this.2.1 (e ▸ hm), fun e => this.1 (List.mem_cons_of_mem _ (e ▸ hm)), fun e => this.1 (by rw [e]; simp)⟩
theorem ItAt.erased {j : Nat} (h : ItAt w ib mb most given its) (hb : Blk w2 ib 101 #[.int .i64 (most : Int), .int .i64 (given : Int), .map (some mb)]) (hm : MapL w2 mb given ((itMap its).eraseIdx j)) (hmod : Mod [mb] w w2) : ItAt w2 ib mb most given (its.eraseIdx j) := by
 have hs := List.eraseIdx_sublist its j
 refine ⟨hb, by unfold itMap at hm ⊢; rw [← map_erase]; exact hm, fun i hi => (h.cur i (hs.subset hi)).mod hmod (fun hh => (h.mb_cb (hs.subset hi)).1 (List.mem_singleton.1 hh).symm), fun i hi => h.ids i (hs.subset hi), h.nd.sublist (hs.map _), ?_, h.few.1, by have := hs.length_le; have := h.few.2; omega⟩
 have := h.nf
 unfold itFoot at this ⊢
 exact this.sublist (((hs.map _).cons_cons _).cons_cons _)
theorem iters_Close {j id cb : Nat} {c : Cur} (h : ItAt w ib mb most given its) (hj : its[j]? = some ⟨id, cb, c⟩) : Calls Tryz.prog 38 #[.pointer (some ⟨ib, 0, none⟩), .int .i64 (id : Int)] w fun y w' => y = .returned .nilIface ∧ ItAt w' ib mb most given (its.eraseIdx j) ∧ Mod [mb] w w' := by
 have HAt := qd (iters_At h (List.mem_of_getElem? hj))
 have hj2 : (itMap its)[j]? = some (id, cb) := by unfold itMap; rw [List.getElem?_map, hj]; rfl
 have hdel := fun ty => h.map.del (P := Tryz.prog) (t := 99) Tryz.underlying99 Tryz.underlying3 hj2 (by rw [itMap_fst]; exact h.nd) ty
 have hms := h.map.set_ ((itMap its).eraseIdx j) given
 have hmm := h.map.mod_ (.map (((itMap its).eraseIdx j).map mEnt).toArray given)
 obtain ⟨W2, hW2⟩ : ∃ W2, W2 = setBlock w mb (.map (((itMap its).eraseIdx j).map mEnt).toArray given) := ⟨_, rfl⟩
 rw [← hW2] at hms hmm
 have him : ib ∉ [mb] := fun hh => (h.mb_cb (List.mem_of_getElem? hj)).2.2 (List.mem_singleton.1 hh)
 have HE := qd (And.intro (h.erased (j := j) (h.blk.mod hmm him) hms hmm) hmm)
 have c2 := h.blk.cell 2
 simp only [gl] at c2 hdel
 simp only [← hW2] at hdel
 clear h hj hj2 hms hmm him hW2
 go_in
 go_wp2_with fail
 refine HAt.out.mono ?_
 rintro y w1 ⟨rfl, rfl⟩
 go_wp2
 go_ret
 exact ⟨rfl, HE.out⟩
def It.ended (i : It) : It := ⟨i.id, i.cb, ⟨0, 0, true⟩⟩
theorem ItAt.ended (h : ItAt w ib mb most given its) (hb : Blk w2 ib 101 #[.int .i64 (most : Int), .int .i64 (given : Int), .map (some mb)]) (hm : MapL w2 mb given (itMap its)) (hc : ∀ i ∈ its, CurAt w2 i.cb ⟨0, 0, true⟩) : ItAt w2 ib mb most given (its.map It.ended) := by
 have e1 : (its.map It.ended).map It.cb = its.map It.cb := by rw [List.map_map]; rfl
 have e2 : (its.map It.ended).map It.id = its.map It.id := by rw [List.map_map]; rfl
 refine ⟨hb, by unfold itMap at hm ⊢; rw [List.map_map]; exact hm, fun i hi => ?_, fun i hi => ?_, by rw [e2]; exact h.nd, by have := h.nf; unfold itFoot at this ⊢; rw [e1]; exact this, h.few.1, by rw [List.length_map]; exact h.few.2⟩
 ·obtain ⟨i', hi', rfl⟩ := List.mem_map.1 hi
  exact hc i' hi'
 ·obtain ⟨i', hi', rfl⟩ := List.mem_map.1 hi
  exact h.ids i' hi'
end
end Go.Proofs.YtgfcmdmpegomdaaGreatDoor

/-! A map's Close and Clear by their contracts. No statement of the claim. -/
namespace Go.Proofs.YtgfcmdmpegomdaaGreatDoor
set_option maxRecDepth 100000
set_option maxHeartbeats 4000000
open Go.RowKit AmC Go.MapKept Ieee
open Go.ChangeMaps (setBlock heap_setBlock_same heap_setBlock_other)
variable {I Kk M b gv ib j mb : Nat} {its : List It} {H : Nat → Nat} {a : Pool} {W0 w : World} {E : Nat → Addr} {G ids : List Nat} {lst : Cnt}
theorem itFoot_erase : ∀ q ∈ itFoot ib mb (its.eraseIdx j), q ∈ itFoot ib mb its := fun q hq => by
 unfold itFoot at hq ⊢
 simp only [List.mem_cons] at hq ⊢
 rcases hq with h | h | h
 ·exact .inl h
 ·exact .inr (.inl h)
 ·exact .inr (.inr (((List.eraseIdx_sublist its j).map It.cb).subset h))
theorem rt_Close {id cb : Nat} {c : Cur} (h : RtAt W0 E H Kk M I b G w a ids its gv lst) (hj : its[j]? = some ⟨id, cb, c⟩) : Calls Tryz.prog 18 #[.pointer (some ⟨b, 0, none⟩), .int .i64 (id : Int)] w fun y w' => y = .returned .nilIface ∧ RtTo W0 E H Kk M I b G w w' a ids (its.eraseIdx j) gv lst := by
 obtain ⟨C, GC, mb, hS, rfl, hlst⟩ := h
 have hbk := hS.blk.blk
 unfold RmC.cells at hbk
 have c16 := hbk.cell 16
 simp only [gl] at c16
 have HO := qd (iters_Close hS.itr hj)
 have HS := qd hS
 have HQ := qd hlst
 clear hbk hS hlst hj
 go_in
 go_wp2_with fail
 refine HO.out.mono ?_
 rintro y w1 ⟨rfl, hi, hm⟩
 have hs := HS.out.setI hi hm (fun q hq => .inl (by unfold itFoot; simp at hq ⊢; exact .inr (.inl hq))) (fun q hq => .inl (itFoot_erase q hq))
 have HE := qd (show RtTo W0 E H Kk M I b (rtFoot b C GC mb its) w w1 a ids (its.eraseIdx j) gv lst from HQ.out ▸ hs.to)
 clear hs hi hm HO
 go_wp2
 go_ret
 exact ⟨rfl, HE.out⟩
end Go.Proofs.YtgfcmdmpegomdaaGreatDoor

/-! The plain law of floats below 2 to the 50th: what is exact, and what rounding to the nearest whole number gives. No program in sight. -/
namespace Go.Proofs.YtgfcmdmpegomdaaGreatDoor.AmF
set_option maxRecDepth 100000
set_option maxHeartbeats 4000000
open Go.RowKit AmC Go.MapKept Ieee
open Go.ChangeMaps (setBlock heap_setBlock_same heap_setBlock_other)
variable {m w : Nat}
theorem d_sign : double.signWeight = 9223372036854775808 := by decide
theorem d_binade : double.binade = 4503599627370496 := by decide
theorem d_inf : double.infRung = 9218868437227405312 := by decide
theorem d_least : double.leastPlace = -1074 := by decide
def mant (w : Nat) : Nat := if w < 4503599627370496 then w else 4503599627370496 + w % 4503599627370496
def cutBy (w : Nat) : Nat := if w < 4503599627370496 then 1074 else 1075 - w / 4503599627370496
def Low (w : Nat) : Prop := w ≤ 4832362400168542208
def whole (w : Nat) : Nat := mant w / 2 ^ cutBy w
def left_ (w : Nat) : Nat := mant w % 2 ^ cutBy w
def rounded (w : Nat) : Nat := whole w + if 2 ^ cutBy w ≤ 2 * left_ w then 1 else 0
def roundW (w : Nat) : Nat :=
 if w / 4503599627370496 < 1023 then (if w / 4503599627370496 = 1022 then 4607182418800017408 else 0)
 else (w + 2 ^ (51 - (w / 4503599627370496 - 1023))) / 2 ^ (52 - (w / 4503599627370496 - 1023)) * 2 ^ (52 - (w / 4503599627370496 - 1023))
end Go.Proofs.YtgfcmdmpegomdaaGreatDoor.AmF

/-! The plain law of the order of floats: by their words. No program in sight. -/
namespace Go.Proofs.YtgfcmdmpegomdaaGreatDoor.AmF
set_option maxRecDepth 100000
set_option maxHeartbeats 4000000
open Go.RowKit AmC Go.MapKept Ieee
open Go.ChangeMaps (setBlock heap_setBlock_same heap_setBlock_other)
def value (r : Nat) : Nat := if r < 4503599627370496 then r else (4503599627370496 + r % 4503599627370496) * 2 ^ (r / 4503599627370496 - 1)
theorem value_succ (r : Nat) : value r < value (r + 1) := by
 unfold value
 by_cases h : r + 1 < 4503599627370496
 ·rw [if_pos (by omega), if_pos h]; omega
 ·rw [if_neg h]
  by_cases h2 : r < 4503599627370496
  ·rw [if_pos h2]
   have e1 : (r + 1) % 4503599627370496 = 0 := by omega
   have e2 : (r + 1) / 4503599627370496 = 1 := by omega
   rw [e1, e2]
   simp; omega
  ·rw [if_neg h2]
   by_cases h3 : r % 4503599627370496 = 4503599627370495
   ·have e1 : (r + 1) % 4503599627370496 = 0 := by omega
    have e2 : (r + 1) / 4503599627370496 - 1 = (r / 4503599627370496 - 1) + 1 := by omega
    rw [h3, e1, e2, Nat.pow_succ]
    have := Nat.two_pow_pos (r / 4503599627370496 - 1)
    generalize 2 ^ (r / 4503599627370496 - 1) = p at *
    omega
   ·have e1 : (r + 1) % 4503599627370496 = r % 4503599627370496 + 1 := by omega
    have e2 : (r + 1) / 4503599627370496 = r / 4503599627370496 := by omega
    rw [e1, e2]
    exact Nat.mul_lt_mul_of_pos_right (by omega) (Nat.two_pow_pos _)
theorem value_mono {r s : Nat} (h : r < s) : value r < value s := by
 induction s with
 | zero => omega
 | succ s ih =>
  by_cases e : r = s
  ·subst e; exact value_succ r
  ·exact Nat.lt_trans (ih (by omega)) (value_succ s)
theorem value_zero : value 0 = 0 := rfl
def sgn (w : Nat) : Bool := w / 9223372036854775808 % 2 == 1
def rung (w : Nat) : Nat := w % 9223372036854775808
def nanB (w : Nat) : Bool := decide (9218868437227405312 < rung w)
def key (w : Nat) : Int := if sgn w then -(rung w : Int) else (rung w : Int)
theorem read_nan {w : Nat} (h : nanB w = true) : double.read w = .nan (sgn w) (rung w - 9218868437227405312) := by
 unfold nanB at h
 have h' := of_decide_eq_true h
 unfold rung at h'
 unfold Format.read sgn rung
 simp only [d_sign, d_binade, d_inf]
 rw [if_neg (by omega), if_neg (by omega), if_neg (by omega)]
theorem read_inf {w : Nat} (h : rung w = 9218868437227405312) : double.read w = .infinity (sgn w) := by
 unfold rung at h
 unfold Format.read sgn
 simp only [d_sign, d_binade, d_inf]
 rw [if_neg (by omega), if_neg (by omega), if_pos h]
theorem read_fin {w : Nat} (h : rung w < 9218868437227405312) : ∃ (m : Nat) (d : Nat), double.read w = .number (sgn w) m (-1074 + (d : Int)) ∧ m * 2 ^ d = value (rung w) := by
 unfold rung at h
 unfold Format.read sgn rung value
 simp only [d_sign, d_binade, d_inf, d_least]
 by_cases hs : w % 9223372036854775808 < 4503599627370496
 ·rw [if_pos hs, if_pos hs]
  exact ⟨_, 0, rfl, by simp⟩
 ·rw [if_neg hs, if_pos h, if_neg hs]
  exact ⟨_, _, rfl, rfl⟩
theorem sgn_compare (s t : Bool) (a b c : Nat) (hc : 0 < c) :
  compare (if s then -((a * c : Nat) : Int) else ((a * c : Nat) : Int)) (if t then -((b * c : Nat) : Int) else ((b * c : Nat) : Int)) = compare (if s then -(a : Int) else (a : Int)) (if t then -(b : Int) else (b : Int)) := by
 have H : ∀ u v : Int, compare (u * c) (v * c) = compare u v := by
  intro u v
  have hc' : (0 : Int) < (c : Int) := by omega
  rcases Int.lt_trichotomy u v with g | g | g
  ·rw [Int.compare_eq_lt.2 g, Int.compare_eq_lt.2 (Int.mul_lt_mul_of_pos_right g hc')]
  ·rw [g, Int.compare_eq_eq.2 rfl, Int.compare_eq_eq.2 rfl]
  ·rw [Int.compare_eq_gt.2 g, Int.compare_eq_gt.2 (Int.mul_lt_mul_of_pos_right g hc')]
 have e : ∀ (s : Bool) (a : Nat), (if s then -((a * c : Nat) : Int) else ((a * c : Nat) : Int)) = (if s then -(a : Int) else (a : Int)) * c := by
  intro s a
  cases s <;> simp [Int.natCast_mul]
  rw [Int.neg_mul]
 rw [e, e, H]
theorem val_compare (s t : Bool) (r q : Nat) : compare (if s then -(value r : Int) else (value r : Int)) (if t then -(value q : Int) else (value q : Int)) = compare (if s then -(r : Int) else (r : Int)) (if t then -(q : Int) else (q : Int)) := by
 have h1 : ∀ a, 0 < a → 0 < value a := fun a h => by have := value_mono h; rw [value_zero] at this; exact this
 have h0 : value 0 = 0 := rfl
 have hm := value_mono (r := r) (s := q)
 have hm' := value_mono (r := q) (s := r)
 have hr : r = 0 ∧ value r = 0 ∨ 0 < r ∧ 0 < value r := by
  by_cases e : r = 0
  ·subst e; exact .inl ⟨rfl, h0⟩
  ·exact .inr ⟨by omega, h1 r (by omega)⟩
 have hq : q = 0 ∧ value q = 0 ∨ 0 < q ∧ 0 < value q := by
  by_cases e : q = 0
  ·subst e; exact .inl ⟨rfl, h0⟩
  ·exact .inr ⟨by omega, h1 q (by omega)⟩
 have heq : r = q → value r = value q := fun e => by rw [e]
 generalize value r = a at *
 generalize value q = b at *
 have key : ∀ u v x y : Int, ((u < v ↔ x < y) ∧ (u = v ↔ x = y)) → compare u v = compare x y := by
  rintro u v x y ⟨g1, g2⟩
  rcases Int.lt_trichotomy u v with g | g | g
  ·rw [Int.compare_eq_lt.2 g, Int.compare_eq_lt.2 (g1.1 g)]
  ·rw [Int.compare_eq_eq.2 g, Int.compare_eq_eq.2 (g2.1 g)]
  ·have e1 : ¬ x < y := fun e => by have := g1.2 e; omega
   have e2 : ¬ x = y := fun e => by have := g2.2 e; omega
   rw [Int.compare_eq_gt.2 g, Int.compare_eq_gt.2 (by omega)]
 apply key
 rcases Nat.lt_trichotomy r q with g | g | g
 ·have := hm g
  cases s <;> cases t <;> simp <;> omega
 ·have := heq g
  cases s <;> cases t <;> simp <;> omega
 ·have := hm' g
  cases s <;> cases t <;> simp <;> omega
theorem order_key (a b : Nat) : double.order a b = if nanB a || nanB b then none else some (compare (key a) (key b)) := by
 unfold Format.order
 cases hna : nanB a with
 | true => rw [read_nan hna]; rfl
 | false =>
  cases hnb : nanB b with
  | true =>
   rw [read_nan hnb]
   simp only [Bool.or_true, if_true]
   cases double.read a <;> rfl
  | false =>
   have ha : rung a ≤ 9218868437227405312 := by have := of_decide_eq_false hna; omega
   have hb : rung b ≤ 9218868437227405312 := by have := of_decide_eq_false hnb; omega
   simp only [Bool.or_self, Bool.false_eq_true, if_false]
   by_cases ea : rung a = 9218868437227405312
   ·rw [read_inf ea]
    by_cases eb : rung b = 9218868437227405312
    ·rw [read_inf eb]
     unfold key Datum.order
     rw [ea, eb]
     cases sgn a <;> cases sgn b <;> rfl
    ·obtain ⟨n, d, hr, _⟩ := read_fin (w := b) (by omega)
     rw [hr]
     unfold key Datum.order
     rw [ea]
     cases sgn a
     ·simp only [Bool.false_eq_true, if_false]
      congr 1
      symm
      rw [Int.compare_eq_gt]
      split <;> omega
     ·simp only [if_true]
      congr 1
      symm
      rw [Int.compare_eq_lt]
      split <;> omega
   ·obtain ⟨m, c, hra, hva⟩ := read_fin (w := a) (by omega)
    rw [hra]
    by_cases eb : rung b = 9218868437227405312
    ·rw [read_inf eb]
     unfold key Datum.order
     rw [eb]
     cases sgn b
     ·simp only [Bool.false_eq_true, if_false]
      congr 1
      symm
      rw [Int.compare_eq_lt]
      split <;> omega
     ·simp only [if_true]
      congr 1
      symm
      rw [Int.compare_eq_gt]
      split <;> omega
    ·obtain ⟨n, d, hrb, hvb⟩ := read_fin (w := b) (by omega)
     rw [hrb]
     unfold Datum.order key
     simp only
     congr 1
     rw [← val_compare (sgn a) (sgn b) (rung a) (rung b), ← hva, ← hvb]
     unfold signed
     simp only [Nat.shiftLeft_eq]
     obtain ⟨x, hx⟩ : ∃ x, x = min c d := ⟨_, rfl⟩
     have e0 : min (-1074 + (c : Int)) (-1074 + (d : Int)) = -1074 + (x : Int) := by omega
     rw [e0]
     have e1 : (-1074 + (c : Int) - (-1074 + (x : Int))).toNat = c - x := by omega
     have e2 : (-1074 + (d : Int) - (-1074 + (x : Int))).toNat = d - x := by omega
     rw [e1, e2]
     have e3 : m * 2 ^ c = m * 2 ^ (c - x) * 2 ^ x := by rw [Nat.mul_assoc, ← Nat.pow_add, show c - x + x = c by omega]
     have e4 : n * 2 ^ d = n * 2 ^ (d - x) * 2 ^ x := by rw [Nat.mul_assoc, ← Nat.pow_add, show d - x + x = d by omega]
     rw [e3, e4]
     exact (sgn_compare _ _ _ _ _ (Nat.two_pow_pos x)).symm
end Go.Proofs.YtgfcmdmpegomdaaGreatDoor.AmF
