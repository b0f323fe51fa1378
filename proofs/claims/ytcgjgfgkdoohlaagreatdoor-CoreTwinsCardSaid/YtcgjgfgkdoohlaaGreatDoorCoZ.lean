/- Package build by its contracts. -/
import Derived.Test.YtcgjgfgkdoohlaaGreatDoorCoAC
import Derived.Test.YtcgjgfgkdoohlaaGreatDoorSqT
import Derived.Test.YtcgjgfgkdoohlaaGreatDoorLaneP
import Derived.Test.YtcgjgfgkdoohlaaGreatDoorCoEnv
namespace Go.Proofs.YtcgjgfgkdoohlaaGreatDoor
section
set_option maxRecDepth 100000
set_option maxHeartbeats 4000000
open Go.RowKit AmC
def cU (n : Int) : Cnt := ⟨0, 0, n⟩
def cV : Cnt := ⟨0, 1, 0⟩
def cP : Cnt := ⟨1, 0, 0⟩
def bldP (b : Nat) : Value := .pointer (some ⟨b, 0, none⟩)
structure BldAt (w : World) (bb tb gb n k : Nat) : Prop where
 blk : Blk w bb 238 #[.pointer (some ⟨tb, 0, none⟩), .int .i64 (n : Int), .int .i64 (k : Int)]
 tab : TabAt w tb gb (prepT n k)
 le : k ≤ n
 pow : Pw n
 ne1 : bb ≠ tb
 ne2 : bb ≠ gb
section
variable {w w' : World} {bb tb gb n k : Nat}
theorem BldAt.lt (h : BldAt w bb tb gb n k) : bb < w.heap.size := h.blk.lt
theorem BldAt.ltT (h : BldAt w bb tb gb n k) : tb < w.heap.size := h.tab.ltT
theorem BldAt.ltG (h : BldAt w bb tb gb n k) : gb < w.heap.size := h.tab.ltG
theorem BldAt.mod {S : List Nat} (h : BldAt w bb tb gb n k) (hm : Mod S w w') (h1 : bb ∉ S) (h2 : tb ∉ S) (h3 : gb ∉ S) : BldAt w' bb tb gb n k := ⟨h.blk.mod hm h1, h.tab.mod hm h2 h3, h.le, h.pow, h.ne1, h.ne2⟩
instance {w w' : World} {bb tb gb n k : Nat} : Md (BldAt w bb tb gb n k) w w' (BldAt w' bb tb gb n k) (fun S => bb ∉ S ∧ tb ∉ S ∧ gb ∉ S) := ⟨fun h hm hs => h.mod hm hs.1 hs.2.1 hs.2.2⟩
theorem BldAt.cells (h : BldAt w bb tb gb n k) : w.cell? ⟨bb, 0, none⟩ = some (.pointer (some ⟨tb, 0, none⟩)) ∧ w.cell? ⟨bb, 1, none⟩ = some (.int .i64 (n : Int)) ∧ w.cell? ⟨bb, 2, none⟩ = some (.int .i64 (k : Int)) :=
 ⟨h.blk.cell 0, h.blk.cell 1, h.blk.cell 2⟩
end
theorem build_New (n : Nat) (hn : Pw n) (w : World) :
  Calls Tryz.prog 140 #[.int .i64 (n : Int)] w fun e w' => ∃ bb tb gb, w.heap.size ≤ bb ∧ w.heap.size ≤ tb ∧ w.heap.size ≤ gb ∧ e = .returned (.tuple #[bldP bb, .nilIface]) ∧ BldAt w' bb tb gb n 0 ∧ Below w.heap.size w w' := by
 have HR := qd (table_Raw n hn w)
 unfold tabP at HR
 unfold bldP
 go_in
 go_wp2_with fail
 refine (HR.out).mono ?_
 rintro x w1 ⟨rfl, hT1, hb1⟩
 go_wp2
 refine bodyPost_ret (v := .tuple #[.pointer (some ⟨w1.heap.size, 0, none⟩), .nilIface]) (by simp [results, Tryz.results140, go_sem]) rfl ⟨w1.heap.size, w.heap.size + 1, w.heap.size, hb1.size, by omega, by omega, rfl, ⟨Blk.new w1 _ _, hT1.below ((Below.refl _ _).alloc (Nat.le_refl _) _), Nat.zero_le _, hn, ?_, ?_⟩, hb1.alloc (by have := hT1.ltT; omega) _⟩
 ·have := hT1.ltT; omega
 ·have := hT1.ltG; omega
theorem build_Groups (bb n k : Nat) (p : Value) (w : World) (h : Blk w bb 238 #[p, .int .i64 (n : Int), .int .i64 (k : Int)]) :
  Calls Tryz.prog 124 #[bldP bb] w fun e w' => e = .returned (.int .i64 (n : Int)) ∧ w = w' := by
 have c1 := h.cell 1
 simp only [gl] at c1
 clear h
 unfold bldP
 go_in
 go_wp2
 go_ret
 exact ⟨rfl, rfl⟩
theorem build_Left (bb n k : Nat) (p : Value) (w : World) (hk : k ≤ n) (hn : n ≤ 64) (h : Blk w bb 238 #[p, .int .i64 (n : Int), .int .i64 (k : Int)]) :
  Calls Tryz.prog 129 #[bldP bb] w fun e w' => e = .returned (.int .i64 ((n - k : Nat) : Int)) ∧ w.drew = w' := by
 have c1 := h.cell 1
 have c2 := h.cell 2
 simp only [gl] at c1 c2
 clear h
 unfold bldP
 go_in
 go_upto_region 1 with fail
 go_region
 go_wp2
 go_ret
 exact ⟨ret_int (by omega), rfl⟩
theorem build_Step {W0 : World} {E : Nat → Addr} (bb tb gb n k : Nat) (P : MP) (x : Mtr) (hk : k < n) (w : World) (h : BldAt w bb tb gb n k) (hM : MetP w P x) (hE : Env W0 E w) (hmb : P.mb ≠ bb) (hmt : P.mb ≠ tb) (hmg : P.mb ≠ gb) (hb0 : W0.heap.size ≤ P.mb) (hb1 : W0.heap.size ≤ bb) (hb2 : W0.heap.size ≤ tb) (hb3 : W0.heap.size ≤ gb) :
  Calls Tryz.prog 213 #[bldP bb, .pointer (some ⟨P.mb, P.mo, none⟩)] w fun e w' => e = .returned (.bool true) ∧ BldAt w' bb tb gb n (k + 1) ∧ MetP w' P ((x.add cV 1).add (cU 1) 1) ∧ Mod [P.mb, bb, tb, gb] w w' := by
 have hml := hM.lt
 have hB0 := hE.size
 have hne1 := h.ne1
 have hne2 := h.ne2
 have hle := h.pow.le
 have hk0 : ¬ ((n - k : Nat) : Int) = 0 := by omega
 have hk1 : ¬ n ≤ k := by omega
 have hk2 : ¬ n - k = 0 := by omega
 have HB := qd (h.blk)
 have HT := qd (h.tab)
 have HV0 := qd (hE)
 have HM := qd (hM)
 have Hmod := qd (Mod.refl [P.mb, bb, tb, gb] w)
 have HP := qd h.pow
 clear h hM hE
 unfold bldP
 have q1 := qJ HB.out.lt (qJ HT.out.ltT (qJ HT.out.ltG HM.out.lt))
 go_in
 go_upto_region 1 with fail
 have bc := HB.out.c3
 refine region_T (fun (w' : World) => w'.cell? ⟨bb, 0, none⟩ = some (.pointer (some ⟨tb, 0, none⟩)) ∧ w'.cell? ⟨bb, 1, none⟩ = some (.int .i64 (n : Int)) ∧ w'.cell? ⟨bb, 2, none⟩ = some (.int .i64 (k : Int))) [] (by kernel_rfl) ?_
 try (change wpAnyT _ _ _ _ _ _ _ _ _ (World.drew _))
 have hHeld := (⟨bc.1, bc.2.1, bc.2.2⟩ : _ ∧ _ ∧ _)
 refine vW 0 rfl ?_
 refine nT 1 rfl fun K hK => ?_
 go_simp
 refine (build_Left bb n k _ _ (by omega) hle (HB.out.mod (Mod.drewN [] w 1) (by simp))).mono ?_
 rintro y w1 ⟨rfl, hw1⟩
 have hm : Mod [] w w1 := hw1 ▸ Mod.drewN [] w 2
 clear hw1 bc
 replace HB := qM hm HB
 replace HT := qM hm HT
 replace HV0 := qM hm HV0
 replace HM := qM hm HM
 have z5 := (hm).size
 replace Hmod := qU Hmod hm
 clear hm
 have bc := HB.out.c3
 go_wp2_with fail
 have hHeld := (⟨bc.1, bc.2.1, bc.2.2⟩ : _ ∧ _ ∧ _)
 refine kO hK ?_
 clear hK K
 refine tW 2 (some 7) (.bool false) rfl hHeld ?_
 try simp only [pt]
 refine tW 3 (some 8) (.bool false) rfl hHeld ?_
 try simp only [pt]
 refine vW 4 rfl ?_
 refine vW 5 rfl ?_
 refine vW 6 rfl ?_
 refine vT 7 rfl ?_
 refine vW 8 rfl ?_
 refine vW 10 rfl ?_
 refine vW 11 rfl ?_
 refine vW 12 rfl ?_
 refine vT 13 rfl ?_
 refine nT 9 rfl fun K hK => ?_
 go_simp
 refine (meter_Working (some ⟨P.mb, P.mo, none⟩) _).mono ?_
 rintro y w2 ⟨rfl, hb⟩
 unfold lensV
 clear bc
 replace HB := qB hb HB
 replace HT := qB hb HT
 replace HV0 := qB hb HV0
 replace HM := qB hb HM
 have z6 := (hb).size
 replace Hmod := qT Hmod hb
 clear hb
 have bc := HB.out.c3
 go_wp2_with fail
 have hHeld := (⟨bc.1, bc.2.1, bc.2.2⟩ : _ ∧ _ ∧ _)
 refine kO hK ?_
 clear hK K
 refine nT 14 rfl fun K hK => ?_
 go_simp
 have HPr := qd (table_Prepare tb gb (prepT n k) P.mb P.mt P.pre P.post P.mo x.all x.last P.m ⟨0, 1, 0⟩ k (by rw [show (prepT n k).gs.length = n from prepG_length (by omega)]; exact hk) w2 HT.out HM.out hmt hmg)
 unfold tabP lensV at HPr
 refine (HPr.out).mono ?_
 rintro y w3 ⟨rfl, hT3, hM3, hm⟩
 clear HPr HT HM bc
 replace HB := qM hm HB
 replace HV0 := qM hm HV0
 have z7 := (hm).size
 replace Hmod := qU Hmod hm
 have HT := qd (show TabAt w3 tb gb (prepT n (k + 1)) from by unfold prepT at hT3 ⊢; rw [← prepG_set hk]; exact hT3)
 have HM := qd (show MetP w3 P (x.add cV 1) from hM3)
 clear hM3 hT3 hm
 have bc := HB.out.c3
 go_wp2_with fail
 have hHeld := (⟨bc.1, bc.2.1, bc.2.2⟩ : _ ∧ _ ∧ _)
 refine kO hK ?_
 clear hK K
 refine tW 15 (some 20) (.bool false) rfl hHeld ?_
 try simp only [pt]
 refine tW 16 (some 21) (.bool false) rfl hHeld ?_
 try simp only [pt]
 refine doneT (by kernel_rfl) ?_ _
 go_upto_region 3 with fail
 have HU := qd (meter_Unit P.mb P.mt P.pre P.post P.mo _ _ P.m 1 (by omega) w3 HM.out)
 clear HM
 go_wp2_with fail
 refine (HU.out).mono ?_
 rintro x w4 ⟨rfl, hM4, hm⟩
 clear bc
 replace HB := qM hm HB
 replace HV0 := qM hm HV0
 replace HT := qM hm HT
 have z8 := (hm).size
 replace Hmod := qU Hmod hm
 clear hm
 have HM := qd (show MetP w4 P ((x.add cV 1).add (cU 1) 1) from hM4)
 clear hM4 HU
 have bc := HB.out.c3
 have bf := HB.out.f3
 go_upto_region 5 with fail
 have q9 := qJ HB.out.lt (qJ HT.out.ltT (qJ HT.out.ltG HM.out.lt))
 refine qS1 HB.out ?_
 rintro w5 ⟨hnew, hm⟩
 simp only [pt] at hnew
 clear bc bf
 replace HV0 := qM hm HV0
 replace HT := qM hm HT
 replace HM := qM hm HM
 have z13 := (hm).size
 replace Hmod := qU Hmod hm
 replace HB := qd hnew
 clear hnew hm
 go_wp2
 go_ret
 exact ⟨rfl, ⟨HB.out, HT.out, by omega, HP.out, hne1, hne2⟩, HM.out, Hmod.out⟩
theorem build_Step_no (bb tb gb n : Nat) (p : Value) (w : World) (h : BldAt w bb tb gb n n) :
  Calls Tryz.prog 213 #[bldP bb, p] w fun e w' => e = .returned (.bool false) ∧ Below w.heap.size w w' := by
 have hle := h.pow.le
 unfold bldP
 have HL := qd (build_Left bb n n _ w.drew (Nat.le_refl n) hle h.blk.drew)
 rw [Nat.sub_self] at HL
 unfold bldP at HL
 go_in
 go_upto_region 1 with fail
 refine region_T (fun (w' : World) => True) [] (by kernel_rfl) ?_
 try (change wpAnyT _ _ _ _ _ _ _ _ _ (World.drew _))
 have hHeld := trivial
 refine vW 0 rfl ?_
 refine nT 1 rfl fun K hK => ?_
 go_simp
 refine (HL.out).mono ?_
 rintro y w1 ⟨rfl, rfl⟩
 go_wp2_with fail
 refine kO hK ?_
 clear hK K
 refine tW 2 (some 7) (.bool true) rfl hHeld ?_
 try simp only [pt]
 refine tW 3 (some 8) (.bool true) rfl hHeld ?_
 try simp only [pt]
 refine vU 4 rfl ?_
 refine vU 5 rfl ?_
 refine vU 6 rfl ?_
 refine vU 7 rfl ?_
 refine vU 8 rfl ?_
 refine vU 9 rfl ?_
 refine vU 10 rfl ?_
 refine vU 11 rfl ?_
 refine vU 12 rfl ?_
 refine vU 13 rfl ?_
 refine vU 14 rfl ?_
 refine vU 15 rfl ?_
 refine tW 16 (some 21) (.bool true) rfl hHeld ?_
 try simp only [pt]
 refine doneT (by kernel_rfl) ?_ _
 go_wp2
 go_ret
 exact ⟨rfl, (Below.refl _ _).drew.drew⟩
theorem build_Take (bb tb gb n : Nat) (w : World) (h : BldAt w bb tb gb n n) :
  Calls Tryz.prog 221 #[bldP bb] w fun e w' => e = .returned (.tuple #[tabP tb, .nilIface]) ∧ Blk w' bb 238 #[.pointer none, .int .i64 (n : Int), .int .i64 (n : Int)] ∧ TabAt w' tb gb (prepT n n) ∧ Mod [bb] w w' := by
 have hle := h.pow.le
 have HL := qd (build_Left bb n n _ w (Nat.le_refl n) hle h.blk)
 rw [Nat.sub_self] at HL
 have hne1 := h.ne1
 have hne2 := h.ne2
 have HB := qd (h.blk)
 have HT := qd (h.tab)
 have Hmod := qd (Mod.refl [bb] w)
 clear h
 unfold bldP tabP
 unfold bldP at HL
 go_in
 go_upto_region 1 with fail
 go_wp2_with fail
 refine (HL.out).mono ?_
 rintro x w1 ⟨rfl, hw1⟩
 have hm : Mod [] w w1 := hw1 ▸ Mod.drewN [] w 1
 clear hw1 HL
 replace HB := qM hm HB
 replace HT := qM hm HT
 have z1 := (hm).size
 replace Hmod := qU Hmod hm
 clear hm
 have bc := HB.out.c3
 have bf := HB.out.f3
 go_upto_region 5 with fail
 have q2 := qJ HB.out.lt (qJ HT.out.ltT HT.out.ltG)
 refine qS1 HB.out ?_
 rintro w2 ⟨hnew, hm⟩
 simp only [pt] at hnew
 clear bc bf
 replace HT := qM hm HT
 have z5 := (hm).size
 replace Hmod := qU Hmod hm
 replace HB := qd hnew
 clear hnew hm
 go_wp2
 refine bodyPost_ret (v := .tuple #[.pointer (some ⟨tb, 0, none⟩), .nilIface]) (by simp [results, Tryz.results221, go_sem]) rfl ⟨rfl, HB.out, HT.out, Hmod.out⟩
end
section
open Go.RowKit AmC
attribute [local go_sem] Option.isNone_some Option.isNone_none
set_option maxRecDepth 100000 in
set_option maxHeartbeats 4000000 in
theorem trap_Raise (w : World) : Calls Tryz.prog 62 #[.nilIface] w fun e w' => e = .returned undef ∧ w = w' := by
 go_in
 go_wp2
 go_end0
 exact ⟨rfl, rfl⟩
theorem trap_Need (w : World) : Calls Tryz.prog 37 #[.bool true] w fun e w' => e = .returned undef ∧ w = w' := by
 go_in
 go_wp2
 go_end0
 exact ⟨rfl, rfl⟩
set_option maxRecDepth 100000 in
set_option maxHeartbeats 4000000 in
theorem must_int (a : Int) (w : World) : Calls Tryz.prog 92 #[.int .i64 a, .nilIface] w fun e w' => e = .returned (.int .i64 a) ∧ w = w' := by
 have HR := qd (trap_Raise w)
 go_in
 go_wp2_with fail
 refine (HR.out).mono ?_
 rintro x w1 ⟨rfl, rfl⟩
 go_wp2
 go_ret
 exact ⟨rfl, rfl⟩
set_option maxRecDepth 100000 in
set_option maxHeartbeats 4000000 in
theorem must_u64 (a : Int) (w : World) : Calls Tryz.prog 83 #[.int .u64 a, .nilIface] w fun e w' => e = .returned (.int .u64 a) ∧ w = w' := by
 have HR := qd (trap_Raise w)
 go_in
 go_wp2_with fail
 refine (HR.out).mono ?_
 rintro x w1 ⟨rfl, rfl⟩
 go_wp2
 go_ret
 exact ⟨rfl, rfl⟩
set_option maxRecDepth 100000 in
set_option maxHeartbeats 4000000 in
theorem must_cop (p : Option Addr) (w : World) : Calls Tryz.prog 65 #[.pointer p, .nilIface] w fun e w' => e = .returned (.pointer p) ∧ w = w' := by
 have HR := qd (trap_Raise w)
 go_in
 go_wp2_with fail
 refine (HR.out).mono ?_
 rintro x w1 ⟨rfl, rfl⟩
 go_wp2
 go_ret
 exact ⟨rfl, rfl⟩
set_option maxRecDepth 100000 in
set_option maxHeartbeats 4000000 in
theorem must_dir (p : Option Addr) (w : World) : Calls Tryz.prog 110 #[.pointer p, .nilIface] w fun e w' => e = .returned (.pointer p) ∧ w = w' := by
 have HR := qd (trap_Raise w)
 go_in
 go_wp2_with fail
 refine (HR.out).mono ?_
 rintro x w1 ⟨rfl, rfl⟩
 go_wp2
 go_ret
 exact ⟨rfl, rfl⟩
set_option maxRecDepth 100000 in
set_option maxHeartbeats 4000000 in
theorem must_node (p : Option Addr) (w : World) : Calls Tryz.prog 112 #[.pointer p, .nilIface] w fun e w' => e = .returned (.pointer p) ∧ w = w' := by
 have HR := qd (trap_Raise w)
 go_in
 go_wp2_with fail
 refine (HR.out).mono ?_
 rintro x w1 ⟨rfl, rfl⟩
 go_wp2
 go_ret
 exact ⟨rfl, rfl⟩
set_option maxRecDepth 100000 in
set_option maxHeartbeats 4000000 in
theorem must_ents (p : Option Addr) (n c : Nat) (w : World) : Calls Tryz.prog 215 #[.slice p n c, .nilIface] w fun e w' => e = .returned (.slice p n c) ∧ w = w' := by
 have HR := qd (trap_Raise w)
 go_in
 go_wp2_with fail
 refine (HR.out).mono ?_
 rintro x w1 ⟨rfl, rfl⟩
 go_wp2
 go_ret
 exact ⟨rfl, rfl⟩
set_option maxRecDepth 100000 in
set_option maxHeartbeats 4000000 in
theorem must_tab (p : Option Addr) (w : World) : Calls Tryz.prog 220 #[.pointer p, .nilIface] w fun e w' => e = .returned (.pointer p) ∧ w = w' := by
 have HR := qd (trap_Raise w)
 go_in
 go_wp2_with fail
 refine (HR.out).mono ?_
 rintro x w1 ⟨rfl, rfl⟩
 go_wp2
 go_ret
 exact ⟨rfl, rfl⟩
set_option maxRecDepth 100000 in
set_option maxHeartbeats 4000000 in
theorem must_evac (p : Option Addr) (w : World) : Calls Tryz.prog 222 #[.pointer p, .nilIface] w fun e w' => e = .returned (.pointer p) ∧ w = w' := by
 have HR := qd (trap_Raise w)
 go_in
 go_wp2_with fail
 refine (HR.out).mono ?_
 rintro x w1 ⟨rfl, rfl⟩
 go_wp2
 go_ret
 exact ⟨rfl, rfl⟩
structure RowAt (w : World) (rb : Nat) (ts : List Nat) : Prop where
 lt : rb < w.heap.size
 at_ : ∀ j t, ts[j]? = some t → w.cell? ⟨rb, j, none⟩ = some (.pointer (some ⟨t, 0, none⟩))
theorem RowAt.mod {S : List Nat} {w w' : World} {rb : Nat} {ts : List Nat} (h : RowAt w rb ts) (hm : Mod S w w') (hs : rb ∉ S) : RowAt w' rb ts :=
 ⟨Nat.lt_of_lt_of_le h.lt hm.size, fun j t ht => (hm.cell_ (p := ⟨rb, j, none⟩) h.lt hs).trans (h.at_ j t ht)⟩
instance {w w' : World} {rb : Nat} {ts : List Nat} : Md (RowAt w rb ts) w w' (RowAt w' rb ts) (fun S => rb ∉ S) := ⟨fun h hm hs => h.mod hm hs⟩
def ptrs (ts : List Nat) : List Value := ts.map fun t => .pointer (some ⟨t, 0, none⟩)
theorem RowAt.of_own {w : World} {base n c : Nat} {e : TypeId} {A : Option Addr} {ts : List Nat} (h : w.ownsRow base e 1 (.slice A n c) n (ptrs ts)) (hn : 0 < n) : ∃ rb, A = some ⟨rb, 0, none⟩ ∧ base ≤ rb ∧ RowAt w rb ts ∧ ts.length = n := by
 have hl := h.1
 rcases h.2 with hz | ⟨g, cap, cur, hv, hb, hg, h1, h2, h3, h4⟩
 ·omega
 ·cases hv
  refine ⟨g, rfl, hb, ⟨(Array.getElem?_eq_some_iff.1 hg).1, fun j t ht => ?_⟩, by simpa [ptrs] using hl⟩
  obtain ⟨hj, _⟩ := List.getElem?_eq_some_iff.1 ht
  have hjn : j < n := by simp [ptrs] at hl; omega
  have := h.cellAt j (by omega)
  rw [this]; unfold ptrs; rw [List.getElem?_map, ht]; rfl
set_option maxRecDepth 100000 in
set_option maxHeartbeats 4000000 in
theorem index_nil (rb cap : Nat) (ts : List Nat) (hn : ts.length ≤ 2) (w : World) (h : RowAt w rb ts) :
  Calls Tryz.prog 227 #[.slice (some ⟨rb, 0, none⟩) ts.length cap, .pointer none] w fun e w' => e = .returned (.int .i64 (-1)) ∧ w = w' := by
 go_in
 go_wp2
 go_loop [5, 8] (fun _ i => ∃ k : Nat, k ≤ ts.length ∧ i = .int .i64 k) (fun _ i => ts.length - (intOf i).toNat)
 case atStart => exact ⟨0, by omega, rfl⟩
 case round =>
  obtain ⟨k, hk, rfl⟩ := hrel
  by_cases hlt : k < ts.length
  ·have hlt' : (k : Int) < (ts.length : Int) := by omega
   have hk0 : (0 : Int) ≤ (k : Int) := by omega
   have hc := h.at_ k ts[k] (List.getElem?_eq_getElem hlt)
   generalize ts[k] = tk at hc
   have hnn : (Go.binOp .eql 109 (.pointer none) (.pointer (some (⟨tk, 0, none⟩ : Addr)))).run Tryz.prog w = .ok (.bool false) w := by first | rfl | kernel_rfl | simp [Go.binOp, go_sem]
   go_wp2
   go_round
   case rel => exact ⟨k + 1, by omega, by go_num⟩
   case measure => simp [intOf]; omega
  ·have hlt' : ¬ (k : Int) < (ts.length : Int) := by omega
   go_wp2
   go_ret
   exact ⟨rfl, rfl⟩
set_option maxRecDepth 100000 in
set_option maxHeartbeats 4000000 in
theorem contains_nil (rb cap : Nat) (ts : List Nat) (hn : ts.length ≤ 2) (w : World) (h : RowAt w rb ts) :
  Calls Tryz.prog 225 #[.slice (some ⟨rb, 0, none⟩) ts.length cap, .pointer none] w fun e w' => e = .returned (.bool false) ∧ w = w' := by
 have HI := qd (index_nil rb cap ts hn w h)
 go_in
 go_wp2_with fail
 refine (HI.out).mono ?_
 rintro x w1 ⟨rfl, rfl⟩
 go_wp2
 go_ret
 exact ⟨rfl, rfl⟩
end
section
set_option maxRecDepth 100000
set_option maxHeartbeats 4000000
open Go.RowKit AmC
variable {w : World} {cap depth eb next tb vb : Nat} {ts : List Nat}
def sideOf (k depth hash : Nat) : Nat := if k = 1 then 0 else bitOf hash depth
structure EvAt (w : World) (eb tb vb cap : Nat) (ts : List Nat) (depth next : Nat) : Prop where
 blk : Blk w eb 240 #[.pointer (some ⟨tb, 0, none⟩), .slice (some ⟨vb, 0, none⟩) ts.length cap, .int .i64 (depth : Int), .int .i64 (next : Int)]
 row : RowAt w vb ts
theorem EvAt.mod {S : List Nat} {w' : World} (h : EvAt w eb tb vb cap ts depth next) (hm : Mod S w w') (h1 : eb ∉ S) (h2 : vb ∉ S) : EvAt w' eb tb vb cap ts depth next := ⟨h.blk.mod hm h1, h.row.mod hm h2⟩
instance {w w' : World} {eb tb vb cap : Nat} {ts : List Nat} {depth next : Nat} : Md (EvAt w eb tb vb cap ts depth next) w w' (EvAt w' eb tb vb cap ts depth next) (fun S => eb ∉ S ∧ vb ∉ S) := ⟨fun h hm hs => h.mod hm hs.1 hs.2⟩
theorem EvAt.lt (h : EvAt w eb tb vb cap ts depth next) : eb < w.heap.size := h.blk.lt
theorem EvAt.ltV (h : EvAt w eb tb vb cap ts depth next) : vb < w.heap.size := h.row.lt
theorem sub_nat {a b : Nat} (h : b ≤ a) : (a : Int) - (b : Int) = ((a - b : Nat) : Int) := by omega
theorem evac_Left (eb tb gb vb cap : Nat) (ts : List Nat) (depth next : Nat) (T : TabM) (w : World) (h : EvAt w eb tb vb cap ts depth next) (ht : TabAt w tb gb T) (hle : next ≤ T.gs.length) (h64 : T.gs.length ≤ 64) :
  Calls Tryz.prog 128 #[.pointer (some ⟨eb, 0, none⟩)] w fun e w' => e = .returned (.int .i64 ((T.gs.length - next : Nat) : Int)) ∧ w.drew = w' := by
 obtain ⟨tc0, tc1, tc2⟩ := ht.cells
 obtain ⟨n, hn⟩ : ∃ n, n = T.gs.length := ⟨_, rfl⟩
 have HG := qd (table_Groups tb gb T w.drew (ht.below (Below.refl _ _).drew))
 rw [← hn] at HG hle h64 ⊢
 unfold tabP at HG
 have HE := qd (h)
 have Hmod := qd (Mod.refl [] w)
 have HEb := qd h.blk
 clear h ht
 have ec := HEb.out.c4
 have hwr : IntKind.i64.wrap ((n : Int) - (next : Int)) = ((n - next : Nat) : Int) := by rw [sub_nat hle]; rw [IntKind.wrap_i64]; omega
 clear tc0 tc1 tc2 hn
 go_in
 go_upto_region 1 with fail
 refine region_T (fun (w' : World) => w'.cell? ⟨eb, 0, none⟩ = some (.pointer (some ⟨tb, 0, none⟩)) ∧ w'.cell? ⟨eb, 3, none⟩ = some (.int .i64 (next : Int))) [] (by kernel_rfl) ?_
 try (change wpAnyT _ _ _ _ _ _ _ _ _ (World.drew _))
 have hHeld := (⟨ec.1, ec.2.2.2⟩ : _ ∧ _)
 refine vW 0 rfl ?_
 refine vW 1 rfl ?_
 refine vW 2 rfl ?_
 refine vT 3 rfl ?_
 refine vW 5 rfl ?_
 refine vW 6 rfl ?_
 refine vW 7 rfl ?_
 refine vT 8 rfl ?_
 refine nT 4 rfl fun K hK => ?_
 go_simp
 refine (HG.out).mono ?_
 rintro y w1 ⟨rfl, rfl⟩
 go_wp2_with fail
 have hHeld := (⟨ec.1, ec.2.2.2⟩ : _ ∧ _)
 refine kO hK ?_
 clear hK K
 refine vW 9 rfl ?_
 refine vW 10 rfl ?_
 refine doneT (by kernel_rfl) ?_ _
 go_wp2
 go_ret
 exact ⟨rfl, rfl⟩
theorem evac_Target (eb tb vb cap : Nat) (ts : List Nat) (depth next hash t : Nat) (hk : 1 ≤ ts.length ∧ ts.length ≤ 2) (hd : depth ≤ 15) (h64 : hash < 18446744073709551616) (ht : ts[sideOf ts.length depth hash]? = some t) (w : World) (h : EvAt w eb tb vb cap ts depth next) :
  Calls Tryz.prog 136 #[.pointer (some ⟨eb, 0, none⟩), .int .u64 (hash : Int)] w fun e w' => e = .returned (tabP t) ∧ Below w.heap.size w w' := by
 obtain ⟨ec0, ec1, ec2, ec3⟩ := h.blk.c4
 have hr := h.row.at_ _ _ ht
 have HT := qd ht
 unfold tabP
 clear h ht
 by_cases h1 : ts.length = 1
 ·have hs : sideOf ts.length depth hash = 0 := by unfold sideOf; rw [if_pos h1]
  rw [hs] at hr
  rw [h1] at ec1
  go_in
  go_wp2
  go_ret
  exact ⟨rfl, Below.refl _ _⟩
 ·have h2 : ts.length = 2 := by omega
  have hs : sideOf ts.length depth hash = bitOf hash depth := by unfold sideOf; rw [if_neg h1]
  rw [hs] at hr
  rw [h2] at ec1
  clear hs h1 HT
  have hbl : bitOf hash depth < 2 := Nat.mod_lt _ (by omega)
  have HBt := qd (split_Bit hash depth h64 hd w.drew)
  generalize bitOf hash depth = sd at *
  have hsd : (sd : Int) < 2 := by omega
  have hsd0 : (0 : Int) ≤ (sd : Int) := by omega
  have HMu := qd (must_int (sd : Int) w.drew)
  go_in
  go_upto_region 3 with fail
  refine region_T (fun (w' : World) => w'.cell? ⟨eb, 1, none⟩ = some (.slice (some ⟨vb, 0, none⟩) 2 cap) ∧ w'.cell? ⟨eb, 2, none⟩ = some (.int .i64 (depth : Int)) ∧ w'.cell? ⟨vb, sd, none⟩ = some (.pointer (some ⟨t, 0, none⟩))) [] (by kernel_rfl) ?_
  try (change wpAnyT _ _ _ _ _ _ _ _ _ (World.drew _))
  have hHeld := (⟨ec1, ec2, hr⟩ : _ ∧ _ ∧ _)
  refine vW 0 rfl ?_
  refine vW 1 rfl ?_
  refine vW 2 rfl ?_
  refine vT 3 rfl ?_
  refine vW 4 rfl ?_
  refine vW 5 rfl ?_
  refine vW 6 rfl ?_
  refine vW 7 rfl ?_
  refine vT 8 rfl ?_
  refine nT 9 rfl fun K hK => ?_
  go_simp
  refine (HBt.out).mono ?_
  rintro y w1 ⟨rfl, rfl⟩
  go_wp2_with fail
  have hHeld := (⟨ec1, ec2, hr⟩ : _ ∧ _ ∧ _)
  refine kO hK ?_
  clear hK K
  refine vW 10 rfl ?_
  refine vW 11 rfl ?_
  refine nT 12 rfl fun K hK => ?_
  go_simp
  refine (HMu.out).mono ?_
  rintro y w1 ⟨rfl, rfl⟩
  go_wp2_with fail
  have hHeld := (⟨ec1, ec2, hr⟩ : _ ∧ _ ∧ _)
  refine kO hK ?_
  clear hK K
  refine vW 13 rfl ?_
  refine vT 14 rfl ?_
  refine vW 15 rfl ?_
  refine doneT (by kernel_rfl) ?_ _
  go_wp2
  go_ret
  exact ⟨rfl, (Below.refl _ _).drew⟩
end
section
open Go AmC
variable {j k : Nat} {e : Ent} {bs : List (Nat × Nat)} {S : List Nat} {w w' : World} {Ts : List TabM}
def putNew (T : TabM) (e : Ent) : TabM := match (seek T.gs e.key e.hash).2.1 with
 | some x => placeM T x.1 x.2 e
 | none => T
structure CanPut (T : TabM) (e : Ent) : Prop where
 ok : TOk T
 h64 : e.hash < 18446744073709551616
 none_ : (seek T.gs e.key e.hash).1 = none
 free : ∃ i s, (seek T.gs e.key e.hash).2.1 = some (i, s)
 room : T.live + T.tombs + 1 ≤ 7 * (T.gs.length : Int)
def noT : TabM := ⟨[], 0, 0⟩
def moveOne (k d : Nat) (st : Mtr × List TabM) (e : Ent) : Mtr × List TabM :=
 (st.1.add cV (seek (st.2.getD (sideOf k d e.hash) noT).gs e.key e.hash).2.2, st.2.set (sideOf k d e.hash) (putNew (st.2.getD (sideOf k d e.hash) noT) e))
def moveL (k d : Nat) (st : Mtr × List TabM) (es : List Ent) : Mtr × List TabM := es.foldl (moveOne k d) st
def Fits (k d : Nat) : List TabM → List Ent → Prop
 | _, [] => True
 | Ts, e :: es => (∃ T, Ts[sideOf k d e.hash]? = some T ∧ CanPut T e) ∧ Fits k d (Ts.set (sideOf k d e.hash) (putNew (Ts.getD (sideOf k d e.hash) noT) e)) es
theorem moveL_snoc (k d : Nat) (st : Mtr × List TabM) {es : List Ent} (h : es[j]? = some e) : moveL k d st (es.take (j + 1)) = moveOne k d (moveL k d st (es.take j)) e := by
 unfold moveL; rw [take_nx h, List.foldl_append]; rfl
theorem fits_at {d : Nat} : ∀ {es : List Ent} {x : Mtr} {Ts : List TabM} {j : Nat} {e : Ent}, Fits k d Ts es → es[j]? = some e → ∃ T, (moveL k d (x, Ts) (es.take j)).2[sideOf k d e.hash]? = some T ∧ CanPut T e
 | [], _, _, _, _, _, h => by simp at h
 | e0 :: es, x, Ts, 0, e, hf, h => by
  simp at h; subst h
  exact hf.1
 | e0 :: es, x, Ts, j + 1, e, hf, h => by
  rw [List.getElem?_cons_succ] at h
  have := fits_at (x := x.add cV (seek (Ts.getD (sideOf k d e0.hash) noT).gs e0.key e0.hash).2.2) hf.2 h
  exact this
structure TabsAt (w : World) (bs : List (Nat × Nat)) (Ts : List TabM) : Prop where
 len : bs.length = Ts.length
 at_ : ∀ (j : Nat) (b : Nat × Nat) (T : TabM), bs[j]? = some b → Ts[j]? = some T → TabAt w b.1 b.2 T
 ne : ∀ (i j : Nat) (b c : Nat × Nat), bs[i]? = some b → bs[j]? = some c → i ≠ j → b.1 ≠ c.1 ∧ b.1 ≠ c.2 ∧ b.2 ≠ c.1 ∧ b.2 ≠ c.2
def flatB (bs : List (Nat × Nat)) : List Nat := bs.flatMap fun b => [b.1, b.2]
theorem mem_flatB : k ∈ flatB bs ↔ ∃ b ∈ bs, k = b.1 ∨ k = b.2 := by simp [flatB]
theorem TabsAt.mod (h : TabsAt w bs Ts) (hm : Mod S w w') (hs : ∀ b ∈ bs, b.1 ∉ S ∧ b.2 ∉ S) : TabsAt w' bs Ts :=
 ⟨h.len, fun j b T hb hT => (h.at_ j b T hb hT).mod hm (hs b (List.mem_of_getElem? hb)).1 (hs b (List.mem_of_getElem? hb)).2, h.ne⟩
theorem TabsAt.set_ (h : TabsAt w bs Ts) {b : Nat × Nat} {T' : TabM} (hb : bs[j]? = some b) (hT : TabAt w' b.1 b.2 T') (hm : Mod S w w') (hs : ∀ k ∈ S, k = b.1 ∨ k = b.2 ∨ ∀ c ∈ bs, k ≠ c.1 ∧ k ≠ c.2) : TabsAt w' bs (Ts.set j T') := by
 refine ⟨by rw [List.length_set]; exact h.len, fun i c T hc hT2 => ?_, h.ne⟩
 rw [List.getElem?_set] at hT2
 by_cases hij : j = i
 ·subst hij
  rw [hb] at hc; cases hc
  obtain ⟨hlt, _⟩ := List.getElem?_eq_some_iff.1 hb
  rw [if_pos rfl, if_pos (by rw [← h.len]; exact hlt)] at hT2
  cases hT2
  exact hT
 ·rw [if_neg hij] at hT2
  have hne := h.ne j i b c hb hc hij
  have hcm := List.mem_of_getElem? hc
  refine (h.at_ i c T hc hT2).mod hm (fun hk => ?_) (fun hk => ?_)
  ·rcases hs _ hk with e | e | e
   ·exact hne.1 e.symm
   ·exact hne.2.2.1 e.symm
   ·exact (e c hcm).1 rfl
  ·rcases hs _ hk with e | e | e
   ·exact hne.2.1 e.symm
   ·exact hne.2.2.2 e.symm
   ·exact (e c hcm).2 rfl
end
section
set_option maxRecDepth 100000
set_option maxHeartbeats 4000000
open Go.RowKit AmC
theorem table_Take {W0 : World} {E : Nat → Addr} (tb gb : Nat) (T : TabM) (P : MP) (x : Mtr) (c : Cnt) (g : Nat) (hg : g < T.gs.length) (hok : TOk T) (w : World) (h : TabAt w tb gb T) (hM : MetP w P x) (hE : Env W0 E w) (hmt : P.mb ≠ tb) (hmg : P.mb ≠ gb) (hb0 : W0.heap.size ≤ P.mb) (hb1 : W0.heap.size ≤ tb) (hb2 : W0.heap.size ≤ gb) :
  Calls Tryz.prog 216 #[tabP tb, lensV (some ⟨P.mb, P.mo, none⟩) c, .int .i64 (g : Int)] w fun e w' => ∃ A cc, e = .returned (.tuple #[.slice A (entsG (T.gs.getD g [])).length cc, .nilIface]) ∧
   w'.ownsRow w.heap.size 37 3 (.slice A (entsG (T.gs.getD g [])).length cc) (entsG (T.gs.getD g [])).length ((entsG (T.gs.getD g [])).flatMap entCells) ∧ TabAt w' tb gb (takeN T g 8) ∧ MetP w' P (x.add c 1) ∧ Mod [P.mb, tb, gb] w w' := by
 have hB := (Below.refl w.heap.size w).alloc (Nat.le_refl _) (.cells #[.pointer (some ⟨P.mb, P.mo, none⟩), .int .i64 c.p, .int .i64 c.v, .int .i64 c.u] 89)
 have hL := Blk.new w 89 #[.pointer (some ⟨P.mb, P.mo, none⟩), .int .i64 c.p, .int .i64 c.v, .int .i64 c.u]
 obtain ⟨W, hW⟩ : ∃ W, W = w.alloc (.cells #[.pointer (some ⟨P.mb, P.mo, none⟩), .int .i64 c.p, .int .i64 c.v, .int .i64 c.u] 89) := ⟨_, rfl⟩
 rw [← hW] at hB hL
 obtain ⟨lc0, lc1, lc2, lc3⟩ := hL.c4
 have hml := hM.lt
 have htl := h.ltT
 have hgl := h.ltG
 have hB0 := hE.size
 have HW := qd hW
 have hg0 : (g : Int) < (T.gs.length : Int) := by omega
 have HLk := qd (table_look tb gb T P.mb P.mt P.pre P.post P.mo x.all x.last P.m c g hg W (h.below hB) (hM.below hB) hmt hmg)
 have HOk := qd hok
 unfold tabP lensV viewV at HLk
 unfold tabP lensV
 have HT := qd (h.below hB)
 have HV0 := qd (hE.next hB)
 have Hmod := qd (Mod.of_below hB [P.mb, tb, gb])
 clear hW hB h hM hL hE hok
 generalize hGn : T.gs.getD g [] = G
 go_in
 go_upto_region 1 with fail
 rw [← HW.out]
 go_wp2_with fail
 refine (HLk.out).mono ?_
 rintro x w1 ⟨rfl, hM1, hm⟩
 clear lc0 lc1 lc2 lc3
 replace HT := qM hm HT
 replace HV0 := qM hm HV0
 replace Hmod := qU Hmod hm
 clear hm
 have HM := qd (show MetP w1 P (x.add c 1) from hM1)
 clear hM1
 go_upto_region 4 with fail
 have q1 := qJ HT.out.ltT (qJ HT.out.ltG (qJ HM.out.lt Hmod.out.size))
 refine nameB 138 #[.pointer (some ⟨gb, g * 25, none⟩)] ?_
 rintro w2 ⟨hnew, hb⟩
 obtain ⟨vb, hvb⟩ : ∃ vb, vb = w1.heap.size := ⟨_, rfl⟩
 rw [← hvb] at hnew ⊢
 replace hvb : w1.heap.size ≤ vb := by omega
 replace HT := qB hb HT
 replace HV0 := qB hb HV0
 replace HM := qB hb HM
 replace Hmod := qT Hmod hb
 have HV := qd (hnew)
 clear hnew hb
 have z5 := Hmod.out.size
 have vc0 := HV.out.cell 0
 simp only [List.getElem?_toArray, List.getElem?_cons_zero] at vc0
 have HEn := qd (grp_Entries gb 167 _ _ (g * 25) _ w2 (HT.out.group g hg) HV0.out.tz)
 rw [hGn] at HEn
 unfold viewV at HEn
 go_wp2_with fail
 refine (HEn.out).mono ?_
 rintro x w3 ⟨A, cc, rfl, hO, hb⟩
 clear vc0
 replace HT := qB hb HT
 replace HV0 := qB hb HV0
 replace HM := qB hb HM
 replace HV := qB hb HV
 replace Hmod := qT Hmod hb
 clear hb
 have hwl := Hmod.out.size
 have HO := qd (hO)
 clear hO
 have q6 := qJ HT.out.ltT (qJ HT.out.ltG (qJ HM.out.lt HV.out.lt))
 clear HW
 go_wp2
 go_loopw [11, 12, 13, 26] (fun _ _ _ i wr => ∃ k : Nat, k ≤ 8 ∧ i = .int .i64 k ∧ TabAt wr tb gb (takeN T g k) ∧ MetP wr P (x.add c 1) ∧ Env W0 E wr ∧ wr.ownsRow w2.heap.size 37 3 (.slice A (entsG G).length cc) (entsG G).length ((entsG G).flatMap entCells) ∧ Blk wr vb 138 #[.pointer (some ⟨gb, g * 25, none⟩)] ∧ Mod [P.mb, tb, gb] w wr) (fun _ _ _ i _ => 8 - (intOf i).toNat)
 case atStart => exact ⟨0, by omega, rfl, HT.out, HM.out, HV0.out, HO.out, HV.out, Hmod.out⟩
 case round =>
  clear HT HM HV0 HO HV Hmod
  obtain ⟨k, hk, rfl, hT, hM, hE, hO, hV, hm⟩ := hrel
  by_cases hlt : k < 8
  ·have hlt' : (k : Int) < 8 := by omega
   have HT := qd (hT)
   have HM := qd (hM)
   have HV0 := qd (hE)
   have HO := qd (hO)
   have HV := qd (hV)
   have Hmod := qd (hm)
   clear hT hM hE hO hV hm
   have hgk : g < (takeN T g k).gs.length := by rw [takeN_length]; exact hg
   have HG := qd (HT.out.group g hgk)
   have HOe := qd (HOk.out.tkN g k)
   have vc0 := HV.out.cell 0
   simp only [List.getElem?_toArray, List.getElem?_cons_zero] at vc0
   cases hsl : slotAt (takeN T g k).gs g k with
   | full e =>
    have HAt := qd (grp_At_full gb 167 _ _ (g * 25) _ wr HG.out k hlt e (by unfold slotAt at hsl; exact hsl))
    unfold viewV entV at HAt
    clear HG
    go_wp2_with fail
    refine (HAt.out).mono ?_
    rintro x w4 ⟨rfl, hb⟩
    clear vc0
    replace HT := qB hb HT
    replace HM := qB hb HM
    replace HV0 := qB hb HV0
    replace HO := qB hb HO
    replace HV := qB hb HV
    replace Hmod := qT Hmod hb
    clear hb HAt
    go_upto_region 10 with fail
    have q1 := qJ HT.out.ltT (qJ HT.out.ltG (qJ HM.out.lt (qJ HV.out.lt Hmod.out.size)))
    refine nameB 37 #[.int .u64 (e.key : Int), .int .u64 (e.val : Int), .int .u64 (e.hash : Int)] ?_
    rintro w5 ⟨hnew, hb⟩
    replace HT := qB hb HT
    replace HM := qB hb HM
    replace HV0 := qB hb HV0
    replace HO := qB hb HO
    replace HV := qB hb HV
    replace Hmod := qT Hmod hb
    have HD := qd (hnew)
    clear hnew hb
    have vc0 := HV.out.cell 0
    simp only [List.getElem?_toArray, List.getElem?_cons_zero] at vc0
    have HEr := qd (table_erase tb gb (takeN T g k) g k hgk hlt e hsl HOe.out.small w5 HT.out)
    unfold tabP placeV at HEr
    clear HT HD
    go_wp2_with fail
    refine (HEr.out).mono ?_
    rintro x w6 ⟨rfl, hT6, hm⟩
    clear vc0
    replace HM := qM hm HM
    replace HV0 := qM hm HV0
    replace HO := qM hm HO
    replace HV := qM hm HV
    replace Hmod := qU Hmod hm
    clear hm
    have HT := qd (hT6)
    clear hT6
    have HNx := qd (show takeN T g (k + 1) = eraseM (takeN T g k) g k from by show eraseIf _ _ _ = _; unfold eraseIf; rw [hsl]; rfl)
    clear hsl
    go_wp2
    go_roundw
    case rel => exact ⟨k + 1, by omega, by go_num, by rw [HNx.out]; exact HT.out, HM.out, HV0.out, HO.out, HV.out, Hmod.out⟩
    case measure => simp [intOf]; omega
   | empty =>
    have HAt := qd (grp_At_no gb 167 _ _ (g * 25) _ wr HG.out k hlt (by unfold slotAt at hsl; rw [hsl]; rfl) E (HV0.out.errs.at_ 5 (by omega) (by omega)))
    unfold viewV entV at HAt
    clear HG
    go_wp2_with fail
    refine (HAt.out).mono ?_
    rintro x w4 ⟨rfl, hb⟩
    clear vc0
    replace HT := qB hb HT
    replace HM := qB hb HM
    replace HV0 := qB hb HV0
    replace HO := qB hb HO
    replace HV := qB hb HV
    replace Hmod := qT Hmod hb
    clear hb HAt
    have HNx := qd (show takeN T g (k + 1) = takeN T g k from by show eraseIf _ _ _ = _; unfold eraseIf; rw [hsl]; rfl)
    clear hsl
    go_upto_region 11 with fail
    have q1 := qJ HT.out.ltT (qJ HT.out.ltG (qJ HM.out.lt (qJ HV.out.lt Hmod.out.size)))
    refine nameB 37 #[.int .u64 0, .int .u64 0, .int .u64 0] ?_
    rintro w5 ⟨hnew, hb⟩
    replace HT := qB hb HT
    replace HM := qB hb HM
    replace HV0 := qB hb HV0
    replace HO := qB hb HO
    replace HV := qB hb HV
    replace Hmod := qT Hmod hb
    have HD := qd (hnew)
    clear hnew hb
    go_wp2
    go_roundw
    case rel => exact ⟨k + 1, by omega, by go_num, by rw [HNx.out]; exact HT.out, HM.out, HV0.out, HO.out, HV.out, Hmod.out⟩
    case measure => simp [intOf]; omega
   | tomb =>
    have HAt := qd (grp_At_no gb 167 _ _ (g * 25) _ wr HG.out k hlt (by unfold slotAt at hsl; rw [hsl]; rfl) E (HV0.out.errs.at_ 5 (by omega) (by omega)))
    unfold viewV entV at HAt
    clear HG
    go_wp2_with fail
    refine (HAt.out).mono ?_
    rintro x w4 ⟨rfl, hb⟩
    clear vc0
    replace HT := qB hb HT
    replace HM := qB hb HM
    replace HV0 := qB hb HV0
    replace HO := qB hb HO
    replace HV := qB hb HV
    replace Hmod := qT Hmod hb
    clear hb HAt
    have HNx := qd (show takeN T g (k + 1) = takeN T g k from by show eraseIf _ _ _ = _; unfold eraseIf; rw [hsl]; rfl)
    clear hsl
    go_upto_region 11 with fail
    have q1 := qJ HT.out.ltT (qJ HT.out.ltG (qJ HM.out.lt (qJ HV.out.lt Hmod.out.size)))
    refine nameB 37 #[.int .u64 0, .int .u64 0, .int .u64 0] ?_
    rintro w5 ⟨hnew, hb⟩
    replace HT := qB hb HT
    replace HM := qB hb HM
    replace HV0 := qB hb HV0
    replace HO := qB hb HO
    replace HV := qB hb HV
    replace Hmod := qT Hmod hb
    have HD := qd (hnew)
    clear hnew hb
    go_wp2
    go_roundw
    case rel => exact ⟨k + 1, by omega, by go_num, by rw [HNx.out]; exact HT.out, HM.out, HV0.out, HO.out, HV.out, Hmod.out⟩
    case measure => simp [intOf]; omega
  ·obtain rfl : k = 8 := by omega
   have HF := qd (And.intro hT (And.intro hM (And.intro (own_base hO (show w.heap.size ≤ w2.heap.size by omega)) hm)))
   clear hT hM hE hO hV hm
   have hlt' : ¬ ((8 : Nat) : Int) < 8 := by omega
   go_wp2
   refine bodyPost_ret (v := .tuple #[.slice A (entsG G).length cc, .nilIface]) (by simp [results, Tryz.results216, go_sem]) rfl ⟨A, cc, rfl, HF.out.2.2.1, HF.out.1, HF.out.2.1, HF.out.2.2.2⟩
end
end Go.Proofs.YtcgjgfgkdoohlaaGreatDoor
