/- A core's Jobs by its contract. -/
import Derived.Test.YtfojgfddgplinaaGreatDoorCoCX
import Derived.Test.YtfojgfddgplinaaGreatDoorCoO
import Derived.Test.YtfojgfddgplinaaGreatDoorLaneP
import Derived.Test.YtfojgfddgplinaaGreatDoorTabR
import Derived.Deep.MidRow
import Derived.Test.YtfojgfddgplinaaGreatDoorCoEnv
import Derived.Deep.Cut
import Derived.Deep.CutRange
namespace Go.Proofs.YtfojgfddgplinaaGreatDoor
section
set_option maxRecDepth 100000
set_option maxHeartbeats 2000000
open Go.RowKit AmC
variable {W0 w w0 : World} {a : Pool} {F G0 ids : List Nat} {id : Nat} {E : Nat → Addr} {H : Nat → Nat} {C : CPl} {st : CSt}
theorem info_Job : (Tryz.prog.info? 47).map (fun i => (i.zero, i.size, i.bytes)) = some (some (.agg #[.int .i64 0, .int .i64 0, .int .i64 0]), 3, 24) := by kernel_rfl
theorem slty_Job : SlTy Tryz.prog 44 47 3 24 := slTy Tryz.underlying44 info_Job rfl (by decide) (by decide)
def kd (a : Pool) (id : Nat) : Nat := match a.Ns[id]? with
 | some N => N.kind
 | none => 0
def jobC (a : Pool) (id : Nat) : List Value := [.int .i64 (id : Int), .int .i64 (kd a id : Int), .int .i64 (a.left id : Int)]
theorem jobs_snoc {base i : Nat} {v : Value} {kk lf : Nat} (h : w.ownsRow base 47 3 v (i + 1) ((ids.take i).flatMap (jobC a) ++ (#[.int .i64 (id : Int), .int .i64 (kk : Int), .int .i64 (lf : Int)] : Array Value).toList)) (hid : ids[i]? = some id) (hk : kk = kd a id) (hl : lf = a.left id) : w.ownsRow base 47 3 v (i + 1) ((ids.take (i + 1)).flatMap (jobC a)) := by
 rw [List.take_add_one, hid, List.flatMap_append]
 subst hk hl
 simpa [jobC] using h
theorem core_job (h : CoreF W0 E H C w0 G0 w F st) (hc : st.a.can id) :
  (id = 32 ∧ kd st.a 32 = 0 ∧ copVal C.A st.a.cop = .pointer (some ⟨C.A.cb, 0, none⟩) ∧ Calls Tryz.prog 30 #[.pointer (some ⟨C.A.cb, 0, none⟩)] w fun e w' => e = .returned (.int .i64 (st.a.left 32 : Int)) ∧ Below w.heap.size w w') ∨
  (id ≠ 32 ∧ id < st.a.Ns.length ∧ (Calls Tryz.prog 31 #[nodeP (C.A.nb id)] w fun e w' => e = .returned (.int .i64 (kd st.a id : Int)) ∧ w = w') ∧ Calls Tryz.prog 32 #[nodeP (C.A.nb id)] w fun e w' => e = .returned (.int .i64 (st.a.left id : Int)) ∧ Below w.heap.size w w') := by
 obtain ⟨Fs, hF, hp⟩ := h.sch.pool
 have hl := h.hp.left_ h.sch.pool hc
 rcases hc with ⟨N, hN, hb⟩ | ⟨hN, rfl, c, hcp⟩
 ·have hi := get_lt hN
  have := hp.le32
  obtain ⟨j1, _, j3⟩ := job_node (A := C.A) (id := id) (by omega)
  rw [j1, j3] at hl
  have hkd : kd st.a id = N.kind := by unfold kd; rw [hN]
  rw [hkd]
  exact .inr ⟨by omega, hi, nd_Job (hp.nds id N hN).1, hl⟩
 ·obtain ⟨j1, _, j3⟩ := job_cop C.A
  rw [j1, j3] at hl
  refine .inl ⟨rfl, by unfold kd; rw [hN], by unfold copVal; rw [hcp]; rfl, hl⟩
theorem core_Jobs (h : CoreF W0 E H C w0 G0 w F st) (hi : CInv st.a st.ids []) : Calls Tryz.prog 10 #[coreP C.mb] w fun e w' => ∃ A c, e = .returned (.slice A st.ids.length c) ∧ w'.ownsRow w.heap.size 47 3 (.slice A st.ids.length c) st.ids.length (st.ids.flatMap (jobC st.a)) ∧ Below w.heap.size w w' := by
 have HC := qd h
 obtain ⟨c0, c1, c11, c12, c13, c14, c15⟩ := HC.out.cells
 have hI := sched_Ids C.sb C.qb C.rb C.jb (C.K : Int) st.b C.A.val st.ids w h.sch.sch
 unfold schP at hI
 have HI := qd hI
 have HCan := qd (fun id (hid : id ∈ st.ids) => (hi.can_ id).2 (.inl hid))
 have hmany := h.sch.sch.many
 obtain ⟨vb, cap, hv, _⟩ := h.rowAt
 have hV := qd hv
 clear h hi hI hv
 unfold coreP
 go_in
 go_wp2_with fail
 refine HI.out.mono ?_
 rintro x w1 ⟨A, cc, rfl, hO, hb⟩
 have HC1 := qd (HC.out.below hb)
 have HB := qd hb
 obtain ⟨n, hn⟩ : ∃ n, n = st.ids.length := ⟨_, rfl⟩
 rw [← hn] at hO ⊢
 have HR := qd (Reads.of_own hO)
 have HN := qd (show n = st.ids.length ∧ n ≤ 64 from ⟨hn, by rw [hn]; omega⟩)
 have hsz1 := hb.size
 clear c0 c1 c11 c12 c13 c14 c15 hO hb HI HC hn hmany
 go_wp2
 go_loopw [3, 5, 12] (fun v3 _ v12 wr => ∃ i : Nat, i ≤ n ∧ v12 = .int .i64 (i : Int) ∧ Hid (wr.ownsRow w1.heap.size 47 3 v3 i ((st.ids.take i).flatMap (jobC st.a))) ∧ Hid (Below w1.heap.size w1 wr)) (fun _ _ v12 _ => n - (intOf v12).toNat)
 case atStart => exact ⟨0, by omega, rfl, qd ⟨by simp, .inl ⟨rfl, by simp⟩⟩, qd (Below.refl _ _)⟩
 case round =>
  obtain ⟨i, hile, rfl, HO, HW⟩ := hrel
  by_cases hlt : i < n
  ·have hlt' : (i : Int) < (n : Int) := by omega
   have hi0 : (0 : Int) ≤ (i : Int) := by omega
   have hn40 := HN.out.2
   obtain ⟨id, hid⟩ : ∃ id, st.ids[i]? = some id := ⟨_, List.getElem?_eq_getElem (by have := HN.out.1; omega)⟩
   have HIt := qd hid
   have hcan := HCan.out id (List.mem_of_getElem? hid)
   obtain ⟨g, off, hA, hg, hcell⟩ := HR.out.2 (by omega)
   have m0 : w1.cell? ⟨g, off + i, none⟩ = some (.int .i64 (id : Int)) := hcell i _ (by unfold intVals; rw [List.getElem?_map, hid]; rfl)
   have r0 := (World.cell?_of_block (HW.out.block g hg)).trans m0
   have HA := qd hA
   subst hA
   have HC := qd (HC1.out.below HW.out)
   have HJ := qd (Nat.succ_le_of_lt hlt)
   have HMe := qd (show n - (intOf (.int .i64 ((i : Int) + 1))).toNat < n - (intOf (.int .i64 (i : Int))).toNat from by show n - ((i : Int) + 1).toNat < n - (i : Int).toNat; omega)
   obtain ⟨lf, hlf⟩ : ∃ lf, lf = st.a.left id := ⟨_, rfl⟩
   have HLl := qd hlf
   obtain ⟨A3, c3, hv3⟩ := own_form HO.out
   subst hv3
   clear hcell m0 hid hile
   rcases core_job HC.out hcan with ⟨rfl, k1, k2, k3⟩ | ⟨k1, k2, k3, k4⟩
   ·rw [← hlf] at k3
    have HLf := qd k3
    have HKk := qd (show 0 = kd st.a 32 from k1.symm)
    have c13 := HC.out.cells.2.2.2.2.1
    rw [k2] at c13
    clear k1 k2 k3 hcan hlf
    go_wp2_with fail
    refine HLf.out.mono ?_
    rintro y w5 ⟨rfl, hb⟩
    replace HC := qd (HC.out.below hb)
    replace HO := qd (own_below HO.out hb (Nat.le_refl _))
    replace HW := qd (below2 HW.out hb)
    have hN2 := Blk.new w5 47 #[.int .i64 ((32 : Nat) : Int), .int .i64 ((0 : Nat) : Int), .int .i64 (lf : Int)]
    have hO2 := HO.out.alloc (.cells #[.int .i64 ((32 : Nat) : Int), .int .i64 ((0 : Nat) : Int), .int .i64 (lf : Int)] 47)
    have hW2 := below2 HW.out ((Below.refl w5.heap.size w5).alloc (Nat.le_refl _) (.cells #[.int .i64 ((32 : Nat) : Int), .int .i64 ((0 : Nat) : Int), .int .i64 (lf : Int)] 47))
    have hw2s := hW2.size
    clear hb c13 r0 HLf
    go_wp2_with (at_builtin; refine wpList_app (by rfl) (by rfl) slty_Job hO2 (by rfl) (by rfl) (reads_blk (size := 3) (m := 1) hN2 (by rfl)) (by rfl) (by omega) hw2s ?_; intro v7 w7 ho7 hg7)
    have HO7 := qd (jobs_snoc ho7 HIt.out HKk.out HLl.out)
    have HW7 := qd (hW2.trans hg7.below)
    clear ho7 hg7 hN2 hO2 hW2
    go_roundw
    all_goals first | exact ⟨⟨i + 1, HJ.out, rfl, HO7, HW7⟩, HMe.out⟩ | exact ⟨i + 1, HJ.out, rfl, HO7, HW7⟩ | exact HMe.out
   ·rw [← hlf] at k4
    obtain ⟨kk, hkk⟩ : ∃ kk, kk = kd st.a id := ⟨_, rfl⟩
    rw [← hkk] at k3
    unfold nodeP at k3 k4
    have HJb := qd k3
    have HKk := qd hkk
    have hid32 : ¬ (id : Int) = 32 := by omega
    have hidl := k2
    have hidI : (id : Int) < (st.a.Ns.length : Int) := by omega
    have hid0 : (0 : Int) ≤ (id : Int) := by omega
    go_upto_region 7 with fail
    have hdr : Below wr.heap.size wr wr.drew := (Below.refl _ _).drew
    replace HC := qd (HC.out.below hdr)
    replace HO := qd (own_below HO.out hdr (Nat.le_refl _))
    replace HW := qd (below2 HW.out hdr)
    obtain ⟨_, _, hjb, hlf2⟩ : id ≠ 32 ∧ id < st.a.Ns.length ∧ _ ∧ _ := by
     rcases core_job HC.out hcan with ⟨e, _⟩ | k
     ·exact absurd e k1
     ·exact k
    rw [← hkk] at hjb
    rw [← hlf] at hlf2
    unfold nodeP at hjb hlf2
    replace HJb := qd hjb
    have HLf := qd hlf2
    clear hdr hjb hlf2 k1 k2 k3 k4 hcan hlf hkk r0
    obtain ⟨vb', cap', hv', hr'⟩ := HC.out.rowAt
    rw [hV.out] at hv'
    cases hv'
    have c11 := HC.out.cells.2.2.1
    rw [hV.out] at c11
    have rn := hr' id hidl
    clear hr'
    refine rT (fun (w' : World) => w'.cell? ⟨C.mb, 11, none⟩ = some (.slice (some ⟨vb, 0, none⟩) st.a.Ns.length cap) ∧ w'.cell? ⟨vb, id, none⟩ = some (.pointer (some ⟨C.A.nb id, 0, none⟩))) [] ?_
    have hHeld := (⟨c11, rn⟩ : _ ∧ _)
    refine vW 0 rfl ?_
    refine vW 1 rfl ?_
    refine vW 2 rfl ?_
    refine vW 3 rfl ?_
    refine vW 4 rfl ?_
    refine vT 5 rfl ?_
    refine vW 6 rfl ?_
    refine vW 7 rfl ?_
    refine vT 8 rfl ?_
    refine vW 10 rfl ?_
    refine vW 11 rfl ?_
    refine vW 12 rfl ?_
    refine vT 13 rfl ?_
    refine vW 14 rfl ?_
    refine vW 15 rfl ?_
    refine vT 16 rfl ?_
    refine nT 9 rfl fun K hK => ?_
    go_simp
    refine (HJb.out).mono ?_
    rintro y w5 ⟨rfl, rfl⟩
    have hHeld := (⟨c11, rn⟩ : _ ∧ _)
    refine kO hK ?_
    clear hK K
    refine nT 17 rfl fun K hK => ?_
    go_simp
    refine (HLf.out).mono ?_
    rintro y w5 ⟨rfl, hb⟩
    replace HC := qd (HC.out.below hb)
    replace HO := qd (own_below HO.out hb (Nat.le_refl _))
    replace HW := qd (below2 HW.out hb)
    clear hb c11 rn
    obtain ⟨vb', cap', hv', hr'⟩ := HC.out.rowAt
    rw [hV.out] at hv'
    cases hv'
    have c11 := HC.out.cells.2.2.1
    rw [hV.out] at c11
    have rn := hr' id hidl
    clear hr'
    have hHeld := (⟨c11, rn⟩ : _ ∧ _)
    refine kO hK ?_
    clear hK K
    refine vW 18 rfl ?_
    refine nT 19 rfl fun K hK => ?_
    go_simp
    have hN2 := Blk.new w5 47 #[.int .i64 (id : Int), .int .i64 (kk : Int), .int .i64 (lf : Int)]
    have hb := (Below.refl w5.heap.size w5).alloc (Nat.le_refl _) (.cells #[.int .i64 (id : Int), .int .i64 (kk : Int), .int .i64 (lf : Int)] 47)
    have hO2 := HO.out.alloc (.cells #[.int .i64 (id : Int), .int .i64 (kk : Int), .int .i64 (lf : Int)] 47)
    have hC2 := HC.out.below hb
    replace HC := qd hC2
    have hW2 := below2 HW.out hb
    clear hC2 hb c11 rn
    obtain ⟨vb', cap', hv', hr'⟩ := HC.out.rowAt
    rw [hV.out] at hv'
    cases hv'
    have c11 := HC.out.cells.2.2.1
    rw [hV.out] at c11
    have rn := hr' id hidl
    clear hr'
    have hHeld := (⟨c11, rn⟩ : _ ∧ _)
    refine kO hK ?_
    clear hK K
    refine nT 20 rfl fun K hK => ?_
    refine step_app (by rfl) (by rfl) slty_Job hO2 (by rfl) (by rfl) (reads_blk (size := 3) (m := 1) hN2 (by rfl)) (by rfl) (by have := HN.out; omega) hW2.size ?_
    intro v7 w7 ho7 hg7
    replace HO := qd (jobs_snoc ho7 HIt.out HKk.out HLl.out)
    have hb7 := hW2.trans hg7.below
    have hkb := fun (p : Addr) (u : Value) (hp : p.block < w1.heap.size) (hh : w1.cell? p = some u) => (World.cell?_of_block (hb7.block p.block hp)).trans hh
    replace HW := qd hb7
    replace HC := qd (HC1.out.below HW.out)
    clear ho7 hg7 hN2 hO2 hW2 hb7 hkb c11 rn
    obtain ⟨vb', cap', hv', hr'⟩ := HC.out.rowAt
    rw [hV.out] at hv'
    cases hv'
    have c11 := HC.out.cells.2.2.1
    rw [hV.out] at c11
    have rn := hr' id hidl
    clear hr'
    have hHeld := (⟨c11, rn⟩ : _ ∧ _)
    refine kO hK ?_
    clear hK K
    refine vW 21 rfl ?_
    refine doneT (by kernel_rfl) ?_ _
    go_wp2
    go_roundw
    all_goals first | exact ⟨⟨i + 1, HJ.out, rfl, HO, HW⟩, HMe.out⟩ | exact ⟨i + 1, HJ.out, rfl, HO, HW⟩ | exact HMe.out
  ·obtain rfl : i = n := by omega
   have hlt' : ¬ (i : Int) < (i : Int) := by omega
   have hfin := HO.out
   rw [HN.out.1, List.take_length] at hfin
   obtain ⟨A9, c9, hv9⟩ := own_form hfin
   rw [hv9] at hfin
   have HF := qd hfin
   have hv9' : _ = Value.slice A9 st.ids.length c9 := hv9
   subst hv9'
   go_wp2
   go_ret
   exact ⟨A9, c9, rfl, own_base HF.out hsz1, HB.out.trans (HW.out.mono hsz1)⟩
theorem at_Jobs {K M mb : Nat} {G : List Nat} (h : CoreAt W0 E H K M mb G w a ids) : Calls Tryz.prog 10 #[coreP mb] w fun e w' => ∃ A c, e = .returned (.slice A ids.length c) ∧ w'.ownsRow w.heap.size 47 3 (.slice A ids.length c) ids.length (ids.flatMap (jobC a)) ∧ Below w.heap.size w w' := by
 obtain ⟨C, F, len, b, x, h1, h2, h3, rfl, hC, hi, hl, hm⟩ := h
 rw [← h1]
 exact core_Jobs hC hi
end
section
set_option maxRecDepth 100000
set_option maxHeartbeats 2000000
open Go.RowKit AmC
def uA (U : List Nat) : Array Value := (U.map fun n : Nat => Value.int .i64 (n : Int)).toArray
def bA (T : List Bool) : Array Value := (T.map Value.bool).toArray
section
variable {w : World} {b k n : Nat} {t : TypeId} {U : List Nat} {T : List Bool} {x : Bool}
theorem uA_at (h : Blk w b t (uA U)) (hk : k < U.length) : w.cell? ⟨b, k, none⟩ = some (.int .i64 (U.getD k 0 : Int)) := by
 have h1 := h.cell k
 unfold uA at h1
 rw [List.getElem?_toArray, List.getElem?_map, List.getElem?_eq_getElem hk] at h1
 rw [h1, List.getD_eq_getElem?_getD, List.getElem?_eq_getElem hk]
 rfl
theorem bA_at (h : Blk w b t (bA T)) (hk : k < T.length) : w.cell? ⟨b, k, none⟩ = some (.bool (T.getD k false)) := by
 have h1 := h.cell k
 unfold bA at h1
 rw [List.getElem?_toArray, List.getElem?_map, List.getElem?_eq_getElem hk] at h1
 rw [h1, List.getD_eq_getElem?_getD, List.getElem?_eq_getElem hk]
 rfl
theorem uA_set (h : Blk w b t (uA U)) (k n : Nat) : Blk (w.setCell ⟨b, k, none⟩ (.int .i64 (n : Int))) b t (uA (U.set k n)) := by
 have h1 := h.set_ k (.int .i64 (n : Int))
 unfold uA at h1 ⊢
 rw [List.setIfInBounds_toArray] at h1
 rw [List.map_set]
 exact h1
theorem bA_set (h : Blk w b t (bA T)) (k : Nat) (x : Bool) : Blk (w.setCell ⟨b, k, none⟩ (.bool x)) b t (bA (T.set k x)) := by
 have h1 := h.set_ k (.bool x)
 unfold bA at h1 ⊢
 rw [List.setIfInBounds_toArray] at h1
 rw [List.map_set]
 exact h1
theorem new_there (w : World) (cs : List Value) (t : TypeId) : (w.alloc (.cells cs.toArray t)).there w.heap.size 0 cs.length := fun j hj => by
 have h := Blk.new w t cs.toArray
 refine ⟨?_, ?_⟩
 ·have h1 := h.cell (0 + j)
  rw [h1, List.getElem?_toArray, Nat.zero_add, List.getElem?_eq_getElem hj]; rfl
 ·exact h.frozen (0 + j)
theorem new_sets (w : World) (cs : List Value) (t : TypeId) : Blk ((w.alloc (.cells cs.toArray t)).setCells w.heap.size 0 cs) w.heap.size t cs.toArray ∧ Below w.heap.size w ((w.alloc (.cells cs.toArray t)).setCells w.heap.size 0 cs) := by
 have h1 := blk_sets (post := []) cs cs [] (w.alloc (.cells cs.toArray t)) rfl (by simpa using Blk.new w t cs.toArray)
 refine ⟨by simpa using h1, ?_⟩
 have h2 : Mod [w.heap.size] w ((w.alloc (.cells cs.toArray t)).setCells w.heap.size 0 cs) := mod_sets (by simp) cs 0 _ (Mod.of_below ((Below.refl w.heap.size w).alloc (Nat.le_refl _) _) _)
 exact h2.below (by simp) (Nat.le_refl _)
theorem bA_range (h : Blk w b t (bA T)) : w.rangeAt b 0 (bA T).toList := fun j v hv => by
 have h1 := h.cell (0 + j)
 rw [h1, Nat.zero_add]
 simpa using hv
end
theorem plan_Writes (s K : Nat) (hs : 1 ≤ s ∧ s ≤ 100000) (hK : 1 ≤ K ∧ K ≤ 64) (w : World) : Calls Tryz.prog 11 #[.int .i64 (s : Int), .int .i64 (K : Int)] w fun e w' => e = .returned (.int .i64 (wrB K s : Int)) ∧ w = w' := by
 have hw : inB (K : Int) 64 = true := by simp [inB]; omega
 have hs0 : ¬ (s : Int) < 1 := by omega
 have hd : ((s : Int) - 1).tdiv (K : Int) = (((s - 1) / K : Nat) : Int) := by
  rw [Int.tdiv_eq_ediv_of_nonneg (by omega), Int.natCast_ediv]
  congr 1
  omega
 have hle : (s - 1) / K ≤ s := Nat.le_trans (Nat.div_le_self _ _) (Nat.sub_le _ _)
 obtain ⟨q, hq⟩ : ∃ q, q = (s - 1) / K := ⟨_, rfl⟩
 rw [← hq] at hd hle
 have HQ := qd hq
 have hw1 : wrap64 ((s : Int) - 1) = (s : Int) - 1 := by unfold wrap64; omega
 have hw2 : wrap64 (q : Int) = (q : Int) := by unfold wrap64; omega
 have hw3 : wrap64 ((q : Int) + 2) = (q : Int) + 2 := by unfold wrap64; omega
 have hk0 : ¬ (K : Int) = 0 := by omega
 have HW := qd (fun V => plan_within (K : Int) 64 V)
 rw [hw] at HW
 clear hq hw
 go_in
 go_wp2_with fail
 refine (HW.out w).mono ?_
 rintro y w1 ⟨rfl, rfl⟩
 go_wp2
 all_goals first | (go_ret; refine ⟨?_, rfl⟩; rw [show wrB K s = q + 2 from by unfold wrB; rw [HQ.out]]; first | rfl | (push_cast; rfl) | (simp; omega)) | skip
end
section
open Go.RowKit AmC
variable {W0 w : World} {E : Nat → Addr} {H : Nat → Nat} {mb : Nat} {G ids : List Nat} {a : Pool}
set_option maxRecDepth 100000 in
set_option maxHeartbeats 4000000 in
theorem core_Jobs_nil {C : CPl} {w0 : World} {G0 : List Nat} {F : List Nat} {st : CSt} (h : CoreF W0 E H C w0 G0 w F st) (hn : st.ids = []) : Calls Tryz.prog 10 #[coreP C.mb] w fun e w' => e = .returned (.slice none 0 0) ∧ Below w.heap.size w w' := by
 have HC := qd h
 obtain ⟨c0, c1, c11, c12, c13, c14, c15⟩ := HC.out.cells
 have hI := sched_Ids C.sb C.qb C.rb C.jb (C.K : Int) st.b C.A.val st.ids w h.sch.sch
 rw [hn] at hI
 unfold schP at hI
 have HI := qd hI
 clear h hn hI
 unfold coreP
 go_in
 go_wp2_with fail
 refine HI.out.mono ?_
 rintro x w1 ⟨A, cc, rfl, hO, hb⟩
 have HB := qd hb
 clear c0 c1 c11 c12 c13 c14 c15 hO hb HI HC
 go_wp2
 go_loopw [3, 5, 12] (fun v3 _ v12 wr => v3 = .slice none 0 0 ∧ v12 = .int .i64 0 ∧ wr = w1) (fun _ _ _ _ => 0)
 case atStart => exact ⟨rfl, rfl, rfl⟩
 case round =>
  obtain ⟨rfl, rfl, rfl⟩ := hrel
  go_wp2
  go_ret
  exact ⟨rfl, HB.out⟩
theorem at_Jobs_nil {K M : Nat} (h : CoreAt W0 E H K M mb G w a ids) (hn : ids = []) : Calls Tryz.prog 10 #[coreP mb] w fun e w' => e = .returned (.slice none 0 0) ∧ Below w.heap.size w w' := by
 obtain ⟨C, F, len, b, x, h1, h2, h3, rfl, hC, hi, hl, hm⟩ := h
 rw [← h1]
 exact core_Jobs_nil hC hn
def AliveG (i : Nat) (a : Pool) (ids : List Nat) : Prop := (i < 4 → AliveSt i a ids) ∧ (i = 4 → ids = [] ∧ a.ents.Perm (aliveL 4) ∧ a.groups = 2)
theorem aliveL_lt : ∀ i, ∀ e ∈ aliveL i, e.key < i
 | 0, _, h => by cases h
 | i + 1, e, h => by
  unfold aliveL at h
  rcases List.mem_cons.1 h with rfl | h1
  ·exact Nat.lt_succ_self _
  ·exact Nat.lt_succ_of_lt (aliveL_lt i e h1)
theorem alive_put {i : Nat} (hlt : i < 4) (hA : CoreAt W0 E aliveH 1 9 mb G w a ids) (hG : AliveG i a ids) : Calls Tryz.prog 9 #[coreP mb, .int .u64 (i : Int), .int .u64 ((i + 1 : Nat) : Int), .int .u64 ((i * 1152921504606846976 : Nat) : Int)] w fun y w' => y = .returned .nilIface ∧ ∃ a' ids', AliveG (i + 1) a' ids' ∧ CoreTo W0 E aliveH 1 9 mb G w w' a' ids' := by
 have hS := hG.1 hlt
 obtain ⟨f1, f2, f3, f4, f5, f6, _⟩ := hA.facts
 have hno : look a.ents (aliveE i).key = none := look_none fun e he hk => by
  have := aliveL_lt i e (hS.ents.mem_iff.1 he)
  have h1 : e.key = i := hk
  omega
 have hlen := hS.ents.length_eq
 rw [aliveL_len] at hlen
 refine (at_Put hA (aliveE i) (aliveE_ok hlt)).mono ?_
 rintro y w' (⟨_, h2, _⟩ | ⟨a', ids', _, _, rfl, hw, hto⟩ | ⟨a', ids', e0, h1, _⟩)
 ·omega
 ·refine ⟨rfl, a', ids', ⟨fun h4 => alive_next (by omega) hS f6 hw, fun h4 => ?_⟩, hto⟩
  obtain rfl : i = 3 := by omega
  exact alive_last hS f6 hw
 ·rw [hno] at h1; cases h1
set_option maxRecDepth 100000 in
set_option maxHeartbeats 8000000 in
theorem law_alive (hE : Env W0 E w) : Calls Tryz.prog 4 #[] w fun e w' => e = .returned (.bool true) ∧ Below w.heap.size w w' := by
 have hN := core_New aliveH hE 1 9 1 (by decide) 1 9 1 ⟨⟨by omega, by omega⟩, ⟨by omega, by omega⟩, rfl, rfl, rfl⟩
 unfold cfgV at hN
 have HN := qd hN
 have HE := qd hE
 clear hN hE
 go_in
 go_wp2_with fail
 refine HN.out.mono ?_
 rintro x w1 ⟨mb, rfl, hnew⟩
 obtain ⟨G1, hA1, hs1, hm1⟩ := new_at hnew
 have HA1 := qd hA1
 have HS1 := qd (show ∀ q ∈ G1, w.heap.size ≤ q from fun q hq => by rcases hs1 q hq with h | h; cases h; exact h)
 have HB1 := qd hm1.to_below
 clear hnew hA1 hs1 hm1 HN
 unfold coreP
 go_wp2
 go_loopw [3, 17] (fun _ v17 wr => ∃ (i : Nat) (G : List Nat) (a : Pool) (ids : List Nat), i ≤ 4 ∧ v17 = .int .u64 (i : Int) ∧ Hid (CoreAt W0 E aliveH 1 9 mb G wr a ids) ∧ Hid (AliveG i a ids) ∧ Hid (∀ q ∈ G, w.heap.size ≤ q) ∧ Hid (Below w.heap.size w wr)) (fun _ v17 _ => 4 - (intOf v17).toNat)
 case atStart => exact ⟨0, G1, pool0, [], by omega, rfl, HA1, qd ⟨fun _ => alive0, fun h => absurd h (by omega)⟩, HS1, HB1⟩
 case round =>
  clear HA1 HS1 HB1
  obtain ⟨i, G, a, ids, hi, rfl, HA, HG, HS, HB⟩ := hrel
  by_cases hlt : i < 4
  ·have hlt' : (i : Int) < 4 := by omega
   have HP := qd (alive_put hlt HA.out HG.out)
   obtain ⟨v1, hv1⟩ : ∃ v1 : Nat, v1 = i + 1 := ⟨_, rfl⟩
   have hc : ((i * 1152921504606846976 : Nat) : Int) = (i : Int) * 1152921504606846976 := by omega
   have HP2 := qd (show Calls Tryz.prog 9 #[.pointer (some ⟨mb, 0, none⟩), .int .u64 (i : Int), .int .u64 (v1 : Int), .int .u64 ((i : Int) * 1152921504606846976)] wr _ from by rw [hv1, ← hc]; exact HP.out)
   have w1' : IntKind.u64.wrap ((i : Int) + 1) = (v1 : Int) := by rw [IntKind.wrap_u64] <;> omega
   have hsz := HB.out.size
   clear HP hv1 hc
   go_wp2_with fail
   refine HP2.out.mono ?_
   rintro y w2 ⟨rfl, a', ids', hG', G', hA', hsub, hmod⟩
   have HA2 := qd hA'
   have HG2 := qd hG'
   have HS2 := qd (show ∀ q ∈ G', w.heap.size ≤ q from fun q hq => by
    rcases hsub q hq with h1 | h1
    ·exact HS.out q h1
    ·omega)
   have HB2 := qd (HB.out.trans (hmod.below HS.out hsz))
   clear hG' hA' hsub hmod HP2 HA HG HS HB w1'
   go_wp2
   go_roundw
   case rel => exact ⟨i + 1, G', a', ids', by omega, by first | go_num | (simp; rw [IntKind.wrap_u64]; omega) | (simp; omega), HA2, HG2, HS2, HB2⟩
   case measure => simp [intOf]; omega
  ·obtain rfl : i = 4 := by omega
   have hlt' : ¬ ((4 : Nat) : Int) < 4 := by omega
   obtain ⟨t1, t2, t3⟩ := HG.out.2 rfl
   have hlk := alive_look t2
   have hlen := t2.length_eq
   have hget := at_Get HA.out 2 (by decide)
   rw [hlk] at hget
   have HGe := qd (show Calls Tryz.prog 14 #[.pointer (some ⟨mb, 0, none⟩), .int .u64 2, .int .u64 2305843009213693952] wr (fun y w' => y = .returned (.tuple #[.int .u64 3, .bool true]) ∧ CoreTo W0 E aliveH 1 9 mb G wr w' a ids) from hget)
   have HT1 := qd t1
   have HT3 := qd t3
   have HLen := qd (show a.ents.length = 4 from hlen)
   have hsz := HB.out.size
   clear t1 t2 t3 hlk hlen hget
   go_wp2_with fail
   refine HGe.out.mono ?_
   rintro y w2 ⟨rfl, G', hA', hsub, hmod⟩
   have HB2 := qd (HB.out.trans (hmod.below HS.out hsz))
   have hl2 := at_Len hA'
   rw [HLen.out] at hl2
   have HL2 := qd (show Calls Tryz.prog 15 #[.pointer (some ⟨mb, 0, none⟩)] w2 (fun e w' => e = .returned (.int .i64 4) ∧ w2 = w') from hl2)
   have hg2 := at_Groups hA'
   rw [HT3.out] at hg2
   have HG2 := qd (show Calls Tryz.prog 16 #[.pointer (some ⟨mb, 0, none⟩)] w2 (fun e w' => e = .returned (.int .i64 2) ∧ w2 = w') from hg2)
   have hf2 := at_Left hA'
   rw [HT1.out] at hf2
   have HF2 := qd (show Calls Tryz.prog 12 #[.pointer (some ⟨mb, 0, none⟩)] w2 (fun e w' => e = .returned (.int .i64 0) ∧ Below w2.heap.size w2 w') from hf2)
   have HA2 := qd hA'
   clear hA' hsub hmod hl2 hg2 hf2 HGe HA HG HS HB
   go_wp2_with fail
   refine HL2.out.mono ?_
   rintro y w3 ⟨rfl, rfl⟩
   go_wp2_with fail
   refine HG2.out.mono ?_
   rintro y w3 ⟨rfl, rfl⟩
   go_wp2_with fail
   refine HF2.out.mono ?_
   rintro y w3 ⟨rfl, hb3⟩
   have HJ := qd (show Calls Tryz.prog 10 #[.pointer (some ⟨mb, 0, none⟩)] w3 _ from at_Jobs_nil (HA2.out.below hb3) HT1.out)
   have HB3 := qd (below2 HB2.out hb3)
   clear hb3
   go_wp2_with fail
   refine HJ.out.mono ?_
   rintro y w4 ⟨rfl, hb4⟩
   have HB4 := qd (below2 HB3.out hb4)
   clear hb4
   go_wp2
   go_ret
   exact ⟨rfl, HB4.out⟩
end
section
set_option maxRecDepth 100000
set_option maxHeartbeats 4000000
open Go.RowKit AmC
structure LAct where
 kind : Int
 key : Int
 n : Int
def LAct.cells (a : LAct) : List Value := [.int .i64 a.kind, .int .i64 a.key, .int .i64 a.n]
def actV (a : LAct) : Value := .agg #[.int .i64 a.kind, .int .i64 a.key, .int .i64 a.n]
def iOf (key : Int) (n : Nat) : Nat := (key % 18446744073709551616).toNat % n
def entOf (l : List Nat) (a : LAct) : Ent := ⟨iOf a.key l.length, (a.n % 18446744073709551616).toNat, l.getD (iOf a.key l.length) 0⟩
def numsV (l : List Nat) : List Value := l.map fun x : Nat => .int .u64 (x : Int)
theorem law_Long (A B : Option Addr) (n c m d : Nat) (w : World) : Calls Tryz.prog 5 #[.slice A n c, .slice B m d] w fun e w' => e = .returned (.bool (decide (n < 1) || (decide (220 < n) || decide (700 < m)))) ∧ w = w' := by
 by_cases h1 : n < 1
 ·have h1' : (n : Int) < 1 := by omega
  go_in
  go_wp2
  go_ret
  simp [h1]
 ·have h1' : ¬ (n : Int) < 1 := by omega
  by_cases h2 : 220 < n
  ·have h2' : (220 : Int) < (n : Int) := by omega
   go_in
   go_wp2
   go_ret
   simp [h1, h2]
  ·have h2' : ¬ (220 : Int) < (n : Int) := by omega
   by_cases h3 : 700 < m
   ·have h3' : (700 : Int) < (m : Int) := by omega
    go_in
    go_wp2
    go_ret
    simp [h1, h2, h3]
   ·have h3' : ¬ (700 : Int) < (m : Int) := by omega
    go_in
    go_wp2
    go_ret
    simp [h1, h2, h3]
theorem law_Entry (A : Option Addr) (n c : Nat) (l : List Nat) (a : LAct) (hn : 1 ≤ n ∧ n ≤ 220) (hl : l.length = n) (w : World) (hR : Reads w w.heap.size 1 A n (numsV l)) :
  Calls Tryz.prog 7 #[.slice A n c, actV a] w fun e w' => e = .returned (entV (entOf l a)) ∧ Below w.heap.size w w' := by
 obtain ⟨g, off, rfl, hgl, hcell⟩ := hR.2 (by omega)
 obtain ⟨i, hi⟩ : ∃ i, i = iOf a.key n := ⟨_, rfl⟩
 have hin : i < n := by rw [hi]; exact Nat.mod_lt _ (by omega)
 obtain ⟨x, hx⟩ : ∃ x, x = l.getD i 0 := ⟨_, rfl⟩
 have hc : w.cell? ⟨g, off + i, none⟩ = some (.int .u64 (x : Int)) := hcell i _ (by
  unfold numsV
  rw [List.getElem?_map, List.getElem?_eq_getElem (by omega), hx, List.getD_eq_getElem?_getD, List.getElem?_eq_getElem (by omega)]; rfl)
 unfold actV
 have hB1 := (Blk.new w 35 #[.int .i64 a.kind, .int .i64 a.key, .int .i64 a.n]).alloc (.cells #[.int .u64 0, .int .u64 0, .int .u64 0] 38)
 have hB2 := Blk.new (w.alloc (.cells #[.int .i64 a.kind, .int .i64 a.key, .int .i64 a.n] 35)) 38 #[.int .u64 0, .int .u64 0, .int .u64 0]
 have hb := ((Below.refl w.heap.size w).alloc (Nat.le_refl _) (.cells #[.int .i64 a.kind, .int .i64 a.key, .int .i64 a.n] 35)).alloc (by simp) (.cells #[.int .u64 0, .int .u64 0, .int .u64 0] 38)
 simp only [World.size_alloc] at hB2
 go_in
 go_upto_region 1 with fail
 refine nameW (F := fun v => Blk v w.heap.size 35 #[.int .i64 a.kind, .int .i64 a.key, .int .i64 a.n] ∧ Blk v (w.heap.size + 1) 38 #[.int .u64 0, .int .u64 0, .int .u64 0] ∧ Below w.heap.size w v) ⟨hB1, hB2, hb⟩ ?_
 clear hB1 hB2 hb
 rintro w1 ⟨hB1, hB2, hb⟩
 have a0 := hB1.cell 0
 have a1 := hB1.cell 1
 have a2 := hB1.cell 2
 have b0 := hB2.cell 0
 have b1 := hB2.cell 1
 have b2 := hB2.cell 2
 simp only [gl] at a0 a1 a2 b0 b1 b2
 obtain ⟨f0, f1, f2⟩ := hB2.f3
 have hc1 : w1.cell? ⟨g, off + i, none⟩ = some (.int .u64 (x : Int)) := (World.cell?_of_block (hb.block g hgl)).trans hc
 have HB2 := qd hB2
 have HB := qd hb
 have HI := qd hi
 have HX := qd hx
 have hn1 : (n : Int) ≤ 220 := by omega
 have hn0 : (1 : Int) ≤ (n : Int) := by omega
 have hnz : ¬ (n : Int) = 0 := by omega
 clear hB1 hB2 hb hi hx hR hc hcell
 have hwk : IntKind.u64.wrap a.key = a.key % 18446744073709551616 := by first | rfl | (simp [IntKind.wrap])
 have hq1 : (IntKind.u64.wrap a.key).tmod (n : Int) = (i : Int) := by
  rw [hwk, HI.out, Int.tmod_eq_emod_of_nonneg (by omega)]
  unfold iOf
  rw [Int.natCast_emod, Int.toNat_of_nonneg (by omega)]
 have hq2 : wrap64 (i : Int) = (i : Int) := by unfold wrap64; omega
 have hi0 : (0 : Int) ≤ (i : Int) := by omega
 have hin' : (i : Int) < (n : Int) := by omega
 have hwn : IntKind.u64.wrap a.n = (((a.n % 18446744073709551616).toNat : Nat) : Int) := by
  have : IntKind.u64.wrap a.n = a.n % 18446744073709551616 := by first | rfl | (simp [IntKind.wrap])
  rw [this]; omega
 obtain ⟨q, hq⟩ : ∃ q : Nat, q = (a.n % 18446744073709551616).toNat := ⟨_, rfl⟩
 rw [← hq] at hwn
 have HQ := qd hq
 clear hwk hq
 go_upto_region 2 with fail
 go_region
 have hB3 := (((HB2.out.set_ 0 (.int .u64 (i : Int))).set_ 1 (.int .u64 (q : Int))).set_ 2 (.int .u64 (x : Int))).drew
 simp only [pt] at hB3
 have hbf := (((HB.out.setCell (p := ⟨w.heap.size + 1, 0, none⟩) (Nat.le_succ _) (.int .u64 (i : Int))).setCell (p := ⟨w.heap.size + 1, 1, none⟩) (Nat.le_succ _) (.int .u64 (q : Int))).setCell (p := ⟨w.heap.size + 1, 2, none⟩) (Nat.le_succ _) (.int .u64 (x : Int))).drew
 refine nameW (F := fun v => Blk v (w.heap.size + 1) 38 #[.int .u64 (i : Int), .int .u64 (q : Int), .int .u64 (x : Int)] ∧ Below w.heap.size w v) ⟨hB3, hbf⟩ ?_
 clear hB3 hbf
 rintro w3 ⟨hB3, hbf⟩
 obtain ⟨e0, e1, e2⟩ := hB3.c3
 go_wp2
 refine bodyPost_ret (v := .agg #[.int .u64 (i : Int), .int .u64 (q : Int), .int .u64 (x : Int)]) (by simp [results, Tryz.results7, go_sem, e0, e1, e2]) rfl ⟨?_, hbf⟩
 unfold entV entOf
 rw [hl, ← HI.out, ← HX.out, ← HQ.out]
end
section
open Go.RowKit AmC
variable {W0 w : World} {K M j mb : Nat} {G ids l : List Nat} {E : Nat → Addr} {H : Nat → Nat}
theorem act_cells {base m : Nat} {B : Option Addr} {acts : List LAct} (hR : Reads w base 3 B m (acts.flatMap LAct.cells)) (hm : acts.length = m) {a : LAct} (hj : acts[j]? = some a) : ∃ g off, B = some ⟨g, off, none⟩ ∧ g < base ∧ w.cell? ⟨g, off + j * 3, none⟩ = some (.int .i64 a.kind) ∧ w.cell? ⟨g, off + j * 3 + 1, none⟩ = some (.int .i64 a.key) ∧ w.cell? ⟨g, off + j * 3 + 2, none⟩ = some (.int .i64 a.n) := by
 have hjl := get_lt hj
 obtain ⟨g, off, h1, h2, h3⟩ := hR.2 (by omega)
 have hat : ∀ q u, a.cells[q]? = some u → (acts.flatMap LAct.cells)[j * 3 + q]? = some u := fun q u hu => by
  have hq : q < 3 := by have := get_lt hu; simpa [LAct.cells] using this
  obtain ⟨e1, _⟩ := list_at hj
  have e2 : acts.flatMap LAct.cells = (acts.take j).flatMap LAct.cells ++ (a.cells ++ (acts.drop (j + 1)).flatMap LAct.cells) := by
   have : acts.flatMap LAct.cells = (acts.take j ++ a :: acts.drop (j + 1)).flatMap LAct.cells := by rw [← e1]
   rw [this]; simp
  have e3 : ((acts.take j).flatMap LAct.cells).length = j * 3 := by
   have : ∀ l : List LAct, (l.flatMap LAct.cells).length = l.length * 3 := fun l => by
    induction l with
    | nil => rfl
    | cons x l ih => simp only [List.flatMap_cons, List.length_append, List.length_cons, ih]; simp [LAct.cells]; omega
   rw [this, List.length_take]; omega
  rw [e2, List.getElem?_append_right (by omega), e3, Nat.add_sub_cancel_left, List.getElem?_append_left (by simpa [LAct.cells] using hq)]
  exact hu
 exact ⟨g, off, h1, h2, h3 _ _ (hat 0 _ rfl), by rw [Nat.add_assoc]; exact h3 _ _ (hat 1 _ rfl), by rw [Nat.add_assoc]; exact h3 _ _ (hat 2 _ rfl)⟩
def lawH (l : List Nat) (k : Nat) : Nat := l.getD k 0
theorem lawH_lt (h : ∀ x ∈ l, x < 18446744073709551616) (k : Nat) : lawH l k < 18446744073709551616 := by
 unfold lawH
 rw [List.getD_eq_getElem?_getD]
 cases hk : l[k]? with
 | none => decide
 | some x => exact h x (List.mem_of_getElem? hk)
theorem entOf_ok (h : ∀ x ∈ l, x < 18446744073709551616) (hn : 1 ≤ l.length ∧ l.length ≤ 220) (a : LAct) : EntOk (lawH l) (entOf l a) := by
 refine ⟨rfl, lawH_lt h _, ?_, ?_⟩
 ·have : iOf a.key l.length < l.length := Nat.mod_lt _ (by omega)
  show iOf a.key l.length < _
  omega
 ·show (a.n % 18446744073709551616).toNat < _
  omega
theorem cfg_nat {k m i : Int} (h : cfgOk k m i = true) : ∃ K M I : Nat, (1 ≤ K ∧ K ≤ 64) ∧ (1 ≤ M ∧ M ≤ 192) ∧ k = (K : Int) ∧ m = (M : Int) ∧ i = (I : Int) := by
 unfold cfgOk inB at h
 simp only [Bool.and_eq_true, decide_eq_true_eq] at h
 exact ⟨k.toNat, m.toNat, i.toNat, by omega, by omega, by omega, by omega, by omega⟩
def Keeps (a a' : Pool) : Prop := ∀ mx, GB mx a → a'.ents.length ≤ mx → GB mx a'
theorem fewer_rounds {m : Nat} (h : j < m) : m - (intOf (.int .i64 ((j : Int) + 1))).toNat < m - (intOf (.int .i64 (j : Int))).toNat := by
 show m - ((j : Int) + 1).toNat < m - (j : Int).toNat
 omega
end
end Go.Proofs.YtfojgfddgplinaaGreatDoor
