/- Package fmap by its contracts. No statement of the claim. -/
import Derived.Test.YtgfcmdmpegomdaaGreatDoorFmA
import Derived.Test.YtgfcmdmpegomdaaGreatDoorCoO
import Derived.Test.YtgfcmdmpegomdaaGreatDoorLaneP
import Derived.Test.YtgfcmdmpegomdaaGreatDoorCoH
namespace Go.Proofs.YtgfcmdmpegomdaaGreatDoor
set_option maxRecDepth 100000
set_option maxHeartbeats 4000000
open Go.RowKit AmC AmF
section
variable {E : Nat → Addr} {W0 w : World} {its : List It} {I K M b fb gv n : Nat} {G : List Nat} {R : Nat → Option Nat}
theorem iters_Open_full {ib mb most given : Nat} (h : ItAt w ib mb most given its) (hge : most ≤ its.length) (h7 : ErrAt E w 7) : Calls Tryz.prog 32 #[.pointer (some ⟨ib, 0, none⟩)] w fun y w' => y = .returned (.tuple #[.int .i64 0, .iface 326 (.pointer (some (E 7)))]) ∧ Below w.heap.size w w' := by
 obtain ⟨c0, c1, c2⟩ := h.blk.c3
 have hl := lenMap (h.map.mod (Mod.of_below (Below.refl w.heap.size w).drew []) (by simp)) 3
 have hll : (itMap its).length = its.length := by simp [itMap]
 rw [hll] at hl
 have hge' : (its.length : Int) ≥ (most : Int) := by omega
 unfold ErrAt at h7
 simp only [gE] at h7
 clear h hge
 go_in
 go_upto_region 1 with fail
 go_region
 go_upto_region 2 with fail
 go_region
 go_wp2
 refine bodyPost_ret (v := .tuple #[.int .i64 0, .iface 326 (.pointer (some (E 7)))]) (by simp [results, Tryz.results32, go_sem]) rfl ⟨rfl, (Below.refl _ _).drew.drew⟩
theorem rt_Open_full {H : Nat → Nat} {a : Pool} {ids : List Nat} {lst : Cnt} (h : RtAt W0 E H K M I b G w a ids its gv lst) (hge : I ≤ its.length) (h7 : ErrAt E W0 7) : Calls Tryz.prog 13 #[.pointer (some ⟨b, 0, none⟩)] w fun y w' => y = .returned (.tuple #[.int .i64 0, .iface 326 (.pointer (some (E 7)))]) ∧ Below w.heap.size w w' := by
 obtain ⟨C, GC, mb, hS, rfl, hlst⟩ := h
 have hbk := hS.blk.blk
 unfold RmC.cells at hbk
 have c16 := hbk.cell 16
 simp only [gl] at c16
 have h7w : ErrAt E w 7 := h7.of_block hS.core.facts.2.2.2.2.2.2.2.2.2.2.2.below.block
 have HO := qd (iters_Open_full hS.itr hge h7w)
 clear hbk hS hlst hge h7 h7w
 go_in
 go_wp2_with fail
 refine HO.out.mono ?_
 rintro y w1 ⟨rfl, hb⟩
 go_wp2
 refine bodyPost_ret (v := .tuple #[.int .i64 0, .iface 326 (.pointer (some (E 7)))]) (by simp [results, Tryz.results13, go_sem]) rfl ⟨rfl, hb⟩
theorem fm_New (hE : Env W0 E w) (k m i : Int) (hcf : cfgOk k m i = true) (K M I : Nat) (hkm : (1 ≤ K ∧ K ≤ 64) ∧ (1 ≤ M ∧ M ≤ 192) ∧ k = (K : Int) ∧ m = (M : Int) ∧ i = (I : Int)) (hi8 : 1 ≤ I ∧ I ≤ 8) : Calls Tryz.prog 5 #[cfgV k m i] w fun y w' => ∃ fb b G, y = .returned (.tuple #[.pointer (some ⟨fb, 0, none⟩), .nilIface]) ∧ FmAt W0 E K M I fb b G w' (fun _ => none) 0 [] 0 ∧ (∀ q ∈ G, w.heap.size ≤ q) ∧ Below w.heap.size w w' := by
 have hb0 := (Below.refl w.heap.size w).alloc (Nat.le_refl _) (.cells #[.int .i64 k, .int .i64 m, .int .i64 i] 30)
 have hX := Blk.new w 30 #[.int .i64 k, .int .i64 m, .int .i64 i]
 obtain ⟨W, hW⟩ : ∃ W, W = w.alloc (.cells #[.int .i64 k, .int .i64 m, .int .i64 i] 30) := ⟨_, rfl⟩
 rw [← hW] at hb0 hX
 obtain ⟨x0, x1, x2⟩ := hX.c3
 have hn := rt_New fhash (hE.next hb0) k m i hcf K M I hkm hi8
 unfold cfgV at hn ⊢
 have HN := qd hn
 have HB := qd hb0
 have HW := qd hW
 have HE := qd hE.size
 clear hn hb0 hX hE hcf hkm hi8 hW
 go_in
 go_upto_region 1 with fail
 rw [← HW.out]
 go_wp2_with fail
 refine HN.out.mono ?_
 rintro y w2 ⟨b, G, rfl, hA, hG, hb⟩
 have hfa := hA.facts.1
 have hsz := HB.out.size
 have hs2 := hb.size
 have hb2 := below2 HB.out hb
 have hal := hb2.alloc (by omega) (.cells #[.pointer (some ⟨b, 0, none⟩)] 55)
 have HAl := qd hal
 have HH := qd (show FmAt W0 E K M I w2.heap.size b (w2.heap.size :: G) (w2.alloc (.cells #[.pointer (some ⟨b, 0, none⟩)] 55)) (fun _ => none) 0 [] 0 from ⟨G, _, _, _, Blk.new w2 55 #[.pointer (some ⟨b, 0, none⟩)], hA.below ((Below.refl _ _).alloc (Nat.le_refl _) _), rfl, fun hg => Nat.lt_irrefl _ (hfa _ hg).1, by have := HE.out; omega, by rw [ents0]; rfl, by rw [ents0]; rfl⟩)
 have HF := qd (show ∀ p ∈ w2.heap.size :: G, w.heap.size ≤ p from fun p hp => by
  rcases List.mem_cons.1 hp with rfl | k
  ·omega
  ·have := hG p k; omega)
 clear hA hG hb hfa hs2 hal HN hsz hb2 x0 x1 x2
 go_wp2
 refine bodyPost_ret (v := .tuple #[.pointer (some ⟨w2.heap.size, 0, none⟩), .nilIface]) (by simp [results, Tryz.results5, go_sem]) rfl ⟨_, b, _, rfl, HH.out, HF.out, HAl.out⟩
theorem fm_Map (h : FmAt W0 E K M I fb b G w R n its gv) : Calls Tryz.prog 12 #[.pointer (some ⟨fb, 0, none⟩)] w fun y w' => y = .returned (.pointer (some ⟨b, 0, none⟩)) ∧ w = w' := by
 obtain ⟨F, a, ids, lst, hB, hR, rfl, hne, h0, hfn, hln⟩ := h
 have c0 := hB.cell 0
 simp only [List.getElem?_toArray, List.getElem?_cons_zero] at c0
 clear hB hR hne h0 hfn hln
 go_in
 go_wp2
 go_ret
 exact ⟨rfl, rfl⟩
theorem fm_Len (h : FmAt W0 E K M I fb b G w R n its gv) : Calls Tryz.prog 8 #[.pointer (some ⟨fb, 0, none⟩)] w fun y w' => y = .returned (.int .i64 (n : Int)) ∧ w = w' := by
 obtain ⟨F, a, ids, lst, hB, hR, rfl, hne, h0, hfn, hln⟩ := h
 have c0 := hB.cell 0
 simp only [List.getElem?_toArray, List.getElem?_cons_zero] at c0
 have HL := qd (rt_Len hR)
 rw [hln] at HL
 clear hB hR hne h0 hfn hln
 go_in
 go_wp2_with fail
 refine HL.out.mono ?_
 rintro y w1 ⟨rfl, rfl⟩
 go_wp2
 go_ret
 exact ⟨rfl, rfl⟩
theorem fm_Get (h : FmAt W0 E K M I fb b G w R n its gv) (x : Nat) (hx : x < 18446744073709551616) : Calls Tryz.prog 9 #[.pointer (some ⟨fb, 0, none⟩), .float .f64 x] w fun y w' => y = .returned (.tuple #[.float .f64 ((R (okey x)).getD 0), .bool (R (okey x)).isSome]) ∧ FmTo W0 E K M I fb b G w w' R n its gv := by
 obtain ⟨F, a, ids, lst, hB, hR, rfl, hne, h0, hfn, hln⟩ := h
 have c0 := hB.cell 0
 simp only [List.getElem?_toArray, List.getElem?_cons_zero] at c0
 have hRd := hR.below (Below.refl w.heap.size w).drew
 have hg := rt_Get hRd (okey x) (fhash_lt _)
 have HK := qd (fun (W : World) => order_Key x hx W)
 have HH := qd (fun (W : World) => fmap_Hash x hx W)
 have hxx := @run_callFunc_extern Tryz.prog 26 _ Extern.MathFloatBits.float64frombits Tryz.func26 (by kernel_rfl) (by kernel_rfl) (by kernel_rfl) (by kernel_rfl)
 have hff := fun (n : Int) (W : World) => show (Extern.MathFloatBits.float64frombits #[.int .u64 n]).run Tryz.prog W = .ok (.float .f64 n.toNat) W from rfl
 have HB := qd hB
 have HNe := qd (And.intro hne h0)
 have HF := qd (And.intro hfn hln)
 rw [show R (okey x) = (look a.ents (okey x)).map Ent.val from by rw [← hfn]; rfl]
 clear hB hR hRd hne h0 hfn hln
 unfold getV at hg
 cases hl : look a.ents (okey x) with
 | none =>
  rw [hl] at hg
  have HG := qd (show Calls Tryz.prog 28 #[.pointer (some ⟨b, 0, none⟩), .int .u64 (okey x : Int), .int .u64 (fhash (okey x) : Int)] w.drew (fun y w' => y = .returned (.tuple #[.int .u64 0, .bool false]) ∧ ∃ lst', RtTo W0 E fhash K M I b F w.drew w' a ids its gv lst') from hg)
  clear hl hg
  go_in
  go_upto_region 1 with fail
  refine rT (fun (w' : World) => w'.cell? ⟨fb, 0, none⟩ = some (.pointer (some ⟨b, 0, none⟩))) [8] ?_
  have hHeld := c0
  refine vW 0 rfl ?_
  refine vW 1 rfl ?_
  refine vW 2 rfl ?_
  refine vT 3 rfl ?_
  refine vW 4 rfl ?_
  refine vW 6 rfl ?_
  refine nT 5 rfl fun K hK => ?_
  go_simp
  refine (HK.out _).mono ?_
  rintro y1 wq ⟨rfl, rfl⟩
  go_wp2_with fail
  have hHeld := c0
  refine kO hK ?_
  clear hK K
  refine nT 7 rfl fun K hK => ?_
  go_simp
  refine (HH.out _).mono ?_
  rintro y1 wq ⟨rfl, rfl⟩
  go_wp2_with fail
  have hHeld := c0
  refine kO hK ?_
  clear hK K
  refine nT 8 rfl fun K hK => ?_
  go_simp
  refine HG.out.mono ?_
  rintro y1 w1 ⟨rfl, lst1, hto⟩
  have HT := qd (FmTo.of_drew (FmAt.of HB.out.drew HNe.out.1 HNe.out.2 hto HF.out.1 HF.out.2))
  clear hto HG HB HNe HF
  go_wp2_with fail
  refine kO hK ?_
  clear hK K
  refine vL 9 rfl ?_
  refine vL 10 rfl ?_
  refine vL 11 rfl ?_
  refine vL 12 rfl ?_
  refine vL 13 rfl ?_
  refine doneT (by kernel_rfl) ?_ _
  go_wp2
  refine bodyPost_ret (v := .tuple #[.float .f64 0, .bool false]) (by simp [results, Tryz.results9, go_sem]) rfl ⟨rfl, HT.out⟩
 | some e =>
  rw [hl] at hg
  have HG := qd (show Calls Tryz.prog 28 #[.pointer (some ⟨b, 0, none⟩), .int .u64 (okey x : Int), .int .u64 (fhash (okey x) : Int)] w.drew (fun y w' => y = .returned (.tuple #[.int .u64 (e.val : Int), .bool true]) ∧ ∃ lst', RtTo W0 E fhash K M I b F w.drew w' a ids its gv lst') from hg)
  clear hl hg
  go_in
  go_upto_region 1 with fail
  refine rT (fun (w' : World) => w'.cell? ⟨fb, 0, none⟩ = some (.pointer (some ⟨b, 0, none⟩))) [8] ?_
  have hHeld := c0
  refine vW 0 rfl ?_
  refine vW 1 rfl ?_
  refine vW 2 rfl ?_
  refine vT 3 rfl ?_
  refine vW 4 rfl ?_
  refine vW 6 rfl ?_
  refine nT 5 rfl fun K hK => ?_
  go_simp
  refine (HK.out _).mono ?_
  rintro y1 wq ⟨rfl, rfl⟩
  go_wp2_with fail
  have hHeld := c0
  refine kO hK ?_
  clear hK K
  refine nT 7 rfl fun K hK => ?_
  go_simp
  refine (HH.out _).mono ?_
  rintro y1 wq ⟨rfl, rfl⟩
  go_wp2_with fail
  have hHeld := c0
  refine kO hK ?_
  clear hK K
  refine nT 8 rfl fun K hK => ?_
  go_simp
  refine HG.out.mono ?_
  rintro y1 w1 ⟨rfl, lst1, hto⟩
  have HT := qd (FmTo.of_drew (FmAt.of HB.out.drew HNe.out.1 HNe.out.2 hto HF.out.1 HF.out.2))
  clear hto HG HB HNe HF
  go_wp2_with fail
  refine kO hK ?_
  clear hK K
  refine vL 9 rfl ?_
  refine vL 10 rfl ?_
  refine vL 11 rfl ?_
  refine vL 12 rfl ?_
  refine vL 13 rfl ?_
  refine doneT (by kernel_rfl) ?_ _
  go_wp2
  refine bodyPost_ret (v := .tuple #[.float .f64 e.val, .bool true]) (by simp [results, Tryz.results9, go_sem]) rfl ⟨rfl, HT.out⟩
theorem fm_Put (h : FmAt W0 E K M I fb b G w R n its gv) (x v : Nat) (hx : x < 18446744073709551616) (hv : v < 18446744073709551616) (hn : n < M) : Calls Tryz.prog 6 #[.pointer (some ⟨fb, 0, none⟩), .float .f64 x, .float .f64 v] w fun y w' => y = .returned .nilIface ∧ FmTo W0 E K M I fb b G w w' (fupd R (okey x) (some (formW v))) (upN (R (okey x)) n) its gv := by
 obtain ⟨F, a, ids, lst, hB, hR, rfl, hne, h0, hfn, hln⟩ := h
 have c0 := hB.cell 0
 simp only [List.getElem?_toArray, List.getElem?_cons_zero] at c0
 have hRd := hR.below (Below.refl w.heap.size w).drew
 have hnd := hR.facts.2.1
 have hp := rt_Put hRd ⟨okey x, formW v, fhash (okey x)⟩ ⟨rfl, fhash_lt _, okey_lt hx, formW_lt hv⟩
 rw [show putC M a.ents (⟨okey x, formW v, fhash (okey x)⟩ : Ent).key = 0 from by unfold putC fullB; rw [show decide (M ≤ a.ents.length) = false by simp; omega]; simp] at hp
 have HP := qd (show Calls Tryz.prog 22 #[.pointer (some ⟨b, 0, none⟩), .int .u64 (okey x : Int), .int .u64 (formW v : Int), .int .u64 (fhash (okey x) : Int)] w.drew (fun y w' => y = .returned .nilIface ∧ ∃ a' ids' lst', RtTo W0 E fhash K M I b F w.drew w' a' ids' its gv lst' ∧ PutR fhash K M a ids ⟨okey x, formW v, fhash (okey x)⟩ a' ids') from hp)
 have HK := qd (fun (W : World) => order_Key x hx W)
 have HH := qd (fun (W : World) => fmap_Hash x hx W)
 have HV := qd (fun (W : World) => order_Bits v W)
 have HB := qd hB
 have HNe := qd (And.intro hne h0)
 have HF := qd (And.intro hfn hln)
 have HD := qd hnd
 have HN := qd hn
 clear hp hB hR hRd hne h0 hfn hln hnd hn
 go_in
 go_upto_region 1 with fail
 refine rT (fun (w' : World) => w'.cell? ⟨fb, 0, none⟩ = some (.pointer (some ⟨b, 0, none⟩))) [10] ?_
 have hHeld := c0
 refine vW 0 rfl ?_
 refine vW 1 rfl ?_
 refine vW 2 rfl ?_
 refine vT 3 rfl ?_
 refine vW 4 rfl ?_
 refine vW 6 rfl ?_
 refine vW 8 rfl ?_
 refine nT 5 rfl fun K hK => ?_
 go_simp
 refine (HK.out _).mono ?_
 rintro y1 wq ⟨rfl, rfl⟩
 go_wp2_with fail
 have hHeld := c0
 refine kO hK ?_
 clear hK K
 refine nT 7 rfl fun K hK => ?_
 go_simp
 refine (HV.out _).mono ?_
 rintro y1 wq ⟨rfl, rfl⟩
 go_wp2_with fail
 have hHeld := c0
 refine kO hK ?_
 clear hK K
 refine nT 9 rfl fun K hK => ?_
 go_simp
 refine (HH.out _).mono ?_
 rintro y1 wq ⟨rfl, rfl⟩
 go_wp2_with fail
 have hHeld := c0
 refine kO hK ?_
 clear hK K
 refine nT 10 rfl fun K hK => ?_
 go_simp
 refine HP.out.mono ?_
 rintro y1 w1 ⟨rfl, a1, ids1, lst1, hto, hpr⟩
 have hnd1 := hto.choose_spec.1.facts.2.1
 have hfp := fn_put HD.out hnd1 (by rw [HF.out.2]; exact HN.out) hpr.1
 rw [HF.out.1, HF.out.2] at hfp
 have HT := qd (FmTo.of_drew (FmAt.of HB.out.drew HNe.out.1 HNe.out.2 hto hfp.1 hfp.2))
 clear hto hpr HP HB HNe HF hfp hnd1
 go_wp2_with fail
 refine kO hK ?_
 clear hK K
 refine vL 11 rfl ?_
 refine doneT (by kernel_rfl) ?_ _
 go_wp2
 refine bodyPost_ret (v := .nilIface) (by simp [results, Tryz.results6, go_sem]) rfl ⟨rfl, HT.out⟩
theorem fm_Delete (h : FmAt W0 E K M I fb b G w R n its gv) (x : Nat) (hx : x < 18446744073709551616) : Calls Tryz.prog 11 #[.pointer (some ⟨fb, 0, none⟩), .float .f64 x] w fun y w' => y = .returned (.bool (R (okey x)).isSome) ∧ FmTo W0 E K M I fb b G w w' (fupd R (okey x) none) (dnN (R (okey x)) n) its gv := by
 obtain ⟨F, a, ids, lst, hB, hR, rfl, hne, h0, hfn, hln⟩ := h
 have c0 := hB.cell 0
 simp only [List.getElem?_toArray, List.getElem?_cons_zero] at c0
 have hRd := hR.below (Below.refl w.heap.size w).drew
 have hnd := hR.facts.2.1
 have hp := rt_Delete hRd ⟨okey x, 0, fhash (okey x)⟩ ⟨rfl, fhash_lt _, okey_lt hx, by show 0 < _; decide⟩
 have hqs : (look a.ents (okey x)).isSome = (R (okey x)).isSome := by rw [← hfn]; show _ = ((look a.ents (okey x)).map Ent.val).isSome; simp
 have HP := qd (show Calls Tryz.prog 31 #[.pointer (some ⟨b, 0, none⟩), .int .u64 (okey x : Int), .int .u64 (fhash (okey x) : Int)] w.drew (fun y w' => y = .returned (.bool (R (okey x)).isSome) ∧ ∃ a' ids' lst', RtTo W0 E fhash K M I b F w.drew w' a' ids' its gv lst' ∧ a'.ents.Perm (rest a.ents (okey x))) from by rw [← hqs]; exact hp)
 have HK := qd (fun (W : World) => order_Key x hx W)
 have HH := qd (fun (W : World) => fmap_Hash x hx W)
 have HB := qd hB
 have HNe := qd (And.intro hne h0)
 have HF := qd (And.intro hfn hln)
 have HD := qd hnd
 clear hp hB hR hRd hne h0 hfn hln hnd hqs
 go_in
 go_upto_region 1 with fail
 refine rT (fun (w' : World) => w'.cell? ⟨fb, 0, none⟩ = some (.pointer (some ⟨b, 0, none⟩))) [8] ?_
 have hHeld := c0
 refine vW 0 rfl ?_
 refine vW 1 rfl ?_
 refine vW 2 rfl ?_
 refine vT 3 rfl ?_
 refine vW 4 rfl ?_
 refine vW 6 rfl ?_
 refine nT 5 rfl fun K hK => ?_
 go_simp
 refine (HK.out _).mono ?_
 rintro y1 wq ⟨rfl, rfl⟩
 go_wp2_with fail
 have hHeld := c0
 refine kO hK ?_
 clear hK K
 refine nT 7 rfl fun K hK => ?_
 go_simp
 refine (HH.out _).mono ?_
 rintro y1 wq ⟨rfl, rfl⟩
 go_wp2_with fail
 have hHeld := c0
 refine kO hK ?_
 clear hK K
 refine nT 8 rfl fun K hK => ?_
 go_simp
 refine HP.out.mono ?_
 rintro y1 w1 ⟨rfl, a1, ids1, lst1, hto, hpr⟩
 have hnd1 := hto.choose_spec.1.facts.2.1
 have hfp := fn_del HD.out hnd1 hpr
 rw [HF.out.1, HF.out.2] at hfp
 have HT := qd (FmTo.of_drew (FmAt.of HB.out.drew HNe.out.1 HNe.out.2 hto hfp.1 hfp.2))
 clear hto hpr HP HB HNe HF hfp hnd1
 go_wp2_with fail
 refine kO hK ?_
 clear hK K
 refine vL 9 rfl ?_
 refine doneT (by kernel_rfl) ?_ _
 go_wp2
 refine bodyPost_ret (v := .bool (R (okey x)).isSome) (by simp [results, Tryz.results11, go_sem]) rfl ⟨rfl, HT.out⟩
theorem fm_Open (h : FmAt W0 E K M I fb b G w R n its gv) (hlt : its.length < I) (hg : gv ≤ 100000) : Calls Tryz.prog 13 #[.pointer (some ⟨b, 0, none⟩)] w fun y w' => ∃ cb, y = .returned (.tuple #[.int .i64 ((gv + 1 : Nat) : Int), .nilIface]) ∧ FmTo W0 E K M I fb b G w w' R n (its ++ [⟨gv + 1, cb, ⟨0, 0, false⟩⟩]) (gv + 1) := by
 obtain ⟨F, a, ids, lst, hB, hR, rfl, hne, h0, hfn, hln⟩ := h
 refine (rt_Open hR hlt hg).mono ?_
 rintro y w1 ⟨cb, rfl, hto⟩
 exact ⟨cb, rfl, FmAt.of hB hne h0 hto hfn hln⟩
theorem fm_Close (h : FmAt W0 E K M I fb b G w R n its gv) {j id cb : Nat} {c : Cur} (hj : its[j]? = some ⟨id, cb, c⟩) : Calls Tryz.prog 18 #[.pointer (some ⟨b, 0, none⟩), .int .i64 (id : Int)] w fun y w' => y = .returned .nilIface ∧ FmTo W0 E K M I fb b G w w' R n (its.eraseIdx j) gv := by
 obtain ⟨F, a, ids, lst, hB, hR, rfl, hne, h0, hfn, hln⟩ := h
 refine (rt_Close hR hj).mono ?_
 rintro y w1 ⟨rfl, hto⟩
 exact ⟨rfl, FmAt.of hB hne h0 hto hfn hln⟩
theorem fm_raw_full (h : FmAt W0 E K M I fb b G w R n its gv) (hge : I ≤ its.length) (h7 : ErrAt E W0 7) : Calls Tryz.prog 33 #[.pointer (some ⟨fb, 0, none⟩)] w fun y w' => y = .returned (.tuple #[.slice none 0 0, .iface 326 (.pointer (some (E 7)))]) ∧ Below w.heap.size w w' := by
 obtain ⟨F, a, ids, lst, hB, hR, rfl, hne, h0, hfn, hln⟩ := h
 have c0 := hB.cell 0
 simp only [List.getElem?_toArray, List.getElem?_cons_zero] at c0
 have HO := qd (rt_Open_full hR hge h7)
 clear hB hR hne h0 hfn hln hge h7
 go_in
 go_wp2_with fail
 refine HO.out.mono ?_
 rintro y w1 ⟨rfl, hb⟩
 have HB1 := qd hb
 clear hb HO
 go_wp2
 refine bodyPost_ret (v := .tuple #[.slice none 0 0, .iface 326 (.pointer (some (E 7)))]) (by simp [results, Tryz.results33, go_sem]) rfl ⟨rfl, HB1.out⟩
theorem fm_Pairs_full (h : FmAt W0 E K M I fb b G w R n its gv) (hge : I ≤ its.length) (h7 : ErrAt E W0 7) : Calls Tryz.prog 14 #[.pointer (some ⟨fb, 0, none⟩)] w fun y w' => y = .returned (.tuple #[.slice none 0 0, .iface 326 (.pointer (some (E 7)))]) ∧ Below w.heap.size w w' := by
 have HO := qd (fm_raw_full h hge h7)
 clear h hge h7
 go_in
 go_wp2_with fail
 refine HO.out.mono ?_
 rintro y w1 ⟨rfl, hb⟩
 have HB1 := qd hb
 clear hb HO
 go_wp2
 refine bodyPost_ret (v := .tuple #[.slice none 0 0, .iface 326 (.pointer (some (E 7)))]) (by simp [results, Tryz.results14, go_sem]) rfl ⟨rfl, HB1.out⟩
theorem fm_Sum_full (h : FmAt W0 E K M I fb b G w R n its gv) (hge : I ≤ its.length) (h7 : ErrAt E W0 7) : Calls Tryz.prog 15 #[.pointer (some ⟨fb, 0, none⟩)] w fun y w' => y = .returned (.tuple #[.float .f64 0, .iface 326 (.pointer (some (E 7)))]) ∧ Below w.heap.size w w' := by
 have HO := qd (fm_Pairs_full h hge h7)
 clear h hge h7
 go_in
 go_wp2_with fail
 refine HO.out.mono ?_
 rintro y w1 ⟨rfl, hb⟩
 have HB1 := qd hb
 clear hb HO
 go_wp2
 refine bodyPost_ret (v := .tuple #[.float .f64 0, .iface 326 (.pointer (some (E 7)))]) (by simp [results, Tryz.results15, go_sem]) rfl ⟨rfl, HB1.out⟩
theorem fm_Least_full (h : FmAt W0 E K M I fb b G w R n its gv) (hge : I ≤ its.length) (h7 : ErrAt E W0 7) : Calls Tryz.prog 16 #[.pointer (some ⟨fb, 0, none⟩)] w fun y w' => y = .returned (.tuple #[.float .f64 0, .iface 326 (.pointer (some (E 7)))]) ∧ Below w.heap.size w w' := by
 have HO := qd (fm_Pairs_full h hge h7)
 clear h hge h7
 go_in
 go_wp2_with fail
 refine HO.out.mono ?_
 rintro y w1 ⟨rfl, hb⟩
 have HB1 := qd hb
 clear hb HO
 go_wp2
 refine bodyPost_ret (v := .tuple #[.float .f64 0, .iface 326 (.pointer (some (E 7)))]) (by simp [results, Tryz.results16, go_sem]) rfl ⟨rfl, HB1.out⟩
end
section
variable {W0 w : World} {E : Nat → Addr}
theorem math_Copysign01 (w : World) : Calls Tryz.prog 19 #[.float .f64 0, .float .f64 13830554455654793216] w fun y w' => y = .returned (.float .f64 9223372036854775808) ∧ w = w' := by
 have he := @run_callFunc_extern Tryz.prog 30 _ Extern.MathFloatBits.float64bits Tryz.func30 (by kernel_rfl) (by kernel_rfl) (by kernel_rfl) (by kernel_rfl)
 have hb := fun (b : Nat) (W : World) => show (Extern.MathFloatBits.float64bits #[.float .f64 b]).run Tryz.prog W = .ok (.int .u64 (b : Int)) W from rfl
 have hxx := @run_callFunc_extern Tryz.prog 26 _ Extern.MathFloatBits.float64frombits Tryz.func26 (by kernel_rfl) (by kernel_rfl) (by kernel_rfl) (by kernel_rfl)
 have hff := fun (n : Int) (W : World) => show (Extern.MathFloatBits.float64frombits #[.int .u64 n]).run Tryz.prog W = .ok (.float .f64 n.toNat) W from rfl
 go_in
 go_wp2
 go_ret
 exact ⟨rfl, rfl⟩
theorem fm_Add12 {K M I fb b : Nat} {G : List Nat} {R : Nat → Option Nat} {n : Nat} {its : List It} {gv : Nat} (h : FmAt W0 E K M I fb b G w R n its gv) (hR : R (okey 0) = some 4607182418800017408) (hn : n < M) : Calls Tryz.prog 20 #[.pointer (some ⟨fb, 0, none⟩), .float .f64 0, .float .f64 4611686018427387904] w fun y w' => y = .returned (.tuple #[.float .f64 4613937818241073152, .nilIface]) ∧ FmTo W0 E K M I fb b G w w' (fupd R (okey 0) (some 4613937818241073152)) n its gv := by
 have hg := fm_Get h 0 (by decide)
 rw [hR] at hg
 have HG1 := qd (show Calls Tryz.prog 9 #[.pointer (some ⟨fb, 0, none⟩), .float .f64 0] w (fun y w' => y = .returned (.tuple #[.float .f64 4607182418800017408, .bool true]) ∧ FmTo W0 E K M I fb b G w w' R n its gv) from hg)
 have HR := qd hR
 have HN := qd hn
 have HF := qd (fun (W : World) => (order_Form 4613937818241073152 W))
 rw [show formW 4613937818241073152 = 4613937818241073152 by decide] at HF
 have hadd := fun (W : World) => show (binOp .add 22 (.float .f64 4607182418800017408) (.float .f64 4611686018427387904)).run Tryz.prog W = .ok (.float .f64 4613937818241073152) W from rfl
 clear hg h hR hn
 go_in
 go_wp2_with fail
 refine HG1.out.mono ?_
 rintro y w1 ⟨rfl, G1, hA, hs, hm⟩
 have hp := fm_Put hA 0 4613937818241073152 (by decide) (by decide) HN.out
 rw [HR.out] at hp
 have HP := qd (show Calls Tryz.prog 6 #[.pointer (some ⟨fb, 0, none⟩), .float .f64 0, .float .f64 4613937818241073152] w1 (fun y w' => y = .returned .nilIface ∧ FmTo W0 E K M I fb b G1 w1 w' (fupd R (okey 0) (some 4613937818241073152)) n its gv) from hp)
 have HS := qd (And.intro hs hm)
 clear hp hA hs hm HG1
 go_wp2_with fail
 refine (HF.out _).mono ?_
 rintro y wq ⟨rfl, rfl⟩
 go_wp2_with fail
 refine HP.out.mono ?_
 rintro y w2 ⟨rfl, G2, hA, hs, hm⟩
 have HT := qd (show FmTo W0 E K M I fb b G w w2 (fupd R (okey 0) (some 4613937818241073152)) n its gv from ⟨G2, hA, fun q hq => (hs q hq).elim (HS.out.1 q) (fun k => .inr (Nat.le_trans HS.out.2.size k)), HS.out.2.trans hm (fun _ hk _ => hk) (fun k hk hl => (HS.out.1 k hk).elim id (fun z => absurd hl (by omega)))⟩)
 clear hA hs hm HP HS
 go_wp2
 refine bodyPost_ret (v := .tuple #[.float .f64 4613937818241073152, .nilIface]) (by simp [results, Tryz.results20, go_sem]) rfl ⟨rfl, HT.out⟩
theorem law28_alive (hE : Env W0 E w) : Calls Tryz.prog 4 #[] w fun y w' => y = .returned (.bool true) ∧ Below w.heap.size w w' := by
 have hn := fm_New hE 1 9 1 (by decide) 1 9 1 ⟨by decide, by decide, rfl, rfl, rfl⟩ (by decide)
 unfold cfgV at hn
 have HN := qd hn
 clear hn hE
 have HCs := qd (fun (W : World) => math_Copysign01 W)
 go_in
 go_wp2_with fail
 refine HN.out.mono ?_
 rintro y w1 ⟨fb, b, G1, rfl, hA, hG, hb⟩
 have HA := qd hA
 have HG := qd hG
 have HB := qd hb
 have HB0 := qd hb.size
 clear hA hG hb HN
 go_wp2_with fail
 refine (HCs.out _).mono ?_
 rintro y wq ⟨rfl, rfl⟩
 have hp := fm_Put HA.out 9223372036854775808 4607182418800017408 (by decide) (by decide) (by decide)
 rw [show okey 9223372036854775808 = okey 0 by decide, show formW 4607182418800017408 = 4607182418800017408 by decide] at hp
 have HC := qd (show Calls Tryz.prog 6 #[.pointer (some ⟨fb, 0, none⟩), .float .f64 9223372036854775808, .float .f64 4607182418800017408] w1 (fun y w' => y = .returned .nilIface ∧ FmTo W0 E 1 9 1 fb b G1 w1 w' (fupd (fun _ => none) (okey 0) (some 4607182418800017408)) 1 [] 0) from hp)
 clear hp
 go_wp2_with fail
 refine HC.out.mono ?_
 rintro y w2 ⟨rfl, G2, hA, hs, hm⟩
 replace HB := qd (HB.out.trans (hm.below HG.out HB.out.size))
 replace HG := qd (show ∀ q ∈ G2, w.heap.size ≤ q from fun q hq => (hs q hq).elim (HG.out q) (fun k => Nat.le_trans HB0.out k))
 replace HB0 := qd HB.out.size
 replace HA := qd hA
 clear hA hs hm HC
 have HC := qd (fm_Add12 HA.out (fupd_same _ _ _) (by decide))
 go_wp2_with fail
 refine HC.out.mono ?_
 rintro y w3 ⟨rfl, G3, hA, hs, hm⟩
 replace HB := qd (HB.out.trans (hm.below HG.out HB.out.size))
 replace HG := qd (show ∀ q ∈ G3, w.heap.size ≤ q from fun q hq => (hs q hq).elim (HG.out q) (fun k => Nat.le_trans HB0.out k))
 replace HB0 := qd HB.out.size
 replace HA := qd hA
 clear hA hs hm HC
 have hq3 : (FloatKind.f64.format.order 4613937818241073152 4613937818241073152 == some .eq) = true := by decide
 have HC := qd (fun (W : World) (hW : Below w3.heap.size w3 W) => fm_Len (HA.out.below hW))
 go_wp2_with fail
 refine (HC.out _ (Below.refl _ _)).mono ?_
 rintro y wq ⟨rfl, rfl⟩
 go_wp2
 go_ret
 exact ⟨rfl, HB.out⟩
theorem law28_same (a b : Nat) (ha : a < 18446744073709551616) (hb0 : b < 18446744073709551616) (w : World) : Calls Tryz.prog 10 #[.float .f64 a, .float .f64 b] w fun y w' => y = .returned (.bool (decide (formW a = formW b))) ∧ w = w' := by
 have he := @run_callFunc_extern Tryz.prog 30 _ Extern.MathFloatBits.float64bits Tryz.func30 (by kernel_rfl) (by kernel_rfl) (by kernel_rfl) (by kernel_rfl)
 have hb := fun (b : Nat) (W : World) => show (Extern.MathFloatBits.float64bits #[.float .f64 b]).run Tryz.prog W = .ok (.int .u64 (b : Int)) W from rfl
 have HA := qd (fun (W : World) => ref27_Form a ha W)
 have HB := qd (fun (W : World) => ref27_Form b hb0 W)
 go_in
 go_wp2_with fail
 refine (HA.out _).mono ?_
 rintro y wq ⟨rfl, rfl⟩
 go_wp2_with fail
 refine (HB.out _).mono ?_
 rintro y wq ⟨rfl, rfl⟩
 go_wp2
 go_ret
 exact ⟨ret_bool (by rw [Bool.eq_iff_iff]; simp; omega), rfl⟩
end
section
variable {E : Nat → Addr} {w : World}
theorem allCells_get (E : Nat → Addr) (k : Nat) (h : k < 16) : (allCells E)[k]? = some (.iface 326 (.pointer (some (E (k + 1))))) := by
 unfold allCells
 rw [List.getElem?_map, List.getElem?_range h]
 rfl
theorem num_err (h : ErrsIn E w) (j : Nat) (h1 : 1 ≤ j) (h2 : j ≤ 16) :
  Calls Tryz.prog 17 #[.iface 326 (.pointer (some (E j)))] w fun e w' => e = .returned (.int .i64 j) ∧ Below w.heap.size w w' := by
 have hS := h.alloc (.cells (allCells E).toArray 26)
 have hcells := Blk.new w 26 (allCells E).toArray
 have hB : Below w.heap.size w (w.alloc (.cells (allCells E).toArray 26)) := (Below.refl _ _).alloc (Nat.le_refl _) _
 go_in
 go_wp2_with (go_at_call 36; refine (num_all h).mono ?_; rintro e w1 ⟨rfl, rfl⟩)
 obtain ⟨W, hW⟩ : ∃ W, W = w.alloc (.cells (allCells E).toArray 26) := ⟨_, rfl⟩
 rw [← hW] at hS hcells hB ⊢
 clear hW
 go_loop [3, 4, 9] (fun _ _ i => ∃ k : Nat, k < j ∧ i = .int .i64 k) (fun _ _ i => 16 - (intOf i).toNat)
 case atStart => exact ⟨0, by omega, rfl⟩
 case round =>
  obtain ⟨k, hk, rfl⟩ := hrel
  have hc : W.cell? ⟨w.heap.size, k, none⟩ = some (.iface 326 (.pointer (some (E (k + 1))))) := by rw [hcells.cell k, List.getElem?_toArray]; exact allCells_get E k (by omega)
  have hi := is_errs hS j (k + 1) h1 h2 (by omega) (by omega)
  by_cases hjk : j = k + 1
  ·have hb : (j == k + 1) = true := by simp [hjk]
   rw [hb] at hi
   have Hjk := qd hjk
   clear hjk hb
   go_wp2_with (go_at_call 37; refine hi.mono ?_; rintro e w1 ⟨rfl, rfl⟩)
   go_ret
   exact ⟨ret_int (by have := Hjk.out; omega), hB⟩
  ·have hb : (j == k + 1) = false := by simp [hjk]
   rw [hb] at hi
   clear hb
   go_wp2_with (go_at_call 37; refine hi.mono ?_; rintro e w1 ⟨rfl, rfl⟩)
   go_round
   case rel => exact ⟨k + 1, by omega, by go_num⟩
   case measure => simp [intOf]; omega
end
end Go.Proofs.YtgfcmdmpegomdaaGreatDoor
