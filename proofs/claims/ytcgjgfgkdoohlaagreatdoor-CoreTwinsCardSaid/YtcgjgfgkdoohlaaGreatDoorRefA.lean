/- A core's Get, Put, Delete by their contracts. -/
import Derived.Test.YtcgjgfgkdoohlaaGreatDoorCoCN
import Derived.Test.YtcgjgfgkdoohlaaGreatDoorSqT
import Derived.Test.YtcgjgfgkdoohlaaGreatDoorLaneP
import Derived.Test.YtcgjgfgkdoohlaaGreatDoorCoS
namespace Go.Proofs.YtcgjgfgkdoohlaaGreatDoor
section
set_option maxRecDepth 100000
set_option maxHeartbeats 4000000
open Go.RowKit AmC
variable {a : Pool} {e : Ent} {id key : Nat} {N : Nd}
theorem pool_nodup {H : Nat → Nat} (hd : DirOk a) (h5 : a.d ≤ 5) (ho : ∀ (i : Nat) (N : Nd), a.Ns[i]? = some N → NOk H N) : (a.ents.map Ent.key).Nodup := by
 unfold Pool.ents
 rw [List.map_flatMap]
 unfold List.Nodup
 rw [List.pairwise_flatMap]
 refine ⟨fun N hN => ?_, ?_⟩
 ·obtain ⟨i, hi⟩ := List.getElem?_of_mem hN
  exact (ho i N hi).keys
 ·rw [List.pairwise_iff_getElem]
  intro i j hi hj hij x hx y hy hxy
  obtain ⟨e, he, rfl⟩ := List.mem_map.1 hx
  obtain ⟨e', he', rfl⟩ := List.mem_map.1 hy
  have g1 : a.Ns[i]? = some a.Ns[i] := List.getElem?_eq_getElem hi
  have g2 : a.Ns[j]? = some a.Ns[j] := List.getElem?_eq_getElem hj
  obtain ⟨k1, k2⟩ := (ho _ _ g1).hash e he
  obtain ⟨k3, k4⟩ := (ho _ _ g2).hash e' he'
  have hh : e.hash = e'.hash := by rw [k1.hash, k3.hash, hxy]
  have a1 := hd.is_ k1.h64 h5 g1 k2
  have a2 := hd.is_ k3.h64 h5 g2 k4
  rw [hh, a2] at a1
  omega
theorem mem_pool : e ∈ a.ents ↔ ∃ (i : Nat) (N : Nd), a.Ns[i]? = some N ∧ e ∈ N.ents := by
 unfold Pool.ents
 rw [List.mem_flatMap]
 constructor
 ·rintro ⟨N, h1, h2⟩
  obtain ⟨i, hi⟩ := List.getElem?_of_mem h1
  exact ⟨i, N, hi, h2⟩
 ·rintro ⟨i, N, h1, h2⟩
  exact ⟨N, List.mem_of_getElem? h1, h2⟩
theorem pool_node {H : Nat → Nat} (hd : DirOk a) (h5 : a.d ≤ 5) (ho : ∀ (i : Nat) (N : Nd), a.Ns[i]? = some N → NOk H N) (hid : a.l.getD (topOf (H key) a.d) 0 = id) (hN : a.Ns[id]? = some N) (he : e ∈ a.ents) (hk : e.key = key) : e ∈ N.ents := by
 obtain ⟨j, M, h1, h2⟩ := mem_pool.1 he
 obtain ⟨k1, k2⟩ := (ho j M h1).hash e h2
 have := hd.is_ k1.h64 h5 h1 k2
 rw [k1.hash, hk, hid] at this
 subst this
 rw [hN] at h1; cases h1
 exact h2
theorem pool_look {H : Nat → Nat} (hd : DirOk a) (h5 : a.d ≤ 5) (ho : ∀ (i : Nat) (N : Nd), a.Ns[i]? = some N → NOk H N) (hid : a.l.getD (topOf (H key) a.d) 0 = id) (hN : a.Ns[id]? = some N) : look N.ents key = look a.ents key := by
 cases h : look N.ents key with
 | some e =>
  obtain ⟨h1, h2⟩ := look_mem h
  have := look_some (pool_nodup hd h5 ho) (mem_pool.2 ⟨id, N, hN, h1⟩)
  rw [h2] at this
  exact this.symm
 | none =>
  refine (look_none fun e he hk => ?_).symm
  have h1 := pool_node hd h5 ho hid hN he hk
  have := look_some (ho id N hN).keys h1
  rw [hk, h] at this
  cases this
theorem wr_pre {H : Nat → Nat} {ids : List Nat} {N1 : Nd} {del add : List Ent} (h : CInv a ids []) (hN : a.Ns[id]? = some N) (hw : Wr H del add N N1) : CPre { a with Ns := a.Ns.set id N1 } ids id := by
 have hid := get_lt hN
 have hget := set_get (N' := N1) hid
 have hL := hw.like
 refine ⟨h.dir.alike hN hL.pfx hL.dpt (fun hb hk => h.dir.split id N hN (by rw [← hL.busy]; exact hb) (by rw [← hL.kind]; exact hk)), fun j => ?_, h.nd, fun j hj => ?_, fun i X hX hi => ?_⟩
 ·have := h.can_ j
  simp only [List.not_mem_nil, or_false] at this
  rw [← this]
  unfold Pool.can
  simp only
  rw [hget]
  by_cases hj : j = id
  ·subst hj; rw [if_pos rfl, hN]; simp [hL.busy]
  ·rw [if_neg hj]
 ·have := h.some_ j hj
  unfold Pool.left at this ⊢
  simp only
  rw [hget]
  by_cases hj2 : j = id
  ·subst hj2; rw [if_pos rfl]; rw [hN] at this; show 1 ≤ N1.left; rw [hw.left]; exact this
  ·rw [if_neg hj2]; exact this
 ·have hX' : (a.Ns.set id N1)[i]? = some X := hX
  rw [hget, if_neg hi] at hX'
  exact h.sl i X hX' (by simp)
def WrPost (W0 : World) (E : Nat → Addr) (H : Nat → Nat) (C : CPl) (w0 : World) (G0 : List Nat) (st : CSt) (id : Nat) (del add : List Ent) (len' : Nat) (w' : World) : Prop :=
 ∃ (N N1 : Nd) (x1 : Mtr), st.a.Ns[id]? = some N ∧ Wr H del add N N1 ∧ Cost ⟨st.x.all, ⟨0, 0, 0⟩⟩ x1 128 0 ∧ MtPost W0 E H C w0 G0 { st with a := { st.a with Ns := st.a.Ns.set id N1 }, len := len', x := x1 } id w'
section
variable {W0 : World} {E : Nat → Addr} {H : Nat → Nat} {C : CPl} {w0 : World} {G0 : List Nat} {w w' : World} {F : List Nat} {st : CSt}
theorem core_Reset (h : CoreF W0 E H C w0 G0 w F st) : Calls Tryz.prog 31 #[.pointer (some ⟨C.mb, 3, none⟩)] w fun e w' => e = .returned undef ∧ CoreF W0 E H C w0 G0 w' F { st with x := ⟨st.x.all, ⟨0, 0, 0⟩⟩ } :=
 (meter_Reset C.mb _ _ _ 3 st.x.all st.x.last C.m w h.sch.met).mono fun e w' ⟨h1, h2, h3⟩ => ⟨h1, h.met h2 h3⟩
theorem Wr.refl (h : NOk H N) : Wr H [] [] N N := ⟨Like.refl N, rfl, ⟨N.ents, by simp, by simp⟩, h, fun _ => rfl, fun _ => Nat.le_add_right _ _⟩
end
theorem core_Get {W0 : World} {E : Nat → Addr} {H : Nat → Nat} {C : CPl} {w0 : World} {G0 : List Nat} {w : World} {F : List Nat} {st : CSt} (h : CoreF W0 E H C w0 G0 w F st) (hi : CInv st.a st.ids []) (key : Nat) (h64 : H key < 18446744073709551616) : Calls Tryz.prog 24 #[coreP C.mb, .int .u64 (key : Int), .int .u64 (H key : Int)] w fun e w' => e = .returned (.tuple #[.int .u64 (((look st.a.ents key).getD ⟨0, 0, 0⟩).val : Int), .bool (look st.a.ents key).isSome]) ∧ ∃ x', CoreF W0 E H C w0 G0 w' F { st with x := x' } ∧ Cost ⟨st.x.all, ⟨0, 0, 0⟩⟩ x' 128 0 := by
 have HRs := qd (core_Reset h)
 have hbd := h.bounds
 have HBd := qd hbd
 have HI := qd hi
 obtain ⟨N, hN, htp⟩ := hi.dir.at_ h64 hbd.1
 have HTp := qd htp
 obtain ⟨id, hid⟩ : ∃ id, id = st.a.l.getD (topOf (H key) st.a.d) 0 := ⟨_, rfl⟩
 rw [← hid] at hN
 have HN := qd hN
 have HId := qd hid
 clear h hi hbd hN hid htp
 unfold coreP
 go_in
 go_wp2_with fail
 refine HRs.out.mono ?_
 rintro y w1 ⟨rfl, h1⟩
 have HC := qd h1
 clear h1 HRs
 have HOf := qd (core_of HC.out (H key) id h64 HId.out.symm (get_lt HN.out))
 unfold coreP nodeP at HOf
 go_wp2_with fail
 refine HOf.out.mono ?_
 rintro y w2 ⟨rfl, hb⟩
 replace HC := qd (HC.out.below hb)
 clear hb HOf
 go_wp2_with fail
 refine (meter_Probing (some ⟨C.mb, 3, none⟩) w2).mono ?_
 rintro y w3 ⟨rfl, hb⟩
 replace HC := qd (HC.out.below hb)
 clear hb
 obtain ⟨Fi, n1, n2, n3, n4, n5, n6⟩ := HC.out.node HN.out
 have hlk := pool_look HI.out.dir HBd.out.1 HBd.out.2.2.2 HId.out.symm HN.out
 have HLk := qd hlk
 have hfd := nd_Find key n1 n2 h64 HC.out.sch.met HC.out.sch.env HC.out.sch.mb0 n3
 obtain ⟨e0, he0⟩ : ∃ e0 : Ent, e0 = (look N.ents key).getD ⟨0, 0, 0⟩ := ⟨_, rfl⟩
 obtain ⟨b0, hb0⟩ : ∃ b0, b0 = (look N.ents key).isSome := ⟨_, rfl⟩
 unfold optE at hfd
 rw [← he0, ← hb0] at hfd
 have HFd := qd hfd
 have HE0 := qd he0
 have HB0 := qd hb0
 clear n1 n2 n3 n4 n5 n6 hlk hfd he0 hb0
 unfold nodeP entV at HFd
 go_wp2_with fail
 refine HFd.out.mono ?_
 rintro y w4 ⟨rfl, x4, h4, h5, h6⟩
 have HC4 := qd (HC.out.met h4 h6)
 have HCo := qd h5
 clear h4 h5 h6 HFd HC
 go_wp2
 have HC5 := qd (HC4.out.below ((Below.refl w4.heap.size w4).alloc (Nat.le_refl _) (.cells #[.int .u64 (e0.key : Int), .int .u64 (e0.val : Int), .int .u64 (e0.hash : Int)] 37)))
 refine bodyPost_ret (v := .tuple #[.int .u64 (e0.val : Int), .bool b0]) (by simp [results, Tryz.results24, go_sem]) rfl ⟨?_, x4, HC5.out, HCo.out⟩
 rw [← HLk.out, ← HE0.out, ← HB0.out]
theorem MtPost.chain {W0 : World} {E : Nat → Addr} {H : Nat → Nat} {C : CPl} {w0 : World} {G0 : List Nat} {w w' : World} {F : List Nat} {st : CSt} (h : CoreF W0 E H C w0 G0 w F st) (k : MtPost W0 E H C w (C.foot F) st id w') : MtPost W0 E H C w0 G0 st id w' ∧ Mod (C.foot F) w w' := by
 obtain ⟨A', v', F', a', ids', b', x', u, k1, k2, k3, k4, k5⟩ := k
 exact ⟨⟨A', v', F', a', ids', b', x', u, k1, k2, k3, h.chain k4, k5⟩, k4.mod⟩
theorem core_Delete {W0 : World} {E : Nat → Addr} {H : Nat → Nat} {C : CPl} {w0 : World} {G0 : List Nat} {w : World} {F : List Nat} {st : CSt} (h : CoreF W0 E H C w0 G0 w F st) (hi : CInv st.a st.ids []) (key : Nat) (h64 : H key < 18446744073709551616) (e0 : Ent) (he : e0 ∈ st.a.ents) (hk : e0.key = key) (hlen : 1 ≤ st.len ∧ st.len ≤ 192) : Calls Tryz.prog 11 #[coreP C.mb, .int .u64 (key : Int), .int .u64 (H key : Int)] w fun e w' => e = .returned (.tuple #[.int .u64 (e0.val : Int), .bool true]) ∧ ∃ id, WrPost W0 E H C w0 G0 st id [e0] [] (st.len - 1) w' := by
 have HRs := qd (core_Reset h)
 have hbd := h.bounds
 have HBd := qd hbd
 have HI := qd hi
 obtain ⟨N, hN, htp⟩ := hi.dir.at_ h64 hbd.1
 have HTp := qd htp
 obtain ⟨id, hid⟩ : ∃ id, id = st.a.l.getD (topOf (H key) st.a.d) 0 := ⟨_, rfl⟩
 rw [← hid] at hN
 have HN := qd hN
 have HId := qd hid
 clear h hi hbd hN hid htp
 unfold coreP
 go_in
 go_wp2_with fail
 refine HRs.out.mono ?_
 rintro y w1 ⟨rfl, h1⟩
 have HC := qd h1
 clear h1 HRs
 have HOf := qd (core_of HC.out (H key) id h64 HId.out.symm (get_lt HN.out))
 unfold coreP nodeP at HOf
 go_wp2_with fail
 refine HOf.out.mono ?_
 rintro y w2 ⟨rfl, hb⟩
 replace HC := qd (HC.out.below hb)
 clear hb HOf
 go_wp2_with fail
 refine (meter_Probing (some ⟨C.mb, 3, none⟩) w2).mono ?_
 rintro y w3 ⟨rfl, hb⟩
 replace HC := qd (HC.out.below hb)
 clear hb
 obtain ⟨Fi, n1, n2, n3, n4, n5, n6⟩ := HC.out.node HN.out
 have hNe : e0 ∈ N.ents := pool_node HI.out.dir HBd.out.1 HBd.out.2.2.2 HId.out.symm HN.out he hk
 have HFd := qd (nd_Delete key n1 n2 h64 HC.out.sch.met HC.out.sch.env HC.out.sch.mb0 n3 e0 hNe hk)
 have HX := qd n6
 have HCp := qd (fun (N1 : Nd) (hw : Wr H [e0] [] N N1) => wr_pre HI.out HN.out hw)
 clear n1 n2 n3 n4 n5 n6 hNe he hk
 unfold optE at HFd
 simp only [Option.getD_some, Option.isSome_some] at HFd
 unfold nodeP entV at HFd
 go_wp2_with fail
 refine HFd.out.mono ?_
 rintro y w4 ⟨rfl, x4, N1, q1, q2, q3, q4, q5⟩
 obtain ⟨F4, hC4⟩ := HX.out w4 Fi _ N1 x4 q1 q2.ok (fun q hq => .inl hq) q3 q5 (fun q hq => List.mem_cons.1 hq)
 have HC4 := qd hC4
 have HCo := qd q4
 have HWr := qd q2
 clear hC4 q1 q2 q3 q4 q5 HFd HX HC
 go_upto_region 4 with fail
 refine nameW (F := fun v => CoreF W0 E H C w0 G0 v F4 { st with a := { st.a with Ns := st.a.Ns.set id N1 }, x := x4 } ∧ Blk v w4.heap.size 37 #[.int .u64 (e0.key : Int), .int .u64 (e0.val : Int), .int .u64 (e0.hash : Int)]) ⟨HC4.out.below ((Below.refl w4.heap.size w4).alloc (Nat.le_refl _) (.cells #[.int .u64 (e0.key : Int), .int .u64 (e0.val : Int), .int .u64 (e0.hash : Int)] 37)), Blk.new w4 37 #[.int .u64 (e0.key : Int), .int .u64 (e0.val : Int), .int .u64 (e0.hash : Int)]⟩ ?_
 rintro w5 ⟨hC5, hB5⟩
 have HBox := qd (show w4.heap.size ∉ C.foot F4 from fun hq => by have := HC4.out.lts _ hq; omega)
 obtain ⟨bx, hbx⟩ : ∃ bx, bx = w4.heap.size := ⟨_, rfl⟩
 rw [← hbx] at HBox hB5 ⊢
 have HC5 := qd hC5
 have HB5 := qd hB5
 clear hC5 hB5 HC4 hbx
 obtain ⟨c0, c1, c11, c12, c13, c14, c15⟩ := HC5.out.cells
 have f15 := HC5.out.frozen 15
 obtain ⟨ln, hln⟩ : ∃ ln, ln = st.len - 1 := ⟨_, rfl⟩
 have hwr : IntKind.i64.wrap ((st.len : Int) - 1) = (ln : Int) := by rw [IntKind.wrap_i64] <;> omega
 have HLn := qd hln
 have hmbx : bx ≠ C.mb := fun e => HBox.out (mem_foot.2 (.inl e))
 have HC6 := qd (HC5.out.setLen ln)
 have HB6 := qd (HB5.out.far (p := ⟨C.mb, 15, none⟩) hmbx (.int .i64 (ln : Int)))
 clear hmbx hln
 go_upto_region 6 with fail
 refine nameW (F := fun v => CoreF W0 E H C w0 G0 v F4 { st with a := { st.a with Ns := st.a.Ns.set id N1 }, x := x4, len := ln } ∧ Blk v bx 37 #[.int .u64 (e0.key : Int), .int .u64 (e0.val : Int), .int .u64 (e0.hash : Int)]) ⟨HC6.out, HB6.out⟩ ?_
 rintro w6 ⟨hC6, hB6⟩
 clear c0 c1 c11 c12 c13 c14 c15 f15 HC5 HB5 HC6 HB6 hwr
 have HC6 := qd hC6
 have HB6 := qd hB6
 have HMt := qd (core_maintain HC6.out.again id N1 (by show (st.a.Ns.set id N1)[id]? = some N1; rw [set_get (get_lt HN.out), if_pos rfl]) (HCp.out N1 HWr.out))
 clear hC6 hB6 HCp
 unfold coreP nodeP at HMt
 go_wp2_with fail
 refine HMt.out.mono ?_
 rintro y w7 ⟨rfl, hmt⟩
 obtain ⟨hmt, hmd⟩ := hmt.chain HC6.out
 have HMp := qd hmt
 have hB7 := HB6.out.mod hmd HBox.out
 have r1 := hB7.cell 1
 simp only [gl] at r1
 clear hmt hmd HMt HC6 HB6 hB7
 go_wp2
 refine bodyPost_ret (v := .tuple #[.int .u64 (e0.val : Int), .bool true]) (by simp [results, Tryz.results11, go_sem]) rfl ⟨?_, id, ?_⟩
 ·rfl
 ·rw [← HLn.out]; exact ⟨N, N1, x4, HN.out, HWr.out, HCo.out, HMp.out⟩
theorem core_Delete_none {W0 : World} {E : Nat → Addr} {H : Nat → Nat} {C : CPl} {w0 : World} {G0 : List Nat} {w : World} {F : List Nat} {st : CSt} (h : CoreF W0 E H C w0 G0 w F st) (hi : CInv st.a st.ids []) (key : Nat) (h64 : H key < 18446744073709551616) (hk : ∀ e ∈ st.a.ents, e.key ≠ key) : Calls Tryz.prog 11 #[coreP C.mb, .int .u64 (key : Int), .int .u64 (H key : Int)] w fun e w' => e = .returned (.tuple #[.int .u64 0, .bool false]) ∧ ∃ id, WrPost W0 E H C w0 G0 st id [] [] st.len w' := by
 have HRs := qd (core_Reset h)
 have hbd := h.bounds
 have HBd := qd hbd
 have HI := qd hi
 obtain ⟨N, hN, htp⟩ := hi.dir.at_ h64 hbd.1
 have HTp := qd htp
 obtain ⟨id, hid⟩ : ∃ id, id = st.a.l.getD (topOf (H key) st.a.d) 0 := ⟨_, rfl⟩
 rw [← hid] at hN
 have HN := qd hN
 have HId := qd hid
 clear h hi hbd hN hid htp
 unfold coreP
 go_in
 go_wp2_with fail
 refine HRs.out.mono ?_
 rintro y w1 ⟨rfl, h1⟩
 have HC := qd h1
 clear h1 HRs
 have HOf := qd (core_of HC.out (H key) id h64 HId.out.symm (get_lt HN.out))
 unfold coreP nodeP at HOf
 go_wp2_with fail
 refine HOf.out.mono ?_
 rintro y w2 ⟨rfl, hb⟩
 replace HC := qd (HC.out.below hb)
 clear hb HOf
 go_wp2_with fail
 refine (meter_Probing (some ⟨C.mb, 3, none⟩) w2).mono ?_
 rintro y w3 ⟨rfl, hb⟩
 replace HC := qd (HC.out.below hb)
 clear hb
 obtain ⟨Fi, n1, n2, n3, n4, n5, n6⟩ := HC.out.node HN.out
 have hNe : ∀ e ∈ N.ents, e.key ≠ key := fun e he => hk e (mem_pool.2 ⟨id, N, HN.out, he⟩)
 have HFd := qd (nd_Delete_none key n1 n2 h64 HC.out.sch.met HC.out.sch.env HC.out.sch.mb0 n3 hNe)
 have HWr := qd (Wr.refl n2)
 have HCp := qd (fun (N1 : Nd) (hw : Wr H [] [] N N1) => wr_pre HI.out HN.out hw)
 have HX := qd n6
 have HAt := qd n1
 have HMb := qd n3
 obtain ⟨e0, he0⟩ : ∃ e0 : Ent, e0 = ⟨0, 0, 0⟩ := ⟨_, rfl⟩
 unfold optE at HFd
 simp only [Option.getD_none, Option.isSome_none] at HFd
 rw [← he0] at HFd
 have HE0 := qd he0
 clear n1 n3 n4 n5 n6 hNe hk he0
 unfold nodeP entV at HFd
 go_wp2_with fail
 refine HFd.out.mono ?_
 rintro y w4 ⟨rfl, x4, q3, q4, q5⟩
 obtain ⟨F4, hC4⟩ := HX.out w4 Fi _ N x4 (HAt.out.mod q5 (fun q hq hqS => by
  rw [List.mem_singleton.1 hqS] at hq
  exact HMb.out hq)) n2 (fun q hq => .inl hq) q3 q5 (fun q hq => .inl (List.mem_singleton.1 hq))
 have HC4 := qd hC4
 have HCo := qd q4
 clear hC4 q3 q4 q5 HFd HX HC HAt n2
 obtain ⟨N1, hN1⟩ : ∃ N1, N1 = N := ⟨_, rfl⟩
 rw [← hN1] at HC4
 have HWr2 := qd (show Wr H [] [] N N1 from by rw [hN1]; exact HWr.out)
 clear HWr hN1
 have HWr := HWr2
 clear HWr2
 go_upto_region 4 with fail
 refine nameW (F := fun v => CoreF W0 E H C w0 G0 v F4 { st with a := { st.a with Ns := st.a.Ns.set id N1 }, x := x4 } ∧ Blk v w4.heap.size 37 #[.int .u64 (e0.key : Int), .int .u64 (e0.val : Int), .int .u64 (e0.hash : Int)]) ⟨HC4.out.below ((Below.refl w4.heap.size w4).alloc (Nat.le_refl _) (.cells #[.int .u64 (e0.key : Int), .int .u64 (e0.val : Int), .int .u64 (e0.hash : Int)] 37)), Blk.new w4 37 #[.int .u64 (e0.key : Int), .int .u64 (e0.val : Int), .int .u64 (e0.hash : Int)]⟩ ?_
 rintro w5 ⟨hC5, hB5⟩
 have HBox := qd (show w4.heap.size ∉ C.foot F4 from fun hq => by have := HC4.out.lts _ hq; omega)
 obtain ⟨bx, hbx⟩ : ∃ bx, bx = w4.heap.size := ⟨_, rfl⟩
 rw [← hbx] at HBox hB5 ⊢
 have HC5 := qd hC5
 have HB5 := qd hB5
 clear hC5 hB5 HC4 hbx
 obtain ⟨ln, hln⟩ : ∃ ln, ln = st.len := ⟨_, rfl⟩
 have HLn := qd hln
 go_upto_region 6 with fail
 obtain ⟨w6, hw6⟩ : ∃ w6, w6 = w5 := ⟨_, rfl⟩
 rw [← hw6]
 have hC6 : CoreF W0 E H C w0 G0 w6 F4 { st with a := { st.a with Ns := st.a.Ns.set id N1 }, x := x4, len := ln } := by rw [hw6, hln]; exact HC5.out
 have hB6 := HB5.out
 rw [← hw6] at hB6
 clear HC5 HB5 hw6 hln
 have HC6 := qd hC6
 have HB6 := qd hB6
 have HMt := qd (core_maintain HC6.out.again id N1 (by show (st.a.Ns.set id N1)[id]? = some N1; rw [set_get (get_lt HN.out), if_pos rfl]) (HCp.out N1 HWr.out))
 clear hC6 hB6 HCp
 unfold coreP nodeP at HMt
 go_wp2_with fail
 refine HMt.out.mono ?_
 rintro y w7 ⟨rfl, hmt⟩
 obtain ⟨hmt, hmd⟩ := hmt.chain HC6.out
 have HMp := qd hmt
 have hB7 := HB6.out.mod hmd HBox.out
 have r1 := hB7.cell 1
 simp only [gl] at r1
 clear hmt hmd HMt HC6 HB6 hB7
 go_wp2
 refine bodyPost_ret (v := .tuple #[.int .u64 (e0.val : Int), .bool false]) (by simp [results, Tryz.results11, go_sem]) rfl ⟨?_, id, ?_⟩
 ·rw [HE0.out]; rfl
 ·rw [← HLn.out]; exact ⟨N, N1, x4, HN.out, HWr.out, HCo.out, HMp.out⟩
end
section
set_option maxRecDepth 100000
set_option maxHeartbeats 4000000
open Go.RowKit AmC
variable {w : World} {base j key m : Nat} {es : List Ent} {e : Ent}
def RefAt (w : World) (base mb M : Nat) (es : List Ent) : Prop := ∃ A c, Blk w mb 57 #[.slice A es.length c, .int .i64 (M : Int)] ∧ w.ownsRow base 37 3 (.slice A es.length c) es.length (es.flatMap entCells) ∧ (∀ g, (Value.slice A es.length c).ownBlock = some g → g ≠ mb) ∧ base ≤ mb
theorem ents_read {B : Option Addr} (hR : Reads w base 3 B m (es.flatMap entCells)) (hm : es.length = m) (hj : es[j]? = some e) : ∃ g off, B = some ⟨g, off, none⟩ ∧ g < base ∧ w.cell? ⟨g, off + j * 3, none⟩ = some (.int .u64 (e.key : Int)) ∧ w.cell? ⟨g, off + j * 3 + 1, none⟩ = some (.int .u64 (e.val : Int)) ∧ w.cell? ⟨g, off + j * 3 + 2, none⟩ = some (.int .u64 (e.hash : Int)) := by
 have hjl := get_lt hj
 obtain ⟨g, off, h1, h2, h3⟩ := hR.2 (by omega)
 have hat : ∀ q u, (entCells e)[q]? = some u → (es.flatMap entCells)[j * 3 + q]? = some u := fun q u hu => by
  have hq : q < 3 := by have := get_lt hu; simpa [entCells] using this
  obtain ⟨e1, _⟩ := list_at hj
  have e2 : es.flatMap entCells = (es.take j).flatMap entCells ++ (entCells e ++ (es.drop (j + 1)).flatMap entCells) := by
   have : es.flatMap entCells = (es.take j ++ e :: es.drop (j + 1)).flatMap entCells := by rw [← e1]
   rw [this]; simp
  have e3 : ((es.take j).flatMap entCells).length = j * 3 := by
   have : ∀ l : List Ent, (l.flatMap entCells).length = l.length * 3 := fun l => by
    induction l with
    | nil => rfl
    | cons x l ih => simp only [List.flatMap_cons, List.length_append, List.length_cons, ih]; simp [entCells]; omega
   rw [this, List.length_take]; omega
  rw [e2, List.getElem?_append_right (by omega), e3, Nat.add_sub_cancel_left, List.getElem?_append_left (by simpa [entCells] using hq)]
  exact hu
 exact ⟨g, off, h1, h2, h3 _ _ (hat 0 _ rfl), by rw [Nat.add_assoc]; exact h3 _ _ (hat 1 _ rfl), by rw [Nat.add_assoc]; exact h3 _ _ (hat 2 _ rfl)⟩
def FindPost (es : List Ent) (key : Nat) (y : Int) : Prop := (∃ (i : Nat) (e : Ent), es[i]? = some e ∧ e.key = key ∧ y = (i : Int) ∧ ∀ k, k < i → ∀ e', es[k]? = some e' → e'.key ≠ key) ∨ ((∀ e ∈ es, e.key ≠ key) ∧ y = -1)
theorem round_less (h : j < m) : m - (intOf (.int .i64 ((j : Int) + 1))).toNat < m - (intOf (.int .i64 (j : Int))).toNat := by
 show m - ((j : Int) + 1).toNat < m - (j : Int).toNat
 omega
theorem none_snoc (h : ∀ k, k < j → ∀ e', es[k]? = some e' → e'.key ≠ key) (hj : es[j]? = some e) (he : e.key ≠ key) : ∀ k, k < j + 1 → ∀ e', es[k]? = some e' → e'.key ≠ key := fun k hk e' h' => by
 rcases Nat.lt_or_ge k j with h1 | h1
 ·exact h k h1 e' h'
 ·obtain rfl : k = j := by omega
  rw [hj] at h'; cases h'; exact he
theorem none_all (h : ∀ k, k < j → ∀ e', es[k]? = some e' → e'.key ≠ key) (hj : j = es.length) : ∀ e ∈ es, e.key ≠ key := fun e he => by
 obtain ⟨i, hi⟩ := List.getElem?_of_mem he
 exact h i (by rw [hj]; exact get_lt hi) e hi
theorem ref_find (mb c M : Nat) (A : Option Addr) (es : List Ent) (key : Nat) (w : World) (hB : Blk w mb 57 #[.slice A es.length c, .int .i64 (M : Int)]) (hR : Reads w w.heap.size 3 A es.length (es.flatMap entCells)) (h9 : es.length ≤ 1000) :
  Calls Tryz.prog 53 #[.pointer (some ⟨mb, 0, none⟩), .int .u64 (key : Int)] w fun e w' => ∃ y, e = .returned (.int .i64 y) ∧ FindPost es key y ∧ Below w.heap.size w w' := by
 have c0 := hB.cell 0
 simp only [List.getElem?_toArray, List.getElem?_cons_zero] at c0
 obtain ⟨n, hn⟩ : ∃ n, n = es.length := ⟨_, rfl⟩
 rw [← hn] at c0 hR h9
 have HB := qd hB
 have HR := qd hR
 have HN := qd hn
 clear hB hR hn
 go_in
 go_wp2
 go_loopw [5, 6, 12] (fun _ _ v12 wr => ∃ j : Nat, j ≤ n ∧ v12 = .int .i64 (j : Int) ∧ Hid (∀ k, k < j → ∀ e', es[k]? = some e' → e'.key ≠ key) ∧ Hid (Below w.heap.size w wr)) (fun _ _ v12 _ => n - (intOf v12).toNat)
 case atStart => exact ⟨0, by omega, rfl, qd (fun k hk => absurd hk (by omega)), qd (Below.refl _ _)⟩
 case round =>
  obtain ⟨j, hj, rfl, HNo, HW⟩ := hrel
  by_cases hlt : j < n
  ·have hlt' : (j : Int) < (n : Int) := by omega
   have hj0 : (0 : Int) ≤ (j : Int) := by omega
   obtain ⟨e, he⟩ : ∃ e, es[j]? = some e := ⟨_, List.getElem?_eq_getElem (by have := HN.out; omega)⟩
   obtain ⟨g, off, hA, hg, m0, m1, m2⟩ := ents_read HR.out HN.out.symm he
   have r0 := (World.cell?_of_block (HW.out.block g hg)).trans m0
   have r1 := (World.cell?_of_block (HW.out.block g hg)).trans m1
   have r2 := (World.cell?_of_block (HW.out.block g hg)).trans m2
   have HE := qd he
   subst hA
   clear m0 m1 m2 he c0
   go_upto_region 4 with fail
   refine nameB 37 #[.int .u64 (e.key : Int), .int .u64 (e.val : Int), .int .u64 (e.hash : Int)] ?_
   rintro w5 ⟨hB5, hb5⟩
   obtain ⟨bx, hbx⟩ : ∃ bx, bx = wr.heap.size := ⟨_, rfl⟩
   rw [← hbx] at hB5 ⊢
   have a0 := hB5.cell 0
   simp only [List.getElem?_toArray, List.getElem?_cons_zero] at a0
   have HW5 := qd (below2 HW.out hb5)
   clear hB5 hb5 r0 r1 r2 hbx
   have HJ := qd (Nat.succ_le_of_lt hlt)
   have HMe := qd (round_less hlt)
   by_cases hk : e.key = key
   ·have hk' : (e.key : Int) = (key : Int) := by omega
    go_wp2
    go_ret
    exact ⟨_, rfl, .inl ⟨j, e, HE.out, hk, rfl, HNo.out⟩, HW5.out⟩
   ·have hk' : ¬ (e.key : Int) = (key : Int) := by omega
    have HNs := qd (none_snoc HNo.out HE.out hk)
    go_wp2
    go_roundw
    all_goals first | exact ⟨⟨j + 1, HJ.out, rfl, HNs, HW5⟩, HMe.out⟩ | exact ⟨j + 1, HJ.out, rfl, HNs, HW5⟩ | exact HMe.out
  ·obtain rfl : j = n := by omega
   have hlt' : ¬ (j : Int) < (j : Int) := by omega
   have HAll := qd (none_all HNo.out HN.out)
   go_wp2
   go_ret
   exact ⟨_, rfl, .inr ⟨HAll.out, rfl⟩, HW.out⟩
theorem ref_Get_some (mb c M : Nat) (A : Option Addr) (es : List Ent) (key : Nat) (w : World) (hB : Blk w mb 57 #[.slice A es.length c, .int .i64 (M : Int)]) (hR : Reads w w.heap.size 3 A es.length (es.flatMap entCells)) (h9 : es.length ≤ 1000) (hnd : (es.map Ent.key).Nodup) (e0 : Ent) (h0 : e0 ∈ es) (hk0 : e0.key = key) :
  Calls Tryz.prog 25 #[.pointer (some ⟨mb, 0, none⟩), .int .u64 (key : Int)] w fun e w' => e = .returned (.tuple #[.int .u64 (((look es key).getD ⟨0, 0, 0⟩).val : Int), .bool (look es key).isSome]) ∧ Below w.heap.size w w' := by
 have HF := qd (ref_find mb c M A es key w hB hR h9)
 have HR := qd hR
 have HB := qd hB
 clear hB hR
 go_in
 go_wp2_with fail
 refine HF.out.mono ?_
 rintro x w1 ⟨y, rfl, hfp, hb⟩
 replace HB := qB hb HB
 replace HR := qd (HR.out.below hb)
 have HW := qd hb
 clear HF
 obtain ⟨i, e, hi, hk, rfl, _⟩ : ∃ (i : Nat) (e : Ent), es[i]? = some e ∧ e.key = key ∧ y = (i : Int) ∧ True := by
  rcases hfp with ⟨i, e, h1, h2, h3, _⟩ | ⟨h1, _⟩
  ·exact ⟨i, e, h1, h2, h3, trivial⟩
  ·exact absurd hk0 (h1 e0 h0)
 have HLk := qd (show look es key = some e from by rw [← hk]; exact look_some hnd (List.mem_of_getElem? hi))
 obtain ⟨g, off, rfl, hg, m0, m1, m2⟩ := ents_read HR.out rfl hi
 have hil : (i : Int) < (es.length : Int) := by have := get_lt hi; omega
 have hi0 : (0 : Int) ≤ (i : Int) := by omega
 have hi1 : ¬ (i : Int) < 0 := by omega
 generalize es.length = n at *
 have c0 := HB.out.cell 0
 simp only [List.getElem?_toArray, List.getElem?_cons_zero] at c0
 clear hfp hb hi hk h0 hk0 hnd
 go_wp2
 refine bodyPost_ret (v := .tuple #[.int .u64 (e.val : Int), .bool true]) (by simp [results, Tryz.results25, go_sem]) rfl ⟨?_, HW.out⟩
 rw [HLk.out]; rfl
theorem ref_Get_none (mb c M : Nat) (A : Option Addr) (es : List Ent) (key : Nat) (w : World) (hB : Blk w mb 57 #[.slice A es.length c, .int .i64 (M : Int)]) (hR : Reads w w.heap.size 3 A es.length (es.flatMap entCells)) (h9 : es.length ≤ 1000) (hk : ∀ e ∈ es, e.key ≠ key) :
  Calls Tryz.prog 25 #[.pointer (some ⟨mb, 0, none⟩), .int .u64 (key : Int)] w fun e w' => e = .returned (.tuple #[.int .u64 (((look es key).getD ⟨0, 0, 0⟩).val : Int), .bool (look es key).isSome]) ∧ Below w.heap.size w w' := by
 have HF := qd (ref_find mb c M A es key w hB hR h9)
 have HR := qd hR
 have HB := qd hB
 clear hB hR
 go_in
 go_wp2_with fail
 refine HF.out.mono ?_
 rintro x w1 ⟨y, rfl, hfp, hb⟩
 replace HB := qB hb HB
 replace HR := qd (HR.out.below hb)
 have HW := qd hb
 clear HF
 obtain ⟨hno, rfl⟩ : (∀ e ∈ es, e.key ≠ key) ∧ y = -1 := by
  rcases hfp with ⟨i, e, h1, h2, _⟩ | h1
  ·exact absurd h2 (hk e (List.mem_of_getElem? h1))
  ·exact h1
 have HLk := qd (look_none hk)
 clear hfp hb hno hk
 go_wp2
 refine bodyPost_ret (v := .tuple #[.int .u64 0, .bool false]) (by simp [results, Tryz.results25, go_sem]) rfl ⟨?_, HW.out⟩
 rw [HLk.out]; rfl
theorem ref_Get {mb M : Nat} (h : RefAt w base mb M es) (hnd : (es.map Ent.key).Nodup) (h9 : es.length ≤ 1000) (key : Nat) :
  Calls Tryz.prog 25 #[.pointer (some ⟨mb, 0, none⟩), .int .u64 (key : Int)] w fun e w' => e = .returned (.tuple #[.int .u64 (((look es key).getD ⟨0, 0, 0⟩).val : Int), .bool (look es key).isSome]) ∧ Below w.heap.size w w' := by
 obtain ⟨A, c, h1, h2, _⟩ := h
 by_cases hx : ∃ e ∈ es, e.key = key
 ·obtain ⟨e0, h0, hk0⟩ := hx
  exact ref_Get_some mb c M A es key w h1 (Reads.of_own h2) h9 hnd e0 h0 hk0
 ·exact ref_Get_none mb c M A es key w h1 (Reads.of_own h2) h9 (fun e he hk => hx ⟨e, he, hk⟩)
end
end Go.Proofs.YtcgjgfgkdoohlaaGreatDoor
