/- A core's Get, Put, Delete by their contracts. -/
import Derived.Test.YtfojgfddgplinabGreatDoorCoCN
import Derived.Test.YtfojgfddgplinabGreatDoorSqT
import Derived.Test.YtfojgfddgplinabGreatDoorLaneP
namespace Go.Proofs.YtfojgfddgplinabGreatDoor
set_option maxRecDepth 100000
set_option maxHeartbeats 4000000
open Go.RowKit dG
section
variable {a : Pool} {e : av} {id key : Nat} {N : Nd}
theorem P9 {H : Nat → Nat} (hd : eG a) (h5 : a.d ≤ 5) (ho : ∀ (i : Nat) (N : Nd), a.Ns[i]? = some N → dO H N) : (a.ents.map av.key).Nodup := by
 unfold Pool.ents
 rw [List.map_flatMap]
 unfold List.Nodup
 rw [List.pairwise_flatMap]
 refine ⟨fun N hN => ?_, ?_⟩
 ·obtain ⟨i, hi⟩ := List.getElem?_of_mem hN
  exact (ho i N hi).keys
 ·rw [List.pairwise_iff_getElem]
  intro i j hi hj hij x hx y hy hxy
  obtain ⟨e, he, rfl⟩ := List.mem_map.1 hx
  obtain ⟨e', he', rfl⟩ := List.mem_map.1 hy
  have g1 : a.Ns[i]? = some a.Ns[i] := List.getElem?_eq_getElem hi
  have g2 : a.Ns[j]? = some a.Ns[j] := List.getElem?_eq_getElem hj
  obtain ⟨k1, k2⟩ := (ho _ _ g1).hash e he
  obtain ⟨k3, k4⟩ := (ho _ _ g2).hash e' he'
  have hh : e.hash = e'.hash := by rw [k1.hash, k3.hash, hxy]
  have a1 := hd.LM k1.h64 h5 g1 k2
  have a2 := hd.LM k3.h64 h5 g2 k4
  rw [hh, a2] at a1
  omega
theorem mQ : e ∈ a.ents ↔ ∃ (i : Nat) (N : Nd), a.Ns[i]? = some N ∧ e ∈ N.ents := by
 unfold Pool.ents
 rw [List.mem_flatMap]
 constructor
 ·rintro ⟨N, h1, h2⟩
  obtain ⟨i, hi⟩ := List.getElem?_of_mem h1
  exact ⟨i, N, hi, h2⟩
 ·rintro ⟨i, N, h1, h2⟩
  exact ⟨N, List.mem_of_getElem? h1, h2⟩
theorem Cc {H : Nat → Nat} (hd : eG a) (h5 : a.d ≤ 5) (ho : ∀ (i : Nat) (N : Nd), a.Ns[i]? = some N → dO H N) (hid : a.l.getD (dP (H key) a.d) 0 = id) (hN : a.Ns[id]? = some N) (he : e ∈ a.ents) (hk : e.key = key) : e ∈ N.ents := by
 obtain ⟨j, M, h1, h2⟩ := mQ.1 he
 obtain ⟨k1, k2⟩ := (ho j M h1).hash e h2
 have := hd.LM k1.h64 h5 h1 k2
 rw [k1.hash, hk, hid] at this
 subst this
 rw [hN] at h1; cases h1
 exact h2
theorem Ce {H : Nat → Nat} {ids : List Nat} {N1 : Nd} {del add : List av} (h : iM a ids []) (hN : a.Ns[id]? = some N) (hw : Wr H del add N N1) : P8 { a with Ns := a.Ns.set id N1 } ids id := by
 have hid := aX hN
 have hget := jT (N' := N1) hid
 have hL := hw.like
 refine ⟨h.dir.alike hN hL.pfx hL.au (fun hb hk => h.dir.split id N hN (by rw [← hL.busy]; exact hb) (by rw [← hL.kind]; exact hk)), fun j => ?_, h.nd, fun j hj => ?_, fun i X hX hi => ?_⟩
 ·have := h.fU j
  simp only [List.not_mem_nil, or_false] at this
  rw [← this]
  unfold Pool.can
  simp only
  rw [hget]
  by_cases hj : j = id
  ·subst hj; rw [if_pos rfl, hN]; simp [hL.busy]
  ·rw [if_neg hj]
 ·have := h.some_ j hj
  unfold Pool.left at this ⊢
  simp only
  rw [hget]
  by_cases hj2 : j = id
  ·subst hj2; rw [if_pos rfl]; rw [hN] at this; show 1 ≤ N1.left; rw [hw.left]; exact this
  ·rw [if_neg hj2]; exact this
 ·have gW : (a.Ns.set id N1)[i]? = some X := hX
  rw [hget, if_neg hi] at gW
  exact h.sl i X gW (by simp)
def wO (W0 : World) (E : Nat → Addr) (H : Nat → Nat) (C : eB) (w0 : World) (G0 : List Nat) (st : lH) (id : Nat) (del add : List av) (len' : Nat) (w' : World) : Prop :=
 ∃ (N N1 : Nd) (x1 : bI), st.a.Ns[id]? = some N ∧ Wr H del add N N1 ∧ dJ ⟨st.x.all, ⟨0, 0, 0⟩⟩ x1 128 0 ∧ rJ W0 E H C w0 G0 { st with a := { st.a with Ns := st.a.Ns.set id N1 }, len := len', x := x1 } id w'
section
variable {W0 : World} {E : Nat → Addr} {H : Nat → Nat} {C : eB} {w0 : World} {G0 : List Nat} {w w' : World} {F : List Nat} {st : lH}
theorem mU (h : aA W0 E H C w0 G0 w F st) : Calls Tryz.prog 43 #[.pointer (some ⟨C.mb, 3, none⟩)] w fun e w' => e = .returned undef ∧ aA W0 E H C w0 G0 w' F { st with x := ⟨st.x.all, ⟨0, 0, 0⟩⟩ } :=
 (Da C.mb _ _ _ 3 st.x.all st.x.last C.m w h.aB.met).mono fun e w' ⟨h1, h2, h3⟩ => ⟨h1, h.met h2 h3⟩
theorem Wr.refl (h : dO H N) : Wr H [] [] N N := ⟨Like.refl N, rfl, ⟨N.ents, by simp, by simp⟩, h, fun _ => rfl, fun _ => Nat.le_add_right _ _⟩
end
theorem rJ.chain {W0 : World} {E : Nat → Addr} {H : Nat → Nat} {C : eB} {w0 : World} {G0 : List Nat} {w w' : World} {F : List Nat} {st : lH} (h : aA W0 E H C w0 G0 w F st) (k : rJ W0 E H C w (C.foot F) st id w') : rJ W0 E H C w0 G0 st id w' ∧ Mod (C.foot F) w w' := by
 obtain ⟨A', v', F', a', aI, b', x', u, k1, k2, k3, k4, k5⟩ := k
 exact ⟨⟨A', v', F', a', aI, b', x', u, k1, k2, k3, h.chain k4, k5⟩, k4.mod⟩
theorem Ng {W0 : World} {E : Nat → Addr} {H : Nat → Nat} {C : eB} {w0 : World} {G0 : List Nat} {w : World} {F : List Nat} {st : lH} (h : aA W0 E H C w0 G0 w F st) (hi : iM st.a st.ids []) (key : Nat) (h64 : H key < 18446744073709551616) (e0 : av) (he : e0 ∈ st.a.ents) (hk : e0.key = key) (hlen : 1 ≤ st.len ∧ st.len ≤ 192) : Calls Tryz.prog 27 #[aZ C.mb, .int .u64 (key : Int), .int .u64 (H key : Int)] w fun e w' => e = .returned (.tuple #[.int .u64 (e0.val : Int), .bool true]) ∧ ∃ id, wO W0 E H C w0 G0 st id [e0] [] (st.len - 1) w' := by
 have jA := qd (mU h)
 have hbd := h.bounds
 have oK := qd hbd
 have HI := qd hi
 obtain ⟨N, hN, htp⟩ := hi.dir.at_ h64 hbd.1
 have Aq := qd htp
 obtain ⟨id, hid⟩ : ∃ id, id = st.a.l.getD (dP (H key) st.a.d) 0 := ⟨_, rfl⟩
 rw [← hid] at hN
 have HN := qd hN
 have lX := qd hid
 clear h hi hbd hN hid htp
 unfold aZ
 go_in
 go_wp2_with fail
 refine jA.out.mono ?_
 rintro y w1 ⟨rfl, h1⟩
 have HC := qd h1
 clear h1 jA
 have lY := qd (sI HC.out (H key) id h64 lX.out.symm (aX HN.out))
 unfold aZ aN at lY
 go_wp2_with fail
 refine lY.out.mono ?_
 rintro y w2 ⟨rfl, hb⟩
 replace HC := qd (HC.out.below hb)
 clear hb lY
 go_wp2_with fail
 refine (jF (some ⟨C.mb, 3, none⟩) w2).mono ?_
 rintro y w3 ⟨rfl, hb⟩
 replace HC := qd (HC.out.below hb)
 clear hb
 obtain ⟨Fi, n1, n2, n3, n4, n5, n6⟩ := HC.out.node HN.out
 have hNe : e0 ∈ N.ents := Cc HI.out.dir oK.out.1 oK.out.2.2.2 lX.out.symm HN.out he hk
 have gB := qd (RY key n1 n2 h64 HC.out.aB.met HC.out.aB.env HC.out.aB.rF n3 e0 hNe hk)
 have HX := qd n6
 have jX := qd (fun (N1 : Nd) (hw : Wr H [e0] [] N N1) => Ce HI.out HN.out hw)
 clear n1 n2 n3 n4 n5 n6 hNe he hk
 unfold gI at gB
 simp only [Option.getD_some, Option.isSome_some] at gB
 unfold aN aM at gB
 go_wp2_with fail
 refine gB.out.mono ?_
 rintro y w4 ⟨rfl, x4, N1, q1, q2, q3, q4, q5⟩
 obtain ⟨F4, xM⟩ := HX.out w4 Fi _ N1 x4 q1 q2.ok (fun q hq => .inl hq) q3 q5 (fun q hq => List.mem_cons.1 hq)
 have fE := qd xM
 have iB := qd q4
 have kT := qd q2
 clear xM q1 q2 q3 q4 q5 gB HX HC
 go_upto_region 4 with fail
 refine cZ (F := fun v => aA W0 E H C w0 G0 v F4 { st with a := { st.a with Ns := st.a.Ns.set id N1 }, x := x4 } ∧ aj v w4.heap.size 37 #[.int .u64 (e0.key : Int), .int .u64 (e0.val : Int), .int .u64 (e0.hash : Int)]) ⟨fE.out.below ((Below.refl w4.heap.size w4).alloc (Nat.le_refl _) (.cells #[.int .u64 (e0.key : Int), .int .u64 (e0.val : Int), .int .u64 (e0.hash : Int)] 37)), aj.new w4 37 #[.int .u64 (e0.key : Int), .int .u64 (e0.val : Int), .int .u64 (e0.hash : Int)]⟩ ?_
 rintro w5 ⟨BR, Ay⟩
 have GH := qd (show w4.heap.size ∉ C.foot F4 from fun hq => by have := fE.out.fQ _ hq; omega)
 obtain ⟨bx, hbx⟩ : ∃ bx, bx = w4.heap.size := ⟨_, rfl⟩
 rw [← hbx] at GH Ay ⊢
 have zf := qd BR
 have nk := qd Ay
 clear BR Ay fE hbx
 obtain ⟨c0, c1, c11, c12, c13, c14, c15⟩ := zf.out.cells
 have f15 := zf.out.frozen 15
 obtain ⟨ln, hln⟩ : ∃ ln, ln = st.len - 1 := ⟨_, rfl⟩
 have hwr : IntKind.i64.wrap ((st.len : Int) - 1) = (ln : Int) := by rw [IntKind.wrap_i64] <;> omega
 have rC := qd hln
 have Z4 : bx ≠ C.mb := fun e => GH.out (aW.2 (.inl e))
 have kR := qd (zf.out.Sc ln)
 have DF := qd (nk.out.far (p := ⟨C.mb, 15, none⟩) Z4 (.int .i64 (ln : Int)))
 clear Z4 hln
 go_upto_region 6 with fail
 refine cZ (F := fun v => aA W0 E H C w0 G0 v F4 { st with a := { st.a with Ns := st.a.Ns.set id N1 }, x := x4, len := ln } ∧ aj v bx 37 #[.int .u64 (e0.key : Int), .int .u64 (e0.val : Int), .int .u64 (e0.hash : Int)]) ⟨kR.out, DF.out⟩ ?_
 rintro w6 ⟨uq, qG⟩
 clear c0 c1 c11 c12 c13 c14 c15 f15 zf nk kR DF hwr
 have kR := qd uq
 have DF := qd qG
 have l9 := qd (ni kR.out.again id N1 (by show (st.a.Ns.set id N1)[id]? = some N1; rw [jT (aX HN.out), if_pos rfl]) (jX.out N1 kT.out))
 clear uq qG jX
 unfold aZ aN at l9
 go_wp2_with fail
 refine l9.out.mono ?_
 rintro y w7 ⟨rfl, hmt⟩
 obtain ⟨hmt, hmd⟩ := hmt.chain kR.out
 have mE := qd hmt
 have r9 := DF.out.mod hmd GH.out
 have r1 := r9.cell 1
 simp only [gl] at r1
 clear hmt hmd l9 kR DF r9
 go_wp2
 refine bodyPost_ret (v := .tuple #[.int .u64 (e0.val : Int), .bool true]) (by simp [results, Tryz.results27, go_sem]) rfl ⟨?_, id, ?_⟩
 ·rfl
 ·rw [← rC.out]; exact ⟨N, N1, x4, HN.out, kT.out, iB.out, mE.out⟩
theorem Es {W0 : World} {E : Nat → Addr} {H : Nat → Nat} {C : eB} {w0 : World} {G0 : List Nat} {w : World} {F : List Nat} {st : lH} (h : aA W0 E H C w0 G0 w F st) (hi : iM st.a st.ids []) (key : Nat) (h64 : H key < 18446744073709551616) (hk : ∀ e ∈ st.a.ents, e.key ≠ key) : Calls Tryz.prog 27 #[aZ C.mb, .int .u64 (key : Int), .int .u64 (H key : Int)] w fun e w' => e = .returned (.tuple #[.int .u64 0, .bool false]) ∧ ∃ id, wO W0 E H C w0 G0 st id [] [] st.len w' := by
 have jA := qd (mU h)
 have hbd := h.bounds
 have oK := qd hbd
 have HI := qd hi
 obtain ⟨N, hN, htp⟩ := hi.dir.at_ h64 hbd.1
 have Aq := qd htp
 obtain ⟨id, hid⟩ : ∃ id, id = st.a.l.getD (dP (H key) st.a.d) 0 := ⟨_, rfl⟩
 rw [← hid] at hN
 have HN := qd hN
 have lX := qd hid
 clear h hi hbd hN hid htp
 unfold aZ
 go_in
 go_wp2_with fail
 refine jA.out.mono ?_
 rintro y w1 ⟨rfl, h1⟩
 have HC := qd h1
 clear h1 jA
 have lY := qd (sI HC.out (H key) id h64 lX.out.symm (aX HN.out))
 unfold aZ aN at lY
 go_wp2_with fail
 refine lY.out.mono ?_
 rintro y w2 ⟨rfl, hb⟩
 replace HC := qd (HC.out.below hb)
 clear hb lY
 go_wp2_with fail
 refine (jF (some ⟨C.mb, 3, none⟩) w2).mono ?_
 rintro y w3 ⟨rfl, hb⟩
 replace HC := qd (HC.out.below hb)
 clear hb
 obtain ⟨Fi, n1, n2, n3, n4, n5, n6⟩ := HC.out.node HN.out
 have hNe : ∀ e ∈ N.ents, e.key ≠ key := fun e he => hk e (mQ.2 ⟨id, N, HN.out, he⟩)
 have gB := qd (Gv key n1 n2 h64 HC.out.aB.met HC.out.aB.env HC.out.aB.rF n3 hNe)
 have kT := qd (Wr.refl n2)
 have jX := qd (fun (N1 : Nd) (hw : Wr H [] [] N N1) => Ce HI.out HN.out hw)
 have HX := qd n6
 have kr := qd n1
 have Od := qd n3
 obtain ⟨e0, he0⟩ : ∃ e0 : av, e0 = ⟨0, 0, 0⟩ := ⟨_, rfl⟩
 unfold gI at gB
 simp only [Option.getD_none, Option.isSome_none] at gB
 rw [← he0] at gB
 have Sm := qd he0
 clear n1 n3 n4 n5 n6 hNe hk he0
 unfold aN aM at gB
 go_wp2_with fail
 refine gB.out.mono ?_
 rintro y w4 ⟨rfl, x4, q3, q4, q5⟩
 obtain ⟨F4, xM⟩ := HX.out w4 Fi _ N x4 (kr.out.mod q5 (fun q hq dI => by
  rw [List.mem_singleton.1 dI] at hq
  exact Od.out hq)) n2 (fun q hq => .inl hq) q3 q5 (fun q hq => .inl (List.mem_singleton.1 hq))
 have fE := qd xM
 have iB := qd q4
 clear xM q3 q4 q5 gB HX HC kr n2
 obtain ⟨N1, hN1⟩ : ∃ N1, N1 = N := ⟨_, rfl⟩
 rw [← hN1] at fE
 have Z5 := qd (show Wr H [] [] N N1 from by rw [hN1]; exact kT.out)
 clear kT hN1
 have kT := Z5
 clear Z5
 go_upto_region 4 with fail
 refine cZ (F := fun v => aA W0 E H C w0 G0 v F4 { st with a := { st.a with Ns := st.a.Ns.set id N1 }, x := x4 } ∧ aj v w4.heap.size 37 #[.int .u64 (e0.key : Int), .int .u64 (e0.val : Int), .int .u64 (e0.hash : Int)]) ⟨fE.out.below ((Below.refl w4.heap.size w4).alloc (Nat.le_refl _) (.cells #[.int .u64 (e0.key : Int), .int .u64 (e0.val : Int), .int .u64 (e0.hash : Int)] 37)), aj.new w4 37 #[.int .u64 (e0.key : Int), .int .u64 (e0.val : Int), .int .u64 (e0.hash : Int)]⟩ ?_
 rintro w5 ⟨BR, Ay⟩
 have GH := qd (show w4.heap.size ∉ C.foot F4 from fun hq => by have := fE.out.fQ _ hq; omega)
 obtain ⟨bx, hbx⟩ : ∃ bx, bx = w4.heap.size := ⟨_, rfl⟩
 rw [← hbx] at GH Ay ⊢
 have zf := qd BR
 have nk := qd Ay
 clear BR Ay fE hbx
 obtain ⟨ln, hln⟩ : ∃ ln, ln = st.len := ⟨_, rfl⟩
 have rC := qd hln
 go_upto_region 6 with fail
 obtain ⟨w6, iO⟩ : ∃ w6, w6 = w5 := ⟨_, rfl⟩
 rw [← iO]
 have uq : aA W0 E H C w0 G0 w6 F4 { st with a := { st.a with Ns := st.a.Ns.set id N1 }, x := x4, len := ln } := by rw [iO, hln]; exact zf.out
 have qG := nk.out
 rw [← iO] at qG
 clear zf nk iO hln
 have kR := qd uq
 have DF := qd qG
 have l9 := qd (ni kR.out.again id N1 (by show (st.a.Ns.set id N1)[id]? = some N1; rw [jT (aX HN.out), if_pos rfl]) (jX.out N1 kT.out))
 clear uq qG jX
 unfold aZ aN at l9
 go_wp2_with fail
 refine l9.out.mono ?_
 rintro y w7 ⟨rfl, hmt⟩
 obtain ⟨hmt, hmd⟩ := hmt.chain kR.out
 have mE := qd hmt
 have r9 := DF.out.mod hmd GH.out
 have r1 := r9.cell 1
 simp only [gl] at r1
 clear hmt hmd l9 kR DF r9
 go_wp2
 refine bodyPost_ret (v := .tuple #[.int .u64 (e0.val : Int), .bool false]) (by simp [results, Tryz.results27, go_sem]) rfl ⟨?_, id, ?_⟩
 ·rw [Sm.out]; rfl
 ·rw [← rC.out]; exact ⟨N, N1, x4, HN.out, kT.out, iB.out, mE.out⟩
end
section
variable {W0 w w0 : World} {E : Nat → Addr} {H : Nat → Nat} {C : eB} {F G0 : List Nat} {st : lH}
theorem aA.aside {w' : World} {b : Nat} (hC : aA W0 E H C w0 G0 w F st) (hm : Mod [b] w w') (hb : b ∉ C.foot F) (h0 : w0.heap.size ≤ b) : aA W0 E H C w0 G0 w' F st := by
 rw [aW] at hb
 simp only [not_or] at hb
 have hd : ∀ q ∈ [b], q ≠ C.mb ∧ q ∉ C.s.blocks ∧ q ∉ F ∧ C.v.ownBlock ≠ some q := fun q hq => by rw [List.mem_singleton.1 hq]; exact hb
 have hW := hC.o9
 refine ⟨bB.start (hC.aB.aB.mod hm (fun q hq dI => (hd q dI).2.1 hq)) (hC.hp.yg hC.aB.pool hm (fun q hq dI => (hd q dI).2.2.1 hq)) (hC.aB.met.mod hm (fun hq => (hd _ hq).1 rfl)) (hC.aB.env.mod hm (fun q hq => by rw [List.mem_singleton.1 hq]; omega)) hC.aB.apart hC.aB.rF, fH hC.row hm (fun k hk FT => (hd k FT).2.2.2 hk), hC.za, hC.pos, hC.kk, hC.mm, hC.o9, hC.sub, hC.mod.trans hm (fun _ hh _ => hh) (fun k hk hl => ?_)⟩
 rw [List.mem_singleton.1 hk] at hl
 omega
def Sn (W0 : World) (E : Nat → Addr) (H : Nat → Nat) (C : eB) (w0 : World) (G0 : List Nat) (F : List Nat) (st : lH) (key hash : Nat) (v : Value) (w' : World) : Prop :=
 ∃ (id : Nat) (N : Nd) (o : Option av) (x' : bI), st.a.Ns[id]? = some N ∧ id = st.a.l.getD (dP hash st.a.d) 0 ∧ eT ⟨key, 0, hash⟩ N.ents o ∧ v = .tuple #[aM (o.getD ⟨0, 0, 0⟩), .bool o.isSome, .int .u64 ((kI N.pfx N.au : Nat) : Int)] ∧ aA W0 E H C w0 G0 w' F { st with x := x' } ∧ dJ ⟨st.x.all, ⟨0, 0, 0⟩⟩ x' 192 0
theorem Qa (h : aA W0 E H C w0 G0 w F st) (hi : iM st.a st.ids []) (key hash : Nat) (h64 : hash < 18446744073709551616) : Calls Tryz.prog 58 #[aZ C.mb, .int .u64 (hash : Int), .int .u64 (key : Int)] w fun e w' => ∃ v, e = .returned v ∧ Sn W0 E H C w0 G0 F st key hash v w' := by
 have hbd := h.bounds
 have oK := qd hbd
 obtain ⟨N, hN, htp⟩ := hi.dir.at_ h64 hbd.1
 obtain ⟨id, hid⟩ : ∃ id, id = st.a.l.getD (dP hash st.a.d) 0 := ⟨_, rfl⟩
 rw [← hid] at hN
 have HN := qd hN
 have lX := qd hid
 have HC := qd (h.below ((Below.refl w.heap.size w).alloc (Nat.le_refl _) (.cells #[.int .u64 0, .int .u64 0, .int .u64 0] 37)))
 have lZ := qd (aj.new w 37 #[.int .u64 0, .int .u64 0, .int .u64 0])
 have RH := qd (show w0.heap.size ≤ w.heap.size from h.mod.size)
 have L8 := qd (show w.heap.size ∉ C.foot F from fun hq => by have := h.fQ _ hq; omega)
 clear h hi hbd hN hid htp
 unfold aZ
 go_in
 go_upto_region 1 with fail
 refine cZ (F := fun v => aA W0 E H C w0 G0 v F st ∧ aj v w.heap.size 37 #[.int .u64 0, .int .u64 0, .int .u64 0]) ⟨HC.out, lZ.out⟩ ?_
 clear HC lZ
 rintro w1 ⟨hC, hB⟩
 obtain ⟨bx, hbx⟩ : ∃ bx, bx = w.heap.size := ⟨_, rfl⟩
 rw [← hbx] at L8 RH hB ⊢
 have hne : bx ≠ C.mb := fun e => L8.out (aW.2 (.inl e))
 have gN := qd hne
 have HC := qd hC
 have lZ := qd hB
 have jA := qd (mU hC.again)
 clear hC hB hbx hne
 go_wp2_with fail
 refine jA.out.mono ?_
 rintro y w2 ⟨rfl, h2⟩
 replace lZ := qd (lZ.out.mod h2.mod L8.out)
 replace HC := qd (HC.out.chain h2)
 clear h2 jA
 have lY := qd (sI HC.out hash id h64 lX.out.symm (aX HN.out))
 unfold aZ aN at lY
 go_wp2_with fail
 refine lY.out.mono ?_
 rintro y w3 ⟨rfl, hb⟩
 replace HC := qd (HC.out.below hb)
 replace lZ := qB hb lZ
 clear hb lY
 go_wp2_with fail
 refine (jF (some ⟨C.mb, 3, none⟩) w3).mono ?_
 rintro y w4 ⟨rfl, hb⟩
 replace HC := qd (HC.out.below hb)
 replace lZ := qB hb lZ
 clear hb
 obtain ⟨Fi, n1, n2, n3, n4, n5, n6⟩ := HC.out.node HN.out
 have lS := qd (Vm key hash n1 n2 HC.out.aB.met HC.out.aB.env HC.out.aB.rF n3)
 have Ih := qd (show N.pfx < 2 ^ N.au ∧ N.au ≤ 16 from ⟨n2.pfx, by have := n2.deep; omega⟩)
 clear n1 n2 n3 n4 n5 n6
 unfold aN at lS
 unfold gI aM at lS
 go_wp2_with fail
 refine lS.out.mono ?_
 rintro y w5 ⟨o, x5, rfl, ho, q3, q4, q5⟩
 have HO := qd ho
 have iB := qd q4
 replace HC := qd (HC.out.met q3 q5)
 replace lZ := qd (lZ.out.mod q5 (fun hq => gN.out (List.mem_singleton.1 hq)))
 clear ho q3 q4 q5 lS
 obtain ⟨e0, he0⟩ : ∃ e0 : av, e0 = o.getD ⟨0, 0, 0⟩ := ⟨_, rfl⟩
 obtain ⟨bs, hbs⟩ : ∃ bs, bs = o.isSome := ⟨_, rfl⟩
 rw [← he0, ← hbs]
 have Sm := qd he0
 have HB0 := qd hbs
 clear he0 hbs
 have b := lZ.out.c3
 have g := lZ.out.f3
 have hnew := ((lZ.out.ak 0 (.int .u64 (e0.key : Int))).ak 1 (.int .u64 (e0.val : Int))).ak 2 (.int .u64 (e0.hash : Int))
 have hm := (((Mod.refl [bx] w5).sl 0 (.int .u64 (e0.key : Int))).sl 1 (.int .u64 (e0.val : Int))).sl 2 (.int .u64 (e0.hash : Int))
 simp only [pt] at hnew
 have iE := qd hnew
 have Cg := qd hm
 clear hnew hm
 go_upto_region 4 with fail
 refine cZ (F := fun v => aj v bx 37 #[.int .u64 (e0.key : Int), .int .u64 (e0.val : Int), .int .u64 (e0.hash : Int)] ∧ Mod [bx] w5 v) ⟨iE.out, Cg.out⟩ ?_
 clear iE Cg
 rintro w6 ⟨qG, lF⟩
 replace HC := qd (HC.out.aside lF L8.out RH.out)
 replace lZ := qd qG
 clear qG lF b g
 obtain ⟨Fi, n1, n2, n3, n4, n5, n6⟩ := HC.out.node HN.out
 have nM := qd (IU (HC.out.below (Below.refl w6.heap.size w6).drew |>.node HN.out |>.choose_spec |>.1))
 clear n1 n2 n3 n4 n5 n6
 obtain ⟨pf, hpf⟩ : ∃ pf, pf = N.pfx := ⟨_, rfl⟩
 obtain ⟨dp, hdp⟩ : ∃ dp, dp = N.au := ⟨_, rfl⟩
 rw [← hpf, ← hdp] at nM
 have hpw := Ih.out
 rw [← hpf, ← hdp] at hpw
 obtain ⟨hpl, hdl⟩ := hpw
 have Sd := qd hpf
 have Bw := qd hdp
 unfold aN at nM
 clear hpf hdp Ih
 have b := lZ.out.c3
 refine rT (fun (w' : World) => w'.cell? ⟨bx, 0, none⟩ = some (.int .u64 (e0.key : Int)) ∧ w'.cell? ⟨bx, 1, none⟩ = some (.int .u64 (e0.val : Int)) ∧ w'.cell? ⟨bx, 2, none⟩ = some (.int .u64 (e0.hash : Int))) [] ?_
 have hHeld := (⟨b.1, b.2.1, b.2.2⟩ : _ ∧ _ ∧ _)
 refine vT 0 rfl ?_
 refine vW 1 rfl ?_
 refine vW 2 rfl ?_
 refine nT 3 rfl fun K hK => ?_
 go_simp
 refine (nM.out).mono ?_
 rintro y w7 ⟨rfl, hd7⟩
 replace HC := qd (HC.out.below ((Below.refl w6.heap.size w6).drew.drew))
 replace lZ := qd lZ.out.drew.drew
 rw [hd7] at HC lZ
 clear hd7 nM b
 have b := lZ.out.c3
 go_wp2_with fail
 have hHeld := (⟨b.1, b.2.1, b.2.2⟩ : _ ∧ _ ∧ _)
 refine kO hK ?_
 clear hK K
 refine vW 4 rfl ?_
 refine vW 5 rfl ?_
 refine nT 6 rfl fun K hK => ?_
 go_simp
 refine (OJ pf dp hdl hpl w7).mono ?_
 rintro y w8 ⟨rfl, rfl⟩
 obtain ⟨hg, Z6⟩ : ∃ hg, hg = kI pf dp := ⟨_, rfl⟩
 rw [← Z6]
 have HHg := qd Z6
 clear Z6
 go_wp2_with fail
 have hHeld := (⟨b.1, b.2.1, b.2.2⟩ : _ ∧ _ ∧ _)
 refine kO hK ?_
 clear hK K
 refine vW 7 rfl ?_
 refine vW 8 rfl ?_
 refine nT 9 rfl fun K hK => ?_
 go_simp
 refine (UF (hg : Int) w7).mono ?_
 rintro y w9 ⟨rfl, rfl⟩
 go_wp2_with fail
 have hHeld := (⟨b.1, b.2.1, b.2.2⟩ : _ ∧ _ ∧ _)
 refine kO hK ?_
 clear hK K
 refine nT 10 rfl fun K hK => ?_
 have g := lZ.out.f3
 have hnew := ((lZ.out.ak 0 (.int .u64 (e0.key : Int))).ak 1 (.int .u64 (e0.val : Int))).ak 2 (.int .u64 (e0.hash : Int))
 have hm := (((Mod.refl [bx] w7).sl 0 (.int .u64 (e0.key : Int))).sl 1 (.int .u64 (e0.val : Int))).sl 2 (.int .u64 (e0.hash : Int))
 simp only [pt] at hnew
 have iE := qd hnew
 have Cg := qd hm
 clear hnew hm
 go_simp
 refine cZ (F := fun v => aj v bx 37 #[.int .u64 (e0.key : Int), .int .u64 (e0.val : Int), .int .u64 (e0.hash : Int)] ∧ Mod [bx] w7 v) ⟨iE.out, Cg.out⟩ ?_
 clear iE Cg b g
 rintro w10 ⟨qG, lF⟩
 replace HC := qd (HC.out.aside lF L8.out RH.out)
 replace lZ := qd qG
 clear qG lF
 have b := lZ.out.c3
 have hHeld := (⟨b.1, b.2.1, b.2.2⟩ : _ ∧ _ ∧ _)
 refine kO hK ?_
 clear hK K
 refine vW 11 rfl ?_
 refine vW 12 rfl ?_
 refine aS (by kernel_rfl) ?_ _
 go_wp2
 refine bodyPost_ret (v := .tuple #[.agg #[.int .u64 (e0.key : Int), .int .u64 (e0.val : Int), .int .u64 (e0.hash : Int)], .bool bs, .int .u64 (hg : Int)]) (by simp [results, Tryz.results58, go_sem, b.1, b.2.1, b.2.2]) rfl ?_
 have hfin : Sn W0 E H C w0 G0 F st key hash (.tuple #[.agg #[.int .u64 (e0.key : Int), .int .u64 (e0.val : Int), .int .u64 (e0.hash : Int)], .bool bs, .int .u64 (hg : Int)]) w10 := ⟨id, N, o, x5, HN.out, lX.out, HO.out, by rw [Sm.out, HB0.out, HHg.out, Sd.out, Bw.out]; rfl, HC.out, iB.out⟩
 first | exact ⟨_, rfl, hfin⟩ | exact hfin | exact ⟨rfl, hfin⟩
end
section
variable {W0 w w0 : World} {E : Nat → Addr} {H : Nat → Nat} {C : eB} {F G0 : List Nat} {st : lH}
theorem L9 (h : aA W0 E H C w0 G0 w F st) (hi : iM st.a st.ids []) (e : av) (he : j6 H e) (hk : ∀ y ∈ st.a.ents, y.key ≠ e.key) (hle : st.len < C.M) (hln : st.len = st.a.ents.length) : Calls Tryz.prog 21 #[aZ C.mb, .int .u64 (e.key : Int), .int .u64 (e.val : Int), .int .u64 (e.hash : Int)] w fun y w' => y = .returned (.nilIface) ∧ ∃ id, wO W0 E H C w0 G0 st id [] [e] (st.len + 1) w' := by
 have h64 := he.h64
 have bC := qd he
 have lS := qd hln
 have jA := qd (mU h)
 have hbd := h.bounds
 have oK := qd hbd
 have HI := qd hi
 obtain ⟨N, hN, htp⟩ := hi.dir.at_ h64 hbd.1
 have Aq := qd htp
 obtain ⟨id, hid⟩ : ∃ id, id = st.a.l.getD (dP (e.hash) st.a.d) 0 := ⟨_, rfl⟩
 rw [← hid] at hN
 have HN := qd hN
 have lX := qd hid
 clear hln he h hi hbd hN hid htp
 unfold aZ
 have hlt : (st.len : Int) < (C.M : Int) := by omega
 go_in
 go_wp2_with fail
 refine jA.out.mono ?_
 rintro y w1 ⟨rfl, h1⟩
 have HC := qd h1
 clear h1 jA
 have lY := qd (sI HC.out (e.hash) id h64 lX.out.symm (aX HN.out))
 unfold aZ aN at lY
 go_wp2_with fail
 refine lY.out.mono ?_
 rintro y w2 ⟨rfl, hb⟩
 replace HC := qd (HC.out.below hb)
 clear hb lY
 obtain ⟨c0, c1, c11, c12, c13, c14, c15⟩ := HC.out.cells
 go_upto_region 3 with fail
 go_region
 clear c0 c1 c11 c12 c13 c14 c15
 replace HC := qd (HC.out.below (Below.refl w2.heap.size w2).drew)
 go_wp2_with fail
 refine (jF (some ⟨C.mb, 3, none⟩) (World.drew w2)).mono ?_
 rintro y w3 ⟨rfl, hb⟩
 replace HC := qd (HC.out.below hb)
 clear hb
 obtain ⟨Fi, n1, n2, n3, n4, n5, n6⟩ := HC.out.node HN.out
 have hNe : ∀ y ∈ N.ents, y.key ≠ e.key := fun y hy => hk y (mQ.2 ⟨id, N, HN.out, hy⟩)
 have zL : N.ents.length + 1 ≤ 192 := by
  obtain ⟨B, B', b1, _⟩ := qF (N' := N) HN.out
  have h1 : st.a.ents.length = (B ++ (N.ents ++ B')).length := by unfold Pool.ents; rw [b1]
  rw [List.length_append, List.length_append] at h1
  have h2 := HC.out.mm.2
  have h3 := lS.out
  omega
 have hsl := HI.out.sl id N HN.out (by simp)
 have gB := qd (PI e n1 n2 bC.out Aq.out HC.out.aB.met HC.out.aB.env HC.out.aB.rF n3 hNe zL hsl)
 have HX := qd n6
 have jX := qd (fun (N1 : Nd) (hw : Wr H [] [e] N N1) => Ce HI.out HN.out hw)
 clear n1 n2 n3 n4 n5 n6 hNe hk zL hsl hlt
 unfold aN aM at gB
 go_wp2_with fail
 refine gB.out.mono ?_
 rintro y w4 ⟨rfl, x4, N1, q1, q2, q3, q4, q5⟩
 obtain ⟨F4, xM⟩ := HX.out w4 Fi _ N1 x4 q1 q2.ok (fun q hq => .inl hq) q3 q5 (fun q hq => List.mem_cons.1 hq)
 have fE := qd xM
 have iB := qd q4
 have kT := qd q2
 clear xM q1 q2 q3 q4 q5 gB HX HC
 obtain ⟨c0, c1, c11, c12, c13, c14, c15⟩ := fE.out.cells
 have f15 := fE.out.frozen 15
 obtain ⟨ln, hln⟩ : ∃ ln, ln = st.len + 1 := ⟨_, rfl⟩
 have acg := fE.out.mm.2
 have hwr : IntKind.i64.wrap ((st.len : Int) + 1) = (ln : Int) := by rw [IntKind.wrap_i64] <;> omega
 have rC := qd hln
 have kR := qd (fE.out.Sc ln)
 clear hln
 go_upto_region 10 with fail
 refine cZ (F := fun v => aA W0 E H C w0 G0 v F4 { st with a := { st.a with Ns := st.a.Ns.set id N1 }, x := x4, len := ln }) kR.out ?_
 rintro w6 uq
 clear c0 c1 c11 c12 c13 c14 c15 f15 fE kR hwr
 have kR := qd uq
 have l9 := qd (ni kR.out.again id N1 (by show (st.a.Ns.set id N1)[id]? = some N1; rw [jT (aX HN.out), if_pos rfl]) (jX.out N1 kT.out))
 clear uq jX
 unfold aZ aN at l9
 go_wp2_with fail
 refine l9.out.mono ?_
 rintro y w7 ⟨rfl, hmt⟩
 obtain ⟨hmt, _⟩ := hmt.chain kR.out
 have mE := qd hmt
 clear hmt l9 kR
 go_wp2
 refine bodyPost_ret (v := .nilIface) (by simp [results, Tryz.results21, go_sem]) rfl ⟨rfl, id, ?_⟩
 rw [← rC.out]; exact ⟨N, N1, x4, HN.out, kT.out, iB.out, mE.out⟩
theorem Et (h : aA W0 E H C w0 G0 w F st) (hi : iM st.a st.ids []) (e : av) (he : j6 H e) (e0 : av) (he0 : e0 ∈ st.a.ents) (hk : e0.key = e.key) (hle : st.len < C.M) : Calls Tryz.prog 21 #[aZ C.mb, .int .u64 (e.key : Int), .int .u64 (e.val : Int), .int .u64 (e.hash : Int)] w fun y w' => y = .returned (.nilIface) ∧ ∃ id, wO W0 E H C w0 G0 st id [e0] [{ e0 with val := e.val }] st.len w' := by
 have h64 := he.h64
 have bC := qd he
 have KT := qd he.hash
 have jA := qd (mU h)
 have hbd := h.bounds
 have oK := qd hbd
 have HI := qd hi
 obtain ⟨N, hN, htp⟩ := hi.dir.at_ h64 hbd.1
 have Aq := qd htp
 obtain ⟨id, hid⟩ : ∃ id, id = st.a.l.getD (dP (e.hash) st.a.d) 0 := ⟨_, rfl⟩
 rw [← hid] at hN
 have HN := qd hN
 have lX := qd hid
 clear he h hi hbd hN hid htp
 unfold aZ
 have hlt : (st.len : Int) < (C.M : Int) := by omega
 go_in
 go_wp2_with fail
 refine jA.out.mono ?_
 rintro y w1 ⟨rfl, h1⟩
 have HC := qd h1
 clear h1 jA
 have lY := qd (sI HC.out (e.hash) id h64 lX.out.symm (aX HN.out))
 unfold aZ aN at lY
 go_wp2_with fail
 refine lY.out.mono ?_
 rintro y w2 ⟨rfl, hb⟩
 replace HC := qd (HC.out.below hb)
 clear hb lY
 obtain ⟨c0, c1, c11, c12, c13, c14, c15⟩ := HC.out.cells
 go_upto_region 3 with fail
 go_region
 clear c0 c1 c11 c12 c13 c14 c15
 replace HC := qd (HC.out.below (Below.refl w2.heap.size w2).drew)
 go_wp2_with fail
 refine (jF (some ⟨C.mb, 3, none⟩) (World.drew w2)).mono ?_
 rintro y w3 ⟨rfl, hb⟩
 replace HC := qd (HC.out.below hb)
 clear hb
 obtain ⟨Fi, n1, n2, n3, n4, n5, n6⟩ := HC.out.node HN.out
 have hNe : e0 ∈ N.ents := Cc HI.out.dir oK.out.1 oK.out.2.2.2 (key := e.key) (by rw [← KT.out]; exact lX.out.symm) HN.out he0 hk
 have gB := qd (BJ e true n1 n2 KT.out h64 bC.out.v64 HC.out.aB.met HC.out.aB.env HC.out.aB.rF n3 e0 hNe hk)
 have HX := qd n6
 have jX := qd (fun (N1 : Nd) (hw : Wr H [e0] [{ e0 with val := e.val }] N N1) => Ce HI.out HN.out hw)
 clear n1 n2 n3 n4 n5 n6 hNe hk he0 hlt
 unfold aN aM at gB
 go_wp2_with fail
 refine gB.out.mono ?_
 rintro y w4 ⟨rfl, x4, N1, q1, q2, q3, q4, q5⟩
 obtain ⟨F4, xM⟩ := HX.out w4 Fi _ N1 x4 q1 q2.ok (fun q hq => .inl hq) q3 q5 (fun q hq => List.mem_cons.1 hq)
 have fE := qd xM
 have iB := qd q4
 have kT := qd q2
 clear xM q1 q2 q3 q4 q5 gB HX HC
 obtain ⟨ln, hln⟩ : ∃ ln, ln = st.len := ⟨_, rfl⟩
 have rC := qd hln
 go_upto_region 10 with fail
 obtain ⟨w6, iO⟩ : ∃ w6, w6 = w4 := ⟨_, rfl⟩
 rw [← iO]
 have uq : aA W0 E H C w0 G0 w6 F4 { st with a := { st.a with Ns := st.a.Ns.set id N1 }, x := x4, len := ln } := by rw [iO, hln]; exact fE.out
 clear fE iO hln
 have kR := qd uq
 have l9 := qd (ni kR.out.again id N1 (by show (st.a.Ns.set id N1)[id]? = some N1; rw [jT (aX HN.out), if_pos rfl]) (jX.out N1 kT.out))
 clear uq jX
 unfold aZ aN at l9
 go_wp2_with fail
 refine l9.out.mono ?_
 rintro y w7 ⟨rfl, hmt⟩
 obtain ⟨hmt, _⟩ := hmt.chain kR.out
 have mE := qd hmt
 clear hmt l9 kR
 go_wp2
 refine bodyPost_ret (v := .nilIface) (by simp [results, Tryz.results21, go_sem]) rfl ⟨rfl, id, ?_⟩
 rw [← rC.out]; exact ⟨N, N1, x4, HN.out, kT.out, iB.out, mE.out⟩
theorem Eu (h : aA W0 E H C w0 G0 w F st) (hi : iM st.a st.ids []) (e : av) (he : j6 H e) (e0 : av) (he0 : e0 ∈ st.a.ents) (hk : e0.key = e.key) (hle : ¬ st.len < C.M) : Calls Tryz.prog 21 #[aZ C.mb, .int .u64 (e.key : Int), .int .u64 (e.val : Int), .int .u64 (e.hash : Int)] w fun y w' => y = .returned (.nilIface) ∧ ∃ id, wO W0 E H C w0 G0 st id [e0] [{ e0 with val := e.val }] st.len w' := by
 have h64 := he.h64
 have bC := qd he
 have KT := qd he.hash
 have jA := qd (mU h)
 have hbd := h.bounds
 have oK := qd hbd
 have HI := qd hi
 obtain ⟨N, hN, htp⟩ := hi.dir.at_ h64 hbd.1
 have Aq := qd htp
 obtain ⟨id, hid⟩ : ∃ id, id = st.a.l.getD (dP (e.hash) st.a.d) 0 := ⟨_, rfl⟩
 rw [← hid] at hN
 have HN := qd hN
 have lX := qd hid
 clear he h hi hbd hN hid htp
 unfold aZ
 have hlt : ¬ (st.len : Int) < (C.M : Int) := by omega
 go_in
 go_wp2_with fail
 refine jA.out.mono ?_
 rintro y w1 ⟨rfl, h1⟩
 have HC := qd h1
 clear h1 jA
 have lY := qd (sI HC.out (e.hash) id h64 lX.out.symm (aX HN.out))
 unfold aZ aN at lY
 go_wp2_with fail
 refine lY.out.mono ?_
 rintro y w2 ⟨rfl, hb⟩
 replace HC := qd (HC.out.below hb)
 clear hb lY
 obtain ⟨c0, c1, c11, c12, c13, c14, c15⟩ := HC.out.cells
 go_upto_region 3 with fail
 go_region
 clear c0 c1 c11 c12 c13 c14 c15
 replace HC := qd (HC.out.below (Below.refl w2.heap.size w2).drew)
 go_wp2_with fail
 refine (jF (some ⟨C.mb, 3, none⟩) (World.drew w2)).mono ?_
 rintro y w3 ⟨rfl, hb⟩
 replace HC := qd (HC.out.below hb)
 clear hb
 obtain ⟨Fi, n1, n2, n3, n4, n5, n6⟩ := HC.out.node HN.out
 have hNe : e0 ∈ N.ents := Cc HI.out.dir oK.out.1 oK.out.2.2.2 (key := e.key) (by rw [← KT.out]; exact lX.out.symm) HN.out he0 hk
 have gB := qd (BJ e false n1 n2 KT.out h64 bC.out.v64 HC.out.aB.met HC.out.aB.env HC.out.aB.rF n3 e0 hNe hk)
 have HX := qd n6
 have jX := qd (fun (N1 : Nd) (hw : Wr H [e0] [{ e0 with val := e.val }] N N1) => Ce HI.out HN.out hw)
 clear n1 n2 n3 n4 n5 n6 hNe hk he0 hlt
 unfold aN aM at gB
 go_wp2_with fail
 refine gB.out.mono ?_
 rintro y w4 ⟨rfl, x4, N1, q1, q2, q3, q4, q5⟩
 obtain ⟨F4, xM⟩ := HX.out w4 Fi _ N1 x4 q1 q2.ok (fun q hq => .inl hq) q3 q5 (fun q hq => List.mem_cons.1 hq)
 have fE := qd xM
 have iB := qd q4
 have kT := qd q2
 clear xM q1 q2 q3 q4 q5 gB HX HC
 obtain ⟨ln, hln⟩ : ∃ ln, ln = st.len := ⟨_, rfl⟩
 have rC := qd hln
 go_upto_region 10 with fail
 obtain ⟨w6, iO⟩ : ∃ w6, w6 = w4 := ⟨_, rfl⟩
 rw [← iO]
 have uq : aA W0 E H C w0 G0 w6 F4 { st with a := { st.a with Ns := st.a.Ns.set id N1 }, x := x4, len := ln } := by rw [iO, hln]; exact fE.out
 clear fE iO hln
 have kR := qd uq
 have l9 := qd (ni kR.out.again id N1 (by show (st.a.Ns.set id N1)[id]? = some N1; rw [jT (aX HN.out), if_pos rfl]) (jX.out N1 kT.out))
 clear uq jX
 unfold aZ aN at l9
 go_wp2_with fail
 refine l9.out.mono ?_
 rintro y w7 ⟨rfl, hmt⟩
 obtain ⟨hmt, _⟩ := hmt.chain kR.out
 have mE := qd hmt
 clear hmt l9 kR
 go_wp2
 refine bodyPost_ret (v := .nilIface) (by simp [results, Tryz.results21, go_sem]) rfl ⟨rfl, id, ?_⟩
 rw [← rC.out]; exact ⟨N, N1, x4, HN.out, kT.out, iB.out, mE.out⟩
theorem GI (h : aA W0 E H C w0 G0 w F st) (hi : iM st.a st.ids []) (e : av) (he : j6 H e) (e0 : av) (he0 : e0 ∈ st.a.ents) (hk : e0.key = e.key) : Calls Tryz.prog 21 #[aZ C.mb, .int .u64 (e.key : Int), .int .u64 (e.val : Int), .int .u64 (e.hash : Int)] w fun y w' => y = .returned (.nilIface) ∧ ∃ id, wO W0 E H C w0 G0 st id [e0] [{ e0 with val := e.val }] st.len w' := by
 by_cases hle : st.len < C.M
 ·exact Et h hi e he e0 he0 hk hle
 ·exact Eu h hi e he e0 he0 hk hle
theorem JC (h : aA W0 E H C w0 G0 w F st) (hi : iM st.a st.ids []) (e : av) (he : j6 H e) (hk : ∀ y ∈ st.a.ents, y.key ≠ e.key) (hle : ¬ st.len < C.M) : Calls Tryz.prog 21 #[aZ C.mb, .int .u64 (e.key : Int), .int .u64 (e.val : Int), .int .u64 (e.hash : Int)] w fun y w' => y = .returned (kW E 2) ∧ ∃ x', aA W0 E H C w0 G0 w' F { st with x := x' } ∧ dJ ⟨st.x.all, ⟨0, 0, 0⟩⟩ x' 128 0 := by
 have h64 := he.h64
 have bC := qd he
 have jA := qd (mU h)
 have hbd := h.bounds
 have oK := qd hbd
 have HI := qd hi
 obtain ⟨N, hN, htp⟩ := hi.dir.at_ h64 hbd.1
 have Aq := qd htp
 obtain ⟨id, hid⟩ : ∃ id, id = st.a.l.getD (dP (e.hash) st.a.d) 0 := ⟨_, rfl⟩
 rw [← hid] at hN
 have HN := qd hN
 have lX := qd hid
 clear he h hi hbd hN hid htp
 unfold aZ
 have hlt : ¬ (st.len : Int) < (C.M : Int) := by omega
 go_in
 go_wp2_with fail
 refine jA.out.mono ?_
 rintro y w1 ⟨rfl, h1⟩
 have HC := qd h1
 clear h1 jA
 have lY := qd (sI HC.out (e.hash) id h64 lX.out.symm (aX HN.out))
 unfold aZ aN at lY
 go_wp2_with fail
 refine lY.out.mono ?_
 rintro y w2 ⟨rfl, hb⟩
 replace HC := qd (HC.out.below hb)
 clear hb lY
 obtain ⟨c0, c1, c11, c12, c13, c14, c15⟩ := HC.out.cells
 go_upto_region 3 with fail
 go_region
 clear c0 c1 c11 c12 c13 c14 c15
 replace HC := qd (HC.out.below (Below.refl w2.heap.size w2).drew)
 go_wp2_with fail
 refine (jF (some ⟨C.mb, 3, none⟩) (World.drew w2)).mono ?_
 rintro y w3 ⟨rfl, hb⟩
 replace HC := qd (HC.out.below hb)
 clear hb
 obtain ⟨Fi, n1, n2, n3, n4, n5, n6⟩ := HC.out.node HN.out
 have hNe : ∀ y ∈ N.ents, y.key ≠ e.key := fun y hy => hk y (mQ.2 ⟨id, N, HN.out, hy⟩)
 have QC := Nc e n1 n2 bC.out.hash h64 HC.out.aB.met HC.out.aB.env HC.out.aB.rF n3 hNe
 rw [jc E (by omega)] at QC
 have gB := qd QC
 clear QC n1 n2 n3 n4 n5 n6 hNe hk
 unfold aN aM at gB
 go_wp2_with fail
 refine gB.out.mono ?_
 rintro y w4 ⟨rfl, x4, q3, q4, q5⟩
 have fE := qd (HC.out.met q3 q5)
 have iB := qd q4
 clear q3 q4 q5 gB HC
 have ce : w4.cell? ⟨4, 0, none⟩ = some (.iface 285 (.pointer (some (E 2)))) := fE.out.aB.env.errs.at_ 2 (by omega) (by omega)
 have Xj := qd (XQ (E 2) w4)
 go_wp2_with fail
 refine Xj.out.mono ?_
 rintro y w5 ⟨rfl, rfl⟩
 go_wp2_with fail
 refine (Bt w4).mono ?_
 rintro y w5 ⟨rfl, rfl⟩
 go_wp2
 refine bodyPost_ret (v := .iface 285 (.pointer (some (E 2)))) (by simp [results, Tryz.results21, go_sem]) rfl ⟨?_, x4, fE.out, iB.out⟩
 rw [jc E (by omega)]
end
end Go.Proofs.YtfojgfddgplinabGreatDoor
