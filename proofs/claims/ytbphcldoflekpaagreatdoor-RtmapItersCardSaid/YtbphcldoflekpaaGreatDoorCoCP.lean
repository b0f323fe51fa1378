/- A core's Get, Put, Delete by their contracts. -/
import Derived.Test.YtbphcldoflekpaaGreatDoorCoCN
import Derived.Test.YtbphcldoflekpaaGreatDoorSqT
import Derived.Test.YtbphcldoflekpaaGreatDoorLaneP
namespace Go.Proofs.YtbphcldoflekpaaGreatDoor
set_option maxRecDepth 100000
set_option maxHeartbeats 4000000
open Go.RowKit dA
section
variable {a : Pool} {e : av} {id key : Nat} {N : Nd}
theorem FM {H : Nat → Nat} (hd : d9 a) (h5 : a.d ≤ 5) (ho : ∀ (i : Nat) (N : Nd), a.Ns[i]? = some N → dL H N) : (a.ents.map av.key).Nodup := by
 unfold Pool.ents
 rw [List.map_flatMap]
 unfold List.Nodup
 rw [List.pairwise_flatMap]
 refine ⟨fun N hN => ?_, ?_⟩
 ·obtain ⟨i, hi⟩ := List.getElem?_of_mem hN
  exact (ho i N hi).keys
 ·rw [List.pairwise_iff_getElem]
  intro i j hi hj hij x hx y hy hxy
  obtain ⟨e, he, rfl⟩ := List.mem_map.1 hx
  obtain ⟨e', he', rfl⟩ := List.mem_map.1 hy
  have g1 : a.Ns[i]? = some a.Ns[i] := List.getElem?_eq_getElem hi
  have g2 : a.Ns[j]? = some a.Ns[j] := List.getElem?_eq_getElem hj
  obtain ⟨k1, k2⟩ := (ho _ _ g1).hash e he
  obtain ⟨k3, k4⟩ := (ho _ _ g2).hash e' he'
  have hh : e.hash = e'.hash := by rw [k1.hash, k3.hash, hxy]
  have a1 := hd.L8 k1.h64 h5 g1 k2
  have a2 := hd.L8 k3.h64 h5 g2 k4
  rw [hh, a2] at a1
  omega
theorem lg : e ∈ a.ents ↔ ∃ (i : Nat) (N : Nd), a.Ns[i]? = some N ∧ e ∈ N.ents := by
 unfold Pool.ents
 rw [List.mem_flatMap]
 constructor
 ·rintro ⟨N, h1, h2⟩
  obtain ⟨i, hi⟩ := List.getElem?_of_mem h1
  exact ⟨i, N, hi, h2⟩
 ·rintro ⟨i, N, h1, h2⟩
  exact ⟨N, List.mem_of_getElem? h1, h2⟩
theorem xC {H : Nat → Nat} (hd : d9 a) (h5 : a.d ≤ 5) (ho : ∀ (i : Nat) (N : Nd), a.Ns[i]? = some N → dL H N) (hid : a.l.getD (dP (H key) a.d) 0 = id) (hN : a.Ns[id]? = some N) (he : e ∈ a.ents) (hk : e.key = key) : e ∈ N.ents := by
 obtain ⟨j, M, h1, h2⟩ := lg.1 he
 obtain ⟨k1, k2⟩ := (ho j M h1).hash e h2
 have := hd.L8 k1.h64 h5 h1 k2
 rw [k1.hash, hk, hid] at this
 subst this
 rw [hN] at h1; cases h1
 exact h2
theorem Tg {H : Nat → Nat} (hd : d9 a) (h5 : a.d ≤ 5) (ho : ∀ (i : Nat) (N : Nd), a.Ns[i]? = some N → dL H N) (hid : a.l.getD (dP (H key) a.d) 0 = id) (hN : a.Ns[id]? = some N) : look N.ents key = look a.ents key := by
 cases h : look N.ents key with
 | some e =>
  obtain ⟨h1, h2⟩ := vQ h
  have := jN (FM hd h5 ho) (lg.2 ⟨id, N, hN, h1⟩)
  rw [h2] at this
  exact this.symm
 | none =>
  refine (Iw fun e he hk => ?_).symm
  have h1 := xC hd h5 ho hid hN he hk
  have := jN (ho id N hN).keys h1
  rw [hk, h] at this
  cases this
theorem BM {H : Nat → Nat} {ids : List Nat} {N1 : Nd} {del add : List av} (h : jJ a ids []) (hN : a.Ns[id]? = some N) (hw : Wr H del add N N1) : Qz { a with Ns := a.Ns.set id N1 } ids id := by
 have hid := bA hN
 have hget := jR (N' := N1) hid
 have hL := hw.like
 refine ⟨h.dir.alike hN hL.pfx hL.au (fun hb hk => h.dir.split id N hN (by rw [← hL.busy]; exact hb) (by rw [← hL.kind]; exact hk)), fun j => ?_, h.nd, fun j hj => ?_, fun i X hX hi => ?_⟩
 ·have := h.iU j
  simp only [List.not_mem_nil, or_false] at this
  rw [← this]
  unfold Pool.can
  simp only
  rw [hget]
  by_cases hj : j = id
  ·subst hj; rw [if_pos rfl, hN]; simp [hL.busy]
  ·rw [if_neg hj]
 ·have := h.some_ j hj
  unfold Pool.left at this ⊢
  simp only
  rw [hget]
  by_cases hj2 : j = id
  ·subst hj2; rw [if_pos rfl]; rw [hN] at this; show 1 ≤ N1.left; rw [hw.left]; exact this
  ·rw [if_neg hj2]; exact this
 ·have iq : (a.Ns.set id N1)[i]? = some X := hX
  rw [hget, if_neg hi] at iq
  exact h.sl i X iq (by simp)
def wC (W0 : World) (E : Nat → Addr) (H : Nat → Nat) (C : gV) (w0 : World) (G0 : List Nat) (st : kr) (id : Nat) (del add : List av) (len' : Nat) (w' : World) : Prop :=
 ∃ (N N1 : Nd) (x1 : bM), st.a.Ns[id]? = some N ∧ Wr H del add N N1 ∧ dI ⟨st.x.all, ⟨0, 0, 0⟩⟩ x1 128 0 ∧ yX W0 E H C w0 G0 { st with a := { st.a with Ns := st.a.Ns.set id N1 }, len := len', x := x1 } id w'
section
variable {W0 : World} {E : Nat → Addr} {H : Nat → Nat} {C : gV} {w0 : World} {G0 : List Nat} {w w' : World} {F : List Nat} {st : kr}
theorem kQ (h : aA W0 E H C w0 G0 w F st) : Calls Tryz.prog 52 #[.pointer (some ⟨C.mb, 3, none⟩)] w fun e w' => e = .returned undef ∧ aA W0 E H C w0 G0 w' F { st with x := ⟨st.x.all, ⟨0, 0, 0⟩⟩ } :=
 (CO C.mb _ _ _ 3 st.x.all st.x.last C.m w h.aC.met).mono fun e w' ⟨h1, h2, h3⟩ => ⟨h1, h.met h2 h3⟩
theorem Wr.refl (h : dL H N) : Wr H [] [] N N := ⟨Like.refl N, rfl, ⟨N.ents, by simp, by simp⟩, h, fun _ => rfl, fun _ => Nat.le_add_right _ _⟩
end
theorem Wj {W0 : World} {E : Nat → Addr} {H : Nat → Nat} {C : gV} {w0 : World} {G0 : List Nat} {w : World} {F : List Nat} {st : kr} (h : aA W0 E H C w0 G0 w F st) (hi : jJ st.a st.ids []) (key : Nat) (h64 : H key < 18446744073709551616) : Calls Tryz.prog 32 #[aU C.mb, nU key, .int .u64 (H key : Int)] w fun e w' => e = .returned (.tuple #[.int .u64 (((look st.a.ents key).getD ⟨0, 0, 0⟩).val : Int), .bool (look st.a.ents key).isSome]) ∧ ∃ x', aA W0 E H C w0 G0 w' F { st with x := x' } ∧ dI ⟨st.x.all, ⟨0, 0, 0⟩⟩ x' 128 0 := by
 have jf := qd (kQ h)
 have hbd := h.bounds
 have mV := qd hbd
 have HI := qd hi
 obtain ⟨N, hN, htp⟩ := hi.dir.at_ h64 hbd.1
 have yQ := qd htp
 obtain ⟨id, hid⟩ : ∃ id, id = st.a.l.getD (dP (H key) st.a.d) 0 := ⟨_, rfl⟩
 rw [← hid] at hN
 have HN := qd hN
 have kg := qd hid
 clear h hi hbd hN hid htp
 unfold aU
 go_in
 go_wp2_with fail
 refine jf.out.mono ?_
 rintro y w1 ⟨rfl, h1⟩
 have HC := qd h1
 clear h1 jf
 have jZ := qd (qm HC.out (H key) id h64 kg.out.symm (bA HN.out))
 unfold aU aK at jZ
 go_wp2_with fail
 refine jZ.out.mono ?_
 rintro y w2 ⟨rfl, hb⟩
 replace HC := qd (HC.out.below hb)
 clear hb jZ
 go_wp2_with fail
 refine (iN (some ⟨C.mb, 3, none⟩) w2).mono ?_
 rintro y w3 ⟨rfl, hb⟩
 replace HC := qd (HC.out.below hb)
 clear hb
 obtain ⟨Fi, n1, n2, n3, n4, n5, n6⟩ := HC.out.node HN.out
 have hlk := Tg HI.out.dir mV.out.1 mV.out.2.2.2 kg.out.symm HN.out
 have nZ := qd hlk
 have yB := YI key n1 n2 h64 HC.out.aC.met HC.out.aC.env HC.out.aC.qg n3
 obtain ⟨e0, he0⟩ : ∃ e0 : av, e0 = (look N.ents key).getD ⟨0, 0, 0⟩ := ⟨_, rfl⟩
 obtain ⟨b0, hb0⟩ : ∃ b0, b0 = (look N.ents key).isSome := ⟨_, rfl⟩
 unfold eT at yB
 rw [← he0, ← hb0] at yB
 have fZ := qd yB
 have Mj := qd he0
 have HB0 := qd hb0
 clear n1 n2 n3 n4 n5 n6 hlk yB he0 hb0
 unfold aK aM at fZ
 go_wp2_with fail
 refine fZ.out.mono ?_
 rintro y w4 ⟨rfl, x4, h4, h5, h6⟩
 have iw := qd (HC.out.met h4 h6)
 have mX := qd h5
 clear h4 h5 h6 fZ HC
 go_wp2
 have wu := qd (iw.out.below ((Below.refl w4.heap.size w4).alloc (Nat.le_refl _) (.cells #[nU e0.key, nU e0.val, nU e0.hash] 38)))
 refine bodyPost_ret (v := .tuple #[nU e0.val, .bool b0]) (by simp [results, Tryz.results32, go_sem]) rfl ⟨?_, x4, wu.out, mX.out⟩
 rw [← nZ.out, ← Mj.out, ← HB0.out]
theorem yX.chain {W0 : World} {E : Nat → Addr} {H : Nat → Nat} {C : gV} {w0 : World} {G0 : List Nat} {w w' : World} {F : List Nat} {st : kr} (h : aA W0 E H C w0 G0 w F st) (k : yX W0 E H C w (C.foot F) st id w') : yX W0 E H C w0 G0 st id w' ∧ Mod (C.foot F) w w' := by
 obtain ⟨A', v', F', a', aI, b', x', u, k1, k2, k3, k4, k5⟩ := k
 exact ⟨⟨A', v', F', a', aI, b', x', u, k1, k2, k3, h.chain k4, k5⟩, k4.mod⟩
theorem Nz {W0 : World} {E : Nat → Addr} {H : Nat → Nat} {C : gV} {w0 : World} {G0 : List Nat} {w : World} {F : List Nat} {st : kr} (h : aA W0 E H C w0 G0 w F st) (hi : jJ st.a st.ids []) (key : Nat) (h64 : H key < 18446744073709551616) (e0 : av) (he : e0 ∈ st.a.ents) (hk : e0.key = key) (hlen : 1 ≤ st.len ∧ st.len ≤ 192) : Calls Tryz.prog 30 #[aU C.mb, nU key, .int .u64 (H key : Int)] w fun e w' => e = .returned (.tuple #[nU e0.val, .bool true]) ∧ ∃ id, wC W0 E H C w0 G0 st id [e0] [] (st.len - 1) w' := by
 have jf := qd (kQ h)
 have hbd := h.bounds
 have mV := qd hbd
 have HI := qd hi
 obtain ⟨N, hN, htp⟩ := hi.dir.at_ h64 hbd.1
 have yQ := qd htp
 obtain ⟨id, hid⟩ : ∃ id, id = st.a.l.getD (dP (H key) st.a.d) 0 := ⟨_, rfl⟩
 rw [← hid] at hN
 have HN := qd hN
 have kg := qd hid
 clear h hi hbd hN hid htp
 unfold aU
 go_in
 go_wp2_with fail
 refine jf.out.mono ?_
 rintro y w1 ⟨rfl, h1⟩
 have HC := qd h1
 clear h1 jf
 have jZ := qd (qm HC.out (H key) id h64 kg.out.symm (bA HN.out))
 unfold aU aK at jZ
 go_wp2_with fail
 refine jZ.out.mono ?_
 rintro y w2 ⟨rfl, hb⟩
 replace HC := qd (HC.out.below hb)
 clear hb jZ
 go_wp2_with fail
 refine (iN (some ⟨C.mb, 3, none⟩) w2).mono ?_
 rintro y w3 ⟨rfl, hb⟩
 replace HC := qd (HC.out.below hb)
 clear hb
 obtain ⟨Fi, n1, n2, n3, n4, n5, n6⟩ := HC.out.node HN.out
 have hNe : e0 ∈ N.ents := xC HI.out.dir mV.out.1 mV.out.2.2.2 kg.out.symm HN.out he hk
 have fZ := qd (SF key n1 n2 h64 HC.out.aC.met HC.out.aC.env HC.out.aC.qg n3 e0 hNe hk)
 have HX := qd n6
 have jU := qd (fun (N1 : Nd) (hw : Wr H [e0] [] N N1) => BM HI.out HN.out hw)
 clear n1 n2 n3 n4 n5 n6 hNe he hk
 unfold eT at fZ
 simp only [Option.getD_some, Option.isSome_some] at fZ
 unfold aK aM at fZ
 go_wp2_with fail
 refine fZ.out.mono ?_
 rintro y w4 ⟨rfl, x4, N1, q1, q2, q3, q4, q5⟩
 obtain ⟨F4, xD⟩ := HX.out w4 Fi _ N1 x4 q1 q2.ok (fun q hq => .inl hq) q3 q5 (fun q hq => List.mem_cons.1 hq)
 have iw := qd xD
 have mX := qd q4
 have jO := qd q2
 clear xD q1 q2 q3 q4 q5 fZ HX HC
 go_upto_region 4 with fail
 refine cO (F := fun v => aA W0 E H C w0 G0 v F4 { st with a := { st.a with Ns := st.a.Ns.set id N1 }, x := x4 } ∧ aj v w4.heap.size 38 #[nU e0.key, nU e0.val, nU e0.hash]) ⟨iw.out.below ((Below.refl w4.heap.size w4).alloc (Nat.le_refl _) (.cells #[nU e0.key, nU e0.val, nU e0.hash] 38)), aj.new w4 38 #[nU e0.key, nU e0.val, nU e0.hash]⟩ ?_
 rintro w5 ⟨BH, tY⟩
 have Gy := qd (show w4.heap.size ∉ C.foot F4 from fun hq => by have := iw.out.iF _ hq; omega)
 obtain ⟨bx, hbx⟩ : ∃ bx, bx = w4.heap.size := ⟨_, rfl⟩
 rw [← hbx] at Gy tY ⊢
 have wu := qd BH
 have kP := qd tY
 clear BH tY iw hbx
 obtain ⟨c0, c1, c11, c12, c13, c14, c15⟩ := wu.out.cells
 have f15 := wu.out.frozen 15
 obtain ⟨ln, hln⟩ : ∃ ln, ln = st.len - 1 := ⟨_, rfl⟩
 have hwr : IntKind.i64.wrap ((st.len : Int) - 1) = (ln : Int) := by rw [IntKind.wrap_i64] <;> omega
 have qN := qd hln
 have aam : bx ≠ C.mb := fun e => Gy.out (aZ.2 (.inl e))
 have kN := qd (wu.out.SY ln)
 have Du := qd (kP.out.far (p := ⟨C.mb, 15, none⟩) aam (nI ln))
 clear aam hln
 go_upto_region 6 with fail
 refine cO (F := fun v => aA W0 E H C w0 G0 v F4 { st with a := { st.a with Ns := st.a.Ns.set id N1 }, x := x4, len := ln } ∧ aj v bx 38 #[nU e0.key, nU e0.val, nU e0.hash]) ⟨kN.out, Du.out⟩ ?_
 rintro w6 ⟨tV, wD⟩
 clear c0 c1 c11 c12 c13 c14 c15 f15 wu kP kN Du hwr
 have kN := qd tV
 have Du := qd wD
 have l7 := qd (mW kN.out.again id N1 (by show (st.a.Ns.set id N1)[id]? = some N1; rw [jR (bA HN.out), if_pos rfl]) (jU.out N1 jO.out))
 clear tV wD jU
 unfold aU aK at l7
 go_wp2_with fail
 refine l7.out.mono ?_
 rintro y w7 ⟨rfl, hmt⟩
 obtain ⟨hmt, hmd⟩ := hmt.chain kN.out
 have mD := qd hmt
 have xE := Du.out.mod hmd Gy.out
 have r1 := xE.cell 1
 simp only [gl] at r1
 clear hmt hmd l7 kN Du xE
 go_wp2
 refine bodyPost_ret (v := .tuple #[nU e0.val, .bool true]) (by simp [results, Tryz.results30, go_sem]) rfl ⟨?_, id, ?_⟩
 ·rfl
 ·rw [← qN.out]; exact ⟨N, N1, x4, HN.out, jO.out, mX.out, mD.out⟩
theorem El {W0 : World} {E : Nat → Addr} {H : Nat → Nat} {C : gV} {w0 : World} {G0 : List Nat} {w : World} {F : List Nat} {st : kr} (h : aA W0 E H C w0 G0 w F st) (hi : jJ st.a st.ids []) (key : Nat) (h64 : H key < 18446744073709551616) (hk : ∀ e ∈ st.a.ents, e.key ≠ key) : Calls Tryz.prog 30 #[aU C.mb, nU key, .int .u64 (H key : Int)] w fun e w' => e = .returned (.tuple #[.int .u64 0, .bool false]) ∧ ∃ id, wC W0 E H C w0 G0 st id [] [] st.len w' := by
 have jf := qd (kQ h)
 have hbd := h.bounds
 have mV := qd hbd
 have HI := qd hi
 obtain ⟨N, hN, htp⟩ := hi.dir.at_ h64 hbd.1
 have yQ := qd htp
 obtain ⟨id, hid⟩ : ∃ id, id = st.a.l.getD (dP (H key) st.a.d) 0 := ⟨_, rfl⟩
 rw [← hid] at hN
 have HN := qd hN
 have kg := qd hid
 clear h hi hbd hN hid htp
 unfold aU
 go_in
 go_wp2_with fail
 refine jf.out.mono ?_
 rintro y w1 ⟨rfl, h1⟩
 have HC := qd h1
 clear h1 jf
 have jZ := qd (qm HC.out (H key) id h64 kg.out.symm (bA HN.out))
 unfold aU aK at jZ
 go_wp2_with fail
 refine jZ.out.mono ?_
 rintro y w2 ⟨rfl, hb⟩
 replace HC := qd (HC.out.below hb)
 clear hb jZ
 go_wp2_with fail
 refine (iN (some ⟨C.mb, 3, none⟩) w2).mono ?_
 rintro y w3 ⟨rfl, hb⟩
 replace HC := qd (HC.out.below hb)
 clear hb
 obtain ⟨Fi, n1, n2, n3, n4, n5, n6⟩ := HC.out.node HN.out
 have hNe : ∀ e ∈ N.ents, e.key ≠ key := fun e he => hk e (lg.2 ⟨id, N, HN.out, he⟩)
 have fZ := qd (Gr key n1 n2 h64 HC.out.aC.met HC.out.aC.env HC.out.aC.qg n3 hNe)
 have jO := qd (Wr.refl n2)
 have jU := qd (fun (N1 : Nd) (hw : Wr H [] [] N N1) => BM HI.out HN.out hw)
 have HX := qd n6
 have jw := qd n1
 have OJ := qd n3
 obtain ⟨e0, he0⟩ : ∃ e0 : av, e0 = ⟨0, 0, 0⟩ := ⟨_, rfl⟩
 unfold eT at fZ
 simp only [Option.getD_none, Option.isSome_none] at fZ
 rw [← he0] at fZ
 have Mj := qd he0
 clear n1 n3 n4 n5 n6 hNe hk he0
 unfold aK aM at fZ
 go_wp2_with fail
 refine fZ.out.mono ?_
 rintro y w4 ⟨rfl, x4, q3, q4, q5⟩
 obtain ⟨F4, xD⟩ := HX.out w4 Fi _ N x4 (jw.out.mod q5 (fun q hq dH => by
  rw [List.mem_singleton.1 dH] at hq
  exact OJ.out hq)) n2 (fun q hq => .inl hq) q3 q5 (fun q hq => .inl (List.mem_singleton.1 hq))
 have iw := qd xD
 have mX := qd q4
 clear xD q3 q4 q5 fZ HX HC jw n2
 obtain ⟨N1, hN1⟩ : ∃ N1, N1 = N := ⟨_, rfl⟩
 rw [← hN1] at iw
 have aan := qd (show Wr H [] [] N N1 from by rw [hN1]; exact jO.out)
 clear jO hN1
 have jO := aan
 clear aan
 go_upto_region 4 with fail
 refine cO (F := fun v => aA W0 E H C w0 G0 v F4 { st with a := { st.a with Ns := st.a.Ns.set id N1 }, x := x4 } ∧ aj v w4.heap.size 38 #[nU e0.key, nU e0.val, nU e0.hash]) ⟨iw.out.below ((Below.refl w4.heap.size w4).alloc (Nat.le_refl _) (.cells #[nU e0.key, nU e0.val, nU e0.hash] 38)), aj.new w4 38 #[nU e0.key, nU e0.val, nU e0.hash]⟩ ?_
 rintro w5 ⟨BH, tY⟩
 have Gy := qd (show w4.heap.size ∉ C.foot F4 from fun hq => by have := iw.out.iF _ hq; omega)
 obtain ⟨bx, hbx⟩ : ∃ bx, bx = w4.heap.size := ⟨_, rfl⟩
 rw [← hbx] at Gy tY ⊢
 have wu := qd BH
 have kP := qd tY
 clear BH tY iw hbx
 obtain ⟨ln, hln⟩ : ∃ ln, ln = st.len := ⟨_, rfl⟩
 have qN := qd hln
 go_upto_region 6 with fail
 obtain ⟨w6, lu⟩ : ∃ w6, w6 = w5 := ⟨_, rfl⟩
 rw [← lu]
 have tV : aA W0 E H C w0 G0 w6 F4 { st with a := { st.a with Ns := st.a.Ns.set id N1 }, x := x4, len := ln } := by rw [lu, hln]; exact wu.out
 have wD := kP.out
 rw [← lu] at wD
 clear wu kP lu hln
 have kN := qd tV
 have Du := qd wD
 have l7 := qd (mW kN.out.again id N1 (by show (st.a.Ns.set id N1)[id]? = some N1; rw [jR (bA HN.out), if_pos rfl]) (jU.out N1 jO.out))
 clear tV wD jU
 unfold aU aK at l7
 go_wp2_with fail
 refine l7.out.mono ?_
 rintro y w7 ⟨rfl, hmt⟩
 obtain ⟨hmt, hmd⟩ := hmt.chain kN.out
 have mD := qd hmt
 have xE := Du.out.mod hmd Gy.out
 have r1 := xE.cell 1
 simp only [gl] at r1
 clear hmt hmd l7 kN Du xE
 go_wp2
 refine bodyPost_ret (v := .tuple #[nU e0.val, .bool false]) (by simp [results, Tryz.results30, go_sem]) rfl ⟨?_, id, ?_⟩
 ·rw [Mj.out]; rfl
 ·rw [← qN.out]; exact ⟨N, N1, x4, HN.out, jO.out, mX.out, mD.out⟩
end
section
variable {W0 w w0 : World} {E : Nat → Addr} {H : Nat → Nat} {C : gV} {F G0 : List Nat} {st : kr}
theorem aA.aside {w' : World} {b : Nat} (hC : aA W0 E H C w0 G0 w F st) (hm : Mod [b] w w') (hb : b ∉ C.foot F) (h0 : w0.heap.size ≤ b) : aA W0 E H C w0 G0 w' F st := by
 rw [aZ] at hb
 simp only [not_or] at hb
 have hd : ∀ q ∈ [b], q ≠ C.mb ∧ q ∉ C.s.blocks ∧ q ∉ F ∧ C.v.ownBlock ≠ some q := fun q hq => by rw [List.mem_singleton.1 hq]; exact hb
 have hW := hC.oq
 refine ⟨bG.start (hC.aC.aC.mod hm (fun q hq dH => (hd q dH).2.1 hq)) (hC.hp.xX hC.aC.pool hm (fun q hq dH => (hd q dH).2.2.1 hq)) (hC.aC.met.mod hm (fun hq => (hd _ hq).1 rfl)) (hC.aC.env.mod hm (fun q hq => by rw [List.mem_singleton.1 hq]; omega)) hC.aC.apart hC.aC.qg, jy hC.row hm (fun k hk FI => (hd k FI).2.2.2 hk), hC.yU, hC.pos, hC.kk, hC.mm, hC.oq, hC.sub, hC.mod.trans hm (fun _ hh _ => hh) (fun k hk hl => ?_)⟩
 rw [List.mem_singleton.1 hk] at hl
 omega
def Ti (W0 : World) (E : Nat → Addr) (H : Nat → Nat) (C : gV) (w0 : World) (G0 : List Nat) (F : List Nat) (st : kr) (key hash : Nat) (v : Value) (w' : World) : Prop :=
 ∃ (id : Nat) (N : Nd) (o : Option av) (x' : bM), st.a.Ns[id]? = some N ∧ id = st.a.l.getD (dP hash st.a.d) 0 ∧ fV ⟨key, 0, hash⟩ N.ents o ∧ v = .tuple #[aM (o.getD ⟨0, 0, 0⟩), .bool o.isSome, .int .u64 ((kG N.pfx N.au : Nat) : Int)] ∧ aA W0 E H C w0 G0 w' F { st with x := x' } ∧ dI ⟨st.x.all, ⟨0, 0, 0⟩⟩ x' 192 0
theorem QD (h : aA W0 E H C w0 G0 w F st) (hi : jJ st.a st.ids []) (key hash : Nat) (h64 : hash < 18446744073709551616) : Calls Tryz.prog 71 #[aU C.mb, nU hash, nU key] w fun e w' => ∃ v, e = .returned v ∧ Ti W0 E H C w0 G0 F st key hash v w' := by
 have hbd := h.bounds
 have mV := qd hbd
 obtain ⟨N, hN, htp⟩ := hi.dir.at_ h64 hbd.1
 obtain ⟨id, hid⟩ : ∃ id, id = st.a.l.getD (dP hash st.a.d) 0 := ⟨_, rfl⟩
 rw [← hid] at hN
 have HN := qd hN
 have kg := qd hid
 have HC := qd (h.below ((Below.refl w.heap.size w).alloc (Nat.le_refl _) (.cells #[.int .u64 0, .int .u64 0, .int .u64 0] 38)))
 have lX := qd (aj.new w 38 #[.int .u64 0, .int .u64 0, .int .u64 0])
 have Sm := qd (show w0.heap.size ≤ w.heap.size from h.mod.size)
 have Mk := qd (show w.heap.size ∉ C.foot F from fun hq => by have := h.iF _ hq; omega)
 clear h hi hbd hN hid htp
 unfold aU
 go_in
 go_upto_region 1 with fail
 refine cO (F := fun v => aA W0 E H C w0 G0 v F st ∧ aj v w.heap.size 38 #[.int .u64 0, .int .u64 0, .int .u64 0]) ⟨HC.out, lX.out⟩ ?_
 clear HC lX
 rintro w1 ⟨hC, hB⟩
 obtain ⟨bx, hbx⟩ : ∃ bx, bx = w.heap.size := ⟨_, rfl⟩
 rw [← hbx] at Mk Sm hB ⊢
 have hne : bx ≠ C.mb := fun e => Mk.out (aZ.2 (.inl e))
 have jc := qd hne
 have HC := qd hC
 have lX := qd hB
 have jf := qd (kQ hC.again)
 clear hC hB hbx hne
 go_wp2_with fail
 refine jf.out.mono ?_
 rintro y w2 ⟨rfl, h2⟩
 replace lX := qd (lX.out.mod h2.mod Mk.out)
 replace HC := qd (HC.out.chain h2)
 clear h2 jf
 have jZ := qd (qm HC.out hash id h64 kg.out.symm (bA HN.out))
 unfold aU aK at jZ
 go_wp2_with fail
 refine jZ.out.mono ?_
 rintro y w3 ⟨rfl, hb⟩
 replace HC := qd (HC.out.below hb)
 replace lX := qB hb lX
 clear hb jZ
 go_wp2_with fail
 refine (iN (some ⟨C.mb, 3, none⟩) w3).mono ?_
 rintro y w4 ⟨rfl, hb⟩
 replace HC := qd (HC.out.below hb)
 replace lX := qB hb lX
 clear hb
 obtain ⟨Fi, n1, n2, n3, n4, n5, n6⟩ := HC.out.node HN.out
 have qI := qd (VL key hash n1 n2 HC.out.aC.met HC.out.aC.env HC.out.aC.qg n3)
 have Ig := qd (show N.pfx < 2 ^ N.au ∧ N.au ≤ 16 from ⟨n2.pfx, by have := n2.deep; omega⟩)
 clear n1 n2 n3 n4 n5 n6
 unfold aK at qI
 unfold eT aM at qI
 go_wp2_with fail
 refine qI.out.mono ?_
 rintro y w5 ⟨o, x5, rfl, ho, q3, q4, q5⟩
 have HO := qd ho
 have mX := qd q4
 replace HC := qd (HC.out.met q3 q5)
 replace lX := qd (lX.out.mod q5 (fun hq => jc.out (List.mem_singleton.1 hq)))
 clear ho q3 q4 q5 qI
 obtain ⟨e0, he0⟩ : ∃ e0 : av, e0 = o.getD ⟨0, 0, 0⟩ := ⟨_, rfl⟩
 obtain ⟨bs, hbs⟩ : ∃ bs, bs = o.isSome := ⟨_, rfl⟩
 rw [← he0, ← hbs]
 have Mj := qd he0
 have HB0 := qd hbs
 clear he0 hbs
 have b := lX.out.c3
 have g := lX.out.f3
 have hnew := ((lX.out.ak 0 (nU e0.key)).ak 1 (nU e0.val)).ak 2 (nU e0.hash)
 have hm := (((Mod.refl [bx] w5).sl 0 (nU e0.key)).sl 1 (nU e0.val)).sl 2 (nU e0.hash)
 simp only [pt] at hnew
 have iJ := qd hnew
 have I9 := qd hm
 clear hnew hm
 go_upto_region 4 with fail
 refine cO (F := fun v => aj v bx 38 #[nU e0.key, nU e0.val, nU e0.hash] ∧ Mod [bx] w5 v) ⟨iJ.out, I9.out⟩ ?_
 clear iJ I9
 rintro w6 ⟨wD, jW⟩
 replace HC := qd (HC.out.aside jW Mk.out Sm.out)
 replace lX := qd wD
 clear wD jW b g
 obtain ⟨Fi, n1, n2, n3, n4, n5, n6⟩ := HC.out.node HN.out
 have sP := qd (IW (HC.out.below (Below.refl w6.heap.size w6).drew |>.node HN.out |>.choose_spec |>.1))
 clear n1 n2 n3 n4 n5 n6
 obtain ⟨pf, hpf⟩ : ∃ pf, pf = N.pfx := ⟨_, rfl⟩
 obtain ⟨dp, hdp⟩ : ∃ dp, dp = N.au := ⟨_, rfl⟩
 rw [← hpf, ← hdp] at sP
 have hpw := Ig.out
 rw [← hpf, ← hdp] at hpw
 obtain ⟨hpl, hdl⟩ := hpw
 have S9 := qd hpf
 have Bj := qd hdp
 unfold aK at sP
 clear hpf hdp Ig
 have b := lX.out.c3
 refine rT (fun (w' : World) => w'.cell? ⟨bx, 0, none⟩ = some (nU e0.key) ∧ w'.cell? ⟨bx, 1, none⟩ = some (nU e0.val) ∧ w'.cell? ⟨bx, 2, none⟩ = some (nU e0.hash)) [] ?_
 have hHeld := (⟨b.1, b.2.1, b.2.2⟩ : _ ∧ _ ∧ _)
 refine vT 0 rfl ?_
 refine vW 1 rfl ?_
 refine vW 2 rfl ?_
 refine nT 3 rfl fun K hK => ?_
 go_simp
 refine (sP.out).mono ?_
 rintro y w7 ⟨rfl, hd7⟩
 replace HC := qd (HC.out.below ((Below.refl w6.heap.size w6).drew.drew))
 replace lX := qd lX.out.drew.drew
 rw [hd7] at HC lX
 clear hd7 sP b
 have b := lX.out.c3
 go_wp2_with fail
 have hHeld := (⟨b.1, b.2.1, b.2.2⟩ : _ ∧ _ ∧ _)
 refine kO hK ?_
 clear hK K
 refine vW 4 rfl ?_
 refine vW 5 rfl ?_
 refine nT 6 rfl fun K hK => ?_
 go_simp
 refine (Ph pf dp hdl hpl w7).mono ?_
 rintro y w8 ⟨rfl, rfl⟩
 obtain ⟨hg, hhg⟩ : ∃ hg, hg = kG pf dp := ⟨_, rfl⟩
 rw [← hhg]
 have HHg := qd hhg
 clear hhg
 go_wp2_with fail
 have hHeld := (⟨b.1, b.2.1, b.2.2⟩ : _ ∧ _ ∧ _)
 refine kO hK ?_
 clear hK K
 refine vW 7 rfl ?_
 refine vW 8 rfl ?_
 refine nT 9 rfl fun K hK => ?_
 go_simp
 refine (Vb (hg : Int) w7).mono ?_
 rintro y w9 ⟨rfl, rfl⟩
 go_wp2_with fail
 have hHeld := (⟨b.1, b.2.1, b.2.2⟩ : _ ∧ _ ∧ _)
 refine kO hK ?_
 clear hK K
 refine nT 10 rfl fun K hK => ?_
 have g := lX.out.f3
 have hnew := ((lX.out.ak 0 (nU e0.key)).ak 1 (nU e0.val)).ak 2 (nU e0.hash)
 have hm := (((Mod.refl [bx] w7).sl 0 (nU e0.key)).sl 1 (nU e0.val)).sl 2 (nU e0.hash)
 simp only [pt] at hnew
 have iJ := qd hnew
 have I9 := qd hm
 clear hnew hm
 go_simp
 refine cO (F := fun v => aj v bx 38 #[nU e0.key, nU e0.val, nU e0.hash] ∧ Mod [bx] w7 v) ⟨iJ.out, I9.out⟩ ?_
 clear iJ I9 b g
 rintro Oj ⟨wD, jW⟩
 replace HC := qd (HC.out.aside jW Mk.out Sm.out)
 replace lX := qd wD
 clear wD jW
 have b := lX.out.c3
 have hHeld := (⟨b.1, b.2.1, b.2.2⟩ : _ ∧ _ ∧ _)
 refine kO hK ?_
 clear hK K
 refine vW 11 rfl ?_
 refine vW 12 rfl ?_
 refine aT (by kernel_rfl) ?_ _
 go_wp2
 refine bodyPost_ret (v := .tuple #[.agg #[nU e0.key, nU e0.val, nU e0.hash], .bool bs, nU hg]) (by simp [results, Tryz.results71, go_sem, b.1, b.2.1, b.2.2]) rfl ?_
 have hfin : Ti W0 E H C w0 G0 F st key hash (.tuple #[.agg #[nU e0.key, nU e0.val, nU e0.hash], .bool bs, nU hg]) Oj := ⟨id, N, o, x5, HN.out, kg.out, HO.out, by rw [Mj.out, HB0.out, HHg.out, S9.out, Bj.out]; rfl, HC.out, mX.out⟩
 first | exact ⟨_, rfl, hfin⟩ | exact hfin | exact ⟨rfl, hfin⟩
end
section
variable {W0 w w0 : World} {E : Nat → Addr} {H : Nat → Nat} {C : gV} {F G0 : List Nat} {st : kr}
theorem Ml (h : aA W0 E H C w0 G0 w F st) (hi : jJ st.a st.ids []) (e : av) (he : j5 H e) (hk : ∀ y ∈ st.a.ents, y.key ≠ e.key) (hle : st.len < C.M) (hln : st.len = st.a.ents.length) : Calls Tryz.prog 24 #[aU C.mb, nU e.key, nU e.val, nU e.hash] w fun y w' => y = .returned (.nilIface) ∧ ∃ id, wC W0 E H C w0 G0 st id [] [e] (st.len + 1) w' := by
 have h64 := he.h64
 have bD := qd he
 have qI := qd hln
 have jf := qd (kQ h)
 have hbd := h.bounds
 have mV := qd hbd
 have HI := qd hi
 obtain ⟨N, hN, htp⟩ := hi.dir.at_ h64 hbd.1
 have yQ := qd htp
 obtain ⟨id, hid⟩ : ∃ id, id = st.a.l.getD (dP (e.hash) st.a.d) 0 := ⟨_, rfl⟩
 rw [← hid] at hN
 have HN := qd hN
 have kg := qd hid
 clear hln he h hi hbd hN hid htp
 unfold aU
 have hlt : (st.len : Int) < (C.M : Int) := by omega
 go_in
 go_wp2_with fail
 refine jf.out.mono ?_
 rintro y w1 ⟨rfl, h1⟩
 have HC := qd h1
 clear h1 jf
 have jZ := qd (qm HC.out (e.hash) id h64 kg.out.symm (bA HN.out))
 unfold aU aK at jZ
 go_wp2_with fail
 refine jZ.out.mono ?_
 rintro y w2 ⟨rfl, hb⟩
 replace HC := qd (HC.out.below hb)
 clear hb jZ
 obtain ⟨c0, c1, c11, c12, c13, c14, c15⟩ := HC.out.cells
 go_upto_region 3 with fail
 go_region
 clear c0 c1 c11 c12 c13 c14 c15
 replace HC := qd (HC.out.below (Below.refl w2.heap.size w2).drew)
 go_wp2_with fail
 refine (iN (some ⟨C.mb, 3, none⟩) (World.drew w2)).mono ?_
 rintro y w3 ⟨rfl, hb⟩
 replace HC := qd (HC.out.below hb)
 clear hb
 obtain ⟨Fi, n1, n2, n3, n4, n5, n6⟩ := HC.out.node HN.out
 have hNe : ∀ y ∈ N.ents, y.key ≠ e.key := fun y hy => hk y (lg.2 ⟨id, N, HN.out, hy⟩)
 have zD : N.ents.length + 1 ≤ 192 := by
  obtain ⟨B, B', b1, _⟩ := qo (N' := N) HN.out
  have h1 : st.a.ents.length = (B ++ (N.ents ++ B')).length := by unfold Pool.ents; rw [b1]
  rw [List.length_append, List.length_append] at h1
  have h2 := HC.out.mm.2
  have h3 := qI.out
  omega
 have hsl := HI.out.sl id N HN.out (by simp)
 have fZ := qd (Qk e n1 n2 bD.out yQ.out HC.out.aC.met HC.out.aC.env HC.out.aC.qg n3 hNe zD hsl)
 have HX := qd n6
 have jU := qd (fun (N1 : Nd) (hw : Wr H [] [e] N N1) => BM HI.out HN.out hw)
 clear n1 n2 n3 n4 n5 n6 hNe hk zD hsl hlt
 unfold aK aM at fZ
 go_wp2_with fail
 refine fZ.out.mono ?_
 rintro y w4 ⟨rfl, x4, N1, q1, q2, q3, q4, q5⟩
 obtain ⟨F4, xD⟩ := HX.out w4 Fi _ N1 x4 q1 q2.ok (fun q hq => .inl hq) q3 q5 (fun q hq => List.mem_cons.1 hq)
 have iw := qd xD
 have mX := qd q4
 have jO := qd q2
 clear xD q1 q2 q3 q4 q5 fZ HX HC
 obtain ⟨c0, c1, c11, c12, c13, c14, c15⟩ := iw.out.cells
 have f15 := iw.out.frozen 15
 obtain ⟨ln, hln⟩ : ∃ ln, ln = st.len + 1 := ⟨_, rfl⟩
 have acI := iw.out.mm.2
 have hwr : IntKind.i64.wrap ((st.len : Int) + 1) = (ln : Int) := by rw [IntKind.wrap_i64] <;> omega
 have qN := qd hln
 have kN := qd (iw.out.SY ln)
 clear hln
 go_upto_region 10 with fail
 refine cO (F := fun v => aA W0 E H C w0 G0 v F4 { st with a := { st.a with Ns := st.a.Ns.set id N1 }, x := x4, len := ln }) kN.out ?_
 rintro w6 tV
 clear c0 c1 c11 c12 c13 c14 c15 f15 iw kN hwr
 have kN := qd tV
 have l7 := qd (mW kN.out.again id N1 (by show (st.a.Ns.set id N1)[id]? = some N1; rw [jR (bA HN.out), if_pos rfl]) (jU.out N1 jO.out))
 clear tV jU
 unfold aU aK at l7
 go_wp2_with fail
 refine l7.out.mono ?_
 rintro y w7 ⟨rfl, hmt⟩
 obtain ⟨hmt, _⟩ := hmt.chain kN.out
 have mD := qd hmt
 clear hmt l7 kN
 go_wp2
 refine bodyPost_ret (v := .nilIface) (by simp [results, Tryz.results24, go_sem]) rfl ⟨rfl, id, ?_⟩
 rw [← qN.out]; exact ⟨N, N1, x4, HN.out, jO.out, mX.out, mD.out⟩
theorem Em (h : aA W0 E H C w0 G0 w F st) (hi : jJ st.a st.ids []) (e : av) (he : j5 H e) (e0 : av) (he0 : e0 ∈ st.a.ents) (hk : e0.key = e.key) (hle : st.len < C.M) : Calls Tryz.prog 24 #[aU C.mb, nU e.key, nU e.val, nU e.hash] w fun y w' => y = .returned (.nilIface) ∧ ∃ id, wC W0 E H C w0 G0 st id [e0] [{ e0 with val := e.val }] st.len w' := by
 have h64 := he.h64
 have bD := qd he
 have La := qd he.hash
 have jf := qd (kQ h)
 have hbd := h.bounds
 have mV := qd hbd
 have HI := qd hi
 obtain ⟨N, hN, htp⟩ := hi.dir.at_ h64 hbd.1
 have yQ := qd htp
 obtain ⟨id, hid⟩ : ∃ id, id = st.a.l.getD (dP (e.hash) st.a.d) 0 := ⟨_, rfl⟩
 rw [← hid] at hN
 have HN := qd hN
 have kg := qd hid
 clear he h hi hbd hN hid htp
 unfold aU
 have hlt : (st.len : Int) < (C.M : Int) := by omega
 go_in
 go_wp2_with fail
 refine jf.out.mono ?_
 rintro y w1 ⟨rfl, h1⟩
 have HC := qd h1
 clear h1 jf
 have jZ := qd (qm HC.out (e.hash) id h64 kg.out.symm (bA HN.out))
 unfold aU aK at jZ
 go_wp2_with fail
 refine jZ.out.mono ?_
 rintro y w2 ⟨rfl, hb⟩
 replace HC := qd (HC.out.below hb)
 clear hb jZ
 obtain ⟨c0, c1, c11, c12, c13, c14, c15⟩ := HC.out.cells
 go_upto_region 3 with fail
 go_region
 clear c0 c1 c11 c12 c13 c14 c15
 replace HC := qd (HC.out.below (Below.refl w2.heap.size w2).drew)
 go_wp2_with fail
 refine (iN (some ⟨C.mb, 3, none⟩) (World.drew w2)).mono ?_
 rintro y w3 ⟨rfl, hb⟩
 replace HC := qd (HC.out.below hb)
 clear hb
 obtain ⟨Fi, n1, n2, n3, n4, n5, n6⟩ := HC.out.node HN.out
 have hNe : e0 ∈ N.ents := xC HI.out.dir mV.out.1 mV.out.2.2.2 (key := e.key) (by rw [← La.out]; exact kg.out.symm) HN.out he0 hk
 have fZ := qd (Bt e true n1 n2 La.out h64 bD.out.v64 HC.out.aC.met HC.out.aC.env HC.out.aC.qg n3 e0 hNe hk)
 have HX := qd n6
 have jU := qd (fun (N1 : Nd) (hw : Wr H [e0] [{ e0 with val := e.val }] N N1) => BM HI.out HN.out hw)
 clear n1 n2 n3 n4 n5 n6 hNe hk he0 hlt
 unfold aK aM at fZ
 go_wp2_with fail
 refine fZ.out.mono ?_
 rintro y w4 ⟨rfl, x4, N1, q1, q2, q3, q4, q5⟩
 obtain ⟨F4, xD⟩ := HX.out w4 Fi _ N1 x4 q1 q2.ok (fun q hq => .inl hq) q3 q5 (fun q hq => List.mem_cons.1 hq)
 have iw := qd xD
 have mX := qd q4
 have jO := qd q2
 clear xD q1 q2 q3 q4 q5 fZ HX HC
 obtain ⟨ln, hln⟩ : ∃ ln, ln = st.len := ⟨_, rfl⟩
 have qN := qd hln
 go_upto_region 10 with fail
 obtain ⟨w6, lu⟩ : ∃ w6, w6 = w4 := ⟨_, rfl⟩
 rw [← lu]
 have tV : aA W0 E H C w0 G0 w6 F4 { st with a := { st.a with Ns := st.a.Ns.set id N1 }, x := x4, len := ln } := by rw [lu, hln]; exact iw.out
 clear iw lu hln
 have kN := qd tV
 have l7 := qd (mW kN.out.again id N1 (by show (st.a.Ns.set id N1)[id]? = some N1; rw [jR (bA HN.out), if_pos rfl]) (jU.out N1 jO.out))
 clear tV jU
 unfold aU aK at l7
 go_wp2_with fail
 refine l7.out.mono ?_
 rintro y w7 ⟨rfl, hmt⟩
 obtain ⟨hmt, _⟩ := hmt.chain kN.out
 have mD := qd hmt
 clear hmt l7 kN
 go_wp2
 refine bodyPost_ret (v := .nilIface) (by simp [results, Tryz.results24, go_sem]) rfl ⟨rfl, id, ?_⟩
 rw [← qN.out]; exact ⟨N, N1, x4, HN.out, jO.out, mX.out, mD.out⟩
theorem En (h : aA W0 E H C w0 G0 w F st) (hi : jJ st.a st.ids []) (e : av) (he : j5 H e) (e0 : av) (he0 : e0 ∈ st.a.ents) (hk : e0.key = e.key) (hle : ¬ st.len < C.M) : Calls Tryz.prog 24 #[aU C.mb, nU e.key, nU e.val, nU e.hash] w fun y w' => y = .returned (.nilIface) ∧ ∃ id, wC W0 E H C w0 G0 st id [e0] [{ e0 with val := e.val }] st.len w' := by
 have h64 := he.h64
 have bD := qd he
 have La := qd he.hash
 have jf := qd (kQ h)
 have hbd := h.bounds
 have mV := qd hbd
 have HI := qd hi
 obtain ⟨N, hN, htp⟩ := hi.dir.at_ h64 hbd.1
 have yQ := qd htp
 obtain ⟨id, hid⟩ : ∃ id, id = st.a.l.getD (dP (e.hash) st.a.d) 0 := ⟨_, rfl⟩
 rw [← hid] at hN
 have HN := qd hN
 have kg := qd hid
 clear he h hi hbd hN hid htp
 unfold aU
 have hlt : ¬ (st.len : Int) < (C.M : Int) := by omega
 go_in
 go_wp2_with fail
 refine jf.out.mono ?_
 rintro y w1 ⟨rfl, h1⟩
 have HC := qd h1
 clear h1 jf
 have jZ := qd (qm HC.out (e.hash) id h64 kg.out.symm (bA HN.out))
 unfold aU aK at jZ
 go_wp2_with fail
 refine jZ.out.mono ?_
 rintro y w2 ⟨rfl, hb⟩
 replace HC := qd (HC.out.below hb)
 clear hb jZ
 obtain ⟨c0, c1, c11, c12, c13, c14, c15⟩ := HC.out.cells
 go_upto_region 3 with fail
 go_region
 clear c0 c1 c11 c12 c13 c14 c15
 replace HC := qd (HC.out.below (Below.refl w2.heap.size w2).drew)
 go_wp2_with fail
 refine (iN (some ⟨C.mb, 3, none⟩) (World.drew w2)).mono ?_
 rintro y w3 ⟨rfl, hb⟩
 replace HC := qd (HC.out.below hb)
 clear hb
 obtain ⟨Fi, n1, n2, n3, n4, n5, n6⟩ := HC.out.node HN.out
 have hNe : e0 ∈ N.ents := xC HI.out.dir mV.out.1 mV.out.2.2.2 (key := e.key) (by rw [← La.out]; exact kg.out.symm) HN.out he0 hk
 have fZ := qd (Bt e false n1 n2 La.out h64 bD.out.v64 HC.out.aC.met HC.out.aC.env HC.out.aC.qg n3 e0 hNe hk)
 have HX := qd n6
 have jU := qd (fun (N1 : Nd) (hw : Wr H [e0] [{ e0 with val := e.val }] N N1) => BM HI.out HN.out hw)
 clear n1 n2 n3 n4 n5 n6 hNe hk he0 hlt
 unfold aK aM at fZ
 go_wp2_with fail
 refine fZ.out.mono ?_
 rintro y w4 ⟨rfl, x4, N1, q1, q2, q3, q4, q5⟩
 obtain ⟨F4, xD⟩ := HX.out w4 Fi _ N1 x4 q1 q2.ok (fun q hq => .inl hq) q3 q5 (fun q hq => List.mem_cons.1 hq)
 have iw := qd xD
 have mX := qd q4
 have jO := qd q2
 clear xD q1 q2 q3 q4 q5 fZ HX HC
 obtain ⟨ln, hln⟩ : ∃ ln, ln = st.len := ⟨_, rfl⟩
 have qN := qd hln
 go_upto_region 10 with fail
 obtain ⟨w6, lu⟩ : ∃ w6, w6 = w4 := ⟨_, rfl⟩
 rw [← lu]
 have tV : aA W0 E H C w0 G0 w6 F4 { st with a := { st.a with Ns := st.a.Ns.set id N1 }, x := x4, len := ln } := by rw [lu, hln]; exact iw.out
 clear iw lu hln
 have kN := qd tV
 have l7 := qd (mW kN.out.again id N1 (by show (st.a.Ns.set id N1)[id]? = some N1; rw [jR (bA HN.out), if_pos rfl]) (jU.out N1 jO.out))
 clear tV jU
 unfold aU aK at l7
 go_wp2_with fail
 refine l7.out.mono ?_
 rintro y w7 ⟨rfl, hmt⟩
 obtain ⟨hmt, _⟩ := hmt.chain kN.out
 have mD := qd hmt
 clear hmt l7 kN
 go_wp2
 refine bodyPost_ret (v := .nilIface) (by simp [results, Tryz.results24, go_sem]) rfl ⟨rfl, id, ?_⟩
 rw [← qN.out]; exact ⟨N, N1, x4, HN.out, jO.out, mX.out, mD.out⟩
theorem Gz (h : aA W0 E H C w0 G0 w F st) (hi : jJ st.a st.ids []) (e : av) (he : j5 H e) (e0 : av) (he0 : e0 ∈ st.a.ents) (hk : e0.key = e.key) : Calls Tryz.prog 24 #[aU C.mb, nU e.key, nU e.val, nU e.hash] w fun y w' => y = .returned (.nilIface) ∧ ∃ id, wC W0 E H C w0 G0 st id [e0] [{ e0 with val := e.val }] st.len w' := by
 by_cases hle : st.len < C.M
 ·exact Em h hi e he e0 he0 hk hle
 ·exact En h hi e he e0 he0 hk hle
theorem JO (h : aA W0 E H C w0 G0 w F st) (hi : jJ st.a st.ids []) (e : av) (he : j5 H e) (hk : ∀ y ∈ st.a.ents, y.key ≠ e.key) (hle : ¬ st.len < C.M) : Calls Tryz.prog 24 #[aU C.mb, nU e.key, nU e.val, nU e.hash] w fun y w' => y = .returned (kT E 2) ∧ ∃ x', aA W0 E H C w0 G0 w' F { st with x := x' } ∧ dI ⟨st.x.all, ⟨0, 0, 0⟩⟩ x' 128 0 := by
 have h64 := he.h64
 have bD := qd he
 have jf := qd (kQ h)
 have hbd := h.bounds
 have mV := qd hbd
 have HI := qd hi
 obtain ⟨N, hN, htp⟩ := hi.dir.at_ h64 hbd.1
 have yQ := qd htp
 obtain ⟨id, hid⟩ : ∃ id, id = st.a.l.getD (dP (e.hash) st.a.d) 0 := ⟨_, rfl⟩
 rw [← hid] at hN
 have HN := qd hN
 have kg := qd hid
 clear he h hi hbd hN hid htp
 unfold aU
 have hlt : ¬ (st.len : Int) < (C.M : Int) := by omega
 go_in
 go_wp2_with fail
 refine jf.out.mono ?_
 rintro y w1 ⟨rfl, h1⟩
 have HC := qd h1
 clear h1 jf
 have jZ := qd (qm HC.out (e.hash) id h64 kg.out.symm (bA HN.out))
 unfold aU aK at jZ
 go_wp2_with fail
 refine jZ.out.mono ?_
 rintro y w2 ⟨rfl, hb⟩
 replace HC := qd (HC.out.below hb)
 clear hb jZ
 obtain ⟨c0, c1, c11, c12, c13, c14, c15⟩ := HC.out.cells
 go_upto_region 3 with fail
 go_region
 clear c0 c1 c11 c12 c13 c14 c15
 replace HC := qd (HC.out.below (Below.refl w2.heap.size w2).drew)
 go_wp2_with fail
 refine (iN (some ⟨C.mb, 3, none⟩) (World.drew w2)).mono ?_
 rintro y w3 ⟨rfl, hb⟩
 replace HC := qd (HC.out.below hb)
 clear hb
 obtain ⟨Fi, n1, n2, n3, n4, n5, n6⟩ := HC.out.node HN.out
 have hNe : ∀ y ∈ N.ents, y.key ≠ e.key := fun y hy => hk y (lg.2 ⟨id, N, HN.out, hy⟩)
 have yB := Nv e n1 n2 bD.out.hash h64 HC.out.aC.met HC.out.aC.env HC.out.aC.qg n3 hNe
 rw [jd E (by omega)] at yB
 have fZ := qd yB
 clear yB n1 n2 n3 n4 n5 n6 hNe hk
 unfold aK aM at fZ
 go_wp2_with fail
 refine fZ.out.mono ?_
 rintro y w4 ⟨rfl, x4, q3, q4, q5⟩
 have iw := qd (HC.out.met q3 q5)
 have mX := qd q4
 clear q3 q4 q5 fZ HC
 have ce : w4.cell? ⟨4, 0, none⟩ = some (.iface 286 (.pointer (some (E 2)))) := iw.out.aC.env.errs.at_ 2 (by omega) (by omega)
 have XR := qd (NS (E 2) w4)
 go_wp2_with fail
 refine XR.out.mono ?_
 rintro y w5 ⟨rfl, rfl⟩
 go_wp2_with fail
 refine (Bb w4).mono ?_
 rintro y w5 ⟨rfl, rfl⟩
 go_wp2
 refine bodyPost_ret (v := .iface 286 (.pointer (some (E 2)))) (by simp [results, Tryz.results24, go_sem]) rfl ⟨?_, x4, iw.out, mX.out⟩
 rw [jd E (by omega)]
end
end Go.Proofs.YtbphcldoflekpaaGreatDoor
