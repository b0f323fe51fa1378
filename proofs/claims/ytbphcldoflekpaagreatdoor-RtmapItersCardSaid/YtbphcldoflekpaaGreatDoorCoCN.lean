/- A core's maintain by its contract. -/
import Derived.Test.YtbphcldoflekpaaGreatDoorCoCM
import Derived.Test.YtbphcldoflekpaaGreatDoorSqT
import Derived.Test.YtbphcldoflekpaaGreatDoorLaneP
namespace Go.Proofs.YtbphcldoflekpaaGreatDoor
set_option maxRecDepth 100000
set_option maxHeartbeats 8000000
open Go.RowKit dA
section
variable {W0 : World} {E : Nat → Addr} {H : Nat → Nat} {C : gV} {w0 : World} {G0 : List Nat} {w w' : World} {F : List Nat} {st : kr}
theorem aA.double (h : aA W0 E H C w0 G0 w F st) {cb fb fe : Nat} {w1 : World} (hc : st.a.cop = none) (hC : iW w1 cb C.A.db C.A.eb fb fe st.a.d 0 st.a.l (List.replicate (2 ^ (st.a.d + 1)) 0)) (h1 : w.heap.size ≤ cb) (h2 : w.heap.size ≤ fb) (h3 : w.heap.size ≤ fe) (hb : Below w.heap.size w w1) (xZ : 32 ∉ st.ids) :
  ∃ F', aA W0 E H { C with A := { C.A with cb := cb, fb := fb, fe := fe }, v := C.v } w0 G0 (w1.setCell ⟨C.mb, 13, none⟩ (pQ cb)) F' { st with a := { st.a with cop := some (0, List.replicate (2 ^ (st.a.d + 1)) 0) } } := by
 obtain ⟨Fs, hF, hp⟩ := h.aC.pool
 have hml : C.mb < w.heap.size := h.aC.met.lt
 have hm : Mod [C.mb] w (w1.setCell ⟨C.mb, 13, none⟩ (pQ cb)) := (Mod.of_below hb [C.mb]).ak (.inl (by simp)) _ _
 have hmb : ∀ q ∈ F, q ∉ [C.mb] := fun q hq e => h.hp.mb h.aC.pool (by show C.mb ∈ F; rw [← List.mem_singleton.1 e]; exact hq)
 have hlts := h.iF
 have wh : ∀ q ∈ F, q < w.heap.size := fun q hq => hlts q (aZ.2 (.inr (.inr (.inl hq))))
 have xA : ∀ i, i < st.a.Ns.length → ∀ q ∈ Fs i, q ∈ F := fun i hi q hq => hF ▸ aP.2 (.inl ⟨i, hi, hq⟩)
 have tO : ∀ q ∈ C.A.dU st.a.cop, q ∈ F := fun q hq => hF ▸ aP.2 (.inr hq)
 have hC2 : iW (w1.setCell ⟨C.mb, 13, none⟩ (pQ cb)) cb C.A.db C.A.eb fb fe st.a.d 0 st.a.l (List.replicate (2 ^ (st.a.d + 1)) 0) :=
  hC.mod (S := [C.mb]) ((Mod.refl _ w1).ak (.inl (by simp)) _ _) (fun q hq dH => by
   have := List.mem_singleton.1 dH
   simp at hq
   rcases hq with e | e | e | e | e
   ·omega
   ·exact hmb q (tO q (by unfold dw.dU; simp [e])) (by simp [this])
   ·exact hmb q (tO q (by unfold dw.dU; simp [e])) (by simp [this])
   ·omega
   ·omega)
 have hdf : ∀ q, q ∈ ({ C.A with cb := cb, fb := fb, fe := fe } : dw).dU (some (0, List.replicate (2 ^ (st.a.d + 1)) 0)) ↔ q ∈ C.A.dU st.a.cop ∨ q = cb ∨ q = fb ∨ q = fe := fun q => by
  unfold dw.dU; rw [hc]; simp; omega
 have hin : ∀ q, q ∈ gL ({ C.A with cb := cb, fb := fb, fe := fe } : dw) Fs { st.a with cop := some (0, List.replicate (2 ^ (st.a.d + 1)) 0) } → q ∈ F ∨ w.heap.size ≤ q := fun q hq => by
  rcases aP.1 hq with ⟨i, hi, hq2⟩ | hq2
  ·exact .inl (xA i hi q hq2)
  ·rcases (hdf q).1 hq2 with e | e | e | e
   ·exact .inl (tO q e)
   ·exact .inr (by omega)
   ·exact .inr (by omega)
   ·exact .inr (by omega)
 have hP : iM W0 C.mb H ({ C.A with cb := cb, fb := fb, fe := fe } : dw) (w1.setCell ⟨C.mb, 13, none⟩ (pQ cb)) Fs { st.a with cop := some (0, List.replicate (2 ^ (st.a.d + 1)) 0) } :=
  ⟨fun i N hN => ⟨(hp.ko i N hN).1.mod hm (fun q hq => hmb q (xA i (bA hN) q hq)), (hp.ko i N hN).2⟩, hC2.old, fun next lf he => by
   have := Option.some.inj he
   cases this
   exact hC2, hp.sep, fun i hi q hq hq2 => by
   have hq' := xA i hi q hq
   rcases (hdf q).1 hq2 with e | e | e | e
   ·exact hp.uw i hi q hq e
   ·have := wh q hq'; omega
   ·have := wh q hq'; omega
   ·have := wh q hq'; omega, fun q hq => by
   rcases hin q hq with e | e
   ·exact hp.low q (hF ▸ e)
   ·have := h.aC.env.size; omega, fun hq => by
   rcases hin _ hq with e | e
   ·exact hmb _ e (by simp)
   ·omega, hp.wm⟩
 refine ⟨_, h.upd { C.A with cb := cb, fb := fb, fe := fe } C.v { st with a := { st.a with cop := some (0, List.replicate (2 ^ (st.a.d + 1)) 0) } } hm (fun q hq => aZ.2 (.inl (List.mem_singleton.1 hq))) ((h.aC.aC.mod hm (fun q hq dH => (h.aC.apart q hq).2.1 (List.mem_singleton.1 dH))).XH (fun id hid => ?_)) ⟨Fs, rfl, hP⟩ ⟨rfl, ?_⟩ (kZ (st := st) h hm (fun q hq => .inl (List.mem_singleton.1 hq))) h.pos hin (fun g hg => ⟨.inl hg, fun hh => by have := (h.row.lt g hg).2; omega⟩)⟩
 ·have hne : id ≠ 32 := fun e => xZ (e ▸ hid)
  show C.A.val id = ({ C.A with cb := cb, fb := fb, fe := fe } : dw).val id
  unfold dw.val dw.ja
  simp only
  rw [if_neg hne, if_neg hne]
  rfl
 ·exact ((Met.blk h.aC.met).mod (Mod.of_below hb []) (by simp)).ak 13 _
end
theorem Ny {W0 : World} {E : Nat → Addr} {P : MP} {α : Type} {jt : Nat → TypeId} {ja : Nat → Addr} {At : World → List Nat → α → Prop} {can : α → Nat → Prop} {left : α → Nat → Nat} {Stp : α → Nat → α → Prop} (HP : iH W0 E P jt ja At can left Stp) (s : SP) (F : List Nat) (K : Nat) (hK : 1 ≤ K ∧ K ≤ 64) (hk : s.k = (K : Int)) (b : Int) (ids : List Nat) (a : α) (x : bM) (own : Nat) (kL : own ≤ 1000) (hval : ∀ id, s.val id = .iface (jt id) (.pointer (some (ja id)))) (hcan : ∀ id ∈ ids, can a id ∧ id ≤ 1000) (w : World) (h : bG W0 E P At s w F w b ids a F x) :
  Calls Tryz.prog 91 #[eu s.sb, lT P, nI own] w fun e w' => ∃ A cc e1 bO a1 a2 F' x' b', e = .returned (.slice A (e1 ++ gq left a2 bO).length cc) ∧ w'.ownsRow w.heap.size 3 1 (.slice A (e1 ++ gq left a2 bO).length cc) (e1 ++ gq left a2 bO).length (dz (e1 ++ gq left a2 bO)) ∧ tL left Stp ids own (8 * K) a a1 ∧ qh left Stp K ids a1 e1 bO a2 ∧ bG W0 E P At s w F w' b' (gY left a2 bO) a2 F' x' ∧ dI x x' 0 (9 * K) ∧ mM P s F' (.slice A (e1 ++ gq left a2 bO).length cc) := by
 by_cases hin : own ∈ ids
 ·exact Gu HP s F K hK hk b ids a x own kL hin hval hcan w h
 ·exact FC HP s F K hK hk b ids a x own kL hin hval hcan w h
def yX (W0 : World) (E : Nat → Addr) (H : Nat → Nat) (C : gV) (w0 : World) (G0 : List Nat) (st : kr) (id : Nat) (w' : World) : Prop :=
 ∃ (A' : dw) (v' : Value) (F' : List Nat) (a' : Pool) (aI : List Nat) (b' : Int) (x' : bM) (u : Nat), Qy H C.K st.a st.ids id a' aI ∧ jJ a' aI [] ∧ a'.ents.Perm st.a.ents ∧ aA W0 E H { C with A := A', v := v' } w0 G0 w' F' { st with a := a', ids := aI, b := b', x := x' } ∧ dI st.x x' 0 u
theorem I6 {l t : Int} {g lo gl : Nat} (h : iE l t g lo gl = 0) : eG l t g lo gl = false := by
 unfold iE at h
 unfold eG
 split at h
 ·next h1 => rw [h1]; rfl
 ·split at h
  ·cases h
  ·split at h
   ·cases h
   ·split at h <;> cases h
theorem aah {l t : Int} {g lo gl : Nat} (h : eG l t g lo gl = true) : gl < 5 := by
 unfold eG at h
 simp at h
 omega
theorem mW {W0 : World} {E : Nat → Addr} {H : Nat → Nat} {C : gV} {w0 : World} {G0 : List Nat} {w : World} {F : List Nat} {st : kr} (h : aA W0 E H C w0 G0 w F st) (id : Nat) (N : Nd) (hN : st.a.Ns[id]? = some N) (hcp : Qz st.a st.ids id) : Calls Tryz.prog 57 #[aU C.mb, nI id, aK (C.A.nb id)] w fun e w' => e = .returned undef ∧ yX W0 E H C w0 G0 st id w' := by
 have HC := qd h
 obtain ⟨c0, c1, c11, c12, c13, c14, c15⟩ := HC.out.cells
 have hid := bA hN
 have hbd := h.bounds
 have kL : id ≤ 1000 := by have := hbd.2.1; omega
 have h32 : id ≠ 32 := by have := hbd.2.1; omega
 have hO := hbd.2.2.2 id N hN
 obtain ⟨Fs, hF, hpo⟩ := h.aC.pool
 have Bj := qd (IC C.A.db C.A.eb st.a.d st.a.l w hpo.dir)
 obtain ⟨hnA, _⟩ := hpo.ko id N hN
 obtain ⟨k, Mh, hW, hcase⟩ : ∃ (k : Nat) (Mh : Bool), (Calls Tryz.prog 85 #[aK (C.A.nb id), nI st.a.d] w fun e w' => e = .returned (.tuple #[nI k, .bool Mh]) ∧ Below w.heap.size w w') ∧ ((N.ph.busy = true ∧ k = 0 ∧ Mh = false) ∨ (N.ph = .idle ∧ iE N.T.live N.T.bR N.len N.au st.a.d = k ∧ eG N.T.live N.T.bR N.len N.au st.a.d = Mh)) := by
  cases hb : N.ph.busy with
  | true =>
   exact ⟨0, false, JJ st.a.d hnA hb, .inl ⟨rfl, rfl, rfl⟩⟩
  | false =>
   exact ⟨_, _, JK st.a.d hnA hO (Gw hb), .inr ⟨Gw hb, rfl, rfl⟩⟩
 have HW := qd hW
 have Te := qd hcase
 have HO := qd hO
 have HN := qd hN
 have jU := qd hcp
 have mV := qd hbd
 have adJ : st.ids.length ≤ 33 := by
  have hh := Gv st.ids (List.range 33) hcp.nd (fun x hx => by
   rw [List.mem_range]
   rcases (hcp.iU x).2 hx with ⟨M, h1, _⟩ | ⟨_, h1, _⟩
   ·have := bA h1
    have h3 := hbd.2.1
    omega
   ·omega)
  simpa [nI, nU] using hh
 clear h hW hcase hO hN hcp hpo hF hnA hbd hid
 unfold iA at Bj
 unfold aK at HW
 unfold aU aK
 go_in
 go_wp2_with fail
 refine Bj.out.mono ?_
 rintro x w1 ⟨rfl, rfl⟩
 go_wp2_with fail
 refine HW.out.mono ?_
 rintro x w1 ⟨rfl, hb⟩
 replace HC := qd (HC.out.below hb)
 clear c0 c1 c11 c12 c13 c14 c15 Bj HW hb
 by_cases hk0 : k = 0
 focus
  subst hk0
  have hki : ¬ ((0 : Nat) : Int) ≠ 0 := by omega
  have hdb : Mh = false := by
   rcases Te.out with ⟨_, _, h1⟩ | ⟨_, h1, h2⟩
   ·exact h1
   ·rw [← h2]; exact I6 h1
  subst hdb
  obtain ⟨a1, bO, F1, Ej, XO⟩ : ∃ a1 bO F1, yg st.a st.ids id a1 bO ∧ (bO = st.ids) ∧ aA W0 E H C w0 G0 w1 F1 { st with a := a1, ids := bO } := by
   rcases Te.out with ⟨h1, _, _⟩ | ⟨h1, h2, h3⟩
   ·exact ⟨st.a, st.ids, F, .busy HN.out h1, rfl, HC.out⟩
   ·obtain ⟨Fi, n1, n2, n3, n4, n5, n6⟩ := HC.out.node HN.out
    obtain ⟨F2, hf2⟩ := n6 w1 Fi [] { N with sl := 0 } st.x n1 (Yy n2 h1 h2) (fun q hq => .inl hq) HC.out.aC.met (Mod.refl _ _) (by simp)
    exact ⟨_, st.ids, F2, .none HN.out h1 h2, rfl, hf2⟩
  obtain ⟨XP, XO⟩ := XO
  obtain ⟨hsv, hd1, hl1, hc1, he1⟩ := OM jU.out (fun M hM => by rw [HN.out] at hM; cases hM; exact HO.out) Ej
  have tJ := qd Ej
  obtain ⟨a2, aO, A1, v1, x2, b2, ha2⟩ : ∃ (a2 : Pool) (aO : List Nat) (A1 : dw) (v1 : Value) (x2 : bM) (b2 : Int), a2 = a1 ∧ aO = bO ∧ A1 = C.A ∧ v1 = C.v ∧ x2 = st.x ∧ b2 = st.b := ⟨_, _, _, _, _, _, rfl, rfl, rfl, rfl, rfl, rfl⟩
  obtain ⟨g1, g2, g3, g4, g5, g6⟩ := ha2
  have tK := qd (show BI (Mg st.a id) a1 bO a2 aO from by rw [g1, g2]; exact .not)
  have xB := qd (show BJ a2 aO id from by rw [g1, g2]; exact hsv)
  have sP := qd (show a2.ents = st.a.ents from by rw [g1]; exact he1)
  have mX := qd (show dI st.x x2 0 0 from by rw [g5]; exact dI.refl _)
  have QA : aO.length ≤ 40 := by rw [g2, XP]; omega
  obtain ⟨V, hV⟩ : ∃ V, V = w1 := ⟨_, rfl⟩
  have rF := qd (show aA W0 E H { C with A := A1, v := v1 } w0 G0 V F1 { st with a := a2, ids := aO, b := b2, x := x2 } from by rw [g1, g2, g3, g4, g5, g6, hV]; exact XO)
  rw [← hV]
  clear HC XO hsv Ej hd1 hl1 hc1 he1 g1 g2 g3 g4 g5 g6 XP hV Te jU mV HO
  have HC := rF
  clear rF
  go_upto_region 7 with fail
 rotate_left
 focus
  have hki : ¬ (k : Int) = 0 := by omega
  have hcs : N.ph = .idle ∧ iE N.T.live N.T.bR N.len N.au st.a.d = k ∧ eG N.T.live N.T.bR N.len N.au st.a.d = Mh := by
   rcases Te.out with ⟨_, h1, _⟩ | h1
   ·exact absurd h1 hk0
   ·exact h1
  have Tf := qd hcs
  have Ej := yg.start (ids := st.ids) HN.out hcs.1 hcs.2.1 hk0
  obtain ⟨hsv, hd1, hl1, hc1, he1⟩ := OM jU.out (fun M hM => by rw [HN.out] at hM; cases hM; exact HO.out) Ej
  have tJ := qd Ej
  have xB := qd hsv
  have Gx := qd he1
  obtain ⟨Fi, n1, n2, n3, n4, n5, n6⟩ := HC.out.node HN.out
  have jg := qd (VK st.a.d k mV.out.1 n1 n2 hcs.1 hcs.2.1 hk0)
  have HX := qd n6
  have OJ := qd n3
  have FL := qd n1.J3
  have aai : id ∉ st.ids := fun hh => by
   have h1 := (jU.out.iU id).2 hh
   rw [Ei HN.out, hcs.1] at h1; cases h1
  have HNi := qd aai
  have HOs := qd (Lj n2 hcs.1 mV.out.1 hcs.2.1 hk0).1
  clear hcs Ej hsv hd1 hl1 hc1 he1 n1 n2 n3 n4 n5 n6 aai Te
  unfold aK at jg
  go_wp2_with fail
  refine jg.out.mono ?_
  rintro x w2 ⟨rfl, F', q1, q2, q3⟩
  obtain ⟨F2, hf2⟩ := HX.out w2 F' _ _ st.x q1 HOs.out q2 (HC.out.aC.met.mod q3 (fun hq => OJ.out (by rw [show C.mb = C.A.nb id from List.mem_singleton.1 hq]; exact FL.out))) q3 (fun q hq => .inr (by rw [List.mem_singleton.1 hq]; exact FL.out))
  have rF := qd hf2
  clear hf2 q1 q2 q3 HC jg HX OJ FL HOs
  go_wp2_with fail
  refine (jh w2).mono ?_
  rintro x w3 ⟨rfl, rfl⟩
  have Mi := qd (L9 rF.out id 91 ⟨C.A.nb id, 0, none⟩ (by unfold dw.val dw.jt dw.ja; rw [if_neg h32, if_neg h32]) HNi.out kL (by show st.ids.length < 40; omega))
  unfold aU at Mi
  go_wp2_with fail
  refine Mi.out.mono ?_
  rintro x w4 ⟨rfl, h4⟩
  have lW := qd h4
  clear h4 rF Mi HNi
  cases hdv : Mh
  case' false =>
   subst hdv
   obtain ⟨c0, c1, c11, c12, c13, c14, c15⟩ := lW.out.cells
   go_upto_region 7 with fail
   clear c0 c1 c11 c12 c13 c14 c15
   obtain ⟨a2, aO, A1, v1, x2, b2, F1, V, ha2⟩ : ∃ (a2 : Pool) (aO : List Nat) (A1 : dw) (v1 : Value) (x2 : bM) (b2 : Int) (F1 : List Nat) (V : World), a2 = { st.a with Ns := st.a.Ns.set id (N.start k) } ∧ aO = st.ids ++ [id] ∧ A1 = C.A ∧ v1 = C.v ∧ x2 = st.x.add (cU 1) 1 ∧ b2 = st.b ∧ F1 = F2 ∧ V = w4 := ⟨_, _, _, _, _, _, _, _, rfl, rfl, rfl, rfl, rfl, rfl, rfl, rfl⟩
   obtain ⟨g1, g2, g3, g4, g5, g6, g7, g8⟩ := ha2
   obtain ⟨a1, bO, hg⟩ : ∃ (a1 : Pool) (bO : List Nat), a1 = a2 ∧ bO = aO := ⟨_, _, rfl, rfl⟩
   obtain ⟨g9, g10⟩ := hg
   have tK := qd (show BI (Mg st.a id) a1 bO a2 aO from by rw [g9, g10]; exact .not)
   have BK := qd (show yg st.a st.ids id a1 bO from by rw [g9, g10, g1, g2]; exact tJ.out)
   have BL := qd (show BJ a2 aO id from by rw [g1, g2]; exact xB.out)
   have sP := qd (show a2.ents = st.a.ents from by rw [g1]; exact Gx.out)
   have mX := qd (show dI st.x x2 0 1 from by rw [g5]; exact qQ _ 1)
   have QA : aO.length ≤ 40 := by rw [g2, List.length_append, List.length_singleton]; omega
   have iw := qd (show aA W0 E H { C with A := A1, v := v1 } w0 G0 V F1 { st with a := a2, ids := aO, b := b2, x := x2 } from by rw [g1, g2, g3, g4, g5, g6, g7, g8]; exact lW.out)
   rw [← g8]
   clear lW tJ xB Gx g1 g2 g3 g4 g5 g6 g7 g8 g9 g10 Tf jU mV HO
   have HC := iw
   have tJ := BK
   have xB := BL
   clear iw BK BL
  case' true =>
   cases Ef : st.a.cop
   case' some cc =>
    subst hdv
    obtain ⟨c0, c1, c11, c12, c13, c14, c15⟩ := lW.out.cells
    have hcv : kM C.A st.a.cop = pQ C.A.cb := by unfold kM; rw [Ef]; rfl
    have V9 : w4.cell? ⟨C.mb, 13, none⟩ = some (pQ C.A.cb) := by rw [← hcv]; exact c13
    clear c13 hcv
    go_upto_region 7 with fail
    clear c0 c1 c11 c12 V9 c14 c15
    obtain ⟨a2, aO, A1, v1, x2, b2, F1, V, ha2⟩ : ∃ (a2 : Pool) (aO : List Nat) (A1 : dw) (v1 : Value) (x2 : bM) (b2 : Int) (F1 : List Nat) (V : World), a2 = { st.a with Ns := st.a.Ns.set id (N.start k) } ∧ aO = st.ids ++ [id] ∧ A1 = C.A ∧ v1 = C.v ∧ x2 = st.x.add (cU 1) 1 ∧ b2 = st.b ∧ F1 = F2 ∧ V = w4 := ⟨_, _, _, _, _, _, _, _, rfl, rfl, rfl, rfl, rfl, rfl, rfl, rfl⟩
    obtain ⟨g1, g2, g3, g4, g5, g6, g7, g8⟩ := ha2
    obtain ⟨a1, bO, hg⟩ : ∃ (a1 : Pool) (bO : List Nat), a1 = a2 ∧ bO = aO := ⟨_, _, rfl, rfl⟩
    obtain ⟨g9, g10⟩ := hg
    have tK := qd (show BI (Mg st.a id) a1 bO a2 aO from by rw [g9, g10]; exact .not)
    have BK := qd (show yg st.a st.ids id a1 bO from by rw [g9, g10, g1, g2]; exact tJ.out)
    have BL := qd (show BJ a2 aO id from by rw [g1, g2]; exact xB.out)
    have sP := qd (show a2.ents = st.a.ents from by rw [g1]; exact Gx.out)
    have mX := qd (show dI st.x x2 0 1 from by rw [g5]; exact qQ _ 1)
    have QA : aO.length ≤ 40 := by rw [g2, List.length_append, List.length_singleton]; omega
    have iw := qd (show aA W0 E H { C with A := A1, v := v1 } w0 G0 V F1 { st with a := a2, ids := aO, b := b2, x := x2 } from by rw [g1, g2, g3, g4, g5, g6, g7, g8]; exact lW.out)
    rw [← g8]
    clear lW tJ xB Gx g1 g2 g3 g4 g5 g6 g7 g8 g9 g10 Tf jU mV HO
    have HC := iw
    have tJ := BK
    have xB := BL
    clear iw BK BL
   case' none =>
    subst hdv
    obtain ⟨c0, c1, c11, c12, c13, c14, c15⟩ := lW.out.cells
    have hcv : kM C.A st.a.cop = .pointer none := by unfold kM; rw [Ef]; rfl
    have V9 : w4.cell? ⟨C.mb, 13, none⟩ = some (.pointer none) := by rw [← hcv]; exact c13
    have hd5 : st.a.d < 5 := aah Tf.out.2.2
    have yV := qd Ef
    obtain ⟨Fs4, hF4, hp4⟩ := lW.out.aC.pool
    have iJ := qd (Nq C.A.db C.A.eb st.a.d st.a.l hd5 w4 hp4.dir)
    have hn32 : 32 ∉ st.ids ++ [id] := fun hh => by
     rcases List.mem_append.1 hh with h1 | h1
     ·rcases (jU.out.iU 32).2 h1 with ⟨M, h2, _⟩ | ⟨_, _, c, h2⟩
      ·have := bA h2
       have h3 := mV.out.2.1
       omega
      ·rw [Ef] at h2; cases h2
     ·exact h32 (List.mem_singleton.1 h1).symm
    have Wd := qd hn32
    have HD5 := qd hd5
    clear c13 hcv hF4 hp4 hn32 Ef
    unfold iA oC at iJ
    go_wp2_with fail
    refine iJ.out.mono ?_
    rintro x w5 ⟨cb, fb, fe, rfl, BH, ⟨z1, z2, z3⟩, hb5⟩
    have wu := qd BH
    have kP := qd hb5
    have hB := (Met.blk lW.out.aC.met).mod (Mod.of_below hb5 []) (by simp)
    have e13 : w5.cell? ⟨C.mb, 13, none⟩ = some (kM C.A st.a.cop) := hB.cell 13
    have g13 : w5.frozen? ⟨C.mb, 13, none⟩ = false := hB.frozen 13
    clear c0 c1 c11 c12 V9 c14 c15 hB BH hb5 iJ
    go_wp2_with fail
    refine (Vd (some ⟨cb, 0, none⟩) w5).mono ?_
    rintro x w6 ⟨rfl, rfl⟩
    obtain ⟨F6, tV⟩ := lW.out.double yV.out wu.out z1 z2 z3 kP.out Wd.out
    go_upto_region 6 with fail
    refine cO (F := fun v => aA W0 E H { C with A := { C.A with cb := cb, fb := fb, fe := fe }, v := C.v } w0 G0 v F6 { st with a := { st.a with Ns := st.a.Ns.set id (N.start k), cop := some (0, List.replicate (2 ^ (st.a.d + 1)) 0) }, ids := st.ids ++ [id], x := st.x.add (cU 1) 1 }) tV ?_
    rintro w7 hC7
    have Tc := qd hC7
    have k13 : w7.cell? ⟨C.mb, 13, none⟩ = some (pQ cb) := Tc.out.cells.2.2.2.2.1
    have Mi := qd (L9 Tc.out 32 101 ⟨cb, 0, none⟩ (by unfold dw.val dw.jt dw.ja; rw [if_pos rfl, if_pos rfl]) Wd.out (by omega) (by show (st.ids ++ [id]).length < 40; rw [List.length_append, List.length_singleton]; omega))
    unfold aU at Mi
    clear tV hC7 e13 g13 lW wu kP z1 z2 z3
    go_wp2_with fail
    refine Mi.out.mono ?_
    rintro x w8 ⟨rfl, h8⟩
    have XK := qd h8
    clear h8 Mi Tc k13
    obtain ⟨a2, aO, A1, v1, x2, b2, F1, V, ha2⟩ : ∃ (a2 : Pool) (aO : List Nat) (A1 : dw) (v1 : Value) (x2 : bM) (b2 : Int) (F1 : List Nat) (V : World), a2 = { st.a with Ns := st.a.Ns.set id (N.start k), cop := some (0, List.replicate (2 ^ (st.a.d + 1)) 0) } ∧ aO = st.ids ++ [id] ++ [32] ∧ A1 = { C.A with cb := cb, fb := fb, fe := fe } ∧ v1 = C.v ∧ x2 = (st.x.add (cU 1) 1).add (cU 1) 1 ∧ b2 = st.b ∧ F1 = F6 ∧ V = w8 := ⟨_, _, _, _, _, _, _, _, rfl, rfl, rfl, rfl, rfl, rfl, rfl, rfl⟩
    obtain ⟨g1, g2, g3, g4, g5, g6, g7, g8⟩ := ha2
    obtain ⟨a1, bO, hg⟩ : ∃ (a1 : Pool) (bO : List Nat), a1 = { st.a with Ns := st.a.Ns.set id (N.start k) } ∧ bO = st.ids ++ [id] := ⟨_, _, rfl, rfl⟩
    obtain ⟨g9, g10⟩ := hg
    have hdb : BI (Mg st.a id) a1 bO a2 aO := by rw [g9, g10, g1, g2]; exact .yes ⟨N, HN.out, Tf.out.2.2⟩ yV.out HD5.out
    have tK := qd hdb
    have BK := qd (show yg st.a st.ids id a1 bO from by rw [g9, g10]; exact tJ.out)
    have BL := qd (YM (show BJ a1 bO id from by rw [g9, g10]; exact xB.out) (by rw [g9]; simpa [nI, nU] using mV.out.2.1) hdb).1
    have sP := qd (show a2.ents = st.a.ents from by rw [g1]; exact Gx.out)
    have mX := qd (show dI st.x x2 (0 + 0) (1 + 1) from by rw [g5]; exact (qQ _ 1).trans (qQ _ 1))
    have QA : aO.length ≤ 40 := by rw [g2, List.length_append, List.length_append, List.length_singleton, List.length_singleton]; omega
    have iw := qd (show aA W0 E H { C with A := A1, v := v1 } w0 G0 V F1 { st with a := a2, ids := aO, b := b2, x := x2 } from by rw [g1, g2, g3, g4, g5, g6, g7, g8]; exact XK.out)
    rw [← g8]
    clear XK tJ xB Gx g1 g2 g3 g4 g5 g6 g7 g8 g9 g10 hdb Tf jU mV HO yV HD5 Wd
    have HC := iw
    have tJ := BK
    have xB := BL
    clear iw BK BL
    go_upto_region 7 with fail
 all_goals
  have Dt := qd (HC.out.below (Below.refl V.heap.size V).drew)
  have e14 : V.cell? ⟨C.mb, 14, none⟩ = some (pQ C.sb) := HC.out.cells.2.2.2.2.2.1
  have hbd := Dt.out.bounds
  have Xe := qd (Ny Dt.out.hp ({ C with A := A1, v := v1 } : gV).s F1 C.K Dt.out.kk rfl b2 aO a2 x2 id kL (fun _ => rfl) (fun j hj => ⟨(xB.out.pre.iU j).2 hj, by
   rcases (xB.out.pre.iU j).2 hj with ⟨M, h1, _⟩ | ⟨_, h1, _⟩
   ·have := bA h1
    have h3 := hbd.2.1
    simp only at h3
    omega
   ·omega⟩) (World.drew V) Dt.out.aC)
  have HS2 := qd (show Calls Tryz.prog 91 #[pQ C.sb, .pointer (some ⟨C.mb, 3, none⟩), nI id] (World.drew V) _ from Xe.out)
  clear Xe HC hbd
  go_upto_region 7 with fail
  refine rT (fun (w' : World) => w'.cell? ⟨C.mb, 14, none⟩ = some (pQ C.sb)) [8] ?_
  have hHeld := e14
  refine vW 0 rfl ?_
  refine vW 1 rfl ?_
  refine vW 2 rfl ?_
  refine vT 3 rfl ?_
  refine vW 4 rfl ?_
  refine vW 5 rfl ?_
  refine vW 6 rfl ?_
  refine vW 7 rfl ?_
  refine vW 10 rfl ?_
  refine nT 8 rfl fun K hK => ?_
  go_simp
  refine (HS2.out).mono ?_
  rintro y V2 ⟨A9, c9, e1, lV, a3, a4, F4, x4, b4, rfl, hrow, hown, hoth, hs, hco, hra⟩
  obtain ⟨aaj, QB⟩ := YN Dt.out.kk.1 xB.out hown hoth
  have iw := qd (Dt.out.served hs QB.len QB.cop)
  have yS := qd aaj
  have gB := qd hown
  have Dp := qd hoth
  have wB := qd (show a4.ents.Perm st.a.ents from by rw [← sP.out]; exact QB.ents)
  have aak := qd (mX.out.trans hco)
  obtain ⟨pend, QC⟩ : ∃ p, p = e1 ++ gq Pool.left a4 lV := ⟨_, rfl⟩
  rw [← QC] at hrow hra ⊢
  have I7 := qd QC
  have FJ := qd hrow
  have I8 := qd (show ∀ g, (Value.slice A9 pend.length c9).ownBlock = some g → g ∉ ({ C with A := A1, v := v1 } : gV).foot F4 from fun g hg hq => by
   have hl := (hrow.lt g hg)
   rcases aZ.1 hq with h1 | h1 | h1 | h1
   ·exact hra g hg (by rw [h1]; exact List.mem_cons_self ..)
   ·exact hra g hg (List.mem_cons_of_mem _ (List.mem_append_left _ h1))
   ·exact hra g hg (List.mem_cons_of_mem _ (List.mem_append_right _ h1))
   ·have := (Dt.out.row.lt g h1).2; omega)
  obtain ⟨bs, hbs⟩ : ∃ bs, bs = (World.drew V).heap.size := ⟨_, rfl⟩
  rw [← hbs] at FJ
  clear hrow hown hoth hs hco hra aaj QB QC HS2 Dt xB sP mX hbs
  go_wp2_with fail
  refine kO hK ?_
  clear hK K
  refine vL 9 rfl ?_
  refine aT (by kernel_rfl) ?_ _
  have hpl : pend.length ≤ 40 := by
   have h1 := ql Dp.out
   have h2 := congrArg List.length h1
   rw [List.length_append] at h2
   have h3 : (gq Pool.left a4 lV).length ≤ lV.length := List.length_filter_le _ _
   rw [I7.out, List.length_append]
   have h4 := QA
   omega
  clear e14
  go_wp2
  go_loopw [9, 67] (fun _ v67 wr => ∃ (i : Nat) (A' : dw) (v' : Value) (F' : List Nat) (a' : Pool) (x' : bM) (u' : Nat), i ≤ pend.length ∧ v67 = nI i ∧ Hid (aA W0 E H { C with A := A', v := v' } w0 G0 wr F' { st with a := a', ids := gY Pool.left a4 lV, b := b4, x := x' }) ∧ Hid (jJ a' (gY Pool.left a4 lV) (pend.drop i)) ∧ Hid (∀ c, tQ H a' (pend.drop i) c → tQ H a4 pend c) ∧ Hid (a'.ents.Perm st.a.ents) ∧ Hid (dI st.x x' 0 u') ∧ Hid (wr.ownsRow bs 3 1 (.slice A9 pend.length c9) pend.length (dz pend)) ∧ Hid (∀ g, (Value.slice A9 pend.length c9).ownBlock = some g → g ∉ ({ C with A := A', v := v' } : gV).foot F')) (fun _ v67 _ => pend.length - (intOf v67).toNat)
  case atStart => exact ⟨0, A1, v1, F4, a4, x4, _, by omega, rfl, iw, qd (by rw [List.drop_zero, I7.out]; exact yS.out), qd (fun _ h => h), wB, aak, FJ, I8⟩
  case round =>
   clear iw yS wB aak FJ I8
   obtain ⟨i, A', v', F', a', x', u', hi, rfl, HC, yS, HEa, wB, mX, FJ, I8⟩ := hrel
   by_cases hlt : i < pend.length
   ·have hlt' : (i : Int) < (pend.length : Int) := by omega
    have hi0 : (0 : Int) ≤ (i : Int) := by omega
    have Z7 : (i : Int) ≤ 41 := by omega
    obtain ⟨j, hj⟩ : ∃ j, pend[i]? = some j := ⟨_, List.getElem?_eq_getElem hlt⟩
    obtain ⟨g, hA9, hge, hgl, hce, _⟩ := lQ FJ.out hj
    have Dq := qd (drop_cons hj)
    have HU := qd (BG HC.out.again 1 (Nat.le_refl _))
    have HA9 := qd hA9
    subst hA9
    clear hj
    go_wp2_with fail
    refine HU.out.mono ?_
    rintro y w1 ⟨rfl, h1⟩
    have HR1 := qd (jy FJ.out h1.mod (fun k hk => I8.out k hk))
    have Wh := qd (show ∀ g', (Value.slice (some ⟨g, 0, none⟩) pend.length c9).ownBlock = some g' → g' ∉ ({ C with A := A', v := v' } : gV).foot F' from I8.out)
    have qV := qd (HC.out.chain h1)
    have Ec := qd (mX.out.trans (qQ _ 1))
    have hin : jJ a' (gY Pool.left a4 lV) (j :: pend.drop (i + 1)) := by rw [← Dq.out]; exact yS.out
    have hbd := qV.out.bounds
    have bD := qd (V8 qV.out.again j (pend.drop (i + 1)) hin)
    have aal := qd (fun (b : Pool) (hb : zM H a' j b) => V7 hin hb hbd.1 hbd.2.1 hbd.2.2.1)
    clear h1 hin HC FJ I8 HU yS hce mX hbd
    unfold aU at bD
    go_wp2_with fail
    refine bD.out.mono ?_
    rintro y w2 ⟨rfl, A2, v2, F2, b2', x2', u2', hE, hC2, BA⟩
    obtain ⟨k1, k2, k3, k4, k5⟩ := aal.out b2' hE
    have rF := qd (qV.out.chain hC2)
    have HR2 := qd (jy HR1.out hC2.mod (fun k hk => Wh.out k hk))
    have Wi := qd (show ∀ g', (Value.slice (some ⟨g, 0, none⟩) pend.length c9).ownBlock = some g' → g' ∉ ({ C with A := A2, v := v2 } : gV).foot F2 from fun g' hg' hq => by
     rcases hC2.sub g' hq with h1 | h1
     ·exact Wh.out g' hg' h1
     ·have := (HR1.out.lt g' hg').2; omega)
    have HK1 := qd k1
    have HK4 := qd (k4.trans wB.out)
    have abO := qd (fun c (hc : tQ H b2' (pend.drop (i + 1)) c) => HEa.out c (by rw [Dq.out]; exact .cons hE hc))
    have LQ := qd (Ec.out.trans BA)
    clear hE hC2 BA k1 k2 k3 k4 k5 qV HR1 Wh bD aal HEa wB Ec
    go_wp2
    go_roundw
    case rel => exact ⟨i + 1, A2, v2, F2, b2', x2', _, by omega, by go_num, rF, HK1, abO, HK4, LQ, HR2, Wi⟩
    case measure => simp [intOf]; omega
   ·obtain rfl : i = pend.length := by omega
    have hlt' : ¬ (pend.length : Int) < (pend.length : Int) := by omega
    have hIn := yS.out
    have hEa := HEa.out
    rw [List.drop_length] at hIn hEa
    have XQ := qd (show yX W0 E H C w0 G0 st id wr from ⟨A', v', F', a', _, b4, x', u', ⟨a1, bO, a2, aO, a3, e1, lV, a4, tJ.out, tK.out, gB.out, Dp.out, by rw [← I7.out]; exact hEa a' (.nil a'), rfl⟩, hIn, wB.out, HC.out, mX.out⟩)
    clear hIn hEa
    go_wp2
    go_end0
    first | exact ⟨rfl, XQ.out⟩ | exact XQ.out
end Go.Proofs.YtbphcldoflekpaaGreatDoor
