/- A core's maintain by its contract. -/
import Derived.Test.YtfojgfddgplinabGreatDoorCoCM
import Derived.Test.YtfojgfddgplinabGreatDoorSqT
import Derived.Test.YtfojgfddgplinabGreatDoorLaneP
namespace Go.Proofs.YtfojgfddgplinabGreatDoor
set_option maxRecDepth 100000
set_option maxHeartbeats 8000000
open Go.RowKit dG
section
variable {W0 : World} {E : Nat → Addr} {H : Nat → Nat} {C : eB} {w0 : World} {G0 : List Nat} {w w' : World} {F : List Nat} {st : lH}
theorem aA.double (h : aA W0 E H C w0 G0 w F st) {cb fb fe : Nat} {w1 : World} (hc : st.a.cop = none) (hC : iU w1 cb C.A.db C.A.eb fb fe st.a.d 0 st.a.l (List.replicate (2 ^ (st.a.d + 1)) 0)) (h1 : w.heap.size ≤ cb) (h2 : w.heap.size ≤ fb) (h3 : w.heap.size ≤ fe) (hb : Below w.heap.size w w1) (yj : 32 ∉ st.ids) :
  ∃ F', aA W0 E H { C with A := { C.A with cb := cb, fb := fb, fe := fe }, v := C.v } w0 G0 (w1.setCell ⟨C.mb, 13, none⟩ (.pointer (some ⟨cb, 0, none⟩))) F' { st with a := { st.a with cop := some (0, List.replicate (2 ^ (st.a.d + 1)) 0) } } := by
 obtain ⟨Fs, hF, hp⟩ := h.aB.pool
 have hml : C.mb < w.heap.size := h.aB.met.lt
 have hm : Mod [C.mb] w (w1.setCell ⟨C.mb, 13, none⟩ (.pointer (some ⟨cb, 0, none⟩))) := (Mod.of_below hb [C.mb]).ak (.inl (by simp)) _ _
 have hmb : ∀ q ∈ F, q ∉ [C.mb] := fun q hq e => h.hp.mb h.aB.pool (by show C.mb ∈ F; rw [← List.mem_singleton.1 e]; exact hq)
 have hlts := h.fQ
 have wG : ∀ q ∈ F, q < w.heap.size := fun q hq => hlts q (aW.2 (.inr (.inr (.inl hq))))
 have xL : ∀ i, i < st.a.Ns.length → ∀ q ∈ Fs i, q ∈ F := fun i hi q hq => hF ▸ aP.2 (.inl ⟨i, hi, hq⟩)
 have uo : ∀ q ∈ C.A.dS st.a.cop, q ∈ F := fun q hq => hF ▸ aP.2 (.inr hq)
 have hC2 : iU (w1.setCell ⟨C.mb, 13, none⟩ (.pointer (some ⟨cb, 0, none⟩))) cb C.A.db C.A.eb fb fe st.a.d 0 st.a.l (List.replicate (2 ^ (st.a.d + 1)) 0) :=
  hC.mod (S := [C.mb]) ((Mod.refl _ w1).ak (.inl (by simp)) _ _) (fun q hq dI => by
   have := List.mem_singleton.1 dI
   simp at hq
   rcases hq with e | e | e | e | e
   ·omega
   ·exact hmb q (uo q (by unfold cK.dS; simp [e])) (by simp [this])
   ·exact hmb q (uo q (by unfold cK.dS; simp [e])) (by simp [this])
   ·omega
   ·omega)
 have hdf : ∀ q, q ∈ ({ C.A with cb := cb, fb := fb, fe := fe } : cK).dS (some (0, List.replicate (2 ^ (st.a.d + 1)) 0)) ↔ q ∈ C.A.dS st.a.cop ∨ q = cb ∨ q = fb ∨ q = fe := fun q => by
  unfold cK.dS; rw [hc]; simp; omega
 have hin : ∀ q, q ∈ gD ({ C.A with cb := cb, fb := fb, fe := fe } : cK) Fs { st.a with cop := some (0, List.replicate (2 ^ (st.a.d + 1)) 0) } → q ∈ F ∨ w.heap.size ≤ q := fun q hq => by
  rcases aP.1 hq with ⟨i, hi, hq2⟩ | hq2
  ·exact .inl (xL i hi q hq2)
  ·rcases (hdf q).1 hq2 with e | e | e | e
   ·exact .inl (uo q e)
   ·exact .inr (by omega)
   ·exact .inr (by omega)
   ·exact .inr (by omega)
 have hP : iL W0 C.mb H ({ C.A with cb := cb, fb := fb, fe := fe } : cK) (w1.setCell ⟨C.mb, 13, none⟩ (.pointer (some ⟨cb, 0, none⟩))) Fs { st.a with cop := some (0, List.replicate (2 ^ (st.a.d + 1)) 0) } :=
  ⟨fun i N hN => ⟨(hp.kP i N hN).1.mod hm (fun q hq => hmb q (xL i (aX hN) q hq)), (hp.kP i N hN).2⟩, hC2.old, fun next lf he => by
   have := Option.some.inj he
   cases this
   exact hC2, hp.sep, fun i hi q hq hq2 => by
   have hq' := xL i hi q hq
   rcases (hdf q).1 hq2 with e | e | e | e
   ·exact hp.uJ i hi q hq e
   ·have := wG q hq'; omega
   ·have := wG q hq'; omega
   ·have := wG q hq'; omega, fun q hq => by
   rcases hin q hq with e | e
   ·exact hp.low q (hF ▸ e)
   ·have := h.aB.env.size; omega, fun hq => by
   rcases hin _ hq with e | e
   ·exact hmb _ e (by simp)
   ·omega, hp.wI⟩
 refine ⟨_, h.upd { C.A with cb := cb, fb := fb, fe := fe } C.v { st with a := { st.a with cop := some (0, List.replicate (2 ^ (st.a.d + 1)) 0) } } hm (fun q hq => aW.2 (.inl (List.mem_singleton.1 hq))) ((h.aB.aB.mod hm (fun q hq dI => (h.aB.apart q hq).2.1 (List.mem_singleton.1 dI))).Xb (fun id hid => ?_)) ⟨Fs, rfl, hP⟩ ⟨rfl, ?_⟩ (lC (st := st) h hm (fun q hq => .inl (List.mem_singleton.1 hq))) h.pos hin (fun g hg => ⟨.inl hg, fun hh => by have := (h.row.lt g hg).2; omega⟩)⟩
 ·have hne : id ≠ 32 := fun e => yj (e ▸ hid)
  show C.A.val id = ({ C.A with cb := cb, fb := fb, fe := fe } : cK).val id
  unfold cK.val cK.ja
  simp only
  rw [if_neg hne, if_neg hne]
  rfl
 ·exact ((Met.blk h.aB.met).mod (Mod.of_below hb []) (by simp)).ak 13 _
end
theorem sZ {W0 : World} {E : Nat → Addr} {P : MP} {α : Type} {jt : Nat → TypeId} {ja : Nat → Addr} {At : World → List Nat → α → Prop} {can : α → Nat → Prop} {left : α → Nat → Nat} {Stp : α → Nat → α → Prop} (HP : iA W0 E P jt ja At can left Stp) (s : SP) (F : List Nat) (K : Nat) (hK : 1 ≤ K ∧ K ≤ 64) (hk : s.k = (K : Int)) (b : Int) (ids : List Nat) (a : α) (x : bI) (own : Nat) (jB : own ≤ 1000) (hval : ∀ id, s.val id = .iface (jt id) (.pointer (some (ja id)))) (hcan : ∀ id ∈ ids, can a id ∧ id ≤ 1000) (w : World) (h : bB W0 E P At s w F w b ids a F x) :
  Calls Tryz.prog 78 #[eu s.sb, lU P, .int .i64 (own : Int)] w fun e w' => ∃ A cc e1 bG a1 a2 F' x' b', e = .returned (.slice A (e1 ++ dZ left a2 bG).length cc) ∧ w'.ownsRow w.heap.size 3 1 (.slice A (e1 ++ dZ left a2 bG).length cc) (e1 ++ dZ left a2 bG).length (bR (e1 ++ dZ left a2 bG)) ∧ uh left Stp ids own (8 * K) a a1 ∧ qC left Stp K ids a1 e1 bG a2 ∧ bB W0 E P At s w F w' b' (d9 left a2 bG) a2 F' x' ∧ dJ x x' 0 (9 * K) ∧ mM P s F' (.slice A (e1 ++ dZ left a2 bG).length cc) := by
 by_cases hin : own ∈ ids
 ·exact Gy HP s F K hK hk b ids a x own jB hin hval hcan w h
 ·exact FN HP s F K hK hk b ids a x own jB hin hval hcan w h
def rJ (W0 : World) (E : Nat → Addr) (H : Nat → Nat) (C : eB) (w0 : World) (G0 : List Nat) (st : lH) (id : Nat) (w' : World) : Prop :=
 ∃ (A' : cK) (v' : Value) (F' : List Nat) (a' : Pool) (aI : List Nat) (b' : Int) (x' : bI) (u : Nat), P7 H C.K st.a st.ids id a' aI ∧ iM a' aI [] ∧ a'.ents.Perm st.a.ents ∧ aA W0 E H { C with A := A', v := v' } w0 G0 w' F' { st with a := a', ids := aI, b := b', x := x' } ∧ dJ st.x x' 0 u
theorem IZ {l t : Int} {g lo gl : Nat} (h : iw l t g lo gl = 0) : eP l t g lo gl = false := by
 unfold iw at h
 unfold eP
 split at h
 ·next h1 => rw [h1]; rfl
 ·split at h
  ·cases h
  ·split at h
   ·cases h
   ·split at h <;> cases h
theorem ZW {l t : Int} {g lo gl : Nat} (h : eP l t g lo gl = true) : gl < 5 := by
 unfold eP at h
 simp at h
 omega
theorem ni {W0 : World} {E : Nat → Addr} {H : Nat → Nat} {C : eB} {w0 : World} {G0 : List Nat} {w : World} {F : List Nat} {st : lH} (h : aA W0 E H C w0 G0 w F st) (id : Nat) (N : Nd) (hN : st.a.Ns[id]? = some N) (hcp : P8 st.a st.ids id) : Calls Tryz.prog 48 #[aZ C.mb, .int .i64 (id : Int), aN (C.A.nb id)] w fun e w' => e = .returned undef ∧ rJ W0 E H C w0 G0 st id w' := by
 have HC := qd h
 obtain ⟨c0, c1, c11, c12, c13, c14, c15⟩ := HC.out.cells
 have hid := aX hN
 have hbd := h.bounds
 have jB : id ≤ 1000 := by have := hbd.2.1; omega
 have h32 : id ≠ 32 := by have := hbd.2.1; omega
 have hO := hbd.2.2.2 id N hN
 obtain ⟨Fs, hF, hpo⟩ := h.aB.pool
 have Bw := qd (IB C.A.db C.A.eb st.a.d st.a.l w hpo.dir)
 obtain ⟨ZX, _⟩ := hpo.kP id N hN
 obtain ⟨k, LY, hW, hcase⟩ : ∃ (k : Nat) (LY : Bool), (Calls Tryz.prog 72 #[aN (C.A.nb id), .int .i64 (st.a.d : Int)] w fun e w' => e = .returned (.tuple #[.int .i64 (k : Int), .bool LY]) ∧ Below w.heap.size w w') ∧ ((N.ph.busy = true ∧ k = 0 ∧ LY = false) ∨ (N.ph = .idle ∧ iw N.T.live N.T.bM N.len N.au st.a.d = k ∧ eP N.T.live N.T.bM N.len N.au st.a.d = LY)) := by
  cases hb : N.ph.busy with
  | true => exact ⟨0, false, Jw st.a.d ZX hb, .inl ⟨rfl, rfl, rfl⟩⟩
  | false => exact ⟨_, _, Jy st.a.d ZX hO (GA hb), .inr ⟨GA hb, rfl, rfl⟩⟩
 have HW := qd hW
 have Sk := qd hcase
 have HO := qd hO
 have HN := qd hN
 have jX := qd hcp
 have oK := qd hbd
 have adi : st.ids.length ≤ 33 := by
  have hh := Gz st.ids (List.range 33) hcp.nd (fun x hx => by
   rw [List.mem_range]
   rcases (hcp.fU x).2 hx with ⟨M, h1, _⟩ | ⟨_, h1, _⟩
   ·have := aX h1
    have h3 := hbd.2.1
    omega
   ·omega)
  simpa using hh
 clear h hW hcase hO hN hcp hpo hF ZX hbd hid
 unfold gZ at Bw
 unfold aN at HW
 unfold aZ aN
 go_in
 go_wp2_with fail
 refine Bw.out.mono ?_
 rintro x w1 ⟨rfl, rfl⟩
 go_wp2_with fail
 refine HW.out.mono ?_
 rintro x w1 ⟨rfl, hb⟩
 replace HC := qd (HC.out.below hb)
 clear c0 c1 c11 c12 c13 c14 c15 Bw HW hb
 by_cases hk0 : k = 0
 ·subst hk0
  have hki : ¬ ((0 : Nat) : Int) ≠ 0 := by omega
  have hdb : LY = false := by
   rcases Sk.out with ⟨_, _, h1⟩ | ⟨_, h1, h2⟩
   ·exact h1
   ·rw [← h2]; exact IZ h1
  subst hdb
  obtain ⟨a1, bG, F1, En, Xh⟩ : ∃ a1 bG F1, yu st.a st.ids id a1 bG ∧ (bG = st.ids) ∧ aA W0 E H C w0 G0 w1 F1 { st with a := a1, ids := bG } := by
   rcases Sk.out with ⟨h1, _, _⟩ | ⟨h1, h2, h3⟩
   ·exact ⟨st.a, st.ids, F, .busy HN.out h1, rfl, HC.out⟩
   ·obtain ⟨Fi, n1, n2, n3, n4, n5, n6⟩ := HC.out.node HN.out
    obtain ⟨F2, hf2⟩ := n6 w1 Fi [] { N with sl := 0 } st.x n1 (XZ n2 h1 h2) (fun q hq => .inl hq) HC.out.aB.met (Mod.refl _ _) (by simp)
    exact ⟨_, st.ids, F2, .none HN.out h1 h2, rfl, hf2⟩
  obtain ⟨Xi, Xh⟩ := Xh
  obtain ⟨hsv, hd1, hl1, hc1, he1⟩ := Og jX.out (fun M hM => by rw [HN.out] at hM; cases hM; exact HO.out) En
  have ug := qd En
  obtain ⟨a2, aK, A1, v1, x2, b2, ha2⟩ : ∃ (a2 : Pool) (aK : List Nat) (A1 : cK) (v1 : Value) (x2 : bI) (b2 : Int), a2 = a1 ∧ aK = bG ∧ A1 = C.A ∧ v1 = C.v ∧ x2 = st.x ∧ b2 = st.b := ⟨_, _, _, _, _, _, rfl, rfl, rfl, rfl, rfl, rfl⟩
  obtain ⟨g1, g2, g3, g4, g5, g6⟩ := ha2
  have oM := qd (show BS (LX st.a id) a1 bG a2 aK from by rw [g1, g2]; exact .not)
  have mF := qd (show BU a2 aK id from by rw [g1, g2]; exact hsv)
  have nM := qd (show a2.ents = st.a.ents from by rw [g1]; exact he1)
  have iB := qd (show dJ st.x x2 0 0 from by rw [g5]; exact dJ.refl _)
  have Eo : aK.length ≤ 40 := by rw [g2, Xi]; omega
  obtain ⟨V, hV⟩ : ∃ V, V = w1 := ⟨_, rfl⟩
  have pq := qd (show aA W0 E H { C with A := A1, v := v1 } w0 G0 V F1 { st with a := a2, ids := aK, b := b2, x := x2 } from by rw [g1, g2, g3, g4, g5, g6, hV]; exact Xh)
  rw [← hV]
  clear HC Xh hsv En hd1 hl1 hc1 he1 g1 g2 g3 g4 g5 g6 Xi hV Sk jX oK HO
  have HC := pq
  clear pq
  go_upto_region 7 with fail
  have iY := qd (HC.out.below (Below.refl V.heap.size V).drew)
  have e14 : V.cell? ⟨C.mb, 14, none⟩ = some (.pointer (some ⟨C.sb, 0, none⟩)) := HC.out.cells.2.2.2.2.2.1
  have hbd := iY.out.bounds
  have yS := qd (sZ iY.out.hp ({ C with A := A1, v := v1 } : eB).s F1 C.K iY.out.kk rfl b2 aK a2 x2 id jB (fun _ => rfl) (fun j hj => ⟨(mF.out.pre.fU j).2 hj, by
   rcases (mF.out.pre.fU j).2 hj with ⟨M, h1, _⟩ | ⟨_, h1, _⟩
   ·have := aX h1
    have h3 := hbd.2.1
    simp only at h3
    omega
   ·omega⟩) (World.drew V) iY.out.aB)
  have HS2 := qd (show Calls Tryz.prog 78 #[.pointer (some ⟨C.sb, 0, none⟩), .pointer (some ⟨C.mb, 3, none⟩), .int .i64 (id : Int)] (World.drew V) _ from yS.out)
  clear yS HC hbd
  go_upto_region 7 with fail
  refine rT (fun (w' : World) => w'.cell? ⟨C.mb, 14, none⟩ = some (.pointer (some ⟨C.sb, 0, none⟩))) [8] ?_
  have hHeld := e14
  refine vW 0 rfl ?_
  refine vW 1 rfl ?_
  refine vW 2 rfl ?_
  refine vT 3 rfl ?_
  refine vW 4 rfl ?_
  refine vW 5 rfl ?_
  refine vW 6 rfl ?_
  refine vW 7 rfl ?_
  refine vW 10 rfl ?_
  refine nT 8 rfl fun K hK => ?_
  go_simp
  refine (HS2.out).mono ?_
  rintro y V2 ⟨A9, c9, e1, dW, a3, a4, F4, x4, b4, rfl, hrow, hown, hoth, hs, hco, hra⟩
  obtain ⟨wK, mO⟩ := CG iY.out.kk.1 mF.out hown hoth
  have fE := qd (iY.out.served hs mO.len mO.cop)
  have jC := qd wK
  have eX := qd hown
  have rG := qd hoth
  have jf := qd (show a4.ents.Perm st.a.ents from by rw [← nM.out]; exact mO.ents)
  have wL := qd (iB.out.trans hco)
  obtain ⟨pend, mP⟩ : ∃ p, p = e1 ++ dZ Pool.left a4 dW := ⟨_, rfl⟩
  rw [← mP] at hrow hra ⊢
  have nD := qd mP
  have jL := qd hrow
  have kS := qd (show ∀ g, (Value.slice A9 pend.length c9).ownBlock = some g → g ∉ ({ C with A := A1, v := v1 } : eB).foot F4 from fun g hg hq => by
   have hl := (hrow.lt g hg)
   rcases aW.1 hq with h1 | h1 | h1 | h1
   ·exact hra g hg (by rw [h1]; exact List.mem_cons_self ..)
   ·exact hra g hg (List.mem_cons_of_mem _ (List.mem_append_left _ h1))
   ·exact hra g hg (List.mem_cons_of_mem _ (List.mem_append_right _ h1))
   ·have := (iY.out.row.lt g h1).2; omega)
  obtain ⟨bs, hbs⟩ : ∃ bs, bs = (World.drew V).heap.size := ⟨_, rfl⟩
  rw [← hbs] at jL
  clear hrow hown hoth hs hco hra wK mO mP HS2 iY mF nM iB hbs
  go_wp2_with fail
  refine kO hK ?_
  clear hK K
  refine vL 9 rfl ?_
  refine aS (by kernel_rfl) ?_ _
  have hpl : pend.length ≤ 40 := by
   have h1 := lW rG.out
   have h2 := congrArg List.length h1
   rw [List.length_append] at h2
   have h3 : (dZ Pool.left a4 dW).length ≤ dW.length := List.length_filter_le _ _
   rw [nD.out, List.length_append]
   have h4 := Eo
   omega
  clear e14
  go_wp2
  go_loopw [9, 67] (fun _ v67 wr => ∃ (i : Nat) (A' : cK) (v' : Value) (F' : List Nat) (a' : Pool) (x' : bI) (u' : Nat), i ≤ pend.length ∧ v67 = .int .i64 (i : Int) ∧ Hid (aA W0 E H { C with A := A', v := v' } w0 G0 wr F' { st with a := a', ids := d9 Pool.left a4 dW, b := b4, x := x' }) ∧ Hid (iM a' (d9 Pool.left a4 dW) (pend.drop i)) ∧ Hid (∀ c, jr H a' (pend.drop i) c → jr H a4 pend c) ∧ Hid (a'.ents.Perm st.a.ents) ∧ Hid (dJ st.x x' 0 u') ∧ Hid (wr.ownsRow bs 3 1 (.slice A9 pend.length c9) pend.length (bR pend)) ∧ Hid (∀ g, (Value.slice A9 pend.length c9).ownBlock = some g → g ∉ ({ C with A := A', v := v' } : eB).foot F')) (fun _ v67 _ => pend.length - (intOf v67).toNat)
  case atStart => exact ⟨0, A1, v1, F4, a4, x4, _, by omega, rfl, fE, qd (by rw [List.drop_zero, nD.out]; exact jC.out), qd (fun _ h => h), jf, wL, jL, kS⟩
  case round =>
   clear fE jC jf wL jL kS
   obtain ⟨i, A', v', F', a', x', u', hi, rfl, HC, jC, wM, jf, iB, jL, kS⟩ := hrel
   by_cases hlt : i < pend.length
   ·have hlt' : (i : Int) < (pend.length : Int) := by omega
    have hi0 : (0 : Int) ≤ (i : Int) := by omega
    have LG : (i : Int) ≤ 41 := by omega
    obtain ⟨j, hj⟩ : ∃ j, pend[i]? = some j := ⟨_, List.getElem?_eq_getElem hlt⟩
    obtain ⟨g, BX, hge, hgl, hce, _⟩ := iJ jL.out hj
    have uj := qd (drop_cons hj)
    have HU := qd (qE HC.out.again 1 (Nat.le_refl _))
    have Oh := qd BX
    subst BX
    clear hj
    go_wp2_with fail
    refine HU.out.mono ?_
    rintro y w1 ⟨rfl, h1⟩
    have HR1 := qd (fH jL.out h1.mod (fun k hk => kS.out k hk))
    have pY := qd (show ∀ g', (Value.slice (some ⟨g, 0, none⟩) pend.length c9).ownBlock = some g' → g' ∉ ({ C with A := A', v := v' } : eB).foot F' from kS.out)
    have jZ := qd (HC.out.chain h1)
    have oW := qd (iB.out.trans (ng _ 1))
    have hin : iM a' (d9 Pool.left a4 dW) (j :: pend.drop (i + 1)) := by rw [← uj.out]; exact jC.out
    have hbd := jZ.out.bounds
    have bC := qd (zV jZ.out.again j (pend.drop (i + 1)) hin)
    have wN := qd (fun (b : Pool) (hb : uK H a' j b) => zU hin hb hbd.1 hbd.2.1 hbd.2.2.1)
    clear h1 hin HC jL kS HU jC hce iB hbd
    unfold aZ at bC
    go_wp2_with fail
    refine bC.out.mono ?_
    rintro y w2 ⟨rfl, A2, v2, F2, b2', x2', ZY, hE, hC2, om⟩
    obtain ⟨k1, k2, k3, k4, k5⟩ := wN.out b2' hE
    have pq := qd (jZ.out.chain hC2)
    have HR2 := qd (fH HR1.out hC2.mod (fun k hk => pY.out k hk))
    have Ep := qd (show ∀ g', (Value.slice (some ⟨g, 0, none⟩) pend.length c9).ownBlock = some g' → g' ∉ ({ C with A := A2, v := v2 } : eB).foot F2 from fun g' hg' hq => by
     rcases hC2.sub g' hq with h1 | h1
     ·exact pY.out g' hg' h1
     ·have := (HR1.out.lt g' hg').2; omega)
    have DC := qd k1
    have LZ := qd (k4.trans jf.out)
    have Er := qd (fun c (hc : jr H b2' (pend.drop (i + 1)) c) => wM.out c (by rw [uj.out]; exact .cons hE hc))
    have wH := qd (oW.out.trans om)
    clear hE hC2 om k1 k2 k3 k4 k5 jZ HR1 pY bC wN wM jf oW
    go_wp2
    go_roundw
    case rel => exact ⟨i + 1, A2, v2, F2, b2', x2', _, by omega, by go_num, pq, DC, Er, LZ, wH, HR2, Ep⟩
    case measure => simp [intOf]; omega
   ·obtain rfl : i = pend.length := by omega
    have hlt' : ¬ (pend.length : Int) < (pend.length : Int) := by omega
    have hIn := jC.out
    have hEa := wM.out
    rw [List.drop_length] at hIn hEa
    have BZ := qd (show rJ W0 E H C w0 G0 st id wr from ⟨A', v', F', a', _, b4, x', u', ⟨a1, bG, a2, aK, a3, e1, dW, a4, ug.out, oM.out, eX.out, rG.out, by rw [← nD.out]; exact hEa a' (.nil a'), rfl⟩, hIn, jf.out, HC.out, iB.out⟩)
    clear hIn hEa
    go_wp2
    go_end0
    first | exact ⟨rfl, BZ.out⟩ | exact BZ.out
 ·have hki : ¬ (k : Int) = 0 := by omega
  have hcs : N.ph = .idle ∧ iw N.T.live N.T.bM N.len N.au st.a.d = k ∧ eP N.T.live N.T.bM N.len N.au st.a.d = LY := by
   rcases Sk.out with ⟨_, h1, _⟩ | h1
   ·exact absurd h1 hk0
   ·exact h1
  have Sl := qd hcs
  have En := yu.start (ids := st.ids) HN.out hcs.1 hcs.2.1 hk0
  obtain ⟨hsv, hd1, hl1, hc1, he1⟩ := Og jX.out (fun M hM => by rw [HN.out] at hM; cases hM; exact HO.out) En
  have ug := qd En
  have mF := qd hsv
  have GD := qd he1
  obtain ⟨Fi, n1, n2, n3, n4, n5, n6⟩ := HC.out.node HN.out
  have kN := qd (Vl st.a.d k oK.out.1 n1 n2 hcs.1 hcs.2.1 hk0)
  have HX := qd n6
  have Od := qd n3
  have FV := qd n1.JI
  have Z0 : id ∉ st.ids := fun hh => by
   have h1 := (jX.out.fU id).2 hh
   rw [Em HN.out, hcs.1] at h1; cases h1
  have HNi := qd Z0
  have HOs := qd (K5 n2 hcs.1 oK.out.1 hcs.2.1 hk0).1
  clear hcs En hsv hd1 hl1 hc1 he1 n1 n2 n3 n4 n5 n6 Z0 Sk
  unfold aN at kN
  go_wp2_with fail
  refine kN.out.mono ?_
  rintro x w2 ⟨rfl, F', q1, q2, q3⟩
  obtain ⟨F2, hf2⟩ := HX.out w2 F' _ _ st.x q1 HOs.out q2 (HC.out.aB.met.mod q3 (fun hq => Od.out (by rw [show C.mb = C.A.nb id from List.mem_singleton.1 hq]; exact FV.out))) q3 (fun q hq => .inr (by rw [List.mem_singleton.1 hq]; exact FV.out))
  have pq := qd hf2
  clear hf2 q1 q2 q3 HC kN HX Od FV HOs
  go_wp2_with fail
  refine (jg w2).mono ?_
  rintro x w3 ⟨rfl, rfl⟩
  have L6 := qd (LP pq.out id 88 ⟨C.A.nb id, 0, none⟩ (by unfold cK.val cK.jt cK.ja; rw [if_neg h32, if_neg h32]) HNi.out jB (by show st.ids.length < 40; omega))
  unfold aZ at L6
  go_wp2_with fail
  refine L6.out.mono ?_
  rintro x w4 ⟨rfl, h4⟩
  have nE := qd h4
  clear h4 pq L6 HNi
  cases hdv : LY with
  | false =>
   subst hdv
   obtain ⟨c0, c1, c11, c12, c13, c14, c15⟩ := nE.out.cells
   go_upto_region 7 with fail
   clear c0 c1 c11 c12 c13 c14 c15
   obtain ⟨a2, aK, A1, v1, x2, b2, F1, V, ha2⟩ : ∃ (a2 : Pool) (aK : List Nat) (A1 : cK) (v1 : Value) (x2 : bI) (b2 : Int) (F1 : List Nat) (V : World), a2 = { st.a with Ns := st.a.Ns.set id (N.start k) } ∧ aK = st.ids ++ [id] ∧ A1 = C.A ∧ v1 = C.v ∧ x2 = st.x.add (cU 1) 1 ∧ b2 = st.b ∧ F1 = F2 ∧ V = w4 := ⟨_, _, _, _, _, _, _, _, rfl, rfl, rfl, rfl, rfl, rfl, rfl, rfl⟩
   obtain ⟨g1, g2, g3, g4, g5, g6, g7, g8⟩ := ha2
   obtain ⟨a1, bG, hg⟩ : ∃ (a1 : Pool) (bG : List Nat), a1 = a2 ∧ bG = aK := ⟨_, _, rfl, rfl⟩
   obtain ⟨g9, g10⟩ := hg
   have oM := qd (show BS (LX st.a id) a1 bG a2 aK from by rw [g9, g10]; exact .not)
   have Ca := qd (show yu st.a st.ids id a1 bG from by rw [g9, g10, g1, g2]; exact ug.out)
   have Cb := qd (show BU a2 aK id from by rw [g1, g2]; exact mF.out)
   have nM := qd (show a2.ents = st.a.ents from by rw [g1]; exact GD.out)
   have iB := qd (show dJ st.x x2 0 1 from by rw [g5]; exact ng _ 1)
   have Eo : aK.length ≤ 40 := by rw [g2, List.length_append, List.length_singleton]; omega
   have fE := qd (show aA W0 E H { C with A := A1, v := v1 } w0 G0 V F1 { st with a := a2, ids := aK, b := b2, x := x2 } from by rw [g1, g2, g3, g4, g5, g6, g7, g8]; exact nE.out)
   rw [← g8]
   clear nE ug mF GD g1 g2 g3 g4 g5 g6 g7 g8 g9 g10 Sl jX oK HO
   have HC := fE
   have ug := Ca
   have mF := Cb
   clear fE Ca Cb
   have iY := qd (HC.out.below (Below.refl V.heap.size V).drew)
   have e14 : V.cell? ⟨C.mb, 14, none⟩ = some (.pointer (some ⟨C.sb, 0, none⟩)) := HC.out.cells.2.2.2.2.2.1
   have hbd := iY.out.bounds
   have yS := qd (sZ iY.out.hp ({ C with A := A1, v := v1 } : eB).s F1 C.K iY.out.kk rfl b2 aK a2 x2 id jB (fun _ => rfl) (fun j hj => ⟨(mF.out.pre.fU j).2 hj, by
    rcases (mF.out.pre.fU j).2 hj with ⟨M, h1, _⟩ | ⟨_, h1, _⟩
    ·have := aX h1
     have h3 := hbd.2.1
     simp only at h3
     omega
    ·omega⟩) (World.drew V) iY.out.aB)
   have HS2 := qd (show Calls Tryz.prog 78 #[.pointer (some ⟨C.sb, 0, none⟩), .pointer (some ⟨C.mb, 3, none⟩), .int .i64 (id : Int)] (World.drew V) _ from yS.out)
   clear yS HC hbd
   go_upto_region 7 with fail
   refine rT (fun (w' : World) => w'.cell? ⟨C.mb, 14, none⟩ = some (.pointer (some ⟨C.sb, 0, none⟩))) [8] ?_
   have hHeld := e14
   refine vW 0 rfl ?_
   refine vW 1 rfl ?_
   refine vW 2 rfl ?_
   refine vT 3 rfl ?_
   refine vW 4 rfl ?_
   refine vW 5 rfl ?_
   refine vW 6 rfl ?_
   refine vW 7 rfl ?_
   refine vW 10 rfl ?_
   refine nT 8 rfl fun K hK => ?_
   go_simp
   refine (HS2.out).mono ?_
   rintro y V2 ⟨A9, c9, e1, dW, a3, a4, F4, x4, b4, rfl, hrow, hown, hoth, hs, hco, hra⟩
   obtain ⟨wK, mO⟩ := CG iY.out.kk.1 mF.out hown hoth
   have fE := qd (iY.out.served hs mO.len mO.cop)
   have jC := qd wK
   have eX := qd hown
   have rG := qd hoth
   have jf := qd (show a4.ents.Perm st.a.ents from by rw [← nM.out]; exact mO.ents)
   have wL := qd (iB.out.trans hco)
   obtain ⟨pend, mP⟩ : ∃ p, p = e1 ++ dZ Pool.left a4 dW := ⟨_, rfl⟩
   rw [← mP] at hrow hra ⊢
   have nD := qd mP
   have jL := qd hrow
   have kS := qd (show ∀ g, (Value.slice A9 pend.length c9).ownBlock = some g → g ∉ ({ C with A := A1, v := v1 } : eB).foot F4 from fun g hg hq => by
    have hl := (hrow.lt g hg)
    rcases aW.1 hq with h1 | h1 | h1 | h1
    ·exact hra g hg (by rw [h1]; exact List.mem_cons_self ..)
    ·exact hra g hg (List.mem_cons_of_mem _ (List.mem_append_left _ h1))
    ·exact hra g hg (List.mem_cons_of_mem _ (List.mem_append_right _ h1))
    ·have := (iY.out.row.lt g h1).2; omega)
   obtain ⟨bs, hbs⟩ : ∃ bs, bs = (World.drew V).heap.size := ⟨_, rfl⟩
   rw [← hbs] at jL
   clear hrow hown hoth hs hco hra wK mO mP HS2 iY mF nM iB hbs
   go_wp2_with fail
   refine kO hK ?_
   clear hK K
   refine vL 9 rfl ?_
   refine aS (by kernel_rfl) ?_ _
   have hpl : pend.length ≤ 40 := by
    have h1 := lW rG.out
    have h2 := congrArg List.length h1
    rw [List.length_append] at h2
    have h3 : (dZ Pool.left a4 dW).length ≤ dW.length := List.length_filter_le _ _
    rw [nD.out, List.length_append]
    have h4 := Eo
    omega
   clear e14
   go_wp2
   go_loopw [9, 67] (fun _ v67 wr => ∃ (i : Nat) (A' : cK) (v' : Value) (F' : List Nat) (a' : Pool) (x' : bI) (u' : Nat), i ≤ pend.length ∧ v67 = .int .i64 (i : Int) ∧ Hid (aA W0 E H { C with A := A', v := v' } w0 G0 wr F' { st with a := a', ids := d9 Pool.left a4 dW, b := b4, x := x' }) ∧ Hid (iM a' (d9 Pool.left a4 dW) (pend.drop i)) ∧ Hid (∀ c, jr H a' (pend.drop i) c → jr H a4 pend c) ∧ Hid (a'.ents.Perm st.a.ents) ∧ Hid (dJ st.x x' 0 u') ∧ Hid (wr.ownsRow bs 3 1 (.slice A9 pend.length c9) pend.length (bR pend)) ∧ Hid (∀ g, (Value.slice A9 pend.length c9).ownBlock = some g → g ∉ ({ C with A := A', v := v' } : eB).foot F')) (fun _ v67 _ => pend.length - (intOf v67).toNat)
   case atStart => exact ⟨0, A1, v1, F4, a4, x4, _, by omega, rfl, fE, qd (by rw [List.drop_zero, nD.out]; exact jC.out), qd (fun _ h => h), jf, wL, jL, kS⟩
   case round =>
    clear fE jC jf wL jL kS
    obtain ⟨i, A', v', F', a', x', u', hi, rfl, HC, jC, wM, jf, iB, jL, kS⟩ := hrel
    by_cases hlt : i < pend.length
    ·have hlt' : (i : Int) < (pend.length : Int) := by omega
     have hi0 : (0 : Int) ≤ (i : Int) := by omega
     have LG : (i : Int) ≤ 41 := by omega
     obtain ⟨j, hj⟩ : ∃ j, pend[i]? = some j := ⟨_, List.getElem?_eq_getElem hlt⟩
     obtain ⟨g, BX, hge, hgl, hce, _⟩ := iJ jL.out hj
     have uj := qd (drop_cons hj)
     have HU := qd (qE HC.out.again 1 (Nat.le_refl _))
     have Oh := qd BX
     subst BX
     clear hj
     go_wp2_with fail
     refine HU.out.mono ?_
     rintro y w1 ⟨rfl, h1⟩
     have HR1 := qd (fH jL.out h1.mod (fun k hk => kS.out k hk))
     have pY := qd (show ∀ g', (Value.slice (some ⟨g, 0, none⟩) pend.length c9).ownBlock = some g' → g' ∉ ({ C with A := A', v := v' } : eB).foot F' from kS.out)
     have jZ := qd (HC.out.chain h1)
     have oW := qd (iB.out.trans (ng _ 1))
     have hin : iM a' (d9 Pool.left a4 dW) (j :: pend.drop (i + 1)) := by rw [← uj.out]; exact jC.out
     have hbd := jZ.out.bounds
     have bC := qd (zV jZ.out.again j (pend.drop (i + 1)) hin)
     have wN := qd (fun (b : Pool) (hb : uK H a' j b) => zU hin hb hbd.1 hbd.2.1 hbd.2.2.1)
     clear h1 hin HC jL kS HU jC hce iB hbd
     unfold aZ at bC
     go_wp2_with fail
     refine bC.out.mono ?_
     rintro y w2 ⟨rfl, A2, v2, F2, b2', x2', ZY, hE, hC2, om⟩
     obtain ⟨k1, k2, k3, k4, k5⟩ := wN.out b2' hE
     have pq := qd (jZ.out.chain hC2)
     have HR2 := qd (fH HR1.out hC2.mod (fun k hk => pY.out k hk))
     have Ep := qd (show ∀ g', (Value.slice (some ⟨g, 0, none⟩) pend.length c9).ownBlock = some g' → g' ∉ ({ C with A := A2, v := v2 } : eB).foot F2 from fun g' hg' hq => by
      rcases hC2.sub g' hq with h1 | h1
      ·exact pY.out g' hg' h1
      ·have := (HR1.out.lt g' hg').2; omega)
     have DC := qd k1
     have LZ := qd (k4.trans jf.out)
     have Er := qd (fun c (hc : jr H b2' (pend.drop (i + 1)) c) => wM.out c (by rw [uj.out]; exact .cons hE hc))
     have wH := qd (oW.out.trans om)
     clear hE hC2 om k1 k2 k3 k4 k5 jZ HR1 pY bC wN wM jf oW
     go_wp2
     go_roundw
     case rel => exact ⟨i + 1, A2, v2, F2, b2', x2', _, by omega, by go_num, pq, DC, Er, LZ, wH, HR2, Ep⟩
     case measure => simp [intOf]; omega
    ·obtain rfl : i = pend.length := by omega
     have hlt' : ¬ (pend.length : Int) < (pend.length : Int) := by omega
     have hIn := jC.out
     have hEa := wM.out
     rw [List.drop_length] at hIn hEa
     have BZ := qd (show rJ W0 E H C w0 G0 st id wr from ⟨A', v', F', a', _, b4, x', u', ⟨a1, bG, a2, aK, a3, e1, dW, a4, ug.out, oM.out, eX.out, rG.out, by rw [← nD.out]; exact hEa a' (.nil a'), rfl⟩, hIn, jf.out, HC.out, iB.out⟩)
     clear hIn hEa
     go_wp2
     go_end0
     first | exact ⟨rfl, BZ.out⟩ | exact BZ.out
  | true =>
   cases Ej : st.a.cop with
   | some cc =>
    subst hdv
    obtain ⟨c0, c1, c11, c12, c13, c14, c15⟩ := nE.out.cells
    have hcv : kQ C.A st.a.cop = .pointer (some ⟨C.A.cb, 0, none⟩) := by unfold kQ; rw [Ej]; rfl
    have VB : w4.cell? ⟨C.mb, 13, none⟩ = some (.pointer (some ⟨C.A.cb, 0, none⟩)) := by rw [← hcv]; exact c13
    clear c13 hcv
    go_upto_region 7 with fail
    clear c0 c1 c11 c12 VB c14 c15
    obtain ⟨a2, aK, A1, v1, x2, b2, F1, V, ha2⟩ : ∃ (a2 : Pool) (aK : List Nat) (A1 : cK) (v1 : Value) (x2 : bI) (b2 : Int) (F1 : List Nat) (V : World), a2 = { st.a with Ns := st.a.Ns.set id (N.start k) } ∧ aK = st.ids ++ [id] ∧ A1 = C.A ∧ v1 = C.v ∧ x2 = st.x.add (cU 1) 1 ∧ b2 = st.b ∧ F1 = F2 ∧ V = w4 := ⟨_, _, _, _, _, _, _, _, rfl, rfl, rfl, rfl, rfl, rfl, rfl, rfl⟩
    obtain ⟨g1, g2, g3, g4, g5, g6, g7, g8⟩ := ha2
    obtain ⟨a1, bG, hg⟩ : ∃ (a1 : Pool) (bG : List Nat), a1 = a2 ∧ bG = aK := ⟨_, _, rfl, rfl⟩
    obtain ⟨g9, g10⟩ := hg
    have oM := qd (show BS (LX st.a id) a1 bG a2 aK from by rw [g9, g10]; exact .not)
    have Ca := qd (show yu st.a st.ids id a1 bG from by rw [g9, g10, g1, g2]; exact ug.out)
    have Cb := qd (show BU a2 aK id from by rw [g1, g2]; exact mF.out)
    have nM := qd (show a2.ents = st.a.ents from by rw [g1]; exact GD.out)
    have iB := qd (show dJ st.x x2 0 1 from by rw [g5]; exact ng _ 1)
    have Eo : aK.length ≤ 40 := by rw [g2, List.length_append, List.length_singleton]; omega
    have fE := qd (show aA W0 E H { C with A := A1, v := v1 } w0 G0 V F1 { st with a := a2, ids := aK, b := b2, x := x2 } from by rw [g1, g2, g3, g4, g5, g6, g7, g8]; exact nE.out)
    rw [← g8]
    clear nE ug mF GD g1 g2 g3 g4 g5 g6 g7 g8 g9 g10 Sl jX oK HO
    have HC := fE
    have ug := Ca
    have mF := Cb
    clear fE Ca Cb
    have iY := qd (HC.out.below (Below.refl V.heap.size V).drew)
    have e14 : V.cell? ⟨C.mb, 14, none⟩ = some (.pointer (some ⟨C.sb, 0, none⟩)) := HC.out.cells.2.2.2.2.2.1
    have hbd := iY.out.bounds
    have yS := qd (sZ iY.out.hp ({ C with A := A1, v := v1 } : eB).s F1 C.K iY.out.kk rfl b2 aK a2 x2 id jB (fun _ => rfl) (fun j hj => ⟨(mF.out.pre.fU j).2 hj, by
     rcases (mF.out.pre.fU j).2 hj with ⟨M, h1, _⟩ | ⟨_, h1, _⟩
     ·have := aX h1
      have h3 := hbd.2.1
      simp only at h3
      omega
     ·omega⟩) (World.drew V) iY.out.aB)
    have HS2 := qd (show Calls Tryz.prog 78 #[.pointer (some ⟨C.sb, 0, none⟩), .pointer (some ⟨C.mb, 3, none⟩), .int .i64 (id : Int)] (World.drew V) _ from yS.out)
    clear yS HC hbd
    go_upto_region 7 with fail
    refine rT (fun (w' : World) => w'.cell? ⟨C.mb, 14, none⟩ = some (.pointer (some ⟨C.sb, 0, none⟩))) [8] ?_
    have hHeld := e14
    refine vW 0 rfl ?_
    refine vW 1 rfl ?_
    refine vW 2 rfl ?_
    refine vT 3 rfl ?_
    refine vW 4 rfl ?_
    refine vW 5 rfl ?_
    refine vW 6 rfl ?_
    refine vW 7 rfl ?_
    refine vW 10 rfl ?_
    refine nT 8 rfl fun K hK => ?_
    go_simp
    refine (HS2.out).mono ?_
    rintro y V2 ⟨A9, c9, e1, dW, a3, a4, F4, x4, b4, rfl, hrow, hown, hoth, hs, hco, hra⟩
    obtain ⟨wK, mO⟩ := CG iY.out.kk.1 mF.out hown hoth
    have fE := qd (iY.out.served hs mO.len mO.cop)
    have jC := qd wK
    have eX := qd hown
    have rG := qd hoth
    have jf := qd (show a4.ents.Perm st.a.ents from by rw [← nM.out]; exact mO.ents)
    have wL := qd (iB.out.trans hco)
    obtain ⟨pend, mP⟩ : ∃ p, p = e1 ++ dZ Pool.left a4 dW := ⟨_, rfl⟩
    rw [← mP] at hrow hra ⊢
    have nD := qd mP
    have jL := qd hrow
    have kS := qd (show ∀ g, (Value.slice A9 pend.length c9).ownBlock = some g → g ∉ ({ C with A := A1, v := v1 } : eB).foot F4 from fun g hg hq => by
     have hl := (hrow.lt g hg)
     rcases aW.1 hq with h1 | h1 | h1 | h1
     ·exact hra g hg (by rw [h1]; exact List.mem_cons_self ..)
     ·exact hra g hg (List.mem_cons_of_mem _ (List.mem_append_left _ h1))
     ·exact hra g hg (List.mem_cons_of_mem _ (List.mem_append_right _ h1))
     ·have := (iY.out.row.lt g h1).2; omega)
    obtain ⟨bs, hbs⟩ : ∃ bs, bs = (World.drew V).heap.size := ⟨_, rfl⟩
    rw [← hbs] at jL
    clear hrow hown hoth hs hco hra wK mO mP HS2 iY mF nM iB hbs
    go_wp2_with fail
    refine kO hK ?_
    clear hK K
    refine vL 9 rfl ?_
    refine aS (by kernel_rfl) ?_ _
    have hpl : pend.length ≤ 40 := by
     have h1 := lW rG.out
     have h2 := congrArg List.length h1
     rw [List.length_append] at h2
     have h3 : (dZ Pool.left a4 dW).length ≤ dW.length := List.length_filter_le _ _
     rw [nD.out, List.length_append]
     have h4 := Eo
     omega
    clear e14
    go_wp2
    go_loopw [9, 67] (fun _ v67 wr => ∃ (i : Nat) (A' : cK) (v' : Value) (F' : List Nat) (a' : Pool) (x' : bI) (u' : Nat), i ≤ pend.length ∧ v67 = .int .i64 (i : Int) ∧ Hid (aA W0 E H { C with A := A', v := v' } w0 G0 wr F' { st with a := a', ids := d9 Pool.left a4 dW, b := b4, x := x' }) ∧ Hid (iM a' (d9 Pool.left a4 dW) (pend.drop i)) ∧ Hid (∀ c, jr H a' (pend.drop i) c → jr H a4 pend c) ∧ Hid (a'.ents.Perm st.a.ents) ∧ Hid (dJ st.x x' 0 u') ∧ Hid (wr.ownsRow bs 3 1 (.slice A9 pend.length c9) pend.length (bR pend)) ∧ Hid (∀ g, (Value.slice A9 pend.length c9).ownBlock = some g → g ∉ ({ C with A := A', v := v' } : eB).foot F')) (fun _ v67 _ => pend.length - (intOf v67).toNat)
    case atStart => exact ⟨0, A1, v1, F4, a4, x4, _, by omega, rfl, fE, qd (by rw [List.drop_zero, nD.out]; exact jC.out), qd (fun _ h => h), jf, wL, jL, kS⟩
    case round =>
     clear fE jC jf wL jL kS
     obtain ⟨i, A', v', F', a', x', u', hi, rfl, HC, jC, wM, jf, iB, jL, kS⟩ := hrel
     by_cases hlt : i < pend.length
     ·have hlt' : (i : Int) < (pend.length : Int) := by omega
      have hi0 : (0 : Int) ≤ (i : Int) := by omega
      have LG : (i : Int) ≤ 41 := by omega
      obtain ⟨j, hj⟩ : ∃ j, pend[i]? = some j := ⟨_, List.getElem?_eq_getElem hlt⟩
      obtain ⟨g, BX, hge, hgl, hce, _⟩ := iJ jL.out hj
      have uj := qd (drop_cons hj)
      have HU := qd (qE HC.out.again 1 (Nat.le_refl _))
      have Oh := qd BX
      subst BX
      clear hj
      go_wp2_with fail
      refine HU.out.mono ?_
      rintro y w1 ⟨rfl, h1⟩
      have HR1 := qd (fH jL.out h1.mod (fun k hk => kS.out k hk))
      have pY := qd (show ∀ g', (Value.slice (some ⟨g, 0, none⟩) pend.length c9).ownBlock = some g' → g' ∉ ({ C with A := A', v := v' } : eB).foot F' from kS.out)
      have jZ := qd (HC.out.chain h1)
      have oW := qd (iB.out.trans (ng _ 1))
      have hin : iM a' (d9 Pool.left a4 dW) (j :: pend.drop (i + 1)) := by rw [← uj.out]; exact jC.out
      have hbd := jZ.out.bounds
      have bC := qd (zV jZ.out.again j (pend.drop (i + 1)) hin)
      have wN := qd (fun (b : Pool) (hb : uK H a' j b) => zU hin hb hbd.1 hbd.2.1 hbd.2.2.1)
      clear h1 hin HC jL kS HU jC hce iB hbd
      unfold aZ at bC
      go_wp2_with fail
      refine bC.out.mono ?_
      rintro y w2 ⟨rfl, A2, v2, F2, b2', x2', ZY, hE, hC2, om⟩
      obtain ⟨k1, k2, k3, k4, k5⟩ := wN.out b2' hE
      have pq := qd (jZ.out.chain hC2)
      have HR2 := qd (fH HR1.out hC2.mod (fun k hk => pY.out k hk))
      have Ep := qd (show ∀ g', (Value.slice (some ⟨g, 0, none⟩) pend.length c9).ownBlock = some g' → g' ∉ ({ C with A := A2, v := v2 } : eB).foot F2 from fun g' hg' hq => by
       rcases hC2.sub g' hq with h1 | h1
       ·exact pY.out g' hg' h1
       ·have := (HR1.out.lt g' hg').2; omega)
      have DC := qd k1
      have LZ := qd (k4.trans jf.out)
      have Er := qd (fun c (hc : jr H b2' (pend.drop (i + 1)) c) => wM.out c (by rw [uj.out]; exact .cons hE hc))
      have wH := qd (oW.out.trans om)
      clear hE hC2 om k1 k2 k3 k4 k5 jZ HR1 pY bC wN wM jf oW
      go_wp2
      go_roundw
      case rel => exact ⟨i + 1, A2, v2, F2, b2', x2', _, by omega, by go_num, pq, DC, Er, LZ, wH, HR2, Ep⟩
      case measure => simp [intOf]; omega
     ·obtain rfl : i = pend.length := by omega
      have hlt' : ¬ (pend.length : Int) < (pend.length : Int) := by omega
      have hIn := jC.out
      have hEa := wM.out
      rw [List.drop_length] at hIn hEa
      have BZ := qd (show rJ W0 E H C w0 G0 st id wr from ⟨A', v', F', a', _, b4, x', u', ⟨a1, bG, a2, aK, a3, e1, dW, a4, ug.out, oM.out, eX.out, rG.out, by rw [← nD.out]; exact hEa a' (.nil a'), rfl⟩, hIn, jf.out, HC.out, iB.out⟩)
      clear hIn hEa
      go_wp2
      go_end0
      first | exact ⟨rfl, BZ.out⟩ | exact BZ.out
   | none =>
    subst hdv
    obtain ⟨c0, c1, c11, c12, c13, c14, c15⟩ := nE.out.cells
    have hcv : kQ C.A st.a.cop = .pointer none := by unfold kQ; rw [Ej]; rfl
    have VB : w4.cell? ⟨C.mb, 13, none⟩ = some (.pointer none) := by rw [← hcv]; exact c13
    have hd5 : st.a.d < 5 := ZW Sl.out.2.2
    have ze := qd Ej
    obtain ⟨Fs4, hF4, hp4⟩ := nE.out.aB.pool
    have iE := qd (M4 C.A.db C.A.eb st.a.d st.a.l hd5 w4 hp4.dir)
    have hn32 : 32 ∉ st.ids ++ [id] := fun hh => by
     rcases List.mem_append.1 hh with h1 | h1
     ·rcases (jX.out.fU 32).2 h1 with ⟨M, h2, _⟩ | ⟨_, _, c, h2⟩
      ·have := aX h2
       have h3 := oK.out.2.1
       omega
      ·rw [Ej] at h2; cases h2
     ·exact h32 (List.mem_singleton.1 h1).symm
    have VD := qd hn32
    have HD5 := qd hd5
    clear c13 hcv hF4 hp4 hn32 Ej
    unfold gZ oV at iE
    go_wp2_with fail
    refine iE.out.mono ?_
    rintro x w5 ⟨cb, fb, fe, rfl, BR, ⟨z1, z2, z3⟩, hb5⟩
    have zf := qd BR
    have nk := qd hb5
    have hB := (Met.blk nE.out.aB.met).mod (Mod.of_below hb5 []) (by simp)
    have e13 : w5.cell? ⟨C.mb, 13, none⟩ = some (kQ C.A st.a.cop) := hB.cell 13
    have g13 : w5.frozen? ⟨C.mb, 13, none⟩ = false := hB.frozen 13
    clear c0 c1 c11 c12 VB c14 c15 hB BR hb5 iE
    go_wp2_with fail
    refine (UG (some ⟨cb, 0, none⟩) w5).mono ?_
    rintro x w6 ⟨rfl, rfl⟩
    obtain ⟨F6, uq⟩ := nE.out.double ze.out zf.out z1 z2 z3 nk.out VD.out
    go_upto_region 6 with fail
    refine cZ (F := fun v => aA W0 E H { C with A := { C.A with cb := cb, fb := fb, fe := fe }, v := C.v } w0 G0 v F6 { st with a := { st.a with Ns := st.a.Ns.set id (N.start k), cop := some (0, List.replicate (2 ^ (st.a.d + 1)) 0) }, ids := st.ids ++ [id], x := st.x.add (cU 1) 1 }) uq ?_
    rintro w7 hC7
    have Si := qd hC7
    have k13 : w7.cell? ⟨C.mb, 13, none⟩ = some (.pointer (some ⟨cb, 0, none⟩)) := Si.out.cells.2.2.2.2.1
    have L6 := qd (LP Si.out 32 98 ⟨cb, 0, none⟩ (by unfold cK.val cK.jt cK.ja; rw [if_pos rfl, if_pos rfl]) VD.out (by omega) (by show (st.ids ++ [id]).length < 40; rw [List.length_append, List.length_singleton]; omega))
    unfold aZ at L6
    clear uq hC7 e13 g13 nE zf nk z1 z2 z3
    go_wp2_with fail
    refine L6.out.mono ?_
    rintro x w8 ⟨rfl, h8⟩
    have Xe := qd h8
    clear h8 L6 Si k13
    obtain ⟨a2, aK, A1, v1, x2, b2, F1, V, ha2⟩ : ∃ (a2 : Pool) (aK : List Nat) (A1 : cK) (v1 : Value) (x2 : bI) (b2 : Int) (F1 : List Nat) (V : World), a2 = { st.a with Ns := st.a.Ns.set id (N.start k), cop := some (0, List.replicate (2 ^ (st.a.d + 1)) 0) } ∧ aK = st.ids ++ [id] ++ [32] ∧ A1 = { C.A with cb := cb, fb := fb, fe := fe } ∧ v1 = C.v ∧ x2 = (st.x.add (cU 1) 1).add (cU 1) 1 ∧ b2 = st.b ∧ F1 = F6 ∧ V = w8 := ⟨_, _, _, _, _, _, _, _, rfl, rfl, rfl, rfl, rfl, rfl, rfl, rfl⟩
    obtain ⟨g1, g2, g3, g4, g5, g6, g7, g8⟩ := ha2
    obtain ⟨a1, bG, hg⟩ : ∃ (a1 : Pool) (bG : List Nat), a1 = { st.a with Ns := st.a.Ns.set id (N.start k) } ∧ bG = st.ids ++ [id] := ⟨_, _, rfl, rfl⟩
    obtain ⟨g9, g10⟩ := hg
    have hdb : BS (LX st.a id) a1 bG a2 aK := by rw [g9, g10, g1, g2]; exact .yes ⟨N, HN.out, Sl.out.2.2⟩ ze.out HD5.out
    have oM := qd hdb
    have Ca := qd (show yu st.a st.ids id a1 bG from by rw [g9, g10]; exact ug.out)
    have Cb := qd (Ye (show BU a1 bG id from by rw [g9, g10]; exact mF.out) (by rw [g9]; simpa using oK.out.2.1) hdb).1
    have nM := qd (show a2.ents = st.a.ents from by rw [g1]; exact GD.out)
    have iB := qd (show dJ st.x x2 (0 + 0) (1 + 1) from by rw [g5]; exact (ng _ 1).trans (ng _ 1))
    have Eo : aK.length ≤ 40 := by rw [g2, List.length_append, List.length_append, List.length_singleton, List.length_singleton]; omega
    have fE := qd (show aA W0 E H { C with A := A1, v := v1 } w0 G0 V F1 { st with a := a2, ids := aK, b := b2, x := x2 } from by rw [g1, g2, g3, g4, g5, g6, g7, g8]; exact Xe.out)
    rw [← g8]
    clear Xe ug mF GD g1 g2 g3 g4 g5 g6 g7 g8 g9 g10 hdb Sl jX oK HO ze HD5 VD
    have HC := fE
    have ug := Ca
    have mF := Cb
    clear fE Ca Cb
    go_upto_region 7 with fail
    have iY := qd (HC.out.below (Below.refl V.heap.size V).drew)
    have e14 : V.cell? ⟨C.mb, 14, none⟩ = some (.pointer (some ⟨C.sb, 0, none⟩)) := HC.out.cells.2.2.2.2.2.1
    have hbd := iY.out.bounds
    have yS := qd (sZ iY.out.hp ({ C with A := A1, v := v1 } : eB).s F1 C.K iY.out.kk rfl b2 aK a2 x2 id jB (fun _ => rfl) (fun j hj => ⟨(mF.out.pre.fU j).2 hj, by
     rcases (mF.out.pre.fU j).2 hj with ⟨M, h1, _⟩ | ⟨_, h1, _⟩
     ·have := aX h1
      have h3 := hbd.2.1
      simp only at h3
      omega
     ·omega⟩) (World.drew V) iY.out.aB)
    have HS2 := qd (show Calls Tryz.prog 78 #[.pointer (some ⟨C.sb, 0, none⟩), .pointer (some ⟨C.mb, 3, none⟩), .int .i64 (id : Int)] (World.drew V) _ from yS.out)
    clear yS HC hbd
    go_upto_region 7 with fail
    refine rT (fun (w' : World) => w'.cell? ⟨C.mb, 14, none⟩ = some (.pointer (some ⟨C.sb, 0, none⟩))) [8] ?_
    have hHeld := e14
    refine vW 0 rfl ?_
    refine vW 1 rfl ?_
    refine vW 2 rfl ?_
    refine vT 3 rfl ?_
    refine vW 4 rfl ?_
    refine vW 5 rfl ?_
    refine vW 6 rfl ?_
    refine vW 7 rfl ?_
    refine vW 10 rfl ?_
    refine nT 8 rfl fun K hK => ?_
    go_simp
    refine (HS2.out).mono ?_
    rintro y V2 ⟨A9, c9, e1, dW, a3, a4, F4, x4, b4, rfl, hrow, hown, hoth, hs, hco, hra⟩
    obtain ⟨wK, mO⟩ := CG iY.out.kk.1 mF.out hown hoth
    have fE := qd (iY.out.served hs mO.len mO.cop)
    have jC := qd wK
    have eX := qd hown
    have rG := qd hoth
    have jf := qd (show a4.ents.Perm st.a.ents from by rw [← nM.out]; exact mO.ents)
    have wL := qd (iB.out.trans hco)
    obtain ⟨pend, mP⟩ : ∃ p, p = e1 ++ dZ Pool.left a4 dW := ⟨_, rfl⟩
    rw [← mP] at hrow hra ⊢
    have nD := qd mP
    have jL := qd hrow
    have kS := qd (show ∀ g, (Value.slice A9 pend.length c9).ownBlock = some g → g ∉ ({ C with A := A1, v := v1 } : eB).foot F4 from fun g hg hq => by
     have hl := (hrow.lt g hg)
     rcases aW.1 hq with h1 | h1 | h1 | h1
     ·exact hra g hg (by rw [h1]; exact List.mem_cons_self ..)
     ·exact hra g hg (List.mem_cons_of_mem _ (List.mem_append_left _ h1))
     ·exact hra g hg (List.mem_cons_of_mem _ (List.mem_append_right _ h1))
     ·have := (iY.out.row.lt g h1).2; omega)
    obtain ⟨bs, hbs⟩ : ∃ bs, bs = (World.drew V).heap.size := ⟨_, rfl⟩
    rw [← hbs] at jL
    clear hrow hown hoth hs hco hra wK mO mP HS2 iY mF nM iB hbs
    go_wp2_with fail
    refine kO hK ?_
    clear hK K
    refine vL 9 rfl ?_
    refine aS (by kernel_rfl) ?_ _
    have hpl : pend.length ≤ 40 := by
     have h1 := lW rG.out
     have h2 := congrArg List.length h1
     rw [List.length_append] at h2
     have h3 : (dZ Pool.left a4 dW).length ≤ dW.length := List.length_filter_le _ _
     rw [nD.out, List.length_append]
     have h4 := Eo
     omega
    clear e14
    go_wp2
    go_loopw [9, 67] (fun _ v67 wr => ∃ (i : Nat) (A' : cK) (v' : Value) (F' : List Nat) (a' : Pool) (x' : bI) (u' : Nat), i ≤ pend.length ∧ v67 = .int .i64 (i : Int) ∧ Hid (aA W0 E H { C with A := A', v := v' } w0 G0 wr F' { st with a := a', ids := d9 Pool.left a4 dW, b := b4, x := x' }) ∧ Hid (iM a' (d9 Pool.left a4 dW) (pend.drop i)) ∧ Hid (∀ c, jr H a' (pend.drop i) c → jr H a4 pend c) ∧ Hid (a'.ents.Perm st.a.ents) ∧ Hid (dJ st.x x' 0 u') ∧ Hid (wr.ownsRow bs 3 1 (.slice A9 pend.length c9) pend.length (bR pend)) ∧ Hid (∀ g, (Value.slice A9 pend.length c9).ownBlock = some g → g ∉ ({ C with A := A', v := v' } : eB).foot F')) (fun _ v67 _ => pend.length - (intOf v67).toNat)
    case atStart => exact ⟨0, A1, v1, F4, a4, x4, _, by omega, rfl, fE, qd (by rw [List.drop_zero, nD.out]; exact jC.out), qd (fun _ h => h), jf, wL, jL, kS⟩
    case round =>
     clear fE jC jf wL jL kS
     obtain ⟨i, A', v', F', a', x', u', hi, rfl, HC, jC, wM, jf, iB, jL, kS⟩ := hrel
     by_cases hlt : i < pend.length
     ·have hlt' : (i : Int) < (pend.length : Int) := by omega
      have hi0 : (0 : Int) ≤ (i : Int) := by omega
      have LG : (i : Int) ≤ 41 := by omega
      obtain ⟨j, hj⟩ : ∃ j, pend[i]? = some j := ⟨_, List.getElem?_eq_getElem hlt⟩
      obtain ⟨g, BX, hge, hgl, hce, _⟩ := iJ jL.out hj
      have uj := qd (drop_cons hj)
      have HU := qd (qE HC.out.again 1 (Nat.le_refl _))
      have Oh := qd BX
      subst BX
      clear hj
      go_wp2_with fail
      refine HU.out.mono ?_
      rintro y w1 ⟨rfl, h1⟩
      have HR1 := qd (fH jL.out h1.mod (fun k hk => kS.out k hk))
      have pY := qd (show ∀ g', (Value.slice (some ⟨g, 0, none⟩) pend.length c9).ownBlock = some g' → g' ∉ ({ C with A := A', v := v' } : eB).foot F' from kS.out)
      have jZ := qd (HC.out.chain h1)
      have oW := qd (iB.out.trans (ng _ 1))
      have hin : iM a' (d9 Pool.left a4 dW) (j :: pend.drop (i + 1)) := by rw [← uj.out]; exact jC.out
      have hbd := jZ.out.bounds
      have bC := qd (zV jZ.out.again j (pend.drop (i + 1)) hin)
      have wN := qd (fun (b : Pool) (hb : uK H a' j b) => zU hin hb hbd.1 hbd.2.1 hbd.2.2.1)
      clear h1 hin HC jL kS HU jC hce iB hbd
      unfold aZ at bC
      go_wp2_with fail
      refine bC.out.mono ?_
      rintro y w2 ⟨rfl, A2, v2, F2, b2', x2', ZY, hE, hC2, om⟩
      obtain ⟨k1, k2, k3, k4, k5⟩ := wN.out b2' hE
      have pq := qd (jZ.out.chain hC2)
      have HR2 := qd (fH HR1.out hC2.mod (fun k hk => pY.out k hk))
      have Ep := qd (show ∀ g', (Value.slice (some ⟨g, 0, none⟩) pend.length c9).ownBlock = some g' → g' ∉ ({ C with A := A2, v := v2 } : eB).foot F2 from fun g' hg' hq => by
       rcases hC2.sub g' hq with h1 | h1
       ·exact pY.out g' hg' h1
       ·have := (HR1.out.lt g' hg').2; omega)
      have DC := qd k1
      have LZ := qd (k4.trans jf.out)
      have Er := qd (fun c (hc : jr H b2' (pend.drop (i + 1)) c) => wM.out c (by rw [uj.out]; exact .cons hE hc))
      have wH := qd (oW.out.trans om)
      clear hE hC2 om k1 k2 k3 k4 k5 jZ HR1 pY bC wN wM jf oW
      go_wp2
      go_roundw
      case rel => exact ⟨i + 1, A2, v2, F2, b2', x2', _, by omega, by go_num, pq, DC, Er, LZ, wH, HR2, Ep⟩
      case measure => simp [intOf]; omega
     ·obtain rfl : i = pend.length := by omega
      have hlt' : ¬ (pend.length : Int) < (pend.length : Int) := by omega
      have hIn := jC.out
      have hEa := wM.out
      rw [List.drop_length] at hIn hEa
      have BZ := qd (show rJ W0 E H C w0 G0 st id wr from ⟨A', v', F', a', _, b4, x', u', ⟨a1, bG, a2, aK, a3, e1, dW, a4, ug.out, oM.out, eX.out, rG.out, by rw [← nD.out]; exact hEa a' (.nil a'), rfl⟩, hIn, jf.out, HC.out, iB.out⟩)
      clear hIn hEa
      go_wp2
      go_end0
      first | exact ⟨rfl, BZ.out⟩ | exact BZ.out
end Go.Proofs.YtfojgfddgplinabGreatDoor
