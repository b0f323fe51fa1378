/- A scheduler's Serve by its contract. -/
import Derived.Test.YtbphcldoflekpaaGreatDoorCoBV
import Derived.Test.YtbphcldoflekpaaGreatDoorSqT
import Derived.Test.YtbphcldoflekpaaGreatDoorLaneP
namespace Go.Proofs.YtbphcldoflekpaaGreatDoor
set_option maxRecDepth 100000
set_option maxHeartbeats 8000000
open Go.RowKit dA
variable {c i id j : Nat} {e aI : List Nat}
def Gs {α : Type} (Stp : α → Nat → α → Prop) (id : Nat) : Nat → α → α → Prop
 | 0, a, a' => a = a'
 | n + 1, a, a' => ∃ b, Gs Stp id n a b ∧ Stp b id a'
def tL {α : Type} (left : α → Nat → Nat) (Stp : α → Nat → α → Prop) (ids : List Nat) (own n : Nat) (a a' : α) : Prop :=
 (own ∉ ids ∧ a' = a) ∨ (own ∈ ids ∧ ∃ m, Gs Stp own m a a' ∧ m ≤ n ∧ (m = n ∨ left a' own = 0))
def gq {α : Type} (left : α → Nat → Nat) (a : α) (ids : List Nat) : List Nat := ids.filter fun id => left a id == 0
def gY {α : Type} (left : α → Nat → Nat) (a : α) (ids : List Nat) : List Nat := ids.filter fun id => left a id != 0
theorem Eb {W0 : World} {E : Nat → Addr} {P : MP} {α : Type} {jt : Nat → TypeId} {ja : Nat → Addr} {At : World → List Nat → α → Prop} {can : α → Nat → Prop} {left : α → Nat → Nat} {Stp : α → Nat → α → Prop} (HP : iH W0 E P jt ja At can left Stp) : ∀ {n : Nat} {a a' : α}, Gs Stp id n a a' → can a j → can a' j
 | 0, _, _, h, hc => h ▸ hc
 | _ + 1, _, _, ⟨_, h1, h2⟩, hc => HP.iU h2 (Eb HP h1 hc)
theorem OB {W0 : World} {E : Nat → Addr} {P : MP} {α : Type} {jt : Nat → TypeId} {ja : Nat → Addr} {At : World → List Nat → α → Prop} {can : α → Nat → Prop} {left : α → Nat → Nat} {Stp : α → Nat → α → Prop} (HP : iH W0 E P jt ja At can left Stp) {ids : List Nat} {a a' : α} (h : qh left Stp c ids a e aI a') (hc : can a j) : can a' j := by
 induction h with
 | nil => exact hc
 | broke => exact hc
 | ended _ _ ih => exact ih hc
 | step _ hs _ ih => exact ih (HP.iU hs hc)
theorem ql {α : Type} {left : α → Nat → Nat} {Stp : α → Nat → α → Prop} {ids : List Nat} {a a' : α} (h : qh left Stp c ids a e aI a') : ids = e ++ aI := by
 induction h with
 | nil => rfl
 | broke => rfl
 | ended _ _ ih => rw [ih]; rfl
 | step _ _ _ ih => exact ih
theorem VN {W0 w0 : World} {E : Nat → Addr} {P : MP} {α : Type} {jt : Nat → TypeId} {ja : Nat → Addr} {At : World → List Nat → α → Prop} {can : α → Nat → Prop} {left : α → Nat → Nat} {Stp : α → Nat → α → Prop} (HP : iH W0 E P jt ja At can left Stp) (s : SP) (F0 F : List Nat) (b : Nat) (hb : b ≤ 1000) (ids : List Nat) (a : α) (x : bM) (id : Nat) (hc : can a id) (w : World) (h : bG W0 E P At s w0 F0 w (b : Int) ids a F x) :
  Calls Tryz.prog 135 #[eu s.sb, lT P, .iface (jt id) (.pointer (some (ja id)))] w fun e w' => (e = .returned (.bool true) ∧ ∃ a' F' x', 1 ≤ b ∧ Stp a id a' ∧ dI x x' 0 1 ∧ bG W0 E P At s w0 F0 w' ((b - 1 : Nat) : Int) ids a' F' x') ∨ (e = .returned (.bool false) ∧ (left a id = 0 ∨ b = 0) ∧ bG W0 E P At s w0 F0 w' (b : Int) ids a F x) := by
 rcases Nat.eq_zero_or_pos (left a id) with h0 | h1
 ·exact (step_done HP s F0 F b ids a x id hc h0 w h).mono fun e w' ⟨h1, h2⟩ => .inr ⟨h1, .inl h0, h.below HP h2⟩
 ·rcases b with _ | b
  ·exact (Qj HP s F0 F ids a x id hc h1 w h).mono fun e w' ⟨h1, h2⟩ => .inr ⟨h1, .inr rfl, h.below HP h2⟩
  ·exact (LH HP s F0 F b (by omega) ids a x id hc h1 w h).mono fun e w' ⟨h1, a', F', x', h2, h3, h4, _⟩ => .inl ⟨h1, a', F', x', by omega, h2, h3, h4⟩
theorem IZ {α : Type} {left : α → Nat → Nat} {a : α} {ids : List Nat} (h : ids[i]? = some id) : gY left a (ids.take (i + 1)) = gY left a (ids.take i) ++ (if left a id = 0 then [] else [id]) ∧ gq left a (ids.take (i + 1)) = gq left a (ids.take i) ++ (if left a id = 0 then [id] else []) := by
 have ht : ids.take (i + 1) = ids.take i ++ [id] := by rw [List.take_add_one, h]; rfl
 unfold gY gq
 rw [ht, List.filter_append, List.filter_append]
 by_cases h0 : left a id = 0 <;> simp [h0]
theorem drop_cons {ids : List Nat} (h : ids[i]? = some id) : ids.drop i = id :: ids.drop (i + 1) := by
 obtain ⟨hl, rfl⟩ := List.getElem?_eq_some_iff.1 h
 exact List.drop_eq_getElem_cons hl
theorem I4 {l r : List Nat} (h : id ∉ l) : (l ++ id :: r).erase id = l ++ r := by
 rw [List.erase_append_right _ h, List.erase_cons_head]
section
variable {W0 w0 w w2 : World} {E : Nat → Addr} {P : MP} {α : Type} {jt : Nat → TypeId} {ja : Nat → Addr} {At : World → List Nat → α → Prop} {can : α → Nat → Prop} {left : α → Nat → Nat} {Stp : α → Nat → α → Prop} {s : SP} {F0 F F2 : List Nat} {b b2 : Int} {ids aO : List Nat} {a a2 : α} {x x2 : bM}
theorem bG.again (h : bG W0 E P At s w0 F0 w b ids a F x) : bG W0 E P At s w F w b ids a F x := ⟨h.aC, h.pool, h.met, h.env, h.apart, h.qg, h.env.size, fun _ hq => .inl hq, Mod.refl _ _⟩
theorem bG.chain (h : bG W0 E P At s w0 F0 w b ids a F x) (k : bG W0 E P At s w F w2 b2 aO a2 F2 x2) : bG W0 E P At s w0 F0 w2 b2 aO a2 F2 x2 :=
 ⟨k.aC, k.pool, k.met, k.env, k.apart, k.qg, h.oq, fun q hq => (k.sub q hq).elim (h.sub q) (fun hh => .inr (Nat.le_trans h.size hh)), h.mod.trans k.mod (fun _ hq _ => hq) (fun q hq hl => by
  rcases List.mem_cons.1 hq with h1 | h1
  ·simp [h1]
  ·rcases List.mem_append.1 h1 with h2 | h2
   ·simp [h2]
   ·rcases h.sub q h2 with h3 | h3
    ·simp [h3]
    ·omega)⟩
end
theorem FC {W0 : World} {E : Nat → Addr} {P : MP} {α : Type} {jt : Nat → TypeId} {ja : Nat → Addr} {At : World → List Nat → α → Prop} {can : α → Nat → Prop} {left : α → Nat → Nat} {Stp : α → Nat → α → Prop} (HP : iH W0 E P jt ja At can left Stp) (s : SP) (F : List Nat) (K : Nat) (hK : 1 ≤ K ∧ K ≤ 64) (hk : s.k = (K : Int)) (b : Int) (ids : List Nat) (a : α) (x : bM) (own : Nat) (kL : own ≤ 1000) (hin : own ∉ ids) (hval : ∀ id, s.val id = .iface (jt id) (.pointer (some (ja id)))) (hcan : ∀ id ∈ ids, can a id ∧ id ≤ 1000) (w : World) (h : bG W0 E P At s w F w b ids a F x) :
  Calls Tryz.prog 91 #[eu s.sb, lT P, nI own] w fun e w' => ∃ A cc e1 bO a1 a2 F' x' b', e = .returned (.slice A (e1 ++ gq left a2 bO).length cc) ∧ w'.ownsRow w.heap.size 3 1 (.slice A (e1 ++ gq left a2 bO).length cc) (e1 ++ gq left a2 bO).length (dz (e1 ++ gq left a2 bO)) ∧ tL left Stp ids own (8 * K) a a1 ∧ qh left Stp K ids a1 e1 bO a2 ∧ bG W0 E P At s w F w' b' (gY left a2 bO) a2 F' x' ∧ dI x x' 0 (9 * K) ∧ mM P s F' (.slice A (e1 ++ gq left a2 bO).length cc) := by
 have hval := qd hval
 have hlen := qd h.aC.many
 have H0 := qd h
 have D9 := qd hcan
 have yS := qd hin
 obtain ⟨F0, IX⟩ : ∃ F0, F0 = F := ⟨_, rfl⟩
 have hk' : 1 ≤ s.k ∧ s.k ≤ 64 := by omega
 have Z4 : 0 ≤ 8 * s.k ∧ 8 * s.k ≤ 1000 := by omega
 have SK : 8 * s.k = ((8 * K : Nat) : Int) := by rw [hk]; omega
 have Z5 := qd SK
 have FD := qd hk
 have Dn := qd (vY own kL)
 unfold eu lT
 clear h hcan hin SK hk
 rw [← IX] at H0 ⊢
 clear IX
 go_in
 have HS := H0
 have iX := qd (Lu s.k 1 1 (by omega) w)
 unfold iB at iX
 obtain ⟨sp, hsb⟩ := HS.out.aC.blk
 have k0 := aj.cell hsb 0
 have k1 := aj.cell hsb 1
 have k2 := aj.cell hsb 2
 have k4 := aj.cell hsb 4
 simp only [gl] at k0 k1 k2 k4
 clear hsb
 go_wp2_with fail
 refine iX.out.mono ?_
 rintro x w1 ⟨rfl, hb⟩
 replace HS := qd (HS.out.below HP hb)
 clear k0 k1 k2 k4 hb iX
 have fZ := qd (zK HP s F0 F0 b (8 * s.k) Z4 ids a x w1 HS.out)
 unfold eu at fZ
 go_wp2_with fail
 refine fZ.out.mono ?_
 rintro z w2 ⟨rfl, hs⟩
 clear HS fZ
 have HS := qd (show bG W0 E P At s w F0 w2 ((8 * K : Nat) : Int) ids a F0 x from by rw [← Z5.out]; exact hs)
 clear hs H0
 obtain ⟨sp, hsb⟩ := HS.out.aC.blk
 have k0 := aj.cell hsb 0
 have k1 := aj.cell hsb 1
 have k2 := aj.cell hsb 2
 have k4 := aj.cell hsb 4
 simp only [gl] at k0 k1 k2 k4
 clear hsb
 have mD := qd HS.out.aC.map
 have HV := qd (show jk s.val ids (own : Int) = none from LB yS.out)
 go_wp2_with (at_lookup; refine Ag rfl _ _ rfl rfl mD.out _ rfl Dn.out ?_; rw [HV.out])
 clear k0 k1 k2 k4 mD
 have VO := qd (show tL left Stp ids own (8 * K) a a from .inl ⟨yS.out, rfl⟩)
 have FE := D9.out
 have Ec := qd (dI.refl x)
 have zL := qd FE
 clear FE
 have iX := qd (Fq s.k 1 1 (by omega) w2)
 unfold iB at iX
 obtain ⟨sp, hsb⟩ := HS.out.aC.blk
 have k0 := aj.cell hsb 0
 have k1 := aj.cell hsb 1
 have k2 := aj.cell hsb 2
 have k4 := aj.cell hsb 4
 simp only [gl] at k0 k1 k2 k4
 clear hsb
 go_wp2_with fail
 refine iX.out.mono ?_
 rintro x w1 ⟨rfl, hb⟩
 replace HS := qd (HS.out.below HP hb)
 clear k0 k1 k2 k4 hb iX
 have fZ := qd (zK HP s F0 F0 ((8 * K : Nat) : Int) s.k (by omega) ids a x w1 HS.out)
 unfold eu at fZ
 go_wp2_with fail
 refine fZ.out.mono ?_
 rintro x w2 ⟨rfl, hs⟩
 clear HS fZ
 have HS := qd (show bG W0 E P At s w F0 w2 ((K : Nat) : Int) ids a F0 x from by rw [← FD.out]; exact hs)
 clear hs
 have Dp := qd (Bw HP s F0 K (by omega) ids a x hval.out zL.out w2 HS.out.again)
 unfold eu lT at Dp
 go_wp2_with fail
 refine Dp.out.mono ?_
 rintro x w3 ⟨A9, c9, e1, aO, a2, F2, x2, b2, rfl, Bz, hoth, hs3, BA, LP⟩
 have jF := qd (HS.out.chain hs3)
 have Ed := qd jF.out.size
 have LQ := qd (Ec.out.trans BA)
 have VP := qd hoth
 have BD := qd (oW Bz HS.out.size)
 have LU := qd LP
 have Qp := qd (fun i (hi : i ∈ aO) => And.intro (OB HP hoth (zL.out i (by rw [ql hoth]; simp [hi])).1) (zL.out i (by rw [ql hoth]; simp [hi])).2)
 have hel : e1.length + aO.length = ids.length := by rw [ql hoth, List.length_append]
 clear HS Bz hoth hs3 BA LP Dp
 have kg := qd (IQ s.sb s.qb s.rb s.jb s.k b2 s.val aO w3 jF.out.aC)
 unfold eu at kg
 go_wp2_with fail
 refine kg.out.mono ?_
 rintro x w4 ⟨AI, cI, rfl, LV, hb4⟩
 have FH : ∀ g, (Value.slice AI aO.length cI).ownBlock = some g → w3.heap.size ≤ g := fun g hg => (LV.lt g hg).1
 have SL : ∀ g, (Value.slice A9 e1.length c9).ownBlock = some g → (Value.slice AI aO.length cI).ownBlock ≠ some g := fun g hg he => by
  have h1 := (BD.out.lt g hg).2
  have h2 := FH g he
  omega
 have LW : mM P s F2 (.slice AI aO.length cI) := fun g hg hq => by
  have h1 := jF.out.iF HP g hq
  have h2 := FH g hg
  omega
 replace jF := qd (jF.out.below HP hb4)
 replace BD := qB hb4 BD
 have Z6 := qd LW
 have qR := qd (oW LV (show w.heap.size ≤ w3.heap.size from Ed.out))
 have SN := qd SL
 have HBI := qd FH
 have XC := hb4.size
 have abG := jF.out.size
 have hzb : w.heap.size ≤ w3.heap.size := Ed.out
 clear LV hb4 LW SL FH kg
 go_wp2
 clear Ed
 go_loopw [9, 11, 46] (fun v9 _ v46 wr => ∃ (i : Nat) (D : List Nat), i ≤ aO.length ∧ Hid (D = e1 ++ gq left a2 (aO.take i)) ∧ v46 = nI i ∧ Hid (bG W0 E P At s w F0 wr b2 (gY left a2 (aO.take i) ++ aO.drop i) a2 F2 x2) ∧ wr.ownsRow w.heap.size 3 1 v9 D.length (dz D) ∧ Hid (wr.ownsRow w.heap.size 3 1 (.slice AI aO.length cI) aO.length (dz aO)) ∧ Hid (mM P s F2 v9) ∧ Hid (∀ g, v9.ownBlock = some g → (Value.slice AI aO.length cI).ownBlock ≠ some g) ∧ D.length ≤ e1.length + i) (fun _ _ v46 _ => aO.length - (intOf v46).toNat)
 case atStart => exact ⟨0, e1, by omega, qd (by simp [gq]), rfl, by simpa [gY] using jF, BD.out, qR, LU, SN, by omega⟩
 case round =>
  clear BD jF qR LU SN
  obtain ⟨i, D, hi, HD, rfl, HS, hO, qR, BF, LX, hdl⟩ := hrel
  obtain ⟨A, vc, rfl⟩ := dJ hO
  have HO := qd hO
  clear hO
  by_cases hlt : i < aO.length
  ·have hlt' : (i : Int) < (aO.length : Int) := by omega
   have hi0 : (0 : Int) ≤ (i : Int) := by omega
   have Z7 : (i : Int) ≤ 41 := by have := hlen.out; omega
   obtain ⟨id, hid⟩ : ∃ id, aO[i]? = some id := ⟨_, List.getElem?_eq_getElem hlt⟩
   obtain ⟨g, SQ, hge, hgl, hce, _⟩ := lQ qR.out hid
   have lU := Qp.out id (List.mem_of_getElem? hid)
   have hl := HP.zI HS.out.pool lU.1
   have HJ := qd (HP.LG lU.1)
   obtain ⟨Fl, wh⟩ : ∃ Fl, Fl = ji (jt id) := ⟨_, rfl⟩
   rw [← wh] at hl
   have IY := qd wh.symm
   have HL := qd hl
   have Dn := qd (vY id lU.2)
   have mD := qd HS.out.aC.map
   have hmem : id ∈ gY left a2 (aO.take i) ++ aO.drop i := by rw [drop_cons hid]; simp
   have HV := qd (show jk s.val (gY left a2 (aO.take i) ++ aO.drop i) (id : Int) = some (.iface (jt id) (.pointer (some (ja id)))) from by rw [vX hmem, hval.out])
   have hle := HP.le HS.out.pool lU.1
   have dD := qd (IZ (left := left) (a := a2) hid)
   have Dq := qd (drop_cons hid)
   have KT := qd HS.out.aC.nd
   have FB := qd lU
   have Gt := qd hmem
   obtain ⟨lf, hlf⟩ : ∃ lf, lf = left a2 id := ⟨_, rfl⟩
   rw [← hlf] at HL hle
   have iY := qd hlf
   have HAI := qd SQ
   obtain ⟨Dl, Dm⟩ := qj HS.out.aC
   clear hl wh lU hlf hid hmem
   subst SQ
   go_wp2_with (at_lookup; refine uP rfl _ _ rfl rfl mD.out _ rfl Dn.out _ HV.out ?_)
   rw [p9 HJ.out, Result.andThen_ok, qc HJ.out]
   rw [show ji (jt id) = Fl from IY.out]
   rw [Oper.upon_enter]
   refine HL.out.mono ?_
   rintro x w5 ⟨rfl, hb5⟩
   replace HS := qd (HS.out.below HP hb5)
   replace HO := qB hb5 HO
   replace qR := qB hb5 qR
   clear HL Dl Dm hb5 IY mD hce
   rcases Nat.eq_zero_or_pos lf with h0 | h1
   ·subst h0
    have LM := qd (show left a2 id = 0 from iY.out.symm)
    have HR := qd (zJ HP s F0 F2 b2 _ a2 x2 id Gt.out FB.out.2 w5 HS.out)
    unfold eu at HR
    simp only [Int.ofNat_zero] at *
    go_wp2_with fail
    refine HR.out.mono ?_
    rintro x w6 ⟨rfl, hs6, jW⟩
    have SS := jy HO.out jW (fun g hg hq => BF.out g hg (by simp [hq]))
    have Ee := jy qR.out jW (fun g hg hq => Z6.out g hg (by simp [hq]))
    have LY : bG W0 E P At s w F0 w6 b2 (gY left a2 (aO.take (i + 1)) ++ aO.drop (i + 1)) a2 F2 x2 := by
     have hnd := KT.out
     rw [Dq.out] at hs6 hnd
     rw [I4 (fun hh => (List.nodup_append.1 hnd).2.2 id hh id (by simp) rfl)] at hs6
     rw [dD.out.1, if_pos LM.out, List.append_nil]
     exact hs6
    have Z8 := qd LY
    have VQ := qd Ee
    have hz6 := hs6.size
    have LZ : ∀ g', (Value.slice (some ⟨g, 0, none⟩) aO.length cI).ownBlock = some g' → g' < w6.heap.size := fun g' hg' => (Ee.lt g' hg').2
    have VR := qd LZ
    clear HS HO HR qR hs6 LY jW Ee LZ
    have ZY : D.length + 1 ≤ 100 := by have := hlen.out; omega
    go_wp2_with (at_builtin; refine jP rfl rfl vV SS rfl rfl rfl rfl rfl (by omega) (by omega) ?_; intro v4 w7 dB gN; obtain ⟨A4, c4, rfl⟩ := dJ dB)
    obtain ⟨hs7, VT⟩ := Z8.out.app HP SS (Nat.le_refl _) BF.out gN
    have VU := VQ.out.kept gN.lZ (.inr (by
     intro he
     have hee : ∃ g', (Value.slice (some ⟨g, 0, none⟩) aO.length cI).ownBlock = some g' := ⟨g, rfl⟩
     obtain ⟨g', hg'⟩ := hee
     exact LX.out g' (by rw [← he]; exact hg') hg'))
    have VW : ∀ g', (Value.slice A4 (D.length + 1) c4).ownBlock = some g' → (Value.slice (some ⟨g, 0, none⟩) aO.length cI).ownBlock ≠ some g' := fun g' hg' he => by
     rcases gN.at_ with h1 | ⟨g2, h1, h2⟩
     ·exact LX.out g' (h1 ▸ hg') he
     ·have := VR.out g' he
      rw [h1] at hg'
      injection hg' with hg'
      omega
    go_roundw
    case rel => exact ⟨i + 1, D ++ [id], by omega, qd (by rw [dD.out.2, if_pos LM.out, HD.out, List.append_assoc]), by go_num, qd hs7, by simpa [dz] using dB, qd VU, qd (by simpa [nI, nU] using VT), qd (by simpa [nI, nU] using VW), by simp; omega⟩
    case measure => simp [intOf]; omega
   ·have hl1 : ¬ (lf : Int) < 1 := by omega
    have hne : ¬ left a2 id = 0 := by rw [← iY.out]; omega
    have jc := qd hne
    have hs5 := HS.out
    rw [Dq.out] at hs5
    have KI := qd (show bG W0 E P At s w F0 w5 b2 (gY left a2 (aO.take (i + 1)) ++ aO.drop (i + 1)) a2 F2 x2 from by rw [dD.out.1, if_neg hne, List.append_assoc]; exact hs5)
    clear hs5 hne HS
    go_wp2
    go_roundw
    case rel => exact ⟨i + 1, D, by omega, qd (by rw [dD.out.2, if_neg jc.out, List.append_nil]; exact HD.out), by go_num, KI, HO.out, qR, BF, LX, by omega⟩
    case measure => simp [intOf]; omega
  ·obtain rfl : i = aO.length := by omega
   have hlt' : ¬ (aO.length : Int) < (aO.length : Int) := by omega
   have ht : aO.take aO.length = aO := List.take_length
   have hd : aO.drop aO.length = [] := List.drop_length
   rw [ht, hd, List.append_nil] at HS
   rw [ht] at HD
   clear ht hd
   rw [HD.out] at HO BF ⊢
   go_wp2
   go_ret
   have Bz := HO.out
   have SV := BF.out
   rw [List.length_append] at Bz SV
   exact ⟨A, vc, e1, aO, a, a2, rfl, Bz, VO.out, VP.out, F2, x2, ⟨b2, HS.out⟩, LQ.out.mono (by omega) (by omega), SV⟩
theorem Gu {W0 : World} {E : Nat → Addr} {P : MP} {α : Type} {jt : Nat → TypeId} {ja : Nat → Addr} {At : World → List Nat → α → Prop} {can : α → Nat → Prop} {left : α → Nat → Nat} {Stp : α → Nat → α → Prop} (HP : iH W0 E P jt ja At can left Stp) (s : SP) (F : List Nat) (K : Nat) (hK : 1 ≤ K ∧ K ≤ 64) (hk : s.k = (K : Int)) (b : Int) (ids : List Nat) (a : α) (x : bM) (own : Nat) (kL : own ≤ 1000) (hin : own ∈ ids) (hval : ∀ id, s.val id = .iface (jt id) (.pointer (some (ja id)))) (hcan : ∀ id ∈ ids, can a id ∧ id ≤ 1000) (w : World) (h : bG W0 E P At s w F w b ids a F x) :
  Calls Tryz.prog 91 #[eu s.sb, lT P, nI own] w fun e w' => ∃ A cc e1 bO a1 a2 F' x' b', e = .returned (.slice A (e1 ++ gq left a2 bO).length cc) ∧ w'.ownsRow w.heap.size 3 1 (.slice A (e1 ++ gq left a2 bO).length cc) (e1 ++ gq left a2 bO).length (dz (e1 ++ gq left a2 bO)) ∧ tL left Stp ids own (8 * K) a a1 ∧ qh left Stp K ids a1 e1 bO a2 ∧ bG W0 E P At s w F w' b' (gY left a2 bO) a2 F' x' ∧ dI x x' 0 (9 * K) ∧ mM P s F' (.slice A (e1 ++ gq left a2 bO).length cc) := by
 have hval := qd hval
 have hlen := qd h.aC.many
 have H0 := qd h
 have D9 := qd hcan
 have yS := qd hin
 obtain ⟨F0, IX⟩ : ∃ F0, F0 = F := ⟨_, rfl⟩
 have hk' : 1 ≤ s.k ∧ s.k ≤ 64 := by omega
 have Z4 : 0 ≤ 8 * s.k ∧ 8 * s.k ≤ 1000 := by omega
 have SK : 8 * s.k = ((8 * K : Nat) : Int) := by rw [hk]; omega
 have Z5 := qd SK
 have FD := qd hk
 have Dn := qd (vY own kL)
 unfold eu lT
 clear h hcan hin SK hk
 rw [← IX] at H0 ⊢
 clear IX
 go_in
 have HS := H0
 have iX := qd (Lu s.k 1 1 (by omega) w)
 unfold iB at iX
 obtain ⟨sp, hsb⟩ := HS.out.aC.blk
 have k0 := aj.cell hsb 0
 have k1 := aj.cell hsb 1
 have k2 := aj.cell hsb 2
 have k4 := aj.cell hsb 4
 simp only [gl] at k0 k1 k2 k4
 clear hsb
 go_wp2_with fail
 refine iX.out.mono ?_
 rintro x w1 ⟨rfl, hb⟩
 replace HS := qd (HS.out.below HP hb)
 clear k0 k1 k2 k4 hb iX
 have fZ := qd (zK HP s F0 F0 b (8 * s.k) Z4 ids a x w1 HS.out)
 unfold eu at fZ
 go_wp2_with fail
 refine fZ.out.mono ?_
 rintro z w2 ⟨rfl, hs⟩
 clear HS fZ
 have HS := qd (show bG W0 E P At s w F0 w2 ((8 * K : Nat) : Int) ids a F0 x from by rw [← Z5.out]; exact hs)
 clear hs H0
 obtain ⟨sp, hsb⟩ := HS.out.aC.blk
 have k0 := aj.cell hsb 0
 have k1 := aj.cell hsb 1
 have k2 := aj.cell hsb 2
 have k4 := aj.cell hsb 4
 simp only [gl] at k0 k1 k2 k4
 clear hsb
 have mD := qd HS.out.aC.map
 have HV := qd (show jk s.val ids (own : Int) = some (.iface (jt own) (.pointer (some (ja own)))) from by rw [vX yS.out, hval.out])
 go_wp2_with (at_lookup; refine Ag rfl _ _ rfl rfl mD.out _ rfl Dn.out ?_; rw [HV.out])
 clear k0 k1 k2 k4 mD HV
 have h8K : 8 * K ≤ 512 := by omega
 go_loopw [] (fun wr => ∃ (n c : Nat) (a1 : α) (F1 : List Nat) (x1 : bM), Hid (n + c = 8 * K) ∧ Hid (bG W0 E P At s w F0 wr (c : Int) ids a1 F1 x1) ∧ Hid (Gs Stp own n a a1) ∧ Hid (dI x x1 0 n)) (fun wr => Cn s.sb s.qb wr)
 case atStart => exact ⟨0, 8 * K, a, F0, x, qd (by omega), HS, qd rfl, qd (dI.refl x)⟩
 case round =>
  clear HS
  obtain ⟨n, c, a1, F1, x1, HN, HS, jg, Ec⟩ := hrel
  have hc8 : c ≤ 512 := by have := HN.out; omega
  have hn8 : n ≤ 8 * K := by have := HN.out; omega
  have FB := qd (Eb HP jg.out (D9.out own yS.out).1)
  have iT := qd HS.out.aC.meas
  have Qq := qd (VN HP s F0 F1 c (by omega) ids a1 x1 own FB.out wr HS.out)
  unfold eu lT at Qq
  go_wp2_with fail
  refine Qq.out.mono ?_
  rintro e V (⟨rfl, a3, F3, x3, hc1, hst, hco, hs⟩ | ⟨rfl, hor, hs⟩)
  ·have jF := qd hs
   have abH := qd (show Gs Stp own (n + 1) a a3 from ⟨a1, jg.out, hst⟩)
   have abI := qd (Ec.out.trans hco)
   clear HS hs hst hco Qq
   go_wp2
   go_roundw
   case rel => exact ⟨n + 1, c - 1, a3, F3, x3, qd (by have := HN.out; omega), jF, abH, qd (abI.out.mono (by omega) (by omega))⟩
   case measure => rw [iT.out, jF.out.aC.meas]; omega
  ·replace HS := qd hs
   have VO := qd (show tL left Stp ids own (8 * K) a a1 from .inr ⟨yS.out, n, jg.out, hn8, by have := HN.out; rcases hor with h1 | h1; exact .inr h1; left; omega⟩)
   have FE : ∀ id ∈ ids, can a1 id ∧ id ≤ 1000 := fun id hid => ⟨Eb HP jg.out (D9.out id hid).1, (D9.out id hid).2⟩
   clear hs hor Qq jg iT HN FB
   have zL := qd FE
   clear FE
   have iX := qd (Fq s.k 1 1 (by omega) V)
   unfold iB at iX
   obtain ⟨sp, hsb⟩ := HS.out.aC.blk
   have k0 := aj.cell hsb 0
   have k1 := aj.cell hsb 1
   have k2 := aj.cell hsb 2
   have k4 := aj.cell hsb 4
   simp only [gl] at k0 k1 k2 k4
   clear hsb
   go_wp2_with fail
   refine iX.out.mono ?_
   rintro x w1 ⟨rfl, hb⟩
   replace HS := qd (HS.out.below HP hb)
   clear k0 k1 k2 k4 hb iX
   have fZ := qd (zK HP s F0 F1 (c : Int) s.k (by omega) ids a1 x1 w1 HS.out)
   unfold eu at fZ
   go_wp2_with fail
   refine fZ.out.mono ?_
   rintro x w2 ⟨rfl, hs⟩
   clear HS fZ
   have HS := qd (show bG W0 E P At s w F0 w2 ((K : Nat) : Int) ids a1 F1 x1 from by rw [← FD.out]; exact hs)
   clear hs
   have Dp := qd (Bw HP s F1 K (by omega) ids a1 x1 hval.out zL.out w2 HS.out.again)
   unfold eu lT at Dp
   go_wp2_with fail
   refine Dp.out.mono ?_
   rintro x w3 ⟨A9, c9, e1, aO, a2, F2, x2, b2, rfl, Bz, hoth, hs3, BA, LP⟩
   have jF := qd (HS.out.chain hs3)
   have Ed := qd jF.out.size
   have LQ := qd (Ec.out.trans BA)
   have VP := qd hoth
   have BD := qd (oW Bz HS.out.size)
   have LU := qd LP
   have Qp := qd (fun i (hi : i ∈ aO) => And.intro (OB HP hoth (zL.out i (by rw [ql hoth]; simp [hi])).1) (zL.out i (by rw [ql hoth]; simp [hi])).2)
   have hel : e1.length + aO.length = ids.length := by rw [ql hoth, List.length_append]
   clear HS Bz hoth hs3 BA LP Dp
   have kg := qd (IQ s.sb s.qb s.rb s.jb s.k b2 s.val aO w3 jF.out.aC)
   unfold eu at kg
   go_wp2_with fail
   refine kg.out.mono ?_
   rintro x w4 ⟨AI, cI, rfl, LV, hb4⟩
   have FH : ∀ g, (Value.slice AI aO.length cI).ownBlock = some g → w3.heap.size ≤ g := fun g hg => (LV.lt g hg).1
   have SL : ∀ g, (Value.slice A9 e1.length c9).ownBlock = some g → (Value.slice AI aO.length cI).ownBlock ≠ some g := fun g hg he => by
    have h1 := (BD.out.lt g hg).2
    have h2 := FH g he
    omega
   have LW : mM P s F2 (.slice AI aO.length cI) := fun g hg hq => by
    have h1 := jF.out.iF HP g hq
    have h2 := FH g hg
    omega
   replace jF := qd (jF.out.below HP hb4)
   replace BD := qB hb4 BD
   have Z6 := qd LW
   have qR := qd (oW LV (show w.heap.size ≤ w3.heap.size from Ed.out))
   have SN := qd SL
   have HBI := qd FH
   have XC := hb4.size
   have abG := jF.out.size
   have hzb : w.heap.size ≤ w3.heap.size := Ed.out
   clear LV hb4 LW SL FH kg
   go_wp2
   clear Ed
   go_loopw [9, 11, 46] (fun v9 _ v46 wr => ∃ (i : Nat) (D : List Nat), i ≤ aO.length ∧ Hid (D = e1 ++ gq left a2 (aO.take i)) ∧ v46 = nI i ∧ Hid (bG W0 E P At s w F0 wr b2 (gY left a2 (aO.take i) ++ aO.drop i) a2 F2 x2) ∧ wr.ownsRow w.heap.size 3 1 v9 D.length (dz D) ∧ Hid (wr.ownsRow w.heap.size 3 1 (.slice AI aO.length cI) aO.length (dz aO)) ∧ Hid (mM P s F2 v9) ∧ Hid (∀ g, v9.ownBlock = some g → (Value.slice AI aO.length cI).ownBlock ≠ some g) ∧ D.length ≤ e1.length + i) (fun _ _ v46 _ => aO.length - (intOf v46).toNat)
   case atStart => exact ⟨0, e1, by omega, qd (by simp [gq]), rfl, by simpa [gY] using jF, BD.out, qR, LU, SN, by omega⟩
   case round =>
    clear BD jF qR LU SN
    obtain ⟨i, D, hi, HD, rfl, HS, hO, qR, BF, LX, hdl⟩ := hrel
    obtain ⟨A, vc, rfl⟩ := dJ hO
    have HO := qd hO
    clear hO
    by_cases hlt : i < aO.length
    ·have hlt' : (i : Int) < (aO.length : Int) := by omega
     have hi0 : (0 : Int) ≤ (i : Int) := by omega
     have Z7 : (i : Int) ≤ 41 := by have := hlen.out; omega
     obtain ⟨id, hid⟩ : ∃ id, aO[i]? = some id := ⟨_, List.getElem?_eq_getElem hlt⟩
     obtain ⟨g, SQ, hge, hgl, hce, _⟩ := lQ qR.out hid
     have lU := Qp.out id (List.mem_of_getElem? hid)
     have hl := HP.zI HS.out.pool lU.1
     have HJ := qd (HP.LG lU.1)
     obtain ⟨Fl, wh⟩ : ∃ Fl, Fl = ji (jt id) := ⟨_, rfl⟩
     rw [← wh] at hl
     have IY := qd wh.symm
     have HL := qd hl
     have Dn := qd (vY id lU.2)
     have mD := qd HS.out.aC.map
     have hmem : id ∈ gY left a2 (aO.take i) ++ aO.drop i := by rw [drop_cons hid]; simp
     have HV := qd (show jk s.val (gY left a2 (aO.take i) ++ aO.drop i) (id : Int) = some (.iface (jt id) (.pointer (some (ja id)))) from by rw [vX hmem, hval.out])
     have hle := HP.le HS.out.pool lU.1
     have dD := qd (IZ (left := left) (a := a2) hid)
     have Dq := qd (drop_cons hid)
     have KT := qd HS.out.aC.nd
     have FB := qd lU
     have Gt := qd hmem
     obtain ⟨lf, hlf⟩ : ∃ lf, lf = left a2 id := ⟨_, rfl⟩
     rw [← hlf] at HL hle
     have iY := qd hlf
     have HAI := qd SQ
     obtain ⟨Dl, Dm⟩ := qj HS.out.aC
     clear hl wh lU hlf hid hmem
     subst SQ
     go_wp2_with (at_lookup; refine uP rfl _ _ rfl rfl mD.out _ rfl Dn.out _ HV.out ?_)
     rw [p9 HJ.out, Result.andThen_ok, qc HJ.out]
     rw [show ji (jt id) = Fl from IY.out]
     rw [Oper.upon_enter]
     refine HL.out.mono ?_
     rintro x w5 ⟨rfl, hb5⟩
     replace HS := qd (HS.out.below HP hb5)
     replace HO := qB hb5 HO
     replace qR := qB hb5 qR
     clear HL Dl Dm hb5 IY mD hce
     rcases Nat.eq_zero_or_pos lf with h0 | h1
     ·subst h0
      have LM := qd (show left a2 id = 0 from iY.out.symm)
      have HR := qd (zJ HP s F0 F2 b2 _ a2 x2 id Gt.out FB.out.2 w5 HS.out)
      unfold eu at HR
      simp only [Int.ofNat_zero] at *
      go_wp2_with fail
      refine HR.out.mono ?_
      rintro x w6 ⟨rfl, hs6, jW⟩
      have SS := jy HO.out jW (fun g hg hq => BF.out g hg (by simp [hq]))
      have Ee := jy qR.out jW (fun g hg hq => Z6.out g hg (by simp [hq]))
      have LY : bG W0 E P At s w F0 w6 b2 (gY left a2 (aO.take (i + 1)) ++ aO.drop (i + 1)) a2 F2 x2 := by
       have hnd := KT.out
       rw [Dq.out] at hs6 hnd
       rw [I4 (fun hh => (List.nodup_append.1 hnd).2.2 id hh id (by simp) rfl)] at hs6
       rw [dD.out.1, if_pos LM.out, List.append_nil]
       exact hs6
      have Z8 := qd LY
      have VQ := qd Ee
      have hz6 := hs6.size
      have LZ : ∀ g', (Value.slice (some ⟨g, 0, none⟩) aO.length cI).ownBlock = some g' → g' < w6.heap.size := fun g' hg' => (Ee.lt g' hg').2
      have VR := qd LZ
      clear HS HO HR qR hs6 LY jW Ee LZ
      have ZY : D.length + 1 ≤ 100 := by have := hlen.out; omega
      go_wp2_with (at_builtin; refine jP rfl rfl vV SS rfl rfl rfl rfl rfl (by omega) (by omega) ?_; intro v4 w7 dB gN; obtain ⟨A4, c4, rfl⟩ := dJ dB)
      obtain ⟨hs7, VT⟩ := Z8.out.app HP SS (Nat.le_refl _) BF.out gN
      have VU := VQ.out.kept gN.lZ (.inr (by
       intro he
       have hee : ∃ g', (Value.slice (some ⟨g, 0, none⟩) aO.length cI).ownBlock = some g' := ⟨g, rfl⟩
       obtain ⟨g', hg'⟩ := hee
       exact LX.out g' (by rw [← he]; exact hg') hg'))
      have VW : ∀ g', (Value.slice A4 (D.length + 1) c4).ownBlock = some g' → (Value.slice (some ⟨g, 0, none⟩) aO.length cI).ownBlock ≠ some g' := fun g' hg' he => by
       rcases gN.at_ with h1 | ⟨g2, h1, h2⟩
       ·exact LX.out g' (h1 ▸ hg') he
       ·have := VR.out g' he
        rw [h1] at hg'
        injection hg' with hg'
        omega
      go_roundw
      case rel => exact ⟨i + 1, D ++ [id], by omega, qd (by rw [dD.out.2, if_pos LM.out, HD.out, List.append_assoc]), by go_num, qd hs7, by simpa [dz] using dB, qd VU, qd (by simpa [nI, nU] using VT), qd (by simpa [nI, nU] using VW), by simp; omega⟩
      case measure => simp [intOf]; omega
     ·have hl1 : ¬ (lf : Int) < 1 := by omega
      have hne : ¬ left a2 id = 0 := by rw [← iY.out]; omega
      have jc := qd hne
      have hs5 := HS.out
      rw [Dq.out] at hs5
      have KI := qd (show bG W0 E P At s w F0 w5 b2 (gY left a2 (aO.take (i + 1)) ++ aO.drop (i + 1)) a2 F2 x2 from by rw [dD.out.1, if_neg hne, List.append_assoc]; exact hs5)
      clear hs5 hne HS
      go_wp2
      go_roundw
      case rel => exact ⟨i + 1, D, by omega, qd (by rw [dD.out.2, if_neg jc.out, List.append_nil]; exact HD.out), by go_num, KI, HO.out, qR, BF, LX, by omega⟩
      case measure => simp [intOf]; omega
    ·obtain rfl : i = aO.length := by omega
     have hlt' : ¬ (aO.length : Int) < (aO.length : Int) := by omega
     have ht : aO.take aO.length = aO := List.take_length
     have hd : aO.drop aO.length = [] := List.drop_length
     rw [ht, hd, List.append_nil] at HS
     rw [ht] at HD
     clear ht hd
     rw [HD.out] at HO BF ⊢
     go_wp2
     go_ret
     have Bz := HO.out
     have SV := BF.out
     rw [List.length_append] at Bz SV
     exact ⟨A, vc, e1, aO, a1, a2, rfl, Bz, VO.out, VP.out, F2, x2, ⟨b2, HS.out⟩, LQ.out.mono (by omega) (by omega), SV⟩
end Go.Proofs.YtbphcldoflekpaaGreatDoor
