/- A scheduler's Serve by its contract. -/
import Derived.Test.YtfojgfddgplinabGreatDoorCoBV
import Derived.Test.YtfojgfddgplinabGreatDoorSqT
import Derived.Test.YtfojgfddgplinabGreatDoorLaneP
namespace Go.Proofs.YtfojgfddgplinabGreatDoor
set_option maxRecDepth 100000
set_option maxHeartbeats 8000000
open Go.RowKit dG
variable {c i id j : Nat} {e aI : List Nat}
def Gw {α : Type} (Stp : α → Nat → α → Prop) (id : Nat) : Nat → α → α → Prop
 | 0, a, a' => a = a'
 | n + 1, a, a' => ∃ b, Gw Stp id n a b ∧ Stp b id a'
def uh {α : Type} (left : α → Nat → Nat) (Stp : α → Nat → α → Prop) (ids : List Nat) (own n : Nat) (a a' : α) : Prop :=
 (own ∉ ids ∧ a' = a) ∨ (own ∈ ids ∧ ∃ m, Gw Stp own m a a' ∧ m ≤ n ∧ (m = n ∨ left a' own = 0))
def dZ {α : Type} (left : α → Nat → Nat) (a : α) (ids : List Nat) : List Nat := ids.filter fun id => left a id == 0
def d9 {α : Type} (left : α → Nat → Nat) (a : α) (ids : List Nat) : List Nat := ids.filter fun id => left a id != 0
theorem Ef {W0 : World} {E : Nat → Addr} {P : MP} {α : Type} {jt : Nat → TypeId} {ja : Nat → Addr} {At : World → List Nat → α → Prop} {can : α → Nat → Prop} {left : α → Nat → Nat} {Stp : α → Nat → α → Prop} (HP : iA W0 E P jt ja At can left Stp) : ∀ {n : Nat} {a a' : α}, Gw Stp id n a a' → can a j → can a' j
 | 0, _, _, h, hc => h ▸ hc
 | _ + 1, _, _, ⟨_, h1, h2⟩, hc => HP.fU h2 (Ef HP h1 hc)
theorem NZ {W0 : World} {E : Nat → Addr} {P : MP} {α : Type} {jt : Nat → TypeId} {ja : Nat → Addr} {At : World → List Nat → α → Prop} {can : α → Nat → Prop} {left : α → Nat → Nat} {Stp : α → Nat → α → Prop} (HP : iA W0 E P jt ja At can left Stp) {ids : List Nat} {a a' : α} (h : qC left Stp c ids a e aI a') (hc : can a j) : can a' j := by
 induction h with
 | nil => exact hc
 | broke => exact hc
 | ended _ _ ih => exact ih hc
 | step _ hs _ ih => exact ih (HP.fU hs hc)
theorem lW {α : Type} {left : α → Nat → Nat} {Stp : α → Nat → α → Prop} {ids : List Nat} {a a' : α} (h : qC left Stp c ids a e aI a') : ids = e ++ aI := by
 induction h with
 | nil => rfl
 | broke => rfl
 | ended _ _ ih => rw [ih]; rfl
 | step _ _ _ ih => exact ih
theorem Vn {W0 w0 : World} {E : Nat → Addr} {P : MP} {α : Type} {jt : Nat → TypeId} {ja : Nat → Addr} {At : World → List Nat → α → Prop} {can : α → Nat → Prop} {left : α → Nat → Nat} {Stp : α → Nat → α → Prop} (HP : iA W0 E P jt ja At can left Stp) (s : SP) (F0 F : List Nat) (b : Nat) (hb : b ≤ 1000) (ids : List Nat) (a : α) (x : bI) (id : Nat) (hc : can a id) (w : World) (h : bB W0 E P At s w0 F0 w (b : Int) ids a F x) :
  Calls Tryz.prog 119 #[eu s.sb, lU P, .iface (jt id) (.pointer (some (ja id)))] w fun e w' => (e = .returned (.bool true) ∧ ∃ a' F' x', 1 ≤ b ∧ Stp a id a' ∧ dJ x x' 0 1 ∧ bB W0 E P At s w0 F0 w' ((b - 1 : Nat) : Int) ids a' F' x') ∨ (e = .returned (.bool false) ∧ (left a id = 0 ∨ b = 0) ∧ bB W0 E P At s w0 F0 w' (b : Int) ids a F x) := by
 rcases Nat.eq_zero_or_pos (left a id) with h0 | h1
 ·exact (step_done HP s F0 F b ids a x id hc h0 w h).mono fun e w' ⟨h1, h2⟩ => .inr ⟨h1, .inl h0, h.below HP h2⟩
 ·rcases b with _ | b
  ·exact (PG HP s F0 F ids a x id hc h1 w h).mono fun e w' ⟨h1, h2⟩ => .inr ⟨h1, .inr rfl, h.below HP h2⟩
  ·exact (Lr HP s F0 F b (by omega) ids a x id hc h1 w h).mono fun e w' ⟨h1, a', F', x', h2, h3, h4, _⟩ => .inl ⟨h1, a', F', x', by omega, h2, h3, h4⟩
theorem IX {α : Type} {left : α → Nat → Nat} {a : α} {ids : List Nat} (h : ids[i]? = some id) : d9 left a (ids.take (i + 1)) = d9 left a (ids.take i) ++ (if left a id = 0 then [] else [id]) ∧ dZ left a (ids.take (i + 1)) = dZ left a (ids.take i) ++ (if left a id = 0 then [id] else []) := by
 have ht : ids.take (i + 1) = ids.take i ++ [id] := by rw [List.take_add_one, h]; rfl
 unfold d9 dZ
 rw [ht, List.filter_append, List.filter_append]
 by_cases h0 : left a id = 0 <;> simp [h0]
theorem drop_cons {ids : List Nat} (h : ids[i]? = some id) : ids.drop i = id :: ids.drop (i + 1) := by
 obtain ⟨hl, rfl⟩ := List.getElem?_eq_some_iff.1 h
 exact List.drop_eq_getElem_cons hl
theorem IY {l r : List Nat} (h : id ∉ l) : (l ++ id :: r).erase id = l ++ r := by
 rw [List.erase_append_right _ h, List.erase_cons_head]
section
variable {W0 w0 w w2 : World} {E : Nat → Addr} {P : MP} {α : Type} {jt : Nat → TypeId} {ja : Nat → Addr} {At : World → List Nat → α → Prop} {can : α → Nat → Prop} {left : α → Nat → Nat} {Stp : α → Nat → α → Prop} {s : SP} {F0 F F2 : List Nat} {b b2 : Int} {ids aK : List Nat} {a a2 : α} {x x2 : bI}
theorem bB.again (h : bB W0 E P At s w0 F0 w b ids a F x) : bB W0 E P At s w F w b ids a F x := ⟨h.aB, h.pool, h.met, h.env, h.apart, h.rF, h.env.size, fun _ hq => .inl hq, Mod.refl _ _⟩
theorem bB.chain (h : bB W0 E P At s w0 F0 w b ids a F x) (k : bB W0 E P At s w F w2 b2 aK a2 F2 x2) : bB W0 E P At s w0 F0 w2 b2 aK a2 F2 x2 :=
 ⟨k.aB, k.pool, k.met, k.env, k.apart, k.rF, h.o9, fun q hq => (k.sub q hq).elim (h.sub q) (fun hh => .inr (Nat.le_trans h.size hh)), h.mod.trans k.mod (fun _ hq _ => hq) (fun q hq hl => by
  rcases List.mem_cons.1 hq with h1 | h1
  ·simp [h1]
  ·rcases List.mem_append.1 h1 with h2 | h2
   ·simp [h2]
   ·rcases h.sub q h2 with h3 | h3
    ·simp [h3]
    ·omega)⟩
end
theorem FN {W0 : World} {E : Nat → Addr} {P : MP} {α : Type} {jt : Nat → TypeId} {ja : Nat → Addr} {At : World → List Nat → α → Prop} {can : α → Nat → Prop} {left : α → Nat → Nat} {Stp : α → Nat → α → Prop} (HP : iA W0 E P jt ja At can left Stp) (s : SP) (F : List Nat) (K : Nat) (hK : 1 ≤ K ∧ K ≤ 64) (hk : s.k = (K : Int)) (b : Int) (ids : List Nat) (a : α) (x : bI) (own : Nat) (jB : own ≤ 1000) (hin : own ∉ ids) (hval : ∀ id, s.val id = .iface (jt id) (.pointer (some (ja id)))) (hcan : ∀ id ∈ ids, can a id ∧ id ≤ 1000) (w : World) (h : bB W0 E P At s w F w b ids a F x) :
  Calls Tryz.prog 78 #[eu s.sb, lU P, .int .i64 (own : Int)] w fun e w' => ∃ A cc e1 bG a1 a2 F' x' b', e = .returned (.slice A (e1 ++ dZ left a2 bG).length cc) ∧ w'.ownsRow w.heap.size 3 1 (.slice A (e1 ++ dZ left a2 bG).length cc) (e1 ++ dZ left a2 bG).length (bR (e1 ++ dZ left a2 bG)) ∧ uh left Stp ids own (8 * K) a a1 ∧ qC left Stp K ids a1 e1 bG a2 ∧ bB W0 E P At s w F w' b' (d9 left a2 bG) a2 F' x' ∧ dJ x x' 0 (9 * K) ∧ mM P s F' (.slice A (e1 ++ dZ left a2 bG).length cc) := by
 have hval := qd hval
 have hlen := qd h.aB.many
 have H0 := qd h
 have Ed := qd hcan
 have jC := qd hin
 obtain ⟨F0, IV⟩ : ∃ F0, F0 = F := ⟨_, rfl⟩
 have hk' : 1 ≤ s.k ∧ s.k ≤ 64 := by omega
 have ZI : 0 ≤ 8 * s.k ∧ 8 * s.k ≤ 1000 := by omega
 have R4 : 8 * s.k = ((8 * K : Nat) : Int) := by rw [hk]; omega
 have ZJ := qd R4
 have FP := qd hk
 have Dy := qd (wF own jB)
 unfold eu lU
 clear h hcan hin R4 hk
 rw [← IV] at H0 ⊢
 clear IV
 go_in
 have HS := H0
 have iW := qd (Lf s.k 1 1 (by omega) w)
 unfold iC at iW
 obtain ⟨sp, hsb⟩ := HS.out.aB.blk
 have k0 := aj.cell hsb 0
 have k1 := aj.cell hsb 1
 have k2 := aj.cell hsb 2
 have k4 := aj.cell hsb 4
 simp only [gl] at k0 k1 k2 k4
 clear hsb
 go_wp2_with fail
 refine iW.out.mono ?_
 rintro x w1 ⟨rfl, hb⟩
 replace HS := qd (HS.out.below HP hb)
 clear k0 k1 k2 k4 hb iW
 have gB := qd (zS HP s F0 F0 b (8 * s.k) ZI ids a x w1 HS.out)
 unfold eu at gB
 go_wp2_with fail
 refine gB.out.mono ?_
 rintro z w2 ⟨rfl, hs⟩
 clear HS gB
 have HS := qd (show bB W0 E P At s w F0 w2 ((8 * K : Nat) : Int) ids a F0 x from by rw [← ZJ.out]; exact hs)
 clear hs H0
 obtain ⟨sp, hsb⟩ := HS.out.aB.blk
 have k0 := aj.cell hsb 0
 have k1 := aj.cell hsb 1
 have k2 := aj.cell hsb 2
 have k4 := aj.cell hsb 4
 simp only [gl] at k0 k1 k2 k4
 clear hsb
 have mE := qd HS.out.aB.map
 have HV := qd (show ji s.val ids (own : Int) = none from Lj jC.out)
 go_wp2_with (at_lookup; refine Au rfl _ _ rfl rfl mE.out _ rfl Dy.out ?_; rw [HV.out])
 clear k0 k1 k2 k4 mE
 have Vo := qd (show uh left Stp ids own (8 * K) a a from .inl ⟨jC.out, rfl⟩)
 have FQ := Ed.out
 have oW := qd (dJ.refl x)
 have zT := qd FQ
 clear FQ
 have iW := qd (FD s.k 1 1 (by omega) w2)
 unfold iC at iW
 obtain ⟨sp, hsb⟩ := HS.out.aB.blk
 have k0 := aj.cell hsb 0
 have k1 := aj.cell hsb 1
 have k2 := aj.cell hsb 2
 have k4 := aj.cell hsb 4
 simp only [gl] at k0 k1 k2 k4
 clear hsb
 go_wp2_with fail
 refine iW.out.mono ?_
 rintro x w1 ⟨rfl, hb⟩
 replace HS := qd (HS.out.below HP hb)
 clear k0 k1 k2 k4 hb iW
 have gB := qd (zS HP s F0 F0 ((8 * K : Nat) : Int) s.k (by omega) ids a x w1 HS.out)
 unfold eu at gB
 go_wp2_with fail
 refine gB.out.mono ?_
 rintro x w2 ⟨rfl, hs⟩
 clear HS gB
 have HS := qd (show bB W0 E P At s w F0 w2 ((K : Nat) : Int) ids a F0 x from by rw [← FP.out]; exact hs)
 clear hs
 have rG := qd (BM HP s F0 K (by omega) ids a x hval.out zT.out w2 HS.out.again)
 unfold eu lU at rG
 go_wp2_with fail
 refine rG.out.mono ?_
 rintro x w3 ⟨A9, c9, e1, aK, a2, F2, x2, b2, rfl, BN, hoth, hs3, om, Lx⟩
 have ku := qd (HS.out.chain hs3)
 have Eh := qd ku.out.size
 have wH := qd (oW.out.trans om)
 have Vp := qd hoth
 have BO := qd (pU BN HS.out.size)
 have LA := qd Lx
 have PS := qd (fun i (hi : i ∈ aK) => And.intro (NZ HP hoth (zT.out i (by rw [lW hoth]; simp [hi])).1) (zT.out i (by rw [lW hoth]; simp [hi])).2)
 have hel : e1.length + aK.length = ids.length := by rw [lW hoth, List.length_append]
 clear HS BN hoth hs3 om Lx rG
 have lX := qd (IK s.sb s.qb s.rb s.jb s.k b2 s.val aK w3 ku.out.aB)
 unfold eu at lX
 go_wp2_with fail
 refine lX.out.mono ?_
 rintro x w4 ⟨AI, cI, rfl, LB, hb4⟩
 have FR : ∀ g, (Value.slice AI aK.length cI).ownBlock = some g → w3.heap.size ≤ g := fun g hg => (LB.lt g hg).1
 have R5 : ∀ g, (Value.slice A9 e1.length c9).ownBlock = some g → (Value.slice AI aK.length cI).ownBlock ≠ some g := fun g hg he => by
  have h1 := (BO.out.lt g hg).2
  have h2 := FR g he
  omega
 have LC : mM P s F2 (.slice AI aK.length cI) := fun g hg hq => by
  have h1 := ku.out.fQ HP g hq
  have h2 := FR g hg
  omega
 replace ku := qd (ku.out.below HP hb4)
 replace BO := qB hb4 BO
 have ZK := qd LC
 have rH := qd (pU LB (show w.heap.size ≤ w3.heap.size from Eh.out))
 have R6 := qd R5
 have HBI := qd FR
 have WX := hb4.size
 have abm := ku.out.size
 have hzb : w.heap.size ≤ w3.heap.size := Eh.out
 clear LB hb4 LC R5 FR lX
 go_wp2
 clear Eh
 go_loopw [9, 11, 46] (fun v9 _ v46 wr => ∃ (i : Nat) (D : List Nat), i ≤ aK.length ∧ Hid (D = e1 ++ dZ left a2 (aK.take i)) ∧ v46 = .int .i64 (i : Int) ∧ Hid (bB W0 E P At s w F0 wr b2 (d9 left a2 (aK.take i) ++ aK.drop i) a2 F2 x2) ∧ wr.ownsRow w.heap.size 3 1 v9 D.length (bR D) ∧ Hid (wr.ownsRow w.heap.size 3 1 (.slice AI aK.length cI) aK.length (bR aK)) ∧ Hid (mM P s F2 v9) ∧ Hid (∀ g, v9.ownBlock = some g → (Value.slice AI aK.length cI).ownBlock ≠ some g) ∧ D.length ≤ e1.length + i) (fun _ _ v46 _ => aK.length - (intOf v46).toNat)
 case atStart => exact ⟨0, e1, by omega, qd (by simp [dZ]), rfl, by simpa [d9] using ku, BO.out, rH, LA, R6, by omega⟩
 case round =>
  clear BO ku rH LA R6
  obtain ⟨i, D, hi, HD, rfl, HS, hO, rH, BP, LD, hdl⟩ := hrel
  obtain ⟨A, vc, rfl⟩ := dB hO
  have HO := qd hO
  clear hO
  by_cases hlt : i < aK.length
  ·have hlt' : (i : Int) < (aK.length : Int) := by omega
   have hi0 : (0 : Int) ≤ (i : Int) := by omega
   have LG : (i : Int) ≤ 41 := by have := hlen.out; omega
   obtain ⟨id, hid⟩ : ∃ id, aK[i]? = some id := ⟨_, List.getElem?_eq_getElem hlt⟩
   obtain ⟨g, R7, hge, hgl, hce, _⟩ := iJ rH.out hid
   have lV := PS.out id (List.mem_of_getElem? hid)
   have hl := HP.zQ HS.out.pool lV.1
   have HJ := qd (HP.Lp lV.1)
   obtain ⟨Fl, wG⟩ : ∃ Fl, Fl = jh (jt id) := ⟨_, rfl⟩
   rw [← wG] at hl
   have IW := qd wG.symm
   have HL := qd hl
   have Dy := qd (wF id lV.2)
   have mE := qd HS.out.aB.map
   have hmem : id ∈ d9 left a2 (aK.take i) ++ aK.drop i := by rw [drop_cons hid]; simp
   have HV := qd (show ji s.val (d9 left a2 (aK.take i) ++ aK.drop i) (id : Int) = some (.iface (jt id) (.pointer (some (ja id)))) from by rw [wE hmem, hval.out])
   have hle := HP.le HS.out.pool lV.1
   have dV := qd (IX (left := left) (a := a2) hid)
   have uj := qd (drop_cons hid)
   have KG := qd HS.out.aB.nd
   have FM := qd lV
   have Gx := qd hmem
   obtain ⟨lf, hlf⟩ : ∃ lf, lf = left a2 id := ⟨_, rfl⟩
   rw [← hlf] at HL hle
   have iX := qd hlf
   have HAI := qd R7
   obtain ⟨Dw, Dx⟩ := qD HS.out.aB
   clear hl wG lV hlf hid hmem
   subst R7
   go_wp2_with (at_lookup; refine uY rfl _ _ rfl rfl mE.out _ rfl Dy.out _ HV.out ?_)
   rw [qz HJ.out, Result.andThen_ok, qA HJ.out]
   rw [show jh (jt id) = Fl from IW.out]
   rw [Oper.upon_enter]
   refine HL.out.mono ?_
   rintro x w5 ⟨rfl, hb5⟩
   replace HS := qd (HS.out.below HP hb5)
   replace HO := qB hb5 HO
   replace rH := qB hb5 rH
   clear HL Dw Dx hb5 IW mE hce
   rcases Nat.eq_zero_or_pos lf with h0 | h1
   ·subst h0
    have Lv := qd (show left a2 id = 0 from iX.out.symm)
    have HR := qd (zR HP s F0 F2 b2 _ a2 x2 id Gx.out FM.out.2 w5 HS.out)
    unfold eu at HR
    simp only [Int.ofNat_zero] at *
    go_wp2_with fail
    refine HR.out.mono ?_
    rintro x w6 ⟨rfl, hs6, lF⟩
    have R8 := fH HO.out lF (fun g hg hq => BP.out g hg (by simp [hq]))
    have Ei := fH rH.out lF (fun g hg hq => ZK.out g hg (by simp [hq]))
    have LH : bB W0 E P At s w F0 w6 b2 (d9 left a2 (aK.take (i + 1)) ++ aK.drop (i + 1)) a2 F2 x2 := by
     have hnd := KG.out
     rw [uj.out] at hs6 hnd
     rw [IY (fun hh => (List.nodup_append.1 hnd).2.2 id hh id (by simp) rfl)] at hs6
     rw [dV.out.1, if_pos Lv.out, List.append_nil]
     exact hs6
    have ZL := qd LH
    have Vq := qd Ei
    have hz6 := hs6.size
    have LJ : ∀ g', (Value.slice (some ⟨g, 0, none⟩) aK.length cI).ownBlock = some g' → g' < w6.heap.size := fun g' hg' => (Ei.lt g' hg').2
    have Vr := qd LJ
    clear HS HO HR rH hs6 LH lF Ei LJ
    have ZG : D.length + 1 ≤ 100 := by have := hlen.out; omega
    go_wp2_with (at_builtin; refine iZ rfl rfl wD R8 rfl rfl rfl rfl rfl (by omega) (by omega) ?_; intro v4 w7 dF gH; obtain ⟨A4, c4, rfl⟩ := dB dF)
    obtain ⟨hs7, Vs⟩ := ZL.out.app HP R8 (Nat.le_refl _) BP.out gH
    have Vt := Vq.out.kept gH.je (.inr (by
     intro he
     have hee : ∃ g', (Value.slice (some ⟨g, 0, none⟩) aK.length cI).ownBlock = some g' := ⟨g, rfl⟩
     obtain ⟨g', hg'⟩ := hee
     exact LD.out g' (by rw [← he]; exact hg') hg'))
    have Vu : ∀ g', (Value.slice A4 (D.length + 1) c4).ownBlock = some g' → (Value.slice (some ⟨g, 0, none⟩) aK.length cI).ownBlock ≠ some g' := fun g' hg' he => by
     rcases gH.at_ with h1 | ⟨g2, h1, h2⟩
     ·exact LD.out g' (h1 ▸ hg') he
     ·have := Vr.out g' he
      rw [h1] at hg'
      injection hg' with hg'
      omega
    go_roundw
    case rel => exact ⟨i + 1, D ++ [id], by omega, qd (by rw [dV.out.2, if_pos Lv.out, HD.out, List.append_assoc]), by go_num, qd hs7, by simpa [bR] using dF, qd Vt, qd (by simpa using Vs), qd (by simpa using Vu), by simp; omega⟩
    case measure => simp [intOf]; omega
   ·have hl1 : ¬ (lf : Int) < 1 := by omega
    have hne : ¬ left a2 id = 0 := by rw [← iX.out]; omega
    have gN := qd hne
    have hs5 := HS.out
    rw [uj.out] at hs5
    have Ky := qd (show bB W0 E P At s w F0 w5 b2 (d9 left a2 (aK.take (i + 1)) ++ aK.drop (i + 1)) a2 F2 x2 from by rw [dV.out.1, if_neg hne, List.append_assoc]; exact hs5)
    clear hs5 hne HS
    go_wp2
    go_roundw
    case rel => exact ⟨i + 1, D, by omega, qd (by rw [dV.out.2, if_neg gN.out, List.append_nil]; exact HD.out), by go_num, Ky, HO.out, rH, BP, LD, by omega⟩
    case measure => simp [intOf]; omega
  ·obtain rfl : i = aK.length := by omega
   have hlt' : ¬ (aK.length : Int) < (aK.length : Int) := by omega
   have ht : aK.take aK.length = aK := List.take_length
   have hd : aK.drop aK.length = [] := List.drop_length
   rw [ht, hd, List.append_nil] at HS
   rw [ht] at HD
   clear ht hd
   rw [HD.out] at HO BP ⊢
   go_wp2
   go_ret
   have BN := HO.out
   have R9 := BP.out
   rw [List.length_append] at BN R9
   exact ⟨A, vc, e1, aK, a, a2, rfl, BN, Vo.out, Vp.out, F2, x2, ⟨b2, HS.out⟩, wH.out.mono (by omega) (by omega), R9⟩
theorem Gy {W0 : World} {E : Nat → Addr} {P : MP} {α : Type} {jt : Nat → TypeId} {ja : Nat → Addr} {At : World → List Nat → α → Prop} {can : α → Nat → Prop} {left : α → Nat → Nat} {Stp : α → Nat → α → Prop} (HP : iA W0 E P jt ja At can left Stp) (s : SP) (F : List Nat) (K : Nat) (hK : 1 ≤ K ∧ K ≤ 64) (hk : s.k = (K : Int)) (b : Int) (ids : List Nat) (a : α) (x : bI) (own : Nat) (jB : own ≤ 1000) (hin : own ∈ ids) (hval : ∀ id, s.val id = .iface (jt id) (.pointer (some (ja id)))) (hcan : ∀ id ∈ ids, can a id ∧ id ≤ 1000) (w : World) (h : bB W0 E P At s w F w b ids a F x) :
  Calls Tryz.prog 78 #[eu s.sb, lU P, .int .i64 (own : Int)] w fun e w' => ∃ A cc e1 bG a1 a2 F' x' b', e = .returned (.slice A (e1 ++ dZ left a2 bG).length cc) ∧ w'.ownsRow w.heap.size 3 1 (.slice A (e1 ++ dZ left a2 bG).length cc) (e1 ++ dZ left a2 bG).length (bR (e1 ++ dZ left a2 bG)) ∧ uh left Stp ids own (8 * K) a a1 ∧ qC left Stp K ids a1 e1 bG a2 ∧ bB W0 E P At s w F w' b' (d9 left a2 bG) a2 F' x' ∧ dJ x x' 0 (9 * K) ∧ mM P s F' (.slice A (e1 ++ dZ left a2 bG).length cc) := by
 have hval := qd hval
 have hlen := qd h.aB.many
 have H0 := qd h
 have Ed := qd hcan
 have jC := qd hin
 obtain ⟨F0, IV⟩ : ∃ F0, F0 = F := ⟨_, rfl⟩
 have hk' : 1 ≤ s.k ∧ s.k ≤ 64 := by omega
 have ZI : 0 ≤ 8 * s.k ∧ 8 * s.k ≤ 1000 := by omega
 have R4 : 8 * s.k = ((8 * K : Nat) : Int) := by rw [hk]; omega
 have ZJ := qd R4
 have FP := qd hk
 have Dy := qd (wF own jB)
 unfold eu lU
 clear h hcan hin R4 hk
 rw [← IV] at H0 ⊢
 clear IV
 go_in
 have HS := H0
 have iW := qd (Lf s.k 1 1 (by omega) w)
 unfold iC at iW
 obtain ⟨sp, hsb⟩ := HS.out.aB.blk
 have k0 := aj.cell hsb 0
 have k1 := aj.cell hsb 1
 have k2 := aj.cell hsb 2
 have k4 := aj.cell hsb 4
 simp only [gl] at k0 k1 k2 k4
 clear hsb
 go_wp2_with fail
 refine iW.out.mono ?_
 rintro x w1 ⟨rfl, hb⟩
 replace HS := qd (HS.out.below HP hb)
 clear k0 k1 k2 k4 hb iW
 have gB := qd (zS HP s F0 F0 b (8 * s.k) ZI ids a x w1 HS.out)
 unfold eu at gB
 go_wp2_with fail
 refine gB.out.mono ?_
 rintro z w2 ⟨rfl, hs⟩
 clear HS gB
 have HS := qd (show bB W0 E P At s w F0 w2 ((8 * K : Nat) : Int) ids a F0 x from by rw [← ZJ.out]; exact hs)
 clear hs H0
 obtain ⟨sp, hsb⟩ := HS.out.aB.blk
 have k0 := aj.cell hsb 0
 have k1 := aj.cell hsb 1
 have k2 := aj.cell hsb 2
 have k4 := aj.cell hsb 4
 simp only [gl] at k0 k1 k2 k4
 clear hsb
 have mE := qd HS.out.aB.map
 have HV := qd (show ji s.val ids (own : Int) = some (.iface (jt own) (.pointer (some (ja own)))) from by rw [wE jC.out, hval.out])
 go_wp2_with (at_lookup; refine Au rfl _ _ rfl rfl mE.out _ rfl Dy.out ?_; rw [HV.out])
 clear k0 k1 k2 k4 mE HV
 have h8K : 8 * K ≤ 512 := by omega
 go_loopw [] (fun wr => ∃ (n c : Nat) (a1 : α) (F1 : List Nat) (x1 : bI), Hid (n + c = 8 * K) ∧ Hid (bB W0 E P At s w F0 wr (c : Int) ids a1 F1 x1) ∧ Hid (Gw Stp own n a a1) ∧ Hid (dJ x x1 0 n)) (fun wr => CB s.sb s.qb wr)
 case atStart => exact ⟨0, 8 * K, a, F0, x, qd (by omega), HS, qd rfl, qd (dJ.refl x)⟩
 case round =>
  clear HS
  obtain ⟨n, c, a1, F1, x1, HN, HS, kN, oW⟩ := hrel
  have hc8 : c ≤ 512 := by have := HN.out; omega
  have hn8 : n ≤ 8 * K := by have := HN.out; omega
  have FM := qd (Ef HP kN.out (Ed.out own jC.out).1)
  have oO := qd HS.out.aB.meas
  have PU := qd (Vn HP s F0 F1 c (by omega) ids a1 x1 own FM.out wr HS.out)
  unfold eu lU at PU
  go_wp2_with fail
  refine PU.out.mono ?_
  rintro e V (⟨rfl, a3, F3, x3, hc1, hst, hco, hs⟩ | ⟨rfl, hor, hs⟩)
  ·have ku := qd hs
   have abn := qd (show Gw Stp own (n + 1) a a3 from ⟨a1, kN.out, hst⟩)
   have abo := qd (oW.out.trans hco)
   clear HS hs hst hco PU
   go_wp2
   go_roundw
   case rel => exact ⟨n + 1, c - 1, a3, F3, x3, qd (by have := HN.out; omega), ku, abn, qd (abo.out.mono (by omega) (by omega))⟩
   case measure => rw [oO.out, ku.out.aB.meas]; omega
  ·replace HS := qd hs
   have Vo := qd (show uh left Stp ids own (8 * K) a a1 from .inr ⟨jC.out, n, kN.out, hn8, by have := HN.out; rcases hor with h1 | h1; exact .inr h1; left; omega⟩)
   have FQ : ∀ id ∈ ids, can a1 id ∧ id ≤ 1000 := fun id hid => ⟨Ef HP kN.out (Ed.out id hid).1, (Ed.out id hid).2⟩
   clear hs hor PU kN oO HN FM
   have zT := qd FQ
   clear FQ
   have iW := qd (FD s.k 1 1 (by omega) V)
   unfold iC at iW
   obtain ⟨sp, hsb⟩ := HS.out.aB.blk
   have k0 := aj.cell hsb 0
   have k1 := aj.cell hsb 1
   have k2 := aj.cell hsb 2
   have k4 := aj.cell hsb 4
   simp only [gl] at k0 k1 k2 k4
   clear hsb
   go_wp2_with fail
   refine iW.out.mono ?_
   rintro x w1 ⟨rfl, hb⟩
   replace HS := qd (HS.out.below HP hb)
   clear k0 k1 k2 k4 hb iW
   have gB := qd (zS HP s F0 F1 (c : Int) s.k (by omega) ids a1 x1 w1 HS.out)
   unfold eu at gB
   go_wp2_with fail
   refine gB.out.mono ?_
   rintro x w2 ⟨rfl, hs⟩
   clear HS gB
   have HS := qd (show bB W0 E P At s w F0 w2 ((K : Nat) : Int) ids a1 F1 x1 from by rw [← FP.out]; exact hs)
   clear hs
   have rG := qd (BM HP s F1 K (by omega) ids a1 x1 hval.out zT.out w2 HS.out.again)
   unfold eu lU at rG
   go_wp2_with fail
   refine rG.out.mono ?_
   rintro x w3 ⟨A9, c9, e1, aK, a2, F2, x2, b2, rfl, BN, hoth, hs3, om, Lx⟩
   have ku := qd (HS.out.chain hs3)
   have Eh := qd ku.out.size
   have wH := qd (oW.out.trans om)
   have Vp := qd hoth
   have BO := qd (pU BN HS.out.size)
   have LA := qd Lx
   have PS := qd (fun i (hi : i ∈ aK) => And.intro (NZ HP hoth (zT.out i (by rw [lW hoth]; simp [hi])).1) (zT.out i (by rw [lW hoth]; simp [hi])).2)
   have hel : e1.length + aK.length = ids.length := by rw [lW hoth, List.length_append]
   clear HS BN hoth hs3 om Lx rG
   have lX := qd (IK s.sb s.qb s.rb s.jb s.k b2 s.val aK w3 ku.out.aB)
   unfold eu at lX
   go_wp2_with fail
   refine lX.out.mono ?_
   rintro x w4 ⟨AI, cI, rfl, LB, hb4⟩
   have FR : ∀ g, (Value.slice AI aK.length cI).ownBlock = some g → w3.heap.size ≤ g := fun g hg => (LB.lt g hg).1
   have R5 : ∀ g, (Value.slice A9 e1.length c9).ownBlock = some g → (Value.slice AI aK.length cI).ownBlock ≠ some g := fun g hg he => by
    have h1 := (BO.out.lt g hg).2
    have h2 := FR g he
    omega
   have LC : mM P s F2 (.slice AI aK.length cI) := fun g hg hq => by
    have h1 := ku.out.fQ HP g hq
    have h2 := FR g hg
    omega
   replace ku := qd (ku.out.below HP hb4)
   replace BO := qB hb4 BO
   have ZK := qd LC
   have rH := qd (pU LB (show w.heap.size ≤ w3.heap.size from Eh.out))
   have R6 := qd R5
   have HBI := qd FR
   have WX := hb4.size
   have abm := ku.out.size
   have hzb : w.heap.size ≤ w3.heap.size := Eh.out
   clear LB hb4 LC R5 FR lX
   go_wp2
   clear Eh
   go_loopw [9, 11, 46] (fun v9 _ v46 wr => ∃ (i : Nat) (D : List Nat), i ≤ aK.length ∧ Hid (D = e1 ++ dZ left a2 (aK.take i)) ∧ v46 = .int .i64 (i : Int) ∧ Hid (bB W0 E P At s w F0 wr b2 (d9 left a2 (aK.take i) ++ aK.drop i) a2 F2 x2) ∧ wr.ownsRow w.heap.size 3 1 v9 D.length (bR D) ∧ Hid (wr.ownsRow w.heap.size 3 1 (.slice AI aK.length cI) aK.length (bR aK)) ∧ Hid (mM P s F2 v9) ∧ Hid (∀ g, v9.ownBlock = some g → (Value.slice AI aK.length cI).ownBlock ≠ some g) ∧ D.length ≤ e1.length + i) (fun _ _ v46 _ => aK.length - (intOf v46).toNat)
   case atStart => exact ⟨0, e1, by omega, qd (by simp [dZ]), rfl, by simpa [d9] using ku, BO.out, rH, LA, R6, by omega⟩
   case round =>
    clear BO ku rH LA R6
    obtain ⟨i, D, hi, HD, rfl, HS, hO, rH, BP, LD, hdl⟩ := hrel
    obtain ⟨A, vc, rfl⟩ := dB hO
    have HO := qd hO
    clear hO
    by_cases hlt : i < aK.length
    ·have hlt' : (i : Int) < (aK.length : Int) := by omega
     have hi0 : (0 : Int) ≤ (i : Int) := by omega
     have LG : (i : Int) ≤ 41 := by have := hlen.out; omega
     obtain ⟨id, hid⟩ : ∃ id, aK[i]? = some id := ⟨_, List.getElem?_eq_getElem hlt⟩
     obtain ⟨g, R7, hge, hgl, hce, _⟩ := iJ rH.out hid
     have lV := PS.out id (List.mem_of_getElem? hid)
     have hl := HP.zQ HS.out.pool lV.1
     have HJ := qd (HP.Lp lV.1)
     obtain ⟨Fl, wG⟩ : ∃ Fl, Fl = jh (jt id) := ⟨_, rfl⟩
     rw [← wG] at hl
     have IW := qd wG.symm
     have HL := qd hl
     have Dy := qd (wF id lV.2)
     have mE := qd HS.out.aB.map
     have hmem : id ∈ d9 left a2 (aK.take i) ++ aK.drop i := by rw [drop_cons hid]; simp
     have HV := qd (show ji s.val (d9 left a2 (aK.take i) ++ aK.drop i) (id : Int) = some (.iface (jt id) (.pointer (some (ja id)))) from by rw [wE hmem, hval.out])
     have hle := HP.le HS.out.pool lV.1
     have dV := qd (IX (left := left) (a := a2) hid)
     have uj := qd (drop_cons hid)
     have KG := qd HS.out.aB.nd
     have FM := qd lV
     have Gx := qd hmem
     obtain ⟨lf, hlf⟩ : ∃ lf, lf = left a2 id := ⟨_, rfl⟩
     rw [← hlf] at HL hle
     have iX := qd hlf
     have HAI := qd R7
     obtain ⟨Dw, Dx⟩ := qD HS.out.aB
     clear hl wG lV hlf hid hmem
     subst R7
     go_wp2_with (at_lookup; refine uY rfl _ _ rfl rfl mE.out _ rfl Dy.out _ HV.out ?_)
     rw [qz HJ.out, Result.andThen_ok, qA HJ.out]
     rw [show jh (jt id) = Fl from IW.out]
     rw [Oper.upon_enter]
     refine HL.out.mono ?_
     rintro x w5 ⟨rfl, hb5⟩
     replace HS := qd (HS.out.below HP hb5)
     replace HO := qB hb5 HO
     replace rH := qB hb5 rH
     clear HL Dw Dx hb5 IW mE hce
     rcases Nat.eq_zero_or_pos lf with h0 | h1
     ·subst h0
      have Lv := qd (show left a2 id = 0 from iX.out.symm)
      have HR := qd (zR HP s F0 F2 b2 _ a2 x2 id Gx.out FM.out.2 w5 HS.out)
      unfold eu at HR
      simp only [Int.ofNat_zero] at *
      go_wp2_with fail
      refine HR.out.mono ?_
      rintro x w6 ⟨rfl, hs6, lF⟩
      have R8 := fH HO.out lF (fun g hg hq => BP.out g hg (by simp [hq]))
      have Ei := fH rH.out lF (fun g hg hq => ZK.out g hg (by simp [hq]))
      have LH : bB W0 E P At s w F0 w6 b2 (d9 left a2 (aK.take (i + 1)) ++ aK.drop (i + 1)) a2 F2 x2 := by
       have hnd := KG.out
       rw [uj.out] at hs6 hnd
       rw [IY (fun hh => (List.nodup_append.1 hnd).2.2 id hh id (by simp) rfl)] at hs6
       rw [dV.out.1, if_pos Lv.out, List.append_nil]
       exact hs6
      have ZL := qd LH
      have Vq := qd Ei
      have hz6 := hs6.size
      have LJ : ∀ g', (Value.slice (some ⟨g, 0, none⟩) aK.length cI).ownBlock = some g' → g' < w6.heap.size := fun g' hg' => (Ei.lt g' hg').2
      have Vr := qd LJ
      clear HS HO HR rH hs6 LH lF Ei LJ
      have ZG : D.length + 1 ≤ 100 := by have := hlen.out; omega
      go_wp2_with (at_builtin; refine iZ rfl rfl wD R8 rfl rfl rfl rfl rfl (by omega) (by omega) ?_; intro v4 w7 dF gH; obtain ⟨A4, c4, rfl⟩ := dB dF)
      obtain ⟨hs7, Vs⟩ := ZL.out.app HP R8 (Nat.le_refl _) BP.out gH
      have Vt := Vq.out.kept gH.je (.inr (by
       intro he
       have hee : ∃ g', (Value.slice (some ⟨g, 0, none⟩) aK.length cI).ownBlock = some g' := ⟨g, rfl⟩
       obtain ⟨g', hg'⟩ := hee
       exact LD.out g' (by rw [← he]; exact hg') hg'))
      have Vu : ∀ g', (Value.slice A4 (D.length + 1) c4).ownBlock = some g' → (Value.slice (some ⟨g, 0, none⟩) aK.length cI).ownBlock ≠ some g' := fun g' hg' he => by
       rcases gH.at_ with h1 | ⟨g2, h1, h2⟩
       ·exact LD.out g' (h1 ▸ hg') he
       ·have := Vr.out g' he
        rw [h1] at hg'
        injection hg' with hg'
        omega
      go_roundw
      case rel => exact ⟨i + 1, D ++ [id], by omega, qd (by rw [dV.out.2, if_pos Lv.out, HD.out, List.append_assoc]), by go_num, qd hs7, by simpa [bR] using dF, qd Vt, qd (by simpa using Vs), qd (by simpa using Vu), by simp; omega⟩
      case measure => simp [intOf]; omega
     ·have hl1 : ¬ (lf : Int) < 1 := by omega
      have hne : ¬ left a2 id = 0 := by rw [← iX.out]; omega
      have gN := qd hne
      have hs5 := HS.out
      rw [uj.out] at hs5
      have Ky := qd (show bB W0 E P At s w F0 w5 b2 (d9 left a2 (aK.take (i + 1)) ++ aK.drop (i + 1)) a2 F2 x2 from by rw [dV.out.1, if_neg hne, List.append_assoc]; exact hs5)
      clear hs5 hne HS
      go_wp2
      go_roundw
      case rel => exact ⟨i + 1, D, by omega, qd (by rw [dV.out.2, if_neg gN.out, List.append_nil]; exact HD.out), by go_num, Ky, HO.out, rH, BP, LD, by omega⟩
      case measure => simp [intOf]; omega
    ·obtain rfl : i = aK.length := by omega
     have hlt' : ¬ (aK.length : Int) < (aK.length : Int) := by omega
     have ht : aK.take aK.length = aK := List.take_length
     have hd : aK.drop aK.length = [] := List.drop_length
     rw [ht, hd, List.append_nil] at HS
     rw [ht] at HD
     clear ht hd
     rw [HD.out] at HO BP ⊢
     go_wp2
     go_ret
     have BN := HO.out
     have R9 := BP.out
     rw [List.length_append] at BN R9
     exact ⟨A, vc, e1, aK, a1, a2, rfl, BN, Vo.out, Vp.out, F2, x2, ⟨b2, HS.out⟩, wH.out.mono (by omega) (by omega), R9⟩
end Go.Proofs.YtfojgfddgplinabGreatDoor
