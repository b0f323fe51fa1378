/- RtmapOrder: iterators without writes yield the same, in the order of hash and key. -/
import Derived.Test.YtfojgfddgplinabGreatDoorLaw25a
import Derived.Test.YtfojgfddgplinabGreatDoorSqT
import Derived.Test.YtfojgfddgplinabGreatDoorLaneP
import Derived.Test.YtfojgfddgplinabGreatDoorLaw21a
namespace Go.Proofs.YtfojgfddgplinabGreatDoor
set_option maxRecDepth 100000
set_option maxHeartbeats 4000000
open Go.RowKit dG
theorem V4 {w w' : World} {base : Nat} {v v' : Value} (h : mG w base v w' v') : Mod v.ownBlock.toList w w' :=
 ⟨h.je.os, h.je.tape, h.je.output, h.je.size, fun k hk hn => h.je.block k hk (fun e => hn (by simp [e]))⟩
theorem V5 {M n : Nat} {es l : List av} {e : av} (h : ∀ x ∈ es, x.key < n) (he : e.key < n) (hp : l.Perm (GJ M es e)) : ∀ x ∈ l, x.key < n := fun x hx => by
 have h1 := hp.mem_iff.1 hx
 unfold GJ at h1
 split at h1
 ·exact h x h1
 ·rcases List.mem_append.1 h1 with h2 | h2
  ·exact h x (Mf.1 h2).1
  ·rw [List.mem_singleton.1 h2]; exact he
theorem Tk {E : Nat → Addr} (k m i : Int) (A : Option Addr) (n c : Nat) (l : List Nat) (B : Option Addr) (ma d : Nat) (acts : List eY) (w : World) (hE : Env w E w) (Cq : gT E w 6) (hl : l.length = n) (hll : ∀ x ∈ l, x < 18446744073709551616) (hR : Reads w w.heap.size 1 A n (sQ l)) (hla : acts.length = ma) (Xv : Reads w w.heap.size 3 B ma (acts.flatMap eY.cells)) : Calls Tryz.prog 3 #[iC k m i, .slice A n c, .slice B ma d] w fun e w' => e = .returned (.bool true) ∧ Below w.heap.size w w' := by
 have HE := qd hE
 have HE6 := qd Cq
 have HR := qd hR
 have kS := qd Xv
 have HL := qd hl
 have HLl := qd hll
 have HLa := qd hla
 have hB0 := aj.new w 23 #[.int .i64 k, .int .i64 m, .int .i64 i]
 have hb0 := (Below.refl w.heap.size w).alloc (Nat.le_refl _) (.cells #[.int .i64 k, .int .i64 m, .int .i64 i] 23)
 unfold iC
 clear hE Cq hR Xv hl hll hla
 go_in
 go_upto_region 1 with fail
 refine cZ (F := fun v => aj v w.heap.size 23 #[.int .i64 k, .int .i64 m, .int .i64 i] ∧ Below w.heap.size w v) ⟨hB0, hb0⟩ ?_
 clear hB0 hb0
 rintro w1 ⟨hB1, hb1⟩
 obtain ⟨xb, hxb⟩ : ∃ xb, xb = w.heap.size := ⟨_, rfl⟩
 rw [← hxb] at hB1 ⊢
 have HX := qd hB1
 have Ow := qd (show w.heap.size ≤ xb from by omega)
 have HB := qd hb1
 have qH := qd (HE.out.next hb1)
 have HAl := qd (Nn qH.out HE6.out)
 clear hB1 hb1 hxb
 go_wp2_with fail
 refine HAl.out.mono ?_
 rintro y w2 ⟨rfl, hb2⟩
 replace HX := qB hb2 HX
 replace HB := qd (fV HB.out hb2)
 replace qH := qd (qH.out.next hb2)
 clear hb2 HAl
 have HLg := qd (O5 A B n c ma d w2)
 go_wp2_with fail
 refine HLg.out.mono ?_
 rintro y w3 ⟨rfl, rfl⟩
 clear HLg
 by_cases hlong : n < 1 ∨ 220 < n ∨ 700 < ma
 ·have Tm : (decide (n < 1) || (decide (220 < n) || decide (700 < ma))) = true := by simp; omega
  rw [Tm]
  clear Tm
  go_wp2
  go_ret
  exact ⟨rfl, HB.out⟩
 ·have Tm : (decide (n < 1) || (decide (220 < n) || decide (700 < ma))) = false := by simp; omega
  rw [Tm]
  clear Tm
  obtain ⟨c0, c1, c2⟩ := HX.out.c3
  cases hcf : pK k m i with
  | false =>
   have hnb := Qm qH.out k m i hcf
   rw [jc E (by omega : 1 ≤ 1)] at hnb
   unfold iC at hnb
   have iE := qd hnb
   clear hnb hcf
   go_wp2_with fail
   refine iE.out.mono ?_
   rintro y w4 ⟨rfl, hb4⟩
   replace HB := qd (fV HB.out hb4)
   clear hb4 iE
   go_wp2
   go_ret
   exact ⟨rfl, HB.out⟩
  | true =>
   obtain ⟨K, M, I, hK, hM, hk1, hm1, hi1⟩ := Yq hcf
   have Xw : 1 ≤ I ∧ I ≤ 8 := by
    unfold pK y7 at hcf
    simp at hcf
    omega
   have hnb := S9 (gu l) qH.out k m i hcf K M I ⟨hK, hM, hk1, hm1, hi1⟩ Xw
   unfold iC at hnb
   have iE := qd hnb
   have HKm := qd (And.intro hK (And.intro hM (And.intro Xw hi1)))
   clear hnb hcf hK hM hk1 hm1 hi1 Xw
   go_wp2_with fail
   refine iE.out.mono ?_
   have HX0 := qd HX.out.lt
   rintro y w4 ⟨b, G, rfl, Ox, hG4, hb4⟩
   replace HX := qB hb4 HX
   have wS := qd (show xb ∉ G ∧ ∀ q ∈ G, w.heap.size ≤ q from ⟨fun hg => by have := hG4 _ hg; have := HX0.out; omega, fun q hq => Nat.le_trans HB.out.size (hG4 q hq)⟩)
   have HA := qd Ox
   have Te := qd (fV HB.out hb4)
   have Bv := qd (show ∀ e ∈ kg.ents, e.key < n from fun e he => by rw [CJ] at he; cases he)
   clear Ox hG4 hb4 iE c0 c1 c2 HB qH
   go_wp2
   go_loopw [10, 11, 46] (fun _ _ v46 wr => ∃ (j : Nat) (G : List Nat) (a : Pool) (ids : List Nat) (jw : bF), j ≤ ma ∧ v46 = .int .i64 (j : Int) ∧ Hid (jI w E (gu l) K M I b G wr a ids [] 0 jw) ∧ Hid (xb ∉ G ∧ ∀ q ∈ G, w.heap.size ≤ q) ∧ Hid (∀ e ∈ a.ents, e.key < n) ∧ Hid (aj wr xb 23 #[.int .i64 k, .int .i64 m, .int .i64 i]) ∧ Hid (Below w.heap.size w wr)) (fun _ _ v46 _ => ma - (intOf v46).toNat)
   case atStart => exact ⟨0, _, _, _, _, by omega, rfl, HA, wS, Bv, HX, Te⟩
   case round =>
    clear HA wS Bv HX Te
    obtain ⟨j, G, a, ids, jw, hj, rfl, HA, wS, Bv, HX, HB⟩ := hrel
    have hma : ma ≤ 700 := by omega
    by_cases hlt : j < ma
    ·have hlt' : (j : Int) < (ma : Int) := by omega
     have hj0 : (0 : Int) ≤ (j : Int) := by omega
     obtain ⟨act, hact⟩ : ∃ act, acts[j]? = some act := ⟨_, List.getElem?_eq_getElem (by have := HLa.out; omega)⟩
     obtain ⟨g, off, Xo, hgl, m0, mm1, mm2⟩ := Tj kS.out HLa.out hact
     have hkp := fun (p : Addr) (v : Value) (hp : p.block < w.heap.size) (hh : w.cell? p = some v) => (World.cell?_of_block (HB.out.block p.block hp)).trans hh
     have r0 := hkp _ _ hgl m0
     have r1 := hkp _ _ hgl mm1
     have r2 := hkp _ _ hgl mm2
     have HJ := qd (Nat.succ_le_of_lt hlt)
     have oO := qd (oz hlt)
     subst Xo
     clear m0 mm1 mm2 hkp hact
     go_upto_region 11 with fail
     refine bY 34 #[.int .i64 act.kind, .int .i64 act.key, .int .i64 act.n] ?_
     rintro w5 ⟨Ay, hb5⟩
     obtain ⟨bx, hbx⟩ : ∃ bx, bx = wr.heap.size := ⟨_, rfl⟩
     rw [← hbx] at Ay ⊢
     have nk := qd Ay
     obtain ⟨a0, a1, a2⟩ := Ay.c3
     replace HA := qd (HA.out.below hb5)
     replace HB := qd (fV HB.out hb5)
     replace HX := qB hb5 HX
     have bC := qd (MU A n c l act (by omega) HL.out w5 (by
      obtain ⟨q1, q2⟩ := HR.out
      refine ⟨q1, fun hp => ?_⟩
      obtain ⟨g', off', z1, z2, z3⟩ := q2 hp
      have hzz := HB.out.size
      exact ⟨g', off', z1, by omega, fun jj u hu => (World.cell?_of_block (HB.out.block _ z2)).trans (z3 jj u hu)⟩))
     have HE5 := qd (VZ HLl.out (by have := HL.out; omega) act)
     have HKs := qd (show (uV l act).key < n from by
      have : Ht act.key l.length < l.length := Nat.mod_lt _ (by have := HL.out; omega)
      have := HL.out
      show Ht act.key l.length < n
      omega)
     obtain ⟨e, he⟩ : ∃ e, e = uV l act := ⟨_, rfl⟩
     rw [← he] at bC HE5 HKs
     unfold Gh aM at bC
     clear Ay hb5 r0 r1 r2 hbx he
     go_wp2_with fail
     refine bC.out.mono ?_
     rintro y w6 ⟨rfl, hb6⟩
     replace HA := qd (HA.out.below hb6)
     replace HB := qd (fV HB.out hb6)
     replace HX := qB hb6 HX
     replace nk := qB hb6 nk
     clear hb6 bC a0 a1 a2
     go_upto_region 12 with fail
     refine bY 37 #[.int .u64 (e.key : Int), .int .u64 (e.val : Int), .int .u64 (e.hash : Int)] ?_
     rintro w7 ⟨r9, jJ⟩
     obtain ⟨ex, hex⟩ : ∃ ex, ex = w6.heap.size := ⟨_, rfl⟩
     rw [← hex] at r9 ⊢
     replace HA := qd (HA.out.below jJ)
     replace HB := qd (fV HB.out jJ)
     replace HX := qB jJ HX
     replace nk := qB jJ nk
     have a0 := nk.out.cell 0
     simp only [List.getElem?_toArray, List.getElem?_cons_zero] at a0
     obtain ⟨e0, e1, e2⟩ := r9.c3
     clear r9 jJ hex nk
     by_cases hk0 : act.kind = 0
     ·have Mt := SI HA.out e HE5.out
      rcases I7 E (rM M a.ents e.key) with hv | ⟨AE, hv⟩
      all_goals
       rw [hv] at Mt
       have BF := qd Mt
       clear Mt hv
       go_wp2_with fail
       refine BF.out.mono ?_
       rintro y w8 ⟨rfl, a', aI, jO, ⟨G', Tn, oZ, Mv⟩, hpr⟩
       have Tp := qd Tn
       have Tq := qd (HB.out.trans (Mv.below wS.out.2 HB.out.size))
       have Tt := qd (HX.out.mod Mv wS.out.1)
       have Mw := qd (show xb ∉ G' ∧ ∀ q ∈ G', w.heap.size ≤ q from ⟨fun hg => (oZ _ hg).elim wS.out.1 (fun k => by have := HX.out.lt; omega), fun q hq => (oZ q hq).elim (wS.out.2 q) (fun k => by have := HB.out.size; omega)⟩)
       have Mx := qd (V5 (n := n) Bv.out HKs.out hpr.1)
       clear Tn oZ Mv hpr BF
       go_wp2
       go_roundw
       all_goals first | exact ⟨⟨j + 1, G', a', aI, jO, HJ.out, rfl, Tp, Mw, Mx, Tt, Tq⟩, oO.out⟩ | exact ⟨j + 1, G', a', aI, jO, HJ.out, rfl, Tp, Mw, Mx, Tt, Tq⟩ | exact oO.out
     ·by_cases hk1 : act.kind = 1
      ·have BF := qd (SS HA.out e HE5.out)
       go_wp2_with fail
       refine BF.out.mono ?_
       rintro y w8 ⟨rfl, a', aI, jO, ⟨G', Tn, oZ, Mv⟩, hpr⟩
       have Tp := qd Tn
       have Tq := qd (HB.out.trans (Mv.below wS.out.2 HB.out.size))
       have Tt := qd (HX.out.mod Mv wS.out.1)
       have Mw := qd (show xb ∉ G' ∧ ∀ q ∈ G', w.heap.size ≤ q from ⟨fun hg => (oZ _ hg).elim wS.out.1 (fun k => by have := HX.out.lt; omega), fun q hq => (oZ q hq).elim (wS.out.2 q) (fun k => by have := HB.out.size; omega)⟩)
       have Mx := qd (show ∀ x ∈ a'.ents, x.key < n from fun x hx => Bv.out x (Mf.1 (hpr.mem_iff.1 hx)).1)
       clear Tn oZ Mv hpr BF
       go_wp2
       go_roundw
       all_goals first | exact ⟨⟨j + 1, G', a', aI, jO, HJ.out, rfl, Tp, Mw, Mx, Tt, Tq⟩, oO.out⟩ | exact ⟨j + 1, G', a', aI, jO, HJ.out, rfl, Tp, Mw, Mx, Tt, Tq⟩ | exact oO.out
      ·go_wp2
       go_roundw
       all_goals first | exact ⟨⟨j + 1, G, a, ids, jw, HJ.out, rfl, HA, wS, Bv, HX, HB⟩, oO.out⟩ | exact ⟨j + 1, G, a, ids, jw, HJ.out, rfl, HA, wS, Bv, HX, HB⟩ | exact oO.out
    ·obtain rfl : j = ma := by omega
     have hlt' : ¬ (j : Int) < (j : Int) := by omega
     go_upto_region 19 with fail
     refine cZ (F := fun v => gU w.heap.size v (.slice (some ⟨wr.heap.size, 0, none⟩) 0 0) [] [] G ∧ Below wr.heap.size wr v) ⟨gU.new HB.out.size (fun q hq => (HA.out.facts.1 q hq).1), (Below.refl wr.heap.size wr).alloc (Nat.le_refl _) (.cells #[] 50)⟩ ?_
     rintro w5 ⟨hal, hb5⟩
     obtain ⟨v0, hv0⟩ : ∃ v0 : Value, v0 = .slice (some ⟨wr.heap.size, 0, none⟩) 0 0 := ⟨_, rfl⟩
     rw [← hv0] at hal
     rw [show (Value.slice (some ⟨wr.heap.size, 0, none⟩) 0 0) = v0 from hv0.symm]
     have dL := qd hal
     replace HA := qd (HA.out.below hb5)
     replace HB := qd (fV HB.out hb5)
     replace HX := qB hb5 HX
     have uy := qd wS.out.2
     have aav := qd (show ([] : List It).length = 0 ∧ ∀ id, 1 ≤ id → id ≤ 0 → ∃ cb, (⟨id, cb, ⟨0, 0, false⟩⟩ : It) ∈ ([] : List It) from ⟨rfl, fun id h1 h2 => by omega⟩)
     obtain rfl : i = (I : Int) := HKm.out.2.2.2
     have hI1 := HKm.out.2.2.1.1
     have Xw := HKm.out.2.2.1.2
     have c2 := HX.out.cell 2
     simp only [gl] at c2
     clear hal hb5 hv0 wS
     go_wp2
     go_loopw [12, 13, 14, 77] (fun v12 _ _ v77 wr => ∃ (j : Nat) (G : List Nat) (its : List It), j ≤ I ∧ v77 = .int .i64 (j : Int) ∧ Hid (jI w E (gu l) K M I b G wr a ids its j jw) ∧ Hid (∀ q ∈ G, w.heap.size ≤ q) ∧ Hid (Below w.heap.size w wr) ∧ Hid (gU w.heap.size wr v12 (List.replicate j (.slice none 0 0)) (List.replicate j []) G) ∧ Hid (its.length = j ∧ ∀ id, 1 ≤ id → id ≤ j → ∃ cb, (⟨id, cb, ⟨0, 0, false⟩⟩ : It) ∈ its)) (fun _ _ _ v77 _ => I - (intOf v77).toNat)
     case atStart => exact ⟨0, _, _, by omega, rfl, HA, uy, HB, dL, aav⟩
     case round =>
      clear HA uy HB dL aav HX c2
      rename_i v12 _ _ _ _
      obtain ⟨t, G, its, ht, rfl, HA, uy, HB, dL, F5⟩ := hrel
      by_cases hlt : t < I
      ·have hlt' : (t : Int) < (I : Int) := by omega
       have hw1 : IntKind.i64.wrap ((t : Int) + 1) = ((t + 1 : Nat) : Int) := by rw [IntKind.wrap_i64]; omega
       have HJ := qd (Nat.succ_le_of_lt hlt)
       have oO := qd (oz hlt)
       have hfo := dL.out.out
       rw [List.length_replicate] at hfo
       obtain ⟨A12, c12, V6⟩ := dB hfo
       subst V6
       have Al := qd (Om HA.out (by have := F5.out.1; omega) (by omega))
       clear hfo
       go_wp2_with fail
       refine Al.out.mono ?_
       rintro y w5 ⟨cb, rfl, G', BQ, hs5, gJ⟩
       replace dL := qd (dL.out.to hs5 gJ)
       have Oy := qd BQ
       have nk := qd (HB.out.trans (gJ.below uy.out HB.out.size))
       have Tv := qd (show ∀ q ∈ G', w.heap.size ≤ q from fun q hq => (hs5 q hq).elim (uy.out q) (fun k => by have := HB.out.size; omega))
       have aaw := qd (show (its ++ [(⟨t + 1, cb, ⟨0, 0, false⟩⟩ : It)]).length = t + 1 ∧ ∀ id, 1 ≤ id → id ≤ t + 1 → ∃ cb', (⟨id, cb', ⟨0, 0, false⟩⟩ : It) ∈ its ++ [(⟨t + 1, cb, ⟨0, 0, false⟩⟩ : It)] from ⟨by rw [List.length_append, F5.out.1]; rfl, fun id h1 h2 => by
        by_cases hid : id ≤ t
        ·obtain ⟨cb', hc⟩ := F5.out.2 id h1 hid
         exact ⟨cb', List.mem_append_left _ hc⟩
        ·obtain rfl : id = t + 1 := by omega
         exact ⟨cb, by simp⟩⟩)
       clear BQ hs5 gJ Al HA HB uy F5
       have hO5 := dL.out.out
       rw [List.length_replicate] at hO5
       have hbs := nk.out.size
       go_wp2_with (at_builtin; refine iZ rfl rfl Qr hO5 rfl rfl rfl rfl rfl (by omega) (by omega) ?_; intro v7 w7 Rv Xx)
       have Mt := dL.out.push Xx (by simpa using Rv) (fun q hq => (Oy.out.facts.1 q hq).1)
       rw [show List.replicate t (Value.slice none 0 0) ++ [Value.slice none 0 0] = List.replicate (t + 1) (Value.slice none 0 0) from (List.replicate_succ' ..).symm, show List.replicate t ([] : List gQ) ++ [[]] = List.replicate (t + 1) [] from (List.replicate_succ' ..).symm] at Mt
       have Xy := qd Mt
       have HA7 := qd (Oy.out.mod (V4 Xx) (fun q hq => ⟨dL.out.gs.1 q (by simpa using hq), by have := (dL.out.out.lt q (by simpa using hq)).1; exact this⟩))
       have HB7 := qd (nk.out.trans Xx.below)
       clear Mt Rv Xx hO5
       go_wp2
       go_roundw
       all_goals first | exact ⟨⟨t + 1, G', _, HJ.out, rfl, HA7, Tv, HB7, Xy, aaw⟩, oO.out⟩ | exact ⟨t + 1, G', _, HJ.out, rfl, HA7, Tv, HB7, Xy, aaw⟩ | exact oO.out
      ·obtain rfl : I = t := by omega
       have hlt' : ¬ (I : Int) < (I : Int) := by omega
       have hfo := dL.out.out
       rw [List.length_replicate] at hfo
       obtain ⟨vb, cap, V6⟩ := Ms hfo (by omega)
       clear hfo
       subst V6
       have uR := qd (show pz a.ents (kU a) its (List.replicate I []) I (fun _ => 0) from fun k hk => by
        obtain ⟨cb, hc⟩ := F5.out.2 (k + 1) (by omega) (by omega)
        exact ⟨cb, _, [], hc, by rw [List.getElem?_replicate, if_pos hk], Run.nil, by simp [gq.ok]⟩)
       have uz := qd (show (List.replicate I (Value.slice none 0 0)).length = I from List.length_replicate)
       obtain ⟨N, hN⟩ : ∃ N, N = a.ents.length + a.Ns.length + 1 := ⟨_, rfl⟩
       have Ie := qd hN
       have aaR : N ≤ 225 := by
        obtain ⟨_, _, h3, h4, h5, _⟩ := HA.out.facts
        omega
       have aaS := qd aaR
       clear F5 hN
       go_wp2
       go_loopw [15, 16, 17, 18] (fun v15 _ _ _ wr => ∃ (t : Nat) (G : List Nat) (its : List It) (jw : bF) (vs : List Value) (L : List (List gQ)), t ≤ N ∧ v15 = .int .i64 (t : Int) ∧ Hid (jI w E (gu l) K M I b G wr a ids its I jw) ∧ Hid (∀ q ∈ G, w.heap.size ≤ q) ∧ Hid (Below w.heap.size w wr) ∧ Hid (gU w.heap.size wr (.slice (some ⟨vb, 0, none⟩) I cap) vs L G) ∧ Hid (vs.length = I) ∧ Hid (pz a.ents (kU a) its L I (fun _ => t))) (fun v15 _ _ _ _ => N - (intOf v15).toNat)
       case atStart => exact ⟨0, _, _, _, _, _, by omega, rfl, HA, uy, HB, dL, uz, uR⟩
       case round =>
        clear HA uy HB dL uz uR
        obtain ⟨t, G, its, jw, vs, L, ht, rfl, HA, uy, HB, dL, uz, uR⟩ := hrel
        have rC := qd (SH HA.out)
        have Lm := qd (VI HA.out)
        have HPn := qd (fun wz => (by rw [Ie.out]; exact O7 a.ents.length a.Ns.length (by obtain ⟨_, _, h3, h4, h5, _⟩ := HA.out.facts; omega) wz : Calls Tryz.prog 11 #[.int .i64 (a.ents.length : Int), .int .i64 (a.Ns.length : Int)] wz fun e w' => e = .returned (.int .i64 (N : Int)) ∧ wz = w'))
        go_wp2_with fail
        refine rC.out.mono ?_
        rintro y w5 ⟨rfl, rfl⟩
        go_wp2_with fail
        refine Lm.out.mono ?_
        rintro y w5 ⟨rfl, rfl⟩
        go_wp2_with fail
        refine (HPn.out _).mono ?_
        rintro y w5 ⟨rfl, rfl⟩
        clear rC Lm HPn
        by_cases hlt : t < N
        ·have hlt' : (t : Int) < (N : Int) := by omega
         have hw1 : IntKind.i64.wrap ((t : Int) + 1) = ((t + 1 : Nat) : Int) := by rw [IntKind.wrap_i64]; omega
         have hwI : IntKind.i64.wrap ((I : Int) - 1) = (I : Int) - 1 := by rw [IntKind.wrap_i64]; omega
         have HJ := qd (Nat.succ_le_of_lt hlt)
         have oO := qd (oz hlt)
         have SG := qd hlt
         replace uR := qd (uR.out.congr (n' := fun k => if I ≤ k then t + 1 else t) (fun k hk => by rw [if_neg (by omega)]))
         go_wp2
         go_loopw [16, 17, 18] (fun v16 _ _ wr => ∃ (p : Nat) (z : Int) (G : List Nat) (its : List It) (jw : bF) (vs : List Value) (L : List (List gQ)), p ≤ I ∧ z = (p : Int) - 1 ∧ v16 = .int .i64 z ∧ Hid (jI w E (gu l) K M I b G wr a ids its I jw) ∧ Hid (∀ q ∈ G, w.heap.size ≤ q) ∧ Hid (Below w.heap.size w wr) ∧ Hid (gU w.heap.size wr (.slice (some ⟨vb, 0, none⟩) I cap) vs L G) ∧ Hid (vs.length = I) ∧ Hid (pz a.ents (kU a) its L I (fun k => if p ≤ k then t + 1 else t))) (fun v16 _ _ _ => (intOf v16 + 1).toNat)
         case atStart => exact ⟨I, _, _, _, _, _, _, Nat.le_refl _, rfl, rfl, HA, uy, HB, dL, uz, uR⟩
         case round =>
          clear HA uy HB dL uz uR
          obtain ⟨p, z, G, its, jw, vs, L, hp, hz, rfl, HA, uy, HB, dL, uz, uR⟩ := hrel
          by_cases hp0 : p = 0
          ·subst hp0
           obtain rfl : z = -1 := by omega
           clear hz hp
           replace uR := qd (uR.out.congr (n' := fun _ => t + 1) (fun k hk => by rw [if_pos (by omega)]))
           go_wp2
           go_roundw
           all_goals first | exact ⟨⟨t + 1, _, _, _, _, _, HJ.out, rfl, HA, uy, HB, dL, uz, uR⟩, oO.out⟩ | exact ⟨t + 1, _, _, _, _, _, HJ.out, rfl, HA, uy, HB, dL, uz, uR⟩ | exact oO.out
          ·obtain ⟨q, rfl⟩ : ∃ q, p = q + 1 := ⟨p - 1, by omega⟩
           obtain rfl : z = (q : Int) := by omega
           have hq0 : (0 : Int) ≤ (q : Int) := by omega
           have hqn : q < I := by omega
           have hqI : (q : Int) < (I : Int) := by omega
           have hw2 : IntKind.i64.wrap ((q : Int) + 1) = ((q + 1 : Nat) : Int) := by rw [IntKind.wrap_i64]; omega
           have hw3 : IntKind.i64.wrap ((q : Int) - 1) = (q : Int) - 1 := by rw [IntKind.wrap_i64]; omega
           obtain ⟨cb, c, l0, hi0, hL0, hR0, hk0⟩ := uR.out q (by omega)
           have hnx := GN HA.out HE6.out hi0 hk0
           unfold uQ at hnx
           have jl := qd hnx
           have HI0 := qd (And.intro hi0 hk0)
           have HQn := qd (Nat.le_of_lt hqn)
           have HNt := qd (show (if q + 1 ≤ q then t + 1 else t) ≤ 226 by split <;> omega)
           have MB := qd (show (intOf (.int .i64 ((q : Int) - 1)) + 1).toNat < (intOf (.int .i64 (q : Int)) + 1).toNat by show ((q : Int) - 1 + 1).toNat < ((q : Int) + 1).toNat; omega)
           have HRz := qd hR0
           clear hnx hi0 hk0 hp hz hp0
           go_wp2_with fail
           refine jl.out.mono ?_
           rintro y w5 ⟨it, c', jO, rfl, hns, -, G', BQ, hs5, gJ⟩
           replace dL := qd (dL.out.to hs5 gJ)
           have nk := qd (HB.out.trans (gJ.below uy.out HB.out.size))
           have Tv := qd (show ∀ q ∈ G', w.heap.size ≤ q from fun q hq => (hs5 q hq).elim (uy.out q) (fun k => by have := HB.out.size; omega))
           have aax := qd ((uR.out.step HI0.out.1 hL0 hR0 hns (hns.ok HI0.out.2 HA.out.Co)).congr (n' := fun k => if q ≤ k then t + 1 else t) (fun k hk => by
            show (if k = q then (if q + 1 ≤ q then t + 1 else t) + 1 else if q + 1 ≤ k then t + 1 else t) = if q ≤ k then t + 1 else t
            by_cases hkq : k = q
            ·rw [if_pos hkq, if_neg (by omega), if_pos (by omega)]
            ·rw [if_neg hkq]
             by_cases hk2 : q + 1 ≤ k
             ·rw [if_pos hk2, if_pos (by omega)]
             ·rw [if_neg hk2, if_neg (by omega)]))
           have Oy := qd BQ
           clear BQ hs5 gJ jl HA HB uy uR hns
           go_upto_region 33 with fail
           refine bY 47 #[.int .i64 (it.st : Int), .int .u64 (it.key : Int), .int .u64 (it.val : Int)] ?_
           rintro w6 ⟨qG, hb6⟩
           obtain ⟨bx, hbx⟩ : ∃ bx, bx = w5.heap.size := ⟨_, rfl⟩
           rw [← hbx] at qG ⊢
           obtain ⟨x0, x1, x2⟩ := qG.c3
           replace Oy := qd (Oy.out.below hb6)
           replace nk := qd (fV nk.out hb6)
           replace dL := qd (dL.out.below hb6)
           obtain ⟨u, hu⟩ : ∃ u, vs[q]? = some u := ⟨_, List.getElem?_eq_getElem (by have := uz.out; omega)⟩
           obtain ⟨A6, c6, hu6⟩ := dB (dL.out.inn q u l0 hu hL0)
           subst hu6
           have hou := dL.out.out
           rw [uz.out] at hou
           have c9 : w6.cell? ⟨vb, q, none⟩ = some (.slice A6 l0.length c6) := (hou.cellAt q (by omega)).trans hu
           clear hou qG hb6 hbx
           go_upto_region 35 with fail
           refine rT (fun (w' : World) => w'.cell? ⟨vb, q, none⟩ = some (.slice A6 l0.length c6) ∧ w'.cell? ⟨bx, 0, none⟩ = some (.int .i64 (it.st : Int)) ∧ w'.cell? ⟨bx, 1, none⟩ = some (.int .u64 (it.key : Int)) ∧ w'.cell? ⟨bx, 2, none⟩ = some (.int .u64 (it.val : Int))) [8, 10] ?_
           have hHeld := (⟨c9, x0, x1, x2⟩ : _ ∧ _ ∧ _ ∧ _)
           refine vW 0 rfl ?_
           refine vW 1 rfl ?_
           refine vW 2 rfl ?_
           refine vW 3 rfl ?_
           refine vW 4 rfl ?_
           refine vT 5 rfl ?_
           refine vT 6 rfl ?_
           refine nT 7 rfl fun K hK => ?_
           go_simp
           have jJ : Below w6.heap.size w6 (w6.alloc (.cells #[.int .i64 (it.st : Int), .int .u64 (it.key : Int), .int .u64 (it.val : Int)] 47)).drew := ((Below.refl w6.heap.size w6).alloc (Nat.le_refl _) _).drew
           obtain ⟨w7, hw7⟩ : ∃ w7, w7 = (w6.alloc (.cells #[.int .i64 (it.st : Int), .int .u64 (it.key : Int), .int .u64 (it.val : Int)] 47)).drew := ⟨_, rfl⟩
           have hN7 : aj w7 w6.heap.size 47 #[.int .i64 (it.st : Int), .int .u64 (it.key : Int), .int .u64 (it.val : Int)] := hw7 ▸ (aj.new w6 _ _).drew
           rw [← hw7] at jJ ⊢
           have Ey := dL.out.below jJ
           have MC := Ey.inn q _ l0 hu hL0
           have GQ := Ey.out
           rw [uz.out] at GQ
           have hA7 := Oy.out.below jJ
           have r9 := fV nk.out jJ
           clear hw7
           have hHeld := (⟨aF jJ c9, aF jJ x0, aF jJ x1, aF jJ x2⟩ : _ ∧ _ ∧ _ ∧ _)
           refine kO hK ?_
           clear hK K
           refine nT 8 rfl fun K hK => ?_
           refine kX (by rfl) (by rfl) Ti MC (by rfl) (by rfl) (nN (size := 3) (m := 1) hN7 (by rfl)) (by rfl) (by have adt : l0.length ≤ 226 := (by rw [hR0.len]; exact HNt.out); omega) r9.size ?_
           intro v8 w8 ho8 hg8
           obtain ⟨A8, c8, rfl⟩ := dB ho8
           have hadd := Ey.add (by rw [uz.out]) hu hL0 hg8 (x := it) (by simpa [Ja] using ho8) (fun p hp => (hA7.facts.1 p hp).1)
           have V7 := hg8.keep GQ (wU GQ MC (by decide))
           have o8 := (V7.cellAt q (by omega)).trans hu
           have f8 := V7.frozenAt q
           have hl7 := Ey.fQ
           have Xz := qd hadd.1
           have Oh := qd (hA7.mod hadd.2 (fun p hp => by
            rcases List.mem_cons.1 hp with k | k
            ·rw [k]; exact ⟨Ey.gs.1 vb rfl, (GQ.lt vb rfl).1⟩
            ·have k' : (Value.slice A6 l0.length c6).ownBlock = some p := by simpa using k
             exact ⟨Ey.gs.2 q _ hu p k', (MC.lt p k').1⟩))
           have HB9 := qd (r9.trans (hadd.2.below (fun p hp => by
            rcases List.mem_cons.1 hp with k | k
            ·rw [k]; exact (GQ.lt vb rfl).1
            ·have k' : (Value.slice A6 l0.length c6).ownBlock = some p := by simpa using k
             exact (MC.lt p k').1) r9.size))
           have aay := qd (show (vs.set q (Value.slice A8 (l0.length + 1) c8)).length = I by rw [List.length_set]; exact uz.out)
           clear ho8 hg8 hadd V7 hl7 Ey MC GQ hA7 r9 hN7 jJ
           refine kO hK ?_
           clear hK K
           refine vL 9 rfl ?_
           refine nT 10 rfl fun K hK => ?_
           go_simp
           refine kO hK ?_
           clear hK K
           refine aS (by kernel_rfl) ?_ _
           go_wp2
           go_roundw
           all_goals first | exact ⟨⟨q, _, _, _, _, _, _, HQn.out, rfl, rfl, Oh, Tv, HB9, Xz, aay, aax⟩, MB.out⟩ | exact ⟨q, _, _, _, _, _, _, HQn.out, rfl, rfl, Oh, Tv, HB9, Xz, aay, aax⟩ | exact MB.out
        ·obtain rfl : N = t := by omega
         have hlt' : ¬ (N : Int) < (N : Int) := by omega
         obtain ⟨l0, lh, out, hL, hl0, hend, hasc, hperm, hyk⟩ := Qs (es := a.ents) (hs := kU a) (by omega) (uR.out.congr (n' := fun _ => a.ents.length + (kU a).length + 1) (fun k hk => by rw [Ie.out]; simp [kU])) HA.out.facts.2.1 HA.out.Co
         have hlen : l0.length = N := by rw [hl0, Ie.out]; simp [kU]
         have hrow : ∀ k, k < I → ∃ g cap, vs[k]? = some (.slice (some ⟨g, 0, none⟩) N cap) := fun k hk => by
          obtain ⟨u, hu⟩ : ∃ u, vs[k]? = some u := ⟨_, List.getElem?_eq_getElem (by have := uz.out; omega)⟩
          have h1 := dL.out.inn k u l0 hu (hL k hk)
          rw [hlen] at h1
          obtain ⟨g, cap, rfl⟩ := Ms h1 (by have := Ie.out; omega)
          exact ⟨g, cap, hu⟩
         obtain ⟨g0, cap0, hv0⟩ := hrow 0 (by omega)
         obtain ⟨N1, hN1⟩ : ∃ N1, N = N1 + 1 := ⟨N - 1, by have := Ie.out; omega⟩
         have HN1 := qd hN1
         have UK := qd hrow
         have Ta := qd hL
         have lS := qd hlen
         have bC := qd hend
         have HAs := qd hasc
         have nD := qd hperm
         have HYk := qd hyk
         have ay := qd hv0
         clear hrow hL hlen hl0 hend hasc hperm hyk hN1
         go_upto_region 37 with fail
         refine bY 37 #[.int .u64 0, .int .u64 0, .int .u64 0] ?_
         rintro w6 ⟨qG, hb6⟩
         obtain ⟨zb, hzb⟩ : ∃ zb, zb = wr.heap.size := ⟨_, rfl⟩
         have HZf := qd (show vb ≠ zb ∧ (∀ (k : Nat) (u : Value), vs[k]? = some u → ∀ g, u.ownBlock = some g → g ≠ zb) ∧ zb ∉ G ∧ w.heap.size ≤ zb from ⟨fun e => by have := dL.out.fQ.1 vb rfl; omega, fun k u hu g hg e => by have := dL.out.fQ.2 k u hu g hg; omega, fun hg => by have := (HA.out.facts.1 zb hg).1; omega, by have := HB.out.size; omega⟩)
         rw [← hzb] at qG ⊢
         replace HA := qd (HA.out.below hb6)
         replace HB := qd (fV HB.out hb6)
         replace dL := qd (dL.out.below hb6)
         have HZ := qd (show aj w6 zb 37 #[.int .u64 ((⟨0, 0, 0⟩ : av).key : Int), .int .u64 ((⟨0, 0, 0⟩ : av).val : Int), .int .u64 ((⟨0, 0, 0⟩ : av).hash : Int)] from qG)
         have hou := dL.out.out
         rw [uz.out] at hou
         have c0 : w6.cell? ⟨vb, 0, none⟩ = some (.slice (some ⟨g0, 0, none⟩) N cap0) := (hou.cellAt 0 (by omega)).trans hv0
         have hI0 : (0 : Int) < (I : Int) := by omega
         have Az := qd (show 0 = (fJ (l0.take 0)).length from rfl)
         have nR := qd (show CP out 0 ⟨0, 0, 0⟩ from .inl rfl)
         clear qG hb6 hzb hou hv0
         go_wp2
         go_loopw [20, 21, 22, 24, 25, 137] (fun v20 _ _ _ _ V8 wr => ∃ (j cn : Nat) (le : av), j ≤ N ∧ V8 = .int .i64 (j : Int) ∧ v20 = .int .i64 (cn : Int) ∧ Hid (jI w E (gu l) K M I b G wr a ids its I jw) ∧ Hid (Below w.heap.size w wr) ∧ Hid (gU w.heap.size wr (.slice (some ⟨vb, 0, none⟩) I cap) vs L G) ∧ Hid (cn = (fJ (l0.take j)).length) ∧ Hid (aj wr zb 37 #[.int .u64 (le.key : Int), .int .u64 (le.val : Int), .int .u64 (le.hash : Int)]) ∧ Hid (CP out cn le)) (fun _ _ _ _ _ V8 _ => N - (intOf V8).toNat)
         case atStart => exact ⟨0, 0, _, by omega, rfl, rfl, HA, HB, dL, Az, HZ, nR⟩
         case round =>
          clear HA HB dL Az HZ nR c0
          obtain ⟨j, cn, le, hj, rfl, rfl, HA, HB, dL, Az, HZ, nR⟩ := hrel
          by_cases hlt : j < N
          ·have hlt' : (j : Int) < (N : Int) := by omega
           have hj0 : (0 : Int) ≤ (j : Int) := by omega
           have hwj : IntKind.i64.wrap ((j : Int) + 1) = ((j + 1 : Nat) : Int) := by rw [IntKind.wrap_i64]; omega
           have HJ := qd (Nat.succ_le_of_lt hlt)
           have oO := qd (oz hlt)
           have SG := qd hlt
           obtain ⟨x, hx⟩ : ∃ x, l0[j]? = some x := ⟨_, List.getElem?_eq_getElem (by have := lS.out; omega)⟩
           have HXx := qd hx
           have Ez := dL.out.inn 0 _ l0 ay.out (Ta.out 0 (by omega))
           rw [lS.out] at Ez
           obtain ⟨r0, r1, r2⟩ := Ac Ez hx hlt
           clear Ez hx
           go_upto_region 40 with fail
           refine bY 47 #[.int .i64 (x.st : Int), .int .u64 (x.key : Int), .int .u64 (x.val : Int)] ?_
           rintro w7 ⟨r9, jJ⟩
           obtain ⟨bx, hbx⟩ : ∃ bx, bx = wr.heap.size := ⟨_, rfl⟩
           rw [← hbx] at r9 ⊢
           have HX := qd r9
           replace HA := qd (HA.out.below jJ)
           replace HB := qd (fV HB.out jJ)
           replace dL := qd (dL.out.below jJ)
           replace HZ := qB jJ HZ
           have HW := qd (Below.refl w7.heap.size w7)
           clear r9 jJ hbx r0 r1 r2
           go_wp2
           go_loopw [24, 144] (fun _ V9 wr => ∃ k : Nat, k ≤ I ∧ V9 = .int .i64 (k : Int) ∧ Hid (Below w7.heap.size w7 wr)) (fun _ V9 _ => I - (intOf V9).toNat)
           case atStart => exact ⟨0, by omega, rfl, HW⟩
           case round =>
            clear HW
            obtain ⟨k, hk, rfl, HW⟩ := hrel
            replace HA := qd (HA.out.below HW.out)
            replace HB := qd (fV HB.out HW.out)
            replace dL := qd (dL.out.below HW.out)
            replace HZ := qd (HZ.out.mod (Mod.of_below HW.out []) (by simp))
            replace HX := qd (HX.out.mod (Mod.of_below HW.out []) (by simp))
            have HX0 := HX.out.cell 0
            obtain ⟨x0, x1, x2⟩ := HX.out.c3
            clear HX0
            by_cases XA : k < I
            ·have abE : (k : Int) < (I : Int) := by omega
             have hk0 : (0 : Int) ≤ (k : Int) := by omega
             have hwk : IntKind.i64.wrap ((k : Int) + 1) = ((k + 1 : Nat) : Int) := by rw [IntKind.wrap_i64]; omega
             have DC := qd (Nat.succ_le_of_lt XA)
             have MB := qd (oz XA)
             obtain ⟨gk, ck, hvk⟩ := UK.out k XA
             have hou := dL.out.out
             rw [uz.out] at hou
             have cv : wr.cell? ⟨vb, k, none⟩ = some (.slice (some ⟨gk, 0, none⟩) N ck) := (hou.cellAt k (by omega)).trans hvk
             have Wd := dL.out.inn k _ l0 hvk (Ta.out k XA)
             rw [lS.out] at Wd
             obtain ⟨s0, s1, s2⟩ := Ac Wd HXx.out SG.out
             have HWd := qd HW.out.drew
             clear hou hvk Wd
             go_upto_region 43 with fail
             refine rT (fun (w' : World) => w'.cell? ⟨gk, j * 3, none⟩ = some (.int .i64 (x.st : Int)) ∧ w'.cell? ⟨gk, j * 3 + 1, none⟩ = some (.int .u64 (x.key : Int)) ∧ w'.cell? ⟨gk, j * 3 + 2, none⟩ = some (.int .u64 (x.val : Int)) ∧ w'.cell? ⟨bx, 0, none⟩ = some (.int .i64 (x.st : Int)) ∧ w'.cell? ⟨bx, 1, none⟩ = some (.int .u64 (x.key : Int)) ∧ w'.cell? ⟨bx, 2, none⟩ = some (.int .u64 (x.val : Int))) [] ?_
             have hHeld := (⟨s0, s1, s2, x0, x1, x2⟩ : _ ∧ _ ∧ _ ∧ _ ∧ _ ∧ _)
             refine vW 0 rfl ?_
             refine vW 1 rfl ?_
             refine vW 2 rfl ?_
             refine vT 3 rfl ?_
             refine vT 4 rfl ?_
             refine vW 5 rfl ?_
             refine aS (by kernel_rfl) ?_ _
             go_wp2
             go_roundw
             all_goals first | exact ⟨⟨k + 1, DC.out, rfl, HWd⟩, MB.out⟩ | exact ⟨k + 1, DC.out, rfl, HWd⟩ | exact MB.out
            ·obtain rfl : I = k := by omega
             have abE : ¬ (I : Int) < (I : Int) := by omega
             by_cases hst : x.st = 1
             ·have hst' : (x.st : Int) = 1 := by omega
              obtain ⟨e, he, hek, Wh⟩ := VY HYk.out HXx.out hst
              rw [← Az.out] at he Wh
              have hem := nD.out.mem_iff.1 (List.mem_of_getElem? he)
              have hkn : x.key < n := by rw [← hek]; exact Bv.out e hem
              have heh : e.hash = gu l x.key := by rw [← hek]; exact HA.out.aaQ e hem
              have hkn' : (x.key : Int) < (n : Int) := by omega
              have hkn2 : ¬ ((n : Int) ≤ (x.key : Int)) := by omega
              have hk0 : (0 : Int) ≤ (x.key : Int) := by omega
              have hwn : IntKind.u64.wrap (n : Int) = (n : Int) := by rw [IntKind.wrap_u64]; omega
              have hwc : IntKind.i64.wrap ((cn : Int) + 1) = ((cn + 1 : Nat) : Int) := by
               have h1 := aX he
               have h2 := nD.out.length_eq
               obtain ⟨_, _, h3, h4, _⟩ := HA.out.facts
               rw [IntKind.wrap_i64]; omega
              obtain ⟨hg, ho, hAA, hgl, hcell⟩ := HR.out.2 (by omega)
              have hc0 : w.cell? ⟨hg, ho + x.key, none⟩ = some (.int .u64 (gu l x.key : Int)) := hcell _ _ (by
               unfold sQ gu
               rw [List.getElem?_map, List.getD_eq_getElem?_getD, List.getElem?_eq_getElem (by have := HL.out; omega)]
               rfl)
              have hc : wr.cell? ⟨hg, ho + x.key, none⟩ = some (.int .u64 (gu l x.key : Int)) := (World.cell?_of_block (HB.out.block _ hgl)).trans hc0
              subst hAA
              have Qt := qd (show CP out (cn + 1) ⟨x.key, 0, gu l x.key⟩ from .inr ⟨e, he, hek.symm, heh.symm⟩)
              have EA := qd (show cn + 1 = (fJ (l0.take (j + 1))).length from Wh.symm)
              have fM := qd (fun (h0 : cn ≠ 0) => CP.next (x := ⟨x.key, 0, gu l x.key⟩) nR.out HAs.out he h0 hek.symm heh.symm)
              clear he hek Wh hem heh hcell hc0 hgl
              go_upto_region 49 with fail
              refine rT (fun (w' : World) => w'.cell? ⟨bx, 1, none⟩ = some (.int .u64 (x.key : Int)) ∧ w'.cell? ⟨hg, ho + x.key, none⟩ = some (.int .u64 (gu l x.key : Int))) [9] ?_
              have hHeld := (⟨x1, hc⟩ : _ ∧ _)
              refine vW 0 rfl ?_
              refine vT 1 rfl ?_
              refine vW 2 rfl ?_
              refine vW 3 rfl ?_
              refine vT 4 rfl ?_
              refine vW 5 rfl ?_
              refine vT 6 rfl ?_
              refine vW 7 rfl ?_
              refine nT 8 rfl fun K hK => ?_
              go_simp
              have kF : Below wr.heap.size wr (wr.alloc (.cells #[.int .u64 0, .int .u64 0, .int .u64 0] 37)).drew := ((Below.refl wr.heap.size wr).alloc (Nat.le_refl _) _).drew
              have hHeld := (⟨aF kF x1, aF kF hc⟩ : _ ∧ _)
              refine kO hK ?_
              clear hK K
              refine nT 9 rfl fun K hK => ?_
              go_simp
              refine kO hK ?_
              clear hK K
              refine aS (by kernel_rfl) ?_ _
              refine cZ (F := fun v => aj v wr.heap.size 37 #[.int .u64 (x.key : Int), .int .u64 0, .int .u64 (gu l x.key : Int)] ∧ Below wr.heap.size wr v) ⟨(aj.new wr 37 #[.int .u64 (x.key : Int), .int .u64 0, .int .u64 (gu l x.key : Int)]).drew, ((Below.refl wr.heap.size wr).alloc (Nat.le_refl _) (.cells #[.int .u64 (x.key : Int), .int .u64 0, .int .u64 (gu l x.key : Int)] 37)).drew⟩ ?_
              rintro w8 ⟨hB8, kF⟩
              obtain ⟨nb, hnb⟩ : ∃ nb, nb = wr.heap.size := ⟨_, rfl⟩
              rw [← hnb] at hB8 ⊢
              have gN := qd hB8
              replace HA := qd (HA.out.below kF)
              replace HB := qd (fV HB.out kF)
              replace dL := qd (dL.out.below kF)
              replace HZ := qB kF HZ
              clear hB8 kF hnb x0 x1 x2 hc HX HW
              by_cases h0 : cn = 0
              ·subst h0
               obtain ⟨e0, e1, e2⟩ := gN.out.c3
               obtain ⟨z0, z1, z2⟩ := HZ.out.c3
               obtain ⟨f0, f1, f2⟩ := HZ.out.f3
               have hnew := ((HZ.out.ak 0 (.int .u64 (x.key : Int))).ak 1 (.int .u64 0)).ak 2 (.int .u64 (gu l x.key : Int))
               have hm := (((Mod.refl [zb] w8).sl 0 (.int .u64 (x.key : Int))).sl 1 (.int .u64 0)).sl 2 (.int .u64 (gu l x.key : Int))
               simp only [pt] at hnew
               have iE := qd hnew
               have Cg := qd hm
               clear hnew hm
               go_upto_region 53 with fail
               refine cZ (F := fun v => aj v zb 37 #[.int .u64 (x.key : Int), .int .u64 0, .int .u64 (gu l x.key : Int)] ∧ Mod [zb] w8 v) ⟨iE.out, Cg.out⟩ ?_
               clear iE Cg e0 e1 e2 z0 z1 z2 f0 f1 f2
               rintro WB ⟨ME, Ad⟩
               have zh := HZf.out
               have MF := qd (HA.out.mod Ad (fun p hp => by rw [List.mem_singleton.1 hp]; exact ⟨zh.2.2.1, zh.2.2.2⟩))
               have MG := qd (HB.out.trans (Ad.below (fun p hp => by rw [List.mem_singleton.1 hp]; exact zh.2.2.2) HB.out.size))
               have Cr := qd (dL.out.mod Ad (fun p hp hs => by rw [List.mem_singleton.1 hs] at hp; cases hp; exact zh.1 rfl) (fun k u hu p hp hs => zh.2.1 k u hu p hp (List.mem_singleton.1 hs)))
               have MH := qd (show aj WB zb 37 #[.int .u64 ((⟨x.key, 0, gu l x.key⟩ : av).key : Int), .int .u64 ((⟨x.key, 0, gu l x.key⟩ : av).val : Int), .int .u64 ((⟨x.key, 0, gu l x.key⟩ : av).hash : Int)] from ME)
               clear ME Ad zh
               go_wp2
               go_roundw
               all_goals first | exact ⟨⟨j + 1, 1, _, HJ.out, rfl, rfl, MF, MG, Cr, EA, MH, Qt⟩, oO.out⟩ | exact ⟨j + 1, 1, _, HJ.out, rfl, rfl, MF, MG, Cr, EA, MH, Qt⟩ | exact oO.out
              ·have hc0 : (0 : Int) < (cn : Int) := by omega
               have hbf := Qj le ⟨x.key, 0, gu l x.key⟩ w8
               rw [fM.out h0] at hbf
               unfold aM at hbf
               have SY := qd (show Calls Tryz.prog 15 #[.agg #[.int .u64 (le.key : Int), .int .u64 (le.val : Int), .int .u64 (le.hash : Int)], .agg #[.int .u64 (x.key : Int), .int .u64 0, .int .u64 (gu l x.key : Int)]] w8 fun e w' => e = .returned (.bool true) ∧ Below w8.heap.size w8 w' from hbf)
               clear hbf
               obtain ⟨e0, e1, e2⟩ := gN.out.c3
               obtain ⟨z0, z1, z2⟩ := HZ.out.c3
               go_wp2_with fail
               refine SY.out.mono ?_
               rintro y w9 ⟨rfl, Ao⟩
               replace HA := qd (HA.out.below Ao)
               replace HB := qd (fV HB.out Ao)
               replace dL := qd (dL.out.below Ao)
               replace HZ := qB Ao HZ
               replace gN := qB Ao gN
               clear Ao SY e0 e1 e2 z0 z1 z2
               obtain ⟨e0, e1, e2⟩ := gN.out.c3
               obtain ⟨z0, z1, z2⟩ := HZ.out.c3
               obtain ⟨f0, f1, f2⟩ := HZ.out.f3
               have hnew := ((HZ.out.ak 0 (.int .u64 (x.key : Int))).ak 1 (.int .u64 0)).ak 2 (.int .u64 (gu l x.key : Int))
               have hm := (((Mod.refl [zb] w9).sl 0 (.int .u64 (x.key : Int))).sl 1 (.int .u64 0)).sl 2 (.int .u64 (gu l x.key : Int))
               simp only [pt] at hnew
               have iE := qd hnew
               have Cg := qd hm
               clear hnew hm
               go_upto_region 53 with fail
               refine cZ (F := fun v => aj v zb 37 #[.int .u64 (x.key : Int), .int .u64 0, .int .u64 (gu l x.key : Int)] ∧ Mod [zb] w9 v) ⟨iE.out, Cg.out⟩ ?_
               clear iE Cg e0 e1 e2 z0 z1 z2 f0 f1 f2
               rintro WB ⟨ME, Ad⟩
               have zh := HZf.out
               have MF := qd (HA.out.mod Ad (fun p hp => by rw [List.mem_singleton.1 hp]; exact ⟨zh.2.2.1, zh.2.2.2⟩))
               have MG := qd (HB.out.trans (Ad.below (fun p hp => by rw [List.mem_singleton.1 hp]; exact zh.2.2.2) HB.out.size))
               have Cr := qd (dL.out.mod Ad (fun p hp hs => by rw [List.mem_singleton.1 hs] at hp; cases hp; exact zh.1 rfl) (fun k u hu p hp hs => zh.2.1 k u hu p hp (List.mem_singleton.1 hs)))
               have MH := qd (show aj WB zb 37 #[.int .u64 ((⟨x.key, 0, gu l x.key⟩ : av).key : Int), .int .u64 ((⟨x.key, 0, gu l x.key⟩ : av).val : Int), .int .u64 ((⟨x.key, 0, gu l x.key⟩ : av).hash : Int)] from ME)
               clear ME Ad zh
               go_wp2
               go_roundw
               all_goals first | exact ⟨⟨j + 1, cn + 1, _, HJ.out, rfl, rfl, MF, MG, Cr, EA, MH, Qt⟩, oO.out⟩ | exact ⟨j + 1, cn + 1, _, HJ.out, rfl, rfl, MF, MG, Cr, EA, MH, Qt⟩ | exact oO.out
             ·have hst' : ¬ (x.st : Int) = 1 := by omega
              have EA := qd (show cn = (fJ (l0.take (j + 1))).length by
               rw [Qp (by have := lS.out; have := SG.out; omega) (by rw [HXx.out]; simpa using hst)]
               exact Az.out)
              go_wp2
              go_roundw
              all_goals first | exact ⟨⟨j + 1, cn, le, HJ.out, rfl, rfl, HA, HB, dL, EA, HZ, nR⟩, oO.out⟩ | exact ⟨j + 1, cn, le, HJ.out, rfl, rfl, HA, HB, dL, EA, HZ, nR⟩ | exact oO.out
          ·obtain rfl : N = j := by omega
           have hlt' : ¬ (N : Int) < (N : Int) := by omega
           have abF : cn = a.ents.length := by
            have h1 := Az.out
            rw [← lS.out, List.take_length, HYk.out, List.length_map, nD.out.length_eq] at h1
            exact h1
           subst abF
           have hN1 := HN1.out
           have abG := aaS.out
           have adu : (N1 : Int) < (N : Int) := by omega
           have adv : (0 : Int) ≤ (N1 : Int) := by omega
           have hwN : IntKind.i64.wrap ((N : Int) - 1) = (N1 : Int) := by rw [IntKind.wrap_i64]; omega
           have hou := dL.out.out
           rw [uz.out] at hou
           have c0 : wr.cell? ⟨vb, 0, none⟩ = some (.slice (some ⟨g0, 0, none⟩) N cap0) := (hou.cellAt 0 (by omega)).trans ay.out
           have Ez := dL.out.inn 0 _ l0 ay.out (Ta.out 0 (by omega))
           rw [lS.out] at Ez
           have hlast : l0[N1]? = some (⟨3, 0, 0⟩ : gQ) := by
            have h1 := lS.out
            have h2 := bC.out
            rw [h2, List.length_append] at h1
            have h3 : lh.length = N1 := by simp at h1; omega
            rw [h2, ← h3]
            simp
           have z0 : wr.cell? ⟨g0, N1 * 3, none⟩ = some (.int .i64 3) := (Ac Ez hlast (by omega)).1
           have abH := qd (SH (HA.out.below ((Below.refl wr.heap.size wr).drew)))
           have hIp : 0 < I := by omega
           have hIz : ¬ I = 0 := by omega
           clear hou Ez hlast hN1 abG
           go_upto_region 55 with fail
           refine rT (fun (w' : World) => w'.cell? ⟨vb, 0, none⟩ = some (.slice (some ⟨g0, 0, none⟩) N cap0) ∧ w'.cell? ⟨g0, N1 * 3, none⟩ = some (.int .i64 3)) [] ?_
           have hHeld := (⟨c0, z0⟩ : _ ∧ _)
           refine vW 0 rfl ?_
           refine vW 1 rfl ?_
           refine nT 2 rfl fun K hK => ?_
           go_simp
           refine abH.out.mono ?_
           rintro y w5 ⟨rfl, rfl⟩
           have hHeld := (⟨c0, z0⟩ : _ ∧ _)
           refine kO hK ?_
           clear hK K
           refine vW 3 rfl ?_
           refine vW 4 rfl ?_
           refine vW 5 rfl ?_
           refine vW 6 rfl ?_
           refine vT 7 rfl ?_
           refine vW 8 rfl ?_
           refine vW 9 rfl ?_
           refine vT 10 rfl ?_
           refine vW 11 rfl ?_
           refine vW 12 rfl ?_
           refine vW 13 rfl ?_
           refine vW 14 rfl ?_
           refine vT 15 rfl ?_
           refine vW 16 rfl ?_
           refine vW 17 rfl ?_
           refine vW 18 rfl ?_
           refine aS (by kernel_rfl) ?_ _
           go_wp2
           go_ret
           exact ⟨rfl, HB.out.drew⟩
end Go.Proofs.YtfojgfddgplinabGreatDoor
