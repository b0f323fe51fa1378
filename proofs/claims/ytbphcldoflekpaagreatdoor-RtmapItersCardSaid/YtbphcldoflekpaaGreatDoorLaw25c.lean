/- RtmapIters: an iterator yields no key twice, and each key that was there all the time. -/
import Derived.Test.YtbphcldoflekpaaGreatDoorRmJ
import Derived.Test.YtbphcldoflekpaaGreatDoorSqT
import Derived.Test.YtbphcldoflekpaaGreatDoorLaneP
import Derived.Test.YtbphcldoflekpaaGreatDoorNum
namespace Go.Proofs.YtbphcldoflekpaaGreatDoor
set_option maxRecDepth 100000
set_option maxHeartbeats 4000000
open Go.RowKit dA
theorem Y0 {es : List av} {k : Nat} {e : av} (h : look es k = some e) : e ∈ es ∧ e.key = k := by
 unfold look at h
 exact ⟨List.mem_of_find?_eq_some h, by simpa [nI, nU] using List.find?_some h⟩
theorem TR {E : Nat → Addr} (k m i : Int) (A : Option Addr) (n c : Nat) (l : List Nat) (B : Option Addr) (ma d : Nat) (acts : List dV) (B2 : Option Addr) (mG d2 : Nat) (FU : List dV) (w : World) (hE : Env w E w) (FT : fJ E w 6) (hEr : eZ E w) (hl : l.length = n) (hll : ∀ x ∈ l, x < 18446744073709551616) (hR : Reads w w.heap.size 1 A n (sw l)) (hla : acts.length = ma) (X7 : Reads w w.heap.size 3 B ma (acts.flatMap dV.cells)) (QS : FU.length = mG) (QT : Reads w w.heap.size 3 B2 mG (FU.flatMap dV.cells)) : Calls Tryz.prog 3 #[iB k m i, .slice A n c, .agg #[.slice B ma d, .slice B2 mG d2]] w fun e w' => e = .returned (.bool true) ∧ Below w.heap.size w w' := by
 have HE := qd hE
 have X8 := qd FT
 have HR := qd hR
 have I8 := qd X7
 have HL := qd hl
 have FV := qd hll
 have HLa := qd hla
 have aaJ := qd QS
 have KR := qd hEr
 have Wi := qd QT
 have hb0 := ((Below.refl w.heap.size w).alloc (Nat.le_refl _) (.cells #[.int .i64 k, .int .i64 m, .int .i64 i] 23)).alloc (by simp) (.cells #[.slice B ma d, .slice B2 mG d2] 26)
 have hX0 := (aj.new w 23 #[.int .i64 k, .int .i64 m, .int .i64 i]).alloc (.cells #[.slice B ma d, .slice B2 mG d2] 26)
 have hY0 := aj.new (w.alloc (.cells #[.int .i64 k, .int .i64 m, .int .i64 i] 23)) 26 #[.slice B ma d, .slice B2 mG d2]
 have hys : (w.alloc (.cells #[.int .i64 k, .int .i64 m, .int .i64 i] 23)).heap.size = w.heap.size + 1 := by simp
 rw [hys] at hY0
 unfold iB
 clear hE FT hEr hR X7 QT hl hll hla QS hys
 go_in
 go_upto_region 1 with fail
 refine cO (F := fun v => aj v w.heap.size 23 #[.int .i64 k, .int .i64 m, .int .i64 i] ∧ aj v (w.heap.size + 1) 26 #[.slice B ma d, .slice B2 mG d2] ∧ Below w.heap.size w v) ⟨hX0, hY0, hb0⟩ ?_
 clear hX0 hY0 hb0
 rintro w1 ⟨hB1, hY1, hb1⟩
 obtain ⟨xb, hxb⟩ : ∃ xb, xb = w.heap.size := ⟨_, rfl⟩
 have O3 := qd (show w.heap.size ≤ xb from by omega)
 obtain ⟨yb, hyb⟩ : ∃ yb, yb = w.heap.size + 1 := ⟨_, rfl⟩
 have HYl := qd (show w.heap.size ≤ yb from by omega)
 rw [← hyb] at hY1 ⊢
 rw [← hxb] at hB1 ⊢
 have HX := qd hB1
 have HY := qd hY1
 have HB := qd hb1
 have nY := qd (HE.out.next hb1)
 have HAl := qd (NI nY.out X8.out)
 clear hB1 hY1 hb1 hxb hyb
 go_wp2_with fail
 refine HAl.out.mono ?_
 rintro y w2 ⟨rfl, hb2⟩
 replace HX := qB hb2 HX
 replace HY := qB hb2 HY
 replace HB := qd (iZ HB.out hb2)
 replace nY := qd (nY.out.next hb2)
 obtain ⟨y0, y1⟩ := HY.out.c2
 clear hb2 HAl
 have HLg := qd (EZ A B n c ma d w2)
 have aaK := qd (EZ A B2 n c mG d2 w2)
 go_wp2_with fail
 refine HLg.out.mono ?_
 rintro y w3 ⟨rfl, rfl⟩
 clear HLg
 by_cases ab7 : n < 1 ∨ 220 < n ∨ 700 < ma
 ·have Ca : (decide (n < 1) || (decide (220 < n) || decide (700 < ma))) = true := by simp; omega
  rw [Ca]
  clear Ca
  go_wp2
  go_ret
  exact ⟨rfl, HB.out⟩
 have Ca : (decide (n < 1) || (decide (220 < n) || decide (700 < ma))) = false := by simp; omega
 rw [Ca]
 clear Ca
 go_wp2_with fail
 refine aaK.out.mono ?_
 rintro y w3 ⟨rfl, rfl⟩
 clear aaK
 by_cases ab8 : n < 1 ∨ 220 < n ∨ 700 < mG
 ·have Ca : (decide (n < 1) || (decide (220 < n) || decide (700 < mG))) = true := by simp; omega
  rw [Ca]
  clear Ca
  go_wp2
  go_ret
  exact ⟨rfl, HB.out⟩
 ·have Ca : (decide (n < 1) || (decide (220 < n) || decide (700 < mG))) = false := by simp; omega
  rw [Ca]
  clear Ca y0 y1
  obtain ⟨c0, c1, c2⟩ := HX.out.c3
  cases hcf : nk k m i with
  | false =>
   have hnb := QK nY.out k m i hcf
   rw [jd E (by omega : 1 ≤ 1)] at hnb
   unfold iB at hnb
   have iJ := qd hnb
   clear hnb hcf
   go_wp2_with fail
   refine iJ.out.mono ?_
   rintro y w4 ⟨rfl, hb4⟩
   replace HB := qd (iZ HB.out hb4)
   clear hb4 iJ
   go_wp2
   go_ret
   exact ⟨rfl, HB.out⟩
  | true =>
   obtain ⟨K, M, I, hK, hM, hk1, hm1, hi1⟩ := YX hcf
   have hI8 : 1 ≤ I ∧ I ≤ 8 := by
    unfold nk xw at hcf
    simp at hcf
    omega
   have hnb := TL (lY l) nY.out k m i hcf K M I ⟨hK, hM, hk1, hm1, hi1⟩ hI8
   unfold iB at hnb
   have iJ := qd hnb
   have HKm := qd (And.intro hK (And.intro hM (And.intro hI8 hi1)))
   clear hnb hcf hK hM hk1 hm1 hi1 hI8
   go_wp2_with fail
   refine iJ.out.mono ?_
   have HX0 := qd HY.out.lt
   rintro y w4 ⟨b, G, rfl, O4, hG4, hb4⟩
   have HXy := qd (HY.out.mod (Mod.of_below hb4 []) (by simp))
   clear HX HY
   have HX := HXy
   clear HXy
   have wI := qd (show yb ∉ G ∧ ∀ q ∈ G, w.heap.size ≤ q from ⟨fun hg => by have := hG4 _ hg; have := HX0.out; omega, fun q hq => Nat.le_trans HB.out.size (hG4 q hq)⟩)
   have HA := qd O4
   have OO := qd (iZ HB.out hb4)
   have Ad := qd (show ∀ e ∈ jB.ents, e.key < n from fun e he => by rw [zN] at he; cases he)
   clear O4 hG4 hb4 iJ c0 c1 c2 HB nY
   have y0 := HX.out.cell 0
   simp only [gl] at y0
   go_wp2
   go_loopw [10, 11, 59] (fun _ _ v59 wr => ∃ (j : Nat) (G : List Nat) (a : Pool) (ids : List Nat) (eH : bC), j ≤ ma ∧ v59 = nI j ∧ Hid (je w E (lY l) K M I b G wr a ids [] 0 eH) ∧ Hid (yb ∉ G ∧ ∀ q ∈ G, w.heap.size ≤ q) ∧ Hid (∀ e ∈ a.ents, e.key < n) ∧ Hid (aj wr yb 26 #[.slice B ma d, .slice B2 mG d2]) ∧ Hid (Below w.heap.size w wr)) (fun _ _ v59 _ => ma - (intOf v59).toNat)
   case atStart => exact ⟨0, _, _, _, _, by omega, rfl, HA, wI, Ad, HX, OO⟩
   case round =>
    clear HA wI Ad HX OO y0
    obtain ⟨j, G, a, ids, eH, hj, rfl, HA, wI, Ad, HX, HB⟩ := hrel
    have hma : ma ≤ 700 := by omega
    by_cases hlt : j < ma
    ·have hlt' : (j : Int) < (ma : Int) := by omega
     have hj0 : (0 : Int) ≤ (j : Int) := by omega
     obtain ⟨act, hact⟩ : ∃ act, acts[j]? = some act := ⟨_, List.getElem?_eq_getElem (by have := HLa.out; omega)⟩
     obtain ⟨g, off, OW, hgl, m0, TS, TT⟩ := Ji I8.out HLa.out hact
     have hkp := fun (p : Addr) (v : Value) (hp : p.block < w.heap.size) (hh : w.cell? p = some v) => (World.cell?_of_block (HB.out.block p.block hp)).trans hh
     have r0 := hkp _ _ hgl m0
     have r1 := hkp _ _ hgl TS
     have r2 := hkp _ _ hgl TT
     have HJ := qd (Nat.succ_le_of_lt hlt)
     have iT := qd (nR hlt)
     subst OW
     clear m0 TS TT hkp hact
     go_upto_region 11 with fail
     refine bW 35 #[.int .i64 act.kind, .int .i64 act.key, .int .i64 act.n] ?_
     rintro w5 ⟨tY, hb5⟩
     obtain ⟨bx, hbx⟩ : ∃ bx, bx = wr.heap.size := ⟨_, rfl⟩
     rw [← hbx] at tY ⊢
     have kP := qd tY
     obtain ⟨a0, a1, a2⟩ := tY.c3
     replace HA := qd (HA.out.below hb5)
     replace HB := qd (iZ HB.out hb5)
     replace HX := qB hb5 HX
     have bD := qd (C9 A n c l act (by omega) HL.out w5 (by
      obtain ⟨q1, q2⟩ := HR.out
      refine ⟨q1, fun hp => ?_⟩
      obtain ⟨g', off', z1, z2, z3⟩ := q2 hp
      have hzz := HB.out.size
      exact ⟨g', off', z1, by omega, fun jj u hu => (World.cell?_of_block (HB.out.block _ z2)).trans (z3 jj u hu)⟩))
     have MV := qd (MJ FV.out (by have := HL.out; omega) act)
     have MW := qd (show (qC l act).key < n from by
      have : C8 act.key l.length < l.length := Nat.mod_lt _ (by have := HL.out; omega)
      have := HL.out
      show C8 act.key l.length < n
      omega)
     obtain ⟨e, he⟩ : ∃ e, e = qC l act := ⟨_, rfl⟩
     rw [← he] at bD MV MW
     unfold DT aM at bD
     clear tY hb5 r0 r1 r2 hbx he
     go_wp2_with fail
     refine bD.out.mono ?_
     rintro y w6 ⟨rfl, hb6⟩
     replace HA := qd (HA.out.below hb6)
     replace HB := qd (iZ HB.out hb6)
     replace HX := qB hb6 HX
     replace kP := qB hb6 kP
     clear hb6 bD a0 a1 a2
     go_upto_region 12 with fail
     refine bW 38 #[nU e.key, nU e.val, nU e.hash] ?_
     rintro w7 ⟨xE, oI⟩
     obtain ⟨ex, hex⟩ : ∃ ex, ex = w6.heap.size := ⟨_, rfl⟩
     rw [← hex] at xE ⊢
     replace HA := qd (HA.out.below oI)
     replace HB := qd (iZ HB.out oI)
     replace HX := qB oI HX
     replace kP := qB oI kP
     have a0 := kP.out.cell 0
     simp only [List.getElem?_toArray, List.getElem?_cons_zero] at a0
     obtain ⟨e0, e1, e2⟩ := xE.c3
     clear xE oI hex kP
     by_cases hk0 : act.kind = 0
     ·have MX := MF HA.out e MV.out
      rcases BR E (o8 M a.ents e.key) with hv | ⟨AE, hv⟩
      all_goals
       rw [hv] at MX
       have p8 := qd MX
       clear MX hv
       go_wp2_with fail
       refine p8.out.mono ?_
       rintro y w8 ⟨rfl, a', aI, fC, ⟨G', TU, oG, Dz⟩, hpr⟩
       have TV := qd TU
       have TW := qd (HB.out.trans (Dz.below wI.out.2 HB.out.size))
       have TY := qd (HX.out.mod Dz wI.out.1)
       have MZ := qd (show yb ∉ G' ∧ ∀ q ∈ G', w.heap.size ≤ q from ⟨fun hg => (oG _ hg).elim wI.out.1 (fun k => by have := HX.out.lt; omega), fun q hq => (oG q hq).elim (wI.out.2 q) (fun k => by have := HB.out.size; omega)⟩)
       have M0 := qd (MK (n := n) Ad.out MW.out hpr.1)
       clear TU oG Dz hpr p8
       go_wp2
       go_roundw
       all_goals first | exact ⟨⟨j + 1, G', a', aI, fC, HJ.out, rfl, TV, MZ, M0, TY, TW⟩, iT.out⟩ | exact ⟨j + 1, G', a', aI, fC, HJ.out, rfl, TV, MZ, M0, TY, TW⟩ | exact iT.out
     ·by_cases hk1 : act.kind = 1
      ·have p8 := qd (Jf HA.out e MV.out)
       go_wp2_with fail
       refine p8.out.mono ?_
       rintro y w8 ⟨rfl, a', aI, fC, ⟨G', TU, oG, Dz⟩, hpr⟩
       have TV := qd TU
       have TW := qd (HB.out.trans (Dz.below wI.out.2 HB.out.size))
       have TY := qd (HX.out.mod Dz wI.out.1)
       have MZ := qd (show yb ∉ G' ∧ ∀ q ∈ G', w.heap.size ≤ q from ⟨fun hg => (oG _ hg).elim wI.out.1 (fun k => by have := HX.out.lt; omega), fun q hq => (oG q hq).elim (wI.out.2 q) (fun k => by have := HB.out.size; omega)⟩)
       have M0 := qd (show ∀ x ∈ a'.ents, x.key < n from fun x hx => Ad.out x (wF.1 (hpr.mem_iff.1 hx)).1)
       clear TU oG Dz hpr p8
       go_wp2
       go_roundw
       all_goals first | exact ⟨⟨j + 1, G', a', aI, fC, HJ.out, rfl, TV, MZ, M0, TY, TW⟩, iT.out⟩ | exact ⟨j + 1, G', a', aI, fC, HJ.out, rfl, TV, MZ, M0, TY, TW⟩ | exact iT.out
      ·go_wp2
       go_roundw
       all_goals first | exact ⟨⟨j + 1, G, a, ids, eH, HJ.out, rfl, HA, wI, Ad, HX, HB⟩, iT.out⟩ | exact ⟨j + 1, G, a, ids, eH, HJ.out, rfl, HA, wI, Ad, HX, HB⟩ | exact iT.out
    ·obtain rfl : ma = j := by omega
     have hlt' : ¬ (ma : Int) < (ma : Int) := by omega
     obtain ⟨hg, ho, hAA, hgl, hcell⟩ := HR.out.2 (by omega)
     have Dj := qd (show hg < w.heap.size ∧ ∀ k, k < n → w.cell? ⟨hg, ho + k, none⟩ = some (.int .u64 (lY l k : Int)) from ⟨hgl, fun k hk => hcell k _ (by
      unfold sw lY
      rw [List.getElem?_map, List.getD_eq_getElem?_getD, List.getElem?_eq_getElem (by have := HL.out; omega)]
      rfl)⟩)
     subst hAA
     clear hgl hcell
     have KH := qd (OV HA.out (by have := HKm.out.2.2.1.1; exact this) (by omega))
     have T9 := qd wI.out
     clear wI
     go_wp2_with fail
     refine KH.out.mono ?_
     rintro y w5 ⟨cb, rfl, G', I5, hs5, gZ⟩
     have kP := qd (HB.out.trans (gZ.below T9.out.2 HB.out.size))
     have HX5 := qd (HX.out.mod gZ T9.out.1)
     have HG5 := qd (show yb ∉ G' ∧ ∀ q ∈ G', w.heap.size ≤ q from ⟨fun hg => (hs5 _ hg).elim T9.out.1 (fun k => by have := HX.out.lt; omega), fun q hq => (hs5 q hq).elim (T9.out.2 q) (fun k => by have := HB.out.size; omega)⟩)
     have X9 := qd (show je w E (lY l) K M I b G' w5 a ids [⟨1, cb, ⟨0, 0, false⟩⟩] 1 eH from I5)
     clear I5 hs5 gZ KH HA HB HX T9
     have hmk := QO n (by omega)
     have Ya := qd (show aj ((w5.alloc (.cells (tA (List.replicate n false)) 4)).alloc (.cells (tA (List.replicate n false)) 4)).drew w5.heap.size 4 (tA (List.replicate n false)) ∧ aj ((w5.alloc (.cells (tA (List.replicate n false)) 4)).alloc (.cells (tA (List.replicate n false)) 4)).drew (w5.heap.size + 1) 4 (tA (List.replicate n false)) ∧ Below w5.heap.size w5 ((w5.alloc (.cells (tA (List.replicate n false)) 4)).alloc (.cells (tA (List.replicate n false)) 4)).drew from ⟨((aj.new w5 4 (tA (List.replicate n false))).alloc (.cells (tA (List.replicate n false)) 4)).drew, by have := (aj.new (w5.alloc (.cells (tA (List.replicate n false)) 4)) 4 (tA (List.replicate n false))).drew; simpa [nI, nU] using this, ((((Below.refl w5.heap.size w5).alloc (Nat.le_refl _) (.cells (tA (List.replicate n false)) 4)).alloc (by simp) (.cells (tA (List.replicate n false)) 4)).drew)⟩)
     go_upto_region 21 with fail
     go_cut [13, 14] from 94 to 99 (fun v13 v14 wx => ∃ g1 g2 : Nat, v13 = .slice (some ⟨g1, 0, none⟩) n n ∧ v14 = .slice (some ⟨g2, 0, none⟩) n n ∧ Hid (aj wx g1 4 (tA (List.replicate n false)) ∧ aj wx g2 4 (tA (List.replicate n false)) ∧ g1 ≠ g2 ∧ w5.heap.size ≤ g1 ∧ w5.heap.size ≤ g2) ∧ Hid (Below w5.heap.size w5 wx))
     case first =>
      have k1 := Ya.out.1
      have k2 := Ya.out.2.1
      have k3 := Ya.out.2.2
      go_region
      all_goals (go_wp2; go_meet; case rel => first | exact ⟨_, _, rfl, rfl, qd ⟨k1, k2, by omega, by omega, by omega⟩, qd k3⟩ | exact ⟨_, _, rfl, rfl, qd ⟨k2, k1, by omega, by omega, by omega⟩, qd k3⟩)
     case rest =>
      obtain ⟨g1, g2, rfl, rfl, hgg, hbw⟩ := hcut
      clear Ya hmk
      have hap : g1 ≠ g2 ∧ g1 ≠ yb ∧ g2 ≠ yb ∧ g1 ∉ G' ∧ g2 ∉ G' ∧ w.heap.size ≤ g1 ∧ w.heap.size ≤ g2 := by
       obtain ⟨_, _, e1, e2, e3⟩ := hgg.out
       have h1 := HX5.out.lt
       have h2 := kP.out.size
       refine ⟨e1, by omega, by omega, fun hg => ?_, fun hg => ?_, by omega, by omega⟩
       ·have := (X9.out.facts.1 _ hg).1; omega
       ·have := (X9.out.facts.1 _ hg).1; omega
      have hb := hbw.out
      have HS := qd (ni.mk (W0 := w) (X9.out.below hb) ⟨HG5.out.1, hap.2.2.2.1, hap.2.2.2.2.1, HG5.out.2⟩ ⟨hap.1, hap.2.1, hap.2.2.1, hap.2.2.2.2.2.1, hap.2.2.2.2.2.2, HYl.out⟩ (HX5.out.mod (Mod.of_below hb []) (by simp)) hgg.out.1 hgg.out.2.1 (iZ kP.out hb))
      have HT := qd (show (List.replicate n false).length = n ∧ ∀ k : Nat, (List.replicate n false)[k]? = some true → ∃ e ∈ a.ents, e.key = k from ⟨List.length_replicate, fun k hk => by
       rw [List.getElem?_replicate] at hk
       split at hk <;> cases hk⟩)
      clear hgg hbw hb X9 kP HX5 HG5 hap
      go_wp2
      go_loopw [15, 16, 102] (fun _ _ WI wr => ∃ (t : Nat) (G : List Nat) (eH : bC) (T1 : List Bool), t ≤ n ∧ WI = nI t ∧ Hid (ni w E (lY l) K M I b yb g1 g2 #[.slice B ma d, .slice B2 mG d2] wr G a ids [⟨1, cb, ⟨0, 0, false⟩⟩] 1 eH T1 (List.replicate n false)) ∧ Hid (T1.length = n ∧ ∀ k : Nat, T1[k]? = some true → ∃ e ∈ a.ents, e.key = k)) (fun _ _ WI _ => n - (intOf WI).toNat)
      case atStart => exact ⟨0, _, _, _, by omega, rfl, HS, HT⟩
      case round =>
       clear HS HT
       obtain ⟨t, G, eH, T1, ht, rfl, HS, HT⟩ := hrel
       by_cases hlt : t < n
       ·have hlt' : (t : Int) < (n : Int) := by omega
        have ht0 : (0 : Int) ≤ (t : Int) := by omega
        have hwt : IntKind.i64.wrap ((t : Int) + 1) = ((t + 1 : Nat) : Int) := by rw [IntKind.wrap_i64]; omega
        have hwu : IntKind.u64.wrap (t : Int) = (t : Int) := by rw [IntKind.wrap_u64]; omega
        have HJ := qd (Nat.succ_le_of_lt hlt)
        have iT := qd (nR hlt)
        have hc : wr.cell? ⟨hg, ho + t, none⟩ = some (.int .u64 (lY l t : Int)) := (World.cell?_of_block (HS.out.xK.block _ Dj.out.1)).trans (Dj.out.2 t hlt)
        have hgt := TM HS.out.rt t (qp FV.out t)
        unfold BO at hgt
        have NT := qd hgt
        obtain ⟨x0, hx0⟩ : ∃ x0, T1[t]? = some x0 := ⟨_, List.getElem?_eq_getElem (by have := HT.out.1; omega)⟩
        have HX0 := qd hx0
        clear hgt hx0
        go_wp2_with fail
        refine NT.out.mono ?_
        rintro y w6 ⟨rfl, fC, hto⟩
        obtain ⟨G6, MS⟩ := HS.out.to hto
        have e1 := (MS.b1.cell t).trans (y5 HX0.out)
        have e2 := MS.b1.frozen t
        obtain ⟨bb, hbb⟩ : ∃ bb, bb = (look a.ents t).isSome := ⟨_, rfl⟩
        rw [← hbb]
        have HS7 := qd (MS.set1 t bb)
        have HT7 := qd (show (T1.set t bb).length = n ∧ ∀ k : Nat, (T1.set t bb)[k]? = some true → ∃ e ∈ a.ents, e.key = k from ⟨by rw [List.length_set]; exact HT.out.1, fun k hk => by
         by_cases hkt : t = k
         ·subst hkt
          rw [List.getElem?_set, if_pos rfl, if_pos (by have := HT.out.1; omega), hbb] at hk
          cases hl2 : look a.ents t with
          | none =>
           rw [hl2] at hk; cases hk
          | some e2 =>
           exact ⟨e2, Y0 hl2⟩
         ·rw [List.getElem?_set, if_neg hkt] at hk
          exact HT.out.2 k hk⟩)
        clear hto MS NT HS HT hbb hc
        go_wp2
        go_roundw
        all_goals first | exact ⟨⟨t + 1, _, _, _, HJ.out, rfl, HS7, HT7⟩, iT.out⟩ | exact ⟨t + 1, _, _, _, HJ.out, rfl, HS7, HT7⟩ | exact iT.out
       ·obtain rfl : n = t := by omega
        have hlt' : ¬ (n : Int) < (n : Int) := by omega
        have y1 := HS.out.box.cell 1
        simp only [gl] at y1
        have jl := qd (show T1.length = n ∧ (List.replicate n false).length = n ∧ (∀ e ∈ a.ents, e.key < n) ∧ (⟨0, 0, false⟩ : dW).ok from ⟨HT.out.1, List.length_replicate, Ad.out, by simp [dW.ok]⟩)
        have HTt := qd HT.out.2
        clear HT Ad
        go_wp2
        go_loopw [17, 19, 20, 21, 22, 23, 24, 122] (fun v17 _ _ _ _ _ _ WJ wr => ∃ (j : Nat) (G : List Nat) (a : Pool) (ids : List Nat) (eH : bC) (T1 T2 : List Bool) (cc : dW) (cl : Bool), j ≤ mG ∧ WJ = nI j ∧ v17 = .bool cl ∧ Hid (ni w E (lY l) K M I b yb g1 g2 #[.slice B ma d, .slice B2 mG d2] wr G a ids [⟨1, cb, cc⟩] 1 eH T1 T2) ∧ Hid (T1.length = n ∧ T2.length = n ∧ (∀ e ∈ a.ents, e.key < n) ∧ cc.ok) ∧ Hid ((cl = true → cc.done = true) ∧ (cl = false → Seen (lY l) a.ents cc T1 T2))) (fun _ _ _ _ _ _ _ WJ _ => mG - (intOf WJ).toNat)
        case atStart => exact ⟨0, _, _, _, _, _, _, _, false, by omega, rfl, rfl, HS, jl, qd ⟨fun h => (by cases h), fun _ => Seen.start n HTt.out⟩⟩
        case round =>
         clear HS jl HTt y1
         obtain ⟨j, G, a, ids, eH, T1, T2, cc, cl, hj, rfl, rfl, HS, jl, dD⟩ := hrel
         by_cases hlt : j < mG
         ·have hlt' : (j : Int) < (mG : Int) := by omega
          have hj0 : (0 : Int) ≤ (j : Int) := by omega
          have hwj : IntKind.i64.wrap ((j : Int) + 1) = ((j + 1 : Nat) : Int) := by rw [IntKind.wrap_i64]; omega
          obtain ⟨act, hact⟩ : ∃ act, FU[j]? = some act := ⟨_, List.getElem?_eq_getElem (by have := aaJ.out; omega)⟩
          obtain ⟨bg, bo, OW, hgl, m0, TS, TT⟩ := Ji Wi.out aaJ.out hact
          have hkp := fun (p : Addr) (v : Value) (hp : p.block < w.heap.size) (hh : w.cell? p = some v) => (World.cell?_of_block (HS.out.xK.block p.block hp)).trans hh
          have r0 := hkp _ _ hgl m0
          have r1 := hkp _ _ hgl TS
          have r2 := hkp _ _ hgl TT
          have HJ := qd (Nat.succ_le_of_lt hlt)
          have iT := qd (nR hlt)
          subst OW
          clear m0 TS TT hkp hact
          go_upto_region 31 with fail
          refine bW 35 #[.int .i64 act.kind, .int .i64 act.key, .int .i64 act.n] ?_
          rintro w5 ⟨tY, hb5⟩
          obtain ⟨bx, hbx⟩ : ∃ bx, bx = wr.heap.size := ⟨_, rfl⟩
          rw [← hbx] at tY ⊢
          have kP := qd tY
          obtain ⟨a0, a1, a2⟩ := tY.c3
          replace HS := qd (HS.out.below hb5)
          have bD := qd (C9 (some ⟨hg, ho, none⟩) n c l act (by omega) HL.out w5 (by
           obtain ⟨q1, q2⟩ := HR.out
           refine ⟨q1, fun hp => ?_⟩
           obtain ⟨g', off', z1, z2, z3⟩ := q2 hp
           have hzz := HS.out.xK.size
           exact ⟨g', off', z1, by omega, fun jj u hu => (World.cell?_of_block (HS.out.xK.block _ z2)).trans (z3 jj u hu)⟩))
          have MV := qd (MJ FV.out (by have := HL.out; omega) act)
          have MW := qd (show (qC l act).key < n from by
           have : C8 act.key l.length < l.length := Nat.mod_lt _ (by have := HL.out; omega)
           have := HL.out
           show C8 act.key l.length < n
           omega)
          obtain ⟨e, he⟩ : ∃ e, e = qC l act := ⟨_, rfl⟩
          rw [← he] at bD MV MW
          unfold DT aM at bD
          clear tY hb5 r0 r1 r2 hbx he
          go_wp2_with fail
          refine bD.out.mono ?_
          rintro y w6 ⟨rfl, hb6⟩
          replace HS := qd (HS.out.below hb6)
          replace kP := qB hb6 kP
          clear hb6 bD a0 a1 a2
          go_upto_region 32 with fail
          refine bW 38 #[nU e.key, nU e.val, nU e.hash] ?_
          rintro w7 ⟨xE, oI⟩
          obtain ⟨ex, hex⟩ : ∃ ex, ex = w6.heap.size := ⟨_, rfl⟩
          rw [← hex] at xE ⊢
          have XQ := qd (show ex ∉ G from fun hg => by have := (HS.out.rt.facts.1 _ hg).1; omega)
          replace HS := qd (HS.out.below oI)
          replace kP := qB oI kP
          have rA := qd xE
          have a0 := kP.out.cell 0
          simp only [List.getElem?_toArray, List.getElem?_cons_zero] at a0
          obtain ⟨e0, e1, e2⟩ := xE.c3
          have hke : (e.key : Int) < (n : Int) := by have := MW.out; omega
          have hk0' : (0 : Int) ≤ (e.key : Int) := by omega
          clear xE oI hex kP
          by_cases hk0 : act.kind = 0
          ·have MX := MF HS.out.rt e MV.out
           rcases BR E (o8 M a.ents e.key) with hv | ⟨AE, hv⟩
           all_goals
            rw [hv] at MX
            have p8 := qd MX
            clear MX hv
            go_wp2_with fail
            refine p8.out.mono ?_
            rintro y w8 ⟨rfl, a', aI, fC, hto, hpr⟩
            obtain ⟨G8, y7⟩ := HS.out.to hto
            have oL := qd y7
            have uG := qd (show T1.length = n ∧ T2.length = n ∧ (∀ e ∈ a'.ents, e.key < n) ∧ cc.ok from ⟨jl.out.1, jl.out.2.1, MK (n := n) jl.out.2.2.1 MW.out hpr.1, jl.out.2.2.2⟩)
            have Ua := qd (show (cl = true → cc.done = true) ∧ (cl = false → Seen (lY l) a'.ents cc T1 T2) from ⟨dD.out.1, fun h => (dD.out.2 h).put hpr.1⟩)
            clear hto y7 hpr p8
            go_wp2
            go_roundw
            all_goals first | exact ⟨⟨j + 1, _, _, _, _, T1, T2, cc, cl, HJ.out, rfl, rfl, oL, uG, Ua⟩, iT.out⟩ | exact ⟨j + 1, _, _, _, _, T1, T2, cc, cl, HJ.out, rfl, rfl, oL, uG, Ua⟩ | exact iT.out
          ·by_cases hk1 : act.kind = 1
           ·have p8 := qd (Jf HS.out.rt e MV.out)
            obtain ⟨x0, hx0⟩ : ∃ x0, T1[e.key]? = some x0 := ⟨_, List.getElem?_eq_getElem (by have := jl.out.1; have := MW.out; omega)⟩
            have HX0 := qd hx0
            clear hx0
            go_wp2_with fail
            refine p8.out.mono ?_
            rintro y w8 ⟨rfl, a', aI, fC, hto, hpr⟩
            obtain ⟨G8, y7⟩ := HS.out.to hto
            obtain ⟨_, _, _, Dz⟩ := hto
            have xH := rA.out.mod Dz XQ.out
            clear e0 e1 e2
            have e0 := xH.cell 0
            simp only [List.getElem?_toArray, List.getElem?_cons_zero] at e0
            have q1 := (y7.b1.cell e.key).trans (y5 HX0.out)
            have q2 := y7.b1.frozen e.key
            have oL := qd (y7.set1 e.key false)
            have uG := qd (show (T1.set e.key false).length = n ∧ T2.length = n ∧ (∀ x ∈ a'.ents, x.key < n) ∧ cc.ok from ⟨by rw [List.length_set]; exact jl.out.1, jl.out.2.1, fun x hx => jl.out.2.2.1 x (wF.1 (hpr.mem_iff.1 hx)).1, jl.out.2.2.2⟩)
            have Ua := qd (show (cl = true → cc.done = true) ∧ (cl = false → Seen (lY l) a'.ents cc (T1.set e.key false) T2) from ⟨dD.out.1, fun h => (dD.out.2 h).del hpr⟩)
            clear Dz y7 hpr p8 xH
            go_wp2
            go_roundw
            all_goals first | exact ⟨⟨j + 1, _, _, _, _, (T1.set e.key false), T2, cc, cl, HJ.out, rfl, rfl, oL, uG, Ua⟩, iT.out⟩ | exact ⟨j + 1, _, _, _, _, (T1.set e.key false), T2, cc, cl, HJ.out, rfl, rfl, oL, uG, Ua⟩ | exact iT.out
           ·by_cases hk3 : act.kind = 3
            ·have p8 := qd (WH HS.out.rt HKm.out.2.1.1 HKm.out.2.2.1.1)
             go_wp2_with fail
             refine p8.out.mono ?_
             rintro y w8 ⟨rfl, fC, hto⟩
             obtain ⟨G8, y7⟩ := HS.out.to (mP := [⟨1, cb, ⟨0, 0, true⟩⟩]) hto
             have oL := qd y7
             have uG := qd (show T1.length = n ∧ T2.length = n ∧ (∀ x ∈ jB.ents, x.key < n) ∧ (⟨0, 0, true⟩ : dW).ok from ⟨jl.out.1, jl.out.2.1, fun x hx => (by rw [zN] at hx; cases hx), by simp [dW.ok]⟩)
             clear y7 hto p8
             go_wp2
             go_roundw
             all_goals first | exact ⟨⟨j + 1, _, _, _, _, T1, T2, ⟨0, 0, true⟩, true, HJ.out, rfl, rfl, oL, uG, (qd ⟨fun _ => rfl, fun h => (by cases h)⟩)⟩, iT.out⟩ | exact ⟨j + 1, _, _, _, _, T1, T2, ⟨0, 0, true⟩, true, HJ.out, rfl, rfl, oL, uG, (qd ⟨fun _ => rfl, fun h => (by cases h)⟩)⟩ | exact iT.out
            ·by_cases hkn : act.kind = 5 ∨ act.kind = 4
             ·have hnx := Cr HS.out.rt X8.out (id := 1) (cb := cb) (c := cc) (by simp) jl.out.2.2.2
              unfold uf at hnx
              have iQ := qd hnx
              clear hnx e0 e1 e2
              rcases hkn with hkx | hkx
              all_goals
               go_wp2_with fail
               refine iQ.out.mono ?_
               rintro y w8 ⟨it, c', fC, rfl, hns, -, hto⟩
               obtain ⟨G8, y7⟩ := HS.out.to (mP := [⟨1, cb, c'⟩]) hto
               have hes := HS.out.rt.BS
               have heh := HS.out.rt.X5
               have hnd := HS.out.rt.facts.2.1
               have HF := qd (And.intro hes (And.intro heh hnd))
               have uG := qd (show T1.length = n ∧ T2.length = n ∧ (∀ x ∈ a.ents, x.key < n) ∧ c'.ok from ⟨jl.out.1, jl.out.2.1, jl.out.2.2.1, hns.ok jl.out.2.2.2 hes⟩)
               have Aj := qd hns
               have oL := qd y7
               clear hto hns hes heh hnd y7 iQ HS
               go_upto_region 44 with fail
               refine bW 48 #[nI it.st, nU it.key, nU it.val] ?_
               rintro w9 ⟨Jl, Bf⟩
               obtain ⟨bi, hbi⟩ : ∃ bi, bi = w8.heap.size := ⟨_, rfl⟩
               have tJ := qd (show bi ∉ G8 ∧ bi ≠ g2 from ⟨fun hg => by have := (oL.out.rt.facts.1 _ hg).1; omega, by have := oL.out.b2.lt; omega⟩)
               rw [← hbi] at Jl ⊢
               replace oL := qd (oL.out.below Bf)
               obtain ⟨x0, x1, x2⟩ := Jl.c3
               have yJ := qd Jl
               clear Jl Bf hbi
               cases cl with
               | true =>
                have hd := dD.out.1 rfl
                have aaL : it.st = 3 ∧ c'.done = true := by
                 rcases Aj.out.tells with ⟨_, h2, _⟩ | ⟨_, _, _, h4, h5⟩
                 ·rw [hd] at h2; cases h2
                 ·exact ⟨h5 hd, h4.1 (h5 hd)⟩
                have hs3 : (it.st : Int) = 3 := by omega
                have HDn := qd aaL.2
                clear aaL hd
                go_wp2
                go_roundw
                all_goals first | exact ⟨⟨j + 1, _, _, _, _, T1, T2, c', true, HJ.out, rfl, rfl, oL, uG, (qd ⟨fun _ => HDn.out, fun h => (by cases h)⟩)⟩, iT.out⟩ | exact ⟨j + 1, _, _, _, _, T1, T2, c', true, HJ.out, rfl, rfl, oL, uG, (qd ⟨fun _ => HDn.out, fun h => (by cases h)⟩)⟩ | exact iT.out
               | false =>
                by_cases hst : it.st = 1
                ·have hs1 : (it.st : Int) = 1 := by omega
                 have hkl : it.key < n := by
                  rcases Aj.out.tells with ⟨_, _, m, h1, h2, _⟩ | ⟨h1, _⟩
                  ·rw [h2]; exact jl.out.2.2.1 m h1
                  ·rcases h1 with h1 | h1 <;> omega
                 obtain ⟨q1, ⟨m, hm1, hm2, fE⟩, q3⟩ := (dD.out.2 rfl).tell Aj.out HF.out.2.1 HF.out.1 (fun k => qp FV.out k) hst (by rw [jl.out.2.1]; omega) (by rw [jl.out.2.1]; exact hkl)
                 have s1 := (oL.out.b2.cell it.key).trans (y5 q1)
                 have s2 := oL.out.b2.frozen it.key
                 have hlk : look a.ents it.key = some m := by rw [← hm2]; exact jN HF.out.2.2 hm1
                 have nZ := qd (And.intro hlk (And.intro fE hkl))
                 have Cb := qd q3
                 have hki : (it.key : Int) < (n : Int) := by omega
                 have abW : ¬ ((n : Int) ≤ (it.key : Int)) := by omega
                 have abX : (0 : Int) ≤ (it.key : Int) := by omega
                 have hwn : IntKind.u64.wrap (n : Int) = (n : Int) := by rw [IntKind.wrap_u64]; omega
                 clear q1 hm1 hm2 fE q3 hlk
                 go_upto_region 50 with fail
                 refine cO (F := fun v => ni w E (lY l) K M I b yb g1 g2 #[.slice B ma d, .slice (some ⟨bg, bo, none⟩) mG d2] v G8 a ids [⟨1, cb, c'⟩] 1 fC T1 (T2.set it.key true) ∧ aj v bi 48 #[nI it.st, nU it.key, nU it.val]) ⟨oL.out.set2 it.key true, yJ.out.far tJ.out.2 _⟩ ?_
                 clear s1 s2 x0 x1 x2 yJ
                 rintro Oj ⟨QU, kW⟩
                 obtain ⟨x0, x1, x2⟩ := kW.c3
                 have hc : Oj.cell? ⟨hg, ho + it.key, none⟩ = some (.int .u64 (lY l it.key : Int)) := (World.cell?_of_block (QU.xK.block _ Dj.out.1)).trans (Dj.out.2 it.key nZ.out.2.2)
                 have hdr := (Below.refl Oj.heap.size Oj).drew
                 have hgt := TM (QU.rt.below hdr) it.key (qp FV.out it.key)
                 unfold BO at hgt
                 rw [nZ.out.1] at hgt
                 simp only [Option.getD_some, Option.isSome_some] at hgt
                 rw [nZ.out.2.1] at hgt
                 have NT := qd hgt
                 have QV := qd (QU.below hdr)
                 have abY := qd (kW.mod (Mod.of_below hdr []) (by simp))
                 clear hgt QU kW hdr oL
                 go_upto_region 50 with fail
                 refine rT (fun (w' : World) => w'.cell? ⟨bi, 1, none⟩ = some (nU it.key) ∧ w'.cell? ⟨hg, ho + it.key, none⟩ = some (.int .u64 (lY l it.key : Int))) [8] ?_
                 have hHeld := (⟨x1, hc⟩ : _ ∧ _)
                 refine vW 0 rfl ?_
                 refine vW 1 rfl ?_
                 refine vT 2 rfl ?_
                 refine vW 3 rfl ?_
                 refine vW 4 rfl ?_
                 refine nT 5 rfl fun K hK => ?_
                 go_simp
                 refine kO hK ?_
                 clear hK K
                 refine vW 6 rfl ?_
                 refine vT 7 rfl ?_
                 refine nT 8 rfl fun K hK => ?_
                 go_simp
                 refine NT.out.mono ?_
                 rintro y w11 ⟨rfl, adS, aaM⟩
                 refine kO hK ?_
                 clear hK K
                 refine vL 9 rfl ?_
                 refine vL 10 rfl ?_
                 refine vL 11 rfl ?_
                 refine vL 12 rfl ?_
                 refine vL 13 rfl ?_
                 refine aT (by kernel_rfl) ?_ _
                 obtain ⟨G11, aaN⟩ := QV.out.to aaM
                 obtain ⟨_, _, _, aaO⟩ := aaM
                 have aaP := abY.out.mod aaO tJ.out.1
                 have z := aaP.c3
                 have aaQ := qd aaN
                 have aaR := qd (show T1.length = n ∧ (T2.set it.key true).length = n ∧ (∀ x ∈ a.ents, x.key < n) ∧ c'.ok from ⟨uG.out.1, by rw [List.length_set]; exact uG.out.2.1, uG.out.2.2⟩)
                 clear aaO aaP aaN x0 x1 x2 hc
                 go_wp2
                 go_roundw
                 all_goals first | exact ⟨⟨j + 1, _, _, _, _, T1, (T2.set it.key true), c', false, HJ.out, rfl, rfl, aaQ, aaR, (qd ⟨fun h => (by cases h), fun _ => Cb.out⟩)⟩, iT.out⟩ | exact ⟨j + 1, _, _, _, _, T1, (T2.set it.key true), c', false, HJ.out, rfl, rfl, aaQ, aaR, (qd ⟨fun h => (by cases h), fun _ => Cb.out⟩)⟩ | exact iT.out
                ·have hs1 : ¬ (it.st : Int) = 1 := by omega
                 have Cb := qd ((dD.out.2 rfl).idle Aj.out HF.out.2.1 HF.out.1 (fun k => qp FV.out k) hst (by rw [jl.out.2.1]; omega))
                 go_wp2
                 go_roundw
                 all_goals first | exact ⟨⟨j + 1, _, _, _, _, T1, T2, c', false, HJ.out, rfl, rfl, oL, uG, (qd ⟨fun h => (by cases h), fun _ => Cb.out⟩)⟩, iT.out⟩ | exact ⟨j + 1, _, _, _, _, T1, T2, c', false, HJ.out, rfl, rfl, oL, uG, (qd ⟨fun h => (by cases h), fun _ => Cb.out⟩)⟩ | exact iT.out
             ·have hk5 : ¬ act.kind = 5 := by omega
              have hk4 : ¬ act.kind = 4 := by omega
              go_wp2
              go_roundw
              all_goals first | exact ⟨⟨j + 1, _, _, _, _, T1, T2, cc, cl, HJ.out, rfl, rfl, HS, jl, dD⟩, iT.out⟩ | exact ⟨j + 1, _, _, _, _, T1, T2, cc, cl, HJ.out, rfl, rfl, HS, jl, dD⟩ | exact iT.out
         ·obtain rfl : mG = j := by omega
          have hlt' : ¬ (mG : Int) < (mG : Int) := by omega
          cases cl with
          | true =>
           go_wp2
           go_ret
           exact ⟨rfl, HS.out.xK⟩
          | false =>
           have II := qd (dD.out.2 rfl)
           obtain ⟨N1, hN1⟩ : ∃ N1, N1 = a.ents.length + a.Ns.length := ⟨_, rfl⟩
           have HN1 := qd hN1
           have abf : N1 ≤ 224 := by
            obtain ⟨_, _, h3, h4, h5, _⟩ := HS.out.rt.facts
            omega
           have y8 := qd (And.intro jl.out.2.1 jl.out.2.2.2)
           have HKy := qd jl.out.2.2.1
           have qK := qd (show 0 + BU a.ents (mO a) cc ≤ N1 by have := aaH a.ents (mO a) cc; rw [hN1]; simp [mO] at this ⊢; omega)
           have qN := qd (aay HS.out.rt)
           have LD := qd (Wp HS.out.rt)
           have HPn := qd (fun wz => (by rw [HN1.out]; exact PO a.ents.length a.Ns.length (by obtain ⟨_, _, h3, h4, h5, _⟩ := HS.out.rt.facts; omega) wz : Calls Tryz.prog 14 #[nI a.ents.length, nI a.Ns.length] wz fun e w' => e = .returned (.int .i64 ((N1 + 1 : Nat) : Int)) ∧ wz = w'))
           have acK := qd abf
           clear hN1 dD
           go_wp2_with fail
           refine qN.out.mono ?_
           rintro y w5 ⟨rfl, rfl⟩
           go_wp2_with fail
           refine LD.out.mono ?_
           rintro y w5 ⟨rfl, rfl⟩
           go_wp2_with fail
           refine (HPn.out _).mono ?_
           rintro y w5 ⟨rfl, rfl⟩
           clear qN LD HPn
           go_wp2
           go_loopw [26, 27, 28] (fun v26 _ _ wr => ∃ (t : Nat) (G : List Nat) (eH : bC) (T2 : List Bool) (cc : dW), v26 = nI t ∧ Hid (ni w E (lY l) K M I b yb g1 g2 #[.slice B ma d, .slice B2 mG d2] wr G a ids [⟨1, cb, cc⟩] 1 eH T1 T2) ∧ Hid (T2.length = n ∧ cc.ok) ∧ Hid (Seen (lY l) a.ents cc T1 T2) ∧ Hid (t + BU a.ents (mO a) cc ≤ N1)) (fun v26 _ _ _ => N1 + 1 - (intOf v26).toNat)
           case atStart => exact ⟨0, _, _, _, _, rfl, HS, y8, II, qK⟩
           case round =>
            clear HS y8 II qK
            obtain ⟨t, G, eH, T2, cc, rfl, HS, y8, II, qK⟩ := hrel
            have htN : t ≤ N1 := by have := qK.out; omega
            have hwt : IntKind.i64.wrap ((t : Int) + 1) = ((t + 1 : Nat) : Int) := by rw [IntKind.wrap_i64]; omega
            have htb : ¬ ((N1 : Int) + 1 < (t : Int)) := by omega
            have adT : ¬ (((N1 + 1 : Nat) : Int) < (t : Int)) := by omega
            have hnx := Cr HS.out.rt X8.out (id := 1) (cb := cb) (c := cc) (by simp) y8.out.2
            unfold uf at hnx
            have iQ := qd hnx
            clear hnx
            go_wp2_with fail
            refine iQ.out.mono ?_
            rintro y w8 ⟨it, c', fC, rfl, hns, -, hto⟩
            obtain ⟨G9, hS9⟩ := HS.out.to (mP := [⟨1, cb, c'⟩]) hto
            have hes := HS.out.rt.BS
            have heh := HS.out.rt.X5
            have HF := qd (And.intro hes heh)
            have Aj := qd hns
            have Bd := qd (hns.ok y8.out.2 hes)
            have uH := qd hS9
            clear hto hns hes heh hS9 iQ HS
            go_upto_region 60 with fail
            refine bW 48 #[nI it.st, nU it.key, nU it.val] ?_
            rintro w9 ⟨Jl, Bf⟩
            obtain ⟨bi, hbi⟩ : ∃ bi, bi = w8.heap.size := ⟨_, rfl⟩
            rw [← hbi] at Jl ⊢
            replace uH := qd (uH.out.below Bf)
            obtain ⟨x0, x1, x2⟩ := Jl.c3
            clear Jl Bf hbi
            by_cases hs3 : it.st = 3
            ·have abZ : (it.st : Int) = 3 := by omega
             have hd : c'.done = true := by
              rcases Aj.out.tells with ⟨h2, _⟩ | ⟨_, _, _, h4, _⟩
              ·omega
              ·exact h4.1 hs3
             have HQ9 := qd (II.out.idle Aj.out HF.out.2 HF.out.1 (fun k => qp FV.out k) (by omega) (by rw [y8.out.1]; omega))
             have HDn := qd hd
             clear hd hs3
             have HT2 := qd (show T1.length = n ∧ T2.length = n from ⟨jl.out.1, y8.out.1⟩)
             have CR := qd (HQ9.out.fin HDn.out)
             clear y8 HQ9 HDn
             go_wp2
             go_loopw [29, 30, 263] (fun _ _ WK wr => ∃ (q : Nat), q ≤ n ∧ WK = nI q ∧ Hid (ni w E (lY l) K M I b yb g1 g2 #[.slice B ma d, .slice B2 mG d2] wr G9 a ids [⟨1, cb, c'⟩] 1 fC T1 T2)) (fun _ _ WK _ => n - (intOf WK).toNat)
             case atStart => exact ⟨0, by omega, rfl, uH⟩
             case round =>
              clear uH
              obtain ⟨q, hq, rfl, uH⟩ := hrel
              by_cases hlq : q < n
              ·have ab0 : (q : Int) < (n : Int) := by omega
               have hq0 : (0 : Int) ≤ (q : Int) := by omega
               have hwq : IntKind.i64.wrap ((q : Int) + 1) = ((q + 1 : Nat) : Int) := by rw [IntKind.wrap_i64]; omega
               have HJ := qd (Nat.succ_le_of_lt hlq)
               have iT := qd (nR hlq)
               obtain ⟨x1, hx1⟩ : ∃ x1, T1[q]? = some x1 := ⟨_, List.getElem?_eq_getElem (by have := HT2.out.1; omega)⟩
               have u1 := (uH.out.b1.cell q).trans (y5 hx1)
               cases x1
               case' true =>
                have u2 := (uH.out.b2.cell q).trans (y5 (CR.out q hx1))
               case' false =>
                skip
               all_goals
                clear hx1
                go_wp2
                go_roundw
                all_goals first | exact ⟨⟨q + 1, HJ.out, rfl, uH⟩, iT.out⟩ | exact ⟨q + 1, HJ.out, rfl, uH⟩ | exact iT.out
              ·obtain rfl : n = q := by omega
               have ab0 : ¬ (n : Int) < (n : Int) := by omega
               have wT := qd (WG uH.out.rt (j := 0) (id := 1) (cb := cb) (c := c') rfl)
               go_wp2_with fail
               refine wT.out.mono ?_
               rintro y w20 ⟨rfl, hto⟩
               obtain ⟨G20, WL⟩ := uH.out.to (mP := []) hto
               have BP := qd (JW (id := 1) WL.rt (by simp) X8.out)
               have ab1 := qd WL
               clear hto WL wT
               go_wp2_with fail
               refine BP.out.mono ?_
               rintro y w21 ⟨rfl, aaS⟩
               have hbel := iZ ab1.out.xK aaS
               have HNm := qd (YZ (KR.out.below hbel (Nat.le_refl _)) 6 (by omega) (by omega))
               have sW := qd hbel
               clear aaS hbel BP
               go_wp2_with fail
               refine HNm.out.mono ?_
               rintro y w22 ⟨rfl, aaT⟩
               have HF := qd (iZ sW.out aaT)
               clear aaT HNm
               go_wp2
               go_ret
               exact ⟨rfl, HF.out⟩
            ·have abZ : ¬ (it.st : Int) = 3 := by omega
             have hpt : t + 1 + BU a.ents (mO a) c' ≤ N1 := by
              have h1 := Aj.out.BU HF.out.1 hs3
              have h2 := qK.out
              omega
             have yK := qd hpt
             have iT := qd (nR (show t < N1 + 1 by omega))
             by_cases hst : it.st = 1
             ·have hs1 : (it.st : Int) = 1 := by omega
              have hkl : it.key < n := by
               rcases Aj.out.tells with ⟨_, _, m, h1, h2, _⟩ | ⟨h1, _⟩
               ·rw [h2]; exact HKy.out m h1
               ·rcases h1 with h1 | h1 <;> omega
              obtain ⟨q1, -, q3⟩ := II.out.tell Aj.out HF.out.2 HF.out.1 (fun k => qp FV.out k) hst (by rw [y8.out.1]; omega) (by rw [y8.out.1]; exact hkl)
              have s1 := (uH.out.b2.cell it.key).trans (y5 q1)
              have s2 := uH.out.b2.frozen it.key
              have Cb := qd q3
              have hki : (it.key : Int) < (n : Int) := by omega
              have abW : ¬ ((n : Int) ≤ (it.key : Int)) := by omega
              have abX : (0 : Int) ≤ (it.key : Int) := by omega
              have hwn : IntKind.u64.wrap (n : Int) = (n : Int) := by rw [IntKind.wrap_u64]; omega
              have QV := qd (uH.out.set2 it.key true)
              have M4 := qd (show (T2.set it.key true).length = n ∧ c'.ok from ⟨by rw [List.length_set]; exact y8.out.1, Bd.out⟩)
              clear q1 q3 hpt hs3
              go_wp2
              go_roundw
              all_goals first | exact ⟨⟨t + 1, _, _, _, _, rfl, QV, M4, Cb, yK⟩, iT.out⟩ | exact ⟨t + 1, _, _, _, _, rfl, QV, M4, Cb, yK⟩ | exact iT.out
             ·have hs1 : ¬ (it.st : Int) = 1 := by omega
              have Cb := qd (II.out.idle Aj.out HF.out.2 HF.out.1 (fun k => qp FV.out k) hst (by rw [y8.out.1]; omega))
              have M4 := qd (show T2.length = n ∧ c'.ok from ⟨y8.out.1, Bd.out⟩)
              clear hpt hs3
              go_wp2
              go_roundw
              all_goals first | exact ⟨⟨t + 1, _, _, _, _, rfl, uH, M4, Cb, yK⟩, iT.out⟩ | exact ⟨t + 1, _, _, _, _, rfl, uH, M4, Cb, yK⟩ | exact iT.out
end Go.Proofs.YtbphcldoflekpaaGreatDoor
