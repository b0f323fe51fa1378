/- amblerlaw21.CoreTwins: its walk: whatever the two numbers, the hashes and the acts, true. -/
import Derived.Test.YtcgjgfgkdoohlaaGreatDoorLaw21e
import Derived.Test.YtcgjgfgkdoohlaaGreatDoorSqT
import Derived.Test.YtcgjgfgkdoohlaaGreatDoorLaneP
import Derived.Test.YtcgjgfgkdoohlaaGreatDoorLaw21f
import Derived.Test.YtcgjgfgkdoohlaaGreatDoorLaw21a
import Derived.Test.YtcgjgfgkdoohlaaGreatDoorCoCV
namespace Go.Proofs.YtcgjgfgkdoohlaaGreatDoor
set_option maxRecDepth 100000
set_option maxHeartbeats 2000000
open Go.RowKit AmC
structure Twin (W0 : World) (E : Nat → Addr) (Hh : Nat → Nat) (Ka Kb m1 m2 : Nat) (G1 G2 : List Nat) (w : World) (a b : Pool) (ids ids2 : List Nat) : Prop where
 one : CoreAt W0 E Hh Ka 192 m1 G1 w a ids
 two : CoreAt W0 E Hh Kb 192 m2 G2 w b ids2
 same : a.ents.Perm b.ents
 apart : ∀ q ∈ G1, q ∉ G2
 small : ∀ e ∈ a.ents, e.key < 1000
section
variable {W0 : World} {E : Nat → Addr} {Hh : Nat → Nat} {Ka Kb m1 m2 : Nat} {G1 G2 : List Nat} {w w' w1 w2 w3 : World} {a b : Pool} {ids ids2 : List Nat}
theorem Twin.below (h : Twin W0 E Hh Ka Kb m1 m2 G1 G2 w a b ids ids2) (hb : Below w.heap.size w w') : Twin W0 E Hh Ka Kb m1 m2 G1 G2 w' a b ids ids2 := ⟨h.one.below hb, h.two.below hb, h.same, h.apart, h.small⟩
theorem Twin.nd (h : Twin W0 E Hh Ka Kb m1 m2 G1 G2 w a b ids ids2) : (a.ents.map Ent.key).Nodup := h.one.facts.2.2.2.2.2.2.2.2.2.1
theorem Twin.first (h : Twin W0 E Hh Ka Kb m1 m2 G1 G2 w a b ids ids2) (hm : Mod G1 w w1) : CoreAt W0 E Hh Kb 192 m2 G2 w1 b ids2 := h.two.mod hm (fun q hq => ⟨h.apart q hq, (h.one.facts.2.2.2.2.2.2.2.2.2.2.1 q hq).2⟩)
theorem coreTo_next {K M mb : Nat} {G : List Nat} {a' : Pool} {ids' : List Nat} (h : CoreTo W0 E Hh K M mb G w w1 a' ids') (hb : Below w1.heap.size w1 w2) : CoreTo W0 E Hh K M mb G w w2 a' ids' := by
 obtain ⟨G', c1, c2, c3⟩ := h
 exact ⟨G', c1.below hb, c2, c3.then (Mod.of_below hb G)⟩
theorem Twin.both (h : Twin W0 E Hh Ka Kb m1 m2 G1 G2 w a b ids ids2) (hb : Below W0.heap.size W0 w) {a' b' : Pool} {ids' ids2' : List Nat} (h1 : CoreTo W0 E Hh Ka 192 m1 G1 w w1 a' ids') (h2 : CoreTo W0 E Hh Kb 192 m2 G2 w1 w2 b' ids2') (hp : a'.ents.Perm b'.ents) (hs : ∀ e ∈ a'.ents, e.key < 1000) :
  ∃ G1' G2', Twin W0 E Hh Ka Kb m1 m2 G1' G2' w2 a' b' ids' ids2' ∧ Below W0.heap.size W0 w2 ∧ Mod (G1 ++ G2) w w2 := by
 obtain ⟨G1', c1, c2, c3⟩ := h1
 obtain ⟨G2', d1, d2, d3⟩ := h2
 have f1 := h.one.facts.2.2.2.2.2.2.2.2.2.2.1
 have f2 := h.two.facts.2.2.2.2.2.2.2.2.2.2.1
 have hz := c3.size
 have hc := c1.facts.2.2.2.2.2.2.2.2.2.2.1
 have hap : ∀ q ∈ G1', q ∉ G2 := fun q hq hg => by
  rcases c2 q hq with k | k
  ·exact h.apart q k hg
  ·have := (f2 q hg).1; omega
 have hM : Mod (G1 ++ G2) w w2 := c3.trans d3 (fun k hk _ => by simp [hk]) (fun k hk _ => by simp [hk])
 refine ⟨G1', G2', ⟨c1.mod d3 (fun q hq => ⟨fun hg => hap q hg hq, (f2 q hq).2⟩), d1, hp, fun q hq hg => ?_, hs⟩, hb.trans (hM.below (fun q hq => ?_) hb.size), hM⟩
 ·rcases d2 q hg with k | k
  ·exact hap q hq k
  ·have := (hc q hq).1; omega
 ·rcases List.mem_append.1 hq with k | k
  ·exact (f1 q k).2
  ·exact (f2 q k).2
theorem small_put {M : Nat} {es l : List Ent} {e : Ent} (h : ∀ x ∈ es, x.key < 1000) (he : e.key < 1000) (hp : l.Perm (putL M es e)) : ∀ x ∈ l, x.key < 1000 := fun x hx => by
 have h1 := hp.mem_iff.1 hx
 unfold putL at h1
 split at h1
 ·exact h x h1
 ·rcases List.mem_append.1 h1 with h2 | h2
  ·exact h x (mem_rest.1 h2).1
  ·rw [List.mem_singleton.1 h2]; exact he
theorem small_rest {es l : List Ent} {key : Nat} (h : ∀ x ∈ es, x.key < 1000) (hp : l.Perm (rest es key)) : ∀ x ∈ l, x.key < 1000 := fun x hx => h x (mem_rest.1 (hp.mem_iff.1 hx)).1
end
theorem k_of (k : Int) : ∃ q : Nat, q < 64 ∧ (IntKind.u64.wrap k).tmod 64 = (q : Int) ∧ IntKind.i64.wrap (q : Int) = (q : Int) ∧ IntKind.i64.wrap (1 + (q : Int)) = ((q + 1 : Nat) : Int) ∧ wrap64 (q : Int) = (q : Int) ∧ wrap64 (1 + (q : Int)) = ((q + 1 : Nat) : Int) := by
 have hw : IntKind.u64.wrap k = k % 18446744073709551616 := by first | rfl | (simp [IntKind.wrap])
 refine ⟨(k % 18446744073709551616).toNat % 64, Nat.mod_lt _ (by omega), ?_, ?_, ?_, ?_, ?_⟩
 ·rw [hw, Int.tmod_eq_emod_of_nonneg (by omega), Int.natCast_emod, Int.toNat_of_nonneg (by omega)]; rfl
 ·rw [IntKind.wrap_i64]; omega
 ·rw [IntKind.wrap_i64]; omega
 ·unfold wrap64; omega
 ·unfold wrap64; omega
theorem law_twins {E : Nat → Addr} (k0 k1 : Int) (A : Option Addr) (n c : Nat) (l : List Nat) (B : Option Addr) (ma d : Nat) (acts : List LAct) (w : World) (hE : Env w E w) (hErr : ErrsIn E w) (hl : l.length = n) (hll : ∀ x ∈ l, x < 18446744073709551616) (hR : Reads w w.heap.size 1 A n (numsV l)) (hla : acts.length = ma) (hRa : Reads w w.heap.size 3 B ma (acts.flatMap LAct.cells)) : Calls Tryz.prog 6 #[.agg #[.int .i64 k0, .int .i64 k1], .slice A n c, .slice B ma d] w fun e w' => e = .returned (.bool true) ∧ Below w.heap.size w w' := by
 have HE := qd hE
 have HErr := qd hErr
 have HR := qd hR
 have HRa := qd hRa
 have HL := qd hl
 have HLl := qd hll
 have HLa := qd hla
 have hB0 := Blk.new w 60 #[.int .i64 k0, .int .i64 k1]
 have hb0 := (Below.refl w.heap.size w).alloc (Nat.le_refl _) (.cells #[.int .i64 k0, .int .i64 k1] 60)
 clear hE hErr hR hRa hl hll hla
 go_in
 go_upto_region 1 with fail
 refine nameW (F := fun v => Blk v w.heap.size 60 #[.int .i64 k0, .int .i64 k1] ∧ Below w.heap.size w v) ⟨hB0, hb0⟩ ?_
 clear hB0 hb0
 rintro w1 ⟨hB1, hb1⟩
 have HBx := qd hB1
 have HB1 := qd hb1
 have HE1 := qd (HE.out.next hb1)
 have HAl := qd (law_alive HE1.out)
 clear hB1 hb1
 go_wp2_with fail
 refine HAl.out.mono ?_
 rintro y w2 ⟨rfl, hb2⟩
 replace HBx := qB hb2 HBx
 replace HB1 := qd (below2 HB1.out hb2)
 replace HE1 := qd (HE1.out.next hb2)
 clear hb2 HAl
 have HLg := qd (law_Long A B n c ma d w2)
 go_wp2_with fail
 refine HLg.out.mono ?_
 rintro y w3 ⟨rfl, rfl⟩
 clear HLg
 by_cases hlong : n < 1 ∨ 220 < n ∨ 700 < ma
 ·have hlg : (decide (n < 1) || (decide (220 < n) || decide (700 < ma))) = true := by simp; omega
  rw [hlg]
  clear hlg
  go_wp2
  go_ret
  exact ⟨rfl, HB1.out⟩
 ·have hlg : (decide (n < 1) || (decide (220 < n) || decide (700 < ma))) = false := by simp; omega
  rw [hlg]
  clear hlg
  obtain ⟨qa, ha1, ha2, ha3, ha4, ha5, ha6⟩ := k_of k0
  obtain ⟨qb, hb1, hb2, hb3, hb4, hb5, hb6⟩ := k_of k1
  have c0 := HBx.out.cell 0
  simp only [List.getElem?_toArray, List.getElem?_cons_zero] at c0
  have hnb := core_New (lawH l) HE1.out ((qa + 1 : Nat) : Int) 192 1 (by simp [cfgOk, inB]; omega) (qa + 1) 192 1 ⟨by omega, by omega, rfl, rfl, rfl⟩
  unfold cfgV at hnb
  have HNw := qd hnb
  clear hnb
  have HHb := qd (And.intro hb1 (And.intro hb2 (And.intro hb3 (And.intro hb4 (And.intro hb5 hb6)))))
  clear hb1 hb2 hb3 hb4 hb5 hb6
  obtain ⟨Ka, hKa⟩ : ∃ Ka, Ka = qa + 1 := ⟨_, rfl⟩
  rw [← hKa] at HNw ha4 ha6
  clear hKa
  go_wp2_with fail
  refine HNw.out.mono ?_
  rintro y w4 ⟨m1, rfl, hnew⟩
  obtain ⟨Ga, hA1, hsa, hm1⟩ := new_at hnew
  have HA1 := qd hA1
  have hb4 := hm1.to_below
  replace HBx := qB hb4 HBx
  replace HB1 := qd (below2 HB1.out hb4)
  replace HE1 := qd (HE1.out.next hb4)
  clear hnew hA1 hsa hm1 hb4 HNw c0 ha1 ha2 ha3 ha4 ha5 ha6
  obtain ⟨hb1, hb2, hb3, hb4, hb5, hb6⟩ := HHb.out
  have c1 := HBx.out.cell 1
  simp only [gl] at c1
  have hnb := core_New (lawH l) HE1.out ((qb + 1 : Nat) : Int) 192 1 (by simp [cfgOk, inB]; omega) (qb + 1) 192 1 ⟨by omega, by omega, rfl, rfl, rfl⟩
  unfold cfgV at hnb
  have HNw := qd hnb
  clear hnb
  obtain ⟨Kb, hKb⟩ : ∃ Kb, Kb = qb + 1 := ⟨_, rfl⟩
  rw [← hKb] at HNw hb4 hb6
  clear hKb HHb
  unfold coreP
  go_wp2_with fail
  refine HNw.out.mono ?_
  rintro y w5 ⟨m2, rfl, hnew⟩
  obtain ⟨Gb, hA2, hsb, hm2⟩ := new_at hnew
  have hb7 := hm2.to_below
  have HD := qd (show Twin w E (lawH l) Ka Kb m1 m2 Ga Gb w5 pool0 pool0 [] [] from ⟨HA1.out.below hb7, hA2, .refl _, fun q hq hg => by
   rcases hsb q hg with k | k
   ·cases k
   ·have := (HA1.out.facts.2.2.2.2.2.2.2.2.2.2.1 q hq).1; omega, fun e he => by rw [ents0] at he; cases he⟩)
  have HB6 := qd (below2 HB1.out hb7)
  clear hnew hA2 hsb hm2 hb7 HNw c1 hb1 hb2 hb3 hb4 hb5 hb6 HA1 HB1 HE1 HBx
  unfold coreP
  go_wp2
  go_loopw [12, 13, 14, 15, 16, 17, 65] (fun _ _ _ _ _ _ v65 wr => ∃ (j : Nat) (G1 G2 : List Nat) (a b : Pool) (ids ids2 : List Nat), j ≤ ma ∧ v65 = .int .i64 (j : Int) ∧ Hid (Twin w E (lawH l) Ka Kb m1 m2 G1 G2 wr a b ids ids2) ∧ Hid (Below w.heap.size w wr)) (fun _ _ _ _ _ _ v65 _ => ma - (intOf v65).toNat)
  case atStart => exact ⟨0, _, _, _, _, _, _, by omega, rfl, HD, HB6⟩
  case round =>
   clear HD HB6
   obtain ⟨j, G1, G2, a, b, ids, ids2, hj, rfl, HD, HB⟩ := hrel
   have hma : ma ≤ 700 := by omega
   by_cases hlt : j < ma
   ·have hlt' : (j : Int) < (ma : Int) := by omega
    have hj0 : (0 : Int) ≤ (j : Int) := by omega
    obtain ⟨act, hact⟩ : ∃ act, acts[j]? = some act := ⟨_, List.getElem?_eq_getElem (by have := HLa.out; omega)⟩
    obtain ⟨g, off, hBv, hgl, m0, mm1, mm2⟩ := act_cells HRa.out HLa.out hact
    have hkp := fun (p : Addr) (v : Value) (hp : p.block < w.heap.size) (hh : w.cell? p = some v) => (World.cell?_of_block (HB.out.block p.block hp)).trans hh
    have r0 := hkp _ _ hgl m0
    have r1 := hkp _ _ hgl mm1
    have r2 := hkp _ _ hgl mm2
    have HBv := qd hBv
    have HJ := qd (Nat.succ_le_of_lt hlt)
    have HMe := qd (fewer_rounds hlt)
    subst hBv
    clear m0 mm1 mm2 hkp hact
    go_upto_region 12 with fail
    refine nameB 34 #[.int .i64 act.kind, .int .i64 act.key, .int .i64 act.n] ?_
    rintro w5 ⟨hB5, hb5⟩
    obtain ⟨bx, hbx⟩ : ∃ bx, bx = wr.heap.size := ⟨_, rfl⟩
    rw [← hbx] at hB5 ⊢
    have HB5 := qd hB5
    obtain ⟨a0, a1, a2⟩ := hB5.c3
    replace HD := qd (HD.out.below hb5)
    replace HB := qd (below2 HB.out hb5)
    have HEn := qd (law_Entry A n c l act (by omega) HL.out w5 (by
     obtain ⟨q1, q2⟩ := HR.out
     refine ⟨q1, fun hp => ?_⟩
     obtain ⟨g', off', z1, z2, z3⟩ := q2 hp
     have hzz := HB.out.size
     exact ⟨g', off', z1, by omega, fun jj u hu => (World.cell?_of_block (HB.out.block _ z2)).trans (z3 jj u hu)⟩))
    have HE5 := qd (entOf_ok HLl.out (by have := HL.out; omega) act)
    have HKs := qd (show (entOf l act).key < 1000 from by
     have : iOf act.key l.length < l.length := Nat.mod_lt _ (by have := HL.out; omega)
     have := HL.out
     show iOf act.key l.length < 1000
     omega)
    obtain ⟨e, he⟩ : ∃ e, e = entOf l act := ⟨_, rfl⟩
    rw [← he] at HEn HE5 HKs
    unfold actV at HEn
    unfold entV at HEn
    clear hB5 hb5 r0 r1 r2 hbx he
    go_wp2_with fail
    refine HEn.out.mono ?_
    rintro y w6 ⟨rfl, hb6⟩
    replace HD := qd (HD.out.below hb6)
    replace HB := qd (below2 HB.out hb6)
    replace HB5 := qB hb6 HB5
    clear hb6 HEn a0 a1 a2
    have hB7 := Blk.new w6 37 #[.int .u64 (e.key : Int), .int .u64 (e.val : Int), .int .u64 (e.hash : Int)]
    have hb7 := (Below.refl w6.heap.size w6).alloc (Nat.le_refl _) (.cells #[.int .u64 (e.key : Int), .int .u64 (e.val : Int), .int .u64 (e.hash : Int)] 37)
    go_upto_region 13 with fail
    refine nameW (F := fun v => Blk v w6.heap.size 37 #[.int .u64 (e.key : Int), .int .u64 (e.val : Int), .int .u64 (e.hash : Int)] ∧ Below w6.heap.size w6 v) ⟨hB7, hb7⟩ ?_
    clear hB7 hb7
    rintro w7 ⟨hB7, hb7⟩
    have HNe := qd (show w6.heap.size ∉ G1 ∧ w6.heap.size ∉ G2 ∧ True from ⟨fun hq => by have := (HD.out.one.facts.2.2.2.2.2.2.2.2.2.2.1 _ hq).1; omega, fun hq => by have := (HD.out.two.facts.2.2.2.2.2.2.2.2.2.2.1 _ hq).1; omega, trivial⟩)
    obtain ⟨ex, hex⟩ : ∃ ex, ex = w6.heap.size := ⟨_, rfl⟩
    rw [← hex] at hB7 HNe ⊢
    replace HD := qd (HD.out.below hb7)
    replace HB := qd (below2 HB.out hb7)
    replace HB5 := qB hb7 HB5
    have HX := qd hB7
    have a0 := HB5.out.cell 0
    simp only [List.getElem?_toArray, List.getElem?_cons_zero] at a0
    obtain ⟨e0, e1, e2⟩ := HX.out.c3
    clear hB7 hb7 hex HB5
    by_cases hk1 : act.kind = 1
    ·have h64 := HE5.out.h64
     have hcl := at_del HD.out.one e.key (by rw [← HE5.out.hash]; exact h64)
     rw [← HE5.out.hash] at hcl
     obtain ⟨u, bb, hub⟩ : ∃ u bb, getV a.ents e.key = .tuple #[.int .u64 u, .bool bb] := ⟨_, _, rfl⟩
     rw [hub] at hcl
     unfold coreP at hcl
     have HCl := qd hcl
     have HU := qd hub
     clear hcl hub h64
     go_wp2_with fail
     refine HCl.out.mono ?_
     rintro y w8 ⟨rfl, a', ids', hto, hpp⟩
     have HT1 := qd hto
     have HP1 := qd hpp
     obtain ⟨G', c1, c2, c3⟩ := hto
     have HC2 := qd (HD.out.first c3)
     replace HX := qd (HX.out.mod c3 HNe.out.1)
     clear hpp c1 c2 c3 e0 e1 e2 HCl a0
     obtain ⟨e0, e1, e2⟩ := HX.out.c3
     have hcl := at_del HC2.out e.key (by rw [← HE5.out.hash]; exact HE5.out.h64)
     rw [← HE5.out.hash, ← getV_perm HD.out.same HD.out.nd e.key, HU.out] at hcl
     unfold coreP at hcl
     have HCl := qd hcl
     clear hcl
     go_wp2_with fail
     refine HCl.out.mono ?_
     rintro y w9 ⟨rfl, b', ids2', hto, hpp⟩
     have HT2 := qd hto
     have HPp := qd (HP1.out.trans ((rest_perm e.key HD.out.same).trans hpp.symm))
     have HSm := qd (small_rest HD.out.small HP1.out)
     clear hto hpp e0 e1 e2 HCl
     obtain ⟨G1', G2', hT, hBB, _⟩ := HD.out.both HB.out HT1.out HT2.out HPp.out HSm.out
     have HT := qd hT
     have HBB := qd hBB
     clear hT hBB
     cases bb with
     | true =>
      go_wp2
      go_roundw
      all_goals first | exact ⟨⟨j + 1, G1', G2', a', b', ids', ids2', HJ.out, rfl, HT, HBB⟩, HMe.out⟩ | exact ⟨j + 1, G1', G2', a', b', ids', ids2', HJ.out, rfl, HT, HBB⟩ | exact HMe.out
     | false =>
      go_wp2
      go_roundw
      all_goals first | exact ⟨⟨j + 1, G1', G2', a', b', ids', ids2', HJ.out, rfl, HT, HBB⟩, HMe.out⟩ | exact ⟨j + 1, G1', G2', a', b', ids', ids2', HJ.out, rfl, HT, HBB⟩ | exact HMe.out
    ·have hdr : Below w7.heap.size w7 w7.drew := (Below.refl _ _).drew
     go_upto_region 18 with fail
     replace HD := qd (HD.out.below hdr)
     replace HB := qd (below2 HB.out hdr)
     replace HX := qd HX.out.drew
     clear hdr e0 e1 e2 a0
     obtain ⟨e0, e1, e2⟩ := HX.out.c3
     refine region_T (fun (w' : World) => w'.cell? ⟨ex, 0, none⟩ = some (.int .u64 (e.key : Int)) ∧ w'.cell? ⟨ex, 1, none⟩ = some (.int .u64 (e.val : Int)) ∧ w'.cell? ⟨ex, 2, none⟩ = some (.int .u64 (e.hash : Int))) [] (by kernel_rfl) ?_
     try (change wpAnyT _ _ _ _ _ _ _ _ _ (World.drew _))
     have hHeld := (⟨e0, e1, e2⟩ : _ ∧ _ ∧ _)
     refine vW 0 rfl ?_
     refine vW 1 rfl ?_
     refine vT 2 rfl ?_
     refine vW 3 rfl ?_
     refine vT 4 rfl ?_
     refine vW 5 rfl ?_
     refine vT 6 rfl ?_
     refine vW 9 rfl ?_
     refine vW 10 rfl ?_
     refine vT 11 rfl ?_
     refine vW 12 rfl ?_
     refine vT 13 rfl ?_
     refine vW 14 rfl ?_
     refine vT 15 rfl ?_
     refine nT 7 rfl fun K hK => ?_
     go_simp
     refine (at_put HD.out.one e HE5.out).mono ?_
     rintro y w8 ⟨rfl, a', ids', hto, hpp⟩
     have HT1 := qd hto
     have HP1 := qd hpp
     obtain ⟨G', c1, c2, c3⟩ := hto
     have HC2 := qd (HD.out.first c3)
     replace HX := qd (HX.out.mod c3 HNe.out.1)
     have HEr := qd (HErr.out.below c1.facts.2.2.2.2.2.2.2.2.2.2.2.below (Nat.le_refl _))
     obtain ⟨cc, hcc⟩ : ∃ cc, cc = putC 192 a.ents e.key := ⟨_, rfl⟩
     rw [← hcc]
     have HCc := qd hcc
     have hc16 : cc ≤ 16 := by rw [hcc]; unfold putC; split <;> omega
     clear hpp c1 c2 c3 hcc e0 e1 e2
     obtain ⟨e0, e1, e2⟩ := HX.out.c3
     have hHeld := (⟨e0, e1, e2⟩ : _ ∧ _ ∧ _)
     refine kO hK ?_
     clear hK K
     refine nT 8 rfl fun K hK => ?_
     go_simp
     refine (num_any HEr.out cc hc16).mono ?_
     rintro y w9 ⟨rfl, hb9⟩
     replace HT1 := qd (coreTo_next HT1.out hb9)
     replace HC2 := qd (HC2.out.below hb9)
     replace HX := qB hb9 HX
     clear hb9 e0 e1 e2 HEr
     obtain ⟨e0, e1, e2⟩ := HX.out.c3
     have hHeld := (⟨e0, e1, e2⟩ : _ ∧ _ ∧ _)
     refine kO hK ?_
     clear hK K
     refine nT 16 rfl fun K hK => ?_
     go_simp
     have hpt := at_put HC2.out e HE5.out
     rw [← putC_perm HD.out.same HD.out.nd e.key, ← HCc.out] at hpt
     refine hpt.mono ?_
     rintro y w10 ⟨rfl, b', ids2', hto, hpp⟩
     have HT2 := qd hto
     have HP2 := qd hpp
     obtain ⟨G', c1, c2, c3⟩ := hto
     replace HX := qd (HX.out.mod c3 HNe.out.2.1)
     have HEr := qd (HErr.out.below c1.facts.2.2.2.2.2.2.2.2.2.2.2.below (Nat.le_refl _))
     clear hpt hpp c1 c2 c3 e0 e1 e2
     obtain ⟨e0, e1, e2⟩ := HX.out.c3
     have hHeld := (⟨e0, e1, e2⟩ : _ ∧ _ ∧ _)
     refine kO hK ?_
     clear hK K
     refine nT 17 rfl fun K hK => ?_
     go_simp
     refine (num_any HEr.out cc hc16).mono ?_
     rintro y w11 ⟨rfl, hb11⟩
     replace HT2 := qd (coreTo_next HT2.out hb11)
     replace HX := qB hb11 HX
     clear hb11 e0 e1 e2 HEr
     obtain ⟨e0, e1, e2⟩ := HX.out.c3
     have hHeld := (⟨e0, e1, e2⟩ : _ ∧ _ ∧ _)
     refine kO hK ?_
     clear hK K
     refine vW 18 rfl ?_
     refine doneT (by kernel_rfl) ?_ _
     have HPp := qd (HP1.out.trans ((putL_perm HD.out.same HD.out.nd e).trans HP2.out.symm))
     have HSm := qd (small_put HD.out.small HKs.out HP1.out)
     obtain ⟨G1', G2', hT, hBB, _⟩ := HD.out.both HB.out HT1.out HT2.out HPp.out HSm.out
     have HT := qd hT
     have HBB := qd hBB
     clear hT hBB e0 e1 e2
     go_wp2
     go_roundw
     all_goals first | exact ⟨⟨j + 1, G1', G2', a', b', ids', ids2', HJ.out, rfl, HT, HBB⟩, HMe.out⟩ | exact ⟨j + 1, G1', G2', a', b', ids', ids2', HJ.out, rfl, HT, HBB⟩ | exact HMe.out
   ·obtain rfl : j = ma := by omega
    have hlt' : ¬ (j : Int) < (j : Int) := by omega
    clear hj hma
    have hw1 := law_walk HD.out.one HD.out.small
    unfold coreP at hw1
    have HW1 := qd hw1
    clear hw1
    go_wp2_with fail
    refine HW1.out.mono ?_
    rintro y w8 ⟨A1, c1, l1, rfl, hasc, hp1, ho1, G1', d1, d2, d3, d4⟩
    have HC2 := qd (HD.out.first d3)
    have HB8 := qd (HB.out.trans (d3.below (fun q hq => (HD.out.one.facts.2.2.2.2.2.2.2.2.2.2.1 q hq).2) HB.out.size))
    have HO1 := qd ho1
    have HAp := qd (show (∀ q ∈ G2, q ∉ G1') ∧ ∀ q ∈ G2, q < wr.heap.size ∧ w.heap.size ≤ q from ⟨fun q hq hg => by
     rcases d2 q hg with h1 | h1
     ·exact HD.out.apart q h1 hq
     ·have := (HD.out.two.facts.2.2.2.2.2.2.2.2.2.2.1 q hq).1; omega, HD.out.two.facts.2.2.2.2.2.2.2.2.2.2.1⟩)
    have HD1 := qd d1
    have HAs := qd (And.intro hasc hp1)
    have hw2 := law_walk HC2.out (fun e he => HD.out.small e (HD.out.same.mem_iff.2 he))
    unfold coreP at hw2
    have HW2 := qd hw2
    clear hw2 HW1 hasc hp1 ho1 d1 d2 d3 d4
    go_wp2_with fail
    refine HW2.out.mono ?_
    rintro y w9 ⟨A2, c2, l2, rfl, hasc, hp2, ho2, G2', d1, d2, d3, d4⟩
    obtain rfl : l1 = l2 := asc_unique HAs.out.1 hasc (HAs.out.2.trans (HD.out.same.trans hp2.symm))
    have hlen : l1.length = a.ents.length := HAs.out.2.length_eq
    have HR1 := qd (Reads.of_own (own_farN HO1.out d3 (fun k hk hq => by have := (HO1.out.lt k hk).1; have := (HAp.out.2 k hq).1; omega)))
    have HR2 := qd (Reads.of_own ho2)
    have HC1 := qd (HD1.out.mod d3 (fun q hq => ⟨HAp.out.1 q hq, (HAp.out.2 q hq).2⟩))
    have HB9 := qd (HB8.out.trans (d3.below (fun q hq => (HAp.out.2 q hq).2) HB8.out.size))
    have h192 : a.ents.length ≤ 192 := by have := HD.out.one.facts.2.2.2.2.2.2.1; omega
    have hse := num_SameEntries A1 A2 c1 c2 l1 w9 HR1.out HR2.out (by omega)
    have HSe := qd hse
    have HLn := qd hlen
    clear hse hasc hp2 ho2 d1 d2 d3 d4 HW2 hlen
    generalize hl1 : l1.length = ln at *
    clear hl1
    go_wp2_with fail
    refine HSe.out.mono ?_
    rintro y w10 ⟨rfl, hb10⟩
    have hln := at_Len (HC1.out.below hb10)
    rw [← HLn.out] at hln
    unfold coreP at hln
    have HLe := qd hln
    replace HB9 := qd (below2 HB9.out hb10)
    clear hln hb10
    go_wp2_with fail
    refine HLe.out.mono ?_
    rintro y w11 ⟨rfl, rfl⟩
    go_wp2
    go_ret
    exact ⟨rfl, HB9.out⟩
end Go.Proofs.YtcgjgfgkdoohlaaGreatDoor
