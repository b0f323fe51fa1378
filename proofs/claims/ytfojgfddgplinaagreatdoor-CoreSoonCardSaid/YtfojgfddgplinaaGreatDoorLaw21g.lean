/- amblerlaw21.CoreSoon: its walk: whatever the configuration, the hashes and the acts, true. -/
import Derived.Test.YtfojgfddgplinaaGreatDoorLaw21a
import Derived.Test.YtfojgfddgplinaaGreatDoorSqM
import Derived.Test.YtfojgfddgplinaaGreatDoorCoO
import Derived.Test.YtfojgfddgplinaaGreatDoorLaneP
namespace Go.Proofs.YtfojgfddgplinaaGreatDoor
set_option maxRecDepth 100000
set_option maxHeartbeats 3000000
open Go.RowKit AmC
variable {W0 w : World} {E : Nat → Addr} {H : Nat → Nat} {K M mb q : Nat} {G ids : List Nat} {a : Pool}
theorem uA0 : uA (List.replicate 33 0) = (List.replicate 33 (Value.int .i64 0)).toArray := by unfold uA; rw [List.map_replicate]; rfl
theorem bA0 : bA (List.replicate 33 false) = (List.replicate 33 (Value.bool false)).toArray := by unfold bA; rw [List.map_replicate]
theorem op_put2 (h : CoreAt W0 E H K M mb G w a ids) (e : Ent) (he : EntOk H e) : Calls Tryz.prog 9 #[.pointer (some ⟨mb, 0, none⟩), .int .u64 (e.key : Int), .int .u64 (e.val : Int), .int .u64 (e.hash : Int)] w fun y w' =>
  (y = .returned (errV E 2) ∧ CoreTo W0 E H K M mb G w w' a ids) ∨ (∃ a' ids' del add, y = .returned .nilIface ∧ WrS H K a ids del add a' ids' ∧ CoreTo W0 E H K M mb G w w' a' ids') := by
 refine (at_Put h e he).mono ?_
 rintro y w' (⟨_, _, rfl, hto⟩ | ⟨a', ids', _, _, rfl, hw, hto⟩ | ⟨a', ids', e0, _, rfl, hw, hto⟩)
 ·exact .inl ⟨rfl, hto⟩
 ·exact .inr ⟨a', ids', _, _, rfl, hw, hto⟩
 ·exact .inr ⟨a', ids', _, _, rfl, hw, hto⟩
theorem at_small (h : CoreAt W0 E H K M mb G w a ids) : ∀ id ∈ ids, a.left id ≤ 1000 := by
 obtain ⟨C, F, len, b, x, h1, h2, h3, rfl, hC, hi, hl, hm⟩ := h
 exact fun id hid => hC.hp.le hC.sch.pool ((hi.can_ id).2 (.inl hid))
theorem run_ix {arr : Array Value} {v : Value} (hq : q < 33) (h : arr[q]? = some v) : (Instr.index 43 (.agg arr) (.int .i64 (q : Int))).run Tryz.prog w = .ok v w := by
 have h1 : (0 : Int) ≤ (q : Int) ∧ (q : Int) < 33 := by omega
 have h2 : (q : Int) < 33 := by omega
 unfold Instr.index
 simp only [asIntOf, pure_bind]
 go_simp
theorem jobs_at {id : Nat} {u : Value} : ∀ {ids : List Nat} {i : Nat}, ids[i]? = some id → (jobC a id)[q]? = some u → (ids.flatMap (jobC a))[i * 3 + q]? = some u
 | [], _, h, _ => by simp at h
 | x :: l, 0, h, hu => by
  simp at h
  subst h
  rw [List.flatMap_cons, List.getElem?_append_left (by have := get_lt hu; omega)]
  simpa using hu
 | x :: l, i + 1, h, hu => by
  have h' : l[i]? = some id := by simpa using h
  have hl : (jobC a x).length = 3 := rfl
  rw [List.flatMap_cons, List.getElem?_append_right (by rw [hl]; omega), hl, show (i + 1) * 3 + q - 3 = i * 3 + q by omega]
  exact jobs_at h' hu
theorem wrote {G' : List Nat} {w' : World} {a' : Pool} {ids' : List Nat} {del add : List Ent} (h : CoreAt W0 E H K M mb G w a ids) (h' : CoreAt W0 E H K M mb G' w' a' ids') (hw : WrS H K a ids del add a' ids') :
  (∀ id ∈ ids', id ∈ ids → psum a' ids' id + K ≤ psum a ids id ∧ a'.left id ≤ a.left id) ∧ (∀ id ∈ ids', id < 33) ∧ ids'.length ≤ a'.Ns.length + 1 ∧ ids'.length ≤ 33 ∧ (∀ id ∈ ids', 1 ≤ a'.left id) ∧ ids'.Nodup ∧ (∀ id ∈ ids', a'.left id ≤ 1000) ∧ sumL Pool.left a' ids' ≤ 33000 ∧ a'.Ns.length ≤ 32 := by
 obtain ⟨f1, _, f3, _, _, f6, _⟩ := h.facts
 obtain ⟨g1, _, g3, _⟩ := h'.facts
 obtain ⟨k1, k2, k3, k4, k5⟩ := ids_facts g1 g3
 have hs := at_small h'
 have := sumL_le (left := Pool.left) (a := a') hs
 exact ⟨soon_step f1 f6 f3 g3 hw, k1, k2, k3, k4, k5, hs, by omega, g3⟩
theorem sum_take_le (h : ∀ id ∈ ids, a.left id ≤ 1000) (hl : ids.length ≤ 33) (i : Nat) : sumL Pool.left a (ids.take i) ≤ 33000 := by
 have := sumL_le (left := Pool.left) (a := a) (ids := ids.take i) (fun j hj => h j (List.mem_of_mem_take hj))
 have h2 : (ids.take i).length ≤ ids.length := by rw [List.length_take]; omega
 omega
theorem law_soon (k m i : Int) (A : Option Addr) (n c : Nat) (l : List Nat) (B : Option Addr) (ma d : Nat) (acts : List LAct) (w : World) (hE : Env w E w) (hl : l.length = n) (hll : ∀ x ∈ l, x < 18446744073709551616) (hR : Reads w w.heap.size 1 A n (numsV l)) (hla : acts.length = ma) (hRa : Reads w w.heap.size 3 B ma (acts.flatMap LAct.cells)) : Calls Tryz.prog 3 #[cfgV k m i, .slice A n c, .slice B ma d] w fun e w' => e = .returned (.bool true) ∧ Below w.heap.size w w' := by
 have HE := qd hE
 have HR := qd hR
 have HRa := qd hRa
 have HL := qd hl
 have HLl := qd hll
 have HLa := qd hla
 have hB0 := Blk.new w 23 #[.int .i64 k, .int .i64 m, .int .i64 i]
 have hb0 := (Below.refl w.heap.size w).alloc (Nat.le_refl _) (.cells #[.int .i64 k, .int .i64 m, .int .i64 i] 23)
 clear hE hR hRa hl hll hla
 unfold cfgV
 go_in
 go_upto_region 1 with fail
 refine nameW (F := fun v => Blk v w.heap.size 23 #[.int .i64 k, .int .i64 m, .int .i64 i] ∧ Below w.heap.size w v) ⟨hB0, hb0⟩ ?_
 clear hB0 hb0
 rintro w1 ⟨hB1, hb1⟩
 have HBx := qd hB1
 have HB1 := qd hb1
 have HE1 := qd (HE.out.next hb1)
 have HAl := qd (law_alive HE1.out)
 clear hB1 hb1
 go_wp2_with fail
 refine HAl.out.mono ?_
 rintro y w2 ⟨rfl, hb2⟩
 replace HBx := qB hb2 HBx
 replace HB1 := qd (below2 HB1.out hb2)
 replace HE1 := qd (HE1.out.next hb2)
 clear hb2 HAl
 have HLg := qd (law_Long A B n c ma d w2)
 go_wp2_with fail
 refine HLg.out.mono ?_
 rintro y w3 ⟨rfl, rfl⟩
 clear HLg
 by_cases hlong : n < 1 ∨ 220 < n ∨ 700 < ma
 ·have hlg : (decide (n < 1) || (decide (220 < n) || decide (700 < ma))) = true := by simp; omega
  rw [hlg]
  clear hlg
  go_wp2
  go_ret
  exact ⟨rfl, HB1.out⟩
 ·have hlg : (decide (n < 1) || (decide (220 < n) || decide (700 < ma))) = false := by simp; omega
  rw [hlg]
  clear hlg
  obtain ⟨k0, k1, k2⟩ := HBx.out.c3
  cases hcf : cfgOk k m i with
  | false =>
   have hnb := core_New_bad HE1.out k m i hcf
   rw [errV_pos E (by omega)] at hnb
   unfold cfgV at hnb
   have HNb := qd hnb
   clear hnb hcf
   go_wp2_with fail
   refine HNb.out.mono ?_
   rintro y w4 ⟨rfl, hb4⟩
   go_wp2
   go_ret
   exact ⟨rfl, below2 HB1.out hb4⟩
  | true =>
   obtain ⟨K, M, I, hkm⟩ := cfg_nat hcf
   have hnb := core_New (lawH l) HE1.out k m i hcf K M I hkm
   unfold cfgV at hnb
   have HNw := qd hnb
   have HKk := qd (And.intro hkm.1 hkm.2.2.1)
   clear hnb hcf hkm
   go_wp2_with fail
   refine HNw.out.mono ?_
   rintro y w4 ⟨mb, rfl, hnew⟩
   have hz3x := HBx.out.lt
   obtain ⟨G1, hA1, hs1, hm1⟩ := new_at hnew
   have HA1 := qd hA1
   have hz2 := HB1.out.size
   have HS1 := qd (show ∀ q ∈ G1, w.heap.size ≤ q from fun q hq => by
    rcases hs1 q hq with h | h
    ·cases h
    ·omega)
   have HB4 := qd (below2 HB1.out hm1.to_below)
   replace HBx := qd (HBx.out.mod (Mod.of_below hm1.to_below []) (by simp))
   have HCg := qd (show w.heap.size ∉ G1 from fun hq => by
    have h1 := HBx.out.lt
    rcases hs1 _ hq with h | h
    ·cases h
    ·have := hz3x; omega)
   clear hnew hA1 hs1 hm1 HNw k0 k1 k2 HB1 HE1 hz3x
   unfold coreP
   have hz3y := HBx.out.lt
   go_upto_region 8 with fail
   go_upto_region 9 with (refine wpList_store_mid rfl 33 (.tmp 9) (.tmp 40) rfl w4.heap.size 0 _ rfl rfl (new_there w4 _ 33) (by kernel_rfl) (by kernel_rfl) ?_)
   refine nameW (F := fun v => Blk v w4.heap.size 33 (uA (List.replicate 33 0)) ∧ Below w4.heap.size w4 v) ⟨by rw [uA0]; exact (new_sets w4 _ 33).1, (new_sets w4 _ 33).2⟩ ?_
   rintro w5 ⟨hU5, hb5⟩
   have HUg := qd (show w4.heap.size ∉ G1 from fun hq => by have := (HA1.out.facts.2.2.2.2.2.2.2.2.2.2.1 _ hq).1; omega)
   replace HA1 := qd (HA1.out.below hb5)
   replace HBx := qB hb5 HBx
   have hz4 := HB4.out.size
   have HUl := qd (show w.heap.size ≤ w4.heap.size ∧ w.heap.size < w4.heap.size from ⟨hz4, hz3y⟩)
   replace HB4 := qd (below2 HB4.out hb5)
   obtain ⟨ub, hub⟩ : ∃ ub, ub = w4.heap.size := ⟨_, rfl⟩
   rw [← hub] at hU5 HUg HUl ⊢
   have HU := qd hU5
   obtain ⟨cg, hcg⟩ : ∃ cg, cg = w.heap.size := ⟨_, rfl⟩
   rw [← hcg] at HBx HCg HUl
   rw [show (some ⟨w.heap.size, 0, none⟩ : Option Addr) = some ⟨cg, 0, none⟩ by rw [hcg]]
   have HCl := qd (show w.heap.size ≤ cg from by omega)
   have HS0 := qd (soon0 K pool0 0)
   clear hU5 hb5 hub hcg hz4 hz3y
   go_wp2
   go_loopw [10, 11, 13, 14, 15, 16, 17, 19, 20, 21, 43] (fun v10 v11 _ _ _ _ _ _ _ _ v43 wr => ∃ (j ws : Nat) (U G : List Nat) (a : Pool) (ids : List Nat), j ≤ ma ∧ v43 = .int .i64 (j : Int) ∧ v10 = .int .i64 (ws : Int) ∧ ws ≤ j ∧ v11 = .int .i64 ((sumL Pool.left a ids : Nat) : Int) ∧ Hid (Soon K a ids ws U) ∧ Hid (CoreAt w E (lawH l) K M mb G wr a ids) ∧ Hid (Blk wr ub 33 (uA U)) ∧ Hid (ub ∉ G) ∧ Hid (Blk wr cg 23 #[.int .i64 k, .int .i64 m, .int .i64 i]) ∧ Hid (cg ∉ G) ∧ Hid (∀ q ∈ G, w.heap.size ≤ q) ∧ Hid (Below w.heap.size w wr)) (fun _ _ _ _ _ _ _ _ _ _ v43 _ => ma - (intOf v43).toNat)
   case atStart => exact ⟨0, 0, _, G1, pool0, [], by omega, rfl, rfl, by omega, rfl, HS0, HA1, HU, HUg, HBx, HCg, HS1, HB4⟩
   case round =>
    clear HA1 HS1 HB4 HS0 HU HUg HBx HCg
    obtain ⟨j, ws, U, G, a, ids, hj, rfl, rfl, hwsj, rfl, HSn, HA, HU, HUg, HBx, HCg, HS, HB⟩ := hrel
    have hma : ma ≤ 700 := by omega
    by_cases hlt : j < ma
    ·have hlt' : (j : Int) < (ma : Int) := by omega
     have hj0 : (0 : Int) ≤ (j : Int) := by omega
     obtain ⟨act, hact⟩ : ∃ act, acts[j]? = some act := ⟨_, List.getElem?_eq_getElem (by have := HLa.out; omega)⟩
     obtain ⟨g, off, hBv, hgl, m0, m1, m2⟩ := act_cells HRa.out HLa.out hact
     have hkp := fun (p : Addr) (v : Value) (hp : p.block < w.heap.size) (hh : w.cell? p = some v) => (World.cell?_of_block (HB.out.block p.block hp)).trans hh
     have r0 := hkp _ _ hgl m0
     have r1 := hkp _ _ hgl m1
     have r2 := hkp _ _ hgl m2
     have HBv := qd hBv
     have HJ := qd (Nat.succ_le_of_lt hlt)
     have HMe := qd (fewer_rounds hlt)
     subst hBv
     clear m0 m1 m2 hkp hact
     go_upto_region 13 with fail
     refine nameB 35 #[.int .i64 act.kind, .int .i64 act.key, .int .i64 act.n] ?_
     rintro w5 ⟨hB5, hb5⟩
     obtain ⟨bx, hbx⟩ : ∃ bx, bx = wr.heap.size := ⟨_, rfl⟩
     rw [← hbx] at hB5 ⊢
     have HB5 := qd hB5
     obtain ⟨a0, a1, a2⟩ := hB5.c3
     replace HA := qd (HA.out.below hb5)
     replace HU := qB hb5 HU
     replace HBx := qB hb5 HBx
     replace HB := qd (below2 HB.out hb5)
     have HEn := qd (law_Entry A n c l act (by omega) HL.out w5 (by
      obtain ⟨q1, q2⟩ := HR.out
      refine ⟨q1, fun hp => ?_⟩
      obtain ⟨g', off', z1, z2, z3⟩ := q2 hp
      have hzz := HB.out.size
      exact ⟨g', off', z1, by omega, fun jj u hu => (World.cell?_of_block (HB.out.block _ z2)).trans (z3 jj u hu)⟩))
     have HE5 := qd (entOf_ok HLl.out (by have := HL.out; omega) act)
     obtain ⟨e, he⟩ : ∃ e, e = entOf l act := ⟨_, rfl⟩
     rw [← he] at HEn HE5
     unfold actV at HEn
     unfold entV at HEn
     clear hB5 hb5 r0 r1 r2 hbx he
     go_wp2_with fail
     refine HEn.out.mono ?_
     rintro y w6 ⟨rfl, hb6⟩
     replace HA := qd (HA.out.below hb6)
     replace HU := qB hb6 HU
     replace HBx := qB hb6 HBx
     replace HB := qd (below2 HB.out hb6)
     replace HB5 := qB hb6 HB5
     clear hb6 HEn a0 a1 a2
     have hB7 := Blk.new w6 38 #[.int .u64 (e.key : Int), .int .u64 (e.val : Int), .int .u64 (e.hash : Int)]
     have hb7 := (Below.refl w6.heap.size w6).alloc (Nat.le_refl _) (.cells #[.int .u64 (e.key : Int), .int .u64 (e.val : Int), .int .u64 (e.hash : Int)] 38)
     go_upto_region 14 with fail
     refine nameW (F := fun v => Blk v w6.heap.size 38 #[.int .u64 (e.key : Int), .int .u64 (e.val : Int), .int .u64 (e.hash : Int)] ∧ Below w6.heap.size w6 v) ⟨hB7, hb7⟩ ?_
     clear hB7 hb7
     rintro w7 ⟨hB7, hb7⟩
     obtain ⟨ex, hex⟩ : ∃ ex, ex = w6.heap.size := ⟨_, rfl⟩
     rw [← hex] at hB7 ⊢
     replace HA := qd (HA.out.below hb7)
     replace HU := qB hb7 HU
     replace HBx := qB hb7 HBx
     replace HB := qd (below2 HB.out hb7)
     replace HB5 := qB hb7 HB5
     have b0 := hB7.cell 0
     have b1 := hB7.cell 1
     have b2 := hB7.cell 2
     have a0 := HB5.out.cell 0
     simp only [gl] at b0 b1 b2 a0
     have hsz := HB.out.size
     have hws0 : (0 : Int) ≤ (ws : Int) := by omega
     have hws7 : (ws : Int) ≤ 700 := by omega
     clear hB7 hb7 hex
     by_cases hk1 : act.kind = 1
     ·have h64 := HE5.out.h64
      have hcl := at_Delete HA.out e.key (by rw [← HE5.out.hash]; exact h64)
      rw [← HE5.out.hash] at hcl
      obtain ⟨u, bb, hub⟩ : ∃ (u : Nat) (bb : Bool), u = ((look a.ents e.key).getD ⟨0, 0, 0⟩).val ∧ bb = (look a.ents e.key).isSome := ⟨_, _, rfl, rfl⟩
      rw [← hub.1, ← hub.2] at hcl
      unfold coreP at hcl
      have HDl := qd hcl
      clear hcl hub h64
      go_wp2_with fail
      refine HDl.out.mono ?_
      rintro y w8 ⟨a', ids', rfl, hws, G', hA', hsub, hmod⟩
      have HW := qd (wrote HA.out hA' hws)
      have HS0x := HS
      have HA8 := qd hA'
      obtain ⟨q1, q2, q3, q4, q5, q6, q7, q8, q9⟩ := HW.out
      have hug := qd (show ub ∉ G' ∧ cg ∉ G' from by
       have k1 := HU.out.lt
       have k2 := HBx.out.lt
       refine ⟨fun hq => ?_, fun hq => ?_⟩
       ·rcases hsub _ hq with h1 | h1
        ·exact HUg.out h1
        ·omega
       ·rcases hsub _ hq with h1 | h1
        ·exact HCg.out h1
        ·omega)
      replace HS := qd (show ∀ q ∈ G', w.heap.size ≤ q from fun q hq => by
       rcases hsub q hq with h1 | h1
       ·exact HS0x.out q h1
       ·omega)
      replace HU := qd (HU.out.mod hmod HUg.out)
      replace HBx := qd (HBx.out.mod hmod HCg.out)
      replace HUg := qd hug.out.1
      replace HCg := qd hug.out.2
      replace HB := qd (HB.out.trans (hmod.below HS0x.out hsz))
      have hL33 := q8
      obtain ⟨L, hL⟩ : ∃ L, L = sumL Pool.left a ids := ⟨_, rfl⟩
      rw [← hL]
      have HLe := qd hL
      have HA0 := HA
      replace HA := qd hA'
      clear hA' hsub hmod hws hL hug b0 b1 b2 a0 HB5
      go_upto_region 18 with fail
      go_upto_region 19 with (refine wpList_store_mid rfl 43 (.tmp 15) (.tmp 80) rfl w8.heap.size 0 _ rfl rfl (new_there w8 _ 43) (by kernel_rfl) (by kernel_rfl) ?_)
      refine nameW (F := fun v => Blk v w8.heap.size 43 (bA (List.replicate 33 false)) ∧ Below w8.heap.size w8 v) ⟨by rw [bA0]; exact (new_sets w8 _ 43).1, (new_sets w8 _ 43).2⟩ ?_
      rintro w9 ⟨hT9, hb9⟩
      replace HA := qd (HA.out.below hb9)
      have hul8 := HU.out.lt
      have hcl8 := HBx.out.lt
      have hz8 := HB.out.size
      replace HU := qB hb9 HU
      replace HBx := qB hb9 HBx
      replace HB := qd (below2 HB.out hb9)
      have HTg := qd (show w8.heap.size ∉ G' from fun hq => by have := (HA8.out.facts.2.2.2.2.2.2.2.2.2.2.1 _ hq).1; omega)
      obtain ⟨tb, htb⟩ : ∃ tb, tb = w8.heap.size := ⟨_, rfl⟩
      rw [← htb] at hT9 HTg ⊢
      have HDj := qd (show ub ≠ tb ∧ cg ≠ tb ∧ ub ≠ cg ∧ tb < w9.heap.size ∧ ub < w9.heap.size ∧ cg < w9.heap.size ∧ w.heap.size ≤ tb ∧ w.heap.size ≤ ub from by
       have h1 := hT9.lt
       have h2 := HU.out.lt
       have h3 := HBx.out.lt
       have h4 := HUl.out
       have h5 := HCl.out
       refine ⟨by omega, by omega, by omega, by omega, by omega, by omega, by omega, by omega⟩)
      have HT := qd hT9
      have hJ := at_Jobs HA.out
      unfold coreP at hJ
      have HJo := qd hJ
      clear hT9 hb9 htb hul8 hcl8 hz8 hJ HA8
      go_wp2_with fail
      refine HJo.out.mono ?_
      rintro y w10 ⟨AJ, cJ, rfl, hOJ, hb10⟩
      replace HA := qd (HA.out.below hb10)
      replace HU := qB hb10 HU
      replace HBx := qB hb10 HBx
      replace HT := qB hb10 HT
      replace HB := qd (below2 HB.out hb10)
      have hz10 := hb10.size
      obtain ⟨nj, hnj⟩ : ∃ nj, nj = ids'.length := ⟨_, rfl⟩
      rw [← hnj] at hOJ ⊢
      have HNj := qd hnj
      have hnj33 : nj ≤ 33 := by omega
      have HOJ := qd hOJ
      have HZ := qd (Nat.le_trans (Nat.le_of_lt HDj.out.2.2.2.1) hz10)
      have HSA := qd (SoonAt.start K a' ids' (ws + 1) HSn.out.len)
      have HM0 := qd (Mod.refl [ub, tb] w10)
      clear hOJ hb10 hnj HJo
      go_wp2
      go_loopw [16, 17, 19, 84] (fun v16 v17 _ v84 wr => ∃ (i s f : Nat) (U1 : List Nat) (T : List Bool), i ≤ nj ∧ v84 = .int .i64 (i : Int) ∧ v16 = .int .i64 (s : Int) ∧ v17 = .bool (decide (f = 1)) ∧ Hid (SoonAt K a' ids' (ws + 1) U i U1 T s (decide (f = 1))) ∧ Hid (Blk wr ub 33 (uA U1)) ∧ Hid (Blk wr tb 43 (bA T)) ∧ Hid (Mod [ub, tb] w10 wr)) (fun _ _ _ v84 _ => nj - (intOf v84).toNat)
      case atStart => exact ⟨0, 0, 0, U, _, by omega, rfl, rfl, rfl, HSA, HU, HT, HM0⟩
      case round =>
       clear HSA HM0 HU HT
       obtain ⟨i, s, f, U1, T, hi, rfl, rfl, rfl, HSA, HU, HT, HM⟩ := hrel
       obtain ⟨fr, hfr⟩ : ∃ fr, fr = decide (f = 1) := ⟨_, rfl⟩
       rw [← hfr] at HSA ⊢
       have HFr := qd hfr
       clear hfr
       have HCx := qd (HBx.out.mod HM.out (by have := HDj.out; simp <;> omega))
       by_cases hlti : i < nj
       ·have hltI : (i : Int) < (nj : Int) := by omega
        have hi0 : (0 : Int) ≤ (i : Int) := by omega
        obtain ⟨id, hid⟩ : ∃ id, ids'[i]? = some id := ⟨_, List.getElem?_eq_getElem (by have := HNj.out; omega)⟩
        have hidm := List.mem_of_getElem? hid
        have hid33 := q2 id hidm
        have hlf1 := q5 id hidm
        have hlf2 := q7 id hidm
        obtain ⟨t1, t2, t3⟩ := HSA.out.at_ q6 hid hid33
        have hsle : s ≤ 33000 := by rw [HSA.out.sum]; exact sum_take_le q7 q4 i
        have HNx := qd (HSA.out.next q6 hid hid33)
        obtain ⟨gj, oj, hAJ, hgJ, hcJ⟩ := (Reads.of_own HOJ.out).2 (by omega)
        have hgl : w9.heap.size ≤ gj := by
         rcases own_caps HOJ.out with ⟨_, hz, _⟩ | ⟨g3, h3, _, h4, _⟩
         ·omega
         ·rw [hAJ] at h3
          simp only [Option.some.injEq, Addr.mk.injEq] at h3
          omega
        have hgn : gj ∉ [ub, tb] := by have := HDj.out; simp; omega
        have hkp := fun (o : Nat) (v : Value) (hh : w10.cell? ⟨gj, o, none⟩ = some v) => show wr.cell? ⟨gj, o, none⟩ = some v from (World.cell?_of_block (HM.out.block gj hgJ hgn)).trans hh
        obtain ⟨kk, hkk⟩ : ∃ kk, kk = kd a' id := ⟨_, rfl⟩
        obtain ⟨lf, hlf⟩ : ∃ lf, lf = a'.left id := ⟨_, rfl⟩
        obtain ⟨u0, hu0e⟩ : ∃ u0, u0 = U.getD id 0 := ⟨_, rfl⟩
        have s0 := hkp _ _ (hcJ (i * 3) _ (jobs_at hid (q := 0) rfl))
        have s1c : wr.cell? ⟨gj, oj + i * 3 + 1, none⟩ = some (.int .i64 (kk : Int)) := by rw [hkk]; exact hkp _ _ (hcJ (i * 3 + 1) _ (jobs_at hid (q := 1) rfl))
        have s2 : wr.cell? ⟨gj, oj + i * 3 + 2, none⟩ = some (.int .i64 (lf : Int)) := by rw [hlf]; exact hkp _ _ (hcJ (i * 3 + 2) _ (jobs_at hid (q := 2) rfl))
        have hdue := fun h => soon_due HSn.out hid33 h
        rw [← hlf] at hlf1 hlf2 HNx
        rw [← hu0e] at HNx t2 hdue
        have HNxt := qd (Nat.succ_le_of_lt hlti)
        have HMi := qd (fewer_rounds hlti)
        have hlU := HSA.out.len
        have hlT := HSA.out.lenT
        subst hAJ
        clear hkp hcJ hgn hgl hid hidm HSA t3 hlf hkk hu0e
        go_upto_region 23 with fail
        refine nameB 47 #[.int .i64 (id : Int), .int .i64 (kk : Int), .int .i64 (lf : Int)] ?_
        rintro w11 ⟨hJ5, hb11⟩
        obtain ⟨jb, hjb⟩ : ∃ jb, jb = wr.heap.size := ⟨_, rfl⟩
        rw [← hjb] at hJ5 ⊢
        have HDb := qd (show jb ≠ ub ∧ jb ≠ tb ∧ jb ≠ cg from by
         have h1 := HU.out.lt
         have h2 := HT.out.lt
         have h3 := HCx.out.lt
         refine ⟨by omega, by omega, by omega⟩)
        have HJb := qd hJ5
        replace HU := qB hb11 HU
        replace HT := qB hb11 HT
        replace HCx := qB hb11 HCx
        replace HM := qd (HM.out.then (Mod.of_below hb11 [ub, tb]))
        have x0 := hJ5.cell 0
        have x2 := hJ5.cell 2
        simp only [gl] at x0 x2
        have ct := bA_at HT.out (k := id) (by rw [hlT]; exact hid33)
        rw [t1] at ct
        have ft := HT.out.frozen id
        have hn0 : ¬ (id : Int) < 0 := by omega
        have hn1 : ¬ (32 : Int) < (id : Int) := by omega
        have hn2 : (0 : Int) ≤ (id : Int) := by omega
        have hn3 : (id : Int) < 33 := by omega
        have hn4 : ¬ (lf : Int) < 1 := by omega
        clear hJ5 hb11 hjb s0 s1c s2
        go_upto_region 26 with fail
        refine nameW (F := fun v => Blk v tb 43 (bA (T.set id true)) ∧ Mod [tb] w11 v) ⟨bA_set HT.out id true, (Mod.refl [tb] w11).sl id (.bool true)⟩ ?_
        rintro w12 ⟨hT, hm⟩
        replace HT := qd hT
        replace HU := qd (HU.out.mod hm (by have := HDj.out; simp; omega))
        replace HCx := qd (HCx.out.mod hm (by have := HDj.out; simp; omega))
        replace HJb := qd (HJb.out.mod hm (by have := HDb.out; simp; omega))
        replace HM := qd (HM.out.then (hm.more (by simp)))
        have x0 := HJb.out.cell 0
        have x2 := HJb.out.cell 2
        simp only [gl] at x0 x2
        have cu := uA_at HU.out (k := id) (by rw [hlU]; exact hid33)
        rw [t2] at cu
        have fu := HU.out.frozen id
        have cc0 := HCx.out.cell 0
        simp only [gl] at cc0
        clear hT hm ct ft
        go_upto_region 27 with fail
        obtain ⟨s1, hs1⟩ : ∃ s1, s1 = s + lf := ⟨_, rfl⟩
        rw [← hs1] at HNx
        try rw [show (s : Int) + (lf : Int) = (s1 : Int) from by omega]
        have HS1b := qd (show 1 ≤ s1 ∧ s1 ≤ 100000 from by omega)
        clear hs1
        by_cases hu0 : u0 = 0
        ·rw [hu0] at cu
         have hnx := HNx.out
         rw [if_pos hu0, decide_eq_true hu0, Bool.or_true] at hnx
         obtain ⟨q1, hq1⟩ : ∃ q1, q1 = ws + 1 + wrB K s1 := ⟨_, rfl⟩
         rw [← hq1] at hnx
         have HNa := qd hnx
         have HQ1 := qd (show (wrB K s1 : Int) + (ws : Int) + 1 = q1 ∧ ws + 1 ≤ q1 ∧ wrB K s1 ≤ 200000 from by
          have h1 : (s1 - 1) / K ≤ s1 - 1 := Nat.div_le_self _ _
          have h2 : wrB K s1 = (s1 - 1) / K + 2 := rfl
          have h3 := HS1b.out
          refine ⟨by omega, by omega, by omega⟩)
         have hpw := fun V => plan_Writes s1 K HS1b.out HKk.out.1 V
         rw [← HKk.out.2] at hpw
         have HPw := qd hpw
         clear hq1 hnx HNx hdue hu0 hpw
         go_upto_region 28 with fail
         refine rT (fun (w' : World) => w'.cell? ⟨jb, 0, none⟩ = some (.int .i64 (id : Int)) ∧ w'.cell? ⟨cg, 0, none⟩ = some (.int .i64 k)) [9] ?_
         have hHeld := (⟨x0, cc0⟩ : _ ∧ _)
         refine vW 0 rfl ?_
         refine vT 1 rfl ?_
         refine vW 2 rfl ?_
         refine vW 3 rfl ?_
         refine vW 4 rfl ?_
         refine vT 5 rfl ?_
         refine nextT (i := 6) (o := ⟨some 125, _, _, _, _, _⟩) rfl (by kernel_rfl) (fun Kk hK => ?_)
         go_simp
         refine (HPw.out _).mono ?_
         rintro y w14 ⟨rfl, rfl⟩
         have hHeld := (⟨x0, cc0⟩ : _ ∧ _)
         refine hK.out _ _ (fun _ => hHeld) ?_
         clear hK Kk
         try simp only [pt]
         refine takeW (i := 7) (oi := ⟨some 126, _, _, _, _, _⟩) (v := .int .i64 (q1 : Int)) rfl (by kernel_rfl) (by kernel_rfl) (by kernel_rfl) (by rfl) (fun _ _ _ h => h) (Or.inl ⟨by rfl, ?_⟩) hHeld ?_
         ·rintro w -
          go_simp
          all_goals (rw [i64_le (by have := HQ1.out; omega)]; have := HQ1.out; omega)
         try simp only [pt]
         refine vW 8 rfl ?_
         refine nextT (i := 9) (o := ⟨none, _, _, _, _, _⟩) rfl (by kernel_rfl) (fun Kk hK => ?_)
         go_simp
         refine hK.out _ _ (fun h => absurd (by decide) h) ?_
         clear hK Kk
         try simp only [pt]
         refine doneT (by kernel_rfl) ?_ _
         refine nameW (F := fun v => Blk v ub 33 (uA (U1.set id q1)) ∧ Mod [ub] w12 v) ⟨uA_set (HU.out.mod (Mod.drewN [] w12 1) (by simp)) id q1, ((Mod.refl [ub] w12).then (Mod.drewN [ub] _ 1)).sl id (.int .i64 (q1 : Int))⟩ ?_
         rintro w13 ⟨hU, hm⟩
         have HUa := qd hU
         replace HT := qd (HT.out.mod hm (by have := HDj.out; simp; omega))
         replace HJb := qd (HJb.out.mod hm (by have := HDb.out; simp; omega))
         replace HM := qd (HM.out.then (hm.more (by simp)))
         have x0 := HJb.out.cell 0
         simp only [gl] at x0
         have cv := uA_at HUa.out (k := id) (by rw [List.length_set, hlU]; exact hid33)
         rw [getD_set (by rw [hlU]; exact hid33), if_pos rfl] at cv
         have hq0 : ¬ (q1 : Int) < (ws : Int) + 1 := by have := HQ1.out; omega
         clear hU hm cu fu cc0
         go_wp2
         go_roundw
         all_goals first | exact ⟨⟨i + 1, s1, 1, U1.set id q1, T.set id true, HNxt.out, rfl, rfl, rfl, HNa, HUa, HT, HM⟩, HMi.out⟩ | exact ⟨i + 1, s1, 1, U1.set id q1, T.set id true, HNxt.out, rfl, rfl, rfl, HNa, HUa, HT, HM⟩ | exact HMi.out
        ·have hdu := hdue hu0
         have hnx := HNx.out
         rw [if_neg hu0, decide_eq_false hu0, Bool.or_false, HFr.out] at hnx
         have HFv := qd (show Value.bool fr = .bool (decide (f = 1)) from by rw [HFr.out])
         have HNa := qd hnx
         have hu0' : ¬ (u0 : Int) = 0 := by omega
         have hdu' : ¬ (u0 : Int) < (ws : Int) + 1 := by omega
         have HUa := HU
         clear hdue hnx HNx
         go_wp2
         go_roundw
         all_goals first | exact ⟨⟨i + 1, s1, f, U1, T.set id true, HNxt.out, rfl, rfl, HFv.out, HNa, HUa, HT, HM⟩, HMi.out⟩ | exact ⟨i + 1, s1, f, U1, T.set id true, HNxt.out, rfl, rfl, HFv.out, HNa, HUa, HT, HM⟩ | exact HMi.out
       ·obtain rfl : i = nj := by omega
        have hltI : ¬ (i : Int) < (i : Int) := by omega
        have hlU := HSA.out.len
        have hlT := HSA.out.lenT
        have hsm := HSA.out.sum
        have hth := HSA.out.thr
        rw [HNj.out, List.take_length] at hsm hth
        have hsle : s ≤ 33000 := by omega
        go_upto_region 33 with fail
        refine nameW (F := fun v => Blk v ub 33 (uA U1) ∧ Blk v tb 43 (bA T) ∧ Mod [ub, tb] w10 v) ⟨HU.out, HT.out, HM.out⟩ ?_
        rintro w13 ⟨hU, hT, hM⟩
        have hrg := bA_range hT
        have HU1 := qd hU
        have HM1 := qd hM
        have hlb : (bA T).toList.length = 33 := by unfold bA; simp [hlT]
        have hbk := fun q (hq : q < 33) => show (bA T)[q]? = some (.bool (T.getD q false)) from by
         unfold bA
         rw [List.getElem?_toArray, List.getElem?_map, List.getD_eq_getElem?_getD, List.getElem?_eq_getElem (by omega)]
         rfl
        have HBk := qd hbk
        have HLb := qd hlb
        have HRg := qd hrg
        have HSE := qd (SoonEnd.start ids' hlU)
        have HMM := qd (Mod.refl [ub] w13)
        have HSm := qd hsm
        have HTh := qd hth
        have HSA1 := HSA
        clear hU hT hM hrg hlb hbk hsm hth HU HT HM HSA
        go_wp2_with (refine wpList_load_mid rfl 43 (.tmp 15) rfl tb 0 rfl _ _ HRg.out (by rfl) rfl (by rw [HLb.out]; rfl) ?_)
        go_loopw [20, 21, 136] (fun _ _ v136 wr => ∃ (q : Nat) (U2 : List Nat), q ≤ 33 ∧ v136 = .int .i64 (q : Int) ∧ Hid (SoonEnd ids' U1 q U2) ∧ Hid (Blk wr ub 33 (uA U2)) ∧ Hid (Mod [ub] w13 wr)) (fun _ _ v136 _ => 33 - (intOf v136).toNat)
        case atStart => exact ⟨0, U1, by omega, rfl, HSE, HU1, HMM⟩
        case round =>
         clear HSE HMM
         obtain ⟨q, U2, hq, rfl, HSE, HU2, HMM⟩ := hrel
         by_cases hltq : q < 33
         ·have hltQ : (q : Int) < 33 := by omega
          have hq0 : (0 : Int) ≤ (q : Int) := by omega
          have hix := run_ix (w := wr) hltq (HBk.out q hltq)
          have HNq := qd (Nat.succ_le_of_lt hltq)
          have HMq := qd (fewer_rounds hltq)
          have fu := HU2.out.frozen q
          have cu := uA_at HU2.out (k := q) (by rw [HSE.out.len]; exact hltq)
          have HNx := qd (HSE.out.next hltq)
          cases hb : T.getD q false with
          | false =>
           have hni : q ∉ ids' := fun hh => by
            have := (HTh.out q hltq).2 hh
            rw [hb] at this
            cases this
           have hnx := HNx.out
           rw [if_neg hni] at hnx
           have HNa := qd hnx
           rw [hb] at hix
           clear hnx HNx hni hb
           go_upto_region 38 with fail
           refine nameW (F := fun v => Blk v ub 33 (uA (U2.set q 0)) ∧ Mod [ub] wr v) ⟨show Blk (wr.setCell ⟨ub, q, none⟩ (.int .i64 0)) ub 33 (uA (U2.set q 0)) from uA_set HU2.out q 0, (Mod.refl [ub] wr).sl q (.int .i64 0)⟩ ?_
           rintro w14 ⟨hU, hm⟩
           have HUa := qd hU
           have HMa := qd (HMM.out.then hm)
           clear hU hm cu fu
           go_wp2
           go_roundw
           all_goals first | exact ⟨⟨q + 1, U2.set q 0, HNq.out, rfl, HNa, HUa, HMa⟩, HMq.out⟩ | exact ⟨q + 1, U2.set q 0, HNq.out, rfl, HNa, HUa, HMa⟩ | exact HMq.out
          | true =>
           have hin : q ∈ ids' := (HTh.out q hltq).1 hb
           have hnx := HNx.out
           rw [if_pos hin] at hnx
           have HNa := qd hnx
           rw [hb] at hix
           clear hnx HNx hin hb cu fu
           go_wp2
           go_roundw
           all_goals first | exact ⟨⟨q + 1, U2, HNq.out, rfl, HNa, HU2, HMM⟩, HMq.out⟩ | exact ⟨q + 1, U2, HNq.out, rfl, HNa, HU2, HMM⟩ | exact HMq.out
         ·obtain rfl : q = 33 := by omega
          have hltQ : ¬ (33 : Int) < 33 := by omega
          have hHA := HA.out.mod HM1.out (fun q hq => by
           have := HDj.out
           have h1 := HUg.out
           have h2 := HTg.out
           simp at hq
           rcases hq with rfl | rfl
           ·exact ⟨h1, by omega⟩
           ·exact ⟨h2, by omega⟩)
          have hHA2 := hHA.mod HMM.out (fun q hq => by
           have := HDj.out
           have h1 := HUg.out
           simp at hq
           subst hq
           exact ⟨h1, by omega⟩)
          have HA2 := qd hHA2
          have HX2 := qd ((HBx.out.mod HM1.out (by have := HDj.out; simp; omega)).mod HMM.out (by have := HDj.out; simp; omega))
          have HBb := qd ((HB.out.trans (HM1.out.below (by have := HDj.out; simp; omega) HB.out.size)).trans (HMM.out.below (by have := HDj.out; simp; omega) (by have h1 := HB.out.size; have h2 := HM1.out.size; omega)))
          have hlf := at_Left HA2.out
          unfold coreP at hlf
          rw [← HSm.out] at hlf
          have HLf := qd hlf
          have HSW := qd (soon_write HSn.out HKk.out.1.1 q1 q5 q2 (by rw [← HNj.out]; exact HSA1.out) HSE.out)
          have HSs := qd (soon_sum HSn.out q6 q1 q2 (by rw [← HNj.out]; exact HSA1.out))
          rw [← HLe.out] at HSs
          clear hHA hHA2 hlf
          have HV11 := qd (show Value.int .i64 (s : Int) = .int .i64 ((sumL Pool.left a' ids' : Nat) : Int) from by rw [← HSm.out])
          have HWj := qd (show ws + 1 ≤ j + 1 from by omega)
          have hn5 : ¬ (a'.Ns.length : Int) + 1 < (i : Int) := by
           have h1 := HNj.out
           omega
          go_wp2_with fail
          refine HLf.out.mono ?_
          rintro y w14 ⟨rfl, hb14⟩
          have HA3 := qd (HA2.out.below hb14)
          have HX3 := qd (HX2.out.mod (Mod.of_below hb14 []) (by simp))
          have HU3 := qd (HU2.out.mod (Mod.of_below hb14 []) (by simp))
          have HB3 := qd (below2 HBb.out hb14)
          have hj2 := at_Jobs HA3.out
          unfold coreP at hj2
          have HJ2 := qd hj2
          clear hb14 hj2
          by_cases hsl : L < s
          ·have hsI : (L : Int) < (s : Int) := by omega
           have hft : fr = true := by
            cases hf : fr with
            | true => rfl
            | false =>
             have := HSs.out hf
             omega
           subst hft
           go_wp2_with fail
           refine HJ2.out.mono ?_
           rintro y w15 ⟨A2, c2, rfl, -, hb15⟩
           rw [← HNj.out]
           have HA4 := qd (HA3.out.below hb15)
           have HX4 := qd (HX3.out.mod (Mod.of_below hb15 []) (by simp))
           have HU4 := qd (HU3.out.mod (Mod.of_below hb15 []) (by simp))
           have HB4 := qd (below2 HB3.out hb15)
           have hnd := at_Nodes HA4.out
           unfold coreP at hnd
           have HNd := qd hnd
           clear hb15 hnd
           go_wp2_with fail
           refine HNd.out.mono ?_
           rintro y w16 ⟨rfl, rfl⟩
           go_wp2
           go_roundw
           all_goals first | exact ⟨⟨j + 1, ws + 1, U2, G', a', ids', HJ.out, rfl, rfl, HWj.out, HV11.out, HSW, HA4, HU4, HUg, HX4, HCg, HS, HB4⟩, HMe.out⟩ | exact ⟨j + 1, ws + 1, U2, G', a', ids', HJ.out, rfl, rfl, HWj.out, HV11.out, HSW, HA4, HU4, HUg, HX4, HCg, HS, HB4⟩ | exact HMe.out
          ·have hsI : ¬ (L : Int) < (s : Int) := by omega
           go_wp2_with fail
           refine HJ2.out.mono ?_
           rintro y w15 ⟨A2, c2, rfl, -, hb15⟩
           rw [← HNj.out]
           have HA4 := qd (HA3.out.below hb15)
           have HX4 := qd (HX3.out.mod (Mod.of_below hb15 []) (by simp))
           have HU4 := qd (HU3.out.mod (Mod.of_below hb15 []) (by simp))
           have HB4 := qd (below2 HB3.out hb15)
           have hnd := at_Nodes HA4.out
           unfold coreP at hnd
           have HNd := qd hnd
           clear hb15 hnd
           go_wp2_with fail
           refine HNd.out.mono ?_
           rintro y w16 ⟨rfl, rfl⟩
           go_wp2
           go_roundw
           all_goals first | exact ⟨⟨j + 1, ws + 1, U2, G', a', ids', HJ.out, rfl, rfl, HWj.out, HV11.out, HSW, HA4, HU4, HUg, HX4, HCg, HS, HB4⟩, HMe.out⟩ | exact ⟨j + 1, ws + 1, U2, G', a', ids', HJ.out, rfl, rfl, HWj.out, HV11.out, HSW, HA4, HU4, HUg, HX4, HCg, HS, HB4⟩ | exact HMe.out
     ·by_cases hk0 : act.kind = 0
      ·have HOp := qd (op_put2 HA.out e HE5.out)
       rw [errV_pos E (by omega)] at HOp
       go_wp2_with fail
       refine HOp.out.mono ?_
       rintro y w8 (⟨rfl, G', hA', hsub, hmod⟩ | ⟨a', ids', del, add, rfl, hws, G', hA', hsub, hmod⟩)
       ·have hA8 := qd hA'
        have hS8 := qd (show ∀ q ∈ G', w.heap.size ≤ q from fun q hq => by
         rcases hsub q hq with h1 | h1
         ·exact HS.out q h1
         ·omega)
        have hU8 := qd (HU.out.mod hmod HUg.out)
        have hX8 := qd (HBx.out.mod hmod HCg.out)
        have hug := qd (show ub ∉ G' ∧ cg ∉ G' from by
         have k1 := HU.out.lt
         have k2 := HBx.out.lt
         refine ⟨fun hq => ?_, fun hq => ?_⟩
         ·rcases hsub _ hq with h1 | h1
          ·exact HUg.out h1
          ·omega
         ·rcases hsub _ hq with h1 | h1
          ·exact HCg.out h1
          ·omega)
        have hB8 := qd (HB.out.trans (hmod.below HS.out hsz))
        have HUg' := qd hug.out.1
        have HCg' := qd hug.out.2
        have HWj := qd (show ws ≤ j + 1 from by omega)
        clear hA' hsub hmod HOp b0 b1 b2 a0
        go_wp2
        go_roundw
        all_goals first | exact ⟨⟨j + 1, ws, U, G', a, ids, HJ.out, rfl, rfl, HWj.out, rfl, HSn, hA8, hU8, HUg', hX8, HCg', hS8, hB8⟩, HMe.out⟩ | exact ⟨j + 1, ws, U, G', a, ids, HJ.out, rfl, rfl, HWj.out, rfl, HSn, hA8, hU8, HUg', hX8, HCg', hS8, hB8⟩ | exact HMe.out
       ·have HW := qd (wrote HA.out hA' hws)
        have HS0x := HS
        have HA8 := qd hA'
        obtain ⟨q1, q2, q3, q4, q5, q6, q7, q8, q9⟩ := HW.out
        have hug := qd (show ub ∉ G' ∧ cg ∉ G' from by
         have k1 := HU.out.lt
         have k2 := HBx.out.lt
         refine ⟨fun hq => ?_, fun hq => ?_⟩
         ·rcases hsub _ hq with h1 | h1
          ·exact HUg.out h1
          ·omega
         ·rcases hsub _ hq with h1 | h1
          ·exact HCg.out h1
          ·omega)
        replace HS := qd (show ∀ q ∈ G', w.heap.size ≤ q from fun q hq => by
         rcases hsub q hq with h1 | h1
         ·exact HS0x.out q h1
         ·omega)
        replace HU := qd (HU.out.mod hmod HUg.out)
        replace HBx := qd (HBx.out.mod hmod HCg.out)
        replace HUg := qd hug.out.1
        replace HCg := qd hug.out.2
        replace HB := qd (HB.out.trans (hmod.below HS0x.out hsz))
        have hL33 := q8
        obtain ⟨L, hL⟩ : ∃ L, L = sumL Pool.left a ids := ⟨_, rfl⟩
        rw [← hL]
        have HLe := qd hL
        have HA0 := HA
        replace HA := qd hA'
        clear hA' hsub hmod hws hL hug b0 b1 b2 a0 HB5
        go_upto_region 18 with fail
        go_upto_region 19 with (refine wpList_store_mid rfl 43 (.tmp 15) (.tmp 80) rfl w8.heap.size 0 _ rfl rfl (new_there w8 _ 43) (by kernel_rfl) (by kernel_rfl) ?_)
        refine nameW (F := fun v => Blk v w8.heap.size 43 (bA (List.replicate 33 false)) ∧ Below w8.heap.size w8 v) ⟨by rw [bA0]; exact (new_sets w8 _ 43).1, (new_sets w8 _ 43).2⟩ ?_
        rintro w9 ⟨hT9, hb9⟩
        replace HA := qd (HA.out.below hb9)
        have hul8 := HU.out.lt
        have hcl8 := HBx.out.lt
        have hz8 := HB.out.size
        replace HU := qB hb9 HU
        replace HBx := qB hb9 HBx
        replace HB := qd (below2 HB.out hb9)
        have HTg := qd (show w8.heap.size ∉ G' from fun hq => by have := (HA8.out.facts.2.2.2.2.2.2.2.2.2.2.1 _ hq).1; omega)
        obtain ⟨tb, htb⟩ : ∃ tb, tb = w8.heap.size := ⟨_, rfl⟩
        rw [← htb] at hT9 HTg ⊢
        have HDj := qd (show ub ≠ tb ∧ cg ≠ tb ∧ ub ≠ cg ∧ tb < w9.heap.size ∧ ub < w9.heap.size ∧ cg < w9.heap.size ∧ w.heap.size ≤ tb ∧ w.heap.size ≤ ub from by
         have h1 := hT9.lt
         have h2 := HU.out.lt
         have h3 := HBx.out.lt
         have h4 := HUl.out
         have h5 := HCl.out
         refine ⟨by omega, by omega, by omega, by omega, by omega, by omega, by omega, by omega⟩)
        have HT := qd hT9
        have hJ := at_Jobs HA.out
        unfold coreP at hJ
        have HJo := qd hJ
        clear hT9 hb9 htb hul8 hcl8 hz8 hJ HA8
        go_wp2_with fail
        refine HJo.out.mono ?_
        rintro y w10 ⟨AJ, cJ, rfl, hOJ, hb10⟩
        replace HA := qd (HA.out.below hb10)
        replace HU := qB hb10 HU
        replace HBx := qB hb10 HBx
        replace HT := qB hb10 HT
        replace HB := qd (below2 HB.out hb10)
        have hz10 := hb10.size
        obtain ⟨nj, hnj⟩ : ∃ nj, nj = ids'.length := ⟨_, rfl⟩
        rw [← hnj] at hOJ ⊢
        have HNj := qd hnj
        have hnj33 : nj ≤ 33 := by omega
        have HOJ := qd hOJ
        have HZ := qd (Nat.le_trans (Nat.le_of_lt HDj.out.2.2.2.1) hz10)
        have HSA := qd (SoonAt.start K a' ids' (ws + 1) HSn.out.len)
        have HM0 := qd (Mod.refl [ub, tb] w10)
        clear hOJ hb10 hnj HJo
        go_wp2
        go_loopw [16, 17, 19, 84] (fun v16 v17 _ v84 wr => ∃ (i s f : Nat) (U1 : List Nat) (T : List Bool), i ≤ nj ∧ v84 = .int .i64 (i : Int) ∧ v16 = .int .i64 (s : Int) ∧ v17 = .bool (decide (f = 1)) ∧ Hid (SoonAt K a' ids' (ws + 1) U i U1 T s (decide (f = 1))) ∧ Hid (Blk wr ub 33 (uA U1)) ∧ Hid (Blk wr tb 43 (bA T)) ∧ Hid (Mod [ub, tb] w10 wr)) (fun _ _ _ v84 _ => nj - (intOf v84).toNat)
        case atStart => exact ⟨0, 0, 0, U, _, by omega, rfl, rfl, rfl, HSA, HU, HT, HM0⟩
        case round =>
         clear HSA HM0 HU HT
         obtain ⟨i, s, f, U1, T, hi, rfl, rfl, rfl, HSA, HU, HT, HM⟩ := hrel
         obtain ⟨fr, hfr⟩ : ∃ fr, fr = decide (f = 1) := ⟨_, rfl⟩
         rw [← hfr] at HSA ⊢
         have HFr := qd hfr
         clear hfr
         have HCx := qd (HBx.out.mod HM.out (by have := HDj.out; simp <;> omega))
         by_cases hlti : i < nj
         ·have hltI : (i : Int) < (nj : Int) := by omega
          have hi0 : (0 : Int) ≤ (i : Int) := by omega
          obtain ⟨id, hid⟩ : ∃ id, ids'[i]? = some id := ⟨_, List.getElem?_eq_getElem (by have := HNj.out; omega)⟩
          have hidm := List.mem_of_getElem? hid
          have hid33 := q2 id hidm
          have hlf1 := q5 id hidm
          have hlf2 := q7 id hidm
          obtain ⟨t1, t2, t3⟩ := HSA.out.at_ q6 hid hid33
          have hsle : s ≤ 33000 := by rw [HSA.out.sum]; exact sum_take_le q7 q4 i
          have HNx := qd (HSA.out.next q6 hid hid33)
          obtain ⟨gj, oj, hAJ, hgJ, hcJ⟩ := (Reads.of_own HOJ.out).2 (by omega)
          have hgl : w9.heap.size ≤ gj := by
           rcases own_caps HOJ.out with ⟨_, hz, _⟩ | ⟨g3, h3, _, h4, _⟩
           ·omega
           ·rw [hAJ] at h3
            simp only [Option.some.injEq, Addr.mk.injEq] at h3
            omega
          have hgn : gj ∉ [ub, tb] := by have := HDj.out; simp; omega
          have hkp := fun (o : Nat) (v : Value) (hh : w10.cell? ⟨gj, o, none⟩ = some v) => show wr.cell? ⟨gj, o, none⟩ = some v from (World.cell?_of_block (HM.out.block gj hgJ hgn)).trans hh
          obtain ⟨kk, hkk⟩ : ∃ kk, kk = kd a' id := ⟨_, rfl⟩
          obtain ⟨lf, hlf⟩ : ∃ lf, lf = a'.left id := ⟨_, rfl⟩
          obtain ⟨u0, hu0e⟩ : ∃ u0, u0 = U.getD id 0 := ⟨_, rfl⟩
          have s0 := hkp _ _ (hcJ (i * 3) _ (jobs_at hid (q := 0) rfl))
          have s1c : wr.cell? ⟨gj, oj + i * 3 + 1, none⟩ = some (.int .i64 (kk : Int)) := by rw [hkk]; exact hkp _ _ (hcJ (i * 3 + 1) _ (jobs_at hid (q := 1) rfl))
          have s2 : wr.cell? ⟨gj, oj + i * 3 + 2, none⟩ = some (.int .i64 (lf : Int)) := by rw [hlf]; exact hkp _ _ (hcJ (i * 3 + 2) _ (jobs_at hid (q := 2) rfl))
          have hdue := fun h => soon_due HSn.out hid33 h
          rw [← hlf] at hlf1 hlf2 HNx
          rw [← hu0e] at HNx t2 hdue
          have HNxt := qd (Nat.succ_le_of_lt hlti)
          have HMi := qd (fewer_rounds hlti)
          have hlU := HSA.out.len
          have hlT := HSA.out.lenT
          subst hAJ
          clear hkp hcJ hgn hgl hid hidm HSA t3 hlf hkk hu0e
          go_upto_region 23 with fail
          refine nameB 47 #[.int .i64 (id : Int), .int .i64 (kk : Int), .int .i64 (lf : Int)] ?_
          rintro w11 ⟨hJ5, hb11⟩
          obtain ⟨jb, hjb⟩ : ∃ jb, jb = wr.heap.size := ⟨_, rfl⟩
          rw [← hjb] at hJ5 ⊢
          have HDb := qd (show jb ≠ ub ∧ jb ≠ tb ∧ jb ≠ cg from by
           have h1 := HU.out.lt
           have h2 := HT.out.lt
           have h3 := HCx.out.lt
           refine ⟨by omega, by omega, by omega⟩)
          have HJb := qd hJ5
          replace HU := qB hb11 HU
          replace HT := qB hb11 HT
          replace HCx := qB hb11 HCx
          replace HM := qd (HM.out.then (Mod.of_below hb11 [ub, tb]))
          have x0 := hJ5.cell 0
          have x2 := hJ5.cell 2
          simp only [gl] at x0 x2
          have ct := bA_at HT.out (k := id) (by rw [hlT]; exact hid33)
          rw [t1] at ct
          have ft := HT.out.frozen id
          have hn0 : ¬ (id : Int) < 0 := by omega
          have hn1 : ¬ (32 : Int) < (id : Int) := by omega
          have hn2 : (0 : Int) ≤ (id : Int) := by omega
          have hn3 : (id : Int) < 33 := by omega
          have hn4 : ¬ (lf : Int) < 1 := by omega
          clear hJ5 hb11 hjb s0 s1c s2
          go_upto_region 26 with fail
          refine nameW (F := fun v => Blk v tb 43 (bA (T.set id true)) ∧ Mod [tb] w11 v) ⟨bA_set HT.out id true, (Mod.refl [tb] w11).sl id (.bool true)⟩ ?_
          rintro w12 ⟨hT, hm⟩
          replace HT := qd hT
          replace HU := qd (HU.out.mod hm (by have := HDj.out; simp; omega))
          replace HCx := qd (HCx.out.mod hm (by have := HDj.out; simp; omega))
          replace HJb := qd (HJb.out.mod hm (by have := HDb.out; simp; omega))
          replace HM := qd (HM.out.then (hm.more (by simp)))
          have x0 := HJb.out.cell 0
          have x2 := HJb.out.cell 2
          simp only [gl] at x0 x2
          have cu := uA_at HU.out (k := id) (by rw [hlU]; exact hid33)
          rw [t2] at cu
          have fu := HU.out.frozen id
          have cc0 := HCx.out.cell 0
          simp only [gl] at cc0
          clear hT hm ct ft
          go_upto_region 27 with fail
          obtain ⟨s1, hs1⟩ : ∃ s1, s1 = s + lf := ⟨_, rfl⟩
          rw [← hs1] at HNx
          try rw [show (s : Int) + (lf : Int) = (s1 : Int) from by omega]
          have HS1b := qd (show 1 ≤ s1 ∧ s1 ≤ 100000 from by omega)
          clear hs1
          by_cases hu0 : u0 = 0
          ·rw [hu0] at cu
           have hnx := HNx.out
           rw [if_pos hu0, decide_eq_true hu0, Bool.or_true] at hnx
           obtain ⟨q1, hq1⟩ : ∃ q1, q1 = ws + 1 + wrB K s1 := ⟨_, rfl⟩
           rw [← hq1] at hnx
           have HNa := qd hnx
           have HQ1 := qd (show (wrB K s1 : Int) + (ws : Int) + 1 = q1 ∧ ws + 1 ≤ q1 ∧ wrB K s1 ≤ 200000 from by
            have h1 : (s1 - 1) / K ≤ s1 - 1 := Nat.div_le_self _ _
            have h2 : wrB K s1 = (s1 - 1) / K + 2 := rfl
            have h3 := HS1b.out
            refine ⟨by omega, by omega, by omega⟩)
           have hpw := fun V => plan_Writes s1 K HS1b.out HKk.out.1 V
           rw [← HKk.out.2] at hpw
           have HPw := qd hpw
           clear hq1 hnx HNx hdue hu0 hpw
           go_upto_region 28 with fail
           refine rT (fun (w' : World) => w'.cell? ⟨jb, 0, none⟩ = some (.int .i64 (id : Int)) ∧ w'.cell? ⟨cg, 0, none⟩ = some (.int .i64 k)) [9] ?_
           have hHeld := (⟨x0, cc0⟩ : _ ∧ _)
           refine vW 0 rfl ?_
           refine vT 1 rfl ?_
           refine vW 2 rfl ?_
           refine vW 3 rfl ?_
           refine vW 4 rfl ?_
           refine vT 5 rfl ?_
           refine nextT (i := 6) (o := ⟨some 125, _, _, _, _, _⟩) rfl (by kernel_rfl) (fun Kk hK => ?_)
           go_simp
           refine (HPw.out _).mono ?_
           rintro y w14 ⟨rfl, rfl⟩
           have hHeld := (⟨x0, cc0⟩ : _ ∧ _)
           refine hK.out _ _ (fun _ => hHeld) ?_
           clear hK Kk
           try simp only [pt]
           refine takeW (i := 7) (oi := ⟨some 126, _, _, _, _, _⟩) (v := .int .i64 (q1 : Int)) rfl (by kernel_rfl) (by kernel_rfl) (by kernel_rfl) (by rfl) (fun _ _ _ h => h) (Or.inl ⟨by rfl, ?_⟩) hHeld ?_
           ·rintro w -
            go_simp
            all_goals (rw [i64_le (by have := HQ1.out; omega)]; have := HQ1.out; omega)
           try simp only [pt]
           refine vW 8 rfl ?_
           refine nextT (i := 9) (o := ⟨none, _, _, _, _, _⟩) rfl (by kernel_rfl) (fun Kk hK => ?_)
           go_simp
           refine hK.out _ _ (fun h => absurd (by decide) h) ?_
           clear hK Kk
           try simp only [pt]
           refine doneT (by kernel_rfl) ?_ _
           refine nameW (F := fun v => Blk v ub 33 (uA (U1.set id q1)) ∧ Mod [ub] w12 v) ⟨uA_set (HU.out.mod (Mod.drewN [] w12 1) (by simp)) id q1, ((Mod.refl [ub] w12).then (Mod.drewN [ub] _ 1)).sl id (.int .i64 (q1 : Int))⟩ ?_
           rintro w13 ⟨hU, hm⟩
           have HUa := qd hU
           replace HT := qd (HT.out.mod hm (by have := HDj.out; simp; omega))
           replace HJb := qd (HJb.out.mod hm (by have := HDb.out; simp; omega))
           replace HM := qd (HM.out.then (hm.more (by simp)))
           have x0 := HJb.out.cell 0
           simp only [gl] at x0
           have cv := uA_at HUa.out (k := id) (by rw [List.length_set, hlU]; exact hid33)
           rw [getD_set (by rw [hlU]; exact hid33), if_pos rfl] at cv
           have hq0 : ¬ (q1 : Int) < (ws : Int) + 1 := by have := HQ1.out; omega
           clear hU hm cu fu cc0
           go_wp2
           go_roundw
           all_goals first | exact ⟨⟨i + 1, s1, 1, U1.set id q1, T.set id true, HNxt.out, rfl, rfl, rfl, HNa, HUa, HT, HM⟩, HMi.out⟩ | exact ⟨i + 1, s1, 1, U1.set id q1, T.set id true, HNxt.out, rfl, rfl, rfl, HNa, HUa, HT, HM⟩ | exact HMi.out
          ·have hdu := hdue hu0
           have hnx := HNx.out
           rw [if_neg hu0, decide_eq_false hu0, Bool.or_false, HFr.out] at hnx
           have HFv := qd (show Value.bool fr = .bool (decide (f = 1)) from by rw [HFr.out])
           have HNa := qd hnx
           have hu0' : ¬ (u0 : Int) = 0 := by omega
           have hdu' : ¬ (u0 : Int) < (ws : Int) + 1 := by omega
           have HUa := HU
           clear hdue hnx HNx
           go_wp2
           go_roundw
           all_goals first | exact ⟨⟨i + 1, s1, f, U1, T.set id true, HNxt.out, rfl, rfl, HFv.out, HNa, HUa, HT, HM⟩, HMi.out⟩ | exact ⟨i + 1, s1, f, U1, T.set id true, HNxt.out, rfl, rfl, HFv.out, HNa, HUa, HT, HM⟩ | exact HMi.out
         ·obtain rfl : i = nj := by omega
          have hltI : ¬ (i : Int) < (i : Int) := by omega
          have hlU := HSA.out.len
          have hlT := HSA.out.lenT
          have hsm := HSA.out.sum
          have hth := HSA.out.thr
          rw [HNj.out, List.take_length] at hsm hth
          have hsle : s ≤ 33000 := by omega
          go_upto_region 33 with fail
          refine nameW (F := fun v => Blk v ub 33 (uA U1) ∧ Blk v tb 43 (bA T) ∧ Mod [ub, tb] w10 v) ⟨HU.out, HT.out, HM.out⟩ ?_
          rintro w13 ⟨hU, hT, hM⟩
          have hrg := bA_range hT
          have HU1 := qd hU
          have HM1 := qd hM
          have hlb : (bA T).toList.length = 33 := by unfold bA; simp [hlT]
          have hbk := fun q (hq : q < 33) => show (bA T)[q]? = some (.bool (T.getD q false)) from by
           unfold bA
           rw [List.getElem?_toArray, List.getElem?_map, List.getD_eq_getElem?_getD, List.getElem?_eq_getElem (by omega)]
           rfl
          have HBk := qd hbk
          have HLb := qd hlb
          have HRg := qd hrg
          have HSE := qd (SoonEnd.start ids' hlU)
          have HMM := qd (Mod.refl [ub] w13)
          have HSm := qd hsm
          have HTh := qd hth
          have HSA1 := HSA
          clear hU hT hM hrg hlb hbk hsm hth HU HT HM HSA
          go_wp2_with (refine wpList_load_mid rfl 43 (.tmp 15) rfl tb 0 rfl _ _ HRg.out (by rfl) rfl (by rw [HLb.out]; rfl) ?_)
          go_loopw [20, 21, 136] (fun _ _ v136 wr => ∃ (q : Nat) (U2 : List Nat), q ≤ 33 ∧ v136 = .int .i64 (q : Int) ∧ Hid (SoonEnd ids' U1 q U2) ∧ Hid (Blk wr ub 33 (uA U2)) ∧ Hid (Mod [ub] w13 wr)) (fun _ _ v136 _ => 33 - (intOf v136).toNat)
          case atStart => exact ⟨0, U1, by omega, rfl, HSE, HU1, HMM⟩
          case round =>
           clear HSE HMM
           obtain ⟨q, U2, hq, rfl, HSE, HU2, HMM⟩ := hrel
           by_cases hltq : q < 33
           ·have hltQ : (q : Int) < 33 := by omega
            have hq0 : (0 : Int) ≤ (q : Int) := by omega
            have hix := run_ix (w := wr) hltq (HBk.out q hltq)
            have HNq := qd (Nat.succ_le_of_lt hltq)
            have HMq := qd (fewer_rounds hltq)
            have fu := HU2.out.frozen q
            have cu := uA_at HU2.out (k := q) (by rw [HSE.out.len]; exact hltq)
            have HNx := qd (HSE.out.next hltq)
            cases hb : T.getD q false with
            | false =>
             have hni : q ∉ ids' := fun hh => by
              have := (HTh.out q hltq).2 hh
              rw [hb] at this
              cases this
             have hnx := HNx.out
             rw [if_neg hni] at hnx
             have HNa := qd hnx
             rw [hb] at hix
             clear hnx HNx hni hb
             go_upto_region 38 with fail
             refine nameW (F := fun v => Blk v ub 33 (uA (U2.set q 0)) ∧ Mod [ub] wr v) ⟨show Blk (wr.setCell ⟨ub, q, none⟩ (.int .i64 0)) ub 33 (uA (U2.set q 0)) from uA_set HU2.out q 0, (Mod.refl [ub] wr).sl q (.int .i64 0)⟩ ?_
             rintro w14 ⟨hU, hm⟩
             have HUa := qd hU
             have HMa := qd (HMM.out.then hm)
             clear hU hm cu fu
             go_wp2
             go_roundw
             all_goals first | exact ⟨⟨q + 1, U2.set q 0, HNq.out, rfl, HNa, HUa, HMa⟩, HMq.out⟩ | exact ⟨q + 1, U2.set q 0, HNq.out, rfl, HNa, HUa, HMa⟩ | exact HMq.out
            | true =>
             have hin : q ∈ ids' := (HTh.out q hltq).1 hb
             have hnx := HNx.out
             rw [if_pos hin] at hnx
             have HNa := qd hnx
             rw [hb] at hix
             clear hnx HNx hin hb cu fu
             go_wp2
             go_roundw
             all_goals first | exact ⟨⟨q + 1, U2, HNq.out, rfl, HNa, HU2, HMM⟩, HMq.out⟩ | exact ⟨q + 1, U2, HNq.out, rfl, HNa, HU2, HMM⟩ | exact HMq.out
           ·obtain rfl : q = 33 := by omega
            have hltQ : ¬ (33 : Int) < 33 := by omega
            have hHA := HA.out.mod HM1.out (fun q hq => by
             have := HDj.out
             have h1 := HUg.out
             have h2 := HTg.out
             simp at hq
             rcases hq with rfl | rfl
             ·exact ⟨h1, by omega⟩
             ·exact ⟨h2, by omega⟩)
            have hHA2 := hHA.mod HMM.out (fun q hq => by
             have := HDj.out
             have h1 := HUg.out
             simp at hq
             subst hq
             exact ⟨h1, by omega⟩)
            have HA2 := qd hHA2
            have HX2 := qd ((HBx.out.mod HM1.out (by have := HDj.out; simp; omega)).mod HMM.out (by have := HDj.out; simp; omega))
            have HBb := qd ((HB.out.trans (HM1.out.below (by have := HDj.out; simp; omega) HB.out.size)).trans (HMM.out.below (by have := HDj.out; simp; omega) (by have h1 := HB.out.size; have h2 := HM1.out.size; omega)))
            have hlf := at_Left HA2.out
            unfold coreP at hlf
            rw [← HSm.out] at hlf
            have HLf := qd hlf
            have HSW := qd (soon_write HSn.out HKk.out.1.1 q1 q5 q2 (by rw [← HNj.out]; exact HSA1.out) HSE.out)
            have HSs := qd (soon_sum HSn.out q6 q1 q2 (by rw [← HNj.out]; exact HSA1.out))
            rw [← HLe.out] at HSs
            clear hHA hHA2 hlf
            have HV11 := qd (show Value.int .i64 (s : Int) = .int .i64 ((sumL Pool.left a' ids' : Nat) : Int) from by rw [← HSm.out])
            have HWj := qd (show ws + 1 ≤ j + 1 from by omega)
            have hn5 : ¬ (a'.Ns.length : Int) + 1 < (i : Int) := by
             have h1 := HNj.out
             omega
            go_wp2_with fail
            refine HLf.out.mono ?_
            rintro y w14 ⟨rfl, hb14⟩
            have HA3 := qd (HA2.out.below hb14)
            have HX3 := qd (HX2.out.mod (Mod.of_below hb14 []) (by simp))
            have HU3 := qd (HU2.out.mod (Mod.of_below hb14 []) (by simp))
            have HB3 := qd (below2 HBb.out hb14)
            have hj2 := at_Jobs HA3.out
            unfold coreP at hj2
            have HJ2 := qd hj2
            clear hb14 hj2
            by_cases hsl : L < s
            ·have hsI : (L : Int) < (s : Int) := by omega
             have hft : fr = true := by
              cases hf : fr with
              | true => rfl
              | false =>
               have := HSs.out hf
               omega
             subst hft
             go_wp2_with fail
             refine HJ2.out.mono ?_
             rintro y w15 ⟨A2, c2, rfl, -, hb15⟩
             rw [← HNj.out]
             have HA4 := qd (HA3.out.below hb15)
             have HX4 := qd (HX3.out.mod (Mod.of_below hb15 []) (by simp))
             have HU4 := qd (HU3.out.mod (Mod.of_below hb15 []) (by simp))
             have HB4 := qd (below2 HB3.out hb15)
             have hnd := at_Nodes HA4.out
             unfold coreP at hnd
             have HNd := qd hnd
             clear hb15 hnd
             go_wp2_with fail
             refine HNd.out.mono ?_
             rintro y w16 ⟨rfl, rfl⟩
             go_wp2
             go_roundw
             all_goals first | exact ⟨⟨j + 1, ws + 1, U2, G', a', ids', HJ.out, rfl, rfl, HWj.out, HV11.out, HSW, HA4, HU4, HUg, HX4, HCg, HS, HB4⟩, HMe.out⟩ | exact ⟨j + 1, ws + 1, U2, G', a', ids', HJ.out, rfl, rfl, HWj.out, HV11.out, HSW, HA4, HU4, HUg, HX4, HCg, HS, HB4⟩ | exact HMe.out
            ·have hsI : ¬ (L : Int) < (s : Int) := by omega
             go_wp2_with fail
             refine HJ2.out.mono ?_
             rintro y w15 ⟨A2, c2, rfl, -, hb15⟩
             rw [← HNj.out]
             have HA4 := qd (HA3.out.below hb15)
             have HX4 := qd (HX3.out.mod (Mod.of_below hb15 []) (by simp))
             have HU4 := qd (HU3.out.mod (Mod.of_below hb15 []) (by simp))
             have HB4 := qd (below2 HB3.out hb15)
             have hnd := at_Nodes HA4.out
             unfold coreP at hnd
             have HNd := qd hnd
             clear hb15 hnd
             go_wp2_with fail
             refine HNd.out.mono ?_
             rintro y w16 ⟨rfl, rfl⟩
             go_wp2
             go_roundw
             all_goals first | exact ⟨⟨j + 1, ws + 1, U2, G', a', ids', HJ.out, rfl, rfl, HWj.out, HV11.out, HSW, HA4, HU4, HUg, HX4, HCg, HS, HB4⟩, HMe.out⟩ | exact ⟨j + 1, ws + 1, U2, G', a', ids', HJ.out, rfl, rfl, HWj.out, HV11.out, HSW, HA4, HU4, HUg, HX4, HCg, HS, HB4⟩ | exact HMe.out
      ·have HWj := qd (show ws ≤ j + 1 from by omega)
       go_wp2
       go_roundw
       all_goals first | exact ⟨⟨j + 1, ws, U, G, a, ids, HJ.out, rfl, rfl, HWj.out, rfl, HSn, HA, HU, HUg, HBx, HCg, HS, HB⟩, HMe.out⟩ | exact ⟨j + 1, ws, U, G, a, ids, HJ.out, rfl, rfl, HWj.out, rfl, HSn, HA, HU, HUg, HBx, HCg, HS, HB⟩ | exact HMe.out
    ·obtain rfl : j = ma := by omega
     have hlt' : ¬ (j : Int) < (j : Int) := by omega
     go_wp2
     go_ret
     exact ⟨rfl, HB.out⟩
end Go.Proofs.YtfojgfddgplinaaGreatDoor
