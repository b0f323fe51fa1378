/- CacheLasts: the last so many used keys are there. -/
import Derived.Test.YtfcecmcnmgagnaaGreatDoorLaw21a
import Derived.Test.YtfcecmcnmgagnaaGreatDoorSqM
import Derived.Test.YtfcecmcnmgagnaaGreatDoorLaneQ
import Derived.Test.YtfcecmcnmgagnaaGreatDoorKit
namespace Go.Proofs.YtfcecmcnmgagnaaGreatDoor
set_option maxRecDepth 100000
set_option maxHeartbeats 4000000
open Go.RowKit AmC AmK
variable {D : List Ent} {e : Ent} {M k mm x : Nat}
def intsV (l : List Int) : List Value := l.map fun x => .int .i64 x
def comeAt (l : List Nat) (ks : List Int) (j : Nat) : Ent := entOf l ⟨0, ks.getD j 0, (j : Int)⟩
def comes (l : List Nat) (ks : List Int) (j : Nat) : List Ent := (List.range j).map (comeAt l ks)
theorem comes_succ (l : List Nat) (ks : List Int) (j : Nat) : comes l ks (j + 1) = comes l ks j ++ [comeAt l ks j] := by unfold comes; rw [List.range_succ, List.map_append]; rfl
theorem key_cell {w : World} {base nk : Nat} {B : Option Addr} {ks : List Int} (hR : Reads w base 1 B nk (intsV ks)) (hl : ks.length = nk) {j : Nat} (hj : j < nk) : ∃ g off, B = some ⟨g, off, none⟩ ∧ g < base ∧ w.cell? ⟨g, off + j, none⟩ = some (.int .i64 (ks.getD j 0)) := by
 obtain ⟨g, off, h1, h2, h3⟩ := hR.2 (by omega)
 refine ⟨g, off, h1, h2, h3 j _ ?_⟩
 unfold intsV
 rw [List.getElem?_map, List.getD_eq_getElem?_getD, List.getElem?_eq_getElem (by omega)]
 rfl
theorem look_take (hn : (D.map Ent.key).Nodup) (h : D[mm]? = some e) : look (D.take M) e.key = if mm < M then some e else none := by
 split
 ·rename_i hlt
  exact look_some (hn.sublist ((List.take_sublist _ _).map _)) (List.mem_of_getElem? (show (D.take M)[mm]? = some e by rw [List.getElem?_take, if_pos hlt]; exact h))
 ·rename_i hlt
  unfold look
  rw [List.find?_eq_none]
  intro x hx hk
  have hk' : x.key = e.key := by simpa using hk
  have he : e ∈ D.drop M := List.mem_of_getElem? (show (D.drop M)[mm - M]? = some e by rw [List.getElem?_drop, show M + (mm - M) = mm by omega]; exact h)
  rw [← List.take_append_drop M D, List.map_append, List.nodup_append] at hn
  exact hn.2.2 _ (List.mem_map_of_mem hx) _ (List.mem_map_of_mem he) hk'
theorem getV_take (hn : (D.map Ent.key).Nodup) (h : D[mm]? = some e) : getV (D.take M) e.key = .tuple #[.int .u64 (if mm < M then (e.val : Int) else 0), .bool (decide (mm < M))] := by
 unfold getV
 rw [look_take hn h]
 split <;> simp_all
structure MetAt (base : Nat) (w : World) (v : Value) (L : List Nat) (F : List Nat) (xb : Nat) : Prop where
 row : w.ownsRow base 33 1 v L.length (numsV L)
 gs : ∀ g, v.ownBlock = some g → g ∉ F ∧ g ≠ xb
section
variable {base xb : Nat} {w w' : World} {v v' : Value} {L F F' : List Nat}
theorem MetAt.new (hb : base ≤ w.heap.size) (hF : ∀ q ∈ F, q < w.heap.size) (hx : xb < w.heap.size) : MetAt base (w.alloc (.cells #[] 33)) (.slice (some ⟨w.heap.size, 0, none⟩) 0 0) [] F xb :=
 ⟨own_none w base 33 1 hb, fun g hg => by simp [Value.ownBlock] at hg; exact ⟨fun hq => by have := hF g hq; omega, by omega⟩⟩
theorem MetAt.to (h : MetAt base w v L F xb) (h2 : ∀ q ∈ F', q ∈ F ∨ w.heap.size ≤ q) (hm : Mod F w w') : MetAt base w' v L F' xb :=
 ⟨ca_keep h.row hm (fun g hg => (h.gs g hg).1), fun g hg => ⟨fun hq => (h2 g hq).elim (h.gs g hg).1 (fun k => by have := (h.row.lt g hg).2; omega), (h.gs g hg).2⟩⟩
theorem MetAt.below (h : MetAt base w v L F xb) (hb : Below w.heap.size w w') : MetAt base w' v L F xb := ⟨ca_keep h.row (Mod.of_below hb []) (by simp), h.gs⟩
theorem MetAt.push (h : MetAt base w v L F xb) (hg : Grew w base v w' v') (ho : w'.ownsRow base 33 1 v' (L.length + 1) (numsV L ++ [.int .u64 (x : Int)])) (hF : ∀ q ∈ F, q < w.heap.size) (hx : xb < w.heap.size) : MetAt base w' v' (L ++ [x]) F xb := by
 refine ⟨by rw [List.length_append]; unfold numsV at ho ⊢; rw [List.map_append]; exact ho, fun g hgg => ?_⟩
 rcases hg.at_ with h1 | ⟨g2, h1, h2⟩
 ·rw [h1] at hgg; exact h.gs g hgg
 ·rw [h1] at hgg; cases hgg; exact ⟨fun hq => by have := hF g hq; omega, by omega⟩
end
theorem any_snoc {L : List Nat} {q : Nat} (h : L[q]? = some x) : ((L.take (q + 1)).any fun y => y == k) = (((L.take q).any fun y => y == k) || (x == k)) := by
 rw [List.take_add_one, h, List.any_append]; simp
theorem any_keys {L : List Ent} {n : Nat} (h : (L.map Ent.key).length = n) : (((L.map Ent.key).take n).any fun x => x == k) = true ↔ ∃ y ∈ L, y.key = k := by
 rw [List.take_of_length_le (by omega), List.any_eq_true]
 constructor
 ·rintro ⟨x, hx, hk⟩
  obtain ⟨y, hy, rfl⟩ := List.mem_map.1 hx
  exact ⟨y, hy, by simpa using hk⟩
 ·rintro ⟨y, hy, hk⟩
  exact ⟨_, List.mem_map_of_mem hy, by simp [hk]⟩
theorem take_snoc (h : D[mm]? = some e) : (D.take (mm + 1)).map Ent.key = (D.take mm).map Ent.key ++ [e.key] := by
 rw [List.take_add_one, h, List.map_append]; rfl
theorem info_u64m : (Tryz.prog.info? 33).map (fun i => (i.zero, i.size, i.bytes)) = some (some (.int .u64 0), 1, 8) := by kernel_rfl
theorem slty_u64m : SlTy Tryz.prog 24 33 1 8 := slTy Tryz.underlying24 info_u64m rfl (by decide) (by decide)
theorem law_lasts {E : Nat → Addr} (k m i : Int) (A : Option Addr) (n c : Nat) (l : List Nat) (B : Option Addr) (nk d : Nat) (ks : List Int) (w : World) (hE : Env w E w) (hl : l.length = n) (hll : ∀ x ∈ l, x < 18446744073709551616) (hR : Reads w w.heap.size 1 A n (numsV l)) (hlk : ks.length = nk) (hRk : Reads w w.heap.size 1 B nk (intsV ks)) : Calls Tryz.prog 3 #[cfgV k m i, .slice A n c, .slice B nk d] w fun e w' => e = .returned (.bool true) ∧ Below w.heap.size w w' := by
 have HE := qd hE
 have HR := qd hR
 have HRk := qd hRk
 have HL := qd hl
 have HLl := qd hll
 have HLk := qd hlk
 have hB0 := Blk.new w 23 #[.int .i64 k, .int .i64 m, .int .i64 i]
 have hb0 := (Below.refl w.heap.size w).alloc (Nat.le_refl _) (.cells #[.int .i64 k, .int .i64 m, .int .i64 i] 23)
 unfold cfgV
 clear hE hR hRk hl hll hlk
 go_in
 go_upto_region 1 with fail
 refine nameC (F := fun v => Blk v w.heap.size 23 #[.int .i64 k, .int .i64 m, .int .i64 i] ∧ Below w.heap.size w v) ⟨hB0, hb0⟩ ?_
 clear hB0 hb0
 rintro w1 ⟨hB1, hb1⟩
 obtain ⟨xb, hxb⟩ : ∃ xb, xb = w.heap.size := ⟨_, rfl⟩
 rw [← hxb] at hB1 ⊢
 have HX := qd hB1
 have HXl := qd (show w.heap.size ≤ xb from by omega)
 have HB := qd hb1
 have HE1 := qd (HE.out.next hb1)
 have HAl := qd (law46_alive HE1.out)
 clear hB1 hb1 hxb
 go_wp2_with fail
 refine HAl.out.mono ?_
 rintro y w2 ⟨rfl, hb2⟩
 replace HX := qB hb2 HX
 replace HB := qd (below2 HB.out hb2)
 replace HE1 := qd (HE1.out.next hb2)
 clear hb2 HAl
 by_cases hlong : n < 1 ∨ 220 < n ∨ 300 < nk
 ·have HCk := qd (plan_Check k m i w2 HE1.out.errs)
  unfold cfgV at HCk
  obtain ⟨c0, c1, c2⟩ := HX.out.c3
  by_cases g1 : n < 1
  ·have g1' : (n : Int) < 1 := by omega
   go_wp2
   go_ret
   exact ⟨rfl, HB.out⟩
  ·have g1' : ¬ (n : Int) < 1 := by omega
   by_cases g2 : 220 < n
   ·have g2' : (220 : Int) < (n : Int) := by omega
    go_wp2
    go_ret
    exact ⟨rfl, HB.out⟩
   ·have g2' : ¬ (220 : Int) < (n : Int) := by omega
    have g3 : 300 < nk := by omega
    have g3' : (300 : Int) < (nk : Int) := by omega
    go_wp2
    go_ret
    exact ⟨rfl, HB.out⟩
 have hn1 : ¬ (n : Int) < 1 := by omega
 have hn2 : ¬ (220 : Int) < (n : Int) := by omega
 have hn3 : ¬ (300 : Int) < (nk : Int) := by omega
 obtain ⟨c0, c1, c2⟩ := HX.out.c3
 have hck := plan_Check k m i w2 HE1.out.errs
 unfold cfgV at hck
 cases hcf : cfgOk k m i with
 | false =>
  rw [hcf] at hck
  have HCk := qd (show Calls Tryz.prog 5 #[.agg #[.int .i64 k, .int .i64 m, .int .i64 i]] w2 (fun e w' => e = .returned (.iface 262 (.pointer (some (E 1)))) ∧ Below w2.heap.size w2 w') from by rw [← errV_pos E (by omega : 1 ≤ 1)]; exact hck)
  clear hck hcf
  go_wp2_with fail
  refine HCk.out.mono ?_
  rintro y w3 ⟨rfl, hb3⟩
  replace HB := qd (below2 HB.out hb3)
  clear hb3 HCk
  go_wp2
  go_ret
  exact ⟨rfl, HB.out⟩
 | true =>
  rw [hcf, if_pos rfl] at hck
  have HCk := qd hck
  clear hck
  go_wp2_with fail
  refine HCk.out.mono ?_
  rintro y w3 ⟨rfl, hb3⟩
  replace HX := qB hb3 HX
  replace HB := qd (below2 HB.out hb3)
  replace HE1 := qd (HE1.out.next hb3)
  clear hb3 HCk c0 c1 c2
  obtain ⟨K, M, I, hK, hM, hk1, hm1, hi1⟩ := cfg_nat hcf
  have hI8 : 1 ≤ I ∧ I ≤ 8 := by
   unfold cfgOk inB at hcf
   simp at hcf
   omega
  have hnb := ca_New (lawH l) HE1.out k m i hcf K M I ⟨hK, hM, hk1, hm1, hi1⟩ hI8
  unfold cfgV at hnb
  have HNw := qd hnb
  have HKm := qd (And.intro hK (And.intro hM (And.intro hI8 hm1)))
  obtain ⟨c0, c1, c2⟩ := HX.out.c3
  clear hnb hcf hK hM hk1 hm1 hi1 hI8
  go_wp2_with fail
  refine HNw.out.mono ?_
  have HX0 := qd HX.out.lt
  rintro y w4 ⟨cb, F, rfl, hA4, hF4, hb4⟩
  replace HX := qB hb4 HX
  have HF := qd (show xb ∉ F ∧ ∀ q ∈ F, w.heap.size ≤ q from ⟨fun hg => by have := hF4 _ hg; have := HX0.out; omega, fun q hq => Nat.le_trans HB.out.size (hF4 q hq)⟩)
  have HA := qd (show CaAt w E (lawH l) K M I cb F w4 ((hist Ent.key (comes l ks 0)).take M) from by rw [show (hist Ent.key (comes l ks 0)).take M = [] from by unfold comes hist; simp]; exact hA4)
  have HB4 := qd (below2 HB.out hb4)
  clear hA4 hF4 hb4 HNw c0 c1 c2 HB HE1
  go_wp2
  go_loopw [9, 10, 11, 12, 13, 14, 56] (fun _ _ _ _ _ _ v56 wr => ∃ (j : Nat) (F : List Nat), j ≤ nk ∧ v56 = .int .i64 (j : Int) ∧ Hid (CaAt w E (lawH l) K M I cb F wr ((hist Ent.key (comes l ks j)).take M)) ∧ Hid (xb ∉ F ∧ ∀ q ∈ F, w.heap.size ≤ q) ∧ Hid (Blk wr xb 23 #[.int .i64 k, .int .i64 m, .int .i64 i]) ∧ Hid (Below w.heap.size w wr)) (fun _ _ _ _ _ _ v56 _ => nk - (intOf v56).toNat)
  case atStart => exact ⟨0, _, by omega, rfl, HA, HF, HX, HB4⟩
  case round =>
   clear HA HF HX HB4
   obtain ⟨j, F, hj, rfl, HA, HF, HX, HB⟩ := hrel
   by_cases hlt : j < nk
   ·have hlt' : (j : Int) < (nk : Int) := by omega
    have hj0 : (0 : Int) ≤ (j : Int) := by omega
    obtain ⟨g, off, hBv, hgl, m0⟩ := key_cell HRk.out HLk.out hlt
    have r0 := (World.cell?_of_block (HB.out.block g hgl)).trans m0
    have HJ := qd (Nat.succ_le_of_lt hlt)
    have HMe := qd (fewer_rounds hlt)
    subst hBv
    clear m0
    have HEn := qd (law_Entry A n c l ⟨0, ks.getD j 0, (j : Int)⟩ (by omega) HL.out wr (by
     obtain ⟨q1, q2⟩ := HR.out
     refine ⟨q1, fun hp => ?_⟩
     obtain ⟨g', off', z1, z2, z3⟩ := q2 hp
     have hzz := HB.out.size
     exact ⟨g', off', z1, by omega, fun jj u hu => (World.cell?_of_block (HB.out.block _ z2)).trans (z3 jj u hu)⟩))
    have HE5 := qd (entOf_ok HLl.out (by have := HL.out; omega) ⟨0, ks.getD j 0, (j : Int)⟩)
    obtain ⟨e, he⟩ : ∃ e, e = entOf l ⟨0, ks.getD j 0, (j : Int)⟩ := ⟨_, rfl⟩
    rw [← he] at HEn HE5
    have HEe := qd (show comeAt l ks j = e from he.symm)
    unfold actV entV at HEn
    clear he
    go_wp2_with fail
    refine HEn.out.mono ?_
    rintro y w6 ⟨rfl, hb6⟩
    replace HA := qd (HA.out.below hb6)
    replace HB := qd (below2 HB.out hb6)
    replace HX := qB hb6 HX
    clear hb6 HEn r0
    go_upto_region 12 with fail
    refine nameC (F := fun v => Blk v w6.heap.size 35 #[.int .u64 (e.key : Int), .int .u64 (e.val : Int), .int .u64 (e.hash : Int)] ∧ Below w6.heap.size w6 v) ⟨Blk.new w6 35 #[.int .u64 (e.key : Int), .int .u64 (e.val : Int), .int .u64 (e.hash : Int)], (Below.refl w6.heap.size w6).alloc (Nat.le_refl _) (.cells #[.int .u64 (e.key : Int), .int .u64 (e.val : Int), .int .u64 (e.hash : Int)] 35)⟩ ?_
    rintro w7 ⟨hB7, hb7⟩
    obtain ⟨ex, hex⟩ : ∃ ex, ex = w6.heap.size := ⟨_, rfl⟩
    rw [← hex] at hB7 ⊢
    replace HA := qd (HA.out.below hb7)
    replace HB := qd (below2 HB.out hb7)
    replace HX := qB hb7 HX
    obtain ⟨e0, e1, e2⟩ := hB7.c3
    have hpu := ca_Put HA.out e HE5.out HKm.out.2.1.1
    rw [cput_take HKm.out.2.1.1 (hist_nodup _), ← HEe.out, ← hist_snoc, ← comes_succ, HEe.out] at hpu
    have HPu := qd hpu
    clear hB7 hb7 hex hpu
    go_wp2_with fail
    refine HPu.out.mono ?_
    rintro y w8 ⟨rfl, F', hA8, hs8, hm8⟩
    have HA8 := qd hA8
    have HB8 := qd (HB.out.trans (hm8.below HF.out.2 HB.out.size))
    have HX8 := qd (HX.out.mod hm8 HF.out.1)
    have HF8 := qd (show xb ∉ F' ∧ ∀ q ∈ F', w.heap.size ≤ q from ⟨fun hg => (hs8 _ hg).elim HF.out.1 (fun k => by have := HX.out.lt; omega), fun q hq => (hs8 q hq).elim (HF.out.2 q) (fun k => by have := HB.out.size; omega)⟩)
    clear hA8 hs8 hm8 HPu
    go_wp2
    go_roundw
    all_goals first | exact ⟨⟨j + 1, F', HJ.out, rfl, HA8, HF8, HX8, HB8⟩, HMe.out⟩ | exact ⟨j + 1, F', HJ.out, rfl, HA8, HF8, HX8, HB8⟩ | exact HMe.out
   ·obtain rfl : j = nk := by omega
    have hlt' : ¬ (j : Int) < (j : Int) := by omega
    obtain rfl : m = (M : Int) := HKm.out.2.2.2
    go_upto_region 17 with fail
    refine nameC (F := fun v => MetAt w.heap.size v (.slice (some ⟨wr.heap.size, 0, none⟩) 0 0) [] F xb ∧ Below wr.heap.size wr v) ⟨MetAt.new HB.out.size (fun q hq => (HA.out.facts.1 q hq).1) HX.out.lt, (Below.refl wr.heap.size wr).alloc (Nat.le_refl _) (.cells #[] 33)⟩ ?_
    rintro w5 ⟨hal, hb5⟩
    obtain ⟨v0, hv0⟩ : ∃ v0 : Value, v0 = .slice (some ⟨wr.heap.size, 0, none⟩) 0 0 := ⟨_, rfl⟩
    rw [← hv0] at hal
    rw [show (Value.slice (some ⟨wr.heap.size, 0, none⟩) 0 0) = v0 from hv0.symm]
    replace HA := qd (HA.out.below hb5)
    replace HB := qd (below2 HB.out hb5)
    replace HX := qB hb5 HX
    obtain ⟨D, hD⟩ : ∃ D, D = hist Ent.key (comes l ks j) := ⟨_, rfl⟩
    have HD := qd (show Met_ Ent.key D (comes l ks j) 0 from hD ▸ met_all _)
    have HDn := qd (show (D.map Ent.key).Nodup from hD ▸ hist_nodup _)
    rw [← hD] at HA
    have HMt := qd (show MetAt w.heap.size w5 v0 ((D.take 0).map Ent.key) F xb from hal)
    have hwn : IntKind.i64.wrap ((j : Int) - 1) = (j : Int) - 1 := by rw [IntKind.wrap_i64]; omega
    clear hal hb5 hv0 hD
    go_wp2
    go_loopw [15, 16, 17, 18, 20, 21, 22] (fun v15 v16 _ _ _ _ _ wr => ∃ (t mm : Nat) (F : List Nat) (z : Int), t + mm ≤ j ∧ z = (t : Int) - 1 ∧ v16 = .int .i64 z ∧ Hid (Met_ Ent.key D (comes l ks t) mm) ∧ Hid (CaAt w E (lawH l) K M I cb F wr (D.take M)) ∧ Hid (xb ∉ F ∧ ∀ q ∈ F, w.heap.size ≤ q) ∧ Hid (Blk wr xb 23 #[.int .i64 k, .int .i64 (M : Int), .int .i64 i]) ∧ Hid (Below w.heap.size w wr) ∧ Hid (MetAt w.heap.size wr v15 ((D.take mm).map Ent.key) F xb)) (fun _ v16 _ _ _ _ _ _ => (intOf v16 + 1).toNat)
    case atStart => exact ⟨j, 0, F, _, by omega, rfl, rfl, HD, HA, HF, HX, HB, HMt⟩
    case round =>
     clear HA HF HX HB HMt HD
     rename_i v15 v16 _ _ _ _ _ wr
     obtain ⟨t, mm, F, z, htm, hz, rfl, HMe, HA, HF, HX, HB, HMt⟩ := hrel
     have hmD : mm ≤ D.length := HMe.out.2
     have hlen : ((D.take mm).map Ent.key).length = mm := by rw [List.length_map, List.length_take]; omega
     have hrow := HMt.out.row
     rw [hlen] at hrow
     obtain ⟨A15, c15, hv15⟩ := own_form hrow
     subst hv15
     have HRow := qd hrow
     have HLen := qd hlen
     clear hrow hmD hlen
     by_cases hlt2 : 0 < t
     ·obtain ⟨t, rfl⟩ : ∃ u, t = u + 1 := ⟨t - 1, by omega⟩
      obtain rfl : z = (t : Int) := by omega
      clear hz hlt2
      have hz0 : (0 : Int) ≤ (t : Int) := by omega
      have htj : t < j := by omega
      have htj' : (t : Int) < (j : Int) := by omega
      obtain ⟨g, off, hBv, hgl, m0⟩ := key_cell HRk.out HLk.out htj
      have r0 := (World.cell?_of_block (HB.out.block g hgl)).trans m0
      subst hBv
      clear m0
      have HEn := qd (law_Entry A n c l ⟨0, ks.getD t 0, (t : Int)⟩ (by omega) HL.out wr (by
       obtain ⟨q1, q2⟩ := HR.out
       refine ⟨q1, fun hp => ?_⟩
       obtain ⟨g', off', z1, z2, z3⟩ := q2 hp
       have hzz := HB.out.size
       exact ⟨g', off', z1, by omega, fun jj u hu => (World.cell?_of_block (HB.out.block _ z2)).trans (z3 jj u hu)⟩))
      have HE5 := qd (entOf_ok HLl.out (by have := HL.out; omega) ⟨0, ks.getD t 0, (t : Int)⟩)
      obtain ⟨e, he⟩ : ∃ e, e = entOf l ⟨0, ks.getD t 0, (t : Int)⟩ := ⟨_, rfl⟩
      rw [← he] at HEn HE5
      have HEe := qd (show comeAt l ks t = e from he.symm)
      replace HMe := qd (show Met_ Ent.key D (comes l ks t ++ [e]) mm from by rw [← HEe.out, ← comes_succ]; exact HMe.out)
      unfold actV entV at HEn
      clear he
      go_wp2_with fail
      refine HEn.out.mono ?_
      rintro y w6 ⟨rfl, hb6⟩
      replace HA := qd (HA.out.below hb6)
      replace HB := qd (below2 HB.out hb6)
      replace HX := qB hb6 HX
      replace HMt := qd (HMt.out.below hb6)
      replace HRow := qd (ca_keep HRow.out (Mod.of_below hb6 []) (by simp))
      clear hb6 HEn r0
      have HexF := qd (show w6.heap.size ∉ F from fun hq => Nat.lt_irrefl _ (HA.out.facts.1 w6.heap.size hq).1)
      go_upto_region 21 with fail
      refine nameC (F := fun v => Blk v w6.heap.size 35 #[.int .u64 (e.key : Int), .int .u64 (e.val : Int), .int .u64 (e.hash : Int)] ∧ Below w6.heap.size w6 v) ⟨Blk.new w6 35 #[.int .u64 (e.key : Int), .int .u64 (e.val : Int), .int .u64 (e.hash : Int)], (Below.refl w6.heap.size w6).alloc (Nat.le_refl _) (.cells #[.int .u64 (e.key : Int), .int .u64 (e.val : Int), .int .u64 (e.hash : Int)] 35)⟩ ?_
      rintro w7 ⟨hB7, hb7⟩
      obtain ⟨ex, hex⟩ : ∃ ex, ex = w6.heap.size := ⟨_, rfl⟩
      rw [← hex] at hB7 HexF ⊢
      replace HA := qd (HA.out.below hb7)
      replace HB := qd (below2 HB.out hb7)
      replace HX := qB hb7 HX
      replace HMt := qd (HMt.out.below hb7)
      replace HRow := qd (ca_keep HRow.out (Mod.of_below hb7 []) (by simp))
      have HB7 := qd hB7
      clear hB7 hb7 hex
      go_wp2
      go_loop [18, 20, 99] (fun v18 _ v99 => ∃ q : Nat, q ≤ mm ∧ v99 = .int .i64 (q : Int) ∧ v18 = .bool ((((D.take mm).map Ent.key).take q).any fun x => x == e.key)) (fun _ _ v99 => mm - (intOf v99).toNat)
      case atStart => exact ⟨0, by omega, rfl, rfl⟩
      case round =>
       obtain ⟨q, hq, rfl, rfl⟩ := hrel
       by_cases hqm : q < mm
       ·have hqm' : (q : Int) < (mm : Int) := by omega
        have hq0 : (0 : Int) ≤ (q : Int) := by omega
        obtain ⟨x, hx⟩ : ∃ x, ((D.take mm).map Ent.key)[q]? = some x := ⟨_, List.getElem?_eq_getElem (by rw [HLen.out]; exact hqm)⟩
        obtain ⟨g, off, hA, hgl, hc⟩ := (Reads.of_own HRow.out).2 (by omega)
        have r1 := hc q _ (by unfold numsV; rw [List.getElem?_map, hx]; rfl)
        subst hA
        have e0 := HB7.out.cell 0
        simp only [gl] at e0
        have HS := qd (any_snoc (k := e.key) hx)
        have HJ := qd (Nat.succ_le_of_lt hqm)
        have HMs := qd (fewer_rounds hqm)
        have hwq : IntKind.i64.wrap ((q : Int) + 1) = ((q + 1 : Nat) : Int) := by rw [IntKind.wrap_i64]; omega
        obtain ⟨b, hb⟩ : ∃ b, b = (((D.take mm).map Ent.key).take q).any fun x => x == e.key := ⟨_, rfl⟩
        rw [← hb] at HS ⊢
        clear hc hx hb
        cases b with
        | true =>
         go_wp2
         go_round
         all_goals first | exact ⟨⟨q + 1, HJ.out, rfl, by rw [HS.out]; rfl⟩, HMs.out⟩ | exact ⟨q + 1, HJ.out, rfl, by rw [HS.out]; rfl⟩ | exact HMs.out
        | false =>
         have HXb := qd (show ((x : Int) == (e.key : Int)) = (x == e.key) from by rw [Bool.eq_iff_iff]; simp; omega)
         go_wp2
         go_round
         all_goals first | exact ⟨⟨q + 1, HJ.out, rfl, by rw [HS.out, Bool.false_or, ← HXb.out]⟩, HMs.out⟩ | exact ⟨q + 1, HJ.out, rfl, by rw [HS.out, Bool.false_or, ← HXb.out]⟩ | exact HMs.out
       ·obtain rfl : mm = q := by omega
        have hqm' : ¬ (mm : Int) < (mm : Int) := by omega
        have hwt : IntKind.i64.wrap ((t : Int) - 1) = (t : Int) - 1 := by rw [IntKind.wrap_i64]; omega
        have HMs := qd (show (intOf (.int .i64 ((t : Int) - 1)) + 1).toNat < (intOf (.int .i64 (t : Int)) + 1).toNat by show ((t : Int) - 1 + 1).toNat < ((t : Int) + 1).toNat; omega)
        obtain ⟨b, hb⟩ : ∃ b, b = (((D.take mm).map Ent.key).take mm).any fun x => x == e.key := ⟨_, rfl⟩
        rw [← hb]
        have hb2 : b = true ↔ ∃ y ∈ D.take mm, y.key = e.key := by rw [hb]; exact any_keys HLen.out
        clear hb hq hqm
        cases b with
        | true =>
         have HMe2 := qd (met_again HMe.out (hb2.1 rfl))
         clear hb2
         go_wp2
         go_roundw
         all_goals first | exact ⟨⟨t, mm, F, _, by omega, rfl, rfl, HMe2, HA, HF, HX, HB, HMt⟩, HMs.out⟩ | exact ⟨t, mm, F, _, by omega, rfl, rfl, HMe2, HA, HF, HX, HB, HMt⟩ | exact HMs.out
        | false =>
         have hmn := met_new HMe.out (fun y hy hk => by have := hb2.2 ⟨y, hy, hk⟩; cases this)
         have HMe2 := qd hmn.2
         have HDm := qd hmn.1
         have hpk := ca_Peek HA.out e.key (by rw [← HE5.out.hash]; exact HE5.out.h64)
         rw [← HE5.out.hash, getV_take HDn.out hmn.1] at hpk
         have HPk := qd hpk
         have e0 := HB7.out.cell 0
         have e2 := HB7.out.cell 2
         simp only [gl] at e0 e2
         clear hb2 hmn hpk
         go_wp2_with fail
         refine HPk.out.mono ?_
         rintro y w8 ⟨rfl, F', hA8, hs8, hm8⟩
         have HA8 := qd hA8
         have HB8 := qd (HB.out.trans (hm8.below HF.out.2 HB.out.size))
         have HX8 := qd (HX.out.mod hm8 HF.out.1)
         have HF8 := qd (show xb ∉ F' ∧ ∀ q ∈ F', w.heap.size ≤ q from ⟨fun hg => (hs8 _ hg).elim HF.out.1 (fun k => by have := HX.out.lt; omega), fun q hq => (hs8 q hq).elim (HF.out.2 q) (fun k => by have := HB.out.size; omega)⟩)
         have HMt8 := qd (HMt.out.to hs8 hm8)
         have hb78 := HB7.out.mod hm8 HexF.out
         have hrow8 := HMt8.out.row
         rw [HLen.out] at hrow8
         have e0 := hb78.cell 0
         have e1 := hb78.cell 1
         have c1 := HX8.out.cell 1
         simp only [gl] at e0 e1 c1
         have hbs := HB8.out.size
         clear hA8 hs8 hm8 HPk hb78 HA HB HX HF HMt HRow HB7
         by_cases hmM : mm < M
         all_goals
          first
          | rw [if_pos hmM, decide_eq_true hmM]
          | rw [if_neg hmM, decide_eq_false hmM]
          first
          | have hmM' : (mm : Int) < (M : Int) := by omega
          | have hmM' : ¬ (mm : Int) < (M : Int) := by omega
          go_upto_region 31 with fail
          go_wp2_with (at_builtin; refine wpList_append1 rfl rfl slty_u64m hrow8 rfl rfl rfl rfl rfl (by omega) (by omega) ?_; intro v9 w9 ho9 hg9)
          have hpu := HMt8.out.push hg9 (by rw [HLen.out]; simpa using ho9) (fun q hq => (HA8.out.facts.1 q hq).1) HX8.out.lt
          rw [← take_snoc HDm.out] at hpu
          have HMt9 := qd hpu
          have HA9 := qd (HA8.out.mod (grow_modS hg9) (fun q hq => ⟨(HMt8.out.gs q (by simpa using hq)).1, (HMt8.out.row.lt q (by simpa using hq)).1⟩))
          have HX9 := qd (HX8.out.mod (grow_modS hg9) (fun hq => (HMt8.out.gs xb (by simpa using hq)).2 rfl))
          have HB9 := qd (HB8.out.trans hg9.below)
          clear hpu ho9 hg9
          go_wp2
          go_roundw
          all_goals first | exact ⟨⟨t, mm + 1, F', _, by omega, rfl, rfl, HMe2, HA9, HF8, HX9, HB9, HMt9⟩, HMs.out⟩ | exact ⟨t, mm + 1, F', _, by omega, rfl, rfl, HMe2, HA9, HF8, HX9, HB9, HMt9⟩ | exact HMs.out
     ·obtain rfl : t = 0 := by omega
      obtain rfl : z = -1 := by omega
      clear hz hlt2
      have hme := met_end HMe.out
      obtain ⟨L, hL, hcase⟩ : ∃ L : Nat, (D.take M).length = L ∧ (((M : Int) < (mm : Int) ∧ L = M) ∨ (¬ (M : Int) < (mm : Int) ∧ L = mm)) := ⟨_, rfl, by rw [List.length_take, ← hme]; omega⟩
      have HLn := qd (fun (W : World) (hW : Below wr.heap.size wr W) => (by have := ca_Len (HA.out.below hW); rw [hL] at this; exact this : Calls Tryz.prog 10 #[.pointer (some ⟨cb, 0, none⟩)] W fun y w' => y = .returned (.int .i64 (L : Int)) ∧ W = w'))
      have c1 := HX.out.cell 1
      simp only [gl] at c1
      clear hme hL
      rcases hcase with ⟨hmM, hLM⟩ | ⟨hmM, hLM⟩
      all_goals
       rw [hLM] at HLn
       clear hLM
       go_upto_region 32 with fail
       go_region_with (go_at_call 10; refine (HLn.out _ (by first | exact Below.refl _ _ | exact (Below.refl _ _).drew)).mono ?_; rintro e w8 ⟨rfl, rfl⟩)
       all_goals
        go_wp2
        go_ret
        exact ⟨rfl, HB.out.drew⟩
end Go.Proofs.YtfcecmcnmgagnaaGreatDoor
