/- amblerlaw21.Entry, amblerlaw21.Long. -/
import Derived.Test.YtcgjgfgkdoohlaaGreatDoorCoY
import Derived.Test.YtcgjgfgkdoohlaaGreatDoorLaneP
import Derived.Test.YtcgjgfgkdoohlaaGreatDoorCoCW
import Derived.Deep.Cut
import Derived.Deep.CutRange
import Derived.Test.YtcgjgfgkdoohlaaGreatDoorCoH
import Derived.Test.YtcgjgfgkdoohlaaGreatDoorRows
import Derived.ProofKit
import Derived.LaidMore
import Derived.Stop.LaidErr
import Derived.Lib.LaidTab
import Derived.HandedShaped
import Derived.Handed
namespace Go.Proofs.YtcgjgfgkdoohlaaGreatDoor
section
set_option maxRecDepth 100000
set_option maxHeartbeats 4000000
open Go.RowKit AmC
structure LAct where
 kind : Int
 key : Int
 n : Int
def LAct.cells (a : LAct) : List Value := [.int .i64 a.kind, .int .i64 a.key, .int .i64 a.n]
def actV (a : LAct) : Value := .agg #[.int .i64 a.kind, .int .i64 a.key, .int .i64 a.n]
def iOf (key : Int) (n : Nat) : Nat := (key % 18446744073709551616).toNat % n
def entOf (l : List Nat) (a : LAct) : Ent := ⟨iOf a.key l.length, (a.n % 18446744073709551616).toNat, l.getD (iOf a.key l.length) 0⟩
def numsV (l : List Nat) : List Value := l.map fun x : Nat => .int .u64 (x : Int)
theorem law_Long (A B : Option Addr) (n c m d : Nat) (w : World) : Calls Tryz.prog 8 #[.slice A n c, .slice B m d] w fun e w' => e = .returned (.bool (decide (n < 1) || (decide (220 < n) || decide (700 < m)))) ∧ w = w' := by
 by_cases h1 : n < 1
 ·have h1' : (n : Int) < 1 := by omega
  go_enter Tryz.func8, Tryz.ntmps8
  go_wp2
  go_ret
  simp [h1]
 ·have h1' : ¬ (n : Int) < 1 := by omega
  by_cases h2 : 220 < n
  ·have h2' : (220 : Int) < (n : Int) := by omega
   go_enter Tryz.func8, Tryz.ntmps8
   go_wp2
   go_ret
   simp [h1, h2]
  ·have h2' : ¬ (220 : Int) < (n : Int) := by omega
   by_cases h3 : 700 < m
   ·have h3' : (700 : Int) < (m : Int) := by omega
    go_enter Tryz.func8, Tryz.ntmps8
    go_wp2
    go_ret
    simp [h1, h2, h3]
   ·have h3' : ¬ (700 : Int) < (m : Int) := by omega
    go_enter Tryz.func8, Tryz.ntmps8
    go_wp2
    go_ret
    simp [h1, h2, h3]
theorem law_Entry (A : Option Addr) (n c : Nat) (l : List Nat) (a : LAct) (hn : 1 ≤ n ∧ n ≤ 220) (hl : l.length = n) (w : World) (hR : Reads w w.heap.size 1 A n (numsV l)) :
  Calls Tryz.prog 10 #[.slice A n c, actV a] w fun e w' => e = .returned (entV (entOf l a)) ∧ Below w.heap.size w w' := by
 obtain ⟨g, off, rfl, hgl, hcell⟩ := hR.2 (by omega)
 obtain ⟨i, hi⟩ : ∃ i, i = iOf a.key n := ⟨_, rfl⟩
 have hin : i < n := by rw [hi]; exact Nat.mod_lt _ (by omega)
 obtain ⟨x, hx⟩ : ∃ x, x = l.getD i 0 := ⟨_, rfl⟩
 have hc : w.cell? ⟨g, off + i, none⟩ = some (.int .u64 (x : Int)) := hcell i _ (by
  unfold numsV
  rw [List.getElem?_map, List.getElem?_eq_getElem (by omega), hx, List.getD_eq_getElem?_getD, List.getElem?_eq_getElem (by omega)]; rfl)
 unfold actV
 have hB1 := (Blk.new w 34 #[.int .i64 a.kind, .int .i64 a.key, .int .i64 a.n]).alloc (.cells #[.int .u64 0, .int .u64 0, .int .u64 0] 37)
 have hB2 := Blk.new (w.alloc (.cells #[.int .i64 a.kind, .int .i64 a.key, .int .i64 a.n] 34)) 37 #[.int .u64 0, .int .u64 0, .int .u64 0]
 have hb := ((Below.refl w.heap.size w).alloc (Nat.le_refl _) (.cells #[.int .i64 a.kind, .int .i64 a.key, .int .i64 a.n] 34)).alloc (by simp) (.cells #[.int .u64 0, .int .u64 0, .int .u64 0] 37)
 simp only [World.size_alloc] at hB2
 go_enter Tryz.func10, Tryz.ntmps10
 go_upto_region 1 with fail
 refine nameW (F := fun v => Blk v w.heap.size 34 #[.int .i64 a.kind, .int .i64 a.key, .int .i64 a.n] ∧ Blk v (w.heap.size + 1) 37 #[.int .u64 0, .int .u64 0, .int .u64 0] ∧ Below w.heap.size w v) ⟨hB1, hB2, hb⟩ ?_
 clear hB1 hB2 hb
 rintro w1 ⟨hB1, hB2, hb⟩
 have a0 := hB1.cell 0
 have a1 := hB1.cell 1
 have a2 := hB1.cell 2
 have b0 := hB2.cell 0
 have b1 := hB2.cell 1
 have b2 := hB2.cell 2
 simp only [gl] at a0 a1 a2 b0 b1 b2
 obtain ⟨f0, f1, f2⟩ := hB2.f3
 have hc1 : w1.cell? ⟨g, off + i, none⟩ = some (.int .u64 (x : Int)) := (World.cell?_of_block (hb.block g hgl)).trans hc
 have HB2 := qd hB2
 have HB := qd hb
 have HI := qd hi
 have HX := qd hx
 have hn1 : (n : Int) ≤ 220 := by omega
 have hn0 : (1 : Int) ≤ (n : Int) := by omega
 have hnz : ¬ (n : Int) = 0 := by omega
 clear hB1 hB2 hb hi hx hR hc hcell
 have hwk : IntKind.u64.wrap a.key = a.key % 18446744073709551616 := by first | rfl | (simp [IntKind.wrap])
 have hq1 : (IntKind.u64.wrap a.key).tmod (n : Int) = (i : Int) := by
  rw [hwk, HI.out, Int.tmod_eq_emod_of_nonneg (by omega)]
  unfold iOf
  rw [Int.natCast_emod, Int.toNat_of_nonneg (by omega)]
 have hq2 : wrap64 (i : Int) = (i : Int) := by unfold wrap64; omega
 have hi0 : (0 : Int) ≤ (i : Int) := by omega
 have hin' : (i : Int) < (n : Int) := by omega
 have hwn : IntKind.u64.wrap a.n = (((a.n % 18446744073709551616).toNat : Nat) : Int) := by
  have : IntKind.u64.wrap a.n = a.n % 18446744073709551616 := by first | rfl | (simp [IntKind.wrap])
  rw [this]; omega
 obtain ⟨q, hq⟩ : ∃ q : Nat, q = (a.n % 18446744073709551616).toNat := ⟨_, rfl⟩
 rw [← hq] at hwn
 have HQ := qd hq
 clear hwk hq
 go_upto_region 2 with fail
 go_region
 have hB3 := (((HB2.out.set_ 0 (.int .u64 (i : Int))).set_ 1 (.int .u64 (q : Int))).set_ 2 (.int .u64 (x : Int))).drew
 simp only [List.setIfInBounds_toArray, List.set_cons_zero, List.set_cons_succ] at hB3
 have hbf := (((HB.out.setCell (p := ⟨w.heap.size + 1, 0, none⟩) (Nat.le_succ _) (.int .u64 (i : Int))).setCell (p := ⟨w.heap.size + 1, 1, none⟩) (Nat.le_succ _) (.int .u64 (q : Int))).setCell (p := ⟨w.heap.size + 1, 2, none⟩) (Nat.le_succ _) (.int .u64 (x : Int))).drew
 refine nameW (F := fun v => Blk v (w.heap.size + 1) 37 #[.int .u64 (i : Int), .int .u64 (q : Int), .int .u64 (x : Int)] ∧ Below w.heap.size w v) ⟨hB3, hbf⟩ ?_
 clear hB3 hbf
 rintro w3 ⟨hB3, hbf⟩
 obtain ⟨e0, e1, e2⟩ := hB3.c3
 go_wp2
 refine bodyPost_ret (v := .agg #[.int .u64 (i : Int), .int .u64 (q : Int), .int .u64 (x : Int)]) (by simp [results, Tryz.results10, go_sem, e0, e1, e2]) rfl ⟨?_, hbf⟩
 unfold entV entOf
 rw [hl, ← HI.out, ← HX.out, ← HQ.out]
end
section
set_option maxRecDepth 100000
set_option maxHeartbeats 8000000
open Go.RowKit AmC
theorem act_cells {w : World} {base m : Nat} {B : Option Addr} {acts : List LAct} (hR : Reads w base 3 B m (acts.flatMap LAct.cells)) (hm : acts.length = m) {j : Nat} {a : LAct} (hj : acts[j]? = some a) : ∃ g off, B = some ⟨g, off, none⟩ ∧ g < base ∧ w.cell? ⟨g, off + j * 3, none⟩ = some (.int .i64 a.kind) ∧ w.cell? ⟨g, off + j * 3 + 1, none⟩ = some (.int .i64 a.key) ∧ w.cell? ⟨g, off + j * 3 + 2, none⟩ = some (.int .i64 a.n) := by
 have hjl := get_lt hj
 obtain ⟨g, off, h1, h2, h3⟩ := hR.2 (by omega)
 have hat : ∀ q u, a.cells[q]? = some u → (acts.flatMap LAct.cells)[j * 3 + q]? = some u := fun q u hu => by
  have hq : q < 3 := by have := get_lt hu; simpa [LAct.cells] using this
  obtain ⟨e1, _⟩ := list_at hj
  have e2 : acts.flatMap LAct.cells = (acts.take j).flatMap LAct.cells ++ (a.cells ++ (acts.drop (j + 1)).flatMap LAct.cells) := by
   have : acts.flatMap LAct.cells = (acts.take j ++ a :: acts.drop (j + 1)).flatMap LAct.cells := by rw [← e1]
   rw [this]; simp
  have e3 : ((acts.take j).flatMap LAct.cells).length = j * 3 := by
   have : ∀ l : List LAct, (l.flatMap LAct.cells).length = l.length * 3 := fun l => by
    induction l with
    | nil => rfl
    | cons x l ih => simp only [List.flatMap_cons, List.length_append, List.length_cons, ih]; simp [LAct.cells]; omega
   rw [this, List.length_take]; omega
  rw [e2, List.getElem?_append_right (by omega), e3, Nat.add_sub_cancel_left, List.getElem?_append_left (by simpa [LAct.cells] using hq)]
  exact hu
 exact ⟨g, off, h1, h2, h3 _ _ (hat 0 _ rfl), by rw [Nat.add_assoc]; exact h3 _ _ (hat 1 _ rfl), by rw [Nat.add_assoc]; exact h3 _ _ (hat 2 _ rfl)⟩
def lawH (l : List Nat) (k : Nat) : Nat := l.getD k 0
theorem lawH_lt {l : List Nat} (h : ∀ x ∈ l, x < 18446744073709551616) (k : Nat) : lawH l k < 18446744073709551616 := by
 unfold lawH
 rw [List.getD_eq_getElem?_getD]
 cases hk : l[k]? with
 | none => decide
 | some x => exact h x (List.mem_of_getElem? hk)
theorem entOf_ok {l : List Nat} (h : ∀ x ∈ l, x < 18446744073709551616) (hn : 1 ≤ l.length ∧ l.length ≤ 220) (a : LAct) : EntOk (lawH l) (entOf l a) := by
 refine ⟨rfl, lawH_lt h _, ?_, ?_⟩
 ·have : iOf a.key l.length < l.length := Nat.mod_lt _ (by omega)
  show iOf a.key l.length < _
  omega
 ·show (a.n % 18446744073709551616).toNat < _
  omega
theorem cfg_nat {k m i : Int} (h : cfgOk k m i = true) : ∃ K M I : Nat, (1 ≤ K ∧ K ≤ 64) ∧ (1 ≤ M ∧ M ≤ 192) ∧ k = (K : Int) ∧ m = (M : Int) ∧ i = (I : Int) := by
 unfold cfgOk inB at h
 simp only [Bool.and_eq_true, decide_eq_true_eq] at h
 exact ⟨k.toNat, m.toNat, i.toNat, by omega, by omega, by omega, by omega, by omega⟩
def Keeps (a a' : Pool) : Prop := ∀ mx, GB mx a → a'.ents.length ≤ mx → GB mx a'
theorem op_del {W0 : World} {E : Nat → Addr} {H : Nat → Nat} {K M mb : Nat} {G : List Nat} {w : World} {a : Pool} {ids : List Nat} (h : CoreAt W0 E H K M mb G w a ids) (e : Ent) (he : EntOk H e) : Calls Tryz.prog 11 #[.pointer (some ⟨mb, 0, none⟩), .int .u64 (e.key : Int), .int .u64 (e.hash : Int)] w fun y w' =>
  ∃ (v : Int) (b : Bool) (a' : Pool) (ids' : List Nat), y = .returned (.tuple #[.int .u64 v, .bool b]) ∧ Keeps a a' ∧ CoreTo W0 E H K M mb G w w' a' ids' := by
 obtain ⟨f1, f2, f3, f4, f5, f6, _⟩ := h.facts
 have hd := at_Delete h e.key (he.hash ▸ he.h64)
 rw [← he.hash] at hd
 refine hd.mono ?_
 rintro y w' ⟨a', ids', rfl, hw, hto⟩
 exact ⟨_, _, a', ids', rfl, fun mx hg hl => gb_wr hg f6 f1 f3 hl hw, hto⟩
theorem op_put {W0 : World} {E : Nat → Addr} {H : Nat → Nat} {K M mb : Nat} {G : List Nat} {w : World} {a : Pool} {ids : List Nat} (h : CoreAt W0 E H K M mb G w a ids) (e : Ent) (he : EntOk H e) : Calls Tryz.prog 12 #[.pointer (some ⟨mb, 0, none⟩), .int .u64 (e.key : Int), .int .u64 (e.val : Int), .int .u64 (e.hash : Int)] w fun y w' =>
  ∃ (er : Value) (a' : Pool) (ids' : List Nat), y = .returned er ∧ Keeps a a' ∧ CoreTo W0 E H K M mb G w w' a' ids' := by
 obtain ⟨f1, f2, f3, f4, f5, f6, _⟩ := h.facts
 refine (at_Put h e he).mono ?_
 rintro y w' (⟨_, _, rfl, hto⟩ | ⟨a', ids', _, _, rfl, hw, hto⟩ | ⟨a', ids', e0, _, rfl, hw, hto⟩)
 ·exact ⟨_, a, ids, rfl, fun mx hg _ => hg, hto⟩
 ·exact ⟨_, a', ids', rfl, fun mx hg hl => gb_wr hg f6 f1 f3 hl hw, hto⟩
 ·exact ⟨_, a', ids', rfl, fun mx hg hl => gb_wr hg f6 f1 f3 hl hw, hto⟩
theorem pow_wrap {d n : Nat} (hd : d ≤ 5) (h : n ≤ 2 ^ d) : ¬ wrap64 ((2 : Int) ^ d) < (n : Int) := by
 have h6 : d = 0 ∨ d = 1 ∨ d = 2 ∨ d = 3 ∨ d = 4 ∨ d = 5 := by omega
 unfold wrap64
 rcases h6 with rfl | rfl | rfl | rfl | rfl | rfl <;> simp at h ⊢ <;> omega
theorem fewer_rounds {j m : Nat} (h : j < m) : m - (intOf (.int .i64 ((j : Int) + 1))).toNat < m - (intOf (.int .i64 (j : Int))).toNat := by
 show m - ((j : Int) + 1).toNat < m - (j : Int).toNat
 omega
theorem groups_tail {W0 : World} {E : Nat → Addr} {H : Nat → Nat} {K M mb : Nat} {G : List Nat} {w : World} {a a' : Pool} {ids : List Nat} {most : Nat} (h : CoreAt W0 E H K M mb G w a' ids) (hk : Keeps a a') (hg : GB (max most 1) a) (hmo : most ≤ 192) : ∃ ln m2 gr pg nn dd : Nat,
  Calls Tryz.prog 13 #[coreP mb] w (fun e w' => e = .returned (.int .i64 (ln : Int)) ∧ w = w') ∧
  Calls Tryz.prog 14 #[coreP mb] w (fun e w' => e = .returned (.int .i64 (gr : Int)) ∧ w = w') ∧
  Calls Tryz.prog 16 #[coreP mb] w (fun e w' => e = .returned (.int .i64 (nn : Int)) ∧ w = w') ∧
  Calls Tryz.prog 17 #[coreP mb] w (fun e w' => e = .returned (.int .i64 (dd : Int)) ∧ w = w') ∧
  Calls Tryz.prog 15 #[.int .i64 (m2 : Int)] w (fun e w' => e = .returned (.int .i64 (pg : Int)) ∧ w = w') ∧
  ¬ (pg : Int) < (gr : Int) ∧ ¬ (gr : Int) < 1 ∧ ¬ (nn : Int) < 1 ∧ ¬ wrap64 ((2 : Int) ^ dd) < (nn : Int) ∧ ¬ (5 : Int) < (dd : Int) ∧ m2 ≤ 192 ∧ GB (max m2 1) a' ∧ a'.ents.length ≤ m2 ∧
  (((most : Int) < (ln : Int) ∧ (most : Int) ≤ (ln : Int) ∧ m2 = ln) ∨ (¬ (most : Int) < (ln : Int) ∧ (ln : Int) ≤ (most : Int) ∧ m2 = most)) := by
 obtain ⟨f1, f2, f3, f4, f5, f6, f7, f8, _⟩ := h.facts
 have hgb : GB (max (max most a'.ents.length) 1) a' := hk _ (hg.more (by omega)) (by omega)
 have hgs := gb_sum hgb f3
 have hgp := groups_pos f4 f6
 exact ⟨_, _, _, _, _, _, at_Len h, at_Groups h, at_Nodes h, at_Depth h, plan_Groups _ (by omega) w, by omega, by omega, by omega, pow_wrap f2 f5, by omega, by omega, hgb, by omega, by omega⟩
theorem law_groups {E : Nat → Addr} (k m i : Int) (A : Option Addr) (n c : Nat) (l : List Nat) (B : Option Addr) (ma d : Nat) (acts : List LAct) (w : World) (hE : Env w E w) (hl : l.length = n) (hll : ∀ x ∈ l, x < 18446744073709551616) (hR : Reads w w.heap.size 1 A n (numsV l)) (hla : acts.length = ma) (hRa : Reads w w.heap.size 3 B ma (acts.flatMap LAct.cells)) : Calls Tryz.prog 3 #[cfgV k m i, .slice A n c, .slice B ma d] w fun e w' => e = .returned (.bool true) ∧ Below w.heap.size w w' := by
 have HE := qd hE
 have HR := qd hR
 have HRa := qd hRa
 have HL := qd hl
 have HLl := qd hll
 have HLa := qd hla
 have hB0 := Blk.new w 23 #[.int .i64 k, .int .i64 m, .int .i64 i]
 have hb0 := (Below.refl w.heap.size w).alloc (Nat.le_refl _) (.cells #[.int .i64 k, .int .i64 m, .int .i64 i] 23)
 clear hE hR hRa hl hll hla
 unfold cfgV
 go_enter Tryz.func3, Tryz.ntmps3
 go_upto_region 1 with fail
 refine nameW (F := fun v => Blk v w.heap.size 23 #[.int .i64 k, .int .i64 m, .int .i64 i] ∧ Below w.heap.size w v) ⟨hB0, hb0⟩ ?_
 clear hB0 hb0
 rintro w1 ⟨hB1, hb1⟩
 have HBx := qd hB1
 have HB1 := qd hb1
 have HE1 := qd (HE.out.next hb1)
 have HAl := qd (law_alive HE1.out)
 clear hB1 hb1
 go_wp2_with fail
 refine HAl.out.mono ?_
 rintro y w2 ⟨rfl, hb2⟩
 replace HBx := qd (HBx.out.mod (Mod.of_below hb2 []) (by simp))
 replace HB1 := qd (below2 HB1.out hb2)
 replace HE1 := qd (HE1.out.next hb2)
 clear hb2 HAl
 have HLg := qd (law_Long A B n c ma d w2)
 go_wp2_with fail
 refine HLg.out.mono ?_
 rintro y w3 ⟨rfl, rfl⟩
 clear HLg
 by_cases hlong : n < 1 ∨ 220 < n ∨ 700 < ma
 ·have hlg : (decide (n < 1) || (decide (220 < n) || decide (700 < ma))) = true := by simp; omega
  rw [hlg]
  clear hlg
  go_wp2
  go_ret
  exact ⟨rfl, HB1.out⟩
 ·have hlg : (decide (n < 1) || (decide (220 < n) || decide (700 < ma))) = false := by simp; omega
  rw [hlg]
  clear hlg
  obtain ⟨k0, k1, k2⟩ := HBx.out.c3
  cases hcf : cfgOk k m i with
  | false =>
   have hnb := core_New_bad HE1.out k m i hcf
   rw [errV_pos E (by omega)] at hnb
   unfold cfgV at hnb
   have HNb := qd hnb
   clear hnb hcf
   go_wp2_with fail
   refine HNb.out.mono ?_
   rintro y w4 ⟨rfl, hb4⟩
   go_wp2
   go_ret
   exact ⟨rfl, below2 HB1.out hb4⟩
  | true =>
   obtain ⟨K, M, I, hkm⟩ := cfg_nat hcf
   have hnb := core_New (lawH l) HE1.out k m i hcf K M I hkm
   unfold cfgV at hnb
   have HNw := qd hnb
   clear hnb hcf hkm
   go_wp2_with fail
   refine HNw.out.mono ?_
   rintro y w4 ⟨mb, rfl, hnew⟩
   obtain ⟨G1, hA1, hs1, hm1⟩ := new_at hnew
   have HA1 := qd hA1
   have hz2 := HB1.out.size
   have HS1 := qd (show ∀ q ∈ G1, w.heap.size ≤ q from fun q hq => by
    rcases hs1 q hq with h | h
    ·cases h
    ·omega)
   have HB4 := qd (below2 HB1.out hm1.to_below)
   clear hnew hA1 hs1 hm1 HNw k0 k1 k2 HBx HB1 HE1
   unfold coreP
   go_wp2
   go_loopw [9, 11, 12, 33] (fun v9 _ _ v33 wr => ∃ (j most : Nat) (G : List Nat) (a : Pool) (ids : List Nat), j ≤ ma ∧ v33 = .int .i64 (j : Int) ∧ v9 = .int .i64 (most : Int) ∧ most ≤ 192 ∧ Hid (CoreAt w E (lawH l) K M mb G wr a ids) ∧ Hid (GB (max most 1) a) ∧ Hid (a.ents.length ≤ most) ∧ Hid (∀ q ∈ G, w.heap.size ≤ q) ∧ Hid (Below w.heap.size w wr)) (fun _ _ _ v33 _ => ma - (intOf v33).toNat)
   case atStart => exact ⟨0, 0, G1, pool0, [], by omega, rfl, rfl, by omega, HA1, qd gb0, qd (by rw [ents0]; exact Nat.le_refl _), HS1, HB4⟩
   case round =>
    clear HA1 HS1 HB4
    obtain ⟨j, most, G, a, ids, hj, rfl, rfl, hmo, HA, HG, HEl, HS, HB⟩ := hrel
    have hma : ma ≤ 700 := by omega
    by_cases hlt : j < ma
    ·have hlt' : (j : Int) < (ma : Int) := by omega
     have hj0 : (0 : Int) ≤ (j : Int) := by omega
     obtain ⟨act, hact⟩ : ∃ act, acts[j]? = some act := ⟨_, List.getElem?_eq_getElem (by have := HLa.out; omega)⟩
     obtain ⟨g, off, hBv, hgl, m0, m1, m2⟩ := act_cells HRa.out HLa.out hact
     have hkp := fun (p : Addr) (v : Value) (hp : p.block < w.heap.size) (hh : w.cell? p = some v) => (World.cell?_of_block (HB.out.block p.block hp)).trans hh
     have r0 := hkp _ _ hgl m0
     have r1 := hkp _ _ hgl m1
     have r2 := hkp _ _ hgl m2
     have HBv := qd hBv
     subst hBv
     clear m0 m1 m2 hkp hact
     go_upto_region 12 with fail
     refine nameB 34 #[.int .i64 act.kind, .int .i64 act.key, .int .i64 act.n] ?_
     rintro w5 ⟨hB5, hb5⟩
     obtain ⟨bx, hbx⟩ : ∃ bx, bx = wr.heap.size := ⟨_, rfl⟩
     rw [← hbx] at hB5 ⊢
     have HB5 := qd hB5
     obtain ⟨a0, a1, a2⟩ := hB5.c3
     replace HA := qd (HA.out.below hb5)
     have hzr := HB.out.size
     replace HB := qd (below2 HB.out hb5)
     have HEn := qd (law_Entry A n c l act (by omega) HL.out w5 (by
      obtain ⟨q1, q2⟩ := HR.out
      refine ⟨q1, fun hp => ?_⟩
      obtain ⟨g', off', z1, z2, z3⟩ := q2 hp
      have hzz := HB.out.size
      exact ⟨g', off', z1, by omega, fun jj u hu => (World.cell?_of_block (HB.out.block _ z2)).trans (z3 jj u hu)⟩))
     have HE5 := qd (entOf_ok HLl.out (by have := HL.out; omega) act)
     have hhash : (entOf l act).hash = lawH l (entOf l act).key := rfl
     obtain ⟨e, he⟩ : ∃ e, e = entOf l act := ⟨_, rfl⟩
     rw [← he] at HEn HE5 hhash
     have HHs := qd hhash
     unfold actV at HEn
     unfold entV at HEn
     clear hB5 hb5 r0 r1 r2 hbx he hhash
     go_wp2_with fail
     refine HEn.out.mono ?_
     rintro y w6 ⟨rfl, hb6⟩
     replace HA := qd (HA.out.below hb6)
     replace HB := qd (below2 HB.out hb6)
     replace HB5 := qd (HB5.out.mod (Mod.of_below hb6 []) (by simp))
     have hz6 := hb6.size
     clear hb6 HEn a0 a1 a2
     have hB7 := Blk.new w6 37 #[.int .u64 (e.key : Int), .int .u64 (e.val : Int), .int .u64 (e.hash : Int)]
     have hb7 := (Below.refl w6.heap.size w6).alloc (Nat.le_refl _) (.cells #[.int .u64 (e.key : Int), .int .u64 (e.val : Int), .int .u64 (e.hash : Int)] 37)
     go_upto_region 13 with fail
     refine nameW (F := fun v => Blk v w6.heap.size 37 #[.int .u64 (e.key : Int), .int .u64 (e.val : Int), .int .u64 (e.hash : Int)] ∧ Below w6.heap.size w6 v) ⟨hB7, hb7⟩ ?_
     clear hB7 hb7
     rintro w7 ⟨hB7, hb7⟩
     obtain ⟨ex, hex⟩ : ∃ ex, ex = w6.heap.size := ⟨_, rfl⟩
     rw [← hex] at hB7 ⊢
     replace HA := qd (HA.out.below hb7)
     replace HB := qd (below2 HB.out hb7)
     replace HB5 := qd (HB5.out.mod (Mod.of_below hb7 []) (by simp))
     have b0 := hB7.cell 0
     have b1 := hB7.cell 1
     have b2 := hB7.cell 2
     have a0 := HB5.out.cell 0
     simp only [gl] at b0 b1 b2 a0
     have hsz := HB.out.size
     clear hB7 hb7 hex
     go_upto_if 42 with fail
     go_cut [33] from 33 to 92 (fun s33 wx => s33 = .int .i64 (j : Int) ∧ ∃ (G' : List Nat) (a' : Pool) (ids' : List Nat), Hid (CoreAt w E (lawH l) K M mb G' wx a' ids') ∧ Hid (Keeps a a') ∧ Hid (∀ q ∈ G', w.heap.size ≤ q) ∧ Hid (Below w.heap.size w wx))
     case first =>
      by_cases hk1 : act.kind = 1
      ·have HOp := qd (op_del HA.out e HE5.out)
       go_wp2_with fail
       refine HOp.out.mono ?_
       rintro y w8 ⟨vv, bb, a', ids', rfl, hkp, G', hA', hsub, hmod⟩
       have hA8 := qd hA'
       have hS8 := qd (show ∀ q ∈ G', w.heap.size ≤ q from fun q hq => by
        rcases hsub q hq with h1 | h1
        ·exact HS.out q h1
        ·omega)
       have hB8 := qd (HB.out.trans (hmod.below HS.out hsz))
       have hK8 := qd hkp
       clear hA' hsub hmod hkp HOp
       go_wp2
       go_meet
       case rel => exact ⟨rfl, G', a', ids', hA8, hK8, hS8, hB8⟩
      ·have HOp := qd (op_put HA.out e HE5.out)
       go_wp2_with fail
       refine HOp.out.mono ?_
       rintro y w8 ⟨er, a', ids', rfl, hkp, G', hA', hsub, hmod⟩
       have hA8 := qd hA'
       have hS8 := qd (show ∀ q ∈ G', w.heap.size ≤ q from fun q hq => by
        rcases hsub q hq with h1 | h1
        ·exact HS.out q h1
        ·omega)
       have hB8 := qd (HB.out.trans (hmod.below HS.out hsz))
       have hK8 := qd hkp
       clear hA' hsub hmod hkp HOp
       go_wp2
       go_meet
       case rel => exact ⟨rfl, G', a', ids', hA8, hK8, hS8, hB8⟩
     case rest =>
      obtain ⟨rfl, G', a', ids', HA8, HKp, HS8, HB8⟩ := hcut
      obtain ⟨ln, m2, gr, pg, nn, dd, hLn, hGr, hNn, hDd, hPg, c1, c2, c3, c4, c5, hm192, hgb, hEl2, hcase⟩ := groups_tail HA8.out HKp.out HG.out hmo
      unfold coreP at hLn hGr hNn hDd
      have HLn := qd hLn
      have HGr := qd hGr
      have HNn := qd hNn
      have HDd := qd hDd
      have HPg := qd hPg
      have HGb := qd hgb
      have HEl := qd hEl2
      have HC := qd hcase
      have HM := qd hm192
      have HJ := qd (Nat.succ_le_of_lt hlt)
      have HMe := qd (fewer_rounds hlt)
      clear hLn hGr hNn hDd hPg hgb hEl2 hcase hm192 HA HS HB HG HB5 b0 b1 b2 a0 HR HRa HL HLl HLa HE5 HHs HBv hgl HE hj hmo hma hsz hzr hz6 hz2
      go_upto_region 16 with fail
      go_cut [9, 33] from 33 to 92 (fun s9 s33 wx => s9 = .int .i64 (m2 : Int) ∧ s33 = .int .i64 (j : Int) ∧ wx = wc)
      case first =>
       go_wp2_with fail
       refine HLn.out.mono ?_
       rintro y w9 ⟨rfl, rfl⟩
       rcases HC.out with ⟨h1, h1b, h2⟩ | ⟨h1, h3, h2⟩
       ·subst h2
        go_wp2
        all_goals first | go_meet | (exfalso; omega)
        case rel => exact ⟨rfl, rfl, rfl⟩
       ·subst h2
        go_wp2
        all_goals first | go_meet | (exfalso; omega)
        case rel => exact ⟨rfl, rfl, rfl⟩
      case rest =>
       obtain ⟨rfl, rfl, rfl⟩ := hcut
       go_wp2_with fail
       refine HGr.out.mono ?_
       rintro y w9 ⟨rfl, rfl⟩
       go_wp2_with fail
       refine HPg.out.mono ?_
       rintro y w9 ⟨rfl, rfl⟩
       go_wp2_with fail
       refine HGr.out.mono ?_
       rintro y w9 ⟨rfl, rfl⟩
       go_wp2_with fail
       refine HNn.out.mono ?_
       rintro y w9 ⟨rfl, rfl⟩
       go_wp2_with fail
       refine HNn.out.mono ?_
       rintro y w9 ⟨rfl, rfl⟩
       go_wp2_with fail
       refine HDd.out.mono ?_
       rintro y w9 ⟨rfl, rfl⟩
       go_wp2_with fail
       refine HDd.out.mono ?_
       rintro y w9 ⟨rfl, rfl⟩
       go_wp2
       go_roundw
       all_goals first | exact ⟨⟨j + 1, m2, G', a', ids', HJ.out, rfl, rfl, HM.out, HA8, HGb, HEl, HS8, HB8⟩, HMe.out⟩ | exact ⟨j + 1, m2, G', a', ids', HJ.out, rfl, rfl, HM.out, HA8, HGb, HEl, HS8, HB8⟩ | exact HMe.out
    ·obtain rfl : j = ma := by omega
     have hlt' : ¬ (j : Int) < (j : Int) := by omega
     go_wp2
     go_ret
     exact ⟨rfl, HB.out⟩
end
section
open Go.RowKit Go.ChangeShapes Go.WideShapes Go.ChangeAt
section
variable {H : Type} {enc : TypeId × Value → H}
theorem returnsLaid {a : Assume} {C : Checked} {os : Os} {f : FuncId} {fn : Func} {s : ChangeSpec} {conds : List PathCond} {apart fresh handsOn again : Bool} {X : World → Array Value → Prop}
  (hX : ∀ (w w' : World) (args : Array Value), w.heap = w'.heap → X w args → X w' args)
  (own : ownKnob C.prog.godebug = none) (started : os.Started) (noInit : C.prog.inits.idxOf? f = none) (hfn : C.prog.funcs[f]? = some fn)
  (witness : ∃ (w : World) (tape : Tape) (i : Input), w.os = os ∧ (w.forCall tape i).Shaped C.prog ∧ i.vars = [] ∧ Input.okWide C.prog (w.forCall tape i) .any w.heap.size f i ∧
   ((s.pre enc C.prog fn conds apart (w.forCall tape i).memory i.args ∧ X (w.forCall tape i).memory i.args) ∧ sizedMet enc C.prog fn (OpenSpec.ofChange s) apart (w.forCall tape i).memory i.args) ∧ a.holds C.prog (lone (Frame.enter C.prog f i.args .normal) [] (w.forCall tape i)))
  (contract : ∀ (W : World) (base : Nat) (args : Array Value) (ds gs : List (DataW H)) (before : List MemPlace),
   (∀ (j : Nat) t v, fn.params[j]? = some t → args[j]? = some v → Value.okWide C.prog W .any base t v) →
   DataW.Whole enc C.prog fn.params.toList s.vars apart W args.toList ds gs before →
   (DataW.weightsEach C.prog (fn.params.toList ++ s.plain.varTypes C.prog) (ds ++ gs)).all (· ≤ reachBytes) = true → X W args → W.ShapedOpen C.prog →
   Calls C.prog f args W fun e W' => ∃ v, e = .returned v ∧ s.post enc C.prog fn apart fresh handsOn again W args v W') :
  ReturnsInHanded a C os f .any (fun w args => (s.pre enc C.prog fn conds apart w args ∧ X w args) ∧ sizedMet enc C.prog fn (OpenSpec.ofChange s) apart w args) (s.post enc C.prog fn apart fresh handsOn again) := by
 refine returnsInHanded_of_calls own started noInit witness ?_
 intro w tape i _ hsh _ hok hpre hholds
 obtain ⟨_, _, _, fn', hfn', _, _, _, _, hval⟩ := hok
 have e : fn' = fn := Option.some.inj (hfn'.symm.trans hfn)
 subst e
 obtain ⟨⟨⟨ds, gs, before, hw, hc⟩, hx⟩, hz⟩ := hpre
 have hw' := DataW.Whole.of_heap (w' := w.forCall tape i) (by rfl) hw
 refine (contract (w.forCall tape i) w.heap.size i.args ds gs before hval hw' (hz.weights hw) (hX _ _ _ (by rfl) hx) hsh).mono fun e W' ⟨v, he, hp⟩ => ?_
 subst he
 exact ChangeSpec.post_blind hp
theorem post_of_below {P : Program} {f : Func} {s : ChangeSpec} {apart fresh handsOn again : Bool} {W W' : World} {args : Array Value} {v : Value} {ds gs : List (DataW H)} {before pa pv : List MemPlace}
  (hW : DataW.Whole enc P f.params.toList s.vars apart W args.toList ds gs before)
  (hres : ∀ (b : Nat) (sp : Nat → Bool) (hd : Bool), DataW.TrodAll enc P W' b sp hd f.resultTypes.toList (v.resultList f.resultTypes.size) (s.fn H (ds ++ gs)).results [])
  (hargs : ∀ sp : Nat → Bool, (∀ p ∈ before, sp p.block = true) → DataW.TrodAll enc P W' 0 sp true f.params.toList args.toList (s.fn H (ds ++ gs)).args pa)
  (hvars : ∀ sp : Nat → Bool, (∀ p ∈ before, sp p.block = true) → DataW.TrodVars enc P W' sp s.vars (s.fn H (ds ++ gs)).vars pv)
  (hps : before = pa ++ pv) (hb : Below W.heap.size W W')
  (hok : ∀ (j : Nat) (t : TypeId) (r : Value), f.resultTypes[j]? = some t → (v.resultList f.resultTypes.size)[j]? = some r → Value.okWide P W' .any 0 t r) :
  s.post enc P f apart fresh handsOn again W args v W' := by
 have hlt : ∀ p ∈ before, p.block < W.heap.size := fun p hp => hW.lt p hp
 have hold : ∀ p ∈ before, (fun b => decide (b < W.heap.size)) p.block = true := fun p hp => by simpa using hlt p hp
 refine ⟨ds, gs, before, [], pa, pv, hW, hres _ _ _, hargs _ hold, hvars _ hold, World.keptBut_mono (fun p hp => ⟨hp, ?_⟩) (hb.frame (· ∈ before)), fun _ => ?_⟩
 ·rw [hps, List.mem_append] at hp
  exact Or.inr hp
 ·obtain ⟨_, _, _, _, _, hz, hn⟩ := hW
  refine ⟨hok, _, _, ([] ++ pa) ++ pv, ⟨[] ++ pa, pv, trodAll_append (hargs _ (fun _ _ => rfl)) (hres _ _ _), hvars _ (fun _ _ => rfl), rfl, ?_, ?_⟩, ?_⟩
  ·intro b off hp
   have hin : MemPlace.cell b off ∈ before := by rw [hps]; simpa using hp
   rw [hb.frozen (hlt _ hin)]
   exact hz b off hin
  ·intro ha
   have := hn ha
   rw [hps] at this
   simpa using this
  ·intro p hp _
   rw [hps]
   simpa using hp
end
def errD (text : List UInt8) : DataW Unit := .iface "*errors.errorString" (.ptr (.agg [.lit (.string text)]))
theorem laid_parts {P : Program} {W : World} : ∀ (l : List (String × DataW Unit)) (ps : List MemPlace), DataW.LaidVars P W l ps →
  ∃ pl : List (List MemPlace), ps = pl.flatten ∧ pl.length = l.length ∧ ∀ (i : Nat) (n : String) (d : DataW Unit), l[i]? = some (n, d) →
   ∃ g t cs fuel p, P.globalNamed n = some g ∧ (P.globals[g]?).map (·.type) = some t ∧ W.var? P n = some cs ∧ DataW.trod (fun _ => ()) P W 0 (fun _ => true) false fuel t cs.toList = some (d, p) ∧
    pl[i]? = some (MemPlace.row ⟨g, 0, none⟩ cs.size ++ p)
 | [], ps, h => ⟨[], by simpa [DataW.LaidVars] using h, rfl, fun i n d hi => by simp at hi⟩
 | (n, d) :: r, ps, h => by
  obtain ⟨g, t, cs, fuel, p, q, h1, h2, h3, h4, h5, rfl⟩ := h
  obtain ⟨pl, e1, e2, e3⟩ := laid_parts r q h5
  refine ⟨(MemPlace.row ⟨g, 0, none⟩ cs.size ++ p) :: pl, by rw [List.flatten_cons, ← e1], by simp [e2], fun i n' d' hi => ?_⟩
  cases i with
  | zero =>
   simp only [List.getElem?_cons_zero, Option.some.injEq, Prod.mk.injEq] at hi
   obtain ⟨rfl, rfl⟩ := hi
   exact ⟨g, t, cs, fuel, p, h1, h2, h3, h4, rfl⟩
  | succ i => exact e3 i n' d' (by simpa using hi)
theorem star : "*" ++ "errors.errorString" = "*errors.errorString" := by decide
theorem typeName_err (u : TypeId) (h : Tryz.prog.typeName? 3 u = some "*errors.errorString") : u = 260 :=
 typeName_ptr_named (nm := "errors.errorString") (by rw [star]; kernel_rfl) (by kernel_rfl) (by decide) u (by rw [star]; exact h)
end
section
open Go.RowKit Go.ChangeShapes Go.WideShapes Go.ChangeAt
set_option maxRecDepth 100000 in
theorem err_cell {l : List (String × DataW Unit)} {W : World} (h : laidMet Tryz.prog l W) (p : Nat) {n : String} {text : List UInt8} {g : Nat} (hl : l[p]? = some (n, errD text)) (hg : Tryz.prog.globalNamed n = some g) (ht : (Tryz.prog.globals[g]?).map (·.type) = some 30) :
  ∃ a, W.cell? ⟨g, 0, none⟩ = some (.iface 260 (.pointer (some a))) := by
 obtain ⟨ps, hv, hnd, hrows⟩ := h
 obtain ⟨pl, e1, e2, e3⟩ := laid_parts l ps hv
 obtain ⟨g', t, cs, fuel, p', h1, h2, h3, h4, h5⟩ := e3 _ _ _ hl
 obtain rfl := Option.some.inj (hg.symm.trans h1)
 obtain rfl := Option.some.inj (ht.symm.trans h2)
 have hmem : ∀ x ∈ MemPlace.row ⟨g, 0, none⟩ cs.size ++ p', x ∈ ps := by
  intro x hx
  rw [e1]
  exact List.mem_flatten.2 ⟨_, List.mem_of_getElem? h5, hx⟩
 obtain ⟨l0⟩ := cs
 have ok0 : ∀ u v, l0 = [.iface u v] → Value.okWide Tryz.prog W .any 0 u v := fun u v e => by
  subst e
  exact (hrows g 0 (hmem _ (by simp [MemPlace.row]))).2 u v (by simpa using World.var?_cell hg h3 0)
 obtain ⟨a0, s0, rfl, hc0, hs0, hz0, rfl⟩ := errorString_of_trod Tryz.underlying30 typeName_err Tryz.underlying260 Tryz.underlying300 rfl rfl Tryz.underlying9 (by kernel_rfl) (by kernel_rfl) h4 ok0
 exact ⟨a0, by simpa using World.var?_cell hg h3 0⟩
def pickE (W : World) (k : Nat) : Addr := match W.cell? ⟨gE k, 0, none⟩ with
 | some (.iface _ (.pointer (some a))) => a
 | _ => default
end
end Go.Proofs.YtcgjgfgkdoohlaaGreatDoor
