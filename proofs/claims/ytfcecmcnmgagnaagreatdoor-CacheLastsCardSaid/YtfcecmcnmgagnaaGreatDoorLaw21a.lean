/- The chapter's example of a cache by its contracts. No statement of the claim. -/
import Derived.Test.YtfcecmcnmgagnaaGreatDoorCaM
import Derived.Test.YtfcecmcnmgagnaaGreatDoorLaneQ
import Derived.Test.YtfcecmcnmgagnaaGreatDoorRmM
import Derived.Test.YtfcecmcnmgagnaaGreatDoorCoEnv
import Derived.Deep.Cut
import Derived.Deep.CutRange
namespace Go.Proofs.YtfcecmcnmgagnaaGreatDoor
set_option maxRecDepth 100000
set_option maxHeartbeats 4000000
open Go.RowKit AmC AmK
theorem ok5 (k v : Nat) (hk : k < 1000) (hv : v < 1000) : EntOk (fun _ => 5) ⟨k, v, 5⟩ := ⟨rfl, (by show 5 < _; decide), by show k < _; omega, by show v < _; omega⟩
theorem law46_alive {W0 : World} {E : Nat → Addr} {w : World} (hE : Env W0 E w) : Calls Tryz.prog 4 #[] w fun y w' => y = .returned (.bool true) ∧ Below w.heap.size w w' := by
 have hn := ca_New (fun _ => 5) hE 1 2 1 (by decide) 1 2 1 ⟨by decide, by decide, rfl, rfl, rfl⟩ (by decide)
 unfold cfgV at hn
 have HN := qd hn
 clear hn hE
 go_in
 go_wp2_with fail
 refine HN.out.mono ?_
 rintro y w1 ⟨cb, F1, rfl, hA, hF, hb⟩
 have HA := qd hA
 have HF := qd hF
 have HB := qd hb
 have HB0 := qd hb.size
 clear hA hF hb HN
 have hp := ca_Put HA.out ⟨1, 1, 5⟩ (ok5 1 1 (by decide) (by decide)) (by decide)
 rw [show goneK 2 [] (⟨1, 1, 5⟩ : Ent).key = 0 by decide, show fullB 2 [] (⟨1, 1, 5⟩ : Ent).key = false by decide, show cput Ent.key 2 [] ⟨1, 1, 5⟩ = [⟨1, 1, 5⟩] by decide] at hp
 have HP := qd (show Calls Tryz.prog 8 #[.pointer (some ⟨cb, 0, none⟩), .int .u64 1, .int .u64 1, .int .u64 5] w1 (fun y w' => y = .returned (.tuple #[.int .u64 0, .bool false, .nilIface]) ∧ CaTo W0 E (fun _ => 5) 1 2 1 cb F1 w1 w' [⟨1, 1, 5⟩]) from hp)
 clear hp
 go_wp2_with fail
 refine HP.out.mono ?_
 rintro y w2 ⟨rfl, F2, hA, hs, hm⟩
 replace HB := qd (HB.out.trans (hm.below HF.out HB.out.size))
 replace HF := qd (show ∀ q ∈ F2, w.heap.size ≤ q from fun q hq => (hs q hq).elim (HF.out q) (fun k => by have := hm.size; have := HB0.out; omega))
 replace HB0 := qd HB.out.size
 replace HA := qd hA
 clear hA hs hm HP
 have hp := ca_Put HA.out ⟨2, 2, 5⟩ (ok5 2 2 (by decide) (by decide)) (by decide)
 rw [show goneK 2 [⟨1, 1, 5⟩] (⟨2, 2, 5⟩ : Ent).key = 0 by decide, show fullB 2 [⟨1, 1, 5⟩] (⟨2, 2, 5⟩ : Ent).key = false by decide, show cput Ent.key 2 [⟨1, 1, 5⟩] ⟨2, 2, 5⟩ = [⟨2, 2, 5⟩, ⟨1, 1, 5⟩] by decide] at hp
 have HP := qd (show Calls Tryz.prog 8 #[.pointer (some ⟨cb, 0, none⟩), .int .u64 2, .int .u64 2, .int .u64 5] w2 (fun y w' => y = .returned (.tuple #[.int .u64 0, .bool false, .nilIface]) ∧ CaTo W0 E (fun _ => 5) 1 2 1 cb F2 w2 w' [⟨2, 2, 5⟩, ⟨1, 1, 5⟩]) from hp)
 clear hp
 go_wp2_with fail
 refine HP.out.mono ?_
 rintro y w3 ⟨rfl, F3, hA, hs, hm⟩
 replace HB := qd (HB.out.trans (hm.below HF.out HB.out.size))
 replace HF := qd (show ∀ q ∈ F3, w.heap.size ≤ q from fun q hq => (hs q hq).elim (HF.out q) (fun k => by have := hm.size; have := HB0.out; omega))
 replace HB0 := qd HB.out.size
 replace HA := qd hA
 clear hA hs hm HP
 have hp := ca_Get_hit HA.out 1 (by decide) (x := ⟨1, 1, 5⟩) (by decide)
 rw [show ((⟨1, 1, 5⟩ : Ent) :: caLess Ent.key 1 [⟨2, 2, 5⟩, ⟨1, 1, 5⟩]) = [⟨1, 1, 5⟩, ⟨2, 2, 5⟩] by decide] at hp
 have HP := qd (show Calls Tryz.prog 11 #[.pointer (some ⟨cb, 0, none⟩), .int .u64 1, .int .u64 5] w3 (fun y w' => y = .returned (.tuple #[.int .u64 1, .bool true]) ∧ CaTo W0 E (fun _ => 5) 1 2 1 cb F3 w3 w' [⟨1, 1, 5⟩, ⟨2, 2, 5⟩]) from hp)
 clear hp
 go_wp2_with fail
 refine HP.out.mono ?_
 rintro y w4 ⟨rfl, F4, hA, hs, hm⟩
 replace HB := qd (HB.out.trans (hm.below HF.out HB.out.size))
 replace HF := qd (show ∀ q ∈ F4, w.heap.size ≤ q from fun q hq => (hs q hq).elim (HF.out q) (fun k => by have := hm.size; have := HB0.out; omega))
 replace HB0 := qd HB.out.size
 replace HA := qd hA
 clear hA hs hm HP
 have hp := ca_Put HA.out ⟨3, 3, 5⟩ (ok5 3 3 (by decide) (by decide)) (by decide)
 rw [show goneK 2 [⟨1, 1, 5⟩, ⟨2, 2, 5⟩] (⟨3, 3, 5⟩ : Ent).key = 2 by decide, show fullB 2 [⟨1, 1, 5⟩, ⟨2, 2, 5⟩] (⟨3, 3, 5⟩ : Ent).key = true by decide, show cput Ent.key 2 [⟨1, 1, 5⟩, ⟨2, 2, 5⟩] ⟨3, 3, 5⟩ = [⟨3, 3, 5⟩, ⟨1, 1, 5⟩] by decide] at hp
 have HP := qd (show Calls Tryz.prog 8 #[.pointer (some ⟨cb, 0, none⟩), .int .u64 3, .int .u64 3, .int .u64 5] w4 (fun y w' => y = .returned (.tuple #[.int .u64 2, .bool true, .nilIface]) ∧ CaTo W0 E (fun _ => 5) 1 2 1 cb F4 w4 w' [⟨3, 3, 5⟩, ⟨1, 1, 5⟩]) from hp)
 clear hp
 go_wp2_with fail
 refine HP.out.mono ?_
 rintro y w5 ⟨rfl, F5, hA, hs, hm⟩
 replace HB := qd (HB.out.trans (hm.below HF.out HB.out.size))
 replace HF := qd (show ∀ q ∈ F5, w.heap.size ≤ q from fun q hq => (hs q hq).elim (HF.out q) (fun k => by have := hm.size; have := HB0.out; omega))
 replace HB0 := qd HB.out.size
 replace HA := qd hA
 clear hA hs hm HP
 go_wp2
 go_ret
 exact ⟨rfl, HB.out⟩
section
variable {c i id : Nat} {H : Nat → Nat} {e ids ids' : List Nat} {a a' : Pool}
def aliveE (j : Nat) : Ent := ⟨j, j + 1, j * 1152921504606846976⟩
def aliveL : Nat → List Ent
 | 0 => []
 | i + 1 => aliveE i :: aliveL i
def aliveH (k : Nat) : Nat := k * 1152921504606846976 % 18446744073709551616
structure AliveSt (i : Nat) (a : Pool) (ids : List Nat) : Prop where
 ids_ : ids = []
 ents : a.ents.Perm (aliveL i)
 nd : ∃ N, a.Ns = [N] ∧ N.ph = .idle ∧ N.len = 1 ∧ N.dpt = 0 ∧ N.kind = 0 ∧ load N.T ≤ i
end
def AliveG (i : Nat) (a : Pool) (ids : List Nat) : Prop := (i < 4 → AliveSt i a ids) ∧ (i = 4 → ids = [] ∧ a.ents.Perm (aliveL 4) ∧ a.groups = 2)
structure LAct where
 kind : Int
 key : Int
 n : Int
def LAct.cells (a : LAct) : List Value := [.int .i64 a.kind, .int .i64 a.key, .int .i64 a.n]
def actV (a : LAct) : Value := .agg #[.int .i64 a.kind, .int .i64 a.key, .int .i64 a.n]
def iOf (key : Int) (n : Nat) : Nat := (key % 18446744073709551616).toNat % n
def entOf (l : List Nat) (a : LAct) : Ent := ⟨iOf a.key l.length, (a.n % 18446744073709551616).toNat, l.getD (iOf a.key l.length) 0⟩
def numsV (l : List Nat) : List Value := l.map fun x : Nat => .int .u64 (x : Int)
theorem law_Entry (A : Option Addr) (n c : Nat) (l : List Nat) (a : LAct) (hn : 1 ≤ n ∧ n ≤ 220) (hl : l.length = n) (w : World) (hR : Reads w w.heap.size 1 A n (numsV l)) :
  Calls Tryz.prog 7 #[.slice A n c, actV a] w fun e w' => e = .returned (entV (entOf l a)) ∧ Below w.heap.size w w' := by
 obtain ⟨g, off, rfl, hgl, hcell⟩ := hR.2 (by omega)
 obtain ⟨i, hi⟩ : ∃ i, i = iOf a.key n := ⟨_, rfl⟩
 have hin : i < n := by rw [hi]; exact Nat.mod_lt _ (by omega)
 obtain ⟨x, hx⟩ : ∃ x, x = l.getD i 0 := ⟨_, rfl⟩
 have hc : w.cell? ⟨g, off + i, none⟩ = some (.int .u64 (x : Int)) := hcell i _ (by
  unfold numsV
  rw [List.getElem?_map, List.getElem?_eq_getElem (by omega), hx, List.getD_eq_getElem?_getD, List.getElem?_eq_getElem (by omega)]; rfl)
 unfold actV
 have hB1 := (Blk.new w 38 #[.int .i64 a.kind, .int .i64 a.key, .int .i64 a.n]).alloc (.cells #[.int .u64 0, .int .u64 0, .int .u64 0] 35)
 have hB2 := Blk.new (w.alloc (.cells #[.int .i64 a.kind, .int .i64 a.key, .int .i64 a.n] 38)) 35 #[.int .u64 0, .int .u64 0, .int .u64 0]
 have hb := ((Below.refl w.heap.size w).alloc (Nat.le_refl _) (.cells #[.int .i64 a.kind, .int .i64 a.key, .int .i64 a.n] 38)).alloc (by simp) (.cells #[.int .u64 0, .int .u64 0, .int .u64 0] 35)
 simp only [World.size_alloc] at hB2
 go_in
 go_upto_region 1 with fail
 refine nameW (F := fun v => Blk v w.heap.size 38 #[.int .i64 a.kind, .int .i64 a.key, .int .i64 a.n] ∧ Blk v (w.heap.size + 1) 35 #[.int .u64 0, .int .u64 0, .int .u64 0] ∧ Below w.heap.size w v) ⟨hB1, hB2, hb⟩ ?_
 clear hB1 hB2 hb
 rintro w1 ⟨hB1, hB2, hb⟩
 have a0 := hB1.cell 0
 have a1 := hB1.cell 1
 have a2 := hB1.cell 2
 have b0 := hB2.cell 0
 have b1 := hB2.cell 1
 have b2 := hB2.cell 2
 simp only [gl] at a0 a1 a2 b0 b1 b2
 obtain ⟨f0, f1, f2⟩ := hB2.f3
 have hc1 : w1.cell? ⟨g, off + i, none⟩ = some (.int .u64 (x : Int)) := (World.cell?_of_block (hb.block g hgl)).trans hc
 have HB2 := qd hB2
 have HB := qd hb
 have HI := qd hi
 have HX := qd hx
 have hn1 : (n : Int) ≤ 220 := by omega
 have hn0 : (1 : Int) ≤ (n : Int) := by omega
 have hnz : ¬ (n : Int) = 0 := by omega
 clear hB1 hB2 hb hi hx hR hc hcell
 have hwk : IntKind.u64.wrap a.key = a.key % 18446744073709551616 := by first | rfl | (simp [IntKind.wrap])
 have hq1 : (IntKind.u64.wrap a.key).tmod (n : Int) = (i : Int) := by
  rw [hwk, HI.out, Int.tmod_eq_emod_of_nonneg (by omega)]
  unfold iOf
  rw [Int.natCast_emod, Int.toNat_of_nonneg (by omega)]
 have hq2 : wrap64 (i : Int) = (i : Int) := by unfold wrap64; omega
 have hi0 : (0 : Int) ≤ (i : Int) := by omega
 have hin' : (i : Int) < (n : Int) := by omega
 have hwn : IntKind.u64.wrap a.n = (((a.n % 18446744073709551616).toNat : Nat) : Int) := by
  have : IntKind.u64.wrap a.n = a.n % 18446744073709551616 := by first | rfl | (simp [IntKind.wrap])
  rw [this]; omega
 obtain ⟨q, hq⟩ : ∃ q : Nat, q = (a.n % 18446744073709551616).toNat := ⟨_, rfl⟩
 rw [← hq] at hwn
 have HQ := qd hq
 clear hwk hq
 go_upto_region 2 with fail
 go_region
 have hB3 := (((HB2.out.set_ 0 (.int .u64 (i : Int))).set_ 1 (.int .u64 (q : Int))).set_ 2 (.int .u64 (x : Int))).drew
 simp only [pt] at hB3
 have hbf := (((HB.out.setCell (p := ⟨w.heap.size + 1, 0, none⟩) (Nat.le_succ _) (.int .u64 (i : Int))).setCell (p := ⟨w.heap.size + 1, 1, none⟩) (Nat.le_succ _) (.int .u64 (q : Int))).setCell (p := ⟨w.heap.size + 1, 2, none⟩) (Nat.le_succ _) (.int .u64 (x : Int))).drew
 refine nameW (F := fun v => Blk v (w.heap.size + 1) 35 #[.int .u64 (i : Int), .int .u64 (q : Int), .int .u64 (x : Int)] ∧ Below w.heap.size w v) ⟨hB3, hbf⟩ ?_
 clear hB3 hbf
 rintro w3 ⟨hB3, hbf⟩
 obtain ⟨e0, e1, e2⟩ := hB3.c3
 go_wp2
 refine bodyPost_ret (v := .agg #[.int .u64 (i : Int), .int .u64 (q : Int), .int .u64 (x : Int)]) (by simp [results, Tryz.results7, go_sem, e0, e1, e2]) rfl ⟨?_, hbf⟩
 unfold entV entOf
 rw [hl, ← HI.out, ← HX.out, ← HQ.out]
section
variable {W0 w : World} {K M j mb : Nat} {G ids l : List Nat} {E : Nat → Addr} {H : Nat → Nat}
def lawH (l : List Nat) (k : Nat) : Nat := l.getD k 0
theorem lawH_lt (h : ∀ x ∈ l, x < 18446744073709551616) (k : Nat) : lawH l k < 18446744073709551616 := by
 unfold lawH
 rw [List.getD_eq_getElem?_getD]
 cases hk : l[k]? with
 | none => decide
 | some x => exact h x (List.mem_of_getElem? hk)
theorem entOf_ok (h : ∀ x ∈ l, x < 18446744073709551616) (hn : 1 ≤ l.length ∧ l.length ≤ 220) (a : LAct) : EntOk (lawH l) (entOf l a) := by
 refine ⟨rfl, lawH_lt h _, ?_, ?_⟩
 ·have : iOf a.key l.length < l.length := Nat.mod_lt _ (by omega)
  show iOf a.key l.length < _
  omega
 ·show (a.n % 18446744073709551616).toNat < _
  omega
theorem cfg_nat {k m i : Int} (h : cfgOk k m i = true) : ∃ K M I : Nat, (1 ≤ K ∧ K ≤ 64) ∧ (1 ≤ M ∧ M ≤ 192) ∧ k = (K : Int) ∧ m = (M : Int) ∧ i = (I : Int) := by
 unfold cfgOk inB at h
 simp only [Bool.and_eq_true, decide_eq_true_eq] at h
 exact ⟨k.toNat, m.toNat, i.toNat, by omega, by omega, by omega, by omega, by omega⟩
def Keeps (a a' : Pool) : Prop := ∀ mx, GB mx a → a'.ents.length ≤ mx → GB mx a'
theorem fewer_rounds {m : Nat} (h : j < m) : m - (intOf (.int .i64 ((j : Int) + 1))).toNat < m - (intOf (.int .i64 (j : Int))).toNat := by
 show m - ((j : Int) + 1).toNat < m - (j : Int).toNat
 omega
end
end Go.Proofs.YtfcecmcnmgagnaaGreatDoor
