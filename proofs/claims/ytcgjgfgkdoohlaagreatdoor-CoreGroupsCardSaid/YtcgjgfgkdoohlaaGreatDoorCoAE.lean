/- A table that counts right: what a write leaves of that. No statement of the claim. -/
import Derived.Test.YtcgjgfgkdoohlaaGreatDoorTabS
import Derived.Test.YtcgjgfgkdoohlaaGreatDoorCoY
import Derived.Test.YtcgjgfgkdoohlaaGreatDoorLaneP
import Derived.Test.YtcgjgfgkdoohlaaGreatDoorCoN
namespace Go.Proofs.YtcgjgfgkdoohlaaGreatDoor
section
open Go AmC
structure TOk (T : TabM) : Prop where
 wide : Wide T.gs
 pow : Pw T.gs.length
 live : T.live = ((entsT T.gs).length : Int)
 tombs : T.tombs = (tombsT T.gs : Int)
theorem TOk.small {T : TabM} (h : TOk T) : Small T := by
 have h1 := room_most h.wide
 have h2 := h.pow.le
 exact ⟨by rw [h.live]; omega, by rw [h.live]; omega, by rw [h.tombs]; omega, by rw [h.tombs]; omega, h2⟩
theorem TOk.put {T : TabM} (h : TOk T) {i s : Nat} (hi : i < T.gs.length) (hs : s < (T.gs.getD i []).length) (x : Slot) {l t : Int}
  (hl : l = T.live + x.ents.length - (slotAt T.gs i s).ents.length) (ht : t = T.tombs + x.tomb1 - (slotAt T.gs i s).tomb1) : TOk ⟨putAt T.gs i s x, l, t⟩ := by
 have h1 := (entsT_put hi hs x).length_eq
 have h2 := tombsT_put hi hs x
 rw [List.length_append, List.length_append] at h1
 have h3 := h.live
 have h4 := h.tombs
 exact ⟨h.wide.put _ _ _, by show Pw (putAt _ _ _ _).length; rw [putAt_length]; exact h.pow, by show l = ((entsT (putAt T.gs i s x)).length : Int); omega, by show t = (tombsT (putAt T.gs i s x) : Int); omega⟩
theorem TOk.erase {T : TabM} (h : TOk T) {i s : Nat} {e : Ent} (he : slotAt T.gs i s = .full e) : TOk (eraseM T i s) := by
 obtain ⟨hi, hs⟩ := slotAt_lt (gs := T.gs) (i := i) (s := s) (by rw [he]; exact fun h => by cases h)
 unfold eraseM
 cases ho : openG (T.gs.getD i []) with
 | true => exact h.put hi hs _ (by rw [he]; simp [Slot.ents] <;> omega) (by rw [he]; simp [Slot.tomb1, Slot.isTomb] <;> omega)
 | false => exact h.put hi hs _ (by rw [he]; simp [Slot.ents] <;> omega) (by rw [he]; simp [Slot.tomb1, Slot.isTomb] <;> omega)
theorem TOk.place {T : TabM} (h : TOk T) {i s : Nat} (hi : i < T.gs.length) (hs : s < (T.gs.getD i []).length) (he : (slotAt T.gs i s).isFull = false) (e : Ent) : TOk (placeM T i s e) := by
 unfold placeM
 cases hx : slotAt T.gs i s with
 | full y => rw [hx] at he; cases he
 | empty => exact h.put hi hs _ (by rw [hx]; simp [Slot.ents] <;> omega) (by rw [hx]; simp [Slot.tomb1, Slot.isTomb] <;> omega)
 | tomb => exact h.put hi hs _ (by rw [hx]; simp [Slot.ents] <;> omega) (by rw [hx]; simp [Slot.tomb1, Slot.isTomb] <;> omega)
theorem TOk.replace {T : TabM} (h : TOk T) {i s v : Nat} {e : Ent} (he : slotAt T.gs i s = .full e) : TOk (replaceM T i s v e) := by
 obtain ⟨hi, hs⟩ := slotAt_lt (gs := T.gs) (i := i) (s := s) (by rw [he]; exact fun h => by cases h)
 exact h.put hi hs _ (by rw [he]; simp [Slot.ents] <;> omega) (by rw [he]; simp [Slot.tomb1, Slot.isTomb] <;> omega)
def eraseIf (T : TabM) (i s : Nat) : TabM := if (slotAt T.gs i s).isFull then eraseM T i s else T
def takeN (T : TabM) (i : Nat) : Nat → TabM
 | 0 => T
 | k + 1 => eraseIf (takeN T i k) i k
theorem TOk.erIf {T : TabM} (h : TOk T) (i s : Nat) : TOk (eraseIf T i s) := by
 unfold eraseIf
 cases hx : slotAt T.gs i s with
 | full e => rw [if_pos (by rfl)]; exact h.erase hx
 | empty => rw [if_neg (by simp [Slot.isFull])]; exact h
 | tomb => rw [if_neg (by simp [Slot.isFull])]; exact h
theorem TOk.tkN {T : TabM} (h : TOk T) (i : Nat) : ∀ k, TOk (takeN T i k)
 | 0 => h
 | k + 1 => (h.tkN i k).erIf i k
theorem eraseM_length (T : TabM) (i s : Nat) : (eraseM T i s).gs.length = T.gs.length := putAt_length _ _ _ _
theorem takeN_length (T : TabM) (i : Nat) : ∀ k, (takeN T i k).gs.length = T.gs.length
 | 0 => rfl
 | k + 1 => by
  show (eraseIf _ _ _).gs.length = _
  unfold eraseIf
  split
  ·rw [eraseM_length, takeN_length T i k]
  ·exact takeN_length T i k
theorem own_mod {w w' : World} {S : List Nat} {base : Nat} {e : TypeId} {size n : Nat} {v : Value} {xs : List Value} (h : w.ownsRow base e size v n xs) (hm : Mod S w w') (hS : ∀ k, k ∈ S → k < base) : w'.ownsRow base e size v n xs := by
 refine ⟨h.1, ?_⟩
 rcases h.2 with hn | ⟨g, cap, cur, hv, hb, hg, rest⟩
 ·exact .inl hn
 ·exact .inr ⟨g, cap, cur, hv, hb, (hm.block g (Array.getElem?_eq_some_iff.1 hg).1 (fun hh => absurd (hS g hh) (by omega))).trans hg, rest⟩
end
section
open Go.RowKit AmC
structure ErrsC (E : Nat → Addr) (w : World) : Prop where
 of : ∀ k, k = 1 ∨ k = 2 ∨ k = 5 → ErrAt E w k
theorem ErrsC.at_ {E : Nat → Addr} {w : World} (h : ErrsC E w) (k : Nat) (_ : 1 ≤ k) (_ : k ≤ 16) (hk : k = 1 ∨ k = 2 ∨ k = 5 := by decide) : ErrAt E w k := h.of k hk
theorem ErrsC.below {E : Nat → Addr} {w w' : World} {B : Nat} (h : ErrsC E w) (hb : Below B w w') (hB : w.heap.size ≤ B) : ErrsC E w' := ⟨fun k hk => (h.of k hk).below hb hB⟩
theorem ErrsIn.core {E : Nat → Addr} {w : World} (h : ErrsIn E w) : ErrsC E w := ⟨fun k hk => h.at_ k (by omega) (by omega)⟩
structure Env (W0 : World) (E : Nat → Addr) (w : World) : Prop where
 below : Below W0.heap.size W0 w
 errs0 : ErrsC E W0
 tz0 : TzIn W0
section
variable {W0 w w' : World} {E : Nat → Addr}
theorem Env.size (h : Env W0 E w) : W0.heap.size ≤ w.heap.size := h.below.size
theorem Env.errs (h : Env W0 E w) : ErrsC E w := h.errs0.below h.below (Nat.le_refl _)
theorem Env.tz (h : Env W0 E w) : TzIn w := h.tz0.below h.below
theorem Env.tzlt (h : Env W0 E w) : 16 < W0.heap.size := World.block_lt_of_cell? W0 _ (h.tz0 0 (by omega))
theorem Env.mod {S : List Nat} (h : Env W0 E w) (hm : Mod S w w') (hS : ∀ k, k ∈ S → W0.heap.size ≤ k) : Env W0 E w' := ⟨h.below.trans (hm.below hS h.size), h.errs0, h.tz0⟩
theorem Env.next (h : Env W0 E w) (hb : Below w.heap.size w w') : Env W0 E w' := h.mod (Mod.of_below hb []) (by simp)
end
structure MP where
 mb : Nat
 mt : TypeId
 pre : List Value
 post : List Value
 mo : Nat
 m : Int
structure Mtr where
 all : Cnt
 last : Cnt
def Mtr.add (x : Mtr) (c : Cnt) (n : Nat) : Mtr := ⟨plusN x.all c n, plusN x.last c n⟩
theorem plusN_add (a c : Cnt) (k : Nat) : ∀ n, plusN (plusN a c k) c n = plusN a c (k + n)
 | 0 => rfl
 | n + 1 => by
  show plusC (plusN (plusN a c k) c n) c = plusC (plusN a c (k + n)) c
  rw [plusN_add a c k n]
theorem Mtr.add_add (x : Mtr) (c : Cnt) (k n : Nat) : (x.add c k).add c n = x.add c (k + n) := by unfold Mtr.add; rw [plusN_add, plusN_add]
def MetP (w : World) (P : MP) (x : Mtr) : Prop := Met w P.mb P.mt P.pre P.post P.mo x.all x.last P.m
def MP.addr (P : MP) : Addr := ⟨P.mb, P.mo, none⟩
section
variable {w w' : World} {P : MP} {x : Mtr}
theorem MetP.lt (h : MetP w P x) : P.mb < w.heap.size := Met.lt h
theorem MetP.mod {S : List Nat} (h : MetP w P x) (hm : Mod S w w') (hg : P.mb ∉ S) : MetP w' P x := Met.mod h hm hg
theorem MetP.below (h : MetP w P x) (hb : Below w.heap.size w w') : MetP w' P x := Met.below h hb
end
end
section
set_option maxRecDepth 100000
set_option maxHeartbeats 4000000
open Go.RowKit AmC
theorem made_const {z : Array Value} {v : Value} {k : Nat} (hz : z = (List.replicate k v).toArray) (hk : 0 < k) (n : Nat) : madeCells z n = (List.replicate n v).toArray := by
 apply Array.toList_inj.1
 subst hz
 unfold madeCells
 rw [Array.toList_map]
 refine List.ext_getElem (by simp) fun i h1 h2 => ?_
 simp only [List.getElem_map, List.getElem_replicate]
 rw [getElem!_pos _ _ (by simp; exact Nat.mod_lt _ hk)]
 simp
def rawG : Grp := List.replicate 8 (.full ⟨0, 0, 0⟩)
theorem gCells_raw : gCells rawG = List.replicate 25 (.int .u64 0) := by rfl
theorem tabCells_raw : ∀ n, tabCells (List.replicate n rawG) = List.replicate (n * 25) (.int .u64 0)
 | 0 => rfl
 | n + 1 => by
  show gCells rawG ++ tabCells (List.replicate n rawG) = _
  rw [tabCells_raw n, gCells_raw, Nat.add_mul, Nat.add_comm, List.replicate_append_replicate]
def rawZ : Value := .agg #[.int .u64 0, .agg (Array.replicate 8 (.agg #[.int .u64 0, .int .u64 0, .int .u64 0]))]
theorem info_grp : (Tryz.prog.info? 167).map (fun i => (i.zero.map fun z => z.cells, i.size, i.bytes)) = some (some (List.replicate 25 (Value.int .u64 0)).toArray, 25, 200) := by kernel_rfl
theorem make_groups (n : Nat) (hn : n ≤ 64) (W : World) : (Instr.makeSlice 161 (.int .i64 (n : Int)) (.int .i64 (n : Int))).run Tryz.prog W = .ok (.slice (some ⟨W.heap.size, 0, none⟩) n n) (W.alloc (.cells (tabCells (List.replicate n rawG)).toArray 167)) := by
 have h := info_grp
 cases hi : Tryz.prog.info? 167 with
 | none => rw [hi] at h; cases h
 | some i =>
  rw [hi] at h
  simp only [Option.map_some, Option.some.injEq, Prod.mk.injEq, Option.map_eq_some_iff] at h
  obtain ⟨⟨z, hz, hc⟩, hs, hb⟩ := h
  have := run_makeSlice (P := Tryz.prog) (w := W) 161 167 i z Tryz.underlying161 hi hz .i64 .i64 (n : Int) (n : Int) (by omega) (Int.le_refl _) (by rw [hs]; omega) (by rw [hb]; omega) (by omega)
  rw [this, hs, Int.toNat_natCast, made_const hc (by omega), tabCells_raw]
theorem probe_Right_ok (n : Nat) (hn : Pw n) (w : World) : Calls Tryz.prog 133 #[.int .i64 (n : Int)] w fun e w' => e = .returned (.bool true) ∧ w = w' := by
 rcases hn with rfl | rfl | rfl | rfl | rfl | rfl | rfl
 all_goals
  go_enter Tryz.func133, Tryz.ntmps133
  go_wp2
  go_ret
  exact ⟨rfl, rfl⟩
def rawT (n : Nat) : TabM := ⟨List.replicate n rawG, 0, 0⟩
theorem table_Raw (n : Nat) (hn : Pw n) (w : World) :
  Calls Tryz.prog 89 #[.int .i64 (n : Int)] w fun e w' => e = .returned (.tuple #[tabP (w.heap.size + 1), .nilIface]) ∧ TabAt w' (w.heap.size + 1) w.heap.size (rawT n) ∧ Below w.heap.size w w' := by
 have HR := qd (probe_Right_ok n hn w)
 have hle := hn.le
 have hpos := hn.pos
 have hmk := make_groups n hle w
 unfold tabP
 go_enter Tryz.func89, Tryz.ntmps89
 go_wp2_with fail
 refine (HR.out).mono ?_
 rintro x w1 ⟨rfl, rfl⟩
 go_wp2
 refine bodyPost_ret (v := .tuple #[.pointer (some ⟨w.heap.size + 1, 0, none⟩), .nilIface]) (by simp [results, Tryz.results89, go_sem]) rfl ⟨rfl, ⟨fun G hG => ?_, ?_, ?_, by omega⟩, ?_⟩
 ·rw [(List.mem_replicate.1 hG).2]; rfl
 ·have := Blk.new (w.alloc (.cells (tabCells (List.replicate n rawG)).toArray 167)) 163 #[.slice (some ⟨w.heap.size, 0, none⟩) n n, .int .i64 0, .int .i64 0]
  rw [World.size_alloc] at this
  simpa [rawT] using this
 ·exact (Blk.new w 167 (tabCells (List.replicate n rawG)).toArray).alloc _
 ·exact ((Below.refl _ _).alloc (Nat.le_refl _) _).alloc (by simp) _
end
section
set_option maxRecDepth 100000
set_option maxHeartbeats 4000000
open Go.RowKit AmC
def emptyG : Grp := List.replicate 8 .empty
def prepG (n k : Nat) : Tab := List.replicate k emptyG ++ List.replicate (n - k) rawG
theorem prepG_all (n : Nat) : prepG n n = bare n := by unfold prepG; rw [Nat.sub_self]; simp [bare, emptyG]
theorem prepG_length {n k : Nat} (h : k ≤ n) : (prepG n k).length = n := by simp [prepG]; omega
theorem prepG_set {n k : Nat} (h : k < n) : (prepG n k).set k emptyG = prepG n (k + 1) := by
 unfold prepG
 rw [List.set_append_right _ _ (by simp), List.length_replicate, Nat.sub_self, show n - k = (n - (k + 1)) + 1 by omega, List.replicate_succ, List.set_cons_zero, List.replicate_succ', List.append_assoc]; rfl
def prepT (n k : Nat) : TabM := ⟨prepG n k, 0, 0⟩
theorem prep_ok {n : Nat} (hn : Pw n) : TOk (prepT n n) := by
 have h := (inv_bare hn)
 refine ⟨?_, ?_, ?_, ?_⟩
 ·show Wide (prepG n n); rw [prepG_all]; exact h.wide
 ·show Pw (prepG n n).length; rw [prepG_length (Nat.le_refl _)]; exact hn
 ·show (0 : Int) = ((entsT (prepG n n)).length : Int)
  rw [prepG_all]
  have : entsT (bare n) = [] := List.eq_nil_iff_forall_not_mem.2 fun e he => by obtain ⟨i, s, hh⟩ := mem_entsT.1 he; rw [slotAt_bare] at hh; cases hh
  rw [this]; rfl
 ·show (0 : Int) = (tombsT (prepG n n) : Int)
  rw [prepG_all]
  have : ∀ n, tombsT (bare n) = 0 := fun n => by
   induction n with
   | zero => rfl
   | succ k ih => show tombsT (List.replicate 8 Slot.empty :: bare k) = 0; rw [tombsT_cons, ih]; rfl
  rw [this]; rfl
theorem table_New (n : Nat) (hn : Pw n) (w : World) :
  Calls Tryz.prog 56 #[.int .i64 (n : Int)] w fun e w' => ∃ tb gb, w.heap.size ≤ tb ∧ w.heap.size ≤ gb ∧ e = .returned (.tuple #[tabP tb, .nilIface]) ∧ TabAt w' tb gb (prepT n n) ∧ Below w.heap.size w w' := by
 have hle := hn.le
 have hpos := hn.pos
 have HRaw := qd (table_Raw n hn w)
 unfold tabP at HRaw ⊢
 go_enter Tryz.func56, Tryz.ntmps56
 go_upto_region 1 with fail
 go_wp2_with fail
 refine (HRaw.out).mono ?_
 rintro x w1 ⟨rfl, hT1, hb1⟩
 obtain ⟨tb, htb⟩ : ∃ tb, tb = w.heap.size + 1 := ⟨_, rfl⟩
 obtain ⟨gb, hgb⟩ : ∃ gb, gb = w.heap.size := ⟨_, rfl⟩
 rw [← htb] at hT1 ⊢
 rw [← hgb] at hT1
 replace htb : w.heap.size ≤ tb := by omega
 replace hgb : w.heap.size ≤ gb := by omega
 clear HRaw
 obtain ⟨c0, c1, c2⟩ := hT1.cells
 have hln : (rawT n).gs.length = n := by simp [rawT]
 rw [hln] at c0
 have HT := qd (show TabAt w1 tb gb (prepT n 0) from hT1)
 have Hmod := qd hb1
 clear hT1 hb1 hln
 go_wp2
 go_loopw [6, 20] (fun _ i wr => ∃ k : Nat, k ≤ n ∧ i = .int .i64 k ∧ TabAt wr tb gb (prepT n k) ∧ Below w.heap.size w wr) (fun _ i _ => n - (intOf i).toNat)
 case atStart => exact ⟨0, by omega, rfl, HT.out, Hmod.out⟩
 case round =>
  clear HT Hmod c0 c1 c2
  obtain ⟨k, hk, rfl, hT, hm⟩ := hrel
  by_cases hlt : k < n
  ·have hlt' : (k : Int) < (n : Int) := by omega
   have hk0 : (0 : Int) ≤ (k : Int) := by omega
   obtain ⟨c0, c1, c2⟩ := hT.cells
   have hln : (prepT n k).gs.length = n := prepG_length hk
   rw [hln] at c0
   have htl := hT.ltT
   have hgl := hT.ltG
   have HLk := qd (group_Look_nil ⟨gb, k * 25, none⟩ ⟨0, 0, 0⟩ wr)
   have HG := qd (hT.group k (by rw [hln]; exact hlt))
   have HT := qd hT
   have Hm := qd hm
   have HS := qd (prepG_set hlt)
   unfold lensV viewV at HLk
   clear hT hm hln
   go_wp2_with fail
   refine (HLk.out).mono ?_
   rintro x w2 ⟨rfl, hb2⟩
   have HCl := qd (grp_Clear gb 167 _ _ (k * 25) _ w2 (HG.out.below hb2))
   have HT2 := qd (HT.out.below hb2)
   have Hm2 := qd (Hm.out.trans (hb2.mono Hm.out.size))
   unfold viewV at HCl
   clear hb2 HT Hm HG HLk
   go_wp2_with fail
   refine (HCl.out).mono ?_
   rintro x w3 ⟨rfl, hG3, hm3⟩
   have HT3 := qd (HT2.out.set_group k (by rw [show (prepT n k).gs.length = n from prepG_length hk]; exact hlt) hm3 hG3)
   have Hm3 := qd (Hm2.out.trans (hm3.below (B := w.heap.size) (by intro j hj; simp at hj; omega) Hm2.out.size))
   clear HT2 Hm2 hG3 hm3
   go_wp2
   go_roundw
   case rel => exact ⟨k + 1, by omega, by go_num, by have := HT3.out; unfold prepT at this ⊢; rw [← HS.out]; exact this, Hm3.out⟩
   case measure => simp [intOf]; omega
  ·obtain rfl : k = n := by omega
   have hlt' : ¬ (k : Int) < (k : Int) := by omega
   go_wp2
   refine bodyPost_ret (v := .tuple #[.pointer (some ⟨tb, 0, none⟩), .nilIface]) (by simp [results, Tryz.results56, go_sem]) rfl (by first | exact ⟨tb, gb, htb, hgb, rfl, hT, hm⟩ | exact ⟨tb, htb, gb, hgb, rfl, hT, hm⟩)
end
section
set_option maxRecDepth 100000
set_option maxHeartbeats 8000000
open Go.RowKit AmC
theorem take_nx {α : Type} {l : List α} {k : Nat} {y : α} (h : l[k]? = some y) : l.take (k + 1) = l.take k ++ [y] := by rw [List.take_add_one, h]; rfl
def leastStep (f : Ent) (o : Option Ent) (e : Ent) : Option Ent := if !lessE e f && (match o with | none => true | some b => lessE e b) then some e else o
def leastL (f : Ent) (o : Option Ent) (es : List Ent) : Option Ent := es.foldl (leastStep f) o
def optCells (o : Option Ent) : Array Value := (entCells (o.getD ⟨0, 0, 0⟩)).toArray
theorem ent_cells {w : World} {base n c : Nat} {A : Option Addr} {es : List Ent} (h : w.ownsRow base 37 3 (.slice A n c) n (es.flatMap entCells)) {j : Nat} {e : Ent} (he : es[j]? = some e) :
  ∃ g, A = some ⟨g, 0, none⟩ ∧ base ≤ g ∧ w.cell? ⟨g, j * 3, none⟩ = some (.int .u64 (e.key : Int)) ∧ w.cell? ⟨g, j * 3 + 1, none⟩ = some (.int .u64 (e.val : Int)) ∧ w.cell? ⟨g, j * 3 + 2, none⟩ = some (.int .u64 (e.hash : Int)) ∧ j < n := by
 have hl := h.1
 rw [ents_length] at hl
 obtain ⟨hj, _⟩ := List.getElem?_eq_some_iff.1 he
 have hjn : j < n := by omega
 rcases h.2 with hn | ⟨g, cap, cur, hv, hb, hg, h1, h2, h3, h4⟩
 ·omega
 ·cases hv
  refine ⟨g, rfl, hb, ?_⟩
  have hs : es.flatMap entCells = (es.take j).flatMap entCells ++ (entCells e ++ (es.drop (j + 1)).flatMap entCells) := by
   conv => lhs; rw [← List.take_append_drop j es, List.drop_eq_getElem?_toList_append, he]
   simp
  have hlt : ((es.take j).flatMap entCells).length = j * 3 := by rw [ents_length, List.length_take]; omega
  have hc : ∀ q, q < 3 → w.cell? ⟨g, j * 3 + q, none⟩ = (entCells e)[q]? := fun q hq => by
   have := h.cellAt (j * 3 + q) (by omega)
   rw [this, hs, List.getElem?_append_right (by omega), hlt, Nat.add_sub_cancel_left, List.getElem?_append_left (by simpa [entCells] using hq)]
  exact ⟨hc 0 (by omega), hc 1 (by omega), hc 2 (by omega), hjn⟩
end
section
set_option maxRecDepth 100000
set_option maxHeartbeats 4000000
open Go.RowKit AmC
def cU (n : Int) : Cnt := ⟨0, 0, n⟩
def cV : Cnt := ⟨0, 1, 0⟩
def cP : Cnt := ⟨1, 0, 0⟩
def bldP (b : Nat) : Value := .pointer (some ⟨b, 0, none⟩)
structure BldAt (w : World) (bb tb gb n k : Nat) : Prop where
 blk : Blk w bb 238 #[.pointer (some ⟨tb, 0, none⟩), .int .i64 (n : Int), .int .i64 (k : Int)]
 tab : TabAt w tb gb (prepT n k)
 le : k ≤ n
 pow : Pw n
 ne1 : bb ≠ tb
 ne2 : bb ≠ gb
section
variable {w w' : World} {bb tb gb n k : Nat}
theorem BldAt.lt (h : BldAt w bb tb gb n k) : bb < w.heap.size := h.blk.lt
theorem BldAt.ltT (h : BldAt w bb tb gb n k) : tb < w.heap.size := h.tab.ltT
theorem BldAt.ltG (h : BldAt w bb tb gb n k) : gb < w.heap.size := h.tab.ltG
theorem BldAt.mod {S : List Nat} (h : BldAt w bb tb gb n k) (hm : Mod S w w') (h1 : bb ∉ S) (h2 : tb ∉ S) (h3 : gb ∉ S) : BldAt w' bb tb gb n k := ⟨h.blk.mod hm h1, h.tab.mod hm h2 h3, h.le, h.pow, h.ne1, h.ne2⟩
theorem BldAt.cells (h : BldAt w bb tb gb n k) : w.cell? ⟨bb, 0, none⟩ = some (.pointer (some ⟨tb, 0, none⟩)) ∧ w.cell? ⟨bb, 1, none⟩ = some (.int .i64 (n : Int)) ∧ w.cell? ⟨bb, 2, none⟩ = some (.int .i64 (k : Int)) :=
 ⟨h.blk.cell 0, h.blk.cell 1, h.blk.cell 2⟩
end
theorem build_New (n : Nat) (hn : Pw n) (w : World) :
  Calls Tryz.prog 140 #[.int .i64 (n : Int)] w fun e w' => ∃ bb tb gb, w.heap.size ≤ bb ∧ w.heap.size ≤ tb ∧ w.heap.size ≤ gb ∧ e = .returned (.tuple #[bldP bb, .nilIface]) ∧ BldAt w' bb tb gb n 0 ∧ Below w.heap.size w w' := by
 have HR := qd (table_Raw n hn w)
 unfold tabP at HR
 unfold bldP
 go_enter Tryz.func140, Tryz.ntmps140
 go_wp2_with fail
 refine (HR.out).mono ?_
 rintro x w1 ⟨rfl, hT1, hb1⟩
 go_wp2
 refine bodyPost_ret (v := .tuple #[.pointer (some ⟨w1.heap.size, 0, none⟩), .nilIface]) (by simp [results, Tryz.results140, go_sem]) rfl ⟨w1.heap.size, w.heap.size + 1, w.heap.size, hb1.size, by omega, by omega, rfl, ⟨Blk.new w1 _ _, hT1.below ((Below.refl _ _).alloc (Nat.le_refl _) _), Nat.zero_le _, hn, ?_, ?_⟩, hb1.alloc (by have := hT1.ltT; omega) _⟩
 ·have := hT1.ltT; omega
 ·have := hT1.ltG; omega
theorem build_Groups (bb n k : Nat) (p : Value) (w : World) (h : Blk w bb 238 #[p, .int .i64 (n : Int), .int .i64 (k : Int)]) :
  Calls Tryz.prog 124 #[bldP bb] w fun e w' => e = .returned (.int .i64 (n : Int)) ∧ w = w' := by
 have c1 := h.cell 1
 simp only [gl] at c1
 clear h
 unfold bldP
 go_enter Tryz.func124, Tryz.ntmps124
 go_wp2
 go_ret
 exact ⟨rfl, rfl⟩
theorem build_Left (bb n k : Nat) (p : Value) (w : World) (hk : k ≤ n) (hn : n ≤ 64) (h : Blk w bb 238 #[p, .int .i64 (n : Int), .int .i64 (k : Int)]) :
  Calls Tryz.prog 129 #[bldP bb] w fun e w' => e = .returned (.int .i64 ((n - k : Nat) : Int)) ∧ w.drew = w' := by
 have c1 := h.cell 1
 have c2 := h.cell 2
 simp only [gl] at c1 c2
 clear h
 unfold bldP
 go_enter Tryz.func129, Tryz.ntmps129
 go_upto_region 1 with fail
 go_region
 go_wp2
 go_ret
 exact ⟨ret_int (by omega), rfl⟩
theorem build_Step {W0 : World} {E : Nat → Addr} (bb tb gb n k : Nat) (P : MP) (x : Mtr) (hk : k < n) (w : World) (h : BldAt w bb tb gb n k) (hM : MetP w P x) (hE : Env W0 E w) (hmb : P.mb ≠ bb) (hmt : P.mb ≠ tb) (hmg : P.mb ≠ gb) (hb0 : W0.heap.size ≤ P.mb) (hb1 : W0.heap.size ≤ bb) (hb2 : W0.heap.size ≤ tb) (hb3 : W0.heap.size ≤ gb) :
  Calls Tryz.prog 213 #[bldP bb, .pointer (some ⟨P.mb, P.mo, none⟩)] w fun e w' => e = .returned (.bool true) ∧ BldAt w' bb tb gb n (k + 1) ∧ MetP w' P ((x.add cV 1).add (cU 1) 1) ∧ Mod [P.mb, bb, tb, gb] w w' := by
 have hml := hM.lt
 have hB0 := hE.size
 have hne1 := h.ne1
 have hne2 := h.ne2
 have hle := h.pow.le
 have hk0 : ¬ ((n - k : Nat) : Int) = 0 := by omega
 have hk1 : ¬ n ≤ k := by omega
 have hk2 : ¬ n - k = 0 := by omega
 have HB := qd (h.blk)
 have HT := qd (h.tab)
 have HV0 := qd (hE)
 have HM := qd (hM)
 have Hmod := qd (Mod.refl [P.mb, bb, tb, gb] w)
 have HP := qd h.pow
 clear h hM hE
 unfold bldP
 have q1 := HB.out.lt
 have q2 := HT.out.ltT
 have q3 := HT.out.ltG
 have q4 := HM.out.lt
 go_enter Tryz.func213, Tryz.ntmps213
 go_upto_region 1 with fail
 obtain ⟨bc0, bc1, bc2⟩ := HB.out.c3
 refine region_T (fun (w' : World) => w'.cell? ⟨bb, 0, none⟩ = some (.pointer (some ⟨tb, 0, none⟩)) ∧ w'.cell? ⟨bb, 1, none⟩ = some (.int .i64 (n : Int)) ∧ w'.cell? ⟨bb, 2, none⟩ = some (.int .i64 (k : Int))) [] (by kernel_rfl) ?_
 try (change wpAnyT _ _ _ _ _ _ _ _ _ (World.drew _))
 have hHeld := (⟨bc0, bc1, bc2⟩ : _ ∧ _ ∧ _)
 refine tW 0 (some 5) (.pointer (some ⟨bb, 0, none⟩)) rfl hHeld ?_
 try simp only [pt]
 refine nT 1 (some 6) rfl fun K hK => ?_
 go_simp
 refine (build_Left bb n k _ _ (by omega) hle (HB.out.mod (Mod.drewN [] w 1) (by simp))).mono ?_
 rintro y w1 ⟨rfl, hw1⟩
 have hm : Mod [] w w1 := hw1 ▸ Mod.drewN [] w 2
 clear hw1
 clear bc0 bc1 bc2
 replace HB := qd (HB.out.mod hm (by simp <;> omega))
 replace HT := qd (HT.out.mod hm (by simp <;> omega) (by simp <;> omega))
 replace HV0 := qd (HV0.out.mod hm (by intro k hk <;> simp at hk <;> omega))
 replace HM := qd (HM.out.mod hm (by simp <;> omega))
 have z5 := (hm).size
 replace Hmod := qd (Hmod.out.tr hm)
 clear hm
 obtain ⟨bc0, bc1, bc2⟩ := HB.out.c3
 go_wp2_with fail
 have hHeld := (⟨bc0, bc1, bc2⟩ : _ ∧ _ ∧ _)
 refine hK.out _ _ (fun _ => hHeld) ?_
 clear hK K
 try simp only [pt]
 refine tW 2 (some 7) (.bool false) rfl hHeld ?_
 try simp only [pt]
 refine tW 3 (some 8) (.bool false) rfl hHeld ?_
 try simp only [pt]
 refine tW 4 (some 9) (.pointer (some ⟨bb, 0, none⟩)) rfl hHeld ?_
 try simp only [pt]
 refine tW 5 (some 10) (.pointer (some ⟨bb, 0, none⟩)) rfl hHeld ?_
 try simp only [pt]
 refine tW 6 (some 11) (.pointer (some ⟨bb, 0, none⟩)) rfl hHeld ?_
 try simp only [pt]
 refine tT 7 (some 12) (.pointer (some ⟨tb, 0, none⟩)) rfl (by rintro w ⟨hh0, hh1, hh2⟩; go_simp) hHeld ?_
 try simp only [pt]
 refine tW 8 (some 13) (.pointer (some ⟨P.mb, P.mo, none⟩)) rfl hHeld ?_
 try simp only [pt]
 refine tW 10 (some 15) (.pointer (some ⟨bb, 0, none⟩)) rfl hHeld ?_
 try simp only [pt]
 refine tW 11 (some 16) (.pointer (some ⟨bb, 0, none⟩)) rfl hHeld ?_
 try simp only [pt]
 refine tW 12 (some 17) (.pointer (some ⟨bb, 2, none⟩)) rfl hHeld ?_
 try simp only [pt]
 refine tT 13 (some 18) (.int .i64 (k : Int)) rfl (by rintro w ⟨hh0, hh1, hh2⟩; go_simp) hHeld ?_
 try simp only [pt]
 refine nT 9 (some 14) rfl fun K hK => ?_
 go_simp
 refine (meter_Working (some ⟨P.mb, P.mo, none⟩) _).mono ?_
 rintro y w2 ⟨rfl, hb⟩
 unfold lensV
 clear bc0 bc1 bc2
 replace HB := qd (HB.out.mod (Mod.of_below hb []) (by simp))
 replace HT := qd (HT.out.mod (Mod.of_below hb []) (by simp) (by simp))
 replace HV0 := qd (HV0.out.mod (Mod.of_below hb []) (by simp))
 replace HM := qd (HM.out.mod (Mod.of_below hb []) (by simp))
 have z6 := (hb).size
 replace Hmod := qd (Hmod.out.then (Mod.of_below hb _))
 clear hb
 obtain ⟨bc0, bc1, bc2⟩ := HB.out.c3
 go_wp2_with fail
 have hHeld := (⟨bc0, bc1, bc2⟩ : _ ∧ _ ∧ _)
 refine hK.out _ _ (fun _ => hHeld) ?_
 clear hK K
 try simp only [pt]
 refine nT 14 (some 19) rfl fun K hK => ?_
 go_simp
 have HPr := qd (table_Prepare tb gb (prepT n k) P.mb P.mt P.pre P.post P.mo x.all x.last P.m ⟨0, 1, 0⟩ k (by rw [show (prepT n k).gs.length = n from prepG_length (by omega)]; exact hk) w2 HT.out HM.out hmt hmg)
 unfold tabP lensV at HPr
 refine (HPr.out).mono ?_
 rintro y w3 ⟨rfl, hT3, hM3, hm⟩
 clear HPr HT HM
 clear bc0 bc1 bc2
 replace HB := qd (HB.out.mod hm (by simp <;> omega))
 replace HV0 := qd (HV0.out.mod hm (by intro k hk <;> simp at hk <;> omega))
 have z7 := (hm).size
 replace Hmod := qd (Hmod.out.tr hm)
 have HT := qd (show TabAt w3 tb gb (prepT n (k + 1)) from by unfold prepT at hT3 ⊢; rw [← prepG_set hk]; exact hT3)
 have HM := qd (show MetP w3 P (x.add cV 1) from hM3)
 clear hM3 hT3 hm
 obtain ⟨bc0, bc1, bc2⟩ := HB.out.c3
 go_wp2_with fail
 have hHeld := (⟨bc0, bc1, bc2⟩ : _ ∧ _ ∧ _)
 refine hK.out _ _ (fun _ => hHeld) ?_
 clear hK K
 try simp only [pt]
 refine tW 15 (some 20) (.bool false) rfl hHeld ?_
 try simp only [pt]
 refine tW 16 (some 21) (.bool false) rfl hHeld ?_
 try simp only [pt]
 refine doneT (by kernel_rfl) ?_ _
 go_upto_region 3 with fail
 have HU := qd (meter_Unit P.mb P.mt P.pre P.post P.mo _ _ P.m 1 (by omega) w3 HM.out)
 clear HM
 go_wp2_with fail
 refine (HU.out).mono ?_
 rintro x w4 ⟨rfl, hM4, hm⟩
 clear bc0 bc1 bc2
 replace HB := qd (HB.out.mod hm (by simp <;> omega))
 replace HV0 := qd (HV0.out.mod hm (by intro k hk <;> simp at hk <;> omega))
 replace HT := qd (HT.out.mod hm (by simp <;> omega) (by simp <;> omega))
 have z8 := (hm).size
 replace Hmod := qd (Hmod.out.tr hm)
 clear hm
 have HM := qd (show MetP w4 P ((x.add cV 1).add (cU 1) 1) from hM4)
 clear hM4 HU
 obtain ⟨bc0, bc1, bc2⟩ := HB.out.c3
 obtain ⟨bf0, bf1, bf2⟩ := HB.out.f3
 go_upto_region 5 with fail
 have q9 := HB.out.lt
 have q10 := HT.out.ltT
 have q11 := HT.out.ltG
 have q12 := HM.out.lt
 have hnew := (HB.out.set_ 2 (.int .i64 ((k + 1 : Nat) : Int)))
 have hm := ((Mod.refl [bb] w4).sl 2 (.int .i64 ((k + 1 : Nat) : Int)))
 simp only [List.setIfInBounds_toArray, List.set_cons_zero, List.set_cons_succ] at hnew
 refine nameM hnew hm ?_
 clear hnew hm
 rintro w5 ⟨hnew, hm⟩
 clear bc0 bc1 bc2 bf0 bf1 bf2
 replace HV0 := qd (HV0.out.mod hm (by intro k hk <;> simp at hk <;> omega))
 replace HT := qd (HT.out.mod hm (by simp <;> omega) (by simp <;> omega))
 replace HM := qd (HM.out.mod hm (by simp <;> omega))
 have z13 := (hm).size
 replace Hmod := qd (Hmod.out.tr hm)
 replace HB := qd hnew
 clear hnew hm
 go_wp2
 go_ret
 exact ⟨rfl, ⟨HB.out, HT.out, by omega, HP.out, hne1, hne2⟩, HM.out, Hmod.out⟩
theorem build_Step_no (bb tb gb n : Nat) (p : Value) (w : World) (h : BldAt w bb tb gb n n) :
  Calls Tryz.prog 213 #[bldP bb, p] w fun e w' => e = .returned (.bool false) ∧ Below w.heap.size w w' := by
 have hle := h.pow.le
 unfold bldP
 have HL := qd (build_Left bb n n _ w.drew (Nat.le_refl n) hle h.blk.drew)
 rw [Nat.sub_self] at HL
 unfold bldP at HL
 go_enter Tryz.func213, Tryz.ntmps213
 go_upto_region 1 with fail
 refine region_T (fun (w' : World) => True) [] (by kernel_rfl) ?_
 try (change wpAnyT _ _ _ _ _ _ _ _ _ (World.drew _))
 have hHeld := trivial
 refine tW 0 (some 5) (.pointer (some ⟨bb, 0, none⟩)) rfl hHeld ?_
 try simp only [pt]
 refine nT 1 (some 6) rfl fun K hK => ?_
 go_simp
 refine (HL.out).mono ?_
 rintro y w1 ⟨rfl, rfl⟩
 go_wp2_with fail
 refine hK.out _ _ (fun _ => hHeld) ?_
 clear hK K
 try simp only [pt]
 refine tW 2 (some 7) (.bool true) rfl hHeld ?_
 try simp only [pt]
 refine tW 3 (some 8) (.bool true) rfl hHeld ?_
 try simp only [pt]
 refine tU 4 (some 9) rfl hHeld ?_
 try simp only [pt]
 refine tU 5 (some 10) rfl hHeld ?_
 try simp only [pt]
 refine tU 6 (some 11) rfl hHeld ?_
 try simp only [pt]
 refine tU 7 (some 12) rfl hHeld ?_
 try simp only [pt]
 refine tU 8 (some 13) rfl hHeld ?_
 try simp only [pt]
 refine tU 9 (some 14) rfl hHeld ?_
 try simp only [pt]
 refine tU 10 (some 15) rfl hHeld ?_
 try simp only [pt]
 refine tU 11 (some 16) rfl hHeld ?_
 try simp only [pt]
 refine tU 12 (some 17) rfl hHeld ?_
 try simp only [pt]
 refine tU 13 (some 18) rfl hHeld ?_
 try simp only [pt]
 refine tU 14 (some 19) rfl hHeld ?_
 try simp only [pt]
 refine tU 15 (some 20) rfl hHeld ?_
 try simp only [pt]
 refine tW 16 (some 21) (.bool true) rfl hHeld ?_
 try simp only [pt]
 refine doneT (by kernel_rfl) ?_ _
 go_wp2
 go_ret
 exact ⟨rfl, (Below.refl _ _).drew.drew⟩
theorem build_Take (bb tb gb n : Nat) (w : World) (h : BldAt w bb tb gb n n) :
  Calls Tryz.prog 221 #[bldP bb] w fun e w' => e = .returned (.tuple #[tabP tb, .nilIface]) ∧ Blk w' bb 238 #[.pointer none, .int .i64 (n : Int), .int .i64 (n : Int)] ∧ TabAt w' tb gb (prepT n n) ∧ Mod [bb] w w' := by
 have hle := h.pow.le
 have HL := qd (build_Left bb n n _ w (Nat.le_refl n) hle h.blk)
 rw [Nat.sub_self] at HL
 have hne1 := h.ne1
 have hne2 := h.ne2
 have HB := qd (h.blk)
 have HT := qd (h.tab)
 have Hmod := qd (Mod.refl [bb] w)
 clear h
 unfold bldP tabP
 unfold bldP at HL
 go_enter Tryz.func221, Tryz.ntmps221
 go_upto_region 1 with fail
 go_wp2_with fail
 refine (HL.out).mono ?_
 rintro x w1 ⟨rfl, hw1⟩
 have hm : Mod [] w w1 := hw1 ▸ Mod.drewN [] w 1
 clear hw1 HL
 replace HB := qd (HB.out.mod hm (by simp <;> omega))
 replace HT := qd (HT.out.mod hm (by simp <;> omega) (by simp <;> omega))
 have z1 := (hm).size
 replace Hmod := qd (Hmod.out.tr hm)
 clear hm
 obtain ⟨bc0, bc1, bc2⟩ := HB.out.c3
 obtain ⟨bf0, bf1, bf2⟩ := HB.out.f3
 go_upto_region 5 with fail
 have q2 := HB.out.lt
 have q3 := HT.out.ltT
 have q4 := HT.out.ltG
 have hnew := (HB.out.set_ 0 (.pointer none))
 have hm := ((Mod.refl [bb] w1).sl 0 (.pointer none))
 simp only [List.setIfInBounds_toArray, List.set_cons_zero, List.set_cons_succ] at hnew
 refine nameM hnew hm ?_
 clear hnew hm
 rintro w2 ⟨hnew, hm⟩
 clear bc0 bc1 bc2 bf0 bf1 bf2
 replace HT := qd (HT.out.mod hm (by simp <;> omega) (by simp <;> omega))
 have z5 := (hm).size
 replace Hmod := qd (Hmod.out.tr hm)
 replace HB := qd hnew
 clear hnew hm
 go_wp2
 refine bodyPost_ret (v := .tuple #[.pointer (some ⟨tb, 0, none⟩), .nilIface]) (by simp [results, Tryz.results221, go_sem]) rfl ⟨rfl, HB.out, HT.out, Hmod.out⟩
end
section
open Go.RowKit AmC
attribute [local go_sem] Option.isNone_some Option.isNone_none
set_option maxRecDepth 100000 in
set_option maxHeartbeats 4000000 in
theorem trap_Raise (w : World) : Calls Tryz.prog 62 #[.nilIface] w fun e w' => e = .returned undef ∧ w = w' := by
 go_enter Tryz.func62, Tryz.ntmps62
 go_wp2
 go_end0
 exact ⟨rfl, rfl⟩
theorem trap_Need (w : World) : Calls Tryz.prog 37 #[.bool true] w fun e w' => e = .returned undef ∧ w = w' := by
 go_enter Tryz.func37, Tryz.ntmps37
 go_wp2
 go_end0
 exact ⟨rfl, rfl⟩
set_option maxRecDepth 100000 in
set_option maxHeartbeats 4000000 in
theorem must_int (a : Int) (w : World) : Calls Tryz.prog 92 #[.int .i64 a, .nilIface] w fun e w' => e = .returned (.int .i64 a) ∧ w = w' := by
 have HR := qd (trap_Raise w)
 go_enter Tryz.func92, Tryz.ntmps92
 go_wp2_with fail
 refine (HR.out).mono ?_
 rintro x w1 ⟨rfl, rfl⟩
 go_wp2
 go_ret
 exact ⟨rfl, rfl⟩
set_option maxRecDepth 100000 in
set_option maxHeartbeats 4000000 in
theorem must_cop (p : Option Addr) (w : World) : Calls Tryz.prog 65 #[.pointer p, .nilIface] w fun e w' => e = .returned (.pointer p) ∧ w = w' := by
 have HR := qd (trap_Raise w)
 go_enter Tryz.func65, Tryz.ntmps65
 go_wp2_with fail
 refine (HR.out).mono ?_
 rintro x w1 ⟨rfl, rfl⟩
 go_wp2
 go_ret
 exact ⟨rfl, rfl⟩
set_option maxRecDepth 100000 in
set_option maxHeartbeats 4000000 in
theorem must_dir (p : Option Addr) (w : World) : Calls Tryz.prog 110 #[.pointer p, .nilIface] w fun e w' => e = .returned (.pointer p) ∧ w = w' := by
 have HR := qd (trap_Raise w)
 go_enter Tryz.func110, Tryz.ntmps110
 go_wp2_with fail
 refine (HR.out).mono ?_
 rintro x w1 ⟨rfl, rfl⟩
 go_wp2
 go_ret
 exact ⟨rfl, rfl⟩
set_option maxRecDepth 100000 in
set_option maxHeartbeats 4000000 in
theorem must_node (p : Option Addr) (w : World) : Calls Tryz.prog 112 #[.pointer p, .nilIface] w fun e w' => e = .returned (.pointer p) ∧ w = w' := by
 have HR := qd (trap_Raise w)
 go_enter Tryz.func112, Tryz.ntmps112
 go_wp2_with fail
 refine (HR.out).mono ?_
 rintro x w1 ⟨rfl, rfl⟩
 go_wp2
 go_ret
 exact ⟨rfl, rfl⟩
set_option maxRecDepth 100000 in
set_option maxHeartbeats 4000000 in
theorem must_ents (p : Option Addr) (n c : Nat) (w : World) : Calls Tryz.prog 215 #[.slice p n c, .nilIface] w fun e w' => e = .returned (.slice p n c) ∧ w = w' := by
 have HR := qd (trap_Raise w)
 go_enter Tryz.func215, Tryz.ntmps215
 go_wp2_with fail
 refine (HR.out).mono ?_
 rintro x w1 ⟨rfl, rfl⟩
 go_wp2
 go_ret
 exact ⟨rfl, rfl⟩
set_option maxRecDepth 100000 in
set_option maxHeartbeats 4000000 in
theorem must_tab (p : Option Addr) (w : World) : Calls Tryz.prog 220 #[.pointer p, .nilIface] w fun e w' => e = .returned (.pointer p) ∧ w = w' := by
 have HR := qd (trap_Raise w)
 go_enter Tryz.func220, Tryz.ntmps220
 go_wp2_with fail
 refine (HR.out).mono ?_
 rintro x w1 ⟨rfl, rfl⟩
 go_wp2
 go_ret
 exact ⟨rfl, rfl⟩
set_option maxRecDepth 100000 in
set_option maxHeartbeats 4000000 in
theorem must_evac (p : Option Addr) (w : World) : Calls Tryz.prog 222 #[.pointer p, .nilIface] w fun e w' => e = .returned (.pointer p) ∧ w = w' := by
 have HR := qd (trap_Raise w)
 go_enter Tryz.func222, Tryz.ntmps222
 go_wp2_with fail
 refine (HR.out).mono ?_
 rintro x w1 ⟨rfl, rfl⟩
 go_wp2
 go_ret
 exact ⟨rfl, rfl⟩
structure RowAt (w : World) (rb : Nat) (ts : List Nat) : Prop where
 lt : rb < w.heap.size
 at_ : ∀ j t, ts[j]? = some t → w.cell? ⟨rb, j, none⟩ = some (.pointer (some ⟨t, 0, none⟩))
theorem RowAt.mod {S : List Nat} {w w' : World} {rb : Nat} {ts : List Nat} (h : RowAt w rb ts) (hm : Mod S w w') (hs : rb ∉ S) : RowAt w' rb ts :=
 ⟨Nat.lt_of_lt_of_le h.lt hm.size, fun j t ht => (hm.cell_ (p := ⟨rb, j, none⟩) h.lt hs).trans (h.at_ j t ht)⟩
def ptrs (ts : List Nat) : List Value := ts.map fun t => .pointer (some ⟨t, 0, none⟩)
theorem RowAt.of_own {w : World} {base n c : Nat} {e : TypeId} {A : Option Addr} {ts : List Nat} (h : w.ownsRow base e 1 (.slice A n c) n (ptrs ts)) (hn : 0 < n) : ∃ rb, A = some ⟨rb, 0, none⟩ ∧ base ≤ rb ∧ RowAt w rb ts ∧ ts.length = n := by
 have hl := h.1
 rcases h.2 with hz | ⟨g, cap, cur, hv, hb, hg, h1, h2, h3, h4⟩
 ·omega
 ·cases hv
  refine ⟨g, rfl, hb, ⟨(Array.getElem?_eq_some_iff.1 hg).1, fun j t ht => ?_⟩, by simpa [ptrs] using hl⟩
  obtain ⟨hj, _⟩ := List.getElem?_eq_some_iff.1 ht
  have hjn : j < n := by simp [ptrs] at hl; omega
  have := h.cellAt j (by omega)
  rw [this]; unfold ptrs; rw [List.getElem?_map, ht]; rfl
set_option maxRecDepth 100000 in
set_option maxHeartbeats 4000000 in
theorem index_nil (rb cap : Nat) (ts : List Nat) (hn : ts.length ≤ 2) (w : World) (h : RowAt w rb ts) :
  Calls Tryz.prog 227 #[.slice (some ⟨rb, 0, none⟩) ts.length cap, .pointer none] w fun e w' => e = .returned (.int .i64 (-1)) ∧ w = w' := by
 go_enter Tryz.func227, Tryz.ntmps227
 go_wp2
 go_loop [5, 8] (fun _ i => ∃ k : Nat, k ≤ ts.length ∧ i = .int .i64 k) (fun _ i => ts.length - (intOf i).toNat)
 case atStart => exact ⟨0, by omega, rfl⟩
 case round =>
  obtain ⟨k, hk, rfl⟩ := hrel
  by_cases hlt : k < ts.length
  ·have hlt' : (k : Int) < (ts.length : Int) := by omega
   have hk0 : (0 : Int) ≤ (k : Int) := by omega
   have hc := h.at_ k ts[k] (List.getElem?_eq_getElem hlt)
   generalize ts[k] = tk at hc
   have hnn : (Go.binOp .eql 109 (.pointer none) (.pointer (some (⟨tk, 0, none⟩ : Addr)))).run Tryz.prog w = .ok (.bool false) w := by first | rfl | kernel_rfl | simp [Go.binOp, go_sem]
   go_wp2
   go_round
   case rel => exact ⟨k + 1, by omega, by go_num⟩
   case measure => simp [intOf]; omega
  ·have hlt' : ¬ (k : Int) < (ts.length : Int) := by omega
   go_wp2
   go_ret
   exact ⟨rfl, rfl⟩
set_option maxRecDepth 100000 in
set_option maxHeartbeats 4000000 in
theorem contains_nil (rb cap : Nat) (ts : List Nat) (hn : ts.length ≤ 2) (w : World) (h : RowAt w rb ts) :
  Calls Tryz.prog 225 #[.slice (some ⟨rb, 0, none⟩) ts.length cap, .pointer none] w fun e w' => e = .returned (.bool false) ∧ w = w' := by
 have HI := qd (index_nil rb cap ts hn w h)
 go_enter Tryz.func225, Tryz.ntmps225
 go_wp2_with fail
 refine (HI.out).mono ?_
 rintro x w1 ⟨rfl, rfl⟩
 go_wp2
 go_ret
 exact ⟨rfl, rfl⟩
end
end Go.Proofs.YtcgjgfgkdoohlaaGreatDoor
