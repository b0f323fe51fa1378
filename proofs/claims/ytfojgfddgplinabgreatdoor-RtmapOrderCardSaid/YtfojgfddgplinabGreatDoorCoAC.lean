/- A table that counts right: what a write leaves of that. No statement of the claim. -/
import Derived.Test.YtfojgfddgplinabGreatDoorTabS
import Derived.Test.YtfojgfddgplinabGreatDoorLaw25a
import Derived.Test.YtfojgfddgplinabGreatDoorLaneP
import Derived.Test.YtfojgfddgplinabGreatDoorSqT
namespace Go.Proofs.YtfojgfddgplinabGreatDoor
set_option maxRecDepth 100000
set_option maxHeartbeats 8000000
open Go dG Go.RowKit
section
variable {T : aC} {i s : Nat}
structure lD (T : aC) : Prop where
 wide : pR T.gs
 pow : Pw T.gs.length
 live : T.live = ((aL T.gs).length : Int)
 bM : T.bM = (eH T.gs : Int)
theorem lD.small (h : lD T) : Small T := by
 have h1 := QE h.wide
 have h2 := h.pow.le
 exact ⟨by rw [h.live]; omega, by rw [h.live]; omega, by rw [h.bM]; omega, by rw [h.bM]; omega, h2⟩
theorem lD.put (h : lD T) (hi : i < T.gs.length) (hs : s < (T.gs.getD i []).length) (x : Slot) {l t : Int} (hl : l = T.live + x.ents.length - (aD T.gs i s).ents.length) (ht : t = T.bM + x.j5 - (aD T.gs i s).j5) : lD ⟨putAt T.gs i s x, l, t⟩ := by
 have h1 := (AQ hi hs x).length_eq
 have h2 := uS hi hs x
 rw [List.length_append, List.length_append] at h1
 have h3 := h.live
 have h4 := h.bM
 exact ⟨h.wide.put _ _ _, by show Pw (putAt _ _ _ _).length; rw [gG]; exact h.pow, by show l = ((aL (putAt T.gs i s x)).length : Int); omega, by show t = (eH (putAt T.gs i s x) : Int); omega⟩
theorem lD.erase (h : lD T) {e : av} (he : aD T.gs i s = .full e) : lD (iq T i s) := by
 obtain ⟨hi, hs⟩ := jQ (gs := T.gs) (i := i) (s := s) (by rw [he]; exact fun h => by cases h)
 unfold iq
 cases ho : dD (T.gs.getD i []) with
 | true => exact h.put hi hs _ (by rw [he]; simp [Slot.ents] <;> omega) (by rw [he]; simp [Slot.j5, Slot.ig] <;> omega)
 | false => exact h.put hi hs _ (by rw [he]; simp [Slot.ents] <;> omega) (by rw [he]; simp [Slot.j5, Slot.ig] <;> omega)
theorem lD.place (h : lD T) (hi : i < T.gs.length) (hs : s < (T.gs.getD i []).length) (he : (aD T.gs i s).isFull = false) (e : av) : lD (jk T i s e) := by
 unfold jk
 cases hx : aD T.gs i s with
 | full y => rw [hx] at he; cases he
 | empty => exact h.put hi hs _ (by rw [hx]; simp [Slot.ents] <;> omega) (by rw [hx]; simp [Slot.j5, Slot.ig] <;> omega)
 | oP => exact h.put hi hs _ (by rw [hx]; simp [Slot.ents] <;> omega) (by rw [hx]; simp [Slot.j5, Slot.ig] <;> omega)
theorem lD.replace (h : lD T) {v : Nat} {e : av} (he : aD T.gs i s = .full e) : lD (replaceM T i s v e) := by
 obtain ⟨hi, hs⟩ := jQ (gs := T.gs) (i := i) (s := s) (by rw [he]; exact fun h => by cases h)
 exact h.put hi hs _ (by rw [he]; simp [Slot.ents] <;> omega) (by rw [he]; simp [Slot.j5, Slot.ig] <;> omega)
def fF (T : aC) (i s : Nat) : aC := if (aD T.gs i s).isFull then iq T i s else T
def takeN (T : aC) (i : Nat) : Nat → aC
 | 0 => T
 | k + 1 => fF (takeN T i k) i k
theorem lD.aaZ (h : lD T) (i s : Nat) : lD (fF T i s) := by
 unfold fF
 cases hx : aD T.gs i s with
 | full e => rw [if_pos (by rfl)]; exact h.erase hx
 | empty => rw [if_neg (by simp [Slot.isFull])]; exact h
 | oP => rw [if_neg (by simp [Slot.isFull])]; exact h
theorem lD.tkN (h : lD T) (i : Nat) : ∀ k, lD (takeN T i k)
 | 0 => h
 | k + 1 => (h.tkN i k).aaZ i k
theorem Am (T : aC) (i s : Nat) : (iq T i s).gs.length = T.gs.length := gG _ _ _ _
theorem qW (T : aC) (i : Nat) : ∀ k, (takeN T i k).gs.length = T.gs.length
 | 0 => rfl
 | k + 1 => by
  show (fF _ _ _).gs.length = _
  unfold fF
  split
  ·rw [Am, qW T i k]
  ·exact qW T i k
theorem XW {w w' : World} {S : List Nat} {base : Nat} {e : TypeId} {size n : Nat} {v : Value} {xs : List Value} (h : w.ownsRow base e size v n xs) (hm : Mod S w w') (hS : ∀ k, k ∈ S → k < base) : w'.ownsRow base e size v n xs := by
 refine ⟨h.1, ?_⟩
 rcases h.2 with hn | ⟨g, cap, cur, hv, hb, hg, rest⟩
 ·exact .inl hn
 ·exact .inr ⟨g, cap, cur, hv, hb, (hm.block g (Array.getElem?_eq_some_iff.1 hg).1 (fun hh => absurd (hS g hh) (by omega))).trans hg, rest⟩
instance {w w' : World} {base : Nat} {e : TypeId} {size n : Nat} {v : Value} {xs : List Value} : Md (w.ownsRow base e size v n xs) w w' (w'.ownsRow base e size v n xs) (fun S => ∀ k, k ∈ S → k < base) := ⟨fun h hm hs => XW h hm hs⟩
end
section
structure sS (E : Nat → Addr) (w : World) : Prop where
 of : ∀ k, k = 1 ∨ k = 2 ∨ k = 5 → gT E w k
theorem sS.at_ {E : Nat → Addr} {w : World} (h : sS E w) (k : Nat) (_ : 1 ≤ k) (_ : k ≤ 16) (hk : k = 1 ∨ k = 2 ∨ k = 5 := by decide) : gT E w k := h.of k hk
theorem sS.below {E : Nat → Addr} {w w' : World} {B : Nat} (h : sS E w) (hb : Below B w w') (hB : w.heap.size ≤ B) : sS E w' := ⟨fun k hk => (h.of k hk).below hb hB⟩
theorem iG.core {E : Nat → Addr} {w : World} (h : iG E w) : sS E w := ⟨fun k hk => h.at_ k (by omega) (by omega)⟩
structure Env (W0 : World) (E : Nat → Addr) (w : World) : Prop where
 below : Below W0.heap.size W0 w
 Wz : sS E W0
 Y3 : fK W0
section
variable {W0 w w' : World} {E : Nat → Addr}
theorem Env.size (h : Env W0 E w) : W0.heap.size ≤ w.heap.size := h.below.size
theorem Env.errs (h : Env W0 E w) : sS E w := h.Wz.below h.below (Nat.le_refl _)
theorem Env.tz (h : Env W0 E w) : fK w := h.Y3.below h.below
theorem Env.O8 (h : Env W0 E w) : 11 < W0.heap.size := World.block_lt_of_cell? W0 _ (h.Y3 0 (by omega))
theorem Env.mod {S : List Nat} (h : Env W0 E w) (hm : Mod S w w') (hS : ∀ k, k ∈ S → W0.heap.size ≤ k) : Env W0 E w' := ⟨h.below.trans (hm.below hS h.size), h.Wz, h.Y3⟩
instance {w w' : World} {W0 : World} {E : Nat → Addr} : Md (Env W0 E w) w w' (Env W0 E w') (fun S => ∀ k, k ∈ S → W0.heap.size ≤ k) := ⟨fun h hm hs => h.mod hm hs⟩
theorem Env.next (h : Env W0 E w) (hb : Below w.heap.size w w') : Env W0 E w' := h.mod (Mod.of_below hb []) (by simp)
end
structure MP where
 mb : Nat
 mt : TypeId
 pre : List Value
 post : List Value
 mo : Nat
 m : Int
structure bI where
 all : bF
 last : bF
def bI.add (x : bI) (c : bF) (n : Nat) : bI := ⟨eD x.all c n, eD x.last c n⟩
theorem Bq (a c : bF) (k : Nat) : ∀ n, eD (eD a c k) c n = eD a c (k + n)
 | 0 => rfl
 | n + 1 => by
  show iT (eD (eD a c k) c n) c = iT (eD a c (k + n)) c
  rw [Bq a c k n]
theorem bI.add_add (x : bI) (c : bF) (k n : Nat) : (x.add c k).add c n = x.add c (k + n) := by unfold bI.add; rw [Bq, Bq]
def aO (w : World) (P : MP) (x : bI) : Prop := Met w P.mb P.mt P.pre P.post P.mo x.all x.last P.m
def MP.addr (P : MP) : Addr := ⟨P.mb, P.mo, none⟩
section
variable {w w' : World} {P : MP} {x : bI}
theorem aO.lt (h : aO w P x) : P.mb < w.heap.size := Met.lt h
theorem aO.mod {S : List Nat} (h : aO w P x) (hm : Mod S w w') (hg : P.mb ∉ S) : aO w' P x := Met.mod h hm hg
instance {w w' : World} {P : MP} {x : bI} : Md (aO w P x) w w' (aO w' P x) (fun S => P.mb ∉ S) := ⟨fun h hm hs => aO.mod h hm hs⟩
theorem aO.below (h : aO w P x) (hb : Below w.heap.size w w') : aO w' P x := Met.below h hb
end
end
theorem zF {z : Array Value} {v : Value} {k : Nat} (hz : z = (List.replicate k v).toArray) (hk : 0 < k) (n : Nat) : madeCells z n = (List.replicate n v).toArray := by
 apply Array.toList_inj.1
 subst hz
 unfold madeCells
 rw [Array.toList_map]
 refine List.ext_getElem (by simp) fun i h1 h2 => ?_
 simp only [List.getElem_map, List.getElem_replicate]
 rw [getElem!_pos _ _ (by simp; exact Nat.mod_lt _ hk)]
 simp
def zG : ko := List.replicate 8 (.full ⟨0, 0, 0⟩)
theorem O9 : vO zG = List.replicate 25 (.int .u64 0) := by rfl
theorem Br : ∀ n, bS (List.replicate n zG) = List.replicate (n * 25) (.int .u64 0)
 | 0 => rfl
 | n + 1 => by
  show vO zG ++ bS (List.replicate n zG) = _
  rw [Br n, O9, Nat.add_mul, Nat.add_comm, List.replicate_append_replicate]
def acp : Value := .agg #[.int .u64 0, .agg (Array.replicate 8 (.agg #[.int .u64 0, .int .u64 0, .int .u64 0]))]
theorem UC : (Tryz.prog.info? 197).map (fun i => (i.zero.map fun z => z.cells, i.size, i.bytes)) = some (some (List.replicate 25 (Value.int .u64 0)).toArray, 25, 200) := by kernel_rfl
theorem MV (n : Nat) (hn : n ≤ 64) (W : World) : (Instr.makeSlice 191 (.int .i64 (n : Int)) (.int .i64 (n : Int))).run Tryz.prog W = .ok (.slice (some ⟨W.heap.size, 0, none⟩) n n) (W.alloc (.cells (bS (List.replicate n zG)).toArray 197)) := by
 have h := UC
 cases hi : Tryz.prog.info? 197 with
 | none => rw [hi] at h; cases h
 | some i =>
  rw [hi] at h
  simp only [Option.map_some, Option.some.injEq, Prod.mk.injEq, Option.map_eq_some_iff] at h
  obtain ⟨⟨z, hz, hc⟩, hs, hb⟩ := h
  have := run_makeSlice (P := Tryz.prog) (w := W) 191 197 i z Tryz.underlying191 hi hz .i64 .i64 (n : Int) (n : Int) (by omega) (Int.le_refl _) (by rw [hs]; omega) (by rw [hb]; omega) (by omega)
  rw [this, hs, Int.toNat_natCast, zF hc (by omega), Br]
theorem oH (n : Nat) (hn : Pw n) (w : World) : Calls Tryz.prog 139 #[.int .i64 (n : Int)] w fun e w' => e = .returned (.bool true) ∧ w = w' := by
 rcases hn with rfl | rfl | rfl | rfl | rfl | rfl | rfl
 all_goals
  go_in
  go_wp2
  go_ret
  exact ⟨rfl, rfl⟩
def Pb (n : Nat) : aC := ⟨List.replicate n zG, 0, 0⟩
theorem Hu (n : Nat) (hn : Pw n) (w : World) :
  Calls Tryz.prog 94 #[.int .i64 (n : Int)] w fun e w' => e = .returned (.tuple #[bT (w.heap.size + 1), .nilIface]) ∧ TabAt w' (w.heap.size + 1) w.heap.size (Pb n) ∧ Below w.heap.size w w' := by
 have HR := qd (oH n hn w)
 have hle := hn.le
 have hpos := hn.pos
 have hmk := MV n hle w
 unfold bT
 go_in
 go_wp2_with fail
 refine (HR.out).mono ?_
 rintro x w1 ⟨rfl, rfl⟩
 go_wp2
 refine bodyPost_ret (v := .tuple #[.pointer (some ⟨w.heap.size + 1, 0, none⟩), .nilIface]) (by simp [results, Tryz.results94, go_sem]) rfl ⟨rfl, ⟨fun G hG => ?_, ?_, ?_, by omega⟩, ?_⟩
 ·rw [(List.mem_replicate.1 hG).2]; rfl
 ·have := aj.new (w.alloc (.cells (bS (List.replicate n zG)).toArray 197)) 193 #[.slice (some ⟨w.heap.size, 0, none⟩) n n, .int .i64 0, .int .i64 0]
  rw [World.size_alloc] at this
  simpa [Pb] using this
 ·exact (aj.new w 197 (bS (List.replicate n zG)).toArray).alloc _
 ·exact ((Below.refl _ _).alloc (Nat.le_refl _) _).alloc (by simp) _
def KA : ko := List.replicate 8 .empty
def pI (n k : Nat) : Tab := List.replicate k KA ++ List.replicate (n - k) zG
theorem xA (n : Nat) : pI n n = bare n := by unfold pI; rw [Nat.sub_self]; simp [bare, KA]
theorem lQ {n k : Nat} (h : k ≤ n) : (pI n k).length = n := by simp [pI]; omega
theorem Hw {n k : Nat} (h : k < n) : (pI n k).set k KA = pI n (k + 1) := by
 unfold pI
 rw [List.set_append_right _ _ (by simp), List.length_replicate, Nat.sub_self, show n - k = (n - (k + 1)) + 1 by omega, List.replicate_succ, List.set_cons_zero, List.replicate_succ', List.append_assoc]; rfl
def dM (n k : Nat) : aC := ⟨pI n k, 0, 0⟩
theorem XY {n : Nat} (hn : Pw n) : lD (dM n n) := by
 have h := (JR hn)
 refine ⟨?_, ?_, ?_, ?_⟩
 ·show pR (pI n n); rw [xA]; exact h.wide
 ·show Pw (pI n n).length; rw [lQ (Nat.le_refl _)]; exact hn
 ·show (0 : Int) = ((aL (pI n n)).length : Int)
  rw [xA]
  have : aL (bare n) = [] := List.eq_nil_iff_forall_not_mem.2 fun e he => by obtain ⟨i, s, hh⟩ := qg.1 he; rw [xU] at hh; cases hh
  rw [this]; rfl
 ·show (0 : Int) = (eH (pI n n) : Int)
  rw [xA]
  have : ∀ n, eH (bare n) = 0 := fun n => by
   induction n with
   | zero => rfl
   | succ k ih => show eH (List.replicate 8 Slot.empty :: bare k) = 0; rw [xS, ih]; rfl
  rw [this]; rfl
theorem Rc (n : Nat) (hn : Pw n) (w : World) :
  Calls Tryz.prog 63 #[.int .i64 (n : Int)] w fun e w' => ∃ tb gb, w.heap.size ≤ tb ∧ w.heap.size ≤ gb ∧ e = .returned (.tuple #[bT tb, .nilIface]) ∧ TabAt w' tb gb (dM n n) ∧ Below w.heap.size w w' := by
 have hle := hn.le
 have hpos := hn.pos
 have UD := qd (Hu n hn w)
 unfold bT at UD ⊢
 go_in
 go_upto_region 1 with fail
 go_wp2_with fail
 refine (UD.out).mono ?_
 rintro x w1 ⟨rfl, hT1, hb1⟩
 obtain ⟨tb, htb⟩ : ∃ tb, tb = w.heap.size + 1 := ⟨_, rfl⟩
 obtain ⟨gb, hgb⟩ : ∃ gb, gb = w.heap.size := ⟨_, rfl⟩
 rw [← htb] at hT1 ⊢
 rw [← hgb] at hT1
 replace htb : w.heap.size ≤ tb := by omega
 replace hgb : w.heap.size ≤ gb := by omega
 clear UD
 obtain ⟨c0, c1, c2⟩ := hT1.cells
 have hln : (Pb n).gs.length = n := by simp [Pb]
 rw [hln] at c0
 have HT := qd (show TabAt w1 tb gb (dM n 0) from hT1)
 have ah := qd hb1
 clear hT1 hb1 hln
 go_wp2
 go_loopw [6, 20] (fun _ i wr => ∃ k : Nat, k ≤ n ∧ i = .int .i64 k ∧ TabAt wr tb gb (dM n k) ∧ Below w.heap.size w wr) (fun _ i _ => n - (intOf i).toNat)
 case atStart => exact ⟨0, by omega, rfl, HT.out, ah.out⟩
 case round =>
  clear HT ah c0 c1 c2
  obtain ⟨k, hk, rfl, hT, hm⟩ := hrel
  by_cases hlt : k < n
  ·have hlt' : (k : Int) < (n : Int) := by omega
   have hk0 : (0 : Int) ≤ (k : Int) := by omega
   obtain ⟨c0, c1, c2⟩ := hT.cells
   have hln : (dM n k).gs.length = n := lQ hk
   rw [hln] at c0
   have htl := hT.aT
   have hgl := hT.aU
   have nR := qd (Gc ⟨gb, k * 25, none⟩ ⟨0, 0, 0⟩ wr)
   have HG := qd (hT.group k (by rw [hln]; exact hlt))
   have HT := qd hT
   have Hm := qd hm
   have HS := qd (Hw hlt)
   unfold aJ bA at nR
   clear hT hm hln
   go_wp2_with fail
   refine (nR.out).mono ?_
   rintro x w2 ⟨rfl, hb2⟩
   have Bp := qd (Hl gb 197 _ _ (k * 25) _ w2 (HG.out.below hb2))
   have HT2 := qd (HT.out.below hb2)
   have Rf := qd (Hm.out.trans (hb2.mono Hm.out.size))
   unfold bA at Bp
   clear hb2 HT Hm HG nR
   go_wp2_with fail
   refine (Bp.out).mono ?_
   rintro x w3 ⟨rfl, hG3, jV⟩
   have HT3 := qd (HT2.out.nQ k (by rw [show (dM n k).gs.length = n from lQ hk]; exact hlt) jV hG3)
   have Hm3 := qd (Rf.out.trans (jV.below (B := w.heap.size) (by intro j hj; simp at hj; omega) Rf.out.size))
   clear HT2 Rf hG3 jV
   go_wp2
   go_roundw
   case rel => exact ⟨k + 1, by omega, by go_num, by have := HT3.out; unfold dM at this ⊢; rw [← HS.out]; exact this, Hm3.out⟩
   case measure => simp [intOf]; omega
  ·obtain rfl : k = n := by omega
   have hlt' : ¬ (k : Int) < (k : Int) := by omega
   go_wp2
   refine bodyPost_ret (v := .tuple #[.pointer (some ⟨tb, 0, none⟩), .nilIface]) (by simp [results, Tryz.results63, go_sem]) rfl (by first | exact ⟨tb, gb, htb, hgb, rfl, hT, hm⟩ | exact ⟨tb, htb, gb, hgb, rfl, hT, hm⟩)
section
variable {j k : Nat} {es : List av} {e : av}
theorem qm {α : Type} {l : List α} {y : α} (h : l[k]? = some y) : l.take (k + 1) = l.take k ++ [y] := by rw [List.take_add_one, h]; rfl
def mh (f : av) (o : Option av) (e : av) : Option av := if !bg e f && (match o with | none => true | some b => bg e b) then some e else o
def dN (f : av) (o : Option av) (es : List av) : Option av := es.foldl (mh f) o
theorem MW (f : av) (o : Option av) (h : es[j]? = some e) : dN f o (es.take (j + 1)) = mh f (dN f o (es.take j)) e := by
 unfold dN; rw [qm h, List.foldl_append]; rfl
theorem KC (f : av) (gs : Tab) (hk : k < gs.length) : dN f none (aL (gs.take (k + 1))) = dN f (dN f none (aL (gs.take k))) (bN (gs.getD k [])) := by
 have h : gs[k]? = some (gs.getD k []) := by rw [List.getD_eq_getElem?_getD, List.getElem?_eq_getElem hk]; rfl
 rw [qm h]
 unfold dN aL
 rw [List.flatMap_append, List.foldl_append]; simp
def vR (o : Option av) : Array Value := (aR (o.getD ⟨0, 0, 0⟩)).toArray
theorem Hy {w : World} {base n c : Nat} {A : Option Addr} (h : w.ownsRow base 37 3 (.slice A n c) n (es.flatMap aR)) (he : es[j]? = some e) :
  ∃ g, A = some ⟨g, 0, none⟩ ∧ base ≤ g ∧ w.cell? ⟨g, j * 3, none⟩ = some (.int .u64 (e.key : Int)) ∧ w.cell? ⟨g, j * 3 + 1, none⟩ = some (.int .u64 (e.val : Int)) ∧ w.cell? ⟨g, j * 3 + 2, none⟩ = some (.int .u64 (e.hash : Int)) ∧ j < n := by
 have hl := h.1
 rw [fP] at hl
 obtain ⟨hj, _⟩ := List.getElem?_eq_some_iff.1 he
 have hjn : j < n := by omega
 rcases h.2 with hn | ⟨g, cap, cur, hv, hb, hg, h1, h2, h3, h4⟩
 ·omega
 ·cases hv
  refine ⟨g, rfl, hb, ?_⟩
  have hs : es.flatMap aR = (es.take j).flatMap aR ++ (aR e ++ (es.drop (j + 1)).flatMap aR) := by
   conv => lhs; rw [← List.take_append_drop j es, List.drop_eq_getElem?_toList_append, he]
   simp
  have hlt : ((es.take j).flatMap aR).length = j * 3 := by rw [fP, List.length_take]; omega
  have hc : ∀ q, q < 3 → w.cell? ⟨g, j * 3 + q, none⟩ = (aR e)[q]? := fun q hq => by
   have := h.cellAt (j * 3 + q) (by omega)
   rw [this, hs, List.getElem?_append_right (by omega), hlt, Nat.add_sub_cancel_left, List.getElem?_append_left (by simpa [aR] using hq)]
  exact ⟨hc 0 (by omega), hc 1 (by omega), hc 2 (by omega), hjn⟩
theorem Dn {W0 : World} {E : Nat → Addr} (tb gb : Nat) (T : aC) (P : MP) (x : bI) (c : bF) (hash key : Nat) (hok : T.gs.length ≤ 64) (w : World) (h : TabAt w tb gb T) (hM : aO w P x) (hE : Env W0 E w) (hmt : P.mb ≠ tb) (iD : P.mb ≠ gb) (hb0 : W0.heap.size ≤ P.mb) :
  Calls Tryz.prog 135 #[bT tb, aJ (some ⟨P.mb, P.mo, none⟩) c, .int .u64 (hash : Int), .int .u64 (key : Int)] w fun e w' => e = .returned (gI (dN ⟨key, 0, hash⟩ none (aL T.gs))) ∧ aO w' P (x.add c T.gs.length) ∧ Mod [P.mb] w w' := by
 obtain ⟨n, hn⟩ : ∃ n, n = T.gs.length := ⟨_, rfl⟩
 obtain ⟨fr, hfr⟩ : ∃ fr : av, fr = ⟨key, 0, hash⟩ := ⟨_, rfl⟩
 rw [← hfr, ← hn]
 obtain ⟨W, hW, hB, hL, hR, hF, hO⟩ := qX4 w 112 #[.pointer (some ⟨P.mb, P.mo, none⟩), .int .i64 c.p, .int .i64 c.v, .int .i64 c.u] 37 #[.int .u64 0, .int .u64 0, .int .u64 0] 37 #[.int .u64 (key : Int), .int .u64 0, .int .u64 (hash : Int)] 37 #[.int .u64 0, .int .u64 0, .int .u64 0]
 have hml := hM.lt
 have htl := h.aT
 have hgl := h.aU
 have hB0 := hE.size
 have HW := qd hW
 have hnm : n ≤ 64 := by rw [hn]; exact hok
 obtain ⟨rV, Wx, Wy⟩ := (h.below hB).cells
 rw [← hn] at rV
 unfold bT aJ gI aM
 have HT := qd (h.below hB)
 have ay := qd (hE.next hB)
 have HM := qd (show aO W P (x.add c 0) from hM.below hB)
 have HL := qd (hL)
 have HR := qd (hR)
 have HF := qd (hF)
 have HO := qd (show aj W _ _ (vR (dN fr none (aL (T.gs.take 0)))) from hO)
 have ah := qd (Mod.of_below hB [P.mb])
 have z1 := ah.out.size
 obtain ⟨lb, hlb⟩ : ∃ lb, lb = w.heap.size := ⟨_, rfl⟩
 obtain ⟨rb, hrb⟩ : ∃ rb, rb = w.heap.size + 1 := ⟨_, rfl⟩
 obtain ⟨fb, uO⟩ : ∃ fb, fb = w.heap.size + 1 + 1 := ⟨_, rfl⟩
 obtain ⟨ob, mX⟩ : ∃ ob, ob = w.heap.size + 1 + 1 + 1 := ⟨_, rfl⟩
 clear hW hB h hM hL hE hR hF hO
 go_in
 go_upto_region 3 with fail
 rw [← HW.out, ← mX, ← uO, ← hrb, ← hlb]
 rw [← hlb] at HL
 rw [← hrb] at HR
 rw [← uO] at HF
 rw [← mX] at HO
 have n1 : lb < rb := by omega
 have n2 : rb < fb := by omega
 have n3 : fb < ob := by omega
 have n4 : P.mb < lb := by omega
 have n5 : tb < lb := by omega
 have n6 : gb < lb := by omega
 have n7 : W0.heap.size ≤ lb := by omega
 have n8 : w.heap.size ≤ lb := by omega
 clear hlb hrb uO mX HW
 have HN := qd hn
 have HFR := qd hfr
 have HFC := qd (show (#[.int .u64 (key : Int), .int .u64 0, .int .u64 (hash : Int)] : Array Value) = #[.int .u64 ((fr).key : Int), .int .u64 ((fr).val : Int), .int .u64 ((fr).hash : Int)] from by rw [hfr]; rfl)
 clear hfr hn
 go_wp2
 clear rV Wx Wy
 go_loopw [12, 13, 15, 24] (fun v12 _ _ i wr => ∃ k : Nat, k ≤ n ∧ i = .int .i64 k ∧ v12 = .bool (dN fr none (aL (T.gs.take k))).isSome ∧ aO wr P (x.add c k) ∧ aj wr ob 37 (vR (dN fr none (aL (T.gs.take k)))) ∧ TabAt wr tb gb T ∧ Env W0 E wr ∧ aj wr lb 112 #[.pointer (some ⟨P.mb, P.mo, none⟩), .int .i64 c.p, .int .i64 c.v, .int .i64 c.u] ∧ aj wr rb 37 #[.int .u64 0, .int .u64 0, .int .u64 0] ∧ aj wr fb 37 #[.int .u64 ((fr).key : Int), .int .u64 ((fr).val : Int), .int .u64 ((fr).hash : Int)] ∧ Mod [P.mb] w wr) (fun _ _ _ i _ => n - (intOf i).toNat)
 case atStart => exact ⟨0, by omega, rfl, rfl, HM.out, HO.out, HT.out, ay.out, HL.out, HR.out, HFC.out ▸ HF.out, ah.out⟩
 case round =>
  clear HM HO HT ay HL HR HF ah
  obtain ⟨k, hk, rfl, rfl, hM, hO, hT, hE, hL, hR, hF, hm⟩ := hrel
  by_cases hlt : k < n
  ·have hlt' : (k : Int) < (n : Int) := by omega
   have hk0 : (0 : Int) ≤ (k : Int) := by omega
   have Fp : k < T.gs.length := by rw [← HN.out]; exact hlt
   have HT := qd (hT)
   have HM := qd (hM)
   have ay := qd (hE)
   have HO := qd (hO)
   have HL := qd (hL)
   have HR := qd (hR)
   have HF := qd (hF)
   have ah := qd (hm)
   clear hT hM hE hO hL hR hF hm
   obtain ⟨o, ho⟩ : ∃ o, o = dN fr none (aL (T.gs.take k)) := ⟨_, rfl⟩
   rw [← ho] at HO ⊢
   have HOo := qd ho
   clear ho
   obtain ⟨G, hG⟩ : ∃ G, G = T.gs.getD k [] := ⟨_, rfl⟩
   have Y4 := qd hG
   clear hG
   have rV := HT.out.cells.1
   rw [← HN.out] at rV
   have lc := HL.out.c4
   go_upto_region 7 with fail
   have z1 := qJ ah.out.size (qJ HT.out.aT (qJ HT.out.aU (qJ HM.out.lt (qJ HO.out.lt (qJ HL.out.lt (qJ HR.out.lt HF.out.lt))))))
   have nR := qd (uT ⟨gb, k * 25, none⟩ P.mb P.mt P.pre P.post P.mo (x.add c k).all (x.add c k).last P.m c wr.drew (HM.out.below (Below.refl _ _).drew))
   unfold aJ at nR
   refine rT (fun (w' : World) => w'.cell? ⟨tb, 0, none⟩ = some (.slice (some ⟨gb, 0, none⟩) n n) ∧ w'.cell? ⟨lb, 0, none⟩ = some (.pointer (some ⟨P.mb, P.mo, none⟩)) ∧ w'.cell? ⟨lb, 1, none⟩ = some (.int .i64 c.p) ∧ w'.cell? ⟨lb, 2, none⟩ = some (.int .i64 c.v) ∧ w'.cell? ⟨lb, 3, none⟩ = some (.int .i64 c.u)) [] ?_
   have hHeld := (⟨rV, lc.1, lc.2.1, lc.2.2.1, lc.2.2.2⟩ : _ ∧ _ ∧ _ ∧ _ ∧ _)
   refine vW 0 rfl ?_
   refine vW 1 rfl ?_
   refine vW 2 rfl ?_
   refine vT 3 rfl ?_
   refine vW 4 rfl ?_
   refine vW 5 rfl ?_
   refine vT 6 rfl ?_
   refine vW 10 rfl ?_
   refine nT 7 rfl fun K hK => ?_
   go_simp
   refine (nR.out).mono ?_
   rintro y w1 ⟨rfl, hM1, hm⟩
   replace hm : Mod [P.mb] wr w1 := (Mod.drewN [P.mb] wr 1).then hm
   clear nR HM rV lc
   replace HT := qM hm HT
   replace ay := qM hm ay
   replace HO := qM hm HO
   replace HL := qM hm HL
   replace HR := qM hm HR
   replace HF := qM hm HF
   have z9 := (hm).size
   replace ah := qU ah hm
   have HM := qd (show aO w1 P (x.add c (k + 1)) from hM1)
   clear hM1 hm
   unfold bA
   have rV := HT.out.cells.1
   rw [← HN.out] at rV
   have lc := HL.out.c4
   have bC := qd (Dj gb 197 _ _ (k * 25) _ w1 (HT.out.group k Fp) ay.out.tz)
   rw [← Y4.out] at bC
   unfold bA at bC
   go_simp
   have hHeld := (⟨rV, lc.1, lc.2.1, lc.2.2.1, lc.2.2.2⟩ : _ ∧ _ ∧ _ ∧ _ ∧ _)
   refine kO hK ?_
   clear hK K
   refine nT 8 rfl fun K hK => ?_
   go_simp
   refine (bC.out).mono ?_
   rintro y w2 ⟨A, cc, rfl, vS, hb⟩
   clear rV lc
   replace HT := qB hb HT
   replace ay := qB hb ay
   replace HO := qB hb HO
   replace HL := qB hb HL
   replace HR := qB hb HR
   replace HF := qB hb HF
   replace HM := qB hb HM
   have Y5 := (hb).size
   replace ah := qT ah hb
   have eX := qd (vS)
   clear vS hb bC
   have rV := HT.out.cells.1
   rw [← HN.out] at rV
   have lc := HL.out.c4
   go_simp
   have hHeld := (⟨rV, lc.1, lc.2.1, lc.2.2.1, lc.2.2.2⟩ : _ ∧ _ ∧ _ ∧ _ ∧ _)
   refine kO hK ?_
   clear hK K
   refine vW 9 rfl ?_
   refine aS (by kernel_rfl) ?_ _
   obtain ⟨es, hes⟩ : ∃ es, es = bN G := ⟨_, rfl⟩
   rw [← hes] at eX ⊢
   have aa0 : es.length ≤ 8 := by have h1 := wW G; have h2 := HT.out.wide.at_ Fp; rw [← Y4.out] at h2; rw [hes]; omega
   have WA := qd hes
   clear hes
   have z11 := ah.out.size
   go_wp2
   clear rV lc
   go_loopw [12, 15, 37] (fun v12 _ i wr => ∃ j : Nat, j ≤ es.length ∧ i = .int .i64 j ∧ v12 = .bool (dN fr o (es.take j)).isSome ∧ aj wr ob 37 (vR (dN fr o (es.take j))) ∧ TabAt wr tb gb T ∧ Env W0 E wr ∧ aj wr lb 112 #[.pointer (some ⟨P.mb, P.mo, none⟩), .int .i64 c.p, .int .i64 c.v, .int .i64 c.u] ∧ aj wr rb 37 #[.int .u64 0, .int .u64 0, .int .u64 0] ∧ aj wr fb 37 #[.int .u64 ((fr).key : Int), .int .u64 ((fr).val : Int), .int .u64 ((fr).hash : Int)] ∧ Mod [P.mb] w wr ∧ aO wr P (x.add c (k + 1)) ∧ wr.ownsRow w1.heap.size 37 3 (.slice A es.length cc) es.length (es.flatMap aR)) (fun _ _ i _ => es.length - (intOf i).toNat)
   case atStart => exact ⟨0, by omega, rfl, rfl, HO.out, HT.out, ay.out, HL.out, HR.out, HF.out, ah.out, HM.out, eX.out⟩
   case round =>
    clear HM HO HT ay HL HR HF ah eX
    obtain ⟨j, hj, rfl, rfl, hO, hT, hE, hL, hR, hF, hm, hM, vS⟩ := hrel
    by_cases hlt2 : j < es.length
    ·have aaC : (j : Int) < (es.length : Int) := by omega
     have hj0 : (0 : Int) ≤ (j : Int) := by omega
     obtain ⟨e, he⟩ : ∃ e, es[j]? = some e := ⟨_, List.getElem?_eq_getElem hlt2⟩
     obtain ⟨g, rfl, hgb, k0, k1, k2, hjn⟩ := Hy vS he
     have dV := qd (MW fr o he)
     clear he hjn
     have HT := qd (hT)
     have HM := qd (hM)
     have ay := qd (hE)
     have HO := qd (hO)
     have HL := qd (hL)
     have HR := qd (hR)
     have HF := qd (hF)
     have eX := qd (vS)
     have ah := qd (hm)
     clear hT hM hE hO hL hR hF hm vS
     obtain ⟨o2, ho2⟩ : ∃ o2, o2 = dN fr o (es.take j) := ⟨_, rfl⟩
     rw [← ho2] at HO dV ⊢
     clear ho2
     go_upto_region 10 with fail
     have z1 := qJ ah.out.size (qJ HT.out.aT (qJ HT.out.aU (qJ HM.out.lt (qJ HO.out.lt (qJ HL.out.lt (qJ HR.out.lt (qJ HF.out.lt ah.out.size)))))))
     refine bY 37 #[.int .u64 ((e).key : Int), .int .u64 ((e).val : Int), .int .u64 ((e).hash : Int)] ?_
     rintro w3 ⟨hnew, hb⟩
     obtain ⟨xb, hxb⟩ : ∃ xb, xb = wr.heap.size := ⟨_, rfl⟩
     rw [← hxb] at hnew ⊢
     replace hxb : wr.heap.size ≤ xb := by omega
     clear k0 k1 k2
     replace HT := qB hb HT
     replace HM := qB hb HM
     replace ay := qB hb ay
     replace HO := qB hb HO
     replace HL := qB hb HL
     replace HR := qB hb HR
     replace HF := qB hb HF
     replace eX := qB hb eX
     have Y5 := (hb).size
     replace ah := qT ah hb
     have HX := qd (hnew)
     clear hnew hb
     cases hl : bg e fr with
     | true =>
      have fM := qd (jM e fr w3)
      rw [hl] at fM
      unfold aM at fM
      replace dV := qd (show dN fr o (es.take (j + 1)) = o2 from by rw [dV.out]; unfold mh; rw [hl]; simp)
      clear hl
      have xc := HX.out.c3
      have fc := HF.out.c3
      go_wp2_with fail
      refine (fM.out).mono ?_
      rintro x w4 ⟨rfl, hb⟩
      clear xc fc
      replace HT := qB hb HT
      replace HM := qB hb HM
      replace ay := qB hb ay
      replace HO := qB hb HO
      replace HL := qB hb HL
      replace HR := qB hb HR
      replace HF := qB hb HF
      replace eX := qB hb eX
      replace HX := qB hb HX
      have UE := (hb).size
      replace ah := qT ah hb
      clear hb
      go_wp2
      go_roundw
      case rel => exact ⟨j + 1, by omega, by go_num, by rw [dV.out] <;> rfl, by rw [dV.out]; exact HO.out, HT.out, ay.out, HL.out, HR.out, HF.out, ah.out, HM.out, eX.out⟩
      case measure => simp [intOf]; omega
     | false =>
      cases o2 with
      | none =>
       replace HO := qd (show aj w3 ob 37 #[.int .u64 0, .int .u64 0, .int .u64 0] from HO.out)
       have fM := qd (jM e fr w3)
       rw [hl] at fM
       unfold aM at fM
       replace dV := qd (show dN fr o (es.take (j + 1)) = some e from by rw [dV.out]; unfold mh; rw [hl]; rfl)
       clear hl
       have xc := HX.out.c3
       have fc := HF.out.c3
       go_wp2_with fail
       refine (fM.out).mono ?_
       rintro x w4 ⟨rfl, hb⟩
       clear xc fc
       replace HT := qB hb HT
       replace HM := qB hb HM
       replace ay := qB hb ay
       replace HO := qB hb HO
       replace HL := qB hb HL
       replace HR := qB hb HR
       replace HF := qB hb HF
       replace eX := qB hb eX
       replace HX := qB hb HX
       have UE := (hb).size
       replace ah := qT ah hb
       clear hb
       have xc := HX.out.c3
       have oc := HO.out.c3
       have of := HO.out.f3
       go_upto_region 12 with fail
       have acr := qJ HT.out.aT (qJ HT.out.aU (qJ HM.out.lt (qJ HO.out.lt (qJ HL.out.lt (qJ HR.out.lt (qJ HF.out.lt HX.out.lt))))))
       refine G5 HO.out ?_
       rintro w6 ⟨hnew, hm⟩
       simp only [pt] at hnew
       replace HT := qM hm HT
       replace HM := qM hm HM
       replace ay := qM hm ay
       replace HL := qM hm HL
       replace HR := qM hm HR
       replace HF := qM hm HF
       replace eX := qM hm eX
       replace HX := qM hm HX
       have acs := (hm).size
       replace ah := qU ah hm
       replace HO := qd hnew
       clear hnew hm
       go_wp2
       go_roundw
       case rel => exact ⟨j + 1, by omega, by go_num, by rw [dV.out] <;> rfl, by rw [dV.out]; exact HO.out, HT.out, ay.out, HL.out, HR.out, HF.out, ah.out, HM.out, eX.out⟩
       case measure => simp [intOf]; omega
      | some b =>
       cases hlb : bg e b with
       | true =>
        replace HO := qd (show aj w3 ob 37 #[.int .u64 ((b).key : Int), .int .u64 ((b).val : Int), .int .u64 ((b).hash : Int)] from HO.out)
        have fM := qd (jM e fr w3)
        rw [hl] at fM
        unfold aM at fM
        replace dV := qd (show dN fr o (es.take (j + 1)) = some e from by rw [dV.out]; unfold mh; rw [hl]; simp [hlb])
        have vV := qd (fun V : World => jM e b V)
        rw [hlb] at vV
        unfold aM at vV
        clear hlb hl
        have xc := HX.out.c3
        have fc := HF.out.c3
        go_wp2_with fail
        refine (fM.out).mono ?_
        rintro x w4 ⟨rfl, hb⟩
        clear xc fc
        replace HT := qB hb HT
        replace HM := qB hb HM
        replace ay := qB hb ay
        replace HO := qB hb HO
        replace HL := qB hb HL
        replace HR := qB hb HR
        replace HF := qB hb HF
        replace eX := qB hb eX
        replace HX := qB hb HX
        have UE := (hb).size
        replace ah := qT ah hb
        clear hb
        have xc := HX.out.c3
        have oc := HO.out.c3
        go_wp2_with fail
        refine ((vV.out w4)).mono ?_
        rintro x w5 ⟨rfl, hb⟩
        clear xc oc
        replace HT := qB hb HT
        replace HM := qB hb HM
        replace ay := qB hb ay
        replace HO := qB hb HO
        replace HL := qB hb HL
        replace HR := qB hb HR
        replace HF := qB hb HF
        replace eX := qB hb eX
        replace HX := qB hb HX
        have aa1 := (hb).size
        replace ah := qT ah hb
        clear hb
        have xc := HX.out.c3
        have oc := HO.out.c3
        have of := HO.out.f3
        go_upto_region 12 with fail
        have acu := qJ HT.out.aT (qJ HT.out.aU (qJ HM.out.lt (qJ HO.out.lt (qJ HL.out.lt (qJ HR.out.lt (qJ HF.out.lt HX.out.lt))))))
        refine G5 HO.out ?_
        rintro w6 ⟨hnew, hm⟩
        simp only [pt] at hnew
        replace HT := qM hm HT
        replace HM := qM hm HM
        replace ay := qM hm ay
        replace HL := qM hm HL
        replace HR := qM hm HR
        replace HF := qM hm HF
        replace eX := qM hm eX
        replace HX := qM hm HX
        have acv := (hm).size
        replace ah := qU ah hm
        replace HO := qd hnew
        clear hnew hm
        go_wp2
        go_roundw
        case rel => exact ⟨j + 1, by omega, by go_num, by rw [dV.out] <;> rfl, by rw [dV.out]; exact HO.out, HT.out, ay.out, HL.out, HR.out, HF.out, ah.out, HM.out, eX.out⟩
        case measure => simp [intOf]; omega
       | false =>
        replace HO := qd (show aj w3 ob 37 #[.int .u64 ((b).key : Int), .int .u64 ((b).val : Int), .int .u64 ((b).hash : Int)] from HO.out)
        have fM := qd (jM e fr w3)
        rw [hl] at fM
        unfold aM at fM
        replace dV := qd (show dN fr o (es.take (j + 1)) = some b from by rw [dV.out]; unfold mh; rw [hl]; simp [hlb])
        have vV := qd (fun V : World => jM e b V)
        rw [hlb] at vV
        unfold aM at vV
        clear hlb hl
        have xc := HX.out.c3
        have fc := HF.out.c3
        go_wp2_with fail
        refine (fM.out).mono ?_
        rintro x w4 ⟨rfl, hb⟩
        clear xc fc
        replace HT := qB hb HT
        replace HM := qB hb HM
        replace ay := qB hb ay
        replace HO := qB hb HO
        replace HL := qB hb HL
        replace HR := qB hb HR
        replace HF := qB hb HF
        replace eX := qB hb eX
        replace HX := qB hb HX
        have UE := (hb).size
        replace ah := qT ah hb
        clear hb
        have xc := HX.out.c3
        have oc := HO.out.c3
        go_wp2_with fail
        refine ((vV.out w4)).mono ?_
        rintro x w5 ⟨rfl, hb⟩
        clear xc oc
        replace HT := qB hb HT
        replace HM := qB hb HM
        replace ay := qB hb ay
        replace HO := qB hb HO
        replace HL := qB hb HL
        replace HR := qB hb HR
        replace HF := qB hb HF
        replace eX := qB hb eX
        replace HX := qB hb HX
        have aa1 := (hb).size
        replace ah := qT ah hb
        clear hb
        go_wp2
        go_roundw
        case rel => exact ⟨j + 1, by omega, by go_num, by rw [dV.out] <;> rfl, by rw [dV.out]; exact HO.out, HT.out, ay.out, HL.out, HR.out, HF.out, ah.out, HM.out, eX.out⟩
        case measure => simp [intOf]; omega
    ·obtain rfl : j = es.length := by omega
     have aaC : ¬ (es.length : Int) < (es.length : Int) := by omega
     have jl := qd (show dN fr none (aL (T.gs.take (k + 1))) = dN fr o es from by rw [KC fr T.gs Fp, HOo.out, WA.out, Y4.out])
     rw [List.take_length, ← jl.out] at hO ⊢
     have Fq := qd (And.intro hM (And.intro hO (And.intro hT (And.intro hE (And.intro hL (And.intro hR (And.intro hF hm)))))))
     clear hM hO hT hE hL hR hF hm vS
     go_wp2
     go_roundw
     case rel => exact ⟨k + 1, by omega, by go_num, rfl, Fq.out⟩
     case measure => simp [intOf]; omega
  ·obtain rfl : k = n := by omega
   have hlt' : ¬ (k : Int) < (k : Int) := by omega
   have htk : T.gs.take k = T.gs := by rw [HN.out]; exact List.take_length
   rw [htk] at hO ⊢
   clear htk
   obtain ⟨b, hbe⟩ : ∃ b, b = (dN fr none (aL T.gs)).getD ⟨0, 0, 0⟩ := ⟨_, rfl⟩
   obtain ⟨sb, hsb⟩ : ∃ sb, sb = (dN fr none (aL T.gs)).isSome := ⟨_, rfl⟩
   have HM := qd (hM)
   have HO := qd (show aj wr ob _ #[.int .u64 ((b).key : Int), .int .u64 ((b).val : Int), .int .u64 ((b).hash : Int)] from by rw [hbe]; exact hO)
   have HR := qd (hR)
   have ah := qd (hm)
   have uP := qd hbe
   clear hM hO hT hE hL hR hF hm hbe hsb
   have oc := HO.out.c3
   have rc := HR.out.c3
   have rf := HR.out.f3
   go_wp2
   have q1 := qJ HM.out.lt (qJ HO.out.lt HR.out.lt)
   refine G5 HR.out ?_
   rintro w9 ⟨hnew, hm⟩
   simp only [pt] at hnew
   replace HM := qM hm HM
   replace HO := qM hm HO
   have z4 := (hm).size
   replace ah := qU ah hm
   replace HR := qd hnew
   clear hnew hm
   have rx := HR.out.c3
   refine bodyPost_ret (v := .tuple #[.agg #[.int .u64 ((b).key : Int), .int .u64 ((b).val : Int), .int .u64 ((b).hash : Int)], .bool (dN fr none (aL T.gs)).isSome]) (by simp [results, Tryz.results135, go_sem, rx.1, rx.2.1, rx.2.2]) rfl ⟨by rw [uP.out], HM.out, ah.out⟩
end
end Go.Proofs.YtfojgfddgplinabGreatDoor
