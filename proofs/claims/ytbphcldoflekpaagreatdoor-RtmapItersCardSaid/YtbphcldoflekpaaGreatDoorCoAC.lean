/- A table that counts right: what a write leaves of that. No statement of the claim. -/
import Derived.Test.YtbphcldoflekpaaGreatDoorTabS
import Derived.Test.YtbphcldoflekpaaGreatDoorLaw25a
import Derived.Test.YtbphcldoflekpaaGreatDoorLaneP
import Derived.Test.YtbphcldoflekpaaGreatDoorSqT
namespace Go.Proofs.YtbphcldoflekpaaGreatDoor
set_option maxRecDepth 100000
set_option maxHeartbeats 8000000
open Go dA Go.RowKit
section
variable {T : aB} {i s : Nat}
structure lC (T : aB) : Prop where
 wide : oU T.gs
 pow : Pw T.gs.length
 live : T.live = ((aL T.gs).length : Int)
 bR : T.bR = (eF T.gs : Int)
theorem lC.small (h : lC T) : Small T := by
 have h1 := Ra h.wide
 have h2 := h.pow.le
 exact ⟨by rw [h.live]; omega, by rw [h.live]; omega, by rw [h.bR]; omega, by rw [h.bR]; omega, h2⟩
theorem lC.put (h : lC T) (hi : i < T.gs.length) (hs : s < (T.gs.getD i []).length) (x : Slot) {l t : Int} (hl : l = T.live + x.ents.length - (aF T.gs i s).ents.length) (ht : t = T.bR + x.j4 - (aF T.gs i s).j4) : lC ⟨putAt T.gs i s x, l, t⟩ := by
 have h1 := (Au hi hs x).length_eq
 have h2 := uI hi hs x
 rw [List.length_append, List.length_append] at h1
 have h3 := h.live
 have h4 := h.bR
 exact ⟨h.wide.put _ _ _, by show Pw (putAt _ _ _ _).length; rw [gM]; exact h.pow, by show l = ((aL (putAt T.gs i s x)).length : Int); omega, by show t = (eF (putAt T.gs i s x) : Int); omega⟩
theorem lC.erase (h : lC T) {e : av} (he : aF T.gs i s = .full e) : lC (iD T i s) := by
 obtain ⟨hi, hs⟩ := jL (gs := T.gs) (i := i) (s := s) (by rw [he]; exact fun h => by cases h)
 unfold iD
 cases ho : dF (T.gs.getD i []) with
 | true => exact h.put hi hs _ (by rw [he]; simp [Slot.ents] <;> omega) (by rw [he]; simp [Slot.j4, Slot.iC] <;> omega)
 | false => exact h.put hi hs _ (by rw [he]; simp [Slot.ents] <;> omega) (by rw [he]; simp [Slot.j4, Slot.iC] <;> omega)
theorem lC.place (h : lC T) (hi : i < T.gs.length) (hs : s < (T.gs.getD i []).length) (he : (aF T.gs i s).isFull = false) (e : av) : lC (jm T i s e) := by
 unfold jm
 cases hx : aF T.gs i s with
 | full y => rw [hx] at he; cases he
 | empty => exact h.put hi hs _ (by rw [hx]; simp [Slot.ents] <;> omega) (by rw [hx]; simp [Slot.j4, Slot.iC] <;> omega)
 | ow => exact h.put hi hs _ (by rw [hx]; simp [Slot.ents] <;> omega) (by rw [hx]; simp [Slot.j4, Slot.iC] <;> omega)
theorem lC.replace (h : lC T) {v : Nat} {e : av} (he : aF T.gs i s = .full e) : lC (replaceM T i s v e) := by
 obtain ⟨hi, hs⟩ := jL (gs := T.gs) (i := i) (s := s) (by rw [he]; exact fun h => by cases h)
 exact h.put hi hs _ (by rw [he]; simp [Slot.ents] <;> omega) (by rw [he]; simp [Slot.j4, Slot.iC] <;> omega)
def fT (T : aB) (i s : Nat) : aB := if (aF T.gs i s).isFull then iD T i s else T
def takeN (T : aB) (i : Nat) : Nat → aB
 | 0 => T
 | k + 1 => fT (takeN T i k) i k
theorem lC.abm (h : lC T) (i s : Nat) : lC (fT T i s) := by
 unfold fT
 cases hx : aF T.gs i s with
 | full e => rw [if_pos (by rfl)]; exact h.erase hx
 | empty => rw [if_neg (by simp [Slot.isFull])]; exact h
 | ow => rw [if_neg (by simp [Slot.isFull])]; exact h
theorem lC.tkN (h : lC T) (i : Nat) : ∀ k, lC (takeN T i k)
 | 0 => h
 | k + 1 => (h.tkN i k).abm i k
theorem Ac (T : aB) (i s : Nat) : (iD T i s).gs.length = T.gs.length := gM _ _ _ _
theorem qD (T : aB) (i : Nat) : ∀ k, (takeN T i k).gs.length = T.gs.length
 | 0 => rfl
 | k + 1 => by
  show (fT _ _ _).gs.length = _
  unfold fT
  split
  ·rw [Ac, qD T i k]
  ·exact qD T i k
theorem Yw {w w' : World} {S : List Nat} {base : Nat} {e : TypeId} {size n : Nat} {v : Value} {xs : List Value} (h : w.ownsRow base e size v n xs) (hm : Mod S w w') (hS : ∀ k, k ∈ S → k < base) : w'.ownsRow base e size v n xs := by
 refine ⟨h.1, ?_⟩
 rcases h.2 with hn | ⟨g, cap, cur, hv, hb, hg, rest⟩
 ·exact .inl hn
 ·exact .inr ⟨g, cap, cur, hv, hb, (hm.block g (Array.getElem?_eq_some_iff.1 hg).1 (fun hh => absurd (hS g hh) (by omega))).trans hg, rest⟩
instance {w w' : World} {base : Nat} {e : TypeId} {size n : Nat} {v : Value} {xs : List Value} : Md (w.ownsRow base e size v n xs) w w' (w'.ownsRow base e size v n xs) (fun S => ∀ k, k ∈ S → k < base) := ⟨fun h hm hs => Yw h hm hs⟩
end
section
structure sD (E : Nat → Addr) (w : World) : Prop where
 of : ∀ k, k = 1 ∨ k = 2 ∨ k = 5 → fJ E w k
theorem sD.at_ {E : Nat → Addr} {w : World} (h : sD E w) (k : Nat) (_ : 1 ≤ k) (_ : k ≤ 16) (hk : k = 1 ∨ k = 2 ∨ k = 5 := by decide) : fJ E w k := h.of k hk
theorem sD.below {E : Nat → Addr} {w w' : World} {B : Nat} (h : sD E w) (hb : Below B w w') (hB : w.heap.size ≤ B) : sD E w' := ⟨fun k hk => (h.of k hk).below hb hB⟩
theorem eZ.core {E : Nat → Addr} {w : World} (h : eZ E w) : sD E w := ⟨fun k hk => h.at_ k (by omega) (by omega)⟩
structure Env (W0 : World) (E : Nat → Addr) (w : World) : Prop where
 below : Below W0.heap.size W0 w
 Xh : sD E W0
 Zm : fQ W0
section
variable {W0 w w' : World} {E : Nat → Addr}
theorem Env.size (h : Env W0 E w) : W0.heap.size ≤ w.heap.size := h.below.size
theorem Env.errs (h : Env W0 E w) : sD E w := h.Xh.below h.below (Nat.le_refl _)
theorem Env.tz (h : Env W0 E w) : fQ w := h.Zm.below h.below
theorem Env.KJ (h : Env W0 E w) : 16 < W0.heap.size := World.block_lt_of_cell? W0 _ (h.Zm 0 (by omega))
theorem Env.mod {S : List Nat} (h : Env W0 E w) (hm : Mod S w w') (hS : ∀ k, k ∈ S → W0.heap.size ≤ k) : Env W0 E w' := ⟨h.below.trans (hm.below hS h.size), h.Xh, h.Zm⟩
instance {w w' : World} {W0 : World} {E : Nat → Addr} : Md (Env W0 E w) w w' (Env W0 E w') (fun S => ∀ k, k ∈ S → W0.heap.size ≤ k) := ⟨fun h hm hs => h.mod hm hs⟩
theorem Env.next (h : Env W0 E w) (hb : Below w.heap.size w w') : Env W0 E w' := h.mod (Mod.of_below hb []) (by simp)
end
structure MP where
 mb : Nat
 mt : TypeId
 pre : List Value
 post : List Value
 mo : Nat
 m : Int
structure bM where
 all : bC
 last : bC
def bM.add (x : bM) (c : bC) (n : Nat) : bM := ⟨eB x.all c n, eB x.last c n⟩
theorem A8 (a c : bC) (k : Nat) : ∀ n, eB (eB a c k) c n = eB a c (k + n)
 | 0 => rfl
 | n + 1 => by
  show iV (eB (eB a c k) c n) c = iV (eB a c (k + n)) c
  rw [A8 a c k n]
theorem bM.add_add (x : bM) (c : bC) (k n : Nat) : (x.add c k).add c n = x.add c (k + n) := by unfold bM.add; rw [A8, A8]
def aN (w : World) (P : MP) (x : bM) : Prop := Met w P.mb P.mt P.pre P.post P.mo x.all x.last P.m
def MP.addr (P : MP) : Addr := ⟨P.mb, P.mo, none⟩
section
variable {w w' : World} {P : MP} {x : bM}
theorem aN.lt (h : aN w P x) : P.mb < w.heap.size := Met.lt h
theorem aN.mod {S : List Nat} (h : aN w P x) (hm : Mod S w w') (hg : P.mb ∉ S) : aN w' P x := Met.mod h hm hg
instance {w w' : World} {P : MP} {x : bM} : Md (aN w P x) w w' (aN w' P x) (fun S => P.mb ∉ S) := ⟨fun h hm hs => aN.mod h hm hs⟩
theorem aN.below (h : aN w P x) (hb : Below w.heap.size w w') : aN w' P x := Met.below h hb
end
end
theorem uM {z : Array Value} {v : Value} {k : Nat} (hz : z = (List.replicate k v).toArray) (hk : 0 < k) (n : Nat) : madeCells z n = (List.replicate n v).toArray := by
 apply Array.toList_inj.1
 subst hz
 unfold madeCells
 rw [Array.toList_map]
 refine List.ext_getElem (by simp) fun i h1 h2 => ?_
 simp only [List.getElem_map, List.getElem_replicate]
 rw [getElem!_pos _ _ (by simp; exact Nat.mod_lt _ hk)]
 simp
def zx : j6 := List.replicate 8 (.full ⟨0, 0, 0⟩)
theorem PS : vD zx = List.replicate 25 (.int .u64 0) := by rfl
theorem Ba : ∀ n, cZ (List.replicate n zx) = List.replicate (n * 25) (.int .u64 0)
 | 0 => rfl
 | n + 1 => by
  show vD zx ++ cZ (List.replicate n zx) = _
  rw [Ba n, PS, Nat.add_mul, Nat.add_comm, List.replicate_append_replicate]
def acQ : Value := .agg #[.int .u64 0, .agg (Array.replicate 8 (.agg #[.int .u64 0, .int .u64 0, .int .u64 0]))]
theorem U8 : (Tryz.prog.info? 198).map (fun i => (i.zero.map fun z => z.cells, i.size, i.bytes)) = some (some (List.replicate 25 (Value.int .u64 0)).toArray, 25, 200) := by kernel_rfl
theorem Nj (n : Nat) (hn : n ≤ 64) (W : World) : (Instr.makeSlice 192 (nI n) (nI n)).run Tryz.prog W = .ok (.slice (some ⟨W.heap.size, 0, none⟩) n n) (W.alloc (.cells (cZ (List.replicate n zx)).toArray 198)) := by
 have h := U8
 cases hi : Tryz.prog.info? 198 with
 | none => rw [hi] at h; cases h
 | some i =>
  rw [hi] at h
  simp only [Option.map_some, Option.some.injEq, Prod.mk.injEq, Option.map_eq_some_iff] at h
  obtain ⟨⟨z, hz, hc⟩, hs, hb⟩ := h
  have := run_makeSlice (P := Tryz.prog) (w := W) 192 198 i z Tryz.underlying192 hi hz .i64 .i64 (n : Int) (n : Int) (by omega) (Int.le_refl _) (by rw [hs]; omega) (by rw [hb]; omega) (by omega)
  rw [this, hs, Int.toNat_natCast, uM hc (by omega), Ba]
theorem nW (n : Nat) (hn : Pw n) (w : World) : Calls Tryz.prog 154 #[nI n] w fun e w' => e = .returned (.bool true) ∧ w = w' := by
 rcases hn with rfl | rfl | rfl | rfl | rfl | rfl | rfl
 all_goals
  go_in
  go_wp2
  go_ret
  exact ⟨rfl, rfl⟩
def PU (n : Nat) : aB := ⟨List.replicate n zx, 0, 0⟩
theorem Hy (n : Nat) (hn : Pw n) (w : World) :
  Calls Tryz.prog 111 #[nI n] w fun e w' => e = .returned (.tuple #[bN (w.heap.size + 1), .nilIface]) ∧ TabAt w' (w.heap.size + 1) w.heap.size (PU n) ∧ Below w.heap.size w w' := by
 have HR := qd (nW n hn w)
 have hle := hn.le
 have hpos := hn.pos
 have hmk := Nj n hle w
 unfold bN
 go_in
 go_wp2_with fail
 refine (HR.out).mono ?_
 rintro x w1 ⟨rfl, rfl⟩
 go_wp2
 refine bodyPost_ret (v := .tuple #[.pointer (some ⟨w.heap.size + 1, 0, none⟩), .nilIface]) (by simp [results, Tryz.results111, go_sem]) rfl ⟨rfl, ⟨fun G hG => ?_, ?_, ?_, by omega⟩, ?_⟩
 ·rw [(List.mem_replicate.1 hG).2]; rfl
 ·have := aj.new (w.alloc (.cells (cZ (List.replicate n zx)).toArray 198)) 194 #[.slice (some ⟨w.heap.size, 0, none⟩) n n, .int .i64 0, .int .i64 0]
  rw [World.size_alloc] at this
  simpa [PU] using this
 ·exact (aj.new w 198 (cZ (List.replicate n zx)).toArray).alloc _
 ·exact ((Below.refl _ _).alloc (Nat.le_refl _) _).alloc (by simp) _
def KL : j6 := List.replicate 8 .empty
def oP (n k : Nat) : Tab := List.replicate k KL ++ List.replicate (n - k) zx
theorem wU (n : Nat) : oP n n = bare n := by unfold oP; rw [Nat.sub_self]; simp [bare, KL]
theorem lM {n k : Nat} (h : k ≤ n) : (oP n k).length = n := by simp [oP]; omega
theorem Hz {n k : Nat} (h : k < n) : (oP n k).set k KL = oP n (k + 1) := by
 unfold oP
 rw [List.set_append_right _ _ (by simp), List.length_replicate, Nat.sub_self, show n - k = (n - (k + 1)) + 1 by omega, List.replicate_succ, List.set_cons_zero, List.replicate_succ', List.append_assoc]; rfl
def dN (n k : Nat) : aB := ⟨oP n k, 0, 0⟩
theorem Yx {n : Nat} (hn : Pw n) : lC (dN n n) := by
 have h := (Ke hn)
 refine ⟨?_, ?_, ?_, ?_⟩
 ·show oU (oP n n); rw [wU]; exact h.wide
 ·show Pw (oP n n).length; rw [lM (Nat.le_refl _)]; exact hn
 ·show (0 : Int) = ((aL (oP n n)).length : Int)
  rw [wU]
  have : aL (bare n) = [] := List.eq_nil_iff_forall_not_mem.2 fun e he => by obtain ⟨i, s, hh⟩ := pF.1 he; rw [xP] at hh; cases hh
  rw [this]; rfl
 ·show (0 : Int) = (eF (oP n n) : Int)
  rw [wU]
  have : ∀ n, eF (bare n) = 0 := fun n => by
   induction n with
   | zero => rfl
   | succ k ih => show eF (List.replicate 8 Slot.empty :: bare k) = 0; rw [xO, ih]; rfl
  rw [this]; rfl
theorem RL (n : Nat) (hn : Pw n) (w : World) :
  Calls Tryz.prog 76 #[nI n] w fun e w' => ∃ tb gb, w.heap.size ≤ tb ∧ w.heap.size ≤ gb ∧ e = .returned (.tuple #[bN tb, .nilIface]) ∧ TabAt w' tb gb (dN n n) ∧ Below w.heap.size w w' := by
 have hle := hn.le
 have hpos := hn.pos
 have U9 := qd (Hy n hn w)
 unfold bN at U9 ⊢
 go_in
 go_upto_region 1 with fail
 go_wp2_with fail
 refine (U9.out).mono ?_
 rintro x w1 ⟨rfl, hT1, hb1⟩
 obtain ⟨tb, htb⟩ : ∃ tb, tb = w.heap.size + 1 := ⟨_, rfl⟩
 obtain ⟨gb, hgb⟩ : ∃ gb, gb = w.heap.size := ⟨_, rfl⟩
 rw [← htb] at hT1 ⊢
 rw [← hgb] at hT1
 replace htb : w.heap.size ≤ tb := by omega
 replace hgb : w.heap.size ≤ gb := by omega
 clear U9
 obtain ⟨c0, c1, c2⟩ := hT1.cells
 have hln : (PU n).gs.length = n := by simp [PU]
 rw [hln] at c0
 have HT := qd (show TabAt w1 tb gb (dN n 0) from hT1)
 have ah := qd hb1
 clear hT1 hb1 hln
 go_wp2
 go_loopw [6, 20] (fun _ i wr => ∃ k : Nat, k ≤ n ∧ i = .int .i64 k ∧ TabAt wr tb gb (dN n k) ∧ Below w.heap.size w wr) (fun _ i _ => n - (intOf i).toNat)
 case atStart => exact ⟨0, by omega, rfl, HT.out, ah.out⟩
 case round =>
  clear HT ah c0 c1 c2
  obtain ⟨k, hk, rfl, hT, hm⟩ := hrel
  by_cases hlt : k < n
  ·have hlt' : (k : Int) < (n : Int) := by omega
   have hk0 : (0 : Int) ≤ (k : Int) := by omega
   obtain ⟨c0, c1, c2⟩ := hT.cells
   have hln : (dN n k).gs.length = n := lM hk
   rw [hln] at c0
   have htl := hT.aQ
   have hgl := hT.aR
   have nZ := qd (F5 ⟨gb, k * 25, none⟩ ⟨0, 0, 0⟩ wr)
   have HG := qd (hT.group k (by rw [hln]; exact hlt))
   have HT := qd hT
   have Hm := qd hm
   have HS := qd (Hz hlt)
   unfold aG bF at nZ
   clear hT hm hln
   go_wp2_with fail
   refine (nZ.out).mono ?_
   rintro x w2 ⟨rfl, hb2⟩
   have wT := qd (G7 gb 198 _ _ (k * 25) _ w2 (HG.out.below hb2))
   have HT2 := qd (HT.out.below hb2)
   have RN := qd (Hm.out.trans (hb2.mono Hm.out.size))
   unfold bF at wT
   clear hb2 HT Hm HG nZ
   go_wp2_with fail
   refine (wT.out).mono ?_
   rintro x w3 ⟨rfl, hG3, fE⟩
   have HT3 := qd (HT2.out.nG k (by rw [show (dN n k).gs.length = n from lM hk]; exact hlt) fE hG3)
   have Hm3 := qd (RN.out.trans (fE.below (B := w.heap.size) (by intro j hj; simp at hj; omega) RN.out.size))
   clear HT2 RN hG3 fE
   go_wp2
   go_roundw
   case rel => exact ⟨k + 1, by omega, by go_num, by have := HT3.out; unfold dN at this ⊢; rw [← HS.out]; exact this, Hm3.out⟩
   case measure => simp [intOf]; omega
  ·obtain rfl : k = n := by omega
   have hlt' : ¬ (k : Int) < (k : Int) := by omega
   go_wp2
   refine bodyPost_ret (v := .tuple #[pQ tb, .nilIface]) (by simp [results, Tryz.results76, go_sem]) rfl (by first | exact ⟨tb, gb, htb, hgb, rfl, hT, hm⟩ | exact ⟨tb, htb, gb, hgb, rfl, hT, hm⟩)
section
variable {j k : Nat} {es : List av} {e : av}
theorem pO {α : Type} {l : List α} {y : α} (h : l[k]? = some y) : l.take (k + 1) = l.take k ++ [y] := by rw [List.take_add_one, h]; rfl
def mg (f : av) (o : Option av) (e : av) : Option av := if !aX e f && (match o with | none => true | some b => aX e b) then some e else o
def dO (f : av) (o : Option av) (es : List av) : Option av := es.foldl (mg f) o
theorem Nk (f : av) (o : Option av) (h : es[j]? = some e) : dO f o (es.take (j + 1)) = mg f (dO f o (es.take j)) e := by
 unfold dO; rw [pO h, List.foldl_append]; rfl
theorem KM (f : av) (gs : Tab) (hk : k < gs.length) : dO f none (aL (gs.take (k + 1))) = dO f (dO f none (aL (gs.take k))) (bT (gs.getD k [])) := by
 have h : gs[k]? = some (gs.getD k []) := by rw [List.getD_eq_getElem?_getD, List.getElem?_eq_getElem hk]; rfl
 rw [pO h]
 unfold dO aL
 rw [List.flatMap_append, List.foldl_append]; simp
def vG (o : Option av) : Array Value := (aS (o.getD ⟨0, 0, 0⟩)).toArray
theorem H7 {w : World} {base n c : Nat} {A : Option Addr} (h : w.ownsRow base 38 3 (.slice A n c) n (es.flatMap aS)) (he : es[j]? = some e) :
  ∃ g, A = some ⟨g, 0, none⟩ ∧ base ≤ g ∧ w.cell? ⟨g, j * 3, none⟩ = some (.int .u64 (e.key : Int)) ∧ w.cell? ⟨g, j * 3 + 1, none⟩ = some (.int .u64 (e.val : Int)) ∧ w.cell? ⟨g, j * 3 + 2, none⟩ = some (.int .u64 (e.hash : Int)) ∧ j < n := by
 have hl := h.1
 rw [gy] at hl
 obtain ⟨hj, _⟩ := List.getElem?_eq_some_iff.1 he
 have hjn : j < n := by omega
 rcases h.2 with hn | ⟨g, cap, cur, hv, hb, hg, h1, h2, h3, h4⟩
 ·omega
 ·cases hv
  refine ⟨g, rfl, hb, ?_⟩
  have hs : es.flatMap aS = (es.take j).flatMap aS ++ (aS e ++ (es.drop (j + 1)).flatMap aS) := by
   conv => lhs; rw [← List.take_append_drop j es, List.drop_eq_getElem?_toList_append, he]
   simp
  have hlt : ((es.take j).flatMap aS).length = j * 3 := by rw [gy, List.length_take]; omega
  have hc : ∀ q, q < 3 → w.cell? ⟨g, j * 3 + q, none⟩ = (aS e)[q]? := fun q hq => by
   have := h.cellAt (j * 3 + q) (by omega)
   rw [this, hs, List.getElem?_append_right (by omega), hlt, Nat.add_sub_cancel_left, List.getElem?_append_left (by simpa [aS] using hq)]
  exact ⟨hc 0 (by omega), hc 1 (by omega), hc 2 (by omega), hjn⟩
theorem Da {W0 : World} {E : Nat → Addr} (tb gb : Nat) (T : aB) (P : MP) (x : bM) (c : bC) (hash key : Nat) (hok : T.gs.length ≤ 64) (w : World) (h : TabAt w tb gb T) (hM : aN w P x) (hE : Env W0 E w) (hmt : P.mb ≠ tb) (gD : P.mb ≠ gb) (hb0 : W0.heap.size ≤ P.mb) :
  Calls Tryz.prog 151 #[bN tb, aG (some ⟨P.mb, P.mo, none⟩) c, .int .u64 (hash : Int), .int .u64 (key : Int)] w fun e w' => e = .returned (eT (dO ⟨key, 0, hash⟩ none (aL T.gs))) ∧ aN w' P (x.add c T.gs.length) ∧ Mod [P.mb] w w' := by
 obtain ⟨n, hn⟩ : ∃ n, n = T.gs.length := ⟨_, rfl⟩
 obtain ⟨fr, hfr⟩ : ∃ fr : av, fr = ⟨key, 0, hash⟩ := ⟨_, rfl⟩
 rw [← hfr, ← hn]
 obtain ⟨W, hW, hB, hL, hR, hF, hO⟩ := qX4 w 115 #[.pointer (some ⟨P.mb, P.mo, none⟩), .int .i64 c.p, .int .i64 c.v, .int .i64 c.u] 38 #[.int .u64 0, .int .u64 0, .int .u64 0] 38 #[.int .u64 (key : Int), .int .u64 0, .int .u64 (hash : Int)] 38 #[.int .u64 0, .int .u64 0, .int .u64 0]
 have hml := hM.lt
 have htl := h.aQ
 have hgl := h.aR
 have hB0 := hE.size
 have HW := qd hW
 have hnm : n ≤ 64 := by rw [hn]; exact hok
 obtain ⟨rz, Xf, Xg⟩ := (h.below hB).cells
 rw [← hn] at rz
 unfold bN aG eT aM
 have HT := qd (h.below hB)
 have ay := qd (hE.next hB)
 have HM := qd (show aN W P (x.add c 0) from hM.below hB)
 have HL := qd (hL)
 have HR := qd (hR)
 have HF := qd (hF)
 have HO := qd (show aj W _ _ (vG (dO fr none (aL (T.gs.take 0)))) from hO)
 have ah := qd (Mod.of_below hB [P.mb])
 have z1 := ah.out.size
 obtain ⟨lb, hlb⟩ : ∃ lb, lb = w.heap.size := ⟨_, rfl⟩
 obtain ⟨rb, hrb⟩ : ∃ rb, rb = w.heap.size + 1 := ⟨_, rfl⟩
 obtain ⟨fb, nX⟩ : ∃ fb, fb = w.heap.size + 1 + 1 := ⟨_, rfl⟩
 obtain ⟨ob, mU⟩ : ∃ ob, ob = w.heap.size + 1 + 1 + 1 := ⟨_, rfl⟩
 clear hW hB h hM hL hE hR hF hO
 go_in
 go_upto_region 3 with fail
 rw [← HW.out, ← mU, ← nX, ← hrb, ← hlb]
 rw [← hlb] at HL
 rw [← hrb] at HR
 rw [← nX] at HF
 rw [← mU] at HO
 have n1 : lb < rb := by omega
 have n2 : rb < fb := by omega
 have n3 : fb < ob := by omega
 have n4 : P.mb < lb := by omega
 have n5 : tb < lb := by omega
 have n6 : gb < lb := by omega
 have n7 : W0.heap.size ≤ lb := by omega
 have n8 : w.heap.size ≤ lb := by omega
 clear hlb hrb nX mU HW
 have HN := qd hn
 have HFR := qd hfr
 have HFC := qd (show (#[.int .u64 (key : Int), .int .u64 0, .int .u64 (hash : Int)] : Array Value) = #[.int .u64 ((fr).key : Int), .int .u64 ((fr).val : Int), .int .u64 ((fr).hash : Int)] from by rw [hfr]; rfl)
 clear hfr hn
 go_wp2
 clear rz Xf Xg
 go_loopw [12, 13, 15, 24] (fun v12 _ _ i wr => ∃ k : Nat, k ≤ n ∧ i = .int .i64 k ∧ v12 = .bool (dO fr none (aL (T.gs.take k))).isSome ∧ aN wr P (x.add c k) ∧ aj wr ob 38 (vG (dO fr none (aL (T.gs.take k)))) ∧ TabAt wr tb gb T ∧ Env W0 E wr ∧ aj wr lb 115 #[.pointer (some ⟨P.mb, P.mo, none⟩), .int .i64 c.p, .int .i64 c.v, .int .i64 c.u] ∧ aj wr rb 38 #[.int .u64 0, .int .u64 0, .int .u64 0] ∧ aj wr fb 38 #[.int .u64 ((fr).key : Int), .int .u64 ((fr).val : Int), .int .u64 ((fr).hash : Int)] ∧ Mod [P.mb] w wr) (fun _ _ _ i _ => n - (intOf i).toNat)
 case atStart => exact ⟨0, by omega, rfl, rfl, HM.out, HO.out, HT.out, ay.out, HL.out, HR.out, HFC.out ▸ HF.out, ah.out⟩
 case round =>
  clear HM HO HT ay HL HR HF ah
  obtain ⟨k, hk, rfl, rfl, hM, hO, hT, hE, hL, hR, hF, hm⟩ := hrel
  by_cases hlt : k < n
  ·have hlt' : (k : Int) < (n : Int) := by omega
   have hk0 : (0 : Int) ≤ (k : Int) := by omega
   have E8 : k < T.gs.length := by rw [← HN.out]; exact hlt
   have HT := qd (hT)
   have HM := qd (hM)
   have ay := qd (hE)
   have HO := qd (hO)
   have HL := qd (hL)
   have HR := qd (hR)
   have HF := qd (hF)
   have ah := qd (hm)
   clear hT hM hE hO hL hR hF hm
   obtain ⟨o, ho⟩ : ∃ o, o = dO fr none (aL (T.gs.take k)) := ⟨_, rfl⟩
   rw [← ho] at HO ⊢
   have HOo := qd ho
   clear ho
   obtain ⟨G, hG⟩ : ∃ G, G = T.gs.getD k [] := ⟨_, rfl⟩
   have Oe := qd hG
   clear hG
   have rz := HT.out.cells.1
   rw [← HN.out] at rz
   have lc := HL.out.c4
   go_upto_region 7 with fail
   have z1 := qJ ah.out.size (qJ HT.out.aQ (qJ HT.out.aR (qJ HM.out.lt (qJ HO.out.lt (qJ HL.out.lt (qJ HR.out.lt HF.out.lt))))))
   have nZ := qd (uJ ⟨gb, k * 25, none⟩ P.mb P.mt P.pre P.post P.mo (x.add c k).all (x.add c k).last P.m c wr.drew (HM.out.below (Below.refl _ _).drew))
   unfold aG at nZ
   refine rT (fun (w' : World) => w'.cell? ⟨tb, 0, none⟩ = some (.slice (some ⟨gb, 0, none⟩) n n) ∧ w'.cell? ⟨lb, 0, none⟩ = some (.pointer (some ⟨P.mb, P.mo, none⟩)) ∧ w'.cell? ⟨lb, 1, none⟩ = some (.int .i64 c.p) ∧ w'.cell? ⟨lb, 2, none⟩ = some (.int .i64 c.v) ∧ w'.cell? ⟨lb, 3, none⟩ = some (.int .i64 c.u)) [] ?_
   have hHeld := (⟨rz, lc.1, lc.2.1, lc.2.2.1, lc.2.2.2⟩ : _ ∧ _ ∧ _ ∧ _ ∧ _)
   refine vW 0 rfl ?_
   refine vW 1 rfl ?_
   refine vW 2 rfl ?_
   refine vT 3 rfl ?_
   refine vW 4 rfl ?_
   refine vW 5 rfl ?_
   refine vT 6 rfl ?_
   refine vW 10 rfl ?_
   refine nT 7 rfl fun K hK => ?_
   go_simp
   refine (nZ.out).mono ?_
   rintro y w1 ⟨rfl, hM1, hm⟩
   replace hm : Mod [P.mb] wr w1 := (Mod.drewN [P.mb] wr 1).then hm
   clear nZ HM rz lc
   replace HT := qM hm HT
   replace ay := qM hm ay
   replace HO := qM hm HO
   replace HL := qM hm HL
   replace HR := qM hm HR
   replace HF := qM hm HF
   have z9 := (hm).size
   replace ah := qU ah hm
   have HM := qd (show aN w1 P (x.add c (k + 1)) from hM1)
   clear hM1 hm
   unfold bF
   have rz := HT.out.cells.1
   rw [← HN.out] at rz
   have lc := HL.out.c4
   have bD := qd (CX gb 198 _ _ (k * 25) _ w1 (HT.out.group k E8) ay.out.tz)
   rw [← Oe.out] at bD
   unfold bF at bD
   go_simp
   have hHeld := (⟨rz, lc.1, lc.2.1, lc.2.2.1, lc.2.2.2⟩ : _ ∧ _ ∧ _ ∧ _ ∧ _)
   refine kO hK ?_
   clear hK K
   refine nT 8 rfl fun K hK => ?_
   go_simp
   refine (bD.out).mono ?_
   rintro y w2 ⟨A, cc, rfl, vH, hb⟩
   clear rz lc
   replace HT := qB hb HT
   replace ay := qB hb ay
   replace HO := qB hb HO
   replace HL := qB hb HL
   replace HR := qB hb HR
   replace HF := qB hb HF
   replace HM := qB hb HM
   have Zn := (hb).size
   replace ah := qT ah hb
   have gB := qd (vH)
   clear vH hb bD
   have rz := HT.out.cells.1
   rw [← HN.out] at rz
   have lc := HL.out.c4
   go_simp
   have hHeld := (⟨rz, lc.1, lc.2.1, lc.2.2.1, lc.2.2.2⟩ : _ ∧ _ ∧ _ ∧ _ ∧ _)
   refine kO hK ?_
   clear hK K
   refine vW 9 rfl ?_
   refine aT (by kernel_rfl) ?_ _
   obtain ⟨es, hes⟩ : ∃ es, es = bT G := ⟨_, rfl⟩
   rw [← hes] at gB ⊢
   have abn : es.length ≤ 8 := by have h1 := wM G; have h2 := HT.out.wide.at_ E8; rw [← Oe.out] at h2; rw [hes]; omega
   have Xi := qd hes
   clear hes
   have z11 := ah.out.size
   go_wp2
   clear rz lc
   go_loopw [12, 15, 37] (fun v12 _ i wr => ∃ j : Nat, j ≤ es.length ∧ i = .int .i64 j ∧ v12 = .bool (dO fr o (es.take j)).isSome ∧ aj wr ob 38 (vG (dO fr o (es.take j))) ∧ TabAt wr tb gb T ∧ Env W0 E wr ∧ aj wr lb 115 #[.pointer (some ⟨P.mb, P.mo, none⟩), .int .i64 c.p, .int .i64 c.v, .int .i64 c.u] ∧ aj wr rb 38 #[.int .u64 0, .int .u64 0, .int .u64 0] ∧ aj wr fb 38 #[.int .u64 ((fr).key : Int), .int .u64 ((fr).val : Int), .int .u64 ((fr).hash : Int)] ∧ Mod [P.mb] w wr ∧ aN wr P (x.add c (k + 1)) ∧ wr.ownsRow w1.heap.size 38 3 (.slice A es.length cc) es.length (es.flatMap aS)) (fun _ _ i _ => es.length - (intOf i).toNat)
   case atStart => exact ⟨0, by omega, rfl, rfl, HO.out, HT.out, ay.out, HL.out, HR.out, HF.out, ah.out, HM.out, gB.out⟩
   case round =>
    clear HM HO HT ay HL HR HF ah gB
    obtain ⟨j, hj, rfl, rfl, hO, hT, hE, hL, hR, hF, hm, hM, vH⟩ := hrel
    by_cases hlt2 : j < es.length
    ·have aaZ : (j : Int) < (es.length : Int) := by omega
     have hj0 : (0 : Int) ≤ (j : Int) := by omega
     obtain ⟨e, he⟩ : ∃ e, es[j]? = some e := ⟨_, List.getElem?_eq_getElem hlt2⟩
     obtain ⟨g, rfl, hgb, k0, k1, k2, hjn⟩ := H7 vH he
     have dD := qd (Nk fr o he)
     clear he hjn
     have HT := qd (hT)
     have HM := qd (hM)
     have ay := qd (hE)
     have HO := qd (hO)
     have HL := qd (hL)
     have HR := qd (hR)
     have HF := qd (hF)
     have gB := qd (vH)
     have ah := qd (hm)
     clear hT hM hE hO hL hR hF hm vH
     obtain ⟨o2, ho2⟩ : ∃ o2, o2 = dO fr o (es.take j) := ⟨_, rfl⟩
     rw [← ho2] at HO dD ⊢
     clear ho2
     go_upto_region 10 with fail
     have z1 := qJ ah.out.size (qJ HT.out.aQ (qJ HT.out.aR (qJ HM.out.lt (qJ HO.out.lt (qJ HL.out.lt (qJ HR.out.lt (qJ HF.out.lt ah.out.size)))))))
     refine bW 38 #[.int .u64 ((e).key : Int), .int .u64 ((e).val : Int), .int .u64 ((e).hash : Int)] ?_
     rintro w3 ⟨hnew, hb⟩
     obtain ⟨xb, hxb⟩ : ∃ xb, xb = wr.heap.size := ⟨_, rfl⟩
     rw [← hxb] at hnew ⊢
     replace hxb : wr.heap.size ≤ xb := by omega
     clear k0 k1 k2
     replace HT := qB hb HT
     replace HM := qB hb HM
     replace ay := qB hb ay
     replace HO := qB hb HO
     replace HL := qB hb HL
     replace HR := qB hb HR
     replace HF := qB hb HF
     replace gB := qB hb gB
     have Zn := (hb).size
     replace ah := qT ah hb
     have HX := qd (hnew)
     clear hnew hb
     cases hl : aX e fr with
     | true =>
      have fK := qd (jI e fr w3)
      rw [hl] at fK
      unfold aM at fK
      replace dD := qd (show dO fr o (es.take (j + 1)) = o2 from by rw [dD.out]; unfold mg; rw [hl]; simp)
      clear hl
      have xc := HX.out.c3
      have fc := HF.out.c3
      go_wp2_with fail
      refine (fK.out).mono ?_
      rintro x w4 ⟨rfl, hb⟩
      clear xc fc
      replace HT := qB hb HT
      replace HM := qB hb HM
      replace ay := qB hb ay
      replace HO := qB hb HO
      replace HL := qB hb HL
      replace HR := qB hb HR
      replace HF := qB hb HF
      replace gB := qB hb gB
      replace HX := qB hb HX
      have Va := (hb).size
      replace ah := qT ah hb
      clear hb
      go_wp2
      go_roundw
      case rel => exact ⟨j + 1, by omega, by go_num, by rw [dD.out] <;> rfl, by rw [dD.out]; exact HO.out, HT.out, ay.out, HL.out, HR.out, HF.out, ah.out, HM.out, gB.out⟩
      case measure => simp [intOf]; omega
     | false =>
      cases o2 with
      | none =>
       replace HO := qd (show aj w3 ob 38 #[.int .u64 0, .int .u64 0, .int .u64 0] from HO.out)
       have fK := qd (jI e fr w3)
       rw [hl] at fK
       unfold aM at fK
       replace dD := qd (show dO fr o (es.take (j + 1)) = some e from by rw [dD.out]; unfold mg; rw [hl]; rfl)
       clear hl
       have xc := HX.out.c3
       have fc := HF.out.c3
       go_wp2_with fail
       refine (fK.out).mono ?_
       rintro x w4 ⟨rfl, hb⟩
       clear xc fc
       replace HT := qB hb HT
       replace HM := qB hb HM
       replace ay := qB hb ay
       replace HO := qB hb HO
       replace HL := qB hb HL
       replace HR := qB hb HR
       replace HF := qB hb HF
       replace gB := qB hb gB
       replace HX := qB hb HX
       have Va := (hb).size
       replace ah := qT ah hb
       clear hb
       have xc := HX.out.c3
       have oc := HO.out.c3
       have of := HO.out.f3
       go_upto_region 12 with fail
       have acR := qJ HT.out.aQ (qJ HT.out.aR (qJ HM.out.lt (qJ HO.out.lt (qJ HL.out.lt (qJ HR.out.lt (qJ HF.out.lt HX.out.lt))))))
       refine GR HO.out ?_
       rintro w6 ⟨hnew, hm⟩
       simp only [pt] at hnew
       replace HT := qM hm HT
       replace HM := qM hm HM
       replace ay := qM hm ay
       replace HL := qM hm HL
       replace HR := qM hm HR
       replace HF := qM hm HF
       replace gB := qM hm gB
       replace HX := qM hm HX
       have acS := (hm).size
       replace ah := qU ah hm
       replace HO := qd hnew
       clear hnew hm
       go_wp2
       go_roundw
       case rel => exact ⟨j + 1, by omega, by go_num, by rw [dD.out] <;> rfl, by rw [dD.out]; exact HO.out, HT.out, ay.out, HL.out, HR.out, HF.out, ah.out, HM.out, gB.out⟩
       case measure => simp [intOf]; omega
      | some b =>
       cases hlb : aX e b with
       | true =>
        replace HO := qd (show aj w3 ob 38 #[.int .u64 ((b).key : Int), .int .u64 ((b).val : Int), .int .u64 ((b).hash : Int)] from HO.out)
        have fK := qd (jI e fr w3)
        rw [hl] at fK
        unfold aM at fK
        replace dD := qd (show dO fr o (es.take (j + 1)) = some e from by rw [dD.out]; unfold mg; rw [hl]; simp [hlb])
        have vI := qd (fun V : World => jI e b V)
        rw [hlb] at vI
        unfold aM at vI
        clear hlb hl
        have xc := HX.out.c3
        have fc := HF.out.c3
        go_wp2_with fail
        refine (fK.out).mono ?_
        rintro x w4 ⟨rfl, hb⟩
        clear xc fc
        replace HT := qB hb HT
        replace HM := qB hb HM
        replace ay := qB hb ay
        replace HO := qB hb HO
        replace HL := qB hb HL
        replace HR := qB hb HR
        replace HF := qB hb HF
        replace gB := qB hb gB
        replace HX := qB hb HX
        have Va := (hb).size
        replace ah := qT ah hb
        clear hb
        have xc := HX.out.c3
        have oc := HO.out.c3
        go_wp2_with fail
        refine ((vI.out w4)).mono ?_
        rintro x w5 ⟨rfl, hb⟩
        clear xc oc
        replace HT := qB hb HT
        replace HM := qB hb HM
        replace ay := qB hb ay
        replace HO := qB hb HO
        replace HL := qB hb HL
        replace HR := qB hb HR
        replace HF := qB hb HF
        replace gB := qB hb gB
        replace HX := qB hb HX
        have abo := (hb).size
        replace ah := qT ah hb
        clear hb
        have xc := HX.out.c3
        have oc := HO.out.c3
        have of := HO.out.f3
        go_upto_region 12 with fail
        have acT := qJ HT.out.aQ (qJ HT.out.aR (qJ HM.out.lt (qJ HO.out.lt (qJ HL.out.lt (qJ HR.out.lt (qJ HF.out.lt HX.out.lt))))))
        refine GR HO.out ?_
        rintro w6 ⟨hnew, hm⟩
        simp only [pt] at hnew
        replace HT := qM hm HT
        replace HM := qM hm HM
        replace ay := qM hm ay
        replace HL := qM hm HL
        replace HR := qM hm HR
        replace HF := qM hm HF
        replace gB := qM hm gB
        replace HX := qM hm HX
        have acU := (hm).size
        replace ah := qU ah hm
        replace HO := qd hnew
        clear hnew hm
        go_wp2
        go_roundw
        case rel => exact ⟨j + 1, by omega, by go_num, by rw [dD.out] <;> rfl, by rw [dD.out]; exact HO.out, HT.out, ay.out, HL.out, HR.out, HF.out, ah.out, HM.out, gB.out⟩
        case measure => simp [intOf]; omega
       | false =>
        replace HO := qd (show aj w3 ob 38 #[.int .u64 ((b).key : Int), .int .u64 ((b).val : Int), .int .u64 ((b).hash : Int)] from HO.out)
        have fK := qd (jI e fr w3)
        rw [hl] at fK
        unfold aM at fK
        replace dD := qd (show dO fr o (es.take (j + 1)) = some b from by rw [dD.out]; unfold mg; rw [hl]; simp [hlb])
        have vI := qd (fun V : World => jI e b V)
        rw [hlb] at vI
        unfold aM at vI
        clear hlb hl
        have xc := HX.out.c3
        have fc := HF.out.c3
        go_wp2_with fail
        refine (fK.out).mono ?_
        rintro x w4 ⟨rfl, hb⟩
        clear xc fc
        replace HT := qB hb HT
        replace HM := qB hb HM
        replace ay := qB hb ay
        replace HO := qB hb HO
        replace HL := qB hb HL
        replace HR := qB hb HR
        replace HF := qB hb HF
        replace gB := qB hb gB
        replace HX := qB hb HX
        have Va := (hb).size
        replace ah := qT ah hb
        clear hb
        have xc := HX.out.c3
        have oc := HO.out.c3
        go_wp2_with fail
        refine ((vI.out w4)).mono ?_
        rintro x w5 ⟨rfl, hb⟩
        clear xc oc
        replace HT := qB hb HT
        replace HM := qB hb HM
        replace ay := qB hb ay
        replace HO := qB hb HO
        replace HL := qB hb HL
        replace HR := qB hb HR
        replace HF := qB hb HF
        replace gB := qB hb gB
        replace HX := qB hb HX
        have abo := (hb).size
        replace ah := qT ah hb
        clear hb
        go_wp2
        go_roundw
        case rel => exact ⟨j + 1, by omega, by go_num, by rw [dD.out] <;> rfl, by rw [dD.out]; exact HO.out, HT.out, ay.out, HL.out, HR.out, HF.out, ah.out, HM.out, gB.out⟩
        case measure => simp [intOf]; omega
    ·obtain rfl : j = es.length := by omega
     have aaZ : ¬ (es.length : Int) < (es.length : Int) := by omega
     have iQ := qd (show dO fr none (aL (T.gs.take (k + 1))) = dO fr o es from by rw [KM fr T.gs E8, HOo.out, Xi.out, Oe.out])
     rw [List.take_length, ← iQ.out] at hO ⊢
     have KN := qd (And.intro hM (And.intro hO (And.intro hT (And.intro hE (And.intro hL (And.intro hR (And.intro hF hm)))))))
     clear hM hO hT hE hL hR hF hm vH
     go_wp2
     go_roundw
     case rel => exact ⟨k + 1, by omega, by go_num, rfl, KN.out⟩
     case measure => simp [intOf]; omega
  ·obtain rfl : k = n := by omega
   have hlt' : ¬ (k : Int) < (k : Int) := by omega
   have htk : T.gs.take k = T.gs := by rw [HN.out]; exact List.take_length
   rw [htk] at hO ⊢
   clear htk
   obtain ⟨b, hbe⟩ : ∃ b, b = (dO fr none (aL T.gs)).getD ⟨0, 0, 0⟩ := ⟨_, rfl⟩
   obtain ⟨sb, hsb⟩ : ∃ sb, sb = (dO fr none (aL T.gs)).isSome := ⟨_, rfl⟩
   have HM := qd (hM)
   have HO := qd (show aj wr ob _ #[.int .u64 ((b).key : Int), .int .u64 ((b).val : Int), .int .u64 ((b).hash : Int)] from by rw [hbe]; exact hO)
   have HR := qd (hR)
   have ah := qd (hm)
   have rA := qd hbe
   clear hM hO hT hE hL hR hF hm hbe hsb
   have oc := HO.out.c3
   have rc := HR.out.c3
   have rf := HR.out.f3
   go_wp2
   have q1 := qJ HM.out.lt (qJ HO.out.lt HR.out.lt)
   refine GR HR.out ?_
   rintro w9 ⟨hnew, hm⟩
   simp only [pt] at hnew
   replace HM := qM hm HM
   replace HO := qM hm HO
   have z4 := (hm).size
   replace ah := qU ah hm
   replace HR := qd hnew
   clear hnew hm
   have rx := HR.out.c3
   refine bodyPost_ret (v := .tuple #[.agg #[.int .u64 ((b).key : Int), .int .u64 ((b).val : Int), .int .u64 ((b).hash : Int)], .bool (dO fr none (aL T.gs)).isSome]) (by simp [results, Tryz.results151, go_sem, rx.1, rx.2.1, rx.2.2]) rfl ⟨by rw [rA.out], HM.out, ah.out⟩
end
end Go.Proofs.YtbphcldoflekpaaGreatDoor
