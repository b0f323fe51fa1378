/- A core's Least, and its writes told of lists: what is put, what is deleted. No statement of the claim. -/
import Derived.Test.YtcgjgfgkdoohlaaGreatDoorCoCP
import Derived.Test.YtcgjgfgkdoohlaaGreatDoorCoCU
import Derived.Test.YtcgjgfgkdoohlaaGreatDoorRefD
import Derived.Test.YtcgjgfgkdoohlaaGreatDoorErrs
import Derived.Test.YtcgjgfgkdoohlaaGreatDoorLaneP
import Derived.Test.YtcgjgfgkdoohlaaGreatDoorCoEnv
namespace Go.Proofs.YtcgjgfgkdoohlaaGreatDoor
section
open Go.RowKit AmC
variable {es l : List Ent} {e : Ent} {key : Nat}
def highs (a : Pool) : List Nat := a.Ns.map fun N => highOf N.pfx N.dpt
theorem top_range {h d p : Nat} : topOf h d = p ↔ lowOf p d ≤ h ∧ h ≤ highOf p d := by
 unfold topOf lowOf highOf
 have := pos2 (64 - d)
 rw [div_range]
 omega
theorem isLeast_sub {f : Ent} {l' : List Ent} {o : Option Ent} (h : IsLeast f l o) (h1 : ∀ e ∈ l', lessE e f = false → e ∈ l) (h2 : ∀ e ∈ l, e ∈ l') : IsLeast f l' o := by
 cases o with
 | none =>
  intro e he
  cases hl : lessE e f with
  | true => rfl
  | false => exact absurd (h e (h1 e he hl)) (by rw [hl]; simp)
 | some m => exact ⟨h2 m h.1, h.2.1, fun e he hl => h.2.2 e (h1 e he hl) hl⟩
theorem less_hash {hash : Nat} (h : lessE e ⟨key, 0, hash⟩ = false) : hash ≤ e.hash := by
 simp [lessE] at h; omega
def upto (es : List Ent) (hi : Nat) : List Ent := es.filter fun e => decide (e.hash ≤ hi)
theorem mem_upto {hi : Nat} : e ∈ upto es hi ↔ e ∈ es ∧ e.hash ≤ hi := by unfold upto; simp
def rest (es : List Ent) (key : Nat) : List Ent := es.filter fun x => x.key != key
theorem mem_rest : e ∈ rest es key ↔ e ∈ es ∧ e.key ≠ key := by unfold rest; simp
theorem rest_none (h : look es key = none) : rest es key = es := by
 unfold look at h
 rw [List.find?_eq_none] at h
 exact List.filter_eq_self.2 fun x hx => by simpa using h x hx
theorem rest_perm (key : Nat) (h : es.Perm l) : (rest es key).Perm (rest l key) := h.filter _
theorem rest_cons {r : List Ent} (hn : (es.map Ent.key).Nodup) (h : es.Perm (e :: r)) : (rest es e.key).Perm r := by
 have h1 := rest_perm e.key h
 have h2 := (h.map Ent.key).nodup_iff.1 hn
 rw [List.map_cons, List.nodup_cons] at h2
 have h3 : rest (e :: r) e.key = r := by
  unfold rest
  rw [List.filter_cons, if_neg (by simp)]
  exact List.filter_eq_self.2 fun x hx => by
   have : x.key ≠ e.key := fun hh => h2.1 (by rw [← hh]; exact List.mem_map_of_mem hx)
   simpa using this
 rw [h3] at h1
 exact h1
def fullB (M : Nat) (es : List Ent) (key : Nat) : Bool := (look es key).isNone && decide (M ≤ es.length)
def putC (M : Nat) (es : List Ent) (key : Nat) : Nat := if fullB M es key then 2 else 0
def putL (M : Nat) (es : List Ent) (e : Ent) : List Ent := if fullB M es e.key then es else rest es e.key ++ [e]
def getV (es : List Ent) (key : Nat) : Value := .tuple #[.int .u64 (((look es key).getD ⟨0, 0, 0⟩).val : Int), .bool (look es key).isSome]
theorem fullB_perm {M : Nat} (h : es.Perm l) (hn : (es.map Ent.key).Nodup) (key : Nat) : fullB M es key = fullB M l key := by
 unfold fullB
 rw [look_perm h hn, h.length_eq]
theorem putC_perm {M : Nat} (h : es.Perm l) (hn : (es.map Ent.key).Nodup) (key : Nat) : putC M es key = putC M l key := by unfold putC; rw [fullB_perm h hn]
theorem putL_perm {M : Nat} (h : es.Perm l) (hn : (es.map Ent.key).Nodup) (e : Ent) : (putL M es e).Perm (putL M l e) := by
 unfold putL
 rw [fullB_perm h hn]
 split
 ·exact h
 ·exact (rest_perm _ h).append_right _
theorem getV_perm (h : es.Perm l) (hn : (es.map Ent.key).Nodup) (key : Nat) : getV es key = getV l key := by unfold getV; rw [look_perm h hn]
section
variable {W0 : World} {E : Nat → Addr} {H : Nat → Nat} {K M mb : Nat} {G : List Nat} {w w' : World} {a : Pool} {ids : List Nat}
theorem at_Least (h : CoreAt W0 E H K M mb G w a ids) (key hash : Nat) (h64 : hash < 18446744073709551616) : Calls Tryz.prog 50 #[coreP mb, .int .u64 (hash : Int), .int .u64 (key : Int)] w fun y w' =>
  ∃ (o : Option Ent) (hi : Nat), y = .returned (.tuple #[entV (o.getD ⟨0, 0, 0⟩), .bool o.isSome, .int .u64 (hi : Int)]) ∧ hash ≤ hi ∧ hi < 18446744073709551616 ∧ hi ∈ highs a ∧ IsLeast ⟨key, 0, hash⟩ (upto a.ents hi) o ∧ CoreTo W0 E H K M mb G w w' a ids := by
 obtain ⟨f1, f2, f3, f4, f5, f6, _⟩ := h.facts
 obtain ⟨C, F, len, b, x, h1, h2, h3, rfl, hC, hi, hl, hm⟩ := h
 rw [← h1]
 refine (core_Least hC hi key hash h64).mono ?_
 rintro y w' ⟨v, rfl, id, N, o, x', hN, hid, hIs, rfl, hc, _⟩
 replace hN : a.Ns[id]? = some N := hN
 replace hid : id = a.l.getD (topOf hash a.d) 0 := hid
 obtain ⟨N', hN', htop⟩ := f1.dir.at_ h64 f2
 rw [← hid, hN] at hN'
 cases hN'
 have hok := f6 id N hN
 obtain ⟨r1, r2⟩ := top_range.1 htop
 have hlow := lowOf_lt (d := N.dpt) (p := N.pfx) (by have := hok.deep; omega) hok.pfx
 have hp := pos2 (64 - N.dpt)
 refine ⟨o, highOf N.pfx N.dpt, rfl, r2, by unfold lowOf at hlow; unfold highOf; omega, List.mem_map.2 ⟨N, List.mem_of_getElem? hN, rfl⟩, isLeast_sub hIs (fun e he hle => ?_) (fun e he => ?_), h1 ▸ CoreTo.of (A' := C.A) (v' := C.v) h1 h2 h3 hc hi hl hm⟩
 ·obtain ⟨g1, g2⟩ := mem_upto.1 he
  obtain ⟨j, M', k1, k2⟩ := mem_pool.1 g1
  obtain ⟨k3, k4⟩ := (f6 j M' k1).hash e k2
  have e1 := f1.dir.is_ k3.h64 f2 k1 k4
  have e2 := f1.dir.is_ k3.h64 f2 hN (top_range.2 ⟨by have := less_hash hle; omega, g2⟩)
  rw [e1] at e2
  subst e2
  rw [hN] at k1; cases k1
  exact k2
 ·obtain ⟨k3, k4⟩ := hok.hash e he
  exact mem_upto.2 ⟨mem_pool.2 ⟨id, N, hN, he⟩, (top_range.1 k4).2⟩
theorem at_put (h : CoreAt W0 E H K M mb G w a ids) (e : Ent) (he : EntOk H e) : Calls Tryz.prog 12 #[coreP mb, .int .u64 (e.key : Int), .int .u64 (e.val : Int), .int .u64 (e.hash : Int)] w fun y w' =>
  y = .returned (errV E (putC M a.ents e.key)) ∧ ∃ a' ids', CoreTo W0 E H K M mb G w w' a' ids' ∧ a'.ents.Perm (putL M a.ents e) := by
 obtain ⟨f1, f2, f3, f4, f5, f6, _, _, _, f10, _⟩ := h.facts
 refine (at_Put h e he).mono ?_
 rintro y w' (⟨h1, h2, rfl, hto⟩ | ⟨a', ids', h1, h2, rfl, hw, hto⟩ | ⟨a', ids', e0, h1, rfl, hw, hto⟩)
 ·have hf : fullB M a.ents e.key = true := by simp [fullB, h1, h2]
  unfold putC putL
  rw [hf]
  exact ⟨rfl, a, ids, hto, .refl _⟩
 ·have hf : fullB M a.ents e.key = false := by simp [fullB, h1]; omega
  unfold putC putL
  rw [hf, rest_none h1]
  obtain ⟨_, _, _, _, _, _, ⟨r, hr1, hr2⟩, _⟩ := hw
  refine ⟨rfl, a', ids', hto, ?_⟩
  have h3 : (e :: r).Perm (e :: a.ents) := .cons e hr1.symm
  exact hr2.trans (h3.trans (List.perm_append_singleton e a.ents).symm)
 ·have hf : fullB M a.ents e.key = false := by simp [fullB, h1]
  unfold putC putL
  rw [hf]
  obtain ⟨_, _, _, _, _, _, ⟨r, hr1, hr2⟩, _⟩ := hw
  obtain ⟨m1, m2⟩ := look_mem h1
  obtain ⟨j, N, k1, k2⟩ := mem_pool.1 m1
  obtain ⟨k3, _⟩ := (f6 j N k1).hash e0 k2
  have hee : ({ e0 with val := e.val } : Ent) = e := by
   have h4 : e0.hash = e.hash := by rw [k3.hash, m2, he.hash]
   obtain ⟨a1, a2, a3⟩ := e
   simp only at m2 h4
   simp [m2, h4]
  rw [hee] at hr2
  have h3 := rest_cons f10 hr1
  rw [m2] at h3
  refine ⟨rfl, a', ids', hto, ?_⟩
  exact hr2.trans ((List.Perm.cons e h3.symm).trans (List.perm_append_singleton e _).symm)
theorem at_del (h : CoreAt W0 E H K M mb G w a ids) (key : Nat) (h64 : H key < 18446744073709551616) : Calls Tryz.prog 11 #[coreP mb, .int .u64 (key : Int), .int .u64 (H key : Int)] w fun y w' =>
  y = .returned (getV a.ents key) ∧ ∃ a' ids', CoreTo W0 E H K M mb G w w' a' ids' ∧ a'.ents.Perm (rest a.ents key) := by
 obtain ⟨_, _, _, _, _, _, _, _, _, f10, _⟩ := h.facts
 refine (at_Delete h key h64).mono ?_
 rintro y w' ⟨a', ids', rfl, hw, hto⟩
 obtain ⟨_, _, _, _, _, _, ⟨r, hr1, hr2⟩, _⟩ := hw
 refine ⟨rfl, a', ids', hto, ?_⟩
 cases hl : look a.ents key with
 | none =>
  rw [hl] at hr1
  rw [rest_none hl]
  exact hr2.trans hr1.symm
 | some e0 =>
  rw [hl] at hr1
  have h3 := rest_cons f10 hr1
  rw [(look_mem hl).2] at h3
  exact hr2.trans h3.symm
theorem at_get (h : CoreAt W0 E H K M mb G w a ids) (key : Nat) (h64 : H key < 18446744073709551616) : Calls Tryz.prog 24 #[coreP mb, .int .u64 (key : Int), .int .u64 (H key : Int)] w fun y w' =>
  y = .returned (getV a.ents key) ∧ CoreTo W0 E H K M mb G w w' a ids := at_Get h key h64
end
end
section
open Go.RowKit AmC
def RefIn (w : World) (base mb M : Nat) (es : List Ent) (R : List Nat) : Prop := ∃ A c, Blk w mb 57 #[.slice A es.length c, .int .i64 (M : Int)] ∧ w.ownsRow base 37 3 (.slice A es.length c) es.length (es.flatMap entCells) ∧ (∀ g, (Value.slice A es.length c).ownBlock = some g → g ≠ mb) ∧ base ≤ mb ∧ R = mb :: (Value.slice A es.length c).ownBlock.toList
def RefOut (w : World) (base mb M : Nat) (es : List Ent) (R : List Nat) (w' : World) : Prop := ∃ R', RefIn w' base mb M es R' ∧ (∀ q ∈ R', q ∈ R ∨ w.heap.size ≤ q) ∧ Mod R w w'
theorem own_farN {w w' : World} {S : List Nat} {base n size : Nat} {e : TypeId} {v : Value} {xs : List Value} (h : w.ownsRow base e size v n xs) (hm : Mod S w w') (hS : ∀ k, v.ownBlock = some k → k ∉ S) : w'.ownsRow base e size v n xs := by
 refine ⟨h.1, ?_⟩
 rcases h.2 with hn | ⟨g, cap, cur, hv, hb, hg, rest⟩
 ·exact .inl hn
 ·exact .inr ⟨g, cap, cur, hv, hb, (hm.block g (Array.getElem?_eq_some_iff.1 hg).1 (hS g (by rw [hv]; rfl))).trans hg, rest⟩
section
variable {w w' : World} {base mb M : Nat} {es : List Ent} {R : List Nat}
theorem RefIn.lts (h : RefIn w base mb M es R) : ∀ q ∈ R, q < w.heap.size ∧ base ≤ q := by
 obtain ⟨A, c, h1, h2, _, h4, rfl⟩ := h
 intro q hq
 simp only [List.mem_cons, Option.mem_toList] at hq
 rcases hq with rfl | hq
 ·exact ⟨h1.lt, h4⟩
 ·have := h2.lt q hq
  exact ⟨this.2, this.1⟩
theorem RefIn.mod {S : List Nat} (h : RefIn w base mb M es R) (hm : Mod S w w') (hS : ∀ q ∈ R, q ∉ S) : RefIn w' base mb M es R := by
 obtain ⟨A, c, h1, h2, h3, h4, rfl⟩ := h
 exact ⟨A, c, h1.mod hm (hS _ (by simp)), own_farN h2 hm (fun k hk => hS k (by simp [hk])), h3, h4, rfl⟩
theorem RefIn.below (h : RefIn w base mb M es R) (hb : Below w.heap.size w w') : RefIn w' base mb M es R := h.mod (Mod.of_below hb []) (by simp)
theorem RefIn.same (h : RefIn w base mb M es R) (hb : Below w.heap.size w w') : RefOut w base mb M es R w' := ⟨R, h.below hb, fun _ hq => .inl hq, Mod.of_below hb R⟩
theorem RefIn.to (h : RefIn w base mb M es R) {es' : List Ent} (ht : RefTo w mb M es' w') (hbw : base ≤ w.heap.size) : RefOut w base mb M es' R w' := by
 obtain ⟨A, c, h1, _, _, h4, rfl⟩ := h
 have hml := h1.lt
 obtain ⟨⟨A', c', k1, k2⟩, k3⟩ := ht
 refine ⟨_, ⟨A', c', k1, own_base k2 hbw, fun g hg => ?_, h4, rfl⟩, fun q hq => ?_, k3.more (fun k hk => by simp at hk; simp [hk])⟩
 ·have := (k2.lt g hg).1; omega
 ·simp only [List.mem_cons, Option.mem_toList] at hq
  rcases hq with rfl | hq
  ·left; simp
  ·right; exact (k2.lt q hq).1
theorem RefIn.reads (h : RefIn w base mb M es R) : ∃ A c, Blk w mb 57 #[.slice A es.length c, .int .i64 (M : Int)] ∧ Reads w w.heap.size 3 A es.length (es.flatMap entCells) ∧ w.ownsRow base 37 3 (.slice A es.length c) es.length (es.flatMap entCells) := by
 obtain ⟨A, c, h1, h2, _⟩ := h
 exact ⟨A, c, h1, Reads.of_own h2, h2⟩
theorem without_rest (es : List Ent) (key : Nat) : without es key es.length = rest es key := by unfold without rest; rw [List.take_length]
theorem look_is {es : List Ent} {key : Nat} : (∃ e' ∈ es, e'.key = key) ↔ look es key ≠ none := by
 unfold look
 rw [Ne, List.find?_eq_none]
 simp
theorem ref_put (h : RefIn w base mb M es R) (hnd : (es.map Ent.key).Nodup) (h9 : es.length ≤ 1000) (e : Ent) (hbw : base ≤ w.heap.size) : Calls Tryz.prog 48 #[.pointer (some ⟨mb, 0, none⟩), entV e] w fun y w' =>
  y = .returned (.int .i64 ((putC M es e.key : Nat) : Int)) ∧ RefOut w base mb M (putL M es e) R w' := by
 obtain ⟨A, c, h1, h2, h3⟩ := h.reads
 unfold putC putL
 cases hf : fullB M es e.key with
 | true =>
  simp only [fullB, Bool.and_eq_true, Option.isNone_iff_eq_none, decide_eq_true_eq] at hf
  refine (ref_Put_full mb c M A es e w base h1 h3 h9 (fun e' he' hk => look_is.1 ⟨e', he', hk⟩ hf.1) hf.2).mono ?_
  rintro y w' ⟨rfl, hb⟩
  exact ⟨rfl, h.same hb⟩
 | false =>
  refine (ref_Put_ok mb c M A es e w base h1 h3 h9 hnd ?_).mono ?_
  ·simp [fullB] at hf
   cases hl : look es e.key with
   | none => exact .inr (hf hl)
   | some e0 => exact .inl (look_is.2 (by rw [hl]; simp))
  ·rintro y w' ⟨rfl, ht⟩
   rw [without_rest] at ht
   exact ⟨rfl, h.to ht hbw⟩
theorem ref_del (h : RefIn w base mb M es R) (hnd : (es.map Ent.key).Nodup) (h9 : es.length ≤ 1000) (key : Nat) (hbw : base ≤ w.heap.size) : Calls Tryz.prog 49 #[.pointer (some ⟨mb, 0, none⟩), .int .u64 (key : Int)] w fun y w' =>
  y = .returned (getV es key) ∧ RefOut w base mb M (rest es key) R w' := by
 obtain ⟨A, c, h1, h2, h3⟩ := h.reads
 by_cases hx : ∃ e ∈ es, e.key = key
 ·obtain ⟨e0, h0, hk0⟩ := hx
  refine (ref_Delete_some mb c M A es key w base h1 h3 h9 hnd e0 h0 hk0).mono ?_
  rintro y w' ⟨rfl, ht⟩
  rw [without_rest] at ht
  exact ⟨rfl, h.to ht hbw⟩
 ·have hno : ∀ e ∈ es, e.key ≠ key := fun e he hk => hx ⟨e, he, hk⟩
  refine (ref_Delete_none mb c M A es key w base h1 h3 h9 hno).mono ?_
  rintro y w' ⟨rfl, hb⟩
  rw [rest_none (look_none hno)]
  exact ⟨rfl, h.same hb⟩
theorem ref_get (h : RefIn w base mb M es R) (hnd : (es.map Ent.key).Nodup) (h9 : es.length ≤ 1000) (key : Nat) : Calls Tryz.prog 25 #[.pointer (some ⟨mb, 0, none⟩), .int .u64 (key : Int)] w fun y w' =>
  y = .returned (getV es key) ∧ Below w.heap.size w w' := by
 obtain ⟨A, c, h1, h2, h3, h4, _⟩ := h
 exact ref_Get ⟨A, c, h1, h2, h3, h4⟩ hnd h9 key
theorem ref_least (h : RefIn w base mb M es R) (h9 : es.length ≤ 1000) (key hash : Nat) : Calls Tryz.prog 51 #[.pointer (some ⟨mb, 0, none⟩), .int .u64 (hash : Int), .int .u64 (key : Int)] w fun y w' =>
  ∃ o, y = .returned (.tuple #[entV (o.getD ⟨0, 0, 0⟩), .bool o.isSome]) ∧ IsLeast ⟨key, 0, hash⟩ es o ∧ Below w.heap.size w w' := by
 obtain ⟨A, c, h1, h2, _⟩ := h.reads
 exact ref_Least mb c M A es key hash w h1 h2 h9
end
def cutAt (y : Option Ent) (hi : Nat) : Option Ent := match y with | none => none | some m => if m.hash ≤ hi then some m else none
theorem least_upto {es l : List Ent} {f : Ent} {hi : Nat} {o y : Option Ent} (hp : es.Perm l) (hn : (es.map Ent.key).Nodup) (hy : IsLeast f es y) (ho : IsLeast f (upto l hi) o) : cutAt y hi = o := by
 unfold cutAt
 have hmem : ∀ e, e ∈ upto l hi ↔ e ∈ es ∧ e.hash ≤ hi := fun e => by rw [mem_upto, hp.mem_iff]
 have huniq : ∀ x z : Ent, x ∈ es → z ∈ es → lessE x z = false → lessE z x = false → x = z := fun x z hx hz h1 h2 => by
  have hk : x.key = z.key := by simp [lessE] at h1 h2; omega
  have e1 := look_some hn hx
  have e2 := look_some hn hz
  rw [hk, e2] at e1
  exact (Option.some.inj e1).symm
 cases y with
 | none =>
  cases o with
  | none => rfl
  | some m => exact absurd (hy m ((hmem m).1 ho.1).1) (by rw [ho.2.1]; simp)
 | some m =>
  by_cases hm : m.hash ≤ hi
  ·simp only [if_pos hm]
   cases o with
   | none => exact absurd (ho m ((hmem m).2 ⟨hy.1, hm⟩)) (by rw [hy.2.1]; simp)
   | some z =>
    obtain ⟨z1, z2⟩ := (hmem z).1 ho.1
    rw [huniq m z hy.1 z1 (ho.2.2 m ((hmem m).2 ⟨hy.1, hm⟩) hy.2.1) (hy.2.2 z z1 ho.2.1)]
  ·simp only [if_neg hm]
   cases o with
   | none => rfl
   | some z =>
    obtain ⟨z1, z2⟩ := (hmem z).1 ho.1
    have := hy.2.2 z z1 ho.2.1
    simp [lessE] at this
    omega
end
section
set_option maxHeartbeats 400000
open Go.RowKit
variable {E : Nat → Addr} {w : World}
theorem allCells_get (E : Nat → Addr) (k : Nat) (h : k < 16) : (allCells E)[k]? = some (.iface 260 (.pointer (some (E (k + 1))))) := by
 unfold allCells
 rw [List.getElem?_map, List.getElem?_range h]
 rfl
theorem num_err (h : ErrsIn E w) (j : Nat) (h1 : 1 ≤ j) (h2 : j ≤ 16) :
  Calls Tryz.prog 22 #[.iface 260 (.pointer (some (E j)))] w fun e w' => e = .returned (.int .i64 j) ∧ Below w.heap.size w w' := by
 have hS := h.alloc (.cells (allCells E).toArray 30)
 have hcells := Blk.new w 30 (allCells E).toArray
 have hB : Below w.heap.size w (w.alloc (.cells (allCells E).toArray 30)) := (Below.refl _ _).alloc (Nat.le_refl _) _
 go_in
 go_wp2_with (go_at_call 47; refine (num_all h).mono ?_; rintro e w1 ⟨rfl, rfl⟩)
 obtain ⟨W, hW⟩ : ∃ W, W = w.alloc (.cells (allCells E).toArray 30) := ⟨_, rfl⟩
 rw [← hW] at hS hcells hB ⊢
 clear hW
 go_loop [3, 4, 9] (fun _ _ i => ∃ k : Nat, k < j ∧ i = .int .i64 k) (fun _ _ i => 16 - (intOf i).toNat)
 case atStart => exact ⟨0, by omega, rfl⟩
 case round =>
  obtain ⟨k, hk, rfl⟩ := hrel
  have hc : W.cell? ⟨w.heap.size, k, none⟩ = some (.iface 260 (.pointer (some (E (k + 1))))) := by rw [hcells.cell k, List.getElem?_toArray]; exact allCells_get E k (by omega)
  have hi := is_errs hS j (k + 1) h1 h2 (by omega) (by omega)
  by_cases hjk : j = k + 1
  ·have hb : (j == k + 1) = true := by simp [hjk]
   rw [hb] at hi
   have Hjk := qd hjk
   clear hjk hb
   go_wp2_with (go_at_call 38; refine hi.mono ?_; rintro e w1 ⟨rfl, rfl⟩)
   go_ret
   exact ⟨ret_int (by have := Hjk.out; omega), hB⟩
  ·have hb : (j == k + 1) = false := by simp [hjk]
   rw [hb] at hi
   clear hb
   go_wp2_with (go_at_call 38; refine hi.mono ?_; rintro e w1 ⟨rfl, rfl⟩)
   go_round
   case rel => exact ⟨k + 1, by omega, by go_num⟩
   case measure => simp [intOf]; omega
theorem num_any (h : ErrsIn E w) (j : Nat) (h2 : j ≤ 16) :
  Calls Tryz.prog 22 #[errV E j] w fun e w' => e = .returned (.int .i64 j) ∧ Below w.heap.size w w' := by
 by_cases h0 : j = 0
 ·subst h0
  exact (num_nil w).mono fun e w' ⟨he, hw⟩ => ⟨he, hw ▸ Below.refl _ _⟩
 ·rw [errV_pos E (by omega)]
  exact num_err h j (by omega) h2
end
section
set_option maxRecDepth 100000
set_option maxHeartbeats 4000000
open Go.RowKit AmC
structure LAct where
 kind : Int
 key : Int
 n : Int
def LAct.cells (a : LAct) : List Value := [.int .i64 a.kind, .int .i64 a.key, .int .i64 a.n]
def actV (a : LAct) : Value := .agg #[.int .i64 a.kind, .int .i64 a.key, .int .i64 a.n]
def iOf (key : Int) (n : Nat) : Nat := (key % 18446744073709551616).toNat % n
def entOf (l : List Nat) (a : LAct) : Ent := ⟨iOf a.key l.length, (a.n % 18446744073709551616).toNat, l.getD (iOf a.key l.length) 0⟩
def numsV (l : List Nat) : List Value := l.map fun x : Nat => .int .u64 (x : Int)
theorem law_Long (A B : Option Addr) (n c m d : Nat) (w : World) : Calls Tryz.prog 8 #[.slice A n c, .slice B m d] w fun e w' => e = .returned (.bool (decide (n < 1) || (decide (220 < n) || decide (700 < m)))) ∧ w = w' := by
 by_cases h1 : n < 1
 ·have h1' : (n : Int) < 1 := by omega
  go_in
  go_wp2
  go_ret
  simp [h1]
 ·have h1' : ¬ (n : Int) < 1 := by omega
  by_cases h2 : 220 < n
  ·have h2' : (220 : Int) < (n : Int) := by omega
   go_in
   go_wp2
   go_ret
   simp [h1, h2]
  ·have h2' : ¬ (220 : Int) < (n : Int) := by omega
   by_cases h3 : 700 < m
   ·have h3' : (700 : Int) < (m : Int) := by omega
    go_in
    go_wp2
    go_ret
    simp [h1, h2, h3]
   ·have h3' : ¬ (700 : Int) < (m : Int) := by omega
    go_in
    go_wp2
    go_ret
    simp [h1, h2, h3]
theorem law_Entry (A : Option Addr) (n c : Nat) (l : List Nat) (a : LAct) (hn : 1 ≤ n ∧ n ≤ 220) (hl : l.length = n) (w : World) (hR : Reads w w.heap.size 1 A n (numsV l)) :
  Calls Tryz.prog 10 #[.slice A n c, actV a] w fun e w' => e = .returned (entV (entOf l a)) ∧ Below w.heap.size w w' := by
 obtain ⟨g, off, rfl, hgl, hcell⟩ := hR.2 (by omega)
 obtain ⟨i, hi⟩ : ∃ i, i = iOf a.key n := ⟨_, rfl⟩
 have hin : i < n := by rw [hi]; exact Nat.mod_lt _ (by omega)
 obtain ⟨x, hx⟩ : ∃ x, x = l.getD i 0 := ⟨_, rfl⟩
 have hc : w.cell? ⟨g, off + i, none⟩ = some (.int .u64 (x : Int)) := hcell i _ (by
  unfold numsV
  rw [List.getElem?_map, List.getElem?_eq_getElem (by omega), hx, List.getD_eq_getElem?_getD, List.getElem?_eq_getElem (by omega)]; rfl)
 unfold actV
 have hB1 := (Blk.new w 34 #[.int .i64 a.kind, .int .i64 a.key, .int .i64 a.n]).alloc (.cells #[.int .u64 0, .int .u64 0, .int .u64 0] 37)
 have hB2 := Blk.new (w.alloc (.cells #[.int .i64 a.kind, .int .i64 a.key, .int .i64 a.n] 34)) 37 #[.int .u64 0, .int .u64 0, .int .u64 0]
 have hb := ((Below.refl w.heap.size w).alloc (Nat.le_refl _) (.cells #[.int .i64 a.kind, .int .i64 a.key, .int .i64 a.n] 34)).alloc (by simp) (.cells #[.int .u64 0, .int .u64 0, .int .u64 0] 37)
 simp only [World.size_alloc] at hB2
 go_in
 go_upto_region 1 with fail
 refine nameW (F := fun v => Blk v w.heap.size 34 #[.int .i64 a.kind, .int .i64 a.key, .int .i64 a.n] ∧ Blk v (w.heap.size + 1) 37 #[.int .u64 0, .int .u64 0, .int .u64 0] ∧ Below w.heap.size w v) ⟨hB1, hB2, hb⟩ ?_
 clear hB1 hB2 hb
 rintro w1 ⟨hB1, hB2, hb⟩
 have a0 := hB1.cell 0
 have a1 := hB1.cell 1
 have a2 := hB1.cell 2
 have b0 := hB2.cell 0
 have b1 := hB2.cell 1
 have b2 := hB2.cell 2
 simp only [gl] at a0 a1 a2 b0 b1 b2
 obtain ⟨f0, f1, f2⟩ := hB2.f3
 have hc1 : w1.cell? ⟨g, off + i, none⟩ = some (.int .u64 (x : Int)) := (World.cell?_of_block (hb.block g hgl)).trans hc
 have HB2 := qd hB2
 have HB := qd hb
 have HI := qd hi
 have HX := qd hx
 have hn1 : (n : Int) ≤ 220 := by omega
 have hn0 : (1 : Int) ≤ (n : Int) := by omega
 have hnz : ¬ (n : Int) = 0 := by omega
 clear hB1 hB2 hb hi hx hR hc hcell
 have hwk : IntKind.u64.wrap a.key = a.key % 18446744073709551616 := by first | rfl | (simp [IntKind.wrap])
 have hq1 : (IntKind.u64.wrap a.key).tmod (n : Int) = (i : Int) := by
  rw [hwk, HI.out, Int.tmod_eq_emod_of_nonneg (by omega)]
  unfold iOf
  rw [Int.natCast_emod, Int.toNat_of_nonneg (by omega)]
 have hq2 : wrap64 (i : Int) = (i : Int) := by unfold wrap64; omega
 have hi0 : (0 : Int) ≤ (i : Int) := by omega
 have hin' : (i : Int) < (n : Int) := by omega
 have hwn : IntKind.u64.wrap a.n = (((a.n % 18446744073709551616).toNat : Nat) : Int) := by
  have : IntKind.u64.wrap a.n = a.n % 18446744073709551616 := by first | rfl | (simp [IntKind.wrap])
  rw [this]; omega
 obtain ⟨q, hq⟩ : ∃ q : Nat, q = (a.n % 18446744073709551616).toNat := ⟨_, rfl⟩
 rw [← hq] at hwn
 have HQ := qd hq
 clear hwk hq
 go_upto_region 2 with fail
 go_region
 have hB3 := (((HB2.out.set_ 0 (.int .u64 (i : Int))).set_ 1 (.int .u64 (q : Int))).set_ 2 (.int .u64 (x : Int))).drew
 simp only [pt] at hB3
 have hbf := (((HB.out.setCell (p := ⟨w.heap.size + 1, 0, none⟩) (Nat.le_succ _) (.int .u64 (i : Int))).setCell (p := ⟨w.heap.size + 1, 1, none⟩) (Nat.le_succ _) (.int .u64 (q : Int))).setCell (p := ⟨w.heap.size + 1, 2, none⟩) (Nat.le_succ _) (.int .u64 (x : Int))).drew
 refine nameW (F := fun v => Blk v (w.heap.size + 1) 37 #[.int .u64 (i : Int), .int .u64 (q : Int), .int .u64 (x : Int)] ∧ Below w.heap.size w v) ⟨hB3, hbf⟩ ?_
 clear hB3 hbf
 rintro w3 ⟨hB3, hbf⟩
 obtain ⟨e0, e1, e2⟩ := hB3.c3
 go_wp2
 refine bodyPost_ret (v := .agg #[.int .u64 (i : Int), .int .u64 (q : Int), .int .u64 (x : Int)]) (by simp [results, Tryz.results10, go_sem, e0, e1, e2]) rfl ⟨?_, hbf⟩
 unfold entV entOf
 rw [hl, ← HI.out, ← HX.out, ← HQ.out]
end
end Go.Proofs.YtcgjgfgkdoohlaaGreatDoor
