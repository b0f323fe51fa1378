/- amblerlaw21.CoreGroups: its walk: whatever the configuration, the hashes and the acts, true. -/
import Derived.Test.YtbphcldoflekpaaGreatDoorCoCW
import Derived.Test.YtbphcldoflekpaaGreatDoorLaneP
import Derived.Test.YtbphcldoflekpaaGreatDoorLaw25a
import Derived.Deep.Cut
import Derived.Deep.CutRange
import Derived.Test.YtbphcldoflekpaaGreatDoorRmG
import Derived.Test.YtbphcldoflekpaaGreatDoorRmI
import Derived.Maps.RangeWalk
namespace Go.Proofs.YtbphcldoflekpaaGreatDoor
set_option maxRecDepth 100000
set_option maxHeartbeats 4000000
open Go.RowKit dA Go.MapKept
open Go.ChangeMaps (setBlock heap_setBlock_same heap_setBlock_other)
section
variable {W0 w : World} {K M j mb : Nat} {G ids l : List Nat} {E : Nat → Addr} {H : Nat → Nat}
theorem Ji {base m : Nat} {B : Option Addr} {acts : List dV} (hR : Reads w base 3 B m (acts.flatMap dV.cells)) (hm : acts.length = m) {a : dV} (hj : acts[j]? = some a) : ∃ g off, B = some ⟨g, off, none⟩ ∧ g < base ∧ w.cell? ⟨g, off + j * 3, none⟩ = some (.int .i64 a.kind) ∧ w.cell? ⟨g, off + j * 3 + 1, none⟩ = some (.int .i64 a.key) ∧ w.cell? ⟨g, off + j * 3 + 2, none⟩ = some (.int .i64 a.n) := by
 have hjl := bA hj
 obtain ⟨g, off, h1, h2, h3⟩ := hR.2 (by omega)
 have hat : ∀ q u, a.cells[q]? = some u → (acts.flatMap dV.cells)[j * 3 + q]? = some u := fun q u hu => by
  have hq : q < 3 := by have := bA hu; simpa [dV.cells] using this
  obtain ⟨e1, _⟩ := uY hj
  have e2 : acts.flatMap dV.cells = (acts.take j).flatMap dV.cells ++ (a.cells ++ (acts.drop (j + 1)).flatMap dV.cells) := by
   have : acts.flatMap dV.cells = (acts.take j ++ a :: acts.drop (j + 1)).flatMap dV.cells := by rw [← e1]
   rw [this]; simp
  have e3 : ((acts.take j).flatMap dV.cells).length = j * 3 := by
   have : ∀ l : List dV, (l.flatMap dV.cells).length = l.length * 3 := fun l => by
    induction l with
    | nil => rfl
    | cons x l ih => simp only [List.flatMap_cons, List.length_append, List.length_cons, ih]; simp [dV.cells]; omega
   rw [this, List.length_take]; omega
  rw [e2, List.getElem?_append_right (by omega), e3, Nat.add_sub_cancel_left, List.getElem?_append_left (by simpa [dV.cells] using hq)]
  exact hu
 exact ⟨g, off, h1, h2, h3 _ _ (hat 0 _ rfl), by rw [Nat.add_assoc]; exact h3 _ _ (hat 1 _ rfl), by rw [Nat.add_assoc]; exact h3 _ _ (hat 2 _ rfl)⟩
def lY (l : List Nat) (k : Nat) : Nat := l.getD k 0
theorem qp (h : ∀ x ∈ l, x < 18446744073709551616) (k : Nat) : lY l k < 18446744073709551616 := by
 unfold lY
 rw [List.getD_eq_getElem?_getD]
 cases hk : l[k]? with
 | none => decide
 | some x => exact h x (List.mem_of_getElem? hk)
theorem MJ (h : ∀ x ∈ l, x < 18446744073709551616) (hn : 1 ≤ l.length ∧ l.length ≤ 220) (a : dV) : j5 (lY l) (qC l a) := by
 refine ⟨rfl, qp h _, ?_, ?_⟩
 ·have : C8 a.key l.length < l.length := Nat.mod_lt _ (by omega)
  show C8 a.key l.length < _
  omega
 ·show (a.n % 18446744073709551616).toNat < _
  omega
theorem YX {k m i : Int} (h : nk k m i = true) : ∃ K M I : Nat, (1 ≤ K ∧ K ≤ 64) ∧ (1 ≤ M ∧ M ≤ 192) ∧ k = (K : Int) ∧ m = (M : Int) ∧ i = (I : Int) := by
 unfold nk xw at h
 simp only [Bool.and_eq_true, decide_eq_true_eq] at h
 exact ⟨k.toNat, m.toNat, i.toNat, by omega, by omega, by omega, by omega, by omega⟩
def Keeps (a a' : Pool) : Prop := ∀ mx, GB mx a → a'.ents.length ≤ mx → GB mx a'
theorem nR {m : Nat} (h : j < m) : m - (intOf (.int .i64 ((j : Int) + 1))).toNat < m - (intOf (nI j)).toNat := by
 show m - ((j : Int) + 1).toNat < m - (j : Int).toNat
 omega
end
theorem MK {M n : Nat} {es l : List av} {e : av} (h : ∀ x ∈ es, x.key < n) (he : e.key < n) (hp : l.Perm (rX M es e)) : ∀ x ∈ l, x.key < n := fun x hx => by
 have h1 := hp.mem_iff.1 hx
 unfold rX at h1
 split at h1
 ·exact h x h1
 ·rcases List.mem_append.1 h1 with h2 | h2
  ·exact h x (wF.1 h2).1
  ·rw [List.mem_singleton.1 h2]; exact he
section
theorem uy {m : av} {h k : Nat} (hm : m.hash < h ∨ (m.hash = h ∧ m.key ≤ k)) : (behind h k).passed m := by
 unfold behind dW.passed
 split
 ·right; simp [aX]; omega
 ·split
  ·right; simp [aX]; omega
  ·left; rfl
section
variable {es : List av} {hs : List Nat} {c c' : dW} {i : mF}
theorem fP.keeps (h : fP es hs c i c') {e : av} (he : e.hash < 18446744073709551616 ∧ e.key < 18446744073709551616) (hp : c.passed e) : c'.passed e := by
 cases h with
 | done => exact hp
 | yield hd hi m h1 h2 h3 h4 hm =>
  have hp2 : aX e ⟨c.key, 0, c.hash⟩ = true := hp.resolve_left (by rw [hd]; simp)
  have hn := hm.2.1
  refine uy ?_
  simp [aX] at hp2 hn
  omega
 | skip hd hi h1 h2 h3 h4 hm =>
  have hp2 : aX e ⟨c.key, 0, c.hash⟩ = true := hp.resolve_left (by rw [hd]; simp)
  refine uy ?_
  simp [aX] at hp2
  omega
theorem fP.passes (h : fP es hs c i c') (hes : ∀ e ∈ es, e.hash < 18446744073709551616 ∧ e.key < 18446744073709551616) {e : av} (he : e ∈ es) (hp : c'.passed e) : c.passed e ∨ (i.st = 1 ∧ e.key = i.key) := by
 cases h with
 | done => exact .inl hp
 | yield hd hi m h1 h2 h3 h4 hm =>
  have hb := hes m (gI.1 hm.1).1
  have hp2 := (mY hb.1 hb.2 hes he).1 hp
  by_cases hc : aX e ⟨c.key, 0, c.hash⟩ = true
  ·exact .inl (.inr hc)
  ·right
   have hmh := (gI.1 hm.1).2
   have heu : e ∈ upto es hi := gI.2 ⟨he, by simp [aX] at hp2; omega⟩
   have := hm.2.2 e heu (by simpa [nI, nU] using hc)
   refine ⟨rfl, ?_⟩
   show e.key = m.key
   simp [aX] at this hp2
   omega
 | skip hd hi h1 h2 h3 h4 hm =>
  have hp2 := (mY h3 (by omega) hes he).1 hp
  exact .inl (.inr (hm e (gI.2 ⟨he, by simp [aX] at hp2; omega⟩)))
theorem fP.tells (h : fP es hs c i c') : (i.st = 1 ∧ c.done = false ∧ ∃ m ∈ es, i.key = m.key ∧ i.val = m.val ∧ ¬ c.passed m ∧ c'.passed m) ∨ ((i.st = 2 ∨ i.st = 3) ∧ i.key = 0 ∧ i.val = 0 ∧ (i.st = 3 ↔ c'.done = true) ∧ (c.done = true → i.st = 3)) := by
 cases h with
 | done hd => exact .inr ⟨.inr rfl, rfl, rfl, by simp [hd], fun _ => rfl⟩
 | yield hd hi m h1 h2 h3 h4 hm =>
  refine .inl ⟨rfl, hd, m, (gI.1 hm.1).1, rfl, rfl, fun hp => ?_, uy (.inr ⟨rfl, Nat.le_refl _⟩)⟩
  have := hp.resolve_left (by rw [hd]; simp)
  rw [hm.2.1] at this; cases this
 | skip hd hi h1 h2 h3 h4 hm =>
  refine .inr ⟨by simp only; split <;> simp, rfl, rfl, ?_, fun h => by rw [hd] at h; cases h⟩
  unfold behind
  by_cases hlt : hi < 18446744073709551615 <;> simp [hlt]
instance (c : dW) (e : av) : Decidable (c.passed e) := by unfold dW.passed; infer_instance
def BU (es : List av) (hs : List Nat) (c : dW) : Nat := if c.done = true then 0 else (es.filter fun e => !decide (c.passed e)).length + (hs.filter fun h => decide (c.hash ≤ h)).length
theorem aaH (es : List av) (hs : List Nat) (c : dW) : BU es hs c ≤ es.length + hs.length := by
 unfold BU
 split
 ·exact Nat.zero_le _
 ·exact Nat.add_le_add (List.length_filter_le _ _) (List.length_filter_le _ _)
theorem filter_le {α : Type} {p q : α → Bool} : ∀ {l : List α}, (∀ x ∈ l, p x = true → q x = true) → (l.filter p).length ≤ (l.filter q).length
 | [], _ => Nat.le_refl _
 | x :: l, h => by
  have ih := filter_le (l := l) fun y hy => h y (by simp [hy])
  rw [List.filter_cons, List.filter_cons]
  have hx := h x (by simp)
  split
  ·rename_i hp; rw [if_pos (hx hp)]; simp; exact ih
  ·split
   ·simp; omega
   ·exact ih
theorem filter_lt {α : Type} {p q : α → Bool} : ∀ {l : List α}, (∀ x ∈ l, p x = true → q x = true) → (∃ x ∈ l, q x = true ∧ p x = false) → (l.filter p).length < (l.filter q).length
 | [], _, h => by obtain ⟨_, h, _⟩ := h; cases h
 | x :: l, h, hx => by
  have hle := filter_le (l := l) fun y hy => h y (by simp [hy])
  rw [List.filter_cons, List.filter_cons]
  obtain ⟨y, hy, h1, h2⟩ := hx
  rcases List.mem_cons.1 hy with e | hy
  ·subst e
   rw [if_neg (by rw [h2]; simp), if_pos h1]
   simp; omega
  ·have hlt := filter_lt (l := l) (fun z hz => h z (by simp [hz])) ⟨y, hy, h1, h2⟩
   have hq := h x (by simp)
   split
   ·rename_i hp; rw [if_pos (hq hp)]; simp; exact hlt
   ·split
    ·simp; omega
    ·exact hlt
theorem fP.BU (h : fP es hs c i c') (hes : ∀ e ∈ es, e.hash < 18446744073709551616 ∧ e.key < 18446744073709551616) (hne : i.st ≠ 3) : BU es hs c' < BU es hs c := by
 have hk := fun (e : av) (he : e ∈ es) (hp : c.passed e) => h.keeps (hes e he) hp
 rcases h.tells with ⟨_, hd, m, h2, _, _, h3, h4⟩ | ⟨hst, _, _, h3, h4⟩
 ·have hm1 : 1 ≤ (es.filter fun e => !decide (c.passed e)).length := by
   have : m ∈ es.filter fun e => !decide (c.passed e) := List.mem_filter.2 ⟨h2, by simp [h3]⟩
   exact List.length_pos_of_mem this
  unfold Go.Proofs.YtbphcldoflekpaaGreatDoor.BU
  rw [if_neg (show ¬ c.done = true by rw [hd]; simp)]
  by_cases hd' : c'.done = true
  ·rw [if_pos hd']; omega
  ·rw [if_neg hd']
   have e1 := filter_lt (l := es) (p := fun e => !decide (c'.passed e)) (q := fun e => !decide (c.passed e)) (fun e he hp => by
    simp at hp ⊢; exact fun hq => hp (hk e he hq)) ⟨m, h2, by simp [h3], by simp [h4]⟩
   have e2 : (hs.filter fun h => decide (c'.hash ≤ h)).length ≤ (hs.filter fun h => decide (c.hash ≤ h)).length := filter_le fun x _ hx => by
    simp at hx ⊢
    cases h with
    | yield hd hi m' g1 g2 g3 g4 hm =>
     have hn := hm.2.1
     simp [aX] at hn
     have : m'.hash ≤ (behind m'.hash m'.key).hash := by
      unfold behind
      split
      ·exact Nat.le_refl _
      ·split
       ·exact Nat.le_succ _
       ·rename_i a b; exact absurd (by unfold behind; rw [if_neg a, if_neg b]) hd'
     omega
    | done hd2 => rw [hd] at hd2; cases hd2
    | skip hd2 x g1 g2 g3 =>
     have : x ≤ (behind x 18446744073709551615).hash := by
      unfold behind
      rw [if_neg (by omega)]
      split
      ·exact Nat.le_succ _
      ·rename_i b; exact absurd (by unfold behind; rw [if_neg (by omega), if_neg b]) hd'
     omega
   omega
 ·have hd : c.done = false := by
   cases hd : c.done with
   | false => rfl
   | true => exact absurd (h4 hd) hne
  have hd' : ¬ c'.done = true := fun e => hne (h3.2 e)
  unfold Go.Proofs.YtbphcldoflekpaaGreatDoor.BU
  rw [if_neg (show ¬ c.done = true by rw [hd]; simp), if_neg hd']
  have e1 : (es.filter fun e => !decide (c'.passed e)).length ≤ (es.filter fun e => !decide (c.passed e)).length := filter_le fun e he hp => by
   simp at hp ⊢; exact fun hq => hp (hk e he hq)
  have e2 : (hs.filter fun h => decide (c'.hash ≤ h)).length < (hs.filter fun h => decide (c.hash ≤ h)).length := by
   cases h with
   | done hd2 => rw [hd] at hd2; cases hd2
   | yield hd2 x m g1 g2 g3 g4 hm => 
    rcases hst with k | k <;> cases k
   | skip hd2 x g1 g2 g3 g4 hm =>
    have hx : x < 18446744073709551615 := by
     by_cases hlt : x < 18446744073709551615
     ·exact hlt
     ·exact absurd (by unfold behind; rw [if_neg (by omega), if_neg hlt]) hd'
    have hb : (behind x 18446744073709551615).hash = x + 1 := by
     unfold behind; rw [if_neg (by omega), if_pos hx]
    rw [hb]
    exact filter_lt (fun y _ hy => by simp at hy ⊢; omega) ⟨x, g2, by simpa [nI, nU] using g1, by simp⟩
  omega
end
end
section
theorem qw {c : dW} {e : av} : c.passed e ↔ c.passed ⟨e.key, 0, e.hash⟩ := by simp [dW.passed, aX]
structure Seen (H : Nat → Nat) (es : List av) (c : dW) (st se : List Bool) : Prop where
 p1 : ∀ k, se[k]? = some true → c.passed ⟨k, 0, H k⟩
 p2 : ∀ k, st[k]? = some true → ∃ e ∈ es, e.key = k
 p3 : ∀ k, st[k]? = some true → c.passed ⟨k, 0, H k⟩ → se[k]? = some true
section
variable {H : Nat → Nat} {es es' : List av} {hs : List Nat} {c c' : dW} {st se : List Bool} {M k : Nat} {e : av} {it : mF}
theorem Seen.start (n : Nat) (hst : ∀ k, st[k]? = some true → ∃ e ∈ es, e.key = k) : Seen H es ⟨0, 0, false⟩ st (List.replicate n false) := by
 refine ⟨fun k h => ?_, hst, fun k _ h => ?_⟩
 ·rw [List.getElem?_replicate] at h
  split at h <;> cases h
 ·rcases h with h | h
  ·cases h
  ·simp [aX] at h
theorem Seen.put (h : Seen H es c st se) (hp : es'.Perm (rX M es e)) : Seen H es' c st se := by
 refine ⟨h.p1, fun k hk => ?_, h.p3⟩
 obtain ⟨x, hx, hxk⟩ := h.p2 k hk
 by_cases hf : sI M es e.key = true
 ·have : x ∈ rX M es e := by unfold rX; rw [if_pos hf]; exact hx
  exact ⟨x, hp.mem_iff.2 this, hxk⟩
 ·by_cases hke : x.key = e.key
  ·have : e ∈ rX M es e := by unfold rX; rw [if_neg hf]; simp
   exact ⟨e, hp.mem_iff.2 this, by omega⟩
  ·have : x ∈ rX M es e := by unfold rX; rw [if_neg hf]; exact List.mem_append_left _ (wF.2 ⟨hx, hke⟩)
   exact ⟨x, hp.mem_iff.2 this, hxk⟩
theorem Jj {l : List Bool} {k j : Nat} (h : (l.set k false)[j]? = some true) : j ≠ k ∧ l[j]? = some true := by
 rw [List.getElem?_set] at h
 split at h
 ·split at h <;> cases h
 ·rename_i h1; exact ⟨fun e => h1 e.symm, h⟩
theorem WE {l : List Bool} {k j : Nat} (h : (l.set k true)[j]? = some true) : j = k ∨ l[j]? = some true := by
 rw [List.getElem?_set] at h
 split at h
 ·rename_i h1; exact .inl h1.symm
 ·exact .inr h
theorem Seen.del (h : Seen H es c st se) (hp : es'.Perm (rest es k)) : Seen H es' c (st.set k false) se := by
 refine ⟨h.p1, fun j hj => ?_, fun j hj hq => h.p3 j (Jj hj).2 hq⟩
 obtain ⟨h1, h2⟩ := Jj hj
 obtain ⟨x, hx, hxk⟩ := h.p2 j h2
 exact ⟨x, hp.mem_iff.2 (wF.2 ⟨hx, by omega⟩), hxk⟩
theorem Seen.tell (h : Seen H es c st se) (hN : fP es hs c it c') (hh : ∀ e ∈ es, e.hash = H e.key) (he : ∀ e ∈ es, e.hash < 18446744073709551616 ∧ e.key < 18446744073709551616) (hH : ∀ k, H k < 18446744073709551616) (hst : it.st = 1) (hl : se.length ≤ 1000) (hk : it.key < se.length) :
  se[it.key]? = some false ∧ (∃ e ∈ es, e.key = it.key ∧ e.val = it.val) ∧ Seen H es c' st (se.set it.key true) := by
 rcases hN.tells with ⟨_, _, m, h2, h3, h4, h5, h6⟩ | ⟨h2, _⟩
 ·have hmk : (⟨it.key, 0, H it.key⟩ : av) = ⟨m.key, 0, m.hash⟩ := by rw [hh m h2, h3]
  refine ⟨?_, ⟨m, h2, h3.symm, h4.symm⟩, fun k hk2 => ?_, h.p2, fun k hk2 hq => ?_⟩
  ·cases hs : se[it.key]? with
   | none => rw [List.getElem?_eq_none_iff] at hs; omega
   | some b =>
    cases b with
    | false => rfl
    | true =>
     have := h.p1 _ hs
     rw [hmk, ← qw] at this
     exact absurd this h5
  ·rcases WE hk2 with rfl | hk3
   ·rw [hmk, ← qw]; exact h6
   ·have hlt := (List.getElem?_eq_some_iff.1 hk3).1
    exact hN.keeps (e := ⟨k, 0, H k⟩) ⟨hH k, by show k < _; omega⟩ (h.p1 k hk3)
  ·obtain ⟨x, hx, hxk⟩ := h.p2 k hk2
   have hxe : (⟨k, 0, H k⟩ : av) = ⟨x.key, 0, x.hash⟩ := by rw [hh x hx, hxk]
   rw [hxe, ← qw] at hq
   by_cases hkk : k = it.key
   ·subst hkk
    rw [List.getElem?_set, if_pos rfl, if_pos hk]
   ·rw [List.getElem?_set, if_neg (fun e => hkk e.symm)]
    rcases hN.passes he hx hq with h7 | ⟨_, h7⟩
    ·exact h.p3 k hk2 (by rw [hxe, ← qw]; exact h7)
    ·omega
 ·rcases h2 with h2 | h2 <;> omega
theorem Seen.idle (h : Seen H es c st se) (hN : fP es hs c it c') (hh : ∀ e ∈ es, e.hash = H e.key) (he : ∀ e ∈ es, e.hash < 18446744073709551616 ∧ e.key < 18446744073709551616) (hH : ∀ k, H k < 18446744073709551616) (hst : it.st ≠ 1) (hl : se.length ≤ 1000) : Seen H es c' st se := by
 refine ⟨fun k hk => hN.keeps (e := ⟨k, 0, H k⟩) ⟨hH k, by have := (List.getElem?_eq_some_iff.1 hk).1; show k < _; omega⟩ (h.p1 k hk), h.p2, fun k hk hq => ?_⟩
 obtain ⟨x, hx, hxk⟩ := h.p2 k hk
 have hxe : (⟨k, 0, H k⟩ : av) = ⟨x.key, 0, x.hash⟩ := by rw [hh x hx, hxk]
 rw [hxe, ← qw] at hq
 rcases hN.passes he hx hq with h7 | ⟨h7, _⟩
 ·exact h.p3 k hk (by rw [hxe, ← qw]; exact h7)
 ·exact absurd h7 hst
theorem Seen.fin (h : Seen H es c st se) (hd : c.done = true) : ∀ k : Nat, st[k]? = some true → se[k]? = some true := fun k hk => h.p3 k hk (.inl hd)
end
end
section
variable {ops : Array Oper} {rest : List Oper} {o : Oper} {a : Act} {Q : Exit → Act → World → Prop} {r : Nat} {seen : Array Nat} {E : Nat → Addr} {w2 : World}
theorem BX {α β : Type} (f : α → β) : ∀ (l : List α) (j : Nat), (l.map f).eraseIdx j = (l.eraseIdx j).map f
 | [], _ => by simp
 | x :: l, 0 => rfl
 | x :: l, j + 1 => by simp [BX f l j]
section
variable {P : Program} {w w' : World} {b g : Nat} {l : List (Nat × Nat)} {t k e : TypeId}
theorem gJ.del (h : gJ w b g l) (ht : P.underlying t = some (.map k e)) (hk : P.underlying k = some (.int .i64)) {j : Nat} {p : Nat × Nat} (hj : l[j]? = some p) (hn : (l.map Prod.fst).Nodup) (ty : TypeId) :
  (Builtin.delete_ #[t, k] ty #[.map (some b), nI p.1]).run P w = .ok (.tuple #[]) (setBlock w b (.map ((l.eraseIdx j).map fI).toArray g)) := by
 obtain ⟨a, h1, h2, h4⟩ := zP (p.1 : Int) l 0
 have h3 := run_findKey (P := P) (w := w) hk h1
 cases a with
 | none =>
  have : lH l (p.1 : Int) = none := by cases hf : lH l (p.1 : Int) with | none => rfl | some q => rw [hf] at h2; cases h2
  exact absurd rfl (uR.1 this p (List.mem_of_getElem? hj))
 | some q =>
  obtain ⟨i, v⟩ := q
  obtain ⟨j', h5, h6⟩ := h4 _ rfl
  have hij : i = j := by
   simp only [Nat.zero_add] at h5
   rw [List.getElem?_map] at h6
   cases hq : l[j']? with
   | none => rw [hq] at h6; cases h6
   | some q' =>
    rw [hq] at h6
    have e0 : (q'.1 : Int) = (p.1 : Int) := by simpa [nI, nU] using h6
    have e1 : q'.1 = p.1 := by omega
    have a1 : (l.map Prod.fst)[j']? = some p.1 := by rw [List.getElem?_map, hq]; simp [e1]
    have a2 : (l.map Prod.fst)[j]? = some p.1 := by rw [List.getElem?_map, hj]; rfl
    obtain ⟨b1, b2⟩ := List.getElem?_eq_some_iff.1 a1
    obtain ⟨b3, b4⟩ := List.getElem?_eq_some_iff.1 a2
    rw [h5]
    have hp := List.pairwise_iff_getElem.1 hn
    rcases Nat.lt_trichotomy j' j with z | z | z
    ·exact absurd (b2.trans b4.symm) (hp _ _ b1 b3 z)
    ·exact z
    ·exact absurd (b4.trans b2.symm) (hp _ _ b3 b1 z)
  subst hij
  simp [Builtin.delete_, run_underlying ht, Go.MapKept.run_getObj_map (show w.heap[b]? = some (.map (l.map fI).toArray g) from h), run_checkKey hk Cq, h3, Go.MapKept.run_setObj_map _ (show w.heap[b]? = some (.map (l.map fI).toArray g) from h), Result.andThen, setBlock, BX]
theorem ML (hg : o.guard = none) (it : Operand) (hop : o.op = Op.next it false) (hl : ∀ p ∈ l, 1 ≤ p.1 ∧ p.1 ≤ g) (hnd : (l.map Prod.fst).Nodup) (hit : a.eval it = pQ r) (h : gJ w b g l) (hr : w.heap[r]? = some (.mapIter (some b) g seen g)) (hDone : Hid (∀ p ∈ l, seen.contains (p.1 - 1) = true) → wpList P ops Q rest (a.put o.dst (.tuple #[.bool false])) w) (hMore : ∀ (n c : Nat) (w' : World), Hid ((n, c) ∈ l ∧ gJ w' b g l ∧ w'.heap[r]? = some (.mapIter (some b) g (seen.push (n - 1)) g) ∧ (leftOf (l.map fI).toArray (seen.push (n - 1))).size < (leftOf (l.map fI).toArray seen).size ∧ Mod [r] w w') →
   (Instr.entry (pQ r)).run P w' = .ok (.tuple #[nI n, pQ c]) w' → wpList P ops Q rest (a.put o.dst (.tuple #[.bool true, nI n, pQ c])) w') :
  wpList P ops Q (o :: rest) a w := by
 refine wpList_plain hg fun K' hK' => ?_
 unfold Oper.wp
 have hne : r ≠ b := fun e => by
  have h1 : w.heap[b]? = some (.map (l.map fI).toArray g) := h
  rw [← e, hr] at h1; cases h1
 have hold : ∀ x ∈ ((l.map fI).toArray).toList, x.born < g := fun x hx => by
  obtain ⟨p, hp, rfl⟩ : ∃ p ∈ l, fI p = x := by simpa [nI, nU] using hx
  have := hl p hp
  show p.1 - 1 < g
  omega
 have hbn : ((l.map fI).toArray.toList.map (·.born)).Nodup := by
  have e1 : (l.map fI).toArray.toList.map (·.born) = l.map fun p => p.1 - 1 := by simp [fI, Function.comp_def]
  rw [e1]
  unfold List.Nodup at hnd ⊢
  rw [List.pairwise_map] at hnd ⊢
  exact hnd.imp_of_mem fun ha hb hne e => hne (by have := hl _ ha; have := hl _ hb; omega)
 rcases run_next_at (P := P) w o.type r b g g seen (l.map fI).toArray g hr h hold (Nat.le_refl _) with ⟨h0, hrun⟩ | ⟨x, hx, w1, hal, hrun⟩
 ·simp [execOp, hop, hit, hrun, Result.andThen]
  exact hK' _ _ (hDone <| qd fun p hp => all_seen _ seen h0 (fI p) (List.mem_map_of_mem hp))
 ·obtain ⟨hem, hes⟩ := mem_left hx
  obtain ⟨p, hp, rfl⟩ : ∃ p ∈ l, fI p = x := by simpa [nI, nU] using hem
  have hr1 : w1.heap[r]? = some (.mapIter (some b) g seen g) := by rcases hal with rfl | rfl <;> exact hr
  have hb1 : w1.heap[b]? = some (.map (l.map fI).toArray g) := by rcases hal with rfl | rfl <;> exact h
  have hset := heap_set (o' := .mapIter (some b) g (seen.push (fI p).born) g) hr1
  have hb' := (hset.2 b (fun e1 => hne e1.symm)).trans hb1
  have hmod : Mod [r] w (setBlock w1 r (.mapIter (some b) g (seen.push (fI p).born) g)) := by
   rcases hal with rfl | rfl
   ·exact ⟨rfl, rfl, rfl, by simp [setBlock], fun k _ hn => hset.2 k (fun e => hn (by simp [e]))⟩
   ·exact ⟨rfl, rfl, rfl, by simp [setBlock], fun k _ hn => hset.2 k (fun e => hn (by simp [e]))⟩
  simp [execOp, hop, hit, hrun, Result.andThen]
  exact hK' _ _ (hMore p.1 p.2 _ (qd ⟨hp, hb', hset.1, left_shrinks _ seen _ hx, hmod⟩) (run_entry_at _ r b g seen _ g (fI p) hset.1 hb' hem hbn))
theorem JU (hg : o.guard = none) (m : Operand) (hop : o.op = Op.range t m) (ht : P.underlying t = some (.map k e)) (hm : a.eval m = .map (some b)) (h : gJ w b g l) (hK : wpList P ops Q rest (a.put o.dst (pQ w.heap.size)) (w.alloc (.mapIter (some b) g #[] g))) : wpList P ops Q (o :: rest) a w := by
 refine wpList_plain hg fun K' hK' => ?_
 have hrun := run_range_map w t k e b (l.map fI).toArray g ht h
 unfold Oper.wp
 simp [execOp, hop, hm, hrun, Result.andThen]
 exact hK' _ _ hK
end
theorem BZ {w : World} {b g : Nat} {l : List (Nat × Nat)} {m : Option Nat} {s c : Nat} (h : gJ w b g l) (hr : w.heap[r]? = some (.mapIter m s seen c)) : w.rangeLeft b r = (leftOf (l.map fI).toArray seen).size := by
 have h1 : w.heap[b]? = some (.map (l.map fI).toArray g) := h
 unfold World.rangeLeft
 rw [h1, hr]
section
variable {w : World} {ib mb most given : Nat} {its : List It}
theorem Jk (its : List It) : (fO its).map Prod.fst = its.map It.id := by unfold fO; rw [List.map_map]; rfl
theorem eY.QM (h : eY w ib mb most given its) {i : It} (hi : i ∈ its) : mb ≠ i.cb ∧ ib ≠ i.cb ∧ ib ≠ mb := by
 have := h.nf
 unfold bB at this
 rw [List.nodup_cons, List.nodup_cons] at this
 have hm := List.mem_map_of_mem (f := It.cb) hi
 exact ⟨fun e => this.2.1 (e ▸ hm), fun e => this.1 (List.mem_cons_of_mem _ (e ▸ hm)), fun e => this.1 (by rw [e]; simp)⟩
theorem eY.aaI (h : eY w ib mb most given its) {i j : It} (hi : i ∈ its) (hj : j ∈ its) (e : i.cb = j.cb) : i = j := by
 have hn : (its.map It.cb).Nodup := by
  have := h.nf
  unfold bB at this
  rw [List.nodup_cons, List.nodup_cons] at this
  exact this.2.2
 clear h
 induction its with
 | nil => cases hi
 | cons x l ih =>
  rw [List.map_cons, List.nodup_cons] at hn
  rcases List.mem_cons.1 hi with h1 | h1
  ·rcases List.mem_cons.1 hj with h2 | h2
   ·rw [h1, h2]
   ·exact absurd (show x.cb ∈ l.map It.cb from by rw [← h1, e]; exact List.mem_map_of_mem h2) hn.1
  ·rcases List.mem_cons.1 hj with h2 | h2
   ·exact absurd (show x.cb ∈ l.map It.cb from by rw [← h2, ← e]; exact List.mem_map_of_mem h1) hn.1
   ·exact ih h1 h2 hn.2
theorem JV {id : Int} (h : eY w ib mb most given its) (hn : ∀ i ∈ its, (i.id : Int) ≠ id) (h6 : fJ E w 6) : Calls Tryz.prog 36 #[pQ ib, .int .i64 id] w fun y w' => y = .returned (.tuple #[.pointer none, .iface 286 (.pointer (some (E 6)))]) ∧ Below w.heap.size w w' := by
 have hl := h.map.look (P := Tryz.prog) (t := 104) Tryz.underlying104 Tryz.underlying3 (OT _) id
 have hf : lH (fO its) id = none := uR.2 fun p hp => by
  obtain ⟨i, hi, rfl⟩ := List.mem_map.1 hp
  exact hn i hi
 rw [hf] at hl
 unfold fJ at h6
 simp only [gE] at h6
 obtain ⟨c0, c1, c2⟩ := h.blk.c3
 unfold MC at hl
 simp only [Option.map_none, Option.isSome_none] at hl
 clear h hn hf
 go_in
 go_upto_region 3 with fail
 go_region
 go_wp2
 refine bodyPost_ret (v := .tuple #[.pointer none, .iface 286 (.pointer (some (E 6)))]) (by simp [results, Tryz.results36, go_sem]) rfl ⟨rfl, (Below.refl _ _).drew⟩
theorem eY.erased {j : Nat} (h : eY w ib mb most given its) (hb : aj w2 ib 106 #[nI most, nI given, .map (some mb)]) (hm : gJ w2 mb given ((fO its).eraseIdx j)) (hmod : Mod [mb] w w2) : eY w2 ib mb most given (its.eraseIdx j) := by
 have hs := List.eraseIdx_sublist its j
 refine ⟨hb, by unfold fO at hm ⊢; rw [← BX]; exact hm, fun i hi => (h.cur i (hs.subset hi)).mod hmod (fun hh => (h.QM (hs.subset hi)).1 (List.mem_singleton.1 hh).symm), fun i hi => h.ids i (hs.subset hi), h.nd.sublist (hs.map _), ?_, h.few.1, by have := hs.length_le; have := h.few.2; omega⟩
 have := h.nf
 unfold bB at this ⊢
 exact this.sublist (((hs.map _).cons_cons _).cons_cons _)
theorem NJ {j id cb : Nat} {c : dW} (h : eY w ib mb most given its) (hj : its[j]? = some ⟨id, cb, c⟩) : Calls Tryz.prog 45 #[pQ ib, nI id] w fun y w' => y = .returned .nilIface ∧ eY w' ib mb most given (its.eraseIdx j) ∧ Mod [mb] w w' := by
 have jw := qd (ME h (List.mem_of_getElem? hj))
 have hj2 : (fO its)[j]? = some (id, cb) := by unfold fO; rw [List.getElem?_map, hj]; rfl
 have hdel := fun ty => h.map.del (P := Tryz.prog) (t := 104) Tryz.underlying104 Tryz.underlying3 hj2 (by rw [Jk]; exact h.nd) ty
 have hms := h.map.ak ((fO its).eraseIdx j) given
 have hmm := h.map.zQ (.map (((fO its).eraseIdx j).map fI).toArray given)
 obtain ⟨W2, hW2⟩ : ∃ W2, W2 = setBlock w mb (.map (((fO its).eraseIdx j).map fI).toArray given) := ⟨_, rfl⟩
 rw [← hW2] at hms hmm
 have him : ib ∉ [mb] := fun hh => (h.QM (List.mem_of_getElem? hj)).2.2 (List.mem_singleton.1 hh)
 have HE := qd (And.intro (h.erased (j := j) (h.blk.mod hmm him) hms hmm) hmm)
 have c2 := h.blk.cell 2
 simp only [gl] at c2 hdel
 simp only [← hW2] at hdel
 clear h hj hj2 hms hmm him hW2
 go_in
 go_wp2_with fail
 refine jw.out.mono ?_
 rintro y w1 ⟨rfl, rfl⟩
 go_wp2
 go_ret
 exact ⟨rfl, HE.out⟩
theorem Er {id : Int} (h : eY w ib mb most given its) (hn : ∀ i ∈ its, (i.id : Int) ≠ id) (h6 : fJ E w 6) : Calls Tryz.prog 45 #[pQ ib, .int .i64 id] w fun y w' => y = .returned (.iface 286 (.pointer (some (E 6)))) ∧ Below w.heap.size w w' := by
 have jw := qd (JV h hn h6)
 clear h hn h6
 go_in
 go_wp2_with fail
 refine jw.out.mono ?_
 rintro y w1 ⟨rfl, hb⟩
 go_wp2
 go_ret
 exact ⟨rfl, hb⟩
def It.ended (i : It) : It := ⟨i.id, i.cb, ⟨0, 0, true⟩⟩
theorem eY.ended (h : eY w ib mb most given its) (hb : aj w2 ib 106 #[nI most, nI given, .map (some mb)]) (hm : gJ w2 mb given (fO its)) (hc : ∀ i ∈ its, dX w2 i.cb ⟨0, 0, true⟩) : eY w2 ib mb most given (its.map It.ended) := by
 have e1 : (its.map It.ended).map It.cb = its.map It.cb := by rw [List.map_map]; rfl
 have e2 : (its.map It.ended).map It.id = its.map It.id := by rw [List.map_map]; rfl
 refine ⟨hb, by unfold fO at hm ⊢; rw [List.map_map]; exact hm, fun i hi => ?_, fun i hi => ?_, by rw [e2]; exact h.nd, by have := h.nf; unfold bB at this ⊢; rw [e1]; exact this, h.few.1, by rw [List.length_map]; exact h.few.2⟩
 ·obtain ⟨i', hi', rfl⟩ := List.mem_map.1 hi
  exact hc i' hi'
 ·obtain ⟨i', hi', rfl⟩ := List.mem_map.1 hi
  exact h.ids i' hi'
theorem MN (h : eY w ib mb most given its) : Calls Tryz.prog 35 #[pQ ib] w fun y w' => y = .returned undef ∧ eY w' ib mb most given (its.map It.ended) ∧ Mod (its.map It.cb) w w' := by
 have c2 := h.blk.cell 2
 simp only [gl] at c2
 have HH := qd h
 have HL := qd (show (∀ p ∈ fO its, 1 ≤ p.1 ∧ p.1 ≤ given) ∧ ((fO its).map Prod.fst).Nodup from ⟨fun p hp => by obtain ⟨i, hi, rfl⟩ := List.mem_map.1 hp; exact h.ids i hi, by rw [Jk]; exact h.nd⟩)
 have hb0 := (Below.refl w.heap.size w).alloc (Nat.le_refl _) (.mapIter (some mb) given #[] given)
 have hm0 := Mod.of_below hb0 []
 have HM := qd (h.map.mod hm0 (by simp))
 have HB := qd (h.blk.mod hm0 (by simp))
 have HC := qd (show ∀ i ∈ its, dX (w.alloc (.mapIter (some mb) given #[] given)) i.cb (if (#[] : Array Nat).contains (i.id - 1) = true then ⟨0, 0, true⟩ else i.c) from fun i hi => by
  rw [if_neg (by simp)]
  exact (h.cur i hi).mod hm0 (by simp))
 have HW := qd (Mod.of_below hb0 (its.map It.cb))
 have hit := heap_alloc_new w (.mapIter (some mb) given #[] given)
 obtain ⟨r, hr⟩ : ∃ r, r = w.heap.size := ⟨_, rfl⟩
 have HR := qd (show ∀ q ∈ bB ib mb its, q < r from fun q hq => by rw [hr]; exact h.iF q hq)
 have HR2 := qd (show w.heap.size ≤ r by omega)
 have hmp := h.map
 clear h hb0 hm0
 go_in
 go_wp2_with (at_range; refine JU rfl _ rfl Tryz.underlying104 rfl hmp ?_)
 clear hmp c2
 rw [← hr] at hit ⊢
 obtain ⟨W, hW⟩ : ∃ W, W = w.alloc (.mapIter (some mb) given #[] given) := ⟨_, rfl⟩
 rw [← hW] at HM HB HC HW hit ⊢
 have HI := qd hit
 clear hW hit hr
 go_frame
 go_loopw [3] (fun _ wr => ∃ seen : Array Nat, Hid (wr.heap[r]? = some (.mapIter (some mb) given seen given)) ∧ Hid (gJ wr mb given (fO its)) ∧ Hid (aj wr ib 106 #[nI most, nI given, .map (some mb)]) ∧ Hid (∀ i ∈ its, dX wr i.cb (if seen.contains (i.id - 1) = true then ⟨0, 0, true⟩ else i.c)) ∧ Hid (Mod (its.map It.cb) w wr)) (fun _ wr => wr.rangeLeft mb r)
 case atStart => exact ⟨_, HI, HM, HB, HC, HW⟩
 case round =>
  clear HI HM HB HC HW
  obtain ⟨seen, HI, HM, HB, HC, HW⟩ := hrel
  go_wp2_with (at_next; refine ML rfl _ rfl HL.out.1 HL.out.2 rfl HM.out HI.out ?_ ?_)
  ·intro hd
   go_wp2
   go_end0
   exact ⟨rfl, HH.out.ended HB.out HM.out (fun i hi => by
    have h1 := HC.out i hi
    rwa [if_pos (by have h2 := hd.out i.id i.cb (List.mem_map.2 ⟨i, hi, rfl⟩); simpa [nI, nU] using h2)] at h1), HW.out⟩
  ·intro n cb w1 hx hen
   obtain ⟨i, hi, hic⟩ := List.mem_map.1 hx.out.1
   obtain ⟨rfl, rfl⟩ := Prod.mk.inj hic
   have hrc : r ∉ its.map It.cb := fun hh => by have := HR.out r (by unfold bB; simp only [List.mem_cons]; exact .inr (.inr hh)); omega
   have hcs : ∀ k ∈ its, k.cb ∉ [r] := fun k hk hh => hrc (List.mem_singleton.1 hh ▸ List.mem_map_of_mem hk)
   have hm1 := hx.out.2.2.2.2
   have hir : ib ∉ [r] := fun hh => by have := HR.out ib (by simp [bB]); rw [List.mem_singleton.1 hh] at this; omega
   have HB1 := qd (HB.out.mod hm1 hir)
   have qV := qd (show ∀ i ∈ its, dX w1 i.cb (if seen.contains (i.id - 1) = true then ⟨0, 0, true⟩ else i.c) from fun k hk => (HC.out k hk).mod hm1 (hcs k hk))
   have HE := qd (FP (qV.out i hi))
   have HX := qd hx.out
   have HRc := qd hrc
   have HIi := qd hi
   have hw1 : Mod (its.map It.cb) w w1 := HW.out.trans hm1 (fun _ h _ => h) (fun q hq hl => by rw [List.mem_singleton.1 hq] at hl; have := HR2.out; omega)
   have HW1 := qd hw1
   clear hx hm1 hir hcs hrc hi hic hw1
   go_wp2_with fail
   refine HE.out.mono ?_
   rintro y w2 ⟨rfl, hc2, hm2⟩
   have hi := HIi.out
   have hx := HX.out
   obtain ⟨n1, n2, _⟩ := HH.out.QM hi
   have hnr : r ∉ [i.cb] := fun hh => HRc.out (by rw [List.mem_singleton.1 hh]; exact List.mem_map_of_mem hi)
   have K8 := qd (hx.2.1.mod hm2 (fun hh => n1 (List.mem_singleton.1 hh)))
   have HB2 := qd (HB1.out.mod hm2 (fun hh => n2 (List.mem_singleton.1 hh)))
   have HI2 := qd ((hm2.block r (Array.getElem?_eq_some_iff.1 hx.2.2.1).1 hnr).trans hx.2.2.1)
   have rF := qd (show ∀ k ∈ its, dX w2 k.cb (if (seen.push (i.id - 1)).contains (k.id - 1) = true then ⟨0, 0, true⟩ else k.c) from fun k hk => by
    by_cases hki : k.id = i.id
    ·obtain rfl := qX HH.out.nd hk hi hki
     rw [if_pos (by simp)]
     exact hc2
    ·have a1 := HH.out.ids k hk
     have a2 := HH.out.ids i hi
     have e1 : (seen.push (i.id - 1)).contains (k.id - 1) = seen.contains (k.id - 1) := by
      have : ¬ k.id - 1 = i.id - 1 := by omega
      simp [this]
     rw [e1]
     exact (qV.out k hk).mod hm2 (fun hh => hki (by rw [HH.out.aaI hk hi (List.mem_singleton.1 hh)])))
   have HW2 := qd (HW1.out.trans hm2 (fun _ h _ => h) (fun q hq _ => by rw [List.mem_singleton.1 hq]; exact List.mem_map_of_mem hi))
   have iT := qd (show w2.rangeLeft mb r < wr.rangeLeft mb r by rw [BZ K8.out HI2.out, BZ HM.out HI.out]; exact hx.2.2.2.1)
   clear hi hx n1 n2 hnr hm2 hc2
   go_wp2
   go_roundw
   all_goals first | exact ⟨⟨_, HI2, K8, HB2, rF, HW2⟩, iT.out⟩ | exact ⟨_, HI2, K8, HB2, rF, HW2⟩ | exact iT.out
end
end
end Go.Proofs.YtbphcldoflekpaaGreatDoor
