/- How a core's jobs go on behind writes: each is ended as soon as the bound says. No statement of the claim, no program in sight. -/
import Derived.Test.YtfojgfddgplinaaGreatDoorCoCU
namespace Go.Proofs.YtfojgfddgplinaaGreatDoor
section
open Go.RowKit AmC
variable {a a' a1 b : Pool} {H : Nat → Nat} {id j : Nat} {ids ids' ids1 l : List Nat}
def psum (a : Pool) : List Nat → Nat → Nat
 | [], _ => 0
 | i :: l, id => if i = id then a.left i else a.left i + psum a l id
theorem psum_same : ∀ {l : List Nat} {id : Nat}, (∀ j ∈ l, b.left j = a.left j) → psum b l id = psum a l id
 | [], _, _ => rfl
 | i :: l, id, h => by
  unfold psum
  rw [h i (by simp), psum_same (fun j hj => h j (by simp [hj]))]
theorem psum_mono : ∀ {l : List Nat} {id : Nat}, (∀ j, b.left j ≤ a.left j) → psum b l id ≤ psum a l id
 | [], _, _ => Nat.le_refl _
 | i :: l, id, h => by
  unfold psum
  have h1 := h i
  have h2 := psum_mono (l := l) (id := id) h
  split <;> omega
theorem psum_append : ∀ {l r : List Nat} {id : Nat}, id ∈ l → psum a (l ++ r) id = psum a l id
 | [], _, _, h => by cases h
 | i :: l, r, id, h => by
  show psum a (i :: (l ++ r)) id = _
  unfold psum
  by_cases e : i = id
  ·rw [if_pos e, if_pos e]
  ·rw [if_neg e, if_neg e]
   rcases List.mem_cons.1 h with h1 | h1
   ·exact absurd h1.symm e
   ·rw [psum_append h1]
theorem psum_one : ∀ {l : List Nat} {id : Nat}, id ∈ l → a.left id ≤ psum a l id
 | [], _, h => by cases h
 | i :: l, id, h => by
  unfold psum
  by_cases e : i = id
  ·rw [if_pos e, e]; exact Nat.le_refl _
  ·rw [if_neg e]
   rcases List.mem_cons.1 h with h1 | h1
   ·exact absurd h1.symm e
   ·have : a.left id ≤ psum a l id := psum_one h1; omega
theorem psum_live : ∀ {l : List Nat} {id : Nat}, id ∈ liveL Pool.left a l → psum a (liveL Pool.left a l) id = psum a l id
 | [], _, h => by cases h
 | i :: l, id, h => by
  have hf : liveL Pool.left a (i :: l) = if a.left i != 0 then i :: liveL Pool.left a l else liveL Pool.left a l := List.filter_cons
  by_cases h0 : a.left i = 0
  ·have hf2 : liveL Pool.left a (i :: l) = liveL Pool.left a l := by rw [hf, if_neg (by simp [h0])]
   rw [hf2] at h ⊢
   have hne : i ≠ id := fun e => by
    have := (List.mem_filter.1 h).2
    rw [← e] at this
    simp [h0] at this
   rw [psum_live h]
   show _ = psum a (i :: l) id
   rw [psum, if_neg hne, h0, Nat.zero_add]
  ·have hf2 : liveL Pool.left a (i :: l) = i :: liveL Pool.left a l := by rw [hf, if_pos (by simpa using h0)]
   rw [hf2] at h ⊢
   unfold psum
   by_cases e : i = id
   ·rw [if_pos e, if_pos e]
   ·rw [if_neg e, if_neg e]
    rcases List.mem_cons.1 h with h1 | h1
    ·exact absurd h1.symm e
    ·rw [psum_live h1]
theorem left_less (hs : a.step H id b) : b.left id + 1 = a.left id := (pool_ok (W0 := default) (E := fun _ => ⟨0, 0, none⟩) (P := ⟨0, 0, [], [], 0, 0⟩) ⟨fun _ => 0, 0, 0, 0, 0, 0⟩ (Nat.zero_le _)).left_less hs
theorem oth_psum {c : Nat} {e : List Nat} (h : Oth Pool.left (Pool.step H) c ids a e ids' a') (hn : ids.Nodup) : ∀ id ∈ ids', psum a' ids' id + c ≤ psum a ids id := by
 induction h with
 | nil => intro id hid; cases hid
 | broke => intro id _; exact Nat.le_refl _
 | @ended c i0 ids0 e0 ids1 a0 a1 h0 r ih =>
  rw [List.nodup_cons] at hn
  intro id hid
  have h1 := ih hn.2 id hid
  have hne : i0 ≠ id := fun e => hn.1 (by rw [oth_ids r, e]; simp [hid])
  rw [psum, if_neg hne, h0, Nat.zero_add]
  exact h1
 | @step c i0 ids0 e0 ids1 a0 b0 a1 h1 hs r ih =>
  intro id hid
  have h2 := ih hn id hid
  rw [List.nodup_cons] at hn
  have h3 := left_less hs
  have h4 : psum b0 ids0 id = psum a0 ids0 id := psum_same (fun j hj => left_others hs (fun e => hn.1 (e ▸ hj)))
  unfold psum at h2 ⊢
  rw [h4] at h2
  by_cases hi : i0 = id
  ·rw [if_pos hi] at h2 ⊢; omega
  ·rw [if_neg hi] at h2 ⊢; omega
theorem endS_left (hs : EndS H a id a') (hj : j ≠ id) (hc : a.can j) (h32 : a'.Ns.length ≤ 32) : a'.left j = a.left j ∧ a'.can j ∧ a.Ns.length ≤ a'.Ns.length := by
 cases hs with
 | @take c hc' hl =>
  have hn : ∃ N, a.Ns[j]? = some N := by
   rcases hc with ⟨N, h1, _⟩ | ⟨_, h2, _⟩
   ·exact ⟨N, h1⟩
   ·exact absurd h2 hj
  obtain ⟨N, hN⟩ := hn
  refine ⟨?_, ?_, Nat.le_refl _⟩
  ·unfold Pool.left; simp only; rw [hN]
  ·rcases hc with ⟨N', h1, h2⟩ | ⟨_, h2, _⟩
   ·exact .inl ⟨N', h1, h2⟩
   ·exact absurd h2 hj
 | @one _ N X hN hb hl ho hm hk he hx =>
  have hg : (a.Ns.set id ⟨N.pfx, N.dpt, 0, 0, X, .idle⟩)[j]? = a.Ns[j]? := by rw [set_get (get_lt hN), if_neg hj]
  refine ⟨?_, ?_, by simp⟩
  ·unfold Pool.left; simp only; rw [hg]
  ·unfold Pool.can at hc ⊢; simp only; rw [hg]; exact hc
 | @two _ N X Y hN hb hl ho hm hd hk hk2 he hx hy =>
  have hlen : (a.split id ⟨2 * N.pfx, N.dpt + 1, 0, 0, X, .idle⟩ ⟨2 * N.pfx + 1, N.dpt + 1, 0, 0, Y, .idle⟩).Ns.length = a.Ns.length + 1 := by unfold Pool.split; simp
  rw [hlen] at h32
  have hcop : (a.split id ⟨2 * N.pfx, N.dpt + 1, 0, 0, X, .idle⟩ ⟨2 * N.pfx + 1, N.dpt + 1, 0, 0, Y, .idle⟩).cop.isSome = a.cop.isSome := by
   unfold Pool.split
   simp only
   cases a.cop <;> rfl
  have hNs : (a.split id ⟨2 * N.pfx, N.dpt + 1, 0, 0, X, .idle⟩ ⟨2 * N.pfx + 1, N.dpt + 1, 0, 0, Y, .idle⟩).Ns = a.Ns.set id ⟨2 * N.pfx, N.dpt + 1, 0, 0, X, .idle⟩ ++ [⟨2 * N.pfx + 1, N.dpt + 1, 0, 0, Y, .idle⟩] := rfl
  have hjl : j < a.Ns.length ∨ (j = 32 ∧ a.Ns[j]? = none) := by
   rcases hc with ⟨N', h1, _⟩ | ⟨h1, h2, _⟩
   ·exact .inl (get_lt h1)
   ·exact .inr ⟨h2, h1⟩
  refine ⟨?_, ?_, by omega⟩
  ·unfold Pool.left
   rw [hNs]
   rcases hjl with h1 | ⟨rfl, h1⟩
   ·rw [List.getElem?_append_left (by simpa using h1), set_get (get_lt hN), if_neg hj]
    obtain ⟨N', hN'⟩ : ∃ N', a.Ns[j]? = some N' := ⟨_, List.getElem?_eq_getElem h1⟩
    rw [hN']
   ·have h2 : (a.Ns.set id (Nd.mk (2 * N.pfx) (N.dpt + 1) 0 0 X .idle) ++ [Nd.mk (2 * N.pfx + 1) (N.dpt + 1) 0 0 Y .idle])[32]? = none := List.getElem?_eq_none (by simp; omega)
    rw [h2, h1]
    unfold Pool.split
    simp only
    cases hcp : a.cop with
    | none => rfl
    | some c => simp only [Option.map_some, setN_length]
  ·unfold Pool.can at hc ⊢
   rw [hNs]
   rcases hjl with h1 | ⟨rfl, h1⟩
   ·rw [List.getElem?_append_left (by simpa using h1), set_get (get_lt hN), if_neg hj]
    rcases hc with h2 | ⟨h2, _⟩
    ·exact .inl h2
    ·rw [List.getElem?_eq_none_iff] at h2; omega
   ·have h2 : (a.Ns.set id (Nd.mk (2 * N.pfx) (N.dpt + 1) 0 0 X .idle) ++ [Nd.mk (2 * N.pfx + 1) (N.dpt + 1) 0 0 Y .idle])[32]? = none := List.getElem?_eq_none (by simp; omega)
    rw [h2]
    rcases hc with ⟨N', h3, _⟩ | ⟨_, _, c, h3⟩
    ·rw [h1] at h3; cases h3
    ·refine .inr ⟨rfl, rfl, ?_⟩
     unfold Pool.split
     simp only [h3, Option.map_some]
     exact ⟨_, rfl⟩
theorem endS_len (hs : EndS H a id a') : a.Ns.length ≤ a'.Ns.length := by
 cases hs with
 | @take c hc' hl => exact Nat.le_refl _
 | @one _ N X hN hb hl ho hm hk he hx => simp
 | @two _ N X Y hN hb hl ho hm hd hk hk2 he hx hy => unfold Pool.split; simp
theorem endAll_len (hs : EndAll H a l a') : a.Ns.length ≤ a'.Ns.length := by
 induction hs with
 | nil => exact Nat.le_refl _
 | cons h r ih => exact Nat.le_trans (endS_len h) ih
theorem endAll_left (hs : EndAll H a l a') (hj : j ∉ l) (hc : a.can j) (h32 : a'.Ns.length ≤ 32) : a'.left j = a.left j := by
 induction hs with
 | nil => rfl
 | cons h r ih =>
  rw [List.mem_cons, not_or] at hj
  obtain ⟨h1, h2, _⟩ := endS_left h hj.1 hc (Nat.le_trans (endAll_len r) h32)
  rw [ih hj.2 h2 h32, h1]
theorem beg_left {H : Nat → Nat} {own : Nat} (h : CPre a ids own) (hb : BegS a ids own a1 ids1) : (∀ j ∈ ids, a1.left j = a.left j) ∧ ∃ r, ids1 = ids ++ r := by
 have _ := H
 have hset : ∀ (N N' : Nd), a.Ns[own]? = some N → N'.left = N.left → ∀ j, Pool.left { a with Ns := a.Ns.set own N' } j = a.left j := fun N N' hN hl j => by
  unfold Pool.left
  simp only
  rw [set_get (get_lt hN)]
  by_cases hj : j = own
  ·rw [if_pos hj, hj, hN]; exact hl
  ·rw [if_neg hj]
 cases hb with
 | @busy N hN hb => exact ⟨fun _ _ => rfl, [], by simp⟩
 | @none N hN hi hk => exact ⟨fun j _ => hset N { N with sl := 0 } hN rfl j, [], by simp⟩
 | @start N kind hN hi hk h0 =>
  refine ⟨fun j hj => ?_, [own], rfl⟩
  have hne : j ≠ own := fun e => by
   have := (h.can_ own).2 (e ▸ hj)
   rw [can_node hN, hi] at this
   cases this
  unfold Pool.left
  simp only
  rw [set_get (get_lt hN), if_neg hne]
theorem dbl_left {p : Prop} (h : ∀ id, a.can id ↔ id ∈ ids) (hd : DblS p a ids a1 ids1) : (∀ j ∈ ids, a1.left j = a.left j) ∧ ∃ r, ids1 = ids ++ r := by
 cases hd with
 | not => exact ⟨fun _ _ => rfl, [], by simp⟩
 | yes hp hc hd =>
  refine ⟨fun j hj => ?_, [32], rfl⟩
  rcases (h j).2 hj with ⟨N, hN, _⟩ | ⟨_, _, c, h3⟩
  ·unfold Pool.left; simp only; rw [hN]
  ·rw [hc] at h3; cases h3
theorem soon_step {K : Nat} {del add : List Ent} (hi : CInv a ids []) (ho : ∀ (i : Nat) (N : Nd), a.Ns[i]? = some N → NOk H N) (h32 : a.Ns.length ≤ 32) (h32' : a'.Ns.length ≤ 32) (hw : WrS H K a ids del add a' ids') :
  ∀ id ∈ ids', id ∈ ids → psum a' ids' id + K ≤ psum a ids id ∧ a'.left id ≤ a.left id := by
 obtain ⟨id0, N, N1, hN, hwr, hm, _, _⟩ := hw
 obtain ⟨a1, ids1, a2, ids2, a3, e1, ids3, a4, m1, m2, m3, m4, m5, m6⟩ := hm.ex
 have hid := get_lt hN
 have hp := wr_pre hi hN hwr
 have h0 : ∀ j, Pool.left { a with Ns := a.Ns.set id0 N1 } j = a.left j := fun j => by
  unfold Pool.left
  simp only
  rw [set_get hid]
  by_cases hj : j = id0
  ·rw [if_pos hj, hj, hN]; exact hwr.left
  ·rw [if_neg hj]
 have ho1 : ∀ X, ({ a with Ns := a.Ns.set id0 N1 } : Pool).Ns[id0]? = some X → NOk H X := fun X hX => by
  have hX' : (a.Ns.set id0 N1)[id0]? = some X := hX
  rw [set_get hid, if_pos rfl] at hX'
  cases hX'; exact hwr.ok
 have _ := ho
 obtain ⟨s1, _, s3, _⟩ := beg_srv hp ho1 m1
 obtain ⟨s2, _⟩ := dbl_srv s1 (by rw [s3]; simpa using h32) m2
 obtain ⟨b1, r1, b2⟩ := beg_left (H := H) hp m1
 obtain ⟨d1, r2, d2⟩ := dbl_left s1.pre.can_ m2
 obtain ⟨o1, _, o3, o4⟩ := own_ok m3
 obtain ⟨t1, _, _, _, t5⟩ := oth_ok m4 s2.pre.nd
 have hlo : ∀ j, a3.left j ≤ a2.left j := fun j => by
  by_cases hj : j = id0
  ·rw [hj]; exact o4
  ·rw [o3 j hj]; exact Nat.le_refl _
 intro id hid' hidO
 have hin2 : id ∈ ids2 := by rw [d2, b2]; simp [hidO]
 rw [m6] at hid'
 have hin3 : id ∈ ids3 := (List.mem_filter.1 hid').1
 have hlv : a4.left id ≠ 0 := by simpa using (List.mem_filter.1 hid').2
 have hsplit := oth_ids m4
 have hnd3 : ids3.Nodup := by have := s2.pre.nd; rw [hsplit] at this; exact (List.nodup_append.1 this).2.1
 have hcan : ∀ j ∈ liveL Pool.left a4 ids3, a4.can j ∧ j ∉ e1 ++ doneL Pool.left a4 ids3 := fun j hj => by
  have h1 := (List.mem_filter.1 hj).1
  have h2 : a4.left j ≠ 0 := by simpa using (List.mem_filter.1 hj).2
  refine ⟨(t1.can_ j).2 ((o1.can_ j).2 ((s2.pre.can_ j).2 (by rw [hsplit]; simp [h1]))), fun hq => ?_⟩
  rcases List.mem_append.1 hq with hq | hq
  ·have := s2.pre.nd
   rw [hsplit] at this
   exact (List.nodup_append.1 this).2.2 j hq j h1 rfl
  ·exact h2 (by simpa using (List.mem_filter.1 hq).2)
 have hend : ∀ j ∈ liveL Pool.left a4 ids3, a'.left j = a4.left j := fun j hj => endAll_left m5 (hcan j hj).2 (hcan j hj).1 h32'
 have e1' : psum a' ids' id = psum a4 ids3 id := by rw [m6, psum_same hend, psum_live hid']
 have e2 : psum a4 ids3 id + K ≤ psum a3 ids2 id := oth_psum m4 s2.pre.nd id hin3
 have e3 : psum a3 ids2 id ≤ psum a2 ids2 id := psum_mono hlo
 have hin1 : id ∈ ids1 := by rw [b2]; simp [hidO]
 have e4 : psum a2 ids2 id = psum a1 ids1 id := by rw [d2, psum_append hin1]; exact psum_same d1
 have e5 : psum a1 ids1 id = psum a ids id := by rw [b2, psum_append hidO]; exact psum_same (fun j hj => (b1 j hj).trans (h0 j))
 refine ⟨by omega, ?_⟩
 rw [hend id hid']
 have := t5 id
 have := hlo id
 have := d1 id hin1
 have := b1 id hidO
 have := h0 id
 omega
end
section
open Go.RowKit AmC
def wrB (K s : Nat) : Nat := (s - 1) / K + 2
theorem wrB_less {K s s' : Nat} (hK : 1 ≤ K) (h : s' + K ≤ s) (h1 : 1 ≤ s') : wrB K s' + 1 ≤ wrB K s := by
 unfold wrB
 have h2 : (s' - 1) / K + 1 = (s' - 1 + K) / K := (Nat.add_div_right _ (by omega)).symm
 have h3 : (s' - 1 + K) / K ≤ (s - 1) / K := Nat.div_le_div_right (by omega)
 omega
theorem psum_take {a : Pool} : ∀ {l : List Nat} {i id : Nat}, l.Nodup → l[i]? = some id → psum a l id = sumL Pool.left a (l.take i) + a.left id
 | [], _, _, _, h => by simp at h
 | x :: l, 0, id, hn, h => by
  simp at h
  subst h
  simp [psum, sumL]
 | x :: l, i + 1, id, hn, h => by
  rw [List.nodup_cons] at hn
  have h' : l[i]? = some id := by simpa using h
  have hne : x ≠ id := fun e => hn.1 (e ▸ List.mem_of_getElem? h')
  rw [psum, if_neg hne, psum_take hn.2 h']
  unfold sumL
  simp only [List.take_succ_cons, List.map_cons, List.sum_cons]
  omega
structure Soon (K : Nat) (a : Pool) (ids : List Nat) (ws : Nat) (U : List Nat) : Prop where
 len : U.length = 33
 on : ∀ id ∈ ids, ws + wrB K (psum a ids id) ≤ U.getD id 0
 off : ∀ id, id < 33 → id ∉ ids → U.getD id 0 = 0
structure SoonAt (K : Nat) (a : Pool) (ids : List Nat) (ws : Nat) (U0 : List Nat) (i : Nat) (U : List Nat) (T : List Bool) (s : Nat) (fr : Bool) : Prop where
 len : U.length = 33
 lenT : T.length = 33
 thr : ∀ k, k < 33 → (T.getD k false = true ↔ k ∈ ids.take i)
 val : ∀ k, k < 33 → U.getD k 0 = if k ∈ ids.take i ∧ U0.getD k 0 = 0 then ws + wrB K (psum a ids k) else U0.getD k 0
 sum : s = sumL Pool.left a (ids.take i)
 fresh : fr = true ↔ ∃ k ∈ ids.take i, U0.getD k 0 = 0
structure SoonEnd (ids U1 : List Nat) (k : Nat) (U : List Nat) : Prop where
 len : U.length = 33
 val : ∀ j, j < 33 → U.getD j 0 = if j < k ∧ j ∉ ids then 0 else U1.getD j 0
theorem getD_set {α : Type} {l : List α} {i j : Nat} {x d : α} (hi : i < l.length) : (l.set i x).getD j d = if j = i then x else l.getD j d := by
 rw [List.getD_eq_getElem?_getD, List.getElem?_set, List.getD_eq_getElem?_getD]
 by_cases h : i = j
 ·rw [if_pos h, if_pos hi, if_pos h.symm]; rfl
 ·rw [if_neg h, if_neg (fun e => h e.symm)]
section
variable {K ws i id s : Nat} {a : Pool} {ids U0 U : List Nat} {T : List Bool} {fr : Bool}
theorem SoonAt.start (K : Nat) (a : Pool) (ids : List Nat) (ws : Nat) {U0 : List Nat} (h : U0.length = 33) : SoonAt K a ids ws U0 0 U0 (List.replicate 33 false) 0 false :=
 ⟨h, by simp, fun k hk => by rw [List.getD_eq_getElem?_getD, List.getElem?_replicate, if_pos hk]; simp, fun k hk => by simp, by simp [sumL], by simp⟩
theorem SoonAt.at_ (h : SoonAt K a ids ws U0 i U T s fr) (hn : ids.Nodup) (hi : ids[i]? = some id) (h33 : id < 33) : T.getD id false = false ∧ U.getD id 0 = U0.getD id 0 ∧ s + a.left id = psum a ids id := by
 have hnot : id ∉ ids.take i := fun hm => by
  obtain ⟨j, hj⟩ := List.getElem?_of_mem hm
  rw [List.getElem?_take] at hj
  split at hj
  ·have := (List.getElem?_inj (get_lt hj) hn).1 (hj.trans hi.symm); omega
  ·cases hj
 refine ⟨?_, ?_, ?_⟩
 ·cases hT : T.getD id false with
  | false => rfl
  | true => exact absurd ((h.thr id h33).1 hT) hnot
 ·rw [h.val id h33, if_neg (fun hh => hnot hh.1)]
 ·rw [psum_take hn hi, h.sum]
theorem SoonAt.next (h : SoonAt K a ids ws U0 i U T s fr) (hn : ids.Nodup) (hi : ids[i]? = some id) (h33 : id < 33) : SoonAt K a ids ws U0 (i + 1) (if U0.getD id 0 = 0 then U.set id (ws + wrB K (s + a.left id)) else U) (T.set id true) (s + a.left id) (fr || decide (U0.getD id 0 = 0)) := by
 obtain ⟨h1, h2, h3⟩ := h.at_ hn hi h33
 have ht : ids.take (i + 1) = ids.take i ++ [id] := by rw [List.take_add_one, hi]; rfl
 refine ⟨by split <;> simp [h.len], by simp [h.lenT], fun k hk => ?_, fun k hk => ?_, ?_, ?_⟩
 ·rw [getD_set (by rw [h.lenT]; exact h33), ht, List.mem_append, List.mem_singleton]
  by_cases e : k = id
  ·simp [e]
  ·rw [if_neg e, h.thr k hk]; simp [e]
 ·simp only [ht, List.mem_append, List.mem_singleton]
  by_cases e : k = id
  ·subst e
   by_cases h0 : U0.getD k 0 = 0
   ·rw [if_pos h0, getD_set (by rw [h.len]; exact h33), if_pos rfl, if_pos ⟨.inr rfl, h0⟩, h3]
   ·rw [if_neg h0, h2, if_neg (fun hh => h0 hh.2)]
  ·have hv := h.val k hk
   have hor : (k ∈ ids.take i ∨ k = id) ↔ k ∈ ids.take i := ⟨fun hh => hh.resolve_right e, .inl⟩
   split
   ·rw [getD_set (by rw [h.len]; exact h33), if_neg e, hv]; simp only [hor]
   ·rw [hv]; simp only [hor]
 ·rw [h.sum, ht]
  unfold sumL
  rw [List.map_append, List.sum_append]
  simp
 ·rw [Bool.or_eq_true, h.fresh, ht]
  simp only [List.mem_append, List.mem_singleton, decide_eq_true_eq]
  constructor
  ·rintro (⟨k, h4, h5⟩ | h4)
   ·exact ⟨k, .inl h4, h5⟩
   ·exact ⟨id, .inr rfl, h4⟩
  ·rintro ⟨k, h4 | rfl, h5⟩
   ·exact .inl ⟨k, h4, h5⟩
   ·exact .inr h5
end
section
variable {K ws : Nat} {a a' : Pool} {ids ids' U0 U1 U : List Nat}
theorem SoonEnd.start (ids : List Nat) {U : List Nat} (h : U.length = 33) : SoonEnd ids U 0 U := ⟨h, fun j _ => by rw [if_neg (fun hh => Nat.not_lt_zero _ hh.1)]⟩
theorem SoonEnd.next {k : Nat} (h : SoonEnd ids U1 k U) (hk : k < 33) : SoonEnd ids U1 (k + 1) (if k ∈ ids then U else U.set k 0) := by
 refine ⟨by split <;> simp [h.len], fun j hj => ?_⟩
 have hv := h.val j hj
 by_cases e : j = k
 ·subst e
  by_cases hm : j ∈ ids
  ·rw [if_pos hm, hv, if_neg (fun hh => Nat.lt_irrefl _ hh.1), if_neg (fun hh => hh.2 hm)]
  ·rw [if_neg hm, getD_set (by rw [h.len]; exact hk), if_pos rfl, if_pos ⟨Nat.lt_succ_self j, hm⟩]
 ·have hc : (j < k + 1 ∧ j ∉ ids) ↔ (j < k ∧ j ∉ ids) := ⟨fun hh => ⟨by omega, hh.2⟩, fun hh => ⟨by omega, hh.2⟩⟩
  simp only [hc]
  split
  ·exact hv
  ·rw [getD_set (by rw [h.len]; exact hk), if_neg e]; exact hv
theorem soon_write {T : List Bool} {s : Nat} {fr : Bool} (h : Soon K a ids ws U0) (hK : 1 ≤ K) (hs : ∀ id ∈ ids', id ∈ ids → psum a' ids' id + K ≤ psum a ids id ∧ a'.left id ≤ a.left id) (h1 : ∀ id ∈ ids', 1 ≤ a'.left id) (h33 : ∀ id ∈ ids', id < 33) (hat : SoonAt K a' ids' (ws + 1) U0 ids'.length U1 T s fr) (he : SoonEnd ids' U1 33 U) : Soon K a' ids' (ws + 1) U := by
 refine ⟨he.len, fun id hid => ?_, fun id h4 hid => ?_⟩
 ·have h5 := h33 id hid
  rw [he.val id h5, if_neg (fun hh => hh.2 hid), hat.val id h5, List.take_length]
  by_cases h0 : U0.getD id 0 = 0
  ·rw [if_pos ⟨hid, h0⟩]; exact Nat.le_refl _
  ·rw [if_neg (fun hh => h0 hh.2)]
   have hin : id ∈ ids := by
    by_cases hh : id ∈ ids
    ·exact hh
    ·exact absurd (h.off id h5 hh) h0
   have h6 := h.on id hin
   have h7 := wrB_less hK (hs id hid hin).1 (Nat.le_trans (h1 id hid) (psum_one hid))
   omega
 ·rw [he.val id h4, if_pos ⟨h4, hid⟩]
theorem soon_due (h : Soon K a ids ws U0) {id : Nat} (h33 : id < 33) (h0 : U0.getD id 0 ≠ 0) : ws + 1 ≤ U0.getD id 0 := by
 have hin : id ∈ ids := by
  by_cases hh : id ∈ ids
  ·exact hh
  ·exact absurd (h.off id h33 hh) h0
 have := h.on id hin
 have h2 : 2 ≤ wrB K (psum a ids id) := Nat.le_add_left 2 _
 omega
theorem sum_sub : ∀ {l r : List Nat}, l.Nodup → (∀ x ∈ l, x ∈ r) → (∀ x ∈ l, a'.left x ≤ a.left x) → sumL Pool.left a' l ≤ sumL Pool.left a r
 | [], _, _, _, _ => Nat.zero_le _
 | x :: l, r, hn, hs, hl => by
  rw [List.nodup_cons] at hn
  have hx := hs x (by simp)
  have h1 := sum_sub (l := l) (r := r.erase x) hn.2 (fun y hy => (List.mem_erase_of_ne (fun e => hn.1 (by rw [← e]; exact hy))).2 (hs y (by simp [hy]))) (fun y hy => hl y (by simp [hy]))
  have h2 := sumL_erase (left := Pool.left) (a := a) hx
  have h3 := hl x (by simp)
  unfold sumL at h1 h2 ⊢
  simp only [List.map_cons, List.sum_cons]
  omega
theorem soon_sum {T : List Bool} {s : Nat} {fr : Bool} (h : Soon K a ids ws U0) (hn : ids'.Nodup) (hs : ∀ id ∈ ids', id ∈ ids → psum a' ids' id + K ≤ psum a ids id ∧ a'.left id ≤ a.left id) (h33 : ∀ id ∈ ids', id < 33) (hat : SoonAt K a' ids' (ws + 1) U0 ids'.length U1 T s fr) (hf : fr = false) : s ≤ sumL Pool.left a ids := by
 have hin : ∀ id ∈ ids', id ∈ ids := fun id hid => by
  by_cases hh : id ∈ ids
  ·exact hh
  ·have : fr = true := hat.fresh.2 ⟨id, by rw [List.take_length]; exact hid, h.off id (h33 id hid) hh⟩
   rw [hf] at this; cases this
 rw [hat.sum, List.take_length]
 exact sum_sub hn hin (fun id hid => (hs id hid (hin id hid)).2)
theorem soon0 (K : Nat) (a : Pool) (ws : Nat) : Soon K a [] ws (List.replicate 33 0) := ⟨by simp, fun _ h => (by cases h), fun id h _ => by rw [List.getD_eq_getElem?_getD, List.getElem?_replicate, if_pos h]; rfl⟩
theorem ids_facts (h : CInv a ids []) (h32 : a.Ns.length ≤ 32) : (∀ id ∈ ids, id < 33) ∧ ids.length ≤ a.Ns.length + 1 ∧ ids.length ≤ 33 ∧ (∀ id ∈ ids, 1 ≤ a.left id) ∧ ids.Nodup := by
 have hc : ∀ id ∈ ids, id < a.Ns.length ∨ id = 32 := fun id hid => by
  rcases (h.can_ id).2 (.inl hid) with ⟨N, hN, _⟩ | ⟨_, h2, _⟩
  ·exact .inl (get_lt hN)
  ·exact .inr h2
 have hl : ids.length ≤ (List.range a.Ns.length ++ [32]).length := sub_len ids _ h.nd (fun x hx => by
  rw [List.mem_append, List.mem_range, List.mem_singleton]
  exact hc x hx)
 simp only [List.length_append, List.length_range, List.length_cons, List.length_nil] at hl
 exact ⟨fun id hid => by rcases hc id hid with h1 | h1 <;> omega, by omega, by omega, h.some_, h.nd⟩
end
end
section
open Go.RowKit AmC
variable {c i id : Nat} {H : Nat → Nat} {e ids ids' : List Nat} {a a' : Pool}
def aliveE (j : Nat) : Ent := ⟨j, j + 1, j * 1152921504606846976⟩
def aliveL : Nat → List Ent
 | 0 => []
 | i + 1 => aliveE i :: aliveL i
def aliveH (k : Nat) : Nat := k * 1152921504606846976 % 18446744073709551616
theorem aliveE_ok (hi : i < 4) : EntOk aliveH (aliveE i) := by
 unfold aliveE aliveH
 exact ⟨by simp only; omega, by simp only; omega, by simp only; omega, by simp only; omega⟩
theorem aliveL_len : ∀ i, (aliveL i).length = i
 | 0 => rfl
 | i + 1 => by unfold aliveL; rw [List.length_cons, aliveL_len i]
structure AliveSt (i : Nat) (a : Pool) (ids : List Nat) : Prop where
 ids_ : ids = []
 ents : a.ents.Perm (aliveL i)
 nd : ∃ N, a.Ns = [N] ∧ N.ph = .idle ∧ N.len = 1 ∧ N.dpt = 0 ∧ N.kind = 0 ∧ load N.T ≤ i
theorem alive0 : AliveSt 0 pool0 [] := by
 obtain ⟨h1, h2, h3⟩ := tg_bare (n := 1) (.inl rfl)
 refine ⟨rfl, by rw [ents0]; exact .refl _, nd0, rfl, rfl, prepG_length (Nat.le_refl 1), rfl, rfl, ?_⟩
 show load (prepT 1 1) ≤ 0
 rw [h3]; exact Nat.le_refl _
theorem oth_nil (h : Oth Pool.left (Pool.step H) c ids a e ids' a') (hn : ids = []) : e = [] ∧ ids' = [] ∧ a' = a := by
 cases h with
 | nil => exact ⟨rfl, rfl, rfl⟩
 | broke => exact ⟨rfl, hn, rfl⟩
 | ended => cases hn
 | step => cases hn
theorem oth_one (h : Oth Pool.left (Pool.step H) c ids a e ids' a') (hc : 1 ≤ c) (hn : ids = [id]) (h0 : a.left id = 0) : e = [id] ∧ ids' = [] ∧ a' = a := by
 cases h with
 | nil => cases hn
 | broke => omega
 | ended h1 r =>
  obtain ⟨rfl, hn2⟩ := List.cons.inj hn
  obtain ⟨e1, e2, e3⟩ := oth_nil r hn2
  rw [e1]
  exact ⟨rfl, e2, e3⟩
 | step h1 hs r =>
  obtain ⟨rfl, _⟩ := List.cons.inj hn
  omega
theorem ends_nil {l : List Nat} (h : EndAll H a l a') (hl : l = []) : a' = a := by
 cases h with
 | nil => rfl
 | cons => cases hl
theorem ends_one {l : List Nat} (h : EndAll H a l a') (hl : l = [id]) : EndS H a id a' := by
 cases h with
 | nil => cases hl
 | cons h1 r =>
  obtain ⟨rfl, h2⟩ := List.cons.inj hl
  rw [ends_nil r h2]; exact h1
theorem alive_node (hA : AliveSt i a ids) (ho : ∀ (i : Nat) (N : Nd), a.Ns[i]? = some N → NOk H N) (hw : WrS H 1 a ids [] [aliveE i] a' ids') :
  ∃ N1, NOk H N1 ∧ N1.ph = .idle ∧ N1.len = 1 ∧ N1.dpt = 0 ∧ N1.kind = 0 ∧ load N1.T ≤ i + 1 ∧ (entsT N1.T.gs).length = i + 1 ∧ Maint H 1 { a with Ns := [N1] } [] 0 a' ids' ∧ a'.ents.Perm (aliveL (i + 1)) := by
 obtain ⟨id, N0, N1, hN, hw, hm, hch, hp⟩ := hw
 obtain ⟨N, n1, n2, n3, n4, n5, n6⟩ := hA.nd
 have hid : id = 0 := by
  have := get_lt hN
  rw [n1] at this
  simpa using this
 subst hid
 rw [n1] at hN
 have hNN : N0 = N := (Option.some.inj hN).symm
 subst hNN
 have hL := hw.like
 have hset : a.Ns.set 0 N1 = [N1] := by rw [n1]; rfl
 rw [hset] at hm hp
 have hb : N1.ph = .idle := busy_of (by rw [hL.busy, n2]; rfl)
 have hpe : a'.ents.Perm (aliveL (i + 1)) := by
  obtain ⟨r, r1, r2⟩ := hch
  refine r2.trans ?_
  unfold aliveL
  simp only [List.singleton_append]
  exact ((by simpa using r1.symm : r.Perm a.ents).trans hA.ents).cons _
 refine ⟨N1, hw.ok, hb, hL.len.trans n3, hL.dpt.trans n4, hL.kind.trans n5, ?_, ?_, hA.ids_ ▸ hm, hpe⟩
 ·have := hw.ld n2
  simp at this; omega
 ·have h1 := hp.length_eq
  have h2 := hpe.length_eq
  rw [aliveL_len] at h2
  have h3 : ([N1].flatMap Nd.ents) = entsT N1.T.gs := by simp [Nd.ents, hb, frs, entsTs]
  rw [h3] at h1
  omega
theorem alive_next (hi : i < 3) (hA : AliveSt i a ids) (ho : ∀ (i : Nat) (N : Nd), a.Ns[i]? = some N → NOk H N) (hw : WrS H 1 a ids [] [aliveE i] a' ids') : AliveSt (i + 1) a' ids' := by
 obtain ⟨N1, k1, k2, k3, k4, k5, k6, k7, hm, hp⟩ := alive_node hA ho hw
 have hld := k1.tg.loadI
 have hnb : needsB N1.T.live N1.T.tombs N1.len = false := by
  unfold needsB
  rw [k3]
  have h1 := k1.tg.ok.live
  have h2 := k1.tg.ok.tombs
  simp only [Bool.or_eq_false_iff, decide_eq_false_iff_not]
  omega
 have hwh : ∀ gl, whichK N1.T.live N1.T.tombs N1.len N1.dpt gl = 0 := fun gl => by unfold whichK; rw [if_pos hnb]
 obtain ⟨a1, ids1, a2, ids2, a3, e1, ids3, a4, h1, h2, h3, h4, h5, h6⟩ := hm.ex
 have hget : ∀ X : Nd, ({ a with Ns := [N1] } : Pool).Ns[0]? = some X → X = N1 := fun X hX => (Option.some.inj hX).symm
 obtain ⟨g1, g2⟩ : a1 = { a with Ns := [{ N1 with sl := 0 }] } ∧ ids1 = [] := by
  cases h1 with
  | busy hN hb => have := hget _ hN; subst this; rw [k2] at hb; cases hb
  | none hN hi hk => have := hget _ hN; subst this; exact ⟨rfl, rfl⟩
  | start hN hi hk h0 => have := hget _ hN; subst this; rw [hwh] at hk; exact absurd hk.symm h0
 subst g1 g2
 obtain ⟨g3, g4⟩ : a2 = { a with Ns := [{ N1 with sl := 0 }] } ∧ ids2 = [] := by
  cases h2 with
  | not => exact ⟨rfl, rfl⟩
  | yes hp2 =>
   obtain ⟨X, hX, hd⟩ := hp2
   have := hget _ hX
   subst this
   rw [which_dbl (hwh _)] at hd
   cases hd
 subst g3 g4
 have g5 : a3 = { a with Ns := [{ N1 with sl := 0 }] } := by
  rcases h3 with ⟨_, e⟩ | ⟨e, _⟩
  ·exact e
  ·cases e
 obtain ⟨o1, o2, o3⟩ := oth_nil h4 rfl
 have g6 := ends_nil h5 (by rw [o1, o2]; rfl)
 refine ⟨by rw [h6, o2]; rfl, hp, { N1 with sl := 0 }, by rw [g6, o3, g5], k2, k3, k4, k5, k6⟩
theorem alive_last (hA : AliveSt 3 a ids) (ho : ∀ (i : Nat) (N : Nd), a.Ns[i]? = some N → NOk H N) (hw : WrS H 1 a ids [] [aliveE 3] a' ids') : ids' = [] ∧ a'.ents.Perm (aliveL 4) ∧ a'.groups = 2 := by
 obtain ⟨N1, k1, k2, k3, k4, k5, k6, k7, hm, hp⟩ := alive_node hA ho hw
 have h1' := k1.tg.ok.live
 have hl4 : N1.T.live = 4 := by rw [h1', k7]; rfl
 have hnb : needsB N1.T.live N1.T.tombs N1.len = true := by
  unfold needsB
  rw [k3, hl4]
  simp
 have hwh : ∀ gl, whichK N1.T.live N1.T.tombs N1.len N1.dpt gl = 2 := fun gl => by
  unfold whichK
  rw [if_neg (by rw [hnb]; simp), hl4, k3, if_neg (by decide), if_neg (by omega), if_pos (by decide)]
 have hdb : ∀ gl, doubleB N1.T.live N1.T.tombs N1.len N1.dpt gl = false := fun gl => by
  unfold doubleB
  rw [k3]
  simp
 obtain ⟨a1, ids1, a2, ids2, a3, e1, ids3, a4, h1, h2, h3, h4, h5, h6⟩ := hm.ex
 have hget : ∀ X : Nd, ({ a with Ns := [N1] } : Pool).Ns[0]? = some X → X = N1 := fun X hX => (Option.some.inj hX).symm
 obtain ⟨g1, g2⟩ : a1 = { a with Ns := [N1.start 2] } ∧ ids1 = [0] := by
  cases h1 with
  | busy hN hb => have := hget _ hN; subst this; rw [k2] at hb; cases hb
  | none hN hi hk => have := hget _ hN; subst this; rw [hwh] at hk; cases hk
  | @start _ kind hN hi hk h0 =>
   have := hget _ hN
   subst this
   rw [hwh] at hk
   subst hk
   exact ⟨rfl, rfl⟩
 subst g1 g2
 obtain ⟨g3, g4⟩ : a2 = { a with Ns := [N1.start 2] } ∧ ids2 = [0] := by
  cases h2 with
  | not => exact ⟨rfl, rfl⟩
  | yes hp2 =>
   obtain ⟨X, hX, hd⟩ := hp2
   have := hget _ hX
   subst this
   rw [hdb] at hd
   cases hd
 subst g3 g4
 have hleft : Pool.left { a with Ns := [N1.start 2] } 0 = 3 := by
  show (N1.start 2).left = 3
  show N1.len + ((N1.start 2).each * (N1.start 2).many - 0) = 3
  have e1 : (N1.start 2).each = 2 * N1.len := rfl
  have e2 : (N1.start 2).many = 1 := rfl
  rw [e1, e2, k3]
 rcases h3 with ⟨e, _⟩ | ⟨_, m, hs, hm8, hor⟩
 ·exact absurd (by simp) e
 ·obtain ⟨s1, s2, s3, s4, s5⟩ := stepN_ok hs
  rw [hleft] at s4
  have hz : a3.left 0 = 0 := by rcases hor with e | e <;> omega
  obtain ⟨o1, o2, o3⟩ := oth_one h4 (Nat.le_refl _) rfl hz
  have hE := ends_one (id := 0) h5 (by rw [o1, o2]; rfl)
  rw [o3] at hE
  have hlen : a3.Ns.length = 1 := s1.len
  obtain ⟨N3, hN3⟩ : ∃ N3, a3.Ns[0]? = some N3 := ⟨_, List.getElem?_eq_getElem (by omega)⟩
  obtain ⟨N2, hN2, hL, _⟩ := s1.nds 0 N3 hN3
  have hN2' : N2 = N1.start 2 := (Option.some.inj hN2).symm
  subst hN2'
  refine ⟨by rw [h6, o2]; rfl, hp, ?_⟩
  cases hE with
  | @one _ N X hN hb hl ho hm hk he hx =>
   rw [hN3] at hN
   have : N3 = N := Option.some.inj hN
   subst this
   have h8 : a3.Ns.set 0 (Nd.mk N3.pfx N3.dpt 0 0 X .idle) = [Nd.mk N3.pfx N3.dpt 0 0 X .idle] := by
    obtain ⟨y, hy⟩ := List.length_eq_one_iff.1 hlen
    rw [hy]; rfl
   show ((a3.Ns.set 0 (Nd.mk N3.pfx N3.dpt 0 0 X .idle)).map Nd.groups).sum = 2
   rw [h8]
   show X.gs.length + 0 = 2
   rw [hx, hL.each]
   show 2 * N1.len + 0 = 2
   rw [k3]
  | @two _ N X Y hN hb hl ho hmm hd hk hk2 he hx hy =>
   exfalso
   rw [hN3] at hN
   have : N3 = N := Option.some.inj hN
   subst this
   rw [hL.many] at hmm
   have e2 : (N1.start 2).many = 1 := rfl
   omega
theorem alive_look {l : List Ent} (h : l.Perm (aliveL 4)) : look l 2 = some ⟨2, 3, 2305843009213693952⟩ := by
 have hn : ((aliveL 4).map Ent.key).Nodup := by decide
 rw [look_perm h ((h.map Ent.key).nodup_iff.2 hn)]
 decide
end
end Go.Proofs.YtfojgfddgplinaaGreatDoor
