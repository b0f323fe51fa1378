/- The iterators that are open: At of one that is not there, Close, EndAll. No statement of the claim. -/
import Derived.Test.YtckmopailiamlaaGreatDoorRmE
import Derived.Test.YtckmopailiamlaaGreatDoorLaneP
import Derived.Maps.RangeWalk
import Derived.Test.YtckmopailiamlaaGreatDoorSqM
import Derived.Test.YtckmopailiamlaaGreatDoorCoO
import Derived.Test.YtckmopailiamlaaGreatDoorCoDA
import Ieee.Arith
namespace Go.Proofs.YtckmopailiamlaaGreatDoor
set_option maxRecDepth 100000
set_option maxHeartbeats 4000000
open Go.RowKit AmC Go.MapKept Ieee
open Go.ChangeMaps (setBlock heap_setBlock_same heap_setBlock_other)
variable {ops : Array Oper} {rest : List Oper} {o : Oper} {a : Act} {Q : Exit → Act → World → Prop} {r : Nat} {seen : Array Nat} {w2 : World}
theorem map_erase {α β : Type} (f : α → β) : ∀ (l : List α) (j : Nat), (l.map f).eraseIdx j = (l.eraseIdx j).map f
 | [], _ => by simp
 | x :: l, 0 => rfl
 | x :: l, j + 1 => by simp [map_erase f l j]
section
variable {P : Program} {w w' : World} {b g : Nat} {l : List (Nat × Nat)} {t k e : TypeId}
theorem MapL.del (h : MapL w b g l) (ht : P.underlying t = some (.map k e)) (hk : P.underlying k = some (.int .i64)) {j : Nat} {p : Nat × Nat} (hj : l[j]? = some p) (hn : (l.map Prod.fst).Nodup) (ty : TypeId) :
  (Builtin.delete_ #[t, k] ty #[.map (some b), .int .i64 (p.1 : Int)]).run P w = .ok (.tuple #[]) (setBlock w b (.map ((l.eraseIdx j).map mEnt).toArray g)) := by
 obtain ⟨a, h1, h2, h4⟩ := find_now (p.1 : Int) l 0
 have h3 := run_findKey (P := P) (w := w) hk h1
 cases a with
 | none =>
  have : findL l (p.1 : Int) = none := by cases hf : findL l (p.1 : Int) with | none => rfl | some q => rw [hf] at h2; cases h2
  exact absurd rfl (findL_none.1 this p (List.mem_of_getElem? hj))
 | some q =>
  obtain ⟨i, v⟩ := q
  obtain ⟨j', h5, h6⟩ := h4 _ rfl
  have hij : i = j := by
   simp only [Nat.zero_add] at h5
   rw [List.getElem?_map] at h6
   cases hq : l[j']? with
   | none => rw [hq] at h6; cases h6
   | some q' =>
    rw [hq] at h6
    have e0 : (q'.1 : Int) = (p.1 : Int) := by simpa using h6
    have e1 : q'.1 = p.1 := by omega
    have a1 : (l.map Prod.fst)[j']? = some p.1 := by rw [List.getElem?_map, hq]; simp [e1]
    have a2 : (l.map Prod.fst)[j]? = some p.1 := by rw [List.getElem?_map, hj]; rfl
    obtain ⟨b1, b2⟩ := List.getElem?_eq_some_iff.1 a1
    obtain ⟨b3, b4⟩ := List.getElem?_eq_some_iff.1 a2
    rw [h5]
    have hp := List.pairwise_iff_getElem.1 hn
    rcases Nat.lt_trichotomy j' j with z | z | z
    ·exact absurd (b2.trans b4.symm) (hp _ _ b1 b3 z)
    ·exact z
    ·exact absurd (b4.trans b2.symm) (hp _ _ b3 b1 z)
  subst hij
  simp [Builtin.delete_, run_underlying ht, Go.MapKept.run_getObj_map (show w.heap[b]? = some (.map (l.map mEnt).toArray g) from h), run_checkKey hk key_int, h3, Go.MapKept.run_setObj_map _ (show w.heap[b]? = some (.map (l.map mEnt).toArray g) from h), Result.andThen, setBlock, map_erase]
theorem wpList_nextL (hg : o.guard = none) (it : Operand) (hop : o.op = Op.next it false) (hl : ∀ p ∈ l, 1 ≤ p.1 ∧ p.1 ≤ g) (hnd : (l.map Prod.fst).Nodup) (hit : a.eval it = .pointer (some ⟨r, 0, none⟩)) (h : MapL w b g l) (hr : w.heap[r]? = some (.mapIter (some b) g seen g)) (hDone : Hid (∀ p ∈ l, seen.contains (p.1 - 1) = true) → wpList P ops Q rest (a.put o.dst (.tuple #[.bool false])) w) (hMore : ∀ (n c : Nat) (w' : World), Hid ((n, c) ∈ l ∧ MapL w' b g l ∧ w'.heap[r]? = some (.mapIter (some b) g (seen.push (n - 1)) g) ∧ (leftOf (l.map mEnt).toArray (seen.push (n - 1))).size < (leftOf (l.map mEnt).toArray seen).size ∧ Mod [r] w w') →
   (Instr.entry (.pointer (some ⟨r, 0, none⟩))).run P w' = .ok (.tuple #[.int .i64 (n : Int), .pointer (some ⟨c, 0, none⟩)]) w' → wpList P ops Q rest (a.put o.dst (.tuple #[.bool true, .int .i64 (n : Int), .pointer (some ⟨c, 0, none⟩)])) w') :
  wpList P ops Q (o :: rest) a w := by
 refine wpList_plain hg fun K' hK' => ?_
 unfold Oper.wp
 have hne : r ≠ b := fun e => by
  have h1 : w.heap[b]? = some (.map (l.map mEnt).toArray g) := h
  rw [← e, hr] at h1; cases h1
 have hold : ∀ x ∈ ((l.map mEnt).toArray).toList, x.born < g := fun x hx => by
  obtain ⟨p, hp, rfl⟩ : ∃ p ∈ l, mEnt p = x := by simpa using hx
  have := hl p hp
  show p.1 - 1 < g
  omega
 have hbn : ((l.map mEnt).toArray.toList.map (·.born)).Nodup := by
  have e1 : (l.map mEnt).toArray.toList.map (·.born) = l.map fun p => p.1 - 1 := by simp [mEnt, Function.comp_def]
  rw [e1]
  unfold List.Nodup at hnd ⊢
  rw [List.pairwise_map] at hnd ⊢
  exact hnd.imp_of_mem fun ha hb hne e => hne (by have := hl _ ha; have := hl _ hb; omega)
 rcases run_next_at (P := P) w o.type r b g g seen (l.map mEnt).toArray g hr h hold (Nat.le_refl _) with ⟨h0, hrun⟩ | ⟨x, hx, w1, hal, hrun⟩
 ·simp [execOp, hop, hit, hrun, Result.andThen]
  exact hK' _ _ (hDone <| qd fun p hp => all_seen _ seen h0 (mEnt p) (List.mem_map_of_mem hp))
 ·obtain ⟨hem, hes⟩ := mem_left hx
  obtain ⟨p, hp, rfl⟩ : ∃ p ∈ l, mEnt p = x := by simpa using hem
  have hr1 : w1.heap[r]? = some (.mapIter (some b) g seen g) := by rcases hal with rfl | rfl <;> exact hr
  have hb1 : w1.heap[b]? = some (.map (l.map mEnt).toArray g) := by rcases hal with rfl | rfl <;> exact h
  have hset := heap_set (o' := .mapIter (some b) g (seen.push (mEnt p).born) g) hr1
  have hb' := (hset.2 b (fun e1 => hne e1.symm)).trans hb1
  have hmod : Mod [r] w (setBlock w1 r (.mapIter (some b) g (seen.push (mEnt p).born) g)) := by
   rcases hal with rfl | rfl
   ·exact ⟨rfl, rfl, rfl, by simp [setBlock], fun k _ hn => hset.2 k (fun e => hn (by simp [e]))⟩
   ·exact ⟨rfl, rfl, rfl, by simp [setBlock], fun k _ hn => hset.2 k (fun e => hn (by simp [e]))⟩
  simp [execOp, hop, hit, hrun, Result.andThen]
  exact hK' _ _ (hMore p.1 p.2 _ (qd ⟨hp, hb', hset.1, left_shrinks _ seen _ hx, hmod⟩) (run_entry_at _ r b g seen _ g (mEnt p) hset.1 hb' hem hbn))
theorem wpList_rangeL (hg : o.guard = none) (m : Operand) (hop : o.op = Op.range t m) (ht : P.underlying t = some (.map k e)) (hm : a.eval m = .map (some b)) (h : MapL w b g l) (hK : wpList P ops Q rest (a.put o.dst (.pointer (some ⟨w.heap.size, 0, none⟩))) (w.alloc (.mapIter (some b) g #[] g))) : wpList P ops Q (o :: rest) a w := by
 refine wpList_plain hg fun K' hK' => ?_
 have hrun := run_range_map w t k e b (l.map mEnt).toArray g ht h
 unfold Oper.wp
 simp [execOp, hop, hm, hrun, Result.andThen]
 exact hK' _ _ hK
end
theorem rangeLeft_of {w : World} {b g : Nat} {l : List (Nat × Nat)} {m : Option Nat} {s c : Nat} (h : MapL w b g l) (hr : w.heap[r]? = some (.mapIter m s seen c)) : w.rangeLeft b r = (leftOf (l.map mEnt).toArray seen).size := by
 have h1 : w.heap[b]? = some (.map (l.map mEnt).toArray g) := h
 unfold World.rangeLeft
 rw [h1, hr]
section
variable {w : World} {ib mb most given : Nat} {its : List It}
theorem itMap_fst (its : List It) : (itMap its).map Prod.fst = its.map It.id := by unfold itMap; rw [List.map_map]; rfl
theorem ItAt.mb_cb (h : ItAt w ib mb most given its) {i : It} (hi : i ∈ its) : mb ≠ i.cb ∧ ib ≠ i.cb ∧ ib ≠ mb := by
 have := h.nf
 unfold itFoot at this
 rw [List.nodup_cons, List.nodup_cons] at this
 have hm := List.mem_map_of_mem (f := It.cb) hi
 exact ⟨fun e => this.2.1 (e ▸ hm), fun e => this.1 (List.mem_cons_of_mem _ (e ▸ hm)), fun e => this.1 (by rw [e]; simp)⟩
theorem ItAt.cb_inj (h : ItAt w ib mb most given its) {i j : It} (hi : i ∈ its) (hj : j ∈ its) (e : i.cb = j.cb) : i = j := by
 have hn : (its.map It.cb).Nodup := by
  have := h.nf
  unfold itFoot at this
  rw [List.nodup_cons, List.nodup_cons] at this
  exact this.2.2
 clear h
 induction its with
 | nil => cases hi
 | cons x l ih =>
  rw [List.map_cons, List.nodup_cons] at hn
  rcases List.mem_cons.1 hi with h1 | h1
  ·rcases List.mem_cons.1 hj with h2 | h2
   ·rw [h1, h2]
   ·exact absurd (show x.cb ∈ l.map It.cb from by rw [← h1, e]; exact List.mem_map_of_mem h2) hn.1
  ·rcases List.mem_cons.1 hj with h2 | h2
   ·exact absurd (show x.cb ∈ l.map It.cb from by rw [← h2, ← e]; exact List.mem_map_of_mem h1) hn.1
   ·exact ih h1 h2 hn.2
def It.ended (i : It) : It := ⟨i.id, i.cb, ⟨0, 0, true⟩⟩
theorem ItAt.ended (h : ItAt w ib mb most given its) (hb : Blk w2 ib 98 #[.int .i64 (most : Int), .int .i64 (given : Int), .map (some mb)]) (hm : MapL w2 mb given (itMap its)) (hc : ∀ i ∈ its, CurAt w2 i.cb ⟨0, 0, true⟩) : ItAt w2 ib mb most given (its.map It.ended) := by
 have e1 : (its.map It.ended).map It.cb = its.map It.cb := by rw [List.map_map]; rfl
 have e2 : (its.map It.ended).map It.id = its.map It.id := by rw [List.map_map]; rfl
 refine ⟨hb, by unfold itMap at hm ⊢; rw [List.map_map]; exact hm, fun i hi => ?_, fun i hi => ?_, by rw [e2]; exact h.nd, by have := h.nf; unfold itFoot at this ⊢; rw [e1]; exact this, h.few.1, by rw [List.length_map]; exact h.few.2⟩
 ·obtain ⟨i', hi', rfl⟩ := List.mem_map.1 hi
  exact hc i' hi'
 ·obtain ⟨i', hi', rfl⟩ := List.mem_map.1 hi
  exact h.ids i' hi'
theorem iters_EndAll (h : ItAt w ib mb most given its) : Calls Tryz.prog 33 #[.pointer (some ⟨ib, 0, none⟩)] w fun y w' => y = .returned undef ∧ ItAt w' ib mb most given (its.map It.ended) ∧ Mod (its.map It.cb) w w' := by
 have c2 := h.blk.cell 2
 simp only [gl] at c2
 have HH := qd h
 have HL := qd (show (∀ p ∈ itMap its, 1 ≤ p.1 ∧ p.1 ≤ given) ∧ ((itMap its).map Prod.fst).Nodup from ⟨fun p hp => by obtain ⟨i, hi, rfl⟩ := List.mem_map.1 hp; exact h.ids i hi, by rw [itMap_fst]; exact h.nd⟩)
 have hb0 := (Below.refl w.heap.size w).alloc (Nat.le_refl _) (.mapIter (some mb) given #[] given)
 have hm0 := Mod.of_below hb0 []
 have HM := qd (h.map.mod hm0 (by simp))
 have HB := qd (h.blk.mod hm0 (by simp))
 have HC := qd (show ∀ i ∈ its, CurAt (w.alloc (.mapIter (some mb) given #[] given)) i.cb (if (#[] : Array Nat).contains (i.id - 1) = true then ⟨0, 0, true⟩ else i.c) from fun i hi => by
  rw [if_neg (by simp)]
  exact (h.cur i hi).mod hm0 (by simp))
 have HW := qd (Mod.of_below hb0 (its.map It.cb))
 have hit := heap_alloc_new w (.mapIter (some mb) given #[] given)
 obtain ⟨r, hr⟩ : ∃ r, r = w.heap.size := ⟨_, rfl⟩
 have HR := qd (show ∀ q ∈ itFoot ib mb its, q < r from fun q hq => by rw [hr]; exact h.lts q hq)
 have HR2 := qd (show w.heap.size ≤ r by omega)
 have hmp := h.map
 clear h hb0 hm0
 go_in
 go_wp2_with (at_range; refine wpList_rangeL rfl _ rfl Tryz.underlying96 rfl hmp ?_)
 clear hmp c2
 rw [← hr] at hit ⊢
 obtain ⟨W, hW⟩ : ∃ W, W = w.alloc (.mapIter (some mb) given #[] given) := ⟨_, rfl⟩
 rw [← hW] at HM HB HC HW hit ⊢
 have HI := qd hit
 clear hW hit hr
 go_frame
 go_loopw [3] (fun _ wr => ∃ seen : Array Nat, Hid (wr.heap[r]? = some (.mapIter (some mb) given seen given)) ∧ Hid (MapL wr mb given (itMap its)) ∧ Hid (Blk wr ib 98 #[.int .i64 (most : Int), .int .i64 (given : Int), .map (some mb)]) ∧ Hid (∀ i ∈ its, CurAt wr i.cb (if seen.contains (i.id - 1) = true then ⟨0, 0, true⟩ else i.c)) ∧ Hid (Mod (its.map It.cb) w wr)) (fun _ wr => wr.rangeLeft mb r)
 case atStart => exact ⟨_, HI, HM, HB, HC, HW⟩
 case round =>
  clear HI HM HB HC HW
  obtain ⟨seen, HI, HM, HB, HC, HW⟩ := hrel
  go_wp2_with (at_next; refine wpList_nextL rfl _ rfl HL.out.1 HL.out.2 rfl HM.out HI.out ?_ ?_)
  ·intro hd
   go_wp2
   go_end0
   exact ⟨rfl, HH.out.ended HB.out HM.out (fun i hi => by
    have h1 := HC.out i hi
    rwa [if_pos (by have h2 := hd.out i.id i.cb (List.mem_map.2 ⟨i, hi, rfl⟩); simpa using h2)] at h1), HW.out⟩
  ·intro n cb w1 hx hen
   obtain ⟨i, hi, hic⟩ := List.mem_map.1 hx.out.1
   obtain ⟨rfl, rfl⟩ := Prod.mk.inj hic
   have hrc : r ∉ its.map It.cb := fun hh => by have := HR.out r (by unfold itFoot; simp only [List.mem_cons]; exact .inr (.inr hh)); omega
   have hcs : ∀ k ∈ its, k.cb ∉ [r] := fun k hk hh => hrc (List.mem_singleton.1 hh ▸ List.mem_map_of_mem hk)
   have hm1 := hx.out.2.2.2.2
   have hir : ib ∉ [r] := fun hh => by have := HR.out ib (by simp [itFoot]); rw [List.mem_singleton.1 hh] at this; omega
   have HB1 := qd (HB.out.mod hm1 hir)
   have HC1 := qd (show ∀ i ∈ its, CurAt w1 i.cb (if seen.contains (i.id - 1) = true then ⟨0, 0, true⟩ else i.c) from fun k hk => (HC.out k hk).mod hm1 (hcs k hk))
   have HE := qd (cursor_End (HC1.out i hi))
   have HX := qd hx.out
   have HRc := qd hrc
   have HIi := qd hi
   have hw1 : Mod (its.map It.cb) w w1 := HW.out.trans hm1 (fun _ h _ => h) (fun q hq hl => by rw [List.mem_singleton.1 hq] at hl; have := HR2.out; omega)
   have HW1 := qd hw1
   clear hx hm1 hir hcs hrc hi hic hw1
   go_wp2_with fail
   refine HE.out.mono ?_
   rintro y w2 ⟨rfl, hc2, hm2⟩
   have hi := HIi.out
   have hx := HX.out
   obtain ⟨n1, n2, _⟩ := HH.out.mb_cb hi
   have hnr : r ∉ [i.cb] := fun hh => HRc.out (by rw [List.mem_singleton.1 hh]; exact List.mem_map_of_mem hi)
   have HM2 := qd (hx.2.1.mod hm2 (fun hh => n1 (List.mem_singleton.1 hh)))
   have HB2 := qd (HB1.out.mod hm2 (fun hh => n2 (List.mem_singleton.1 hh)))
   have HI2 := qd ((hm2.block r (Array.getElem?_eq_some_iff.1 hx.2.2.1).1 hnr).trans hx.2.2.1)
   have HC2 := qd (show ∀ k ∈ its, CurAt w2 k.cb (if (seen.push (i.id - 1)).contains (k.id - 1) = true then ⟨0, 0, true⟩ else k.c) from fun k hk => by
    by_cases hki : k.id = i.id
    ·obtain rfl := nodup_map_eq HH.out.nd hk hi hki
     rw [if_pos (by simp)]
     exact hc2
    ·have a1 := HH.out.ids k hk
     have a2 := HH.out.ids i hi
     have e1 : (seen.push (i.id - 1)).contains (k.id - 1) = seen.contains (k.id - 1) := by
      have : ¬ k.id - 1 = i.id - 1 := by omega
      simp [this]
     rw [e1]
     exact (HC1.out k hk).mod hm2 (fun hh => hki (by rw [HH.out.cb_inj hk hi (List.mem_singleton.1 hh)])))
   have HW2 := qd (HW1.out.trans hm2 (fun _ h _ => h) (fun q hq _ => by rw [List.mem_singleton.1 hq]; exact List.mem_map_of_mem hi))
   have HMe := qd (show w2.rangeLeft mb r < wr.rangeLeft mb r by rw [rangeLeft_of HM2.out HI2.out, rangeLeft_of HM.out HI.out]; exact hx.2.2.2.1)
   clear hi hx n1 n2 hnr hm2 hc2
   go_wp2
   go_roundw
   all_goals first | exact ⟨⟨_, HI2, HM2, HB2, HC2, HW2⟩, HMe.out⟩ | exact ⟨_, HI2, HM2, HB2, HC2, HW2⟩ | exact HMe.out
end
end Go.Proofs.YtckmopailiamlaaGreatDoor

/-! A map's Close and Clear by their contracts. No statement of the claim. -/
namespace Go.Proofs.YtckmopailiamlaaGreatDoor
set_option maxRecDepth 100000
set_option maxHeartbeats 4000000
open Go.RowKit AmC Go.MapKept Ieee
open Go.ChangeMaps (setBlock heap_setBlock_same heap_setBlock_other)
variable {I M b gv ib mb : Nat} {its : List It} {H : Nat → Nat} {a : Pool} {W0 w : World} {E : Nat → Addr} {ids : List Nat}
theorem itFoot_ended : itFoot ib mb (its.map It.ended) = itFoot ib mb its := by
 unfold itFoot
 rw [List.map_map]; rfl
theorem groups_small (h : ∀ (i : Nat) (N : Nd), a.Ns[i]? = some N → NOk H N) (h32 : a.Ns.length ≤ 32) : a.groups ≤ 6144 := by
 have hs : ∀ l : List Nd, (∀ N ∈ l, N.groups ≤ 192) → (l.map Nd.groups).sum ≤ 192 * l.length := fun l => by
  induction l with
  | nil => simp
  | cons x l ih =>
   intro hx
   have h1 := hx x (by simp)
   have h2 := ih fun N hN => hx N (by simp [hN])
   simp only [List.map_cons, List.sum_cons, List.length_cons]
   omega
 have := hs a.Ns fun N hN => by
  obtain ⟨i, hi⟩ := List.getElem?_of_mem hN
  exact groups_le (h i N hi)
 unfold Pool.groups
 omega
theorem RtS.newC {K : Nat} {G0 : List Nat} {w0 : World} {C C' : RmC} {GC GC' : List Nat} {w' : World} {a' : Pool} {ids' : List Nat} (h : RtS W0 E H K M I b G0 w0 C GC mb gv w a ids its) (hc : CoreAt W0 E H K M C'.cb GC' w' a' ids') (hB : RmB w' b C') (hk : C'.k = C.k ∧ C'.m = C.m ∧ C'.i = C.i ∧ C'.ib = C.ib) (hm : Mod [b] w w') (hn : ∀ q ∈ GC', q ≠ b ∧ q ∉ itFoot C.ib mb its ∧ w0.heap.size ≤ q) : RtS W0 E H K M I b G0 w0 C' GC' mb gv w' a' ids' its := by
 obtain ⟨k1, k2, k3, k5⟩ := hk
 refine ⟨hB, by rw [k1, k2, k3]; exact h.cfg, hc, by rw [k5]; exact h.itr.mod hm (fun q hq hs => h.apart.2.1 (List.mem_singleton.1 hs ▸ hq)), by rw [k5]; exact h.b0, by rw [k5]; exact ⟨fun hg => (hn b hg).1 rfl, h.apart.2.1, fun q hq hg => (hn q hg).2.1 hq⟩, fun q hq => ?_, h.mod.within hm (fun q hq => by rw [List.mem_singleton.1 hq]; exact h.sub b (mem_rtFoot.2 (.inl rfl))), h.le0⟩
 rcases mem_rtFoot.1 hq with k | k | k
 ·exact h.sub q (mem_rtFoot.2 (.inl k))
 ·rw [k5] at k; exact h.sub q (mem_rtFoot.2 (.inr (.inl k)))
 ·exact .inr (hn q k).2.2
theorem rt_Clear {Kk : Nat} {G : List Nat} {lst : Cnt} (h : RtAt W0 E H Kk M I b G w a ids its gv lst) (hM : 1 ≤ M) (hI : 1 ≤ I) : Calls Tryz.prog 10 #[.pointer (some ⟨b, 0, none⟩)] w fun y w' => y = .returned undef ∧ ∃ lst', RtTo W0 E H Kk M I b G w w' pool0 [] (its.map It.ended) gv lst' := by
 obtain ⟨C, GC, mb, hS, rfl, hlst⟩ := h
 have hbk := hS.blk.blk
 unfold RmC.cells at hbk
 have c16 := hbk.cell 16
 simp only [gl] at c16
 have HSt := qd hS
 obtain ⟨g1, g2, g3⟩ := hS.cfg
 have HKM := qd hS.core.facts
 have hcf : cfgOk (Kk : Int) (M : Int) (I : Int) = true := by
  have h1 := hS.core.facts.2.2.2.2.2.2.2.1
  have h2 := hS.core.facts.2.2.2.2.2.2.2.2.1
  have h3 := hS.itr.few.1
  unfold cfgOk inB
  simp
  omega
 have hnb := core_New H hS.core.facts.2.2.2.2.2.2.2.2.2.2.2 (Kk : Int) (M : Int) (I : Int) hcf Kk M I ⟨hS.core.facts.2.2.2.2.2.2.2.2.1, ⟨hM, hS.core.facts.2.2.2.2.2.2.2.1⟩, rfl, rfl, rfl⟩
 unfold cfgV coreP at hnb
 have HNw := qd hnb
 obtain ⟨c0, c1, c2⟩ := hbk.c3
 rw [g1] at c0
 rw [g2] at c1
 rw [g3] at c2
 clear hnb hbk hS hcf g1 g2 g3 c16
 go_in
 go_wp2_with fail
 refine HNw.out.mono ?_
 rintro y w1 ⟨cb, rfl, hnew⟩
 obtain ⟨GN, hC, hsu, hmo⟩ := new_at hnew
 have hb1 := hmo.to_below
 have hS1 := HSt.out.below hb1
 have HC := qd hC
 have HSu := qd (show ∀ q ∈ GN, w.heap.size ≤ q from fun q hq => (hsu q hq).elim (fun k => by cases k) (fun k => k))
 have HGl := qd (show ∀ q ∈ GN, q < w1.heap.size from fun q hq => (hC.facts.2.2.2.2.2.2.2.2.2.2.1 q hq).1)
 have HSa := qd hS1
 have hbk := hS1.blk.blk
 unfold RmC.cells at hbk
 have c3 := hbk.cell 3
 simp only [gl] at c3
 have hdr := (Below.refl w1.heap.size w1).drew
 have HGr := qd (at_Groups (hS1.core.below hdr))
 have hSd := hS1.below hdr
 have HWa := qd (wash_Add hSd.blk a.groups (by have := groups_small (H := H) HKM.out.2.2.2.2.2.1 HKM.out.2.2.1; omega))
 have HSd := qd hSd
 have HDr := qd hdr
 clear hnew hC hsu hmo hb1 HNw c0 c1 c2 hbk hS1 hdr hSd
 unfold coreP at HGr
 go_upto_region 2 with fail
 refine rT (fun (w' : World) => w'.cell? ⟨b, 3, none⟩ = some (.pointer (some ⟨C.cb, 0, none⟩)) ∧ True) [8] ?_
 have hHeld := (⟨c3, trivial⟩ : _ ∧ _)
 refine vW 0 rfl ?_
 refine vW 1 rfl ?_
 refine vW 2 rfl ?_
 refine vW 3 rfl ?_
 refine vW 4 rfl ?_
 refine vW 5 rfl ?_
 refine vT 6 rfl ?_
 refine nT 7 rfl fun K hK => ?_
 go_simp
 refine HGr.out.mono ?_
 rintro y w2 ⟨rfl, rfl⟩
 have hHeld := (⟨c3, trivial⟩ : _ ∧ _)
 refine kO hK ?_
 clear hK K
 refine nT 8 rfl fun K hK => ?_
 go_simp
 refine HWa.out.mono ?_
 rintro y w3 ⟨d, hd, rfl, hB3, hm3⟩
 refine kO hK ?_
 clear hK K
 refine doneT (by kernel_rfl) ?_ _
 have hS3 := HSd.out.setB hB3 hm3 ⟨rfl, rfl, rfl, rfl, rfl⟩
 have hbw := HSt.out.blk.lt
 have hbG : b ∉ GN := fun hg => by have := HSu.out b hg; omega
 have HC3 := qd ((HC.out.below HDr.out).mod hm3 (fun q hq => by rw [List.mem_singleton.1 hq]; exact ⟨hbG, HSt.out.b0.1⟩))
 have HS3 := qd hS3
 have hbk := hB3.blk
 unfold RmC.cells at hbk
 have c3 := hbk.cell 3
 simp only [gl] at c3
 have f3 := hbk.frozen 3
 have hnew := hbk.set_ 3 (.pointer (some ⟨cb, 0, none⟩))
 have hm := (Mod.refl [b] w3).sl 3 (.pointer (some ⟨cb, 0, none⟩))
 simp only [pt] at hnew
 have HNw := qd (show RmB _ b { C with lf := C.lf + d, cb := cb } from ⟨hnew, hB3.lf, hB3.gn⟩)
 have HMd := qd hm
 have HBG := qd hbG
 clear hS3 hbw hbG hbk hnew hm hB3 hm3 hd HGr HWa
 go_upto_region 4 with fail
 refine nameW (F := fun v => RmB v b { C with lf := C.lf + d, cb := cb } ∧ Mod [b] w3 v) ⟨HNw.out, HMd.out⟩ ?_
 clear HNw HMd c3 f3
 rintro w4 ⟨hB4, hm4⟩
 have hS4 := HS3.out.newC (C' := { C with lf := C.lf + d, cb := cb }) (HC3.out.mod hm4 (fun q hq => by rw [List.mem_singleton.1 hq]; exact ⟨HBG.out, HSt.out.b0.1⟩)) hB4 ⟨rfl, rfl, rfl, rfl⟩ hm4 (fun q hq => ⟨fun e => HBG.out (e ▸ hq), fun hh => by
  have := HSu.out q hq
  have := HSt.out.itr.lts q hh
  omega, HSu.out q hq⟩)
 have HEn := qd (iters_EndAll hS4.itr)
 have HS4 := qd hS4
 have hbk := hB4.blk
 unfold RmC.cells at hbk
 have c16 := hbk.cell 16
 simp only [gl] at c16
 clear hS4 hbk hB4 hm4 HS3 HC3
 go_wp2_with fail
 refine HEn.out.mono ?_
 rintro y w5 ⟨rfl, hit, hm5⟩
 have hS5 := HS4.out.setI hit hm5 (fun q hq => .inl (by unfold itFoot; simp only [List.mem_cons]; exact .inr (.inr hq))) (fun q hq => .inl (by rw [itFoot_ended] at hq; exact hq))
 have hwr := rm_wrote hS5.blk (by have := HKM.out.2.2.2.2.2.2.2.2.1; have h1 := HSt.out.cfg.1; show 1 ≤ C.k ∧ C.k ≤ 64; rw [h1]; omega) ⟨0, 0, 0⟩
 unfold cntV at hwr
 have HWr := qd hwr
 have HS5 := qd hS5
 clear hit hm5 hS5 hwr HEn c16
 go_wp2_with fail
 refine HWr.out.mono ?_
 rintro y w6 ⟨rfl, lf, gn, ma, ml, last, all, hle, hB6, hm6⟩
 have hS6 := HS5.out.setB hB6 hm6 ⟨rfl, rfl, rfl, rfl, rfl⟩
 have HE := qd hS6.to
 clear hS6 hB6 hm6 hle HWr
 go_wp2
 go_end0
 exact ⟨rfl, _, HE.out⟩
end Go.Proofs.YtckmopailiamlaaGreatDoor

/-! How many groups a map has, and how many are to be let go; there are at least so many that all entries have room. No statement of the claim. -/
namespace Go.Proofs.YtckmopailiamlaaGreatDoor
set_option maxRecDepth 100000
set_option maxHeartbeats 4000000
open Go.RowKit AmC Go.MapKept Ieee
open Go.ChangeMaps (setBlock heap_setBlock_same heap_setBlock_other)
theorem ents_loads : ∀ Ts : List TabM, (entsTs Ts).length ≤ loads Ts
 | [] => by simp [entsTs]
 | T :: Ts => by
  have := ents_loads Ts
  unfold entsTs loads at *
  simp only [List.flatMap_cons, List.length_append, List.map_cons, List.sum_cons]
  unfold load at *
  omega
theorem node_room {H : Nat → Nat} {N : Nd} (h : NOk H N) : N.ents.length ≤ 7 * N.groups ∧ 1 ≤ N.groups := by
 have hpw := h.pw
 have hph := h.ph
 have hsl := h.sl
 have hdp := h.deep
 have hbg := h.big
 have hpos : 1 ≤ N.len := by rcases hpw with e | e | e | e | e | e | e <;> omega
 unfold PhOk at hph
 unfold Nd.groups Nd.ents
 cases hp : N.ph with
 | idle =>
  rw [hp] at hph
  simp only [frs, Phase.busy, entsTs, List.flatMap_nil, List.nil_append, Bool.false_eq_true, if_false]
  have h1 := hph.2
  unfold load mRoom at h1
  refine ⟨?_, hpos⟩
  rcases hbg with h0 | h8
  ·rw [h0] at h1; omega
  ·rcases hpw with e | e | e | e | e | e | e <;> rw [e] at h1 ⊢ <;> omega
 | bld k =>
  rw [hp] at hph
  have hke := kind_each hpw hph.1
  have hr := room_fresh (s := k + N.sl) hpw hdp hbg hph.1 (by omega)
  have hm : N.each ≤ N.each * N.many := by rcases hke.2.1 with e | e <;> rw [e] <;> omega
  simp only [frs, Phase.busy, entsTs, List.flatMap_nil, List.nil_append, if_true]
  have := hph.2.2.2
  omega
 | mov Ts next =>
  rw [hp] at hph
  have hke := kind_each hpw hph.1
  have hr := room_fresh (s := N.each * N.many + next + N.sl) hpw hdp hbg hph.1 (by have := hph.2.1; omega)
  have hm : N.each ≤ N.each * N.many := by rcases hke.2.1 with e | e <;> rw [e] <;> omega
  simp only [frs, Phase.busy, List.length_append, if_true]
  have h1 := hph.2.2.2.2
  have h2 := ents_loads Ts
  omega
theorem nodes_room {H : Nat → Nat} : ∀ l : List Nd, (∀ N ∈ l, NOk H N) → (l.flatMap Nd.ents).length ≤ 7 * (l.map Nd.groups).sum ∧ l.length ≤ (l.map Nd.groups).sum
 | [], _ => by simp
 | N :: l, h => by
  have h1 := node_room (h N (by simp))
  have h2 := nodes_room l fun x hx => h x (by simp [hx])
  simp only [List.flatMap_cons, List.length_append, List.map_cons, List.sum_cons, List.length_cons]
  omega
section
variable {W0 : World} {E : Nat → Addr} {H : Nat → Nat} {Kk M I b : Nat} {G : List Nat} {w w' : World} {a : Pool} {ids : List Nat} {its : List It} {gv : Nat} {lst : Cnt}
theorem RtAt.room (h : RtAt W0 E H Kk M I b G w a ids its gv lst) : a.ents.length ≤ 7 * a.groups ∧ 1 ≤ a.groups ∧ a.groups ≤ 6144 := by
 obtain ⟨C, GC, mb, hS, rfl, hlst⟩ := h
 obtain ⟨_, _, f3, f4, _, f6, _⟩ := hS.core.facts
 have h1 := nodes_room a.Ns fun N hN => by
  obtain ⟨i, hi⟩ := List.getElem?_of_mem hN
  exact f6 i N hi
 have h2 := groups_small f6 f3
 unfold Pool.ents
 unfold Pool.groups at h2 ⊢
 omega
def WashIs (w : World) (b lf : Nat) : Prop := lf ≤ 1099511627776 ∧ b < w.heap.size ∧ w.cell? ⟨b, 4, none⟩ = some (.int .i64 (lf : Int))
theorem RtAt.left (h : RtAt W0 E H Kk M I b G w a ids its gv lst) : ∃ lf, WashIs w b lf := by
 obtain ⟨C, GC, mb, hS, rfl, hlst⟩ := h
 have hbk := hS.blk.blk
 unfold RmC.cells at hbk
 have c4 := hbk.cell 4
 simp only [gl] at c4
 exact ⟨C.lf, hS.blk.lf, hS.blk.lt, c4⟩
theorem WashIs.below {lf : Nat} (h : WashIs w b lf) (hb : Below w.heap.size w w') : WashIs w' b lf := ⟨h.1, by have := hb.size; have := h.2.1; omega, (World.cell?_of_block (hb.block b h.2.1)).trans h.2.2⟩
theorem rt_Groups {lf : Nat} (h : RtAt W0 E H Kk M I b G w a ids its gv lst) (hf : WashIs w b lf) : Calls Tryz.prog 11 #[.pointer (some ⟨b, 0, none⟩)] w fun y w' => y = .returned (.tuple #[.int .i64 (a.groups : Int), .int .i64 (lf : Int)]) ∧ Below w.heap.size w w' := by
 obtain ⟨C, GC, mb, hS, rfl, hlst⟩ := h
 have hbk := hS.blk.blk
 unfold RmC.cells at hbk
 have c3 := hbk.cell 3
 have c4 := hbk.cell 4
 simp only [gl] at c3 c4
 rw [hf.2.2] at c4
 have hdr := (Below.refl w.heap.size w).drew
 have HG := qd (at_Groups (hS.core.below hdr))
 have hw := wash_Left (hS.below hdr).blk
 have hlf : lf = C.lf := by
  have h1 : (lf : Int) = (C.lf : Int) := by simpa using c4
  omega
 rw [← hlf] at hw
 have HW := qd hw
 unfold coreP at HG
 clear hbk hS hlst hf c4 hlf hw hdr
 go_in
 go_upto_region 1 with fail
 refine rT (fun (w' : World) => w'.cell? ⟨b, 3, none⟩ = some (.pointer (some ⟨C.cb, 0, none⟩)) ∧ True) [] ?_
 have hHeld := (⟨c3, trivial⟩ : _ ∧ _)
 refine vW 0 rfl ?_
 refine vW 1 rfl ?_
 refine vW 2 rfl ?_
 refine vT 3 rfl ?_
 refine vW 5 rfl ?_
 refine vW 6 rfl ?_
 refine vW 7 rfl ?_
 refine nT 4 rfl fun K hK => ?_
 go_simp
 refine HG.out.mono ?_
 rintro y w1 ⟨rfl, rfl⟩
 have hHeld := (⟨c3, trivial⟩ : _ ∧ _)
 refine kO hK ?_
 clear hK K
 refine nT 8 rfl fun K hK => ?_
 go_simp
 refine HW.out.mono ?_
 rintro y w1 ⟨rfl, rfl⟩
 have hHeld := (⟨c3, trivial⟩ : _ ∧ _)
 refine kO hK ?_
 clear hK K
 refine vW 9 rfl ?_
 refine vW 10 rfl ?_
 refine doneT (by kernel_rfl) ?_ _
 go_wp2
 refine bodyPost_ret (v := .tuple #[.int .i64 (a.groups : Int), .int .i64 (lf : Int)]) (by simp [results, Tryz.results11, go_sem]) rfl ⟨rfl, (Below.refl _ _).drew⟩
end
end Go.Proofs.YtckmopailiamlaaGreatDoor

/-! The plain law of floats below 2 to the 50th: what is exact, and what rounding to the nearest whole number gives. No program in sight. -/
namespace Go.Proofs.YtckmopailiamlaaGreatDoor.AmF
set_option maxRecDepth 100000
set_option maxHeartbeats 4000000
open Go.RowKit AmC Go.MapKept Ieee
open Go.ChangeMaps (setBlock heap_setBlock_same heap_setBlock_other)
variable {m w : Nat}
theorem d_sign : double.signWeight = 9223372036854775808 := by decide
theorem d_binade : double.binade = 4503599627370496 := by decide
theorem d_inf : double.infRung = 9218868437227405312 := by decide
theorem d_least : double.leastPlace = -1074 := by decide
theorem d_frac : double.fractionBits = 52 := rfl
theorem read_small (h : w < 4503599627370496) : double.read w = .number false w (-1074) := by
 unfold Format.read
 simp only [d_sign, d_binade, d_inf, d_least]
 have e1 : w / 9223372036854775808 = 0 := Nat.div_eq_of_lt (by omega)
 have e2 : w % 9223372036854775808 = w := Nat.mod_eq_of_lt (by omega)
 rw [e1, e2, if_pos h]
 rfl
theorem read_norm {E : Nat} (hE : 1 ≤ E) (hE2 : E < 2047) (hm : m < 4503599627370496) (hw : w = E * 4503599627370496 + m) : double.read w = .number false (4503599627370496 + m) (-1074 + ((E - 1 : Nat) : Int)) := by
 unfold Format.read
 simp only [d_sign, d_binade, d_inf, d_least]
 have e1 : w / 9223372036854775808 = 0 := Nat.div_eq_of_lt (by omega)
 have e2 : w % 9223372036854775808 = w := Nat.mod_eq_of_lt (by omega)
 have e3 : w % 4503599627370496 = m := by omega
 have e4 : w / 4503599627370496 = E := by omega
 rw [e1, e2, if_neg (by omega), if_pos (by omega), e3, e4]
 rfl
theorem pow_of_log (h : 0 < m) : 2 ^ m.log2 ≤ m ∧ m < 2 ^ (m.log2 + 1) := ⟨Nat.log2_self_le (by omega), Nat.lt_log2_self⟩
theorem log_le {k : Nat} (h0 : 0 < m) (h : m < 2 ^ (k + 1)) : m.log2 ≤ k := by
 have := (Nat.log2_lt (by omega)).2 h
 omega
theorem log_mul_pow (m z : Nat) (h : 0 < m) : (m * 2 ^ z).log2 = m.log2 + z := by
 have hp := Nat.two_pow_pos z
 apply Nat.le_antisymm
 ·refine log_le (Nat.mul_pos h hp) ?_
  rw [show m.log2 + z + 1 = (m.log2 + 1) + z by omega, Nat.pow_add]
  exact Nat.mul_lt_mul_of_pos_right (pow_of_log h).2 hp
 ·rw [Nat.le_log2 (by have := Nat.mul_pos h hp; omega), Nat.pow_add]
  exact Nat.mul_le_mul_right _ (pow_of_log h).1
theorem cut_exact (way : Toward) (s : Bool) (m d : Nat) (h : d ≤ (m * 2 ^ d).log2 + 2) : way.cut s (m * 2 ^ d) d = m := by
 unfold Toward.cut
 rw [Nat.min_eq_left h]
 have hg : (1 : Nat) <<< d = 2 ^ d := by rw [Nat.shiftLeft_eq, Nat.one_mul]
 have hp := Nat.two_pow_pos d
 simp only [hg]
 rw [Nat.mul_div_cancel _ hp, Nat.mul_mod_left]
 cases way <;> simp
def mant (w : Nat) : Nat := if w < 4503599627370496 then w else 4503599627370496 + w % 4503599627370496
def cutBy (w : Nat) : Nat := if w < 4503599627370496 then 1074 else 1075 - w / 4503599627370496
def Low (w : Nat) : Prop := w ≤ 4832362400168542208
def whole (w : Nat) : Nat := mant w / 2 ^ cutBy w
def left_ (w : Nat) : Nat := mant w % 2 ^ cutBy w
def rounded (w : Nat) : Nat := whole w + if 2 ^ cutBy w ≤ 2 * left_ w then 1 else 0
theorem small_div (w k : Nat) (hk : 52 ≤ k) (h : w < 4503599627370496) : w / 2 ^ k = 0 :=
 Nat.div_eq_of_lt (Nat.lt_of_lt_of_le (show w < 2 ^ 52 by simpa using h) (Nat.pow_le_pow_right (by decide) hk))
theorem low_facts (h : Low w) : 2 ≤ cutBy w ∧ cutBy w ≤ 1074 ∧ mant w < 9007199254740992 ∧ double.read w = .number false (mant w) (-(cutBy w : Int)) ∧ whole w ≤ 1125899906842624 := by
 unfold Low at h
 unfold mant cutBy
 by_cases hs : w < 4503599627370496
 ·rw [if_pos hs, if_pos hs]
  refine ⟨by omega, by omega, by omega, read_small hs, ?_⟩
  unfold whole mant cutBy
  rw [if_pos hs, if_pos hs]
  rw [small_div w 1074 (by omega) hs]
  exact Nat.zero_le _
 ·rw [if_neg hs, if_neg hs]
  have hE : w / 4503599627370496 ≤ 1073 := by omega
  have hE1 : 1 ≤ w / 4503599627370496 := by omega
  refine ⟨by omega, by omega, by omega, ?_, ?_⟩
  ·rw [read_norm (w := w) (E := w / 4503599627370496) (m := w % 4503599627370496) hE1 (by omega) (by omega) (by omega)]
   congr 1
   omega
  ·unfold whole mant cutBy
   rw [if_neg hs, if_neg hs]
   by_cases h73 : w / 4503599627370496 = 1073
   ·rw [h73]
    have : w % 4503599627370496 = 0 := by omega
    rw [this]
    decide
   ·have h4 : (4 : Nat) * 2 ^ (1075 - 2 - w / 4503599627370496) = 2 ^ (1075 - w / 4503599627370496) := by
     rw [show (4 : Nat) = 2 ^ 2 by decide, ← Nat.pow_add]
     congr 1; omega
    have h8 : (8 : Nat) ≤ 2 ^ (1075 - w / 4503599627370496) := by
     have : (2 : Nat) ^ 3 ≤ 2 ^ (1075 - w / 4503599627370496) := Nat.pow_le_pow_right (by decide) (by omega)
     simpa using this
    have h5 : (4503599627370496 + w % 4503599627370496) / 2 ^ (1075 - w / 4503599627370496) ≤ (4503599627370496 + w % 4503599627370496) / 8 := Nat.div_le_div_left h8 (by decide)
    have h6 : (4503599627370496 + w % 4503599627370496) / 8 ≤ 1125899906842623 := by omega
    omega
theorem int_of (A d : Nat) : (Datum.number false A (-(d : Int))).toInt .zero = some ((A / 2 ^ d : Nat) : Int) := by
 unfold Datum.toInt Datum.integral
 simp only
 have e0 : (-(d : Int)).toNat = 0 := by omega
 have e1 : (-(-(d : Int))).toNat = d := by omega
 rw [e0, e1, Nat.shiftLeft_eq, Nat.pow_zero, Nat.mul_one]
 unfold signed Toward.cut
 simp only [Bool.false_eq_true, if_false, Nat.shiftLeft_eq, Nat.pow_zero, Nat.mul_one, Bool.toNat_false, Nat.add_zero, Nat.one_mul]
 congr 2
 by_cases hm : A = 0
 ·rw [hm]; simp
 ·rcases Nat.le_total d (A.log2 + 2) with hc | hc
  ·rw [Nat.min_eq_left hc]
  ·rw [Nat.min_eq_right hc]
   have hl := (pow_of_log (m := A) (by omega)).2
   have h5 : A < 2 ^ (A.log2 + 2) := Nat.lt_of_lt_of_le hl (Nat.pow_le_pow_right (by decide) (by omega))
   have h6 : A < 2 ^ d := Nat.lt_of_lt_of_le h5 (Nat.pow_le_pow_right (by decide) hc)
   rw [Nat.div_eq_of_lt h5, Nat.div_eq_of_lt h6]
def roundW (w : Nat) : Nat :=
 if w / 4503599627370496 < 1023 then (if w / 4503599627370496 = 1022 then 4607182418800017408 else 0)
 else (w + 2 ^ (51 - (w / 4503599627370496 - 1023))) / 2 ^ (52 - (w / 4503599627370496 - 1023)) * 2 ^ (52 - (w / 4503599627370496 - 1023))
theorem round_up (M k : Nat) (hk : 1 ≤ k) : (M + 2 ^ (k - 1)) / 2 ^ k = M / 2 ^ k + if 2 ^ k ≤ 2 * (M % 2 ^ k) then 1 else 0 := by
 have hp := Nat.two_pow_pos (k - 1)
 have hkk : 2 ^ k = 2 * 2 ^ (k - 1) := by
  conv => lhs; rw [show k = (k - 1) + 1 by omega]
  rw [Nat.pow_succ, Nat.mul_comm]
 rw [hkk]
 generalize 2 ^ (k - 1) = h at *
 have e := Nat.div_add_mod M (2 * h)
 have hlt : M % (2 * h) < 2 * h := Nat.mod_lt _ (by omega)
 generalize M / (2 * h) = q at *
 generalize M % (2 * h) = r at *
 subst e
 split
 ·rw [show 2 * h * q + r + h = (r - h) + (2 * h) * (q + 1) by rw [Nat.mul_add]; omega, Nat.add_mul_div_left _ _ (by omega), Nat.div_eq_of_lt (by omega)]; omega
 ·rw [show 2 * h * q + r + h = (r + h) + (2 * h) * q by omega, Nat.add_mul_div_left _ _ (by omega), Nat.div_eq_of_lt (by omega)]; omega
theorem round_int (h : Low w) : (double.read (roundW w)).toInt .zero = some (rounded w : Int) ∧ roundW w < 9218868437227405312 := by
 have hlow := h
 unfold Low at h
 unfold roundW rounded whole left_
 by_cases hE : w / 4503599627370496 < 1023
 ·rw [if_pos hE]
  by_cases h22 : w / 4503599627370496 = 1022
  ·rw [if_pos h22]
   have hm : mant w = 4503599627370496 + w % 4503599627370496 := by unfold mant; rw [if_neg (by omega)]
   have hk : cutBy w = 53 := by unfold cutBy; rw [if_neg (by omega), h22]
   rw [hm, hk, read_norm (w := 4607182418800017408) (E := 1023) (m := 0) (by decide) (by decide) (by decide) (by decide)]
   have e53 : (2 : Nat) ^ 53 = 9007199254740992 := by decide
   rw [e53, if_pos (by omega)]
   have e1 : (4503599627370496 + w % 4503599627370496) / 9007199254740992 = 0 := by omega
   rw [e1]
   exact ⟨by decide, by decide⟩
  ·rw [if_neg h22]
   have hr : mant w < 9007199254740992 ∧ 54 ≤ cutBy w := by
    unfold mant cutBy
    split <;> omega
   obtain ⟨hr1, hr2⟩ := hr
   have h54 : (2 : Nat) ^ 54 ≤ 2 ^ cutBy w := Nat.pow_le_pow_right (by decide) hr2
   have e54 : (2 : Nat) ^ 54 = 18014398509481984 := by decide
   rw [e54] at h54
   generalize 2 ^ cutBy w = K at *
   rw [Nat.div_eq_of_lt (by omega), Nat.mod_eq_of_lt (by omega), if_neg (by omega), read_small (by decide)]
   exact ⟨by decide, by decide⟩
 ·rw [if_neg hE]
  have hns : ¬ w < 4503599627370496 := by omega
  have hm : mant w = 4503599627370496 + w % 4503599627370496 := by unfold mant; rw [if_neg hns]
  have hk : cutBy w = 1075 - w / 4503599627370496 := by unfold cutBy; rw [if_neg hns]
  rw [hm, hk]
  have hEw : w = (w / 4503599627370496) * 4503599627370496 + w % 4503599627370496 := by omega
  have hE3 : w / 4503599627370496 ≤ 1073 := by omega
  have hf : w % 4503599627370496 < 4503599627370496 := Nat.mod_lt _ (by decide)
  generalize w / 4503599627370496 = E at *
  generalize w % 4503599627370496 = f at *
  subst hEw
  obtain ⟨k, hkE⟩ : ∃ k, k = 1075 - E := ⟨_, rfl⟩
  have g1 : 51 - (E - 1023) = k - 1 := by omega
  have g2 : 52 - (E - 1023) = k := by omega
  rw [g1, g2, ← hkE]
  have hk2 : 2 ≤ k := by omega
  have hk52 : k ≤ 52 := by omega
  have e52 : 4503599627370496 = 2 ^ k * 2 ^ (52 - k) := by rw [← Nat.pow_add, show k + (52 - k) = 52 by omega]
  have hpk := Nat.two_pow_pos k
  have hdiv : (E * 4503599627370496 + f + 2 ^ (k - 1)) / 2 ^ k = (E - 1) * 2 ^ (52 - k) + (4503599627370496 + f + 2 ^ (k - 1)) / 2 ^ k := by
   have : E * 4503599627370496 + f + 2 ^ (k - 1) = (4503599627370496 + f + 2 ^ (k - 1)) + 2 ^ k * ((E - 1) * 2 ^ (52 - k)) := by
    have h1 : 2 ^ k * ((E - 1) * 2 ^ (52 - k)) = (E - 1) * 4503599627370496 := by rw [Nat.mul_left_comm, ← e52]
    rw [h1]; omega
   rw [this, Nat.add_mul_div_left _ _ hpk, Nat.add_comm]
  rw [hdiv, round_up _ _ (by omega)]
  have hR1 : 2 ^ (52 - k) ≤ (4503599627370496 + f) / 2 ^ k := by
   rw [Nat.le_div_iff_mul_le hpk, Nat.mul_comm, ← e52]; omega
  have hR2 : (4503599627370496 + f) / 2 ^ k < 2 * 2 ^ (52 - k) := by
   rw [Nat.div_lt_iff_lt_mul hpk, Nat.mul_assoc, Nat.mul_comm (2 ^ (52 - k)), ← e52]; omega
  have hR : 2 ^ (52 - k) ≤ (4503599627370496 + f) / 2 ^ k + (if 2 ^ k ≤ 2 * ((4503599627370496 + f) % 2 ^ k) then 1 else 0) ∧ (4503599627370496 + f) / 2 ^ k + (if 2 ^ k ≤ 2 * ((4503599627370496 + f) % 2 ^ k) then 1 else 0) ≤ 2 * 2 ^ (52 - k) := by
   split <;> omega
  generalize (4503599627370496 + f) / 2 ^ k + (if 2 ^ k ≤ 2 * ((4503599627370496 + f) % 2 ^ k) then 1 else 0) = R at *
  have hw : ((E - 1) * 2 ^ (52 - k) + R) * 2 ^ k = (E - 1) * 4503599627370496 + R * 2 ^ k := by
   rw [Nat.add_mul, Nat.mul_assoc, Nat.mul_comm (2 ^ (52 - k)), ← e52]
  rw [hw]
  have hlo : 4503599627370496 ≤ R * 2 ^ k := by
   rw [e52, Nat.mul_comm (2 ^ k)]
   exact Nat.mul_le_mul_right _ hR.1
  have hhi : R * 2 ^ k ≤ 9007199254740992 := by
   have h2 : 2 * 2 ^ (52 - k) * 2 ^ k = 9007199254740992 := by rw [Nat.mul_assoc, Nat.mul_comm (2 ^ (52 - k)), ← e52]
   rw [← h2]
   exact Nat.mul_le_mul_right _ hR.2
  have hq : R * 2 ^ k / 2 ^ k = R := Nat.mul_div_cancel _ hpk
  have hq2 : R * 2 ^ k = 9007199254740992 → 4503599627370496 / 2 ^ (k - 1) = R := by
   intro e
   have hkk : 2 ^ k = 2 * 2 ^ (k - 1) := by
    conv => lhs; rw [show k = (k - 1) + 1 by omega]
    rw [Nat.pow_succ, Nat.mul_comm]
   have : 4503599627370496 = R * 2 ^ (k - 1) := by
    have h3 : R * 2 ^ k = 2 * (R * 2 ^ (k - 1)) := by rw [hkk, Nat.mul_left_comm]
    omega
   rw [this]
   exact Nat.mul_div_cancel _ (Nat.two_pow_pos _)
  generalize R * 2 ^ k = K at *
  by_cases hK : K < 9007199254740992
  ·rw [read_norm (w := (E - 1) * 4503599627370496 + K) (E := E) (m := K - 4503599627370496) (by omega) (by omega) (by omega) (by omega)]
   have g3 : 4503599627370496 + (K - 4503599627370496) = K := by omega
   have g4 : (-1074 : Int) + ((E - 1 : Nat) : Int) = -(k : Int) := by omega
   rw [g3, g4, int_of, hq]
   exact ⟨rfl, by omega⟩
  ·have hKe : K = 9007199254740992 := by omega
   rw [read_norm (w := (E - 1) * 4503599627370496 + K) (E := E + 1) (m := 0) (by omega) (by omega) (by omega) (by omega)]
   have g4 : (-1074 : Int) + ((E + 1 - 1 : Nat) : Int) = -((k - 1 : Nat) : Int) := by omega
   rw [Nat.add_zero, g4, int_of, hq2 hKe]
   exact ⟨rfl, by omega⟩
end Go.Proofs.YtckmopailiamlaaGreatDoor.AmF
