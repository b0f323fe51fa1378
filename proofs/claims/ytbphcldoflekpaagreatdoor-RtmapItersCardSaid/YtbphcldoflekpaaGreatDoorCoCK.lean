/- A core's node that becomes two, and the row that grows by it; a directory that is taken. -/
import Derived.Test.YtbphcldoflekpaaGreatDoorCoCI
import Derived.Test.YtbphcldoflekpaaGreatDoorLaneP
import Derived.Test.YtbphcldoflekpaaGreatDoorSqT
namespace Go.Proofs.YtbphcldoflekpaaGreatDoor
set_option maxRecDepth 100000
set_option maxHeartbeats 4000000
open Go.RowKit dA
section
variable {id qb : Nat} {val val' : Nat → Value} {ids : List Nat} {w4 : World} {v4 : Value}
section
variable {W0 : World} {E : Nat → Addr} {H : Nat → Nat} {C : gV} {w0 : World} {G0 : List Nat} {w w' : World} {F : List Nat} {st : kr}
theorem aA.two (h : aA W0 E H C w0 G0 w F st) {N : Nd} (hN : st.a.Ns[id]? = some N) : ∃ Fi, bJ w (C.A.nb id) Fi N ∧ dL H N ∧
  ∀ (w' : World) (F' F2 S : List Nat) (N0 N1 : Nd) (qb : Nat), bJ w' (C.A.nb id) F' N0 → dL H N0 → bJ w' qb F2 N1 → (∀ q ∈ F', q ∈ Fi) → (∀ q ∈ F2, q ∈ Fi ∨ w.heap.size ≤ q) → (∀ q ∈ F', q ∉ F2) → Mod S w w' → (∀ q ∈ S, q ∈ Fi) →
   ∃ Fn, aA W0 E H C w0 G0 w' Fn { st with a := { st.a with Ns := st.a.Ns.set id N0 } } ∧ ∀ q ∈ F2, q ∉ C.foot Fn ∧ (q ∈ G0 ∨ w0.heap.size ≤ q) ∧ W0.heap.size ≤ q := by
 obtain ⟨Fs, hF, hp⟩ := h.aC.pool
 obtain ⟨hA, hO⟩ := hp.ko id N hN
 have hid := bA hN
 have hin : ∀ q ∈ Fs id, q ∈ F := fun q hq => hF ▸ aP.2 (.inl ⟨id, hid, hq⟩)
 refine ⟨Fs id, hA, hO, fun w' F' F2 S N0 N1 qb XF hO0 hA1 hF' hF2 abJ hm hS => ?_⟩
 have hP := hp.node hN XF hO0 (fun q hq => .inl (hF' q hq)) hm (fun q hq => .inr (hS q hq)) h.aC.env.size h.aC.met.lt
 have hS' : ∀ q ∈ S, q ∈ F := fun q hq => hin q (hS q hq)
 have hlen : (st.a.Ns.set id N0).length = st.a.Ns.length := List.length_set
 have XG : ∀ q, q ∈ gL C.A (fun i => if i = id then F' else Fs i) { st.a with Ns := st.a.Ns.set id N0 } → q ∈ F := fun q hq => by
  rcases aP.1 hq with ⟨i, hi, hq2⟩ | hq2
  ·have hi' : i < st.a.Ns.length := by simpa [nI, nU] using hi
   by_cases e1 : i = id
   ·simp only [if_pos e1] at hq2
    exact hin q (hF' q hq2)
   ·simp only [if_neg e1] at hq2
    exact hF ▸ aP.2 (.inl ⟨i, hi', hq2⟩)
  ·exact hF ▸ aP.2 (.inr hq2)
 refine ⟨_, h.upd C.A C.v { st with a := { st.a with Ns := st.a.Ns.set id N0 } } hm (fun q hq => aZ.2 (.inr (.inr (.inl (hS' q hq))))) (h.aC.aC.mod hm (fun q hq dH => (h.aC.apart q hq).1 (hS' q dH))) ⟨_, rfl, hP⟩ (h.aC.met.mod hm (fun hq => h.hp.mb h.aC.pool (hS' _ hq))) ?_ ?_ (fun q hq => .inl (XG q hq)) (fun g hg => ⟨.inl hg, fun hh => by have := (h.row.lt g hg).2; omega⟩), fun q hq => ⟨fun hf => ?_, ?_, ?_⟩⟩
 ·show w'.ownsRow W0.heap.size 91 1 C.v (st.a.Ns.set id N0).length (jA C.A (st.a.Ns.set id N0).length)
  rw [hlen]
  exact kZ (st := st) h hm (fun q hq => .inr (.inr (hS' q hq)))
 ·show 1 ≤ (st.a.Ns.set id N0).length
  rw [hlen]; exact h.pos
 ·have hl := h.iF
  rcases hF2 q hq with h1 | h1
  ·rcases aZ.1 hf with h2 | h2 | h2 | h2
   ·exact h.hp.mb h.aC.pool (show C.mb ∈ F from h2 ▸ hin q h1)
   ·exact (h.aC.apart q h2).1 (hin q h1)
   ·rcases aP.1 h2 with ⟨i, hi, hq2⟩ | hq2
    ·have hi' : i < st.a.Ns.length := by simpa [nI, nU] using hi
     by_cases e1 : i = id
     ·simp only [if_pos e1] at hq2
      exact abJ q hq2 hq
     ·simp only [if_neg e1] at hq2
      exact hp.sep i id hi' hid e1 q hq2 h1
    ·exact hp.uw id hid q h1 hq2
   ·exact h.yU q h2 (by show q ∈ C.mb :: (C.s.blocks ++ F); simp [hin q h1])
  ·rcases aZ.1 hf with h2 | h2 | h2 | h2
   ·have := hl q (aZ.2 (.inl h2)); omega
   ·have := hl q (aZ.2 (.inr (.inl h2))); omega
   ·have := hl q (aZ.2 (.inr (.inr (.inl (XG q h2))))); omega
   ·have := hl q (aZ.2 (.inr (.inr (.inr h2)))); omega
 ·rcases hF2 q hq with h1 | h1
  ·exact h.sub q (aZ.2 (.inr (.inr (.inl (hin q h1)))))
  ·exact .inr (Nat.le_trans h.mod.size h1)
 ·rcases hF2 q hq with h1 | h1
  ·exact h.VX q (aZ.2 (.inr (.inr (.inl (hin q h1)))))
  ·have := h.aC.env.size; omega
def dw.more (A : dw) (n qb : Nat) : dw := { A with nb := fun i => if i = n then qb else A.nb i }
theorem V4 (A : dw) (n qb : Nat) : jA (A.more n qb) (n + 1) = jA A n ++ [pQ qb] := by
 unfold jA ptrs
 rw [List.range_succ, List.map_append, List.map_append]
 congr 1
 ·congr 1
  refine List.map_congr_left fun i hi => ?_
  rw [List.mem_range] at hi
  show (if i = n then qb else A.nb i) = A.nb i
  rw [if_neg (by omega)]
 ·simp [dw.more]
theorem V5 {A : dw} {n : Nat} (h : id ≠ n) : (A.more n qb).val id = A.val id := by
 unfold dw.val dw.ja dw.more
 simp only
 rw [if_neg h]
 rfl
theorem Nw (h : ∀ id ∈ ids, val id = val' id) : jk val ids = jk val' ids := by
 funext y
 unfold jk
 by_cases hy : ∃ id ∈ ids, y = (id : Int)
 ·obtain ⟨id, hid, rfl⟩ := hy
  simp [hid, h id hid]
 ·split
  ·next hh => first | rfl | (exfalso; simp at hh; exact hy ⟨_, hh.2, by omega⟩) | simp_all
  ·rfl
theorem dS.XH {w : World} {sb rb jb : Nat} {k b : Int} (h : dS w sb qb rb jb k b val ids) (he : ∀ id ∈ ids, val id = val' id) : dS w sb qb rb jb k b val' ids :=
 ⟨h.blk, h.Bp, by rw [← Nw he]; exact h.map, h.nd, h.apart⟩
theorem Ma {w : World} {base : Nat} {v : Value} (h : ou w base v w4 v4) : Mod v.ownBlock.toList w w4 :=
 ⟨h.lZ.os, h.lZ.tape, h.lZ.output, h.lZ.size, fun k hk hn => h.lZ.block k hk (fun e => hn (by rw [← e]; simp))⟩
theorem aA.grow (h : aA W0 E H C w0 G0 w F st) {F2 : List Nat} {N1 : Nd} (hA : bJ w qb F2 N1) (hO : dL H N1) (hF2 : ∀ q ∈ F2, q ∉ C.foot F ∧ (q ∈ G0 ∨ w0.heap.size ≤ q) ∧ W0.heap.size ≤ q) (xZ : ∀ i ∈ st.ids, i ≠ st.a.Ns.length) (h32 : st.a.Ns.length + 1 ≤ 32) (hown : w4.ownsRow W0.heap.size 91 1 v4 (st.a.Ns.length + 1) (jA C.A st.a.Ns.length ++ [pQ qb])) (hgr : ou w W0.heap.size C.v w4 v4) :
  ∃ F', aA W0 E H { C with A := C.A.more st.a.Ns.length qb, v := v4 } w0 G0 (w4.setCell ⟨C.mb, 11, none⟩ v4) F' { st with a := { st.a with Ns := st.a.Ns ++ [N1] } } ∧ bJ (w4.setCell ⟨C.mb, 11, none⟩ v4) qb F2 N1 := by
 obtain ⟨Fs, hF, hp⟩ := h.aC.pool
 have hml : C.mb < w.heap.size := h.aC.met.lt
 have iO := Ma hgr
 have gZ : Mod (C.mb :: C.v.ownBlock.toList) w (w4.setCell ⟨C.mb, 11, none⟩ v4) := (iO.more (fun k hk => by simp at hk ⊢; exact .inr hk)).ak (.inl (by simp)) 11 v4
 have hS : ∀ q ∈ C.mb :: C.v.ownBlock.toList, q ∈ C.foot F := fun q hq => by
  rcases List.mem_cons.1 hq with e | e
  ·exact aZ.2 (.inl e)
  ·exact aZ.2 (.inr (.inr (.inr (by simpa [nI, nU] using e))))
 have hlts := h.iF
 have hFn : ∀ q ∈ F, q ∉ C.mb :: C.v.ownBlock.toList := fun q hq dH => by
  rcases List.mem_cons.1 dH with e | e
  ·exact h.hp.mb h.aC.pool (show C.mb ∈ F from e ▸ hq)
  ·exact h.yU q (by simpa [nI, nU] using e) (by show q ∈ C.mb :: (C.s.blocks ++ F); simp [hq])
 have hbn : ∀ q ∈ C.s.blocks, q ∉ C.mb :: C.v.ownBlock.toList := fun q hq dH => by
  rcases List.mem_cons.1 dH with e | e
  ·exact (h.aC.apart q hq).2.1 e
  ·exact h.yU q (by simpa [nI, nU] using e) (by show q ∈ C.mb :: (C.s.blocks ++ F); simp [hq])
 have abK : ∀ q ∈ F2, q ∉ C.mb :: C.v.ownBlock.toList := fun q hq dH => (hF2 q hq).1 (hS q dH)
 have I5 := hA.mod gZ abK
 have adH : (C.A.more st.a.Ns.length qb).dU = C.A.dU := rfl
 have xA : ∀ i, i < st.a.Ns.length → ∀ q ∈ Fs i, q ∈ F := fun i hi q hq => hF ▸ aP.2 (.inl ⟨i, hi, hq⟩)
 have tO : ∀ q ∈ C.A.dU st.a.cop, q ∈ F := fun q hq => hF ▸ aP.2 (.inr hq)
 have XI : ∀ q ∈ F, q ∈ C.foot F := fun q hq => aZ.2 (.inr (.inr (.inl hq)))
 have hl1 : (st.a.Ns ++ [N1]).length = st.a.Ns.length + 1 := by simp
 have hget : ∀ (i : Nat) (X : Nd), (st.a.Ns ++ [N1])[i]? = some X → (i = st.a.Ns.length ∧ X = N1) ∨ (i < st.a.Ns.length ∧ st.a.Ns[i]? = some X) := fun i X hX => by
  by_cases hi : i < st.a.Ns.length
  ·rw [List.getElem?_append_left hi] at hX
   exact .inr ⟨hi, hX⟩
  ·have := bA hX
   rw [List.getElem?_append_right (by omega)] at hX
   have h0 : i - st.a.Ns.length = 0 := by omega
   rw [h0] at hX
   cases hX
   exact .inl ⟨by omega, rfl⟩
 have hin : ∀ q, q ∈ gL (C.A.more st.a.Ns.length qb) (fun i => if i = st.a.Ns.length then F2 else Fs i) { st.a with Ns := st.a.Ns ++ [N1] } → q ∈ F ∨ q ∈ F2 := fun q hq => by
  rcases aP.1 hq with ⟨i, hi, hq2⟩ | hq2
  ·have hi' : i < st.a.Ns.length + 1 := by simpa [nI, nU] using hi
   by_cases e1 : i = st.a.Ns.length
   ·simp only [if_pos e1] at hq2; exact .inr hq2
   ·simp only [if_neg e1] at hq2; exact .inl (xA i (by omega) q hq2)
  ·exact .inl (tO q hq2)
 have hP : iM W0 C.mb H (C.A.more st.a.Ns.length qb) (w4.setCell ⟨C.mb, 11, none⟩ v4) (fun i => if i = st.a.Ns.length then F2 else Fs i) { st.a with Ns := st.a.Ns ++ [N1] } := by
  refine ⟨fun i X hX => ?_, hp.dir.mod gZ (hFn _ (tO _ (by simp [dw.dU]))) (hFn _ (tO _ (by simp [dw.dU]))), fun next lf hc => (hp.cop next lf hc).mod gZ (fun q hq => hFn q (tO q (by have hc' : st.a.cop = some (next, lf) := hc; unfold dw.dU; rw [hc']; simp at hq ⊢; omega))), fun i j hi hj hij q hq hq2 => ?_, fun i hi q hq hq2 => ?_, fun q hq => ?_, fun hq => ?_, by show (st.a.Ns ++ [N1]).length ≤ 32; omega⟩
  ·rcases hget i X hX with ⟨rfl, rfl⟩ | ⟨h1, h2⟩
   ·simp only [if_pos]
    exact ⟨by show bJ _ (if _ then qb else _) _ _; rw [if_pos rfl]; exact I5, hO⟩
   ·simp only [if_neg (show i ≠ st.a.Ns.length by omega)]
    exact ⟨by show bJ _ (if _ then qb else _) _ _; rw [if_neg (by omega)]; exact (hp.ko i X h2).1.mod gZ (fun q hq => hFn q (xA i h1 q hq)), (hp.ko i X h2).2⟩
  ·have hi' : i < st.a.Ns.length + 1 := by simpa [nI, nU] using hi
   have hj' : j < st.a.Ns.length + 1 := by simpa [nI, nU] using hj
   by_cases e1 : i = st.a.Ns.length <;> by_cases e2 : j = st.a.Ns.length
   ·exact hij (e1.trans e2.symm)
   ·simp only [if_pos e1] at hq
    simp only [if_neg e2] at hq2
    exact (hF2 q hq).1 (XI q (xA j (by omega) q hq2))
   ·simp only [if_neg e1] at hq
    simp only [if_pos e2] at hq2
    exact (hF2 q hq2).1 (XI q (xA i (by omega) q hq))
   ·simp only [if_neg e1] at hq
    simp only [if_neg e2] at hq2
    exact hp.sep i j (by omega) (by omega) hij q hq hq2
  ·have hi' : i < st.a.Ns.length + 1 := by simpa [nI, nU] using hi
   by_cases e1 : i = st.a.Ns.length
   ·simp only [if_pos e1] at hq
    exact (hF2 q hq).1 (XI q (tO q hq2))
   ·simp only [if_neg e1] at hq
    exact hp.uw i (by omega) q hq hq2
  ·rcases hin q hq with h1 | h1
   ·exact hp.low q (hF ▸ h1)
   ·exact (hF2 q h1).2.2
  ·rcases hin _ hq with h1 | h1
   ·exact hp.mb (hF ▸ h1)
   ·exact (hF2 _ h1).1 (aZ.2 (.inl rfl))
 refine ⟨_, h.aac (C.A.more st.a.Ns.length qb) v4 { st with a := { st.a with Ns := st.a.Ns ++ [N1] } } gZ hS ((h.aC.aC.mod gZ hbn).XH (fun id hid => (V5 (xZ id hid)).symm)) ⟨_, rfl, hP⟩ ⟨rfl, ?_⟩ ?_ ?_ (fun q hq => ?_) (fun g hg => ⟨?_, fun hh hq => ?_⟩), I5⟩
 ·exact ((Met.blk h.aC.met).mod iO (fun hq => h.yU C.mb (Option.mem_toList.1 hq) (by show C.mb ∈ C.mb :: _; simp))).ak 11 v4
 ·show (w4.setCell ⟨C.mb, 11, none⟩ v4).ownsRow W0.heap.size 91 1 v4 (st.a.Ns ++ [N1]).length (jA (C.A.more st.a.Ns.length qb) (st.a.Ns ++ [N1]).length)
  rw [hl1, V4]
  refine jy (S := [C.mb]) hown ((Mod.refl _ w4).ak (.inl (by simp)) 11 v4) (fun k hk FI => ?_)
  have hk2 : k = C.mb := List.mem_singleton.1 FI
  rcases hgr.at_ with e | ⟨g, e, hgl⟩
  ·exact h.yU k (e ▸ hk) (by show k ∈ C.mb :: _; simp [hk2])
  ·rw [e] at hk
   have := Option.some.inj hk
   omega
 ·show 1 ≤ (st.a.Ns ++ [N1]).length
  omega
 ·rcases hin q hq with h1 | h1
  ·exact .inl h1
  ·exact .inr ⟨(hF2 q h1).2.1, (hF2 q h1).1⟩
 ·rcases hgr.at_ with e | ⟨g', e, hgl⟩
  ·exact .inl (e ▸ hg)
  ·rw [e] at hg
   have := Option.some.inj hg
   exact .inr (by omega)
 ·rcases hin g hq with h1 | h1
  ·have := hlts g (XI g h1); omega
  ·have := hA.iF g h1; omega
theorem aA.take (h : aA W0 E H C w0 G0 w F st) {c : Nat × List Nat} (hc : st.a.cop = some c) {w1 : World} (hD : dh w1 C.A.fb C.A.fe (st.a.d + 1) c.2) (hm : Mod [C.A.cb] w w1) :
  ∃ F', aA W0 E H { C with A := { C.A with db := C.A.fb, eb := C.A.fe }, v := C.v } w0 G0 ((w1.setCell ⟨C.mb, 12, none⟩ (pQ C.A.fb)).setCell ⟨C.mb, 13, none⟩ (.pointer none)) F' { st with a := { st.a with d := st.a.d + 1, l := c.2, cop := none } } := by
 obtain ⟨Fs, hF, hp⟩ := h.aC.pool
 have hm2 : Mod [C.A.cb, C.mb] w ((w1.setCell ⟨C.mb, 12, none⟩ (pQ C.A.fb)).setCell ⟨C.mb, 13, none⟩ (.pointer none)) := ((hm.more (fun k hk => by simp at hk ⊢; exact .inl hk)).ak (.inl (by simp)) _ _).ak (.inl (by simp)) _ _
 have hmd : ∀ q ∈ [C.A.cb, C.A.fb, C.A.fe], q ∈ C.A.dU st.a.cop := fun q hq => by
  unfold dw.dU; rw [hc]; simp at hq ⊢; omega
 have tO : ∀ q ∈ C.A.dU st.a.cop, q ∈ F := fun q hq => hF ▸ aP.2 (.inr hq)
 have hmb : ∀ q ∈ F, q ≠ C.mb := fun q hq e => h.hp.mb h.aC.pool (show C.mb ∈ F from e ▸ hq)
 have aa8 := (hp.cop c.1 c.2 hc).nd
 simp at aa8
 have hD2 : dh ((w1.setCell ⟨C.mb, 12, none⟩ (pQ C.A.fb)).setCell ⟨C.mb, 13, none⟩ (.pointer none)) C.A.fb C.A.fe (st.a.d + 1) c.2 :=
  hD.mod (S := [C.mb]) (((Mod.refl _ w1).ak (.inl (by simp)) _ _).ak (.inl (by simp)) _ _) (fun hq => hmb _ (tO _ (hmd _ (by simp))) (List.mem_singleton.1 hq)) (fun hq => hmb _ (tO _ (hmd _ (by simp))) (List.mem_singleton.1 hq))
 have hin : ∀ q, q ∈ gL ({ C.A with db := C.A.fb, eb := C.A.fe } : dw) Fs { st.a with d := st.a.d + 1, l := c.2, cop := none } → q ∈ F := fun q hq => by
  rcases aP.1 hq with ⟨i, hi, hq2⟩ | hq2
  ·exact hF ▸ aP.2 (.inl ⟨i, hi, hq2⟩)
  ·refine tO q (hmd q ?_)
   unfold dw.dU at hq2
   simp at hq2 ⊢; omega
 have XJ : ∀ i, i < st.a.Ns.length → ∀ q ∈ Fs i, q ∉ [C.A.cb, C.A.fb, C.A.fe] := fun i hi q hq hq2 => hp.uw i hi q hq (hmd q hq2)
 have xA : ∀ i, i < st.a.Ns.length → ∀ q ∈ Fs i, q ∈ F := fun i hi q hq => hF ▸ aP.2 (.inl ⟨i, hi, hq⟩)
 have hS : ∀ q ∈ [C.A.cb, C.mb], q ∈ C.foot F := fun q hq => by
  simp at hq
  rcases hq with rfl | rfl
  ·exact aZ.2 (.inr (.inr (.inl (tO _ (hmd _ (by simp))))))
  ·exact aZ.2 (.inl rfl)
 have hP : iM W0 C.mb H ({ C.A with db := C.A.fb, eb := C.A.fe } : dw) ((w1.setCell ⟨C.mb, 12, none⟩ (pQ C.A.fb)).setCell ⟨C.mb, 13, none⟩ (.pointer none)) Fs { st.a with d := st.a.d + 1, l := c.2, cop := none } :=
  ⟨fun i N hN => ⟨(hp.ko i N hN).1.mod hm2 (fun q hq dH => by
    simp at dH
    rcases dH with h1 | h1
    ·exact XJ i (bA hN) q hq (by simp [h1])
    ·exact hmb q (xA i (bA hN) q hq) h1), (hp.ko i N hN).2⟩, hD2, fun next lf he => (by cases he), hp.sep, fun i hi q hq hq2 => XJ i hi q hq (by unfold dw.dU at hq2; simp at hq2 ⊢; omega), fun q hq => hp.low q (hF ▸ hin q hq), fun hq => hmb _ (hin _ hq) rfl, hp.wm⟩
 refine ⟨_, h.upd { C.A with db := C.A.fb, eb := C.A.fe } C.v { st with a := { st.a with d := st.a.d + 1, l := c.2, cop := none } } hm2 hS (h.aC.aC.mod hm2 (fun q hq dH => ?_)) ⟨Fs, rfl, hP⟩ ⟨rfl, ?_⟩ (kZ (st := st) h hm2 (fun q hq => ?_)) h.pos (fun q hq => .inl (hin q hq)) (fun g hg => ⟨.inl hg, fun hh => by have := (h.row.lt g hg).2; omega⟩)⟩
 ·have ha := h.aC.apart q hq
  simp at dH
  rcases dH with h1 | h1
  ·exact ha.1 (tO q (hmd q (by simp [h1])))
  ·exact ha.2.1 h1
 ·exact (((Met.blk h.aC.met).mod hm (fun hq => hmb _ (tO _ (hmd C.A.cb (by simp))) (List.mem_singleton.1 hq).symm)).ak 12 _).ak 13 _
 ·simp at hq
  rcases hq with h1 | h1
  ·exact .inr (.inr (tO q (hmd q (by simp [h1]))))
  ·exact .inl h1
end
end
section
variable {W0 w w0 : World} {E : Nat → Addr} {H : Nat → Nat} {C : gV} {F G0 : List Nat} {st : kr}
theorem Qu : (Tryz.prog.info? 91).map (fun i => (i.zero, i.size, i.bytes)) = some (some (.pointer none), 1, 8) := by kernel_rfl
theorem Qv : xL Tryz.prog 100 91 1 8 := J6 Tryz.underlying100 Qu rfl (by decide) (by decide)
inductive zM (H : Nat → Nat) : Pool → Nat → Pool → Prop
 | take {a : Pool} {c : Nat × List Nat} (hc : a.cop = some c) (hl : c.1 = a.l.length) : zM H a 32 { a with d := a.d + 1, l := c.2, cop := none }
 | one {a : Pool} {id : Nat} {N : Nd} {X : aB} (hN : a.Ns[id]? = some N) (hb : N.ph.busy = true) (hl : N.left = 0) (ho : dL H N) (hm : N.many = 1) (hk : dL H ⟨N.pfx, N.au, 0, 0, X, .idle⟩) (he : (Nd.mk N.pfx N.au 0 0 X .idle).ents = N.ents) (hx : X.gs.length = N.each) : zM H a id { a with Ns := a.Ns.set id ⟨N.pfx, N.au, 0, 0, X, .idle⟩ }
 | two {a : Pool} {id : Nat} {N : Nd} {X Y : aB} (hN : a.Ns[id]? = some N) (hb : N.ph.busy = true) (hl : N.left = 0) (ho : dL H N) (hm : N.many = 2) (hd : N.au < a.d) (hk : dL H ⟨2 * N.pfx, N.au + 1, 0, 0, X, .idle⟩) (hk2 : dL H ⟨2 * N.pfx + 1, N.au + 1, 0, 0, Y, .idle⟩)
   (he : (Nd.mk (2 * N.pfx) (N.au + 1) 0 0 X .idle).ents ++ (Nd.mk (2 * N.pfx + 1) (N.au + 1) 0 0 Y .idle).ents = N.ents) (hx : X.gs.length = N.each) (hy : Y.gs.length = N.each) : zM H a id (a.split id ⟨2 * N.pfx, N.au + 1, 0, 0, X, .idle⟩ ⟨2 * N.pfx + 1, N.au + 1, 0, 0, Y, .idle⟩)
def rV (W0 : World) (E : Nat → Addr) (H : Nat → Nat) (C : gV) (w0 : World) (G0 : List Nat) (st : kr) (id : Nat) (w' : World) : Prop := ∃ (A' : dw) (v' : Value) (F' : List Nat) (a' : Pool) (x' : bM) (u : Nat), zM H st.a id a' ∧ aA W0 E H { C with A := A', v := v' } w0 G0 w' F' { st with a := a', x := x' } ∧ dI st.x x' 0 u
theorem JN (h : aA W0 E H C w0 G0 w F st) (c : Nat × List Nat) (hc : st.a.cop = some c) (hl : c.1 = st.a.l.length) : Calls Tryz.prog 93 #[aU C.mb, .int .i64 ((32 : Nat) : Int)] w fun e w' => e = .returned undef ∧ rV W0 E H C w0 G0 st 32 w' := by
 have HC := qd h
 obtain ⟨c0, c1, c11, c12, c13, c14, c15⟩ := HC.out.cells
 obtain ⟨Fs, hF, hp⟩ := h.aC.pool
 unfold kM at c13
 rw [hc] at c13
 simp only [Option.isSome_some, if_true] at c13
 have HT := qd (Lp C.A.cb C.A.db C.A.eb C.A.fb C.A.fe st.a.d c.1 st.a.l c.2 hl w (hp.cop c.1 c.2 hc))
 have hcm : C.mb ≠ C.A.cb := fun e => hp.mb (aP.2 (.inr (by unfold dw.dU; rw [hc]; simp [e])))
 have HcM := qd hcm
 have yV := qd hc
 have HHl := qd hl
 clear h hF hp hcm hc hl
 unfold oC iA at HT
 unfold aU
 go_in
 go_wp2_with fail
 refine HT.out.mono ?_
 rintro x w1 ⟨rfl, hD, hm⟩
 have HD := qd hD
 have HM := qd hm
 have hB := (Met.blk HC.out.aC.met).mod hm (fun hq => HcM.out (List.mem_singleton.1 hq))
 have d12 : w1.cell? ⟨C.mb, 12, none⟩ = some (pQ C.A.db) := hB.cell 12
 have d13 : w1.cell? ⟨C.mb, 13, none⟩ = some (kM C.A st.a.cop) := hB.cell 13
 unfold kM at d13
 have g12 : w1.frozen? ⟨C.mb, 12, none⟩ = false := hB.frozen 12
 have g13 : w1.frozen? ⟨C.mb, 13, none⟩ = false := hB.frozen 13
 clear c0 c1 c11 c12 c13 c14 c15 hB hD hm HT
 go_wp2_with fail
 refine (Ve (some ⟨C.A.fb, 0, none⟩) w1).mono ?_
 rintro x w2 ⟨rfl, rfl⟩
 go_wp2
 refine bodyPost_ret (results_none rfl _ _ _) rfl ?_
 obtain ⟨F', hC'⟩ := HC.out.take yV.out HD.out HM.out
 have hfin : rV W0 E H C w0 G0 st 32 _ := ⟨_, _, F', _, st.x, 0, .take yV.out HHl.out, hC', dI.refl _⟩
 first | exact ⟨rfl, hfin⟩ | exact hfin
theorem Mc (h : aA W0 E H C w0 G0 w F st) (id : Nat) (N : Nd) (hN : st.a.Ns[id]? = some N) (hb : N.ph.busy = true) (hl : N.left = 0) (hm1 : N.many = 1) : Calls Tryz.prog 93 #[aU C.mb, .int .i64 ((id : Nat) : Int)] w fun e w' => e = .returned undef ∧ rV W0 E H C w0 G0 st id w' := by
 have HC := qd h
 obtain ⟨c0, c1, c11, c12, c13, c14, c15⟩ := HC.out.cells
 obtain ⟨Fs, hF, hp⟩ := h.aC.pool
 have hid := bA hN
 have hle := hp.wm
 have h32 : ¬ (id : Int) = 32 := by omega
 obtain ⟨vb, cap, hv, hr⟩ := h.rowAt
 rw [hv] at c11
 have cr := hr id hid
 have hn' : (id : Int) < (st.a.Ns.length : Int) := by omega
 have hi0 : (0 : Int) ≤ (id : Int) := by omega
 obtain ⟨Fi, hA, hO, hmb, hlow, hFi, hnx⟩ := h.node hN
 have HE := qd (Ql hA hO hb hl hm1)
 have HX := qd hnx
 have HP := qd (And.intro hN (And.intro hb (And.intro hl (And.intro hO hm1))))
 have OJ := qd hmb
 clear h hp hF hv hr hN hA hO hb hl hm1 hlow hFi hnx hmb hid hle
 generalize st.a.Ns.length = n at *
 unfold aK at HE
 unfold aU
 go_in
 go_wp2_with fail
 refine HE.out.mono ?_
 rintro x w1 ⟨rfl, X, F', h1, h2, h3, h4, h5, h6⟩
 obtain ⟨F2, hC'⟩ := HX.out w1 F' Fi _ st.x h1 h2 (fun q hq => .inl (h5 q hq)) (HC.out.aC.met.mod h6 OJ.out) h6 (fun q hq => .inr hq)
 have rF := qd hC'
 have HE2 := qd (zM.one (X := X) HP.out.1 HP.out.2.1 HP.out.2.2.1 HP.out.2.2.2.1 HP.out.2.2.2.2 h2 h3 h4)
 clear hC' h1 h2 h3 h4 h5 h6 HE HX HP c0 c1 c11 c12 c13 c14 c15 cr
 go_wp2_with fail
 refine (H8 none w1).mono ?_
 rintro x w2 ⟨rfl, rfl⟩
 go_wp2
 refine bodyPost_ret (results_none rfl _ _ _) rfl ?_
 have hfin : rV W0 E H C w0 G0 st id _ := ⟨C.A, C.v, F2, _, st.x, 0, HE2.out, rF.out, dI.refl _⟩
 first | exact ⟨rfl, hfin⟩ | exact hfin
theorem V6 (h : aA W0 E H C w0 G0 w F st) (p pd id : Nat) (h1 : pd ≤ st.a.d) (hp : p < 2 ^ pd) : Calls Tryz.prog 145 #[aU C.mb, nI p, nI pd, nI id] w fun e w' => ∃ n, 1 ≤ n ∧ e = .returned (.int .i64 ((n : Nat) : Int)) ∧ aA W0 E H C w0 G0 w' F { st with a := { st.a with l := jq st.a.l (bZ p pd st.a.d) id (2 ^ (st.a.d - pd)), cop := st.a.cop.map fun c => (c.1, oD c.2 (jq st.a.l (bZ p pd st.a.d) id (2 ^ (st.a.d - pd))) (bZ p pd st.a.d) (min (bZ p pd st.a.d + 2 ^ (st.a.d - pd)) c.1 - bZ p pd st.a.d)) } } := by
 cases hc : st.a.cop with
 | none => have := JL h p pd id h1 hp hc; rw [hc] at this; exact this
 | some c => have := JM h p pd id h1 hp c hc; rw [hc] at this; exact this
theorem Me (h : aA W0 E H C w0 G0 w F st) (hd : d9 st.a) (xZ : ∀ i ∈ st.ids, i ≠ st.a.Ns.length) (id : Nat) (N : Nd) (hN : st.a.Ns[id]? = some N) (hb : N.ph.busy = true) (hl : N.left = 0) (hm2 : N.many = 2) : Calls Tryz.prog 93 #[aU C.mb, .int .i64 ((id : Nat) : Int)] w fun e w' => e = .returned undef ∧ rV W0 E H C w0 G0 st id w' := by
 have HC := qd h
 obtain ⟨c0, c1, c11, c12, c13, c14, c15⟩ := HC.out.cells
 obtain ⟨Fs, hF, hp⟩ := h.aC.pool
 have hid := bA hN
 have hle := hp.wm
 have h32 : ¬ (id : Int) = 32 := by omega
 obtain ⟨vb, cap, hv, hr⟩ := h.rowAt
 rw [hv] at c11
 have cr := hr id hid
 have hn' : (id : Int) < (st.a.Ns.length : Int) := by omega
 have hi0 : (0 : Int) ≤ (id : Int) := by omega
 have hpos := h.pos
 have hfit := hd.fit id N hN
 have hlt : N.au < st.a.d := hd.split id N hN hb (by
  unfold Nd.many at hm2
  by_cases hk : N.kind = 3
  ·exact hk
  ·rw [if_neg hk] at hm2; omega)
 have Qw : st.a.Ns.length + 1 ≤ 32 := by
  have hs := (hd.SX (N0 := ⟨2 * N.pfx, N.au + 1, 0, 0, N.T, .idle⟩) (N1 := ⟨2 * N.pfx + 1, N.au + 1, 0, 0, N.T, .idle⟩) hN hlt ⟨rfl, rfl, rfl⟩ ⟨rfl, rfl, rfl⟩).nodes
  have h5 := hp.dir.le
  have h6 : 2 ^ st.a.d ≤ 2 ^ 5 := Nat.pow_le_pow_right (by decide) h5
  have h7 : (st.a.split id ⟨2 * N.pfx, N.au + 1, 0, 0, N.T, .idle⟩ ⟨2 * N.pfx + 1, N.au + 1, 0, 0, N.T, .idle⟩).Ns.length = st.a.Ns.length + 1 := by unfold Pool.split; simp
  have h8 : (st.a.split id ⟨2 * N.pfx, N.au + 1, 0, 0, N.T, .idle⟩ ⟨2 * N.pfx + 1, N.au + 1, 0, 0, N.T, .idle⟩).d = st.a.d := rfl
  rw [h7, h8] at hs
  omega
 obtain ⟨Fi, hA, hO, hnx⟩ := h.two hN
 have HE := qd (Qm hA hO hb hl hm2)
 have HX := qd hnx
 have HP := qd (And.intro hN (And.intro hb (And.intro hl (And.intro hO (And.intro hm2 hlt)))))
 have abL := qd xZ
 have HH := qd Qw
 have HV := qd hv
 have HFt := qd hfit
 have hn32 : st.a.Ns.length ≤ 32 := hle
 obtain ⟨n, hn⟩ : ∃ n, n = st.a.Ns.length := ⟨_, rfl⟩
 rw [← hn] at c11 hn' hn32 hpos Qw
 have HN := qd hn
 clear h hp hF hv hr hN hA hO hb hl hm2 hnx hid hle hd xZ hfit hlt hn
 unfold aK at HE
 unfold aU
 go_in
 go_wp2_with fail
 refine HE.out.mono ?_
 rintro x w1 ⟨qb, rfl, yM, _, X, Y, F', F2, a1, a2, a3, a4, a5, a6, a7, a8, a9, yh, Al⟩
 obtain ⟨Fn, b1, b2⟩ := HX.out w1 F' F2 Fi _ _ qb a1 a3 a2 a8 a9 yh Al (fun q hq => hq)
 have qV := qd b1
 have HA1 := qd a2
 have KN := qd b2
 have HE2 := qd (zM.two (X := X) (Y := Y) HP.out.1 HP.out.2.1 HP.out.2.2.1 HP.out.2.2.2.1 HP.out.2.2.2.2.1 HP.out.2.2.2.2.2 a3 a4 a5 a6 a7)
 have zW := qd a4
 have hln : (st.a.Ns.set id (Nd.mk (2 * N.pfx) (N.au + 1) 0 0 X .idle)).length = n := by rw [List.length_set, HN.out]
 have qN := qd hln
 clear b1 b2 a1 a2 a3 a4 a5 a6 a7 a8 a9 yh Al HE HX HC hln c0 c1 c11 c12 c13 c14 c15 cr
 go_wp2_with fail
 refine (H8 (some ⟨qb, 0, none⟩) w1).mono ?_
 rintro x w2 ⟨rfl, rfl⟩
 obtain ⟨c0, c1, c11, c12, c13, c14, c15⟩ := qV.out.cells
 rw [HV.out] at c11
 have wO := qV.out.row
 have hO2 : w1.ownsRow W0.heap.size 91 1 C.v n (jA C.A n) := by
  have := wO
  rw [show ({ st with a := { st.a with Ns := st.a.Ns.set id (Nd.mk (2 * N.pfx) (N.au + 1) 0 0 X .idle) } } : kr).a.Ns.length = n from qN.out] at this
  exact this
 rw [HV.out, ← HN.out] at hO2
 rw [← HN.out] at c11
 have hBm : ∀ (V : World) (v4 : Value), ou w1 W0.heap.size C.v V v4 → V.cell? ⟨C.mb, 11, none⟩ = some C.v ∧ V.frozen? ⟨C.mb, 11, none⟩ = false := fun V v4 hg => by
  have hb := (Met.blk qV.out.aC.met).mod (Ma hg) (fun hq => qV.out.yU C.mb (Option.mem_toList.1 hq) (by show C.mb ∈ C.mb :: _; simp))
  exact ⟨hb.cell 11, hb.frozen 11⟩
 rw [HV.out, ← HN.out] at hBm
 have Dr := qd hBm
 have HV2 := qd (show C.v = .slice (some ⟨vb, 0, none⟩) n cap from by rw [HV.out, HN.out])
 clear wO hBm
 have hlw : W0.heap.size ≤ w1.heap.size := qV.out.aC.env.size
 go_upto_region 5 with fail
 go_upto_region 6 with (at_builtin; refine jP rfl rfl Qv hO2 rfl rfl rfl rfl rfl (by omega) (by omega) ?_; intro v4 w4 dB gN; obtain ⟨A4, c4, rfl⟩ := dJ dB; obtain ⟨d11, g11⟩ := Dr.out _ _ gN)
 obtain ⟨F3, Ai, hA3⟩ := qV.out.grow HA1.out zW.out KN.out (show ∀ i ∈ st.ids, i ≠ (st.a.Ns.set id (Nd.mk (2 * N.pfx) (N.au + 1) 0 0 X .idle)).length from by rw [List.length_set]; exact abL.out) (show (st.a.Ns.set id (Nd.mk (2 * N.pfx) (N.au + 1) 0 0 X .idle)).length + 1 ≤ 32 from by rw [List.length_set]; exact HH.out) (v4 := .slice A4 (n + 1) c4) (w4 := w4) (show w4.ownsRow W0.heap.size 91 1 (.slice A4 (n + 1) c4) ((st.a.Ns.set id (Nd.mk (2 * N.pfx) (N.au + 1) 0 0 X .idle)).length + 1) (jA C.A (st.a.Ns.set id (Nd.mk (2 * N.pfx) (N.au + 1) 0 0 X .idle)).length ++ [pQ qb]) from by rw [qN.out]; exact dB) (by rw [HV2.out]; exact gN)
 refine cO (F := fun v => aA W0 E H { C with A := C.A.more (st.a.Ns.set id (Nd.mk (2 * N.pfx) (N.au + 1) 0 0 X .idle)).length qb, v := .slice A4 (n + 1) c4 } w0 G0 v F3 { st with a := { st.a with Ns := st.a.Ns.set id (Nd.mk (2 * N.pfx) (N.au + 1) 0 0 X .idle) ++ [Nd.mk (2 * N.pfx + 1) (N.au + 1) 0 0 Y .idle] } } ∧ bJ v qb F2 (Nd.mk (2 * N.pfx + 1) (N.au + 1) 0 0 Y .idle)) ⟨Ai, hA3⟩ ?_
 rintro w5 ⟨BH, I5⟩
 obtain ⟨pp, hpp⟩ : ∃ pp, pp = 2 * N.pfx + 1 := ⟨_, rfl⟩
 obtain ⟨dd, hdd⟩ : ∃ dd, dd = N.au + 1 := ⟨_, rfl⟩
 have S9 := qd (show Calls Tryz.prog 106 #[aK qb] w5 fun e w' => e = .returned (.tuple #[nI pp, nI dd]) ∧ w5.drew = w' from by rw [hpp, hdd]; exact IW I5)
 have HPp := qd hpp
 have Ta := qd hdd
 have wu := qd BH
 unfold aK at S9
 clear c0 c1 c11 c12 c13 c14 c15 Ai hA3 dB gN d11 g11 hO2 Dr hpp hdd BH I5
 go_wp2_with fail
 refine S9.out.mono ?_
 rintro x w6 ⟨rfl, hd6⟩
 have hb6 : Below w5.heap.size w5 w6 := hd6 ▸ (Below.refl _ _).drew
 have kN := qd (wu.out.below hb6)
 have e11 : w6.cell? ⟨C.mb, 11, none⟩ = some (.slice A4 (n + 1) c4) := kN.out.cells.2.2.1
 have Tc := qd (kN.out.below (Below.refl w6.heap.size w6).drew)
 have hfit := HFt.out
 have abM := HP.out.2.2.2.2.2
 have jg := qd (V6 Tc.out pp dd n (show dd ≤ st.a.d from by rw [Ta.out]; omega) (by rw [HPp.out, Ta.out, Nat.pow_succ]; omega))
 have hw1 : IntKind.i64.wrap (n : Int) = (n : Int) := by rw [IntKind.wrap_i64]; omega
 have hw2 : IntKind.i64.wrap ((n : Int) + 1 - 1) = (n : Int) := by rw [show (n : Int) + 1 - 1 = (n : Int) by omega]; exact hw1
 clear hd6 hb6 S9 wu kN hfit abM
 unfold aU at jg
 go_wp2_with fail
 refine rT (fun (w' : World) => w'.cell? ⟨C.mb, 11, none⟩ = some (.slice A4 (n + 1) c4)) [12, 13] ?_
 have hHeld := e11
 refine vW 0 rfl ?_
 refine vW 1 rfl ?_
 refine vW 2 rfl ?_
 refine vW 3 rfl ?_
 refine vW 4 rfl ?_
 refine vW 5 rfl ?_
 refine vW 6 rfl ?_
 refine vW 7 rfl ?_
 refine vW 8 rfl ?_
 refine nT 9 rfl fun K hK => ?_
 go_simp
 refine kO hK ?_
 clear hK K
 refine vW 10 rfl ?_
 refine vW 11 rfl ?_
 refine nT 12 rfl fun K hK => ?_
 go_simp
 refine (jg.out).mono ?_
 rintro y w8 ⟨k, hk1, rfl, hC8⟩
 have XK := qd hC8
 clear hC8
 have HUn := qd (BG XK.out k hk1)
 go_wp2_with fail
 refine kO hK ?_
 clear hK K
 refine nT 13 rfl fun K hK => ?_
 go_simp
 refine (HUn.out).mono ?_
 rintro y w9 ⟨rfl, XL⟩
 have Dt := qd XL
 clear XL HUn
 go_wp2_with fail
 refine kO hK ?_
 clear hK K
 refine aT (by kernel_rfl) ?_ _
 go_wp2
 go_end0
 have XL := Dt.out
 have hpp := HPp.out
 have hdd := Ta.out
 have hn9 := HN.out
 subst hpp hdd hn9
 have hfin : rV W0 E H C w0 G0 st id _ := ⟨_, _, _, _, _, k, HE2.out, XL, qQ st.x k⟩
 first | exact ⟨rfl, hfin⟩ | exact hfin
end
end Go.Proofs.YtbphcldoflekpaaGreatDoor
