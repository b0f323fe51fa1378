/- A map as one thing: its block, its core, its iterators. No statement of the claim. -/
import Derived.Test.YtfojgfddgplinabGreatDoorRmC
import Derived.Test.YtfojgfddgplinabGreatDoorSqT
import Derived.Test.YtfojgfddgplinabGreatDoorLaneP
import Derived.Test.YtfojgfddgplinabGreatDoorRmI
import Derived.Test.YtfojgfddgplinabGreatDoorCoCP
import Derived.Test.YtfojgfddgplinabGreatDoorCoS
namespace Go.Proofs.YtfojgfddgplinabGreatDoor
set_option maxRecDepth 100000
set_option maxHeartbeats 4000000
open Go.RowKit dG
section
variable {fI S : List Nat} {Kk ph pk pm pr : Nat} {V : World} {e : av}
def dU (b : Nat) (C : fZ) (GC : List Nat) (mb : Nat) (its : List It) : List Nat := b :: (dz C.ib mb its ++ GC)
structure fO (W0 : World) (E : Nat → Addr) (H : Nat → Nat) (K M I b : Nat) (G0 : List Nat) (w0 : World) (C : fZ) (GC : List Nat) (mb gv : Nat) (w : World) (a : Pool) (ids : List Nat) (its : List It) : Prop where
 blk : qI w b C
 cfg : C.k = (K : Int) ∧ C.m = (M : Int) ∧ C.i = (I : Int)
 core : gP W0 E H K M C.cb GC w a ids
 ou : j4 w C.ib mb I gv its
 b0 : W0.heap.size ≤ b ∧ ∀ q ∈ dz C.ib mb its, W0.heap.size ≤ q
 apart : b ∉ GC ∧ b ∉ dz C.ib mb its ∧ ∀ q ∈ dz C.ib mb its, q ∉ GC
 sub : ∀ q ∈ dU b C GC mb its, q ∈ G0 ∨ w0.heap.size ≤ q
 mod : Mod G0 w0 w
 o9 : W0.heap.size ≤ w0.heap.size
theorem aG {b : Nat} {C : fZ} {GC : List Nat} {mb : Nat} {its : List It} {q : Nat} : q ∈ dU b C GC mb its ↔ q = b ∨ q ∈ dz C.ib mb its ∨ q ∈ GC := by unfold dU; simp
section
variable {W0 : World} {E : Nat → Addr} {H : Nat → Nat} {K M I b : Nat} {G0 : List Nat} {w0 : World} {C C' : fZ} {GC : List Nat} {mb gv FZ : Nat} {w w' : World} {a a' : Pool} {ids aI : List Nat} {its uL : List It}
theorem fO.fQ (h : fO W0 E H K M I b G0 w0 C GC mb gv w a ids its) : ∀ q ∈ dU b C GC mb its, q < w.heap.size ∧ W0.heap.size ≤ q := fun q hq => by
 rcases aG.1 hq with rfl | hq | hq
 ·exact ⟨h.blk.lt, h.b0.1⟩
 ·exact ⟨h.ou.fQ q hq, h.b0.2 q hq⟩
 ·exact h.core.facts.2.2.2.2.2.2.2.2.2.2.1 q hq
theorem fO.kk (h : fO W0 E H K M I b G0 w0 C GC mb gv w a ids its) : 1 ≤ C.k ∧ C.k ≤ 64 := by
 have := h.core.facts.2.2.2.2.2.2.2.2.1
 rw [h.cfg.1]; omega
theorem fO.Cj (h : fO W0 E H K M I b G0 w0 C GC mb gv w a ids its) (hm : Mod S w w') (hS : ∀ q ∈ S, q ∉ dU b C GC mb its ∧ w0.heap.size ≤ q) : fO W0 E H K M I b G0 w0 C GC mb gv w' a ids its := by
 have h1 : ∀ q ∈ dU b C GC mb its, q ∉ S := fun q hq hs => (hS q hs).1 hq
 exact ⟨h.blk.mod hm (h1 b (aG.2 (.inl rfl))), h.cfg, h.core.mod hm (fun q hq => ⟨fun hg => (hS q hq).1 (aG.2 (.inr (.inr hg))), Nat.le_trans h.o9 (hS q hq).2⟩), h.ou.mod hm (fun q hq => h1 q (aG.2 (.inr (.inl hq)))), h.b0, h.apart, h.sub, h.mod.trans hm (fun _ hk _ => hk) (fun k hk hl => absurd (hS k hk).2 (by omega)), h.o9⟩
theorem fO.below (h : fO W0 E H K M I b G0 w0 C GC mb gv w a ids its) (hb : Below w.heap.size w w') : fO W0 E H K M I b G0 w0 C GC mb gv w' a ids its := h.Cj (Mod.of_below hb []) (by simp)
theorem fO.Qh (h : fO W0 E H K M I b G0 w0 C GC mb gv w a ids its) (hB : qI w' b C') (hm : Mod [b] w w') (hk : C'.k = C.k ∧ C'.m = C.m ∧ C'.i = C.i ∧ C'.cb = C.cb ∧ C'.ib = C.ib) : fO W0 E H K M I b G0 w0 C' GC mb gv w' a ids its := by
 obtain ⟨k1, k2, k3, k4, k5⟩ := hk
 refine ⟨hB, by rw [k1, k2, k3]; exact h.cfg, by rw [k4]; exact h.core.mod hm (fun q hq => by rw [List.mem_singleton.1 hq]; exact ⟨h.apart.1, h.b0.1⟩), by rw [k5]; exact h.ou.mod hm (fun q hq hs => h.apart.2.1 (List.mem_singleton.1 hs ▸ hq)), by rw [k5]; exact h.b0, by rw [k5]; exact h.apart, fun q hq => h.sub q (by rw [aG] at hq ⊢; rw [k5] at hq; exact hq), h.mod.trans hm (fun _ hk _ => hk) (fun k hk hl => ?_), h.o9⟩
 rcases h.sub b (aG.2 (.inl rfl)) with h1 | h1
 ·rw [List.mem_singleton.1 hk]; exact h1
 ·rw [List.mem_singleton.1 hk] at hl; omega
theorem Mod.within (h : Mod G0 w0 w) (hm : Mod S w w') (hs : ∀ q ∈ S, q ∈ G0 ∨ w0.heap.size ≤ q) : Mod G0 w0 w' := h.trans hm (fun _ hk _ => hk) fun k hk hl => (hs k hk).elim id fun h1 => absurd h1 (by omega)
theorem fO.Xn (h : fO W0 E H K M I b G0 w0 C GC mb gv w a ids its) (h1 : gP W0 E H K M C.cb fI w' a' aI) (h2 : ∀ q ∈ fI, q ∈ GC ∨ w.heap.size ≤ q) (h3 : Mod GC w w') : fO W0 E H K M I b G0 w0 C fI mb gv w' a' aI its := by
 have hbl := h.blk.lt
 have hil := h.ou.fQ
 refine ⟨h.blk.mod h3 h.apart.1, h.cfg, h1, h.ou.mod h3 h.apart.2.2, h.b0, ⟨fun hg => ?_, h.apart.2.1, fun q hq hg => ?_⟩, fun q hq => ?_, h.mod.within h3 (fun q hq => h.sub q (aG.2 (.inr (.inr hq)))), h.o9⟩
 ·rcases h2 b hg with k | k
  ·exact h.apart.1 k
  ·omega
 ·rcases h2 q hg with k | k
  ·exact h.apart.2.2 q hq k
  ·have := hil q hq; omega
 ·rcases aG.1 hq with k | k | k
  ·exact h.sub q (aG.2 (.inl k))
  ·exact h.sub q (aG.2 (.inr (.inl k)))
  ·rcases h2 q k with k | k
   ·exact h.sub q (aG.2 (.inr (.inr k)))
   ·have := h.mod.size; exact .inr (by omega)
theorem fO.aak (h : fO W0 E H K M I b G0 w0 C GC mb gv w a ids its) (hc : l7 W0 E H K M C.cb GC w w' a' aI) : ∃ fI, fO W0 E H K M I b G0 w0 C fI mb gv w' a' aI its ∧ (∀ q ∈ fI, q ∈ GC ∨ w.heap.size ≤ q) ∧ Mod GC w w' := by
 obtain ⟨fI, h1, h2, h3⟩ := hc
 exact ⟨fI, h.Xn h1 h2 h3, h2, h3⟩
theorem fO.aal (h : fO W0 E H K M I b G0 w0 C GC mb gv w a ids its) (hi : j4 w' C.ib mb I FZ uL) (hm : Mod S w w') (hS : ∀ q ∈ S, q ∈ dz C.ib mb its ∨ (q ∉ dU b C GC mb its ∧ w0.heap.size ≤ q)) (hn : ∀ q ∈ dz C.ib mb uL, q ∈ dz C.ib mb its ∨ w.heap.size ≤ q) : fO W0 E H K M I b G0 w0 C GC mb FZ w' a ids uL := by
 have hbl := h.blk.lt
 have hcl := h.core.facts.2.2.2.2.2.2.2.2.2.2.1
 have hen := h.core.facts.2.2.2.2.2.2.2.2.2.2.2.size
 refine ⟨h.blk.mod hm (fun hs => ?_), h.cfg, h.core.mod hm (fun q hq => ?_), hi, ⟨h.b0.1, fun q hq => ?_⟩, ⟨h.apart.1, fun hq => ?_, fun q hq hg => ?_⟩, fun q hq => ?_, h.mod.within hm (fun q hq => ?_), h.o9⟩
 ·rcases hS b hs with k | k
  ·exact h.apart.2.1 k
  ·exact k.1 (aG.2 (.inl rfl))
 ·rcases hS q hq with k | k
  ·exact ⟨h.apart.2.2 q k, h.b0.2 q k⟩
  ·exact ⟨fun hg => k.1 (aG.2 (.inr (.inr hg))), Nat.le_trans h.o9 k.2⟩
 ·rcases hn q hq with k | k
  ·exact h.b0.2 q k
  ·omega
 ·rcases hn b hq with k | k
  ·exact h.apart.2.1 k
  ·omega
 ·rcases hn q hq with k | k
  ·exact h.apart.2.2 q k hg
  ·have := (hcl q hg).1; omega
 ·rcases aG.1 hq with k | k | k
  ·exact h.sub q (aG.2 (.inl k))
  ·rcases hn q k with k | k
   ·exact h.sub q (aG.2 (.inr (.inl k)))
   ·have := h.mod.size; exact .inr (by omega)
  ·exact h.sub q (aG.2 (.inr (.inr k)))
 ·rcases hS q hq with k | k
  ·exact h.sub q (aG.2 (.inr (.inl k)))
  ·exact .inr k.2
theorem fO.again (h : fO W0 E H K M I b G0 w0 C GC mb gv w a ids its) : fO W0 E H K M I b (dU b C GC mb its) w C GC mb gv w a ids its := ⟨h.blk, h.cfg, h.core, h.ou, h.b0, h.apart, fun q hq => .inl hq, Mod.refl _ _, by have := h.core.facts.2.2.2.2.2.2.2.2.2.2.2.size; exact this⟩
theorem fO.chain {mb' : Nat} (h : fO W0 E H K M I b G0 w0 C GC mb gv w a ids its) (k : fO W0 E H K M I b (dU b C GC mb its) w C' fI mb' FZ w' a' aI uL) : fO W0 E H K M I b G0 w0 C' fI mb' FZ w' a' aI uL :=
 ⟨k.blk, k.cfg, k.core, k.ou, k.b0, k.apart, fun q hq => (k.sub q hq).elim (fun g => h.sub q g) (fun g => .inr (by have := h.mod.size; omega)), h.mod.within k.mod h.sub, h.o9⟩
end
def jI (W0 : World) (E : Nat → Addr) (H : Nat → Nat) (K M I b : Nat) (G : List Nat) (w : World) (a : Pool) (ids : List Nat) (its : List It) (gv : Nat) (jw : bF) : Prop :=
 ∃ (C : fZ) (GC : List Nat) (mb : Nat), fO W0 E H K M I b (dU b C GC mb its) w C GC mb gv w a ids its ∧ G = dU b C GC mb its ∧ C.last = jw
def wR (W0 : World) (E : Nat → Addr) (H : Nat → Nat) (K M I b : Nat) (G : List Nat) (w w' : World) (a' : Pool) (aI : List Nat) (uL : List It) (FZ : Nat) (jO : bF) : Prop :=
 ∃ G', jI W0 E H K M I b G' w' a' aI uL FZ jO ∧ (∀ q ∈ G', q ∈ G ∨ w.heap.size ≤ q) ∧ Mod G w w'
section
variable {W0 : World} {E : Nat → Addr} {H : Nat → Nat} {K M I b : Nat} {G G0 : List Nat} {w0 w w' : World} {C : fZ} {GC : List Nat} {mb gv FZ : Nat} {a a' : Pool} {ids aI : List Nat} {its uL : List It} {jw jO : bF}
theorem fO.to (h : fO W0 E H K M I b G w C GC mb gv w' a' aI uL) : wR W0 E H K M I b G w w' a' aI uL gv C.last := ⟨_, ⟨C, GC, mb, h.again, rfl, rfl⟩, h.sub, h.mod⟩
theorem jI.mod (h : jI W0 E H K M I b G w a ids its gv jw) (hm : Mod S w w') (hS : ∀ q ∈ S, q ∉ G ∧ W0.heap.size ≤ q) : jI W0 E H K M I b G w' a ids its gv jw := by
 obtain ⟨C, GC, mb, h1, rfl, h2⟩ := h
 have k1 : ∀ q ∈ dU b C GC mb its, q ∉ S := fun q hq hs => (hS q hs).1 hq
 have h3 : fO W0 E H K M I b (dU b C GC mb its) w' C GC mb gv w' a ids its := ⟨h1.blk.mod hm (k1 b (aG.2 (.inl rfl))), h1.cfg, h1.core.mod hm (fun q hq => ⟨fun hg => (hS q hq).1 (aG.2 (.inr (.inr hg))), (hS q hq).2⟩), h1.ou.mod hm (fun q hq => k1 q (aG.2 (.inr (.inl hq)))), h1.b0, h1.apart, fun q hq => .inl hq, Mod.refl _ _, by have := h1.o9; have := hm.size; omega⟩
 exact ⟨C, GC, mb, h3, rfl, h2⟩
theorem jI.below (h : jI W0 E H K M I b G w a ids its gv jw) (hb : Below w.heap.size w w') : jI W0 E H K M I b G w' a ids its gv jw := h.mod (Mod.of_below hb []) (by simp)
theorem jI.facts (h : jI W0 E H K M I b G w a ids its gv jw) : (∀ q ∈ G, q < w.heap.size ∧ W0.heap.size ≤ q) ∧ (a.ents.map av.key).Nodup ∧ a.ents.length ≤ M ∧ M ≤ 192 ∧ a.Ns.length ≤ 32 ∧ 1 ≤ a.Ns.length ∧ (its.map It.id).Nodup ∧ its.length ≤ I ∧ I ≤ 8 ∧ Env W0 E w := by
 obtain ⟨C, GC, mb, h1, rfl, h2⟩ := h
 obtain ⟨_, _, f3, f4, _, _, f7, f8, _, f10, _, f12⟩ := h1.core.facts
 exact ⟨h1.fQ, f10, f7, f8, f3, f4, h1.ou.nd, h1.ou.few.2, h1.ou.few.1, f12⟩
theorem wR.next (h : wR W0 E H K M I b G w w' a' aI uL FZ jO) {w2 : World} (hb : Below w'.heap.size w' w2) : wR W0 E H K M I b G w w2 a' aI uL FZ jO := by
 obtain ⟨G', h1, h2, h3⟩ := h
 exact ⟨G', h1.below hb, h2, h3.then (Mod.of_below hb _)⟩
theorem SH (h : jI W0 E H K M I b G w a ids its gv jw) : Calls Tryz.prog 12 #[.pointer (some ⟨b, 0, none⟩)] w fun y w' => y = .returned (.int .i64 (a.ents.length : Int)) ∧ w = w' := by
 obtain ⟨C, GC, mb, hS, rfl, yw⟩ := h
 have hbk := hS.blk.blk
 unfold fZ.cells at hbk
 have c3 := hbk.cell 3
 simp only [gl] at c3
 have HL := qd (aaf hS.core)
 unfold aZ at HL
 clear hbk hS yw
 go_in
 go_wp2_with fail
 refine HL.out.mono ?_
 rintro y w1 ⟨rfl, rfl⟩
 go_wp2
 go_ret
 exact ⟨rfl, rfl⟩
theorem VI (h : jI W0 E H K M I b G w a ids its gv jw) : Calls Tryz.prog 13 #[.pointer (some ⟨b, 0, none⟩)] w fun y w' => y = .returned (.int .i64 (a.Ns.length : Int)) ∧ w = w' := by
 obtain ⟨C, GC, mb, hS, rfl, yw⟩ := h
 have hbk := hS.blk.blk
 unfold fZ.cells at hbk
 have c3 := hbk.cell 3
 simp only [gl] at c3
 have HL := qd (VF hS.core)
 unfold aZ at HL
 clear hbk hS yw
 go_in
 go_wp2_with fail
 refine HL.out.mono ?_
 rintro y w1 ⟨rfl, rfl⟩
 go_wp2
 go_ret
 exact ⟨rfl, rfl⟩
theorem Om (h : jI W0 E H K M I b G w a ids its gv jw) (hlt : its.length < I) (hg : gv ≤ 100000) : Calls Tryz.prog 10 #[.pointer (some ⟨b, 0, none⟩)] w fun y w' => ∃ cb, y = .returned (.tuple #[.int .i64 ((gv + 1 : Nat) : Int), .nilIface]) ∧ wR W0 E H K M I b G w w' a ids (its ++ [⟨gv + 1, cb, ⟨0, 0, false⟩⟩]) (gv + 1) jw := by
 obtain ⟨C, GC, mb, hS, rfl, yw⟩ := h
 have hbk := hS.blk.blk
 unfold fZ.cells at hbk
 have c16 := hbk.cell 16
 simp only [gl] at c16
 have hop := Qg hS.ou hlt hg
 have HO := qd hop
 have HS := qd hS
 have HQ := qd yw
 clear hbk hS hop yw
 go_in
 go_wp2_with fail
 refine HO.out.mono ?_
 rintro y w1 ⟨cb, hcb, rfl, hi, hm⟩
 have hs := HS.out.aal hi hm (fun q hq => .inl (by unfold dz; simp at hq ⊢; rcases hq with k | k; exact .inl k; exact .inr (.inl k))) (fun q hq => by
  unfold dz at hq ⊢
  simp only [List.map_append, List.mem_cons, List.mem_append, List.map_cons, List.map_nil, List.mem_singleton, List.not_mem_nil, or_false] at hq ⊢
  rcases hq with k | k | k | k
  ·exact .inl (.inl k)
  ·exact .inl (.inr (.inl k))
  ·exact .inl (.inr (.inr k))
  ·exact .inr (k ▸ hcb))
 have HE := qd (show wR W0 E H K M I b (dU b C GC mb its) w w1 a ids (its ++ [⟨gv + 1, cb, ⟨0, 0, false⟩⟩]) (gv + 1) jw from HQ.out ▸ hs.to)
 clear hs hi hm hcb HO
 go_wp2
 refine bodyPost_ret (v := .tuple #[.int .i64 ((gv : Int) + 1), .nilIface]) (by simp [results, Tryz.results10, go_sem]) rfl ⟨cb, rfl, HE.out⟩
end
def GL (W0 : World) (E : Nat → Addr) (H : Nat → Nat) (K M I b : Nat) (G0 : List Nat) (w0 : World) (C : fZ) (GC : List Nat) (mb gv : Nat) (its : List It) (R : Pool → List Nat → Prop) (pr : Nat) (t : TypeId) (v : Value) (V w' : World) : Prop :=
 ∃ fI a' aI, fO W0 E H K M I b G0 w0 C fI mb gv w' a' aI its ∧ R a' aI ∧ aj w' pr t #[v] ∧ (∀ q ∈ fI, q ∈ GC ∨ V.heap.size ≤ q) ∧ Mod (pr :: GC) V w'
theorem I7 (E : Nat → Addr) (k : Nat) : kW E k = .nilIface ∨ ∃ A, kW E k = .iface 285 (.pointer (some A)) := by
 unfold kW
 split
 ·exact .inl rfl
 ·exact .inr ⟨_, rfl⟩
theorem Yi {W0 : World} {E : Nat → Addr} {H : Nat → Nat} {M I b : Nat} {G0 : List Nat} {w0 : World} {C : fZ} {GC : List Nat} {mb gv : Nat} {a : Pool} {ids : List Nat} {its : List It} {pv : Nat} (hS : fO W0 E H Kk M I b G0 w0 C GC mb gv V a ids its) (hm : aj V pm 28 #[.pointer (some ⟨b, 0, none⟩)]) (hk : aj V pk 35 #[.int .u64 (e.key : Int)]) (hv : aj V pv 35 #[.int .u64 (e.val : Int)]) (hh : aj V ph 35 #[.int .u64 (e.hash : Int)]) (hr : aj V pr 30 #[.nilIface]) (hne : pr ∉ dU b C GC mb its ∧ w0.heap.size ≤ pr) (he : j6 H e) : Calls Tryz.prog 20 #[.pointer (some ⟨pm, 0, none⟩), .pointer (some ⟨pk, 0, none⟩), .pointer (some ⟨pv, 0, none⟩), .pointer (some ⟨ph, 0, none⟩), .pointer (some ⟨pr, 0, none⟩)] V fun y w' => y = .returned undef ∧ GL W0 E H Kk M I b G0 w0 C GC mb gv its (Ci H Kk M a ids e) pr 30 (kW E (rM M a.ents e.key)) V w' := by
 have hbk := hS.blk.blk
 unfold fZ.cells at hbk
 have c3 := hbk.cell 3
 simp only [gl] at c3
 have xm := hm.cell 0
 have xk := hk.cell 0
 have xv := hv.cell 0
 have xh := hh.cell 0
 simp only [List.getElem?_toArray, List.getElem?_cons_zero] at xm xk xv xh
 have HS := qd hS
 have jA := qd hr
 have gN := qd hne
 have HE := qd he
 have hdr := (Below.refl V.heap.size V).drew
 have hcl := Yf (hS.core.below hdr) e he
 unfold aZ at hcl
 obtain ⟨ev, hev⟩ : ∃ ev, ev = kW E (rM M a.ents e.key) := ⟨_, rfl⟩
 have hone : ev = .nilIface ∨ ∃ A, ev = .iface 285 (.pointer (some A)) := hev ▸ I7 E _
 rw [← hev] at hcl ⊢
 have Rz := qd hone
 clear hone
 have Bp := qd hcl
 clear hcl hev hbk hS hr hne he hdr hm hk hv hh
 go_in
 refine rT (fun (w' : World) => w'.cell? ⟨pm, 0, none⟩ = some (.pointer (some ⟨b, 0, none⟩)) ∧ w'.cell? ⟨pk, 0, none⟩ = some (.int .u64 (e.key : Int)) ∧ w'.cell? ⟨pv, 0, none⟩ = some (.int .u64 (e.val : Int)) ∧ w'.cell? ⟨ph, 0, none⟩ = some (.int .u64 (e.hash : Int)) ∧ w'.cell? ⟨b, 3, none⟩ = some (.pointer (some ⟨C.cb, 0, none⟩))) [7, 8] ?_
 have hHeld := (⟨xm, xk, xv, xh, c3⟩ : _ ∧ _ ∧ _ ∧ _ ∧ _)
 refine vT 4 rfl ?_
 refine vT 5 rfl ?_
 refine vT 6 rfl ?_
 refine nT 0 rfl fun K hK => ?_
 go_simp
 refine kO hK ?_
 clear hK K
 refine vW 1 rfl ?_
 refine vW 2 rfl ?_
 refine vT 3 rfl ?_
 refine nT 7 rfl fun K hK => ?_
 go_simp
 refine Bp.out.mono ?_
 rintro y V1 ⟨rfl, a', aI, hto, hpm⟩
 obtain ⟨fI, hS1, hsub, hmod⟩ := (HS.out.below (Below.refl V.heap.size V).drew).aak hto
 have gV := qd hS1
 have jf := qd hpm
 have zY : Mod GC V V1 := (Mod.of_below (Below.refl V.heap.size V).drew GC).then hmod
 have Ck := qd (show ∀ q ∈ fI, q ∈ GC ∨ V.heap.size ≤ q from hsub)
 have hpl := jA.out.lt
 have hr1 := (jA.out.mod zY (fun hg => gN.out.1 (aG.2 (.inr (.inr hg)))))
 have HR1 := qd hr1
 have HMo := qd zY
 have iW := qd hpl
 clear hto hpm hS1 hsub hmod zY hr1 hpl Bp
 go_wp2_with fail
 refine kO hK ?_
 clear hK K
 refine nT 8 rfl fun K hK => ?_
 have r0 := HR1.out.cell 0
 simp only [List.getElem?_toArray, List.getElem?_cons_zero] at r0
 have rf := HR1.out.frozen 0
 have hn2 := HR1.out.ak 0 (ev)
 have hm2 := (Mod.refl [pr] V1).sl 0 (ev)
 simp only [List.setIfInBounds_toArray, List.set_cons_zero] at hn2
 have hfr : ∀ q ∈ [pr], q ∉ dU b C fI mb its ∧ w0.heap.size ≤ q := fun q hq => by
  rw [List.mem_singleton.1 hq]
  refine ⟨fun hg => ?_, gN.out.2⟩
  rcases aG.1 hg with k | k | k
  ·exact gN.out.1 (aG.2 (.inl k))
  ·exact gN.out.1 (aG.2 (.inr (.inl k)))
  ·rcases Ck.out pr k with k | k
   ·exact gN.out.1 (aG.2 (.inr (.inr k)))
   ·have := iW.out; omega
 have HF := qd (show GL W0 E H Kk M I b G0 w0 C GC mb gv its (Ci H Kk M a ids e) pr 30 (ev) V (V1.setCell ⟨pr, 0, none⟩ (ev)) from ⟨fI, a', aI, gV.out.Cj hm2 hfr, jf.out, hn2, Ck.out, (HMo.out.more (fun q hq => List.mem_cons_of_mem _ hq)).then (hm2.more (fun q hq => by rw [List.mem_singleton.1 hq]; simp))⟩)
 clear hn2 hm2 hfr
 rcases Rz.out with hv | ⟨A, hv⟩
 all_goals
  subst hv
  go_simp
  refine kO hK ?_
  clear hK K
  refine aS (by kernel_rfl) ?_ _
  go_wp2
  go_end0
  exact ⟨rfl, HF.out⟩
theorem Yj {W0 : World} {E : Nat → Addr} {H : Nat → Nat} {M I b : Nat} {G0 : List Nat} {w0 : World} {C : fZ} {GC : List Nat} {mb gv : Nat} {a : Pool} {ids : List Nat} {its : List It} (hS : fO W0 E H Kk M I b G0 w0 C GC mb gv V a ids its) (hm : aj V pm 28 #[.pointer (some ⟨b, 0, none⟩)]) (hk : aj V pk 35 #[.int .u64 (e.key : Int)]) (hh : aj V ph 35 #[.int .u64 (e.hash : Int)]) (hr : aj V pr 4 #[.bool false]) (hne : pr ∉ dU b C GC mb its ∧ w0.heap.size ≤ pr) (he : j6 H e) : Calls Tryz.prog 26 #[.pointer (some ⟨pm, 0, none⟩), .pointer (some ⟨pk, 0, none⟩), .pointer (some ⟨ph, 0, none⟩), .pointer (some ⟨pr, 0, none⟩)] V fun y w' => y = .returned undef ∧ GL W0 E H Kk M I b G0 w0 C GC mb gv its (fun a' _ => a'.ents.Perm (rest a.ents e.key)) pr 4 (.bool (look a.ents e.key).isSome) V w' := by
 have hbk := hS.blk.blk
 unfold fZ.cells at hbk
 have c3 := hbk.cell 3
 simp only [gl] at c3
 have xm := hm.cell 0
 have xk := hk.cell 0
 have xh := hh.cell 0
 simp only [List.getElem?_toArray, List.getElem?_cons_zero] at xm xk xh
 have HS := qd hS
 have jA := qd hr
 have gN := qd hne
 have HE := qd he
 have hdr := (Below.refl V.heap.size V).drew
 have h64 := he.h64
 have hcl := aai (hS.core.below hdr) e.key (by rw [← he.hash]; exact h64)
 rw [← he.hash] at hcl
 unfold aZ aah at hcl
 obtain ⟨gv0, aam⟩ : ∃ g : Int, g = (((look a.ents e.key).getD ⟨0, 0, 0⟩).val : Int) := ⟨_, rfl⟩
 obtain ⟨iv, hiv⟩ : ∃ i, i = (look a.ents e.key).isSome := ⟨_, rfl⟩
 rw [← aam, ← hiv] at hcl
 rw [← hiv]
 have Bp := qd hcl
 clear hcl aam hiv h64 hbk hS hr hne he hdr hm hk hh
 go_in
 refine rT (fun (w' : World) => w'.cell? ⟨pm, 0, none⟩ = some (.pointer (some ⟨b, 0, none⟩)) ∧ w'.cell? ⟨pk, 0, none⟩ = some (.int .u64 (e.key : Int)) ∧ w'.cell? ⟨ph, 0, none⟩ = some (.int .u64 (e.hash : Int)) ∧ w'.cell? ⟨b, 3, none⟩ = some (.pointer (some ⟨C.cb, 0, none⟩))) [6, 10] ?_
 have hHeld := (⟨xm, xk, xh, c3⟩ : _ ∧ _ ∧ _ ∧ _)
 refine vT 4 rfl ?_
 refine vT 5 rfl ?_
 refine nT 0 rfl fun K hK => ?_
 go_simp
 refine kO hK ?_
 clear hK K
 refine vW 1 rfl ?_
 refine vW 2 rfl ?_
 refine vT 3 rfl ?_
 refine nT 6 rfl fun K hK => ?_
 go_simp
 refine Bp.out.mono ?_
 rintro y V1 ⟨rfl, a', aI, hto, hpm⟩
 obtain ⟨fI, hS1, hsub, hmod⟩ := (HS.out.below (Below.refl V.heap.size V).drew).aak hto
 have gV := qd hS1
 have jf := qd hpm
 have zY : Mod GC V V1 := (Mod.of_below (Below.refl V.heap.size V).drew GC).then hmod
 have Ck := qd (show ∀ q ∈ fI, q ∈ GC ∨ V.heap.size ≤ q from hsub)
 have hpl := jA.out.lt
 have hr1 := (jA.out.mod zY (fun hg => gN.out.1 (aG.2 (.inr (.inr hg)))))
 have HR1 := qd hr1
 have HMo := qd zY
 have iW := qd hpl
 clear hto hpm hS1 hsub hmod zY hr1 hpl Bp
 go_wp2_with fail
 refine kO hK ?_
 clear hK K
 refine vL 7 rfl ?_
 refine vL 8 rfl ?_
 refine vL 9 rfl ?_
 refine nT 10 rfl fun K hK => ?_
 have r0 := HR1.out.cell 0
 simp only [List.getElem?_toArray, List.getElem?_cons_zero] at r0
 have rf := HR1.out.frozen 0
 have hn2 := HR1.out.ak 0 (.bool iv)
 have hm2 := (Mod.refl [pr] V1).sl 0 (.bool iv)
 simp only [List.setIfInBounds_toArray, List.set_cons_zero] at hn2
 have hfr : ∀ q ∈ [pr], q ∉ dU b C fI mb its ∧ w0.heap.size ≤ q := fun q hq => by
  rw [List.mem_singleton.1 hq]
  refine ⟨fun hg => ?_, gN.out.2⟩
  rcases aG.1 hg with k | k | k
  ·exact gN.out.1 (aG.2 (.inl k))
  ·exact gN.out.1 (aG.2 (.inr (.inl k)))
  ·rcases Ck.out pr k with k | k
   ·exact gN.out.1 (aG.2 (.inr (.inr k)))
   ·have := iW.out; omega
 have HF := qd (show GL W0 E H Kk M I b G0 w0 C GC mb gv its (fun a' _ => a'.ents.Perm (rest a.ents e.key)) pr 4 (.bool iv) V (V1.setCell ⟨pr, 0, none⟩ (.bool iv)) from ⟨fI, a', aI, gV.out.Cj hm2 hfr, jf.out, hn2, Ck.out, (HMo.out.more (fun q hq => List.mem_cons_of_mem _ hq)).then (hm2.more (fun q hq => by rw [List.mem_singleton.1 hq]; simp))⟩)
 clear hn2 hm2 hfr
 go_simp
 refine kO hK ?_
 clear hK K
 refine aS (by kernel_rfl) ?_ _
 go_wp2
 go_end0
 exact ⟨rfl, HF.out⟩
end
section
section
variable {W0 : World} {E : Nat → Addr} {H : Nat → Nat} {Kk M I b : Nat} {G0 : List Nat} {w0 w w' : World} {C : fZ} {GC : List Nat} {mb gv : Nat} {a : Pool} {ids : List Nat} {its : List It}
theorem fO.wrote (h : fO W0 E H Kk M I b G0 w0 C GC mb gv w a ids its) (hw : Wrote w b C w') : ∃ C', fO W0 E H Kk M I b G0 w0 C' GC mb gv w' a ids its ∧ Mod [b] w w' ∧ C'.cb = C.cb ∧ C'.ib = C.ib ∧ C'.lf ≤ C.lf := by
 obtain ⟨lf, gn, ma, ml, last, all, h1, h2, h3⟩ := hw
 exact ⟨_, h.Qh h2 h3 ⟨rfl, rfl, rfl, rfl, rfl⟩, h3, rfl, rfl, h1⟩
end
theorem SI {W0 : World} {E : Nat → Addr} {H : Nat → Nat} {Kk M I b : Nat} {G : List Nat} {w : World} {a : Pool} {ids : List Nat} {its : List It} {gv : Nat} {jw : bF} (h : jI W0 E H Kk M I b G w a ids its gv jw) (e : av) (he : j6 H e) : Calls Tryz.prog 8 #[.pointer (some ⟨b, 0, none⟩), .int .u64 (e.key : Int), .int .u64 (e.val : Int), .int .u64 (e.hash : Int)] w fun y w' => y = .returned (kW E (rM M a.ents e.key)) ∧ ∃ a' aI jO, wR W0 E H Kk M I b G w w' a' aI its gv jO ∧ Ci H Kk M a ids e a' aI := by
 obtain ⟨C, GC, mb, hS, rfl, yw⟩ := h
 obtain ⟨W, hW, hB, hBm, SK, Xo, Dh, Cm⟩ := Yr w 28 #[.pointer (some ⟨b, 0, none⟩)] 35 #[.int .u64 (e.key : Int)] 35 #[.int .u64 (e.val : Int)] 35 #[.int .u64 (e.hash : Int)] 30 #[.nilIface]
 have hlt := fun q hq => (hS.fQ q hq).1
 have gN := qd (show ∀ q, w.heap.size ≤ q → q ∉ dU b C GC mb its from fun q hq hg => by have := hlt q hg; omega)
 have HS := qd (hS.below hB)
 have hsz := hB.size
 have Dz := qd hBm
 have SL := qd SK
 have HBv := qd Xo
 have SN := qd Dh
 have uP := qd Cm
 have WQ := Cm.lt
 have HW := qd hW
 have HE := qd he
 clear hW hB hS hlt hBm SK Xo Dh Cm
 have nX : ∀ (fn : Fn) (first cap : Array Value) (w : World), (Instr.makeFunc fn first cap).run Tryz.prog w = .ok (.func fn first cap) w := fun _ _ _ _ => rfl
 have ow := (Below.refl W.heap.size W).alloc (Nat.le_refl _) (.cells #[.nilIface] 30)
 have sj := qd (zX (S := (w.heap.size + 1 + 1 + 1 + 1) :: GC) (K := fun w1 => GL W0 E H Kk M I b (dU b C GC mb its) w C GC mb gv its (Ci H Kk M a ids e) (w.heap.size + 1 + 1 + 1 + 1) 30 (kW E (rM M a.ents e.key)) (W.alloc (.cells #[.nilIface] 30)) w1) 20 #[.pointer (some ⟨w.heap.size, 0, none⟩), .pointer (some ⟨(w.heap.size + 1), 0, none⟩), .pointer (some ⟨(w.heap.size + 1 + 1), 0, none⟩), .pointer (some ⟨(w.heap.size + 1 + 1 + 1), 0, none⟩), .pointer (some ⟨(w.heap.size + 1 + 1 + 1 + 1), 0, none⟩)] W (fun V => enters_of Tryz.func20 (by kernel_rfl) rfl _ V)
  (fun hg => by
   rcases List.mem_cons.1 hg with k | k
   ·omega
   ·exact gN.out _ (by omega) (aG.2 (.inr (.inr k))))
  ((Yi (HS.out.below ow) (Dz.out.mod (Mod.of_below ow []) (by simp)) (SL.out.mod (Mod.of_below ow []) (by simp)) (HBv.out.mod (Mod.of_below ow []) (by simp)) (SN.out.mod (Mod.of_below ow []) (by simp)) (uP.out.mod (Mod.of_below ow []) (by simp)) ⟨gN.out _ (by omega), by omega⟩ HE.out).mono (fun y w1 hh => ⟨hh.1, (by obtain ⟨_, _, _, _, _, _, _, q⟩ := hh.2; exact q), hh.2⟩)))
 have Mk := qd ow
 clear ow
 go_in
 go_upto_region 2 with fail
 rw [← HW.out]
 go_wp2_with fail
 refine sj.out.mono ?_
 rintro y w1 ⟨rfl, hm1, fI, a', aI, hS1, hpm, hr1, hsu, hm2⟩
 have HS := qd hS1
 have jf := qd hpm
 have HR := qd hr1
 have hx1 := (Dz.out.mod (Mod.of_below Mk.out []) (by simp)).mod hm1 (fun hg => by
  rcases List.mem_cons.1 hg with k | k
  ·omega
  ·exact gN.out _ (Nat.le_refl _) (aG.2 (.inr (.inr k))))
 have HX := qd hx1
 have FV := qd (show (w.heap.size + 1 + 1 + 1 + 1) ∉ [b] from fun hg => gN.out _ (by omega) (aG.2 (.inl (List.mem_singleton.1 hg))))
 clear hm1 hS1 hpm hr1 hsu hm2 hx1 sj Dz SL HBv SN uP Mk
 cases hfu : vg M a.ents e.key with
 | false =>
  have hpc : rM M a.ents e.key = 0 := by unfold rM; rw [hfu]; rfl
  rw [hpc] at HR
  have SA := qd hpc
  clear hpc
  rw [G9] at HR
  have r0 := HR.out.cell 0
  simp only [List.getElem?_toArray, List.getElem?_cons_zero] at r0
  go_upto_region 8 with fail
  clear r0
  obtain ⟨cc, hcc⟩ := HS.out.core.c_
  have hbk := HS.out.blk.blk
  unfold fZ.cells at hbk
  have c3 := hbk.cell 3
  simp only [gl] at c3
  have x0 := HX.out.cell 0
  simp only [List.getElem?_toArray, List.getElem?_cons_zero] at x0
  have fM := qd (CK (hcc.below (Below.refl w1.heap.size w1).drew))
  unfold nu at fM
  clear hbk hcc
  refine rT (fun (w' : World) => w'.cell? ⟨w.heap.size, 0, none⟩ = some (.pointer (some ⟨b, 0, none⟩)) ∧ w'.cell? ⟨b, 3, none⟩ = some (.pointer (some ⟨C.cb, 0, none⟩))) [7] ?_
  have hHeld := (⟨x0, c3⟩ : _ ∧ _)
  refine vT 0 rfl ?_
  refine nT 1 rfl fun K hK => ?_
  go_simp
  refine kO hK ?_
  clear hK K
  refine vW 2 rfl ?_
  refine vW 3 rfl ?_
  refine nT 4 rfl fun K hK => ?_
  go_simp
  refine kO hK ?_
  clear hK K
  refine nT 5 rfl fun K hK => ?_
  go_simp
  refine (vk _ _).mono ?_
  rintro y V1 ⟨rfl, rfl⟩
  go_wp2_with fail
  have hHeld := (⟨x0, c3⟩ : _ ∧ _)
  refine kO hK ?_
  clear hK K
  refine nT 6 rfl fun K hK => ?_
  go_simp
  refine (fM.out).mono ?_
  rintro y V2 ⟨rfl, hb⟩
  replace hb : Below w1.heap.size w1 V2 := bE hb (Below.refl _ _).drew
  replace HS := qd (HS.out.below hb)
  replace x0 := aF hb x0
  replace c3 := aF hb c3
  clear hb fM
  go_wp2_with fail
  have hHeld := (⟨x0, c3⟩ : _ ∧ _)
  refine kO hK ?_
  clear hK K
  refine nT 7 rfl fun K hK => ?_
  go_simp
  have kT := qd (show Calls Tryz.prog 25 #[.pointer (some ⟨b, 0, none⟩), .agg #[.int .i64 cc.p, .int .i64 cc.v, .int .i64 cc.u]] V2 _ from Mi HS.out.blk HS.out.kk cc)
  refine (kT.out).mono ?_
  rintro y V3 ⟨rfl, hwr⟩
  obtain ⟨C3, SQ, q3, VJ, VK, VL⟩ := HS.out.wrote hwr
  have ku := qd SQ
  clear SQ hwr q3 VJ VK VL kT HS x0 c3
  go_wp2_with fail
  refine kO hK ?_
  clear hK K
  refine aS (by kernel_rfl) ?_ _
  go_wp2
  go_ret
  exact ⟨by rw [SA.out]; rfl, a', aI, _, ku.out.to, jf.out⟩
 | true =>
  have hpc : rM M a.ents e.key = 2 := by unfold rM; rw [hfu]; rfl
  rw [hpc] at HR
  have SA := qd hpc
  clear hpc
  rw [jc E (by omega : 1 ≤ 2)] at HR
  have r0 := HR.out.cell 0
  simp only [List.getElem?_toArray, List.getElem?_cons_zero] at r0
  go_upto_region 6 with fail
  clear r0
  obtain ⟨cc, hcc⟩ := HS.out.core.c_
  have hbk := HS.out.blk.blk
  unfold fZ.cells at hbk
  have c3 := hbk.cell 3
  simp only [gl] at c3
  have x0 := HX.out.cell 0
  simp only [List.getElem?_toArray, List.getElem?_cons_zero] at x0
  have fM := qd (CK (hcc.below (Below.refl w1.heap.size w1).drew))
  unfold nu at fM
  clear hbk hcc
  refine rT (fun (w' : World) => w'.cell? ⟨w.heap.size, 0, none⟩ = some (.pointer (some ⟨b, 0, none⟩)) ∧ w'.cell? ⟨b, 3, none⟩ = some (.pointer (some ⟨C.cb, 0, none⟩))) [7] ?_
  have hHeld := (⟨x0, c3⟩ : _ ∧ _)
  refine vT 0 rfl ?_
  refine nT 1 rfl fun K hK => ?_
  go_simp
  refine kO hK ?_
  clear hK K
  refine vW 2 rfl ?_
  refine vW 3 rfl ?_
  refine nT 4 rfl fun K hK => ?_
  go_simp
  refine kO hK ?_
  clear hK K
  refine nT 5 rfl fun K hK => ?_
  go_simp
  refine (vk _ _).mono ?_
  rintro y V1 ⟨rfl, rfl⟩
  go_wp2_with fail
  have hHeld := (⟨x0, c3⟩ : _ ∧ _)
  refine kO hK ?_
  clear hK K
  refine nT 6 rfl fun K hK => ?_
  go_simp
  refine (fM.out).mono ?_
  rintro y V2 ⟨rfl, hb⟩
  replace hb : Below w1.heap.size w1 V2 := bE hb (Below.refl _ _).drew
  replace HS := qd (HS.out.below hb)
  replace HR := qB hb HR
  replace x0 := aF hb x0
  replace c3 := aF hb c3
  clear hb fM
  go_wp2_with fail
  have hHeld := (⟨x0, c3⟩ : _ ∧ _)
  refine kO hK ?_
  clear hK K
  refine nT 7 rfl fun K hK => ?_
  go_simp
  have kT := qd (show Calls Tryz.prog 22 #[.pointer (some ⟨b, 0, none⟩), .agg #[.int .i64 cc.p, .int .i64 cc.v, .int .i64 cc.u]] V2 _ from zW HS.out.blk cc)
  refine (kT.out).mono ?_
  rintro y V3 ⟨rfl, hwr, q3⟩
  have ku := qd (HS.out.Qh hwr q3 ⟨rfl, rfl, rfl, rfl, rfl⟩)
  replace HR := qd (HR.out.mod q3 FV.out)
  clear hwr q3 kT HS x0 c3
  go_wp2_with fail
  refine kO hK ?_
  clear hK K
  refine aS (by kernel_rfl) ?_ _
  have r0 := HR.out.cell 0
  simp only [List.getElem?_toArray, List.getElem?_cons_zero] at r0
  go_wp2
  go_ret
  exact ⟨by rw [SA.out, jc E (by omega : 1 ≤ 2)]; rfl, a', aI, _, ku.out.to, jf.out⟩
theorem SS {W0 : World} {E : Nat → Addr} {H : Nat → Nat} {Kk M I b : Nat} {G : List Nat} {w : World} {a : Pool} {ids : List Nat} {its : List It} {gv : Nat} {jw : bF} (h : jI W0 E H Kk M I b G w a ids its gv jw) (e : av) (he : j6 H e) : Calls Tryz.prog 9 #[.pointer (some ⟨b, 0, none⟩), .int .u64 (e.key : Int), .int .u64 (e.hash : Int)] w fun y w' => y = .returned (.bool (look a.ents e.key).isSome) ∧ ∃ a' aI jO, wR W0 E H Kk M I b G w w' a' aI its gv jO ∧ a'.ents.Perm (rest a.ents e.key) := by
 obtain ⟨iv, hiv⟩ : ∃ i, i = (look a.ents e.key).isSome := ⟨_, rfl⟩
 rw [← hiv]
 have HIv := qd hiv
 clear hiv
 obtain ⟨C, GC, mb, hS, rfl, yw⟩ := h
 obtain ⟨W, hW, hB, hBm, SK, Dh, Cm⟩ := qX4 w 28 #[.pointer (some ⟨b, 0, none⟩)] 35 #[.int .u64 (e.key : Int)] 35 #[.int .u64 (e.hash : Int)] 4 #[.bool false]
 have hlt := fun q hq => (hS.fQ q hq).1
 have gN := qd (show ∀ q, w.heap.size ≤ q → q ∉ dU b C GC mb its from fun q hq hg => by have := hlt q hg; omega)
 have HS := qd (hS.below hB)
 have hsz := hB.size
 have Dz := qd hBm
 have SL := qd SK
 have SN := qd Dh
 have uP := qd Cm
 have WQ := Cm.lt
 have HW := qd hW
 have HE := qd he
 clear hW hB hS hlt hBm SK Dh Cm
 have nX : ∀ (fn : Fn) (first cap : Array Value) (w : World), (Instr.makeFunc fn first cap).run Tryz.prog w = .ok (.func fn first cap) w := fun _ _ _ _ => rfl
 have ow := (Below.refl W.heap.size W).alloc (Nat.le_refl _) (.cells #[.nilIface] 30)
 have sj := qd (zX (S := (w.heap.size + 1 + 1 + 1) :: GC) (K := fun w1 => GL W0 E H Kk M I b (dU b C GC mb its) w C GC mb gv its (fun a' _ => a'.ents.Perm (rest a.ents e.key)) (w.heap.size + 1 + 1 + 1) 4 (.bool (look a.ents e.key).isSome) (W.alloc (.cells #[.nilIface] 30)) w1) 26 #[.pointer (some ⟨w.heap.size, 0, none⟩), .pointer (some ⟨(w.heap.size + 1), 0, none⟩), .pointer (some ⟨(w.heap.size + 1 + 1), 0, none⟩), .pointer (some ⟨(w.heap.size + 1 + 1 + 1), 0, none⟩)] W (fun V => enters_of Tryz.func26 (by kernel_rfl) rfl _ V)
  (fun hg => by
   rcases List.mem_cons.1 hg with k | k
   ·omega
   ·exact gN.out _ (by omega) (aG.2 (.inr (.inr k))))
  ((Yj (HS.out.below ow) (Dz.out.mod (Mod.of_below ow []) (by simp)) (SL.out.mod (Mod.of_below ow []) (by simp)) (SN.out.mod (Mod.of_below ow []) (by simp)) (uP.out.mod (Mod.of_below ow []) (by simp)) ⟨gN.out _ (by omega), by omega⟩ HE.out).mono (fun y w1 hh => ⟨hh.1, (by obtain ⟨_, _, _, _, _, _, _, q⟩ := hh.2; exact q), hh.2⟩)))
 have Mk := qd ow
 clear ow
 go_in
 go_upto_region 2 with fail
 rw [← HW.out]
 go_wp2_with fail
 refine sj.out.mono ?_
 rintro y w1 ⟨rfl, hm1, fI, a', aI, hS1, hpm, hr1, hsu, hm2⟩
 have HS := qd hS1
 have jf := qd hpm
 have HR := qd hr1
 have hx1 := (Dz.out.mod (Mod.of_below Mk.out []) (by simp)).mod hm1 (fun hg => by
  rcases List.mem_cons.1 hg with k | k
  ·omega
  ·exact gN.out _ (Nat.le_refl _) (aG.2 (.inr (.inr k))))
 have HX := qd hx1
 have FV := qd (show (w.heap.size + 1 + 1 + 1) ∉ [b] from fun hg => gN.out _ (by omega) (aG.2 (.inl (List.mem_singleton.1 hg))))
 clear hm1 hS1 hpm hr1 hsu hm2 hx1 sj Dz SL SN uP Mk
 rw [← HIv.out] at HR
 go_upto_region 3 with fail
 obtain ⟨cc, hcc⟩ := HS.out.core.c_
 have hbk := HS.out.blk.blk
 unfold fZ.cells at hbk
 have c3 := hbk.cell 3
 simp only [gl] at c3
 have x0 := HX.out.cell 0
 simp only [List.getElem?_toArray, List.getElem?_cons_zero] at x0
 have fM := qd (CK (hcc.below (Below.refl w1.heap.size w1).drew))
 unfold nu at fM
 clear hbk hcc
 refine rT (fun (w' : World) => w'.cell? ⟨w.heap.size, 0, none⟩ = some (.pointer (some ⟨b, 0, none⟩)) ∧ w'.cell? ⟨b, 3, none⟩ = some (.pointer (some ⟨C.cb, 0, none⟩))) [7] ?_
 have hHeld := (⟨x0, c3⟩ : _ ∧ _)
 refine vT 0 rfl ?_
 refine nT 1 rfl fun K hK => ?_
 go_simp
 refine kO hK ?_
 clear hK K
 refine vW 2 rfl ?_
 refine vW 3 rfl ?_
 refine nT 4 rfl fun K hK => ?_
 go_simp
 refine kO hK ?_
 clear hK K
 refine nT 5 rfl fun K hK => ?_
 go_simp
 refine (vk _ _).mono ?_
 rintro y V1 ⟨rfl, rfl⟩
 go_wp2_with fail
 have hHeld := (⟨x0, c3⟩ : _ ∧ _)
 refine kO hK ?_
 clear hK K
 refine nT 6 rfl fun K hK => ?_
 go_simp
 refine (fM.out).mono ?_
 rintro y V2 ⟨rfl, hb⟩
 replace hb : Below w1.heap.size w1 V2 := bE hb (Below.refl _ _).drew
 replace HS := qd (HS.out.below hb)
 replace HR := qB hb HR
 replace x0 := aF hb x0
 replace c3 := aF hb c3
 clear hb fM
 go_wp2_with fail
 have hHeld := (⟨x0, c3⟩ : _ ∧ _)
 refine kO hK ?_
 clear hK K
 refine nT 7 rfl fun K hK => ?_
 go_simp
 have kT := qd (show Calls Tryz.prog 25 #[.pointer (some ⟨b, 0, none⟩), .agg #[.int .i64 cc.p, .int .i64 cc.v, .int .i64 cc.u]] V2 _ from Mi HS.out.blk HS.out.kk cc)
 refine (kT.out).mono ?_
 rintro y V3 ⟨rfl, hwr⟩
 obtain ⟨C3, SQ, q3, VJ, VK, VL⟩ := HS.out.wrote hwr
 have ku := qd SQ
 replace HR := qd (HR.out.mod q3 FV.out)
 clear SQ hwr q3 VJ VK VL kT HS x0 c3
 go_wp2_with fail
 refine kO hK ?_
 clear hK K
 refine aS (by kernel_rfl) ?_ _
 have r0 := HR.out.cell 0
 simp only [List.getElem?_toArray, List.getElem?_cons_zero] at r0
 go_wp2
 go_ret
 exact ⟨rfl, a', aI, _, ku.out.to, jf.out⟩
end
section
variable {j key m : Nat} {es : List av} {e : av}
def abB (es : List av) (key : Nat) (y : Int) : Prop := (∃ (i : Nat) (e : av), es[i]? = some e ∧ e.key = key ∧ y = (i : Int) ∧ ∀ k, k < i → ∀ e', es[k]? = some e' → e'.key ≠ key) ∨ ((∀ e ∈ es, e.key ≠ key) ∧ y = -1)
end
section
variable {es : List av} {j key : Nat} {e : av}
def without (es : List av) (key j : Nat) : List av := (es.take j).filter fun x => x.key != key
end
end Go.Proofs.YtfojgfddgplinabGreatDoor
