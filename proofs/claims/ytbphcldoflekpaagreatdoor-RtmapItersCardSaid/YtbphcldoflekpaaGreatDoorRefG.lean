/- A map as one thing: its block, its core, its iterators. No statement of the claim. -/
import Derived.Test.YtbphcldoflekpaaGreatDoorRmC
import Derived.Test.YtbphcldoflekpaaGreatDoorSqT
import Derived.Test.YtbphcldoflekpaaGreatDoorLaneP
import Derived.Test.YtbphcldoflekpaaGreatDoorRmI
import Derived.Test.YtbphcldoflekpaaGreatDoorCoCP
import Derived.Test.YtbphcldoflekpaaGreatDoorCoT
import Derived.Test.YtbphcldoflekpaaGreatDoorCoBV
import Derived.Test.YtbphcldoflekpaaGreatDoorCoDA
namespace Go.Proofs.YtbphcldoflekpaaGreatDoor
set_option maxRecDepth 100000
set_option maxHeartbeats 4000000
open Go.RowKit dA
section
variable {eU S : List Nat} {Kk ph pk pm pr : Nat} {V : World} {e : av}
def dR (b : Nat) (C : eP) (GC : List Nat) (mb : Nat) (its : List It) : List Nat := b :: (bB C.ib mb its ++ GC)
structure fG (W0 : World) (E : Nat → Addr) (H : Nat → Nat) (K M I b : Nat) (G0 : List Nat) (w0 : World) (C : eP) (GC : List Nat) (mb gv : Nat) (w : World) (a : Pool) (ids : List Nat) (its : List It) : Prop where
 blk : mE w b C
 cfg : C.k = (K : Int) ∧ C.m = (M : Int) ∧ C.i = (I : Int)
 core : fB W0 E H K M C.cb GC w a ids
 kR : eY w C.ib mb I gv its
 b0 : W0.heap.size ≤ b ∧ ∀ q ∈ bB C.ib mb its, W0.heap.size ≤ q
 apart : b ∉ GC ∧ b ∉ bB C.ib mb its ∧ ∀ q ∈ bB C.ib mb its, q ∉ GC
 sub : ∀ q ∈ dR b C GC mb its, q ∈ G0 ∨ w0.heap.size ≤ q
 mod : Mod G0 w0 w
 oq : W0.heap.size ≤ w0.heap.size
theorem aD {b : Nat} {C : eP} {GC : List Nat} {mb : Nat} {its : List It} {q : Nat} : q ∈ dR b C GC mb its ↔ q = b ∨ q ∈ bB C.ib mb its ∨ q ∈ GC := by unfold dR; simp
section
variable {W0 : World} {E : Nat → Addr} {H : Nat → Nat} {K M I b : Nat} {G0 : List Nat} {w0 : World} {C C' : eP} {GC : List Nat} {mb gv Ak : Nat} {w w' : World} {a a' : Pool} {ids aI : List Nat} {its mP : List It}
theorem fG.iF (h : fG W0 E H K M I b G0 w0 C GC mb gv w a ids its) : ∀ q ∈ dR b C GC mb its, q < w.heap.size ∧ W0.heap.size ≤ q := fun q hq => by
 rcases aD.1 hq with rfl | hq | hq
 ·exact ⟨h.blk.lt, h.b0.1⟩
 ·exact ⟨h.kR.iF q hq, h.b0.2 q hq⟩
 ·exact h.core.facts.2.2.2.2.2.2.2.2.2.2.1 q hq
theorem fG.kk (h : fG W0 E H K M I b G0 w0 C GC mb gv w a ids its) : 1 ≤ C.k ∧ C.k ≤ 64 := by
 have := h.core.facts.2.2.2.2.2.2.2.2.1
 rw [h.cfg.1]; omega
theorem fG.zQ (h : fG W0 E H K M I b G0 w0 C GC mb gv w a ids its) (hm : Mod S w w') (hS : ∀ q ∈ S, q ∉ dR b C GC mb its ∧ w0.heap.size ≤ q) : fG W0 E H K M I b G0 w0 C GC mb gv w' a ids its := by
 have h1 : ∀ q ∈ dR b C GC mb its, q ∉ S := fun q hq hs => (hS q hs).1 hq
 exact ⟨h.blk.mod hm (h1 b (aD.2 (.inl rfl))), h.cfg, h.core.mod hm (fun q hq => ⟨fun hg => (hS q hq).1 (aD.2 (.inr (.inr hg))), Nat.le_trans h.oq (hS q hq).2⟩), h.kR.mod hm (fun q hq => h1 q (aD.2 (.inr (.inl hq)))), h.b0, h.apart, h.sub, h.mod.trans hm (fun _ hk _ => hk) (fun k hk hl => absurd (hS k hk).2 (by omega)), h.oq⟩
theorem fG.below (h : fG W0 E H K M I b G0 w0 C GC mb gv w a ids its) (hb : Below w.heap.size w w') : fG W0 E H K M I b G0 w0 C GC mb gv w' a ids its := h.zQ (Mod.of_below hb []) (by simp)
theorem fG.Ep (h : fG W0 E H K M I b G0 w0 C GC mb gv w a ids its) (hB : mE w' b C') (hm : Mod [b] w w') (hk : C'.k = C.k ∧ C'.m = C.m ∧ C'.i = C.i ∧ C'.cb = C.cb ∧ C'.ib = C.ib) : fG W0 E H K M I b G0 w0 C' GC mb gv w' a ids its := by
 obtain ⟨k1, k2, k3, k4, k5⟩ := hk
 refine ⟨hB, by rw [k1, k2, k3]; exact h.cfg, by rw [k4]; exact h.core.mod hm (fun q hq => by rw [List.mem_singleton.1 hq]; exact ⟨h.apart.1, h.b0.1⟩), by rw [k5]; exact h.kR.mod hm (fun q hq hs => h.apart.2.1 (List.mem_singleton.1 hs ▸ hq)), by rw [k5]; exact h.b0, by rw [k5]; exact h.apart, fun q hq => h.sub q (by rw [aD] at hq ⊢; rw [k5] at hq; exact hq), h.mod.trans hm (fun _ hk _ => hk) (fun k hk hl => ?_), h.oq⟩
 rcases h.sub b (aD.2 (.inl rfl)) with h1 | h1
 ·rw [List.mem_singleton.1 hk]; exact h1
 ·rw [List.mem_singleton.1 hk] at hl; omega
theorem Mod.within (h : Mod G0 w0 w) (hm : Mod S w w') (hs : ∀ q ∈ S, q ∈ G0 ∨ w0.heap.size ≤ q) : Mod G0 w0 w' := h.trans hm (fun _ hk _ => hk) fun k hk hl => (hs k hk).elim id fun h1 => absurd h1 (by omega)
theorem fG.XW (h : fG W0 E H K M I b G0 w0 C GC mb gv w a ids its) (h1 : fB W0 E H K M C.cb eU w' a' aI) (h2 : ∀ q ∈ eU, q ∈ GC ∨ w.heap.size ≤ q) (h3 : Mod GC w w') : fG W0 E H K M I b G0 w0 C eU mb gv w' a' aI its := by
 have hbl := h.blk.lt
 have hil := h.kR.iF
 refine ⟨h.blk.mod h3 h.apart.1, h.cfg, h1, h.kR.mod h3 h.apart.2.2, h.b0, ⟨fun hg => ?_, h.apart.2.1, fun q hq hg => ?_⟩, fun q hq => ?_, h.mod.within h3 (fun q hq => h.sub q (aD.2 (.inr (.inr hq)))), h.oq⟩
 ·rcases h2 b hg with k | k
  ·exact h.apart.1 k
  ·omega
 ·rcases h2 q hg with k | k
  ·exact h.apart.2.2 q hq k
  ·have := hil q hq; omega
 ·rcases aD.1 hq with k | k | k
  ·exact h.sub q (aD.2 (.inl k))
  ·exact h.sub q (aD.2 (.inr (.inl k)))
  ·rcases h2 q k with k | k
   ·exact h.sub q (aD.2 (.inr (.inr k)))
   ·have := h.mod.size; exact .inr (by omega)
theorem fG.Wo (h : fG W0 E H K M I b G0 w0 C GC mb gv w a ids its) (hc : jH W0 E H K M C.cb GC w w' a' aI) : ∃ eU, fG W0 E H K M I b G0 w0 C eU mb gv w' a' aI its ∧ (∀ q ∈ eU, q ∈ GC ∨ w.heap.size ≤ q) ∧ Mod GC w w' := by
 obtain ⟨eU, h1, h2, h3⟩ := hc
 exact ⟨eU, h.XW h1 h2 h3, h2, h3⟩
theorem fG.QI (h : fG W0 E H K M I b G0 w0 C GC mb gv w a ids its) (hi : eY w' C.ib mb I Ak mP) (hm : Mod S w w') (hS : ∀ q ∈ S, q ∈ bB C.ib mb its ∨ (q ∉ dR b C GC mb its ∧ w0.heap.size ≤ q)) (hn : ∀ q ∈ bB C.ib mb mP, q ∈ bB C.ib mb its ∨ w.heap.size ≤ q) : fG W0 E H K M I b G0 w0 C GC mb Ak w' a ids mP := by
 have hbl := h.blk.lt
 have hcl := h.core.facts.2.2.2.2.2.2.2.2.2.2.1
 have hen := h.core.facts.2.2.2.2.2.2.2.2.2.2.2.size
 refine ⟨h.blk.mod hm (fun hs => ?_), h.cfg, h.core.mod hm (fun q hq => ?_), hi, ⟨h.b0.1, fun q hq => ?_⟩, ⟨h.apart.1, fun hq => ?_, fun q hq hg => ?_⟩, fun q hq => ?_, h.mod.within hm (fun q hq => ?_), h.oq⟩
 ·rcases hS b hs with k | k
  ·exact h.apart.2.1 k
  ·exact k.1 (aD.2 (.inl rfl))
 ·rcases hS q hq with k | k
  ·exact ⟨h.apart.2.2 q k, h.b0.2 q k⟩
  ·exact ⟨fun hg => k.1 (aD.2 (.inr (.inr hg))), Nat.le_trans h.oq k.2⟩
 ·rcases hn q hq with k | k
  ·exact h.b0.2 q k
  ·omega
 ·rcases hn b hq with k | k
  ·exact h.apart.2.1 k
  ·omega
 ·rcases hn q hq with k | k
  ·exact h.apart.2.2 q k hg
  ·have := (hcl q hg).1; omega
 ·rcases aD.1 hq with k | k | k
  ·exact h.sub q (aD.2 (.inl k))
  ·rcases hn q k with k | k
   ·exact h.sub q (aD.2 (.inr (.inl k)))
   ·have := h.mod.size; exact .inr (by omega)
  ·exact h.sub q (aD.2 (.inr (.inr k)))
 ·rcases hS q hq with k | k
  ·exact h.sub q (aD.2 (.inr (.inl k)))
  ·exact .inr k.2
theorem fG.again (h : fG W0 E H K M I b G0 w0 C GC mb gv w a ids its) : fG W0 E H K M I b (dR b C GC mb its) w C GC mb gv w a ids its := ⟨h.blk, h.cfg, h.core, h.kR, h.b0, h.apart, fun q hq => .inl hq, Mod.refl _ _, by have := h.core.facts.2.2.2.2.2.2.2.2.2.2.2.size; exact this⟩
theorem fG.chain {mb' : Nat} (h : fG W0 E H K M I b G0 w0 C GC mb gv w a ids its) (k : fG W0 E H K M I b (dR b C GC mb its) w C' eU mb' Ak w' a' aI mP) : fG W0 E H K M I b G0 w0 C' eU mb' Ak w' a' aI mP :=
 ⟨k.blk, k.cfg, k.core, k.kR, k.b0, k.apart, fun q hq => (k.sub q hq).elim (fun g => h.sub q g) (fun g => .inr (by have := h.mod.size; omega)), h.mod.within k.mod h.sub, h.oq⟩
end
def je (W0 : World) (E : Nat → Addr) (H : Nat → Nat) (K M I b : Nat) (G : List Nat) (w : World) (a : Pool) (ids : List Nat) (its : List It) (gv : Nat) (eH : bC) : Prop :=
 ∃ (C : eP) (GC : List Nat) (mb : Nat), fG W0 E H K M I b (dR b C GC mb its) w C GC mb gv w a ids its ∧ G = dR b C GC mb its ∧ C.last = eH
def oF (W0 : World) (E : Nat → Addr) (H : Nat → Nat) (K M I b : Nat) (G : List Nat) (w w' : World) (a' : Pool) (aI : List Nat) (mP : List It) (Ak : Nat) (fC : bC) : Prop :=
 ∃ G', je W0 E H K M I b G' w' a' aI mP Ak fC ∧ (∀ q ∈ G', q ∈ G ∨ w.heap.size ≤ q) ∧ Mod G w w'
section
variable {W0 : World} {E : Nat → Addr} {H : Nat → Nat} {K M I b : Nat} {G G0 : List Nat} {w0 w w' : World} {C : eP} {GC : List Nat} {mb gv Ak : Nat} {a a' : Pool} {ids aI : List Nat} {its mP : List It} {eH fC : bC}
theorem fG.to (h : fG W0 E H K M I b G w C GC mb gv w' a' aI mP) : oF W0 E H K M I b G w w' a' aI mP gv C.last := ⟨_, ⟨C, GC, mb, h.again, rfl, rfl⟩, h.sub, h.mod⟩
theorem je.mod (h : je W0 E H K M I b G w a ids its gv eH) (hm : Mod S w w') (hS : ∀ q ∈ S, q ∉ G ∧ W0.heap.size ≤ q) : je W0 E H K M I b G w' a ids its gv eH := by
 obtain ⟨C, GC, mb, h1, rfl, h2⟩ := h
 have k1 : ∀ q ∈ dR b C GC mb its, q ∉ S := fun q hq hs => (hS q hs).1 hq
 have h3 : fG W0 E H K M I b (dR b C GC mb its) w' C GC mb gv w' a ids its := ⟨h1.blk.mod hm (k1 b (aD.2 (.inl rfl))), h1.cfg, h1.core.mod hm (fun q hq => ⟨fun hg => (hS q hq).1 (aD.2 (.inr (.inr hg))), (hS q hq).2⟩), h1.kR.mod hm (fun q hq => k1 q (aD.2 (.inr (.inl hq)))), h1.b0, h1.apart, fun q hq => .inl hq, Mod.refl _ _, by have := h1.oq; have := hm.size; omega⟩
 exact ⟨C, GC, mb, h3, rfl, h2⟩
theorem je.below (h : je W0 E H K M I b G w a ids its gv eH) (hb : Below w.heap.size w w') : je W0 E H K M I b G w' a ids its gv eH := h.mod (Mod.of_below hb []) (by simp)
theorem je.facts (h : je W0 E H K M I b G w a ids its gv eH) : (∀ q ∈ G, q < w.heap.size ∧ W0.heap.size ≤ q) ∧ (a.ents.map av.key).Nodup ∧ a.ents.length ≤ M ∧ M ≤ 192 ∧ a.Ns.length ≤ 32 ∧ 1 ≤ a.Ns.length ∧ (its.map It.id).Nodup ∧ its.length ≤ I ∧ I ≤ 8 ∧ Env W0 E w := by
 obtain ⟨C, GC, mb, h1, rfl, h2⟩ := h
 obtain ⟨_, _, f3, f4, _, _, f7, f8, _, f10, _, f12⟩ := h1.core.facts
 exact ⟨h1.iF, f10, f7, f8, f3, f4, h1.kR.nd, h1.kR.few.2, h1.kR.few.1, f12⟩
theorem oF.next (h : oF W0 E H K M I b G w w' a' aI mP Ak fC) {w2 : World} (hb : Below w'.heap.size w' w2) : oF W0 E H K M I b G w w2 a' aI mP Ak fC := by
 obtain ⟨G', h1, h2, h3⟩ := h
 exact ⟨G', h1.below hb, h2, h3.then (Mod.of_below hb _)⟩
theorem aay (h : je W0 E H K M I b G w a ids its gv eH) : Calls Tryz.prog 15 #[pQ b] w fun y w' => y = .returned (nI a.ents.length) ∧ w = w' := by
 obtain ⟨C, GC, mb, hS, rfl, ng⟩ := h
 have hbk := hS.blk.blk
 unfold eP.cells at hbk
 have c3 := hbk.cell 3
 simp only [gl] at c3
 have HL := qd (aau hS.core)
 unfold aU at HL
 clear hbk hS ng
 go_in
 go_wp2_with fail
 refine HL.out.mono ?_
 rintro y w1 ⟨rfl, rfl⟩
 go_wp2
 go_ret
 exact ⟨rfl, rfl⟩
theorem Wp (h : je W0 E H K M I b G w a ids its gv eH) : Calls Tryz.prog 16 #[pQ b] w fun y w' => y = .returned (nI a.Ns.length) ∧ w = w' := by
 obtain ⟨C, GC, mb, hS, rfl, ng⟩ := h
 have hbk := hS.blk.blk
 unfold eP.cells at hbk
 have c3 := hbk.cell 3
 simp only [gl] at c3
 have HL := qd (Wl hS.core)
 unfold aU at HL
 clear hbk hS ng
 go_in
 go_wp2_with fail
 refine HL.out.mono ?_
 rintro y w1 ⟨rfl, rfl⟩
 go_wp2
 go_ret
 exact ⟨rfl, rfl⟩
theorem OV (h : je W0 E H K M I b G w a ids its gv eH) (hlt : its.length < I) (hg : gv ≤ 100000) : Calls Tryz.prog 10 #[pQ b] w fun y w' => ∃ cb, y = .returned (.tuple #[.int .i64 ((gv + 1 : Nat) : Int), .nilIface]) ∧ oF W0 E H K M I b G w w' a ids (its ++ [⟨gv + 1, cb, ⟨0, 0, false⟩⟩]) (gv + 1) eH := by
 obtain ⟨C, GC, mb, hS, rfl, ng⟩ := h
 have hbk := hS.blk.blk
 unfold eP.cells at hbk
 have c16 := hbk.cell 16
 simp only [gl] at c16
 have hop := QH hS.kR hlt hg
 have HO := qd hop
 have HS := qd hS
 have HQ := qd ng
 clear hbk hS hop ng
 go_in
 go_wp2_with fail
 refine HO.out.mono ?_
 rintro y w1 ⟨cb, hcb, rfl, hi, hm⟩
 have hs := HS.out.QI hi hm (fun q hq => .inl (by unfold bB; simp at hq ⊢; rcases hq with k | k; exact .inl k; exact .inr (.inl k))) (fun q hq => by
  unfold bB at hq ⊢
  simp only [List.map_append, List.mem_cons, List.mem_append, List.map_cons, List.map_nil, List.mem_singleton, List.not_mem_nil, or_false] at hq ⊢
  rcases hq with k | k | k | k
  ·exact .inl (.inl k)
  ·exact .inl (.inr (.inl k))
  ·exact .inl (.inr (.inr k))
  ·exact .inr (k ▸ hcb))
 have HE := qd (show oF W0 E H K M I b (dR b C GC mb its) w w1 a ids (its ++ [⟨gv + 1, cb, ⟨0, 0, false⟩⟩]) (gv + 1) eH from HQ.out ▸ hs.to)
 clear hs hi hm hcb HO
 go_wp2
 refine bodyPost_ret (v := .tuple #[.int .i64 ((gv : Int) + 1), .nilIface]) (by simp [results, Tryz.results10, go_sem]) rfl ⟨cb, rfl, HE.out⟩
end
def GA (W0 : World) (E : Nat → Addr) (H : Nat → Nat) (K M I b : Nat) (G0 : List Nat) (w0 : World) (C : eP) (GC : List Nat) (mb gv : Nat) (its : List It) (R : Pool → List Nat → Prop) (pr : Nat) (t : TypeId) (v : Value) (V w' : World) : Prop :=
 ∃ eU a' aI, fG W0 E H K M I b G0 w0 C eU mb gv w' a' aI its ∧ R a' aI ∧ aj w' pr t #[v] ∧ (∀ q ∈ eU, q ∈ GC ∨ V.heap.size ≤ q) ∧ Mod (pr :: GC) V w'
theorem BR (E : Nat → Addr) (k : Nat) : kT E k = .nilIface ∨ ∃ A, kT E k = .iface 286 (.pointer (some A)) := by
 unfold kT
 split
 ·exact .inl rfl
 ·exact .inr ⟨_, rfl⟩
theorem YQ {W0 : World} {E : Nat → Addr} {H : Nat → Nat} {M I b : Nat} {G0 : List Nat} {w0 : World} {C : eP} {GC : List Nat} {mb gv : Nat} {a : Pool} {ids : List Nat} {its : List It} {pv : Nat} (hS : fG W0 E H Kk M I b G0 w0 C GC mb gv V a ids its) (hm : aj V pm 29 #[pQ b]) (hk : aj V pk 36 #[nU e.key]) (hv : aj V pv 36 #[nU e.val]) (hh : aj V ph 36 #[nU e.hash]) (hr : aj V pr 31 #[.nilIface]) (hne : pr ∉ dR b C GC mb its ∧ w0.heap.size ≤ pr) (he : j5 H e) : Calls Tryz.prog 23 #[pQ pm, pQ pk, pQ pv, pQ ph, pQ pr] V fun y w' => y = .returned undef ∧ GA W0 E H Kk M I b G0 w0 C GC mb gv its (BQ H Kk M a ids e) pr 31 (kT E (o8 M a.ents e.key)) V w' := by
 have hbk := hS.blk.blk
 unfold eP.cells at hbk
 have c3 := hbk.cell 3
 simp only [gl] at c3
 have xm := hm.cell 0
 have xk := hk.cell 0
 have xv := hv.cell 0
 have xh := hh.cell 0
 simp only [List.getElem?_toArray, List.getElem?_cons_zero] at xm xk xv xh
 have HS := qd hS
 have jf := qd hr
 have jc := qd hne
 have HE := qd he
 have hdr := (Below.refl V.heap.size V).drew
 have hcl := YO (hS.core.below hdr) e he
 unfold aU at hcl
 obtain ⟨ev, hev⟩ : ∃ ev, ev = kT E (o8 M a.ents e.key) := ⟨_, rfl⟩
 have hone : ev = .nilIface ∨ ∃ A, ev = .iface 286 (.pointer (some A)) := hev ▸ BR E _
 rw [← hev] at hcl ⊢
 have Sc := qd hone
 clear hone
 have wT := qd hcl
 clear hcl hev hbk hS hr hne he hdr hm hk hv hh
 go_in
 refine rT (fun (w' : World) => w'.cell? ⟨pm, 0, none⟩ = some (pQ b) ∧ w'.cell? ⟨pk, 0, none⟩ = some (nU e.key) ∧ w'.cell? ⟨pv, 0, none⟩ = some (nU e.val) ∧ w'.cell? ⟨ph, 0, none⟩ = some (nU e.hash) ∧ w'.cell? ⟨b, 3, none⟩ = some (pQ C.cb)) [7, 8] ?_
 have hHeld := (⟨xm, xk, xv, xh, c3⟩ : _ ∧ _ ∧ _ ∧ _ ∧ _)
 refine vT 4 rfl ?_
 refine vT 5 rfl ?_
 refine vT 6 rfl ?_
 refine nT 0 rfl fun K hK => ?_
 go_simp
 refine kO hK ?_
 clear hK K
 refine vW 1 rfl ?_
 refine vW 2 rfl ?_
 refine vT 3 rfl ?_
 refine nT 7 rfl fun K hK => ?_
 go_simp
 refine wT.out.mono ?_
 rintro y V1 ⟨rfl, a', aI, hto, hpm⟩
 obtain ⟨eU, hS1, hsub, hmod⟩ := (HS.out.below (Below.refl V.heap.size V).drew).Wo hto
 have ig := qd hS1
 have wB := qd hpm
 have zR : Mod GC V V1 := (Mod.of_below (Below.refl V.heap.size V).drew GC).then hmod
 have wH := qd (show ∀ q ∈ eU, q ∈ GC ∨ V.heap.size ≤ q from hsub)
 have hpl := jf.out.lt
 have hr1 := (jf.out.mod zR (fun hg => jc.out.1 (aD.2 (.inr (.inr hg)))))
 have HR1 := qd hr1
 have HMo := qd zR
 have iX := qd hpl
 clear hto hpm hS1 hsub hmod zR hr1 hpl wT
 go_wp2_with fail
 refine kO hK ?_
 clear hK K
 refine nT 8 rfl fun K hK => ?_
 have r0 := HR1.out.cell 0
 simp only [List.getElem?_toArray, List.getElem?_cons_zero] at r0
 have rf := HR1.out.frozen 0
 have hn2 := HR1.out.ak 0 (ev)
 have hm2 := (Mod.refl [pr] V1).sl 0 (ev)
 simp only [List.setIfInBounds_toArray, List.set_cons_zero] at hn2
 have hfr : ∀ q ∈ [pr], q ∉ dR b C eU mb its ∧ w0.heap.size ≤ q := fun q hq => by
  rw [List.mem_singleton.1 hq]
  refine ⟨fun hg => ?_, jc.out.2⟩
  rcases aD.1 hg with k | k | k
  ·exact jc.out.1 (aD.2 (.inl k))
  ·exact jc.out.1 (aD.2 (.inr (.inl k)))
  ·rcases wH.out pr k with k | k
   ·exact jc.out.1 (aD.2 (.inr (.inr k)))
   ·have := iX.out; omega
 have HF := qd (show GA W0 E H Kk M I b G0 w0 C GC mb gv its (BQ H Kk M a ids e) pr 31 (ev) V (V1.setCell ⟨pr, 0, none⟩ (ev)) from ⟨eU, a', aI, ig.out.zQ hm2 hfr, wB.out, hn2, wH.out, (HMo.out.more (fun q hq => List.mem_cons_of_mem _ hq)).then (hm2.more (fun q hq => by rw [List.mem_singleton.1 hq]; simp))⟩)
 clear hn2 hm2 hfr
 rcases Sc.out with hv | ⟨A, hv⟩
 all_goals
  subst hv
  go_simp
  refine kO hK ?_
  clear hK K
  refine aT (by kernel_rfl) ?_ _
  go_wp2
  go_end0
  exact ⟨rfl, HF.out⟩
theorem YR {W0 : World} {E : Nat → Addr} {H : Nat → Nat} {M I b : Nat} {G0 : List Nat} {w0 : World} {C : eP} {GC : List Nat} {mb gv : Nat} {a : Pool} {ids : List Nat} {its : List It} (hS : fG W0 E H Kk M I b G0 w0 C GC mb gv V a ids its) (hm : aj V pm 29 #[pQ b]) (hk : aj V pk 36 #[nU e.key]) (hh : aj V ph 36 #[nU e.hash]) (hr : aj V pr 4 #[.bool false]) (hne : pr ∉ dR b C GC mb its ∧ w0.heap.size ≤ pr) (he : j5 H e) : Calls Tryz.prog 29 #[pQ pm, pQ pk, pQ ph, pQ pr] V fun y w' => y = .returned undef ∧ GA W0 E H Kk M I b G0 w0 C GC mb gv its (fun a' _ => a'.ents.Perm (rest a.ents e.key)) pr 4 (.bool (look a.ents e.key).isSome) V w' := by
 have hbk := hS.blk.blk
 unfold eP.cells at hbk
 have c3 := hbk.cell 3
 simp only [gl] at c3
 have xm := hm.cell 0
 have xk := hk.cell 0
 have xh := hh.cell 0
 simp only [List.getElem?_toArray, List.getElem?_cons_zero] at xm xk xh
 have HS := qd hS
 have jf := qd hr
 have jc := qd hne
 have HE := qd he
 have hdr := (Below.refl V.heap.size V).drew
 have h64 := he.h64
 have hcl := aav (hS.core.below hdr) e.key (by rw [← he.hash]; exact h64)
 rw [← he.hash] at hcl
 unfold aU BO at hcl
 obtain ⟨gv0, aaz⟩ : ∃ g : Int, g = (((look a.ents e.key).getD ⟨0, 0, 0⟩).val : Int) := ⟨_, rfl⟩
 obtain ⟨iv, hiv⟩ : ∃ i, i = (look a.ents e.key).isSome := ⟨_, rfl⟩
 rw [← aaz, ← hiv] at hcl
 rw [← hiv]
 have wT := qd hcl
 clear hcl aaz hiv h64 hbk hS hr hne he hdr hm hk hh
 go_in
 refine rT (fun (w' : World) => w'.cell? ⟨pm, 0, none⟩ = some (pQ b) ∧ w'.cell? ⟨pk, 0, none⟩ = some (nU e.key) ∧ w'.cell? ⟨ph, 0, none⟩ = some (nU e.hash) ∧ w'.cell? ⟨b, 3, none⟩ = some (pQ C.cb)) [6, 10] ?_
 have hHeld := (⟨xm, xk, xh, c3⟩ : _ ∧ _ ∧ _ ∧ _)
 refine vT 4 rfl ?_
 refine vT 5 rfl ?_
 refine nT 0 rfl fun K hK => ?_
 go_simp
 refine kO hK ?_
 clear hK K
 refine vW 1 rfl ?_
 refine vW 2 rfl ?_
 refine vT 3 rfl ?_
 refine nT 6 rfl fun K hK => ?_
 go_simp
 refine wT.out.mono ?_
 rintro y V1 ⟨rfl, a', aI, hto, hpm⟩
 obtain ⟨eU, hS1, hsub, hmod⟩ := (HS.out.below (Below.refl V.heap.size V).drew).Wo hto
 have ig := qd hS1
 have wB := qd hpm
 have zR : Mod GC V V1 := (Mod.of_below (Below.refl V.heap.size V).drew GC).then hmod
 have wH := qd (show ∀ q ∈ eU, q ∈ GC ∨ V.heap.size ≤ q from hsub)
 have hpl := jf.out.lt
 have hr1 := (jf.out.mod zR (fun hg => jc.out.1 (aD.2 (.inr (.inr hg)))))
 have HR1 := qd hr1
 have HMo := qd zR
 have iX := qd hpl
 clear hto hpm hS1 hsub hmod zR hr1 hpl wT
 go_wp2_with fail
 refine kO hK ?_
 clear hK K
 refine vL 7 rfl ?_
 refine vL 8 rfl ?_
 refine vL 9 rfl ?_
 refine nT 10 rfl fun K hK => ?_
 have r0 := HR1.out.cell 0
 simp only [List.getElem?_toArray, List.getElem?_cons_zero] at r0
 have rf := HR1.out.frozen 0
 have hn2 := HR1.out.ak 0 (.bool iv)
 have hm2 := (Mod.refl [pr] V1).sl 0 (.bool iv)
 simp only [List.setIfInBounds_toArray, List.set_cons_zero] at hn2
 have hfr : ∀ q ∈ [pr], q ∉ dR b C eU mb its ∧ w0.heap.size ≤ q := fun q hq => by
  rw [List.mem_singleton.1 hq]
  refine ⟨fun hg => ?_, jc.out.2⟩
  rcases aD.1 hg with k | k | k
  ·exact jc.out.1 (aD.2 (.inl k))
  ·exact jc.out.1 (aD.2 (.inr (.inl k)))
  ·rcases wH.out pr k with k | k
   ·exact jc.out.1 (aD.2 (.inr (.inr k)))
   ·have := iX.out; omega
 have HF := qd (show GA W0 E H Kk M I b G0 w0 C GC mb gv its (fun a' _ => a'.ents.Perm (rest a.ents e.key)) pr 4 (.bool iv) V (V1.setCell ⟨pr, 0, none⟩ (.bool iv)) from ⟨eU, a', aI, ig.out.zQ hm2 hfr, wB.out, hn2, wH.out, (HMo.out.more (fun q hq => List.mem_cons_of_mem _ hq)).then (hm2.more (fun q hq => by rw [List.mem_singleton.1 hq]; simp))⟩)
 clear hn2 hm2 hfr
 go_simp
 refine kO hK ?_
 clear hK K
 refine aT (by kernel_rfl) ?_ _
 go_wp2
 go_end0
 exact ⟨rfl, HF.out⟩
end
section
section
variable {W0 : World} {E : Nat → Addr} {H : Nat → Nat} {Kk M I b : Nat} {G0 : List Nat} {w0 w w' : World} {C : eP} {GC : List Nat} {mb gv : Nat} {a : Pool} {ids : List Nat} {its : List It}
theorem fG.wrote (h : fG W0 E H Kk M I b G0 w0 C GC mb gv w a ids its) (hw : Wrote w b C w') : ∃ C', fG W0 E H Kk M I b G0 w0 C' GC mb gv w' a ids its ∧ Mod [b] w w' ∧ C'.cb = C.cb ∧ C'.ib = C.ib ∧ C'.lf ≤ C.lf := by
 obtain ⟨lf, gn, ma, ml, last, all, h1, h2, h3⟩ := hw
 exact ⟨_, h.Ep h2 h3 ⟨rfl, rfl, rfl, rfl, rfl⟩, h3, rfl, rfl, h1⟩
end
theorem MF {W0 : World} {E : Nat → Addr} {H : Nat → Nat} {Kk M I b : Nat} {G : List Nat} {w : World} {a : Pool} {ids : List Nat} {its : List It} {gv : Nat} {eH : bC} (h : je W0 E H Kk M I b G w a ids its gv eH) (e : av) (he : j5 H e) : Calls Tryz.prog 8 #[pQ b, nU e.key, nU e.val, nU e.hash] w fun y w' => y = .returned (kT E (o8 M a.ents e.key)) ∧ ∃ a' aI fC, oF W0 E H Kk M I b G w w' a' aI its gv fC ∧ BQ H Kk M a ids e a' aI := by
 obtain ⟨C, GC, mb, hS, rfl, ng⟩ := h
 obtain ⟨W, hW, hB, hBm, TF, OW, CV, xH⟩ := Y1 w 29 #[pQ b] 36 #[nU e.key] 36 #[nU e.val] 36 #[nU e.hash] 31 #[.nilIface]
 have hlt := fun q hq => (hS.iF q hq).1
 have jc := qd (show ∀ q, w.heap.size ≤ q → q ∉ dR b C GC mb its from fun q hq hg => by have := hlt q hg; omega)
 have HS := qd (hS.below hB)
 have hsz := hB.size
 have Dr := qd hBm
 have TH := qd TF
 have HBv := qd OW
 have TI := qd CV
 have rA := qd xH
 have Xv := xH.lt
 have HW := qd hW
 have HE := qd he
 clear hW hB hS hlt hBm TF OW CV xH
 have nM : ∀ (fn : Fn) (first cap : Array Value) (w : World), (Instr.makeFunc fn first cap).run Tryz.prog w = .ok (.func fn first cap) w := fun _ _ _ _ => rfl
 have nQ := (Below.refl W.heap.size W).alloc (Nat.le_refl _) (.cells #[.nilIface] 31)
 have rG := qd (zO (S := (w.heap.size + 1 + 1 + 1 + 1) :: GC) (K := fun w1 => GA W0 E H Kk M I b (dR b C GC mb its) w C GC mb gv its (BQ H Kk M a ids e) (w.heap.size + 1 + 1 + 1 + 1) 31 (kT E (o8 M a.ents e.key)) (W.alloc (.cells #[.nilIface] 31)) w1) 23 #[pQ w.heap.size, .pointer (some ⟨(w.heap.size + 1), 0, none⟩), .pointer (some ⟨(w.heap.size + 1 + 1), 0, none⟩), .pointer (some ⟨(w.heap.size + 1 + 1 + 1), 0, none⟩), .pointer (some ⟨(w.heap.size + 1 + 1 + 1 + 1), 0, none⟩)] W (fun V => enters_of Tryz.func23 (by kernel_rfl) rfl _ V)
  (fun hg => by
   rcases List.mem_cons.1 hg with k | k
   ·omega
   ·exact jc.out _ (by omega) (aD.2 (.inr (.inr k))))
  ((YQ (HS.out.below nQ) (Dr.out.mod (Mod.of_below nQ []) (by simp)) (TH.out.mod (Mod.of_below nQ []) (by simp)) (HBv.out.mod (Mod.of_below nQ []) (by simp)) (TI.out.mod (Mod.of_below nQ []) (by simp)) (rA.out.mod (Mod.of_below nQ []) (by simp)) ⟨jc.out _ (by omega), by omega⟩ HE.out).mono (fun y w1 hh => ⟨hh.1, (by obtain ⟨_, _, _, _, _, _, _, q⟩ := hh.2; exact q), hh.2⟩)))
 have MG := qd nQ
 clear nQ
 go_in
 go_upto_region 2 with fail
 rw [← HW.out]
 go_wp2_with fail
 refine rG.out.mono ?_
 rintro y w1 ⟨rfl, hm1, eU, a', aI, hS1, hpm, hr1, hsu, hm2⟩
 have HS := qd hS1
 have wB := qd hpm
 have HR := qd hr1
 have hx1 := (Dr.out.mod (Mod.of_below MG.out []) (by simp)).mod hm1 (fun hg => by
  rcases List.mem_cons.1 hg with k | k
  ·omega
  ·exact jc.out _ (Nat.le_refl _) (aD.2 (.inr (.inr k))))
 have HX := qd hx1
 have FL := qd (show (w.heap.size + 1 + 1 + 1 + 1) ∉ [b] from fun hg => jc.out _ (by omega) (aD.2 (.inl (List.mem_singleton.1 hg))))
 clear hm1 hS1 hpm hr1 hsu hm2 hx1 rG Dr TH HBv TI rA MG
 cases hfu : sI M a.ents e.key with
 | false =>
  have hpc : o8 M a.ents e.key = 0 := by unfold o8; rw [hfu]; rfl
  rw [hpc] at HR
  have Tw := qd hpc
  clear hpc
  rw [GX] at HR
  have r0 := HR.out.cell 0
  simp only [List.getElem?_toArray, List.getElem?_cons_zero] at r0
  go_upto_region 8 with fail
  clear r0
  obtain ⟨cc, hcc⟩ := HS.out.core.c_
  have hbk := HS.out.blk.blk
  unfold eP.cells at hbk
  have c3 := hbk.cell 3
  simp only [gl] at c3
  have x0 := HX.out.cell 0
  simp only [List.getElem?_toArray, List.getElem?_cons_zero] at x0
  have fK := qd (yY (hcc.below (Below.refl w1.heap.size w1).drew))
  unfold lI at fK
  clear hbk hcc
  refine rT (fun (w' : World) => w'.cell? ⟨w.heap.size, 0, none⟩ = some (pQ b) ∧ w'.cell? ⟨b, 3, none⟩ = some (pQ C.cb)) [7] ?_
  have hHeld := (⟨x0, c3⟩ : _ ∧ _)
  refine vT 0 rfl ?_
  refine nT 1 rfl fun K hK => ?_
  go_simp
  refine kO hK ?_
  clear hK K
  refine vW 2 rfl ?_
  refine vW 3 rfl ?_
  refine nT 4 rfl fun K hK => ?_
  go_simp
  refine kO hK ?_
  clear hK K
  refine nT 5 rfl fun K hK => ?_
  go_simp
  refine (qW _ _).mono ?_
  rintro y V1 ⟨rfl, rfl⟩
  go_wp2_with fail
  have hHeld := (⟨x0, c3⟩ : _ ∧ _)
  refine kO hK ?_
  clear hK K
  refine nT 6 rfl fun K hK => ?_
  go_simp
  refine (fK.out).mono ?_
  rintro y V2 ⟨rfl, hb⟩
  replace hb : Below w1.heap.size w1 V2 := bI hb (Below.refl _ _).drew
  replace HS := qd (HS.out.below hb)
  replace x0 := aJ hb x0
  replace c3 := aJ hb c3
  clear hb fK
  go_wp2_with fail
  have hHeld := (⟨x0, c3⟩ : _ ∧ _)
  refine kO hK ?_
  clear hK K
  refine nT 7 rfl fun K hK => ?_
  go_simp
  have jO := qd (show Calls Tryz.prog 28 #[pQ b, .agg #[.int .i64 cc.p, .int .i64 cc.v, .int .i64 cc.u]] V2 _ from Eo HS.out.blk HS.out.kk cc)
  refine (jO.out).mono ?_
  rintro y V3 ⟨rfl, hwr⟩
  obtain ⟨C3, Je, q3, Wq, Ws, Wt⟩ := HS.out.wrote hwr
  have jF := qd Je
  clear Je hwr q3 Wq Ws Wt jO HS x0 c3
  go_wp2_with fail
  refine kO hK ?_
  clear hK K
  refine aT (by kernel_rfl) ?_ _
  go_wp2
  go_ret
  exact ⟨by rw [Tw.out]; rfl, a', aI, _, jF.out.to, wB.out⟩
 | true =>
  have hpc : o8 M a.ents e.key = 2 := by unfold o8; rw [hfu]; rfl
  rw [hpc] at HR
  have Tw := qd hpc
  clear hpc
  rw [jd E (by omega : 1 ≤ 2)] at HR
  have r0 := HR.out.cell 0
  simp only [List.getElem?_toArray, List.getElem?_cons_zero] at r0
  go_upto_region 6 with fail
  clear r0
  obtain ⟨cc, hcc⟩ := HS.out.core.c_
  have hbk := HS.out.blk.blk
  unfold eP.cells at hbk
  have c3 := hbk.cell 3
  simp only [gl] at c3
  have x0 := HX.out.cell 0
  simp only [List.getElem?_toArray, List.getElem?_cons_zero] at x0
  have fK := qd (yY (hcc.below (Below.refl w1.heap.size w1).drew))
  unfold lI at fK
  clear hbk hcc
  refine rT (fun (w' : World) => w'.cell? ⟨w.heap.size, 0, none⟩ = some (pQ b) ∧ w'.cell? ⟨b, 3, none⟩ = some (pQ C.cb)) [7] ?_
  have hHeld := (⟨x0, c3⟩ : _ ∧ _)
  refine vT 0 rfl ?_
  refine nT 1 rfl fun K hK => ?_
  go_simp
  refine kO hK ?_
  clear hK K
  refine vW 2 rfl ?_
  refine vW 3 rfl ?_
  refine nT 4 rfl fun K hK => ?_
  go_simp
  refine kO hK ?_
  clear hK K
  refine nT 5 rfl fun K hK => ?_
  go_simp
  refine (qW _ _).mono ?_
  rintro y V1 ⟨rfl, rfl⟩
  go_wp2_with fail
  have hHeld := (⟨x0, c3⟩ : _ ∧ _)
  refine kO hK ?_
  clear hK K
  refine nT 6 rfl fun K hK => ?_
  go_simp
  refine (fK.out).mono ?_
  rintro y V2 ⟨rfl, hb⟩
  replace hb : Below w1.heap.size w1 V2 := bI hb (Below.refl _ _).drew
  replace HS := qd (HS.out.below hb)
  replace HR := qB hb HR
  replace x0 := aJ hb x0
  replace c3 := aJ hb c3
  clear hb fK
  go_wp2_with fail
  have hHeld := (⟨x0, c3⟩ : _ ∧ _)
  refine kO hK ?_
  clear hK K
  refine nT 7 rfl fun K hK => ?_
  go_simp
  have jO := qd (show Calls Tryz.prog 25 #[pQ b, .agg #[.int .i64 cc.p, .int .i64 cc.v, .int .i64 cc.u]] V2 _ from wG HS.out.blk cc)
  refine (jO.out).mono ?_
  rintro y V3 ⟨rfl, hwr, q3⟩
  have jF := qd (HS.out.Ep hwr q3 ⟨rfl, rfl, rfl, rfl, rfl⟩)
  replace HR := qd (HR.out.mod q3 FL.out)
  clear hwr q3 jO HS x0 c3
  go_wp2_with fail
  refine kO hK ?_
  clear hK K
  refine aT (by kernel_rfl) ?_ _
  have r0 := HR.out.cell 0
  simp only [List.getElem?_toArray, List.getElem?_cons_zero] at r0
  go_wp2
  go_ret
  exact ⟨by rw [Tw.out, jd E (by omega : 1 ≤ 2)]; rfl, a', aI, _, jF.out.to, wB.out⟩
theorem Jf {W0 : World} {E : Nat → Addr} {H : Nat → Nat} {Kk M I b : Nat} {G : List Nat} {w : World} {a : Pool} {ids : List Nat} {its : List It} {gv : Nat} {eH : bC} (h : je W0 E H Kk M I b G w a ids its gv eH) (e : av) (he : j5 H e) : Calls Tryz.prog 9 #[pQ b, nU e.key, nU e.hash] w fun y w' => y = .returned (.bool (look a.ents e.key).isSome) ∧ ∃ a' aI fC, oF W0 E H Kk M I b G w w' a' aI its gv fC ∧ a'.ents.Perm (rest a.ents e.key) := by
 obtain ⟨iv, hiv⟩ : ∃ i, i = (look a.ents e.key).isSome := ⟨_, rfl⟩
 rw [← hiv]
 have HIv := qd hiv
 clear hiv
 obtain ⟨C, GC, mb, hS, rfl, ng⟩ := h
 obtain ⟨W, hW, hB, hBm, TF, CV, xH⟩ := qX4 w 29 #[pQ b] 36 #[nU e.key] 36 #[nU e.hash] 4 #[.bool false]
 have hlt := fun q hq => (hS.iF q hq).1
 have jc := qd (show ∀ q, w.heap.size ≤ q → q ∉ dR b C GC mb its from fun q hq hg => by have := hlt q hg; omega)
 have HS := qd (hS.below hB)
 have hsz := hB.size
 have Dr := qd hBm
 have TH := qd TF
 have TI := qd CV
 have rA := qd xH
 have Xv := xH.lt
 have HW := qd hW
 have HE := qd he
 clear hW hB hS hlt hBm TF CV xH
 have nM : ∀ (fn : Fn) (first cap : Array Value) (w : World), (Instr.makeFunc fn first cap).run Tryz.prog w = .ok (.func fn first cap) w := fun _ _ _ _ => rfl
 have nQ := (Below.refl W.heap.size W).alloc (Nat.le_refl _) (.cells #[.nilIface] 31)
 have rG := qd (zO (S := (w.heap.size + 1 + 1 + 1) :: GC) (K := fun w1 => GA W0 E H Kk M I b (dR b C GC mb its) w C GC mb gv its (fun a' _ => a'.ents.Perm (rest a.ents e.key)) (w.heap.size + 1 + 1 + 1) 4 (.bool (look a.ents e.key).isSome) (W.alloc (.cells #[.nilIface] 31)) w1) 29 #[pQ w.heap.size, .pointer (some ⟨(w.heap.size + 1), 0, none⟩), .pointer (some ⟨(w.heap.size + 1 + 1), 0, none⟩), .pointer (some ⟨(w.heap.size + 1 + 1 + 1), 0, none⟩)] W (fun V => enters_of Tryz.func29 (by kernel_rfl) rfl _ V)
  (fun hg => by
   rcases List.mem_cons.1 hg with k | k
   ·omega
   ·exact jc.out _ (by omega) (aD.2 (.inr (.inr k))))
  ((YR (HS.out.below nQ) (Dr.out.mod (Mod.of_below nQ []) (by simp)) (TH.out.mod (Mod.of_below nQ []) (by simp)) (TI.out.mod (Mod.of_below nQ []) (by simp)) (rA.out.mod (Mod.of_below nQ []) (by simp)) ⟨jc.out _ (by omega), by omega⟩ HE.out).mono (fun y w1 hh => ⟨hh.1, (by obtain ⟨_, _, _, _, _, _, _, q⟩ := hh.2; exact q), hh.2⟩)))
 have MG := qd nQ
 clear nQ
 go_in
 go_upto_region 2 with fail
 rw [← HW.out]
 go_wp2_with fail
 refine rG.out.mono ?_
 rintro y w1 ⟨rfl, hm1, eU, a', aI, hS1, hpm, hr1, hsu, hm2⟩
 have HS := qd hS1
 have wB := qd hpm
 have HR := qd hr1
 have hx1 := (Dr.out.mod (Mod.of_below MG.out []) (by simp)).mod hm1 (fun hg => by
  rcases List.mem_cons.1 hg with k | k
  ·omega
  ·exact jc.out _ (Nat.le_refl _) (aD.2 (.inr (.inr k))))
 have HX := qd hx1
 have FL := qd (show (w.heap.size + 1 + 1 + 1) ∉ [b] from fun hg => jc.out _ (by omega) (aD.2 (.inl (List.mem_singleton.1 hg))))
 clear hm1 hS1 hpm hr1 hsu hm2 hx1 rG Dr TH TI rA MG
 rw [← HIv.out] at HR
 go_upto_region 3 with fail
 obtain ⟨cc, hcc⟩ := HS.out.core.c_
 have hbk := HS.out.blk.blk
 unfold eP.cells at hbk
 have c3 := hbk.cell 3
 simp only [gl] at c3
 have x0 := HX.out.cell 0
 simp only [List.getElem?_toArray, List.getElem?_cons_zero] at x0
 have fK := qd (yY (hcc.below (Below.refl w1.heap.size w1).drew))
 unfold lI at fK
 clear hbk hcc
 refine rT (fun (w' : World) => w'.cell? ⟨w.heap.size, 0, none⟩ = some (pQ b) ∧ w'.cell? ⟨b, 3, none⟩ = some (pQ C.cb)) [7] ?_
 have hHeld := (⟨x0, c3⟩ : _ ∧ _)
 refine vT 0 rfl ?_
 refine nT 1 rfl fun K hK => ?_
 go_simp
 refine kO hK ?_
 clear hK K
 refine vW 2 rfl ?_
 refine vW 3 rfl ?_
 refine nT 4 rfl fun K hK => ?_
 go_simp
 refine kO hK ?_
 clear hK K
 refine nT 5 rfl fun K hK => ?_
 go_simp
 refine (qW _ _).mono ?_
 rintro y V1 ⟨rfl, rfl⟩
 go_wp2_with fail
 have hHeld := (⟨x0, c3⟩ : _ ∧ _)
 refine kO hK ?_
 clear hK K
 refine nT 6 rfl fun K hK => ?_
 go_simp
 refine (fK.out).mono ?_
 rintro y V2 ⟨rfl, hb⟩
 replace hb : Below w1.heap.size w1 V2 := bI hb (Below.refl _ _).drew
 replace HS := qd (HS.out.below hb)
 replace HR := qB hb HR
 replace x0 := aJ hb x0
 replace c3 := aJ hb c3
 clear hb fK
 go_wp2_with fail
 have hHeld := (⟨x0, c3⟩ : _ ∧ _)
 refine kO hK ?_
 clear hK K
 refine nT 7 rfl fun K hK => ?_
 go_simp
 have jO := qd (show Calls Tryz.prog 28 #[pQ b, .agg #[.int .i64 cc.p, .int .i64 cc.v, .int .i64 cc.u]] V2 _ from Eo HS.out.blk HS.out.kk cc)
 refine (jO.out).mono ?_
 rintro y V3 ⟨rfl, hwr⟩
 obtain ⟨C3, Je, q3, Wq, Ws, Wt⟩ := HS.out.wrote hwr
 have jF := qd Je
 replace HR := qd (HR.out.mod q3 FL.out)
 clear Je hwr q3 Wq Ws Wt jO HS x0 c3
 go_wp2_with fail
 refine kO hK ?_
 clear hK K
 refine aT (by kernel_rfl) ?_ _
 have r0 := HR.out.cell 0
 simp only [List.getElem?_toArray, List.getElem?_cons_zero] at r0
 go_wp2
 go_ret
 exact ⟨rfl, a', aI, _, jF.out.to, wB.out⟩
end
section
variable {j key m : Nat} {es : List av} {e : av}
def abU (es : List av) (key : Nat) (y : Int) : Prop := (∃ (i : Nat) (e : av), es[i]? = some e ∧ e.key = key ∧ y = (i : Int) ∧ ∀ k, k < i → ∀ e', es[k]? = some e' → e'.key ≠ key) ∨ ((∀ e ∈ es, e.key ≠ key) ∧ y = -1)
end
section
variable {es : List av} {j key : Nat} {e : av}
def without (es : List av) (key j : Nat) : List av := (es.take j).filter fun x => x.key != key
end
section
section
variable {w w' : World} {base mb M : Nat} {es : List av} {R : List Nat}
end
def cutAt (y : Option av) (hi : Nat) : Option av := match y with | none => none | some m => if m.hash ≤ hi then some m else none
end
end Go.Proofs.YtbphcldoflekpaaGreatDoor
