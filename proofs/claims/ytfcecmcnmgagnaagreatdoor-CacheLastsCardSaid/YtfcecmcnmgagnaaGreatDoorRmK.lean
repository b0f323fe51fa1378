/- A map as one thing: its block, its core, its iterators. No statement of the claim. -/
import Derived.Test.YtfcecmcnmgagnaaGreatDoorRmC
import Derived.Test.YtfcecmcnmgagnaaGreatDoorSqM
import Derived.Test.YtfcecmcnmgagnaaGreatDoorCoO
import Derived.Test.YtfcecmcnmgagnaaGreatDoorLaneQ
import Derived.Test.YtfcecmcnmgagnaaGreatDoorRmM
namespace Go.Proofs.YtfcecmcnmgagnaaGreatDoor
set_option maxRecDepth 100000
set_option maxHeartbeats 4000000
open Go.RowKit AmC
section
variable {GC' S : List Nat} {Kk ph pk pm pr : Nat} {V : World} {e : Ent}
def rtFoot (b : Nat) (C : RmC) (GC : List Nat) (mb : Nat) (its : List It) : List Nat := b :: (itFoot C.ib mb its ++ GC)
structure RtS (W0 : World) (E : Nat → Addr) (H : Nat → Nat) (K M I b : Nat) (G0 : List Nat) (w0 : World) (C : RmC) (GC : List Nat) (mb gv : Nat) (w : World) (a : Pool) (ids : List Nat) (its : List It) : Prop where
 blk : RmB w b C
 cfg : C.k = (K : Int) ∧ C.m = (M : Int) ∧ C.i = (I : Int)
 core : CoreAt W0 E H K M C.cb GC w a ids
 itr : ItAt w C.ib mb I gv its
 b0 : W0.heap.size ≤ b ∧ ∀ q ∈ itFoot C.ib mb its, W0.heap.size ≤ q
 apart : b ∉ GC ∧ b ∉ itFoot C.ib mb its ∧ ∀ q ∈ itFoot C.ib mb its, q ∉ GC
 sub : ∀ q ∈ rtFoot b C GC mb its, q ∈ G0 ∨ w0.heap.size ≤ q
 mod : Mod G0 w0 w
 le0 : W0.heap.size ≤ w0.heap.size
theorem mem_rtFoot {b : Nat} {C : RmC} {GC : List Nat} {mb : Nat} {its : List It} {q : Nat} : q ∈ rtFoot b C GC mb its ↔ q = b ∨ q ∈ itFoot C.ib mb its ∨ q ∈ GC := by unfold rtFoot; simp
section
variable {W0 : World} {E : Nat → Addr} {H : Nat → Nat} {K M I b : Nat} {G0 : List Nat} {w0 : World} {C C' : RmC} {GC : List Nat} {mb gv gv' : Nat} {w w' : World} {a a' : Pool} {ids ids' : List Nat} {its its' : List It}
theorem RtS.lts (h : RtS W0 E H K M I b G0 w0 C GC mb gv w a ids its) : ∀ q ∈ rtFoot b C GC mb its, q < w.heap.size ∧ W0.heap.size ≤ q := fun q hq => by
 rcases mem_rtFoot.1 hq with rfl | hq | hq
 ·exact ⟨h.blk.lt, h.b0.1⟩
 ·exact ⟨h.itr.lts q hq, h.b0.2 q hq⟩
 ·exact h.core.facts.2.2.2.2.2.2.2.2.2.2.1 q hq
theorem RtS.kk (h : RtS W0 E H K M I b G0 w0 C GC mb gv w a ids its) : 1 ≤ C.k ∧ C.k ≤ 64 := by
 have := h.core.facts.2.2.2.2.2.2.2.2.1
 rw [h.cfg.1]; omega
theorem RtS.mod_ (h : RtS W0 E H K M I b G0 w0 C GC mb gv w a ids its) (hm : Mod S w w') (hS : ∀ q ∈ S, q ∉ rtFoot b C GC mb its ∧ w0.heap.size ≤ q) : RtS W0 E H K M I b G0 w0 C GC mb gv w' a ids its := by
 have h1 : ∀ q ∈ rtFoot b C GC mb its, q ∉ S := fun q hq hs => (hS q hs).1 hq
 exact ⟨h.blk.mod hm (h1 b (mem_rtFoot.2 (.inl rfl))), h.cfg, h.core.mod hm (fun q hq => ⟨fun hg => (hS q hq).1 (mem_rtFoot.2 (.inr (.inr hg))), Nat.le_trans h.le0 (hS q hq).2⟩), h.itr.mod hm (fun q hq => h1 q (mem_rtFoot.2 (.inr (.inl hq)))), h.b0, h.apart, h.sub, h.mod.trans hm (fun _ hk _ => hk) (fun k hk hl => absurd (hS k hk).2 (by omega)), h.le0⟩
theorem RtS.below (h : RtS W0 E H K M I b G0 w0 C GC mb gv w a ids its) (hb : Below w.heap.size w w') : RtS W0 E H K M I b G0 w0 C GC mb gv w' a ids its := h.mod_ (Mod.of_below hb []) (by simp)
theorem RtS.setB (h : RtS W0 E H K M I b G0 w0 C GC mb gv w a ids its) (hB : RmB w' b C') (hm : Mod [b] w w') (hk : C'.k = C.k ∧ C'.m = C.m ∧ C'.i = C.i ∧ C'.cb = C.cb ∧ C'.ib = C.ib) : RtS W0 E H K M I b G0 w0 C' GC mb gv w' a ids its := by
 obtain ⟨k1, k2, k3, k4, k5⟩ := hk
 refine ⟨hB, by rw [k1, k2, k3]; exact h.cfg, by rw [k4]; exact h.core.mod hm (fun q hq => by rw [List.mem_singleton.1 hq]; exact ⟨h.apart.1, h.b0.1⟩), by rw [k5]; exact h.itr.mod hm (fun q hq hs => h.apart.2.1 (List.mem_singleton.1 hs ▸ hq)), by rw [k5]; exact h.b0, by rw [k5]; exact h.apart, fun q hq => h.sub q (by rw [mem_rtFoot] at hq ⊢; rw [k5] at hq; exact hq), h.mod.trans hm (fun _ hk _ => hk) (fun k hk hl => ?_), h.le0⟩
 rcases h.sub b (mem_rtFoot.2 (.inl rfl)) with h1 | h1
 ·rw [List.mem_singleton.1 hk]; exact h1
 ·rw [List.mem_singleton.1 hk] at hl; omega
theorem Mod.within (h : Mod G0 w0 w) (hm : Mod S w w') (hs : ∀ q ∈ S, q ∈ G0 ∨ w0.heap.size ≤ q) : Mod G0 w0 w' := h.trans hm (fun _ hk _ => hk) fun k hk hl => (hs k hk).elim id fun h1 => absurd h1 (by omega)
theorem RtS.setC' (h : RtS W0 E H K M I b G0 w0 C GC mb gv w a ids its) (h1 : CoreAt W0 E H K M C.cb GC' w' a' ids') (h2 : ∀ q ∈ GC', q ∈ GC ∨ w.heap.size ≤ q) (h3 : Mod GC w w') : RtS W0 E H K M I b G0 w0 C GC' mb gv w' a' ids' its := by
 have hbl := h.blk.lt
 have hil := h.itr.lts
 refine ⟨h.blk.mod h3 h.apart.1, h.cfg, h1, h.itr.mod h3 h.apart.2.2, h.b0, ⟨fun hg => ?_, h.apart.2.1, fun q hq hg => ?_⟩, fun q hq => ?_, h.mod.within h3 (fun q hq => h.sub q (mem_rtFoot.2 (.inr (.inr hq)))), h.le0⟩
 ·rcases h2 b hg with k | k
  ·exact h.apart.1 k
  ·omega
 ·rcases h2 q hg with k | k
  ·exact h.apart.2.2 q hq k
  ·have := hil q hq; omega
 ·rcases mem_rtFoot.1 hq with k | k | k
  ·exact h.sub q (mem_rtFoot.2 (.inl k))
  ·exact h.sub q (mem_rtFoot.2 (.inr (.inl k)))
  ·rcases h2 q k with k | k
   ·exact h.sub q (mem_rtFoot.2 (.inr (.inr k)))
   ·have := h.mod.size; exact .inr (by omega)
theorem RtS.setC (h : RtS W0 E H K M I b G0 w0 C GC mb gv w a ids its) (hc : CoreTo W0 E H K M C.cb GC w w' a' ids') : ∃ GC', RtS W0 E H K M I b G0 w0 C GC' mb gv w' a' ids' its ∧ (∀ q ∈ GC', q ∈ GC ∨ w.heap.size ≤ q) ∧ Mod GC w w' := by
 obtain ⟨GC', h1, h2, h3⟩ := hc
 exact ⟨GC', h.setC' h1 h2 h3, h2, h3⟩
theorem RtS.again (h : RtS W0 E H K M I b G0 w0 C GC mb gv w a ids its) : RtS W0 E H K M I b (rtFoot b C GC mb its) w C GC mb gv w a ids its := ⟨h.blk, h.cfg, h.core, h.itr, h.b0, h.apart, fun q hq => .inl hq, Mod.refl _ _, by have := h.core.facts.2.2.2.2.2.2.2.2.2.2.2.size; exact this⟩
theorem RtS.chain {mb' : Nat} (h : RtS W0 E H K M I b G0 w0 C GC mb gv w a ids its) (k : RtS W0 E H K M I b (rtFoot b C GC mb its) w C' GC' mb' gv' w' a' ids' its') : RtS W0 E H K M I b G0 w0 C' GC' mb' gv' w' a' ids' its' :=
 ⟨k.blk, k.cfg, k.core, k.itr, k.b0, k.apart, fun q hq => (k.sub q hq).elim (fun g => h.sub q g) (fun g => .inr (by have := h.mod.size; omega)), h.mod.within k.mod h.sub, h.le0⟩
end
def RtAt (W0 : World) (E : Nat → Addr) (H : Nat → Nat) (K M I b : Nat) (G : List Nat) (w : World) (a : Pool) (ids : List Nat) (its : List It) (gv : Nat) (lst : Cnt) : Prop :=
 ∃ (C : RmC) (GC : List Nat) (mb : Nat), RtS W0 E H K M I b (rtFoot b C GC mb its) w C GC mb gv w a ids its ∧ G = rtFoot b C GC mb its ∧ C.last = lst
def RtTo (W0 : World) (E : Nat → Addr) (H : Nat → Nat) (K M I b : Nat) (G : List Nat) (w w' : World) (a' : Pool) (ids' : List Nat) (its' : List It) (gv' : Nat) (lst' : Cnt) : Prop :=
 ∃ G', RtAt W0 E H K M I b G' w' a' ids' its' gv' lst' ∧ (∀ q ∈ G', q ∈ G ∨ w.heap.size ≤ q) ∧ Mod G w w'
section
variable {W0 : World} {E : Nat → Addr} {H : Nat → Nat} {K M I b : Nat} {G G0 : List Nat} {w0 w w' : World} {C : RmC} {GC : List Nat} {mb gv gv' : Nat} {a a' : Pool} {ids ids' : List Nat} {its its' : List It} {lst lst' : Cnt}
theorem RtS.to (h : RtS W0 E H K M I b G w C GC mb gv w' a' ids' its') : RtTo W0 E H K M I b G w w' a' ids' its' gv C.last := ⟨_, ⟨C, GC, mb, h.again, rfl, rfl⟩, h.sub, h.mod⟩
theorem RtAt.mod (h : RtAt W0 E H K M I b G w a ids its gv lst) (hm : Mod S w w') (hS : ∀ q ∈ S, q ∉ G ∧ W0.heap.size ≤ q) : RtAt W0 E H K M I b G w' a ids its gv lst := by
 obtain ⟨C, GC, mb, h1, rfl, h2⟩ := h
 have k1 : ∀ q ∈ rtFoot b C GC mb its, q ∉ S := fun q hq hs => (hS q hs).1 hq
 have h3 : RtS W0 E H K M I b (rtFoot b C GC mb its) w' C GC mb gv w' a ids its := ⟨h1.blk.mod hm (k1 b (mem_rtFoot.2 (.inl rfl))), h1.cfg, h1.core.mod hm (fun q hq => ⟨fun hg => (hS q hq).1 (mem_rtFoot.2 (.inr (.inr hg))), (hS q hq).2⟩), h1.itr.mod hm (fun q hq => k1 q (mem_rtFoot.2 (.inr (.inl hq)))), h1.b0, h1.apart, fun q hq => .inl hq, Mod.refl _ _, by have := h1.le0; have := hm.size; omega⟩
 exact ⟨C, GC, mb, h3, rfl, h2⟩
theorem RtAt.below (h : RtAt W0 E H K M I b G w a ids its gv lst) (hb : Below w.heap.size w w') : RtAt W0 E H K M I b G w' a ids its gv lst := h.mod (Mod.of_below hb []) (by simp)
theorem RtAt.facts (h : RtAt W0 E H K M I b G w a ids its gv lst) : (∀ q ∈ G, q < w.heap.size ∧ W0.heap.size ≤ q) ∧ (a.ents.map Ent.key).Nodup ∧ a.ents.length ≤ M ∧ M ≤ 192 ∧ a.Ns.length ≤ 32 ∧ 1 ≤ a.Ns.length ∧ (its.map It.id).Nodup ∧ its.length ≤ I ∧ I ≤ 8 ∧ Env W0 E w := by
 obtain ⟨C, GC, mb, h1, rfl, h2⟩ := h
 obtain ⟨_, _, f3, f4, _, _, f7, f8, _, f10, _, f12⟩ := h1.core.facts
 exact ⟨h1.lts, f10, f7, f8, f3, f4, h1.itr.nd, h1.itr.few.2, h1.itr.few.1, f12⟩
theorem RtTo.next (h : RtTo W0 E H K M I b G w w' a' ids' its' gv' lst') {w2 : World} (hb : Below w'.heap.size w' w2) : RtTo W0 E H K M I b G w w2 a' ids' its' gv' lst' := by
 obtain ⟨G', h1, h2, h3⟩ := h
 exact ⟨G', h1.below hb, h2, h3.then (Mod.of_below hb _)⟩
theorem rt_Len (h : RtAt W0 E H K M I b G w a ids its gv lst) : Calls Tryz.prog 22 #[.pointer (some ⟨b, 0, none⟩)] w fun y w' => y = .returned (.int .i64 (a.ents.length : Int)) ∧ w = w' := by
 obtain ⟨C, GC, mb, hS, rfl, hlst⟩ := h
 have hbk := hS.blk.blk
 unfold RmC.cells at hbk
 have c3 := hbk.cell 3
 simp only [gl] at c3
 have HL := qd (at_Len hS.core)
 unfold coreP at HL
 clear hbk hS hlst
 go_in
 go_wp2_with fail
 refine HL.out.mono ?_
 rintro y w1 ⟨rfl, rfl⟩
 go_wp2
 go_ret
 exact ⟨rfl, rfl⟩
end
def CloP (W0 : World) (E : Nat → Addr) (H : Nat → Nat) (K M I b : Nat) (G0 : List Nat) (w0 : World) (C : RmC) (GC : List Nat) (mb gv : Nat) (its : List It) (R : Pool → List Nat → Prop) (pr : Nat) (t : TypeId) (v : Value) (V w' : World) : Prop :=
 ∃ GC' a' ids', RtS W0 E H K M I b G0 w0 C GC' mb gv w' a' ids' its ∧ R a' ids' ∧ Blk w' pr t #[v] ∧ (∀ q ∈ GC', q ∈ GC ∨ V.heap.size ≤ q) ∧ Mod (pr :: GC) V w'
theorem errV_form (E : Nat → Addr) (k : Nat) : errV E k = .nilIface ∨ ∃ A, errV E k = .iface 262 (.pointer (some A)) := by
 unfold errV
 split
 ·exact .inl rfl
 ·exact .inr ⟨_, rfl⟩
theorem put_clo {W0 : World} {E : Nat → Addr} {H : Nat → Nat} {M I b : Nat} {G0 : List Nat} {w0 : World} {C : RmC} {GC : List Nat} {mb gv : Nat} {a : Pool} {ids : List Nat} {its : List It} {pv : Nat} (hS : RtS W0 E H Kk M I b G0 w0 C GC mb gv V a ids its) (hm : Blk V pm 46 #[.pointer (some ⟨b, 0, none⟩)]) (hk : Blk V pk 33 #[.int .u64 (e.key : Int)]) (hv : Blk V pv 33 #[.int .u64 (e.val : Int)]) (hh : Blk V ph 33 #[.int .u64 (e.hash : Int)]) (hr : Blk V pr 28 #[.nilIface]) (hne : pr ∉ rtFoot b C GC mb its ∧ w0.heap.size ≤ pr) (he : EntOk H e) : Calls Tryz.prog 29 #[.pointer (some ⟨pm, 0, none⟩), .pointer (some ⟨pk, 0, none⟩), .pointer (some ⟨pv, 0, none⟩), .pointer (some ⟨ph, 0, none⟩), .pointer (some ⟨pr, 0, none⟩)] V fun y w' => y = .returned undef ∧ CloP W0 E H Kk M I b G0 w0 C GC mb gv its (PutR H Kk M a ids e) pr 28 (errV E (putC M a.ents e.key)) V w' := by
 have hbk := hS.blk.blk
 unfold RmC.cells at hbk
 have c3 := hbk.cell 3
 simp only [gl] at c3
 have xm := hm.cell 0
 have xk := hk.cell 0
 have xv := hv.cell 0
 have xh := hh.cell 0
 simp only [List.getElem?_toArray, List.getElem?_cons_zero] at xm xk xv xh
 have HS := qd hS
 have HRs := qd hr
 have HNe := qd hne
 have HE := qd he
 have hdr := (Below.refl V.heap.size V).drew
 have hcl := at_putW (hS.core.below hdr) e he
 unfold coreP at hcl
 obtain ⟨ev, hev⟩ : ∃ ev, ev = errV E (putC M a.ents e.key) := ⟨_, rfl⟩
 have hone : ev = .nilIface ∨ ∃ A, ev = .iface 262 (.pointer (some A)) := hev ▸ errV_form E _
 rw [← hev] at hcl ⊢
 have HEv := qd hone
 clear hone
 have HCl := qd hcl
 clear hcl hev hbk hS hr hne he hdr hm hk hv hh
 go_in
 refine rT (fun (w' : World) => w'.cell? ⟨pm, 0, none⟩ = some (.pointer (some ⟨b, 0, none⟩)) ∧ w'.cell? ⟨pk, 0, none⟩ = some (.int .u64 (e.key : Int)) ∧ w'.cell? ⟨pv, 0, none⟩ = some (.int .u64 (e.val : Int)) ∧ w'.cell? ⟨ph, 0, none⟩ = some (.int .u64 (e.hash : Int)) ∧ w'.cell? ⟨b, 3, none⟩ = some (.pointer (some ⟨C.cb, 0, none⟩))) [7, 8] ?_
 have hHeld := (⟨xm, xk, xv, xh, c3⟩ : _ ∧ _ ∧ _ ∧ _ ∧ _)
 refine vT 4 rfl ?_
 refine vT 5 rfl ?_
 refine vT 6 rfl ?_
 refine nT 0 rfl fun K hK => ?_
 go_simp
 refine kO hK ?_
 clear hK K
 refine vW 1 rfl ?_
 refine vW 2 rfl ?_
 refine vT 3 rfl ?_
 refine nT 7 rfl fun K hK => ?_
 go_simp
 refine HCl.out.mono ?_
 rintro y V1 ⟨rfl, a', ids', hto, hpm⟩
 obtain ⟨GC', hS1, hsub, hmod⟩ := (HS.out.below (Below.refl V.heap.size V).drew).setC hto
 have HS1 := qd hS1
 have HPm := qd hpm
 have hmod2 : Mod GC V V1 := (Mod.of_below (Below.refl V.heap.size V).drew GC).then hmod
 have HSu := qd (show ∀ q ∈ GC', q ∈ GC ∨ V.heap.size ≤ q from hsub)
 have hpl := HRs.out.lt
 have hr1 := (HRs.out.mod hmod2 (fun hg => HNe.out.1 (mem_rtFoot.2 (.inr (.inr hg)))))
 have HR1 := qd hr1
 have HMo := qd hmod2
 have HPl := qd hpl
 clear hto hpm hS1 hsub hmod hmod2 hr1 hpl HCl
 go_wp2_with fail
 refine kO hK ?_
 clear hK K
 refine nT 8 rfl fun K hK => ?_
 have r0 := HR1.out.cell 0
 simp only [List.getElem?_toArray, List.getElem?_cons_zero] at r0
 have rf := HR1.out.frozen 0
 have hn2 := HR1.out.set_ 0 (ev)
 have hm2 := (Mod.refl [pr] V1).sl 0 (ev)
 simp only [List.setIfInBounds_toArray, List.set_cons_zero] at hn2
 have hfr : ∀ q ∈ [pr], q ∉ rtFoot b C GC' mb its ∧ w0.heap.size ≤ q := fun q hq => by
  rw [List.mem_singleton.1 hq]
  refine ⟨fun hg => ?_, HNe.out.2⟩
  rcases mem_rtFoot.1 hg with k | k | k
  ·exact HNe.out.1 (mem_rtFoot.2 (.inl k))
  ·exact HNe.out.1 (mem_rtFoot.2 (.inr (.inl k)))
  ·rcases HSu.out pr k with k | k
   ·exact HNe.out.1 (mem_rtFoot.2 (.inr (.inr k)))
   ·have := HPl.out; omega
 have HF := qd (show CloP W0 E H Kk M I b G0 w0 C GC mb gv its (PutR H Kk M a ids e) pr 28 (ev) V (V1.setCell ⟨pr, 0, none⟩ (ev)) from ⟨GC', a', ids', HS1.out.mod_ hm2 hfr, HPm.out, hn2, HSu.out, (HMo.out.more (fun q hq => List.mem_cons_of_mem _ hq)).then (hm2.more (fun q hq => by rw [List.mem_singleton.1 hq]; simp))⟩)
 clear hn2 hm2 hfr
 rcases HEv.out with hv | ⟨A, hv⟩
 all_goals
  subst hv
  go_simp
  refine kO hK ?_
  clear hK K
  refine doneT (by kernel_rfl) ?_ _
  go_wp2
  go_end0
  exact ⟨rfl, HF.out⟩
theorem del_clo {W0 : World} {E : Nat → Addr} {H : Nat → Nat} {M I b : Nat} {G0 : List Nat} {w0 : World} {C : RmC} {GC : List Nat} {mb gv : Nat} {a : Pool} {ids : List Nat} {its : List It} (hS : RtS W0 E H Kk M I b G0 w0 C GC mb gv V a ids its) (hm : Blk V pm 46 #[.pointer (some ⟨b, 0, none⟩)]) (hk : Blk V pk 33 #[.int .u64 (e.key : Int)]) (hh : Blk V ph 33 #[.int .u64 (e.hash : Int)]) (hr : Blk V pr 4 #[.bool false]) (hne : pr ∉ rtFoot b C GC mb its ∧ w0.heap.size ≤ pr) (he : EntOk H e) : Calls Tryz.prog 42 #[.pointer (some ⟨pm, 0, none⟩), .pointer (some ⟨pk, 0, none⟩), .pointer (some ⟨ph, 0, none⟩), .pointer (some ⟨pr, 0, none⟩)] V fun y w' => y = .returned undef ∧ CloP W0 E H Kk M I b G0 w0 C GC mb gv its (fun a' _ => a'.ents.Perm (rest a.ents e.key)) pr 4 (.bool (look a.ents e.key).isSome) V w' := by
 have hbk := hS.blk.blk
 unfold RmC.cells at hbk
 have c3 := hbk.cell 3
 simp only [gl] at c3
 have xm := hm.cell 0
 have xk := hk.cell 0
 have xh := hh.cell 0
 simp only [List.getElem?_toArray, List.getElem?_cons_zero] at xm xk xh
 have HS := qd hS
 have HRs := qd hr
 have HNe := qd hne
 have HE := qd he
 have hdr := (Below.refl V.heap.size V).drew
 have h64 := he.h64
 have hcl := at_del (hS.core.below hdr) e.key (by rw [← he.hash]; exact h64)
 rw [← he.hash] at hcl
 unfold coreP getV at hcl
 obtain ⟨gv0, hgv0⟩ : ∃ g : Int, g = (((look a.ents e.key).getD ⟨0, 0, 0⟩).val : Int) := ⟨_, rfl⟩
 obtain ⟨iv, hiv⟩ : ∃ i, i = (look a.ents e.key).isSome := ⟨_, rfl⟩
 rw [← hgv0, ← hiv] at hcl
 rw [← hiv]
 have HCl := qd hcl
 clear hcl hgv0 hiv h64 hbk hS hr hne he hdr hm hk hh
 go_in
 refine rT (fun (w' : World) => w'.cell? ⟨pm, 0, none⟩ = some (.pointer (some ⟨b, 0, none⟩)) ∧ w'.cell? ⟨pk, 0, none⟩ = some (.int .u64 (e.key : Int)) ∧ w'.cell? ⟨ph, 0, none⟩ = some (.int .u64 (e.hash : Int)) ∧ w'.cell? ⟨b, 3, none⟩ = some (.pointer (some ⟨C.cb, 0, none⟩))) [6, 10] ?_
 have hHeld := (⟨xm, xk, xh, c3⟩ : _ ∧ _ ∧ _ ∧ _)
 refine vT 4 rfl ?_
 refine vT 5 rfl ?_
 refine nT 0 rfl fun K hK => ?_
 go_simp
 refine kO hK ?_
 clear hK K
 refine vW 1 rfl ?_
 refine vW 2 rfl ?_
 refine vT 3 rfl ?_
 refine nT 6 rfl fun K hK => ?_
 go_simp
 refine HCl.out.mono ?_
 rintro y V1 ⟨rfl, a', ids', hto, hpm⟩
 obtain ⟨GC', hS1, hsub, hmod⟩ := (HS.out.below (Below.refl V.heap.size V).drew).setC hto
 have HS1 := qd hS1
 have HPm := qd hpm
 have hmod2 : Mod GC V V1 := (Mod.of_below (Below.refl V.heap.size V).drew GC).then hmod
 have HSu := qd (show ∀ q ∈ GC', q ∈ GC ∨ V.heap.size ≤ q from hsub)
 have hpl := HRs.out.lt
 have hr1 := (HRs.out.mod hmod2 (fun hg => HNe.out.1 (mem_rtFoot.2 (.inr (.inr hg)))))
 have HR1 := qd hr1
 have HMo := qd hmod2
 have HPl := qd hpl
 clear hto hpm hS1 hsub hmod hmod2 hr1 hpl HCl
 go_wp2_with fail
 refine kO hK ?_
 clear hK K
 refine vL 7 rfl ?_
 refine vL 8 rfl ?_
 refine vL 9 rfl ?_
 refine nT 10 rfl fun K hK => ?_
 have r0 := HR1.out.cell 0
 simp only [List.getElem?_toArray, List.getElem?_cons_zero] at r0
 have rf := HR1.out.frozen 0
 have hn2 := HR1.out.set_ 0 (.bool iv)
 have hm2 := (Mod.refl [pr] V1).sl 0 (.bool iv)
 simp only [List.setIfInBounds_toArray, List.set_cons_zero] at hn2
 have hfr : ∀ q ∈ [pr], q ∉ rtFoot b C GC' mb its ∧ w0.heap.size ≤ q := fun q hq => by
  rw [List.mem_singleton.1 hq]
  refine ⟨fun hg => ?_, HNe.out.2⟩
  rcases mem_rtFoot.1 hg with k | k | k
  ·exact HNe.out.1 (mem_rtFoot.2 (.inl k))
  ·exact HNe.out.1 (mem_rtFoot.2 (.inr (.inl k)))
  ·rcases HSu.out pr k with k | k
   ·exact HNe.out.1 (mem_rtFoot.2 (.inr (.inr k)))
   ·have := HPl.out; omega
 have HF := qd (show CloP W0 E H Kk M I b G0 w0 C GC mb gv its (fun a' _ => a'.ents.Perm (rest a.ents e.key)) pr 4 (.bool iv) V (V1.setCell ⟨pr, 0, none⟩ (.bool iv)) from ⟨GC', a', ids', HS1.out.mod_ hm2 hfr, HPm.out, hn2, HSu.out, (HMo.out.more (fun q hq => List.mem_cons_of_mem _ hq)).then (hm2.more (fun q hq => by rw [List.mem_singleton.1 hq]; simp))⟩)
 clear hn2 hm2 hfr
 go_simp
 refine kO hK ?_
 clear hK K
 refine doneT (by kernel_rfl) ?_ _
 go_wp2
 go_end0
 exact ⟨rfl, HF.out⟩
end
section
section
variable {W0 : World} {E : Nat → Addr} {H : Nat → Nat} {Kk M I b : Nat} {G0 : List Nat} {w0 w w' : World} {C : RmC} {GC : List Nat} {mb gv : Nat} {a : Pool} {ids : List Nat} {its : List It}
theorem RtS.wrote (h : RtS W0 E H Kk M I b G0 w0 C GC mb gv w a ids its) (hw : Wrote w b C w') : ∃ C', RtS W0 E H Kk M I b G0 w0 C' GC mb gv w' a ids its ∧ Mod [b] w w' ∧ C'.cb = C.cb ∧ C'.ib = C.ib ∧ C'.lf ≤ C.lf := by
 obtain ⟨lf, gn, ma, ml, last, all, h1, h2, h3⟩ := hw
 exact ⟨_, h.setB h2 h3 ⟨rfl, rfl, rfl, rfl, rfl⟩, h3, rfl, rfl, h1⟩
end
theorem rt_Put {W0 : World} {E : Nat → Addr} {H : Nat → Nat} {Kk M I b : Nat} {G : List Nat} {w : World} {a : Pool} {ids : List Nat} {its : List It} {gv : Nat} {lst : Cnt} (h : RtAt W0 E H Kk M I b G w a ids its gv lst) (e : Ent) (he : EntOk H e) : Calls Tryz.prog 20 #[.pointer (some ⟨b, 0, none⟩), .int .u64 (e.key : Int), .int .u64 (e.val : Int), .int .u64 (e.hash : Int)] w fun y w' => y = .returned (errV E (putC M a.ents e.key)) ∧ ∃ a' ids' lst', RtTo W0 E H Kk M I b G w w' a' ids' its gv lst' ∧ PutR H Kk M a ids e a' ids' := by
 obtain ⟨C, GC, mb, hS, rfl, hlst⟩ := h
 obtain ⟨W, hW, hB, hBm, hBk, hBv, hBh, hBe⟩ := qX5 w 46 #[.pointer (some ⟨b, 0, none⟩)] 33 #[.int .u64 (e.key : Int)] 33 #[.int .u64 (e.val : Int)] 33 #[.int .u64 (e.hash : Int)] 28 #[.nilIface]
 have hlt := fun q hq => (hS.lts q hq).1
 have HNe := qd (show ∀ q, w.heap.size ≤ q → q ∉ rtFoot b C GC mb its from fun q hq hg => by have := hlt q hg; omega)
 have HS := qd (hS.below hB)
 have hsz := hB.size
 have HBm := qd hBm
 have HBk := qd hBk
 have HBv := qd hBv
 have HBh := qd hBh
 have HBe := qd hBe
 have hWl := hBe.lt
 have HW := qd hW
 have HE := qd he
 clear hW hB hS hlt hBm hBk hBv hBh hBe
 have hmf : ∀ (fn : Fn) (first cap : Array Value) (w : World), (Instr.makeFunc fn first cap).run Tryz.prog w = .ok (.func fn first cap) w := fun _ _ _ _ => rfl
 have hBc := (Below.refl W.heap.size W).alloc (Nat.le_refl _) (.cells #[.nilIface] 28)
 have HCt := qd (trap_Catch (S := (w.heap.size + 1 + 1 + 1 + 1) :: GC) (K := fun w1 => CloP W0 E H Kk M I b (rtFoot b C GC mb its) w C GC mb gv its (PutR H Kk M a ids e) (w.heap.size + 1 + 1 + 1 + 1) 28 (errV E (putC M a.ents e.key)) (W.alloc (.cells #[.nilIface] 28)) w1) 29 #[.pointer (some ⟨w.heap.size, 0, none⟩), .pointer (some ⟨(w.heap.size + 1), 0, none⟩), .pointer (some ⟨(w.heap.size + 1 + 1), 0, none⟩), .pointer (some ⟨(w.heap.size + 1 + 1 + 1), 0, none⟩), .pointer (some ⟨(w.heap.size + 1 + 1 + 1 + 1), 0, none⟩)] W (fun V => enters_of Tryz.func29 (by kernel_rfl) rfl _ V)
  (fun hg => by
   rcases List.mem_cons.1 hg with k | k
   ·omega
   ·exact HNe.out _ (by omega) (mem_rtFoot.2 (.inr (.inr k))))
  ((put_clo (HS.out.below hBc) (HBm.out.mod (Mod.of_below hBc []) (by simp)) (HBk.out.mod (Mod.of_below hBc []) (by simp)) (HBv.out.mod (Mod.of_below hBc []) (by simp)) (HBh.out.mod (Mod.of_below hBc []) (by simp)) (HBe.out.mod (Mod.of_below hBc []) (by simp)) ⟨HNe.out _ (by omega), by omega⟩ HE.out).mono (fun y w1 hh => ⟨hh.1, (by obtain ⟨_, _, _, _, _, _, _, q⟩ := hh.2; exact q), hh.2⟩)))
 have HBc := qd hBc
 clear hBc
 go_in
 go_upto_region 2 with fail
 rw [← HW.out]
 go_wp2_with fail
 refine HCt.out.mono ?_
 rintro y w1 ⟨rfl, hm1, GC', a', ids', hS1, hpm, hr1, hsu, hm2⟩
 have HS := qd hS1
 have HPm := qd hpm
 have HR := qd hr1
 have hx1 := (HBm.out.mod (Mod.of_below HBc.out []) (by simp)).mod hm1 (fun hg => by
  rcases List.mem_cons.1 hg with k | k
  ·omega
  ·exact HNe.out _ (Nat.le_refl _) (mem_rtFoot.2 (.inr (.inr k))))
 have HX := qd hx1
 have HNb := qd (show (w.heap.size + 1 + 1 + 1 + 1) ∉ [b] from fun hg => HNe.out _ (by omega) (mem_rtFoot.2 (.inl (List.mem_singleton.1 hg))))
 clear hm1 hS1 hpm hr1 hsu hm2 hx1 HCt HBm HBk HBv HBh HBe HBc
 cases hfu : fullB M a.ents e.key with
 | false =>
  have hpc : putC M a.ents e.key = 0 := by unfold putC; rw [hfu]; rfl
  rw [hpc] at HR
  have HP0 := qd hpc
  clear hpc
  rw [errV_zero] at HR
  have r0 := HR.out.cell 0
  simp only [List.getElem?_toArray, List.getElem?_cons_zero] at r0
  go_upto_region 8 with fail
  clear r0
  obtain ⟨cc, hcc⟩ := HS.out.core.c_
  have hbk := HS.out.blk.blk
  unfold RmC.cells at hbk
  have c3 := hbk.cell 3
  simp only [gl] at c3
  have x0 := HX.out.cell 0
  simp only [List.getElem?_toArray, List.getElem?_cons_zero] at x0
  have HLs := qd (at_Last (hcc.below (Below.refl w1.heap.size w1).drew))
  unfold cntV at HLs
  clear hbk hcc
  refine rT (fun (w' : World) => w'.cell? ⟨w.heap.size, 0, none⟩ = some (.pointer (some ⟨b, 0, none⟩)) ∧ w'.cell? ⟨b, 3, none⟩ = some (.pointer (some ⟨C.cb, 0, none⟩))) [7] ?_
  have hHeld := (⟨x0, c3⟩ : _ ∧ _)
  refine vT 0 rfl ?_
  refine nT 1 rfl fun K hK => ?_
  go_simp
  refine kO hK ?_
  clear hK K
  refine vW 2 rfl ?_
  refine vW 3 rfl ?_
  refine nT 4 rfl fun K hK => ?_
  go_simp
  refine kO hK ?_
  clear hK K
  refine nT 5 rfl fun K hK => ?_
  go_simp
  refine (core_Meter _ _).mono ?_
  rintro y V1 ⟨rfl, rfl⟩
  go_wp2_with fail
  have hHeld := (⟨x0, c3⟩ : _ ∧ _)
  refine kO hK ?_
  clear hK K
  refine nT 6 rfl fun K hK => ?_
  go_simp
  refine (HLs.out).mono ?_
  rintro y V2 ⟨rfl, hb⟩
  replace hb : Below w1.heap.size w1 V2 := below_nx hb (Below.refl _ _).drew
  replace HS := qd (HS.out.below hb)
  replace x0 := cell_in hb x0
  replace c3 := cell_in hb c3
  clear hb HLs
  go_wp2_with fail
  have hHeld := (⟨x0, c3⟩ : _ ∧ _)
  refine kO hK ?_
  clear hK K
  refine nT 7 rfl fun K hK => ?_
  go_simp
  have HWr := qd (show Calls Tryz.prog 34 #[.pointer (some ⟨b, 0, none⟩), .agg #[.int .i64 cc.p, .int .i64 cc.v, .int .i64 cc.u]] V2 _ from rm_wrote HS.out.blk HS.out.kk cc)
  refine (HWr.out).mono ?_
  rintro y V3 ⟨rfl, hwr⟩
  obtain ⟨C3, hS3, q3, hcb3, hib3, hlf3⟩ := HS.out.wrote hwr
  have HS3 := qd hS3
  clear hS3 hwr q3 hcb3 hib3 hlf3 HWr HS x0 c3
  go_wp2_with fail
  refine kO hK ?_
  clear hK K
  refine doneT (by kernel_rfl) ?_ _
  go_wp2
  go_ret
  exact ⟨by rw [HP0.out]; rfl, a', ids', _, HS3.out.to, HPm.out⟩
 | true =>
  have hpc : putC M a.ents e.key = 2 := by unfold putC; rw [hfu]; rfl
  rw [hpc] at HR
  have HP0 := qd hpc
  clear hpc
  rw [errV_pos E (by omega : 1 ≤ 2)] at HR
  have r0 := HR.out.cell 0
  simp only [List.getElem?_toArray, List.getElem?_cons_zero] at r0
  go_upto_region 6 with fail
  clear r0
  obtain ⟨cc, hcc⟩ := HS.out.core.c_
  have hbk := HS.out.blk.blk
  unfold RmC.cells at hbk
  have c3 := hbk.cell 3
  simp only [gl] at c3
  have x0 := HX.out.cell 0
  simp only [List.getElem?_toArray, List.getElem?_cons_zero] at x0
  have HLs := qd (at_Last (hcc.below (Below.refl w1.heap.size w1).drew))
  unfold cntV at HLs
  clear hbk hcc
  refine rT (fun (w' : World) => w'.cell? ⟨w.heap.size, 0, none⟩ = some (.pointer (some ⟨b, 0, none⟩)) ∧ w'.cell? ⟨b, 3, none⟩ = some (.pointer (some ⟨C.cb, 0, none⟩))) [7] ?_
  have hHeld := (⟨x0, c3⟩ : _ ∧ _)
  refine vT 0 rfl ?_
  refine nT 1 rfl fun K hK => ?_
  go_simp
  refine kO hK ?_
  clear hK K
  refine vW 2 rfl ?_
  refine vW 3 rfl ?_
  refine nT 4 rfl fun K hK => ?_
  go_simp
  refine kO hK ?_
  clear hK K
  refine nT 5 rfl fun K hK => ?_
  go_simp
  refine (core_Meter _ _).mono ?_
  rintro y V1 ⟨rfl, rfl⟩
  go_wp2_with fail
  have hHeld := (⟨x0, c3⟩ : _ ∧ _)
  refine kO hK ?_
  clear hK K
  refine nT 6 rfl fun K hK => ?_
  go_simp
  refine (HLs.out).mono ?_
  rintro y V2 ⟨rfl, hb⟩
  replace hb : Below w1.heap.size w1 V2 := below_nx hb (Below.refl _ _).drew
  replace HS := qd (HS.out.below hb)
  replace HR := qB hb HR
  replace x0 := cell_in hb x0
  replace c3 := cell_in hb c3
  clear hb HLs
  go_wp2_with fail
  have hHeld := (⟨x0, c3⟩ : _ ∧ _)
  refine kO hK ?_
  clear hK K
  refine nT 7 rfl fun K hK => ?_
  go_simp
  have HWr := qd (show Calls Tryz.prog 31 #[.pointer (some ⟨b, 0, none⟩), .agg #[.int .i64 cc.p, .int .i64 cc.v, .int .i64 cc.u]] V2 _ from rm_count HS.out.blk cc)
  refine (HWr.out).mono ?_
  rintro y V3 ⟨rfl, hwr, q3⟩
  have HS3 := qd (HS.out.setB hwr q3 ⟨rfl, rfl, rfl, rfl, rfl⟩)
  replace HR := qd (HR.out.mod q3 HNb.out)
  clear hwr q3 HWr HS x0 c3
  go_wp2_with fail
  refine kO hK ?_
  clear hK K
  refine doneT (by kernel_rfl) ?_ _
  have r0 := HR.out.cell 0
  simp only [List.getElem?_toArray, List.getElem?_cons_zero] at r0
  go_wp2
  go_ret
  exact ⟨by rw [HP0.out, errV_pos E (by omega : 1 ≤ 2)]; rfl, a', ids', _, HS3.out.to, HPm.out⟩
theorem rt_Delete {W0 : World} {E : Nat → Addr} {H : Nat → Nat} {Kk M I b : Nat} {G : List Nat} {w : World} {a : Pool} {ids : List Nat} {its : List It} {gv : Nat} {lst : Cnt} (h : RtAt W0 E H Kk M I b G w a ids its gv lst) (e : Ent) (he : EntOk H e) : Calls Tryz.prog 27 #[.pointer (some ⟨b, 0, none⟩), .int .u64 (e.key : Int), .int .u64 (e.hash : Int)] w fun y w' => y = .returned (.bool (look a.ents e.key).isSome) ∧ ∃ a' ids' lst', RtTo W0 E H Kk M I b G w w' a' ids' its gv lst' ∧ a'.ents.Perm (rest a.ents e.key) := by
 obtain ⟨iv, hiv⟩ : ∃ i, i = (look a.ents e.key).isSome := ⟨_, rfl⟩
 rw [← hiv]
 have HIv := qd hiv
 clear hiv
 obtain ⟨C, GC, mb, hS, rfl, hlst⟩ := h
 obtain ⟨W, hW, hB, hBm, hBk, hBh, hBe⟩ := qX4 w 46 #[.pointer (some ⟨b, 0, none⟩)] 33 #[.int .u64 (e.key : Int)] 33 #[.int .u64 (e.hash : Int)] 4 #[.bool false]
 have hlt := fun q hq => (hS.lts q hq).1
 have HNe := qd (show ∀ q, w.heap.size ≤ q → q ∉ rtFoot b C GC mb its from fun q hq hg => by have := hlt q hg; omega)
 have HS := qd (hS.below hB)
 have hsz := hB.size
 have HBm := qd hBm
 have HBk := qd hBk
 have HBh := qd hBh
 have HBe := qd hBe
 have hWl := hBe.lt
 have HW := qd hW
 have HE := qd he
 clear hW hB hS hlt hBm hBk hBh hBe
 have hmf : ∀ (fn : Fn) (first cap : Array Value) (w : World), (Instr.makeFunc fn first cap).run Tryz.prog w = .ok (.func fn first cap) w := fun _ _ _ _ => rfl
 have hBc := (Below.refl W.heap.size W).alloc (Nat.le_refl _) (.cells #[.nilIface] 28)
 have HCt := qd (trap_Catch (S := (w.heap.size + 1 + 1 + 1) :: GC) (K := fun w1 => CloP W0 E H Kk M I b (rtFoot b C GC mb its) w C GC mb gv its (fun a' _ => a'.ents.Perm (rest a.ents e.key)) (w.heap.size + 1 + 1 + 1) 4 (.bool (look a.ents e.key).isSome) (W.alloc (.cells #[.nilIface] 28)) w1) 42 #[.pointer (some ⟨w.heap.size, 0, none⟩), .pointer (some ⟨(w.heap.size + 1), 0, none⟩), .pointer (some ⟨(w.heap.size + 1 + 1), 0, none⟩), .pointer (some ⟨(w.heap.size + 1 + 1 + 1), 0, none⟩)] W (fun V => enters_of Tryz.func42 (by kernel_rfl) rfl _ V)
  (fun hg => by
   rcases List.mem_cons.1 hg with k | k
   ·omega
   ·exact HNe.out _ (by omega) (mem_rtFoot.2 (.inr (.inr k))))
  ((del_clo (HS.out.below hBc) (HBm.out.mod (Mod.of_below hBc []) (by simp)) (HBk.out.mod (Mod.of_below hBc []) (by simp)) (HBh.out.mod (Mod.of_below hBc []) (by simp)) (HBe.out.mod (Mod.of_below hBc []) (by simp)) ⟨HNe.out _ (by omega), by omega⟩ HE.out).mono (fun y w1 hh => ⟨hh.1, (by obtain ⟨_, _, _, _, _, _, _, q⟩ := hh.2; exact q), hh.2⟩)))
 have HBc := qd hBc
 clear hBc
 go_in
 go_upto_region 2 with fail
 rw [← HW.out]
 go_wp2_with fail
 refine HCt.out.mono ?_
 rintro y w1 ⟨rfl, hm1, GC', a', ids', hS1, hpm, hr1, hsu, hm2⟩
 have HS := qd hS1
 have HPm := qd hpm
 have HR := qd hr1
 have hx1 := (HBm.out.mod (Mod.of_below HBc.out []) (by simp)).mod hm1 (fun hg => by
  rcases List.mem_cons.1 hg with k | k
  ·omega
  ·exact HNe.out _ (Nat.le_refl _) (mem_rtFoot.2 (.inr (.inr k))))
 have HX := qd hx1
 have HNb := qd (show (w.heap.size + 1 + 1 + 1) ∉ [b] from fun hg => HNe.out _ (by omega) (mem_rtFoot.2 (.inl (List.mem_singleton.1 hg))))
 clear hm1 hS1 hpm hr1 hsu hm2 hx1 HCt HBm HBk HBh HBe HBc
 rw [← HIv.out] at HR
 go_upto_region 3 with fail
 obtain ⟨cc, hcc⟩ := HS.out.core.c_
 have hbk := HS.out.blk.blk
 unfold RmC.cells at hbk
 have c3 := hbk.cell 3
 simp only [gl] at c3
 have x0 := HX.out.cell 0
 simp only [List.getElem?_toArray, List.getElem?_cons_zero] at x0
 have HLs := qd (at_Last (hcc.below (Below.refl w1.heap.size w1).drew))
 unfold cntV at HLs
 clear hbk hcc
 refine rT (fun (w' : World) => w'.cell? ⟨w.heap.size, 0, none⟩ = some (.pointer (some ⟨b, 0, none⟩)) ∧ w'.cell? ⟨b, 3, none⟩ = some (.pointer (some ⟨C.cb, 0, none⟩))) [7] ?_
 have hHeld := (⟨x0, c3⟩ : _ ∧ _)
 refine vT 0 rfl ?_
 refine nT 1 rfl fun K hK => ?_
 go_simp
 refine kO hK ?_
 clear hK K
 refine vW 2 rfl ?_
 refine vW 3 rfl ?_
 refine nT 4 rfl fun K hK => ?_
 go_simp
 refine kO hK ?_
 clear hK K
 refine nT 5 rfl fun K hK => ?_
 go_simp
 refine (core_Meter _ _).mono ?_
 rintro y V1 ⟨rfl, rfl⟩
 go_wp2_with fail
 have hHeld := (⟨x0, c3⟩ : _ ∧ _)
 refine kO hK ?_
 clear hK K
 refine nT 6 rfl fun K hK => ?_
 go_simp
 refine (HLs.out).mono ?_
 rintro y V2 ⟨rfl, hb⟩
 replace hb : Below w1.heap.size w1 V2 := below_nx hb (Below.refl _ _).drew
 replace HS := qd (HS.out.below hb)
 replace HR := qB hb HR
 replace x0 := cell_in hb x0
 replace c3 := cell_in hb c3
 clear hb HLs
 go_wp2_with fail
 have hHeld := (⟨x0, c3⟩ : _ ∧ _)
 refine kO hK ?_
 clear hK K
 refine nT 7 rfl fun K hK => ?_
 go_simp
 have HWr := qd (show Calls Tryz.prog 34 #[.pointer (some ⟨b, 0, none⟩), .agg #[.int .i64 cc.p, .int .i64 cc.v, .int .i64 cc.u]] V2 _ from rm_wrote HS.out.blk HS.out.kk cc)
 refine (HWr.out).mono ?_
 rintro y V3 ⟨rfl, hwr⟩
 obtain ⟨C3, hS3, q3, hcb3, hib3, hlf3⟩ := HS.out.wrote hwr
 have HS3 := qd hS3
 replace HR := qd (HR.out.mod q3 HNb.out)
 clear hS3 hwr q3 hcb3 hib3 hlf3 HWr HS x0 c3
 go_wp2_with fail
 refine kO hK ?_
 clear hK K
 refine doneT (by kernel_rfl) ?_ _
 have r0 := HR.out.cell 0
 simp only [List.getElem?_toArray, List.getElem?_cons_zero] at r0
 go_wp2
 go_ret
 exact ⟨rfl, a', ids', _, HS3.out.to, HPm.out⟩
end
section
variable {ib mb : Nat} {its : List It} {H : Nat → Nat} {a : Pool}
end
end Go.Proofs.YtfcecmcnmgagnaaGreatDoor
