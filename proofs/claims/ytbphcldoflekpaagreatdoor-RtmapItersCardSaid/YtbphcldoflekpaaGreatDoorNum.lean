/- A map's Close and Clear by their contracts. No statement of the claim. -/
import Derived.Test.YtbphcldoflekpaaGreatDoorRmJ
import Derived.Test.YtbphcldoflekpaaGreatDoorSqT
import Derived.Test.YtbphcldoflekpaaGreatDoorLaneP
import Derived.Test.YtbphcldoflekpaaGreatDoorRefG
import Derived.Test.YtbphcldoflekpaaGreatDoorCoDA
import Derived.Test.YtbphcldoflekpaaGreatDoorLaw25a
import Derived.Test.YtbphcldoflekpaaGreatDoorCoBL
import Derived.Test.YtbphcldoflekpaaGreatDoorErrs
namespace Go.Proofs.YtbphcldoflekpaaGreatDoor
set_option maxRecDepth 100000
set_option maxHeartbeats 4000000
open Go.RowKit dA
section
variable {I Kk M b gv ib j mb : Nat} {its : List It} {H : Nat → Nat} {a : Pool} {W0 w : World} {E : Nat → Addr} {G ids : List Nat} {eH : bC}
theorem MO : ∀ q ∈ bB ib mb (its.eraseIdx j), q ∈ bB ib mb its := fun q hq => by
 unfold bB at hq ⊢
 simp only [List.mem_cons] at hq ⊢
 rcases hq with h | h | h
 ·exact .inl h
 ·exact .inr (.inl h)
 ·exact .inr (.inr (((List.eraseIdx_sublist its j).map It.cb).subset h))
theorem MQ : bB ib mb (its.map It.ended) = bB ib mb its := by
 unfold bB
 rw [List.map_map]; rfl
theorem MR (h : ∀ (i : Nat) (N : Nd), a.Ns[i]? = some N → dL H N) (h32 : a.Ns.length ≤ 32) : a.groups ≤ 6144 := by
 have hs : ∀ l : List Nd, (∀ N ∈ l, N.groups ≤ 192) → (l.map Nd.groups).sum ≤ 192 * l.length := fun l => by
  induction l with
  | nil => simp
  | cons x l ih =>
   intro hx
   have h1 := hx x (by simp)
   have h2 := ih fun N hN => hx N (by simp [hN])
   simp only [List.map_cons, List.sum_cons, List.length_cons]
   omega
 have := hs a.Ns fun N hN => by
  obtain ⟨i, hi⟩ := List.getElem?_of_mem hN
  exact Ja (h i N hi)
 unfold Pool.groups
 omega
theorem fG.newC {K : Nat} {G0 : List Nat} {w0 : World} {C C' : eP} {GC eU : List Nat} {w' : World} {a' : Pool} {aI : List Nat} (h : fG W0 E H K M I b G0 w0 C GC mb gv w a ids its) (hc : fB W0 E H K M C'.cb eU w' a' aI) (hB : mE w' b C') (hk : C'.k = C.k ∧ C'.m = C.m ∧ C'.i = C.i ∧ C'.ib = C.ib) (hm : Mod [b] w w') (hn : ∀ q ∈ eU, q ≠ b ∧ q ∉ bB C.ib mb its ∧ w0.heap.size ≤ q) : fG W0 E H K M I b G0 w0 C' eU mb gv w' a' aI its := by
 obtain ⟨k1, k2, k3, k5⟩ := hk
 refine ⟨hB, by rw [k1, k2, k3]; exact h.cfg, hc, by rw [k5]; exact h.kR.mod hm (fun q hq hs => h.apart.2.1 (List.mem_singleton.1 hs ▸ hq)), by rw [k5]; exact h.b0, by rw [k5]; exact ⟨fun hg => (hn b hg).1 rfl, h.apart.2.1, fun q hq hg => (hn q hg).2.1 hq⟩, fun q hq => ?_, h.mod.within hm (fun q hq => by rw [List.mem_singleton.1 hq]; exact h.sub b (aD.2 (.inl rfl))), h.oq⟩
 rcases aD.1 hq with k | k | k
 ·exact h.sub q (aD.2 (.inl k))
 ·rw [k5] at k; exact h.sub q (aD.2 (.inr (.inl k)))
 ·exact .inr (hn q k).2.2
theorem WG {id cb : Nat} {c : dW} (h : je W0 E H Kk M I b G w a ids its gv eH) (hj : its[j]? = some ⟨id, cb, c⟩) : Calls Tryz.prog 17 #[pQ b, nI id] w fun y w' => y = .returned .nilIface ∧ oF W0 E H Kk M I b G w w' a ids (its.eraseIdx j) gv eH := by
 obtain ⟨C, GC, mb, hS, rfl, ng⟩ := h
 have hbk := hS.blk.blk
 unfold eP.cells at hbk
 have c16 := hbk.cell 16
 simp only [gl] at c16
 have HO := qd (NJ hS.kR hj)
 have HS := qd hS
 have HQ := qd ng
 clear hbk hS ng hj
 go_in
 go_wp2_with fail
 refine HO.out.mono ?_
 rintro y w1 ⟨rfl, hi, hm⟩
 have hs := HS.out.QI hi hm (fun q hq => .inl (by unfold bB; simp at hq ⊢; exact .inr (.inl hq))) (fun q hq => .inl (MO q hq))
 have HE := qd (show oF W0 E H Kk M I b (dR b C GC mb its) w w1 a ids (its.eraseIdx j) gv eH from HQ.out ▸ hs.to)
 clear hs hi hm HO
 go_wp2
 go_ret
 exact ⟨rfl, HE.out⟩
theorem JW {id : Int} (h : je W0 E H Kk M I b G w a ids its gv eH) (hn : ∀ i ∈ its, (i.id : Int) ≠ id) (h6 : fJ E W0 6) : Calls Tryz.prog 17 #[pQ b, .int .i64 id] w fun y w' => y = .returned (.iface 286 (.pointer (some (E 6)))) ∧ Below w.heap.size w w' := by
 obtain ⟨C, GC, mb, hS, rfl, ng⟩ := h
 have hbk := hS.blk.blk
 unfold eP.cells at hbk
 have c16 := hbk.cell 16
 simp only [gl] at c16
 have h6w : fJ E w 6 := h6.of_block hS.core.facts.2.2.2.2.2.2.2.2.2.2.2.below.block
 have HO := qd (Er hS.kR hn h6w)
 clear hbk hS ng hn h6 h6w
 go_in
 go_wp2_with fail
 refine HO.out.mono ?_
 rintro y w1 ⟨rfl, hb⟩
 go_wp2
 go_ret
 exact ⟨rfl, hb⟩
theorem WH (h : je W0 E H Kk M I b G w a ids its gv eH) (hM : 1 ≤ M) (hI : 1 ≤ I) : Calls Tryz.prog 12 #[pQ b] w fun y w' => y = .returned undef ∧ ∃ fC, oF W0 E H Kk M I b G w w' jB [] (its.map It.ended) gv fC := by
 obtain ⟨C, GC, mb, hS, rfl, ng⟩ := h
 have hbk := hS.blk.blk
 unfold eP.cells at hbk
 have c16 := hbk.cell 16
 simp only [gl] at c16
 have jg := qd hS
 obtain ⟨g1, g2, g3⟩ := hS.cfg
 have HKM := qd hS.core.facts
 have hcf : nk (Kk : Int) (M : Int) (I : Int) = true := by
  have h1 := hS.core.facts.2.2.2.2.2.2.2.1
  have h2 := hS.core.facts.2.2.2.2.2.2.2.2.1
  have h3 := hS.kR.few.1
  unfold nk xw
  simp
  omega
 have hnb := Ms H hS.core.facts.2.2.2.2.2.2.2.2.2.2.2 (Kk : Int) (M : Int) (I : Int) hcf Kk M I ⟨hS.core.facts.2.2.2.2.2.2.2.2.1, ⟨hM, hS.core.facts.2.2.2.2.2.2.2.1⟩, rfl, rfl, rfl⟩
 unfold iB aU at hnb
 have iJ := qd hnb
 obtain ⟨c0, c1, c2⟩ := hbk.c3
 rw [g1] at c0
 rw [g2] at c1
 rw [g3] at c2
 clear hnb hbk hS hcf g1 g2 g3 c16
 go_in
 go_wp2_with fail
 refine iJ.out.mono ?_
 rintro y w1 ⟨cb, rfl, hnew⟩
 obtain ⟨GN, hC, hsu, hmo⟩ := Tm hnew
 have hb1 := hmo.vw
 have hS1 := jg.out.below hb1
 have HC := qd hC
 have wH := qd (show ∀ q ∈ GN, w.heap.size ≤ q from fun q hq => (hsu q hq).elim (fun k => by cases k) (fun k => k))
 have HGl := qd (show ∀ q ∈ GN, q < w1.heap.size from fun q hq => (hC.facts.2.2.2.2.2.2.2.2.2.2.1 q hq).1)
 have HSa := qd hS1
 have hbk := hS1.blk.blk
 unfold eP.cells at hbk
 have c3 := hbk.cell 3
 simp only [gl] at c3
 have hdr := (Below.refl w1.heap.size w1).drew
 have HGr := qd (Tk (hS1.core.below hdr))
 have hSd := hS1.below hdr
 have HWa := qd (Wm hSd.blk a.groups (by have := MR (H := H) HKM.out.2.2.2.2.2.1 HKM.out.2.2.1; omega))
 have Xj := qd hSd
 have Dq := qd hdr
 clear hnew hC hsu hmo hb1 iJ c0 c1 c2 hbk hS1 hdr hSd
 unfold aU at HGr
 go_upto_region 2 with fail
 refine rT (fun (w' : World) => w'.cell? ⟨b, 3, none⟩ = some (pQ C.cb) ∧ True) [8] ?_
 have hHeld := (⟨c3, trivial⟩ : _ ∧ _)
 refine vW 0 rfl ?_
 refine vW 1 rfl ?_
 refine vW 2 rfl ?_
 refine vW 3 rfl ?_
 refine vW 4 rfl ?_
 refine vW 5 rfl ?_
 refine vT 6 rfl ?_
 refine nT 7 rfl fun K hK => ?_
 go_simp
 refine HGr.out.mono ?_
 rintro y w2 ⟨rfl, rfl⟩
 have hHeld := (⟨c3, trivial⟩ : _ ∧ _)
 refine kO hK ?_
 clear hK K
 refine nT 8 rfl fun K hK => ?_
 go_simp
 refine HWa.out.mono ?_
 rintro y w3 ⟨d, hd, rfl, hB3, fE⟩
 refine kO hK ?_
 clear hK K
 refine aT (by kernel_rfl) ?_ _
 have Je := Xj.out.Ep hB3 fE ⟨rfl, rfl, rfl, rfl, rfl⟩
 have hbw := jg.out.blk.lt
 have hbG : b ∉ GN := fun hg => by have := wH.out b hg; omega
 have lW := qd ((HC.out.below Dq.out).mod fE (fun q hq => by rw [List.mem_singleton.1 hq]; exact ⟨hbG, jg.out.b0.1⟩))
 have jF := qd Je
 have hbk := hB3.blk
 unfold eP.cells at hbk
 have c3 := hbk.cell 3
 simp only [gl] at c3
 have f3 := hbk.frozen 3
 have hnew := hbk.ak 3 (pQ cb)
 have hm := (Mod.refl [b] w3).sl 3 (pQ cb)
 simp only [pt] at hnew
 have iJ := qd (show mE _ b { C with lf := C.lf + d, cb := cb } from ⟨hnew, hB3.lf, hB3.gn⟩)
 have I9 := qd hm
 have HBG := qd hbG
 clear Je hbw hbG hbk hnew hm hB3 fE hd HGr HWa
 go_upto_region 4 with fail
 refine cO (F := fun v => mE v b { C with lf := C.lf + d, cb := cb } ∧ Mod [b] w3 v) ⟨iJ.out, I9.out⟩ ?_
 clear iJ I9 c3 f3
 rintro w4 ⟨hB4, iO⟩
 have Ab := jF.out.newC (C' := { C with lf := C.lf + d, cb := cb }) (lW.out.mod iO (fun q hq => by rw [List.mem_singleton.1 hq]; exact ⟨HBG.out, jg.out.b0.1⟩)) hB4 ⟨rfl, rfl, rfl, rfl⟩ iO (fun q hq => ⟨fun e => HBG.out (e ▸ hq), fun hh => by
  have := wH.out q hq
  have := jg.out.kR.iF q hh
  omega, wH.out q hq⟩)
 have bD := qd (MN Ab.kR)
 have Sg := qd Ab
 have hbk := hB4.blk
 unfold eP.cells at hbk
 have c16 := hbk.cell 16
 simp only [gl] at c16
 clear Ab hbk hB4 iO jF lW
 go_wp2_with fail
 refine bD.out.mono ?_
 rintro y w5 ⟨rfl, hit, gZ⟩
 have hS5 := Sg.out.QI hit gZ (fun q hq => .inl (by unfold bB; simp only [List.mem_cons]; exact .inr (.inr hq))) (fun q hq => .inl (by rw [MQ] at hq; exact hq))
 have hwr := Eo hS5.blk (by have := HKM.out.2.2.2.2.2.2.2.2.1; have h1 := jg.out.cfg.1; show 1 ≤ C.k ∧ C.k ≤ 64; rw [h1]; omega) ⟨0, 0, 0⟩
 unfold lI at hwr
 have jO := qd hwr
 have KI := qd hS5
 clear hit gZ hS5 hwr bD c16
 go_wp2_with fail
 refine jO.out.mono ?_
 rintro y w6 ⟨rfl, lf, gn, ma, ml, last, all, hle, wD, jW⟩
 have MS := KI.out.Ep wD jW ⟨rfl, rfl, rfl, rfl, rfl⟩
 have HE := qd MS.to
 clear MS wD jW hle jO
 go_wp2
 go_end0
 exact ⟨rfl, _, HE.out⟩
end
section
def tA (T : List Bool) : Array Value := (T.map Value.bool).toArray
theorem y5 {T : List Bool} {i : Nat} {x : Bool} (h : T[i]? = some x) : (tA T)[i]? = some (.bool x) := by
 unfold tA
 rw [List.getElem?_toArray, List.getElem?_map, h]; rfl
theorem TQ (T : List Bool) (i : Nat) (x : Bool) : (tA T).setIfInBounds i (.bool x) = tA (T.set i x) := by
 unfold tA
 rw [List.setIfInBounds_toArray, List.map_set]
theorem QN : (Tryz.prog.info? 4).map (fun i => (i.zero, i.size, i.bytes)) = some (some (.bool false), 1, 1) := by kernel_rfl
theorem QO (n : Nat) (hn : n ≤ 65536) (W : World) : (Instr.makeSlice 44 (nI n) (nI n)).run Tryz.prog W = .ok (.slice (some ⟨W.heap.size, 0, none⟩) n n) (W.alloc (.cells (tA (List.replicate n false)) 4)) := by
 obtain ⟨i, hi, hz0, hz1, hz2⟩ := info_parts QN
 have := run_makeSlice (P := Tryz.prog) (w := W) 44 4 i (.bool false) Tryz.underlying44 hi hz0 .i64 .i64 (n : Int) (n : Int) (by omega) (Int.le_refl _) (by rw [hz1]; omega) (by rw [hz2]; omega) (by omega)
 rw [this, hz1, Int.toNat_natCast]
 have e : madeCells (Value.bool false).cells (n * 1) = tA (List.replicate n false) := by
  rw [uM (z := (Value.bool false).cells) (k := 1) (v := .bool false) rfl (by omega), Nat.mul_one]
  unfold tA
  rw [List.map_replicate]
 rw [e]
structure ni (W0 : World) (E : Nat → Addr) (H : Nat → Nat) (Kk M I b yb g1 g2 : Nat) (pc : Array Value) (w : World) (G : List Nat) (a : Pool) (ids : List Nat) (its : List It) (gv : Nat) (eH : bC) (T1 T2 : List Bool) : Prop where
 rt : je W0 E H Kk M I b G w a ids its gv eH
 far : yb ∉ G ∧ g1 ∉ G ∧ g2 ∉ G ∧ ∀ q ∈ G, W0.heap.size ≤ q
 ap : g1 ≠ g2 ∧ g1 ≠ yb ∧ g2 ≠ yb ∧ W0.heap.size ≤ g1 ∧ W0.heap.size ≤ g2 ∧ W0.heap.size ≤ yb
 box : aj w yb 26 pc
 b1 : aj w g1 4 (tA T1)
 b2 : aj w g2 4 (tA T2)
 xK : Below W0.heap.size W0 w
section
variable {W0 : World} {E : Nat → Addr} {H : Nat → Nat} {Kk M I b yb g1 g2 : Nat} {pc : Array Value} {w w' : World} {G : List Nat} {a a' : Pool} {ids aI : List Nat} {its mP : List It} {gv Ak : Nat} {eH fC : bC} {T1 T2 : List Bool}
theorem ni.below (h : ni W0 E H Kk M I b yb g1 g2 pc w G a ids its gv eH T1 T2) (hb : Below w.heap.size w w') : ni W0 E H Kk M I b yb g1 g2 pc w' G a ids its gv eH T1 T2 :=
 ⟨h.rt.below hb, h.far, h.ap, h.box.mod (Mod.of_below hb []) (by simp), h.b1.mod (Mod.of_below hb []) (by simp), h.b2.mod (Mod.of_below hb []) (by simp), iZ h.xK hb⟩
theorem ni.to (h : ni W0 E H Kk M I b yb g1 g2 pc w G a ids its gv eH T1 T2) (ht : oF W0 E H Kk M I b G w w' a' aI mP Ak fC) : ∃ G', ni W0 E H Kk M I b yb g1 g2 pc w' G' a' aI mP Ak fC T1 T2 := by
 obtain ⟨G', hA, hs, hm⟩ := ht
 obtain ⟨f1, f2, f3, f4⟩ := h.far
 have l1 := h.box.lt
 have l2 := h.b1.lt
 have l3 := h.b2.lt
 have l4 := h.xK.size
 exact ⟨G', hA, ⟨fun hg => (hs _ hg).elim f1 (fun k => by omega), fun hg => (hs _ hg).elim f2 (fun k => by omega), fun hg => (hs _ hg).elim f3 (fun k => by omega), fun q hq => (hs q hq).elim (f4 q) (fun k => by omega)⟩, h.ap, h.box.mod hm f1, h.b1.mod hm f2, h.b2.mod hm f3, h.xK.trans (hm.below f4 l4)⟩
theorem ni.set1 (h : ni W0 E H Kk M I b yb g1 g2 pc w G a ids its gv eH T1 T2) (k : Nat) (x : Bool) : ni W0 E H Kk M I b yb g1 g2 pc (w.setCell ⟨g1, k, none⟩ (.bool x)) G a ids its gv eH (T1.set k x) T2 := by
 have hm := (Mod.refl [g1] w).sl k (.bool x)
 obtain ⟨a1, a2, a3, a4, a5, a6⟩ := h.ap
 refine ⟨h.rt.mod hm (fun q hq => by rw [List.mem_singleton.1 hq]; exact ⟨h.far.2.1, a4⟩), h.far, h.ap, h.box.mod hm (by simp; omega), by rw [← TQ]; exact h.b1.ak k _, h.b2.mod hm (by simp; omega), h.xK.trans (hm.below (fun p hp => by rw [List.mem_singleton.1 hp]; exact a4) h.xK.size)⟩
theorem ni.set2 (h : ni W0 E H Kk M I b yb g1 g2 pc w G a ids its gv eH T1 T2) (k : Nat) (x : Bool) : ni W0 E H Kk M I b yb g1 g2 pc (w.setCell ⟨g2, k, none⟩ (.bool x)) G a ids its gv eH T1 (T2.set k x) := by
 have hm := (Mod.refl [g2] w).sl k (.bool x)
 obtain ⟨a1, a2, a3, a4, a5, a6⟩ := h.ap
 refine ⟨h.rt.mod hm (fun q hq => by rw [List.mem_singleton.1 hq]; exact ⟨h.far.2.2.1, a5⟩), h.far, h.ap, h.box.mod hm (by simp; omega), h.b1.mod hm (by simp; omega), by rw [← TQ]; exact h.b2.ak k _, h.xK.trans (hm.below (fun p hp => by rw [List.mem_singleton.1 hp]; exact a5) h.xK.size)⟩
end
end
section
variable {E : Nat → Addr} {w : World}
theorem MU (E : Nat → Addr) (k : Nat) (h : k < 16) : (oV E)[k]? = some (.iface 286 (.pointer (some (E (k + 1))))) := by
 unfold oV
 rw [List.getElem?_map, List.getElem?_range h]
 rfl
theorem YZ (h : eZ E w) (j : Nat) (h1 : 1 ≤ j) (h2 : j ≤ 16) :
  Calls Tryz.prog 18 #[.iface 286 (.pointer (some (E j)))] w fun e w' => e = .returned (.int .i64 j) ∧ Below w.heap.size w w' := by
 have hS := h.alloc (.cells (oV E).toArray 31)
 have hcells := aj.new w 31 (oV E).toArray
 have hB : Below w.heap.size w (w.alloc (.cells (oV E).toArray 31)) := (Below.refl _ _).alloc (Nat.le_refl _) _
 go_in
 go_wp2_with (go_at_call 46; refine (Yq h).mono ?_; rintro e w1 ⟨rfl, rfl⟩)
 obtain ⟨W, hW⟩ : ∃ W, W = w.alloc (.cells (oV E).toArray 31) := ⟨_, rfl⟩
 rw [← hW] at hS hcells hB ⊢
 clear hW
 go_loop [3, 4, 9] (fun _ _ i => ∃ k : Nat, k < j ∧ i = .int .i64 k) (fun _ _ i => 16 - (intOf i).toNat)
 case atStart => exact ⟨0, by omega, rfl⟩
 case round =>
  obtain ⟨k, hk, rfl⟩ := hrel
  have hc : W.cell? ⟨w.heap.size, k, none⟩ = some (.iface 286 (.pointer (some (E (k + 1))))) := by rw [hcells.cell k, List.getElem?_toArray]; exact MU E k (by omega)
  have hi := Yp hS j (k + 1) h1 h2 (by omega) (by omega)
  by_cases hjk : j = k + 1
  ·have hb : (j == k + 1) = true := by simp [hjk]
   rw [hb] at hi
   have Hjk := qd hjk
   clear hjk hb
   go_wp2_with (go_at_call 38; refine hi.mono ?_; rintro e w1 ⟨rfl, rfl⟩)
   go_ret
   exact ⟨gF (by have := Hjk.out; omega), hB⟩
  ·have hb : (j == k + 1) = false := by simp [hjk]
   rw [hb] at hi
   clear hb
   go_wp2_with (go_at_call 38; refine hi.mono ?_; rintro e w1 ⟨rfl, rfl⟩)
   go_round
   case rel => exact ⟨k + 1, by omega, by go_num⟩
   case measure => simp [intOf]; omega
end
end Go.Proofs.YtbphcldoflekpaaGreatDoor
