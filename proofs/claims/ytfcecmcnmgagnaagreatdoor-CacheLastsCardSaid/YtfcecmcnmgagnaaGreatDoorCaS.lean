/- A new map; a map's Get. No statement of the claim. -/
import Derived.Test.YtfcecmcnmgagnaaGreatDoorRmK
import Derived.Test.YtfcecmcnmgagnaaGreatDoorSqM
import Derived.Test.YtfcecmcnmgagnaaGreatDoorLaneQ
import Derived.Test.YtfcecmcnmgagnaaGreatDoorKit
import Derived.Test.YtfcecmcnmgagnaaGreatDoorRmM
namespace Go.Proofs.YtfcecmcnmgagnaaGreatDoor
set_option maxRecDepth 100000
set_option maxHeartbeats 4000000
open Go.RowKit AmC AmK
section
variable {W0 w : World} {E : Nat → Addr}
theorem rt_New (H : Nat → Nat) (hE : Env W0 E w) (k m i : Int) (hcf : cfgOk k m i = true) (K M I : Nat) (hkm : (1 ≤ K ∧ K ≤ 64) ∧ (1 ≤ M ∧ M ≤ 192) ∧ k = (K : Int) ∧ m = (M : Int) ∧ i = (I : Int)) (hi8 : 1 ≤ I ∧ I ≤ 8) : Calls Tryz.prog 13 #[cfgV k m i] w fun y w' => ∃ b G, y = .returned (.tuple #[.pointer (some ⟨b, 0, none⟩), .nilIface]) ∧ RtAt W0 E H K M I b G w' pool0 [] [] 0 ⟨0, 0, 0⟩ ∧ (∀ q ∈ G, w.heap.size ≤ q) ∧ Below w.heap.size w w' := by
 obtain ⟨hK, hM, rfl, rfl, rfl⟩ := hkm
 have HI := qd (And.intro hK (And.intro hM hi8))
 have hB0 := Blk.new w 23 #[.int .i64 (K : Int), .int .i64 (M : Int), .int .i64 (I : Int)]
 have hb0 := (Below.refl w.heap.size w).alloc (Nat.le_refl _) (.cells #[.int .i64 (K : Int), .int .i64 (M : Int), .int .i64 (I : Int)] 23)
 obtain ⟨W, hW⟩ : ∃ W, W = w.alloc (.cells #[.int .i64 (K : Int), .int .i64 (M : Int), .int .i64 (I : Int)] 23) := ⟨_, rfl⟩
 rw [← hW] at hB0 hb0
 have hnb := core_New H (hE.next hb0) (K : Int) (M : Int) (I : Int) hcf K M I ⟨hK, hM, rfl, rfl, rfl⟩
 have c := hB0.c3
 unfold cfgV at hnb ⊢
 have HNw := qd hnb
 have HX := qd hB0
 have HB := qd hb0
 have HW := qd hW
 have HE := qd hE
 clear hnb hB0 hb0 hW hK hM hi8 hE
 go_in
 go_upto_region 1 with fail
 rw [← HW.out]
 go_wp2_with fail
 refine HNw.out.mono ?_
 rintro y w1 ⟨cb, rfl, hnew⟩
 obtain ⟨GC, hC, hsu, hmo⟩ := new_at hnew
 have hb1 := hmo.to_below
 have HC := qd hC
 have HSu := qd (show ∀ q ∈ GC, W.heap.size ≤ q from fun q hq => (hsu q hq).elim (fun k => by cases k) (fun k => k))
 have HGl := qd (show ∀ q ∈ GC, q < w1.heap.size from fun q hq => (hC.facts.2.2.2.2.2.2.2.2.2.2.1 q hq).1)
 replace HX := qB hb1 HX
 have HB1 := qd (below_nx hb1 HB.out)
 have HL0 := qd hb1.size
 have HZ := qd (show w.heap.size < W.heap.size from by rw [HW.out]; simp)
 clear hnew hC hsu hmo hb1 HNw c
 have c := HX.out.c3
 have HIt := qd (iters_New I HI.out.2.2 w1)
 unfold coreP
 go_wp2_with fail
 refine HIt.out.mono ?_
 rintro y w2 ⟨rfl, hit, hb2⟩
 replace HC := qd (HC.out.below hb2)
 replace HX := qB hb2 HX
 have HB2 := qd (below_nx hb2 HB1.out)
 have HIa := qd hit
 have HL1 := qd (show W.heap.size ≤ w1.heap.size ∧ w1.heap.size + 1 < w2.heap.size from ⟨HL0.out, hit.blk.lt⟩)
 clear hit hb2 HIt c
 have c := HX.out.c3
 obtain ⟨ib, hib⟩ : ∃ ib, ib = w1.heap.size + 1 := ⟨_, rfl⟩
 obtain ⟨mb, hmb⟩ : ∃ mb, mb = w1.heap.size := ⟨_, rfl⟩
 rw [← hib] at HIa HL1 ⊢
 rw [← hmb] at HIa
 have HQ := qd (show mb = w1.heap.size ∧ ib = w1.heap.size + 1 from ⟨hmb, hib⟩)
 clear hib hmb
 obtain ⟨C, hCdef⟩ : ∃ C : RmC, C = ⟨(K : Int), (M : Int), (I : Int), cb, 0, 0, ⟨0, 0, 0⟩, ⟨0, 0, 0⟩, ib, ⟨0, 0, 0⟩, ⟨0, 0, 0⟩⟩ := ⟨_, rfl⟩
 have hbb := (Below.refl w2.heap.size w2).alloc (Nat.le_refl _) (.cells C.cells 77)
 have hnb := Blk.new w2 77 C.cells
 have hS : RtS W0 E H K M I w2.heap.size [] w C GC mb 0 (w2.alloc (.cells C.cells 77)) pool0 [] [] := by
  have h1 := HL1.out.1
  have h2 := HL1.out.2
  obtain ⟨g1, g2⟩ := HQ.out
  have hg := HGl.out
  have hs := HSu.out
  have hz := HZ.out
  have hw0 := HE.out.size
  have e1 : C.cb = cb := by rw [hCdef]
  have e2 : C.ib = ib := by rw [hCdef]
  have hf : ∀ q, q ∈ itFoot ib mb [] → q = ib ∨ q = mb := fun q hq => by unfold itFoot at hq; simpa using hq
  refine ⟨⟨hnb, by rw [hCdef]; exact Nat.zero_le _, by rw [hCdef]; exact Nat.zero_le _⟩, by rw [hCdef]; exact ⟨rfl, rfl, rfl⟩, by rw [e1]; exact HC.out.below hbb, by rw [e2]; exact HIa.out.below hbb, ⟨by omega, fun q hq => ?_⟩, ⟨fun hh => by have := hg _ hh; omega, fun hh => ?_, fun q hq hh => ?_⟩, fun q hq => .inr ?_, (Mod.of_below (below_nx hbb HB2.out) []), hw0⟩
  ·rw [e2] at hq; rcases hf q hq with k | k <;> omega
  ·rw [e2] at hh; rcases hf _ hh with k | k <;> omega
  ·rw [e2] at hq; have := hg q hh; rcases hf q hq with k | k <;> omega
  ·rcases mem_rtFoot.1 hq with k | k | k
   ·omega
   ·rw [e2] at k; rcases hf q k with k | k <;> omega
   ·have := hs q k; omega
 have hto := hS.to
 have hbz := below_nx hbb HB2.out
 rw [hCdef] at hto hbz
 unfold RmC.cells at hto hbz
 have HF := qd (And.intro hto hbz)
 clear hS hto hbz hbb hnb hCdef
 go_wp2
 refine bodyPost_ret (v := .tuple #[.pointer (some ⟨w2.heap.size, 0, none⟩), .nilIface]) (by simp [results, Tryz.results13, go_sem]) rfl ?_
 obtain ⟨G', k1, k2, k3⟩ := HF.out.1
 exact ⟨w2.heap.size, G', rfl, k1, fun q hq => (k2 q hq).elim (fun z => by cases z) (fun z => z), HF.out.2⟩
theorem rt_Get {H : Nat → Nat} {Kk M I b : Nat} {G : List Nat} {a : Pool} {ids : List Nat} {its : List It} {gv : Nat} {lst : Cnt} (h : RtAt W0 E H Kk M I b G w a ids its gv lst) (key : Nat) (h64 : H key < 18446744073709551616) : Calls Tryz.prog 25 #[.pointer (some ⟨b, 0, none⟩), .int .u64 (key : Int), .int .u64 (H key : Int)] w fun y w' => y = .returned (getV a.ents key) ∧ ∃ lst', RtTo W0 E H Kk M I b G w w' a ids its gv lst' := by
 obtain ⟨C, GC, mb, hS, rfl, hlst⟩ := h
 have hbk := hS.blk.blk
 unfold RmC.cells at hbk
 have c3 := hbk.cell 3
 simp only [gl] at c3
 have hget := at_get hS.core key h64
 unfold coreP getV at hget
 obtain ⟨gu, hgu⟩ : ∃ g : Int, g = (((look a.ents key).getD ⟨0, 0, 0⟩).val : Int) := ⟨_, rfl⟩
 obtain ⟨gi, hgi⟩ : ∃ i, i = (look a.ents key).isSome := ⟨_, rfl⟩
 unfold getV
 rw [← hgu, ← hgi] at hget ⊢
 have HGe := qd hget
 have HS := qd hS
 clear hgu hgi hget hbk hS hlst
 go_in
 go_wp2_with fail
 refine HGe.out.mono ?_
 rintro y w1 ⟨rfl, hto⟩
 obtain ⟨GC', hs1, hsu, hmo⟩ := HS.out.setC hto
 replace HS := qd hs1
 clear hto hs1 hsu hmo HGe c3
 obtain ⟨cc, hcc⟩ := HS.out.core.c_
 have HLs := qd (at_Last hcc)
 unfold cntV at HLs
 have hbk := HS.out.blk.blk
 unfold RmC.cells at hbk
 have c3 := hbk.cell 3
 simp only [gl] at c3
 clear hbk hcc
 go_wp2_with fail
 refine (core_Meter _ _).mono ?_
 rintro y w2 ⟨rfl, rfl⟩
 go_wp2_with fail
 refine HLs.out.mono ?_
 rintro y w2 ⟨rfl, hb⟩
 replace HS := qd (HS.out.below hb)
 clear hb HLs c3
 have HCn := qd (show Calls Tryz.prog 31 #[.pointer (some ⟨b, 0, none⟩), .agg #[.int .i64 cc.p, .int .i64 cc.v, .int .i64 cc.u]] w2 _ from rm_count HS.out.blk cc)
 go_wp2_with fail
 refine HCn.out.mono ?_
 rintro y w3 ⟨rfl, hB3, hm3⟩
 have HE := qd (HS.out.setB hB3 hm3 ⟨rfl, rfl, rfl, rfl, rfl⟩).to
 clear hB3 hm3 HS HCn
 go_wp2
 refine bodyPost_ret (v := .tuple #[.int .u64 gu, .bool gi]) (by simp [results, Tryz.results25, go_sem]) rfl ⟨rfl, _, HE.out⟩
end
section
variable {S : List Nat} {cap g i : Nat}
def lkI (o : Option Nat) : Int := match o with
 | none => -1
 | some n => (n : Int)
structure CaC where
 pb : Nat
 sv : Value
 fv : Value
 e : Ends
 hit : Int
 mis : Int
 last : Cnt
def CaC.cells (c : CaC) : Array Value := #[.pointer (some ⟨c.pb, 0, none⟩), c.sv, c.fv, .int .i64 (lkI c.e.nst), .int .i64 (lkI c.e.ost), .int .i64 c.hit, .int .i64 c.mis, .int .i64 c.last.p, .int .i64 c.last.v, .int .i64 c.last.u]
def SlF.cells (s : SlF) (i : Nat) : List Value := [.int .u64 ((s.ent i).key : Int), .int .u64 ((s.ent i).val : Int), .int .u64 ((s.ent i).hash : Int), .int .i64 (lkI (s.nw i)), .int .i64 (lkI (s.od i))]
theorem SlF.len (s : SlF) (i : Nat) : (s.cells i).length = 5 := rfl
def nums (fr : List Nat) : List Value := fr.map fun (i : Nat) => .int .i64 (i : Int)
def caFoot (cb : Nat) (c : CaC) (G : List Nat) : List Nat := cb :: (c.sv.ownBlock.toList ++ (c.fv.ownBlock.toList ++ G))
theorem mem_caFoot {cb : Nat} {c : CaC} {G : List Nat} {q : Nat} : q ∈ caFoot cb c G ↔ q = cb ∨ c.sv.ownBlock = some q ∨ c.fv.ownBlock = some q ∨ q ∈ G := by
 unfold caFoot
 simp only [List.mem_cons, List.mem_append, Option.mem_toList]
theorem ca_keep {w w' : World} {base : Nat} {e : TypeId} {size n : Nat} {v : Value} {xs : List Value} (h : w.ownsRow base e size v n xs) (hm : Mod S w w') (hS : ∀ g, v.ownBlock = some g → g ∉ S) : w'.ownsRow base e size v n xs := by
 refine ⟨h.1, ?_⟩
 rcases h.2 with hn | ⟨g, cap, cur, hv, hb, hg, rest⟩
 ·exact .inl hn
 ·exact .inr ⟨g, cap, cur, hv, hb, (hm.block g (Array.getElem?_eq_some_iff.1 hg).1 (hS g (by rw [hv]; rfl))).trans hg, rest⟩
structure CaH (W0 : World) (E : Nat → Addr) (H : Nat → Nat) (K M I cb : Nat) (G0 : List Nat) (w0 w : World) (c : CaC) (n : Nat) (s : SlF) (fr : List Nat) (G : List Nat) (a : Pool) (ids : List Nat) (lst : Cnt) : Prop where
 blk : Blk w cb 53 c.cells
 map : RtAt W0 E H K M I c.pb G w a ids [] 0 lst
 sl : w.ownsRow W0.heap.size 58 5 c.sv n (rows s.cells n)
 fre : w.ownsRow W0.heap.size 3 1 c.fv fr.length (nums fr)
 b0 : W0.heap.size ≤ cb
 apS : ∀ g, c.sv.ownBlock = some g → g ≠ cb ∧ g ∉ G
 apF : ∀ g, c.fv.ownBlock = some g → g ≠ cb ∧ g ∉ G ∧ c.sv.ownBlock ≠ some g
 apB : cb ∉ G
 frn : ∀ i ∈ fr, i < n
 n192 : n ≤ 192
 sub : ∀ q ∈ caFoot cb c G, q ∈ G0 ∨ w0.heap.size ≤ q
 mod : Mod G0 w0 w
 le0 : W0.heap.size ≤ w0.heap.size
section
variable {W0 : World} {E : Nat → Addr} {H : Nat → Nat} {K M I cb : Nat} {G0 : List Nat} {w0 w w' : World} {c c' : CaC} {n n' : Nat} {s s' : SlF} {fr fr' : List Nat} {G G' : List Nat} {a a' : Pool} {ids ids' : List Nat} {lst lst' : Cnt}
theorem CaH.lts (h : CaH W0 E H K M I cb G0 w0 w c n s fr G a ids lst) : ∀ q ∈ caFoot cb c G, q < w.heap.size ∧ W0.heap.size ≤ q := fun q hq => by
 rcases mem_caFoot.1 hq with rfl | hq | hq | hq
 ·exact ⟨h.blk.lt, h.b0⟩
 ·exact (h.sl.lt q hq).symm
 ·exact (h.fre.lt q hq).symm
 ·exact h.map.facts.1 q hq
theorem CaH.mod_ (h : CaH W0 E H K M I cb G0 w0 w c n s fr G a ids lst) (hm : Mod S w w') (hS : ∀ q ∈ S, q ∉ caFoot cb c G ∧ w0.heap.size ≤ q) : CaH W0 E H K M I cb G0 w0 w' c n s fr G a ids lst := by
 have k : ∀ q, q ∈ caFoot cb c G → q ∉ S := fun q hq hs => (hS q hs).1 hq
 exact ⟨h.blk.mod hm (k cb (mem_caFoot.2 (.inl rfl))), h.map.mod hm (fun q hq => ⟨fun hg => (hS q hq).1 (mem_caFoot.2 (.inr (.inr (.inr hg)))), Nat.le_trans h.le0 (hS q hq).2⟩),
  ca_keep h.sl hm (fun g hg => k g (mem_caFoot.2 (.inr (.inl hg)))), ca_keep h.fre hm (fun g hg => k g (mem_caFoot.2 (.inr (.inr (.inl hg))))), h.b0, h.apS, h.apF, h.apB, h.frn, h.n192, h.sub, h.mod.within hm (fun q hq => .inr (hS q hq).2), h.le0⟩
theorem CaH.below (h : CaH W0 E H K M I cb G0 w0 w c n s fr G a ids lst) (hb : Below w.heap.size w w') : CaH W0 E H K M I cb G0 w0 w' c n s fr G a ids lst := h.mod_ (Mod.of_below hb []) (by simp)
theorem CaH.make (h : CaH W0 E H K M I cb G0 w0 w c n s fr G a ids lst) (hB : Blk w' cb 53 c'.cells) (hp : c'.pb = c.pb) (hs : w'.ownsRow W0.heap.size 58 5 c'.sv n' (rows s'.cells n')) (hf : w'.ownsRow W0.heap.size 3 1 c'.fv fr'.length (nums fr')) (hm : Mod S w w') (hS : ∀ q ∈ S, q = cb ∨ c.sv.ownBlock = some q ∨ c.fv.ownBlock = some q) (h1 : c'.sv.ownBlock = c.sv.ownBlock ∨ ∃ g, c'.sv.ownBlock = some g ∧ w.heap.size ≤ g) (h2 : c'.fv.ownBlock = c.fv.ownBlock ∨ ∃ g, c'.fv.ownBlock = some g ∧ w.heap.size ≤ g) (h12 : c'.sv.ownBlock = c.sv.ownBlock ∨ c'.fv.ownBlock = c.fv.ownBlock) (hfr : ∀ i ∈ fr', i < n') (hn : n' ≤ 192) : CaH W0 E H K M I cb G0 w0 w' c' n' s' fr' G a ids lst := by
 have hlt := h.lts
 have hsz := h.mod.size
 have hSG : ∀ q ∈ S, q ∉ G ∧ W0.heap.size ≤ q := fun q hq => by
  rcases hS q hq with e | e | e
  ·exact ⟨e ▸ h.apB, e ▸ h.b0⟩
  ·exact ⟨(h.apS q e).2, (hlt q (mem_caFoot.2 (.inr (.inl e)))).2⟩
  ·exact ⟨(h.apF q e).2.1, (hlt q (mem_caFoot.2 (.inr (.inr (.inl e))))).2⟩
 have hG : ∀ q ∈ G, q < w.heap.size := fun q hq => (hlt q (mem_caFoot.2 (.inr (.inr (.inr hq))))).1
 have hcb := h.blk.lt
 refine ⟨hB, hp ▸ h.map.mod hm hSG, hs, hf, h.b0, fun g hg => ?_, fun g hg => ?_, h.apB, hfr, hn, fun q hq => ?_, h.mod.within hm (fun q hq => ?_), h.le0⟩
 ·rcases h1 with e | ⟨g', e, hl⟩
  ·exact h.apS g (e ▸ hg)
  ·rw [e] at hg; cases hg
   exact ⟨by omega, fun hq => by have := hG g hq; omega⟩
 ·rcases h2 with e | ⟨g', e, hl⟩
  ·have hg' : c.fv.ownBlock = some g := e ▸ hg
   refine ⟨(h.apF g hg').1, (h.apF g hg').2.1, fun hh => ?_⟩
   rcases h1 with e1 | ⟨g1, e1, hl1⟩
   ·exact (h.apF g hg').2.2 (e1 ▸ hh)
   ·rw [e1] at hh; cases hh
    have := (hlt g (mem_caFoot.2 (.inr (.inr (.inl hg'))))).1
    omega
  ·rw [e] at hg; cases hg
   refine ⟨by omega, fun hq => by have := hG g hq; omega, fun hh => ?_⟩
   rcases h12 with e1 | e1
   ·have := (hlt g (mem_caFoot.2 (.inr (.inl (e1 ▸ hh))))).1
    omega
   ·have := (hlt g (mem_caFoot.2 (.inr (.inr (.inl (e1 ▸ e)))))).1
    omega
 ·rcases mem_caFoot.1 hq with k | k | k | k
  ·exact h.sub q (mem_caFoot.2 (.inl k))
  ·rcases h1 with e | ⟨g, e, hl⟩
   ·exact h.sub q (mem_caFoot.2 (.inr (.inl (e ▸ k))))
   ·rw [e] at k; cases k; exact .inr (by omega)
  ·rcases h2 with e | ⟨g, e, hl⟩
   ·exact h.sub q (mem_caFoot.2 (.inr (.inr (.inl (e ▸ k)))))
   ·rw [e] at k; cases k; exact .inr (by omega)
  ·exact h.sub q (mem_caFoot.2 (.inr (.inr (.inr k))))
 ·rcases hS q hq with e | e | e
  ·exact h.sub q (mem_caFoot.2 (.inl e))
  ·exact h.sub q (mem_caFoot.2 (.inr (.inl e)))
  ·exact h.sub q (mem_caFoot.2 (.inr (.inr (.inl e))))
theorem CaH.setM (h : CaH W0 E H K M I cb G0 w0 w c n s fr G a ids lst) (hr : RtTo W0 E H K M I c.pb G w w' a' ids' [] 0 lst') : ∃ G', CaH W0 E H K M I cb G0 w0 w' c n s fr G' a' ids' lst' := by
 obtain ⟨G', h1, h2, h3⟩ := hr
 have hlt := h.lts
 have hsz := h.mod.size
 have hn : ∀ q, q < w.heap.size → q ∉ G → q ∉ G' := fun q hl hg hg' => (h2 q hg').elim hg fun k => by omega
 have hsl := fun g hg => (hlt g (mem_caFoot.2 (.inr (.inl hg)))).1
 have hfl := fun g hg => (hlt g (mem_caFoot.2 (.inr (.inr (.inl hg))))).1
 refine ⟨G', h.blk.mod h3 h.apB, h1, ca_keep h.sl h3 (fun g hg => (h.apS g hg).2), ca_keep h.fre h3 (fun g hg => (h.apF g hg).2.1), h.b0, fun g hg => ⟨(h.apS g hg).1, hn g (hsl g hg) (h.apS g hg).2⟩, fun g hg => ⟨(h.apF g hg).1, hn g (hfl g hg) (h.apF g hg).2.1, (h.apF g hg).2.2⟩, hn cb h.blk.lt h.apB, h.frn, h.n192, fun q hq => ?_, h.mod.within h3 (fun q hq => h.sub q (mem_caFoot.2 (.inr (.inr (.inr hq))))), h.le0⟩
 rcases mem_caFoot.1 hq with k | k | k | k
 ·exact h.sub q (mem_caFoot.2 (.inl k))
 ·exact h.sub q (mem_caFoot.2 (.inr (.inl k)))
 ·exact h.sub q (mem_caFoot.2 (.inr (.inr (.inl k))))
 ·rcases h2 q k with k | k
  ·exact h.sub q (mem_caFoot.2 (.inr (.inr (.inr k))))
  ·exact .inr (by omega)
theorem CaH.again (h : CaH W0 E H K M I cb G0 w0 w c n s fr G a ids lst) : CaH W0 E H K M I cb (caFoot cb c G) w w c n s fr G a ids lst :=
 ⟨h.blk, h.map, h.sl, h.fre, h.b0, h.apS, h.apF, h.apB, h.frn, h.n192, fun q hq => .inl hq, Mod.refl _ _, by have := h.mod.size; have := h.le0; omega⟩
theorem CaH.setB (h : CaH W0 E H K M I cb G0 w0 w c n s fr G a ids lst) (hB : Blk w' cb 53 c'.cells) (hm : Mod [cb] w w') (hc : c'.pb = c.pb ∧ c'.sv = c.sv ∧ c'.fv = c.fv) : CaH W0 E H K M I cb G0 w0 w' c' n s fr G a ids lst := by
 obtain ⟨e1, e2, e3⟩ := hc
 refine h.make hB e1 (e2 ▸ ca_keep h.sl hm (fun g hg hs => (h.apS g hg).1 (List.mem_singleton.1 hs))) (e3 ▸ ca_keep h.fre hm (fun g hg hs => (h.apF g hg).1 (List.mem_singleton.1 hs))) hm (fun q hq => .inl (List.mem_singleton.1 hq)) (.inl (by rw [e2])) (.inl (by rw [e3])) (.inl (by rw [e2])) h.frn h.n192
theorem CaH.slot (h : CaH W0 E H K M I cb G0 w0 w c n s fr G a ids lst) (hv : c.sv = .slice (some ⟨g, 0, none⟩) n cap) (hi : i < n) (j : Nat) (hj : j < 5) : w.cell? ⟨g, i * 5 + j, none⟩ = (s.cells i)[j]? := by
 have h1 := h.sl
 rw [hv] at h1
 rw [h1.cellAt (i * 5 + j) (by have : (i + 1) * 5 ≤ n * 5 := Nat.mul_le_mul_right _ hi; omega)]
 exact rows_get (m := 5) s.len hj hi
theorem CaH.form (h : CaH W0 E H K M I cb G0 w0 w c n s fr G a ids lst) (hn : 0 < n) : ∃ g cap, c.sv = .slice (some ⟨g, 0, none⟩) n cap := by
 obtain ⟨g, cap, h1, _⟩ := h.sl.form hn
 exact ⟨g, cap, h1⟩
theorem CaH.frozen (h : CaH W0 E H K M I cb G0 w0 w c n s fr G a ids lst) (hv : c.sv = .slice (some ⟨g, 0, none⟩) n cap) (j : Nat) : w.frozen? ⟨g, j, none⟩ = false := by
 have h1 := h.sl
 rw [hv] at h1
 exact h1.frozenAt j
theorem CaH.setS (h : CaH W0 E H K M I cb G0 w0 w c n s fr G a ids lst) (hv : c.sv = .slice (some ⟨g, 0, none⟩) n cap) (hi : i < n) (j : Nat) (hj : j < 5) (u : Value) (hs : ∀ k, s'.cells k = upd s.cells i ((s.cells i).set j u) k) : CaH W0 E H K M I cb G0 w0 (w.setCell ⟨g, i * 5 + j, none⟩ u) c n s' fr G a ids lst := by
 have h1 := h.sl
 rw [hv] at h1
 have h2 := (h1.stored (i * 5 + j) u).1
 rw [rows_set (m := 5) s.len hj u hi] at h2
 have hm : Mod [g] w (w.setCell ⟨g, i * 5 + j, none⟩ u) := (Mod.refl [g] w).sl (i * 5 + j) u
 have hg : c.sv.ownBlock = some g := by rw [hv]; rfl
 refine h.make (h.blk.mod hm (fun hs => (h.apS g hg).1 (List.mem_singleton.1 hs).symm)) rfl ?_ (ca_keep h.fre hm (fun g' hg' hs => ?_)) hm (fun q hq => .inr (.inl ?_)) (.inl rfl) (.inl rfl) (.inl rfl) h.frn h.n192
 ·rw [hv, rows_congr (f := s'.cells) fun k _ => hs k]; exact h2
 ·rw [List.mem_singleton.1 hs] at hg'; exact (h.apF g hg').2.2 hg
 ·rw [List.mem_singleton.1 hq]; exact hg
end
end
section
def CaAt (W0 : World) (E : Nat → Addr) (H : Nat → Nat) (K M I cb : Nat) (F : List Nat) (w : World) (R : List Ent) : Prop :=
 ∃ (c : CaC) (n : Nat) (s : SlF) (fr : List Nat) (G : List Nat) (a : Pool) (ids : List Nat) (lst : Cnt) (row : List Nat), CaH W0 E H K M I cb (caFoot cb c G) w w c n s fr G a ids lst ∧ CaI c.e n s fr a.ents row ∧ F = caFoot cb c G ∧ R = row.map s.ent
def CaTo (W0 : World) (E : Nat → Addr) (H : Nat → Nat) (K M I cb : Nat) (F : List Nat) (w w' : World) (R' : List Ent) : Prop :=
 ∃ F', CaAt W0 E H K M I cb F' w' R' ∧ (∀ q ∈ F', q ∈ F ∨ w.heap.size ≤ q) ∧ Mod F w w'
section
variable {W0 : World} {E : Nat → Addr} {H : Nat → Nat} {K M I cb : Nat} {F G0 : List Nat} {w0 w w' : World} {c : CaC} {n : Nat} {s : SlF} {fr row : List Nat} {G : List Nat} {a : Pool} {ids : List Nat} {lst : Cnt} {R R' : List Ent}
theorem CaH.to (h : CaH W0 E H K M I cb F w w' c n s fr G a ids lst) (hi : CaI c.e n s fr a.ents row) (hR : row.map s.ent = R') : CaTo W0 E H K M I cb F w w' R' :=
 ⟨_, ⟨c, n, s, fr, G, a, ids, lst, row, h.again, hi, rfl, hR.symm⟩, h.sub, h.mod⟩
theorem CaAt.below (h : CaAt W0 E H K M I cb F w R) (hb : Below w.heap.size w w') : CaAt W0 E H K M I cb F w' R := by
 obtain ⟨c, n, s, fr, G, a, ids, lst, row, h1, h2, h3, h4⟩ := h
 exact ⟨c, n, s, fr, G, a, ids, lst, row, (h1.below hb).again, h2, h3, h4⟩
theorem CaAt.mod {S : List Nat} (h : CaAt W0 E H K M I cb F w R) (hm : Mod S w w') (hS : ∀ q ∈ S, q ∉ F ∧ W0.heap.size ≤ q) : CaAt W0 E H K M I cb F w' R := by
 obtain ⟨c, n, s, fr, G, a, ids, lst, row, h1, h2, rfl, h4⟩ := h
 have k : ∀ q, q ∈ caFoot cb c G → q ∉ S := fun q hq hs => (hS q hs).1 hq
 have h5 : CaH W0 E H K M I cb (caFoot cb c G) w' w' c n s fr G a ids lst := ⟨h1.blk.mod hm (k cb (mem_caFoot.2 (.inl rfl))), h1.map.mod hm (fun q hq => ⟨fun hg => (hS q hq).1 (mem_caFoot.2 (.inr (.inr (.inr hg)))), (hS q hq).2⟩),
  ca_keep h1.sl hm (fun g hg => k g (mem_caFoot.2 (.inr (.inl hg)))), ca_keep h1.fre hm (fun g hg => k g (mem_caFoot.2 (.inr (.inr (.inl hg))))), h1.b0, h1.apS, h1.apF, h1.apB, h1.frn, h1.n192, fun q hq => .inl hq, Mod.refl _ _, by have := h1.le0; have := hm.size; omega⟩
 exact ⟨c, n, s, fr, G, a, ids, lst, row, h5, h2, rfl, h4⟩
theorem CaAt.facts (h : CaAt W0 E H K M I cb F w R) : (∀ q ∈ F, q < w.heap.size ∧ W0.heap.size ≤ q) ∧ (R.map Ent.key).Nodup ∧ R.length ≤ M ∧ M ≤ 192 ∧ Env W0 E w := by
 obtain ⟨c, n, s, fr, G, a, ids, lst, row, h1, h2, rfl, rfl⟩ := h
 obtain ⟨_, f2, f3, f4, _, _, _, _, _, f10⟩ := h1.map.facts
 have := h2.ents.length_eq
 rw [List.length_map] at this
 exact ⟨h1.lts, h2.keys f2, by rw [List.length_map]; omega, f4, f10⟩
end
end
end Go.Proofs.YtfcecmcnmgagnaaGreatDoor
