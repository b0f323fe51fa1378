/- A table's Seek by its contract. -/
import Derived.Test.YtbphcldoflekpaaGreatDoorTabS
import Derived.Test.YtbphcldoflekpaaGreatDoorSqT
import Derived.Test.YtbphcldoflekpaaGreatDoorLaneP
namespace Go.Proofs.YtbphcldoflekpaaGreatDoor
set_option maxRecDepth 100000
set_option maxHeartbeats 4000000
open Go.RowKit Go.Shelf dA
variable {S : List Nat} {X Y w w' : World} {row : Option Nat} {t : TypeId} {n : Nat}
attribute [local go_sem] Oper.semAt_some
def eB (a c : bC) : Nat → bC
 | 0 => a
 | k + 1 => iV (eB a c k) c
theorem Mod.cell_ (h : Mod S w w') {p : Addr} (hp : p.block < w.heap.size) (hs : p.block ∉ S) : w'.cell? p = w.cell? p := World.cell?_of_block (w := w) (h.block p.block hp hs)
theorem iP {B : Nat} (h : Mod S w w') (hS : ∀ k, k ∈ S → k < B) : KeepsFrom B w w' := ⟨h.size, fun k o hB hk _ => (h.block k (Array.getElem?_eq_some_iff.1 hk).1 (fun hh => absurd (hS k hh) (by omega))).trans hk⟩
theorem l9 {n₀ n₁ : Nat} {T : List Nat} {A B : World} (h : aY n₀ S A B) (hn : n₁ ≤ n₀) (hS : ∀ k, k < n₁ → k ∈ S → k ∈ T) : aY n₁ T A B := ⟨h.os, h.tape, h.output, h.size, fun k hk hT => h.block k (by omega) (fun hh => hT (hS k hk hh))⟩
theorem yG {g : Nat} {cs : Array Value} (h : aj X g t cs) (hg : X.grownBy Y row) (hr : ∀ r, row = some r → ∃ o : Obj, X.heap[r]? = some o ∧ o.isCells = false) : aj Y g t cs := by
 refine (hg.block g h.lt (fun e => ?_)).trans h
 obtain ⟨o, ho, hc⟩ := hr g e.symm
 rw [show X.heap[g]? = _ from h] at ho; cases ho; cases hc
theorem Ch {mb : Nat} {pre post : List Value} {mo : Nat} {a l : bC} {m : Int} (h : Met X mb t pre post mo a l m) (hg : X.grownBy Y row) (hr : ∀ r, row = some r → ∃ o : Obj, X.heap[r]? = some o ∧ o.isCells = false) : Met Y mb t pre post mo a l m := ⟨h.len, yG h.blk hg hr⟩
def bS (x : Option (Nat × Nat)) : Int := match x with
 | some y => (y.2 : Int)
 | none => -1
def dQ (tb key hash : Nat) (ap : Option Addr) (Zc : Int) (fp : Option Addr) (fs : Int) : Array Value := #[pQ tb, nU key, nU hash, .pointer ap, .int .i64 Zc, .pointer fp, .int .i64 fs]
def gW (gb : Nat) (x : Option (Nat × Nat)) (p : Option Addr) : Prop := ∀ i s, x = some (i, s) → p = some ⟨gb, i * 25, none⟩
def vals {n : Nat} (pre : List (Fin n)) : List Nat := pre.map Fin.val
theorem wS (pre : List (Fin n)) (x : Fin n) : vals (pre ++ [x]) = vals pre ++ [x.val] := by simp [vals]
def uL (gs : Tab) (key hash i : Nat) : Option (Nat × Nat) := (gK (gs.getD i []) key hash).map fun s => (i, s)
theorem RD {gs : Tab} {key hash : Nat} {pre : List (Fin n)} {x : Fin n} {j : Nat} (hj : vals (pre ++ [x]) = (walk (hash / 128) gs.length).take j) (h : ∀ y ∈ pre, Passed gs key hash y.val) (he : gK (gs.getD x.val []) key hash ≠ none ∨ dF (gs.getD x.val []) = true) : aH gs key hash = (uL gs key hash x.val, fA gs (vals (pre ++ [x])), (pre ++ [x]).length) := by
 have hw : vals pre ++ x.val :: (walk (hash / 128) gs.length).drop j = walk (hash / 128) gs.length := by
  have := List.take_append_drop j (walk (hash / 128) gs.length)
  rw [← hj, wS, List.append_assoc] at this
  exact this
 have hp : ∀ i ∈ vals pre, Passed gs key hash i := fun i hi => by
  obtain ⟨y, hy, rfl⟩ := List.mem_map.1 hi
  exact h y hy
 have hlen : (vals pre ++ [x.val]).length = (pre ++ [x]).length := by simp [vals]
 unfold uL
 rw [wS, ← hlen]
 cases hf : gK (gs.getD x.val []) key hash with
 | some s => exact UY hw hp hf
 | none =>
  rcases he with he | he
  ·exact absurd hf he
  ·exact RB hw hp hf he
theorem qA (tb gb key hash : Nat) (T : aB) (mb : Nat) (mt : TypeId) (gH eD : List Value) (mo : Nat) (a0 l0 : bC) (m : Int) (c : bC) (w : World) (h : TabAt w tb gb T) (hP : Pw T.gs.length) (h64 : hash < 18446744073709551616) (hM : Met w mb mt gH eD mo a0 l0 m) (hmt : mb ≠ tb) (gD : mb ≠ gb) (hT : fQ w) (hz : 16 ≠ mb) :
  Calls Tryz.prog 80 #[bN tb, aG (some ⟨mb, mo, none⟩) c, nU key, nU hash] w fun e w' => ∃ ap fp, e = .returned (bK tb key hash ap (bS (aH T.gs key hash).1) fp (bS (aH T.gs key hash).2.1)) ∧
   (∀ i s, (aH T.gs key hash).1 = some (i, s) → ap = some ⟨gb, i * 25, none⟩) ∧ (∀ i s, (aH T.gs key hash).2.1 = some (i, s) → fp = some ⟨gb, i * 25, none⟩) ∧
   Met w' mb mt gH eD mo (eB a0 c (aH T.gs key hash).2.2) (eB l0 c (aH T.gs key hash).2.2) m ∧ Mod [mb] w w' := by
 obtain ⟨W, hW, hB, hA, hL, hK, hH, hR⟩ := Y1 w 141 #[pQ tb] 115 #[.pointer (some ⟨mb, mo, none⟩), .int .i64 c.p, .int .i64 c.v, .int .i64 c.u] 36 #[nU key] 36 #[nU hash] 163 #[.pointer none, .int .u64 0, .int .u64 0, .pointer none, .int .i64 0, .pointer none, .int .i64 0]
 have lq := h.below hB
 have hMW := hM.below hB
 have HW := qd hW
 have HB := qd hB
 have hg := World.block_lt_of_cell? w _ (hT 0 (by omega))
 have htl := h.aQ
 have hgl := h.aR
 have hml := hM.lt
 unfold bN aG bK
 clear hW hB h hM
 refine (callsIn_wide (n := 10)).1 ?_
 have h1 : 1 ≤ 10 := by omega
 refine kH Tryz.func80 rfl trivial rfl ?_
 simp only [Tryz.ntmps80, List.size_toArray, List.length_cons, List.length_nil, Nat.reduceAdd, Nat.reduceSub, Array.replicate_succ, Array.replicate_zero, List.push_toArray, List.append_toArray, List.nil_append, List.cons_append]
 refine wpIn_wide.2 ?_
 go_upto_region 1 with fail
 rw [← HW.out]
 have ca0 := hA.cell 0
 simp only [List.getElem?_toArray, List.getElem?_cons_zero] at ca0
 have ck0 := hK.cell 0
 simp only [List.getElem?_toArray, List.getElem?_cons_zero] at ck0
 have ch0 := hH.cell 0
 simp only [List.getElem?_toArray, List.getElem?_cons_zero] at ch0
 go_upto_region 2 with fail
 have hSp := aj.new W 163 #[pQ tb, nU key, nU hash, .pointer none, .int .i64 (-1), .pointer none, .int .i64 (-1)]
 have hBW := (Below.refl W.heap.size W).alloc (Nat.le_refl _) (.cells #[pQ tb, nU key, nU hash, .pointer none, .int .i64 (-1), .pointer none, .int .i64 (-1)] 163)
 obtain ⟨W1, hW1⟩ : ∃ W1, W1 = W.alloc (.cells #[pQ tb, nU key, nU hash, .pointer none, .int .i64 (-1), .pointer none, .int .i64 (-1)] 163) := ⟨_, rfl⟩
 rw [← hW1] at hSp hBW ⊢
 have HW1 := qd hW1
 clear hW1
 have hT1 := lq.below hBW
 have hM1 := hMW.below hBW
 have ht := aJ hBW ca0
 have hh := aJ hBW ch0
 have hc := hT1.cells.1
 have yH : Below w.heap.size w W1 := bI hBW HB.out
 have hlR := hR.lt
 have acO := hSp.lt
 refine rT (fun (w' : World) => w'.cell? ⟨w.heap.size + 1 + 1 + 1, 0, none⟩ = some (nU hash) ∧ w'.cell? ⟨w.heap.size, 0, none⟩ = some (pQ tb) ∧ w'.cell? ⟨tb, 0, none⟩ = some (.slice (some ⟨gb, 0, none⟩) T.gs.length T.gs.length)) [] ?_
 have hHeld := (⟨hh, ht, hc⟩ : _ ∧ _ ∧ _)
 refine vT 0 rfl ?_
 refine vT 2 rfl ?_
 refine vW 3 rfl ?_
 refine vW 4 rfl ?_
 refine vT 5 rfl ?_
 refine vW 6 rfl ?_
 refine nT 1 rfl fun K hK => ?_
 go_simp
 refine (Ur hash _).mono ?_
 rintro e w1 ⟨rfl, rfl⟩
 go_wp2_with fail
 have hHeld := (⟨hh, ht, hc⟩ : _ ∧ _ ∧ _)
 refine kO hK ?_
 clear hK K
 refine nT 7 rfl fun K hK => ?_
 go_simp
 refine (Pv (hash / 128) T.gs.length _).mono ?_
 rintro e w1 ⟨rfl, hw1⟩
 have hb1 : Below W1.heap.size W1 w1 := hw1 ▸ (((Below.refl W1.heap.size W1).drew).alloc (Nat.le_refl _) _).alloc (by simp) _
 have CV : aj w1 W1.heap.size 36 #[.int .u64 ((hash / 128 : Nat) : Int)] := hw1 ▸ (aj.new W1.drew _ _).alloc _
 have hBg : aj w1 (W1.heap.size + 1) 3 #[nI T.gs.length] := by rw [← hw1]; have h0 := aj.new (W1.drew.alloc (.cells #[.int .u64 ((hash / 128 : Nat) : Int)] 36)) 3 #[nI T.gs.length]; rw [show (W1.drew.alloc (.cells #[.int .u64 ((hash / 128 : Nat) : Int)] 36)).heap.size = W1.heap.size + 1 by simp] at h0; exact h0
 clear hw1
 go_wp2_with fail
 replace hh := aJ hb1 hh
 replace ht := aJ hb1 ht
 replace hc := aJ hb1 hc
 have hHeld := (⟨hh, ht, hc⟩ : _ ∧ _ ∧ _)
 refine kO hK ?_
 clear hK K
 refine aT (by kernel_rfl) ?_ _
 go_wp2_with fail
 refine (wpIn_wide (n := 10)).1 ?_
 have hA1 := (hA.below hBW hA.lt).below hb1 (hA.below hBW hA.lt).lt
 have hL1 := (hL.below hBW hL.lt).below hb1 (hL.below hBW hL.lt).lt
 have hK1 := (hK.below hBW hK.lt).below hb1 (hK.below hBW hK.lt).lt
 have hH1 := (hH.below hBW hH.lt).below hb1 (hH.below hBW hH.lt).lt
 have vC := (hR.below hBW hR.lt).below hb1 (hR.below hBW hR.lt).lt
 have hTw := hT1.below hb1
 have Zd : fQ w1 := fun i hi => ((yH.trans (hb1.mono yH.size)).cell (p := ⟨16, nV i, none⟩) hg).trans (hT i hi)
 have hbl := hb1.size
 have hgs : 16 < w1.heap.size := by have := yH.size; omega
 refine wpIn_rangeFunc_ownH rfl h1 (gf := 159) (lb := #[.pointer (some ⟨W1.heap.size + 1, 0, none⟩), pQ W1.heap.size]) rfl trivial (enters_of Tryz.func159 (by kernel_rfl) rfl)
  (Px (10 - 1) (by omega) (W1.heap.size + 1) W1.heap.size w1.heap.size [W.heap.size, mb] (hash / 128) T.gs.length (by omega) hP w1 hBg.lt (by simp; omega) CV.lt (Nat.le_refl _) (hBg.cell 0) (CV.cell 0)) dM (uW (Nat.le_refl _)) (Below.refl _ _) (fun _ => rfl)
  (fun pre V => ((∃ fp, aj V W.heap.size 163 (dQ tb key hash none (-1) fp (bS (fA T.gs (vals pre)))) ∧ gW gb (fA T.gs (vals pre)) fp) ∧ Met V mb mt gH eD mo (eB a0 c pre.length) (eB l0 c pre.length) m ∧ ∀ y ∈ pre, Passed T.gs key hash y.val) ∧ aY w1.heap.size [W.heap.size, mb] w1 V)
  (fun cd pre V => (cd = .ret ∧ ∃ pre' x ap fp, pre = pre' ++ [x] ∧ (∀ y ∈ pre', Passed T.gs key hash y.val) ∧ (gK (T.gs.getD x.val []) key hash ≠ none ∨ dF (T.gs.getD x.val []) = true) ∧
   aj V (w.heap.size + 1 + 1 + 1 + 1) 163 (dQ tb key hash ap (bS (uL T.gs key hash x.val)) fp (bS (fA T.gs (vals pre)))) ∧ gW gb (uL T.gs key hash x.val) ap ∧ gW gb (fA T.gs (vals pre)) fp ∧
   Met V mb mt gH eD mo (eB a0 c pre.length) (eB l0 c pre.length) m) ∧ aY w.heap.size [mb] w V)
  (OwnFrom.and (fun _ X Y row hs hg hr => by
   obtain ⟨⟨fp, h2, h3⟩, h4, h5⟩ := hs
   exact ⟨⟨fp, yG h2 hg (fun r e => (hr r e).2), h3⟩, Ch h4 hg (fun r e => (hr r e).2), h5⟩) (oN (Nat.le_refl _) (Nat.le_refl _)))
  (fun cd => OwnFrom.and (fun _ X Y row hs hg hr => by
   obtain ⟨h0, pre', x, ap, fp, h2, h3, h4, h5, h6, h7, h8⟩ := hs
   exact ⟨h0, pre', x, ap, fp, h2, h3, h4, yG h5 hg (fun r e => (hr r e).2), h6, h7, Ch h8 hg (fun r e => (hr r e).2)⟩) (oN (Nat.le_refl _) (by have := yH.size; omega)))
  ⟨⟨⟨none, hSp.below hb1 hSp.lt, fun i s he => by cases he⟩, hM1.below hb1, by simp⟩, aY.refl _ _ _⟩
  (fun x a' _ => a' = { tmps := #[pQ tb, .agg #[.pointer (some ⟨mb, mo, none⟩), .int .i64 c.p, .int .i64 c.v, .int .i64 c.u], nU key, nU hash, pQ w.heap.size, .pointer (some ⟨w.heap.size + 1, 0, none⟩), .pointer (some ⟨w.heap.size + 1 + 1, 0, none⟩), .pointer (some ⟨w.heap.size + 1 + 1 + 1, 0, none⟩), .pointer (some ⟨w.heap.size + 1 + 1 + 1 + 1, 0, none⟩), pQ W.heap.size, nI x.val, undef, undef, pQ tb, nU key, nU hash, .agg #[.pointer none, .int .i64 (-1)], .agg #[.pointer none, .int .i64 (-1)], .agg #[pQ tb, nU key, nU hash, .pointer none, .int .i64 (-1), .pointer none, .int .i64 (-1)], nU hash, .int .u64 ((hash : Int) / 128), pQ tb, pQ tb, pQ tb, .slice (some ⟨gb, 0, none⟩) T.gs.length T.gs.length, nI T.gs.length, .func (.func 159) #[] #[.pointer (some ⟨W1.heap.size + 1, 0, none⟩), pQ W1.heap.size], nI x.val, undef, undef, undef, undef, undef, undef, undef, undef, undef, undef, undef, undef, undef, undef, undef, undef, undef, undef, undef, undef, undef, undef, undef, undef, undef, undef, undef, undef, undef, undef, undef, undef], defers := [] })
  (fun _ _ _ _ _ _ hs _ _ => hs) ?assign ?body ?done ?stop
 case assign =>
  rintro lp pre x V K hi hK
  gi_wp2
  exact hK _ _ (KeepsFrom.refl _ _) (aY.refl _ _ _) hi rfl
 case body =>
  rintro lp pre x a' V hl ⟨r, hr⟩ ⟨⟨⟨fp, AQ, hfp⟩, NZ, hps⟩, nD⟩ rfl hlt
  have hAV := nD.blk hA1 (by omega) (by simp; omega)
  have hLV := nD.blk hL1 (by omega) (by simp; omega)
  have hTV := hTw.keep nD (by omega) (by omega) (by simp; omega) (by simp; omega)
  have hxn : x.val < T.gs.length := x.isLt
  have KE := hP.le
  have hxi : (x.val : Int) < (T.gs.length : Int) := by omega
  have hx0 : (0 : Int) ≤ (x.val : Int) := by omega
  have AL := nD.size
  have t0 := hAV.cell 0
  simp only [List.getElem?_toArray, List.getElem?_cons_zero] at t0
  obtain ⟨Hf, Hg, Hl, Ho⟩ := hLV.c4
  have hc := hTV.cells.1
  have HS := qd (fun (wX : World) (M : Mod [mb] V wX) => show (fun (w' : World) => w'.cell? ⟨w.heap.size, 0, none⟩ = some (pQ tb) ∧ w'.cell? ⟨tb, 0, none⟩ = some (.slice (some ⟨gb, 0, none⟩) T.gs.length T.gs.length) ∧ w'.cell? ⟨w.heap.size + 1, 0, none⟩ = some (.pointer (some ⟨mb, mo, none⟩)) ∧ w'.cell? ⟨w.heap.size + 1, 1, none⟩ = some (.int .i64 c.p) ∧ w'.cell? ⟨w.heap.size + 1, 2, none⟩ = some (.int .i64 c.v) ∧ w'.cell? ⟨w.heap.size + 1, 3, none⟩ = some (.int .i64 c.u)) wX from ⟨(M.cell_ (p := ⟨w.heap.size, 0, none⟩) (by show w.heap.size < _; omega) (by simp; omega)).trans t0, (M.cell_ (p := ⟨tb, 0, none⟩) (by show tb < _; omega) (by simp; omega)).trans hc, (M.cell_ (p := ⟨w.heap.size + 1, 0, none⟩) (by show w.heap.size + 1 < _; omega) (by simp; omega)).trans Hf, (M.cell_ (p := ⟨w.heap.size + 1, 1, none⟩) (by show w.heap.size + 1 < _; omega) (by simp; omega)).trans Hg, (M.cell_ (p := ⟨w.heap.size + 1, 2, none⟩) (by show w.heap.size + 1 < _; omega) (by simp; omega)).trans Hl, (M.cell_ (p := ⟨w.heap.size + 1, 3, none⟩) (by show w.heap.size + 1 < _; omega) (by simp; omega)).trans Ho⟩)
  gi_wp2_with fail
  refine abj (fun a' w2 => ∃ vb, a' = { tmps := #[pQ tb, .agg #[.pointer (some ⟨mb, mo, none⟩), .int .i64 c.p, .int .i64 c.v, .int .i64 c.u], nU key, nU hash, pQ w.heap.size, .pointer (some ⟨w.heap.size + 1, 0, none⟩), .pointer (some ⟨w.heap.size + 1 + 1, 0, none⟩), .pointer (some ⟨w.heap.size + 1 + 1 + 1, 0, none⟩), .pointer (some ⟨w.heap.size + 1 + 1 + 1 + 1, 0, none⟩), pQ W.heap.size, nI x.val, pQ vb, undef, pQ tb, nU key, nU hash, .agg #[.pointer none, .int .i64 (-1)], .agg #[.pointer none, .int .i64 (-1)], .agg #[pQ tb, nU key, nU hash, .pointer none, .int .i64 (-1), .pointer none, .int .i64 (-1)], nU hash, .int .u64 ((hash : Int) / 128), pQ tb, pQ tb, pQ tb, .slice (some ⟨gb, 0, none⟩) T.gs.length T.gs.length, nI T.gs.length, .func (.func 159) #[] #[.pointer (some ⟨W1.heap.size + 1, 0, none⟩), pQ W1.heap.size], nI x.val, pQ tb, pQ tb, pQ tb, .slice (some ⟨gb, 0, none⟩) T.gs.length T.gs.length, nI x.val, .pointer (some ⟨gb, x.val * 25, none⟩), .agg #[.pointer (some ⟨mb, mo, none⟩), .int .i64 c.p, .int .i64 c.v, .int .i64 c.u], .agg #[.pointer (some ⟨gb, x.val * 25, none⟩)], undef, undef, undef, undef, undef, undef, undef, undef, undef, undef, undef, undef, undef, undef, undef, undef, undef, undef, undef, undef, undef, undef, undef, undef], defers := [] } ∧ aj w2 vb 159 #[.pointer (some ⟨gb, x.val * 25, none⟩)] ∧ V.heap.size ≤ vb ∧ Met w2 mb mt gH eD mo (iV (eB a0 c pre.length) c) (iV (eB l0 c pre.length) c) m ∧ Mod [mb] V w2) ?_ ?_
  ·refine zn (fun (w' : World) => w'.cell? ⟨w.heap.size, 0, none⟩ = some (pQ tb) ∧ w'.cell? ⟨tb, 0, none⟩ = some (.slice (some ⟨gb, 0, none⟩) T.gs.length T.gs.length) ∧ w'.cell? ⟨w.heap.size + 1, 0, none⟩ = some (.pointer (some ⟨mb, mo, none⟩)) ∧ w'.cell? ⟨w.heap.size + 1, 1, none⟩ = some (.int .i64 c.p) ∧ w'.cell? ⟨w.heap.size + 1, 2, none⟩ = some (.int .i64 c.v) ∧ w'.cell? ⟨w.heap.size + 1, 3, none⟩ = some (.int .i64 c.u)) [] (by kernel_rfl) (by kernel_rfl) (by rintro ⟨_, _, h⟩; exact h) ?_
   try (change bV _ _ _ _ _ _ _ _ _ (World.drew _))
   have hHeld := (⟨t0, hc, Hf, Hg, Hl, Ho⟩ : _ ∧ _ ∧ _ ∧ _ ∧ _ ∧ _)
   refine vT 0 rfl ?_
   refine vW 1 rfl ?_
   refine vW 2 rfl ?_
   refine vT 3 rfl ?_
   refine vW 4 rfl ?_
   refine vW 5 rfl ?_
   refine vT 6 rfl ?_
   refine pairT (i := 7) (j := 8) (o := ⟨some 35, _, _, _, _, _⟩) (o' := ⟨some 11, _, _, _, _, _⟩) rfl rfl (by kernel_rfl) (fun K hK => ?_) (fun K hK => ?_)
   ·go_simp
    refine (uJ ⟨gb, x.val * 25, none⟩ mb mt gH eD mo _ _ m c _ (NZ.below (Below.refl _ _).drew)).mono ?_
    rintro e w2 ⟨rfl, hM2, hm2⟩
    simp only [bF]
    go_wp2_with fail
    have M7 : Mod [mb] V w2 := (Mod.drewN [mb] V 1).then hm2
    refine hK.out _ _ (fun _ => HS.out _ M7) ?_
    clear hK K
    try simp only [pt]
    refine nT 8 rfl fun K hK => ?_
    go_simp
    have M8 : Mod [mb] V (w2.alloc (.cells #[.pointer none] 159)) := M7.alloc _
    have AR := aj.new w2 159 #[.pointer none]
    have N7 := hM2.below ((Below.refl w2.heap.size w2).alloc (Nat.le_refl _) (.cells #[.pointer none] 159))
    have abl := M7.size
    obtain ⟨w3, hw3⟩ : ∃ w3, w3 = w2.alloc (.cells #[.pointer none] 159) := ⟨_, rfl⟩
    rw [← hw3] at M8 AR N7 ⊢
    clear hw3
    refine hK.out _ _ (fun _ => HS.out _ M8) ?_
    clear hK K
    try simp only [pt]
    refine nT 9 rfl fun K hK => ?_
    have n0 := AR.cell 0
    simp only [List.getElem?_toArray, List.getElem?_cons_zero] at n0
    have nf := AR.frozen 0
    go_simp
    have M9 := M8.ak (b := w2.heap.size) (.inr (by omega)) 0 (.pointer (some ⟨gb, x.val * 25, none⟩))
    refine hK.out _ _ (fun _ => HS.out _ M9) ?_
    clear hK K
    try simp only [pt]
    refine aT (by kernel_rfl) ?_ _
    exact ⟨w2.heap.size, rfl, AR.ak 0 _, abl, ⟨N7.len, N7.blk.far (p := ⟨w2.heap.size, 0, none⟩) (by show mb ≠ w2.heap.size; omega) _⟩, M9⟩
   ·go_simp
    have M8 : Mod [mb] V (V.alloc (.cells #[.pointer none] 159)).drew := ((Mod.refl [mb] V).alloc _).then (Mod.drewN [mb] _ 1)
    have AR : aj (V.alloc (.cells #[.pointer none] 159)).drew V.heap.size 159 #[.pointer none] := (aj.new V _ _).drew
    have N7 := NZ.below (((Below.refl V.heap.size V).alloc (Nat.le_refl _) (.cells #[.pointer none] 159)).drew)
    obtain ⟨w3, hw3⟩ : ∃ w3, w3 = (V.alloc (.cells #[.pointer none] 159)).drew := ⟨_, rfl⟩
    rw [← hw3] at M8 AR N7 ⊢
    clear hw3
    refine hK.out _ _ (fun _ => HS.out _ M8) ?_
    clear hK K
    try simp only [pt]
    refine nT 7 rfl fun K hK => ?_
    go_simp
    refine (uJ ⟨gb, x.val * 25, none⟩ mb mt gH eD mo _ _ m c _ N7).mono ?_
    rintro e w2 ⟨rfl, hM2, hm2⟩
    simp only [bF]
    go_wp2_with fail
    have M7 : Mod [mb] V w2 := M8.then hm2
    replace AR := AR.mod hm2 (by simp; omega)
    refine hK.out _ _ (fun _ => HS.out _ M7) ?_
    clear hK K
    try simp only [pt]
    refine nT 9 rfl fun K hK => ?_
    have n0 := AR.cell 0
    simp only [List.getElem?_toArray, List.getElem?_cons_zero] at n0
    have nf := AR.frozen 0
    go_simp
    have M9 := M7.ak (b := V.heap.size) (.inr (Nat.le_refl _)) 0 (.pointer (some ⟨gb, x.val * 25, none⟩))
    refine hK.out _ _ (fun _ => HS.out _ M9) ?_
    clear hK K
    try simp only [pt]
    refine aT (by kernel_rfl) ?_ _
    exact ⟨V.heap.size, rfl, AR.ak 0 _, Nat.le_refl _, ⟨hM2.len, hM2.blk.far (p := ⟨V.heap.size, 0, none⟩) (by show mb ≠ V.heap.size; omega) _⟩, M9⟩
  ·rintro a' w2 ⟨vb, rfl, RF, hvb, hM2, hm2⟩
   simp only [Array.mk.injEq, List.cons_append, List.nil_append]
   have hK2 : aY w1.heap.size [W.heap.size, mb] w1 w2 := dM nD ((hm2.more (T := [W.heap.size, mb]) (by simp)).uK AL)
   have UZ : aY w1.heap.size [W.heap.size, mb] V w2 := (hm2.more (T := [W.heap.size, mb]) (by simp)).uK AL
   have jT := hTV.mod hm2 (by simp; omega) (by simp; omega)
   have hS2 := AQ.mod hm2 (by simp; omega)
   have U0 := hK2.blk hK1 (by omega) (by simp; omega)
   have U1 := hK2.blk hH1 (by omega) (by simp; omega)
   have hR2 := hK2.blk vC (by omega) (by simp; omega)
   have U2 : fQ w2 := hK2.tz hgs (by simp; omega) Zd
   have U3 : KeepsFrom w1.heap.size V w2 := iP hm2 (by simp; omega)
   have acP : w1.heap.size ≤ vb := Nat.le_trans AL hvb
   cases hfr : fA T.gs (vals pre)
   case' some y =>
    have hfr2 : fA T.gs (vals (pre ++ [x])) = some y := by rw [wS, r9, hfr]; rfl
    rw [hfr] at hS2 hfp
    obtain ⟨wq, hwq⟩ : ∃ wq, wq = w2 := ⟨_, rfl⟩
    obtain ⟨uF, F9⟩ : ∃ uF, uF = fp := ⟨_, rfl⟩
    rw [← hwq] at hS2 RF U0 U1 hR2 jT U2 U3 hK2 UZ hM2 ⊢
    rw [← F9] at hS2 hfp
    clear hwq F9 hm2
    have AU := hS2
    have Hq : gW gb (fA T.gs (vals (pre ++ [x]))) uF := hfr2 ▸ hfp
    have Hr := RF
    have hKq := U0
    have KF := hR2
    have RG := hM2
    have AV := hK2
    have U4 := UZ
    have U5 := U3
    have hHq := U1
    have Xb := jT
    have Ze := U2
    have hsl : ¬ bS (some y) < 0 := by simp only [bS]; omega
    generalize hsv : bS (some y) = sv at *
    have Xc : bS (fA T.gs (vals (pre ++ [x]))) = sv := by rw [hfr2]; exact hsv
    unfold dQ at AU
    obtain ⟨p0, p1, p2, p3, p4, p5, p6⟩ := AU.c7
   case' none =>
    rw [hfr] at hS2
    simp only [dQ, bS] at hS2
    obtain ⟨p0, p1, p2, p3, p4, p5, p6⟩ := hS2.c7
    have v0 := RF.cell 0
    simp only [List.getElem?_toArray, List.getElem?_cons_zero] at v0
    obtain ⟨q0, q1, q2, q3, q4, q5, q6⟩ := hS2.f7
    have KG := qd (UQ gb _ _ _ (x.val * 25) _ w2.drew ((jT.below (Below.refl _ _).drew).group x.val hxn) (fun i hi => U2 i hi))
    obtain ⟨fv, Zf⟩ : ∃ fv, fv = rJ (kE (T.gs.getD x.val [])) := ⟨_, rfl⟩
    rw [← Zf] at KG
    have Hfv := qd Zf
    clear Zf
    gi_wp2_with fail
    refine zn (fun (w' : World) => w'.cell? ⟨vb, 0, none⟩ = some (.pointer (some ⟨gb, x.val * 25, none⟩))) [5] (by kernel_rfl) (by kernel_rfl) (by rintro ⟨_, _, h⟩; exact h) ?_
    try (change bV _ _ _ _ _ _ _ _ _ (World.drew _))
    have hHeld := v0
    refine vT 0 rfl ?_
    refine vT 1 rfl ?_
    refine nT 2 rfl fun K hK => ?_
    go_simp
    refine (KG.out).mono ?_
    rintro e w3 ⟨rfl, hb3⟩
    replace hb3 : Below w2.heap.size w2 w3 := bI hb3 (Below.refl _ _).drew
    go_wp2_with fail
    have hHeld := show (fun (w' : World) => w'.cell? ⟨vb, 0, none⟩ = some (.pointer (some ⟨gb, x.val * 25, none⟩))) _ from aJ hb3 v0
    refine kO hK ?_
    clear hK K
    refine vW 3 rfl ?_
    refine vW 4 rfl ?_
    refine nT 5 rfl fun K hK => ?_
    have p5n := aJ hb3 p5
    have p6n := aJ hb3 p6
    have q5n := (hS2.below hb3 hS2.lt).frozen 5
    have q6n := (hS2.below hb3 hS2.lt).frozen 6
    go_simp
    refine kO hK ?_
    clear hK K
    refine aT (by kernel_rfl) ?_ _
    have hfr2 : fA T.gs (vals (pre ++ [x])) = (kE (T.gs.getD x.val [])).map fun s => (x.val, s) := by rw [wS, r9, hfr]; rfl
    have Zg : bS (fA T.gs (vals (pre ++ [x]))) = rJ (kE (T.gs.getD x.val [])) := by rw [hfr2]; cases kE (T.gs.getD x.val []) <;> rfl
    obtain ⟨wq, hwq⟩ : ∃ wq, wq = (w3.setCell ⟨W.heap.size, 5, none⟩ (.pointer (some ⟨gb, x.val * 25, none⟩))).setCell ⟨W.heap.size, 6, none⟩ (.int .i64 fv) := ⟨_, rfl⟩
    rw [← hwq]
    have Mq : Mod [W.heap.size] w2 wq := hwq ▸ (((Mod.of_below hb3 [W.heap.size]).ak (.inl (by simp)) _ _).ak (.inl (by simp)) _ _)
    have PG : aj wq W.heap.size 163 (dQ tb key hash none (-1) (some ⟨gb, x.val * 25, none⟩) fv) := by
     have := ((hS2.below hb3 hS2.lt).ak 5 (.pointer (some ⟨gb, x.val * 25, none⟩))).ak 6 (.int .i64 fv)
     rw [hwq]
     simpa only [List.setIfInBounds_toArray, List.set_cons_zero, List.set_cons_succ, dQ] using this
    obtain ⟨uF, F9⟩ : ∃ uF : Option Addr, uF = some ⟨gb, x.val * 25, none⟩ := ⟨_, rfl⟩
    rw [← F9] at PG
    have Hq : gW gb (fA T.gs (vals (pre ++ [x]))) uF := fun a b hab => by
     rw [hfr2] at hab
     cases hg2 : kE (T.gs.getD x.val []) with
     | none =>
      rw [hg2] at hab; cases hab
     | some s2 =>
      rw [hg2] at hab; cases hab; exact F9
    clear hwq F9
    have Hr := RF.mod Mq (by simp; omega)
    have hKq := U0.mod Mq (by simp; omega)
    have hHq := U1.mod Mq (by simp; omega)
    have KF := hR2.mod Mq (by simp; omega)
    have RG := hM2.mod Mq (by simp; omega)
    have Xb := jT.mod Mq (by simp; omega) (by simp; omega)
    have Zh := hK2.size
    have AV := dM hK2 (l9 (Mq.uK (Nat.le_refl _)) Zh (T := [W.heap.size, mb]) (by simp; omega))
    have U4 := dM UZ (l9 (Mq.uK (Nat.le_refl _)) Zh (T := [W.heap.size, mb]) (by simp; omega))
    have U5 := U3.trans (iP Mq (by simp; omega))
    have Ze : fQ wq := AV.tz hgs (by simp; omega) Zd
    obtain ⟨sv, U6⟩ : ∃ sv, sv = fv := ⟨_, rfl⟩
    rw [← U6] at PG
    have Xc : bS (fA T.gs (vals (pre ++ [x]))) = sv := by rw [Zg, U6]; exact Hfv.out.symm
    clear U6 Zg
    have AU := PG
    unfold dQ at AU
    clear PG hS2 hm2 Mq v0 RF
    obtain ⟨pz0, pz1, pz2, pz3, pz4, pz5, pz6⟩ := AU.c7
   all_goals
    have v0 := Hr.cell 0
    simp only [List.getElem?_toArray, List.getElem?_cons_zero] at v0
    have Zi := hKq.cell 0
    simp only [List.getElem?_toArray, List.getElem?_cons_zero] at Zi
    have hh0 := hHq.cell 0
    simp only [List.getElem?_toArray, List.getElem?_cons_zero] at hh0
    have CR := qd (rM (q := 7) (UO gb 198 (cZ (T.gs.take x.val)) (cZ (T.gs.drop (x.val + 1))) (x.val * 25) (T.gs.getD x.val []) wq (Xb.group x.val hxn) key hash h64 Ze))
    cases hf : gK (T.gs.getD x.val []) key hash with
    | some s =>
     rw [hf] at CR
     simp only [rJ] at CR
     have hs0 : (0 : Int) ≤ (s : Int) := by omega
     gi_wp2_with fail
     refine ⟨trivial, (CallsIn.inRound lp CR.out).mono ?_⟩
     rintro e w5 ⟨rfl, hb5⟩
     have wP := dM AV (aY.of_below (n₀ := w1.heap.size) (S := [W.heap.size, mb]) (hb5.mono (by have := AV.size; omega)))
     have PI := dM U4 (aY.of_below (n₀ := w1.heap.size) (S := [W.heap.size, mb]) (hb5.mono (by have := AV.size; omega)))
     have uh := U5.trans (iP (Mod.of_below hb5 []) (by simp))
     have hS5 := AU.below hb5 AU.lt
     have Ht := KF.below hb5 KF.lt
     have N8 := Hr.below hb5 Hr.lt
     have N9 := RG.below hb5
     have nH := Xb.below hb5
     obtain ⟨s0, s1, s2, s3, s4, s5, s6⟩ := hS5.c7
     obtain ⟨sf0, sf1, sf2, sf3, sf4, sf5, sf6⟩ := hS5.f7
     obtain ⟨r0, r1, r2, r3, r4, r5, r6⟩ := Ht.c7
     obtain ⟨Zj, rf1, rf2, rf3, rf4, rf5, rf6⟩ := Ht.f7
     have Oa := N8.cell 0
     simp only [List.getElem?_toArray, List.getElem?_cons_zero] at Oa
     clear v0 Zi hh0 hS5 N8 hb5 AU Hr KF RG
     obtain ⟨w6, lu⟩ : ∃ w6, w6 = ((((((((w5.setCell ⟨W.heap.size, 3, none⟩ (.pointer (some ⟨gb, x.val * 25, none⟩))).setCell ⟨W.heap.size, 4, none⟩ (nI s)).setCell ⟨w.heap.size + 1 + 1 + 1 + 1, 0, none⟩ (pQ tb)).setCell ⟨w.heap.size + 1 + 1 + 1 + 1, 1, none⟩ (nU key)).setCell ⟨w.heap.size + 1 + 1 + 1 + 1, 2, none⟩ (nU hash)).setCell ⟨w.heap.size + 1 + 1 + 1 + 1, 3, none⟩ (.pointer (some ⟨gb, x.val * 25, none⟩))).setCell ⟨w.heap.size + 1 + 1 + 1 + 1, 4, none⟩ (nI s)).setCell ⟨w.heap.size + 1 + 1 + 1 + 1, 5, none⟩ (.pointer uF)).setCell ⟨w.heap.size + 1 + 1 + 1 + 1, 6, none⟩ (.int .i64 sv) := ⟨_, rfl⟩
     have M6 : Mod [W.heap.size, w.heap.size + 1 + 1 + 1 + 1] w5 w6 := lu ▸ ((((((((((Mod.refl [W.heap.size, w.heap.size + 1 + 1 + 1 + 1] w5).ak (.inl (by simp)) _ _).ak (.inl (by simp)) _ _).ak (.inl (by simp)) _ _).ak (.inl (by simp)) _ _).ak (.inl (by simp)) _ _).ak (.inl (by simp)) _ _).ak (.inl (by simp)) _ _).ak (.inl (by simp)) _ _).ak (.inl (by simp)) _ _)
     have B6 : aj w6 (w.heap.size + 1 + 1 + 1 + 1) 163 (dQ tb key hash (some ⟨gb, x.val * 25, none⟩) (s : Int) uF sv) := by
      have := (((((((((Ht).far (p := ⟨W.heap.size, 3, none⟩) (by show w.heap.size + 1 + 1 + 1 + 1 ≠ W.heap.size; omega) (.pointer (some ⟨gb, x.val * 25, none⟩))).far (p := ⟨W.heap.size, 4, none⟩) (by show w.heap.size + 1 + 1 + 1 + 1 ≠ W.heap.size; omega) (nI s)).ak 0 (pQ tb)).ak 1 (nU key)).ak 2 (nU hash)).ak 3 (.pointer (some ⟨gb, x.val * 25, none⟩))).ak 4 (nI s)).ak 5 (.pointer uF)).ak 6 (.int .i64 sv)
      rw [lu]
      simpa only [List.setIfInBounds_toArray, List.set_cons_zero, List.set_cons_succ, dQ] using this
     have T6 := N9.mod M6 (by simp; omega)
     have K6 : aY w.heap.size [mb] w w6 := dM (dM (aY.of_below (yH.trans (hb1.mono yH.size))) (l9 wP (by omega) (by simp; omega))) (l9 (M6.uK (Nat.le_refl _)) (by have := wP.size; have := yH.size; omega) (by simp; omega))
     have F6 : KeepsFrom w1.heap.size V w6 := uh.trans (iP M6 (by simp; omega))
     have HE := qd (And.intro B6 (And.intro T6 (And.intro K6 F6)))
     clear M6 B6 T6 K6 F6
     have RH := qd lu
     clear lu
     gi_wp2
     rw [← RH.out]
     exact ⟨HE.out.2.2.2, ⟨rfl, pre, x, some ⟨gb, x.val * 25, none⟩, uF, rfl, hps, .inl (by rw [hf]; simp), by rw [Xc, uL, hf]; exact HE.out.1, fun a b hab => by rw [uL, hf] at hab; cases hab; rfl, Hq, by rw [List.length_append]; exact HE.out.2.1⟩, HE.out.2.2.1⟩
    | none =>
     rw [hf] at CR
     simp only [rJ] at CR
     gi_wp2_with fail
     refine ⟨trivial, (CallsIn.inRound lp CR.out).mono ?_⟩
     rintro e w4 ⟨rfl, hb4⟩
     have hK4 := dM AV (aY.of_below (n₀ := w1.heap.size) (S := [W.heap.size, mb]) (hb4.mono (by have := AV.size; omega)))
     have Zk := dM U4 (aY.of_below (n₀ := w1.heap.size) (S := [W.heap.size, mb]) (hb4.mono (by have := AV.size; omega)))
     have AO := U5.trans (iP (Mod.of_below hb4 []) (by simp))
     have Ab := AU.below hb4 AU.lt
     have mQ := KF.below hb4 KF.lt
     have Ob := Hr.below hb4 Hr.lt
     have EX := RG.below hb4
     have Oc := Xb.below hb4
     have Oa := Ob.cell 0
     simp only [List.getElem?_toArray, List.getElem?_cons_zero] at Oa
     have KH := qd (rM (q := 7) (UR gb _ _ _ (x.val * 25) _ w4 (Oc.group x.val hxn)))
     cases ho' : dF (T.gs.getD x.val []) with
     | true =>
      rw [ho'] at KH
      have ho : dF (T.gs.getD x.val []) = true := ho'
      gi_wp2_with fail
      refine ⟨trivial, (CallsIn.inRound lp KH.out).mono ?_⟩
      rintro e w5 ⟨rfl, hb5⟩
      have wP := dM hK4 (aY.of_below (n₀ := w1.heap.size) (S := [W.heap.size, mb]) (hb5.mono (by have := hK4.size; omega)))
      have PI := dM Zk (aY.of_below (n₀ := w1.heap.size) (S := [W.heap.size, mb]) (hb5.mono (by have := hK4.size; omega)))
      have uh := AO.trans (iP (Mod.of_below hb5 []) (by simp))
      have hS5 := Ab.below hb5 Ab.lt
      have Ht := mQ.below hb5 mQ.lt
      have N8 := Ob.below hb5 Ob.lt
      have N9 := EX.below hb5
      have nH := Oc.below hb5
      obtain ⟨s0, s1, s2, s3, s4, s5, s6⟩ := hS5.c7
      obtain ⟨sf0, sf1, sf2, sf3, sf4, sf5, sf6⟩ := hS5.f7
      obtain ⟨r0, r1, r2, r3, r4, r5, r6⟩ := Ht.c7
      obtain ⟨Zj, rf1, rf2, rf3, rf4, rf5, rf6⟩ := Ht.f7
      have Oa := N8.cell 0
      simp only [List.getElem?_toArray, List.getElem?_cons_zero] at Oa
      clear v0 Zi hh0 Oa hS5 N8 hb5 AU Hr KF RG Ab mQ Ob EX
      obtain ⟨w6, lu⟩ : ∃ w6, w6 = ((((((w5.setCell ⟨w.heap.size + 1 + 1 + 1 + 1, 0, none⟩ (pQ tb)).setCell ⟨w.heap.size + 1 + 1 + 1 + 1, 1, none⟩ (nU key)).setCell ⟨w.heap.size + 1 + 1 + 1 + 1, 2, none⟩ (nU hash)).setCell ⟨w.heap.size + 1 + 1 + 1 + 1, 3, none⟩ (.pointer none)).setCell ⟨w.heap.size + 1 + 1 + 1 + 1, 4, none⟩ (.int .i64 (-1))).setCell ⟨w.heap.size + 1 + 1 + 1 + 1, 5, none⟩ (.pointer uF)).setCell ⟨w.heap.size + 1 + 1 + 1 + 1, 6, none⟩ (.int .i64 sv) := ⟨_, rfl⟩
      have M6 : Mod [W.heap.size, w.heap.size + 1 + 1 + 1 + 1] w5 w6 := lu ▸ ((((((((Mod.refl [W.heap.size, w.heap.size + 1 + 1 + 1 + 1] w5).ak (.inl (by simp)) _ _).ak (.inl (by simp)) _ _).ak (.inl (by simp)) _ _).ak (.inl (by simp)) _ _).ak (.inl (by simp)) _ _).ak (.inl (by simp)) _ _).ak (.inl (by simp)) _ _)
      have B6 : aj w6 (w.heap.size + 1 + 1 + 1 + 1) 163 (dQ tb key hash none (-1) uF sv) := by
       have := (((((((Ht).ak 0 (pQ tb)).ak 1 (nU key)).ak 2 (nU hash)).ak 3 (.pointer none)).ak 4 (.int .i64 (-1))).ak 5 (.pointer uF)).ak 6 (.int .i64 sv)
       rw [lu]
       simpa only [List.setIfInBounds_toArray, List.set_cons_zero, List.set_cons_succ, dQ] using this
      have T6 := N9.mod M6 (by simp; omega)
      have K6 : aY w.heap.size [mb] w w6 := dM (dM (aY.of_below (yH.trans (hb1.mono yH.size))) (l9 wP (by omega) (by simp; omega))) (l9 (M6.uK (Nat.le_refl _)) (by have := wP.size; have := yH.size; omega) (by simp; omega))
      have F6 : KeepsFrom w1.heap.size V w6 := uh.trans (iP M6 (by simp; omega))
      have HE := qd (And.intro B6 (And.intro T6 (And.intro K6 F6)))
      clear M6 B6 T6 K6 F6
      have RH := qd lu
      clear lu
      gi_wp2
      rw [← RH.out]
      exact ⟨HE.out.2.2.2, ⟨rfl, pre, x, none, uF, rfl, hps, .inr ho, by rw [Xc, uL, hf]; exact HE.out.1, (fun a b hab => by rw [uL, hf] at hab; cases hab), Hq, by rw [List.length_append]; exact HE.out.2.1⟩, HE.out.2.2.1⟩
     | false =>
      rw [ho'] at KH
      gi_wp2_with fail
      refine ⟨trivial, (CallsIn.inRound lp KH.out).mono ?_⟩
      rintro e w5 ⟨rfl, hb5⟩
      have wP := dM hK4 (aY.of_below (n₀ := w1.heap.size) (S := [W.heap.size, mb]) (hb5.mono (by have := hK4.size; omega)))
      have PI := dM Zk (aY.of_below (n₀ := w1.heap.size) (S := [W.heap.size, mb]) (hb5.mono (by have := hK4.size; omega)))
      have uh := AO.trans (iP (Mod.of_below hb5 []) (by simp))
      have hS5 := Ab.below hb5 Ab.lt
      have Ht := mQ.below hb5 mQ.lt
      have N8 := Ob.below hb5 Ob.lt
      have N9 := EX.below hb5
      have nH := Oc.below hb5
      have Zl := qd (show ∀ y ∈ pre ++ [x], Passed T.gs key hash y.val from fun y hy => (List.mem_append.1 hy).elim (hps y) (fun e => by simp at e; subst e; exact ⟨hf, ho'⟩))
      have HL5 := qd (show Met w5 mb mt gH eD mo (eB a0 c (pre ++ [x]).length) (eB l0 c (pre ++ [x]).length) m from by rw [List.length_append]; exact N9)
      have KI := qd (show ∃ fp, aj w5 W.heap.size 163 (dQ tb key hash none (-1) fp (bS (fA T.gs (vals (pre ++ [x]))))) ∧ gW gb (fA T.gs (vals (pre ++ [x]))) fp from ⟨uF, by rw [Xc]; exact hS5, Hq⟩)
      have HE := qd (And.intro uh (And.intro PI wP))
      clear hps hf ho' N9 hS5 uh PI wP
      gi_wp2
      exact ⟨HE.out.1, HE.out.2.1, ⟨KI.out, HL5.out, Zl.out⟩, HE.out.2.2⟩
 case done =>
  rintro D ys V hD hys ⟨⟨⟨fp, AQ, hfp⟩, NZ, hps⟩, nD⟩ pJ
  have hse : aH T.gs key hash = (none, fA T.gs (vals ys), ys.length) := by
   have := UW (gs := T.gs) (key := key) (hash := hash) (pre := vals ys) hys (fun i hi => by
    obtain ⟨y, hy, rfl⟩ := List.mem_map.1 hi
    exact hps y hy)
   rw [this]; simp [vals]
  have ru := nD.blk vC (by omega) (by simp; omega)
  obtain ⟨sv, U7⟩ : ∃ sv, bS (fA T.gs (vals ys)) = sv := ⟨_, rfl⟩
  rw [U7] at AQ
  unfold dQ at AQ
  have s0 := AQ.cell 0
  have s1 := AQ.cell 1
  have s2 := AQ.cell 2
  have s3 := AQ.cell 3
  have s4 := AQ.cell 4
  have s5 := AQ.cell 5
  have s6 := AQ.cell 6
  have r0 := ru.cell 0
  have r1 := ru.cell 1
  have r2 := ru.cell 2
  have r3 := ru.cell 3
  have r4 := ru.cell 4
  have r5 := ru.cell 5
  have r6 := ru.cell 6
  simp only [gl] at s0 s1 s2 s3 s4 s5 s6 r0 r1 r2 r3 r4 r5 r6
  obtain ⟨f0, f1, f2, f3, f4, f5, f6⟩ := ru.f7
  obtain ⟨w6, lu⟩ : ∃ w6, w6 = ((((((V.setCell ⟨w.heap.size + 1 + 1 + 1 + 1, 0, none⟩ (pQ tb)).setCell ⟨w.heap.size + 1 + 1 + 1 + 1, 1, none⟩ (nU key)).setCell ⟨w.heap.size + 1 + 1 + 1 + 1, 2, none⟩ (nU hash)).setCell ⟨w.heap.size + 1 + 1 + 1 + 1, 3, none⟩ (.pointer none)).setCell ⟨w.heap.size + 1 + 1 + 1 + 1, 4, none⟩ (.int .i64 (-1))).setCell ⟨w.heap.size + 1 + 1 + 1 + 1, 5, none⟩ (.pointer fp)).setCell ⟨w.heap.size + 1 + 1 + 1 + 1, 6, none⟩ (.int .i64 sv) := ⟨_, rfl⟩
  have M6 : Mod [w.heap.size + 1 + 1 + 1 + 1] V w6 := lu ▸ ((((((((Mod.refl [w.heap.size + 1 + 1 + 1 + 1] V).ak (.inl (by simp)) _ _).ak (.inl (by simp)) _ _).ak (.inl (by simp)) _ _).ak (.inl (by simp)) _ _).ak (.inl (by simp)) _ _).ak (.inl (by simp)) _ _).ak (.inl (by simp)) _ _)
  have O6 : KeepsOthers V w6 := lu ▸ ((((((((KeepsOthers.refl V).trans (KeepsOthers.setCell _ ⟨w.heap.size + 1 + 1 + 1 + 1, 0, none⟩ (pQ tb))).trans (KeepsOthers.setCell _ ⟨w.heap.size + 1 + 1 + 1 + 1, 1, none⟩ (nU key))).trans (KeepsOthers.setCell _ ⟨w.heap.size + 1 + 1 + 1 + 1, 2, none⟩ (nU hash))).trans (KeepsOthers.setCell _ ⟨w.heap.size + 1 + 1 + 1 + 1, 3, none⟩ (.pointer none))).trans (KeepsOthers.setCell _ ⟨w.heap.size + 1 + 1 + 1 + 1, 4, none⟩ (.int .i64 (-1)))).trans (KeepsOthers.setCell _ ⟨w.heap.size + 1 + 1 + 1 + 1, 5, none⟩ (.pointer fp))).trans (KeepsOthers.setCell _ ⟨w.heap.size + 1 + 1 + 1 + 1, 6, none⟩ (.int .i64 sv)))
  have B6 : aj w6 (w.heap.size + 1 + 1 + 1 + 1) 163 (dQ tb key hash none (-1) fp sv) := by
   have := (((((((ru).ak 0 (pQ tb)).ak 1 (nU key)).ak 2 (nU hash)).ak 3 (.pointer none)).ak 4 (.int .i64 (-1))).ak 5 (.pointer fp)).ak 6 (.int .i64 sv)
   rw [lu]
   simpa only [List.setIfInBounds_toArray, List.set_cons_zero, List.set_cons_succ, dQ] using this
  have PK := O6.same D _ pJ rfl
  have vF := yG B6 (grownBy_putObj' w6 D (.deferred none)) (fun r e => by cases e; exact ⟨_, PK, rfl⟩)
  have Xd := Ch (NZ.mod M6 (by simp; omega)) (grownBy_putObj' w6 D (.deferred none)) (fun r e => by cases e; exact ⟨_, PK, rfl⟩)
  have NW : Mod [mb] w (w6.putObj D (.deferred none)) := (dM (dM (dM (aY.of_below (yH.trans (hb1.mono yH.size))) (l9 nD (by omega) (by simp; omega))) (l9 (M6.uK (Nat.le_refl _)) (by have := nD.size; omega) (by simp; omega))) (uW (w := w) (Nat.le_refl _) w6 D _ _ (by omega) PK rfl rfl)).mod
  have HE := qd (And.intro Xd NW)
  have RH := qd lu
  have Xe := qd hse
  have Hsv := qd U7
  clear lu M6 O6 B6 Xd NW hse U7
  go_wp2
  rw [← RH.out]
  refine uX ⟨by simp, .inl ⟨_, _, rfl, run_takeDeferred PK, ?_⟩⟩
  have d0 := vF.cell 0
  have d1 := vF.cell 1
  have d2 := vF.cell 2
  have d3 := vF.cell 3
  have d4 := vF.cell 4
  have d5 := vF.cell 5
  have d6 := vF.cell 6
  simp only [dQ, List.getElem?_toArray, List.getElem?_cons_zero, List.getElem?_cons_succ] at d0 d1 d2 d3 d4 d5 d6
  refine ⟨.agg (dQ tb key hash none (-1) fp sv), ?_, none, fp, ?_⟩
  ·simp [results, Tryz.f80, go_sem, d0, d1, d2, d3, d4, d5, d6, dQ]
  ·rw [Xe.out]
   exact ⟨by rw [Hsv.out]; rfl, (fun i s hab => by cases hab), hfp, HE.out.1, HE.out.2⟩
 case stop =>
  rintro D cd pre V hD ⟨j, hj, hj2⟩ ⟨⟨rfl, pre', x, ap, fp, he, hps, hend, ru, hap, hfp, NZ⟩, nD⟩ pJ
  subst he
  have hse := RD hj2 hps hend
  have hc0 := ru.cell 0
  have hc1 := ru.cell 1
  have hc2 := ru.cell 2
  have hc3 := ru.cell 3
  have hc4 := ru.cell 4
  have W9 := ru.cell 5
  have hc6 := ru.cell 6
  have vF : aj (V.putObj D (.deferred none)) (w.heap.size + 1 + 1 + 1 + 1) 163 _ := yG ru (grownBy_putObj' V D (.deferred none)) (fun r e => by cases e; exact ⟨_, pJ, rfl⟩)
  have Xd := Ch NZ (grownBy_putObj' V D (.deferred none)) (fun r e => by cases e; exact ⟨_, pJ, rfl⟩)
  gi_wp2
  refine uX ⟨by simp, .inl ⟨_, _, rfl, run_takeDeferred pJ, ?_⟩⟩
  have d0 := vF.cell 0
  have d1 := vF.cell 1
  have d2 := vF.cell 2
  have d3 := vF.cell 3
  have d4 := vF.cell 4
  have d5 := vF.cell 5
  have d6 := vF.cell 6
  simp only [dQ, List.getElem?_toArray, List.getElem?_cons_zero, List.getElem?_cons_succ] at d0 d1 d2 d3 d4 d5 d6
  refine ⟨.agg (dQ tb key hash ap (bS (uL T.gs key hash x.val)) fp (bS (fA T.gs (vals (pre' ++ [x]))))), ?_, ap, fp, ?_⟩
  ·simp [results, Tryz.f80, go_sem, d0, d1, d2, d3, d4, d5, d6, dQ]
  ·rw [hse]
   exact ⟨rfl, hap, hfp, Xd, (dM nD (uW (w := w) (Nat.le_refl _) V D _ _ (by have := yH.size; omega) pJ rfl rfl)).mod⟩
end Go.Proofs.YtbphcldoflekpaaGreatDoor
