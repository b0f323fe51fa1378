/- A table's Seek by its contract. -/
import Derived.Test.YtfojgfddgplinabGreatDoorTabS
import Derived.Test.YtfojgfddgplinabGreatDoorSqT
import Derived.Test.YtfojgfddgplinabGreatDoorLaneP
namespace Go.Proofs.YtfojgfddgplinabGreatDoor
set_option maxRecDepth 100000
set_option maxHeartbeats 4000000
open Go.RowKit Go.Shelf dG
variable {S : List Nat} {X Y w w' : World} {row : Option Nat} {t : TypeId} {n : Nat}
attribute [local go_sem] Oper.semAt_some
def eD (a c : bF) : Nat → bF
 | 0 => a
 | k + 1 => iT (eD a c k) c
theorem Mod.cell_ (h : Mod S w w') {p : Addr} (hp : p.block < w.heap.size) (hs : p.block ∉ S) : w'.cell? p = w.cell? p := World.cell?_of_block (w := w) (h.block p.block hp hs)
theorem dQ {B : Nat} (h : Mod S w w') (hS : ∀ k, k ∈ S → k < B) : KeepsFrom B w w' := ⟨h.size, fun k o hB hk _ => (h.block k (Array.getElem?_eq_some_iff.1 hk).1 (fun hh => absurd (hS k hh) (by omega))).trans hk⟩
theorem iN {n₀ n₁ : Nat} {T : List Nat} {A B : World} (h : aQ n₀ S A B) (hn : n₁ ≤ n₀) (hS : ∀ k, k < n₁ → k ∈ S → k ∈ T) : aQ n₁ T A B := ⟨h.os, h.tape, h.output, h.size, fun k hk hT => h.block k (by omega) (fun hh => hT (hS k hk hh))⟩
theorem yL {g : Nat} {cs : Array Value} (h : aj X g t cs) (hg : X.grownBy Y row) (hr : ∀ r, row = some r → ∃ o : Obj, X.heap[r]? = some o ∧ o.isCells = false) : aj Y g t cs := by
 refine (hg.block g h.lt (fun e => ?_)).trans h
 obtain ⟨o, ho, hc⟩ := hr g e.symm
 rw [show X.heap[g]? = _ from h] at ho; cases ho; cases hc
theorem Cv {mb : Nat} {pre post : List Value} {mo : Nat} {a l : bF} {m : Int} (h : Met X mb t pre post mo a l m) (hg : X.grownBy Y row) (hr : ∀ r, row = some r → ∃ o : Obj, X.heap[r]? = some o ∧ o.isCells = false) : Met Y mb t pre post mo a l m := ⟨h.len, yL h.blk hg hr⟩
def bO (x : Option (Nat × Nat)) : Int := match x with
 | some y => (y.2 : Int)
 | none => -1
def dA (tb key hash : Nat) (ap : Option Addr) (YH : Int) (fp : Option Addr) (fs : Int) : Array Value := #[.pointer (some ⟨tb, 0, none⟩), .int .u64 (key : Int), .int .u64 (hash : Int), .pointer ap, .int .i64 YH, .pointer fp, .int .i64 fs]
def gy (gb : Nat) (x : Option (Nat × Nat)) (p : Option Addr) : Prop := ∀ i s, x = some (i, s) → p = some ⟨gb, i * 25, none⟩
def vals {n : Nat} (pre : List (Fin n)) : List Nat := pre.map Fin.val
theorem xu (pre : List (Fin n)) (x : Fin n) : vals (pre ++ [x]) = vals pre ++ [x.val] := by simp [vals]
def oG (gs : Tab) (key hash i : Nat) : Option (Nat × Nat) := (fT (gs.getD i []) key hash).map fun s => (i, s)
theorem Q6 {gs : Tab} {key hash : Nat} {pre : List (Fin n)} {x : Fin n} {j : Nat} (hj : vals (pre ++ [x]) = (walk (hash / 128) gs.length).take j) (h : ∀ y ∈ pre, Passed gs key hash y.val) (he : fT (gs.getD x.val []) key hash ≠ none ∨ dD (gs.getD x.val []) = true) : aH gs key hash = (oG gs key hash x.val, eO gs (vals (pre ++ [x])), (pre ++ [x]).length) := by
 have hw : vals pre ++ x.val :: (walk (hash / 128) gs.length).drop j = walk (hash / 128) gs.length := by
  have := List.take_append_drop j (walk (hash / 128) gs.length)
  rw [← hj, xu, List.append_assoc] at this
  exact this
 have hp : ∀ i ∈ vals pre, Passed gs key hash i := fun i hi => by
  obtain ⟨y, hy, rfl⟩ := List.mem_map.1 hi
  exact h y hy
 have hlen : (vals pre ++ [x.val]).length = (pre ++ [x]).length := by simp [vals]
 unfold oG
 rw [xu, ← hlen]
 cases hf : fT (gs.getD x.val []) key hash with
 | some s => exact Ur hw hp hf
 | none =>
  rcases he with he | he
  ·exact absurd hf he
  ·exact Q5 hw hp hf he
theorem uU (tb gb key hash : Nat) (T : aC) (mb : Nat) (mt : TypeId) (iH fC : List Value) (mo : Nat) (a0 l0 : bF) (m : Int) (c : bF) (w : World) (h : TabAt w tb gb T) (hP : Pw T.gs.length) (h64 : hash < 18446744073709551616) (hM : Met w mb mt iH fC mo a0 l0 m) (hmt : mb ≠ tb) (iD : mb ≠ gb) (hT : fK w) (hz : 11 ≠ mb) :
  Calls Tryz.prog 67 #[bT tb, aJ (some ⟨mb, mo, none⟩) c, .int .u64 (key : Int), .int .u64 (hash : Int)] w fun e w' => ∃ ap fp, e = .returned (bQ tb key hash ap (bO (aH T.gs key hash).1) fp (bO (aH T.gs key hash).2.1)) ∧
   (∀ i s, (aH T.gs key hash).1 = some (i, s) → ap = some ⟨gb, i * 25, none⟩) ∧ (∀ i s, (aH T.gs key hash).2.1 = some (i, s) → fp = some ⟨gb, i * 25, none⟩) ∧
   Met w' mb mt iH fC mo (eD a0 c (aH T.gs key hash).2.2) (eD l0 c (aH T.gs key hash).2.2) m ∧ Mod [mb] w w' := by
 obtain ⟨W, hW, hB, hA, hL, hK, hH, hR⟩ := Yr w 137 #[.pointer (some ⟨tb, 0, none⟩)] 112 #[.pointer (some ⟨mb, mo, none⟩), .int .i64 c.p, .int .i64 c.v, .int .i64 c.u] 35 #[.int .u64 (key : Int)] 35 #[.int .u64 (hash : Int)] 159 #[.pointer none, .int .u64 0, .int .u64 0, .pointer none, .int .i64 0, .pointer none, .int .i64 0]
 have nA := h.below hB
 have hMW := hM.below hB
 have HW := qd hW
 have HB := qd hB
 have hg := World.block_lt_of_cell? w _ (hT 0 (by omega))
 have htl := h.aT
 have hgl := h.aU
 have hml := hM.lt
 unfold bT aJ bQ
 clear hW hB h hM
 refine (callsIn_wide (n := 10)).1 ?_
 have h1 : 1 ≤ 10 := by omega
 refine kJ Tryz.func67 rfl trivial rfl ?_
 simp only [Tryz.ntmps67, List.size_toArray, List.length_cons, List.length_nil, Nat.reduceAdd, Nat.reduceSub, Array.replicate_succ, Array.replicate_zero, List.push_toArray, List.append_toArray, List.nil_append, List.cons_append]
 refine wpIn_wide.2 ?_
 go_upto_region 1 with fail
 rw [← HW.out]
 have ca0 := hA.cell 0
 simp only [List.getElem?_toArray, List.getElem?_cons_zero] at ca0
 have ck0 := hK.cell 0
 simp only [List.getElem?_toArray, List.getElem?_cons_zero] at ck0
 have ch0 := hH.cell 0
 simp only [List.getElem?_toArray, List.getElem?_cons_zero] at ch0
 go_upto_region 2 with fail
 have hSp := aj.new W 159 #[.pointer (some ⟨tb, 0, none⟩), .int .u64 (key : Int), .int .u64 (hash : Int), .pointer none, .int .i64 (-1), .pointer none, .int .i64 (-1)]
 have hBW := (Below.refl W.heap.size W).alloc (Nat.le_refl _) (.cells #[.pointer (some ⟨tb, 0, none⟩), .int .u64 (key : Int), .int .u64 (hash : Int), .pointer none, .int .i64 (-1), .pointer none, .int .i64 (-1)] 159)
 obtain ⟨W1, hW1⟩ : ∃ W1, W1 = W.alloc (.cells #[.pointer (some ⟨tb, 0, none⟩), .int .u64 (key : Int), .int .u64 (hash : Int), .pointer none, .int .i64 (-1), .pointer none, .int .i64 (-1)] 159) := ⟨_, rfl⟩
 rw [← hW1] at hSp hBW ⊢
 have HW1 := qd hW1
 clear hW1
 have hT1 := nA.below hBW
 have hM1 := hMW.below hBW
 have ht := aF hBW ca0
 have hh := aF hBW ch0
 have hc := hT1.cells.1
 have qR : Below w.heap.size w W1 := bE hBW HB.out
 have hlR := hR.lt
 have acn := hSp.lt
 refine rT (fun (w' : World) => w'.cell? ⟨w.heap.size + 1 + 1 + 1, 0, none⟩ = some (.int .u64 (hash : Int)) ∧ w'.cell? ⟨w.heap.size, 0, none⟩ = some (.pointer (some ⟨tb, 0, none⟩)) ∧ w'.cell? ⟨tb, 0, none⟩ = some (.slice (some ⟨gb, 0, none⟩) T.gs.length T.gs.length)) [] ?_
 have hHeld := (⟨hh, ht, hc⟩ : _ ∧ _ ∧ _)
 refine vT 0 rfl ?_
 refine vT 2 rfl ?_
 refine vW 3 rfl ?_
 refine vW 4 rfl ?_
 refine vT 5 rfl ?_
 refine vW 6 rfl ?_
 refine nT 1 rfl fun K hK => ?_
 go_simp
 refine (TR hash _).mono ?_
 rintro e w1 ⟨rfl, rfl⟩
 go_wp2_with fail
 have hHeld := (⟨hh, ht, hc⟩ : _ ∧ _ ∧ _)
 refine kO hK ?_
 clear hK K
 refine nT 7 rfl fun K hK => ?_
 go_simp
 refine (OV (hash / 128) T.gs.length _).mono ?_
 rintro e w1 ⟨rfl, hw1⟩
 have hb1 : Below W1.heap.size W1 w1 := hw1 ▸ (((Below.refl W1.heap.size W1).drew).alloc (Nat.le_refl _) _).alloc (by simp) _
 have Dh : aj w1 W1.heap.size 35 #[.int .u64 ((hash / 128 : Nat) : Int)] := hw1 ▸ (aj.new W1.drew _ _).alloc _
 have hBg : aj w1 (W1.heap.size + 1) 3 #[.int .i64 (T.gs.length : Int)] := by rw [← hw1]; have := aj.new (W1.drew.alloc (.cells #[.int .u64 ((hash / 128 : Nat) : Int)] 35)) 3 #[.int .i64 (T.gs.length : Int)]; simpa using this
 clear hw1
 go_wp2_with fail
 replace hh := aF hb1 hh
 replace ht := aF hb1 ht
 replace hc := aF hb1 hc
 have hHeld := (⟨hh, ht, hc⟩ : _ ∧ _ ∧ _)
 refine kO hK ?_
 clear hK K
 refine aS (by kernel_rfl) ?_ _
 go_wp2_with fail
 refine (wpIn_wide (n := 10)).1 ?_
 have hA1 := (hA.below hBW hA.lt).below hb1 (hA.below hBW hA.lt).lt
 have hL1 := (hL.below hBW hL.lt).below hb1 (hL.below hBW hL.lt).lt
 have hK1 := (hK.below hBW hK.lt).below hb1 (hK.below hBW hK.lt).lt
 have hH1 := (hH.below hBW hH.lt).below hb1 (hH.below hBW hH.lt).lt
 have vM := (hR.below hBW hR.lt).below hb1 (hR.below hBW hR.lt).lt
 have hTw := hT1.below hb1
 have YI : fK w1 := fun i hi => ((qR.trans (hb1.mono qR.size)).cell (p := ⟨11, oD i, none⟩) hg).trans (hT i hi)
 have hbl := hb1.size
 have hgs : 11 < w1.heap.size := by have := qR.size; omega
 refine wpIn_rangeFunc_ownH rfl h1 (gf := 144) (lb := #[.pointer (some ⟨W1.heap.size + 1, 0, none⟩), .pointer (some ⟨W1.heap.size, 0, none⟩)]) rfl trivial (enters_of Tryz.func144 (by kernel_rfl) rfl)
  (OW (10 - 1) (by omega) (W1.heap.size + 1) W1.heap.size w1.heap.size [W.heap.size, mb] (hash / 128) T.gs.length (by omega) hP w1 hBg.lt (by simp; omega) Dh.lt (Nat.le_refl _) (hBg.cell 0) (Dh.cell 0)) bL (vD (Nat.le_refl _)) (Below.refl _ _) (fun _ => rfl)
  (fun pre V => ((∃ fp, aj V W.heap.size 159 (dA tb key hash none (-1) fp (bO (eO T.gs (vals pre)))) ∧ gy gb (eO T.gs (vals pre)) fp) ∧ Met V mb mt iH fC mo (eD a0 c pre.length) (eD l0 c pre.length) m ∧ ∀ y ∈ pre, Passed T.gs key hash y.val) ∧ aQ w1.heap.size [W.heap.size, mb] w1 V)
  (fun cd pre V => (cd = .ret ∧ ∃ pre' x ap fp, pre = pre' ++ [x] ∧ (∀ y ∈ pre', Passed T.gs key hash y.val) ∧ (fT (T.gs.getD x.val []) key hash ≠ none ∨ dD (T.gs.getD x.val []) = true) ∧
   aj V (w.heap.size + 1 + 1 + 1 + 1) 159 (dA tb key hash ap (bO (oG T.gs key hash x.val)) fp (bO (eO T.gs (vals pre)))) ∧ gy gb (oG T.gs key hash x.val) ap ∧ gy gb (eO T.gs (vals pre)) fp ∧
   Met V mb mt iH fC mo (eD a0 c pre.length) (eD l0 c pre.length) m) ∧ aQ w.heap.size [mb] w V)
  (OwnFrom.and (fun _ X Y row hs hg hr => by
   obtain ⟨⟨fp, h2, h3⟩, h4, h5⟩ := hs
   exact ⟨⟨fp, yL h2 hg (fun r e => (hr r e).2), h3⟩, Cv h4 hg (fun r e => (hr r e).2), h5⟩) (pF (Nat.le_refl _) (Nat.le_refl _)))
  (fun cd => OwnFrom.and (fun _ X Y row hs hg hr => by
   obtain ⟨h0, pre', x, ap, fp, h2, h3, h4, h5, h6, h7, h8⟩ := hs
   exact ⟨h0, pre', x, ap, fp, h2, h3, h4, yL h5 hg (fun r e => (hr r e).2), h6, h7, Cv h8 hg (fun r e => (hr r e).2)⟩) (pF (Nat.le_refl _) (by have := qR.size; omega)))
  ⟨⟨⟨none, hSp.below hb1 hSp.lt, fun i s he => by cases he⟩, hM1.below hb1, by simp⟩, aQ.refl _ _ _⟩
  (fun x a' _ => a' = { tmps := #[.pointer (some ⟨tb, 0, none⟩), .agg #[.pointer (some ⟨mb, mo, none⟩), .int .i64 c.p, .int .i64 c.v, .int .i64 c.u], .int .u64 (key : Int), .int .u64 (hash : Int), .pointer (some ⟨w.heap.size, 0, none⟩), .pointer (some ⟨w.heap.size + 1, 0, none⟩), .pointer (some ⟨w.heap.size + 1 + 1, 0, none⟩), .pointer (some ⟨w.heap.size + 1 + 1 + 1, 0, none⟩), .pointer (some ⟨w.heap.size + 1 + 1 + 1 + 1, 0, none⟩), .pointer (some ⟨W.heap.size, 0, none⟩), .int .i64 (x.val : Int), undef, undef, .pointer (some ⟨tb, 0, none⟩), .int .u64 (key : Int), .int .u64 (hash : Int), .agg #[.pointer none, .int .i64 (-1)], .agg #[.pointer none, .int .i64 (-1)], .agg #[.pointer (some ⟨tb, 0, none⟩), .int .u64 (key : Int), .int .u64 (hash : Int), .pointer none, .int .i64 (-1), .pointer none, .int .i64 (-1)], .int .u64 (hash : Int), .int .u64 ((hash : Int) / 128), .pointer (some ⟨tb, 0, none⟩), .pointer (some ⟨tb, 0, none⟩), .pointer (some ⟨tb, 0, none⟩), .slice (some ⟨gb, 0, none⟩) T.gs.length T.gs.length, .int .i64 (T.gs.length : Int), .func (.func 144) #[] #[.pointer (some ⟨W1.heap.size + 1, 0, none⟩), .pointer (some ⟨W1.heap.size, 0, none⟩)], .int .i64 (x.val : Int), undef, undef, undef, undef, undef, undef, undef, undef, undef, undef, undef, undef, undef, undef, undef, undef, undef, undef, undef, undef, undef, undef, undef, undef, undef, undef, undef, undef, undef, undef, undef, undef], defers := [] })
  (fun _ _ _ _ _ _ hs _ _ => hs) ?assign ?body ?done ?stop
 case assign =>
  rintro lp pre x V K hi hK
  gi_wp2
  exact hK _ _ (KeepsFrom.refl _ _) (aQ.refl _ _ _) hi rfl
 case body =>
  rintro lp pre x a' V hl ⟨r, hr⟩ ⟨⟨⟨fp, Bd, hfp⟩, NC, hps⟩, nO⟩ rfl hlt
  have hAV := nO.blk hA1 (by omega) (by simp; omega)
  have hLV := nO.blk hL1 (by omega) (by simp; omega)
  have hTV := hTw.keep nO (by omega) (by omega) (by simp; omega) (by simp; omega)
  have hxn : x.val < T.gs.length := x.isLt
  have Us := hP.le
  have hxi : (x.val : Int) < (T.gs.length : Int) := by omega
  have hx0 : (0 : Int) ≤ (x.val : Int) := by omega
  have Bb := nO.size
  have t0 := hAV.cell 0
  simp only [List.getElem?_toArray, List.getElem?_cons_zero] at t0
  obtain ⟨Kl, Km, Kn, Ko⟩ := hLV.c4
  have hc := hTV.cells.1
  have HS := qd (fun (wX : World) (M : Mod [mb] V wX) => show (fun (w' : World) => w'.cell? ⟨w.heap.size, 0, none⟩ = some (.pointer (some ⟨tb, 0, none⟩)) ∧ w'.cell? ⟨tb, 0, none⟩ = some (.slice (some ⟨gb, 0, none⟩) T.gs.length T.gs.length) ∧ w'.cell? ⟨w.heap.size + 1, 0, none⟩ = some (.pointer (some ⟨mb, mo, none⟩)) ∧ w'.cell? ⟨w.heap.size + 1, 1, none⟩ = some (.int .i64 c.p) ∧ w'.cell? ⟨w.heap.size + 1, 2, none⟩ = some (.int .i64 c.v) ∧ w'.cell? ⟨w.heap.size + 1, 3, none⟩ = some (.int .i64 c.u)) wX from ⟨(M.cell_ (p := ⟨w.heap.size, 0, none⟩) (by show w.heap.size < _; omega) (by simp; omega)).trans t0, (M.cell_ (p := ⟨tb, 0, none⟩) (by show tb < _; omega) (by simp; omega)).trans hc, (M.cell_ (p := ⟨w.heap.size + 1, 0, none⟩) (by show w.heap.size + 1 < _; omega) (by simp; omega)).trans Kl, (M.cell_ (p := ⟨w.heap.size + 1, 1, none⟩) (by show w.heap.size + 1 < _; omega) (by simp; omega)).trans Km, (M.cell_ (p := ⟨w.heap.size + 1, 2, none⟩) (by show w.heap.size + 1 < _; omega) (by simp; omega)).trans Kn, (M.cell_ (p := ⟨w.heap.size + 1, 3, none⟩) (by show w.heap.size + 1 < _; omega) (by simp; omega)).trans Ko⟩)
  gi_wp2_with fail
  refine aaW (fun a' w2 => ∃ vb, a' = { tmps := #[.pointer (some ⟨tb, 0, none⟩), .agg #[.pointer (some ⟨mb, mo, none⟩), .int .i64 c.p, .int .i64 c.v, .int .i64 c.u], .int .u64 (key : Int), .int .u64 (hash : Int), .pointer (some ⟨w.heap.size, 0, none⟩), .pointer (some ⟨w.heap.size + 1, 0, none⟩), .pointer (some ⟨w.heap.size + 1 + 1, 0, none⟩), .pointer (some ⟨w.heap.size + 1 + 1 + 1, 0, none⟩), .pointer (some ⟨w.heap.size + 1 + 1 + 1 + 1, 0, none⟩), .pointer (some ⟨W.heap.size, 0, none⟩), .int .i64 (x.val : Int), .pointer (some ⟨vb, 0, none⟩), undef, .pointer (some ⟨tb, 0, none⟩), .int .u64 (key : Int), .int .u64 (hash : Int), .agg #[.pointer none, .int .i64 (-1)], .agg #[.pointer none, .int .i64 (-1)], .agg #[.pointer (some ⟨tb, 0, none⟩), .int .u64 (key : Int), .int .u64 (hash : Int), .pointer none, .int .i64 (-1), .pointer none, .int .i64 (-1)], .int .u64 (hash : Int), .int .u64 ((hash : Int) / 128), .pointer (some ⟨tb, 0, none⟩), .pointer (some ⟨tb, 0, none⟩), .pointer (some ⟨tb, 0, none⟩), .slice (some ⟨gb, 0, none⟩) T.gs.length T.gs.length, .int .i64 (T.gs.length : Int), .func (.func 144) #[] #[.pointer (some ⟨W1.heap.size + 1, 0, none⟩), .pointer (some ⟨W1.heap.size, 0, none⟩)], .int .i64 (x.val : Int), .pointer (some ⟨tb, 0, none⟩), .pointer (some ⟨tb, 0, none⟩), .pointer (some ⟨tb, 0, none⟩), .slice (some ⟨gb, 0, none⟩) T.gs.length T.gs.length, .int .i64 (x.val : Int), .pointer (some ⟨gb, x.val * 25, none⟩), .agg #[.pointer (some ⟨mb, mo, none⟩), .int .i64 c.p, .int .i64 c.v, .int .i64 c.u], .agg #[.pointer (some ⟨gb, x.val * 25, none⟩)], undef, undef, undef, undef, undef, undef, undef, undef, undef, undef, undef, undef, undef, undef, undef, undef, undef, undef, undef, undef, undef, undef, undef, undef], defers := [] } ∧ aj w2 vb 155 #[.pointer (some ⟨gb, x.val * 25, none⟩)] ∧ V.heap.size ≤ vb ∧ Met w2 mb mt iH fC mo (iT (eD a0 c pre.length) c) (iT (eD l0 c pre.length) c) m ∧ Mod [mb] V w2) ?_ ?_
  ·refine zx (fun (w' : World) => w'.cell? ⟨w.heap.size, 0, none⟩ = some (.pointer (some ⟨tb, 0, none⟩)) ∧ w'.cell? ⟨tb, 0, none⟩ = some (.slice (some ⟨gb, 0, none⟩) T.gs.length T.gs.length) ∧ w'.cell? ⟨w.heap.size + 1, 0, none⟩ = some (.pointer (some ⟨mb, mo, none⟩)) ∧ w'.cell? ⟨w.heap.size + 1, 1, none⟩ = some (.int .i64 c.p) ∧ w'.cell? ⟨w.heap.size + 1, 2, none⟩ = some (.int .i64 c.v) ∧ w'.cell? ⟨w.heap.size + 1, 3, none⟩ = some (.int .i64 c.u)) [] (by kernel_rfl) (by kernel_rfl) (by rintro ⟨_, _, h⟩; exact h) ?_
   try (change bP _ _ _ _ _ _ _ _ _ (World.drew _))
   have hHeld := (⟨t0, hc, Kl, Km, Kn, Ko⟩ : _ ∧ _ ∧ _ ∧ _ ∧ _ ∧ _)
   refine vT 0 rfl ?_
   refine vW 1 rfl ?_
   refine vW 2 rfl ?_
   refine vT 3 rfl ?_
   refine vW 4 rfl ?_
   refine vW 5 rfl ?_
   refine vT 6 rfl ?_
   refine pairT (i := 7) (j := 8) (o := ⟨some 35, _, _, _, _, _⟩) (o' := ⟨some 11, _, _, _, _, _⟩) rfl rfl (by kernel_rfl) (fun K hK => ?_) (fun K hK => ?_)
   ·go_simp
    refine (uT ⟨gb, x.val * 25, none⟩ mb mt iH fC mo _ _ m c _ (NC.below (Below.refl _ _).drew)).mono ?_
    rintro e w2 ⟨rfl, hM2, hm2⟩
    simp only [bA]
    go_wp2_with fail
    have M7 : Mod [mb] V w2 := (Mod.drewN [mb] V 1).then hm2
    refine hK.out _ _ (fun _ => HS.out _ M7) ?_
    clear hK K
    try simp only [pt]
    refine nT 8 rfl fun K hK => ?_
    go_simp
    have M8 : Mod [mb] V (w2.alloc (.cells #[.pointer none] 155)) := M7.alloc _
    have Bf := aj.new w2 155 #[.pointer none]
    have ND := hM2.below ((Below.refl w2.heap.size w2).alloc (Nat.le_refl _) (.cells #[.pointer none] 155))
    have aaY := M7.size
    obtain ⟨w3, hw3⟩ : ∃ w3, w3 = w2.alloc (.cells #[.pointer none] 155) := ⟨_, rfl⟩
    rw [← hw3] at M8 Bf ND ⊢
    clear hw3
    refine hK.out _ _ (fun _ => HS.out _ M8) ?_
    clear hK K
    try simp only [pt]
    refine nT 9 rfl fun K hK => ?_
    have n0 := Bf.cell 0
    simp only [List.getElem?_toArray, List.getElem?_cons_zero] at n0
    have nf := Bf.frozen 0
    go_simp
    have M9 := M8.ak (b := w2.heap.size) (.inr (by omega)) 0 (.pointer (some ⟨gb, x.val * 25, none⟩))
    refine hK.out _ _ (fun _ => HS.out _ M9) ?_
    clear hK K
    try simp only [pt]
    refine aS (by kernel_rfl) ?_ _
    exact ⟨w2.heap.size, rfl, Bf.ak 0 _, aaY, ⟨ND.len, ND.blk.far (p := ⟨w2.heap.size, 0, none⟩) (by show mb ≠ w2.heap.size; omega) _⟩, M9⟩
   ·go_simp
    have M8 : Mod [mb] V (V.alloc (.cells #[.pointer none] 155)).drew := ((Mod.refl [mb] V).alloc _).then (Mod.drewN [mb] _ 1)
    have Bf : aj (V.alloc (.cells #[.pointer none] 155)).drew V.heap.size 155 #[.pointer none] := (aj.new V _ _).drew
    have ND := NC.below (((Below.refl V.heap.size V).alloc (Nat.le_refl _) (.cells #[.pointer none] 155)).drew)
    obtain ⟨w3, hw3⟩ : ∃ w3, w3 = (V.alloc (.cells #[.pointer none] 155)).drew := ⟨_, rfl⟩
    rw [← hw3] at M8 Bf ND ⊢
    clear hw3
    refine hK.out _ _ (fun _ => HS.out _ M8) ?_
    clear hK K
    try simp only [pt]
    refine nT 7 rfl fun K hK => ?_
    go_simp
    refine (uT ⟨gb, x.val * 25, none⟩ mb mt iH fC mo _ _ m c _ ND).mono ?_
    rintro e w2 ⟨rfl, hM2, hm2⟩
    simp only [bA]
    go_wp2_with fail
    have M7 : Mod [mb] V w2 := M8.then hm2
    replace Bf := Bf.mod hm2 (by simp; omega)
    refine hK.out _ _ (fun _ => HS.out _ M7) ?_
    clear hK K
    try simp only [pt]
    refine nT 9 rfl fun K hK => ?_
    have n0 := Bf.cell 0
    simp only [List.getElem?_toArray, List.getElem?_cons_zero] at n0
    have nf := Bf.frozen 0
    go_simp
    have M9 := M7.ak (b := V.heap.size) (.inr (Nat.le_refl _)) 0 (.pointer (some ⟨gb, x.val * 25, none⟩))
    refine hK.out _ _ (fun _ => HS.out _ M9) ?_
    clear hK K
    try simp only [pt]
    refine aS (by kernel_rfl) ?_ _
    exact ⟨V.heap.size, rfl, Bf.ak 0 _, Nat.le_refl _, ⟨hM2.len, hM2.blk.far (p := ⟨V.heap.size, 0, none⟩) (by show mb ≠ V.heap.size; omega) _⟩, M9⟩
  ·rintro a' w2 ⟨vb, rfl, Q7, hvb, hM2, hm2⟩
   simp only [Array.mk.injEq, List.cons_append, List.nil_append]
   have hK2 : aQ w1.heap.size [W.heap.size, mb] w1 w2 := bL nO ((hm2.more (T := [W.heap.size, mb]) (by simp)).qP Bb)
   have Ut : aQ w1.heap.size [W.heap.size, mb] V w2 := (hm2.more (T := [W.heap.size, mb]) (by simp)).qP Bb
   have jW := hTV.mod hm2 (by simp; omega) (by simp; omega)
   have hS2 := Bd.mod hm2 (by simp; omega)
   have Uu := hK2.blk hK1 (by omega) (by simp; omega)
   have Uv := hK2.blk hH1 (by omega) (by simp; omega)
   have hR2 := hK2.blk vM (by omega) (by simp; omega)
   have Uw : fK w2 := hK2.tz hgs (by simp; omega) YI
   have Ux : KeepsFrom w1.heap.size V w2 := dQ hm2 (by simp; omega)
   have aco : w1.heap.size ≤ vb := Nat.le_trans Bb hvb
   cases hfr : eO T.gs (vals pre) with
   | some y =>
    have hfr2 : eO T.gs (vals (pre ++ [x])) = some y := by rw [xu, sO, hfr]; rfl
    rw [hfr] at hS2 hfp
    obtain ⟨wq, hwq⟩ : ∃ wq, wq = w2 := ⟨_, rfl⟩
    obtain ⟨mV, Gg⟩ : ∃ mV, mV = fp := ⟨_, rfl⟩
    rw [← hwq] at hS2 Q7 Uu Uv hR2 jW Uw Ux hK2 Ut hM2 ⊢
    rw [← Gg] at hS2 hfp
    clear hwq Gg hm2
    have tH := hS2
    have Bj : gy gb (eO T.gs (vals (pre ++ [x]))) mV := hfr2 ▸ hfp
    have vP := Q7
    have YJ := Uu
    have yM := hR2
    have Fe := hM2
    have qV := hK2
    have Kq := Ut
    have Kr := Ux
    have YK := Uv
    have Kt := jW
    have Uy := Uw
    have hsl : ¬ bO (some y) < 0 := by simp only [bO]; omega
    generalize hsv : bO (some y) = sv at *
    have Ku : bO (eO T.gs (vals (pre ++ [x]))) = sv := by rw [hfr2]; exact hsv
    unfold dA at tH
    obtain ⟨p0, p1, p2, p3, p4, p5, p6⟩ := tH.c7
    have v0 := vP.cell 0
    simp only [List.getElem?_toArray, List.getElem?_cons_zero] at v0
    have Kv := YJ.cell 0
    simp only [List.getElem?_toArray, List.getElem?_cons_zero] at Kv
    have hh0 := YK.cell 0
    simp only [List.getElem?_toArray, List.getElem?_cons_zero] at hh0
    have vK := qd (oF (q := 7) (Kh gb 197 (bS (T.gs.take x.val)) (bS (T.gs.drop (x.val + 1))) (x.val * 25) (T.gs.getD x.val []) wq (Kt.group x.val hxn) key hash h64 Uy))
    cases hf : fT (T.gs.getD x.val []) key hash with
    | some s =>
     rw [hf] at vK
     simp only [pO] at vK
     have hs0 : (0 : Int) ≤ (s : Int) := by omega
     gi_wp2_with fail
     refine ⟨trivial, (CallsIn.inRound lp vK.out).mono ?_⟩
     rintro e w5 ⟨rfl, hb5⟩
     have nP := bL qV (aQ.of_below (n₀ := w1.heap.size) (S := [W.heap.size, mb]) (hb5.mono (by have := qV.size; omega)))
     have zD := bL Kq (aQ.of_below (n₀ := w1.heap.size) (S := [W.heap.size, mb]) (hb5.mono (by have := qV.size; omega)))
     have mJ := Kr.trans (dQ (Mod.of_below hb5 []) (by simp))
     have hS5 := tH.below hb5 tH.lt
     have tJ := yM.below hb5 yM.lt
     have yN := vP.below hb5 vP.lt
     have yO := Fe.below hb5
     have mg := Kt.below hb5
     obtain ⟨s0, s1, s2, s3, s4, s5, s6⟩ := hS5.c7
     obtain ⟨YL, YM, YN, YO, YP, YQ, YR⟩ := hS5.f7
     obtain ⟨r0, r1, r2, r3, r4, r5, r6⟩ := tJ.c7
     obtain ⟨Q8, YS, YT, YU, YV, YW, YX⟩ := tJ.f7
     have yP := yN.cell 0
     simp only [List.getElem?_toArray, List.getElem?_cons_zero] at yP
     clear v0 Kv hh0 hS5 yN hb5 tH vP yM Fe
     obtain ⟨w6, iO⟩ : ∃ w6, w6 = ((((((((w5.setCell ⟨W.heap.size, 3, none⟩ (.pointer (some ⟨gb, x.val * 25, none⟩))).setCell ⟨W.heap.size, 4, none⟩ (.int .i64 (s : Int))).setCell ⟨w.heap.size + 1 + 1 + 1 + 1, 0, none⟩ (.pointer (some ⟨tb, 0, none⟩))).setCell ⟨w.heap.size + 1 + 1 + 1 + 1, 1, none⟩ (.int .u64 (key : Int))).setCell ⟨w.heap.size + 1 + 1 + 1 + 1, 2, none⟩ (.int .u64 (hash : Int))).setCell ⟨w.heap.size + 1 + 1 + 1 + 1, 3, none⟩ (.pointer (some ⟨gb, x.val * 25, none⟩))).setCell ⟨w.heap.size + 1 + 1 + 1 + 1, 4, none⟩ (.int .i64 (s : Int))).setCell ⟨w.heap.size + 1 + 1 + 1 + 1, 5, none⟩ (.pointer mV)).setCell ⟨w.heap.size + 1 + 1 + 1 + 1, 6, none⟩ (.int .i64 sv) := ⟨_, rfl⟩
     have M6 : Mod [W.heap.size, w.heap.size + 1 + 1 + 1 + 1] w5 w6 := iO ▸ ((((((((((Mod.refl [W.heap.size, w.heap.size + 1 + 1 + 1 + 1] w5).ak (.inl (by simp)) _ _).ak (.inl (by simp)) _ _).ak (.inl (by simp)) _ _).ak (.inl (by simp)) _ _).ak (.inl (by simp)) _ _).ak (.inl (by simp)) _ _).ak (.inl (by simp)) _ _).ak (.inl (by simp)) _ _).ak (.inl (by simp)) _ _)
     have B6 : aj w6 (w.heap.size + 1 + 1 + 1 + 1) 159 (dA tb key hash (some ⟨gb, x.val * 25, none⟩) (s : Int) mV sv) := by
      have := (((((((((tJ).far (p := ⟨W.heap.size, 3, none⟩) (by show w.heap.size + 1 + 1 + 1 + 1 ≠ W.heap.size; omega) (.pointer (some ⟨gb, x.val * 25, none⟩))).far (p := ⟨W.heap.size, 4, none⟩) (by show w.heap.size + 1 + 1 + 1 + 1 ≠ W.heap.size; omega) (.int .i64 (s : Int))).ak 0 (.pointer (some ⟨tb, 0, none⟩))).ak 1 (.int .u64 (key : Int))).ak 2 (.int .u64 (hash : Int))).ak 3 (.pointer (some ⟨gb, x.val * 25, none⟩))).ak 4 (.int .i64 (s : Int))).ak 5 (.pointer mV)).ak 6 (.int .i64 sv)
      rw [iO]
      simpa only [List.setIfInBounds_toArray, List.set_cons_zero, List.set_cons_succ, dA] using this
     have T6 := yO.mod M6 (by simp; omega)
     have K6 : aQ w.heap.size [mb] w w6 := bL (bL (aQ.of_below (qR.trans (hb1.mono qR.size))) (iN nP (by omega) (by simp; omega))) (iN (M6.qP (Nat.le_refl _)) (by have := nP.size; have := qR.size; omega) (by simp; omega))
     have F6 : KeepsFrom w1.heap.size V w6 := mJ.trans (dQ M6 (by simp; omega))
     have HE := qd (And.intro B6 (And.intro T6 (And.intro K6 F6)))
     clear M6 B6 T6 K6 F6
     have Fg := qd iO
     clear iO
     gi_wp2
     rw [← Fg.out]
     exact ⟨HE.out.2.2.2, ⟨rfl, pre, x, some ⟨gb, x.val * 25, none⟩, mV, rfl, hps, .inl (by rw [hf]; simp), by rw [Ku, oG, hf]; exact HE.out.1, fun a b hab => by rw [oG, hf] at hab; cases hab; rfl, Bj, by rw [List.length_append]; exact HE.out.2.1⟩, HE.out.2.2.1⟩
    | none =>
     rw [hf] at vK
     simp only [pO] at vK
     gi_wp2_with fail
     refine ⟨trivial, (CallsIn.inRound lp vK.out).mono ?_⟩
     rintro e w4 ⟨rfl, hb4⟩
     have hK4 := bL qV (aQ.of_below (n₀ := w1.heap.size) (S := [W.heap.size, mb]) (hb4.mono (by have := qV.size; omega)))
     have Kw := bL Kq (aQ.of_below (n₀ := w1.heap.size) (S := [W.heap.size, mb]) (hb4.mono (by have := qV.size; omega)))
     have vN := Kr.trans (dQ (Mod.of_below hb4 []) (by simp))
     have xw := tH.below hb4 tH.lt
     have mW := yM.below hb4 yM.lt
     have yQ := vP.below hb4 vP.lt
     have yR := Fe.below hb4
     have Dm := Kt.below hb4
     have yP := yQ.cell 0
     simp only [List.getElem?_toArray, List.getElem?_cons_zero] at yP
     have Al := qd (oF (q := 7) (Ki gb _ _ _ (x.val * 25) _ w4 (Dm.group x.val hxn)))
     cases ho' : dD (T.gs.getD x.val []) with
     | true =>
      rw [ho'] at Al
      have ho : dD (T.gs.getD x.val []) = true := ho'
      gi_wp2_with fail
      refine ⟨trivial, (CallsIn.inRound lp Al.out).mono ?_⟩
      rintro e w5 ⟨rfl, hb5⟩
      have nP := bL hK4 (aQ.of_below (n₀ := w1.heap.size) (S := [W.heap.size, mb]) (hb5.mono (by have := hK4.size; omega)))
      have zD := bL Kw (aQ.of_below (n₀ := w1.heap.size) (S := [W.heap.size, mb]) (hb5.mono (by have := hK4.size; omega)))
      have mJ := vN.trans (dQ (Mod.of_below hb5 []) (by simp))
      have hS5 := xw.below hb5 xw.lt
      have tJ := mW.below hb5 mW.lt
      have yN := yQ.below hb5 yQ.lt
      have yO := yR.below hb5
      have mg := Dm.below hb5
      obtain ⟨s0, s1, s2, s3, s4, s5, s6⟩ := hS5.c7
      obtain ⟨YL, YM, YN, YO, YP, YQ, YR⟩ := hS5.f7
      obtain ⟨r0, r1, r2, r3, r4, r5, r6⟩ := tJ.c7
      obtain ⟨Q8, YS, YT, YU, YV, YW, YX⟩ := tJ.f7
      have yP := yN.cell 0
      simp only [List.getElem?_toArray, List.getElem?_cons_zero] at yP
      clear v0 Kv hh0 yP hS5 yN hb5 tH vP yM Fe xw mW yQ yR
      obtain ⟨w6, iO⟩ : ∃ w6, w6 = ((((((w5.setCell ⟨w.heap.size + 1 + 1 + 1 + 1, 0, none⟩ (.pointer (some ⟨tb, 0, none⟩))).setCell ⟨w.heap.size + 1 + 1 + 1 + 1, 1, none⟩ (.int .u64 (key : Int))).setCell ⟨w.heap.size + 1 + 1 + 1 + 1, 2, none⟩ (.int .u64 (hash : Int))).setCell ⟨w.heap.size + 1 + 1 + 1 + 1, 3, none⟩ (.pointer none)).setCell ⟨w.heap.size + 1 + 1 + 1 + 1, 4, none⟩ (.int .i64 (-1))).setCell ⟨w.heap.size + 1 + 1 + 1 + 1, 5, none⟩ (.pointer mV)).setCell ⟨w.heap.size + 1 + 1 + 1 + 1, 6, none⟩ (.int .i64 sv) := ⟨_, rfl⟩
      have M6 : Mod [W.heap.size, w.heap.size + 1 + 1 + 1 + 1] w5 w6 := iO ▸ ((((((((Mod.refl [W.heap.size, w.heap.size + 1 + 1 + 1 + 1] w5).ak (.inl (by simp)) _ _).ak (.inl (by simp)) _ _).ak (.inl (by simp)) _ _).ak (.inl (by simp)) _ _).ak (.inl (by simp)) _ _).ak (.inl (by simp)) _ _).ak (.inl (by simp)) _ _)
      have B6 : aj w6 (w.heap.size + 1 + 1 + 1 + 1) 159 (dA tb key hash none (-1) mV sv) := by
       have := (((((((tJ).ak 0 (.pointer (some ⟨tb, 0, none⟩))).ak 1 (.int .u64 (key : Int))).ak 2 (.int .u64 (hash : Int))).ak 3 (.pointer none)).ak 4 (.int .i64 (-1))).ak 5 (.pointer mV)).ak 6 (.int .i64 sv)
       rw [iO]
       simpa only [List.setIfInBounds_toArray, List.set_cons_zero, List.set_cons_succ, dA] using this
      have T6 := yO.mod M6 (by simp; omega)
      have K6 : aQ w.heap.size [mb] w w6 := bL (bL (aQ.of_below (qR.trans (hb1.mono qR.size))) (iN nP (by omega) (by simp; omega))) (iN (M6.qP (Nat.le_refl _)) (by have := nP.size; have := qR.size; omega) (by simp; omega))
      have F6 : KeepsFrom w1.heap.size V w6 := mJ.trans (dQ M6 (by simp; omega))
      have HE := qd (And.intro B6 (And.intro T6 (And.intro K6 F6)))
      clear M6 B6 T6 K6 F6
      have Fg := qd iO
      clear iO
      gi_wp2
      rw [← Fg.out]
      exact ⟨HE.out.2.2.2, ⟨rfl, pre, x, none, mV, rfl, hps, .inr ho, by rw [Ku, oG, hf]; exact HE.out.1, (fun a b hab => by rw [oG, hf] at hab; cases hab), Bj, by rw [List.length_append]; exact HE.out.2.1⟩, HE.out.2.2.1⟩
     | false =>
      rw [ho'] at Al
      gi_wp2_with fail
      refine ⟨trivial, (CallsIn.inRound lp Al.out).mono ?_⟩
      rintro e w5 ⟨rfl, hb5⟩
      have nP := bL hK4 (aQ.of_below (n₀ := w1.heap.size) (S := [W.heap.size, mb]) (hb5.mono (by have := hK4.size; omega)))
      have zD := bL Kw (aQ.of_below (n₀ := w1.heap.size) (S := [W.heap.size, mb]) (hb5.mono (by have := hK4.size; omega)))
      have mJ := vN.trans (dQ (Mod.of_below hb5 []) (by simp))
      have hS5 := xw.below hb5 xw.lt
      have tJ := mW.below hb5 mW.lt
      have yN := yQ.below hb5 yQ.lt
      have yO := yR.below hb5
      have mg := Dm.below hb5
      have Q9 := qd (show ∀ y ∈ pre ++ [x], Passed T.gs key hash y.val from fun y hy => (List.mem_append.1 hy).elim (hps y) (fun e => by simp at e; subst e; exact ⟨hf, ho'⟩))
      have YZ := qd (show Met w5 mb mt iH fC mo (eD a0 c (pre ++ [x]).length) (eD l0 c (pre ++ [x]).length) m from by rw [List.length_append]; exact yO)
      have Ky := qd (show ∃ fp, aj w5 W.heap.size 159 (dA tb key hash none (-1) fp (bO (eO T.gs (vals (pre ++ [x]))))) ∧ gy gb (eO T.gs (vals (pre ++ [x]))) fp from ⟨mV, by rw [Ku]; exact hS5, Bj⟩)
      have HE := qd (And.intro mJ (And.intro zD nP))
      clear hps hf ho' yO hS5 mJ zD nP
      gi_wp2
      exact ⟨HE.out.1, HE.out.2.1, ⟨Ky.out, YZ.out, Q9.out⟩, HE.out.2.2⟩
   | none =>
    rw [hfr] at hS2
    simp only [dA, bO] at hS2
    obtain ⟨p0, p1, p2, p3, p4, p5, p6⟩ := hS2.c7
    have v0 := Q7.cell 0
    simp only [List.getElem?_toArray, List.getElem?_cons_zero] at v0
    obtain ⟨q0, q1, q2, q3, q4, q5, q6⟩ := hS2.f7
    have Kz := qd (Un gb _ _ _ (x.val * 25) _ w2.drew ((jW.below (Below.refl _ _).drew).group x.val hxn) (fun i hi => Uw i hi))
    obtain ⟨fv, Y0⟩ : ∃ fv, fv = pO (kG (T.gs.getD x.val [])) := ⟨_, rfl⟩
    rw [← Y0] at Kz
    have Hfv := qd Y0
    clear Y0
    gi_wp2_with fail
    refine zx (fun (w' : World) => w'.cell? ⟨vb, 0, none⟩ = some (.pointer (some ⟨gb, x.val * 25, none⟩))) [5] (by kernel_rfl) (by kernel_rfl) (by rintro ⟨_, _, h⟩; exact h) ?_
    try (change bP _ _ _ _ _ _ _ _ _ (World.drew _))
    have hHeld := v0
    refine vT 0 rfl ?_
    refine vT 1 rfl ?_
    refine nT 2 rfl fun K hK => ?_
    go_simp
    refine (Kz.out).mono ?_
    rintro e w3 ⟨rfl, hb3⟩
    replace hb3 : Below w2.heap.size w2 w3 := bE hb3 (Below.refl _ _).drew
    go_wp2_with fail
    have hHeld := show (fun (w' : World) => w'.cell? ⟨vb, 0, none⟩ = some (.pointer (some ⟨gb, x.val * 25, none⟩))) _ from aF hb3 v0
    refine kO hK ?_
    clear hK K
    refine vW 3 rfl ?_
    refine vW 4 rfl ?_
    refine nT 5 rfl fun K hK => ?_
    have p5n := aF hb3 p5
    have p6n := aF hb3 p6
    have q5n := (hS2.below hb3 hS2.lt).frozen 5
    have q6n := (hS2.below hb3 hS2.lt).frozen 6
    go_simp
    refine kO hK ?_
    clear hK K
    refine aS (by kernel_rfl) ?_ _
    have hfr2 : eO T.gs (vals (pre ++ [x])) = (kG (T.gs.getD x.val [])).map fun s => (x.val, s) := by rw [xu, sO, hfr]; rfl
    have Y1 : bO (eO T.gs (vals (pre ++ [x]))) = pO (kG (T.gs.getD x.val [])) := by rw [hfr2]; cases kG (T.gs.getD x.val []) <;> rfl
    obtain ⟨wq, hwq⟩ : ∃ wq, wq = (w3.setCell ⟨W.heap.size, 5, none⟩ (.pointer (some ⟨gb, x.val * 25, none⟩))).setCell ⟨W.heap.size, 6, none⟩ (.int .i64 fv) := ⟨_, rfl⟩
    rw [← hwq]
    have Mq : Mod [W.heap.size] w2 wq := hwq ▸ (((Mod.of_below hb3 [W.heap.size]).ak (.inl (by simp)) _ _).ak (.inl (by simp)) _ _)
    have O1 : aj wq W.heap.size 159 (dA tb key hash none (-1) (some ⟨gb, x.val * 25, none⟩) fv) := by
     have := ((hS2.below hb3 hS2.lt).ak 5 (.pointer (some ⟨gb, x.val * 25, none⟩))).ak 6 (.int .i64 fv)
     rw [hwq]
     simpa only [List.setIfInBounds_toArray, List.set_cons_zero, List.set_cons_succ, dA] using this
    obtain ⟨mV, Gg⟩ : ∃ mV : Option Addr, mV = some ⟨gb, x.val * 25, none⟩ := ⟨_, rfl⟩
    rw [← Gg] at O1
    have Bj : gy gb (eO T.gs (vals (pre ++ [x]))) mV := fun a b hab => by
     rw [hfr2] at hab
     cases hg2 : kG (T.gs.getD x.val []) with
     | none => rw [hg2] at hab; cases hab
     | some s2 => rw [hg2] at hab; cases hab; exact Gg
    clear hwq Gg
    have vP := Q7.mod Mq (by simp; omega)
    have YJ := Uu.mod Mq (by simp; omega)
    have YK := Uv.mod Mq (by simp; omega)
    have yM := hR2.mod Mq (by simp; omega)
    have Fe := hM2.mod Mq (by simp; omega)
    have Kt := jW.mod Mq (by simp; omega) (by simp; omega)
    have Y2 := hK2.size
    have qV := bL hK2 (iN (Mq.qP (Nat.le_refl _)) Y2 (T := [W.heap.size, mb]) (by simp; omega))
    have Kq := bL Ut (iN (Mq.qP (Nat.le_refl _)) Y2 (T := [W.heap.size, mb]) (by simp; omega))
    have Kr := Ux.trans (dQ Mq (by simp; omega))
    have Uy : fK wq := qV.tz hgs (by simp; omega) YI
    obtain ⟨sv, Uz⟩ : ∃ sv, sv = fv := ⟨_, rfl⟩
    rw [← Uz] at O1
    have Ku : bO (eO T.gs (vals (pre ++ [x]))) = sv := by rw [Y1, Uz]; exact Hfv.out.symm
    clear Uz Y1
    have tH := O1
    unfold dA at tH
    clear O1 hS2 hm2 Mq v0 Q7
    obtain ⟨pz0, pz1, pz2, pz3, pz4, pz5, pz6⟩ := tH.c7
    have v0 := vP.cell 0
    simp only [List.getElem?_toArray, List.getElem?_cons_zero] at v0
    have Kv := YJ.cell 0
    simp only [List.getElem?_toArray, List.getElem?_cons_zero] at Kv
    have hh0 := YK.cell 0
    simp only [List.getElem?_toArray, List.getElem?_cons_zero] at hh0
    have vK := qd (oF (q := 7) (Kh gb 197 (bS (T.gs.take x.val)) (bS (T.gs.drop (x.val + 1))) (x.val * 25) (T.gs.getD x.val []) wq (Kt.group x.val hxn) key hash h64 Uy))
    cases hf : fT (T.gs.getD x.val []) key hash with
    | some s =>
     rw [hf] at vK
     simp only [pO] at vK
     have hs0 : (0 : Int) ≤ (s : Int) := by omega
     gi_wp2_with fail
     refine ⟨trivial, (CallsIn.inRound lp vK.out).mono ?_⟩
     rintro e w5 ⟨rfl, hb5⟩
     have nP := bL qV (aQ.of_below (n₀ := w1.heap.size) (S := [W.heap.size, mb]) (hb5.mono (by have := qV.size; omega)))
     have zD := bL Kq (aQ.of_below (n₀ := w1.heap.size) (S := [W.heap.size, mb]) (hb5.mono (by have := qV.size; omega)))
     have mJ := Kr.trans (dQ (Mod.of_below hb5 []) (by simp))
     have hS5 := tH.below hb5 tH.lt
     have tJ := yM.below hb5 yM.lt
     have yN := vP.below hb5 vP.lt
     have yO := Fe.below hb5
     have mg := Kt.below hb5
     obtain ⟨s0, s1, s2, s3, s4, s5, s6⟩ := hS5.c7
     obtain ⟨YL, YM, YN, YO, YP, YQ, YR⟩ := hS5.f7
     obtain ⟨r0, r1, r2, r3, r4, r5, r6⟩ := tJ.c7
     obtain ⟨Q8, YS, YT, YU, YV, YW, YX⟩ := tJ.f7
     have yP := yN.cell 0
     simp only [List.getElem?_toArray, List.getElem?_cons_zero] at yP
     clear v0 Kv hh0 hS5 yN hb5 tH vP yM Fe
     obtain ⟨w6, iO⟩ : ∃ w6, w6 = ((((((((w5.setCell ⟨W.heap.size, 3, none⟩ (.pointer (some ⟨gb, x.val * 25, none⟩))).setCell ⟨W.heap.size, 4, none⟩ (.int .i64 (s : Int))).setCell ⟨w.heap.size + 1 + 1 + 1 + 1, 0, none⟩ (.pointer (some ⟨tb, 0, none⟩))).setCell ⟨w.heap.size + 1 + 1 + 1 + 1, 1, none⟩ (.int .u64 (key : Int))).setCell ⟨w.heap.size + 1 + 1 + 1 + 1, 2, none⟩ (.int .u64 (hash : Int))).setCell ⟨w.heap.size + 1 + 1 + 1 + 1, 3, none⟩ (.pointer (some ⟨gb, x.val * 25, none⟩))).setCell ⟨w.heap.size + 1 + 1 + 1 + 1, 4, none⟩ (.int .i64 (s : Int))).setCell ⟨w.heap.size + 1 + 1 + 1 + 1, 5, none⟩ (.pointer mV)).setCell ⟨w.heap.size + 1 + 1 + 1 + 1, 6, none⟩ (.int .i64 sv) := ⟨_, rfl⟩
     have M6 : Mod [W.heap.size, w.heap.size + 1 + 1 + 1 + 1] w5 w6 := iO ▸ ((((((((((Mod.refl [W.heap.size, w.heap.size + 1 + 1 + 1 + 1] w5).ak (.inl (by simp)) _ _).ak (.inl (by simp)) _ _).ak (.inl (by simp)) _ _).ak (.inl (by simp)) _ _).ak (.inl (by simp)) _ _).ak (.inl (by simp)) _ _).ak (.inl (by simp)) _ _).ak (.inl (by simp)) _ _).ak (.inl (by simp)) _ _)
     have B6 : aj w6 (w.heap.size + 1 + 1 + 1 + 1) 159 (dA tb key hash (some ⟨gb, x.val * 25, none⟩) (s : Int) mV sv) := by
      have := (((((((((tJ).far (p := ⟨W.heap.size, 3, none⟩) (by show w.heap.size + 1 + 1 + 1 + 1 ≠ W.heap.size; omega) (.pointer (some ⟨gb, x.val * 25, none⟩))).far (p := ⟨W.heap.size, 4, none⟩) (by show w.heap.size + 1 + 1 + 1 + 1 ≠ W.heap.size; omega) (.int .i64 (s : Int))).ak 0 (.pointer (some ⟨tb, 0, none⟩))).ak 1 (.int .u64 (key : Int))).ak 2 (.int .u64 (hash : Int))).ak 3 (.pointer (some ⟨gb, x.val * 25, none⟩))).ak 4 (.int .i64 (s : Int))).ak 5 (.pointer mV)).ak 6 (.int .i64 sv)
      rw [iO]
      simpa only [List.setIfInBounds_toArray, List.set_cons_zero, List.set_cons_succ, dA] using this
     have T6 := yO.mod M6 (by simp; omega)
     have K6 : aQ w.heap.size [mb] w w6 := bL (bL (aQ.of_below (qR.trans (hb1.mono qR.size))) (iN nP (by omega) (by simp; omega))) (iN (M6.qP (Nat.le_refl _)) (by have := nP.size; have := qR.size; omega) (by simp; omega))
     have F6 : KeepsFrom w1.heap.size V w6 := mJ.trans (dQ M6 (by simp; omega))
     have HE := qd (And.intro B6 (And.intro T6 (And.intro K6 F6)))
     clear M6 B6 T6 K6 F6
     have Fg := qd iO
     clear iO
     gi_wp2
     rw [← Fg.out]
     exact ⟨HE.out.2.2.2, ⟨rfl, pre, x, some ⟨gb, x.val * 25, none⟩, mV, rfl, hps, .inl (by rw [hf]; simp), by rw [Ku, oG, hf]; exact HE.out.1, fun a b hab => by rw [oG, hf] at hab; cases hab; rfl, Bj, by rw [List.length_append]; exact HE.out.2.1⟩, HE.out.2.2.1⟩
    | none =>
     rw [hf] at vK
     simp only [pO] at vK
     gi_wp2_with fail
     refine ⟨trivial, (CallsIn.inRound lp vK.out).mono ?_⟩
     rintro e w4 ⟨rfl, hb4⟩
     have hK4 := bL qV (aQ.of_below (n₀ := w1.heap.size) (S := [W.heap.size, mb]) (hb4.mono (by have := qV.size; omega)))
     have Kw := bL Kq (aQ.of_below (n₀ := w1.heap.size) (S := [W.heap.size, mb]) (hb4.mono (by have := qV.size; omega)))
     have vN := Kr.trans (dQ (Mod.of_below hb4 []) (by simp))
     have xw := tH.below hb4 tH.lt
     have mW := yM.below hb4 yM.lt
     have yQ := vP.below hb4 vP.lt
     have yR := Fe.below hb4
     have Dm := Kt.below hb4
     have yP := yQ.cell 0
     simp only [List.getElem?_toArray, List.getElem?_cons_zero] at yP
     have Al := qd (oF (q := 7) (Ki gb _ _ _ (x.val * 25) _ w4 (Dm.group x.val hxn)))
     cases ho' : dD (T.gs.getD x.val []) with
     | true =>
      rw [ho'] at Al
      have ho : dD (T.gs.getD x.val []) = true := ho'
      gi_wp2_with fail
      refine ⟨trivial, (CallsIn.inRound lp Al.out).mono ?_⟩
      rintro e w5 ⟨rfl, hb5⟩
      have nP := bL hK4 (aQ.of_below (n₀ := w1.heap.size) (S := [W.heap.size, mb]) (hb5.mono (by have := hK4.size; omega)))
      have zD := bL Kw (aQ.of_below (n₀ := w1.heap.size) (S := [W.heap.size, mb]) (hb5.mono (by have := hK4.size; omega)))
      have mJ := vN.trans (dQ (Mod.of_below hb5 []) (by simp))
      have hS5 := xw.below hb5 xw.lt
      have tJ := mW.below hb5 mW.lt
      have yN := yQ.below hb5 yQ.lt
      have yO := yR.below hb5
      have mg := Dm.below hb5
      obtain ⟨s0, s1, s2, s3, s4, s5, s6⟩ := hS5.c7
      obtain ⟨YL, YM, YN, YO, YP, YQ, YR⟩ := hS5.f7
      obtain ⟨r0, r1, r2, r3, r4, r5, r6⟩ := tJ.c7
      obtain ⟨Q8, YS, YT, YU, YV, YW, YX⟩ := tJ.f7
      have yP := yN.cell 0
      simp only [List.getElem?_toArray, List.getElem?_cons_zero] at yP
      clear v0 Kv hh0 yP hS5 yN hb5 tH vP yM Fe xw mW yQ yR
      obtain ⟨w6, iO⟩ : ∃ w6, w6 = ((((((w5.setCell ⟨w.heap.size + 1 + 1 + 1 + 1, 0, none⟩ (.pointer (some ⟨tb, 0, none⟩))).setCell ⟨w.heap.size + 1 + 1 + 1 + 1, 1, none⟩ (.int .u64 (key : Int))).setCell ⟨w.heap.size + 1 + 1 + 1 + 1, 2, none⟩ (.int .u64 (hash : Int))).setCell ⟨w.heap.size + 1 + 1 + 1 + 1, 3, none⟩ (.pointer none)).setCell ⟨w.heap.size + 1 + 1 + 1 + 1, 4, none⟩ (.int .i64 (-1))).setCell ⟨w.heap.size + 1 + 1 + 1 + 1, 5, none⟩ (.pointer mV)).setCell ⟨w.heap.size + 1 + 1 + 1 + 1, 6, none⟩ (.int .i64 sv) := ⟨_, rfl⟩
      have M6 : Mod [W.heap.size, w.heap.size + 1 + 1 + 1 + 1] w5 w6 := iO ▸ ((((((((Mod.refl [W.heap.size, w.heap.size + 1 + 1 + 1 + 1] w5).ak (.inl (by simp)) _ _).ak (.inl (by simp)) _ _).ak (.inl (by simp)) _ _).ak (.inl (by simp)) _ _).ak (.inl (by simp)) _ _).ak (.inl (by simp)) _ _).ak (.inl (by simp)) _ _)
      have B6 : aj w6 (w.heap.size + 1 + 1 + 1 + 1) 159 (dA tb key hash none (-1) mV sv) := by
       have := (((((((tJ).ak 0 (.pointer (some ⟨tb, 0, none⟩))).ak 1 (.int .u64 (key : Int))).ak 2 (.int .u64 (hash : Int))).ak 3 (.pointer none)).ak 4 (.int .i64 (-1))).ak 5 (.pointer mV)).ak 6 (.int .i64 sv)
       rw [iO]
       simpa only [List.setIfInBounds_toArray, List.set_cons_zero, List.set_cons_succ, dA] using this
      have T6 := yO.mod M6 (by simp; omega)
      have K6 : aQ w.heap.size [mb] w w6 := bL (bL (aQ.of_below (qR.trans (hb1.mono qR.size))) (iN nP (by omega) (by simp; omega))) (iN (M6.qP (Nat.le_refl _)) (by have := nP.size; have := qR.size; omega) (by simp; omega))
      have F6 : KeepsFrom w1.heap.size V w6 := mJ.trans (dQ M6 (by simp; omega))
      have HE := qd (And.intro B6 (And.intro T6 (And.intro K6 F6)))
      clear M6 B6 T6 K6 F6
      have Fg := qd iO
      clear iO
      gi_wp2
      rw [← Fg.out]
      exact ⟨HE.out.2.2.2, ⟨rfl, pre, x, none, mV, rfl, hps, .inr ho, by rw [Ku, oG, hf]; exact HE.out.1, (fun a b hab => by rw [oG, hf] at hab; cases hab), Bj, by rw [List.length_append]; exact HE.out.2.1⟩, HE.out.2.2.1⟩
     | false =>
      rw [ho'] at Al
      gi_wp2_with fail
      refine ⟨trivial, (CallsIn.inRound lp Al.out).mono ?_⟩
      rintro e w5 ⟨rfl, hb5⟩
      have nP := bL hK4 (aQ.of_below (n₀ := w1.heap.size) (S := [W.heap.size, mb]) (hb5.mono (by have := hK4.size; omega)))
      have zD := bL Kw (aQ.of_below (n₀ := w1.heap.size) (S := [W.heap.size, mb]) (hb5.mono (by have := hK4.size; omega)))
      have mJ := vN.trans (dQ (Mod.of_below hb5 []) (by simp))
      have hS5 := xw.below hb5 xw.lt
      have tJ := mW.below hb5 mW.lt
      have yN := yQ.below hb5 yQ.lt
      have yO := yR.below hb5
      have mg := Dm.below hb5
      have Q9 := qd (show ∀ y ∈ pre ++ [x], Passed T.gs key hash y.val from fun y hy => (List.mem_append.1 hy).elim (hps y) (fun e => by simp at e; subst e; exact ⟨hf, ho'⟩))
      have YZ := qd (show Met w5 mb mt iH fC mo (eD a0 c (pre ++ [x]).length) (eD l0 c (pre ++ [x]).length) m from by rw [List.length_append]; exact yO)
      have Ky := qd (show ∃ fp, aj w5 W.heap.size 159 (dA tb key hash none (-1) fp (bO (eO T.gs (vals (pre ++ [x]))))) ∧ gy gb (eO T.gs (vals (pre ++ [x]))) fp from ⟨mV, by rw [Ku]; exact hS5, Bj⟩)
      have HE := qd (And.intro mJ (And.intro zD nP))
      clear hps hf ho' yO hS5 mJ zD nP
      gi_wp2
      exact ⟨HE.out.1, HE.out.2.1, ⟨Ky.out, YZ.out, Q9.out⟩, HE.out.2.2⟩
 case done =>
  rintro D ys V hD hys ⟨⟨⟨fp, Bd, hfp⟩, NC, hps⟩, nO⟩ ql
  have hse : aH T.gs key hash = (none, eO T.gs (vals ys), ys.length) := by
   have := Uq (gs := T.gs) (key := key) (hash := hash) (pre := vals ys) hys (fun i hi => by
    obtain ⟨y, hy, rfl⟩ := List.mem_map.1 hi
    exact hps y hy)
   rw [this]; simp [vals]
  have rU := nO.blk vM (by omega) (by simp; omega)
  obtain ⟨sv, UA⟩ : ∃ sv, bO (eO T.gs (vals ys)) = sv := ⟨_, rfl⟩
  rw [UA] at Bd
  unfold dA at Bd
  have s0 := Bd.cell 0
  have s1 := Bd.cell 1
  have s2 := Bd.cell 2
  have s3 := Bd.cell 3
  have s4 := Bd.cell 4
  have s5 := Bd.cell 5
  have s6 := Bd.cell 6
  have r0 := rU.cell 0
  have r1 := rU.cell 1
  have r2 := rU.cell 2
  have r3 := rU.cell 3
  have r4 := rU.cell 4
  have r5 := rU.cell 5
  have r6 := rU.cell 6
  simp only [gl] at s0 s1 s2 s3 s4 s5 s6 r0 r1 r2 r3 r4 r5 r6
  obtain ⟨f0, f1, f2, f3, f4, f5, f6⟩ := rU.f7
  obtain ⟨w6, iO⟩ : ∃ w6, w6 = ((((((V.setCell ⟨w.heap.size + 1 + 1 + 1 + 1, 0, none⟩ (.pointer (some ⟨tb, 0, none⟩))).setCell ⟨w.heap.size + 1 + 1 + 1 + 1, 1, none⟩ (.int .u64 (key : Int))).setCell ⟨w.heap.size + 1 + 1 + 1 + 1, 2, none⟩ (.int .u64 (hash : Int))).setCell ⟨w.heap.size + 1 + 1 + 1 + 1, 3, none⟩ (.pointer none)).setCell ⟨w.heap.size + 1 + 1 + 1 + 1, 4, none⟩ (.int .i64 (-1))).setCell ⟨w.heap.size + 1 + 1 + 1 + 1, 5, none⟩ (.pointer fp)).setCell ⟨w.heap.size + 1 + 1 + 1 + 1, 6, none⟩ (.int .i64 sv) := ⟨_, rfl⟩
  have M6 : Mod [w.heap.size + 1 + 1 + 1 + 1] V w6 := iO ▸ ((((((((Mod.refl [w.heap.size + 1 + 1 + 1 + 1] V).ak (.inl (by simp)) _ _).ak (.inl (by simp)) _ _).ak (.inl (by simp)) _ _).ak (.inl (by simp)) _ _).ak (.inl (by simp)) _ _).ak (.inl (by simp)) _ _).ak (.inl (by simp)) _ _)
  have O6 : KeepsOthers V w6 := iO ▸ ((((((((KeepsOthers.refl V).trans (KeepsOthers.setCell _ ⟨w.heap.size + 1 + 1 + 1 + 1, 0, none⟩ (.pointer (some ⟨tb, 0, none⟩)))).trans (KeepsOthers.setCell _ ⟨w.heap.size + 1 + 1 + 1 + 1, 1, none⟩ (.int .u64 (key : Int)))).trans (KeepsOthers.setCell _ ⟨w.heap.size + 1 + 1 + 1 + 1, 2, none⟩ (.int .u64 (hash : Int)))).trans (KeepsOthers.setCell _ ⟨w.heap.size + 1 + 1 + 1 + 1, 3, none⟩ (.pointer none))).trans (KeepsOthers.setCell _ ⟨w.heap.size + 1 + 1 + 1 + 1, 4, none⟩ (.int .i64 (-1)))).trans (KeepsOthers.setCell _ ⟨w.heap.size + 1 + 1 + 1 + 1, 5, none⟩ (.pointer fp))).trans (KeepsOthers.setCell _ ⟨w.heap.size + 1 + 1 + 1 + 1, 6, none⟩ (.int .i64 sv)))
  have B6 : aj w6 (w.heap.size + 1 + 1 + 1 + 1) 159 (dA tb key hash none (-1) fp sv) := by
   have := (((((((rU).ak 0 (.pointer (some ⟨tb, 0, none⟩))).ak 1 (.int .u64 (key : Int))).ak 2 (.int .u64 (hash : Int))).ak 3 (.pointer none)).ak 4 (.int .i64 (-1))).ak 5 (.pointer fp)).ak 6 (.int .i64 sv)
   rw [iO]
   simpa only [List.setIfInBounds_toArray, List.set_cons_zero, List.set_cons_succ, dA] using this
  have O3 := O6.same D _ ql rfl
  have vQ := yL B6 (grownBy_putObj' w6 D (.deferred none)) (fun r e => by cases e; exact ⟨_, O3, rfl⟩)
  have Ww := Cv (NC.mod M6 (by simp; omega)) (grownBy_putObj' w6 D (.deferred none)) (fun r e => by cases e; exact ⟨_, O3, rfl⟩)
  have Nz : Mod [mb] w (w6.putObj D (.deferred none)) := (bL (bL (bL (aQ.of_below (qR.trans (hb1.mono qR.size))) (iN nO (by omega) (by simp; omega))) (iN (M6.qP (Nat.le_refl _)) (by have := nO.size; omega) (by simp; omega))) (vD (w := w) (Nat.le_refl _) w6 D _ _ (by omega) O3 rfl rfl)).mod
  have HE := qd (And.intro Ww Nz)
  have Fg := qd iO
  have yS := qd hse
  have Hsv := qd UA
  clear iO M6 O6 B6 Ww Nz hse UA
  go_wp2
  rw [← Fg.out]
  refine vE ⟨by simp, .inl ⟨_, _, rfl, run_takeDeferred O3, ?_⟩⟩
  have d0 := vQ.cell 0
  have d1 := vQ.cell 1
  have d2 := vQ.cell 2
  have d3 := vQ.cell 3
  have d4 := vQ.cell 4
  have d5 := vQ.cell 5
  have d6 := vQ.cell 6
  simp only [dA, List.getElem?_toArray, List.getElem?_cons_zero, List.getElem?_cons_succ] at d0 d1 d2 d3 d4 d5 d6
  refine ⟨.agg (dA tb key hash none (-1) fp sv), ?_, none, fp, ?_⟩
  ·simp [results, Tryz.f67, go_sem, d0, d1, d2, d3, d4, d5, d6, dA]
  ·rw [yS.out]
   exact ⟨by rw [Hsv.out]; rfl, (fun i s hab => by cases hab), hfp, HE.out.1, HE.out.2⟩
 case stop =>
  rintro D cd pre V hD ⟨j, hj, hj2⟩ ⟨⟨rfl, pre', x, ap, fp, he, hps, hend, rU, hap, hfp, NC⟩, nO⟩ ql
  subst he
  have hse := Q6 hj2 hps hend
  have hc0 := rU.cell 0
  have hc1 := rU.cell 1
  have hc2 := rU.cell 2
  have hc3 := rU.cell 3
  have hc4 := rU.cell 4
  have Wu := rU.cell 5
  have hc6 := rU.cell 6
  have vQ : aj (V.putObj D (.deferred none)) (w.heap.size + 1 + 1 + 1 + 1) 159 _ := yL rU (grownBy_putObj' V D (.deferred none)) (fun r e => by cases e; exact ⟨_, ql, rfl⟩)
  have Ww := Cv NC (grownBy_putObj' V D (.deferred none)) (fun r e => by cases e; exact ⟨_, ql, rfl⟩)
  gi_wp2
  refine vE ⟨by simp, .inl ⟨_, _, rfl, run_takeDeferred ql, ?_⟩⟩
  have d0 := vQ.cell 0
  have d1 := vQ.cell 1
  have d2 := vQ.cell 2
  have d3 := vQ.cell 3
  have d4 := vQ.cell 4
  have d5 := vQ.cell 5
  have d6 := vQ.cell 6
  simp only [dA, List.getElem?_toArray, List.getElem?_cons_zero, List.getElem?_cons_succ] at d0 d1 d2 d3 d4 d5 d6
  refine ⟨.agg (dA tb key hash ap (bO (oG T.gs key hash x.val)) fp (bO (eO T.gs (vals (pre' ++ [x]))))), ?_, ap, fp, ?_⟩
  ·simp [results, Tryz.f67, go_sem, d0, d1, d2, d3, d4, d5, d6, dA]
  ·rw [hse]
   exact ⟨rfl, hap, hfp, Ww, (bL nO (vD (w := w) (Nat.le_refl _) V D _ _ (by have := qR.size; omega) ql rfl rfl)).mod⟩
end Go.Proofs.YtfojgfddgplinabGreatDoor
