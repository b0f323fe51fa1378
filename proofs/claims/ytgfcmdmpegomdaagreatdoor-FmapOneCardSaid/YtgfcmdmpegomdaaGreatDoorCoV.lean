/- A table's Seek by its contract. -/
import Derived.Test.YtgfcmdmpegomdaaGreatDoorTabS
import Derived.Test.YtgfcmdmpegomdaaGreatDoorCoO
import Derived.Test.YtgfcmdmpegomdaaGreatDoorLaneP
namespace Go.Proofs.YtgfcmdmpegomdaaGreatDoor
set_option maxRecDepth 100000
set_option maxHeartbeats 4000000
open Go.RowKit Go.Shelf AmC
variable {S : List Nat} {X Y w w' : World} {row : Option Nat} {t : TypeId} {n : Nat}
attribute [local go_sem] Oper.semAt_some
def plusN (a c : Cnt) : Nat → Cnt
 | 0 => a
 | k + 1 => plusC (plusN a c k) c
theorem Mod.cell_ (h : Mod S w w') {p : Addr} (hp : p.block < w.heap.size) (hs : p.block ∉ S) : w'.cell? p = w.cell? p := World.cell?_of_block (w := w) (h.block p.block hp hs)
theorem keepsFrom_mod {B : Nat} (h : Mod S w w') (hS : ∀ k, k ∈ S → k < B) : KeepsFrom B w w' := ⟨h.size, fun k o hB hk _ => (h.block k (Array.getElem?_eq_some_iff.1 hk).1 (fun hh => absurd (hS k hh) (by omega))).trans hk⟩
theorem keepS_sub {n₀ n₁ : Nat} {T : List Nat} {A B : World} (h : KeepS n₀ S A B) (hn : n₁ ≤ n₀) (hS : ∀ k, k < n₁ → k ∈ S → k ∈ T) : KeepS n₁ T A B := ⟨h.os, h.tape, h.output, h.size, fun k hk hT => h.block k (by omega) (fun hh => hT (hS k hk hh))⟩
theorem blk_own {g : Nat} {cs : Array Value} (h : Blk X g t cs) (hg : X.grownBy Y row) (hr : ∀ r, row = some r → ∃ o : Obj, X.heap[r]? = some o ∧ o.isCells = false) : Blk Y g t cs := by
 refine (hg.block g h.lt (fun e => ?_)).trans h
 obtain ⟨o, ho, hc⟩ := hr g e.symm
 rw [show X.heap[g]? = _ from h] at ho; cases ho; cases hc
theorem met_own {mb : Nat} {pre post : List Value} {mo : Nat} {a l : Cnt} {m : Int} (h : Met X mb t pre post mo a l m) (hg : X.grownBy Y row) (hr : ∀ r, row = some r → ∃ o : Obj, X.heap[r]? = some o ∧ o.isCells = false) : Met Y mb t pre post mo a l m := ⟨h.len, blk_own h.blk hg hr⟩
def slotI (x : Option (Nat × Nat)) : Int := match x with
 | some y => (y.2 : Int)
 | none => -1
def spotCells (tb key hash : Nat) (ap : Option Addr) (as_ : Int) (fp : Option Addr) (fs : Int) : Array Value := #[.pointer (some ⟨tb, 0, none⟩), .int .u64 (key : Int), .int .u64 (hash : Int), .pointer ap, .int .i64 as_, .pointer fp, .int .i64 fs]
def PtrOf (gb : Nat) (x : Option (Nat × Nat)) (p : Option Addr) : Prop := ∀ i s, x = some (i, s) → p = some ⟨gb, i * 25, none⟩
def vals {n : Nat} (pre : List (Fin n)) : List Nat := pre.map Fin.val
theorem vals_snoc (pre : List (Fin n)) (x : Fin n) : vals (pre ++ [x]) = vals pre ++ [x.val] := by simp [vals]
def hitOf (gs : Tab) (key hash i : Nat) : Option (Nat × Nat) := (findG (gs.getD i []) key hash).map fun s => (i, s)
theorem seek_ends {gs : Tab} {key hash : Nat} {pre : List (Fin n)} {x : Fin n} {j : Nat} (hj : vals (pre ++ [x]) = (walk (hash / 128) gs.length).take j) (h : ∀ y ∈ pre, Passed gs key hash y.val) (he : findG (gs.getD x.val []) key hash ≠ none ∨ openG (gs.getD x.val []) = true) : seek gs key hash = (hitOf gs key hash x.val, freeOf gs (vals (pre ++ [x])), (pre ++ [x]).length) := by
 have hw : vals pre ++ x.val :: (walk (hash / 128) gs.length).drop j = walk (hash / 128) gs.length := by
  have := List.take_append_drop j (walk (hash / 128) gs.length)
  rw [← hj, vals_snoc, List.append_assoc] at this
  exact this
 have hp : ∀ i ∈ vals pre, Passed gs key hash i := fun i hi => by
  obtain ⟨y, hy, rfl⟩ := List.mem_map.1 hi
  exact h y hy
 have hlen : (vals pre ++ [x.val]).length = (pre ++ [x]).length := by simp [vals]
 unfold hitOf
 rw [vals_snoc, ← hlen]
 cases hf : findG (gs.getD x.val []) key hash with
 | some s => exact seek_hit hw hp hf
 | none =>
  rcases he with he | he
  ·exact absurd hf he
  ·exact seek_stop hw hp hf he
theorem table_Seek (tb gb key hash : Nat) (T : TabM) (mb : Nat) (mt : TypeId) (mpre mpost : List Value) (mo : Nat) (a0 l0 : Cnt) (m : Int) (c : Cnt) (w : World) (h : TabAt w tb gb T) (hP : Pw T.gs.length) (h64 : hash < 18446744073709551616) (hM : Met w mb mt mpre mpost mo a0 l0 m) (hmt : mb ≠ tb) (hmg : mb ≠ gb) (hT : TzIn w) (hz : 17 ≠ mb) :
  Calls Tryz.prog 92 #[tabP tb, lensV (some ⟨mb, mo, none⟩) c, .int .u64 (key : Int), .int .u64 (hash : Int)] w fun e w' => ∃ ap fp, e = .returned (spotV tb key hash ap (slotI (seek T.gs key hash).1) fp (slotI (seek T.gs key hash).2.1)) ∧
   (∀ i s, (seek T.gs key hash).1 = some (i, s) → ap = some ⟨gb, i * 25, none⟩) ∧ (∀ i s, (seek T.gs key hash).2.1 = some (i, s) → fp = some ⟨gb, i * 25, none⟩) ∧
   Met w' mb mt mpre mpost mo (plusN a0 c (seek T.gs key hash).2.2) (plusN l0 c (seek T.gs key hash).2.2) m ∧ Mod [mb] w w' := by
 obtain ⟨W, hW, hB, hA, hL, hK, hH, hR⟩ := qX5 w 167 #[.pointer (some ⟨tb, 0, none⟩)] 138 #[.pointer (some ⟨mb, mo, none⟩), .int .i64 c.p, .int .i64 c.v, .int .i64 c.u] 57 #[.int .u64 (key : Int)] 57 #[.int .u64 (hash : Int)] 189 #[.pointer none, .int .u64 0, .int .u64 0, .pointer none, .int .i64 0, .pointer none, .int .i64 0]
 have hTW := h.below hB
 have hMW := hM.below hB
 have HW := qd hW
 have HB := qd hB
 have hg := World.block_lt_of_cell? w _ (hT 0 (by omega))
 have htl := h.ltT
 have hgl := h.ltG
 have hml := hM.lt
 unfold tabP lensV spotV
 clear hW hB h hM
 refine (callsIn_wide (n := 10)).1 ?_
 have h1 : 1 ≤ 10 := by omega
 refine callsIn_of_wp_calm Tryz.func92 rfl trivial rfl ?_
 simp only [Tryz.ntmps92, List.size_toArray, List.length_cons, List.length_nil, Nat.reduceAdd, Nat.reduceSub, Array.replicate_succ, Array.replicate_zero, List.push_toArray, List.append_toArray, List.nil_append, List.cons_append]
 refine wpIn_wide.2 ?_
 go_upto_region 1 with fail
 rw [← HW.out]
 have ca0 := hA.cell 0
 simp only [List.getElem?_toArray, List.getElem?_cons_zero] at ca0
 have ck0 := hK.cell 0
 simp only [List.getElem?_toArray, List.getElem?_cons_zero] at ck0
 have ch0 := hH.cell 0
 simp only [List.getElem?_toArray, List.getElem?_cons_zero] at ch0
 go_upto_region 2 with fail
 have hSp := Blk.new W 189 #[.pointer (some ⟨tb, 0, none⟩), .int .u64 (key : Int), .int .u64 (hash : Int), .pointer none, .int .i64 (-1), .pointer none, .int .i64 (-1)]
 have hBW := (Below.refl W.heap.size W).alloc (Nat.le_refl _) (.cells #[.pointer (some ⟨tb, 0, none⟩), .int .u64 (key : Int), .int .u64 (hash : Int), .pointer none, .int .i64 (-1), .pointer none, .int .i64 (-1)] 189)
 obtain ⟨W1, hW1⟩ : ∃ W1, W1 = W.alloc (.cells #[.pointer (some ⟨tb, 0, none⟩), .int .u64 (key : Int), .int .u64 (hash : Int), .pointer none, .int .i64 (-1), .pointer none, .int .i64 (-1)] 189) := ⟨_, rfl⟩
 rw [← hW1] at hSp hBW ⊢
 have HW1 := qd hW1
 clear hW1
 have hT1 := hTW.below hBW
 have hM1 := hMW.below hBW
 have ht := cell_in hBW ca0
 have hh := cell_in hBW ch0
 have hc := hT1.cells.1
 have hBB : Below w.heap.size w W1 := below_nx hBW HB.out
 have hlR := hR.lt
 have hW1l := hSp.lt
 refine rT (fun (w' : World) => w'.cell? ⟨w.heap.size + 1 + 1 + 1, 0, none⟩ = some (.int .u64 (hash : Int)) ∧ w'.cell? ⟨w.heap.size, 0, none⟩ = some (.pointer (some ⟨tb, 0, none⟩)) ∧ w'.cell? ⟨tb, 0, none⟩ = some (.slice (some ⟨gb, 0, none⟩) T.gs.length T.gs.length)) [] ?_
 have hHeld := (⟨hh, ht, hc⟩ : _ ∧ _ ∧ _)
 refine vT 0 rfl ?_
 refine vT 2 rfl ?_
 refine vW 3 rfl ?_
 refine vW 4 rfl ?_
 refine vT 5 rfl ?_
 refine vW 6 rfl ?_
 refine nT 1 rfl fun K hK => ?_
 go_simp
 refine (split_H1 hash _).mono ?_
 rintro e w1 ⟨rfl, rfl⟩
 go_wp2_with fail
 have hHeld := (⟨hh, ht, hc⟩ : _ ∧ _ ∧ _)
 refine kO hK ?_
 clear hK K
 refine nT 7 rfl fun K hK => ?_
 go_simp
 refine (probe_Walk (hash / 128) T.gs.length _).mono ?_
 rintro e w1 ⟨rfl, hw1⟩
 have hb1 : Below W1.heap.size W1 w1 := hw1 ▸ (((Below.refl W1.heap.size W1).drew).alloc (Nat.le_refl _) _).alloc (by simp) _
 have hBh : Blk w1 W1.heap.size 57 #[.int .u64 ((hash / 128 : Nat) : Int)] := hw1 ▸ (Blk.new W1.drew _ _).alloc _
 have hBg : Blk w1 (W1.heap.size + 1) 3 #[.int .i64 (T.gs.length : Int)] := by rw [← hw1]; have h0 := Blk.new (W1.drew.alloc (.cells #[.int .u64 ((hash / 128 : Nat) : Int)] 57)) 3 #[.int .i64 (T.gs.length : Int)]; rw [show (W1.drew.alloc (.cells #[.int .u64 ((hash / 128 : Nat) : Int)] 57)).heap.size = W1.heap.size + 1 by simp] at h0; exact h0
 clear hw1
 go_wp2_with fail
 replace hh := cell_in hb1 hh
 replace ht := cell_in hb1 ht
 replace hc := cell_in hb1 hc
 have hHeld := (⟨hh, ht, hc⟩ : _ ∧ _ ∧ _)
 refine kO hK ?_
 clear hK K
 refine doneT (by kernel_rfl) ?_ _
 go_wp2_with fail
 refine (wpIn_wide (n := 10)).1 ?_
 have hA1 := (hA.below hBW hA.lt).below hb1 (hA.below hBW hA.lt).lt
 have hL1 := (hL.below hBW hL.lt).below hb1 (hL.below hBW hL.lt).lt
 have hK1 := (hK.below hBW hK.lt).below hb1 (hK.below hBW hK.lt).lt
 have hH1 := (hH.below hBW hH.lt).below hb1 (hH.below hBW hH.lt).lt
 have hR1 := (hR.below hBW hR.lt).below hb1 (hR.below hBW hR.lt).lt
 have hTw := hT1.below hb1
 have hTz1 : TzIn w1 := fun i hi => ((hBB.trans (hb1.mono hBB.size)).cell (p := ⟨17, tzIdx i, none⟩) hg).trans (hT i hi)
 have hbl := hb1.size
 have hgs : 17 < w1.heap.size := by have := hBB.size; omega
 refine wpIn_rangeFunc_ownH rfl h1 (gf := 187) (lb := #[.pointer (some ⟨W1.heap.size + 1, 0, none⟩), .pointer (some ⟨W1.heap.size, 0, none⟩)]) rfl trivial (enters_of Tryz.func187 (by kernel_rfl) rfl)
  (walk_stops (10 - 1) (by omega) (W1.heap.size + 1) W1.heap.size w1.heap.size [W.heap.size, mb] (hash / 128) T.gs.length (by omega) hP w1 hBg.lt (by simp; omega) hBh.lt (Nat.le_refl _) (hBg.cell 0) (hBh.cell 0)) keepS_t (keepS_b (Nat.le_refl _)) (Below.refl _ _) (fun _ => rfl)
  (fun pre V => ((∃ fp, Blk V W.heap.size 189 (spotCells tb key hash none (-1) fp (slotI (freeOf T.gs (vals pre)))) ∧ PtrOf gb (freeOf T.gs (vals pre)) fp) ∧ Met V mb mt mpre mpost mo (plusN a0 c pre.length) (plusN l0 c pre.length) m ∧ ∀ y ∈ pre, Passed T.gs key hash y.val) ∧ KeepS w1.heap.size [W.heap.size, mb] w1 V)
  (fun cd pre V => (cd = .ret ∧ ∃ pre' x ap fp, pre = pre' ++ [x] ∧ (∀ y ∈ pre', Passed T.gs key hash y.val) ∧ (findG (T.gs.getD x.val []) key hash ≠ none ∨ openG (T.gs.getD x.val []) = true) ∧
   Blk V (w.heap.size + 1 + 1 + 1 + 1) 189 (spotCells tb key hash ap (slotI (hitOf T.gs key hash x.val)) fp (slotI (freeOf T.gs (vals pre)))) ∧ PtrOf gb (hitOf T.gs key hash x.val) ap ∧ PtrOf gb (freeOf T.gs (vals pre)) fp ∧
   Met V mb mt mpre mpost mo (plusN a0 c pre.length) (plusN l0 c pre.length) m) ∧ KeepS w.heap.size [mb] w V)
  (OwnFrom.and (fun _ X Y row hs hg hr => by
   obtain ⟨⟨fp, h2, h3⟩, h4, h5⟩ := hs
   exact ⟨⟨fp, blk_own h2 hg (fun r e => (hr r e).2), h3⟩, met_own h4 hg (fun r e => (hr r e).2), h5⟩) (ownFrom_keepS (Nat.le_refl _) (Nat.le_refl _)))
  (fun cd => OwnFrom.and (fun _ X Y row hs hg hr => by
   obtain ⟨h0, pre', x, ap, fp, h2, h3, h4, h5, h6, h7, h8⟩ := hs
   exact ⟨h0, pre', x, ap, fp, h2, h3, h4, blk_own h5 hg (fun r e => (hr r e).2), h6, h7, met_own h8 hg (fun r e => (hr r e).2)⟩) (ownFrom_keepS (Nat.le_refl _) (by have := hBB.size; omega)))
  ⟨⟨⟨none, hSp.below hb1 hSp.lt, fun i s he => by cases he⟩, hM1.below hb1, by simp⟩, KeepS.refl _ _ _⟩
  (fun x a' _ => a' = { tmps := #[.pointer (some ⟨tb, 0, none⟩), .agg #[.pointer (some ⟨mb, mo, none⟩), .int .i64 c.p, .int .i64 c.v, .int .i64 c.u], .int .u64 (key : Int), .int .u64 (hash : Int), .pointer (some ⟨w.heap.size, 0, none⟩), .pointer (some ⟨w.heap.size + 1, 0, none⟩), .pointer (some ⟨w.heap.size + 1 + 1, 0, none⟩), .pointer (some ⟨w.heap.size + 1 + 1 + 1, 0, none⟩), .pointer (some ⟨w.heap.size + 1 + 1 + 1 + 1, 0, none⟩), .pointer (some ⟨W.heap.size, 0, none⟩), .int .i64 (x.val : Int), undef, undef, .pointer (some ⟨tb, 0, none⟩), .int .u64 (key : Int), .int .u64 (hash : Int), .agg #[.pointer none, .int .i64 (-1)], .agg #[.pointer none, .int .i64 (-1)], .agg #[.pointer (some ⟨tb, 0, none⟩), .int .u64 (key : Int), .int .u64 (hash : Int), .pointer none, .int .i64 (-1), .pointer none, .int .i64 (-1)], .int .u64 (hash : Int), .int .u64 ((hash : Int) / 128), .pointer (some ⟨tb, 0, none⟩), .pointer (some ⟨tb, 0, none⟩), .pointer (some ⟨tb, 0, none⟩), .slice (some ⟨gb, 0, none⟩) T.gs.length T.gs.length, .int .i64 (T.gs.length : Int), .func (.func 187) #[] #[.pointer (some ⟨W1.heap.size + 1, 0, none⟩), .pointer (some ⟨W1.heap.size, 0, none⟩)], .int .i64 (x.val : Int), undef, undef, undef, undef, undef, undef, undef, undef, undef, undef, undef, undef, undef, undef, undef, undef, undef, undef, undef, undef, undef, undef, undef, undef, undef, undef, undef, undef, undef, undef, undef, undef], defers := [] })
  (fun _ _ _ _ _ _ hs _ _ => hs) ?assign ?body ?done ?stop
 case assign =>
  rintro lp pre x V K hi hK
  gi_wp2
  exact hK _ _ (KeepsFrom.refl _ _) (KeepS.refl _ _ _) hi rfl
 case body =>
  rintro lp pre x a' V hl ⟨r, hr⟩ ⟨⟨⟨fp, hSV, hfp⟩, hMV, hps⟩, hKS⟩ rfl hlt
  have hAV := hKS.blk hA1 (by omega) (by simp; omega)
  have hLV := hKS.blk hL1 (by omega) (by simp; omega)
  have hTV := hTw.keep hKS (by omega) (by omega) (by simp; omega) (by simp; omega)
  have hxn : x.val < T.gs.length := x.isLt
  have hn64 := hP.le
  have hxi : (x.val : Int) < (T.gs.length : Int) := by omega
  have hx0 : (0 : Int) ≤ (x.val : Int) := by omega
  have hVs := hKS.size
  have t0 := hAV.cell 0
  simp only [List.getElem?_toArray, List.getElem?_cons_zero] at t0
  obtain ⟨lc0, lc1, lc2, lc3⟩ := hLV.c4
  have hc := hTV.cells.1
  have HS := qd (fun (wX : World) (M : Mod [mb] V wX) => show (fun (w' : World) => w'.cell? ⟨w.heap.size, 0, none⟩ = some (.pointer (some ⟨tb, 0, none⟩)) ∧ w'.cell? ⟨tb, 0, none⟩ = some (.slice (some ⟨gb, 0, none⟩) T.gs.length T.gs.length) ∧ w'.cell? ⟨w.heap.size + 1, 0, none⟩ = some (.pointer (some ⟨mb, mo, none⟩)) ∧ w'.cell? ⟨w.heap.size + 1, 1, none⟩ = some (.int .i64 c.p) ∧ w'.cell? ⟨w.heap.size + 1, 2, none⟩ = some (.int .i64 c.v) ∧ w'.cell? ⟨w.heap.size + 1, 3, none⟩ = some (.int .i64 c.u)) wX from ⟨(M.cell_ (p := ⟨w.heap.size, 0, none⟩) (by show w.heap.size < _; omega) (by simp; omega)).trans t0, (M.cell_ (p := ⟨tb, 0, none⟩) (by show tb < _; omega) (by simp; omega)).trans hc, (M.cell_ (p := ⟨w.heap.size + 1, 0, none⟩) (by show w.heap.size + 1 < _; omega) (by simp; omega)).trans lc0, (M.cell_ (p := ⟨w.heap.size + 1, 1, none⟩) (by show w.heap.size + 1 < _; omega) (by simp; omega)).trans lc1, (M.cell_ (p := ⟨w.heap.size + 1, 2, none⟩) (by show w.heap.size + 1 < _; omega) (by simp; omega)).trans lc2, (M.cell_ (p := ⟨w.heap.size + 1, 3, none⟩) (by show w.heap.size + 1 < _; omega) (by simp; omega)).trans lc3⟩)
  gi_wp2_with fail
  refine cutI (fun a' w2 => ∃ vb, a' = { tmps := #[.pointer (some ⟨tb, 0, none⟩), .agg #[.pointer (some ⟨mb, mo, none⟩), .int .i64 c.p, .int .i64 c.v, .int .i64 c.u], .int .u64 (key : Int), .int .u64 (hash : Int), .pointer (some ⟨w.heap.size, 0, none⟩), .pointer (some ⟨w.heap.size + 1, 0, none⟩), .pointer (some ⟨w.heap.size + 1 + 1, 0, none⟩), .pointer (some ⟨w.heap.size + 1 + 1 + 1, 0, none⟩), .pointer (some ⟨w.heap.size + 1 + 1 + 1 + 1, 0, none⟩), .pointer (some ⟨W.heap.size, 0, none⟩), .int .i64 (x.val : Int), .pointer (some ⟨vb, 0, none⟩), undef, .pointer (some ⟨tb, 0, none⟩), .int .u64 (key : Int), .int .u64 (hash : Int), .agg #[.pointer none, .int .i64 (-1)], .agg #[.pointer none, .int .i64 (-1)], .agg #[.pointer (some ⟨tb, 0, none⟩), .int .u64 (key : Int), .int .u64 (hash : Int), .pointer none, .int .i64 (-1), .pointer none, .int .i64 (-1)], .int .u64 (hash : Int), .int .u64 ((hash : Int) / 128), .pointer (some ⟨tb, 0, none⟩), .pointer (some ⟨tb, 0, none⟩), .pointer (some ⟨tb, 0, none⟩), .slice (some ⟨gb, 0, none⟩) T.gs.length T.gs.length, .int .i64 (T.gs.length : Int), .func (.func 187) #[] #[.pointer (some ⟨W1.heap.size + 1, 0, none⟩), .pointer (some ⟨W1.heap.size, 0, none⟩)], .int .i64 (x.val : Int), .pointer (some ⟨tb, 0, none⟩), .pointer (some ⟨tb, 0, none⟩), .pointer (some ⟨tb, 0, none⟩), .slice (some ⟨gb, 0, none⟩) T.gs.length T.gs.length, .int .i64 (x.val : Int), .pointer (some ⟨gb, x.val * 25, none⟩), .agg #[.pointer (some ⟨mb, mo, none⟩), .int .i64 c.p, .int .i64 c.v, .int .i64 c.u], .agg #[.pointer (some ⟨gb, x.val * 25, none⟩)], undef, undef, undef, undef, undef, undef, undef, undef, undef, undef, undef, undef, undef, undef, undef, undef, undef, undef, undef, undef, undef, undef, undef, undef], defers := [] } ∧ Blk w2 vb 185 #[.pointer (some ⟨gb, x.val * 25, none⟩)] ∧ V.heap.size ≤ vb ∧ Met w2 mb mt mpre mpost mo (plusC (plusN a0 c pre.length) c) (plusC (plusN l0 c pre.length) c) m ∧ Mod [mb] V w2) ?_ ?_
  ·refine region_I (fun (w' : World) => w'.cell? ⟨w.heap.size, 0, none⟩ = some (.pointer (some ⟨tb, 0, none⟩)) ∧ w'.cell? ⟨tb, 0, none⟩ = some (.slice (some ⟨gb, 0, none⟩) T.gs.length T.gs.length) ∧ w'.cell? ⟨w.heap.size + 1, 0, none⟩ = some (.pointer (some ⟨mb, mo, none⟩)) ∧ w'.cell? ⟨w.heap.size + 1, 1, none⟩ = some (.int .i64 c.p) ∧ w'.cell? ⟨w.heap.size + 1, 2, none⟩ = some (.int .i64 c.v) ∧ w'.cell? ⟨w.heap.size + 1, 3, none⟩ = some (.int .i64 c.u)) [] (by kernel_rfl) (by kernel_rfl) (by rintro ⟨_, _, h⟩; exact h) ?_
   try (change wpAnyT _ _ _ _ _ _ _ _ _ (World.drew _))
   have hHeld := (⟨t0, hc, lc0, lc1, lc2, lc3⟩ : _ ∧ _ ∧ _ ∧ _ ∧ _ ∧ _)
   refine vT 0 rfl ?_
   refine vW 1 rfl ?_
   refine vW 2 rfl ?_
   refine vT 3 rfl ?_
   refine vW 4 rfl ?_
   refine vW 5 rfl ?_
   refine vT 6 rfl ?_
   refine pairT (i := 7) (j := 8) (o := ⟨some 35, _, _, _, _, _⟩) (o' := ⟨some 11, _, _, _, _, _⟩) rfl rfl (by kernel_rfl) (fun K hK => ?_) (fun K hK => ?_)
   ·go_simp
    refine (group_Look ⟨gb, x.val * 25, none⟩ mb mt mpre mpost mo _ _ m c _ (hMV.below (Below.refl _ _).drew)).mono ?_
    rintro e w2 ⟨rfl, hM2, hm2⟩
    simp only [viewV]
    go_wp2_with fail
    have M7 : Mod [mb] V w2 := (Mod.drewN [mb] V 1).then hm2
    refine hK.out _ _ (fun _ => HS.out _ M7) ?_
    clear hK K
    try simp only [pt]
    refine nT 8 rfl fun K hK => ?_
    go_simp
    have M8 : Mod [mb] V (w2.alloc (.cells #[.pointer none] 185)) := M7.alloc _
    have hN8 := Blk.new w2 185 #[.pointer none]
    have hM8 := hM2.below ((Below.refl w2.heap.size w2).alloc (Nat.le_refl _) (.cells #[.pointer none] 185))
    have hw2s := M7.size
    obtain ⟨w3, hw3⟩ : ∃ w3, w3 = w2.alloc (.cells #[.pointer none] 185) := ⟨_, rfl⟩
    rw [← hw3] at M8 hN8 hM8 ⊢
    clear hw3
    refine hK.out _ _ (fun _ => HS.out _ M8) ?_
    clear hK K
    try simp only [pt]
    refine nT 9 rfl fun K hK => ?_
    have n0 := hN8.cell 0
    simp only [List.getElem?_toArray, List.getElem?_cons_zero] at n0
    have nf := hN8.frozen 0
    go_simp
    have M9 := M8.set_ (b := w2.heap.size) (.inr (by omega)) 0 (.pointer (some ⟨gb, x.val * 25, none⟩))
    refine hK.out _ _ (fun _ => HS.out _ M9) ?_
    clear hK K
    try simp only [pt]
    refine doneT (by kernel_rfl) ?_ _
    exact ⟨w2.heap.size, rfl, hN8.set_ 0 _, hw2s, ⟨hM8.len, hM8.blk.far (p := ⟨w2.heap.size, 0, none⟩) (by show mb ≠ w2.heap.size; omega) _⟩, M9⟩
   ·go_simp
    have M8 : Mod [mb] V (V.alloc (.cells #[.pointer none] 185)).drew := ((Mod.refl [mb] V).alloc _).then (Mod.drewN [mb] _ 1)
    have hN8 : Blk (V.alloc (.cells #[.pointer none] 185)).drew V.heap.size 185 #[.pointer none] := (Blk.new V _ _).drew
    have hM8 := hMV.below (((Below.refl V.heap.size V).alloc (Nat.le_refl _) (.cells #[.pointer none] 185)).drew)
    obtain ⟨w3, hw3⟩ : ∃ w3, w3 = (V.alloc (.cells #[.pointer none] 185)).drew := ⟨_, rfl⟩
    rw [← hw3] at M8 hN8 hM8 ⊢
    clear hw3
    refine hK.out _ _ (fun _ => HS.out _ M8) ?_
    clear hK K
    try simp only [pt]
    refine nT 7 rfl fun K hK => ?_
    go_simp
    refine (group_Look ⟨gb, x.val * 25, none⟩ mb mt mpre mpost mo _ _ m c _ hM8).mono ?_
    rintro e w2 ⟨rfl, hM2, hm2⟩
    simp only [viewV]
    go_wp2_with fail
    have M7 : Mod [mb] V w2 := M8.then hm2
    replace hN8 := hN8.mod hm2 (by simp; omega)
    refine hK.out _ _ (fun _ => HS.out _ M7) ?_
    clear hK K
    try simp only [pt]
    refine nT 9 rfl fun K hK => ?_
    have n0 := hN8.cell 0
    simp only [List.getElem?_toArray, List.getElem?_cons_zero] at n0
    have nf := hN8.frozen 0
    go_simp
    have M9 := M7.set_ (b := V.heap.size) (.inr (Nat.le_refl _)) 0 (.pointer (some ⟨gb, x.val * 25, none⟩))
    refine hK.out _ _ (fun _ => HS.out _ M9) ?_
    clear hK K
    try simp only [pt]
    refine doneT (by kernel_rfl) ?_ _
    exact ⟨V.heap.size, rfl, hN8.set_ 0 _, Nat.le_refl _, ⟨hM2.len, hM2.blk.far (p := ⟨V.heap.size, 0, none⟩) (by show mb ≠ V.heap.size; omega) _⟩, M9⟩
  ·rintro a' w2 ⟨vb, rfl, hVb, hvb, hM2, hm2⟩
   simp only [Array.mk.injEq, List.cons_append, List.nil_append]
   have hK2 : KeepS w1.heap.size [W.heap.size, mb] w1 w2 := keepS_t hKS ((hm2.more (T := [W.heap.size, mb]) (by simp)).keepS hVs)
   have hKp2 : KeepS w1.heap.size [W.heap.size, mb] V w2 := (hm2.more (T := [W.heap.size, mb]) (by simp)).keepS hVs
   have hT2 := hTV.mod hm2 (by simp; omega) (by simp; omega)
   have hS2 := hSV.mod hm2 (by simp; omega)
   have hK2b := hK2.blk hK1 (by omega) (by simp; omega)
   have hH2b := hK2.blk hH1 (by omega) (by simp; omega)
   have hR2 := hK2.blk hR1 (by omega) (by simp; omega)
   have hTz2 : TzIn w2 := hK2.tz hgs (by simp; omega) hTz1
   have hKF2 : KeepsFrom w1.heap.size V w2 := keepsFrom_mod hm2 (by simp; omega)
   have hvb1 : w1.heap.size ≤ vb := Nat.le_trans hVs hvb
   cases hfr : freeOf T.gs (vals pre) with
   | some y =>
    have hfr2 : freeOf T.gs (vals (pre ++ [x])) = some y := by rw [vals_snoc, freeOf_snoc, hfr]; rfl
    rw [hfr] at hS2 hfp
    obtain ⟨wq, hwq⟩ : ∃ wq, wq = w2 := ⟨_, rfl⟩
    obtain ⟨fpq, hfpq⟩ : ∃ fpq, fpq = fp := ⟨_, rfl⟩
    rw [← hwq] at hS2 hVb hK2b hH2b hR2 hT2 hTz2 hKF2 hK2 hKp2 hM2 ⊢
    rw [← hfpq] at hS2 hfp
    clear hwq hfpq hm2
    have hSq := hS2
    have hfq : PtrOf gb (freeOf T.gs (vals (pre ++ [x]))) fpq := hfr2 ▸ hfp
    have hVq := hVb
    have hKq := hK2b
    have hRq := hR2
    have hMq := hM2
    have hKq1 := hK2
    have hKqV := hKp2
    have hKFq := hKF2
    have hHq := hH2b
    have hTq := hT2
    have hTzq := hTz2
    have hsl : ¬ slotI (some y) < 0 := by simp only [slotI]; omega
    generalize hsv : slotI (some y) = sv at *
    have hsq : slotI (freeOf T.gs (vals (pre ++ [x]))) = sv := by rw [hfr2]; exact hsv
    unfold spotCells at hSq
    obtain ⟨p0, p1, p2, p3, p4, p5, p6⟩ := hSq.c7
    have v0 := hVq.cell 0
    simp only [List.getElem?_toArray, List.getElem?_cons_zero] at v0
    have kk0 := hKq.cell 0
    simp only [List.getElem?_toArray, List.getElem?_cons_zero] at kk0
    have hh0 := hHq.cell 0
    simp only [List.getElem?_toArray, List.getElem?_cons_zero] at hh0
    have HFi := qd (wide_of (q := 7) (grp_Find gb 225 (tabCells (T.gs.take x.val)) (tabCells (T.gs.drop (x.val + 1))) (x.val * 25) (T.gs.getD x.val []) wq (hTq.group x.val hxn) key hash h64 hTzq))
    cases hf : findG (T.gs.getD x.val []) key hash with
    | some s =>
     rw [hf] at HFi
     simp only [optI] at HFi
     have hs0 : (0 : Int) ≤ (s : Int) := by omega
     gi_wp2_with fail
     refine ⟨trivial, (CallsIn.inRound lp HFi.out).mono ?_⟩
     rintro e w5 ⟨rfl, hb5⟩
     have hK5 := keepS_t hKq1 (KeepS.of_below (n₀ := w1.heap.size) (S := [W.heap.size, mb]) (hb5.mono (by have := hKq1.size; omega)))
     have hKp5 := keepS_t hKqV (KeepS.of_below (n₀ := w1.heap.size) (S := [W.heap.size, mb]) (hb5.mono (by have := hKq1.size; omega)))
     have hKF5 := hKFq.trans (keepsFrom_mod (Mod.of_below hb5 []) (by simp))
     have hS5 := hSq.below hb5 hSq.lt
     have hR5 := hRq.below hb5 hRq.lt
     have hV5 := hVq.below hb5 hVq.lt
     have hM5 := hMq.below hb5
     have hT5 := hTq.below hb5
     obtain ⟨s0, s1, s2, s3, s4, s5, s6⟩ := hS5.c7
     obtain ⟨sf0, sf1, sf2, sf3, sf4, sf5, sf6⟩ := hS5.f7
     obtain ⟨r0, r1, r2, r3, r4, r5, r6⟩ := hR5.c7
     obtain ⟨rf0, rf1, rf2, rf3, rf4, rf5, rf6⟩ := hR5.f7
     have vv0 := hV5.cell 0
     simp only [List.getElem?_toArray, List.getElem?_cons_zero] at vv0
     clear v0 kk0 hh0 hS5 hV5 hb5 hSq hVq hRq hMq
     obtain ⟨w6, hw6⟩ : ∃ w6, w6 = ((((((((w5.setCell ⟨W.heap.size, 3, none⟩ (.pointer (some ⟨gb, x.val * 25, none⟩))).setCell ⟨W.heap.size, 4, none⟩ (.int .i64 (s : Int))).setCell ⟨w.heap.size + 1 + 1 + 1 + 1, 0, none⟩ (.pointer (some ⟨tb, 0, none⟩))).setCell ⟨w.heap.size + 1 + 1 + 1 + 1, 1, none⟩ (.int .u64 (key : Int))).setCell ⟨w.heap.size + 1 + 1 + 1 + 1, 2, none⟩ (.int .u64 (hash : Int))).setCell ⟨w.heap.size + 1 + 1 + 1 + 1, 3, none⟩ (.pointer (some ⟨gb, x.val * 25, none⟩))).setCell ⟨w.heap.size + 1 + 1 + 1 + 1, 4, none⟩ (.int .i64 (s : Int))).setCell ⟨w.heap.size + 1 + 1 + 1 + 1, 5, none⟩ (.pointer fpq)).setCell ⟨w.heap.size + 1 + 1 + 1 + 1, 6, none⟩ (.int .i64 sv) := ⟨_, rfl⟩
     have M6 : Mod [W.heap.size, w.heap.size + 1 + 1 + 1 + 1] w5 w6 := hw6 ▸ ((((((((((Mod.refl [W.heap.size, w.heap.size + 1 + 1 + 1 + 1] w5).set_ (.inl (by simp)) _ _).set_ (.inl (by simp)) _ _).set_ (.inl (by simp)) _ _).set_ (.inl (by simp)) _ _).set_ (.inl (by simp)) _ _).set_ (.inl (by simp)) _ _).set_ (.inl (by simp)) _ _).set_ (.inl (by simp)) _ _).set_ (.inl (by simp)) _ _)
     have B6 : Blk w6 (w.heap.size + 1 + 1 + 1 + 1) 189 (spotCells tb key hash (some ⟨gb, x.val * 25, none⟩) (s : Int) fpq sv) := by
      have := (((((((((hR5).far (p := ⟨W.heap.size, 3, none⟩) (by show w.heap.size + 1 + 1 + 1 + 1 ≠ W.heap.size; omega) (.pointer (some ⟨gb, x.val * 25, none⟩))).far (p := ⟨W.heap.size, 4, none⟩) (by show w.heap.size + 1 + 1 + 1 + 1 ≠ W.heap.size; omega) (.int .i64 (s : Int))).set_ 0 (.pointer (some ⟨tb, 0, none⟩))).set_ 1 (.int .u64 (key : Int))).set_ 2 (.int .u64 (hash : Int))).set_ 3 (.pointer (some ⟨gb, x.val * 25, none⟩))).set_ 4 (.int .i64 (s : Int))).set_ 5 (.pointer fpq)).set_ 6 (.int .i64 sv)
      rw [hw6]
      simpa only [List.setIfInBounds_toArray, List.set_cons_zero, List.set_cons_succ, spotCells] using this
     have T6 := hM5.mod M6 (by simp; omega)
     have K6 : KeepS w.heap.size [mb] w w6 := keepS_t (keepS_t (KeepS.of_below (hBB.trans (hb1.mono hBB.size))) (keepS_sub hK5 (by omega) (by simp; omega))) (keepS_sub (M6.keepS (Nat.le_refl _)) (by have := hK5.size; have := hBB.size; omega) (by simp; omega))
     have F6 : KeepsFrom w1.heap.size V w6 := hKF5.trans (keepsFrom_mod M6 (by simp; omega))
     have HE := qd (And.intro B6 (And.intro T6 (And.intro K6 F6)))
     clear M6 B6 T6 K6 F6
     have HW6 := qd hw6
     clear hw6
     gi_wp2
     rw [← HW6.out]
     exact ⟨HE.out.2.2.2, ⟨rfl, pre, x, some ⟨gb, x.val * 25, none⟩, fpq, rfl, hps, .inl (by rw [hf]; simp), by rw [hsq, hitOf, hf]; exact HE.out.1, fun a b hab => by rw [hitOf, hf] at hab; cases hab; rfl, hfq, by rw [List.length_append]; exact HE.out.2.1⟩, HE.out.2.2.1⟩
    | none =>
     rw [hf] at HFi
     simp only [optI] at HFi
     gi_wp2_with fail
     refine ⟨trivial, (CallsIn.inRound lp HFi.out).mono ?_⟩
     rintro e w4 ⟨rfl, hb4⟩
     have hK4 := keepS_t hKq1 (KeepS.of_below (n₀ := w1.heap.size) (S := [W.heap.size, mb]) (hb4.mono (by have := hKq1.size; omega)))
     have hKp4 := keepS_t hKqV (KeepS.of_below (n₀ := w1.heap.size) (S := [W.heap.size, mb]) (hb4.mono (by have := hKq1.size; omega)))
     have hKF4 := hKFq.trans (keepsFrom_mod (Mod.of_below hb4 []) (by simp))
     have hS4 := hSq.below hb4 hSq.lt
     have hR4 := hRq.below hb4 hRq.lt
     have hV4 := hVq.below hb4 hVq.lt
     have hM4 := hMq.below hb4
     have hT4 := hTq.below hb4
     have vv0 := hV4.cell 0
     simp only [List.getElem?_toArray, List.getElem?_cons_zero] at vv0
     have HOp := qd (wide_of (q := 7) (grp_Open gb _ _ _ (x.val * 25) _ w4 (hT4.group x.val hxn)))
     cases ho' : openG (T.gs.getD x.val []) with
     | true =>
      rw [ho'] at HOp
      have ho : openG (T.gs.getD x.val []) = true := ho'
      gi_wp2_with fail
      refine ⟨trivial, (CallsIn.inRound lp HOp.out).mono ?_⟩
      rintro e w5 ⟨rfl, hb5⟩
      have hK5 := keepS_t hK4 (KeepS.of_below (n₀ := w1.heap.size) (S := [W.heap.size, mb]) (hb5.mono (by have := hK4.size; omega)))
      have hKp5 := keepS_t hKp4 (KeepS.of_below (n₀ := w1.heap.size) (S := [W.heap.size, mb]) (hb5.mono (by have := hK4.size; omega)))
      have hKF5 := hKF4.trans (keepsFrom_mod (Mod.of_below hb5 []) (by simp))
      have hS5 := hS4.below hb5 hS4.lt
      have hR5 := hR4.below hb5 hR4.lt
      have hV5 := hV4.below hb5 hV4.lt
      have hM5 := hM4.below hb5
      have hT5 := hT4.below hb5
      obtain ⟨s0, s1, s2, s3, s4, s5, s6⟩ := hS5.c7
      obtain ⟨sf0, sf1, sf2, sf3, sf4, sf5, sf6⟩ := hS5.f7
      obtain ⟨r0, r1, r2, r3, r4, r5, r6⟩ := hR5.c7
      obtain ⟨rf0, rf1, rf2, rf3, rf4, rf5, rf6⟩ := hR5.f7
      have vv0 := hV5.cell 0
      simp only [List.getElem?_toArray, List.getElem?_cons_zero] at vv0
      clear v0 kk0 hh0 vv0 hS5 hV5 hb5 hSq hVq hRq hMq hS4 hR4 hV4 hM4
      obtain ⟨w6, hw6⟩ : ∃ w6, w6 = ((((((w5.setCell ⟨w.heap.size + 1 + 1 + 1 + 1, 0, none⟩ (.pointer (some ⟨tb, 0, none⟩))).setCell ⟨w.heap.size + 1 + 1 + 1 + 1, 1, none⟩ (.int .u64 (key : Int))).setCell ⟨w.heap.size + 1 + 1 + 1 + 1, 2, none⟩ (.int .u64 (hash : Int))).setCell ⟨w.heap.size + 1 + 1 + 1 + 1, 3, none⟩ (.pointer none)).setCell ⟨w.heap.size + 1 + 1 + 1 + 1, 4, none⟩ (.int .i64 (-1))).setCell ⟨w.heap.size + 1 + 1 + 1 + 1, 5, none⟩ (.pointer fpq)).setCell ⟨w.heap.size + 1 + 1 + 1 + 1, 6, none⟩ (.int .i64 sv) := ⟨_, rfl⟩
      have M6 : Mod [W.heap.size, w.heap.size + 1 + 1 + 1 + 1] w5 w6 := hw6 ▸ ((((((((Mod.refl [W.heap.size, w.heap.size + 1 + 1 + 1 + 1] w5).set_ (.inl (by simp)) _ _).set_ (.inl (by simp)) _ _).set_ (.inl (by simp)) _ _).set_ (.inl (by simp)) _ _).set_ (.inl (by simp)) _ _).set_ (.inl (by simp)) _ _).set_ (.inl (by simp)) _ _)
      have B6 : Blk w6 (w.heap.size + 1 + 1 + 1 + 1) 189 (spotCells tb key hash none (-1) fpq sv) := by
       have := (((((((hR5).set_ 0 (.pointer (some ⟨tb, 0, none⟩))).set_ 1 (.int .u64 (key : Int))).set_ 2 (.int .u64 (hash : Int))).set_ 3 (.pointer none)).set_ 4 (.int .i64 (-1))).set_ 5 (.pointer fpq)).set_ 6 (.int .i64 sv)
       rw [hw6]
       simpa only [List.setIfInBounds_toArray, List.set_cons_zero, List.set_cons_succ, spotCells] using this
      have T6 := hM5.mod M6 (by simp; omega)
      have K6 : KeepS w.heap.size [mb] w w6 := keepS_t (keepS_t (KeepS.of_below (hBB.trans (hb1.mono hBB.size))) (keepS_sub hK5 (by omega) (by simp; omega))) (keepS_sub (M6.keepS (Nat.le_refl _)) (by have := hK5.size; have := hBB.size; omega) (by simp; omega))
      have F6 : KeepsFrom w1.heap.size V w6 := hKF5.trans (keepsFrom_mod M6 (by simp; omega))
      have HE := qd (And.intro B6 (And.intro T6 (And.intro K6 F6)))
      clear M6 B6 T6 K6 F6
      have HW6 := qd hw6
      clear hw6
      gi_wp2
      rw [← HW6.out]
      exact ⟨HE.out.2.2.2, ⟨rfl, pre, x, none, fpq, rfl, hps, .inr ho, by rw [hsq, hitOf, hf]; exact HE.out.1, (fun a b hab => by rw [hitOf, hf] at hab; cases hab), hfq, by rw [List.length_append]; exact HE.out.2.1⟩, HE.out.2.2.1⟩
     | false =>
      rw [ho'] at HOp
      gi_wp2_with fail
      refine ⟨trivial, (CallsIn.inRound lp HOp.out).mono ?_⟩
      rintro e w5 ⟨rfl, hb5⟩
      have hK5 := keepS_t hK4 (KeepS.of_below (n₀ := w1.heap.size) (S := [W.heap.size, mb]) (hb5.mono (by have := hK4.size; omega)))
      have hKp5 := keepS_t hKp4 (KeepS.of_below (n₀ := w1.heap.size) (S := [W.heap.size, mb]) (hb5.mono (by have := hK4.size; omega)))
      have hKF5 := hKF4.trans (keepsFrom_mod (Mod.of_below hb5 []) (by simp))
      have hS5 := hS4.below hb5 hS4.lt
      have hR5 := hR4.below hb5 hR4.lt
      have hV5 := hV4.below hb5 hV4.lt
      have hM5 := hM4.below hb5
      have hT5 := hT4.below hb5
      have HPs := qd (show ∀ y ∈ pre ++ [x], Passed T.gs key hash y.val from fun y hy => (List.mem_append.1 hy).elim (hps y) (fun e => by simp at e; subst e; exact ⟨hf, ho'⟩))
      have HL5 := qd (show Met w5 mb mt mpre mpost mo (plusN a0 c (pre ++ [x]).length) (plusN l0 c (pre ++ [x]).length) m from by rw [List.length_append]; exact hM5)
      have HS5 := qd (show ∃ fp, Blk w5 W.heap.size 189 (spotCells tb key hash none (-1) fp (slotI (freeOf T.gs (vals (pre ++ [x]))))) ∧ PtrOf gb (freeOf T.gs (vals (pre ++ [x]))) fp from ⟨fpq, by rw [hsq]; exact hS5, hfq⟩)
      have HE := qd (And.intro hKF5 (And.intro hKp5 hK5))
      clear hps hf ho' hM5 hS5 hKF5 hKp5 hK5
      gi_wp2
      exact ⟨HE.out.1, HE.out.2.1, ⟨HS5.out, HL5.out, HPs.out⟩, HE.out.2.2⟩
   | none =>
    rw [hfr] at hS2
    simp only [spotCells, slotI] at hS2
    obtain ⟨p0, p1, p2, p3, p4, p5, p6⟩ := hS2.c7
    have v0 := hVb.cell 0
    simp only [List.getElem?_toArray, List.getElem?_cons_zero] at v0
    obtain ⟨q0, q1, q2, q3, q4, q5, q6⟩ := hS2.f7
    have HFr := qd (grp_Free gb _ _ _ (x.val * 25) _ w2.drew ((hT2.below (Below.refl _ _).drew).group x.val hxn) (fun i hi => hTz2 i hi))
    obtain ⟨fv, hfv⟩ : ∃ fv, fv = optI (freeG (T.gs.getD x.val [])) := ⟨_, rfl⟩
    rw [← hfv] at HFr
    have Hfv := qd hfv
    clear hfv
    gi_wp2_with fail
    refine region_I (fun (w' : World) => w'.cell? ⟨vb, 0, none⟩ = some (.pointer (some ⟨gb, x.val * 25, none⟩))) [5] (by kernel_rfl) (by kernel_rfl) (by rintro ⟨_, _, h⟩; exact h) ?_
    try (change wpAnyT _ _ _ _ _ _ _ _ _ (World.drew _))
    have hHeld := v0
    refine vT 0 rfl ?_
    refine vT 1 rfl ?_
    refine nT 2 rfl fun K hK => ?_
    go_simp
    refine (HFr.out).mono ?_
    rintro e w3 ⟨rfl, hb3⟩
    replace hb3 : Below w2.heap.size w2 w3 := below_nx hb3 (Below.refl _ _).drew
    go_wp2_with fail
    have hHeld := show (fun (w' : World) => w'.cell? ⟨vb, 0, none⟩ = some (.pointer (some ⟨gb, x.val * 25, none⟩))) _ from cell_in hb3 v0
    refine kO hK ?_
    clear hK K
    refine vW 3 rfl ?_
    refine vW 4 rfl ?_
    refine nT 5 rfl fun K hK => ?_
    have p5n := cell_in hb3 p5
    have p6n := cell_in hb3 p6
    have q5n := (hS2.below hb3 hS2.lt).frozen 5
    have q6n := (hS2.below hb3 hS2.lt).frozen 6
    go_simp
    refine kO hK ?_
    clear hK K
    refine doneT (by kernel_rfl) ?_ _
    have hfr2 : freeOf T.gs (vals (pre ++ [x])) = (freeG (T.gs.getD x.val [])).map fun s => (x.val, s) := by rw [vals_snoc, freeOf_snoc, hfr]; rfl
    have hsv2 : slotI (freeOf T.gs (vals (pre ++ [x]))) = optI (freeG (T.gs.getD x.val [])) := by rw [hfr2]; cases freeG (T.gs.getD x.val []) <;> rfl
    obtain ⟨wq, hwq⟩ : ∃ wq, wq = (w3.setCell ⟨W.heap.size, 5, none⟩ (.pointer (some ⟨gb, x.val * 25, none⟩))).setCell ⟨W.heap.size, 6, none⟩ (.int .i64 fv) := ⟨_, rfl⟩
    rw [← hwq]
    have Mq : Mod [W.heap.size] w2 wq := hwq ▸ (((Mod.of_below hb3 [W.heap.size]).set_ (.inl (by simp)) _ _).set_ (.inl (by simp)) _ _)
    have hSq0 : Blk wq W.heap.size 189 (spotCells tb key hash none (-1) (some ⟨gb, x.val * 25, none⟩) fv) := by
     have := ((hS2.below hb3 hS2.lt).set_ 5 (.pointer (some ⟨gb, x.val * 25, none⟩))).set_ 6 (.int .i64 fv)
     rw [hwq]
     simpa only [List.setIfInBounds_toArray, List.set_cons_zero, List.set_cons_succ, spotCells] using this
    obtain ⟨fpq, hfpq⟩ : ∃ fpq : Option Addr, fpq = some ⟨gb, x.val * 25, none⟩ := ⟨_, rfl⟩
    rw [← hfpq] at hSq0
    have hfq : PtrOf gb (freeOf T.gs (vals (pre ++ [x]))) fpq := fun a b hab => by
     rw [hfr2] at hab
     cases hg2 : freeG (T.gs.getD x.val []) with
     | none => rw [hg2] at hab; cases hab
     | some s2 => rw [hg2] at hab; cases hab; exact hfpq
    clear hwq hfpq
    have hVq := hVb.mod Mq (by simp; omega)
    have hKq := hK2b.mod Mq (by simp; omega)
    have hHq := hH2b.mod Mq (by simp; omega)
    have hRq := hR2.mod Mq (by simp; omega)
    have hMq := hM2.mod Mq (by simp; omega)
    have hTq := hT2.mod Mq (by simp; omega) (by simp; omega)
    have hs2l := hK2.size
    have hKq1 := keepS_t hK2 (keepS_sub (Mq.keepS (Nat.le_refl _)) hs2l (T := [W.heap.size, mb]) (by simp; omega))
    have hKqV := keepS_t hKp2 (keepS_sub (Mq.keepS (Nat.le_refl _)) hs2l (T := [W.heap.size, mb]) (by simp; omega))
    have hKFq := hKF2.trans (keepsFrom_mod Mq (by simp; omega))
    have hTzq : TzIn wq := hKq1.tz hgs (by simp; omega) hTz1
    obtain ⟨sv, hsv9⟩ : ∃ sv, sv = fv := ⟨_, rfl⟩
    rw [← hsv9] at hSq0
    have hsq : slotI (freeOf T.gs (vals (pre ++ [x]))) = sv := by rw [hsv2, hsv9]; exact Hfv.out.symm
    clear hsv9 hsv2
    have hSq := hSq0
    unfold spotCells at hSq
    clear hSq0 hS2 hm2 Mq v0 hVb
    obtain ⟨pz0, pz1, pz2, pz3, pz4, pz5, pz6⟩ := hSq.c7
    have v0 := hVq.cell 0
    simp only [List.getElem?_toArray, List.getElem?_cons_zero] at v0
    have kk0 := hKq.cell 0
    simp only [List.getElem?_toArray, List.getElem?_cons_zero] at kk0
    have hh0 := hHq.cell 0
    simp only [List.getElem?_toArray, List.getElem?_cons_zero] at hh0
    have HFi := qd (wide_of (q := 7) (grp_Find gb 225 (tabCells (T.gs.take x.val)) (tabCells (T.gs.drop (x.val + 1))) (x.val * 25) (T.gs.getD x.val []) wq (hTq.group x.val hxn) key hash h64 hTzq))
    cases hf : findG (T.gs.getD x.val []) key hash with
    | some s =>
     rw [hf] at HFi
     simp only [optI] at HFi
     have hs0 : (0 : Int) ≤ (s : Int) := by omega
     gi_wp2_with fail
     refine ⟨trivial, (CallsIn.inRound lp HFi.out).mono ?_⟩
     rintro e w5 ⟨rfl, hb5⟩
     have hK5 := keepS_t hKq1 (KeepS.of_below (n₀ := w1.heap.size) (S := [W.heap.size, mb]) (hb5.mono (by have := hKq1.size; omega)))
     have hKp5 := keepS_t hKqV (KeepS.of_below (n₀ := w1.heap.size) (S := [W.heap.size, mb]) (hb5.mono (by have := hKq1.size; omega)))
     have hKF5 := hKFq.trans (keepsFrom_mod (Mod.of_below hb5 []) (by simp))
     have hS5 := hSq.below hb5 hSq.lt
     have hR5 := hRq.below hb5 hRq.lt
     have hV5 := hVq.below hb5 hVq.lt
     have hM5 := hMq.below hb5
     have hT5 := hTq.below hb5
     obtain ⟨s0, s1, s2, s3, s4, s5, s6⟩ := hS5.c7
     obtain ⟨sf0, sf1, sf2, sf3, sf4, sf5, sf6⟩ := hS5.f7
     obtain ⟨r0, r1, r2, r3, r4, r5, r6⟩ := hR5.c7
     obtain ⟨rf0, rf1, rf2, rf3, rf4, rf5, rf6⟩ := hR5.f7
     have vv0 := hV5.cell 0
     simp only [List.getElem?_toArray, List.getElem?_cons_zero] at vv0
     clear v0 kk0 hh0 hS5 hV5 hb5 hSq hVq hRq hMq
     obtain ⟨w6, hw6⟩ : ∃ w6, w6 = ((((((((w5.setCell ⟨W.heap.size, 3, none⟩ (.pointer (some ⟨gb, x.val * 25, none⟩))).setCell ⟨W.heap.size, 4, none⟩ (.int .i64 (s : Int))).setCell ⟨w.heap.size + 1 + 1 + 1 + 1, 0, none⟩ (.pointer (some ⟨tb, 0, none⟩))).setCell ⟨w.heap.size + 1 + 1 + 1 + 1, 1, none⟩ (.int .u64 (key : Int))).setCell ⟨w.heap.size + 1 + 1 + 1 + 1, 2, none⟩ (.int .u64 (hash : Int))).setCell ⟨w.heap.size + 1 + 1 + 1 + 1, 3, none⟩ (.pointer (some ⟨gb, x.val * 25, none⟩))).setCell ⟨w.heap.size + 1 + 1 + 1 + 1, 4, none⟩ (.int .i64 (s : Int))).setCell ⟨w.heap.size + 1 + 1 + 1 + 1, 5, none⟩ (.pointer fpq)).setCell ⟨w.heap.size + 1 + 1 + 1 + 1, 6, none⟩ (.int .i64 sv) := ⟨_, rfl⟩
     have M6 : Mod [W.heap.size, w.heap.size + 1 + 1 + 1 + 1] w5 w6 := hw6 ▸ ((((((((((Mod.refl [W.heap.size, w.heap.size + 1 + 1 + 1 + 1] w5).set_ (.inl (by simp)) _ _).set_ (.inl (by simp)) _ _).set_ (.inl (by simp)) _ _).set_ (.inl (by simp)) _ _).set_ (.inl (by simp)) _ _).set_ (.inl (by simp)) _ _).set_ (.inl (by simp)) _ _).set_ (.inl (by simp)) _ _).set_ (.inl (by simp)) _ _)
     have B6 : Blk w6 (w.heap.size + 1 + 1 + 1 + 1) 189 (spotCells tb key hash (some ⟨gb, x.val * 25, none⟩) (s : Int) fpq sv) := by
      have := (((((((((hR5).far (p := ⟨W.heap.size, 3, none⟩) (by show w.heap.size + 1 + 1 + 1 + 1 ≠ W.heap.size; omega) (.pointer (some ⟨gb, x.val * 25, none⟩))).far (p := ⟨W.heap.size, 4, none⟩) (by show w.heap.size + 1 + 1 + 1 + 1 ≠ W.heap.size; omega) (.int .i64 (s : Int))).set_ 0 (.pointer (some ⟨tb, 0, none⟩))).set_ 1 (.int .u64 (key : Int))).set_ 2 (.int .u64 (hash : Int))).set_ 3 (.pointer (some ⟨gb, x.val * 25, none⟩))).set_ 4 (.int .i64 (s : Int))).set_ 5 (.pointer fpq)).set_ 6 (.int .i64 sv)
      rw [hw6]
      simpa only [List.setIfInBounds_toArray, List.set_cons_zero, List.set_cons_succ, spotCells] using this
     have T6 := hM5.mod M6 (by simp; omega)
     have K6 : KeepS w.heap.size [mb] w w6 := keepS_t (keepS_t (KeepS.of_below (hBB.trans (hb1.mono hBB.size))) (keepS_sub hK5 (by omega) (by simp; omega))) (keepS_sub (M6.keepS (Nat.le_refl _)) (by have := hK5.size; have := hBB.size; omega) (by simp; omega))
     have F6 : KeepsFrom w1.heap.size V w6 := hKF5.trans (keepsFrom_mod M6 (by simp; omega))
     have HE := qd (And.intro B6 (And.intro T6 (And.intro K6 F6)))
     clear M6 B6 T6 K6 F6
     have HW6 := qd hw6
     clear hw6
     gi_wp2
     rw [← HW6.out]
     exact ⟨HE.out.2.2.2, ⟨rfl, pre, x, some ⟨gb, x.val * 25, none⟩, fpq, rfl, hps, .inl (by rw [hf]; simp), by rw [hsq, hitOf, hf]; exact HE.out.1, fun a b hab => by rw [hitOf, hf] at hab; cases hab; rfl, hfq, by rw [List.length_append]; exact HE.out.2.1⟩, HE.out.2.2.1⟩
    | none =>
     rw [hf] at HFi
     simp only [optI] at HFi
     gi_wp2_with fail
     refine ⟨trivial, (CallsIn.inRound lp HFi.out).mono ?_⟩
     rintro e w4 ⟨rfl, hb4⟩
     have hK4 := keepS_t hKq1 (KeepS.of_below (n₀ := w1.heap.size) (S := [W.heap.size, mb]) (hb4.mono (by have := hKq1.size; omega)))
     have hKp4 := keepS_t hKqV (KeepS.of_below (n₀ := w1.heap.size) (S := [W.heap.size, mb]) (hb4.mono (by have := hKq1.size; omega)))
     have hKF4 := hKFq.trans (keepsFrom_mod (Mod.of_below hb4 []) (by simp))
     have hS4 := hSq.below hb4 hSq.lt
     have hR4 := hRq.below hb4 hRq.lt
     have hV4 := hVq.below hb4 hVq.lt
     have hM4 := hMq.below hb4
     have hT4 := hTq.below hb4
     have vv0 := hV4.cell 0
     simp only [List.getElem?_toArray, List.getElem?_cons_zero] at vv0
     have HOp := qd (wide_of (q := 7) (grp_Open gb _ _ _ (x.val * 25) _ w4 (hT4.group x.val hxn)))
     cases ho' : openG (T.gs.getD x.val []) with
     | true =>
      rw [ho'] at HOp
      have ho : openG (T.gs.getD x.val []) = true := ho'
      gi_wp2_with fail
      refine ⟨trivial, (CallsIn.inRound lp HOp.out).mono ?_⟩
      rintro e w5 ⟨rfl, hb5⟩
      have hK5 := keepS_t hK4 (KeepS.of_below (n₀ := w1.heap.size) (S := [W.heap.size, mb]) (hb5.mono (by have := hK4.size; omega)))
      have hKp5 := keepS_t hKp4 (KeepS.of_below (n₀ := w1.heap.size) (S := [W.heap.size, mb]) (hb5.mono (by have := hK4.size; omega)))
      have hKF5 := hKF4.trans (keepsFrom_mod (Mod.of_below hb5 []) (by simp))
      have hS5 := hS4.below hb5 hS4.lt
      have hR5 := hR4.below hb5 hR4.lt
      have hV5 := hV4.below hb5 hV4.lt
      have hM5 := hM4.below hb5
      have hT5 := hT4.below hb5
      obtain ⟨s0, s1, s2, s3, s4, s5, s6⟩ := hS5.c7
      obtain ⟨sf0, sf1, sf2, sf3, sf4, sf5, sf6⟩ := hS5.f7
      obtain ⟨r0, r1, r2, r3, r4, r5, r6⟩ := hR5.c7
      obtain ⟨rf0, rf1, rf2, rf3, rf4, rf5, rf6⟩ := hR5.f7
      have vv0 := hV5.cell 0
      simp only [List.getElem?_toArray, List.getElem?_cons_zero] at vv0
      clear v0 kk0 hh0 vv0 hS5 hV5 hb5 hSq hVq hRq hMq hS4 hR4 hV4 hM4
      obtain ⟨w6, hw6⟩ : ∃ w6, w6 = ((((((w5.setCell ⟨w.heap.size + 1 + 1 + 1 + 1, 0, none⟩ (.pointer (some ⟨tb, 0, none⟩))).setCell ⟨w.heap.size + 1 + 1 + 1 + 1, 1, none⟩ (.int .u64 (key : Int))).setCell ⟨w.heap.size + 1 + 1 + 1 + 1, 2, none⟩ (.int .u64 (hash : Int))).setCell ⟨w.heap.size + 1 + 1 + 1 + 1, 3, none⟩ (.pointer none)).setCell ⟨w.heap.size + 1 + 1 + 1 + 1, 4, none⟩ (.int .i64 (-1))).setCell ⟨w.heap.size + 1 + 1 + 1 + 1, 5, none⟩ (.pointer fpq)).setCell ⟨w.heap.size + 1 + 1 + 1 + 1, 6, none⟩ (.int .i64 sv) := ⟨_, rfl⟩
      have M6 : Mod [W.heap.size, w.heap.size + 1 + 1 + 1 + 1] w5 w6 := hw6 ▸ ((((((((Mod.refl [W.heap.size, w.heap.size + 1 + 1 + 1 + 1] w5).set_ (.inl (by simp)) _ _).set_ (.inl (by simp)) _ _).set_ (.inl (by simp)) _ _).set_ (.inl (by simp)) _ _).set_ (.inl (by simp)) _ _).set_ (.inl (by simp)) _ _).set_ (.inl (by simp)) _ _)
      have B6 : Blk w6 (w.heap.size + 1 + 1 + 1 + 1) 189 (spotCells tb key hash none (-1) fpq sv) := by
       have := (((((((hR5).set_ 0 (.pointer (some ⟨tb, 0, none⟩))).set_ 1 (.int .u64 (key : Int))).set_ 2 (.int .u64 (hash : Int))).set_ 3 (.pointer none)).set_ 4 (.int .i64 (-1))).set_ 5 (.pointer fpq)).set_ 6 (.int .i64 sv)
       rw [hw6]
       simpa only [List.setIfInBounds_toArray, List.set_cons_zero, List.set_cons_succ, spotCells] using this
      have T6 := hM5.mod M6 (by simp; omega)
      have K6 : KeepS w.heap.size [mb] w w6 := keepS_t (keepS_t (KeepS.of_below (hBB.trans (hb1.mono hBB.size))) (keepS_sub hK5 (by omega) (by simp; omega))) (keepS_sub (M6.keepS (Nat.le_refl _)) (by have := hK5.size; have := hBB.size; omega) (by simp; omega))
      have F6 : KeepsFrom w1.heap.size V w6 := hKF5.trans (keepsFrom_mod M6 (by simp; omega))
      have HE := qd (And.intro B6 (And.intro T6 (And.intro K6 F6)))
      clear M6 B6 T6 K6 F6
      have HW6 := qd hw6
      clear hw6
      gi_wp2
      rw [← HW6.out]
      exact ⟨HE.out.2.2.2, ⟨rfl, pre, x, none, fpq, rfl, hps, .inr ho, by rw [hsq, hitOf, hf]; exact HE.out.1, (fun a b hab => by rw [hitOf, hf] at hab; cases hab), hfq, by rw [List.length_append]; exact HE.out.2.1⟩, HE.out.2.2.1⟩
     | false =>
      rw [ho'] at HOp
      gi_wp2_with fail
      refine ⟨trivial, (CallsIn.inRound lp HOp.out).mono ?_⟩
      rintro e w5 ⟨rfl, hb5⟩
      have hK5 := keepS_t hK4 (KeepS.of_below (n₀ := w1.heap.size) (S := [W.heap.size, mb]) (hb5.mono (by have := hK4.size; omega)))
      have hKp5 := keepS_t hKp4 (KeepS.of_below (n₀ := w1.heap.size) (S := [W.heap.size, mb]) (hb5.mono (by have := hK4.size; omega)))
      have hKF5 := hKF4.trans (keepsFrom_mod (Mod.of_below hb5 []) (by simp))
      have hS5 := hS4.below hb5 hS4.lt
      have hR5 := hR4.below hb5 hR4.lt
      have hV5 := hV4.below hb5 hV4.lt
      have hM5 := hM4.below hb5
      have hT5 := hT4.below hb5
      have HPs := qd (show ∀ y ∈ pre ++ [x], Passed T.gs key hash y.val from fun y hy => (List.mem_append.1 hy).elim (hps y) (fun e => by simp at e; subst e; exact ⟨hf, ho'⟩))
      have HL5 := qd (show Met w5 mb mt mpre mpost mo (plusN a0 c (pre ++ [x]).length) (plusN l0 c (pre ++ [x]).length) m from by rw [List.length_append]; exact hM5)
      have HS5 := qd (show ∃ fp, Blk w5 W.heap.size 189 (spotCells tb key hash none (-1) fp (slotI (freeOf T.gs (vals (pre ++ [x]))))) ∧ PtrOf gb (freeOf T.gs (vals (pre ++ [x]))) fp from ⟨fpq, by rw [hsq]; exact hS5, hfq⟩)
      have HE := qd (And.intro hKF5 (And.intro hKp5 hK5))
      clear hps hf ho' hM5 hS5 hKF5 hKp5 hK5
      gi_wp2
      exact ⟨HE.out.1, HE.out.2.1, ⟨HS5.out, HL5.out, HPs.out⟩, HE.out.2.2⟩
 case done =>
  rintro D ys V hD hys ⟨⟨⟨fp, hSV, hfp⟩, hMV, hps⟩, hKS⟩ hKD
  have hse : seek T.gs key hash = (none, freeOf T.gs (vals ys), ys.length) := by
   have := seek_all (gs := T.gs) (key := key) (hash := hash) (pre := vals ys) hys (fun i hi => by
    obtain ⟨y, hy, rfl⟩ := List.mem_map.1 hi
    exact hps y hy)
   rw [this]; simp [vals]
  have hRV := hKS.blk hR1 (by omega) (by simp; omega)
  obtain ⟨sv, hsv'⟩ : ∃ sv, slotI (freeOf T.gs (vals ys)) = sv := ⟨_, rfl⟩
  rw [hsv'] at hSV
  unfold spotCells at hSV
  have s0 := hSV.cell 0
  have s1 := hSV.cell 1
  have s2 := hSV.cell 2
  have s3 := hSV.cell 3
  have s4 := hSV.cell 4
  have s5 := hSV.cell 5
  have s6 := hSV.cell 6
  have r0 := hRV.cell 0
  have r1 := hRV.cell 1
  have r2 := hRV.cell 2
  have r3 := hRV.cell 3
  have r4 := hRV.cell 4
  have r5 := hRV.cell 5
  have r6 := hRV.cell 6
  simp only [gl] at s0 s1 s2 s3 s4 s5 s6 r0 r1 r2 r3 r4 r5 r6
  obtain ⟨f0, f1, f2, f3, f4, f5, f6⟩ := hRV.f7
  obtain ⟨w6, hw6⟩ : ∃ w6, w6 = ((((((V.setCell ⟨w.heap.size + 1 + 1 + 1 + 1, 0, none⟩ (.pointer (some ⟨tb, 0, none⟩))).setCell ⟨w.heap.size + 1 + 1 + 1 + 1, 1, none⟩ (.int .u64 (key : Int))).setCell ⟨w.heap.size + 1 + 1 + 1 + 1, 2, none⟩ (.int .u64 (hash : Int))).setCell ⟨w.heap.size + 1 + 1 + 1 + 1, 3, none⟩ (.pointer none)).setCell ⟨w.heap.size + 1 + 1 + 1 + 1, 4, none⟩ (.int .i64 (-1))).setCell ⟨w.heap.size + 1 + 1 + 1 + 1, 5, none⟩ (.pointer fp)).setCell ⟨w.heap.size + 1 + 1 + 1 + 1, 6, none⟩ (.int .i64 sv) := ⟨_, rfl⟩
  have M6 : Mod [w.heap.size + 1 + 1 + 1 + 1] V w6 := hw6 ▸ ((((((((Mod.refl [w.heap.size + 1 + 1 + 1 + 1] V).set_ (.inl (by simp)) _ _).set_ (.inl (by simp)) _ _).set_ (.inl (by simp)) _ _).set_ (.inl (by simp)) _ _).set_ (.inl (by simp)) _ _).set_ (.inl (by simp)) _ _).set_ (.inl (by simp)) _ _)
  have O6 : KeepsOthers V w6 := hw6 ▸ ((((((((KeepsOthers.refl V).trans (KeepsOthers.setCell _ ⟨w.heap.size + 1 + 1 + 1 + 1, 0, none⟩ (.pointer (some ⟨tb, 0, none⟩)))).trans (KeepsOthers.setCell _ ⟨w.heap.size + 1 + 1 + 1 + 1, 1, none⟩ (.int .u64 (key : Int)))).trans (KeepsOthers.setCell _ ⟨w.heap.size + 1 + 1 + 1 + 1, 2, none⟩ (.int .u64 (hash : Int)))).trans (KeepsOthers.setCell _ ⟨w.heap.size + 1 + 1 + 1 + 1, 3, none⟩ (.pointer none))).trans (KeepsOthers.setCell _ ⟨w.heap.size + 1 + 1 + 1 + 1, 4, none⟩ (.int .i64 (-1)))).trans (KeepsOthers.setCell _ ⟨w.heap.size + 1 + 1 + 1 + 1, 5, none⟩ (.pointer fp))).trans (KeepsOthers.setCell _ ⟨w.heap.size + 1 + 1 + 1 + 1, 6, none⟩ (.int .i64 sv)))
  have B6 : Blk w6 (w.heap.size + 1 + 1 + 1 + 1) 189 (spotCells tb key hash none (-1) fp sv) := by
   have := (((((((hRV).set_ 0 (.pointer (some ⟨tb, 0, none⟩))).set_ 1 (.int .u64 (key : Int))).set_ 2 (.int .u64 (hash : Int))).set_ 3 (.pointer none)).set_ 4 (.int .i64 (-1))).set_ 5 (.pointer fp)).set_ 6 (.int .i64 sv)
   rw [hw6]
   simpa only [List.setIfInBounds_toArray, List.set_cons_zero, List.set_cons_succ, spotCells] using this
  have hKD6 := O6.same D _ hKD rfl
  have hRP := blk_own B6 (grownBy_putObj' w6 D (.deferred none)) (fun r e => by cases e; exact ⟨_, hKD6, rfl⟩)
  have hMP := met_own (hMV.mod M6 (by simp; omega)) (grownBy_putObj' w6 D (.deferred none)) (fun r e => by cases e; exact ⟨_, hKD6, rfl⟩)
  have hKm : Mod [mb] w (w6.putObj D (.deferred none)) := (keepS_t (keepS_t (keepS_t (KeepS.of_below (hBB.trans (hb1.mono hBB.size))) (keepS_sub hKS (by omega) (by simp; omega))) (keepS_sub (M6.keepS (Nat.le_refl _)) (by have := hKS.size; omega) (by simp; omega))) (keepS_b (w := w) (Nat.le_refl _) w6 D _ _ (by omega) hKD6 rfl rfl)).mod
  have HE := qd (And.intro hMP hKm)
  have HW6 := qd hw6
  have HSe := qd hse
  have Hsv := qd hsv'
  clear hw6 M6 O6 B6 hMP hKm hse hsv'
  go_wp2
  rw [← HW6.out]
  refine leavesM ⟨by simp, .inl ⟨_, _, rfl, run_takeDeferred hKD6, ?_⟩⟩
  have d0 := hRP.cell 0
  have d1 := hRP.cell 1
  have d2 := hRP.cell 2
  have d3 := hRP.cell 3
  have d4 := hRP.cell 4
  have d5 := hRP.cell 5
  have d6 := hRP.cell 6
  simp only [spotCells, List.getElem?_toArray, List.getElem?_cons_zero, List.getElem?_cons_succ] at d0 d1 d2 d3 d4 d5 d6
  refine ⟨.agg (spotCells tb key hash none (-1) fp sv), ?_, none, fp, ?_⟩
  ·simp [results, Tryz.f92, go_sem, d0, d1, d2, d3, d4, d5, d6, spotCells]
  ·rw [HSe.out]
   exact ⟨by rw [Hsv.out]; rfl, (fun i s hab => by cases hab), hfp, HE.out.1, HE.out.2⟩
 case stop =>
  rintro D cd pre V hD ⟨j, hj, hj2⟩ ⟨⟨rfl, pre', x, ap, fp, he, hps, hend, hRV, hap, hfp, hMV⟩, hKS⟩ hKD
  subst he
  have hse := seek_ends hj2 hps hend
  have hc0 := hRV.cell 0
  have hc1 := hRV.cell 1
  have hc2 := hRV.cell 2
  have hc3 := hRV.cell 3
  have hc4 := hRV.cell 4
  have hc5 := hRV.cell 5
  have hc6 := hRV.cell 6
  have hRP : Blk (V.putObj D (.deferred none)) (w.heap.size + 1 + 1 + 1 + 1) 189 _ := blk_own hRV (grownBy_putObj' V D (.deferred none)) (fun r e => by cases e; exact ⟨_, hKD, rfl⟩)
  have hMP := met_own hMV (grownBy_putObj' V D (.deferred none)) (fun r e => by cases e; exact ⟨_, hKD, rfl⟩)
  gi_wp2
  refine leavesM ⟨by simp, .inl ⟨_, _, rfl, run_takeDeferred hKD, ?_⟩⟩
  have d0 := hRP.cell 0
  have d1 := hRP.cell 1
  have d2 := hRP.cell 2
  have d3 := hRP.cell 3
  have d4 := hRP.cell 4
  have d5 := hRP.cell 5
  have d6 := hRP.cell 6
  simp only [spotCells, List.getElem?_toArray, List.getElem?_cons_zero, List.getElem?_cons_succ] at d0 d1 d2 d3 d4 d5 d6
  refine ⟨.agg (spotCells tb key hash ap (slotI (hitOf T.gs key hash x.val)) fp (slotI (freeOf T.gs (vals (pre' ++ [x]))))), ?_, ap, fp, ?_⟩
  ·simp [results, Tryz.f92, go_sem, d0, d1, d2, d3, d4, d5, d6, spotCells]
  ·rw [hse]
   exact ⟨rfl, hap, hfp, hMP, (keepS_t hKS (keepS_b (w := w) (Nat.le_refl _) V D _ _ (by have := hBB.size; omega) hKD rfl rfl)).mod⟩
end Go.Proofs.YtgfcmdmpegomdaaGreatDoor
