/- An append onto a row of the call's own, whose source reads as a list, nil and empty let in. No statement of the claim. -/
import Derived.Test.YtfojgfddgplinabGreatDoorKit2
import Derived.Maps.AppendAt
import Derived.Deep.AppendLies
import Derived.RegionTactic
import Derived.OwnWalk
import Derived.Test.YtfojgfddgplinabGreatDoorSqT
import Derived.Test.YtfojgfddgplinabGreatDoorLaneP
import Derived.Test.YtfojgfddgplinabGreatDoorCoB
import Derived.Test.YtfojgfddgplinabGreatDoorTabP
namespace Go.Proofs.YtfojgfddgplinabGreatDoor
set_option maxRecDepth 100000
set_option maxHeartbeats 2000000
open Go.RowKit Go.Shelf dG Go
variable {o : Oper} {a : Act} {K : Act → World → Prop} {Q : Exit → Act → World → Prop} {ops : Array Oper} {rest : List Oper} {E : Prop} {B base bytes c m n size : Nat} {e t : TypeId} {v : Value} {news xs : List Value} {s x : Operand} {A : Option Addr}
section
variable {P : Program} (w : World)
theorem CQ (base : Nat) (t ty e : TypeId) (i : TypeInfo) (size : Nat) (ht : P.underlying t = some (.slice e)) (hi : P.info? e = some i) (v : Value) (n : Nat) (xs : List Value) (hown : w.ownsRow base e size v n xs) (c : Nat) : (Builtin.append_ #[t, t] ty #[v, .slice none 0 c]).run P w = .ok v w := by
 rcases hown.2 with ⟨rfl, rfl⟩ | ⟨g, cap, cur, rfl, _, _, hnc, _⟩
 ·simp [Builtin.append_, run_underlying ht, sizeOf, typeInfo, hi, Builtin.lenOf, Builtin.firstCells]
 ·simp [Builtin.append_, run_underlying ht, sizeOf, typeInfo, hi, Builtin.lenOf, Builtin.firstCells, hnc, storeCells]
theorem Gf (base : Nat) (t ty e : TypeId) (i : TypeInfo) (z : Value) (size bytes : Nat) (ht : P.underlying t = some (.slice e)) (hi : P.info? e = some i) (hz : i.zero = some z) (hsize : i.size = size) (hby : i.bytes = bytes) (hzs : z.cells.size = size) (hsz : 0 < size) (v : Value) (n : Nat) (xs : List Value) (hown : w.ownsRow base e size v n xs) (B : Nat) (A : Option Addr) (m c : Nat) (news : List Value) (hr : Reads w B size A m news) (h1 : ∀ u ∈ news, u.oneCell' = true) (h63 : n + m ≤ maxLen) (hbytes : (n + m) * bytes ≤ 140737488355328) (hbase : base ≤ w.heap.size) :
  ∃ v' w', (Builtin.append_ #[t, t] ty #[v, .slice A m c]).run P w = .ok v' w' ∧ w'.ownsRow base e size v' (n + m) (xs ++ news) ∧ w.grownBy w' v.ownBlock ∧
   (v'.ownBlock = v.ownBlock ∨ v'.ownBlock = some w.heap.size) := by
 rcases A with _ | ad
 ·have hm : m = 0 := by
   rcases Nat.eq_zero_or_pos m with h0 | h0
   ·exact h0
   ·obtain ⟨b, off, h, _⟩ := hr.2 h0
    cases h
  subst hm
  have hn : news = [] := List.eq_nil_of_length_eq_zero (by simpa using hr.1)
  subst hn
  exact ⟨v, w, CQ w base t ty e i size ht hi v n xs hown c, by simpa using hown, World.grownBy.refl w _, .inl rfl⟩
 ·have hcells : ∀ j u, news[j]? = some u → w.cell? (ad.add j) = some u := by
   intro j u hu
   rcases Nat.eq_zero_or_pos m with h0 | h0
   ·subst h0
    have hn : news = [] := List.eq_nil_of_length_eq_zero (by simpa using hr.1)
    subst hn
    simp at hu
   ·obtain ⟨b, off, h, _, hc⟩ := hr.2 h0
    injection h with h
    subst h
    rw [show (⟨b, off, none⟩ : Addr).add j = ⟨b, off + j, none⟩ from by unfold Addr.add; split <;> simp_all]
    exact hc j u hu
  obtain ⟨v', w', hrun, h2, h3, _, h5⟩ := run_append_own_at (P := P) w base t ty e i z size bytes ht hi hz hsize hby hzs hsz v n xs hown ad m c news hr.1 hcells h1 h63 hbytes hbase
  exact ⟨v', w', hrun, h2, h3, h5⟩
theorem Ah (s x : Operand) (t : TypeId) (ho : o.op = .call { callee := .builtin .append, args := #[s, x], argTypes := #[t, t] }) (base : Nat) (e : TypeId) (i : TypeInfo) (z : Value) (size bytes : Nat) (ht : P.underlying t = some (.slice e)) (hi : P.info? e = some i) (hz : i.zero = some z) (hsize : i.size = size) (hby : i.bytes = bytes) (hzs : z.cells.size = size) (hsz : 0 < size) (v : Value) (n : Nat) (xs : List Value) (hs : a.eval s = v) (hown : w.ownsRow base e size v n xs) (B : Nat) (A : Option Addr) (m c : Nat) (news : List Value) (hx : a.eval x = .slice A m c) (hr : Reads w B size A m news) (h1 : ∀ u ∈ news, u.oneCell' = true) (h63 : n + m ≤ maxLen) (hbytes : (n + m) * bytes ≤ 140737488355328) (hbase : base ≤ w.heap.size) (h : ∀ v' w', w'.ownsRow base e size v' (n + m) (xs ++ news) → w.grownBy w' v.ownBlock → (v'.ownBlock = v.ownBlock ∨ v'.ownBlock = some w.heap.size) → K (a.put o.dst v') w') : o.wp P a w K Q := by
 obtain ⟨v', w', hrun, h2, h3, h4⟩ := Gf (P := P) w base t o.type e i z size bytes ht hi hz hsize hby hzs hsz v n xs hown B A m c news hr h1 h63 hbytes hbase
 unfold Oper.wp execOp
 simp only [ho, resolve, invoke, builtin, Sem.run_bind, Sem.run_pure, Result.andThen_ok, List.map_toArray, List.map_cons, List.map_nil, hs, hx, hrun]
 exact h v' w' h2 h3 h4
theorem CR (hgd : o.guard = none) (s x : Operand) (t : TypeId) (ho : o.op = .call { callee := .builtin .append, args := #[s, x], argTypes := #[t, t] }) (base : Nat) (e : TypeId) (i : TypeInfo) (z : Value) (size bytes : Nat) (ht : P.underlying t = some (.slice e)) (hi : P.info? e = some i) (hz : i.zero = some z) (hsize : i.size = size) (hby : i.bytes = bytes) (hzs : z.cells.size = size) (hsz : 0 < size) (v : Value) (n : Nat) (xs : List Value) (hs : a.eval s = v) (hown : w.ownsRow base e size v n xs) (B : Nat) (A : Option Addr) (m c : Nat) (news : List Value) (hx : a.eval x = .slice A m c) (hr : Reads w B size A m news) (h1 : ∀ u ∈ news, u.oneCell' = true) (h63 : n + m ≤ maxLen) (hbytes : (n + m) * bytes ≤ 140737488355328) (hbase : base ≤ w.heap.size) (h : ∀ v' w', w'.ownsRow base e size v' (n + m) (xs ++ news) → w.grownBy w' v.ownBlock → (v'.ownBlock = v.ownBlock ∨ v'.ownBlock = some w.heap.size) → wpList P ops Q rest (a.put o.dst v') w') : wpList P ops Q (o :: rest) a w :=
 wpList_plain hgd fun _ hK => Ah w s x t ho base e i z size bytes ht hi hz hsize hby hzs hsz v n xs hs hown B A m c news hx hr h1 h63 hbytes hbase fun v' w' h2 h3 h4 => hK _ _ (h v' w' h2 h3 h4)
theorem EU (hgd : o.guard = none) (s x : Operand) (t : TypeId) (ho : o.op = .call { callee := .builtin .append, args := #[s, x], argTypes := #[t, t] }) (base : Nat) (e : TypeId) (i : TypeInfo) (z : Value) (size bytes : Nat) (ht : P.underlying t = some (.slice e)) (hi : P.info? e = some i) (hz : i.zero = some z) (hsize : i.size = size) (hby : i.bytes = bytes) (hzs : z.cells.size = size) (hsz : 0 < size) (v : Value) (n : Nat) (xs : List Value) (hs : a.eval s = v) (hown : w.ownsRow base e size v n xs) (B : Nat) (A : Option Addr) (m c : Nat) (news : List Value) (hx : a.eval x = .slice A m c) (hr : Reads w B size A m news) (h1 : ∀ u ∈ news, u.oneCell' = true) (h63 : n + m ≤ maxLen) (hbytes : (n + m) * bytes ≤ 140737488355328) (hbase : base ≤ w.heap.size) (h : ∀ v' w', w'.ownsRow base e size v' (n + m) (xs ++ news) → w.grownBy w' v.ownBlock → (v'.ownBlock = v.ownBlock ∨ v'.ownBlock = some w.heap.size) → K (a.put o.dst v') w') :
  if Region.wanted o (yielded ops a.tmps) = true then Oper.wp P o a w K Q else E := by
 have hw : Region.wanted o (yielded ops a.tmps) = true := by simp [Region.wanted, hgd]
 rw [if_pos hw]
 exact Ah w s x t ho base e i z size bytes ht hi hz hsize hby hzs hsz v n xs hs hown B A m c news hx hr h1 h63 hbytes hbase h
end
theorem Ny {v' : Value} {w w' : World} (hown : w.ownsRow base e size v n xs) (hbase : base ≤ w.heap.size) (hg : w.grownBy w' v.ownBlock) (hat : v'.ownBlock = v.ownBlock ∨ v'.ownBlock = some w.heap.size) : mG w base v w' v' :=
 ⟨(Below.refl base w).grown hg hbase (fun k hk => (hown.lt k hk).1), hg, hat.imp_right fun h => ⟨_, h, Nat.le_refl _⟩⟩
theorem kX {P : Program} {w : World} (hgd : o.guard = none) (ho : o.op = .call { callee := .builtin .append, args := #[s, x], argTypes := #[t, t] }) (hT : uD P t e size bytes) (hown : w.ownsRow base e size v n xs) (hs : a.eval s = v) (hx : a.eval x = .slice A m c) (hr : Reads w B size A m news) (h1' : (news.all fun u => u.oneCell') = true) (hn : n + m < 33554432) (hbase : base ≤ w.heap.size) (h : ∀ v' w', w'.ownsRow base e size v' (n + m) (xs ++ news) → mG w base v w' v' → K (a.put o.dst v') w') :
  if Region.wanted o (yielded ops a.tmps) = true then Oper.wp P o a w K Q else E := by
 obtain ⟨i, z, ht, hi, hz, hsize, hby, hzs, hsz, hb⟩ := hT
 refine EU w hgd s x t ho base e i z size bytes ht hi hz hsize hby hzs hsz v n xs hs hown B A m c news hx hr (List.all_eq_true.1 h1') (by simp only [maxLen]; omega) ?_ hbase
  (fun v' w' h2 h3 h4 => h v' w' h2 (Ny hown hbase h3 h4))
 have : (n + m) * bytes ≤ 33554432 * 4096 := Nat.mul_le_mul (by omega) hb
 omega
theorem EW {P : Program} {w : World} (hgd : o.guard = none) (ho : o.op = .call { callee := .builtin .append, args := #[s, x], argTypes := #[t, t] }) (hT : uD P t e size bytes) (hown : w.ownsRow base e size v n xs) (hs : a.eval s = v) (hx : a.eval x = .slice A m c) (hr : Reads w B size A m news) (h1' : (news.all fun u => u.oneCell') = true) (hn : n + m < 33554432) (hbase : base ≤ w.heap.size) (h : ∀ v' w', w'.ownsRow base e size v' (n + m) (xs ++ news) → mG w base v w' v' → wpList P ops Q rest (a.put o.dst v') w') : wpList P ops Q (o :: rest) a w := by
 obtain ⟨i, z, ht, hi, hz, hsize, hby, hzs, hsz, hb⟩ := hT
 refine CR w hgd s x t ho base e i z size bytes ht hi hz hsize hby hzs hsz v n xs hs hown B A m c news hx hr (List.all_eq_true.1 h1') (by simp only [maxLen]; omega) ?_ hbase
  (fun v' w' h2 h3 h4 => h v' w' h2 (Ny hown hbase h3 h4))
 have : (n + m) * bytes ≤ 33554432 * 4096 := Nat.mul_le_mul (by omega) hb
 omega
theorem Uh (w : World) (base : Nat) (e : TypeId) (size : Nat) (hb : base ≤ w.heap.size) : (w.alloc (.cells #[] e)).ownsRow base e size (.slice (some ⟨w.heap.size, 0, none⟩) 0 0) 0 [] :=
 World.ownsRow_made w #[] 0 hb (by simp [maxLen]) (by simp)
theorem nN {w : World} {g : Nat} {cs : Array Value} (h : aj w g t cs) (hl : cs.size = m * size) : Reads w w.heap.size size (some ⟨g, 0, none⟩) m cs.toList :=
 ⟨by simpa using hl, fun _ => ⟨g, 0, rfl, h.lt, fun j u hu => by
  rw [Nat.zero_add, h.cell]
  simpa using hu⟩⟩
end Go.Proofs.YtfojgfddgplinabGreatDoor

/-! A view's Entries by its contract. -/
namespace Go.Proofs.YtfojgfddgplinabGreatDoor
set_option maxRecDepth 100000
set_option maxHeartbeats 2000000
open Go.RowKit Go.Shelf dG Go
attribute [local go_sem] Oper.semAt_some
theorem pU {w : World} {b b' e size n : Nat} {v : Value} {xs : List Value} (h : w.ownsRow b e size v n xs) (hb : b' ≤ b) : w.ownsRow b' e size v n xs :=
 ⟨h.1, h.2.imp id fun ⟨g, cap, cur, h1, h2, h3⟩ => ⟨g, cap, cur, h1, Nat.le_trans hb h2, h3⟩⟩
theorem Ui : (Tryz.prog.info? 37).map (fun i => (i.zero, i.size, i.bytes)) = some (some (.agg #[.int .u64 0, .int .u64 0, .int .u64 0]), 3, 24) := by kernel_rfl
theorem Ai {B base n : Nat} {V V2 w4 : World} {e : TypeId} {size : Nat} {v v4 : Value} {xs : List Value} (_ : B ≤ V.heap.size) (hb : Below V.heap.size V V2) (ho : V2.ownsRow base e size v n xs) (hg : mG V2 base v w4 v4) : KeepsFrom B V w4 := by
 have h1 : KeepsOthers V V2 := ⟨hb.size, fun k o hk _ => (hb.block k (Array.getElem?_eq_some_iff.1 hk).1).trans hk⟩
 have h2 : KeepsOthers V2 w4 := KeepsOthers.of_grownBy hg.je (fun j o hj ho' => by
  rcases ho.2 with ⟨rfl, _⟩ | ⟨g, cap, cur, rfl, _, hh, _⟩
  ·simp [Value.ownBlock] at hj
  ·have : g = j := by simpa [Value.ownBlock] using hj
   subst this
   rw [hh] at ho'
   cases ho'; rfl)
 exact (h1.trans h2).from B
theorem Uj : uD Tryz.prog 263 37 3 24 := DL Tryz.underlying263 Ui rfl (by decide) (by decide)
def sN (l : List Nat) (es : List av) : List av := (cO 0 (pE l)).map fun i => es.getD i ⟨0, 0, 0⟩
def atR (es : List av) (pre : List (Fin 8)) : List av := pre.map fun x => es.getD x.val ⟨0, 0, 0⟩
theorem EX (l : List Nat) : Marks (pE l) := qc _
theorem MQ (l : List Nat) : (pE l).length = l.length := by simp [pE, AP]
theorem Ke {l : List Nat} {es : List av} {ys : List (Fin 8)} (hys : ys.map Fin.val = cO 0 ((pE l).map dX)) : atR es ys = sN l es := by
 rw [tq (EX l)] at hys
 unfold sN atR
 rw [← hys, List.map_map]; rfl
theorem Uk (es : List av) (pre : List (Fin 8)) (x : Fin 8) : (atR es (pre ++ [x])).flatMap aR = (atR es pre).flatMap aR ++ aR (es.getD x.val ⟨0, 0, 0⟩) := by simp [atR]
theorem Kg (gb : Nat) (t : TypeId) (ahead post : List Value) (go : Nat) (l : List Nat) (es : List av) (w : World) (h : cu w gb t ahead post go l es) (hT : fK w) :
  Calls Tryz.prog 171 #[bA ⟨gb, go, none⟩] w fun e w' => ∃ A c, e = .returned (.slice A (sN l es).length c) ∧ w'.ownsRow w.heap.size 37 3 (.slice A (sN l es).length c) (sN l es).length ((sN l es).flatMap aR) ∧ Below w.heap.size w w' := by
 obtain ⟨W, hW, hB, hV, hO⟩ := lK w 155 #[.pointer (some ⟨gb, go, none⟩)] 263 #[.slice none 0 0]
 have hG := h.below hB
 have HF := qd (OG l h.l8 h.bytes)
 have HW := qd hW
 have HB := qd hB
 have hg := World.block_lt_of_cell? w _ (hT 0 (by omega))
 have Kc := h.l8
 unfold bA
 clear hW hB
 refine (callsIn_wide (n := 10)).1 ?_
 have h1 : 1 ≤ 10 := by omega
 refine kJ Tryz.func171 rfl trivial rfl ?_
 simp only [Tryz.ntmps171, List.size_toArray, List.length_cons, List.length_nil, Nat.reduceAdd, Nat.reduceSub, Array.replicate_succ, Array.replicate_zero, List.push_toArray, List.append_toArray, List.nil_append, List.cons_append]
 refine wpIn_wide.2 ?_
 go_upto_region 2 with fail
 rw [← HW.out]
 have v0 := hV.cell 0
 simp only [List.getElem?_toArray, List.getElem?_cons_zero] at v0
 have hw := hG.word
 go_wp2_with fail
 refine (HF.out _).mono ?_
 rintro e w1 ⟨rfl, rfl⟩
 go_wp2_with fail
 refine (ES (pE l) _).mono ?_
 rintro e w1 ⟨rfl, hw1⟩
 have hb1 : Below W.heap.size W w1 := hw1 ▸ (Below.refl W.heap.size W).alloc (Nat.le_refl _) _
 have hL1 : aj w1 W.heap.size 35 #[.int .u64 ((w8 (pE l) : Nat) : Int)] := hw1 ▸ aj.new W _ _
 clear hw1
 replace v0 := aF hb1 v0
 replace hw := aF hb1 hw
 go_wp2_with fail
 refine (wpIn_wide (n := 10)).1 ?_
 have hB1 : Below w.heap.size w w1 := bE hb1 HB.out
 have hlt3 : w.heap.size + 1 < W.heap.size := hO.lt
 have hgl : gb < w.heap.size := h.lt
 have hT1 : fK w1 := fun i hi => (hB1.cell (p := ⟨11, oD i, none⟩) hg).trans (hT i hi)
 have hG1 := hG.below hb1
 have wZ : Boxed w1 (w.heap.size + 1) 263 (.slice none 0 0) := hO.below hb1 hO.lt
 have hbl := hB1.size
 have hbs := hb1.size
 clear h
 refine wpIn_rangeFunc_ownH rfl h1 (gf := 178) (lb := #[.pointer (some ⟨W.heap.size, 0, none⟩)]) rfl trivial (enters_of Tryz.func178 (by kernel_rfl) rfl)
  (Dg (10 - 1) (by omega) W.heap.size w1.heap.size [w.heap.size + 1] (pE l) (by rw [MQ]; exact Kc) (EX l).bytes w1 (by omega) (by simp; omega) (Nat.le_refl _) hL1.lt (hL1.cell 0) hT1) bL (vD (Nat.le_refl _)) (Below.refl _ _) (fun _ => rfl)
  (fun pre V => (∃ v, Boxed V (w.heap.size + 1) 263 v ∧ V.ownsRow w1.heap.size 37 3 v pre.length ((atR es pre).flatMap aR) ∧ True) ∧ aQ w1.heap.size [w.heap.size + 1] w1 V)
  (fun _ _ _ => False)
  (OwnFrom.and (Own.from (holdsRow_own w1.heap.size (w.heap.size + 1) 263 37 3 List.length (fun pre => (atR es pre).flatMap aR) (fun _ _ => True)) _) (pF (Nat.le_refl _) (Nat.le_refl _)))
  (fun _ _ _ _ _ hs _ _ => hs)
  ⟨⟨_, wZ, ⟨by simp [atR], .inl ⟨rfl, rfl⟩⟩, trivial⟩, aQ.refl _ _ _⟩
  (fun x a' _ => a' = { tmps := #[.agg #[.pointer (some ⟨gb, go, none⟩)], .pointer (some ⟨w.heap.size, 0, none⟩), .slice none 0 0, .pointer (some ⟨w.heap.size + 1, 0, none⟩), .int .i64 (x.val : Int), .pointer (some ⟨w.heap.size, 0, none⟩), .pointer (some ⟨gb, go, none⟩), .pointer (some ⟨gb, go, none⟩), .pointer (some ⟨gb, go, none⟩), .int .u64 ((w8 l : Nat) : Int), .int .u64 ((w8 (pE l) : Nat) : Int), .func (.func 178) #[] #[.pointer (some ⟨W.heap.size, 0, none⟩)], .int .i64 (x.val : Int), undef, undef, undef, undef, undef, undef, undef, undef, undef, undef, undef], defers := [] })
  (fun _ _ _ _ _ _ hs _ _ => hs) ?assign ?body ?done ?stop
 case assign =>
  rintro lp pre x V K hi hK
  gi_wp2
  exact hK _ _ (KeepsFrom.refl _ _) (aQ.refl _ _ _) hi rfl
 case body =>
  rintro lp pre x a' V hl ⟨r, hr⟩ ⟨⟨v, uN, hO, -⟩, nO⟩ rfl hlt
  have He : x.val < 8 := x.isLt
  have aaX : gb < w1.heap.size := hG1.lt
  have hgn : gb ∉ [w.heap.size + 1] := by simp; omega
  have hv := (nO.cell (p := ⟨w.heap.size, 0, none⟩) (by show w.heap.size < _; omega) (by simp)).trans v0
  have Wv : cu V gb t ahead post go l es := ⟨hG1.len, hG1.l8, hG1.bytes, hG1.e8, nO.blk hG1.blk aaX hgn⟩
  obtain ⟨A, c, rfl⟩ := dB hO
  have ho := uN.cell
  have s0 := Wv.at_ x.val 0 He (by omega)
  have s1 := Wv.at_ x.val 1 He (by omega)
  have s2 := Wv.at_ x.val 2 He (by omega)
  rw [Nat.add_zero] at s0
  have hxi : (x.val : Int) < 8 := by omega
  have hx0 : (0 : Int) ≤ (x.val : Int) := by omega
  have dV := qd (Uk es pre x)
  have Bb := nO.size
  clear Wv
  generalize es.getD x.val ⟨0, 0, 0⟩ = x1 at *
  simp only [aR, List.getElem?_cons_zero, List.getElem?_cons_succ] at s0 s1 s2
  gi_wp2_with fail
  refine zx (fun (w' : World) => w'.cell? ⟨w.heap.size, 0, none⟩ = some (.pointer (some ⟨gb, go, none⟩)) ∧ w'.cell? ⟨w.heap.size + 1, 0, none⟩ = some (.slice A pre.length c) ∧ w'.cell? ⟨gb, go + 1 + x.val * 3, none⟩ = some (.int .u64 (x1.key : Int)) ∧ w'.cell? ⟨gb, go + 1 + x.val * 3 + 1, none⟩ = some (.int .u64 (x1.val : Int)) ∧ w'.cell? ⟨gb, go + 1 + x.val * 3 + 2, none⟩ = some (.int .u64 (x1.hash : Int))) [9, 10] (by kernel_rfl) (by kernel_rfl) (by rintro ⟨_, _, h⟩; exact h) ?_
  try (change bP _ _ _ _ _ _ _ _ _ (World.drew _))
  have hHeld := (⟨hv, ho, s0, s1, s2⟩ : _ ∧ _ ∧ _ ∧ _ ∧ _)
  refine vT 0 rfl ?_
  refine vW 1 rfl ?_
  refine vW 3 rfl ?_
  refine nT 2 rfl fun K hK => ?_
  go_simp
  refine kO hK ?_
  clear hK K
  refine vW 4 rfl ?_
  refine vW 5 rfl ?_
  refine vW 6 rfl ?_
  refine vT 7 rfl ?_
  refine nT 8 rfl fun K hK => ?_
  go_simp
  have hb2 : Below V.heap.size V (V.alloc (.cells #[.int .u64 (x1.key : Int), .int .u64 (x1.val : Int), .int .u64 (x1.hash : Int)] 37)).drew := ((Below.refl V.heap.size V).alloc (Nat.le_refl _) _).drew
  obtain ⟨V2, hV2⟩ : ∃ V2, V2 = (V.alloc (.cells #[.int .u64 (x1.key : Int), .int .u64 (x1.val : Int), .int .u64 (x1.hash : Int)] 37)).drew := ⟨_, rfl⟩
  have YG : aj V2 V.heap.size 37 #[.int .u64 (x1.key : Int), .int .u64 (x1.val : Int), .int .u64 (x1.hash : Int)] := hV2 ▸ (aj.new V _ _).drew
  have hO2 : V2.ownsRow w1.heap.size 37 3 (.slice A pre.length c) pre.length ((atR es pre).flatMap aR) := own_below hO (hV2 ▸ hb2) (Nat.le_refl _)
  rw [← hV2] at hb2 ⊢
  clear hV2
  have hHeld := (⟨aF hb2 hv, aF hb2 ho, aF hb2 s0, aF hb2 s1, aF hb2 s2⟩ : _ ∧ _ ∧ _ ∧ _ ∧ _)
  refine kO hK ?_
  clear hK K
  refine nT 9 rfl fun K hK => ?_
  refine kX (by rfl) (by rfl) Uj hO2 (by rfl) (by rfl) (nN (size := 3) (m := 1) YG (by rfl)) (by rfl) (by omega) (by have := hb2.size; have := Bb; omega) ?_
  intro v4 w4 dF gH
  obtain ⟨A4, c4, rfl⟩ := dB dF
  have hox : Boxed w4 (w.heap.size + 1) 263 (.slice A pre.length c) := (gH.below.block _ (by omega)).trans ((hb2.block _ uN.lt).trans uN)
  have o4 := hox.cell
  have f4 := hox.frozen
  have hK4 : aQ w1.heap.size [w.heap.size + 1] w1 w4 := bL nO (bL ((Mod.of_below hb2 _).qP Bb) (aQ.of_below gH.below))
  have vN : KeepsFrom w1.heap.size V w4 := Ai Bb hb2 hO2 gH
  refine kO hK ?_
  clear hK K
  refine nT 10 rfl fun K hK => ?_
  go_simp
  refine kO hK ?_
  clear hK K
  refine aS (by kernel_rfl) ?_ _
  have hfin : Boxed (w4.setCell ⟨w.heap.size + 1, 0, none⟩ (.slice A4 (pre.length + 1) c4)) (w.heap.size + 1) 263 (.slice A4 (pre.length + 1) c4) := hox.set _
  have Ul : (Value.slice A4 (pre.length + 1) c4).ownBlock ≠ some (w.heap.size + 1) := fun he => by
   have := (dF.lt _ he).1
   omega
  have hown5 := dF.kept (grownBy_setCell' w4 (w.heap.size + 1) (.slice A4 (pre.length + 1) c4)) (.inr Ul)
  have mJ := vN.trans ((KeepsOthers.setCell w4 ⟨w.heap.size + 1, 0, none⟩ (.slice A4 (pre.length + 1) c4)).from _)
  have nP : aQ w1.heap.size [w.heap.size + 1] w1 (w4.setCell ⟨w.heap.size + 1, 0, none⟩ (.slice A4 (pre.length + 1) c4)) := hK4.ak (.inl (by simp)) _ _
  have QU : aQ w1.heap.size [w.heap.size + 1] V (w4.setCell ⟨w.heap.size + 1, 0, none⟩ (.slice A4 (pre.length + 1) c4)) := (bL ((Mod.of_below hb2 _).qP Bb) (aQ.of_below gH.below)).ak (.inl (by simp)) _ _
  have HE := qd (And.intro mJ (And.intro QU (And.intro (And.intro hfin hown5) nP)))
  clear mJ QU hfin hown5 nP vN hK4 dF gH hox
  gi_wp2
  exact ⟨HE.out.1, HE.out.2.1, ⟨_, HE.out.2.2.1.1, by rw [dV.out, List.length_append]; exact HE.out.2.2.1.2⟩, HE.out.2.2.2⟩
 case done =>
  rintro D ys V hD hys ⟨⟨v, uN, hO, -⟩, nO⟩ ql
  obtain ⟨A, c, rfl⟩ := dB hO
  have ho := uN.cell
  have hlen : ys.length = (sN l es).length := by rw [← Ke hys]; simp [atR]
  rw [Ke hys, hlen] at hO
  rw [hlen] at uN ho
  have Nz := (Mod.of_below hB1 [w.heap.size + 1]).then nO.mod
  have eX := qd hO
  clear hO
  go_wp2
  refine vE ⟨by simp, .inl ⟨_, _, rfl, run_takeDeferred ql, ?_⟩⟩
  refine ⟨.slice A (sN l es).length c, ?_, A, c, rfl, ?_, ?_⟩
  ·simp [results, Tryz.f171, go_sem]
  ·exact pU (ownsRow_putObj eX.out _ ql rfl) (by omega)
  ·exact (Nz.below (by simp) (Nat.le_refl _)).trans (belowK_b (w := w) (Nat.le_refl _) V D _ _ (by omega) ql rfl rfl)
 case stop =>
  rintro D c pre V hD hS hI
  exact hI.elim
end Go.Proofs.YtfojgfddgplinabGreatDoor

/-! A group as slots and as bytes: what the lanes tell of the slots. No program in sight. -/
namespace Go.Proofs.YtfojgfddgplinabGreatDoor.dG
set_option maxRecDepth 100000
set_option maxHeartbeats 2000000
open Go.RowKit Go.Shelf dG Go
def Slot.ent : Slot → av
 | .full e => e
 | _ => ⟨0, 0, 0⟩
theorem NA (h b : Nat) : kE h b = 128 ↔ b = h := by unfold kE; split <;> simp_all
theorem Um (x : Slot) (h : Nat) (hh : h < 128) : x.byte = h ↔ ∃ e, x = .full e ∧ e.hash % 128 = h := by
 cases x with
 | empty => simp [Slot.byte]; omega
 | oP => simp [Slot.byte]; omega
 | full e => simp [Slot.byte]
theorem EY (key hash : Nat) (f : Nat → av) : ∀ (G : ko) (s : Nat), (∀ k x, G[k]? = some x → f (s + k) = x.ent) →
  (cO s (G.map fun x => kE (hash % 128) x.byte)).find? (fun i => (f i).key == key) = (fT G key hash).map (s + ·)
 | [], _, _ => rfl
 | x :: G, s, hf => by
  have ih := EY key hash f G (s + 1) (fun k y hy => by have := hf (k + 1) y (by simpa using hy); rwa [show s + (k + 1) = s + 1 + k by omega] at this)
  have h0 : f s = x.ent := hf 0 x rfl
  have hm : (fT G key hash).map (s + 1 + ·) = ((fT G key hash).map (· + 1)).map (s + ·) := by
   cases fT G key hash with
   | none => rfl
   | some k => simp; omega
  rw [List.map_cons, cO]
  unfold fT at ih hm ⊢
  rw [List.findIdx?_cons]
  by_cases hx : x.byte = hash % 128
  ·obtain ⟨e, rfl, he⟩ := (Um x _ (by omega)).1 hx
   rw [if_pos ((NA _ _).2 hx), List.find?_cons, h0]
   by_cases hk : e.key = key
   ·have : Slot.isKey key hash (.full e) = true := by simp [Slot.isKey, he, hk]
    rw [this]; simp [Slot.ent, hk]
   ·have : Slot.isKey key hash (.full e) = false := by simp [Slot.isKey, hk]
    rw [this]
    have h1 : ((Slot.ent (.full e)).key == key) = false := by simpa [Slot.ent] using hk
    rw [h1]
    simp only [Bool.false_eq_true, if_false]
    rw [ih, hm]
  ·have : Slot.isKey key hash x = false := by
    cases x with
    | empty => rfl
    | oP => rfl
    | full e => simp [Slot.byte] at hx; simp [Slot.isKey, hx]
   rw [if_neg (fun h => hx ((NA _ _).1 h)), this, ih, hm]
   simp
theorem QV (x : Slot) : dX x.byte = 128 ↔ x.isFull = false := by
 cases x with
 | empty => simp [Slot.byte, dX, Slot.isFull]
 | oP => simp [Slot.byte, dX, Slot.isFull]
 | full e =>
  have := Nat.mod_lt e.hash (show 0 < 128 by omega)
  have h1 : dX (e.hash % 128) = 0 := by unfold dX; rw [if_pos this]
  show dX (e.hash % 128) = 128 ↔ _
  rw [h1]; simp [Slot.isFull]
theorem OZ (G : ko) : firstM ((G.map Slot.byte).map dX) = kG G := by
 unfold firstM kG
 rw [List.map_map, List.findIdx?_map]
 congr 1
 funext x
 rw [Bool.eq_iff_iff]
 simp [QV]
theorem DY (G : ko) : (G.map Slot.byte).any (· == 128) = dD G := by
 unfold dD
 rw [List.any_map]
 congr 1
 funext x
 cases x with
 | empty => rfl
 | oP => rfl
 | full e => simp [Slot.byte, Slot.isEmpty]; omega
theorem EZ (f : Nat → av) : ∀ (G : ko) (s : Nat), (∀ k x, G[k]? = some x → f (s + k) = x.ent) → (cO s (G.map fun x => dX (255 - x.byte))).map f = bN G
 | [], _, _ => rfl
 | x :: G, s, hf => by
  have ih := EZ f G (s + 1) (fun k y hy => by have := hf (k + 1) y (by simpa using hy); rwa [show s + (k + 1) = s + 1 + k by omega] at this)
  have h0 : f s = x.ent := hf 0 x rfl
  have hg : bN (x :: G) = x.ents ++ bN G := by simp [bN]
  rw [List.map_cons, cO, hg]
  cases x with
  | empty => rw [if_neg (by simp [Slot.byte, dX]), ih]; rfl
  | oP => rw [if_neg (by simp [Slot.byte, dX]), ih]; rfl
  | full e =>
   have h1 : dX (255 - e.hash % 128) = 128 := by unfold dX; rw [if_neg (by omega)]
   rw [if_pos (show dX (255 - (Slot.full e).byte) = 128 from h1), List.map_cons, ih, h0]; rfl
theorem xg (G : ko) (i : Nat) (x : Slot) : (G.set i x).map Slot.byte = (G.map Slot.byte).set i x.byte := List.map_set
theorem pG (G : ko) (i : Nat) (x : Slot) : (G.set i x).map Slot.ent = (G.map Slot.ent).set i x.ent := List.map_set
theorem zA (G : ko) (i : Nat) : (G.map Slot.ent).getD i ⟨0, 0, 0⟩ = (G.getD i .empty).ent := by
 rw [List.getD_eq_getElem?_getD, List.getD_eq_getElem?_getD, List.getElem?_map]
 cases G[i]? <;> rfl
theorem Hf (G : ko) (i : Nat) (hi : i < G.length) : (G.map Slot.byte).getD i 0 = (G.getD i .empty).byte := by
 rw [List.getD_eq_getElem?_getD, List.getD_eq_getElem?_getD, List.getElem?_map, List.getElem?_eq_getElem hi]; rfl
theorem QW (x : Slot) : x.byte < 128 ↔ x.isFull = true := by
 cases x with
 | empty => simp [Slot.byte, Slot.isFull]
 | oP => simp [Slot.byte, Slot.isFull]
 | full e => simp [Slot.byte, Slot.isFull]; omega
theorem QX (x : Slot) (h : x.isFull = false) : (x.byte == 254) = x.ig := by
 cases x with
 | empty => rfl
 | oP => rfl
 | full e => cases h
end Go.Proofs.YtfojgfddgplinabGreatDoor.dG

/-! A group of slots in memory: its view's functions, told of slots. -/
namespace Go.Proofs.YtfojgfddgplinabGreatDoor
set_option maxRecDepth 100000
set_option maxHeartbeats 2000000
open Go.RowKit Go.Shelf dG Go
def lM (w : World) (gb : Nat) (t : TypeId) (pre post : List Value) (go : Nat) (G : ko) : Prop := cu w gb t pre post go (G.map Slot.byte) (G.map Slot.ent)
section
variable {w w' : World} {gb go : Nat} {t : TypeId} {pre post : List Value} {G : ko}
theorem lM.len8 (h : lM w gb t pre post go G) : G.length = 8 := by have := h.l8; simpa using this
theorem lM.lt (h : lM w gb t pre post go G) : gb < w.heap.size := h.blk.lt
theorem lM.mod {S : List Nat} (h : lM w gb t pre post go G) (hm : Mod S w w') (hg : gb ∉ S) : lM w' gb t pre post go G := cu.mod h hm hg
instance {w w' : World} {gb : Nat} {t : TypeId} {pre post : List Value} {go : Nat} {G : ko} : Md (lM w gb t pre post go G) w w' (lM w' gb t pre post go G) (fun S => gb ∉ S) := ⟨fun h hm hs => lM.mod h hm hs⟩
theorem lM.below (h : lM w gb t pre post go G) (hb : Below w.heap.size w w') : lM w' gb t pre post go G := cu.below h hb
theorem lM.keep {n₀ : Nat} {S : List Nat} (h : lM w gb t pre post go G) (hm : aQ n₀ S w w') (hn : gb < n₀) (hg : gb ∉ S) : lM w' gb t pre post go G := ⟨h.len, h.l8, h.bytes, h.e8, hm.blk h.blk hn hg⟩
end
section
variable (gb : Nat) (t : TypeId) (pre post : List Value) (go : Nat) (G : ko) (w : World) (h : lM w gb t pre post go G)
include h
theorem yK (i : Nat) (hi : i < 8) : (G.map Slot.byte).getD i 0 < 128 ↔ (G.getD i .empty).isFull = true := by
 rw [Hf G i (by rw [h.len8]; exact hi), QW]
theorem Kh (key hash : Nat) (h64 : hash < 18446744073709551616) (hT : fK w) :
  Calls Tryz.prog 103 #[bA ⟨gb, go, none⟩, .int .u64 (key : Int), .int .u64 (hash : Int)] w fun e w' => e = .returned (.int .i64 (pO (fT G key hash))) ∧ Below w.heap.size w w' := by
 have := QT gb t pre post go _ _ key hash h64 w h hT
 unfold Cu at this
 rw [List.map_map] at this
 have he := EY key hash (fun i => (G.map Slot.ent).getD i ⟨0, 0, 0⟩) G 0 (fun k x hk => by
  rw [Nat.zero_add, zA, List.getD_eq_getElem?_getD, hk]; rfl)
 have hm : (fT G key hash).map (0 + ·) = fT G key hash := by cases fT G key hash <;> simp
 rw [hm] at he
 rw [show (cO 0 (List.map (kE (hash % 128) ∘ Slot.byte) G)) = cO 0 (G.map fun x => kE (hash % 128) x.byte) from rfl, he] at this
 exact this
theorem Un (hT : fK w) : Calls Tryz.prog 102 #[bA ⟨gb, go, none⟩] w fun e w' => e = .returned (.int .i64 (pO (kG G))) ∧ Below w.heap.size w w' := by
 have := QJ gb t pre post go _ _ w h hT
 rwa [OZ] at this
theorem Ki : Calls Tryz.prog 104 #[bA ⟨gb, go, none⟩] w fun e w' => e = .returned (.bool (dD G)) ∧ Below w.heap.size w w' := by
 have := AX gb t pre post go _ _ w h
 rwa [DY] at this
theorem Di (i : Nat) (hi : i < 8) (e : av) (he : G.getD i .empty = .full e) :
  Calls Tryz.prog 105 #[bA ⟨gb, go, none⟩, .int .i64 (i : Int)] w fun x w' => x = .returned (.tuple #[aM e, .bool true]) ∧ Below w.heap.size w w' := by
 have := J3 gb t pre post go _ _ i hi w h ((yK gb t pre post go G w h i hi).2 (by rw [he]; rfl))
 rwa [zA, he] at this
theorem Hg (i : Nat) (hi : i < 8) (he : (G.getD i .empty).isFull = false) (E : Nat → Addr) (hE : gT E w 5) :
  Calls Tryz.prog 105 #[bA ⟨gb, go, none⟩, .int .i64 (i : Int)] w fun x w' => x = .returned (.tuple #[aM ⟨0, 0, 0⟩, .bool false]) ∧ Below w.heap.size w w' :=
 OQ gb t pre post go _ _ i hi w h (fun hl => by rw [(yK gb t pre post go G w h i hi).1 hl] at he; cases he) E hE
theorem XU (i : Nat) (hi : i < 8) (e : av) (h64 : e.hash < 18446744073709551616) (he : (G.getD i .empty).isFull = false) :
  Calls Tryz.prog 108 #[bA ⟨gb, go, none⟩, .int .i64 (i : Int), aM e] w fun x w' => x = .returned (.tuple #[.bool (G.getD i .empty).ig, .nilIface]) ∧ lM w' gb t pre post go (G.set i (.full e)) ∧ Mod [gb] w w' := by
 have := Ub gb t pre post go _ _ i hi e h64 w h (fun hl => by rw [(yK gb t pre post go G w h i hi).1 hl] at he; cases he)
 rw [Hf G i (by rw [h.len8]; exact hi), QX _ he] at this
 refine this.mono fun x w' ⟨h1, h2, h3⟩ => ⟨h1, ?_, h3⟩
 unfold lM
 rw [xg, pG]
 exact h2
theorem XV (i : Nat) (hi : i < 8) (v : Nat) (e : av) (he : G.getD i .empty = .full e) :
  Calls Tryz.prog 106 #[bA ⟨gb, go, none⟩, .int .i64 (i : Int), .int .u64 (v : Int)] w fun x w' => x = .returned .nilIface ∧ lM w' gb t pre post go (G.set i (.full { e with val := v })) ∧ Mod [gb] w w' := by
 have Kc : i < G.length := by rw [h.len8]; exact hi
 have := Uc gb t pre post go _ _ i hi v w h ((yK gb t pre post go G w h i hi).2 (by rw [he]; rfl))
 rw [zA, he] at this
 refine this.mono fun x w' ⟨h1, h2, h3⟩ => ⟨h1, ?_, h3⟩
 unfold lM
 rw [xg, pG]
 have hb : (G.map Slot.byte).set i (Slot.full { e with val := v }).byte = G.map Slot.byte := by
  apply List.ext_getElem?
  intro k
  rw [List.getElem?_set]
  split
  ·next hk =>
   subst hk
   rw [if_pos (by simpa using Kc), List.getElem?_map, List.getElem?_eq_getElem Kc]
   have : G[i] = .full e := by rw [← he, dG.getD_in Kc]
   rw [this]; rfl
  ·rfl
 rw [hb]
 exact h2
theorem QY (i : Nat) (hi : i < 8) (e : av) (he : G.getD i .empty = .full e) :
  Calls Tryz.prog 191 #[bA ⟨gb, go, none⟩, .int .i64 (i : Int)] w fun x w' => x = .returned (.tuple #[.bool !(dD G), .nilIface]) ∧ lM w' gb t pre post go (G.set i (if dD G then .empty else .oP)) ∧ Mod [gb] w w' := by
 have hm := (yK gb t pre post go G w h i hi).2 (by rw [he]; rfl)
 cases ho : dD G with
 | true =>
  refine (EP gb t pre post go _ _ i hi w h hm (by rw [DY]; exact ho)).mono fun x w' ⟨h1, h2, h3⟩ => ⟨h1, ?_, h3⟩
  unfold lM
  rw [xg, pG]
  exact h2
 | false =>
  refine (ER gb t pre post go _ _ i hi w h hm (by rw [DY]; exact ho)).mono fun x w' ⟨h1, h2, h3⟩ => ⟨h1, ?_, h3⟩
  unfold lM
  rw [xg, pG]
  exact h2
theorem Hl : Calls Tryz.prog 96 #[bA ⟨gb, go, none⟩] w fun x w' => x = .returned undef ∧ lM w' gb t pre post go (List.replicate 8 .empty) ∧ Mod [gb] w w' := OT gb t pre post go _ _ w h
theorem Dj (hT : fK w) : Calls Tryz.prog 171 #[bA ⟨gb, go, none⟩] w fun e w' => ∃ A c, e = .returned (.slice A (bN G).length c) ∧
  w'.ownsRow w.heap.size 37 3 (.slice A (bN G).length c) (bN G).length ((bN G).flatMap aR) ∧ Below w.heap.size w w' := by
 have := Kg gb t pre post go _ _ w h hT
 have he : sN (G.map Slot.byte) (G.map Slot.ent) = bN G := by
  unfold sN pE AP
  rw [List.map_map, List.map_map]
  exact EZ _ G 0 (fun k x hk => by rw [Nat.zero_add, zA, List.getD_eq_getElem?_getD, hk]; rfl)
 rwa [he] at this
end
end Go.Proofs.YtfojgfddgplinabGreatDoor
