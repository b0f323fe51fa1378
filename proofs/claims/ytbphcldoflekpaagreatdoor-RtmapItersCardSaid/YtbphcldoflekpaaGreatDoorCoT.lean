/- An append onto a row of the call's own, whose source reads as a list, nil and empty let in. No statement of the claim. -/
import Derived.Test.YtbphcldoflekpaaGreatDoorKit2
import Derived.Test.YtbphcldoflekpaaGreatDoorLaneP
import Derived.Maps.AppendAt
import Derived.Deep.AppendLies
import Derived.RegionTactic
import Derived.OwnWalk
import Derived.Test.YtbphcldoflekpaaGreatDoorSqT
import Derived.Test.YtbphcldoflekpaaGreatDoorCoB
import Derived.Test.YtbphcldoflekpaaGreatDoorTabP
import Derived.BigRegion
namespace Go.Proofs.YtbphcldoflekpaaGreatDoor
set_option maxRecDepth 100000
set_option maxHeartbeats 2000000
open Go.RowKit Go.Shelf dA Go
variable {o : Oper} {a : Act} {K : Act → World → Prop} {Q : Exit → Act → World → Prop} {ops : Array Oper} {rest : List Oper} {E : Prop} {B base bytes c m n size : Nat} {e t : TypeId} {v : Value} {news xs : List Value} {s x : Operand} {A : Option Addr}
section
variable {P : Program} (w : World)
theorem Cu (base : Nat) (t ty e : TypeId) (i : TypeInfo) (size : Nat) (ht : P.underlying t = some (.slice e)) (hi : P.info? e = some i) (v : Value) (n : Nat) (xs : List Value) (hown : w.ownsRow base e size v n xs) (c : Nat) : (Builtin.append_ #[t, t] ty #[v, .slice none 0 c]).run P w = .ok v w := by
 rcases hown.2 with ⟨rfl, rfl⟩ | ⟨g, cap, cur, rfl, _, _, hnc, _⟩
 ·simp [Builtin.append_, run_underlying ht, sizeOf, typeInfo, hi, Builtin.lenOf, Builtin.firstCells]
 ·simp [Builtin.append_, run_underlying ht, sizeOf, typeInfo, hi, Builtin.lenOf, Builtin.firstCells, hnc, storeCells]
theorem F8 (base : Nat) (t ty e : TypeId) (i : TypeInfo) (z : Value) (size bytes : Nat) (ht : P.underlying t = some (.slice e)) (hi : P.info? e = some i) (hz : i.zero = some z) (hsize : i.size = size) (hby : i.bytes = bytes) (hzs : z.cells.size = size) (hsz : 0 < size) (v : Value) (n : Nat) (xs : List Value) (hown : w.ownsRow base e size v n xs) (B : Nat) (A : Option Addr) (m c : Nat) (news : List Value) (hr : Reads w B size A m news) (h1 : ∀ u ∈ news, u.oneCell' = true) (h63 : n + m ≤ maxLen) (hbytes : (n + m) * bytes ≤ 140737488355328) (hbase : base ≤ w.heap.size) :
  ∃ v' w', (Builtin.append_ #[t, t] ty #[v, .slice A m c]).run P w = .ok v' w' ∧ w'.ownsRow base e size v' (n + m) (xs ++ news) ∧ w.grownBy w' v.ownBlock ∧
   (v'.ownBlock = v.ownBlock ∨ v'.ownBlock = some w.heap.size) := by
 rcases A with _ | ad
 ·have hm : m = 0 := by
   rcases Nat.eq_zero_or_pos m with h0 | h0
   ·exact h0
   ·obtain ⟨b, off, h, _⟩ := hr.2 h0
    cases h
  subst hm
  have hn : news = [] := List.eq_nil_of_length_eq_zero (by simpa using hr.1)
  subst hn
  exact ⟨v, w, Cu w base t ty e i size ht hi v n xs hown c, by simpa using hown, World.grownBy.refl w _, .inl rfl⟩
 ·have hcells : ∀ j u, news[j]? = some u → w.cell? (ad.add j) = some u := by
   intro j u hu
   rcases Nat.eq_zero_or_pos m with h0 | h0
   ·subst h0
    have hn : news = [] := List.eq_nil_of_length_eq_zero (by simpa using hr.1)
    subst hn
    simp at hu
   ·obtain ⟨b, off, h, _, hc⟩ := hr.2 h0
    injection h with h
    subst h
    rw [show (⟨b, off, none⟩ : Addr).add j = ⟨b, off + j, none⟩ from by unfold Addr.add; split <;> simp_all]
    exact hc j u hu
  obtain ⟨v', w', hrun, h2, h3, _, h5⟩ := run_append_own_at (P := P) w base t ty e i z size bytes ht hi hz hsize hby hzs hsz v n xs hown ad m c news hr.1 hcells h1 h63 hbytes hbase
  exact ⟨v', w', hrun, h2, h3, h5⟩
theorem zX (s x : Operand) (t : TypeId) (ho : o.op = .call { callee := .builtin .append, args := #[s, x], argTypes := #[t, t] }) (base : Nat) (e : TypeId) (i : TypeInfo) (z : Value) (size bytes : Nat) (ht : P.underlying t = some (.slice e)) (hi : P.info? e = some i) (hz : i.zero = some z) (hsize : i.size = size) (hby : i.bytes = bytes) (hzs : z.cells.size = size) (hsz : 0 < size) (v : Value) (n : Nat) (xs : List Value) (hs : a.eval s = v) (hown : w.ownsRow base e size v n xs) (B : Nat) (A : Option Addr) (m c : Nat) (news : List Value) (hx : a.eval x = .slice A m c) (hr : Reads w B size A m news) (h1 : ∀ u ∈ news, u.oneCell' = true) (h63 : n + m ≤ maxLen) (hbytes : (n + m) * bytes ≤ 140737488355328) (hbase : base ≤ w.heap.size) (h : ∀ v' w', w'.ownsRow base e size v' (n + m) (xs ++ news) → w.grownBy w' v.ownBlock → (v'.ownBlock = v.ownBlock ∨ v'.ownBlock = some w.heap.size) → K (a.put o.dst v') w') : o.wp P a w K Q := by
 obtain ⟨v', w', hrun, h2, h3, h4⟩ := F8 (P := P) w base t o.type e i z size bytes ht hi hz hsize hby hzs hsz v n xs hown B A m c news hr h1 h63 hbytes hbase
 unfold Oper.wp execOp
 simp only [ho, resolve, invoke, builtin, Sem.run_bind, Sem.run_pure, Result.andThen_ok, List.map_toArray, List.map_cons, List.map_nil, hs, hx, hrun]
 exact h v' w' h2 h3 h4
theorem Cv (hgd : o.guard = none) (s x : Operand) (t : TypeId) (ho : o.op = .call { callee := .builtin .append, args := #[s, x], argTypes := #[t, t] }) (base : Nat) (e : TypeId) (i : TypeInfo) (z : Value) (size bytes : Nat) (ht : P.underlying t = some (.slice e)) (hi : P.info? e = some i) (hz : i.zero = some z) (hsize : i.size = size) (hby : i.bytes = bytes) (hzs : z.cells.size = size) (hsz : 0 < size) (v : Value) (n : Nat) (xs : List Value) (hs : a.eval s = v) (hown : w.ownsRow base e size v n xs) (B : Nat) (A : Option Addr) (m c : Nat) (news : List Value) (hx : a.eval x = .slice A m c) (hr : Reads w B size A m news) (h1 : ∀ u ∈ news, u.oneCell' = true) (h63 : n + m ≤ maxLen) (hbytes : (n + m) * bytes ≤ 140737488355328) (hbase : base ≤ w.heap.size) (h : ∀ v' w', w'.ownsRow base e size v' (n + m) (xs ++ news) → w.grownBy w' v.ownBlock → (v'.ownBlock = v.ownBlock ∨ v'.ownBlock = some w.heap.size) → wpList P ops Q rest (a.put o.dst v') w') : wpList P ops Q (o :: rest) a w :=
 wpList_plain hgd fun _ hK => zX w s x t ho base e i z size bytes ht hi hz hsize hby hzs hsz v n xs hs hown B A m c news hx hr h1 h63 hbytes hbase fun v' w' h2 h3 h4 => hK _ _ (h v' w' h2 h3 h4)
theorem EL (hgd : o.guard = none) (s x : Operand) (t : TypeId) (ho : o.op = .call { callee := .builtin .append, args := #[s, x], argTypes := #[t, t] }) (base : Nat) (e : TypeId) (i : TypeInfo) (z : Value) (size bytes : Nat) (ht : P.underlying t = some (.slice e)) (hi : P.info? e = some i) (hz : i.zero = some z) (hsize : i.size = size) (hby : i.bytes = bytes) (hzs : z.cells.size = size) (hsz : 0 < size) (v : Value) (n : Nat) (xs : List Value) (hs : a.eval s = v) (hown : w.ownsRow base e size v n xs) (B : Nat) (A : Option Addr) (m c : Nat) (news : List Value) (hx : a.eval x = .slice A m c) (hr : Reads w B size A m news) (h1 : ∀ u ∈ news, u.oneCell' = true) (h63 : n + m ≤ maxLen) (hbytes : (n + m) * bytes ≤ 140737488355328) (hbase : base ≤ w.heap.size) (h : ∀ v' w', w'.ownsRow base e size v' (n + m) (xs ++ news) → w.grownBy w' v.ownBlock → (v'.ownBlock = v.ownBlock ∨ v'.ownBlock = some w.heap.size) → K (a.put o.dst v') w') :
  if Region.wanted o (yielded ops a.tmps) = true then Oper.wp P o a w K Q else E := by
 have hw : Region.wanted o (yielded ops a.tmps) = true := by simp [Region.wanted, hgd]
 rw [if_pos hw]
 exact zX w s x t ho base e i z size bytes ht hi hz hsize hby hzs hsz v n xs hs hown B A m c news hx hr h1 h63 hbytes hbase h
end
theorem NV {v' : Value} {w w' : World} (hown : w.ownsRow base e size v n xs) (hbase : base ≤ w.heap.size) (hg : w.grownBy w' v.ownBlock) (hat : v'.ownBlock = v.ownBlock ∨ v'.ownBlock = some w.heap.size) : ou w base v w' v' :=
 ⟨(Below.refl base w).grown hg hbase (fun k hk => (hown.lt k hk).1), hg, hat.imp_right fun h => ⟨_, h, Nat.le_refl _⟩⟩
theorem mJ {P : Program} {w : World} (hgd : o.guard = none) (ho : o.op = .call { callee := .builtin .append, args := #[s, x], argTypes := #[t, t] }) (hT : xL P t e size bytes) (hown : w.ownsRow base e size v n xs) (hs : a.eval s = v) (hx : a.eval x = .slice A m c) (hr : Reads w B size A m news) (h1' : (news.all fun u => u.oneCell') = true) (hn : n + m < 33554432) (hbase : base ≤ w.heap.size) (h : ∀ v' w', w'.ownsRow base e size v' (n + m) (xs ++ news) → ou w base v w' v' → K (a.put o.dst v') w') :
  if Region.wanted o (yielded ops a.tmps) = true then Oper.wp P o a w K Q else E := by
 obtain ⟨i, z, ht, hi, hz, hsize, hby, hzs, hsz, hb⟩ := hT
 refine EL w hgd s x t ho base e i z size bytes ht hi hz hsize hby hzs hsz v n xs hs hown B A m c news hx hr (List.all_eq_true.1 h1') (by simp only [maxLen]; omega) ?_ hbase
  (fun v' w' h2 h3 h4 => h v' w' h2 (NV hown hbase h3 h4))
 have : (n + m) * bytes ≤ 33554432 * 4096 := Nat.mul_le_mul (by omega) hb
 omega
theorem EM {P : Program} {w : World} (hgd : o.guard = none) (ho : o.op = .call { callee := .builtin .append, args := #[s, x], argTypes := #[t, t] }) (hT : xL P t e size bytes) (hown : w.ownsRow base e size v n xs) (hs : a.eval s = v) (hx : a.eval x = .slice A m c) (hr : Reads w B size A m news) (h1' : (news.all fun u => u.oneCell') = true) (hn : n + m < 33554432) (hbase : base ≤ w.heap.size) (h : ∀ v' w', w'.ownsRow base e size v' (n + m) (xs ++ news) → ou w base v w' v' → wpList P ops Q rest (a.put o.dst v') w') : wpList P ops Q (o :: rest) a w := by
 obtain ⟨i, z, ht, hi, hz, hsize, hby, hzs, hsz, hb⟩ := hT
 refine Cv w hgd s x t ho base e i z size bytes ht hi hz hsize hby hzs hsz v n xs hs hown B A m c news hx hr (List.all_eq_true.1 h1') (by simp only [maxLen]; omega) ?_ hbase
  (fun v' w' h2 h3 h4 => h v' w' h2 (NV hown hbase h3 h4))
 have : (n + m) * bytes ≤ 33554432 * 4096 := Nat.mul_le_mul (by omega) hb
 omega
theorem pK {w : World} {g : Nat} {cs : Array Value} (h : aj w g t cs) (hl : cs.size = m * size) : Reads w w.heap.size size (some ⟨g, 0, none⟩) m cs.toList :=
 ⟨by simpa using hl, fun _ => ⟨g, 0, rfl, h.lt, fun j u hu => by
  rw [Nat.zero_add, h.cell]
  simpa using hu⟩⟩
end Go.Proofs.YtbphcldoflekpaaGreatDoor

/-! A view's Entries by its contract. -/
namespace Go.Proofs.YtbphcldoflekpaaGreatDoor
set_option maxRecDepth 100000
set_option maxHeartbeats 2000000
open Go.RowKit Go.Shelf dA Go
attribute [local go_sem] Oper.semAt_some
theorem oW {w : World} {b b' e size n : Nat} {v : Value} {xs : List Value} (h : w.ownsRow b e size v n xs) (hb : b' ≤ b) : w.ownsRow b' e size v n xs :=
 ⟨h.1, h.2.imp id fun ⟨g, cap, cur, h1, h2, h3⟩ => ⟨g, cap, cur, h1, Nat.le_trans hb h2, h3⟩⟩
theorem UJ : (Tryz.prog.info? 38).map (fun i => (i.zero, i.size, i.bytes)) = some (some (.agg #[.int .u64 0, .int .u64 0, .int .u64 0]), 3, 24) := by kernel_rfl
theorem zY {B base n : Nat} {V V2 w4 : World} {e : TypeId} {size : Nat} {v v4 : Value} {xs : List Value} (_ : B ≤ V.heap.size) (hb : Below V.heap.size V V2) (ho : V2.ownsRow base e size v n xs) (hg : ou V2 base v w4 v4) : KeepsFrom B V w4 := by
 have h1 : KeepsOthers V V2 := ⟨hb.size, fun k o hk _ => (hb.block k (Array.getElem?_eq_some_iff.1 hk).1).trans hk⟩
 have h2 : KeepsOthers V2 w4 := KeepsOthers.of_grownBy hg.lZ (fun j o hj ho' => by
  rcases ho.2 with ⟨rfl, _⟩ | ⟨g, cap, cur, rfl, _, hh, _⟩
  ·simp [Value.ownBlock] at hj
  ·have : g = j := by simpa [Value.ownBlock] using hj
   subst this
   rw [hh] at ho'
   cases ho'; rfl)
 exact (h1.trans h2).from B
theorem UK : xL Tryz.prog 266 38 3 24 := J6 Tryz.underlying266 UJ rfl (by decide) (by decide)
def rZ (l : List Nat) (es : List av) : List av := (cK 0 (oM l)).map fun i => es.getD i ⟨0, 0, 0⟩
def atR (es : List av) (pre : List (Fin 8)) : List av := pre.map fun x => es.getD x.val ⟨0, 0, 0⟩
theorem EN (l : List Nat) : Marks (oM l) := pz _
theorem Ng (l : List Nat) : (oM l).length = l.length := by simp [oM, Ar]
theorem KA {l : List Nat} {es : List av} {ys : List (Fin 8)} (hys : ys.map Fin.val = cK 0 ((oM l).map dY)) : atR es ys = rZ l es := by
 rw [sJ (EN l)] at hys
 unfold rZ atR
 rw [← hys, List.map_map]; rfl
theorem UL (es : List av) (pre : List (Fin 8)) (x : Fin 8) : (atR es (pre ++ [x])).flatMap aS = (atR es pre).flatMap aS ++ aS (es.getD x.val ⟨0, 0, 0⟩) := by simp [atR]
theorem KC (gb : Nat) (t : TypeId) (ahead post : List Value) (go : Nat) (l : List Nat) (es : List av) (w : World) (h : cu w gb t ahead post go l es) (hT : fQ w) :
  Calls Tryz.prog 186 #[bF ⟨gb, go, none⟩] w fun e w' => ∃ A c, e = .returned (.slice A (rZ l es).length c) ∧ w'.ownsRow w.heap.size 38 3 (.slice A (rZ l es).length c) (rZ l es).length ((rZ l es).flatMap aS) ∧ Below w.heap.size w w' := by
 obtain ⟨W, hW, hB, hV, hO⟩ := jS w 159 #[.pointer (some ⟨gb, go, none⟩)] 266 #[.slice none 0 0]
 have hG := h.below hB
 have HF := qd (Pe l h.l8 h.bytes)
 have HW := qd hW
 have HB := qd hB
 have hg := World.block_lt_of_cell? w _ (hT 0 (by omega))
 have Kz := h.l8
 unfold bF
 clear hW hB
 refine (callsIn_wide (n := 10)).1 ?_
 have h1 : 1 ≤ 10 := by omega
 refine kH Tryz.func186 rfl trivial rfl ?_
 simp only [Tryz.ntmps186, List.size_toArray, List.length_cons, List.length_nil, Nat.reduceAdd, Nat.reduceSub, Array.replicate_succ, Array.replicate_zero, List.push_toArray, List.append_toArray, List.nil_append, List.cons_append]
 refine wpIn_wide.2 ?_
 go_upto_region 2 with fail
 rw [← HW.out]
 have v0 := hV.cell 0
 simp only [List.getElem?_toArray, List.getElem?_cons_zero] at v0
 have hw := hG.word
 go_wp2_with fail
 refine (HF.out _).mono ?_
 rintro e w1 ⟨rfl, rfl⟩
 go_wp2_with fail
 refine (EJ (oM l) _).mono ?_
 rintro e w1 ⟨rfl, hw1⟩
 have hb1 : Below W.heap.size W w1 := hw1 ▸ (Below.refl W.heap.size W).alloc (Nat.le_refl _) _
 have hL1 : aj w1 W.heap.size 36 #[.int .u64 ((w8 (oM l) : Nat) : Int)] := hw1 ▸ aj.new W _ _
 clear hw1
 replace v0 := aJ hb1 v0
 replace hw := aJ hb1 hw
 go_wp2_with fail
 refine (wpIn_wide (n := 10)).1 ?_
 have hB1 : Below w.heap.size w w1 := bI hb1 HB.out
 have hlt3 : w.heap.size + 1 < W.heap.size := hO.lt
 have hgl : gb < w.heap.size := h.lt
 have hT1 : fQ w1 := fun i hi => (hB1.cell (p := ⟨16, nV i, none⟩) hg).trans (hT i hi)
 have hG1 := hG.below hb1
 have wO : Boxed w1 (w.heap.size + 1) 266 (.slice none 0 0) := hO.below hb1 hO.lt
 have hbl := hB1.size
 have hbs := hb1.size
 clear h
 refine wpIn_rangeFunc_ownH rfl h1 (gf := 193) (lb := #[pQ W.heap.size]) rfl trivial (enters_of Tryz.func193 (by kernel_rfl) rfl)
  (CU (10 - 1) (by omega) W.heap.size w1.heap.size [w.heap.size + 1] (oM l) (by rw [Ng]; exact Kz) (EN l).bytes w1 (by omega) (by simp; omega) (Nat.le_refl _) hL1.lt (hL1.cell 0) hT1) dM (uW (Nat.le_refl _)) (Below.refl _ _) (fun _ => rfl)
  (fun pre V => (∃ v, Boxed V (w.heap.size + 1) 266 v ∧ V.ownsRow w1.heap.size 38 3 v pre.length ((atR es pre).flatMap aS) ∧ True) ∧ aY w1.heap.size [w.heap.size + 1] w1 V)
  (fun _ _ _ => False)
  (OwnFrom.and (Own.from (holdsRow_own w1.heap.size (w.heap.size + 1) 266 38 3 List.length (fun pre => (atR es pre).flatMap aS) (fun _ _ => True)) _) (oN (Nat.le_refl _) (Nat.le_refl _)))
  (fun _ _ _ _ _ hs _ _ => hs)
  ⟨⟨_, wO, ⟨by simp [atR], .inl ⟨rfl, rfl⟩⟩, trivial⟩, aY.refl _ _ _⟩
  (fun x a' _ => a' = { tmps := #[.agg #[.pointer (some ⟨gb, go, none⟩)], pQ w.heap.size, .slice none 0 0, .pointer (some ⟨w.heap.size + 1, 0, none⟩), nI x.val, pQ w.heap.size, .pointer (some ⟨gb, go, none⟩), .pointer (some ⟨gb, go, none⟩), .pointer (some ⟨gb, go, none⟩), .int .u64 ((w8 l : Nat) : Int), .int .u64 ((w8 (oM l) : Nat) : Int), .func (.func 193) #[] #[pQ W.heap.size], nI x.val, undef, undef, undef, undef, undef, undef, undef, undef, undef, undef, undef], defers := [] })
  (fun _ _ _ _ _ _ hs _ _ => hs) ?assign ?body ?done ?stop
 case assign =>
  rintro lp pre x V K hi hK
  gi_wp2
  exact hK _ _ (KeepsFrom.refl _ _) (aY.refl _ _ _) hi rfl
 case body =>
  rintro lp pre x a' V hl ⟨r, hr⟩ ⟨⟨v, uD, hO, -⟩, nD⟩ rfl hlt
  have GY : x.val < 8 := x.isLt
  have abk : gb < w1.heap.size := hG1.lt
  have hgn : gb ∉ [w.heap.size + 1] := by simp; omega
  have hv := (nD.cell (p := ⟨w.heap.size, 0, none⟩) (by show w.heap.size < _; omega) (by simp)).trans v0
  have Xa : cu V gb t ahead post go l es := ⟨hG1.len, hG1.l8, hG1.bytes, hG1.e8, nD.blk hG1.blk abk hgn⟩
  obtain ⟨A, c, rfl⟩ := dJ hO
  have ho := uD.cell
  have s0 := Xa.at_ x.val 0 GY (by omega)
  have s1 := Xa.at_ x.val 1 GY (by omega)
  have s2 := Xa.at_ x.val 2 GY (by omega)
  rw [Nat.add_zero] at s0
  have hxi : (x.val : Int) < 8 := by omega
  have hx0 : (0 : Int) ≤ (x.val : Int) := by omega
  have dD := qd (UL es pre x)
  have AL := nD.size
  clear Xa
  generalize es.getD x.val ⟨0, 0, 0⟩ = x1 at *
  simp only [aS, List.getElem?_cons_zero, List.getElem?_cons_succ] at s0 s1 s2
  gi_wp2_with fail
  refine zn (fun (w' : World) => w'.cell? ⟨w.heap.size, 0, none⟩ = some (.pointer (some ⟨gb, go, none⟩)) ∧ w'.cell? ⟨w.heap.size + 1, 0, none⟩ = some (.slice A pre.length c) ∧ w'.cell? ⟨gb, go + 1 + x.val * 3, none⟩ = some (nU x1.key) ∧ w'.cell? ⟨gb, go + 1 + x.val * 3 + 1, none⟩ = some (nU x1.val) ∧ w'.cell? ⟨gb, go + 1 + x.val * 3 + 2, none⟩ = some (nU x1.hash)) [9, 10] (by kernel_rfl) (by kernel_rfl) (by rintro ⟨_, _, h⟩; exact h) ?_
  try (change bV _ _ _ _ _ _ _ _ _ (World.drew _))
  have hHeld := (⟨hv, ho, s0, s1, s2⟩ : _ ∧ _ ∧ _ ∧ _ ∧ _)
  refine vT 0 rfl ?_
  refine vW 1 rfl ?_
  refine vW 3 rfl ?_
  refine nT 2 rfl fun K hK => ?_
  go_simp
  refine kO hK ?_
  clear hK K
  refine vW 4 rfl ?_
  refine vW 5 rfl ?_
  refine vW 6 rfl ?_
  refine vT 7 rfl ?_
  refine nT 8 rfl fun K hK => ?_
  go_simp
  have hb2 : Below V.heap.size V (V.alloc (.cells #[nU x1.key, nU x1.val, nU x1.hash] 38)).drew := ((Below.refl V.heap.size V).alloc (Nat.le_refl _) _).drew
  obtain ⟨V2, hV2⟩ : ∃ V2, V2 = (V.alloc (.cells #[nU x1.key, nU x1.val, nU x1.hash] 38)).drew := ⟨_, rfl⟩
  have Zb : aj V2 V.heap.size 38 #[nU x1.key, nU x1.val, nU x1.hash] := hV2 ▸ (aj.new V _ _).drew
  have hO2 : V2.ownsRow w1.heap.size 38 3 (.slice A pre.length c) pre.length ((atR es pre).flatMap aS) := own_below hO (hV2 ▸ hb2) (Nat.le_refl _)
  rw [← hV2] at hb2 ⊢
  clear hV2
  have hHeld := (⟨aJ hb2 hv, aJ hb2 ho, aJ hb2 s0, aJ hb2 s1, aJ hb2 s2⟩ : _ ∧ _ ∧ _ ∧ _ ∧ _)
  refine kO hK ?_
  clear hK K
  refine nT 9 rfl fun K hK => ?_
  refine mJ (by rfl) (by rfl) UK hO2 (by rfl) (by rfl) (pK (size := 3) (m := 1) Zb (by rfl)) (by rfl) (by omega) (by have := hb2.size; have := AL; omega) ?_
  intro v4 w4 dB gN
  obtain ⟨A4, c4, rfl⟩ := dJ dB
  have hox : Boxed w4 (w.heap.size + 1) 266 (.slice A pre.length c) := (gN.below.block _ (by omega)).trans ((hb2.block _ uD.lt).trans uD)
  have o4 := hox.cell
  have f4 := hox.frozen
  have hK4 : aY w1.heap.size [w.heap.size + 1] w1 w4 := dM nD (dM ((Mod.of_below hb2 _).uK AL) (aY.of_below gN.below))
  have AO : KeepsFrom w1.heap.size V w4 := zY AL hb2 hO2 gN
  refine kO hK ?_
  clear hK K
  refine nT 10 rfl fun K hK => ?_
  go_simp
  refine kO hK ?_
  clear hK K
  refine aT (by kernel_rfl) ?_ _
  have hfin : Boxed (w4.setCell ⟨w.heap.size + 1, 0, none⟩ (.slice A4 (pre.length + 1) c4)) (w.heap.size + 1) 266 (.slice A4 (pre.length + 1) c4) := hox.set _
  have UM : (Value.slice A4 (pre.length + 1) c4).ownBlock ≠ some (w.heap.size + 1) := fun he => by
   have := (dB.lt _ he).1
   omega
  have hown5 := dB.kept (grownBy_setCell' w4 (w.heap.size + 1) (.slice A4 (pre.length + 1) c4)) (.inr UM)
  have uh := AO.trans ((KeepsOthers.setCell w4 ⟨w.heap.size + 1, 0, none⟩ (.slice A4 (pre.length + 1) c4)).from _)
  have wP : aY w1.heap.size [w.heap.size + 1] w1 (w4.setCell ⟨w.heap.size + 1, 0, none⟩ (.slice A4 (pre.length + 1) c4)) := hK4.ak (.inl (by simp)) _ _
  have Ru : aY w1.heap.size [w.heap.size + 1] V (w4.setCell ⟨w.heap.size + 1, 0, none⟩ (.slice A4 (pre.length + 1) c4)) := (dM ((Mod.of_below hb2 _).uK AL) (aY.of_below gN.below)).ak (.inl (by simp)) _ _
  have HE := qd (And.intro uh (And.intro Ru (And.intro (And.intro hfin hown5) wP)))
  clear uh Ru hfin hown5 wP AO hK4 dB gN hox
  gi_wp2
  exact ⟨HE.out.1, HE.out.2.1, ⟨_, HE.out.2.2.1.1, by rw [dD.out, List.length_append]; exact HE.out.2.2.1.2⟩, HE.out.2.2.2⟩
 case done =>
  rintro D ys V hD hys ⟨⟨v, uD, hO, -⟩, nD⟩ pJ
  obtain ⟨A, c, rfl⟩ := dJ hO
  have ho := uD.cell
  have hlen : ys.length = (rZ l es).length := by rw [← KA hys]; simp [atR]
  rw [KA hys, hlen] at hO
  rw [hlen] at uD ho
  have NW := (Mod.of_below hB1 [w.heap.size + 1]).then nD.mod
  have gB := qd hO
  clear hO
  go_wp2
  refine uX ⟨by simp, .inl ⟨_, _, rfl, run_takeDeferred pJ, ?_⟩⟩
  refine ⟨.slice A (rZ l es).length c, ?_, A, c, rfl, ?_, ?_⟩
  ·simp [results, Tryz.f186, go_sem]
  ·exact oW (ownsRow_putObj gB.out _ pJ rfl) (by omega)
  ·exact (NW.below (by simp) (Nat.le_refl _)).trans (belowK_b (w := w) (Nat.le_refl _) V D _ _ (by omega) pJ rfl rfl)
 case stop =>
  rintro D c pre V hD hS hI
  exact hI.elim
end Go.Proofs.YtbphcldoflekpaaGreatDoor

/-! A group as slots and as bytes: what the lanes tell of the slots. No program in sight. -/
namespace Go.Proofs.YtbphcldoflekpaaGreatDoor.dA
set_option maxRecDepth 100000
set_option maxHeartbeats 2000000
open Go.RowKit Go.Shelf dA Go
def Slot.ent : Slot → av
 | .full e => e
 | _ => ⟨0, 0, 0⟩
theorem NY (h b : Nat) : kD h b = 128 ↔ b = h := by unfold kD; split <;> simp_all
theorem UN (x : Slot) (h : Nat) (hh : h < 128) : x.byte = h ↔ ∃ e, x = .full e ∧ e.hash % 128 = h := by
 cases x with
 | empty => simp [Slot.byte]; omega
 | ow => simp [Slot.byte]; omega
 | full e => simp [Slot.byte]
theorem EO (key hash : Nat) (f : Nat → av) : ∀ (G : j6) (s : Nat), (∀ k x, G[k]? = some x → f (s + k) = x.ent) →
  (cK s (G.map fun x => kD (hash % 128) x.byte)).find? (fun i => (f i).key == key) = (gK G key hash).map (s + ·)
 | [], _, _ => rfl
 | x :: G, s, hf => by
  have ih := EO key hash f G (s + 1) (fun k y hy => by have := hf (k + 1) y (by simpa using hy); rwa [show s + (k + 1) = s + 1 + k by omega] at this)
  have h0 : f s = x.ent := hf 0 x rfl
  have hm : (gK G key hash).map (s + 1 + ·) = ((gK G key hash).map (· + 1)).map (s + ·) := by
   cases gK G key hash with
   | none => rfl
   | some k => simp; omega
  rw [List.map_cons, cK]
  unfold gK at ih hm ⊢
  rw [List.findIdx?_cons]
  by_cases hx : x.byte = hash % 128
  ·obtain ⟨e, rfl, he⟩ := (UN x _ (by omega)).1 hx
   rw [if_pos ((NY _ _).2 hx), List.find?_cons, h0]
   by_cases hk : e.key = key
   ·have : Slot.isKey key hash (.full e) = true := by simp [Slot.isKey, he, hk]
    rw [this]; simp [Slot.ent, hk]
   ·have : Slot.isKey key hash (.full e) = false := by simp [Slot.isKey, hk]
    rw [this]
    have h1 : ((Slot.ent (.full e)).key == key) = false := by simpa [Slot.ent] using hk
    rw [h1]
    simp only [Bool.false_eq_true, if_false]
    rw [ih, hm]
  ·have : Slot.isKey key hash x = false := by
    cases x with
    | empty => rfl
    | ow => rfl
    | full e => simp [Slot.byte] at hx; simp [Slot.isKey, hx]
   rw [if_neg (fun h => hx ((NY _ _).1 h)), this, ih, hm]
   simp
theorem Rv (x : Slot) : dY x.byte = 128 ↔ x.isFull = false := by
 cases x with
 | empty => simp [Slot.byte, dY, Slot.isFull]
 | ow => simp [Slot.byte, dY, Slot.isFull]
 | full e =>
  have := Nat.mod_lt e.hash (show 0 < 128 by omega)
  have h1 : dY (e.hash % 128) = 0 := by unfold dY; rw [if_pos this]
  show dY (e.hash % 128) = 128 ↔ _
  rw [h1]; simp [Slot.isFull]
theorem PD (G : j6) : firstM ((G.map Slot.byte).map dY) = kE G := by
 unfold firstM kE
 rw [List.map_map, List.findIdx?_map]
 congr 1
 funext x
 rw [Bool.eq_iff_iff]
 simp [Rv]
theorem DR (G : j6) : (G.map Slot.byte).any (· == 128) = dF G := by
 unfold dF
 rw [List.any_map]
 congr 1
 funext x
 cases x with
 | empty => rfl
 | ow => rfl
 | full e => simp [Slot.byte, Slot.isEmpty]; omega
theorem EP (f : Nat → av) : ∀ (G : j6) (s : Nat), (∀ k x, G[k]? = some x → f (s + k) = x.ent) → (cK s (G.map fun x => dY (255 - x.byte))).map f = bT G
 | [], _, _ => rfl
 | x :: G, s, hf => by
  have ih := EP f G (s + 1) (fun k y hy => by have := hf (k + 1) y (by simpa using hy); rwa [show s + (k + 1) = s + 1 + k by omega] at this)
  have h0 : f s = x.ent := hf 0 x rfl
  have hg : bT (x :: G) = x.ents ++ bT G := by simp [bT]
  rw [List.map_cons, cK, hg]
  cases x with
  | empty => rw [if_neg (by simp [Slot.byte, dY]), ih]; rfl
  | ow => rw [if_neg (by simp [Slot.byte, dY]), ih]; rfl
  | full e =>
   have h1 : dY (255 - e.hash % 128) = 128 := by unfold dY; rw [if_neg (by omega)]
   rw [if_pos (show dY (255 - (Slot.full e).byte) = 128 from h1), List.map_cons, ih, h0]; rfl
theorem wQ (G : j6) (i : Nat) (x : Slot) : (G.set i x).map Slot.byte = (G.map Slot.byte).set i x.byte := List.map_set
theorem oO (G : j6) (i : Nat) (x : Slot) : (G.set i x).map Slot.ent = (G.map Slot.ent).set i x.ent := List.map_set
theorem zq (G : j6) (i : Nat) : (G.map Slot.ent).getD i ⟨0, 0, 0⟩ = (G.getD i .empty).ent := by
 rw [List.getD_eq_getElem?_getD, List.getD_eq_getElem?_getD, List.getElem?_map]
 cases G[i]? <;> rfl
theorem GZ (G : j6) (i : Nat) (hi : i < G.length) : (G.map Slot.byte).getD i 0 = (G.getD i .empty).byte := by
 rw [List.getD_eq_getElem?_getD, List.getD_eq_getElem?_getD, List.getElem?_map, List.getElem?_eq_getElem hi]; rfl
theorem Rw (x : Slot) : x.byte < 128 ↔ x.isFull = true := by
 cases x with
 | empty => simp [Slot.byte, Slot.isFull]
 | ow => simp [Slot.byte, Slot.isFull]
 | full e => simp [Slot.byte, Slot.isFull]; omega
theorem Rx (x : Slot) (h : x.isFull = false) : (x.byte == 254) = x.iC := by
 cases x with
 | empty => rfl
 | ow => rfl
 | full e => cases h
end Go.Proofs.YtbphcldoflekpaaGreatDoor.dA

/-! A group of slots in memory: its view's functions, told of slots. -/
namespace Go.Proofs.YtbphcldoflekpaaGreatDoor
set_option maxRecDepth 100000
set_option maxHeartbeats 2000000
open Go.RowKit Go.Shelf dA Go
def lJ (w : World) (gb : Nat) (t : TypeId) (pre post : List Value) (go : Nat) (G : j6) : Prop := cu w gb t pre post go (G.map Slot.byte) (G.map Slot.ent)
section
variable {w w' : World} {gb go : Nat} {t : TypeId} {pre post : List Value} {G : j6}
theorem lJ.len8 (h : lJ w gb t pre post go G) : G.length = 8 := by have := h.l8; simpa using this
theorem lJ.lt (h : lJ w gb t pre post go G) : gb < w.heap.size := h.blk.lt
theorem lJ.mod {S : List Nat} (h : lJ w gb t pre post go G) (hm : Mod S w w') (hg : gb ∉ S) : lJ w' gb t pre post go G := cu.mod h hm hg
instance {w w' : World} {gb : Nat} {t : TypeId} {pre post : List Value} {go : Nat} {G : j6} : Md (lJ w gb t pre post go G) w w' (lJ w' gb t pre post go G) (fun S => gb ∉ S) := ⟨fun h hm hs => lJ.mod h hm hs⟩
theorem lJ.below (h : lJ w gb t pre post go G) (hb : Below w.heap.size w w') : lJ w' gb t pre post go G := cu.below h hb
theorem lJ.keep {n₀ : Nat} {S : List Nat} (h : lJ w gb t pre post go G) (hm : aY n₀ S w w') (hn : gb < n₀) (hg : gb ∉ S) : lJ w' gb t pre post go G := ⟨h.len, h.l8, h.bytes, h.e8, hm.blk h.blk hn hg⟩
end
section
variable (gb : Nat) (t : TypeId) (pre post : List Value) (go : Nat) (G : j6) (w : World) (h : lJ w gb t pre post go G)
include h
theorem yF (i : Nat) (hi : i < 8) : (G.map Slot.byte).getD i 0 < 128 ↔ (G.getD i .empty).isFull = true := by
 rw [GZ G i (by rw [h.len8]; exact hi), Rw]
theorem UO (key hash : Nat) (h64 : hash < 18446744073709551616) (hT : fQ w) :
  Calls Tryz.prog 120 #[bF ⟨gb, go, none⟩, nU key, nU hash] w fun e w' => e = .returned (.int .i64 (rJ (gK G key hash))) ∧ Below w.heap.size w w' := by
 have := Rt gb t pre post go _ _ key hash h64 w h hT
 unfold Cg at this
 rw [List.map_map] at this
 have he := EO key hash (fun i => (G.map Slot.ent).getD i ⟨0, 0, 0⟩) G 0 (fun k x hk => by
  rw [Nat.zero_add, zq, List.getD_eq_getElem?_getD, hk]; rfl)
 have hm : (gK G key hash).map (0 + ·) = gK G key hash := by cases gK G key hash <;> simp
 rw [hm] at he
 rw [show (cK 0 (List.map (kD (hash % 128) ∘ Slot.byte) G)) = cK 0 (G.map fun x => kD (hash % 128) x.byte) from rfl, he] at this
 exact this
theorem UQ (hT : fQ w) : Calls Tryz.prog 119 #[bF ⟨gb, go, none⟩] w fun e w' => e = .returned (.int .i64 (rJ (kE G))) ∧ Below w.heap.size w w' := by
 have := Rl gb t pre post go _ _ w h hT
 rwa [PD] at this
theorem UR : Calls Tryz.prog 121 #[bF ⟨gb, go, none⟩] w fun e w' => e = .returned (.bool (dF G)) ∧ Below w.heap.size w w' := by
 have := Az gb t pre post go _ _ w h
 rwa [DR] at this
theorem CW (i : Nat) (hi : i < 8) (e : av) (he : G.getD i .empty = .full e) :
  Calls Tryz.prog 122 #[bF ⟨gb, go, none⟩, nI i] w fun x w' => x = .returned (.tuple #[aM e, .bool true]) ∧ Below w.heap.size w w' := by
 have := Ko gb t pre post go _ _ i hi w h ((yF gb t pre post go G w h i hi).2 (by rw [he]; rfl))
 rwa [zq, he] at this
theorem G5 (i : Nat) (hi : i < 8) (he : (G.getD i .empty).isFull = false) (E : Nat → Addr) (hE : fJ E w 5) :
  Calls Tryz.prog 122 #[bF ⟨gb, go, none⟩, nI i] w fun x w' => x = .returned (.tuple #[aM ⟨0, 0, 0⟩, .bool false]) ∧ Below w.heap.size w w' :=
 Pp gb t pre post go _ _ i hi w h (fun hl => by rw [(yF gb t pre post go G w h i hi).1 hl] at he; cases he) E hE
theorem Yu (i : Nat) (hi : i < 8) (e : av) (h64 : e.hash < 18446744073709551616) (he : (G.getD i .empty).isFull = false) :
  Calls Tryz.prog 125 #[bF ⟨gb, go, none⟩, nI i, aM e] w fun x w' => x = .returned (.tuple #[.bool (G.getD i .empty).iC, .nilIface]) ∧ lJ w' gb t pre post go (G.set i (.full e)) ∧ Mod [gb] w w' := by
 have := UC gb t pre post go _ _ i hi e h64 w h (fun hl => by rw [(yF gb t pre post go G w h i hi).1 hl] at he; cases he)
 rw [GZ G i (by rw [h.len8]; exact hi), Rx _ he] at this
 refine this.mono fun x w' ⟨h1, h2, h3⟩ => ⟨h1, ?_, h3⟩
 unfold lJ
 rw [wQ, oO]
 exact h2
theorem Yv (i : Nat) (hi : i < 8) (v : Nat) (e : av) (he : G.getD i .empty = .full e) :
  Calls Tryz.prog 123 #[bF ⟨gb, go, none⟩, nI i, nU v] w fun x w' => x = .returned .nilIface ∧ lJ w' gb t pre post go (G.set i (.full { e with val := v })) ∧ Mod [gb] w w' := by
 have Kz : i < G.length := by rw [h.len8]; exact hi
 have := UD gb t pre post go _ _ i hi v w h ((yF gb t pre post go G w h i hi).2 (by rw [he]; rfl))
 rw [zq, he] at this
 refine this.mono fun x w' ⟨h1, h2, h3⟩ => ⟨h1, ?_, h3⟩
 unfold lJ
 rw [wQ, oO]
 have hb : (G.map Slot.byte).set i (Slot.full { e with val := v }).byte = G.map Slot.byte := by
  apply List.ext_getElem?
  intro k
  rw [List.getElem?_set]
  split
  ·next hk =>
   subst hk
   rw [if_pos (by simpa using Kz), List.getElem?_map, List.getElem?_eq_getElem Kz]
   have : G[i] = .full e := by rw [← he, dA.getD_in Kz]
   rw [this]; rfl
  ·rfl
 rw [hb]
 exact h2
theorem Ry (i : Nat) (hi : i < 8) (e : av) (he : G.getD i .empty = .full e) :
  Calls Tryz.prog 206 #[bF ⟨gb, go, none⟩, nI i] w fun x w' => x = .returned (.tuple #[.bool !(dF G), .nilIface]) ∧ lJ w' gb t pre post go (G.set i (if dF G then .empty else .ow)) ∧ Mod [gb] w w' := by
 have hm := (yF gb t pre post go G w h i hi).2 (by rw [he]; rfl)
 cases ho : dF G with
 | true =>
  refine (EH gb t pre post go _ _ i hi w h hm (by rw [DR]; exact ho)).mono fun x w' ⟨h1, h2, h3⟩ => ⟨h1, ?_, h3⟩
  unfold lJ
  rw [wQ, oO]
  exact h2
 | false =>
  refine (EI gb t pre post go _ _ i hi w h hm (by rw [DR]; exact ho)).mono fun x w' ⟨h1, h2, h3⟩ => ⟨h1, ?_, h3⟩
  unfold lJ
  rw [wQ, oO]
  exact h2
theorem G7 : Calls Tryz.prog 113 #[bF ⟨gb, go, none⟩] w fun x w' => x = .returned undef ∧ lJ w' gb t pre post go (List.replicate 8 .empty) ∧ Mod [gb] w w' := Pq gb t pre post go _ _ w h
theorem CX (hT : fQ w) : Calls Tryz.prog 186 #[bF ⟨gb, go, none⟩] w fun e w' => ∃ A c, e = .returned (.slice A (bT G).length c) ∧
  w'.ownsRow w.heap.size 38 3 (.slice A (bT G).length c) (bT G).length ((bT G).flatMap aS) ∧ Below w.heap.size w w' := by
 have := KC gb t pre post go _ _ w h hT
 have he : rZ (G.map Slot.byte) (G.map Slot.ent) = bT G := by
  unfold rZ oM Ar
  rw [List.map_map, List.map_map]
  exact EP _ G 0 (fun k x hk => by rw [Nat.zero_add, zq, List.getD_eq_getElem?_getD, hk]; rfl)
 rwa [he] at this
end
end Go.Proofs.YtbphcldoflekpaaGreatDoor

/-! A table in memory. -/
namespace Go.Proofs.YtbphcldoflekpaaGreatDoor
set_option maxRecDepth 100000
set_option maxHeartbeats 2000000
open Go.RowKit Go.Shelf dA Go
variable {G : j6} {gs : Tab} {i : Nat} {S : List Nat}
structure aB where
 gs : Tab
 live : Int
 bR : Int
def vD (G : j6) : List Value := eX (G.map Slot.byte) (G.map Slot.ent)
def cZ (gs : Tab) : List Value := gs.flatMap vD
structure TabAt (w : World) (tb gb : Nat) (T : aB) : Prop where
 wide : oU T.gs
 tab : aj w tb 194 #[.slice (some ⟨gb, 0, none⟩) T.gs.length T.gs.length, .int .i64 T.live, .int .i64 T.bR]
 ER : aj w gb 198 (cZ T.gs).toArray
 ne : tb ≠ gb
theorem Jo (h : G.length = 8) : (vD G).length = 25 := by unfold vD eX; rw [List.length_cons, gy, List.length_map, h]
theorem ES (h : oU gs) : (cZ gs).length = gs.length * 25 := by
 induction gs with
 | nil => rfl
 | cons G gs ih =>
  have h1 := Jo (h G (by simp))
  have h2 := ih (fun X hX => h X (by simp [hX]))
  unfold cZ at h2 ⊢
  rw [List.flatMap_cons, List.length_append, h1, h2, List.length_cons]; omega
theorem Nh (hi : i < gs.length) : cZ gs = cZ (gs.take i) ++ (vD (gs.getD i []) ++ cZ (gs.drop (i + 1))) := by
 conv => lhs; rw [vk (d := []) hi]
 simp [cZ]
theorem KD (hi : i < gs.length) (G : j6) : cZ (gs.set i G) = cZ (gs.take i) ++ (vD G ++ cZ (gs.drop (i + 1))) := by
 rw [ny hi]
 simp [cZ]
theorem UU (h : oU gs) (i : Nat) (hG : G.length = 8) : oU (gs.set i G) := fun X hX => by
 rcases List.mem_or_eq_of_mem_set hX with hX | rfl
 ·exact h X hX
 ·exact hG
section
variable {w w' : World} {tb gb : Nat} {T : aB}
theorem TabAt.aQ (h : TabAt w tb gb T) : tb < w.heap.size := h.tab.lt
theorem TabAt.aR (h : TabAt w tb gb T) : gb < w.heap.size := h.ER.lt
theorem TabAt.mod (h : TabAt w tb gb T) (hm : Mod S w w') (h1 : tb ∉ S) (h2 : gb ∉ S) : TabAt w' tb gb T := ⟨h.wide, h.tab.mod hm h1, h.ER.mod hm h2, h.ne⟩
instance {w w' : World} {tb gb : Nat} {T : aB} : Md (TabAt w tb gb T) w w' (TabAt w' tb gb T) (fun S => tb ∉ S ∧ gb ∉ S) := ⟨fun h hm hs => h.mod hm hs.1 hs.2⟩
theorem TabAt.below (h : TabAt w tb gb T) (hb : Below w.heap.size w w') : TabAt w' tb gb T := h.mod (Mod.of_below hb []) (by simp) (by simp)
theorem TabAt.keep {n₀ : Nat} (h : TabAt w tb gb T) (hm : aY n₀ S w w') (h1 : tb < n₀) (h2 : gb < n₀) (h3 : tb ∉ S) (h4 : gb ∉ S) : TabAt w' tb gb T := ⟨h.wide, hm.blk h.tab h1 h3, hm.blk h.ER h2 h4, h.ne⟩
theorem TabAt.group (h : TabAt w tb gb T) (i : Nat) (hi : i < T.gs.length) : lJ w gb 198 (cZ (T.gs.take i)) (cZ (T.gs.drop (i + 1))) (i * 25) (T.gs.getD i []) := by
 have hw : oU (T.gs.take i) := fun X hX => h.wide X (List.mem_of_mem_take hX)
 have h8 := h.wide.at_ hi
 refine ⟨by rw [ES hw, List.length_take]; congr 1; omega, by simpa using h8, Q7 _, by simpa using h8, ?_⟩
 have := h.ER
 rw [Nh hi] at this
 exact this
theorem TabAt.nG (h : TabAt w tb gb T) (i : Nat) (hi : i < T.gs.length) (hm : Mod [gb] w w') (hG : lJ w' gb 198 (cZ (T.gs.take i)) (cZ (T.gs.drop (i + 1))) (i * 25) G) : TabAt w' tb gb { T with gs := T.gs.set i G } := by
 refine ⟨UU h.wide i hG.len8, ?_, ?_, h.ne⟩
 ·have := h.tab.mod hm (by simpa using h.ne)
  simpa using this
 ·show aj w' gb _ (cZ (T.gs.set i G)).toArray
  rw [KD hi]
  exact hG.blk
theorem TabAt.cells (h : TabAt w tb gb T) : w.cell? ⟨tb, 0, none⟩ = some (.slice (some ⟨gb, 0, none⟩) T.gs.length T.gs.length) ∧ w.cell? ⟨tb, 1, none⟩ = some (.int .i64 T.live) ∧ w.cell? ⟨tb, 2, none⟩ = some (.int .i64 T.bR) :=
 ⟨h.tab.cell 0, h.tab.cell 1, h.tab.cell 2⟩
theorem TabAt.zu (h : TabAt w tb gb T) (x : Int) : TabAt (w.setCell ⟨tb, 1, none⟩ (.int .i64 x)) tb gb { T with live := x } :=
 ⟨h.wide, h.tab.ak 1 _, h.ER.far (p := ⟨tb, 1, none⟩) (Ne.symm h.ne) _, h.ne⟩
theorem TabAt.He (h : TabAt w tb gb T) (x : Int) : TabAt (w.setCell ⟨tb, 2, none⟩ (.int .i64 x)) tb gb { T with bR := x } :=
 ⟨h.wide, h.tab.ak 2 _, h.ER.far (p := ⟨tb, 2, none⟩) (Ne.symm h.ne) _, h.ne⟩
end
def bN (tb : Nat) : Value := pQ tb
theorem lK (tb gb : Nat) (T : aB) (w : World) (h : TabAt w tb gb T) : Calls Tryz.prog 102 #[bN tb] w fun e w' => e = .returned (nI T.gs.length) ∧ w = w' := by
 obtain ⟨h0, h1, h2⟩ := h.cells
 clear h
 unfold bN
 go_in
 go_wp2
 go_ret
 exact ⟨rfl, rfl⟩
theorem Rz (tb gb : Nat) (T : aB) (w : World) (h : TabAt w tb gb T) : Calls Tryz.prog 126 #[bN tb] w fun e w' => e = .returned (.int .i64 T.live) ∧ w = w' := by
 obtain ⟨h0, h1, h2⟩ := h.cells
 clear h
 unfold bN
 go_in
 go_wp2
 go_ret
 exact ⟨rfl, rfl⟩
theorem Ni (tb gb : Nat) (T : aB) (w : World) (h : TabAt w tb gb T) : Calls Tryz.prog 127 #[bN tb] w fun e w' => e = .returned (.int .i64 T.bR) ∧ w = w' := by
 obtain ⟨h0, h1, h2⟩ := h.cells
 clear h
 unfold bN
 go_in
 go_wp2
 go_ret
 exact ⟨rfl, rfl⟩
theorem PE (tb gb : Nat) (T : aB) (w : World) (h : TabAt w tb gb T) (hn : T.gs.length ≤ 64) (hl : 0 ≤ T.live ∧ T.live ≤ 1000) (ht : 0 ≤ T.bR ∧ T.bR ≤ 1000) :
  Calls Tryz.prog 124 #[bN tb] w fun e w' => e = .returned (.int .i64 (7 * (T.gs.length : Int) - T.live - T.bR)) ∧ w' = w.drew := by
 obtain ⟨h0, h1, h2⟩ := h.cells
 obtain ⟨l0, l1⟩ := hl
 obtain ⟨t0, t1⟩ := ht
 clear h
 generalize T.gs.length = n at *
 generalize T.live = a at *
 generalize T.bR = b at *
 unfold bN
 go_in
 go_upto_region 1 with fail
 go_region
 go_wp2
 go_ret
 exact ⟨gF (by omega), rfl⟩
end Go.Proofs.YtbphcldoflekpaaGreatDoor
