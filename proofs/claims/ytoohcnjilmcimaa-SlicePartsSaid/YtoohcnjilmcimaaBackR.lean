/- slices.Backward at operations by its contract; slice.last: the place of the put that counts. -/
import Derived.RangeFuncNested
import Derived.RangeFuncBound
import Derived.RangeFuncCalls
import Derived.RangeFuncLeaves
import Derived.RangeFuncBox
import Derived.Shelf.Abstract
import Derived.Shelf.RegionOpen
import Derived.WalkKit
import Derived.OwnWalkIn
import Derived.TacticsInMore
import Derived.LoopNIn
import Derived.LoopIn
import Derived.Test.YtoohcnjilmcimaaSliceM
namespace Go.Proofs.Ytoohcnjilmcimaa
open Go.RowKit Go.Shelf AmS
attribute [local go_sem] Oper.semAt_some

def opAt (l : List SOp) (j : Nat) : SOp := l[j]?.getD ⟨0, 0, 0, 0, 0⟩
/-- what has come, from behind, when k rounds are over -/
def backs (l : List SOp) (k : Nat) : List (Nat × SOp) := (List.range k).map fun j => (l.length - 1 - j, opAt l (l.length - 1 - j))
theorem backs_succ (l : List SOp) (k : Nat) : backs l (k + 1) = backs l k ++ [(l.length - 1 - k, opAt l (l.length - 1 - k))] := by simp [backs, List.range_succ]
theorem backs_length (l : List SOp) (k : Nat) : (backs l k).length = k := by simp [backs]
abbrev opEnc (x : Nat × SOp) : Array Value := #[.int .i64 (x.1 : Int), .agg #[.int .i64 x.2.kind, .int .u64 x.2.key, .int .u64 x.2.val, .int .u64 x.2.hash, .int .i64 x.2.iter]]

set_option maxRecDepth 100000 in
set_option maxHeartbeats 2000000 in
theorem back1_in (F : Fence) (q : Nat) (hF : F.fn 52) (hro : F.round = none) (hq : 1 ≤ q) (lp Bs n₀ : Nat) (A : Option Addr) (n c : Nat) (l : List SOp) (hn : n ≤ 65536) (hBn : Bs < n₀) (J Jx : List (Nat × SOp) → World → Prop)
    (hY : ∀ pre x W, J pre W → pre.length < n → YieldAt F (q - 1) Try.prog lp (opEnc x) W fun e W' =>
      (e = .returned (.bool true) ∧ J (pre ++ [x]) W' ∧ Below n₀ W W') ∨ (e = .returned (.bool false) ∧ Jx (pre ++ [x]) W'))
    (W : World) (hBs : W.cell? ⟨Bs, 0, none⟩ = some (.slice A n c)) (hR : Reads W n₀ 5 A n (opsCells l)) (h0 : J [] W) :
    CallsIn F q Try.prog 52 #[.func (.yield lp) #[] #[], .pointer (some ⟨Bs, 0, none⟩)] W fun e W' => (∃ v, e = .returned v) ∧
      ((∃ ys, ys = backs l l.length ∧ J ys W') ∨ (∃ pre, (∃ k, k ≤ l.length ∧ pre = backs l k) ∧ Jx pre W')) := by
  have hl : l.length = n := by have := hR.1; rw [opsCells_length] at this; omega
  subst hl
  refine callsIn_of_wp Try.func52 rfl hF ?_ hro
  simp only [Try.ntmps52, List.size_toArray, List.length_cons, List.length_nil, Nat.reduceAdd, Nat.reduceSub, Array.replicate_succ, Array.replicate_zero, List.push_toArray, List.append_toArray, List.nil_append, List.cons_append]
  gi_wp2
  gi_loopw [3] (fun i wr => ∃ m : Nat, m ≤ l.length ∧ i = .int .i64 ((m : Int) - 1) ∧ J (backs l (l.length - m)) wr ∧ Below n₀ W wr) (fun i _ => (intOf i + 1).toNat)
  case atStart => exact ⟨l.length, Nat.le_refl _, rfl, by rw [Nat.sub_self]; exact h0, Below.refl _ _⟩
  case round =>
    obtain ⟨m, hm, rfl, hJs, hnx⟩ := hrel
    have hBs' := (hnx.cell (p := ⟨Bs, 0, none⟩) hBn).trans hBs
    cases m with
    | zero =>
      rw [Nat.sub_zero] at hJs
      gi_wp2
      go_end0
      exact ⟨⟨_, rfl⟩, .inl ⟨_, rfl, hJs⟩⟩
    | succ m =>
      have ho : l[m]? = some (l[m]'(by omega)) := List.getElem?_eq_getElem _
      have hat : opAt l m = l[m]'(by omega) := by unfold opAt; rw [ho]; rfl
      generalize l[m]'(by omega) = o at ho hat
      obtain ⟨b, off, rfl, hb, c0, c1, c2, c3, c4⟩ := op_cells (hR.below hnx) ho
      have hsu : backs l (l.length - m) = backs l (l.length - (m + 1)) ++ [(m, o)] := by
        rw [show l.length - m = (l.length - (m + 1)) + 1 by omega, backs_succ, show l.length - 1 - (l.length - (m + 1)) = m by omega, hat]
      obtain ⟨fn, tmps, assign, body, hy, hRd⟩ := hY _ (m, o) wr hJs (by rw [backs_length]; omega)
      simp only [opEnc] at hy hRd
      have HS := Lib.hid hsu
      have hlt' : (m : Int) < (l.length : Int) := by omega
      clear hsu hat ho
      gi_wp2
      refine hRd.mono ?_
      rintro e W3 (⟨rfl, hJ3, hk3⟩ | ⟨rfl, hJx3⟩)
      · gi_wp2
        go_roundw
        case rel => exact ⟨m, by omega, by first | rfl | (congr 1 <;> omega), by rw [HS.out]; exact hJ3, hnx.trans hk3⟩
        case measure => first | (simp [intOf]; done) | (simp [intOf]; omega)
      · gi_wp2
        refine bodyPost_ret (results_none rfl _ _ _) rfl ?_
        exact ⟨⟨_, rfl⟩, .inr ⟨_, ⟨l.length - m, by omega, HS.out.symm⟩, hJx3⟩⟩
set_option maxHeartbeats 1000000 in
theorem back_in (F : Fence) (q : Nat) (hF : F.fn 40) (hro : F.round = none) (a : Option Addr) (n c : Nat) (w : World) :
    CallsIn F q Try.prog 40 #[.slice a n c] w fun e w' => e = .returned (.func (.func 52) #[] #[.pointer (some ⟨w.heap.size, 0, none⟩)]) ∧ w' = w.alloc (.cells #[.slice a n c] 22) := by
  refine callsIn_of_wp Try.func40 rfl hF ?_ hro
  simp only [Try.ntmps40, List.size_toArray, List.length_cons, List.length_nil, Nat.reduceAdd, Nat.reduceSub, Array.replicate_succ, Array.replicate_zero, List.push_toArray, List.append_toArray, List.nil_append, List.cons_append]
  gi_wp2
  go_ret
  exact ⟨rfl, rfl⟩
theorem back_stops (F : Fence) (q : Nat) (hF : F.fn 52) (hro : F.round = none) (hq : 1 ≤ q) (Bs n₀ : Nat) (A : Option Addr) (n c : Nat) (l : List SOp) (hn : n ≤ 65536) (w : World) (hBn : Bs < n₀) (hn₀ : n₀ ≤ w.heap.size)
    (hc : w.cell? ⟨Bs, 0, none⟩ = some (.slice A n c)) (hR : Reads w n₀ 5 A n (opsCells l)) :
    SeqStopsK F q Try.prog 52 #[.pointer (some ⟨Bs, 0, none⟩)] opEnc (Below n₀) (fun ys => ys = backs l l.length) (fun pre => ∃ k, k ≤ l.length ∧ pre = backs l k) n w := fun lp J Jx W hW _ _ hY h0 =>
  back1_in F q hF hro hq lp Bs n₀ A n c l hn hBn J Jx hY W ((hW.cell (p := ⟨Bs, 0, none⟩) (by show Bs < w.heap.size; omega)).trans hc) (hR.below (hW.mono hn₀)) h0

/-! ### slice.last -/
/-- the place of the put that counts; below nought: none -/
def lastZ (key : Int) (l : List SOp) : Int := match last key l with | some i => (i : Int) | none => -1
/-- what a round that stops answers -/
def resOf (key : Int) (x : Nat × SOp) : Int := if x.2.kind == 5 || (x.2.kind == 3 && x.2.key == key) then -1 else (x.1 : Int)
theorem lastR_backs (key : Int) : ∀ (r : List SOp), (∀ o ∈ r, stops key o = false) → lastR key r = none
  | [], _ => rfl
  | o :: t, h => by
    have h0 := h o (by simp)
    unfold stops at h0
    simp only [Bool.or_eq_false_iff] at h0
    unfold lastR
    rw [if_neg (by rw [h0.1.1, h0.1.2]; simp), if_neg (by rw [h0.2]; simp)]
    exact lastR_backs key t fun x hx => h x (List.mem_cons_of_mem _ hx)
theorem lastR_stop (key : Int) (o : SOp) (t : List SOp) (ho : stops key o = true) : ∀ (r : List SOp), (∀ x ∈ r, stops key x = false) →
    lastR key (r ++ o :: t) = if o.kind == 5 || (o.kind == 3 && o.key == key) then none else some t.length
  | [], _ => by
    rw [List.nil_append, lastR]
    split
    · rfl
    · next h =>
      have hk : (o.kind == 2 && o.key == key) = true := by
        unfold stops at ho
        rw [Bool.or_eq_true] at ho
        rcases ho with ho | ho
        · exact absurd ho h
        · exact ho
      rw [if_pos hk]
  | x :: r, h => by
    have h0 := h x (by simp)
    unfold stops at h0
    simp only [Bool.or_eq_false_iff] at h0
    rw [List.cons_append, lastR, if_neg (by rw [h0.1.1, h0.1.2]; simp), if_neg (by rw [h0.2]; simp)]
    exact lastR_stop key o t ho r fun y hy => h y (List.mem_cons_of_mem _ hy)
theorem backs_snd (l : List SOp) (k : Nat) (hk : k ≤ l.length) : (backs l k).map (·.2) = l.reverse.take k := by
  apply List.ext_getElem
  · simp [backs]; omega
  · intro i h1 h2
    have hi : i < k := by simpa [backs] using h1
    have hj : l.length - 1 - i < l.length := by omega
    simp [backs, opAt, hj]
theorem lastZ_none {key : Int} {l : List SOp} (h : ∀ x ∈ backs l l.length, stops key x.2 = false) : lastZ key l = -1 := by
  unfold lastZ last
  rw [lastR_backs key l.reverse fun o ho => ?_]
  have e := backs_snd l l.length (Nat.le_refl _)
  rw [List.take_of_length_le (by simp)] at e
  rw [← e] at ho
  obtain ⟨x, hx, rfl⟩ := List.mem_map.1 ho
  exact h x hx
theorem lastZ_stop {key : Int} {l : List SOp} {k : Nat} {pre' : List (Nat × SOp)} {x : Nat × SOp} (hk : k ≤ l.length) (he : pre' ++ [x] = backs l k) (h : ∀ y ∈ pre', stops key y.2 = false) (hx : stops key x.2 = true) : lastZ key l = resOf key x := by
  cases k with
  | zero => simp [backs] at he
  | succ k =>
    rw [backs_succ] at he
    obtain ⟨h1, h2⟩ := List.append_inj' he rfl
    injection h2 with h2 _
    subst h1 h2
    have hj : l.length - 1 - k < l.length := by omega
    have hrev : l.reverse = (backs l k).map (·.2) ++ opAt l (l.length - 1 - k) :: l.reverse.drop (k + 1) := by
      rw [backs_snd l k (by omega)]
      have hkr : k < l.reverse.length := by simp; omega
      have hg : opAt l (l.length - 1 - k) = l.reverse[k] := by simp [opAt, hj]
      rw [hg, ← List.drop_eq_getElem_cons hkr, List.take_append_drop]
    have hl := lastR_stop key (opAt l (l.length - 1 - k)) (l.reverse.drop (k + 1)) hx ((backs l k).map (·.2)) (fun o ho => by
      obtain ⟨y, hy, rfl⟩ := List.mem_map.1 ho
      exact h y hy)
    rw [← hrev] at hl
    unfold lastZ last resOf
    rw [hl]
    clear hl hrev he hx h
    dsimp only
    generalize opAt l (l.length - 1 - k) = o
    by_cases hc : (o.kind == 5 || (o.kind == 3 && o.key == key)) = true
    · rw [if_pos hc, if_pos hc]
    · rw [if_neg hc, if_neg hc]
      simp only [List.length_drop, List.length_reverse]
      omega

set_option maxRecDepth 100000 in
set_option maxHeartbeats 4000000 in
theorem slice_last (A : Option Addr) (n c : Nat) (l : List SOp) (key : Int) (w : World) (h : Reads w w.heap.size 5 A n (opsCells l)) (hn : n ≤ 65536) :
    Calls Try.prog 34 #[.slice A n c, .int .u64 key] w fun e w' => e = .returned (.int .i64 (lastZ key l)) ∧ Below w.heap.size w w' := by
  refine (callsIn_wide (n := 10)).1 ?_
  have h1 : 1 ≤ 10 := by omega
  refine callsIn_of_wp_marks Try.func34 rfl trivial ?_ rfl
  simp only [Try.ntmps34, List.size_toArray, List.length_cons, List.length_nil, Nat.reduceAdd, Nat.reduceSub, Array.replicate_succ, Array.replicate_zero, List.push_toArray, List.append_toArray, List.nil_append, List.cons_append]
  gi_wp2_with (refine ⟨trivial, ?_⟩; gi_at_call 40; refine (back_in Fence.wide (10 - 1) trivial rfl _ _ _ _).mono ?_; rintro e w' ⟨rfl, rfl⟩)
  have bK := ((Boxed.new w 27 (.int .u64 key)).alloc (.cells #[.int .i64 0] 3)).alloc (.cells #[.slice A n c] 22)
  have bR := (Boxed.new (w.alloc (.cells #[.int .u64 key] 27)) 3 (.int .i64 0)).alloc (.cells #[.slice A n c] 22)
  have bA := Boxed.new ((w.alloc (.cells #[.int .u64 key] 27)).alloc (.cells #[.int .i64 0] 3)) 22 (.slice A n c)
  simp only [World.size_alloc] at bR bA
  have hB0 : Below w.heap.size w (((w.alloc (.cells #[.int .u64 key] 27)).alloc (.cells #[.int .i64 0] 3)).alloc (.cells #[.slice A n c] 22)) := (((Below.refl _ w).alloc (Nat.le_refl _) _).alloc (by simp) _).alloc (by simp; omega) _
  have hsz : (((w.alloc (.cells #[.int .u64 key] 27)).alloc (.cells #[.int .i64 0] 3)).alloc (.cells #[.slice A n c] 22)).heap.size = w.heap.size + 3 := by simp
  obtain ⟨W0, hW0⟩ : ∃ W0, ((w.alloc (.cells #[.int .u64 key] 27)).alloc (.cells #[.int .i64 0] 3)).alloc (.cells #[.slice A n c] 22) = W0 := ⟨_, rfl⟩
  rw [hW0] at bK bR bA hB0 hsz ⊢
  clear hW0
  have hR0 : Reads W0 W0.heap.size 5 A n (opsCells l) := (h.below hB0).more (by omega)
  gi_wp2
  refine wpIn_rangeFunc_ownH rfl h1 (gf := 52) (lb := #[.pointer (some ⟨w.heap.size + 1 + 1, 0, none⟩)]) rfl trivial (enters_of Try.func52 (by kernel_rfl) rfl)
    (back_stops Fence.wide (10 - 1) trivial rfl (by omega) (w.heap.size + 1 + 1) W0.heap.size A n c l hn W0 (by omega) (Nat.le_refl _) bA.cell hR0) belowK_t (belowK_b (Nat.le_refl _)) (Below.refl _ _) (fun _ => rfl)
    (fun pre W => (((∀ x ∈ pre, stops key x.2 = false) ∧ Boxed W (w.heap.size + 1) 3 (.int .i64 0)) ∧ Boxed W w.heap.size 27 (.int .u64 key)) ∧ Below W0.heap.size W0 W)
    (fun c pre W => (c = .ret ∧ ∃ pre' x, pre = pre' ++ [x] ∧ (∀ y ∈ pre', stops key y.2 = false) ∧ stops key x.2 = true ∧ Boxed W (w.heap.size + 1) 3 (.int .i64 (resOf key x))) ∧ Below w.heap.size w W)
    (OwnFrom.and (OwnFrom.and (OwnFrom.and (fun _ _ _ _ hs _ _ => hs) (Own.from (boxed_own _ _ _) _)) (Own.from (boxed_own _ _ _) _)) (ownFrom_below (Nat.le_refl _) (Nat.le_refl _)))
    (fun c => OwnFrom.and (fun _ X Y row hs hg hr => by
      obtain ⟨h0, pre', x, h2, h3, h4, h5⟩ := hs
      exact ⟨h0, pre', x, h2, h3, h4, boxed_own (w.heap.size + 1) 3 (fun (_ : Unit) => Value.int .i64 (resOf key x)) () X Y row h5 hg (fun r e => (hr r e).2)⟩) (ownFrom_below (Nat.le_refl _) (by omega)))
    ⟨⟨⟨by simp, bR⟩, bK⟩, Below.refl _ _⟩
    (fun x a' W => ∃ Bx, (W.cell? ⟨Bx, 0, none⟩ = some (.int .i64 x.2.kind) ∧ W.cell? ⟨Bx, 1, none⟩ = some (.int .u64 x.2.key)) ∧ a' = { tmps := #[.slice A n c, .int .u64 key, undef, .pointer (some ⟨w.heap.size, 0, none⟩), .pointer (some ⟨w.heap.size + 1, 0, none⟩), .int .i64 (x.1 : Int), .pointer (some ⟨Bx, 0, none⟩), .slice A n c, .func (.func 52) #[] #[.pointer (some ⟨w.heap.size + 1 + 1, 0, none⟩)], .int .i64 (x.1 : Int), .agg #[.int .i64 x.2.kind, .int .u64 x.2.key, .int .u64 x.2.val, .int .u64 x.2.hash, .int .i64 x.2.iter], undef, undef, undef, undef, undef, undef, undef, undef, undef, undef, undef, undef, undef, undef, undef, undef, undef, undef, undef, undef, undef, undef, undef, undef], defers := [] })
    (fun x a' _ X Y row hs hg hr => by
      obtain ⟨Bx, ⟨e1, e2⟩, e3⟩ := hs
      exact ⟨Bx, ⟨cell_kept e1 hg (fun r e => (hr r e).2), cell_kept e2 hg (fun r e => (hr r e).2)⟩, e3⟩)
    ?assign ?body ?done ?stop
  case assign =>
    rintro lp pre x W K ⟨⟨⟨hp, bR1⟩, bK1⟩, hB1⟩ hK
    have hO := Blk.new W 29 #[.int .i64 x.2.kind, .int .u64 x.2.key, .int .u64 x.2.val, .int .u64 x.2.hash, .int .i64 x.2.iter]
    have x0 := hO.cell 0
    have x1 := hO.cell 1
    simp only [List.getElem?_toArray, List.getElem?_cons_zero, List.getElem?_cons_succ] at x0 x1
    gi_wp2
    exact hK _ _ ((KeepsOthers.alloc _ _).from _) ((Below.refl _ W).alloc hB1.size _) ⟨⟨⟨hp, bR1.alloc _⟩, bK1.alloc _⟩, hB1.alloc hB1.size _⟩ ⟨W.heap.size, ⟨x0, x1⟩, rfl⟩
  case body =>
    rintro lp pre x a' W hl ⟨r, hr⟩ ⟨⟨⟨hp, bR1⟩, bK1⟩, hB1⟩ ⟨Bx, ⟨c0, c1⟩, rfl⟩ hlt
    have cK := bK1.cell
    have cR := bR1.cell
    have fR := bR1.frozen
    have HGo := Lib.hid (fun (hs : stops key x.2 = false) => show ∀ y ∈ pre ++ [x], stops key y.2 = false from fun y hy => (List.mem_append.1 hy).elim (hp y) (fun e => by simp at e; subst e; exact hs))
    have HSt := Lib.hid (show stops key x.2 = ((x.2.kind == 5) || ((x.2.kind == 3) && (x.2.key == key)) || ((x.2.kind == 2) && (x.2.key == key))) from rfl)
    have HRes := Lib.hid (show resOf key x = if ((x.2.kind == 5) || ((x.2.kind == 3) && (x.2.key == key))) = true then -1 else (x.1 : Int) from rfl)
    have hbel := hB0.trans (hB1.mono hB0.size)
    have HP := Lib.hid hp
    clear hp
    obtain ⟨xi, o⟩ := x
    dsimp only at c0 c1 HSt HRes HGo
    cases h5 : (o.kind == 5) with
    | true =>
      gi_wp2
      exact ⟨(KeepsOthers.setCell _ _ _).from _, ⟨rfl, pre, _, rfl, HP.out, by rw [HSt.out, h5]; rfl, by rw [HRes.out, h5]; exact bR1.set _⟩, hbel.setCell (p := ⟨w.heap.size + 1, 0, none⟩) (by simp) _⟩
    | false =>
      cases hk : (o.key == key) with
      | true =>
        cases h3 : (o.kind == 3) with
        | true =>
          gi_wp2
          exact ⟨(KeepsOthers.setCell _ _ _).from _, ⟨rfl, pre, _, rfl, HP.out, by rw [HSt.out, h5, h3, hk]; rfl, by rw [HRes.out, h5, h3, hk]; exact bR1.set _⟩, hbel.setCell (p := ⟨w.heap.size + 1, 0, none⟩) (by simp) _⟩
        | false =>
          cases h2 : (o.kind == 2) with
          | true =>
            gi_wp2
            exact ⟨(KeepsOthers.setCell _ _ _).from _, ⟨rfl, pre, _, rfl, HP.out, by rw [HSt.out, h5, h3, h2, hk]; rfl, by rw [HRes.out, h5, h3, hk]; exact bR1.set _⟩, hbel.setCell (p := ⟨w.heap.size + 1, 0, none⟩) (by simp) _⟩
          | false =>
            gi_wp2
            exact ⟨KeepsFrom.refl _ _, Below.refl _ _, ⟨⟨⟨HGo.out (by rw [HSt.out, h5, h3, h2]; rfl), bR1⟩, bK1⟩, hB1⟩⟩
      | false =>
        cases h3 : (o.kind == 3) with
        | true =>
          have h2 : (o.kind == 2) = false := by rw [beq_iff_eq] at h3; rw [h3]; rfl
          gi_wp2
          exact ⟨KeepsFrom.refl _ _, Below.refl _ _, ⟨⟨⟨HGo.out (by rw [HSt.out, h5, hk]; simp), bR1⟩, bK1⟩, hB1⟩⟩
        | false =>
          cases h2 : (o.kind == 2) with
          | true =>
            gi_wp2
            exact ⟨KeepsFrom.refl _ _, Below.refl _ _, ⟨⟨⟨HGo.out (by rw [HSt.out, h5, hk]; simp), bR1⟩, bK1⟩, hB1⟩⟩
          | false =>
            gi_wp2
            exact ⟨KeepsFrom.refl _ _, Below.refl _ _, ⟨⟨⟨HGo.out (by rw [HSt.out, h5, hk]; simp), bR1⟩, bK1⟩, hB1⟩⟩
  case done =>
    rintro D ys W hD rfl ⟨⟨⟨hp, bR1⟩, bK1⟩, hB1⟩ hK
    have cR := bR1.cell
    have fR := bR1.frozen
    gi_wp2
    have hK' := (KeepsOthers.setCell W ⟨w.heap.size + 1, 0, none⟩ (.int .i64 (-1))).same D _ hK rfl
    refine ⟨by simp, .inl ⟨_, _, rfl, run_takeDeferred hK', ?_⟩⟩
    have hc5 := cell_kept (bR1.set (.int .i64 (-1))).cell (grownBy_putObj' _ D (.deferred none)) (fun r e => by cases e; exact ⟨_, hK', rfl⟩)
    refine ⟨.int .i64 (-1), ?_, by rw [lastZ_none hp], ((hB0.trans (hB1.mono hB0.size)).setCell (p := ⟨w.heap.size + 1, 0, none⟩) (by simp) _).trans (belowK_b (w := w) (Nat.le_refl _) _ D _ _ (by omega) hK' rfl rfl)⟩
    simp [results, Try.f34, go_sem, hc5]
  case stop =>
    rintro D c pre W hD ⟨k, hk, rfl⟩ ⟨⟨rfl, pre', x, he, hp, hx, bR1⟩, hB1⟩ hK
    gi_wp2
    refine ⟨by simp, .inl ⟨_, _, rfl, run_takeDeferred hK, ?_⟩⟩
    have hc5 := cell_kept bR1.cell (grownBy_putObj' _ D (.deferred none)) (fun r e => by cases e; exact ⟨_, hK, rfl⟩)
    refine ⟨.int .i64 (resOf key x), ?_, by rw [lastZ_stop hk he.symm hp hx], hB1.trans (belowK_b (w := w) (Nat.le_refl _) W D _ _ (by omega) hK rfl rfl)⟩
    simp [results, Try.f34, go_sem, hc5]
end Go.Proofs.Ytoohcnjilmcimaa
