/- gauge.Least, gauge.Worst, gauge.Ratio, amblerlaw35.exact and the chapter's example by their contracts. -/
import Derived.Test.YtgpkekdbohdbfaaDoorGaugeB
import Derived.Test.YtgpkekdbohdbfaaDoorGaugeL
import Derived.Test.YtgpkekdbohdbfaaDoorKit2
namespace Go.Proofs.YtgpkekdbohdbfaaDoor
open Go.RowKit AmF AmD

def fV (x : Nat) : Value := .float .f64 x
theorem info_f64 : (Tryd.prog.info? 43).map (fun i => (i.zero, i.size, i.bytes)) = some (some (.float .f64 0), 1, 8) := by kernel_rfl
theorem slty_f64 : SlTy Tryd.prog 55 43 1 8 := slTy Tryd.underlying55 info_f64 rfl (by decide) (by decide)
theorem size_f64 (w : World) : (sizeOf 43).run Tryd.prog w = .ok 1 w := by kernel_rfl
theorem f_cell {w : World} {B : Nat} {A : Option Addr} {n k x : Nat} {l : List Nat} (h : Reads w B 1 A n (l.map fV)) (hx : l[k]? = some x) : ∃ b off, A = some ⟨b, off, none⟩ ∧ b < B ∧ w.cell? ⟨b, off + k, none⟩ = some (.float .f64 x) := by
  have hk : k < l.length := (List.getElem?_eq_some_iff.1 hx).1
  have hn : 0 < n := by have := h.1; simp at this; omega
  obtain ⟨b, off, rfl, hb, hc⟩ := h.cells_ hn
  exact ⟨b, off, rfl, hb, hc k _ (by rw [List.getElem?_map, hx]; rfl)⟩

set_option maxHeartbeats 2000000 in
theorem gauge_Least (A : Option Addr) (n c : Nat) (l : List Nat) (w : World) (h : Reads w w.heap.size 1 A n (l.map fV)) (hcap : n ≤ c) (hn : n ≤ 1000000) (hl : words l) :
    Calls Tryd.prog 27 #[.slice A n c] w fun e w' => ∃ r, LeastIs l r ∧ e = .returned (.float .f64 r) ∧ w = w' := by
  have HNaN := Lib.hid (fun (W : World) => math_NaN W)
  have hlen : l.length = n := by simpa using h.1
  cases l with
  | nil =>
    obtain rfl : n = 0 := by simpa using hlen.symm
    clear hlen h hl
    go_enter Tryd.func27, Tryd.ntmps27
    go_wp2_with fail
    refine (HNaN.out _).mono ?_
    rintro e w1 ⟨rfl, rfl⟩
    go_wp2
    go_ret
    exact ⟨_, ⟨by decide, fun _ => by decide, fun x t he => by cases he⟩, rfl, rfl⟩
  | cons x t =>
    obtain ⟨b, off, rfl, hb, c0⟩ := f_cell (k := 0) h rfl
    obtain ⟨m, rfl⟩ : ∃ m, n = m + 1 := ⟨n - 1, by simp at hlen; omega⟩
    have htl : t.length = m := by simpa using hlen
    have b0 : ((m : Int) + 1 == 0) = false := by simp; omega
    have hpos : (0 : Int) < (m : Int) + 1 := by omega
    obtain ⟨A1, hsl, hA1⟩ := slice_from' (size := 1) (t := 55) Tryd.underlying55 size_f64 b off (m + 1) c 1 (by omega) hcap
    rw [Nat.add_sub_cancel] at hsl
    have hsl1 : ∀ W, (Instr.slice 55 (.slice (some ⟨b, off, none⟩) (m + 1) c) (some (.int .i64 1)) none none).run Tryd.prog W = .ok (.slice A1 m (c - 1)) W := hsl
    clear hsl
    have hcell : ∀ k y, t[k]? = some y → A1 = some ⟨b, off + 1, none⟩ ∧ w.cell? ⟨b, off + 1 + k, none⟩ = some (.float .f64 y) := fun k y hy => by
      have hk : k < t.length := (List.getElem?_eq_some_iff.1 hy).1
      obtain ⟨b', off', e', _, hc⟩ := f_cell (k := k + 1) h (show (x :: t)[k + 1]? = some y from hy)
      injection e' with e'; injection e' with e1 e2
      subst e1; subst e2
      have := hA1 (by omega)
      rw [Nat.mul_one] at this
      rw [show off + (k + 1) = off + 1 + k by omega] at hc
      exact ⟨this, hc⟩
    have HCell := Lib.hid hcell
    rw [Nat.add_zero] at c0
    have HTL := Lib.hid htl
    clear hA1 hlen h hcell htl
    go_enter Tryd.func27, Tryd.ntmps27
    go_wp2
    go_loop [2, 3, 5, 16] (fun v2 v3 _ i => ∃ k out : Nat, k ≤ m ∧ i = .int .i64 k ∧ v2 = .float .f64 0 ∧ v3 = .float .f64 out ∧ LeastAt x t k out) (fun _ _ _ i => m - (intOf i).toNat)
    case atStart => exact ⟨0, x, by omega, rfl, rfl, rfl, ⟨rfl, .inl rfl⟩⟩
    case round =>
      obtain ⟨k, out, hk, rfl, rfl, rfl, hat⟩ := hrel
      by_cases hlt : k < m
      · have hy : t[k]? = some (t[k]'(by rw [HTL.out]; exact hlt)) := List.getElem?_eq_getElem _
        generalize t[k]'(by rw [HTL.out]; exact hlt) = y at hy
        obtain ⟨rfl, hc⟩ := HCell.out k y hy
        have hlt' : (k : Int) < (m : Int) := by omega
        have HY := Lib.hid hy
        cases ny : nanB y with
        | true =>
          have HN := Lib.hid (fun (W : World) => by have := math_IsNaN y W; rw [ny] at this; exact this)
          have HB := Lib.hid (hat.bad hy (.inl ny) (r := 9221120237041090561) (by decide) (by decide))
          clear hy ny hat
          go_wp2_with fail
          refine (HN.out _).mono ?_
          rintro e w1 ⟨rfl, rfl⟩
          go_wp2_with fail
          refine (HNaN.out _).mono ?_
          rintro e w1 ⟨rfl, rfl⟩
          go_wp2
          go_ret
          exact ⟨_, HB.out, rfl, rfl⟩
        | false =>
          have HN := Lib.hid (fun (W : World) => by have := math_IsNaN y W; rw [ny] at this; exact this)
          cases no : nanB out with
          | true =>
            have HO := Lib.hid (fun (W : World) => by have := math_IsNaN out W; rw [no] at this; exact this)
            have HB := Lib.hid (hat.bad hy (.inr no) (r := 9221120237041090561) (by decide) (by decide))
            clear hy ny no hat
            go_wp2_with fail
            refine (HN.out _).mono ?_
            rintro e w1 ⟨rfl, rfl⟩
            go_wp2_with fail
            refine (HO.out _).mono ?_
            rintro e w1 ⟨rfl, rfl⟩
            go_wp2_with fail
            refine (HNaN.out _).mono ?_
            rintro e w1 ⟨rfl, rfl⟩
            go_wp2
            go_ret
            exact ⟨_, HB.out, rfl, rfl⟩
          | false =>
            have HO := Lib.hid (fun (W : World) => by have := math_IsNaN out W; rw [no] at this; exact this)
            have HB := Lib.hid (hat.next hl hy ny no)
            have HM := Lib.hid (fun (W : World) => math_Min out y W)
            clear hy ny no hat
            go_wp2_with fail
            refine (HN.out _).mono ?_
            rintro e w1 ⟨rfl, rfl⟩
            go_wp2_with fail
            refine (HO.out _).mono ?_
            rintro e w1 ⟨rfl, rfl⟩
            go_wp2_with fail
            refine (HM.out _).mono ?_
            rintro e w1 ⟨rfl, rfl⟩
            go_wp2
            go_round
            case rel => exact ⟨k + 1, _, by omega, by go_num, rfl, rfl, HB.out⟩
            case measure => simp [intOf]; omega
      · obtain rfl : k = m := by omega
        have hlt' : ¬ (k : Int) < (k : Int) := by omega
        have HD := Lib.hid (show LeastIs (x :: t) out from by
          have := HTL.out
          subst this
          exact hat.done hl)
        clear hat
        go_wp2
        go_ret
        exact ⟨_, HD.out, rfl, rfl⟩

theorem row_cap {w : World} {b e size n c : Nat} {A : Option Addr} {xs : List Value} (h : w.ownsRow b e size (.slice A n c) n xs) : n ≤ c := by
  rcases h.2 with ⟨_, h0⟩ | ⟨g, cap, cur, hv, r⟩
  · omega
  · injection hv with _ _ hc
    have := r.2.2.1
    omega
theorem negs_snoc {l : List Nat} {k y : Nat} (h : l[k]? = some y) : (l.take (k + 1)).map (fun x => fV (negW x)) = (l.take k).map (fun x => fV (negW x)) ++ [.float .f64 (negW y)] := by
  rw [take_next h, List.map_append]; rfl
set_option maxHeartbeats 2000000 in
theorem gauge_Worst (A : Option Addr) (n c : Nat) (l : List Nat) (w : World) (h : Reads w w.heap.size 1 A n (l.map fV)) (hn : n ≤ 1000000) (hl : words l) :
    Calls Tryd.prog 28 #[.slice A n c] w fun e w' => ∃ r, MostIs l r ∧ e = .returned (.float .f64 r) ∧ Below w.heap.size w w' := by
  have hlen : l.length = n := by simpa using h.1
  have HL := Lib.hid hlen
  clear hlen
  go_enter Tryd.func28, Tryd.ntmps28
  go_wp2
  go_loopw [3, 5, 8] (fun v3 _ i wr => ∃ k : Nat, k ≤ n ∧ i = .int .i64 k ∧ wr.ownsRow w.heap.size 43 1 v3 k ((l.take k).map fun x => fV (negW x)) ∧ Below w.heap.size w wr) (fun _ _ i _ => n - (intOf i).toNat)
  case atStart => exact ⟨0, by omega, rfl, World.ownsRow_nil _ _ _ _, Below.refl _ _⟩
  case round =>
    obtain ⟨k, hk, rfl, hown, hbel⟩ := hrel
    by_cases hlt : k < n
    · have hy : l[k]? = some (l[k]'(by rw [HL.out]; exact hlt)) := List.getElem?_eq_getElem _
      generalize l[k]'(by rw [HL.out]; exact hlt) = y at hy
      obtain ⟨b, off, rfl, hb, hc⟩ := f_cell (h.below hbel) hy
      have hu := unary_neg y
      have hlt' : (k : Int) < (n : Int) := by omega
      have HS := Lib.hid (negs_snoc hy)
      clear hy
      go_wp2_with (at_builtin; refine wpList_append1 rfl rfl slty_f64 hown rfl rfl (by simp) rfl rfl (by omega) hbel.size ?_; intro v4 w4 hown4 hg4)
      go_roundw
      case rel => exact ⟨k + 1, by omega, by go_num, by rw [HS.out]; exact hown4, hbel.trans hg4.below⟩
      case measure => simp [intOf]; omega
    · obtain rfl : k = n := by omega
      have hlt' : ¬ (k : Int) < (k : Int) := by omega
      have hta : l.take k = l := by rw [← HL.out]; exact List.take_length
      rw [hta] at hown
      obtain ⟨A3, c3, rfl⟩ := own_form hown
      have hR := Reads.of_own hown
      have hmm : (l.map fun x => fV (negW x)) = (l.map negW).map fV := by rw [List.map_map]; rfl
      rw [hmm] at hR
      have hlw : words (l.map negW) := fun y hy => by
        obtain ⟨x, hx, rfl⟩ := List.mem_map.1 hy
        exact (negW_facts (hl x hx)).2.2
      have HLe := Lib.hid (gauge_Least A3 k c3 (l.map negW) wr hR (row_cap hown) hn hlw)
      clear hta hown hR hmm
      go_wp2_with fail
      refine HLe.out.mono ?_
      rintro e w1 ⟨r, hr, rfl, rfl⟩
      have hu := unary_neg r
      have HM := Lib.hid (most_of_least hl hr)
      clear hr
      go_wp2
      go_ret
      exact ⟨_, HM.out, rfl, hbel⟩

/-! ### exact -/
theorem exact_alike (a b : Nat) (h : SameF a b) (w : World) : Calls Tryd.prog 21 #[.float .f64 a, .float .f64 b] w fun e w' => e = .returned (.bool true) ∧ w = w' := by
  have he := @run_callFunc_extern Tryd.prog 17 _ Extern.MathFloatBits.float64bits Tryd.func17 (by kernel_rfl) (by kernel_rfl) (by kernel_rfl) (by kernel_rfl)
  have hb := fun (b : Nat) (W : World) => show (Extern.MathFloatBits.float64bits #[.float .f64 b]).run Tryd.prog W = .ok (.int .u64 (b : Int)) W from rfl
  by_cases hab : a = b
  · subst hab
    have e1 : ((a : Int) == (a : Int)) = true := by simp
    clear h
    go_enter Tryd.func21, Tryd.ntmps21
    go_wp2
    go_ret
    exact ⟨rfl, rfl⟩
  · obtain ⟨h1, h2⟩ := h.resolve_left hab
    have e1 : ((a : Int) == (b : Int)) = false := by simp; omega
    have e2 : (FloatKind.f64.format.order a a != some .eq) = true := (neq_self a).trans h1
    have e3 : (FloatKind.f64.format.order b b != some .eq) = true := (neq_self b).trans h2
    clear h1 h2 hab h
    go_enter Tryd.func21, Tryd.ntmps21
    go_wp2
    go_ret
    exact ⟨rfl, rfl⟩
end Go.Proofs.YtgpkekdbohdbfaaDoor
