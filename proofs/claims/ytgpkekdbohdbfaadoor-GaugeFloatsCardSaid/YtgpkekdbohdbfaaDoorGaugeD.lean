/- gauge.Ratio and the chapter's example by their contracts; the walk of GaugeLists. -/
import Derived.Test.YtgpkekdbohdbfaaDoorGaugeC
import Derived.Deep.Cut
import Derived.Deep.CutRange
namespace Go.Proofs.YtgpkekdbohdbfaaDoor
open Go.RowKit AmF AmD

/-- the answer true -/
def SaysTrue (w : World) (e : Ending) (w' : World) : Prop := e = .returned (.bool true) ∧ Below w.heap.size w w'
theorem gauge_Text (x : Nat) (hx : x < 18446744073709551616) (w : World) (hT : Lib.TabIs Tryd.prog w "internal/strconv.uint64pow10" .u64 Lib.pow10Tab) :
    Calls Tryd.prog 24 #[.float .f64 x] w fun e w' => e = .returned (strV (textF x)) ∧ Below w.heap.size w w' := by
  by_cases h : nanB x = true ∨ infS false x = true ∨ infS true x = true ∨ 4786511204640096256 ≤ rung x
  · exact (gauge_Text_odd x hx w h).mono fun e w' ⟨he, hw⟩ => ⟨he, hw ▸ Below.refl _ _⟩
  · simp only [not_or, Bool.not_eq_true, Nat.not_le] at h
    exact gauge_Text_plain x hx w hT h.1 h.2.1 h.2.2.1 h.2.2.2
theorem run_int_float (n : Int) (W : World) : (convert 3 43 (.int .i64 n)).run Tryd.prog W = .ok (.float .f64 (floatOfInt .f64 n)) W :=
  run_convert_int_float W 3 43 .i64 .f64 n (by rw [Tryd.underlying3]; rfl) Tryd.underlying43
theorem gauge_Ratio_num (a b : Int) (r : Nat) (h : Ieee.double.div (floatOfInt .f64 a) (floatOfInt .f64 b) = some r) (w : World) :
    Calls Tryd.prog 22 #[.int .i64 a, .int .i64 b] w fun e w' => e = .returned (.float .f64 r) ∧ w = w' := by
  have hca := run_int_float a
  have hcb := run_int_float b
  have hop : ∀ t W, (binOp .quo t (.float .f64 (floatOfInt .f64 a)) (.float .f64 (floatOfInt .f64 b))).run Tryd.prog W = .ok (.float .f64 r) W := fun t W => run_float_arith W .quo t .f64 _ _ r h
  clear h
  go_enter Tryd.func22, Tryd.ntmps22
  go_wp2
  go_ret
  exact ⟨rfl, rfl⟩
theorem ex_zero : Ieee.double.div (floatOfInt .f64 0) (floatOfInt .f64 (-3)) = some 9223372036854775808 := by decide +kernel
theorem ex_inf : Ieee.double.div (floatOfInt .f64 1) (floatOfInt .f64 0) = some 9218868437227405312 := by decide +kernel
theorem ex_text : textF 4557750909289998844 = [48, 46, 48, 48, 49] := by
  have h1 : nanB 4557750909289998844 = false := by decide
  have h2 : infS false 4557750909289998844 = false := by decide
  have h3 : infS true 4557750909289998844 = false := by decide
  have h4 : ¬ 4786511204640096256 ≤ rung 4557750909289998844 := by decide
  have h5 : sgn 4557750909289998844 = false := by decide
  have h6 : rounded (times (rung 4557750909289998844)) = 1 := by decide +kernel
  unfold textF
  rw [h1, h2, h3, h5, h6]
  simp only [Bool.false_eq_true, if_false]
  rw [if_neg h4]
  unfold milli
  rw [digits_small (1 / 1000) (by decide)]
  rfl

set_option maxHeartbeats 1000000 in
theorem alive35 (w : World) (hT : Lib.TabIs Tryd.prog w "internal/strconv.uint64pow10" .u64 Lib.pow10Tab) :
    Calls Tryd.prog 15 #[] w fun e w' => e = .returned (.bool true) ∧ Below w.heap.size w w' := by
  have H0 := Lib.hid (fun (W : World) => gauge_Ratio_num 0 (-3) _ ex_zero W)
  have H1 := Lib.hid (fun (W : World) => gauge_Ratio_num 1 0 _ ex_inf W)
  have HI := Lib.hid (fun (W : World) => show Calls Tryd.prog 18 #[.float .f64 9218868437227405312, .int .i64 1] W (fun e w' => e = .returned (.bool true) ∧ W = w') from by have := math_IsInf_pos 9218868437227405312 W (by decide); rw [show infS false 9218868437227405312 = true by decide] at this; exact this)
  have HS := Lib.hid (fun (W : World) => show Calls Tryd.prog 26 #[.float .f64 9223372036854775808] W (fun e w' => e = .returned (.bool true) ∧ W = w') from by have := math_Signbit 9223372036854775808 (by decide) W; rw [show sgn 9223372036854775808 = true by decide] at this; exact this)
  have HTx := Lib.hid (show Calls Tryd.prog 24 #[.float .f64 4557750909289998844] w (fun e w' => e = .returned (.string ⟨#[48, 46, 48, 48, 49]⟩) ∧ Below w.heap.size w w') from by have := gauge_Text 4557750909289998844 (by decide) w hT; rw [ex_text] at this; exact this)
  have he : (FloatKind.f64.format.order 9223372036854775808 0 == some .eq) = true := by decide +kernel
  clear hT
  go_enter Tryd.func15, Tryd.ntmps15
  go_wp2_with fail
  refine (H0.out _).mono ?_
  rintro e w1 ⟨rfl, rfl⟩
  go_wp2_with fail
  refine (H1.out _).mono ?_
  rintro e w1 ⟨rfl, rfl⟩
  go_wp2_with fail
  refine (HI.out _).mono ?_
  rintro e w1 ⟨rfl, rfl⟩
  go_wp2_with fail
  refine (HS.out _).mono ?_
  rintro e w1 ⟨rfl, rfl⟩
  go_wp2_with fail
  refine HTx.out.mono ?_
  rintro e w1 ⟨rfl, hb⟩
  go_wp2
  go_ret
  exact ⟨rfl, hb⟩

theorem key_zero (x : Nat) : decide (key x = key 0) = decide (rung x = 0) := by
  have e : key 0 = 0 := by decide
  rw [e, decide_eq_decide]
  unfold key
  cases sgn x <;> simp
theorem nan_zero : nanB 0 = false := by decide
theorem less_true {y m : Nat} (h : key y < key m) : lessB y m = true := by unfold lessB; simp [h]
theorem less_no {y m : Nat} (h : ¬ key y < key m) (h2 : ¬ (rung y = 0 ∧ rung m = 0 ∧ sgn y = true)) : lessB y m = false := by
  unfold lessB
  rw [Bool.or_eq_false_iff]
  refine ⟨by simpa using h, ?_⟩
  rw [← Bool.not_eq_true]
  simp only [Bool.and_eq_true, decide_eq_true_eq]
  exact fun ⟨⟨a, b⟩, c⟩ => h2 ⟨a, b, c⟩
theorem less_zero {y m : Nat} (h1 : rung y = 0) (h2 : rung m = 0) (h3 : sgn y = true) : lessB y m = true := by unfold lessB; simp [h1, h2, h3]
theorem more_true {y m : Nat} (h : key m < key y) : moreB y m = true := by unfold moreB; simp [h]
theorem more_no {y m : Nat} (h : ¬ key m < key y) (h2 : ¬ (rung y = 0 ∧ rung m = 0 ∧ sgn y = false)) : moreB y m = false := by
  unfold moreB
  rw [Bool.or_eq_false_iff]
  refine ⟨by simpa using h, ?_⟩
  rw [← Bool.not_eq_true]
  simp only [Bool.and_eq_true, decide_eq_true_eq, Bool.not_eq_true']
  exact fun ⟨⟨a, b⟩, c⟩ => h2 ⟨a, b, c⟩
theorem more_zero {y m : Nat} (h1 : rung y = 0) (h2 : rung m = 0) (h3 : sgn y = false) : moreB y m = true := by unfold moreB; simp [h1, h2, h3]

theorem less_sgn {y m : Nat} (h : ¬ key y < key m) (h1 : rung y = 0) (h2 : rung m = 0) : lessB y m = sgn y := by
  cases hs : sgn y with
  | true => exact less_zero h1 h2 hs
  | false => exact less_no h (fun h => by rw [hs] at h; exact Bool.noConfusion h.2.2)
theorem more_sgn {y m : Nat} (h : ¬ key m < key y) (h1 : rung y = 0) (h2 : rung m = 0) : moreB y m = !sgn y := by
  cases hs : sgn y with
  | false => exact more_zero h1 h2 hs
  | true => exact more_no h (fun h => by rw [hs] at h; exact Bool.noConfusion h.2.2)
set_option maxHeartbeats 400000 in
theorem lists_long (A : Option Addr) (n c : Nat) (w : World) (hn : 100 < n) (hT : Lib.TabIs Tryd.prog w "internal/strconv.uint64pow10" .u64 Lib.pow10Tab) :
    Calls Tryd.prog 5 #[.slice A n c] w (SaysTrue w) := by
  have hn' : (100 : Int) < (n : Int) := by omega
  have HA := Lib.hid (alive35 w hT)
  clear hT
  go_enter Tryd.func5, Tryd.ntmps5
  go_wp2_with fail
  refine HA.out.mono ?_
  rintro e W ⟨rfl, hbW⟩
  go_wp2
  go_ret
  exact ⟨rfl, hbW⟩

set_option maxHeartbeats 4000000 in
set_option maxRecDepth 100000 in
theorem lists_few (A : Option Addr) (n c : Nat) (l : List Nat) (w : World) (h : Reads w w.heap.size 1 A n (l.map fV)) (hcap : n ≤ c) (hn : n ≤ 100) (hl : words l) (hT : Lib.TabIs Tryd.prog w "internal/strconv.uint64pow10" .u64 Lib.pow10Tab) :
    Calls Tryd.prog 5 #[.slice A n c] w (SaysTrue w) := by
  have hn' : ¬ (100 : Int) < (n : Int) := by omega
  have HA := Lib.hid (alive35 w hT)
  have HNaN := Lib.hid (fun (W : World) => math_NaN W)
  have hlen : l.length = n := by simpa using h.1
  have HL := Lib.hid hlen
  have HEx := Lib.hid (fun (a b : Nat) (hab : SameF a b) (W : World) => exact_alike a b hab W)
  clear hT hlen
  go_enter Tryd.func5, Tryd.ntmps5
  go_wp2_with fail
  refine HA.out.mono ?_
  rintro e W ⟨rfl, hbW⟩
  go_wp2_with fail
  refine (HNaN.out _).mono ?_
  rintro e w1 ⟨rfl, rfl⟩
  go_wp2_with fail
  refine (HNaN.out _).mono ?_
  rintro e w1 ⟨rfl, rfl⟩
  have hRW := (h.below hbW).more hbW.size
  have HLe := Lib.hid (gauge_Least A n c l W hRW hcap (by omega) hl)
  have HWo := Lib.hid (gauge_Worst A n c l W hRW (by omega) hl)
  have HR := Lib.hid hRW
  clear h hRW
  go_wp2
  go_loop [3, 4, 5, 6, 16] (fun v3 v4 _ _ i => ∃ k least most : Nat, k ≤ n ∧ i = .int .i64 k ∧ v3 = .float .f64 least ∧ v4 = .float .f64 most ∧ LawAt l k least most) (fun _ _ _ _ i => n - (intOf i).toNat)
  case atStart => exact ⟨0, _, _, by omega, rfl, rfl, rfl, ⟨fun _ => ⟨rfl, rfl⟩, fun x t he h0 => absurd h0 (by omega)⟩⟩
  case round =>
    obtain ⟨k, least, most, hk, rfl, rfl, rfl, hat⟩ := hrel
    by_cases hlt : k < n
    · have hy : l[k]? = some (l[k]'(by rw [HL.out]; exact hlt)) := List.getElem?_eq_getElem _
      generalize l[k]'(by rw [HL.out]; exact hlt) = y at hy
      obtain ⟨b, off, rfl, hb, hc⟩ := f_cell HR.out hy
      have hyw := hl y (List.mem_of_getElem? hy)
      have hlt' : (k : Int) < (n : Int) := by omega
      have hself := neq_self y
      cases ny : nanB y with
      | true =>
        rw [ny] at hself
        have HS1 := Lib.hid (fun (r : Nat) (hr : LeastIs l r) => LawAt.nan hy ny hr)
        have HS2 := Lib.hid (fun (r : Nat) (hr : MostIs l r) => LawAt.nanM hy ny hr)
        clear ny hy hat hyw
        go_wp2_with fail
        refine HLe.out.mono ?_
        rintro e w1 ⟨r, hr, rfl, rfl⟩
        go_wp2_with fail
        refine (HEx.out _ _ (HS1.out r hr) _).mono ?_
        rintro e w1 ⟨rfl, rfl⟩
        go_wp2_with fail
        refine HWo.out.mono ?_
        rintro e w2 ⟨r2, hr2, rfl, hb2⟩
        go_wp2_with fail
        refine (HEx.out _ _ (HS2.out r2 hr2) _).mono ?_
        rintro e w3 ⟨rfl, rfl⟩
        go_wp2
        go_ret
        exact ⟨rfl, hbW.trans (hb2.mono hbW.size)⟩
      | false =>
        rw [ny] at hself
        by_cases h0 : k = 0
        · have b0 : ((k : Int) == 0) = true := by simp; omega
          have HF := Lib.hid (show LawAt l (k + 1) y y from by subst h0; exact LawAt.first hy ny)
          clear h0 hy hat ny
          go_wp2
          go_round
          case rel => exact ⟨k + 1, y, y, by omega, by go_num, rfl, rfl, HF.out⟩
          case measure => simp [intOf]; omega
        · have b0 : ((k : Int) == 0) = false := by simp; omega
          obtain ⟨nl, nm⟩ := hat.num_ (by rw [HL.out]; exact hk) (by omega)
          have HF := Lib.hid (hat.next (by omega) hy ny)
          have L1 := Lib.hid (lt_key ny nl)
          have L2 := Lib.hid (gt_key ny nm)
          have Z0 := Lib.hid ((eq_key ny nan_zero).trans (key_zero y))
          have ZL := Lib.hid ((eq_key nl nan_zero).trans (key_zero least))
          have ZM := Lib.hid ((eq_key nm nan_zero).trans (key_zero most))
          have HSg := Lib.hid (fun (W : World) => math_Signbit y hyw W)
          clear h0 hy hat ny nl nm hyw
          go_upto_region 11 with fail
          go_cut [44] from 17 to 67 (fun v44 wx => v44 = .bool (lessB y least) ∧ wx = W)
          case first =>
            by_cases c1 : key y < key least
            · have q1 : (FloatKind.f64.format.order y least == some .lt) = true := by rw [L1.out]; simpa using c1
              have HV := Lib.hid (less_true c1)
              clear c1
              go_wp2
              go_meet
              case rel => exact ⟨by rw [HV.out], rfl⟩
            · have q1 : (FloatKind.f64.format.order y least == some .lt) = false := by rw [L1.out]; simpa using c1
              by_cases c2 : rung y = 0
              · have q2 : (FloatKind.f64.format.order y 0 == some .eq) = true := by rw [Z0.out]; simpa using c2
                by_cases c3 : rung least = 0
                · have q3 : (FloatKind.f64.format.order least 0 == some .eq) = true := by rw [ZL.out]; simpa using c3
                  have HV := Lib.hid (show lessB y least = sgn y from less_sgn c1 c2 c3)
                  clear c1 c2 c3
                  go_wp2_with fail
                  refine (HSg.out _).mono ?_
                  rintro e w1 ⟨rfl, rfl⟩
                  go_wp2
                  go_meet
                  case rel => exact ⟨by rw [HV.out], rfl⟩
                · have q3 : (FloatKind.f64.format.order least 0 == some .eq) = false := by rw [ZL.out]; simpa using c3
                  have HV := Lib.hid (less_no c1 (fun h => c3 h.2.1))
                  clear c1 c2 c3
                  go_wp2
                  go_meet
                  case rel => exact ⟨by rw [HV.out], rfl⟩
              · have q2 : (FloatKind.f64.format.order y 0 == some .eq) = false := by rw [Z0.out]; simpa using c2
                have HV := Lib.hid (less_no c1 (fun h => c2 h.1))
                clear c1 c2
                go_wp2
                go_meet
                case rel => exact ⟨by rw [HV.out], rfl⟩
          case rest =>
            obtain ⟨rfl, rfl⟩ := hcut
            cases hb1 : lessB y least
            all_goals
              have HB1 := Lib.hid hb1
              clear hb1
              go_upto_region 13 with fail
              go_cut [65] from 17 to 67 (fun v65 wy => v65 = .bool (moreB y most) ∧ wy = wc)
              case first =>
                by_cases c1 : key most < key y
                · have q1 : (FloatKind.f64.format.order y most == some .gt) = true := by rw [L2.out]; simpa using c1
                  have HV := Lib.hid (more_true c1)
                  clear c1
                  go_wp2
                  go_meet
                  case rel => exact ⟨by rw [HV.out], rfl⟩
                · have q1 : (FloatKind.f64.format.order y most == some .gt) = false := by rw [L2.out]; simpa using c1
                  by_cases c2 : rung y = 0
                  · have q2 : (FloatKind.f64.format.order y 0 == some .eq) = true := by rw [Z0.out]; simpa using c2
                    by_cases c3 : rung most = 0
                    · have q3 : (FloatKind.f64.format.order most 0 == some .eq) = true := by rw [ZM.out]; simpa using c3
                      have HV := Lib.hid (show moreB y most = !sgn y from more_sgn c1 c2 c3)
                      clear c1 c2 c3
                      go_wp2_with fail
                      refine (HSg.out _).mono ?_
                      rintro e w1 ⟨rfl, rfl⟩
                      go_wp2
                      go_meet
                      case rel => exact ⟨by rw [HV.out], rfl⟩
                    · have q3 : (FloatKind.f64.format.order most 0 == some .eq) = false := by rw [ZM.out]; simpa using c3
                      have HV := Lib.hid (more_no c1 (fun h => c3 h.2.1))
                      clear c1 c2 c3
                      go_wp2
                      go_meet
                      case rel => exact ⟨by rw [HV.out], rfl⟩
                  · have q2 : (FloatKind.f64.format.order y 0 == some .eq) = false := by rw [Z0.out]; simpa using c2
                    have HV := Lib.hid (more_no c1 (fun h => c2 h.1))
                    clear c1 c2
                    go_wp2
                    go_meet
                    case rel => exact ⟨by rw [HV.out], rfl⟩
              case rest =>
                obtain ⟨rfl, rfl⟩ := hcut
                cases hb2 : moreB y most
                all_goals
                  have HB2 := Lib.hid hb2
                  clear hb2
                  go_wp2
                  go_round
                  case rel => exact ⟨k + 1, _, _, by omega, by go_num, rfl, rfl, by have := HF.out; rw [HB1.out, HB2.out] at this; exact this⟩
                  case measure => simp [intOf]; omega
    · obtain rfl : k = n := by omega
      have hlt' : ¬ (k : Int) < (k : Int) := by omega
      have hkl := HL.out
      subst hkl
      have HS1 := Lib.hid (fun (r : Nat) (hr : LeastIs l r) => hat.done hr)
      have HS2 := Lib.hid (fun (r : Nat) (hr : MostIs l r) => hat.doneM hr)
      clear hat
      go_wp2_with fail
      refine HLe.out.mono ?_
      rintro e w1 ⟨r, hr, rfl, rfl⟩
      go_wp2_with fail
      refine (HEx.out _ _ (HS1.out r hr) _).mono ?_
      rintro e w1 ⟨rfl, rfl⟩
      go_wp2_with fail
      refine HWo.out.mono ?_
      rintro e w2 ⟨r2, hr2, rfl, hb2⟩
      go_wp2_with fail
      refine (HEx.out _ _ (HS2.out r2 hr2) _).mono ?_
      rintro e w3 ⟨rfl, rfl⟩
      go_wp2
      go_ret
      exact ⟨rfl, hbW.trans (hb2.mono hbW.size)⟩
theorem law_lists (A : Option Addr) (n c : Nat) (l : List Nat) (w : World) (h : Reads w w.heap.size 1 A n (l.map fV)) (hcap : n ≤ c) (hl : words l) (hT : Lib.TabIs Tryd.prog w "internal/strconv.uint64pow10" .u64 Lib.pow10Tab) :
    Calls Tryd.prog 5 #[.slice A n c] w (SaysTrue w) := by
  by_cases hn : 100 < n
  · exact lists_long A n c w hn hT
  · exact lists_few A n c l w h hcap (by omega) hl hT
end Go.Proofs.YtgpkekdbohdbfaaDoor
