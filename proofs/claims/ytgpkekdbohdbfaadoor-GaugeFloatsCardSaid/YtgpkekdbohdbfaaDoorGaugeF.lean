/- The walk of GaugeFloats. -/
import Derived.Test.YtgpkekdbohdbfaaDoorGaugeE
import Derived.Deep.CutBlock
namespace Go.Proofs.YtgpkekdbohdbfaaDoor
open Go.RowKit AmF AmD

set_option maxHeartbeats 4000000 in
set_option maxRecDepth 100000 in
theorem law_floats (a b : Int) (f : Nat) (hf : f < 18446744073709551616) (w : World) (hT : Lib.TabIs Tryd.prog w "internal/strconv.uint64pow10" .u64 Lib.pow10Tab) (hlow : ∀ W, Below w.heap.size w W → Lib.TabIs Tryd.prog W "internal/strconv.uint64pow10" .u64 Lib.pow10Tab) :
    Calls Tryd.prog 4 #[.int .i64 a, .int .i64 b, .float .f64 f] w (SaysTrue w) := by
  have HA := Lib.hid (alive35 w hT)
  have HLow := Lib.hid hlow
  have HEx := Lib.hid (fun (a b : Nat) (hab : SameF a b) (W : World) => exact_alike a b hab W)
  have HRatio := Lib.hid (fun (W : World) => gauge_Ratio a b W)
  have HClamp := Lib.hid (fun (W : World) => gauge_Clamp f W)
  have HSame := Lib.hid (clamp_same hf)
  have HText := Lib.hid (fun (W : World) (hW : Lib.TabIs Tryd.prog W "internal/strconv.uint64pow10" .u64 Lib.pow10Tab) => gauge_Text f hf W hW)
  have HBare := Lib.hid (fun (W : World) => ref35_Bare f hf W)
  have HFin := Lib.hid hf
  have he := @run_callFunc_extern Tryd.prog 17 _ Extern.MathFloatBits.float64bits Tryd.func17 (by kernel_rfl) (by kernel_rfl) (by kernel_rfl) (by kernel_rfl)
  have hb := fun (b : Nat) (W : World) => show (Extern.MathFloatBits.float64bits #[.float .f64 b]).run Tryd.prog W = .ok (.int .u64 (b : Int)) W from rfl
  have hx' := @run_callFunc_extern Tryd.prog 19 _ Extern.MathFloatBits.float64frombits Tryd.func19 (by kernel_rfl) (by kernel_rfl) (by kernel_rfl) (by kernel_rfl)
  have hfb := fun (n : Nat) (W : World) => show (Extern.MathFloatBits.float64frombits #[.int .u64 (n : Int)]).run Tryd.prog W = .ok (.float .f64 n) W from rfl
  clear hT hlow hf
  go_enter Tryd.func4, Tryd.ntmps4
  go_wp2_with fail
  refine HA.out.mono ?_
  rintro e W ⟨rfl, hbW⟩
  go_upto_if 15 with fail
  obtain ⟨L1, hL1⟩ : ∃ L1, le0 f = L1 := ⟨_, rfl⟩
  have hL1' : (FloatKind.f64.format.order f 0 == some .lt || FloatKind.f64.format.order f 0 == some .eq) = L1 := hL1
  rw [hL1']
  clear hL1'
  have HL1 := Lib.hid hL1
  clear hL1
  go_cut [7] from 16 to 62 (fun v7 wx => v7 = .float .f64 (if L1 then 0 else f) ∧ wx = W)
  case first =>
    cases L1
    · go_wp2
      go_meet
      case rel => exact ⟨rfl, rfl⟩
    · go_wp2
      go_meet
      case rel => exact ⟨rfl, rfl⟩
  case rest =>
    obtain ⟨rfl, rfl⟩ := hcut
    obtain ⟨c1, hc1⟩ : ∃ c1, (if L1 then 0 else f) = c1 := ⟨_, rfl⟩
    rw [hc1]
    have HC1 := Lib.hid hc1
    clear hc1
    go_upto_if 17 with fail
    obtain ⟨L2, hL2⟩ : ∃ L2, gt1 f = L2 := ⟨_, rfl⟩
    have hL2' : (FloatKind.f64.format.order f 4607182418800017408 == some .gt) = L2 := hL2
    rw [hL2']
    clear hL2'
    have HL2 := Lib.hid hL2
    clear hL2
    go_cut [7] from 18 to 62 (fun v7 wx => v7 = .float .f64 (if L2 then 4607182418800017408 else c1) ∧ wx = wc)
    case first =>
      cases L2
      · go_wp2
        go_meet
        case rel => exact ⟨rfl, rfl⟩
      · go_wp2
        go_meet
        case rel => exact ⟨rfl, rfl⟩
    case rest =>
      obtain ⟨rfl, rfl⟩ := hcut
      have HS := Lib.hid (show SameF (clampG f) (if L2 then 4607182418800017408 else c1) from by
        have := HSame.out
        rw [HL1.out, HL2.out] at this
        unfold clampL at this
        rw [HC1.out] at this
        exact this)
      obtain ⟨c2, hc2⟩ : ∃ c2, (if L2 then 4607182418800017408 else c1) = c2 := ⟨_, rfl⟩
      rw [hc2] at HS ⊢
      clear hc2 HSame HL1 HL2 HC1
      go_wp2_with fail
      refine (HBare.out _).mono ?_
      rintro e w1 ⟨rfl, rfl⟩
      obtain ⟨sT, hsT⟩ : ∃ sT : ByteArray, (⟨(textF f).toArray⟩ : ByteArray) = sT := ⟨_, rfl⟩
      have HST := Lib.hid hsT
      clear hsT
      go_upto_block 0 with fail
      go_cut [8] from 28 to 62 (fun v8 wx => v8 = .string sT ∧ Below wc.heap.size wc wx)
      case first =>
        have HN := Lib.hid (neq_self f)
        cases hn : nanB f with
        | true =>
          have q0 : (FloatKind.f64.format.order f f != some .eq) = true := HN.out.trans hn
          have HV := Lib.hid (show textF f = [110, 97, 110] from by unfold textF; rw [hn]; rfl)
          clear hn
          go_wp2
          go_meet
          case rel => exact ⟨by rw [← HST.out, HV.out], Below.refl _ _⟩
        | false =>
          have q0 : (FloatKind.f64.format.order f f != some .eq) = false := HN.out.trans hn
          have HP := Lib.hid (fun (W : World) => math_IsInf_pos f W hn)
          have HM := Lib.hid (fun (W : World) => math_IsInf_neg f HFin.out W hn)
          cases hp : infS false f with
          | true =>
            rw [hp] at HP
            have HV := Lib.hid (show textF f = [43, 105, 110, 102] from by unfold textF; rw [hn, hp]; rfl)
            clear hn hp
            go_wp2_with fail
            refine (HP.out _).mono ?_
            rintro e w1 ⟨rfl, rfl⟩
            go_wp2
            go_meet
            case rel => exact ⟨by rw [← HST.out, HV.out], Below.refl _ _⟩
          | false =>
            rw [hp] at HP
            cases hm : infS true f with
            | true =>
              rw [hm] at HM
              have HV := Lib.hid (show textF f = [45, 105, 110, 102] from by unfold textF; rw [hn, hp, hm]; rfl)
              clear hn hp hm
              go_wp2_with fail
              refine (HP.out _).mono ?_
              rintro e w1 ⟨rfl, rfl⟩
              go_wp2_with fail
              refine (HM.out _).mono ?_
              rintro e w1 ⟨rfl, rfl⟩
              go_wp2
              go_meet
              case rel => exact ⟨by rw [← HST.out, HV.out], Below.refl _ _⟩
            | false =>
              rw [hm] at HM
              have hnr : nanB (rung f) = false := by rw [nan_rung]; exact hn
              have G1 := Lib.hid (gt_key hnr nan_w12)
              have G2 := Lib.hid (eq_key hnr nan_w12)
              rw [key_rung, key_w12] at G1 G2
              by_cases hg : 4786511204640096256 ≤ rung f
              · have HV := Lib.hid (show textF f = [126] from by unfold textF; rw [hn, hp, hm, if_pos hg]; rfl)
                by_cases hgt : 4786511204640096256 < rung f
                · have q1 : (FloatKind.f64.format.order (rung f) 4786511204640096256 == some .gt) = true := by rw [G1.out]; simp; omega
                  clear hn hp hm hnr hg hgt
                  go_wp2_with fail
                  refine (HP.out _).mono ?_
                  rintro e w1 ⟨rfl, rfl⟩
                  go_wp2_with fail
                  refine (HM.out _).mono ?_
                  rintro e w1 ⟨rfl, rfl⟩
                  go_wp2
                  go_meet
                  case rel => exact ⟨by rw [← HST.out, HV.out], Below.refl _ _⟩
                · have q1 : (FloatKind.f64.format.order (rung f) 4786511204640096256 == some .gt) = false := by rw [G1.out]; simp; omega
                  have q2 : (FloatKind.f64.format.order (rung f) 4786511204640096256 == some .eq) = true := by rw [G2.out]; simp; omega
                  clear hn hp hm hnr hg hgt
                  go_wp2_with fail
                  refine (HP.out _).mono ?_
                  rintro e w1 ⟨rfl, rfl⟩
                  go_wp2_with fail
                  refine (HM.out _).mono ?_
                  rintro e w1 ⟨rfl, rfl⟩
                  go_wp2
                  go_meet
                  case rel => exact ⟨by rw [← HST.out, HV.out], Below.refl _ _⟩
              · have HV := Lib.hid (show textF f = sgnT (sgn f) ++ milli (rounded (times (rung f))) from by unfold textF; rw [hn, hp, hm]; simp only [Bool.false_eq_true, if_false]; rw [if_neg hg])
                have q1 : (FloatKind.f64.format.order (rung f) 4786511204640096256 == some .gt) = false := by rw [G1.out]; simp; omega
                have q2 : (FloatKind.f64.format.order (rung f) 4786511204640096256 == some .eq) = false := by rw [G2.out]; simp; omega
                have HRT := Lib.hid (fun (W : World) => ref35_Text (rung f) (by omega) (sgn f) W)
                clear hn hp hm hnr hg
                go_wp2_with fail
                refine (HP.out _).mono ?_
                rintro e w1 ⟨rfl, rfl⟩
                go_wp2_with fail
                refine (HM.out _).mono ?_
                rintro e w1 ⟨rfl, rfl⟩
                go_wp2_with fail
                refine (HRT.out _).mono ?_
                rintro e w1 ⟨rfl, hb1⟩
                go_wp2
                go_meet
                case rel => exact ⟨by rw [← HST.out, HV.out]; rfl, hb1⟩
      case rest =>
        obtain ⟨rfl, hbt⟩ := hcut
        have hbw := hbW.trans (hbt.mono hbW.size)
        have HTx := Lib.hid (fun (W : World) (hW : Below w.heap.size w W) => show Calls Tryd.prog 24 #[.float .f64 f] W (fun e w' => e = .returned (.string sT) ∧ Below W.heap.size W w') from by have := HText.out W (HLow.out W hW); unfold strV at this; rw [HST.out] at this; exact this)
        have hca := run_int_float a
        have hcb := run_int_float b
        go_wp2_with fail
        refine (HRatio.out _).mono ?_
        rintro e w1 ⟨r, hr, rfl, hb1⟩
        have hbw1 := hbw.trans (hb1.mono hbw.size)
        obtain ⟨r2, w2, hop, hq, hb2⟩ := run_quo (floatOfInt .f64 a) (floatOfInt .f64 b) 43 w1
        have hbw2 := hbw1.trans (hb2.mono hbw1.size)
        have HQ := Lib.hid (quo_same hr hq)
        clear hr hq
        go_wp2_with fail
        refine (HEx.out _ _ HQ.out _).mono ?_
        rintro e w3 ⟨rfl, rfl⟩
        go_wp2_with fail
        refine (HClamp.out _).mono ?_
        rintro e w3 ⟨rfl, rfl⟩
        go_wp2_with fail
        refine (HEx.out _ _ HS.out _).mono ?_
        rintro e w3 ⟨rfl, rfl⟩
        go_wp2_with fail
        refine (HTx.out _ hbw2).mono ?_
        rintro e w3 ⟨rfl, hb3⟩
        go_wp2
        go_ret
        exact ⟨by simp, hbw2.trans (hb3.mono hbw2.size)⟩
end Go.Proofs.YtgpkekdbohdbfaaDoor
