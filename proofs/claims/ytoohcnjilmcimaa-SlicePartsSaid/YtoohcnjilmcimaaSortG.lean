/- The sort of the library at uint64: pdqsortOrdered, Sort: the range comes back sorted and permuted. -/
import Derived.Test.YtoohcnjilmcimaaSortC
import Derived.Test.YtoohcnjilmcimaaSortD
import Derived.Test.YtoohcnjilmcimaaSortE
import Derived.Test.YtoohcnjilmcimaaSortF
import Derived.Sort.AssemblyPlain
namespace Go.Proofs.Ytoohcnjilmcimaa
open Go.RowKit Go.Sort

theorem swo_int : SWO ltInt := ⟨fun x => by simp [ltInt], fun x y z h1 h2 => by simp [ltInt] at *; omega, fun x y z h1 h2 => by simp [ltInt] at *; omega⟩
/-- the range is left to the sort: so it stands; and who sorts it has sorted all -/
structure PdqAt (w : World) (blk off : Nat) (d : Array Int) (a b a' b' : Nat) (dk : Array Int) (wr : World) : Prop where
  row : RowNow w blk off d dk wr
  low : Go.Sort.Below ltInt a' b' dk
  fin : ∀ R, PermIn a' b' dk R → SortedIn ltInt a' b' R → PermIn a b d R ∧ SortedIn ltInt a b R
theorem PdqAt.step {w wr w1 : World} {blk off : Nat} {d dk d1 : Array Int} {a b a' b' : Nat} (h : PdqAt w blk off d a b a' b' dk wr) (hb : blk < w.heap.size) (hs : b' ≤ d.size) (hp : PermIn a' b' dk d1) (hr : RowNow wr blk off dk d1 w1) : PdqAt w blk off d a b a' b' d1 w1 :=
  ⟨h.row.trans hb hr, h.low.perm (by rw [h.row.1]; exact hs) hp, fun R h1 h2 => h.fin R (permIn_trans _ _ _ _ _ hp h1) h2⟩
/-- what the sort leaves -/
def SortPost (w : World) (blk off : Nat) (d : Array Int) (a b : Nat) (e : Ending) (w' : World) : Prop :=
  e = .returned (.tuple #[]) ∧ ∃ d', RowNow w blk off d d' w' ∧ PermIn a b d d' ∧ SortedIn ltInt a b d'
theorem PdqAt.done {w wr w1 : World} {blk off : Nat} {d dk d1 : Array Int} {a b a' b' : Nat} (h : PdqAt w blk off d a b a' b' dk wr) (hb : blk < w.heap.size) (hp : PermIn a' b' dk d1) (hs : SortedIn ltInt a' b' d1) (hr : RowNow wr blk off dk d1 w1) : SortPost w blk off d a b (.returned (.tuple #[])) w1 :=
  ⟨rfl, d1, h.row.trans hb hr, (h.fin _ hp hs).1, (h.fin _ hp hs).2⟩

set_option maxHeartbeats 8000000 in
set_option maxRecDepth 1000000 in
theorem pdq_u64 : ∀ (N blk off cap a b limit : Nat) (d : Array Int) (w : World), b - a < N → Holds (Value.int .u64) w blk off d → blk < w.heap.size → a ≤ b → b ≤ d.size → d.size < 4611686018427387904 → limit < 4611686018427387904 → Go.Sort.Below ltInt a b d →
    Calls Try.prog 36 #[.slice (some ⟨blk, off, none⟩) d.size cap, .int .i64 a, .int .i64 b, .int .i64 limit] w (SortPost w blk off d a b) := by
  intro N
  induction N with
  | zero => intro _ _ _ _ _ _ _ _ h; exact absurd h (Nat.not_lt_zero _)
  | succ N ih =>
    intro blk off cap a b limit d w hN hH hblk hab hb hsz hlimit hBel
    have HH := Lib.hid hH
    have HS := Lib.hid (show PdqAt w blk off d a b a b d w from ⟨RowNow.start hH, hBel, fun R h1 h2 => ⟨h1, h2⟩⟩)
    have IH := Lib.hid ih
    clear hH hBel ih
    go_enter Try.func36, Try.ntmps36
    go_wp2
    go_loopg [1, 2, 3, 8, 9] (b - a) (fun k s1 s2 s3 s8 s9 wr => ∃ (a' b' lim : Nat) (wb wp : Bool) (dk : Array Int), s1 = .int .i64 a' ∧ s2 = .int .i64 b' ∧ s3 = .int .i64 lim ∧ s8 = .bool wb ∧ s9 = .bool wp ∧
      a' ≤ b' ∧ b' ≤ d.size ∧ b' - a' ≤ k ∧ k ≤ b - a ∧ lim ≤ limit ∧ Hid (PdqAt w blk off d a b a' b' dk wr))
    case atStart => exact ⟨a, b, limit, true, true, d, rfl, rfl, rfl, rfl, rfl, hab, hb, Nat.le_refl _, Nat.le_refl _, Nat.le_refl _, HS⟩
    case round =>
      obtain ⟨a', b', lim, wb, wp, dk, rfl, rfl, rfl, rfl, rfl, hab', hb', hk, hkN, hlim, HP⟩ := hrel
      have hcall := fun (X : World) (dx : Array Int) (h : PdqAt w blk off d a b a' b' dx X) => And.intro (h.row.holds hblk HH.out) (And.intro (h.row.lt hblk) h.row.1)
      have HCall := Lib.hid hcall
      clear hcall
      by_cases h12 : b' - a' ≤ 12
      · have h12z : (b' : Int) - (a' : Int) ≤ 12 := by omega
        obtain ⟨c1, c2, c3⟩ := HCall.out wr dk HP.out
        have hc := insertion_u64 blk off cap a' b' dk wr c1 c2 hab' (by omega) (by omega)
        rw [c3] at hc
        have HC := Lib.hid hc
        have hst := insertionSort_holds swo_int dk a' b' hab' (by omega)
        have HST := Lib.hid hst
        clear hc c1 hst
        go_wp2_with fail
        refine HC.out.mono ?_
        rintro e w1 ⟨rfl, hw1⟩
        go_wp2
        (try simp only [Exit.inBlock, Exit.then])
        refine bodyPost_ret (results_none rfl _ _ _) rfl ?_
        exact HP.out.done hblk HST.out.1 HST.out.2 hw1
      · have h12z : ¬ ((b' : Int) - (a' : Int) ≤ 12) := by omega
        by_cases hl0 : lim = 0
        · subst hl0
          obtain ⟨c1, c2, c3⟩ := HCall.out wr dk HP.out
          have hc := heap_u64 blk off cap a' b' dk wr c1 c2 hab' (by omega) (by omega)
          rw [c3] at hc
          have HC := Lib.hid hc
          have HST := Lib.hid (heapSort_holds swo_int dk a' b' hab' (by omega))
          clear hc c1
          go_wp2_with fail
          refine HC.out.mono ?_
          rintro e w1 ⟨rfl, hw1⟩
          go_wp2
          (try simp only [Exit.inBlock, Exit.then])
          refine bodyPost_ret (results_none rfl _ _ _) rfl ?_
          exact HP.out.done hblk HST.out.1 HST.out.2 hw1
        · have hl0z : ((lim : Int) == 0) = false := by rw [beq_eq_false_iff_ne]; omega
          go_upto_if 35 with fail
          go_cut [3] from 19 to 133 (fun s3 wc => ∃ (lim1 : Nat) (d1 : Array Int), s3 = .int .i64 lim1 ∧ lim1 ≤ limit ∧ Hid (PdqAt w blk off d a b a' b' d1 wc))
          case first =>
            cases wb with
            | false =>
              obtain ⟨c1, c2, c3⟩ := HCall.out wr dk HP.out
              have hc := break_u64 blk off cap a' b' dk wr c1 c2 hab' (by omega) (by omega)
              rw [c3] at hc
              have HC := Lib.hid hc
              clear hc c1
              go_wp2_with fail
              refine HC.out.mono ?_
              rintro e w1 ⟨rfl, d1, hw1, hp1⟩
              go_wp2
              go_meet
              case rel => exact ⟨lim - 1, d1, by congr 1; omega, by omega, Lib.hid (HP.out.step hblk hb' hp1 hw1)⟩
            | true =>
              go_wp2
              go_meet
              case rel => exact ⟨lim, dk, rfl, hlim, HP⟩
          case rest =>
            obtain ⟨lim1, d1, rfl, hlim1, HP1⟩ := hcut
            clear HP
            obtain ⟨c1, c2, c3⟩ := HCall.out wc d1 HP1.out
            have hc := pivot_u64 blk off cap a' b' d1 wc c1 c2 (by omega) (by omega) (by omega)
            rw [c3] at hc
            have HC := Lib.hid hc
            clear hc c1
            go_upto_if 50 with (go_at_call 44; refine HC.out.mono ?_; rintro e w2 ⟨pv, ht, rfl, hp1, hp2, hh2, hw2⟩)
            have HP2 := Lib.hid (HP1.out.step hblk hb' (permIn_refl _ _ _) hw2)
            clear HP1 HC
            go_cut [11, 12] from 19 to 133 (fun s11 s12 wc => ∃ (p1 h1 : Nat) (d2 : Array Int), s11 = .int .i64 p1 ∧ s12 = .int .i64 h1 ∧ a' ≤ p1 ∧ p1 < b' ∧ Hid (PdqAt w blk off d a b a' b' d2 wc))
            case first =>
              by_cases hd : ht = 2
              · subst hd
                obtain ⟨c1, c2, c3⟩ := HCall.out w2 d1 HP2.out
                have hc := reverse_u64 blk off cap a' b' d1 w2 c1 c2 hab' (by omega) (by omega)
                rw [c3] at hc
                have HC := Lib.hid hc
                have HST := Lib.hid (reverseRange_holds d1 a' b' hab' (by omega))
                clear hc c1
                go_wp2_with fail
                refine HC.out.mono ?_
                rintro e w3 ⟨rfl, hw3⟩
                go_wp2
                go_meet
                case rel => exact ⟨b' - 1 - (pv - a'), 1, _, by congr 1; omega, rfl, by omega, by omega, Lib.hid (HP2.out.step hblk hb' HST.out hw3)⟩
              · have hdz : ((ht : Int) == 2) = false := by rw [beq_eq_false_iff_ne]; omega
                go_wp2
                go_meet
                case rel => exact ⟨pv, ht, d1, rfl, rfl, hp1, hp2, HP2⟩
            case rest =>
              obtain ⟨p1, h1, d2, rfl, rfl, hp3, hp4, HP3⟩ := hcut
              clear HP2
              go_upto_region 15 with fail
              go_cut [68] from 19 to 133 (fun s68 wx => ∃ bb : Bool, s68 = .bool bb ∧ wx = wc)
              case first =>
                cases wb <;> cases wp
                all_goals
                  cases hq : ((h1 : Int) == 1)
                  all_goals
                    go_wp2
                    go_meet
                    case rel => exact ⟨_, rfl, rfl⟩
              case rest =>
                obtain ⟨bb, rfl, rfl⟩ := hcut
                go_upto_if 68 with fail
                go_cut [] from 19 to 133 (fun wx => ∃ d3 : Array Int, Hid (PdqAt w blk off d a b a' b' d3 wx))
                case first =>
                  cases bb with
                  | false =>
                    go_wp2
                    go_meet
                    case rel => exact ⟨d2, HP3⟩
                  | true =>
                    obtain ⟨c1, c2, c3⟩ := HCall.out wc d2 HP3.out
                    have hc := partial_u64 blk off cap a' b' d2 wc c1 c2 (by omega) (by omega) (by omega)
                    rw [c3] at hc
                    obtain ⟨pd, pb, hpi⟩ : ∃ pd pb, partialInsertionSort ltInt d2 a' b' = (pd, pb) := ⟨_, _, rfl⟩
                    have hst := partialInsertionSort_holds swo_int d2 a' b' (by omega) (by omega) HP3.out.low
                    rw [hpi] at hc hst
                    have HC := Lib.hid hc
                    have HST := Lib.hid hst
                    clear hc c1 hst hpi
                    cases pb with
                    | false =>
                      go_wp2_with fail
                      refine HC.out.mono ?_
                      rintro e w3 ⟨rfl, hw3⟩
                      go_wp2
                      go_meet
                      case rel => exact ⟨pd, Lib.hid (HP3.out.step hblk hb' HST.out.1 hw3)⟩
                    | true =>
                      go_wp2_with fail
                      refine HC.out.mono ?_
                      rintro e w3 ⟨rfl, hw3⟩
                      go_wp2
                      (try simp only [Exit.inBlock, Exit.then])
                      refine bodyPost_ret (results_none rfl _ _ _) rfl ?_
                      exact HP3.out.done hblk HST.out.1 (by first | exact HST.out.2 rfl | exact HST.out.2 trivial) hw3
                case rest =>
                  obtain ⟨d3, HP4⟩ := hcut
                  clear HP3
                  obtain ⟨G, hG⟩ : ∃ G : Nat → Int, ∀ t, G t = d3[t]! := ⟨fun t => d3[t]!, fun _ => rfl⟩
                  have hcw : ∀ t, t < d.size → wc.cell? ⟨blk, off + t, none⟩ = some (.int .u64 (G t)) := fun t ht => by rw [hG]; exact HP4.out.row.cell hblk HH.out ht
                  have hfw : ∀ t, t < d.size → wc.frozen? ⟨blk, off + t, none⟩ = false := fun t ht => HP4.out.row.frozen hblk HH.out ht
                  have HG := Lib.hid hG
                  clear hG
                  go_upto_region 17 with fail
                  go_cut [87] from 19 to 133 (fun s87 wx => s87 = .bool (decide (a' > 0) && !ltInt (G (a' - 1)) (G p1)) ∧ Hid (PdqAt w blk off d a b a' b' d3 wx))
                  case first =>
                    rcases Nat.eq_zero_or_pos a' with ha0 | ha0
                    · have ha0z : decide ((a' : Int) > 0) = false := decide_eq_false (by omega)
                      go_quiet (first | (go_at_call 47; refine Calls.quiet_of_same (less_u64 _ _ _)))
                      go_wp2
                      go_meet
                      case rel => exact ⟨by simp [ha0], Lib.hid (HP4.out.step hblk hb' (permIn_refl _ _ _) ((RowNow.start (HP4.out.row.holds hblk HH.out)).drewN nq))⟩
                    · have ha0z : (a' : Int) > 0 := by omega
                      go_quiet (first | (go_at_call 47; refine Calls.quiet_of_same (less_u64 _ _ _)))
                      go_wp2
                      go_meet
                      case rel => exact ⟨by simp [ha0], Lib.hid (HP4.out.step hblk hb' (permIn_refl _ _ _) ((RowNow.start (HP4.out.row.holds hblk HH.out)).drewN nq))⟩
                  case rest =>
                    obtain ⟨rfl, HP5⟩ := hcut
                    clear hcw hfw HP4
                    obtain ⟨c1, c2, c3⟩ := HCall.out wc d3 HP5.out
                    cases h87 : (decide (a' > 0) && !ltInt (G (a' - 1)) (G p1)) with
                    | true =>
                      simp only [Bool.and_eq_true, decide_eq_true_eq, Bool.not_eq_true'] at h87
                      obtain ⟨mid, d4, hx⟩ : ∃ mid d4, partitionEqual ltInt d3 a' b' p1 = (mid, d4) := ⟨_, _, rfl⟩
                      obtain ⟨r1, r2, r3, r4, r5⟩ := round_eq swo_int (partitionEqual_holds ltInt) h87.1 hp3 hp4 (show b' ≤ d3.size by omega) HP5.out.low (by rw [← HG.out, ← HG.out]; exact h87.2) hx
                      have hc := partEq_u64 blk off cap a' b' p1 d3 wc c1 c2 hp3 hp4 (by omega) (by omega)
                      rw [c3, hx] at hc
                      have HC := Lib.hid hc
                      have HR4 := Lib.hid r4
                      have HR5 := Lib.hid r5
                      clear hc c1 hx r4 r5
                      go_wp2_with fail
                      refine HC.out.mono ?_
                      rintro e w7 ⟨rfl, hw7⟩
                      go_wp2
                      go_roundg (b' - mid)
                      case measure => omega
                      case rel => exact ⟨mid, b', lim1, wb, wp, d4, rfl, rfl, rfl, rfl, rfl, r2, hb', Nat.le_refl _, by omega, hlim1, Lib.hid ⟨HP5.out.row.trans hblk hw7, HR4.out, fun R h1 h2 => HP5.out.fin R (HR5.out R h1 h2).1 (HR5.out R h1 h2).2⟩⟩
                    | false =>
                      obtain ⟨mid, ap, d4, hx⟩ : ∃ mid ap d4, partition ltInt d3 a' b' p1 = (mid, ap, d4) := ⟨_, _, _, rfl⟩
                      obtain ⟨r1, r2, r3, r4, r5, r6, r7⟩ := round_part swo_int (partition_holds ltInt) hp3 hp4 (show b' ≤ d3.size by omega) HP5.out.low hx
                      have hc := part_u64 blk off cap a' b' p1 d3 wc c1 c2 hp3 hp4 (by omega) (by omega)
                      rw [c3, hx] at hc
                      have HC := Lib.hid hc
                      have HR4 := Lib.hid r4
                      have HR5 := Lib.hid r5
                      have HR6 := Lib.hid r6
                      have HR7 := Lib.hid r7
                      clear hc c1 hx r4 r5 r6 r7
                      go_upto_if 113 with (go_at_call 49; refine HC.out.mono ?_; rintro e w7 ⟨rfl, hw7⟩)
                      have hrow7 := HP5.out.row.trans hblk hw7
                      by_cases h4 : mid - a' < b' - mid
                      · have h4z : (mid : Int) - (a' : Int) < (b' : Int) - (mid : Int) := by omega
                        have hih := IH.out blk off cap a' mid lim1 d4 w7 (by omega) (hrow7.holds hblk HH.out) (hrow7.lt hblk) (by omega) (by omega) (by omega) (by omega) HR4.out
                        rw [hrow7.1] at hih
                        have HIH := Lib.hid hih
                        clear hih
                        go_wp2_with fail
                        refine HIH.out.mono ?_
                        rintro e w8 ⟨rfl, dL, hw8, pL, sL⟩
                        go_wp2
                        go_roundg (b' - (mid + 1))
                        case measure => omega
                        case rel => exact ⟨mid + 1, b', lim1, _, ap, dL, by simp, rfl, rfl, rfl, rfl, by omega, by omega, Nat.le_refl _, by omega, hlim1, Lib.hid ⟨hrow7.trans hblk hw8, (HR6.out dL pL sL).1, fun R h1 h2 => HP5.out.fin R ((HR6.out dL pL sL).2 R h1 h2).1 ((HR6.out dL pL sL).2 R h1 h2).2⟩⟩
                      · have h4z : ¬ ((mid : Int) - (a' : Int) < (b' : Int) - (mid : Int)) := by omega
                        have hih := IH.out blk off cap (mid + 1) b' lim1 d4 w7 (by omega) (hrow7.holds hblk HH.out) (hrow7.lt hblk) (by omega) (by omega) (by omega) (by omega) HR5.out
                        rw [hrow7.1] at hih
                        have HIH := Lib.hid hih
                        clear hih
                        go_wp2_with fail
                        refine HIH.out.mono ?_
                        rintro e w8 ⟨rfl, dL, hw8, pL, sL⟩
                        go_wp2
                        go_roundg (mid - a')
                        case measure => omega
                        case rel => exact ⟨a', mid, lim1, _, ap, dL, rfl, rfl, rfl, rfl, rfl, by omega, by omega, Nat.le_refl _, by omega, hlim1, Lib.hid ⟨hrow7.trans hblk hw8, (HR7.out dL pL sL).1, fun R h1 h2 => HP5.out.fin R ((HR7.out dL pL sL).2 R h1 h2).1 ((HR7.out dL pL sL).2 R h1 h2).2⟩⟩

set_option maxHeartbeats 1000000 in
/-- slices.Sort of numbers in memory -/
theorem sort_u64 (blk off cap : Nat) (d : Array Int) (w : World) (hH : Holds (Value.int .u64) w blk off d) (hblk : blk < w.heap.size) (hsz : d.size < 4611686018427387904) :
    Calls Try.prog 25 #[.slice (some ⟨blk, off, none⟩) d.size cap] w (SortPost w blk off d 0 d.size) := by
  have hl : ∀ V, Calls Try.prog 37 #[.int .u64 (d.size : Int)] V fun e w' => e = .returned (.int .i64 (bitsLen d.size : Nat)) ∧ w' = V := fun V => by
    have h := Try.bits_Len (d.size : Int) V (by omega) (by omega)
    rwa [Int.toNat_natCast, bitLen_eq _ (by omega)] at h
  have hk : bitsLen d.size ≤ 62 := (bitsLen_le_iff d.size 62).2 (by omega)
  have hp := pdq_u64 (d.size + 1) blk off cap 0 d.size (bitsLen d.size) d w (by omega) hH hblk (by omega) (by omega) hsz (by omega) (Or.inl rfl)
  have HL := Lib.hid hl
  have HP := Lib.hid (show Calls Try.prog 36 #[.slice (some ⟨blk, off, none⟩) d.size cap, .int .i64 0, .int .i64 (d.size : Int), .int .i64 (bitsLen d.size : Nat)] w (SortPost w blk off d 0 d.size) from hp)
  clear hl hp hH
  go_enter Try.func25, Try.ntmps25
  go_wp2_with fail
  refine (HL.out _).mono ?_
  rintro e w' ⟨rfl, rfl⟩
  go_wp2_with fail
  refine HP.out.mono ?_
  rintro e w' ⟨rfl, hw⟩
  go_wp2
  go_end0
  exact ⟨rfl, hw⟩

/-- .. of none -/
theorem insertion_none (p : Option Addr) (cap : Nat) (w : World) : Calls Try.prog 41 #[.slice p 0 cap, .int .i64 0, .int .i64 0] w fun e w' => e = .returned (.tuple #[]) ∧ w' = w := by
  go_enter Try.func41, Try.ntmps41
  go_wp2
  refine wp_loop_rounds 1 ?_
  rw [rounds_succ]
  go_wp2
  go_end0
  exact ⟨rfl, rfl⟩
theorem pdq_none (p : Option Addr) (cap : Nat) (w : World) : Calls Try.prog 36 #[.slice p 0 cap, .int .i64 0, .int .i64 0, .int .i64 0] w fun e w' => e = .returned (.tuple #[]) ∧ w' = w := by
  go_enter Try.func36, Try.ntmps36
  go_wp2
  refine wp_loop_rounds 1 ?_
  rw [rounds_succ]
  go_wp2_with fail
  refine (insertion_none p cap _).mono ?_
  rintro e w' ⟨rfl, rfl⟩
  go_wp2
  (try simp only [Exit.inBlock, Exit.then])
  refine bodyPost_ret (results_none rfl _ _ _) rfl ?_
  exact ⟨rfl, rfl⟩
theorem sort_none (p : Option Addr) (cap : Nat) (w : World) : Calls Try.prog 25 #[.slice p 0 cap] w fun e w' => e = .returned (.tuple #[]) ∧ w' = w := by
  have HL := Lib.hid (fun V => show Calls Try.prog 37 #[.int .u64 0] V (fun e w' => e = .returned (.int .i64 0) ∧ w' = V) from Try.bits_Len 0 V (by omega) (by omega))
  go_enter Try.func25, Try.ntmps25
  go_wp2_with fail
  refine (HL.out _).mono ?_
  rintro e w' ⟨rfl, rfl⟩
  go_wp2_with fail
  refine (pdq_none p cap _).mono ?_
  rintro e w' ⟨rfl, rfl⟩
  go_wp2
  go_end0
  exact ⟨rfl, rfl⟩
end Go.Proofs.Ytoohcnjilmcimaa
