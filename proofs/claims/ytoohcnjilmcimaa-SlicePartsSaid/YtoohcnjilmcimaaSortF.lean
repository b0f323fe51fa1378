/- The sort of the library at uint64: partitionEqualOrdered, partitionOrdered: by their contracts, in the words of the library's plain sort. -/
import Derived.Test.YtoohcnjilmcimaaSortB
import Derived.Sort.WalkC4
import Derived.Deep.CutRange
import Derived.Deep.CutBlock
namespace Go.Proofs.Ytoohcnjilmcimaa
open Go.RowKit Go.Sort

set_option maxHeartbeats 4000000 in
set_option maxRecDepth 100000 in
theorem partEq_u64 (blk off cap a b pivot : Nat) (d : Array Int) (w : World) (hH : Holds (Value.int .u64) w blk off d) (hblk : blk < w.heap.size) (hap : a ≤ pivot) (hpb : pivot < b) (hb : b ≤ d.size) (hsz : d.size < 4611686018427387904) :
    Calls Try.prog 48 #[.slice (some ⟨blk, off, none⟩) d.size cap, .int .i64 a, .int .i64 b, .int .i64 pivot] w fun e w' =>
      e = .returned (.int .i64 (partitionEqual ltInt d a b pivot).1) ∧ RowNow w blk off d (partitionEqual ltInt d a b pivot).2 w' := by
  have HH := Lib.hid hH
  have HS := Lib.hid (RowNow.start hH)
  clear hH
  obtain ⟨R, hR⟩ : ∃ R, partitionEqual ltInt d a b pivot = R := ⟨_, rfl⟩
  rw [hR]
  have HQ := Lib.hid (show partEqLoop ltInt a (a + 1) (b - 1) (swp d a pivot) = R from hR)
  clear hR
  go_enter Try.func48, Try.ntmps48
  go_upto_region 1 with fail
  go_cut [] from 11 to 83 (fun wx => Hid (RowNow w blk off d (swp d (a) (pivot)) wx))
  case first =>
    obtain ⟨G, hG⟩ : ∃ G : Nat → Int, ∀ t, G t = d[t]! := ⟨fun t => d[t]!, fun _ => rfl⟩
    have hcw : ∀ t, t < d.size → w.cell? ⟨blk, off + t, none⟩ = some (.int .u64 (G t)) := fun t ht => by rw [hG]; exact HS.out.cell hblk HH.out ht
    have hfw : ∀ t, t < d.size → w.frozen? ⟨blk, off + t, none⟩ = false := fun t ht => HS.out.frozen hblk HH.out ht
    have HG := Lib.hid hG
    clear hG
    by_cases hxy : a = pivot
    · have hxz : (a : Int) = (pivot : Int) := by omega
      clear hxz
      subst hxy
      go_region
      go_wp2
      go_meet
      case rel => exact Lib.hid (HS.out.swap1 hblk (j := a) (k := a) (by omega) (by omega) (HG.out _) (HG.out _))
    · go_region
      go_wp2
      go_meet
      case rel => exact Lib.hid (HS.out.swap1 hblk (j := a) (k := pivot) (by omega) (by omega) (HG.out _) (HG.out _))
  case rest =>
    have HS1 := hcut
    clear hcut
    go_wp2
    go_loopw [9, 10] (fun vi vj wr => ∃ (i j : Nat) (dk : Array Int), vi = .int .i64 i ∧ vj = .int .i64 j ∧ a < i ∧ i ≤ j + 1 ∧ j < b ∧ Hid (RowNow w blk off d dk wr) ∧ Hid (partEqLoop ltInt a i j dk = R)) (fun vi vj _ => (intOf vj).toNat + 1 - (intOf vi).toNat)
    case atStart => exact ⟨a + 1, b - 1, swp d a pivot, by go_num, by congr 1 <;> omega, by omega, by omega, by omega, HS1, HQ⟩
    case round =>
      obtain ⟨i, j, dk, rfl, rfl, hai, hij, hjb, HR, HE⟩ := hrel
      go_upto_block 2 with fail
      go_cut [9] from 29 to 82 (fun vi wx => ∃ i' : Nat, vi = .int .i64 i' ∧ i ≤ i' ∧ i' ≤ j + 1 ∧ Hid (RowNow w blk off d dk wx) ∧ Hid (i' = scanUp (fun x => !ltInt dk[a]! x) dk j i))
      case first =>
        have HS0 := HR
        clear HR
        obtain ⟨G, hG⟩ : ∃ G : Nat → Int, ∀ t, G t = dk[t]! := ⟨fun t => dk[t]!, fun _ => rfl⟩
        have HG := Lib.hid hG
        clear hG
        go_wp2_with fail
        go_loopw [9] (fun vi wx => ∃ i' : Nat, vi = .int .i64 i' ∧ i ≤ i' ∧ i' ≤ j + 1 ∧ Hid (RowNow w blk off d dk wx) ∧ Hid (scanUp (fun x => !ltInt dk[a]! x) dk j i' = scanUp (fun x => !ltInt dk[a]! x) dk j i)) (fun vi _ => j + 1 - (intOf vi).toNat)
        case atStart => exact ⟨i, rfl, Nat.le_refl _, by omega, HS0, Lib.hid rfl⟩
        case round =>
          obtain ⟨i', rfl, hii, hij', HJ, HC⟩ := hrel
          have hcw : ∀ t, t < d.size → wr.cell? ⟨blk, off + t, none⟩ = some (.int .u64 (G t)) := fun t ht => by rw [HG.out]; exact HJ.out.cell hblk HH.out ht
          have hfw : ∀ t, t < d.size → wr.frozen? ⟨blk, off + t, none⟩ = false := fun t ht => HJ.out.frozen hblk HH.out ht
          by_cases hle : i' ≤ j
          · have hle' : (i' : Int) ≤ (j : Int) := by omega
            cases hl : ltInt (G a) (G i') with
            | false =>
              have HN := Lib.hid ((scanUp_go (fun x => !ltInt dk[a]! x) dk j i' hle (by simp only [← HG.out]; rw [hl]; rfl)).symm.trans HC.out)
              go_wp2_with fail
              go_quiet (first | (go_at_call 47; refine Calls.quiet_of_same (less_u64 _ _ _)))
              go_wp2
              go_roundw
              case rel => exact ⟨i' + 1, by go_num, by omega, by omega, Lib.hid (HJ.out.drewN nq), HN⟩
              case measure => simp [intOf]; omega
            | true =>
              have HN := Lib.hid ((scanUp_end (fun x => !ltInt dk[a]! x) dk j i' (Or.inr (by simp only [← HG.out]; rw [hl]; rfl))).symm.trans HC.out)
              go_wp2_with fail
              go_quiet (first | (go_at_call 47; refine Calls.quiet_of_same (less_u64 _ _ _)))
              go_wp2
              go_meet
              case rel => exact ⟨i', rfl, hii, hij', Lib.hid (HJ.out.drewN nq), HN⟩
          · have hle' : decide ((i' : Int) ≤ (j : Int)) = false := decide_eq_false (by omega)
            have HN := Lib.hid ((scanUp_end (fun x => !ltInt dk[a]! x) dk j i' (Or.inl hle)).symm.trans HC.out)
            go_wp2_with fail
            go_quiet (first | (go_at_call 47; refine Calls.quiet_of_same (less_u64 _ _ _)))
            go_wp2
            go_meet
            case rel => exact ⟨i', rfl, hii, hij', Lib.hid (HJ.out.drewN nq), HN⟩
      case rest =>
        obtain ⟨i2, rfl, hU1, hU2, HR2, HU⟩ := hcut
        clear HR
        go_upto_block 4 with fail
        go_cut [10] from 29 to 82 (fun vj wx => ∃ j' : Nat, vj = .int .i64 j' ∧ j' ≤ j ∧ i2 ≤ j' + 1 ∧ Hid (RowNow w blk off d dk wx) ∧ Hid (j' = scanDown (fun x => ltInt dk[a]! x) dk i2 j))
        case first =>
          have HS0 := HR2
          clear HR2
          obtain ⟨G, hG⟩ : ∃ G : Nat → Int, ∀ t, G t = dk[t]! := ⟨fun t => dk[t]!, fun _ => rfl⟩
          have HG := Lib.hid hG
          clear hG
          go_wp2_with fail
          go_loopw [10] (fun vj wx => ∃ j' : Nat, vj = .int .i64 j' ∧ j' ≤ j ∧ i2 ≤ j' + 1 ∧ Hid (RowNow w blk off d dk wx) ∧ Hid (scanDown (fun x => ltInt dk[a]! x) dk i2 j' = scanDown (fun x => ltInt dk[a]! x) dk i2 j)) (fun vj _ => (intOf vj).toNat)
          case atStart => exact ⟨j, rfl, Nat.le_refl _, hU2, HS0, Lib.hid rfl⟩
          case round =>
            obtain ⟨j', rfl, hjj, hij', HJ, HC⟩ := hrel
            have hcw : ∀ t, t < d.size → wr.cell? ⟨blk, off + t, none⟩ = some (.int .u64 (G t)) := fun t ht => by rw [HG.out]; exact HJ.out.cell hblk HH.out ht
            have hfw : ∀ t, t < d.size → wr.frozen? ⟨blk, off + t, none⟩ = false := fun t ht => HJ.out.frozen hblk HH.out ht
            by_cases hle : i2 ≤ j'
            · have hle' : (i2 : Int) ≤ (j' : Int) := by omega
              cases hl : ltInt (G a) (G j') with
              | true =>
                have HN := Lib.hid ((scanDown_go (fun x => ltInt dk[a]! x) dk i2 j' hle (by omega) (by simp only [← HG.out]; rw [hl])).symm.trans HC.out)
                go_wp2_with fail
                go_quiet (first | (go_at_call 47; refine Calls.quiet_of_same (less_u64 _ _ _)))
                go_wp2
                go_roundw
                case rel => exact ⟨j' - 1, by congr 1 <;> omega, by omega, by omega, Lib.hid (HJ.out.drewN nq), HN⟩
                case measure => simp [intOf]; omega
              | false =>
                have HN := Lib.hid ((scanDown_end (fun x => ltInt dk[a]! x) dk i2 j' (Or.inr (by simp only [← HG.out]; rw [hl]))).symm.trans HC.out)
                go_wp2_with fail
                go_quiet (first | (go_at_call 47; refine Calls.quiet_of_same (less_u64 _ _ _)))
                go_wp2
                go_meet
                case rel => exact ⟨j', rfl, hjj, hij', Lib.hid (HJ.out.drewN nq), HN⟩
            · have hle' : decide ((i2 : Int) ≤ (j' : Int)) = false := decide_eq_false (by omega)
              have HN := Lib.hid ((scanDown_end (fun x => ltInt dk[a]! x) dk i2 j' (Or.inl hle)).symm.trans HC.out)
              go_wp2_with fail
              go_quiet (first | (go_at_call 47; refine Calls.quiet_of_same (less_u64 _ _ _)))
              go_wp2
              go_meet
              case rel => exact ⟨j', rfl, hjj, hij', Lib.hid (HJ.out.drewN nq), HN⟩
        case rest =>
          obtain ⟨j2, rfl, hD1, hD2, HR3, HD⟩ := hcut
          clear HR2
          by_cases hgt : j2 < i2
          · have hgt' : (i2 : Int) > (j2 : Int) := by omega
            have HX := Lib.hid (show R = (i2, dk) from by rw [← HE.out]; exact partEq_break ltInt a i j dk HU.out HD.out hgt)
            go_wp2
            go_ret
            exact ⟨by rw [HX.out]; rfl, by rw [HX.out]; exact HR3.out⟩
          · have hgt' : ¬ (i2 : Int) > (j2 : Int) := by omega
            have hlt3 := scans_lt ltInt a i j dk (by omega) HU.out HD.out (by omega)
            have HX := Lib.hid (show partEqLoop ltInt a (i2 + 1) (j2 - 1) (swp dk i2 j2) = R from by rw [← HE.out]; exact (partEq_go ltInt a i j dk HU.out HD.out (by omega)).symm)
            obtain ⟨G, hG⟩ : ∃ G : Nat → Int, ∀ t, G t = dk[t]! := ⟨fun t => dk[t]!, fun _ => rfl⟩
            have hcw : ∀ t, t < d.size → wc.cell? ⟨blk, off + t, none⟩ = some (.int .u64 (G t)) := fun t ht => by rw [hG]; exact HR3.out.cell hblk HH.out ht
            have hfw : ∀ t, t < d.size → wc.frozen? ⟨blk, off + t, none⟩ = false := fun t ht => HR3.out.frozen hblk HH.out ht
            have HG := Lib.hid hG
            clear hG
            go_wp2_with fail
            go_region
            go_wp2
            go_roundw
            case rel => exact ⟨i2 + 1, j2 - 1, swp dk i2 j2, by go_num, by congr 1 <;> omega, by omega, by omega, by omega, Lib.hid (HR3.out.swap1 hblk (by omega) (by omega) (HG.out _) (HG.out _)), HX⟩
            case measure => simp [intOf]; omega

set_option maxHeartbeats 8000000 in
set_option maxRecDepth 100000 in
theorem part_u64 (blk off cap a b pivot : Nat) (d : Array Int) (w : World) (hH : Holds (Value.int .u64) w blk off d) (hblk : blk < w.heap.size) (hap : a ≤ pivot) (hpb : pivot < b) (hb : b ≤ d.size) (hsz : d.size < 4611686018427387904) :
    Calls Try.prog 49 #[.slice (some ⟨blk, off, none⟩) d.size cap, .int .i64 a, .int .i64 b, .int .i64 pivot] w fun e w' =>
      e = .returned (.tuple #[.int .i64 (partition ltInt d a b pivot).1, .bool (partition ltInt d a b pivot).2.1]) ∧ RowNow w blk off d (partition ltInt d a b pivot).2.2 w' := by
  have HH := Lib.hid hH
  have HS := Lib.hid (RowNow.start hH)
  clear hH
  obtain ⟨R, hR⟩ : ∃ R, partition ltInt d a b pivot = R := ⟨_, rfl⟩
  rw [hR]
  have HQ := Lib.hid hR
  clear hR
  go_enter Try.func49, Try.ntmps49
  go_upto_region 1 with fail
  go_cut [] from 12 to 167 (fun wx => Hid (RowNow w blk off d (swp d (a) (pivot)) wx))
  case first =>
    obtain ⟨G, hG⟩ : ∃ G : Nat → Int, ∀ t, G t = d[t]! := ⟨fun t => d[t]!, fun _ => rfl⟩
    have hcw : ∀ t, t < d.size → w.cell? ⟨blk, off + t, none⟩ = some (.int .u64 (G t)) := fun t ht => by rw [hG]; exact HS.out.cell hblk HH.out ht
    have hfw : ∀ t, t < d.size → w.frozen? ⟨blk, off + t, none⟩ = false := fun t ht => HS.out.frozen hblk HH.out ht
    have HG := Lib.hid hG
    clear hG
    by_cases hxy : a = pivot
    · have hxz : (a : Int) = (pivot : Int) := by omega
      clear hxz
      subst hxy
      go_region
      go_wp2
      go_meet
      case rel => exact Lib.hid (HS.out.swap1 hblk (j := a) (k := a) (by omega) (by omega) (HG.out _) (HG.out _))
    · go_region
      go_wp2
      go_meet
      case rel => exact Lib.hid (HS.out.swap1 hblk (j := a) (k := pivot) (by omega) (by omega) (HG.out _) (HG.out _))
  case rest =>
    have HS1 := hcut
    clear hcut
    clear HS
    obtain ⟨dk, hdk⟩ : ∃ dk, dk = swp d a pivot := ⟨_, rfl⟩
    rw [← hdk] at HS1
    have HDK := Lib.hid hdk
    obtain ⟨i, hi⟩ : ∃ i, i = a + 1 := ⟨_, rfl⟩
    obtain ⟨j, hj⟩ : ∃ j, j = b - 1 := ⟨_, rfl⟩
    have ei : (a : Int) + 1 = (i : Int) := by omega
    have ej : (b : Int) - 1 = (j : Int) := by omega
    have HI := Lib.hid hi
    have HJ0 := Lib.hid hj
    have hai : a < i := by omega
    have hij : i ≤ j + 1 := by omega
    have hjb : j < b := by omega
    clear hdk hi hj
    go_upto_block 0 with fail
    go_cut [10] from 12 to 167 (fun vi wx => ∃ i' : Nat, vi = .int .i64 i' ∧ i ≤ i' ∧ i' ≤ j + 1 ∧ Hid (RowNow w blk off d dk wx) ∧ Hid (i' = scanUp (fun x => ltInt x dk[a]!) dk j i))
    case first =>
      have HS0 := HS1
      clear HS1
      obtain ⟨G, hG⟩ : ∃ G : Nat → Int, ∀ t, G t = dk[t]! := ⟨fun t => dk[t]!, fun _ => rfl⟩
      have HG := Lib.hid hG
      clear hG
      go_wp2_with fail
      go_loopw [10] (fun vi wx => ∃ i' : Nat, vi = .int .i64 i' ∧ i ≤ i' ∧ i' ≤ j + 1 ∧ Hid (RowNow w blk off d dk wx) ∧ Hid (scanUp (fun x => ltInt x dk[a]!) dk j i' = scanUp (fun x => ltInt x dk[a]!) dk j i)) (fun vi _ => j + 1 - (intOf vi).toNat)
      case atStart => exact ⟨i, rfl, Nat.le_refl _, by omega, HS0, Lib.hid rfl⟩
      case round =>
        obtain ⟨i', rfl, hii, hij', HJ, HC⟩ := hrel
        have hcw : ∀ t, t < d.size → wr.cell? ⟨blk, off + t, none⟩ = some (.int .u64 (G t)) := fun t ht => by rw [HG.out]; exact HJ.out.cell hblk HH.out ht
        have hfw : ∀ t, t < d.size → wr.frozen? ⟨blk, off + t, none⟩ = false := fun t ht => HJ.out.frozen hblk HH.out ht
        by_cases hle : i' ≤ j
        · have hle' : (i' : Int) ≤ (j : Int) := by omega
          cases hl : ltInt (G i') (G a) with
          | true =>
            have HN := Lib.hid ((scanUp_go (fun x => ltInt x dk[a]!) dk j i' hle (by simp only [← HG.out]; rw [hl])).symm.trans HC.out)
            go_wp2_with fail
            go_quiet (first | (go_at_call 47; refine Calls.quiet_of_same (less_u64 _ _ _)))
            go_wp2
            go_roundw
            case rel => exact ⟨i' + 1, by go_num, by omega, by omega, Lib.hid (HJ.out.drewN nq), HN⟩
            case measure => simp [intOf]; omega
          | false =>
            have HN := Lib.hid ((scanUp_end (fun x => ltInt x dk[a]!) dk j i' (Or.inr (by simp only [← HG.out]; rw [hl]))).symm.trans HC.out)
            go_wp2_with fail
            go_quiet (first | (go_at_call 47; refine Calls.quiet_of_same (less_u64 _ _ _)))
            go_wp2
            go_meet
            case rel => exact ⟨i', rfl, hii, hij', Lib.hid (HJ.out.drewN nq), HN⟩
        · have hle' : decide ((i' : Int) ≤ (j : Int)) = false := decide_eq_false (by omega)
          have HN := Lib.hid ((scanUp_end (fun x => ltInt x dk[a]!) dk j i' (Or.inl hle)).symm.trans HC.out)
          go_wp2_with fail
          go_quiet (first | (go_at_call 47; refine Calls.quiet_of_same (less_u64 _ _ _)))
          go_wp2
          go_meet
          case rel => exact ⟨i', rfl, hii, hij', Lib.hid (HJ.out.drewN nq), HN⟩
    case rest =>
      obtain ⟨i2, rfl, hU1, hU2, HR2, HU⟩ := hcut
      clear HS1
      go_upto_block 2 with fail
      go_cut [11] from 12 to 167 (fun vj wx => ∃ j' : Nat, vj = .int .i64 j' ∧ j' ≤ j ∧ i2 ≤ j' + 1 ∧ Hid (RowNow w blk off d dk wx) ∧ Hid (j' = scanDown (fun x => !ltInt x dk[a]!) dk i2 j))
      case first =>
        have HS0 := HR2
        clear HR2
        obtain ⟨G, hG⟩ : ∃ G : Nat → Int, ∀ t, G t = dk[t]! := ⟨fun t => dk[t]!, fun _ => rfl⟩
        have HG := Lib.hid hG
        clear hG
        go_wp2_with fail
        go_loopw [11] (fun vj wx => ∃ j' : Nat, vj = .int .i64 j' ∧ j' ≤ j ∧ i2 ≤ j' + 1 ∧ Hid (RowNow w blk off d dk wx) ∧ Hid (scanDown (fun x => !ltInt x dk[a]!) dk i2 j' = scanDown (fun x => !ltInt x dk[a]!) dk i2 j)) (fun vj _ => (intOf vj).toNat)
        case atStart => exact ⟨j, rfl, Nat.le_refl _, hU2, HS0, Lib.hid rfl⟩
        case round =>
          obtain ⟨j', rfl, hjj, hij', HJ, HC⟩ := hrel
          have hcw : ∀ t, t < d.size → wr.cell? ⟨blk, off + t, none⟩ = some (.int .u64 (G t)) := fun t ht => by rw [HG.out]; exact HJ.out.cell hblk HH.out ht
          have hfw : ∀ t, t < d.size → wr.frozen? ⟨blk, off + t, none⟩ = false := fun t ht => HJ.out.frozen hblk HH.out ht
          by_cases hle : i2 ≤ j'
          · have hle' : (i2 : Int) ≤ (j' : Int) := by omega
            cases hl : ltInt (G j') (G a) with
            | false =>
              have HN := Lib.hid ((scanDown_go (fun x => !ltInt x dk[a]!) dk i2 j' hle (by omega) (by simp only [← HG.out]; rw [hl]; rfl)).symm.trans HC.out)
              go_wp2_with fail
              go_quiet (first | (go_at_call 47; refine Calls.quiet_of_same (less_u64 _ _ _)))
              go_wp2
              go_roundw
              case rel => exact ⟨j' - 1, by congr 1 <;> omega, by omega, by omega, Lib.hid (HJ.out.drewN nq), HN⟩
              case measure => simp [intOf]; omega
            | true =>
              have HN := Lib.hid ((scanDown_end (fun x => !ltInt x dk[a]!) dk i2 j' (Or.inr (by simp only [← HG.out]; rw [hl]; rfl))).symm.trans HC.out)
              go_wp2_with fail
              go_quiet (first | (go_at_call 47; refine Calls.quiet_of_same (less_u64 _ _ _)))
              go_wp2
              go_meet
              case rel => exact ⟨j', rfl, hjj, hij', Lib.hid (HJ.out.drewN nq), HN⟩
          · have hle' : decide ((i2 : Int) ≤ (j' : Int)) = false := decide_eq_false (by omega)
            have HN := Lib.hid ((scanDown_end (fun x => !ltInt x dk[a]!) dk i2 j' (Or.inl hle)).symm.trans HC.out)
            go_wp2_with fail
            go_quiet (first | (go_at_call 47; refine Calls.quiet_of_same (less_u64 _ _ _)))
            go_wp2
            go_meet
            case rel => exact ⟨j', rfl, hjj, hij', Lib.hid (HJ.out.drewN nq), HN⟩
      case rest =>
        obtain ⟨j2, rfl, hD1, hD2, HR3, HD⟩ := hcut
        clear HR2
        by_cases hgt : j2 < i2
        · have hgt' : (i2 : Int) > (j2 : Int) := by omega
          have HX := Lib.hid (show R = (j2, true, swp dk j2 a) from by rw [← HQ.out]; exact part_first_break ltInt d a b pivot HI.out HJ0.out HDK.out HU.out HD.out hgt)
          go_upto_region 8 with fail
          go_cut [] from 12 to 167 (fun wx => Hid (RowNow w blk off d (swp dk (j2) (a)) wx))
          case first =>
            obtain ⟨G, hG⟩ : ∃ G : Nat → Int, ∀ t, G t = dk[t]! := ⟨fun t => dk[t]!, fun _ => rfl⟩
            have hcw : ∀ t, t < d.size → wc.cell? ⟨blk, off + t, none⟩ = some (.int .u64 (G t)) := fun t ht => by rw [hG]; exact HR3.out.cell hblk HH.out ht
            have hfw : ∀ t, t < d.size → wc.frozen? ⟨blk, off + t, none⟩ = false := fun t ht => HR3.out.frozen hblk HH.out ht
            have HG := Lib.hid hG
            clear hG
            by_cases hxy : j2 = a
            · have hxz : (j2 : Int) = (a : Int) := by omega
              clear hxz
              subst hxy
              go_region
              go_wp2
              go_meet
              case rel => exact Lib.hid (HR3.out.swap1 hblk (j := j2) (k := j2) (by omega) (by omega) (HG.out _) (HG.out _))
            · go_region
              go_wp2
              go_meet
              case rel => exact Lib.hid (HR3.out.swap1 hblk (j := j2) (k := a) (by omega) (by omega) (HG.out _) (HG.out _))
          case rest =>
            have HR4 := hcut
            clear hcut
            go_wp2
            go_ret2
            exact ⟨by rw [HX.out]; rfl, by rw [HX.out]; exact HR4.out⟩
        · have hgt' : ¬ (i2 : Int) > (j2 : Int) := by omega
          have hlt3 := part_scans_lt ltInt a i j dk (by omega) HU.out HD.out (by omega)
          obtain ⟨P, hP⟩ : ∃ P, partLoop ltInt a (i2 + 1) (j2 - 1) (swp dk i2 j2) = P := ⟨_, rfl⟩
          have HX := Lib.hid (show R = (P.1, false, swp P.2 P.1 a) from by rw [← HQ.out, ← hP]; exact part_first_go ltInt d a b pivot HI.out HJ0.out HDK.out HU.out HD.out (by omega))
          have HP := Lib.hid hP
          clear hP
          obtain ⟨G, hG⟩ : ∃ G : Nat → Int, ∀ t, G t = dk[t]! := ⟨fun t => dk[t]!, fun _ => rfl⟩
          have hcw : ∀ t, t < d.size → wc.cell? ⟨blk, off + t, none⟩ = some (.int .u64 (G t)) := fun t ht => by rw [hG]; exact HR3.out.cell hblk HH.out ht
          have hfw : ∀ t, t < d.size → wc.frozen? ⟨blk, off + t, none⟩ = false := fun t ht => HR3.out.frozen hblk HH.out ht
          have HG := Lib.hid hG
          clear hG
          go_wp2_with fail
          go_region
          have HW := Lib.hid (HR3.out.swap1 hblk (j := i2) (k := j2) (by omega) (by omega) (HG.out _) (HG.out _))
          clear hcw hfw
          go_wp2
          go_loopw [10, 11] (fun vi vj wx => ∃ (i j : Nat) (dk : Array Int), vi = .int .i64 i ∧ vj = .int .i64 j ∧ a < i ∧ i ≤ j + 1 ∧ j < b ∧ Hid (RowNow w blk off d dk wx) ∧ Hid (partLoop ltInt a i j dk = P)) (fun vi vj _ => (intOf vj).toNat + 1 - (intOf vi).toNat)
          case atStart => exact ⟨i2 + 1, j2 - 1, swp dk i2 j2, by go_num, by congr 1 <;> omega, by omega, by omega, by omega, HW, HP⟩
          case round =>
            clear HW HP HU HD HG HI HJ0 HDK HQ HR3 hlt3 hgt hgt' hU1 hU2 hD1 hD2 hai hij hjb ei ej
            obtain ⟨i, j, dk, rfl, rfl, hai, hij, hjb, HR, HE⟩ := hrel
            go_upto_block 6 with fail
            go_cut [10] from 99 to 152 (fun vi wx => ∃ i' : Nat, vi = .int .i64 i' ∧ i ≤ i' ∧ i' ≤ j + 1 ∧ Hid (RowNow w blk off d dk wx) ∧ Hid (i' = scanUp (fun x => ltInt x dk[a]!) dk j i))
            case first =>
              have HS0 := HR
              clear HR
              obtain ⟨G, hG⟩ : ∃ G : Nat → Int, ∀ t, G t = dk[t]! := ⟨fun t => dk[t]!, fun _ => rfl⟩
              have HG := Lib.hid hG
              clear hG
              go_wp2_with fail
              go_loopw [10] (fun vi wx => ∃ i' : Nat, vi = .int .i64 i' ∧ i ≤ i' ∧ i' ≤ j + 1 ∧ Hid (RowNow w blk off d dk wx) ∧ Hid (scanUp (fun x => ltInt x dk[a]!) dk j i' = scanUp (fun x => ltInt x dk[a]!) dk j i)) (fun vi _ => j + 1 - (intOf vi).toNat)
              case atStart => exact ⟨i, rfl, Nat.le_refl _, by omega, HS0, Lib.hid rfl⟩
              case round =>
                obtain ⟨i', rfl, hii, hij', HJ, HC⟩ := hrel
                have hcw : ∀ t, t < d.size → wr.cell? ⟨blk, off + t, none⟩ = some (.int .u64 (G t)) := fun t ht => by rw [HG.out]; exact HJ.out.cell hblk HH.out ht
                have hfw : ∀ t, t < d.size → wr.frozen? ⟨blk, off + t, none⟩ = false := fun t ht => HJ.out.frozen hblk HH.out ht
                by_cases hle : i' ≤ j
                · have hle' : (i' : Int) ≤ (j : Int) := by omega
                  cases hl : ltInt (G i') (G a) with
                  | true =>
                    have HN := Lib.hid ((scanUp_go (fun x => ltInt x dk[a]!) dk j i' hle (by simp only [← HG.out]; rw [hl])).symm.trans HC.out)
                    go_wp2_with fail
                    go_quiet (first | (go_at_call 47; refine Calls.quiet_of_same (less_u64 _ _ _)))
                    go_wp2
                    go_roundw
                    case rel => exact ⟨i' + 1, by go_num, by omega, by omega, Lib.hid (HJ.out.drewN nq), HN⟩
                    case measure => simp [intOf]; omega
                  | false =>
                    have HN := Lib.hid ((scanUp_end (fun x => ltInt x dk[a]!) dk j i' (Or.inr (by simp only [← HG.out]; rw [hl]))).symm.trans HC.out)
                    go_wp2_with fail
                    go_quiet (first | (go_at_call 47; refine Calls.quiet_of_same (less_u64 _ _ _)))
                    go_wp2
                    go_meet
                    case rel => exact ⟨i', rfl, hii, hij', Lib.hid (HJ.out.drewN nq), HN⟩
                · have hle' : decide ((i' : Int) ≤ (j : Int)) = false := decide_eq_false (by omega)
                  have HN := Lib.hid ((scanUp_end (fun x => ltInt x dk[a]!) dk j i' (Or.inl hle)).symm.trans HC.out)
                  go_wp2_with fail
                  go_quiet (first | (go_at_call 47; refine Calls.quiet_of_same (less_u64 _ _ _)))
                  go_wp2
                  go_meet
                  case rel => exact ⟨i', rfl, hii, hij', Lib.hid (HJ.out.drewN nq), HN⟩
            case rest =>
              obtain ⟨i2, rfl, hU1, hU2, HR2, HU⟩ := hcut
              clear HR
              go_upto_block 8 with fail
              go_cut [11] from 99 to 152 (fun vj wx => ∃ j' : Nat, vj = .int .i64 j' ∧ j' ≤ j ∧ i2 ≤ j' + 1 ∧ Hid (RowNow w blk off d dk wx) ∧ Hid (j' = scanDown (fun x => !ltInt x dk[a]!) dk i2 j))
              case first =>
                have HS0 := HR2
                clear HR2
                obtain ⟨G, hG⟩ : ∃ G : Nat → Int, ∀ t, G t = dk[t]! := ⟨fun t => dk[t]!, fun _ => rfl⟩
                have HG := Lib.hid hG
                clear hG
                go_wp2_with fail
                go_loopw [11] (fun vj wx => ∃ j' : Nat, vj = .int .i64 j' ∧ j' ≤ j ∧ i2 ≤ j' + 1 ∧ Hid (RowNow w blk off d dk wx) ∧ Hid (scanDown (fun x => !ltInt x dk[a]!) dk i2 j' = scanDown (fun x => !ltInt x dk[a]!) dk i2 j)) (fun vj _ => (intOf vj).toNat)
                case atStart => exact ⟨j, rfl, Nat.le_refl _, hU2, HS0, Lib.hid rfl⟩
                case round =>
                  obtain ⟨j', rfl, hjj, hij', HJ, HC⟩ := hrel
                  have hcw : ∀ t, t < d.size → wr.cell? ⟨blk, off + t, none⟩ = some (.int .u64 (G t)) := fun t ht => by rw [HG.out]; exact HJ.out.cell hblk HH.out ht
                  have hfw : ∀ t, t < d.size → wr.frozen? ⟨blk, off + t, none⟩ = false := fun t ht => HJ.out.frozen hblk HH.out ht
                  by_cases hle : i2 ≤ j'
                  · have hle' : (i2 : Int) ≤ (j' : Int) := by omega
                    cases hl : ltInt (G j') (G a) with
                    | false =>
                      have HN := Lib.hid ((scanDown_go (fun x => !ltInt x dk[a]!) dk i2 j' hle (by omega) (by simp only [← HG.out]; rw [hl]; rfl)).symm.trans HC.out)
                      go_wp2_with fail
                      go_quiet (first | (go_at_call 47; refine Calls.quiet_of_same (less_u64 _ _ _)))
                      go_wp2
                      go_roundw
                      case rel => exact ⟨j' - 1, by congr 1 <;> omega, by omega, by omega, Lib.hid (HJ.out.drewN nq), HN⟩
                      case measure => simp [intOf]; omega
                    | true =>
                      have HN := Lib.hid ((scanDown_end (fun x => !ltInt x dk[a]!) dk i2 j' (Or.inr (by simp only [← HG.out]; rw [hl]; rfl))).symm.trans HC.out)
                      go_wp2_with fail
                      go_quiet (first | (go_at_call 47; refine Calls.quiet_of_same (less_u64 _ _ _)))
                      go_wp2
                      go_meet
                      case rel => exact ⟨j', rfl, hjj, hij', Lib.hid (HJ.out.drewN nq), HN⟩
                  · have hle' : decide ((i2 : Int) ≤ (j' : Int)) = false := decide_eq_false (by omega)
                    have HN := Lib.hid ((scanDown_end (fun x => !ltInt x dk[a]!) dk i2 j' (Or.inl hle)).symm.trans HC.out)
                    go_wp2_with fail
                    go_quiet (first | (go_at_call 47; refine Calls.quiet_of_same (less_u64 _ _ _)))
                    go_wp2
                    go_meet
                    case rel => exact ⟨j', rfl, hjj, hij', Lib.hid (HJ.out.drewN nq), HN⟩
              case rest =>
                obtain ⟨j2, rfl, hD1, hD2, HR3, HD⟩ := hcut
                clear HR2
                by_cases hgt : j2 < i2
                · have hgt' : (i2 : Int) > (j2 : Int) := by omega
                  have HP := Lib.hid (show P = (j2, dk) from by rw [← HE.out]; exact part_break ltInt a i j dk HU.out HD.out hgt)
                  go_upto_region 21 with fail
                  go_cut [] from 12 to 167 (fun wx => Hid (RowNow w blk off d (swp dk (j2) (a)) wx))
                  case first =>
                    obtain ⟨G, hG⟩ : ∃ G : Nat → Int, ∀ t, G t = dk[t]! := ⟨fun t => dk[t]!, fun _ => rfl⟩
                    have hcw : ∀ t, t < d.size → wc.cell? ⟨blk, off + t, none⟩ = some (.int .u64 (G t)) := fun t ht => by rw [hG]; exact HR3.out.cell hblk HH.out ht
                    have hfw : ∀ t, t < d.size → wc.frozen? ⟨blk, off + t, none⟩ = false := fun t ht => HR3.out.frozen hblk HH.out ht
                    have HG := Lib.hid hG
                    clear hG
                    by_cases hxy : j2 = a
                    · have hxz : (j2 : Int) = (a : Int) := by omega
                      clear hxz
                      subst hxy
                      go_region
                      go_wp2
                      go_meet
                      case rel => exact Lib.hid (HR3.out.swap1 hblk (j := j2) (k := j2) (by omega) (by omega) (HG.out _) (HG.out _))
                    · go_region
                      go_wp2
                      go_meet
                      case rel => exact Lib.hid (HR3.out.swap1 hblk (j := j2) (k := a) (by omega) (by omega) (HG.out _) (HG.out _))
                  case rest =>
                    have HR4 := hcut
                    clear hcut
                    go_wp2
                    go_ret2
                    exact ⟨by rw [HX.out, HP.out]; rfl, by rw [HX.out, HP.out]; exact HR4.out⟩
                · have hgt' : ¬ (i2 : Int) > (j2 : Int) := by omega
                  have hlt3 := part_scans_lt ltInt a i j dk (by omega) HU.out HD.out (by omega)
                  have HP := Lib.hid (show partLoop ltInt a (i2 + 1) (j2 - 1) (swp dk i2 j2) = P from by rw [← HE.out]; exact (part_go ltInt a i j dk HU.out HD.out (by omega)).symm)
                  obtain ⟨G, hG⟩ : ∃ G : Nat → Int, ∀ t, G t = dk[t]! := ⟨fun t => dk[t]!, fun _ => rfl⟩
                  have hcw : ∀ t, t < d.size → wc.cell? ⟨blk, off + t, none⟩ = some (.int .u64 (G t)) := fun t ht => by rw [hG]; exact HR3.out.cell hblk HH.out ht
                  have hfw : ∀ t, t < d.size → wc.frozen? ⟨blk, off + t, none⟩ = false := fun t ht => HR3.out.frozen hblk HH.out ht
                  have HG := Lib.hid hG
                  clear hG
                  go_wp2_with fail
                  go_region
                  go_wp2
                  go_roundw
                  case rel => exact ⟨i2 + 1, j2 - 1, swp dk i2 j2, by go_num, by congr 1 <;> omega, by omega, by omega, by omega, Lib.hid (HR3.out.swap1 hblk (by omega) (by omega) (HG.out _) (HG.out _)), HP⟩
                  case measure => simp [intOf]; omega
end Go.Proofs.Ytoohcnjilmcimaa
