/- amblerlaw31.ScriptJoins where both texts are right. -/
import Derived.Test.YtienlohogdkedaaDoorLaw31c
namespace Go.Proofs.YtienlohogdkedaaDoor
open Go.RowKit AmS AmD AmW

theorem opsCells_append (x y : List SOp) : opsCells (x ++ y) = opsCells x ++ opsCells y := by simp [opsCells]
theorem ofText_wf {s : Bts} {x : List SOp} (h : ofText s = .ok x) : x.length ≤ 2000 ∧ ∀ o ∈ x, opWf o := by
  unfold ofText at h
  split at h
  · cases h
  · split at h
    · cases h
    · next L hL =>
      obtain ⟨hg, _⟩ := ofLines_ok h
      obtain ⟨_, g2, g3⟩ := ofGo_ok L [] x hg
      refine ⟨g3 (by simp), fun o ho => ?_⟩
      rcases g2 o ho with h | ⟨p, _, h⟩
      · cases h
      · exact one_wf h
set_option maxHeartbeats 2000000 in
set_option maxRecDepth 100000 in
theorem joins_ok {E : Nat → Addr} (a b : ByteArray) (w : World) (hE : ScrB E w) (hErr : ErrsIn E w) (ha : a.size ≤ 3000) (hb : b.size ≤ 3000) (x : List SOp) (hx : ofText a.data.toList = .ok x) (y : List SOp) (hy : ofText b.data.toList = .ok y) :
    Calls Tryd.prog 12 #[.string a, .string b] w (LawTrue w) := by
  have HA := Lib.hid (alive31 w hE)
  have ha' : ¬ (3000 : Int) < (a.size : Int) := by omega
  have hb' : ¬ (3000 : Int) < (b.size : Int) := by omega
  have hbl : b.data.toList.length = b.size := by simp
  have hal : a.data.toList.length = a.size := by simp
  have hjo := (ofText_join (by omega) (by omega) hx).2 y hy
  rw [← join_bytes] at hjo
  have hwfx := ofText_wf hx
  have hwfy := ofText_wf hy
  have hll := lines_length_le a.data.toList
  have hlc := lines_count a.data.toList
  have HSX := Lib.hid (fun (W : World) (hW : Below w.heap.size w W) => show Calls Tryd.prog 57 #[.string a] W (OfPost E W (.ok x)) from by
    have := script_Of a W (hE.below hW (Nat.le_refl _))
    rw [hx] at this
    exact this)
  have HSY := Lib.hid (fun (W : World) (hW : Below w.heap.size w W) => show Calls Tryd.prog 57 #[.string b] W (OfPost E W (.ok y)) from by
    have := script_Of b W (hE.below hW (Nat.le_refl _))
    rw [hy] at this
    exact this)
  have HSZ := Lib.hid (fun (W : World) (hW : Below w.heap.size w W) => script_Of (a ++ ⟨#[10]⟩ ++ b) W (hE.below hW (Nat.le_refl _)))
  have HJO := Lib.hid hjo
  have HLC := Lib.hid hlc
  have HAL := Lib.hid hal
  rw [hal] at hll
  clear hx hy hbl hal hlc hjo
  go_enter Tryd.func12, Tryd.ntmps12
  go_wp2_with fail
  refine HA.out.mono ?_
  rintro e w1 ⟨rfl, hb1⟩
  go_wp2_with fail
  refine (HSX.out _ hb1).mono ?_
  rintro e w2 ⟨v2, rfl, hown2, hb2⟩
  have hbw2 := hb1.trans (hb2.mono hb1.size)
  obtain ⟨A2, c2, rfl⟩ := own_form hown2
  go_wp2_with fail
  refine (HSY.out _ hbw2).mono ?_
  rintro e w3 ⟨v3, rfl, hown3, hb3⟩
  have hbw3 := hbw2.trans (hb3.mono hbw2.size)
  obtain ⟨A3, c3, rfl⟩ := own_form hown3
  have hownx := own_below hown2 hb3 (Nat.le_refl _)
  clear hown2 hb1 hb2 hb3 hbw2
  by_cases hx9 : 900 < x.length
  · have hx9' : (900 : Int) < (x.length : Int) := by omega
    go_wp2
    go_ret
    exact ⟨rfl, hbw3⟩
  by_cases hy9 : 900 < y.length
  · have hx9' : ¬ (900 : Int) < (x.length : Int) := by omega
    have hy9' : (900 : Int) < (y.length : Int) := by omega
    go_wp2
    go_ret
    exact ⟨rfl, hbw3⟩
  · have hx9' : ¬ (900 : Int) < (x.length : Int) := by omega
    have hy9' : ¬ (900 : Int) < (y.length : Int) := by omega
    go_wp2
    go_loop [11, 12, 57] (fun v11 _ i => ∃ j L : Nat, j ≤ a.size ∧ i = .int .i64 j ∧ v11 = .int .i64 L ∧ L ≤ j + 1 ∧ LinesAt a j L) (fun _ _ i => a.size - (intOf i).toNat)
    case atStart => exact ⟨0, 1, by omega, rfl, rfl, by omega, ⟨by simp⟩⟩
    case round =>
      obtain ⟨j, L, hj, rfl, rfl, hLj, ⟨hL⟩⟩ := hrel
      by_cases hlt : j < a.size
      · have hlt' : (j : Int) < (a.size : Int) := by omega
        have htk : a.data.toList.take (j + 1) = a.data.toList.take j ++ [a[j]'hlt] := by
          rw [List.take_succ_eq_append_getElem (by rw [HAL.out]; exact hlt)]
          rfl
        by_cases hc : a[j]'hlt = 10
        · have hcz : (((a[j]'hlt).toNat : Int) == 10) = true := by rw [hc]; rfl
          have HLN : LinesAt a (j + 1) (L + 1) := ⟨by rw [htk, List.count_append, hL, hc]; simp; omega⟩
          clear hL htk hc
          go_wp2
          go_round
          case rel => exact ⟨j + 1, L + 1, by omega, by go_num, by go_num, by omega, HLN⟩
          case measure => simp [intOf]; omega
        · have hcz : (((a[j]'hlt).toNat : Int) == 10) = false := by
            rw [beq_eq_false_iff_ne]
            intro e
            apply hc
            apply UInt8.toNat_inj.1
            show _ = 10
            omega
          have HLN : LinesAt a (j + 1) L := ⟨by rw [htk, List.count_append, hL]; simp [hc]⟩
          clear hL htk hc
          go_wp2
          go_round
          case rel => exact ⟨j + 1, L, by omega, by go_num, rfl, by omega, HLN⟩
          case measure => simp [intOf]; omega
      · obtain rfl : j = a.size := by omega
        have hLL : L = (lines a.data.toList).length := by rw [HLC.out, hL, ← HAL.out, List.take_length]
        have HLL := Lib.hid hLL
        have hlt' : ¬ (a.size : Int) < (a.size : Int) := by omega
        clear hL hLL
        have hjo := HJO.out
        rw [← HLL.out] at hjo
        obtain ⟨q, hq⟩ : ∃ q, x ++ y = q := ⟨_, rfl⟩
        rw [hq] at hjo
        have HQ := Lib.hid hq
        clear hq
        cases hot : other q with
        | some i =>
          obtain ⟨place, hzt, hgt⟩ := hjo.1 i hot
          have HSZ' := Lib.hid (fun (W : World) (hW : Below w.heap.size w W) => show Calls Tryd.prog 57 #[.string (a ++ ⟨#[10]⟩ ++ b)] W (OfPost E W (.error (place, 8))) from by
            have := HSZ.out W hW
            rw [hzt] at this
            exact this)
          have HNum := Lib.hid (fun (W : World) (hb : Below w.heap.size w W) => num_err (hErr.below hb (Nat.le_refl _)) 8 (by omega) (by omega))
          have hgt' : (L : Int) < (place : Int) := by omega
          have HOT := Lib.hid hot
          clear hjo hzt hot
          go_wp2_with fail
          refine (HSZ'.out _ hbw3).mono ?_
          rintro e w4 ⟨rfl, hb4⟩
          have hbw4 := hbw3.trans (hb4.mono hbw3.size)
          have hx4 := own_below hownx hb4 (Nat.le_refl _)
          have hy4 := own_below hown3 hb4 (Nat.le_refl _)
          have hx5 := hx4.alloc (.cells #[] 27)
          have hy5 := hy4.alloc (.cells #[] 27)
          have hyn := own_new hy4 (Nat.le_refl _)
          have hem := own_empty w4 w4.heap.size 27 5 (Nat.le_refl _)
          clear hx4 hy4 hownx hown3
          have hb5 : Below w4.heap.size w4 (w4.alloc (.cells #[] 27)) := (Below.refl _ _).alloc (Nat.le_refl _) _
          go_wp2_with (first
            | (at_builtin; refine wpList_append_rows rfl rfl slty_Op hem rfl hx5 rfl (opsCells_one x) (by omega) hb5.size ?_; intro v5 w5 hown5 hg5; have hy6 := hg5.keep hy5 hyn; clear hem)
            | (at_builtin; refine wpList_append_rows rfl rfl slty_Op hown5 rfl hy6 rfl (opsCells_one y) (by omega) (Nat.le_trans hb5.size hg5.size) ?_; intro v6 w6 hown6 hg6)
            | fail)
          have hbo : w6.ownsRow w4.heap.size 27 5 v6 q.length (opsCells q) := by
            rw [← HQ.out, List.length_append, opsCells_append]
            simpa only [Nat.zero_add, List.nil_append] using hown6
          obtain ⟨A6, c6, rfl⟩ := own_form hbo
          have hR6 := Reads.of_own hbo
          have hb46 : Below w4.heap.size w4 w6 := hb5.trans (hg5.below.trans hg6.below)
          have hbw6 := hbw4.trans (hb46.mono hbw4.size)
          have HC := Lib.hid (show Calls Tryd.prog 48 #[.slice A6 q.length c6] w6 (fun e w' => e = .returned (.tuple #[.int .i64 (i : Int), .bool false]) ∧ Below w6.heap.size w6 w') from by
            have := script_Consistent A6 q.length c6 q w6 hR6 (by rw [← HQ.out, List.length_append]; omega) (fun o ho => by
              rw [← HQ.out] at ho
              rcases List.mem_append.1 ho with h | h
              · exact hwfx.2 o h
              · exact hwfy.2 o h)
            rw [HOT.out] at this
            exact this)
          clear hown5 hg5 hown6 hg6 hy6
          go_wp2_with fail
          refine HC.out.mono ?_
          rintro e w7 ⟨rfl, hb7⟩
          have hbw7 := hbw6.trans (hb7.mono hbw6.size)
          clear hbo hR6
          go_wp2_with fail
          refine (HNum.out _ hbw7).mono ?_
          rintro e w8 ⟨rfl, hb8⟩
          go_wp2
          go_ret
          exact ⟨rfl, hbw7.trans (hb8.mono hbw7.size)⟩
        | none =>
          have hzt := hjo.2 hot
          have HSZ' := Lib.hid (fun (W : World) (hW : Below w.heap.size w W) => show Calls Tryd.prog 57 #[.string (a ++ ⟨#[10]⟩ ++ b)] W (OfPost E W (.ok q)) from by
            have := HSZ.out W hW
            rw [hzt] at this
            exact this)
          have HOT := Lib.hid hot
          clear hjo hzt hot
          go_wp2_with fail
          refine (HSZ'.out _ hbw3).mono ?_
          rintro e w4 ⟨v4, rfl, hown4, hb4⟩
          obtain ⟨A4, c4, rfl⟩ := own_form hown4
          have hbw4 := hbw3.trans (hb4.mono hbw3.size)
          have hx4 := own_below hownx hb4 (Nat.le_refl _)
          have hy4 := own_below hown3 hb4 (Nat.le_refl _)
          have hx5 := hx4.alloc (.cells #[] 27)
          have hy5 := hy4.alloc (.cells #[] 27)
          have hyn := own_new hy4 (Nat.le_refl _)
          have hem := own_empty w4 w4.heap.size 27 5 (Nat.le_refl _)
          clear hx4 hy4 hownx hown3
          have hb5 : Below w4.heap.size w4 (w4.alloc (.cells #[] 27)) := (Below.refl _ _).alloc (Nat.le_refl _) _
          go_wp2_with (first
            | (at_builtin; refine wpList_append_rows rfl rfl slty_Op hem rfl hx5 rfl (opsCells_one x) (by omega) hb5.size ?_; intro v5 w5 hown5 hg5; have hy6 := hg5.keep hy5 hyn; clear hem)
            | (at_builtin; refine wpList_append_rows rfl rfl slty_Op hown5 rfl hy6 rfl (opsCells_one y) (by omega) (Nat.le_trans hb5.size hg5.size) ?_; intro v6 w6 hown6 hg6)
            | fail)
          have hbo : w6.ownsRow w4.heap.size 27 5 v6 q.length (opsCells q) := by
            rw [← HQ.out, List.length_append, opsCells_append]
            simpa only [Nat.zero_add, List.nil_append] using hown6
          obtain ⟨A6, c6, rfl⟩ := own_form hbo
          have hR6 := Reads.of_own hbo
          have hb46 : Below w4.heap.size w4 w6 := hb5.trans (hg5.below.trans hg6.below)
          have hbw6 := hbw4.trans (hb46.mono hbw4.size)
          have HC := Lib.hid (show Calls Tryd.prog 48 #[.slice A6 q.length c6] w6 (fun e w' => e = .returned (.tuple #[.int .i64 0, .bool true]) ∧ Below w6.heap.size w6 w') from by
            have := script_Consistent A6 q.length c6 q w6 hR6 (by rw [← HQ.out, List.length_append]; omega) (fun o ho => by
              rw [← HQ.out] at ho
              rcases List.mem_append.1 ho with h | h
              · exact hwfx.2 o h
              · exact hwfy.2 o h)
            rw [HOT.out] at this
            exact this)
          clear hown5 hg5 hown6 hg6 hy6
          go_wp2_with fail
          refine HC.out.mono ?_
          rintro e w7 ⟨rfl, hb7⟩
          have hbw7 := hbw6.trans (hb7.mono hbw6.size)
          have hR4 := (Reads.of_own hown4).below (hb46.trans (hb7.mono hb46.size))
          have hR7 := hR6.below hb7
          have hR47 := hR4.more (Nat.le_trans hb46.size hb7.size)
          have hR77 := hR7.more hb7.size
          have hq2 : q.length ≤ 4000 := by rw [← HQ.out, List.length_append]; omega
          clear hbo hR6 hR4 hR7 hown4 HC HOT HSZ' HSZ HJO HSX HSY hwfx hwfy
          have hqe : ((q.length : Int) != (q.length : Int)) = false := by simp
          go_wp2
          go_loopw [4, 19, 20, 146] (fun v _ _ i wr => ∃ j : Nat, j ≤ q.length ∧ i = .int .i64 j ∧ v = .bool false ∧ Below w7.heap.size w7 wr) (fun _ _ _ i _ => q.length - (intOf i).toNat)
          case atStart => exact ⟨0, by omega, rfl, rfl, Below.refl _ _⟩
          case round =>
            obtain ⟨j, hj, rfl, rfl, hBl⟩ := hrel
            by_cases hjt : j < q.length
            · have ho : q[j]? = some (q[j]'hjt) := List.getElem?_eq_getElem _
              generalize q[j]'hjt = o at ho
              obtain ⟨g, off, rfl, hg, k0, k1, k2, k3, k4⟩ := op_cells (hR47.below hBl) ho
              obtain ⟨g', off', rfl, hg', m0, m1, m2, m3, m4⟩ := op_cells (hR77.below hBl) ho
              have hszr := hBl.size
              have hlj : (j : Int) < (q.length : Int) := by omega
              obtain ⟨wn, hwn⟩ : ∃ wn, wn = wr.alloc (.cells #[.int .i64 o.kind, .int .u64 o.key, .int .u64 o.val, .int .u64 o.hash, .int .i64 o.iter] 27) := ⟨_, rfl⟩
              have hBn : Below w7.heap.size w7 wn := by rw [hwn]; exact hBl.alloc hszr _
              have hO : Blk wn wr.heap.size 27 #[.int .i64 o.kind, .int .u64 o.key, .int .u64 o.val, .int .u64 o.hash, .int .i64 o.iter] := by rw [hwn]; exact Blk.new wr _ _
              have hgr : g' < wr.heap.size := by omega
              have e0 : wn.cell? ⟨g', off' + j * 5, none⟩ = some (.int .i64 o.kind) := by rw [hwn]; exact (World.cell?_alloc_lt wr _ ⟨g', off' + j * 5, none⟩ hgr).trans m0
              have e1 : wn.cell? ⟨g', off' + j * 5 + 1, none⟩ = some (.int .u64 o.key) := by rw [hwn]; exact (World.cell?_alloc_lt wr _ ⟨g', off' + j * 5 + 1, none⟩ hgr).trans m1
              have e2 : wn.cell? ⟨g', off' + j * 5 + 2, none⟩ = some (.int .u64 o.val) := by rw [hwn]; exact (World.cell?_alloc_lt wr _ ⟨g', off' + j * 5 + 2, none⟩ hgr).trans m2
              have e3 : wn.cell? ⟨g', off' + j * 5 + 3, none⟩ = some (.int .u64 o.hash) := by rw [hwn]; exact (World.cell?_alloc_lt wr _ ⟨g', off' + j * 5 + 3, none⟩ hgr).trans m3
              have e4 : wn.cell? ⟨g', off' + j * 5 + 4, none⟩ = some (.int .i64 o.iter) := by rw [hwn]; exact (World.cell?_alloc_lt wr _ ⟨g', off' + j * 5 + 4, none⟩ hgr).trans m4
              have f0 := hO.cell 0
              have f1 := hO.cell 1
              have f2 := hO.cell 2
              have f3 := hO.cell 3
              have f4 := hO.cell 4
              simp only [List.getElem?_toArray, List.getElem?_cons_zero, List.getElem?_cons_succ] at f0 f1 f2 f3 f4
              have HWN := Lib.hid hwn
              clear hwn hR47 hR77 ho m0 m1 m2 m3 m4 hO hBl
              go_wp2
              rw [← HWN.out]
              go_quiet (fail)
              go_wp2
              go_roundw
              case rel => exact ⟨j + 1, by omega, by go_num, rfl, below_drewN hBn _⟩
              case measure => simp [intOf]; omega
            · have hlj : ¬ (j : Int) < (q.length : Int) := by omega
              go_wp2
              go_ret
              exact ⟨rfl, hbw7.trans (hBl.mono hbw7.size)⟩
theorem law_joins {E : Nat → Addr} (a b : ByteArray) (w : World) (hE : ScrB E w) (hErr : ErrsIn E w) : Calls Tryd.prog 12 #[.string a, .string b] w (LawTrue w) := by
  by_cases hs : 3000 < a.size ∨ 3000 < b.size
  · exact joins_huge a b w hE hs
  · cases hx : ofText a.data.toList with
    | error p => exact joins_bad a b w hE (by omega) (by omega) p hx
    | ok x =>
      cases hy : ofText b.data.toList with
      | error p => exact joins_err a b w hE hErr (by omega) (by omega) x hx p.1 p.2 hy
      | ok y => exact joins_ok a b w hE hErr (by omega) (by omega) x hx y hy
end Go.Proofs.YtienlohogdkedaaDoor
