/- amblerlaw31.ScriptTexts: its walk: whatever the text, true. -/
import Derived.Test.YtgpkekdbohdbfaaGreatDoorOfR
import Derived.Test.YtgpkekdbohdbfaaGreatDoorNum
import Derived.Deep.RegionWith
namespace Go.Proofs.YtgpkekdbohdbfaaGreatDoor
open Go.RowKit AmS AmD AmW

theorem ofText_errs {s : Bts} {n k : Nat} (h : ofText s = .error (n, k)) : 1 ≤ k ∧ k ≤ 16 := by
  unfold ofText at h
  split at h
  · injection h with h
    injection h with h1 h2
    omega
  · split at h
    · injection h with h
      injection h with h1 h2
      omega
    · unfold ofLines at h
      split at h
      · next e he =>
        injection h with h
        subst h
        obtain ⟨h1, h2, _⟩ := AmS.ofGo_err _ _ _ he
        exact ⟨h1, h2⟩
      · split at h
        · injection h with h
          injection h with h1 h2
          omega
        · cases h
theorem ofText_fine {s : Bts} {x : List SOp} (h : ofText s = .ok x) : x.length ≤ 2000 ∧ (∀ o ∈ x, opWf o ∧ rightB o = true) ∧ other x = none := by
  unfold ofText at h
  split at h
  · cases h
  · split at h
    · cases h
    · next L hL =>
      obtain ⟨hg, ho⟩ := ofLines_ok h
      obtain ⟨_, g2, g3⟩ := ofGo_ok L [] x hg
      refine ⟨g3 (by simp), fun o ho => ?_, ho⟩
      rcases g2 o ho with h | ⟨p, _, h⟩
      · cases h
      · exact ⟨one_wf h, (one_right h).1⟩

set_option maxHeartbeats 400000 in
theorem texts_long {E : Nat → Addr} (s : ByteArray) (w : World) (hE : ScrB E w) (hs : 20000 < s.size) : Calls Tryz.prog 3 #[.string s] w (LawTrue w) := by
  have HA := Lib.hid (alive31 w hE)
  have hs' : (20000 : Int) < (s.size : Int) := by omega
  go_enter Tryz.func3, Tryz.ntmps3
  go_wp2_with fail
  refine HA.out.mono ?_
  rintro e w1 ⟨rfl, hb1⟩
  go_wp2
  go_ret
  exact ⟨rfl, hb1⟩

set_option maxHeartbeats 1000000 in
set_option maxRecDepth 100000 in
theorem texts_err {E : Nat → Addr} (s : ByteArray) (w : World) (hE : ScrB E w) (hErr : ErrsIn E w) (hs : s.size ≤ 20000) (n k : Nat) (hx : ofText s.data.toList = .error (n, k)) :
    Calls Tryz.prog 3 #[.string s] w (LawTrue w) := by
  have HA := Lib.hid (alive31 w hE)
  have hs' : ¬ (20000 : Int) < (s.size : Int) := by omega
  obtain ⟨hk1, hk2⟩ := ofText_errs hx
  have HS := Lib.hid (fun (V : World) (hV : Below w.heap.size w V) => show Calls Tryz.prog 5 #[.string s] V (OfPost E V (.error (n, k))) from by
    have := script_Of s V (hE.below hV (Nat.le_refl _))
    rw [hx] at this
    exact this)
  have HR := Lib.hid (fun (V : World) => show Calls Tryz.prog 6 #[.string s] V (ROfPost V (.error (n, k))) from by
    have := ref_Of s V (by omega)
    rw [hx] at this
    exact this)
  have HN := Lib.hid (fun (V : World) (hV : Below w.heap.size w V) => num_err (hErr.below hV (Nat.le_refl _)) k hk1 hk2)
  have HC := Lib.hid (fun (V : World) => show Calls Tryz.prog 10 #[.slice none 0 0] V (fun e w' => e = .returned (.tuple #[.int .i64 0, .bool true]) ∧ Below V.heap.size V w') from
    script_Consistent none 0 0 [] V ⟨rfl, fun h => absurd h (by omega)⟩ (by omega) (fun o ho => by cases ho))
  clear hx
  go_enter Tryz.func3, Tryz.ntmps3
  go_wp2_with fail
  refine HA.out.mono ?_
  rintro e w1 ⟨rfl, hb1⟩
  go_wp2_with fail
  refine (HS.out _ hb1).mono ?_
  rintro e w2 ⟨rfl, hb2⟩
  have hb12 := hb1.trans (hb2.mono hb1.size)
  go_wp2_with fail
  refine (HR.out _).mono ?_
  rintro e w3 ⟨rfl, hb3⟩
  have hb13 := hb12.trans (hb3.mono hb12.size)
  have hnn : ((n : Int) != (n : Int)) = false := by simp
  have hkk : ((k : Int) != (k : Int)) = false := by simp
  go_wp2_with fail
  refine (HN.out _ hb13).mono ?_
  rintro e w4 ⟨rfl, hb4⟩
  have hb14 := hb13.trans (hb4.mono hb13.size)
  go_wp2
  refine wp_loop_rounds 1 ?_
  rw [rounds_succ]
  go_wp2_with fail
  refine (HC.out _).mono ?_
  rintro e w5 ⟨rfl, hb5⟩
  go_wp2
  go_ret
  exact ⟨rfl, hb14.trans (hb5.mono hb14.size)⟩

set_option maxHeartbeats 4000000 in
set_option maxRecDepth 100000 in
theorem texts_ok {E : Nat → Addr} (s : ByteArray) (w : World) (hE : ScrB E w) (hs : s.size ≤ 20000) (l : List SOp) (hx : ofText s.data.toList = .ok l) :
    Calls Tryz.prog 3 #[.string s] w (LawTrue w) := by
  have HA := Lib.hid (alive31 w hE)
  have hs' : ¬ (20000 : Int) < (s.size : Int) := by omega
  obtain ⟨hlen, hwf, hoth⟩ := ofText_fine hx
  have HS := Lib.hid (fun (V : World) (hV : Below w.heap.size w V) => show Calls Tryz.prog 5 #[.string s] V (OfPost E V (.ok l)) from by
    have := script_Of s V (hE.below hV (Nat.le_refl _))
    rw [hx] at this
    exact this)
  have HR := Lib.hid (fun (V : World) => show Calls Tryz.prog 6 #[.string s] V (ROfPost V (.ok l)) from by
    have := ref_Of s V (by omega)
    rw [hx] at this
    exact this)
  have HO := Lib.hid (fun (o : SOp) (V : World) => law31_Of o V)
  have HT := Lib.hid (fun (o : SOp) (V : World) => script_Right o V)
  have HOT := Lib.hid hoth
  clear hx hoth
  have hll : ((l.length : Int) != (l.length : Int)) = false := by simp
  go_enter Tryz.func3, Tryz.ntmps3
  go_wp2_with fail
  refine HA.out.mono ?_
  rintro e w1 ⟨rfl, hb1⟩
  go_wp2_with fail
  refine (HS.out _ hb1).mono ?_
  rintro e w2 ⟨v2, rfl, hown2, hb2⟩
  obtain ⟨A2, c2, rfl⟩ := own_form hown2
  have hb12 := hb1.trans (hb2.mono hb1.size)
  go_wp2_with fail
  refine (HR.out _).mono ?_
  rintro e w3 ⟨v3, rfl, hown3, hb3⟩
  obtain ⟨A3, c3, rfl⟩ := own_form hown3
  have hb13 := hb12.trans (hb3.mono hb12.size)
  have hR2 := ((Reads.of_own hown2).below hb3).more hb3.size
  have hR3 := Reads.of_own hown3
  clear hown2 hown3
  go_wp2_with fail
  refine (num_nil _).mono ?_
  rintro e w4 ⟨rfl, rfl⟩
  have HC := Lib.hid (fun (V : World) (hV : Below w3.heap.size w3 V) => show Calls Tryz.prog 10 #[.slice A2 l.length c2] V (fun e w' => e = .returned (.tuple #[.int .i64 0, .bool true]) ∧ Below V.heap.size V w') from by
    have := script_Consistent A2 l.length c2 l V ((hR2.below hV).more hV.size) (by omega) (fun o ho => (hwf o ho).1)
    rw [HOT.out] at this
    exact this)
  go_wp2
  go_loopw [2, 9, 10, 48] (fun v _ _ i wr => ∃ j : Nat, j ≤ l.length ∧ i = .int .i64 j ∧ v = .bool false ∧ Below w3.heap.size w3 wr) (fun _ _ _ i _ => l.length - (intOf i).toNat)
  case atStart => exact ⟨0, by omega, rfl, rfl, Below.refl _ _⟩
  case round =>
    obtain ⟨j, hj, rfl, rfl, hBl⟩ := hrel
    by_cases hjt : j < l.length
    · have ho : l[j]? = some (l[j]'hjt) := List.getElem?_eq_getElem _
      have hrt := (hwf _ (List.getElem_mem hjt)).2
      generalize l[j]'hjt = o at ho hrt
      obtain ⟨g, off, rfl, hg, k0, k1, k2, k3, k4⟩ := op_cells (hR2.below hBl) ho
      obtain ⟨g', off', rfl, hg', m0, m1, m2, m3, m4⟩ := op_cells (hR3.below hBl) ho
      have hszr := hBl.size
      have hlj : (j : Int) < (l.length : Int) := by omega
      obtain ⟨wn, hwn⟩ : ∃ wn, wn = wr.alloc (.cells #[.int .i64 o.kind, .int .u64 o.key, .int .u64 o.val, .int .u64 o.hash, .int .i64 o.iter] 34) := ⟨_, rfl⟩
      have hBn : Below w3.heap.size w3 wn := by rw [hwn]; exact hBl.alloc hszr _
      have hO : Blk wn wr.heap.size 34 #[.int .i64 o.kind, .int .u64 o.key, .int .u64 o.val, .int .u64 o.hash, .int .i64 o.iter] := by rw [hwn]; exact Blk.new wr _ _
      have hgr : g' < wr.heap.size := by omega
      have e0 : wn.cell? ⟨g', off' + j * 5, none⟩ = some (.int .i64 o.kind) := by rw [hwn]; exact (World.cell?_alloc_lt wr _ ⟨g', off' + j * 5, none⟩ hgr).trans m0
      have e1 : wn.cell? ⟨g', off' + j * 5 + 1, none⟩ = some (.int .u64 o.key) := by rw [hwn]; exact (World.cell?_alloc_lt wr _ ⟨g', off' + j * 5 + 1, none⟩ hgr).trans m1
      have e2 : wn.cell? ⟨g', off' + j * 5 + 2, none⟩ = some (.int .u64 o.val) := by rw [hwn]; exact (World.cell?_alloc_lt wr _ ⟨g', off' + j * 5 + 2, none⟩ hgr).trans m2
      have e3 : wn.cell? ⟨g', off' + j * 5 + 3, none⟩ = some (.int .u64 o.hash) := by rw [hwn]; exact (World.cell?_alloc_lt wr _ ⟨g', off' + j * 5 + 3, none⟩ hgr).trans m3
      have e4 : wn.cell? ⟨g', off' + j * 5 + 4, none⟩ = some (.int .i64 o.iter) := by rw [hwn]; exact (World.cell?_alloc_lt wr _ ⟨g', off' + j * 5 + 4, none⟩ hgr).trans m4
      have f0 := hO.cell 0
      have f1 := hO.cell 1
      have f2 := hO.cell 2
      have f3 := hO.cell 3
      have f4 := hO.cell 4
      simp only [List.getElem?_toArray, List.getElem?_cons_zero, List.getElem?_cons_succ] at f0 f1 f2 f3 f4
      have hgn : g' < wn.heap.size := by have := hO.lt; omega
      have hon := hO.lt
      have HOo := HO.out o
      have HTo := HT.out o
      rw [hrt] at HTo
      unfold opV at HOo HTo
      have HO' := Lib.hid HOo
      have HT' := Lib.hid (show ∀ V, Calls Tryz.prog 9 #[.agg #[.int .i64 o.kind, .int .u64 o.key, .int .u64 o.val, .int .u64 o.hash, .int .i64 o.iter]] V (fun e w' => e = .returned (.bool true) ∧ Below V.heap.size V w') from fun V => (HTo V).mono fun e w' h => ⟨h.1, by rw [← h.2]; exact (Below.refl _ _).alloc (Nat.le_refl _) _⟩)
      have HWN := Lib.hid hwn
      have HBN := Lib.hid hBn
      clear hwn ho m0 m1 m2 m3 m4 hBl HOo HTo hBn hO
      go_wp2
      rw [← HWN.out]
      go_region_with (first
        | (go_at_call 8; refine (HO'.out _).mono ?_; rintro e w6 ⟨rfl, hb6⟩
           have y0 := (hb6.cell (p := ⟨g', off' + j * 5, none⟩) hgn).trans e0
           have y1 := (hb6.cell (p := ⟨g', off' + j * 5 + 1, none⟩) hgn).trans e1
           have y2 := (hb6.cell (p := ⟨g', off' + j * 5 + 2, none⟩) hgn).trans e2
           have y3 := (hb6.cell (p := ⟨g', off' + j * 5 + 3, none⟩) hgn).trans e3
           have y4 := (hb6.cell (p := ⟨g', off' + j * 5 + 4, none⟩) hgn).trans e4
           have z0 := (hb6.cell (p := ⟨wr.heap.size, 0, none⟩) hon).trans f0
           have z1 := (hb6.cell (p := ⟨wr.heap.size, 1, none⟩) hon).trans f1
           have z2 := (hb6.cell (p := ⟨wr.heap.size, 2, none⟩) hon).trans f2
           have z3 := (hb6.cell (p := ⟨wr.heap.size, 3, none⟩) hon).trans f3
           have z4 := (hb6.cell (p := ⟨wr.heap.size, 4, none⟩) hon).trans f4)
        | (go_at_call 9; refine (HT'.out _).mono ?_; rintro e w7 ⟨rfl, hb7⟩))
      all_goals
        have hbd := Below.drew HBN.out
        have hb36 := hbd.trans (hb6.mono hbd.size)
        have hb37 := hb36.trans (hb7.mono hb36.size)
        go_wp2
        go_roundw
      all_goals first
        | exact ⟨j + 1, by omega, by go_num, rfl, hb37⟩
        | (simp [intOf]; omega)
    · have hlj : ¬ (j : Int) < (l.length : Int) := by omega
      go_wp2_with fail
      refine (HC.out _ hBl).mono ?_
      rintro e w8 ⟨rfl, hb8⟩
      have hbl8 := hBl.trans (hb8.mono hBl.size)
      go_wp2
      go_ret
      exact ⟨rfl, hb13.trans (hbl8.mono hb13.size)⟩
theorem law_texts {E : Nat → Addr} (s : ByteArray) (w : World) (hE : ScrB E w) (hErr : ErrsIn E w) : Calls Tryz.prog 3 #[.string s] w (LawTrue w) := by
  by_cases hs : 20000 < s.size
  · exact texts_long s w hE hs
  · cases hx : ofText s.data.toList with
    | error p => exact texts_err s w hE hErr (by omega) p.1 p.2 hx
    | ok l => exact texts_ok s w hE (by omega) l hx
end Go.Proofs.YtgpkekdbohdbfaaGreatDoor
