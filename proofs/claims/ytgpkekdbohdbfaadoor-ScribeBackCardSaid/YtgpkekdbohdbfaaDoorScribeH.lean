/- ScribeBack: its walk: whatever the operations, true. -/
import Derived.Test.YtgpkekdbohdbfaaDoorScribeF
import Derived.Test.YtgpkekdbohdbfaaDoorScriptF
namespace Go.Proofs.YtgpkekdbohdbfaaDoor
open Go.RowKit AmS AmD AmW

theorem wf_fits {o : SOp} (h : opWf o) : fits o := ⟨h.2.2.1, h.2.2.2.1, h.2.2.2.2.1, h.2.2.2.2.2.1, h.2.2.2.2.2.2.1, h.2.2.2.2.2.2.2.1⟩

set_option maxHeartbeats 400000 in
theorem scribe_back_long {E : Nat → Addr} (A : Option Addr) (n c : Nat) (w : World) (hn : 300 < n) (hE : ScribeIn E w) :
    Calls Tryd.prog 6 #[.slice A n c] w (LawTrue w) := by
  have hn' : (300 : Int) < (n : Int) := by omega
  have HA := Lib.hid (alive32 w hE)
  go_enter Tryd.func6, Tryd.ntmps6
  go_wp2_with fail
  refine HA.out.mono ?_
  rintro e W ⟨rfl, hbW⟩
  go_wp2
  go_ret
  exact ⟨rfl, hbW⟩

set_option maxHeartbeats 4000000 in
set_option maxRecDepth 100000 in
theorem scribe_back_few {E : Nat → Addr} (A : Option Addr) (n c : Nat) (l : List SOp) (w : World) (h : Reads w w.heap.size 5 A n (opsCells l)) (hwf : ∀ o ∈ l, opWf o) (hn : n ≤ 300) (hE : ScribeIn E w) (hB : ScrB E w) :
    Calls Tryd.prog 6 #[.slice A n c] w (LawTrue w) := by
  have hl : l.length = n := by have := h.1; rw [opsCells_length] at this; omega
  subst hl
  have hn' : ¬ (300 : Int) < (l.length : Int) := by omega
  have HA := Lib.hid (alive32 w hE)
  go_enter Tryd.func6, Tryd.ntmps6
  go_wp2_with fail
  refine HA.out.mono ?_
  rintro e W ⟨rfl, hbW⟩
  have hRd := (h.below hbW).more hbW.size
  have hEr := hE.below hbW (Nat.le_refl _)
  have hBr := hB.below hbW (Nat.le_refl _)
  have HT0 := scribe_Text (E := E) A l.length c l W hRd (by omega) hwf hEr
  cases ht : textS l with
  | error p =>
    obtain ⟨i, j⟩ := p
    rw [ht] at HT0
    have HTa := Lib.hid (show Calls Tryd.prog 12 #[.slice A l.length c] W fun e w' => e = .returned (.tuple #[.string ⟨#[]⟩, .int .i64 (i : Int), .iface 196 (.pointer (some (E j)))]) ∧ Below W.heap.size W w' from HT0)
    clear HT0 ht hRd h hwf
    go_wp2_with fail
    refine HTa.out.mono ?_
    rintro e w1 ⟨rfl, hb1⟩
    go_wp2
    go_ret
    exact ⟨rfl, hbW.trans (hb1.mono hbW.size)⟩
  | ok t =>
    have hte : textE l = .ok t := by rw [textE_few (by omega)]; exact ht
    obtain ⟨hof, _, hoth, htl⟩ := ofText_textOf (fun o ho => wf_fits (hwf o ho)) hte
    obtain ⟨s, hs⟩ : ∃ s : ByteArray, (⟨t.toArray⟩ : ByteArray) = s := ⟨_, rfl⟩
    have hsd : s.data.toList = t := by rw [← hs]
    have hsz : s.size = longOf l := by rw [← htl, ← hsd]; simp
    have hsl := longOf_le l
    rw [ht] at HT0
    have HTa := Lib.hid (show Calls Tryd.prog 12 #[.slice A l.length c] W fun e w' => e = .returned (.tuple #[.string s, .int .i64 0, .nilIface]) ∧ Below W.heap.size W w' from by have := HT0; unfold TextSPost strV at this; simp only [hs] at this; exact this)
    have HC := Lib.hid (fun (V : World) (hV : Below W.heap.size W V) => show Calls Tryd.prog 29 #[.slice A l.length c] V (fun e w' => e = .returned (.tuple #[.int .i64 0, .bool true]) ∧ Below V.heap.size V w') from by
      have := script_Consistent A l.length c l V ((hRd.below hV).more hV.size) (by omega) hwf
      rw [hoth] at this
      exact this)
    have HLong := Lib.hid (fun (V : World) (hV : Below W.heap.size W V) => show Calls Tryd.prog 14 #[.slice A l.length c] V (fun e w' => e = .returned (.int .i64 (s.size : Int)) ∧ Below V.heap.size V w') from hsz ▸ scribe_Long (E := E) A l.length c l V ((hRd.below hV).more hV.size) (by omega) hwf (hEr.below hV (Nat.le_refl _)))
    have HOf := Lib.hid (fun (V : World) (hV : Below W.heap.size W V) => show Calls Tryd.prog 30 #[.string s] V (OfPost E V (.ok l)) from by
      have := script_Of s V (hBr.below hV (Nat.le_refl _))
      rw [hsd, hof] at this
      exact this)
    have hss : ((s.size : Int) != (s.size : Int)) = false := by simp
    clear HT0 ht hte hof hoth htl hs hsd hsz hwf
    go_wp2_with fail
    refine HTa.out.mono ?_
    rintro e w1 ⟨rfl, hb1⟩
    go_wp2_with fail
    refine (HC.out _ hb1).mono ?_
    rintro e w2 ⟨rfl, hb2⟩
    have hb12 := hb1.trans (hb2.mono hb1.size)
    go_wp2_with fail
    refine (HLong.out _ hb12).mono ?_
    rintro e w3 ⟨rfl, hb3⟩
    have hb13 := hb12.trans (hb3.mono hb12.size)
    go_wp2_with fail
    refine (HOf.out _ hb13).mono ?_
    rintro e w4 ⟨v4, rfl, hown4, hb4⟩
    obtain ⟨A4, c4, rfl⟩ := own_form hown4
    have hb14 := hb13.trans (hb4.mono hb13.size)
    have hbw4 := hbW.trans (hb14.mono hbW.size)
    have hR4 := Reads.of_own hown4
    have hRa := (hRd.below hb14).more hb14.size
    have hqe : ((l.length : Int) != (l.length : Int)) = false := by simp
    clear hown4 HTa HC HLong HOf hb1 hb2 hb3 hb4 hb12 hb13 hb14 hRd h
    go_wp2
    go_loopw [2, 10, 11, 62] (fun v _ _ i wr => ∃ j : Nat, j ≤ l.length ∧ i = .int .i64 j ∧ v = .bool false ∧ Below w4.heap.size w4 wr) (fun _ _ _ i _ => l.length - (intOf i).toNat)
    case atStart => exact ⟨0, by omega, rfl, rfl, Below.refl _ _⟩
    case round =>
      obtain ⟨j, hj, rfl, rfl, hBl⟩ := hrel
      by_cases hjt : j < l.length
      · have ho : l[j]? = some (l[j]'hjt) := List.getElem?_eq_getElem _
        generalize l[j]'hjt = o at ho
        obtain ⟨g, off, rfl, hg, k0, k1, k2, k3, k4⟩ := op_cells (hR4.below hBl) ho
        obtain ⟨g', off', rfl, hg', m0, m1, m2, m3, m4⟩ := op_cells (hRa.below hBl) ho
        have hszr := hBl.size
        have hlj : (j : Int) < (l.length : Int) := by omega
        obtain ⟨wn, hwn⟩ : ∃ wn, wn = wr.alloc (.cells #[.int .i64 o.kind, .int .u64 o.key, .int .u64 o.val, .int .u64 o.hash, .int .i64 o.iter] 27) := ⟨_, rfl⟩
        have hBn : Below w4.heap.size w4 wn := by rw [hwn]; exact hBl.alloc hszr _
        have hO : Blk wn wr.heap.size 27 #[.int .i64 o.kind, .int .u64 o.key, .int .u64 o.val, .int .u64 o.hash, .int .i64 o.iter] := by rw [hwn]; exact Blk.new wr _ _
        have hgr : g' < wr.heap.size := by omega
        have e0 : wn.cell? ⟨g', off' + j * 5, none⟩ = some (.int .i64 o.kind) := by rw [hwn]; exact (World.cell?_alloc_lt wr _ ⟨g', off' + j * 5, none⟩ hgr).trans m0
        have e1 : wn.cell? ⟨g', off' + j * 5 + 1, none⟩ = some (.int .u64 o.key) := by rw [hwn]; exact (World.cell?_alloc_lt wr _ ⟨g', off' + j * 5 + 1, none⟩ hgr).trans m1
        have e2 : wn.cell? ⟨g', off' + j * 5 + 2, none⟩ = some (.int .u64 o.val) := by rw [hwn]; exact (World.cell?_alloc_lt wr _ ⟨g', off' + j * 5 + 2, none⟩ hgr).trans m2
        have e3 : wn.cell? ⟨g', off' + j * 5 + 3, none⟩ = some (.int .u64 o.hash) := by rw [hwn]; exact (World.cell?_alloc_lt wr _ ⟨g', off' + j * 5 + 3, none⟩ hgr).trans m3
        have e4 : wn.cell? ⟨g', off' + j * 5 + 4, none⟩ = some (.int .i64 o.iter) := by rw [hwn]; exact (World.cell?_alloc_lt wr _ ⟨g', off' + j * 5 + 4, none⟩ hgr).trans m4
        have f0 := hO.cell 0
        have f1 := hO.cell 1
        have f2 := hO.cell 2
        have f3 := hO.cell 3
        have f4 := hO.cell 4
        simp only [List.getElem?_toArray, List.getElem?_cons_zero, List.getElem?_cons_succ] at f0 f1 f2 f3 f4
        have HWN := Lib.hid hwn
        clear hwn hR4 hRa ho m0 m1 m2 m3 m4 hO hBl
        go_wp2
        rw [← HWN.out]
        go_quiet (fail)
        go_wp2
        go_roundw
        case rel => exact ⟨j + 1, by omega, by go_num, rfl, below_drewN hBn _⟩
        case measure => simp [intOf]; omega
      · have hlj : ¬ (j : Int) < (l.length : Int) := by omega
        go_wp2
        go_ret
        exact ⟨rfl, hbw4.trans (hBl.mono hbw4.size)⟩
theorem law_scribe_back {E : Nat → Addr} (A : Option Addr) (n c : Nat) (l : List SOp) (w : World) (h : Reads w w.heap.size 5 A n (opsCells l)) (hwf : ∀ o ∈ l, opWf o) (hE : ScribeIn E w) (hB : ScrB E w) :
    Calls Tryd.prog 6 #[.slice A n c] w (LawTrue w) := by
  by_cases hn : 300 < n
  · exact scribe_back_long A n c w hn hE
  · exact scribe_back_few A n c l w h hwf (by omega) hE hB
end Go.Proofs.YtgpkekdbohdbfaaDoor
