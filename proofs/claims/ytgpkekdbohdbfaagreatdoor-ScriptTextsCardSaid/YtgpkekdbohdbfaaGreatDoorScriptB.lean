/- script.Consistent and script.Hashes by their contracts. -/
import Derived.Test.YtgpkekdbohdbfaaGreatDoorScriptA
import Derived.Test.YtgpkekdbohdbfaaGreatDoorMapF
namespace Go.Proofs.YtgpkekdbohdbfaaGreatDoor
open Go.RowKit AmS Go.Maps

theorem zero_u64 (w : World) : (zeroValue 32).run Tryz.prog w = .ok (.int .u64 0) w := by kernel_rfl
theorem zero_i64 (w : World) : (zeroValue 3).run Tryz.prog w = .ok (.int .i64 0) w := by kernel_rfl
/-- what script.Consistent answers -/
def ConsPost (w : World) (r : Option Nat) (e : Ending) (w' : World) : Prop :=
  (match r with
   | some i => e = .returned (.tuple #[.int .i64 (i : Int), .bool false])
   | none => e = .returned (.tuple #[.int .i64 0, .bool true])) ∧ Below w.heap.size w w'
theorem cons_hit {w w' : World} {r : Option Nat} {i : Nat} (h : r = some i) (hb : Below w.heap.size w w') : ConsPost w r (.returned (.tuple #[.int .i64 (i : Int), .bool false])) w' := by
  subst h; exact ⟨rfl, hb⟩
theorem cons_end {w w' : World} {r : Option Nat} (h : r = none) (hb : Below w.heap.size w w') : ConsPost w r (.returned (.tuple #[.int .i64 0, .bool true])) w' := by
  subst h; exact ⟨rfl, hb⟩

/-- where the loop of script.Consistent stands -/
structure ConsAt (w : World) (l : List SOp) (R : Option Nat) (k : Nat) (wr : World) : Prop where
  rest : otherGo (l.take k) (l.drop k) = R
  free : free (l.take k)
  map : MapFn wr Tryz.prog 32 32 .u64 .u64 w.heap.size k (known (l.take k))
  below : Below w.heap.size w wr

set_option maxHeartbeats 2000000 in
set_option maxRecDepth 100000 in
theorem script_Consistent (A : Option Addr) (n c : Nat) (l : List SOp) (w : World) (h : Reads w w.heap.size 5 A n (opsCells l)) (hn : n ≤ 65536) (hwf : ∀ o ∈ l, opWf o) :
    Calls Tryz.prog 10 #[.slice A n c] w (ConsPost w (other l)) := by
  have hl : l.length = n := by have := h.1; rw [opsCells_length] at this; omega
  generalize hR : other l = R
  have HR := Lib.hid (show otherGo (l.take 0) (l.drop 0) = R from by simpa [other] using hR)
  clear hR
  have hmm := @run_makeMap Tryz.prog
  go_enter Tryz.func10, Tryz.ntmps10
  go_wp2
  go_loopw [5, 6, 7, 8, 12] (fun _ _ _ _ i wr => ∃ k : Nat, k ≤ n ∧ i = .int .i64 k ∧ ConsAt w l R k wr) (fun _ _ _ _ i _ => n - (intOf i).toNat)
  case atStart => exact ⟨0, by omega, rfl, HR.out, free_nil, MapFn.made _ _ _ _ _ _, (Below.refl _ _).alloc (Nat.le_refl _) _⟩
  case round =>
    obtain ⟨k, hk, rfl, hc⟩ := hrel
    by_cases hlt : k < n
    · have ho : l[k]? = some (l[k]'(by omega)) := List.getElem?_eq_getElem _
      have hw0 := hwf _ (List.getElem_mem (show k < l.length by omega))
      generalize l[k]'(by omega) = o at ho hw0
      obtain ⟨b, off, rfl, hb, c0, c1, c2, c3, c4⟩ := op_cells (h.below hc.below) ho
      have hrest := hc.rest
      rw [drop_op ho, otherGo] at hrest
      have hfree := hc.free
      have hkn := known_snoc (l.take k) o
      have hkf := clash_known hfree o
      have htk := take_snoc_op ho
      have hlen : (l.take k).length = k := by rw [List.length_take]; omega
      rw [hlen, ← htk] at hrest
      rw [← htk] at hkn
      have hsn := free_snoc (o := o) hfree
      rw [← htk] at hsn
      obtain ⟨_, _, w2, w3, _, _, w6, w7, _, _⟩ := hw0
      have hwk := Lib.hid (wf_u64 w2 w3)
      have hwh := Lib.hid (wf_u64 w6 w7)
      have hmap := hc.map
      have hbel := hc.below
      clear hc ho htk hlen
      have hlt' : (k : Int) < (n : Int) := by omega
      cases hK : keyedP o.kind with
      | false =>
        rw [hK, Bool.false_and] at hkf
        rw [hkf, if_neg (by simp)] at hrest
        have hk2 : known (l.take (k + 1)) = known (l.take k) := by rw [hkn, knownAdd, hK]; rfl
        have HRest := Lib.hid hrest
        have HF := Lib.hid (hsn hkf)
        have HK2 := Lib.hid hk2
        have HK := Lib.hid (show ∀ W, Calls Tryz.prog 20 #[.int .i64 o.kind] W fun e w' => e = .returned (.bool false) ∧ W = w' from fun W => by have := script_keyed o.kind W; rw [hK] at this; exact this)
        clear hrest hkn hkf hsn hfree hk2 hK
        go_wp2_with (go_at_call 20; refine (HK.out _).mono ?_; rintro e w1 ⟨rfl, rfl⟩)
        go_roundw
        case rel => exact ⟨k + 1, by omega, by go_num, HRest.out, HF.out, by rw [HK2.out]; obtain ⟨D, d1, d2⟩ := hmap.alloc _; exact ⟨D, d1.mono (by omega), d2⟩, hbel.alloc hbel.size _⟩
        case measure => first | (simp [intOf]; done) | (simp [intOf]; omega)
      | true =>
        rw [hK, Bool.true_and] at hkf
        have HK := Lib.hid (show ∀ W, Calls Tryz.prog 20 #[.int .i64 o.kind] W fun e w' => e = .returned (.bool true) ∧ W = w' from fun W => by have := script_keyed o.kind W; rw [hK] at this; exact this)
        have hk2 : known (l.take (k + 1)) = fun y => if y = o.key then some o.hash else known (l.take k) y := by rw [hkn, knownAdd, hK]; rfl
        have HK2 := Lib.hid hk2
        clear hkn hk2 hK
        cases hf : known (l.take k) o.key with
        | none =>
          rw [hf] at hkf
          rw [hkf, if_neg (by simp)] at hrest
          have HRest := Lib.hid hrest
          have HF := Lib.hid (hsn hkf)
          have Hf := Lib.hid hf
          clear hrest hkf hsn hfree hf
          go_wp2_with (first
            | (go_at_call 20; refine (HK.out _).mono ?_; rintro e w1 ⟨rfl, rfl⟩)
            | (at_lookup; refine wpList_look_ok rfl _ _ rfl Tryz.underlying32 Tryz.underlying61 Tryz.underlying32 (zero_u64 _) rfl (hmap.alloc _) o.key rfl hwk.out ?_; rw [Hf.out])
            | (at_mapUpdate; refine wpList_store_fn rfl _ _ _ rfl Tryz.underlying32 Tryz.underlying61 Tryz.underlying32 rfl (hmap.alloc _) (by unfold maxLen; omega) o.key o.hash rfl rfl hwk.out hwh.out ?_; intro w2 hm2 hg2))
          go_roundw
          case rel => exact ⟨k + 1, by omega, by go_num, HRest.out, HF.out, by rw [HK2.out]; exact hm2, (hbel.alloc hbel.size _).grown hg2 (by have := hbel.size; simp; omega) (fun j hj => by cases hj; exact Nat.le_refl _)⟩
          case measure => first | (simp [intOf]; done) | (simp [intOf]; omega)
        | some hv =>
          rw [hf] at hkf
          simp only at hkf
          have Hf := Lib.hid hf
          clear hf
          by_cases hh : hv = o.hash
          · have hne : (hv != o.hash) = false := by simp [hh]
            rw [hne] at hkf
            rw [hkf, if_neg (by simp)] at hrest
            have HRest := Lib.hid hrest
            have HF := Lib.hid (hsn hkf)
            clear hrest hkf hsn hfree hh
            go_wp2_with (first
              | (go_at_call 20; refine (HK.out _).mono ?_; rintro e w1 ⟨rfl, rfl⟩)
              | (at_lookup; refine wpList_look_ok rfl _ _ rfl Tryz.underlying32 Tryz.underlying61 Tryz.underlying32 (zero_u64 _) rfl (hmap.alloc _) o.key rfl hwk.out ?_; rw [Hf.out])
              | (at_mapUpdate; refine wpList_store_fn rfl _ _ _ rfl Tryz.underlying32 Tryz.underlying61 Tryz.underlying32 rfl (hmap.alloc _) (by unfold maxLen; omega) o.key o.hash rfl rfl hwk.out hwh.out ?_; intro w2 hm2 hg2))
            go_roundw
            case rel => exact ⟨k + 1, by omega, by go_num, HRest.out, HF.out, by rw [HK2.out]; exact hm2, (hbel.alloc hbel.size _).grown hg2 (by have := hbel.size; simp; omega) (fun j hj => by cases hj; exact Nat.le_refl _)⟩
            case measure => first | (simp [intOf]; done) | (simp [intOf]; omega)
          · have hne : (hv != o.hash) = true := by simp [hh]
            rw [hne] at hkf
            rw [hkf, if_pos rfl] at hrest
            have HRest := Lib.hid hrest
            clear hrest hkf hsn hfree hh
            go_wp2_with (first
              | (go_at_call 20; refine (HK.out _).mono ?_; rintro e w1 ⟨rfl, rfl⟩)
              | (at_lookup; refine wpList_look_ok rfl _ _ rfl Tryz.underlying32 Tryz.underlying61 Tryz.underlying32 (zero_u64 _) rfl (hmap.alloc _) o.key rfl hwk.out ?_; rw [Hf.out]))
            go_ret2
            exact cons_hit HRest.out.symm (hbel.alloc hbel.size _)
    · obtain rfl : k = n := by omega
      have hrest := hc.rest
      rw [List.drop_eq_nil_of_le (by omega), otherGo] at hrest
      have HRest := Lib.hid hrest
      have hbel := hc.below
      clear hrest hc
      go_wp2
      go_ret2
      exact cons_end HRest.out.symm hbel
end Go.Proofs.YtgpkekdbohdbfaaGreatDoor
