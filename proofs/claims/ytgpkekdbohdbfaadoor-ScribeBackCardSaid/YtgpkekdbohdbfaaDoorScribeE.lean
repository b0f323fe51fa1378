/- scribe.Long and scribe.Text by their contracts. -/
import Derived.Test.YtgpkekdbohdbfaaDoorScribeD
namespace Go.Proofs.YtgpkekdbohdbfaaDoor
open Go.RowKit AmS AmD AmW

theorem scribe_Line {E : Nat → Addr} (o : SOp) (w : World) (hwf : opWf o) (hE : ScribeIn E w) : Calls Tryd.prog 9 #[opV o] w (LinePost E w o) := by
  cases h : rightB o with
  | false => exact scribe_Line_not o w h hE
  | true => exact scribe_Line_right o w h hwf hE
theorem longOf_take {l : List SOp} {k : Nat} {o : SOp} (h : l[k]? = some o) : longOf (l.take (k + 1)) = longOf (l.take k) + if rightB o then (lineOf o).length + 1 else 0 := by rw [take_snoc_op h, longOf_snoc]
theorem textOf_take {l : List SOp} {k : Nat} {o : SOp} (h : l[k]? = some o) : textOf (l.take (k + 1)) = textOf (l.take k) ++ (lineOf o ++ [10]) := by rw [take_snoc_op h, textOf_snoc]
theorem longOf_take_le (l : List SOp) (k : Nat) (hk : k ≤ 300) : longOf (l.take k) ≤ 24300 := by
  have h1 := longOf_le (l.take k)
  have h2 : (l.take k).length ≤ k := List.length_take_le _ _
  omega

set_option maxHeartbeats 2000000 in
set_option maxRecDepth 100000 in
theorem scribe_Long {E : Nat → Addr} (A : Option Addr) (n c : Nat) (l : List SOp) (w : World) (h : Reads w w.heap.size 5 A n (opsCells l)) (hn : n ≤ 300) (hwf : ∀ o ∈ l, opWf o) (hE : ScribeIn E w) :
    Calls Tryd.prog 14 #[.slice A n c] w fun e w' => e = .returned (.int .i64 (longOf l : Int)) ∧ Below w.heap.size w w' := by
  have hl : l.length = n := by have := h.1; rw [opsCells_length] at this; omega
  have HL := Lib.hid hl
  clear hl
  go_enter Tryd.func14, Tryd.ntmps14
  go_wp2
  go_loopw [3, 5, 6, 7, 10] (fun v _ _ _ i wr => ∃ k m : Nat, k ≤ n ∧ i = .int .i64 k ∧ v = .int .i64 m ∧ Hid (longOf (l.take k) = m) ∧ Below w.heap.size w wr) (fun _ _ _ _ i _ => n - (intOf i).toNat)
  case atStart => exact ⟨0, 0, by omega, rfl, rfl, Lib.hid rfl, Below.refl _ _⟩
  case round =>
    obtain ⟨k, m, hk, rfl, rfl, hm, hbel⟩ := hrel
    by_cases hlt : k < n
    · have ho : l[k]? = some (l[k]'(by rw [HL.out]; omega)) := List.getElem?_eq_getElem _
      have hw0 := hwf _ (List.getElem_mem (show k < l.length by rw [HL.out]; omega))
      generalize l[k]'(by rw [HL.out]; omega) = o at ho hw0
      obtain ⟨b, off, rfl, hb, c0, c1, c2, c3, c4⟩ := op_cells (h.below hbel) ho
      have htk := longOf_take ho
      have hm2 := longOf_take_le l k (by omega)
      rw [hm.out] at htk hm2
      have hlt' : (k : Int) < (n : Int) := by omega
      have HLn := Lib.hid (fun (b : Obj) => scribe_Line o (wr.alloc b) hw0 ((hE.below hbel (Nat.le_refl _)).alloc b))
      clear ho hm
      cases hr : rightB o with
      | false =>
        rw [hr] at htk
        have HTK := Lib.hid htk
        have HLn' := Lib.hid (fun (b : Obj) => show Calls Tryd.prog 9 #[opV o] (wr.alloc b) (fun e w' => e = .returned (.tuple #[.string ⟨#[]⟩, .iface 196 (.pointer (some (E 3)))]) ∧ Below (wr.alloc b).heap.size (wr.alloc b) w') from by have := HLn.out b; unfold LinePost at this; rw [hr] at this; exact this)
        unfold opV at HLn'
        clear htk HLn hr
        go_wp2_with fail
        refine (HLn'.out _).mono ?_
        rintro e w1 ⟨rfl, hb1⟩
        have hbel1 := (hbel.alloc hbel.size _).trans (hb1.mono (by have := hbel.size; simp; omega))
        go_wp2
        go_roundw
        case rel => exact ⟨k + 1, m, by omega, by go_num, rfl, Lib.hid (by rw [HTK.out]; simp), hbel1⟩
        case measure => simp [intOf]; omega
      | true =>
        rw [hr] at htk
        simp only [if_true] at htk
        have hll := lineOf_len hr
        have HLn' := Lib.hid (fun (b : Obj) => show Calls Tryd.prog 9 #[opV o] (wr.alloc b) (fun e w' => e = .returned (.tuple #[strV (lineOf o), .nilIface]) ∧ Below (wr.alloc b).heap.size (wr.alloc b) w') from by have := HLn.out b; unfold LinePost at this; rw [hr] at this; exact this)
        obtain ⟨s, hs⟩ : ∃ s : ByteArray, (⟨(lineOf o).toArray⟩ : ByteArray) = s := ⟨_, rfl⟩
        have hsz : s.size = (lineOf o).length := by rw [← hs]; show (lineOf o).toArray.size = _; simp
        unfold strV opV at HLn'
        rw [hs] at HLn'
        rw [← hsz] at htk hll
        have HTK := Lib.hid htk
        clear htk HLn hr hs hsz
        go_wp2_with fail
        refine (HLn'.out _).mono ?_
        rintro e w1 ⟨rfl, hb1⟩
        have hbel1 := (hbel.alloc hbel.size _).trans (hb1.mono (by have := hbel.size; simp; omega))
        go_wp2
        go_roundw
        case rel => exact ⟨k + 1, m + (s.size + 1), by omega, by go_num, by go_num, Lib.hid HTK.out, hbel1⟩
        case measure => simp [intOf]; omega
    · obtain rfl : k = n := by omega
      have hm' := hm.out
      rw [List.take_of_length_le (by rw [HL.out]; omega)] at hm'
      have HM := Lib.hid hm'
      clear hm hm'
      go_wp2
      go_ret
      exact ⟨by rw [HM.out]; rfl, hbel⟩

/-- what scribe.Text answers of few operations -/
def TextSPost (E : Nat → Addr) (w : World) (r : Except (Nat × Nat) (List UInt8)) (e : Ending) (w' : World) : Prop :=
  (match r with
   | .error p => e = .returned (.tuple #[.string ⟨#[]⟩, .int .i64 (p.1 : Int), .iface 196 (.pointer (some (E p.2)))])
   | .ok s => e = .returned (.tuple #[strV s, .int .i64 0, .nilIface])) ∧ Below w.heap.size w w'
theorem textS_err {E : Nat → Addr} {w w' : World} {r : Except (Nat × Nat) (List UInt8)} {i k : Nat} (h : r = .error (i, k)) (hb : Below w.heap.size w w') :
    TextSPost E w r (.returned (.tuple #[.string ⟨#[]⟩, .int .i64 (i : Int), .iface 196 (.pointer (some (E k)))])) w' := by
  subst h; exact ⟨rfl, hb⟩
theorem textS_ok {E : Nat → Addr} {w w' : World} {r : Except (Nat × Nat) (List UInt8)} {s : List UInt8} (h : r = .ok s) (hb : Below w.heap.size w w') :
    TextSPost E w r (.returned (.tuple #[.string ⟨s.toArray⟩, .int .i64 0, .nilIface])) w' := by
  subst h; exact ⟨rfl, hb⟩
theorem textS_wrong {l : List SOp} {i : Nat} (h : wrong l = some i) : textS l = .error (i, 3) := by unfold textS; rw [h]
theorem textS_other {l : List SOp} {i : Nat} (h : wrong l = none) (h2 : other l = some i) : textS l = .error (i, 8) := by unfold textS; rw [h]; simp only; rw [h2]
theorem textS_fine {l : List SOp} (h : wrong l = none) (h2 : other l = none) : textS l = .ok (textOf l) := by unfold textS; rw [h]; simp only; rw [h2]
theorem bld_len {B b : Nat} {l : List UInt8} {w : World} (h : BldAt B b l w) : Calls Tryd.prog 44 #[.pointer (some ⟨b, 0, none⟩)] w fun e w' => e = .returned (.int .i64 (l.length : Int)) ∧ w = w' := by
  refine (Tryd.Builder_Len B b (Lib.byteCells l) w h).mono ?_
  rintro e w' ⟨he, hw⟩
  rw [Lib.byteCells_length] at he
  exact ⟨he, hw.symm⟩
/-- where the loop of scribe.Text stands -/
structure TextAt (w : World) (l : List SOp) (k : Nat) (wr : World) : Prop where
  bld : BldAt w.heap.size w.heap.size (textOf (l.take k)) wr
  right : ∀ o ∈ l.take k, rightB o = true
  below : Below w.heap.size w wr
theorem TextAt.len {w wr : World} {l : List SOp} {k : Nat} (h : TextAt w l k wr) (hk : k ≤ 300) : (textOf (l.take k)).length ≤ 24300 := by
  have h1 := textOf_le _ h.right
  have h2 : (l.take k).length ≤ k := List.length_take_le _ _
  omega

set_option maxHeartbeats 4000000 in
set_option maxRecDepth 100000 in
theorem scribe_Text {E : Nat → Addr} (A : Option Addr) (n c : Nat) (l : List SOp) (w : World) (h : Reads w w.heap.size 5 A n (opsCells l)) (hn : n ≤ 300) (hwf : ∀ o ∈ l, opWf o) (hE : ScribeIn E w) :
    Calls Tryd.prog 12 #[.slice A n c] w (TextSPost E w (textS l)) := by
  have hl : l.length = n := by have := h.1; rw [opsCells_length] at this; omega
  have HL := Lib.hid hl
  have hn' : ¬ (2000 : Int) < (n : Int) := by omega
  obtain ⟨R, hR⟩ : ∃ R, textS l = R := ⟨_, rfl⟩
  rw [hR]
  have HR := Lib.hid hR
  clear hl hR
  go_enter Tryd.func12, Tryd.ntmps12
  go_wp2
  go_loopw [2, 3, 4, 6, 7, 8, 9, 18] (fun v2 v3 v4 _ _ _ _ i wr => ∃ k : Nat, k ≤ n ∧ i = .int .i64 k ∧ v2 = .string ⟨#[]⟩ ∧ v3 = .int .i64 0 ∧ v4 = .nilIface ∧ TextAt w l k wr) (fun _ _ _ _ _ _ _ i _ => n - (intOf i).toNat)
  case atStart => exact ⟨0, by omega, rfl, rfl, rfl, rfl, BldAt.new w, (fun o ho => by simp at ho), (Below.refl _ _).alloc (Nat.le_refl _) _⟩
  case round =>
    obtain ⟨k, hk, rfl, rfl, rfl, rfl, hat⟩ := hrel
    by_cases hlt : k < n
    · have ho : l[k]? = some (l[k]'(by rw [HL.out]; omega)) := List.getElem?_eq_getElem _
      have hw0 := hwf _ (List.getElem_mem (show k < l.length by rw [HL.out]; omega))
      generalize l[k]'(by rw [HL.out]; omega) = o at ho hw0
      have hbel := hat.below
      obtain ⟨b, off, rfl, hb, c0, c1, c2, c3, c4⟩ := op_cells (h.below hbel) ho
      have hlt' : (k : Int) < (n : Int) := by omega
      have HLn := Lib.hid (fun (b : Obj) => scribe_Line o (wr.alloc b) hw0 ((hE.below hbel (Nat.le_refl _)).alloc b))
      have hblen := hat.len (by omega)
      have hbld := hat.bld
      cases hr : rightB o with
      | false =>
        have HE := Lib.hid (show R = .error (k, 3) from by rw [← HR.out]; exact textS_wrong (wrong_hit ho hat.right hr))
        have HLn' := Lib.hid (fun (b : Obj) => show Calls Tryd.prog 9 #[opV o] (wr.alloc b) (fun e w' => e = .returned (.tuple #[.string ⟨#[]⟩, .iface 196 (.pointer (some (E 3)))]) ∧ Below (wr.alloc b).heap.size (wr.alloc b) w') from by have := HLn.out b; unfold LinePost at this; rw [hr] at this; exact this)
        unfold opV at HLn'
        clear HLn hr hat ho hbld
        go_wp2_with fail
        refine (HLn'.out _).mono ?_
        rintro e w1 ⟨rfl, hb1⟩
        have hbel1 := (hbel.alloc hbel.size _).trans (hb1.mono (by have := hbel.size; simp; omega))
        go_wp2
        go_ret3
        exact textS_err HE.out hbel1
      | true =>
        have htk := textOf_take ho
        have hll := lineOf_len hr
        have hrt : ∀ x ∈ l.take (k + 1), rightB x = true := by
          intro x hx
          rw [take_snoc_op ho] at hx
          rcases List.mem_append.1 hx with hx | hx
          · exact hat.right x hx
          · obtain rfl : x = o := by simpa using hx
            exact hr
        have HLn' := Lib.hid (fun (b : Obj) => show Calls Tryd.prog 9 #[opV o] (wr.alloc b) (fun e w' => e = .returned (.tuple #[strV (lineOf o), .nilIface]) ∧ Below (wr.alloc b).heap.size (wr.alloc b) w') from by have := HLn.out b; unfold LinePost at this; rw [hr] at this; exact this)
        obtain ⟨s, hs⟩ : ∃ s : ByteArray, (⟨(lineOf o).toArray⟩ : ByteArray) = s := ⟨_, rfl⟩
        have hsz : s.size = (lineOf o).length := by rw [← hs]; show (lineOf o).toArray.size = _; simp
        have hsd : lineOf o = s.data.toList := by rw [← hs]
        unfold strV opV at HLn'
        rw [hs] at HLn'
        rw [← hsz] at hll
        rw [hsd] at htk
        have HTK := Lib.hid htk
        have HRT := Lib.hid hrt
        have hsl : s.data.toList.length = s.size := by simp
        have HSL := Lib.hid hsl
        clear htk hrt HLn hr hs hsz hsd hat ho hsl
        go_wp2_with fail
        refine (HLn'.out _).mono ?_
        rintro e w1 ⟨rfl, hb1⟩
        have hbel1 := (hbel.alloc hbel.size _).trans (hb1.mono (by have := hbel.size; simp; omega))
        have hbld1 := (hbld.alloc (.cells #[.int .i64 o.kind, .int .u64 o.key, .int .u64 o.val, .int .u64 o.hash, .int .i64 o.iter] 27)).below hb1
        go_wp2_with fail
        refine (builder_text _ _ _ _ _ hbld1 (by omega) (by omega)).mono ?_
        rintro e w2 ⟨rfl, hbld2, hB2⟩
        have hbel2 := hbel1.trans hB2
        go_wp2_with fail
        refine (builder_byte _ _ _ 10 _ hbld2 (by rw [List.length_append, HSL.out]; omega)).mono ?_
        rintro e w3 ⟨rfl, hbld3, hB3⟩
        have hbel3 := hbel2.trans hB3
        go_wp2
        go_roundw
        case rel => exact ⟨k + 1, by omega, by go_num, rfl, rfl, rfl, by rw [HTK.out, ← List.append_assoc]; exact hbld3, HRT.out, hbel3⟩
        case measure => simp [intOf]; omega
    · obtain rfl : k = n := by omega
      have hlt' : ¬ (k : Int) < (k : Int) := by omega
      have htl : l.take k = l := List.take_of_length_le (by rw [HL.out]; omega)
      have hbel := hat.below
      have hbld := hat.bld
      have hblen := hat.len (by omega)
      have hright := hat.right
      rw [htl] at hbld hblen hright
      have hw := wrong_none.2 hright
      have hRd := (h.below hbel).more hbel.size
      have hEr := hE.below hbel (Nat.le_refl _)
      have HC := script_Consistent A k c l wr hRd (by omega) hwf
      have HHB := Lib.hid hbld
      clear hat htl hright
      cases hot : other l with
      | some i =>
        rw [hot] at HC
        have HE := Lib.hid (show R = .error (i, 8) from by rw [← HR.out]; exact textS_other hw hot)
        have HC' := Lib.hid (show Calls Tryd.prog 29 #[.slice A k c] wr fun e w' => e = .returned (.tuple #[.int .i64 i, .bool false]) ∧ Below wr.heap.size wr w' from HC)
        clear HC hot hw hbld hRd
        go_wp2_with fail
        refine HC'.out.mono ?_
        rintro e w1 ⟨rfl, hb1⟩
        have h8 : w1.cell? _ = _ := (hEr.below hb1 (Nat.le_refl _)).e8
        simp only [gE] at h8
        go_wp2
        go_quiet (fail)
        go_wp2
        go_ret3
        exact textS_err HE.out (below_drewN (hbel.trans (hb1.mono hbel.size)) _)
      | none =>
        rw [hot] at HC
        have HE := Lib.hid (show R = .ok (textOf l) from by rw [← HR.out]; exact textS_fine hw hot)
        have HC' := Lib.hid (show Calls Tryd.prog 29 #[.slice A k c] wr fun e w' => e = .returned (.tuple #[.int .i64 0, .bool true]) ∧ Below wr.heap.size wr w' from HC)
        clear HC hot hw hRd
        go_wp2_with fail
        refine HC'.out.mono ?_
        rintro e w1 ⟨rfl, hb1⟩
        have hbld1 := hbld.below hb1
        have hbel1 := hbel.trans (hb1.mono hbel.size)
        have hnl : ¬ (60000 : Int) < ((textOf l).length : Int) := by omega
        have HLen := Lib.hid (bld_len hbld1)
        have HStr := Lib.hid (Tryd.Builder_String_any w.heap.size w.heap.size (textOf l) w1 hbld1 hbld1.le)
        clear hbld1 hbld
        go_wp2_with fail
        refine HLen.out.mono ?_
        rintro e w2 ⟨rfl, rfl⟩
        go_wp2_with fail
        refine HStr.out.mono ?_
        rintro e w3 ⟨rfl, hb3⟩
        go_wp2
        go_ret3
        exact textS_ok HE.out (hbel1.trans hb3)
end Go.Proofs.YtgpkekdbohdbfaaDoor
