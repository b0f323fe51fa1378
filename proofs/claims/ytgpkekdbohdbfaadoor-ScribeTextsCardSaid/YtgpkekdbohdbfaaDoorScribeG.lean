/- ScribeTexts: its walk: whatever the operations, true. -/
import Derived.Test.YtgpkekdbohdbfaaDoorScribeF
import Derived.Test.YtgpkekdbohdbfaaDoorScriptI
namespace Go.Proofs.YtgpkekdbohdbfaaDoor
open Go.RowKit AmS AmD AmW

/-- where the loop of ScribeTexts stands -/
structure STextsAt (W : World) (l : List SOp) (k m : Nat) (va : Value) (wr : World) : Prop where
  all : wr.ownsRow W.heap.size 28 5 va k (opsCells (l.take k))
  long : Hid (longOf (l.take k) = m)
  below : Below W.heap.size W wr

set_option maxHeartbeats 400000 in
theorem scribe_texts_long {E : Nat → Addr} (A : Option Addr) (n c : Nat) (w : World) (hn : 300 < n) (hE : ScribeIn E w) :
    Calls Tryd.prog 3 #[.slice A n c] w (LawTrue w) := by
  have hn' : (300 : Int) < (n : Int) := by omega
  have HA := Lib.hid (alive32 w hE)
  go_enter Tryd.func3, Tryd.ntmps3
  go_wp2_with fail
  refine HA.out.mono ?_
  rintro e W ⟨rfl, hbW⟩
  go_wp2
  go_ret
  exact ⟨rfl, hbW⟩

set_option maxHeartbeats 4000000 in
set_option maxRecDepth 100000 in
theorem scribe_texts_few {E : Nat → Addr} (A : Option Addr) (n c : Nat) (l : List SOp) (w : World) (h : Reads w w.heap.size 5 A n (opsCells l)) (hcap : n ≤ c) (hwf : ∀ o ∈ l, opWf o) (hn : n ≤ 300) (hE : ScribeIn E w) (hErr : ErrsIn E w) :
    Calls Tryd.prog 3 #[.slice A n c] w (LawTrue w) := by
  have hl : l.length = n := by have := h.1; rw [opsCells_length] at this; omega
  have hn' : ¬ (300 : Int) < (n : Int) := by omega
  have HA := Lib.hid (alive32 w hE)
  have HL := Lib.hid hl
  have HNum3 := Lib.hid (fun (V : World) (hV : Below w.heap.size w V) => show Calls Tryd.prog 11 #[.iface 196 (.pointer (some (E 3)))] V (fun e w' => e = .returned (.int .i64 3) ∧ Below V.heap.size V w') from num_err (hErr.below hV (Nat.le_refl _)) 3 (by omega) (by omega))
  clear hl
  go_enter Tryd.func3, Tryd.ntmps3
  go_wp2_with fail
  refine HA.out.mono ?_
  rintro e W ⟨rfl, hbW⟩
  go_wp2
  go_loopw [2, 3, 4, 6, 7, 8, 9, 10, 11, 26] (fun v2 va v4 _ _ _ _ _ _ i wr => ∃ k m : Nat, k ≤ n ∧ i = .int .i64 k ∧ v2 = .bool false ∧ v4 = .int .i64 m ∧ STextsAt W l k m va wr) (fun _ _ _ _ _ _ _ _ _ i _ => n - (intOf i).toNat)
  case atStart => exact ⟨0, 0, by omega, rfl, rfl, rfl, own_empty W W.heap.size 28 5 (Nat.le_refl _), Lib.hid rfl, (Below.refl _ _).alloc (Nat.le_refl _) _⟩
  case round =>
    obtain ⟨k, m, hk, rfl, rfl, rfl, hat⟩ := hrel
    obtain ⟨wo, rfl⟩ : ∃ wo : World, wo = wr := ⟨_, rfl⟩
    by_cases hlt : k < n
    · have ho : l[k]? = some (l[k]'(by rw [HL.out]; omega)) := List.getElem?_eq_getElem _
      have hw0 := hwf _ (List.getElem_mem (show k < l.length by rw [HL.out]; omega))
      generalize l[k]'(by rw [HL.out]; omega) = o at ho hw0
      have hbel := hat.below
      have hall := hat.all
      obtain ⟨b, off, rfl, hb, c0, c1, c2, c3, c4⟩ := op_cells (h.below (hbW.trans (hbel.mono hbW.size))) ho
      have htk := longOf_take ho
      have hm2 := longOf_take_le l k (by omega)
      rw [hat.long.out] at htk hm2
      have hlt' : (k : Int) < (n : Int) := by omega
      have hta : opsCells (l.take (k + 1)) = opsCells (l.take k) ++ opCells o := by rw [take_snoc_op ho, opsCells_snoc]
      have HT := Lib.hid hta
      clear hta ho hat
      cases hr : rightB o with
      | false =>
        rw [hr] at htk
        have HTK := Lib.hid htk
        have HLn := Lib.hid (fun (V : World) (hV : Below w.heap.size w V) => show Calls Tryd.prog 9 #[opV o] V (fun e w' => e = .returned (.tuple #[.string ⟨#[]⟩, .iface 196 (.pointer (some (E 3)))]) ∧ Below V.heap.size V w') from by have := scribe_Line (E := E) o V hw0 (hE.below hV (Nat.le_refl _)); unfold LinePost at this; rw [hr] at this; exact this)
        have HRn := Lib.hid (fun (V : World) => show Calls Tryd.prog 10 #[opV o] V (fun e w' => e = .returned (.tuple #[.string ⟨#[]⟩, .int .i64 3]) ∧ Below V.heap.size V w') from by have := ref32_Line o V hw0; unfold RLinePost at this; rw [hr] at this; exact this)
        have HOf' := Lib.hid (fun (V : World) => law31_Of o V)
        unfold opV at HLn HRn HOf'
        clear htk hr 
        go_wp2_with fail
        refine (HOf'.out _).mono ?_
        rintro e w1 ⟨rfl, hb1⟩
        have hall1 := (own_below (hall.alloc _) hb1 (Nat.le_refl _)).alloc (.cells #[.int .i64 o.kind, .int .u64 o.key, .int .u64 o.val, .int .u64 o.hash, .int .i64 o.iter] 28)
        have hbel1 := (hbel.alloc hbel.size _).trans (hb1.mono (by have := hbel.size; simp; omega))
        have hbel1' := hbel1.alloc hbel1.size (.cells #[.int .i64 o.kind, .int .u64 o.key, .int .u64 o.val, .int .u64 o.hash, .int .i64 o.iter] 28)
        have hB1 := ((Blk.new wo 27 #[.int .i64 o.kind, .int .u64 o.key, .int .u64 o.val, .int .u64 o.hash, .int .i64 o.iter]).below hb1 (by simp)).alloc (.cells #[.int .i64 o.kind, .int .u64 o.key, .int .u64 o.val, .int .u64 o.hash, .int .i64 o.iter] 28)
        have hR1 := Blk.new w1 28 #[.int .i64 o.kind, .int .u64 o.key, .int .u64 o.val, .int .u64 o.hash, .int .i64 o.iter]
        have hlt1 : wo.heap.size < w1.heap.size := by have := hb1.size; simp at this; omega
        obtain ⟨W1, hW1⟩ : ∃ W1, W1 = w1.alloc (.cells #[.int .i64 o.kind, .int .u64 o.key, .int .u64 o.val, .int .u64 o.hash, .int .i64 o.iter] 28) := ⟨_, rfl⟩
        obtain ⟨g1, hg1⟩ : ∃ g1, g1 = w1.heap.size := ⟨_, rfl⟩
        rw [← hW1] at hall1 hbel1' hB1 hR1
        rw [← hg1] at hR1 hlt1
        have hgW : g1 < W1.heap.size := hR1.lt
        have x0 := hB1.cell 0
        have x1 := hB1.cell 1
        have x2 := hB1.cell 2
        have x3 := hB1.cell 3
        have x4 := hB1.cell 4
        simp only [List.getElem?_toArray, List.getElem?_cons_zero, List.getElem?_cons_succ] at x0 x1 x2 x3 x4
        have HG := Lib.hid (And.intro hW1 hg1)
        clear hall hbel hb1 hbel1 c0 c1 c2 c3 c4
        go_upto_region 10 with fail
        rw [← hW1, ← hg1]
        clear hW1 hg1
        go_wp2_with fail
        refine (HLn.out _ (hbW.trans (hbel1'.mono hbW.size))).mono ?_
        rintro e w2 ⟨rfl, hb2⟩
        have hall2 := own_below hall1 hb2 (Nat.le_refl _)
        have hbel2 := hbel1'.trans (hb2.mono hbel1'.size)
        have hR2 := hR1.below hb2 hgW
        have y0 := hR2.cell 0
        have y1 := hR2.cell 1
        have y2 := hR2.cell 2
        have y3 := hR2.cell 3
        have y4 := hR2.cell 4
        simp only [List.getElem?_toArray, List.getElem?_cons_zero, List.getElem?_cons_succ] at y0 y1 y2 y3 y4
        clear hall1 hbel1' hB1 hR1 hb2 x0 x1 x2 x3 x4
        go_wp2_with fail
        refine (HRn.out _).mono ?_
        rintro e w3 ⟨rfl, hb3⟩
        have hall3 := own_below hall2 hb3 (Nat.le_refl _)
        have hbel3 := hbel2.trans (hb3.mono hbel2.size)
        have hR3 := hR2.below hb3 hR2.lt
        clear hall2 hbel2 hR2 hb3 y0 y1 y2 y3 y4
        go_wp2_with fail
        refine (HNum3.out _ (hbW.trans (hbel3.mono hbW.size))).mono ?_
        rintro e w4 ⟨rfl, hb4⟩
        have hall4 := own_below hall3 hb4 (Nat.le_refl _)
        have hbel4 := hbel3.trans (hb4.mono hbel3.size)
        have hR4 := hR3.below hb4 hR3.lt
        clear hb4
        have z0 := hR4.cell 0
        have z1 := hR4.cell 1
        have z2 := hR4.cell 2
        have z3 := hR4.cell 3
        have z4 := hR4.cell 4
        simp only [List.getElem?_toArray, List.getElem?_cons_zero, List.getElem?_cons_succ] at z0 z1 z2 z3 z4
        clear hall3 hbel3 hR3
        go_wp2_with (at_builtin; refine wpList_append1 rfl rfl slty_ROp hall4 rfl rfl (by simp) rfl rfl (by omega) hbel4.size ?_; intro v5 w5 hown5 hg5)
        go_roundw
        case rel => exact ⟨k + 1, m, by omega, by go_num, rfl, rfl, by rw [HT.out]; exact hown5, Lib.hid (by rw [HTK.out]; simp), hbel4.trans hg5.below⟩
        case measure => simp [intOf]; omega
      | true =>
        obtain ⟨s, hs⟩ : ∃ s : ByteArray, (⟨(lineOf o).toArray⟩ : ByteArray) = s := ⟨_, rfl⟩
        have hsz : s.size = (lineOf o).length := by rw [← hs]; show (lineOf o).toArray.size = _; simp
        have hll := lineOf_len hr
        rw [hr] at htk
        simp only [if_true] at htk
        rw [← hsz] at htk hll
        have hss : (s.toList != s.toList) = false := by simp
        have HTK := Lib.hid htk
        have HLn := Lib.hid (fun (V : World) (hV : Below w.heap.size w V) => show Calls Tryd.prog 9 #[opV o] V (fun e w' => e = .returned (.tuple #[.string s, .nilIface]) ∧ Below V.heap.size V w') from by have := scribe_Line (E := E) o V hw0 (hE.below hV (Nat.le_refl _)); unfold LinePost strV at this; rw [hr, hs] at this; exact this)
        have HRn := Lib.hid (fun (V : World) => show Calls Tryd.prog 10 #[opV o] V (fun e w' => e = .returned (.tuple #[.string s, .int .i64 0]) ∧ Below V.heap.size V w') from by have := ref32_Line o V hw0; unfold RLinePost strV at this; rw [hr, hs] at this; exact this)
        have HOf' := Lib.hid (fun (V : World) => law31_Of o V)
        unfold opV at HLn HRn HOf'
        clear htk hr hs hsz
        go_wp2_with fail
        refine (HOf'.out _).mono ?_
        rintro e w1 ⟨rfl, hb1⟩
        have hall1 := (own_below (hall.alloc _) hb1 (Nat.le_refl _)).alloc (.cells #[.int .i64 o.kind, .int .u64 o.key, .int .u64 o.val, .int .u64 o.hash, .int .i64 o.iter] 28)
        have hbel1 := (hbel.alloc hbel.size _).trans (hb1.mono (by have := hbel.size; simp; omega))
        have hbel1' := hbel1.alloc hbel1.size (.cells #[.int .i64 o.kind, .int .u64 o.key, .int .u64 o.val, .int .u64 o.hash, .int .i64 o.iter] 28)
        have hB1 := ((Blk.new wo 27 #[.int .i64 o.kind, .int .u64 o.key, .int .u64 o.val, .int .u64 o.hash, .int .i64 o.iter]).below hb1 (by simp)).alloc (.cells #[.int .i64 o.kind, .int .u64 o.key, .int .u64 o.val, .int .u64 o.hash, .int .i64 o.iter] 28)
        have hR1 := Blk.new w1 28 #[.int .i64 o.kind, .int .u64 o.key, .int .u64 o.val, .int .u64 o.hash, .int .i64 o.iter]
        have hlt1 : wo.heap.size < w1.heap.size := by have := hb1.size; simp at this; omega
        obtain ⟨W1, hW1⟩ : ∃ W1, W1 = w1.alloc (.cells #[.int .i64 o.kind, .int .u64 o.key, .int .u64 o.val, .int .u64 o.hash, .int .i64 o.iter] 28) := ⟨_, rfl⟩
        obtain ⟨g1, hg1⟩ : ∃ g1, g1 = w1.heap.size := ⟨_, rfl⟩
        rw [← hW1] at hall1 hbel1' hB1 hR1
        rw [← hg1] at hR1 hlt1
        have hgW : g1 < W1.heap.size := hR1.lt
        have x0 := hB1.cell 0
        have x1 := hB1.cell 1
        have x2 := hB1.cell 2
        have x3 := hB1.cell 3
        have x4 := hB1.cell 4
        simp only [List.getElem?_toArray, List.getElem?_cons_zero, List.getElem?_cons_succ] at x0 x1 x2 x3 x4
        have HG := Lib.hid (And.intro hW1 hg1)
        clear hall hbel hb1 hbel1 c0 c1 c2 c3 c4
        go_upto_region 10 with fail
        rw [← hW1, ← hg1]
        clear hW1 hg1
        go_wp2_with fail
        refine (HLn.out _ (hbW.trans (hbel1'.mono hbW.size))).mono ?_
        rintro e w2 ⟨rfl, hb2⟩
        have hall2 := own_below hall1 hb2 (Nat.le_refl _)
        have hbel2 := hbel1'.trans (hb2.mono hbel1'.size)
        have hR2 := hR1.below hb2 hgW
        have y0 := hR2.cell 0
        have y1 := hR2.cell 1
        have y2 := hR2.cell 2
        have y3 := hR2.cell 3
        have y4 := hR2.cell 4
        simp only [List.getElem?_toArray, List.getElem?_cons_zero, List.getElem?_cons_succ] at y0 y1 y2 y3 y4
        clear hall1 hbel1' hB1 hR1 hb2 x0 x1 x2 x3 x4
        go_wp2_with fail
        refine (HRn.out _).mono ?_
        rintro e w3 ⟨rfl, hb3⟩
        have hall3 := own_below hall2 hb3 (Nat.le_refl _)
        have hbel3 := hbel2.trans (hb3.mono hbel2.size)
        have hR3 := hR2.below hb3 hR2.lt
        clear hall2 hbel2 hR2 hb3 y0 y1 y2 y3 y4
        go_wp2_with fail
        refine (num_nil _).mono ?_
        rintro e w4 ⟨rfl, rfl⟩
        have hall4 := hall3
        have hbel4 := hbel3
        have hR4 := hR3
        have z0 := hR4.cell 0
        have z1 := hR4.cell 1
        have z2 := hR4.cell 2
        have z3 := hR4.cell 3
        have z4 := hR4.cell 4
        simp only [List.getElem?_toArray, List.getElem?_cons_zero, List.getElem?_cons_succ] at z0 z1 z2 z3 z4
        clear hall3 hbel3 hR3
        go_wp2_with (at_builtin; refine wpList_append1 rfl rfl slty_ROp hall4 rfl rfl (by simp) rfl rfl (by omega) hbel4.size ?_; intro v5 w5 hown5 hg5)
        go_roundw
        case rel => exact ⟨k + 1, m + (s.size + 1), by omega, by go_num, rfl, by go_num, by rw [HT.out]; exact hown5, Lib.hid (by rw [HTK.out]), hbel4.trans hg5.below⟩
        case measure => simp [intOf]; omega
    · obtain rfl : k = n := by omega
      have hlt' : ¬ (k : Int) < (k : Int) := by omega
      have hbel := hat.below
      have hall := hat.all
      have hm := hat.long.out
      have hta : l.take k = l := by rw [← HL.out]; exact List.take_length
      rw [hta] at hall hm
      have hbw := hbW.trans (hbel.mono hbW.size)
      obtain ⟨A3, c3, rfl⟩ := own_form hall
      have hc3 := own_cap hall
      have hRd := (h.below hbw).more hbw.size
      have hRa := Reads.of_own hall
      have hEr := hE.below hbw (Nat.le_refl _)
      have hm2 := longOf_take_le l k (by omega)
      rw [hta, hm] at hm2
      have HLong := Lib.hid (fun (V : World) (hV : Below wo.heap.size wo V) => show Calls Tryd.prog 14 #[.slice A k c] V (fun e w' => e = .returned (.int .i64 (m : Int)) ∧ Below V.heap.size V w') from hm ▸ scribe_Long (E := E) A k c l V ((hRd.below hV).more hV.size) (by omega) hwf (hEr.below hV (Nat.le_refl _)))
      have HT0 := scribe_Text (E := E) A k c l wo hRd (by omega) hwf hEr
      have HT1 := fun (V : World) (hV : Below wo.heap.size wo V) => ref32_Text A3 k c3 l V ((hRa.below hV).more hV.size) hc3 (by omega) hwf
      have HNumE := fun (j : Nat) (h1 : 1 ≤ j) (h2 : j ≤ 16) => Lib.hid (fun (V : World) (hV : Below wo.heap.size wo V) => num_err ((hErr.below hbw (Nat.le_refl _)).below hV (Nat.le_refl _)) j h1 h2)
      clear hall hta hm hRd hRa
      cases ht : textS l with
      | error p =>
        obtain ⟨i, j⟩ := p
        have hj : j = 3 ∨ j = 8 := by
          unfold textS at ht
          split at ht
          · cases ht; exact .inl rfl
          · split at ht
            · cases ht; exact .inr rfl
            · cases ht
        rw [ht] at HT0
        have HTa := Lib.hid (show Calls Tryd.prog 12 #[.slice A k c] wo fun e w' => e = .returned (.tuple #[.string ⟨#[]⟩, .int .i64 (i : Int), .iface 196 (.pointer (some (E j)))]) ∧ Below wo.heap.size wo w' from HT0)
        have HTb := Lib.hid (fun (V : World) (hV : Below wo.heap.size wo V) => show Calls Tryd.prog 13 #[.slice A3 k c3] V fun e w' => e = .returned (.tuple #[.string ⟨#[]⟩, .int .i64 (i : Int), .int .i64 (j : Int)]) ∧ Below V.heap.size V w' from by have := HT1 V hV; rw [ht] at this; exact this)
        have HN := HNumE j (by omega) (by omega)
        clear HT0 HT1 HNumE ht hj
        go_wp2_with fail
        refine HTa.out.mono ?_
        rintro e w1 ⟨rfl, hb1⟩
        go_wp2_with fail
        refine (HTb.out _ hb1).mono ?_
        rintro e w2 ⟨rfl, hb2⟩
        have hb12 := hb1.trans (hb2.mono hb1.size)
        go_wp2_with fail
        refine (HN.out _ hb12).mono ?_
        rintro e w3 ⟨rfl, hb3⟩
        have hb13 := hb12.trans (hb3.mono hb12.size)
        go_wp2_with fail
        refine (HLong.out _ hb13).mono ?_
        rintro e w4 ⟨rfl, hb4⟩
        go_wp2
        go_ret
        exact ⟨by simp, hbw.trans ((hb13.trans (hb4.mono hb13.size)).mono hbw.size)⟩
      | ok t =>
        obtain ⟨s, hs⟩ : ∃ s : ByteArray, (⟨t.toArray⟩ : ByteArray) = s := ⟨_, rfl⟩
        rw [ht] at HT0
        have HTa := Lib.hid (show Calls Tryd.prog 12 #[.slice A k c] wo fun e w' => e = .returned (.tuple #[.string s, .int .i64 0, .nilIface]) ∧ Below wo.heap.size wo w' from by have := HT0; unfold TextSPost strV at this; simp only [hs] at this; exact this)
        have HTb := Lib.hid (fun (V : World) (hV : Below wo.heap.size wo V) => show Calls Tryd.prog 13 #[.slice A3 k c3] V fun e w' => e = .returned (.tuple #[.string s, .int .i64 0, .int .i64 0]) ∧ Below V.heap.size V w' from by have := HT1 V hV; rw [ht] at this; unfold RTextPost strV at this; simp only [hs] at this; exact this)
        clear HT0 HT1 HNumE ht hs
        go_wp2_with fail
        refine HTa.out.mono ?_
        rintro e w1 ⟨rfl, hb1⟩
        go_wp2_with fail
        refine (HTb.out _ hb1).mono ?_
        rintro e w2 ⟨rfl, hb2⟩
        have hb12 := hb1.trans (hb2.mono hb1.size)
        go_wp2_with fail
        refine (num_nil _).mono ?_
        rintro e w3 ⟨rfl, rfl⟩
        go_wp2_with fail
        refine (HLong.out _ hb12).mono ?_
        rintro e w4 ⟨rfl, hb4⟩
        go_wp2
        go_ret
        exact ⟨by simp, hbw.trans ((hb12.trans (hb4.mono hb12.size)).mono hbw.size)⟩
theorem law_scribe_texts {E : Nat → Addr} (A : Option Addr) (n c : Nat) (l : List SOp) (w : World) (h : Reads w w.heap.size 5 A n (opsCells l)) (hcap : n ≤ c) (hwf : ∀ o ∈ l, opWf o) (hE : ScribeIn E w) (hErr : ErrsIn E w) :
    Calls Tryd.prog 3 #[.slice A n c] w (LawTrue w) := by
  by_cases hn : 300 < n
  · exact scribe_texts_long A n c w hn hE
  · exact scribe_texts_few A n c l w h hcap hwf (by omega) hE hErr
end Go.Proofs.YtgpkekdbohdbfaaDoor
