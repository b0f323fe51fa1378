/- amblerref32.Text and the chapter's example by their contracts. -/
import Derived.Test.YtgpkekdbohdbfaaDoorScribeE
namespace Go.Proofs.YtgpkekdbohdbfaaDoor
open Go.RowKit AmS AmD AmW

/-- what amblerref32.Text answers of few operations -/
def RTextPost (w : World) (r : Except (Nat × Nat) (List UInt8)) (e : Ending) (w' : World) : Prop :=
  (match r with
   | .error p => e = .returned (.tuple #[.string ⟨#[]⟩, .int .i64 (p.1 : Int), .int .i64 (p.2 : Int)])
   | .ok s => e = .returned (.tuple #[strV s, .int .i64 0, .int .i64 0])) ∧ Below w.heap.size w w'
theorem rtext_err {w w' : World} {r : Except (Nat × Nat) (List UInt8)} {i k : Nat} (h : r = .error (i, k)) (hb : Below w.heap.size w w') :
    RTextPost w r (.returned (.tuple #[.string ⟨#[]⟩, .int .i64 (i : Int), .int .i64 (k : Int)])) w' := by
  subst h; exact ⟨rfl, hb⟩
theorem rtext_ok {w w' : World} {r : Except (Nat × Nat) (List UInt8)} {s : ByteArray} (h : r = .ok s.data.toList) (hb : Below w.heap.size w w') :
    RTextPost w r (.returned (.tuple #[.string s, .int .i64 0, .int .i64 0])) w' := by
  subst h; exact ⟨by simp only [strV_data], hb⟩
/-- where the loop of amblerref32.Text stands -/
structure RTextAt (w : World) (l : List SOp) (k : Nat) (s : ByteArray) (wr : World) : Prop where
  text : s.data.toList = textOf (l.take k)
  right : ∀ o ∈ l.take k, rightB o = true
  below : Below w.heap.size w wr
theorem RTextAt.len {w wr : World} {l : List SOp} {k : Nat} {s : ByteArray} (h : RTextAt w l k s wr) (hk : k ≤ 300) : s.size ≤ 24300 := by
  have h1 := textOf_le _ h.right
  have h2 : (l.take k).length ≤ k := List.length_take_le _ _
  have h3 : s.data.toList.length = s.size := by simp
  rw [h.text] at h3
  omega

set_option maxHeartbeats 4000000 in
set_option maxRecDepth 100000 in
theorem ref32_Text (A : Option Addr) (n c : Nat) (l : List SOp) (w : World) (h : Reads w w.heap.size 5 A n (opsCells l)) (hcap : n ≤ c) (hn : n ≤ 300) (hwf : ∀ o ∈ l, opWf o) :
    Calls Tryd.prog 13 #[.slice A n c] w (RTextPost w (textS l)) := by
  have hl : l.length = n := by have := h.1; rw [opsCells_length] at this; omega
  have HL := Lib.hid hl
  have hn' : ¬ (2000 : Int) < (n : Int) := by omega
  obtain ⟨R, hR⟩ : ∃ R, textS l = R := ⟨_, rfl⟩
  rw [hR]
  have HR := Lib.hid hR
  clear hl hR
  go_enter Tryd.func13, Tryd.ntmps13
  go_wp2
  go_loopw [2, 3, 4, 5, 6, 7, 8, 9, 16] (fun v2 v3 v4 v5 _ _ _ _ i wr => ∃ (k : Nat) (s : ByteArray), k ≤ n ∧ i = .int .i64 k ∧ v2 = .string ⟨#[]⟩ ∧ v3 = .int .i64 0 ∧ v4 = .int .i64 0 ∧ v5 = .string s ∧ RTextAt w l k s wr) (fun _ _ _ _ _ _ _ _ i _ => n - (intOf i).toNat)
  case atStart => exact ⟨0, ⟨#[]⟩, by omega, rfl, rfl, rfl, rfl, rfl, by simp [textOf], (fun o ho => by simp at ho), Below.refl _ _⟩
  case round =>
    obtain ⟨k, s, hk, rfl, rfl, rfl, rfl, rfl, hat⟩ := hrel
    by_cases hlt : k < n
    · have ho : l[k]? = some (l[k]'(by rw [HL.out]; omega)) := List.getElem?_eq_getElem _
      have hw0 := hwf _ (List.getElem_mem (show k < l.length by rw [HL.out]; omega))
      generalize l[k]'(by rw [HL.out]; omega) = o at ho hw0
      have hbel := hat.below
      obtain ⟨b, off, rfl, hb, c0, c1, c2, c3, c4⟩ := op_cells (h.below hbel) ho
      have hlt' : (k : Int) < (n : Int) := by omega
      have HLn := Lib.hid (fun (b : Obj) => ref32_Line o (wr.alloc b) hw0)
      have hslen := hat.len (by omega)
      cases hr : rightB o with
      | false =>
        have HE := Lib.hid (show R = .error (k, 3) from by rw [← HR.out]; exact textS_wrong (wrong_hit ho hat.right hr))
        have HLn' := Lib.hid (fun (b : Obj) => show Calls Tryd.prog 10 #[opV o] (wr.alloc b) (fun e w' => e = .returned (.tuple #[.string ⟨#[]⟩, .int .i64 3]) ∧ Below (wr.alloc b).heap.size (wr.alloc b) w') from by have := HLn.out b; unfold RLinePost at this; rw [hr] at this; exact this)
        unfold opV at HLn'
        clear HLn hr hat ho
        go_wp2_with fail
        refine (HLn'.out _).mono ?_
        rintro e w1 ⟨rfl, hb1⟩
        have hbel1 := (hbel.alloc hbel.size _).trans (hb1.mono (by have := hbel.size; simp; omega))
        go_wp2
        go_ret3
        exact rtext_err HE.out hbel1
      | true =>
        have htk := textOf_take ho
        have hll := lineOf_len hr
        have hrt : ∀ x ∈ l.take (k + 1), rightB x = true := by
          intro x hx
          rw [take_snoc_op ho] at hx
          rcases List.mem_append.1 hx with hx | hx
          · exact hat.right x hx
          · obtain rfl : x = o := by simpa using hx
            exact hr
        have HLn' := Lib.hid (fun (b : Obj) => show Calls Tryd.prog 10 #[opV o] (wr.alloc b) (fun e w' => e = .returned (.tuple #[strV (lineOf o), .int .i64 0]) ∧ Below (wr.alloc b).heap.size (wr.alloc b) w') from by have := HLn.out b; unfold RLinePost at this; rw [hr] at this; exact this)
        obtain ⟨t, hs⟩ : ∃ t : ByteArray, (⟨(lineOf o).toArray⟩ : ByteArray) = t := ⟨_, rfl⟩
        have hsz : t.size = (lineOf o).length := by rw [← hs]; show (lineOf o).toArray.size = _; simp
        have hsd : lineOf o = t.data.toList := by rw [← hs]
        unfold strV opV at HLn'
        rw [hs] at HLn'
        rw [← hsz] at hll
        rw [hsd, ← hat.text] at htk
        have HTK := Lib.hid htk
        have HRT := Lib.hid hrt
        clear htk hrt HLn hr hs hsz hsd hat ho
        go_wp2_with fail
        refine (HLn'.out _).mono ?_
        rintro e w1 ⟨rfl, hb1⟩
        have hbel1 := (hbel.alloc hbel.size _).trans (hb1.mono (by have := hbel.size; simp; omega))
        go_wp2
        go_roundw
        case rel => exact ⟨k + 1, s ++ (t ++ ⟨#[10]⟩), by omega, by go_num, rfl, rfl, rfl, rfl, by rw [HTK.out, bdata_append, bdata_append], HRT.out, hbel1⟩
        case measure => simp [intOf]; omega
    · obtain rfl : k = n := by omega
      have hlt' : ¬ (k : Int) < (k : Int) := by omega
      have htl : l.take k = l := List.take_of_length_le (by rw [HL.out]; omega)
      have hbel := hat.below
      have hslen := hat.len (by omega)
      have htext := hat.text
      have hright := hat.right
      rw [htl] at htext hright
      have hw := wrong_none.2 hright
      have hRd := (h.below hbel).more hbel.size
      have HC := ref_Other A k c l wr hRd (by omega) hcap
      clear hat htl hright
      cases hot : other l with
      | some i =>
        rw [hot] at HC
        have HE := Lib.hid (show R = .error (i, 8) from by rw [← HR.out]; exact textS_other hw hot)
        have HC' := Lib.hid (show Calls Tryd.prog 46 #[.slice A k c] wr fun e w' => e = .returned (.int .i64 (i : Int)) ∧ Below wr.heap.size wr w' from HC)
        have hi0 : (0 : Int) ≤ (i : Int) := by omega
        have hi9 : (i : Int) < 9223372036854775807 := by have := other_lt hot; have := HL.out; omega
        clear HC hot hw hRd htext
        go_wp2_with fail
        refine HC'.out.mono ?_
        rintro e w1 ⟨rfl, hb1⟩
        go_wp2
        go_ret3
        exact rtext_err HE.out (hbel.trans (hb1.mono hbel.size))
      | none =>
        rw [hot] at HC
        have HE := Lib.hid (show R = .ok s.data.toList from by rw [← HR.out, htext]; exact textS_fine hw hot)
        have HC' := Lib.hid (show Calls Tryd.prog 46 #[.slice A k c] wr fun e w' => e = .returned (.int .i64 (-1)) ∧ Below wr.heap.size wr w' from HC)
        have hnl : ¬ (60000 : Int) < (s.size : Int) := by omega
        clear HC hot hw hRd htext
        go_wp2_with fail
        refine HC'.out.mono ?_
        rintro e w1 ⟨rfl, hb1⟩
        go_wp2
        go_ret3
        exact rtext_ok HE.out (hbel.trans (hb1.mono hbel.size))

theorem ex_line : lineOf ⟨2, 1, 2, 3, 0⟩ = [112, 117, 116, 32, 48, 120, 49, 32, 48, 120, 50, 32, 48, 120, 51] := by rfl
set_option maxHeartbeats 1000000 in
theorem alive32 {E : Nat → Addr} (w : World) (hE : ScribeIn E w) :
    Calls Tryd.prog 7 #[] w fun e w' => e = .returned (.bool true) ∧ Below w.heap.size w w' := by
  have hL := fun (W : World) (hW : ScribeIn E W) => scribe_Line (E := E) ⟨2, 1, 2, 3, 0⟩ W (by unfold opWf; simp) hW
  have HL := Lib.hid (fun (W : World) (hW : ScribeIn E W) => show Calls Tryd.prog 9 #[.agg #[.int .i64 2, .int .u64 1, .int .u64 2, .int .u64 3, .int .i64 0]] W (fun e w' => e = .returned (.tuple #[.string ⟨#[112, 117, 116, 32, 48, 120, 49, 32, 48, 120, 50, 32, 48, 120, 51]⟩, .nilIface]) ∧ Below W.heap.size W w') from by
    have := hL W hW
    unfold LinePost at this
    simp only [show rightB ⟨2, 1, 2, 3, 0⟩ = true from rfl, if_true, ex_line] at this
    exact this)
  clear hL
  go_enter Tryd.func7, Tryd.ntmps7
  go_wp2_with fail
  refine (HL.out _ hE).mono ?_
  rintro e w1 ⟨rfl, hb1⟩
  go_wp2
  go_ret
  exact ⟨rfl, hb1⟩
end Go.Proofs.YtgpkekdbohdbfaaDoor
