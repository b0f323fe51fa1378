/- amblernum.Unsigned and words.figures by their contracts. -/
import Derived.Test.YtgpkekdbohdbfaaGreatDoorDecP
import Derived.Test.YtgpkekdbohdbfaaGreatDoorTexts
import Derived.WalkKit
import Derived.WalkSpells
import Derived.WalkLawsBesides
import Derived.Deep.RegionWith
import Derived.Laws.IdiomStrings
import Derived.Outline
namespace Go.Proofs.YtgpkekdbohdbfaaGreatDoor
open Go.RowKit AmD

theorem byte_ne' {b c : UInt8} {k : Int} (h : b ≠ c) (hk : (c.toNat : Int) = k) : ((b.toNat : Int) == k) = false := by
  rw [beq_eq_false_iff_ne]
  intro e
  exact h (UInt8.toNat_inj.1 (by omega))
/-- a text by its bytes -/
def Says (l : List UInt8) (b : ByteArray) : Prop := b.data.toList = l
def TextPost (w : World) (l : List UInt8) (e : Ending) (w' : World) : Prop := ∃ b : ByteArray, Says l b ∧ e = .returned (.string b) ∧ Below w.heap.size w w'

/-- a row of one byte as a text -/
theorem conv_one (W : World) (a : Addr) (c : UInt8) (h : W.cell? a = some (.int .u8 (c.toNat : Int))) : (convert 81 9 (.slice (some a) 1 1)).run Tryz.prog W = .ok (.string ⟨#[c]⟩) W := by
  refine run_convert_bytes_back (P := Tryz.prog) W 81 9 5 a 1 [c] Tryz.underlying81 Tryz.underlying5 Tryz.underlying9 fun j hj => ?_
  obtain rfl : j = 0 := by simpa using hj
  have : a.add 0 = a := by unfold Addr.add; split <;> simp_all
  rw [this]; exact h

set_option maxHeartbeats 1000000 in
set_option maxRecDepth 100000 in
theorem unsigned_small (n : Nat) (h : n < 10) (w : World) : Calls Tryz.prog 39 #[.int .u64 n] w (TextPost w (digits n)) := by
  have b1 : (n : Int) < 10 := by omega
  have hv : (48 + (n : Int)) = ((dg n).toNat : Int) := by rw [byte_of h]; omega
  have hc := fun b => conv_one (w.alloc (.cells #[.int .u8 (48 + (n : Int))] 5)) b (dg n)
  have hcell : (w.alloc (.cells #[.int .u8 (48 + (n : Int))] 5)).cell? ⟨w.heap.size, 0, none⟩ = some (.int .u8 ((dg n).toNat : Int)) := by
    rw [hv]
    exact (Blk.new w 5 _).cell 0
  have hcv := hc _ hcell
  clear hc hcell hv
  go_enter Tryz.func39, Tryz.ntmps39
  go_wp2
  go_ret
  exact ⟨_, by rw [Says, digits_small n h], rfl, (Below.refl _ _).alloc (Nat.le_refl _) _⟩

theorem un_drew {w w1 : World} (h : Below w.drew.heap.size w.drew w1) : Below w.heap.size w w1 := ⟨h.os, h.tape, h.output, h.size, h.block⟩
theorem un_alloc {w w1 : World} {o : Obj} (h : Below (w.alloc o).drew.heap.size (w.alloc o).drew w1) : Below w.heap.size w w1 :=
  ((Below.refl _ w).alloc (Nat.le_refl _) o).trans ((un_drew (w := w.alloc o) h).mono (by simp))
theorem says_next {n : Nat} {b : ByteArray} (h : 10 ≤ n) (hb : Says (digits (n / 10)) b) : Says (digits n) (b ++ ⟨#[dg (n % 10)]⟩) := by
  unfold Says at hb ⊢
  rw [digits_great n (by omega), ← hb]
  simp

set_option maxHeartbeats 8000000 in
set_option maxRecDepth 100000 in
theorem unsigned_great (n : Nat) (h : 10 ≤ n) (hn : n < 18446744073709551616) (w : World) (ih : ∀ w, Calls Tryz.prog 39 #[.int .u64 ((n / 10 : Nat) : Int)] w (TextPost w (digits (n / 10)))) :
    Calls Tryz.prog 39 #[.int .u64 n] w (TextPost w (digits n)) := by
  have b1 : ¬ (n : Int) < 10 := by omega
  have e0 : IntKind.u64.wrap ((n : Int) / 10) = ((n / 10 : Nat) : Int) := by rw [IntKind.wrap_u64]; omega
  have e1 : IntKind.u8.wrap (IntKind.u64.wrap (48 + (n : Int).tmod 10)) = ((dg (n % 10)).toNat : Int) := by
    rw [byte_of (Nat.mod_lt _ (by omega)), Int.tmod_eq_emod_of_nonneg (by omega), IntKind.wrap_u64, IntKind.wrap_u8]
    omega
  have hcA : ∀ W : World, (convert 81 9 (.slice (some ⟨W.heap.size, 0, none⟩) 1 1)).run Tryz.prog (W.alloc (.cells #[.int .u8 ((dg (n % 10)).toNat : Int)] 5)) = .ok (.string ⟨#[dg (n % 10)]⟩) (W.alloc (.cells #[.int .u8 ((dg (n % 10)).toNat : Int)] 5)) :=
    fun W => conv_one _ _ _ ((Blk.new W 5 _).cell 0)
  have hcC : ∀ W : World, (convert 81 9 (.slice (some ⟨W.heap.size, 0, none⟩) 1 1)).run Tryz.prog (W.alloc (.cells #[.int .u8 ((dg (n % 10)).toNat : Int)] 5)).drew = .ok (.string ⟨#[dg (n % 10)]⟩) (W.alloc (.cells #[.int .u8 ((dg (n % 10)).toNat : Int)] 5)).drew :=
    fun W => conv_one _ _ _ ((Blk.new W 5 _).cell 0)
  have hcB := Lib.hid (show ∀ W w1 : World, Below W.heap.size W w1 → ∀ k, W.cell? ⟨k, 0, none⟩ = some (.int .u8 ((dg (n % 10)).toNat : Int)) → (convert 81 9 (.slice (some ⟨k, 0, none⟩) 1 1)).run Tryz.prog w1 = .ok (.string ⟨#[dg (n % 10)]⟩) w1 from
    fun W w1 hb k hk => conv_one _ _ _ ((hb.cell (p := ⟨k, 0, none⟩) (World.block_lt_of_cell? W _ hk)).trans hk))
  have hcell := Lib.hid ((Blk.new w 5 #[.int .u8 ((dg (n % 10)).toNat : Int)]).cell 0)
  have hsz : ∀ b : ByteArray, Says (digits (n / 10)) b → b.size ≤ 20 := fun b hb => by
    have := digits_length 19 (n / 10) (by omega)
    rw [← hb] at this
    simpa using this
  have Ih := Lib.hid ih
  have Hsz := Lib.hid hsz
  clear ih hsz
  go_enter Tryz.func39, Tryz.ntmps39
  go_wp2
  go_region_with (go_at_call 39; refine (Ih.out _).mono ?_; rintro e w1 ⟨b, hb, rfl, hb1⟩; have hb20 := Hsz.out _ hb; try (have hq := hcB.out _ _ hb1 w.heap.size hcell.out))
  all_goals go_wp2
  all_goals go_ret
  · exact ⟨_, says_next h hb, rfl, (un_drew hb1).alloc (un_drew hb1).size _⟩
  · exact ⟨_, says_next h hb, rfl, un_alloc hb1⟩
  · exact ⟨_, says_next h hb, rfl, un_alloc hb1⟩

/-- a number's figures -/
theorem num_unsigned (n : Nat) : ∀ (w : World), n < 18446744073709551616 → Calls Tryz.prog 39 #[.int .u64 n] w (TextPost w (digits n)) := by
  induction n using Nat.strongRecOn with
  | _ n ih =>
    intro w hn
    by_cases h : n < 10
    · exact unsigned_small n h w
    · exact unsigned_great n (by omega) hn w fun w' => ih (n / 10) (by omega) w' (by omega)

/-! words.figures -/
def figC (h : Bool) (c : UInt8) : Bool := if h then isHex c else isDig c
def figs (h : Bool) (l : List UInt8) : Bool := l.all (figC h)
def figR (h : Bool) (l : List UInt8) : Bool := figs h l && !l.isEmpty
theorem figR_bad {h : Bool} {l : List UInt8} (hf : figs h l = false) : figR h l = false := by rw [figR, hf]; rfl
theorem figR_ok {h : Bool} {s : ByteArray} (hf : figs h s.data.toList = true) : figR h s.data.toList = !s.toList.isEmpty := by rw [figR, hf, ByteArray.toList_eq]; rfl
theorem figs_take (h : Bool) (l : List UInt8) (k : Nat) (hk : k < l.length) : figs h (l.take (k + 1)) = (figs h (l.take k) && figC h l[k]) := by
  unfold figs
  rw [List.take_succ_eq_append_getElem hk, List.all_append]
  simp

set_option maxHeartbeats 1000000 in
set_option maxRecDepth 100000 in
theorem words_figures (s : ByteArray) (h : Bool) (w : World) (hs : s.size ≤ 70000) :
    Calls Tryz.prog 48 #[.string s, .bool h] w fun e w' => e = .returned (.bool (figR h s.data.toList)) ∧ Below w.heap.size w w' := by
  have hlen : s.data.toList.length = s.size := by simp
  obtain ⟨c, W, hconv, hB, hlt, hcell⟩ := conv_bytes (P := Tryz.prog) w 9 81 5 s Tryz.underlying9 Tryz.underlying81 Tryz.underlying5
  have HC := Lib.hid hcell
  clear hcell
  go_enter Tryz.func48, Tryz.ntmps48
  go_wp2
  go_loop [6, 10] (fun _ i => ∃ k : Nat, k ≤ s.size ∧ i = .int .i64 k ∧ figs h (s.data.toList.take k) = true) (fun _ i => s.size - (intOf i).toNat)
  case atStart => exact ⟨0, by omega, rfl, rfl⟩
  case round =>
    obtain ⟨k, hk, rfl, hf⟩ := hrel
    by_cases hkl : k < s.size
    · have hc := HC.out k hkl
      have ht := figs_take h s.data.toList k (by omega)
      have hg : s.data.toList[k]'(by omega) = s[k] := rfl
      rw [hf, Bool.true_and, hg] at ht
      have hfl : figC h s[k] = false → figs h s.data.toList = false := fun hfc => by
        have h2 : figs h (s.data.toList.take (k + 1)) = false := by rw [ht]; exact hfc
        unfold figs at h2 ⊢
        rw [List.all_eq_false] at h2 ⊢
        obtain ⟨x, hx, hx2⟩ := h2
        exact ⟨x, List.mem_of_mem_take hx, hx2⟩
      have Ht := Lib.hid ht
      have Hfl := Lib.hid hfl
      clear ht hf hg hfl
      generalize hcd : s[k] = cd at hc Ht Hfl
      have Hcd := Lib.hid hcd
      clear hcd
      by_cases q1 : (cd.toNat : Int) < 48
      · have hcase : h = true ∨ h = false := by cases h <;> simp
        have q2 : ¬ (57 : Int) < (cd.toNat : Int) := by omega
        have q3 : (cd.toNat : Int) < 97 := by omega
        have HX := Lib.hid (show figs h s.data.toList = false from Hfl.out (by unfold figC isHex isDig; cases h <;> simp <;> omega))
        rcases hcase with rfl | rfl
        · go_wp2
          go_ret
          exact ⟨ret_bool (figR_bad HX.out).symm, hB⟩
        · go_wp2
          go_ret
          exact ⟨ret_bool (figR_bad HX.out).symm, hB⟩
      · by_cases q2 : (57 : Int) < (cd.toNat : Int)
        · cases h with
          | false =>
            have HX := Lib.hid (show figs false s.data.toList = false from Hfl.out (by unfold figC isDig; simp; omega))
            go_wp2
            go_ret
            exact ⟨ret_bool (figR_bad HX.out).symm, hB⟩
          | true =>
            by_cases q3 : (cd.toNat : Int) < 97
            · have HX := Lib.hid (show figs true s.data.toList = false from Hfl.out (by unfold figC isHex isDig; simp; omega))
              go_wp2
              go_ret
              exact ⟨ret_bool (figR_bad HX.out).symm, hB⟩
            · by_cases q4 : (102 : Int) < (cd.toNat : Int)
              · have HX := Lib.hid (show figs true s.data.toList = false from Hfl.out (by unfold figC isHex isDig; simp; omega))
                go_wp2
                go_ret
                exact ⟨ret_bool (figR_bad HX.out).symm, hB⟩
              · have HX := Lib.hid (show figC true cd = true from by unfold figC isHex isDig; simp; omega)
                go_wp2
                go_round
                case rel => exact ⟨k + 1, by omega, by go_num, by rw [Ht.out]; exact HX.out⟩
                case measure => simp [intOf]; omega
        · have HX := Lib.hid (show figC h cd = true from by unfold figC isHex isDig; cases h <;> simp <;> omega)
          go_wp2
          go_round
          case rel => exact ⟨k + 1, by omega, by go_num, by rw [Ht.out]; exact HX.out⟩
          case measure => simp [intOf]; omega
    · have hfl : figs h s.data.toList = true := by rwa [List.take_of_length_le (by omega)] at hf
      have Hfl := Lib.hid hfl
      clear hfl hf
      go_wp2
      go_ret
      exact ⟨ret_bool (figR_ok Hfl.out).symm, hB⟩
end Go.Proofs.YtgpkekdbohdbfaaGreatDoor
