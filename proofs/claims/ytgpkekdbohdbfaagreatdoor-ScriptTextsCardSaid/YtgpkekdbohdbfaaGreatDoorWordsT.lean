/- words.Split by its contract: line by line, as goSplit. -/
import Derived.Test.YtgpkekdbohdbfaaGreatDoorWordsS
import Derived.Test.YtgpkekdbohdbfaaGreatDoorWordsL
import Derived.Deep.QuietTactic
import Derived.BigQuiet
namespace Go.Proofs.YtgpkekdbohdbfaaGreatDoor
open Go.RowKit AmW

/-- the text ahead of a remark -/
def CutIs (l : Bytes) (b : ByteArray) : Prop := b.data.toList = l
theorem words_fine_true (s : ByteArray) (w : World) (hs : s.size ≤ 70000) {l : Bytes} (hl : CutIs l s) (h : fineB l = true) :
    Calls Tryz.prog 24 #[.string s] w fun e w' => e = .returned (.bool true) ∧ Below w.heap.size w w' := (words_fine s w hs).mono fun _ _ ⟨he, hb⟩ => ⟨by unfold CutIs at hl; rw [he, hl, h], hb⟩
theorem words_fine_false (s : ByteArray) (w : World) (hs : s.size ≤ 70000) {l : Bytes} (hl : CutIs l s) (h : fineB l = false) :
    Calls Tryz.prog 24 #[.string s] w fun e w' => e = .returned (.bool false) ∧ Below w.heap.size w w' := (words_fine s w hs).mono fun _ _ ⟨he, hb⟩ => ⟨by unfold CutIs at hl; rw [he, hl, h], hb⟩

def CutPost (w : World) (l : Bytes) (e : Ending) (w' : World) : Prop := ∃ (b : ByteArray) (r2 : Value) (r3 : Bool) (n : Nat), CutIs l b ∧ e = .returned (.tuple #[.string b, r2, .bool r3]) ∧ w.drewN n = w'
theorem words_cut (s : ByteArray) (m : Int) (w : World) (hs : s.size < 4294967281) (hm : w.cell? ⟨19, 0, none⟩ = some (.int .i64 m)) :
    Calls Tryz.prog 23 #[.string s, .string ⟨#[35]⟩] w (CutPost w (body s.data.toList)) :=
  (Tryz.strings_Cut s ⟨#[35]⟩ m w hs hm).mono fun e w' ⟨he, n, hn⟩ => ⟨_, _, _, n, by unfold CutIs; rw [← body_cut], he, hn.symm⟩
theorem words_fields (b : ByteArray) (l : Bytes) (w : World) (hb : CutIs l b) (hs : b.size < 4294967281) (hf : fineB l = true) (htab : Lib.TabIs Tryz.prog w "strings.asciiSpace" .u8 Lib.asciiSpaceTab) :
    Calls Tryz.prog 25 #[.string b] w fun e w' => e = .returned (.slice (some ⟨w.heap.size, 0, none⟩) (Lib.fields l).length (Lib.fields l).length) ∧ w.alloc (.cells ((Lib.fields l).map strV).toArray 9) = w' := by
  unfold CutIs at hb
  subst hb
  exact (Tryz.strings_Fields b w hs (fun j x hx => fine_ascii hf j x hx) htab).mono fun e w' ⟨he, hw⟩ => ⟨he, hw.symm⟩

/-- what the world holds for the words: the errors, and two of the library's variables -/
structure WordsIn (E : Nat → Addr) (w : World) : Prop where
  e3 : ErrAt E w 3
  e9 : ErrAt E w 9
  max : ∃ m, w.cell? ⟨19, 0, none⟩ = some (.int .i64 m)
  tab : Lib.TabIs Tryz.prog w "strings.asciiSpace" .u8 Lib.asciiSpaceTab
theorem gSpace : Tryz.prog.globalNamed "strings.asciiSpace" = some 17 := by kernel_rfl
theorem WordsIn.of_block {E : Nat → Addr} {w w' : World} (h : WordsIn E w) (hb : ∀ k, k < w.heap.size → w'.heap[k]? = w.heap[k]?) : WordsIn E w' := by
  refine ⟨h.e3.of_block hb, h.e9.of_block hb, ?_, ?_⟩
  · obtain ⟨m, hm⟩ := h.max
    exact ⟨m, (World.cell?_of_block (hb _ (World.block_lt_of_cell? w _ hm))).trans hm⟩
  · have := h.tab
    unfold Lib.TabIs World.var? at this ⊢
    simp only [gSpace, Option.bind_some] at this ⊢
    have hlt : 17 < w.heap.size := by
      rcases Nat.lt_or_ge 17 w.heap.size with h1 | h1
      · exact h1
      · simp [Array.getElem?_eq_none h1] at this
    rw [hb _ hlt]
    exact this
theorem WordsIn.below {E : Nat → Addr} {w w' : World} {B : Nat} (h : WordsIn E w) (hb : Below B w w') (hB : w.heap.size ≤ B) : WordsIn E w' := h.of_block fun k hk => hb.block k (by omega)
theorem WordsIn.alloc {E : Nat → Addr} {w : World} (h : WordsIn E w) (o : Obj) : WordsIn E (w.alloc o) := h.of_block fun k hk => Below.heap_alloc w o k hk
theorem WordsIn.drewN {E : Nat → Addr} {w : World} (h : WordsIn E w) (n : Nat) : WordsIn E (w.drewN n) := h.of_block fun _ _ => rfl

/-- what words.Split answers of a text that is not too long -/
def SplitPost (E : Nat → Addr) (w : World) (r : Res) (e : Ending) (w' : World) : Prop :=
  match r with
  | .bad n => e = .returned (.tuple #[.slice none 0 0, .int .i64 (n : Int), .iface 145 (.pointer (some (E 3)))]) ∧ Below w.heap.size w w'
  | .ok l => ∃ v, e = .returned (.tuple #[v, .int .i64 0, .nilIface]) ∧ LinesOwn w' w.heap.size v l ∧ Below w.heap.size w w'

set_option maxHeartbeats 400000 in
theorem words_Split_long {E : Nat → Addr} (s : ByteArray) (w : World) (hs : 60000 < s.size) (hE : ErrAt E w 9) :
    Calls Tryz.prog 12 #[.string s] w fun e w' => e = .returned (.tuple #[.slice none 0 0, .int .i64 0, .iface 145 (.pointer (some (E 9)))]) ∧ ∃ n, w' = w.drewN n := by
  have h9 : w.cell? _ = _ := hE
  simp only [gE] at h9
  have b1 : (60000 : Int) < (s.size : Int) := by omega
  go_enter Tryz.func12, Tryz.ntmps12
  go_wp2
  go_quiet (fail)
  go_wp2
  go_ret3
  exact ⟨rfl, _, rfl⟩
end Go.Proofs.YtgpkekdbohdbfaaGreatDoor
