/- strconv.ParseUint, words.decimal, words.Number and words.Small by their contracts. -/
import Derived.Test.YtgpkekdbohdbfaaGreatDoorDecN
namespace Go.Proofs.YtgpkekdbohdbfaaGreatDoor
open Go.RowKit AmD

/-- what the world holds for the numbers -/
structure NumsIn (E : Nat → Addr) (w : World) : Prop where
  e13 : ErrAt E w 13
  syn : ∃ te pe, w.cell? ⟨22, 0, none⟩ = some (.iface te pe)
  rng : ∃ te pe, w.cell? ⟨23, 0, none⟩ = some (.iface te pe)
theorem NumsIn.of_block {E : Nat → Addr} {w w' : World} (h : NumsIn E w) (hb : ∀ k, k < w.heap.size → w'.heap[k]? = w.heap[k]?) : NumsIn E w' := by
  refine ⟨h.e13.of_block hb, ?_, ?_⟩
  · obtain ⟨a, b, hm⟩ := h.syn
    exact ⟨a, b, (World.cell?_of_block (hb _ (World.block_lt_of_cell? w _ hm))).trans hm⟩
  · obtain ⟨a, b, hm⟩ := h.rng
    exact ⟨a, b, (World.cell?_of_block (hb _ (World.block_lt_of_cell? w _ hm))).trans hm⟩
theorem NumsIn.below {E : Nat → Addr} {w w' : World} {B : Nat} (h : NumsIn E w) (hb : Below B w w') (hB : w.heap.size ≤ B) : NumsIn E w' := h.of_block fun k hk => hb.block k (by omega)

/-- how ParseUint ends -/
def PUPost (w : World) (r : Lib.NumEnd Nat) (e : Ending) (w' : World) : Prop :=
  match r with
  | .ok n => e = .returned (.tuple #[.int .u64 n, .nilIface]) ∧ Below w.heap.size w w'
  | _ => ∃ m p, e = .returned (.tuple #[.int .u64 m, .iface 134 p]) ∧ Below w.heap.size w w'
theorem bytes_below {w w' : World} {T : TypeId} {s : ByteArray} (h : w' = w ∨ w' = Lib.bytesWorld w T s) : Below w.heap.size w w' := by
  rcases h with rfl | rfl
  · exact Below.refl _ _
  · exact Lib.bytesWorld_below _ _ _

theorem parse10_pub {E : Nat → Addr} (s : ByteArray) (w : World) (hs : s.size ≤ 70000) (hN : NumsIn E w) :
    Calls Tryz.prog 47 #[.string s, .int .i64 10, .int .i64 64] w (PUPost w (Lib.parseUintB 64 s.data.toList)) := by
  obtain ⟨t1, p1, h1⟩ := hN.syn
  obtain ⟨t2, p2, h2⟩ := hN.rng
  cases h : Lib.parseUintB 64 s.data.toList with
  | ok n => exact (Tryz.strconv_ParseUint_10_at64_ok s (by omega) n h w).mono fun e w' ⟨he, hw⟩ => ⟨he, bytes_below hw⟩
  | range => exact (Tryz.strconv_ParseUint_10_at64_range s (by omega) h _ w h2 (.inr ⟨_, _, rfl⟩)).mono fun e w' ⟨N, he, _, _, hb⟩ => ⟨_, _, he, hb⟩
  | _ => exact (Tryz.strconv_ParseUint_10_at64_syntax s (by omega) h _ w h1 (.inr ⟨_, _, rfl⟩)).mono fun e w' ⟨N, he, _, _, hb⟩ => ⟨_, _, he, hb⟩

theorem parse16_int (s : ByteArray) (w : World) (hs : s.size ≤ 70000) :
    Calls Tryz.prog 59 #[.string s, .int .i64 16, .int .i64 64] w fun e w' => EndIs 132 (p16 s.data.toList) e ∧ Below w.heap.size w w' := by
  by_cases h0 : s.size = 0
  · have ht : s = ⟨#[]⟩ := by
      apply ByteArray.ext
      exact Array.eq_empty_of_size_eq_zero h0
    subst ht
    exact (AnyPu.internal_strconv_ParseUint_empty { Tryz.laysPu14 with } 16 64 w).mono fun e w' ⟨he, hw⟩ => ⟨he, hw ▸ Below.refl _ _⟩
  · have hne : s.data.toList ≠ [] := fun h => h0 (by have := congrArg List.length h; simpa using this)
    rw [p16, if_neg hne]
    exact parse16_walk s h0 hs w

set_option maxHeartbeats 4000000 in
set_option maxRecDepth 100000 in
theorem parse16_pub {E : Nat → Addr} (s : ByteArray) (w : World) (hs : s.size ≤ 70000) (hN : NumsIn E w) :
    Calls Tryz.prog 47 #[.string s, .int .i64 16, .int .i64 64] w (PUPost w (p16 s.data.toList)) := by
  have hI := parse16_int s w hs
  cases h : p16 s.data.toList with
  | ok n =>
    rw [h] at hI
    have HI := Lib.hid (show Calls Tryz.prog 59 #[.string s, .int .i64 16, .int .i64 64] w fun e w' => e = .returned (.tuple #[.int .u64 n, .nilIface]) ∧ Below w.heap.size w w' from hI)
    clear h hI
    go_enter Tryz.func47, Tryz.ntmps47
    go_wp2_with (go_at_call 59; refine HI.out.mono ?_; rintro e w1 ⟨rfl, hb1⟩)
    go_ret2
    exact ⟨rfl, hb1⟩
  | range =>
    rw [h] at hI
    have HI := Lib.hid (show Calls Tryz.prog 59 #[.string s, .int .i64 16, .int .i64 64] w fun e w' => e = .returned (.tuple #[.int .u64 18446744073709551615, .iface 132 (.int .i64 1)]) ∧ Below w.heap.size w w' from hI)
    have HN := Lib.hid hN
    clear h hI hN
    go_enter Tryz.func47, Tryz.ntmps47
    go_wp2_with (first
      | (go_at_call 59; refine HI.out.mono ?_; rintro e w1 ⟨rfl, hb1⟩; obtain ⟨te, pe, hce⟩ := (HN.out.below hb1 (Nat.le_refl _)).rng)
      | (go_at_call 60; refine (AnyPu.strconv_toError_range { Tryz.laysPu14 with } ⟨#[80, 97, 114, 115, 101, 85, 105, 110, 116]⟩ s 16 64 _ _ (by omega) hce (.inr ⟨_, _, rfl⟩)).mono ?_; rintro e w2 ⟨N, rfl, _, _, hb2⟩))
    go_ret2
    exact ⟨_, _, rfl, hb1.trans (hb2.mono hb1.size)⟩
  | _ =>
    rw [h] at hI
    have HI := Lib.hid (show Calls Tryz.prog 59 #[.string s, .int .i64 16, .int .i64 64] w fun e w' => e = .returned (.tuple #[.int .u64 0, .iface 132 (.int .i64 2)]) ∧ Below w.heap.size w w' from hI)
    have HN := Lib.hid hN
    clear h hI hN
    go_enter Tryz.func47, Tryz.ntmps47
    go_wp2_with (first
      | (go_at_call 59; refine HI.out.mono ?_; rintro e w1 ⟨rfl, hb1⟩; obtain ⟨te, pe, hce⟩ := (HN.out.below hb1 (Nat.le_refl _)).syn)
      | (go_at_call 60; refine (AnyPu.strconv_toError_syntax { Tryz.laysPu14 with } ⟨#[80, 97, 114, 115, 101, 85, 105, 110, 116]⟩ s 16 64 _ _ (by omega) hce (.inr ⟨_, _, rfl⟩)).mono ?_; rintro e w2 ⟨N, rfl, _, _, hb2⟩))
    go_ret2
    exact ⟨_, _, rfl, hb1.trans (hb2.mono hb1.size)⟩

/-- what words.decimal and words.Number answer -/
def NumPost (E : Nat → Addr) (w : World) (r : Option Nat) (e : Ending) (w' : World) : Prop :=
  match r with
  | some n => e = .returned (.tuple #[.int .u64 n, .nilIface]) ∧ Below w.heap.size w w'
  | none => e = .returned (.tuple #[.int .u64 0, .iface 145 (.pointer (some (E 13)))]) ∧ Below w.heap.size w w'
end Go.Proofs.YtgpkekdbohdbfaaGreatDoor
