/- script.many, script.Word and script.number by their contracts. -/
import Derived.Test.YtgpkekdbohdbfaaGreatDoorScriptA
import Derived.Test.YtgpkekdbohdbfaaGreatDoorDecL
import Derived.Test.YtgpkekdbohdbfaaGreatDoorTextP
namespace Go.Proofs.YtgpkekdbohdbfaaGreatDoor
open Go.RowKit AmS AmD

/-- what the world holds for rows of words: the kinds' words, and five errors -/
structure ScrIn (E : Nat → Addr) (w : World) : Prop where
  names : ∀ i, i < 9 → w.cell? ⟨2, i, none⟩ = some (strV (names.getD i []))
  e1 : ErrAt E w 1
  e3 : ErrAt E w 3
  e15 : ErrAt E w 15
  nums : NumsIn E w
theorem ScrIn.of_block {E : Nat → Addr} {w w' : World} (h : ScrIn E w) (hb : ∀ k, k < w.heap.size → w'.heap[k]? = w.heap[k]?) : ScrIn E w' :=
  ⟨fun i hi => (World.cell?_of_block (hb _ (World.block_lt_of_cell? w _ (h.names i hi)))).trans (h.names i hi), h.e1.of_block hb, h.e3.of_block hb, h.e15.of_block hb, h.nums.of_block hb⟩
theorem ScrIn.below {E : Nat → Addr} {w w' : World} {B : Nat} (h : ScrIn E w) (hb : Below B w w') (hB : w.heap.size ≤ B) : ScrIn E w' := h.of_block fun k hk => hb.block k (by omega)
theorem ScrIn.alloc {E : Nat → Addr} {w : World} (h : ScrIn E w) (o : Obj) : ScrIn E (w.alloc o) := h.of_block fun k hk => Below.heap_alloc w o k hk
theorem ScrIn.drewN {E : Nat → Addr} {w : World} (h : ScrIn E w) (n : Nat) : ScrIn E (w.drewN n) := h.of_block fun _ _ => rfl

theorem script_many (k : Nat) (h1 : 1 ≤ k) (h8 : k ≤ 8) (w : World) : Calls Tryz.prog 27 #[.int .i64 k] w fun e w' => e = .returned (.int .i64 (manyOf k : Int)) ∧ w = w' := by
  have H : k = 1 ∨ k = 2 ∨ k = 3 ∨ k = 4 ∨ k = 5 ∨ k = 6 ∨ k = 7 ∨ k = 8 := by omega
  rcases H with rfl | rfl | rfl | rfl | rfl | rfl | rfl | rfl
  all_goals
    go_enter Tryz.func27, Tryz.ntmps27
    go_wp2_with (first
      | (go_at_call 20; refine (script_keyed _ _).mono ?_; rintro e w1 ⟨rfl, rfl⟩)
      | (go_at_call 21; refine (script_iterated _ _).mono ?_; rintro e w1 ⟨rfl, rfl⟩))
    go_ret
    exact ⟨rfl, rfl⟩

/-- a number, or an error beside nought -/
def NumEPost (E : Nat → Addr) (w : World) (r : Except Nat Nat) (e : Ending) (w' : World) : Prop :=
  match r with
  | .ok n => e = .returned (.tuple #[.int .u64 n, .nilIface]) ∧ Below w.heap.size w w'
  | .error k => e = .returned (.tuple #[.int .u64 0, .iface 145 (.pointer (some (E k)))]) ∧ Below w.heap.size w w'

set_option maxHeartbeats 1000000 in
theorem script_number {E : Nat → Addr} (k : Nat) (h1 : 1 ≤ k) (h8 : k ≤ 8) (s : ByteArray) (w : World) (hs : s.size ≤ 70000) (hE : ScrIn E w) :
    Calls Tryz.prog 28 #[.int .i64 k, .string s] w (NumEPost E w (numE k s.data.toList)) := by
  by_cases h7 : 7 ≤ k
  · have hit : iterK (k : Int) = true := by unfold iterK; simp; omega
    have HI := Lib.hid (fun W => by have := script_iterated (k : Int) W; rw [hit] at this; exact this)
    have HS := words_Small s 1000000 w hs hE.nums hE.e1 (by decide) (by decide)
    unfold numE
    rw [if_pos h7]
    cases hd : dec s.data.toList with
    | none =>
      rw [hd] at HS
      have HS' := Lib.hid (show Calls Tryz.prog 37 #[.string s, .int .i64 1000000] w fun e w' => e = .returned (.tuple #[.int .i64 0, .iface 145 (.pointer (some (E 13)))]) ∧ Below w.heap.size w w' from HS)
      clear HS hd hit
      go_enter Tryz.func28, Tryz.ntmps28
      go_wp2_with fail
      refine (HI.out _).mono ?_
      rintro e w1 ⟨rfl, rfl⟩
      go_wp2_with fail
      refine HS'.out.mono ?_
      rintro e w2 ⟨rfl, hb⟩
      go_wp2
      go_ret2
      exact ⟨rfl, hb⟩
    | some n =>
      rw [hd] at HS
      unfold SmallPost at HS
      simp only at HS ⊢
      by_cases hn : 1000000 < n
      · rw [if_pos hn]
        have hc : (1000000 : Int) < 0 ∨ (1000000 : Int) < (n : Int) := .inr (by omega)
        simp only [if_pos hc] at HS
        have HS' := Lib.hid HS
        clear HS hd hit hc
        go_enter Tryz.func28, Tryz.ntmps28
        go_wp2_with fail
        refine (HI.out _).mono ?_
        rintro e w1 ⟨rfl, rfl⟩
        go_wp2_with fail
        refine HS'.out.mono ?_
        rintro e w2 ⟨rfl, hb⟩
        go_wp2
        go_ret2
        exact ⟨rfl, hb⟩
      · rw [if_neg hn]
        have hc : ¬ ((1000000 : Int) < 0 ∨ (1000000 : Int) < (n : Int)) := by omega
        simp only [if_neg hc] at HS
        have HS' := Lib.hid HS
        clear HS hd hit hc
        have hn' : n ≤ 1000000 := by omega
        go_enter Tryz.func28, Tryz.ntmps28
        go_wp2_with fail
        refine (HI.out _).mono ?_
        rintro e w1 ⟨rfl, rfl⟩
        go_wp2_with fail
        refine HS'.out.mono ?_
        rintro e w2 ⟨rfl, hb⟩
        go_wp2
        go_ret2
        exact ⟨rfl, hb⟩
  · have hit : iterK (k : Int) = false := by unfold iterK; simp; omega
    have HI := Lib.hid (fun W => by have := script_iterated (k : Int) W; rw [hit] at this; exact this)
    have HN := words_Number s w hs hE.nums
    unfold numE
    rw [if_neg h7]
    cases hd : numOf s.data.toList with
    | none =>
      rw [hd] at HN
      have HN' := Lib.hid (show Calls Tryz.prog 38 #[.string s] w fun e w' => e = .returned (.tuple #[.int .u64 0, .iface 145 (.pointer (some (E 13)))]) ∧ Below w.heap.size w w' from HN)
      clear HN hd hit
      go_enter Tryz.func28, Tryz.ntmps28
      go_wp2_with fail
      refine (HI.out _).mono ?_
      rintro e w1 ⟨rfl, rfl⟩
      go_wp2_with fail
      refine HN'.out.mono ?_
      rintro e w2 ⟨rfl, hb⟩
      go_wp2
      go_ret2
      exact ⟨rfl, hb⟩
    | some n =>
      rw [hd] at HN
      have HN' := Lib.hid (show Calls Tryz.prog 38 #[.string s] w fun e w' => e = .returned (.tuple #[.int .u64 n, .nilIface]) ∧ Below w.heap.size w w' from HN)
      clear HN hd hit
      go_enter Tryz.func28, Tryz.ntmps28
      go_wp2_with fail
      refine (HI.out _).mono ?_
      rintro e w1 ⟨rfl, rfl⟩
      go_wp2_with fail
      refine HN'.out.mono ?_
      rintro e w2 ⟨rfl, hb⟩
      go_wp2
      go_ret2
      exact ⟨rfl, hb⟩

theorem names_at (w : World) {E : Nat → Addr} (h : ScrIn E w) (i : Nat) (hi : i < 9) : w.cell? ⟨2, i, none⟩ = some (.string ⟨(names.getD i []).toArray⟩) := h.names i hi
theorem wordOf_at (k : Nat) (h1 : 1 ≤ k) (h8 : k ≤ 8) : wordOf (k : Int) = names.getD k [] := by
  unfold wordOf
  have : isKind (k : Int) = true := by unfold isKind; simp; omega
  rw [this]
  simp
theorem wordOf_none {k : Int} (h : isKind k = false) : wordOf k = [] := by unfold wordOf; rw [h]; rfl

set_option maxHeartbeats 400000 in
theorem script_Word {E : Nat → Addr} (k : Int) (w : World) (hE : ScrIn E w) : Calls Tryz.prog 11 #[.int .i64 k] w fun e w' => e = .returned (strV (wordOf k)) ∧ w = w' := by
  cases hk : isKind k with
  | false =>
    have HI := Lib.hid (fun W => by have := script_is k W; rw [hk] at this; exact this)
    rw [wordOf_none hk]
    clear hk
    go_enter Tryz.func11, Tryz.ntmps11
    go_wp2_with fail
    refine (HI.out _).mono ?_
    rintro e w1 ⟨rfl, rfl⟩
    go_wp2
    go_ret
    exact ⟨rfl, rfl⟩
  | true =>
    have HI := Lib.hid (fun W => by have := script_is k W; rw [hk] at this; exact this)
    have hr := kinds8' hk
    obtain ⟨n, rfl⟩ := Int.eq_ofNat_of_zero_le (show 0 ≤ k by omega)
    have h1 : 1 ≤ n := by omega
    have h8 : n ≤ 8 := by omega
    rw [wordOf_at n h1 h8]
    have hc := names_at w hE n (by omega)
    unfold strV
    generalize (⟨(names.getD n []).toArray⟩ : ByteArray) = s at hc ⊢
    clear hk hr
    have hn9 : (n : Int) < 9 := by omega
    go_enter Tryz.func11, Tryz.ntmps11
    go_wp2_with fail
    refine (HI.out _).mono ?_
    rintro e w1 ⟨rfl, rfl⟩
    go_wp2
    go_ret
    exact ⟨rfl, rfl⟩
end Go.Proofs.YtgpkekdbohdbfaaGreatDoor
