/- amblerlaw31.ScriptOne: its walk: whatever the words, true. -/
import Derived.Test.YtienlohogdkedaaDoorOneR
import Derived.Test.YtienlohogdkedaaDoorNum
import Derived.Deep.RegionWith
namespace Go.Proofs.YtienlohogdkedaaDoor
open Go.RowKit AmS AmD

def FewPost (n : Nat) (l : List Bts) (w : World) (e : Ending) (w' : World) : Prop := ∃ b, e = .returned (.bool b) ∧ (b = true → n ≤ 10 ∧ ∀ y ∈ l, y.length ≤ 200) ∧ w = w'
theorem few_false {n : Nat} {l : List Bts} {w : World} : FewPost n l w (.returned (.bool false)) w := ⟨false, rfl, (fun h => by cases h), rfl⟩
theorem few_true {n : Nat} {l : List Bts} {w : World} (h : n ≤ 10) (hl : ∀ y ∈ l, y.length ≤ 200) : FewPost n l w (.returned (.bool true)) w := ⟨true, rfl, fun _ => ⟨h, hl⟩, rfl⟩
theorem take_snoc_bts {r : List Bts} {j : Nat} {y : Bts} (h : r[j]? = some y) : r.take (j + 1) = r.take j ++ [y] := by
  rw [List.take_add_one, h]; rfl

/-- the first so many words are short -/
structure Short (l : List Bts) (j : Nat) : Prop where
  all : ∀ y ∈ l.take j, y.length ≤ 200
set_option maxHeartbeats 1000000 in
theorem num_Few (A : Option Addr) (n c : Nat) (l : List Bts) (w : World) (h : Reads w w.heap.size 1 A n (l.map strV)) :
    Calls Tryd.prog 54 #[.slice A n c, .int .i64 10, .int .i64 200] w (FewPost n l w) := by
  have hl : l.length = n := by simpa using h.1
  by_cases hn : 10 < n
  · have hn' : (10 : Int) < (n : Int) := by omega
    clear h hl
    go_enter Tryd.func54, Tryd.ntmps54
    go_wp2
    go_ret
    exact few_false
  · have hn' : ¬ (10 : Int) < (n : Int) := by omega
    have HL := Lib.hid hl
    clear hl
    go_enter Tryd.func54, Tryd.ntmps54
    go_wp2
    go_loop [6, 8, 15] (fun v6 _ i => ∃ k : Nat, k ≤ n ∧ i = .int .i64 k ∧ v6 = .bool false ∧ Short l k) (fun _ _ i => n - (intOf i).toNat)
    case atStart => exact ⟨0, by omega, rfl, rfl, ⟨by simp⟩⟩
    case round =>
      obtain ⟨k, hk, rfl, rfl, ⟨hsh⟩⟩ := hrel
      have hll := HL.out
      by_cases hlt : k < n
      · obtain ⟨b, off, rfl, hb, hc⟩ := h.cells_ (by omega)
        have hy : l[k]? = some (l[k]'(by omega)) := List.getElem?_eq_getElem _
        generalize l[k]'(by omega) = y at hy
        have hx : (l.map strV)[k]? = some (.string ⟨y.toArray⟩) := by rw [List.getElem?_map, hy]; rfl
        have h1 := hc k _ hx
        obtain ⟨sy, hsy⟩ : ∃ sy : ByteArray, (⟨y.toArray⟩ : ByteArray) = sy := ⟨_, rfl⟩
        have hz : sy.size = y.length := by rw [← hsy]; show y.toArray.size = _; simp
        rw [hsy] at h1
        have hlt' : (k : Int) < (n : Int) := by omega
        have HT := Lib.hid (take_snoc_bts hy)
        have HZ := Lib.hid hz
        clear hc hx hy hll hsy hz
        by_cases hy2 : 200 < sy.size
        · have hy3 : (200 : Int) < (sy.size : Int) := by omega
          go_wp2
          go_ret
          exact few_false
        · have hy3 : ¬ (200 : Int) < (sy.size : Int) := by omega
          have HS : Short l (k + 1) := ⟨fun z hz => by
            rw [HT.out] at hz
            rcases List.mem_append.1 hz with hz | hz
            · exact hsh z hz
            · obtain rfl : z = y := by simpa using hz
              rw [← HZ.out]; omega⟩
          go_wp2
          go_round
          case rel => exact ⟨k + 1, by omega, by go_num, rfl, HS⟩
          case measure => simp [intOf]; omega
      · obtain rfl : k = n := by omega
        have hall : ∀ y ∈ l, y.length ≤ 200 := by rw [← hll, List.take_length] at hsh; exact hsh
        go_wp2
        go_ret
        exact few_true (by omega) hall

theorem numE_err {k e : Nat} {w : Bts} (h : numE k w = .error e) : 1 ≤ e ∧ e ≤ 16 := by
  unfold numE at h
  repeat' (split at h)
  all_goals first | (injection h with h; omega) | (cases h; done)
theorem numsE_err {k e : Nat} : ∀ {r : List Bts} {acc : List Nat}, numsE k acc r = .error e → 1 ≤ e ∧ e ≤ 16
  | [], acc, h => by cases h
  | w :: r, acc, h => by
    unfold numsE at h
    split at h
    · next he => injection h with h; subst h; exact numE_err he
    · exact numsE_err h
theorem one_err {l : List Bts} {e : Nat} (h : one l = .error e) : 1 ≤ e ∧ e ≤ 16 := by
  unfold one at h
  split at h
  · injection h with h; omega
  · split at h
    · injection h with h; omega
    · split at h
      · injection h with h; omega
      · split at h
        · next he => injection h with h; subst h; exact numsE_err he
        · cases h

set_option maxHeartbeats 2000000 in
set_option maxRecDepth 100000 in
theorem law_one {E : Nat → Addr} (A : Option Addr) (n c : Nat) (l : List Bts) (w : World) (h : Reads w w.heap.size 1 A n (l.map strV)) (hcap : n ≤ c) (hE : ScrB E w) (hErr : ErrsIn E w) :
    Calls Tryd.prog 11 #[.slice A n c] w (LawTrue w) := by
  have HA := Lib.hid (alive31 w hE)
  have HF := Lib.hid (fun (W : World) (hb : Below w.heap.size w W) => num_Few A n c l W ((h.below hb).more hb.size))
  go_enter Tryd.func11, Tryd.ntmps11
  go_wp2_with fail
  refine HA.out.mono ?_
  rintro e w1 ⟨rfl, hb1⟩
  go_wp2_with fail
  refine (HF.out _ hb1).mono ?_
  rintro e w2 ⟨f, rfl, hf, rfl⟩
  cases f with
  | false =>
    go_wp2
    go_ret
    exact ⟨rfl, hb1⟩
  | true =>
    obtain ⟨hn, hs⟩ := hf rfl
    have HOne := Lib.hid (fun (W : World) (hb : Below w.heap.size w W) => script_One (E := E) A n c l W ((h.below hb).more hb.size) hcap (by omega) (fun y hy => by have := hs y hy; omega) (hE.scr.below hb (Nat.le_refl _)))
    have HRef := Lib.hid (fun (W : World) (hb : Below w.heap.size w W) => ref_One A n c l W ((h.below hb).more hb.size) hcap (by omega) (fun y hy => by have := hs y hy; omega))
    have HOf := Lib.hid (fun (o : SOp) (W : World) => law31_Of o W)
    cases ho : one l with
    | ok o =>
      rw [ho] at HOne HRef
      have HOne' := Lib.hid (show ∀ (W : World), Below w.heap.size w W → Calls Tryd.prog 55 #[.slice A n c] W fun e w' => e = .returned (.tuple #[opV o, .nilIface]) ∧ Below W.heap.size W w' from HOne.out)
      have HRef' := Lib.hid (show ∀ (W : World), Below w.heap.size w W → Calls Tryd.prog 56 #[.slice A n c] W fun e w' => e = .returned (.tuple #[opV o, .int .i64 0]) ∧ Below W.heap.size W w' from HRef.out)
      have HNum := Lib.hid (fun (W : World) => num_nil W)
      clear HOne HRef ho hf hs h
      unfold opV at HOne' HRef' HOf
      go_wp2_with fail
      refine (HOne'.out _ hb1).mono ?_
      rintro e w3 ⟨rfl, hb3⟩
      have hbw3 := (hb1.trans (hb3.mono hb1.size)).alloc (hb1.trans (hb3.mono hb1.size)).size (.cells #[.int .i64 o.kind, .int .u64 o.key, .int .u64 o.val, .int .u64 o.hash, .int .i64 o.iter] 27)
      have hB3 := Blk.new w3 27 #[.int .i64 o.kind, .int .u64 o.key, .int .u64 o.val, .int .u64 o.hash, .int .i64 o.iter]
      clear hb1 hb3
      go_wp2_with fail
      refine (HRef'.out _ hbw3).mono ?_
      rintro e w4 ⟨rfl, hb4⟩
      have hB4 := hB3.below hb4 (by simp)
      have hbw4 := hbw3.trans (hb4.mono hbw3.size)
      go_upto_region 7 with fail
      obtain ⟨W5, hW5⟩ : ∃ W5, W5 = w4.alloc (.cells #[.int .i64 o.kind, .int .u64 o.key, .int .u64 o.val, .int .u64 o.hash, .int .i64 o.iter] 28) := ⟨_, rfl⟩
      have hB5 : Blk W5 w4.heap.size 28 #[.int .i64 o.kind, .int .u64 o.key, .int .u64 o.val, .int .u64 o.hash, .int .i64 o.iter] := by rw [hW5]; exact Blk.new w4 _ _
      have hB35 : Blk W5 w3.heap.size 27 #[.int .i64 o.kind, .int .u64 o.key, .int .u64 o.val, .int .u64 o.hash, .int .i64 o.iter] := by rw [hW5]; exact hB4.alloc _
      have hbw5 : Below w.heap.size w W5 := by rw [hW5]; exact hbw4.alloc hbw4.size _
      rw [← hW5]
      have c0 := hB35.cell 0
      have c1 := hB35.cell 1
      have c2 := hB35.cell 2
      have c3 := hB35.cell 3
      have c4 := hB35.cell 4
      have d0 := hB5.cell 0
      have d1 := hB5.cell 1
      have d2 := hB5.cell 2
      have d3 := hB5.cell 3
      have d4 := hB5.cell 4
      simp only [List.getElem?_toArray, List.getElem?_cons_zero, List.getElem?_cons_succ] at c0 c1 c2 c3 c4 d0 d1 d2 d3 d4
      have hlt5 := hB5.lt
      have HB5 := Lib.hid hB5
      have HBW5 := Lib.hid hbw5
      clear hW5 hB5 hB35 hB4 hbw4 hbw5 hB3 hbw3 hb4
      go_region_with (first
        | (go_at_call 14; refine (HOf.out o _).mono ?_; rintro e w6 ⟨rfl, hb6⟩; have hB6 : Blk w6 w4.heap.size 28 #[.int .i64 o.kind, .int .u64 o.key, .int .u64 o.val, .int .u64 o.hash, .int .i64 o.iter] := Eq.trans (hb6.block _ hlt5) HB5.out; have e0 := hB6.cell 0; have e1 := hB6.cell 1; have e2 := hB6.cell 2; have e3 := hB6.cell 3; have e4 := hB6.cell 4; simp only [List.getElem?_toArray, List.getElem?_cons_zero, List.getElem?_cons_succ] at e0 e1 e2 e3 e4; clear hB6)
        | (go_at_call 17; refine (HNum.out _).mono ?_; rintro e w7 ⟨rfl, rfl⟩))
      all_goals
        go_wp2
        go_ret
        exact ⟨rfl, (Below.drew HBW5.out).trans (hb6.mono (Below.drew HBW5.out).size)⟩
    | error k =>
      obtain ⟨hk1, hk16⟩ := one_err ho
      rw [ho] at HOne HRef
      have HOne' := Lib.hid (show ∀ (W : World), Below w.heap.size w W → Calls Tryd.prog 55 #[.slice A n c] W fun e w' => e = .returned (.tuple #[nilOp, .iface 211 (.pointer (some (E k)))]) ∧ Below W.heap.size W w' from HOne.out)
      have HRef' := Lib.hid (show ∀ (W : World), Below w.heap.size w W → Calls Tryd.prog 56 #[.slice A n c] W fun e w' => e = .returned (.tuple #[nilOp, .int .i64 (k : Int)]) ∧ Below W.heap.size W w' from HRef.out)
      have HNum := Lib.hid (fun (W : World) (hb : Below w.heap.size w W) => num_err (hErr.below hb (Nat.le_refl _)) k hk1 hk16)
      clear HOne HRef ho hf hs h
      unfold nilOp at HOne' HRef'
      have HOfN := HOf.out ⟨0, 0, 0, 0, 0⟩
      unfold opV at HOfN
      have HOf' := Lib.hid HOfN
      clear HOfN HOf
      go_wp2_with fail
      refine (HOne'.out _ hb1).mono ?_
      rintro e w3 ⟨rfl, hb3⟩
      have hbw3 := (hb1.trans (hb3.mono hb1.size)).alloc (hb1.trans (hb3.mono hb1.size)).size (.cells #[.int .i64 0, .int .u64 0, .int .u64 0, .int .u64 0, .int .i64 0] 27)
      have hB3 := Blk.new w3 27 #[.int .i64 0, .int .u64 0, .int .u64 0, .int .u64 0, .int .i64 0]
      clear hb1 hb3
      go_wp2_with fail
      refine (HRef'.out _ hbw3).mono ?_
      rintro e w4 ⟨rfl, hb4⟩
      have hB4 := hB3.below hb4 (by simp)
      have hbw4 := hbw3.trans (hb4.mono hbw3.size)
      go_upto_region 7 with fail
      obtain ⟨W5, hW5⟩ : ∃ W5, W5 = w4.alloc (.cells #[.int .i64 0, .int .u64 0, .int .u64 0, .int .u64 0, .int .i64 0] 28) := ⟨_, rfl⟩
      have hB5 : Blk W5 w4.heap.size 28 #[.int .i64 0, .int .u64 0, .int .u64 0, .int .u64 0, .int .i64 0] := by rw [hW5]; exact Blk.new w4 _ _
      have hB35 : Blk W5 w3.heap.size 27 #[.int .i64 0, .int .u64 0, .int .u64 0, .int .u64 0, .int .i64 0] := by rw [hW5]; exact hB4.alloc _
      have hbw5 : Below w.heap.size w W5 := by rw [hW5]; exact hbw4.alloc hbw4.size _
      rw [← hW5]
      have c0 := hB35.cell 0
      have c1 := hB35.cell 1
      have c2 := hB35.cell 2
      have c3 := hB35.cell 3
      have c4 := hB35.cell 4
      have d0 := hB5.cell 0
      have d1 := hB5.cell 1
      have d2 := hB5.cell 2
      have d3 := hB5.cell 3
      have d4 := hB5.cell 4
      simp only [List.getElem?_toArray, List.getElem?_cons_zero, List.getElem?_cons_succ] at c0 c1 c2 c3 c4 d0 d1 d2 d3 d4
      have hlt5 := hB5.lt
      have HB5 := Lib.hid hB5
      have HBW5 := Lib.hid hbw5
      clear hW5 hB5 hB35 hB4 hbw4 hbw5 hB3 hbw3 hb4
      go_region_with (first
        | (go_at_call 14; refine (HOf'.out _).mono ?_; rintro e w6 ⟨rfl, hb6⟩; have hB6 : Blk w6 w4.heap.size 28 #[.int .i64 0, .int .u64 0, .int .u64 0, .int .u64 0, .int .i64 0] := Eq.trans (hb6.block _ hlt5) HB5.out; have e0 := hB6.cell 0; have e1 := hB6.cell 1; have e2 := hB6.cell 2; have e3 := hB6.cell 3; have e4 := hB6.cell 4; simp only [List.getElem?_toArray, List.getElem?_cons_zero, List.getElem?_cons_succ] at e0 e1 e2 e3 e4; clear hB6)
        | (go_at_call 17; have hbw6 := (Below.drew HBW5.out).trans (hb6.mono (Below.drew HBW5.out).size); refine (HNum.out _ hbw6).mono ?_; rintro e w7 ⟨rfl, hb7⟩))
      all_goals
        go_wp2
        go_ret
        exact ⟨rfl, hbw6.trans (hb7.mono hbw6.size)⟩
end Go.Proofs.YtienlohogdkedaaDoor
