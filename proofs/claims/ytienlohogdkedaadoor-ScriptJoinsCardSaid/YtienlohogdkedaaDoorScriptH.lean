/- The chapter's example (amblerlaw31.alive), amblerlaw31.Of, and two lists of entries: by their contracts. -/
import Derived.Test.YtienlohogdkedaaDoorScriptG
import Derived.Test.YtienlohogdkedaaDoorScriptF
import Derived.BigRegion
import Derived.BigQuiet
namespace Go.Proofs.YtienlohogdkedaaDoor
open Go.RowKit AmS

def exScript : Bts := [112, 117, 116, 32, 49, 32, 50, 32, 48, 120, 51]
theorem ex_script : ofText exScript = .ok [⟨2, 1, 2, 3, 0⟩] := by rfl

set_option maxHeartbeats 2000000 in
set_option maxRecDepth 100000 in
theorem alive31 {E : Nat → Addr} (w : World) (hE : ScrB E w) :
    Calls Tryd.prog 46 #[] w fun e w' => e = .returned (.bool true) ∧ Below w.heap.size w w' := by
  have hS := script_Of (E := E) ⟨exScript.toArray⟩ w hE
  have e0 : (⟨exScript.toArray⟩ : ByteArray).data.toList = exScript := rfl
  rw [e0, ex_script] at hS
  have HS := Lib.hid (show Calls Tryd.prog 57 #[.string ⟨exScript.toArray⟩] w (OfPost E w (.ok [⟨2, 1, 2, 3, 0⟩])) from hS)
  have HW := Lib.hid (fun (W : World) (hW : ScrIn E W) => show Calls Tryd.prog 53 #[.int .i64 3] W fun e w' => e = .returned (.string ⟨#[100, 101, 108]⟩) ∧ W = w' from script_Word (E := E) 3 W hW)
  clear hS e0
  go_enter Tryd.func46, Tryd.ntmps46
  go_wp2_with fail
  refine HS.out.mono ?_
  rintro e w1 ⟨v, rfl, hown, hb1⟩
  obtain ⟨A, c, rfl⟩ := own_form hown
  obtain ⟨_, hR⟩ := OpsOwn.reads hown
  obtain ⟨b, off, rfl, hb, c0, c1, c2, c3, c4⟩ := op_cells (k := 0) (o := ⟨2, 1, 2, 3, 0⟩) hR rfl
  simp only [Nat.zero_mul, Nat.add_zero] at c0 c1 c2 c3 c4
  have hE1 := hE.scr.below hb1 (Nat.le_refl _)
  clear hR hown
  go_wp2_with fail
  refine (HW.out _ hE1).mono ?_
  rintro e w2 ⟨rfl, rfl⟩
  go_wp2
  go_ret
  exact ⟨rfl, hb1⟩

set_option maxHeartbeats 1000000 in
theorem law31_Of (o : SOp) (w : World) : Calls Tryd.prog 14 #[opV o] w fun e w' => e = .returned (opV o) ∧ Below w.heap.size w w' := by
  unfold opV
  go_enter Tryd.func14, Tryd.ntmps14
  go_wp2
  refine bodyPost_ret (v := .agg #[.int .i64 o.kind, .int .u64 o.key, .int .u64 o.val, .int .u64 o.hash, .int .i64 o.iter]) (by simp [results, Tryd.results14, go_sem]) rfl ⟨rfl, ?_⟩
  repeat (with_reducible first | exact Below.refl _ _ | refine Below.drew ?_ | refine Below.setCell ?_ ?_ _ | refine Below.alloc ?_ ?_ _)
  all_goals simp

theorem hashCells_get (l : List SOp) (k : Nat) (o : SOp) (h : l[k]? = some o) :
    (hashCells l)[k * 3]? = some (.int .u64 o.key) ∧ (hashCells l)[k * 3 + 1]? = some (.int .u64 0) ∧ (hashCells l)[k * 3 + 2]? = some (.int .u64 o.hash) := by
  have hk : k < l.length := (List.getElem?_eq_some_iff.1 h).1
  have hl : l = l.take k ++ o :: l.drop (k + 1) := by
    have h1 := (List.getElem?_eq_some_iff.1 h).2
    rw [← h1, ← List.drop_eq_getElem_cons hk, List.take_append_drop]
  have e : hashCells l = hashCells (l.take k) ++ (entCells3 o.key 0 o.hash ++ hashCells (l.drop (k + 1))) := by
    conv => lhs; rw [hl]
    simp [hashCells]
  have hlen : (hashCells (l.take k)).length = k * 3 := by rw [hashCells_length, List.length_take]; rw [Nat.min_eq_left (by omega)]
  have H : ∀ j, j < 3 → (hashCells l)[k * 3 + j]? = (entCells3 o.key 0 o.hash)[j]? := by
    intro j hj
    rw [e, List.getElem?_append_right (by omega), hlen, List.getElem?_append_left (by simp [entCells3]; omega)]
    congr 1; omega
  exact ⟨H 0 (by omega), H 1 (by omega), H 2 (by omega)⟩
theorem ent_cells {wr : World} {B : Nat} {A : Option Addr} {n k : Nat} {l : List SOp} {o : SOp} (h : Reads wr B 3 A n (hashCells l)) (ho : l[k]? = some o) : ∃ b off, A = some ⟨b, off, none⟩ ∧ b < B ∧
    wr.cell? ⟨b, off + k * 3, none⟩ = some (.int .u64 o.key) ∧ wr.cell? ⟨b, off + k * 3 + 1, none⟩ = some (.int .u64 0) ∧ wr.cell? ⟨b, off + k * 3 + 2, none⟩ = some (.int .u64 o.hash) := by
  have hk : k < l.length := (List.getElem?_eq_some_iff.1 ho).1
  have hn : 0 < n := by have := h.1; rw [hashCells_length] at this; omega
  obtain ⟨b, off, rfl, hb, hc⟩ := h.cells_ hn
  obtain ⟨o0, o1, o2⟩ := hashCells_get l k o ho
  exact ⟨b, off, rfl, hb, hc _ _ o0, hc _ _ o1, hc _ _ o2⟩

set_option maxHeartbeats 2000000 in
theorem same_entries (A B : Option Addr) (n c d : Nat) (l : List SOp) (w : World) (hn : n ≤ 1000000) (hA : Reads w w.heap.size 3 A n (hashCells l)) (hB : Reads w w.heap.size 3 B n (hashCells l)) :
    Calls Tryd.prog 51 #[.slice A n c, .slice B n d] w fun e w' => e = .returned (.bool true) ∧ Below w.heap.size w w' := by
  have hl : l.length = n := by have := hA.1; rw [hashCells_length] at this; omega
  go_enter Tryd.func51, Tryd.ntmps51
  go_wp2
  go_loopw [4, 5, 6, 14] (fun v4 _ _ i wr => ∃ k : Nat, k ≤ n ∧ i = .int .i64 k ∧ v4 = .bool false ∧ Below w.heap.size w wr) (fun _ _ _ i _ => n - (intOf i).toNat)
  case atStart => exact ⟨0, by omega, rfl, rfl, Below.refl _ _⟩
  case round =>
    obtain ⟨k, hk, rfl, rfl, hBl⟩ := hrel
    by_cases hlt : k < n
    · have ho : l[k]? = some (l[k]'(by omega)) := List.getElem?_eq_getElem _
      generalize l[k]'(by omega) = o at ho
      obtain ⟨b, off, rfl, hb, c0, c1, c2⟩ := ent_cells (hA.below hBl) ho
      obtain ⟨b', off', rfl, hb', d0, d1, d2⟩ := ent_cells (hB.below hBl) ho
      have hsz := hBl.size
      have hne1 : b < wr.heap.size := by omega
      have hne2 : b' < wr.heap.size := by omega
      have hlt' : (k : Int) < (n : Int) := by omega
      have e0 := fun p => (World.cell?_alloc_lt wr p ⟨b', off' + k * 3, none⟩ hne2).trans d0
      have e1 := fun p => (World.cell?_alloc_lt wr p ⟨b', off' + k * 3 + 1, none⟩ hne2).trans d1
      have e2 := fun p => (World.cell?_alloc_lt wr p ⟨b', off' + k * 3 + 2, none⟩ hne2).trans d2
      have hBn := hBl.alloc hsz (.cells #[.int .u64 o.key, .int .u64 0, .int .u64 o.hash] 86)
      have hO := Blk.new wr 86 #[.int .u64 o.key, .int .u64 0, .int .u64 o.hash]
      have f0 := hO.cell 0
      have f1 := hO.cell 1
      have f2 := hO.cell 2
      simp only [List.getElem?_toArray, List.getElem?_cons_zero, List.getElem?_cons_succ] at f0 f1 f2
      clear hA hB ho d0 d1 d2 hO
      go_wp2
      obtain ⟨wn, hwn⟩ : ∃ wn, wn = wr.alloc (.cells #[.int .u64 o.key, .int .u64 0, .int .u64 o.hash] 86) := ⟨_, rfl⟩
      have e0' := e0 (.cells #[.int .u64 o.key, .int .u64 0, .int .u64 o.hash] 86)
      have e1' := e1 (.cells #[.int .u64 o.key, .int .u64 0, .int .u64 o.hash] 86)
      have e2' := e2 (.cells #[.int .u64 o.key, .int .u64 0, .int .u64 o.hash] 86)
      rw [← hwn] at e0' e1' e2' f0 f1 f2 hBn ⊢
      clear hwn e0 e1 e2 c0 c1 c2
      go_quiet (fail)
      go_wp2
      go_roundw
      case rel => exact ⟨k + 1, by omega, by go_num, rfl, below_drewN hBn _⟩
      case measure => simp [intOf]; omega
    · go_wp2
      go_ret
      exact ⟨rfl, hBl⟩
end Go.Proofs.YtienlohogdkedaaDoor
