/- The errors of package api as variables of the world; errors.Is of them; their numbers (amblernum.Num, .all). -/
import Derived.Test.YtgpkekdbohdbfaaGreatDoorProg
import Derived.Test.YtgpkekdbohdbfaaGreatDoorKit
import Derived.WalkKit
import Derived.WalkSpells
import Derived.WalkLawsBesides
import Derived.LaidEql
import Derived.Stop.Asserts
import Derived.RowKitTokens
import Derived.KernelRfl
import Derived.Outline
namespace Go.Proofs.YtgpkekdbohdbfaaGreatDoor
open Go.RowKit Go.Extern.Stop Go.Stop Go.Extern

/-! ### closed facts: errors.Is over pointers to errors.errorString -/
theorem isTypeOf (v : Value) (w : World) : (Extern.ReflectliteType.typeOf #[.iface 145 v]).run Tryz.prog w = .ok (.iface 90 (.agg #[.pointer (some ⟨28, 145, none⟩)])) w := by kernel_rfl
def cmpE : Array Value → Sem Value := Extern.ReflectliteType.method fun t => do Extern.Rtype.noPackHeld "Comparable" t; pure (.bool (← typeInfo t).comparable)
theorem isComparable (w : World) : (cmpE #[.agg #[.pointer (some ⟨28, 145, none⟩)]]).run Tryz.prog w = .ok (.bool true) w := by kernel_rfl
theorem isMethodComparable (v : Value) (w : World) : (Go.method 292 90 v "Comparable").run Tryz.prog w = .ok (105, v) w := by kernel_rfl
theorem isComp : (Tryz.prog.info? 145).map (·.comparable) = some true := by kernel_rfl
theorem isSize : (Tryz.prog.info? 147).map (·.size) = some 1 := by kernel_rfl
theorem noIsE (v : Value) (xT : TypeId) (w : World) : (Instr.typeAssert (.iface 145 v) xT 92 true).run Tryz.prog w = .ok (.tuple #[.nilIface, .bool false]) w := run_typeAssert_lacksB Tryz.underlying92 (by kernel_rfl) (by kernel_rfl) v xT w
theorem noUnwrapE (v : Value) (xT : TypeId) (w : World) : (Instr.typeAssert (.iface 145 v) xT 95 true).run Tryz.prog w = .ok (.tuple #[.nilIface, .bool false]) w := run_typeAssert_lacksB Tryz.underlying95 (by kernel_rfl) (by kernel_rfl) v xT w
theorem noUnwrapsE (v : Value) (xT : TypeId) (w : World) : (Instr.typeAssert (.iface 145 v) xT 97 true).run Tryz.prog w = .ok (.tuple #[.nilIface, .bool false]) w := run_typeAssert_lacksB Tryz.underlying97 (by kernel_rfl) (by kernel_rfl) v xT w

/-- an error that is a pointer to an errors.errorString -/
def errP (a : Addr) : Value := .iface 145 (.pointer (some a))

theorem is_same (a : Addr) (w : World) :
    Calls Tryz.prog 18 #[.iface 145 (.pointer (some a)), .iface 145 (.pointer (some a))] w fun e w' => e = .returned (.bool true) ∧ w = w' := by
  obtain ⟨i, hi, hcmp⟩ := Option.map_eq_some_iff.1 isComp
  obtain ⟨j, hj, hjs⟩ := Option.map_eq_some_iff.1 isSize
  have h8 := @run_callFunc_extern Tryz.prog 31 _ Extern.ReflectliteType.typeOf Tryz.func31 (by kernel_rfl) (by kernel_rfl) (by kernel_rfl) (by kernel_rfl)
  have h32 := @run_callFunc_extern Tryz.prog 105 _ cmpE Tryz.func105 (by kernel_rfl) (by kernel_rfl) (by kernel_rfl) (by kernel_rfl)
  have tT := isTypeOf
  have cT := isComparable
  have mR := isMethodComparable
  have heq := run_eql_iface_ptr_same (P := Tryz.prog) w a Tryz.underlying25 Tryz.underlying145 hi hcmp hj
  go_enter Tryz.func18, Tryz.ntmps18
  go_wp2
  refine wp_loop_rounds 1 ?_
  rw [rounds_succ]
  go_wp2
  go_ret
  exact ⟨rfl, rfl⟩

theorem is_other (a b : Addr) (ca cb : Array Value) (ta tb : TypeId) (w : World) (hne : a ≠ b) (ha : w.heap[a.block]? = some (.cells ca ta (0, 0))) (hb : w.heap[b.block]? = some (.cells cb tb (0, 0))) :
    Calls Tryz.prog 18 #[.iface 145 (.pointer (some a)), .iface 145 (.pointer (some b))] w fun e w' => e = .returned (.bool false) ∧ w = w' := by
  obtain ⟨i, hi, hcmp⟩ := Option.map_eq_some_iff.1 isComp
  obtain ⟨j, hj, hjs⟩ := Option.map_eq_some_iff.1 isSize
  have h8 := @run_callFunc_extern Tryz.prog 31 _ Extern.ReflectliteType.typeOf Tryz.func31 (by kernel_rfl) (by kernel_rfl) (by kernel_rfl) (by kernel_rfl)
  have h32 := @run_callFunc_extern Tryz.prog 105 _ cmpE Tryz.func105 (by kernel_rfl) (by kernel_rfl) (by kernel_rfl) (by kernel_rfl)
  have tT := isTypeOf
  have cT := isComparable
  have mR := isMethodComparable
  have nE := noIsE
  have uE := noUnwrapE
  have vE := noUnwrapsE
  have heq := run_eql_iface_ptr_other (P := Tryz.prog) w Tryz.underlying25 Tryz.underlying145 hi hcmp hj (by rw [hjs]; decide) hne ha hb
  go_enter Tryz.func18, Tryz.ntmps18
  go_wp2
  refine wp_loop_rounds 1 ?_
  rw [rounds_succ]
  go_wp2
  go_ret
  exact ⟨rfl, rfl⟩

/-- the variable of an error's number -/
def gE : Nat → Nat
  | 1 => 5 | 2 => 6 | 3 => 3 | 4 => 7 | 5 => 8 | 6 => 9 | 7 => 10 | 8 => 1
  | 9 => 0 | 10 => 11 | 11 => 12 | 12 => 13 | 13 => 14 | 14 => 15 | 15 => 4 | _ => 16

/-- the errors of package api lie in their variables: sixteen pointers, no two of them one -/
structure ErrsIn (E : Nat → Addr) (w : World) : Prop where
  cell : ∀ k, 1 ≤ k → k ≤ 16 → w.cell? ⟨gE k, 0, none⟩ = some (.iface 145 (.pointer (some (E k))))
  obj : ∀ k, 1 ≤ k → k ≤ 16 → ∃ c t, w.heap[(E k).block]? = some (.cells c t (0, 0))
  inj : ∀ j k, 1 ≤ j → j ≤ 16 → 1 ≤ k → k ≤ 16 → E j = E k → j = k

theorem ErrsIn.of_block {E : Nat → Addr} {w w' : World} (h : ErrsIn E w) (hb : ∀ k, k < w.heap.size → w'.heap[k]? = w.heap[k]?) : ErrsIn E w' := by
  refine ⟨fun k h1 h2 => ?_, fun k h1 h2 => ?_, h.inj⟩
  · have hc := h.cell k h1 h2
    rw [World.cell?_of_block (w := w) (hb _ (World.block_lt_of_cell? w _ hc))]
    exact hc
  · obtain ⟨c, t, ho⟩ := h.obj k h1 h2
    have : (E k).block < w.heap.size := (Array.getElem?_eq_some_iff.1 ho).1
    exact ⟨c, t, (hb _ this).trans ho⟩
theorem ErrsIn.below {E : Nat → Addr} {w w' : World} {B : Nat} (h : ErrsIn E w) (hb : Below B w w') (hB : w.heap.size ≤ B) : ErrsIn E w' := h.of_block fun k hk => hb.block k (by omega)
theorem ErrsIn.alloc {E : Nat → Addr} {w : World} (h : ErrsIn E w) (o : Obj) : ErrsIn E (w.alloc o) := h.of_block fun k hk => Below.heap_alloc w o k hk
theorem ErrsIn.drew {E : Nat → Addr} {w : World} (h : ErrsIn E w) : ErrsIn E w.drew := h.of_block fun _ _ => rfl
theorem ErrsIn.drewN {E : Nat → Addr} {w : World} (h : ErrsIn E w) (n : Nat) : ErrsIn E (w.drewN n) := h.of_block fun _ _ => rfl

/-- one error lies in its variable -/
def ErrAt (E : Nat → Addr) (w : World) (k : Nat) : Prop := w.cell? ⟨gE k, 0, none⟩ = some (.iface 145 (.pointer (some (E k))))
theorem ErrAt.of_block {E : Nat → Addr} {w w' : World} {j : Nat} (h : ErrAt E w j) (hb : ∀ k, k < w.heap.size → w'.heap[k]? = w.heap[k]?) : ErrAt E w' j :=
  (World.cell?_of_block (hb _ (World.block_lt_of_cell? w _ h))).trans h
theorem ErrAt.below {E : Nat → Addr} {w w' : World} {j B : Nat} (h : ErrAt E w j) (hb : Below B w w') (hB : w.heap.size ≤ B) : ErrAt E w' j := h.of_block fun k hk => hb.block k (by omega)
theorem ErrAt.alloc {E : Nat → Addr} {w : World} {j : Nat} (h : ErrAt E w j) (o : Obj) : ErrAt E (w.alloc o) j := h.of_block fun k hk => Below.heap_alloc w o k hk
theorem ErrAt.drewN {E : Nat → Addr} {w : World} {j : Nat} (h : ErrAt E w j) (n : Nat) : ErrAt E (w.drewN n) j := h.of_block fun _ _ => rfl
theorem ErrsIn.at_ {E : Nat → Addr} {w : World} (h : ErrsIn E w) (k : Nat) (h1 : 1 ≤ k) (h2 : k ≤ 16) : ErrAt E w k := h.cell k h1 h2

/-- the error of a number, as a value; 0: nil -/
def errV (E : Nat → Addr) (k : Nat) : Value := if k = 0 then .nilIface else .iface 145 (.pointer (some (E k)))
theorem errV_zero (E : Nat → Addr) : errV E 0 = .nilIface := rfl
theorem errV_pos (E : Nat → Addr) {k : Nat} (h : 1 ≤ k) : errV E k = .iface 145 (.pointer (some (E k))) := by unfold errV; rw [if_neg (by omega)]

theorem is_errs {E : Nat → Addr} {w : World} (h : ErrsIn E w) (j k : Nat) (h1 : 1 ≤ j) (h2 : j ≤ 16) (h3 : 1 ≤ k) (h4 : k ≤ 16) :
    Calls Tryz.prog 18 #[.iface 145 (.pointer (some (E j))), .iface 145 (.pointer (some (E k)))] w fun e w' => e = .returned (.bool (j == k)) ∧ w = w' := by
  by_cases hjk : j = k
  · subst hjk
    exact (is_same (E j) w).mono fun e w' ⟨he, hw⟩ => ⟨by rw [he]; simp, hw⟩
  · obtain ⟨c, t, ho⟩ := h.obj j h1 h2
    obtain ⟨c', t', ho'⟩ := h.obj k h3 h4
    exact (is_other (E j) (E k) c c' t t' w (fun e => hjk (h.inj j k h1 h2 h3 h4 e)) ho ho').mono fun e w' ⟨he, hw⟩ => ⟨by rw [he]; simp [hjk], hw⟩

/-- the cells of all() -/
def allCells (E : Nat → Addr) : List Value := (List.range 16).map fun i => .iface 145 (.pointer (some (E (i + 1))))

set_option maxHeartbeats 400000 in
theorem num_all {E : Nat → Addr} {w : World} (h : ErrsIn E w) :
    Calls Tryz.prog 17 #[] w fun e w' => e = .returned (.slice (some ⟨w.heap.size, 0, none⟩) 16 16) ∧ w.alloc (.cells (allCells E).toArray 25) = w' := by
  have h1 := h.cell 1 (by omega) (by omega)
  have h2 := h.cell 2 (by omega) (by omega)
  have h3 := h.cell 3 (by omega) (by omega)
  have h4 := h.cell 4 (by omega) (by omega)
  have h5 := h.cell 5 (by omega) (by omega)
  have h6 := h.cell 6 (by omega) (by omega)
  have h7 := h.cell 7 (by omega) (by omega)
  have h8 := h.cell 8 (by omega) (by omega)
  have h9 := h.cell 9 (by omega) (by omega)
  have h10 := h.cell 10 (by omega) (by omega)
  have h11 := h.cell 11 (by omega) (by omega)
  have h12 := h.cell 12 (by omega) (by omega)
  have h13 := h.cell 13 (by omega) (by omega)
  have h14 := h.cell 14 (by omega) (by omega)
  have h15 := h.cell 15 (by omega) (by omega)
  have h16 := h.cell 16 (by omega) (by omega)
  simp only [gE] at h1 h2 h3 h4 h5 h6 h7 h8 h9 h10 h11 h12 h13 h14 h15 h16
  go_enter Tryz.func17, Tryz.ntmps17
  go_wp2
  go_ret
  exact ⟨rfl, rfl⟩

set_option maxHeartbeats 400000 in
theorem num_nil (w : World) : Calls Tryz.prog 7 #[.nilIface] w fun e w' => e = .returned (.int .i64 0) ∧ w = w' := by
  go_enter Tryz.func7, Tryz.ntmps7
  go_wp2
  go_ret
  exact ⟨rfl, rfl⟩

end Go.Proofs.YtgpkekdbohdbfaaGreatDoor
