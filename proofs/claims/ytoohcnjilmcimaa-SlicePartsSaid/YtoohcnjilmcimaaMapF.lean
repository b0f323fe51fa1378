/- A map from integers to integers that the call has made, as a function: look-up and store. No statement of the claim. -/
import Derived.Maps.OwnSet
import Derived.Maps.OwnOps
import Derived.Test.YtoohcnjilmcimaaKit
namespace Go.Proofs.Ytoohcnjilmcimaa
open Go.Maps Go.RowKit

/-- block b is a map of at most n entries that answers as the function f does (keys and elements of two integer kinds) -/
def MapFn (w : World) (P : Program) (k e : TypeId) (qk q : IntKind) (b n : Nat) (f : Int → Option Int) : Prop :=
  ∃ D : DataW Unit, w.ownsMap P k (plainElem P e) b n D ∧ ∀ x, (Lit.int qk x).wf = true → Maps.has D (.int qk x) = (f x).isSome ∧ ∀ v, f x = some v → D.atKey (.int qk x) (.lit (.int q 0)) = .lit (.int q v)

section
variable {P : Program} {k e t : TypeId} {qk q : IntKind} {b n : Nat} {f : Int → Option Int} {w w' : World}
theorem MapFn.made (w : World) (P : Program) (k e : TypeId) (qk q : IntKind) : MapFn (w.alloc (.map #[] 0)) P k e qk q w.heap.size 0 (fun _ => none) :=
  ⟨_, World.ownsMap_made w P k _, fun x _ => ⟨rfl, fun v hv => by cases hv⟩⟩
theorem MapFn.alloc (h : MapFn w P k e qk q b n f) (o : Obj) : MapFn (w.alloc o) P k e qk q b n f := by
  obtain ⟨D, h1, h2⟩ := h
  exact ⟨D, h1.alloc o, h2⟩
theorem MapFn.drewN (h : MapFn w P k e qk q b n f) (m : Nat) : MapFn (w.drewN m) P k e qk q b n f := by
  obtain ⟨D, h1, h2⟩ := h
  exact ⟨D, h1, h2⟩
theorem MapFn.kept {row : Option Nat} (h : MapFn w P k e qk q b n f) (hg : w.grownBy w' row) (hne : some b ≠ row) : MapFn w' P k e qk q b n f := by
  obtain ⟨D, h1, h2⟩ := h
  exact ⟨D, h1.kept hg hne, h2⟩
theorem MapFn.below {B : Nat} (h : MapFn w P k e qk q b n f) (hb : Below B w w') (hB : b < B) : MapFn w' P k e qk q b n f := by
  obtain ⟨D, ⟨es, clock, hh, r⟩, h2⟩ := h
  exact ⟨D, ⟨es, clock, (hb.block b hB).trans hh, r⟩, h2⟩
theorem MapFn.lt (h : MapFn w P k e qk q b n f) : b < w.heap.size := by
  obtain ⟨D, h1, _⟩ := h
  exact h1.lt
theorem MapFn.congr {g : Int → Option Int} (h : MapFn w P k e qk q b n f) (he : ∀ x, f x = g x) : MapFn w P k e qk q b n g := by
  obtain rfl : f = g := funext he
  exact h

theorem lit_inj {a c : Int} (h : (DataW.lit (.int q a) : DataW Unit) = .lit (.int q c)) : a = c := by
  injection h with h
  injection h

/-- 'v, ok := m[x]' -/
theorem wpList_look_ok {ops : Array Oper} {rest : List Oper} {o : Oper} {a : Act} {Q : Exit → Act → World → Prop} (hg : o.guard = none) (m x : Operand) (hop : o.op = Op.lookup t m x true)
    (hk : P.underlying k = some (.int qk)) (ht : P.underlying t = some (.map k e)) (he : P.underlying e = some (.int q)) (hz : (zeroValue e).run P w = .ok (.int q 0) w)
    (hm : a.eval m = .map (some b)) (hown : MapFn w P k e qk q b n f) (xv : Int) (hx : a.eval x = .int qk xv) (hw : (Lit.int qk xv).wf = true)
    (hK : wpList P ops Q rest (a.put o.dst (.tuple #[.int q ((f xv).getD 0), .bool (f xv).isSome])) w) :
    wpList P ops Q (o :: rest) a w := by
  obtain ⟨D, h1, h2⟩ := hown
  obtain ⟨h3, h4⟩ := h2 xv hw
  refine wpList_lookup_own_ok_int w hg m x t hop k e q (int_keyed hk) ht he hz b n D hm h1 _ _ hx (keyOf_int_mk hk hw) fun c hc _ => ?_
  rw [h3]
  cases hf : f xv with
  | some v =>
    rw [h4 v hf] at hc
    obtain rfl := lit_inj hc
    rw [hf] at hK
    exact hK
  | none =>
    rw [hf] at h3
    rw [atKey_of_not_has h3] at hc
    obtain rfl := lit_inj hc
    rw [hf] at hK
    exact hK

/-- 'm[x]' -/
theorem wpList_look {ops : Array Oper} {rest : List Oper} {o : Oper} {a : Act} {Q : Exit → Act → World → Prop} (hg : o.guard = none) (m x : Operand) (hop : o.op = Op.lookup t m x false)
    (hk : P.underlying k = some (.int qk)) (ht : P.underlying t = some (.map k e)) (he : P.underlying e = some (.int q)) (hz : (zeroValue e).run P w = .ok (.int q 0) w)
    (hm : a.eval m = .map (some b)) (hown : MapFn w P k e qk q b n f) (xv : Int) (hx : a.eval x = .int qk xv) (hw : (Lit.int qk xv).wf = true)
    (hK : wpList P ops Q rest (a.put o.dst (.int q ((f xv).getD 0))) w) :
    wpList P ops Q (o :: rest) a w := by
  obtain ⟨D, h1, h2⟩ := hown
  obtain ⟨h3, h4⟩ := h2 xv hw
  refine wpList_lookup_own_int w hg m x t hop k e q (int_keyed hk) ht he hz b n D hm h1 _ _ hx (keyOf_int_mk hk hw) fun c hc _ => ?_
  cases hf : f xv with
  | some v =>
    rw [h4 v hf] at hc
    obtain rfl := lit_inj hc
    rw [hf] at hK
    exact hK
  | none =>
    rw [hf] at h3
    rw [atKey_of_not_has h3] at hc
    obtain rfl := lit_inj hc
    rw [hf] at hK
    exact hK

/-- 'm[x] = v' -/
theorem wpList_store_fn {ops : Array Oper} {rest : List Oper} {o : Oper} {a : Act} {Q : Exit → Act → World → Prop} (hg : o.guard = none) (m x v : Operand) (hop : o.op = Op.mapUpdate t m x v)
    (hk : P.underlying k = some (.int qk)) (ht : P.underlying t = some (.map k e)) (he : P.underlying e = some (.int q))
    (hm : a.eval m = .map (some b)) (hown : MapFn w P k e qk q b n f) (hn : n < maxLen) (xv vv : Int) (hx : a.eval x = .int qk xv) (hv : a.eval v = .int q vv) (hw : (Lit.int qk xv).wf = true) (hwv : (Lit.int q vv).wf = true)
    (hK : ∀ w', MapFn w' P k e qk q b (n + 1) (fun y => if y = xv then some vv else f y) → w.grownBy w' (some b) → wpList P ops Q rest (a.put o.dst undef) w') :
    wpList P ops Q (o :: rest) a w := by
  obtain ⟨D, h1, h2⟩ := hown
  have hD : IsMap D := h1.isMap
  refine wpList_mapUpdate_own w hg m x v t hop k e (int_keyed hk) ht _ b n D hm h1 hn _ _ _ hx hv (keyOf_int_mk hk hw) _ [] (plainElem_int he hwv) fun w' h3 h4 => hK w' ⟨_, h3, fun y hy => ?_⟩ h4
  have hkl : WideAt.IsKeyLit (.int qk xv) := (int_keyed hk).key (keyOf_int_mk hk hw)
  by_cases hyx : y = xv
  · subst hyx
    refine ⟨?_, fun u hu => ?_⟩
    · rw [has_put_same hD hkl]; simp
    · rw [atKey_put_same hD hkl]
      simp at hu
      rw [hu]
  · have hne : (Lit.int qk y) ≠ .int qk xv := fun e => hyx (by injection e)
    obtain ⟨h5, h6⟩ := h2 y hy
    simp only [hyx, if_false]
    refine ⟨by rw [has_put_other hne]; exact h5, fun u hu => ?_⟩
    rw [atKey_put_other hne]
    exact h6 u hu
end
end Go.Proofs.Ytoohcnjilmcimaa
