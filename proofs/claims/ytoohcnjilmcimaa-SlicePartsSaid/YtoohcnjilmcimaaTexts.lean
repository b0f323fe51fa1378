/- Rows of numbers, of texts, and of rows of texts, in memory of the call's own. -/
import Derived.Test.YtoohcnjilmcimaaProg
import Derived.Test.YtoohcnjilmcimaaKit
import Derived.KernelRfl
namespace Go.Proofs.Ytoohcnjilmcimaa
open Go.RowKit

abbrev Bts := List UInt8
def strV (l : Bts) : Value := .string ⟨l.toArray⟩
theorem strV_data (s : ByteArray) : strV s.data.toList = .string s := by unfold strV; congr 1
theorem info_int : (Try.prog.info? 3).map (fun i => (i.zero, i.size, i.bytes)) = some (some (.int .i64 0), 1, 8) := by kernel_rfl
theorem info_str : (Try.prog.info? 9).map (fun i => (i.zero, i.size, i.bytes)) = some (some (.string ByteArray.empty), 1, 16) := by kernel_rfl
theorem slty_ints : SlTy Try.prog 24 3 1 8 := slTy Try.underlying24 info_int rfl (by decide) (by decide)
def IntsOwn (w : World) (base : Nat) (v : Value) (l : List Nat) : Prop := w.ownsRow base 3 1 v l.length (l.map fun n : Nat => Value.int .i64 (n : Int))
def StrsOwn (w : World) (base : Nat) (v : Value) (l : List Bts) : Prop := w.ownsRow base 9 1 v l.length (l.map strV)
theorem StrsOwn.append {w : World} {base : Nat} {v : Value} {l : List Bts} {s : ByteArray} (h : w.ownsRow base 9 1 v (l.length + 1) (l.map strV ++ [.string s])) : StrsOwn w base v (l ++ [s.data.toList]) := by
  unfold StrsOwn
  rw [List.length_append, List.map_append]
  simpa [strV_data] using h
theorem IntsOwn.append {w : World} {base : Nat} {v : Value} {l : List Nat} {n : Nat} (h : w.ownsRow base 3 1 v (l.length + 1) ((l.map fun n : Nat => Value.int .i64 (n : Int)) ++ [.int .i64 (n : Int)])) : IntsOwn w base v (l ++ [n]) := by
  unfold IntsOwn
  rw [List.length_append, List.map_append]
  simpa using h

theorem StrsOwn.grew {w w' : World} {base b : Nat} {u v v' : Value} {l : List Bts} (h : StrsOwn w base u l) (g : Grew w b v w' v') (hne : u.ownBlock = none ∨ u.ownBlock ≠ v.ownBlock) : StrsOwn w' base u l := g.keep h hne
theorem StrsOwn.new {w : World} {base : Nat} (hb : base ≤ w.heap.size) : StrsOwn (w.alloc (.cells #[] 9)) base (.slice (some ⟨w.heap.size, 0, none⟩) 0 0) [] :=
  World.ownsRow_made w #[] 0 hb (by simp [maxLen]) (by simp)
theorem IntsOwn.grew {w w' : World} {base b : Nat} {u v v' : Value} {l : List Nat} (h : IntsOwn w base u l) (g : Grew w b v w' v') (hne : u.ownBlock = none ∨ u.ownBlock ≠ v.ownBlock) : IntsOwn w' base u l := g.keep h hne
theorem IntsOwn.alloc {w : World} {base : Nat} {v : Value} {l : List Nat} (h : IntsOwn w base v l) (o : Obj) : IntsOwn (w.alloc o) base v l := World.ownsRow.alloc h o
theorem StrsOwn.alloc {w : World} {base : Nat} {v : Value} {l : List Bts} (h : StrsOwn w base v l) (o : Obj) : StrsOwn (w.alloc o) base v l := World.ownsRow.alloc h o
/-! lines: a number and a row of texts -/
def lineCells (L : List (Nat × List Bts)) (vs : List Value) : List Value := (List.zipWith (fun (p : Nat × List Bts) u => [Value.int .i64 (p.1 : Int), u]) L vs).flatten
theorem lineCells_append (L : List (Nat × List Bts)) (vs : List Value) (h : vs.length = L.length) (p : Nat × List Bts) (u : Value) : lineCells (L ++ [p]) (vs ++ [u]) = lineCells L vs ++ [.int .i64 (p.1 : Int), u] := by
  unfold lineCells
  rw [List.zipWith_append (by omega)]
  simp
theorem own_base {w : World} {base base' e size n : Nat} {v : Value} {xs : List Value} (h : w.ownsRow base e size v n xs) (hb : base' ≤ base) : w.ownsRow base' e size v n xs := by
  refine ⟨h.1, ?_⟩
  rcases h.2 with h2 | ⟨g, cap, cur, hv, hg, r⟩
  · exact .inl h2
  · exact .inr ⟨g, cap, cur, hv, by omega, r⟩
end Go.Proofs.Ytoohcnjilmcimaa
