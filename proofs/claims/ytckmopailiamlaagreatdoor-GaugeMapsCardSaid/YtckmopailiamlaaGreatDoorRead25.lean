/- How the arguments of the laws of chapter 25 read, and what the rows' lists of variables give. No statement of the claim. -/
import Derived.Test.YtckmopailiamlaaGreatDoorLaid2
import Derived.Test.YtckmopailiamlaaGreatDoorTabV
import Derived.Test.YtckmopailiamlaaGreatDoorCoAF
import Derived.Deep.Strs
import Derived.OpenShut
import Derived.Carry
namespace Go.Proofs.YtckmopailiamlaaGreatDoor
set_option maxRecDepth 100000
open Go.ChangeShapes Go.WideShapes Go.ChangeAt Go.RowKit Go.Deep AmC
variable {cs : List Value} {v : Value} {p : List MemPlace}
section
variable {H : Type} {enc : TypeId × Value → H} {w : World} {base : Nat} {spare : Nat → Bool} {held : Bool} {fuel : Nat}
theorem act_trod {x : DataW H × List MemPlace} (h : DataW.trod enc Tryz.prog w base spare held fuel 34 cs = some x) : ∃ a b c : Int, cs = [.int .i64 a, .int .i64 b, .int .i64 c] := by
 obtain ⟨xs, m, rfl, rfl, hl, hxs, hf⟩ := DataW.trod_struct Tryz.underlying34 h
 have hc1 : Tryz.prog.cellsOf 3 = 1 := by kernel_rfl
 have hc3 : Tryz.prog.cellsOf 34 = 3 := by kernel_rfl
 rw [hc3] at hl
 have hx3 : xs.length = 3 := hxs
 have f0 : DataW.trod enc Tryz.prog w base spare held m 3 ((cs.drop 0).take (Tryz.prog.cellsOf 3)) = xs[0]? := hf 0 _ rfl
 have f1 : DataW.trod enc Tryz.prog w base spare held m 3 ((cs.drop 1).take (Tryz.prog.cellsOf 3)) = xs[1]? := hf 1 _ rfl
 have f2 : DataW.trod enc Tryz.prog w base spare held m 3 ((cs.drop 2).take (Tryz.prog.cellsOf 3)) = xs[2]? := hf 2 _ rfl
 rw [hc1] at f0 f1 f2
 rw [List.getElem?_eq_getElem (by omega)] at f0 f1 f2
 obtain ⟨n0, q0, _, w0⟩ := DataW.trod_int Tryz.underlying3 f0
 obtain ⟨n1, q1, _, w1⟩ := DataW.trod_int Tryz.underlying3 f1
 obtain ⟨n2, q2, _, w2⟩ := DataW.trod_int Tryz.underlying3 f2
 refine ⟨n0, n1, n2, ?_⟩
 match cs, hl with
 | [a, b, c], _ =>
  simp at q0 q1 q2
  simp [q0, q1, q2]
theorem cfg_trod {x : DataW H × List MemPlace} (h : DataW.trod enc Tryz.prog w base spare held fuel 23 cs = some x) : ∃ a b c : Int, cs = [.int .i64 a, .int .i64 b, .int .i64 c] := by
 obtain ⟨xs, m, rfl, rfl, hl, hxs, hf⟩ := DataW.trod_struct Tryz.underlying23 h
 have hc1 : Tryz.prog.cellsOf 3 = 1 := by kernel_rfl
 have hc3 : Tryz.prog.cellsOf 23 = 3 := by kernel_rfl
 rw [hc3] at hl
 have hx3 : xs.length = 3 := hxs
 have f0 : DataW.trod enc Tryz.prog w base spare held m 3 ((cs.drop 0).take (Tryz.prog.cellsOf 3)) = xs[0]? := hf 0 _ rfl
 have f1 : DataW.trod enc Tryz.prog w base spare held m 3 ((cs.drop 1).take (Tryz.prog.cellsOf 3)) = xs[1]? := hf 1 _ rfl
 have f2 : DataW.trod enc Tryz.prog w base spare held m 3 ((cs.drop 2).take (Tryz.prog.cellsOf 3)) = xs[2]? := hf 2 _ rfl
 rw [hc1] at f0 f1 f2
 rw [List.getElem?_eq_getElem (by omega)] at f0 f1 f2
 obtain ⟨n0, q0, _, w0⟩ := DataW.trod_int Tryz.underlying3 f0
 obtain ⟨n1, q1, _, w1⟩ := DataW.trod_int Tryz.underlying3 f1
 obtain ⟨n2, q2, _, w2⟩ := DataW.trod_int Tryz.underlying3 f2
 refine ⟨n0, n1, n2, ?_⟩
 match cs, hl with
 | [a, b, c], _ =>
  simp at q0 q1 q2
  simp [q0, q1, q2]
theorem open_cfg {r : Reach} {b0 : Nat} {d : DataW H} (hv : Value.okWide Tryz.prog w r b0 23 v) (h : DataW.Trod enc Tryz.prog w base spare held 23 v d p) : ∃ k m i : Int, v = .agg #[.int .i64 k, .int .i64 m, .int .i64 i] := by
 obtain ⟨cs, rfl, hsz⟩ := okWide_struct Tryz.underlying23 hv
 obtain ⟨fuel, hf⟩ := h
 obtain ⟨a, b, c, hc⟩ := cfg_trod (cs := cs.toList) hf
 refine ⟨a, b, c, ?_⟩
 congr 1
 apply Array.toList_inj.1
 rw [hc]
theorem open_hash {d : DataW H} (ho : Value.okWide Tryz.prog w .any base 24 v) (h : DataW.Trod enc Tryz.prog w 0 (fun _ => true) true 24 v d p) :
  ∃ (A : Option Addr) (n c : Nat) (l : List Nat), v = .slice A n c ∧ l.length = n ∧ Reads w w.heap.size 1 A n (numsV l) ∧ ∀ x ∈ l, x < 18446744073709551616 := by
 obtain ⟨a0, len0, cap0, rfl⟩ := okWide_slice Tryz.underlying24 ho
 obtain ⟨fuel, hf⟩ := h
 have hc1 : Tryz.prog.cellsOf 35 = 1 := by kernel_rfl
 rcases open_slice Tryz.underlying24 hf with ⟨hcs, _⟩ | ⟨a, len, cap, m, kx, D, Pl, hcs, _, hl, _, hm, _, hx⟩
 ·simp [Value.cells] at hcs
  obtain ⟨rfl, rfl, rfl⟩ := hcs
  exact ⟨none, 0, 0, [], rfl, rfl, Reads.none_, fun _ h => absurd h List.not_mem_nil⟩
 ·simp [Value.cells] at hcs
  obtain ⟨rfl, rfl, rfl⟩ := hcs
  simp only [if_true] at hm
  rw [hc1] at hx
  obtain ⟨O, hO⟩ := choose_lt (α := Nat) (n := len0) (p := fun i b => b < 18446744073709551616 ∧ w.cell? (a.add i) = some (.int .u64 (b : Int))) (fun i hi => by
   obtain ⟨cs', h1, h2⟩ := hx i (by omega)
   obtain ⟨_, _, hcell⟩ := World.cells?_some h1
   obtain ⟨b, rfl, _, hw⟩ := DataW.trod_int Tryz.underlying35 h2
   have hb := Go.bounds_u64 hw
   have := hcell 0 (by omega)
   rw [Nat.mul_one] at this
   refine ⟨b.toNat, by omega, ?_⟩
   rw [show ((b.toNat : Nat) : Int) = b by omega]
   obtain ⟨ab, ao, asp⟩ := a
   have e : ((⟨ab, ao, asp⟩ : Addr).add i).add 0 = (⟨ab, ao, asp⟩ : Addr).add i := by
    unfold Addr.add
    split <;> simp_all
   rw [e] at this
   simpa using this)
  refine ⟨some a, len0, cap0, (List.range len0).map O, rfl, by simp, ⟨by simp [numsV], fun hn => ?_⟩, fun x hx => ?_⟩
  ·obtain ⟨b, off, spot⟩ := a
   have h00 := (hO 0 (by omega)).2
   have hspot : spot = none := by simpa [Addr.add] using World.cell?_spot h00
   subst hspot
   refine ⟨b, off, rfl, by simpa [Addr.add] using World.block_lt_of_cell? w _ h00, fun j u hu => ?_⟩
   have hj : j < len0 := by have := (List.getElem?_eq_some_iff.1 hu).1; simpa [numsV] using this
   have h1 := (hO j (by omega)).2
   rw [add_plain] at h1
   rw [h1, ← hu]
   simp [numsV, hj]
  ·obtain ⟨i, hi, rfl⟩ := List.mem_map.1 hx
   exact (hO i (by simpa using hi)).1
instance : Inhabited LAct := ⟨⟨0, 0, 0⟩⟩
theorem actsCells_length (l : List LAct) : (l.flatMap LAct.cells).length = l.length * 3 := by
 induction l with
 | nil => rfl
 | cons x l ih => simp only [List.flatMap_cons, List.length_append, List.length_cons, ih]; simp [LAct.cells]; omega
theorem actsCells_at (l : List LAct) : ∀ (i : Nat) (a : LAct), l[i]? = some a → ∀ j, j < 3 → (l.flatMap LAct.cells)[i * 3 + j]? = a.cells[j]? := by
 induction l with
 | nil => intro i a h; simp at h
 | cons x l ih =>
  intro i a h j hj
  rw [List.flatMap_cons]
  cases i with
  | zero =>
   simp at h; subst h
   rw [List.getElem?_append_left (by simp [LAct.cells]; omega), Nat.zero_mul, Nat.zero_add]
  | succ i =>
   rw [List.getElem?_append_right (by simp [LAct.cells]; omega), show (i + 1) * 3 + j - x.cells.length = i * 3 + j by simp [LAct.cells]; omega]
   exact ih i a (by simpa using h) j hj
theorem open_acts {d : DataW H} (ho : Value.okWide Tryz.prog w .any base 25 v) (h : DataW.Trod enc Tryz.prog w 0 (fun _ => true) true 25 v d p) :
  ∃ (A : Option Addr) (n c : Nat) (l : List LAct), v = .slice A n c ∧ l.length = n ∧ Reads w w.heap.size 3 A n (l.flatMap LAct.cells) := by
 obtain ⟨a0, len0, cap0, rfl⟩ := okWide_slice Tryz.underlying25 ho
 obtain ⟨fuel, hf⟩ := h
 have hc3 : Tryz.prog.cellsOf 34 = 3 := by kernel_rfl
 rcases open_slice Tryz.underlying25 hf with ⟨hcs, _⟩ | ⟨a, len, cap, m, k, D, Pl, hcs, _, hl, _, hm, _, hx⟩
 ·simp [Value.cells] at hcs
  obtain ⟨rfl, rfl, rfl⟩ := hcs
  exact ⟨none, 0, 0, [], rfl, rfl, Reads.none_⟩
 ·simp [Value.cells] at hcs
  obtain ⟨rfl, rfl, rfl⟩ := hcs
  simp only [if_true] at hm
  rw [hc3] at hx
  obtain ⟨O, hO⟩ := choose_lt (α := LAct) (n := len0) (p := fun i o => ∀ j, j < 3 → w.cell? ((a.add (i * 3)).add j) = (LAct.cells o)[j]?) (fun i hi => by
   obtain ⟨cs', h1, h2⟩ := hx i (by omega)
   obtain ⟨_, _, hcell⟩ := World.cells?_some h1
   obtain ⟨x, y, z, rfl⟩ := act_trod h2
   exact ⟨⟨x, y, z⟩, hcell⟩)
  refine ⟨some a, len0, cap0, (List.range len0).map O, rfl, by simp, ⟨by rw [actsCells_length]; simp, fun hn => ?_⟩⟩
  obtain ⟨b, off, spot⟩ := a
  have h00 := hO 0 (by omega) 0 (by omega)
  have hspot : spot = none := by simpa [Addr.add] using World.cell?_spot (h00.trans rfl)
  subst hspot
  refine ⟨b, off, rfl, by simpa [Addr.add] using World.block_lt_of_cell? w _ (h00.trans rfl), fun j u hu => ?_⟩
  have hj : j < len0 * 3 := by have := (List.getElem?_eq_some_iff.1 hu).1; rw [actsCells_length] at this; simpa using this
  have h1 := hO (j / 3) (by omega) (j % 3) (by omega)
  rw [← actsCells_at ((List.range len0).map O) (j / 3) (O (j / 3)) (by rw [List.getElem?_map, List.getElem?_range (by omega)]; rfl) _ (by omega), show j / 3 * 3 + j % 3 = j by omega, hu] at h1
  rw [add_plain, add_plain, show off + j / 3 * 3 + j % 3 = off + j by omega] at h1
  exact h1
end
def db64 : List Int := [0, 1, 56, 2, 57, 49, 28, 3, 61, 58, 42, 50, 38, 29, 17, 4, 62, 47, 59, 36, 45, 43, 51, 22, 53, 39, 33, 30, 24, 18, 12, 5, 63, 55, 48, 27, 60, 41, 37, 16, 46, 35, 44, 21, 52, 32, 23, 11, 54, 26, 40, 15, 34, 20, 31, 10, 25, 14, 19, 9, 13, 8, 7, 6]
end Go.Proofs.YtckmopailiamlaaGreatDoor
