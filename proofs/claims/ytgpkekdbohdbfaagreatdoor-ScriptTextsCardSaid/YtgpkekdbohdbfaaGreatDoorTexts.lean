/- Rows of numbers, of texts, and of rows of texts, in memory of the call's own. -/
import Derived.Test.YtgpkekdbohdbfaaGreatDoorProg
import Derived.Test.YtgpkekdbohdbfaaGreatDoorKit
import Derived.KernelRfl
namespace Go.Proofs.YtgpkekdbohdbfaaGreatDoor
open Go.RowKit

abbrev Bts := List UInt8
def strV (l : Bts) : Value := .string ⟨l.toArray⟩
theorem strV_data (s : ByteArray) : strV s.data.toList = .string s := by unfold strV; congr 1
theorem info_int : (Tryz.prog.info? 3).map (fun i => (i.zero, i.size, i.bytes)) = some (some (.int .i64 0), 1, 8) := by kernel_rfl
theorem info_str : (Tryz.prog.info? 9).map (fun i => (i.zero, i.size, i.bytes)) = some (some (.string ByteArray.empty), 1, 16) := by kernel_rfl
theorem info_strs : (Tryz.prog.info? 45).map (fun i => (i.zero, i.size, i.bytes)) = some (some (.slice none 0 0), 1, 24) := by kernel_rfl
theorem slty_ints : SlTy Tryz.prog 50 3 1 8 := slTy Tryz.underlying50 info_int rfl (by decide) (by decide)
theorem slty_strs : SlTy Tryz.prog 45 9 1 16 := slTy Tryz.underlying45 info_str rfl (by decide) (by decide)
theorem slty_rows : SlTy Tryz.prog 51 45 1 24 := slTy Tryz.underlying51 info_strs rfl (by decide) (by decide)

def IntsOwn (w : World) (base : Nat) (v : Value) (l : List Nat) : Prop := w.ownsRow base 3 1 v l.length (l.map fun n : Nat => Value.int .i64 (n : Int))
def StrsOwn (w : World) (base : Nat) (v : Value) (l : List Bts) : Prop := w.ownsRow base 9 1 v l.length (l.map strV)
/-- rows of texts; none of them is the row x -/
def RowsOwn (w : World) (base : Nat) (v x : Value) (l : List (List Bts)) : Prop :=
  ∃ vs : List Value, w.ownsRow base 45 1 v l.length vs ∧ (∀ (i : Nat) (r : List Bts), l[i]? = some r → ∃ u, vs[i]? = some u ∧ StrsOwn w base u r) ∧ ∀ u ∈ vs, u.ownBlock = none ∨ u.ownBlock ≠ x.ownBlock

theorem StrsOwn.append {w : World} {base : Nat} {v : Value} {l : List Bts} {s : ByteArray} (h : w.ownsRow base 9 1 v (l.length + 1) (l.map strV ++ [.string s])) : StrsOwn w base v (l ++ [s.data.toList]) := by
  unfold StrsOwn
  rw [List.length_append, List.map_append]
  simpa [strV_data] using h
theorem IntsOwn.append {w : World} {base : Nat} {v : Value} {l : List Nat} {n : Nat} (h : w.ownsRow base 3 1 v (l.length + 1) ((l.map fun n : Nat => Value.int .i64 (n : Int)) ++ [.int .i64 (n : Int)])) : IntsOwn w base v (l ++ [n]) := by
  unfold IntsOwn
  rw [List.length_append, List.map_append]
  simpa using h

theorem StrsOwn.grew {w w' : World} {base b : Nat} {u v v' : Value} {l : List Bts} (h : StrsOwn w base u l) (g : Grew w b v w' v') (hne : u.ownBlock = none ∨ u.ownBlock ≠ v.ownBlock) : StrsOwn w' base u l := g.keep h hne
theorem RowsOwn.alloc {w : World} {base : Nat} {v x : Value} {l : List (List Bts)} (h : RowsOwn w base v x l) (o : Obj) : RowsOwn (w.alloc o) base v x l := by
  obtain ⟨vs, h1, h2, h3⟩ := h
  exact ⟨vs, h1.alloc o, fun i r hr => let ⟨u, hu, hs⟩ := h2 i r hr; ⟨u, hu, World.ownsRow.alloc hs o⟩, h3⟩
/-- the row that is under way has grown -/
theorem RowsOwn.row_grew {w w' : World} {base : Nat} {v x x' : Value} {l : List (List Bts)} {r : List Bts} (h : RowsOwn w base v x l) (hx : StrsOwn w base x r) (g : Grew w base x w' x') : RowsOwn w' base v x' l := by
  obtain ⟨vs, h1, h2, h3⟩ := h
  refine ⟨vs, g.keep h1 (own_apart h1 hx (by decide)), fun i r hr => ?_, fun u hu => ?_⟩
  · obtain ⟨u, hu, hs⟩ := h2 i r hr
    exact ⟨u, hu, hs.grew g (h3 u (List.mem_of_getElem? hu))⟩
  · rcases g.at_ with e | ⟨k, e, hk⟩
    · rw [e]; exact h3 u hu
    · rw [e]
      obtain ⟨i, hi⟩ := List.mem_iff_getElem?.1 hu
      have hlen : vs.length = l.length := by simpa using h1.1
      have hil : i < l.length := by have := (List.getElem?_eq_some_iff.1 hi).1; omega
      obtain ⟨u', hu', hs⟩ := h2 i _ (List.getElem?_eq_getElem hil)
      rw [hi] at hu'
      obtain rfl : u = u' := by injection hu'
      exact own_new hs hk
/-- a row of another element type has grown -/
theorem RowsOwn.other_grew {w w' : World} {base b e size n : Nat} {v x y y' : Value} {l : List (List Bts)} {ys : List Value} (h : RowsOwn w base v x l) (hy : w.ownsRow b e size y n ys) (he : e ≠ 9) (he' : e ≠ 45) (g : Grew w base y w' y') : RowsOwn w' base v x l := by
  obtain ⟨vs, h1, h2, h3⟩ := h
  refine ⟨vs, g.keep h1 (own_apart h1 hy (Ne.symm he')), fun i r hr => ?_, h3⟩
  obtain ⟨u, hu, hs⟩ := h2 i r hr
  exact ⟨u, hu, hs.grew g (own_apart hs hy (Ne.symm he))⟩
/-- the row is laid behind the others, and a new one begun -/
theorem RowsOwn.push {w w' : World} {base : Nat} {v v' x : Value} {l : List (List Bts)} {r : List Bts} {vs : List Value} (h1 : w.ownsRow base 45 1 v l.length vs)
    (h2 : ∀ (i : Nat) (r : List Bts), l[i]? = some r → ∃ u, vs[i]? = some u ∧ StrsOwn w base u r) (hx : StrsOwn w base x r)
    (hown : w'.ownsRow base 45 1 v' (l.length + 1) (vs ++ [x])) (g : Grew w base v w' v') :
    RowsOwn (w'.alloc (.cells #[] 9)) base v' (.slice (some ⟨w'.heap.size, 0, none⟩) 0 0) (l ++ [r]) := by
  have hlen : vs.length = l.length := by simpa using h1.1
  have inner : ∀ (i : Nat) (q : List Bts), (l ++ [r])[i]? = some q → ∃ u, (vs ++ [x])[i]? = some u ∧ StrsOwn w' base u q := by
    intro i q hq
    by_cases hi : i < l.length
    · rw [List.getElem?_append_left hi] at hq
      obtain ⟨u, hu, hs⟩ := h2 i q hq
      exact ⟨u, by rw [List.getElem?_append_left (by omega)]; exact hu, hs.grew g (own_apart hs h1 (by decide))⟩
    · have hil : i = l.length := by
        have := (List.getElem?_eq_some_iff.1 hq).1
        simp at this
        omega
      subst hil
      rw [List.getElem?_append_right (by omega)] at hq
      simp at hq
      subst hq
      exact ⟨x, by rw [List.getElem?_append_right (by omega)]; simp [hlen], hx.grew g (own_apart hx h1 (by decide))⟩
  refine ⟨vs ++ [x], ?_, fun i q hq => ?_, fun u hu => ?_⟩
  · rw [List.length_append]; exact hown.alloc _
  · obtain ⟨u, hu, hs⟩ := inner i q hq
    exact ⟨u, hu, World.ownsRow.alloc hs _⟩
  · obtain ⟨i, hi⟩ := List.mem_iff_getElem?.1 hu
    have hil : i < (l ++ [r]).length := by have := (List.getElem?_eq_some_iff.1 hi).1; simp at this ⊢; omega
    obtain ⟨u', hu', hs⟩ := inner i _ (List.getElem?_eq_getElem hil)
    rw [hi] at hu'
    obtain rfl : u = u' := by injection hu'
    exact own_new hs (Nat.le_refl _)
/-- no row is laid, and a new one begun -/
theorem RowsOwn.begin_ {w : World} {base : Nat} {v x : Value} {l : List (List Bts)} (h : RowsOwn w base v x l) : RowsOwn (w.alloc (.cells #[] 9)) base v (.slice (some ⟨w.heap.size, 0, none⟩) 0 0) l := by
  obtain ⟨vs, h1, h2, h3⟩ := h
  have hlen : vs.length = l.length := by simpa using h1.1
  refine ⟨vs, h1.alloc _, fun i r hr => let ⟨u, hu, hs⟩ := h2 i r hr; ⟨u, hu, World.ownsRow.alloc hs _⟩, fun u hu => ?_⟩
  obtain ⟨i, hi⟩ := List.mem_iff_getElem?.1 hu
  have hil : i < l.length := by have := (List.getElem?_eq_some_iff.1 hi).1; omega
  obtain ⟨u', hu', hs⟩ := h2 i _ (List.getElem?_eq_getElem hil)
  rw [hi] at hu'
  obtain rfl : u = u' := by injection hu'
  exact own_new hs (Nat.le_refl _)
theorem StrsOwn.new {w : World} {base : Nat} (hb : base ≤ w.heap.size) : StrsOwn (w.alloc (.cells #[] 9)) base (.slice (some ⟨w.heap.size, 0, none⟩) 0 0) [] :=
  World.ownsRow_made w #[] 0 hb (by simp [maxLen]) (by simp)
theorem IntsOwn.grew {w w' : World} {base b : Nat} {u v v' : Value} {l : List Nat} (h : IntsOwn w base u l) (g : Grew w b v w' v') (hne : u.ownBlock = none ∨ u.ownBlock ≠ v.ownBlock) : IntsOwn w' base u l := g.keep h hne
theorem IntsOwn.alloc {w : World} {base : Nat} {v : Value} {l : List Nat} (h : IntsOwn w base v l) (o : Obj) : IntsOwn (w.alloc o) base v l := World.ownsRow.alloc h o
theorem StrsOwn.alloc {w : World} {base : Nat} {v : Value} {l : List Bts} (h : StrsOwn w base v l) (o : Obj) : StrsOwn (w.alloc o) base v l := World.ownsRow.alloc h o
/-- what a round of the reference's loop hands on -/
structure Ref30 (w0 w : World) (vn va vr : Value) (acc : List (Nat × List Bts)) (row : List Bts) : Prop where
  nums : IntsOwn w w0.heap.size vn (acc.map (·.1))
  rows : RowsOwn w w0.heap.size va vr (acc.map (·.2))
  row : StrsOwn w w0.heap.size vr row
  below : Below w0.heap.size w0 w
theorem Ref30.word {w0 w w' : World} {vn va vr vr' : Value} {acc : List (Nat × List Bts)} {row : List Bts} {s : ByteArray} (h : Ref30 w0 w vn va vr acc row)
    (hown : w'.ownsRow w0.heap.size 9 1 vr' (row.length + 1) (row.map strV ++ [.string s])) (g : Grew w w0.heap.size vr w' vr') : Ref30 w0 w' vn va vr' acc (row ++ [s.data.toList]) :=
  ⟨h.nums.grew g (own_apart h.nums h.row (by decide)), h.rows.row_grew h.row g, StrsOwn.append hown, h.below.trans g.below⟩
theorem Ref30.num {w0 w w' : World} {vn vn' va vr : Value} {acc : List (Nat × List Bts)} {row : List Bts} {n : Nat} (h : Ref30 w0 w vn va vr acc row)
    (hown : w'.ownsRow w0.heap.size 3 1 vn' ((acc.map (·.1)).length + 1) (((acc.map (·.1)).map fun n : Nat => Value.int .i64 (n : Int)) ++ [.int .i64 (n : Int)])) (g : Grew w w0.heap.size vn w' vn') :
    IntsOwn w' w0.heap.size vn' (acc.map (·.1) ++ [n]) ∧ RowsOwn w' w0.heap.size va vr (acc.map (·.2)) ∧ StrsOwn w' w0.heap.size vr row ∧ Below w0.heap.size w0 w' :=
  ⟨IntsOwn.append hown, h.rows.other_grew h.nums (by decide) (by decide) g, h.row.grew g (own_apart h.row h.nums (by decide)), h.below.trans g.below⟩
theorem Ref30.push {w0 w w' : World} {vn va va' vr : Value} {acc : List (Nat × List Bts)} {row : List Bts} {n : Nat} {vs : List Value}
    (hN : IntsOwn w w0.heap.size vn (acc.map (·.1) ++ [n])) (hR : StrsOwn w w0.heap.size vr row) (hB : Below w0.heap.size w0 w)
    (h1 : w.ownsRow w0.heap.size 45 1 va (acc.map (·.2)).length vs) (h2 : ∀ (i : Nat) (r : List Bts), (acc.map (·.2))[i]? = some r → ∃ u, vs[i]? = some u ∧ StrsOwn w w0.heap.size u r)
    (hown : w'.ownsRow w0.heap.size 45 1 va' ((acc.map (·.2)).length + 1) (vs ++ [vr])) (g : Grew w w0.heap.size va w' va') :
    Ref30 w0 (w'.alloc (.cells #[] 9)) vn va' (.slice (some ⟨w'.heap.size, 0, none⟩) 0 0) (acc ++ [(n, row)]) [] := by
  have hb := hB.trans g.below
  refine ⟨?_, ?_, StrsOwn.new hb.size, hb.alloc hb.size _⟩
  · rw [List.map_append]; exact (hN.grew g (own_apart hN h1 (by decide))).alloc _
  · rw [List.map_append]; exact RowsOwn.push h1 h2 hR hown g
theorem Ref30.skip {w0 w : World} {vn va vr : Value} {acc : List (Nat × List Bts)} {row : List Bts} (h : Ref30 w0 w vn va vr acc row) :
    Ref30 w0 (w.alloc (.cells #[] 9)) vn va (.slice (some ⟨w.heap.size, 0, none⟩) 0 0) acc [] :=
  ⟨h.nums.alloc _, h.rows.begin_, StrsOwn.new h.below.size, h.below.alloc h.below.size _⟩
theorem Ref30.start (w : World) : Ref30 w (((w.alloc (.cells #[] 3)).alloc (.cells #[] 45)).alloc (.cells #[] 9)) (.slice (some ⟨w.heap.size, 0, none⟩) 0 0) (.slice (some ⟨w.heap.size + 1, 0, none⟩) 0 0) (.slice (some ⟨w.heap.size + 1 + 1, 0, none⟩) 0 0) [] [] := by
  have h1 := (World.ownsRow_made (base := w.heap.size) (e := 3) (size := 1) w #[] 0 (Nat.le_refl _) (by simp [maxLen]) (by simp))
  have h2 := (World.ownsRow_made (base := w.heap.size) (e := 45) (size := 1) (w.alloc (.cells #[] 3)) #[] 0 (by simp) (by simp [maxLen]) (by simp))
  have h3 := (StrsOwn.new (w := (w.alloc (.cells #[] 3)).alloc (.cells #[] 45)) (base := w.heap.size) (by simp; omega))
  simp only [World.size_alloc] at h1 h2 h3
  exact ⟨(h1.alloc _).alloc _, ⟨[], h2.alloc _, fun i r hr => by simp at hr, fun u hu => by cases hu⟩, h3, (((Below.refl _ _).alloc (Nat.le_refl _) _).alloc (by simp) _).alloc (by simp; omega) _⟩

/-! lines: a number and a row of texts -/
def lineCells (L : List (Nat × List Bts)) (vs : List Value) : List Value := (List.zipWith (fun (p : Nat × List Bts) u => [Value.int .i64 (p.1 : Int), u]) L vs).flatten
theorem lineCells_append (L : List (Nat × List Bts)) (vs : List Value) (h : vs.length = L.length) (p : Nat × List Bts) (u : Value) : lineCells (L ++ [p]) (vs ++ [u]) = lineCells L vs ++ [.int .i64 (p.1 : Int), u] := by
  unfold lineCells
  rw [List.zipWith_append (by omega)]
  simp
def LinesOwn (w : World) (base : Nat) (v : Value) (L : List (Nat × List Bts)) : Prop :=
  ∃ vs : List Value, w.ownsRow base 47 2 v L.length (lineCells L vs) ∧ vs.length = L.length ∧ ∀ (i : Nat) (p : Nat × List Bts), L[i]? = some p → ∃ u, vs[i]? = some u ∧ StrsOwn w base u p.2
theorem own_base {w : World} {base base' e size n : Nat} {v : Value} {xs : List Value} (h : w.ownsRow base e size v n xs) (hb : base' ≤ base) : w.ownsRow base' e size v n xs := by
  refine ⟨h.1, ?_⟩
  rcases h.2 with h2 | ⟨g, cap, cur, hv, hg, r⟩
  · exact .inl h2
  · exact .inr ⟨g, cap, cur, hv, by omega, r⟩
theorem LinesOwn.base {w : World} {base base' : Nat} {v : Value} {L : List (Nat × List Bts)} (h : LinesOwn w base v L) (hb : base' ≤ base) : LinesOwn w base' v L := by
  obtain ⟨vs, h1, h2, h3⟩ := h
  exact ⟨vs, own_base h1 hb, h2, fun i p hp => let ⟨u, hu, hs⟩ := h3 i p hp; ⟨u, hu, own_base hs hb⟩⟩
theorem LinesOwn.nil (w : World) (base : Nat) : LinesOwn w base (.slice none 0 0) [] := ⟨[], World.ownsRow_nil _ _ _ _, rfl, fun i p hp => by simp at hp⟩
theorem LinesOwn.below {w w' : World} {base B : Nat} {v : Value} {L : List (Nat × List Bts)} (h : LinesOwn w base v L) (hb : Below B w w') (hB : w.heap.size ≤ B) : LinesOwn w' base v L := by
  obtain ⟨vs, h1, h2, h3⟩ := h
  exact ⟨vs, own_below h1 hb hB, h2, fun i p hp => let ⟨u, hu, hs⟩ := h3 i p hp; ⟨u, hu, own_below hs hb hB⟩⟩
theorem LinesOwn.push {w w' : World} {base : Nat} {v v' u : Value} {L : List (Nat × List Bts)} {vs : List Value} {n : Nat} {r : List Bts} (h1 : w.ownsRow base 47 2 v L.length (lineCells L vs)) (h2 : vs.length = L.length)
    (h3 : ∀ (i : Nat) (p : Nat × List Bts), L[i]? = some p → ∃ u, vs[i]? = some u ∧ StrsOwn w base u p.2) (hu : StrsOwn w base u r)
    (hown : w'.ownsRow base 47 2 v' (L.length + 1) (lineCells L vs ++ [.int .i64 (n : Int), u])) (g : Grew w base v w' v') : LinesOwn w' base v' (L ++ [(n, r)]) := by
  refine ⟨vs ++ [u], ?_, by simp [h2], fun i p hp => ?_⟩
  · rw [lineCells_append _ _ h2, List.length_append]; exact hown
  · by_cases hi : i < L.length
    · rw [List.getElem?_append_left hi] at hp
      obtain ⟨x, hx, hs⟩ := h3 i p hp
      exact ⟨x, by rw [List.getElem?_append_left (by omega)]; exact hx, hs.grew g (own_apart hs h1 (by decide))⟩
    · have hil : i = L.length := by
        have := (List.getElem?_eq_some_iff.1 hp).1
        simp at this; omega
      subst hil
      rw [List.getElem?_append_right (by omega)] at hp
      simp at hp
      subst hp
      exact ⟨u, by rw [List.getElem?_append_right (by omega)]; simp [h2], hu.grew g (own_apart hu h1 (by decide))⟩
theorem info_line : (Tryz.prog.info? 47).map (fun i => (i.zero, i.size, i.bytes)) = some (some (.agg #[.int .i64 0, .slice none 0 0]), 2, 32) := by kernel_rfl
theorem slty_lines : SlTy Tryz.prog 42 47 2 32 := slTy Tryz.underlying42 info_line rfl (by decide) (by decide)
end Go.Proofs.YtgpkekdbohdbfaaGreatDoor
