/- The reference's words and its search for another hash, two lists of entries, and the chapter's example: by their contracts. -/
import Derived.Test.YtgpkekdbohdbfaaGreatDoorScriptF
namespace Go.Proofs.YtgpkekdbohdbfaaGreatDoor
open Go.RowKit AmS

theorem ref_Words (w : World) : Calls Tryz.prog 29 #[] w fun e w' => e = .returned (.slice (some ⟨w.heap.size, 0, none⟩) 9 9) ∧ w.alloc (.cells (names.map strV).toArray 9) = w' := by
  go_enter Tryz.func29, Tryz.ntmps29
  go_wp2
  go_ret
  exact ⟨rfl, rfl⟩

/-- what amblerref31.Other answers -/
def OtherPost (w : World) (r : Option Nat) (e : Ending) (w' : World) : Prop :=
  (match r with
   | some i => e = .returned (.int .i64 (i : Int))
   | none => e = .returned (.int .i64 (-1))) ∧ Below w.heap.size w w'
theorem other_hit {w w' : World} {r : Option Nat} {i : Nat} (h : r = some i) (hb : Below w.heap.size w w') : OtherPost w r (.returned (.int .i64 (i : Int))) w' := by
  subst h; exact ⟨rfl, hb⟩
theorem other_end {w w' : World} {r : Option Nat} (h : r = none) (hb : Below w.heap.size w w') : OtherPost w r (.returned (.int .i64 (-1))) w' := by
  subst h; exact ⟨rfl, hb⟩
/-- none of the first so many clashes -/
structure Clear (l : List SOp) (o : SOp) (j : Nat) : Prop where
  none : (l.take j).any (clash o) = false
theorem keyedR_eq (k : Int) : keyedP k = (decide (0 < k) && decide (k < 4)) := (keyed_eq k).symm

set_option maxHeartbeats 4000000 in
set_option maxRecDepth 100000 in
theorem ref_Other (A : Option Addr) (n c : Nat) (l : List SOp) (w : World) (h : Reads w w.heap.size 5 A n (opsCells l)) (hn : n ≤ 65536) (hcap : n ≤ c) :
    Calls Tryz.prog 16 #[.slice A n c] w (OtherPost w (other l)) := by
  have hl : l.length = n := by have := h.1; rw [opsCells_length] at this; omega
  generalize hR : other l = R
  have HR := Lib.hid (show otherGo (l.take 0) (l.drop 0) = R from by simpa [other] using hR)
  clear hR
  go_enter Tryz.func16, Tryz.ntmps16
  go_wp2
  go_loopw [2, 3, 4, 6, 9] (fun _ _ _ _ i wr => ∃ k : Nat, k ≤ n ∧ i = .int .i64 k ∧ otherGo (l.take k) (l.drop k) = R ∧ Below w.heap.size w wr) (fun _ _ _ _ i _ => n - (intOf i).toNat)
  case atStart => exact ⟨0, by omega, rfl, HR.out, Below.refl _ _⟩
  case round =>
    obtain ⟨k, hk, rfl, hrest, hB⟩ := hrel
    obtain ⟨wo, rfl⟩ : ∃ wo : World, wo = wr := ⟨_, rfl⟩
    by_cases hlt : k < n
    · have ho : l[k]? = some (l[k]'(by omega)) := List.getElem?_eq_getElem _
      generalize l[k]'(by omega) = o at ho
      obtain ⟨b, off, rfl, hb, c0, c1, c2, c3, c4⟩ := op_cells (h.below hB) ho
      rw [drop_op ho, otherGo] at hrest
      have htk := take_snoc_op ho
      have hlen : (l.take k).length = k := by rw [List.length_take]; omega
      rw [hlen, ← htk] at hrest
      have HRest := Lib.hid hrest
      have hlt' : (k : Int) < (n : Int) := by omega
      have hsl : ∀ W, (Instr.slice 28 (.slice (some ⟨b, off, none⟩) n c) none (some (.int .i64 (k : Int))) none).run Tryz.prog W = .ok (.slice (some ⟨b, off, none⟩) k c) W := slice_to (size := 5) Tryz.underlying28 (fun _ => by kernel_rfl) _ n c k (by omega)
      have hzr : wo.heap.size < (wo.alloc (.cells #[.int .i64 o.kind, .int .u64 o.key, .int .u64 o.val, .int .u64 o.hash, .int .i64 o.iter] 35)).heap.size := by simp
      have hO := Blk.new wo 35 #[.int .i64 o.kind, .int .u64 o.key, .int .u64 o.val, .int .u64 o.hash, .int .i64 o.iter]
      have hBo := hB.alloc hB.size (.cells #[.int .i64 o.kind, .int .u64 o.key, .int .u64 o.val, .int .u64 o.hash, .int .i64 o.iter] 35)
      clear hrest htk hlen ho
      go_wp2
      obtain ⟨W, hW⟩ : ∃ W, W = wo.alloc (.cells #[.int .i64 o.kind, .int .u64 o.key, .int .u64 o.val, .int .u64 o.hash, .int .i64 o.iter] 35) := ⟨_, rfl⟩
      rw [← hW] at hO hBo hzr ⊢
      clear hW c0 c1 c2 c3 c4
      go_loopw [2, 6, 18] (fun _ _ i wr => ∃ j : Nat, j ≤ k ∧ i = .int .i64 j ∧ Clear l o j ∧ Below W.heap.size W wr) (fun _ _ i _ => k - (intOf i).toNat)
      case atStart => exact ⟨0, by omega, rfl, ⟨rfl⟩, Below.refl _ _⟩
      case round =>
        obtain ⟨j, hj, rfl, ⟨hany⟩, hBi⟩ := hrel
        by_cases hjt : j < k
        · have hx : l[j]? = some (l[j]'(by omega)) := List.getElem?_eq_getElem _
          generalize l[j]'(by omega) = x at hx
          have hBw := hBo.trans (hBi.mono hBo.size)
          obtain ⟨b', off', e', hb', d0, d1, d2, d3, d4⟩ := op_cells (h.below hBw) hx
          obtain ⟨rfl, rfl⟩ : b' = b ∧ off' = off := by injection e' with e'; injection e' with e1 e2; exact ⟨e1.symm, e2.symm⟩
          have hOi := hO.below hBi hzr
          have a0 : ∀ p, (wr.alloc p).cell? ⟨wo.heap.size, 0, none⟩ = some (.int .i64 o.kind) := fun p => (hOi.alloc p).cell 0
          have a1 : ∀ p, (wr.alloc p).cell? ⟨wo.heap.size, 1, none⟩ = some (.int .u64 o.key) := fun p => (hOi.alloc p).cell 1
          have a3 : ∀ p, (wr.alloc p).cell? ⟨wo.heap.size, 3, none⟩ = some (.int .u64 o.hash) := fun p => (hOi.alloc p).cell 3
          have hts : (l.take (j + 1)).any (clash o) = clash o x := by rw [take_snoc_op hx, List.any_append, hany]; simp
          have hmem : x ∈ l.take k := by
            have : (l.take k)[j]? = some x := by rw [List.getElem?_take]; rw [if_pos hjt]; exact hx
            exact List.mem_of_getElem? this
          have hjt' : (j : Int) < (k : Int) := by omega
          have Hts := Lib.hid hts
          clear hany e' hx hts hO hOi
          have hBx := hBi.alloc hBi.size (.cells #[.int .i64 x.kind, .int .u64 x.key, .int .u64 x.val, .int .u64 x.hash, .int .i64 x.iter] 35)
          have hBwx := hBw.alloc hBw.size (.cells #[.int .i64 x.kind, .int .u64 x.key, .int .u64 x.val, .int .u64 x.hash, .int .i64 x.iter] 35)
          by_cases hcl : clash o x = true
          · have HE := Lib.hid (show R = some k from by
              have := HRest.out
              rw [if_pos (List.any_eq_true.2 ⟨x, hmem, hcl⟩)] at this
              exact this.symm)
            simp only [clash, keyedR_eq, Bool.and_eq_true, decide_eq_true_eq] at hcl
            obtain ⟨⟨⟨⟨o1, o2⟩, x1, x2⟩, hkey⟩, hhash⟩ := hcl
            clear HRest hBi hBw
            go_wp2
            go_ret
            exact other_hit HE.out hBwx
          · have Hcl := Lib.hid hcl
            have HF : Clear l o (j + 1) := ⟨by rw [Hts.out]; simpa using hcl⟩
            clear hcl hBi hBw HRest
            go_wp2
            all_goals first
              | exact ⟨⟨j + 1, by omega, by go_num, HF, hBx⟩, by simp [intOf]; omega⟩
              | (exfalso
                 have := Hcl.out
                 simp_all [clash, keyedR_eq]; done)
              | (have hky : o.key = x.key := by assumption
                 rw [hky]
                 go_roundw
                 case rel => exact ⟨j + 1, by omega, by go_num, HF, hBx⟩
                 case measure => simp [intOf]; omega)

        · obtain rfl : j = k := by omega
          have HE := Lib.hid (show otherGo (l.take (j + 1)) (l.drop (j + 1)) = R from by
            have := HRest.out
            rw [hany] at this
            simpa using this)
          have hBw := hBo.trans (hBi.mono hBo.size)
          clear HRest hO hBo hBi hany
          go_wp2
          go_roundw
          case rel => exact ⟨j + 1, by omega, by go_num, HE.out, hBw⟩
          case measure => simp [intOf]; omega
    · obtain rfl : k = n := by omega
      rw [List.drop_eq_nil_of_le (by omega), otherGo] at hrest
      have HRest := Lib.hid hrest
      clear hrest
      go_wp2
      go_ret
      exact other_end HRest.out.symm hB
end Go.Proofs.YtgpkekdbohdbfaaGreatDoor
