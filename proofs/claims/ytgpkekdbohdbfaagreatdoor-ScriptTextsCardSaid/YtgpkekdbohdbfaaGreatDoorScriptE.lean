/- script.One by its contract. -/
import Derived.Test.YtgpkekdbohdbfaaGreatDoorScriptD
import Derived.Test.YtgpkekdbohdbfaaGreatDoorKit2
import Derived.BigRegion
import Derived.ChangeAlike
namespace Go.Proofs.YtgpkekdbohdbfaaGreatDoor
open Go.RowKit AmS AmD

def nameBs : List ByteArray := names.map fun l => ⟨l.toArray⟩
/-- the place of a word among the kinds' words -/
theorem idx_kind (x : ByteArray) : (kindOf x.data.toList = 0 ∧ isKind (Lib.idxOfS nameBs x) = false) ∨ (1 ≤ kindOf x.data.toList ∧ Lib.idxOfS nameBs x = (kindOf x.data.toList : Int)) := by
  have H : ∀ l : List UInt8, ((⟨l.toArray⟩ : ByteArray) = x) = (l = x.data.toList) := by
    intro l
    apply propext
    constructor
    · intro e; rw [← e]
    · intro e
      apply ByteArray.ext
      apply Array.toList_inj.1
      exact e
  unfold Lib.idxOfS nameBs names
  simp only [List.map_cons, List.map_nil, Lib.idxFromS, H]
  unfold kindOf
  generalize x.data.toList = l
  by_cases h0 : [] = l
  · subst h0; left; simp [isKind]
  · by_cases h1 : l = [103, 101, 116]
    · subst h1; right; decide
    · by_cases h2 : l = [112, 117, 116]
      · subst h2; right; decide
      · by_cases h3 : l = [100, 101, 108]
        · subst h3; right; decide
        · by_cases h4 : l = [108, 101, 110]
          · subst h4; right; decide
          · by_cases h5 : l = [99, 108, 101, 97, 114]
            · subst h5; right; decide
            · by_cases h6 : l = [111, 112, 101, 110]
              · subst h6; right; decide
              · by_cases h7 : l = [110, 101, 120, 116]
                · subst h7; right; decide
                · by_cases h8 : l = [99, 108, 111, 115, 101]
                  · subst h8; right; decide
                  · left
                    simp only [h1, h2, h3, h4, h5, h6, h7, h8, if_false, h0, eq_comm (b := l)]
                    simp [isKind]

def nilOp : Value := .agg #[.int .i64 0, .int .u64 0, .int .u64 0, .int .u64 0, .int .i64 0]
/-- an operation, or an error beside nought -/
def OnePost (E : Nat → Addr) (w : World) (r : Except Nat SOp) (e : Ending) (w' : World) : Prop :=
  match r with
  | .ok o => e = .returned (.tuple #[opV o, .nilIface]) ∧ Below w.heap.size w w'
  | .error k => e = .returned (.tuple #[nilOp, .iface 145 (.pointer (some (E k)))]) ∧ Below w.heap.size w w'

set_option maxHeartbeats 1000000 in
set_option maxRecDepth 100000 in
theorem one_none {E : Nat → Addr} (A : Option Addr) (c : Nat) (w : World) (hE : ScrIn E w) : Calls Tryz.prog 13 #[.slice A 0 c] w (OnePost E w (.error 15)) := by
  have h15 : w.cell? _ = _ := hE.e15
  simp only [gE] at h15
  have h15' := fun o => (World.cell?_alloc_lt w o _ (World.block_lt_of_cell? w _ h15)).trans h15
  clear h15
  go_enter Tryz.func13, Tryz.ntmps13
  go_wp2
  go_region
  all_goals
    go_wp2
    refine bodyPost_ret (v := .tuple #[nilOp, .iface 145 (.pointer (some (E 15)))]) (by simp [results, Tryz.results13, go_sem, nilOp]) rfl ⟨rfl, ?_⟩
    repeat (first | exact Below.refl _ _ | refine Below.drew ?_ | refine Below.setCell ?_ (by simp) _ | refine Below.alloc ?_ (by simp) _)
/-- slices.Index of the kinds' words -/
theorem idx_call {E : Nat → Addr} (x : ByteArray) (W : World) (hE : ScrIn E W) : Calls Tryz.prog 26 #[.slice (some ⟨2, 0, none⟩) 9 9, .string x] W fun e w' => e = .returned (.int .i64 (Lib.idxOfS nameBs x)) ∧ w' = W := by
  have := Tryz.slices_Index_string 2 0 9 9 nameBs x W (by decide) (by decide) (fun j hj => by
    have hj9 : j < 9 := hj
    rw [Nat.zero_add, hE.names j hj9]
    exact match j, hj9 with
    | 0, _ => rfl | 1, _ => rfl | 2, _ => rfl | 3, _ => rfl | 4, _ => rfl | 5, _ => rfl | 6, _ => rfl | 7, _ => rfl | 8, _ => rfl
    | k + 9, h => absurd h (by omega))
  rw [show nameBs.take 9 = nameBs from rfl] at this
  exact this
/-- the row, opened: its first word -/
theorem one_cons {w : World} {A : Option Addr} {n : Nat} {l : List Bts} (hn : 0 < n) (h : Reads w w.heap.size 1 A n (l.map strV)) : ∃ b off x r, A = some ⟨b, off, none⟩ ∧ b < w.heap.size ∧ l = x :: r ∧ r.length + 1 = n ∧ w.cell? ⟨b, off, none⟩ = some (.string ⟨x.toArray⟩) ∧
    ∀ j y, r[j]? = some y → w.cell? ⟨b, off + 1 + j, none⟩ = some (.string ⟨y.toArray⟩) := by
  obtain ⟨b, off, rfl, hb, hc⟩ := h.cells_ hn
  have hl : l.length = n := by simpa using h.1
  obtain ⟨x, r, rfl⟩ : ∃ x r, l = x :: r := by
    cases l with
    | nil => simp at hl; omega
    | cons x r => exact ⟨x, r, rfl⟩
  refine ⟨b, off, x, r, rfl, hb, rfl, by simpa using hl, hc 0 _ rfl, fun j y hy => ?_⟩
  have := hc (j + 1) (strV y) (by simp [hy])
  rw [show off + (j + 1) = off + 1 + j by omega] at this
  exact this

set_option maxHeartbeats 1000000 in
set_option maxRecDepth 100000 in
theorem one_noname {E : Nat → Addr} (b off : Nat) (n c : Nat) (x : Bts) (w : World) (hn : 0 < n) (hb : b < w.heap.size) (hc0 : w.cell? ⟨b, off, none⟩ = some (.string ⟨x.toArray⟩)) (hk : kindOf x = 0) (hE : ScrIn E w) :
    Calls Tryz.prog 13 #[.slice (some ⟨b, off, none⟩) n c] w (OnePost E w (.error 15)) := by
  have b0 : ((n : Int) == 0) = false := by simp; omega
  have hn' : (0 : Int) < (n : Int) := by omega
  have hg : ¬ 4 = w.heap.size := by have h15 : w.cell? _ = _ := hE.e15; have := World.block_lt_of_cell? w _ h15; simp only [gE] at this; omega
  have hg' : ¬ w.heap.size = 4 := fun e => hg e.symm
  have hi : isKind (Lib.idxOfS nameBs ⟨x.toArray⟩) = false := by
    rcases idx_kind ⟨x.toArray⟩ with ⟨_, h2⟩ | ⟨h1, _⟩
    · exact h2
    · have : kindOf x = 0 := hk
      have e : (⟨x.toArray⟩ : ByteArray).data.toList = x := rfl
      rw [e] at h1; omega
  have HI := Lib.hid (fun W => by have := script_is (Lib.idxOfS nameBs ⟨x.toArray⟩) W; rw [hi] at this; exact this)
  clear hi hk
  go_enter Tryz.func13, Tryz.ntmps13
  go_wp2
  go_quiet ((go_at_call 26; exact Calls.quiet_of_same (idx_call _ _ ((hE.alloc _).drewN _))))
  go_wp2_with fail
  refine (HI.out _).mono ?_
  rintro e w1 ⟨rfl, hw⟩
  have hB1 : Blk w1 w.heap.size 34 #[.int .i64 0, .int .u64 0, .int .u64 0, .int .u64 0, .int .i64 0] := by rw [← hw]; exact (Blk.new w _ _).drewN _
  have hbel : Below w.heap.size w w1 := by rw [← hw]; exact below_drewN ((Below.refl _ _).alloc (Nat.le_refl _) _) _
  have hE1 : ScrIn E w1 := hE.below hbel (Nat.le_refl _)
  have hsz : w.heap.size < w1.heap.size := by rw [← hw]; simp
  have h15 : w1.cell? _ = _ := hE1.e15
  simp only [gE] at h15
  have a0 := hB1.cell 0
  have a1 := hB1.cell 1
  have a2 := hB1.cell 2
  have a3 := hB1.cell 3
  have a4 := hB1.cell 4
  have f0 := hB1.frozen 0
  have f1 := hB1.frozen 1
  have f2 := hB1.frozen 2
  have f3 := hB1.frozen 3
  have f4 := hB1.frozen 4
  simp only [List.getElem?_toArray, List.getElem?_cons_zero, List.getElem?_cons_succ] at a0 a1 a2 a3 a4
  have s0 : w1.setCell ⟨w.heap.size, 0, none⟩ (.int .i64 0) = w1 := hB1.setCell_id rfl
  have s1 : w1.setCell ⟨w.heap.size, 1, none⟩ (.int .u64 0) = w1 := hB1.setCell_id rfl
  have s2 : w1.setCell ⟨w.heap.size, 2, none⟩ (.int .u64 0) = w1 := hB1.setCell_id rfl
  have s3 : w1.setCell ⟨w.heap.size, 3, none⟩ (.int .u64 0) = w1 := hB1.setCell_id rfl
  have s4 : w1.setCell ⟨w.heap.size, 4, none⟩ (.int .i64 0) = w1 := hB1.setCell_id rfl
  clear hw hB1
  go_wp2
  go_region
  all_goals
    go_wp2
    refine bodyPost_ret (v := .tuple #[nilOp, .iface 145 (.pointer (some (E 15)))]) (by simp [results, Tryz.results13, go_sem, nilOp, a0, a1, a2, a3, a4]) rfl ⟨rfl, ?_⟩
    repeat (first | exact hbel | refine below_drewN ?_ _ | refine Below.drew ?_ | refine Below.setCell ?_ (Nat.le_refl _) _ | refine Below.alloc ?_ (by simp) _)
set_option maxHeartbeats 1000000 in
set_option maxRecDepth 100000 in
theorem one_many {E : Nat → Addr} (b off : Nat) (n c k : Nat) (x : Bts) (w : World) (hn : 0 < n) (hn2 : n ≤ 1000000) (hb : b < w.heap.size) (hc0 : w.cell? ⟨b, off, none⟩ = some (.string ⟨x.toArray⟩)) (hk : kindOf x = k) (hk1 : 1 ≤ k) (hne : n ≠ manyOf k + 1) (hE : ScrIn E w) :
    Calls Tryz.prog 13 #[.slice (some ⟨b, off, none⟩) n c] w (OnePost E w (.error 3)) := by
  have hk8 : k ≤ 8 := by rw [← hk]; exact kindOf_le x
  have b0 : ((n : Int) == 0) = false := by simp; omega
  have hn' : (0 : Int) < (n : Int) := by omega
  have hg : ¬ 3 = w.heap.size := by have h3 : w.cell? _ = _ := hE.e3; have := World.block_lt_of_cell? w _ h3; simp only [gE] at this; omega
  have hg' : ¬ w.heap.size = 3 := fun e => hg e.symm
  have hi : Lib.idxOfS nameBs ⟨x.toArray⟩ = (k : Int) := by
    rcases idx_kind ⟨x.toArray⟩ with ⟨h1, _⟩ | ⟨_, h2⟩
    · have : kindOf x = 0 := h1
      omega
    · rw [h2]
      show (kindOf x : Int) = _
      rw [hk]
  have HX := Lib.hid (fun (W : World) (hW : ScrIn E W) => by have := idx_call ⟨x.toArray⟩ W hW; rw [hi] at this; exact this)
  have HI := Lib.hid (fun W => by have := script_is (k : Int) W; rw [show isKind (k : Int) = true by unfold isKind; simp; omega] at this; exact this)
  have HM := Lib.hid (fun W => script_many k hk1 hk8 W)
  have b1 : ((n : Int) != (manyOf k : Int) + 1) = true := by simp; omega
  have hmk : manyOf k ≤ 3 := by unfold manyOf; split <;> (try split) <;> (try split) <;> omega
  clear hi hk
  go_enter Tryz.func13, Tryz.ntmps13
  go_wp2
  go_quiet ((go_at_call 26; exact Calls.quiet_of_same (HX.out _ ((hE.alloc _).drewN _))))
  go_wp2_with fail
  refine (HI.out _).mono ?_
  rintro e w1 ⟨rfl, hw⟩
  have hB1 : Blk w1 w.heap.size 34 #[.int .i64 0, .int .u64 0, .int .u64 0, .int .u64 0, .int .i64 0] := by rw [← hw]; exact (Blk.new w _ _).drewN _
  have hbel : Below w.heap.size w w1 := by rw [← hw]; exact below_drewN ((Below.refl _ _).alloc (Nat.le_refl _) _) _
  have hE1 : ScrIn E w1 := hE.below hbel (Nat.le_refl _)
  have hsz : w.heap.size < w1.heap.size := by rw [← hw]; simp
  have h3 : w1.cell? _ = _ := hE1.e3
  simp only [gE] at h3
  have a0 := hB1.cell 0
  have a1 := hB1.cell 1
  have a2 := hB1.cell 2
  have a3 := hB1.cell 3
  have a4 := hB1.cell 4
  have f0 := hB1.frozen 0
  have f1 := hB1.frozen 1
  have f2 := hB1.frozen 2
  have f3 := hB1.frozen 3
  have f4 := hB1.frozen 4
  simp only [List.getElem?_toArray, List.getElem?_cons_zero, List.getElem?_cons_succ] at a0 a1 a2 a3 a4
  have s0 : w1.setCell ⟨w.heap.size, 0, none⟩ (.int .i64 0) = w1 := hB1.setCell_id rfl
  have s1 : w1.setCell ⟨w.heap.size, 1, none⟩ (.int .u64 0) = w1 := hB1.setCell_id rfl
  have s2 : w1.setCell ⟨w.heap.size, 2, none⟩ (.int .u64 0) = w1 := hB1.setCell_id rfl
  have s3 : w1.setCell ⟨w.heap.size, 3, none⟩ (.int .u64 0) = w1 := hB1.setCell_id rfl
  have s4 : w1.setCell ⟨w.heap.size, 4, none⟩ (.int .i64 0) = w1 := hB1.setCell_id rfl
  clear hw hB1
  go_wp2_with fail
  refine (HM.out _).mono ?_
  rintro e w2 ⟨rfl, rfl⟩
  go_wp2
  go_region
  all_goals
    go_wp2
    refine bodyPost_ret (v := .tuple #[nilOp, .iface 145 (.pointer (some (E 3)))]) (by simp [results, Tryz.results13, go_sem, nilOp, a0, a1, a2, a3, a4]) rfl ⟨rfl, ?_⟩
    repeat (first | exact hbel | refine below_drewN ?_ _ | refine Below.drew ?_ | refine Below.setCell ?_ (Nat.le_refl _) _ | refine Below.alloc ?_ (by simp) _)
theorem size_str (w : World) : (sizeOf 9).run Tryz.prog w = .ok 1 w := by kernel_rfl
theorem info_u64 : (Tryz.prog.info? 32).map (fun i => (i.zero, i.size, i.bytes)) = some (some (.int .u64 0), 1, 8) := by kernel_rfl
theorem slty_u64 : SlTy Tryz.prog 70 32 1 8 := slTy Tryz.underlying70 info_u64 rfl (by decide) (by decide)
def u64s (ns : List Nat) : List Value := ns.map fun n : Nat => Value.int .u64 (n : Int)
/-- where the loop of script.One stands -/
structure OneAt (W : World) (k : Nat) (r : List Bts) (R : Except Nat (List Nat)) (j : Nat) (ns : List Nat) (v : Value) (wr : World) : Prop where
  own : wr.ownsRow W.heap.size 32 1 v ns.length (u64s ns)
  rest : numsE k ns (r.drop j) = R
  len : ns.length = j
  below : Below W.heap.size W wr
theorem OneAt.append {W w w' : World} {k : Nat} {r : List Bts} {R : Except Nat (List Nat)} {j : Nat} {ns : List Nat} {v v' : Value} {n : Nat} (hb : Below W.heap.size W w) (hl : ns.length = j) (hrest : numsE k (ns ++ [n]) (r.drop (j + 1)) = R)
    (hown : w'.ownsRow W.heap.size 32 1 v' (ns.length + 1) (u64s ns ++ [.int .u64 (n : Int)])) (g : Grew w W.heap.size v w' v') : OneAt W k r R (j + 1) (ns ++ [n]) v' w' :=
  ⟨by rw [List.length_append]; simpa [u64s] using hown, hrest, by simp [hl], hb.trans g.below⟩
theorem drop_bts {r : List Bts} {j : Nat} {y : Bts} (h : r[j]? = some y) : r.drop j = y :: r.drop (j + 1) := by
  obtain ⟨h1, h2⟩ := List.getElem?_eq_some_iff.1 h
  rw [List.drop_eq_getElem_cons h1, h2]

/-- what stands at the end of the loop: the rest of script.One, as a contract of its own would say it -/
def OneEnd (E : Nat → Addr) (w : World) (k : Nat) (r : List Bts) : Ending → World → Prop := OnePost E w (match numsE k [] r with | .error e => .error e | .ok ns => .ok (opOf k ns))
theorem oneEnd_err {E : Nat → Addr} {w w' : World} {k : Nat} {r : List Bts} {e : Nat} (h : numsE k [] r = .error e) (hb : Below w.heap.size w w') : OneEnd E w k r (.returned (.tuple #[nilOp, .iface 145 (.pointer (some (E e)))])) w' := by
  unfold OneEnd; rw [h]; exact ⟨rfl, hb⟩
theorem oneEnd_ok {E : Nat → Addr} {w w' : World} {k : Nat} {r : List Bts} {ns : List Nat} (h : numsE k [] r = .ok ns) {v : Value} (hv : v = opV (opOf k ns)) (hb : Below w.heap.size w w') : OneEnd E w k r (.returned (.tuple #[v, .nilIface])) w' := by
  unfold OneEnd; rw [h, hv]; exact ⟨rfl, hb⟩

set_option maxHeartbeats 2000000 in
set_option maxRecDepth 100000 in
theorem one_fit {E : Nat → Addr} (b off : Nat) (n c k : Nat) (x : Bts) (r : List Bts) (w : World) (hcap : n ≤ c) (hb : b < w.heap.size) (hc0 : w.cell? ⟨b, off, none⟩ = some (.string ⟨x.toArray⟩)) (hk : kindOf x = k) (hk1 : 1 ≤ k) (hne : n = manyOf k + 1)
    (hr : r.length + 1 = n) (hc : ∀ j y, r[j]? = some y → w.cell? ⟨b, off + 1 + j, none⟩ = some (.string ⟨y.toArray⟩)) (hsize : ∀ y ∈ r, y.length ≤ 70000) (hE : ScrIn E w) :
    Calls Tryz.prog 13 #[.slice (some ⟨b, off, none⟩) n c] w (OneEnd E w k r) := by
  have hk8 : k ≤ 8 := by rw [← hk]; exact kindOf_le x
  have hmk : manyOf k ≤ 3 := by unfold manyOf; split <;> (try split) <;> (try split) <;> omega
  have b0 : ((n : Int) == 0) = false := by simp; omega
  have hn' : (0 : Int) < (n : Int) := by omega
  have hi : Lib.idxOfS nameBs ⟨x.toArray⟩ = (k : Int) := by
    rcases idx_kind ⟨x.toArray⟩ with ⟨h1, _⟩ | ⟨_, h2⟩
    · have : kindOf x = 0 := h1
      omega
    · rw [h2]
      show (kindOf x : Int) = _
      rw [hk]
  have HX := Lib.hid (fun (W : World) (hW : ScrIn E W) => by have := idx_call ⟨x.toArray⟩ W hW; rw [hi] at this; exact this)
  have HI := Lib.hid (fun W => by have := script_is (k : Int) W; rw [show isKind (k : Int) = true by unfold isKind; simp; omega] at this; exact this)
  have HM := Lib.hid (fun W => script_many k hk1 hk8 W)
  have b1 : ((n : Int) != (manyOf k : Int) + 1) = false := by simp; omega
  have hn4 : n ≤ 4 := by omega
  obtain ⟨A1, hsl, hA1⟩ := slice_from' (P := Tryz.prog) (t := 45) (e := 9) (size := 1) Tryz.underlying45 size_str b off n c 1 (by omega) hcap
  have hsl1 : ∀ W, (Instr.slice 45 (.slice (some ⟨b, off, none⟩) n c) (some (.int .i64 1)) none none).run Tryz.prog W = .ok (.slice A1 (n - 1) (c - 1)) W := hsl
  have HA1 := Lib.hid hA1
  have HN := Lib.hid hne
  have HR := Lib.hid hr
  obtain ⟨R, hR⟩ : ∃ R, numsE k [] r = R := ⟨_, rfl⟩
  have HRR := Lib.hid hR
  clear hi hk hne hsl hA1 hr hR
  go_enter Tryz.func13, Tryz.ntmps13
  go_wp2
  go_quiet ((go_at_call 26; exact Calls.quiet_of_same (HX.out _ ((hE.alloc _).drewN _))))
  go_wp2_with fail
  refine (HI.out _).mono ?_
  rintro e w1 ⟨rfl, hw⟩
  have hB1 : Blk w1 w.heap.size 34 #[.int .i64 0, .int .u64 0, .int .u64 0, .int .u64 0, .int .i64 0] := by rw [← hw]; exact (Blk.new w _ _).drewN _
  have hbel : Below w.heap.size w w1 := by rw [← hw]; exact below_drewN ((Below.refl _ _).alloc (Nat.le_refl _) _) _
  have hE1 : ScrIn E w1 := hE.below hbel (Nat.le_refl _)
  have hsz : w.heap.size < w1.heap.size := by rw [← hw]; simp
  clear hw
  go_wp2_with fail
  refine (HM.out _).mono ?_
  rintro e w2 ⟨rfl, rfl⟩
  go_wp2
  go_loopw [3, 5, 7, 8, 9, 37] (fun v3 v _ _ _ i wr => ∃ (j : Nat) (ns : List Nat), j ≤ n - 1 ∧ i = .int .i64 j ∧ v3 = .nilIface ∧ OneAt w1 k r R j ns v wr) (fun _ _ _ _ _ i _ => n - 1 - (intOf i).toNat)
  case atStart => exact ⟨0, [], by omega, rfl, rfl, World.ownsRow_nil _ _ _ _, HRR.out, rfl, Below.refl _ _⟩
  case round =>
    obtain ⟨j, ns, hj, rfl, rfl, hat⟩ := hrel
    by_cases hlt : j < n - 1
    · have hrn := HR.out
      have hy : r[j]? = some (r[j]'(by omega)) := List.getElem?_eq_getElem _
      have hys := hsize _ (List.mem_of_getElem? hy)
      generalize r[j]'(by omega) = y at hy hys
      have hcy := hc j y hy
      have hA := HA1.out (by omega)
      subst hA
      have hBw := hbel.trans (hat.below.mono (by omega))
      have hcy1 : wr.cell? ⟨b, off + 1 + j, none⟩ = some (.string ⟨y.toArray⟩) := (hBw.cell (p := ⟨b, off + 1 + j, none⟩) hb).trans hcy
      have hEr := hE.below hBw (Nat.le_refl _)
      have hrest := hat.rest
      rw [drop_bts hy, numsE] at hrest
      have HNum := script_number k hk1 hk8 ⟨y.toArray⟩ wr (by show y.toArray.size ≤ _; rw [List.size_toArray]; exact hys) hEr
      rw [show (⟨y.toArray⟩ : ByteArray).data.toList = y from rfl] at HNum
      have hown := hat.own
      have hab := hat.below
      have hal := hat.len
      have hlt' : (j : Int) < ((n - 1 : Nat) : Int) := by omega
      clear hat hcy hy hrn
      cases hne : numE k y with
      | error er =>
        rw [hne] at hrest HNum
        have HE := Lib.hid (show numsE k [] r = .error er from HRR.out.trans hrest.symm)
        have HNum' := Lib.hid (show Calls Tryz.prog 28 #[.int .i64 k, .string ⟨y.toArray⟩] wr fun e w' => e = .returned (.tuple #[.int .u64 0, .iface 145 (.pointer (some (E er)))]) ∧ Below wr.heap.size wr w' from HNum)
        clear hrest HNum hne hal hown
        go_wp2_with fail
        refine HNum'.out.mono ?_
        rintro e w3 ⟨rfl, hb3⟩
        have hB3 := (hB1.below hab hsz).below hb3 (Nat.lt_of_lt_of_le hsz hab.size)
        have hbw3 := hBw.trans (hb3.mono hBw.size)
        have f0 := hB3.frozen 0
        have f1 := hB3.frozen 1
        have f2 := hB3.frozen 2
        have f3 := hB3.frozen 3
        have f4 := hB3.frozen 4
        have a0 := hB3.cell 0
        have a1 := hB3.cell 1
        have a2 := hB3.cell 2
        have a3 := hB3.cell 3
        have a4 := hB3.cell 4
        simp only [List.getElem?_toArray, List.getElem?_cons_zero, List.getElem?_cons_succ] at a0 a1 a2 a3 a4
        have s0 : w3.setCell ⟨w.heap.size, 0, none⟩ (.int .i64 0) = w3 := hB3.setCell_id rfl
        have s1 : w3.setCell ⟨w.heap.size, 1, none⟩ (.int .u64 0) = w3 := hB3.setCell_id rfl
        have s2 : w3.setCell ⟨w.heap.size, 2, none⟩ (.int .u64 0) = w3 := hB3.setCell_id rfl
        have s3 : w3.setCell ⟨w.heap.size, 3, none⟩ (.int .u64 0) = w3 := hB3.setCell_id rfl
        have s4 : w3.setCell ⟨w.heap.size, 4, none⟩ (.int .i64 0) = w3 := hB3.setCell_id rfl
        clear hab hB3
        go_wp2
        refine bodyPost_ret (v := .tuple #[nilOp, .iface 145 (.pointer (some (E er)))]) (by simp [results, Tryz.results13, go_sem, nilOp, a0, a1, a2, a3, a4]) rfl (oneEnd_err HE.out hbw3)
      | ok m =>
        rw [hne] at hrest HNum
        have HRest := Lib.hid hrest
        have HNum' := Lib.hid (show Calls Tryz.prog 28 #[.int .i64 k, .string ⟨y.toArray⟩] wr fun e w' => e = .returned (.tuple #[.int .u64 m, .nilIface]) ∧ Below wr.heap.size wr w' from HNum)
        have HAL := Lib.hid hal
        have hal' : ns.length ≤ j := by omega
        clear hrest HNum hne hal
        go_wp2_with (first
          | (go_at_call 28; refine HNum'.out.mono ?_; rintro e w3 ⟨rfl, hb3⟩; have hown3 := own_below hown hb3 (Nat.le_refl _); have hab3 := hab.trans (hb3.mono hab.size))
          | (at_builtin; refine wpList_append1 rfl rfl slty_u64 hown3 rfl rfl (by simp) rfl rfl (by omega) hab3.size ?_; intro v4 w4 hown4 hg4))
        go_roundw
        case rel => exact ⟨_, _, _, _, _, _, ⟨j + 1, by omega, by go_num, rfl, ns ++ [m], OneAt.append hab3 HAL.out HRest.out hown4 hg4⟩, rfl, rfl, rfl, rfl, rfl, rfl⟩
        case measure => simp [intOf]; omega
    · have hrest := hat.rest
      rw [List.drop_eq_nil_of_le (by have := HR.out; omega), numsE] at hrest
      have HE := Lib.hid (show numsE k [] r = .ok ns from HRR.out.trans hrest.symm)
      have hlen : ns.length = manyOf k := by have := hat.len; have := HN.out; omega
      have hown := hat.own
      have hBw := hbel.trans (hat.below.mono (by omega))
      have hBr := hB1.below hat.below hsz
      have hszr : w.heap.size < wr.heap.size := Nat.lt_of_lt_of_le hsz hat.below.size
      have hlt' : ¬ (j : Int) < ((n - 1 : Nat) : Int) := by omega
      clear hrest hat HRR hB1 hbel hE1 hcap hc0 hc hsize hE HX HI HM hsl1 HA1 HN HR b0 b1
      have H : k = 2 ∨ (k = 1 ∨ k = 3) ∨ (k = 7 ∨ k = 8) ∨ (k = 4 ∨ k = 5 ∨ k = 6) := by omega
      rcases H with H | H | H | H
      · have h3 : manyOf k = 3 := by rw [H]; rfl
        have HK := Lib.hid (fun W => by have := script_keyed (k : Int) W; rw [show keyedP (k : Int) = true by rw [H]; rfl] at this; exact this)
        have HI := Lib.hid (fun W => by have := script_iterated (k : Int) W; rw [show iterK (k : Int) = false by rw [H]; rfl] at this; exact this)
        have b2 : ((k : Int) == 2) = true := by rw [H]; rfl
        rw [h3] at hlen
        obtain ⟨n0, n1, n2, rfl⟩ : ∃ a b c, ns = [a, b, c] := by
          match ns, hlen with
          | [a, b, c], _ => exact ⟨a, b, c, rfl⟩
        obtain ⟨g, cap, rfl, hg, hgl⟩ := hown.form (by simp)
        have hcs := hown.cells (g := g) rfl
        have q0 : wr.cell? ⟨g, 0, none⟩ = some (.int .u64 n0) := hcs 0 _ rfl
        have q1 : wr.cell? ⟨g, 1, none⟩ = some (.int .u64 n1) := hcs 1 _ rfl
        have q2 : wr.cell? ⟨g, 2, none⟩ = some (.int .u64 n2) := hcs 2 _ rfl
        have HH := Lib.hid H
        clear hcs hown H h3 hlen hmk
        go_wp2_with fail
        refine (HK.out _).mono ?_
        rintro e w4 ⟨rfl, hw⟩
        have hB4 : Blk w4 wr.heap.size 34 #[.int .i64 k, .int .u64 0, .int .u64 0, .int .u64 0, .int .i64 0] := by rw [← hw]; exact Blk.new wr _ _
        have hb4 : Below wr.heap.size wr w4 := by rw [← hw]; exact (Below.refl _ _).alloc (Nat.le_refl _) _
        have r0 : w4.cell? ⟨g, 0, none⟩ = _ := (hb4.cell (p := ⟨g, 0, none⟩) hgl).trans q0
        have r1 : w4.cell? ⟨g, 1, none⟩ = _ := (hb4.cell (p := ⟨g, 1, none⟩) hgl).trans q1
        have r2 : w4.cell? ⟨g, 2, none⟩ = _ := (hb4.cell (p := ⟨g, 2, none⟩) hgl).trans q2
        have hBr4 := hBr.below hb4 hszr
        have hBw4 := hBw.trans (hb4.mono hBw.size)
        have c0 := hB4.cell 0
        have c1 := hB4.cell 1
        have c2 := hB4.cell 2
        have c3 := hB4.cell 3
        have c4 := hB4.cell 4
        have f0 := hB4.frozen 0
        have f1 := hB4.frozen 1
        have f2 := hB4.frozen 2
        have f3 := hB4.frozen 3
        have f4 := hB4.frozen 4
        simp only [List.getElem?_toArray, List.getElem?_cons_zero, List.getElem?_cons_succ] at c0 c1 c2 c3 c4
        have e0 := hBr4.frozen 0
        have e1 := hBr4.frozen 1
        have e2 := hBr4.frozen 2
        have e3 := hBr4.frozen 3
        have e4 := hBr4.frozen 4
        have a0 := hBr4.cell 0
        have a1 := hBr4.cell 1
        have a2 := hBr4.cell 2
        have a3 := hBr4.cell 3
        have a4 := hBr4.cell 4
        simp only [List.getElem?_toArray, List.getElem?_cons_zero, List.getElem?_cons_succ] at a0 a1 a2 a3 a4
        have hgne : ¬ g = wr.heap.size := by omega
        have hgne' : ¬ wr.heap.size = g := by omega
        have hwne : ¬ w.heap.size = wr.heap.size := by omega
        have hwne' : ¬ wr.heap.size = w.heap.size := by omega
        clear hw hB4 hBr4 q0 q1 q2
        go_wp2
        go_region
        go_wp2
        refine bodyPost_ret (v := .tuple #[.agg #[.int .i64 k, .int .u64 n0, .int .u64 n1, .int .u64 n2, .int .i64 0], .nilIface]) (by simp [results, Tryz.results13, go_sem, a0, a1, a2, a3, a4]) rfl (oneEnd_ok HE.out (by have := HH.out; subst this; rfl) ?_)
        repeat (with_reducible first | exact hBw4 | refine Below.drew ?_ | refine Below.setCell ?_ ?_ _)
        all_goals (dsimp only; omega)
      · have h3 : manyOf k = 2 := by rcases H with rfl | rfl <;> rfl
        have HK := Lib.hid (fun W => by have := script_keyed (k : Int) W; rw [show keyedP (k : Int) = true by rcases H with rfl | rfl <;> rfl] at this; exact this)
        have HI := Lib.hid (fun W => by have := script_iterated (k : Int) W; rw [show iterK (k : Int) = false by rcases H with rfl | rfl <;> rfl] at this; exact this)
        have b2 : ((k : Int) == 2) = false := by rcases H with rfl | rfl <;> rfl
        rw [h3] at hlen
        obtain ⟨n0, n1, rfl⟩ : ∃ a b, ns = [a, b] := by
          match ns, hlen with
          | [a, b], _ => exact ⟨a, b, rfl⟩
        obtain ⟨g, cap, rfl, hg, hgl⟩ := hown.form (by simp)
        have hcs := hown.cells (g := g) rfl
        have q0 : wr.cell? ⟨g, 0, none⟩ = some (.int .u64 n0) := hcs 0 _ rfl
        have q1 : wr.cell? ⟨g, 1, none⟩ = some (.int .u64 n1) := hcs 1 _ rfl
        have HH := Lib.hid H
        clear hcs hown H h3 hlen hmk
        go_wp2_with fail
        refine (HK.out _).mono ?_
        rintro e w4 ⟨rfl, hw⟩
        have hB4 : Blk w4 wr.heap.size 34 #[.int .i64 k, .int .u64 0, .int .u64 0, .int .u64 0, .int .i64 0] := by rw [← hw]; exact Blk.new wr _ _
        have hb4 : Below wr.heap.size wr w4 := by rw [← hw]; exact (Below.refl _ _).alloc (Nat.le_refl _) _
        have r0 : w4.cell? ⟨g, 0, none⟩ = _ := (hb4.cell (p := ⟨g, 0, none⟩) hgl).trans q0
        have r1 : w4.cell? ⟨g, 1, none⟩ = _ := (hb4.cell (p := ⟨g, 1, none⟩) hgl).trans q1
        have hBr4 := hBr.below hb4 hszr
        have hBw4 := hBw.trans (hb4.mono hBw.size)
        have c0 := hB4.cell 0
        have c1 := hB4.cell 1
        have c2 := hB4.cell 2
        have c3 := hB4.cell 3
        have c4 := hB4.cell 4
        have f0 := hB4.frozen 0
        have f1 := hB4.frozen 1
        have f2 := hB4.frozen 2
        have f3 := hB4.frozen 3
        have f4 := hB4.frozen 4
        simp only [List.getElem?_toArray, List.getElem?_cons_zero, List.getElem?_cons_succ] at c0 c1 c2 c3 c4
        have e0 := hBr4.frozen 0
        have e1 := hBr4.frozen 1
        have e2 := hBr4.frozen 2
        have e3 := hBr4.frozen 3
        have e4 := hBr4.frozen 4
        have a0 := hBr4.cell 0
        have a1 := hBr4.cell 1
        have a2 := hBr4.cell 2
        have a3 := hBr4.cell 3
        have a4 := hBr4.cell 4
        simp only [List.getElem?_toArray, List.getElem?_cons_zero, List.getElem?_cons_succ] at a0 a1 a2 a3 a4
        have hgne : ¬ g = wr.heap.size := by omega
        have hgne' : ¬ wr.heap.size = g := by omega
        have hwne : ¬ w.heap.size = wr.heap.size := by omega
        have hwne' : ¬ wr.heap.size = w.heap.size := by omega
        clear hw hB4 hBr4 q0 q1
        go_wp2
        go_region
        go_wp2
        refine bodyPost_ret (v := .tuple #[.agg #[.int .i64 k, .int .u64 n0, .int .u64 0, .int .u64 n1, .int .i64 0], .nilIface]) (by simp [results, Tryz.results13, go_sem, a0, a1, a2, a3, a4]) rfl (oneEnd_ok HE.out (by have H := HH.out; rcases H with rfl | rfl <;> rfl) ?_)
        repeat (with_reducible first | exact hBw4 | refine Below.drew ?_ | refine Below.setCell ?_ ?_ _)
        all_goals (dsimp only; omega)
      · have h3 : manyOf k = 1 := by rcases H with rfl | rfl <;> rfl
        have HK := Lib.hid (fun W => by have := script_keyed (k : Int) W; rw [show keyedP (k : Int) = false by rcases H with rfl | rfl <;> rfl] at this; exact this)
        have HI := Lib.hid (fun W => by have := script_iterated (k : Int) W; rw [show iterK (k : Int) = true by rcases H with rfl | rfl <;> rfl] at this; exact this)
        have b2 : ((k : Int) == 2) = false := by rcases H with rfl | rfl <;> rfl
        rw [h3] at hlen
        obtain ⟨n0, rfl⟩ : ∃ a, ns = [a] := by
          match ns, hlen with
          | [a], _ => exact ⟨a, rfl⟩
        have hn06 : n0 ≤ 1000000 := by
          rcases (numsE_ok r [] [n0] HE.out).2 n0 (by simp) with h | h
          · cases h
          · exact h.2 (by omega)
        obtain ⟨g, cap, rfl, hg, hgl⟩ := hown.form (by simp)
        have hcs := hown.cells (g := g) rfl
        have q0 : wr.cell? ⟨g, 0, none⟩ = some (.int .u64 n0) := hcs 0 _ rfl
        have HH := Lib.hid H
        clear hcs hown H h3 hlen hmk
        go_wp2_with fail
        refine (HK.out _).mono ?_
        rintro e w4 ⟨rfl, hw⟩
        have hB4 : Blk w4 wr.heap.size 34 #[.int .i64 k, .int .u64 0, .int .u64 0, .int .u64 0, .int .i64 0] := by rw [← hw]; exact Blk.new wr _ _
        have hb4 : Below wr.heap.size wr w4 := by rw [← hw]; exact (Below.refl _ _).alloc (Nat.le_refl _) _
        have r0 : w4.cell? ⟨g, 0, none⟩ = _ := (hb4.cell (p := ⟨g, 0, none⟩) hgl).trans q0
        have hBr4 := hBr.below hb4 hszr
        have hBw4 := hBw.trans (hb4.mono hBw.size)
        have c0 := hB4.cell 0
        have c1 := hB4.cell 1
        have c2 := hB4.cell 2
        have c3 := hB4.cell 3
        have c4 := hB4.cell 4
        have f0 := hB4.frozen 0
        have f1 := hB4.frozen 1
        have f2 := hB4.frozen 2
        have f3 := hB4.frozen 3
        have f4 := hB4.frozen 4
        simp only [List.getElem?_toArray, List.getElem?_cons_zero, List.getElem?_cons_succ] at c0 c1 c2 c3 c4
        have e0 := hBr4.frozen 0
        have e1 := hBr4.frozen 1
        have e2 := hBr4.frozen 2
        have e3 := hBr4.frozen 3
        have e4 := hBr4.frozen 4
        have a0 := hBr4.cell 0
        have a1 := hBr4.cell 1
        have a2 := hBr4.cell 2
        have a3 := hBr4.cell 3
        have a4 := hBr4.cell 4
        simp only [List.getElem?_toArray, List.getElem?_cons_zero, List.getElem?_cons_succ] at a0 a1 a2 a3 a4
        have hgne : ¬ g = wr.heap.size := by omega
        have hgne' : ¬ wr.heap.size = g := by omega
        have hwne : ¬ w.heap.size = wr.heap.size := by omega
        have hwne' : ¬ wr.heap.size = w.heap.size := by omega
        clear hw hB4 hBr4 q0
        go_wp2_with fail
        refine (HI.out _).mono ?_
        rintro e w5 ⟨rfl, rfl⟩
        go_wp2
        refine bodyPost_ret (v := .tuple #[.agg #[.int .i64 k, .int .u64 0, .int .u64 0, .int .u64 0, .int .i64 n0], .nilIface]) (by simp [results, Tryz.results13, go_sem, a0, a1, a2, a3, a4]) rfl (oneEnd_ok HE.out (by have H := HH.out; rcases H with rfl | rfl <;> rfl) ?_)
        repeat (with_reducible first | exact hBw4 | refine Below.drew ?_ | refine Below.setCell ?_ ?_ _)
        all_goals (dsimp only; omega)
      · have h3 : manyOf k = 0 := by rcases H with rfl | rfl | rfl <;> rfl
        have HK := Lib.hid (fun W => by have := script_keyed (k : Int) W; rw [show keyedP (k : Int) = false by rcases H with rfl | rfl | rfl <;> rfl] at this; exact this)
        have HI := Lib.hid (fun W => by have := script_iterated (k : Int) W; rw [show iterK (k : Int) = false by rcases H with rfl | rfl | rfl <;> rfl] at this; exact this)
        have b2 : ((k : Int) == 2) = false := by rcases H with rfl | rfl | rfl <;> rfl
        rw [h3] at hlen
        obtain rfl : ns = [] := List.length_eq_zero_iff.1 hlen
        have HH := Lib.hid H
        clear hown H h3 hlen hmk
        go_wp2_with fail
        refine (HK.out _).mono ?_
        rintro e w4 ⟨rfl, hw⟩
        have hB4 : Blk w4 wr.heap.size 34 #[.int .i64 k, .int .u64 0, .int .u64 0, .int .u64 0, .int .i64 0] := by rw [← hw]; exact Blk.new wr _ _
        have hb4 : Below wr.heap.size wr w4 := by rw [← hw]; exact (Below.refl _ _).alloc (Nat.le_refl _) _
        have hBr4 := hBr.below hb4 hszr
        have hBw4 := hBw.trans (hb4.mono hBw.size)
        have c0 := hB4.cell 0
        have c1 := hB4.cell 1
        have c2 := hB4.cell 2
        have c3 := hB4.cell 3
        have c4 := hB4.cell 4
        have f0 := hB4.frozen 0
        have f1 := hB4.frozen 1
        have f2 := hB4.frozen 2
        have f3 := hB4.frozen 3
        have f4 := hB4.frozen 4
        simp only [List.getElem?_toArray, List.getElem?_cons_zero, List.getElem?_cons_succ] at c0 c1 c2 c3 c4
        have e0 := hBr4.frozen 0
        have e1 := hBr4.frozen 1
        have e2 := hBr4.frozen 2
        have e3 := hBr4.frozen 3
        have e4 := hBr4.frozen 4
        have a0 := hBr4.cell 0
        have a1 := hBr4.cell 1
        have a2 := hBr4.cell 2
        have a3 := hBr4.cell 3
        have a4 := hBr4.cell 4
        simp only [List.getElem?_toArray, List.getElem?_cons_zero, List.getElem?_cons_succ] at a0 a1 a2 a3 a4
        have hwne : ¬ w.heap.size = wr.heap.size := by omega
        have hwne' : ¬ wr.heap.size = w.heap.size := by omega
        clear hw hB4 hBr4
        go_wp2_with fail
        refine (HI.out _).mono ?_
        rintro e w5 ⟨rfl, rfl⟩
        go_wp2
        refine bodyPost_ret (v := .tuple #[.agg #[.int .i64 k, .int .u64 0, .int .u64 0, .int .u64 0, .int .i64 0], .nilIface]) (by simp [results, Tryz.results13, go_sem, a0, a1, a2, a3, a4]) rfl (oneEnd_ok HE.out (by have H := HH.out; rcases H with rfl | rfl | rfl <;> rfl) ?_)
        repeat (with_reducible first | exact hBw4 | refine Below.drew ?_ | refine Below.setCell ?_ ?_ _)
        all_goals (dsimp only; omega)
end Go.Proofs.YtgpkekdbohdbfaaGreatDoor
