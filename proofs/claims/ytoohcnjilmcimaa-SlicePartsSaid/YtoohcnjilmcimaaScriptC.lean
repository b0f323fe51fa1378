/- script.Hashes by its contract. -/
import Derived.Test.YtoohcnjilmcimaaScriptB
namespace Go.Proofs.Ytoohcnjilmcimaa
open Go.RowKit AmS Go.Maps

/-- an entry's cells -/
def entCells3 (k v h : Int) : List Value := [.int .u64 k, .int .u64 v, .int .u64 h]
/-- the entries of operations: key, 0, hash -/
def hashCells (l : List SOp) : List Value := l.flatMap fun o => entCells3 o.key 0 o.hash
theorem hashCells_length (l : List SOp) : (hashCells l).length = l.length * 3 := by
  induction l with
  | nil => rfl
  | cons o t ih =>
    have : (hashCells (o :: t)).length = 3 + (hashCells t).length := by simp [hashCells, entCells3]; omega
    rw [this, ih, List.length_cons]; omega
theorem info_Ent : (Try.prog.info? 50).map (fun i => (i.zero, i.size, i.bytes)) = some (some (.agg #[.int .u64 0, .int .u64 0, .int .u64 0]), 3, 24) := by kernel_rfl
theorem slty_Ent : SlTy Try.prog 47 50 3 24 := slTy Try.underlying47 info_Ent rfl (by decide) (by decide)
/-- how many there are of a key, as the program counts them -/
def cntF (l : List SOp) (y : Int) : Option Int := if cnt l y = 0 then none else some (cnt l y : Int)
theorem cntF_get (l : List SOp) (y : Int) : (cntF l y).getD 0 = (cnt l y : Int) := by
  unfold cntF
  split
  · next h => rw [h]; rfl
  · rfl
theorem cntF_snoc {l : List SOp} {o : SOp} (h : keyedP o.kind = true) : cntF (l ++ [o]) = fun y => if y = o.key then some ((cnt l o.key : Int) + 1) else cntF l y := by
  funext y
  unfold cntF
  rw [cnt_snoc, h]
  by_cases hy : y = o.key
  · subst hy; simp
  · have : (o.key == y) = false := by simp; exact fun e => hy e.symm
    simp [this, hy]
theorem cntF_same {l : List SOp} {o : SOp} (h : keyedP o.kind = false) : cntF (l ++ [o]) = cntF l := by
  funext y
  unfold cntF
  rw [cnt_snoc, h]
  simp

/-- where the loop of script.Hashes stands -/
structure HashAt (w : World) (l : List SOp) (k : Nat) (v : Value) (wr : World) : Prop where
  out : wr.ownsRow (w.heap.size + 1) 50 3 v (firsts (l.take k)).length (hashCells (firsts (l.take k)))
  map : MapFn wr Try.prog 27 3 .u64 .i64 w.heap.size k (cntF (l.take k))
  below : Below w.heap.size w wr
  size : w.heap.size + 1 ≤ wr.heap.size
/-- what script.Hashes answers -/
def HashPost (w : World) (l : List SOp) (e : Ending) (w' : World) : Prop :=
  ∃ v, e = .returned v ∧ w'.ownsRow w.heap.size 50 3 v (firsts l).length (hashCells (firsts l)) ∧ Below w.heap.size w w'
theorem own_lower {w : World} {base base' e size n : Nat} {v : Value} {xs : List Value} (h : w.ownsRow base e size v n xs) (hb : base' ≤ base) : w.ownsRow base' e size v n xs := by
  refine ⟨h.1, ?_⟩
  rcases h.2 with h2 | ⟨g, cap, cur, hv, hg, r⟩
  · exact .inl h2
  · exact .inr ⟨g, cap, cur, hv, by omega, r⟩
/-- a map's block is no row -/
theorem own_map {w w1 : World} {base e size n b : Nat} {v : Value} {xs : List Value} (h : w.ownsRow base e size v n xs) (hg : w.grownBy w1 (some b)) (hb : b < base) : w1.ownsRow base e size v n xs := by
  refine h.kept hg ?_
  cases hv : v.ownBlock with
  | none => exact .inl rfl
  | some k =>
    have hk := h.lt k hv
    right
    intro e
    injection e with e
    rcases h.2 with ⟨rfl, _⟩ | ⟨g, cap, cur, rfl, hg2, _⟩
    · simp [Value.ownBlock] at hv
    · have : g = k := by simpa [Value.ownBlock] using hv
      omega

set_option maxHeartbeats 2000000 in
set_option maxRecDepth 100000 in
theorem script_Hashes (A : Option Addr) (n c : Nat) (l : List SOp) (w : World) (h : Reads w w.heap.size 5 A n (opsCells l)) (hn : n ≤ 65536) (hwf : ∀ o ∈ l, opWf o) :
    Calls Try.prog 24 #[.slice A n c] w (HashPost w l) := by
  have hl : l.length = n := by have := h.1; rw [opsCells_length] at this; omega
  have hmm := @run_makeMap Try.prog
  go_enter Try.func24, Try.ntmps24
  go_wp2
  go_loopw [4, 6, 10] (fun v _ i wr => ∃ k : Nat, k ≤ n ∧ i = .int .i64 k ∧ HashAt w l k v wr) (fun _ _ i _ => n - (intOf i).toNat)
  case atStart => exact ⟨0, by omega, rfl, World.ownsRow_nil _ _ _ _, MapFn.made _ _ _ _ _ _, (Below.refl _ _).alloc (Nat.le_refl _) _, by simp⟩
  case round =>
    obtain ⟨k, hk, rfl, hc⟩ := hrel
    by_cases hlt : k < n
    · have ho : l[k]? = some (l[k]'(by omega)) := List.getElem?_eq_getElem _
      have hw0 := hwf _ (List.getElem_mem (show k < l.length by omega))
      generalize l[k]'(by omega) = o at ho hw0
      obtain ⟨b, off, rfl, hb, c0, c1, c2, c3, c4⟩ := op_cells (h.below hc.below) ho
      have htk := take_snoc_op ho
      have hfs := firsts_snoc (l.take k) o
      have hca := cnt_any (l.take k) o
      have hlen : (l.take k).length = k := by rw [List.length_take]; omega
      have hfl : (firsts (l.take k)).length ≤ k := by have := firsts_length (l.take k); omega
      have hcl : cnt (l.take k) o.key ≤ k := by have := cnt_le (l.take k) o.key; omega
      rw [← htk] at hfs
      obtain ⟨_, _, y2, y3, _, _, y6, y7, _, _⟩ := hw0
      have hwk := Lib.hid (wf_u64 y2 y3)
      have hmap := hc.map
      have hbel := hc.below
      have hout := hc.out
      have hsz := hc.size
      clear hc ho hlen
      have hlt' : (k : Int) < (n : Int) := by omega
      cases hK : keyedP o.kind with
      | false =>
        rw [hK, Bool.false_and, if_neg (by simp), List.append_nil] at hfs
        have hcs : cntF (l.take (k + 1)) = cntF (l.take k) := by rw [htk]; exact cntF_same hK
        have HFS := Lib.hid hfs
        have HCS := Lib.hid hcs
        have HK := Lib.hid (show ∀ W, Calls Try.prog 35 #[.int .i64 o.kind] W fun e w' => e = .returned (.bool false) ∧ W = w' from fun W => by have := script_keyed o.kind W; rw [hK] at this; exact this)
        clear hfs hcs hca htk hK
        go_wp2_with (go_at_call 35; refine (HK.out _).mono ?_; rintro e w1 ⟨rfl, rfl⟩)
        go_roundw
        case rel => exact ⟨k + 1, by omega, by go_num, by rw [HFS.out]; exact hout.alloc _, by rw [HCS.out]; obtain ⟨D, d1, d2⟩ := hmap.alloc _; exact ⟨D, d1.mono (by omega), d2⟩, hbel.alloc hbel.size _, by simp; omega⟩
        case measure => first | (simp [intOf]; done) | (simp [intOf]; omega)
      | true =>
        rw [hK, Bool.true_and] at hfs
        have hcs : cntF (l.take (k + 1)) = fun y => if y = o.key then some ((cnt (l.take k) o.key : Int) + 1) else cntF (l.take k) y := by rw [htk]; exact cntF_snoc hK
        have hcg := cntF_get (l.take k) o.key
        have HCS := Lib.hid hcs
        have HCG := Lib.hid hcg
        have HK := Lib.hid (show ∀ W, Calls Try.prog 35 #[.int .i64 o.kind] W fun e w' => e = .returned (.bool true) ∧ W = w' from fun W => by have := script_keyed o.kind W; rw [hK] at this; exact this)
        clear hcs hcg htk hK
        by_cases hz : cnt (l.take k) o.key = 0
        · rw [hca.1 hz] at hfs
          simp only [Bool.not_false, if_true] at hfs
          have HFS := Lib.hid hfs
          have HZ := Lib.hid hz
          clear hfs hca hz
          go_wp2_with (first
            | (go_at_call 35; refine (HK.out _).mono ?_; rintro e w1 ⟨rfl, rfl⟩)
            | (at_lookup; first
                | (refine wpList_look rfl _ _ rfl Try.underlying27 Try.underlying56 Try.underlying3 (zero_i64 _) rfl hm2 o.key rfl hwk.out ?_; simp only [if_true, Option.getD_some])
                | (refine wpList_look rfl _ _ rfl Try.underlying27 Try.underlying56 Try.underlying3 (zero_i64 _) rfl (hmap.alloc _) o.key rfl hwk.out ?_; rw [HCG.out, HZ.out]))
            | (at_mapUpdate; refine wpList_store_fn rfl _ _ _ rfl Try.underlying27 Try.underlying56 Try.underlying3 rfl (hmap.alloc _) (by unfold maxLen; omega) o.key 1 rfl rfl hwk.out (by decide) ?_; intro w2 hm2 hg2; have hout2 := own_map (hout.alloc _) hg2 (by omega); have hbel2 := (hbel.alloc hbel.size _).grown hg2 (by have := hbel.size; simp; omega) (fun j hj => by cases hj; exact Nat.le_refl _); have hop := (Blk.new wr 29 #[.int .i64 o.kind, .int .u64 o.key, .int .u64 o.val, .int .u64 o.hash, .int .i64 o.iter]).grown hg2 (by intro e; injection e with e; omega); have q1 : w2.cell? ⟨wr.heap.size, 1, none⟩ = some (.int .u64 o.key) := hop.cell 1; have q3 : w2.cell? ⟨wr.heap.size, 3, none⟩ = some (.int .u64 o.hash) := hop.cell 3; have hsz2 : w.heap.size + 1 ≤ w2.heap.size := by have := hg2.size; simp at this; omega)
            | (at_builtin; refine wpList_append1 rfl rfl slty_Ent hout2 rfl rfl (by simp) rfl rfl (by omega) hsz2 ?_; intro v3 w3 hown3 hg3))
          go_roundw
          case rel => exact ⟨k + 1, by omega, by go_num, by rw [HFS.out, List.length_append]; simpa [hashCells, entCells3] using hown3, by rw [HCS.out, HZ.out]; exact (hm2.below hg3.below (by omega)).congr fun y => rfl, hbel2.trans (hg3.below.mono (by omega)), by have := hg3.size; omega⟩
          case measure => first | (simp [intOf]; done) | (simp [intOf]; omega)
        · have hany : (l.take k).any (sameKeyed o) = true := by
            cases ha : (l.take k).any (sameKeyed o) with
            | true => rfl
            | false => exact absurd (hca.2 ha) hz
          rw [hany] at hfs
          simp only [Bool.not_true, Bool.false_eq_true, if_false, List.append_nil] at hfs
          have HFS := Lib.hid hfs
          obtain ⟨m, hm⟩ : ∃ m : Nat, cnt (l.take k) o.key = m := ⟨_, rfl⟩
          rw [hm] at hcl hz HCG HCS
          have hne : (((m : Int) + 1) == 1) = false := by simp; omega
          clear hfs hca hany hm
          go_wp2_with (first
            | (go_at_call 35; refine (HK.out _).mono ?_; rintro e w1 ⟨rfl, rfl⟩)
            | (at_lookup; first
                | (refine wpList_look rfl _ _ rfl Try.underlying27 Try.underlying56 Try.underlying3 (zero_i64 _) rfl hm2 o.key rfl hwk.out ?_; simp only [if_true, Option.getD_some])
                | (refine wpList_look rfl _ _ rfl Try.underlying27 Try.underlying56 Try.underlying3 (zero_i64 _) rfl (hmap.alloc _) o.key rfl hwk.out ?_; rw [HCG.out]))
            | (at_mapUpdate; refine wpList_store_fn rfl _ _ _ rfl Try.underlying27 Try.underlying56 Try.underlying3 rfl (hmap.alloc _) (by unfold maxLen; omega) o.key ((m : Int) + 1) rfl rfl hwk.out (wf_i64 (by omega) (by omega)) ?_; intro w2 hm2 hg2; have hout2 := own_map (hout.alloc _) hg2 (by omega); have hbel2 := (hbel.alloc hbel.size _).grown hg2 (by have := hbel.size; simp; omega) (fun j hj => by cases hj; exact Nat.le_refl _); have hop := (Blk.new wr 29 #[.int .i64 o.kind, .int .u64 o.key, .int .u64 o.val, .int .u64 o.hash, .int .i64 o.iter]).grown hg2 (by intro e; injection e with e; omega); have q1 : w2.cell? ⟨wr.heap.size, 1, none⟩ = some (.int .u64 o.key) := hop.cell 1; have q3 : w2.cell? ⟨wr.heap.size, 3, none⟩ = some (.int .u64 o.hash) := hop.cell 3; have hsz2 : w.heap.size + 1 ≤ w2.heap.size := by have := hg2.size; simp at this; omega))
          go_roundw
          case rel => exact ⟨k + 1, by omega, by go_num, by rw [HFS.out]; exact hout2, by rw [HCS.out]; exact hm2, hbel2, hsz2⟩
          case measure => first | (simp [intOf]; done) | (simp [intOf]; omega)
    · obtain rfl : k = n := by omega
      have hout := own_lower hc.out (base' := w.heap.size) (by omega)
      rw [List.take_of_length_le (by omega)] at hout
      have hbel := hc.below
      clear hc
      go_wp2
      go_ret
      exact ⟨_, rfl, hout, hbel⟩
end Go.Proofs.Ytoohcnjilmcimaa
