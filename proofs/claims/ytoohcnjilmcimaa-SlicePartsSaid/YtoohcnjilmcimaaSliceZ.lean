/- An append onto a row of the call's own, whose source reads as a list, nil and empty let in. No statement of the claim. -/
import Derived.Test.YtoohcnjilmcimaaKit2
import Derived.Maps.AppendAt
import Derived.Deep.AppendLies
import Derived.RegionTactic
import Derived.OwnWalk
import Derived.Test.YtoohcnjilmcimaaProg
import Derived.Test.YtoohcnjilmcimaaKit
import Derived.Tactics
import Derived.Tactics2
import Derived.WalkKit
import Derived.WalkSpells
import Derived.WalkLawsBesides
import Derived.KernelRfl
import Derived.Outline
import Derived.Test.YtoohcnjilmcimaaSliceQ
import Derived.BigQuiet
import Derived.BigRegion
import Derived.Deep.RegionHeld3
import Derived.Deep.RegionLaw
namespace Go.Proofs.Ytoohcnjilmcimaa
open Go.RowKit

section
variable {P : Program} (w : World)

theorem run_append_of_nil (base : Nat) (t ty e : TypeId) (i : TypeInfo) (size : Nat) (ht : P.underlying t = some (.slice e)) (hi : P.info? e = some i)
    (v : Value) (n : Nat) (xs : List Value) (hown : w.ownsRow base e size v n xs) (c : Nat) : (Builtin.append_ #[t, t] ty #[v, .slice none 0 c]).run P w = .ok v w := by
  rcases hown.2 with ⟨rfl, rfl⟩ | ⟨g, cap, cur, rfl, _, _, hnc, _⟩
  · simp [Builtin.append_, run_underlying ht, sizeOf, typeInfo, hi, Builtin.lenOf, Builtin.firstCells]
  · simp [Builtin.append_, run_underlying ht, sizeOf, typeInfo, hi, Builtin.lenOf, Builtin.firstCells, hnc, storeCells]

theorem run_append_any (base : Nat) (t ty e : TypeId) (i : TypeInfo) (z : Value) (size bytes : Nat) (ht : P.underlying t = some (.slice e)) (hi : P.info? e = some i) (hz : i.zero = some z)
    (hsize : i.size = size) (hby : i.bytes = bytes) (hzs : z.cells.size = size) (hsz : 0 < size)
    (v : Value) (n : Nat) (xs : List Value) (hown : w.ownsRow base e size v n xs)
    (B : Nat) (A : Option Addr) (m c : Nat) (news : List Value) (hr : Reads w B size A m news) (h1 : ∀ u ∈ news, u.oneCell' = true)
    (h63 : n + m ≤ maxLen) (hbytes : (n + m) * bytes ≤ 140737488355328) (hbase : base ≤ w.heap.size) :
    ∃ v' w', (Builtin.append_ #[t, t] ty #[v, .slice A m c]).run P w = .ok v' w' ∧ w'.ownsRow base e size v' (n + m) (xs ++ news) ∧ w.grownBy w' v.ownBlock ∧
      (v'.ownBlock = v.ownBlock ∨ v'.ownBlock = some w.heap.size) := by
  rcases A with _ | ad
  · have hm : m = 0 := by
      rcases Nat.eq_zero_or_pos m with h0 | h0
      · exact h0
      · obtain ⟨b, off, h, _⟩ := hr.2 h0
        cases h
    subst hm
    have hn : news = [] := List.eq_nil_of_length_eq_zero (by simpa using hr.1)
    subst hn
    exact ⟨v, w, run_append_of_nil w base t ty e i size ht hi v n xs hown c, by simpa using hown, World.grownBy.refl w _, .inl rfl⟩
  · have hcells : ∀ j u, news[j]? = some u → w.cell? (ad.add j) = some u := by
      intro j u hu
      rcases Nat.eq_zero_or_pos m with h0 | h0
      · subst h0
        have hn : news = [] := List.eq_nil_of_length_eq_zero (by simpa using hr.1)
        subst hn
        simp at hu
      · obtain ⟨b, off, h, _, hc⟩ := hr.2 h0
        injection h with h
        subst h
        rw [show (⟨b, off, none⟩ : Addr).add j = ⟨b, off + j, none⟩ from by unfold Addr.add; split <;> simp_all]
        exact hc j u hu
    obtain ⟨v', w', hrun, h2, h3, _, h5⟩ := run_append_own_at (P := P) w base t ty e i z size bytes ht hi hz hsize hby hzs hsz v n xs hown ad m c news hr.1 hcells h1 h63 hbytes hbase
    exact ⟨v', w', hrun, h2, h3, h5⟩

theorem wp_append_any {o : Oper} {a : Act} {K : Act → World → Prop} {Q : Exit → Act → World → Prop} (s x : Operand) (t : TypeId)
    (ho : o.op = .call { callee := .builtin .append, args := #[s, x], argTypes := #[t, t] })
    (base : Nat) (e : TypeId) (i : TypeInfo) (z : Value) (size bytes : Nat) (ht : P.underlying t = some (.slice e)) (hi : P.info? e = some i) (hz : i.zero = some z)
    (hsize : i.size = size) (hby : i.bytes = bytes) (hzs : z.cells.size = size) (hsz : 0 < size)
    (v : Value) (n : Nat) (xs : List Value) (hs : a.eval s = v) (hown : w.ownsRow base e size v n xs)
    (B : Nat) (A : Option Addr) (m c : Nat) (news : List Value) (hx : a.eval x = .slice A m c) (hr : Reads w B size A m news) (h1 : ∀ u ∈ news, u.oneCell' = true)
    (h63 : n + m ≤ maxLen) (hbytes : (n + m) * bytes ≤ 140737488355328) (hbase : base ≤ w.heap.size)
    (h : ∀ v' w', w'.ownsRow base e size v' (n + m) (xs ++ news) → w.grownBy w' v.ownBlock → (v'.ownBlock = v.ownBlock ∨ v'.ownBlock = some w.heap.size) → K (a.put o.dst v') w') : o.wp P a w K Q := by
  obtain ⟨v', w', hrun, h2, h3, h4⟩ := run_append_any (P := P) w base t o.type e i z size bytes ht hi hz hsize hby hzs hsz v n xs hown B A m c news hr h1 h63 hbytes hbase
  unfold Oper.wp execOp
  simp only [ho, resolve, invoke, builtin, Sem.run_bind, Sem.run_pure, Result.andThen_ok, List.map_toArray, List.map_cons, List.map_nil, hs, hx, hrun]
  exact h v' w' h2 h3 h4

theorem wpList_append_any {ops : Array Oper} {rest : List Oper} {o : Oper} {a : Act} {Q : Exit → Act → World → Prop} (hgd : o.guard = none) (s x : Operand) (t : TypeId)
    (ho : o.op = .call { callee := .builtin .append, args := #[s, x], argTypes := #[t, t] })
    (base : Nat) (e : TypeId) (i : TypeInfo) (z : Value) (size bytes : Nat) (ht : P.underlying t = some (.slice e)) (hi : P.info? e = some i) (hz : i.zero = some z)
    (hsize : i.size = size) (hby : i.bytes = bytes) (hzs : z.cells.size = size) (hsz : 0 < size)
    (v : Value) (n : Nat) (xs : List Value) (hs : a.eval s = v) (hown : w.ownsRow base e size v n xs)
    (B : Nat) (A : Option Addr) (m c : Nat) (news : List Value) (hx : a.eval x = .slice A m c) (hr : Reads w B size A m news) (h1 : ∀ u ∈ news, u.oneCell' = true)
    (h63 : n + m ≤ maxLen) (hbytes : (n + m) * bytes ≤ 140737488355328) (hbase : base ≤ w.heap.size)
    (h : ∀ v' w', w'.ownsRow base e size v' (n + m) (xs ++ news) → w.grownBy w' v.ownBlock → (v'.ownBlock = v.ownBlock ∨ v'.ownBlock = some w.heap.size) → wpList P ops Q rest (a.put o.dst v') w') : wpList P ops Q (o :: rest) a w :=
  wpList_plain hgd fun _ hK => wp_append_any w s x t ho base e i z size bytes ht hi hz hsize hby hzs hsz v n xs hs hown B A m c news hx hr h1 h63 hbytes hbase fun v' w' h2 h3 h4 => hK _ _ (h v' w' h2 h3 h4)

theorem step_append_any {ops : Array Oper} {o : Oper} {a : Act} {K : Act → World → Prop} {Q : Exit → Act → World → Prop} {E : Prop} (hgd : o.guard = none) (s x : Operand) (t : TypeId)
    (ho : o.op = .call { callee := .builtin .append, args := #[s, x], argTypes := #[t, t] })
    (base : Nat) (e : TypeId) (i : TypeInfo) (z : Value) (size bytes : Nat) (ht : P.underlying t = some (.slice e)) (hi : P.info? e = some i) (hz : i.zero = some z)
    (hsize : i.size = size) (hby : i.bytes = bytes) (hzs : z.cells.size = size) (hsz : 0 < size)
    (v : Value) (n : Nat) (xs : List Value) (hs : a.eval s = v) (hown : w.ownsRow base e size v n xs)
    (B : Nat) (A : Option Addr) (m c : Nat) (news : List Value) (hx : a.eval x = .slice A m c) (hr : Reads w B size A m news) (h1 : ∀ u ∈ news, u.oneCell' = true)
    (h63 : n + m ≤ maxLen) (hbytes : (n + m) * bytes ≤ 140737488355328) (hbase : base ≤ w.heap.size)
    (h : ∀ v' w', w'.ownsRow base e size v' (n + m) (xs ++ news) → w.grownBy w' v.ownBlock → (v'.ownBlock = v.ownBlock ∨ v'.ownBlock = some w.heap.size) → K (a.put o.dst v') w') :
    if Region.wanted o (yielded ops a.tmps) = true then Oper.wp P o a w K Q else E := by
  have hw : Region.wanted o (yielded ops a.tmps) = true := by simp [Region.wanted, hgd]
  rw [if_pos hw]
  exact wp_append_any w s x t ho base e i z size bytes ht hi hz hsize hby hzs hsz v n xs hs hown B A m c news hx hr h1 h63 hbytes hbase h
end
/-- the same, told as a growth -/
theorem grew_of {base : Nat} {e : TypeId} {size n : Nat} {v v' : Value} {xs : List Value} {w w' : World} (hown : w.ownsRow base e size v n xs) (hbase : base ≤ w.heap.size) (hg : w.grownBy w' v.ownBlock) (hat : v'.ownBlock = v.ownBlock ∨ v'.ownBlock = some w.heap.size) : Grew w base v w' v' :=
  ⟨(Below.refl base w).grown hg hbase (fun k hk => (hown.lt k hk).1), hg, hat.imp_right fun h => ⟨_, h, Nat.le_refl _⟩⟩
theorem step_app {P : Program} {w : World} {ops : Array Oper} {o : Oper} {a : Act} {K : Act → World → Prop} {Q : Exit → Act → World → Prop} {E : Prop} (hgd : o.guard = none) {s x : Operand} {t : TypeId}
    (ho : o.op = .call { callee := .builtin .append, args := #[s, x], argTypes := #[t, t] }) {e : TypeId} {size bytes : Nat} (hT : SlTy P t e size bytes)
    {base : Nat} {v : Value} {n : Nat} {xs : List Value} (hown : w.ownsRow base e size v n xs) (hs : a.eval s = v)
    {B : Nat} {A : Option Addr} {m c : Nat} {news : List Value} (hx : a.eval x = .slice A m c) (hr : Reads w B size A m news) (h1' : (news.all fun u => u.oneCell') = true)
    (hn : n + m < 33554432) (hbase : base ≤ w.heap.size)
    (h : ∀ v' w', w'.ownsRow base e size v' (n + m) (xs ++ news) → Grew w base v w' v' → K (a.put o.dst v') w') :
    if Region.wanted o (yielded ops a.tmps) = true then Oper.wp P o a w K Q else E := by
  obtain ⟨i, z, ht, hi, hz, hsize, hby, hzs, hsz, hb⟩ := hT
  refine step_append_any w hgd s x t ho base e i z size bytes ht hi hz hsize hby hzs hsz v n xs hs hown B A m c news hx hr (List.all_eq_true.1 h1') (by simp only [maxLen]; omega) ?_ hbase
    (fun v' w' h2 h3 h4 => h v' w' h2 (grew_of hown hbase h3 h4))
  have : (n + m) * bytes ≤ 33554432 * 4096 := Nat.mul_le_mul (by omega) hb
  omega
theorem wpList_app {P : Program} {w : World} {ops : Array Oper} {rest : List Oper} {o : Oper} {a : Act} {Q : Exit → Act → World → Prop} (hgd : o.guard = none) {s x : Operand} {t : TypeId}
    (ho : o.op = .call { callee := .builtin .append, args := #[s, x], argTypes := #[t, t] }) {e : TypeId} {size bytes : Nat} (hT : SlTy P t e size bytes)
    {base : Nat} {v : Value} {n : Nat} {xs : List Value} (hown : w.ownsRow base e size v n xs) (hs : a.eval s = v)
    {B : Nat} {A : Option Addr} {m c : Nat} {news : List Value} (hx : a.eval x = .slice A m c) (hr : Reads w B size A m news) (h1' : (news.all fun u => u.oneCell') = true)
    (hn : n + m < 33554432) (hbase : base ≤ w.heap.size)
    (h : ∀ v' w', w'.ownsRow base e size v' (n + m) (xs ++ news) → Grew w base v w' v' → wpList P ops Q rest (a.put o.dst v') w') : wpList P ops Q (o :: rest) a w := by
  obtain ⟨i, z, ht, hi, hz, hsize, hby, hzs, hsz, hb⟩ := hT
  refine wpList_append_any w hgd s x t ho base e i z size bytes ht hi hz hsize hby hzs hsz v n xs hs hown B A m c news hx hr (List.all_eq_true.1 h1') (by simp only [maxLen]; omega) ?_ hbase
    (fun v' w' h2 h3 h4 => h v' w' h2 (grew_of hown hbase h3 h4))
  have : (n + m) * bytes ≤ 33554432 * 4096 := Nat.mul_le_mul (by omega) hb
  omega
theorem own_caps {w : World} {base : Nat} {e : TypeId} {size n c : Nat} {A : Option Addr} {xs : List Value} (h : w.ownsRow base e size (.slice A n c) n xs) : (A = none ∧ n = 0 ∧ c = 0) ∨ ∃ g, A = some ⟨g, 0, none⟩ ∧ n ≤ c ∧ base ≤ g ∧ g < w.heap.size := by
  rcases h.2 with ⟨hv, hx⟩ | ⟨g, cap, cur, hv, hg, hh, hcap, _⟩
  · injection hv with h1 h2 h3
    exact .inl ⟨h1, h2, h3⟩
  · injection hv with h1 h2 h3
    subst h3
    exact .inr ⟨g, h1, hcap, hg, (Array.getElem?_eq_some_iff.1 hh).1⟩
/-- a row of the call's own, parted at a place -/
theorem cut_own {P : Program} {t e : TypeId} {size : Nat} (hu : P.underlying t = some (.slice e)) (hs : ∀ w, (sizeOf e).run P w = .ok size w) {w : World} {base n c j : Nat} {A : Option Addr} {xs : List Value} (h : w.ownsRow base e size (.slice A n c) n xs) (hj : j ≤ n) :
    ∃ X, (∀ W, (Instr.slice t (.slice A n c) (some (.int .i64 (j : Int))) none none).run P W = .ok (.slice X (n - j) (c - j)) W) ∧ Reads w w.heap.size size X (n - j) (xs.drop (j * size)) ∧
      (∀ W, (Instr.slice t (.slice A n c) none (some (.int .i64 (j : Int))) none).run P W = .ok (.slice A j c) W) ∧ Reads w w.heap.size size A j (xs.take (j * size)) := by
  have hr := Reads.of_own h
  have hx := hr.1
  rcases own_caps h with ⟨rfl, rfl, rfl⟩ | ⟨g, rfl, hc, _, _⟩
  · obtain rfl : j = 0 := by omega
    have hx0 : xs = [] := List.eq_nil_of_length_eq_zero (by simpa using hx)
    subst hx0
    refine ⟨none, fun W => ?_, by simpa using Reads.none_, fun W => slice_to hu hs none 0 0 0 (Nat.le_refl _) W, by simpa using Reads.none_⟩
    simp [Instr.slice, run_underlying hu, go_sem, hs]
  · refine ⟨_, fun W => slice_from hu hs g 0 n c j hj W, ⟨by rw [List.length_drop, hx, Nat.sub_mul], fun hn => ?_⟩, fun W => slice_to hu hs _ n c j (by omega) W, ⟨by rw [List.length_take, hx]; exact Nat.min_eq_left (Nat.mul_le_mul_right _ hj), fun hn => ?_⟩⟩
    · rw [if_neg (by omega)]
      obtain ⟨b, off, he, hb, hcell⟩ := hr.2 (by omega)
      injection he with he
      injection he with h1 h2 _
      subst h1 h2
      refine ⟨_, _, rfl, hb, fun k u hk => ?_⟩
      rw [List.getElem?_drop] at hk
      have := hcell _ u hk
      rw [Nat.add_assoc]; exact this
    · obtain ⟨b, off, he, hb, hcell⟩ := hr.2 (by omega)
      refine ⟨b, off, he, hb, fun k u hk => hcell k u ?_⟩
      rw [List.getElem?_take] at hk
      split at hk
      · exact hk
      · cases hk
/-- a new row without elements -/
theorem own_none (w : World) (base : Nat) (e : TypeId) (size : Nat) (hb : base ≤ w.heap.size) : (w.alloc (.cells #[] e)).ownsRow base e size (.slice (some ⟨w.heap.size, 0, none⟩) 0 0) 0 [] :=
  World.ownsRow_made w #[] 0 hb (by simp [maxLen]) (by simp)
/-- a block of cells, read as a row -/
theorem reads_blk {w : World} {g : Nat} {t : TypeId} {cs : Array Value} {size m : Nat} (h : Blk w g t cs) (hl : cs.size = m * size) : Reads w w.heap.size size (some ⟨g, 0, none⟩) m cs.toList :=
  ⟨by simpa using hl, fun _ => ⟨g, 0, rfl, h.lt, fun j u hu => by
    rw [Nat.zero_add, h.cell]
    simpa using hu⟩⟩
end Go.Proofs.Ytoohcnjilmcimaa

/-! amblernum.Has by its contract. -/
namespace Go.Proofs.Ytoohcnjilmcimaa
open Go.RowKit

set_option maxHeartbeats 400000 in
theorem num_Has (A : Option Addr) (n c : Nat) (xs : List Int) (x : Int) (w : World) (h : Reads w w.heap.size 1 A n (xs.map (.int .i64))) (hn : n ≤ 65536) :
    Calls Try.prog 17 #[.slice A n c, .int .i64 x] w fun e w' => e = .returned (.bool (xs.contains x)) ∧ w = w' := by
  have hl : xs.length = n := by simpa using h.1
  go_enter Try.func17, Try.ntmps17
  go_wp2
  go_loop [6, 9] (fun _ i => ∃ k : Nat, k ≤ n ∧ i = .int .i64 k ∧ x ∉ xs.take k) (fun _ i => n - (intOf i).toNat)
  case atStart => exact ⟨0, by omega, rfl, by simp⟩
  case round =>
    obtain ⟨k, hk, rfl, hx⟩ := hrel
    by_cases hlt : k < n
    · obtain ⟨b, off, rfl, hb, hc⟩ := h.cells_ (by omega)
      have hc1 := hc k (.int .i64 (xs[k]'(by omega))) (by simp [hl, hlt])
      generalize hy : xs[k]'(by omega) = y at hc1
      have Hy := Lib.hid hy
      clear hy hc
      by_cases hxy : y = x
      · go_wp2
        go_ret
        exact ⟨ret_bool (by rw [← Hy.out] at hxy; subst hxy; simp), rfl⟩
      · go_wp2
        go_round
        case rel => exact ⟨k + 1, by omega, by go_num, by
          rw [List.take_succ_eq_append_getElem (by omega), Hy.out]; simp [hx]; exact fun e => hxy e.symm⟩
        case measure => simp [intOf]; omega
    · go_wp2
      go_ret
      exact ⟨ret_bool (by rw [List.take_of_length_le (by omega)] at hx; simpa using hx), rfl⟩
end Go.Proofs.Ytoohcnjilmcimaa

/-! The reference's keys and counts by their contracts. -/
namespace Go.Proofs.Ytoohcnjilmcimaa
open Go.RowKit AmS

/-- an operation of a region whose guard says no is passed over first -/
theorem takeSkip {P : Program} {md : Region.Mode} {ops : Array Oper} {S : World → Prop} {Q : Exit → Act → World → Prop} {i : Nat} {oi : Oper} {fuel : Nat} {listed : Array Bool} {a : Act} {w : World} (hi : ops[i]? = some oi)
    (hs : Region.noSelect ops = true) (hf : Region.free md ops listed i = true) (hr : (Region.ready md ops listed).contains i = true)
    (hQ : ∀ c a w, Q (.panic c) (a.put oi.dst undef) w → Q (.panic c) a w) (hw : Region.wanted oi (yielded ops a.tmps) = false) (hS : S w)
    (h : wpAnyH P md ops Q S fuel (listed.setIfInBounds i true) (a.put oi.dst undef) w) : wpAnyH P md ops Q S (fuel + 1) listed a w :=
  wpAnyH_take hi hs hf hr hQ (Or.inr ⟨hw, rfl⟩) hS h
theorem one_take (l : List Int) (j : Nat) : (((keyVs l).take j).all fun u => u.oneCell') = true := List.all_eq_true.2 fun u hu => by
  obtain ⟨a, _, rfl⟩ := List.mem_map.1 (List.mem_of_mem_take hu)
  rfl
theorem one_drop (l : List Int) (j : Nat) : (((keyVs l).drop j).all fun u => u.oneCell') = true := List.all_eq_true.2 fun u hu => by
  obtain ⟨a, _, rfl⟩ := List.mem_map.1 (List.mem_of_mem_drop hu)
  rfl
theorem keyVs_ins (out : List Int) (j : Nat) (key : Int) : (([] ++ (keyVs out).take (j * 1)) ++ [Value.int .u64 key]) ++ (keyVs out).drop (j * 1) = keyVs (out.take j ++ ([key] ++ out.drop j)) := by
  rw [Nat.mul_one, List.nil_append]
  unfold keyVs
  rw [List.map_append, List.map_append, List.map_take, List.map_drop, List.append_assoc]
  rfl
theorem own_eq {w : World} {base : Nat} {e : TypeId} {size n n' : Nat} {v : Value} {xs xs' : List Value} (h : w.ownsRow base e size v n xs) (hn : n = n') (hx : xs = xs') : w.ownsRow base e size v n' xs' := by subst hn hx; exact h
theorem cell_below {W W' : World} {B : Nat} {a : Addr} {v : Value} (hb : Below B W W') (hlt : a.block < B) (h : W.cell? a = some v) : W'.cell? a = some v := (hb.cell hlt).trans h
theorem size_u64k : ∀ w, (sizeOf 27).run Try.prog w = .ok 1 w := fun w => by kernel_rfl
theorem cell_at {W W' : World} {a : Addr} {v : Value} (hb : Below W.heap.size W W') (h : W.cell? a = some v) : W'.cell? a = some v := (hb.cell (World.block_lt_of_cell? W a h)).trans h
theorem below_next {a b c : World} (hb : Below b.heap.size b c) (h : Below a.heap.size a b) : Below a.heap.size a c := h.trans (hb.mono h.size)
set_option maxHeartbeats 400000 in
theorem ref38_Keyed (o : SOp) (w : World) : Calls Try.prog 13 #[opV o] w fun e w' => e = .returned (.bool (keyedP o.kind)) ∧ Below w.heap.size w w' := by
  unfold opV
  have HK := Lib.hid (show keyedP o.kind = (decide (0 < o.kind) && decide (o.kind < 4)) from by rw [← keyed_eq]; rfl)
  by_cases h1 : 0 < o.kind
  · by_cases h2 : o.kind < 4
    · go_enter Try.func13, Try.ntmps13
      go_wp2
      go_ret
      exact ⟨ret_bool (by rw [HK.out]; simp [h1, h2]), (Below.refl _ _).alloc (Nat.le_refl _) _⟩
    · go_enter Try.func13, Try.ntmps13
      go_wp2
      go_ret
      exact ⟨ret_bool (by rw [HK.out]; simp [h1, h2]), (Below.refl _ _).alloc (Nat.le_refl _) _⟩
  · go_enter Try.func13, Try.ntmps13
    go_wp2
    go_ret
    exact ⟨ret_bool (by rw [HK.out]; simp; omega), (Below.refl _ _).alloc (Nat.le_refl _) _⟩

/-- where a key stands in rising keys -/
def spot (out : List Int) (key : Int) : Nat := (out.takeWhile fun x => decide (x < key)).length
theorem spot_le (out : List Int) (key : Int) : spot out key ≤ out.length := by
  have h := congrArg List.length (List.takeWhile_append_dropWhile (p := fun x => decide (x < key)) (l := out))
  rw [List.length_append] at h
  unfold spot; omega
theorem take_spot (out : List Int) (key : Int) : out.take (spot out key) = out.takeWhile fun x => decide (x < key) := by
  have h := List.takeWhile_append_dropWhile (p := fun x => decide (x < key)) (l := out)
  unfold spot
  generalize (out.takeWhile fun x => decide (x < key)) = a at *
  rw [← h, List.take_left]
theorem drop_spot (out : List Int) (key : Int) : out.drop (spot out key) = out.dropWhile fun x => decide (x < key) := by
  have h := List.takeWhile_append_dropWhile (p := fun x => decide (x < key)) (l := out)
  unfold spot
  generalize (out.takeWhile fun x => decide (x < key)) = a at *
  generalize (out.dropWhile fun x => decide (x < key)) = b at *
  rw [← h, List.drop_left]
theorem spot_low {out : List Int} {key : Int} {k : Nat} {x : Int} (hk : k < spot out key) (hx : out[k]? = some x) : x < key := by
  have h1 : (out.take (spot out key))[k]? = some x := by rw [List.getElem?_take_of_lt hk]; exact hx
  rw [take_spot] at h1
  have := takeWhile_lt key out x (List.mem_of_getElem? h1)
  exact this
theorem spot_end {out : List Int} {key : Int} {x : Int} (hx : out[spot out key]? = some x) : ¬ x < key := by
  have h1 : (out.drop (spot out key)).head? = some x := by rw [List.head?_drop]; exact hx
  rw [drop_spot] at h1
  have := List.head?_dropWhile_not (fun x => decide (x < key)) out
  rw [h1] at this
  simpa using this
theorem insR_at (out : List Int) (o : SOp) : insR out o = if keyedP o.kind && !(out[spot out o.key]? == some o.key) then out.take (spot out o.key) ++ ([o.key] ++ out.drop (spot out o.key)) else out := by
  rw [take_spot, drop_spot]
  unfold insR
  simp only
  rw [← drop_spot, List.head?_drop]
  rfl
theorem insR_length (out : List Int) (o : SOp) : (insR out o).length ≤ out.length + 1 := by
  rw [insR_at]
  have := spot_le out o.key
  split
  · simp; omega
  · omega
theorem foldl_insR_length : ∀ (l : List SOp) (out : List Int), (l.foldl insR out).length ≤ out.length + l.length
  | [], out => by simp
  | o :: t, out => by
    have h1 := foldl_insR_length t (insR out o)
    have h2 := insR_length out o
    simp only [List.foldl_cons, List.length_cons]; omega
theorem keysR_snoc {l : List SOp} {k : Nat} {o : SOp} (h : l[k]? = some o) : keysR (l.take (k + 1)) = insR (keysR (l.take k)) o := by
  rw [take_snoc_op h]; unfold keysR; rw [List.foldl_append]; rfl

def KeysRPost (w : World) (l : List SOp) (e : Ending) (w' : World) : Prop :=
  ∃ v, e = .returned v ∧ w'.ownsRow w.heap.size 27 1 v (keysR l).length (keyVs (keysR l)) ∧ Below w.heap.size w w'

set_option maxHeartbeats 2000000 in
set_option maxRecDepth 100000 in
theorem ref38_Keys (A : Option Addr) (n c : Nat) (l : List SOp) (w : World) (h : Reads w w.heap.size 5 A n (opsCells l)) (hn : n ≤ 300) :
    Calls Try.prog 8 #[.slice A n c] w (KeysRPost w l) := by
  have hl : l.length = n := by have := h.1; rw [opsCells_length] at this; omega
  subst hl
  have HKd := Lib.hid (fun o => ref38_Keyed o)
  go_enter Try.func8, Try.ntmps8
  go_wp2
  go_loopw [3, 5, 6, 10] (fun v _ _ i wr => ∃ k : Nat, k ≤ l.length ∧ i = .int .i64 k ∧ wr.ownsRow w.heap.size 27 1 v (keysR (l.take k)).length (keyVs (keysR (l.take k))) ∧ Below w.heap.size w wr) (fun _ _ _ i _ => l.length - (intOf i).toNat)
  case atStart => exact ⟨0, by omega, rfl, World.ownsRow_made w #[] 0 (Nat.le_refl _) (by simp [maxLen]) (by simp), (Below.refl _ _).alloc (Nat.le_refl _) _⟩
  case round =>
    obtain ⟨k, hk, rfl, hown, hB⟩ := hrel
    obtain ⟨wo, rfl⟩ : ∃ wo : World, wo = wr := ⟨_, rfl⟩
    by_cases hlt : k < l.length
    · have ho : l[k]? = some (l[k]'hlt) := List.getElem?_eq_getElem _
      generalize l[k]'hlt = o at ho
      have hsn := keysR_snoc ho
      obtain ⟨out, hout⟩ : ∃ out, out = keysR (l.take k) := ⟨_, rfl⟩
      have hol : out.length ≤ 300 := by
        rw [hout]; unfold keysR
        have := foldl_insR_length (l.take k) []
        have h2 := List.length_take_le k l
        simp only [List.length_nil] at this; omega
      rw [← hout] at hown hsn
      obtain ⟨b, off, rfl, hb, c0, c1, c2, c3, c4⟩ := op_cells (h.below hB) ho
      have hlt' : (k : Int) < (l.length : Int) := by omega
      have HSN := Lib.hid hsn
      have HOut := Lib.hid hout
      clear hout
      obtain ⟨A3, cp3, rfl⟩ := own_form ‹wo.ownsRow _ _ _ _ _ _›
      have hO := Blk.new wo 30 #[.int .i64 o.kind, .int .u64 o.key, .int .u64 o.val, .int .u64 o.hash, .int .i64 o.iter]
      have hBn := hB.alloc hB.size (.cells #[.int .i64 o.kind, .int .u64 o.key, .int .u64 o.val, .int .u64 o.hash, .int .i64 o.iter] 30)
      have hown1 := hown.alloc (.cells #[.int .i64 o.kind, .int .u64 o.key, .int .u64 o.val, .int .u64 o.hash, .int .i64 o.iter] 30)
      obtain ⟨W, hW⟩ : ∃ W, W = wo.alloc (.cells #[.int .i64 o.kind, .int .u64 o.key, .int .u64 o.val, .int .u64 o.hash, .int .i64 o.iter] 30) := ⟨_, rfl⟩
      rw [← hW] at hO hBn hown1
      obtain ⟨p, hp⟩ : ∃ p, p = wo.heap.size := ⟨_, rfl⟩
      rw [← hp] at hO
      have hp0 := hO.lt
      have x0 := hO.cell 0
      have x1 := hO.cell 1
      have x2 := hO.cell 2
      have x3 := hO.cell 3
      have x4 := hO.cell 4
      simp only [List.getElem?_toArray, List.getElem?_cons_zero, List.getElem?_cons_succ] at x0 x1 x2 x3 x4
      have hr := Reads.of_own hown1
      have hsl := spot_le out o.key
      obtain ⟨sp, hsp⟩ : ∃ sp, sp = spot out o.key := ⟨_, rfl⟩
      rw [← hsp] at hsl
      have hlow : ∀ j x, j < sp → out[j]? = some x → x < o.key := fun j x hj hx => spot_low (hsp ▸ hj) hx
      have hend : ∀ x, out[sp]? = some x → ¬ x < o.key := fun x hx => spot_end (hsp ▸ hx)
      have HLow := Lib.hid hlow
      have HEnd := Lib.hid hend
      have HSp := Lib.hid hsp
      have HW := Lib.hid (And.intro hp hW)
      clear hsp hlow hend hsn hown ho hO hp hW
      go_upto_block 2 with fail
      rw [← HW.out.2, ← HW.out.1]
      clear c0 c1 c2 c3 c4
      go_wp2
      go_loopw [6] (fun v wr => ∃ j : Nat, j ≤ sp ∧ v = .int .i64 j ∧ ∃ m, wr = W.drewN m) (fun v _ => sp - (intOf v).toNat)
      case atStart => exact ⟨0, by omega, rfl, 0, rfl⟩
      case round =>
        obtain ⟨j, hj, rfl, m, rfl⟩ := hrel
        have hlt2 : (j : Int) ≤ (out.length : Int) := by omega
        by_cases hjs : j < sp
        · have hjo : j < out.length := by omega
          have hx : out[j]? = some (out[j]'hjo) := List.getElem?_eq_getElem _
          have hxl := HLow.out j _ hjs hx
          generalize out[j]'hjo = x at hx hxl
          obtain ⟨b3, off3, rfl, hb3, hcs⟩ := hr.cells_ (by omega)
          have hc := hcs j (.int .u64 x) (by simp [keyVs, hx])
          have hjo' : (j : Int) < (out.length : Int) := by omega
          have hd : decide (j < out.length) = true := decide_eq_true hjo
          have hdI : decide ((j : Int) < (out.length : Int)) = true := decide_eq_true hjo'
          clear hx hcs hr
          go_wp2
          go_quiet (fail)
          go_wp2
          go_roundw
          case rel => exact ⟨j + 1, by omega, by go_num, _, rfl⟩
          case measure => simp [intOf]; omega
        · obtain rfl : j = sp := by omega
          have HK := Lib.hid (fun V => by have := HKd.out o V; unfold opV at this; exact this)
          by_cases hjo : j < out.length
          · have hx : out[j]? = some (out[j]'hjo) := List.getElem?_eq_getElem _
            have hxl := HEnd.out _ hx
            generalize out[j]'hjo = x at hx hxl
            obtain ⟨b3, off3, rfl, hb3, hcs⟩ := hr.cells_ (by omega)
            have hc := hcs j (.int .u64 x) (by simp [keyVs, hx])
            have hjo' : (j : Int) < (out.length : Int) := by omega
            have hd : decide (j < out.length) = true := decide_eq_true hjo
            have hdI : decide ((j : Int) < (out.length : Int)) = true := decide_eq_true hjo'
            have heI : ((j : Int) == (out.length : Int)) = false := by rw [beq_eq_false_iff_ne]; omega
            have HX := Lib.hid hx
            clear hx hcs hr
            go_wp2
            go_quiet (fail)
            go_wp2
            obtain ⟨V, hV⟩ : ∃ V, V = (W.drewN m).drewN nq := ⟨_, rfl⟩
            rw [← hV]
            have x0 : V.cell? ⟨p, 0, none⟩ = some (.int .i64 o.kind) := by rw [hV]; exact x0
            have x1 : V.cell? ⟨p, 1, none⟩ = some (.int .u64 o.key) := by rw [hV]; exact x1
            have x2 : V.cell? ⟨p, 2, none⟩ = some (.int .u64 o.val) := by rw [hV]; exact x2
            have x3 : V.cell? ⟨p, 3, none⟩ = some (.int .u64 o.hash) := by rw [hV]; exact x3
            have x4 : V.cell? ⟨p, 4, none⟩ = some (.int .i64 o.iter) := by rw [hV]; exact x4
            have hBV : Below w.heap.size w V := by rw [hV]; exact below_drewN (below_drewN hBn _) _
            have hownV : V.ownsRow w.heap.size 27 1 (.slice (some ⟨b3, off3, none⟩) out.length cp3) out.length (keyVs out) := by rw [hV]; exact hown1
            have hBVV := Below.refl V.heap.size V
            have hc : V.cell? ⟨b3, off3 + j, none⟩ = some (.int .u64 x) := by rw [hV]; exact hc
            clear hV hown1 hBn
            cases hq : keyedP o.kind with
            | false =>
              have HK2 := Lib.hid (fun U => show Calls Try.prog 13 #[.agg #[.int .i64 o.kind, .int .u64 o.key, .int .u64 o.val, .int .u64 o.hash, .int .i64 o.iter]] U (fun e w' => e = .returned (.bool false) ∧ Below U.heap.size U w') from by have := HK.out U; rw [hq] at this; exact this)
              refine wp_region_held_drew (S := fun w' => (w'.cell? ⟨p, 0, none⟩ = some (.int .i64 o.kind) ∧ w'.cell? ⟨p, 1, none⟩ = some (.int .u64 o.key) ∧ w'.cell? ⟨p, 2, none⟩ = some (.int .u64 o.val) ∧ w'.cell? ⟨p, 3, none⟩ = some (.int .u64 o.hash) ∧ w'.cell? ⟨p, 4, none⟩ = some (.int .i64 o.iter)) ∧ Below V.heap.size V w') (by kernel_rfl) ⟨⟨x0, x1, x2, x3, x4⟩, hBVV.drew⟩ (fun hHeld => ?_)
              refine wpAnyH_take (i := 0) (oi := ⟨some 29, _, _, _, _, _⟩) (v := .agg #[.int .i64 o.kind, .int .u64 o.key, .int .u64 o.val, .int .u64 o.hash, .int .i64 o.iter]) rfl (by kernel_rfl) (by kernel_rfl) (by kernel_rfl) (fun _ _ _ h => h) (Or.inl ⟨by rfl, ?_⟩) hHeld ?_
              · rintro w ⟨⟨_, _, _, _, _⟩, _⟩
                go_simp
              try simp only [Act.put, List.setIfInBounds_toArray, List.set_cons_zero, List.set_cons_succ]
              refine wpAnyH_ready (rs := [1]) (by kernel_rfl) (by simp) ?_
              refine AllReadyH.cons (o := ⟨some 30, _, _, _, _, _⟩) rfl (fun K hK => ?_) AllReadyH.nil
              go_simp
              refine (HK2.out _).mono ?_
              rintro e w3 ⟨rfl, hbc⟩
              go_wp2_with fail
              refine hK.out _ _ ⟨⟨cell_at hbc x0, cell_at hbc x1, cell_at hbc x2, cell_at hbc x3, cell_at hbc x4⟩, below_next hbc hBVV.drew⟩ (fun hHeld => ?_)
              clear hK K
              try simp only [Act.put, List.setIfInBounds_toArray, List.set_cons_zero, List.set_cons_succ]
              refine wpAnyH_take (i := 2) (oi := ⟨some 31, _, _, _, _, _⟩) (v := .bool false) rfl (by kernel_rfl) (by kernel_rfl) (by kernel_rfl) (fun _ _ _ h => h) (Or.inl ⟨by rfl, fun w _ => by go_simp⟩) hHeld ?_
              try simp only [Act.put, List.setIfInBounds_toArray, List.set_cons_zero, List.set_cons_succ]
              refine takeSkip (i := 3) (oi := ⟨some 32, _, _, _, _, _⟩) rfl (by kernel_rfl) (by kernel_rfl) (by kernel_rfl) (fun _ _ _ h => h) (by rfl) hHeld ?_
              try simp only [Act.put, List.setIfInBounds_toArray, List.set_cons_zero, List.set_cons_succ]
              refine takeSkip (i := 4) (oi := ⟨some 33, _, _, _, _, _⟩) rfl (by kernel_rfl) (by kernel_rfl) (by kernel_rfl) (fun _ _ _ h => h) (by rfl) hHeld ?_
              try simp only [Act.put, List.setIfInBounds_toArray, List.set_cons_zero, List.set_cons_succ]
              refine takeSkip (i := 5) (oi := ⟨some 34, _, _, _, _, _⟩) rfl (by kernel_rfl) (by kernel_rfl) (by kernel_rfl) (fun _ _ _ h => h) (by rfl) hHeld ?_
              try simp only [Act.put, List.setIfInBounds_toArray, List.set_cons_zero, List.set_cons_succ]
              refine takeSkip (i := 6) (oi := ⟨some 35, _, _, _, _, _⟩) rfl (by kernel_rfl) (by kernel_rfl) (by kernel_rfl) (fun _ _ _ h => h) (by rfl) hHeld ?_
              try simp only [Act.put, List.setIfInBounds_toArray, List.set_cons_zero, List.set_cons_succ]
              refine takeSkip (i := 7) (oi := ⟨some 36, _, _, _, _, _⟩) rfl (by kernel_rfl) (by kernel_rfl) (by kernel_rfl) (fun _ _ _ h => h) (by rfl) hHeld ?_
              try simp only [Act.put, List.setIfInBounds_toArray, List.set_cons_zero, List.set_cons_succ]
              refine takeSkip (i := 8) (oi := ⟨some 37, _, _, _, _, _⟩) rfl (by kernel_rfl) (by kernel_rfl) (by kernel_rfl) (fun _ _ _ h => h) (by rfl) hHeld ?_
              try simp only [Act.put, List.setIfInBounds_toArray, List.set_cons_zero, List.set_cons_succ]
              refine takeSkip (i := 9) (oi := ⟨some 38, _, _, _, _, _⟩) rfl (by kernel_rfl) (by kernel_rfl) (by kernel_rfl) (fun _ _ _ h => h) (by rfl) hHeld ?_
              try simp only [Act.put, List.setIfInBounds_toArray, List.set_cons_zero, List.set_cons_succ]
              refine takeSkip (i := 10) (oi := ⟨some 39, _, _, _, _, _⟩) rfl (by kernel_rfl) (by kernel_rfl) (by kernel_rfl) (fun _ _ _ h => h) (by rfl) hHeld ?_
              try simp only [Act.put, List.setIfInBounds_toArray, List.set_cons_zero, List.set_cons_succ]
              refine takeSkip (i := 11) (oi := ⟨some 40, _, _, _, _, _⟩) rfl (by kernel_rfl) (by kernel_rfl) (by kernel_rfl) (fun _ _ _ h => h) (by rfl) hHeld ?_
              try simp only [Act.put, List.setIfInBounds_toArray, List.set_cons_zero, List.set_cons_succ]
              refine takeSkip (i := 12) (oi := ⟨some 41, _, _, _, _, _⟩) rfl (by kernel_rfl) (by kernel_rfl) (by kernel_rfl) (fun _ _ _ h => h) (by rfl) hHeld ?_
              try simp only [Act.put, List.setIfInBounds_toArray, List.set_cons_zero, List.set_cons_succ]
              refine takeSkip (i := 13) (oi := ⟨some 42, _, _, _, _, _⟩) rfl (by kernel_rfl) (by kernel_rfl) (by kernel_rfl) (fun _ _ _ h => h) (by rfl) hHeld ?_
              try simp only [Act.put, List.setIfInBounds_toArray, List.set_cons_zero, List.set_cons_succ]
              refine takeSkip (i := 14) (oi := ⟨some 43, _, _, _, _, _⟩) rfl (by kernel_rfl) (by kernel_rfl) (by kernel_rfl) (fun _ _ _ h => h) (by rfl) hHeld ?_
              try simp only [Act.put, List.setIfInBounds_toArray, List.set_cons_zero, List.set_cons_succ]
              refine takeSkip (i := 15) (oi := ⟨some 44, _, _, _, _, _⟩) rfl (by kernel_rfl) (by kernel_rfl) (by kernel_rfl) (fun _ _ _ h => h) (by rfl) hHeld ?_
              try simp only [Act.put, List.setIfInBounds_toArray, List.set_cons_zero, List.set_cons_succ]
              refine wpAnyH_take (i := 16) (oi := ⟨some 45, _, _, _, _, _⟩) (v := .bool false) rfl (by kernel_rfl) (by kernel_rfl) (by kernel_rfl) (fun _ _ _ h => h) (Or.inl ⟨by rfl, fun w _ => by go_simp⟩) hHeld ?_
              try simp only [Act.put, List.setIfInBounds_toArray, List.set_cons_zero, List.set_cons_succ]
              refine wpAnyH_done (by kernel_rfl) ?_ _

              go_wp2
              have hbc2 : Below V.heap.size V w3 := below_next hbc hBVV.drew
              have hkeep : keysR (l.take (k + 1)) = out := by
                rw [HSN.out, insR_at]
                rw [hq]; rfl
              go_roundw
              case rel => exact ⟨k + 1, by omega, by go_num, by rw [hkeep]; exact own_below hownV hbc2 (Nat.le_refl _), hBV.trans (hbc2.mono hBV.size)⟩
              case measure => simp [intOf]; omega
            | true =>
              cases hxe : (x != o.key) with
              | false =>
                have HK2 := Lib.hid (fun U => show Calls Try.prog 13 #[.agg #[.int .i64 o.kind, .int .u64 o.key, .int .u64 o.val, .int .u64 o.hash, .int .i64 o.iter]] U (fun e w' => e = .returned (.bool true) ∧ Below U.heap.size U w') from by have := HK.out U; rw [hq] at this; exact this)

                go_region_held3 (fun w' => (w'.cell? ⟨p, 0, none⟩ = some (.int .i64 o.kind) ∧ w'.cell? ⟨p, 1, none⟩ = some (.int .u64 o.key) ∧ w'.cell? ⟨p, 2, none⟩ = some (.int .u64 o.val) ∧ w'.cell? ⟨p, 3, none⟩ = some (.int .u64 o.hash) ∧ w'.cell? ⟨p, 4, none⟩ = some (.int .i64 o.iter) ∧ w'.cell? ⟨b3, off3 + j, none⟩ = some (.int .u64 x)) ∧ Below V.heap.size V w')
                  (first
                    | (go_split_ands; refine ⟨⟨?_, ?_, ?_, ?_, ?_, ?_⟩, ?_⟩ <;> first | go_keep | assumption | (refine cell_at hbc ?_; assumption) | (refine below_next hbc ?_; assumption))
                    | (refine ⟨⟨?_, ?_, ?_, ?_, ?_, ?_⟩, ?_⟩ <;> first | go_keep | assumption | exact Below.drew (by assumption)))
                  ((go_at_call 13; refine (HK2.out _).mono ?_; rintro e w3 ⟨rfl, hbc⟩))

                go_wp2
                have hbc2 : Below V.heap.size V w3 := below_next hbc hBVV.drew
                have hkeep : keysR (l.take (k + 1)) = out := by
                  rw [HSN.out, insR_at]
                  rw [← HSp.out, HX.out, if_neg]; have : x = o.key := by simpa using hxe
                  simp [this]
                go_roundw
                case rel => exact ⟨k + 1, by omega, by go_num, by rw [hkeep]; exact own_below hownV hbc2 (Nat.le_refl _), hBV.trans (hbc2.mono hBV.size)⟩
                case measure => simp [intOf]; omega
              | true =>
                have HK2 := Lib.hid (fun U => show Calls Try.prog 13 #[.agg #[.int .i64 o.kind, .int .u64 o.key, .int .u64 o.val, .int .u64 o.hash, .int .i64 o.iter]] U (fun e w' => e = .returned (.bool true) ∧ Below U.heap.size U w') from by have := HK.out U; rw [hq] at this; exact this)

                go_region_held3 (fun w' => (w'.cell? ⟨p, 0, none⟩ = some (.int .i64 o.kind) ∧ w'.cell? ⟨p, 1, none⟩ = some (.int .u64 o.key) ∧ w'.cell? ⟨p, 2, none⟩ = some (.int .u64 o.val) ∧ w'.cell? ⟨p, 3, none⟩ = some (.int .u64 o.hash) ∧ w'.cell? ⟨p, 4, none⟩ = some (.int .i64 o.iter) ∧ w'.cell? ⟨b3, off3 + j, none⟩ = some (.int .u64 x)) ∧ Below V.heap.size V w')
                  (first
                    | (go_split_ands; refine ⟨⟨?_, ?_, ?_, ?_, ?_, ?_⟩, ?_⟩ <;> first | go_keep | assumption | (refine cell_at hbc ?_; assumption) | (refine below_next hbc ?_; assumption))
                    | (refine ⟨⟨?_, ?_, ?_, ?_, ?_, ?_⟩, ?_⟩ <;> first | go_keep | assumption | exact Below.drew (by assumption)))
                  ((go_at_call 13; refine (HK2.out _).mono ?_; rintro e w3 ⟨rfl, hbc⟩))
                go_wp2
                have hbc2 : Below V.heap.size V w3 := below_next hbc hBVV.drew
                have hkeep : keysR (l.take (k + 1)) = out.take j ++ ([o.key] ++ out.drop j) := by
                  rw [HSN.out, insR_at]
                  rw [← HSp.out, HX.out, if_pos]; have : x ≠ o.key := by simpa using hxe
                  simp [this, hq]
                have y1 := cell_at hbc x1
                have hp3 := World.block_lt_of_cell? w3 _ y1
                have hown3 := own_below hownV hbc2 (Nat.le_refl _)
                obtain ⟨X, hs1, hr2, hs2, hr1⟩ := cut_own (t := 23) Try.underlying23 size_u64k hown3 (j := j) (by omega)
                obtain ⟨z, hz⟩ : ∃ z, z = out.length - j := ⟨_, rfl⟩
                rw [← hz] at hs1 hr2
                have hz1 : z + j ≤ out.length := by omega
                have hz2 : out.length ≤ z + j := by omega
                clear hz
                have hdz : Below w3.heap.size w3 w3.drew := (Below.refl _ _).drew
                clear hown3 x0 x1 x2 x3 x4
                refine wp_region_held_drew (S := fun w' => w'.cell? ⟨p, 1, none⟩ = some (.int .u64 o.key) ∧ Below w3.heap.size w3 w') (by kernel_rfl) ⟨y1, hdz⟩ (fun hHeld => ?_)
                refine wpAnyH_take (i := 1) (oi := ⟨some 47, _, _, _, _, _⟩) (v := .slice (some ⟨b3, off3, none⟩) out.length cp3) rfl (by kernel_rfl) (by kernel_rfl) (by kernel_rfl) (fun _ _ _ h => h) (Or.inl ⟨by rfl, ?_⟩) hHeld ?_
                · rintro w ⟨hcz, _⟩
                  go_simp
                try simp only [Act.put, List.setIfInBounds_toArray, List.set_cons_zero, List.set_cons_succ]
                refine wpAnyH_take (i := 2) (oi := ⟨some 48, _, _, _, _, _⟩) (v := .int .i64 (j : Int)) rfl (by kernel_rfl) (by kernel_rfl) (by kernel_rfl) (fun _ _ _ h => h) (Or.inl ⟨by rfl, ?_⟩) hHeld ?_
                · rintro w ⟨hcz, _⟩
                  go_simp
                try simp only [Act.put, List.setIfInBounds_toArray, List.set_cons_zero, List.set_cons_succ]
                refine wpAnyH_take (i := 3) (oi := ⟨some 49, _, _, _, _, _⟩) (v := .slice (some ⟨b3, off3, none⟩) j cp3) rfl (by kernel_rfl) (by kernel_rfl) (by kernel_rfl) (fun _ _ _ h => h) (Or.inl ⟨by rfl, ?_⟩) hHeld ?_
                · rintro w ⟨hcz, _⟩
                  go_simp
                try simp only [Act.put, List.setIfInBounds_toArray, List.set_cons_zero, List.set_cons_succ]
                refine wpAnyH_take (i := 5) (oi := ⟨some 51, _, _, _, _, _⟩) (v := .pointer (some ⟨p, 1, none⟩)) rfl (by kernel_rfl) (by kernel_rfl) (by kernel_rfl) (fun _ _ _ h => h) (Or.inl ⟨by rfl, ?_⟩) hHeld ?_
                · rintro w ⟨hcz, _⟩
                  go_simp
                try simp only [Act.put, List.setIfInBounds_toArray, List.set_cons_zero, List.set_cons_succ]
                refine wpAnyH_take (i := 6) (oi := ⟨some 52, _, _, _, _, _⟩) (v := .int .u64 o.key) rfl (by kernel_rfl) (by kernel_rfl) (by kernel_rfl) (fun _ _ _ h => h) (Or.inl ⟨by rfl, ?_⟩) hHeld ?_
                · rintro w ⟨hcz, _⟩
                  go_simp
                try simp only [Act.put, List.setIfInBounds_toArray, List.set_cons_zero, List.set_cons_succ]
                refine wpAnyH_take (i := 9) (oi := ⟨some 55, _, _, _, _, _⟩) (v := .slice (some ⟨b3, off3, none⟩) out.length cp3) rfl (by kernel_rfl) (by kernel_rfl) (by kernel_rfl) (fun _ _ _ h => h) (Or.inl ⟨by rfl, ?_⟩) hHeld ?_
                · rintro w ⟨hcz, _⟩
                  go_simp
                try simp only [Act.put, List.setIfInBounds_toArray, List.set_cons_zero, List.set_cons_succ]
                refine wpAnyH_take (i := 10) (oi := ⟨some 56, _, _, _, _, _⟩) (v := .int .i64 (j : Int)) rfl (by kernel_rfl) (by kernel_rfl) (by kernel_rfl) (fun _ _ _ h => h) (Or.inl ⟨by rfl, ?_⟩) hHeld ?_
                · rintro w ⟨hcz, _⟩
                  go_simp
                try simp only [Act.put, List.setIfInBounds_toArray, List.set_cons_zero, List.set_cons_succ]
                refine wpAnyH_take (i := 11) (oi := ⟨some 57, _, _, _, _, _⟩) (v := .slice X z (cp3 - j)) rfl (by kernel_rfl) (by kernel_rfl) (by kernel_rfl) (fun _ _ _ h => h) (Or.inl ⟨by rfl, ?_⟩) hHeld ?_
                · rintro w ⟨hcz, _⟩
                  go_simp
                try simp only [Act.put, List.setIfInBounds_toArray, List.set_cons_zero, List.set_cons_succ]
                refine wpAnyH_ready (rs := [0, 7]) (by kernel_rfl) (by simp) ?_
                refine AllReadyH.cons (o := ⟨some 46, _, _, _, _, _⟩) rfl (fun K hK => ?_) (AllReadyH.cons (o := ⟨some 53, _, _, _, _, _⟩) rfl (fun K hK => ?_) AllReadyH.nil)
                · go_simp
                  have hbz := hdz.alloc hdz.size (.cells #[] 27)
                  have hownN := own_none w3.drew w3.heap.size 27 1 hdz.size
                  refine hK.out _ _ ⟨cell_below hbz hp3 y1, hbz⟩ (fun hHeld => ?_)
                  clear hK K
                  try simp only [Act.put, List.setIfInBounds_toArray, List.set_cons_zero, List.set_cons_succ]
                  refine wpAnyH_ready (rs := [4, 7]) (by kernel_rfl) (by simp) ?_
                  refine AllReadyH.cons (o := ⟨some 50, _, _, _, _, _⟩) rfl (fun K hK => ?_) (AllReadyH.cons (o := ⟨some 53, _, _, _, _, _⟩) rfl (fun K hK => ?_) AllReadyH.nil)
                  · refine step_app (by rfl) (by rfl) slty_u64k hownN (by rfl) (by rfl) ((hr1.below hbz).more hbz.size) (one_take _ _) (by omega) hbz.size ?_
                    intro v4 w4 hown4 hgr4
                    have hb4 := hbz.trans hgr4.below
                    refine hK.out _ _ ⟨cell_below hb4 hp3 y1, hb4⟩ (fun hHeld => ?_)
                    clear hK K
                    try simp only [Act.put, List.setIfInBounds_toArray, List.set_cons_zero, List.set_cons_succ]
                    refine wpAnyH_ready (rs := [7]) (by kernel_rfl) (by simp) ?_
                    refine AllReadyH.cons (o := ⟨some 53, _, _, _, _, _⟩) rfl (fun K hK => ?_) AllReadyH.nil
                    go_simp
                    have hblk := Blk.new w4 27 #[.int .u64 o.key]
                    have hownT := hown4.alloc (.cells #[.int .u64 o.key] 27)
                    have hbT := hb4.alloc hb4.size (.cells #[.int .u64 o.key] 27)
                    refine hK.out _ _ ⟨cell_below hbT hp3 y1, hbT⟩ (fun hHeld => ?_)
                    clear hK K
                    try simp only [Act.put, List.setIfInBounds_toArray, List.set_cons_zero, List.set_cons_succ]
                    refine wpAnyH_ready (rs := [8]) (by kernel_rfl) (by simp) ?_
                    refine AllReadyH.cons (o := ⟨some 54, _, _, _, _, _⟩) rfl (fun K hK => ?_) AllReadyH.nil
                    refine step_app (by rfl) (by rfl) slty_u64k hownT (by rfl) (by rfl) (reads_blk hblk (by rfl)) (by rfl) (by omega) hbT.size ?_
                    intro v8 w8 hown8 hgr8
                    have hb8 := hbT.trans hgr8.below
                    refine hK.out _ _ ⟨cell_below hb8 hp3 y1, hb8⟩ (fun hHeld => ?_)
                    clear hK K
                    try simp only [Act.put, List.setIfInBounds_toArray, List.set_cons_zero, List.set_cons_succ]
                    refine wpAnyH_ready (rs := [12]) (by kernel_rfl) (by simp) ?_
                    refine AllReadyH.cons (o := ⟨some 58, _, _, _, _, _⟩) rfl (fun K hK => ?_) AllReadyH.nil
                    refine step_app (by rfl) (by rfl) slty_u64k hown8 (by rfl) (by rfl) ((hr2.below hb8).more hb8.size) (one_drop _ _) (by omega) hb8.size ?_
                    intro v12 w12 hown12 hgr12
                    have hb12 := hb8.trans hgr12.below
                    refine hK.out _ _ ⟨cell_below hb12 hp3 y1, hb12⟩ (fun hHeld => ?_)
                    clear hK K
                    try simp only [Act.put, List.setIfInBounds_toArray, List.set_cons_zero, List.set_cons_succ]
                    refine wpAnyH_take (i := 13) (oi := ⟨some 3, _, _, _, _, _⟩) (v := v12) rfl (by kernel_rfl) (by kernel_rfl) (by kernel_rfl) (fun _ _ _ h => h) (Or.inl ⟨by rfl, ?_⟩) hHeld ?_
                    · rintro w ⟨hcz, _⟩
                      go_simp
                    try simp only [Act.put, List.setIfInBounds_toArray, List.set_cons_zero, List.set_cons_succ]
                    refine wpAnyH_done (by kernel_rfl) ?_ _
                    go_wp2
                    go_roundw
                    case rel => exact ⟨k + 1, by omega, by go_num, by rw [hkeep]; exact own_lower (own_eq hown12 (by simp; omega) (keyVs_ins _ _ _)) (Nat.le_trans hBV.size hbc2.size), hBV.trans ((hbc2.trans (hb12.mono hbc2.size)).mono hBV.size)⟩
                    case measure => simp [intOf]; omega
                  · go_simp
                    have hblk0 := Blk.new (w3.drew.alloc (.cells #[] 27)) 27 #[.int .u64 o.key]
                    rw [World.size_alloc] at hblk0
                    have hownN2 := hownN.alloc (.cells #[.int .u64 o.key] 27)
                    have hbz := hbz.alloc hbz.size (.cells #[.int .u64 o.key] 27)
                    refine hK.out _ _ ⟨cell_below hbz hp3 y1, hbz⟩ (fun hHeld => ?_)
                    clear hK K
                    try simp only [Act.put, List.setIfInBounds_toArray, List.set_cons_zero, List.set_cons_succ]
                    refine wpAnyH_ready (rs := [4]) (by kernel_rfl) (by simp) ?_
                    refine AllReadyH.cons (o := ⟨some 50, _, _, _, _, _⟩) rfl (fun K hK => ?_) AllReadyH.nil
                    refine step_app (by rfl) (by rfl) slty_u64k hownN2 (by rfl) (by rfl) ((hr1.below hbz).more hbz.size) (one_take _ _) (by omega) hbz.size ?_
                    intro v4 w4 hown4 hgr4
                    have hb4 := hbz.trans hgr4.below
                    have hblk := hblk0.grown hgr4.by_ (by simp [Value.ownBlock])
                    have hownT := hown4
                    have hbT := hb4
                    refine hK.out _ _ ⟨cell_below hb4 hp3 y1, hb4⟩ (fun hHeld => ?_)
                    clear hK K
                    try simp only [Act.put, List.setIfInBounds_toArray, List.set_cons_zero, List.set_cons_succ]
                    refine wpAnyH_ready (rs := [8]) (by kernel_rfl) (by simp) ?_
                    refine AllReadyH.cons (o := ⟨some 54, _, _, _, _, _⟩) rfl (fun K hK => ?_) AllReadyH.nil
                    refine step_app (by rfl) (by rfl) slty_u64k hownT (by rfl) (by rfl) (reads_blk hblk (by rfl)) (by rfl) (by omega) hbT.size ?_
                    intro v8 w8 hown8 hgr8
                    have hb8 := hbT.trans hgr8.below
                    refine hK.out _ _ ⟨cell_below hb8 hp3 y1, hb8⟩ (fun hHeld => ?_)
                    clear hK K
                    try simp only [Act.put, List.setIfInBounds_toArray, List.set_cons_zero, List.set_cons_succ]
                    refine wpAnyH_ready (rs := [12]) (by kernel_rfl) (by simp) ?_
                    refine AllReadyH.cons (o := ⟨some 58, _, _, _, _, _⟩) rfl (fun K hK => ?_) AllReadyH.nil
                    refine step_app (by rfl) (by rfl) slty_u64k hown8 (by rfl) (by rfl) ((hr2.below hb8).more hb8.size) (one_drop _ _) (by omega) hb8.size ?_
                    intro v12 w12 hown12 hgr12
                    have hb12 := hb8.trans hgr12.below
                    refine hK.out _ _ ⟨cell_below hb12 hp3 y1, hb12⟩ (fun hHeld => ?_)
                    clear hK K
                    try simp only [Act.put, List.setIfInBounds_toArray, List.set_cons_zero, List.set_cons_succ]
                    refine wpAnyH_take (i := 13) (oi := ⟨some 3, _, _, _, _, _⟩) (v := v12) rfl (by kernel_rfl) (by kernel_rfl) (by kernel_rfl) (fun _ _ _ h => h) (Or.inl ⟨by rfl, ?_⟩) hHeld ?_
                    · rintro w ⟨hcz, _⟩
                      go_simp
                    try simp only [Act.put, List.setIfInBounds_toArray, List.set_cons_zero, List.set_cons_succ]
                    refine wpAnyH_done (by kernel_rfl) ?_ _
                    go_wp2
                    go_roundw
                    case rel => exact ⟨k + 1, by omega, by go_num, by rw [hkeep]; exact own_lower (own_eq hown12 (by simp; omega) (keyVs_ins _ _ _)) (Nat.le_trans hBV.size hbc2.size), hBV.trans ((hbc2.trans (hb12.mono hbc2.size)).mono hBV.size)⟩
                    case measure => simp [intOf]; omega
                · go_simp
                  have hblk0 := (Blk.new w3.drew 27 #[.int .u64 o.key]).alloc (.cells #[] 27)
                  have hbz0 := hdz.alloc hdz.size (.cells #[.int .u64 o.key] 27)
                  refine hK.out _ _ ⟨cell_below hbz0 hp3 y1, hbz0⟩ (fun hHeld => ?_)
                  clear hK K
                  try simp only [Act.put, List.setIfInBounds_toArray, List.set_cons_zero, List.set_cons_succ]
                  refine wpAnyH_ready (rs := [0]) (by kernel_rfl) (by simp) ?_
                  refine AllReadyH.cons (o := ⟨some 46, _, _, _, _, _⟩) rfl (fun K hK => ?_) AllReadyH.nil
                  go_simp
                  have hownN := own_none (w3.drew.alloc (.cells #[.int .u64 o.key] 27)) w3.heap.size 27 1 hbz0.size
                  rw [World.size_alloc] at hownN
                  have hbz := hbz0.alloc hbz0.size (.cells #[] 27)
                  refine hK.out _ _ ⟨cell_below hbz hp3 y1, hbz⟩ (fun hHeld => ?_)
                  clear hK K
                  try simp only [Act.put, List.setIfInBounds_toArray, List.set_cons_zero, List.set_cons_succ]
                  refine wpAnyH_ready (rs := [4]) (by kernel_rfl) (by simp) ?_
                  refine AllReadyH.cons (o := ⟨some 50, _, _, _, _, _⟩) rfl (fun K hK => ?_) AllReadyH.nil
                  refine step_app (by rfl) (by rfl) slty_u64k hownN (by rfl) (by rfl) ((hr1.below hbz).more hbz.size) (one_take _ _) (by omega) hbz.size ?_
                  intro v4 w4 hown4 hgr4
                  have hb4 := hbz.trans hgr4.below
                  have hblk := hblk0.grown hgr4.by_ (by simp [Value.ownBlock])
                  have hownT := hown4
                  have hbT := hb4
                  refine hK.out _ _ ⟨cell_below hb4 hp3 y1, hb4⟩ (fun hHeld => ?_)
                  clear hK K
                  try simp only [Act.put, List.setIfInBounds_toArray, List.set_cons_zero, List.set_cons_succ]
                  refine wpAnyH_ready (rs := [8]) (by kernel_rfl) (by simp) ?_
                  refine AllReadyH.cons (o := ⟨some 54, _, _, _, _, _⟩) rfl (fun K hK => ?_) AllReadyH.nil
                  refine step_app (by rfl) (by rfl) slty_u64k hownT (by rfl) (by rfl) (reads_blk hblk (by rfl)) (by rfl) (by omega) hbT.size ?_
                  intro v8 w8 hown8 hgr8
                  have hb8 := hbT.trans hgr8.below
                  refine hK.out _ _ ⟨cell_below hb8 hp3 y1, hb8⟩ (fun hHeld => ?_)
                  clear hK K
                  try simp only [Act.put, List.setIfInBounds_toArray, List.set_cons_zero, List.set_cons_succ]
                  refine wpAnyH_ready (rs := [12]) (by kernel_rfl) (by simp) ?_
                  refine AllReadyH.cons (o := ⟨some 58, _, _, _, _, _⟩) rfl (fun K hK => ?_) AllReadyH.nil
                  refine step_app (by rfl) (by rfl) slty_u64k hown8 (by rfl) (by rfl) ((hr2.below hb8).more hb8.size) (one_drop _ _) (by omega) hb8.size ?_
                  intro v12 w12 hown12 hgr12
                  have hb12 := hb8.trans hgr12.below
                  refine hK.out _ _ ⟨cell_below hb12 hp3 y1, hb12⟩ (fun hHeld => ?_)
                  clear hK K
                  try simp only [Act.put, List.setIfInBounds_toArray, List.set_cons_zero, List.set_cons_succ]
                  refine wpAnyH_take (i := 13) (oi := ⟨some 3, _, _, _, _, _⟩) (v := v12) rfl (by kernel_rfl) (by kernel_rfl) (by kernel_rfl) (fun _ _ _ h => h) (Or.inl ⟨by rfl, ?_⟩) hHeld ?_
                  · rintro w ⟨hcz, _⟩
                    go_simp
                  try simp only [Act.put, List.setIfInBounds_toArray, List.set_cons_zero, List.set_cons_succ]
                  refine wpAnyH_done (by kernel_rfl) ?_ _
                  go_wp2
                  go_roundw
                  case rel => exact ⟨k + 1, by omega, by go_num, by rw [hkeep]; exact own_lower (own_eq hown12 (by simp; omega) (keyVs_ins _ _ _)) (Nat.le_trans hBV.size hbc2.size), hBV.trans ((hbc2.trans (hb12.mono hbc2.size)).mono hBV.size)⟩
                  case measure => simp [intOf]; omega
          · obtain rfl : j = out.length := by omega
            have hjo' : ¬ (out.length : Int) < (out.length : Int) := by omega
            have hd : decide (out.length < out.length) = false := decide_eq_false (by omega)
            have hdI : decide ((out.length : Int) < (out.length : Int)) = false := decide_eq_false hjo'
            have heI : ((out.length : Int) == (out.length : Int)) = true := by rw [beq_iff_eq]
            go_wp2
            go_quiet (fail)
            go_wp2
            obtain ⟨V, hV⟩ : ∃ V, V = (W.drewN m).drewN nq := ⟨_, rfl⟩
            rw [← hV]
            have x0 : V.cell? ⟨p, 0, none⟩ = some (.int .i64 o.kind) := by rw [hV]; exact x0
            have x1 : V.cell? ⟨p, 1, none⟩ = some (.int .u64 o.key) := by rw [hV]; exact x1
            have x2 : V.cell? ⟨p, 2, none⟩ = some (.int .u64 o.val) := by rw [hV]; exact x2
            have x3 : V.cell? ⟨p, 3, none⟩ = some (.int .u64 o.hash) := by rw [hV]; exact x3
            have x4 : V.cell? ⟨p, 4, none⟩ = some (.int .i64 o.iter) := by rw [hV]; exact x4
            have hBV : Below w.heap.size w V := by rw [hV]; exact below_drewN (below_drewN hBn _) _
            have hownV : V.ownsRow w.heap.size 27 1 (.slice A3 out.length cp3) out.length (keyVs out) := by rw [hV]; exact hown1
            have hBVV := Below.refl V.heap.size V
            have hz : True := trivial
            clear hV hown1 hBn
            cases hq : keyedP o.kind with
            | false =>
              have HK2 := Lib.hid (fun U => show Calls Try.prog 13 #[.agg #[.int .i64 o.kind, .int .u64 o.key, .int .u64 o.val, .int .u64 o.hash, .int .i64 o.iter]] U (fun e w' => e = .returned (.bool false) ∧ Below U.heap.size U w') from by have := HK.out U; rw [hq] at this; exact this)
              refine wp_region_held_drew (S := fun w' => (w'.cell? ⟨p, 0, none⟩ = some (.int .i64 o.kind) ∧ w'.cell? ⟨p, 1, none⟩ = some (.int .u64 o.key) ∧ w'.cell? ⟨p, 2, none⟩ = some (.int .u64 o.val) ∧ w'.cell? ⟨p, 3, none⟩ = some (.int .u64 o.hash) ∧ w'.cell? ⟨p, 4, none⟩ = some (.int .i64 o.iter)) ∧ Below V.heap.size V w') (by kernel_rfl) ⟨⟨x0, x1, x2, x3, x4⟩, hBVV.drew⟩ (fun hHeld => ?_)
              refine wpAnyH_take (i := 0) (oi := ⟨some 29, _, _, _, _, _⟩) (v := .agg #[.int .i64 o.kind, .int .u64 o.key, .int .u64 o.val, .int .u64 o.hash, .int .i64 o.iter]) rfl (by kernel_rfl) (by kernel_rfl) (by kernel_rfl) (fun _ _ _ h => h) (Or.inl ⟨by rfl, ?_⟩) hHeld ?_
              · rintro w ⟨⟨_, _, _, _, _⟩, _⟩
                go_simp
              try simp only [Act.put, List.setIfInBounds_toArray, List.set_cons_zero, List.set_cons_succ]
              refine wpAnyH_ready (rs := [1]) (by kernel_rfl) (by simp) ?_
              refine AllReadyH.cons (o := ⟨some 30, _, _, _, _, _⟩) rfl (fun K hK => ?_) AllReadyH.nil
              go_simp
              refine (HK2.out _).mono ?_
              rintro e w3 ⟨rfl, hbc⟩
              go_wp2_with fail
              refine hK.out _ _ ⟨⟨cell_at hbc x0, cell_at hbc x1, cell_at hbc x2, cell_at hbc x3, cell_at hbc x4⟩, below_next hbc hBVV.drew⟩ (fun hHeld => ?_)
              clear hK K
              try simp only [Act.put, List.setIfInBounds_toArray, List.set_cons_zero, List.set_cons_succ]
              refine wpAnyH_take (i := 2) (oi := ⟨some 31, _, _, _, _, _⟩) (v := .bool false) rfl (by kernel_rfl) (by kernel_rfl) (by kernel_rfl) (fun _ _ _ h => h) (Or.inl ⟨by rfl, fun w _ => by go_simp⟩) hHeld ?_
              try simp only [Act.put, List.setIfInBounds_toArray, List.set_cons_zero, List.set_cons_succ]
              refine takeSkip (i := 3) (oi := ⟨some 32, _, _, _, _, _⟩) rfl (by kernel_rfl) (by kernel_rfl) (by kernel_rfl) (fun _ _ _ h => h) (by rfl) hHeld ?_
              try simp only [Act.put, List.setIfInBounds_toArray, List.set_cons_zero, List.set_cons_succ]
              refine takeSkip (i := 4) (oi := ⟨some 33, _, _, _, _, _⟩) rfl (by kernel_rfl) (by kernel_rfl) (by kernel_rfl) (fun _ _ _ h => h) (by rfl) hHeld ?_
              try simp only [Act.put, List.setIfInBounds_toArray, List.set_cons_zero, List.set_cons_succ]
              refine takeSkip (i := 5) (oi := ⟨some 34, _, _, _, _, _⟩) rfl (by kernel_rfl) (by kernel_rfl) (by kernel_rfl) (fun _ _ _ h => h) (by rfl) hHeld ?_
              try simp only [Act.put, List.setIfInBounds_toArray, List.set_cons_zero, List.set_cons_succ]
              refine takeSkip (i := 6) (oi := ⟨some 35, _, _, _, _, _⟩) rfl (by kernel_rfl) (by kernel_rfl) (by kernel_rfl) (fun _ _ _ h => h) (by rfl) hHeld ?_
              try simp only [Act.put, List.setIfInBounds_toArray, List.set_cons_zero, List.set_cons_succ]
              refine takeSkip (i := 7) (oi := ⟨some 36, _, _, _, _, _⟩) rfl (by kernel_rfl) (by kernel_rfl) (by kernel_rfl) (fun _ _ _ h => h) (by rfl) hHeld ?_
              try simp only [Act.put, List.setIfInBounds_toArray, List.set_cons_zero, List.set_cons_succ]
              refine takeSkip (i := 8) (oi := ⟨some 37, _, _, _, _, _⟩) rfl (by kernel_rfl) (by kernel_rfl) (by kernel_rfl) (fun _ _ _ h => h) (by rfl) hHeld ?_
              try simp only [Act.put, List.setIfInBounds_toArray, List.set_cons_zero, List.set_cons_succ]
              refine takeSkip (i := 9) (oi := ⟨some 38, _, _, _, _, _⟩) rfl (by kernel_rfl) (by kernel_rfl) (by kernel_rfl) (fun _ _ _ h => h) (by rfl) hHeld ?_
              try simp only [Act.put, List.setIfInBounds_toArray, List.set_cons_zero, List.set_cons_succ]
              refine takeSkip (i := 10) (oi := ⟨some 39, _, _, _, _, _⟩) rfl (by kernel_rfl) (by kernel_rfl) (by kernel_rfl) (fun _ _ _ h => h) (by rfl) hHeld ?_
              try simp only [Act.put, List.setIfInBounds_toArray, List.set_cons_zero, List.set_cons_succ]
              refine takeSkip (i := 11) (oi := ⟨some 40, _, _, _, _, _⟩) rfl (by kernel_rfl) (by kernel_rfl) (by kernel_rfl) (fun _ _ _ h => h) (by rfl) hHeld ?_
              try simp only [Act.put, List.setIfInBounds_toArray, List.set_cons_zero, List.set_cons_succ]
              refine takeSkip (i := 12) (oi := ⟨some 41, _, _, _, _, _⟩) rfl (by kernel_rfl) (by kernel_rfl) (by kernel_rfl) (fun _ _ _ h => h) (by rfl) hHeld ?_
              try simp only [Act.put, List.setIfInBounds_toArray, List.set_cons_zero, List.set_cons_succ]
              refine takeSkip (i := 13) (oi := ⟨some 42, _, _, _, _, _⟩) rfl (by kernel_rfl) (by kernel_rfl) (by kernel_rfl) (fun _ _ _ h => h) (by rfl) hHeld ?_
              try simp only [Act.put, List.setIfInBounds_toArray, List.set_cons_zero, List.set_cons_succ]
              refine takeSkip (i := 14) (oi := ⟨some 43, _, _, _, _, _⟩) rfl (by kernel_rfl) (by kernel_rfl) (by kernel_rfl) (fun _ _ _ h => h) (by rfl) hHeld ?_
              try simp only [Act.put, List.setIfInBounds_toArray, List.set_cons_zero, List.set_cons_succ]
              refine takeSkip (i := 15) (oi := ⟨some 44, _, _, _, _, _⟩) rfl (by kernel_rfl) (by kernel_rfl) (by kernel_rfl) (fun _ _ _ h => h) (by rfl) hHeld ?_
              try simp only [Act.put, List.setIfInBounds_toArray, List.set_cons_zero, List.set_cons_succ]
              refine wpAnyH_take (i := 16) (oi := ⟨some 45, _, _, _, _, _⟩) (v := .bool false) rfl (by kernel_rfl) (by kernel_rfl) (by kernel_rfl) (fun _ _ _ h => h) (Or.inl ⟨by rfl, fun w _ => by go_simp⟩) hHeld ?_
              try simp only [Act.put, List.setIfInBounds_toArray, List.set_cons_zero, List.set_cons_succ]
              refine wpAnyH_done (by kernel_rfl) ?_ _

              go_wp2
              have hbc2 : Below V.heap.size V w3 := below_next hbc hBVV.drew
              have hkeep : keysR (l.take (k + 1)) = out := by
                rw [HSN.out, insR_at]
                rw [hq]; rfl
              go_roundw
              case rel => exact ⟨k + 1, by omega, by go_num, by rw [hkeep]; exact own_below hownV hbc2 (Nat.le_refl _), hBV.trans (hbc2.mono hBV.size)⟩
              case measure => simp [intOf]; omega
            | true =>
              have HK2 := Lib.hid (fun U => show Calls Try.prog 13 #[.agg #[.int .i64 o.kind, .int .u64 o.key, .int .u64 o.val, .int .u64 o.hash, .int .i64 o.iter]] U (fun e w' => e = .returned (.bool true) ∧ Below U.heap.size U w') from by have := HK.out U; rw [hq] at this; exact this)
              refine wp_region_held_drew (S := fun w' => (w'.cell? ⟨p, 0, none⟩ = some (.int .i64 o.kind) ∧ w'.cell? ⟨p, 1, none⟩ = some (.int .u64 o.key) ∧ w'.cell? ⟨p, 2, none⟩ = some (.int .u64 o.val) ∧ w'.cell? ⟨p, 3, none⟩ = some (.int .u64 o.hash) ∧ w'.cell? ⟨p, 4, none⟩ = some (.int .i64 o.iter)) ∧ Below V.heap.size V w') (by kernel_rfl) ⟨⟨x0, x1, x2, x3, x4⟩, hBVV.drew⟩ (fun hHeld => ?_)
              refine wpAnyH_take (i := 0) (oi := ⟨some 29, _, _, _, _, _⟩) (v := .agg #[.int .i64 o.kind, .int .u64 o.key, .int .u64 o.val, .int .u64 o.hash, .int .i64 o.iter]) rfl (by kernel_rfl) (by kernel_rfl) (by kernel_rfl) (fun _ _ _ h => h) (Or.inl ⟨by rfl, ?_⟩) hHeld ?_
              · rintro w ⟨⟨_, _, _, _, _⟩, _⟩
                go_simp
              try simp only [Act.put, List.setIfInBounds_toArray, List.set_cons_zero, List.set_cons_succ]
              refine wpAnyH_ready (rs := [1]) (by kernel_rfl) (by simp) ?_
              refine AllReadyH.cons (o := ⟨some 30, _, _, _, _, _⟩) rfl (fun K hK => ?_) AllReadyH.nil
              go_simp
              refine (HK2.out _).mono ?_
              rintro e w3 ⟨rfl, hbc⟩
              go_wp2_with fail
              refine hK.out _ _ ⟨⟨cell_at hbc x0, cell_at hbc x1, cell_at hbc x2, cell_at hbc x3, cell_at hbc x4⟩, below_next hbc hBVV.drew⟩ (fun hHeld => ?_)
              clear hK K
              try simp only [Act.put, List.setIfInBounds_toArray, List.set_cons_zero, List.set_cons_succ]
              refine wpAnyH_take (i := 2) (oi := ⟨some 31, _, _, _, _, _⟩) (v := .bool true) rfl (by kernel_rfl) (by kernel_rfl) (by kernel_rfl) (fun _ _ _ h => h) (Or.inl ⟨by rfl, fun w _ => by go_simp⟩) hHeld ?_
              try simp only [Act.put, List.setIfInBounds_toArray, List.set_cons_zero, List.set_cons_succ]
              refine wpAnyH_take (i := 3) (oi := ⟨some 32, _, _, _, _, _⟩) (v := .int .i64 (out.length : Int)) rfl (by kernel_rfl) (by kernel_rfl) (by kernel_rfl) (fun _ _ _ h => h) (Or.inl ⟨by rfl, fun w _ => by go_simp⟩) hHeld ?_
              try simp only [Act.put, List.setIfInBounds_toArray, List.set_cons_zero, List.set_cons_succ]
              refine wpAnyH_take (i := 4) (oi := ⟨some 33, _, _, _, _, _⟩) (v := .slice A3 out.length cp3) rfl (by kernel_rfl) (by kernel_rfl) (by kernel_rfl) (fun _ _ _ h => h) (Or.inl ⟨by rfl, fun w _ => by go_simp⟩) hHeld ?_
              try simp only [Act.put, List.setIfInBounds_toArray, List.set_cons_zero, List.set_cons_succ]
              refine wpAnyH_take (i := 5) (oi := ⟨some 34, _, _, _, _, _⟩) (v := .int .i64 (out.length : Int)) rfl (by kernel_rfl) (by kernel_rfl) (by kernel_rfl) (fun _ _ _ h => h) (Or.inl ⟨by rfl, fun w _ => by go_simp⟩) hHeld ?_
              try simp only [Act.put, List.setIfInBounds_toArray, List.set_cons_zero, List.set_cons_succ]
              refine wpAnyH_take (i := 6) (oi := ⟨some 35, _, _, _, _, _⟩) (v := .bool true) rfl (by kernel_rfl) (by kernel_rfl) (by kernel_rfl) (fun _ _ _ h => h) (Or.inl ⟨by rfl, fun w _ => by go_simp⟩) hHeld ?_
              try simp only [Act.put, List.setIfInBounds_toArray, List.set_cons_zero, List.set_cons_succ]
              refine wpAnyH_take (i := 7) (oi := ⟨some 36, _, _, _, _, _⟩) (v := .bool true) rfl (by kernel_rfl) (by kernel_rfl) (by kernel_rfl) (fun _ _ _ h => h) (Or.inl ⟨by rfl, fun w _ => by go_simp⟩) hHeld ?_
              try simp only [Act.put, List.setIfInBounds_toArray, List.set_cons_zero, List.set_cons_succ]
              refine takeSkip (i := 8) (oi := ⟨some 37, _, _, _, _, _⟩) rfl (by kernel_rfl) (by kernel_rfl) (by kernel_rfl) (fun _ _ _ h => h) (by rfl) hHeld ?_
              try simp only [Act.put, List.setIfInBounds_toArray, List.set_cons_zero, List.set_cons_succ]
              refine takeSkip (i := 9) (oi := ⟨some 38, _, _, _, _, _⟩) rfl (by kernel_rfl) (by kernel_rfl) (by kernel_rfl) (fun _ _ _ h => h) (by rfl) hHeld ?_
              try simp only [Act.put, List.setIfInBounds_toArray, List.set_cons_zero, List.set_cons_succ]
              refine takeSkip (i := 10) (oi := ⟨some 39, _, _, _, _, _⟩) rfl (by kernel_rfl) (by kernel_rfl) (by kernel_rfl) (fun _ _ _ h => h) (by rfl) hHeld ?_
              try simp only [Act.put, List.setIfInBounds_toArray, List.set_cons_zero, List.set_cons_succ]
              refine takeSkip (i := 11) (oi := ⟨some 40, _, _, _, _, _⟩) rfl (by kernel_rfl) (by kernel_rfl) (by kernel_rfl) (fun _ _ _ h => h) (by rfl) hHeld ?_
              try simp only [Act.put, List.setIfInBounds_toArray, List.set_cons_zero, List.set_cons_succ]
              refine takeSkip (i := 12) (oi := ⟨some 41, _, _, _, _, _⟩) rfl (by kernel_rfl) (by kernel_rfl) (by kernel_rfl) (fun _ _ _ h => h) (by rfl) hHeld ?_
              try simp only [Act.put, List.setIfInBounds_toArray, List.set_cons_zero, List.set_cons_succ]
              refine takeSkip (i := 13) (oi := ⟨some 42, _, _, _, _, _⟩) rfl (by kernel_rfl) (by kernel_rfl) (by kernel_rfl) (fun _ _ _ h => h) (by rfl) hHeld ?_
              try simp only [Act.put, List.setIfInBounds_toArray, List.set_cons_zero, List.set_cons_succ]
              refine takeSkip (i := 14) (oi := ⟨some 43, _, _, _, _, _⟩) rfl (by kernel_rfl) (by kernel_rfl) (by kernel_rfl) (fun _ _ _ h => h) (by rfl) hHeld ?_
              try simp only [Act.put, List.setIfInBounds_toArray, List.set_cons_zero, List.set_cons_succ]
              refine wpAnyH_take (i := 15) (oi := ⟨some 44, _, _, _, _, _⟩) (v := .bool true) rfl (by kernel_rfl) (by kernel_rfl) (by kernel_rfl) (fun _ _ _ h => h) (Or.inl ⟨by rfl, fun w _ => by go_simp⟩) hHeld ?_
              try simp only [Act.put, List.setIfInBounds_toArray, List.set_cons_zero, List.set_cons_succ]
              refine wpAnyH_take (i := 16) (oi := ⟨some 45, _, _, _, _, _⟩) (v := .bool true) rfl (by kernel_rfl) (by kernel_rfl) (by kernel_rfl) (fun _ _ _ h => h) (Or.inl ⟨by rfl, fun w _ => by go_simp⟩) hHeld ?_
              try simp only [Act.put, List.setIfInBounds_toArray, List.set_cons_zero, List.set_cons_succ]
              refine wpAnyH_done (by kernel_rfl) ?_ _
              go_wp2
              have hbc2 : Below V.heap.size V w3 := below_next hbc hBVV.drew
              have hkeep : keysR (l.take (k + 1)) = out.take out.length ++ ([o.key] ++ out.drop out.length) := by
                rw [HSN.out, insR_at]
                rw [← HSp.out, if_pos]; simp [hq]
              have y1 := cell_at hbc x1
              have hp3 := World.block_lt_of_cell? w3 _ y1
              have hown3 := own_below hownV hbc2 (Nat.le_refl _)
              obtain ⟨X, hs1, hr2, hs2, hr1⟩ := cut_own (t := 23) Try.underlying23 size_u64k hown3 (j := out.length) (by omega)
              obtain ⟨z, hz⟩ : ∃ z, z = out.length - out.length := ⟨_, rfl⟩
              rw [← hz] at hs1 hr2
              have hz1 : z + out.length ≤ out.length := by omega
              have hz2 : out.length ≤ z + out.length := by omega
              clear hz
              have hdz : Below w3.heap.size w3 w3.drew := (Below.refl _ _).drew
              clear hown3 x0 x1 x2 x3 x4
              refine wp_region_held_drew (S := fun w' => w'.cell? ⟨p, 1, none⟩ = some (.int .u64 o.key) ∧ Below w3.heap.size w3 w') (by kernel_rfl) ⟨y1, hdz⟩ (fun hHeld => ?_)
              refine wpAnyH_take (i := 1) (oi := ⟨some 47, _, _, _, _, _⟩) (v := .slice A3 out.length cp3) rfl (by kernel_rfl) (by kernel_rfl) (by kernel_rfl) (fun _ _ _ h => h) (Or.inl ⟨by rfl, ?_⟩) hHeld ?_
              · rintro w ⟨hcz, _⟩
                go_simp
              try simp only [Act.put, List.setIfInBounds_toArray, List.set_cons_zero, List.set_cons_succ]
              refine wpAnyH_take (i := 2) (oi := ⟨some 48, _, _, _, _, _⟩) (v := .int .i64 (out.length : Int)) rfl (by kernel_rfl) (by kernel_rfl) (by kernel_rfl) (fun _ _ _ h => h) (Or.inl ⟨by rfl, ?_⟩) hHeld ?_
              · rintro w ⟨hcz, _⟩
                go_simp
              try simp only [Act.put, List.setIfInBounds_toArray, List.set_cons_zero, List.set_cons_succ]
              refine wpAnyH_take (i := 3) (oi := ⟨some 49, _, _, _, _, _⟩) (v := .slice A3 out.length cp3) rfl (by kernel_rfl) (by kernel_rfl) (by kernel_rfl) (fun _ _ _ h => h) (Or.inl ⟨by rfl, ?_⟩) hHeld ?_
              · rintro w ⟨hcz, _⟩
                go_simp
              try simp only [Act.put, List.setIfInBounds_toArray, List.set_cons_zero, List.set_cons_succ]
              refine wpAnyH_take (i := 5) (oi := ⟨some 51, _, _, _, _, _⟩) (v := .pointer (some ⟨p, 1, none⟩)) rfl (by kernel_rfl) (by kernel_rfl) (by kernel_rfl) (fun _ _ _ h => h) (Or.inl ⟨by rfl, ?_⟩) hHeld ?_
              · rintro w ⟨hcz, _⟩
                go_simp
              try simp only [Act.put, List.setIfInBounds_toArray, List.set_cons_zero, List.set_cons_succ]
              refine wpAnyH_take (i := 6) (oi := ⟨some 52, _, _, _, _, _⟩) (v := .int .u64 o.key) rfl (by kernel_rfl) (by kernel_rfl) (by kernel_rfl) (fun _ _ _ h => h) (Or.inl ⟨by rfl, ?_⟩) hHeld ?_
              · rintro w ⟨hcz, _⟩
                go_simp
              try simp only [Act.put, List.setIfInBounds_toArray, List.set_cons_zero, List.set_cons_succ]
              refine wpAnyH_take (i := 9) (oi := ⟨some 55, _, _, _, _, _⟩) (v := .slice A3 out.length cp3) rfl (by kernel_rfl) (by kernel_rfl) (by kernel_rfl) (fun _ _ _ h => h) (Or.inl ⟨by rfl, ?_⟩) hHeld ?_
              · rintro w ⟨hcz, _⟩
                go_simp
              try simp only [Act.put, List.setIfInBounds_toArray, List.set_cons_zero, List.set_cons_succ]
              refine wpAnyH_take (i := 10) (oi := ⟨some 56, _, _, _, _, _⟩) (v := .int .i64 (out.length : Int)) rfl (by kernel_rfl) (by kernel_rfl) (by kernel_rfl) (fun _ _ _ h => h) (Or.inl ⟨by rfl, ?_⟩) hHeld ?_
              · rintro w ⟨hcz, _⟩
                go_simp
              try simp only [Act.put, List.setIfInBounds_toArray, List.set_cons_zero, List.set_cons_succ]
              refine wpAnyH_take (i := 11) (oi := ⟨some 57, _, _, _, _, _⟩) (v := .slice X z (cp3 - out.length)) rfl (by kernel_rfl) (by kernel_rfl) (by kernel_rfl) (fun _ _ _ h => h) (Or.inl ⟨by rfl, ?_⟩) hHeld ?_
              · rintro w ⟨hcz, _⟩
                go_simp
              try simp only [Act.put, List.setIfInBounds_toArray, List.set_cons_zero, List.set_cons_succ]
              refine wpAnyH_ready (rs := [0, 7]) (by kernel_rfl) (by simp) ?_
              refine AllReadyH.cons (o := ⟨some 46, _, _, _, _, _⟩) rfl (fun K hK => ?_) (AllReadyH.cons (o := ⟨some 53, _, _, _, _, _⟩) rfl (fun K hK => ?_) AllReadyH.nil)
              · go_simp
                have hbz := hdz.alloc hdz.size (.cells #[] 27)
                have hownN := own_none w3.drew w3.heap.size 27 1 hdz.size
                refine hK.out _ _ ⟨cell_below hbz hp3 y1, hbz⟩ (fun hHeld => ?_)
                clear hK K
                try simp only [Act.put, List.setIfInBounds_toArray, List.set_cons_zero, List.set_cons_succ]
                refine wpAnyH_ready (rs := [4, 7]) (by kernel_rfl) (by simp) ?_
                refine AllReadyH.cons (o := ⟨some 50, _, _, _, _, _⟩) rfl (fun K hK => ?_) (AllReadyH.cons (o := ⟨some 53, _, _, _, _, _⟩) rfl (fun K hK => ?_) AllReadyH.nil)
                · refine step_app (by rfl) (by rfl) slty_u64k hownN (by rfl) (by rfl) ((hr1.below hbz).more hbz.size) (one_take _ _) (by omega) hbz.size ?_
                  intro v4 w4 hown4 hgr4
                  have hb4 := hbz.trans hgr4.below
                  refine hK.out _ _ ⟨cell_below hb4 hp3 y1, hb4⟩ (fun hHeld => ?_)
                  clear hK K
                  try simp only [Act.put, List.setIfInBounds_toArray, List.set_cons_zero, List.set_cons_succ]
                  refine wpAnyH_ready (rs := [7]) (by kernel_rfl) (by simp) ?_
                  refine AllReadyH.cons (o := ⟨some 53, _, _, _, _, _⟩) rfl (fun K hK => ?_) AllReadyH.nil
                  go_simp
                  have hblk := Blk.new w4 27 #[.int .u64 o.key]
                  have hownT := hown4.alloc (.cells #[.int .u64 o.key] 27)
                  have hbT := hb4.alloc hb4.size (.cells #[.int .u64 o.key] 27)
                  refine hK.out _ _ ⟨cell_below hbT hp3 y1, hbT⟩ (fun hHeld => ?_)
                  clear hK K
                  try simp only [Act.put, List.setIfInBounds_toArray, List.set_cons_zero, List.set_cons_succ]
                  refine wpAnyH_ready (rs := [8]) (by kernel_rfl) (by simp) ?_
                  refine AllReadyH.cons (o := ⟨some 54, _, _, _, _, _⟩) rfl (fun K hK => ?_) AllReadyH.nil
                  refine step_app (by rfl) (by rfl) slty_u64k hownT (by rfl) (by rfl) (reads_blk hblk (by rfl)) (by rfl) (by omega) hbT.size ?_
                  intro v8 w8 hown8 hgr8
                  have hb8 := hbT.trans hgr8.below
                  refine hK.out _ _ ⟨cell_below hb8 hp3 y1, hb8⟩ (fun hHeld => ?_)
                  clear hK K
                  try simp only [Act.put, List.setIfInBounds_toArray, List.set_cons_zero, List.set_cons_succ]
                  refine wpAnyH_ready (rs := [12]) (by kernel_rfl) (by simp) ?_
                  refine AllReadyH.cons (o := ⟨some 58, _, _, _, _, _⟩) rfl (fun K hK => ?_) AllReadyH.nil
                  refine step_app (by rfl) (by rfl) slty_u64k hown8 (by rfl) (by rfl) ((hr2.below hb8).more hb8.size) (one_drop _ _) (by omega) hb8.size ?_
                  intro v12 w12 hown12 hgr12
                  have hb12 := hb8.trans hgr12.below
                  refine hK.out _ _ ⟨cell_below hb12 hp3 y1, hb12⟩ (fun hHeld => ?_)
                  clear hK K
                  try simp only [Act.put, List.setIfInBounds_toArray, List.set_cons_zero, List.set_cons_succ]
                  refine wpAnyH_take (i := 13) (oi := ⟨some 3, _, _, _, _, _⟩) (v := v12) rfl (by kernel_rfl) (by kernel_rfl) (by kernel_rfl) (fun _ _ _ h => h) (Or.inl ⟨by rfl, ?_⟩) hHeld ?_
                  · rintro w ⟨hcz, _⟩
                    go_simp
                  try simp only [Act.put, List.setIfInBounds_toArray, List.set_cons_zero, List.set_cons_succ]
                  refine wpAnyH_done (by kernel_rfl) ?_ _
                  go_wp2
                  go_roundw
                  case rel => exact ⟨k + 1, by omega, by go_num, by rw [hkeep]; exact own_lower (own_eq hown12 (by simp; omega) (keyVs_ins _ _ _)) (Nat.le_trans hBV.size hbc2.size), hBV.trans ((hbc2.trans (hb12.mono hbc2.size)).mono hBV.size)⟩
                  case measure => simp [intOf]; omega
                · go_simp
                  have hblk0 := Blk.new (w3.drew.alloc (.cells #[] 27)) 27 #[.int .u64 o.key]
                  rw [World.size_alloc] at hblk0
                  have hownN2 := hownN.alloc (.cells #[.int .u64 o.key] 27)
                  have hbz := hbz.alloc hbz.size (.cells #[.int .u64 o.key] 27)
                  refine hK.out _ _ ⟨cell_below hbz hp3 y1, hbz⟩ (fun hHeld => ?_)
                  clear hK K
                  try simp only [Act.put, List.setIfInBounds_toArray, List.set_cons_zero, List.set_cons_succ]
                  refine wpAnyH_ready (rs := [4]) (by kernel_rfl) (by simp) ?_
                  refine AllReadyH.cons (o := ⟨some 50, _, _, _, _, _⟩) rfl (fun K hK => ?_) AllReadyH.nil
                  refine step_app (by rfl) (by rfl) slty_u64k hownN2 (by rfl) (by rfl) ((hr1.below hbz).more hbz.size) (one_take _ _) (by omega) hbz.size ?_
                  intro v4 w4 hown4 hgr4
                  have hb4 := hbz.trans hgr4.below
                  have hblk := hblk0.grown hgr4.by_ (by simp [Value.ownBlock])
                  have hownT := hown4
                  have hbT := hb4
                  refine hK.out _ _ ⟨cell_below hb4 hp3 y1, hb4⟩ (fun hHeld => ?_)
                  clear hK K
                  try simp only [Act.put, List.setIfInBounds_toArray, List.set_cons_zero, List.set_cons_succ]
                  refine wpAnyH_ready (rs := [8]) (by kernel_rfl) (by simp) ?_
                  refine AllReadyH.cons (o := ⟨some 54, _, _, _, _, _⟩) rfl (fun K hK => ?_) AllReadyH.nil
                  refine step_app (by rfl) (by rfl) slty_u64k hownT (by rfl) (by rfl) (reads_blk hblk (by rfl)) (by rfl) (by omega) hbT.size ?_
                  intro v8 w8 hown8 hgr8
                  have hb8 := hbT.trans hgr8.below
                  refine hK.out _ _ ⟨cell_below hb8 hp3 y1, hb8⟩ (fun hHeld => ?_)
                  clear hK K
                  try simp only [Act.put, List.setIfInBounds_toArray, List.set_cons_zero, List.set_cons_succ]
                  refine wpAnyH_ready (rs := [12]) (by kernel_rfl) (by simp) ?_
                  refine AllReadyH.cons (o := ⟨some 58, _, _, _, _, _⟩) rfl (fun K hK => ?_) AllReadyH.nil
                  refine step_app (by rfl) (by rfl) slty_u64k hown8 (by rfl) (by rfl) ((hr2.below hb8).more hb8.size) (one_drop _ _) (by omega) hb8.size ?_
                  intro v12 w12 hown12 hgr12
                  have hb12 := hb8.trans hgr12.below
                  refine hK.out _ _ ⟨cell_below hb12 hp3 y1, hb12⟩ (fun hHeld => ?_)
                  clear hK K
                  try simp only [Act.put, List.setIfInBounds_toArray, List.set_cons_zero, List.set_cons_succ]
                  refine wpAnyH_take (i := 13) (oi := ⟨some 3, _, _, _, _, _⟩) (v := v12) rfl (by kernel_rfl) (by kernel_rfl) (by kernel_rfl) (fun _ _ _ h => h) (Or.inl ⟨by rfl, ?_⟩) hHeld ?_
                  · rintro w ⟨hcz, _⟩
                    go_simp
                  try simp only [Act.put, List.setIfInBounds_toArray, List.set_cons_zero, List.set_cons_succ]
                  refine wpAnyH_done (by kernel_rfl) ?_ _
                  go_wp2
                  go_roundw
                  case rel => exact ⟨k + 1, by omega, by go_num, by rw [hkeep]; exact own_lower (own_eq hown12 (by simp; omega) (keyVs_ins _ _ _)) (Nat.le_trans hBV.size hbc2.size), hBV.trans ((hbc2.trans (hb12.mono hbc2.size)).mono hBV.size)⟩
                  case measure => simp [intOf]; omega
              · go_simp
                have hblk0 := (Blk.new w3.drew 27 #[.int .u64 o.key]).alloc (.cells #[] 27)
                have hbz0 := hdz.alloc hdz.size (.cells #[.int .u64 o.key] 27)
                refine hK.out _ _ ⟨cell_below hbz0 hp3 y1, hbz0⟩ (fun hHeld => ?_)
                clear hK K
                try simp only [Act.put, List.setIfInBounds_toArray, List.set_cons_zero, List.set_cons_succ]
                refine wpAnyH_ready (rs := [0]) (by kernel_rfl) (by simp) ?_
                refine AllReadyH.cons (o := ⟨some 46, _, _, _, _, _⟩) rfl (fun K hK => ?_) AllReadyH.nil
                go_simp
                have hownN := own_none (w3.drew.alloc (.cells #[.int .u64 o.key] 27)) w3.heap.size 27 1 hbz0.size
                rw [World.size_alloc] at hownN
                have hbz := hbz0.alloc hbz0.size (.cells #[] 27)
                refine hK.out _ _ ⟨cell_below hbz hp3 y1, hbz⟩ (fun hHeld => ?_)
                clear hK K
                try simp only [Act.put, List.setIfInBounds_toArray, List.set_cons_zero, List.set_cons_succ]
                refine wpAnyH_ready (rs := [4]) (by kernel_rfl) (by simp) ?_
                refine AllReadyH.cons (o := ⟨some 50, _, _, _, _, _⟩) rfl (fun K hK => ?_) AllReadyH.nil
                refine step_app (by rfl) (by rfl) slty_u64k hownN (by rfl) (by rfl) ((hr1.below hbz).more hbz.size) (one_take _ _) (by omega) hbz.size ?_
                intro v4 w4 hown4 hgr4
                have hb4 := hbz.trans hgr4.below
                have hblk := hblk0.grown hgr4.by_ (by simp [Value.ownBlock])
                have hownT := hown4
                have hbT := hb4
                refine hK.out _ _ ⟨cell_below hb4 hp3 y1, hb4⟩ (fun hHeld => ?_)
                clear hK K
                try simp only [Act.put, List.setIfInBounds_toArray, List.set_cons_zero, List.set_cons_succ]
                refine wpAnyH_ready (rs := [8]) (by kernel_rfl) (by simp) ?_
                refine AllReadyH.cons (o := ⟨some 54, _, _, _, _, _⟩) rfl (fun K hK => ?_) AllReadyH.nil
                refine step_app (by rfl) (by rfl) slty_u64k hownT (by rfl) (by rfl) (reads_blk hblk (by rfl)) (by rfl) (by omega) hbT.size ?_
                intro v8 w8 hown8 hgr8
                have hb8 := hbT.trans hgr8.below
                refine hK.out _ _ ⟨cell_below hb8 hp3 y1, hb8⟩ (fun hHeld => ?_)
                clear hK K
                try simp only [Act.put, List.setIfInBounds_toArray, List.set_cons_zero, List.set_cons_succ]
                refine wpAnyH_ready (rs := [12]) (by kernel_rfl) (by simp) ?_
                refine AllReadyH.cons (o := ⟨some 58, _, _, _, _, _⟩) rfl (fun K hK => ?_) AllReadyH.nil
                refine step_app (by rfl) (by rfl) slty_u64k hown8 (by rfl) (by rfl) ((hr2.below hb8).more hb8.size) (one_drop _ _) (by omega) hb8.size ?_
                intro v12 w12 hown12 hgr12
                have hb12 := hb8.trans hgr12.below
                refine hK.out _ _ ⟨cell_below hb12 hp3 y1, hb12⟩ (fun hHeld => ?_)
                clear hK K
                try simp only [Act.put, List.setIfInBounds_toArray, List.set_cons_zero, List.set_cons_succ]
                refine wpAnyH_take (i := 13) (oi := ⟨some 3, _, _, _, _, _⟩) (v := v12) rfl (by kernel_rfl) (by kernel_rfl) (by kernel_rfl) (fun _ _ _ h => h) (Or.inl ⟨by rfl, ?_⟩) hHeld ?_
                · rintro w ⟨hcz, _⟩
                  go_simp
                try simp only [Act.put, List.setIfInBounds_toArray, List.set_cons_zero, List.set_cons_succ]
                refine wpAnyH_done (by kernel_rfl) ?_ _
                go_wp2
                go_roundw
                case rel => exact ⟨k + 1, by omega, by go_num, by rw [hkeep]; exact own_lower (own_eq hown12 (by simp; omega) (keyVs_ins _ _ _)) (Nat.le_trans hBV.size hbc2.size), hBV.trans ((hbc2.trans (hb12.mono hbc2.size)).mono hBV.size)⟩
                case measure => simp [intOf]; omega
    · obtain rfl : k = l.length := by omega
      have hlt' : ¬ (l.length : Int) < (l.length : Int) := by omega
      rw [List.take_length] at hown
      go_wp2
      go_ret
      exact ⟨_, rfl, hown, hB⟩
end Go.Proofs.Ytoohcnjilmcimaa

/-! amblerref38.Count by its contract: which puts count. -/
namespace Go.Proofs.Ytoohcnjilmcimaa
open Go.RowKit AmS

/-- which of the first k operations count, as far as the first k tell -/
def cnt (l : List SOp) (k i : Nat) : Bool := (counts (l.take k)).getD i false
theorem counts_length (l : List SOp) : (counts l).length = l.length := by simp [counts]
theorem cnt_zero (l : List SOp) (i : Nat) : cnt l 0 i = false := by simp [cnt, counts]
theorem cnt_out {l : List SOp} {k i : Nat} (h : k ≤ i) : cnt l k i = false := by
  unfold cnt
  rw [List.getD_eq_getElem?_getD, List.getElem?_eq_none (by rw [counts_length, List.length_take]; omega)]
  rfl
/-- does an operation end what a put had set? -/
def ends (o x : SOp) : Bool := o.kind == 5 || ((o.kind == 2 || o.kind == 3) && x.key == o.key)
theorem cnt_succ {l : List SOp} {k i : Nat} {o x : SOp} (ho : l[k]? = some o) (hx : l[i]? = some x) (h : i < k) : cnt l (k + 1) i = if ends o x then false else cnt l k i := by
  have hk : k < l.length := (List.getElem?_eq_some_iff.1 ho).1
  have hlk : (l.take k).length = k := by rw [List.length_take]; omega
  unfold cnt
  rw [take_snoc_op ho, counts_snoc]
  unfold bump
  rw [List.getD_eq_getElem?_getD, List.getElem?_append_left (by rw [List.length_zipWith, counts_length, hlk]; omega), List.getElem?_zipWith]
  have hc : (counts (l.take k))[i]? = some ((counts (l.take k)).getD i false) := by
    have : i < (counts (l.take k)).length := by rw [counts_length, hlk]; exact h
    rw [List.getD_eq_getElem?_getD, List.getElem?_eq_getElem this]; rfl
  have hxt : (l.take k)[i]? = some x := by rw [List.getElem?_take_of_lt h]; exact hx
  rw [hc, hxt]
  rfl
theorem cnt_last {l : List SOp} {k : Nat} {o : SOp} (ho : l[k]? = some o) : cnt l (k + 1) k = (o.kind == 2) := by
  have hk : k < l.length := (List.getElem?_eq_some_iff.1 ho).1
  have hlk : (l.take k).length = k := by rw [List.length_take]; omega
  unfold cnt
  rw [take_snoc_op ho, counts_snoc]
  unfold bump
  rw [List.getD_eq_getElem?_getD, List.getElem?_append_right (by rw [List.length_zipWith, counts_length, hlk]; omega), List.length_zipWith, counts_length, hlk]
  simp

def boolCells (n : Nat) (B : Nat → Bool) : Array Value := ((List.range n).map fun i => Value.bool (B i)).toArray
theorem boolCells_get {n : Nat} {B : Nat → Bool} {i : Nat} (h : i < n) : (boolCells n B)[i]? = some (.bool (B i)) := by simp [boolCells, h]
theorem boolCells_set (n : Nat) (B : Nat → Bool) (i : Nat) (b : Bool) : (boolCells n B).setIfInBounds i (.bool b) = boolCells n (fun x => if x = i then b else B x) := by
  apply Array.ext_getElem?
  intro j
  rw [Array.getElem?_setIfInBounds]
  by_cases hj : j < n
  · rw [boolCells_get hj]
    by_cases he : i = j
    · subst he
      rw [if_pos rfl, if_pos (by simpa [boolCells] using hj), boolCells_get hj, if_pos rfl]
    · rw [if_neg he, boolCells_get hj, if_neg (fun h => he h.symm)]
  · have h1 : (boolCells n B)[j]? = none := by simp [boolCells]; omega
    have h2 : (boolCells n (fun x => if x = i then b else B x))[j]? = none := by simp [boolCells]; omega
    rw [h1, h2]
    split
    · rw [if_neg (by simp [boolCells]; omega)]
    · rfl
theorem boolCells_congr {n : Nat} {B C : Nat → Bool} (h : ∀ i, i < n → B i = C i) : boolCells n B = boolCells n C := by
  unfold boolCells
  congr 1
  exact List.map_congr_left fun i hi => by rw [h i (List.mem_range.1 hi)]
theorem boolCells_false (n : Nat) : boolCells n (fun _ => false) = Array.replicate n (.bool false) := by
  apply Array.ext_getElem?
  intro i
  by_cases h : i < n
  · rw [boolCells_get h]; simp [h]
  · simp [boolCells, h]
def CountPost (w : World) (l : List SOp) (e : Ending) (w' : World) : Prop :=
  e = .returned (.slice (some ⟨w.heap.size, 0, none⟩) l.length l.length) ∧ Blk w' w.heap.size 4 (boolCells l.length (cnt l l.length)) ∧ Below w.heap.size w w'
/-- where the inner loop stands -/
structure CountAt (w : World) (l : List SOp) (k j p : Nat) (o : SOp) (wr : World) : Prop where
  row : Blk wr w.heap.size 4 (boolCells l.length fun i => if i < j then cnt l (k + 1) i else cnt l k i)
  op : Blk wr p 30 #[.int .i64 o.kind, .int .u64 o.key, .int .u64 o.val, .int .u64 o.hash, .int .i64 o.iter]
  ne : w.heap.size ≠ p
  below : Below w.heap.size w wr
theorem CountAt.drewN {w wr : World} {l : List SOp} {k j p : Nat} {o : SOp} (h : CountAt w l k j p o wr) (n : Nat) : CountAt w l k j p o (wr.drewN n) := ⟨h.row, h.op, h.ne, below_drewN h.below n⟩
theorem CountAt.no {w wr : World} {l : List SOp} {k j p : Nat} {o x : SOp} (h : CountAt w l k j p o wr) (ho : l[k]? = some o) (hx : l[j]? = some x) (hj : j < k) (he : ends o x = false) : CountAt w l k (j + 1) p o wr := by
  refine ⟨?_, h.op, h.ne, h.below⟩
  have := h.row
  rw [boolCells_congr (C := fun i => if i < j + 1 then cnt l (k + 1) i else cnt l k i)] at this
  · exact this
  · intro i _
    by_cases hi : i = j
    · subst hi
      rw [if_neg (by omega), if_pos (by omega), cnt_succ ho hx hj, he]; simp
    · by_cases hlt : i < j
      · rw [if_pos hlt, if_pos (by omega)]
      · rw [if_neg hlt, if_neg (by omega)]
theorem CountAt.yes {w wr : World} {l : List SOp} {k j p : Nat} {o x : SOp} (h : CountAt w l k j p o wr) (ho : l[k]? = some o) (hx : l[j]? = some x) (hj : j < k) (he : ends o x = true) : CountAt w l k (j + 1) p o (wr.setCell ⟨w.heap.size, j, none⟩ (.bool false)) := by
  refine ⟨?_, h.op.far (p := ⟨w.heap.size, j, none⟩) (fun e => h.ne e.symm) _, h.ne, h.below.setCell (p := ⟨w.heap.size, j, none⟩) (Nat.le_refl _) _⟩
  have := h.row.set_ j (.bool false)
  rw [boolCells_set, boolCells_congr (C := fun i => if i < j + 1 then cnt l (k + 1) i else cnt l k i)] at this
  · exact this
  · intro i _
    by_cases hi : i = j
    · subst hi
      rw [if_pos rfl, if_pos (by omega), cnt_succ ho hx hj, he]; simp
    · rw [if_neg hi]
      by_cases hlt : i < j
      · rw [if_pos hlt, if_pos (by omega)]
      · rw [if_neg hlt, if_neg (by omega)]
theorem CountAt.last {w wr : World} {l : List SOp} {k p : Nat} {o : SOp} (h : CountAt w l k k p o wr) (ho : l[k]? = some o) : Blk (wr.setCell ⟨w.heap.size, k, none⟩ (.bool (o.kind == 2))) w.heap.size 4 (boolCells l.length (cnt l (k + 1))) := by
  have := h.row.set_ k (.bool (o.kind == 2))
  rw [boolCells_set, boolCells_congr (C := cnt l (k + 1))] at this
  · exact this
  · intro i _
    by_cases hi : i = k
    · subst hi
      rw [if_pos rfl, cnt_last ho]
    · rw [if_neg hi]
      by_cases hlt : i < k
      · rw [if_pos hlt]
      · rw [if_neg hlt, cnt_out (by omega), cnt_out (by omega)]
theorem info_bool : (Try.prog.info? 4).map (fun i => (i.zero, i.size, i.bytes)) = some (some (.bool false), 1, 1) := by kernel_rfl
theorem make_bools (n : Nat) (hn : n ≤ 65536) (W : World) : (Instr.makeSlice 34 (.int .i64 (n : Int)) (.int .i64 (n : Int))).run Try.prog W = .ok (.slice (some ⟨W.heap.size, 0, none⟩) n n) (W.alloc (.cells (boolCells n fun _ => false) 4)) := by
  obtain ⟨i, hi, hz0, hz1, hz2⟩ := info_parts info_bool
  have := run_makeSlice (P := Try.prog) (w := W) 34 4 i (.bool false) Try.underlying34 hi hz0 .i64 .i64 (n : Int) (n : Int) (by omega) (Int.le_refl _) (by rw [hz1]; omega) (by rw [hz2]; omega) (by omega)
  rw [this, hz1, Int.toNat_natCast]
  have e : madeCells (Value.bool false).cells (n * 1) = boolCells n fun _ => false := by
    rw [boolCells_false]
    apply Array.toList_inj.1
    rw [Nat.mul_one]
    exact (toList_madeCells_one _ n).trans (by simp)
  rw [e]
set_option maxHeartbeats 4000000 in
set_option maxRecDepth 100000 in
theorem ref38_Count (A : Option Addr) (n c : Nat) (l : List SOp) (w : World) (h : Reads w w.heap.size 5 A n (opsCells l)) (hn : n ≤ 300) :
    Calls Try.prog 9 #[.slice A n c] w (CountPost w l) := by
  have hl : l.length = n := by have := h.1; rw [opsCells_length] at this; omega
  subst hl
  have hmk := make_bools l.length (by omega)
  go_enter Try.func9, Try.ntmps9
  go_wp2
  clear hmk
  have hB0 : Below w.heap.size w (w.alloc (.cells (boolCells l.length fun _ => false) 4)) := (Below.refl _ _).alloc (Nat.le_refl _) _
  have hG0 : Blk (w.alloc (.cells (boolCells l.length fun _ => false) 4)) w.heap.size 4 (boolCells l.length (cnt l 0)) := by
    have := Blk.new w 4 (boolCells l.length fun _ => false)
    rw [boolCells_congr (C := cnt l 0) (fun i _ => (cnt_zero l i).symm)] at this
    exact this
  obtain ⟨W, hW⟩ : ∃ W, w.alloc (.cells (boolCells l.length fun _ => false) 4) = W := ⟨_, rfl⟩
  rw [hW] at hB0 hG0 ⊢
  clear hW
  go_loopw [4, 5, 6, 12] (fun _ _ _ i wr => ∃ k : Nat, k ≤ l.length ∧ i = .int .i64 k ∧ Blk wr w.heap.size 4 (boolCells l.length (cnt l k)) ∧ Below w.heap.size w wr) (fun _ _ _ i _ => l.length - (intOf i).toNat)
  case atStart => exact ⟨0, by omega, rfl, hG0, hB0⟩
  case round =>
    obtain ⟨k, hk, rfl, hG, hB⟩ := hrel
    obtain ⟨wo, rfl⟩ : ∃ wo : World, wo = wr := ⟨_, rfl⟩
    by_cases hlt : k < l.length
    · have ho : l[k]? = some (l[k]'hlt) := List.getElem?_eq_getElem _
      generalize l[k]'hlt = o at ho
      obtain ⟨b, off, rfl, hb, c0, c1, c2, c3, c4⟩ := op_cells (h.below hB) ho
      have hlt' : (k : Int) < (l.length : Int) := by omega
      have hat : CountAt w l k 0 wo.heap.size o (wo.alloc (.cells #[.int .i64 o.kind, .int .u64 o.key, .int .u64 o.val, .int .u64 o.hash, .int .i64 o.iter] 30)) :=
        ⟨by
          have := hG.alloc (.cells #[.int .i64 o.kind, .int .u64 o.key, .int .u64 o.val, .int .u64 o.hash, .int .i64 o.iter] 30)
          rw [boolCells_congr (C := fun i => if i < 0 then cnt l (k + 1) i else cnt l k i) (fun i _ => by rw [if_neg (by omega)])] at this
          exact this, Blk.new _ _ _, by have := hG.lt; omega, hB.alloc hB.size _⟩
      obtain ⟨W2, hW2⟩ : ∃ W2, W2 = wo.alloc (.cells #[.int .i64 o.kind, .int .u64 o.key, .int .u64 o.val, .int .u64 o.hash, .int .i64 o.iter] 30) := ⟨_, rfl⟩
      rw [← hW2] at hat
      obtain ⟨p, hp⟩ : ∃ p, p = wo.heap.size := ⟨_, rfl⟩
      rw [← hp] at hat
      have HW := Lib.hid (And.intro hp hW2)
      have Ho := Lib.hid ho
      clear hW2 hp ho hG
      go_upto_block 2 with fail
      rw [← HW.out.2, ← HW.out.1]
      go_wp2
      clear c0 c1 c2 c3 c4
      go_loopw [6] (fun v wr => ∃ j : Nat, j ≤ k ∧ v = .int .i64 j ∧ CountAt w l k j p o wr) (fun v _ => k - (intOf v).toNat)
      case atStart => exact ⟨0, by omega, rfl, hat⟩
      case round =>
        clear hat
        obtain ⟨j, hj, rfl, hat⟩ := hrel
        have hrow := hat.row
        have hop := hat.op
        have hbel := hat.below
        have x0 := hop.cell 0
        have x1 := hop.cell 1
        simp only [List.getElem?_toArray, List.getElem?_cons_zero, List.getElem?_cons_succ] at x0 x1
        have HO1 := Lib.hid Ho.out
        by_cases hjk : j < k
        · have hjl : j < l.length := by omega
          have hx : l[j]? = some (l[j]'hjl) := List.getElem?_eq_getElem _
          generalize l[j]'hjl = x at hx
          obtain ⟨b2, off2, he2, hb2, d0, d1, d2, d3, d4⟩ := op_cells (h.below hbel) hx
          injection he2 with he2
          injection he2 with he3 he4 _
          subst he3 he4
          have r0 := (hrow.cell j).trans (boolCells_get hjl)
          have r1 := hrow.frozen j
          have hjk' : (j : Int) < (k : Int) := by omega
          have hjl' : (j : Int) < (l.length : Int) := by omega
          have HX := Lib.hid hx
          have HE := Lib.hid (show ends o x = (o.kind == 5 || ((o.kind == 2 || o.kind == 3) && x.key == o.key)) from rfl)
          have hkl : k < l.length := hlt
          generalize (if j < j then cnt l (k + 1) j else cnt l k j) = bj at r0
          clear hx hop d0 d2 d3 d4 hlt h hrow
          cases h5 : (o.kind == 5) with
          | true =>
            go_wp2
            go_quiet (fail)
            go_wp2
            go_roundw
            case rel => exact ⟨j + 1, by omega, by go_num, (hat.drewN _).yes HO1.out HX.out (by omega) (by rw [HE.out]; simp [*])⟩
            case measure => simp [intOf]; omega
          | false =>
            cases h2 : (o.kind == 2) with
            | true =>
              cases hky : (x.key == o.key) with
              | true =>
                go_wp2
                go_quiet (fail)
                go_wp2
                go_roundw
                case rel => exact ⟨j + 1, by omega, by go_num, (hat.drewN _).yes HO1.out HX.out (by omega) (by rw [HE.out]; simp [*])⟩
                case measure => simp [intOf]; omega
              | false =>
                go_wp2
                go_quiet (fail)
                go_wp2
                go_roundw
                case rel => exact ⟨j + 1, by omega, by go_num, (hat.drewN _).no HO1.out HX.out (by omega) (by rw [HE.out]; simp [*])⟩
                case measure => simp [intOf]; omega
            | false =>
              cases h3 : (o.kind == 3) with
              | true =>
                cases hky : (x.key == o.key) with
                | true =>
                  go_wp2
                  go_quiet (fail)
                  go_wp2
                  go_roundw
                  case rel => exact ⟨j + 1, by omega, by go_num, (hat.drewN _).yes HO1.out HX.out (by omega) (by rw [HE.out]; simp [*])⟩
                  case measure => simp [intOf]; omega
                | false =>
                  go_wp2
                  go_quiet (fail)
                  go_wp2
                  go_roundw
                  case rel => exact ⟨j + 1, by omega, by go_num, (hat.drewN _).no HO1.out HX.out (by omega) (by rw [HE.out]; simp [*])⟩
                  case measure => simp [intOf]; omega
              | false =>
                go_wp2
                go_quiet (fail)
                go_wp2
                go_roundw
                case rel => exact ⟨j + 1, by omega, by go_num, (hat.drewN _).no HO1.out HX.out (by omega) (by rw [HE.out]; simp [*])⟩
                case measure => simp [intOf]; omega
        · obtain rfl : j = k := by omega
          have r0 := (hrow.cell j).trans (boolCells_get hlt)
          have r1 := hrow.frozen j
          have hjk' : ¬ (j : Int) < (j : Int) := by omega
          have hjl' : (j : Int) < (l.length : Int) := by omega
          generalize (if j < j then cnt l (j + 1) j else cnt l j j) = bj at r0
          clear hop hrow
          go_wp2
          go_roundw
          case rel => exact ⟨j + 1, by omega, by go_num, hat.last HO1.out, hbel.setCell (p := ⟨w.heap.size, j, none⟩) (Nat.le_refl _) _⟩
          case measure => simp [intOf]; omega
    · obtain rfl : k = l.length := by omega
      have hlt' : ¬ (l.length : Int) < (l.length : Int) := by omega
      go_wp2
      go_ret
      exact ⟨rfl, hG, hB⟩
end Go.Proofs.Ytoohcnjilmcimaa

/-! SliceParts: which operations it asks for, by the contracts of its four functions. -/
namespace Go.Proofs.Ytoohcnjilmcimaa
open Go.RowKit AmS

theorem flipS {P : Program} {f : FuncId} {args : Array Value} {w : World} {v : Value} (h : Calls P f args w fun e w' => e = .returned v ∧ w = w') : Calls P f args w fun e w' => e = .returned v ∧ w' = w := h.mono fun _ _ ⟨a, b⟩ => ⟨a, b.symm⟩
def AsksPost (W : World) (b : Bool) (e : Ending) (W' : World) : Prop := e = .returned (.bool b) ∧ Below W.heap.size W W'
set_option maxHeartbeats 4000000 in
set_option maxRecDepth 100000 in
theorem parts1_fn (i : Nat) (o : SOp) (pa pk po : Nat) (Aa B A : Option Addr) (na ca m d n c : Nat) (l : List SOp) (ks : List Int) (W : World) (hoi : l[i]? = some o) (hn : n ≤ 65536)
    (ha : W.cell? ⟨pa, 0, none⟩ = some (.slice Aa na ca)) (hk : W.cell? ⟨pk, 0, none⟩ = some (.slice B m d)) (ho : W.cell? ⟨po, 0, none⟩ = some (.slice A n c))
    (hRa : Reads W W.heap.size 5 Aa na (opsCells l)) (hRk : Reads W W.heap.size 1 B m (ks.map (Value.int .u64))) (hRo : Reads W W.heap.size 5 A n (opsCells l)) (hm : m ≤ 65536) :
    Calls Try.prog 12 #[.int .i64 (i : Int), .pointer (some ⟨pa, 0, none⟩), .pointer (some ⟨pk, 0, none⟩), .pointer (some ⟨po, 0, none⟩)] W (AsksPost W (!keyedP o.kind || ks.contains o.key)) := by
  have hna : l.length = na := by have := hRa.1; rw [opsCells_length] at this; omega
  have hno : l.length = n := by have := hRo.1; rw [opsCells_length] at this; omega
  have hil := (List.getElem?_eq_some_iff.1 hoi).1
  have hi1 : (i : Int) < (na : Int) := by omega
  have hi2 : (i : Int) < (n : Int) := by omega
  have hna2 : na ≤ 65536 := by omega
  obtain ⟨ba, oa, rfl, hba, k0, k1, k2, k3, k4⟩ := op_cells hRa hoi
  obtain ⟨b, off, rfl, hb, c0, c1, c2, c3, c4⟩ := op_cells hRo hoi
  have HKd := Lib.hid (fun V => ref38_Keyed o V)
  have HH0 := Lib.hid (fun (V : World) (hV : Below W.heap.size W V) => law_has B m d ks o.key V ((hRk.below hV).more hV.size) hm)
  clear hRa hRk hRo hoi hna hno c0 c2 c3 c4
  cases hq : keyedP o.kind with
  | false =>
    have HK := Lib.hid (fun U => show Calls Try.prog 13 #[.agg #[.int .i64 o.kind, .int .u64 o.key, .int .u64 o.val, .int .u64 o.hash, .int .i64 o.iter]] U (fun e w' => e = .returned (.bool false) ∧ Below U.heap.size U w') from by have := HKd.out U; unfold opV at this; rw [hq] at this; exact this)
    go_enter Try.func12, Try.ntmps12
    go_wp2
    refine wp_region_held_drew (S := fun w' => (w'.cell? ⟨pa, 0, none⟩ = some (.slice (some ⟨ba, oa, none⟩) na ca) ∧ w'.cell? ⟨pk, 0, none⟩ = some (.slice B m d) ∧ w'.cell? ⟨po, 0, none⟩ = some (.slice (some ⟨b, off, none⟩) n c) ∧ w'.cell? ⟨ba, oa + i * 5, none⟩ = some (.int .i64 o.kind) ∧ w'.cell? ⟨ba, oa + i * 5 + 1, none⟩ = some (.int .u64 o.key) ∧ w'.cell? ⟨ba, oa + i * 5 + 2, none⟩ = some (.int .u64 o.val) ∧ w'.cell? ⟨ba, oa + i * 5 + 3, none⟩ = some (.int .u64 o.hash) ∧ w'.cell? ⟨ba, oa + i * 5 + 4, none⟩ = some (.int .i64 o.iter) ∧ w'.cell? ⟨b, off + i * 5 + 1, none⟩ = some (.int .u64 o.key)) ∧ Below W.heap.size W w') (by kernel_rfl) ⟨⟨ha, hk, ho, k0, k1, k2, k3, k4, c1⟩, (Below.refl _ _).drew⟩ (fun hHeld => ?_)
    refine wpAnyH_take (i := 0) (oi := ⟨some 6, _, _, _, _, _⟩) (v := .slice (some ⟨ba, oa, none⟩) na ca) rfl (by kernel_rfl) (by kernel_rfl) (by kernel_rfl) (fun _ _ _ h => h) (Or.inl ⟨by rfl, ?_⟩) hHeld ?_
    · rintro w ⟨⟨_, _, _, _, _, _, _, _, _⟩, _⟩
      go_simp
    try simp only [Act.put, List.setIfInBounds_toArray, List.set_cons_zero, List.set_cons_succ]
    refine wpAnyH_take (i := 1) (oi := ⟨some 7, _, _, _, _, _⟩) (v := .int .i64 (i : Int)) rfl (by kernel_rfl) (by kernel_rfl) (by kernel_rfl) (fun _ _ _ h => h) (Or.inl ⟨by rfl, ?_⟩) hHeld ?_
    · rintro w ⟨⟨_, _, _, _, _, _, _, _, _⟩, _⟩
      go_simp
    try simp only [Act.put, List.setIfInBounds_toArray, List.set_cons_zero, List.set_cons_succ]
    refine wpAnyH_take (i := 2) (oi := ⟨some 8, _, _, _, _, _⟩) (v := .pointer (some ⟨ba, oa + i * 5, none⟩)) rfl (by kernel_rfl) (by kernel_rfl) (by kernel_rfl) (fun _ _ _ h => h) (Or.inl ⟨by rfl, ?_⟩) hHeld ?_
    · rintro w ⟨⟨_, _, _, _, _, _, _, _, _⟩, _⟩
      go_simp
    try simp only [Act.put, List.setIfInBounds_toArray, List.set_cons_zero, List.set_cons_succ]
    refine wpAnyH_take (i := 3) (oi := ⟨some 9, _, _, _, _, _⟩) (v := .agg #[.int .i64 o.kind, .int .u64 o.key, .int .u64 o.val, .int .u64 o.hash, .int .i64 o.iter]) rfl (by kernel_rfl) (by kernel_rfl) (by kernel_rfl) (fun _ _ _ h => h) (Or.inl ⟨by rfl, ?_⟩) hHeld ?_
    · rintro w ⟨⟨_, _, _, _, _, _, _, _, _⟩, _⟩
      go_simp
    try simp only [Act.put, List.setIfInBounds_toArray, List.set_cons_zero, List.set_cons_succ]
    refine wpAnyH_ready (rs := [4]) (by kernel_rfl) (by simp) ?_
    refine AllReadyH.cons (o := ⟨some 10, _, _, _, _, _⟩) rfl (fun K hK => ?_) AllReadyH.nil
    go_simp
    refine (HK.out _).mono ?_
    rintro e w3 ⟨rfl, hbc⟩
    have hb3 : Below W.heap.size W w3 := below_next hbc (Below.refl _ _).drew
    go_wp2_with fail
    refine hK.out _ _ ⟨⟨cell_at hb3 ha, cell_at hb3 hk, cell_at hb3 ho, cell_at hb3 k0, cell_at hb3 k1, cell_at hb3 k2, cell_at hb3 k3, cell_at hb3 k4, cell_at hb3 c1⟩, hb3⟩ (fun hHeld => ?_)
    clear hK K
    try simp only [Act.put, List.setIfInBounds_toArray, List.set_cons_zero, List.set_cons_succ]
    refine wpAnyH_take (i := 5) (oi := ⟨some 11, _, _, _, _, _⟩) (v := .bool true) rfl (by kernel_rfl) (by kernel_rfl) (by kernel_rfl) (fun _ _ _ h => h) (Or.inl ⟨by rfl, ?_⟩) hHeld ?_
    · rintro w ⟨⟨_, _, _, _, _, _, _, _, _⟩, _⟩
      go_simp
    try simp only [Act.put, List.setIfInBounds_toArray, List.set_cons_zero, List.set_cons_succ]
    refine wpAnyH_take (i := 6) (oi := ⟨some 12, _, _, _, _, _⟩) (v := .bool true) rfl (by kernel_rfl) (by kernel_rfl) (by kernel_rfl) (fun _ _ _ h => h) (Or.inl ⟨by rfl, ?_⟩) hHeld ?_
    · rintro w ⟨⟨_, _, _, _, _, _, _, _, _⟩, _⟩
      go_simp
    try simp only [Act.put, List.setIfInBounds_toArray, List.set_cons_zero, List.set_cons_succ]
    refine takeSkip (i := 7) (oi := ⟨some 13, _, _, _, _, _⟩) rfl (by kernel_rfl) (by kernel_rfl) (by kernel_rfl) (fun _ _ _ h => h) (by rfl) hHeld ?_
    try simp only [Act.put, List.setIfInBounds_toArray, List.set_cons_zero, List.set_cons_succ]
    refine takeSkip (i := 8) (oi := ⟨some 14, _, _, _, _, _⟩) rfl (by kernel_rfl) (by kernel_rfl) (by kernel_rfl) (fun _ _ _ h => h) (by rfl) hHeld ?_
    try simp only [Act.put, List.setIfInBounds_toArray, List.set_cons_zero, List.set_cons_succ]
    refine takeSkip (i := 9) (oi := ⟨some 15, _, _, _, _, _⟩) rfl (by kernel_rfl) (by kernel_rfl) (by kernel_rfl) (fun _ _ _ h => h) (by rfl) hHeld ?_
    try simp only [Act.put, List.setIfInBounds_toArray, List.set_cons_zero, List.set_cons_succ]
    refine takeSkip (i := 10) (oi := ⟨some 16, _, _, _, _, _⟩) rfl (by kernel_rfl) (by kernel_rfl) (by kernel_rfl) (fun _ _ _ h => h) (by rfl) hHeld ?_
    try simp only [Act.put, List.setIfInBounds_toArray, List.set_cons_zero, List.set_cons_succ]
    refine takeSkip (i := 11) (oi := ⟨some 17, _, _, _, _, _⟩) rfl (by kernel_rfl) (by kernel_rfl) (by kernel_rfl) (fun _ _ _ h => h) (by rfl) hHeld ?_
    try simp only [Act.put, List.setIfInBounds_toArray, List.set_cons_zero, List.set_cons_succ]
    refine takeSkip (i := 12) (oi := ⟨some 18, _, _, _, _, _⟩) rfl (by kernel_rfl) (by kernel_rfl) (by kernel_rfl) (fun _ _ _ h => h) (by rfl) hHeld ?_
    try simp only [Act.put, List.setIfInBounds_toArray, List.set_cons_zero, List.set_cons_succ]
    refine takeSkip (i := 13) (oi := ⟨some 19, _, _, _, _, _⟩) rfl (by kernel_rfl) (by kernel_rfl) (by kernel_rfl) (fun _ _ _ h => h) (by rfl) hHeld ?_
    try simp only [Act.put, List.setIfInBounds_toArray, List.set_cons_zero, List.set_cons_succ]
    refine wpAnyH_take (i := 14) (oi := ⟨some 20, _, _, _, _, _⟩) (v := .bool true) rfl (by kernel_rfl) (by kernel_rfl) (by kernel_rfl) (fun _ _ _ h => h) (Or.inl ⟨by rfl, ?_⟩) hHeld ?_
    · rintro w ⟨⟨_, _, _, _, _, _, _, _, _⟩, _⟩
      go_simp
    try simp only [Act.put, List.setIfInBounds_toArray, List.set_cons_zero, List.set_cons_succ]
    refine wpAnyH_take (i := 15) (oi := ⟨some 5, _, _, _, _, _⟩) (v := .bool true) rfl (by kernel_rfl) (by kernel_rfl) (by kernel_rfl) (fun _ _ _ h => h) (Or.inl ⟨by rfl, ?_⟩) hHeld ?_
    · rintro w ⟨⟨_, _, _, _, _, _, _, _, _⟩, _⟩
      go_simp
    try simp only [Act.put, List.setIfInBounds_toArray, List.set_cons_zero, List.set_cons_succ]
    refine wpAnyH_done (by kernel_rfl) ?_ _
    go_wp2
    go_ret
    exact ⟨rfl, hb3⟩
  | true =>
    have HK := Lib.hid (fun U => show Calls Try.prog 13 #[.agg #[.int .i64 o.kind, .int .u64 o.key, .int .u64 o.val, .int .u64 o.hash, .int .i64 o.iter]] U (fun e w' => e = .returned (.bool true) ∧ Below U.heap.size U w') from by have := HKd.out U; unfold opV at this; rw [hq] at this; exact this)
    have HH := Lib.hid HH0.out
    go_enter Try.func12, Try.ntmps12
    go_wp2
    refine wp_region_held_drew (S := fun w' => (w'.cell? ⟨pa, 0, none⟩ = some (.slice (some ⟨ba, oa, none⟩) na ca) ∧ w'.cell? ⟨pk, 0, none⟩ = some (.slice B m d) ∧ w'.cell? ⟨po, 0, none⟩ = some (.slice (some ⟨b, off, none⟩) n c) ∧ w'.cell? ⟨ba, oa + i * 5, none⟩ = some (.int .i64 o.kind) ∧ w'.cell? ⟨ba, oa + i * 5 + 1, none⟩ = some (.int .u64 o.key) ∧ w'.cell? ⟨ba, oa + i * 5 + 2, none⟩ = some (.int .u64 o.val) ∧ w'.cell? ⟨ba, oa + i * 5 + 3, none⟩ = some (.int .u64 o.hash) ∧ w'.cell? ⟨ba, oa + i * 5 + 4, none⟩ = some (.int .i64 o.iter) ∧ w'.cell? ⟨b, off + i * 5 + 1, none⟩ = some (.int .u64 o.key)) ∧ Below W.heap.size W w') (by kernel_rfl) ⟨⟨ha, hk, ho, k0, k1, k2, k3, k4, c1⟩, (Below.refl _ _).drew⟩ (fun hHeld => ?_)
    refine wpAnyH_take (i := 0) (oi := ⟨some 6, _, _, _, _, _⟩) (v := .slice (some ⟨ba, oa, none⟩) na ca) rfl (by kernel_rfl) (by kernel_rfl) (by kernel_rfl) (fun _ _ _ h => h) (Or.inl ⟨by rfl, ?_⟩) hHeld ?_
    · rintro w ⟨⟨_, _, _, _, _, _, _, _, _⟩, _⟩
      go_simp
    try simp only [Act.put, List.setIfInBounds_toArray, List.set_cons_zero, List.set_cons_succ]
    refine wpAnyH_take (i := 1) (oi := ⟨some 7, _, _, _, _, _⟩) (v := .int .i64 (i : Int)) rfl (by kernel_rfl) (by kernel_rfl) (by kernel_rfl) (fun _ _ _ h => h) (Or.inl ⟨by rfl, ?_⟩) hHeld ?_
    · rintro w ⟨⟨_, _, _, _, _, _, _, _, _⟩, _⟩
      go_simp
    try simp only [Act.put, List.setIfInBounds_toArray, List.set_cons_zero, List.set_cons_succ]
    refine wpAnyH_take (i := 2) (oi := ⟨some 8, _, _, _, _, _⟩) (v := .pointer (some ⟨ba, oa + i * 5, none⟩)) rfl (by kernel_rfl) (by kernel_rfl) (by kernel_rfl) (fun _ _ _ h => h) (Or.inl ⟨by rfl, ?_⟩) hHeld ?_
    · rintro w ⟨⟨_, _, _, _, _, _, _, _, _⟩, _⟩
      go_simp
    try simp only [Act.put, List.setIfInBounds_toArray, List.set_cons_zero, List.set_cons_succ]
    refine wpAnyH_take (i := 3) (oi := ⟨some 9, _, _, _, _, _⟩) (v := .agg #[.int .i64 o.kind, .int .u64 o.key, .int .u64 o.val, .int .u64 o.hash, .int .i64 o.iter]) rfl (by kernel_rfl) (by kernel_rfl) (by kernel_rfl) (fun _ _ _ h => h) (Or.inl ⟨by rfl, ?_⟩) hHeld ?_
    · rintro w ⟨⟨_, _, _, _, _, _, _, _, _⟩, _⟩
      go_simp
    try simp only [Act.put, List.setIfInBounds_toArray, List.set_cons_zero, List.set_cons_succ]
    refine wpAnyH_ready (rs := [4]) (by kernel_rfl) (by simp) ?_
    refine AllReadyH.cons (o := ⟨some 10, _, _, _, _, _⟩) rfl (fun K hK => ?_) AllReadyH.nil
    go_simp
    refine (HK.out _).mono ?_
    rintro e w3 ⟨rfl, hbc⟩
    have hb3 : Below W.heap.size W w3 := below_next hbc (Below.refl _ _).drew
    go_wp2_with fail
    refine hK.out _ _ ⟨⟨cell_at hb3 ha, cell_at hb3 hk, cell_at hb3 ho, cell_at hb3 k0, cell_at hb3 k1, cell_at hb3 k2, cell_at hb3 k3, cell_at hb3 k4, cell_at hb3 c1⟩, hb3⟩ (fun hHeld => ?_)
    clear hK K
    try simp only [Act.put, List.setIfInBounds_toArray, List.set_cons_zero, List.set_cons_succ]
    refine wpAnyH_take (i := 5) (oi := ⟨some 11, _, _, _, _, _⟩) (v := .bool false) rfl (by kernel_rfl) (by kernel_rfl) (by kernel_rfl) (fun _ _ _ h => h) (Or.inl ⟨by rfl, ?_⟩) hHeld ?_
    · rintro w ⟨⟨_, _, _, _, _, _, _, _, _⟩, _⟩
      go_simp
    try simp only [Act.put, List.setIfInBounds_toArray, List.set_cons_zero, List.set_cons_succ]
    refine wpAnyH_take (i := 6) (oi := ⟨some 12, _, _, _, _, _⟩) (v := .bool false) rfl (by kernel_rfl) (by kernel_rfl) (by kernel_rfl) (fun _ _ _ h => h) (Or.inl ⟨by rfl, ?_⟩) hHeld ?_
    · rintro w ⟨⟨_, _, _, _, _, _, _, _, _⟩, _⟩
      go_simp
    try simp only [Act.put, List.setIfInBounds_toArray, List.set_cons_zero, List.set_cons_succ]
    refine wpAnyH_take (i := 7) (oi := ⟨some 13, _, _, _, _, _⟩) (v := .slice B m d) rfl (by kernel_rfl) (by kernel_rfl) (by kernel_rfl) (fun _ _ _ h => h) (Or.inl ⟨by rfl, ?_⟩) hHeld ?_
    · rintro w ⟨⟨_, _, _, _, _, _, _, _, _⟩, _⟩
      go_simp
    try simp only [Act.put, List.setIfInBounds_toArray, List.set_cons_zero, List.set_cons_succ]
    refine wpAnyH_take (i := 8) (oi := ⟨some 14, _, _, _, _, _⟩) (v := .slice (some ⟨b, off, none⟩) n c) rfl (by kernel_rfl) (by kernel_rfl) (by kernel_rfl) (fun _ _ _ h => h) (Or.inl ⟨by rfl, ?_⟩) hHeld ?_
    · rintro w ⟨⟨_, _, _, _, _, _, _, _, _⟩, _⟩
      go_simp
    try simp only [Act.put, List.setIfInBounds_toArray, List.set_cons_zero, List.set_cons_succ]
    refine wpAnyH_take (i := 9) (oi := ⟨some 15, _, _, _, _, _⟩) (v := .int .i64 (i : Int)) rfl (by kernel_rfl) (by kernel_rfl) (by kernel_rfl) (fun _ _ _ h => h) (Or.inl ⟨by rfl, ?_⟩) hHeld ?_
    · rintro w ⟨⟨_, _, _, _, _, _, _, _, _⟩, _⟩
      go_simp
    try simp only [Act.put, List.setIfInBounds_toArray, List.set_cons_zero, List.set_cons_succ]
    refine wpAnyH_take (i := 10) (oi := ⟨some 16, _, _, _, _, _⟩) (v := .pointer (some ⟨b, off + i * 5, none⟩)) rfl (by kernel_rfl) (by kernel_rfl) (by kernel_rfl) (fun _ _ _ h => h) (Or.inl ⟨by rfl, ?_⟩) hHeld ?_
    · rintro w ⟨⟨_, _, _, _, _, _, _, _, _⟩, _⟩
      go_simp
    try simp only [Act.put, List.setIfInBounds_toArray, List.set_cons_zero, List.set_cons_succ]
    refine wpAnyH_take (i := 11) (oi := ⟨some 17, _, _, _, _, _⟩) (v := .pointer (some ⟨b, off + i * 5 + 1, none⟩)) rfl (by kernel_rfl) (by kernel_rfl) (by kernel_rfl) (fun _ _ _ h => h) (Or.inl ⟨by rfl, ?_⟩) hHeld ?_
    · rintro w ⟨⟨_, _, _, _, _, _, _, _, _⟩, _⟩
      go_simp
    try simp only [Act.put, List.setIfInBounds_toArray, List.set_cons_zero, List.set_cons_succ]
    refine wpAnyH_take (i := 12) (oi := ⟨some 18, _, _, _, _, _⟩) (v := .int .u64 o.key) rfl (by kernel_rfl) (by kernel_rfl) (by kernel_rfl) (fun _ _ _ h => h) (Or.inl ⟨by rfl, ?_⟩) hHeld ?_
    · rintro w ⟨⟨_, _, _, _, _, _, _, _, _⟩, _⟩
      go_simp
    try simp only [Act.put, List.setIfInBounds_toArray, List.set_cons_zero, List.set_cons_succ]
    refine wpAnyH_ready (rs := [13]) (by kernel_rfl) (by simp) ?_
    refine AllReadyH.cons (o := ⟨some 19, _, _, _, _, _⟩) rfl (fun K hK => ?_) AllReadyH.nil
    go_simp
    refine (HH.out w3 hb3).mono ?_
    rintro e w4 ⟨rfl, rfl⟩
    go_wp2_with fail
    refine hK.out _ _ hHeld (fun hHeld => ?_)
    clear hK K
    try simp only [Act.put, List.setIfInBounds_toArray, List.set_cons_zero, List.set_cons_succ]
    refine wpAnyH_take (i := 14) (oi := ⟨some 20, _, _, _, _, _⟩) (v := .bool (ks.contains o.key)) rfl (by kernel_rfl) (by kernel_rfl) (by kernel_rfl) (fun _ _ _ h => h) (Or.inl ⟨by rfl, ?_⟩) hHeld ?_
    · rintro w ⟨⟨_, _, _, _, _, _, _, _, _⟩, _⟩
      go_simp
    try simp only [Act.put, List.setIfInBounds_toArray, List.set_cons_zero, List.set_cons_succ]
    refine wpAnyH_take (i := 15) (oi := ⟨some 5, _, _, _, _, _⟩) (v := .bool (ks.contains o.key)) rfl (by kernel_rfl) (by kernel_rfl) (by kernel_rfl) (fun _ _ _ h => h) (Or.inl ⟨by rfl, ?_⟩) hHeld ?_
    · rintro w ⟨⟨_, _, _, _, _, _, _, _, _⟩, _⟩
      go_simp
    try simp only [Act.put, List.setIfInBounds_toArray, List.set_cons_zero, List.set_cons_succ]
    refine wpAnyH_done (by kernel_rfl) ?_ _
    go_wp2
    go_ret
    exact ⟨by simp, hb3⟩

set_option maxHeartbeats 1000000 in
theorem parts2_fn (i : Nat) (o : SOp) (pd po : Nat) (C A : Option Addr) (q f n c : Nat) (l : List SOp) (kd : List Int) (W : World) (hoi : l[i]? = some o)
    (hd : W.cell? ⟨pd, 0, none⟩ = some (.slice C q f)) (ho : W.cell? ⟨po, 0, none⟩ = some (.slice A n c)) (hRd : Reads W W.heap.size 1 C q (kd.map (Value.int .i64))) (hRo : Reads W W.heap.size 5 A n (opsCells l)) (hq : q ≤ 65536) :
    Calls Try.prog 16 #[.int .i64 (i : Int), .pointer (some ⟨pd, 0, none⟩), .pointer (some ⟨po, 0, none⟩)] W (AsksPost W (!kd.contains o.kind)) := by
  have hno : l.length = n := by have := hRo.1; rw [opsCells_length] at this; omega
  have hil := (List.getElem?_eq_some_iff.1 hoi).1
  have hi2 : (i : Int) < (n : Int) := by omega
  obtain ⟨b, off, rfl, hb, c0, c1, c2, c3, c4⟩ := op_cells hRo hoi
  have HH := Lib.hid (fun (V : World) (h : Reads V W.heap.size 1 C q (kd.map (Value.int .i64))) (hV : W.heap.size = V.heap.size) => num_Has C q f kd o.kind V (hV ▸ h) hq)
  have HR := Lib.hid hRd
  clear hRd hRo hoi hno c1 c2 c3 c4
  go_enter Try.func16, Try.ntmps16
  go_wp2
  go_quiet ((go_at_call 17; exact Calls.quiet_of_same (flipS (HH.out _ HR.out rfl))))
  go_wp2
  go_ret
  exact ⟨ret_bool (by simp), below_drewN (Below.refl _ _) _⟩
set_option maxHeartbeats 1000000 in
theorem parts3_fn (i : Nat) (o : SOp) (po : Nat) (A : Option Addr) (n c : Nat) (l : List SOp) (W : World) (hoi : l[i]? = some o)
    (ho : W.cell? ⟨po, 0, none⟩ = some (.slice A n c)) (hRo : Reads W W.heap.size 5 A n (opsCells l)) :
    Calls Try.prog 19 #[.int .i64 (i : Int), .pointer (some ⟨po, 0, none⟩)] W (AsksPost W (write o)) := by
  have hno : l.length = n := by have := hRo.1; rw [opsCells_length] at this; omega
  have hil := (List.getElem?_eq_some_iff.1 hoi).1
  have hi2 : (i : Int) < (n : Int) := by omega
  obtain ⟨b, off, rfl, hb, c0, c1, c2, c3, c4⟩ := op_cells hRo hoi
  have HW := Lib.hid (show write o = (o.kind == 2 || o.kind == 3 || o.kind == 5) from rfl)
  clear hRo hoi hno c1 c2 c3 c4
  cases h2 : (o.kind == 2) with
  | true =>
    go_enter Try.func19, Try.ntmps19
    go_wp2
    go_ret
    exact ⟨ret_bool (by rw [HW.out, h2]; rfl), Below.refl _ _⟩
  | false =>
    cases h3 : (o.kind == 3) with
    | true =>
      go_enter Try.func19, Try.ntmps19
      go_wp2
      go_ret
      exact ⟨ret_bool (by rw [HW.out, h2, h3]; rfl), Below.refl _ _⟩
    | false =>
      go_enter Try.func19, Try.ntmps19
      go_wp2
      go_ret
      exact ⟨ret_bool (by rw [HW.out, h2, h3]; rfl), Below.refl _ _⟩
set_option maxHeartbeats 1000000 in
theorem parts4_fn (i n g pc : Nat) (B : Nat → Bool) (W : World) (hi : i < n) (hc : W.cell? ⟨pc, 0, none⟩ = some (.slice (some ⟨g, 0, none⟩) n n)) (hG : Blk W g 4 (boolCells n B)) :
    Calls Try.prog 21 #[.int .i64 (i : Int), .pointer (some ⟨pc, 0, none⟩)] W (AsksPost W (B i)) := by
  have hi2 : (i : Int) < (n : Int) := by omega
  have hc1 := (hG.cell i).trans (boolCells_get hi)
  generalize B i = bi at hc1
  clear hG
  go_enter Try.func21, Try.ntmps21
  go_wp2
  go_ret
  exact ⟨rfl, Below.refl _ _⟩
end Go.Proofs.Ytoohcnjilmcimaa

/-! SliceParts: its walk: whatever the operations, keys and kinds, true. -/
namespace Go.Proofs.Ytoohcnjilmcimaa
open Go.RowKit AmS

theorem blk_own_ne {w : World} {base : Nat} {e t : TypeId} {size n g : Nat} {v : Value} {xs : List Value} {cs : Array Value} (h : w.ownsRow base e size v n xs) (hg : Blk w g t cs) (hne : e ≠ t) : v.ownBlock = none ∨ v.ownBlock ≠ some g := by
  rcases h.2 with ⟨rfl, _⟩ | ⟨g', cap, cur, rfl, _, hh, _⟩
  · exact .inl rfl
  · refine .inr fun he => ?_
    have : g' = g := by simpa [Value.ownBlock] using he
    subst this
    unfold Blk at hg
    rw [hh] at hg
    injection hg with hg
    injection hg with _ ht
    exact hne ht
theorem own_set {w : World} {base : Nat} {e t : TypeId} {size n g : Nat} {v : Value} {xs : List Value} {cs : Array Value} (h : w.ownsRow base e size v n xs) (hg : Blk w g t cs) (hne : e ≠ t) (i : Nat) (u : Value) : (w.setCell ⟨g, i, none⟩ u).ownsRow base e size v n xs :=
  h.kept (row := some g) ⟨rfl, rfl, rfl, by simp, fun k _ hk => Below.heap_setCell w ⟨g, i, none⟩ u k (fun he => hk (by rw [he]))⟩ (blk_own_ne h hg hne)

theorem cell_new6 {W : World} {o : Obj} {a : Addr} {v : Value} (h : W.cell? a = some v) : (W.alloc o).cell? a = some v := (World.cell?_alloc_lt W o a (World.block_lt_of_cell? W a h)).trans h
theorem own_ne_of {v : Value} {g : Nat} (h : v.ownBlock = none ∨ v.ownBlock ≠ some g) : some g ≠ v.ownBlock := fun he => h.elim (fun h0 => by rw [h0] at he; cases he) (fun h1 => h1 he.symm)
theorem counts_all (l : List SOp) : keptF (fun i _ => cnt l l.length i) 0 l = shrink l := by
  rw [← counts_kept]
  apply keptF_congr
  intro j o _
  unfold cnt
  rw [List.take_length, List.getD_eq_getElem?_getD]
/-- the boxes of the three arguments -/
structure PartsIn (w W : World) (A B C : Option Addr) (n c m d q f : Nat) : Prop where
  ops : W.cell? ⟨w.heap.size, 0, none⟩ = some (.slice A n c)
  keys : W.cell? ⟨w.heap.size + 1, 0, none⟩ = some (.slice B m d)
  kinds : W.cell? ⟨w.heap.size + 1 + 1, 0, none⟩ = some (.slice C q f)
  below : Below w.heap.size w W
  size : w.heap.size + 1 + 1 < W.heap.size
theorem PartsIn.next {w W W' : World} {A B C : Option Addr} {n c m d q f : Nat} (h : PartsIn w W A B C n c m d q f) (hb : Below W.heap.size W W') : PartsIn w W' A B C n c m d q f :=
  ⟨cell_at hb h.ops, cell_at hb h.keys, cell_at hb h.kinds, below_next hb h.below, Nat.lt_of_lt_of_le h.size hb.size⟩
theorem parts_start (w : World) (A B C : Option Addr) (n c m d q f : Nat) : PartsIn w (((w.alloc (.cells #[.slice A n c] 22)).alloc (.cells #[.slice B m d] 23)).alloc (.cells #[.slice C q f] 24)) A B C n c m d q f := by
  have h1 := ((Blk.new w 22 #[.slice A n c]).alloc (.cells #[.slice B m d] 23)).alloc (.cells #[.slice C q f] 24)
  have h2 := (Blk.new (w.alloc (.cells #[.slice A n c] 22)) 23 #[.slice B m d]).alloc (.cells #[.slice C q f] 24)
  have h3 := Blk.new ((w.alloc (.cells #[.slice A n c] 22)).alloc (.cells #[.slice B m d] 23)) 24 #[.slice C q f]
  simp only [World.size_alloc] at h2 h3
  exact ⟨h1.cell 0, h2.cell 0, h3.cell 0, (((Below.refl _ w).alloc (Nat.le_refl _) _).alloc (by simp) _).alloc (by simp; omega) _, by simp⟩

set_option maxHeartbeats 1000000 in
theorem parts_long (A B C : Option Addr) (n c m d q f : Nat) (w : World) (h : 150 < n ∨ 30 < m ∨ 10 < q) :
    Calls Try.prog 3 #[.slice A n c, .slice B m d, .slice C q f] w (LawYes w) := by
  have HS := parts_start w A B C n c m d q f
  obtain ⟨W, hW⟩ : ∃ W, W = ((w.alloc (.cells #[.slice A n c] 22)).alloc (.cells #[.slice B m d] 23)).alloc (.cells #[.slice C q f] 24) := ⟨_, rfl⟩
  rw [← hW] at HS
  have HA := Lib.hid (alive38 W)
  have HW := Lib.hid hW
  clear hW
  by_cases h1 : 150 < n
  · have h1' : (150 : Int) < (n : Int) := by omega
    go_enter Try.func3, Try.ntmps3
    go_wp2_with fail
    rw [← HW.out]
    refine HA.out.mono ?_
    rintro e W1 ⟨rfl, hb⟩
    have HS1 := HS.next hb
    have y3 := HS1.ops
    have y4 := HS1.keys
    have y5 := HS1.kinds
    go_wp2
    go_ret
    exact ⟨rfl, HS1.below⟩
  · have h1' : ¬ (150 : Int) < (n : Int) := by omega
    by_cases h2 : 30 < m
    · have h2' : (30 : Int) < (m : Int) := by omega
      go_enter Try.func3, Try.ntmps3
      go_wp2_with fail
      rw [← HW.out]
      refine HA.out.mono ?_
      rintro e W1 ⟨rfl, hb⟩
      have HS1 := HS.next hb
      have y3 := HS1.ops
      have y4 := HS1.keys
      have y5 := HS1.kinds
      go_wp2
      go_ret
      exact ⟨rfl, HS1.below⟩
    · have h2' : ¬ (30 : Int) < (m : Int) := by omega
      have h3' : (10 : Int) < (q : Int) := by omega
      go_enter Try.func3, Try.ntmps3
      go_wp2_with fail
      rw [← HW.out]
      refine HA.out.mono ?_
      rintro e W1 ⟨rfl, hb⟩
      have HS1 := HS.next hb
      have y3 := HS1.ops
      have y4 := HS1.keys
      have y5 := HS1.kinds
      go_wp2
      go_ret
      exact ⟨rfl, HS1.below⟩
theorem info_ROp : (Try.prog.info? 30).map (fun i => (i.zero, i.size, i.bytes)) = some (some (.agg #[.int .i64 0, .int .u64 0, .int .u64 0, .int .u64 0, .int .i64 0]), 5, 40) := by kernel_rfl
theorem slty_ROp2 : SlTy Try.prog 26 30 5 40 := slTy Try.underlying26 info_ROp rfl (by decide) (by decide)
/-- where the loop that copies stands -/
structure CopyAt (w W1 : World) (A B C : Option Addr) (n c m d q f : Nat) (l : List SOp) (k : Nat) (v : Value) (wr : World) : Prop where
  box : Blk wr (W1.heap.size + 1) 26 #[v]
  row : wr.ownsRow W1.heap.size 30 5 v k (opsCells (l.take k))
  below : Below W1.heap.size W1 wr
set_option maxHeartbeats 8000000 in
set_option maxRecDepth 100000 in
theorem parts_few (A B C : Option Addr) (n c m d q f : Nat) (l : List SOp) (ks kd : List Int) (w : World) (h : Reads w w.heap.size 5 A n (opsCells l)) (hk : Reads w w.heap.size 1 B m (ks.map (Value.int .u64))) (hd : Reads w w.heap.size 1 C q (kd.map (Value.int .i64))) (hwf : ∀ o ∈ l, opWf o) (hn : n ≤ 150) (hm : m ≤ 30) (hq : q ≤ 10) :
    Calls Try.prog 3 #[.slice A n c, .slice B m d, .slice C q f] w (LawYes w) := by
  have hl : l.length = n := by have := h.1; rw [opsCells_length] at this; omega
  subst hl
  have h1' : ¬ (150 : Int) < (l.length : Int) := by omega
  have h2' : ¬ (30 : Int) < (m : Int) := by omega
  have h3' : ¬ (10 : Int) < (q : Int) := by omega
  have HS := parts_start w A B C l.length c m d q f
  obtain ⟨W, hW⟩ : ∃ W, W = ((w.alloc (.cells #[.slice A l.length c] 22)).alloc (.cells #[.slice B m d] 23)).alloc (.cells #[.slice C q f] 24) := ⟨_, rfl⟩
  rw [← hW] at HS
  have HA := Lib.hid (alive38 W)
  have HW := Lib.hid hW
  have HOf := Lib.hid (fun o V => law31_Of o V)
  clear hW
  go_enter Try.func3, Try.ntmps3
  go_wp2_with fail
  rw [← HW.out]
  refine HA.out.mono ?_
  rintro e W1 ⟨rfl, hb1⟩
  have HS1 := HS.next hb1
  have y3 := HS1.ops
  have y4 := HS1.keys
  have y5 := HS1.kinds
  go_upto_region 6 with fail
  have hC0 : CopyAt w W1 A B C l.length c m d q f l 0 (.slice (some ⟨W1.heap.size, 0, none⟩) 0 0) ((W1.alloc (.cells #[] 30)).alloc (.cells #[.slice (some ⟨W1.heap.size, 0, none⟩) 0 0] 26)) :=
    ⟨by have := Blk.new (W1.alloc (.cells #[] 30)) 26 #[.slice (some ⟨W1.heap.size, 0, none⟩) 0 0]; rw [World.size_alloc] at this; exact this,
      (own_none W1 W1.heap.size 30 5 (Nat.le_refl _)).alloc _, ((Below.refl _ W1).alloc (Nat.le_refl _) _).alloc (by simp) _⟩
  obtain ⟨W2, hW2⟩ : ∃ W2, W2 = (W1.alloc (.cells #[] 30)).alloc (.cells #[.slice (some ⟨W1.heap.size, 0, none⟩) 0 0] 26) := ⟨_, rfl⟩
  rw [← hW2] at hC0 ⊢
  clear hW2
  have y3' := (HS1.next hC0.below).ops
  clear y3 y4 y5
  go_wp2
  clear y3'
  go_loopw [9, 33] (fun _ i wr => ∃ k : Nat, k ≤ l.length ∧ i = .int .i64 k ∧ ∃ v, CopyAt w W1 A B C l.length c m d q f l k v wr) (fun _ i _ => l.length - (intOf i).toNat)
  case atStart => exact ⟨0, by omega, rfl, _, hC0⟩
  case round =>
    clear hC0
    obtain ⟨k, hkl, rfl, v, hC⟩ := hrel
    obtain ⟨wo, rfl⟩ : ∃ wo : World, wo = wr := ⟨_, rfl⟩
    have hbw := HS1.below.trans (hC.below.mono HS1.below.size)
    by_cases hlt : k < l.length
    · have ho : l[k]? = some (l[k]'hlt) := List.getElem?_eq_getElem _
      generalize l[k]'hlt = o at ho
      obtain ⟨b, off, rfl, hb, c0, c1, c2, c3, c4⟩ := op_cells (h.below hbw) ho
      have hlt' : (k : Int) < (l.length : Int) := by omega
      have HT := Lib.hid (show opsCells (l.take (k + 1)) = opsCells (l.take k) ++ [.int .i64 o.kind, .int .u64 o.key, .int .u64 o.val, .int .u64 o.hash, .int .i64 o.iter] from by rw [take_snoc_op ho]; simp [opsCells, opCells])
      have hBx := Blk.new wo 29 #[.int .i64 o.kind, .int .u64 o.key, .int .u64 o.val, .int .u64 o.hash, .int .i64 o.iter]
      have hbx := hC.box.alloc (.cells #[.int .i64 o.kind, .int .u64 o.key, .int .u64 o.val, .int .u64 o.hash, .int .i64 o.iter] 29)
      have hrx := hC.row.alloc (.cells #[.int .i64 o.kind, .int .u64 o.key, .int .u64 o.val, .int .u64 o.hash, .int .i64 o.iter] 29)
      have hbl := hC.below.alloc hC.below.size (.cells #[.int .i64 o.kind, .int .u64 o.key, .int .u64 o.val, .int .u64 o.hash, .int .i64 o.iter] 29)
      have hO := fun U => HOf.out o U
      unfold opV at hO
      have HO := Lib.hid hO
      go_upto_region 9 with fail
      obtain ⟨U, hU⟩ : ∃ U, U = wo.alloc (.cells #[.int .i64 o.kind, .int .u64 o.key, .int .u64 o.val, .int .u64 o.hash, .int .i64 o.iter] 29) := ⟨_, rfl⟩
      rw [← hU] at hBx hbx hrx hbl ⊢
      obtain ⟨p9, hp9⟩ : ∃ p9, wo.heap.size = p9 := ⟨_, rfl⟩
      rw [hp9] at hBx ⊢
      have x7 := hbx.cell 0
      have f7 := hbx.frozen 0
      have z0 := hBx.cell 0
      have z1 := hBx.cell 1
      have z2 := hBx.cell 2
      have z3 := hBx.cell 3
      have z4 := hBx.cell 4
      simp only [List.getElem?_toArray, List.getElem?_cons_zero, List.getElem?_cons_succ] at x7 z0 z1 z2 z3 z4
      clear hU hp9 hO hC hbw c0 c1 c2 c3 c4 ho hBx
      clear f7
      refine wp_region_any (by kernel_rfl) ?_
      try (change wpAny _ _ _ _ _ _ _ (World.drew _))
      refine wpAny_ready (rs := [0, 1]) (by kernel_rfl) (by simp) ?_
      refine AllReady.cons (o := ⟨some 37, _, _, _, _, _⟩) rfl (fun K hK => ?_) (AllReady.cons (o := ⟨some 38, _, _, _, _, _⟩) rfl (fun K hK => ?_) AllReady.nil)
      · go_simp
        first | (refine hK _ _ ?_; clear hK K) | skip
        try simp only [Act.put, List.setIfInBounds_toArray, List.set_cons_zero, List.set_cons_succ]
        refine wpAny_ready (rs := [1]) (by kernel_rfl) (by simp) ?_
        refine AllReady.cons (o := ⟨some 38, _, _, _, _, _⟩) rfl (fun K hK => ?_) AllReady.nil
        go_simp
        first | (refine hK _ _ ?_; clear hK K) | skip
        try simp only [Act.put, List.setIfInBounds_toArray, List.set_cons_zero, List.set_cons_succ]
        refine wpAny_ready (rs := [2]) (by kernel_rfl) (by simp) ?_
        refine AllReady.cons (o := ⟨some 39, _, _, _, _, _⟩) rfl (fun K hK => ?_) AllReady.nil
        go_simp
        refine (HO.out _).mono ?_
        rintro e w6 ⟨rfl, hb6⟩
        replace hb6 : Below U.heap.size U w6 := below_next hb6 (Below.refl _ _).drew
        have x76 := cell_at hb6 x7
        have x77 := fun o => cell_new6 (o := o) x76
        have hbx6 := hbx.below hb6 hbx.lt
        have hrx6 := own_below hrx hb6 (Nat.le_refl _)
        have hbl6 := hbl.trans (hb6.mono hbl.size)
        go_wp2_with fail
        first | (refine hK _ _ ?_; clear hK K) | skip
        try simp only [Act.put, List.setIfInBounds_toArray, List.set_cons_zero, List.set_cons_succ]
        refine wpAny_ready (rs := [3]) (by kernel_rfl) (by simp) ?_
        refine AllReady.cons (o := ⟨some 40, _, _, _, _, _⟩) rfl (fun K hK => ?_) AllReady.nil
        go_simp
        first | (refine hK _ _ ?_; clear hK K) | skip
        try simp only [Act.put, List.setIfInBounds_toArray, List.set_cons_zero, List.set_cons_succ]
        refine wpAny_ready (rs := [4]) (by kernel_rfl) (by simp) ?_
        refine AllReady.cons (o := ⟨some 41, _, _, _, _, _⟩) rfl (fun K hK => ?_) AllReady.nil
        refine step_app (by rfl) (by rfl) slty_ROp2 (hrx6.alloc _) (by rfl) (by rfl) (reads_blk (size := 5) (m := 1) (Blk.new _ _ _) (by rfl)) (by rfl) (by omega) (Nat.le_trans hbl6.size (by simp)) ?_
        intro v8 w8 hown8 hgr8
        obtain ⟨A8, cp8, rfl⟩ := own_form hown8
        have hbl8 := (hbl6.alloc hbl6.size _).trans hgr8.below
        have hbx8 := (hbx6.alloc (.cells #[.int .i64 o.kind, .int .u64 o.key, .int .u64 o.val, .int .u64 o.hash, .int .i64 o.iter] 30)).grown hgr8.by_ (own_ne_of (blk_own_ne hrx6 hbx6 (by decide)))
        have x78 := hbx8.cell 0
        have f78 := hbx8.frozen 0
        simp only [List.getElem?_toArray, List.getElem?_cons_zero] at x78
        first | (refine hK _ _ ?_; clear hK K) | skip
        try simp only [Act.put, List.setIfInBounds_toArray, List.set_cons_zero, List.set_cons_succ]
        refine wpAny_ready (rs := [5]) (by kernel_rfl) (by simp) ?_
        refine AllReady.cons (o := ⟨none, _, _, _, _, _⟩) rfl (fun K hK => ?_) AllReady.nil
        go_simp
        first | (refine hK _ _ ?_; clear hK K) | skip
        try simp only [Act.put, List.setIfInBounds_toArray, List.set_cons_zero, List.set_cons_succ]
        refine wpAny_done (by kernel_rfl) ?_ _
        go_wp2
        go_roundw
        case rel => exact ⟨k + 1, by omega, by go_num, _, hbx8.set_ 0 _, by rw [HT.out]; exact own_set hown8 hbx8 (by decide) 0 _, hbl8.setCell (p := ⟨W1.heap.size + 1, 0, none⟩) (by simp) _⟩
        case measure => simp [intOf]; omega
      · go_simp
        first | (refine hK _ _ ?_; clear hK K) | skip
        try simp only [Act.put, List.setIfInBounds_toArray, List.set_cons_zero, List.set_cons_succ]
        refine wpAny_ready (rs := [0, 2]) (by kernel_rfl) (by simp) ?_
        refine AllReady.cons (o := ⟨some 37, _, _, _, _, _⟩) rfl (fun K hK => ?_) (AllReady.cons (o := ⟨some 39, _, _, _, _, _⟩) rfl (fun K hK => ?_) AllReady.nil)
        · go_simp
          first | (refine hK _ _ ?_; clear hK K) | skip
          try simp only [Act.put, List.setIfInBounds_toArray, List.set_cons_zero, List.set_cons_succ]
          refine wpAny_ready (rs := [2]) (by kernel_rfl) (by simp) ?_
          refine AllReady.cons (o := ⟨some 39, _, _, _, _, _⟩) rfl (fun K hK => ?_) AllReady.nil
          go_simp
          refine (HO.out _).mono ?_
          rintro e w6 ⟨rfl, hb6⟩
          replace hb6 : Below U.heap.size U w6 := below_next hb6 (Below.refl _ _).drew
          have x76 := cell_at hb6 x7
          have x77 := fun o => cell_new6 (o := o) x76
          have hbx6 := hbx.below hb6 hbx.lt
          have hrx6 := own_below hrx hb6 (Nat.le_refl _)
          have hbl6 := hbl.trans (hb6.mono hbl.size)
          go_wp2_with fail
          first | (refine hK _ _ ?_; clear hK K) | skip
          try simp only [Act.put, List.setIfInBounds_toArray, List.set_cons_zero, List.set_cons_succ]
          refine wpAny_ready (rs := [3]) (by kernel_rfl) (by simp) ?_
          refine AllReady.cons (o := ⟨some 40, _, _, _, _, _⟩) rfl (fun K hK => ?_) AllReady.nil
          go_simp
          first | (refine hK _ _ ?_; clear hK K) | skip
          try simp only [Act.put, List.setIfInBounds_toArray, List.set_cons_zero, List.set_cons_succ]
          refine wpAny_ready (rs := [4]) (by kernel_rfl) (by simp) ?_
          refine AllReady.cons (o := ⟨some 41, _, _, _, _, _⟩) rfl (fun K hK => ?_) AllReady.nil
          refine step_app (by rfl) (by rfl) slty_ROp2 (hrx6.alloc _) (by rfl) (by rfl) (reads_blk (size := 5) (m := 1) (Blk.new _ _ _) (by rfl)) (by rfl) (by omega) (Nat.le_trans hbl6.size (by simp)) ?_
          intro v8 w8 hown8 hgr8
          obtain ⟨A8, cp8, rfl⟩ := own_form hown8
          have hbl8 := (hbl6.alloc hbl6.size _).trans hgr8.below
          have hbx8 := (hbx6.alloc (.cells #[.int .i64 o.kind, .int .u64 o.key, .int .u64 o.val, .int .u64 o.hash, .int .i64 o.iter] 30)).grown hgr8.by_ (own_ne_of (blk_own_ne hrx6 hbx6 (by decide)))
          have x78 := hbx8.cell 0
          have f78 := hbx8.frozen 0
          simp only [List.getElem?_toArray, List.getElem?_cons_zero] at x78
          first | (refine hK _ _ ?_; clear hK K) | skip
          try simp only [Act.put, List.setIfInBounds_toArray, List.set_cons_zero, List.set_cons_succ]
          refine wpAny_ready (rs := [5]) (by kernel_rfl) (by simp) ?_
          refine AllReady.cons (o := ⟨none, _, _, _, _, _⟩) rfl (fun K hK => ?_) AllReady.nil
          go_simp
          first | (refine hK _ _ ?_; clear hK K) | skip
          try simp only [Act.put, List.setIfInBounds_toArray, List.set_cons_zero, List.set_cons_succ]
          refine wpAny_done (by kernel_rfl) ?_ _
          go_wp2
          go_roundw
          case rel => exact ⟨k + 1, by omega, by go_num, _, hbx8.set_ 0 _, by rw [HT.out]; exact own_set hown8 hbx8 (by decide) 0 _, hbl8.setCell (p := ⟨W1.heap.size + 1, 0, none⟩) (by simp) _⟩
          case measure => simp [intOf]; omega
        · go_simp
          refine (HO.out _).mono ?_
          rintro e w6 ⟨rfl, hb6⟩
          replace hb6 : Below U.heap.size U w6 := below_next hb6 (Below.refl _ _).drew
          have x76 := cell_at hb6 x7
          have x77 := fun o => cell_new6 (o := o) x76
          have hbx6 := hbx.below hb6 hbx.lt
          have hrx6 := own_below hrx hb6 (Nat.le_refl _)
          have hbl6 := hbl.trans (hb6.mono hbl.size)
          go_wp2_with fail
          first | (refine hK _ _ ?_; clear hK K) | skip
          try simp only [Act.put, List.setIfInBounds_toArray, List.set_cons_zero, List.set_cons_succ]
          refine wpAny_ready (rs := [0, 3]) (by kernel_rfl) (by simp) ?_
          refine AllReady.cons (o := ⟨some 37, _, _, _, _, _⟩) rfl (fun K hK => ?_) (AllReady.cons (o := ⟨some 40, _, _, _, _, _⟩) rfl (fun K hK => ?_) AllReady.nil)
          · go_simp
            first | (refine hK _ _ ?_; clear hK K) | skip
            try simp only [Act.put, List.setIfInBounds_toArray, List.set_cons_zero, List.set_cons_succ]
            refine wpAny_ready (rs := [3]) (by kernel_rfl) (by simp) ?_
            refine AllReady.cons (o := ⟨some 40, _, _, _, _, _⟩) rfl (fun K hK => ?_) AllReady.nil
            go_simp
            first | (refine hK _ _ ?_; clear hK K) | skip
            try simp only [Act.put, List.setIfInBounds_toArray, List.set_cons_zero, List.set_cons_succ]
            refine wpAny_ready (rs := [4]) (by kernel_rfl) (by simp) ?_
            refine AllReady.cons (o := ⟨some 41, _, _, _, _, _⟩) rfl (fun K hK => ?_) AllReady.nil
            refine step_app (by rfl) (by rfl) slty_ROp2 (hrx6.alloc _) (by rfl) (by rfl) (reads_blk (size := 5) (m := 1) (Blk.new _ _ _) (by rfl)) (by rfl) (by omega) (Nat.le_trans hbl6.size (by simp)) ?_
            intro v8 w8 hown8 hgr8
            obtain ⟨A8, cp8, rfl⟩ := own_form hown8
            have hbl8 := (hbl6.alloc hbl6.size _).trans hgr8.below
            have hbx8 := (hbx6.alloc (.cells #[.int .i64 o.kind, .int .u64 o.key, .int .u64 o.val, .int .u64 o.hash, .int .i64 o.iter] 30)).grown hgr8.by_ (own_ne_of (blk_own_ne hrx6 hbx6 (by decide)))
            have x78 := hbx8.cell 0
            have f78 := hbx8.frozen 0
            simp only [List.getElem?_toArray, List.getElem?_cons_zero] at x78
            first | (refine hK _ _ ?_; clear hK K) | skip
            try simp only [Act.put, List.setIfInBounds_toArray, List.set_cons_zero, List.set_cons_succ]
            refine wpAny_ready (rs := [5]) (by kernel_rfl) (by simp) ?_
            refine AllReady.cons (o := ⟨none, _, _, _, _, _⟩) rfl (fun K hK => ?_) AllReady.nil
            go_simp
            first | (refine hK _ _ ?_; clear hK K) | skip
            try simp only [Act.put, List.setIfInBounds_toArray, List.set_cons_zero, List.set_cons_succ]
            refine wpAny_done (by kernel_rfl) ?_ _
            go_wp2
            go_roundw
            case rel => exact ⟨k + 1, by omega, by go_num, _, hbx8.set_ 0 _, by rw [HT.out]; exact own_set hown8 hbx8 (by decide) 0 _, hbl8.setCell (p := ⟨W1.heap.size + 1, 0, none⟩) (by simp) _⟩
            case measure => simp [intOf]; omega
          · go_simp
            first | (refine hK _ _ ?_; clear hK K) | skip
            try simp only [Act.put, List.setIfInBounds_toArray, List.set_cons_zero, List.set_cons_succ]
            refine wpAny_ready (rs := [0]) (by kernel_rfl) (by simp) ?_
            refine AllReady.cons (o := ⟨some 37, _, _, _, _, _⟩) rfl (fun K hK => ?_) AllReady.nil
            go_simp
            first | (refine hK _ _ ?_; clear hK K) | skip
            try simp only [Act.put, List.setIfInBounds_toArray, List.set_cons_zero, List.set_cons_succ]
            refine wpAny_ready (rs := [4]) (by kernel_rfl) (by simp) ?_
            refine AllReady.cons (o := ⟨some 41, _, _, _, _, _⟩) rfl (fun K hK => ?_) AllReady.nil
            refine step_app (by rfl) (by rfl) slty_ROp2 (hrx6.alloc _) (by rfl) (by rfl) (reads_blk (size := 5) (m := 1) (Blk.new _ _ _) (by rfl)) (by rfl) (by omega) (Nat.le_trans hbl6.size (by simp)) ?_
            intro v8 w8 hown8 hgr8
            obtain ⟨A8, cp8, rfl⟩ := own_form hown8
            have hbl8 := (hbl6.alloc hbl6.size _).trans hgr8.below
            have hbx8 := (hbx6.alloc (.cells #[.int .i64 o.kind, .int .u64 o.key, .int .u64 o.val, .int .u64 o.hash, .int .i64 o.iter] 30)).grown hgr8.by_ (own_ne_of (blk_own_ne hrx6 hbx6 (by decide)))
            have x78 := hbx8.cell 0
            have f78 := hbx8.frozen 0
            simp only [List.getElem?_toArray, List.getElem?_cons_zero] at x78
            first | (refine hK _ _ ?_; clear hK K) | skip
            try simp only [Act.put, List.setIfInBounds_toArray, List.set_cons_zero, List.set_cons_succ]
            refine wpAny_ready (rs := [5]) (by kernel_rfl) (by simp) ?_
            refine AllReady.cons (o := ⟨none, _, _, _, _, _⟩) rfl (fun K hK => ?_) AllReady.nil
            go_simp
            first | (refine hK _ _ ?_; clear hK K) | skip
            try simp only [Act.put, List.setIfInBounds_toArray, List.set_cons_zero, List.set_cons_succ]
            refine wpAny_done (by kernel_rfl) ?_ _
            go_wp2
            go_roundw
            case rel => exact ⟨k + 1, by omega, by go_num, _, hbx8.set_ 0 _, by rw [HT.out]; exact own_set hown8 hbx8 (by decide) 0 _, hbl8.setCell (p := ⟨W1.heap.size + 1, 0, none⟩) (by simp) _⟩
            case measure => simp [intOf]; omega
    · obtain rfl : k = l.length := by omega
      have hlt' : ¬ (l.length : Int) < (l.length : Int) := by omega
      have HSo := HS1.next hC.below
      have y3 := HSo.ops
      have hown := hC.row
      rw [List.take_length] at hown
      obtain ⟨Aa, ca, rfl⟩ := own_form hown
      have x7 := hC.box.cell 0
      simp only [List.getElem?_toArray, List.getElem?_cons_zero] at x7
      have hX70 := Lib.hid x7
      have hRa := Reads.of_own hown
      have HL := Lib.hid (fun (V : World) (hV : Below wo.heap.size wo V) => (h.below (hbw.trans (hV.mono hbw.size))).more (Nat.le_trans hbw.size hV.size))
      have HK1 := Lib.hid (fun (V : World) (hV : Below wo.heap.size wo V) => slice_Keys A l.length c l V (HL.out V hV) (by omega) hwf)
      have HK2 := Lib.hid (fun (V : World) (hV : Below wo.heap.size wo V) => ref38_Keys Aa l.length ca l V ((hRa.below hV).more hV.size) (by omega))
      have HC3 := Lib.hid (fun (V : World) (hV : Below wo.heap.size wo V) => ref38_Count Aa l.length ca l V ((hRa.below hV).more hV.size) (by omega))
      have HRa := Lib.hid (fun (V : World) (hV : Below wo.heap.size wo V) => (hRa.below hV).more hV.size)
      have HCb := hC.below
      clear hC hRa hown
      go_wp2
      refine wp_region_held_drew (S := fun w' => (w'.cell? ⟨w.heap.size, 0, none⟩ = some (.slice A l.length c) ∧ w'.cell? ⟨W1.heap.size + 1, 0, none⟩ = some (.slice Aa l.length ca)) ∧ Below wo.heap.size wo w') (by kernel_rfl) ⟨⟨y3, x7⟩, (Below.refl _ _).drew⟩ (fun hHeld => ?_)
      refine wpAnyH_take (i := 0) (oi := ⟨some 43, _, _, _, _, _⟩) (v := .slice A l.length c) rfl (by kernel_rfl) (by kernel_rfl) (by kernel_rfl) (fun _ _ _ h => h) (Or.inl ⟨by rfl, ?_⟩) hHeld ?_
      · rintro w ⟨⟨_, _⟩, _⟩
        go_simp
      try simp only [Act.put, List.setIfInBounds_toArray, List.set_cons_zero, List.set_cons_succ]
      refine wpAnyH_take (i := 2) (oi := ⟨some 45, _, _, _, _, _⟩) (v := .slice Aa l.length ca) rfl (by kernel_rfl) (by kernel_rfl) (by kernel_rfl) (fun _ _ _ h => h) (Or.inl ⟨by rfl, ?_⟩) hHeld ?_
      · rintro w ⟨⟨_, _⟩, _⟩
        go_simp
      try simp only [Act.put, List.setIfInBounds_toArray, List.set_cons_zero, List.set_cons_succ]
      refine wpAnyH_ready (rs := [1]) (by kernel_rfl) (by simp) ?_
      refine AllReadyH.cons (o := ⟨some 44, _, _, _, _, _⟩) rfl (fun K hK => ?_) AllReadyH.nil
      go_simp
      refine (HK1.out _ (Below.refl _ _).drew).mono ?_
      rintro e w5 ⟨v5, k5, rfl, hown5, hk5, _, hb5⟩
      subst hk5
      replace hb5 : Below wo.heap.size wo w5 := below_next hb5 (Below.refl _ _).drew
      go_wp2_with fail
      refine hK.out _ _ ⟨⟨cell_at hb5 y3, cell_at hb5 x7⟩, hb5⟩ (fun hHeld => ?_)
      clear hK K
      try simp only [Act.put, List.setIfInBounds_toArray, List.set_cons_zero, List.set_cons_succ]
      refine wpAnyH_ready (rs := [3]) (by kernel_rfl) (by simp) ?_
      refine AllReadyH.cons (o := ⟨some 46, _, _, _, _, _⟩) rfl (fun K hK => ?_) AllReadyH.nil
      go_simp
      refine (HK2.out _ hb5).mono ?_
      rintro e w6 ⟨v6, rfl, hown6, hb6⟩
      have hb56 := below_next hb6 hb5
      go_wp2_with fail
      refine hK.out _ _ ⟨⟨cell_at hb56 y3, cell_at hb56 x7⟩, hb56⟩ (fun hHeld => ?_)
      clear hK K
      try simp only [Act.put, List.setIfInBounds_toArray, List.set_cons_zero, List.set_cons_succ]
      refine wpAnyH_take (i := 4) (oi := ⟨some 10, _, _, _, _, _⟩) (v := v5) rfl (by kernel_rfl) (by kernel_rfl) (by kernel_rfl) (fun _ _ _ h => h) (Or.inl ⟨by rfl, ?_⟩) hHeld ?_
      · rintro w ⟨⟨_, _⟩, _⟩
        go_simp
      try simp only [Act.put, List.setIfInBounds_toArray, List.set_cons_zero, List.set_cons_succ]
      refine wpAnyH_take (i := 5) (oi := ⟨some 11, _, _, _, _, _⟩) (v := v6) rfl (by kernel_rfl) (by kernel_rfl) (by kernel_rfl) (fun _ _ _ h => h) (Or.inl ⟨by rfl, ?_⟩) hHeld ?_
      · rintro w ⟨⟨_, _⟩, _⟩
        go_simp
      try simp only [Act.put, List.setIfInBounds_toArray, List.set_cons_zero, List.set_cons_succ]
      refine wpAnyH_done (by kernel_rfl) ?_ _
      obtain ⟨A5, c5, rfl⟩ := own_form hown5
      obtain ⟨A6, c6, rfl⟩ := own_form hown6
      have r5 := (Reads.of_own hown5).below hb6
      have r6 := Reads.of_own hown6
      have hkl : (keysR l).length ≤ 300 := by
        have := foldl_insR_length l []
        unfold keysR
        simp only [List.length_nil] at this
        omega
      have y3 := cell_at hb56 y3
      have x7 := cell_at hb56 x7
      have hZ7 := Lib.hid x7
      obtain ⟨kz, hkz⟩ : ∃ kz, kz = keysR l := ⟨_, rfl⟩
      rw [← hkz] at r5 r6 hkl ⊢
      clear hkz hown5 hown6
      have hll : ((kz.length : Int) != (kz.length : Int)) = false := by simp
      go_wp2
      go_loop [12, 13, 54] (fun _ _ i => ∃ j : Nat, j ≤ kz.length ∧ i = .int .i64 j) (fun _ _ i => kz.length - (intOf i).toNat)
      case atStart => exact ⟨0, by omega, rfl⟩
      case round =>
        obtain ⟨j, hj, rfl⟩ := hrel
        by_cases hjt : j < kz.length
        · have hy : kz[j]? = some (kz[j]'hjt) := List.getElem?_eq_getElem _
          generalize kz[j]'hjt = y at hy
          obtain ⟨ba, oa, rfl, hba, hca⟩ := r5.cells_ (by omega)
          obtain ⟨bb, ob, rfl, hbb, hcb⟩ := r6.cells_ (by omega)
          have d1 := hca j (.int .u64 y) (by simp [keyVs, hy])
          have d2 := hcb j (.int .u64 y) (by simp [keyVs, hy])
          have hjt' : (j : Int) < (kz.length : Int) := by omega
          have hyy : (y != y) = false := by simp
          clear hca hcb hy r5 r6
          go_wp2
          go_round
          case rel => exact ⟨j + 1, by omega, by go_num⟩
          case measure => simp [intOf]; omega
        · have hjt' : ¬ (j : Int) < (kz.length : Int) := by omega
          clear r5 r6
          go_wp2_with fail
          refine (HC3.out _ hb56).mono ?_
          rintro e w7 ⟨rfl, hcnt, hb7⟩
          have hb57 := below_next hb7 hb56
          go_upto_region 21 with fail
          obtain ⟨p14, hp14⟩ : ∃ p14, w7.heap.size = p14 := ⟨_, rfl⟩
          have hB14 := Blk.new w7 34 #[.slice (some ⟨w6.heap.size, 0, none⟩) l.length l.length]
          have hcnt14 := hcnt.alloc (.cells #[.slice (some ⟨w6.heap.size, 0, none⟩) l.length l.length] 34)
          have hb58 := hb57.alloc hb57.size (.cells #[.slice (some ⟨w6.heap.size, 0, none⟩) l.length l.length] 34)
          rw [hp14] at hB14 ⊢
          obtain ⟨V, hV⟩ : ∃ V, w7.alloc (.cells #[.slice (some ⟨w6.heap.size, 0, none⟩) l.length l.length] 34) = V := ⟨_, rfl⟩
          rw [hV] at hB14 hcnt14 hb58 ⊢
          obtain ⟨g14, hg14⟩ : ∃ g, w6.heap.size = g := ⟨_, rfl⟩
          rw [hg14] at hB14 hcnt14
          have x14 := hB14.cell 0
          simp only [List.getElem?_toArray, List.getElem?_cons_zero] at x14
          have HSv := HSo.next hb58
          have y3 := HSv.ops
          have y4 := HSv.keys
          have y5 := HSv.kinds
          have x7 := cell_at hb58 hX70.out
          have hbv := HSv.below
          have L := Lib.hid (fun (U : World) (hU : Below V.heap.size V U) => HL.out U (below_next hU hb58))
          have La := Lib.hid (fun (U : World) (hU : Below V.heap.size V U) => HRa.out U (below_next hU hb58))
          have Lk := Lib.hid (fun (U : World) (hU : Below V.heap.size V U) => (hk.below (hbv.trans (hU.mono hbv.size))).more (Nat.le_trans hbv.size hU.size))
          have Ld := Lib.hid (fun (U : World) (hU : Below V.heap.size V U) => (hd.below (hbv.trans (hU.mono hbv.size))).more (Nat.le_trans hbv.size hU.size))
          obtain ⟨lo, hlo⟩ : ∃ lo, lo = l.filter (fun o => !keyedP o.kind || ks.contains o.key) := ⟨_, rfl⟩
          obtain ⟨lw, hlw⟩ : ∃ lw, lw = l.filter (fun o => !kd.contains o.kind) := ⟨_, rfl⟩
          obtain ⟨lr, hlr⟩ : ∃ lr, lr = l.filter write := ⟨_, rfl⟩
          obtain ⟨ls, hls⟩ : ∃ ls, ls = shrink l := ⟨_, rfl⟩
          have zo : lo.length ≤ 150 := by rw [hlo]; exact Nat.le_trans (List.length_filter_le _ _) hn
          have zw : lw.length ≤ 150 := by rw [hlw]; exact Nat.le_trans (List.length_filter_le _ _) hn
          have zr : lr.length ≤ 150 := by rw [hlr]; exact Nat.le_trans (List.length_filter_le _ _) hn
          have zs : ls.length ≤ 150 := by rw [hls, ← shrink_kept]; exact Nat.le_trans (keptF_length _ _ _) hn
          have HOnly := Lib.hid (fun (U : World) (hU : Below V.heap.size V U) => show Calls Try.prog 11 #[.slice A l.length c, .slice B m d] U (KeptPost U lo) from hlo ▸ slice_Only A l.length c l B m d ks U (L.out U hU) (by omega) (Lk.out U hU) (by omega))
          have HWithout := Lib.hid (fun (U : World) (hU : Below V.heap.size V U) => show Calls Try.prog 15 #[.slice A l.length c, .slice C q f] U (KeptPost U lw) from hlw ▸ slice_Without A l.length c l C q f kd U (L.out U hU) (by omega) (Ld.out U hU) (by omega))
          have HWrites := Lib.hid (fun (U : World) (hU : Below V.heap.size V U) => show Calls Try.prog 18 #[.slice A l.length c] U (KeptPost U lr) from hlr ▸ slice_Writes A l.length c l U (L.out U hU) (by omega))
          have HShrink := Lib.hid (fun (U : World) (hU : Below V.heap.size V U) => show Calls Try.prog 20 #[.slice A l.length c] U (KeptPost U ls) from hls ▸ slice_Shrink A l.length c l U (L.out U hU) (by omega))
          have S1 := Lib.hid (fun (U : World) (hU : Below V.heap.size V U) (X : Option Addr) (cx : Nat) (hX : Reads U U.heap.size 5 X lo.length (opsCells lo)) => law_same X lo.length cx A l.length c lo l (fun _ o => !keyedP o.kind || ks.contains o.key) 12 #[.pointer (some ⟨W1.heap.size + 1, 0, none⟩), .pointer (some ⟨w.heap.size + 1, 0, none⟩), .pointer (some ⟨w.heap.size, 0, none⟩)] U hX (L.out U hU) (by omega) (by omega) (enters_of Try.func12 (by kernel_rfl) rfl)
            (fun U2 i o hio hU2 => parts1_fn i o _ _ _ Aa B A l.length ca m d l.length c l ks U2 hio (by omega) (cell_at (below_next hU2 hU) x7) (cell_at (below_next hU2 hU) y4) (cell_at (below_next hU2 hU) y3) (La.out U2 (below_next hU2 hU)) (Lk.out U2 (below_next hU2 hU)) (L.out U2 (below_next hU2 hU)) (by omega)) (hlo.trans (keptF_filter _ l 0).symm))
          have S2 := Lib.hid (fun (U : World) (hU : Below V.heap.size V U) (X : Option Addr) (cx : Nat) (hX : Reads U U.heap.size 5 X lw.length (opsCells lw)) => law_same X lw.length cx A l.length c lw l (fun _ o => !kd.contains o.kind) 16 #[.pointer (some ⟨w.heap.size + 1 + 1, 0, none⟩), .pointer (some ⟨w.heap.size, 0, none⟩)] U hX (L.out U hU) (by omega) (by omega) (enters_of Try.func16 (by kernel_rfl) rfl)
            (fun U2 i o hio hU2 => parts2_fn i o _ _ C A q f l.length c l kd U2 hio (cell_at (below_next hU2 hU) y5) (cell_at (below_next hU2 hU) y3) (Ld.out U2 (below_next hU2 hU)) (L.out U2 (below_next hU2 hU)) (by omega)) (hlw.trans (keptF_filter _ l 0).symm))
          have S3 := Lib.hid (fun (U : World) (hU : Below V.heap.size V U) (X : Option Addr) (cx : Nat) (hX : Reads U U.heap.size 5 X lr.length (opsCells lr)) => law_same X lr.length cx A l.length c lr l (fun _ o => write o) 19 #[.pointer (some ⟨w.heap.size, 0, none⟩)] U hX (L.out U hU) (by omega) (by omega) (enters_of Try.func19 (by kernel_rfl) rfl)
            (fun U2 i o hio hU2 => parts3_fn i o _ A l.length c l U2 hio (cell_at (below_next hU2 hU) y3) (L.out U2 (below_next hU2 hU))) (hlr.trans (keptF_filter _ l 0).symm))
          have S4 := Lib.hid (fun (U : World) (hU : Below V.heap.size V U) (X : Option Addr) (cx : Nat) (hX : Reads U U.heap.size 5 X ls.length (opsCells ls)) => law_same X ls.length cx A l.length c ls l (fun i _ => cnt l l.length i) 21 #[.pointer (some ⟨p14, 0, none⟩)] U hX (L.out U hU) (by omega) (by omega) (enters_of Try.func21 (by kernel_rfl) rfl)
            (fun U2 i o hio hU2 => parts4_fn i l.length g14 p14 (cnt l l.length) U2 (List.getElem?_eq_some_iff.1 hio).1 (cell_at (below_next hU2 hU) x14) (hcnt14.below (below_next hU2 hU) hcnt14.lt)) (hls.trans (counts_all l).symm))
          clear hlo hlw hlr hls hk hd h hwf x7 x14 hcnt14 hcnt hB14 hV hp14 hg14 hbw HCb hb58 hb57 hb56 hb5 hb6 hb7 HSo HSv
          refine wp_region_held_drew (S := fun w' => (w'.cell? ⟨w.heap.size, 0, none⟩ = some (.slice A l.length c) ∧ w'.cell? ⟨w.heap.size + 1, 0, none⟩ = some (.slice B m d) ∧ w'.cell? ⟨w.heap.size + 1 + 1, 0, none⟩ = some (.slice C q f)) ∧ Below V.heap.size V w') (by kernel_rfl) ⟨⟨y3, y4, y5⟩, (Below.refl _ _).drew⟩ (fun hHeld => ?_)
          refine wpAnyH_take (i := 0) (oi := ⟨some 68, _, _, _, _, _⟩) (v := .slice A l.length c) rfl (by kernel_rfl) (by kernel_rfl) (by kernel_rfl) (fun _ _ _ h => h) (Or.inl ⟨by rfl, ?_⟩) hHeld ?_
          · rintro w ⟨⟨_, _, _⟩, _⟩
            go_simp
          try simp only [Act.put, List.setIfInBounds_toArray, List.set_cons_zero, List.set_cons_succ]
          refine wpAnyH_take (i := 1) (oi := ⟨some 69, _, _, _, _, _⟩) (v := .slice B m d) rfl (by kernel_rfl) (by kernel_rfl) (by kernel_rfl) (fun _ _ _ h => h) (Or.inl ⟨by rfl, ?_⟩) hHeld ?_
          · rintro w ⟨⟨_, _, _⟩, _⟩
            go_simp
          try simp only [Act.put, List.setIfInBounds_toArray, List.set_cons_zero, List.set_cons_succ]
          refine wpAnyH_take (i := 3) (oi := ⟨some 71, _, _, _, _, _⟩) (v := .slice A l.length c) rfl (by kernel_rfl) (by kernel_rfl) (by kernel_rfl) (fun _ _ _ h => h) (Or.inl ⟨by rfl, ?_⟩) hHeld ?_
          · rintro w ⟨⟨_, _, _⟩, _⟩
            go_simp
          try simp only [Act.put, List.setIfInBounds_toArray, List.set_cons_zero, List.set_cons_succ]
          refine wpAnyH_take (i := 4) (oi := ⟨some 72, _, _, _, _, _⟩) (v := .func (.func 12) #[] #[.pointer (some ⟨W1.heap.size + 1, 0, none⟩), .pointer (some ⟨w.heap.size + 1, 0, none⟩), .pointer (some ⟨w.heap.size, 0, none⟩)]) rfl (by kernel_rfl) (by kernel_rfl) (by kernel_rfl) (fun _ _ _ h => h) (Or.inl ⟨by rfl, ?_⟩) hHeld ?_
          · rintro w ⟨⟨_, _, _⟩, _⟩
            go_simp
          try simp only [Act.put, List.setIfInBounds_toArray, List.set_cons_zero, List.set_cons_succ]
          refine wpAnyH_ready (rs := [2]) (by kernel_rfl) (by simp) ?_
          refine AllReadyH.cons (o := ⟨some 70, _, _, _, _, _⟩) rfl (fun K hK => ?_) AllReadyH.nil
          go_simp
          refine (HOnly.out _ (Below.refl _ _).drew).mono ?_
          rintro e u1 ⟨v1, rfl, p1, q1⟩
          have z1 := below_next q1 (Below.refl _ _).drew
          obtain ⟨X1, x1, rfl⟩ := own_form p1
          go_wp2_with fail
          refine hK.out _ _ ⟨⟨cell_at z1 y3, cell_at z1 y4, cell_at z1 y5⟩, z1⟩ (fun hHeld => ?_)
          clear hK K
          try simp only [Act.put, List.setIfInBounds_toArray, List.set_cons_zero, List.set_cons_succ]
          refine wpAnyH_ready (rs := [5]) (by kernel_rfl) (by simp) ?_
          refine AllReadyH.cons (o := ⟨some 73, _, _, _, _, _⟩) rfl (fun K hK => ?_) AllReadyH.nil
          go_simp
          refine (S1.out _ z1 _ _ (Reads.of_own p1)).mono ?_
          rintro e u2 ⟨rfl, q2⟩
          have z2 := below_next q2 z1
          go_wp2_with fail
          refine hK.out _ _ ⟨⟨cell_at z2 y3, cell_at z2 y4, cell_at z2 y5⟩, z2⟩ (fun hHeld => ?_)
          clear hK K
          try simp only [Act.put, List.setIfInBounds_toArray, List.set_cons_zero, List.set_cons_succ]
          refine wpAnyH_take (i := 6) (oi := ⟨some 74, _, _, _, _, _⟩) (v := .bool true) rfl (by kernel_rfl) (by kernel_rfl) (by kernel_rfl) (fun _ _ _ h => h) (Or.inl ⟨by rfl, ?_⟩) hHeld ?_
          · rintro w ⟨⟨_, _, _⟩, _⟩
            go_simp
          try simp only [Act.put, List.setIfInBounds_toArray, List.set_cons_zero, List.set_cons_succ]
          refine wpAnyH_take (i := 7) (oi := ⟨some 75, _, _, _, _, _⟩) (v := .slice A l.length c) rfl (by kernel_rfl) (by kernel_rfl) (by kernel_rfl) (fun _ _ _ h => h) (Or.inl ⟨by rfl, ?_⟩) hHeld ?_
          · rintro w ⟨⟨_, _, _⟩, _⟩
            go_simp
          try simp only [Act.put, List.setIfInBounds_toArray, List.set_cons_zero, List.set_cons_succ]
          refine wpAnyH_take (i := 8) (oi := ⟨some 76, _, _, _, _, _⟩) (v := .slice C q f) rfl (by kernel_rfl) (by kernel_rfl) (by kernel_rfl) (fun _ _ _ h => h) (Or.inl ⟨by rfl, ?_⟩) hHeld ?_
          · rintro w ⟨⟨_, _, _⟩, _⟩
            go_simp
          try simp only [Act.put, List.setIfInBounds_toArray, List.set_cons_zero, List.set_cons_succ]
          refine wpAnyH_take (i := 10) (oi := ⟨some 78, _, _, _, _, _⟩) (v := .slice A l.length c) rfl (by kernel_rfl) (by kernel_rfl) (by kernel_rfl) (fun _ _ _ h => h) (Or.inl ⟨by rfl, ?_⟩) hHeld ?_
          · rintro w ⟨⟨_, _, _⟩, _⟩
            go_simp
          try simp only [Act.put, List.setIfInBounds_toArray, List.set_cons_zero, List.set_cons_succ]
          refine wpAnyH_take (i := 11) (oi := ⟨some 79, _, _, _, _, _⟩) (v := .func (.func 16) #[] #[.pointer (some ⟨w.heap.size + 1 + 1, 0, none⟩), .pointer (some ⟨w.heap.size, 0, none⟩)]) rfl (by kernel_rfl) (by kernel_rfl) (by kernel_rfl) (fun _ _ _ h => h) (Or.inl ⟨by rfl, ?_⟩) hHeld ?_
          · rintro w ⟨⟨_, _, _⟩, _⟩
            go_simp
          try simp only [Act.put, List.setIfInBounds_toArray, List.set_cons_zero, List.set_cons_succ]
          refine wpAnyH_ready (rs := [9]) (by kernel_rfl) (by simp) ?_
          refine AllReadyH.cons (o := ⟨some 77, _, _, _, _, _⟩) rfl (fun K hK => ?_) AllReadyH.nil
          go_simp
          refine (HWithout.out _ z2).mono ?_
          rintro e u3 ⟨v3, rfl, p3, q3⟩
          have z3 := below_next q3 z2
          obtain ⟨X3, x3, rfl⟩ := own_form p3
          go_wp2_with fail
          refine hK.out _ _ ⟨⟨cell_at z3 y3, cell_at z3 y4, cell_at z3 y5⟩, z3⟩ (fun hHeld => ?_)
          clear hK K
          try simp only [Act.put, List.setIfInBounds_toArray, List.set_cons_zero, List.set_cons_succ]
          refine wpAnyH_ready (rs := [12]) (by kernel_rfl) (by simp) ?_
          refine AllReadyH.cons (o := ⟨some 80, _, _, _, _, _⟩) rfl (fun K hK => ?_) AllReadyH.nil
          go_simp
          refine (S2.out _ z3 _ _ (Reads.of_own p3)).mono ?_
          rintro e u4 ⟨rfl, q4⟩
          have z4 := below_next q4 z3
          go_wp2_with fail
          refine hK.out _ _ ⟨⟨cell_at z4 y3, cell_at z4 y4, cell_at z4 y5⟩, z4⟩ (fun hHeld => ?_)
          clear hK K
          try simp only [Act.put, List.setIfInBounds_toArray, List.set_cons_zero, List.set_cons_succ]
          refine wpAnyH_take (i := 13) (oi := ⟨some 81, _, _, _, _, _⟩) (v := .bool true) rfl (by kernel_rfl) (by kernel_rfl) (by kernel_rfl) (fun _ _ _ h => h) (Or.inl ⟨by rfl, ?_⟩) hHeld ?_
          · rintro w ⟨⟨_, _, _⟩, _⟩
            go_simp
          try simp only [Act.put, List.setIfInBounds_toArray, List.set_cons_zero, List.set_cons_succ]
          refine wpAnyH_take (i := 14) (oi := ⟨some 82, _, _, _, _, _⟩) (v := .bool true) rfl (by kernel_rfl) (by kernel_rfl) (by kernel_rfl) (fun _ _ _ h => h) (Or.inl ⟨by rfl, ?_⟩) hHeld ?_
          · rintro w ⟨⟨_, _, _⟩, _⟩
            go_simp
          try simp only [Act.put, List.setIfInBounds_toArray, List.set_cons_zero, List.set_cons_succ]
          refine wpAnyH_take (i := 15) (oi := ⟨some 83, _, _, _, _, _⟩) (v := .slice A l.length c) rfl (by kernel_rfl) (by kernel_rfl) (by kernel_rfl) (fun _ _ _ h => h) (Or.inl ⟨by rfl, ?_⟩) hHeld ?_
          · rintro w ⟨⟨_, _, _⟩, _⟩
            go_simp
          try simp only [Act.put, List.setIfInBounds_toArray, List.set_cons_zero, List.set_cons_succ]
          refine wpAnyH_take (i := 17) (oi := ⟨some 85, _, _, _, _, _⟩) (v := .slice A l.length c) rfl (by kernel_rfl) (by kernel_rfl) (by kernel_rfl) (fun _ _ _ h => h) (Or.inl ⟨by rfl, ?_⟩) hHeld ?_
          · rintro w ⟨⟨_, _, _⟩, _⟩
            go_simp
          try simp only [Act.put, List.setIfInBounds_toArray, List.set_cons_zero, List.set_cons_succ]
          refine wpAnyH_take (i := 18) (oi := ⟨some 86, _, _, _, _, _⟩) (v := .func (.func 19) #[] #[.pointer (some ⟨w.heap.size, 0, none⟩)]) rfl (by kernel_rfl) (by kernel_rfl) (by kernel_rfl) (fun _ _ _ h => h) (Or.inl ⟨by rfl, ?_⟩) hHeld ?_
          · rintro w ⟨⟨_, _, _⟩, _⟩
            go_simp
          try simp only [Act.put, List.setIfInBounds_toArray, List.set_cons_zero, List.set_cons_succ]
          refine wpAnyH_ready (rs := [16]) (by kernel_rfl) (by simp) ?_
          refine AllReadyH.cons (o := ⟨some 84, _, _, _, _, _⟩) rfl (fun K hK => ?_) AllReadyH.nil
          go_simp
          refine (HWrites.out _ z4).mono ?_
          rintro e u5 ⟨v5, rfl, p5, q5⟩
          have z5 := below_next q5 z4
          obtain ⟨X5, x5, rfl⟩ := own_form p5
          go_wp2_with fail
          refine hK.out _ _ ⟨⟨cell_at z5 y3, cell_at z5 y4, cell_at z5 y5⟩, z5⟩ (fun hHeld => ?_)
          clear hK K
          try simp only [Act.put, List.setIfInBounds_toArray, List.set_cons_zero, List.set_cons_succ]
          refine wpAnyH_ready (rs := [19]) (by kernel_rfl) (by simp) ?_
          refine AllReadyH.cons (o := ⟨some 87, _, _, _, _, _⟩) rfl (fun K hK => ?_) AllReadyH.nil
          go_simp
          refine (S3.out _ z5 _ _ (Reads.of_own p5)).mono ?_
          rintro e u6 ⟨rfl, q6⟩
          have z6 := below_next q6 z5
          go_wp2_with fail
          refine hK.out _ _ ⟨⟨cell_at z6 y3, cell_at z6 y4, cell_at z6 y5⟩, z6⟩ (fun hHeld => ?_)
          clear hK K
          try simp only [Act.put, List.setIfInBounds_toArray, List.set_cons_zero, List.set_cons_succ]
          refine wpAnyH_take (i := 20) (oi := ⟨some 88, _, _, _, _, _⟩) (v := .bool true) rfl (by kernel_rfl) (by kernel_rfl) (by kernel_rfl) (fun _ _ _ h => h) (Or.inl ⟨by rfl, ?_⟩) hHeld ?_
          · rintro w ⟨⟨_, _, _⟩, _⟩
            go_simp
          try simp only [Act.put, List.setIfInBounds_toArray, List.set_cons_zero, List.set_cons_succ]
          refine wpAnyH_take (i := 21) (oi := ⟨some 89, _, _, _, _, _⟩) (v := .bool true) rfl (by kernel_rfl) (by kernel_rfl) (by kernel_rfl) (fun _ _ _ h => h) (Or.inl ⟨by rfl, ?_⟩) hHeld ?_
          · rintro w ⟨⟨_, _, _⟩, _⟩
            go_simp
          try simp only [Act.put, List.setIfInBounds_toArray, List.set_cons_zero, List.set_cons_succ]
          refine wpAnyH_take (i := 22) (oi := ⟨some 90, _, _, _, _, _⟩) (v := .slice A l.length c) rfl (by kernel_rfl) (by kernel_rfl) (by kernel_rfl) (fun _ _ _ h => h) (Or.inl ⟨by rfl, ?_⟩) hHeld ?_
          · rintro w ⟨⟨_, _, _⟩, _⟩
            go_simp
          try simp only [Act.put, List.setIfInBounds_toArray, List.set_cons_zero, List.set_cons_succ]
          refine wpAnyH_take (i := 24) (oi := ⟨some 92, _, _, _, _, _⟩) (v := .slice A l.length c) rfl (by kernel_rfl) (by kernel_rfl) (by kernel_rfl) (fun _ _ _ h => h) (Or.inl ⟨by rfl, ?_⟩) hHeld ?_
          · rintro w ⟨⟨_, _, _⟩, _⟩
            go_simp
          try simp only [Act.put, List.setIfInBounds_toArray, List.set_cons_zero, List.set_cons_succ]
          refine wpAnyH_take (i := 25) (oi := ⟨some 93, _, _, _, _, _⟩) (v := .func (.func 21) #[] #[.pointer (some ⟨p14, 0, none⟩)]) rfl (by kernel_rfl) (by kernel_rfl) (by kernel_rfl) (fun _ _ _ h => h) (Or.inl ⟨by rfl, ?_⟩) hHeld ?_
          · rintro w ⟨⟨_, _, _⟩, _⟩
            go_simp
          try simp only [Act.put, List.setIfInBounds_toArray, List.set_cons_zero, List.set_cons_succ]
          refine wpAnyH_ready (rs := [23]) (by kernel_rfl) (by simp) ?_
          refine AllReadyH.cons (o := ⟨some 91, _, _, _, _, _⟩) rfl (fun K hK => ?_) AllReadyH.nil
          go_simp
          refine (HShrink.out _ z6).mono ?_
          rintro e u7 ⟨v7, rfl, p7, q7⟩
          have z7 := below_next q7 z6
          obtain ⟨X7, x7, rfl⟩ := own_form p7
          go_wp2_with fail
          refine hK.out _ _ ⟨⟨cell_at z7 y3, cell_at z7 y4, cell_at z7 y5⟩, z7⟩ (fun hHeld => ?_)
          clear hK K
          try simp only [Act.put, List.setIfInBounds_toArray, List.set_cons_zero, List.set_cons_succ]
          refine wpAnyH_ready (rs := [26]) (by kernel_rfl) (by simp) ?_
          refine AllReadyH.cons (o := ⟨some 94, _, _, _, _, _⟩) rfl (fun K hK => ?_) AllReadyH.nil
          go_simp
          refine (S4.out _ z7 _ _ (Reads.of_own p7)).mono ?_
          rintro e u8 ⟨rfl, q8⟩
          have z8 := below_next q8 z7
          go_wp2_with fail
          refine hK.out _ _ ⟨⟨cell_at z8 y3, cell_at z8 y4, cell_at z8 y5⟩, z8⟩ (fun hHeld => ?_)
          clear hK K
          try simp only [Act.put, List.setIfInBounds_toArray, List.set_cons_zero, List.set_cons_succ]
          refine wpAnyH_take (i := 27) (oi := ⟨some 95, _, _, _, _, _⟩) (v := .bool true) rfl (by kernel_rfl) (by kernel_rfl) (by kernel_rfl) (fun _ _ _ h => h) (Or.inl ⟨by rfl, ?_⟩) hHeld ?_
          · rintro w ⟨⟨_, _, _⟩, _⟩
            go_simp
          try simp only [Act.put, List.setIfInBounds_toArray, List.set_cons_zero, List.set_cons_succ]
          refine wpAnyH_take (i := 28) (oi := ⟨some 6, _, _, _, _, _⟩) (v := .bool true) rfl (by kernel_rfl) (by kernel_rfl) (by kernel_rfl) (fun _ _ _ h => h) (Or.inl ⟨by rfl, ?_⟩) hHeld ?_
          · rintro w ⟨⟨_, _, _⟩, _⟩
            go_simp
          try simp only [Act.put, List.setIfInBounds_toArray, List.set_cons_zero, List.set_cons_succ]
          refine wpAnyH_done (by kernel_rfl) ?_ _
          go_wp2
          go_ret
          exact ⟨rfl, hbv.trans (z8.mono hbv.size)⟩
theorem law_parts (A B C : Option Addr) (n c m d q f : Nat) (l : List SOp) (ks kd : List Int) (w : World) (h : Reads w w.heap.size 5 A n (opsCells l)) (hk : Reads w w.heap.size 1 B m (ks.map (Value.int .u64))) (hd : Reads w w.heap.size 1 C q (kd.map (Value.int .i64))) (hwf : ∀ o ∈ l, opWf o) :
    Calls Try.prog 3 #[.slice A n c, .slice B m d, .slice C q f] w (LawYes w) := by
  by_cases hs : 150 < n ∨ 30 < m ∨ 10 < q
  · exact parts_long A B C n c m d q f w hs
  · exact parts_few A B C n c m d q f l ks kd w h hk hd hwf (by omega) (by omega) (by omega)
end Go.Proofs.Ytoohcnjilmcimaa
