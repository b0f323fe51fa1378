/- scribe.Line by its contract. -/
import Derived.Test.YtgpkekdbohdbfaaDoorScribeC
import Derived.Deep.AppendLies
import Derived.Deep.RegionHeld3
import Derived.Deep.DrawnRows
import Derived.Lib.AppendIntMem
import Derived.Lib.ItoaMem
namespace Go.Proofs.YtgpkekdbohdbfaaDoor
open Go.RowKit AmS AmD AmW

theorem step_appendm {P : Program} {w0 : World} {ops : Array Oper} {o : Oper} {a : Act} {K : Act → World → Prop} {Q : Exit → Act → World → Prop} {X : Prop} (hgd : o.guard = none) {s x : Operand} {t : TypeId}
    (ho : o.op = .call { callee := .builtin .append, args := #[s, x], argTypes := #[t, t] }) {e : TypeId} {size bytes : Nat} (hT : SlTy P t e size bytes)
    {base : Nat} {v : Value} {n : Nat} {xs : List Value} (hown : w0.ownsRow base e size v n xs) (hs : a.eval s = v) {cs : Array Value} {t' : TypeId} {c m : Nat}
    {g : Nat} (hx : a.eval x = .slice (some ⟨g, 0, none⟩) m c) (hg0 : g = w0.heap.size) (hl : cs.size = m * size) (h1' : (cs.toList.all fun u => u.oneCell') = true) (hm : 0 < m)
    (hn : n + m < 33554432) (hbase : base ≤ w0.heap.size)
    (h : ∀ v' w', w'.ownsRow base e size v' (n + m) (xs ++ cs.toList) → Grew w0 base v w' v' → K (a.put o.dst v') w') :
    if Region.wanted o (yielded ops a.tmps) = true then Oper.wp P o a (w0.alloc (.cells cs t')) K Q else X := by
  obtain ⟨i, z, ht, hi, hz, hsize, hby, hzs, hsz, hb⟩ := hT
  have h1 : ∀ u ∈ cs.toList, u.oneCell' = true := List.all_eq_true.1 h1'
  subst hg0
  refine step_append_lies (w0.alloc (.cells cs t')) hgd s x t ho base e i z size bytes ht hi hz hsize hby hzs hsz v n xs hs (hown.alloc _) ⟨w0.heap.size, 0, none⟩ m c cs.toList hx (by simp [hl]) ?_ h1 hm
    (by simp only [maxLen]; omega) ?_ (by simp; omega) (w0.heap.size + 1) (by simp) ?_
  · intro j u hj
    have hadd : (⟨w0.heap.size, 0, none⟩ : Addr).add j = ⟨w0.heap.size, j, none⟩ := by unfold Addr.add; split <;> simp_all
    rw [hadd, (Blk.new w0 t' cs).cell]
    simpa using hj
  · have : (n + m) * bytes ≤ 33554432 * 4096 := Nat.mul_le_mul (by omega) hb
    omega
  · intro g cap w' hown' hg hat _
    have hlt := hown.lt
    have hb0 : Below base w0 (w0.alloc (.cells cs t')) := (Below.refl _ _).alloc hbase _
    refine h _ w' hown' ⟨hb0.grown hg (by simp; omega) (fun k hk => (hlt k hk).1), ⟨hg.os, hg.tape, hg.output, by have := hg.size; simp at this; omega, fun k hk hne => ?_⟩, ?_⟩
    · exact (hg.block k (by simp; omega) hne).trans (Below.heap_alloc w0 _ k hk)
    · rcases hat with hat | hat
      · exact .inl (by rw [hat]; rfl)
      · exact .inr ⟨g, rfl, by omega⟩
/-- a cell stays behind a call that makes memory alone; behind an append to another row -/
theorem cell_call {W W' : World} {a : Addr} {v : Value} (hb : Below W.heap.size W W') (h : W.cell? a = some v) : W'.cell? a = some v := (hb.cell (World.block_lt_of_cell? W a h)).trans h
theorem cell_grew {w0 w' : World} {base : Nat} {v v' : Value} (hg : Grew w0 base v w' v') {a : Addr} {u : Value} (h : w0.cell? a = some u) (hne : some a.block ≠ v.ownBlock) : w'.cell? a = some u :=
  (World.cell?_of_block (hg.by_.block _ (World.block_lt_of_cell? w0 a h) hne)).trans h
theorem cell_grew_new {w0 w' : World} {base : Nat} {v v' : Value} (hg : Grew w0 base v w' v') {o : Obj} {a : Addr} {u : Value} (h : (w0.alloc o).cell? a = some u) (hlt : a.block < w0.heap.size) (hne : ¬ some a.block = v.ownBlock) : w'.cell? a = some u :=
  cell_grew hg ((World.cell?_alloc_lt w0 o a hlt).symm.trans h) hne
/-- the kinds' words lie in their variable -/
def NamesIn (w : World) : Prop := ∀ i, i < 9 → w.cell? ⟨4, i, none⟩ = some (strV (names.getD i []))
theorem NamesIn.of_block {w w' : World} (h : NamesIn w) (hb : ∀ k, k < w.heap.size → w'.heap[k]? = w.heap[k]?) : NamesIn w' := fun i hi => (World.cell?_of_block (hb _ (World.block_lt_of_cell? w _ (h i hi)))).trans (h i hi)
set_option maxHeartbeats 400000 in
theorem word_names (k : Int) (w : World) (hN : NamesIn w) : Calls Tryd.prog 32 #[.int .i64 k] w fun e w' => e = .returned (strV (wordOf k)) ∧ w = w' := by
  cases hk : isKind k with
  | false =>
    have HI := Lib.hid (fun W => by have := script_is k W; rw [hk] at this; exact this)
    rw [wordOf_none hk]
    clear hk
    go_enter Tryd.func32, Tryd.ntmps32
    go_wp2_with fail
    refine (HI.out _).mono ?_
    rintro e w1 ⟨rfl, rfl⟩
    go_wp2
    go_ret
    exact ⟨rfl, rfl⟩
  | true =>
    have HI := Lib.hid (fun W => by have := script_is k W; rw [hk] at this; exact this)
    have hr := kinds8' hk
    obtain ⟨n, rfl⟩ := Int.eq_ofNat_of_zero_le (show 0 ≤ k by omega)
    have h1 : 1 ≤ n := by omega
    have h8 : n ≤ 8 := by omega
    rw [wordOf_at n h1 h8]
    have hc : w.cell? ⟨4, n, none⟩ = some (.string ⟨(names.getD n []).toArray⟩) := hN n (by omega)
    unfold strV
    generalize (⟨(names.getD n []).toArray⟩ : ByteArray) = s at hc ⊢
    clear hk hr
    have hn9 : (n : Int) < 9 := by omega
    go_enter Tryd.func32, Tryd.ntmps32
    go_wp2_with fail
    refine (HI.out _).mono ?_
    rintro e w1 ⟨rfl, rfl⟩
    go_wp2
    go_ret
    exact ⟨rfl, rfl⟩
/-- what the world holds for the lines -/
structure ScribeIn (E : Nat → Addr) (w : World) : Prop where
  names : NamesIn w
  e3 : ErrAt E w 3
  e8 : ErrAt E w 8
  e9 : ErrAt E w 9
  tz : w.cell? ⟨23, 15, none⟩ = some (.int .u8 4)
  pow : Lib.TabIs Tryd.prog w "internal/strconv.uint64pow10" .u64 Lib.pow10Tab
theorem gPow : Tryd.prog.globalNamed "internal/strconv.uint64pow10" = some 20 := by kernel_rfl
theorem pow_of_block {w w' : World} (h : Lib.TabIs Tryd.prog w "internal/strconv.uint64pow10" .u64 Lib.pow10Tab) (hb : ∀ k, k < w.heap.size → w'.heap[k]? = w.heap[k]?) : Lib.TabIs Tryd.prog w' "internal/strconv.uint64pow10" .u64 Lib.pow10Tab := by
  unfold Lib.TabIs World.var? at h ⊢
  simp only [gPow, Option.bind_some] at h ⊢
  have hlt : 20 < w.heap.size := by
    rcases Nat.lt_or_ge 20 w.heap.size with h1 | h1
    · exact h1
    · simp [Array.getElem?_eq_none h1] at h
  rw [hb _ hlt]
  exact h
theorem ScribeIn.of_block {E : Nat → Addr} {w w' : World} (h : ScribeIn E w) (hb : ∀ k, k < w.heap.size → w'.heap[k]? = w.heap[k]?) : ScribeIn E w' :=
  ⟨h.names.of_block hb, h.e3.of_block hb, h.e8.of_block hb, h.e9.of_block hb, (World.cell?_of_block (hb _ (World.block_lt_of_cell? w _ h.tz))).trans h.tz, pow_of_block h.pow hb⟩
theorem ScribeIn.below {E : Nat → Addr} {w w' : World} {B : Nat} (h : ScribeIn E w) (hb : Below B w w') (hB : w.heap.size ≤ B) : ScribeIn E w' := h.of_block fun k hk => hb.block k (by omega)
theorem ScribeIn.alloc {E : Nat → Addr} {w : World} (h : ScribeIn E w) (o : Obj) : ScribeIn E (w.alloc o) := h.of_block fun k hk => Below.heap_alloc w o k hk
theorem ScribeIn.drewN {E : Nat → Addr} {w : World} (h : ScribeIn E w) (n : Nat) : ScribeIn E (w.drewN n) := h.of_block fun _ _ => rfl

/-- strconv.Itoa of a number that is not below nought -/
theorem itoa_digits {E : Nat → Addr} (i : Nat) (hi : i ≤ 1000000) (W : World) (hE : ScribeIn E W) : Calls Tryd.prog 34 #[.int .i64 (i : Int)] W fun e w' => e = .returned (strV (digits i)) ∧ Below W.heap.size W w' := by
  refine (Tryd.strconv_Itoa (i : Int) (by omega) (by omega) W hE.pow).mono ?_
  rintro e w' ⟨he, k, os, hw⟩
  rw [Lib.itoa_nonneg, decDigits_digits] at he
  exact ⟨he, hw ▸ Lib.below_grow _ W (Nat.le_refl _) k os⟩
/-- strings.Join of a row of the call's own, by one blank -/
theorem join_own (l : List Bts) (v : Value) (base : Nat) (W : World) (h : StrsOwn W base v l) (hne : l ≠ []) (hl : l.length ≤ 1000) (hj : (Lib.join l [32]).length ≤ 70000) :
    Calls Tryd.prog 35 #[v, .string ⟨#[32]⟩] W fun e w' => e = .returned (strV (Lib.join l [32])) ∧ Below W.heap.size W w' := by
  obtain ⟨A, c, rfl⟩ := own_form h
  have hcap := own_cap h
  have hR := Reads.of_own h
  obtain ⟨b5, o5, rfl, hb5, hcells⟩ := reads_texts hR (List.length_pos_iff.2 hne)
  have := Tryd.strings_Join b5 o5 c (l.map fun l => (⟨l.toArray⟩ : ByteArray)) ⟨#[32]⟩ W hcells hb5 (by simp; omega) (by simp; omega) (by rw [texts_data]; show (Lib.join l [32]).length ≤ _; omega)
  rw [texts_data, List.length_map] at this
  exact this

/-- the line, or an error -/
def LinePost (E : Nat → Addr) (w : World) (o : SOp) (e : Ending) (w' : World) : Prop :=
  (if rightB o then e = .returned (.tuple #[strV (lineOf o), .nilIface]) else e = .returned (.tuple #[.string ⟨#[]⟩, .iface 196 (.pointer (some (E 3)))])) ∧ Below w.heap.size w w'

set_option maxHeartbeats 1000000 in
theorem scribe_Line_not {E : Nat → Addr} (o : SOp) (w : World) (h : rightB o = false) (hE : ScribeIn E w) : Calls Tryd.prog 9 #[opV o] w (LinePost E w o) := by
  have HR := Lib.hid (fun (W : World) => by have := script_Right o W; rw [h] at this; exact this)
  have H := Lib.hid h
  unfold opV at HR ⊢
  clear h
  go_enter Tryd.func9, Tryd.ntmps9
  go_wp2_with fail
  refine (HR.out _).mono ?_
  rintro e w1 ⟨rfl, h1⟩
  have hb : Below w.heap.size w w1 := by rw [← h1]; exact ((Below.refl _ _).alloc (Nat.le_refl _) _).alloc ((Below.refl _ _).alloc (Nat.le_refl _) _).size _
  have h3 : w1.cell? _ = _ := (hE.below hb (Nat.le_refl _)).e3
  simp only [gE] at h3
  clear h1
  go_wp2
  go_quiet (fail)
  go_wp2
  go_ret2
  exact ⟨by rw [H.out]; rfl, below_drewN hb _⟩
/-- where scribe.Line stands ahead of its kinds: the word alone is laid -/
structure LineAt (E : Nat → Addr) (w : World) (o : SOp) (v : Value) (xs : List Bts) (W : World) : Prop where
  own : StrsOwn W w.heap.size v xs
  below : Below w.heap.size w W
theorem line_done {w W : World} {E : Nat → Addr} {o : SOp} {v : Value} (h : LineAt E w o v (parts o) W) (hr : rightB o = true) :
    Calls Tryd.prog 35 #[v, .string ⟨#[32]⟩] W fun e w' => e = .returned (strV (lineOf o)) ∧ Below w.heap.size w w' := by
  have h1 := parts_len hr
  have h2 := lineOf_len hr
  unfold lineOf at h2
  refine (join_own (parts o) v _ W h.own (by simp [parts]) (by omega) (by omega)).mono ?_
  rintro e w' ⟨he, hb⟩
  exact ⟨he, h.below.trans (hb.mono h.below.size)⟩

/-- a row of one word in a block of its own -/
theorem own_word (w : World) (base : Nat) (s : ByteArray) (h : base ≤ w.heap.size) : (w.alloc (.cells #[.string s] 9)).ownsRow base 9 1 (.slice (some ⟨w.heap.size, 0, none⟩) 1 1) 1 [.string s] :=
  World.ownsRow_lit w #[.string s] 1 h (by unfold maxLen; omega) rfl

set_option maxHeartbeats 4000000 in
set_option maxRecDepth 100000 in
theorem scribe_Line_right {E : Nat → Addr} (o : SOp) (w : World) (h : rightB o = true) (hwf : opWf o) (hE : ScribeIn E w) : Calls Tryd.prog 9 #[opV o] w (LinePost E w o) := by
  have HR := Lib.hid (fun (W : World) => by have := script_Right o W; rw [h] at this; exact this)
  have H := Lib.hid h
  have HD := Lib.hid (fun (v : Value) (W : World) (hat : LineAt E w o v (parts o) W) => line_done hat h)
  obtain ⟨k, i, hk, hk1, hk8, hi, hi6⟩ := right_parts h
  obtain ⟨kind, key, val, hash, iter⟩ := o
  simp only at hk hi
  subst hk; subst hi
  obtain ⟨-, -, y2, y3, y4, y5, y6, y7, -, -⟩ := hwf
  simp only at y2 y3 y4 y5 y6 y7
  obtain ⟨n0, rfl⟩ := Int.eq_ofNat_of_zero_le y2
  obtain ⟨n1, rfl⟩ := Int.eq_ofNat_of_zero_le y4
  obtain ⟨n2, rfl⟩ := Int.eq_ofNat_of_zero_le y6
  obtain ⟨sw, hsw⟩ : ∃ sw : ByteArray, (⟨(wordOf (k : Int)).toArray⟩ : ByteArray) = sw := ⟨_, rfl⟩
  obtain ⟨s0, hs0⟩ : ∃ s0 : ByteArray, (⟨(48 :: 120 :: hexs n0).toArray⟩ : ByteArray) = s0 := ⟨_, rfl⟩
  obtain ⟨s1, hs1⟩ : ∃ s1 : ByteArray, (⟨(48 :: 120 :: hexs n1).toArray⟩ : ByteArray) = s1 := ⟨_, rfl⟩
  obtain ⟨s2, hs2⟩ : ∃ s2 : ByteArray, (⟨(48 :: 120 :: hexs n2).toArray⟩ : ByteArray) = s2 := ⟨_, rfl⟩
  obtain ⟨s3, hs3⟩ : ∃ s3 : ByteArray, (⟨(digits i).toArray⟩ : ByteArray) = s3 := ⟨_, rfl⟩
  have HX0 := Lib.hid (fun (W : World) (hT : W.cell? ⟨23, 15, none⟩ = some (.int .u8 4)) => show Calls Tryd.prog 33 #[.int .u64 (n0 : Int)] W (fun e w' => e = .returned (.string s0) ∧ Below W.heap.size W w') from by have := words_Hex n0 (by omega) W hT; unfold strV at this; rw [hs0] at this; exact this)
  have HX1 := Lib.hid (fun (W : World) (hT : W.cell? ⟨23, 15, none⟩ = some (.int .u8 4)) => show Calls Tryd.prog 33 #[.int .u64 (n1 : Int)] W (fun e w' => e = .returned (.string s1) ∧ Below W.heap.size W w') from by have := words_Hex n1 (by omega) W hT; unfold strV at this; rw [hs1] at this; exact this)
  have HX2 := Lib.hid (fun (W : World) (hT : W.cell? ⟨23, 15, none⟩ = some (.int .u8 4)) => show Calls Tryd.prog 33 #[.int .u64 (n2 : Int)] W (fun e w' => e = .returned (.string s2) ∧ Below W.heap.size W w') from by have := words_Hex n2 (by omega) W hT; unfold strV at this; rw [hs2] at this; exact this)
  have HFi := Lib.hid (fun (W : World) (hW : ScribeIn E W) => show Calls Tryd.prog 34 #[.int .i64 (i : Int)] W (fun e w' => e = .returned (.string s3) ∧ Below W.heap.size W w') from by have := itoa_digits i hi6 W hW; unfold strV at this; rw [hs3] at this; exact this)
  have HWd := Lib.hid (fun (W : World) (hW : NamesIn W) => show Calls Tryd.prog 32 #[.int .i64 (k : Int)] W (fun e w' => e = .returned (.string sw) ∧ W = w') from by have := word_names (k : Int) W hW; unfold strV at this; rw [hsw] at this; exact this)
  have HSW := Lib.hid hsw
  have HS0 := Lib.hid hs0
  have HS1 := Lib.hid hs1
  have HS2 := Lib.hid hs2
  have HS3 := Lib.hid hs3
  unfold opV at HR ⊢
  unfold opBlk at HR
  clear h y2 y3 y4 y5 y6 y7 hsw hs0 hs1 hs2 hs3
  go_enter Tryd.func9, Tryd.ntmps9
  go_wp2_with fail
  refine (HR.out _).mono ?_
  rintro e w1 ⟨rfl, h1⟩
  have hb : Below w.heap.size w w1 := by rw [← h1]; exact ((Below.refl _ _).alloc (Nat.le_refl _) _).alloc ((Below.refl _ _).alloc (Nat.le_refl _) _).size _
  have hB : Blk w1 w.heap.size 27 #[.int .i64 (k : Int), .int .u64 (n0 : Int), .int .u64 (n1 : Int), .int .u64 (n2 : Int), .int .i64 (i : Int)] := by rw [← h1]; exact (Blk.new w _ _).alloc _
  have hE1 := hE.below hb (Nat.le_refl _)
  clear h1
  have c0 := hB.cell 0
  have c1 := hB.cell 1
  have c2 := hB.cell 2
  have c3 := hB.cell 3
  have c4 := hB.cell 4
  simp only [List.getElem?_toArray, List.getElem?_cons_zero, List.getElem?_cons_succ] at c0 c1 c2 c3 c4
  go_wp2_with fail
  refine (HWd.out _ hE1.names).mono ?_
  rintro e w2 ⟨rfl, rfl⟩
  have hownW := own_word w1 w.heap.size sw hb.size
  have hbelW := hb.alloc hb.size (.cells #[.string sw] 9)
  have hEW := hE1.alloc (.cells #[.string sw] 9)
  have hBW := hB.alloc (.cells #[.string sw] 9)
  have hszW : w1.heap.size < (w1.alloc (.cells #[.string sw] 9)).heap.size := by simp
  have hltW : w.heap.size < w1.heap.size := hB.lt
  have htzl := World.block_lt_of_cell? w1 _ hE1.tz
  obtain ⟨W, hW⟩ : ∃ W, W = w1.alloc (.cells #[.string sw] 9) := ⟨_, rfl⟩
  obtain ⟨g, hg⟩ : ∃ g, g = w1.heap.size := ⟨_, rfl⟩
  rw [← hg] at hszW hltW htzl hownW
  rw [← hW] at hszW hownW hbelW hEW hBW
  have d0 := hBW.cell 0
  have d1 := hBW.cell 1
  have d2 := hBW.cell 2
  have d3 := hBW.cell 3
  have d4 := hBW.cell 4
  simp only [List.getElem?_toArray, List.getElem?_cons_zero, List.getElem?_cons_succ] at d0 d1 d2 d3 d4
  have dt := hEW.tz
  have hnb : ∀ b, b < g → ¬ some b = some g := fun b h e => by injection e; omega
  go_upto_region 4 with fail
  rw [← hW, ← hg]
  have HGW := Lib.hid (And.intro hg hW)
  clear hg hW c0 c1 c2 c3 c4
  have K : k = 2 ∨ (k = 1 ∨ k = 3) ∨ (k = 7 ∨ k = 8) ∨ (k = 4 ∨ k = 5 ∨ k = 6) := by omega
  rcases K with K | K | K | K
  · have e1 : ((k : Int) == 1) = false := by simp; omega
    have e3 : ((k : Int) == 3) = false := by simp; omega
    have e2 : ((k : Int) == 2) = true := by simp; omega
    have HK := Lib.hid (show parts ⟨(k : Int), (n0 : Int), (n1 : Int), (n2 : Int), (i : Int)⟩ = [sw.data.toList, s0.data.toList, s1.data.toList, s2.data.toList] from by
      unfold parts
      simp only
      rw [if_neg (by omega), if_pos (by omega), ← HSW.out, ← HS0.out, ← HS1.out, ← HS2.out, hx, hx, hx, Int.toNat_natCast, Int.toNat_natCast, Int.toNat_natCast])
    clear K
    go_upto_region 9 with fail
    have hown := hownW
    have hbel := hbelW
    go_region_held3 (fun w' => w'.cell? ⟨w.heap.size, 1, none⟩ = some (.int .u64 (n0 : Int)) ∧ w'.cell? ⟨w.heap.size, 2, none⟩ = some (.int .u64 (n1 : Int)) ∧ w'.cell? ⟨w.heap.size, 3, none⟩ = some (.int .u64 (n2 : Int)) ∧ w'.cell? ⟨23, 15, none⟩ = some (.int .u8 4)) (first
      | go_keep
      | (go_split_ands
         refine ⟨?_, ?_, ?_, ?_⟩
         · first | exact cell_call hbc (by assumption) | exact cell_grew_new hgr (by assumption) (Nat.lt_trans (by assumption) (hown.lt g rfl).2) (hnb _ (by assumption))
         · first | exact cell_call hbc (by assumption) | exact cell_grew_new hgr (by assumption) (Nat.lt_trans (by assumption) (hown.lt g rfl).2) (hnb _ (by assumption))
         · first | exact cell_call hbc (by assumption) | exact cell_grew_new hgr (by assumption) (Nat.lt_trans (by assumption) (hown.lt g rfl).2) (hnb _ (by assumption))
         · first | exact cell_call hbc (by assumption) | exact cell_grew_new hgr (by assumption) (Nat.lt_trans (by assumption) (hown.lt g rfl).2) (hnb _ (by assumption))))
       (first
        | (refine step_appendm (by rfl) (by rfl) slty_strs hown (by rfl) (cs := #[.string s0, .string s1, .string s2]) (by rfl) rfl rfl rfl (by decide) (by omega) hbel.size ?_; intro v4 w4 hown4 hgr)
        | (go_at_call 33; (with_reducible refine Calls.mono (HX0.out _ ?_) ?_); (first | assumption | (go_split_ands; assumption) | exact cell_call hbc dt); rintro e w3 ⟨rfl, hbc⟩; have hown : w3.ownsRow w.heap.size 9 1 (.slice (some ⟨g, 0, none⟩) 1 1) 1 [.string sw] := (by first | exact own_below hown hbc (Nat.le_refl _) | exact own_below (World.ownsRow.drew hown) hbc (Nat.le_refl _)); have hbel : Below w.heap.size w w3 := (by first | exact hbel.trans (hbc.mono hbel.size) | exact hbel.drew.trans (hbc.mono hbel.size)))
        | (go_at_call 33; (with_reducible refine Calls.mono (HX1.out _ ?_) ?_); (first | assumption | (go_split_ands; assumption) | exact cell_call hbc dt); rintro e w3 ⟨rfl, hbc⟩; have hown : w3.ownsRow w.heap.size 9 1 (.slice (some ⟨g, 0, none⟩) 1 1) 1 [.string sw] := (by first | exact own_below hown hbc (Nat.le_refl _) | exact own_below (World.ownsRow.drew hown) hbc (Nat.le_refl _)); have hbel : Below w.heap.size w w3 := (by first | exact hbel.trans (hbc.mono hbel.size) | exact hbel.drew.trans (hbc.mono hbel.size)))
        | (go_at_call 33; (with_reducible refine Calls.mono (HX2.out _ ?_) ?_); (first | assumption | (go_split_ands; assumption) | exact cell_call hbc dt); rintro e w3 ⟨rfl, hbc⟩; have hown : w3.ownsRow w.heap.size 9 1 (.slice (some ⟨g, 0, none⟩) 1 1) 1 [.string sw] := (by first | exact own_below hown hbc (Nat.le_refl _) | exact own_below (World.ownsRow.drew hown) hbc (Nat.le_refl _)); have hbel : Below w.heap.size w w3 := (by first | exact hbel.trans (hbc.mono hbel.size) | exact hbel.drew.trans (hbc.mono hbel.size))))
    go_wp2_with fail
    refine (HD.out v4 w4 ⟨?_, hbel.trans hgr.below⟩).mono ?_
    · rw [HK.out]
      show w4.ownsRow w.heap.size 9 1 v4 4 [strV sw.data.toList, strV s0.data.toList, strV s1.data.toList, strV s2.data.toList]
      simp only [strV_data]
      exact hown4
    rintro e w5 ⟨rfl, hb5⟩
    go_wp2
    go_ret2
    exact ⟨by rw [if_pos H.out]; rfl, hb5⟩
  · have G : (((k : Int) == 1) = true) ∨ (((k : Int) == 1) = false ∧ ((k : Int) == 3) = true) := by
      rcases K with K | K
      · left; rw [K]; rfl
      · right; rw [K]; exact ⟨rfl, rfl⟩
    have HK := Lib.hid (show parts ⟨(k : Int), (n0 : Int), (n1 : Int), (n2 : Int), (i : Int)⟩ = [sw.data.toList, s0.data.toList, s2.data.toList] from by
      unfold parts
      simp only
      rw [if_pos (by omega), ← HSW.out, ← HS0.out, ← HS2.out, hx, hx, Int.toNat_natCast, Int.toNat_natCast])
    clear K
    rcases G with e1 | ⟨e1, e3⟩
    · go_upto_region 7 with fail
      have hown := hownW
      have hbel := hbelW
      go_region_held3 (fun w' => w'.cell? ⟨w.heap.size, 1, none⟩ = some (.int .u64 (n0 : Int)) ∧ w'.cell? ⟨w.heap.size, 3, none⟩ = some (.int .u64 (n2 : Int)) ∧ w'.cell? ⟨23, 15, none⟩ = some (.int .u8 4)) (first
        | go_keep
        | (go_split_ands
           refine ⟨?_, ?_, ?_⟩
           · first | exact cell_call hbc (by assumption) | exact cell_grew_new hgr (by assumption) (Nat.lt_trans (by assumption) (hown.lt g rfl).2) (hnb _ (by assumption))
           · first | exact cell_call hbc (by assumption) | exact cell_grew_new hgr (by assumption) (Nat.lt_trans (by assumption) (hown.lt g rfl).2) (hnb _ (by assumption))
           · first | exact cell_call hbc (by assumption) | exact cell_grew_new hgr (by assumption) (Nat.lt_trans (by assumption) (hown.lt g rfl).2) (hnb _ (by assumption))))
         (first
          | (refine step_appendm (by rfl) (by rfl) slty_strs hown (by rfl) (cs := #[.string s0, .string s2]) (by rfl) rfl rfl rfl (by decide) (by omega) hbel.size ?_; intro v4 w4 hown4 hgr)
          | (go_at_call 33; (with_reducible refine Calls.mono (HX0.out _ ?_) ?_); (first | assumption | (go_split_ands; assumption) | exact cell_call hbc dt); rintro e w3 ⟨rfl, hbc⟩; have hown : w3.ownsRow w.heap.size 9 1 (.slice (some ⟨g, 0, none⟩) 1 1) 1 [.string sw] := (by first | exact own_below hown hbc (Nat.le_refl _) | exact own_below (World.ownsRow.drew hown) hbc (Nat.le_refl _)); have hbel : Below w.heap.size w w3 := (by first | exact hbel.trans (hbc.mono hbel.size) | exact hbel.drew.trans (hbc.mono hbel.size)))
          | (go_at_call 33; (with_reducible refine Calls.mono (HX2.out _ ?_) ?_); (first | assumption | (go_split_ands; assumption) | exact cell_call hbc dt); rintro e w3 ⟨rfl, hbc⟩; have hown : w3.ownsRow w.heap.size 9 1 (.slice (some ⟨g, 0, none⟩) 1 1) 1 [.string sw] := (by first | exact own_below hown hbc (Nat.le_refl _) | exact own_below (World.ownsRow.drew hown) hbc (Nat.le_refl _)); have hbel : Below w.heap.size w w3 := (by first | exact hbel.trans (hbc.mono hbel.size) | exact hbel.drew.trans (hbc.mono hbel.size))))
      go_wp2_with fail
      refine (HD.out v4 w4 ⟨?_, hbel.trans hgr.below⟩).mono ?_
      · rw [HK.out]
        show w4.ownsRow w.heap.size 9 1 v4 3 [strV sw.data.toList, strV s0.data.toList, strV s2.data.toList]
        simp only [strV_data]
        exact hown4
      rintro e w5 ⟨rfl, hb5⟩
      go_wp2
      go_ret2
      exact ⟨by rw [if_pos H.out]; rfl, hb5⟩
    · go_upto_region 7 with fail
      have hown := hownW
      have hbel := hbelW
      go_region_held3 (fun w' => w'.cell? ⟨w.heap.size, 1, none⟩ = some (.int .u64 (n0 : Int)) ∧ w'.cell? ⟨w.heap.size, 3, none⟩ = some (.int .u64 (n2 : Int)) ∧ w'.cell? ⟨23, 15, none⟩ = some (.int .u8 4)) (first
        | go_keep
        | (go_split_ands
           refine ⟨?_, ?_, ?_⟩
           · first | exact cell_call hbc (by assumption) | exact cell_grew_new hgr (by assumption) (Nat.lt_trans (by assumption) (hown.lt g rfl).2) (hnb _ (by assumption))
           · first | exact cell_call hbc (by assumption) | exact cell_grew_new hgr (by assumption) (Nat.lt_trans (by assumption) (hown.lt g rfl).2) (hnb _ (by assumption))
           · first | exact cell_call hbc (by assumption) | exact cell_grew_new hgr (by assumption) (Nat.lt_trans (by assumption) (hown.lt g rfl).2) (hnb _ (by assumption))))
         (first
          | (refine step_appendm (by rfl) (by rfl) slty_strs hown (by rfl) (cs := #[.string s0, .string s2]) (by rfl) rfl rfl rfl (by decide) (by omega) hbel.size ?_; intro v4 w4 hown4 hgr)
          | (go_at_call 33; (with_reducible refine Calls.mono (HX0.out _ ?_) ?_); (first | assumption | (go_split_ands; assumption) | exact cell_call hbc dt); rintro e w3 ⟨rfl, hbc⟩; have hown : w3.ownsRow w.heap.size 9 1 (.slice (some ⟨g, 0, none⟩) 1 1) 1 [.string sw] := (by first | exact own_below hown hbc (Nat.le_refl _) | exact own_below (World.ownsRow.drew hown) hbc (Nat.le_refl _)); have hbel : Below w.heap.size w w3 := (by first | exact hbel.trans (hbc.mono hbel.size) | exact hbel.drew.trans (hbc.mono hbel.size)))
          | (go_at_call 33; (with_reducible refine Calls.mono (HX2.out _ ?_) ?_); (first | assumption | (go_split_ands; assumption) | exact cell_call hbc dt); rintro e w3 ⟨rfl, hbc⟩; have hown : w3.ownsRow w.heap.size 9 1 (.slice (some ⟨g, 0, none⟩) 1 1) 1 [.string sw] := (by first | exact own_below hown hbc (Nat.le_refl _) | exact own_below (World.ownsRow.drew hown) hbc (Nat.le_refl _)); have hbel : Below w.heap.size w w3 := (by first | exact hbel.trans (hbc.mono hbel.size) | exact hbel.drew.trans (hbc.mono hbel.size))))
      go_wp2_with fail
      refine (HD.out v4 w4 ⟨?_, hbel.trans hgr.below⟩).mono ?_
      · rw [HK.out]
        show w4.ownsRow w.heap.size 9 1 v4 3 [strV sw.data.toList, strV s0.data.toList, strV s2.data.toList]
        simp only [strV_data]
        exact hown4
      rintro e w5 ⟨rfl, hb5⟩
      go_wp2
      go_ret2
      exact ⟨by rw [if_pos H.out]; rfl, hb5⟩
  · have e1 : ((k : Int) == 1) = false := by simp; omega
    have e3 : ((k : Int) == 3) = false := by simp; omega
    have e2 : ((k : Int) == 2) = false := by simp; omega
    have G : (((k : Int) == 7) = true) ∨ (((k : Int) == 7) = false ∧ ((k : Int) == 8) = true) := by
      rcases K with K | K
      · left; rw [K]; rfl
      · right; rw [K]; exact ⟨rfl, rfl⟩
    have HK := Lib.hid (show parts ⟨(k : Int), (n0 : Int), (n1 : Int), (n2 : Int), (i : Int)⟩ = [sw.data.toList, s3.data.toList] from by
      unfold parts
      simp only
      rw [if_neg (by omega), if_neg (by omega), if_pos (by omega), ← HSW.out, ← HS3.out, Int.toNat_natCast])
    clear K
    rcases G with e7 | ⟨e7, e8⟩
    · go_wp2_with fail
      refine (HFi.out _ hEW).mono ?_
      rintro e w3 ⟨rfl, hb3⟩
      have hown3 := own_below hownW hb3 (Nat.le_refl _)
      have hbel := hbelW.trans (hb3.mono hbelW.size)
      go_wp2_with (first | (at_builtin; refine wpList_append1 rfl rfl slty_strs hown3 rfl rfl (by simp) rfl rfl (by omega) hbel.size ?_; intro v4 w4 hown4 hgr) | fail)
      refine (HD.out v4 w4 ⟨?_, hbel.trans hgr.below⟩).mono ?_
      · rw [HK.out]
        show w4.ownsRow w.heap.size 9 1 v4 2 [strV sw.data.toList, strV s3.data.toList]
        simp only [strV_data]
        exact hown4
      rintro e w5 ⟨rfl, hb5⟩
      go_wp2
      go_ret2
      exact ⟨by rw [if_pos H.out]; rfl, hb5⟩
    · go_wp2_with fail
      refine (HFi.out _ hEW).mono ?_
      rintro e w3 ⟨rfl, hb3⟩
      have hown3 := own_below hownW hb3 (Nat.le_refl _)
      have hbel := hbelW.trans (hb3.mono hbelW.size)
      go_wp2_with (first | (at_builtin; refine wpList_append1 rfl rfl slty_strs hown3 rfl rfl (by simp) rfl rfl (by omega) hbel.size ?_; intro v4 w4 hown4 hgr) | fail)
      refine (HD.out v4 w4 ⟨?_, hbel.trans hgr.below⟩).mono ?_
      · rw [HK.out]
        show w4.ownsRow w.heap.size 9 1 v4 2 [strV sw.data.toList, strV s3.data.toList]
        simp only [strV_data]
        exact hown4
      rintro e w5 ⟨rfl, hb5⟩
      go_wp2
      go_ret2
      exact ⟨by rw [if_pos H.out]; rfl, hb5⟩
  · have e1 : ((k : Int) == 1) = false := by simp; omega
    have e3 : ((k : Int) == 3) = false := by simp; omega
    have e2 : ((k : Int) == 2) = false := by simp; omega
    have e7 : ((k : Int) == 7) = false := by simp; omega
    have e8 : ((k : Int) == 8) = false := by simp; omega
    have HK := Lib.hid (show parts ⟨(k : Int), (n0 : Int), (n1 : Int), (n2 : Int), (i : Int)⟩ = [sw.data.toList] from by
      unfold parts
      simp only
      rw [if_neg (by omega), if_neg (by omega), if_neg (by omega), ← HSW.out])
    clear K
    go_wp2_with fail
    refine (HD.out (.slice (some ⟨g, 0, none⟩) 1 1) W ⟨?_, hbelW⟩).mono ?_
    · rw [HK.out]
      show W.ownsRow w.heap.size 9 1 (.slice (some ⟨g, 0, none⟩) 1 1) 1 [strV sw.data.toList]
      simp only [strV_data]
      exact hownW
    rintro e w5 ⟨rfl, hb5⟩
    go_wp2
    go_ret2
    exact ⟨by rw [if_pos H.out]; rfl, hb5⟩
end Go.Proofs.YtgpkekdbohdbfaaDoor
