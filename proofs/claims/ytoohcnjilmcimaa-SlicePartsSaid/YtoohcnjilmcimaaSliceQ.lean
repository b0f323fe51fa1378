/- slice.Last, Shrink by their contracts; the chapter's example; amblerlaw38.same; SliceTwice: its walk: whatever the operations, true. -/
import Derived.Test.YtoohcnjilmcimaaBackR
namespace Go.Proofs.Ytoohcnjilmcimaa
open Go.RowKit AmS

theorem lastZ_eq (key : Int) (l : List SOp) (i : Nat) : (lastZ key l == (i : Int)) = (last key l == some i) := by
  unfold lastZ
  cases last key l with
  | none =>
    rw [Bool.eq_iff_iff]
    simp
  | some j =>
    rw [Bool.eq_iff_iff]
    simp
    omega
theorem lastZ_lt (key : Int) (l : List SOp) : -1 ≤ lastZ key l ∧ lastZ key l < l.length := by
  unfold lastZ
  cases h : last key l with
  | none => simp; omega
  | some j =>
    have := last_lt key l.reverse j h
    simp at this
    simp
    omega
set_option maxHeartbeats 1000000 in
theorem shrink_fn (i : Nat) (o : SOp) (p : Nat) (A : Option Addr) (n c : Nat) (l : List SOp) (W : World) (hc : W.cell? ⟨p, 0, none⟩ = some (.slice A n c)) (hp : p < W.heap.size) (hR : Reads W W.heap.size 5 A n (opsCells l)) (hn : n ≤ 65536) :
    Calls Try.prog 33 #[.int .i64 (i : Int), opV o, .pointer (some ⟨p, 0, none⟩)] W (KeepsPost W (o.kind == 2 && last o.key l == some i)) := by
  rw [← lastZ_eq]
  unfold opV
  have hBl := (Below.refl W.heap.size W).alloc (Nat.le_refl _) (.cells #[.int .i64 o.kind, .int .u64 o.key, .int .u64 o.val, .int .u64 o.hash, .int .i64 o.iter] 29)
  have hc2 := (hBl.cell (p := ⟨p, 0, none⟩) hp).trans hc
  have HL := Lib.hid (slice_last A n c l o.key _ ((hR.below hBl).more hBl.size) hn)
  clear hR
  cases h2 : (o.kind == 2) with
  | false =>
    go_enter Try.func33, Try.ntmps33
    go_wp2
    go_ret
    exact ⟨by simp, hBl⟩
  | true =>
    go_enter Try.func33, Try.ntmps33
    go_wp2_with fail
    refine HL.out.mono ?_
    rintro e w3 ⟨rfl, hb3⟩
    go_wp2
    go_ret
    exact ⟨by simp, hBl.trans (hb3.mono hBl.size)⟩
set_option maxHeartbeats 1000000 in
theorem slice_Shrink (A : Option Addr) (n c : Nat) (l : List SOp) (w : World) (h : Reads w w.heap.size 5 A n (opsCells l)) (hn : n ≤ 65536) :
    Calls Try.prog 20 #[.slice A n c] w (KeptPost w (shrink l)) := by
  have hBl := (Below.refl w.heap.size w).alloc (Nat.le_refl _) (.cells #[.slice A n c] 22)
  have hbox := (Blk.new w 22 #[.slice A n c]).cell 0
  simp only [List.getElem?_toArray, List.getElem?_cons_zero] at hbox
  have HK := slice_kept A n c l _ 33 #[.pointer (some ⟨w.heap.size, 0, none⟩)] (fun i o => o.kind == 2 && last o.key l == some i) ((h.below hBl).more hBl.size) hn (enters_of Try.func33 (by kernel_rfl) rfl)
    (fun W i o _ hW => shrink_fn i o w.heap.size A n c l W ((hW.cell (p := ⟨w.heap.size, 0, none⟩) (by simp)).trans hbox) (by have := hW.size; simp at this; omega) (((h.below hBl).more hBl.size |>.below hW).more hW.size) hn)
  rw [shrink_kept] at HK
  have HK' := Lib.hid HK
  clear HK h
  go_enter Try.func20, Try.ntmps20
  go_wp2_with fail
  refine HK'.out.mono ?_
  rintro e w' ⟨v, rfl, hown, hb⟩
  go_wp2
  go_ret
  exact ⟨v, rfl, own_lower hown (by simp), hBl.trans (hb.mono (by simp))⟩
set_option maxHeartbeats 1000000 in
theorem slice_Last_some (A : Option Addr) (n c : Nat) (l : List SOp) (key : Int) (o : SOp) (i : Nat) (w : World) (h : Reads w w.heap.size 5 A n (opsCells l)) (hn : n ≤ 65536) (hi : lastZ key l = (i : Int)) (ho : l[i]? = some o) :
    Calls Try.prog 23 #[.slice A n c, .int .u64 key] w fun e w' => e = .returned (.tuple #[.int .u64 o.val, .bool true]) ∧ Below w.heap.size w w' := by
  have hl : l.length = n := by have := h.1; rw [opsCells_length] at this; omega
  have hil := (List.getElem?_eq_some_iff.1 ho).1
  have HL := Lib.hid (slice_last A n c l key w h hn)
  have HI := Lib.hid hi
  obtain ⟨b, off, rfl, hb, c0, c1, c2, c3, c4⟩ := op_cells h ho
  have hlt : (i : Int) < (n : Int) := by omega
  have h0 : ¬ (i : Int) < 0 := by omega
  clear h ho hi
  go_enter Try.func23, Try.ntmps23
  go_wp2_with fail
  refine HL.out.mono ?_
  rintro e w3 ⟨rfl, hb3⟩
  rw [HI.out]
  have c2' := (hb3.cell (p := ⟨b, off + i * 5 + 2, none⟩) hb).trans c2
  go_wp2
  go_ret2
  exact ⟨rfl, hb3⟩

def exOps : List SOp := [⟨2, 1, 0, 0, 0⟩, ⟨2, 2, 5, 0, 0⟩, ⟨3, 1, 0, 0, 0⟩]
set_option maxHeartbeats 4000000 in
set_option maxRecDepth 100000 in
theorem alive38 (w : World) : Calls Try.prog 5 #[] w fun e w' => e = .returned (.bool true) ∧ Below w.heap.size w w' := by
  obtain ⟨W, hW⟩ : ∃ W, W = w.alloc (.cells #[.int .i64 2, .int .u64 1, .int .u64 0, .int .u64 0, .int .i64 0, .int .i64 2, .int .u64 2, .int .u64 5, .int .u64 0, .int .i64 0, .int .i64 3, .int .u64 1, .int .u64 0, .int .u64 0, .int .i64 0] 29) := ⟨_, rfl⟩
  have hBl : Below w.heap.size w W := by rw [hW]; exact (Below.refl _ _).alloc (Nat.le_refl _) _
  have hB : Blk W w.heap.size 29 (opsCells exOps).toArray := by rw [hW]; exact Blk.new w _ _
  have hR : Reads W W.heap.size 5 (some ⟨w.heap.size, 0, none⟩) 3 (opsCells exOps) := ⟨rfl, fun _ => ⟨w.heap.size, 0, rfl, hB.lt, fun j u hu => by
    have := hB.cell j
    rw [List.getElem?_toArray, hu] at this
    simpa using this⟩⟩
  have HS := Lib.hid (show Calls Try.prog 20 #[.slice (some ⟨w.heap.size, 0, none⟩) 3 3] W (KeptPost W [⟨2, 2, 5, 0, 0⟩]) from slice_Shrink (some ⟨w.heap.size, 0, none⟩) 3 3 exOps W hR (by omega))
  have HL := Lib.hid (fun (V : World) (hV : Below W.heap.size W V) => slice_Last_some (some ⟨w.heap.size, 0, none⟩) 3 3 exOps 2 ⟨2, 2, 5, 0, 0⟩ 1 V ((hR.below hV).more hV.size) (by omega) (by decide) rfl)
  have HW := Lib.hid hW
  go_enter Try.func5, Try.ntmps5
  go_wp2_with fail
  rw [← HW.out]
  refine HS.out.mono ?_
  rintro e w1 ⟨v, rfl, hown, hb1⟩
  obtain ⟨A1, c1, rfl⟩ := own_form hown
  go_wp2_with fail
  refine (HL.out _ hb1).mono ?_
  rintro e w2 ⟨rfl, hb2⟩
  have hb12 := hb1.trans (hb2.mono hb1.size)
  obtain ⟨b, off, rfl, hb, c0, c1', c2, c3, c4⟩ := op_cells ((Reads.of_own hown).below hb2) (k := 0) (o := ⟨2, 2, 5, 0, 0⟩) rfl
  obtain ⟨b', off', he, hb', d0, d1, d2, d3, d4⟩ := op_cells (hR.below hb12) (k := 1) (o := ⟨2, 2, 5, 0, 0⟩) rfl
  injection he with he
  injection he with he1 he2 _
  subst he1 he2
  simp only [Nat.zero_mul, Nat.one_mul, Nat.add_zero, Nat.zero_add] at c0 c1' c2 c3 c4 d0 d1 d2 d3 d4
  have hbw := hBl.trans (hb12.mono hBl.size)
  clear hown hR HS HL hB hW HW
  go_wp2_with fail
  go_quiet (fail)
  go_wp2
  go_ret
  exact ⟨rfl, below_drewN hbw _⟩
end Go.Proofs.Ytoohcnjilmcimaa
namespace Go.Proofs.Ytoohcnjilmcimaa
open Go.RowKit AmS

theorem keptF_append (K : Nat → SOp → Bool) : ∀ (a b : List SOp) (i : Nat), keptF K i (a ++ b) = keptF K i a ++ keptF K (i + a.length) b
  | [], b, i => by simp [keptF]
  | x :: t, b, i => by
    have := keptF_append K t b (i + 1)
    simp only [List.cons_append, keptF, this, List.length_cons]
    rw [show i + 1 + t.length = i + (t.length + 1) by omega]
    split <;> simp
theorem keptF_at {K : Nat → SOp → Bool} {y : List SOp} {k : Nat} {o : SOp} (ho : y[k]? = some o) (hK : K k o = true) : (keptF K 0 y)[(keptF K 0 (y.take k)).length]? = some o := by
  obtain ⟨hk, hko⟩ := List.getElem?_eq_some_iff.1 ho
  have e : y = y.take k ++ (o :: y.drop (k + 1)) := by rw [← hko, ← List.drop_eq_getElem_cons hk, List.take_append_drop]
  conv => lhs; rw [e]
  rw [keptF_append]
  have hlen : (y.take k).length = k := by rw [List.length_take]; omega
  have e2 : (y.take k ++ o :: y.drop (k + 1)).take k = y.take k := by rw [← e]
  rw [e2, hlen, Nat.zero_add, keptF, if_pos hK]
  simp
/-- where the loop of same stands -/
structure SameAt (w : World) (K : Nat → SOp → Bool) (y : List SOp) (k m : Nat) (wr : World) : Prop where
  cnt : (keptF K 0 (y.take k)).length = m
  below : Below w.heap.size w wr

set_option maxHeartbeats 2000000 in
set_option maxRecDepth 100000 in
theorem law_same (A : Option Addr) (na c : Nat) (B : Option Addr) (n d : Nat) (x y : List SOp) (K : Nat → SOp → Bool) (g : Nat) (cap : Array Value) (w : World) (hx : Reads w w.heap.size 5 A na (opsCells x)) (hy : Reads w w.heap.size 5 B n (opsCells y)) (hn : n ≤ 65536) (hna : na ≤ 65536)
    (eg : ∀ args w, (callFunc g args).run Try.prog w = .ok (.enter g args) w)
    (hK : ∀ (W : World) (i : Nat) (o : SOp), y[i]? = some o → Below w.heap.size w W → Calls Try.prog g (#[.int .i64 (i : Int)] ++ cap) W fun e W' => e = .returned (.bool (K i o)) ∧ Below W.heap.size W W') (heq : x = keptF K 0 y) :
    Calls Try.prog 10 #[.slice A na c, .slice B n d, .func (.func g) #[] cap] w fun e w' => e = .returned (.bool true) ∧ Below w.heap.size w w' := by
  have hlx : x.length = na := by have := hx.1; rw [opsCells_length] at this; omega
  have hly : y.length = n := by have := hy.1; rw [opsCells_length] at this; omega
  have HX := Lib.hid heq
  have HLX := Lib.hid hlx
  have HLY := Lib.hid hly
  have HKF := Lib.hid hK
  clear heq hlx hly hK
  go_enter Try.func10, Try.ntmps10
  go_wp2
  go_loopw [6, 7, 8, 9, 12] (fun v6 v7 _ _ i wr => ∃ k m : Nat, k ≤ n ∧ i = .int .i64 k ∧ v6 = .bool false ∧ v7 = .int .i64 m ∧ m ≤ k ∧ SameAt w K y k m wr) (fun _ _ _ _ i _ => n - (intOf i).toNat)
  case atStart => exact ⟨0, 0, by omega, rfl, rfl, rfl, by omega, ⟨by simp [keptF], Below.refl _ _⟩⟩
  case round =>
    obtain ⟨k, m, hk, rfl, rfl, rfl, hmk, hat⟩ := hrel
    by_cases hlt : k < n
    · have ho : y[k]? = some (y[k]'(by rw [HLY.out]; omega)) := List.getElem?_eq_getElem _
      generalize y[k]'(by rw [HLY.out]; omega) = o at ho
      have hbel := hat.below
      have hcnt := hat.cnt
      obtain ⟨b, off, rfl, hb, c0, c1, c2, c3, c4⟩ := op_cells (hy.below hbel) ho
      have hsn := keptF_snoc K o (y.take k) 0
      have htl : (y.take k).length = k := by rw [List.length_take, HLY.out]; omega
      rw [← take_snoc_op ho, htl, Nat.zero_add] at hsn
      have hlt' : (k : Int) < (n : Int) := by omega
      have hfn := fun (V : World) (hV : Below w.heap.size w V) => HKF.out V k o ho hV
      have hbel2 := hbel.alloc hbel.size (.cells #[.int .i64 o.kind, .int .u64 o.key, .int .u64 o.val, .int .u64 o.hash, .int .i64 o.iter] 29)
      have hO := Blk.new wr 29 #[.int .i64 o.kind, .int .u64 o.key, .int .u64 o.val, .int .u64 o.hash, .int .i64 o.iter]
      cases hq : K k o with
      | false =>
        rw [hq, if_neg (by simp), List.append_nil] at hsn
        have HSN := Lib.hid (show (keptF K 0 (y.take (k + 1))).length = m from by rw [hsn]; exact hcnt)
        have HF := Lib.hid (fun (V : World) (hV : Below w.heap.size w V) => by have := hfn V hV; rw [hq] at this; exact this)
        clear hsn hfn hat hcnt ho htl
        go_wp2_with (go_at_fn g; refine (HF.out _ hbel2).mono ?_; rintro e w1 ⟨rfl, hb1⟩)
        go_roundw
        case rel => exact ⟨k + 1, m, by omega, by go_num, rfl, rfl, by omega, ⟨HSN.out, hbel2.trans (hb1.mono hbel2.size)⟩⟩
        case measure => simp [intOf]; omega
      | true =>
        rw [hq, if_pos rfl] at hsn
        have HSN := Lib.hid (show (keptF K 0 (y.take (k + 1))).length = m + 1 from by rw [hsn, List.length_append, hcnt]; rfl)
        have hxo : x[m]? = some o := by rw [HX.out, ← hcnt]; exact keptF_at ho hq
        have hmx : m < na := by have := (List.getElem?_eq_some_iff.1 hxo).1; have := HLX.out; omega
        obtain ⟨b', off', rfl, hb', d0, d1, d2, d3, d4⟩ := op_cells hx hxo
        have HF := Lib.hid (fun (V : World) (hV : Below w.heap.size w V) => by have := hfn V hV; rw [hq] at this; exact this)
        have hge : decide ((m : Int) ≥ (na : Int)) = false := decide_eq_false (by omega)
        have hmx' : (m : Int) < (na : Int) := by omega
        clear hsn hfn hat hcnt ho htl hxo
        go_wp2_with (go_at_fn g; refine (HF.out _ hbel2).mono ?_; rintro e w1 ⟨rfl, hb1⟩; have hbw1 := hbel2.trans (hb1.mono hbel2.size); have hO1 := hO.below hb1 hO.lt; have x0 := hO1.cell 0; have x1 := hO1.cell 1; have x2 := hO1.cell 2; have x3 := hO1.cell 3; have x4 := hO1.cell 4; simp only [List.getElem?_toArray, List.getElem?_cons_zero, List.getElem?_cons_succ] at x0 x1 x2 x3 x4; have y0 := (hbw1.cell (p := ⟨b', off' + m * 5, none⟩) hb').trans d0; have y1 := (hbw1.cell (p := ⟨b', off' + m * 5 + 1, none⟩) hb').trans d1; have y2 := (hbw1.cell (p := ⟨b', off' + m * 5 + 2, none⟩) hb').trans d2; have y3 := (hbw1.cell (p := ⟨b', off' + m * 5 + 3, none⟩) hb').trans d3; have y4 := (hbw1.cell (p := ⟨b', off' + m * 5 + 4, none⟩) hb').trans d4; clear hO hO1)
        go_quiet (fail)
        go_wp2
        go_roundw
        case rel => exact ⟨k + 1, m + 1, by omega, by go_num, rfl, by go_num, by omega, ⟨HSN.out, below_drewN hbw1 _⟩⟩
        case measure => simp [intOf]; omega
    · obtain rfl : k = n := by omega
      have hbel := hat.below
      have hcnt := hat.cnt
      rw [← HLY.out, List.take_length, ← HX.out, HLX.out] at hcnt
      subst hcnt
      have hlt' : ¬ (k : Int) < (k : Int) := by omega
      clear hat
      go_wp2
      go_ret
      exact ⟨by simp, hbel⟩
theorem every_fn (i : Int) (W : World) : Calls Try.prog 22 #[.int .i64 i] W fun e W' => e = .returned (.bool true) ∧ Below W.heap.size W W' := by
  go_enter Try.func22, Try.ntmps22
  go_wp2
  go_ret
  exact ⟨rfl, Below.refl _ _⟩
theorem keptF_all : ∀ (l : List SOp) (i : Nat), keptF (fun _ _ => true) i l = l
  | [], _ => rfl
  | o :: t, i => by rw [keptF, if_pos rfl, keptF_all t]
/-- who is compared with itself -/
theorem same_every (A : Option Addr) (c : Nat) (B : Option Addr) (d : Nat) (l : List SOp) (w : World) (hx : Reads w w.heap.size 5 A l.length (opsCells l)) (hy : Reads w w.heap.size 5 B l.length (opsCells l)) (hn : l.length ≤ 65536) :
    Calls Try.prog 10 #[.slice A l.length c, .slice B l.length d, .func (.func 22) #[] #[]] w fun e w' => e = .returned (.bool true) ∧ Below w.heap.size w w' :=
  law_same A l.length c B l.length d l l (fun _ _ => true) 22 #[] w hx hy hn hn (enters_of Try.func22 (by kernel_rfl) rfl) (fun W i _ _ _ => every_fn i W) (keptF_all l 0).symm
end Go.Proofs.Ytoohcnjilmcimaa
namespace Go.Proofs.Ytoohcnjilmcimaa
open Go.RowKit AmS

def LawYes (w : World) (e : Ending) (w' : World) : Prop := e = .returned (.bool true) ∧ Below w.heap.size w w'
theorem writes_none (l : List SOp) : (l.filter write).filter (fun o => !([2, 3, 5] : List Int).contains o.kind) = [] := by
  rw [List.filter_filter, List.filter_eq_nil_iff]
  intro o _
  unfold write
  simp
  omega
theorem filter_twice (p : SOp → Bool) (l : List SOp) : (l.filter p).filter p = l.filter p := by
  rw [List.filter_filter]
  congr 1
  funext o
  simp
set_option maxHeartbeats 400000 in
theorem twice_long (A B C : Option Addr) (n c m d q e : Nat) (w : World) (h : 150 < n ∨ 30 < m ∨ 10 < q) :
    Calls Try.prog 4 #[.slice A n c, .slice B m d, .slice C q e] w (LawYes w) := by
  have HA := Lib.hid (alive38 w)
  by_cases h1 : 150 < n
  · have h1' : (150 : Int) < (n : Int) := by omega
    go_enter Try.func4, Try.ntmps4
    go_wp2_with fail
    refine HA.out.mono ?_
    rintro e W ⟨rfl, hbW⟩
    go_wp2
    go_ret
    exact ⟨rfl, hbW⟩
  · have h1' : ¬ (150 : Int) < (n : Int) := by omega
    by_cases h2 : 30 < m
    · have h2' : (30 : Int) < (m : Int) := by omega
      go_enter Try.func4, Try.ntmps4
      go_wp2_with fail
      refine HA.out.mono ?_
      rintro e W ⟨rfl, hbW⟩
      go_wp2
      go_ret
      exact ⟨rfl, hbW⟩
    · have h2' : ¬ (30 : Int) < (m : Int) := by omega
      have h3' : (10 : Int) < (q : Int) := by omega
      go_enter Try.func4, Try.ntmps4
      go_wp2_with fail
      refine HA.out.mono ?_
      rintro e W ⟨rfl, hbW⟩
      go_wp2
      go_ret
      exact ⟨rfl, hbW⟩

set_option maxHeartbeats 8000000 in
set_option maxRecDepth 100000 in
theorem twice_few (A B C : Option Addr) (n c m d q f : Nat) (l : List SOp) (ks kd : List Int) (w : World) (h : Reads w w.heap.size 5 A n (opsCells l)) (hk : Reads w w.heap.size 1 B m (ks.map (Value.int .u64))) (hd : Reads w w.heap.size 1 C q (kd.map (Value.int .i64))) (hwf : ∀ o ∈ l, opWf o) (hn : n ≤ 150) (hm : m ≤ 30) (hq : q ≤ 10) :
    Calls Try.prog 4 #[.slice A n c, .slice B m d, .slice C q f] w (LawYes w) := by
  have hl : l.length = n := by have := h.1; rw [opsCells_length] at this; omega
  subst hl
  have h1' : ¬ (150 : Int) < (l.length : Int) := by omega
  have h2' : ¬ (30 : Int) < (m : Int) := by omega
  have h3' : ¬ (10 : Int) < (q : Int) := by omega
  have HA := Lib.hid (alive38 w)
  obtain ⟨lo, hlo⟩ : ∃ lo, lo = l.filter (fun o => !keyedP o.kind || ks.contains o.key) := ⟨_, rfl⟩
  obtain ⟨lw, hlw⟩ : ∃ lw, lw = l.filter (fun o => !kd.contains o.kind) := ⟨_, rfl⟩
  obtain ⟨lr, hlr⟩ : ∃ lr, lr = l.filter write := ⟨_, rfl⟩
  obtain ⟨ls, hls⟩ : ∃ ls, ls = shrink l := ⟨_, rfl⟩
  have zo : lo.length ≤ 150 := by rw [hlo]; exact Nat.le_trans (List.length_filter_le _ _) hn
  have zw : lw.length ≤ 150 := by rw [hlw]; exact Nat.le_trans (List.length_filter_le _ _) hn
  have zr : lr.length ≤ 150 := by rw [hlr]; exact Nat.le_trans (List.length_filter_le _ _) hn
  have zs : ls.length ≤ 150 := by rw [hls, ← shrink_kept]; exact Nat.le_trans (keptF_length _ _ _) hn
  have tO : lo.filter (fun o => !keyedP o.kind || ks.contains o.key) = lo := by rw [hlo]; exact filter_twice _ _
  have tw : lw.filter (fun o => !kd.contains o.kind) = lw := by rw [hlw]; exact filter_twice _ _
  have tr : lr.filter write = lr := by rw [hlr]; exact filter_twice _ _
  have ts : shrink ls = ls := by rw [hls]; exact shrink_twice l
  have trs : shrink lr = ls := by rw [hlr, hls]; exact shrink_writes l
  have tn : lr.filter (fun o => !([2, 3, 5] : List Int).contains o.kind) = [] := by rw [hlr]; exact writes_none l
  have wfo : ∀ o ∈ lo, opWf o := fun o ho => hwf o (by rw [hlo] at ho; exact (List.mem_filter.1 ho).1)
  have wfs : ∀ o ∈ ls, opWf o := fun o ho => hwf o (by rw [hls] at ho; exact (shrink_mem l o ho).2)
  have hko : ∀ x ∈ keysR lo, ks.contains x = true ∧ (keysR l).contains x = true := fun x hx => by
    obtain ⟨o, ho, hkk, rfl⟩ := ((keysR_spec lo).2 x).1 hx
    rw [hlo] at ho
    obtain ⟨ho1, ho2⟩ := List.mem_filter.1 ho
    rw [hkk] at ho2
    refine ⟨by simpa using ho2, ?_⟩
    have := ((keysR_spec l).2 o.key).2 ⟨o, ho1, hkk, rfl⟩
    simpa using this
  have HKO := Lib.hid hko
  have H2 := Lib.hid (fun (V : World) (hV : Below w.heap.size w V) => show Calls Try.prog 11 #[.slice A l.length c, .slice B m d] V (KeptPost V lo) from hlo ▸ slice_Only A l.length c l B m d ks V ((h.below hV).more hV.size) (by omega) ((hk.below hV).more hV.size) (by omega))
  have H3 := Lib.hid (fun (V : World) (hV : Below w.heap.size w V) => show Calls Try.prog 15 #[.slice A l.length c, .slice C q f] V (KeptPost V lw) from hlw ▸ slice_Without A l.length c l C q f kd V ((h.below hV).more hV.size) (by omega) ((hd.below hV).more hV.size) (by omega))
  have H4 := Lib.hid (fun (V : World) (hV : Below w.heap.size w V) => show Calls Try.prog 18 #[.slice A l.length c] V (KeptPost V lr) from hlr ▸ slice_Writes A l.length c l V ((h.below hV).more hV.size) (by omega))
  have H5 := Lib.hid (fun (V : World) (hV : Below w.heap.size w V) => show Calls Try.prog 20 #[.slice A l.length c] V (KeptPost V ls) from hls ▸ slice_Shrink A l.length c l V ((h.below hV).more hV.size) (by omega))
  have HK0 := Lib.hid (fun (V : World) (hV : Below w.heap.size w V) => slice_Keys A l.length c l V ((h.below hV).more hV.size) (by omega) hwf)
  have HH := Lib.hid (fun (x : Int) (V : World) (hV : Below w.heap.size w V) => law_has B m d ks x V ((hk.below hV).more hV.size) (by omega))
  have HkR := Lib.hid (fun (V : World) (hV : Below w.heap.size w V) => (hk.below hV).more hV.size)
  have HdR := Lib.hid (fun (V : World) (hV : Below w.heap.size w V) => (hd.below hV).more hV.size)
  have HT := Lib.hid (And.intro tO (And.intro tw (And.intro tr (And.intro ts (And.intro trs tn)))))
  have HLS := Lib.hid hls
  clear hlo hlw hlr hls tO tw tr ts trs tn hko h hk hd
  go_enter Try.func4, Try.ntmps4
  go_wp2_with fail
  refine HA.out.mono ?_
  rintro e W1 ⟨rfl, a1⟩
  go_wp2_with fail
  refine (H2.out _ a1).mono ?_
  rintro e W2 ⟨v7, rfl, o7, b2⟩
  obtain ⟨A7, c7, rfl⟩ := own_form o7
  have a2 := a1.trans (b2.mono a1.size)
  go_wp2_with fail
  refine (H3.out _ a2).mono ?_
  rintro e W3 ⟨v8, rfl, o8, b3⟩
  obtain ⟨A8, c8, rfl⟩ := own_form o8
  have a3 := a2.trans (b3.mono a2.size)
  go_wp2_with fail
  refine (H4.out _ a3).mono ?_
  rintro e W4 ⟨v9, rfl, o9, b4⟩
  obtain ⟨A9, c9, rfl⟩ := own_form o9
  have a4 := a3.trans (b4.mono a3.size)
  go_wp2_with fail
  refine (H5.out _ a4).mono ?_
  rintro e W5 ⟨v10, rfl, o10, b5⟩
  obtain ⟨A10, c10, rfl⟩ := own_form o10
  have a5 := a4.trans (b5.mono a4.size)
  have b45 := b5
  have b35 := b4.trans (b5.mono b4.size)
  have b25 := b3.trans (b35.mono b3.size)
  have r7 := ((Reads.of_own o7).below b25).more b25.size
  have r8 := ((Reads.of_own o8).below b35).more b35.size
  have r9 := ((Reads.of_own o9).below b45).more b45.size
  have r10 := Reads.of_own o10
  have L7 := Lib.hid (fun (V : World) (hV : Below W5.heap.size W5 V) => (r7.below hV).more hV.size)
  have L8 := Lib.hid (fun (V : World) (hV : Below W5.heap.size W5 V) => (r8.below hV).more hV.size)
  have L9 := Lib.hid (fun (V : World) (hV : Below W5.heap.size W5 V) => (r9.below hV).more hV.size)
  have L10 := Lib.hid (fun (V : World) (hV : Below W5.heap.size W5 V) => (r10.below hV).more hV.size)
  have HU := Lib.hid (fun (V : World) (hV : Below W5.heap.size W5 V) => a5.trans (hV.mono a5.size))
  have G7 := Lib.hid (fun (V : World) (hV : Below W5.heap.size W5 V) => show Calls Try.prog 11 #[.slice A7 lo.length c7, .slice B m d] V (KeptPost V lo) from by have := slice_Only A7 lo.length c7 lo B m d ks V (L7.out V hV) (by omega) (HkR.out V (HU.out V hV)) (by omega); rw [HT.out.1] at this; exact this)
  have G8 := Lib.hid (fun (V : World) (hV : Below W5.heap.size W5 V) => show Calls Try.prog 15 #[.slice A8 lw.length c8, .slice C q f] V (KeptPost V lw) from by have := slice_Without A8 lw.length c8 lw C q f kd V (L8.out V hV) (by omega) (HdR.out V (HU.out V hV)) (by omega); rw [HT.out.2.1] at this; exact this)
  have G9 := Lib.hid (fun (V : World) (hV : Below W5.heap.size W5 V) => show Calls Try.prog 18 #[.slice A9 lr.length c9] V (KeptPost V lr) from by have := slice_Writes A9 lr.length c9 lr V (L9.out V hV) (by omega); rw [HT.out.2.2.1] at this; exact this)
  have G10 := Lib.hid (fun (V : World) (hV : Below W5.heap.size W5 V) => show Calls Try.prog 20 #[.slice A10 ls.length c10] V (KeptPost V ls) from by have := slice_Shrink A10 ls.length c10 ls V (L10.out V hV) (by omega); rw [HT.out.2.2.2.1] at this; exact this)
  have G11 := Lib.hid (fun (V : World) (hV : Below W5.heap.size W5 V) => show Calls Try.prog 20 #[.slice A9 lr.length c9] V (KeptPost V ls) from by have := slice_Shrink A9 lr.length c9 lr V (L9.out V hV) (by omega); rw [HT.out.2.2.2.2.1] at this; exact this)
  have S7 := Lib.hid (fun (V : World) (hV : Below W5.heap.size W5 V) (X : Option Addr) (cx : Nat) (hX : Reads V V.heap.size 5 X lo.length (opsCells lo)) => same_every X cx A7 c7 lo V hX (L7.out V hV) (by omega))
  have S8 := Lib.hid (fun (V : World) (hV : Below W5.heap.size W5 V) (X : Option Addr) (cx : Nat) (hX : Reads V V.heap.size 5 X lw.length (opsCells lw)) => same_every X cx A8 c8 lw V hX (L8.out V hV) (by omega))
  have S9 := Lib.hid (fun (V : World) (hV : Below W5.heap.size W5 V) (X : Option Addr) (cx : Nat) (hX : Reads V V.heap.size 5 X lr.length (opsCells lr)) => same_every X cx A9 c9 lr V hX (L9.out V hV) (by omega))
  have S10 := Lib.hid (fun (V : World) (hV : Below W5.heap.size W5 V) (X : Option Addr) (cx : Nat) (hX : Reads V V.heap.size 5 X ls.length (opsCells ls)) => same_every X cx A10 c10 ls V hX (L10.out V hV) (by omega))
  have K10 := Lib.hid (fun (V : World) (hV : Below W5.heap.size W5 V) => slice_Keys A10 ls.length c10 ls V (L10.out V hV) (by omega) wfs)
  have K7 := Lib.hid (fun (V : World) (hV : Below W5.heap.size W5 V) => slice_Keys A7 lo.length c7 lo V (L7.out V hV) (by omega) wfo)
  have h0 := Below.refl W5.heap.size W5
  clear o7 o8 o9 o10 b2 b3 b4 b5 b45 b35 b25 r7 r8 r9 r10 a1 a2 a3 a4 H2 H3 H4 H5 HA
  go_wp2_with fail
  refine (G7.out _ h0).mono ?_
  rintro e V1 ⟨u1, rfl, p1, q1⟩
  obtain ⟨X1, x1, rfl⟩ := own_form p1
  go_wp2_with fail
  refine (S7.out _ q1 _ _ (Reads.of_own p1)).mono ?_
  rintro e V2 ⟨rfl, q2⟩
  have k2 := q1.trans (q2.mono q1.size)
  clear p1 q1 q2
  go_wp2_with fail
  refine (G8.out _ k2).mono ?_
  rintro e V3 ⟨u2, rfl, p2, q3⟩
  obtain ⟨X2, x2, rfl⟩ := own_form p2
  have k3 := k2.trans (q3.mono k2.size)
  go_wp2_with fail
  refine (S8.out _ k3 _ _ (Reads.of_own p2)).mono ?_
  rintro e V4 ⟨rfl, q4⟩
  have k4 := k3.trans (q4.mono k3.size)
  clear p2 q3 q4 k2 k3
  go_wp2_with fail
  refine (G9.out _ k4).mono ?_
  rintro e V5 ⟨u3, rfl, p3, q5⟩
  obtain ⟨X3, x3, rfl⟩ := own_form p3
  have k5 := k4.trans (q5.mono k4.size)
  go_wp2_with fail
  refine (S9.out _ k5 _ _ (Reads.of_own p3)).mono ?_
  rintro e V6 ⟨rfl, q6⟩
  have k6 := k5.trans (q6.mono k5.size)
  clear p3 q5 q6 k4 k5
  go_wp2_with fail
  refine (G10.out _ k6).mono ?_
  rintro e V7 ⟨u4, rfl, p4, q7⟩
  obtain ⟨X4, x4, rfl⟩ := own_form p4
  have k7 := k6.trans (q7.mono k6.size)
  go_wp2_with fail
  refine (S10.out _ k7 _ _ (Reads.of_own p4)).mono ?_
  rintro e V8 ⟨rfl, q8⟩
  have k8 := k7.trans (q8.mono k7.size)
  clear p4 q7 q8 k6 k7
  go_wp2_with fail
  refine (G11.out _ k8).mono ?_
  rintro e V9 ⟨u5, rfl, p5, q9⟩
  obtain ⟨X5, x5, rfl⟩ := own_form p5
  have k9 := k8.trans (q9.mono k8.size)
  go_wp2_with fail
  refine (S10.out _ k9 _ _ (Reads.of_own p5)).mono ?_
  rintro e V10 ⟨rfl, q10⟩
  have k10 := k9.trans (q10.mono k9.size)
  clear p5 q9 q10 k8 k9
  have k11 := k10.alloc k10.size (.cells #[.int .i64 2, .int .i64 3, .int .i64 5] 3)
  have hB := Blk.new V10 3 #[.int .i64 2, .int .i64 3, .int .i64 5]
  have rB : Reads (V10.alloc (.cells #[.int .i64 2, .int .i64 3, .int .i64 5] 3)) (V10.alloc (.cells #[.int .i64 2, .int .i64 3, .int .i64 5] 3)).heap.size 1 (some ⟨V10.heap.size, 0, none⟩) 3 (([2, 3, 5] : List Int).map (Value.int .i64)) := ⟨rfl, fun _ => ⟨V10.heap.size, 0, rfl, hB.lt, fun j u hu => by
    have := hB.cell j
    rw [List.getElem?_toArray] at this
    rw [Nat.zero_add]
    exact this.trans hu⟩⟩
  have G12 := Lib.hid (show Calls Try.prog 15 #[.slice A9 lr.length c9, .slice (some ⟨V10.heap.size, 0, none⟩) 3 3] (V10.alloc (.cells #[.int .i64 2, .int .i64 3, .int .i64 5] 3)) (KeptPost (V10.alloc (.cells #[.int .i64 2, .int .i64 3, .int .i64 5] 3)) []) from by have := slice_Without A9 lr.length c9 lr (some ⟨V10.heap.size, 0, none⟩) 3 3 [2, 3, 5] _ (L9.out _ k11) (by omega) rB (by omega); rw [HT.out.2.2.2.2.2] at this; exact this)
  clear hB rB
  go_wp2_with fail
  refine G12.out.mono ?_
  rintro e V11 ⟨u6, rfl, p6, q11⟩
  obtain ⟨X6, x6, rfl⟩ := own_form p6
  have k12 := k11.trans (q11.mono k11.size)
  clear p6 q11 k11 k10 G12
  go_wp2_with fail
  refine (K10.out _ k12).mono ?_
  rintro e V12 ⟨u7, kk, rfl, p7, _, hperm, q12⟩
  have hkl : kk.length = ls.length := by rw [HLS.out] at hperm ⊢; exact keys_shrink_length l kk hperm
  rw [hkl] at p7
  obtain ⟨X7, x7, rfl⟩ := own_form p7
  have k13 := k12.trans (q12.mono k12.size)
  clear p7 q12 k12 hkl hperm
  have hll : ((ls.length : Int) != (ls.length : Int)) = false := by simp
  go_wp2_with fail
  refine (K7.out _ k13).mono ?_
  rintro e V13 ⟨u8, kk2, rfl, p8, hkk, hpm2, q13⟩
  have hkb : kk2.length ≤ 150 := by
    rw [hpm2.length_eq, hashes_firsts, List.length_map]
    have := firsts_length lo
    omega
  clear hpm2
  subst hkk
  obtain ⟨X8, x8, rfl⟩ := own_form p8
  have k14 := k13.trans (q13.mono k13.size)
  have r8 := Reads.of_own p8
  have a14 := HU.out _ k14
  obtain ⟨kz, hkz⟩ : ∃ kz, kz = keysR lo := ⟨_, rfl⟩
  rw [← hkz] at r8 hkb ⊢
  have HKZ := Lib.hid hkz
  clear p8 q13 k13 hkz
  go_wp2
  go_loopw [6, 13, 95] (fun v _ i wr => ∃ k : Nat, k ≤ kz.length ∧ i = .int .i64 k ∧ v = .bool false ∧ Below V13.heap.size V13 wr) (fun _ _ i _ => kz.length - (intOf i).toNat)
  case atStart => exact ⟨0, by omega, rfl, rfl, Below.refl _ _⟩
  case round =>
    obtain ⟨k, hk, rfl, rfl, hBl⟩ := hrel
    obtain ⟨wo, rfl⟩ : ∃ wo : World, wo = wr := ⟨_, rfl⟩
    by_cases hlt : k < kz.length
    · have hy : kz[k]? = some (kz[k]'hlt) := List.getElem?_eq_getElem _
      have hmem := HKO.out _ (by rw [← HKZ.out]; exact List.getElem_mem hlt)
      generalize kz[k]'hlt = y at hy hmem
      obtain ⟨b, off, rfl, hb, hcs⟩ := (r8.below hBl).cells_ (by omega)
      have hc1 := hcs k (.int .u64 y) (by simp [keyVs, hy])
      have hlt' : (k : Int) < (kz.length : Int) := by omega
      have awr := a14.trans (hBl.mono a14.size)
      have HH1 := Lib.hid (show Calls Try.prog 14 #[.slice B m d, .int .u64 y] wo (fun e w' => e = .returned (.bool true) ∧ wo = w') from by have := HH.out y wo awr; rw [hmem.1] at this; exact this)
      have HM := Lib.hid hmem.2
      clear hcs hy hmem
      go_wp2_with fail
      refine HH1.out.mono ?_
      rintro e w2 ⟨rfl, rfl⟩
      go_wp2_with fail
      refine (HK0.out _ awr).mono ?_
      rintro e w3 ⟨u9, kk3, rfl, p9, hkk3, hpm3, q14⟩
      have hlk : kk3.length ≤ 65536 := by
        rw [hpm3.length_eq, hashes_firsts, List.length_map]
        have := firsts_length l
        omega
      subst hkk3
      obtain ⟨X9, x9, rfl⟩ := own_form p9
      have HH2 := Lib.hid (show Calls Try.prog 14 #[.slice X9 (keysR l).length x9, .int .u64 y] w3 (fun e w' => e = .returned (.bool true) ∧ w3 = w') from by have := law_has X9 (keysR l).length x9 (keysR l) y w3 (Reads.of_own p9) hlk; rw [HM.out] at this; exact this)
      clear p9 hpm3
      go_wp2_with fail
      refine HH2.out.mono ?_
      rintro e w4 ⟨rfl, rfl⟩
      go_wp2
      go_roundw
      case rel => exact ⟨k + 1, by omega, by go_num, rfl, hBl.trans (q14.mono hBl.size)⟩
      case measure => simp [intOf]; omega
    · have hlt' : ¬ (k : Int) < (kz.length : Int) := by omega
      go_wp2
      go_ret
      exact ⟨rfl, a14.trans (hBl.mono a14.size)⟩
theorem law_twice (A B C : Option Addr) (n c m d q f : Nat) (l : List SOp) (ks kd : List Int) (w : World) (h : Reads w w.heap.size 5 A n (opsCells l)) (hk : Reads w w.heap.size 1 B m (ks.map (Value.int .u64))) (hd : Reads w w.heap.size 1 C q (kd.map (Value.int .i64))) (hwf : ∀ o ∈ l, opWf o) :
    Calls Try.prog 4 #[.slice A n c, .slice B m d, .slice C q f] w (LawYes w) := by
  by_cases hs : 150 < n ∨ 30 < m ∨ 10 < q
  · exact twice_long A B C n c m d q f w hs
  · exact twice_few A B C n c m d q f l ks kd w h hk hd hwf (by omega) (by omega) (by omega)
end Go.Proofs.Ytoohcnjilmcimaa
