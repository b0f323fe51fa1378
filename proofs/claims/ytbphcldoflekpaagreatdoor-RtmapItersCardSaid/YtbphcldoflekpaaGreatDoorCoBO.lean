/- A queue's Has, Push, Remove by their contracts. -/
import Derived.Test.YtbphcldoflekpaaGreatDoorCoBL
import Derived.Test.YtbphcldoflekpaaGreatDoorSqT
import Derived.Test.YtbphcldoflekpaaGreatDoorLaneP
namespace Go.Proofs.YtbphcldoflekpaaGreatDoor
set_option maxRecDepth 100000
set_option maxHeartbeats 4000000
open Go.RowKit dA
def oZ (l : List Nat) (v : Nat) : Option Nat := l.findIdx? fun x => x == v
theorem Sq {l : List Nat} {v j : Nat} (h : l[j]? = some v) (hn : v ∉ l.take j) : oZ l v = some j := by
 obtain ⟨hj, hv⟩ := List.getElem?_eq_some_iff.1 h
 unfold oZ
 rw [List.findIdx?_eq_some_iff_getElem]
 refine ⟨hj, by simp [hv], fun k hk => ?_⟩
 have hkl : k < l.length := by omega
 simp only [Bool.not_eq_true, beq_eq_false_iff_ne]
 intro e
 exact hn (List.mem_take_iff_getElem.2 ⟨k, by omega, e⟩)
theorem YE {l : List Nat} {v : Nat} (hn : v ∉ l) : oZ l v = none := by
 unfold oZ
 rw [List.findIdx?_eq_none_iff]
 intro x hx
 simp only [beq_eq_false_iff_ne]
 rintro rfl
 exact hn hx
theorem IJ (A : Option Addr) (n c v : Nat) (l : List Nat) (hn : n ≤ 1000) (base : Nat) (w : World) (h : w.ownsRow base 3 1 (.slice A n c) n (dz l)) :
  Calls Tryz.prog 201 #[.slice A n c, nI v] w fun e w' => e = .returned (.int .i64 (rJ (oZ l v))) ∧ w = w' := by
 have hl : l.length = n := by simpa [dz] using h.1
 have HL := qd hl
 have HR := qd h
 clear hl h
 go_in
 go_wp2
 go_loop [4, 5, 8] (fun _ _ i => ∃ j : Nat, j ≤ n ∧ i = .int .i64 j ∧ v ∉ l.take j) (fun _ _ i => n - (intOf i).toNat)
 case atStart => exact ⟨0, by omega, rfl, by simp⟩
 case round =>
  obtain ⟨j, hj, rfl, hv⟩ := hrel
  have hll := HL.out
  by_cases hlt : j < n
  ·have hlt' : (j : Int) < (n : Int) := by omega
   have hj0 : (0 : Int) ≤ (j : Int) := by omega
   obtain ⟨u, hu⟩ : ∃ u, l[j]? = some u := ⟨_, List.getElem?_eq_getElem (by omega)⟩
   obtain ⟨g, rfl, _, _, hc, _⟩ := lQ HR.out hu
   by_cases he : v = u
   ·subst he
    have HE := qd (Sq hu hv)
    clear hv hu hll
    go_wp2
    go_ret
    exact ⟨by rw [HE.out]; rfl, rfl⟩
   ·have he' : ¬ (v : Int) = (u : Int) := by omega
    have HV := qd (show v ∉ l.take (j + 1) from by rw [pO hu]; simp only [List.mem_append, List.mem_singleton, not_or]; exact ⟨hv, he⟩)
    clear hv hu hll he
    go_wp2
    go_round
    case rel => exact ⟨j + 1, by omega, by go_num, HV.out⟩
    case measure => simp [intOf]; omega
  ·obtain rfl : j = n := by omega
   have hlt' : ¬ (j : Int) < (j : Int) := by omega
   have HE := qd (YE (l := l) (v := v) (by rwa [← hll, List.take_length] at hv))
   clear hv hll
   go_wp2
   go_ret
   exact ⟨by rw [HE.out]; rfl, rfl⟩
theorem Ls (A : Option Addr) (n c v : Nat) (l : List Nat) (hn : n ≤ 1000) (base : Nat) (w : World) (h : w.ownsRow base 3 1 (.slice A n c) n (dz l)) :
  Calls Tryz.prog 213 #[.slice A n c, nI v] w fun e w' => e = .returned (.bool (oZ l v).isSome) ∧ w = w' := by
 have HI := qd (IJ A n c v l hn base w h)
 clear h
 cases hx : oZ l v
 case' none =>
  rw [hx] at HI
  simp only [rJ] at HI
 case' some j =>
  rw [hx] at HI
  simp only [rJ] at HI
  have hj : (0 : Int) ≤ (j : Int) := by omega
 all_goals
  clear hx
  go_in
  go_wp2_with fail
  refine (HI.out).mono ?_
  rintro y w1 ⟨rfl, rfl⟩
  go_wp2
  go_ret
  exact ⟨rfl, rfl⟩
theorem Sr (qb rb : Nat) (ring : List Nat) (first : Nat) (ids : List Nat) (id : Nat) (w : World) (h : fH w qb rb ring first ids) :
  Calls Tryz.prog 197 #[oo qb, nI id] w fun e w' => e = .returned (.bool (oZ ids id).isSome) ∧ Below w.heap.size w w' := by
 have hmn := h.many
 have fK := qd (zF qb rb ring first ids w h)
 unfold oo at fK ⊢
 clear h
 go_in
 go_wp2_with fail
 refine (fK.out).mono ?_
 rintro y w1 ⟨A, c, rfl, hO, hb⟩
 have HC := qd (Ls A ids.length c id ids (by omega) _ w1 hO)
 have HB := qd hb
 clear hO hb
 go_wp2_with fail
 refine (HC.out).mono ?_
 rintro y w2 ⟨rfl, rfl⟩
 go_wp2
 go_ret
 exact ⟨rfl, HB.out⟩
theorem Qf (qb rb : Nat) (ring : List Nat) (first : Nat) (ids : List Nat) (id : Nat) (ZQ : oZ ids id = none) (hroom : ids.length < 40) (w : World) (h : fH w qb rb ring first ids) :
  Calls Tryz.prog 173 #[oo qb, nI id] w fun e w' => e = .returned .nilIface ∧ ∃ qO, fH w' qb rb qO first (ids ++ [id]) ∧ Mod [qb, rb] w w' := by
 have ZR := h.many
 have hf := h.Bo
 have Dj := qd (Sr qb rb ring first ids id w h)
 rw [ZQ] at Dj
 simp only [Option.isSome_none] at Dj
 obtain ⟨n, hn⟩ : ∃ n, n = ids.length := ⟨_, rfl⟩
 have HN := qd hn
 have jw := qd (fun V hV => DY qb rb ring first ids n (by omega) V hV)
 obtain ⟨q, hq⟩ : ∃ q, q = (first + n) % 40 := ⟨_, rfl⟩
 have HQq := qd hq
 rw [← hq] at jw
 have Gn : q < 40 := by omega
 have hq0 : (0 : Int) ≤ (q : Int) := by omega
 have hq1 : (q : Int) < 40 := by omega
 have ZP : ¬ (n : Int) = 40 := by omega
 have adz : ¬ n = 40 := by omega
 have adA : n ≤ 39 := by omega
 unfold oo at Dj jw ⊢
 have hQw := h.lt
 clear hq hn hroom ZQ
 have HQ := qd (h)
 have ah := qd (Mod.refl [qb, rb] w)
 clear h
 go_in
 go_wp2_with fail
 refine (Dj.out).mono ?_
 rintro x w1 ⟨rfl, hb⟩
 replace HQ := qB hb HQ
 have z1 := (hb).size
 replace ah := qT ah hb
 clear hb Dj
 have ce := HQ.out.entry Gn
 have cf := HQ.out.row.frozen q
 have c0 := HQ.out.blk.cell 0
 have c2 := HQ.out.blk.cell 2
 have f2 := HQ.out.blk.frozen 2
 simp only [gl] at c0 c2
 rw [← HN.out] at c2
 obtain ⟨u, hu⟩ : ∃ u, u = ring.getD q 0 := ⟨_, rfl⟩
 rw [← hu] at ce
 clear hu
 go_upto_region 3 with fail
 refine rT (fun (w' : World) => w'.cell? ⟨qb, 0, none⟩ = some (.slice (some ⟨rb, 0, none⟩) 40 40) ∧ w'.cell? ⟨qb, 2, none⟩ = some (nI n)) [] ?_
 have hHeld := (⟨c0, c2⟩ : _ ∧ _)
 refine vW 0 rfl ?_
 refine vW 1 rfl ?_
 refine vW 2 rfl ?_
 refine vT 3 rfl ?_
 refine vW 4 rfl ?_
 refine vW 5 rfl ?_
 refine vW 6 rfl ?_
 refine vT 7 rfl ?_
 refine vW 8 rfl ?_
 refine vW 9 rfl ?_
 refine vW 10 rfl ?_
 refine aT (by kernel_rfl) ?_ _
 refine cO (F := fun v => Mod [] w1 v) (Mod.drewN [] w1 1) ?_
 rintro w2 hm
 clear ce cf c0 c2 f2
 replace HQ := qM hm HQ
 have z2 := (hm).size
 replace ah := qU ah hm
 clear hm
 have ce := HQ.out.entry Gn
 have cf := HQ.out.row.frozen q
 have c0 := HQ.out.blk.cell 0
 have c2 := HQ.out.blk.cell 2
 have f2 := HQ.out.blk.frozen 2
 simp only [gl] at c0 c2
 rw [← HN.out] at c2
 obtain ⟨u, hu⟩ : ∃ u, u = ring.getD q 0 := ⟨_, rfl⟩
 rw [← hu] at ce
 clear hu
 go_upto_region 5 with fail
 refine rT (fun (w' : World) => w'.cell? ⟨qb, 0, none⟩ = some (.slice (some ⟨rb, 0, none⟩) 40 40) ∧ w'.cell? ⟨qb, 2, none⟩ = some (nI n)) [12] ?_
 have hHeld := (⟨c0, c2⟩ : _ ∧ _)
 refine vW 0 rfl ?_
 refine vW 1 rfl ?_
 refine vW 2 rfl ?_
 refine vT 3 rfl ?_
 refine vW 4 rfl ?_
 refine vW 5 rfl ?_
 refine vW 6 rfl ?_
 refine vW 7 rfl ?_
 refine vT 8 rfl ?_
 refine vW 10 rfl ?_
 refine nT 9 rfl fun K hK => ?_
 go_simp
 refine (jw.out _ (HQ.out.mod (Mod.drewN [] w2 1) (by simp) (by simp))).mono ?_
 rintro y w3 ⟨rfl, hw3⟩
 have hm : Mod [] w2 w3 := hw3 ▸ Mod.drewN [] w2 2
 clear hw3 ce cf c0 c2 f2
 replace HQ := qM hm HQ
 have z3 := (hm).size
 replace ah := qU ah hm
 clear hm
 have ce := HQ.out.entry Gn
 have cf := HQ.out.row.frozen q
 have c0 := HQ.out.blk.cell 0
 have c2 := HQ.out.blk.cell 2
 have f2 := HQ.out.blk.frozen 2
 simp only [gl] at c0 c2
 rw [← HN.out] at c2
 obtain ⟨u, hu⟩ : ∃ u, u = ring.getD q 0 := ⟨_, rfl⟩
 rw [← hu] at ce
 clear hu
 go_wp2_with fail
 have hHeld := (⟨c0, c2⟩ : _ ∧ _)
 refine kO hK ?_
 clear hK K
 refine vW 11 rfl ?_
 refine nT 12 rfl fun K hK => ?_
 go_simp
 refine kO hK ?_
 clear hK K
 refine aT (by kernel_rfl) ?_ _
 have hB := HQ.out.blk
 have hR := HQ.out.row
 have hRs := hR.ak q (nI id)
 rw [vR] at hRs
 have WY := hB.far (p := ⟨rb, q, none⟩) HQ.out.ne (nI id)
 have hmm := (Mod.refl [rb] w3).sl q (nI id)
 have HQo := qd HQ.out
 refine cO (F := fun v => (aj v qb 201 #[.slice (some ⟨rb, 0, none⟩) 40 40, nI first, nI n] ∧ aj v rb 3 (intCells (ring.set q id))) ∧ Mod [rb] w3 v) ⟨⟨by rw [HN.out]; exact WY, hRs⟩, hmm⟩ ?_
 clear hB hR hRs WY hmm ce cf c0 c2 f2 HQ
 rintro w4 ⟨⟨hB, hR⟩, hm⟩
 replace ah := qd (ah.out.then (hm.more (by simp)))
 clear hm
 have HB := qd (hB)
 have HR := qd (hR)
 clear hB hR
 have bc := HB.out.c3
 have bf := HB.out.f3
 go_upto_region 7 with fail
 have hqr := HQo.out.ne
 have q4 := qJ HB.out.lt HR.out.lt
 refine ED HB.out ?_
 rintro w5 ⟨hnew, hm⟩
 simp only [pt] at hnew
 replace HR := qM hm HR
 have z6 := (hm).size
 replace ah := qU ah hm
 replace HB := qd hnew
 clear hnew hm
 have HFin := qd (show fH w5 qb rb (ring.set q id) first (ids ++ [id]) from by
  have h0 := HQo.out
  have hnn := HN.out
  have hqq := HQq.out
  refine ⟨?_, HR.out, by rw [List.length_set]; exact h0.len, h0.Bo, by rw [List.length_append]; simp; omega, fun i hi => ?_, h0.ne⟩
  ·have hb := HB.out
   rw [List.length_append, List.length_singleton, ← hnn]
   exact hb
  ·rw [List.length_append, List.length_singleton] at hi
   rw [List.getD_eq_getElem?_getD, List.getElem?_set, List.getD_eq_getElem?_getD (l := ids ++ [id])]
   by_cases hin : i < ids.length
   ·rw [if_neg (by omega), List.getElem?_append_left hin, ← List.getD_eq_getElem?_getD, ← List.getD_eq_getElem?_getD]
    exact h0.at_ i hin
   ·have hi2 : i = ids.length := by omega
    have hlr := h0.len
    rw [if_pos (by rw [hqq, hnn, hi2]), if_pos (by omega), List.getElem?_append_right (by omega), hi2]
    simp)
 go_wp2
 go_ret
 first | exact ⟨rfl, ⟨_, HFin.out⟩, ah.out⟩ | exact ⟨rfl, _, HFin.out, ah.out⟩
section
variable {jv k1 k2 k3 qv s : Value}
theorem JF (P : Program) (w : World) (a : Addr) (x : Nat) (m : Mode) : (store a (.float .f64 x) m).run P w = stored P w a (.float .f64 x) m := run_store P w a _ m rfl
attribute [local go_sem] JF
def xw (n m : Int) : Bool := decide (1 ≤ n) && decide (n ≤ m)
def iB (k m i : Int) : Value := .agg #[.int .i64 k, .int .i64 m, .int .i64 i]
theorem Dk (n m : Int) (w : World) : Calls Tryz.prog 74 #[.int .i64 n, .int .i64 m] w fun e w' => e = .returned (.bool (xw n m)) ∧ w = w' := by
 unfold xw
 by_cases h1 : 1 ≤ n
 ·by_cases h2 : n ≤ m
  ·rw [show (decide (1 ≤ n) && decide (n ≤ m)) = true from by simp [h1, h2]]
   go_in
   go_wp2
   go_ret
   exact ⟨rfl, rfl⟩
  ·rw [show (decide (1 ≤ n) && decide (n ≤ m)) = false from by simp [h2]]
   go_in
   go_wp2
   go_ret
   exact ⟨rfl, rfl⟩
 ·rw [show (decide (1 ≤ n) && decide (n ≤ m)) = false from by simp [h1]]
  go_in
  go_wp2
  go_ret
  exact ⟨rfl, rfl⟩
def nk (k m i : Int) : Bool := xw k 64 && (xw m 192 && xw i 8)
theorem zG {E : Nat → Addr} (k m i : Int) (w : World) (hE : sD E w) : Calls Tryz.prog 47 #[iB k m i] w fun e w' => e = .returned (if nk k m i = true then .nilIface else kT E 1) ∧ Below w.heap.size w w' := by
 have hB := (Below.refl w.heap.size w).alloc (Nat.le_refl _) (.cells #[.int .i64 k, .int .i64 m, .int .i64 i] 23)
 have hC := aj.new w 23 #[.int .i64 k, .int .i64 m, .int .i64 i]
 obtain ⟨W, hW⟩ : ∃ W, W = w.alloc (.cells #[.int .i64 k, .int .i64 m, .int .i64 i] 23) := ⟨_, rfl⟩
 rw [← hW] at hB hC
 obtain ⟨c0, c1, c2⟩ := hC.c3
 have HW := qd hW
 have HB := qd hB
 have her := hE.at_ 1 (by omega) (by omega)
 have hbk := hE.below hB (Nat.le_refl _)
 replace her := hbk.at_ 1 (by omega) (by omega)
 unfold fJ gE at her
 simp only at her
 have HP := qd (Dk)
 unfold iB
 clear hW hB hC hE hbk
 unfold nk
 cases h1 : xw k 64 with
 | false =>
  simp only [Bool.false_and, Bool.false_eq_true, if_false]
  go_in
  go_upto_region 1 with fail
  rw [← HW.out]
  have HQ := qd (HP.out k 64 W)
  rw [h1] at HQ
  go_wp2_with fail
  refine (HQ.out).mono ?_
  rintro y w1 ⟨rfl, rfl⟩
  clear HQ
  go_wp2
  go_ret
  exact ⟨by rw [jd E (by omega : 1 ≤ 1)]; rfl, HB.out⟩
 | true =>
  cases h2 : xw m 192 with
  | false =>
   simp only [Bool.true_and, Bool.false_and, Bool.false_eq_true, if_false]
   go_in
   go_upto_region 1 with fail
   rw [← HW.out]
   have HQ := qd (HP.out k 64 W)
   rw [h1] at HQ
   go_wp2_with fail
   refine (HQ.out).mono ?_
   rintro y w1 ⟨rfl, rfl⟩
   clear HQ
   have HQ := qd (HP.out m 192 W)
   rw [h2] at HQ
   go_wp2_with fail
   refine (HQ.out).mono ?_
   rintro y w1 ⟨rfl, rfl⟩
   clear HQ
   go_wp2
   go_ret
   exact ⟨by rw [jd E (by omega : 1 ≤ 1)]; rfl, HB.out⟩
  | true =>
   cases h3 : xw i 8 with
   | false =>
    simp only [Bool.true_and, Bool.false_eq_true, if_false]
    go_in
    go_upto_region 1 with fail
    rw [← HW.out]
    have HQ := qd (HP.out k 64 W)
    rw [h1] at HQ
    go_wp2_with fail
    refine (HQ.out).mono ?_
    rintro y w1 ⟨rfl, rfl⟩
    clear HQ
    have HQ := qd (HP.out m 192 W)
    rw [h2] at HQ
    go_wp2_with fail
    refine (HQ.out).mono ?_
    rintro y w1 ⟨rfl, rfl⟩
    clear HQ
    have HQ := qd (HP.out i 8 W)
    rw [h3] at HQ
    go_wp2_with fail
    refine (HQ.out).mono ?_
    rintro y w1 ⟨rfl, rfl⟩
    clear HQ
    go_wp2
    go_ret
    exact ⟨by rw [jd E (by omega : 1 ≤ 1)]; rfl, HB.out⟩
   | true =>
    simp only [Bool.true_and, if_true]
    go_in
    go_upto_region 1 with fail
    rw [← HW.out]
    have HQ := qd (HP.out k 64 W)
    rw [h1] at HQ
    go_wp2_with fail
    refine (HQ.out).mono ?_
    rintro y w1 ⟨rfl, rfl⟩
    clear HQ
    have HQ := qd (HP.out m 192 W)
    rw [h2] at HQ
    go_wp2_with fail
    refine (HQ.out).mono ?_
    rintro y w1 ⟨rfl, rfl⟩
    clear HQ
    have HQ := qd (HP.out i 8 W)
    rw [h3] at HQ
    go_wp2_with fail
    refine (HQ.out).mono ?_
    rintro y w1 ⟨rfl, rfl⟩
    clear HQ
    go_wp2
    go_ret
    exact ⟨rfl, HB.out⟩
theorem zH (k m i n : Int) (hk : 1 ≤ k ∧ k ≤ 64) (hn : 0 ≤ n ∧ n ≤ 24) (w : World) : Calls Tryz.prog 96 #[iB k m i, .int .i64 n, .int .i64 0] w fun e w' => e = .returned (.int .i64 (n * k)) ∧ Below w.heap.size w w' := by
 have hB := (Below.refl w.heap.size w).alloc (Nat.le_refl _) (.cells #[.int .i64 k, .int .i64 m, .int .i64 i] 23)
 have hC := aj.new w 23 #[.int .i64 k, .int .i64 m, .int .i64 i]
 obtain ⟨W, hW⟩ : ∃ W, W = w.alloc (.cells #[.int .i64 k, .int .i64 m, .int .i64 i] 23) := ⟨_, rfl⟩
 rw [← hW] at hB hC
 obtain ⟨c0, c1, c2⟩ := hC.c3
 have HW := qd hW
 have HB := qd hB
 have HP := qd (Dk k 64 W)
 rw [show xw k 64 = true from by simp [xw, hk]] at HP
 have hnk : 0 ≤ n * k ∧ n * k ≤ 24 * 64 := ⟨Int.mul_nonneg hn.1 (by omega), Int.mul_le_mul hn.2 hk.2 (by omega) (by omega)⟩
 have hw1 : IntKind.i64.wrap (n * k) = n * k := by rw [IntKind.wrap_i64]; omega
 unfold iB
 clear hW hB hC hk hn hnk
 go_in
 go_upto_region 1 with fail
 rw [← HW.out]
 go_wp2_with fail
 refine (HP.out).mono ?_
 rintro y w1 ⟨rfl, rfl⟩
 go_wp2
 go_ret
 exact ⟨rfl, HB.out⟩
theorem Lu (k m i : Int) (hk : 1 ≤ k ∧ k ≤ 64) (w : World) : Calls Tryz.prog 134 #[iB k m i] w fun e w' => e = .returned (.int .i64 (8 * k)) ∧ Below w.heap.size w w' := by
 have hB := (Below.refl w.heap.size w).alloc (Nat.le_refl _) (.cells #[.int .i64 k, .int .i64 m, .int .i64 i] 23)
 have hC := aj.new w 23 #[.int .i64 k, .int .i64 m, .int .i64 i]
 obtain ⟨W, hW⟩ : ∃ W, W = w.alloc (.cells #[.int .i64 k, .int .i64 m, .int .i64 i] 23) := ⟨_, rfl⟩
 rw [← hW] at hB hC
 obtain ⟨c0, c1, c2⟩ := hC.c3
 have HW := qd hW
 have HB := qd hB
 have HP := qd (zH k m i 8 hk (by omega) W)
 unfold iB at HP ⊢
 clear hW hB hC hk
 go_in
 go_upto_region 1 with fail
 rw [← HW.out]
 go_wp2_with fail
 refine (HP.out).mono ?_
 rintro y w1 ⟨rfl, hb⟩
 have HB2 := qd (HB.out.trans (hb.mono HB.out.size))
 clear hb
 go_wp2
 go_ret
 exact ⟨gF (by omega), HB2.out⟩
theorem Fq (k m i : Int) (hk : 1 ≤ k ∧ k ≤ 64) (w : World) : Calls Tryz.prog 136 #[iB k m i] w fun e w' => e = .returned (.int .i64 (1 * k)) ∧ Below w.heap.size w w' := by
 have hB := (Below.refl w.heap.size w).alloc (Nat.le_refl _) (.cells #[.int .i64 k, .int .i64 m, .int .i64 i] 23)
 have hC := aj.new w 23 #[.int .i64 k, .int .i64 m, .int .i64 i]
 obtain ⟨W, hW⟩ : ∃ W, W = w.alloc (.cells #[.int .i64 k, .int .i64 m, .int .i64 i] 23) := ⟨_, rfl⟩
 rw [← hW] at hB hC
 obtain ⟨c0, c1, c2⟩ := hC.c3
 have HW := qd hW
 have HB := qd hB
 have HP := qd (zH k m i 1 hk (by omega) W)
 unfold iB at HP ⊢
 clear hW hB hC hk
 go_in
 go_upto_region 1 with fail
 rw [← HW.out]
 go_wp2_with fail
 refine (HP.out).mono ?_
 rintro y w1 ⟨rfl, hb⟩
 have HB2 := qd (HB.out.trans (hb.mono HB.out.size))
 clear hb
 go_wp2
 go_ret
 exact ⟨gF (by omega), HB2.out⟩
theorem Nt (sb : Nat) (b : Int) (w : World) (h : aj w sb 155 #[k1, k2, k3, qv, jv, .int .i64 b, .float .f64 0, s]) :
  Calls Tryz.prog 174 #[.pointer (some ⟨sb, 5, none⟩)] w fun e w' => e = .returned (.int .i64 b) ∧ aj w' sb 155 #[k1, k2, k3, qv, jv, .int .i64 0, .float .f64 0, s] ∧ Mod [sb] w w' := by
 have c5 := h.cell 5
 have c6 := h.cell 6
 have f5 := h.frozen 5
 have f6 := h.frozen 6
 simp only [gl] at c5 c6
 have hs := ((h.ak 5 (.int .i64 0)).ak 6 (.float .f64 0))
 simp only [pt] at hs
 have HS := qd (And.intro hs (((Mod.refl [sb] w).sl 5 (.int .i64 0)).sl 6 (.float .f64 0)))
 clear h hs
 go_in
 go_wp2
 go_ret
 exact ⟨rfl, HS.out⟩
theorem Gp (sb : Nat) (n : Int) (hn : 0 ≤ n ∧ n ≤ 1000) (w : World) (h : aj w sb 155 #[k1, k2, k3, qv, jv, .int .i64 0, .float .f64 0, s]) :
  Calls Tryz.prog 64 #[.pointer (some ⟨sb, 5, none⟩), .int .i64 n] w fun e w' => e = .returned (.int .i64 n) ∧ aj w' sb 155 #[k1, k2, k3, qv, jv, .int .i64 n, .float .f64 0, s] ∧ Mod [sb] w w' := by
 obtain ⟨n0, n1⟩ := hn
 have c5 := h.cell 5
 have c6 := h.cell 6
 have f5 := h.frozen 5
 have f6 := h.frozen 6
 simp only [gl] at c5 c6
 have hs := (h.ak 5 (.int .i64 n))
 simp only [pt] at hs
 have HS := qd (And.intro hs ((Mod.refl [sb] w).sl 5 (.int .i64 n)))
 clear h hs
 have hx0 : ¬ n < 0 := by omega
 have hx1 : ¬ (1099511627776 : Int) < n := by omega
 go_in
 go_wp2
 go_ret
 exact ⟨rfl, HS.out⟩
theorem Lv (sb b : Nat) (hb : 1 ≤ b ∧ b ≤ 1000) (w : World) (h : aj w sb 155 #[k1, k2, k3, qv, jv, nI b, .float .f64 0, s]) :
  Calls Tryz.prog 147 #[.pointer (some ⟨sb, 5, none⟩), .int .i64 1] w fun e w' => e = .returned (.bool true) ∧ aj w' sb 155 #[k1, k2, k3, qv, jv, .int .i64 ((b : Int) - 1), .float .f64 0, s] ∧ Mod [sb] w w' := by
 obtain ⟨b0, b1⟩ := hb
 have hx1 : ¬ (1 : Int) > (b : Int) := by omega
 have c5 := h.cell 5
 have c6 := h.cell 6
 have f5 := h.frozen 5
 have f6 := h.frozen 6
 simp only [gl] at c5 c6
 have hs := (h.ak 5 (.int .i64 ((b : Int) - 1)))
 simp only [pt] at hs
 have HS := qd (And.intro hs ((Mod.refl [sb] w).sl 5 (.int .i64 ((b : Int) - 1))))
 clear h hs
 go_in
 go_wp2
 go_ret
 exact ⟨rfl, HS.out⟩
theorem Fu (sb : Nat) (w : World) (h : aj w sb 155 #[k1, k2, k3, qv, jv, .int .i64 0, .float .f64 0, s]) :
  Calls Tryz.prog 147 #[.pointer (some ⟨sb, 5, none⟩), .int .i64 1] w fun e w' => e = .returned (.bool false) ∧ w = w' := by
 have c5 := h.cell 5
 have c6 := h.cell 6
 have f5 := h.frozen 5
 have f6 := h.frozen 6
 simp only [gl] at c5 c6
 clear h
 go_in
 go_wp2
 go_ret
 exact ⟨rfl, rfl⟩
theorem Gq (sb : Nat) (b : Int) (w : World) (h : aj w sb 155 #[k1, k2, k3, qv, jv, .int .i64 b, .float .f64 0, s]) :
  Calls Tryz.prog 176 #[.pointer (some ⟨sb, 5, none⟩)] w fun e w' => e = .returned (.int .i64 b) ∧ w = w' := by
 have c5 := h.cell 5
 have c6 := h.cell 6
 have f5 := h.frozen 5
 have f6 := h.frozen 6
 simp only [gl] at c5 c6
 clear h
 go_in
 go_wp2
 go_ret
 exact ⟨rfl, rfl⟩
end
section
variable {w : World} {first qb rb : Nat} {ids ring : List Nat}
theorem fH.put (h : fH w qb rb ring first ids) {t : Nat} (ht : t < ids.length) (x : Nat) : fH (w.setCell ⟨rb, (first + t) % 40, none⟩ (nI x)) qb rb (ring.set ((first + t) % 40) x) first (ids.set t x) := by
 have hm := h.many
 have hl := h.len
 have hf := h.Bo
 refine ⟨?_, ?_, by rw [List.length_set]; exact hl, hf, by rw [List.length_set]; exact hm, fun i hi => ?_, h.ne⟩
 ·rw [List.length_set]; exact h.blk.far (p := ⟨rb, (first + t) % 40, none⟩) h.ne _
 ·have := h.row.ak ((first + t) % 40) (nI x)
  rwa [vR] at this
 ·rw [List.length_set] at hi
  rw [List.getD_eq_getElem?_getD, List.getElem?_set, List.getD_eq_getElem?_getD (l := ids.set t x), List.getElem?_set]
  by_cases hti : t = i
  ·subst hti
   rw [if_pos rfl, if_pos rfl, if_pos (by omega), if_pos ht]
  ·rw [if_neg hti, if_neg (by omega), ← List.getD_eq_getElem?_getD, ← List.getD_eq_getElem?_getD]
   exact h.at_ i hi
def iL (ids : List Nat) (i : Nat) : Nat → List Nat
 | 0 => ids
 | k + 1 => (iL ids i k).set (i + k) (ids.getD (i + k + 1) 0)
theorem kC (ids : List Nat) (i : Nat) : ∀ k, (iL ids i k).length = ids.length
 | 0 => rfl
 | k + 1 => by unfold iL; rw [List.length_set, kC ids i k]
theorem IK (ids : List Nat) (i : Nat) : ∀ (k : Nat), i + k < ids.length → ∀ (t : Nat), t < ids.length → (iL ids i k).getD t 0 = if i ≤ t ∧ t < i + k then ids.getD (t + 1) 0 else ids.getD t 0
 | 0, _, t, _ => by rw [if_neg (by omega)]; rfl
 | k + 1, hk, t, ht => by
  unfold iL
  rw [List.getD_eq_getElem?_getD, List.getElem?_set, kC]
  by_cases h : i + k = t
  ·subst h
   rw [if_pos rfl, if_pos (by omega), if_pos (by omega)]; rfl
  ·rw [if_neg h, ← List.getD_eq_getElem?_getD, IK ids i k (by omega) t ht]
   by_cases h2 : i ≤ t ∧ t < i + k
   ·rw [if_pos h2, if_pos (by omega)]
   ·rw [if_neg h2, if_neg (by omega)]
theorem Fv {i : Nat} (hi : i < ids.length) : (iL ids i (ids.length - (i + 1))).take (ids.length - 1) = ids.eraseIdx i := by
 apply List.ext_getElem?
 intro t
 rw [List.getElem?_take, List.getElem?_eraseIdx]
 by_cases ht : t < ids.length - 1
 ·rw [if_pos ht]
  have h1 := IK ids i (ids.length - (i + 1)) (by omega) t (by omega)
  have h2 : t < (iL ids i (ids.length - (i + 1))).length := by rw [kC]; omega
  rw [List.getD_eq_getElem?_getD, List.getElem?_eq_getElem h2] at h1
  rw [List.getElem?_eq_getElem h2]
  by_cases h3 : t < i
  ·rw [if_pos h3]
   rw [if_neg (by omega), List.getD_eq_getElem?_getD, List.getElem?_eq_getElem (show t < ids.length by omega)] at h1
   rw [List.getElem?_eq_getElem (show t < ids.length by omega)]
   simpa using h1
  ·rw [if_neg h3]
   rw [if_pos (by omega), List.getD_eq_getElem?_getD, List.getElem?_eq_getElem (show t + 1 < ids.length by omega)] at h1
   rw [List.getElem?_eq_getElem (show t + 1 < ids.length by omega)]
   simpa using h1
 ·rw [if_neg ht]
  by_cases h3 : t < i
  ·omega
  ·rw [if_neg h3, List.getElem?_eq_none (by omega)]
theorem fH.shrink (h : fH w qb rb ring first ids) : fH (w.setCell ⟨qb, 2, none⟩ (.int .i64 ((ids.length - 1 : Nat) : Int))) qb rb ring first (ids.take (ids.length - 1)) := by
 have hm := h.many
 have hlt : (ids.take (ids.length - 1)).length = ids.length - 1 := by rw [List.length_take]; omega
 refine ⟨?_, h.row.far (p := ⟨qb, 2, none⟩) (Ne.symm h.ne) _, h.len, h.Bo, by omega, fun i hi => ?_, h.ne⟩
 ·rw [hlt]
  have := h.blk.ak 2 (.int .i64 ((ids.length - 1 : Nat) : Int))
  simpa using this
 ·rw [hlt] at hi
  rw [h.at_ i (by omega), List.getD_eq_getElem?_getD, List.getD_eq_getElem?_getD, List.getElem?_take, if_pos hi]
theorem JG {base n c : Nat} {e : TypeId} {A : Option Addr} {xs : List Value} (h : w.ownsRow base e 1 (.slice A n c) n xs) (hn : 0 < n) : ∃ (g : Nat) (c2 : Nat), A = some ⟨g, 0, none⟩ ∧ base ≤ g ∧ g < w.heap.size ∧ n ≤ c := by
 rcases h.2 with ⟨_, hz⟩ | ⟨g, cap, cur, hv, hb, hg, hnc, _⟩
 ·omega
 ·cases hv
  exact ⟨g, 0, rfl, hb, (Array.getElem?_eq_some_iff.1 hg).1, hnc⟩
theorem Lx (qb rb : Nat) (ring : List Nat) (first : Nat) (ids : List Nat) (id i : Nat) (hin : oZ ids id = some i) (w : World) (h : fH w qb rb ring first ids) :
  Calls Tryz.prog 178 #[oo qb, nI id] w fun e w' => e = .returned (.bool true) ∧ (∃ qO, fH w' qb rb qO first (ids.eraseIdx i)) ∧ Mod [qb, rb] w w' := by
 have ZR := h.many
 have hf := h.Bo
 have hil : i < ids.length := by
  unfold oZ at hin
  rw [List.findIdx?_eq_some_iff_getElem] at hin
  exact hin.1
 have fK := qd (zF qb rb ring first ids w h)
 obtain ⟨n, hn⟩ : ∃ n, n = ids.length := ⟨_, rfl⟩
 have HN := qd hn
 rw [← hn] at fK ZR hil
 unfold oo at fK ⊢
 have hi0 : (0 : Int) ≤ (i : Int) := by omega
 have hi1 : ¬ (i : Int) < 0 := by omega
 have HQ := qd (h)
 have ah := qd (Mod.refl [qb, rb] w)
 clear h hn
 go_in
 have q1 := qJ HQ.out.lt HQ.out.IG
 go_wp2_with fail
 refine (fK.out).mono ?_
 rintro y w1 ⟨A, c, rfl, hO, hb⟩
 have HI := qd (IJ A n c id ids (by omega) _ w1 hO)
 rw [hin] at HI
 simp only [rJ] at HI
 clear hin fK
 replace HQ := qB hb HQ
 have z3 := (hb).size
 replace ah := qT ah hb
 clear hb
 have HO := qd (hO)
 clear hO
 go_wp2_with fail
 refine (HI.out).mono ?_
 rintro y w2 ⟨rfl, rfl⟩
 clear HI
 obtain ⟨g, c2, hA⟩ := JG HO.out (by omega)
 obtain ⟨rfl, hgb, hgl, hnc⟩ := hA
 have hw1 : IntKind.i64.wrap ((i : Int) + 1) = (i : Int) + 1 := by rw [IntKind.wrap_i64]; omega
 have hs0 : (0 : Int) ≤ (i : Int) + 1 := by omega
 have hs1 : (i : Int) + 1 ≤ (n : Int) := by omega
 have hs2 : ((i : Int) + 1).toNat = i + 1 := by omega
 by_cases hce : c = i + 1
 ·obtain ⟨mm, hmm⟩ : ∃ mm, mm = n - (i + 1) := ⟨_, rfl⟩
  have HCe := qd hce
  subst hce
  go_wp2
  go_loopw [7, 8, 21] (fun _ _ vi wr => ∃ k : Nat, k ≤ n - (i + 1) ∧ vi = .int .i64 k ∧ (∃ rg, fH wr qb rb rg first (iL ids i k)) ∧ wr.ownsRow w.heap.size 3 1 (.slice (some ⟨g, 0, none⟩) n (i + 1)) n (dz ids) ∧ Mod [qb, rb] w wr) (fun _ _ vi _ => (n - (i + 1)) - (intOf vi).toNat)
  case atStart => exact ⟨0, by omega, rfl, ⟨ring, HQ.out⟩, HO.out, ah.out⟩
  case round =>
   clear HQ HO ah
   obtain ⟨k, hk, rfl, ⟨rg, hQ⟩, hO, hm⟩ := hrel
   have hnn := HN.out
   by_cases hlt : k < n - (i + 1)
   ·exfalso; omega
   ·obtain rfl : k = n - (i + 1) := by omega
    have hlt' : ¬ ((n - (i + 1) : Nat) : Int) < ((n - (i + 1) : Nat) : Int) := by omega
    have hsl : (iL ids i (n - (i + 1))).length = ids.length := kC ids i _
    have hs := hQ.shrink
    rw [hsl, ← hnn, show (iL ids i (n - (i + 1))).take (n - 1) = ids.eraseIdx i from by rw [hnn]; exact Fv (by omega)] at hs
    have c2 := hQ.blk.cell 2
    have f2 := hQ.blk.frozen 2
    simp only [gl] at c2
    rw [hsl, ← hnn] at c2
    have hw4 : IntKind.i64.wrap ((n : Int) - 1) = ((n - 1 : Nat) : Int) := by rw [IntKind.wrap_i64]; omega
    have hw5 : wrap64 ((n : Int) - 1) = ((n - 1 : Nat) : Int) := by unfold wrap64; omega
    have HFin := qd (And.intro (show ∃ qO, fH _ qb rb qO first (ids.eraseIdx i) from ⟨rg, hs⟩) (hm.sl 2 (.int .i64 ((n - 1 : Nat) : Int))))
    clear hQ hO hm hs hsl hnn
    go_wp2
    go_ret
    exact ⟨rfl, HFin.out⟩
 ·obtain ⟨mm, hmm⟩ : ∃ mm, mm = n - (i + 1) := ⟨_, rfl⟩
  go_wp2
  go_loopw [7, 8, 21] (fun _ _ vi wr => ∃ k : Nat, k ≤ n - (i + 1) ∧ vi = .int .i64 k ∧ (∃ rg, fH wr qb rb rg first (iL ids i k)) ∧ wr.ownsRow w.heap.size 3 1 (.slice (some ⟨g, 0, none⟩) n c) n (dz ids) ∧ Mod [qb, rb] w wr) (fun _ _ vi _ => (n - (i + 1)) - (intOf vi).toNat)
  case atStart => exact ⟨0, by omega, rfl, ⟨ring, HQ.out⟩, HO.out, ah.out⟩
  case round =>
   clear HQ HO ah
   obtain ⟨k, hk, rfl, ⟨rg, hQ⟩, hO, hm⟩ := hrel
   have hnn := HN.out
   by_cases hlt : k < n - (i + 1)
   ·have hlt' : (k : Int) < ((n - (i + 1) : Nat) : Int) := by omega
    have hk0 : (0 : Int) ≤ (k : Int) := by omega
    obtain ⟨v, hv⟩ : ∃ v, ids[i + 1 + k]? = some v := ⟨_, List.getElem?_eq_getElem (by omega)⟩
    obtain ⟨g', hg', _, _, hc, _⟩ := lQ hO hv
    cases hg'
    have hvd : ids.getD (i + k + 1) 0 = v := by rw [List.getD_eq_getElem?_getD, show i + k + 1 = i + 1 + k by omega, hv]; rfl
    have hsl : (iL ids i k).length = ids.length := kC ids i k
    have jw := qd (fun V hV => DY qb rb rg first (iL ids i k) (i + k) (by omega) V hV)
    try simp only [nI] at jw
    rw [show ((i + k : Nat) : Int) = (i : Int) + (k : Int) by omega] at jw
    have p8 := qd (fun V (hV : fH V qb rb rg first (iL ids i k)) => hV.put (t := i + k) (by omega) v)
    obtain ⟨q, hq⟩ : ∃ q, q = (first + (i + k)) % 40 := ⟨_, rfl⟩
    rw [← hq] at jw p8
    have Gn : q < 40 := by omega
    have hq0 : (0 : Int) ≤ (q : Int) := by omega
    have hq1 : (q : Int) < 40 := by omega
    have hw3 : IntKind.i64.wrap ((i : Int) + (k : Int)) = (i : Int) + (k : Int) := by rw [IntKind.wrap_i64]; omega
    have HVd := qd hvd
    unfold oo at jw
    clear hv hvd hsl hq hnn
    have HQ := qd (hQ)
    have HO := qd (hO)
    have ah := qd (hm)
    clear hQ hO hm
    have z1 := qJ ah.out.size (qJ HQ.out.lt HQ.out.IG)
    go_upto_region 8 with fail
    have ce := HQ.out.entry Gn
    have cf := HQ.out.row.frozen q
    have c0 := HQ.out.blk.cell 0
    simp only [List.getElem?_toArray, List.getElem?_cons_zero] at c0
    obtain ⟨u, hu⟩ : ∃ u, u = rg.getD q 0 := ⟨_, rfl⟩
    rw [← hu] at ce
    clear hu
    refine rT (fun (w' : World) => w'.cell? ⟨qb, 0, none⟩ = some (.slice (some ⟨rb, 0, none⟩) 40 40)) [11] ?_
    have hHeld := c0
    refine vW 0 rfl ?_
    refine vW 1 rfl ?_
    refine vW 2 rfl ?_
    refine vT 3 rfl ?_
    refine vW 4 rfl ?_
    refine vW 5 rfl ?_
    refine vW 6 rfl ?_
    refine vW 7 rfl ?_
    refine vW 9 rfl ?_
    refine nT 8 rfl fun K hK => ?_
    go_simp
    refine (jw.out _ (HQ.out.mod (Mod.drewN [] wr 1) (by simp) (by simp))).mono ?_
    rintro y w3 ⟨rfl, ZT⟩
    have hm : Mod [] wr w3 := ZT ▸ Mod.drewN [] wr 2
    clear ZT hc ce cf c0
    replace HQ := qM hm HQ
    replace HO := qM hm HO
    have z4 := (hm).size
    replace ah := qU ah hm
    clear hm
    have ce := HQ.out.entry Gn
    have cf := HQ.out.row.frozen q
    have c0 := HQ.out.blk.cell 0
    simp only [List.getElem?_toArray, List.getElem?_cons_zero] at c0
    obtain ⟨u, hu⟩ : ∃ u, u = rg.getD q 0 := ⟨_, rfl⟩
    rw [← hu] at ce
    clear hu
    go_wp2_with fail
    have hHeld := c0
    refine kO hK ?_
    clear hK K
    refine vW 10 rfl ?_
    refine nT 11 rfl fun K hK => ?_
    go_simp
    refine kO hK ?_
    clear hK K
    refine aT (by kernel_rfl) ?_ _
    have iQ := qd (show iL ids i (k + 1) = (iL ids i k).set (i + k) v from by rw [← HVd.out]; rfl)
    refine cO (F := fun V => fH V qb rb (rg.set q v) first (iL ids i (k + 1)) ∧ Mod [rb] w3 V) ⟨by rw [iQ.out]; exact p8.out _ HQ.out, (Mod.refl [rb] w3).sl q (nI v)⟩ ?_
    rintro w4 ⟨hQ4, hm⟩
    clear HQ ce cf c0
    replace HO := qM hm HO
    have z5 := (hm).size
    replace ah := qU ah hm
    have HQ4 := qd hQ4
    clear hQ4 hm
    go_wp2
    go_roundw
    case rel => exact ⟨k + 1, by omega, by go_num, ⟨_, HQ4.out⟩, HO.out, ah.out⟩
    case measure => simp [intOf]; omega
   ·obtain rfl : k = n - (i + 1) := by omega
    have hlt' : ¬ ((n - (i + 1) : Nat) : Int) < ((n - (i + 1) : Nat) : Int) := by omega
    have hsl : (iL ids i (n - (i + 1))).length = ids.length := kC ids i _
    have hs := hQ.shrink
    rw [hsl, ← hnn, show (iL ids i (n - (i + 1))).take (n - 1) = ids.eraseIdx i from by rw [hnn]; exact Fv (by omega)] at hs
    have c2 := hQ.blk.cell 2
    have f2 := hQ.blk.frozen 2
    simp only [gl] at c2
    rw [hsl, ← hnn] at c2
    have hw4 : IntKind.i64.wrap ((n : Int) - 1) = ((n - 1 : Nat) : Int) := by rw [IntKind.wrap_i64]; omega
    have hw5 : wrap64 ((n : Int) - 1) = ((n - 1 : Nat) : Int) := by unfold wrap64; omega
    have HFin := qd (And.intro (show ∃ qO, fH _ qb rb qO first (ids.eraseIdx i) from ⟨rg, hs⟩) (hm.sl 2 (.int .i64 ((n - 1 : Nat) : Int))))
    clear hQ hO hm hs hsl hnn
    go_wp2
    go_ret
    exact ⟨rfl, HFin.out⟩
end
end Go.Proofs.YtbphcldoflekpaaGreatDoor
