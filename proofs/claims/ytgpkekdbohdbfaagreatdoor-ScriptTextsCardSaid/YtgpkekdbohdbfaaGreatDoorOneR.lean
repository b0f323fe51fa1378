/- The reference's operation of a row of words (amblerref31.One), and which rows are few (amblernum.Few): by their contracts. -/
import Derived.Test.YtgpkekdbohdbfaaGreatDoorLaw30c
import Derived.Test.YtgpkekdbohdbfaaGreatDoorScriptI
namespace Go.Proofs.YtgpkekdbohdbfaaGreatDoor
open Go.RowKit AmS AmD

/-- what the reference says of a word: a number, its base -/
def RNumPost (s : ByteArray) (w : World) (e : Ending) (w' : World) : Prop :=
  ((∃ (n : Nat) (ten : Bool), e = .returned (.tuple #[.int .u64 (n : Int), .bool ten, .bool true]) ∧ ∀ k, numE k s.data.toList = if 7 ≤ k then (if ten = true then (if 1000000 < n then .error 1 else .ok n) else .error 13) else .ok n) ∨
   (∃ (m : Int) (ten : Bool), e = .returned (.tuple #[.int .u64 m, .bool ten, .bool false]) ∧ ∀ k, numE k s.data.toList = .error 13)) ∧ Below w.heap.size w w'
theorem ref_Number (s : ByteArray) (w : World) (hs : s.size ≤ 70000) : Calls Tryz.prog 30 #[.string s] w (RNumPost s w) := by
  by_cases hw : IsHexWord s
  · obtain ⟨h1, h2⟩ := numOf_hex hw
    refine (ref_num16 s w hs hw.1 hw.2).mono fun e w' h => ?_
    cases hx : hex (s.data.toList.drop 2) with
    | some n =>
      rw [hx] at h h1
      obtain ⟨rfl, hb⟩ := h
      refine ⟨.inl ⟨n, false, rfl, fun k => ?_⟩, hb⟩
      unfold numE
      rw [h1, h2]
      by_cases hk : 7 ≤ k <;> simp [hk]
    | none =>
      rw [hx] at h h1
      obtain ⟨rfl, hb⟩ := h
      refine ⟨.inr ⟨0, false, rfl, fun k => ?_⟩, hb⟩
      unfold numE
      rw [h1, h2]
      by_cases hk : 7 ≤ k <;> simp [hk]
  · have h1 := numOf_dec hw
    refine (ref_num10 s w hs (by
      by_cases h2 : 2 < s.size
      · right
        exact fun e => hw ⟨h2, e⟩
      · exact .inl h2)).mono fun e w' h => ?_
    cases hx : dec s.data.toList with
    | some n =>
      rw [hx] at h h1
      obtain ⟨rfl, hb⟩ := h
      refine ⟨.inl ⟨n, true, rfl, fun k => ?_⟩, hb⟩
      unfold numE
      rw [h1, hx]
      by_cases hk : 7 ≤ k <;> simp [hk]
    | none =>
      rw [hx] at h h1
      obtain ⟨m, rfl, hb⟩ := h
      refine ⟨.inr ⟨m, true, rfl, fun k => ?_⟩, hb⟩
      unfold numE
      rw [h1, hx]
      by_cases hk : 7 ≤ k <;> simp [hk]

theorem kind_name {j : Nat} (h1 : 1 ≤ j) (h9 : j < 9) (x : Bts) : x = names.getD j [] ↔ kindOf x = j := by
  have H : j = 1 ∨ j = 2 ∨ j = 3 ∨ j = 4 ∨ j = 5 ∨ j = 6 ∨ j = 7 ∨ j = 8 := by omega
  constructor
  · rintro rfl
    rcases H with rfl | rfl | rfl | rfl | rfl | rfl | rfl | rfl <;> decide
  · intro h
    unfold kindOf at h
    repeat' (split at h)
    all_goals first
      | (next hx => subst h; exact hx)
      | omega

/-- an operation, or an error's number beside nought -/
def ROnePost (w : World) (r : Except Nat SOp) (e : Ending) (w' : World) : Prop :=
  match r with
  | .ok o => e = .returned (.tuple #[opV o, .int .i64 0]) ∧ Below w.heap.size w w'
  | .error k => e = .returned (.tuple #[nilOp, .int .i64 (k : Int)]) ∧ Below w.heap.size w w'
theorem rone_err {w w' : World} {r : Except Nat SOp} {k : Nat} (h : r = .error k) (hb : Below w.heap.size w w') : ROnePost w r (.returned (.tuple #[nilOp, .int .i64 (k : Int)])) w' := by
  subst h; exact ⟨rfl, hb⟩
theorem rone_ok {w w' : World} {r : Except Nat SOp} {o : SOp} {v : Value} (h : r = .ok o) (hv : v = opV o) (hb : Below w.heap.size w w') : ROnePost w r (.returned (.tuple #[v, .int .i64 0])) w' := by
  subst h; subst hv; exact ⟨rfl, hb⟩

def endOf (K : Nat) : Except Nat (List Nat) → Except Nat SOp
  | .error e => .error e
  | .ok ns => .ok (opOf K ns)
def wordK : List Bts → Nat
  | [] => 0
  | x :: _ => kindOf x
theorem wordK_le (l : List Bts) : wordK l ≤ 8 := by
  cases l with
  | nil => exact Nat.zero_le _
  | cons x r => exact kindOf_le x
def kindUpto (K j : Nat) : Nat := if K < j then K else 0

/-- the blocks of amblerref31.One: the result, the operation, the kinds' words -/
structure ROne (w : World) (K : Nat) (wr : World) : Prop where
  res : Blk wr w.heap.size 35 #[.int .i64 0, .int .u64 0, .int .u64 0, .int .u64 0, .int .i64 0]
  op : Blk wr (w.heap.size + 1) 35 #[.int .i64 (K : Int), .int .u64 0, .int .u64 0, .int .u64 0, .int .i64 0]
  words : Blk wr (w.heap.size + 2) 9 (names.map strV).toArray
  below : Below w.heap.size w wr
theorem ROne.size {w wr : World} {K : Nat} (h : ROne w K wr) : w.heap.size + 2 < wr.heap.size := h.words.lt
theorem ROne.set_ {w wr : World} {K : Nat} (h : ROne w K wr) (j : Nat) : ROne w j (wr.setCell ⟨w.heap.size + 1, 0, none⟩ (.int .i64 (j : Int))) :=
  ⟨h.res.far (by show w.heap.size ≠ w.heap.size + 1; omega) _, h.op.set_ 0 _, h.words.far (by show w.heap.size + 2 ≠ w.heap.size + 1; omega) _, h.below.setCell (by show w.heap.size ≤ w.heap.size + 1; omega) _⟩

set_option maxHeartbeats 4000000 in
set_option maxRecDepth 100000 in
theorem ref_One (A : Option Addr) (n c : Nat) (l : List Bts) (w : World) (h : Reads w w.heap.size 1 A n (l.map strV)) (hcap : n ≤ c) (hn : n ≤ 1000000) (hsize : ∀ y ∈ l, y.length ≤ 70000) :
    Calls Tryz.prog 15 #[.slice A n c] w (ROnePost w (one l)) := by
  have hl : l.length = n := by simpa using h.1
  obtain ⟨R, hR⟩ : ∃ R, one l = R := ⟨_, rfl⟩
  have HR := Lib.hid hR
  have HL := Lib.hid hl
  have HW := Lib.hid (fun W => ref_Words W)
  have hK8 := wordK_le l
  obtain ⟨K, hK⟩ : ∃ K, wordK l = K := ⟨_, rfl⟩
  have HK := Lib.hid hK
  rw [hK] at hK8
  rw [hR]
  clear hR hl hK
  go_enter Tryz.func15, Tryz.ntmps15
  go_wp2_with fail
  refine (HW.out _).mono ?_
  rintro e w1 ⟨rfl, hw⟩
  have hR1 : ROne w 0 w1 := by
    rw [← hw]
    refine ⟨((Blk.new w _ _).alloc _).alloc _, ?_, ?_, (((Below.refl _ _).alloc (Nat.le_refl _) _).alloc (by simp) _).alloc (by simp; omega) _⟩
    · have := (Blk.new (w.alloc (.cells #[.int .i64 0, .int .u64 0, .int .u64 0, .int .u64 0, .int .i64 0] 35)) 35 #[.int .i64 0, .int .u64 0, .int .u64 0, .int .u64 0, .int .i64 0]).alloc (.cells (names.map strV).toArray 9)
      simpa using this
    · have := Blk.new ((w.alloc (.cells #[.int .i64 0, .int .u64 0, .int .u64 0, .int .u64 0, .int .i64 0] 35)).alloc (.cells #[.int .i64 0, .int .u64 0, .int .u64 0, .int .u64 0, .int .i64 0] 35)) 9 (names.map strV).toArray
      simpa using this
  clear hw
  go_wp2
  go_loopw [5, 6, 17] (fun _ _ i wr => ∃ j : Nat, j ≤ 9 ∧ i = .int .i64 j ∧ ROne w (kindUpto K j) wr) (fun _ _ i _ => 9 - (intOf i).toNat)
  case atStart => exact ⟨0, by omega, rfl, by simpa [kindUpto] using hR1⟩
  case round =>
    obtain ⟨j, hj, rfl, hat⟩ := hrel
    obtain ⟨wo, rfl⟩ : ∃ wo : World, wo = wr := ⟨_, rfl⟩
    have hsz := hat.size
    by_cases hlt : j < 9
    · have hlt' : (j : Int) < 9 := by omega
      have hnj : wo.cell? ⟨w.heap.size + 2, j, none⟩ = some (.string ⟨(names.getD j []).toArray⟩) := by rw [hat.words.cell]; exact names_cell j hlt
      obtain ⟨sj, hsj⟩ : ∃ sj : ByteArray, (⟨(names.getD j []).toArray⟩ : ByteArray) = sj := ⟨_, rfl⟩
      rw [hsj] at hnj
      have HSJ := Lib.hid hsj
      clear hsj
      by_cases hj0 : j = 0
      · have g0 : ¬ (0 : Int) < (j : Int) := by omega
        have HU := Lib.hid (show kindUpto K (j + 1) = kindUpto K j by unfold kindUpto; split <;> (try split) <;> omega)
        clear hj0
        go_wp2
        go_roundw
        case rel => exact ⟨j + 1, by omega, by go_num, by rw [HU.out]; exact hat⟩
        case measure => simp [intOf]; omega
      · have g0 : (0 : Int) < (j : Int) := by omega
        by_cases hn0 : n = 0
        · have g1 : ¬ (0 : Int) < (n : Int) := by omega
          have hK0 : K = 0 := by
            rw [← HK.out, List.length_eq_zero_iff.1 (show l.length = 0 by rw [HL.out]; exact hn0)]
            rfl
          have HU := Lib.hid (show kindUpto K (j + 1) = kindUpto K j by unfold kindUpto; split <;> (try split) <;> omega)
          clear hn0 hK0
          go_wp2
          go_roundw
          case rel => exact ⟨j + 1, by omega, by go_num, by rw [HU.out]; exact hat⟩
          case measure => simp [intOf]; omega
        · have g1 : (0 : Int) < (n : Int) := by omega
          obtain ⟨b, off, x, r, rfl, hb, rfl, hr, hc0, hc⟩ := one_cons (by omega) h
          have hKx : kindOf x = K := HK.out
          have hx0 : wo.cell? ⟨b, off, none⟩ = some (.string ⟨x.toArray⟩) := (hat.below.cell (p := ⟨b, off, none⟩) hb).trans hc0
          obtain ⟨sx, hsx⟩ : ∃ sx : ByteArray, (⟨x.toArray⟩ : ByteArray) = sx := ⟨_, rfl⟩
          rw [hsx] at hx0
          have f0 := hat.op.frozen 0
          have z0 := hat.op.cell 0
          simp only [List.getElem?_toArray, List.getElem?_cons_zero] at z0
          by_cases hxj : x = names.getD j []
          · have hkj : K = j := by rw [← hKx]; exact (kind_name (by omega) hlt x).1 hxj
            have hee : (sx.toList == sj.toList) = true := by rw [← HSJ.out, ← hxj, hsx]; simp
            have HU := Lib.hid (show kindUpto K (j + 1) = j by unfold kindUpto; split <;> omega)
            clear hxj hkj hKx hr hc hc0 hsx
            go_wp2
            go_roundw
            case rel => exact ⟨j + 1, by omega, by go_num, by rw [HU.out]; exact hat.set_ j⟩
            case measure => simp [intOf]; omega
          · have hkj : K ≠ j := fun e => hxj ((kind_name (by omega) hlt x).2 (hKx.trans e))
            have hee : (sx.toList == sj.toList) = false := by
              rw [← HSJ.out, ← hsx, beq_eq_false_iff_ne, ByteArray.toList_eq, ByteArray.toList_eq]
              exact hxj
            have HU := Lib.hid (show kindUpto K (j + 1) = kindUpto K j by unfold kindUpto; split <;> (try split) <;> omega)
            clear hxj hkj hKx hr hc hc0 hsx
            go_wp2
            go_roundw
            case rel => exact ⟨j + 1, by omega, by go_num, by rw [HU.out]; exact hat⟩
            case measure => simp [intOf]; omega
    · obtain rfl : j = 9 := by omega
      have hku : kindUpto K 9 = K := by unfold kindUpto; rw [if_pos (by omega)]
      rw [hku] at hat
      have hsz := hat.size
      clear hku hR1
      by_cases hK0 : K = 0
      · have HE := Lib.hid (show R = .error 15 from by
          rw [← HR.out]
          have hk := HK.out
          cases l with
          | nil => rfl
          | cons x r =>
            unfold one
            simp only
            rw [if_pos (show kindOf x = 0 from hk.trans hK0)])
        subst hK0
        have hRes := hat.res
        have hOp := hat.op
        have hBel := hat.below
        have a0 := hRes.cell 0
        have a1 := hRes.cell 1
        have a2 := hRes.cell 2
        have a3 := hRes.cell 3
        have a4 := hRes.cell 4
        have af0 := hRes.frozen 0
        have af1 := hRes.frozen 1
        have af2 := hRes.frozen 2
        have af3 := hRes.frozen 3
        have af4 := hRes.frozen 4
        simp only [List.getElem?_toArray, List.getElem?_cons_zero, List.getElem?_cons_succ] at a0 a1 a2 a3 a4
        have as0 : wo.setCell ⟨w.heap.size, 0, none⟩ (.int .i64 0) = wo := hRes.setCell_id rfl
        have as1 : wo.setCell ⟨w.heap.size, 1, none⟩ (.int .u64 0) = wo := hRes.setCell_id rfl
        have as2 : wo.setCell ⟨w.heap.size, 2, none⟩ (.int .u64 0) = wo := hRes.setCell_id rfl
        have as3 : wo.setCell ⟨w.heap.size, 3, none⟩ (.int .u64 0) = wo := hRes.setCell_id rfl
        have as4 : wo.setCell ⟨w.heap.size, 4, none⟩ (.int .i64 0) = wo := hRes.setCell_id rfl
        have c0 := hOp.cell 0
        have c1 := hOp.cell 1
        have c2 := hOp.cell 2
        have c3 := hOp.cell 3
        have c4 := hOp.cell 4
        have cf0 := hOp.frozen 0
        have cf1 := hOp.frozen 1
        have cf2 := hOp.frozen 2
        have cf3 := hOp.frozen 3
        have cf4 := hOp.frozen 4
        simp only [List.getElem?_toArray, List.getElem?_cons_zero, List.getElem?_cons_succ] at c0 c1 c2 c3 c4
        clear hat hRes hOp
        go_wp2
        refine bodyPost_ret (v := .tuple #[nilOp, .int .i64 15]) (by simp [results, Tryz.results15, go_sem, nilOp, a0, a1, a2, a3, a4]) rfl (rone_err HE.out hBel)
      · have hne0 : l ≠ [] := fun e => hK0 (by rw [← HK.out, e]; rfl)
        have hn0 : 0 < n := by rw [← HL.out]; exact List.length_pos_iff.2 hne0
        obtain ⟨b, off, x, r, rfl, hb, rfl, hr, hc0, hc⟩ := one_cons hn0 h
        have hKx : kindOf x = K := HK.out
        have hK1 : 1 ≤ K := by omega
        have hm3 : manyOf K ≤ 3 := by unfold manyOf; split <;> (try split) <;> (try split) <;> omega
        have hz : ((K : Int) == 0) = false := by simp; omega
        have hmc : (#[.int .i64 0, .int .i64 2, .int .i64 3, .int .i64 2, .int .i64 0, .int .i64 0, .int .i64 0, .int .i64 1, .int .i64 1] : Array Value)[K]? = some (.int .i64 (manyOf K : Int)) := by
          have H : K = 1 ∨ K = 2 ∨ K = 3 ∨ K = 4 ∨ K = 5 ∨ K = 6 ∨ K = 7 ∨ K = 8 := by omega
          rcases H with rfl | rfl | rfl | rfl | rfl | rfl | rfl | rfl <;> rfl
        have hmk : ∀ ty, (wo.alloc (.cells #[.int .i64 0, .int .i64 2, .int .i64 3, .int .i64 2, .int .i64 0, .int .i64 0, .int .i64 0, .int .i64 1, .int .i64 1] ty)).cell? ⟨wo.heap.size, K, none⟩ = some (.int .i64 (manyOf K : Int)) := fun ty => by rw [(Blk.new wo ty _).cell]; exact hmc
        have HNR := Lib.hid hr
        have HKX := Lib.hid hKx
        have hK9 : (K : Int) < 9 := by omega
        have z0 := hat.op.cell 0
        simp only [List.getElem?_toArray, List.getElem?_cons_zero] at z0
        have z0' : ∀ o, (wo.alloc o).cell? ⟨w.heap.size + 1, 0, none⟩ = some (.int .i64 (K : Int)) := fun o => (hat.op.alloc o).cell 0
        have hat' : ∀ o, ROne w K (wo.alloc o) := fun o => ⟨hat.res.alloc o, hat.op.alloc o, hat.words.alloc o, hat.below.alloc hat.below.size o⟩
        clear hmc hne0 hr hKx hK0 h
        by_cases hnm : n = manyOf K + 1
        · have b1 : ((n : Int) != (manyOf K : Int) + 1) = false := by simp; omega
          have hn4 : n ≤ 4 := by omega
          obtain ⟨A1, hsl, hA1⟩ := slice_from' (P := Tryz.prog) (t := 45) (e := 9) (size := 1) Tryz.underlying45 size_str b off n c 1 (by omega) hcap
          have hsl1 : ∀ W, (Instr.slice 45 (.slice (some ⟨b, off, none⟩) n c) (some (.int .i64 1)) none none).run Tryz.prog W = .ok (.slice A1 (n - 1) (c - 1)) W := hsl
          have HA1 := Lib.hid hA1
          have HN := Lib.hid hnm
          have hE0 : R = endOf K (numsE K [] r) := by
            rw [← HR.out, one_eq x r K HKX.out hK1 (by have := HNR.out; omega)]
            cases numsE K [] r <;> rfl
          obtain ⟨RR, hRR⟩ : ∃ RR, numsE K [] r = RR := ⟨_, rfl⟩
          rw [hRR] at hE0
          have HRR := Lib.hid hRR
          have HE := Lib.hid hE0
          clear hsl hA1 hnm hRR hE0
          obtain ⟨w2, hw2⟩ : ∃ w2, w2 = wo.alloc (.cells #[.int .i64 0, .int .i64 2, .int .i64 3, .int .i64 2, .int .i64 0, .int .i64 0, .int .i64 0, .int .i64 1, .int .i64 1] 3) := ⟨_, rfl⟩
          have hat2 : ROne w K w2 := by rw [hw2]; exact hat' _
          have hw2s : w2.heap.size = wo.heap.size + 1 := by rw [hw2]; simp
          have HW2 := Lib.hid hw2
          have HW2s := Lib.hid hw2s
          clear hw2 hw2s
          go_wp2
          rw [← HW2.out]
          go_loopw [3, 8, 10, 11, 12, 13, 58] (fun v3 v _ _ _ _ i wr => ∃ (j : Nat) (ns : List Nat), j ≤ n - 1 ∧ i = .int .i64 j ∧ v3 = .int .i64 0 ∧ OneAt w2 K r RR j ns v wr) (fun _ _ _ _ _ _ i _ => n - 1 - (intOf i).toNat)
          case atStart => exact ⟨0, [], by omega, rfl, rfl, by rw [← HW2s.out]; exact own_empty w2 w2.heap.size 32 1 (Nat.le_refl _), HRR.out, rfl, (Below.refl _ _).alloc (Nat.le_refl _) _⟩
          case round =>
            obtain ⟨j, ns, hj, rfl, rfl, hat3⟩ := hrel
            obtain ⟨wq, rfl⟩ : ∃ wq : World, wq = wr := ⟨_, rfl⟩
            have hsz2 := hat2.size
            have hab := hat3.below
            have hRw : ROne w K wq := ⟨hat2.res.below hab (by omega), hat2.op.below hab (by omega), hat2.words.below hab (by omega), hat2.below.trans (hab.mono hat2.below.size)⟩
            by_cases hlt : j < n - 1
            · have hrn := HNR.out
              have hy : r[j]? = some (r[j]'(by omega)) := List.getElem?_eq_getElem _
              have hys := hsize _ (List.mem_cons_of_mem _ (List.mem_of_getElem? hy))
              generalize r[j]'(by omega) = y at hy hys
              have hcy := hc j y hy
              have hA := HA1.out (by omega)
              subst hA
              have hcy1 : wq.cell? ⟨b, off + 1 + j, none⟩ = some (.string ⟨y.toArray⟩) := (hRw.below.cell (p := ⟨b, off + 1 + j, none⟩) hb).trans hcy
              have hrest := hat3.rest
              rw [drop_bts hy, numsE] at hrest
              have HNum := Lib.hid (ref_Number ⟨y.toArray⟩ wq (by show y.toArray.size ≤ _; rw [List.size_toArray]; exact hys))
              have hown := hat3.own
              have HAL := Lib.hid hat3.len
              have hal' : ns.length ≤ j := Nat.le_of_eq hat3.len
              have hlt' : (j : Int) < ((n - 1 : Nat) : Int) := by omega
              obtain ⟨sy, hsy⟩ : ∃ sy : ByteArray, (⟨y.toArray⟩ : ByteArray) = sy := ⟨_, rfl⟩
              have hyy : sy.data.toList = y := by rw [← hsy]
              rw [hsy] at hcy1 HNum
              have HY := Lib.hid hyy
              clear hat3 hcy hy hrn hsy hyy
              go_wp2_with fail
              refine HNum.out.mono ?_
              rintro e w3 ⟨hcase, hb3⟩
              have hown3 := own_below hown hb3 (Nat.le_refl _)
              have hab3 := hab.trans (hb3.mono hab.size)
              have hRo : ROne w K w3 := ⟨hRw.res.below hb3 (by have := hRw.size; omega), hRw.op.below hb3 (by have := hRw.size; omega), hRw.words.below hb3 (by have := hRw.size; omega), hRw.below.trans (hb3.mono hRw.below.size)⟩
              clear hown hb3 hRw hab
              rcases hcase with ⟨m, ten, rfl, hnum⟩ | ⟨m, ten, rfl, hnum⟩
              · have hnk := hnum K
                rw [HY.out] at hnk
                rw [hnk] at hrest
                by_cases hk7 : 7 ≤ K
                · have hk6 : (6 : Int) < (K : Int) := by omega
                  rw [if_pos hk7] at hrest
                  cases ten with
                  | false =>
                    rw [if_neg (by simp)] at hrest
                    have HE2 := Lib.hid (show R = .error 13 from by rw [HE.out, ← hrest]; rfl)
                    have hRes := hRo.res
                    have hOp := hRo.op
                    have hBel := hRo.below
                    have a0 := hRes.cell 0
                    have a1 := hRes.cell 1
                    have a2 := hRes.cell 2
                    have a3 := hRes.cell 3
                    have a4 := hRes.cell 4
                    have af0 := hRes.frozen 0
                    have af1 := hRes.frozen 1
                    have af2 := hRes.frozen 2
                    have af3 := hRes.frozen 3
                    have af4 := hRes.frozen 4
                    simp only [List.getElem?_toArray, List.getElem?_cons_zero, List.getElem?_cons_succ] at a0 a1 a2 a3 a4
                    have as0 : w3.setCell ⟨w.heap.size, 0, none⟩ (.int .i64 0) = w3 := hRes.setCell_id rfl
                    have as1 : w3.setCell ⟨w.heap.size, 1, none⟩ (.int .u64 0) = w3 := hRes.setCell_id rfl
                    have as2 : w3.setCell ⟨w.heap.size, 2, none⟩ (.int .u64 0) = w3 := hRes.setCell_id rfl
                    have as3 : w3.setCell ⟨w.heap.size, 3, none⟩ (.int .u64 0) = w3 := hRes.setCell_id rfl
                    have as4 : w3.setCell ⟨w.heap.size, 4, none⟩ (.int .i64 0) = w3 := hRes.setCell_id rfl
                    have c0 := hOp.cell 0
                    have c1 := hOp.cell 1
                    have c2 := hOp.cell 2
                    have c3 := hOp.cell 3
                    have c4 := hOp.cell 4
                    have cf0 := hOp.frozen 0
                    have cf1 := hOp.frozen 1
                    have cf2 := hOp.frozen 2
                    have cf3 := hOp.frozen 3
                    have cf4 := hOp.frozen 4
                    simp only [List.getElem?_toArray, List.getElem?_cons_zero, List.getElem?_cons_succ] at c0 c1 c2 c3 c4
                    clear hRo hRes hOp hrest
                    go_wp2
                    refine bodyPost_ret (v := .tuple #[nilOp, .int .i64 13]) (by simp [results, Tryz.results15, go_sem, nilOp, a0, a1, a2, a3, a4]) rfl (rone_err HE2.out hBel)
                  | true =>
                    rw [if_pos rfl] at hrest
                    by_cases hm : 1000000 < m
                    · have hm' : (1000000 : Int) < (m : Int) := by omega
                      rw [if_pos hm] at hrest
                      have HE2 := Lib.hid (show R = .error 1 from by rw [HE.out, ← hrest]; rfl)
                      have hRes := hRo.res
                      have hOp := hRo.op
                      have hBel := hRo.below
                      have a0 := hRes.cell 0
                      have a1 := hRes.cell 1
                      have a2 := hRes.cell 2
                      have a3 := hRes.cell 3
                      have a4 := hRes.cell 4
                      have af0 := hRes.frozen 0
                      have af1 := hRes.frozen 1
                      have af2 := hRes.frozen 2
                      have af3 := hRes.frozen 3
                      have af4 := hRes.frozen 4
                      simp only [List.getElem?_toArray, List.getElem?_cons_zero, List.getElem?_cons_succ] at a0 a1 a2 a3 a4
                      have as0 : w3.setCell ⟨w.heap.size, 0, none⟩ (.int .i64 0) = w3 := hRes.setCell_id rfl
                      have as1 : w3.setCell ⟨w.heap.size, 1, none⟩ (.int .u64 0) = w3 := hRes.setCell_id rfl
                      have as2 : w3.setCell ⟨w.heap.size, 2, none⟩ (.int .u64 0) = w3 := hRes.setCell_id rfl
                      have as3 : w3.setCell ⟨w.heap.size, 3, none⟩ (.int .u64 0) = w3 := hRes.setCell_id rfl
                      have as4 : w3.setCell ⟨w.heap.size, 4, none⟩ (.int .i64 0) = w3 := hRes.setCell_id rfl
                      have c0 := hOp.cell 0
                      have c1 := hOp.cell 1
                      have c2 := hOp.cell 2
                      have c3 := hOp.cell 3
                      have c4 := hOp.cell 4
                      have cf0 := hOp.frozen 0
                      have cf1 := hOp.frozen 1
                      have cf2 := hOp.frozen 2
                      have cf3 := hOp.frozen 3
                      have cf4 := hOp.frozen 4
                      simp only [List.getElem?_toArray, List.getElem?_cons_zero, List.getElem?_cons_succ] at c0 c1 c2 c3 c4
                      clear hRo hRes hOp hrest
                      go_wp2
                      refine bodyPost_ret (v := .tuple #[nilOp, .int .i64 1]) (by simp [results, Tryz.results15, go_sem, nilOp, a0, a1, a2, a3, a4]) rfl (rone_err HE2.out hBel)
                    · have hm' : ¬ (1000000 : Int) < (m : Int) := by omega
                      rw [if_neg hm] at hrest
                      have HRest := Lib.hid hrest
                      have z0 := hRo.op.cell 0
                      simp only [List.getElem?_toArray, List.getElem?_cons_zero] at z0
                      clear hRo hrest
                      go_wp2_with (at_builtin; refine wpList_append1 rfl rfl slty_u64 hown3 rfl rfl (by simp) rfl rfl (by omega) hab3.size ?_; intro v4 w4 hown4 hg4)
                      go_roundw
                      case rel => exact ⟨_, _, _, _, _, _, _, ⟨j + 1, by omega, by go_num, rfl, ns ++ [m], OneAt.append hab3 HAL.out HRest.out hown4 hg4⟩, by repeat (first | exact rfl | refine ⟨rfl, ?_⟩)⟩
                      case measure => simp [intOf]; omega
                · have hk6 : ¬ (6 : Int) < (K : Int) := by omega
                  rw [if_neg hk7] at hrest
                  have HRest := Lib.hid hrest
                  have z0 := hRo.op.cell 0
                  simp only [List.getElem?_toArray, List.getElem?_cons_zero] at z0
                  clear hRo hrest
                  go_wp2_with (at_builtin; refine wpList_append1 rfl rfl slty_u64 hown3 rfl rfl (by simp) rfl rfl (by omega) hab3.size ?_; intro v4 w4 hown4 hg4)
                  go_roundw
                  case rel => exact ⟨_, _, _, _, _, _, _, ⟨j + 1, by omega, by go_num, rfl, ns ++ [m], OneAt.append hab3 HAL.out HRest.out hown4 hg4⟩, by repeat (first | exact rfl | refine ⟨rfl, ?_⟩)⟩
                  case measure => simp [intOf]; omega
              · have hnk := hnum K
                rw [HY.out] at hnk
                rw [hnk] at hrest
                have HE2 := Lib.hid (show R = .error 13 from by rw [HE.out, ← hrest]; rfl)
                have hRes := hRo.res
                have hOp := hRo.op
                have hBel := hRo.below
                have a0 := hRes.cell 0
                have a1 := hRes.cell 1
                have a2 := hRes.cell 2
                have a3 := hRes.cell 3
                have a4 := hRes.cell 4
                have af0 := hRes.frozen 0
                have af1 := hRes.frozen 1
                have af2 := hRes.frozen 2
                have af3 := hRes.frozen 3
                have af4 := hRes.frozen 4
                simp only [List.getElem?_toArray, List.getElem?_cons_zero, List.getElem?_cons_succ] at a0 a1 a2 a3 a4
                have as0 : w3.setCell ⟨w.heap.size, 0, none⟩ (.int .i64 0) = w3 := hRes.setCell_id rfl
                have as1 : w3.setCell ⟨w.heap.size, 1, none⟩ (.int .u64 0) = w3 := hRes.setCell_id rfl
                have as2 : w3.setCell ⟨w.heap.size, 2, none⟩ (.int .u64 0) = w3 := hRes.setCell_id rfl
                have as3 : w3.setCell ⟨w.heap.size, 3, none⟩ (.int .u64 0) = w3 := hRes.setCell_id rfl
                have as4 : w3.setCell ⟨w.heap.size, 4, none⟩ (.int .i64 0) = w3 := hRes.setCell_id rfl
                have c0 := hOp.cell 0
                have c1 := hOp.cell 1
                have c2 := hOp.cell 2
                have c3 := hOp.cell 3
                have c4 := hOp.cell 4
                have cf0 := hOp.frozen 0
                have cf1 := hOp.frozen 1
                have cf2 := hOp.frozen 2
                have cf3 := hOp.frozen 3
                have cf4 := hOp.frozen 4
                simp only [List.getElem?_toArray, List.getElem?_cons_zero, List.getElem?_cons_succ] at c0 c1 c2 c3 c4
                clear hRo hRes hOp hrest
                go_wp2
                refine bodyPost_ret (v := .tuple #[nilOp, .int .i64 13]) (by simp [results, Tryz.results15, go_sem, nilOp, a0, a1, a2, a3, a4]) rfl (rone_err HE2.out hBel)
            · have hrest := hat3.rest
              rw [List.drop_eq_nil_of_le (by have := HNR.out; omega), numsE] at hrest
              have HRN := Lib.hid (HRR.out.trans hrest.symm)
              have HE2 := Lib.hid (show R = .ok (opOf K ns) from by rw [HE.out, ← hrest]; rfl)
              have hlen : ns.length = manyOf K := by have := hat3.len; have := HN.out; omega
              have hown := hat3.own
              have hlt' : ¬ (j : Int) < ((n - 1 : Nat) : Int) := by omega
              have hszw := hRw.size
              have hres := hRw.res
              have hop := hRw.op
              have hBel := hRw.below
              have hbase : w.heap.size + 2 < w2.heap.size := hat2.size
              clear hrest hat3 HRR hat2 hat hat' hRw hc0 hc hsize hsl1 HA1 HN HNR HE HR HKX HK HL HW2 HW2s hmk z0 z0' hcap b1 HW
              have H : K = 2 ∨ (K = 1 ∨ K = 3) ∨ (K = 7 ∨ K = 8) ∨ (K = 4 ∨ K = 5 ∨ K = 6) := by omega
              rcases H with H | H | H | H
              · have h3 : manyOf K = 3 := by rcases H with rfl <;> rfl
                rw [h3] at hlen
                obtain ⟨n0, n1, n2, rfl⟩ : ∃ a b c, ns = [a, b, c] := by
                  match ns, hlen with
                  | [a, b, c], _ => exact ⟨a, b, c, rfl⟩
                obtain ⟨g, cap, rfl, hg, hgl⟩ := hown.form (by simp)
                have hcs := hown.cells (g := g) rfl
                have q0 : wq.cell? ⟨g, 0, none⟩ = some (.int .u64 n0) := hcs 0 _ rfl
                have q1 : wq.cell? ⟨g, 1, none⟩ = some (.int .u64 n1) := hcs 1 _ rfl
                have q2 : wq.cell? ⟨g, 2, none⟩ = some (.int .u64 n2) := hcs 2 _ rfl
                have hgne : ¬ g = w.heap.size + 1 := by omega
                have hgne' : ¬ w.heap.size + 1 = g := by omega
                have a0 := hres.cell 0
                have a1 := hres.cell 1
                have a2 := hres.cell 2
                have a3 := hres.cell 3
                have a4 := hres.cell 4
                have af0 := hres.frozen 0
                have af1 := hres.frozen 1
                have af2 := hres.frozen 2
                have af3 := hres.frozen 3
                have af4 := hres.frozen 4
                simp only [List.getElem?_toArray, List.getElem?_cons_zero, List.getElem?_cons_succ] at a0 a1 a2 a3 a4
                have c0 := hop.cell 0
                have c1 := hop.cell 1
                have c2 := hop.cell 2
                have c3 := hop.cell 3
                have c4 := hop.cell 4
                have cf0 := hop.frozen 0
                have cf1 := hop.frozen 1
                have cf2 := hop.frozen 2
                have cf3 := hop.frozen 3
                have cf4 := hop.frozen 4
                simp only [List.getElem?_toArray, List.getElem?_cons_zero, List.getElem?_cons_succ] at c0 c1 c2 c3 c4
                clear hown h3 hlen hm3 HRN hres hop hcs
                subst H
                all_goals
                  go_wp2
                  go_region
                  go_wp2
                  refine bodyPost_ret (v := .tuple #[.agg #[.int .i64 _, .int .u64 n0, .int .u64 n1, .int .u64 n2, .int .i64 0], .int .i64 0]) (by simp [results, Tryz.results15, go_sem, a0, a1, a2, a3, a4]; rfl) rfl (rone_ok HE2.out rfl ?_)
                  repeat (with_reducible first | exact hBel | refine below_drewN ?_ _ | refine Below.drew ?_ | refine Below.setCell ?_ ?_ _)
                  all_goals (dsimp only; omega)
              · have h3 : manyOf K = 2 := by rcases H with rfl | rfl <;> rfl
                rw [h3] at hlen
                obtain ⟨n0, n1, rfl⟩ : ∃ a b, ns = [a, b] := by
                  match ns, hlen with
                  | [a, b], _ => exact ⟨a, b, rfl⟩
                obtain ⟨g, cap, rfl, hg, hgl⟩ := hown.form (by simp)
                have hcs := hown.cells (g := g) rfl
                have q0 : wq.cell? ⟨g, 0, none⟩ = some (.int .u64 n0) := hcs 0 _ rfl
                have q1 : wq.cell? ⟨g, 1, none⟩ = some (.int .u64 n1) := hcs 1 _ rfl
                have hgne : ¬ g = w.heap.size + 1 := by omega
                have hgne' : ¬ w.heap.size + 1 = g := by omega
                have a0 := hres.cell 0
                have a1 := hres.cell 1
                have a2 := hres.cell 2
                have a3 := hres.cell 3
                have a4 := hres.cell 4
                have af0 := hres.frozen 0
                have af1 := hres.frozen 1
                have af2 := hres.frozen 2
                have af3 := hres.frozen 3
                have af4 := hres.frozen 4
                simp only [List.getElem?_toArray, List.getElem?_cons_zero, List.getElem?_cons_succ] at a0 a1 a2 a3 a4
                have c0 := hop.cell 0
                have c1 := hop.cell 1
                have c2 := hop.cell 2
                have c3 := hop.cell 3
                have c4 := hop.cell 4
                have cf0 := hop.frozen 0
                have cf1 := hop.frozen 1
                have cf2 := hop.frozen 2
                have cf3 := hop.frozen 3
                have cf4 := hop.frozen 4
                simp only [List.getElem?_toArray, List.getElem?_cons_zero, List.getElem?_cons_succ] at c0 c1 c2 c3 c4
                clear hown h3 hlen hm3 HRN hres hop hcs
                rcases H with rfl | rfl
                all_goals
                  go_wp2
                  go_region
                  go_wp2
                  refine bodyPost_ret (v := .tuple #[.agg #[.int .i64 _, .int .u64 n0, .int .u64 0, .int .u64 n1, .int .i64 0], .int .i64 0]) (by simp [results, Tryz.results15, go_sem, a0, a1, a2, a3, a4]; rfl) rfl (rone_ok HE2.out rfl ?_)
                  repeat (with_reducible first | exact hBel | refine below_drewN ?_ _ | refine Below.drew ?_ | refine Below.setCell ?_ ?_ _)
                  all_goals (dsimp only; omega)
              · have h3 : manyOf K = 1 := by rcases H with rfl | rfl <;> rfl
                rw [h3] at hlen
                obtain ⟨n0, rfl⟩ : ∃ a, ns = [a] := by
                  match ns, hlen with
                  | [a], _ => exact ⟨a, rfl⟩
                have hn06 : n0 ≤ 1000000 := by
                  rcases (numsE_ok r [] [n0] HRN.out).2 n0 (by simp) with h | h
                  · cases h
                  · exact h.2 (by omega)
                obtain ⟨g, cap, rfl, hg, hgl⟩ := hown.form (by simp)
                have hcs := hown.cells (g := g) rfl
                have q0 : wq.cell? ⟨g, 0, none⟩ = some (.int .u64 n0) := hcs 0 _ rfl
                have hgne : ¬ g = w.heap.size + 1 := by omega
                have hgne' : ¬ w.heap.size + 1 = g := by omega
                have a0 := hres.cell 0
                have a1 := hres.cell 1
                have a2 := hres.cell 2
                have a3 := hres.cell 3
                have a4 := hres.cell 4
                have af0 := hres.frozen 0
                have af1 := hres.frozen 1
                have af2 := hres.frozen 2
                have af3 := hres.frozen 3
                have af4 := hres.frozen 4
                simp only [List.getElem?_toArray, List.getElem?_cons_zero, List.getElem?_cons_succ] at a0 a1 a2 a3 a4
                have c0 := hop.cell 0
                have c1 := hop.cell 1
                have c2 := hop.cell 2
                have c3 := hop.cell 3
                have c4 := hop.cell 4
                have cf0 := hop.frozen 0
                have cf1 := hop.frozen 1
                have cf2 := hop.frozen 2
                have cf3 := hop.frozen 3
                have cf4 := hop.frozen 4
                simp only [List.getElem?_toArray, List.getElem?_cons_zero, List.getElem?_cons_succ] at c0 c1 c2 c3 c4
                clear hown h3 hlen hm3 HRN hres hop hcs
                rcases H with rfl | rfl
                all_goals
                  go_wp2
                  refine bodyPost_ret (v := .tuple #[.agg #[.int .i64 _, .int .u64 0, .int .u64 0, .int .u64 0, .int .i64 n0], .int .i64 0]) (by simp [results, Tryz.results15, go_sem, a0, a1, a2, a3, a4]; rfl) rfl (rone_ok HE2.out rfl ?_)
                  repeat (with_reducible first | exact hBel | refine below_drewN ?_ _ | refine Below.drew ?_ | refine Below.setCell ?_ ?_ _)
                  all_goals (dsimp only; omega)
              · have h3 : manyOf K = 0 := by rcases H with rfl | rfl | rfl <;> rfl
                rw [h3] at hlen
                obtain rfl : ns = [] := List.length_eq_zero_iff.1 hlen
                have a0 := hres.cell 0
                have a1 := hres.cell 1
                have a2 := hres.cell 2
                have a3 := hres.cell 3
                have a4 := hres.cell 4
                have af0 := hres.frozen 0
                have af1 := hres.frozen 1
                have af2 := hres.frozen 2
                have af3 := hres.frozen 3
                have af4 := hres.frozen 4
                simp only [List.getElem?_toArray, List.getElem?_cons_zero, List.getElem?_cons_succ] at a0 a1 a2 a3 a4
                have c0 := hop.cell 0
                have c1 := hop.cell 1
                have c2 := hop.cell 2
                have c3 := hop.cell 3
                have c4 := hop.cell 4
                have cf0 := hop.frozen 0
                have cf1 := hop.frozen 1
                have cf2 := hop.frozen 2
                have cf3 := hop.frozen 3
                have cf4 := hop.frozen 4
                simp only [List.getElem?_toArray, List.getElem?_cons_zero, List.getElem?_cons_succ] at c0 c1 c2 c3 c4
                clear hown h3 hlen hm3 HRN hres hop
                rcases H with rfl | rfl | rfl
                all_goals
                  go_wp2
                  refine bodyPost_ret (v := .tuple #[.agg #[.int .i64 _, .int .u64 0, .int .u64 0, .int .u64 0, .int .i64 0], .int .i64 0]) (by simp [results, Tryz.results15, go_sem, a0, a1, a2, a3, a4]; rfl) rfl (rone_ok HE2.out rfl ?_)
                  repeat (with_reducible first | exact hBel | refine below_drewN ?_ _ | refine Below.drew ?_ | refine Below.setCell ?_ ?_ _)
                  all_goals (dsimp only; omega)
        · have b1 : ((n : Int) != (manyOf K : Int) + 1) = true := by simp; omega
          have HE := Lib.hid (show R = .error 3 from by
            rw [← HR.out]
            unfold one
            simp only
            rw [if_neg (by rw [HKX.out]; omega), if_pos (by rw [HKX.out]; have := HNR.out; omega)])
          have hBel := (hat' (.cells #[.int .i64 0, .int .i64 2, .int .i64 3, .int .i64 2, .int .i64 0, .int .i64 0, .int .i64 0, .int .i64 1, .int .i64 1] 3)).below
          have hRes := (hat' (.cells #[.int .i64 0, .int .i64 2, .int .i64 3, .int .i64 2, .int .i64 0, .int .i64 0, .int .i64 0, .int .i64 1, .int .i64 1] 3)).res
          have a0 := hRes.cell 0
          have a1 := hRes.cell 1
          have a2 := hRes.cell 2
          have a3 := hRes.cell 3
          have a4 := hRes.cell 4
          have af0 := hRes.frozen 0
          have af1 := hRes.frozen 1
          have af2 := hRes.frozen 2
          have af3 := hRes.frozen 3
          have af4 := hRes.frozen 4
          simp only [List.getElem?_toArray, List.getElem?_cons_zero, List.getElem?_cons_succ] at a0 a1 a2 a3 a4
          have as0 : (wo.alloc (.cells #[.int .i64 0, .int .i64 2, .int .i64 3, .int .i64 2, .int .i64 0, .int .i64 0, .int .i64 0, .int .i64 1, .int .i64 1] 3)).setCell ⟨w.heap.size, 0, none⟩ (.int .i64 0) = (wo.alloc (.cells #[.int .i64 0, .int .i64 2, .int .i64 3, .int .i64 2, .int .i64 0, .int .i64 0, .int .i64 0, .int .i64 1, .int .i64 1] 3)) := hRes.setCell_id rfl
          have as1 : (wo.alloc (.cells #[.int .i64 0, .int .i64 2, .int .i64 3, .int .i64 2, .int .i64 0, .int .i64 0, .int .i64 0, .int .i64 1, .int .i64 1] 3)).setCell ⟨w.heap.size, 1, none⟩ (.int .u64 0) = (wo.alloc (.cells #[.int .i64 0, .int .i64 2, .int .i64 3, .int .i64 2, .int .i64 0, .int .i64 0, .int .i64 0, .int .i64 1, .int .i64 1] 3)) := hRes.setCell_id rfl
          have as2 : (wo.alloc (.cells #[.int .i64 0, .int .i64 2, .int .i64 3, .int .i64 2, .int .i64 0, .int .i64 0, .int .i64 0, .int .i64 1, .int .i64 1] 3)).setCell ⟨w.heap.size, 2, none⟩ (.int .u64 0) = (wo.alloc (.cells #[.int .i64 0, .int .i64 2, .int .i64 3, .int .i64 2, .int .i64 0, .int .i64 0, .int .i64 0, .int .i64 1, .int .i64 1] 3)) := hRes.setCell_id rfl
          have as3 : (wo.alloc (.cells #[.int .i64 0, .int .i64 2, .int .i64 3, .int .i64 2, .int .i64 0, .int .i64 0, .int .i64 0, .int .i64 1, .int .i64 1] 3)).setCell ⟨w.heap.size, 3, none⟩ (.int .u64 0) = (wo.alloc (.cells #[.int .i64 0, .int .i64 2, .int .i64 3, .int .i64 2, .int .i64 0, .int .i64 0, .int .i64 0, .int .i64 1, .int .i64 1] 3)) := hRes.setCell_id rfl
          have as4 : (wo.alloc (.cells #[.int .i64 0, .int .i64 2, .int .i64 3, .int .i64 2, .int .i64 0, .int .i64 0, .int .i64 0, .int .i64 1, .int .i64 1] 3)).setCell ⟨w.heap.size, 4, none⟩ (.int .i64 0) = (wo.alloc (.cells #[.int .i64 0, .int .i64 2, .int .i64 3, .int .i64 2, .int .i64 0, .int .i64 0, .int .i64 0, .int .i64 1, .int .i64 1] 3)) := hRes.setCell_id rfl
          clear hat hRes hat' hnm
          go_wp2
          refine bodyPost_ret (v := .tuple #[nilOp, .int .i64 3]) (by simp [results, Tryz.results15, go_sem, nilOp, a0, a1, a2, a3, a4]) rfl (rone_err HE.out hBel)
end Go.Proofs.YtgpkekdbohdbfaaGreatDoor
