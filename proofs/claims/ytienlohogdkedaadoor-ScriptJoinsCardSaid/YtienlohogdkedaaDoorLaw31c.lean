/- amblerlaw31.ScriptJoins: its walk: whatever the two texts, true. -/
import Derived.Test.YtienlohogdkedaaDoorScriptH
import Derived.Test.YtienlohogdkedaaDoorLaw31b
import Derived.Test.YtienlohogdkedaaDoorLaw30b
import Derived.Test.YtienlohogdkedaaDoorTextP
import Derived.Laws.AppendOwnNone
import Derived.Deep.Cut
import Derived.Deep.CutRange
namespace Go.Proofs.YtienlohogdkedaaDoor
open Go.RowKit AmS AmD AmW

/-- append of a row of the call's own onto another one -/
theorem wpList_append_rows {P : Program} {w : World} {ops : Array Oper} {rest : List Oper} {o : Oper} {a : Act} {Q : Exit → Act → World → Prop} (hgd : o.guard = none) {s x : Operand} {t : TypeId}
    (ho : o.op = .call { callee := .builtin .append, args := #[s, x], argTypes := #[t, t] }) {e : TypeId} {size bytes : Nat} (hT : SlTy P t e size bytes)
    {base : Nat} {v : Value} {n : Nat} {xs : List Value} (hown : w.ownsRow base e size v n xs) (hs : a.eval s = v) {base' e' : Nat} {u : Value} {m : Nat} {ys : List Value} (hu : w.ownsRow base' e' size u m ys) (hx : a.eval x = u)
    (h1' : (ys.all fun u => u.oneCell') = true) (hn : n + m < 33554432) (hbase : base ≤ w.heap.size)
    (h : ∀ v' w', w'.ownsRow base e size v' (n + m) (xs ++ ys) → Grew w base v w' v' → wpList P ops Q rest (a.put o.dst v') w') :
    wpList P ops Q (o :: rest) a w := by
  obtain ⟨i, z, ht, hi, hz, hsize, hby, hzs, hsz, hb⟩ := hT
  have h1 : ∀ u ∈ ys, u.oneCell' = true := List.all_eq_true.1 h1'
  have hlen := hu.1
  rcases hu.2 with ⟨rfl, rfl⟩ | ⟨g, cap, cur, rfl, _⟩
  · obtain rfl : ys = [] := List.length_eq_zero_iff.1 (by rw [hlen]; omega)
    refine wpList_append_own_none hgd s x t ho base e i size ht hi v n xs hs hown hx ?_
    exact h v w (by simpa using hown) ⟨Below.refl _ _, ⟨rfl, rfl, rfl, Nat.le_refl _, fun _ _ _ => rfl⟩, .inl rfl⟩
  · refine wpList_append_own_at w hgd s x t ho base e i z size bytes ht hi hz hsize hby hzs hsz v n xs hs hown ⟨g, 0, none⟩ m cap ys hx hlen (fun j u hj => ?_) h1 (by simp only [maxLen]; omega) ?_ hbase ?_
    · exact hu.cells (g := g) rfl j u hj
    · have : (n + m) * bytes ≤ 33554432 * 4096 := Nat.mul_le_mul (by omega) hb
      omega
    · intro v' w' hown' hg _ hat
      have hlt := hown.lt
      refine h v' w' hown' ⟨(Below.refl base w).grown hg hbase (fun k hk => (hlt k hk).1), hg, ?_⟩
      rcases hat with hat | hat
      · exact .inl hat
      · exact .inr ⟨_, hat, Nat.le_refl _⟩
theorem opsCells_one (l : List SOp) : ((opsCells l).all fun u => u.oneCell') = true := by
  induction l with
  | nil => rfl
  | cons o t ih =>
    have e : opsCells (o :: t) = opCells o ++ opsCells t := by simp [opsCells]
    rw [e, List.all_append, ih]
    rfl

theorem ofPost_any {E : Nat → Addr} {w w' : World} {r : Except (Nat × Nat) (List SOp)} {e : Ending} (h : OfPost E w r e w') : ∃ v n er, e = .returned (.tuple #[v, n, er]) ∧ Below w.heap.size w w' := by
  cases r with
  | error p => exact ⟨_, _, _, h.1, h.2⟩
  | ok ops => obtain ⟨v, h1, _, h2⟩ := h; exact ⟨_, _, _, h1, h2⟩

set_option maxHeartbeats 1000000 in
set_option maxRecDepth 100000 in
theorem joins_huge {E : Nat → Addr} (a b : ByteArray) (w : World) (hE : ScrB E w) (hs : 3000 < a.size ∨ 3000 < b.size) : Calls Tryd.prog 12 #[.string a, .string b] w (LawTrue w) := by
  have HA := Lib.hid (alive31 w hE)
  by_cases ha : 3000 < a.size
  · have ha' : (3000 : Int) < (a.size : Int) := by omega
    go_enter Tryd.func12, Tryd.ntmps12
    go_wp2_with fail
    refine HA.out.mono ?_
    rintro e w1 ⟨rfl, hb1⟩
    go_wp2
    go_ret
    exact ⟨rfl, hb1⟩
  · have ha' : ¬ (3000 : Int) < (a.size : Int) := by omega
    have hb' : (3000 : Int) < (b.size : Int) := by omega
    go_enter Tryd.func12, Tryd.ntmps12
    go_wp2_with fail
    refine HA.out.mono ?_
    rintro e w1 ⟨rfl, hb1⟩
    go_wp2
    go_ret
    exact ⟨rfl, hb1⟩

set_option maxHeartbeats 1000000 in
set_option maxRecDepth 100000 in
theorem joins_bad {E : Nat → Addr} (a b : ByteArray) (w : World) (hE : ScrB E w) (ha : a.size ≤ 3000) (hb : b.size ≤ 3000) (p : Nat × Nat) (hx : ofText a.data.toList = .error p) : Calls Tryd.prog 12 #[.string a, .string b] w (LawTrue w) := by
  have HA := Lib.hid (alive31 w hE)
  have ha' : ¬ (3000 : Int) < (a.size : Int) := by omega
  have hb' : ¬ (3000 : Int) < (b.size : Int) := by omega
  have HS := Lib.hid (fun (W : World) (hW : Below w.heap.size w W) => show Calls Tryd.prog 57 #[.string a] W (OfPost E W (.error p)) from by
    have := script_Of a W (hE.below hW (Nat.le_refl _))
    rw [hx] at this
    exact this)
  have HT := Lib.hid (fun (W : World) (hW : Below w.heap.size w W) => script_Of b W (hE.below hW (Nat.le_refl _)))
  go_enter Tryd.func12, Tryd.ntmps12
  go_wp2_with fail
  refine HA.out.mono ?_
  rintro e w1 ⟨rfl, hb1⟩
  go_wp2_with fail
  refine (HS.out _ hb1).mono ?_
  rintro e w2 ⟨rfl, hb2⟩
  have hbw2 := hb1.trans (hb2.mono hb1.size)
  go_wp2_with fail
  refine (HT.out _ hbw2).mono ?_
  intro e w3 h3
  obtain ⟨v3, n3, er3, rfl, hb3⟩ := ofPost_any h3
  clear h3
  go_wp2
  go_ret
  exact ⟨rfl, hbw2.trans (hb3.mono hbw2.size)⟩

theorem ofGo_err : ∀ (L : List (Nat × List Bts)) (acc : List SOp) (n k : Nat), ofGo acc L = .error (n, k) → (∃ p ∈ L, p.1 = n) ∧ 1 ≤ k ∧ k ≤ 16
  | [], acc, n, k, h => by cases h
  | p :: r, acc, n, k, h => by
    unfold ofGo at h
    split at h
    · injection h with h
      injection h with h1 h2
      exact ⟨⟨p, List.mem_cons_self, h1⟩, by omega⟩
    · split at h
      · next e he =>
        injection h with h
        injection h with h1 h2
        subst h2
        exact ⟨⟨p, List.mem_cons_self, h1⟩, one_err he⟩
      · obtain ⟨⟨q, hq, hn⟩, hk⟩ := ofGo_err r _ n k h
        exact ⟨⟨q, List.mem_cons_of_mem _ hq, hn⟩, hk⟩
theorem ofText_err {s : Bts} {n k : Nat} (h : ofText s = .error (n, k)) : n ≤ s.length + 2 ∧ 1 ≤ k ∧ k ≤ 16 := by
  have hl := lines_length_le s
  unfold ofText at h
  split at h
  · injection h with h
    injection h with h1 h2
    omega
  · split at h
    · next m hm =>
      have := goSplit_bad_le _ _ _ _ hm
      injection h with h
      injection h with h1 h2
      omega
    · next L hL =>
      have hb : ∀ p ∈ L, p.1 ≤ s.length + 2 := fun p hp => by
        rcases goSplit_nums _ _ _ _ hL p hp with h | h
        · cases h
        · omega
      unfold ofLines at h
      split at h
      · next e he =>
        injection h with h
        subst h
        obtain ⟨⟨p, hp, hn⟩, hk⟩ := ofGo_err _ _ _ _ he
        exact ⟨by rw [← hn]; exact hb p hp, hk⟩
      · split at h
        · next i hi =>
          injection h with h
          injection h with h1 h2
          refine ⟨?_, by omega⟩
          rw [← h1, List.getD_eq_getElem?_getD]
          cases hg : L[i]? with
          | none => simp
          | some p => simpa using hb p (List.mem_of_getElem? hg)
        · cases h
theorem join_bytes (a b : ByteArray) : (a ++ ⟨#[10]⟩ ++ b).data.toList = a.data.toList ++ 10 :: b.data.toList := by simp [ByteArray.data_append]

/-- the number of lines so far -/
structure LinesAt (a : ByteArray) (k L : Nat) : Prop where
  is : L = 1 + (a.data.toList.take k).count 10
set_option maxHeartbeats 2000000 in
set_option maxRecDepth 100000 in
theorem joins_err {E : Nat → Addr} (a b : ByteArray) (w : World) (hE : ScrB E w) (hErr : ErrsIn E w) (ha : a.size ≤ 3000) (hb : b.size ≤ 3000) (x : List SOp) (hx : ofText a.data.toList = .ok x) (n k : Nat) (hy : ofText b.data.toList = .error (n, k)) :
    Calls Tryd.prog 12 #[.string a, .string b] w (LawTrue w) := by
  have HA := Lib.hid (alive31 w hE)
  have ha' : ¬ (3000 : Int) < (a.size : Int) := by omega
  have hb' : ¬ (3000 : Int) < (b.size : Int) := by omega
  obtain ⟨hn, hk1, hk16⟩ := ofText_err hy
  have hbl : b.data.toList.length = b.size := by simp
  have hal : a.data.toList.length = a.size := by simp
  have hz : ∃ place, ofText (a ++ ⟨#[10]⟩ ++ b).data.toList = .error (place, k) ∧ (place = n + (lines a.data.toList).length ∨ (place ≠ n + (lines a.data.toList).length ∧ k = 8 ∧ (lines a.data.toList).length < place)) := by
    rw [join_bytes]
    rcases (ofText_join (by omega) (by omega) hx).1 n k hy with h | ⟨rfl, place, h, hp⟩
    · exact ⟨_, h, .inl rfl⟩
    · refine ⟨place, h, ?_⟩
      by_cases e : place = n + (lines a.data.toList).length
      · exact .inl e
      · exact .inr ⟨e, rfl, hp⟩
  obtain ⟨place, hz, hcase⟩ := hz
  have hll := lines_length_le a.data.toList
  have hlc := lines_count a.data.toList
  have HSX := Lib.hid (fun (W : World) (hW : Below w.heap.size w W) => show Calls Tryd.prog 57 #[.string a] W (OfPost E W (.ok x)) from by
    have := script_Of a W (hE.below hW (Nat.le_refl _))
    rw [hx] at this
    exact this)
  have HSY := Lib.hid (fun (W : World) (hW : Below w.heap.size w W) => show Calls Tryd.prog 57 #[.string b] W (OfPost E W (.error (n, k))) from by
    have := script_Of b W (hE.below hW (Nat.le_refl _))
    rw [hy] at this
    exact this)
  have HSZ := Lib.hid (fun (W : World) (hW : Below w.heap.size w W) => show Calls Tryd.prog 57 #[.string (a ++ ⟨#[10]⟩ ++ b)] W (OfPost E W (.error (place, k))) from by
    have := script_Of (a ++ ⟨#[10]⟩ ++ b) W (hE.below hW (Nat.le_refl _))
    rw [hz] at this
    exact this)
  have HNum := Lib.hid (fun (W : World) (hb : Below w.heap.size w W) => num_err (hErr.below hb (Nat.le_refl _)) k hk1 hk16)
  have HLC := Lib.hid hlc
  have HHC := Lib.hid hcase
  have HAL := Lib.hid hal
  rw [hbl] at hn
  rw [hal] at hll
  clear hx hy hz hbl hal hcase hlc
  go_enter Tryd.func12, Tryd.ntmps12
  go_wp2_with fail
  refine HA.out.mono ?_
  rintro e w1 ⟨rfl, hb1⟩
  go_wp2_with fail
  refine (HSX.out _ hb1).mono ?_
  rintro e w2 ⟨v2, rfl, hown2, hb2⟩
  have hbw2 := hb1.trans (hb2.mono hb1.size)
  obtain ⟨A2, c2, rfl⟩ := own_form hown2
  go_wp2_with fail
  refine (HSY.out _ hbw2).mono ?_
  rintro e w3 ⟨rfl, hb3⟩
  have hbw3 := hbw2.trans (hb3.mono hbw2.size)
  clear hown2 hb1 hb2 hb3 hbw2
  by_cases hx9 : 900 < x.length
  · have hx9' : (900 : Int) < (x.length : Int) := by omega
    go_wp2
    go_ret
    exact ⟨rfl, hbw3⟩
  · have hx9' : ¬ (900 : Int) < (x.length : Int) := by omega
    go_wp2
    go_loop [11, 12, 57] (fun v11 _ i => ∃ j L : Nat, j ≤ a.size ∧ i = .int .i64 j ∧ v11 = .int .i64 L ∧ L ≤ j + 1 ∧ LinesAt a j L) (fun _ _ i => a.size - (intOf i).toNat)
    case atStart => exact ⟨0, 1, by omega, rfl, rfl, by omega, ⟨by simp⟩⟩
    case round =>
      obtain ⟨j, L, hj, rfl, rfl, hLj, ⟨hL⟩⟩ := hrel
      by_cases hlt : j < a.size
      · have hlt' : (j : Int) < (a.size : Int) := by omega
        have htk : a.data.toList.take (j + 1) = a.data.toList.take j ++ [a[j]'hlt] := by
          rw [List.take_succ_eq_append_getElem (by rw [HAL.out]; exact hlt)]
          rfl
        by_cases hc : a[j]'hlt = 10
        · have hcz : (((a[j]'hlt).toNat : Int) == 10) = true := by rw [hc]; rfl
          have HLN : LinesAt a (j + 1) (L + 1) := ⟨by rw [htk, List.count_append, hL, hc]; simp; omega⟩
          clear hL htk hc
          go_wp2
          go_round
          case rel => exact ⟨j + 1, L + 1, by omega, by go_num, by go_num, by omega, HLN⟩
          case measure => simp [intOf]; omega
        · have hcz : (((a[j]'hlt).toNat : Int) == 10) = false := by
            rw [beq_eq_false_iff_ne]
            intro e
            apply hc
            apply UInt8.toNat_inj.1
            show _ = 10
            omega
          have HLN : LinesAt a (j + 1) L := ⟨by rw [htk, List.count_append, hL]; simp [hc]⟩
          clear hL htk hc
          go_wp2
          go_round
          case rel => exact ⟨j + 1, L, by omega, by go_num, rfl, by omega, HLN⟩
          case measure => simp [intOf]; omega
      · obtain rfl : j = a.size := by omega
        have hLL : L = (lines a.data.toList).length := by rw [HLC.out, hL, ← HAL.out, List.take_length]
        have HLL := Lib.hid hLL
        have hlt' : ¬ (a.size : Int) < (a.size : Int) := by omega
        have hpl := HHC.out
        rw [← hLL] at hpl
        clear hL hLL
        go_wp2_with fail
        refine (HSZ.out _ hbw3).mono ?_
        rintro e w4 ⟨rfl, hb4⟩
        have hbw4 := hbw3.trans (hb4.mono hbw3.size)
        rcases hpl with hpl | ⟨hpl, hk8, hgt⟩
        · have hpe : ((place : Int) == (n : Int) + (L : Int)) = true := by rw [hpl]; simp
          clear hpl
          go_wp2_with fail
          refine (HNum.out _ hbw4).mono ?_
          rintro e w5 ⟨rfl, hb5⟩
          have hbw5 := hbw4.trans (hb5.mono hbw4.size)
          go_wp2_with fail
          refine (HNum.out _ hbw5).mono ?_
          rintro e w6 ⟨rfl, hb6⟩
          go_wp2
          go_ret
          exact ⟨rfl, hbw5.trans (hb6.mono hbw5.size)⟩
        · have hpe : ((place : Int) == (n : Int) + (L : Int)) = false := by rw [beq_eq_false_iff_ne]; omega
          have hgt' : (L : Int) < (place : Int) := by omega
          subst hk8
          clear hpl
          go_wp2_with fail
          refine (HNum.out _ hbw4).mono ?_
          rintro e w5 ⟨rfl, hb5⟩
          have hbw5 := hbw4.trans (hb5.mono hbw4.size)
          go_wp2_with fail
          refine (HNum.out _ hbw5).mono ?_
          rintro e w6 ⟨rfl, hb6⟩
          go_wp2
          go_ret
          exact ⟨rfl, hbw5.trans (hb6.mono hbw5.size)⟩
end Go.Proofs.YtienlohogdkedaaDoor
