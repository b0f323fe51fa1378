/- amblerref31.Of by its contract. -/
import Derived.Test.YtgpkekdbohdbfaaGreatDoorOneR
namespace Go.Proofs.YtgpkekdbohdbfaaGreatDoor
open Go.RowKit AmS AmD AmW

/-- what amblerref31.Of answers -/
def ROfPost (w : World) (r : Except (Nat × Nat) (List SOp)) (e : Ending) (w' : World) : Prop :=
  match r with
  | .error p => e = .returned (.tuple #[.slice none 0 0, .int .i64 (p.1 : Int), .int .i64 (p.2 : Int)]) ∧ Below w.heap.size w w'
  | .ok ops => ∃ v, e = .returned (.tuple #[v, .int .i64 0, .int .i64 0]) ∧ w'.ownsRow w.heap.size 35 5 v ops.length (opsCells ops) ∧ Below w.heap.size w w'
theorem rof_err {w w' : World} {r : Except (Nat × Nat) (List SOp)} {n k : Nat} (h : r = .error (n, k)) (hb : Below w.heap.size w w') :
    ROfPost w r (.returned (.tuple #[.slice none 0 0, .int .i64 (n : Int), .int .i64 (k : Int)])) w' := by
  subst h; exact ⟨rfl, hb⟩
theorem rof_ok {w w' : World} {r : Except (Nat × Nat) (List SOp)} {ops : List SOp} {v : Value} (h : r = .ok ops) (ho : w'.ownsRow w.heap.size 35 5 v ops.length (opsCells ops)) (hb : Below w.heap.size w w') :
    ROfPost w r (.returned (.tuple #[v, .int .i64 0, .int .i64 0])) w' := by
  subst h; exact ⟨v, rfl, ho, hb⟩
theorem RowsOwn.at2 {w : World} {base : Nat} {v x : Value} {l : List (List Bts)} (h : RowsOwn w base v x l) {i : Nat} {r : List Bts} (hr : l[i]? = some r) :
    ∃ g c A c', v = .slice (some ⟨g, 0, none⟩) l.length c ∧ g < w.heap.size ∧ w.cell? ⟨g, i, none⟩ = some (.slice A r.length c') ∧ Reads w w.heap.size 1 A r.length (r.map strV) ∧ r.length ≤ c' := by
  obtain ⟨vs, h1, h2, _⟩ := h
  have hi : i < l.length := (List.getElem?_eq_some_iff.1 hr).1
  obtain ⟨u, hu, hs⟩ := h2 i r hr
  obtain ⟨g, cap, rfl, hg, hlt⟩ := h1.form (by omega)
  obtain ⟨A, c', rfl⟩ := own_form hs
  have hc := h1.cells (g := g) rfl i _ hu
  have hadd : ∀ j, (⟨g, 0, none⟩ : Addr).add j = ⟨g, j, none⟩ := fun j => by unfold Addr.add; split <;> simp_all
  rw [hadd] at hc
  exact ⟨g, cap, A, c', rfl, hlt, hc, Reads.of_own hs, own_cap hs⟩

set_option maxHeartbeats 400000 in
theorem ref_Of_bad (s : ByteArray) (w : World) (hs : s.size ≤ 60000) (n : Nat) (hn : goSplit [] 1 (lines s.data.toList) = .bad n) :
    Calls Tryz.prog 6 #[.string s] w (ROfPost w (.error (n, 3))) := by
  have HS := ref30 s w hs
  rw [ref_eq, hn] at HS
  have HS' := Lib.hid (show Calls Tryz.prog 14 #[.string s] w (fun e w' => e = .returned (.tuple #[.slice none 0 0, .slice none 0 0, .int .i64 (n : Int), .int .i64 3]) ∧ Below w.heap.size w w') from HS)
  clear HS hn
  go_enter Tryz.func6, Tryz.ntmps6
  go_wp2_with fail
  refine HS'.out.mono ?_
  rintro e w1 ⟨rfl, hb⟩
  go_wp2
  go_ret3
  exact rof_err rfl hb

/-- where the loop of amblerref31.Of stands -/
structure ROfAt (W : World) (L : List (Nat × List AmW.Bytes)) (R : Except (Nat × Nat) (List SOp)) (k : Nat) (ops : List SOp) (v : Value) (wr : World) : Prop where
  own : wr.ownsRow W.heap.size 35 5 v k (opsCells ops)
  rest : ofGo ops (L.drop k) = R
  len : ops.length = k
  few : k ≤ 2000
  below : Below W.heap.size W wr

set_option maxHeartbeats 4000000 in
set_option maxRecDepth 100000 in
theorem ref_Of_ok (s : ByteArray) (w : World) (hs : s.size ≤ 60000) (L : List (Nat × List AmW.Bytes)) (hn : goSplit [] 1 (lines s.data.toList) = .ok L) :
    Calls Tryz.prog 6 #[.string s] w (ROfPost w (ofLines L)) := by
  have HS := ref30 s w hs
  rw [ref_eq, hn] at HS
  have HS' := Lib.hid (show Calls Tryz.prog 14 #[.string s] w (fun e w' => ∃ vn va vr, e = .returned (.tuple #[vn, va, .int .i64 0, .int .i64 0]) ∧ Ref30 w w' vn va vr L []) from HS)
  have hLs : L.length ≤ 60001 ∧ ∀ p ∈ L, p.2.length ≤ 1000000 := split_small s hs L hn
  have hWs : ∀ p ∈ L, ∀ y ∈ p.2, y.length ≤ 70000 := by
    intro p hp y hy
    have h1 := joined_len hn
    have h2 := joined_line L p hp
    have h3 := join_word p.2 y hy
    have h4 : s.data.toList.length = s.size := by simp
    omega
  clear HS hn
  obtain ⟨R, hR⟩ : ∃ R, ofGo [] L = R := ⟨_, rfl⟩
  have HRR := Lib.hid hR
  have hLs' := Lib.hid hLs
  have hL6 : L.length ≤ 60001 := hLs.1
  clear hR hLs
  go_enter Tryz.func6, Tryz.ntmps6
  go_wp2_with fail
  refine HS'.out.mono ?_
  rintro e W ⟨vn, va, vr, rfl, hR3⟩
  have hbW := hR3.below
  have hN3 := hR3.nums
  have hA3 := hR3.rows
  have hv1 : ∃ A1 c1, vn = .slice A1 L.length c1 := by
    obtain ⟨A, c, e⟩ := own_form hN3
    exact ⟨A, c, by rw [e, List.length_map]⟩
  have hv2 : ∃ A2 c2, va = .slice A2 L.length c2 := by
    obtain ⟨A, c, e⟩ := own_form hA3.choose_spec.1
    exact ⟨A, c, by rw [e, List.length_map]⟩
  obtain ⟨A1, c1, rfl⟩ := hv1
  obtain ⟨A2, c2, rfl⟩ := hv2
  clear hR3
  go_wp2
  go_loopw [2, 3, 4, 9, 10, 11, 12, 13, 29] (fun v2 v3 v4 v _ _ _ _ i wr => ∃ (k : Nat) (ops : List SOp), k ≤ L.length ∧ i = .int .i64 k ∧ v2 = .slice none 0 0 ∧ v3 = .int .i64 0 ∧ v4 = .int .i64 0 ∧ ROfAt W L R k ops v wr) (fun _ _ _ _ _ _ _ _ i _ => L.length - (intOf i).toNat)
  case atStart => exact ⟨0, [], by omega, rfl, rfl, rfl, rfl, own_empty W W.heap.size 35 5 (Nat.le_refl _), HRR.out, rfl, by omega, (Below.refl _ _).alloc (Nat.le_refl _) _⟩
  case round =>
    obtain ⟨k, ops, hk, rfl, rfl, rfl, rfl, hat⟩ := hrel
    by_cases hlt : k < L.length
    · have hp : L[k]? = some (L[k]'hlt) := List.getElem?_eq_getElem _
      have hpl := hLs'.out.2 _ (List.mem_of_getElem? hp)
      have hps := hWs _ (List.mem_of_getElem? hp)
      generalize L[k]'hlt = p at hp hpl hps
      obtain ⟨g1, c1', e1, hg1, k3⟩ := hN3.at_ (i := k) (n := p.1) (by rw [List.getElem?_map, hp]; rfl)
      obtain ⟨g2, c2', A6, c6, e2, hg2, k4, hRd, hcap⟩ := RowsOwn.at2 hA3 (i := k) (r := p.2) (by rw [List.getElem?_map, hp]; rfl)
      obtain rfl : A1 = some ⟨g1, 0, none⟩ := by injection e1
      obtain rfl : A2 = some ⟨g2, 0, none⟩ := by injection e2
      clear e1 e2
      have hab := hat.below
      have q3 := (hab.cell (p := ⟨g1, k, none⟩) hg1).trans k3
      have q4 := (hab.cell (p := ⟨g2, k, none⟩) hg2).trans k4
      have hlt' : (k : Int) < (L.length : Int) := by omega
      have hrest := hat.rest
      rw [drop_line hp, ofGo, hat.len] at hrest
      have hBw := hbW.trans (hab.mono hbW.size)
      have hRk := (hRd.below hab).more hab.size
      have hown := hat.own
      have hlen := hat.len
      have hfew := hat.few
      by_cases h2 : k = 2000
      · rw [if_pos (by omega)] at hrest
        have h2' : ((k : Int) == 2000) = true := by rw [beq_iff_eq]; omega
        have HE := Lib.hid (show ofLines L = .error (p.1, 9) from by unfold ofLines; rw [HRR.out, ← hrest])
        clear hrest hat hp hRd hown hlen h2 k4 k3 hRk
        go_wp2
        go_quiet (fail)
        go_wp2
        go_ret3
        exact rof_err HE.out (below_drewN hBw _)
      · rw [if_neg (by omega)] at hrest
        have h2' : ((k : Int) == 2000) = false := by rw [beq_eq_false_iff_ne]; omega
        have HOne := ref_One A6 p.2.length c6 p.2 wr hRk hcap hpl hps
        cases ho : one p.2 with
        | error er =>
          rw [ho] at hrest HOne
          obtain ⟨he1, he2⟩ := one_err ho
          have he' : ((er : Int) != 0) = true := by simp; omega
          have HE := Lib.hid (show ofLines L = .error (p.1, er) from by unfold ofLines; rw [HRR.out, ← hrest])
          have HOne' := Lib.hid (show Calls Tryz.prog 15 #[.slice A6 p.2.length c6] wr fun e w' => e = .returned (.tuple #[nilOp, .int .i64 (er : Int)]) ∧ Below wr.heap.size wr w' from HOne)
          clear hrest hat hp hRd hown hlen HOne ho hRk k4 k3
          go_wp2_with fail
          refine HOne'.out.mono ?_
          unfold nilOp
          rintro e w3 ⟨rfl, hb3⟩
          have hg1r : g1 < wr.heap.size := Nat.lt_of_lt_of_le hg1 hab.size
          have q3' : ∀ o, (w3.alloc o).cell? ⟨g1, k, none⟩ = some (.int .i64 p.1) := fun o => (World.cell?_alloc_lt w3 o _ (Nat.lt_of_lt_of_le hg1r hb3.size)).trans ((hb3.cell (p := ⟨g1, k, none⟩) hg1r).trans q3)
          have hbw3 := hBw.trans (hb3.mono hBw.size)
          clear hb3
          go_wp2
          go_quiet (fail)
          go_wp2
          go_ret3
          exact rof_err HE.out (below_drewN (hbw3.alloc hbw3.size _) _)
        | ok o =>
          rw [ho] at hrest HOne
          have HRest := Lib.hid hrest
          have HOne' := Lib.hid (show Calls Tryz.prog 15 #[.slice A6 p.2.length c6] wr fun e w' => e = .returned (.tuple #[opV o, .int .i64 0]) ∧ Below wr.heap.size wr w' from HOne)
          have HLen := Lib.hid hlen
          clear hrest hat hp hRd hlen HOne ho hRk k4 k3 q3
          go_wp2_with fail
          refine HOne'.out.mono ?_
          unfold opV
          rintro e w3 ⟨rfl, hb3⟩
          have hown3 := (own_below hown hb3 (Nat.le_refl _)).alloc (.cells #[.int .i64 o.kind, .int .u64 o.key, .int .u64 o.val, .int .u64 o.hash, .int .i64 o.iter] 35)
          have hb3W : Below W.heap.size W w3 := hab.trans (hb3.mono hab.size)
          have hb3W' := hb3W.alloc hb3W.size (.cells #[.int .i64 o.kind, .int .u64 o.key, .int .u64 o.val, .int .u64 o.hash, .int .i64 o.iter] 35)
          go_wp2_with (at_builtin; refine wpList_append1 rfl rfl slty_ROp hown3 rfl rfl (by simp) rfl rfl (by omega) hb3W'.size ?_; intro v4 w4 hown4 hg4)
          go_roundw
          case rel => exact ⟨k + 1, ops ++ [o], by omega, by go_num, rfl, rfl, rfl, by rw [opsCells_snoc]; exact hown4, HRest.out, by simp [HLen.out], by omega, hb3W'.trans hg4.below⟩
          case measure => simp [intOf]; omega
    · have hrest := hat.rest
      rw [List.drop_eq_nil_of_le (by omega), ofGo] at hrest
      have hok : ofGo [] L = .ok ops := HRR.out.trans hrest.symm
      have hown := hat.own
      have hlen := hat.len
      have hfew := hat.few
      have hab := hat.below
      obtain ⟨A8, c8, rfl⟩ := own_form hown
      have hc8 := own_cap hown
      have hRo := Reads.of_own hown
      have hBw := hbW.trans (hab.mono hbW.size)
      have HC := ref_Other A8 k c8 ops wr hRo (by omega) hc8
      have hlt' : ¬ (k : Int) < (L.length : Int) := by omega
      cases hot : other ops with
      | none =>
        rw [hot] at HC
        have HE := Lib.hid (show ofLines L = .ok ops from by unfold ofLines; rw [hok]; simp only; rw [hot])
        have HC' := Lib.hid (show Calls Tryz.prog 16 #[.slice A8 k c8] wr fun e w' => e = .returned (.int .i64 (-1)) ∧ Below wr.heap.size wr w' from HC)
        have HLen := Lib.hid hlen
        clear HC hat hrest hok hot hRo hlen
        go_wp2_with fail
        refine HC'.out.mono ?_
        rintro e w5 ⟨rfl, hb5⟩
        go_wp2
        go_ret3
        exact rof_ok HE.out (by rw [HLen.out]; exact own_below (own_lower hown hbW.size) hb5 (Nat.le_refl _)) (hBw.trans (hb5.mono hBw.size))
      | some i =>
        rw [hot] at HC
        have hil := other_lt hot
        have hi2 : i < L.length := by omega
        have hp : L[i]? = some (L[i]'hi2) := List.getElem?_eq_getElem _
        have hge : (L.getD i (0, [])) = L[i]'hi2 := by rw [List.getD_eq_getElem?_getD, hp]; rfl
        have HE := show ofLines L = .error ((L.getD i (0, [])).1, 8) from by unfold ofLines; rw [hok]; simp only; rw [hot]
        rw [hge] at HE
        generalize L[i]'hi2 = p at hp HE
        obtain ⟨g1, c1', e1, hg1, k3⟩ := hN3.at_ (i := i) (n := p.1) (by rw [List.getElem?_map, hp]; rfl)
        obtain rfl : A1 = some ⟨g1, 0, none⟩ := by injection e1
        clear e1
        have q3 := (hab.cell (p := ⟨g1, i, none⟩) hg1).trans k3
        have HE' := Lib.hid HE
        have HC' := Lib.hid (show Calls Tryz.prog 16 #[.slice A8 k c8] wr fun e w' => e = .returned (.int .i64 (i : Int)) ∧ Below wr.heap.size wr w' from HC)
        have hi2' : (i : Int) < (L.length : Int) := by omega
        have hi0 : (0 : Int) ≤ (i : Int) := by omega
        clear HC hat hrest hok hot HE hge hRo hlen k3
        go_wp2_with fail
        refine HC'.out.mono ?_
        rintro e w5 ⟨rfl, hb5⟩
        have q5 := (hb5.cell (p := ⟨g1, i, none⟩) (Nat.lt_of_lt_of_le hg1 hab.size)).trans q3
        clear q3
        go_wp2
        go_quiet (fail)
        go_wp2
        go_ret3
        exact rof_err HE'.out (below_drewN (hBw.trans (hb5.mono hBw.size)) _)
/-- amblerref31.Of of a text that is not too great -/
theorem ref_Of (s : ByteArray) (w : World) (hs : s.size ≤ 60000) : Calls Tryz.prog 6 #[.string s] w (ROfPost w (ofText s.data.toList)) := by
  have hl : s.data.toList.length = s.size := by simp
  unfold ofText
  rw [if_neg (by omega)]
  cases h : goSplit [] 1 (lines s.data.toList) with
  | bad n => exact ref_Of_bad s w hs n h
  | ok L => exact ref_Of_ok s w hs L h
end Go.Proofs.YtgpkekdbohdbfaaGreatDoor
