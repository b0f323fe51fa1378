/- script.Of by its contract. -/
import Derived.Test.YtgpkekdbohdbfaaGreatDoorScriptE
import Derived.Test.YtgpkekdbohdbfaaGreatDoorScriptC
import Derived.Test.YtgpkekdbohdbfaaGreatDoorBackW
import Derived.Test.YtgpkekdbohdbfaaGreatDoorLaw30a
namespace Go.Proofs.YtgpkekdbohdbfaaGreatDoor
open Go.RowKit AmS AmD AmW

theorem one_eq (x : Bts) (r : List Bts) (k : Nat) (hk : kindOf x = k) (hk1 : 1 ≤ k) (hr : r.length = manyOf k) : one (x :: r) = (match numsE k [] r with | .error e => .error e | .ok ns => .ok (opOf k ns)) := by
  unfold one
  simp only
  rw [if_neg (by omega), if_neg (by rw [hk]; simp [hr]), hk]
  cases numsE k [] r <;> rfl
/-- script.One -/
theorem script_One {E : Nat → Addr} (A : Option Addr) (n c : Nat) (l : List Bts) (w : World) (h : Reads w w.heap.size 1 A n (l.map strV)) (hcap : n ≤ c) (hn : n ≤ 1000000) (hsize : ∀ y ∈ l, y.length ≤ 70000) (hE : ScrIn E w) :
    Calls Tryz.prog 13 #[.slice A n c] w (OnePost E w (one l)) := by
  have hl : l.length = n := by simpa using h.1
  by_cases h0 : n = 0
  · subst h0
    obtain rfl := List.length_eq_zero_iff.1 hl
    exact one_none A c w hE
  · obtain ⟨b, off, x, r, rfl, hb, rfl, hr, hc0, hc⟩ := one_cons (by omega) h
    by_cases hk : kindOf x = 0
    · have : one (x :: r) = .error 15 := by unfold one; simp only; rw [if_pos hk]
      rw [this]
      exact one_noname b off n c x w (by omega) hb hc0 hk hE
    · by_cases hm : n = manyOf (kindOf x) + 1
      · rw [one_eq x r _ rfl (by omega) (by omega)]
        exact one_fit b off n c _ x r w hcap hb hc0 rfl (by omega) hm hr hc (fun y hy => hsize y (List.mem_cons_of_mem _ hy)) hE
      · have : one (x :: r) = .error 3 := by
          unfold one
          simp only
          rw [if_neg hk, if_pos (by omega)]
        rw [this]
        exact one_many b off n c _ x w (by omega) (by omega) hb hc0 rfl (by omega) hm hE

/-- operations in memory of the call's own -/
def OpsOwn (w : World) (base : Nat) (v : Value) (l : List SOp) : Prop := w.ownsRow base 34 5 v l.length (opsCells l)
theorem OpsOwn.reads {w : World} {base n c : Nat} {A : Option Addr} {l : List SOp} (h : OpsOwn w base (.slice A n c) l) : n = l.length ∧ Reads w w.heap.size 5 A l.length (opsCells l) := by
  have hn : n = l.length := by
    have := own_form h
    obtain ⟨A', c', e⟩ := this
    injection e
  subst hn
  exact ⟨rfl, Reads.of_own h⟩
theorem opsCells_snoc (l : List SOp) (o : SOp) : opsCells (l ++ [o]) = opsCells l ++ opCells o := by simp [opsCells]
theorem OpsOwn.append {w' : World} {base : Nat} {v' : Value} {l : List SOp} {o : SOp} (hown : w'.ownsRow base 34 5 v' (l.length + 1) (opsCells l ++ opCells o)) : OpsOwn w' base v' (l ++ [o]) := by
  unfold OpsOwn
  rw [List.length_append, opsCells_snoc]
  exact hown
theorem OpsOwn.below {w w1 : World} {base B : Nat} {v : Value} {l : List SOp} (h : OpsOwn w base v l) (hb : Below B w w1) (hB : w.heap.size ≤ B) : OpsOwn w1 base v l := own_below h hb hB

/-- what script.Of answers -/
def OfPost (E : Nat → Addr) (w : World) (r : Except (Nat × Nat) (List SOp)) (e : Ending) (w' : World) : Prop :=
  match r with
  | .error p => e = .returned (.tuple #[.slice none 0 0, .int .i64 (p.1 : Int), .iface 145 (.pointer (some (E p.2)))]) ∧ Below w.heap.size w w'
  | .ok ops => ∃ v, e = .returned (.tuple #[v, .int .i64 0, .nilIface]) ∧ OpsOwn w' w.heap.size v ops ∧ Below w.heap.size w w'
theorem ofPost_err {E : Nat → Addr} {w w' : World} {r : Except (Nat × Nat) (List SOp)} {n k : Nat} (h : r = .error (n, k)) (hb : Below w.heap.size w w') :
    OfPost E w r (.returned (.tuple #[.slice none 0 0, .int .i64 (n : Int), .iface 145 (.pointer (some (E k)))])) w' := by
  subst h; exact ⟨rfl, hb⟩
theorem ofPost_ok {E : Nat → Addr} {w w' : World} {r : Except (Nat × Nat) (List SOp)} {ops : List SOp} {v : Value} (h : r = .ok ops) (ho : OpsOwn w' w.heap.size v ops) (hb : Below w.heap.size w w') :
    OfPost E w r (.returned (.tuple #[v, .int .i64 0, .nilIface])) w' := by
  subst h; exact ⟨v, rfl, ho, hb⟩

/-- what the world holds for scripts -/
structure ScrB (E : Nat → Addr) (w : World) : Prop where
  scr : ScrIn E w
  words : WordsIn E w
  e8 : ErrAt E w 8
theorem ScrB.of_block {E : Nat → Addr} {w w' : World} (h : ScrB E w) (hb : ∀ k, k < w.heap.size → w'.heap[k]? = w.heap[k]?) : ScrB E w' := ⟨h.scr.of_block hb, h.words.of_block hb, h.e8.of_block hb⟩
theorem ScrB.below {E : Nat → Addr} {w w' : World} {B : Nat} (h : ScrB E w) (hb : Below B w w') (hB : w.heap.size ≤ B) : ScrB E w' := h.of_block fun k hk => hb.block k (by omega)

set_option maxHeartbeats 1000000 in
set_option maxRecDepth 100000 in
theorem script_Of_long {E : Nat → Addr} (s : ByteArray) (w : World) (hs : 60000 < s.size) (hE : ErrAt E w 9) :
    Calls Tryz.prog 5 #[.string s] w (OfPost E w (.error (0, 9))) := by
  have HS := Lib.hid (words_Split_long s w hs hE)
  go_enter Tryz.func5, Tryz.ntmps5
  go_wp2_with fail
  refine HS.out.mono ?_
  rintro e w1 ⟨rfl, nq, rfl⟩
  go_wp2
  go_ret3
  exact ofPost_err rfl (below_drewN (Below.refl _ _) _)
set_option maxHeartbeats 1000000 in
set_option maxRecDepth 100000 in
theorem script_Of_bad {E : Nat → Addr} (s : ByteArray) (w : World) (hs : s.size ≤ 60000) (hE : ScrB E w) (n : Nat) (hn : goSplit [] 1 (lines s.data.toList) = .bad n) :
    Calls Tryz.prog 5 #[.string s] w (OfPost E w (.error (n, 3))) := by
  have HS := words_Split_short s w hs hE.words
  rw [hn] at HS
  have HS' := Lib.hid HS
  clear HS hn
  go_enter Tryz.func5, Tryz.ntmps5
  go_wp2_with fail
  refine HS'.out.mono ?_
  rintro e w1 ⟨rfl, hb⟩
  go_wp2
  go_ret3
  exact ofPost_err rfl hb

theorem join_word : ∀ (r : List AmW.Bytes) (y : AmW.Bytes), y ∈ r → y.length ≤ (Lib.join r [32]).length
  | [], _, h => by cases h
  | [x], y, h => by
    obtain rfl : y = x := by simpa using h
    rw [Lib.join_one]; exact Nat.le_refl _
  | x :: z :: r, y, h => by
    rw [join_cons2, List.length_append, List.length_cons]
    rcases List.mem_cons.1 h with rfl | h
    · omega
    · have := join_word (z :: r) y h
      omega
theorem joined_line : ∀ (L : List (Nat × List AmW.Bytes)) (p : Nat × List AmW.Bytes), p ∈ L → (Lib.join p.2 [32]).length ≤ (joined L).length
  | [], _, h => by cases h
  | q :: L, p, h => by
    have e : (joined (q :: L)).length = (Lib.join q.2 [32]).length + 1 + (joined L).length := by simp [joined]; omega
    rcases List.mem_cons.1 h with rfl | h
    · omega
    · have := joined_line L p h
      omega
theorem one_wf {l : List Bts} {o : SOp} (h : one l = .ok o) : opWf o := by
  obtain ⟨h1, h2, h3, h4, h5, h6, h7⟩ := one_right h
  have hk := kinds8' (right_kind' h1)
  have hi : 0 ≤ o.iter ∧ o.iter ≤ 1000000 := by
    unfold rightB at h1
    simp only [Bool.and_eq_true, decide_eq_true_eq] at h1
    exact ⟨h1.1.1.1.1.2, h1.1.1.1.2⟩
  exact ⟨by omega, by omega, h2, h3, h4, h5, h6, h7, by omega, by omega⟩
/-- where the loop of script.Of stands -/
structure OfAt (w W : World) (L : List (Nat × List AmW.Bytes)) (R : Except (Nat × Nat) (List SOp)) (k : Nat) (ops : List SOp) (v : Value) (wr : World) : Prop where
  own : OpsOwn wr W.heap.size v ops
  rest : ofGo ops (L.drop k) = R
  len : ops.length = k
  below : Below W.heap.size W wr
theorem drop_line {L : List (Nat × List AmW.Bytes)} {j : Nat} {y : Nat × List AmW.Bytes} (h : L[j]? = some y) : L.drop j = y :: L.drop (j + 1) := by
  obtain ⟨h1, h2⟩ := List.getElem?_eq_some_iff.1 h
  rw [List.drop_eq_getElem_cons h1, h2]

set_option maxHeartbeats 4000000 in
set_option maxRecDepth 100000 in
theorem script_Of_ok {E : Nat → Addr} (s : ByteArray) (w : World) (hs : s.size ≤ 60000) (hE : ScrB E w) (L : List (Nat × List AmW.Bytes)) (hn : goSplit [] 1 (lines s.data.toList) = .ok L) :
    Calls Tryz.prog 5 #[.string s] w (OfPost E w (ofLines L)) := by
  have HS := words_Split_short s w hs hE.words
  rw [hn] at HS
  have HS' := Lib.hid (show Calls Tryz.prog 12 #[.string s] w (SplitPost E w (.ok L)) from HS)
  have hLs : L.length ≤ 60001 ∧ ∀ p ∈ L, p.2.length ≤ 1000000 := split_small s hs L hn
  have hWs : ∀ p ∈ L, ∀ y ∈ p.2, y.length ≤ 70000 := by
    intro p hp y hy
    have h1 := joined_len hn
    have h2 := joined_line L p hp
    have h3 := join_word p.2 y hy
    have h4 : s.data.toList.length = s.size := by simp
    omega
  clear HS hn
  obtain ⟨R, hR⟩ : ∃ R, ofGo [] L = R := ⟨_, rfl⟩
  have HRR := Lib.hid hR
  have hLs' := Lib.hid hLs
  have hL6 : L.length ≤ 60001 := hLs.1
  clear hR hLs
  go_enter Tryz.func5, Tryz.ntmps5
  go_wp2_with fail
  refine HS'.out.mono ?_
  rintro e W ⟨v, rfl, hL, hbW⟩
  obtain ⟨A0, c0, hv⟩ := own_form hL.choose_spec.1
  subst hv
  have hEW := hE.below hbW (Nat.le_refl _)
  go_wp2
  go_loopw [2, 3, 4, 8, 9, 10, 11, 12, 27] (fun v2 v3 v4 v _ _ _ _ i wr => ∃ (k : Nat) (ops : List SOp), k ≤ L.length ∧ i = .int .i64 k ∧ v2 = .slice none 0 0 ∧ v3 = .int .i64 0 ∧ v4 = .nilIface ∧ OfAt w W L R k ops v wr) (fun _ _ _ _ _ _ _ _ i _ => L.length - (intOf i).toNat)
  case atStart => exact ⟨0, [], by omega, rfl, rfl, rfl, rfl, World.ownsRow_nil _ _ _ _, HRR.out, rfl, Below.refl _ _⟩
  case round =>
    obtain ⟨k, ops, hk, rfl, rfl, rfl, rfl, hat⟩ := hrel
    by_cases hlt : k < L.length
    · have hp : L[k]? = some (L[k]'hlt) := List.getElem?_eq_getElem _
      have hpl := hLs'.out.2 _ (List.mem_of_getElem? hp)
      have hps := hWs _ (List.mem_of_getElem? hp)
      generalize L[k]'hlt = p at hp hpl hps
      obtain ⟨g0, c0', A5, c5, e0, hg0, k1, k2, hRd, hcap⟩ := LinesOwn.at2 (LinesOwn.below hL hat.below (Nat.le_refl _)) hp
      obtain rfl : A0 = some ⟨g0, 0, none⟩ := by injection e0
      clear e0
      have hlt' : (k : Int) < (L.length : Int) := by omega
      have hrest := hat.rest
      rw [drop_line hp, ofGo, hat.len] at hrest
      have hab := hat.below
      have hBw := hbW.trans (hab.mono hbW.size)
      have hEr := hE.below hBw (Nat.le_refl _)
      have hA1 := fun o => hRd.alloc (Nat.le_refl _) o
      have hown := hat.own
      have hlen := hat.len
      by_cases h2 : 2000 ≤ k
      · rw [if_pos h2] at hrest
        have h2' : (2000 : Int) ≤ (k : Int) := by omega
        have HE := Lib.hid (show ofLines L = .error (p.1, 9) from by unfold ofLines; rw [HRR.out, ← hrest])
        have h9 : wr.cell? _ = _ := hEr.words.e9
        simp only [gE] at h9
        have h9' := fun o => (World.cell?_alloc_lt wr o _ (World.block_lt_of_cell? wr _ h9)).trans h9
        clear h9 hrest hat hp hRd hA1 hown hlen
        go_wp2
        go_quiet (fail)
        go_wp2
        go_ret3
        exact ofPost_err HE.out (below_drewN (hBw.alloc hBw.size _) _)
      · rw [if_neg h2] at hrest
        have h2' : ¬ (2000 : Int) ≤ (k : Int) := by omega
        have HOne := fun o => script_One (E := E) A5 p.2.length c5 p.2 (wr.alloc o) ((hA1 o).more (by simp)) hcap hpl hps (hEr.scr.alloc o)
        have hk2000 : ops.length ≤ 2000 := by omega
        cases ho : one p.2 with
        | error er =>
          rw [ho] at hrest HOne
          have HE := Lib.hid (show ofLines L = .error (p.1, er) from by unfold ofLines; rw [HRR.out, ← hrest])
          have HOne' := Lib.hid (show ∀ o, Calls Tryz.prog 13 #[.slice A5 p.2.length c5] (wr.alloc o) fun e w' => e = .returned (.tuple #[nilOp, .iface 145 (.pointer (some (E er)))]) ∧ Below (wr.alloc o).heap.size (wr.alloc o) w' from HOne)
          clear hrest hat hp hRd hA1 hown hlen HOne ho
          go_wp2_with fail
          refine (HOne'.out _).mono ?_
          unfold nilOp
          rintro e w3 ⟨rfl, hb3⟩
          have hB3 := (Blk.new wr 47 #[.int .i64 p.1, .slice A5 p.2.length c5]).below hb3 (by simp)
          have a0 := hB3.cell 0
          simp only [List.getElem?_toArray, List.getElem?_cons_zero] at a0
          have a0' : ∀ o, (w3.alloc o).cell? ⟨wr.heap.size, 0, none⟩ = some (.int .i64 p.1) := fun o => (World.cell?_alloc_lt w3 o _ hB3.lt).trans a0
          have hbw3 := (hBw.alloc hBw.size _).trans (hb3.mono (by have := hBw.size; simp; omega))
          clear a0 hB3 hb3
          go_wp2
          go_quiet (fail)
          go_wp2
          go_ret3
          exact ofPost_err HE.out (below_drewN (hbw3.alloc hbw3.size _) _)
        | ok o =>
          rw [ho] at hrest HOne
          have HRest := Lib.hid hrest
          have HOne' := Lib.hid (show ∀ b, Calls Tryz.prog 13 #[.slice A5 p.2.length c5] (wr.alloc b) fun e w' => e = .returned (.tuple #[opV o, .nilIface]) ∧ Below (wr.alloc b).heap.size (wr.alloc b) w' from HOne)
          unfold OpsOwn at hown
          have HLen := Lib.hid hlen
          clear hrest hat hp hRd hA1 hlen HOne ho
          go_wp2_with fail
          refine (HOne'.out _).mono ?_
          unfold opV
          rintro e w3 ⟨rfl, hb3⟩
          have hown3 := (own_below (hown.alloc _) hb3 (Nat.le_refl _)).alloc (.cells #[.int .i64 o.kind, .int .u64 o.key, .int .u64 o.val, .int .u64 o.hash, .int .i64 o.iter] 34)
          have hb3W : Below W.heap.size W w3 := (hab.alloc hab.size _).trans (hb3.mono (by have := hab.size; simp; omega))
          have hb3W' := hb3W.alloc hb3W.size (.cells #[.int .i64 o.kind, .int .u64 o.key, .int .u64 o.val, .int .u64 o.hash, .int .i64 o.iter] 34)
          go_wp2_with (at_builtin; refine wpList_append1 rfl rfl slty_Op hown3 rfl rfl (by simp) rfl rfl (by omega) hb3W'.size ?_; intro v4 w4 hown4 hg4)
          go_roundw
          case rel => exact ⟨k + 1, ops ++ [o], by omega, by go_num, rfl, rfl, rfl, OpsOwn.append hown4, HRest.out, by simp [HLen.out], hb3W'.trans hg4.below⟩
          case measure => simp [intOf]; omega
    · have hrest := hat.rest
      rw [List.drop_eq_nil_of_le (by omega), ofGo] at hrest
      have hok : ofGo [] L = .ok ops := HRR.out.trans hrest.symm
      obtain ⟨g1, g2, g3⟩ := ofGo_ok L [] ops hok
      have hlen2 := g3 (by simp)
      have hwf : ∀ o ∈ ops, opWf o := fun o ho => by
        rcases g2 o ho with h | ⟨p, _, h⟩
        · cases h
        · exact one_wf h
      have hown := hat.own
      obtain ⟨A8, c8, rfl⟩ := own_form hown
      obtain ⟨_, hRd⟩ := OpsOwn.reads hown
      have hBw := hbW.trans (hat.below.mono hbW.size)
      have hEr := hE.below hBw (Nat.le_refl _)
      have HC := script_Consistent A8 ops.length c8 ops wr hRd (by omega) hwf
      have hLr := LinesOwn.below hL hat.below (Nat.le_refl _)
      have hlt' : ¬ (k : Int) < (L.length : Int) := by omega
      cases hot : other ops with
      | none =>
        rw [hot] at HC
        have HE := Lib.hid (show ofLines L = .ok ops from by unfold ofLines; rw [hok]; simp only; rw [hot])
        have HC' := Lib.hid (show Calls Tryz.prog 10 #[.slice A8 ops.length c8] wr fun e w' => e = .returned (.tuple #[.int .i64 0, .bool true]) ∧ Below wr.heap.size wr w' from HC)
        clear HC hat hrest hok hwf hLr g1 g2 g3 hot
        go_wp2_with fail
        refine HC'.out.mono ?_
        rintro e w5 ⟨rfl, hb5⟩
        go_wp2
        go_ret3
        exact ofPost_ok HE.out (own_below (own_lower hown hbW.size) hb5 (Nat.le_refl _)) (hBw.trans (hb5.mono hBw.size))
      | some i =>
        rw [hot] at HC
        have hil := other_lt hot
        have hi2 : i < L.length := by simp at g1; omega
        have hp : L[i]? = some (L[i]'hi2) := List.getElem?_eq_getElem _
        have hge : (L.getD i (0, [])) = L[i]'hi2 := by rw [List.getD_eq_getElem?_getD, hp]; rfl
        have HE := show ofLines L = .error ((L.getD i (0, [])).1, 8) from by unfold ofLines; rw [hok]; simp only; rw [hot]
        rw [hge] at HE
        generalize L[i]'hi2 = p at hp HE
        obtain ⟨g0, c0', A5, c5, e0, hg0, k1, k2, _, _⟩ := LinesOwn.at2 hLr hp
        obtain rfl : A0 = some ⟨g0, 0, none⟩ := by injection e0
        clear e0
        have HE' := Lib.hid HE
        have HC' := Lib.hid (show Calls Tryz.prog 10 #[.slice A8 ops.length c8] wr fun e w' => e = .returned (.tuple #[.int .i64 i, .bool false]) ∧ Below wr.heap.size wr w' from HC)
        have hi2' : (i : Int) < (L.length : Int) := by omega
        clear HC hat hrest hok hwf hLr g1 g2 g3 hot HE hge
        go_wp2_with fail
        refine HC'.out.mono ?_
        rintro e w5 ⟨rfl, hb5⟩
        have k1' := (hb5.cell (p := ⟨g0, i * 2, none⟩) hg0).trans k1
        have h8 : w5.cell? _ = _ := (hEr.below hb5 (Nat.le_refl _)).e8
        simp only [gE] at h8
        clear k1 k2
        go_wp2
        go_quiet (fail)
        go_wp2
        go_ret3
        exact ofPost_err HE'.out (below_drewN (hBw.trans (hb5.mono hBw.size)) _)
/-- script.Of of a text that is not too great -/
theorem script_Of {E : Nat → Addr} (s : ByteArray) (w : World) (hE : ScrB E w) : Calls Tryz.prog 5 #[.string s] w (OfPost E w (ofText s.data.toList)) := by
  have hl : s.data.toList.length = s.size := by simp
  unfold ofText
  by_cases hs : 60000 < s.size
  · rw [if_pos (by omega)]
    exact script_Of_long s w hs hE.words.e9
  · rw [if_neg (by omega)]
    cases h : goSplit [] 1 (lines s.data.toList) with
    | bad n => exact script_Of_bad s w (by omega) hE n h
    | ok L => exact script_Of_ok s w (by omega) hE L h
end Go.Proofs.YtgpkekdbohdbfaaGreatDoor
