/- MergePlain: what two functions come to by every policy. -/
import Derived.Test.YtbfpfgfgfjhpfaaGreatDoorDnA
import Derived.Test.YtbfpfgfgfjhpfaaGreatDoorRfG
import Derived.Test.YtbfpfgfgfjhpfaaGreatDoorRfH
import Derived.Test.YtbfpfgfgfjhpfaaGreatDoorMgP
import Derived.BigQuiet
namespace Go.Proofs.YtbfpfgfgfjhpfaaGreatDoor
set_option maxRecDepth 100000
set_option maxHeartbeats 8000000
open Go.RowKit dP zW

theorem Both.below {w0 w w' : World} {fb rb : Nat} {l : PL} (h : Both w0 w fb rb l) (hb : Below w.heap.size w w') : Both w0 w' fb rb l := by
  obtain ⟨F, h1, h2, h3⟩ := h
  exact ⟨F, h1.below hb, h2.below hb, h3.trans (hb.mono h3.size)⟩
theorem Both.below_ {w0 w : World} {fb rb : Nat} {l : PL} (h : Both w0 w fb rb l) : Below w0.heap.size w0 w := by
  obtain ⟨F, h1, h2, h3⟩ := h
  exact h3
theorem Both.ref {w0 w : World} {fb rb : Nat} {l : PL} (h : Both w0 w fb rb l) : oI w w0.heap.size rb 200 (gG 200 l) := by
  obtain ⟨F, h1, h2, h3⟩ := h
  exact h2.at_
theorem Both.pairs {w0 w : World} {fb rb : Nat} {l : PL} (h : Both w0 w fb rb l) (hl : l.length ≤ 200) : Calls Tryz.prog 7 #[.pointer (some ⟨fb, 0, none⟩)] w fun y w' => ∃ v', y = .returned v' ∧ w'.ownsRow w.heap.size 37 2 v' (bF l).length ((bF l).flatMap aM) ∧ Below w.heap.size w w' := by
  obtain ⟨F, h1, h2, h3⟩ := h
  exact BG h1 (by have := Ck l; omega)
theorem J9 {l : PL} {p : Nat × Nat} (h : p ∈ bF l) : p ∈ l := by
  have : ∀ (l t : PL), eY t → p ∈ l.foldl (fun t p => gJ t p.1 p.2) t → p ∈ t ∨ p ∈ l := by
    intro l
    induction l with
    | nil => intro t _ h; exact .inl h
    | cons x l ih =>
      intro t ht h
      rw [List.foldl_cons] at h
      rcases ih _ (j6 ht x.1 x.2) h with h | h
      · rcases (oN ht).1 h with rfl | ⟨h, _⟩
        · exact .inr (by simp)
        · exact .inl h
      · exact .inr (by simp [h])
  rcases this l [] List.Pairwise.nil h with h | h
  · cases h
  · exact h
theorem Sz {l : PL} (h64 : ∀ p ∈ l, p.2 < 18446744073709551616) (hn : l.length ≤ 200) (k x : Nat) (h : aS (gG 200 l) k = some x) : x < 18446744073709551616 := by
  rw [(G9 hn).1] at h
  exact h64 _ (J9 ((gQ (iq l)).1 h))
theorem UU (p : Int) {l m : PL} (hl : l.length ≤ 100) (hm : m.length ≤ 100) : (l7 p (bF l) (bF m)).length ≤ 400 := by
  rw [← EF p (by omega) (by omega), Ez]
  have h1 := l9 p (gG 200 l) (gG 200 m) (gG 200 m) (bJ p (gG 200 l) (gG 200 m) (gG 200 l) [])
  have h2 := l9 p (gG 200 l) (gG 200 m) (gG 200 l) []
  have h3 := rE 200 l
  have h4 := rE 200 m
  rw [List.length_nil] at h2
  omega
theorem Qd {w w' : World} {l : PL} {A : Option Addr} (h : Reads w w.heap.size 2 A l.length (l.flatMap aM)) (hb : Below w.heap.size w w') : Reads w' w'.heap.size 2 A l.length (l.flatMap aM) := by
  have h2 := h.below hb
  exact ⟨h2.1, fun hn => by
    obtain ⟨g, off, a, b, c⟩ := h2.2 hn
    exact ⟨g, off, a, Nat.lt_of_lt_of_le b hb.size, c⟩⟩
/-- what the law compares with the document's word -/
def EW (p : Int) : List UInt8 := if 0 < p ∧ p < 7 then oK.getD p.toNat [] else []
theorem Qe (p : Int) : EW p = jG p := by
  unfold EW jG
  by_cases h : 0 < p ∧ p < 7
  · rw [if_pos h, if_pos ⟨by omega, by omega⟩]
  · rw [if_neg h, if_neg (by omega)]
theorem XW {E : Nat → Addr} {w : World} {l m : PL} {A A' : Option Addr} {c c' : Nat} (p : Int) (hl : Reads w w.heap.size 2 A l.length (l.flatMap aM)) (hm : Reads w w.heap.size 2 A' m.length (m.flatMap aM)) (h64 : (∀ q ∈ l, q.2 < 18446744073709551616) ∧ ∀ q ∈ m, q.2 < 18446744073709551616) (hE : Env w E w) (hW : kT w) (Ak : mg w) (h6 : gN E w 6) :
    Calls Tryz.prog 3 #[.slice A l.length c, .slice A' m.length c', .int .i64 p] w fun y w' => y = .returned (.bool true) ∧ Below w.heap.size w w' := by
  have HL := Lib.hid hl
  have HM := Lib.hid hm
  have HX := Lib.hid (And.intro h64 Ak)
  have HA1 := Lib.hid (QS hE h6 hW Ak (Nat.le_refl _))
  clear hl hm h64 hE hW Ak h6
  go_enter Tryz.func3, Tryz.ntmps3
  go_wp2_with fail
  refine HA1.out.mono ?_
  rintro y w2 ⟨rfl, hb2⟩
  have HB2 := Lib.hid hb2
  clear hb2 HA1
  by_cases hla : 100 < l.length
  · have adG : (100 : Int) < (l.length : Int) := by omega
    go_wp2
    go_ret
    exact ⟨rfl, HB2.out⟩
  by_cases hlb : 100 < m.length
  · have adG : ¬ (100 : Int) < (l.length : Int) := by omega
    have ae1 : (100 : Int) < (m.length : Int) := by omega
    go_wp2
    go_ret
    exact ⟨rfl, HB2.out⟩
  have adG : ¬ (100 : Int) < (l.length : Int) := by omega
  have ae1 : ¬ (100 : Int) < (m.length : Int) := by omega
  have iC := Lib.hid (show l.length ≤ 100 ∧ m.length ≤ 100 by omega)
  have HF1 := Lib.hid (AZ (c := c) (Qd HL.out HB2.out) iC.out.1)
  go_wp2_with fail
  refine HF1.out.mono ?_
  rintro y w3 ⟨fb, rb, rfl, hB3⟩
  have HB3 := Lib.hid (HB2.out.trans (hB3.below_.mono HB2.out.size))
  have nD := Lib.hid hB3
  have FC := Lib.hid (AZ (c := c') (Qd HM.out HB3.out) iC.out.2)
  clear hB3 HF1 HB2
  go_wp2_with fail
  refine FC.out.mono ?_
  rintro y w4 ⟨gb, sb, rfl, hB4⟩
  have P7 := Lib.hid (HB3.out.trans (hB4.below_.mono HB3.out.size))
  have oC := Lib.hid (nD.out.below hB4.below_)
  have HD2 := Lib.hid hB4
  have HP1 := Lib.hid (oC.out.pairs (by have := iC.out; omega))
  clear hB4 FC HB3 nD
  go_wp2_with fail
  refine HP1.out.mono ?_
  rintro y w5 ⟨v5, rfl, V4, hb5⟩
  obtain ⟨A5, c5, rfl⟩ := aU V4
  have HO5 := Lib.hid V4
  have RY := Lib.hid (P7.out.trans (hb5.mono P7.out.size))
  have FT := Lib.hid (oC.out.below hb5)
  have HD5 := Lib.hid (HD2.out.below hb5)
  have HP2 := Lib.hid (HD5.out.pairs (by have := iC.out; omega))
  clear V4 hb5 HP1 P7 oC HD2
  go_wp2_with fail
  refine HP2.out.mono ?_
  rintro y w6 ⟨v6, rfl, FH, hb6⟩
  obtain ⟨A6, c6, rfl⟩ := aU FH
  have adH := Lib.hid (own_below HO5.out hb6 (Nat.le_refl _))
  have PU := Lib.hid FH
  have pV := Lib.hid (RY.out.trans (hb6.mono RY.out.size))
  have qI := Lib.hid (FT.out.below hb6)
  have HD6 := Lib.hid (HD5.out.below hb6)
  have hal := Ck l
  have ham := Ck m
  have ow := Lib.hid (QN (c := c5) (c' := c6) p (Reads.eO adH.out) (Reads.eO PU.out) (by have := iC.out; omega) (by have := iC.out; omega) ⟨fun q hq => HX.out.1.1 q (J9 hq), fun q hq => HX.out.1.2 q (J9 hq)⟩ (HX.out.2.below pV.out))
  clear FH hb6 HP2 RY FT HD5 HO5 hal ham
  go_wp2_with fail
  refine ow.out.mono ?_
  rintro y w7 ⟨v7, rfl, vK, mZ⟩
  have zw := Lib.hid (pV.out.trans (mZ.mono pV.out.size))
  have LA := Lib.hid (qI.out.below mZ)
  have HD7 := Lib.hid (HD6.out.below mZ)
  have hRp := aai LA.out.ref HD7.out.ref (by have := rE 200 l; have := iC.out; omega) (by have := rE 200 m; have := iC.out; omega) ⟨Sz HX.out.1.1 (by have := iC.out; omega), Sz HX.out.1.2 (by have := iC.out; omega)⟩ p
  rw [EF p (by have := iC.out; omega) (by have := iC.out; omega), ← Ez (bJ p (gG 200 l) (gG 200 m) (gG 200 m) (bJ p (gG 200 l) (gG 200 m) (gG 200 l) [])), EF p (by have := iC.out; omega) (by have := iC.out; omega)] at hRp
  have I6 := UU p iC.out.1 iC.out.2
  obtain ⟨T, hT⟩ : ∃ T, T = l7 p (bF l) (bF m) := ⟨_, rfl⟩
  rw [← hT] at hRp vK I6
  have HTl := Lib.hid I6
  obtain ⟨A7, c7, rfl⟩ := aU vK
  have FY := Lib.hid vK
  have HRp := Lib.hid hRp
  clear hT I6 hRp vK mZ ow pV qI HD6 PU adH LA HD7
  go_wp2_with fail
  refine HRp.out.mono ?_
  rintro y w8 ⟨v8, rfl, SA, mK⟩
  obtain ⟨A8, c8, rfl⟩ := aU SA
  have HO8 := Lib.hid SA
  have adI := Lib.hid (own_below FY.out mK (Nat.le_refl _))
  have Jk := Lib.hid (zw.out.trans (mK.mono zw.out.size))
  clear SA mK HRp zw FY
  obtain ⟨s, hs⟩ : ∃ s : ByteArray, s = ⟨(EW p).toArray⟩ := ⟨_, rfl⟩
  have hw8 := wR p w8 (HX.out.2.below Jk.out)
  rw [← Qe, ← hs] at hw8
  have aaW : ∀ w9, Below w8.heap.size w8 w9 → Calls Tryz.prog 10 #[.int .i64 p] w9 fun y w' => y = .returned (.string s) ∧ w9 = w' := fun w9 hb => by
    have := wR p w9 (HX.out.2.below (Jk.out.trans (hb.mono Jk.out.size)))
    rw [← Qe, ← hs] at this
    exact this
  have CO := Lib.hid aaW
  clear aaW hw8
  have HLp : RowKit.Hid (∀ W, Below w8.heap.size w8 W → W.ownsRow w6.heap.size 37 2 (.slice A7 T.length c7) T.length (T.flatMap aM) ∧ W.ownsRow w7.heap.size 38 2 (.slice A8 T.length c8) T.length (T.flatMap aM)) := Lib.hid (fun W hb => ⟨own_below adI.out hb (Nat.le_refl _), own_below HO8.out hb (Nat.le_refl _)⟩)
  clear adI HO8
  by_cases hp0 : 0 < p
  by_cases hp7 : p < 7
  all_goals first
    | (have hpp : 0 < p ∧ p < 7 := ⟨hp0, hp7⟩
       obtain ⟨k, rfl⟩ : ∃ k : Nat, p = (k : Int) := ⟨p.toNat, by omega⟩
       have hk : EW (k : Int) = oK.getD k [] := by unfold EW; rw [if_pos hpp]; rfl
       have hk0 : (0 : Int) ≤ (k : Int) := by omega
       have HRw := Lib.hid (aad w8)
       go_wp2_with fail
       refine HRw.out.mono ?_
       rintro y w9 ⟨g, rfl, hg, qE⟩
       have hgk := hg k (by omega)
       rw [← hk, ← hs] at hgk
       have CS := Lib.hid qE
       have HWe := Lib.hid (CO.out _ qE)
       clear hg qE HRw hs hk CO
       go_wp2_with fail
       refine HWe.out.mono ?_
       rintro y w10 ⟨rfl, rfl⟩)
    | (have hs' : ({ data := #[] } : ByteArray) = s := by rw [hs]; unfold EW; rw [if_neg (by omega)]
       have CS := Lib.hid (Below.refl w8.heap.size w8)
       have HWe := Lib.hid (CO.out _ CS.out)
       clear hs CO
       go_upto_region 11 with fail
       try rw [hs']
       go_wp2_with fail
       refine HWe.out.mono ?_
       rintro y w10 ⟨rfl, rfl⟩)
  all_goals
    go_wp2
    go_loopw [69] (fun v69 wr => ∃ i : Nat, i ≤ T.length ∧ v69 = .int .i64 (i : Int) ∧ Hid (Below w8.heap.size w8 wr)) (fun v69 _ => T.length - (intOf v69).toNat)
    case atStart => exact ⟨0, by omega, rfl, CS⟩
    case round =>
      clear CS
      obtain ⟨i, hi, rfl, CS⟩ := hrel
      by_cases hlt : i < T.length
      · have hlt' : (i : Int) < (T.length : Int) := by omega
        have hi0 : (0 : Int) ≤ (i : Int) := by omega
        have hwi : IntKind.i64.wrap ((i : Int) + 1) = ((i + 1 : Nat) : Int) := by have := HTl.out; rw [IntKind.wrap_i64]; omega
        obtain ⟨q, hq⟩ : ∃ q, T[i]? = some q := ⟨_, List.getElem?_eq_getElem hlt⟩
        obtain ⟨vK, SA⟩ := HLp.out wr CS.out
        obtain ⟨g7, adJ, hA7, hl7, hc7⟩ := (Reads.eO vK).2 (by omega)
        obtain ⟨g8, adK, hA8, Kr, hc8⟩ := (Reads.eO SA).2 (by omega)
        have r0 : wr.cell? ⟨g7, adJ + i * 2, none⟩ = some (.int .u64 (q.1 : Int)) := hc7 (i * 2 + 0) _ (dS hq (by omega))
        have r1 : wr.cell? ⟨g7, adJ + i * 2 + 1, none⟩ = some (.int .u64 (q.2 : Int)) := hc7 (i * 2 + 1) _ (dS hq (by omega))
        have s0 : wr.cell? ⟨g8, adK + i * 2, none⟩ = some (.int .u64 (q.1 : Int)) := hc8 (i * 2 + 0) _ (dS hq (by omega))
        have s1 : wr.cell? ⟨g8, adK + i * 2 + 1, none⟩ = some (.int .u64 (q.2 : Int)) := hc8 (i * 2 + 1) _ (dS hq (by omega))
        subst hA7
        subst hA8
        clear hc7 hc8 vK SA hq
        go_upto_region 16 with fail
        refine bU (F := fun v => aj v wr.heap.size 37 #[.int .u64 (q.1 : Int), .int .u64 (q.2 : Int)] ∧ Below wr.heap.size wr v) ⟨aj.new wr 37 #[.int .u64 (q.1 : Int), .int .u64 (q.2 : Int)], (Below.refl wr.heap.size wr).alloc (Nat.le_refl _) _⟩ ?_
        rintro w12 ⟨UW, UY⟩
        obtain ⟨bx, hbx⟩ : ∃ bx, bx = wr.heap.size := ⟨_, rfl⟩
        rw [← hbx] at UW ⊢
        have x0 := UW.cell 0
        have x1 := UW.cell 1
        simp only [List.getElem?_toArray, List.getElem?_cons_zero, List.getElem?_cons_succ] at x0 x1
        have y0 := aA UY s0
        have y1 := aA UY s1
        have ae2 := Lib.hid (CS.out.trans (UY.mono CS.out.size))
        have HM := Lib.hid (show T.length - (i + 1) < T.length - i by omega)
        clear UW UY hbx r0 r1 s0 s1 CS
        go_quiet (fail)
        go_wp2
        go_roundw
        case measure => simp [intOf]; exact HM.out
        exact ⟨i + 1, by omega, rfl, Lib.hid (below_drewN ae2.out _)⟩
      · obtain rfl : i = T.length := by omega
        have hlt' : ¬ (T.length : Int) < (T.length : Int) := by omega
        go_wp2
        go_ret
        exact ⟨rfl, Jk.out.trans (CS.out.mono Jk.out.size)⟩
end Go.Proofs.YtbfpfgfgfjhpfaaGreatDoor
