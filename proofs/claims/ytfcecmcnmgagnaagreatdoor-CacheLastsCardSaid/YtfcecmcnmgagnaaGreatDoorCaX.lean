/- Package cache's inner functions by their contracts. No statement of the claim. -/
import Derived.Test.YtfcecmcnmgagnaaGreatDoorCaS
import Derived.Test.YtfcecmcnmgagnaaGreatDoorSqM
import Derived.Test.YtfcecmcnmgagnaaGreatDoorCoO
import Derived.Test.YtfcecmcnmgagnaaGreatDoorLaneQ
import Derived.Test.YtfcecmcnmgagnaaGreatDoorRmK
import Derived.Test.YtfcecmcnmgagnaaGreatDoorCoEnv
namespace Go.Proofs.YtfcecmcnmgagnaaGreatDoor
set_option maxRecDepth 100000
set_option maxHeartbeats 4000000
open Go.RowKit AmC AmK
section
variable {W0 w w0 : World} {E : Nat → Addr} {H : Nat → Nat} {I K M cb i n : Nat} {G G0 fr ids : List Nat} {c : CaC} {s : SlF} {a : Pool} {lst : Cnt}
theorem nameC {p F : World → Prop} (h : F w) (h2 : ∀ v, F v → p v) : p w := h2 w h
theorem slot_cells (h : CaH W0 E H K M I cb G0 w0 w c n s fr G a ids lst) (hi : i < n) : ∃ g cap, c.sv = .slice (some ⟨g, 0, none⟩) n cap ∧ W0.heap.size ≤ g ∧ g < w.heap.size ∧ w.cell? ⟨g, i * 5, none⟩ = some (.int .u64 ((s.ent i).key : Int)) ∧ w.cell? ⟨g, i * 5 + 1, none⟩ = some (.int .u64 ((s.ent i).val : Int)) ∧ w.cell? ⟨g, i * 5 + 2, none⟩ = some (.int .u64 ((s.ent i).hash : Int)) ∧ w.cell? ⟨g, i * 5 + 3, none⟩ = some (.int .i64 (lkI (s.nw i))) ∧ w.cell? ⟨g, i * 5 + 4, none⟩ = some (.int .i64 (lkI (s.od i))) := by
 obtain ⟨g, cap, hv⟩ := h.form (by omega)
 have hl := h.sl.lt g (by rw [hv]; rfl)
 exact ⟨g, cap, hv, hl.1, hl.2, h.slot hv hi 0 (by decide), h.slot hv hi 1 (by decide), h.slot hv hi 2 (by decide), h.slot hv hi 3 (by decide), h.slot hv hi 4 (by decide)⟩
theorem ca_leave (h : CaH W0 E H K M I cb G0 w0 w c n s fr G a ids lst) (hi : i < n) (hnw : ∀ j, s.nw i = some j → j < n) (hod : ∀ j, s.od i = some j → j < n) : Calls Tryz.prog 26 #[.pointer (some ⟨cb, 0, none⟩), .int .i64 (i : Int)] w fun y w' => y = .returned undef ∧ CaH W0 E H K M I cb G0 w0 w' { c with e := leaveE c.e s i } n (leaveS s i) fr G a ids lst := by
 have hx0 := h.below ((Below.refl w.heap.size w).alloc (Nat.le_refl _) (.cells #[.int .u64 ((s.ent i).key : Int), .int .u64 ((s.ent i).val : Int), .int .u64 ((s.ent i).hash : Int), .int .i64 (lkI (s.nw i)), .int .i64 (lkI (s.od i))] 58))
 have hX0 := Blk.new w 58 #[.int .u64 ((s.ent i).key : Int), .int .u64 ((s.ent i).val : Int), .int .u64 ((s.ent i).hash : Int), .int .i64 (lkI (s.nw i)), .int .i64 (lkI (s.od i))]
 obtain ⟨g, cap, hgv, hg0, hg1, p0, p1, p2, p3, p4⟩ := slot_cells h hi
 have hi0 : (0 : Int) ≤ (i : Int) := by omega
 have hi1 : (i : Int) < (n : Int) := by omega
 have HXn := qd (show w.heap.size ∉ caFoot cb c G ∧ w0.heap.size ≤ w.heap.size from ⟨fun hq => by have := (h.lts _ hq).1; omega, h.mod.size⟩)
 have Hnw := qd hnw
 have Hod := qd hod
 have hbk := h.blk
 unfold CaC.cells at hbk
 have k1 := hbk.cell 1
 simp only [gl] at k1
 clear hbk
 rw [hgv] at k1
 have HGv := qd hgv
 clear h hnw hod hgv
 go_in
 go_upto_region 1 with fail
 refine nameC (F := fun v => CaH W0 E H K M I cb G0 w0 v c n s fr G a ids lst ∧ Blk v w.heap.size 58 #[.int .u64 ((s.ent i).key : Int), .int .u64 ((s.ent i).val : Int), .int .u64 ((s.ent i).hash : Int), .int .i64 (lkI (s.nw i)), .int .i64 (lkI (s.od i))]) ⟨hx0, hX0⟩ ?_
 clear hx0 hX0 k1 p0 p1 p2 p3 p4
 rintro w1 ⟨hh, hx⟩
 obtain ⟨xb, hxb⟩ : ∃ xb, xb = w.heap.size := ⟨_, rfl⟩
 rw [← hxb] at hx HXn ⊢
 have HH := qd hh
 have HX := qd hx
 clear hh hx hxb hg0 hg1
 cases hnn : s.nw i with
 | none =>
  have x3 := HX.out.cell 3
  have x4 := HX.out.cell 4
  simp only [gl] at x3 x4
  rw [hnn] at x3
  have hlk : lkI none = -1 := rfl
  rw [hlk] at x3
  clear hlk
  have hbk := HH.out.blk
  unfold CaC.cells at hbk
  have kz := hbk.frozen 3
  have kc := hbk.cell 3
  simp only [gl] at kc
  have hnew := hbk.set_ 3 (.int .i64 (lkI (s.od i)))
  have hm := (Mod.refl [cb] w1).sl 3 (.int .i64 (lkI (s.od i)))
  simp only [pt] at hnew
  have hN := HH.out.setB (c' := { c with e := ⟨s.od i, c.e.ost⟩ }) (by unfold CaC.cells; exact hnew) hm ⟨rfl, rfl, rfl⟩
  have HN := qd (show CaH W0 E H K M I cb G0 w0 _ { c with e := ⟨if s.nw i = none then s.od i else c.e.nst, c.e.ost⟩ } n { s with od := updO s.od (s.nw i) (s.od i) } fr G a ids lst ∧ Blk _ xb 58 #[.int .u64 ((s.ent i).key : Int), .int .u64 ((s.ent i).val : Int), .int .u64 ((s.ent i).hash : Int), .int .i64 (lkI (s.nw i)), .int .i64 (lkI (s.od i))] from ⟨by rw [hnn, if_pos rfl]; exact hN, HX.out.mod hm (fun hs => HXn.out.1 (by rw [List.mem_singleton.1 hs]; exact mem_caFoot.2 (.inl rfl)))⟩)
  clear hN hnew hm hbk
  go_upto_region 4 with fail
  refine nameC (F := fun v => CaH W0 E H K M I cb G0 w0 v { c with e := ⟨if s.nw i = none then s.od i else c.e.nst, c.e.ost⟩ } n { s with od := updO s.od (s.nw i) (s.od i) } fr G a ids lst ∧ Blk v xb 58 #[.int .u64 ((s.ent i).key : Int), .int .u64 ((s.ent i).val : Int), .int .u64 ((s.ent i).hash : Int), .int .i64 (lkI (s.nw i)), .int .i64 (lkI (s.od i))]) HN.out ?_
  clear kz kc x3 x4
  rintro w2 ⟨hh, hx⟩
  obtain ⟨c1, hc1⟩ : ∃ c1 : CaC, c1 = { c with e := ⟨if s.nw i = none then s.od i else c.e.nst, c.e.ost⟩ } := ⟨_, rfl⟩
  obtain ⟨s1, hs1⟩ : ∃ s1 : SlF, s1 = { s with od := updO s.od (s.nw i) (s.od i) } := ⟨_, rfl⟩
  rw [← hc1, ← hs1] at hh
  replace HH := qd hh
  replace HX := qd hx
  clear hh hx HN hnn
  cases hnn : s.od i with
  | none =>
   have x3 := HX.out.cell 3
   have x4 := HX.out.cell 4
   simp only [gl] at x3 x4
   rw [hnn] at x4
   have hlk : lkI none = -1 := rfl
   rw [hlk] at x4
   clear hlk
   have hbk := HH.out.blk
   unfold CaC.cells at hbk
   have kz := hbk.frozen 4
   have kc := hbk.cell 4
   simp only [gl] at kc
   have hnew := hbk.set_ 4 (.int .i64 (lkI (s.nw i)))
   have hm := (Mod.refl [cb] w2).sl 4 (.int .i64 (lkI (s.nw i)))
   simp only [pt] at hnew
   have hN := HH.out.setB (c' := { c1 with e := ⟨c1.e.nst, s.nw i⟩ }) (by unfold CaC.cells; exact hnew) hm ⟨rfl, rfl, rfl⟩
   have hc2 : ({ c1 with e := ⟨c1.e.nst, s.nw i⟩ } : CaC) = { c with e := leaveE c.e s i } := by
    rw [hc1]; unfold leaveE; simp [hnn]
   have hs2 : s1 = leaveS s i := by
    rw [hs1]; unfold leaveS; simp [hnn, updO]
   rw [hc2, hs2] at hN
   have HN := qd hN
   clear hN hnew hm hbk hc2 hs2
   go_wp2
   go_end0
   exact ⟨rfl, HN.out⟩
  | some j =>
   have x3 := HX.out.cell 3
   have x4 := HX.out.cell 4
   simp only [gl] at x3 x4
   rw [hnn] at x4
   have hlk : lkI (some j) = (j : Int) := rfl
   rw [hlk] at x4
   clear hlk
   obtain ⟨hjn, hj0⟩ : j < n ∧ j = j := ⟨Hod.out j hnn, rfl⟩
   have hj1 : ¬ (j : Int) = -1 := by omega
   have hj2 : (0 : Int) ≤ (j : Int) := by omega
   have hj3 : (j : Int) < (n : Int) := by omega
   have hbk := HH.out.blk
   unfold CaC.cells at hbk
   have k1 := hbk.cell 1
   simp only [gl] at k1
   have hsv : c1.sv = c.sv := by rw [hc1]
   rw [hsv, HGv.out] at k1
   have kz := HH.out.frozen (hsv.trans HGv.out) (j * 5 + 3)
   have kc : w2.cell? ⟨g, j * 5 + 3, none⟩ = some (.int .i64 (lkI (s1.nw j))) := HH.out.slot (hsv.trans HGv.out) hjn 3 (by decide)
   have hN := (HH.out.below (Below.refl _ _).drew).setS (s' := { s1 with nw := upd s1.nw j (s.nw i) }) (hsv.trans HGv.out) hjn 3 (by decide) (.int .i64 (lkI (s.nw i))) (fun k => by
    unfold upd SlF.cells
    by_cases hk : k = j
    ·subst hk; simp
    ·simp [hk])
   have hm : Mod [g] w2 ((w2.drew).setCell ⟨g, j * 5 + 3, none⟩ (.int .i64 (lkI (s.nw i)))) := ((Mod.of_below (Below.refl _ _).drew [g]).sl (j * 5 + 3) _)
   have hc2 : c1 = { c with e := leaveE c.e s i } := by
    rw [hc1]; unfold leaveE; simp [hnn]
   have hs2 : ({ s1 with nw := upd s1.nw j (s.nw i) } : SlF) = leaveS s i := by
    rw [hs1]; unfold leaveS; simp [hnn, updO]
   rw [hs2] at hN
   have HN := qd (show CaH W0 E H K M I cb G0 w0 _ { c with e := leaveE c.e s i } n (leaveS s i) fr G a ids lst from hc2 ▸ hN)
   clear hN hm hbk hj0 hsv hc2 hs2
   go_upto_region 6 with fail
   refine rT (fun (w' : World) => w'.cell? ⟨cb, 1, none⟩ = some (.slice (some ⟨g, 0, none⟩) n cap) ∧ w'.cell? ⟨xb, 4, none⟩ = some (.int .i64 (j : Int)) ∧ w'.cell? ⟨xb, 3, none⟩ = some (.int .i64 (lkI (s.nw i))) ∧ w'.frozen? ⟨g, j * 5 + 3, none⟩ = false ∧ w'.cell? ⟨g, j * 5 + 3, none⟩ = some (.int .i64 (lkI (s1.nw j)))) [10] ?_
   have hHeld := (⟨k1, x4, x3, kz, kc⟩ : _ ∧ _ ∧ _ ∧ _ ∧ _)
   refine vW 0 rfl ?_
   refine vW 1 rfl ?_
   refine vW 2 rfl ?_
   refine vT 3 rfl ?_
   refine vW 4 rfl ?_
   refine vT 5 rfl ?_
   refine vW 6 rfl ?_
   refine vT 7 rfl ?_
   refine vW 8 rfl ?_
   refine vW 9 rfl ?_
   refine nT 10 rfl fun K hK => ?_
   go_simp
   refine kO hK ?_
   clear hK K
   refine doneT (by kernel_rfl) ?_ _
   go_wp2
   go_end0
   exact ⟨rfl, HN.out⟩
 | some j =>
  have x3 := HX.out.cell 3
  have x4 := HX.out.cell 4
  simp only [gl] at x3 x4
  rw [hnn] at x3
  have hlk : lkI (some j) = (j : Int) := rfl
  rw [hlk] at x3
  clear hlk
  obtain ⟨hjn, hj0⟩ : j < n ∧ j = j := ⟨Hnw.out j hnn, rfl⟩
  have hj1 : ¬ (j : Int) = -1 := by omega
  have hj2 : (0 : Int) ≤ (j : Int) := by omega
  have hj3 : (j : Int) < (n : Int) := by omega
  have hbk := HH.out.blk
  unfold CaC.cells at hbk
  have k1 := hbk.cell 1
  simp only [gl] at k1
  have hsv : c.sv = c.sv := rfl
  rw [hsv, HGv.out] at k1
  have kz := HH.out.frozen (hsv.trans HGv.out) (j * 5 + 4)
  have kc : w1.cell? ⟨g, j * 5 + 4, none⟩ = some (.int .i64 (lkI (s.od j))) := HH.out.slot (hsv.trans HGv.out) hjn 4 (by decide)
  have hN := (HH.out.below (Below.refl _ _).drew).setS (s' := { s with od := upd s.od j (s.od i) }) (hsv.trans HGv.out) hjn 4 (by decide) (.int .i64 (lkI (s.od i))) (fun k => by
   unfold upd SlF.cells
   by_cases hk : k = j
   ·subst hk; simp
   ·simp [hk])
  have hm : Mod [g] w1 ((w1.drew).setCell ⟨g, j * 5 + 4, none⟩ (.int .i64 (lkI (s.od i)))) := ((Mod.of_below (Below.refl _ _).drew [g]).sl (j * 5 + 4) _)
  have HN := qd (show CaH W0 E H K M I cb G0 w0 _ { c with e := ⟨if s.nw i = none then s.od i else c.e.nst, c.e.ost⟩ } n { s with od := updO s.od (s.nw i) (s.od i) } fr G a ids lst ∧ Blk _ xb 58 #[.int .u64 ((s.ent i).key : Int), .int .u64 ((s.ent i).val : Int), .int .u64 ((s.ent i).hash : Int), .int .i64 (lkI (s.nw i)), .int .i64 (lkI (s.od i))] from ⟨by rw [hnn, if_neg (by simp)]; exact hN, HX.out.mod hm (fun hs => HXn.out.1 (by rw [List.mem_singleton.1 hs]; exact mem_caFoot.2 (.inr (.inl (by rw [HGv.out]; rfl)))))⟩)
  clear hN hm hbk hj0 hsv
  go_upto_region 3 with fail
  refine rT (fun (w' : World) => w'.cell? ⟨cb, 1, none⟩ = some (.slice (some ⟨g, 0, none⟩) n cap) ∧ w'.cell? ⟨xb, 3, none⟩ = some (.int .i64 (j : Int)) ∧ w'.cell? ⟨xb, 4, none⟩ = some (.int .i64 (lkI (s.od i))) ∧ w'.frozen? ⟨g, j * 5 + 4, none⟩ = false ∧ w'.cell? ⟨g, j * 5 + 4, none⟩ = some (.int .i64 (lkI (s.od j)))) [10] ?_
  have hHeld := (⟨k1, x3, x4, kz, kc⟩ : _ ∧ _ ∧ _ ∧ _ ∧ _)
  refine vW 0 rfl ?_
  refine vW 1 rfl ?_
  refine vW 2 rfl ?_
  refine vT 3 rfl ?_
  refine vW 4 rfl ?_
  refine vT 5 rfl ?_
  refine vW 6 rfl ?_
  refine vT 7 rfl ?_
  refine vW 8 rfl ?_
  refine vW 9 rfl ?_
  refine nT 10 rfl fun K hK => ?_
  go_simp
  refine kO hK ?_
  clear hK K
  refine doneT (by kernel_rfl) ?_ _
  go_upto_region 4 with fail
  refine nameC (F := fun v => CaH W0 E H K M I cb G0 w0 v { c with e := ⟨if s.nw i = none then s.od i else c.e.nst, c.e.ost⟩ } n { s with od := updO s.od (s.nw i) (s.od i) } fr G a ids lst ∧ Blk v xb 58 #[.int .u64 ((s.ent i).key : Int), .int .u64 ((s.ent i).val : Int), .int .u64 ((s.ent i).hash : Int), .int .i64 (lkI (s.nw i)), .int .i64 (lkI (s.od i))]) HN.out ?_
  clear kz kc k1 x3 x4 hj1 hj2 hj3 hjn
  rintro w2 ⟨hh, hx⟩
  obtain ⟨c1, hc1⟩ : ∃ c1 : CaC, c1 = { c with e := ⟨if s.nw i = none then s.od i else c.e.nst, c.e.ost⟩ } := ⟨_, rfl⟩
  obtain ⟨s1, hs1⟩ : ∃ s1 : SlF, s1 = { s with od := updO s.od (s.nw i) (s.od i) } := ⟨_, rfl⟩
  rw [← hc1, ← hs1] at hh
  replace HH := qd hh
  replace HX := qd hx
  clear hh hx HN hnn
  cases hnn : s.od i with
  | none =>
   have x3 := HX.out.cell 3
   have x4 := HX.out.cell 4
   simp only [gl] at x3 x4
   rw [hnn] at x4
   have hlk : lkI none = -1 := rfl
   rw [hlk] at x4
   clear hlk
   have hbk := HH.out.blk
   unfold CaC.cells at hbk
   have kz := hbk.frozen 4
   have kc := hbk.cell 4
   simp only [gl] at kc
   have hnew := hbk.set_ 4 (.int .i64 (lkI (s.nw i)))
   have hm := (Mod.refl [cb] w2).sl 4 (.int .i64 (lkI (s.nw i)))
   simp only [pt] at hnew
   have hN := HH.out.setB (c' := { c1 with e := ⟨c1.e.nst, s.nw i⟩ }) (by unfold CaC.cells; exact hnew) hm ⟨rfl, rfl, rfl⟩
   have hc2 : ({ c1 with e := ⟨c1.e.nst, s.nw i⟩ } : CaC) = { c with e := leaveE c.e s i } := by
    rw [hc1]; unfold leaveE; simp [hnn]
   have hs2 : s1 = leaveS s i := by
    rw [hs1]; unfold leaveS; simp [hnn, updO]
   rw [hc2, hs2] at hN
   have HN := qd hN
   clear hN hnew hm hbk hc2 hs2
   go_wp2
   go_end0
   exact ⟨rfl, HN.out⟩
  | some j =>
   have x3 := HX.out.cell 3
   have x4 := HX.out.cell 4
   simp only [gl] at x3 x4
   rw [hnn] at x4
   have hlk : lkI (some j) = (j : Int) := rfl
   rw [hlk] at x4
   clear hlk
   obtain ⟨hjn, hj0⟩ : j < n ∧ j = j := ⟨Hod.out j hnn, rfl⟩
   have hj1 : ¬ (j : Int) = -1 := by omega
   have hj2 : (0 : Int) ≤ (j : Int) := by omega
   have hj3 : (j : Int) < (n : Int) := by omega
   have hbk := HH.out.blk
   unfold CaC.cells at hbk
   have k1 := hbk.cell 1
   simp only [gl] at k1
   have hsv : c1.sv = c.sv := by rw [hc1]
   rw [hsv, HGv.out] at k1
   have kz := HH.out.frozen (hsv.trans HGv.out) (j * 5 + 3)
   have kc : w2.cell? ⟨g, j * 5 + 3, none⟩ = some (.int .i64 (lkI (s1.nw j))) := HH.out.slot (hsv.trans HGv.out) hjn 3 (by decide)
   have hN := (HH.out.below (Below.refl _ _).drew).setS (s' := { s1 with nw := upd s1.nw j (s.nw i) }) (hsv.trans HGv.out) hjn 3 (by decide) (.int .i64 (lkI (s.nw i))) (fun k => by
    unfold upd SlF.cells
    by_cases hk : k = j
    ·subst hk; simp
    ·simp [hk])
   have hm : Mod [g] w2 ((w2.drew).setCell ⟨g, j * 5 + 3, none⟩ (.int .i64 (lkI (s.nw i)))) := ((Mod.of_below (Below.refl _ _).drew [g]).sl (j * 5 + 3) _)
   have hc2 : c1 = { c with e := leaveE c.e s i } := by
    rw [hc1]; unfold leaveE; simp [hnn]
   have hs2 : ({ s1 with nw := upd s1.nw j (s.nw i) } : SlF) = leaveS s i := by
    rw [hs1]; unfold leaveS; simp [hnn, updO]
   rw [hs2] at hN
   have HN := qd (show CaH W0 E H K M I cb G0 w0 _ { c with e := leaveE c.e s i } n (leaveS s i) fr G a ids lst from hc2 ▸ hN)
   clear hN hm hbk hj0 hsv hc2 hs2
   go_upto_region 6 with fail
   refine rT (fun (w' : World) => w'.cell? ⟨cb, 1, none⟩ = some (.slice (some ⟨g, 0, none⟩) n cap) ∧ w'.cell? ⟨xb, 4, none⟩ = some (.int .i64 (j : Int)) ∧ w'.cell? ⟨xb, 3, none⟩ = some (.int .i64 (lkI (s.nw i))) ∧ w'.frozen? ⟨g, j * 5 + 3, none⟩ = false ∧ w'.cell? ⟨g, j * 5 + 3, none⟩ = some (.int .i64 (lkI (s1.nw j)))) [10] ?_
   have hHeld := (⟨k1, x4, x3, kz, kc⟩ : _ ∧ _ ∧ _ ∧ _ ∧ _)
   refine vW 0 rfl ?_
   refine vW 1 rfl ?_
   refine vW 2 rfl ?_
   refine vT 3 rfl ?_
   refine vW 4 rfl ?_
   refine vT 5 rfl ?_
   refine vW 6 rfl ?_
   refine vT 7 rfl ?_
   refine vW 8 rfl ?_
   refine vW 9 rfl ?_
   refine nT 10 rfl fun K hK => ?_
   go_simp
   refine kO hK ?_
   clear hK K
   refine doneT (by kernel_rfl) ?_ _
   go_wp2
   go_end0
   exact ⟨rfl, HN.out⟩
theorem ca_enter (h : CaH W0 E H K M I cb G0 w0 w c n s fr G a ids lst) (hi : i < n) (hns : ∀ j, c.e.nst = some j → j < n) : Calls Tryz.prog 19 #[.pointer (some ⟨cb, 0, none⟩), .int .i64 (i : Int)] w fun y w' => y = .returned undef ∧ CaH W0 E H K M I cb G0 w0 w' { c with e := enterE c.e i } n (enterS c.e s i) fr G a ids lst := by
 obtain ⟨g, cap, hgv, hg0, hg1, p0, p1, p2, p3, p4⟩ := slot_cells h hi
 have hi0 : (0 : Int) ≤ (i : Int) := by omega
 have hi1 : (i : Int) < (n : Int) := by omega
 have Hns := qd hns
 have hbk := h.blk
 unfold CaC.cells at hbk
 have k1 := hbk.cell 1
 have k3 := hbk.cell 3
 simp only [gl] at k1 k3
 clear hbk
 rw [hgv] at k1
 have kz3 := h.frozen hgv (i * 5 + 3)
 have kz4 := h.frozen hgv (i * 5 + 4)
 have hA := (h.below (Below.refl _ _).drew).setS (s' := { s with nw := upd s.nw i none }) hgv hi 3 (by decide) (.int .i64 (lkI (none))) (fun k => by
  unfold upd SlF.cells
  by_cases hk : k = i
  ·subst hk; simp
  ·simp [hk])
 have hB := hA.setS (s' := { s with nw := upd s.nw i none, od := upd s.od i c.e.nst }) hgv hi 4 (by decide) (.int .i64 (lkI (c.e.nst))) (fun k => by
  unfold upd SlF.cells
  by_cases hk : k = i
  ·subst hk; simp
  ·simp [hk])
 have HA := qd hB
 have HGv := qd hgv
 clear h hns hgv hA hB p0 p1 p2 hg0 hg1
 go_in
 go_upto_region 0 with fail
 refine rT (fun (w' : World) => w'.cell? ⟨cb, 1, none⟩ = some (.slice (some ⟨g, 0, none⟩) n cap) ∧ w'.cell? ⟨cb, 3, none⟩ = some (.int .i64 (lkI (c.e.nst))) ∧ w'.frozen? ⟨g, i * 5 + 3, none⟩ = false ∧ w'.frozen? ⟨g, i * 5 + 4, none⟩ = false ∧ w'.cell? ⟨g, i * 5 + 3, none⟩ = some (.int .i64 (lkI (s.nw i))) ∧ w'.cell? ⟨g, i * 5 + 4, none⟩ = some (.int .i64 (lkI (s.od i)))) [16, 19] ?_
 have hHeld := (⟨k1, k3, kz3, kz4, p3, p4⟩ : _ ∧ _ ∧ _ ∧ _ ∧ _ ∧ _)
 refine vW 0 rfl ?_
 refine vW 1 rfl ?_
 refine vW 2 rfl ?_
 refine vT 3 rfl ?_
 refine vW 4 rfl ?_
 refine vW 5 rfl ?_
 refine vW 6 rfl ?_
 refine vW 7 rfl ?_
 refine vT 8 rfl ?_
 refine vW 9 rfl ?_
 refine vW 10 rfl ?_
 refine vW 11 rfl ?_
 refine vW 12 rfl ?_
 refine vT 13 rfl ?_
 refine vW 14 rfl ?_
 refine vW 15 rfl ?_
 refine nT 16 rfl fun K hK => ?_
 go_simp
 refine kO hK ?_
 clear hK K
 refine vL 17 rfl ?_
 refine vL 18 rfl ?_
 refine nT 19 rfl fun K hK => ?_
 go_simp
 refine kO hK ?_
 clear hK K
 refine doneT (by kernel_rfl) ?_ _
 go_upto_region 1 with fail
 refine nameC (F := fun v => CaH W0 E H K M I cb G0 w0 v c n { s with nw := upd s.nw i none, od := upd s.od i c.e.nst } fr G a ids lst) HA.out ?_
 clear HA k1 k3 kz3 kz4 p3 p4
 rintro w1 hh
 obtain ⟨s1, hs1⟩ : ∃ s1 : SlF, s1 = { s with nw := upd s.nw i none, od := upd s.od i c.e.nst } := ⟨_, rfl⟩
 rw [← hs1] at hh
 have HH := qd hh
 have hbk := hh.blk
 unfold CaC.cells at hbk
 have k1 := hbk.cell 1
 have k3 := hbk.cell 3
 simp only [gl] at k1 k3
 clear hbk hh
 cases hnn : c.e.nst with
 | none =>
  rw [hnn] at k3
  have hlk : lkI none = -1 := rfl
  rw [hlk] at k3
  clear hlk
  have hbk := HH.out.blk
  unfold CaC.cells at hbk
  have kz := hbk.frozen 4
  have kc := hbk.cell 4
  simp only [gl] at kc
  have hnew := hbk.set_ 4 (.int .i64 (lkI (some i)))
  have hm := (Mod.refl [cb] w1).sl 4 (.int .i64 (lkI (some i)))
  simp only [pt] at hnew
  have hN := HH.out.setB (c' := { c with e := ⟨c.e.nst, some i⟩ }) (by unfold CaC.cells; exact hnew) hm ⟨rfl, rfl, rfl⟩
  have he : ({ c with e := ⟨c.e.nst, some i⟩ } : CaC) = { c with e := ⟨c.e.nst, if c.e.nst = none then some i else c.e.ost⟩ } := by simp [hnn]
  have hs : s1 = enterS c.e s i := by rw [hs1]; unfold enterS; simp [hnn, updO]
  rw [he, hs] at hN
  have HN := qd hN
  clear hN hnew hm hbk he hs hnn
  go_upto_region 4 with fail
  refine nameC (F := fun v => CaH W0 E H K M I cb G0 w0 v { c with e := ⟨c.e.nst, if c.e.nst = none then some i else c.e.ost⟩ } n (enterS c.e s i) fr G a ids lst) HN.out ?_
  clear HN kz kc k1 k3
  rintro w2 hh
  obtain ⟨c2, hc2⟩ : ∃ c2 : CaC, c2 = { c with e := ⟨c.e.nst, if c.e.nst = none then some i else c.e.ost⟩ } := ⟨_, rfl⟩
  rw [← hc2] at hh
  have hbk := hh.blk
  unfold CaC.cells at hbk
  have kz := hbk.frozen 3
  have kc := hbk.cell 3
  simp only [gl] at kc
  have hnew := hbk.set_ 3 (.int .i64 (lkI (some i)))
  have hm := (Mod.refl [cb] w2).sl 3 (.int .i64 (lkI (some i)))
  simp only [pt] at hnew
  have hN := hh.setB (c' := { c2 with e := ⟨some i, c2.e.ost⟩ }) (by unfold CaC.cells; exact hnew) hm ⟨rfl, rfl, rfl⟩
  have he : ({ c2 with e := ⟨some i, c2.e.ost⟩ } : CaC) = { c with e := enterE c.e i } := by rw [hc2]; rfl
  rw [he] at hN
  have HN := qd hN
  clear hN hnew hm hbk he hh hc2
  go_wp2
  go_end0
  exact ⟨rfl, HN.out⟩
 | some j =>
  rw [hnn] at k3
  have hlk : lkI (some j) = (j : Int) := rfl
  rw [hlk] at k3
  clear hlk
  have hjn : j < n := Hns.out j hnn
  have hj1 : ¬ (j : Int) = -1 := by omega
  have hj2 : (0 : Int) ≤ (j : Int) := by omega
  have hj3 : (j : Int) < (n : Int) := by omega
  rw [HGv.out] at k1
  have kz := HH.out.frozen HGv.out (j * 5 + 3)
  have kc : w1.cell? ⟨g, j * 5 + 3, none⟩ = some (.int .i64 (lkI (s1.nw j))) := HH.out.slot HGv.out hjn 3 (by decide)
  have hN := (HH.out.below (Below.refl _ _).drew).setS (s' := { s1 with nw := upd s1.nw j (some i) }) HGv.out hjn 3 (by decide) (.int .i64 (lkI (some i))) (fun k => by
   unfold upd SlF.cells
   by_cases hk : k = j
   ·subst hk; simp
   ·simp [hk])
  have he : c = { c with e := ⟨c.e.nst, if c.e.nst = none then some i else c.e.ost⟩ } := by rw [if_neg (by rw [hnn]; simp)]
  have hs : ({ s1 with nw := upd s1.nw j (some i) } : SlF) = enterS c.e s i := by rw [hs1]; unfold enterS; simp [hnn, updO]
  rw [hs] at hN
  have HN := qd (show CaH W0 E H K M I cb G0 w0 _ { c with e := ⟨c.e.nst, if c.e.nst = none then some i else c.e.ost⟩ } n (enterS c.e s i) fr G a ids lst from he ▸ hN)
  clear hN he hs hnn
  go_upto_region 3 with fail
  refine rT (fun (w' : World) => w'.cell? ⟨cb, 1, none⟩ = some (.slice (some ⟨g, 0, none⟩) n cap) ∧ w'.cell? ⟨cb, 3, none⟩ = some (.int .i64 (j : Int)) ∧ w'.frozen? ⟨g, j * 5 + 3, none⟩ = false ∧ w'.cell? ⟨g, j * 5 + 3, none⟩ = some (.int .i64 (lkI (s1.nw j)))) [11] ?_
  have hHeld := (⟨k1, k3, kz, kc⟩ : _ ∧ _ ∧ _ ∧ _)
  refine vW 0 rfl ?_
  refine vW 1 rfl ?_
  refine vW 2 rfl ?_
  refine vT 3 rfl ?_
  refine vW 4 rfl ?_
  refine vW 5 rfl ?_
  refine vW 6 rfl ?_
  refine vT 7 rfl ?_
  refine vW 8 rfl ?_
  refine vW 9 rfl ?_
  refine vW 10 rfl ?_
  refine nT 11 rfl fun K hK => ?_
  go_simp
  refine kO hK ?_
  clear hK K
  refine doneT (by kernel_rfl) ?_ _
  go_upto_region 4 with fail
  refine nameC (F := fun v => CaH W0 E H K M I cb G0 w0 v { c with e := ⟨c.e.nst, if c.e.nst = none then some i else c.e.ost⟩ } n (enterS c.e s i) fr G a ids lst) HN.out ?_
  clear HN kz kc k1 k3
  rintro w2 hh
  obtain ⟨c2, hc2⟩ : ∃ c2 : CaC, c2 = { c with e := ⟨c.e.nst, if c.e.nst = none then some i else c.e.ost⟩ } := ⟨_, rfl⟩
  rw [← hc2] at hh
  have hbk := hh.blk
  unfold CaC.cells at hbk
  have kz := hbk.frozen 3
  have kc := hbk.cell 3
  simp only [gl] at kc
  have hnew := hbk.set_ 3 (.int .i64 (lkI (some i)))
  have hm := (Mod.refl [cb] w2).sl 3 (.int .i64 (lkI (some i)))
  simp only [pt] at hnew
  have hN := hh.setB (c' := { c2 with e := ⟨some i, c2.e.ost⟩ }) (by unfold CaC.cells; exact hnew) hm ⟨rfl, rfl, rfl⟩
  have he : ({ c2 with e := ⟨some i, c2.e.ost⟩ } : CaC) = { c with e := enterE c.e i } := by rw [hc2]; rfl
  rw [he] at hN
  have HN := qd hN
  clear hN hnew hm hbk he hh hc2
  go_wp2
  go_end0
  exact ⟨rfl, HN.out⟩
theorem ca_use (h : CaH W0 E H K M I cb G0 w0 w c n s fr G a ids lst) (hi : i < n) (hnw : ∀ j, s.nw i = some j → j < n) (hod : ∀ j, s.od i = some j → j < n) (hns : ∀ j, (leaveE c.e s i).nst = some j → j < n) : Calls Tryz.prog 15 #[.pointer (some ⟨cb, 0, none⟩), .int .i64 (i : Int)] w fun y w' => y = .returned undef ∧ CaH W0 E H K M I cb G0 w0 w' { c with e := enterE (leaveE c.e s i) i } n (enterS (leaveE c.e s i) (leaveS s i) i) fr G a ids lst := by
 have HL := qd (ca_leave h hi hnw hod)
 have Hns := qd hns
 have Hi := qd hi
 clear h hnw hod hns hi
 go_in
 go_wp2_with fail
 refine HL.out.mono ?_
 rintro y w1 ⟨rfl, hh⟩
 have HE := qd (ca_enter hh Hi.out Hns.out)
 clear hh HL
 go_wp2_with fail
 refine HE.out.mono ?_
 rintro y w2 ⟨rfl, hh⟩
 have HN := qd hh
 clear hh HE
 go_wp2
 go_end0
 exact ⟨rfl, HN.out⟩
end
section
section
variable {W0 : World} {E : Nat → Addr} {H : Nat → Nat} {K M I b : Nat} {G : List Nat} {w : World} {a : Pool} {ids : List Nat} {its : List It} {gv : Nat} {lst : Cnt}
theorem rt_Last (h : RtAt W0 E H K M I b G w a ids its gv lst) : Calls Tryz.prog 36 #[.pointer (some ⟨b, 0, none⟩)] w fun y w' => y = .returned (cntV lst) ∧ Below w.heap.size w w' := by
 obtain ⟨C, GC, mb, hS, rfl, rfl⟩ := h
 have hbk := hS.blk.blk
 unfold RmC.cells at hbk
 have m17 := hbk.cell 17
 have m18 := hbk.cell 18
 have m19 := hbk.cell 19
 simp only [gl] at m17 m18 m19
 have hB := (Below.refl w.heap.size w).alloc (Nat.le_refl _) (.cells #[.int .i64 0, .int .i64 0, .int .i64 0] 51)
 have hX := Blk.new w 51 #[.int .i64 0, .int .i64 0, .int .i64 0]
 obtain ⟨W, hW⟩ : ∃ W, W = w.alloc (.cells #[.int .i64 0, .int .i64 0, .int .i64 0] 51) := ⟨_, rfl⟩
 rw [← hW] at hB hX
 replace m17 := cell_in hB m17
 replace m18 := cell_in hB m18
 replace m19 := cell_in hB m19
 obtain ⟨x0, x1, x2⟩ := hX.c3
 obtain ⟨f0, f1, f2⟩ := hX.f3
 have HW := qd hW
 have HB := qd hB
 unfold cntV
 clear hbk hS hW hB hX
 go_in
 go_upto_region 1 with fail
 rw [← HW.out]
 go_wp2
 refine bodyPost_ret (v := .agg #[.int .i64 C.last.p, .int .i64 C.last.v, .int .i64 C.last.u]) (by simp [results, Tryz.results36, go_sem, x0, x1, x2]) rfl ?_
 exact ⟨rfl, (((HB.out).setCell (p := ⟨w.heap.size, 0, none⟩) (Nat.le_refl _) _).setCell (p := ⟨w.heap.size, 1, none⟩) (Nat.le_refl _) _).setCell (p := ⟨w.heap.size, 2, none⟩) (Nat.le_refl _) _⟩
theorem rt_Config (h : RtAt W0 E H K M I b G w a ids its gv lst) : Calls Tryz.prog 16 #[.pointer (some ⟨b, 0, none⟩)] w fun y w' => y = .returned (cfgV (K : Int) (M : Int) (I : Int)) ∧ Below w.heap.size w w' := by
 obtain ⟨C, GC, mb, hS, rfl, rfl⟩ := h
 have hbk := hS.blk.blk
 unfold RmC.cells at hbk
 obtain ⟨m0, m1, m2⟩ := hbk.c3
 obtain ⟨g1, g2, g3⟩ := hS.cfg
 rw [g1] at m0
 rw [g2] at m1
 rw [g3] at m2
 have hB := (Below.refl w.heap.size w).alloc (Nat.le_refl _) (.cells #[.int .i64 0, .int .i64 0, .int .i64 0] 23)
 have hX := Blk.new w 23 #[.int .i64 0, .int .i64 0, .int .i64 0]
 obtain ⟨W, hW⟩ : ∃ W, W = w.alloc (.cells #[.int .i64 0, .int .i64 0, .int .i64 0] 23) := ⟨_, rfl⟩
 rw [← hW] at hB hX
 replace m0 := cell_in hB m0
 replace m1 := cell_in hB m1
 replace m2 := cell_in hB m2
 obtain ⟨x0, x1, x2⟩ := hX.c3
 obtain ⟨f0, f1, f2⟩ := hX.f3
 have HW := qd hW
 have HB := qd hB
 unfold cfgV
 clear hbk hS hW hB hX g1 g2 g3
 go_in
 go_upto_region 1 with fail
 rw [← HW.out]
 go_wp2
 refine bodyPost_ret (v := .agg #[.int .i64 (K : Int), .int .i64 (M : Int), .int .i64 (I : Int)]) (by simp [results, Tryz.results16, go_sem, x0, x1, x2]) rfl ?_
 exact ⟨rfl, (((HB.out).setCell (p := ⟨w.heap.size, 0, none⟩) (Nat.le_refl _) _).setCell (p := ⟨w.heap.size, 1, none⟩) (Nat.le_refl _) _).setCell (p := ⟨w.heap.size, 2, none⟩) (Nat.le_refl _) _⟩
end
end
section
variable {W0 w w0 : World} {E : Nat → Addr} {H : Nat → Nat} {I K M cb n : Nat} {G G0 fr ids : List Nat} {c : CaC} {s : SlF} {a : Pool} {lst : Cnt}
theorem ca_count (h : CaH W0 E H K M I cb G0 w0 w c n s fr G a ids lst) : Calls Tryz.prog 21 #[.pointer (some ⟨cb, 0, none⟩)] w fun y w' => y = .returned undef ∧ ∃ d, CaH W0 E H K M I cb G0 w0 w' { c with last := d } n s fr G a ids lst := by
 obtain ⟨d, hd⟩ : ∃ d, d = plusC c.last lst := ⟨_, rfl⟩
 have hp := fun (V : World) => meter_Plus c.last lst V
 rw [← hd] at hp
 unfold cntV at hp
 have HPl := qd hp
 have hhd := h.below (Below.refl _ _).drew
 have hls := rt_Last hhd.map
 unfold cntV at hls
 have HLs := qd hls
 have HH := qd hhd
 have hbk := h.blk
 unfold CaC.cells at hbk
 have k0 := hbk.cell 0
 have k7 := hbk.cell 7
 have k8 := hbk.cell 8
 have k9 := hbk.cell 9
 simp only [gl] at k0 k7 k8 k9
 clear hbk h hp hls hd hhd
 go_in
 go_upto_region 0 with fail
 refine rT (fun (w' : World) => w'.cell? ⟨cb, 0, none⟩ = some (.pointer (some ⟨c.pb, 0, none⟩)) ∧ w'.cell? ⟨cb, 7, none⟩ = some (.int .i64 c.last.p) ∧ w'.cell? ⟨cb, 8, none⟩ = some (.int .i64 c.last.v) ∧ w'.cell? ⟨cb, 9, none⟩ = some (.int .i64 c.last.u)) [13] ?_
 have hHeld := (⟨k0, k7, k8, k9⟩ : _ ∧ _ ∧ _ ∧ _)
 refine vW 0 rfl ?_
 refine vW 1 rfl ?_
 refine vW 2 rfl ?_
 refine vW 3 rfl ?_
 refine vT 4 rfl ?_
 refine vW 5 rfl ?_
 refine vW 6 rfl ?_
 refine vW 7 rfl ?_
 refine vT 8 rfl ?_
 refine nT 9 rfl fun K hK => ?_
 go_simp
 refine HLs.out.mono ?_
 rintro y w1 ⟨rfl, hb⟩
 have HH1 := qd (HH.out.below hb)
 have hl1 : cb < (World.drew w).heap.size := HH.out.blk.lt
 have q0 := (World.cell?_of_block (hb.block cb hl1)).trans k0
 have q7 := (World.cell?_of_block (hb.block cb hl1)).trans k7
 have q8 := (World.cell?_of_block (hb.block cb hl1)).trans k8
 have q9 := (World.cell?_of_block (hb.block cb hl1)).trans k9
 clear hb hl1 k0 k7 k8 k9
 have hHeld := (⟨q0, q7, q8, q9⟩ : _ ∧ _ ∧ _ ∧ _)
 refine kO hK ?_
 clear hK K
 refine nT 10 rfl fun K hK => ?_
 go_simp
 refine (HPl.out _).mono ?_
 rintro y w2 ⟨rfl, hb⟩
 have HH2 := qd (HH1.out.below hb)
 clear hb q0 q7 q8 q9
 have hbk := HH2.out.blk
 unfold CaC.cells at hbk
 have q0 := hbk.cell 0
 have q7 := hbk.cell 7
 have q8 := hbk.cell 8
 have q9 := hbk.cell 9
 simp only [gl] at q0 q7 q8 q9
 have f7 := hbk.frozen 7
 have f8 := hbk.frozen 8
 have f9 := hbk.frozen 9
 clear hbk
 have hHeld := (⟨q0, q7, q8, q9⟩ : _ ∧ _ ∧ _ ∧ _)
 refine kO hK ?_
 clear hK K
 refine vW 11 rfl ?_
 refine vW 12 rfl ?_
 refine nT 13 rfl fun K hK => ?_
 go_simp
 refine kO hK ?_
 clear hK K
 refine doneT (by kernel_rfl) ?_ _
 have hbk := HH2.out.blk
 unfold CaC.cells at hbk
 have hnew := ((hbk.set_ 7 (.int .i64 d.p)).set_ 8 (.int .i64 d.v)).set_ 9 (.int .i64 d.u)
 have hm := (((Mod.refl [cb] w2).sl 7 (.int .i64 d.p)).sl 8 (.int .i64 d.v)).sl 9 (.int .i64 d.u)
 simp only [pt] at hnew
 have HN := qd (HH2.out.setB (c' := { c with last := d }) (by unfold CaC.cells; exact hnew) hm ⟨rfl, rfl, rfl⟩)
 clear hbk hnew hm
 go_wp2
 go_end0
 exact ⟨rfl, d, HN.out⟩
theorem ca_find (h : CaH W0 E H K M I cb G0 w0 w c n s fr G a ids lst) (key : Nat) (h64 : H key < 18446744073709551616) (hv : ((look a.ents key).getD ⟨0, 0, 0⟩).val < 9223372036854775808) : Calls Tryz.prog 14 #[.pointer (some ⟨cb, 0, none⟩), .int .u64 (key : Int), .int .u64 (H key : Int)] w fun y w' => y = .returned (.tuple #[.int .i64 (((look a.ents key).getD ⟨0, 0, 0⟩).val : Int), .bool (look a.ents key).isSome]) ∧ ∃ d G' lst', CaH W0 E H K M I cb G0 w0 w' { c with last := d } n s fr G' a ids lst' := by
 obtain ⟨gu, hgu⟩ : ∃ gu, gu = ((look a.ents key).getD ⟨0, 0, 0⟩).val := ⟨_, rfl⟩
 obtain ⟨gi, hgi⟩ : ∃ gi, gi = (look a.ents key).isSome := ⟨_, rfl⟩
 rw [← hgu] at hv ⊢
 rw [← hgi]
 have hwr : IntKind.i64.wrap (gu : Int) = (gu : Int) := by rw [IntKind.wrap_i64]; omega
 have HG := qd (And.intro hgu hgi)
 have H64 := qd h64
 have HH := qd h
 have hbk := h.blk
 unfold CaC.cells at hbk
 have k7 := hbk.cell 7
 have k8 := hbk.cell 8
 have k9 := hbk.cell 9
 simp only [gl] at k7 k8 k9
 have f7 := hbk.frozen 7
 have f8 := hbk.frozen 8
 have f9 := hbk.frozen 9
 have hnew := ((hbk.set_ 7 (.int .i64 0)).set_ 8 (.int .i64 0)).set_ 9 (.int .i64 0)
 have hm := (((Mod.refl [cb] w).sl 7 (.int .i64 0)).sl 8 (.int .i64 0)).sl 9 (.int .i64 0)
 simp only [pt] at hnew
 have HN := qd (h.setB (c' := { c with last := ⟨0, 0, 0⟩ }) (by unfold CaC.cells; exact hnew) hm ⟨rfl, rfl, rfl⟩)
 clear h hbk hnew hm hgu hgi h64 hv HH
 go_in
 go_upto_region 2 with fail
 refine nameC (F := fun v => CaH W0 E H K M I cb G0 w0 v { c with last := ⟨0, 0, 0⟩ } n s fr G a ids lst) HN.out ?_
 clear HN k7 k8 k9 f7 f8 f9
 rintro w1 hh
 have hge := rt_Get hh.map key H64.out
 unfold getV at hge
 rw [← HG.out.1, ← HG.out.2] at hge
 have HGe := qd hge
 have HH := qd hh
 have hbk := hh.blk
 unfold CaC.cells at hbk
 have k0 := hbk.cell 0
 simp only [gl] at k0
 clear hbk hh hge
 go_wp2_with fail
 refine HGe.out.mono ?_
 rintro y w2 ⟨rfl, lst', hto⟩
 obtain ⟨G', h2⟩ := HH.out.setM hto
 have HCo := qd (ca_count h2)
 clear hto h2 k0 HGe
 go_wp2_with fail
 refine HCo.out.mono ?_
 rintro y w3 ⟨rfl, d, h3⟩
 have HN := qd h3
 clear h3 HCo
 go_wp2
 refine bodyPost_ret (v := .tuple #[.int .i64 (gu : Int), .bool gi]) (by simp [results, Tryz.results14, go_sem]) rfl ⟨rfl, _, _, _, HN.out⟩
theorem ca_LenH (h : CaH W0 E H K M I cb G0 w0 w c n s fr G a ids lst) : Calls Tryz.prog 10 #[.pointer (some ⟨cb, 0, none⟩)] w fun y w' => y = .returned (.int .i64 (a.ents.length : Int)) ∧ w = w' := by
 obtain ⟨N, hN⟩ : ∃ N, N = a.ents.length := ⟨_, rfl⟩
 have hle := rt_Len h.map
 rw [← hN] at hle ⊢
 have HL := qd hle
 have hbk := h.blk
 unfold CaC.cells at hbk
 have k0 := hbk.cell 0
 simp only [gl] at k0
 clear hbk h hle hN
 go_in
 go_wp2_with fail
 refine HL.out.mono ?_
 rintro y w1 ⟨rfl, rfl⟩
 go_wp2
 go_ret
 exact ⟨rfl, rfl⟩
end
end Go.Proofs.YtfcecmcnmgagnaaGreatDoor
