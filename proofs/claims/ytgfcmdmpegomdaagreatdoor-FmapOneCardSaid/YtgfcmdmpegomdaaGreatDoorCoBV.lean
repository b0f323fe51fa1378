/- A scheduler's others by its contract. -/
import Derived.Test.YtgfcmdmpegomdaaGreatDoorCoBU
import Derived.Test.YtgfcmdmpegomdaaGreatDoorSqM
import Derived.Test.YtgfcmdmpegomdaaGreatDoorLaneP
namespace Go.Proofs.YtgfcmdmpegomdaaGreatDoor
set_option maxRecDepth 100000
set_option maxHeartbeats 4000000
open Go.RowKit AmC
variable {w : World} {jb qb rb sb : Nat} {b k : Int} {val : Nat → Value} {ids : List Nat}
def intAt (w : World) (p : Addr) : Nat := match w.cell? p with | some (.int _ n) => n.toNat | _ => 0
def schMeas (sb qb : Nat) (w : World) : Nat := intAt w ⟨sb, 5, none⟩ + intAt w ⟨qb, 2, none⟩
theorem SchAt.meas {c : Nat} (h : SchAt w sb qb rb jb k (c : Int) val ids) : schMeas sb qb w = c + ids.length := by
 obtain ⟨s, h1⟩ := h.blk
 obtain ⟨ring, first, h2⟩ := h.que
 have c5 := Blk.cell h1 5
 have c2 := h2.blk.cell 2
 simp only [gl] at c5 c2
 unfold schMeas intAt
 rw [c5, c2]
 simp
theorem sch_cells (h : SchAt w sb qb rb jb k b val ids) : w.cell? ⟨sb, 3, none⟩ = some (.pointer (some ⟨qb, 0, none⟩)) ∧ w.cell? ⟨sb, 4, none⟩ = some (.map (some jb)) := by
 obtain ⟨s, h1⟩ := h.blk
 exact ⟨Blk.cell h1 3, Blk.cell h1 4⟩
theorem SchAt.head {id : Nat} (h : SchAt w sb qb rb jb k b val (id :: ids)) : Calls Tryz.prog 203 #[.pointer (some ⟨qb, 0, none⟩)] w fun e w' => e = .returned (.tuple #[.int .i64 (id : Int), .bool true]) ∧ w.drew = w' := by
 obtain ⟨ring, first, h2⟩ := h.que
 exact queue_Head qb rb ring first id ids w h2
theorem SchAt.head_no (h : SchAt w sb qb rb jb k b val []) : Calls Tryz.prog 203 #[.pointer (some ⟨qb, 0, none⟩)] w fun e w' => e = .returned (.tuple #[.int .i64 0, .bool false]) ∧ w = w' := by
 obtain ⟨ring, first, h2⟩ := h.que
 exact queue_Head_no qb rb ring first [] w h2
theorem SchAt.balance (h : SchAt w sb qb rb jb k b val ids) : Calls Tryz.prog 204 #[.pointer (some ⟨sb, 5, none⟩)] w fun e w' => e = .returned (.int .i64 b) ∧ w = w' := by
 obtain ⟨s, h1⟩ := h.blk
 exact credit_Balance sb b w h1
theorem sched_others {W0 : World} {E : Nat → Addr} {P : MP} {α : Type} {jt : Nat → TypeId} {ja : Nat → Addr} {At : World → List Nat → α → Prop} {can : α → Nat → Prop} {left : α → Nat → Nat} {Stp : α → Nat → α → Prop} (HP : PoolOk W0 E P jt ja At can left Stp) (s : SP) (F : List Nat) (c0 : Nat) (hc : c0 ≤ 64) (ids : List Nat) (a : α) (x : Mtr) (hval : ∀ id, s.val id = .iface (jt id) (.pointer (some (ja id)))) (hcan : ∀ id ∈ ids, can a id ∧ id ≤ 1000) (w : World) (h : SchSt W0 E P At s w F w (c0 : Int) ids a F x) :
  Calls Tryz.prog 156 #[schP s.sb, mtrP P] w fun e w' => ∃ A cc ended ids' a' F' x' b', e = .returned (.slice A ended.length cc) ∧ w'.ownsRow w.heap.size 3 1 (.slice A ended.length cc) ended.length (intVals ended) ∧ Oth left Stp c0 ids a ended ids' a' ∧ SchSt W0 E P At s w F w' b' ids' a' F' x' ∧ Cost x x' 0 c0 ∧ RowAp P s F' (.slice A ended.length cc) := by
 have hval := qd hval
 have hlen := qd h.sch.many
 have H0 := qd h
 have Hcan := qd hcan
 obtain ⟨F0, hF0⟩ : ∃ F0, F0 = F := ⟨_, rfl⟩
 unfold schP mtrP
 clear h hcan
 rw [← hF0] at H0 ⊢
 clear hF0
 go_in
 go_wp2
 go_loopw [5, 6, 7] (fun v5 _ _ wr => ∃ (c : Nat) (ids1 e1 : List Nat) (a1 : α) (F1 : List Nat) (x1 : Mtr) (u : Nat), Hid (SchSt W0 E P At s w F0 wr (c : Int) ids1 a1 F1 x1) ∧ wr.ownsRow w.heap.size 3 1 v5 e1.length (intVals e1) ∧ Hid (∀ e ids' a', Oth left Stp c ids1 a1 e ids' a' → Oth left Stp c0 ids a (e1 ++ e) ids' a') ∧ (u + c = c0 ∧ e1.length + ids1.length = ids.length) ∧ (∀ id ∈ ids1, can a1 id ∧ id ≤ 1000) ∧ Cost x x1 0 u ∧ Hid (RowAp P s F1 v5)) (fun _ _ _ wr => schMeas s.sb s.qb wr)
 case atStart => exact ⟨c0, ids, [], a, F0, x, 0, H0, ⟨rfl, .inl ⟨rfl, rfl⟩⟩, qd (fun _ _ _ h => h), ⟨by omega, by simp⟩, Hcan.out, Cost.refl x, qd (fun g hg => by cases hg)⟩
 case round =>
  obtain ⟨c, ids1, e1, a1, F1, x1, u, HS, hO, hK, hu, hcan, hCo, hRA⟩ := hrel
  obtain ⟨A, vc, rfl⟩ := own_form hO
  have hE1 := HS.out.sch.many
  have HM0 := qd HS.out.sch.meas
  obtain ⟨hu, hE2⟩ := hu
  rcases ids1 with _ | ⟨id, ids1⟩
  ·have HH := qd HS.out.sch.head_no
   have HF := qd (hK.out _ _ _ (Oth.nil c a1))
   have HO := qd hO
   have HC := qd hCo
   have hu2 : u ≤ c0 := by omega
   obtain ⟨cs3, cs4⟩ := sch_cells HS.out.sch
   clear hO hCo hcan
   go_wp2_with fail
   refine HH.out.mono ?_
   rintro x w1 ⟨rfl, rfl⟩
   go_wp2
   go_ret
   exact ⟨A, vc, e1, [], a1, F1, x1, _, rfl, HO.out, by simpa using HF.out, HS.out, HC.out.mono (Nat.le_refl _) hu2, hRA.out⟩
  ·have HH := qd HS.out.sch.head
   obtain ⟨cs3, cs4⟩ := sch_cells HS.out.sch
   have HO := qd hO
   have HC := qd hCo
   have HCan := qd hcan
   have hlo := hO.lt
   clear hO hCo hcan
   go_wp2_with fail
   refine HH.out.mono ?_
   rintro x w1 ⟨rfl, hdr⟩
   have hb1 : Below wr.heap.size wr w1 := hdr ▸ (Below.refl _ _).drew
   clear hdr
   replace HS := qd (HS.out.below HP hb1)
   replace HO := qB hb1 HO
   clear cs3 cs4 HH
   obtain ⟨cs3, cs4⟩ := sch_cells HS.out.sch
   have HB := qd HS.out.sch.balance
   go_wp2_with fail
   refine HB.out.mono ?_
   rintro x w2 ⟨rfl, rfl⟩
   rcases c with _ | c
   ·have HF := qd (hK.out _ _ _ (Oth.broke (id :: ids1) a1))
    have hu2 : u ≤ c0 := by omega
    clear hK HB
    simp only [Int.ofNat_zero] at *
    go_wp2
    go_ret
    exact ⟨A, vc, e1, _, a1, F1, x1, _, rfl, HO.out, by simpa using HF.out, HS.out, HC.out.mono (Nat.le_refl _) hu2, hRA.out⟩
   ·have hc0 : ¬ ((c + 1 : Nat) : Int) = 0 := by omega
    have hcid := HCan.out id (by simp)
    have hl := HP.left_ HS.out.pool hcid.1
    have HJ := qd (HP.jt_ hcid.1)
    obtain ⟨Fl, hFl⟩ : ∃ Fl, Fl = leftF (jt id) := ⟨_, rfl⟩
    rw [← hFl] at hl
    have HFl := qd hFl.symm
    have HL := qd hl
    have HWf := qd (int_wf id hcid.2)
    have HMp := qd HS.out.sch.map
    have HV := qd (show jobsF s.val (id :: ids1) (id : Int) = some (.iface (jt id) (.pointer (some (ja id)))) from by rw [jobsF_at (by simp), hval.out])
    have hle := HP.le HS.out.pool hcid.1
    have HCi := qd hcid
    obtain ⟨lf, hlf⟩ : ∃ lf, lf = left a1 id := ⟨_, rfl⟩
    rw [← hlf] at HL hle
    have HLf := qd hlf
    clear hl hFl hcid HB hlf
    go_wp2_with (at_lookup; refine wpList_job rfl _ _ rfl rfl HMp.out _ rfl HWf.out _ HV.out ?_)
    rw [run_leftF HJ.out, Result.andThen_ok, run_leftC HJ.out]
    rw [show leftF (jt id) = Fl from HFl.out]
    rw [Oper.upon_enter]
    refine HL.out.mono ?_
    rintro x w3 ⟨rfl, hb3⟩
    replace HS := qd (HS.out.below HP hb3)
    replace HO := qB hb3 HO
    replace HMp := qd HS.out.sch.map
    have hsz3 := HS.out.size
    clear HL cs3 cs4 hb3 HFl
    obtain ⟨cs3, cs4⟩ := sch_cells HS.out.sch
    rcases Nat.eq_zero_or_pos lf with h0 | h1
    ·subst h0
     have HF0 := qd (show left a1 id = 0 from HLf.out.symm)
     have HR := qd (remove_yes HP s F0 F1 ((c + 1 : Nat) : Int) (id :: ids1) a1 x1 id (by simp) HCi.out.2 w3 HS.out)
     simp only [List.erase_cons_head] at HR
     simp only [Int.ofNat_zero] at *
     go_wp2_with fail
     refine HR.out.mono ?_
     rintro x w4 ⟨rfl, hs4, hm4⟩
     have hO4 := own_far HO.out hm4 (fun g hg hq => hRA.out g hg (by simp [hq]))
     have hz4 := hm4.size
     clear hm4 HS HO HR cs3 cs4 HMp
     have hsz4 := hs4.size
     have HS4 := qd hs4
     clear hs4
     have he40 : e1.length + 1 ≤ 100 := by have := hlen.out; omega
     go_wp2_with (at_builtin; refine wpList_append1 rfl rfl slty_int hO4 rfl rfl rfl rfl rfl (by omega) (by omega) ?_; intro v4 w5 hown4 hgr4; obtain ⟨A4, c4, rfl⟩ := own_form hown4)
     obtain ⟨hs5, hra5⟩ := HS4.out.app HP hO4 (Nat.le_refl _) hRA.out hgr4
     go_roundw
     case rel => exact ⟨c + 1, ids1, e1 ++ [id], a1, F1, x1, u, qd hs5, by simpa [intVals] using hown4, qd (fun e ids' a' hh => by rw [List.append_assoc]; exact hK.out _ _ _ (.ended HF0.out hh)), ⟨by omega, by simp at hE2 ⊢; omega⟩, fun i hi => HCan.out i (by simp [hi]), HC.out, qd (by simpa using hra5)⟩
     case measure =>
      rw [hs5.sch.meas, HM0.out]
      simp
    ·have hl1 : ¬ (lf : Int) < 1 := by omega
     have HSt := qd (step_yes HP s F0 F1 c (by omega) (id :: ids1) a1 x1 id HCi.out.1 (by rw [← HLf.out]; exact h1) w3 HS.out)
     unfold mtrP at HSt
     go_wp2_with (at_lookup; refine wpList_job rfl _ _ rfl rfl HMp.out _ rfl HWf.out _ HV.out ?_)
     refine HSt.out.mono ?_
     rintro x w4 ⟨rfl, a2, F2, x2, hst, hco, hs4, hF2, hm4⟩
     have hO4 := own_far HO.out hm4 hRA.out
     have hra4 := hRA.out.step HO.out hF2
     have HRel := qd (And.intro hs4 (And.intro hO4 (And.intro hra4 (And.intro hst hco))))
     have hz4 := hm4.size
     clear hs4 hO4 hra4 hst hco hm4 hF2
     go_wp2
     go_roundw
     case rel => exact ⟨c, id :: ids1, e1, a2, F2, x2, u + 1, qd HRel.out.1, HRel.out.2.1, qd (fun e ids' a' hh => hK.out _ _ _ (.step (by rw [← HLf.out]; exact h1) HRel.out.2.2.2.1 hh)), ⟨by omega, by omega⟩, fun i hi => ⟨HP.can_ HRel.out.2.2.2.1 (HCan.out i hi).1, (HCan.out i hi).2⟩, (HC.out.trans HRel.out.2.2.2.2).mono (by omega) (by omega), qd HRel.out.2.2.1⟩
     case measure =>
      rw [HRel.out.1.sch.meas, HM0.out]
      omega
end Go.Proofs.YtgfcmdmpegomdaaGreatDoor
