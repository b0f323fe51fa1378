/- amblernum.SameEntries: of two rows of the same entries. -/
import Derived.Test.YtcgjgfgkdoohlaaGreatDoorRefA
import Derived.Test.YtcgjgfgkdoohlaaGreatDoorLaneP
namespace Go.Proofs.YtcgjgfgkdoohlaaGreatDoor
set_option maxRecDepth 100000
set_option maxHeartbeats 2000000
open Go.RowKit AmC
theorem num_SameEntries (A B : Option Addr) (c d : Nat) (es : List Ent) (w : World) (hA : Reads w w.heap.size 3 A es.length (es.flatMap entCells)) (hB : Reads w w.heap.size 3 B es.length (es.flatMap entCells)) (h9 : es.length ≤ 1000) :
  Calls Tryz.prog 27 #[.slice A es.length c, .slice B es.length d] w fun e w' => e = .returned (.bool true) ∧ Below w.heap.size w w' := by
 have HA := qd hA
 have HB := qd hB
 obtain ⟨n, hn⟩ : ∃ n, n = es.length := ⟨_, rfl⟩
 rw [← hn] at h9 ⊢
 have HN := qd hn
 clear hA hB hn
 go_in
 go_wp2
 go_loopw [5, 6, 14] (fun _ _ v14 wr => ∃ j : Nat, j ≤ n ∧ v14 = .int .i64 (j : Int) ∧ Hid (Below w.heap.size w wr)) (fun _ _ v14 _ => n - (intOf v14).toNat)
 case atStart => exact ⟨0, by omega, rfl, qd (Below.refl _ _)⟩
 case round =>
  obtain ⟨j, hj, rfl, HW⟩ := hrel
  by_cases hlt : j < n
  ·have hlt' : (j : Int) < (n : Int) := by omega
   have hj0 : (0 : Int) ≤ (j : Int) := by omega
   obtain ⟨e, he⟩ : ∃ e, es[j]? = some e := ⟨_, List.getElem?_eq_getElem (by have := HN.out; omega)⟩
   obtain ⟨g, off, hAv, hg, m0, m1, m2⟩ := ents_read HA.out rfl he
   obtain ⟨g', off', hBv, hg', k0, k1, k2⟩ := ents_read HB.out rfl he
   have r0 := (World.cell?_of_block (HW.out.block g hg)).trans m0
   have r1 := (World.cell?_of_block (HW.out.block g hg)).trans m1
   have r2 := (World.cell?_of_block (HW.out.block g hg)).trans m2
   have HJ := qd (Nat.succ_le_of_lt hlt)
   have HMe := qd (round_less hlt)
   have HAv := qd hAv
   have HBv := qd hBv
   subst hAv
   subst hBv
   have HK0 := qd k0
   have HK1 := qd k1
   have HK2 := qd k2
   clear m0 m1 m2 k0 k1 k2 he
   go_upto_region 6 with fail
   refine nameB 37 #[.int .u64 (e.key : Int), .int .u64 (e.val : Int), .int .u64 (e.hash : Int)] ?_
   rintro w5 ⟨hB5, hb5⟩
   replace HW := qd (below2 HW.out hb5)
   have r3 := (World.cell?_of_block (HW.out.block g' hg')).trans HK0.out
   have r4 := (World.cell?_of_block (HW.out.block g' hg')).trans HK1.out
   have r5 := (World.cell?_of_block (HW.out.block g' hg')).trans HK2.out
   obtain ⟨bx, hbx⟩ : ∃ bx, bx = wr.heap.size := ⟨_, rfl⟩
   rw [← hbx] at hB5 ⊢
   obtain ⟨x0, x1, x2⟩ := hB5.c3
   clear hB5 hb5 r0 r1 r2 hbx
   replace HW := qd HW.out.drew
   go_region
   go_wp2
   go_roundw
   all_goals first | exact ⟨⟨j + 1, HJ.out, rfl, HW⟩, HMe.out⟩ | exact ⟨j + 1, HJ.out, rfl, HW⟩ | exact HMe.out
  ·obtain rfl : j = n := by omega
   have hlt' : ¬ (j : Int) < (j : Int) := by omega
   go_wp2
   go_ret
   exact ⟨rfl, HW.out⟩
end Go.Proofs.YtcgjgfgkdoohlaaGreatDoor
