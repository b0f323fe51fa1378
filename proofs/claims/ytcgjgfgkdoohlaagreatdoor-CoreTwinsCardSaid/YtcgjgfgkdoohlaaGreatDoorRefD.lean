/- amblerref21.Map: Put. -/
import Derived.Test.YtcgjgfgkdoohlaaGreatDoorRefA
import Derived.Test.YtcgjgfgkdoohlaaGreatDoorSqT
import Derived.Test.YtcgjgfgkdoohlaaGreatDoorLaneP
namespace Go.Proofs.YtcgjgfgkdoohlaaGreatDoor
section
set_option maxRecDepth 100000
set_option maxHeartbeats 4000000
open Go.RowKit AmC
variable {es : List Ent} {j key : Nat} {e : Ent}
def without (es : List Ent) (key j : Nat) : List Ent := (es.take j).filter fun x => x.key != key
theorem without_yes (hj : es[j]? = some e) (h : e.key ≠ key) : without es key (j + 1) = without es key j ++ [e] := by
 unfold without
 rw [List.take_add_one, hj, List.filter_append]
 simp [h]
theorem without_no (hj : es[j]? = some e) (h : e.key = key) : without es key (j + 1) = without es key j := by
 unfold without
 rw [List.take_add_one, hj, List.filter_append]
 simp [h]
theorem without_len (es : List Ent) (key j : Nat) : (without es key j).length ≤ es.length := by
 unfold without
 exact Nat.le_trans (List.length_filter_le _ _) (by rw [List.length_take]; omega)
theorem find_iff {y : Int} (h : FindPost es key y) (hnd : (es.map Ent.key).Nodup) {k : Nat} (hk : es[k]? = some e) : (k : Int) = y ↔ e.key = key := by
 rcases h with ⟨i, e1, h1, h2, rfl, _⟩ | ⟨h1, rfl⟩
 ·constructor
  ·intro hh
   have : k = i := by omega
   subst this
   rw [h1] at hk; cases hk; exact h2
  ·intro hh
   have : k = i := by
    have g1 : (es.map Ent.key)[k]? = some key := by rw [List.getElem?_map, hk]; simp [hh]
    have g2 : (es.map Ent.key)[i]? = some key := by rw [List.getElem?_map, h1]; simp [h2]
    exact (List.getElem?_inj (by rw [List.length_map]; exact get_lt hk) hnd).1 (g1.trans g2.symm)
   omega
 ·constructor
  ·intro hh; omega
  ·intro hh; exact absurd hh (h1 e (List.mem_of_getElem? hk))
theorem ent_one (e : Ent) : ((entCells e).all fun u => u.oneCell') = true := by simp [entCells, Value.oneCell']
def RefTo (w : World) (mb M : Nat) (es : List Ent) (w' : World) : Prop := (∃ A c, Blk w' mb 57 #[.slice A es.length c, .int .i64 (M : Int)] ∧ w'.ownsRow w.heap.size 37 3 (.slice A es.length c) es.length (es.flatMap entCells)) ∧ Mod [mb] w w'
theorem ref_Put_full (mb c M : Nat) (A : Option Addr) (es : List Ent) (e : Ent) (w : World) (base : Nat) (hB : Blk w mb 57 #[.slice A es.length c, .int .i64 (M : Int)]) (hO : w.ownsRow base 37 3 (.slice A es.length c) es.length (es.flatMap entCells)) (h9 : es.length ≤ 1000) (hk : ∀ e' ∈ es, e'.key ≠ e.key) (hf : M ≤ es.length) :
  Calls Tryz.prog 48 #[.pointer (some ⟨mb, 0, none⟩), entV e] w fun x w' => x = .returned (.int .i64 2) ∧ Below w.heap.size w w' := by
 have HR := qd (Reads.of_own hO)
 have HB := qd hB
 have hbm := hB.lt
 have HE0 := qd (Blk.new w 37 #[.int .u64 (e.key : Int), .int .u64 (e.val : Int), .int .u64 (e.hash : Int)])
 have HW0 := qd ((Below.refl w.heap.size w).alloc (Nat.le_refl _) (.cells #[.int .u64 (e.key : Int), .int .u64 (e.val : Int), .int .u64 (e.hash : Int)] 37))
 unfold entV
 clear hB
 go_in
 go_upto_region 1 with fail
 refine nameW (F := fun v => Blk v w.heap.size 37 #[.int .u64 (e.key : Int), .int .u64 (e.val : Int), .int .u64 (e.hash : Int)] ∧ Below w.heap.size w v) ⟨HE0.out, HW0.out⟩ ?_
 clear HE0 HW0
 rintro w1 ⟨hE, hb⟩
 replace HB := qB hb HB
 replace HR := qd (HR.out.below hb)
 have hs1 := hb.size
 have HRm := qd (HR.out.more hs1)
 have HF := qd (ref_find mb c M A es e.key w1 HB.out HRm.out h9)
 have HE := qd hE
 have HW := qd hb
 obtain ⟨eb, heb⟩ : ∃ eb, eb = w.heap.size := ⟨_, rfl⟩
 rw [← heb] at hE HE ⊢
 have e0 := hE.cell 0
 simp only [List.getElem?_toArray, List.getElem?_cons_zero] at e0
 have heb2 : w.heap.size ≤ eb := by omega
 have heb3 : eb ≤ w.heap.size := by omega
 clear hE hb HRm heb
 go_wp2_with fail
 refine HF.out.mono ?_
 rintro x w2 ⟨y, rfl, hfp, hb⟩
 have hs2 := hb.size
 replace HB := qB hb HB
 replace HE := qB hb HE
 replace HR := qd (HR.out.below (hb.mono hs1))
 replace HW := qd (below2 HW.out hb)
 have HFp := qd hfp
 obtain ⟨c0, c1⟩ := HB.out.c2
 clear HF hb e0 hfp
 obtain ⟨hno, rfl⟩ : (∀ e' ∈ es, e'.key ≠ e.key) ∧ y = -1 := by
  rcases HFp.out with ⟨i, e1, h1, h2, _⟩ | h1
  ·exact absurd h2 (hk e1 (List.mem_of_getElem? h1))
  ·exact h1
 have hM : (M : Int) ≤ (es.length : Int) := by omega
 clear hno hk
 generalize es.length = n at *
 go_wp2
 go_region
 go_wp2
 go_ret
 exact ⟨rfl, HW.out.drew⟩
theorem ref_Put_ok (mb c M : Nat) (A : Option Addr) (es : List Ent) (e : Ent) (w : World) (base : Nat) (hB : Blk w mb 57 #[.slice A es.length c, .int .i64 (M : Int)]) (hO : w.ownsRow base 37 3 (.slice A es.length c) es.length (es.flatMap entCells)) (h9 : es.length ≤ 1000) (hnd : (es.map Ent.key).Nodup) (hk : (∃ e' ∈ es, e'.key = e.key) ∨ es.length < M) :
  Calls Tryz.prog 48 #[.pointer (some ⟨mb, 0, none⟩), entV e] w fun x w' => x = .returned (.int .i64 0) ∧ RefTo w mb M (without es e.key es.length ++ [e]) w' := by
 have HR := qd (Reads.of_own hO)
 have HB := qd hB
 have hbm := hB.lt
 have HE0 := qd (Blk.new w 37 #[.int .u64 (e.key : Int), .int .u64 (e.val : Int), .int .u64 (e.hash : Int)])
 have HW0 := qd ((Below.refl w.heap.size w).alloc (Nat.le_refl _) (.cells #[.int .u64 (e.key : Int), .int .u64 (e.val : Int), .int .u64 (e.hash : Int)] 37))
 unfold entV
 clear hB
 go_in
 go_upto_region 1 with fail
 refine nameW (F := fun v => Blk v w.heap.size 37 #[.int .u64 (e.key : Int), .int .u64 (e.val : Int), .int .u64 (e.hash : Int)] ∧ Below w.heap.size w v) ⟨HE0.out, HW0.out⟩ ?_
 clear HE0 HW0
 rintro w1 ⟨hE, hb⟩
 replace HB := qB hb HB
 replace HR := qd (HR.out.below hb)
 have hs1 := hb.size
 have HRm := qd (HR.out.more hs1)
 have HF := qd (ref_find mb c M A es e.key w1 HB.out HRm.out h9)
 have HE := qd hE
 have HW := qd hb
 obtain ⟨eb, heb⟩ : ∃ eb, eb = w.heap.size := ⟨_, rfl⟩
 rw [← heb] at hE HE ⊢
 have e0 := hE.cell 0
 simp only [List.getElem?_toArray, List.getElem?_cons_zero] at e0
 have heb2 : w.heap.size ≤ eb := by omega
 have heb3 : eb ≤ w.heap.size := by omega
 clear hE hb HRm heb
 go_wp2_with fail
 refine HF.out.mono ?_
 rintro x w2 ⟨y, rfl, hfp, hb⟩
 have hs2 := hb.size
 replace HB := qB hb HB
 replace HE := qB hb HE
 replace HR := qd (HR.out.below (hb.mono hs1))
 replace HW := qd (below2 HW.out hb)
 have HFp := qd hfp
 obtain ⟨c0, c1⟩ := HB.out.c2
 clear HF hb e0 hfp
 have hcase : ¬ y < 0 ∨ (y = -1 ∧ ¬ (M : Int) ≤ (es.length : Int)) := by
  rcases HFp.out with ⟨i, e1, h1, h2, h3, _⟩ | ⟨h1, h2⟩
  ·exact .inl (by omega)
  ·rcases hk with ⟨e', h3, h4⟩ | h3
   ·exact absurd h4 (h1 e' h3)
   ·exact .inr ⟨h2, by omega⟩
 rcases hcase with hi0 | ⟨rfl, hM⟩
 ·have hdI : decide (y < 0) = false := decide_eq_false hi0
  have hi1 : (0 : Int) ≤ y := by omega
  generalize hn : es.length = n at *
  have HN := qd hn
  clear hn
  go_wp2
  go_region
  go_upto_region 5 with fail
  refine nameW (F := fun v => Below w2.heap.size w2 v ∧ v.ownsRow w2.heap.size 37 3 (.slice (some ⟨w2.heap.size, 0, none⟩) 0 0) 0 []) ⟨(Below.refl w2.heap.size w2).drew.alloc (Nat.le_refl _) _, own_none w2.drew w2.heap.size 37 3 (Nat.le_refl _)⟩ ?_
  rintro w3 ⟨hb3, ho3⟩
  obtain ⟨rb, hrb⟩ : ∃ rb, rb = w2.heap.size := ⟨_, rfl⟩
  rw [show (some ⟨w2.heap.size, 0, none⟩ : Option Addr) = some ⟨rb, 0, none⟩ by rw [hrb]] at ho3
  rw [← hrb]
  have HO3 := qd ho3
  have HB0 := HB
  have HEb := HE
  replace HB := qB hb3 HB
  replace HE := qB hb3 HE
  replace HR := qd (HR.out.below (hb3.mono (by omega)))
  replace HW := qd (below2 HW.out hb3)
  clear c0 c1
  have hmb2 := HB0.out.lt
  have heb4 := HEb.out.lt
  clear HB0 HEb
  have c0 := HB.out.cell 0
  simp only [List.getElem?_toArray, List.getElem?_cons_zero] at c0
  have hs3 := hb3.size
  clear hb3 ho3 hrb
  go_wp2
  go_loopw [6, 7, 8, 33] (fun v6 _ _ v33 wr => ∃ j : Nat, j ≤ n ∧ v33 = .int .i64 (j : Int) ∧ Hid (wr.ownsRow w2.heap.size 37 3 v6 (without es e.key j).length ((without es e.key j).flatMap entCells)) ∧ Hid (Below w2.heap.size w3 wr)) (fun _ _ _ v33 _ => n - (intOf v33).toNat)
  case atStart => exact ⟨0, Nat.zero_le _, rfl, HO3, qd (Below.refl _ _)⟩
  case round =>
   clear HO3
   obtain ⟨j, hj, rfl, HO, HWr⟩ := hrel
   by_cases hlt : j < n
   ·have hlt' : (j : Int) < (n : Int) := by omega
    have hj0 : (0 : Int) ≤ (j : Int) := by omega
    obtain ⟨e1, he1⟩ : ∃ e1, es[j]? = some e1 := ⟨_, List.getElem?_eq_getElem (by have := HN.out; omega)⟩
    obtain ⟨g, off, hA, hg, m0, m1, m2⟩ := ents_read HR.out HN.out he1
    have r0 := (World.cell?_of_block (HWr.out.block g (by omega))).trans m0
    have r1 := (World.cell?_of_block (HWr.out.block g (by omega))).trans m1
    have r2 := (World.cell?_of_block (HWr.out.block g (by omega))).trans m2
    have HE1 := qd he1
    have HI := qd (find_iff HFp.out hnd he1)
    have hsr := HWr.out.size
    subst hA
    obtain ⟨A6, c6, hv6⟩ := own_form HO.out
    subst hv6
    clear m0 m1 m2 he1 c0
    go_upto_region 8 with fail
    refine nameB 37 #[.int .u64 (e1.key : Int), .int .u64 (e1.val : Int), .int .u64 (e1.hash : Int)] ?_
    rintro w5 ⟨hB5, hb5⟩
    obtain ⟨bx, hbx⟩ : ∃ bx, bx = wr.heap.size := ⟨_, rfl⟩
    rw [← hbx] at hB5 ⊢
    have a := hB5.c3
    have HW5 := qd (HWr.out.trans (hb5.mono (by omega)))
    have HO5 := qd (own_below HO.out hb5 (Nat.le_refl _))
    have hs5 := hb5.size
    have hbl := hB5.lt
    clear hB5 hb5 r0 r1 r2 hbx HO
    have HJ := qd (Nat.succ_le_of_lt hlt)
    have HMe := qd (round_less hlt)
    by_cases hk1 : e1.key = e.key
    ·have hk' : (j : Int) = y := HI.out.2 hk1
     have HWo := qd (without_no HE1.out hk1)
     replace HO5 := qd (show w5.ownsRow w2.heap.size 37 3 (.slice A6 (without es e.key j).length c6) (without es e.key (j + 1)).length ((without es e.key (j + 1)).flatMap entCells) from by rw [HWo.out]; exact HO5.out)
     first | (exfalso; omega) | subst hk'
     all_goals go_wp2
     all_goals go_roundw
     all_goals first | exact ⟨⟨j + 1, HJ.out, rfl, HO5, HW5⟩, HMe.out⟩ | exact ⟨j + 1, HJ.out, rfl, HO5, HW5⟩ | exact HMe.out
    ·have hk' : ¬ (j : Int) = y := fun h => hk1 (HI.out.1 h)
     have HWo := qd (without_yes HE1.out hk1)
     have HWl := qd (without_len es e.key j)
     have hN2 := Blk.new w5 37 #[.int .u64 (e1.key : Int), .int .u64 (e1.val : Int), .int .u64 (e1.hash : Int)]
     have hO2 := HO5.out.alloc (.cells #[.int .u64 (e1.key : Int), .int .u64 (e1.val : Int), .int .u64 (e1.hash : Int)] 37)
     have hW2 := HW5.out.alloc (by omega) (.cells #[.int .u64 (e1.key : Int), .int .u64 (e1.val : Int), .int .u64 (e1.hash : Int)] 37)
     have hwl : (without es e.key j).length + 1 < 33554432 := by have := HWl.out; have := HN.out; omega
     clear HO5 HW5
     go_wp2_with (at_builtin; refine wpList_app (by rfl) (by rfl) slty_Ent hO2 (by rfl) (by rfl) (reads_blk (size := 3) (m := 1) hN2 (by rfl)) (by rfl) hwl (by simp; omega) ?_; intro v4 w4 hown4 hgr4)
     have HO4 := qd (show w4.ownsRow w2.heap.size 37 3 v4 (without es e.key (j + 1)).length ((without es e.key (j + 1)).flatMap entCells) from by
      rw [HWo.out, List.length_append, List.flatMap_append]
      simpa [entCells] using hown4)
     have HW4 := qd (hW2.trans hgr4.below)
     clear hown4 hgr4 hN2 hO2 hW2
     go_roundw
     all_goals first | exact ⟨_, _, _, _, ⟨j + 1, HJ.out, rfl, HO4, HW4⟩, rfl, rfl, rfl, rfl⟩ | exact ⟨⟨j + 1, HJ.out, rfl, HO4, HW4⟩, HMe.out⟩ | exact ⟨j + 1, HJ.out, rfl, HO4, HW4⟩ | exact HMe.out
   ·obtain rfl : j = n := by omega
    have hlt' : ¬ (j : Int) < (j : Int) := by omega
    have hsr := HWr.out.size
    have hN2 := Blk.new wr 37 #[.int .u64 (e.key : Int), .int .u64 (e.val : Int), .int .u64 (e.hash : Int)]
    have hO2 := HO.out.alloc (.cells #[.int .u64 (e.key : Int), .int .u64 (e.val : Int), .int .u64 (e.hash : Int)] 37)
    have hW2 := HWr.out.alloc (by omega) (.cells #[.int .u64 (e.key : Int), .int .u64 (e.val : Int), .int .u64 (e.hash : Int)] 37)
    have hwl : (without es e.key j).length + 1 < 33554432 := by have := without_len es e.key j; have := HN.out; omega
    have hEr := HE.out.below HWr.out heb4
    have HB2 := qd (HB.out.below hW2 hmb2)
    obtain ⟨x0, x1, x2⟩ := hEr.c3
    clear hEr c0
    go_wp2_with (at_builtin; refine wpList_app (by rfl) (by rfl) slty_Ent hO2 (by rfl) (by rfl) (reads_blk (size := 3) (m := 1) hN2 (by rfl)) (by rfl) hwl (by simp; omega) ?_; intro v4 w4 hown4 hgr4; obtain ⟨A4, c4, rfl⟩ := own_form hown4; have HO4 := qd hown4; have HG4 := qd hgr4; have HB4 := qd (HB2.out.below hgr4.below hmb2); have f0 := HB4.out.frozen 0; have c0 := HB4.out.cell 0; simp only [List.getElem?_toArray, List.getElem?_cons_zero] at c0; clear hown4 hgr4)
    go_ret
    refine ⟨rfl, ?_, ?_⟩
    ·have hlen : (without es e.key j).length + 1 = (without es e.key es.length ++ [e]).length := by rw [HN.out, List.length_append]; rfl
     have hcs : (without es e.key j).flatMap entCells ++ entCells e = (without es e.key es.length ++ [e]).flatMap entCells := by rw [HN.out, List.flatMap_append]; simp
     have h1 := HB4.out.set_ 0 (.slice A4 ((without es e.key j).length + 1) c4)
     simp only [List.setIfInBounds_toArray, List.set_cons_zero] at h1
     have h2 := own_mod HO4.out ((Mod.refl [mb] w4).sl 0 (.slice A4 ((without es e.key j).length + 1) c4)) (fun k hk => by rw [List.mem_singleton.1 hk]; exact hmb2)
     refine ⟨A4, c4, ?_, ?_⟩
     ·rw [← hlen]; exact h1
     ·rw [← hlen, ← hcs]; exact own_base h2 (by omega)
    ·have hbw : Below w.heap.size w w4 := (HW.out.trans ((hW2.trans HG4.out.below).mono (by omega)))
     exact (Mod.of_below hbw [mb]).set_ (.inl (by simp)) 0 _
 ·generalize hn : es.length = n at *
  have HN := qd hn
  clear hn
  go_wp2
  go_region
  go_upto_region 5 with fail
  refine nameW (F := fun v => Below w2.heap.size w2 v ∧ v.ownsRow w2.heap.size 37 3 (.slice (some ⟨w2.heap.size, 0, none⟩) 0 0) 0 []) ⟨(Below.refl w2.heap.size w2).drew.alloc (Nat.le_refl _) _, own_none w2.drew w2.heap.size 37 3 (Nat.le_refl _)⟩ ?_
  rintro w3 ⟨hb3, ho3⟩
  obtain ⟨rb, hrb⟩ : ∃ rb, rb = w2.heap.size := ⟨_, rfl⟩
  rw [show (some ⟨w2.heap.size, 0, none⟩ : Option Addr) = some ⟨rb, 0, none⟩ by rw [hrb]] at ho3
  rw [← hrb]
  have HO3 := qd ho3
  have HB0 := HB
  have HEb := HE
  replace HB := qB hb3 HB
  replace HE := qB hb3 HE
  replace HR := qd (HR.out.below (hb3.mono (by omega)))
  replace HW := qd (below2 HW.out hb3)
  clear c0 c1
  have hmb2 := HB0.out.lt
  have heb4 := HEb.out.lt
  clear HB0 HEb
  have c0 := HB.out.cell 0
  simp only [List.getElem?_toArray, List.getElem?_cons_zero] at c0
  have hs3 := hb3.size
  clear hb3 ho3 hrb
  go_wp2
  go_loopw [6, 7, 8, 33] (fun v6 _ _ v33 wr => ∃ j : Nat, j ≤ n ∧ v33 = .int .i64 (j : Int) ∧ Hid (wr.ownsRow w2.heap.size 37 3 v6 (without es e.key j).length ((without es e.key j).flatMap entCells)) ∧ Hid (Below w2.heap.size w3 wr)) (fun _ _ _ v33 _ => n - (intOf v33).toNat)
  case atStart => exact ⟨0, Nat.zero_le _, rfl, HO3, qd (Below.refl _ _)⟩
  case round =>
   clear HO3
   obtain ⟨j, hj, rfl, HO, HWr⟩ := hrel
   by_cases hlt : j < n
   ·have hlt' : (j : Int) < (n : Int) := by omega
    have hj0 : (0 : Int) ≤ (j : Int) := by omega
    obtain ⟨e1, he1⟩ : ∃ e1, es[j]? = some e1 := ⟨_, List.getElem?_eq_getElem (by have := HN.out; omega)⟩
    obtain ⟨g, off, hA, hg, m0, m1, m2⟩ := ents_read HR.out HN.out he1
    have r0 := (World.cell?_of_block (HWr.out.block g (by omega))).trans m0
    have r1 := (World.cell?_of_block (HWr.out.block g (by omega))).trans m1
    have r2 := (World.cell?_of_block (HWr.out.block g (by omega))).trans m2
    have HE1 := qd he1
    have HI := qd (find_iff HFp.out hnd he1)
    have hsr := HWr.out.size
    subst hA
    obtain ⟨A6, c6, hv6⟩ := own_form HO.out
    subst hv6
    clear m0 m1 m2 he1 c0
    go_upto_region 8 with fail
    refine nameB 37 #[.int .u64 (e1.key : Int), .int .u64 (e1.val : Int), .int .u64 (e1.hash : Int)] ?_
    rintro w5 ⟨hB5, hb5⟩
    obtain ⟨bx, hbx⟩ : ∃ bx, bx = wr.heap.size := ⟨_, rfl⟩
    rw [← hbx] at hB5 ⊢
    have a := hB5.c3
    have HW5 := qd (HWr.out.trans (hb5.mono (by omega)))
    have HO5 := qd (own_below HO.out hb5 (Nat.le_refl _))
    have hs5 := hb5.size
    have hbl := hB5.lt
    clear hB5 hb5 r0 r1 r2 hbx HO
    have HJ := qd (Nat.succ_le_of_lt hlt)
    have HMe := qd (round_less hlt)
    by_cases hk1 : e1.key = e.key
    ·have hk' : (j : Int) = -1 := HI.out.2 hk1
     have HWo := qd (without_no HE1.out hk1)
     replace HO5 := qd (show w5.ownsRow w2.heap.size 37 3 (.slice A6 (without es e.key j).length c6) (without es e.key (j + 1)).length ((without es e.key (j + 1)).flatMap entCells) from by rw [HWo.out]; exact HO5.out)
     first | (exfalso; omega) | subst hk'
     all_goals go_wp2
     all_goals go_roundw
     all_goals first | exact ⟨⟨j + 1, HJ.out, rfl, HO5, HW5⟩, HMe.out⟩ | exact ⟨j + 1, HJ.out, rfl, HO5, HW5⟩ | exact HMe.out
    ·have hk' : ¬ (j : Int) = -1 := fun h => hk1 (HI.out.1 h)
     have HWo := qd (without_yes HE1.out hk1)
     have HWl := qd (without_len es e.key j)
     have hN2 := Blk.new w5 37 #[.int .u64 (e1.key : Int), .int .u64 (e1.val : Int), .int .u64 (e1.hash : Int)]
     have hO2 := HO5.out.alloc (.cells #[.int .u64 (e1.key : Int), .int .u64 (e1.val : Int), .int .u64 (e1.hash : Int)] 37)
     have hW2 := HW5.out.alloc (by omega) (.cells #[.int .u64 (e1.key : Int), .int .u64 (e1.val : Int), .int .u64 (e1.hash : Int)] 37)
     have hwl : (without es e.key j).length + 1 < 33554432 := by have := HWl.out; have := HN.out; omega
     clear HO5 HW5
     go_wp2_with (at_builtin; refine wpList_app (by rfl) (by rfl) slty_Ent hO2 (by rfl) (by rfl) (reads_blk (size := 3) (m := 1) hN2 (by rfl)) (by rfl) hwl (by simp; omega) ?_; intro v4 w4 hown4 hgr4)
     have HO4 := qd (show w4.ownsRow w2.heap.size 37 3 v4 (without es e.key (j + 1)).length ((without es e.key (j + 1)).flatMap entCells) from by
      rw [HWo.out, List.length_append, List.flatMap_append]
      simpa [entCells] using hown4)
     have HW4 := qd (hW2.trans hgr4.below)
     clear hown4 hgr4 hN2 hO2 hW2
     go_roundw
     all_goals first | exact ⟨_, _, _, _, ⟨j + 1, HJ.out, rfl, HO4, HW4⟩, rfl, rfl, rfl, rfl⟩ | exact ⟨⟨j + 1, HJ.out, rfl, HO4, HW4⟩, HMe.out⟩ | exact ⟨j + 1, HJ.out, rfl, HO4, HW4⟩ | exact HMe.out
   ·obtain rfl : j = n := by omega
    have hlt' : ¬ (j : Int) < (j : Int) := by omega
    have hsr := HWr.out.size
    have hN2 := Blk.new wr 37 #[.int .u64 (e.key : Int), .int .u64 (e.val : Int), .int .u64 (e.hash : Int)]
    have hO2 := HO.out.alloc (.cells #[.int .u64 (e.key : Int), .int .u64 (e.val : Int), .int .u64 (e.hash : Int)] 37)
    have hW2 := HWr.out.alloc (by omega) (.cells #[.int .u64 (e.key : Int), .int .u64 (e.val : Int), .int .u64 (e.hash : Int)] 37)
    have hwl : (without es e.key j).length + 1 < 33554432 := by have := without_len es e.key j; have := HN.out; omega
    have hEr := HE.out.below HWr.out heb4
    have HB2 := qd (HB.out.below hW2 hmb2)
    obtain ⟨x0, x1, x2⟩ := hEr.c3
    clear hEr c0
    go_wp2_with (at_builtin; refine wpList_app (by rfl) (by rfl) slty_Ent hO2 (by rfl) (by rfl) (reads_blk (size := 3) (m := 1) hN2 (by rfl)) (by rfl) hwl (by simp; omega) ?_; intro v4 w4 hown4 hgr4; obtain ⟨A4, c4, rfl⟩ := own_form hown4; have HO4 := qd hown4; have HG4 := qd hgr4; have HB4 := qd (HB2.out.below hgr4.below hmb2); have f0 := HB4.out.frozen 0; have c0 := HB4.out.cell 0; simp only [List.getElem?_toArray, List.getElem?_cons_zero] at c0; clear hown4 hgr4)
    go_ret
    refine ⟨rfl, ?_, ?_⟩
    ·have hlen : (without es e.key j).length + 1 = (without es e.key es.length ++ [e]).length := by rw [HN.out, List.length_append]; rfl
     have hcs : (without es e.key j).flatMap entCells ++ entCells e = (without es e.key es.length ++ [e]).flatMap entCells := by rw [HN.out, List.flatMap_append]; simp
     have h1 := HB4.out.set_ 0 (.slice A4 ((without es e.key j).length + 1) c4)
     simp only [List.setIfInBounds_toArray, List.set_cons_zero] at h1
     have h2 := own_mod HO4.out ((Mod.refl [mb] w4).sl 0 (.slice A4 ((without es e.key j).length + 1) c4)) (fun k hk => by rw [List.mem_singleton.1 hk]; exact hmb2)
     refine ⟨A4, c4, ?_, ?_⟩
     ·rw [← hlen]; exact h1
     ·rw [← hlen, ← hcs]; exact own_base h2 (by omega)
    ·have hbw : Below w.heap.size w w4 := (HW.out.trans ((hW2.trans HG4.out.below).mono (by omega)))
     exact (Mod.of_below hbw [mb]).set_ (.inl (by simp)) 0 _
end
section
set_option maxRecDepth 100000
set_option maxHeartbeats 4000000
open Go.RowKit AmC
theorem size_EntK : ∀ w, (sizeOf 37).run Tryz.prog w = .ok 3 w := fun w => by kernel_rfl
theorem ents_all (es : List Ent) : ∀ u ∈ es.flatMap entCells, u.oneCell' = true := fun u hu => by
 obtain ⟨e, _, he⟩ := List.mem_flatMap.1 hu
 exact List.all_eq_true.1 (ent_one e) u he
theorem ents_take (es : List Ent) (j : Nat) : ((((es.flatMap entCells)).take j).all fun u => u.oneCell') = true := List.all_eq_true.2 fun u hu => ents_all es u (List.mem_of_mem_take hu)
theorem ents_drop (es : List Ent) (j : Nat) : ((((es.flatMap entCells)).drop j).all fun u => u.oneCell') = true := List.all_eq_true.2 fun u hu => ents_all es u (List.mem_of_mem_drop hu)
theorem ents_cells (es : List Ent) : (es.flatMap entCells).length = es.length * 3 := by
 induction es with
 | nil => rfl
 | cons x l ih => simp only [List.flatMap_cons, List.length_append, List.length_cons, ih]; simp [entCells]; omega
theorem ents_cut (es : List Ent) (i : Nat) : (es.flatMap entCells).take (i * 3) = (es.take i).flatMap entCells ∧ (es.flatMap entCells).drop (i * 3) = (es.drop i).flatMap entCells := by
 rcases Nat.lt_or_ge i es.length with h | h
 ·have h1 : es.flatMap entCells = (es.take i).flatMap entCells ++ (es.drop i).flatMap entCells := by rw [← List.flatMap_append, List.take_append_drop]
  have h2 : ((es.take i).flatMap entCells).length = i * 3 := by rw [ents_cells, List.length_take]; omega
  rw [h1, ← h2, List.take_left, List.drop_left]
  exact ⟨rfl, rfl⟩
 ·rw [List.take_of_length_le h, List.drop_of_length_le h, List.take_of_length_le (by rw [ents_cells]; omega), List.drop_of_length_le (by rw [ents_cells]; omega)]
  exact ⟨rfl, rfl⟩
theorem without_all {es : List Ent} {key i : Nat} {e : Ent} (hnd : (es.map Ent.key).Nodup) (hi : es[i]? = some e) (hk : e.key = key) : without es key es.length = es.take i ++ es.drop (i + 1) := by
 obtain ⟨h1, _⟩ := list_at hi
 unfold without
 rw [List.take_length]
 rw [h1, List.map_append, List.map_cons, List.nodup_append] at hnd
 obtain ⟨_, n2, n3⟩ := hnd
 have n4 := (List.nodup_cons.1 n2).1
 have f1 : (es.take i).filter (fun x => x.key != key) = es.take i := List.filter_eq_self.2 fun x hx => by
  have := n3 x.key (List.mem_map_of_mem hx) e.key (by simp)
  simpa [hk] using this
 have f2 : (es.drop (i + 1)).filter (fun x => x.key != key) = es.drop (i + 1) := List.filter_eq_self.2 fun x hx => by
  have : x.key ≠ key := fun hh => n4 (by rw [hk, ← hh]; exact List.mem_map_of_mem hx)
  simpa using this
 rw [show (es.filter fun x => x.key != key) = (es.take i ++ e :: es.drop (i + 1)).filter (fun x => x.key != key) by rw [← h1], List.filter_append, f1, List.filter_cons, if_neg (by simp [hk]), f2]
theorem ref_Delete_some (mb c M : Nat) (A : Option Addr) (es : List Ent) (key : Nat) (w : World) (base : Nat) (hB : Blk w mb 57 #[.slice A es.length c, .int .i64 (M : Int)]) (hO : w.ownsRow base 37 3 (.slice A es.length c) es.length (es.flatMap entCells)) (h9 : es.length ≤ 1000) (hnd : (es.map Ent.key).Nodup) (e0 : Ent) (h0 : e0 ∈ es) (hk0 : e0.key = key) :
  Calls Tryz.prog 49 #[.pointer (some ⟨mb, 0, none⟩), .int .u64 (key : Int)] w fun e w' => e = .returned (.tuple #[.int .u64 (((look es key).getD ⟨0, 0, 0⟩).val : Int), .bool (look es key).isSome]) ∧ RefTo w mb M (without es key es.length) w' := by
 have HF := qd (ref_find mb c M A es key w hB (Reads.of_own hO) h9)
 have HO := qd hO
 have HB := qd hB
 clear hB hO
 go_in
 go_wp2_with fail
 refine HF.out.mono ?_
 rintro x w1 ⟨y, rfl, hfp, hb⟩
 replace HB := qB hb HB
 replace HO := qd (own_below HO.out hb (Nat.le_refl _))
 have HW := qd hb
 clear HF
 obtain ⟨i, e, hi, hk, rfl, _⟩ : ∃ (i : Nat) (e : Ent), es[i]? = some e ∧ e.key = key ∧ y = (i : Int) ∧ True := by
  rcases hfp with ⟨i, e, h1, h2, h3, _⟩ | ⟨h1, _⟩
  ·exact ⟨i, e, h1, h2, h3, trivial⟩
  ·exact absurd hk0 (h1 e0 h0)
 have HLk := qd (show look es key = some e from by rw [← hk]; exact look_some hnd (List.mem_of_getElem? hi))
 have HWi := qd (without_all hnd hi hk)
 obtain ⟨g, off, rfl, hg, m0, m1, m2⟩ := ents_read (Reads.of_own HO.out) rfl hi
 have hcap : es.length ≤ c := by
  rcases own_caps HO.out with ⟨h1, _⟩ | ⟨_, _, h1, _⟩
  ·cases h1
  ·exact h1
 have hil : i < es.length := get_lt hi
 have hilI : (i : Int) < (es.length : Int) := by omega
 have hi0 : (0 : Int) ≤ (i : Int) := by omega
 have hi1 : ¬ (i : Int) < 0 := by omega
 have hmbl := HB.out.lt
 obtain ⟨X0, _, _, hs2, hr1⟩ := cut_own (t := 55) Tryz.underlying55 size_EntK HO.out (j := i) (by omega)
 obtain ⟨X, hs1, hr2, _, _⟩ := cut_own (t := 55) Tryz.underlying55 size_EntK HO.out (j := i + 1) (by omega)
 rw [show ((i + 1 : Nat) : Int) = (i : Int) + 1 by omega] at hs1
 obtain ⟨z, hz⟩ : ∃ z, z = es.length - (i + 1) := ⟨_, rfl⟩
 rw [← hz] at hs1 hr2
 have hz1 : z + (i + 1) = es.length := by omega
 obtain ⟨n, hn⟩ : ∃ n, n = es.length := ⟨_, rfl⟩
 have hcs : ([] ++ (es.flatMap entCells).take (i * 3)) ++ (es.flatMap entCells).drop ((i + 1) * 3) = (without es key n).flatMap entCells := by
  rw [hn, HWi.out, (ents_cut es i).1, (ents_cut es (i + 1)).2, List.flatMap_append]; rfl
 have hln : i + z = (without es key n).length := by
  rw [hn, HWi.out, List.length_append, List.length_take, List.length_drop]; omega
 have HCs := qd hcs
 have HLn := qd hln
 have c0 := HB.out.cell 0
 simp only [List.getElem?_toArray, List.getElem?_cons_zero] at c0
 rw [← hn] at c0 hs1 hs2 hilI hz1 hcap h9
 have HN := qd hn
 have hwi : IntKind.i64.wrap ((i : Int) + 1) = (i : Int) + 1 := by rw [IntKind.wrap_i64]; omega
 have hdz : Below w1.heap.size w1 w1.drew := (Below.refl _ _).drew
 clear hfp hb hi hk h0 hk0 hnd hz hn hcs hln hil HO
 go_wp2
 go_upto_region 5 with fail
 refine region_T (fun (w' : World) => w'.cell? ⟨mb, 0, none⟩ = some (.slice (some ⟨g, off, none⟩) n c)) [19] (by kernel_rfl) ?_
 try (change wpAnyT _ _ _ _ _ _ _ _ _ (World.drew _))
 have hHeld := c0
 refine vW 0 rfl ?_
 refine vW 2 rfl ?_
 refine vW 3 rfl ?_
 refine vW 4 rfl ?_
 refine vT 5 rfl ?_
 refine vW 6 rfl ?_
 refine vW 7 rfl ?_
 refine vW 9 rfl ?_
 refine vW 10 rfl ?_
 refine vW 11 rfl ?_
 refine vT 12 rfl ?_
 refine vW 13 rfl ?_
 refine vW 14 rfl ?_
 refine vW 15 rfl ?_
 refine nT 1 rfl fun K hK => ?_
 go_simp
 have hbz := hdz.alloc hdz.size (.cells #[] 37)
 have hoN := own_none w1.drew w1.heap.size 37 3 hdz.size
 have hc1 := (hbz.cell hmbl).trans c0
 have hHeld := hc1
 refine kO hK ?_
 clear hK K
 refine nT 8 rfl fun K hK => ?_
 refine step_app (by rfl) (by rfl) slty_Ent hoN (by rfl) (by rfl) ((hr1.below hbz).more hbz.size) (ents_take _ _) (by omega) hbz.size ?_
 intro v4 w4 ho4 hg4
 have hb4 := hbz.trans hg4.below
 have hc4 := (hb4.cell hmbl).trans c0
 have hHeld := hc4
 refine kO hK ?_
 clear hK K
 refine nT 16 rfl fun K hK => ?_
 refine step_app (by rfl) (by rfl) slty_Ent ho4 (by rfl) (by rfl) ((hr2.below hb4).more hb4.size) (ents_drop _ _) (by omega) hb4.size ?_
 intro v5 w5 ho5 hg5
 have hb5 := hb4.trans hg5.below
 have hc5 := (hb5.cell hmbl).trans c0
 have f5 : w5.frozen? ⟨mb, 0, none⟩ = false := (HB.out.below hb5 hmbl).frozen 0
 obtain ⟨A5, c5, rfl⟩ := own_form ho5
 rw [Nat.zero_add] at ho5
 have hHeld := hc5
 refine kO hK ?_
 clear hK K
 refine vW 17 rfl ?_
 refine vW 18 rfl ?_
 refine nT 19 rfl fun K hK => ?_
 go_simp
 refine kO hK ?_
 clear hK K
 refine doneT (by kernel_rfl) ?_ _
 go_wp2
 refine bodyPost_ret (v := .tuple #[.int .u64 (e.val : Int), .bool true]) (by simp [results, Tryz.results49, go_sem]) rfl ⟨?_, ⟨A5, c5, ?_, ?_⟩, ?_⟩
 ·rw [HLk.out]; rfl
 ·have h1 := (HB.out.below hb5 hmbl).set_ 0 (.slice A5 (i + z) c5)
  simp only [List.setIfInBounds_toArray, List.set_cons_zero] at h1
  rw [← HN.out, ← HLn.out]; exact h1
 ·rw [← HN.out, ← HLn.out, ← HCs.out]
  exact own_base (own_mod ho5 ((Mod.refl [mb] w5).sl 0 (.slice A5 (i + z) c5)) (fun k hk => by rw [List.mem_singleton.1 hk]; exact hmbl)) HW.out.size
 ·exact (Mod.of_below (below2 HW.out hb5) [mb]).set_ (.inl (by simp)) 0 _
theorem ref_Delete_none (mb c M : Nat) (A : Option Addr) (es : List Ent) (key : Nat) (w : World) (base : Nat) (hB : Blk w mb 57 #[.slice A es.length c, .int .i64 (M : Int)]) (hO : w.ownsRow base 37 3 (.slice A es.length c) es.length (es.flatMap entCells)) (h9 : es.length ≤ 1000) (hk : ∀ e ∈ es, e.key ≠ key) :
  Calls Tryz.prog 49 #[.pointer (some ⟨mb, 0, none⟩), .int .u64 (key : Int)] w fun e w' => e = .returned (.tuple #[.int .u64 (((look es key).getD ⟨0, 0, 0⟩).val : Int), .bool (look es key).isSome]) ∧ Below w.heap.size w w' := by
 have HF := qd (ref_find mb c M A es key w hB (Reads.of_own hO) h9)
 have HO := qd hO
 have HB := qd hB
 clear hB hO
 go_in
 go_wp2_with fail
 refine HF.out.mono ?_
 rintro x w1 ⟨y, rfl, hfp, hb⟩
 replace HB := qB hb HB
 replace HO := qd (own_below HO.out hb (Nat.le_refl _))
 have HW := qd hb
 clear HF
 obtain ⟨hno, rfl⟩ : (∀ e ∈ es, e.key ≠ key) ∧ y = -1 := by
  rcases hfp with ⟨i, e, h1, h2, _⟩ | h1
  ·exact absurd h2 (hk e (List.mem_of_getElem? h1))
  ·exact h1
 have HLk := qd (look_none hk)
 clear hfp hb hno hk
 go_wp2
 refine bodyPost_ret (v := .tuple #[.int .u64 0, .bool false]) (by simp [results, Tryz.results49, go_sem]) rfl ⟨?_, HW.out⟩
 rw [HLk.out]; rfl
end
end Go.Proofs.YtcgjgfgkdoohlaaGreatDoor
