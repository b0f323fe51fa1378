/- amblernum.Before; amblerref21.Map: Least. -/
import Derived.Test.YtcgjgfgkdoohlaaGreatDoorRefA
import Derived.Test.YtcgjgfgkdoohlaaGreatDoorSqT
import Derived.Test.YtcgjgfgkdoohlaaGreatDoorLaneP
import Derived.Test.YtcgjgfgkdoohlaaGreatDoorCoBV
namespace Go.Proofs.YtcgjgfgkdoohlaaGreatDoor
section
set_option maxRecDepth 100000
set_option maxHeartbeats 4000000
open Go.RowKit AmC
theorem less_cases (a b : Ent) : (a.hash ≠ b.hash ∧ lessE a b = decide (a.hash < b.hash)) ∨ (a.hash = b.hash ∧ lessE a b = decide (a.key < b.key)) := by
 by_cases h : a.hash = b.hash
 ·refine .inr ⟨h, ?_⟩
  rw [Bool.eq_iff_iff]
  simp [lessE]
  omega
 ·refine .inl ⟨h, ?_⟩
  rw [Bool.eq_iff_iff]
  simp [lessE]
  omega
theorem num_Before (a b : Ent) (w : World) : Calls Tryz.prog 54 #[entV a, entV b] w fun e w' => e = .returned (.bool (lessE a b)) ∧ Below w.heap.size w w' := by
 have HL := qd (less_cases a b)
 unfold entV
 have hA := Blk.alloc (Blk.new w 37 #[.int .u64 (a.key : Int), .int .u64 (a.val : Int), .int .u64 (a.hash : Int)]) (.cells #[.int .u64 (b.key : Int), .int .u64 (b.val : Int), .int .u64 (b.hash : Int)] 37)
 have hB := Blk.new (w.alloc (.cells #[.int .u64 (a.key : Int), .int .u64 (a.val : Int), .int .u64 (a.hash : Int)] 37)) 37 #[.int .u64 (b.key : Int), .int .u64 (b.val : Int), .int .u64 (b.hash : Int)]
 have hW := ((Below.refl w.heap.size w).alloc (Nat.le_refl _) (.cells #[.int .u64 (a.key : Int), .int .u64 (a.val : Int), .int .u64 (a.hash : Int)] 37)).alloc (by simp) (.cells #[.int .u64 (b.key : Int), .int .u64 (b.val : Int), .int .u64 (b.hash : Int)] 37)
 rw [World.size_alloc] at hB
 have HA := qd hA
 have HB := qd hB
 have HW := qd hW
 clear hA hB hW
 go_in
 go_upto_region 1 with fail
 refine nameW (F := fun v => Blk v w.heap.size 37 #[.int .u64 (a.key : Int), .int .u64 (a.val : Int), .int .u64 (a.hash : Int)] ∧ Blk v (w.heap.size + 1) 37 #[.int .u64 (b.key : Int), .int .u64 (b.val : Int), .int .u64 (b.hash : Int)] ∧ Below w.heap.size w v) ⟨HA.out, HB.out, HW.out⟩ ?_
 clear HA HB HW
 rintro w1 ⟨hA, hB, hb⟩
 have a0 := hA.cell 0
 have a2 := hA.cell 2
 have b0 := hB.cell 0
 have b2 := hB.cell 2
 simp only [gl] at a0 a2 b0 b2
 have HW := qd hb
 clear hA hB hb
 rcases HL.out with ⟨h1, h2⟩ | ⟨h1, h2⟩
 ·have h1' : ¬ (a.hash : Int) = (b.hash : Int) := by omega
  have HL2 := qd h2
  clear h2
  go_wp2
  go_ret
  exact ⟨ret_bool HL2.out.symm, HW.out⟩
 ·have h1' : (a.hash : Int) = (b.hash : Int) := by omega
  have HL2 := qd h2
  clear h2
  go_wp2
  go_ret
  exact ⟨ret_bool HL2.out.symm, HW.out⟩
theorem ref_Least (mb c M : Nat) (A : Option Addr) (es : List Ent) (key hash : Nat) (w : World) (hB : Blk w mb 57 #[.slice A es.length c, .int .i64 (M : Int)]) (hR : Reads w w.heap.size 3 A es.length (es.flatMap entCells)) (h9 : es.length ≤ 1000) :
  Calls Tryz.prog 51 #[.pointer (some ⟨mb, 0, none⟩), .int .u64 (hash : Int), .int .u64 (key : Int)] w fun e w' => ∃ o, e = .returned (.tuple #[entV (o.getD ⟨0, 0, 0⟩), .bool o.isSome]) ∧ IsLeast ⟨key, 0, hash⟩ es o ∧ Below w.heap.size w w' := by
 obtain ⟨n, hn⟩ : ∃ n, n = es.length := ⟨_, rfl⟩
 obtain ⟨fr, hfr⟩ : ∃ fr : Ent, fr = ⟨key, 0, hash⟩ := ⟨_, rfl⟩
 rw [← hn] at hB hR h9
 have c0 := hB.cell 0
 simp only [List.getElem?_toArray, List.getElem?_cons_zero] at c0
 rw [← hfr]
 have hmb := hB.lt
 have hb3 := (((Below.refl w.heap.size w).alloc (Nat.le_refl _) (.cells #[.int .u64 0, .int .u64 0, .int .u64 0] 37)).alloc (by simp) (.cells #[.int .u64 (key : Int), .int .u64 0, .int .u64 (hash : Int)] 37)).alloc (by simp; omega) (.cells #[.int .u64 0, .int .u64 0, .int .u64 0] 37)
 have hX := ((Blk.new w 37 #[.int .u64 0, .int .u64 0, .int .u64 0]).alloc (.cells #[.int .u64 (key : Int), .int .u64 0, .int .u64 (hash : Int)] 37)).alloc (.cells #[.int .u64 0, .int .u64 0, .int .u64 0] 37)
 have hF := (Blk.new (w.alloc (.cells #[.int .u64 0, .int .u64 0, .int .u64 0] 37)) 37 #[.int .u64 (key : Int), .int .u64 0, .int .u64 (hash : Int)]).alloc (.cells #[.int .u64 0, .int .u64 0, .int .u64 0] 37)
 have hO := Blk.new ((w.alloc (.cells #[.int .u64 0, .int .u64 0, .int .u64 0] 37)).alloc (.cells #[.int .u64 (key : Int), .int .u64 0, .int .u64 (hash : Int)] 37)) 37 #[.int .u64 0, .int .u64 0, .int .u64 0]
 simp only [World.size_alloc] at hF hO
 have HX := qd hX
 have HF := qd hF
 have HO := qd hO
 have HW := qd hb3
 have HB := qd hB
 have HR := qd hR
 have HN := qd hn
 have HFr := qd hfr
 clear hX hF hO hb3 hB hR hn hfr c0
 go_in
 go_upto_region 3 with fail
 refine nameW (F := fun v => Blk v w.heap.size 37 #[.int .u64 0, .int .u64 0, .int .u64 0] ∧ Blk v (w.heap.size + 1) 37 #[.int .u64 (key : Int), .int .u64 0, .int .u64 (hash : Int)] ∧ Blk v (w.heap.size + 1 + 1) 37 #[.int .u64 0, .int .u64 0, .int .u64 0] ∧ Below w.heap.size w v) ⟨HX.out, HF.out, HO.out, HW.out⟩ ?_
 clear HX HF HO HW
 rintro w1 ⟨hX, hF, hO, hb⟩
 obtain ⟨xb, hxb⟩ : ∃ xb, xb = w.heap.size := ⟨_, rfl⟩
 obtain ⟨fb, hfb⟩ : ∃ fb, fb = w.heap.size + 1 := ⟨_, rfl⟩
 obtain ⟨ob, hob⟩ : ∃ ob, ob = w.heap.size + 1 + 1 := ⟨_, rfl⟩
 rw [← hob] at hO ⊢
 rw [← hfb] at hF ⊢
 rw [← hxb] at hX
 rw [show (some ⟨w.heap.size, 0, none⟩ : Option Addr) = some ⟨xb, 0, none⟩ by rw [hxb]]
 have hxb1 : w.heap.size ≤ xb ∧ xb < fb ∧ fb < ob := by omega
 have hFV : Blk w1 fb 37 #[.int .u64 (fr.key : Int), .int .u64 (fr.val : Int), .int .u64 (fr.hash : Int)] := by rw [HFr.out]; exact hF
 have hOV : Blk w1 ob 37 (optCells none) := hO
 replace HB := qB hb HB
 have HX := qd hX
 have HF := qd hFV
 have HO := qd hOV
 have HW := qd hb
 have HX1 := qd hxb1
 have c0 := HB.out.cell 0
 simp only [List.getElem?_toArray, List.getElem?_cons_zero] at c0
 clear hX hF hO hb hxb hfb hob hxb1 hFV hOV
 go_wp2
 go_loopw [10, 12, 22] (fun v10 _ v22 wr => ∃ (j : Nat) (o : Option Ent), j ≤ n ∧ v22 = .int .i64 (j : Int) ∧ Hid (v10 = .bool o.isSome) ∧ Hid (IsLeast fr (es.take j) o) ∧ Hid (Blk wr xb 37 #[.int .u64 0, .int .u64 0, .int .u64 0]) ∧ Hid (Blk wr fb 37 #[.int .u64 (fr.key : Int), .int .u64 (fr.val : Int), .int .u64 (fr.hash : Int)]) ∧ Hid (Blk wr ob 37 (optCells o)) ∧ Hid (Below w.heap.size w wr)) (fun _ _ v22 _ => n - (intOf v22).toNat)
 case atStart => exact ⟨0, none, by omega, rfl, qd rfl, qd (fun e he => by simp at he), HX, HF, HO, HW⟩
 case round =>
  clear HX HF HO HW c0
  obtain ⟨j, o, hj, rfl, HIs, HL, HX, HF, HO, HW⟩ := hrel
  by_cases hlt : j < n
  ·have hlt' : (j : Int) < (n : Int) := by omega
   have hj0 : (0 : Int) ≤ (j : Int) := by omega
   obtain ⟨e, he⟩ : ∃ e, es[j]? = some e := ⟨_, List.getElem?_eq_getElem (by have := HN.out; omega)⟩
   have HL2 := qd (isLeast_step HL.out e)
   rw [← take_nx he] at HL2
   obtain ⟨g, off, hA, hg, m0, m1, m2⟩ := ents_read HR.out HN.out.symm he
   have r0 := (World.cell?_of_block (HW.out.block g hg)).trans m0
   have r1 := (World.cell?_of_block (HW.out.block g hg)).trans m1
   have r2 := (World.cell?_of_block (HW.out.block g hg)).trans m2
   have HJ := qd (Nat.succ_le_of_lt hlt)
   have HMe := qd (round_less hlt)
   subst hA
   clear m0 m1 m2 he
   go_upto_region 6 with fail
   refine nameB 37 #[.int .u64 (e.key : Int), .int .u64 (e.val : Int), .int .u64 (e.hash : Int)] ?_
   rintro w5 ⟨hB5, hb5⟩
   obtain ⟨bx, hbx⟩ : ∃ bx, bx = wr.heap.size := ⟨_, rfl⟩
   rw [← hbx] at hB5 ⊢
   have HBx := qd hB5
   clear r0 r1 r2 hB5 hbx
   replace HX := qB hb5 HX
   replace HF := qB hb5 HF
   replace HO := qB hb5 HO
   replace HW := qd (below2 HW.out hb5)
   clear hb5
   have HB1 := qd (num_Before e fr)
   unfold entV at HB1
   have x := HBx.out.c3
   obtain ⟨f0, f1, f2⟩ := HF.out.c3
   go_wp2_with fail
   refine (HB1.out w5).mono ?_
   rintro y w6 ⟨rfl, hb6⟩
   clear x f0 f1 f2
   replace HX := qB hb6 HX
   replace HF := qB hb6 HF
   replace HO := qB hb6 HO
   replace HBx := qB hb6 HBx
   replace HW := qd (below2 HW.out hb6)
   clear hb6
   cases hlf : lessE e fr with
   | true =>
    have hst : leastStep fr o e = o := by unfold leastStep; rw [hlf]; rfl
    rw [hst] at HL2
    obtain ⟨u, hu⟩ : ∃ u, u = o.isSome := ⟨_, rfl⟩
    have hv10 := HIs.out
    rw [← hu] at hv10
    subst hv10
    have HU := qd hu
    clear hu hst hlf HB1
    go_wp2
    go_roundw
    all_goals first | exact ⟨⟨j + 1, o, HJ.out, rfl, qd (by rw [HU.out]), HL2, HX, HF, HO, HW⟩, HMe.out⟩ | exact ⟨j + 1, o, HJ.out, rfl, qd (by rw [HU.out]), HL2, HX, HF, HO, HW⟩ | exact HMe.out
   | false =>
    cases o with
    | none =>
     have hst : leastStep fr none e = some e := by unfold leastStep; rw [hlf]; rfl
     rw [hst] at HL2
     obtain rfl := HIs.out
     clear hst hlf HB1
     simp only [Option.isSome_none]
     have x := HBx.out.c3
     obtain ⟨g0, g1, g2⟩ := HO.out.f3
     unfold optCells entCells at HO
     obtain ⟨y0, y1, y2⟩ := HO.out.c3
     have hnew := ((HO.out.set_ 0 (.int .u64 (e.key : Int))).set_ 1 (.int .u64 (e.val : Int))).set_ 2 (.int .u64 (e.hash : Int))
     have hm := (((Mod.refl [ob] w6).sl 0 (.int .u64 (e.key : Int))).sl 1 (.int .u64 (e.val : Int))).sl 2 (.int .u64 (e.hash : Int))
     simp only [pt] at hnew
     have HNw := qd hnew
     have HMd := qd hm
     clear hnew hm
     go_upto_region 8 with fail
     refine nameW (F := fun v => Blk v ob 37 #[.int .u64 (e.key : Int), .int .u64 (e.val : Int), .int .u64 (e.hash : Int)] ∧ Mod [ob] w6 v) ⟨HNw.out, HMd.out⟩ ?_
     clear HNw HMd x g0 g1 g2 y0 y1 y2
     rintro w9 ⟨hO9, hm9⟩
     replace HX := qd (HX.out.mod hm9 (by have := HX1.out; simp <;> omega))
     replace HF := qd (HF.out.mod hm9 (by have := HX1.out; simp <;> omega))
     replace HO := qd (show Blk w9 ob 37 (optCells (some e)) from hO9)
     replace HW := qd (((Mod.of_below HW.out [ob]).trans hm9 (fun _ hh _ => hh) (fun k hk hl => by rw [List.mem_singleton.1 hk] at hl ⊢; have := HX1.out; omega)).below (fun k hk => by rw [List.mem_singleton.1 hk]; have := HX1.out; omega) (Nat.le_refl _))
     clear hO9 hm9
     go_wp2
     go_roundw
     all_goals first | exact ⟨⟨j + 1, some e, HJ.out, rfl, qd rfl, HL2, HX, HF, HO, HW⟩, HMe.out⟩ | exact ⟨j + 1, some e, HJ.out, rfl, qd rfl, HL2, HX, HF, HO, HW⟩ | exact HMe.out
    | some m =>
     obtain rfl := HIs.out
     simp only [Option.isSome_some]
     have HO' := qd (show Blk w6 ob 37 #[.int .u64 (m.key : Int), .int .u64 (m.val : Int), .int .u64 (m.hash : Int)] from HO.out)
     replace HO := HO'
     clear HO'
     have HB2 := qd (num_Before e m)
     unfold entV at HB2
     have x := HBx.out.c3
     obtain ⟨y0, y1, y2⟩ := HO.out.c3
     go_wp2_with fail
     refine (HB2.out w6).mono ?_
     rintro y w7 ⟨rfl, hb7⟩
     clear x y0 y1 y2
     replace HX := qB hb7 HX
     replace HF := qB hb7 HF
     replace HO := qB hb7 HO
     replace HBx := qB hb7 HBx
     replace HW := qd (below2 HW.out hb7)
     clear hb7
     cases hlm : lessE e m with
     | true =>
      have hst : leastStep fr (some m) e = some e := by unfold leastStep; simp [hlf, hlm]
      rw [hst] at HL2
      clear hst hlf hlm HB1 HB2
      have x := HBx.out.c3
      obtain ⟨g0, g1, g2⟩ := HO.out.f3
      obtain ⟨y0, y1, y2⟩ := HO.out.c3
      have hnew := ((HO.out.set_ 0 (.int .u64 (e.key : Int))).set_ 1 (.int .u64 (e.val : Int))).set_ 2 (.int .u64 (e.hash : Int))
      have hm := (((Mod.refl [ob] w7).sl 0 (.int .u64 (e.key : Int))).sl 1 (.int .u64 (e.val : Int))).sl 2 (.int .u64 (e.hash : Int))
      simp only [pt] at hnew
      have HNw := qd hnew
      have HMd := qd hm
      clear hnew hm
      go_upto_region 8 with fail
      refine nameW (F := fun v => Blk v ob 37 #[.int .u64 (e.key : Int), .int .u64 (e.val : Int), .int .u64 (e.hash : Int)] ∧ Mod [ob] w7 v) ⟨HNw.out, HMd.out⟩ ?_
      clear HNw HMd x g0 g1 g2 y0 y1 y2
      rintro w9 ⟨hO9, hm9⟩
      replace HX := qd (HX.out.mod hm9 (by have := HX1.out; simp <;> omega))
      replace HF := qd (HF.out.mod hm9 (by have := HX1.out; simp <;> omega))
      replace HO := qd (show Blk w9 ob 37 (optCells (some e)) from hO9)
      replace HW := qd (((Mod.of_below HW.out [ob]).trans hm9 (fun _ hh _ => hh) (fun k hk hl => by rw [List.mem_singleton.1 hk] at hl ⊢; have := HX1.out; omega)).below (fun k hk => by rw [List.mem_singleton.1 hk]; have := HX1.out; omega) (Nat.le_refl _))
      clear hO9 hm9
      go_wp2
      go_roundw
      all_goals first | exact ⟨⟨j + 1, some e, HJ.out, rfl, qd rfl, HL2, HX, HF, HO, HW⟩, HMe.out⟩ | exact ⟨j + 1, some e, HJ.out, rfl, qd rfl, HL2, HX, HF, HO, HW⟩ | exact HMe.out
     | false =>
      have hst : leastStep fr (some m) e = some m := by unfold leastStep; simp [hlf, hlm]
      rw [hst] at HL2
      clear hst hlf hlm HB1 HB2
      replace HO := qd (show Blk w7 ob 37 (optCells (some m)) from HO.out)
      go_wp2
      go_roundw
      all_goals first | exact ⟨⟨j + 1, some m, HJ.out, rfl, qd rfl, HL2, HX, HF, HO, HW⟩, HMe.out⟩ | exact ⟨j + 1, some m, HJ.out, rfl, qd rfl, HL2, HX, HF, HO, HW⟩ | exact HMe.out
  ·obtain rfl : j = n := by omega
   have hlt' : ¬ (j : Int) < (j : Int) := by omega
   have HL2 := qd (show IsLeast fr es o from by have := HL.out; rw [HN.out, List.take_length] at this; exact this)
   obtain ⟨u, hu⟩ : ∃ u, u = o.isSome := ⟨_, rfl⟩
   have hv10 := HIs.out
   rw [← hu] at hv10
   subst hv10
   have HU := qd hu
   obtain ⟨e0, he0⟩ : ∃ e0 : Ent, e0 = o.getD ⟨0, 0, 0⟩ := ⟨_, rfl⟩
   have HE0 := qd he0
   have HO2 := qd (show Blk wr ob 37 #[.int .u64 (e0.key : Int), .int .u64 (e0.val : Int), .int .u64 (e0.hash : Int)] from by rw [he0]; exact HO.out)
   clear hu he0 HL HO
   obtain ⟨y0, y1, y2⟩ := HO2.out.c3
   have x := HX.out.c3
   obtain ⟨g0, g1, g2⟩ := HX.out.f3
   have hnew := ((HX.out.set_ 0 (.int .u64 (e0.key : Int))).set_ 1 (.int .u64 (e0.val : Int))).set_ 2 (.int .u64 (e0.hash : Int))
   have hm := (((Mod.refl [xb] wr).sl 0 (.int .u64 (e0.key : Int))).sl 1 (.int .u64 (e0.val : Int))).sl 2 (.int .u64 (e0.hash : Int))
   simp only [pt] at hnew
   have HNw := qd hnew
   have HWf := qd (((Mod.of_below HW.out [xb]).trans hm (fun _ hh _ => hh) (fun k hk hl => by rw [List.mem_singleton.1 hk] at hl ⊢; have := HX1.out; omega)).below (fun k hk => by rw [List.mem_singleton.1 hk]; have := HX1.out; omega) (Nat.le_refl _))
   clear hnew hm
   go_wp2
   have z := HNw.out.c3
   refine bodyPost_ret (v := .tuple #[.agg #[.int .u64 (e0.key : Int), .int .u64 (e0.val : Int), .int .u64 (e0.hash : Int)], .bool u]) (by simp [results, Tryz.results51, go_sem, z.1, z.2.1, z.2.2]) rfl ?_
   refine ⟨o, ?_, HL2.out, HWf.out⟩
   rw [HE0.out, HU.out]; rfl
end
section
set_option maxRecDepth 100000
set_option maxHeartbeats 4000000
open Go.RowKit AmC
variable {W0 w w0 : World} {E : Nat → Addr} {H : Nat → Nat} {C : CPl} {F G0 : List Nat} {st : CSt}
theorem CoreF.aside {w' : World} {b : Nat} (hC : CoreF W0 E H C w0 G0 w F st) (hm : Mod [b] w w') (hb : b ∉ C.foot F) (h0 : w0.heap.size ≤ b) : CoreF W0 E H C w0 G0 w' F st := by
 rw [mem_foot] at hb
 simp only [not_or] at hb
 have hd : ∀ q ∈ [b], q ≠ C.mb ∧ q ∉ C.s.blocks ∧ q ∉ F ∧ C.v.ownBlock ≠ some q := fun q hq => by rw [List.mem_singleton.1 hq]; exact hb
 have hW := hC.le0
 refine ⟨SchSt.start (hC.sch.sch.mod hm (fun q hq hqS => (hd q hqS).2.1 hq)) (hC.hp.stab hC.sch.pool hm (fun q hq hqS => (hd q hqS).2.2.1 hq)) (hC.sch.met.mod hm (fun hq => (hd _ hq).1 rfl)) (hC.sch.env.mod hm (fun q hq => by rw [List.mem_singleton.1 hq]; omega)) hC.sch.apart hC.sch.mb0, own_far hC.row hm (fun k hk hkS => (hd k hkS).2.2.2 hk), hC.rap, hC.pos, hC.kk, hC.mm, hC.le0, hC.sub, hC.mod.trans hm (fun _ hh _ => hh) (fun k hk hl => ?_)⟩
 rw [List.mem_singleton.1 hk] at hl
 omega
def LePost (W0 : World) (E : Nat → Addr) (H : Nat → Nat) (C : CPl) (w0 : World) (G0 : List Nat) (F : List Nat) (st : CSt) (key hash : Nat) (v : Value) (w' : World) : Prop :=
 ∃ (id : Nat) (N : Nd) (o : Option Ent) (x' : Mtr), st.a.Ns[id]? = some N ∧ id = st.a.l.getD (topOf hash st.a.d) 0 ∧ IsLeast ⟨key, 0, hash⟩ N.ents o ∧ v = .tuple #[entV (o.getD ⟨0, 0, 0⟩), .bool o.isSome, .int .u64 ((highOf N.pfx N.dpt : Nat) : Int)] ∧ CoreF W0 E H C w0 G0 w' F { st with x := x' } ∧ Cost ⟨st.x.all, ⟨0, 0, 0⟩⟩ x' 192 0
theorem core_Least (h : CoreF W0 E H C w0 G0 w F st) (hi : CInv st.a st.ids []) (key hash : Nat) (h64 : hash < 18446744073709551616) : Calls Tryz.prog 50 #[coreP C.mb, .int .u64 (hash : Int), .int .u64 (key : Int)] w fun e w' => ∃ v, e = .returned v ∧ LePost W0 E H C w0 G0 F st key hash v w' := by
 have hbd := h.bounds
 have HBd := qd hbd
 obtain ⟨N, hN, htp⟩ := hi.dir.at_ h64 hbd.1
 obtain ⟨id, hid⟩ : ∃ id, id = st.a.l.getD (topOf hash st.a.d) 0 := ⟨_, rfl⟩
 rw [← hid] at hN
 have HN := qd hN
 have HId := qd hid
 have HC := qd (h.below ((Below.refl w.heap.size w).alloc (Nat.le_refl _) (.cells #[.int .u64 0, .int .u64 0, .int .u64 0] 37)))
 have HBx := qd (Blk.new w 37 #[.int .u64 0, .int .u64 0, .int .u64 0])
 have HLo := qd (show w0.heap.size ≤ w.heap.size from h.mod.size)
 have HBo := qd (show w.heap.size ∉ C.foot F from fun hq => by have := h.lts _ hq; omega)
 clear h hi hbd hN hid htp
 unfold coreP
 go_in
 go_upto_region 1 with fail
 refine nameW (F := fun v => CoreF W0 E H C w0 G0 v F st ∧ Blk v w.heap.size 37 #[.int .u64 0, .int .u64 0, .int .u64 0]) ⟨HC.out, HBx.out⟩ ?_
 clear HC HBx
 rintro w1 ⟨hC, hB⟩
 obtain ⟨bx, hbx⟩ : ∃ bx, bx = w.heap.size := ⟨_, rfl⟩
 rw [← hbx] at HBo HLo hB ⊢
 have hne : bx ≠ C.mb := fun e => HBo.out (mem_foot.2 (.inl e))
 have HNe := qd hne
 have HC := qd hC
 have HBx := qd hB
 have HRs := qd (core_Reset hC.again)
 clear hC hB hbx hne
 go_wp2_with fail
 refine HRs.out.mono ?_
 rintro y w2 ⟨rfl, h2⟩
 replace HBx := qd (HBx.out.mod h2.mod HBo.out)
 replace HC := qd (HC.out.chain h2)
 clear h2 HRs
 have HOf := qd (core_of HC.out hash id h64 HId.out.symm (get_lt HN.out))
 unfold coreP nodeP at HOf
 go_wp2_with fail
 refine HOf.out.mono ?_
 rintro y w3 ⟨rfl, hb⟩
 replace HC := qd (HC.out.below hb)
 replace HBx := qB hb HBx
 clear hb HOf
 go_wp2_with fail
 refine (meter_Probing (some ⟨C.mb, 3, none⟩) w3).mono ?_
 rintro y w4 ⟨rfl, hb⟩
 replace HC := qd (HC.out.below hb)
 replace HBx := qB hb HBx
 clear hb
 obtain ⟨Fi, n1, n2, n3, n4, n5, n6⟩ := HC.out.node HN.out
 have HLe := qd (nd_Least key hash n1 n2 HC.out.sch.met HC.out.sch.env HC.out.sch.mb0 n3)
 have HPw := qd (show N.pfx < 2 ^ N.dpt ∧ N.dpt ≤ 16 from ⟨n2.pfx, by have := n2.deep; omega⟩)
 clear n1 n2 n3 n4 n5 n6
 unfold nodeP at HLe
 unfold optE entV at HLe
 go_wp2_with fail
 refine HLe.out.mono ?_
 rintro y w5 ⟨o, x5, rfl, ho, q3, q4, q5⟩
 have HO := qd ho
 have HCo := qd q4
 replace HC := qd (HC.out.met q3 q5)
 replace HBx := qd (HBx.out.mod q5 (fun hq => HNe.out (List.mem_singleton.1 hq)))
 clear ho q3 q4 q5 HLe
 obtain ⟨e0, he0⟩ : ∃ e0 : Ent, e0 = o.getD ⟨0, 0, 0⟩ := ⟨_, rfl⟩
 obtain ⟨bs, hbs⟩ : ∃ bs, bs = o.isSome := ⟨_, rfl⟩
 rw [← he0, ← hbs]
 have HE0 := qd he0
 have HB0 := qd hbs
 clear he0 hbs
 have b := HBx.out.c3
 have g := HBx.out.f3
 have hnew := ((HBx.out.set_ 0 (.int .u64 (e0.key : Int))).set_ 1 (.int .u64 (e0.val : Int))).set_ 2 (.int .u64 (e0.hash : Int))
 have hm := (((Mod.refl [bx] w5).sl 0 (.int .u64 (e0.key : Int))).sl 1 (.int .u64 (e0.val : Int))).sl 2 (.int .u64 (e0.hash : Int))
 simp only [pt] at hnew
 have HNw := qd hnew
 have HMd := qd hm
 clear hnew hm
 go_upto_region 4 with fail
 refine nameW (F := fun v => Blk v bx 37 #[.int .u64 (e0.key : Int), .int .u64 (e0.val : Int), .int .u64 (e0.hash : Int)] ∧ Mod [bx] w5 v) ⟨HNw.out, HMd.out⟩ ?_
 clear HNw HMd
 rintro w6 ⟨hB6, hm6⟩
 replace HC := qd (HC.out.aside hm6 HBo.out HLo.out)
 replace HBx := qd hB6
 clear hB6 hm6 b g
 obtain ⟨Fi, n1, n2, n3, n4, n5, n6⟩ := HC.out.node HN.out
 have HPr := qd (nd_Prefix (HC.out.below (Below.refl w6.heap.size w6).drew |>.node HN.out |>.choose_spec |>.1))
 clear n1 n2 n3 n4 n5 n6
 obtain ⟨pf, hpf⟩ : ∃ pf, pf = N.pfx := ⟨_, rfl⟩
 obtain ⟨dp, hdp⟩ : ∃ dp, dp = N.dpt := ⟨_, rfl⟩
 rw [← hpf, ← hdp] at HPr
 have hpw := HPw.out
 rw [← hpf, ← hdp] at hpw
 obtain ⟨hpl, hdl⟩ := hpw
 have HPf := qd hpf
 have HDp := qd hdp
 unfold nodeP at HPr
 clear hpf hdp HPw
 have b := HBx.out.c3
 refine region_T (fun (w' : World) => w'.cell? ⟨bx, 0, none⟩ = some (.int .u64 (e0.key : Int)) ∧ w'.cell? ⟨bx, 1, none⟩ = some (.int .u64 (e0.val : Int)) ∧ w'.cell? ⟨bx, 2, none⟩ = some (.int .u64 (e0.hash : Int))) [] (by kernel_rfl) ?_
 try (change wpAnyT _ _ _ _ _ _ _ _ _ (World.drew _))
 have hHeld := (⟨b.1, b.2.1, b.2.2⟩ : _ ∧ _ ∧ _)
 refine vT 0 rfl ?_
 refine vW 1 rfl ?_
 refine vW 2 rfl ?_
 refine nT 3 rfl fun K hK => ?_
 go_simp
 refine (HPr.out).mono ?_
 rintro y w7 ⟨rfl, hd7⟩
 replace HC := qd (HC.out.below ((Below.refl w6.heap.size w6).drew.drew))
 replace HBx := qd HBx.out.drew.drew
 rw [hd7] at HC HBx
 clear hd7 HPr b
 have b := HBx.out.c3
 go_wp2_with fail
 have hHeld := (⟨b.1, b.2.1, b.2.2⟩ : _ ∧ _ ∧ _)
 refine kO hK ?_
 clear hK K
 refine vW 4 rfl ?_
 refine vW 5 rfl ?_
 refine nT 6 rfl fun K hK => ?_
 go_simp
 refine (split_High pf dp hdl hpl w7).mono ?_
 rintro y w8 ⟨rfl, rfl⟩
 obtain ⟨hg, hhg⟩ : ∃ hg, hg = highOf pf dp := ⟨_, rfl⟩
 rw [← hhg]
 have HHg := qd hhg
 clear hhg
 go_wp2_with fail
 have hHeld := (⟨b.1, b.2.1, b.2.2⟩ : _ ∧ _ ∧ _)
 refine kO hK ?_
 clear hK K
 refine vW 7 rfl ?_
 refine vW 8 rfl ?_
 refine nT 9 rfl fun K hK => ?_
 go_simp
 refine (must_u64 (hg : Int) w7).mono ?_
 rintro y w9 ⟨rfl, rfl⟩
 go_wp2_with fail
 have hHeld := (⟨b.1, b.2.1, b.2.2⟩ : _ ∧ _ ∧ _)
 refine kO hK ?_
 clear hK K
 refine nT 10 rfl fun K hK => ?_
 have g := HBx.out.f3
 have hnew := ((HBx.out.set_ 0 (.int .u64 (e0.key : Int))).set_ 1 (.int .u64 (e0.val : Int))).set_ 2 (.int .u64 (e0.hash : Int))
 have hm := (((Mod.refl [bx] w7).sl 0 (.int .u64 (e0.key : Int))).sl 1 (.int .u64 (e0.val : Int))).sl 2 (.int .u64 (e0.hash : Int))
 simp only [pt] at hnew
 have HNw := qd hnew
 have HMd := qd hm
 clear hnew hm
 go_simp
 refine nameW (F := fun v => Blk v bx 37 #[.int .u64 (e0.key : Int), .int .u64 (e0.val : Int), .int .u64 (e0.hash : Int)] ∧ Mod [bx] w7 v) ⟨HNw.out, HMd.out⟩ ?_
 clear HNw HMd b g
 rintro w10 ⟨hB6, hm6⟩
 replace HC := qd (HC.out.aside hm6 HBo.out HLo.out)
 replace HBx := qd hB6
 clear hB6 hm6
 have b := HBx.out.c3
 have hHeld := (⟨b.1, b.2.1, b.2.2⟩ : _ ∧ _ ∧ _)
 refine kO hK ?_
 clear hK K
 refine vW 11 rfl ?_
 refine vW 12 rfl ?_
 refine doneT (by kernel_rfl) ?_ _
 go_wp2
 refine bodyPost_ret (v := .tuple #[.agg #[.int .u64 (e0.key : Int), .int .u64 (e0.val : Int), .int .u64 (e0.hash : Int)], .bool bs, .int .u64 (hg : Int)]) (by simp [results, Tryz.results50, go_sem, b.1, b.2.1, b.2.2]) rfl ?_
 have hfin : LePost W0 E H C w0 G0 F st key hash (.tuple #[.agg #[.int .u64 (e0.key : Int), .int .u64 (e0.val : Int), .int .u64 (e0.hash : Int)], .bool bs, .int .u64 (hg : Int)]) w10 := ⟨id, N, o, x5, HN.out, HId.out, HO.out, by rw [HE0.out, HB0.out, HHg.out, HPf.out, HDp.out]; rfl, HC.out, HCo.out⟩
 first | exact ⟨_, rfl, hfin⟩ | exact hfin | exact ⟨rfl, hfin⟩
end
section
set_option maxRecDepth 100000
set_option maxHeartbeats 4000000
open Go.RowKit AmC
variable {W0 w w0 : World} {E : Nat → Addr} {H : Nat → Nat} {C : CPl} {F G0 : List Nat} {st : CSt}
theorem core_Put_new (h : CoreF W0 E H C w0 G0 w F st) (hi : CInv st.a st.ids []) (e : Ent) (he : EntOk H e) (hk : ∀ y ∈ st.a.ents, y.key ≠ e.key) (hle : st.len < C.M) (hln : st.len = st.a.ents.length) : Calls Tryz.prog 12 #[coreP C.mb, .int .u64 (e.key : Int), .int .u64 (e.val : Int), .int .u64 (e.hash : Int)] w fun y w' => y = .returned (.nilIface) ∧ ∃ id, WrPost W0 E H C w0 G0 st id [] [e] (st.len + 1) w' := by
 have h64 := he.h64
 have HEn := qd he
 have HLe := qd hln
 have HRs := qd (core_Reset h)
 have hbd := h.bounds
 have HBd := qd hbd
 have HI := qd hi
 obtain ⟨N, hN, htp⟩ := hi.dir.at_ h64 hbd.1
 have HTp := qd htp
 obtain ⟨id, hid⟩ : ∃ id, id = st.a.l.getD (topOf (e.hash) st.a.d) 0 := ⟨_, rfl⟩
 rw [← hid] at hN
 have HN := qd hN
 have HId := qd hid
 clear hln he h hi hbd hN hid htp
 unfold coreP
 have hlt : (st.len : Int) < (C.M : Int) := by omega
 go_in
 go_wp2_with fail
 refine HRs.out.mono ?_
 rintro y w1 ⟨rfl, h1⟩
 have HC := qd h1
 clear h1 HRs
 have HOf := qd (core_of HC.out (e.hash) id h64 HId.out.symm (get_lt HN.out))
 unfold coreP nodeP at HOf
 go_wp2_with fail
 refine HOf.out.mono ?_
 rintro y w2 ⟨rfl, hb⟩
 replace HC := qd (HC.out.below hb)
 clear hb HOf
 obtain ⟨c0, c1, c11, c12, c13, c14, c15⟩ := HC.out.cells
 go_upto_region 3 with fail
 go_region
 clear c0 c1 c11 c12 c13 c14 c15
 replace HC := qd (HC.out.below (Below.refl w2.heap.size w2).drew)
 go_wp2_with fail
 refine (meter_Probing (some ⟨C.mb, 3, none⟩) (World.drew w2)).mono ?_
 rintro y w3 ⟨rfl, hb⟩
 replace HC := qd (HC.out.below hb)
 clear hb
 obtain ⟨Fi, n1, n2, n3, n4, n5, n6⟩ := HC.out.node HN.out
 have hNe : ∀ y ∈ N.ents, y.key ≠ e.key := fun y hy => hk y (mem_pool.2 ⟨id, N, HN.out, hy⟩)
 have hfew : N.ents.length + 1 ≤ 192 := by
  obtain ⟨B, B', b1, _⟩ := entsN_set (N' := N) HN.out
  have h1 : st.a.ents.length = (B ++ (N.ents ++ B')).length := by unfold Pool.ents; rw [b1]
  rw [List.length_append, List.length_append] at h1
  have h2 := HC.out.mm.2
  have h3 := HLe.out
  omega
 have hsl := HI.out.sl id N HN.out (by simp)
 have HFd := qd (nd_Put_new e n1 n2 HEn.out HTp.out HC.out.sch.met HC.out.sch.env HC.out.sch.mb0 n3 hNe hfew hsl)
 have HX := qd n6
 have HCp := qd (fun (N1 : Nd) (hw : Wr H [] [e] N N1) => wr_pre HI.out HN.out hw)
 clear n1 n2 n3 n4 n5 n6 hNe hk hfew hsl hlt
 unfold nodeP entV at HFd
 go_wp2_with fail
 refine HFd.out.mono ?_
 rintro y w4 ⟨rfl, x4, N1, q1, q2, q3, q4, q5⟩
 obtain ⟨F4, hC4⟩ := HX.out w4 Fi _ N1 x4 q1 q2.ok (fun q hq => .inl hq) q3 q5 (fun q hq => List.mem_cons.1 hq)
 have HC4 := qd hC4
 have HCo := qd q4
 have HWr := qd q2
 clear hC4 q1 q2 q3 q4 q5 HFd HX HC
 obtain ⟨c0, c1, c11, c12, c13, c14, c15⟩ := HC4.out.cells
 have f15 := HC4.out.frozen 15
 obtain ⟨ln, hln⟩ : ∃ ln, ln = st.len + 1 := ⟨_, rfl⟩
 have hm192 := HC4.out.mm.2
 have hwr : IntKind.i64.wrap ((st.len : Int) + 1) = (ln : Int) := by rw [IntKind.wrap_i64] <;> omega
 have HLn := qd hln
 have HC6 := qd (HC4.out.setLen ln)
 clear hln
 go_upto_region 10 with fail
 refine nameW (F := fun v => CoreF W0 E H C w0 G0 v F4 { st with a := { st.a with Ns := st.a.Ns.set id N1 }, x := x4, len := ln }) HC6.out ?_
 rintro w6 hC6
 clear c0 c1 c11 c12 c13 c14 c15 f15 HC4 HC6 hwr
 have HC6 := qd hC6
 have HMt := qd (core_maintain HC6.out.again id N1 (by show (st.a.Ns.set id N1)[id]? = some N1; rw [set_get (get_lt HN.out), if_pos rfl]) (HCp.out N1 HWr.out))
 clear hC6 HCp
 unfold coreP nodeP at HMt
 go_wp2_with fail
 refine HMt.out.mono ?_
 rintro y w7 ⟨rfl, hmt⟩
 obtain ⟨hmt, _⟩ := hmt.chain HC6.out
 have HMp := qd hmt
 clear hmt HMt HC6
 go_wp2
 refine bodyPost_ret (v := .nilIface) (by simp [results, Tryz.results12, go_sem]) rfl ⟨rfl, id, ?_⟩
 rw [← HLn.out]; exact ⟨N, N1, x4, HN.out, HWr.out, HCo.out, HMp.out⟩
theorem core_Put_found_t (h : CoreF W0 E H C w0 G0 w F st) (hi : CInv st.a st.ids []) (e : Ent) (he : EntOk H e) (e0 : Ent) (he0 : e0 ∈ st.a.ents) (hk : e0.key = e.key) (hle : st.len < C.M) : Calls Tryz.prog 12 #[coreP C.mb, .int .u64 (e.key : Int), .int .u64 (e.val : Int), .int .u64 (e.hash : Int)] w fun y w' => y = .returned (.nilIface) ∧ ∃ id, WrPost W0 E H C w0 G0 st id [e0] [{ e0 with val := e.val }] st.len w' := by
 have h64 := he.h64
 have HEn := qd he
 have HHh := qd he.hash
 have HRs := qd (core_Reset h)
 have hbd := h.bounds
 have HBd := qd hbd
 have HI := qd hi
 obtain ⟨N, hN, htp⟩ := hi.dir.at_ h64 hbd.1
 have HTp := qd htp
 obtain ⟨id, hid⟩ : ∃ id, id = st.a.l.getD (topOf (e.hash) st.a.d) 0 := ⟨_, rfl⟩
 rw [← hid] at hN
 have HN := qd hN
 have HId := qd hid
 clear he h hi hbd hN hid htp
 unfold coreP
 have hlt : (st.len : Int) < (C.M : Int) := by omega
 go_in
 go_wp2_with fail
 refine HRs.out.mono ?_
 rintro y w1 ⟨rfl, h1⟩
 have HC := qd h1
 clear h1 HRs
 have HOf := qd (core_of HC.out (e.hash) id h64 HId.out.symm (get_lt HN.out))
 unfold coreP nodeP at HOf
 go_wp2_with fail
 refine HOf.out.mono ?_
 rintro y w2 ⟨rfl, hb⟩
 replace HC := qd (HC.out.below hb)
 clear hb HOf
 obtain ⟨c0, c1, c11, c12, c13, c14, c15⟩ := HC.out.cells
 go_upto_region 3 with fail
 go_region
 clear c0 c1 c11 c12 c13 c14 c15
 replace HC := qd (HC.out.below (Below.refl w2.heap.size w2).drew)
 go_wp2_with fail
 refine (meter_Probing (some ⟨C.mb, 3, none⟩) (World.drew w2)).mono ?_
 rintro y w3 ⟨rfl, hb⟩
 replace HC := qd (HC.out.below hb)
 clear hb
 obtain ⟨Fi, n1, n2, n3, n4, n5, n6⟩ := HC.out.node HN.out
 have hNe : e0 ∈ N.ents := pool_node HI.out.dir HBd.out.1 HBd.out.2.2.2 (key := e.key) (by rw [← HHh.out]; exact HId.out.symm) HN.out he0 hk
 have HFd := qd (nd_Put_found e true n1 n2 HHh.out h64 HEn.out.v64 HC.out.sch.met HC.out.sch.env HC.out.sch.mb0 n3 e0 hNe hk)
 have HX := qd n6
 have HCp := qd (fun (N1 : Nd) (hw : Wr H [e0] [{ e0 with val := e.val }] N N1) => wr_pre HI.out HN.out hw)
 clear n1 n2 n3 n4 n5 n6 hNe hk he0 hlt
 unfold nodeP entV at HFd
 go_wp2_with fail
 refine HFd.out.mono ?_
 rintro y w4 ⟨rfl, x4, N1, q1, q2, q3, q4, q5⟩
 obtain ⟨F4, hC4⟩ := HX.out w4 Fi _ N1 x4 q1 q2.ok (fun q hq => .inl hq) q3 q5 (fun q hq => List.mem_cons.1 hq)
 have HC4 := qd hC4
 have HCo := qd q4
 have HWr := qd q2
 clear hC4 q1 q2 q3 q4 q5 HFd HX HC
 obtain ⟨ln, hln⟩ : ∃ ln, ln = st.len := ⟨_, rfl⟩
 have HLn := qd hln
 go_upto_region 10 with fail
 obtain ⟨w6, hw6⟩ : ∃ w6, w6 = w4 := ⟨_, rfl⟩
 rw [← hw6]
 have hC6 : CoreF W0 E H C w0 G0 w6 F4 { st with a := { st.a with Ns := st.a.Ns.set id N1 }, x := x4, len := ln } := by rw [hw6, hln]; exact HC4.out
 clear HC4 hw6 hln
 have HC6 := qd hC6
 have HMt := qd (core_maintain HC6.out.again id N1 (by show (st.a.Ns.set id N1)[id]? = some N1; rw [set_get (get_lt HN.out), if_pos rfl]) (HCp.out N1 HWr.out))
 clear hC6 HCp
 unfold coreP nodeP at HMt
 go_wp2_with fail
 refine HMt.out.mono ?_
 rintro y w7 ⟨rfl, hmt⟩
 obtain ⟨hmt, _⟩ := hmt.chain HC6.out
 have HMp := qd hmt
 clear hmt HMt HC6
 go_wp2
 refine bodyPost_ret (v := .nilIface) (by simp [results, Tryz.results12, go_sem]) rfl ⟨rfl, id, ?_⟩
 rw [← HLn.out]; exact ⟨N, N1, x4, HN.out, HWr.out, HCo.out, HMp.out⟩
theorem core_Put_found_f (h : CoreF W0 E H C w0 G0 w F st) (hi : CInv st.a st.ids []) (e : Ent) (he : EntOk H e) (e0 : Ent) (he0 : e0 ∈ st.a.ents) (hk : e0.key = e.key) (hle : ¬ st.len < C.M) : Calls Tryz.prog 12 #[coreP C.mb, .int .u64 (e.key : Int), .int .u64 (e.val : Int), .int .u64 (e.hash : Int)] w fun y w' => y = .returned (.nilIface) ∧ ∃ id, WrPost W0 E H C w0 G0 st id [e0] [{ e0 with val := e.val }] st.len w' := by
 have h64 := he.h64
 have HEn := qd he
 have HHh := qd he.hash
 have HRs := qd (core_Reset h)
 have hbd := h.bounds
 have HBd := qd hbd
 have HI := qd hi
 obtain ⟨N, hN, htp⟩ := hi.dir.at_ h64 hbd.1
 have HTp := qd htp
 obtain ⟨id, hid⟩ : ∃ id, id = st.a.l.getD (topOf (e.hash) st.a.d) 0 := ⟨_, rfl⟩
 rw [← hid] at hN
 have HN := qd hN
 have HId := qd hid
 clear he h hi hbd hN hid htp
 unfold coreP
 have hlt : ¬ (st.len : Int) < (C.M : Int) := by omega
 go_in
 go_wp2_with fail
 refine HRs.out.mono ?_
 rintro y w1 ⟨rfl, h1⟩
 have HC := qd h1
 clear h1 HRs
 have HOf := qd (core_of HC.out (e.hash) id h64 HId.out.symm (get_lt HN.out))
 unfold coreP nodeP at HOf
 go_wp2_with fail
 refine HOf.out.mono ?_
 rintro y w2 ⟨rfl, hb⟩
 replace HC := qd (HC.out.below hb)
 clear hb HOf
 obtain ⟨c0, c1, c11, c12, c13, c14, c15⟩ := HC.out.cells
 go_upto_region 3 with fail
 go_region
 clear c0 c1 c11 c12 c13 c14 c15
 replace HC := qd (HC.out.below (Below.refl w2.heap.size w2).drew)
 go_wp2_with fail
 refine (meter_Probing (some ⟨C.mb, 3, none⟩) (World.drew w2)).mono ?_
 rintro y w3 ⟨rfl, hb⟩
 replace HC := qd (HC.out.below hb)
 clear hb
 obtain ⟨Fi, n1, n2, n3, n4, n5, n6⟩ := HC.out.node HN.out
 have hNe : e0 ∈ N.ents := pool_node HI.out.dir HBd.out.1 HBd.out.2.2.2 (key := e.key) (by rw [← HHh.out]; exact HId.out.symm) HN.out he0 hk
 have HFd := qd (nd_Put_found e false n1 n2 HHh.out h64 HEn.out.v64 HC.out.sch.met HC.out.sch.env HC.out.sch.mb0 n3 e0 hNe hk)
 have HX := qd n6
 have HCp := qd (fun (N1 : Nd) (hw : Wr H [e0] [{ e0 with val := e.val }] N N1) => wr_pre HI.out HN.out hw)
 clear n1 n2 n3 n4 n5 n6 hNe hk he0 hlt
 unfold nodeP entV at HFd
 go_wp2_with fail
 refine HFd.out.mono ?_
 rintro y w4 ⟨rfl, x4, N1, q1, q2, q3, q4, q5⟩
 obtain ⟨F4, hC4⟩ := HX.out w4 Fi _ N1 x4 q1 q2.ok (fun q hq => .inl hq) q3 q5 (fun q hq => List.mem_cons.1 hq)
 have HC4 := qd hC4
 have HCo := qd q4
 have HWr := qd q2
 clear hC4 q1 q2 q3 q4 q5 HFd HX HC
 obtain ⟨ln, hln⟩ : ∃ ln, ln = st.len := ⟨_, rfl⟩
 have HLn := qd hln
 go_upto_region 10 with fail
 obtain ⟨w6, hw6⟩ : ∃ w6, w6 = w4 := ⟨_, rfl⟩
 rw [← hw6]
 have hC6 : CoreF W0 E H C w0 G0 w6 F4 { st with a := { st.a with Ns := st.a.Ns.set id N1 }, x := x4, len := ln } := by rw [hw6, hln]; exact HC4.out
 clear HC4 hw6 hln
 have HC6 := qd hC6
 have HMt := qd (core_maintain HC6.out.again id N1 (by show (st.a.Ns.set id N1)[id]? = some N1; rw [set_get (get_lt HN.out), if_pos rfl]) (HCp.out N1 HWr.out))
 clear hC6 HCp
 unfold coreP nodeP at HMt
 go_wp2_with fail
 refine HMt.out.mono ?_
 rintro y w7 ⟨rfl, hmt⟩
 obtain ⟨hmt, _⟩ := hmt.chain HC6.out
 have HMp := qd hmt
 clear hmt HMt HC6
 go_wp2
 refine bodyPost_ret (v := .nilIface) (by simp [results, Tryz.results12, go_sem]) rfl ⟨rfl, id, ?_⟩
 rw [← HLn.out]; exact ⟨N, N1, x4, HN.out, HWr.out, HCo.out, HMp.out⟩
theorem core_Put_found (h : CoreF W0 E H C w0 G0 w F st) (hi : CInv st.a st.ids []) (e : Ent) (he : EntOk H e) (e0 : Ent) (he0 : e0 ∈ st.a.ents) (hk : e0.key = e.key) : Calls Tryz.prog 12 #[coreP C.mb, .int .u64 (e.key : Int), .int .u64 (e.val : Int), .int .u64 (e.hash : Int)] w fun y w' => y = .returned (.nilIface) ∧ ∃ id, WrPost W0 E H C w0 G0 st id [e0] [{ e0 with val := e.val }] st.len w' := by
 by_cases hle : st.len < C.M
 ·exact core_Put_found_t h hi e he e0 he0 hk hle
 ·exact core_Put_found_f h hi e he e0 he0 hk hle
theorem core_Put_full (h : CoreF W0 E H C w0 G0 w F st) (hi : CInv st.a st.ids []) (e : Ent) (he : EntOk H e) (hk : ∀ y ∈ st.a.ents, y.key ≠ e.key) (hle : ¬ st.len < C.M) : Calls Tryz.prog 12 #[coreP C.mb, .int .u64 (e.key : Int), .int .u64 (e.val : Int), .int .u64 (e.hash : Int)] w fun y w' => y = .returned (errV E 2) ∧ ∃ x', CoreF W0 E H C w0 G0 w' F { st with x := x' } ∧ Cost ⟨st.x.all, ⟨0, 0, 0⟩⟩ x' 128 0 := by
 have h64 := he.h64
 have HEn := qd he
 have HRs := qd (core_Reset h)
 have hbd := h.bounds
 have HBd := qd hbd
 have HI := qd hi
 obtain ⟨N, hN, htp⟩ := hi.dir.at_ h64 hbd.1
 have HTp := qd htp
 obtain ⟨id, hid⟩ : ∃ id, id = st.a.l.getD (topOf (e.hash) st.a.d) 0 := ⟨_, rfl⟩
 rw [← hid] at hN
 have HN := qd hN
 have HId := qd hid
 clear he h hi hbd hN hid htp
 unfold coreP
 have hlt : ¬ (st.len : Int) < (C.M : Int) := by omega
 go_in
 go_wp2_with fail
 refine HRs.out.mono ?_
 rintro y w1 ⟨rfl, h1⟩
 have HC := qd h1
 clear h1 HRs
 have HOf := qd (core_of HC.out (e.hash) id h64 HId.out.symm (get_lt HN.out))
 unfold coreP nodeP at HOf
 go_wp2_with fail
 refine HOf.out.mono ?_
 rintro y w2 ⟨rfl, hb⟩
 replace HC := qd (HC.out.below hb)
 clear hb HOf
 obtain ⟨c0, c1, c11, c12, c13, c14, c15⟩ := HC.out.cells
 go_upto_region 3 with fail
 go_region
 clear c0 c1 c11 c12 c13 c14 c15
 replace HC := qd (HC.out.below (Below.refl w2.heap.size w2).drew)
 go_wp2_with fail
 refine (meter_Probing (some ⟨C.mb, 3, none⟩) (World.drew w2)).mono ?_
 rintro y w3 ⟨rfl, hb⟩
 replace HC := qd (HC.out.below hb)
 clear hb
 obtain ⟨Fi, n1, n2, n3, n4, n5, n6⟩ := HC.out.node HN.out
 have hNe : ∀ y ∈ N.ents, y.key ≠ e.key := fun y hy => hk y (mem_pool.2 ⟨id, N, HN.out, hy⟩)
 have hfd := nd_Put_full e n1 n2 HEn.out.hash h64 HC.out.sch.met HC.out.sch.env HC.out.sch.mb0 n3 hNe
 rw [errV_pos E (by omega)] at hfd
 have HFd := qd hfd
 clear hfd n1 n2 n3 n4 n5 n6 hNe hk
 unfold nodeP entV at HFd
 go_wp2_with fail
 refine HFd.out.mono ?_
 rintro y w4 ⟨rfl, x4, q3, q4, q5⟩
 have HC4 := qd (HC.out.met q3 q5)
 have HCo := qd q4
 clear q3 q4 q5 HFd HC
 have ce : w4.cell? ⟨0, 0, none⟩ = some (.iface 260 (.pointer (some (E 2)))) := HC4.out.sch.env.errs.at_ 2 (by omega) (by omega)
 have HIs := qd (is_same (E 2) w4)
 go_wp2_with fail
 refine HIs.out.mono ?_
 rintro y w5 ⟨rfl, rfl⟩
 go_wp2_with fail
 refine (trap_Need w4).mono ?_
 rintro y w5 ⟨rfl, rfl⟩
 go_wp2
 refine bodyPost_ret (v := .iface 260 (.pointer (some (E 2)))) (by simp [results, Tryz.results12, go_sem]) rfl ⟨?_, x4, HC4.out, HCo.out⟩
 rw [errV_pos E (by omega)]
end
end Go.Proofs.YtcgjgfgkdoohlaaGreatDoor
