/- A map's Next by its contract. No statement of the claim. -/
import Derived.Test.YtfojgfddgplinabGreatDoorRmF
import Derived.Test.YtfojgfddgplinabGreatDoorSqT
import Derived.Test.YtfojgfddgplinabGreatDoorLaneP
import Derived.Test.YtfojgfddgplinabGreatDoorRefD
import Derived.Test.YtfojgfddgplinabGreatDoorCoDA
namespace Go.Proofs.YtfojgfddgplinabGreatDoor
set_option maxRecDepth 100000
set_option maxHeartbeats 4000000
open Go.RowKit dG
theorem VQ (d : Nat) (fn : Fn) (a b : Array Value) (w : World) : (Op.equalIn (d + 1) 86 (.func fn a b) .nilFunc).run Tryz.prog w = .ok false w := by simp [Op.equalIn, run_underlying Tryz.underlying86]
theorem aap (fn : Fn) (a b : Array Value) (w : World) : (Op.equal 86 (.func fn a b) .nilFunc).run Tryz.prog w = .ok false w := VQ 9999 fn a b w
theorem Yl (d : Nat) (x : TypeId) (v : Value) (w : World) : (Op.equalIn (d + 1) 30 .nilIface (.iface x v)).run Tryz.prog w = .ok false w := by simp [Op.equalIn, run_underlying Tryz.underlying30]
theorem aaP (x : TypeId) (v : Value) (w : World) : (Op.equal 30 .nilIface (.iface x v)).run Tryz.prog w = .ok false w := Yl 9999 x v w
theorem aaq (a : Addr) (w : World) : Calls Tryz.prog 34 #[.nilIface, .iface 285 (.pointer (some a))] w fun e w' => e = .returned (.bool false) ∧ w = w' := by
 have hq : ∀ W : World, (binOp .eql 30 .nilIface (.iface 285 (.pointer (some a)))).run Tryz.prog W = .ok (.bool false) W := fun W => by
  simp only [binOp]
  simp [aaP]
 go_in
 go_wp2
 go_ret
 exact ⟨rfl, rfl⟩
theorem Ym {S : List Nat} {K : gQ → World → Prop} (G : FuncId) (cap : Array Value) {V : World} {fb ob eb : Nat} (hG : ∀ W : World, (callFunc G cap).run Tryz.prog W = .ok (.enter G cap) W) (hF : aj V fb 86 #[.func (.func G) #[] cap]) (hO : aj V ob 47 #[.int .i64 0, .int .u64 0, .int .u64 0]) (hE : aj V eb 30 #[.nilIface]) (hN : ob ∉ S ∧ eb ∉ S) (hoe : ob ≠ eb)
  (hc : Calls Tryz.prog G cap V fun y w1 => ∃ it, y = .returned (.tuple #[uQ it, .nilIface]) ∧ Mod S V w1 ∧ K it w1) :
  Calls Tryz.prog 56 #[.pointer (some ⟨fb, 0, none⟩), .pointer (some ⟨ob, 0, none⟩), .pointer (some ⟨eb, 0, none⟩)] V fun y w' => y = .returned undef ∧ ∃ it w1, K it w1 ∧ Mod S V w1 ∧ Mod [ob] w1 w' ∧ aj w' ob 47 #[.int .i64 (it.st : Int), .int .u64 (it.key : Int), .int .u64 (it.val : Int)] ∧ aj w' eb 30 #[.nilIface] := by
 have HO := qd hO
 have HE := qd hE
 have HN := qd hN
 have HC := qd hc
 have x0 := hF.cell 0
 simp only [List.getElem?_toArray, List.getElem?_cons_zero] at x0
 have hgg := hG
 have HOE := qd hoe
 clear hF hO hE hN hc hoe
 go_in
 go_wp2_with fail
 refine HC.out.mono ?_
 rintro y w1 ⟨it, rfl, hm, hk⟩
 have wZ := HO.out.mod hm HN.out.1
 have hE1 := HE.out.mod hm HN.out.2
 have o0 := wZ.cell 0
 have o1 := wZ.cell 1
 have o2 := wZ.cell 2
 have e0 := hE1.cell 0
 simp only [gl] at o0 o1 o2 e0
 obtain ⟨of0, of1, of2⟩ := wZ.f3
 have ef0 := hE1.frozen 0
 have hid := hE1.zy (i := 0) (u := .nilIface) rfl
 have hn := ((wZ.ak 0 (.int .i64 (it.st : Int))).ak 1 (.int .u64 (it.key : Int))).ak 2 (.int .u64 (it.val : Int))
 have hm2 := (((Mod.refl [ob] w1).sl 0 (.int .i64 (it.st : Int))).sl 1 (.int .u64 (it.key : Int))).sl 2 (.int .u64 (it.val : Int))
 simp only [pt] at hn
 have hE2 := hE1.mod hm2 (fun hh => HOE.out (List.mem_singleton.1 hh).symm)
 have aar := hE2.zy (i := 0) (u := .nilIface) rfl
 have HF := qd (show ∃ it w2, K it w2 ∧ Mod S V w2 ∧ Mod [ob] w2 _ ∧ aj _ ob 47 #[.int .i64 (it.st : Int), .int .u64 (it.key : Int), .int .u64 (it.val : Int)] ∧ aj _ eb 30 #[.nilIface] from ⟨it, w1, hk, hm, hm2, hn, hE2⟩)
 have hne1 := HOE.out
 have hne2 : eb ≠ ob := fun e => hne1 e.symm
 clear e0 ef0
 have e0 := hE1.cell 0
 simp only [gl] at e0
 have ef0 := hE1.frozen 0
 have HI := qd aar
 clear hm hk wZ hE1 hid hn hm2 hE2 aar
 unfold uQ
 go_wp2
 go_end0
 rw [HI.out]
 exact ⟨rfl, HF.out⟩
theorem VR {S : List Nat} {K : World → gQ → World → Prop} (G : FuncId) (cap : Array Value) (w : World) (hG : ∀ W : World, (callFunc G cap).run Tryz.prog W = .ok (.enter G cap) W) (hS : ∀ q ∈ S, q < w.heap.size)
  (hc : ∀ V, Below w.heap.size w V → w.heap.size + 5 ≤ V.heap.size → Calls Tryz.prog G cap V fun y w1 => ∃ it, y = .returned (.tuple #[uQ it, .nilIface]) ∧ Mod S V w1 ∧ K V it w1) :
  Calls Tryz.prog 35 #[.func (.func G) #[] cap] w fun y w' => ∃ V it w1 T, y = .returned (.tuple #[uQ it, .nilIface]) ∧ Below w.heap.size w V ∧ Mod S V w1 ∧ K V it w1 ∧ Mod T w1 w' ∧ ∀ q ∈ T, w.heap.size ≤ q ∧ q < V.heap.size := by
 obtain ⟨W, hW, hB, hBf, hBr, hBo, Wn, Cm⟩ := Yr w 86 #[.func (.func G) #[] cap] 47 #[.int .i64 0, .int .u64 0, .int .u64 0] 47 #[.int .i64 0, .int .u64 0, .int .u64 0] 47 #[.int .i64 0, .int .u64 0, .int .u64 0] 30 #[.nilIface]
 have hsz := hB.size
 have HW := qd hW
 have HB := qd hB
 have WQ := Cm.lt
 have SY := qd hBf
 have HBr := qd hBr
 have L8 := qd hBo
 have uP := qd Cm
 have HS := qd hS
 have HC := qd hc
 clear hW hB hBf hBr hBo Wn Cm hS hc
 have nX : ∀ (fn : Fn) (first cap : Array Value) (w : World), (Instr.makeFunc fn first cap).run Tryz.prog w = .ok (.func fn first cap) w := fun _ _ _ _ => rfl
 have hq : ∀ W : World, (binOp .eql 86 (.func (.func G) #[] cap) .nilFunc).run Tryz.prog W = .ok (.bool false) W := fun W => by
  simp only [binOp]
  simp [aap]
 have ow := (Below.refl W.heap.size W).alloc (Nat.le_refl _) (.cells #[.nilIface] 30)
 have qx : Below w.heap.size w (W.alloc (.cells #[.nilIface] 30)) := bE ow HB.out
 have hlV : w.heap.size + 5 ≤ (W.alloc (.cells #[.nilIface] 30)).heap.size := by simp; omega
 have Xr := qd (show ∀ q, w.heap.size ≤ q → q ∉ S from fun q hq hs => by have := HS.out q hs; omega)
 have sj := qd (zX (S := (w.heap.size + 1 + 1) :: S) (K := fun w' => ∃ it w1, K (W.alloc (.cells #[.nilIface] 30)) it w1 ∧ Mod S (W.alloc (.cells #[.nilIface] 30)) w1 ∧ Mod [(w.heap.size + 1 + 1)] w1 w' ∧ aj w' (w.heap.size + 1 + 1) 47 #[.int .i64 (it.st : Int), .int .u64 (it.key : Int), .int .u64 (it.val : Int)] ∧ aj w' (w.heap.size + 1 + 1 + 1 + 1) 30 #[.nilIface]) 56 #[.pointer (some ⟨w.heap.size, 0, none⟩), .pointer (some ⟨(w.heap.size + 1 + 1), 0, none⟩), .pointer (some ⟨(w.heap.size + 1 + 1 + 1 + 1), 0, none⟩)] W (fun V => enters_of Tryz.func56 (by kernel_rfl) rfl _ V)
  (fun hg => by
   rcases List.mem_cons.1 hg with k | k
   ·omega
   ·exact Xr.out _ (by omega) k)
  ((Ym G cap hG (SY.out.mod (Mod.of_below ow []) (by simp)) (L8.out.mod (Mod.of_below ow []) (by simp)) (uP.out.mod (Mod.of_below ow []) (by simp)) ⟨Xr.out _ (by omega), Xr.out _ (by omega)⟩ (by omega) (HC.out _ qx hlV)).mono (fun y w1 hh => ⟨hh.1, (by
   obtain ⟨it, w2, k1, k2, k3, _, _⟩ := hh.2
   exact k2.trans k3 (fun q hq _ => List.mem_cons_of_mem _ hq) (fun q hq _ => by rw [List.mem_singleton.1 hq]; simp)), hh.2⟩)))
 have HV := qd (And.intro qx hlV)
 have Mk := qd ow
 have x0 := SY.out.cell 0
 simp only [List.getElem?_toArray, List.getElem?_cons_zero] at x0
 clear ow qx hlV
 go_in
 go_upto_region 3 with fail
 rw [← HW.out]
 go_wp2_with fail
 refine sj.out.mono ?_
 rintro y w1 ⟨rfl, hm1, it, w2, hk, hm2, jV, ho, he⟩
 have hr1 := (HBr.out.mod (Mod.of_below Mk.out []) (by simp)).mod hm1 (fun hg => by
  rcases List.mem_cons.1 hg with k | k
  ·omega
  ·exact Xr.out _ (by omega) k)
 have r0 := hr1.cell 0
 have r1 := hr1.cell 1
 have r2 := hr1.cell 2
 have o0 := ho.cell 0
 have o1 := ho.cell 1
 have o2 := ho.cell 2
 have e0 := he.cell 0
 simp only [gl] at r0 r1 r2 o0 o1 o2 e0
 obtain ⟨f0, f1, f2⟩ := hr1.f3
 have gJ := (((Mod.refl [(w.heap.size + 1)] w1).sl 0 (.int .i64 (it.st : Int))).sl 1 (.int .u64 (it.key : Int))).sl 2 (.int .u64 (it.val : Int))
 have hmt := jV.trans gJ (U := [(w.heap.size + 1), (w.heap.size + 1 + 1)]) (fun q hq _ => by simp at hq ⊢; exact .inr hq) (fun q hq _ => by simp at hq ⊢; exact .inl hq)
 have HF := qd (show ∃ V I9 w1 T, (Ending.returned (.tuple #[.agg #[.int .i64 (it.st : Int), .int .u64 (it.key : Int), .int .u64 (it.val : Int)], .nilIface])) = .returned (.tuple #[uQ I9, .nilIface]) ∧ Below w.heap.size w V ∧ Mod S V w1 ∧ K V I9 w1 ∧ Mod T w1 _ ∧ ∀ q ∈ T, w.heap.size ≤ q ∧ q < V.heap.size from ⟨_, it, w2, _, rfl, HV.out.1, hm2, hk, hmt, fun q hq => by
  have := HV.out.2
  simp at hq
  rcases hq with k | k <;> omega⟩)
 clear hm1 hk hm2 jV ho he hr1 gJ hmt sj
 go_wp2
 refine bodyPost_ret (v := .tuple #[.agg #[.int .i64 (it.st : Int), .int .u64 (it.key : Int), .int .u64 (it.val : Int)], .nilIface]) (by simp [results, Tryz.results35, go_sem, r0, r1, r2]) rfl HF.out
section
variable {its : List It} {I Kk M b cb gv id : Nat} {c : gq} {W0 : World} {E : Nat → Addr} {H : Nat → Nat} {a : Pool} {ids : List Nat}
theorem Ql (hn : (its.map It.id).Nodup) (hi : ⟨id, cb, c⟩ ∈ its) : jP its id c = its := by
 unfold jP
 conv => rhs; rw [← List.map_id its]
 apply List.map_congr_left
 intro i hi'
 by_cases h : i.id = id
 ·rw [if_pos h, wQ hn hi' hi h]; rfl
 ·rw [if_neg h]; rfl
theorem VT {G0 : List Nat} {w0 V : World} {C : fZ} {GC : List Nat} {mb : Nat} {pm pc : Nat} (hS : fO W0 E H Kk M I b G0 w0 C GC mb gv V a ids its) (hm : aj V pm 28 #[.pointer (some ⟨b, 0, none⟩)]) (hc : aj V pc 80 #[.pointer (some ⟨cb, 0, none⟩)]) (hi : ⟨id, cb, c⟩ ∈ its) (hd : c.done = false) (hok : c.ok) : Calls Tryz.prog 36 #[.pointer (some ⟨pm, 0, none⟩), .pointer (some ⟨pc, 0, none⟩)] V fun y w' => ∃ it, y = .returned (.tuple #[uQ it, .nilIface]) ∧ Mod (cb :: GC) V w' ∧ rP W0 E H Kk M I b G0 w0 C GC mb gv a ids its id cb c V it w' := by
 have hsl := hS.fQ
 have hW0 := hS.mod.size
 have hB := (Below.refl V.heap.size V).alloc (Nat.le_refl _) (.cells #[.int .i64 0, .int .u64 0, .int .u64 0] 47)
 have hR := aj.new V 47 #[.int .i64 0, .int .u64 0, .int .u64 0]
 obtain ⟨W, hW⟩ : ∃ W, W = V.alloc (.cells #[.int .i64 0, .int .u64 0, .int .u64 0] 47) := ⟨_, rfl⟩
 rw [← hW] at hB hR
 have hst := Yk (hS.below hB) hi hd hok
 have kN := qd hst
 have HR := qd hR
 have HW := qd hW
 have HB := qd hB
 have Xq := qd (show V.heap.size ∉ dU b C GC mb its from fun hg => by have := (hsl _ hg).1; omega)
 have Oo := qd (show V.heap.size ∉ cb :: GC from fun hg => by
  rcases List.mem_cons.1 hg with k | k
  ·have : cb < V.heap.size := (hS.ou.cur _ hi).lt; omega
  ·have := (hsl _ (aG.2 (.inr (.inr k)))).1; omega)
 have HL := qd (show V.heap.size < W.heap.size from hR.lt)
 have HCb := qd (show cb ∈ dz C.ib mb its from by
  unfold dz
  simp only [List.mem_cons, List.mem_map]
  exact .inr (.inr ⟨_, hi, rfl⟩))
 have HW0 := qd hW0
 have x0 := (hm.mod (Mod.of_below hB []) (by simp)).cell 0
 have y0 := (hc.mod (Mod.of_below hB []) (by simp)).cell 0
 simp only [List.getElem?_toArray, List.getElem?_cons_zero] at x0 y0
 clear hst hR hW hB hS hi hd hok hm hc hsl hW0
 go_in
 go_upto_region 1 with fail
 rw [← HW.out]
 go_wp2_with fail
 refine kN.out.mono ?_
 rintro y w1 ⟨it, rfl, hp⟩
 have hmm : Mod (cb :: GC) W w1 := by obtain ⟨_, _, _, _, _, _, _, _, q⟩ := hp; exact q
 have hr1 := HR.out.mod hmm Oo.out
 obtain ⟨r0, r1, r2⟩ := hr1.c3
 obtain ⟨f0, f1, f2⟩ := hr1.f3
 have gJ := (((Mod.refl [V.heap.size] w1).ak (b := V.heap.size) (.inl (by simp)) 0 (.int .i64 (it.st : Int))).ak (b := V.heap.size) (.inl (by simp)) 1 (.int .u64 (it.key : Int))).ak (b := V.heap.size) (.inl (by simp)) 2 (.int .u64 (it.val : Int))
 obtain ⟨c', cc, fI, q1, q2, q3, q4, q5, q6⟩ := hp.mod gJ (fun q hq => by rw [List.mem_singleton.1 hq]; exact ⟨Xq.out, HW0.out, HL.out⟩)
 have hq6 := (Mod.of_below HB.out (cb :: GC)).trans q6 (fun q hq _ => hq) (fun q hq hl => by
  rcases List.mem_cons.1 hq with k | k
  ·rw [k]; simp
  ·rcases List.mem_append.1 k with k | k
   ·exact List.mem_cons_of_mem _ k
   ·rw [List.mem_singleton.1 k] at hl; omega)
 have HF := qd (show ∃ I9, (Ending.returned (.tuple #[.agg #[.int .i64 (it.st : Int), .int .u64 (it.key : Int), .int .u64 (it.val : Int)], .nilIface])) = .returned (.tuple #[uQ I9, .nilIface]) ∧ Mod (cb :: GC) V _ ∧ rP W0 E H Kk M I b G0 w0 C GC mb gv a ids its id cb c V I9 _ from ⟨it, rfl, hq6, c', cc, fI, q1, q2, q3, q4, fun q hq => (q5 q hq).elim .inl (fun k => .inr (by have := HL.out; omega)), hq6⟩)
 clear hmm hr1 gJ q1 q2 q3 q4 q5 q6 hq6 hp kN
 unfold uQ
 go_wp2
 refine bodyPost_ret (v := .tuple #[.agg #[.int .i64 (it.st : Int), .int .u64 (it.key : Int), .int .u64 (it.val : Int)], .nilIface]) (by simp [results, Tryz.results36, go_sem, r0, r1, r2]) rfl HF.out
theorem GN {G : List Nat} {w : World} {jw : bF} (h : jI W0 E H Kk M I b G w a ids its gv jw) (Cq : gT E W0 6) (hi : ⟨id, cb, c⟩ ∈ its) (hok : c.ok) : Calls Tryz.prog 14 #[.pointer (some ⟨b, 0, none⟩), .int .i64 (id : Int)] w fun y w' => ∃ it c' jO, y = .returned (.tuple #[uQ it, .nilIface]) ∧ iV a.ents (kU a) c it c' ∧ Mj jO ∧ wR W0 E H Kk M I b G w w' a ids (jP its id c') gv jO := by
 obtain ⟨C, GC, mb, hS, rfl, yw⟩ := h
 obtain ⟨W, hW, hB, hBm, hBr⟩ := lK w 28 #[.pointer (some ⟨b, 0, none⟩)] 47 #[.int .i64 0, .int .u64 0, .int .u64 0]
 have hlt := fun q hq => (hS.fQ q hq).1
 have gN := qd (show ∀ q, w.heap.size ≤ q → q ∉ dU b C GC mb its from fun q hq hg => by have := hlt q hg; omega)
 have HS := qd (hS.below hB)
 have HX := qd hBm
 have HR := qd hBr
 have HB := qd hB
 have HW := qd hW
 have HI := qd hi
 have H8 := qd hok
 have KG := qd hS.ou.nd
 have hbk := (hS.below hB).blk.blk
 unfold fZ.cells at hbk
 have c16 := hbk.cell 16
 simp only [gl] at c16
 have x0 := hBm.cell 0
 simp only [List.getElem?_toArray, List.getElem?_cons_zero] at x0
 have kr := qd (VH (hS.below hB).ou hi)
 have h6 : W.cell? ⟨gE 6, 0, none⟩ = some (.iface 285 (.pointer (some (E 6)))) := (World.cell?_of_block ((hS.below hB).core.facts.2.2.2.2.2.2.2.2.2.2.2.below.block _ (World.block_lt_of_cell? W0 _ Cq))).trans Cq
 have H6 := qd h6
 have Xk := qd (show ∀ q ∈ cb :: GC, q < w.heap.size from fun q hq => by
  rcases List.mem_cons.1 hq with k | k
  ·rw [k]; exact (hS.ou.cur _ hi).lt
  ·exact hlt q (aG.2 (.inr (.inr k))))
 have HCb := qd (show cb ∈ dz C.ib mb its from by
  unfold dz
  simp only [List.mem_cons, List.mem_map]
  exact .inr (.inr ⟨_, hi, rfl⟩))
 clear hbk hW hB hBm hBr hS hi hok hlt yw h6
 go_in
 go_upto_region 1 with fail
 rw [← HW.out]
 go_wp2_with fail
 refine kr.out.mono ?_
 rintro y w1 ⟨rfl, rfl⟩
 clear kr x0 c16
 go_upto_region 2 with fail
 refine bY 80 #[.pointer (some ⟨cb, 0, none⟩)] ?_
 rintro W1 ⟨hP, hb⟩
 have h6 := aF hb H6.out
 have HP := qd hP
 replace HS := qd (HS.out.below hb)
 replace HX := qB hb HX
 replace HR := qB hb HR
 have HB1 := qd (bE hb HB.out)
 obtain ⟨pc, hpc⟩ : ∃ pc, pc = W.heap.size := ⟨_, rfl⟩
 rw [← hpc] at HP ⊢
 have yX := qd hpc
 replace H6 := qd h6
 clear hP hb hpc h6
 have p0 := HP.out.cell 0
 simp only [List.getElem?_toArray, List.getElem?_cons_zero] at p0
 have hdn := DJ (HS.out.ou.cur _ HI.out)
 have HNr := qd (show (w.heap.size + 1) ∉ [b] from fun hg => gN.out _ (by omega) (aG.2 (.inl (List.mem_singleton.1 hg))))
 have FV := qd HNr.out
 have x0 := HX.out.cell 0
 simp only [List.getElem?_toArray, List.getElem?_cons_zero] at x0
 cases hd : c.done with
 | true =>
  rw [hd] at hdn
  have HDn := qd hdn
  have Az := qd (show Calls Tryz.prog 22 #[.pointer (some ⟨b, 0, none⟩), .agg #[.int .i64 0, .int .i64 0, .int .i64 0]] W1 _ from zW HS.out.blk ⟨0, 0, 0⟩)
  have Xj := qd (fun V => aaq (E 6) V)
  have Sg := qd hd
  clear hdn hd
  go_wp2_with fail
  refine HDn.out.mono ?_
  rintro y w2 ⟨rfl, rfl⟩
  clear HDn
  go_wp2_with fail
  refine Az.out.mono ?_
  rintro y w2 ⟨rfl, hB2, hm2⟩
  have hs2 := HS.out.Qh hB2 hm2 ⟨rfl, rfl, rfl, rfl, rfl⟩
  have hgb : gE 6 ∉ [b] := fun hh => by
   have h1 := World.block_lt_of_cell? W0 _ Cq
   have h2 := HS.out.b0.1
   rw [List.mem_singleton.1 hh] at h1
   exact absurd h1 (by show ¬ b < W0.heap.size; omega)
  have h6 : w2.cell? ⟨gE 6, 0, none⟩ = some (.iface 285 (.pointer (some (E 6)))) := (World.cell?_of_block (hm2.block _ (World.block_lt_of_cell? W1 _ H6.out) hgb)).trans H6.out
  unfold gE at h6
  have hr2 := HR.out.mod hm2 HNr.out
  obtain ⟨r0, r1, r2⟩ := hr2.c3
  obtain ⟨f0, f1, f2⟩ := hr2.f3
  have HS2 := qd hs2
  clear hs2 hB2 hm2 hgb hr2 Az
  go_wp2_with fail
  refine (Xj.out _).mono ?_
  rintro y w3 ⟨rfl, rfl⟩
  clear Xj
  have gJ := (((Mod.refl [w.heap.size + 1] w2).ak (b := w.heap.size + 1) (.inl (by simp)) 0 (.int .i64 3)).ak (b := w.heap.size + 1) (.inl (by simp)) 1 (.int .u64 0)).ak (b := w.heap.size + 1) (.inl (by simp)) 2 (.int .u64 0)
  have hs3 := HS2.out.Cj gJ (fun q hq => by rw [List.mem_singleton.1 hq]; exact ⟨gN.out _ (by omega), by omega⟩)
  have hto := hs3.to
  have HF := qd (show ∃ it c' jO, (Ending.returned (.tuple #[.agg #[.int .i64 3, .int .u64 0, .int .u64 0], .nilIface])) = .returned (.tuple #[uQ it, .nilIface]) ∧ iV a.ents (kU a) c it c' ∧ Mj jO ∧ wR W0 E H Kk M I b (dU b C GC mb its) w _ a ids (jP its id c') gv jO from ⟨⟨3, 0, 0⟩, c, ⟨0, 0, 0⟩, rfl, .done Sg.out, ⟨by decide, by decide, rfl⟩, by rw [Ql KG.out HI.out]; exact hto⟩)
  clear gJ hs3 hto h6
  go_wp2
  refine bodyPost_ret (v := .tuple #[.agg #[.int .i64 3, .int .u64 0, .int .u64 0], .nilIface]) (by simp [results, Tryz.results14, go_sem, r0, r1, r2]) rfl HF.out
 | false =>
  rw [hd] at hdn
  have HDn := qd hdn
  have nX : ∀ (fn : Fn) (first cap : Array Value) (w : World), (Instr.makeFunc fn first cap).run Tryz.prog w = .ok (.func fn first cap) w := fun _ _ _ _ => rfl
  have QO := qd (VR (S := cb :: GC) (K := fun V it w1 => rP W0 E H Kk M I b (dU b C GC mb its) w C GC mb gv a ids its id cb c V it w1) 36 #[.pointer (some ⟨w.heap.size, 0, none⟩), .pointer (some ⟨pc, 0, none⟩)] W1 (fun V => enters_of Tryz.func36 (by kernel_rfl) rfl _ V) (fun q hq => Nat.lt_of_lt_of_le (Xk.out q hq) HB1.out.size)
   (fun V qx _ => VT (HS.out.below qx) (HX.out.mod (Mod.of_below qx []) (by simp)) (HP.out.mod (Mod.of_below qx []) (by simp)) HI.out hd H8.out))
  have Ow := qd (show w.heap.size < W1.heap.size ∧ w.heap.size + 1 < W1.heap.size from ⟨HX.out.lt, HR.out.lt⟩)
  clear hdn hd p0
  have p0 := HP.out.cell 0
  simp only [List.getElem?_toArray, List.getElem?_cons_zero] at p0
  go_wp2_with fail
  refine HDn.out.mono ?_
  rintro y w2 ⟨rfl, rfl⟩
  clear HDn
  go_wp2_with fail
  refine QO.out.mono ?_
  rintro y w3 ⟨V, it, w2, T, rfl, qx, hmS, hst, Xt, hT⟩
  have hxs : ∀ q, w.heap.size ≤ q → q < W1.heap.size → q ∉ cb :: GC ∧ q ∉ T := fun q h1 h2 => ⟨fun hh => by have := Xk.out q hh; omega, fun hh => by have := (hT q hh).1; omega⟩
  have hX3 := ((HX.out.mod (Mod.of_below qx []) (by simp)).mod hmS (hxs _ (Nat.le_refl _) Ow.out.1).1).mod Xt (hxs _ (Nat.le_refl _) Ow.out.1).2
  have rY := ((HR.out.mod (Mod.of_below qx []) (by simp)).mod hmS (hxs _ (by omega) Ow.out.2).1).mod Xt (hxs _ (by omega) Ow.out.2).2
  obtain ⟨c', cc, fI, q1, q2, q3, q4, q5, q6⟩ := hst.mod Xt (fun q hq => by
   have := hT q hq
   have := HB1.out.size
   exact ⟨gN.out q (by omega), by omega, by omega⟩)
  replace HX := qd hX3
  replace HR := qd rY
  replace HS := qd q3
  have sj := qd q4
  have jl := qd (And.intro q1 q2)
  have HR4 := qd (show (w.heap.size + 1) ∉ fI from fun hg => (q5 _ hg).elim (fun k => gN.out _ (by omega) (aG.2 (.inr (.inr k)))) (fun k => by have := Ow.out.2; have := qx.size; omega))
  have Kz := qd (show ∀ q, w3.heap.size ≤ q → q ≠ b from fun q hq e => by have := q3.blk.lt; omega)
  clear hxs hX3 rY hst Xt hT hmS qx q1 q2 q3 q4 q5 q6 QO p0 x0
  unfold uQ
  go_upto_region 8 with fail
  refine bY 47 #[.int .i64 (it.st : Int), .int .u64 (it.key : Int), .int .u64 (it.val : Int)] ?_
  rintro W4 ⟨hO, hb⟩
  replace HS := qd (HS.out.below hb)
  replace sj := qd (sj.out.below hb)
  replace HX := qB hb HX
  replace HR := qB hb HR
  have HO := qd hO
  have Lm := qd (show w3.heap.size ∉ [b] from fun hh => Kz.out _ (Nat.le_refl _) (List.mem_singleton.1 hh))
  obtain ⟨ob, mX⟩ : ∃ ob, ob = w3.heap.size := ⟨_, rfl⟩
  rw [← mX] at HO Lm ⊢
  clear hO hb mX
  have hcc := sj.out
  have hbk := HS.out.blk.blk
  unfold fZ.cells at hbk
  have c3 := hbk.cell 3
  simp only [gl] at c3
  have x0 := HX.out.cell 0
  simp only [List.getElem?_toArray, List.getElem?_cons_zero] at x0
  have fM := qd (CK (hcc.below (Below.refl W4.heap.size W4).drew))
  unfold nu at fM
  clear hbk hcc
  refine rT (fun (w' : World) => w'.cell? ⟨w.heap.size, 0, none⟩ = some (.pointer (some ⟨b, 0, none⟩)) ∧ w'.cell? ⟨b, 3, none⟩ = some (.pointer (some ⟨C.cb, 0, none⟩))) [7] ?_
  have hHeld := (⟨x0, c3⟩ : _ ∧ _)
  refine vT 0 rfl ?_
  refine nT 1 rfl fun K hK => ?_
  go_simp
  refine kO hK ?_
  clear hK K
  refine vW 2 rfl ?_
  refine vW 3 rfl ?_
  refine nT 4 rfl fun K hK => ?_
  go_simp
  refine kO hK ?_
  clear hK K
  refine nT 5 rfl fun K hK => ?_
  go_simp
  refine (vk _ _).mono ?_
  rintro y V1 ⟨rfl, rfl⟩
  go_wp2_with fail
  have hHeld := (⟨x0, c3⟩ : _ ∧ _)
  refine kO hK ?_
  clear hK K
  refine nT 6 rfl fun K hK => ?_
  go_simp
  refine (fM.out).mono ?_
  rintro y V2 ⟨rfl, hb⟩
  replace hb : Below W4.heap.size W4 V2 := bE hb (Below.refl _ _).drew
  replace HS := qd (HS.out.below hb)
  replace HR := qB hb HR
  replace HO := qB hb HO
  replace x0 := aF hb x0
  replace c3 := aF hb c3
  clear hb fM
  go_wp2_with fail
  have hHeld := (⟨x0, c3⟩ : _ ∧ _)
  refine kO hK ?_
  clear hK K
  refine nT 7 rfl fun K hK => ?_
  go_simp
  have kT := qd (show Calls Tryz.prog 22 #[.pointer (some ⟨b, 0, none⟩), .agg #[.int .i64 cc.p, .int .i64 cc.v, .int .i64 cc.u]] V2 _ from zW HS.out.blk cc)
  refine (kT.out).mono ?_
  rintro y V3 ⟨rfl, hwr, q3⟩
  have ku := qd (HS.out.Qh hwr q3 ⟨rfl, rfl, rfl, rfl, rfl⟩)
  replace HR := qd (HR.out.mod q3 FV.out)
  replace HO := qd (HO.out.mod q3 Lm.out)
  clear hwr q3 kT HS x0 c3
  go_wp2_with fail
  refine kO hK ?_
  clear hK K
  refine aS (by kernel_rfl) ?_ _
  have o0 := HO.out.cell 0
  have o1 := HO.out.cell 1
  have o2 := HO.out.cell 2
  have r0 := HR.out.cell 0
  have r1 := HR.out.cell 1
  have r2 := HR.out.cell 2
  simp only [gl] at o0 o1 o2 r0 r1 r2
  obtain ⟨f0, f1, f2⟩ := HR.out.f3
  have gJ := (((Mod.refl [w.heap.size + 1] V3).ak (b := w.heap.size + 1) (.inl (by simp)) 0 (.int .i64 (it.st : Int))).ak (b := w.heap.size + 1) (.inl (by simp)) 1 (.int .u64 (it.key : Int))).ak (b := w.heap.size + 1) (.inl (by simp)) 2 (.int .u64 (it.val : Int))
  have hs3 := ku.out.Cj gJ (fun q hq => by
   rw [List.mem_singleton.1 hq]
   refine ⟨fun hg => ?_, by omega⟩
   have mW := HR4.out
   rcases aG.1 hg with k | k | k
   ·exact gN.out _ (by omega) (aG.2 (.inl k))
   ·rw [vw] at k; exact gN.out _ (by omega) (aG.2 (.inr (.inl k)))
   ·exact mW k)
  have hto := hs3.to
  have HF := qd (show ∃ I9 c' jO, (Ending.returned (.tuple #[.agg #[.int .i64 (it.st : Int), .int .u64 (it.key : Int), .int .u64 (it.val : Int)], .nilIface])) = .returned (.tuple #[uQ I9, .nilIface]) ∧ iV a.ents (kU a) c I9 c' ∧ Mj jO ∧ wR W0 E H Kk M I b (dU b C GC mb its) w _ a ids (jP its id c') gv jO from ⟨it, c', cc, rfl, jl.out.1, jl.out.2, hto⟩)
  clear gJ hs3 hto
  go_wp2
  refine bodyPost_ret (v := .tuple #[.agg #[.int .i64 (it.st : Int), .int .u64 (it.key : Int), .int .u64 (it.val : Int)], .nilIface]) (by simp [results, Tryz.results14, go_sem, r0, r1, r2]) rfl HF.out
end
section
variable {W0 w : World} {E : Nat → Addr}
theorem S9 (H : Nat → Nat) (hE : Env W0 E w) (k m i : Int) (hcf : pK k m i = true) (K M I : Nat) (hkm : (1 ≤ K ∧ K ≤ 64) ∧ (1 ≤ M ∧ M ≤ 192) ∧ k = (K : Int) ∧ m = (M : Int) ∧ i = (I : Int)) (J4 : 1 ≤ I ∧ I ≤ 8) : Calls Tryz.prog 6 #[iC k m i] w fun y w' => ∃ b G, y = .returned (.tuple #[.pointer (some ⟨b, 0, none⟩), .nilIface]) ∧ jI W0 E H K M I b G w' kg [] [] 0 ⟨0, 0, 0⟩ ∧ (∀ q ∈ G, w.heap.size ≤ q) ∧ Below w.heap.size w w' := by
 obtain ⟨hK, hM, rfl, rfl, rfl⟩ := hkm
 have HI := qd (And.intro hK (And.intro hM J4))
 have hB0 := aj.new w 23 #[.int .i64 (K : Int), .int .i64 (M : Int), .int .i64 (I : Int)]
 have hb0 := (Below.refl w.heap.size w).alloc (Nat.le_refl _) (.cells #[.int .i64 (K : Int), .int .i64 (M : Int), .int .i64 (I : Int)] 23)
 obtain ⟨W, hW⟩ : ∃ W, W = w.alloc (.cells #[.int .i64 (K : Int), .int .i64 (M : Int), .int .i64 (I : Int)] 23) := ⟨_, rfl⟩
 rw [← hW] at hB0 hb0
 have hnb := VE H (hE.next hb0) (K : Int) (M : Int) (I : Int) hcf K M I ⟨hK, hM, rfl, rfl, rfl⟩
 have c := hB0.c3
 unfold iC at hnb ⊢
 have iE := qd hnb
 have HX := qd hB0
 have HB := qd hb0
 have HW := qd hW
 have HE := qd hE
 clear hnb hB0 hb0 hW hK hM J4 hE
 go_in
 go_upto_region 1 with fail
 rw [← HW.out]
 go_wp2_with fail
 refine iE.out.mono ?_
 rintro y w1 ⟨cb, rfl, hnew⟩
 obtain ⟨GC, hC, hsu, hmo⟩ := aag hnew
 have hb1 := hmo.zo
 have HC := qd hC
 have Ck := qd (show ∀ q ∈ GC, W.heap.size ≤ q from fun q hq => (hsu q hq).elim (fun k => by cases k) (fun k => k))
 have HGl := qd (show ∀ q ∈ GC, q < w1.heap.size from fun q hq => (hC.facts.2.2.2.2.2.2.2.2.2.2.1 q hq).1)
 replace HX := qB hb1 HX
 have HB1 := qd (bE hb1 HB.out)
 have Ta := qd hb1.size
 have HZ := qd (show w.heap.size < W.heap.size from by rw [HW.out]; simp)
 clear hnew hC hsu hmo hb1 iE c
 have c := HX.out.c3
 have F5 := qd (SF I HI.out.2.2 w1)
 unfold aZ
 go_wp2_with fail
 refine F5.out.mono ?_
 rintro y w2 ⟨rfl, hit, hb2⟩
 replace HC := qd (HC.out.below hb2)
 replace HX := qB hb2 HX
 have HB2 := qd (bE hb2 HB1.out)
 have HIa := qd hit
 have HL1 := qd (show W.heap.size ≤ w1.heap.size ∧ w1.heap.size + 1 < w2.heap.size from ⟨Ta.out, hit.blk.lt⟩)
 clear hit hb2 F5 c
 have c := HX.out.c3
 obtain ⟨ib, hib⟩ : ∃ ib, ib = w1.heap.size + 1 := ⟨_, rfl⟩
 obtain ⟨mb, hmb⟩ : ∃ mb, mb = w1.heap.size := ⟨_, rfl⟩
 rw [← hib] at HIa HL1 ⊢
 rw [← hmb] at HIa
 have HQ := qd (show mb = w1.heap.size ∧ ib = w1.heap.size + 1 from ⟨hmb, hib⟩)
 clear hib hmb
 obtain ⟨C, Aa⟩ : ∃ C : fZ, C = ⟨(K : Int), (M : Int), (I : Int), cb, 0, 0, ⟨0, 0, 0⟩, ⟨0, 0, 0⟩, ib, ⟨0, 0, 0⟩, ⟨0, 0, 0⟩⟩ := ⟨_, rfl⟩
 have hbb := (Below.refl w2.heap.size w2).alloc (Nat.le_refl _) (.cells C.cells 69)
 have hnb := aj.new w2 69 C.cells
 have hS : fO W0 E H K M I w2.heap.size [] w C GC mb 0 (w2.alloc (.cells C.cells 69)) kg [] [] := by
  have h1 := HL1.out.1
  have h2 := HL1.out.2
  obtain ⟨g1, g2⟩ := HQ.out
  have hg := HGl.out
  have hs := Ck.out
  have hz := HZ.out
  have hw0 := HE.out.size
  have e1 : C.cb = cb := by rw [Aa]
  have e2 : C.ib = ib := by rw [Aa]
  have hf : ∀ q, q ∈ dz ib mb [] → q = ib ∨ q = mb := fun q hq => by unfold dz at hq; simpa using hq
  refine ⟨⟨hnb, by rw [Aa]; exact Nat.zero_le _, by rw [Aa]; exact Nat.zero_le _⟩, by rw [Aa]; exact ⟨rfl, rfl, rfl⟩, by rw [e1]; exact HC.out.below hbb, by rw [e2]; exact HIa.out.below hbb, ⟨by omega, fun q hq => ?_⟩, ⟨fun hh => by have := hg _ hh; omega, fun hh => ?_, fun q hq hh => ?_⟩, fun q hq => .inr ?_, (Mod.of_below (bE hbb HB2.out) []), hw0⟩
  ·rw [e2] at hq; rcases hf q hq with k | k <;> omega
  ·rw [e2] at hh; rcases hf _ hh with k | k <;> omega
  ·rw [e2] at hq; have := hg q hh; rcases hf q hq with k | k <;> omega
  ·rcases aG.1 hq with k | k | k
   ·omega
   ·rw [e2] at k; rcases hf q k with k | k <;> omega
   ·have := hs q k; omega
 have hto := hS.to
 have hbz := bE hbb HB2.out
 rw [Aa] at hto hbz
 unfold fZ.cells at hto hbz
 have HF := qd (And.intro hto hbz)
 clear hS hto hbz hbb hnb Aa
 go_wp2
 refine bodyPost_ret (v := .tuple #[.pointer (some ⟨w2.heap.size, 0, none⟩), .nilIface]) (by simp [results, Tryz.results6, go_sem]) rfl ?_
 obtain ⟨G', k1, k2, k3⟩ := HF.out.1
 exact ⟨w2.heap.size, G', rfl, k1, fun q hq => (k2 q hq).elim (fun z => by cases z) (fun z => z), HF.out.2⟩
theorem Qm (hE : Env W0 E w) (k m i : Int) (hcf : pK k m i = false) : Calls Tryz.prog 6 #[iC k m i] w fun y w' => y = .returned (.tuple #[.pointer none, kW E 1]) ∧ Below w.heap.size w w' := by
 have hB0 := aj.new w 23 #[.int .i64 k, .int .i64 m, .int .i64 i]
 have hb0 := (Below.refl w.heap.size w).alloc (Nat.le_refl _) (.cells #[.int .i64 k, .int .i64 m, .int .i64 i] 23)
 obtain ⟨W, hW⟩ : ∃ W, W = w.alloc (.cells #[.int .i64 k, .int .i64 m, .int .i64 i] 23) := ⟨_, rfl⟩
 rw [← hW] at hB0 hb0
 have hnb := Ma (hE.next hb0) k m i hcf
 obtain ⟨c0, c1, c2⟩ := hB0.c3
 rw [jc E (by omega : 1 ≤ 1)] at hnb ⊢
 unfold iC at hnb ⊢
 have iE := qd hnb
 have HB := qd hb0
 have HW := qd hW
 clear hnb hB0 hb0 hW hE
 go_in
 go_upto_region 1 with fail
 rw [← HW.out]
 go_wp2_with fail
 refine iE.out.mono ?_
 rintro y w1 ⟨rfl, hb⟩
 have HB1 := qd (bE hb HB.out)
 clear hb iE
 go_wp2
 refine bodyPost_ret (v := .tuple #[.pointer none, .iface 285 (.pointer (some (E 1)))]) (by simp [results, Tryz.results6, go_sem]) rfl ⟨rfl, HB1.out⟩
end
section
variable {c i id : Nat} {H : Nat → Nat} {e ids aI : List Nat} {a a' : Pool}
def aas (j : Nat) : av := ⟨j, j + 1, j * 1152921504606846976⟩
def Mr : Nat → List av
 | 0 => []
 | i + 1 => aas i :: Mr i
def abL (k : Nat) : Nat := k * 1152921504606846976 % 18446744073709551616
structure Yn (i : Nat) (a : Pool) (ids : List Nat) : Prop where
 aat : ids = []
 ents : a.ents.Perm (Mr i)
 nd : ∃ N, a.Ns = [N] ∧ N.ph = .idle ∧ N.len = 1 ∧ N.au = 0 ∧ N.kind = 0 ∧ load N.T ≤ i
theorem Yo (h : qC Pool.left (Pool.step H) c ids a e aI a') (hn : ids = []) : e = [] ∧ aI = [] ∧ a' = a := by
 cases h with
 | nil => exact ⟨rfl, rfl, rfl⟩
 | broke => exact ⟨rfl, hn, rfl⟩
 | ended => cases hn
 | step => cases hn
theorem VU {l : List Nat} (h : jr H a l a') (hl : l = []) : a' = a := by
 cases h with
 | nil => rfl
 | cons => cases hl
end
section
variable {H : Nat → Nat} {l : List av} {e : av} {a a' : Pool} {ids aI : List Nat}
structure CO (l : List av) (a : Pool) (ids : List Nat) : Prop where
 aat : ids = []
 ents : a.ents.Perm l
 nd : ∃ N, a.Ns = [N] ∧ N.ph = .idle ∧ N.len = 1 ∧ N.au = 0 ∧ N.kind = 0 ∧ load N.T ≤ l.length
theorem abD : CO [] kg [] := by
 obtain ⟨h1, h2, h3⟩ := Cw (n := 1) (.inl rfl)
 refine ⟨rfl, by rw [CJ], nd0, rfl, rfl, lQ (Nat.le_refl 1), rfl, rfl, ?_⟩
 show load (dM 1 1) ≤ 0
 rw [h3]; exact Nat.le_refl _
theorem VW (hA : CO l a ids) (hw : Me H 1 a ids [] [e] a' aI) :
  ∃ N1, dO H N1 ∧ N1.ph = .idle ∧ N1.len = 1 ∧ N1.au = 0 ∧ N1.kind = 0 ∧ load N1.T ≤ l.length + 1 ∧ (aL N1.T.gs).length = l.length + 1 ∧ P7 H 1 { a with Ns := [N1] } [] 0 a' aI ∧ a'.ents.Perm ((e :: l)) := by
 obtain ⟨id, N0, N1, hN, hw, hm, hch, hp⟩ := hw
 obtain ⟨N, n1, n2, n3, n4, n5, n6⟩ := hA.nd
 have hid : id = 0 := by
  have := aX hN
  rw [n1] at this
  simpa using this
 subst hid
 rw [n1] at hN
 have hNN : N0 = N := (Option.some.inj hN).symm
 subst hNN
 have hL := hw.like
 have hset : a.Ns.set 0 N1 = [N1] := by rw [n1]; rfl
 rw [hset] at hm hp
 have hb : N1.ph = .idle := GA (by rw [hL.busy, n2]; rfl)
 have hpe : a'.ents.Perm ((e :: l)) := by
  obtain ⟨r, r1, r2⟩ := hch
  refine r2.trans ?_
  simp only [List.singleton_append]
  exact ((by simpa using r1.symm : r.Perm a.ents).trans hA.ents).cons _
 refine ⟨N1, hw.ok, hb, hL.len.trans n3, hL.au.trans n4, hL.kind.trans n5, ?_, ?_, hA.aat ▸ hm, hpe⟩
 ·have := hw.ld n2
  simp at this; omega
 ·have h1 := hp.length_eq
  have h2 := hpe.length_eq
  rw [List.length_cons] at h2
  have h3 : ([N1].flatMap Nd.ents) = aL N1.T.gs := by simp [Nd.ents, hb, xK, cB]
  rw [h3] at h1
  omega
theorem VX (hi : l.length < 3) (hA : CO l a ids) (hw : Me H 1 a ids [] [e] a' aI) : CO (e :: l) a' aI := by
 obtain ⟨N1, k1, k2, k3, k4, k5, k6, k7, hm, hp⟩ := VW hA hw
 have hld := k1.tg.JH
 have hnb : jY N1.T.live N1.T.bM N1.len = false := by
  unfold jY
  rw [k3]
  have h1 := k1.tg.ok.live
  have h2 := k1.tg.ok.bM
  simp only [Bool.or_eq_false_iff, decide_eq_false_iff_not]
  omega
 have hwh : ∀ gl, iw N1.T.live N1.T.bM N1.len N1.au gl = 0 := fun gl => by unfold iw; rw [if_pos hnb]
 obtain ⟨a1, bG, a2, aK, a3, e1, dW, a4, h1, h2, h3, h4, h5, h6⟩ := hm.ex
 have hget : ∀ X : Nd, ({ a with Ns := [N1] } : Pool).Ns[0]? = some X → X = N1 := fun X hX => (Option.some.inj hX).symm
 obtain ⟨g1, g2⟩ : a1 = { a with Ns := [{ N1 with sl := 0 }] } ∧ bG = [] := by
  cases h1 with
  | busy hN hb => have := hget _ hN; subst this; rw [k2] at hb; cases hb
  | none hN hi hk => have := hget _ hN; subst this; exact ⟨rfl, rfl⟩
  | start hN hi hk h0 => have := hget _ hN; subst this; rw [hwh] at hk; exact absurd hk.symm h0
 subst g1 g2
 obtain ⟨g3, g4⟩ : a2 = { a with Ns := [{ N1 with sl := 0 }] } ∧ aK = [] := by
  cases h2 with
  | not => exact ⟨rfl, rfl⟩
  | yes hp2 =>
   obtain ⟨X, hX, hd⟩ := hp2
   have := hget _ hX
   subst this
   rw [IZ (hwh _)] at hd
   cases hd
 subst g3 g4
 have g5 : a3 = { a with Ns := [{ N1 with sl := 0 }] } := by
  rcases h3 with ⟨_, e⟩ | ⟨e, _⟩
  ·exact e
  ·cases e
 obtain ⟨o1, o2, o3⟩ := Yo h4 rfl
 have g6 := VU h5 (by rw [o1, o2]; rfl)
 refine ⟨by rw [h6, o2]; rfl, hp, { N1 with sl := 0 }, by rw [g6, o3, g5], k2, k3, k4, k5, k6⟩
end
end Go.Proofs.YtfojgfddgplinabGreatDoor
