/- A map's Next, and a new map, by their contracts. No statement of the claim. -/
import Derived.Test.YtbphcldoflekpaaGreatDoorRmG
import Derived.Test.YtbphcldoflekpaaGreatDoorSqT
import Derived.Test.YtbphcldoflekpaaGreatDoorLaneP
import Derived.Test.YtbphcldoflekpaaGreatDoorRefG
import Derived.Test.YtbphcldoflekpaaGreatDoorCoDA
import Derived.Test.YtbphcldoflekpaaGreatDoorCoT
import Derived.Test.YtbphcldoflekpaaGreatDoorCoBA
namespace Go.Proofs.YtbphcldoflekpaaGreatDoor
set_option maxRecDepth 100000
set_option maxHeartbeats 4000000
open Go.RowKit dA
section
variable {its : List It} {I Kk M b cb gv id : Nat} {c : dW} {W0 : World} {E : Nat → Addr} {H : Nat → Nat} {a : Pool} {ids : List Nat}
theorem QJ (hn : (its.map It.id).Nodup) (hi : ⟨id, cb, c⟩ ∈ its) : jK its id c = its := by
 unfold jK
 conv => rhs; rw [← List.map_id its]
 apply List.map_congr_left
 intro i hi'
 by_cases h : i.id = id
 ·rw [if_pos h, qX hn hi' hi h]; rfl
 ·rw [if_neg h]; rfl
theorem Wz {G0 : List Nat} {w0 V : World} {C : eP} {GC : List Nat} {mb : Nat} {pm pc : Nat} (hS : fG W0 E H Kk M I b G0 w0 C GC mb gv V a ids its) (hm : aj V pm 29 #[pQ b]) (hc : aj V pc 81 #[pQ cb]) (hi : ⟨id, cb, c⟩ ∈ its) (hd : c.done = false) (hok : c.ok) : Calls Tryz.prog 40 #[pQ pm, pQ pc] V fun y w' => ∃ it, y = .returned (.tuple #[uf it, .nilIface]) ∧ Mod (cb :: GC) V w' ∧ qY W0 E H Kk M I b G0 w0 C GC mb gv a ids its id cb c V it w' := by
 have hsl := hS.iF
 have hW0 := hS.mod.size
 have hB := (Below.refl V.heap.size V).alloc (Nat.le_refl _) (.cells #[.int .i64 0, .int .u64 0, .int .u64 0] 48)
 have hR := aj.new V 48 #[.int .i64 0, .int .u64 0, .int .u64 0]
 obtain ⟨W, hW⟩ : ∃ W, W = V.alloc (.cells #[.int .i64 0, .int .u64 0, .int .u64 0] 48) := ⟨_, rfl⟩
 rw [← hW] at hB hR
 have hst := YS (hS.below hB) hi hd hok
 have jg := qd hst
 have HR := qd hR
 have HW := qd hW
 have HB := qd hB
 have XZ := qd (show V.heap.size ∉ dR b C GC mb its from fun hg => by have := (hsl _ hg).1; omega)
 have OX := qd (show V.heap.size ∉ cb :: GC from fun hg => by
  rcases List.mem_cons.1 hg with k | k
  ·have : cb < V.heap.size := (hS.kR.cur _ hi).lt; omega
  ·have := (hsl _ (aD.2 (.inr (.inr k)))).1; omega)
 have HL := qd (show V.heap.size < W.heap.size from hR.lt)
 have HCb := qd (show cb ∈ bB C.ib mb its from by
  unfold bB
  simp only [List.mem_cons, List.mem_map]
  exact .inr (.inr ⟨_, hi, rfl⟩))
 have HW0 := qd hW0
 have x0 := (hm.mod (Mod.of_below hB []) (by simp)).cell 0
 have y0 := (hc.mod (Mod.of_below hB []) (by simp)).cell 0
 simp only [List.getElem?_toArray, List.getElem?_cons_zero] at x0 y0
 clear hst hR hW hB hS hi hd hok hm hc hsl hW0
 go_in
 go_upto_region 1 with fail
 rw [← HW.out]
 go_wp2_with fail
 refine jg.out.mono ?_
 rintro y w1 ⟨it, rfl, hp⟩
 have hmm : Mod (cb :: GC) W w1 := by obtain ⟨_, _, _, _, _, _, _, _, q⟩ := hp; exact q
 have hr1 := HR.out.mod hmm OX.out
 obtain ⟨r0, r1, r2⟩ := hr1.c3
 obtain ⟨f0, f1, f2⟩ := hr1.f3
 have gZ := (((Mod.refl [V.heap.size] w1).ak (b := V.heap.size) (.inl (by simp)) 0 (nI it.st)).ak (b := V.heap.size) (.inl (by simp)) 1 (nU it.key)).ak (b := V.heap.size) (.inl (by simp)) 2 (nU it.val)
 obtain ⟨c', cc, eU, q1, q2, q3, q4, q5, q6⟩ := hp.mod gZ (fun q hq => by rw [List.mem_singleton.1 hq]; exact ⟨XZ.out, HW0.out, HL.out⟩)
 have hq6 := (Mod.of_below HB.out (cb :: GC)).trans q6 (fun q hq _ => hq) (fun q hq hl => by
  rcases List.mem_cons.1 hq with k | k
  ·rw [k]; simp
  ·rcases List.mem_append.1 k with k | k
   ·exact List.mem_cons_of_mem _ k
   ·rw [List.mem_singleton.1 k] at hl; omega)
 have HF := qd (show ∃ Jh, (Ending.returned (.tuple #[.agg #[nI it.st, nU it.key, nU it.val], .nilIface])) = .returned (.tuple #[uf Jh, .nilIface]) ∧ Mod (cb :: GC) V _ ∧ qY W0 E H Kk M I b G0 w0 C GC mb gv a ids its id cb c V Jh _ from ⟨it, rfl, hq6, c', cc, eU, q1, q2, q3, q4, fun q hq => (q5 q hq).elim .inl (fun k => .inr (by have := HL.out; omega)), hq6⟩)
 clear hmm hr1 gZ q1 q2 q3 q4 q5 q6 hq6 hp jg
 unfold uf
 go_wp2
 refine bodyPost_ret (v := .tuple #[.agg #[nI it.st, nU it.key, nU it.val], .nilIface]) (by simp [results, Tryz.results40, go_sem, r0, r1, r2]) rfl HF.out
theorem Cr {G : List Nat} {w : World} {eH : bC} (h : je W0 E H Kk M I b G w a ids its gv eH) (FT : fJ E W0 6) (hi : ⟨id, cb, c⟩ ∈ its) (hok : c.ok) : Calls Tryz.prog 13 #[pQ b, nI id] w fun y w' => ∃ it c' fC, y = .returned (.tuple #[uf it, .nilIface]) ∧ fP a.ents (mO a) c it c' ∧ MB fC ∧ oF W0 E H Kk M I b G w w' a ids (jK its id c') gv fC := by
 obtain ⟨C, GC, mb, hS, rfl, ng⟩ := h
 obtain ⟨W, hW, hB, hBm, hBr⟩ := jS w 29 #[pQ b] 48 #[.int .i64 0, .int .u64 0, .int .u64 0]
 have hlt := fun q hq => (hS.iF q hq).1
 have jc := qd (show ∀ q, w.heap.size ≤ q → q ∉ dR b C GC mb its from fun q hq hg => by have := hlt q hg; omega)
 have HS := qd (hS.below hB)
 have HX := qd hBm
 have HR := qd hBr
 have HB := qd hB
 have HW := qd hW
 have HI := qd hi
 have Bd := qd hok
 have KT := qd hS.kR.nd
 have hbk := (hS.below hB).blk.blk
 unfold eP.cells at hbk
 have c16 := hbk.cell 16
 simp only [gl] at c16
 have x0 := hBm.cell 0
 simp only [List.getElem?_toArray, List.getElem?_cons_zero] at x0
 have jw := qd (ME (hS.below hB).kR hi)
 have h6 : W.cell? ⟨gE 6, 0, none⟩ = some (.iface 286 (.pointer (some (E 6)))) := (World.cell?_of_block ((hS.below hB).core.facts.2.2.2.2.2.2.2.2.2.2.2.below.block _ (World.block_lt_of_cell? W0 _ FT))).trans FT
 have H6 := qd h6
 have XT := qd (show ∀ q ∈ cb :: GC, q < w.heap.size from fun q hq => by
  rcases List.mem_cons.1 hq with k | k
  ·rw [k]; exact (hS.kR.cur _ hi).lt
  ·exact hlt q (aD.2 (.inr (.inr k))))
 have HCb := qd (show cb ∈ bB C.ib mb its from by
  unfold bB
  simp only [List.mem_cons, List.mem_map]
  exact .inr (.inr ⟨_, hi, rfl⟩))
 clear hbk hW hB hBm hBr hS hi hok hlt ng h6
 go_in
 go_upto_region 1 with fail
 rw [← HW.out]
 go_wp2_with fail
 refine jw.out.mono ?_
 rintro y w1 ⟨rfl, rfl⟩
 clear jw x0 c16
 go_upto_region 2 with fail
 refine bW 81 #[pQ cb] ?_
 rintro W1 ⟨hP, hb⟩
 have h6 := aJ hb H6.out
 have HP := qd hP
 replace HS := qd (HS.out.below hb)
 replace HX := qB hb HX
 replace HR := qB hb HR
 have HB1 := qd (bI hb HB.out)
 obtain ⟨pc, hpc⟩ : ∃ pc, pc = W.heap.size := ⟨_, rfl⟩
 rw [← hpc] at HP ⊢
 have yN := qd hpc
 replace H6 := qd h6
 clear hP hb hpc h6
 have p0 := HP.out.cell 0
 simp only [List.getElem?_toArray, List.getElem?_cons_zero] at p0
 have hdn := Dx (HS.out.kR.cur _ HI.out)
 have HNr := qd (show (w.heap.size + 1) ∉ [b] from fun hg => jc.out _ (by omega) (aD.2 (.inl (List.mem_singleton.1 hg))))
 have FL := qd HNr.out
 have x0 := HX.out.cell 0
 simp only [List.getElem?_toArray, List.getElem?_cons_zero] at x0
 cases hd : c.done with
 | true =>
  rw [hd] at hdn
  have HDn := qd hdn
  have BP := qd (show Calls Tryz.prog 25 #[pQ b, .agg #[.int .i64 0, .int .i64 0, .int .i64 0]] W1 _ from wG HS.out.blk ⟨0, 0, 0⟩)
  have XR := qd (fun V => aaD (E 6) V)
  have Ta := qd hd
  clear hdn hd
  go_wp2_with fail
  refine HDn.out.mono ?_
  rintro y w2 ⟨rfl, rfl⟩
  clear HDn
  go_wp2_with fail
  refine BP.out.mono ?_
  rintro y w2 ⟨rfl, hB2, hm2⟩
  have hs2 := HS.out.Ep hB2 hm2 ⟨rfl, rfl, rfl, rfl, rfl⟩
  have hgb : gE 6 ∉ [b] := fun hh => by
   have h1 := World.block_lt_of_cell? W0 _ FT
   have h2 := HS.out.b0.1
   rw [List.mem_singleton.1 hh] at h1
   exact absurd h1 (by show ¬ b < W0.heap.size; omega)
  have h6 : w2.cell? ⟨gE 6, 0, none⟩ = some (.iface 286 (.pointer (some (E 6)))) := (World.cell?_of_block (hm2.block _ (World.block_lt_of_cell? W1 _ H6.out) hgb)).trans H6.out
  unfold gE at h6
  have hr2 := HR.out.mod hm2 HNr.out
  obtain ⟨r0, r1, r2⟩ := hr2.c3
  obtain ⟨f0, f1, f2⟩ := hr2.f3
  have HS2 := qd hs2
  clear hs2 hB2 hm2 hgb hr2 BP
  go_wp2_with fail
  refine (XR.out _).mono ?_
  rintro y w3 ⟨rfl, rfl⟩
  clear XR
  have gZ := (((Mod.refl [w.heap.size + 1] w2).ak (b := w.heap.size + 1) (.inl (by simp)) 0 (.int .i64 3)).ak (b := w.heap.size + 1) (.inl (by simp)) 1 (.int .u64 0)).ak (b := w.heap.size + 1) (.inl (by simp)) 2 (.int .u64 0)
  have hs3 := HS2.out.zQ gZ (fun q hq => by rw [List.mem_singleton.1 hq]; exact ⟨jc.out _ (by omega), by omega⟩)
  have hto := hs3.to
  have HF := qd (show ∃ it c' fC, (Ending.returned (.tuple #[.agg #[.int .i64 3, .int .u64 0, .int .u64 0], .nilIface])) = .returned (.tuple #[uf it, .nilIface]) ∧ fP a.ents (mO a) c it c' ∧ MB fC ∧ oF W0 E H Kk M I b (dR b C GC mb its) w _ a ids (jK its id c') gv fC from ⟨⟨3, 0, 0⟩, c, ⟨0, 0, 0⟩, rfl, .done Ta.out, ⟨by decide, by decide, rfl⟩, by rw [QJ KT.out HI.out]; exact hto⟩)
  clear gZ hs3 hto h6
  go_wp2
  refine bodyPost_ret (v := .tuple #[.agg #[.int .i64 3, .int .u64 0, .int .u64 0], .nilIface]) (by simp [results, Tryz.results13, go_sem, r0, r1, r2]) rfl HF.out
 | false =>
  rw [hd] at hdn
  have HDn := qd hdn
  have nM : ∀ (fn : Fn) (first cap : Array Value) (w : World), (Instr.makeFunc fn first cap).run Tryz.prog w = .ok (.func fn first cap) w := fun _ _ _ _ => rfl
  have Rq := qd (Wy (S := cb :: GC) (K := fun V it w1 => qY W0 E H Kk M I b (dR b C GC mb its) w C GC mb gv a ids its id cb c V it w1) 40 #[pQ w.heap.size, pQ pc] W1 (fun V => enters_of Tryz.func40 (by kernel_rfl) rfl _ V) (fun q hq => Nat.lt_of_lt_of_le (XT.out q hq) HB1.out.size)
   (fun V pW _ => Wz (HS.out.below pW) (HX.out.mod (Mod.of_below pW []) (by simp)) (HP.out.mod (Mod.of_below pW []) (by simp)) HI.out hd Bd.out))
  have O3 := qd (show w.heap.size < W1.heap.size ∧ w.heap.size + 1 < W1.heap.size from ⟨HX.out.lt, HR.out.lt⟩)
  clear hdn hd p0
  have p0 := HP.out.cell 0
  simp only [List.getElem?_toArray, List.getElem?_cons_zero] at p0
  go_wp2_with fail
  refine HDn.out.mono ?_
  rintro y w2 ⟨rfl, rfl⟩
  clear HDn
  go_wp2_with fail
  refine Rq.out.mono ?_
  rintro y w3 ⟨V, it, w2, T, rfl, pW, hmS, hst, X3, hT⟩
  have hxs : ∀ q, w.heap.size ≤ q → q < W1.heap.size → q ∉ cb :: GC ∧ q ∉ T := fun q h1 h2 => ⟨fun hh => by have := XT.out q hh; omega, fun hh => by have := (hT q hh).1; omega⟩
  have hX3 := ((HX.out.mod (Mod.of_below pW []) (by simp)).mod hmS (hxs _ (Nat.le_refl _) O3.out.1).1).mod X3 (hxs _ (Nat.le_refl _) O3.out.1).2
  have mq := ((HR.out.mod (Mod.of_below pW []) (by simp)).mod hmS (hxs _ (by omega) O3.out.2).1).mod X3 (hxs _ (by omega) O3.out.2).2
  obtain ⟨c', cc, eU, q1, q2, q3, q4, q5, q6⟩ := hst.mod X3 (fun q hq => by
   have := hT q hq
   have := HB1.out.size
   exact ⟨jc.out q (by omega), by omega, by omega⟩)
  replace HX := qd hX3
  replace HR := qd mq
  replace HS := qd q3
  have rG := qd q4
  have iQ := qd (And.intro q1 q2)
  have HR4 := qd (show (w.heap.size + 1) ∉ eU from fun hg => (q5 _ hg).elim (fun k => jc.out _ (by omega) (aD.2 (.inr (.inr k)))) (fun k => by have := O3.out.2; have := pW.size; omega))
  have KG := qd (show ∀ q, w3.heap.size ≤ q → q ≠ b from fun q hq e => by have := q3.blk.lt; omega)
  clear hxs hX3 mq hst X3 hT hmS pW q1 q2 q3 q4 q5 q6 Rq p0 x0
  unfold uf
  go_upto_region 8 with fail
  refine bW 48 #[nI it.st, nU it.key, nU it.val] ?_
  rintro W4 ⟨hO, hb⟩
  replace HS := qd (HS.out.below hb)
  replace rG := qd (rG.out.below hb)
  replace HX := qB hb HX
  replace HR := qB hb HR
  have HO := qd hO
  have LD := qd (show w3.heap.size ∉ [b] from fun hh => KG.out _ (Nat.le_refl _) (List.mem_singleton.1 hh))
  obtain ⟨ob, mU⟩ : ∃ ob, ob = w3.heap.size := ⟨_, rfl⟩
  rw [← mU] at HO LD ⊢
  clear hO hb mU
  have hcc := rG.out
  have hbk := HS.out.blk.blk
  unfold eP.cells at hbk
  have c3 := hbk.cell 3
  simp only [gl] at c3
  have x0 := HX.out.cell 0
  simp only [List.getElem?_toArray, List.getElem?_cons_zero] at x0
  have fK := qd (yY (hcc.below (Below.refl W4.heap.size W4).drew))
  unfold lI at fK
  clear hbk hcc
  refine rT (fun (w' : World) => w'.cell? ⟨w.heap.size, 0, none⟩ = some (pQ b) ∧ w'.cell? ⟨b, 3, none⟩ = some (pQ C.cb)) [7] ?_
  have hHeld := (⟨x0, c3⟩ : _ ∧ _)
  refine vT 0 rfl ?_
  refine nT 1 rfl fun K hK => ?_
  go_simp
  refine kO hK ?_
  clear hK K
  refine vW 2 rfl ?_
  refine vW 3 rfl ?_
  refine nT 4 rfl fun K hK => ?_
  go_simp
  refine kO hK ?_
  clear hK K
  refine nT 5 rfl fun K hK => ?_
  go_simp
  refine (qW _ _).mono ?_
  rintro y V1 ⟨rfl, rfl⟩
  go_wp2_with fail
  have hHeld := (⟨x0, c3⟩ : _ ∧ _)
  refine kO hK ?_
  clear hK K
  refine nT 6 rfl fun K hK => ?_
  go_simp
  refine (fK.out).mono ?_
  rintro y V2 ⟨rfl, hb⟩
  replace hb : Below W4.heap.size W4 V2 := bI hb (Below.refl _ _).drew
  replace HS := qd (HS.out.below hb)
  replace HR := qB hb HR
  replace HO := qB hb HO
  replace x0 := aJ hb x0
  replace c3 := aJ hb c3
  clear hb fK
  go_wp2_with fail
  have hHeld := (⟨x0, c3⟩ : _ ∧ _)
  refine kO hK ?_
  clear hK K
  refine nT 7 rfl fun K hK => ?_
  go_simp
  have jO := qd (show Calls Tryz.prog 25 #[pQ b, .agg #[.int .i64 cc.p, .int .i64 cc.v, .int .i64 cc.u]] V2 _ from wG HS.out.blk cc)
  refine (jO.out).mono ?_
  rintro y V3 ⟨rfl, hwr, q3⟩
  have jF := qd (HS.out.Ep hwr q3 ⟨rfl, rfl, rfl, rfl, rfl⟩)
  replace HR := qd (HR.out.mod q3 FL.out)
  replace HO := qd (HO.out.mod q3 LD.out)
  clear hwr q3 jO HS x0 c3
  go_wp2_with fail
  refine kO hK ?_
  clear hK K
  refine aT (by kernel_rfl) ?_ _
  have o0 := HO.out.cell 0
  have o1 := HO.out.cell 1
  have o2 := HO.out.cell 2
  have r0 := HR.out.cell 0
  have r1 := HR.out.cell 1
  have r2 := HR.out.cell 2
  simp only [gl] at o0 o1 o2 r0 r1 r2
  obtain ⟨f0, f1, f2⟩ := HR.out.f3
  have gZ := (((Mod.refl [w.heap.size + 1] V3).ak (b := w.heap.size + 1) (.inl (by simp)) 0 (nI it.st)).ak (b := w.heap.size + 1) (.inl (by simp)) 1 (nU it.key)).ak (b := w.heap.size + 1) (.inl (by simp)) 2 (nU it.val)
  have hs3 := jF.out.zQ gZ (fun q hq => by
   rw [List.mem_singleton.1 hq]
   refine ⟨fun hg => ?_, by omega⟩
   have mQ := HR4.out
   rcases aD.1 hg with k | k | k
   ·exact jc.out _ (by omega) (aD.2 (.inl k))
   ·rw [uT] at k; exact jc.out _ (by omega) (aD.2 (.inr (.inl k)))
   ·exact mQ k)
  have hto := hs3.to
  have HF := qd (show ∃ Jh c' fC, (Ending.returned (.tuple #[.agg #[nI it.st, nU it.key, nU it.val], .nilIface])) = .returned (.tuple #[uf Jh, .nilIface]) ∧ fP a.ents (mO a) c Jh c' ∧ MB fC ∧ oF W0 E H Kk M I b (dR b C GC mb its) w _ a ids (jK its id c') gv fC from ⟨it, c', cc, rfl, iQ.out.1, iQ.out.2, hto⟩)
  clear gZ hs3 hto
  go_wp2
  refine bodyPost_ret (v := .tuple #[.agg #[nI it.st, nU it.key, nU it.val], .nilIface]) (by simp [results, Tryz.results13, go_sem, r0, r1, r2]) rfl HF.out
end
section
variable {W0 w : World} {E : Nat → Addr}
theorem TL (H : Nat → Nat) (hE : Env W0 E w) (k m i : Int) (hcf : nk k m i = true) (K M I : Nat) (hkm : (1 ≤ K ∧ K ≤ 64) ∧ (1 ≤ M ∧ M ≤ 192) ∧ k = (K : Int) ∧ m = (M : Int) ∧ i = (I : Int)) (Kq : 1 ≤ I ∧ I ≤ 8) : Calls Tryz.prog 6 #[iB k m i] w fun y w' => ∃ b G, y = .returned (.tuple #[pQ b, .nilIface]) ∧ je W0 E H K M I b G w' jB [] [] 0 ⟨0, 0, 0⟩ ∧ (∀ q ∈ G, w.heap.size ≤ q) ∧ Below w.heap.size w w' := by
 obtain ⟨hK, hM, rfl, rfl, rfl⟩ := hkm
 have HI := qd (And.intro hK (And.intro hM Kq))
 have hB0 := aj.new w 23 #[nI K, nI M, nI I]
 have hb0 := (Below.refl w.heap.size w).alloc (Nat.le_refl _) (.cells #[nI K, nI M, nI I] 23)
 obtain ⟨W, hW⟩ : ∃ W, W = w.alloc (.cells #[nI K, nI M, nI I] 23) := ⟨_, rfl⟩
 rw [← hW] at hB0 hb0
 have hnb := Ms H (hE.next hb0) (K : Int) (M : Int) (I : Int) hcf K M I ⟨hK, hM, rfl, rfl, rfl⟩
 have c := hB0.c3
 unfold iB at hnb ⊢
 have iJ := qd hnb
 have HX := qd hB0
 have HB := qd hb0
 have HW := qd hW
 have HE := qd hE
 clear hnb hB0 hb0 hW hK hM Kq hE
 go_in
 go_upto_region 1 with fail
 rw [← HW.out]
 go_wp2_with fail
 refine iJ.out.mono ?_
 rintro y w1 ⟨cb, rfl, hnew⟩
 obtain ⟨GC, hC, hsu, hmo⟩ := Tm hnew
 have hb1 := hmo.vw
 have HC := qd hC
 have wH := qd (show ∀ q ∈ GC, W.heap.size ≤ q from fun q hq => (hsu q hq).elim (fun k => by cases k) (fun k => k))
 have HGl := qd (show ∀ q ∈ GC, q < w1.heap.size from fun q hq => (hC.facts.2.2.2.2.2.2.2.2.2.2.1 q hq).1)
 replace HX := qB hb1 HX
 have HB1 := qd (bI hb1 HB.out)
 have HL0 := qd hb1.size
 have HZ := qd (show w.heap.size < W.heap.size from by rw [HW.out]; simp)
 clear hnew hC hsu hmo hb1 iJ c
 have c := HX.out.c3
 have HIt := qd (TD I HI.out.2.2 w1)
 unfold aU
 go_wp2_with fail
 refine HIt.out.mono ?_
 rintro y w2 ⟨rfl, hit, hb2⟩
 replace HC := qd (HC.out.below hb2)
 replace HX := qB hb2 HX
 have HB2 := qd (bI hb2 HB1.out)
 have HIa := qd hit
 have HL1 := qd (show W.heap.size ≤ w1.heap.size ∧ w1.heap.size + 1 < w2.heap.size from ⟨HL0.out, hit.blk.lt⟩)
 clear hit hb2 HIt c
 have c := HX.out.c3
 obtain ⟨ib, hib⟩ : ∃ ib, ib = w1.heap.size + 1 := ⟨_, rfl⟩
 obtain ⟨mb, hmb⟩ : ∃ mb, mb = w1.heap.size := ⟨_, rfl⟩
 rw [← hib] at HIa HL1 ⊢
 rw [← hmb] at HIa
 have HQ := qd (show mb = w1.heap.size ∧ ib = w1.heap.size + 1 from ⟨hmb, hib⟩)
 clear hib hmb
 obtain ⟨C, zT⟩ : ∃ C : eP, C = ⟨(K : Int), (M : Int), (I : Int), cb, 0, 0, ⟨0, 0, 0⟩, ⟨0, 0, 0⟩, ib, ⟨0, 0, 0⟩, ⟨0, 0, 0⟩⟩ := ⟨_, rfl⟩
 have hbb := (Below.refl w2.heap.size w2).alloc (Nat.le_refl _) (.cells C.cells 72)
 have hnb := aj.new w2 72 C.cells
 have hS : fG W0 E H K M I w2.heap.size [] w C GC mb 0 (w2.alloc (.cells C.cells 72)) jB [] [] := by
  have h1 := HL1.out.1
  have h2 := HL1.out.2
  obtain ⟨g1, g2⟩ := HQ.out
  have hg := HGl.out
  have hs := wH.out
  have hz := HZ.out
  have hw0 := HE.out.size
  have e1 : C.cb = cb := by rw [zT]
  have e2 : C.ib = ib := by rw [zT]
  have hf : ∀ q, q ∈ bB ib mb [] → q = ib ∨ q = mb := fun q hq => by unfold bB at hq; simpa [nI, nU] using hq
  refine ⟨⟨hnb, by rw [zT]; exact Nat.zero_le _, by rw [zT]; exact Nat.zero_le _⟩, by rw [zT]; exact ⟨rfl, rfl, rfl⟩, by rw [e1]; exact HC.out.below hbb, by rw [e2]; exact HIa.out.below hbb, ⟨by omega, fun q hq => ?_⟩, ⟨fun hh => by have := hg _ hh; omega, fun hh => ?_, fun q hq hh => ?_⟩, fun q hq => .inr ?_, (Mod.of_below (bI hbb HB2.out) []), hw0⟩
  ·rw [e2] at hq; rcases hf q hq with k | k <;> omega
  ·rw [e2] at hh; rcases hf _ hh with k | k <;> omega
  ·rw [e2] at hq; have := hg q hh; rcases hf q hq with k | k <;> omega
  ·rcases aD.1 hq with k | k | k
   ·omega
   ·rw [e2] at k; rcases hf q k with k | k <;> omega
   ·have := hs q k; omega
 have hto := hS.to
 have hbz := bI hbb HB2.out
 rw [zT] at hto hbz
 unfold eP.cells at hto hbz
 have HF := qd (And.intro hto hbz)
 clear hS hto hbz hbb hnb zT
 go_wp2
 refine bodyPost_ret (v := .tuple #[pQ w2.heap.size, .nilIface]) (by simp [results, Tryz.results6, go_sem]) rfl ?_
 obtain ⟨G', k1, k2, k3⟩ := HF.out.1
 exact ⟨w2.heap.size, G', rfl, k1, fun q hq => (k2 q hq).elim (fun z => by cases z) (fun z => z), HF.out.2⟩
theorem QK (hE : Env W0 E w) (k m i : Int) (hcf : nk k m i = false) : Calls Tryz.prog 6 #[iB k m i] w fun y w' => y = .returned (.tuple #[.pointer none, kT E 1]) ∧ Below w.heap.size w w' := by
 have hB0 := aj.new w 23 #[.int .i64 k, .int .i64 m, .int .i64 i]
 have hb0 := (Below.refl w.heap.size w).alloc (Nat.le_refl _) (.cells #[.int .i64 k, .int .i64 m, .int .i64 i] 23)
 obtain ⟨W, hW⟩ : ∃ W, W = w.alloc (.cells #[.int .i64 k, .int .i64 m, .int .i64 i] 23) := ⟨_, rfl⟩
 rw [← hW] at hB0 hb0
 have hnb := Mr (hE.next hb0) k m i hcf
 obtain ⟨c0, c1, c2⟩ := hB0.c3
 rw [jd E (by omega : 1 ≤ 1)] at hnb ⊢
 unfold iB at hnb ⊢
 have iJ := qd hnb
 have HB := qd hb0
 have HW := qd hW
 clear hnb hB0 hb0 hW hE
 go_in
 go_upto_region 1 with fail
 rw [← HW.out]
 go_wp2_with fail
 refine iJ.out.mono ?_
 rintro y w1 ⟨rfl, hb⟩
 have HB1 := qd (bI hb HB.out)
 clear hb iJ
 go_wp2
 refine bodyPost_ret (v := .tuple #[.pointer none, .iface 286 (.pointer (some (E 1)))]) (by simp [results, Tryz.results6, go_sem]) rfl ⟨rfl, HB1.out⟩
theorem TM {H : Nat → Nat} {Kk M I b : Nat} {G : List Nat} {a : Pool} {ids : List Nat} {its : List It} {gv : Nat} {eH : bC} (h : je W0 E H Kk M I b G w a ids its gv eH) (key : Nat) (h64 : H key < 18446744073709551616) : Calls Tryz.prog 11 #[pQ b, nU key, .int .u64 (H key : Int)] w fun y w' => y = .returned (BO a.ents key) ∧ ∃ fC, oF W0 E H Kk M I b G w w' a ids its gv fC := by
 obtain ⟨C, GC, mb, hS, rfl, ng⟩ := h
 have hbk := hS.blk.blk
 unfold eP.cells at hbk
 have c3 := hbk.cell 3
 simp only [gl] at c3
 have hget := aaw hS.core key h64
 unfold aU BO at hget
 obtain ⟨gu, hgu⟩ : ∃ g : Int, g = (((look a.ents key).getD ⟨0, 0, 0⟩).val : Int) := ⟨_, rfl⟩
 obtain ⟨gi, hgi⟩ : ∃ i, i = (look a.ents key).isSome := ⟨_, rfl⟩
 unfold BO
 rw [← hgu, ← hgi] at hget ⊢
 have Oe := qd hget
 have HS := qd hS
 clear hgu hgi hget hbk hS ng
 go_in
 go_wp2_with fail
 refine Oe.out.mono ?_
 rintro y w1 ⟨rfl, hto⟩
 obtain ⟨eU, hs1, hsu, hmo⟩ := HS.out.Wo hto
 replace HS := qd hs1
 clear hto hs1 hsu hmo Oe c3
 obtain ⟨cc, hcc⟩ := HS.out.core.c_
 have fK := qd (yY hcc)
 unfold lI at fK
 have hbk := HS.out.blk.blk
 unfold eP.cells at hbk
 have c3 := hbk.cell 3
 simp only [gl] at c3
 clear hbk hcc
 go_wp2_with fail
 refine (qW _ _).mono ?_
 rintro y w2 ⟨rfl, rfl⟩
 go_wp2_with fail
 refine fK.out.mono ?_
 rintro y w2 ⟨rfl, hb⟩
 replace HS := qd (HS.out.below hb)
 clear hb fK c3
 have BP := qd (show Calls Tryz.prog 25 #[pQ b, .agg #[.int .i64 cc.p, .int .i64 cc.v, .int .i64 cc.u]] w2 _ from wG HS.out.blk cc)
 go_wp2_with fail
 refine BP.out.mono ?_
 rintro y w3 ⟨rfl, hB3, fE⟩
 have HE := qd (HS.out.Ep hB3 fE ⟨rfl, rfl, rfl, rfl, rfl⟩).to
 clear hB3 fE HS BP
 go_wp2
 refine bodyPost_ret (v := .tuple #[.int .u64 gu, .bool gi]) (by simp [results, Tryz.results11, go_sem]) rfl ⟨rfl, _, HE.out⟩
end
section
variable {c i id : Nat} {H : Nat → Nat} {e ids aI : List Nat} {a a' : Pool}
def aaF (j : Nat) : av := ⟨j, j + 1, j * 1152921504606846976⟩
def MI : Nat → List av
 | 0 => []
 | i + 1 => aaF i :: MI i
def ab5 (k : Nat) : Nat := k * 1152921504606846976 % 18446744073709551616
structure YV (i : Nat) (a : Pool) (ids : List Nat) : Prop where
 aaG : ids = []
 ents : a.ents.Perm (MI i)
 nd : ∃ N, a.Ns = [N] ∧ N.ph = .idle ∧ N.len = 1 ∧ N.au = 0 ∧ N.kind = 0 ∧ load N.T ≤ i
theorem YW (h : qh Pool.left (Pool.step H) c ids a e aI a') (hn : ids = []) : e = [] ∧ aI = [] ∧ a' = a := by
 cases h with
 | nil => exact ⟨rfl, rfl, rfl⟩
 | broke => exact ⟨rfl, hn, rfl⟩
 | ended => cases hn
 | step => cases hn
theorem WA {l : List Nat} (h : tQ H a l a') (hl : l = []) : a' = a := by
 cases h with
 | nil => rfl
 | cons => cases hl
end
section
variable {H : Nat → Nat} {l : List av} {e : av} {a a' : Pool} {ids aI : List Nat}
structure Ct (l : List av) (a : Pool) (ids : List Nat) : Prop where
 aaG : ids = []
 ents : a.ents.Perm l
 nd : ∃ N, a.Ns = [N] ∧ N.ph = .idle ∧ N.len = 1 ∧ N.au = 0 ∧ N.kind = 0 ∧ load N.T ≤ l.length
theorem abV : Ct [] jB [] := by
 obtain ⟨h1, h2, h3⟩ := Ci (n := 1) (.inl rfl)
 refine ⟨rfl, by rw [zN], nd0, rfl, rfl, lM (Nat.le_refl 1), rfl, rfl, ?_⟩
 show load (dN 1 1) ≤ 0
 rw [h3]; exact Nat.le_refl _
theorem WB (hA : Ct l a ids) (hw : Mv H 1 a ids [] [e] a' aI) :
  ∃ N1, dL H N1 ∧ N1.ph = .idle ∧ N1.len = 1 ∧ N1.au = 0 ∧ N1.kind = 0 ∧ load N1.T ≤ l.length + 1 ∧ (aL N1.T.gs).length = l.length + 1 ∧ Qy H 1 { a with Ns := [N1] } [] 0 a' aI ∧ a'.ents.Perm ((e :: l)) := by
 obtain ⟨id, N0, N1, hN, hw, hm, hch, hp⟩ := hw
 obtain ⟨N, n1, n2, n3, n4, n5, n6⟩ := hA.nd
 have hid : id = 0 := by
  have := bA hN
  rw [n1] at this
  simpa [nI, nU] using this
 subst hid
 rw [n1] at hN
 have hNN : N0 = N := (Option.some.inj hN).symm
 subst hNN
 have hL := hw.like
 have hset : a.Ns.set 0 N1 = [N1] := by rw [n1]; rfl
 rw [hset] at hm hp
 have hb : N1.ph = .idle := Gw (by rw [hL.busy, n2]; rfl)
 have hpe : a'.ents.Perm ((e :: l)) := by
  obtain ⟨r, r1, r2⟩ := hch
  refine r2.trans ?_
  simp only [List.singleton_append]
  exact ((by simpa [nI, nU] using r1.symm : r.Perm a.ents).trans hA.ents).cons _
 refine ⟨N1, hw.ok, hb, hL.len.trans n3, hL.au.trans n4, hL.kind.trans n5, ?_, ?_, hA.aaG ▸ hm, hpe⟩
 ·have := hw.ld n2
  simp at this; omega
 ·have h1 := hp.length_eq
  have h2 := hpe.length_eq
  rw [List.length_cons] at h2
  have h3 : ([N1].flatMap Nd.ents) = aL N1.T.gs := by simp [Nd.ents, hb, xu, cB]
  rw [h3] at h1
  omega
theorem WC (hi : l.length < 3) (hA : Ct l a ids) (hw : Mv H 1 a ids [] [e] a' aI) : Ct (e :: l) a' aI := by
 obtain ⟨N1, k1, k2, k3, k4, k5, k6, k7, hm, hp⟩ := WB hA hw
 have hld := k1.tg.J2
 have hnb : jX N1.T.live N1.T.bR N1.len = false := by
  unfold jX
  rw [k3]
  have h1 := k1.tg.ok.live
  have h2 := k1.tg.ok.bR
  simp only [Bool.or_eq_false_iff, decide_eq_false_iff_not]
  omega
 have hwh : ∀ gl, iE N1.T.live N1.T.bR N1.len N1.au gl = 0 := fun gl => by unfold iE; rw [if_pos hnb]
 obtain ⟨a1, bO, a2, aO, a3, e1, lV, a4, h1, h2, h3, h4, h5, h6⟩ := hm.ex
 have hget : ∀ X : Nd, ({ a with Ns := [N1] } : Pool).Ns[0]? = some X → X = N1 := fun X hX => (Option.some.inj hX).symm
 obtain ⟨g1, g2⟩ : a1 = { a with Ns := [{ N1 with sl := 0 }] } ∧ bO = [] := by
  cases h1 with
  | busy hN hb => have := hget _ hN; subst this; rw [k2] at hb; cases hb
  | none hN hi hk => have := hget _ hN; subst this; exact ⟨rfl, rfl⟩
  | start hN hi hk h0 => have := hget _ hN; subst this; rw [hwh] at hk; exact absurd hk.symm h0
 subst g1 g2
 obtain ⟨g3, g4⟩ : a2 = { a with Ns := [{ N1 with sl := 0 }] } ∧ aO = [] := by
  cases h2 with
  | not => exact ⟨rfl, rfl⟩
  | yes hp2 =>
   obtain ⟨X, hX, hd⟩ := hp2
   have := hget _ hX
   subst this
   rw [I6 (hwh _)] at hd
   cases hd
 subst g3 g4
 have g5 : a3 = { a with Ns := [{ N1 with sl := 0 }] } := by
  rcases h3 with ⟨_, e⟩ | ⟨e, _⟩
  ·exact e
  ·cases e
 obtain ⟨o1, o2, o3⟩ := YW h4 rfl
 have g6 := WA h5 (by rw [o1, o2]; rfl)
 refine ⟨by rw [h6, o2]; rfl, hp, { N1 with sl := 0 }, by rw [g6, o3, g5], k2, k3, k4, k5, k6⟩
end
section
theorem TN {H : Nat → Nat} {l : List av} {a : Pool} {ids : List Nat} (h : Ct l a ids) (ho : ∀ (i : Nat) (N : Nd), a.Ns[i]? = some N → dL H N) : mO a = [18446744073709551615] := by
 obtain ⟨N, h1, _, _, h4, _⟩ := h.nd
 have h5 := (ho 0 N (by rw [h1]; rfl)).pfx
 rw [h4] at h5
 have h6 : N.pfx = 0 := by simpa [nI, nU] using h5
 unfold mO
 rw [h1]
 simp only [List.map_cons, List.map_nil, h4, h6]
 rfl
section
variable {es : List av} {it : mF} {c' : dW}
theorem TP (he : es.Perm [⟨1, 2, 77⟩]) (hN : fP es [18446744073709551615] ⟨0, 0, false⟩ it c') : it = ⟨1, 1, 2⟩ ∧ c' = ⟨77, 2, false⟩ := by
 have hm : ∀ e ∈ es, e = ⟨1, 2, 77⟩ := fun e h => by simpa [nI, nU] using he.mem_iff.1 h
 cases hN with
 | done h => cases h
 | yield h hi m h1 h2 h3 h4 hl =>
  obtain rfl := hm m (gI.1 hl.1).1
  exact ⟨rfl, by unfold behind; simp⟩
 | skip h hi h1 h2 h3 h4 hl =>
  have := hl ⟨1, 2, 77⟩ (gI.2 ⟨he.mem_iff.2 (by simp), by simp at h2; rw [h2]; simp⟩)
  simp [aX] at this
theorem QL (he : es.Perm [⟨1, 2, 77⟩]) (hN : fP es [18446744073709551615] ⟨77, 2, false⟩ it c') : it = ⟨3, 0, 0⟩ := by
 have hm : ∀ e ∈ es, e = ⟨1, 2, 77⟩ := fun e h => by simpa [nI, nU] using he.mem_iff.1 h
 cases hN with
 | done h => cases h
 | yield h hi m h1 h2 h3 h4 hl =>
  obtain rfl := hm m (gI.1 hl.1).1
  have := hl.2.1
  simp [aX] at this
 | skip h hi h1 h2 h3 h4 hl =>
  simp at h2
  rw [h2]
  simp
end
theorem NI {W0 w : World} {E : Nat → Addr} (hE : Env W0 E w) (FT : fJ E W0 6) : Calls Tryz.prog 4 #[] w fun y w' => y = .returned (.bool true) ∧ Below w.heap.size w w' := by
 have hnew := TL (fun _ => 77) hE 1 9 1 (by decide) 1 9 1 ⟨by omega, by omega, rfl, rfl, rfl⟩ (by omega)
 unfold iB at hnew
 have iJ := qd hnew
 clear hnew
 go_in
 go_wp2_with fail
 refine iJ.out.mono ?_
 rintro y w1 ⟨b, G, rfl, hA, hG, hb⟩
 have hent : j5 (fun _ => 77) ⟨1, 2, 77⟩ := ⟨rfl, by decide, by decide, by decide⟩
 have hput := MF hA ⟨1, 2, 77⟩ hent
 have hpc : o8 9 jB.ents 1 = 0 := by rw [zN]; rfl
 rw [hpc, GX] at hput
 have p8 := qd (show Calls Tryz.prog 8 #[pQ b, .int .u64 1, .int .u64 2, .int .u64 77] w1 _ from hput)
 have HG := qd hG
 have HB := qd hb
 clear hpc hput hA hG hb iJ
 go_wp2_with fail
 refine p8.out.mono ?_
 rintro y w2 ⟨rfl, a, ids, eH, ⟨G2, hA2, hs2, hm2⟩, hpr⟩
 have zD : Ct [⟨1, 2, 77⟩] a ids := WC (by decide) abV (hpr.2 (by rw [zN]; rfl) (by rw [zN]; decide))
 have hho := TN zD (by obtain ⟨C, GC, mb, h1, _⟩ := hA2; exact h1.core.facts.2.2.2.2.2.1)
 have hpe := zD.ents
 have I7 := qd (And.intro hho hpe)
 have hop := OV hA2 (by decide) (by decide)
 have HO := qd (show Calls Tryz.prog 10 #[pQ b] w2 _ from hop)
 have HB2 := qd (HB.out.trans (hm2.below HG.out HB.out.size))
 have HG2 := qd (show ∀ q ∈ G2, w.heap.size ≤ q from fun q hq => (hs2 q hq).elim (HG.out q) (fun k => by have := HB.out.size; omega))
 clear hA2 hs2 hm2 hpr zD hho hpe hop p8 HB HG hent
 go_wp2_with fail
 refine HO.out.mono ?_
 rintro y w3 ⟨cb, rfl, G3, hA3, hs3, fE⟩
 have hnx := Cr (id := 1) (cb := cb) (c := ⟨0, 0, false⟩) hA3 FT (by simp) ⟨by decide, by decide⟩
 have iQ := qd (show Calls Tryz.prog 13 #[pQ b, .int .i64 1] w3 _ from hnx)
 have HB3 := qd (HB2.out.trans (fE.below HG2.out HB2.out.size))
 have Rn := qd (show ∀ q ∈ G3, w.heap.size ≤ q from fun q hq => (hs3 q hq).elim (HG2.out q) (fun k => by have := HB2.out.size; omega))
 clear hA3 hs3 fE hnx HO HB2 HG2
 go_wp2_with fail
 refine iQ.out.mono ?_
 rintro y w4 ⟨it, c', adQ, rfl, hns, _, G4, O4, hs4, iO⟩
 rw [I7.out.1] at hns
 obtain ⟨rfl, rfl⟩ := TP I7.out.2 hns
 have hb5 : Below w4.heap.size w4 (w4.alloc (.cells #[.int .i64 1, .int .u64 1, .int .u64 2] 48)) := (Below.refl w4.heap.size w4).alloc (Nat.le_refl _) _
 have HA4 := qd O4
 have OO := qd (HB3.out.trans (iO.below Rn.out HB3.out.size))
 have NU := qd (show ∀ q ∈ G4, w.heap.size ≤ q ∧ q < w4.heap.size from fun q hq => ⟨(hs4 q hq).elim (Rn.out q) (fun k => by have := HB3.out.size; omega), (O4.facts.1 q hq).1⟩)
 clear O4 hs4 iO hns iQ HB3 Rn hb5
 unfold uf
 go_upto_region 6 with fail
 refine bW 48 #[.int .i64 1, .int .u64 1, .int .u64 2] ?_
 rintro w5 ⟨hX, hb5⟩
 have hnx := Cr (id := 1) (cb := cb) (c := ⟨77, 2, false⟩) (HA4.out.below hb5) FT (by simp [jK]) ⟨by decide, by decide⟩
 have iQ := qd (show Calls Tryz.prog 13 #[pQ b, .int .i64 1] w5 _ from hnx)
 have HX := qd hX
 have HXg := qd (show w4.heap.size ∉ G4 from fun hg => by have := (NU.out _ hg).2; omega)
 have kP := qd (bI hb5 OO.out)
 obtain ⟨xb, hxb⟩ : ∃ xb, xb = w4.heap.size := ⟨_, rfl⟩
 rw [← hxb] at HX HXg ⊢
 clear hX hb5 hnx HA4 OO hxb
 go_wp2_with fail
 refine iQ.out.mono ?_
 rintro y w6 ⟨it, c', adR, rfl, hns, _, G6, hA6, hs6, jW⟩
 rw [I7.out.1] at hns
 obtain rfl := QL I7.out.2 hns
 have Du := qd (kP.out.trans (jW.below (fun q hq => (NU.out q hq).1) kP.out.size))
 have X4 := HX.out.mod jW HXg.out
 have oI : Below w6.heap.size w6 (w6.alloc (.cells #[.int .i64 3, .int .u64 0, .int .u64 0] 48)) := (Below.refl w6.heap.size w6).alloc (Nat.le_refl _) _
 have x0 := (X4.mod (Mod.of_below oI []) (by simp)).cell 0
 have x1 := (X4.mod (Mod.of_below oI []) (by simp)).cell 1
 have x2 := (X4.mod (Mod.of_below oI []) (by simp)).cell 2
 simp only [gl] at x0 x1 x2
 have HF := qd (bI oI Du.out)
 clear hns hA6 hs6 jW X4 oI iQ
 unfold uf
 go_wp2
 go_ret
 exact ⟨rfl, HF.out⟩
end
section
inductive Run (es : List av) (hs : List Nat) : Nat → List mF → dW → Prop
 | nil : Run es hs 0 [] ⟨0, 0, false⟩
 | next {n : Nat} {l : List mF} {c c' : dW} {i : mF} : Run es hs n l c → fP es hs c i c' → Run es hs (n + 1) (l ++ [i]) c'
def acJ (l : List mF) : List Nat := (l.filter fun i => i.st == 1).map mF.key
section
variable {es : List av} {hs : List Nat} {n : Nat} {l l' : List mF} {c c' : dW}
theorem Run.len (h : Run es hs n l c) : l.length = n := by
 induction h with
 | nil => rfl
 | next _ _ ih => rw [List.length_append, ih]; rfl
end
end
section
variable {I Kk M b gv j q size : Nat} {xs : List Value} {es out : List av} {hs ids : List Nat} {c' : dW} {it : mF} {W0 : World} {E : Nat → Addr} {H : Nat → Nat} {a : Pool} {its : List It} {eH : bC} {l : List mF}
def itC (i : mF) : List Value := [nI i.st, nU i.key, nU i.val]
section
variable {base : Nat} {w w' : World} {v v' u u' : Value} {vs : List Value} {L : List (List mF)} {G G' : List Nat}
end
theorem fP.ok {c : dW} (hc : c.ok) (he : ∀ e ∈ es, e.hash < 18446744073709551616 ∧ e.key < 18446744073709551616) (h : fP es hs c it c') : c'.ok := by
 cases h with
 | done => exact hc
 | yield h hi m h1 h2 h3 h4 hm => exact xI (he m (gI.1 hm.1).1).1
 | skip h hi h1 h2 h3 => exact xI h3
theorem je.BS {G : List Nat} {w : World} (h : je W0 E H Kk M I b G w a ids its gv eH) : ∀ e ∈ a.ents, e.hash < 18446744073709551616 ∧ e.key < 18446744073709551616 := by
 obtain ⟨C, GC, mb, h1, _⟩ := h
 exact h1.BS
def yZ (es : List av) (hs : List Nat) (its : List It) (L : List (List mF)) (I : Nat) (n : Nat → Nat) : Prop := ∀ k, k < I → ∃ cb c l, (⟨k + 1, cb, c⟩ : It) ∈ its ∧ L[k]? = some l ∧ Run es hs (n k) l c ∧ c.ok
theorem yZ.congr {L : List (List mF)} {n n' : Nat → Nat} (h : yZ es hs its L I n) (hn : ∀ k, k < I → n k = n' k) : yZ es hs its L I n' := fun k hk => by rw [← hn k hk]; exact h k hk
theorem yZ.step {L : List (List mF)} {cb : Nat} {n : Nat → Nat} {c : dW} (h : yZ es hs its L I n) (hi : (⟨q + 1, cb, c⟩ : It) ∈ its) (hL : L[q]? = some l) (hr : Run es hs (n q) l c) (hx : fP es hs c it c') (hc : c'.ok) : yZ es hs (jK its (q + 1) c') (L.set q (l ++ [it])) I (fun k => if k = q then n q + 1 else n k) := fun k hk => by
 by_cases hkq : k = q
 ·subst hkq
  refine ⟨cb, c', l ++ [it], List.mem_map.2 ⟨_, hi, by simp⟩, ?_, by simp only [if_true]; exact hr.next hx, hc⟩
  rw [List.getElem?_set, if_pos rfl, if_pos (List.getElem?_eq_some_iff.1 hL).1]
 ·obtain ⟨cb2, c2, l2, h1, h2, h3, h4⟩ := h k hk
  refine ⟨cb2, c2, l2, List.mem_map.2 ⟨_, h1, ?_⟩, ?_, by simp only [if_neg hkq]; exact h3, h4⟩
  ·show (if k + 1 = q + 1 then _ else _) = _
   rw [if_neg (by omega)]
  ·rw [List.getElem?_set, if_neg (fun e => hkq e.symm)]; exact h2
theorem je.X5 {G : List Nat} {w : World} (h : je W0 E H Kk M I b G w a ids its gv eH) : ∀ e ∈ a.ents, e.hash = H e.key := fun e he => by
 obtain ⟨C, GC, mb, h1, _⟩ := h
 obtain ⟨i, N, g1, g2⟩ := lg.1 he
 exact ((h1.core.facts.2.2.2.2.2.1 i N g1).hash e g2).1.hash
def X6 (out : List av) (n : Nat) (le : av) : Prop := n = 0 ∨ ∃ e, out[n - 1]? = some e ∧ le.key = e.key ∧ le.hash = e.hash
theorem X6.next {n : Nat} {le e x : av} (h : X6 out n le) (ha : Asc out) (he : out[n]? = some e) (h0 : n ≠ 0) (hk : x.key = e.key) (hh : x.hash = e.hash) : aX le x = true := by
 rcases h with h | ⟨e', h1, h2, h3⟩
 ·exact absurd h h0
 ·obtain ⟨a1, a2⟩ := List.getElem?_eq_some_iff.1 h1
  obtain ⟨b1, b2⟩ := List.getElem?_eq_some_iff.1 he
  have := List.pairwise_iff_getElem.1 ha (n - 1) n a1 b1 (by omega)
  rw [a2, b2] at this
  unfold aX at this ⊢
  rw [h2, h3, hk, hh]
  exact this
end
def ab6 (i : Nat) (a : Pool) (ids : List Nat) : Prop := (i < 4 → YV i a ids) ∧ (i = 4 → ids = [] ∧ a.ents.Perm (MI 4) ∧ a.groups = 2)
end Go.Proofs.YtbphcldoflekpaaGreatDoor
