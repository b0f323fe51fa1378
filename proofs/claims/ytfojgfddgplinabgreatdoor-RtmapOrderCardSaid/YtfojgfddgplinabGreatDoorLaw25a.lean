/- Where a seek ends: the places are of the table. No program in sight. -/
import Derived.Test.YtfojgfddgplinabGreatDoorTabS
import Derived.Test.YtfojgfddgplinabGreatDoorCoV
import Derived.Test.YtfojgfddgplinabGreatDoorSqT
import Derived.Test.YtfojgfddgplinabGreatDoorLaneP
namespace Go.Proofs.YtfojgfddgplinabGreatDoor.dG
set_option maxRecDepth 100000
set_option maxHeartbeats 4000000
open Go Go.RowKit dG
theorem O4 {G : ko} {s : Nat} (h : kG G = some s) : s < G.length ∧ (G.getD s .empty).isFull = false := by
 obtain ⟨hk, hp, _⟩ := List.findIdx?_eq_some_iff_getElem.1 h
 refine ⟨hk, ?_⟩
 rw [getD_in hk]; simpa using hp
def Bl (gs : Tab) (x : Option (Nat × Nat)) : Prop := ∀ i s, x = some (i, s) → i < gs.length ∧ s < (gs.getD i []).length ∧ (aD gs i s).isFull = false
theorem Ra {gs : Tab} {fr : Option (Nat × Nat)} (h : Bl gs fr) {i : Nat} (hi : i < gs.length) : Bl gs (gY fr i (gs.getD i [])) := by
 intro a b hab
 cases fr with
 | some x => exact h a b hab
 | none =>
  unfold gY at hab
  dsimp only at hab
  cases hg : kG (gs.getD i []) with
  | none => rw [hg] at hab; cases hab
  | some s =>
   rw [hg] at hab
   cases hab
   exact ⟨hi, O4 hg⟩
theorem Hq (gs : Tab) (key hash : Nat) : ∀ (l : List Nat) (fr : Option (Nat × Nat)), (∀ i ∈ l, i < gs.length) → Bl gs fr → Bl gs (jH gs key hash l fr).2.1
 | [], _, _, h => h
 | i :: is, fr, hl, h => by
  have h1 := Ra h (hl i (by simp))
  have ih := Hq gs key hash is _ (fun x hx => hl x (by simp [hx])) h1
  rw [jH]
  cases fT (gs.getD i []) key hash with
  | some s => exact h1
  | none =>
   cases dD (gs.getD i []) with
   | true => exact h1
   | false => exact ih
theorem walk_lt {h n i : Nat} (hn : 0 < n) (hi : i ∈ walk h n) : i < n := by
 obtain ⟨j, _, rfl⟩ := List.mem_map.1 hi
 exact Nat.mod_lt _ hn
theorem xV (gs : Tab) (hn : 0 < gs.length) (key hash : Nat) : Bl gs (aH gs key hash).2.1 := by
 rw [xq]
 exact Hq gs key hash _ none (fun i hi => walk_lt hn hi) (fun _ _ h => by cases h)
theorem tK {gs : Tab} {key hash i s : Nat} (h : (aH gs key hash).1 = some (i, s)) : ∃ e, aD gs i s = .full e ∧ e.key = key ∧ i < gs.length ∧ s < (gs.getD i []).length := by
 obtain ⟨e, h1, h2, _⟩ := EK h
 have := jQ (gs := gs) (i := i) (s := s) (by rw [h1]; simp)
 exact ⟨e, h1, h2, this⟩
end Go.Proofs.YtfojgfddgplinabGreatDoor.dG

/-! A table's Find, Put, Delete by their contracts. -/
namespace Go.Proofs.YtfojgfddgplinabGreatDoor
set_option maxRecDepth 100000
set_option maxHeartbeats 4000000
open Go Go.RowKit dG
theorem cZ {p F : World → Prop} {w : World} (h : F w) (h2 : ∀ v, F v → p v) : p w := h2 w h
theorem fK.below {w w' : World} (h : fK w) (hb : Below w.heap.size w w') : fK w' := fun i hi => aF hb (h i hi)
theorem fK.mod {S : List Nat} {w w' : World} (h : fK w) (hm : Mod S w w') (hs : 11 ∉ S) : fK w' := fun i hi =>
 (hm.cell_ (p := ⟨11, oD i, none⟩) (World.block_lt_of_cell? w _ (h i hi)) hs).trans (h i hi)
def lN (gs : Tab) (key hash : Nat) : Option av := (aH gs key hash).1.map fun x => (aD gs x.1 x.2).ent
def gI (o : Option av) : Value := .tuple #[aM (o.getD ⟨0, 0, 0⟩), .bool o.isSome]
theorem iI (tb gb key hash : Nat) (T : aC) (ap fp : Option Addr) (fs : Int) (hap : gy gb (aH T.gs key hash).1 ap) (w : World) (h : TabAt w tb gb T) :
  Calls Tryz.prog 68 #[bQ tb key hash ap (bO (aH T.gs key hash).1) fp fs] w fun x w' => x = .returned (gI (lN T.gs key hash)) ∧ Below w.heap.size w w' := by
 unfold lN gI
 cases hs : (aH T.gs key hash).1 with
 | none => exact Fa tb key hash ap fp fs w
 | some x =>
  obtain ⟨i, s⟩ := x
  obtain ⟨e, h1, _, h3, h4⟩ := tK hs
  obtain rfl := hap i s hs
  have := Fb tb key hash gb fp fs T i s h3 (by have := h.wide.at_ h3; omega) e h1 w h
  simpa [bO, h1, Slot.ent] using this
theorem Jd (tb gb : Nat) (T : aC) (mb : Nat) (mt : TypeId) (iH fC : List Value) (mo : Nat) (a0 l0 : bF) (m : Int) (c : bF) (e : av) (w : World) (h : TabAt w tb gb T) (hP : Pw T.gs.length) (h64 : e.hash < 18446744073709551616) (hM : Met w mb mt iH fC mo a0 l0 m) (hmt : mb ≠ tb) (iD : mb ≠ gb) (hT : fK w) (hz : 11 ≠ mb) (hsk : (aH T.gs e.key e.hash).1 = none) (i s : Nat) (hfr : (aH T.gs e.key e.hash).2.1 = some (i, s)) (hS : Small T) (hroom : T.live + T.bM + 1 ≤ 7 * (T.gs.length : Int)) :
  Calls Tryz.prog 232 #[bT tb, aJ (some ⟨mb, mo, none⟩) c, aM e] w fun x w' => x = .returned (.tuple #[.bool true, .nilIface]) ∧ TabAt w' tb gb (jk T i s e) ∧ Met w' mb mt iH fC mo (eD a0 c (aH T.gs e.key e.hash).2.2) (eD l0 c (aH T.gs e.key e.hash).2.2) m ∧ Mod [mb, tb, gb] w w' := by
 obtain ⟨W, hW, hB, hL, hE⟩ := lK w 112 #[.pointer (some ⟨mb, mo, none⟩), .int .i64 c.p, .int .i64 c.v, .int .i64 c.u] 37 #[.int .u64 (e.key : Int), .int .u64 (e.val : Int), .int .u64 (e.hash : Int)]
 obtain ⟨Kl, Km, Kn, Ko⟩ := hL.c4
 obtain ⟨e0, e1, e2⟩ := hE.c3
 have hml := hM.lt
 have htl := h.aT
 have hgl := h.aU
 have nA := h.below hB
 have h8 := fun i hi => h.wide.at_ (i := i) hi
 have aY := qd (uU tb gb e.key e.hash T mb mt iH fC mo a0 l0 m c W nA hP h64 (hM.below hB) hmt iD (hT.below hB) hz)
 have HW := qd hW
 have HB := qd hB
 have bC := qd (fun ap fp fs hap V hV => iI tb gb e.key e.hash T ap fp fs hap V hV)
 unfold lN at bC
 rw [hsk] at bC aY
 rw [hfr] at aY
 simp only [Option.map_none, bO, gI, Option.getD_none, Option.isSome_none] at bC aY
 unfold bT aJ bQ at aY
 unfold bQ aM at bC
 unfold bT aJ aM
 clear hW hB h hM
 go_in
 go_upto_region 1 with fail
 rw [← HW.out]
 go_wp2_with fail
 refine (aY.out).mono ?_
 rintro x w1 ⟨ap, fp, rfl, hap, hfp, hM1, hm1⟩
 obtain rfl := hfp i s rfl
 go_upto_region 2 with fail
 have hS2 := aj.new w1 159 #[.pointer (some ⟨tb, 0, none⟩), .int .u64 (e.key : Int), .int .u64 (e.hash : Int), .pointer ap, .int .i64 (-1), .pointer (some ⟨gb, i * 25, none⟩), .int .i64 (s : Int)]
 have hb2 := (Below.refl w1.heap.size w1).alloc (Nat.le_refl _) (.cells #[.pointer (some ⟨tb, 0, none⟩), .int .u64 (e.key : Int), .int .u64 (e.hash : Int), .pointer ap, .int .i64 (-1), .pointer (some ⟨gb, i * 25, none⟩), .int .i64 (s : Int)] 159)
 obtain ⟨w2, hw2⟩ : ∃ w2, w2 = w1.alloc (.cells #[.pointer (some ⟨tb, 0, none⟩), .int .u64 (e.key : Int), .int .u64 (e.hash : Int), .pointer ap, .int .i64 (-1), .pointer (some ⟨gb, i * 25, none⟩), .int .i64 (s : Int)] 159) := ⟨_, rfl⟩
 rw [← hw2] at hS2 hb2 ⊢
 clear hw2
 have jW := (nA.mod hm1 (by simp; omega) (by simp; omega)).below hb2
 have hM2 := hM1.below hb2
 have hE2 := (hE.mod hm1 (by simp; omega)).below hb2 (hE.mod hm1 (by simp; omega)).lt
 have hm2 := ((Mod.of_below HB.out [mb, tb, gb]).then (hm1.more (by simp))).then (Mod.of_below hb2 [mb, tb, gb])
 obtain ⟨sp0, sp1, sp2, sp3, sp4, sp5, sp6⟩ := hS2.c7
 clear nA hM1 hm1 hE hb2
 go_wp2_with fail
 refine (bC.out ap _ _ (fun _ _ hh => by cases hh) w2 jW).mono ?_
 rintro x w3 ⟨rfl, hb3⟩
 have hb4 := bE ((Below.refl w3.heap.size w3).alloc (Nat.le_refl _) (.cells #[.int .u64 0, .int .u64 0, .int .u64 0] 37)) hb3
 have xw := hS2.below hb4 hS2.lt
 have hE4 := hE2.below hb4 hE2.lt
 go_upto_region 5 with fail
 obtain ⟨w4, hw4⟩ : ∃ w4, w4 = w3.alloc (.cells #[.int .u64 0, .int .u64 0, .int .u64 0] 37) := ⟨_, rfl⟩
 rw [← hw4] at hb4 xw hE4
 try rw [← hw4]
 clear hw4 hb3 hS2 hE2
 have Bn := xV T.gs hP.pos e.key e.hash i s hfr
 have oZ : s < 8 := by have := h8 i Bn.1; omega
 have iW := qd (zC tb gb ap T i s e Bn.1 oZ h64 Bn.2.2 hS hroom w4 (jW.below hb4))
 unfold bQ aM at iW
 have Db := qd (hM2.below hb4)
 have HM5 := qd (hm2.then (Mod.of_below hb4 [mb, tb, gb]))
 clear jW hM2 hm2 hb4
 obtain ⟨sq0, sq1, sq2, sq3, sq4, sq5, sq6⟩ := xw.c7
 obtain ⟨eq0, eq1, eq2⟩ := hE4.c3
 go_wp2_with fail
 refine (iW.out).mono ?_
 rintro x w5 ⟨rfl, mg, gJ⟩
 have HT5 := qd mg
 have HM6 := qd (Db.out.mod gJ (by simp; omega))
 have HM7 := qd (HM5.out.then (gJ.more (by simp)))
 clear mg gJ
 go_wp2
 refine bodyPost_ret (v := .tuple #[.bool true, .nilIface]) (by simp [results, Tryz.results232, go_sem]) rfl ⟨rfl, HT5.out, HM6.out, HM7.out⟩
end Go.Proofs.YtfojgfddgplinabGreatDoor

/-! A table's Delete by its contract. -/
namespace Go.Proofs.YtfojgfddgplinabGreatDoor
set_option maxRecDepth 100000
set_option maxHeartbeats 4000000
open Go Go.RowKit dG
theorem Bo (tb gb : Nat) (T : aC) (mb : Nat) (mt : TypeId) (iH fC : List Value) (mo : Nat) (a0 l0 : bF) (m : Int) (c : bF) (key hash : Nat) (w : World) (h : TabAt w tb gb T) (hP : Pw T.gs.length) (h64 : hash < 18446744073709551616) (hM : Met w mb mt iH fC mo a0 l0 m) (hmt : mb ≠ tb) (iD : mb ≠ gb) (hT : fK w) (hz : 11 ≠ mb) (i s : Nat) (hsk : (aH T.gs key hash).1 = some (i, s)) (e0 : av) (he0 : aD T.gs i s = .full e0) (hS : Small T) :
  Calls Tryz.prog 85 #[bT tb, aJ (some ⟨mb, mo, none⟩) c, .int .u64 (key : Int), .int .u64 (hash : Int)] w fun x w' => x = .returned (gI (some e0)) ∧ TabAt w' tb gb (iq T i s) ∧ Met w' mb mt iH fC mo (eD a0 c (aH T.gs key hash).2.2) (eD l0 c (aH T.gs key hash).2.2) m ∧ Mod [mb, tb, gb] w w' := by
 obtain ⟨W, hW, hB, hL, hR⟩ := lK w 112 #[.pointer (some ⟨mb, mo, none⟩), .int .i64 c.p, .int .i64 c.v, .int .i64 c.u] 37 #[.int .u64 0, .int .u64 0, .int .u64 0]
 have lc := hL.c4
 have hml := hM.lt
 have htl := h.aT
 have hgl := h.aU
 obtain ⟨e1, he1, hk0, hil, hsl⟩ := tK hsk
 have oZ : s < 8 := by have := h.wide.at_ hil; omega
 have HW := qd hW
 have bC := qd (fun ap fp fs hap V hV => iI tb gb key hash T ap fp fs hap V hV)
 have aY := qd (uU tb gb key hash T mb mt iH fC mo a0 l0 m c W (h.below hB) hP h64 (hM.below hB) hmt iD (hT.below hB) hz)
 unfold lN at bC
 obtain ⟨fs, hfs⟩ : ∃ fs, fs = bO (aH T.gs key hash).2.1 := ⟨_, rfl⟩
 rw [hsk] at bC aY
 rw [← hfs] at aY
 clear hfs
 simp only [Option.map_some, Option.map_none, he0, Slot.ent, bO, gI, Option.getD_some, Option.getD_none, Option.isSome_some, Option.isSome_none] at bC aY
 unfold bQ at aY
 unfold bQ aM at bC
 unfold bT aJ gI aM
 simp only [Option.getD_some, Option.getD_none, Option.isSome_some, Option.isSome_none]
 have HT := qd (h.below hB)
 have HR := qd (hR)
 have ah := qd (Mod.of_below hB [mb, tb, gb])
 clear hW hB h hM hL hR hT he1
 go_in
 go_upto_region 1 with fail
 rw [← HW.out]
 go_wp2_with fail
 refine (aY.out).mono ?_
 rintro x w1 ⟨ap, fp, rfl, hap, hfp, hM1, hm⟩
 clear lc
 replace HT := qM hm HT
 replace HR := qM hm HR
 replace ah := qU ah hm
 clear hm
 obtain rfl := hap i s rfl
 clear hap hfp
 have HM := qd (hM1)
 clear hM1
 go_upto_region 2 with fail
 have q1 := qJ HT.out.aT (qJ HT.out.aU (qJ HR.out.lt (qJ HM.out.lt ah.out.size)))
 refine bY 159 #[.pointer (some ⟨tb, 0, none⟩), .int .u64 (key : Int), .int .u64 (hash : Int), .pointer (some ⟨gb, i * 25, none⟩), .int .i64 (s : Int), .pointer fp, .int .i64 fs] ?_
 rintro w2 ⟨hnew, hb⟩
 replace HT := qB hb HT
 replace HR := qB hb HR
 replace HM := qB hb HM
 replace ah := qT ah hb
 have HS := qd (hnew)
 clear hnew hb
 have sp := HS.out.c7
 go_wp2_with fail
 refine (bC.out (some ⟨gb, i * 25, none⟩) fp fs (fun i2 s2 hh => by cases hh; rfl) w2 HT.out).mono ?_
 rintro x w3 ⟨rfl, hb⟩
 clear sp
 replace HT := qB hb HT
 replace HR := qB hb HR
 replace HM := qB hb HM
 replace HS := qB hb HS
 replace ah := qT ah hb
 clear hb
 go_upto_region 3 with fail
 have q6 := qJ HT.out.aT (qJ HT.out.aU (qJ HR.out.lt (qJ HM.out.lt (qJ HS.out.lt ah.out.size))))
 refine bY 37 #[.int .u64 (e0.key : Int), .int .u64 (e0.val : Int), .int .u64 (e0.hash : Int)] ?_
 rintro w4 ⟨hnew, hb⟩
 replace HT := qB hb HT
 replace HR := qB hb HR
 replace HM := qB hb HM
 replace HS := qB hb HS
 replace ah := qT ah hb
 have HD := qd (hnew)
 clear hnew hb
 have sp := HS.out.c7
 have dc := HD.out.c3
 have NG := qd (Dl tb key hash gb fp fs T i s hil oZ e0 he0 hS w4.drew (HT.out.below (Below.refl _ _).drew))
 refine rT (fun (w' : World) => w'.cell? ⟨w3.heap.size, 0, none⟩ = some (.int .u64 (e0.key : Int)) ∧ w'.cell? ⟨w3.heap.size, 1, none⟩ = some (.int .u64 (e0.val : Int)) ∧ w'.cell? ⟨w3.heap.size, 2, none⟩ = some (.int .u64 (e0.hash : Int)) ∧ w'.cell? ⟨w1.heap.size, 0, none⟩ = some (.pointer (some ⟨tb, 0, none⟩)) ∧ w'.cell? ⟨w1.heap.size, 1, none⟩ = some (.int .u64 (key : Int)) ∧ w'.cell? ⟨w1.heap.size, 2, none⟩ = some (.int .u64 (hash : Int)) ∧ w'.cell? ⟨w1.heap.size, 3, none⟩ = some (.pointer (some ⟨gb, i * 25, none⟩)) ∧ w'.cell? ⟨w1.heap.size, 4, none⟩ = some (.int .i64 (s : Int)) ∧ w'.cell? ⟨w1.heap.size, 5, none⟩ = some (.pointer fp) ∧ w'.cell? ⟨w1.heap.size, 6, none⟩ = some (.int .i64 fs)) [7] ?_
 have hHeld := (⟨dc.1, dc.2.1, dc.2.2, sp.1, sp.2.1, sp.2.2.1, sp.2.2.2.1, sp.2.2.2.2.1, sp.2.2.2.2.2.1, sp.2.2.2.2.2.2⟩ : _ ∧ _ ∧ _ ∧ _ ∧ _ ∧ _ ∧ _ ∧ _ ∧ _ ∧ _)
 refine vT 0 rfl ?_
 refine vW 1 rfl ?_
 refine vW 2 rfl ?_
 refine vT 3 rfl ?_
 refine nT 4 rfl fun K hK => ?_
 go_simp
 refine (NG.out).mono ?_
 rintro x w5 ⟨rfl, mg, hm⟩
 replace hm : Mod [tb, gb] w4 w5 := (Mod.drewN [tb, gb] w4 1).then hm
 clear HT sp dc
 replace HR := qM hm HR
 replace HM := qM hm HM
 replace HS := qM hm HS
 replace HD := qM hm HD
 replace ah := qU ah hm
 have HT := qd (mg)
 clear mg hm
 have sp := HS.out.c7
 have dc := HD.out.c3
 have rc := HR.out.c3
 have rf := HR.out.f3
 go_simp
 have hHeld := (⟨dc.1, dc.2.1, dc.2.2, sp.1, sp.2.1, sp.2.2.1, sp.2.2.2.1, sp.2.2.2.2.1, sp.2.2.2.2.2.1, sp.2.2.2.2.2.2⟩ : _ ∧ _ ∧ _ ∧ _ ∧ _ ∧ _ ∧ _ ∧ _ ∧ _ ∧ _)
 refine kO hK ?_
 clear hK K
 refine vW 5 rfl ?_
 refine vW 6 rfl ?_
 refine nT 7 rfl fun K hK => ?_
 go_simp
 refine kO hK ?_
 clear hK K
 refine vL 8 rfl ?_
 refine aS (by kernel_rfl) ?_ _
 clear HS HD
 have q12 := qJ HR.out.lt (qJ HM.out.lt (qJ HT.out.aT HT.out.aU))
 have hnew := (((HR.out.ak 0 (.int .u64 (e0.key : Int))).ak 1 (.int .u64 (e0.val : Int))).ak 2 (.int .u64 (e0.hash : Int)))
 have hm := ((((Mod.refl [(w.heap.size + 1)] w5).sl 0 (.int .u64 (e0.key : Int))).sl 1 (.int .u64 (e0.val : Int))).sl 2 (.int .u64 (e0.hash : Int)))
 simp only [pt] at hnew
 refine cZ (F := fun v => aj v (w.heap.size + 1) 37 #[.int .u64 (e0.key : Int), .int .u64 (e0.val : Int), .int .u64 (e0.hash : Int)] ∧ Mod [(w.heap.size + 1)] w5 v) ⟨hnew, hm⟩ ?_
 clear hnew hm
 rintro w6 ⟨hnew, hm⟩
 replace HM := qM hm HM
 replace HT := qM hm HT
 replace ah := qU ah hm
 replace HR := qd hnew
 clear hnew hm
 have rc := HR.out.c3
 go_wp2
 refine bodyPost_ret (v := .tuple #[.agg #[.int .u64 (e0.key : Int), .int .u64 (e0.val : Int), .int .u64 (e0.hash : Int)], .bool true]) (by simp [results, Tryz.results85, go_sem, rc.1, rc.2.1, rc.2.2]) rfl ⟨rfl, HT.out, HM.out, ah.out⟩
theorem CS (tb gb : Nat) (T : aC) (mb : Nat) (mt : TypeId) (iH fC : List Value) (mo : Nat) (a0 l0 : bF) (m : Int) (c : bF) (key hash : Nat) (w : World) (h : TabAt w tb gb T) (hP : Pw T.gs.length) (h64 : hash < 18446744073709551616) (hM : Met w mb mt iH fC mo a0 l0 m) (hmt : mb ≠ tb) (iD : mb ≠ gb) (hT : fK w) (hz : 11 ≠ mb) (hsk : (aH T.gs key hash).1 = none) :
  Calls Tryz.prog 85 #[bT tb, aJ (some ⟨mb, mo, none⟩) c, .int .u64 (key : Int), .int .u64 (hash : Int)] w fun x w' => x = .returned (gI none) ∧ TabAt w' tb gb T ∧ Met w' mb mt iH fC mo (eD a0 c (aH T.gs key hash).2.2) (eD l0 c (aH T.gs key hash).2.2) m ∧ Mod [mb] w w' := by
 obtain ⟨W, hW, hB, hL, hR⟩ := lK w 112 #[.pointer (some ⟨mb, mo, none⟩), .int .i64 c.p, .int .i64 c.v, .int .i64 c.u] 37 #[.int .u64 0, .int .u64 0, .int .u64 0]
 have lc := hL.c4
 have hml := hM.lt
 have htl := h.aT
 have hgl := h.aU
 have HW := qd hW
 have bC := qd (fun ap fp fs hap V hV => iI tb gb key hash T ap fp fs hap V hV)
 have aY := qd (uU tb gb key hash T mb mt iH fC mo a0 l0 m c W (h.below hB) hP h64 (hM.below hB) hmt iD (hT.below hB) hz)
 unfold lN at bC
 obtain ⟨fs, hfs⟩ : ∃ fs, fs = bO (aH T.gs key hash).2.1 := ⟨_, rfl⟩
 rw [hsk] at bC aY
 rw [← hfs] at aY
 clear hfs
 simp only [Option.map_some, Option.map_none, Slot.ent, bO, gI, Option.getD_some, Option.getD_none, Option.isSome_some, Option.isSome_none] at bC aY
 unfold bQ at aY
 unfold bQ aM at bC
 unfold bT aJ gI aM
 simp only [Option.getD_some, Option.getD_none, Option.isSome_some, Option.isSome_none]
 have HT := qd (h.below hB)
 have HR := qd (hR)
 have ah := qd (Mod.of_below hB [mb])
 clear hW hB h hM hL hR hT
 go_in
 go_upto_region 1 with fail
 rw [← HW.out]
 go_wp2_with fail
 refine (aY.out).mono ?_
 rintro x w1 ⟨ap, fp, rfl, hap, hfp, hM1, hm⟩
 clear lc
 replace HT := qM hm HT
 replace HR := qM hm HR
 replace ah := qU ah hm
 clear hm hap hfp
 have HM := qd (hM1)
 clear hM1
 go_upto_region 2 with fail
 have q1 := qJ HT.out.aT (qJ HT.out.aU (qJ HR.out.lt (qJ HM.out.lt ah.out.size)))
 refine bY 159 #[.pointer (some ⟨tb, 0, none⟩), .int .u64 (key : Int), .int .u64 (hash : Int), .pointer ap, .int .i64 (-1), .pointer fp, .int .i64 fs] ?_
 rintro w2 ⟨hnew, hb⟩
 replace HT := qB hb HT
 replace HR := qB hb HR
 replace HM := qB hb HM
 replace ah := qT ah hb
 have HS := qd (hnew)
 clear hnew hb
 have sp := HS.out.c7
 go_wp2_with fail
 refine (bC.out ap fp fs (fun i2 s2 hh => by cases hh) w2 HT.out).mono ?_
 rintro x w3 ⟨rfl, hb⟩
 clear sp
 replace HT := qB hb HT
 replace HR := qB hb HR
 replace HM := qB hb HM
 replace HS := qB hb HS
 replace ah := qT ah hb
 clear hb
 go_upto_region 3 with fail
 have q6 := qJ HT.out.aT (qJ HT.out.aU (qJ HR.out.lt (qJ HM.out.lt (qJ HS.out.lt ah.out.size))))
 refine bY 37 #[.int .u64 0, .int .u64 0, .int .u64 0] ?_
 rintro w4 ⟨hnew, hb⟩
 replace HT := qB hb HT
 replace HR := qB hb HR
 replace HM := qB hb HM
 replace HS := qB hb HS
 replace ah := qT ah hb
 have HD := qd (hnew)
 clear hnew hb
 have sp := HS.out.c7
 have dc := HD.out.c3
 have rc := HR.out.c3
 have rf := HR.out.f3
 refine rT (fun (w' : World) => w'.cell? ⟨w3.heap.size, 0, none⟩ = some (.int .u64 0) ∧ w'.cell? ⟨w3.heap.size, 1, none⟩ = some (.int .u64 0) ∧ w'.cell? ⟨w3.heap.size, 2, none⟩ = some (.int .u64 0)) [7] ?_
 have hHeld := (⟨dc.1, dc.2.1, dc.2.2⟩ : _ ∧ _ ∧ _)
 refine vT 0 rfl ?_
 refine vW 1 rfl ?_
 refine vW 2 rfl ?_
 refine vU 3 rfl ?_
 refine vU 4 rfl ?_
 refine vU 5 rfl ?_
 refine vW 6 rfl ?_
 refine nT 7 rfl fun K hK => ?_
 go_simp
 refine kO hK ?_
 clear hK K
 refine vL 8 rfl ?_
 refine aS (by kernel_rfl) ?_ _
 clear HS HD
 have q12 := qJ HT.out.aT (qJ HT.out.aU (qJ HR.out.lt HM.out.lt))
 have hnew := (((HR.out.ak 0 (.int .u64 0)).ak 1 (.int .u64 0)).ak 2 (.int .u64 0)).drew
 have hm := (((((Mod.refl [(w.heap.size + 1)] w4).sl 0 (.int .u64 0)).sl 1 (.int .u64 0)).sl 2 (.int .u64 0)).then (Mod.drewN [(w.heap.size + 1)] _ 1))
 simp only [pt] at hnew
 refine cZ (F := fun v => aj v (w.heap.size + 1) 37 #[.int .u64 0, .int .u64 0, .int .u64 0] ∧ Mod [(w.heap.size + 1)] w4 v) ⟨hnew, hm⟩ ?_
 clear hnew hm
 rintro w6 ⟨hnew, hm⟩
 replace HT := qM hm HT
 replace HM := qM hm HM
 replace ah := qU ah hm
 replace HR := qd hnew
 clear hnew hm
 have rc := HR.out.c3
 go_wp2
 refine bodyPost_ret (v := .tuple #[.agg #[.int .u64 0, .int .u64 0, .int .u64 0], .bool false]) (by simp [results, Tryz.results85, go_sem, rc.1, rc.2.1, rc.2.2]) rfl ⟨rfl, HT.out, HM.out, ah.out⟩
end Go.Proofs.YtfojgfddgplinabGreatDoor

/-! A table's look and Prepare by their contracts. -/
namespace Go.Proofs.YtfojgfddgplinabGreatDoor
set_option maxRecDepth 100000
set_option maxHeartbeats 4000000
open Go Go.RowKit dG
theorem Fh (tb gb : Nat) (T : aC) (mb : Nat) (mt : TypeId) (iH fC : List Value) (mo : Nat) (a0 l0 : bF) (m : Int) (c : bF) (i : Nat) (hi : i < T.gs.length) (w : World) (h : TabAt w tb gb T) (hM : Met w mb mt iH fC mo a0 l0 m) (hmt : mb ≠ tb) (iD : mb ≠ gb) :
  Calls Tryz.prog 238 #[bT tb, aJ (some ⟨mb, mo, none⟩) c, .int .i64 (i : Int)] w fun x w' => x = .returned (.tuple #[bA ⟨gb, i * 25, none⟩, .bool true]) ∧ Met w' mb mt iH fC mo (iT a0 c) (iT l0 c) m ∧ Mod [mb] w w' := by
 obtain ⟨W, hW, hB, hL, hR⟩ := lK w 112 #[.pointer (some ⟨mb, mo, none⟩), .int .i64 c.p, .int .i64 c.v, .int .i64 c.u] 155 #[.pointer none]
 have lc := hL.c4
 have Hr := hR.cell 0
 simp only [List.getElem?_toArray, List.getElem?_cons_zero] at Hr
 have hml := hM.lt
 have htl := h.aT
 have hgl := h.aU
 have HW := qd hW
 have hi' : (i : Int) < (T.gs.length : Int) := by omega
 have hi0 : ¬ ((i : Int) < 0) := by omega
 have hi2 : (0 : Int) ≤ (i : Int) := by omega
 have nR := qd (uT ⟨gb, i * 25, none⟩ mb mt iH fC mo a0 l0 m c W.drew (hM.below (hB.trans ((Below.refl _ _).drew.mono hB.size))))
 obtain ⟨rV, Wx, Wy⟩ := (h.below hB).cells
 unfold aJ at nR
 unfold bT aJ bA
 have HT := qd (h.below hB)
 have HR := qd (hR)
 have ah := qd (Mod.of_below hB [mb])
 clear hW hB h hM hL hR
 go_in
 go_upto_region 1 with fail
 rw [← HW.out]
 go_upto_region 3 with fail
 refine rT (fun (w' : World) => w'.cell? ⟨tb, 0, none⟩ = some (.slice (some ⟨gb, 0, none⟩) T.gs.length T.gs.length) ∧ w'.cell? ⟨w.heap.size, 0, none⟩ = some (.pointer (some ⟨mb, mo, none⟩)) ∧ w'.cell? ⟨w.heap.size, 1, none⟩ = some (.int .i64 c.p) ∧ w'.cell? ⟨w.heap.size, 2, none⟩ = some (.int .i64 c.v) ∧ w'.cell? ⟨w.heap.size, 3, none⟩ = some (.int .i64 c.u)) [7, 8] ?_
 have hHeld := (⟨rV, lc.1, lc.2.1, lc.2.2.1, lc.2.2.2⟩ : _ ∧ _ ∧ _ ∧ _ ∧ _)
 refine vW 0 rfl ?_
 refine vW 1 rfl ?_
 refine vW 2 rfl ?_
 refine vT 3 rfl ?_
 refine vW 4 rfl ?_
 refine vW 5 rfl ?_
 refine vT 6 rfl ?_
 refine nT 7 rfl fun K hK => ?_
 go_simp
 refine (nR.out).mono ?_
 rintro x w1 ⟨rfl, hM1, hm⟩
 replace hm : Mod [mb] W w1 := (Mod.drewN [mb] W 1).then hm
 clear lc Hr
 replace HT := qM hm HT
 replace HR := qM hm HR
 replace ah := qU ah hm
 have HM := qd (hM1)
 clear hM1 hm
 unfold bA
 have Hr := HR.out.cell 0
 simp only [List.getElem?_toArray, List.getElem?_cons_zero] at Hr
 have Q8 := HR.out.frozen 0
 have n0 := HT.out.cells.1
 go_simp
 refine kO hK ?_
 clear hK K
 refine nT 8 rfl fun K hK => ?_
 go_simp
 refine kO hK ?_
 clear hK K
 refine vL 9 rfl ?_
 refine aS (by kernel_rfl) ?_ _
 have q1 := qJ HT.out.aT (qJ HT.out.aU (qJ HR.out.lt HM.out.lt))
 have hnew := (HR.out.ak 0 (.pointer (some ⟨gb, i * 25, none⟩)))
 have hm := ((Mod.refl [(w.heap.size + 1)] w1).sl 0 (.pointer (some ⟨gb, i * 25, none⟩)))
 simp only [pt] at hnew
 refine cZ (F := fun v => aj v (w.heap.size + 1) 155 #[.pointer (some ⟨gb, i * 25, none⟩)] ∧ Mod [(w.heap.size + 1)] w1 v) ⟨hnew, hm⟩ ?_
 clear hnew hm
 rintro w2 ⟨hnew, hm⟩
 clear Hr Q8
 replace HT := qM hm HT
 replace HM := qM hm HM
 replace ah := qU ah hm
 replace HR := qd hnew
 clear hnew hm
 have Hr := HR.out.cell 0
 simp only [List.getElem?_toArray, List.getElem?_cons_zero] at Hr
 go_wp2
 refine bodyPost_ret (v := .tuple #[.agg #[.pointer (some ⟨gb, i * 25, none⟩)], .bool true]) (by simp [results, Tryz.results238, go_sem, Hr]) rfl ⟨rfl, HM.out, ah.out⟩
theorem Je (tb gb : Nat) (T : aC) (mb : Nat) (mt : TypeId) (iH fC : List Value) (mo : Nat) (a0 l0 : bF) (m : Int) (c : bF) (i : Nat) (hi : i < T.gs.length) (w : World) (h : TabAt w tb gb T) (hM : Met w mb mt iH fC mo a0 l0 m) (hmt : mb ≠ tb) (iD : mb ≠ gb) :
  Calls Tryz.prog 233 #[bT tb, aJ (some ⟨mb, mo, none⟩) c, .int .i64 (i : Int)] w fun x w' => x = .returned .nilIface ∧ TabAt w' tb gb { T with gs := T.gs.set i (List.replicate 8 .empty) } ∧ Met w' mb mt iH fC mo (iT a0 c) (iT l0 c) m ∧ Mod [mb, tb, gb] w w' := by
 have hB := (Below.refl w.heap.size w).alloc (Nat.le_refl _) (.cells #[.pointer (some ⟨mb, mo, none⟩), .int .i64 c.p, .int .i64 c.v, .int .i64 c.u] 112)
 have hL := aj.new w 112 #[.pointer (some ⟨mb, mo, none⟩), .int .i64 c.p, .int .i64 c.v, .int .i64 c.u]
 obtain ⟨W, hW⟩ : ∃ W, W = w.alloc (.cells #[.pointer (some ⟨mb, mo, none⟩), .int .i64 c.p, .int .i64 c.v, .int .i64 c.u] 112) := ⟨_, rfl⟩
 rw [← hW] at hB hL
 obtain ⟨Kl, Km, Kn, Ko⟩ := hL.c4
 have hml := hM.lt
 have htl := h.aT
 have hgl := h.aU
 have HW := qd hW
 have nR := qd (Fh tb gb T mb mt iH fC mo a0 l0 m c i hi W (h.below hB) (hM.below hB) hmt iD)
 unfold bT aJ bA at nR
 unfold bT aJ
 have HT := qd (h.below hB)
 have ah := qd (Mod.of_below hB [mb, tb, gb])
 clear hW hB h hM hL
 go_in
 go_upto_region 1 with fail
 rw [← HW.out]
 go_wp2_with fail
 refine (nR.out).mono ?_
 rintro x w1 ⟨rfl, hM1, hm⟩
 clear Kl Km Kn Ko
 replace HT := qM hm HT
 replace ah := qU ah hm
 clear hm
 have HM := qd (hM1)
 clear hM1
 go_upto_region 4 with fail
 have q1 := qJ HT.out.aT (qJ HT.out.aU (qJ HM.out.lt ah.out.size))
 refine bY 155 #[.pointer (some ⟨gb, i * 25, none⟩)] ?_
 rintro w2 ⟨hnew, hb⟩
 replace HT := qB hb HT
 replace HM := qB hb HM
 replace ah := qT ah hb
 have HV := qd (hnew)
 clear hnew hb
 have yT := HV.out.cell 0
 simp only [List.getElem?_toArray, List.getElem?_cons_zero] at yT
 have Bp := qd (Hl gb 197 _ _ (i * 25) _ w2 (HT.out.group i hi))
 unfold bA at Bp
 go_wp2_with fail
 refine (Bp.out).mono ?_
 rintro x w3 ⟨rfl, hG3, hm⟩
 have Aj := HT.out.nQ i hi hm hG3
 clear HT hG3 HV yT
 replace HM := qM hm HM
 replace ah := qU ah hm
 have HT := qd (Aj)
 clear hm Aj
 go_wp2
 go_ret
 exact ⟨rfl, HT.out, HM.out, ah.out⟩
end Go.Proofs.YtfojgfddgplinabGreatDoor

/-! amblerlaw21.Entry, amblerlaw21.Long. -/
namespace Go.Proofs.YtfojgfddgplinabGreatDoor
set_option maxRecDepth 100000
set_option maxHeartbeats 4000000
open Go Go.RowKit dG
structure eY where
 kind : Int
 key : Int
 n : Int
def eY.cells (a : eY) : List Value := [.int .i64 a.kind, .int .i64 a.key, .int .i64 a.n]
def Gh (a : eY) : Value := .agg #[.int .i64 a.kind, .int .i64 a.key, .int .i64 a.n]
def Ht (key : Int) (n : Nat) : Nat := (key % 18446744073709551616).toNat % n
def uV (l : List Nat) (a : eY) : av := ⟨Ht a.key l.length, (a.n % 18446744073709551616).toNat, l.getD (Ht a.key l.length) 0⟩
def sQ (l : List Nat) : List Value := l.map fun x : Nat => .int .u64 (x : Int)
theorem Rb (A : Option Addr) (n c : Nat) (l : List Nat) (a : eY) (hn : 1 ≤ n ∧ n ≤ 220) (hl : l.length = n) (w : World) (hR : Reads w w.heap.size 1 A n (sQ l)) :
  Calls Tryz.prog 18 #[.slice A n c, Gh a] w fun e w' => e = .returned (aM (uV l a)) ∧ Below w.heap.size w w' := by
 obtain ⟨g, off, rfl, hgl, hcell⟩ := hR.2 (by omega)
 obtain ⟨i, hi⟩ : ∃ i, i = Ht a.key n := ⟨_, rfl⟩
 have hin : i < n := by rw [hi]; exact Nat.mod_lt _ (by omega)
 obtain ⟨x, hx⟩ : ∃ x, x = l.getD i 0 := ⟨_, rfl⟩
 have hc : w.cell? ⟨g, off + i, none⟩ = some (.int .u64 (x : Int)) := hcell i _ (by
  unfold sQ
  rw [List.getElem?_map, List.getElem?_eq_getElem (by omega), hx, List.getD_eq_getElem?_getD, List.getElem?_eq_getElem (by omega)]; rfl)
 unfold Gh
 have hB1 := (aj.new w 71 #[.int .i64 a.kind, .int .i64 a.key, .int .i64 a.n]).alloc (.cells #[.int .u64 0, .int .u64 0, .int .u64 0] 37)
 have hB2 := aj.new (w.alloc (.cells #[.int .i64 a.kind, .int .i64 a.key, .int .i64 a.n] 71)) 37 #[.int .u64 0, .int .u64 0, .int .u64 0]
 have hb := ((Below.refl w.heap.size w).alloc (Nat.le_refl _) (.cells #[.int .i64 a.kind, .int .i64 a.key, .int .i64 a.n] 71)).alloc (by simp) (.cells #[.int .u64 0, .int .u64 0, .int .u64 0] 37)
 simp only [World.size_alloc] at hB2
 go_in
 go_upto_region 1 with fail
 refine cZ (F := fun v => aj v w.heap.size 71 #[.int .i64 a.kind, .int .i64 a.key, .int .i64 a.n] ∧ aj v (w.heap.size + 1) 37 #[.int .u64 0, .int .u64 0, .int .u64 0] ∧ Below w.heap.size w v) ⟨hB1, hB2, hb⟩ ?_
 clear hB1 hB2 hb
 rintro w1 ⟨hB1, hB2, hb⟩
 have a0 := hB1.cell 0
 have a1 := hB1.cell 1
 have a2 := hB1.cell 2
 have b0 := hB2.cell 0
 have b1 := hB2.cell 1
 have b2 := hB2.cell 2
 simp only [gl] at a0 a1 a2 b0 b1 b2
 obtain ⟨f0, f1, f2⟩ := hB2.f3
 have hc1 : w1.cell? ⟨g, off + i, none⟩ = some (.int .u64 (x : Int)) := (World.cell?_of_block (hb.block g hgl)).trans hc
 have HB2 := qd hB2
 have HB := qd hb
 have HI := qd hi
 have HX := qd hx
 have hn1 : (n : Int) ≤ 220 := by omega
 have hn0 : (1 : Int) ≤ (n : Int) := by omega
 have hnz : ¬ (n : Int) = 0 := by omega
 clear hB1 hB2 hb hi hx hR hc hcell
 have hwk : IntKind.u64.wrap a.key = a.key % 18446744073709551616 := by first | rfl | (simp [IntKind.wrap])
 have hq1 : (IntKind.u64.wrap a.key).tmod (n : Int) = (i : Int) := by
  rw [hwk, HI.out, Int.tmod_eq_emod_of_nonneg (by omega)]
  unfold Ht
  rw [Int.natCast_emod, Int.toNat_of_nonneg (by omega)]
 have hq2 : wrap64 (i : Int) = (i : Int) := by unfold wrap64; omega
 have hi0 : (0 : Int) ≤ (i : Int) := by omega
 have hin' : (i : Int) < (n : Int) := by omega
 have hwn : IntKind.u64.wrap a.n = (((a.n % 18446744073709551616).toNat : Nat) : Int) := by
  have : IntKind.u64.wrap a.n = a.n % 18446744073709551616 := by first | rfl | (simp [IntKind.wrap])
  rw [this]; omega
 obtain ⟨q, hq⟩ : ∃ q : Nat, q = (a.n % 18446744073709551616).toNat := ⟨_, rfl⟩
 rw [← hq] at hwn
 have HQ := qd hq
 clear hwk hq
 go_upto_region 2 with fail
 go_region
 have hB3 := (((HB2.out.ak 0 (.int .u64 (i : Int))).ak 1 (.int .u64 (q : Int))).ak 2 (.int .u64 (x : Int))).drew
 simp only [pt] at hB3
 have hbf := (((HB.out.setCell (p := ⟨w.heap.size + 1, 0, none⟩) (Nat.le_succ _) (.int .u64 (i : Int))).setCell (p := ⟨w.heap.size + 1, 1, none⟩) (Nat.le_succ _) (.int .u64 (q : Int))).setCell (p := ⟨w.heap.size + 1, 2, none⟩) (Nat.le_succ _) (.int .u64 (x : Int))).drew
 refine cZ (F := fun v => aj v (w.heap.size + 1) 37 #[.int .u64 (i : Int), .int .u64 (q : Int), .int .u64 (x : Int)] ∧ Below w.heap.size w v) ⟨hB3, hbf⟩ ?_
 clear hB3 hbf
 rintro w3 ⟨hB3, hbf⟩
 obtain ⟨e0, e1, e2⟩ := hB3.c3
 go_wp2
 refine bodyPost_ret (v := .agg #[.int .u64 (i : Int), .int .u64 (q : Int), .int .u64 (x : Int)]) (by simp [results, Tryz.results18, go_sem, e0, e1, e2]) rfl ⟨?_, hbf⟩
 unfold aM uV
 rw [hl, ← HI.out, ← HX.out, ← HQ.out]
end Go.Proofs.YtfojgfddgplinabGreatDoor

/-! amblerlaw25.Entry, amblerlaw25.Long; plan.Nexts. No statement of the claim. -/
namespace Go.Proofs.YtfojgfddgplinabGreatDoor
set_option maxRecDepth 100000
set_option maxHeartbeats 4000000
open Go Go.RowKit dG
theorem O5 (A B : Option Addr) (n c m d : Nat) (w : World) : Calls Tryz.prog 5 #[.slice A n c, .slice B m d] w fun e w' => e = .returned (.bool (decide (n < 1) || (decide (220 < n) || decide (700 < m)))) ∧ w = w' := by
 by_cases h1 : n < 1
 ·have h1' : (n : Int) < 1 := by omega
  go_in
  go_wp2
  go_ret
  simp [h1]
 ·have h1' : ¬ (n : Int) < 1 := by omega
  by_cases h2 : 220 < n
  ·have h2' : (220 : Int) < (n : Int) := by omega
   go_in
   go_wp2
   go_ret
   simp [h1, h2]
  ·have h2' : ¬ (220 : Int) < (n : Int) := by omega
   by_cases h3 : 700 < m
   ·have h3' : (700 : Int) < (m : Int) := by omega
    go_in
    go_wp2
    go_ret
    simp [h1, h2, h3]
   ·have h3' : ¬ (700 : Int) < (m : Int) := by omega
    go_in
    go_wp2
    go_ret
    simp [h1, h2, h3]
theorem MU (A : Option Addr) (n c : Nat) (l : List Nat) (a : eY) (hn : 1 ≤ n ∧ n ≤ 220) (hl : l.length = n) (w : World) (hR : Reads w w.heap.size 1 A n (sQ l)) :
  Calls Tryz.prog 7 #[.slice A n c, Gh a] w fun e w' => e = .returned (aM (uV l a)) ∧ Below w.heap.size w w' := by
 obtain ⟨W, hW, hB, hA, hR0⟩ := lK w 34 #[.int .i64 a.kind, .int .i64 a.key, .int .i64 a.n] 37 #[.int .u64 0, .int .u64 0, .int .u64 0]
 have yJ : Reads W W.heap.size 1 A n (sQ l) := by
  obtain ⟨q1, q2⟩ := hR
  refine ⟨q1, fun hp => ?_⟩
  obtain ⟨g', off', z1, z2, z3⟩ := q2 hp
  have hzz := hB.size
  exact ⟨g', off', z1, by omega, fun jj u hu => (World.cell?_of_block (hB.block _ z2)).trans (z3 jj u hu)⟩
 have hen := Rb A n c l ⟨0, a.key, a.n⟩ hn hl W yJ
 obtain ⟨e, he⟩ : ∃ e, e = uV l a := ⟨_, rfl⟩
 rw [show uV l ⟨0, a.key, a.n⟩ = uV l a from rfl, ← he] at hen
 rw [← he]
 unfold Gh aM at hen
 unfold Gh aM
 have bC := qd hen
 have HW := qd hW
 have HB := qd hB
 have HR := qd hR0
 obtain ⟨a0, a1, a2⟩ := hA.c3
 clear hen hW hB hR0 hA yJ he hR
 go_in
 go_upto_region 1 with fail
 rw [← HW.out]
 go_wp2_with fail
 refine bC.out.mono ?_
 rintro y w1 ⟨rfl, hb⟩
 have hr1 := HR.out.mod (Mod.of_below hb []) (by simp)
 obtain ⟨r0, r1, r2⟩ := hr1.c3
 obtain ⟨f0, f1, f2⟩ := hr1.f3
 have hz := bE hb HB.out
 have HF := qd (((hz.setCell (p := ⟨w.heap.size + 1, 0, none⟩) (Nat.le_succ _) (.int .u64 (e.key : Int))).setCell (p := ⟨w.heap.size + 1, 1, none⟩) (Nat.le_succ _) (.int .u64 (e.val : Int))).setCell (p := ⟨w.heap.size + 1, 2, none⟩) (Nat.le_succ _) (.int .u64 (e.hash : Int)))
 clear hr1 hz hb bC
 go_wp2
 refine bodyPost_ret (v := .agg #[.int .u64 (e.key : Int), .int .u64 (e.val : Int), .int .u64 (e.hash : Int)]) (by simp [results, Tryz.results7, go_sem, r0, r1, r2]) rfl ⟨rfl, HF.out⟩
theorem Fj (n : Nat) (hn : n ≤ 1099511627776) (w : World) : Calls Tryz.prog 29 #[.int .i64 (n : Int)] w fun e w' => e = .returned (.int .i64 (n : Int)) ∧ w = w' := by
 have h1 : ¬ (n : Int) < 0 := by omega
 have h2 : ¬ (1099511627776 : Int) < (n : Int) := by omega
 go_in
 go_wp2
 go_ret
 exact ⟨rfl, rfl⟩
theorem O7 (n m : Nat) (hn : n ≤ 1000 ∧ m ≤ 1000) (w : World) : Calls Tryz.prog 11 #[.int .i64 (n : Int), .int .i64 (m : Int)] w fun e w' => e = .returned (.int .i64 ((n + m + 1 : Nat) : Int)) ∧ w = w' := by
 have H1 := qd (Fj n (by omega) w)
 have H2 := qd (Fj m (by omega) w)
 have hw : IntKind.i64.wrap ((n : Int) + (m : Int)) = ((n + m : Nat) : Int) := by rw [IntKind.wrap_i64]; omega
 have hw1 : IntKind.i64.wrap (((n + m : Nat) : Int) + 1) = ((n + m + 1 : Nat) : Int) := by rw [IntKind.wrap_i64]; omega
 go_in
 go_wp2_with fail
 refine H1.out.mono ?_
 rintro y w1 ⟨rfl, rfl⟩
 go_wp2_with fail
 refine H2.out.mono ?_
 rintro y w1 ⟨rfl, rfl⟩
 go_wp2
 go_ret
 exact ⟨rfl, rfl⟩
end Go.Proofs.YtfojgfddgplinabGreatDoor
