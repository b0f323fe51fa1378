/- Where a seek ends: the places are of the table. No program in sight. -/
import Derived.Test.YtbphcldoflekpaaGreatDoorTabS
import Derived.Test.YtbphcldoflekpaaGreatDoorCoV
import Derived.Test.YtbphcldoflekpaaGreatDoorSqT
import Derived.Test.YtbphcldoflekpaaGreatDoorLaneP
namespace Go.Proofs.YtbphcldoflekpaaGreatDoor.dA
set_option maxRecDepth 100000
set_option maxHeartbeats 4000000
open Go Go.RowKit dA
theorem PL {G : j6} {s : Nat} (h : kE G = some s) : s < G.length ∧ (G.getD s .empty).isFull = false := by
 obtain ⟨hk, hp, _⟩ := List.findIdx?_eq_some_iff_getElem.1 h
 refine ⟨hk, ?_⟩
 rw [getD_in hk]; simpa using hp
def AX (gs : Tab) (x : Option (Nat × Nat)) : Prop := ∀ i s, x = some (i, s) → i < gs.length ∧ s < (gs.getD i []).length ∧ (aF gs i s).isFull = false
theorem RI {gs : Tab} {fr : Option (Nat × Nat)} (h : AX gs fr) {i : Nat} (hi : i < gs.length) : AX gs (iy fr i (gs.getD i [])) := by
 intro a b hab
 cases fr with
 | some x => exact h a b hab
 | none =>
  unfold iy at hab
  dsimp only at hab
  cases hg : kE (gs.getD i []) with
  | none => rw [hg] at hab; cases hab
  | some s =>
   rw [hg] at hab
   cases hab
   exact ⟨hi, PL hg⟩
theorem Hu (gs : Tab) (key hash : Nat) : ∀ (l : List Nat) (fr : Option (Nat × Nat)), (∀ i ∈ l, i < gs.length) → AX gs fr → AX gs (jE gs key hash l fr).2.1
 | [], _, _, h => h
 | i :: is, fr, hl, h => by
  have h1 := RI h (hl i (by simp))
  have ih := Hu gs key hash is _ (fun x hx => hl x (by simp [hx])) h1
  rw [jE]
  cases gK (gs.getD i []) key hash with
  | some s => exact h1
  | none =>
   cases dF (gs.getD i []) with
   | true => exact h1
   | false => exact ih
theorem walk_lt {h n i : Nat} (hn : 0 < n) (hi : i ∈ walk h n) : i < n := by
 obtain ⟨j, _, rfl⟩ := List.mem_map.1 hi
 exact Nat.mod_lt _ hn
theorem xQ (gs : Tab) (hn : 0 < gs.length) (key hash : Nat) : AX gs (aH gs key hash).2.1 := by
 rw [wR]
 exact Hu gs key hash _ none (fun i hi => walk_lt hn hi) (fun _ _ h => by cases h)
theorem sQ {gs : Tab} {key hash i s : Nat} (h : (aH gs key hash).1 = some (i, s)) : ∃ e, aF gs i s = .full e ∧ e.key = key ∧ i < gs.length ∧ s < (gs.getD i []).length := by
 obtain ⟨e, h1, h2, _⟩ := EB h
 have := jL (gs := gs) (i := i) (s := s) (by rw [h1]; simp)
 exact ⟨e, h1, h2, this⟩
end Go.Proofs.YtbphcldoflekpaaGreatDoor.dA

/-! A table's Find, Put, Delete by their contracts. -/
namespace Go.Proofs.YtbphcldoflekpaaGreatDoor
set_option maxRecDepth 100000
set_option maxHeartbeats 4000000
open Go Go.RowKit dA
theorem cO {p F : World → Prop} {w : World} (h : F w) (h2 : ∀ v, F v → p v) : p w := h2 w h
theorem fQ.below {w w' : World} (h : fQ w) (hb : Below w.heap.size w w') : fQ w' := fun i hi => aJ hb (h i hi)
theorem fQ.mod {S : List Nat} {w w' : World} (h : fQ w) (hm : Mod S w w') (hs : 16 ∉ S) : fQ w' := fun i hi =>
 (hm.cell_ (p := ⟨16, nV i, none⟩) (World.block_lt_of_cell? w _ (h i hi)) hs).trans (h i hi)
def gP (gs : Tab) (key hash : Nat) : Option av := (aH gs key hash).1.map fun x => (aF gs x.1 x.2).ent
def eT (o : Option av) : Value := .tuple #[aM (o.getD ⟨0, 0, 0⟩), .bool o.isSome]
theorem gG (tb gb key hash : Nat) (T : aB) (ap fp : Option Addr) (fs : Int) (hap : gW gb (aH T.gs key hash).1 ap) (w : World) (h : TabAt w tb gb T) :
  Calls Tryz.prog 81 #[bK tb key hash ap (bS (aH T.gs key hash).1) fp fs] w fun x w' => x = .returned (eT (gP T.gs key hash)) ∧ Below w.heap.size w w' := by
 unfold gP eT
 cases hs : (aH T.gs key hash).1 with
 | none => exact EU tb key hash ap fp fs w
 | some x =>
  obtain ⟨i, s⟩ := x
  obtain ⟨e, h1, _, h3, h4⟩ := sQ hs
  obtain rfl := hap i s hs
  have := EW tb key hash gb fp fs T i s h3 (by have := h.wide.at_ h3; omega) e h1 w h
  simpa [bS, h1, Slot.ent] using this
theorem PN (tb gb : Nat) (T : aB) (mb : Nat) (mt : TypeId) (gH eD : List Value) (mo : Nat) (a0 l0 : bC) (m : Int) (c : bC) (key hash : Nat) (w : World) (h : TabAt w tb gb T) (hP : Pw T.gs.length) (h64 : hash < 18446744073709551616) (hM : Met w mb mt gH eD mo a0 l0 m) (hmt : mb ≠ tb) (gD : mb ≠ gb) (hT : fQ w) (hz : 16 ≠ mb) :
  Calls Tryz.prog 100 #[bN tb, aG (some ⟨mb, mo, none⟩) c, nU key, nU hash] w fun x w' => x = .returned (eT (gP T.gs key hash)) ∧ Met w' mb mt gH eD mo (eB a0 c (aH T.gs key hash).2.2) (eB l0 c (aH T.gs key hash).2.2) m ∧ Mod [mb] w w' := by
 obtain ⟨W, hW, hB, hL, hD⟩ := jS w 115 #[.pointer (some ⟨mb, mo, none⟩), .int .i64 c.p, .int .i64 c.v, .int .i64 c.u] 38 #[.int .u64 0, .int .u64 0, .int .u64 0]
 obtain ⟨Hf, Hg, Hl, Ho⟩ := hL.c4
 have hml := hM.lt
 have lq := h.below hB
 have aW := qd (qA tb gb key hash T mb mt gH eD mo a0 l0 m c W lq hP h64 (hM.below hB) hmt gD (hT.below hB) hz)
 have HW := qd hW
 have HB := qd hB
 have bD := qd (fun ap fp fs hap V hV => gG tb gb key hash T ap fp fs hap V hV)
 unfold bN aG bK at aW
 unfold bK eT aM at bD
 unfold bN aG eT aM
 clear hW hB h hM
 obtain ⟨fe, hfe⟩ : ∃ fe, fe = (gP T.gs key hash).getD ⟨0, 0, 0⟩ := ⟨_, rfl⟩
 obtain ⟨fb, nX⟩ : ∃ fb, fb = (gP T.gs key hash).isSome := ⟨_, rfl⟩
 rw [← hfe, ← nX] at bD ⊢
 clear hfe nX
 go_in
 go_upto_region 1 with fail
 rw [← HW.out]
 go_wp2_with fail
 refine (aW.out).mono ?_
 rintro x w1 ⟨ap, fp, rfl, hap, hfp, hM1, hm1⟩
 have jl := qd hM1
 have hD1 := hD.mod hm1 (by simp; omega)
 have nY := qd (bD.out ap fp (bS (aH T.gs key hash).2.1) hap w1 (lq.mod hm1 (by simp; omega) (by simp; omega)))
 clear hM1 hap hfp hD lq
 go_wp2_with fail
 refine (nY.out).mono ?_
 rintro x w2 ⟨rfl, hb2⟩
 have hD2 := hD1.below hb2 hD1.lt
 obtain ⟨d0, d1, d2⟩ := hD2.c3
 obtain ⟨f0, f1, f2⟩ := hD2.f3
 have hM2 := jl.out.below hb2
 have hm2 := ((Mod.of_below HB.out [mb]).then hm1).then (Mod.of_below hb2 [mb])
 have hlw := hD1.lt
 have fE := ((hm2.ak (b := w.heap.size + 1) (.inr (by omega)) 0 (nU fe.key)).ak (b := w.heap.size + 1) (.inr (by omega)) 1 (nU fe.val)).ak (b := w.heap.size + 1) (.inr (by omega)) 2 (nU fe.hash)
 have hne : mb ≠ w.heap.size + 1 := by omega
 have HP := qd (And.intro (show Met _ mb mt gH eD mo _ _ m from ⟨hM2.len, ((hM2.blk.far (p := ⟨w.heap.size + 1, 0, none⟩) hne (nU fe.key)).far (p := ⟨w.heap.size + 1, 1, none⟩) hne (nU fe.val)).far (p := ⟨w.heap.size + 1, 2, none⟩) hne (nU fe.hash)⟩) fE)
 clear hM2 hm2 fE hb2 hm1 hD1 hD2
 go_wp2
 refine bodyPost_ret (v := .tuple #[.agg #[nU fe.key, nU fe.val, nU fe.hash], .bool fb]) ?_ rfl ⟨rfl, HP.out.1, HP.out.2⟩
 simp [results, Tryz.results100, go_sem, d0, d1, d2]
theorem Jp (tb gb : Nat) (T : aB) (mb : Nat) (mt : TypeId) (gH eD : List Value) (mo : Nat) (a0 l0 : bC) (m : Int) (c : bC) (e : av) (w : World) (h : TabAt w tb gb T) (hP : Pw T.gs.length) (h64 : e.hash < 18446744073709551616) (hM : Met w mb mt gH eD mo a0 l0 m) (hmt : mb ≠ tb) (gD : mb ≠ gb) (hT : fQ w) (hz : 16 ≠ mb) (hsk : (aH T.gs e.key e.hash).1 = none) (i s : Nat) (hfr : (aH T.gs e.key e.hash).2.1 = some (i, s)) (hS : Small T) (hroom : T.live + T.bR + 1 ≤ 7 * (T.gs.length : Int)) :
  Calls Tryz.prog 245 #[bN tb, aG (some ⟨mb, mo, none⟩) c, aM e] w fun x w' => x = .returned (.tuple #[.bool true, .nilIface]) ∧ TabAt w' tb gb (jm T i s e) ∧ Met w' mb mt gH eD mo (eB a0 c (aH T.gs e.key e.hash).2.2) (eB l0 c (aH T.gs e.key e.hash).2.2) m ∧ Mod [mb, tb, gb] w w' := by
 obtain ⟨W, hW, hB, hL, hE⟩ := jS w 115 #[.pointer (some ⟨mb, mo, none⟩), .int .i64 c.p, .int .i64 c.v, .int .i64 c.u] 38 #[nU e.key, nU e.val, nU e.hash]
 obtain ⟨Hf, Hg, Hl, Ho⟩ := hL.c4
 obtain ⟨e0, e1, e2⟩ := hE.c3
 have hml := hM.lt
 have htl := h.aQ
 have hgl := h.aR
 have lq := h.below hB
 have h8 := fun i hi => h.wide.at_ (i := i) hi
 have aW := qd (qA tb gb e.key e.hash T mb mt gH eD mo a0 l0 m c W lq hP h64 (hM.below hB) hmt gD (hT.below hB) hz)
 have HW := qd hW
 have HB := qd hB
 have bD := qd (fun ap fp fs hap V hV => gG tb gb e.key e.hash T ap fp fs hap V hV)
 unfold gP at bD
 rw [hsk] at bD aW
 rw [hfr] at aW
 simp only [Option.map_none, bS, eT, Option.getD_none, Option.isSome_none] at bD aW
 unfold bN aG bK at aW
 unfold bK aM at bD
 unfold bN aG aM
 clear hW hB h hM
 go_in
 go_upto_region 1 with fail
 rw [← HW.out]
 go_wp2_with fail
 refine (aW.out).mono ?_
 rintro x w1 ⟨ap, fp, rfl, hap, hfp, hM1, hm1⟩
 obtain rfl := hfp i s rfl
 go_upto_region 2 with fail
 have hS2 := aj.new w1 163 #[pQ tb, nU e.key, nU e.hash, .pointer ap, .int .i64 (-1), .pointer (some ⟨gb, i * 25, none⟩), nI s]
 have hb2 := (Below.refl w1.heap.size w1).alloc (Nat.le_refl _) (.cells #[pQ tb, nU e.key, nU e.hash, .pointer ap, .int .i64 (-1), .pointer (some ⟨gb, i * 25, none⟩), nI s] 163)
 obtain ⟨w2, hw2⟩ : ∃ w2, w2 = w1.alloc (.cells #[pQ tb, nU e.key, nU e.hash, .pointer ap, .int .i64 (-1), .pointer (some ⟨gb, i * 25, none⟩), nI s] 163) := ⟨_, rfl⟩
 rw [← hw2] at hS2 hb2 ⊢
 clear hw2
 have jT := (lq.mod hm1 (by simp; omega) (by simp; omega)).below hb2
 have hM2 := hM1.below hb2
 have hE2 := (hE.mod hm1 (by simp; omega)).below hb2 (hE.mod hm1 (by simp; omega)).lt
 have hm2 := ((Mod.of_below HB.out [mb, tb, gb]).then (hm1.more (by simp))).then (Mod.of_below hb2 [mb, tb, gb])
 obtain ⟨sp0, sp1, sp2, sp3, sp4, sp5, sp6⟩ := hS2.c7
 clear lq hM1 hm1 hE hb2
 go_wp2_with fail
 refine (bD.out ap _ _ (fun _ _ hh => by cases hh) w2 jT).mono ?_
 rintro x w3 ⟨rfl, hb3⟩
 have hb4 := bI ((Below.refl w3.heap.size w3).alloc (Nat.le_refl _) (.cells #[.int .u64 0, .int .u64 0, .int .u64 0] 38)) hb3
 have Ab := hS2.below hb4 hS2.lt
 have hE4 := hE2.below hb4 hE2.lt
 go_upto_region 5 with fail
 obtain ⟨w4, hw4⟩ : ∃ w4, w4 = w3.alloc (.cells #[.int .u64 0, .int .u64 0, .int .u64 0] 38) := ⟨_, rfl⟩
 rw [← hw4] at hb4 Ab hE4
 try rw [← hw4]
 clear hw4 hb3 hS2 hE2
 have AY := xQ T.gs hP.pos e.key e.hash i s hfr
 have oG : s < 8 := by have := h8 i AY.1; omega
 have iX := qd (zw tb gb ap T i s e AY.1 oG h64 AY.2.2 hS hroom w4 (jT.below hb4))
 unfold bK aM at iX
 have CP := qd (hM2.below hb4)
 have HM5 := qd (hm2.then (Mod.of_below hb4 [mb, tb, gb]))
 clear jT hM2 hm2 hb4
 obtain ⟨sq0, sq1, sq2, sq3, sq4, sq5, sq6⟩ := Ab.c7
 obtain ⟨eq0, eq1, eq2⟩ := hE4.c3
 go_wp2_with fail
 refine (iX.out).mono ?_
 rintro x w5 ⟨rfl, nH, gZ⟩
 have HT5 := qd nH
 have HM6 := qd (CP.out.mod gZ (by simp; omega))
 have HM7 := qd (HM5.out.then (gZ.more (by simp)))
 clear nH gZ
 go_wp2
 refine bodyPost_ret (v := .tuple #[.bool true, .nilIface]) (by simp [results, Tryz.results245, go_sem]) rfl ⟨rfl, HT5.out, HM6.out, HM7.out⟩
end Go.Proofs.YtbphcldoflekpaaGreatDoor

/-! A table's Delete by its contract. -/
namespace Go.Proofs.YtbphcldoflekpaaGreatDoor
set_option maxRecDepth 100000
set_option maxHeartbeats 4000000
open Go Go.RowKit dA
theorem AZ (tb gb : Nat) (T : aB) (mb : Nat) (mt : TypeId) (gH eD : List Value) (mo : Nat) (a0 l0 : bC) (m : Int) (c : bC) (key hash : Nat) (w : World) (h : TabAt w tb gb T) (hP : Pw T.gs.length) (h64 : hash < 18446744073709551616) (hM : Met w mb mt gH eD mo a0 l0 m) (hmt : mb ≠ tb) (gD : mb ≠ gb) (hT : fQ w) (hz : 16 ≠ mb) (i s : Nat) (hsk : (aH T.gs key hash).1 = some (i, s)) (e0 : av) (he0 : aF T.gs i s = .full e0) (hS : Small T) :
  Calls Tryz.prog 98 #[bN tb, aG (some ⟨mb, mo, none⟩) c, nU key, nU hash] w fun x w' => x = .returned (eT (some e0)) ∧ TabAt w' tb gb (iD T i s) ∧ Met w' mb mt gH eD mo (eB a0 c (aH T.gs key hash).2.2) (eB l0 c (aH T.gs key hash).2.2) m ∧ Mod [mb, tb, gb] w w' := by
 obtain ⟨W, hW, hB, hL, hR⟩ := jS w 115 #[.pointer (some ⟨mb, mo, none⟩), .int .i64 c.p, .int .i64 c.v, .int .i64 c.u] 38 #[.int .u64 0, .int .u64 0, .int .u64 0]
 have lc := hL.c4
 have hml := hM.lt
 have htl := h.aQ
 have hgl := h.aR
 obtain ⟨e1, he1, hk0, hil, hsl⟩ := sQ hsk
 have oG : s < 8 := by have := h.wide.at_ hil; omega
 have HW := qd hW
 have bD := qd (fun ap fp fs hap V hV => gG tb gb key hash T ap fp fs hap V hV)
 have aW := qd (qA tb gb key hash T mb mt gH eD mo a0 l0 m c W (h.below hB) hP h64 (hM.below hB) hmt gD (hT.below hB) hz)
 unfold gP at bD
 obtain ⟨fs, hfs⟩ : ∃ fs, fs = bS (aH T.gs key hash).2.1 := ⟨_, rfl⟩
 rw [hsk] at bD aW
 rw [← hfs] at aW
 clear hfs
 simp only [Option.map_some, Option.map_none, he0, Slot.ent, bS, eT, Option.getD_some, Option.getD_none, Option.isSome_some, Option.isSome_none] at bD aW
 unfold bK at aW
 unfold bK aM at bD
 unfold bN aG eT aM
 simp only [Option.getD_some, Option.getD_none, Option.isSome_some, Option.isSome_none]
 have HT := qd (h.below hB)
 have HR := qd (hR)
 have ah := qd (Mod.of_below hB [mb, tb, gb])
 clear hW hB h hM hL hR hT he1
 go_in
 go_upto_region 1 with fail
 rw [← HW.out]
 go_wp2_with fail
 refine (aW.out).mono ?_
 rintro x w1 ⟨ap, fp, rfl, hap, hfp, hM1, hm⟩
 clear lc
 replace HT := qM hm HT
 replace HR := qM hm HR
 replace ah := qU ah hm
 clear hm
 obtain rfl := hap i s rfl
 clear hap hfp
 have HM := qd (hM1)
 clear hM1
 go_upto_region 2 with fail
 have q1 := qJ HT.out.aQ (qJ HT.out.aR (qJ HR.out.lt (qJ HM.out.lt ah.out.size)))
 refine bW 163 #[pQ tb, nU key, nU hash, .pointer (some ⟨gb, i * 25, none⟩), nI s, .pointer fp, .int .i64 fs] ?_
 rintro w2 ⟨hnew, hb⟩
 replace HT := qB hb HT
 replace HR := qB hb HR
 replace HM := qB hb HM
 replace ah := qT ah hb
 have HS := qd (hnew)
 clear hnew hb
 have sp := HS.out.c7
 go_wp2_with fail
 refine (bD.out (some ⟨gb, i * 25, none⟩) fp fs (fun i2 s2 hh => by cases hh; rfl) w2 HT.out).mono ?_
 rintro x w3 ⟨rfl, hb⟩
 clear sp
 replace HT := qB hb HT
 replace HR := qB hb HR
 replace HM := qB hb HM
 replace HS := qB hb HS
 replace ah := qT ah hb
 clear hb
 go_upto_region 3 with fail
 have q6 := qJ HT.out.aQ (qJ HT.out.aR (qJ HR.out.lt (qJ HM.out.lt (qJ HS.out.lt ah.out.size))))
 refine bW 38 #[nU e0.key, nU e0.val, nU e0.hash] ?_
 rintro w4 ⟨hnew, hb⟩
 replace HT := qB hb HT
 replace HR := qB hb HR
 replace HM := qB hb HM
 replace HS := qB hb HS
 replace ah := qT ah hb
 have HD := qd (hnew)
 clear hnew hb
 have sp := HS.out.c7
 have dc := HD.out.c3
 have Od := qd (CZ tb key hash gb fp fs T i s hil oG e0 he0 hS w4.drew (HT.out.below (Below.refl _ _).drew))
 refine rT (fun (w' : World) => w'.cell? ⟨w3.heap.size, 0, none⟩ = some (nU e0.key) ∧ w'.cell? ⟨w3.heap.size, 1, none⟩ = some (nU e0.val) ∧ w'.cell? ⟨w3.heap.size, 2, none⟩ = some (nU e0.hash) ∧ w'.cell? ⟨w1.heap.size, 0, none⟩ = some (pQ tb) ∧ w'.cell? ⟨w1.heap.size, 1, none⟩ = some (nU key) ∧ w'.cell? ⟨w1.heap.size, 2, none⟩ = some (nU hash) ∧ w'.cell? ⟨w1.heap.size, 3, none⟩ = some (.pointer (some ⟨gb, i * 25, none⟩)) ∧ w'.cell? ⟨w1.heap.size, 4, none⟩ = some (nI s) ∧ w'.cell? ⟨w1.heap.size, 5, none⟩ = some (.pointer fp) ∧ w'.cell? ⟨w1.heap.size, 6, none⟩ = some (.int .i64 fs)) [7] ?_
 have hHeld := (⟨dc.1, dc.2.1, dc.2.2, sp.1, sp.2.1, sp.2.2.1, sp.2.2.2.1, sp.2.2.2.2.1, sp.2.2.2.2.2.1, sp.2.2.2.2.2.2⟩ : _ ∧ _ ∧ _ ∧ _ ∧ _ ∧ _ ∧ _ ∧ _ ∧ _ ∧ _)
 refine vT 0 rfl ?_
 refine vW 1 rfl ?_
 refine vW 2 rfl ?_
 refine vT 3 rfl ?_
 refine nT 4 rfl fun K hK => ?_
 go_simp
 refine (Od.out).mono ?_
 rintro x w5 ⟨rfl, nH, hm⟩
 replace hm : Mod [tb, gb] w4 w5 := (Mod.drewN [tb, gb] w4 1).then hm
 clear HT sp dc
 replace HR := qM hm HR
 replace HM := qM hm HM
 replace HS := qM hm HS
 replace HD := qM hm HD
 replace ah := qU ah hm
 have HT := qd (nH)
 clear nH hm
 have sp := HS.out.c7
 have dc := HD.out.c3
 have rc := HR.out.c3
 have rf := HR.out.f3
 go_simp
 have hHeld := (⟨dc.1, dc.2.1, dc.2.2, sp.1, sp.2.1, sp.2.2.1, sp.2.2.2.1, sp.2.2.2.2.1, sp.2.2.2.2.2.1, sp.2.2.2.2.2.2⟩ : _ ∧ _ ∧ _ ∧ _ ∧ _ ∧ _ ∧ _ ∧ _ ∧ _ ∧ _)
 refine kO hK ?_
 clear hK K
 refine vW 5 rfl ?_
 refine vW 6 rfl ?_
 refine nT 7 rfl fun K hK => ?_
 go_simp
 refine kO hK ?_
 clear hK K
 refine vL 8 rfl ?_
 refine aT (by kernel_rfl) ?_ _
 clear HS HD
 have q12 := qJ HR.out.lt (qJ HM.out.lt (qJ HT.out.aQ HT.out.aR))
 have hnew := (((HR.out.ak 0 (nU e0.key)).ak 1 (nU e0.val)).ak 2 (nU e0.hash))
 have hm := ((((Mod.refl [(w.heap.size + 1)] w5).sl 0 (nU e0.key)).sl 1 (nU e0.val)).sl 2 (nU e0.hash))
 simp only [pt] at hnew
 refine cO (F := fun v => aj v (w.heap.size + 1) 38 #[nU e0.key, nU e0.val, nU e0.hash] ∧ Mod [(w.heap.size + 1)] w5 v) ⟨hnew, hm⟩ ?_
 clear hnew hm
 rintro w6 ⟨hnew, hm⟩
 replace HM := qM hm HM
 replace HT := qM hm HT
 replace ah := qU ah hm
 replace HR := qd hnew
 clear hnew hm
 have rc := HR.out.c3
 go_wp2
 refine bodyPost_ret (v := .tuple #[.agg #[nU e0.key, nU e0.val, nU e0.hash], .bool true]) (by simp [results, Tryz.results98, go_sem, rc.1, rc.2.1, rc.2.2]) rfl ⟨rfl, HT.out, HM.out, ah.out⟩
theorem Cw (tb gb : Nat) (T : aB) (mb : Nat) (mt : TypeId) (gH eD : List Value) (mo : Nat) (a0 l0 : bC) (m : Int) (c : bC) (key hash : Nat) (w : World) (h : TabAt w tb gb T) (hP : Pw T.gs.length) (h64 : hash < 18446744073709551616) (hM : Met w mb mt gH eD mo a0 l0 m) (hmt : mb ≠ tb) (gD : mb ≠ gb) (hT : fQ w) (hz : 16 ≠ mb) (hsk : (aH T.gs key hash).1 = none) :
  Calls Tryz.prog 98 #[bN tb, aG (some ⟨mb, mo, none⟩) c, nU key, nU hash] w fun x w' => x = .returned (eT none) ∧ TabAt w' tb gb T ∧ Met w' mb mt gH eD mo (eB a0 c (aH T.gs key hash).2.2) (eB l0 c (aH T.gs key hash).2.2) m ∧ Mod [mb] w w' := by
 obtain ⟨W, hW, hB, hL, hR⟩ := jS w 115 #[.pointer (some ⟨mb, mo, none⟩), .int .i64 c.p, .int .i64 c.v, .int .i64 c.u] 38 #[.int .u64 0, .int .u64 0, .int .u64 0]
 have lc := hL.c4
 have hml := hM.lt
 have htl := h.aQ
 have hgl := h.aR
 have HW := qd hW
 have bD := qd (fun ap fp fs hap V hV => gG tb gb key hash T ap fp fs hap V hV)
 have aW := qd (qA tb gb key hash T mb mt gH eD mo a0 l0 m c W (h.below hB) hP h64 (hM.below hB) hmt gD (hT.below hB) hz)
 unfold gP at bD
 obtain ⟨fs, hfs⟩ : ∃ fs, fs = bS (aH T.gs key hash).2.1 := ⟨_, rfl⟩
 rw [hsk] at bD aW
 rw [← hfs] at aW
 clear hfs
 simp only [Option.map_some, Option.map_none, Slot.ent, bS, eT, Option.getD_some, Option.getD_none, Option.isSome_some, Option.isSome_none] at bD aW
 unfold bK at aW
 unfold bK aM at bD
 unfold bN aG eT aM
 simp only [Option.getD_some, Option.getD_none, Option.isSome_some, Option.isSome_none]
 have HT := qd (h.below hB)
 have HR := qd (hR)
 have ah := qd (Mod.of_below hB [mb])
 clear hW hB h hM hL hR hT
 go_in
 go_upto_region 1 with fail
 rw [← HW.out]
 go_wp2_with fail
 refine (aW.out).mono ?_
 rintro x w1 ⟨ap, fp, rfl, hap, hfp, hM1, hm⟩
 clear lc
 replace HT := qM hm HT
 replace HR := qM hm HR
 replace ah := qU ah hm
 clear hm hap hfp
 have HM := qd (hM1)
 clear hM1
 go_upto_region 2 with fail
 have q1 := qJ HT.out.aQ (qJ HT.out.aR (qJ HR.out.lt (qJ HM.out.lt ah.out.size)))
 refine bW 163 #[pQ tb, nU key, nU hash, .pointer ap, .int .i64 (-1), .pointer fp, .int .i64 fs] ?_
 rintro w2 ⟨hnew, hb⟩
 replace HT := qB hb HT
 replace HR := qB hb HR
 replace HM := qB hb HM
 replace ah := qT ah hb
 have HS := qd (hnew)
 clear hnew hb
 have sp := HS.out.c7
 go_wp2_with fail
 refine (bD.out ap fp fs (fun i2 s2 hh => by cases hh) w2 HT.out).mono ?_
 rintro x w3 ⟨rfl, hb⟩
 clear sp
 replace HT := qB hb HT
 replace HR := qB hb HR
 replace HM := qB hb HM
 replace HS := qB hb HS
 replace ah := qT ah hb
 clear hb
 go_upto_region 3 with fail
 have q6 := qJ HT.out.aQ (qJ HT.out.aR (qJ HR.out.lt (qJ HM.out.lt (qJ HS.out.lt ah.out.size))))
 refine bW 38 #[.int .u64 0, .int .u64 0, .int .u64 0] ?_
 rintro w4 ⟨hnew, hb⟩
 replace HT := qB hb HT
 replace HR := qB hb HR
 replace HM := qB hb HM
 replace HS := qB hb HS
 replace ah := qT ah hb
 have HD := qd (hnew)
 clear hnew hb
 have sp := HS.out.c7
 have dc := HD.out.c3
 have rc := HR.out.c3
 have rf := HR.out.f3
 refine rT (fun (w' : World) => w'.cell? ⟨w3.heap.size, 0, none⟩ = some (.int .u64 0) ∧ w'.cell? ⟨w3.heap.size, 1, none⟩ = some (.int .u64 0) ∧ w'.cell? ⟨w3.heap.size, 2, none⟩ = some (.int .u64 0)) [7] ?_
 have hHeld := (⟨dc.1, dc.2.1, dc.2.2⟩ : _ ∧ _ ∧ _)
 refine vT 0 rfl ?_
 refine vW 1 rfl ?_
 refine vW 2 rfl ?_
 refine vU 3 rfl ?_
 refine vU 4 rfl ?_
 refine vU 5 rfl ?_
 refine vW 6 rfl ?_
 refine nT 7 rfl fun K hK => ?_
 go_simp
 refine kO hK ?_
 clear hK K
 refine vL 8 rfl ?_
 refine aT (by kernel_rfl) ?_ _
 clear HS HD
 have q12 := qJ HT.out.aQ (qJ HT.out.aR (qJ HR.out.lt HM.out.lt))
 have hnew := (((HR.out.ak 0 (.int .u64 0)).ak 1 (.int .u64 0)).ak 2 (.int .u64 0)).drew
 have hm := (((((Mod.refl [(w.heap.size + 1)] w4).sl 0 (.int .u64 0)).sl 1 (.int .u64 0)).sl 2 (.int .u64 0)).then (Mod.drewN [(w.heap.size + 1)] _ 1))
 simp only [pt] at hnew
 refine cO (F := fun v => aj v (w.heap.size + 1) 38 #[.int .u64 0, .int .u64 0, .int .u64 0] ∧ Mod [(w.heap.size + 1)] w4 v) ⟨hnew, hm⟩ ?_
 clear hnew hm
 rintro w6 ⟨hnew, hm⟩
 replace HT := qM hm HT
 replace HM := qM hm HM
 replace ah := qU ah hm
 replace HR := qd hnew
 clear hnew hm
 have rc := HR.out.c3
 go_wp2
 refine bodyPost_ret (v := .tuple #[.agg #[.int .u64 0, .int .u64 0, .int .u64 0], .bool false]) (by simp [results, Tryz.results98, go_sem, rc.1, rc.2.1, rc.2.2]) rfl ⟨rfl, HT.out, HM.out, ah.out⟩
end Go.Proofs.YtbphcldoflekpaaGreatDoor

/-! A table's look and Prepare by their contracts. -/
namespace Go.Proofs.YtbphcldoflekpaaGreatDoor
set_option maxRecDepth 100000
set_option maxHeartbeats 4000000
open Go Go.RowKit dA
theorem EY (tb gb : Nat) (T : aB) (mb : Nat) (mt : TypeId) (gH eD : List Value) (mo : Nat) (a0 l0 : bC) (m : Int) (c : bC) (i : Nat) (hi : i < T.gs.length) (w : World) (h : TabAt w tb gb T) (hM : Met w mb mt gH eD mo a0 l0 m) (hmt : mb ≠ tb) (gD : mb ≠ gb) :
  Calls Tryz.prog 251 #[bN tb, aG (some ⟨mb, mo, none⟩) c, nI i] w fun x w' => x = .returned (.tuple #[bF ⟨gb, i * 25, none⟩, .bool true]) ∧ Met w' mb mt gH eD mo (iV a0 c) (iV l0 c) m ∧ Mod [mb] w w' := by
 obtain ⟨W, hW, hB, hL, hR⟩ := jS w 115 #[.pointer (some ⟨mb, mo, none⟩), .int .i64 c.p, .int .i64 c.v, .int .i64 c.u] 159 #[.pointer none]
 have lc := hL.c4
 have Hw := hR.cell 0
 simp only [List.getElem?_toArray, List.getElem?_cons_zero] at Hw
 have hml := hM.lt
 have htl := h.aQ
 have hgl := h.aR
 have HW := qd hW
 have hi' : (i : Int) < (T.gs.length : Int) := by omega
 have hi0 : ¬ ((i : Int) < 0) := by omega
 have hi2 : (0 : Int) ≤ (i : Int) := by omega
 have nZ := qd (uJ ⟨gb, i * 25, none⟩ mb mt gH eD mo a0 l0 m c W.drew (hM.below (hB.trans ((Below.refl _ _).drew.mono hB.size))))
 obtain ⟨rz, Xf, Xg⟩ := (h.below hB).cells
 unfold aG at nZ
 unfold bN aG bF
 have HT := qd (h.below hB)
 have HR := qd (hR)
 have ah := qd (Mod.of_below hB [mb])
 clear hW hB h hM hL hR
 go_in
 go_upto_region 1 with fail
 rw [← HW.out]
 go_upto_region 3 with fail
 refine rT (fun (w' : World) => w'.cell? ⟨tb, 0, none⟩ = some (.slice (some ⟨gb, 0, none⟩) T.gs.length T.gs.length) ∧ w'.cell? ⟨w.heap.size, 0, none⟩ = some (.pointer (some ⟨mb, mo, none⟩)) ∧ w'.cell? ⟨w.heap.size, 1, none⟩ = some (.int .i64 c.p) ∧ w'.cell? ⟨w.heap.size, 2, none⟩ = some (.int .i64 c.v) ∧ w'.cell? ⟨w.heap.size, 3, none⟩ = some (.int .i64 c.u)) [7, 8] ?_
 have hHeld := (⟨rz, lc.1, lc.2.1, lc.2.2.1, lc.2.2.2⟩ : _ ∧ _ ∧ _ ∧ _ ∧ _)
 refine vW 0 rfl ?_
 refine vW 1 rfl ?_
 refine vW 2 rfl ?_
 refine vT 3 rfl ?_
 refine vW 4 rfl ?_
 refine vW 5 rfl ?_
 refine vT 6 rfl ?_
 refine nT 7 rfl fun K hK => ?_
 go_simp
 refine (nZ.out).mono ?_
 rintro x w1 ⟨rfl, hM1, hm⟩
 replace hm : Mod [mb] W w1 := (Mod.drewN [mb] W 1).then hm
 clear lc Hw
 replace HT := qM hm HT
 replace HR := qM hm HR
 replace ah := qU ah hm
 have HM := qd (hM1)
 clear hM1 hm
 unfold bF
 have Hw := HR.out.cell 0
 simp only [List.getElem?_toArray, List.getElem?_cons_zero] at Hw
 have Zj := HR.out.frozen 0
 have n0 := HT.out.cells.1
 go_simp
 refine kO hK ?_
 clear hK K
 refine nT 8 rfl fun K hK => ?_
 go_simp
 refine kO hK ?_
 clear hK K
 refine vL 9 rfl ?_
 refine aT (by kernel_rfl) ?_ _
 have q1 := qJ HT.out.aQ (qJ HT.out.aR (qJ HR.out.lt HM.out.lt))
 have hnew := (HR.out.ak 0 (.pointer (some ⟨gb, i * 25, none⟩)))
 have hm := ((Mod.refl [(w.heap.size + 1)] w1).sl 0 (.pointer (some ⟨gb, i * 25, none⟩)))
 simp only [pt] at hnew
 refine cO (F := fun v => aj v (w.heap.size + 1) 159 #[.pointer (some ⟨gb, i * 25, none⟩)] ∧ Mod [(w.heap.size + 1)] w1 v) ⟨hnew, hm⟩ ?_
 clear hnew hm
 rintro w2 ⟨hnew, hm⟩
 clear Hw Zj
 replace HT := qM hm HT
 replace HM := qM hm HM
 replace ah := qU ah hm
 replace HR := qd hnew
 clear hnew hm
 have Hw := HR.out.cell 0
 simp only [List.getElem?_toArray, List.getElem?_cons_zero] at Hw
 go_wp2
 refine bodyPost_ret (v := .tuple #[.agg #[.pointer (some ⟨gb, i * 25, none⟩)], .bool true]) (by simp [results, Tryz.results251, go_sem, Hw]) rfl ⟨rfl, HM.out, ah.out⟩
theorem Jq (tb gb : Nat) (T : aB) (mb : Nat) (mt : TypeId) (gH eD : List Value) (mo : Nat) (a0 l0 : bC) (m : Int) (c : bC) (i : Nat) (hi : i < T.gs.length) (w : World) (h : TabAt w tb gb T) (hM : Met w mb mt gH eD mo a0 l0 m) (hmt : mb ≠ tb) (gD : mb ≠ gb) :
  Calls Tryz.prog 246 #[bN tb, aG (some ⟨mb, mo, none⟩) c, nI i] w fun x w' => x = .returned .nilIface ∧ TabAt w' tb gb { T with gs := T.gs.set i (List.replicate 8 .empty) } ∧ Met w' mb mt gH eD mo (iV a0 c) (iV l0 c) m ∧ Mod [mb, tb, gb] w w' := by
 have hB := (Below.refl w.heap.size w).alloc (Nat.le_refl _) (.cells #[.pointer (some ⟨mb, mo, none⟩), .int .i64 c.p, .int .i64 c.v, .int .i64 c.u] 115)
 have hL := aj.new w 115 #[.pointer (some ⟨mb, mo, none⟩), .int .i64 c.p, .int .i64 c.v, .int .i64 c.u]
 obtain ⟨W, hW⟩ : ∃ W, W = w.alloc (.cells #[.pointer (some ⟨mb, mo, none⟩), .int .i64 c.p, .int .i64 c.v, .int .i64 c.u] 115) := ⟨_, rfl⟩
 rw [← hW] at hB hL
 obtain ⟨Hf, Hg, Hl, Ho⟩ := hL.c4
 have hml := hM.lt
 have htl := h.aQ
 have hgl := h.aR
 have HW := qd hW
 have nZ := qd (EY tb gb T mb mt gH eD mo a0 l0 m c i hi W (h.below hB) (hM.below hB) hmt gD)
 unfold bN aG bF at nZ
 unfold bN aG
 have HT := qd (h.below hB)
 have ah := qd (Mod.of_below hB [mb, tb, gb])
 clear hW hB h hM hL
 go_in
 go_upto_region 1 with fail
 rw [← HW.out]
 go_wp2_with fail
 refine (nZ.out).mono ?_
 rintro x w1 ⟨rfl, hM1, hm⟩
 clear Hf Hg Hl Ho
 replace HT := qM hm HT
 replace ah := qU ah hm
 clear hm
 have HM := qd (hM1)
 clear hM1
 go_upto_region 4 with fail
 have q1 := qJ HT.out.aQ (qJ HT.out.aR (qJ HM.out.lt ah.out.size))
 refine bW 159 #[.pointer (some ⟨gb, i * 25, none⟩)] ?_
 rintro w2 ⟨hnew, hb⟩
 replace HT := qB hb HT
 replace HM := qB hb HM
 replace ah := qT ah hb
 have HV := qd (hnew)
 clear hnew hb
 have yI := HV.out.cell 0
 simp only [List.getElem?_toArray, List.getElem?_cons_zero] at yI
 have wT := qd (G7 gb 198 _ _ (i * 25) _ w2 (HT.out.group i hi))
 unfold bF at wT
 go_wp2_with fail
 refine (wT.out).mono ?_
 rintro x w3 ⟨rfl, hG3, hm⟩
 have zZ := HT.out.nG i hi hm hG3
 clear HT hG3 HV yI
 replace HM := qM hm HM
 replace ah := qU ah hm
 have HT := qd (zZ)
 clear hm zZ
 go_wp2
 go_ret
 exact ⟨rfl, HT.out, HM.out, ah.out⟩
end Go.Proofs.YtbphcldoflekpaaGreatDoor

/-! amblerlaw21.Entry, amblerlaw21.Long. -/
namespace Go.Proofs.YtbphcldoflekpaaGreatDoor
set_option maxRecDepth 100000
set_option maxHeartbeats 4000000
open Go Go.RowKit dA
structure dV where
 kind : Int
 key : Int
 n : Int
def dV.cells (a : dV) : List Value := [.int .i64 a.kind, .int .i64 a.key, .int .i64 a.n]
def DT (a : dV) : Value := .agg #[.int .i64 a.kind, .int .i64 a.key, .int .i64 a.n]
def C8 (key : Int) (n : Nat) : Nat := (key % 18446744073709551616).toNat % n
def qC (l : List Nat) (a : dV) : av := ⟨C8 a.key l.length, (a.n % 18446744073709551616).toNat, l.getD (C8 a.key l.length) 0⟩
def sw (l : List Nat) : List Value := l.map fun x : Nat => nU x
theorem RJ (A : Option Addr) (n c : Nat) (l : List Nat) (a : dV) (hn : 1 ≤ n ∧ n ≤ 220) (hl : l.length = n) (w : World) (hR : Reads w w.heap.size 1 A n (sw l)) :
  Calls Tryz.prog 21 #[.slice A n c, DT a] w fun e w' => e = .returned (aM (qC l a)) ∧ Below w.heap.size w w' := by
 obtain ⟨g, off, rfl, hgl, hcell⟩ := hR.2 (by omega)
 obtain ⟨i, hi⟩ : ∃ i, i = C8 a.key n := ⟨_, rfl⟩
 have hin : i < n := by rw [hi]; exact Nat.mod_lt _ (by omega)
 obtain ⟨x, hx⟩ : ∃ x, x = l.getD i 0 := ⟨_, rfl⟩
 have hc : w.cell? ⟨g, off + i, none⟩ = some (nU x) := hcell i _ (by
  unfold sw
  rw [List.getElem?_map, List.getElem?_eq_getElem (by omega), hx, List.getD_eq_getElem?_getD, List.getElem?_eq_getElem (by omega)]; rfl)
 unfold DT
 have hB1 := (aj.new w 74 #[.int .i64 a.kind, .int .i64 a.key, .int .i64 a.n]).alloc (.cells #[.int .u64 0, .int .u64 0, .int .u64 0] 38)
 have hB2 := aj.new (w.alloc (.cells #[.int .i64 a.kind, .int .i64 a.key, .int .i64 a.n] 74)) 38 #[.int .u64 0, .int .u64 0, .int .u64 0]
 have hb := ((Below.refl w.heap.size w).alloc (Nat.le_refl _) (.cells #[.int .i64 a.kind, .int .i64 a.key, .int .i64 a.n] 74)).alloc (by simp) (.cells #[.int .u64 0, .int .u64 0, .int .u64 0] 38)
 simp only [World.size_alloc] at hB2
 go_in
 go_upto_region 1 with fail
 refine cO (F := fun v => aj v w.heap.size 74 #[.int .i64 a.kind, .int .i64 a.key, .int .i64 a.n] ∧ aj v (w.heap.size + 1) 38 #[.int .u64 0, .int .u64 0, .int .u64 0] ∧ Below w.heap.size w v) ⟨hB1, hB2, hb⟩ ?_
 clear hB1 hB2 hb
 rintro w1 ⟨hB1, hB2, hb⟩
 have a0 := hB1.cell 0
 have a1 := hB1.cell 1
 have a2 := hB1.cell 2
 have b0 := hB2.cell 0
 have b1 := hB2.cell 1
 have b2 := hB2.cell 2
 simp only [gl] at a0 a1 a2 b0 b1 b2
 obtain ⟨f0, f1, f2⟩ := hB2.f3
 have hc1 : w1.cell? ⟨g, off + i, none⟩ = some (nU x) := (World.cell?_of_block (hb.block g hgl)).trans hc
 have HB2 := qd hB2
 have HB := qd hb
 have HI := qd hi
 have HX := qd hx
 have hn1 : (n : Int) ≤ 220 := by omega
 have hn0 : (1 : Int) ≤ (n : Int) := by omega
 have hnz : ¬ (n : Int) = 0 := by omega
 clear hB1 hB2 hb hi hx hR hc hcell
 have hwk : IntKind.u64.wrap a.key = a.key % 18446744073709551616 := by first | rfl | (simp [IntKind.wrap])
 have hq1 : (IntKind.u64.wrap a.key).tmod (n : Int) = (i : Int) := by
  rw [hwk, HI.out, Int.tmod_eq_emod_of_nonneg (by omega)]
  unfold C8
  rw [Int.natCast_emod, Int.toNat_of_nonneg (by omega)]
 have hq2 : wrap64 (i : Int) = (i : Int) := by unfold wrap64; omega
 have hi0 : (0 : Int) ≤ (i : Int) := by omega
 have hin' : (i : Int) < (n : Int) := by omega
 have hwn : IntKind.u64.wrap a.n = (((a.n % 18446744073709551616).toNat : Nat) : Int) := by
  have : IntKind.u64.wrap a.n = a.n % 18446744073709551616 := by first | rfl | (simp [IntKind.wrap])
  rw [this]; omega
 obtain ⟨q, hq⟩ : ∃ q : Nat, q = (a.n % 18446744073709551616).toNat := ⟨_, rfl⟩
 rw [← hq] at hwn
 have HQ := qd hq
 clear hwk hq
 go_upto_region 2 with fail
 go_region
 have hB3 := (((HB2.out.ak 0 (nU i)).ak 1 (nU q)).ak 2 (nU x)).drew
 simp only [pt] at hB3
 have hbf := (((HB.out.setCell (p := ⟨w.heap.size + 1, 0, none⟩) (Nat.le_succ _) (nU i)).setCell (p := ⟨w.heap.size + 1, 1, none⟩) (Nat.le_succ _) (nU q)).setCell (p := ⟨w.heap.size + 1, 2, none⟩) (Nat.le_succ _) (nU x)).drew
 refine cO (F := fun v => aj v (w.heap.size + 1) 38 #[nU i, nU q, nU x] ∧ Below w.heap.size w v) ⟨hB3, hbf⟩ ?_
 clear hB3 hbf
 rintro w3 ⟨hB3, hbf⟩
 obtain ⟨e0, e1, e2⟩ := hB3.c3
 go_wp2
 refine bodyPost_ret (v := .agg #[nU i, nU q, nU x]) (by simp [results, Tryz.results21, go_sem, e0, e1, e2]) rfl ⟨?_, hbf⟩
 unfold aM qC
 rw [hl, ← HI.out, ← HX.out, ← HQ.out]
end Go.Proofs.YtbphcldoflekpaaGreatDoor

/-! amblerlaw25.Entry, amblerlaw25.Long; plan.Nexts. No statement of the claim. -/
namespace Go.Proofs.YtbphcldoflekpaaGreatDoor
set_option maxRecDepth 100000
set_option maxHeartbeats 4000000
open Go Go.RowKit dA
theorem EZ (A B : Option Addr) (n c m d : Nat) (w : World) : Calls Tryz.prog 5 #[.slice A n c, .slice B m d] w fun e w' => e = .returned (.bool (decide (n < 1) || (decide (220 < n) || decide (700 < m)))) ∧ w = w' := by
 by_cases h1 : n < 1
 ·have h1' : (n : Int) < 1 := by omega
  go_in
  go_wp2
  go_ret
  simp [h1]
 ·have h1' : ¬ (n : Int) < 1 := by omega
  by_cases h2 : 220 < n
  ·have h2' : (220 : Int) < (n : Int) := by omega
   go_in
   go_wp2
   go_ret
   simp [h1, h2]
  ·have h2' : ¬ (220 : Int) < (n : Int) := by omega
   by_cases h3 : 700 < m
   ·have h3' : (700 : Int) < (m : Int) := by omega
    go_in
    go_wp2
    go_ret
    simp [h1, h2, h3]
   ·have h3' : ¬ (700 : Int) < (m : Int) := by omega
    go_in
    go_wp2
    go_ret
    simp [h1, h2, h3]
theorem C9 (A : Option Addr) (n c : Nat) (l : List Nat) (a : dV) (hn : 1 ≤ n ∧ n ≤ 220) (hl : l.length = n) (w : World) (hR : Reads w w.heap.size 1 A n (sw l)) :
  Calls Tryz.prog 7 #[.slice A n c, DT a] w fun e w' => e = .returned (aM (qC l a)) ∧ Below w.heap.size w w' := by
 obtain ⟨W, hW, hB, hA, hR0⟩ := jS w 35 #[.int .i64 a.kind, .int .i64 a.key, .int .i64 a.n] 38 #[.int .u64 0, .int .u64 0, .int .u64 0]
 have yE : Reads W W.heap.size 1 A n (sw l) := by
  obtain ⟨q1, q2⟩ := hR
  refine ⟨q1, fun hp => ?_⟩
  obtain ⟨g', off', z1, z2, z3⟩ := q2 hp
  have hzz := hB.size
  exact ⟨g', off', z1, by omega, fun jj u hu => (World.cell?_of_block (hB.block _ z2)).trans (z3 jj u hu)⟩
 have hen := RJ A n c l ⟨0, a.key, a.n⟩ hn hl W yE
 obtain ⟨e, he⟩ : ∃ e, e = qC l a := ⟨_, rfl⟩
 rw [show qC l ⟨0, a.key, a.n⟩ = qC l a from rfl, ← he] at hen
 rw [← he]
 unfold DT aM at hen
 unfold DT aM
 have bD := qd hen
 have HW := qd hW
 have HB := qd hB
 have HR := qd hR0
 obtain ⟨a0, a1, a2⟩ := hA.c3
 clear hen hW hB hR0 hA yE he hR
 go_in
 go_upto_region 1 with fail
 rw [← HW.out]
 go_wp2_with fail
 refine bD.out.mono ?_
 rintro y w1 ⟨rfl, hb⟩
 have hr1 := HR.out.mod (Mod.of_below hb []) (by simp)
 obtain ⟨r0, r1, r2⟩ := hr1.c3
 obtain ⟨f0, f1, f2⟩ := hr1.f3
 have hz := bI hb HB.out
 have HF := qd (((hz.setCell (p := ⟨w.heap.size + 1, 0, none⟩) (Nat.le_succ _) (nU e.key)).setCell (p := ⟨w.heap.size + 1, 1, none⟩) (Nat.le_succ _) (nU e.val)).setCell (p := ⟨w.heap.size + 1, 2, none⟩) (Nat.le_succ _) (nU e.hash))
 clear hr1 hz hb bD
 go_wp2
 refine bodyPost_ret (v := .agg #[nU e.key, nU e.val, nU e.hash]) (by simp [results, Tryz.results7, go_sem, r0, r1, r2]) rfl ⟨rfl, HF.out⟩
theorem E5 (n : Nat) (hn : n ≤ 1099511627776) (w : World) : Calls Tryz.prog 42 #[nI n] w fun e w' => e = .returned (nI n) ∧ w = w' := by
 have h1 : ¬ (n : Int) < 0 := by omega
 have h2 : ¬ (1099511627776 : Int) < (n : Int) := by omega
 go_in
 go_wp2
 go_ret
 exact ⟨rfl, rfl⟩
theorem PO (n m : Nat) (hn : n ≤ 1000 ∧ m ≤ 1000) (w : World) : Calls Tryz.prog 14 #[nI n, nI m] w fun e w' => e = .returned (.int .i64 ((n + m + 1 : Nat) : Int)) ∧ w = w' := by
 have H1 := qd (E5 n (by omega) w)
 have H2 := qd (E5 m (by omega) w)
 have hw : IntKind.i64.wrap ((n : Int) + (m : Int)) = ((n + m : Nat) : Int) := by rw [IntKind.wrap_i64]; omega
 have hw1 : IntKind.i64.wrap (((n + m : Nat) : Int) + 1) = ((n + m + 1 : Nat) : Int) := by rw [IntKind.wrap_i64]; omega
 go_in
 go_wp2_with fail
 refine H1.out.mono ?_
 rintro y w1 ⟨rfl, rfl⟩
 go_wp2_with fail
 refine H2.out.mono ?_
 rintro y w1 ⟨rfl, rfl⟩
 go_wp2
 go_ret
 exact ⟨rfl, rfl⟩
end Go.Proofs.YtbphcldoflekpaaGreatDoor
