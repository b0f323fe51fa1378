/- Where a seek ends: the places are of the table. No program in sight. -/
import Derived.Test.YtcgjgfgkdoohlaaGreatDoorTabS
import Derived.Test.YtcgjgfgkdoohlaaGreatDoorCoV
import Derived.Test.YtcgjgfgkdoohlaaGreatDoorCoN
import Derived.Test.YtcgjgfgkdoohlaaGreatDoorLaneP
namespace Go.Proofs.YtcgjgfgkdoohlaaGreatDoor.AmC
open Go
theorem freeG_some {G : Grp} {s : Nat} (h : freeG G = some s) : s < G.length ∧ (G.getD s .empty).isFull = false := by
 obtain ⟨hk, hp, _⟩ := List.findIdx?_eq_some_iff_getElem.1 h
 refine ⟨hk, ?_⟩
 rw [getD_in hk]; simpa using hp
def FreePl (gs : Tab) (x : Option (Nat × Nat)) : Prop := ∀ i s, x = some (i, s) → i < gs.length ∧ s < (gs.getD i []).length ∧ (slotAt gs i s).isFull = false
theorem next_free {gs : Tab} {fr : Option (Nat × Nat)} (h : FreePl gs fr) {i : Nat} (hi : i < gs.length) : FreePl gs (nextFree fr i (gs.getD i [])) := by
 intro a b hab
 cases fr with
 | some x => exact h a b hab
 | none =>
  unfold nextFree at hab
  dsimp only at hab
  cases hg : freeG (gs.getD i []) with
  | none => rw [hg] at hab; cases hab
  | some s =>
   rw [hg] at hab
   cases hab
   exact ⟨hi, freeG_some hg⟩
theorem over_free (gs : Tab) (key hash : Nat) : ∀ (l : List Nat) (fr : Option (Nat × Nat)), (∀ i ∈ l, i < gs.length) → FreePl gs fr → FreePl gs (seekOver gs key hash l fr).2.1
 | [], _, _, h => h
 | i :: is, fr, hl, h => by
  have h1 := next_free h (hl i (by simp))
  have ih := over_free gs key hash is _ (fun x hx => hl x (by simp [hx])) h1
  rw [seekOver]
  cases findG (gs.getD i []) key hash with
  | some s => exact h1
  | none =>
   cases openG (gs.getD i []) with
   | true => exact h1
   | false => exact ih
theorem walk_lt {h n i : Nat} (hn : 0 < n) (hi : i ∈ walk h n) : i < n := by
 obtain ⟨j, _, rfl⟩ := List.mem_map.1 hi
 exact Nat.mod_lt _ hn
theorem seek_freePl (gs : Tab) (hn : 0 < gs.length) (key hash : Nat) : FreePl gs (seek gs key hash).2.1 := by
 rw [seek_over]
 exact over_free gs key hash _ none (fun i hi => walk_lt hn hi) (fun _ _ h => by cases h)
theorem seek_full {gs : Tab} {key hash i s : Nat} (h : (seek gs key hash).1 = some (i, s)) : ∃ e, slotAt gs i s = .full e ∧ e.key = key ∧ i < gs.length ∧ s < (gs.getD i []).length := by
 obtain ⟨e, h1, h2, _⟩ := seek_sound h
 have := slotAt_lt (gs := gs) (i := i) (s := s) (by rw [h1]; simp)
 exact ⟨e, h1, h2, this⟩
end Go.Proofs.YtcgjgfgkdoohlaaGreatDoor.AmC

/-! A table's Find, Put, Delete by their contracts. -/
namespace Go.Proofs.YtcgjgfgkdoohlaaGreatDoor
set_option maxRecDepth 100000
set_option maxHeartbeats 2000000
open Go.RowKit AmC
theorem nameW {p F : World → Prop} {w : World} (h : F w) (h2 : ∀ v, F v → p v) : p w := h2 w h
theorem TzIn.below {w w' : World} (h : TzIn w) (hb : Below w.heap.size w w') : TzIn w' := fun i hi => cell_in hb (h i hi)
theorem TzIn.mod {S : List Nat} {w w' : World} (h : TzIn w) (hm : Mod S w w') (hs : 16 ∉ S) : TzIn w' := fun i hi =>
 (hm.cell_ (p := ⟨16, tzIdx i, none⟩) (World.block_lt_of_cell? w _ (h i hi)) hs).trans (h i hi)
def foundE (gs : Tab) (key hash : Nat) : Option Ent := (seek gs key hash).1.map fun x => (slotAt gs x.1 x.2).ent
def optE (o : Option Ent) : Value := .tuple #[entV (o.getD ⟨0, 0, 0⟩), .bool o.isSome]
theorem spot_Entry (tb gb key hash : Nat) (T : TabM) (ap fp : Option Addr) (fs : Int) (hap : PtrOf gb (seek T.gs key hash).1 ap) (w : World) (h : TabAt w tb gb T) :
  Calls Tryz.prog 72 #[spotV tb key hash ap (slotI (seek T.gs key hash).1) fp fs] w fun x w' => x = .returned (optE (foundE T.gs key hash)) ∧ Below w.heap.size w w' := by
 unfold foundE optE
 cases hs : (seek T.gs key hash).1 with
 | none => exact spot_Entry_none tb key hash ap fp fs w
 | some x =>
  obtain ⟨i, s⟩ := x
  obtain ⟨e, h1, _, h3, h4⟩ := seek_full hs
  obtain rfl := hap i s hs
  have := spot_Entry_some tb key hash gb fp fs T i s h3 (by have := h.wide.at_ h3; omega) e h1 w h
  simpa [slotI, h1, Slot.ent] using this
theorem table_Find (tb gb : Nat) (T : TabM) (mb : Nat) (mt : TypeId) (mpre mpost : List Value) (mo : Nat) (a0 l0 : Cnt) (m : Int) (c : Cnt) (key hash : Nat) (w : World) (h : TabAt w tb gb T) (hP : Pw T.gs.length) (h64 : hash < 18446744073709551616) (hM : Met w mb mt mpre mpost mo a0 l0 m) (hmt : mb ≠ tb) (hmg : mb ≠ gb) (hT : TzIn w) (hz : 16 ≠ mb) :
  Calls Tryz.prog 87 #[tabP tb, lensV (some ⟨mb, mo, none⟩) c, .int .u64 (key : Int), .int .u64 (hash : Int)] w fun x w' => x = .returned (optE (foundE T.gs key hash)) ∧ Met w' mb mt mpre mpost mo (plusN a0 c (seek T.gs key hash).2.2) (plusN l0 c (seek T.gs key hash).2.2) m ∧ Mod [mb] w w' := by
 have hB := ((Below.refl w.heap.size w).alloc (Nat.le_refl _) (.cells #[.pointer (some ⟨mb, mo, none⟩), .int .i64 c.p, .int .i64 c.v, .int .i64 c.u] 89)).alloc (by simp) (.cells #[.int .u64 0, .int .u64 0, .int .u64 0] 37)
 have hL := (Blk.new w 89 #[.pointer (some ⟨mb, mo, none⟩), .int .i64 c.p, .int .i64 c.v, .int .i64 c.u]).alloc (.cells #[.int .u64 0, .int .u64 0, .int .u64 0] 37)
 have hD := Blk.new (w.alloc (.cells #[.pointer (some ⟨mb, mo, none⟩), .int .i64 c.p, .int .i64 c.v, .int .i64 c.u] 89)) 37 #[.int .u64 0, .int .u64 0, .int .u64 0]
 simp only [World.size_alloc] at hD
 obtain ⟨W, hW⟩ : ∃ W, W = (w.alloc (.cells #[.pointer (some ⟨mb, mo, none⟩), .int .i64 c.p, .int .i64 c.v, .int .i64 c.u] 89)).alloc (.cells #[.int .u64 0, .int .u64 0, .int .u64 0] 37) := ⟨_, rfl⟩
 rw [← hW] at hB hL hD
 obtain ⟨lc0, lc1, lc2, lc3⟩ := hL.c4
 have hml := hM.lt
 have hTW := h.below hB
 have HSk := qd (table_Seek tb gb key hash T mb mt mpre mpost mo a0 l0 m c W hTW hP h64 (hM.below hB) hmt hmg (hT.below hB) hz)
 have HW := qd hW
 have HB := qd hB
 have HEn := qd (fun ap fp fs hap V hV => spot_Entry tb gb key hash T ap fp fs hap V hV)
 unfold tabP lensV spotV at HSk
 unfold spotV optE entV at HEn
 unfold tabP lensV optE entV
 clear hW hB h hM
 obtain ⟨fe, hfe⟩ : ∃ fe, fe = (foundE T.gs key hash).getD ⟨0, 0, 0⟩ := ⟨_, rfl⟩
 obtain ⟨fb, hfb⟩ : ∃ fb, fb = (foundE T.gs key hash).isSome := ⟨_, rfl⟩
 rw [← hfe, ← hfb] at HEn ⊢
 clear hfe hfb
 go_enter Tryz.func87, Tryz.ntmps87
 go_upto_region 1 with fail
 rw [← HW.out]
 go_wp2_with fail
 refine (HSk.out).mono ?_
 rintro x w1 ⟨ap, fp, rfl, hap, hfp, hM1, hm1⟩
 have HM1 := qd hM1
 have hD1 := hD.mod hm1 (by simp; omega)
 have HE1 := qd (HEn.out ap fp (slotI (seek T.gs key hash).2.1) hap w1 (hTW.mod hm1 (by simp; omega) (by simp; omega)))
 clear hM1 hap hfp hD hTW
 go_wp2_with fail
 refine (HE1.out).mono ?_
 rintro x w2 ⟨rfl, hb2⟩
 have hD2 := hD1.below hb2 hD1.lt
 obtain ⟨d0, d1, d2⟩ := hD2.c3
 obtain ⟨f0, f1, f2⟩ := hD2.f3
 have hM2 := HM1.out.below hb2
 have hm2 := ((Mod.of_below HB.out [mb]).then hm1).then (Mod.of_below hb2 [mb])
 have hlw := hD1.lt
 have hm3 := ((hm2.set_ (b := w.heap.size + 1) (.inr (by omega)) 0 (.int .u64 (fe.key : Int))).set_ (b := w.heap.size + 1) (.inr (by omega)) 1 (.int .u64 (fe.val : Int))).set_ (b := w.heap.size + 1) (.inr (by omega)) 2 (.int .u64 (fe.hash : Int))
 have hne : mb ≠ w.heap.size + 1 := by omega
 have HP := qd (And.intro (show Met _ mb mt mpre mpost mo _ _ m from ⟨hM2.len, ((hM2.blk.far (p := ⟨w.heap.size + 1, 0, none⟩) hne (.int .u64 (fe.key : Int))).far (p := ⟨w.heap.size + 1, 1, none⟩) hne (.int .u64 (fe.val : Int))).far (p := ⟨w.heap.size + 1, 2, none⟩) hne (.int .u64 (fe.hash : Int))⟩) hm3)
 clear hM2 hm2 hm3 hb2 hm1 hD1 hD2
 go_wp2
 refine bodyPost_ret (v := .tuple #[.agg #[.int .u64 (fe.key : Int), .int .u64 (fe.val : Int), .int .u64 (fe.hash : Int)], .bool fb]) ?_ rfl ⟨rfl, HP.out.1, HP.out.2⟩
 simp [results, Tryz.results87, go_sem, d0, d1, d2]
theorem table_Put_new (tb gb : Nat) (T : TabM) (mb : Nat) (mt : TypeId) (mpre mpost : List Value) (mo : Nat) (a0 l0 : Cnt) (m : Int) (c : Cnt) (e : Ent) (w : World) (h : TabAt w tb gb T) (hP : Pw T.gs.length) (h64 : e.hash < 18446744073709551616) (hM : Met w mb mt mpre mpost mo a0 l0 m) (hmt : mb ≠ tb) (hmg : mb ≠ gb) (hT : TzIn w) (hz : 16 ≠ mb) (hsk : (seek T.gs e.key e.hash).1 = none) (i s : Nat) (hfr : (seek T.gs e.key e.hash).2.1 = some (i, s)) (hS : Small T) (hroom : T.live + T.tombs + 1 ≤ 7 * (T.gs.length : Int)) :
  Calls Tryz.prog 218 #[tabP tb, lensV (some ⟨mb, mo, none⟩) c, entV e] w fun x w' => x = .returned (.tuple #[.bool true, .nilIface]) ∧ TabAt w' tb gb (placeM T i s e) ∧ Met w' mb mt mpre mpost mo (plusN a0 c (seek T.gs e.key e.hash).2.2) (plusN l0 c (seek T.gs e.key e.hash).2.2) m ∧ Mod [mb, tb, gb] w w' := by
 have hB := ((Below.refl w.heap.size w).alloc (Nat.le_refl _) (.cells #[.pointer (some ⟨mb, mo, none⟩), .int .i64 c.p, .int .i64 c.v, .int .i64 c.u] 89)).alloc (by simp) (.cells #[.int .u64 (e.key : Int), .int .u64 (e.val : Int), .int .u64 (e.hash : Int)] 37)
 have hL := (Blk.new w 89 #[.pointer (some ⟨mb, mo, none⟩), .int .i64 c.p, .int .i64 c.v, .int .i64 c.u]).alloc (.cells #[.int .u64 (e.key : Int), .int .u64 (e.val : Int), .int .u64 (e.hash : Int)] 37)
 have hE := Blk.new (w.alloc (.cells #[.pointer (some ⟨mb, mo, none⟩), .int .i64 c.p, .int .i64 c.v, .int .i64 c.u] 89)) 37 #[.int .u64 (e.key : Int), .int .u64 (e.val : Int), .int .u64 (e.hash : Int)]
 simp only [World.size_alloc] at hE
 obtain ⟨W, hW⟩ : ∃ W, W = (w.alloc (.cells #[.pointer (some ⟨mb, mo, none⟩), .int .i64 c.p, .int .i64 c.v, .int .i64 c.u] 89)).alloc (.cells #[.int .u64 (e.key : Int), .int .u64 (e.val : Int), .int .u64 (e.hash : Int)] 37) := ⟨_, rfl⟩
 rw [← hW] at hB hL hE
 obtain ⟨lc0, lc1, lc2, lc3⟩ := hL.c4
 obtain ⟨e0, e1, e2⟩ := hE.c3
 have hml := hM.lt
 have htl := h.ltT
 have hgl := h.ltG
 have hTW := h.below hB
 have h8 := fun i hi => h.wide.at_ (i := i) hi
 have HSk := qd (table_Seek tb gb e.key e.hash T mb mt mpre mpost mo a0 l0 m c W hTW hP h64 (hM.below hB) hmt hmg (hT.below hB) hz)
 have HW := qd hW
 have HB := qd hB
 have HEn := qd (fun ap fp fs hap V hV => spot_Entry tb gb e.key e.hash T ap fp fs hap V hV)
 unfold foundE at HEn
 rw [hsk] at HEn HSk
 rw [hfr] at HSk
 simp only [Option.map_none, slotI, optE, Option.getD_none, Option.isSome_none] at HEn HSk
 unfold tabP lensV spotV at HSk
 unfold spotV entV at HEn
 unfold tabP lensV entV
 clear hW hB h hM
 go_enter Tryz.func218, Tryz.ntmps218
 go_upto_region 1 with fail
 rw [← HW.out]
 go_wp2_with fail
 refine (HSk.out).mono ?_
 rintro x w1 ⟨ap, fp, rfl, hap, hfp, hM1, hm1⟩
 obtain rfl := hfp i s rfl
 go_upto_region 2 with fail
 have hS2 := Blk.new w1 142 #[.pointer (some ⟨tb, 0, none⟩), .int .u64 (e.key : Int), .int .u64 (e.hash : Int), .pointer ap, .int .i64 (-1), .pointer (some ⟨gb, i * 25, none⟩), .int .i64 (s : Int)]
 have hb2 := (Below.refl w1.heap.size w1).alloc (Nat.le_refl _) (.cells #[.pointer (some ⟨tb, 0, none⟩), .int .u64 (e.key : Int), .int .u64 (e.hash : Int), .pointer ap, .int .i64 (-1), .pointer (some ⟨gb, i * 25, none⟩), .int .i64 (s : Int)] 142)
 obtain ⟨w2, hw2⟩ : ∃ w2, w2 = w1.alloc (.cells #[.pointer (some ⟨tb, 0, none⟩), .int .u64 (e.key : Int), .int .u64 (e.hash : Int), .pointer ap, .int .i64 (-1), .pointer (some ⟨gb, i * 25, none⟩), .int .i64 (s : Int)] 142) := ⟨_, rfl⟩
 rw [← hw2] at hS2 hb2 ⊢
 clear hw2
 have hT2 := (hTW.mod hm1 (by simp; omega) (by simp; omega)).below hb2
 have hM2 := hM1.below hb2
 have hE2 := (hE.mod hm1 (by simp; omega)).below hb2 (hE.mod hm1 (by simp; omega)).lt
 have hm2 := ((Mod.of_below HB.out [mb, tb, gb]).then (hm1.more (by simp))).then (Mod.of_below hb2 [mb, tb, gb])
 obtain ⟨sp0, sp1, sp2, sp3, sp4, sp5, sp6⟩ := hS2.c7
 clear hTW hM1 hm1 hE hb2
 go_wp2_with fail
 refine (HEn.out ap _ _ (fun _ _ hh => by cases hh) w2 hT2).mono ?_
 rintro x w3 ⟨rfl, hb3⟩
 have hb4 := below_nx ((Below.refl w3.heap.size w3).alloc (Nat.le_refl _) (.cells #[.int .u64 0, .int .u64 0, .int .u64 0] 37)) hb3
 have hS4 := hS2.below hb4 hS2.lt
 have hE4 := hE2.below hb4 hE2.lt
 go_upto_region 5 with fail
 obtain ⟨w4, hw4⟩ : ∃ w4, w4 = w3.alloc (.cells #[.int .u64 0, .int .u64 0, .int .u64 0] 37) := ⟨_, rfl⟩
 rw [← hw4] at hb4 hS4 hE4
 try rw [← hw4]
 clear hw4 hb3 hS2 hE2
 have hFp := seek_freePl T.gs hP.pos e.key e.hash i s hfr
 have hs8 : s < 8 := by have := h8 i hFp.1; omega
 have HPl := qd (spot_Place tb gb ap T i s e hFp.1 hs8 h64 hFp.2.2 hS hroom w4 (hT2.below hb4))
 unfold spotV entV at HPl
 have HM4 := qd (hM2.below hb4)
 have HM5 := qd (hm2.then (Mod.of_below hb4 [mb, tb, gb]))
 clear hT2 hM2 hm2 hb4
 obtain ⟨sq0, sq1, sq2, sq3, sq4, sq5, sq6⟩ := hS4.c7
 obtain ⟨eq0, eq1, eq2⟩ := hE4.c3
 go_wp2_with fail
 refine (HPl.out).mono ?_
 rintro x w5 ⟨rfl, hT5, hm5⟩
 have HT5 := qd hT5
 have HM6 := qd (HM4.out.mod hm5 (by simp; omega))
 have HM7 := qd (HM5.out.then (hm5.more (by simp)))
 clear hT5 hm5
 go_wp2
 refine bodyPost_ret (v := .tuple #[.bool true, .nilIface]) (by simp [results, Tryz.results218, go_sem]) rfl ⟨rfl, HT5.out, HM6.out, HM7.out⟩
end Go.Proofs.YtcgjgfgkdoohlaaGreatDoor

/-! A table's Delete by its contract. -/
namespace Go.Proofs.YtcgjgfgkdoohlaaGreatDoor
set_option maxRecDepth 100000
set_option maxHeartbeats 2000000
open Go.RowKit AmC
theorem table_Delete_found (tb gb : Nat) (T : TabM) (mb : Nat) (mt : TypeId) (mpre mpost : List Value) (mo : Nat) (a0 l0 : Cnt) (m : Int) (c : Cnt) (key hash : Nat) (w : World) (h : TabAt w tb gb T) (hP : Pw T.gs.length) (h64 : hash < 18446744073709551616) (hM : Met w mb mt mpre mpost mo a0 l0 m) (hmt : mb ≠ tb) (hmg : mb ≠ gb) (hT : TzIn w) (hz : 16 ≠ mb) (i s : Nat) (hsk : (seek T.gs key hash).1 = some (i, s)) (e0 : Ent) (he0 : slotAt T.gs i s = .full e0) (hS : Small T) :
  Calls Tryz.prog 60 #[tabP tb, lensV (some ⟨mb, mo, none⟩) c, .int .u64 (key : Int), .int .u64 (hash : Int)] w fun x w' => x = .returned (optE (some e0)) ∧ TabAt w' tb gb (eraseM T i s) ∧ Met w' mb mt mpre mpost mo (plusN a0 c (seek T.gs key hash).2.2) (plusN l0 c (seek T.gs key hash).2.2) m ∧ Mod [mb, tb, gb] w w' := by
 have hB := ((Below.refl w.heap.size w).alloc (Nat.le_refl _) (.cells #[.pointer (some ⟨mb, mo, none⟩), .int .i64 c.p, .int .i64 c.v, .int .i64 c.u] 89)).alloc (by simp) (.cells #[.int .u64 0, .int .u64 0, .int .u64 0] 37)
 have hL := (Blk.new w 89 #[.pointer (some ⟨mb, mo, none⟩), .int .i64 c.p, .int .i64 c.v, .int .i64 c.u]).alloc (.cells #[.int .u64 0, .int .u64 0, .int .u64 0] 37)
 have hR := Blk.new (w.alloc (.cells #[.pointer (some ⟨mb, mo, none⟩), .int .i64 c.p, .int .i64 c.v, .int .i64 c.u] 89)) 37 #[.int .u64 0, .int .u64 0, .int .u64 0]
 simp only [World.size_alloc] at hR
 obtain ⟨W, hW⟩ : ∃ W, W = (w.alloc (.cells #[.pointer (some ⟨mb, mo, none⟩), .int .i64 c.p, .int .i64 c.v, .int .i64 c.u] 89)).alloc (.cells #[.int .u64 0, .int .u64 0, .int .u64 0] 37) := ⟨_, rfl⟩
 rw [← hW] at hB hL hR
 obtain ⟨lc0, lc1, lc2, lc3⟩ := hL.c4
 have hml := hM.lt
 have htl := h.ltT
 have hgl := h.ltG
 obtain ⟨e1, he1, hk0, hil, hsl⟩ := seek_full hsk
 have hs8 : s < 8 := by have := h.wide.at_ hil; omega
 have HW := qd hW
 have HEn := qd (fun ap fp fs hap V hV => spot_Entry tb gb key hash T ap fp fs hap V hV)
 have HSk := qd (table_Seek tb gb key hash T mb mt mpre mpost mo a0 l0 m c W (h.below hB) hP h64 (hM.below hB) hmt hmg (hT.below hB) hz)
 unfold foundE at HEn
 obtain ⟨fs, hfs⟩ : ∃ fs, fs = slotI (seek T.gs key hash).2.1 := ⟨_, rfl⟩
 rw [hsk] at HEn HSk
 rw [← hfs] at HSk
 clear hfs
 simp only [Option.map_some, Option.map_none, he0, Slot.ent, slotI, optE, Option.getD_some, Option.getD_none, Option.isSome_some, Option.isSome_none] at HEn HSk
 unfold spotV at HSk
 unfold spotV entV at HEn
 unfold tabP lensV optE entV
 simp only [Option.getD_some, Option.getD_none, Option.isSome_some, Option.isSome_none]
 have HT := qd (h.below hB)
 have HR := qd (hR)
 have Hmod := qd (Mod.of_below hB [mb, tb, gb])
 clear hW hB h hM hL hR hT he1
 go_enter Tryz.func60, Tryz.ntmps60
 go_upto_region 1 with fail
 rw [← HW.out]
 go_wp2_with fail
 refine (HSk.out).mono ?_
 rintro x w1 ⟨ap, fp, rfl, hap, hfp, hM1, hm⟩
 clear lc0 lc1 lc2 lc3
 replace HT := qd (HT.out.mod hm (by simp <;> omega) (by simp <;> omega))
 replace HR := qd (HR.out.mod hm (by simp <;> omega))
 replace Hmod := qd (Hmod.out.tr hm)
 clear hm
 obtain rfl := hap i s rfl
 clear hap hfp
 have HM := qd (hM1)
 clear hM1
 go_upto_region 2 with fail
 have q1 := HT.out.ltT
 have q2 := HT.out.ltG
 have q3 := HR.out.lt
 have q4 := HM.out.lt
 have z5 := Hmod.out.size
 refine nameB 142 #[.pointer (some ⟨tb, 0, none⟩), .int .u64 (key : Int), .int .u64 (hash : Int), .pointer (some ⟨gb, i * 25, none⟩), .int .i64 (s : Int), .pointer fp, .int .i64 fs] ?_
 rintro w2 ⟨hnew, hb⟩
 replace HT := qd (HT.out.mod (Mod.of_below hb []) (by simp) (by simp))
 replace HR := qd (HR.out.mod (Mod.of_below hb []) (by simp))
 replace HM := qd (HM.out.mod (Mod.of_below hb []) (by simp))
 replace Hmod := qd (Hmod.out.then (Mod.of_below hb _))
 have HS := qd (hnew)
 clear hnew hb
 obtain ⟨sp0, sp1, sp2, sp3, sp4, sp5, sp6⟩ := HS.out.c7
 go_wp2_with fail
 refine (HEn.out (some ⟨gb, i * 25, none⟩) fp fs (fun i2 s2 hh => by cases hh; rfl) w2 HT.out).mono ?_
 rintro x w3 ⟨rfl, hb⟩
 clear sp0 sp1 sp2 sp3 sp4 sp5 sp6
 replace HT := qd (HT.out.mod (Mod.of_below hb []) (by simp) (by simp))
 replace HR := qd (HR.out.mod (Mod.of_below hb []) (by simp))
 replace HM := qd (HM.out.mod (Mod.of_below hb []) (by simp))
 replace HS := qd (HS.out.mod (Mod.of_below hb []) (by simp))
 replace Hmod := qd (Hmod.out.then (Mod.of_below hb _))
 clear hb
 go_upto_region 3 with fail
 have q6 := HT.out.ltT
 have q7 := HT.out.ltG
 have q8 := HR.out.lt
 have q9 := HM.out.lt
 have q10 := HS.out.lt
 have z11 := Hmod.out.size
 refine nameB 37 #[.int .u64 (e0.key : Int), .int .u64 (e0.val : Int), .int .u64 (e0.hash : Int)] ?_
 rintro w4 ⟨hnew, hb⟩
 replace HT := qd (HT.out.mod (Mod.of_below hb []) (by simp) (by simp))
 replace HR := qd (HR.out.mod (Mod.of_below hb []) (by simp))
 replace HM := qd (HM.out.mod (Mod.of_below hb []) (by simp))
 replace HS := qd (HS.out.mod (Mod.of_below hb []) (by simp))
 replace Hmod := qd (Hmod.out.then (Mod.of_below hb _))
 have HD := qd (hnew)
 clear hnew hb
 obtain ⟨sp0, sp1, sp2, sp3, sp4, sp5, sp6⟩ := HS.out.c7
 obtain ⟨dc0, dc1, dc2⟩ := HD.out.c3
 have HRm := qd (spot_Remove tb key hash gb fp fs T i s hil hs8 e0 he0 hS w4.drew (HT.out.below (Below.refl _ _).drew))
 refine region_T (fun (w' : World) => w'.cell? ⟨w3.heap.size, 0, none⟩ = some (.int .u64 (e0.key : Int)) ∧ w'.cell? ⟨w3.heap.size, 1, none⟩ = some (.int .u64 (e0.val : Int)) ∧ w'.cell? ⟨w3.heap.size, 2, none⟩ = some (.int .u64 (e0.hash : Int)) ∧ w'.cell? ⟨w1.heap.size, 0, none⟩ = some (.pointer (some ⟨tb, 0, none⟩)) ∧ w'.cell? ⟨w1.heap.size, 1, none⟩ = some (.int .u64 (key : Int)) ∧ w'.cell? ⟨w1.heap.size, 2, none⟩ = some (.int .u64 (hash : Int)) ∧ w'.cell? ⟨w1.heap.size, 3, none⟩ = some (.pointer (some ⟨gb, i * 25, none⟩)) ∧ w'.cell? ⟨w1.heap.size, 4, none⟩ = some (.int .i64 (s : Int)) ∧ w'.cell? ⟨w1.heap.size, 5, none⟩ = some (.pointer fp) ∧ w'.cell? ⟨w1.heap.size, 6, none⟩ = some (.int .i64 fs)) [7] (by kernel_rfl) ?_
 try (change wpAnyT _ _ _ _ _ _ _ _ _ (World.drew _))
 have hHeld := (⟨dc0, dc1, dc2, sp0, sp1, sp2, sp3, sp4, sp5, sp6⟩ : _ ∧ _ ∧ _ ∧ _ ∧ _ ∧ _ ∧ _ ∧ _ ∧ _ ∧ _)
 refine tT 0 (some 23) (.agg #[.int .u64 (e0.key : Int), .int .u64 (e0.val : Int), .int .u64 (e0.hash : Int)]) rfl (by rintro w ⟨hh0, hh1, hh2, hh3, hh4, hh5, hh6, hh7, hh8, hh9⟩; go_simp) hHeld ?_
 try simp only [pt]
 refine tW 1 (some 24) (.bool true) rfl hHeld ?_
 try simp only [pt]
 refine tW 2 (some 25) (.bool true) rfl hHeld ?_
 try simp only [pt]
 refine tT 3 (some 26) (.agg #[.pointer (some ⟨tb, 0, none⟩), .int .u64 (key : Int), .int .u64 (hash : Int), .pointer (some ⟨gb, i * 25, none⟩), .int .i64 (s : Int), .pointer fp, .int .i64 fs]) rfl (by rintro w ⟨hh0, hh1, hh2, hh3, hh4, hh5, hh6, hh7, hh8, hh9⟩; go_simp) hHeld ?_
 try simp only [pt]
 refine nT 4 (some 27) rfl fun K hK => ?_
 go_simp
 refine (HRm.out).mono ?_
 rintro x w5 ⟨rfl, hT5, hm⟩
 replace hm : Mod [tb, gb] w4 w5 := (Mod.drewN [tb, gb] w4 1).then hm
 clear HT
 clear sp0 sp1 sp2 sp3 sp4 sp5 sp6 dc0 dc1 dc2
 replace HR := qd (HR.out.mod hm (by simp <;> omega))
 replace HM := qd (HM.out.mod hm (by simp <;> omega))
 replace HS := qd (HS.out.mod hm (by simp <;> omega))
 replace HD := qd (HD.out.mod hm (by simp <;> omega))
 replace Hmod := qd (Hmod.out.tr hm)
 have HT := qd (hT5)
 clear hT5 hm
 obtain ⟨sp0, sp1, sp2, sp3, sp4, sp5, sp6⟩ := HS.out.c7
 obtain ⟨dc0, dc1, dc2⟩ := HD.out.c3
 obtain ⟨rc0, rc1, rc2⟩ := HR.out.c3
 obtain ⟨rf0, rf1, rf2⟩ := HR.out.f3
 go_simp
 have hHeld := (⟨dc0, dc1, dc2, sp0, sp1, sp2, sp3, sp4, sp5, sp6⟩ : _ ∧ _ ∧ _ ∧ _ ∧ _ ∧ _ ∧ _ ∧ _ ∧ _ ∧ _)
 refine hK.out _ _ (fun _ => hHeld) ?_
 clear hK K
 try simp only [pt]
 refine tW 5 (some 28) (.bool true) rfl hHeld ?_
 try simp only [pt]
 refine tW 6 (some 29) (.bool true) rfl hHeld ?_
 try simp only [pt]
 refine nT 7 none rfl fun K hK => ?_
 go_simp
 refine hK.out _ _ (fun h => absurd (by decide) h) ?_
 clear hK K
 try simp only [pt]
 refine tL 8 (some 9) (.bool true) rfl ?_
 try simp only [pt]
 refine doneT (by kernel_rfl) ?_ _
 clear HS
 clear HD
 have q12 := HR.out.lt
 have q13 := HM.out.lt
 have q14 := HT.out.ltT
 have q15 := HT.out.ltG
 have hnew := (((HR.out.set_ 0 (.int .u64 (e0.key : Int))).set_ 1 (.int .u64 (e0.val : Int))).set_ 2 (.int .u64 (e0.hash : Int)))
 have hm := ((((Mod.refl [(w.heap.size + 1)] w5).sl 0 (.int .u64 (e0.key : Int))).sl 1 (.int .u64 (e0.val : Int))).sl 2 (.int .u64 (e0.hash : Int)))
 simp only [List.setIfInBounds_toArray, List.set_cons_zero, List.set_cons_succ] at hnew
 refine nameW (F := fun v => Blk v (w.heap.size + 1) 37 #[.int .u64 (e0.key : Int), .int .u64 (e0.val : Int), .int .u64 (e0.hash : Int)] ∧ Mod [(w.heap.size + 1)] w5 v) ⟨hnew, hm⟩ ?_
 clear hnew hm
 rintro w6 ⟨hnew, hm⟩
 replace HM := qd (HM.out.mod hm (by simp <;> omega))
 replace HT := qd (HT.out.mod hm (by simp <;> omega) (by simp <;> omega))
 replace Hmod := qd (Hmod.out.tr hm)
 replace HR := qd hnew
 clear hnew hm
 obtain ⟨rc0, rc1, rc2⟩ := HR.out.c3
 go_wp2
 refine bodyPost_ret (v := .tuple #[.agg #[.int .u64 (e0.key : Int), .int .u64 (e0.val : Int), .int .u64 (e0.hash : Int)], .bool true]) (by simp [results, Tryz.results60, go_sem, rc0, rc1, rc2]) rfl ⟨rfl, HT.out, HM.out, Hmod.out⟩
theorem table_Delete_none (tb gb : Nat) (T : TabM) (mb : Nat) (mt : TypeId) (mpre mpost : List Value) (mo : Nat) (a0 l0 : Cnt) (m : Int) (c : Cnt) (key hash : Nat) (w : World) (h : TabAt w tb gb T) (hP : Pw T.gs.length) (h64 : hash < 18446744073709551616) (hM : Met w mb mt mpre mpost mo a0 l0 m) (hmt : mb ≠ tb) (hmg : mb ≠ gb) (hT : TzIn w) (hz : 16 ≠ mb) (hsk : (seek T.gs key hash).1 = none) :
  Calls Tryz.prog 60 #[tabP tb, lensV (some ⟨mb, mo, none⟩) c, .int .u64 (key : Int), .int .u64 (hash : Int)] w fun x w' => x = .returned (optE none) ∧ TabAt w' tb gb T ∧ Met w' mb mt mpre mpost mo (plusN a0 c (seek T.gs key hash).2.2) (plusN l0 c (seek T.gs key hash).2.2) m ∧ Mod [mb] w w' := by
 have hB := ((Below.refl w.heap.size w).alloc (Nat.le_refl _) (.cells #[.pointer (some ⟨mb, mo, none⟩), .int .i64 c.p, .int .i64 c.v, .int .i64 c.u] 89)).alloc (by simp) (.cells #[.int .u64 0, .int .u64 0, .int .u64 0] 37)
 have hL := (Blk.new w 89 #[.pointer (some ⟨mb, mo, none⟩), .int .i64 c.p, .int .i64 c.v, .int .i64 c.u]).alloc (.cells #[.int .u64 0, .int .u64 0, .int .u64 0] 37)
 have hR := Blk.new (w.alloc (.cells #[.pointer (some ⟨mb, mo, none⟩), .int .i64 c.p, .int .i64 c.v, .int .i64 c.u] 89)) 37 #[.int .u64 0, .int .u64 0, .int .u64 0]
 simp only [World.size_alloc] at hR
 obtain ⟨W, hW⟩ : ∃ W, W = (w.alloc (.cells #[.pointer (some ⟨mb, mo, none⟩), .int .i64 c.p, .int .i64 c.v, .int .i64 c.u] 89)).alloc (.cells #[.int .u64 0, .int .u64 0, .int .u64 0] 37) := ⟨_, rfl⟩
 rw [← hW] at hB hL hR
 obtain ⟨lc0, lc1, lc2, lc3⟩ := hL.c4
 have hml := hM.lt
 have htl := h.ltT
 have hgl := h.ltG
 have HW := qd hW
 have HEn := qd (fun ap fp fs hap V hV => spot_Entry tb gb key hash T ap fp fs hap V hV)
 have HSk := qd (table_Seek tb gb key hash T mb mt mpre mpost mo a0 l0 m c W (h.below hB) hP h64 (hM.below hB) hmt hmg (hT.below hB) hz)
 unfold foundE at HEn
 obtain ⟨fs, hfs⟩ : ∃ fs, fs = slotI (seek T.gs key hash).2.1 := ⟨_, rfl⟩
 rw [hsk] at HEn HSk
 rw [← hfs] at HSk
 clear hfs
 simp only [Option.map_some, Option.map_none, Slot.ent, slotI, optE, Option.getD_some, Option.getD_none, Option.isSome_some, Option.isSome_none] at HEn HSk
 unfold spotV at HSk
 unfold spotV entV at HEn
 unfold tabP lensV optE entV
 simp only [Option.getD_some, Option.getD_none, Option.isSome_some, Option.isSome_none]
 have HT := qd (h.below hB)
 have HR := qd (hR)
 have Hmod := qd (Mod.of_below hB [mb])
 clear hW hB h hM hL hR hT
 go_enter Tryz.func60, Tryz.ntmps60
 go_upto_region 1 with fail
 rw [← HW.out]
 go_wp2_with fail
 refine (HSk.out).mono ?_
 rintro x w1 ⟨ap, fp, rfl, hap, hfp, hM1, hm⟩
 clear lc0 lc1 lc2 lc3
 replace HT := qd (HT.out.mod hm (by simp <;> omega) (by simp <;> omega))
 replace HR := qd (HR.out.mod hm (by simp <;> omega))
 replace Hmod := qd (Hmod.out.tr hm)
 clear hm
 clear hap hfp
 have HM := qd (hM1)
 clear hM1
 go_upto_region 2 with fail
 have q1 := HT.out.ltT
 have q2 := HT.out.ltG
 have q3 := HR.out.lt
 have q4 := HM.out.lt
 have z5 := Hmod.out.size
 refine nameB 142 #[.pointer (some ⟨tb, 0, none⟩), .int .u64 (key : Int), .int .u64 (hash : Int), .pointer ap, .int .i64 (-1), .pointer fp, .int .i64 fs] ?_
 rintro w2 ⟨hnew, hb⟩
 replace HT := qd (HT.out.mod (Mod.of_below hb []) (by simp) (by simp))
 replace HR := qd (HR.out.mod (Mod.of_below hb []) (by simp))
 replace HM := qd (HM.out.mod (Mod.of_below hb []) (by simp))
 replace Hmod := qd (Hmod.out.then (Mod.of_below hb _))
 have HS := qd (hnew)
 clear hnew hb
 obtain ⟨sp0, sp1, sp2, sp3, sp4, sp5, sp6⟩ := HS.out.c7
 go_wp2_with fail
 refine (HEn.out ap fp fs (fun i2 s2 hh => by cases hh) w2 HT.out).mono ?_
 rintro x w3 ⟨rfl, hb⟩
 clear sp0 sp1 sp2 sp3 sp4 sp5 sp6
 replace HT := qd (HT.out.mod (Mod.of_below hb []) (by simp) (by simp))
 replace HR := qd (HR.out.mod (Mod.of_below hb []) (by simp))
 replace HM := qd (HM.out.mod (Mod.of_below hb []) (by simp))
 replace HS := qd (HS.out.mod (Mod.of_below hb []) (by simp))
 replace Hmod := qd (Hmod.out.then (Mod.of_below hb _))
 clear hb
 go_upto_region 3 with fail
 have q6 := HT.out.ltT
 have q7 := HT.out.ltG
 have q8 := HR.out.lt
 have q9 := HM.out.lt
 have q10 := HS.out.lt
 have z11 := Hmod.out.size
 refine nameB 37 #[.int .u64 0, .int .u64 0, .int .u64 0] ?_
 rintro w4 ⟨hnew, hb⟩
 replace HT := qd (HT.out.mod (Mod.of_below hb []) (by simp) (by simp))
 replace HR := qd (HR.out.mod (Mod.of_below hb []) (by simp))
 replace HM := qd (HM.out.mod (Mod.of_below hb []) (by simp))
 replace HS := qd (HS.out.mod (Mod.of_below hb []) (by simp))
 replace Hmod := qd (Hmod.out.then (Mod.of_below hb _))
 have HD := qd (hnew)
 clear hnew hb
 obtain ⟨sp0, sp1, sp2, sp3, sp4, sp5, sp6⟩ := HS.out.c7
 obtain ⟨dc0, dc1, dc2⟩ := HD.out.c3
 obtain ⟨rc0, rc1, rc2⟩ := HR.out.c3
 obtain ⟨rf0, rf1, rf2⟩ := HR.out.f3
 refine region_T (fun (w' : World) => w'.cell? ⟨w3.heap.size, 0, none⟩ = some (.int .u64 0) ∧ w'.cell? ⟨w3.heap.size, 1, none⟩ = some (.int .u64 0) ∧ w'.cell? ⟨w3.heap.size, 2, none⟩ = some (.int .u64 0)) [7] (by kernel_rfl) ?_
 try (change wpAnyT _ _ _ _ _ _ _ _ _ (World.drew _))
 have hHeld := (⟨dc0, dc1, dc2⟩ : _ ∧ _ ∧ _)
 refine tT 0 (some 23) (.agg #[.int .u64 0, .int .u64 0, .int .u64 0]) rfl (by rintro w ⟨hh0, hh1, hh2⟩; go_simp) hHeld ?_
 try simp only [pt]
 refine tW 1 (some 24) (.bool false) rfl hHeld ?_
 try simp only [pt]
 refine tW 2 (some 25) (.bool false) rfl hHeld ?_
 try simp only [pt]
 refine tU 3 (some 26) rfl hHeld ?_
 try simp only [pt]
 refine tU 4 (some 27) rfl hHeld ?_
 try simp only [pt]
 refine tU 5 (some 28) rfl hHeld ?_
 try simp only [pt]
 refine tW 6 (some 29) (.bool false) rfl hHeld ?_
 try simp only [pt]
 refine nT 7 none rfl fun K hK => ?_
 go_simp
 refine hK.out _ _ (fun h => absurd (by decide) h) ?_
 clear hK K
 try simp only [pt]
 refine tL 8 (some 9) (.bool false) rfl ?_
 try simp only [pt]
 refine doneT (by kernel_rfl) ?_ _
 clear HS
 clear HD
 have q12 := HT.out.ltT
 have q13 := HT.out.ltG
 have q14 := HR.out.lt
 have q15 := HM.out.lt
 have hnew := (((HR.out.set_ 0 (.int .u64 0)).set_ 1 (.int .u64 0)).set_ 2 (.int .u64 0)).drew
 have hm := (((((Mod.refl [(w.heap.size + 1)] w4).sl 0 (.int .u64 0)).sl 1 (.int .u64 0)).sl 2 (.int .u64 0)).then (Mod.drewN [(w.heap.size + 1)] _ 1))
 simp only [List.setIfInBounds_toArray, List.set_cons_zero, List.set_cons_succ] at hnew
 refine nameW (F := fun v => Blk v (w.heap.size + 1) 37 #[.int .u64 0, .int .u64 0, .int .u64 0] ∧ Mod [(w.heap.size + 1)] w4 v) ⟨hnew, hm⟩ ?_
 clear hnew hm
 rintro w6 ⟨hnew, hm⟩
 replace HT := qd (HT.out.mod hm (by simp <;> omega) (by simp <;> omega))
 replace HM := qd (HM.out.mod hm (by simp <;> omega))
 replace Hmod := qd (Hmod.out.tr hm)
 replace HR := qd hnew
 clear hnew hm
 obtain ⟨rc0, rc1, rc2⟩ := HR.out.c3
 go_wp2
 refine bodyPost_ret (v := .tuple #[.agg #[.int .u64 0, .int .u64 0, .int .u64 0], .bool false]) (by simp [results, Tryz.results60, go_sem, rc0, rc1, rc2]) rfl ⟨rfl, HT.out, HM.out, Hmod.out⟩
end Go.Proofs.YtcgjgfgkdoohlaaGreatDoor

/-! A table's look and Prepare by their contracts. -/
namespace Go.Proofs.YtcgjgfgkdoohlaaGreatDoor
set_option maxRecDepth 100000
set_option maxHeartbeats 2000000
open Go.RowKit AmC
theorem table_look (tb gb : Nat) (T : TabM) (mb : Nat) (mt : TypeId) (mpre mpost : List Value) (mo : Nat) (a0 l0 : Cnt) (m : Int) (c : Cnt) (i : Nat) (hi : i < T.gs.length) (w : World) (h : TabAt w tb gb T) (hM : Met w mb mt mpre mpost mo a0 l0 m) (hmt : mb ≠ tb) (hmg : mb ≠ gb) :
  Calls Tryz.prog 224 #[tabP tb, lensV (some ⟨mb, mo, none⟩) c, .int .i64 (i : Int)] w fun x w' => x = .returned (.tuple #[viewV ⟨gb, i * 25, none⟩, .bool true]) ∧ Met w' mb mt mpre mpost mo (plusC a0 c) (plusC l0 c) m ∧ Mod [mb] w w' := by
 have hB := ((Below.refl w.heap.size w).alloc (Nat.le_refl _) (.cells #[.pointer (some ⟨mb, mo, none⟩), .int .i64 c.p, .int .i64 c.v, .int .i64 c.u] 89)).alloc (by simp) (.cells #[.pointer none] 138)
 have hL := (Blk.new w 89 #[.pointer (some ⟨mb, mo, none⟩), .int .i64 c.p, .int .i64 c.v, .int .i64 c.u]).alloc (.cells #[.pointer none] 138)
 have hR := Blk.new (w.alloc (.cells #[.pointer (some ⟨mb, mo, none⟩), .int .i64 c.p, .int .i64 c.v, .int .i64 c.u] 89)) 138 #[.pointer none]
 simp only [World.size_alloc] at hR
 obtain ⟨W, hW⟩ : ∃ W, W = (w.alloc (.cells #[.pointer (some ⟨mb, mo, none⟩), .int .i64 c.p, .int .i64 c.v, .int .i64 c.u] 89)).alloc (.cells #[.pointer none] 138) := ⟨_, rfl⟩
 rw [← hW] at hB hL hR
 obtain ⟨lc0, lc1, lc2, lc3⟩ := hL.c4
 have rc0 := hR.cell 0
 simp only [List.getElem?_toArray, List.getElem?_cons_zero] at rc0
 have hml := hM.lt
 have htl := h.ltT
 have hgl := h.ltG
 have HW := qd hW
 have hi' : (i : Int) < (T.gs.length : Int) := by omega
 have hi0 : ¬ ((i : Int) < 0) := by omega
 have hi2 : (0 : Int) ≤ (i : Int) := by omega
 have HLk := qd (group_Look ⟨gb, i * 25, none⟩ mb mt mpre mpost mo a0 l0 m c W.drew (hM.below (hB.trans ((Below.refl _ _).drew.mono hB.size))))
 obtain ⟨tc0, tc1, tc2⟩ := (h.below hB).cells
 unfold lensV at HLk
 unfold tabP lensV viewV
 have HT := qd (h.below hB)
 have HR := qd (hR)
 have Hmod := qd (Mod.of_below hB [mb])
 clear hW hB h hM hL hR
 go_enter Tryz.func224, Tryz.ntmps224
 go_upto_region 1 with fail
 rw [← HW.out]
 go_upto_region 3 with fail
 refine region_T (fun (w' : World) => w'.cell? ⟨tb, 0, none⟩ = some (.slice (some ⟨gb, 0, none⟩) T.gs.length T.gs.length) ∧ w'.cell? ⟨w.heap.size, 0, none⟩ = some (.pointer (some ⟨mb, mo, none⟩)) ∧ w'.cell? ⟨w.heap.size, 1, none⟩ = some (.int .i64 c.p) ∧ w'.cell? ⟨w.heap.size, 2, none⟩ = some (.int .i64 c.v) ∧ w'.cell? ⟨w.heap.size, 3, none⟩ = some (.int .i64 c.u)) [7, 8] (by kernel_rfl) ?_
 try (change wpAnyT _ _ _ _ _ _ _ _ _ (World.drew _))
 have hHeld := (⟨tc0, lc0, lc1, lc2, lc3⟩ : _ ∧ _ ∧ _ ∧ _ ∧ _)
 refine tW 0 (some 20) (.pointer (some ⟨tb, 0, none⟩)) rfl hHeld ?_
 try simp only [pt]
 refine tW 1 (some 21) (.pointer (some ⟨tb, 0, none⟩)) rfl hHeld ?_
 try simp only [pt]
 refine tW 2 (some 22) (.pointer (some ⟨tb, 0, none⟩)) rfl hHeld ?_
 try simp only [pt]
 refine tT 3 (some 23) (.slice (some ⟨gb, 0, none⟩) T.gs.length T.gs.length) rfl (by rintro w ⟨hh0, hh1, hh2, hh3, hh4⟩; go_simp) hHeld ?_
 try simp only [pt]
 refine tW 4 (some 24) (.int .i64 (i : Int)) rfl hHeld ?_
 try simp only [pt]
 refine tW 5 (some 25) (.pointer (some ⟨gb, i * 25, none⟩)) rfl hHeld ?_
 try simp only [pt]
 refine tT 6 (some 26) (.agg #[.pointer (some ⟨mb, mo, none⟩), .int .i64 c.p, .int .i64 c.v, .int .i64 c.u]) rfl (by rintro w ⟨hh0, hh1, hh2, hh3, hh4⟩; go_simp) hHeld ?_
 try simp only [pt]
 refine nT 7 (some 27) rfl fun K hK => ?_
 go_simp
 refine (HLk.out).mono ?_
 rintro x w1 ⟨rfl, hM1, hm⟩
 replace hm : Mod [mb] W w1 := (Mod.drewN [mb] W 1).then hm
 clear lc0 lc1 lc2 lc3 rc0
 replace HT := qd (HT.out.mod hm (by simp <;> omega) (by simp <;> omega))
 replace HR := qd (HR.out.mod hm (by simp <;> omega))
 replace Hmod := qd (Hmod.out.tr hm)
 have HM := qd (hM1)
 clear hM1 hm
 unfold viewV
 have rc0 := HR.out.cell 0
 simp only [List.getElem?_toArray, List.getElem?_cons_zero] at rc0
 have rf0 := HR.out.frozen 0
 have n0 := HT.out.cells.1
 go_simp
 refine hK.out _ _ (fun h => absurd (by decide) h) ?_
 clear hK K
 try simp only [pt]
 refine nT 8 none rfl fun K hK => ?_
 go_simp
 refine hK.out _ _ (fun h => absurd (by decide) h) ?_
 clear hK K
 try simp only [pt]
 refine tL 9 (some 7) (.bool true) rfl ?_
 try simp only [pt]
 refine doneT (by kernel_rfl) ?_ _
 have q1 := HT.out.ltT
 have q2 := HT.out.ltG
 have q3 := HR.out.lt
 have q4 := HM.out.lt
 have hnew := (HR.out.set_ 0 (.pointer (some ⟨gb, i * 25, none⟩)))
 have hm := ((Mod.refl [(w.heap.size + 1)] w1).sl 0 (.pointer (some ⟨gb, i * 25, none⟩)))
 simp only [List.setIfInBounds_toArray, List.set_cons_zero, List.set_cons_succ] at hnew
 refine nameW (F := fun v => Blk v (w.heap.size + 1) 138 #[.pointer (some ⟨gb, i * 25, none⟩)] ∧ Mod [(w.heap.size + 1)] w1 v) ⟨hnew, hm⟩ ?_
 clear hnew hm
 rintro w2 ⟨hnew, hm⟩
 clear rc0 rf0
 replace HT := qd (HT.out.mod hm (by simp <;> omega) (by simp <;> omega))
 replace HM := qd (HM.out.mod hm (by simp <;> omega))
 replace Hmod := qd (Hmod.out.tr hm)
 replace HR := qd hnew
 clear hnew hm
 have rc0 := HR.out.cell 0
 simp only [List.getElem?_toArray, List.getElem?_cons_zero] at rc0
 go_wp2
 refine bodyPost_ret (v := .tuple #[.agg #[.pointer (some ⟨gb, i * 25, none⟩)], .bool true]) (by simp [results, Tryz.results224, go_sem, rc0]) rfl ⟨rfl, HM.out, Hmod.out⟩
theorem table_Prepare (tb gb : Nat) (T : TabM) (mb : Nat) (mt : TypeId) (mpre mpost : List Value) (mo : Nat) (a0 l0 : Cnt) (m : Int) (c : Cnt) (i : Nat) (hi : i < T.gs.length) (w : World) (h : TabAt w tb gb T) (hM : Met w mb mt mpre mpost mo a0 l0 m) (hmt : mb ≠ tb) (hmg : mb ≠ gb) :
  Calls Tryz.prog 219 #[tabP tb, lensV (some ⟨mb, mo, none⟩) c, .int .i64 (i : Int)] w fun x w' => x = .returned .nilIface ∧ TabAt w' tb gb { T with gs := T.gs.set i (List.replicate 8 .empty) } ∧ Met w' mb mt mpre mpost mo (plusC a0 c) (plusC l0 c) m ∧ Mod [mb, tb, gb] w w' := by
 have hB := (Below.refl w.heap.size w).alloc (Nat.le_refl _) (.cells #[.pointer (some ⟨mb, mo, none⟩), .int .i64 c.p, .int .i64 c.v, .int .i64 c.u] 89)
 have hL := Blk.new w 89 #[.pointer (some ⟨mb, mo, none⟩), .int .i64 c.p, .int .i64 c.v, .int .i64 c.u]
 obtain ⟨W, hW⟩ : ∃ W, W = w.alloc (.cells #[.pointer (some ⟨mb, mo, none⟩), .int .i64 c.p, .int .i64 c.v, .int .i64 c.u] 89) := ⟨_, rfl⟩
 rw [← hW] at hB hL
 obtain ⟨lc0, lc1, lc2, lc3⟩ := hL.c4
 have hml := hM.lt
 have htl := h.ltT
 have hgl := h.ltG
 have HW := qd hW
 have HLk := qd (table_look tb gb T mb mt mpre mpost mo a0 l0 m c i hi W (h.below hB) (hM.below hB) hmt hmg)
 unfold tabP lensV viewV at HLk
 unfold tabP lensV
 have HT := qd (h.below hB)
 have Hmod := qd (Mod.of_below hB [mb, tb, gb])
 clear hW hB h hM hL
 go_enter Tryz.func219, Tryz.ntmps219
 go_upto_region 1 with fail
 rw [← HW.out]
 go_wp2_with fail
 refine (HLk.out).mono ?_
 rintro x w1 ⟨rfl, hM1, hm⟩
 clear lc0 lc1 lc2 lc3
 replace HT := qd (HT.out.mod hm (by simp <;> omega) (by simp <;> omega))
 replace Hmod := qd (Hmod.out.tr hm)
 clear hm
 have HM := qd (hM1)
 clear hM1
 go_upto_region 4 with fail
 have q1 := HT.out.ltT
 have q2 := HT.out.ltG
 have q3 := HM.out.lt
 have z4 := Hmod.out.size
 refine nameB 138 #[.pointer (some ⟨gb, i * 25, none⟩)] ?_
 rintro w2 ⟨hnew, hb⟩
 replace HT := qd (HT.out.mod (Mod.of_below hb []) (by simp) (by simp))
 replace HM := qd (HM.out.mod (Mod.of_below hb []) (by simp))
 replace Hmod := qd (Hmod.out.then (Mod.of_below hb _))
 have HV := qd (hnew)
 clear hnew hb
 have vc0 := HV.out.cell 0
 simp only [List.getElem?_toArray, List.getElem?_cons_zero] at vc0
 have HCl := qd (grp_Clear gb 167 _ _ (i * 25) _ w2 (HT.out.group i hi))
 unfold viewV at HCl
 go_wp2_with fail
 refine (HCl.out).mono ?_
 rintro x w3 ⟨rfl, hG3, hm⟩
 have hT3 := HT.out.set_group i hi hm hG3
 clear HT hG3
 clear HV
 clear vc0
 replace HM := qd (HM.out.mod hm (by simp <;> omega))
 replace Hmod := qd (Hmod.out.tr hm)
 have HT := qd (hT3)
 clear hm hT3
 go_wp2
 go_ret
 exact ⟨rfl, HT.out, HM.out, Hmod.out⟩
end Go.Proofs.YtcgjgfgkdoohlaaGreatDoor
