/- Package copyist by its contracts. -/
import Derived.Test.YtbphcldoflekpaaGreatDoorCoBH
import Derived.Test.YtbphcldoflekpaaGreatDoorSqT
import Derived.Test.YtbphcldoflekpaaGreatDoorLaneP
namespace Go.Proofs.YtbphcldoflekpaaGreatDoor
set_option maxRecDepth 100000
set_option maxHeartbeats 4000000
open Go.RowKit dA
section
structure iW (w : World) (cb ob oe fb fe d next : Nat) (lo lf : List Nat) : Prop where
 blk : aj w cb 224 #[pQ ob, pQ fb, nI next, .bool false]
 old : dh w ob oe d lo
 fresh : dh w fb fe (d + 1) lf
 le : next ≤ lo.length
 nd : [cb, ob, oe, fb, fe].Nodup
section
variable {w w' : World} {cb ob oe fb fe d next : Nat} {lo lf : List Nat}
theorem iW.mod {S : List Nat} (h : iW w cb ob oe fb fe d next lo lf) (hm : Mod S w w') (hs : ∀ q ∈ [cb, ob, oe, fb, fe], q ∉ S) : iW w' cb ob oe fb fe d next lo lf :=
 ⟨h.blk.mod hm (hs _ (by simp)), h.old.mod hm (hs _ (by simp)) (hs _ (by simp)), h.fresh.mod hm (hs _ (by simp)) (hs _ (by simp)), h.le, h.nd⟩
instance {w w' : World} {cb ob oe fb fe d next : Nat} {lo lf : List Nat} : Md (iW w cb ob oe fb fe d next lo lf) w w' (iW w' cb ob oe fb fe d next lo lf) (fun S => ∀ q ∈ [cb, ob, oe, fb, fe], q ∉ S) := ⟨fun h hm hs => h.mod hm hs⟩
theorem iW.lt (h : iW w cb ob oe fb fe d next lo lf) : cb < w.heap.size := h.blk.lt
end
def oC (b : Nat) : Value := pQ b
def rU (lf : List Nat) (i id : Nat) : Nat → List Nat
 | 0 => lf
 | j + 1 => (rU lf i id j).set (2 * i + j) id
theorem sG (lf : List Nat) (i id : Nat) : ∀ j, (rU lf i id j).length = lf.length
 | 0 => rfl
 | j + 1 => by unfold rU; rw [List.length_set, sG lf i id j]
theorem Nq (ob oe d : Nat) (lo : List Nat) (hd : d < 5) (w : World) (h : dh w ob oe d lo) :
  Calls Tryz.prog 90 #[iA ob] w fun e w' => ∃ cb fb fe, e = .returned (.tuple #[oC cb, .nilIface]) ∧ iW w' cb ob oe fb fe d 0 lo (List.replicate (2 ^ (d + 1)) 0) ∧ (w.heap.size ≤ cb ∧ w.heap.size ≤ fb ∧ w.heap.size ≤ fe) ∧ Below w.heap.size w w' := by
 have hol := h.lt
 have hoe := h.IB
 have Bj := qd (IC ob oe d lo w h)
 have iJ := qd (Ow (d + 1) (by omega) w)
 have hd1 : ((d + 1 : Nat) : Int) = (d : Int) + 1 := by omega
 rw [hd1] at iJ
 have HO := qd h
 unfold iA at Bj iJ ⊢
 clear h hd1
 go_in
 go_wp2_with fail
 refine (Bj.out).mono ?_
 rintro y w1 ⟨rfl, rfl⟩
 go_wp2_with fail
 refine (iJ.out).mono ?_
 rintro y w1 ⟨rfl, hF, hb⟩
 have HF := qd hF
 have Hb := qd hb
 clear hF hb
 go_wp2
 refine bodyPost_ret (v := .tuple #[pQ w1.heap.size, .nilIface]) (by simp [results, Tryz.results90, go_sem]) rfl ?_
 have hbs := Hb.out.size
 have hl1 := HF.out.lt
 have hB2 := Mod.of_below ((Below.refl w1.heap.size w1).alloc (Nat.le_refl _) (.cells #[pQ ob, .pointer (some ⟨(w.heap.size + 1), 0, none⟩), .int .i64 0, .bool false] 224)) []
 have hne := HO.out.ne
 exact ⟨w1.heap.size, w.heap.size + 1, w.heap.size, rfl, ⟨aj.new w1 _ _, (HO.out.mod (Mod.of_below Hb.out []) (by simp) (by simp)).mod hB2 (by simp) (by simp), HF.out.mod hB2 (by simp) (by simp), Nat.zero_le _, by simp; omega⟩, ⟨by omega, by omega, by omega⟩, Hb.out.alloc hbs _⟩
theorem vS (cb ob oe fb fe d next : Nat) (lo lf : List Nat) (w : World) (h : iW w cb ob oe fb fe d next lo lf) :
  Calls Tryz.prog 179 #[oC cb] w fun e w' => e = .returned (.int .i64 ((lo.length - next : Nat) : Int)) ∧ w.drew = w' := by
 have qN := qd (YB ob oe d lo w.drew (h.old.mod (Mod.drewN [] w 1) (by simp) (by simp)))
 have hle := h.le
 have hls := h.old.small
 obtain ⟨n, hn⟩ : ∃ n, n = lo.length := ⟨_, rfl⟩
 rw [← hn] at qN hle hls ⊢
 have hwr : IntKind.i64.wrap ((n : Int) - (next : Int)) = ((n - next : Nat) : Int) := by rw [Og hle, IntKind.wrap_i64]; omega
 unfold iA at qN
 unfold oC
 have c0 := h.blk.cell 0
 have c2 := h.blk.cell 2
 simp only [gl] at c0 c2
 clear h hn
 go_in
 go_upto_region 1 with fail
 refine rT (fun (w' : World) => w'.cell? ⟨cb, 0, none⟩ = some (pQ ob) ∧ w'.cell? ⟨cb, 2, none⟩ = some (nI next)) [] ?_
 have hHeld := (⟨c0, c2⟩ : _ ∧ _)
 refine vW 0 rfl ?_
 refine vW 1 rfl ?_
 refine vW 2 rfl ?_
 refine vT 3 rfl ?_
 refine vW 5 rfl ?_
 refine vW 6 rfl ?_
 refine vW 7 rfl ?_
 refine vT 8 rfl ?_
 refine nT 4 rfl fun K hK => ?_
 go_simp
 refine (qN.out).mono ?_
 rintro y w1 ⟨rfl, rfl⟩
 go_wp2_with fail
 have hHeld := (⟨c0, c2⟩ : _ ∧ _)
 refine kO hK ?_
 clear hK K
 refine vW 9 rfl ?_
 refine vW 10 rfl ?_
 refine aT (by kernel_rfl) ?_ _
 go_wp2
 go_ret
 exact ⟨rfl, rfl⟩
theorem yR (cb ob oe fb fe d next : Nat) (lo lf : List Nat) (i : Nat) (hi : i < lo.length) (w : World) (h : iW w cb ob oe fb fe d next lo lf) :
  Calls Tryz.prog 205 #[oC cb, nI i] w fun e w' => e = .returned undef ∧ dh w' fb fe (d + 1) (rU lf i (lo.getD i 0) 2) ∧ Mod [fe] w w' := by
 have hnd := h.nd
 simp at hnd
 have bD := qd (IE ob oe d lo i hi w h.old)
 obtain ⟨id, hid⟩ : ∃ id, id = lo.getD i 0 := ⟨_, rfl⟩
 rw [← hid] at bD ⊢
 have hls := h.old.small
 have hl1 := h.old.len
 have hl2 := h.fresh.len
 have hp := Nat.pow_succ 2 d
 have hil : 2 * i + 1 < lf.length := by omega
 have KP := qd (rO (id : Int) w)
 have K4 := qd (Bb)
 have HF := qd h.fresh
 unfold iA at bD
 unfold oC
 have hi0 : (0 : Int) ≤ (i : Int) := by omega
 have adw : i < 32 := by omega
 have HC := qd (h.blk)
 have ah := qd (Mod.refl [fe] w)
 clear h hid hl1 hl2 hp hi
 go_in
 have cc := HC.out.c4
 go_wp2_with fail
 refine (bD.out).mono ?_
 rintro y w1 ⟨rfl, rfl⟩
 go_wp2_with fail
 refine (KP.out).mono ?_
 rintro y w1 ⟨rfl, rfl⟩
 go_wp2
 clear cc
 go_loopw [5, 15] (fun _ k wr => ∃ j : Nat, j ≤ 2 ∧ k = .int .i64 j ∧ dh wr fb fe (d + 1) (rU lf i id j) ∧ aj wr cb 224 #[pQ ob, pQ fb, nI next, .bool false] ∧ Mod [fe] w wr) (fun _ k _ => 2 - (intOf k).toNat)
 case atStart => exact ⟨0, by omega, rfl, HF.out, HC.out, ah.out⟩
 case round =>
  clear HF HC ah
  obtain ⟨j, hj, rfl, hF, hC, hm⟩ := hrel
  by_cases hlt : j < 2
  ·have hlt' : (j : Int) < 2 := by omega
   have hj0 : (0 : Int) ≤ (j : Int) := by omega
   have hln : (rU lf i id j).length = lf.length := sG lf i id j
   have yK := qd (YC fb fe (d + 1) _ (2 * i + j) id (by omega) wr hF)
   have ZO : ((2 * i + j : Nat) : Int) = 2 * (i : Int) + (j : Int) := by omega
   rw [ZO] at yK
   unfold iA at yK
   have hw1 : IntKind.i64.wrap (2 * (i : Int)) = 2 * (i : Int) := by rw [IntKind.wrap_i64]; omega
   have hw2 : IntKind.i64.wrap (2 * (i : Int) + (j : Int)) = 2 * (i : Int) + (j : Int) := by rw [IntKind.wrap_i64]; omega
   have HC := qd (hC)
   have ah := qd (hm)
   clear hF hC hm ZO hln
   have cc := HC.out.c4
   go_wp2_with fail
   refine (yK.out).mono ?_
   rintro x w2 ⟨rfl, hF2, hm⟩
   clear cc
   replace HC := qM hm HC
   have z1 := (hm).size
   replace ah := qU ah hm
   clear hm
   have KN := qd (show dh w2 fb fe (d + 1) (rU lf i id (j + 1)) from hF2)
   clear hF2 yK
   go_wp2_with fail
   refine (K4.out _).mono ?_
   rintro y w3 ⟨rfl, rfl⟩
   go_wp2
   go_roundw
   case rel => exact ⟨j + 1, by omega, by go_num, KN.out, HC.out, ah.out⟩
   case measure => simp [intOf]; omega
  ·obtain rfl : j = 2 := by omega
   have hlt' : ¬ ((2 : Nat) : Int) < 2 := by omega
   have HZ := qd (And.intro hF hm)
   clear hF hC hm
   go_wp2
   go_end0
   exact ⟨rfl, HZ.out⟩
theorem Lm (cb ob oe fb fe d next : Nat) (lo lf : List Nat) (P : MP) (x : bM) (hnx : next < lo.length) (w : World) (h : iW w cb ob oe fb fe d next lo lf) (hM : aN w P x) (nM : P.mb ∉ [cb, ob, oe, fb, fe]) :
  Calls Tryz.prog 255 #[oC cb, .pointer (some ⟨P.mb, P.mo, none⟩)] w fun e w' => e = .returned (.bool true) ∧ iW w' cb ob oe fb fe d (next + 1) lo (rU lf next (lo.getD next 0) 2) ∧ aN w' P (x.add (cU 1) 1) ∧ Mod [P.mb, cb, fe] w w' := by
 have hnd := h.nd
 simp at hnd
 simp only [List.mem_cons, List.not_mem_nil, or_false, not_or] at nM
 have hml := hM.lt
 have iY := qd (vS cb ob oe fb fe d next lo lf w h)
 obtain ⟨dn, hdn⟩ : ∃ dn, dn = lo.length - next := ⟨_, rfl⟩
 rw [← hdn] at iY
 have hd0 : ¬ (dn : Int) = 0 := by omega
 have hd1 : ¬ dn = 0 := by omega
 have hls := h.old.small
 unfold oC at iY ⊢
 clear hdn
 have HK := qd (h)
 have HM := qd (hM)
 have ah := qd (Mod.refl [P.mb, cb, fe] w)
 clear h hM
 go_in
 go_wp2_with fail
 refine (iY.out).mono ?_
 rintro y w1 ⟨rfl, hw1⟩
 have hm : Mod [] w w1 := hw1 ▸ Mod.drewN [] w 1
 clear hw1 iY
 replace HK := qd (HK.out.mod hm (by intro q hq; simp at hq; simp <;> omega))
 replace HM := qM hm HM
 have z1 := (hm).size
 replace ah := qU ah hm
 clear hm
 have HU := qd (qz P.mb P.mt P.pre P.post P.mo _ _ P.m 1 (by omega) w1 HM.out)
 clear HM
 go_wp2_with fail
 refine (HU.out).mono ?_
 rintro x w2 ⟨rfl, hM2, hm⟩
 replace HK := qd (HK.out.mod hm (by intro q hq; simp at hq; simp <;> omega))
 have z2 := (hm).size
 replace ah := qU ah hm
 clear hm
 have HM := qd (show aN w2 P (x.add (cU 1) 1) from hM2)
 clear hM2 HU
 have tK := qd (yR cb ob oe fb fe d next lo lf next hnx w2 HK.out)
 unfold oC at tK
 have HB := qd HK.out.blk
 have HO := qd HK.out.old
 have qI := qd HK.out.nd
 clear HK
 have bc := HB.out.c4
 go_wp2_with fail
 refine (tK.out).mono ?_
 rintro x w3 ⟨rfl, hF, hm⟩
 clear bc
 replace HM := qM hm HM
 replace HB := qM hm HB
 replace HO := qM hm HO
 have z3 := (hm).size
 replace ah := qU ah hm
 clear hm
 have HF := qd (hF)
 clear hF tK
 have bc := HB.out.c4
 have bf := HB.out.f4
 go_upto_region 6 with fail
 have q4 := qJ HM.out.lt (qJ HB.out.lt (qJ HO.out.lt (qJ HO.out.IB (qJ HF.out.lt HF.out.IB))))
 refine ED HB.out ?_
 rintro w4 ⟨hnew, hm⟩
 simp only [pt] at hnew
 replace HM := qM hm HM
 replace HO := qM hm HO
 replace HF := qM hm HF
 have Zn := (hm).size
 replace ah := qU ah hm
 replace HB := qd hnew
 clear hnew hm
 go_wp2
 go_ret
 exact ⟨rfl, ⟨HB.out, HO.out, HF.out, by omega, qI.out⟩, HM.out, ah.out⟩
theorem Lp (cb ob oe fb fe d next : Nat) (lo lf : List Nat) (hnx : next = lo.length) (w : World) (h : iW w cb ob oe fb fe d next lo lf) :
  Calls Tryz.prog 142 #[oC cb] w fun e w' => e = .returned (.tuple #[iA fb, .nilIface]) ∧ dh w' fb fe (d + 1) lf ∧ Mod [cb] w w' := by
 have hnd := h.nd
 simp at hnd
 have iY := qd (vS cb ob oe fb fe d next lo lf w h)
 rw [show lo.length - next = 0 by omega] at iY
 unfold oC at iY ⊢
 unfold iA
 have HB := qd (h.blk)
 have HF := qd (h.fresh)
 have ah := qd (Mod.refl [cb] w)
 clear h
 go_in
 go_wp2_with fail
 refine (iY.out).mono ?_
 rintro y w1 ⟨rfl, hw1⟩
 have hm : Mod [] w w1 := hw1 ▸ Mod.drewN [] w 1
 clear hw1 iY
 replace HB := qM hm HB
 replace HF := qM hm HF
 have z1 := (hm).size
 replace ah := qU ah hm
 clear hm
 have bc := HB.out.c4
 have bf := HB.out.f4
 go_upto_region 4 with fail
 have q2 := qJ HB.out.lt (qJ HF.out.lt HF.out.IB)
 refine ED HB.out ?_
 rintro w2 ⟨hnew, hm⟩
 simp only [pt] at hnew
 clear bc bf
 replace HF := qM hm HF
 have z5 := (hm).size
 replace ah := qU ah hm
 replace HB := qd hnew
 clear hnew hm
 have bc := HB.out.c4
 go_wp2
 refine bodyPost_ret (v := .tuple #[pQ fb, .nilIface]) (by simp [results, Tryz.results142, go_sem]) rfl ⟨rfl, HF.out, ah.out⟩
end
def oD (lf lo : List Nat) (fr : Nat) : Nat → List Nat
 | 0 => lf
 | j + 1 => rU (oD lf lo fr j) (fr + j) (lo.getD (fr + j) 0) 2
theorem xV (lf lo : List Nat) (fr : Nat) : ∀ j, (oD lf lo fr j).length = lf.length
 | 0 => rfl
 | j + 1 => by unfold oD; rw [sG, xV lf lo fr j]
theorem Nr (cb ob oe fb fe d next : Nat) (lo lf : List Nat) (p pd id : Nat) (h1 : pd ≤ d) (hp : p < 2 ^ pd) (w : World) (h : iW w cb ob oe fb fe d next lo lf) :
  Calls Tryz.prog 182 #[oC cb, nI p, nI pd, nI id] w fun e w' =>
   e = .returned (.tuple #[.int .i64 ((2 ^ (d - pd) + 2 * (min (bZ p pd d + 2 ^ (d - pd)) next - bZ p pd d) : Nat) : Int), .nilIface]) ∧
   iW w' cb ob oe fb fe d next (jq lo (bZ p pd d) id (2 ^ (d - pd))) (oD lf (jq lo (bZ p pd d) id (2 ^ (d - pd))) (bZ p pd d) (min (bZ p pd d + 2 ^ (d - pd)) next - bZ p pd d)) ∧ Mod [oe, fe] w w' := by
 have hnd := h.nd
 simp at hnd
 have hft := Cj h1 hp
 have hlo := h.old.len
 have hls := h.old.small
 have hnl := h.le
 have jg := qd (Ox ob oe d lo p pd h1 hp id w h.old)
 have Af := qd (fun V (hV : dh V ob oe d (jq lo (bZ p pd d) id (2 ^ (d - pd)))) => Ll ob oe d _ p pd h1 hp V hV)
 obtain ⟨fr, hfr⟩ : ∃ fr, fr = bZ p pd d := ⟨_, rfl⟩
 obtain ⟨n, hn⟩ : ∃ n, n = 2 ^ (d - pd) := ⟨_, rfl⟩
 rw [← hfr, ← hn] at hft jg Af ⊢
 obtain ⟨lo2, hlo2⟩ : ∃ l, l = jq lo fr id n := ⟨_, rfl⟩
 have hl2 : lo2.length = lo.length := by rw [hlo2, kY]
 rw [← hlo2] at jg Af ⊢
 obtain ⟨mn, hmn⟩ : ∃ q : Nat, q = min (fr + n) next := ⟨_, rfl⟩
 rw [← hmn]
 have HMn := qd hmn
 have K4 := qd h.nd
 have adx : ¬ (id : Int) < 0 := by omega
 unfold iA at jg Af
 unfold oC
 have HB := qd (h.blk)
 have HF := qd (h.fresh)
 have ah := qd (Mod.refl [oe, fe] w)
 clear h hfr hn hlo2 hp h1 hmn
 go_in
 obtain ⟨bc0, bc1, bc2, bc3⟩ := HB.out.c4
 go_wp2_with fail
 refine (jg.out).mono ?_
 rintro x w1 ⟨rfl, hO, hm⟩
 clear bc0 bc1 bc2 bc3
 replace HB := qM hm HB
 replace HF := qM hm HF
 have z1 := (hm).size
 replace ah := qU ah hm
 clear hm
 have HO := qd (hO)
 clear hO jg
 obtain ⟨bc0, bc1, bc2, bc3⟩ := HB.out.c4
 go_wp2_with fail
 refine (Af.out _ HO.out).mono ?_
 rintro y w2 ⟨rfl, hw2⟩
 have hm : Mod [] w1 w2 := hw2 ▸ Mod.drewN [] w1 1
 clear hw2 Af bc0 bc1 bc2 bc3
 replace HB := qM hm HB
 replace HF := qM hm HF
 replace HO := qM hm HO
 have z2 := (hm).size
 replace ah := qU ah hm
 clear hm
 go_wp2
 go_loopw [10, 14] (fun vn vi wr => ∃ j : Nat, fr + j ≤ max fr mn ∧ vi = .int .i64 ((fr + j : Nat) : Int) ∧ vn = .int .i64 ((n + 2 * j : Nat) : Int) ∧ aj wr cb 224 #[pQ ob, pQ fb, nI next, .bool false] ∧ dh wr ob oe d lo2 ∧ dh wr fb fe (d + 1) (oD lf lo2 fr j) ∧ Mod [oe, fe] w wr) (fun _ vi _ => max fr mn - (intOf vi).toNat)
 case atStart => exact ⟨0, by omega, rfl, by simp, HB.out, HO.out, HF.out, ah.out⟩
 case round =>
  clear HB HO HF ah
  obtain ⟨j, hj, rfl, rfl, hB, hO, hF, hm⟩ := hrel
  have hmd := HMn.out
  by_cases hlt : fr + j < mn
  ·have tK := qd (yR cb ob oe fb fe d next lo2 (oD lf lo2 fr j) (fr + j) (by omega) wr ⟨hB, hO, hF, by omega, K4.out⟩)
   try simp only [nI] at tK
   rw [show ((fr + j : Nat) : Int) = (fr : Int) + (j : Int) by omega] at tK
   unfold oC at tK
   have HB := qd (hB)
   have HO := qd (hO)
   have ah := qd (hm)
   clear hB hO hF hm
   obtain ⟨bc0, bc1, bc2, bc3⟩ := HB.out.c4
   by_cases hc : next < fr + n
   focus
    have hcI : (next : Int) < (fr : Int) + (n : Int) := by omega
    have hlt' : (fr : Int) + (j : Int) < (next : Int) := by omega
   rotate_left
   focus
    have hcI : ¬ (next : Int) < (fr : Int) + (n : Int) := by omega
    have hlt' : (fr : Int) + (j : Int) < (fr : Int) + (n : Int) := by omega
   all_goals
    go_wp2_with fail
    refine (tK.out).mono ?_
    rintro x w3 ⟨rfl, hF2, hm⟩
    clear bc0 bc1 bc2 bc3
    replace HB := qM hm HB
    replace HO := qM hm HO
    have abB := (hm).size
    replace ah := qU ah hm
    clear hm
    have KN := qd (show dh w3 fb fe (d + 1) (oD lf lo2 fr (j + 1)) from hF2)
    clear hF2 tK
    go_wp2
    go_roundw
    case rel => exact ⟨j + 1, by omega, by first | go_num | (simp; rw [IntKind.wrap_i64]; omega) | (simp; omega), by first | go_num | (simp; omega), HB.out, HO.out, KN.out, ah.out⟩
    case measure => simp [intOf]; omega
  ·have hjm : j = mn - fr := by omega
   have HZ := qd (show iW wr cb ob oe fb fe d next lo2 (oD lf lo2 fr (mn - fr)) ∧ Mod [oe, fe] w wr from ⟨⟨hB, hO, hjm ▸ hF, by omega, K4.out⟩, hm⟩)
   have bc2 := hB.cell 2
   simp only [gl] at bc2
   have hres : (n : Int) + 2 * (j : Int) = ((n + 2 * (mn - fr) : Nat) : Int) := by omega
   have jf := qd hres
   clear hB hO hF hm hres hjm
   by_cases hc : next < fr + n
   focus
    have hcI : (next : Int) < (fr : Int) + (n : Int) := by omega
    have hlt' : ¬ (fr : Int) + (j : Int) < (next : Int) := by omega
   rotate_left
   focus
    have hcI : ¬ (next : Int) < (fr : Int) + (n : Int) := by omega
    have hlt' : ¬ (fr : Int) + (j : Int) < (fr : Int) + (n : Int) := by omega
   all_goals
    clear hmd
    go_wp2
    refine bodyPost_ret (v := .tuple #[.int .i64 ((n : Int) + 2 * (j : Int)), .nilIface]) (by simp [results, Tryz.results182, go_sem]) rfl ⟨by rw [jf.out] <;> simp, HZ.out⟩
section
structure fH (w : World) (qb rb : Nat) (ring : List Nat) (first : Nat) (ids : List Nat) : Prop where
 blk : aj w qb 201 #[.slice (some ⟨rb, 0, none⟩) 40 40, nI first, nI ids.length]
 row : aj w rb 3 (intCells ring)
 len : ring.length = 40
 Bo : first < 40
 many : ids.length ≤ 40
 at_ : ∀ i, i < ids.length → ring.getD ((first + i) % 40) 0 = ids.getD i 0
 ne : qb ≠ rb
section
variable {w w' : World} {qb rb : Nat} {ring : List Nat} {first : Nat} {ids : List Nat}
theorem fH.mod {S : List Nat} (h : fH w qb rb ring first ids) (hm : Mod S w w') (h1 : qb ∉ S) (h2 : rb ∉ S) : fH w' qb rb ring first ids := ⟨h.blk.mod hm h1, h.row.mod hm h2, h.len, h.Bo, h.many, h.at_, h.ne⟩
instance {w w' : World} {qb rb first : Nat} {ring ids : List Nat} : Md (fH w qb rb ring first ids) w w' (fH w' qb rb ring first ids) (fun S => qb ∉ S ∧ rb ∉ S) := ⟨fun h hm hs => h.mod hm hs.1 hs.2⟩
theorem fH.lt (h : fH w qb rb ring first ids) : qb < w.heap.size := h.blk.lt
theorem fH.IG (h : fH w qb rb ring first ids) : rb < w.heap.size := h.row.lt
theorem fH.entry (h : fH w qb rb ring first ids) {i : Nat} (hi : i < 40) : w.cell? ⟨rb, i, none⟩ = some (.int .i64 ((ring.getD i 0 : Nat) : Int)) := by
 rw [h.row.cell i]
 unfold intCells
 rw [List.getElem?_toArray, List.getElem?_map, List.getD_eq_getElem?_getD, List.getElem?_eq_getElem (by rw [h.len]; exact hi)]; rfl
end
def oo (b : Nat) : Value := pQ b
def dz (l : List Nat) : List Value := l.map fun n : Nat => Value.int .i64 (n : Int)
theorem Sn (w : World) :
  Calls Tryz.prog 77 #[.int .i64 40] w fun e w' => e = .returned (.tuple #[oo (w.heap.size + 1), .nilIface]) ∧ fH w' (w.heap.size + 1) w.heap.size (List.replicate 40 0) 0 [] ∧ Below w.heap.size w w' := by
 have hmk := Iz 40 (by omega) w
 have hc : ((40 : Nat) : Int) = 40 := rfl
 rw [hc] at hmk
 have HE := qd (show fH ((w.alloc (.cells (intCells (List.replicate 40 0)) 3)).alloc (.cells #[.slice (some ⟨w.heap.size, 0, none⟩) 40 40, .int .i64 0, .int .i64 0] 201)) (w.heap.size + 1) w.heap.size (List.replicate 40 0) 0 [] from by
  refine ⟨?_, (aj.new w _ _).alloc _, by simp, by omega, by simp, fun i hi => by simp at hi, by omega⟩
  have := aj.new (w.alloc (.cells (intCells (List.replicate 40 0)) 3)) 201 #[.slice (some ⟨w.heap.size, 0, none⟩) 40 40, .int .i64 0, .int .i64 0]
  rw [World.size_alloc] at this
  exact this)
 clear hc
 unfold oo
 go_in
 go_wp2
 refine bodyPost_ret (v := .tuple #[.pointer (some ⟨w.heap.size + 1, 0, none⟩), .nilIface]) (by simp [results, Tryz.results77, go_sem]) rfl ⟨rfl, HE.out, ?_⟩
 exact ((Below.refl _ _).alloc (Nat.le_refl _) _).alloc (by simp) _
theorem DY (qb rb : Nat) (ring : List Nat) (first : Nat) (ids : List Nat) (i : Nat) (hi : i ≤ 100) (w : World) (h : fH w qb rb ring first ids) :
  Calls Tryz.prog 198 #[oo qb, nI i] w fun e w' => e = .returned (.int .i64 (((first + i) % 40 : Nat) : Int)) ∧ w.drew = w' := by
 have hf := h.Bo
 have hw1 : IntKind.i64.wrap ((first : Int) + (i : Int)) = (first : Int) + (i : Int) := by rw [IntKind.wrap_i64]; omega
 have hrm : ((first : Int) + (i : Int)).tmod 40 = (((first + i) % 40 : Nat) : Int) := by rw [show (first : Int) + (i : Int) = ((first + i : Nat) : Int) by omega]; rfl
 obtain ⟨r, hr⟩ : ∃ r, r = (first + i) % 40 := ⟨_, rfl⟩
 rw [← hr] at hrm ⊢
 have Gm : r < 40 := by omega
 have hw2 : IntKind.i64.wrap (r : Int) = (r : Int) := by rw [IntKind.wrap_i64]; omega
 unfold oo
 obtain ⟨c0, c1⟩ := h.blk.c2
 clear h hr
 go_in
 go_upto_region 1 with fail
 refine rT (fun (w' : World) => w'.cell? ⟨qb, 0, none⟩ = some (.slice (some ⟨rb, 0, none⟩) 40 40) ∧ w'.cell? ⟨qb, 1, none⟩ = some (nI first)) [] ?_
 have hHeld := (⟨c0, c1⟩ : _ ∧ _)
 refine vW 0 rfl ?_
 refine vW 1 rfl ?_
 refine vW 2 rfl ?_
 refine vT 3 rfl ?_
 refine vW 4 rfl ?_
 refine vW 5 rfl ?_
 refine vW 6 rfl ?_
 refine vW 7 rfl ?_
 refine vW 8 rfl ?_
 refine vT 9 rfl ?_
 refine vW 10 rfl ?_
 refine vW 11 rfl ?_
 refine vW 12 rfl ?_
 refine aT (by kernel_rfl) ?_ _
 go_wp2
 go_ret
 exact ⟨rfl, rfl⟩
theorem JE (qb rb : Nat) (ring : List Nat) (first : Nat) (ids : List Nat) (w : World) (h : fH w qb rb ring first []) :
  Calls Tryz.prog 175 #[oo qb] w fun e w' => e = .returned (.tuple #[.int .i64 0, .bool false]) ∧ w = w' := by
 have c2 := h.blk.cell 2
 simp only [List.getElem?_toArray, List.getElem?_cons_zero, List.getElem?_cons_succ, List.length_nil] at c2
 clear h
 unfold oo
 go_in
 go_wp2
 refine bodyPost_ret (v := .tuple #[.int .i64 0, .bool false]) (by simp [results, Tryz.results175, go_sem]) rfl ⟨rfl, rfl⟩
theorem Qd (qb rb : Nat) (ring : List Nat) (first id : Nat) (ids : List Nat) (w : World) (h : fH w qb rb ring first (id :: ids)) :
  Calls Tryz.prog 175 #[oo qb] w fun e w' => e = .returned (.tuple #[nI id, .bool true]) ∧ w.drew = w' := by
 have hf := h.Bo
 have ce := h.entry hf
 have h0 := h.at_ 0 (by simp)
 rw [Nat.add_zero, Nat.mod_eq_of_lt hf] at h0
 rw [h0] at ce
 simp only [List.getD_cons_zero] at ce
 obtain ⟨c0, c1, c2⟩ := h.blk.c3
 obtain ⟨n, hn⟩ : ∃ n, n = (id :: ids).length := ⟨_, rfl⟩
 rw [← hn] at c2
 have hn0 : ¬ (n : Int) = 0 := by rw [hn]; simp; omega
 have hn1 : ¬ n = 0 := by omega
 have hf' : (first : Int) < 40 := by omega
 have hf0 : (0 : Int) ≤ (first : Int) := by omega
 clear h h0 hn
 unfold oo
 go_in
 go_upto_region 3 with fail
 refine rT (fun (w' : World) => w'.cell? ⟨qb, 0, none⟩ = some (.slice (some ⟨rb, 0, none⟩) 40 40) ∧ w'.cell? ⟨qb, 1, none⟩ = some (nI first) ∧ w'.cell? ⟨rb, first, none⟩ = some (nI id)) [] ?_
 have hHeld := (⟨c0, c1, ce⟩ : _ ∧ _ ∧ _)
 refine vW 0 rfl ?_
 refine vW 1 rfl ?_
 refine vW 2 rfl ?_
 refine vT 3 rfl ?_
 refine vW 4 rfl ?_
 refine vW 5 rfl ?_
 refine vW 6 rfl ?_
 refine vT 7 rfl ?_
 refine vW 8 rfl ?_
 refine vT 9 rfl ?_
 refine vW 10 rfl ?_
 refine vW 11 rfl ?_
 refine aT (by kernel_rfl) ?_ _
 go_wp2
 refine bodyPost_ret (v := .tuple #[nI id, .bool true]) (by simp [results, Tryz.results175, go_sem]) rfl ⟨rfl, rfl⟩
end
theorem vV : xL Tryz.prog 147 3 1 8 := J6 Tryz.underlying147 DX rfl (by decide) (by decide)
theorem Qe (n : Nat) (hn : n ≤ 65536) (W : World) : (Instr.makeSlice 147 (.int .i64 0) (nI n)).run Tryz.prog W = .ok (.slice (some ⟨W.heap.size, 0, none⟩) 0 n) (W.alloc (.cells (intCells (List.replicate n 0)) 3)) := by
 obtain ⟨i, hi, hz0, hz1, hz2⟩ := info_parts DX
 have := run_makeSlice (P := Tryz.prog) (w := W) 147 3 i (.int .i64 0) Tryz.underlying147 hi hz0 .i64 .i64 0 (n : Int) (by omega) (by omega) (by rw [hz1]; omega) (by rw [hz2]; omega) (by omega)
 rw [this, hz1, Int.toNat_natCast]
 have e : madeCells (Value.int .i64 0).cells (n * 1) = intCells (List.replicate n 0) := by
  rw [uM (z := (Value.int .i64 0).cells) (k := 1) (v := .int .i64 0) rfl (by omega), Nat.mul_one]
  unfold intCells
  rw [List.map_replicate]; rfl
 rw [e]; rfl
theorem Lr {l : List Nat} {j : Nat} {n : Nat} (h : l[j]? = some n) : dz (l.take j) ++ [nI n] = dz (l.take (j + 1)) := by
 rw [pO h]; simp [dz]
theorem lQ {w : World} {base n c : Nat} {A : Option Addr} {l : List Nat} (h : w.ownsRow base 3 1 (.slice A n c) n (dz l)) {j v : Nat} (hj : l[j]? = some v) : ∃ g, A = some ⟨g, 0, none⟩ ∧ base ≤ g ∧ g < w.heap.size ∧ w.cell? ⟨g, j, none⟩ = some (nI v) ∧ l.length = n := by
 have hl := h.1
 have hln : l.length = n := by simpa [dz] using hl
 obtain ⟨hlt, _⟩ := List.getElem?_eq_some_iff.1 hj
 rcases h.2 with hz | ⟨g, cap, cur, hv, hb, hg, _⟩
 ·omega
 ·cases hv
  refine ⟨g, rfl, hb, (Array.getElem?_eq_some_iff.1 hg).1, ?_, hln⟩
  have := h.cellAt j (by omega)
  rw [this]; unfold dz; rw [List.getElem?_map, hj]; rfl
theorem zF (qb rb : Nat) (ring : List Nat) (first : Nat) (ids : List Nat) (w : World) (h : fH w qb rb ring first ids) :
  Calls Tryz.prog 200 #[oo qb] w fun e w' => ∃ A c, e = .returned (.slice A ids.length c) ∧ w'.ownsRow w.heap.size 3 1 (.slice A ids.length c) ids.length (dz ids) ∧ Below w.heap.size w w' := by
 have hmn := h.many
 have Xt := h.lt
 have hrl := h.IG
 have II := qd h
 obtain ⟨n, hn⟩ : ∃ n, n = ids.length := ⟨_, rfl⟩
 have HN := qd hn
 have ZP : n ≤ 40 := by omega
 have hmk := Qe n (by omega) w
 have c2 := h.blk.cell 2
 simp only [gl] at c2
 rw [← hn] at c2 ⊢
 have HO := qd (World.ownsRow_made (base := w.heap.size) (e := 3) (size := 1) w (intCells (List.replicate n 0)) n (Nat.le_refl _) (by simp only [maxLen]; omega) (by simp [intCells]))
 have HB := qd ((Below.refl w.heap.size w).alloc (Nat.le_refl _) (.cells (intCells (List.replicate n 0)) 3))
 clear h hn
 unfold oo
 go_in
 go_wp2
 clear hmk c2
 go_loopw [3, 4, 14] (fun v3 _ i wr => ∃ j : Nat, j ≤ n ∧ i = .int .i64 j ∧ wr.ownsRow w.heap.size 3 1 v3 j (dz (ids.take j)) ∧ Below w.heap.size w wr) (fun _ _ i _ => n - (intOf i).toNat)
 case atStart => exact ⟨0, by omega, rfl, by simpa [dz] using HO.out, HB.out⟩
 case round =>
  clear HO HB
  obtain ⟨j, hj, rfl, hO, hB⟩ := hrel
  obtain ⟨A, vc, rfl⟩ := dJ hO
  by_cases hlt : j < n
  ·have hlt' : (j : Int) < (n : Int) := by omega
   have hj0 : (0 : Int) ≤ (j : Int) := by omega
   have hQ := II.out.mod (Mod.of_below hB []) (by simp) (by simp)
   have hnn := HN.out
   obtain ⟨id, hid⟩ : ∃ id, ids[j]? = some id := ⟨_, List.getElem?_eq_getElem (by omega)⟩
   have hrg := hQ.at_ j (by omega)
   rw [List.getD_eq_getElem?_getD (l := ids), hid] at hrg
   have dD := qd (Lr hid)
   have Gm : (first + j) % 40 < 40 := Nat.mod_lt _ (by omega)
   have jw := qd (fun V hV => DY qb rb ring first ids j (by omega) V hV)
   obtain ⟨q, hq⟩ : ∃ q, q = (first + j) % 40 := ⟨_, rfl⟩
   rw [← hq] at hrg Gm jw
   clear hq hid
   unfold oo at jw
   have hq0 : (0 : Int) ≤ (q : Int) := by omega
   have hq1 : (q : Int) < 40 := by omega
   have HQ := qd (hQ)
   have HO := qd (hO)
   have ah := qd (Mod.of_below hB [])
   have HBw := qd hB
   have ady := hB.size
   clear hQ hO hB hnn
   go_upto_region 5 with fail
   have ce := HQ.out.entry Gm
   rw [hrg] at ce
   simp only [Option.getD_some] at ce
   have c0 := HQ.out.blk.cell 0
   simp only [List.getElem?_toArray, List.getElem?_cons_zero] at c0
   refine rT (fun (w' : World) => w'.cell? ⟨qb, 0, none⟩ = some (.slice (some ⟨rb, 0, none⟩) 40 40) ∧ w'.cell? ⟨rb, q, none⟩ = some (nI id)) [] ?_
   have hHeld := (⟨c0, ce⟩ : _ ∧ _)
   refine vW 0 rfl ?_
   refine vW 1 rfl ?_
   refine vW 2 rfl ?_
   refine vW 3 rfl ?_
   refine vT 4 rfl ?_
   refine vW 5 rfl ?_
   refine vW 6 rfl ?_
   refine nT 7 rfl fun K hK => ?_
   go_simp
   refine (jw.out _ (HQ.out.mod (Mod.drewN [] wr 1) (by simp) (by simp))).mono ?_
   rintro y w1 ⟨rfl, hw1⟩
   have hm : Mod [] wr w1 := hw1 ▸ Mod.drewN [] wr 2
   clear hw1 ce c0
   replace HQ := qM hm HQ
   replace HO := qM hm HO
   have z1 := (hm).size
   replace ah := qU ah hm
   clear hm
   have ce := HQ.out.entry Gm
   rw [hrg] at ce
   simp only [Option.getD_some] at ce
   have c0 := HQ.out.blk.cell 0
   simp only [List.getElem?_toArray, List.getElem?_cons_zero] at c0
   go_wp2_with fail
   have hHeld := (⟨c0, ce⟩ : _ ∧ _)
   refine kO hK ?_
   clear hK K
   refine vW 8 rfl ?_
   refine vT 9 rfl ?_
   refine nT 10 rfl fun K hK => ?_
   go_simp
   have q2 := qJ HQ.out.lt (qJ HQ.out.IG ah.out.size)
   refine bW 3 #[nI id] ?_
   rintro w3 ⟨hnew, hb⟩
   obtain ⟨xb, hxb⟩ : ∃ xb, xb = w1.heap.size := ⟨_, rfl⟩
   rw [← hxb] at hnew ⊢
   replace hxb : w1.heap.size ≤ xb := by omega
   clear ce c0
   replace HQ := qB hb HQ
   replace HO := qB hb HO
   have z5 := (hb).size
   replace ah := qT ah hb
   have HX := qd (hnew)
   clear hnew hb
   have ce := HQ.out.entry Gm
   rw [hrg] at ce
   simp only [Option.getD_some] at ce
   have c0 := HQ.out.blk.cell 0
   simp only [List.getElem?_toArray, List.getElem?_cons_zero] at c0
   have hHeld := (⟨c0, ce⟩ : _ ∧ _)
   refine kO hK ?_
   clear hK K
   refine nT 11 rfl fun K hK => ?_
   refine mJ (by rfl) (by rfl) vV HO.out (by rfl) (by rfl) (pK (size := 1) (m := 1) HX.out (by rfl)) (by rfl) (by omega) (by have := ah.out.size; omega) ?_
   intro v4 w4 dB gN
   have hown5 : w4.ownsRow w.heap.size 3 1 v4 (j + 1) (dz (ids.take (j + 1))) := dD.out ▸ dB
   clear dB
   obtain ⟨A4, vc4, rfl⟩ := dJ hown5
   have hb4 := gN.below
   clear HX HO ce c0
   replace HQ := qd (HQ.out.mod (kX hb4) (by simp [List.mem_range'_1] <;> omega) (by simp [List.mem_range'_1] <;> omega))
   have z6 := (hb4).size
   replace ah := qd (ah.out.trans (kX hb4) (fun _ hh _ => hh) (by intro k hk hl; simp [List.mem_range'_1] at hk; omega))
   have HO := qd hown5
   clear hown5 hb4
   have ce := HQ.out.entry Gm
   rw [hrg] at ce
   simp only [Option.getD_some] at ce
   have c0 := HQ.out.blk.cell 0
   simp only [List.getElem?_toArray, List.getElem?_cons_zero] at c0
   have hHeld := (⟨c0, ce⟩ : _ ∧ _)
   refine kO hK ?_
   clear hK K
   refine vW 12 rfl ?_
   refine aT (by kernel_rfl) ?_ _
   have HFin := qd (show Below w.heap.size w w4 from ah.out.below (by intro k hk; simp at hk) (Nat.le_refl _))
   clear hHeld
   go_wp2
   go_roundw
   case rel => exact ⟨j + 1, by omega, by go_num, HO.out, HFin.out⟩
   case measure => simp [intOf]; omega
  ·obtain rfl : j = n := by omega
   have hlt' : ¬ (j : Int) < (j : Int) := by omega
   have HZ := qd (And.intro hO hB)
   have hnn := HN.out
   clear hO hB
   go_wp2
   go_ret
   refine ⟨A, vc, rfl, ?_, HZ.out.2⟩
   have hz := HZ.out.1
   rw [show ids.take j = ids from by rw [hnn]; exact List.take_length] at hz
   rw [← hnn]
   exact hz
end Go.Proofs.YtbphcldoflekpaaGreatDoor
