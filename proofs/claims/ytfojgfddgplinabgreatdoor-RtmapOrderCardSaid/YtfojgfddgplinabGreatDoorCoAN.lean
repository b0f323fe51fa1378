/- A dual's Least by its contract. -/
import Derived.Test.YtfojgfddgplinabGreatDoorCoAK
import Derived.Test.YtfojgfddgplinabGreatDoorSqT
import Derived.Test.YtfojgfddgplinabGreatDoorLaneP
namespace Go.Proofs.YtfojgfddgplinabGreatDoor
set_option maxRecDepth 100000
set_option maxHeartbeats 8000000
open Go.RowKit dG
section
variable {Ts : List aC} {j : Nat} {T : aC}
def qZ (o o2 : Option av) : Option av := match o2 with
 | none => o
 | some e => match o with
  | none => some e
  | some b => if bg e b then some e else some b
def fG (f : av) (Ts : List aC) : Option av := Ts.foldl (fun o T => qZ o (dN f none (aL T.gs))) none
theorem KO (f : av) (h : Ts[j]? = some T) : fG f (Ts.take (j + 1)) = qZ (fG f (Ts.take j)) (dN f none (aL T.gs)) := by
 unfold fG; rw [qm h, List.foldl_append]; rfl
def ru (Ts : List aC) : Nat := (Ts.map fun T => T.gs.length).sum
theorem Rw (h : Ts[j]? = some T) : ru (Ts.take (j + 1)) = ru (Ts.take j) + T.gs.length := by
 unfold ru; rw [qm h, List.map_append, List.sum_append]; simp
theorem Fv {W0 : World} {E : Nat → Addr} (db ob cap : Nat) (A : Option Addr) (fr : List Nat) (hl2 : fr.length ≤ 2) (dep WE mv tk : Value) (bs : List (Nat × Nat)) (Ts : List aC) (P : MP) (x : bI) (c : bF) (hash key : Nat) (w : World) (hblk : aj w db 239 #[.pointer (some ⟨ob, 0, none⟩), dep, WE, .slice A fr.length cap, mv, tk]) (hrd : Reads w w.heap.size 1 A fr.length (ptrs fr)) (hbs : bs.map Prod.fst = fr ++ [ob]) (hts : gK w bs Ts) (rz : ∀ T ∈ Ts, T.gs.length ≤ 64) (hM : aO w P x) (hE : Env W0 E w) (hb0 : W0.heap.size ≤ P.mb) (hbd : ∀ b ∈ bs, P.mb ≠ b.1 ∧ P.mb ≠ b.2) :
  Calls Tryz.prog 134 #[bZ db, aJ (some ⟨P.mb, P.mo, none⟩) c, .int .u64 (hash : Int), .int .u64 (key : Int)] w fun e w' => e = .returned (gI (fG ⟨key, 0, hash⟩ Ts)) ∧ aO w' P (x.add c (ru Ts)) ∧ Mod [P.mb] w w' := by
 obtain ⟨xD, hfr⟩ : ∃ xD : av, xD = ⟨key, 0, hash⟩ := ⟨_, rfl⟩
 rw [← hfr]
 have HFR := qd hfr
 clear hfr
 have hbl : bs.length = fr.length + 1 := by have := congrArg List.length hbs; simpa using this
 have acU := hts.len
 obtain ⟨W, hW, hB, hL, hR, hO⟩ := qX3 w 112 #[.pointer (some ⟨P.mb, P.mo, none⟩), .int .i64 c.p, .int .i64 c.v, .int .i64 c.u] 37 #[.int .u64 0, .int .u64 0, .int .u64 0] 37 #[.int .u64 0, .int .u64 0, .int .u64 0]
 have hml := hM.lt
 have hB0 := hE.size
 have HW := qd hW
 have hbw : ∀ b ∈ bs, b.1 < w.heap.size ∧ b.2 < w.heap.size := fun b hb => by
  obtain ⟨j, hj⟩ := List.getElem?_of_mem hb
  obtain ⟨hlt, _⟩ := List.getElem?_eq_some_iff.1 hj
  have hlt2 : j < Ts.length := by rw [← hts.len]; exact hlt
  have := hts.at_ j b Ts[j] hj (List.getElem?_eq_getElem hlt2)
  exact ⟨this.aT, this.aU⟩
 have Zg := qd (MZ db ob cap A fr hl2 dep WE mv tk W (hblk.below hB hblk.lt) ((hrd.below hB).more hB.size))
 unfold bZ at Zg ⊢
 unfold aJ gI aM
 have dH := qd (hts.mod (Mod.of_below hB []) (by simp))
 have ay := qd (hE.next hB)
 have HM := qd (show aO W P (x.add c (ru (Ts.take 0))) from hM.below hB)
 have HL := qd (hL)
 have HR := qd (hR)
 have HO := qd (show aj W _ _ (vR (fG xD (Ts.take 0))) from hO)
 have ah := qd (Mod.of_below hB [P.mb])
 have z1 := ah.out.size
 obtain ⟨lb, hlb⟩ : ∃ lb, lb = w.heap.size := ⟨_, rfl⟩
 obtain ⟨rb, hrb⟩ : ∃ rb, rb = w.heap.size + 1 := ⟨_, rfl⟩
 obtain ⟨Ic, mX⟩ : ∃ Ic, Ic = w.heap.size + 1 + 1 := ⟨_, rfl⟩
 clear hW hB hblk hrd hM hL hE hR hO hts
 go_in
 go_upto_region 3 with fail
 rw [← HW.out, ← mX, ← hrb, ← hlb]
 rw [← hlb] at HL
 rw [← hrb] at HR
 rw [← mX] at HO
 have n1 : lb < rb := by omega
 have n2 : rb < Ic := by omega
 have n4 : P.mb < lb := by omega
 have n7 : W0.heap.size ≤ lb := by omega
 have n8 : w.heap.size ≤ lb := by omega
 clear hlb hrb mX HW
 have q2 := qJ HM.out.lt (qJ HL.out.lt (qJ HR.out.lt HO.out.lt))
 go_wp2_with fail
 refine (Zg.out).mono ?_
 rintro x w1 ⟨tb, tc, htb, rfl, hrow, hb⟩
 replace dH := qd (dH.out.mod (Mod.of_below hb []) (by simp))
 replace ay := qB hb ay
 replace HM := qB hb HM
 replace HL := qB hb HL
 replace HR := qB hb HR
 replace HO := qB hb HO
 have z6 := (hb).size
 replace ah := qT ah hb
 clear hb
 have HW := qd (hrow)
 clear hrow Zg
 have q7 := qJ HM.out.lt (qJ HL.out.lt (qJ HR.out.lt (qJ HO.out.lt HW.out.lt)))
 go_wp2
 go_loopw [11, 13, 14, 15, 19] (fun v11 _ _ _ i wr => ∃ j : Nat, j ≤ fr.length + 1 ∧ i = .int .i64 j ∧ v11 = .bool (fG xD (Ts.take j)).isSome ∧ aO wr P (x.add c (ru (Ts.take j))) ∧ aj wr Ic 37 (vR (fG xD (Ts.take j))) ∧ gK wr bs Ts ∧ Env W0 E wr ∧ aj wr lb 112 #[.pointer (some ⟨P.mb, P.mo, none⟩), .int .i64 c.p, .int .i64 c.v, .int .i64 c.u] ∧ aj wr rb 37 #[.int .u64 0, .int .u64 0, .int .u64 0] ∧ eF wr tb (fr ++ [ob]) ∧ Mod [P.mb] w wr) (fun _ _ _ _ i _ => (fr.length + 1) - (intOf i).toNat)
 case atStart => exact ⟨0, by omega, rfl, rfl, HM.out, HO.out, dH.out, ay.out, HL.out, HR.out, HW.out, ah.out⟩
 case round =>
  clear HM HO dH ay HL HR HW ah
  obtain ⟨j, hj, rfl, rfl, hM, hO, hTs, hE, hL, hR, hW, hm⟩ := hrel
  by_cases hlt : j < fr.length + 1
  ·have hlt' : (j : Int) < ((fr.length : Int) + 1) := by omega
   have hj0 : (0 : Int) ≤ (j : Int) := by omega
   obtain ⟨b, hb⟩ : ∃ b, bs[j]? = some b := ⟨_, List.getElem?_eq_getElem (by omega)⟩
   obtain ⟨T, hT⟩ : ∃ T, Ts[j]? = some T := ⟨_, List.getElem?_eq_getElem (by omega)⟩
   have nS := List.mem_of_getElem? hb
   have hbb := hbd b nS
   have hrw := hW.at_ j b.1 (by rw [← hbs, List.getElem?_map, hb]; rfl)
   have h64 := rz T (List.mem_of_getElem? hT)
   have dV := qd (KO xD hT)
   have Bv := qd (Rw hT)
   have Dq := qd hb
   have HTi := qd hT
   clear hb hT
   have dH := qd (hTs)
   have HM := qd (hM)
   have ay := qd (hE)
   have HO := qd (hO)
   have HL := qd (hL)
   have HR := qd (hR)
   have HW := qd (hW)
   have ah := qd (hm)
   clear hM hO hTs hE hL hR hW hm
   obtain ⟨o, ho⟩ : ∃ o, o = fG xD (Ts.take j) := ⟨_, rfl⟩
   rw [← ho] at HO dV ⊢
   clear ho
   have lS := qd (Dn b.1 b.2 T P (x.add c (ru (Ts.take j))) c hash key h64 wr (dH.out.at_ j b T Dq.out HTi.out) HM.out ay.out hbb.1 hbb.2 hb0)
   rw [← HFR.out] at lS
   obtain ⟨p, hp⟩ : ∃ p, p = dN xD none (aL T.gs) := ⟨_, rfl⟩
   rw [← hp] at lS dV
   clear hp
   unfold bT aJ gI aM at lS
   go_upto_region 6 with fail
   have lc := HL.out.c4
   go_wp2_with fail
   refine (lS.out).mono ?_
   rintro x w2 ⟨rfl, hM1, hm⟩
   clear hrw lc
   replace dH := qd (dH.out.mod hm (fun b hb => by have hh := hbd b hb; have hh2 := hbw b hb; simp <;> omega))
   replace ay := qM hm ay
   replace HO := qM hm HO
   replace HL := qM hm HL
   replace HR := qM hm HR
   replace HW := qM hm HW
   have z1 := (hm).size
   replace ah := qU ah hm
   clear hm HM lS
   have HM := qd (show aO w2 P (x.add c (ru (Ts.take (j + 1)))) from by rw [Bv.out, ← bI.add_add]; exact hM1)
   clear hM1
   go_upto_region 7 with fail
   cases p with
   | none =>
    have U0 := qJ HO.out.lt (qJ HL.out.lt (qJ HR.out.lt (qJ HW.out.lt (qJ HM.out.lt ah.out.size))))
    refine bY 37 #[.int .u64 0, .int .u64 0, .int .u64 0] ?_
    rintro w3 ⟨hnew, hb⟩
    obtain ⟨xb, hxb⟩ : ∃ xb, xb = w2.heap.size := ⟨_, rfl⟩
    rw [← hxb] at hnew ⊢
    replace hxb : w2.heap.size ≤ xb := by omega
    replace dH := qd (dH.out.mod (Mod.of_below hb []) (by simp))
    replace ay := qB hb ay
    replace HO := qB hb HO
    replace HL := qB hb HL
    replace HR := qB hb HR
    replace HW := qB hb HW
    replace HM := qB hb HM
    have U1 := (hb).size
    replace ah := qT ah hb
    have HX := qd (hnew)
    clear hnew hb
    replace dV := qd (show fG xD (Ts.take (j + 1)) = o from dV.out)
    go_wp2
    go_roundw
    case rel => exact ⟨j + 1, by omega, by go_num, by rw [dV.out] <;> rfl, HM.out, by rw [dV.out]; exact HO.out, dH.out, ay.out, HL.out, HR.out, HW.out, ah.out⟩
    case measure => simp [intOf]; omega
   | some e =>
    cases o with
    | none =>
     have U0 := qJ HO.out.lt (qJ HL.out.lt (qJ HR.out.lt (qJ HW.out.lt (qJ HM.out.lt ah.out.size))))
     refine bY 37 #[.int .u64 ((e).key : Int), .int .u64 ((e).val : Int), .int .u64 ((e).hash : Int)] ?_
     rintro w3 ⟨hnew, hb⟩
     obtain ⟨xb, hxb⟩ : ∃ xb, xb = w2.heap.size := ⟨_, rfl⟩
     rw [← hxb] at hnew ⊢
     replace hxb : w2.heap.size ≤ xb := by omega
     replace dH := qd (dH.out.mod (Mod.of_below hb []) (by simp))
     replace ay := qB hb ay
     replace HO := qB hb HO
     replace HL := qB hb HL
     replace HR := qB hb HR
     replace HW := qB hb HW
     replace HM := qB hb HM
     have U1 := (hb).size
     replace ah := qT ah hb
     have HX := qd (hnew)
     clear hnew hb
     replace HO := qd (show aj w3 Ic 37 #[.int .u64 0, .int .u64 0, .int .u64 0] from HO.out)
     replace dV := qd (show fG xD (Ts.take (j + 1)) = some e from dV.out)
     have xc := HX.out.c3
     have oc := HO.out.c3
     have of := HO.out.f3
     go_upto_region 9 with fail
     have acV := qJ HO.out.lt (qJ HL.out.lt (qJ HR.out.lt (qJ HW.out.lt (qJ HM.out.lt HX.out.lt))))
     refine G5 HO.out ?_
     rintro w6 ⟨hnew, hm⟩
     simp only [pt] at hnew
     replace dH := qd (dH.out.mod hm (fun b hb => by have hh := hbd b hb; have hh2 := hbw b hb; simp <;> omega))
     replace ay := qM hm ay
     replace HL := qM hm HL
     replace HR := qM hm HR
     replace HW := qM hm HW
     replace HM := qM hm HM
     replace HX := qM hm HX
     have acW := (hm).size
     replace ah := qU ah hm
     replace HO := qd hnew
     clear hnew hm
     go_wp2
     go_roundw
     case rel => exact ⟨j + 1, by omega, by go_num, by rw [dV.out] <;> rfl, HM.out, by rw [dV.out]; exact HO.out, dH.out, ay.out, HL.out, HR.out, HW.out, ah.out⟩
     case measure => simp [intOf]; omega
    | some b2 =>
     cases hlb : bg e b2 with
     | true =>
      have U0 := qJ HO.out.lt (qJ HL.out.lt (qJ HR.out.lt (qJ HW.out.lt (qJ HM.out.lt ah.out.size))))
      refine bY 37 #[.int .u64 ((e).key : Int), .int .u64 ((e).val : Int), .int .u64 ((e).hash : Int)] ?_
      rintro w3 ⟨hnew, hb⟩
      obtain ⟨xb, hxb⟩ : ∃ xb, xb = w2.heap.size := ⟨_, rfl⟩
      rw [← hxb] at hnew ⊢
      replace hxb : w2.heap.size ≤ xb := by omega
      replace dH := qd (dH.out.mod (Mod.of_below hb []) (by simp))
      replace ay := qB hb ay
      replace HO := qB hb HO
      replace HL := qB hb HL
      replace HR := qB hb HR
      replace HW := qB hb HW
      replace HM := qB hb HM
      have U1 := (hb).size
      replace ah := qT ah hb
      have HX := qd (hnew)
      clear hnew hb
      replace HO := qd (show aj w3 Ic 37 #[.int .u64 ((b2).key : Int), .int .u64 ((b2).val : Int), .int .u64 ((b2).hash : Int)] from HO.out)
      have Rx := qd (show fG xD (Ts.take (j + 1)) = some e from by rw [dV.out]; show (if bg e b2 then some e else some b2) = _; rw [hlb]; rfl)
      clear dV
      have dV := Rx
      clear Rx
      have vV := qd (fun V : World => jM e b2 V)
      rw [hlb] at vV
      unfold aM at vV
      clear hlb
      have xc := HX.out.c3
      have oc := HO.out.c3
      go_wp2_with fail
      refine ((vV.out w3)).mono ?_
      rintro x w5 ⟨rfl, hb⟩
      clear xc oc
      replace dH := qd (dH.out.mod (Mod.of_below hb []) (by simp))
      replace ay := qB hb ay
      replace HO := qB hb HO
      replace HL := qB hb HL
      replace HR := qB hb HR
      replace HW := qB hb HW
      replace HM := qB hb HM
      replace HX := qB hb HX
      have aa8 := (hb).size
      replace ah := qT ah hb
      clear hb
      have xc := HX.out.c3
      have oc := HO.out.c3
      have of := HO.out.f3
      go_upto_region 9 with fail
      have acX := qJ HO.out.lt (qJ HL.out.lt (qJ HR.out.lt (qJ HW.out.lt (qJ HM.out.lt HX.out.lt))))
      refine G5 HO.out ?_
      rintro w6 ⟨hnew, hm⟩
      simp only [pt] at hnew
      replace dH := qd (dH.out.mod hm (fun b hb => by have hh := hbd b hb; have hh2 := hbw b hb; simp <;> omega))
      replace ay := qM hm ay
      replace HL := qM hm HL
      replace HR := qM hm HR
      replace HW := qM hm HW
      replace HM := qM hm HM
      replace HX := qM hm HX
      have acY := (hm).size
      replace ah := qU ah hm
      replace HO := qd hnew
      clear hnew hm
      go_wp2
      go_roundw
      case rel => exact ⟨j + 1, by omega, by go_num, by rw [dV.out] <;> rfl, HM.out, by rw [dV.out]; exact HO.out, dH.out, ay.out, HL.out, HR.out, HW.out, ah.out⟩
      case measure => simp [intOf]; omega
     | false =>
      have U0 := qJ HO.out.lt (qJ HL.out.lt (qJ HR.out.lt (qJ HW.out.lt (qJ HM.out.lt ah.out.size))))
      refine bY 37 #[.int .u64 ((e).key : Int), .int .u64 ((e).val : Int), .int .u64 ((e).hash : Int)] ?_
      rintro w3 ⟨hnew, hb⟩
      obtain ⟨xb, hxb⟩ : ∃ xb, xb = w2.heap.size := ⟨_, rfl⟩
      rw [← hxb] at hnew ⊢
      replace hxb : w2.heap.size ≤ xb := by omega
      replace dH := qd (dH.out.mod (Mod.of_below hb []) (by simp))
      replace ay := qB hb ay
      replace HO := qB hb HO
      replace HL := qB hb HL
      replace HR := qB hb HR
      replace HW := qB hb HW
      replace HM := qB hb HM
      have U1 := (hb).size
      replace ah := qT ah hb
      have HX := qd (hnew)
      clear hnew hb
      replace HO := qd (show aj w3 Ic 37 #[.int .u64 ((b2).key : Int), .int .u64 ((b2).val : Int), .int .u64 ((b2).hash : Int)] from HO.out)
      have Rx := qd (show fG xD (Ts.take (j + 1)) = some b2 from by rw [dV.out]; show (if bg e b2 then some e else some b2) = _; rw [hlb]; rfl)
      clear dV
      have dV := Rx
      clear Rx
      have vV := qd (fun V : World => jM e b2 V)
      rw [hlb] at vV
      unfold aM at vV
      clear hlb
      have xc := HX.out.c3
      have oc := HO.out.c3
      go_wp2_with fail
      refine ((vV.out w3)).mono ?_
      rintro x w5 ⟨rfl, hb⟩
      clear xc oc
      replace dH := qd (dH.out.mod (Mod.of_below hb []) (by simp))
      replace ay := qB hb ay
      replace HO := qB hb HO
      replace HL := qB hb HL
      replace HR := qB hb HR
      replace HW := qB hb HW
      replace HM := qB hb HM
      replace HX := qB hb HX
      have aa8 := (hb).size
      replace ah := qT ah hb
      clear hb
      go_wp2
      go_roundw
      case rel => exact ⟨j + 1, by omega, by go_num, by rw [dV.out] <;> rfl, HM.out, by rw [dV.out]; exact HO.out, dH.out, ay.out, HL.out, HR.out, HW.out, ah.out⟩
      case measure => simp [intOf]; omega
  ·obtain rfl : j = fr.length + 1 := by omega
   have hlt' : ¬ ((fr.length + 1 : Nat) : Int) < ((fr.length + 1 : Nat) : Int) := by omega
   have htk : Ts.take (fr.length + 1) = Ts := List.take_of_length_le (by omega)
   rw [htk] at hO hM ⊢
   clear htk
   obtain ⟨b, hbe⟩ : ∃ b, b = (fG xD Ts).getD ⟨0, 0, 0⟩ := ⟨_, rfl⟩
   have HM := qd (hM)
   have HO := qd (show aj wr Ic _ #[.int .u64 ((b).key : Int), .int .u64 ((b).val : Int), .int .u64 ((b).hash : Int)] from by rw [hbe]; exact hO)
   have HR := qd (hR)
   have ah := qd (hm)
   have uP := qd hbe
   clear hM hO hTs hE hL hR hW hm hbe
   have oc := HO.out.c3
   have rc := HR.out.c3
   have rf := HR.out.f3
   go_wp2
   have q1 := qJ HM.out.lt (qJ HO.out.lt HR.out.lt)
   refine G5 HR.out ?_
   rintro w9 ⟨hnew, hm⟩
   simp only [pt] at hnew
   replace HM := qM hm HM
   replace HO := qM hm HO
   have z4 := (hm).size
   replace ah := qU ah hm
   replace HR := qd hnew
   clear hnew hm
   have rx := HR.out.c3
   refine bodyPost_ret (v := .tuple #[.agg #[.int .u64 ((b).key : Int), .int .u64 ((b).val : Int), .int .u64 ((b).hash : Int)], .bool (fG xD Ts).isSome]) (by simp [results, Tryz.results134, go_sem, rx.1, rx.2.1, rx.2.2]) rfl ⟨by rw [uP.out], HM.out, ah.out⟩
end
theorem Pm (rb cap : Nat) (ts : List Nat) (hn : 1 ≤ ts.length ∧ ts.length ≤ 2) (w : World) (h : eF w rb ts) :
  Calls Tryz.prog 240 #[.slice (some ⟨rb, 0, none⟩) ts.length cap] w fun e w' => ∃ mY c', w.heap.size ≤ mY ∧ e = .returned (.slice (some ⟨mY, 0, none⟩) ts.length c') ∧ eF w' mY ts ∧ Below w.heap.size w w' := by
 have HR := qd h.reads
 obtain ⟨n1, n2⟩ := hn
 have hnn : (Go.binOp .eql 236 (.slice (some ⟨rb, 0, none⟩) ts.length cap) (.slice none 0 0)).run Tryz.prog w = .ok (.bool false) w := by first | rfl | kernel_rfl | simp [Go.binOp, go_sem]
 clear h
 go_in
 go_wp2_with (at_builtin; refine EW rfl rfl kM (World.ownsRow_lit w #[] 0 (Nat.le_refl _) (by simp) rfl) rfl rfl (HR.out.alloc (Nat.le_refl _) _) (vY ts) (by omega) (by simp) ?_; intro v4 w4 dF hg4)
 rw [Nat.zero_add] at dF
 obtain ⟨A4, c4, rfl⟩ := dB dF
 go_ret
 obtain ⟨mY, rfl, pV, hrow, _⟩ := eF.qK (show w4.ownsRow w.heap.size 137 1 (.slice A4 ts.length c4) ts.length (ptrs ts) from by simpa using dF) (by omega)
 have hB : Below w.heap.size w w4 := ((Below.refl _ _).alloc (Nat.le_refl _) _).trans hg4.below
 first | exact ⟨mY, pV, ⟨_, rfl⟩, hrow, hB⟩ | exact ⟨mY, _, pV, rfl, hrow, hB⟩
theorem U2 (tb rb cap depth : Nat) (ts : List Nat) (hn : 1 ≤ ts.length ∧ ts.length ≤ 2) (hd : depth ≤ 15) (w : World) (h : eF w rb ts) :
  Calls Tryz.prog 237 #[.pointer (some ⟨tb, 0, none⟩), .int .i64 (depth : Int), .slice (some ⟨rb, 0, none⟩) ts.length cap] w fun e w' => ∃ eb vb c2, w.heap.size ≤ eb ∧ w.heap.size ≤ vb ∧ eb ≠ vb ∧ e = .returned (.tuple #[.pointer (some ⟨eb, 0, none⟩), .nilIface]) ∧ kY w' eb tb vb c2 ts depth 0 ∧ Below w.heap.size w w' := by
 obtain ⟨n1, n2⟩ := hn
 have HC := qd (contains_nil rb cap ts n2 w h)
 have HK := qd (Pm rb cap ts ⟨n1, n2⟩ w h)
 have hnl : ts.length = 1 ∨ ts.length = 2 := by omega
 have hd0 : ¬ (depth : Int) < 0 := by omega
 have hd1 : ¬ (depth : Int) > 15 := by omega
 clear h
 obtain ⟨n, hnn⟩ : ∃ n, n = ts.length := ⟨_, rfl⟩
 have Ie := qd hnn
 rw [← hnn] at HC HK hnl n1 n2
 simp only [← hnn]
 clear hnn
 rcases hnl with rfl | rfl
 all_goals
  go_in
  go_wp2_with fail
  refine (HC.out).mono ?_
  rintro y w1 ⟨rfl, rfl⟩
  go_wp2_with fail
  refine (HK.out).mono ?_
  rintro y w2 ⟨vb, c2, hvb, rfl, hrow, hb⟩
  have hvl := hrow.lt
  have HN2 := qd (aj.new w2 268 #[.pointer (some ⟨tb, 0, none⟩), .slice (some ⟨vb, 0, none⟩) ts.length c2, .int .i64 (depth : Int), .int .i64 0])
  have HE := qd (And.intro (hrow.mod (Mod.of_below ((Below.refl w2.heap.size w2).alloc (Nat.le_refl _) (.cells #[.pointer (some ⟨tb, 0, none⟩), .slice (some ⟨vb, 0, none⟩) ts.length c2, .int .i64 (depth : Int), .int .i64 0] 268)) []) (by simp)) (hb.alloc hb.size (.cells #[.pointer (some ⟨tb, 0, none⟩), .slice (some ⟨vb, 0, none⟩) ts.length c2, .int .i64 (depth : Int), .int .i64 0] 268)))
  rw [← Ie.out] at HN2 HE
  have hbs := hb.size
  clear hrow hb
  go_wp2
  refine bodyPost_ret (v := .tuple #[.pointer (some ⟨w2.heap.size, 0, none⟩), .nilIface]) (by simp [results, Tryz.results237, go_sem]) rfl ?_
  have Ig : kY (w2.alloc (.cells #[.pointer (some ⟨tb, 0, none⟩), .slice (some ⟨vb, 0, none⟩) _ c2, .int .i64 (depth : Int), .int .i64 0] 268)) w2.heap.size tb vb c2 ts depth 0 := ⟨by rw [← Ie.out]; exact HN2.out, HE.out.1⟩
  first | exact ⟨w2.heap.size, vb, c2, hbs, hvb, by omega, rfl, Ig, HE.out.2⟩ | exact ⟨w2.heap.size, hbs, vb, hvb, by omega, rfl, c2, Ig, HE.out.2⟩
section
variable {w w' : World} {α : Type} {j n : Nat} {bl : List (Nat × Nat × Nat)}
theorem lg {B : Nat} (h : Below B w w') : Mod (List.range' B (w.heap.size - B)) w w' :=
 ⟨h.os, h.tape, h.output, h.size, fun k hk hn => h.block k (by simp [List.mem_range'_1] at hn; omega)⟩
theorem zI {f : α → List Nat} {l : List α} (h : (l.flatMap f).Nodup) {i : Nat} {a b : α} (hi : l[i]? = some a) (hj : l[j]? = some b) (hne : i ≠ j) : ∀ x ∈ f a, x ∉ f b := by
 obtain ⟨hi', rfl⟩ := List.getElem?_eq_some_iff.1 hi
 obtain ⟨hj', rfl⟩ := List.getElem?_eq_some_iff.1 hj
 have hp := List.pairwise_iff_getElem.1 (List.pairwise_flatMap.1 h).2
 intro x hx hy
 rcases Nat.lt_or_ge i j with hlt | hge
 ·exact hp i j hi' hj' hlt x hx x hy rfl
 ·exact hp j i hj' hi' (by omega) x hy x hx rfl
theorem U3 {f : α → List Nat} {l : List α} (h : (l.flatMap f).Nodup) {a : α} (ha : a ∈ l) : (f a).Nodup := (List.pairwise_flatMap.1 h).1 a ha
structure vZ (w : World) (bl : List (Nat × Nat × Nat)) (n j : Nat) : Prop where
 Fw : ∀ (i : Nat) (b : Nat × Nat × Nat), bl[i]? = some b → j ≤ i → eZ w b.1 b.2.1 b.2.2 n n
 done : ∀ (i : Nat) (b : Nat × Nat × Nat), bl[i]? = some b → i < j → aj w b.1 275 #[.pointer none, .int .i64 (n : Int), .int .i64 (n : Int)]
 tabs : ∀ (i : Nat) (b : Nat × Nat × Nat), bl[i]? = some b → TabAt w b.2.1 b.2.2 (dM n n)
theorem vZ.mod {S : List Nat} (h : vZ w bl n j) (hm : Mod S w w') (hs : ∀ b ∈ bl, b.1 ∉ S ∧ b.2.1 ∉ S ∧ b.2.2 ∉ S) : vZ w' bl n j :=
 ⟨fun i b hb hj => by obtain ⟨h1, h2, h3⟩ := hs b (List.mem_of_getElem? hb); exact (h.Fw i b hb hj).mod hm h1 h2 h3,
  fun i b hb hj => (h.done i b hb hj).mod hm (hs b (List.mem_of_getElem? hb)).1,
  fun i b hb => (h.tabs i b hb).mod hm (hs b (List.mem_of_getElem? hb)).2.1 (hs b (List.mem_of_getElem? hb)).2.2⟩
def bq (b : Nat × Nat × Nat) : List Nat := [b.1, b.2.1, b.2.2]
def gL (bl : List (Nat × Nat × Nat)) : List (Nat × Nat) := bl.map fun b => (b.2.1, b.2.2)
theorem xW : ∀ bl : List (Nat × Nat × Nat), (bl.flatMap bq).Perm (bl.map (fun b => b.1) ++ fD (gL bl))
 | [] => .refl _
 | b :: t => by
  have h := xW t
  have h1 : ((b :: t).flatMap bq) = b.1 :: ([b.2.1, b.2.2] ++ t.flatMap bq) := by simp [bq]
  have h2 : ((b :: t).map (fun b => b.1) ++ fD (gL (b :: t))) = b.1 :: (t.map (fun b => b.1) ++ ([b.2.1, b.2.2] ++ fD (gL t))) := by simp [fD, gL]
  rw [h1, h2]
  refine List.Perm.cons _ ((h.append_left _).trans ?_)
  rw [← List.append_assoc, ← List.append_assoc]
  exact List.perm_append_comm.append_right _
theorem xE {q : Nat} (h : q ∈ bl.map (fun b => b.1) ++ fD (gL bl)) : q ∈ bl.flatMap bq := (xW bl).mem_iff.2 h
theorem Fx (bl : List (Nat × Nat × Nat)) : (gL bl).map Prod.fst = bl.map fun b => b.2.1 := by simp [gL]
theorem vZ.take (h : vZ w bl n j) (hnd : (bl.flatMap bq).Nodup) {b : Nat × Nat × Nat} (hb : bl[j]? = some b) (hk : aj w' b.1 275 #[.pointer none, .int .i64 (n : Int), .int .i64 (n : Int)]) (hm : Mod [b.1] w w') : vZ w' bl n (j + 1) := by
 have ap : ∀ (i : Nat) (c : Nat × Nat × Nat), bl[i]? = some c → i ≠ j → c.1 ≠ b.1 ∧ c.2.1 ≠ b.1 ∧ c.2.2 ≠ b.1 := fun i c hc hne => by
  have hf := zI hnd hc hb hne
  have h1 := hf c.1 (by simp [bq])
  have h2 := hf c.2.1 (by simp [bq])
  have h3 := hf c.2.2 (by simp [bq])
  simp [bq] at h1 h2 h3
  exact ⟨h1.1, h2.1, h3.1⟩
 have hb3 := U3 hnd (List.mem_of_getElem? hb)
 simp [bq] at hb3
 refine ⟨fun i c hc hj => ?_, fun i c hc hj => ?_, fun i c hc => ?_⟩
 ·obtain ⟨h1, h2, h3⟩ := ap i c hc (by omega)
  exact (h.Fw i c hc (by omega)).mod hm (by simpa using h1) (by simpa using h2) (by simpa using h3)
 ·by_cases hij : i = j
  ·subst hij; rw [hb] at hc; cases hc; exact hk
  ·exact (h.done i c hc (by omega)).mod hm (by simpa using (ap i c hc hij).1)
 ·by_cases hij : i = j
  ·subst hij; rw [hb] at hc; cases hc
   exact (h.tabs _ _ hb).mod hm (by simp; omega) (by simp; omega)
  ·obtain ⟨h1, h2, h3⟩ := ap i c hc hij
   exact (h.tabs i c hc).mod hm (by simpa using h2) (by simpa using h3)
theorem vZ.Zh (h : vZ w bl n j) (hnd : (bl.flatMap bq).Nodup) : gK w (gL bl) (List.replicate bl.length (dM n n)) := by
 refine ⟨by simp [gL], fun i b T hb hT => ?_, fun i k b c hb hc hne => ?_⟩
 ·unfold gL at hb
  rw [List.getElem?_map] at hb
  obtain ⟨x, hx, rfl⟩ := Option.map_eq_some_iff.1 hb
  have := List.mem_of_getElem? hT
  rw [(List.mem_replicate.1 this).2]
  exact h.tabs i x hx
 ·unfold gL at hb hc
  rw [List.getElem?_map] at hb hc
  obtain ⟨x, hx, rfl⟩ := Option.map_eq_some_iff.1 hb
  obtain ⟨y, hy, rfl⟩ := Option.map_eq_some_iff.1 hc
  have hf := zI hnd hx hy hne
  have h1 := hf x.2.1 (by simp [bq])
  have h2 := hf x.2.2 (by simp [bq])
  simp [bq] at h1 h2
  exact ⟨h1.2.1, h1.2.2, h2.2.1, h2.2.2⟩
theorem Ry {f : α → Nat} {l : List α} {b : α} (h : l[j]? = some b) : ptrs ((l.take j).map f) ++ [.pointer (some ⟨f b, 0, none⟩)] = ptrs ((l.take (j + 1)).map f) := by
 rw [qm h, List.map_append]; simp [ptrs]
theorem Pn (db rb cap ob og : Nat) (bl : List (Nat × Nat × Nat)) (T : aC) (n depth : Nat) (aaE : 1 ≤ bl.length ∧ bl.length ≤ 2) (WH : depth ≤ 15) (Zi : Pw n) (hnd : (bD db rb ob og bl).Nodup) (w : World) (hblk : aj w db 239 #[.pointer (some ⟨ob, 0, none⟩), .int .i64 (depth : Int), .slice (some ⟨rb, 0, none⟩) bl.length cap, .slice none 0 0, .pointer none, .bool false]) (hrow : eF w rb (bl.map fun b => b.1)) (htab : TabAt w ob og T) (hbl : vZ w bl n 0) :
  Calls Tryz.prog 228 #[bZ db] w fun e w' => e = .returned undef ∧ ∃ fb bU eb vb bX, nV w' db rb cap ob og fb bU eb vb bX (bl.map fun b => b.1) (gL bl) T (List.replicate bl.length (dM n n)) n depth 0 ∧ w.heap.size ≤ fb ∧ w.heap.size ≤ eb ∧ w.heap.size ≤ vb ∧ Mod (bD db rb ob og bl) w w' := by
 obtain ⟨n1, n2⟩ := aaE
 unfold bD at hnd
 simp only [List.nodup_cons, List.mem_cons, not_or] at hnd
 obtain ⟨⟨hd1, hd2, hd3, hd4⟩, ⟨hr1, hr2, hr3⟩, ⟨ho1, ho2⟩, hg1, hnd'⟩ := hnd
 have JG : ∀ b ∈ bl, ∀ q, q = b.1 ∨ q = b.2.1 ∨ q = b.2.2 → q ∈ bl.flatMap fun b => [b.1, b.2.1, b.2.2] := fun b hb q hq => List.mem_flatMap.2 ⟨b, hb, by simpa using hq⟩
 have hne : ∀ b ∈ bl, db ≠ b.1 ∧ db ≠ b.2.1 ∧ db ≠ b.2.2 ∧ rb ≠ b.1 ∧ rb ≠ b.2.1 ∧ rb ≠ b.2.2 ∧ ob ≠ b.1 ∧ ob ≠ b.2.1 ∧ ob ≠ b.2.2 ∧ og ≠ b.1 ∧ og ≠ b.2.1 ∧ og ≠ b.2.2 ∧ b.1 < w.heap.size ∧ b.2.1 < w.heap.size ∧ b.2.2 < w.heap.size := fun b hb => by
  have m1 := JG b hb b.1 (.inl rfl)
  have m2 := JG b hb b.2.1 (.inr (.inl rfl))
  have m3 := JG b hb b.2.2 (.inr (.inr rfl))
  obtain ⟨i, hi⟩ := List.getElem?_of_mem hb
  have hl := hbl.Fw i b hi (Nat.zero_le _)
  exact ⟨fun e => hd4 (e ▸ m1), fun e => hd4 (e ▸ m2), fun e => hd4 (e ▸ m3), fun e => hr3 (e ▸ m1), fun e => hr3 (e ▸ m2), fun e => hr3 (e ▸ m3), fun e => ho2 (e ▸ m1), fun e => ho2 (e ▸ m2), fun e => ho2 (e ▸ m3), fun e => hg1 (e ▸ m1), fun e => hg1 (e ▸ m2), fun e => hg1 (e ▸ m3), hl.lt, hl.aT, hl.aU⟩
 have KP := qd (show (bl.flatMap bq).Nodup from hnd')
 have Bw := qd WH
 have Ih := qd Zi
 clear hnd' JG hd4 hr3 ho2 hg1 WH Zi
 have HD := qd (hblk)
 have HR := qd (hrow)
 have HT := qd (htab)
 have HB := qd (hbl)
 have ah := qd (Mod.refl (bD db rb ob og bl) w)
 have q1 := qJ HD.out.lt (qJ HR.out.lt (qJ HT.out.aT HT.out.aU))
 clear hblk hrow htab hbl
 unfold bZ
 go_in
 have dc := HD.out.c6
 go_wp2
 clear dc
 go_loopw [3, 9] (fun _ i wr => ∃ j : Nat, j ≤ bl.length ∧ i = .int .i64 j ∧ ∃ v, aj wr db 239 #[.pointer (some ⟨ob, 0, none⟩), .int .i64 (depth : Int), .slice (some ⟨rb, 0, none⟩) bl.length cap, v, .pointer none, .bool false] ∧ wr.ownsRow w.heap.size 137 1 v j (ptrs ((bl.take j).map fun b => b.2.1)) ∧ eF wr rb (bl.map fun b => b.1) ∧ TabAt wr ob og T ∧ vZ wr bl n j ∧ Mod (bD db rb ob og bl) w wr) (fun _ i _ => bl.length - (intOf i).toNat)
 case atStart => exact ⟨0, by omega, rfl, _, HD.out, by simpa [ptrs] using World.ownsRow_nil w w.heap.size _ 1, HR.out, HT.out, HB.out, ah.out⟩
 case round =>
  clear HD HR HT HB ah
  obtain ⟨j, hj, rfl, v, hD, hO, hR, hT, hB, hm⟩ := hrel
  obtain ⟨A, vc, rfl⟩ := dB hO
  by_cases hlt : j < bl.length
  ·have hlt' : (j : Int) < (bl.length : Int) := by omega
   have hj0 : (0 : Int) ≤ (j : Int) := by omega
   obtain ⟨b, hb⟩ : ∃ b, bl[j]? = some b := ⟨_, List.getElem?_eq_getElem hlt⟩
   have nS := List.mem_of_getElem? hb
   have hbb := hne b nS
   have hrw := hR.at_ j b.1 (by rw [List.getElem?_map, hb]; rfl)
   have Q9 := qd (Ry (f := fun b : Nat × Nat × Nat => b.2.1) hb)
   have Dq := qd hb
   clear hb
   have HD := qd (hD)
   have HR := qd (hR)
   have HT := qd (hT)
   have HB := qd (hB)
   have HO := qd (hO)
   have ah := qd (hm)
   clear hD hO hR hT hB hm
   have z1 := qJ ah.out.size (qJ HD.out.lt (qJ HR.out.lt (qJ HT.out.aT HT.out.aU)))
   go_upto_region 3 with fail
   have dc := HD.out.c6
   refine rT (fun (w' : World) => w'.cell? ⟨db, 3, none⟩ = some (.slice A j vc)) [14] ?_
   have hHeld := dc.2.2.2.1
   refine vW 0 rfl ?_
   refine vW 1 rfl ?_
   refine vW 2 rfl ?_
   refine vW 3 rfl ?_
   refine vT 4 rfl ?_
   refine vW 5 rfl ?_
   refine nT 6 rfl fun K hK => ?_
   go_simp
   have tL := qd (Pe b.1 b.2.1 b.2.2 n wr.drew (((HB.out.Fw j b Dq.out (Nat.le_refl _)).mod (Mod.drewN [] wr 1) (by simp) (by simp) (by simp))))
   unfold ny bT at tL
   refine (tL.out).mono ?_
   rintro y w1 ⟨rfl, hk1, _, hm⟩
   replace hm : Mod [b.1] wr w1 := (Mod.drewN [b.1] wr 1).then hm
   have hB1 := HB.out.take KP.out Dq.out hk1 hm
   clear tL HB hk1
   have hm0 : Mod (bD db rb ob og bl) wr w1 := hm.more (by intro q hq; simp at hq; subst hq; exact (tO nS).1)
   have Rp := ah
   clear ah
   have ah := qd (Mod.refl [b.1] wr)
   clear hrw dc
   replace HD := qM hm HD
   replace HR := qM hm HR
   replace HT := qM hm HT
   replace HO := qM hm HO
   have z6 := (hm).size
   replace ah := qd (ah.out.trans hm (fun _ hh _ => hh) (by intro k hk hl; simp [bD] at hk ⊢ <;> omega))
   clear ah
   have ah := qd (Rp.out.then hm0)
   clear Rp hm0 hm
   have HB := qd hB1
   clear hB1
   have dc := HD.out.c6
   go_wp2_with fail
   have hHeld := dc.2.2.2.1
   refine kO hK ?_
   clear hK K
   refine vW 7 rfl ?_
   refine vW 8 rfl ?_
   refine nT 9 rfl fun K hK => ?_
   go_simp
   refine (UJ (some ⟨b.2.1, 0, none⟩) w1).mono ?_
   rintro y w2 ⟨rfl, rfl⟩
   go_wp2_with fail
   have hHeld := dc.2.2.2.1
   refine kO hK ?_
   clear hK K
   refine nT 10 rfl fun K hK => ?_
   go_simp
   have q7 := qJ HD.out.lt (qJ HR.out.lt (qJ HT.out.aT (qJ HT.out.aU ah.out.size)))
   refine bY 137 #[.pointer (some ⟨b.2.1, 0, none⟩)] ?_
   rintro w3 ⟨hnew, hb⟩
   obtain ⟨xb, hxb⟩ : ∃ xb, xb = w1.heap.size := ⟨_, rfl⟩
   rw [← hxb] at hnew ⊢
   replace hxb : w1.heap.size ≤ xb := by omega
   clear dc
   replace HD := qB hb HD
   replace HR := qB hb HR
   replace HT := qB hb HT
   replace HO := qB hb HO
   replace HB := qd (HB.out.mod (Mod.of_below hb []) (by simp))
   have z12 := (hb).size
   replace ah := qT ah hb
   have HX := qd (hnew)
   clear hnew hb
   have dc := HD.out.c6
   have xc0 := HX.out.cell 0
   simp only [List.getElem?_toArray, List.getElem?_cons_zero] at xc0
   have hHeld := dc.2.2.2.1
   refine kO hK ?_
   clear hK K
   refine nT 11 rfl fun K hK => ?_
   refine kX (by rfl) (by rfl) kM HO.out (by rfl) (by rfl) (nN (size := 1) (m := 1) HX.out (by rfl)) (by rfl) (by omega) (by have := ah.out.size; omega) ?_
   intro v4 w4 dF gH
   have hown5 : w4.ownsRow w.heap.size 137 1 v4 (j + 1) (ptrs ((bl.take (j + 1)).map fun b => b.2.1)) := Q9.out ▸ dF
   clear dF
   obtain ⟨A4, vc4, rfl⟩ := dB hown5
   have hb4 := gH.below
   clear HX HO dc xc0
   replace HD := qd (HD.out.mod (lg hb4) (by simp [List.mem_range'_1] <;> omega))
   replace HR := qd (HR.out.mod (lg hb4) (by simp [List.mem_range'_1] <;> omega))
   replace HT := qd (HT.out.mod (lg hb4) (by simp [List.mem_range'_1] <;> omega) (by simp [List.mem_range'_1] <;> omega))
   replace HB := qd (HB.out.mod (lg hb4) (fun b hb => by have hh := hne b hb; simp [List.mem_range'_1] <;> omega))
   have z13 := (hb4).size
   replace ah := qd (ah.out.trans (lg hb4) (fun _ hh _ => hh) (by intro k hk hl; simp [List.mem_range'_1] at hk; omega))
   have HO := qd hown5
   clear hown5 hb4
   have dc := HD.out.c6
   have df := HD.out.f6
   have hHeld := dc.2.2.2.1
   refine kO hK ?_
   clear hK K
   refine vW 12 rfl ?_
   refine vW 13 rfl ?_
   refine nT 14 rfl fun K hK => ?_
   go_simp
   refine kO hK ?_
   clear hK K
   refine aS (by kernel_rfl) ?_ _
   have q14 := qJ HD.out.lt (qJ HR.out.lt (qJ HT.out.aT HT.out.aU))
   refine EM HD.out ?_
   rintro w5 ⟨hnew, hm⟩
   simp only [pt] at hnew
   replace HR := qM hm HR
   replace HT := qM hm HT
   replace HB := qd (HB.out.mod hm (fun b hb => by have hh := hne b hb; simp <;> omega))
   replace HO := qM hm HO
   have z18 := (hm).size
   replace ah := qd (ah.out.trans hm (fun _ hh _ => hh) (by intro k hk hl; simp [bD] at hk ⊢ <;> omega))
   replace HD := qd hnew
   clear hnew hm
   go_wp2
   go_roundw
   case rel => exact ⟨j + 1, by omega, by go_num, _, HD.out, HO.out, HR.out, HT.out, HB.out, ah.out⟩
   case measure => simp [intOf]; omega
  ·obtain rfl : j = bl.length := by omega
   have hlt' : ¬ (bl.length : Int) < (bl.length : Int) := by omega
   rw [List.take_length] at hO
   obtain ⟨fb, rfl, uO, hfr, _⟩ := eF.qK hO (by omega)
   have HD := qd (hD)
   have HR := qd (hR)
   have HT := qd (hT)
   have HB := qd (hB)
   have HF := qd (hfr)
   have ah := qd (hm)
   clear hD hO hR hT hB hfr hm
   have z1 := qJ ah.out.size (qJ HD.out.lt (qJ HR.out.lt (qJ HT.out.aT (qJ HT.out.aU HF.out.lt))))
   go_upto_region 5 with fail
   have dc := HD.out.c6
   have Rz := qd (U2 ob fb vc depth (bl.map fun b : Nat × Nat × Nat => b.2.1) (by rw [List.length_map]; exact ⟨n1, n2⟩) Bw.out wr.drew (HF.out.mod (Mod.drewN [] wr 1) (by simp)))
   rw [List.length_map] at Rz
   refine rT (fun (w' : World) => w'.cell? ⟨db, 0, none⟩ = some (.pointer (some ⟨ob, 0, none⟩)) ∧ w'.cell? ⟨db, 1, none⟩ = some (.int .i64 (depth : Int)) ∧ w'.cell? ⟨db, 3, none⟩ = some (.slice (some ⟨fb, 0, none⟩) bl.length vc)) [19] ?_
   have hHeld := (⟨dc.1, dc.2.1, dc.2.2.2.1⟩ : _ ∧ _ ∧ _)
   refine vW 0 rfl ?_
   refine vW 1 rfl ?_
   refine vW 2 rfl ?_
   refine vW 3 rfl ?_
   refine vT 4 rfl ?_
   refine vW 5 rfl ?_
   refine vW 6 rfl ?_
   refine vW 7 rfl ?_
   refine vT 8 rfl ?_
   refine vW 9 rfl ?_
   refine vW 10 rfl ?_
   refine vW 11 rfl ?_
   refine vT 12 rfl ?_
   refine nT 13 rfl fun K hK => ?_
   go_simp
   refine (Rz.out).mono ?_
   rintro y w1 ⟨eb, vb, c2, Ii, hvb, hev, rfl, Ig, hb⟩
   replace hb : Below wr.heap.size wr w1 := bE hb (Below.refl _ _).drew
   replace Ii : wr.heap.size ≤ eb := Ii
   replace hvb : wr.heap.size ≤ vb := hvb
   clear Rz dc
   replace HD := qB hb HD
   replace HR := qB hb HR
   replace HT := qB hb HT
   replace HB := qd (HB.out.mod (Mod.of_below hb []) (by simp))
   replace HF := qB hb HF
   have z7 := (hb).size
   replace ah := qT ah hb
   have HE := qd (Ig)
   clear Ig hb
   have dc := HD.out.c6
   go_wp2_with fail
   have hHeld := (⟨dc.1, dc.2.1, dc.2.2.2.1⟩ : _ ∧ _ ∧ _)
   refine kO hK ?_
   clear hK K
   refine vW 14 rfl ?_
   refine vW 15 rfl ?_
   refine nT 16 rfl fun K hK => ?_
   go_simp
   refine (Rk (some ⟨eb, 0, none⟩) w1).mono ?_
   rintro y w2 ⟨rfl, rfl⟩
   go_wp2_with fail
   have hHeld := (⟨dc.1, dc.2.1, dc.2.2.2.1⟩ : _ ∧ _ ∧ _)
   refine kO hK ?_
   clear hK K
   refine vW 17 rfl ?_
   refine vW 18 rfl ?_
   refine nT 19 rfl fun K hK => ?_
   have dc := HD.out.c6
   have df := HD.out.f6
   go_simp
   refine kO hK ?_
   clear hK K
   refine aS (by kernel_rfl) ?_ _
   have q8 := qJ HD.out.lt (qJ HR.out.lt (qJ HT.out.aT (qJ HT.out.aU (qJ HF.out.lt (qJ HE.out.lt HE.out.oJ)))))
   refine EM HD.out ?_
   rintro w3 ⟨hnew, hm⟩
   simp only [pt] at hnew
   replace HR := qM hm HR
   replace HT := qM hm HT
   replace HB := qd (HB.out.mod hm (fun b hb => by have hh := hne b hb; simp <;> omega))
   replace HF := qM hm HF
   replace HE := qM hm HE
   have z15 := (hm).size
   replace ah := qd (ah.out.trans hm (fun _ hh _ => hh) (by intro k hk hl; simp [bD] at hk ⊢ <;> omega))
   replace HD := qd hnew
   clear hnew hm
   have Zj := KP.out
   have hd4 : ∀ b ∈ bl, _ := hne
   have RA : nV w3 db rb cap ob og fb vc eb vb c2 (bl.map fun b => b.1) (gL bl) T (List.replicate bl.length (dM n n)) n depth 0 := by
    have hlt1 : (bl.map fun b => b.1).length = bl.length := List.length_map ..
    have hlt2 : (gL bl).length = bl.length := List.length_map ..
    refine ⟨by rw [hlt1, hlt2]; exact HD.out, HR.out, fun q hq => ?_, by rw [Fx]; exact HF.out, by rw [Fx]; exact HE.out, HT.out, HB.out.Zh Zj, Ih.out, by rw [hlt2]; exact ⟨n1, n2⟩, by rw [hlt1, hlt2], Bw.out, ?_⟩
    ·obtain ⟨b, hb, rfl⟩ := List.mem_map.1 hq
     obtain ⟨i, hi⟩ := List.getElem?_of_mem hb
     exact HB.out.done i b hi (List.getElem?_eq_some_iff.1 hi).1
    ·have hlow : ∀ q ∈ bl.map (fun b => b.1) ++ fD (gL bl), q < w.heap.size ∧ db ≠ q ∧ rb ≠ q ∧ ob ≠ q ∧ og ≠ q := fun q hq => by
      obtain ⟨b, hb, yV⟩ := List.mem_flatMap.1 (xE hq)
      have hh := hne b hb
      simp [bq] at yV
      rcases yV with rfl | rfl | rfl <;> omega
     unfold aV
     simp only [List.nodup_cons, List.mem_cons, not_or]
     have hz : ∀ q, (q = db ∨ q = rb ∨ q = ob ∨ q = og ∨ w.heap.size ≤ q) → q ∉ bl.map (fun b => b.1) ++ fD (gL bl) := fun q hq hm => by
      have := hlow q hm
      omega
     refine ⟨⟨by omega, by omega, by omega, by omega, by omega, by omega, hz _ (by omega)⟩, ⟨by omega, by omega, by omega, by omega, by omega, hz _ (by omega)⟩, ⟨by omega, by omega, by omega, by omega, hz _ (by omega)⟩, ⟨by omega, by omega, by omega, hz _ (by omega)⟩, ⟨by omega, by omega, hz _ (by omega)⟩, ⟨by omega, hz _ (by omega)⟩, hz _ (by omega), (xW bl).nodup_iff.1 Zj⟩
   go_wp2
   go_end0
   first | exact ⟨rfl, fb, vc, eb, vb, ⟨c2, RA⟩, uO, by omega, by omega, ah.out⟩ | exact ⟨rfl, fb, vc, eb, vb, c2, RA, uO, by omega, by omega, ah.out⟩
end
end Go.Proofs.YtfojgfddgplinabGreatDoor
