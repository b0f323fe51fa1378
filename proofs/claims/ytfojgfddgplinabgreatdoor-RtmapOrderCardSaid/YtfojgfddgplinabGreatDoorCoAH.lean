/- An evacuation's Step by its contract. -/
import Derived.Test.YtfojgfddgplinabGreatDoorCoZ
import Derived.Test.YtfojgfddgplinabGreatDoorSqT
import Derived.Test.YtfojgfddgplinabGreatDoorLaneP
namespace Go.Proofs.YtfojgfddgplinabGreatDoor
set_option maxRecDepth 100000
set_option maxHeartbeats 8000000
open Go.RowKit dG
theorem Ro {W0 : World} {E : Nat → Addr} (eb tb gb vb cap : Nat) (depth next : Nat) (bs : List (Nat × Nat)) (T : aC) (Ts : List aC) (P : MP) (x : bI) (hk : 1 ≤ bs.length ∧ bs.length ≤ 2) (hd : depth ≤ 15) (w : World)
  (h : kY w eb tb vb cap (bs.map Prod.fst) depth next) (ht : TabAt w tb gb T) (hok : lD T) (hn : next < T.gs.length) (hts : gK w bs Ts) (hfit : Fits bs.length depth Ts (bN (T.gs.getD next [])))
  (hM : aO w P x) (hE : Env W0 E w) (hbd : ∀ b ∈ bs, b.1 ∉ [P.mb, eb, vb, tb, gb] ∧ b.2 ∉ [P.mb, eb, vb, tb, gb]) (hmd : P.mb ∉ [eb, vb, tb, gb]) (hed : eb ∉ [vb, tb, gb]) (hvd : vb ∉ [tb, gb])
  (hb0 : W0.heap.size ≤ P.mb) (hb1 : W0.heap.size ≤ tb) (hb2 : W0.heap.size ≤ gb) (hb3 : W0.heap.size ≤ eb) (hb4 : ∀ b ∈ bs, W0.heap.size ≤ b.1 ∧ W0.heap.size ≤ b.2) :
  Calls Tryz.prog 226 #[.pointer (some ⟨eb, 0, none⟩), .pointer (some ⟨P.mb, P.mo, none⟩)] w fun e w' => e = .returned (.bool true) ∧ kY w' eb tb vb cap (bs.map Prod.fst) depth (next + 1) ∧ TabAt w' tb gb (takeN T next 8) ∧
   gK w' bs (dY bs.length depth ((x.add (cU 1) 1).add cV 1, Ts) (bN (T.gs.getD next []))).2 ∧ aO w' P (dY bs.length depth ((x.add (cU 1) 1).add cV 1, Ts) (bN (T.gs.getD next []))).1 ∧ Mod (P.mb :: eb :: tb :: gb :: fD bs) w w' := by
 simp only [List.mem_cons, List.not_mem_nil, or_false, not_or] at hmd hed hvd hbd
 have hml := hM.lt
 have hB0 := hE.size
 have iX := qd (H7 eb tb gb vb cap _ depth next T w h ht (by omega) hok.pow.le)
 have hle := hok.pow.le
 obtain ⟨dn, hdn⟩ : ∃ dn, dn = T.gs.length - next := ⟨_, rfl⟩
 rw [← hdn] at iX
 have hd0 : ¬ (dn : Int) = 0 := by omega
 have hd1 : ¬ dn = 0 := by omega
 obtain ⟨bn, hbn⟩ : ∃ bn, bn = (bs.map Prod.fst).length := ⟨_, rfl⟩
 have hbl : (bs.map Prod.fst).length = bs.length := List.length_map ..
 have H8 := qd hok
 have hbs : ∀ b ∈ bs, b.1 < w.heap.size ∧ b.2 < w.heap.size := fun b hb => by
  obtain ⟨j, hj⟩ := List.getElem?_of_mem hb
  obtain ⟨hlt, _⟩ := List.getElem?_eq_some_iff.1 hj
  have hlt2 : j < Ts.length := by rw [← hts.len]; exact hlt
  have := hts.at_ j b Ts[j] hj (List.getElem?_eq_getElem hlt2)
  exact ⟨this.aT, this.aU⟩
 obtain ⟨es, hes⟩ : ∃ es, es = bN (T.gs.getD next []) := ⟨_, rfl⟩
 rw [← hes] at hfit ⊢
 have WA := qd hes
 clear hes
 have oK := qd hbd
 have HV := qd (h)
 have HT := qd (ht)
 have dH := qd (hts)
 have ay := qd (hE)
 have HM := qd (hM)
 have ah := qd (Mod.refl (P.mb :: eb :: tb :: gb :: fD bs) w)
 have HF := qd hfit
 clear h ht hts hE hM hok hdn hfit
 have q1 := qJ HV.out.lt (qJ HV.out.oJ (qJ HT.out.aT (qJ HT.out.aU HM.out.lt)))
 go_in
 go_upto_region 1 with fail
 go_wp2_with fail
 refine (iX.out).mono ?_
 rintro y w1 ⟨rfl, hw1⟩
 have hm : Mod [] w w1 := hw1 ▸ Mod.drewN [] w 1
 clear hw1 iX
 replace HV := qM hm HV
 replace HT := qM hm HT
 replace dH := qd (dH.out.mod hm (fun b hb => by have hh := hbd b hb; simp <;> omega))
 replace ay := qM hm ay
 replace HM := qM hm HM
 have z6 := (hm).size
 replace ah := qU ah hm
 clear hm
 have HU := qd (qO P.mb P.mt P.pre P.post P.mo _ _ P.m 1 (by omega) w1 HM.out)
 clear HM
 go_wp2_with fail
 refine (HU.out).mono ?_
 rintro x w2 ⟨rfl, hM2, hm⟩
 replace HV := qM hm HV
 replace HT := qM hm HT
 replace dH := qd (dH.out.mod hm (fun b hb => by have hh := hbd b hb; simp <;> omega))
 replace ay := qM hm ay
 have z7 := (hm).size
 replace ah := qU ah hm
 clear hm
 have HM := qd (show aO w2 P (x.add (cU 1) 1) from hM2)
 clear hM2 HU
 go_upto_region 4 with fail
 have Y7 := HV.out.blk
 rw [← hbn] at Y7
 have qo := qd (Y7)
 clear Y7
 have ec := qo.out.c4
 refine rT (fun (w' : World) => w'.cell? ⟨eb, 0, none⟩ = some (.pointer (some ⟨tb, 0, none⟩)) ∧ w'.cell? ⟨eb, 3, none⟩ = some (.int .i64 (next : Int))) [] ?_
 have hHeld := (⟨ec.1, ec.2.2.2⟩ : _ ∧ _)
 refine vW 0 rfl ?_
 refine vW 1 rfl ?_
 refine vW 2 rfl ?_
 refine vT 3 rfl ?_
 refine vW 4 rfl ?_
 refine vW 6 rfl ?_
 refine vW 7 rfl ?_
 refine vW 8 rfl ?_
 refine vT 9 rfl ?_
 refine vW 15 rfl ?_
 refine nT 5 rfl fun K hK => ?_
 go_simp
 refine (uE (some ⟨P.mb, P.mo, none⟩) _).mono ?_
 rintro y w3 ⟨rfl, hb⟩
 replace hb : Below w2.heap.size w2 w3 := bE hb (Below.refl _ _).drew
 unfold aJ
 clear ec
 replace HV := qB hb HV
 replace HT := qB hb HT
 replace dH := qd (dH.out.mod (Mod.of_below hb []) (by simp))
 replace ay := qB hb ay
 replace HM := qB hb HM
 replace qo := qB hb qo
 have z8 := (hb).size
 replace ah := qT ah hb
 clear hb
 have ec := qo.out.c4
 go_wp2_with fail
 have hHeld := (⟨ec.1, ec.2.2.2⟩ : _ ∧ _)
 refine kO hK ?_
 clear hK K
 refine nT 10 rfl fun K hK => ?_
 go_simp
 have tL := qd (Pg tb gb T P (x.add (cU 1) 1) cV next hn H8.out w3 HT.out HM.out ay.out (by omega) (by omega) hb0 hb1 hb2)
 unfold bT aJ cV at tL
 refine (tL.out).mono ?_
 rintro y w4 ⟨A, cc, rfl, vS, Dm, yR, hm⟩
 clear tL HT HM ec
 replace HV := qM hm HV
 replace dH := qd (dH.out.mod hm (fun b hb => by have hh := hbd b hb; simp <;> omega))
 replace ay := qM hm ay
 replace qo := qM hm qo
 have z9 := (hm).size
 replace ah := qU ah hm
 have HT := qd (Dm)
 have HM := qd (yR)
 have eX := qd (vS)
 clear Dm yR vS hm
 have ec := qo.out.c4
 rw [← WA.out] at eX ⊢
 go_wp2_with fail
 have hHeld := (⟨ec.1, ec.2.2.2⟩ : _ ∧ _)
 refine kO hK ?_
 clear hK K
 refine vW 11 rfl ?_
 refine vW 12 rfl ?_
 refine nT 13 rfl fun K hK => ?_
 go_simp
 refine (Rj A es.length cc w4).mono ?_
 rintro y w5 ⟨rfl, rfl⟩
 go_wp2_with fail
 have hHeld := (⟨ec.1, ec.2.2.2⟩ : _ ∧ _)
 refine kO hK ?_
 clear hK K
 refine vW 14 rfl ?_
 refine aS (by kernel_rfl) ?_ _
 have aa0 : es.length ≤ 8 := by have h1 := wW (T.gs.getD next []); have h2 := H8.out.wide.at_ hn; rw [WA.out]; omega
 clear hd0 hd1
 go_wp2
 clear ec qo
 obtain ⟨st0, KF⟩ : ∃ st0 : bI × List aC, st0 = ((x.add (cU 1) 1).add cV 1, Ts) := ⟨_, rfl⟩
 go_loopw [6, 7, 8, 29] (fun _ _ _ i wr => ∃ j : Nat, j ≤ es.length ∧ i = .int .i64 j ∧ kY wr eb tb vb cap (bs.map Prod.fst) depth next ∧ TabAt wr tb gb (takeN T next 8) ∧ gK wr bs (dY bs.length depth st0 (es.take j)).2 ∧ aO wr P (dY bs.length depth st0 (es.take j)).1 ∧ Env W0 E wr ∧ wr.ownsRow w3.heap.size 37 3 (.slice A es.length cc) es.length (es.flatMap aR) ∧ Mod (P.mb :: eb :: tb :: gb :: fD bs) w wr) (fun _ _ _ i _ => es.length - (intOf i).toNat)
 case atStart => exact ⟨0, by omega, rfl, HV.out, HT.out, by rw [KF]; exact dH.out, by rw [KF]; exact HM.out, ay.out, eX.out, ah.out⟩
 case round =>
  clear HV HT dH HM ay eX ah
  obtain ⟨j, hj, rfl, hV, hT, hTs, hM, hE, vS, hm⟩ := hrel
  by_cases hlt : j < es.length
  ·have hlt' : (j : Int) < (es.length : Int) := by omega
   have hj0 : (0 : Int) ≤ (j : Int) := by omega
   obtain ⟨e, he⟩ : ∃ e, es[j]? = some e := ⟨_, List.getElem?_eq_getElem hlt⟩
   obtain ⟨g, rfl, hgb, k0, k1, k2, hjn⟩ := Hy vS he
   have dV := qd (Pf bs.length depth st0 he)
   obtain ⟨T1, hT1, hcp⟩ := NI (x := (x.add (cU 1) 1).add cV 1) HF.out he
   rw [← KF] at hT1
   clear he hjn
   obtain ⟨st, hst⟩ : ∃ st, st = dY bs.length depth st0 (es.take j) := ⟨_, rfl⟩
   rw [← hst] at hTs hM dV hT1
   clear hst
   obtain ⟨sd, hsd⟩ : ∃ sd, sd = dx bs.length depth e.hash := ⟨_, rfl⟩
   have HSd := qd hsd
   rw [← hsd] at hT1
   clear hsd
   obtain ⟨b, hb⟩ : ∃ b, bs[sd]? = some b := ⟨_, List.getElem?_eq_getElem (by rw [hTs.len]; exact (List.getElem?_eq_some_iff.1 hT1).1)⟩
   have nS := List.mem_of_getElem? hb
   have hbb := hbd b nS
   have acy := hbs b nS
   have acz := hb4 b nS
   have Dq := qd hb
   have HT1 := qd hT1
   have jX := qd hcp
   clear hb hT1 hcp
   have HV := qd (hV)
   have HT := qd (hT)
   have dH := qd (hTs)
   have HM := qd (hM)
   have ay := qd (hE)
   have eX := qd (vS)
   have ah := qd (hm)
   clear hV hT hTs hM hE vS hm
   have NJ := qd (fun (V : World) (hV : kY V eb tb vb cap (bs.map Prod.fst) depth next) => Dp eb tb vb cap (bs.map Prod.fst) depth next e.hash b.1 (by rw [List.length_map]; exact hk) hd jX.out.h64 (by rw [List.length_map, ← HSd.out, List.getElem?_map, Dq.out]; rfl) V hV)
   unfold bT at NJ
   go_upto_region 7 with fail
   have q1 := qJ HV.out.lt (qJ HV.out.oJ (qJ HT.out.aT (qJ HT.out.aU (qJ HM.out.lt ah.out.size))))
   refine bY 37 #[.int .u64 (e.key : Int), .int .u64 (e.val : Int), .int .u64 (e.hash : Int)] ?_
   rintro w6 ⟨hnew, hb⟩
   obtain ⟨xb, hxb⟩ : ∃ xb, xb = wr.heap.size := ⟨_, rfl⟩
   rw [← hxb] at hnew ⊢
   replace hxb : wr.heap.size ≤ xb := by omega
   clear k0 k1 k2
   replace HV := qB hb HV
   replace HT := qB hb HT
   replace dH := qd (dH.out.mod (Mod.of_below hb []) (by simp))
   replace HM := qB hb HM
   replace ay := qB hb ay
   replace eX := qB hb eX
   have z7 := (hb).size
   replace ah := qT ah hb
   have HX := qd (hnew)
   clear hnew hb
   have xc := HX.out.c3
   obtain ⟨i, s, hfr⟩ := jX.out.free
   have Kz := qd hfr
   clear hfr
   refine rT (fun (w' : World) => w'.cell? ⟨xb, 0, none⟩ = some (.int .u64 (e.key : Int)) ∧ w'.cell? ⟨xb, 1, none⟩ = some (.int .u64 (e.val : Int)) ∧ w'.cell? ⟨xb, 2, none⟩ = some (.int .u64 (e.hash : Int))) [] ?_
   have hHeld := (⟨xc.1, xc.2.1, xc.2.2⟩ : _ ∧ _ ∧ _)
   refine vW 0 rfl ?_
   refine vW 1 rfl ?_
   refine vT 2 rfl ?_
   refine vW 4 rfl ?_
   refine vT 6 rfl ?_
   refine nT 3 rfl fun K hK => ?_
   go_simp
   refine (NJ.out _ (HV.out.mod (Mod.drewN [] w6 1) (by simp) (by simp))).mono ?_
   rintro y w7 ⟨rfl, hb⟩
   replace hb : Below w6.heap.size w6 w7 := bE hb (Below.refl _ _).drew
   clear xc
   replace HV := qB hb HV
   replace HT := qB hb HT
   replace dH := qd (dH.out.mod (Mod.of_below hb []) (by simp))
   replace HM := qB hb HM
   replace ay := qB hb ay
   replace eX := qB hb eX
   replace HX := qB hb HX
   have z8 := (hb).size
   replace ah := qT ah hb
   clear hb
   have xc := HX.out.c3
   go_wp2_with fail
   have hHeld := (⟨xc.1, xc.2.1, xc.2.2⟩ : _ ∧ _ ∧ _)
   refine kO hK ?_
   clear hK K
   refine nT 5 rfl fun K hK => ?_
   go_simp
   refine (uE (some ⟨P.mb, P.mo, none⟩) _).mono ?_
   rintro y w8 ⟨rfl, hb⟩
   unfold aJ
   clear xc
   replace HV := qB hb HV
   replace HT := qB hb HT
   replace dH := qd (dH.out.mod (Mod.of_below hb []) (by simp))
   replace HM := qB hb HM
   replace ay := qB hb ay
   replace eX := qB hb eX
   replace HX := qB hb HX
   have z9 := (hb).size
   replace ah := qT ah hb
   clear hb
   have xc := HX.out.c3
   go_wp2_with fail
   have hHeld := (⟨xc.1, xc.2.1, xc.2.2⟩ : _ ∧ _ ∧ _)
   refine kO hK ?_
   clear hK K
   refine nT 7 rfl fun K hK => ?_
   go_simp
   have H9 := qd (Jd b.1 b.2 T1 P.mb P.mt P.pre P.post P.mo st.1.all st.1.last P.m cV e w8 (dH.out.at_ sd b T1 Dq.out HT1.out) jX.out.ok.pow jX.out.h64 HM.out (by omega) (by omega) ay.out.tz (by have := ay.out.O8; omega) jX.out.none_ i s Kz.out jX.out.ok.small jX.out.room)
   unfold bT aJ aM cV at H9
   refine (H9.out).mono ?_
   rintro y w9 ⟨rfl, hT9, hM9, hm⟩
   clear H9 HM
   have Y8 := dH.out.ak Dq.out hT9 hm (by intro q hq; simp at hq; rcases hq with rfl | rfl | rfl; exact .inr (.inr (fun c hc => by have := hbd c hc; omega)); exact .inl rfl; exact .inr (.inl rfl))
   clear dH hT9
   have hm0 : Mod (P.mb :: eb :: tb :: gb :: fD bs) w8 w9 := hm.more (by intro q hq; simp at hq; rcases hq with rfl | rfl | rfl; simp; simp [dK]; exact .inr (.inr (.inr (.inr ⟨_, _, nS, .inl rfl⟩))); simp [dK]; exact .inr (.inr (.inr (.inr ⟨_, _, nS, .inr rfl⟩))))
   have Rp := ah
   clear ah
   have ah := qd (Mod.refl [P.mb, b.1, b.2] w8)
   clear xc
   replace HV := qM hm HV
   replace HT := qM hm HT
   replace ay := qM hm ay
   replace eX := qM hm eX
   replace HX := qM hm HX
   have Y5 := (hm).size
   replace ah := qU ah hm
   clear ah
   have ah := qd (Rp.out.then hm0)
   clear Rp hm0 hm
   have dH := qd (Y8)
   have HM := qd (show aO w9 P (st.1.add cV (aH T1.gs e.key e.hash).2.2) from hM9)
   clear Y8 hM9
   have xc := HX.out.c3
   go_wp2_with fail
   have hHeld := (⟨xc.1, xc.2.1, xc.2.2⟩ : _ ∧ _ ∧ _)
   refine kO hK ?_
   clear hK K
   refine vW 8 rfl ?_
   refine vW 9 rfl ?_
   refine vW 10 rfl ?_
   refine vW 11 rfl ?_
   refine vW 12 rfl ?_
   refine aS (by kernel_rfl) ?_ _
   have hgd : st.2.getD sd noT = T1 := by rw [List.getD_eq_getElem?_getD, HT1.out]; rfl
   have jl := qd (show dY bs.length depth st0 (es.take (j + 1)) = (st.1.add cV (aH T1.gs e.key e.hash).2.2, st.2.set sd (jk T1 i s e)) from by rw [dV.out]; unfold sF; rw [← HSd.out, hgd]; unfold Bu; rw [Kz.out])
   clear hgd
   have KG := qd (Bt w9)
   go_wp2_with fail
   refine (KG.out).mono ?_
   rintro y w10 ⟨rfl, rfl⟩
   clear xc
   go_wp2
   go_roundw
   case rel => exact ⟨j + 1, by omega, by go_num, HV.out, HT.out, by rw [jl.out]; exact dH.out, by rw [jl.out]; exact HM.out, ay.out, eX.out, ah.out⟩
   case measure => simp [intOf]; omega
  ·obtain rfl : j = es.length := by omega
   have hlt' : ¬ (es.length : Int) < (es.length : Int) := by omega
   rw [List.take_length] at hTs hM
   have qo := qd (hV.blk)
   have HW := qd (hV.row)
   have HT := qd (hT)
   have dH := qd (hTs)
   have HM := qd (hM)
   have ah := qd (hm)
   clear hV hT hTs hM hE vS hm
   have q1 := qJ qo.out.lt (qJ HW.out.lt (qJ HT.out.aT (qJ HT.out.aU HM.out.lt)))
   have ec := qo.out.c4
   have ef := qo.out.f4
   go_upto_region 11 with fail
   have q6 := qJ qo.out.lt (qJ HW.out.lt (qJ HT.out.aT (qJ HT.out.aU HM.out.lt)))
   refine EM qo.out ?_
   rintro WB ⟨hnew, hm⟩
   simp only [pt] at hnew
   clear ec ef
   replace HW := qM hm HW
   replace HT := qM hm HT
   replace dH := qd (dH.out.mod hm (fun b hb => by have hh := hbd b hb; simp <;> omega))
   replace HM := qM hm HM
   have z11 := (hm).size
   replace ah := qU ah hm
   replace qo := qd hnew
   clear hnew hm
   go_wp2
   go_ret
   exact ⟨rfl, ⟨qo.out, HW.out⟩, HT.out, by rw [← KF]; exact dH.out, by rw [← KF]; exact HM.out, ah.out⟩
section
def oL (n k i : Nat) : Nat := min n (k - i * n)
def bD (db rb ob og : Nat) (bl : List (Nat × Nat × Nat)) : List Nat := db :: rb :: ob :: og :: bl.flatMap fun b => [b.1, b.2.1, b.2.2]
structure tN (w : World) (db rb cap ob og : Nat) (bl : List (Nat × Nat × Nat)) (T : aC) (n depth k : Nat) : Prop where
 blk : aj w db 239 #[.pointer (some ⟨ob, 0, none⟩), .int .i64 (depth : Int), .slice (some ⟨rb, 0, none⟩) bl.length cap, .slice none 0 0, .pointer none, .bool false]
 row : eF w rb (bl.map fun b => b.1)
 oQ : ∀ (i : Nat) (b : Nat × Nat × Nat), bl[i]? = some b → eZ w b.1 b.2.1 b.2.2 n (oL n k i)
 tab : TabAt w ob og T
 pow : Pw n
 many : 1 ≤ bl.length ∧ bl.length ≤ 2
 lt : k < n * bl.length
 deep : depth ≤ 15
 nd : (bD db rb ob og bl).Nodup
def aV (db rb fb eb vb ob og : Nat) (bH : List Nat) (bs : List (Nat × Nat)) : List Nat := db :: rb :: fb :: eb :: vb :: ob :: og :: (bH ++ fD bs)
structure nV (w : World) (db rb cap ob og fb bU eb vb bX : Nat) (bH : List Nat) (bs : List (Nat × Nat)) (T : aC) (Ts : List aC) (n depth next : Nat) : Prop where
 blk : aj w db 239 #[.pointer (some ⟨ob, 0, none⟩), .int .i64 (depth : Int), .slice (some ⟨rb, 0, none⟩) bH.length cap, .slice (some ⟨fb, 0, none⟩) bs.length bU, .pointer (some ⟨eb, 0, none⟩), .bool false]
 row : eF w rb bH
 oQ : ∀ b ∈ bH, aj w b 275 #[.pointer none, .int .i64 (n : Int), .int .i64 (n : Int)]
 fresh : eF w fb (bs.map Prod.fst)
 ev : kY w eb ob vb bX (bs.map Prod.fst) depth next
 tab : TabAt w ob og T
 tabs : gK w bs Ts
 pow : Pw n
 many : 1 ≤ bs.length ∧ bs.length ≤ 2
 eq : bH.length = bs.length
 deep : depth ≤ 15
 nd : (aV db rb fb eb vb ob og bH bs).Nodup
section
variable {w w' : World} {db rb cap ob og fb bU eb vb bX : Nat} {bl : List (Nat × Nat × Nat)} {bH : List Nat} {bs : List (Nat × Nat)} {T : aC} {Ts : List aC} {n depth k next : Nat}
theorem tO {b : Nat × Nat × Nat} (h : b ∈ bl) : b.1 ∈ bD db rb ob og bl ∧ b.2.1 ∈ bD db rb ob og bl ∧ b.2.2 ∈ bD db rb ob og bl := by
 have h0 : ∀ q ∈ [b.1, b.2.1, b.2.2], q ∈ bl.flatMap fun b => [b.1, b.2.1, b.2.2] := fun q hq => List.mem_flatMap.2 ⟨b, h, hq⟩
 have h1 := h0 b.1 (by simp)
 have h2 := h0 b.2.1 (by simp)
 have h3 := h0 b.2.2 (by simp)
 unfold bD
 simp only [List.mem_cons]
 exact ⟨.inr (.inr (.inr (.inr h1))), .inr (.inr (.inr (.inr h2))), .inr (.inr (.inr (.inr h3)))⟩
theorem tN.mod {S : List Nat} (h : tN w db rb cap ob og bl T n depth k) (hm : Mod S w w') (hs : ∀ q ∈ bD db rb ob og bl, q ∉ S) : tN w' db rb cap ob og bl T n depth k :=
 ⟨h.blk.mod hm (hs _ (by simp [bD])), h.row.mod hm (hs _ (by simp [bD])), fun i b hb => by
  obtain ⟨h1, h2, h3⟩ := tO (db := db) (rb := rb) (ob := ob) (og := og) (List.mem_of_getElem? hb)
  exact (h.oQ i b hb).mod hm (hs _ h1) (hs _ h2) (hs _ h3),
  h.tab.mod hm (hs _ (by simp [bD])) (hs _ (by simp [bD])), h.pow, h.many, h.lt, h.deep, h.nd⟩
theorem nV.mod {S : List Nat} (h : nV w db rb cap ob og fb bU eb vb bX bH bs T Ts n depth next) (hm : Mod S w w') (hs : ∀ q ∈ aV db rb fb eb vb ob og bH bs, q ∉ S) : nV w' db rb cap ob og fb bU eb vb bX bH bs T Ts n depth next :=
 ⟨h.blk.mod hm (hs _ (by simp [aV])), h.row.mod hm (hs _ (by simp [aV])), fun b hb => (h.oQ b hb).mod hm (hs _ (by unfold aV; simp [hb])), h.fresh.mod hm (hs _ (by simp [aV])),
  h.ev.mod hm (hs _ (by simp [aV])) (hs _ (by simp [aV])), h.tab.mod hm (hs _ (by simp [aV])) (hs _ (by simp [aV])),
  h.tabs.mod hm (fun b hb => ⟨hs _ (by unfold aV; simp [dK]; exact .inr (.inr (.inr (.inr (.inr (.inr (.inr (.inr ⟨_, _, hb, .inl rfl⟩)))))))), hs _ (by unfold aV; simp [dK]; exact .inr (.inr (.inr (.inr (.inr (.inr (.inr (.inr ⟨_, _, hb, .inr rfl⟩))))))))⟩), h.pow, h.many, h.eq, h.deep, h.nd⟩
end
def bZ (db : Nat) : Value := .pointer (some ⟨db, 0, none⟩)
def qp (n k : Nat) : Nat → Nat
 | 0 => 0
 | j + 1 => qp n k j + (n - oL n k j)
theorem zH (n k : Nat) : ∀ j, qp n k j = n * j - min k (n * j)
 | 0 => by simp [qp]
 | j + 1 => by
  have h1 := zH n k j
  unfold qp oL
  rw [h1, Nat.mul_comm j n, Nat.mul_succ]
  generalize n * j = m
  omega
theorem uF (db : Nat) (w : World) (h : w.cell? ⟨db, 3, none⟩ = some (.slice none 0 0)) :
  Calls Tryz.prog 142 #[bZ db] w fun e w' => e = .returned (.bool false) ∧ w = w' := by
 unfold bZ
 go_in
 go_wp2
 go_ret
 exact ⟨rfl, rfl⟩
theorem sG (db fb fn bU : Nat) (w : World) (h : w.cell? ⟨db, 3, none⟩ = some (.slice (some ⟨fb, 0, none⟩) fn bU)) :
  Calls Tryz.prog 142 #[bZ db] w fun e w' => e = .returned (.bool true) ∧ w = w' := by
 unfold bZ
 go_in
 go_wp2
 go_ret
 exact ⟨rfl, rfl⟩
theorem Jg (db rb cap ob og : Nat) (bl : List (Nat × Nat × Nat)) (T : aC) (n depth k : Nat) (w : World) (h : tN w db rb cap ob og bl T n depth k) (hgl : T.gs.length ≤ 64) :
  Calls Tryz.prog 188 #[bZ db] w fun e w' => e = .returned (.int .i64 ((T.gs.length + (n * bl.length - k) : Nat) : Int)) ∧ Below w.heap.size w w' := by
 have acA := h.lt
 have HB := qd (h.blk)
 have HR := qd (h.row)
 have HT := qd (h.tab)
 have ah := qd (Mod.refl [] w)
 obtain ⟨many1, abP⟩ := h.many
 have yU := qd (show ∀ V, Below w.heap.size w V → ∀ (i : Nat) (b : Nat × Nat × Nat), bl[i]? = some b → eZ V b.1 b.2.1 b.2.2 n (oL n k i) from fun V hV i b hb => (h.oQ i b hb).mod (Mod.of_below hV []) (by simp) (by simp) (by simp))
 have Us := h.pow.le
 clear h
 obtain ⟨g0, hg0⟩ : ∃ g0, g0 = T.gs.length := ⟨_, rfl⟩
 rw [← hg0] at hgl ⊢
 unfold bZ
 have bc := HB.out.c6
 have mq := qd (uF db w bc.2.2.2.1)
 unfold bZ at mq
 have HG := qd (qQ ob og T w HT.out)
 rw [← hg0] at HG
 unfold bT at HG
 clear hg0
 go_in
 go_wp2_with fail
 refine (mq.out).mono ?_
 rintro y w1 ⟨rfl, rfl⟩
 clear mq
 go_wp2_with fail
 refine (HG.out).mono ?_
 rintro y w1 ⟨rfl, rfl⟩
 clear HG
 go_wp2
 clear bc
 have UK := HR
 clear HB HR HT ah
 go_loopw [3, 5, 23] (fun v3 _ i wr => ∃ j : Nat, j ≤ bl.length ∧ i = .int .i64 j ∧ v3 = .int .i64 ((g0 + qp n k j : Nat) : Int) ∧ Below w.heap.size w wr) (fun _ _ i _ => bl.length - (intOf i).toNat)
 case atStart => exact ⟨0, by omega, rfl, by simp [qp], Below.refl _ _⟩
 case round =>
  obtain ⟨j, hj, rfl, rfl, hm⟩ := hrel
  by_cases hlt : j < bl.length
  ·have hlt' : (j : Int) < (bl.length : Int) := by omega
   have hj0 : (0 : Int) ≤ (j : Int) := by omega
   obtain ⟨b, hb⟩ : ∃ b, bl[j]? = some b := ⟨_, List.getElem?_eq_getElem hlt⟩
   have hbl := yU.out wr hm j b hb
   have hc := (UK.out.mod (Mod.of_below hm []) (by simp)).at_ j b.1 (by rw [List.getElem?_map, hb]; rfl)
   have hkl : oL n k j ≤ n := Nat.min_le_left _ _
   have hsl : qp n k j ≤ 128 := by rw [zH]; have : n * j ≤ 64 * 2 := Nat.mul_le_mul Us (by omega); omega
   have HC := qd (qX b.1 n (oL n k j) _ wr hkl Us hbl.blk)
   unfold ny at HC
   have Hm := qd hm
   clear hm hb hbl
   go_wp2_with fail
   refine (HC.out).mono ?_
   rintro y w2 ⟨rfl, hw2⟩
   have Rf := qd (show Below w.heap.size w w2 from by rw [← hw2]; exact Hm.out.trans ((Below.refl _ _).drew.mono Hm.out.size))
   clear hw2
   go_wp2
   go_roundw
   case rel => exact ⟨j + 1, by omega, by go_num, by first | go_num | (simp [qp]; omega), Rf.out⟩
   case measure => simp [intOf]; omega
  ·obtain rfl : j = bl.length := by omega
   have hlt' : ¬ (bl.length : Int) < (bl.length : Int) := by omega
   go_wp2
   go_ret
   exact ⟨gF (by have := zH n k bl.length; omega), hm⟩
theorem pJ (db rb cap ob og fb bU eb vb bX : Nat) (bH : List Nat) (bs : List (Nat × Nat)) (T : aC) (Ts : List aC) (n depth next : Nat) (w : World) (h : nV w db rb cap ob og fb bU eb vb bX bH bs T Ts n depth next) (hgl : T.gs.length ≤ 64) (hnx : next ≤ T.gs.length) :
  Calls Tryz.prog 188 #[bZ db] w fun e w' => e = .returned (.int .i64 ((T.gs.length - next : Nat) : Int)) ∧ w.drew = w' := by
 have bc3 := h.blk.cell 3
 have Y9 := h.blk.cell 4
 simp only [gl] at bc3 Y9
 have mq := qd (sG db fb bs.length bU w bc3)
 have HL := qd (H7 eb ob og vb bX _ depth next T w h.ev h.tab hnx hgl)
 unfold bZ at mq ⊢
 clear h
 go_in
 go_wp2_with fail
 refine (mq.out).mono ?_
 rintro y w1 ⟨rfl, rfl⟩
 go_wp2_with fail
 refine (HL.out).mono ?_
 rintro y w1 ⟨rfl, rfl⟩
 go_wp2
 go_ret
 exact ⟨rfl, rfl⟩
end
end Go.Proofs.YtfojgfddgplinabGreatDoor
