/- An evacuation's Step by its contract. -/
import Derived.Test.YtbphcldoflekpaaGreatDoorCoZ
import Derived.Test.YtbphcldoflekpaaGreatDoorSqT
import Derived.Test.YtbphcldoflekpaaGreatDoorLaneP
namespace Go.Proofs.YtbphcldoflekpaaGreatDoor
set_option maxRecDepth 100000
set_option maxHeartbeats 8000000
open Go.RowKit dA
theorem RX {W0 : World} {E : Nat → Addr} (eb tb gb vb cap : Nat) (depth next : Nat) (bs : List (Nat × Nat)) (T : aB) (Ts : List aB) (P : MP) (x : bM) (hk : 1 ≤ bs.length ∧ bs.length ≤ 2) (hd : depth ≤ 15) (w : World)
  (h : kV w eb tb vb cap (bs.map Prod.fst) depth next) (ht : TabAt w tb gb T) (hok : lC T) (hn : next < T.gs.length) (hts : gQ w bs Ts) (hfit : Fits bs.length depth Ts (bT (T.gs.getD next [])))
  (hM : aN w P x) (hE : Env W0 E w) (hbd : ∀ b ∈ bs, b.1 ∉ [P.mb, eb, vb, tb, gb] ∧ b.2 ∉ [P.mb, eb, vb, tb, gb]) (hmd : P.mb ∉ [eb, vb, tb, gb]) (hed : eb ∉ [vb, tb, gb]) (hvd : vb ∉ [tb, gb])
  (hb0 : W0.heap.size ≤ P.mb) (hb1 : W0.heap.size ≤ tb) (hb2 : W0.heap.size ≤ gb) (hb3 : W0.heap.size ≤ eb) (hb4 : ∀ b ∈ bs, W0.heap.size ≤ b.1 ∧ W0.heap.size ≤ b.2) :
  Calls Tryz.prog 239 #[pQ eb, .pointer (some ⟨P.mb, P.mo, none⟩)] w fun e w' => e = .returned (.bool true) ∧ kV w' eb tb vb cap (bs.map Prod.fst) depth (next + 1) ∧ TabAt w' tb gb (takeN T next 8) ∧
   gQ w' bs (dZ bs.length depth ((x.add (cU 1) 1).add cV 1, Ts) (bT (T.gs.getD next []))).2 ∧ aN w' P (dZ bs.length depth ((x.add (cU 1) 1).add cV 1, Ts) (bT (T.gs.getD next []))).1 ∧ Mod (P.mb :: eb :: tb :: gb :: fM bs) w w' := by
 simp only [List.mem_cons, List.not_mem_nil, or_false, not_or] at hmd hed hvd hbd
 have hml := hM.lt
 have hB0 := hE.size
 have iY := qd (H9 eb tb gb vb cap _ depth next T w h ht (by omega) hok.pow.le)
 have hle := hok.pow.le
 obtain ⟨dn, hdn⟩ : ∃ dn, dn = T.gs.length - next := ⟨_, rfl⟩
 rw [← hdn] at iY
 have hd0 : ¬ (dn : Int) = 0 := by omega
 have hd1 : ¬ dn = 0 := by omega
 obtain ⟨bn, hbn⟩ : ∃ bn, bn = (bs.map Prod.fst).length := ⟨_, rfl⟩
 have hbl : (bs.map Prod.fst).length = bs.length := List.length_map ..
 have Bd := qd hok
 have hbs : ∀ b ∈ bs, b.1 < w.heap.size ∧ b.2 < w.heap.size := fun b hb => by
  obtain ⟨j, hj⟩ := List.getElem?_of_mem hb
  obtain ⟨hlt, _⟩ := List.getElem?_eq_some_iff.1 hj
  have hlt2 : j < Ts.length := by rw [← hts.len]; exact hlt
  have := hts.at_ j b Ts[j] hj (List.getElem?_eq_getElem hlt2)
  exact ⟨this.aQ, this.aR⟩
 obtain ⟨es, hes⟩ : ∃ es, es = bT (T.gs.getD next []) := ⟨_, rfl⟩
 rw [← hes] at hfit ⊢
 have Xi := qd hes
 clear hes
 have mV := qd hbd
 have HV := qd (h)
 have HT := qd (ht)
 have dG := qd (hts)
 have ay := qd (hE)
 have HM := qd (hM)
 have ah := qd (Mod.refl (P.mb :: eb :: tb :: gb :: fM bs) w)
 have HF := qd hfit
 clear h ht hts hE hM hok hdn hfit
 have q1 := qJ HV.out.lt (qJ HV.out.oh (qJ HT.out.aQ (qJ HT.out.aR HM.out.lt)))
 go_in
 go_upto_region 1 with fail
 go_wp2_with fail
 refine (iY.out).mono ?_
 rintro y w1 ⟨rfl, hw1⟩
 have hm : Mod [] w w1 := hw1 ▸ Mod.drewN [] w 1
 clear hw1 iY
 replace HV := qM hm HV
 replace HT := qM hm HT
 replace dG := qd (dG.out.mod hm (fun b hb => by have hh := hbd b hb; simp <;> omega))
 replace ay := qM hm ay
 replace HM := qM hm HM
 have z6 := (hm).size
 replace ah := qU ah hm
 clear hm
 have HU := qd (qz P.mb P.mt P.pre P.post P.mo _ _ P.m 1 (by omega) w1 HM.out)
 clear HM
 go_wp2_with fail
 refine (HU.out).mono ?_
 rintro x w2 ⟨rfl, hM2, hm⟩
 replace HV := qM hm HV
 replace HT := qM hm HT
 replace dG := qd (dG.out.mod hm (fun b hb => by have hh := hbd b hb; simp <;> omega))
 replace ay := qM hm ay
 have z7 := (hm).size
 replace ah := qU ah hm
 clear hm
 have HM := qd (show aN w2 P (x.add (cU 1) 1) from hM2)
 clear hM2 HU
 go_upto_region 4 with fail
 have Zp := HV.out.blk
 rw [← hbn] at Zp
 have pR := qd (Zp)
 clear Zp
 have ec := pR.out.c4
 refine rT (fun (w' : World) => w'.cell? ⟨eb, 0, none⟩ = some (pQ tb) ∧ w'.cell? ⟨eb, 3, none⟩ = some (nI next)) [] ?_
 have hHeld := (⟨ec.1, ec.2.2.2⟩ : _ ∧ _)
 refine vW 0 rfl ?_
 refine vW 1 rfl ?_
 refine vW 2 rfl ?_
 refine vT 3 rfl ?_
 refine vW 4 rfl ?_
 refine vW 6 rfl ?_
 refine vW 7 rfl ?_
 refine vW 8 rfl ?_
 refine vT 9 rfl ?_
 refine vW 15 rfl ?_
 refine nT 5 rfl fun K hK => ?_
 go_simp
 refine (ug (some ⟨P.mb, P.mo, none⟩) _).mono ?_
 rintro y w3 ⟨rfl, hb⟩
 replace hb : Below w2.heap.size w2 w3 := bI hb (Below.refl _ _).drew
 unfold aG
 clear ec
 replace HV := qB hb HV
 replace HT := qB hb HT
 replace dG := qd (dG.out.mod (Mod.of_below hb []) (by simp))
 replace ay := qB hb ay
 replace HM := qB hb HM
 replace pR := qB hb pR
 have z8 := (hb).size
 replace ah := qT ah hb
 clear hb
 have ec := pR.out.c4
 go_wp2_with fail
 have hHeld := (⟨ec.1, ec.2.2.2⟩ : _ ∧ _)
 refine kO hK ?_
 clear hK K
 refine nT 10 rfl fun K hK => ?_
 go_simp
 have sS := qd (PY tb gb T P (x.add (cU 1) 1) cV next hn Bd.out w3 HT.out HM.out ay.out (by omega) (by omega) hb0 hb1 hb2)
 unfold bN aG cV at sS
 refine (sS.out).mono ?_
 rintro y w4 ⟨A, cc, rfl, vH, Oc, EX, hm⟩
 clear sS HT HM ec
 replace HV := qM hm HV
 replace dG := qd (dG.out.mod hm (fun b hb => by have hh := hbd b hb; simp <;> omega))
 replace ay := qM hm ay
 replace pR := qM hm pR
 have z9 := (hm).size
 replace ah := qU ah hm
 have HT := qd (Oc)
 have HM := qd (EX)
 have gB := qd (vH)
 clear Oc EX vH hm
 have ec := pR.out.c4
 rw [← Xi.out] at gB ⊢
 go_wp2_with fail
 have hHeld := (⟨ec.1, ec.2.2.2⟩ : _ ∧ _)
 refine kO hK ?_
 clear hK K
 refine vW 11 rfl ?_
 refine vW 12 rfl ?_
 refine nT 13 rfl fun K hK => ?_
 go_simp
 refine (RQ A es.length cc w4).mono ?_
 rintro y w5 ⟨rfl, rfl⟩
 go_wp2_with fail
 have hHeld := (⟨ec.1, ec.2.2.2⟩ : _ ∧ _)
 refine kO hK ?_
 clear hK K
 refine vW 14 rfl ?_
 refine aT (by kernel_rfl) ?_ _
 have abn : es.length ≤ 8 := by have h1 := wM (T.gs.getD next []); have h2 := Bd.out.wide.at_ hn; rw [Xi.out]; omega
 clear hd0 hd1
 go_wp2
 clear ec pR
 obtain ⟨st0, KS⟩ : ∃ st0 : bM × List aB, st0 = ((x.add (cU 1) 1).add cV 1, Ts) := ⟨_, rfl⟩
 go_loopw [6, 7, 8, 29] (fun _ _ _ i wr => ∃ j : Nat, j ≤ es.length ∧ i = .int .i64 j ∧ kV wr eb tb vb cap (bs.map Prod.fst) depth next ∧ TabAt wr tb gb (takeN T next 8) ∧ gQ wr bs (dZ bs.length depth st0 (es.take j)).2 ∧ aN wr P (dZ bs.length depth st0 (es.take j)).1 ∧ Env W0 E wr ∧ wr.ownsRow w3.heap.size 38 3 (.slice A es.length cc) es.length (es.flatMap aS) ∧ Mod (P.mb :: eb :: tb :: gb :: fM bs) w wr) (fun _ _ _ i _ => es.length - (intOf i).toNat)
 case atStart => exact ⟨0, by omega, rfl, HV.out, HT.out, by rw [KS]; exact dG.out, by rw [KS]; exact HM.out, ay.out, gB.out, ah.out⟩
 case round =>
  clear HV HT dG HM ay gB ah
  obtain ⟨j, hj, rfl, hV, hT, hTs, hM, hE, vH, hm⟩ := hrel
  by_cases hlt : j < es.length
  ·have hlt' : (j : Int) < (es.length : Int) := by omega
   have hj0 : (0 : Int) ≤ (j : Int) := by omega
   obtain ⟨e, he⟩ : ∃ e, es[j]? = some e := ⟨_, List.getElem?_eq_getElem hlt⟩
   obtain ⟨g, rfl, hgb, k0, k1, k2, hjn⟩ := H7 vH he
   have dD := qd (PX bs.length depth st0 he)
   obtain ⟨T1, hT1, hcp⟩ := Oh (x := (x.add (cU 1) 1).add cV 1) HF.out he
   rw [← KS] at hT1
   clear he hjn
   obtain ⟨st, hst⟩ : ∃ st, st = dZ bs.length depth st0 (es.take j) := ⟨_, rfl⟩
   rw [← hst] at hTs hM dD hT1
   clear hst
   obtain ⟨sd, hsd⟩ : ∃ sd, sd = dx bs.length depth e.hash := ⟨_, rfl⟩
   have Xj := qd hsd
   rw [← hsd] at hT1
   clear hsd
   obtain ⟨b, hb⟩ : ∃ b, bs[sd]? = some b := ⟨_, List.getElem?_eq_getElem (by rw [hTs.len]; exact (List.getElem?_eq_some_iff.1 hT1).1)⟩
   have nJ := List.mem_of_getElem? hb
   have hbb := hbd b nJ
   have acW := hbs b nJ
   have acX := hb4 b nJ
   have yJ := qd hb
   have HT1 := qd hT1
   have jU := qd hcp
   clear hb hT1 hcp
   have HV := qd (hV)
   have HT := qd (hT)
   have dG := qd (hTs)
   have HM := qd (hM)
   have ay := qd (hE)
   have gB := qd (vH)
   have ah := qd (hm)
   clear hV hT hTs hM hE vH hm
   have Oi := qd (fun (V : World) (hV : kV V eb tb vb cap (bs.map Prod.fst) depth next) => Db eb tb vb cap (bs.map Prod.fst) depth next e.hash b.1 (by rw [List.length_map]; exact hk) hd jU.out.h64 (by rw [List.length_map, ← Xj.out, List.getElem?_map, yJ.out]; rfl) V hV)
   unfold bN at Oi
   go_upto_region 7 with fail
   have q1 := qJ HV.out.lt (qJ HV.out.oh (qJ HT.out.aQ (qJ HT.out.aR (qJ HM.out.lt ah.out.size))))
   refine bW 38 #[nU e.key, nU e.val, nU e.hash] ?_
   rintro w6 ⟨hnew, hb⟩
   obtain ⟨xb, hxb⟩ : ∃ xb, xb = wr.heap.size := ⟨_, rfl⟩
   rw [← hxb] at hnew ⊢
   replace hxb : wr.heap.size ≤ xb := by omega
   clear k0 k1 k2
   replace HV := qB hb HV
   replace HT := qB hb HT
   replace dG := qd (dG.out.mod (Mod.of_below hb []) (by simp))
   replace HM := qB hb HM
   replace ay := qB hb ay
   replace gB := qB hb gB
   have z7 := (hb).size
   replace ah := qT ah hb
   have HX := qd (hnew)
   clear hnew hb
   have xc := HX.out.c3
   obtain ⟨i, s, hfr⟩ := jU.out.free
   have KG := qd hfr
   clear hfr
   refine rT (fun (w' : World) => w'.cell? ⟨xb, 0, none⟩ = some (nU e.key) ∧ w'.cell? ⟨xb, 1, none⟩ = some (nU e.val) ∧ w'.cell? ⟨xb, 2, none⟩ = some (nU e.hash)) [] ?_
   have hHeld := (⟨xc.1, xc.2.1, xc.2.2⟩ : _ ∧ _ ∧ _)
   refine vW 0 rfl ?_
   refine vW 1 rfl ?_
   refine vT 2 rfl ?_
   refine vW 4 rfl ?_
   refine vT 6 rfl ?_
   refine nT 3 rfl fun K hK => ?_
   go_simp
   refine (Oi.out _ (HV.out.mod (Mod.drewN [] w6 1) (by simp) (by simp))).mono ?_
   rintro y w7 ⟨rfl, hb⟩
   replace hb : Below w6.heap.size w6 w7 := bI hb (Below.refl _ _).drew
   clear xc
   replace HV := qB hb HV
   replace HT := qB hb HT
   replace dG := qd (dG.out.mod (Mod.of_below hb []) (by simp))
   replace HM := qB hb HM
   replace ay := qB hb ay
   replace gB := qB hb gB
   replace HX := qB hb HX
   have z8 := (hb).size
   replace ah := qT ah hb
   clear hb
   have xc := HX.out.c3
   go_wp2_with fail
   have hHeld := (⟨xc.1, xc.2.1, xc.2.2⟩ : _ ∧ _ ∧ _)
   refine kO hK ?_
   clear hK K
   refine nT 5 rfl fun K hK => ?_
   go_simp
   refine (ug (some ⟨P.mb, P.mo, none⟩) _).mono ?_
   rintro y w8 ⟨rfl, hb⟩
   unfold aG
   clear xc
   replace HV := qB hb HV
   replace HT := qB hb HT
   replace dG := qd (dG.out.mod (Mod.of_below hb []) (by simp))
   replace HM := qB hb HM
   replace ay := qB hb ay
   replace gB := qB hb gB
   replace HX := qB hb HX
   have z9 := (hb).size
   replace ah := qT ah hb
   clear hb
   have xc := HX.out.c3
   go_wp2_with fail
   have hHeld := (⟨xc.1, xc.2.1, xc.2.2⟩ : _ ∧ _ ∧ _)
   refine kO hK ?_
   clear hK K
   refine nT 7 rfl fun K hK => ?_
   go_simp
   have yK := qd (Jp b.1 b.2 T1 P.mb P.mt P.pre P.post P.mo st.1.all st.1.last P.m cV e w8 (dG.out.at_ sd b T1 yJ.out HT1.out) jU.out.ok.pow jU.out.h64 HM.out (by omega) (by omega) ay.out.tz (by have := ay.out.KJ; omega) jU.out.none_ i s KG.out jU.out.ok.small jU.out.room)
   unfold bN aG aM cV at yK
   refine (yK.out).mono ?_
   rintro y w9 ⟨rfl, hT9, hM9, hm⟩
   clear yK HM
   have Zq := dG.out.ak yJ.out hT9 hm (by intro q hq; simp at hq; rcases hq with rfl | rfl | rfl; exact .inr (.inr (fun c hc => by have := hbd c hc; omega)); exact .inl rfl; exact .inr (.inl rfl))
   clear dG hT9
   have hm0 : Mod (P.mb :: eb :: tb :: gb :: fM bs) w8 w9 := hm.more (by intro q hq; simp at hq; rcases hq with rfl | rfl | rfl; simp; simp [dK]; exact .inr (.inr (.inr (.inr ⟨_, _, nJ, .inl rfl⟩))); simp [dK]; exact .inr (.inr (.inr (.inr ⟨_, _, nJ, .inr rfl⟩))))
   have RY := ah
   clear ah
   have ah := qd (Mod.refl [P.mb, b.1, b.2] w8)
   clear xc
   replace HV := qM hm HV
   replace HT := qM hm HT
   replace ay := qM hm ay
   replace gB := qM hm gB
   replace HX := qM hm HX
   have Zn := (hm).size
   replace ah := qU ah hm
   clear ah
   have ah := qd (RY.out.then hm0)
   clear RY hm0 hm
   have dG := qd (Zq)
   have HM := qd (show aN w9 P (st.1.add cV (aH T1.gs e.key e.hash).2.2) from hM9)
   clear Zq hM9
   have xc := HX.out.c3
   go_wp2_with fail
   have hHeld := (⟨xc.1, xc.2.1, xc.2.2⟩ : _ ∧ _ ∧ _)
   refine kO hK ?_
   clear hK K
   refine vW 8 rfl ?_
   refine vW 9 rfl ?_
   refine vW 10 rfl ?_
   refine vW 11 rfl ?_
   refine vW 12 rfl ?_
   refine aT (by kernel_rfl) ?_ _
   have hgd : st.2.getD sd noT = T1 := by rw [List.getD_eq_getElem?_getD, HT1.out]; rfl
   have iQ := qd (show dZ bs.length depth st0 (es.take (j + 1)) = (st.1.add cV (aH T1.gs e.key e.hash).2.2, st.2.set sd (jm T1 i s e)) from by rw [dD.out]; unfold rP; rw [← Xj.out, hgd]; unfold Bc; rw [KG.out])
   clear hgd
   have KT := qd (Bb w9)
   go_wp2_with fail
   refine (KT.out).mono ?_
   rintro y Oj ⟨rfl, rfl⟩
   clear xc
   go_wp2
   go_roundw
   case rel => exact ⟨j + 1, by omega, by go_num, HV.out, HT.out, by rw [iQ.out]; exact dG.out, by rw [iQ.out]; exact HM.out, ay.out, gB.out, ah.out⟩
   case measure => simp [intOf]; omega
  ·obtain rfl : j = es.length := by omega
   have hlt' : ¬ (es.length : Int) < (es.length : Int) := by omega
   rw [List.take_length] at hTs hM
   have pR := qd (hV.blk)
   have HW := qd (hV.row)
   have HT := qd (hT)
   have dG := qd (hTs)
   have HM := qd (hM)
   have ah := qd (hm)
   clear hV hT hTs hM hE vH hm
   have q1 := qJ pR.out.lt (qJ HW.out.lt (qJ HT.out.aQ (qJ HT.out.aR HM.out.lt)))
   have ec := pR.out.c4
   have ef := pR.out.f4
   go_upto_region 11 with fail
   have q6 := qJ pR.out.lt (qJ HW.out.lt (qJ HT.out.aQ (qJ HT.out.aR HM.out.lt)))
   refine ED pR.out ?_
   rintro w11 ⟨hnew, hm⟩
   simp only [pt] at hnew
   clear ec ef
   replace HW := qM hm HW
   replace HT := qM hm HT
   replace dG := qd (dG.out.mod hm (fun b hb => by have hh := hbd b hb; simp <;> omega))
   replace HM := qM hm HM
   have z11 := (hm).size
   replace ah := qU ah hm
   replace pR := qd hnew
   clear hnew hm
   go_wp2
   go_ret
   exact ⟨rfl, ⟨pR.out, HW.out⟩, HT.out, by rw [← KS]; exact dG.out, by rw [← KS]; exact HM.out, ah.out⟩
section
def om (n k i : Nat) : Nat := min n (k - i * n)
def bH (db rb ob og : Nat) (bl : List (Nat × Nat × Nat)) : List Nat := db :: rb :: ob :: og :: bl.flatMap fun b => [b.1, b.2.1, b.2.2]
structure sU (w : World) (db rb cap ob og : Nat) (bl : List (Nat × Nat × Nat)) (T : aB) (n depth k : Nat) : Prop where
 blk : aj w db 239 #[pQ ob, nI depth, .slice (some ⟨rb, 0, none⟩) bl.length cap, .slice none 0 0, .pointer none, .bool false]
 row : eO w rb (bl.map fun b => b.1)
 mZ : ∀ (i : Nat) (b : Nat × Nat × Nat), bl[i]? = some b → fD w b.1 b.2.1 b.2.2 n (om n k i)
 tab : TabAt w ob og T
 pow : Pw n
 many : 1 ≤ bl.length ∧ bl.length ≤ 2
 lt : k < n * bl.length
 deep : depth ≤ 15
 nd : (bH db rb ob og bl).Nodup
def aV (db rb fb eb vb ob og : Nat) (bq : List Nat) (bs : List (Nat × Nat)) : List Nat := db :: rb :: fb :: eb :: vb :: ob :: og :: (bq ++ fM bs)
structure nK (w : World) (db rb cap ob og fb bU eb vb bX : Nat) (bq : List Nat) (bs : List (Nat × Nat)) (T : aB) (Ts : List aB) (n depth next : Nat) : Prop where
 blk : aj w db 239 #[pQ ob, nI depth, .slice (some ⟨rb, 0, none⟩) bq.length cap, .slice (some ⟨fb, 0, none⟩) bs.length bU, pQ eb, .bool false]
 row : eO w rb bq
 mZ : ∀ b ∈ bq, aj w b 264 #[.pointer none, nI n, nI n]
 fresh : eO w fb (bs.map Prod.fst)
 ev : kV w eb ob vb bX (bs.map Prod.fst) depth next
 tab : TabAt w ob og T
 tabs : gQ w bs Ts
 pow : Pw n
 many : 1 ≤ bs.length ∧ bs.length ≤ 2
 eq : bq.length = bs.length
 deep : depth ≤ 15
 nd : (aV db rb fb eb vb ob og bq bs).Nodup
section
variable {w w' : World} {db rb cap ob og fb bU eb vb bX : Nat} {bl : List (Nat × Nat × Nat)} {bq : List Nat} {bs : List (Nat × Nat)} {T : aB} {Ts : List aB} {n depth k next : Nat}
theorem sV {b : Nat × Nat × Nat} (h : b ∈ bl) : b.1 ∈ bH db rb ob og bl ∧ b.2.1 ∈ bH db rb ob og bl ∧ b.2.2 ∈ bH db rb ob og bl := by
 have h0 : ∀ q ∈ [b.1, b.2.1, b.2.2], q ∈ bl.flatMap fun b => [b.1, b.2.1, b.2.2] := fun q hq => List.mem_flatMap.2 ⟨b, h, hq⟩
 have h1 := h0 b.1 (by simp)
 have h2 := h0 b.2.1 (by simp)
 have h3 := h0 b.2.2 (by simp)
 unfold bH
 simp only [List.mem_cons]
 exact ⟨.inr (.inr (.inr (.inr h1))), .inr (.inr (.inr (.inr h2))), .inr (.inr (.inr (.inr h3)))⟩
theorem sU.mod {S : List Nat} (h : sU w db rb cap ob og bl T n depth k) (hm : Mod S w w') (hs : ∀ q ∈ bH db rb ob og bl, q ∉ S) : sU w' db rb cap ob og bl T n depth k :=
 ⟨h.blk.mod hm (hs _ (by simp [bH])), h.row.mod hm (hs _ (by simp [bH])), fun i b hb => by
  obtain ⟨h1, h2, h3⟩ := sV (db := db) (rb := rb) (ob := ob) (og := og) (List.mem_of_getElem? hb)
  exact (h.mZ i b hb).mod hm (hs _ h1) (hs _ h2) (hs _ h3),
  h.tab.mod hm (hs _ (by simp [bH])) (hs _ (by simp [bH])), h.pow, h.many, h.lt, h.deep, h.nd⟩
theorem nK.mod {S : List Nat} (h : nK w db rb cap ob og fb bU eb vb bX bq bs T Ts n depth next) (hm : Mod S w w') (hs : ∀ q ∈ aV db rb fb eb vb ob og bq bs, q ∉ S) : nK w' db rb cap ob og fb bU eb vb bX bq bs T Ts n depth next :=
 ⟨h.blk.mod hm (hs _ (by simp [aV])), h.row.mod hm (hs _ (by simp [aV])), fun b hb => (h.mZ b hb).mod hm (hs _ (by unfold aV; simp [hb])), h.fresh.mod hm (hs _ (by simp [aV])),
  h.ev.mod hm (hs _ (by simp [aV])) (hs _ (by simp [aV])), h.tab.mod hm (hs _ (by simp [aV])) (hs _ (by simp [aV])),
  h.tabs.mod hm (fun b hb => ⟨hs _ (by unfold aV; simp [dK]; exact .inr (.inr (.inr (.inr (.inr (.inr (.inr (.inr ⟨_, _, hb, .inl rfl⟩)))))))), hs _ (by unfold aV; simp [dK]; exact .inr (.inr (.inr (.inr (.inr (.inr (.inr (.inr ⟨_, _, hb, .inr rfl⟩))))))))⟩), h.pow, h.many, h.eq, h.deep, h.nd⟩
end
def bL (db : Nat) : Value := pQ db
def pU (n k : Nat) : Nat → Nat
 | 0 => 0
 | j + 1 => pU n k j + (n - om n k j)
theorem zy (n k : Nat) : ∀ j, pU n k j = n * j - min k (n * j)
 | 0 => by simp [pU]
 | j + 1 => by
  have h1 := zy n k j
  unfold pU om
  rw [h1, Nat.mul_comm j n, Nat.mul_succ]
  generalize n * j = m
  omega
theorem uj (db : Nat) (w : World) (h : w.cell? ⟨db, 3, none⟩ = some (.slice none 0 0)) :
  Calls Tryz.prog 157 #[bL db] w fun e w' => e = .returned (.bool false) ∧ w = w' := by
 unfold bL
 go_in
 go_wp2
 go_ret
 exact ⟨rfl, rfl⟩
theorem rQ (db fb fn bU : Nat) (w : World) (h : w.cell? ⟨db, 3, none⟩ = some (.slice (some ⟨fb, 0, none⟩) fn bU)) :
  Calls Tryz.prog 157 #[bL db] w fun e w' => e = .returned (.bool true) ∧ w = w' := by
 unfold bL
 go_in
 go_wp2
 go_ret
 exact ⟨rfl, rfl⟩
theorem Js (db rb cap ob og : Nat) (bl : List (Nat × Nat × Nat)) (T : aB) (n depth k : Nat) (w : World) (h : sU w db rb cap ob og bl T n depth k) (hgl : T.gs.length ≤ 64) :
  Calls Tryz.prog 203 #[bL db] w fun e w' => e = .returned (.int .i64 ((T.gs.length + (n * bl.length - k) : Nat) : Int)) ∧ Below w.heap.size w w' := by
 have acY := h.lt
 have HB := qd (h.blk)
 have HR := qd (h.row)
 have HT := qd (h.tab)
 have ah := qd (Mod.refl [] w)
 obtain ⟨many1, ace⟩ := h.many
 have sW := qd (show ∀ V, Below w.heap.size w V → ∀ (i : Nat) (b : Nat × Nat × Nat), bl[i]? = some b → fD V b.1 b.2.1 b.2.2 n (om n k i) from fun V hV i b hb => (h.mZ i b hb).mod (Mod.of_below hV []) (by simp) (by simp) (by simp))
 have KE := h.pow.le
 clear h
 obtain ⟨g0, hg0⟩ : ∃ g0, g0 = T.gs.length := ⟨_, rfl⟩
 rw [← hg0] at hgl ⊢
 unfold bL
 have bc := HB.out.c6
 have mh := qd (uj db w bc.2.2.2.1)
 unfold bL at mh
 have HG := qd (lK ob og T w HT.out)
 rw [← hg0] at HG
 unfold bN at HG
 clear hg0
 go_in
 go_wp2_with fail
 refine (mh.out).mono ?_
 rintro y w1 ⟨rfl, rfl⟩
 clear mh
 go_wp2_with fail
 refine (HG.out).mono ?_
 rintro y w1 ⟨rfl, rfl⟩
 clear HG
 go_wp2
 clear bc
 have Vg := HR
 clear HB HR HT ah
 go_loopw [3, 5, 23] (fun v3 _ i wr => ∃ j : Nat, j ≤ bl.length ∧ i = .int .i64 j ∧ v3 = .int .i64 ((g0 + pU n k j : Nat) : Int) ∧ Below w.heap.size w wr) (fun _ _ i _ => bl.length - (intOf i).toNat)
 case atStart => exact ⟨0, by omega, rfl, by simp [pU], Below.refl _ _⟩
 case round =>
  obtain ⟨j, hj, rfl, rfl, hm⟩ := hrel
  by_cases hlt : j < bl.length
  ·have hlt' : (j : Int) < (bl.length : Int) := by omega
   have hj0 : (0 : Int) ≤ (j : Int) := by omega
   obtain ⟨b, hb⟩ : ∃ b, bl[j]? = some b := ⟨_, List.getElem?_eq_getElem hlt⟩
   have hbl := sW.out wr hm j b hb
   have hc := (Vg.out.mod (Mod.of_below hm []) (by simp)).at_ j b.1 (by rw [List.getElem?_map, hb]; rfl)
   have hkl : om n k j ≤ n := Nat.min_le_left _ _
   have hsl : pU n k j ≤ 128 := by rw [zy]; have : n * j ≤ 64 * 2 := Nat.mul_le_mul KE (by omega); omega
   have HC := qd (qE b.1 n (om n k j) _ wr hkl KE hbl.blk)
   unfold kU at HC
   have Hm := qd hm
   clear hm hb hbl
   go_wp2_with fail
   refine (HC.out).mono ?_
   rintro y w2 ⟨rfl, hw2⟩
   have RN := qd (show Below w.heap.size w w2 from by rw [← hw2]; exact Hm.out.trans ((Below.refl _ _).drew.mono Hm.out.size))
   clear hw2
   go_wp2
   go_roundw
   case rel => exact ⟨j + 1, by omega, by go_num, by first | go_num | (simp [pU]; omega), RN.out⟩
   case measure => simp [intOf]; omega
  ·obtain rfl : j = bl.length := by omega
   have hlt' : ¬ (bl.length : Int) < (bl.length : Int) := by omega
   go_wp2
   go_ret
   exact ⟨gF (by have := zy n k bl.length; omega), hm⟩
theorem Dc (db rb cap ob og : Nat) (bq : List Nat) (T : aB) (n : Nat) (dep fr mv tk : Value) (KE : n ≤ 64) (h2 : bq.length ≤ 2) (hgl : T.gs.length ≤ 64) (w : World)
  (hblk : aj w db 239 #[pQ ob, dep, .slice (some ⟨rb, 0, none⟩) bq.length cap, fr, mv, tk]) (hrow : eO w rb bq) (hb : ∀ b ∈ bq, ∃ (p : Value) (k' : Nat), aj w b 264 #[p, nI n, nI k']) (htab : TabAt w ob og T) :
  Calls Tryz.prog 101 #[bL db] w fun e w' => e = .returned (.int .i64 ((T.gs.length + n * bq.length : Nat) : Int)) ∧ w = w' := by
 have HB := qd (hblk)
 have HR := qd (hrow)
 have HT := qd (htab)
 have ah := qd (Mod.refl [] w)
 have sW := qd hb
 clear hblk hrow htab hb
 obtain ⟨g0, hg0⟩ : ∃ g0, g0 = T.gs.length := ⟨_, rfl⟩
 rw [← hg0] at hgl ⊢
 unfold bL
 have bc := HB.out.c6
 have HG := qd (lK ob og T w HT.out)
 rw [← hg0] at HG
 unfold bN at HG
 clear hg0
 go_in
 go_wp2_with fail
 refine (HG.out).mono ?_
 rintro y w1 ⟨rfl, rfl⟩
 clear HG
 go_wp2
 clear bc
 have Vg := HR
 clear HB HR HT ah
 go_loopw [3, 5, 16] (fun v3 _ i wr => ∃ j : Nat, j ≤ bq.length ∧ i = .int .i64 j ∧ v3 = .int .i64 ((g0 + n * j : Nat) : Int) ∧ w = wr) (fun _ _ i _ => bq.length - (intOf i).toNat)
 case atStart => exact ⟨0, by omega, rfl, by simp, by first | exact rfl | trivial⟩
 case round =>
  obtain ⟨j, hj, rfl, rfl, rfl⟩ := hrel
  by_cases hlt : j < bq.length
  ·have hlt' : (j : Int) < (bq.length : Int) := by omega
   have hj0 : (0 : Int) ≤ (j : Int) := by omega
   obtain ⟨b, hb⟩ : ∃ b, bq[j]? = some b := ⟨_, List.getElem?_eq_getElem hlt⟩
   obtain ⟨p, k', hbl⟩ := sW.out b (List.mem_of_getElem? hb)
   have hc := Vg.out.at_ j b hb
   have hsl : n * j ≤ 128 := by have : n * j ≤ 64 * 2 := Nat.mul_le_mul KE (by omega); omega
   have hsm : n * (j + 1) = n * j + n := Nat.mul_succ _ _
   have HC := qd (KO b n k' p w hbl)
   unfold kU at HC
   clear hb hbl
   go_wp2_with fail
   refine (HC.out).mono ?_
   rintro y w2 ⟨rfl, rfl⟩
   go_wp2
   go_roundw
   case rel => exact ⟨j + 1, by omega, by go_num, by first | go_num | (simp; omega), by first | exact rfl | trivial⟩
   case measure => simp [intOf]; omega
  ·obtain rfl : j = bq.length := by omega
   have hlt' : ¬ (bq.length : Int) < (bq.length : Int) := by omega
   go_wp2
   go_ret
   exact ⟨rfl, rfl⟩
theorem oQ (db rb cap ob og fb bU eb vb bX : Nat) (bq : List Nat) (bs : List (Nat × Nat)) (T : aB) (Ts : List aB) (n depth next : Nat) (w : World) (h : nK w db rb cap ob og fb bU eb vb bX bq bs T Ts n depth next) (hgl : T.gs.length ≤ 64) (hnx : next ≤ T.gs.length) :
  Calls Tryz.prog 203 #[bL db] w fun e w' => e = .returned (.int .i64 ((T.gs.length - next : Nat) : Int)) ∧ w.drew = w' := by
 have bc3 := h.blk.cell 3
 have Zr := h.blk.cell 4
 simp only [gl] at bc3 Zr
 have mh := qd (rQ db fb bs.length bU w bc3)
 have HL := qd (H9 eb ob og vb bX _ depth next T w h.ev h.tab hnx hgl)
 unfold bL at mh ⊢
 clear h
 go_in
 go_wp2_with fail
 refine (mh.out).mono ?_
 rintro y w1 ⟨rfl, rfl⟩
 go_wp2_with fail
 refine (HL.out).mono ?_
 rintro y w1 ⟨rfl, rfl⟩
 go_wp2
 go_ret
 exact ⟨rfl, rfl⟩
end
end Go.Proofs.YtbphcldoflekpaaGreatDoor
