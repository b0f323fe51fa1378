/- amblerlaw21.do: an act, done to a core and to the document's map: the answers are the same. -/
import Derived.Test.YtcgjgfgkdoohlaaGreatDoorCoCV
import Derived.Test.YtcgjgfgkdoohlaaGreatDoorSqT
import Derived.Test.YtcgjgfgkdoohlaaGreatDoorLaneP
namespace Go.Proofs.YtcgjgfgkdoohlaaGreatDoor
set_option maxRecDepth 100000
set_option maxHeartbeats 8000000
open Go.RowKit AmC
variable {a' : Pool} {ids' : List Nat}
structure Duo (W0 : World) (E : Nat → Addr) (H : Nat → Nat) (Kk M cb rb base : Nat) (G R : List Nat) (w : World) (a : Pool) (ids : List Nat) (es : List Ent) : Prop where
 core : CoreAt W0 E H Kk M cb G w a ids
 ref : RefIn w base rb M es R
 same : es.Perm a.ents
 apart : ∀ q ∈ R, q ∉ G
 base : W0.heap.size ≤ base
section
variable {W0 : World} {E : Nat → Addr} {H : Nat → Nat} {Kk M cb rb base : Nat} {G R : List Nat} {w w' w'' : World} {a : Pool} {ids : List Nat} {es : List Ent}
def DuoTo (W0 : World) (E : Nat → Addr) (H : Nat → Nat) (Kk M cb rb base : Nat) (G R : List Nat) (w w' : World) : Prop :=
 ∃ G' R' a' ids' es', Duo W0 E H Kk M cb rb base G' R' w' a' ids' es' ∧ (∀ q ∈ G', q ∈ G ∨ q ∈ R ∨ w.heap.size ≤ q) ∧ (∀ q ∈ R', q ∈ G ∨ q ∈ R ∨ w.heap.size ≤ q) ∧ Mod (G ++ R) w w'
theorem CoreTo.next (h : CoreTo W0 E H Kk M cb G w w' a' ids') (hb : Below w'.heap.size w' w'') : CoreTo W0 E H Kk M cb G w w'' a' ids' := by
 obtain ⟨G', c1, c2, c3⟩ := h
 exact ⟨G', c1.below hb, c2, c3.then (Mod.of_below hb G)⟩
theorem Duo.below (h : Duo W0 E H Kk M cb rb base G R w a ids es) (hb : Below w.heap.size w w') : Duo W0 E H Kk M cb rb base G R w' a ids es := ⟨h.core.below hb, h.ref.below hb, h.same, h.apart, h.base⟩
theorem Duo.nd (h : Duo W0 E H Kk M cb rb base G R w a ids es) : (es.map Ent.key).Nodup ∧ es.length ≤ 192 ∧ es.length = a.ents.length := by
 obtain ⟨_, _, _, _, _, _, f7, f8, _, f10, _⟩ := h.core.facts
 exact ⟨(h.same.map Ent.key).nodup_iff.2 f10, by rw [h.same.length_eq]; omega, h.same.length_eq⟩
theorem Duo.to (h : Duo W0 E H Kk M cb rb base G R w a ids es) {es' : List Ent} (hc : CoreTo W0 E H Kk M cb G w w' a' ids') (hr : RefOut w' base rb M es' R w'') (hp : es'.Perm a'.ents) : DuoTo W0 E H Kk M cb rb base G R w w'' := by
 obtain ⟨G', c1, c2, c3⟩ := hc
 obtain ⟨R', r1, r2, r3⟩ := hr
 obtain ⟨_, _, _, _, _, _, _, _, _, _, f11, _⟩ := c1.facts
 have hRl := h.ref.lts
 have hz := c3.size
 have hap : ∀ q ∈ R, q ∉ G' := fun q hq hg => by
  rcases c2 q hg with h1 | h1
  ·exact h.apart q hq h1
  ·have := (hRl q hq).1; omega
 refine ⟨G', R', a', ids', es', ⟨c1.mod r3 (fun q hq => ⟨hap q hq, ?_⟩), r1, hp, fun q hq hg => ?_, h.base⟩, fun q hq => ?_, fun q hq => ?_, c3.trans r3 (fun k hk _ => by simp [hk]) (fun k hk _ => by simp [hk])⟩
 ·have := (hRl q hq).2
  have := h.base
  omega
 ·rcases r2 q hq with h1 | h1
  ·exact hap q h1 hg
  ·have := (f11 q hg).1; omega
 ·rcases c2 q hq with h1 | h1
  ·exact .inl h1
  ·exact .inr (.inr h1)
 ·rcases r2 q hq with h1 | h1
  ·exact .inr (.inl h1)
  ·right; right; omega
end
theorem RefIn.lts_mb {w : World} {base mb M : Nat} {es : List Ent} {R : List Nat} (h : RefIn w base mb M es R) : mb ∈ R ∧ mb < w.heap.size ∧ base ≤ w.heap.size ∧ base ≤ mb := by
 have hm : mb ∈ R := by obtain ⟨A, c, _, _, _, _, rfl⟩ := h; simp
 have := h.lts mb hm
 exact ⟨hm, this.1, by omega, this.2⟩
theorem DuoTo.from_ {W0 : World} {E : Nat → Addr} {H : Nat → Nat} {Kk M cb rb base : Nat} {G R : List Nat} {w w1 w' : World} (h : DuoTo W0 E H Kk M cb rb base G R w1 w') (hb : Below w.heap.size w w1) : DuoTo W0 E H Kk M cb rb base G R w w' := by
 obtain ⟨G', R', a', ids', es', h1, h2, h3, h4⟩ := h
 have hz := hb.size
 exact ⟨G', R', a', ids', es', h1, fun q hq => by rcases h2 q hq with h | h | h; exact .inl h; exact .inr (.inl h); right; right; omega, fun q hq => by rcases h3 q hq with h | h | h; exact .inl h; exact .inr (.inl h); right; right; omega, (Mod.of_below hb _).then h4⟩
theorem law_do {W0 : World} {E : Nat → Addr} {H : Nat → Nat} {Kk M cb rb base : Nat} {G R : List Nat} {w : World} {a : Pool} {ids : List Nat} {es : List Ent} (hD : Duo W0 E H Kk M cb rb base G R w a ids es) (hEr : ErrsIn E W0) (e : Ent) (he : EntOk H e) (act : LAct) :
  Calls Tryz.prog 23 #[coreP cb, .pointer (some ⟨rb, 0, none⟩), entV e, actV act] w fun y w' => y = .returned (.bool true) ∧ DuoTo W0 E H Kk M cb rb base G R w w' := by
 have HD := qd hD
 have HEr := qd hEr
 have HE := qd he
 have HN := qd hD.nd
 have hkey64 : H e.key = e.hash := he.hash.symm
 have HKy := qd hkey64
 obtain ⟨_, _, _, _, _, _, _, _, _, _, hfl, henv⟩ := hD.core.facts
 have HG := qd hfl
 have HEnv := qd henv
 have HRl := qd hD.ref.lts
 have HBs := qd hD.base
 unfold entV actV
 have hA := Blk.alloc (Blk.new w 37 #[.int .u64 (e.key : Int), .int .u64 (e.val : Int), .int .u64 (e.hash : Int)]) (.cells #[.int .i64 act.kind, .int .i64 act.key, .int .i64 act.n] 34)
 have hB := Blk.new (w.alloc (.cells #[.int .u64 (e.key : Int), .int .u64 (e.val : Int), .int .u64 (e.hash : Int)] 37)) 34 #[.int .i64 act.kind, .int .i64 act.key, .int .i64 act.n]
 have hW := ((Below.refl w.heap.size w).alloc (Nat.le_refl _) (.cells #[.int .u64 (e.key : Int), .int .u64 (e.val : Int), .int .u64 (e.hash : Int)] 37)).alloc (by simp) (.cells #[.int .i64 act.kind, .int .i64 act.key, .int .i64 act.n] 34)
 rw [World.size_alloc] at hB
 have HA := qd hA
 have HB := qd hB
 have HW := qd hW
 clear hA hB hW hD hEr he hkey64 hfl henv
 unfold coreP
 go_in
 go_upto_region 1 with fail
 refine nameW (F := fun v => Blk v w.heap.size 37 #[.int .u64 (e.key : Int), .int .u64 (e.val : Int), .int .u64 (e.hash : Int)] ∧ Blk v (w.heap.size + 1) 34 #[.int .i64 act.kind, .int .i64 act.key, .int .i64 act.n] ∧ Below w.heap.size w v) ⟨HA.out, HB.out, HW.out⟩ ?_
 clear HA HB HW
 rintro w1 ⟨hA, hB, hb⟩
 replace HD := qd (HD.out.below hb)
 have hz1 := hb.size
 obtain ⟨eb, heb⟩ : ∃ eb, eb = w.heap.size := ⟨_, rfl⟩
 obtain ⟨ab, hab⟩ : ∃ ab, ab = w.heap.size + 1 := ⟨_, rfl⟩
 rw [← heb] at hA ⊢
 rw [← hab] at hB
 rw [show (some ⟨eb + 1, 0, none⟩ : Option Addr) = some ⟨ab, 0, none⟩ by rw [heb, hab]]
 have HNG := qd (show eb ∉ G ∧ ab ∉ G ∧ eb ∉ R ∧ ab ∉ R ∧ eb ∉ G ++ R ∧ w.heap.size ≤ eb from by
  have g1 : eb ∉ G := fun h => by have := (HG.out eb h).1; omega
  have g2 : ab ∉ G := fun h => by have := (HG.out ab h).1; omega
  have g3 : eb ∉ R := fun h => by have := (HRl.out eb h).1; omega
  have g4 : ab ∉ R := fun h => by have := (HRl.out ab h).1; omega
  exact ⟨g1, g2, g3, g4, by simp [g1, g3], by omega⟩)
 have HA := qd hA
 have HB := qd hB
 have HW := qd hb
 have HEn1 := qd (HEnv.out.next hb)
 have b0 := hB.cell 0
 simp only [List.getElem?_toArray, List.getElem?_cons_zero] at b0
 clear hA hB hb heb hab HEnv hz1 HG HRl
 by_cases hk : act.kind = 0
 ·have hk0 : act.kind = 0 := hk
  rw [hk0] at b0
  go_wp2
  go_upto_region 3 with fail
  obtain ⟨a0, a1, a2⟩ := HA.out.c3
  have hdr : Below w1.heap.size w1 w1.drew := (Below.refl _ _).drew
  replace HD := qd (HD.out.below hdr)
  replace HA := qd HA.out.drew
  replace HB := qd HB.out.drew
  replace HEn1 := qd (HEn1.out.next hdr)
  replace HW := qd HW.out.drew
  clear hdr
  refine region_T (fun (w' : World) => w'.cell? ⟨eb, 0, none⟩ = some (.int .u64 (e.key : Int)) ∧ w'.cell? ⟨eb, 1, none⟩ = some (.int .u64 (e.val : Int)) ∧ w'.cell? ⟨eb, 2, none⟩ = some (.int .u64 (e.hash : Int))) [] (by kernel_rfl) ?_
  try (change wpAnyT _ _ _ _ _ _ _ _ _ (World.drew _))
  have hHeld := (⟨a0, a1, a2⟩ : _ ∧ _ ∧ _)
  refine vW 0 rfl ?_
  refine vW 1 rfl ?_
  refine vT 2 rfl ?_
  refine vW 3 rfl ?_
  refine vT 4 rfl ?_
  refine vW 5 rfl ?_
  refine vT 6 rfl ?_
  refine vW 9 rfl ?_
  refine vT 10 rfl ?_
  refine nT 7 rfl fun K hK => ?_
  go_simp
  refine (at_put HD.out.core e HE.out).mono ?_
  rintro y w2 ⟨rfl, a', ids', hto, hpp⟩
  obtain ⟨G2, hc1, hc2, hc3⟩ := hto
  have HTo := qd (show CoreTo W0 E H Kk M cb G w1.drew w2 a' ids' from ⟨G2, hc1, hc2, hc3⟩)
  replace HA := qd (HA.out.mod hc3 HNG.out.1)
  replace HB := qd (HB.out.mod hc3 HNG.out.2.1)
  have HRf := qd (HD.out.ref.mod hc3 HD.out.apart)
  have HEn2 := qd (HEn1.out.mod hc3 (fun q hq => (HD.out.core.facts.2.2.2.2.2.2.2.2.2.2.1 q hq).2))
  have hbs2 : base ≤ w2.heap.size := by
   obtain ⟨_, _, q1, _⟩ := HRf.out.lts_mb
   exact q1
  have HPp := qd ((putL_perm HD.out.same HN.out.1 e).trans hpp.symm)
  have hpc := putC_perm (M := M) HD.out.same HN.out.1 e.key
  obtain ⟨cc, hcc⟩ : ∃ cc, cc = putC M a.ents e.key := ⟨_, rfl⟩
  rw [← hcc] at hpc ⊢
  have HPc := qd hpc
  have hc16 : cc ≤ 16 := by rw [hcc]; unfold putC; split <;> omega
  clear hpp hpc hcc hc1 hc2 hc3 a0 a1 a2
  obtain ⟨a0, a1, a2⟩ := HA.out.c3
  have hHeld := (⟨a0, a1, a2⟩ : _ ∧ _ ∧ _)
  refine kO hK ?_
  clear hK K
  refine nT 8 rfl fun K hK => ?_
  go_simp
  refine (num_any (HEr.out.below HEn2.out.below (Nat.le_refl _)) cc hc16).mono ?_
  rintro y w3 ⟨rfl, hb3⟩
  have HTo3 := qd (HTo.out.next hb3)
  replace HA := qB hb3 HA
  have HRf3 := qd (HRf.out.below hb3)
  have hbs3 : base ≤ w3.heap.size := Nat.le_trans hbs2 hb3.size
  clear hb3 a0 a1 a2
  obtain ⟨a0, a1, a2⟩ := HA.out.c3
  have hHeld := (⟨a0, a1, a2⟩ : _ ∧ _ ∧ _)
  refine kO hK ?_
  clear hK K
  refine nT 11 rfl fun K hK => ?_
  go_simp
  have hrf := ref_put HRf3.out HN.out.1 (by have := HN.out.2.1; omega) e hbs3
  rw [HPc.out] at hrf
  refine hrf.mono ?_
  rintro y w4 ⟨rfl, hro⟩
  have HFin := qd (HD.out.to HTo3.out hro HPp.out)
  replace HA := qd (HA.out.mod hro.choose_spec.2.2 HNG.out.2.2.1)
  clear hrf hro a0 a1 a2
  obtain ⟨a0, a1, a2⟩ := HA.out.c3
  have hHeld := (⟨a0, a1, a2⟩ : _ ∧ _ ∧ _)
  refine kO hK ?_
  clear hK K
  refine vW 12 rfl ?_
  refine vW 13 rfl ?_
  refine doneT (by kernel_rfl) ?_ _
  go_wp2
  go_ret
  exact ⟨rfl, HFin.out.from_ HW.out⟩
 ·have hk0 : ¬ act.kind = 0 := hk
  clear hk
  by_cases hk : act.kind = 1
  ·have hk1 : act.kind = 1 := hk
   rw [hk1] at b0
   have a0 := HA.out.cell 0
   have a2 := HA.out.cell 2
   simp only [gl] at a0 a2
   have hcl := at_del HD.out.core e.key (by rw [HKy.out]; exact HE.out.h64)
   rw [HKy.out] at hcl
   have HCl := qd hcl
   unfold coreP at HCl
   clear hcl
   obtain ⟨u, b, hub⟩ : ∃ u b, getV a.ents e.key = .tuple #[.int .u64 u, .bool b] := ⟨_, _, rfl⟩
   have hub2 : getV es e.key = .tuple #[.int .u64 u, .bool b] := (getV_perm HD.out.same HN.out.1 e.key).trans hub
   rw [hub] at HCl
   have HU := qd hub2
   clear hub hub2
   go_wp2_with fail
   refine HCl.out.mono ?_
   rintro y w2 ⟨rfl, a', ids', hto, hpp⟩
   obtain ⟨G2, hc1, hc2, hc3⟩ := hto
   have HTo := qd (show CoreTo W0 E H Kk M cb G w1 w2 a' ids' from ⟨G2, hc1, hc2, hc3⟩)
   replace HA := qd (HA.out.mod hc3 HNG.out.1)
   replace HB := qd (HB.out.mod hc3 HNG.out.2.1)
   have HRf := qd (HD.out.ref.mod hc3 HD.out.apart)
   have HEn2 := qd (HEn1.out.mod hc3 (fun q hq => (HD.out.core.facts.2.2.2.2.2.2.2.2.2.2.1 q hq).2))
   have hbs2 : base ≤ w2.heap.size := by
    obtain ⟨_, _, q1, _⟩ := HRf.out.lts_mb
    exact q1
   have HPp := qd ((rest_perm e.key HD.out.same).trans hpp.symm)
   clear hpp hc1 hc2 hc3 a0 a2 HCl
   have a0 := HA.out.cell 0
   simp only [gl] at a0
   have hrf := ref_del HRf.out HN.out.1 (by have := HN.out.2.1; omega) e.key hbs2
   rw [HU.out] at hrf
   have HRc := qd hrf
   clear hrf hbs2
   go_wp2_with fail
   refine HRc.out.mono ?_
   rintro y w3 ⟨rfl, hro⟩
   have HFin := qd (HD.out.to HTo.out hro HPp.out)
   clear hro HRc a0
   cases b with
   | true =>
    go_wp2
    go_ret
    exact ⟨rfl, HFin.out.from_ HW.out⟩
   | false =>
    go_wp2
    go_ret
    exact ⟨rfl, HFin.out.from_ HW.out⟩
  ·have hk1 : ¬ act.kind = 1 := hk
   clear hk
   by_cases hk : act.kind = 2
   ·have hk2 : act.kind = 2 := hk
    rw [hk2] at b0
    have a0 := HA.out.cell 0
    have a2 := HA.out.cell 2
    simp only [gl] at a0 a2
    have hcl := at_get HD.out.core e.key (by rw [HKy.out]; exact HE.out.h64)
    rw [HKy.out] at hcl
    have HCl := qd hcl
    unfold coreP at HCl
    clear hcl
    obtain ⟨u, b, hub⟩ : ∃ u b, getV a.ents e.key = .tuple #[.int .u64 u, .bool b] := ⟨_, _, rfl⟩
    have hub2 : getV es e.key = .tuple #[.int .u64 u, .bool b] := (getV_perm HD.out.same HN.out.1 e.key).trans hub
    rw [hub] at HCl
    have HU := qd hub2
    clear hub hub2
    go_wp2_with fail
    refine HCl.out.mono ?_
    rintro y w2 ⟨rfl, hto⟩
    obtain ⟨a', ha'⟩ : ∃ a', a' = a := ⟨_, rfl⟩
    obtain ⟨ids', hids'⟩ : ∃ ids', ids' = ids := ⟨_, rfl⟩
    rw [← ha', ← hids'] at hto
    obtain ⟨G2, hc1, hc2, hc3⟩ := hto
    have HTo := qd (show CoreTo W0 E H Kk M cb G w1 w2 a' ids' from ⟨G2, hc1, hc2, hc3⟩)
    replace HA := qd (HA.out.mod hc3 HNG.out.1)
    replace HB := qd (HB.out.mod hc3 HNG.out.2.1)
    have HRf := qd (HD.out.ref.mod hc3 HD.out.apart)
    have HEn2 := qd (HEn1.out.mod hc3 (fun q hq => (HD.out.core.facts.2.2.2.2.2.2.2.2.2.2.1 q hq).2))
    have hbs2 : base ≤ w2.heap.size := by
     obtain ⟨_, _, q1, _⟩ := HRf.out.lts_mb
     exact q1
    have HPp := qd (show es.Perm a'.ents from by rw [ha']; exact HD.out.same)
    clear hc1 hc2 hc3 a0 a2 HCl
    have a0 := HA.out.cell 0
    simp only [gl] at a0
    have hrf := ref_get HRf.out HN.out.1 (by have := HN.out.2.1; omega) e.key
    rw [HU.out] at hrf
    have HRc := qd hrf
    clear hrf hbs2 ha' hids'
    go_wp2_with fail
    refine HRc.out.mono ?_
    rintro y w3 ⟨rfl, hro⟩
    have HFin := qd (HD.out.to HTo.out (HRf.out.same hro) HPp.out)
    clear hro HRc a0
    cases b with
    | true =>
     go_wp2
     go_ret
     exact ⟨rfl, HFin.out.from_ HW.out⟩
    | false =>
     go_wp2
     go_ret
     exact ⟨rfl, HFin.out.from_ HW.out⟩
   ·have hk2 : ¬ act.kind = 2 := hk
    clear hk
    by_cases hk : act.kind = 3
    ·have hk3 : act.kind = 3 := hk
     rw [hk3] at b0
     have hwn : IntKind.u64.wrap act.n = (((act.n % 18446744073709551616).toNat : Nat) : Int) := by
      have : IntKind.u64.wrap act.n = act.n % 18446744073709551616 := by first | rfl | (simp [IntKind.wrap])
      rw [this]; omega
     obtain ⟨kn, hkn⟩ : ∃ q : Nat, q = (act.n % 18446744073709551616).toNat := ⟨_, rfl⟩
     rw [← hkn] at hwn
     have a2 := HA.out.cell 2
     simp only [gl] at a2
     have b2 := HB.out.cell 2
     simp only [gl] at b2
     have hcl := at_Least HD.out.core kn e.hash HE.out.h64
     unfold coreP at hcl
     have HCl := qd hcl
     clear hcl hkn
     unfold entV at HCl
     go_wp2_with fail
     refine HCl.out.mono ?_
     rintro y w2 ⟨o, hi, rfl, hhi, hhi64, _, hIs, hto⟩
     obtain ⟨a', ha'⟩ : ∃ a', a' = a := ⟨_, rfl⟩
     obtain ⟨ids', hids'⟩ : ∃ ids', ids' = ids := ⟨_, rfl⟩
     rw [← ha', ← hids'] at hto
     obtain ⟨G2, hc1, hc2, hc3⟩ := hto
     have HTo := qd (show CoreTo W0 E H Kk M cb G w1 w2 a' ids' from ⟨G2, hc1, hc2, hc3⟩)
     replace HA := qd (HA.out.mod hc3 HNG.out.1)
     replace HB := qd (HB.out.mod hc3 HNG.out.2.1)
     have HRf := qd (HD.out.ref.mod hc3 HD.out.apart)
     have HEn2 := qd (HEn1.out.mod hc3 (fun q hq => (HD.out.core.facts.2.2.2.2.2.2.2.2.2.2.1 q hq).2))
     have hbs2 : base ≤ w2.heap.size := by
      obtain ⟨_, _, q1, _⟩ := HRf.out.lts_mb
      exact q1
     have HPp := qd (show es.Perm a'.ents from by rw [ha']; exact HD.out.same)
     have HIs := qd hIs
     clear hc1 hc2 hc3 a2 b2 HCl hIs hbs2 ha' hids'
     obtain ⟨x, hx⟩ : ∃ x : Ent, x = o.getD ⟨0, 0, 0⟩ := ⟨_, rfl⟩
     obtain ⟨b, hb⟩ : ∃ b, b = o.isSome := ⟨_, rfl⟩
     rw [← hx, ← hb]
     have HX := qd hx
     have HBo := qd hb
     clear hx hb
     have hB3 := Blk.new w2 37 #[.int .u64 (x.key : Int), .int .u64 (x.val : Int), .int .u64 (x.hash : Int)]
     have hb3 := (Below.refl w2.heap.size w2).alloc (Nat.le_refl _) (.cells #[.int .u64 (x.key : Int), .int .u64 (x.val : Int), .int .u64 (x.hash : Int)] 37)
     go_upto_region 14 with fail
     refine nameW (F := fun v => Blk v w2.heap.size 37 #[.int .u64 (x.key : Int), .int .u64 (x.val : Int), .int .u64 (x.hash : Int)] ∧ Below w2.heap.size w2 v) ⟨hB3, hb3⟩ ?_
     clear hB3 hb3
     rintro w3 ⟨hB3, hb3⟩
     replace HA := qB hb3 HA
     replace HB := qB hb3 HB
     have HRf3 := qd (HRf.out.below hb3)
     have HW3 := qd hb3
     obtain ⟨xb, hxb⟩ : ∃ xb, xb = w2.heap.size := ⟨_, rfl⟩
     rw [← hxb] at hB3 ⊢
     have HXb := qd hB3
     have hxb2 : w2.heap.size ≤ xb := by omega
     clear hB3 hb3 hxb
     have a2 := HA.out.cell 2
     simp only [gl] at a2
     have b2 := HB.out.cell 2
     simp only [gl] at b2
     have hrf := ref_least HRf3.out (by have := HN.out.2.1; omega) kn e.hash
     have HRc := qd hrf
     unfold entV at HRc
     clear hrf
     go_wp2_with fail
     refine HRc.out.mono ?_
     rintro y w4 ⟨oy, rfl, hIy, hb4⟩
     have hlu := least_upto HD.out.same HN.out.1 hIy HIs.out
     replace HA := qB hb4 HA
     replace HXb := qB hb4 HXb
     replace HW3 := qd (below2 HW3.out hb4)
     have hxlt := HXb.out.lt
     have healt := HA.out.lt
     clear hb4 HRc hIy a2 b2 hwn
     obtain ⟨yy, hyy⟩ : ∃ x : Ent, x = oy.getD ⟨0, 0, 0⟩ := ⟨_, rfl⟩
     obtain ⟨c, hc⟩ : ∃ b, b = oy.isSome := ⟨_, rfl⟩
     rw [← hyy, ← hc]
     have hB5 := Blk.new w4 37 #[.int .u64 (yy.key : Int), .int .u64 (yy.val : Int), .int .u64 (yy.hash : Int)]
     have hb5 := (Below.refl w4.heap.size w4).alloc (Nat.le_refl _) (.cells #[.int .u64 (yy.key : Int), .int .u64 (yy.val : Int), .int .u64 (yy.hash : Int)] 37)
     have HYy := qd hyy
     have HC := qd hc
     clear hyy hc
     go_upto_region 15 with fail
     refine nameW (F := fun v => Blk v w4.heap.size 37 #[.int .u64 (yy.key : Int), .int .u64 (yy.val : Int), .int .u64 (yy.hash : Int)] ∧ Below w4.heap.size w4 v) ⟨hB5, hb5⟩ ?_
     clear hB5 hb5
     rintro w5 ⟨hB5, hb5⟩
     replace HA := qB hb5 HA
     replace HXb := qB hb5 HXb
     replace HW3 := qd (below2 HW3.out hb5)
     have hz3 := HW3.out.size
     obtain ⟨yb, hyb⟩ : ∃ yb, yb = w4.heap.size := ⟨_, rfl⟩
     rw [← hyb] at hB5 ⊢
     have hxl := HXb.out.lt
     have hne : xb ≠ yb := fun h => by
      have := HXb.out.lt
      have := hxlt
      omega
     have HYb := qd hB5
     have hnea : eb ≠ yb := fun h => by
      have := healt
      omega
     have hyb2 : w2.heap.size ≤ yb := by have := hb5.size; have := hxlt; omega
     clear hB5 hb5 hyb
     have hge : (e.hash : Int) ≤ (hi : Int) := by omega
     cases oy with
     | none =>
      obtain rfl : o = none := hlu.symm
      obtain rfl := HYy.out
      obtain rfl := HX.out
      obtain rfl := HC.out
      obtain rfl := HBo.out
      simp only [Option.isSome_none, Option.getD_none]
      replace HYb := qd (show Blk w5 yb 37 #[.int .u64 0, .int .u64 0, .int .u64 0] from HYb.out)
      replace HXb := qd (show Blk w5 xb 37 #[.int .u64 0, .int .u64 0, .int .u64 0] from HXb.out)
      have a2 := HA.out.cell 2
      simp only [gl] at a2
      obtain ⟨x0, x1, x2⟩ := HXb.out.c3
      obtain ⟨y0, y1, y2⟩ := HYb.out.c3
      have g := HYb.out.f3
      have hnew := ((HYb.out.set_ 0 (.int .u64 0)).set_ 1 (.int .u64 0)).set_ 2 (.int .u64 0)
      have hm := (((Mod.refl [yb] w5).sl 0 (.int .u64 0)).sl 1 (.int .u64 0)).sl 2 (.int .u64 0)
      simp only [pt] at hnew
      have HNw := qd hnew
      have HMd := qd hm
      clear hnew hm
      go_upto_region 18 with fail
      refine nameW (F := fun v => Blk v yb 37 #[.int .u64 0, .int .u64 0, .int .u64 0] ∧ Mod [yb] w5 v) ⟨HNw.out, HMd.out⟩ ?_
      clear HNw HMd x0 x1 x2 a2 y0 y1 y2 g
      rintro w6 ⟨hY6, hm6⟩
      replace HA := qd (HA.out.mod hm6 (by simp; exact hnea))
      replace HXb := qd (HXb.out.mod hm6 (by simp; exact hne))
      replace HYb := qd hY6
      replace HW3 := qd (((Mod.of_below HW3.out [yb]).trans hm6 (fun _ hh _ => hh) (fun k hk hl => by rw [List.mem_singleton.1 hk] at hl ⊢; omega)).below (fun k hk => by rw [List.mem_singleton.1 hk]; omega) (Nat.le_refl _))
      clear hY6 hm6
      have a2 := HA.out.cell 2
      simp only [gl] at a2
      obtain ⟨x0, x1, x2⟩ := HXb.out.c3
      obtain ⟨y0, y1, y2⟩ := HYb.out.c3
      go_wp2
      go_ret
      exact ⟨rfl, (HD.out.to HTo.out (HRf.out.same HW3.out) HPp.out).from_ HW.out⟩
     | some m =>
      by_cases hmh : m.hash ≤ hi
      ·have hlu2 : some m = o := by simpa [cutAt, hmh] using hlu
       subst hlu2
       obtain rfl : yy = m := HYy.out
       obtain rfl : x = yy := HX.out
       obtain rfl := HC.out
       obtain rfl := HBo.out
       simp only [Option.isSome_some]
       have hmI : (x.hash : Int) ≤ (hi : Int) := by omega
       clear hlu
       have a2 := HA.out.cell 2
       simp only [gl] at a2
       obtain ⟨x0, x1, x2⟩ := HXb.out.c3
       obtain ⟨y0, y1, y2⟩ := HYb.out.c3
       go_wp2
       go_ret
       exact ⟨rfl, (HD.out.to HTo.out (HRf.out.same HW3.out) HPp.out).from_ HW.out⟩
      ·have hlu2 : none = o := by simpa [cutAt, hmh] using hlu
       subst hlu2
       obtain rfl : yy = m := HYy.out
       obtain rfl := HX.out
       obtain rfl := HC.out
       obtain rfl := HBo.out
       simp only [Option.isSome_some, Option.isSome_none, Option.getD_none]
       have hmI : ¬ (yy.hash : Int) ≤ (hi : Int) := by omega
       clear hlu
       replace HXb := qd (show Blk w5 xb 37 #[.int .u64 0, .int .u64 0, .int .u64 0] from HXb.out)
       have y2' := HYb.out.cell 2
       simp only [gl] at y2'
       have a2 := HA.out.cell 2
       simp only [gl] at a2
       obtain ⟨x0, x1, x2⟩ := HXb.out.c3
       obtain ⟨y0, y1, y2⟩ := HYb.out.c3
       have g := HYb.out.f3
       have hnew := ((HYb.out.set_ 0 (.int .u64 0)).set_ 1 (.int .u64 0)).set_ 2 (.int .u64 0)
       have hm := (((Mod.refl [yb] w5).sl 0 (.int .u64 0)).sl 1 (.int .u64 0)).sl 2 (.int .u64 0)
       simp only [pt] at hnew
       have HNw := qd hnew
       have HMd := qd hm
       clear hnew hm
       go_upto_region 18 with fail
       refine nameW (F := fun v => Blk v yb 37 #[.int .u64 0, .int .u64 0, .int .u64 0] ∧ Mod [yb] w5 v) ⟨HNw.out, HMd.out⟩ ?_
       clear HNw HMd x0 x1 x2 a2 y0 y1 y2 g
       rintro w6 ⟨hY6, hm6⟩
       replace HA := qd (HA.out.mod hm6 (by simp; exact hnea))
       replace HXb := qd (HXb.out.mod hm6 (by simp; exact hne))
       replace HYb := qd hY6
       replace HW3 := qd (((Mod.of_below HW3.out [yb]).trans hm6 (fun _ hh _ => hh) (fun k hk hl => by rw [List.mem_singleton.1 hk] at hl ⊢; omega)).below (fun k hk => by rw [List.mem_singleton.1 hk]; omega) (Nat.le_refl _))
       clear hY6 hm6
       have a2 := HA.out.cell 2
       simp only [gl] at a2
       obtain ⟨x0, x1, x2⟩ := HXb.out.c3
       obtain ⟨y0, y1, y2⟩ := HYb.out.c3
       go_wp2
       go_ret
       exact ⟨rfl, (HD.out.to HTo.out (HRf.out.same HW3.out) HPp.out).from_ HW.out⟩
    ·have hk3 : ¬ act.kind = 3 := hk
     clear hk
     have n0 : ¬ act.kind = 0 := hk0
     have n1 : ¬ act.kind = 1 := hk1
     have n2 : ¬ act.kind = 2 := hk2
     have n3 : ¬ act.kind = 3 := hk3
     go_wp2
     go_ret
     exact ⟨rfl, G, R, a, ids, es, HD.out, fun q hq => .inl hq, fun q hq => .inr (.inl hq), Mod.of_below HW.out _⟩
end Go.Proofs.YtcgjgfgkdoohlaaGreatDoor
