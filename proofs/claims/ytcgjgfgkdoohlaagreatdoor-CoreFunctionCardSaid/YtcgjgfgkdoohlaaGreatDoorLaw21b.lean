/- amblerlaw21.CoreFunction: its walk: whatever the configuration, the hashes and the acts, true. -/
import Derived.Test.YtcgjgfgkdoohlaaGreatDoorLaw21c
import Derived.Test.YtcgjgfgkdoohlaaGreatDoorSqT
import Derived.Test.YtcgjgfgkdoohlaaGreatDoorLaneP
import Derived.Test.YtcgjgfgkdoohlaaGreatDoorLaw21a
namespace Go.Proofs.YtcgjgfgkdoohlaaGreatDoor
set_option maxRecDepth 100000
set_option maxHeartbeats 1600000
open Go.RowKit AmC
theorem moreT {P : Program} {ops : Array Oper} {Q : Exit → Act → World → Prop} {md : Region.Mode} {S S' : World → Prop} {n : List Nat} (hS : ∀ w, S' w → S w) : ∀ {f : Nat} {listed : Array Bool} {a : Act} {w : World}, wpAnyT P md ops Q S' n f listed a w → wpAnyT P md ops Q S n f listed a w
 | 0, _, _, _, h => h
 | _ + 1, _, _, _, h => ⟨h.1, fun i hi => wpOp_mono (fun _ _ h' => ⟨fun he => hS _ (h'.1 he), moreT hS h'.2⟩) (h.2 i hi)⟩
section
variable {W0 : World} {E : Nat → Addr} {H : Nat → Nat} {Kk M cb rb base : Nat} {G R : List Nat} {w w' w'' : World} {a : Pool} {ids : List Nat} {es : List Ent}
theorem DuoTo.out (h : DuoTo W0 E H Kk M cb rb base G R w w') (hD : Duo W0 E H Kk M cb rb base G R w a ids es) (hb : Below W0.heap.size W0 w) : ∃ G' R' a' ids' es', Duo W0 E H Kk M cb rb base G' R' w' a' ids' es' ∧ Below W0.heap.size W0 w' := by
 obtain ⟨G', R', a', ids', es', h1, h2, h3, h4⟩ := h
 obtain ⟨_, _, _, _, _, _, _, _, _, _, f11, _⟩ := hD.core.facts
 have h5 := hD.ref.lts
 have h6 := hD.base
 exact ⟨G', R', a', ids', es', h1, hb.trans (h4.below (fun q hq => by
  rcases List.mem_append.1 hq with h | h
  ·exact (f11 q h).2
  ·have := (h5 q h).2; omega) hb.size)⟩
theorem DuoTo.low (h : DuoTo W0 E H Kk M cb rb base G R w w') {b : Nat} (hb : b ∉ G ∧ b ∉ R) : ∃ S, Mod S w w' ∧ b ∉ S := by
 obtain ⟨G', R', a', ids', es', h1, h2, h3, h4⟩ := h
 exact ⟨_, h4, by simp [hb.1, hb.2]⟩
theorem Duo.fresh (h : Duo W0 E H Kk M cb rb base G R w a ids es) {b : Nat} (hb : w.heap.size ≤ b) : b ∉ G ∧ b ∉ R := by
 obtain ⟨_, _, _, _, _, _, _, _, _, _, f11, _⟩ := h.core.facts
 exact ⟨fun hq => by have := (f11 b hq).1; omega, fun hq => by have := (h.ref.lts b hq).1; omega⟩
theorem Duo.len (h : Duo W0 E H Kk M cb rb base G R w a ids es) : Calls Tryz.prog 13 #[coreP cb] w fun e w' => e = .returned (.int .i64 (es.length : Int)) ∧ w = w' := by
 rw [h.nd.2.2]; exact at_Len h.core
theorem Duo.new (hc : CoreAt W0 E H Kk M cb G w a ids) (h0 : a.ents = []) (hB : Blk w rb 57 #[.slice none 0 0, .int .i64 (M : Int)]) (hG : rb ∉ G) (hb : W0.heap.size ≤ rb) : Duo W0 E H Kk M cb rb W0.heap.size G [rb] w a ids [] := by
 refine ⟨hc, ⟨none, 0, hB, ⟨by simp, .inl ⟨rfl, rfl⟩⟩, fun g hg => by simp [Value.ownBlock] at hg, hb, by simp [Value.ownBlock]⟩, by rw [h0], fun q hq => by rw [List.mem_singleton.1 hq]; exact hG, Nat.le_refl _⟩
theorem Duo.got {key : Nat} (h : Duo W0 E H Kk M cb rb base G R w a ids es) (h64 : H key < 18446744073709551616) : ∃ u b, getV es key = .tuple #[.int .u64 u, .bool b] ∧ Calls Tryz.prog 24 #[coreP cb, .int .u64 (key : Int), .int .u64 (H key : Int)] w fun y w' => y = .returned (.tuple #[.int .u64 u, .bool b]) ∧ ∃ G', Duo W0 E H Kk M cb rb base G' R w' a ids es ∧ Mod G w w' := by
 refine ⟨_, _, rfl, (at_get h.core key h64).mono ?_⟩
 rintro y w' ⟨rfl, G', c1, c2, c3⟩
 have h2 := h.nd
 refine ⟨by rw [← getV_perm h.same h2.1 key]; rfl, G', ⟨c1, h.ref.mod c3 h.apart, h.same, fun q hq hg => ?_, h.base⟩, c3⟩
 rcases c2 q hg with h3 | h3
 ·exact h.apart q hq h3
 ·have := (h.ref.lts q hq).1; omega
end
theorem law_function {E : Nat → Addr} (k m i : Int) (A : Option Addr) (n c : Nat) (l : List Nat) (B : Option Addr) (ma d : Nat) (acts : List LAct) (w : World) (hE : Env w E w) (hErr : ErrsIn E w) (hl : l.length = n) (hll : ∀ x ∈ l, x < 18446744073709551616) (hR : Reads w w.heap.size 1 A n (numsV l)) (hla : acts.length = ma) (hRa : Reads w w.heap.size 3 B ma (acts.flatMap LAct.cells)) : Calls Tryz.prog 5 #[cfgV k m i, .slice A n c, .slice B ma d] w fun e w' => e = .returned (.bool true) ∧ Below w.heap.size w w' := by
 have HE := qd hE
 have HErr := qd hErr
 have HR := qd hR
 have HRa := qd hRa
 have HL := qd hl
 have HLl := qd hll
 have HLa := qd hla
 have hB0 := Blk.new w 23 #[.int .i64 k, .int .i64 m, .int .i64 i]
 have hb0 := (Below.refl w.heap.size w).alloc (Nat.le_refl _) (.cells #[.int .i64 k, .int .i64 m, .int .i64 i] 23)
 clear hE hErr hR hRa hl hll hla
 unfold cfgV
 go_in
 go_upto_region 1 with fail
 refine nameW (F := fun v => Blk v w.heap.size 23 #[.int .i64 k, .int .i64 m, .int .i64 i] ∧ Below w.heap.size w v) ⟨hB0, hb0⟩ ?_
 clear hB0 hb0
 rintro w1 ⟨hB1, hb1⟩
 have HBx := qd hB1
 have HB1 := qd hb1
 have HE1 := qd (HE.out.next hb1)
 have HAl := qd (law_alive HE1.out)
 clear hB1 hb1
 go_wp2_with fail
 refine HAl.out.mono ?_
 rintro y w2 ⟨rfl, hb2⟩
 replace HBx := qB hb2 HBx
 replace HB1 := qd (below2 HB1.out hb2)
 replace HE1 := qd (HE1.out.next hb2)
 clear hb2 HAl
 have HLg := qd (law_Long A B n c ma d w2)
 go_wp2_with fail
 refine HLg.out.mono ?_
 rintro y w3 ⟨rfl, rfl⟩
 clear HLg
 by_cases hlong : n < 1 ∨ 220 < n ∨ 700 < ma
 ·have hlg : (decide (n < 1) || (decide (220 < n) || decide (700 < ma))) = true := by simp; omega
  rw [hlg]
  clear hlg
  go_wp2
  go_ret
  exact ⟨rfl, HB1.out⟩
 ·have hlg : (decide (n < 1) || (decide (220 < n) || decide (700 < ma))) = false := by simp; omega
  rw [hlg]
  clear hlg
  obtain ⟨k0, k1, k2⟩ := HBx.out.c3
  cases hcf : cfgOk k m i with
  | false =>
   have hnb := core_New_bad HE1.out k m i hcf
   rw [errV_pos E (by omega)] at hnb
   unfold cfgV at hnb
   have HNb := qd hnb
   clear hnb
   go_wp2_with fail
   refine HNb.out.mono ?_
   rintro y w4 ⟨rfl, hb4⟩
   replace HBx := qB hb4 HBx
   replace HB1 := qd (below2 HB1.out hb4)
   replace HE1 := qd (HE1.out.next hb4)
   clear hb4 k0 k1 k2 HNb
   have hck := plan_Check k m i w4 HE1.out.errs
   rw [hcf, if_neg (by decide), errV_pos E (by omega)] at hck
   unfold cfgV at hck
   have HCk := qd hck
   clear hck hcf
   obtain ⟨k0, k1, k2⟩ := HBx.out.c3
   go_wp2_with fail
   refine HCk.out.mono ?_
   rintro y w5 ⟨rfl, hb5⟩
   replace HB1 := qd (below2 HB1.out hb5)
   have hnm := num_err (HErr.out.below HB1.out (Nat.le_refl _)) 1 (by omega) (by omega)
   have HNm := qd hnm
   clear hb5 k0 k1 k2 HCk hnm
   go_wp2_with fail
   refine HNm.out.mono ?_
   rintro y w6 ⟨rfl, hb6⟩
   replace HB1 := qd (below2 HB1.out hb6)
   clear hb6
   go_wp2
   go_ret
   exact ⟨rfl, HB1.out⟩
  | true =>
   obtain ⟨Kk, M, I, hkm⟩ := cfg_nat hcf
   have hnb := core_New (lawH l) HE1.out k m i hcf Kk M I hkm
   have HMm := qd hkm.2.2.2.1
   unfold cfgV at hnb
   have HNw := qd hnb
   clear hnb hkm
   go_wp2_with fail
   refine HNw.out.mono ?_
   rintro y w4 ⟨cb, rfl, hnew⟩
   obtain ⟨G1, hA1, hs1, hm1⟩ := new_at hnew
   have HA1 := qd hA1
   have hb4 := hm1.to_below
   replace HBx := qB hb4 HBx
   replace HB1 := qd (below2 HB1.out hb4)
   replace HE1 := qd (HE1.out.next hb4)
   clear hnew hA1 hs1 hm1 hb4 HNw k0 k1 k2
   have hck := plan_Check k m i w4 HE1.out.errs
   rw [hcf, if_pos rfl] at hck
   unfold cfgV at hck
   have HCk := qd hck
   clear hck hcf
   obtain ⟨k0, k1, k2⟩ := HBx.out.c3
   unfold coreP
   go_wp2_with fail
   refine HCk.out.mono ?_
   rintro y w5 ⟨rfl, hb5⟩
   replace HBx := qB hb5 HBx
   replace HB1 := qd (below2 HB1.out hb5)
   replace HA1 := qd (HA1.out.below hb5)
   clear hb5 k0 k1 k2 HCk
   have hmM := HMm.out
   subst hmM
   have k1 := HBx.out.cell 1
   simp only [gl] at k1
   have hRb := Blk.new w5 57 #[.slice none 0 0, .int .i64 (M : Int)]
   have hb6 := (Below.refl w5.heap.size w5).alloc (Nat.le_refl _) (.cells #[.slice none 0 0, .int .i64 (M : Int)] 57)
   go_upto_region 11 with fail
   refine nameW (F := fun v => Blk v w5.heap.size 57 #[.slice none 0 0, .int .i64 (M : Int)] ∧ Below w5.heap.size w5 v) ⟨hRb, hb6⟩ ?_
   clear hRb hb6
   rintro w6 ⟨hRb, hb6⟩
   have hz5 := HB1.out.size
   have hrb : w5.heap.size ∉ G1 := fun h => by have := (HA1.out.facts.2.2.2.2.2.2.2.2.2.2.1 _ h).1; omega
   have hD0 := Duo.new (HA1.out.below hb6) ents0 hRb hrb (by omega)
   have HB6 := qd (below2 HB1.out hb6)
   obtain ⟨rb, hrbe⟩ : ∃ rb, rb = w5.heap.size := ⟨_, rfl⟩
   rw [← hrbe] at hD0 ⊢
   have HD := qd hD0
   clear hRb hb6 hz5 hrb hD0 hrbe HA1 HB1 HE1 HBx k1
   go_wp2
   go_loopw [11, 50] (fun _ v50 wr => ∃ (j : Nat) (G R : List Nat) (a : Pool) (ids : List Nat) (es : List Ent), j ≤ ma ∧ v50 = .int .i64 (j : Int) ∧ Hid (Duo w E (lawH l) Kk M cb rb w.heap.size G R wr a ids es) ∧ Hid (Below w.heap.size w wr)) (fun _ v50 _ => ma - (intOf v50).toNat)
   case atStart => exact ⟨0, _, _, _, _, _, by omega, rfl, HD, HB6⟩
   case round =>
    clear HD HB6
    obtain ⟨j, G, R, a, ids, es, hj, rfl, HD, HB⟩ := hrel
    have hma : ma ≤ 700 := by omega
    by_cases hlt : j < ma
    ·have hlt' : (j : Int) < (ma : Int) := by omega
     have hj0 : (0 : Int) ≤ (j : Int) := by omega
     obtain ⟨act, hact⟩ : ∃ act, acts[j]? = some act := ⟨_, List.getElem?_eq_getElem (by have := HLa.out; omega)⟩
     obtain ⟨g, off, hBv, hgl, m0, m1, m2⟩ := act_cells HRa.out HLa.out hact
     have hkp := fun (p : Addr) (v : Value) (hp : p.block < w.heap.size) (hh : w.cell? p = some v) => (World.cell?_of_block (HB.out.block p.block hp)).trans hh
     have r0 := hkp _ _ hgl m0
     have r1 := hkp _ _ hgl m1
     have r2 := hkp _ _ hgl m2
     have HBv := qd hBv
     subst hBv
     clear m0 m1 m2 hkp hact
     go_upto_region 14 with fail
     refine nameB 34 #[.int .i64 act.kind, .int .i64 act.key, .int .i64 act.n] ?_
     rintro w5 ⟨hB5, hb5⟩
     have HNb := qd (HD.out.fresh (Nat.le_refl wr.heap.size))
     have hdr : Below w5.heap.size w5 w5.drew := (Below.refl _ _).drew
     replace HD := qd (HD.out.below (below2 hb5 hdr))
     replace HB := qd (below2 HB.out (below2 hb5 hdr))
     obtain ⟨bx, hbx⟩ : ∃ bx, bx = wr.heap.size := ⟨_, rfl⟩
     rw [← hbx] at hB5 HNb ⊢
     have HBx := qd hB5.drew
     have HJ := qd (Nat.succ_le_of_lt hlt)
     have HMe := qd (fewer_rounds hlt)
     clear hB5 hb5 hdr r0 r1 r2 hbx
     obtain ⟨a0, a1, a2⟩ := HBx.out.c3
     refine region_T (fun (w' : World) => w'.cell? ⟨bx, 0, none⟩ = some (.int .i64 act.kind) ∧ w'.cell? ⟨bx, 1, none⟩ = some (.int .i64 act.key) ∧ w'.cell? ⟨bx, 2, none⟩ = some (.int .i64 act.n)) [] (by kernel_rfl) ?_
     try (change wpAnyT _ _ _ _ _ _ _ _ _ (World.drew _))
     have hHeld := (⟨a0, a1, a2⟩ : _ ∧ _ ∧ _)
     refine vW 0 rfl ?_
     refine vW 1 rfl ?_
     refine vW 2 rfl ?_
     refine vT 3 rfl ?_
     refine vT 5 rfl ?_
     refine nT 4 rfl fun K hK => ?_
     go_simp
     have hEn := law_Entry A n c l act (by omega) HL.out w5.drew (by
      obtain ⟨q1, q2⟩ := HR.out
      refine ⟨q1, fun hp => ?_⟩
      obtain ⟨g', off', z1, z2, z3⟩ := q2 hp
      have hzz := HB.out.size
      exact ⟨g', off', z1, by omega, fun jj u hu => (World.cell?_of_block (HB.out.block _ z2)).trans (z3 jj u hu)⟩)
     unfold actV at hEn
     refine hEn.mono ?_
     rintro y w6 ⟨rfl, hb6⟩
     replace HD := qd (HD.out.below hb6)
     replace HB := qd (below2 HB.out hb6)
     replace HBx := qB hb6 HBx
     have HE5 := qd (entOf_ok HLl.out (by have := HL.out; omega) act)
     obtain ⟨e, he⟩ : ∃ e, e = entOf l act := ⟨_, rfl⟩
     rw [← he] at HE5 ⊢
     clear hEn hb6 he a0 a1 a2
     obtain ⟨a0, a1, a2⟩ := HBx.out.c3
     have hHeld := (⟨a0, a1, a2⟩ : _ ∧ _ ∧ _)
     refine kO hK ?_
     clear hK K
     refine nT 6 rfl fun K hK => ?_
     go_simp
     have hDo := law_do HD.out HErr.out e HE5.out act
     unfold coreP actV at hDo
     refine hDo.mono ?_
     rintro y w7 ⟨rfl, hto⟩
     obtain ⟨S7, hS7, hbS⟩ := hto.low HNb.out
     replace HBx := qd (HBx.out.mod hS7 hbS)
     obtain ⟨G', R', a', ids', es', hD', hB'⟩ := hto.out HD.out HB.out
     have HD2 := qd hD'
     replace HB := qd hB'
     have hLn := hD'.len
     obtain ⟨A1, c1, hRB, _⟩ := hD'.ref.reads
     have rc := hRB.cell 0
     simp only [List.getElem?_toArray, List.getElem?_cons_zero] at rc
     clear hDo hto hS7 hbS hD' hB' hRB a0 a1 a2
     obtain ⟨a0, a1, a2⟩ := HBx.out.c3
     have hHeld := (⟨a0, a1, a2⟩ : _ ∧ _ ∧ _)
     refine kO hK ?_
     clear hK K
     refine moreT (S' := fun (w' : World) => (w'.cell? ⟨bx, 0, none⟩ = some (.int .i64 act.kind) ∧ w'.cell? ⟨bx, 1, none⟩ = some (.int .i64 act.key) ∧ w'.cell? ⟨bx, 2, none⟩ = some (.int .i64 act.n)) ∧ w'.cell? ⟨rb, 0, none⟩ = some (.slice A1 es'.length c1)) (fun _ h => h.1) ?_
     have hHeld : (fun (w' : World) => (w'.cell? ⟨bx, 0, none⟩ = some (.int .i64 act.kind) ∧ w'.cell? ⟨bx, 1, none⟩ = some (.int .i64 act.key) ∧ w'.cell? ⟨bx, 2, none⟩ = some (.int .i64 act.n)) ∧ w'.cell? ⟨rb, 0, none⟩ = some (.slice A1 es'.length c1)) w7 := ⟨⟨a0, a1, a2⟩, rc⟩
     refine vW 7 rfl ?_
     refine vW 8 rfl ?_
     refine vW 9 rfl ?_
     refine vW 11 rfl ?_
     refine vW 12 rfl ?_
     refine vW 13 rfl ?_
     refine vT 14 rfl ?_
     refine vW 15 rfl ?_
     refine nT 10 rfl fun K hK => ?_
     go_simp
     refine hLn.mono ?_
     rintro y w8 ⟨rfl, rfl⟩
     refine kO hK ?_
     clear hK K
     refine vW 16 rfl ?_
     refine vW 17 rfl ?_
     refine doneT (by kernel_rfl) ?_ _
     go_wp2
     go_roundw
     all_goals first | exact ⟨⟨j + 1, G', R', a', ids', es', HJ.out, rfl, HD2, HB⟩, HMe.out⟩ | exact ⟨j + 1, G', R', a', ids', es', HJ.out, rfl, HD2, HB⟩ | exact HMe.out
    ·obtain rfl : j = ma := by omega
     have hlt' : ¬ (j : Int) < (j : Int) := by omega
     clear hj hma
     go_wp2
     go_loopw [12, 13, 14, 15, 16, 17, 75] (fun _ _ _ _ _ _ v75 wq => ∃ (q : Nat) (G R : List Nat), q ≤ n ∧ v75 = .int .i64 (q : Int) ∧ Hid (Duo w E (lawH l) Kk M cb rb w.heap.size G R wq a ids es) ∧ Hid (Below w.heap.size w wq)) (fun _ _ _ _ _ _ v75 _ => n - (intOf v75).toNat)
     case atStart => exact ⟨0, G, R, by omega, rfl, HD, HB⟩
     case round =>
      clear HD HB
      obtain ⟨q, G, R, hq, rfl, HD, HB⟩ := hrel
      by_cases hltq : q < n
      ·have hltI : (q : Int) < (n : Int) := by omega
       have hq0 : (0 : Int) ≤ (q : Int) := by omega
       obtain ⟨g, off, hAv, hgl, hcell⟩ := HR.out.2 (by omega)
       obtain ⟨x, hx⟩ : ∃ x, x = l.getD q 0 := ⟨_, rfl⟩
       have hc : w.cell? ⟨g, off + q, none⟩ = some (.int .u64 (x : Int)) := hcell q _ (by
        have := HL.out
        unfold numsV
        rw [List.getElem?_map, List.getElem?_eq_getElem (by omega), hx, List.getD_eq_getElem?_getD, List.getElem?_eq_getElem (by omega)]; rfl)
       have rc := (World.cell?_of_block (HB.out.block g hgl)).trans hc
       have hwk : IntKind.u64.wrap (q : Int) = (q : Int) := by
        have : IntKind.u64.wrap (q : Int) = (q : Int) % 18446744073709551616 := by first | rfl | (simp [IntKind.wrap])
        rw [this]; omega
       obtain ⟨u, b, hub, hgt⟩ := HD.out.got (key := q) (lawH_lt HLl.out q)
       rw [show lawH l q = x from hx.symm] at hgt
       unfold coreP at hgt
       have HGt := qd hgt
       have HU := qd hub
       have HAv := qd hAv
       have HJ := qd (Nat.succ_le_of_lt hltq)
       have HMe := qd (fewer_rounds hltq)
       subst hAv
       clear hcell hc hgt hub hx
       go_wp2_with fail
       refine HGt.out.mono ?_
       rintro y w7 ⟨rfl, G', hD', hM7⟩
       have HB7 := qd (HB.out.trans (hM7.below (fun k hk => (HD.out.core.facts.2.2.2.2.2.2.2.2.2.2.1 k hk).2) HB.out.size))
       replace HD := qd hD'
       have hrg := ref_get HD.out.ref HD.out.nd.1 (by have := HD.out.nd.2.1; omega) q
       rw [HU.out] at hrg
       have HRg := qd hrg
       clear hD' hM7 hrg rc HGt
       go_wp2_with fail
       refine HRg.out.mono ?_
       rintro y w8 ⟨rfl, hb8⟩
       replace HD := qd (HD.out.below hb8)
       replace HB := qd (below2 HB7.out hb8)
       clear hb8 HRg HB7
       cases b with
       | true =>
        go_wp2
        go_roundw
        all_goals first | exact ⟨⟨q + 1, G', R, HJ.out, rfl, HD, HB⟩, HMe.out⟩ | exact ⟨q + 1, G', R, HJ.out, rfl, HD, HB⟩ | exact HMe.out
       | false =>
        go_wp2
        go_roundw
        all_goals first | exact ⟨⟨q + 1, G', R, HJ.out, rfl, HD, HB⟩, HMe.out⟩ | exact ⟨q + 1, G', R, HJ.out, rfl, HD, HB⟩ | exact HMe.out
      ·obtain rfl : q = n := by omega
       have hltI : ¬ (q : Int) < (q : Int) := by omega
       go_wp2
       go_ret
       exact ⟨rfl, HB.out⟩
end Go.Proofs.YtcgjgfgkdoohlaaGreatDoor
