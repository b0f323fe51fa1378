/- A core's New by its contract. -/
import Derived.Test.YtgfcmdmpegomdaaGreatDoorCoCQ
import Derived.Test.YtgfcmdmpegomdaaGreatDoorSqM
import Derived.Test.YtgfcmdmpegomdaaGreatDoorLaneP
import Derived.Test.YtgfcmdmpegomdaaGreatDoorCoBO
namespace Go.Proofs.YtgfcmdmpegomdaaGreatDoor
set_option maxRecDepth 100000
set_option maxHeartbeats 4000000
open Go.RowKit AmC Go.Maps
section
variable {W0 w : World} {E : Nat → Addr}
def NewAt (W0 : World) (E : Nat → Addr) (H : Nat → Nat) (K M : Nat) (w : World) (mb : Nat) (w' : World) : Prop := ∃ (C : CPl) (F : List Nat), C.mb = mb ∧ C.K = K ∧ C.M = M ∧ CoreF W0 E H C w [] w' F st0
theorem core_New (H : Nat → Nat) (hE : Env W0 E w) (k m i : Int) (hcf : cfgOk k m i = true) (K M I : Nat) (hkm : (1 ≤ K ∧ K ≤ 64) ∧ (1 ≤ M ∧ M ≤ 192) ∧ k = (K : Int) ∧ m = (M : Int) ∧ i = (I : Int)) : Calls Tryz.prog 39 #[cfgV k m i] w fun e w' => ∃ mb, e = .returned (.tuple #[coreP mb, .nilIface]) ∧ NewAt W0 E H K M w mb w' := by
 have HKk := qd hkm
 clear hkm
 have HEr := qd hE
 have hB0 := Blk.new w 30 #[.int .i64 k, .int .i64 m, .int .i64 i]
 have hb0 := (Below.refl w.heap.size w).alloc (Nat.le_refl _) (.cells #[.int .i64 k, .int .i64 m, .int .i64 i] 30)
 unfold cfgV
 go_in
 go_upto_region 1 with fail
 refine nameW (F := fun v => Blk v w.heap.size 30 #[.int .i64 k, .int .i64 m, .int .i64 i] ∧ Below w.heap.size w v) ⟨hB0, hb0⟩ ?_
 clear hB0 hb0
 rintro w1 ⟨hB1, hb1⟩
 obtain ⟨bx, hbx⟩ : ∃ bx, bx = w.heap.size := ⟨_, rfl⟩
 rw [← hbx] at hB1 ⊢
 have HBx := qd hbx
 have HB := qd hB1
 have HE1 := qd (hE.mod (Mod.of_below hb1 []) (by simp))
 have HBl := qd hb1
 obtain ⟨k0, k1, k2⟩ := hB1.c3
 have HCh := qd (plan_Check k m i w1 HE1.out.errs)
 rw [hcf] at HCh
 simp only [if_true] at HCh
 unfold cfgV at HCh
 have hz1 := hb1.size
 have hbxl := HB.out.lt
 clear hB1 hb1 hE hbx
 go_wp2_with fail
 refine HCh.out.mono ?_
 rintro y w2 ⟨rfl, hb2⟩
 replace HB := qB hb2 HB
 replace HBl := qd (below2 HBl.out hb2)
 replace HE1 := qB hb2 HE1
 have hz2 := hb2.size
 clear hb2 HCh k0 k1 k2
 go_wp2_with fail
 refine (node_New w2).mono ?_
 rintro y w3 ⟨nb, tb, gb, rfl, hn1, hn2, ⟨l1, l2, l3, l4, l5⟩, hb3⟩
 have HN := qd (show NdAt w3 nb [nb, tb, gb] nd0 from ⟨tb, gb, hn1, hn2, rfl, l4, l5⟩)
 replace HB := qB hb3 HB
 replace HBl := qd (below2 HBl.out hb3)
 replace HE1 := qB hb3 HE1
 have hz3 := hb3.size
 have l6 := hn2.ne
 have hnl := HN.out.lts
 have hn1l := hnl nb (by simp)
 have hn2l := hnl tb (by simp)
 have hn3l := hnl gb (by simp)
 clear hb3 hn1 hn2 hnl
 unfold nodeP
 have HDn := qd (show Calls Tryz.prog 65 #[.int .i64 0] w3 _ from dir_New 0 (by omega) w3)
 unfold dirP at HDn
 go_wp2_with fail
 refine HDn.out.mono ?_
 rintro y w4 ⟨rfl, hd4, hb4⟩
 have HD := qd (show DirAt w4 (w3.heap.size + 1) w3.heap.size 0 [0] from hd4)
 replace HN := qd (HN.out.mod (Mod.of_below hb4 []) (by simp))
 replace HB := qB hb4 HB
 replace HBl := qd (below2 HBl.out hb4)
 replace HE1 := qB hb4 HE1
 have hz4 := hb4.size
 have hd1l := HD.out.lt
 have hd2l := HD.out.ltE
 obtain ⟨db, hdb⟩ : ∃ db, db = w3.heap.size + 1 := ⟨_, rfl⟩
 obtain ⟨eb, heb⟩ : ∃ eb, eb = w3.heap.size := ⟨_, rfl⟩
 rw [← hdb, ← heb] at HD
 rw [← hdb]
 rw [← hdb] at hd1l
 rw [← heb] at hd2l
 have HDb := qd hdb
 have HEb := qd heb
 clear hb4 hd4 HDn hdb heb
 have kk := HB.out.c3
 have HSn := qd (sched_New k (by have := HKk.out; omega) (adr0 nb db eb).val w4 HE1.out.errs)
 unfold schP at HSn
 go_wp2_with fail
 refine HSn.out.mono ?_
 rintro y w5 ⟨sb, qb, rb, jb, rfl, hs5, hsl, hb5⟩
 have HS := qd hs5
 replace HN := qd (HN.out.mod (Mod.of_below hb5 []) (by simp))
 replace HD := qB hb5 HD
 replace HB := qB hb5 HB
 replace HBl := qd (below2 HBl.out hb5)
 replace HE1 := qB hb5 HE1
 have hz5 := hb5.size
 have HSl := qd hsl
 clear kk hb5 hs5 HSn hsl
 have kk := HB.out.c3
 go_wp2
 have hrow := World.ownsRow_lit (base := W0.heap.size) (e := 118) (size := 1) w5 #[.pointer (some ⟨nb, 0, none⟩)] 1 (by have := HE1.out.size; omega) (by decide) rfl
 have hb6 : Below w5.heap.size w5 (w5.alloc (.cells #[.pointer (some ⟨nb, 0, none⟩)] 118)) := (Below.refl _ _).alloc (Nat.le_refl _) _
 have hm6 := Mod.of_below hb6 []
 have hsl := HSl.out
 have hd1 := HDb.out
 have hd2 := HEb.out
 have s1 := hsl sb (by simp)
 have s2 := hsl qb (by simp)
 have s3 := hsl rb (by simp)
 have s4 := hsl jb (by simp)
 have hslt := HS.out.lt
 have t1 := hslt sb (by simp)
 have t2 := hslt qb (by simp)
 have t3 := hslt rb (by simp)
 have t4 := hslt jb (by simp)
 have hbx9 := HBx.out
 obtain ⟨F, hF⟩ := CoreF.fresh H (w := w) (w5 := w5.alloc (.cells #[.pointer (some ⟨nb, 0, none⟩)] 118)) (nb := nb) (tb := tb) (gb := gb) (db := db) (eb := eb) (sb := sb) (qb := qb) (rb := rb) (jb := jb) (vb := w5.heap.size) (K := K) (M := M) (I := I) HEr.out HKk.out.1 HKk.out.2.1 (below2 HBl.out hb6) (HN.out.mod hm6 (by simp)) (HD.out.mod hm6 (by simp) (by simp)) (HKk.out.2.2.1 ▸ HS.out.mod hm6 (by simp)) hrow
  (by intro q hq; simp at hq; omega) (by intro q hq; simp at hq ⊢; omega) (by intro q hq; simp at hq ⊢; omega) (by intro q hq; simp at hq; omega)
 have hkk := HKk.out.2.2
 have hq : coreCells K M I db sb w5.heap.size = #[.int .i64 k, .int .i64 m, .int .i64 i, .int .i64 0, .int .i64 0, .int .i64 0, .int .i64 0, .int .i64 0, .int .i64 0, .bool false, .int .i64 0, .slice (some ⟨w5.heap.size, 0, none⟩) 1 1, .pointer (some ⟨db, 0, none⟩), .pointer none, .pointer (some ⟨sb, 0, none⟩), .int .i64 0] := by
  unfold coreCells; rw [hkk.1, hkk.2.1, hkk.2.2]
 rw [hq] at hF
 refine bodyPost_ret (v := .tuple #[.pointer (some ⟨w5.heap.size + 1, 0, none⟩), .nilIface]) (by simp [results, Tryz.results39, go_sem]) rfl ⟨w5.heap.size + 1, rfl, ⟨_, F, ?_, rfl, rfl, hF⟩⟩
 simp
end
section
variable {α : Type} {id : Nat} {W0 w : World} {E : Nat → Addr}
def sumL {α : Type} (left : α → Nat → Nat) (a : α) (ids : List Nat) : Nat := (ids.map (left a)).sum
def LeftIs (l : Lit → Bool) (rem : List Nat) : Prop := ∀ x : Int, (Lit.int .i64 x).wf = true → (l (.int .i64 x) = true ↔ ∃ id ∈ rem, x = (id : Int))
theorem LeftIs.next {l : Lit → Bool} {rem : List Nat} (h : LeftIs l rem) (hn : rem.Nodup) : LeftIs (fun z => l z && !z.sameKey (.int .i64 (id : Int))) (rem.erase id) := fun x hx => by
 have hk : (Lit.int .i64 x).sameKey (.int .i64 (id : Int)) = decide (x = (id : Int)) := by simp [Lit.sameKey]
 show (l (.int .i64 x) && !(Lit.int .i64 x).sameKey (.int .i64 (id : Int))) = true ↔ _
 rw [hk, Bool.and_eq_true, h x hx]
 constructor
 ·rintro ⟨⟨j, hj, rfl⟩, h2⟩
  have h3 : ¬ (j : Int) = (id : Int) := by simpa using h2
  exact ⟨j, (List.mem_erase_of_ne (fun e => h3 (by rw [e]))).2 hj, rfl⟩
 ·rintro ⟨j, hj, rfl⟩
  rw [hn.mem_erase_iff] at hj
  have h3 : ¬ (j : Int) = (id : Int) := fun e => hj.1 (by omega)
  exact ⟨⟨j, hj.2, rfl⟩, by simpa using h3⟩
end
section
variable {g gl id k len' lo mx : Nat} {N N1 : Nd} {add del : List Ent} {C : CPl} {F ids' : List Nat} {a' : Pool} {t : Int}
def CoreAt (W0 : World) (E : Nat → Addr) (H : Nat → Nat) (K M mb : Nat) (G : List Nat) (w : World) (a : Pool) (ids : List Nat) : Prop :=
 ∃ (C : CPl) (F : List Nat) (len : Nat) (b : Int) (x : Mtr), C.mb = mb ∧ C.K = K ∧ C.M = M ∧ G = C.foot F ∧ CoreF W0 E H C w (C.foot F) w F ⟨a, ids, len, b, x⟩ ∧ CInv a ids [] ∧ len = a.ents.length ∧ len ≤ M
def CoreTo (W0 : World) (E : Nat → Addr) (H : Nat → Nat) (K M mb : Nat) (G : List Nat) (w w' : World) (a' : Pool) (ids' : List Nat) : Prop :=
 ∃ G', CoreAt W0 E H K M mb G' w' a' ids' ∧ (∀ q ∈ G', q ∈ G ∨ w.heap.size ≤ q) ∧ Mod G w w'
def WrS (H : Nat → Nat) (K : Nat) (a : Pool) (ids : List Nat) (del add : List Ent) (a' : Pool) (ids' : List Nat) : Prop :=
 ∃ (id : Nat) (N N1 : Nd), a.Ns[id]? = some N ∧ Wr H del add N N1 ∧ Maint H K { a with Ns := a.Ns.set id N1 } ids id a' ids' ∧ Chg del add a.ents a'.ents ∧ a'.ents.Perm ((a.Ns.set id N1).flatMap Nd.ents)
theorem wr_chg {H : Nat → Nat} {a : Pool} (hN : a.Ns[id]? = some N) (hw : Wr H del add N N1) : Chg del add a.ents ((a.Ns.set id N1).flatMap Nd.ents) := by
 obtain ⟨B, B', b1, b2⟩ := entsN_set (N' := N1) hN
 unfold Pool.ents
 rw [b1, b2]
 exact hw.chg.wrap B B'
section
variable {W0 : World} {E : Nat → Addr} {H : Nat → Nat} {K M mb : Nat} {G : List Nat} {w w' : World} {a : Pool} {ids : List Nat}
theorem CoreTo.of {A' : Adr} {v' : Value} {F' : List Nat} {b' : Int} {x' : Mtr} (h1 : C.mb = mb) (h2 : C.K = K) (h3 : C.M = M) (hc : CoreF W0 E H { C with A := A', v := v' } w (C.foot F) w' F' ⟨a', ids', len', b', x'⟩) (hi : CInv a' ids' []) (hl : len' = a'.ents.length) (hm : len' ≤ M) : CoreTo W0 E H K M mb (C.foot F) w w' a' ids' :=
 ⟨({ C with A := A', v := v' } : CPl).foot F', ⟨{ C with A := A', v := v' }, F', len', b', x', h1, h2, h3, rfl, hc.again, hi, hl, hm⟩, hc.sub, hc.mod⟩
theorem wrPost_to {len : Nat} {b : Int} {x : Mtr} (h1 : C.mb = mb) (h2 : C.K = K) (h3 : C.M = M) (hl : len = a.ents.length) (hl' : len' + del.length = len + add.length) (hm : len' ≤ M) (h : WrPost W0 E H C w (C.foot F) ⟨a, ids, len, b, x⟩ id del add len' w') :
  ∃ a' ids', WrS H K a ids del add a' ids' ∧ CoreTo W0 E H K M mb (C.foot F) w w' a' ids' := by
 obtain ⟨N, N1, x1, hN, hw, _, A', v', F', a', ids', b', x', u, k1, k2, k3, k4, _⟩ := h
 have hch := wr_chg hN hw
 have hch2 : Chg del add a.ents a'.ents := hch.perm (.refl _) k3
 have hlen := hch2.len
 exact ⟨a', ids', ⟨id, N, N1, hN, hw, h2 ▸ k1, hch2, k3⟩, CoreTo.of h1 h2 h3 k4 k2 (by show len' = _; omega) hm⟩
theorem at_Put (h : CoreAt W0 E H K M mb G w a ids) (e : Ent) (he : EntOk H e) : Calls Tryz.prog 43 #[coreP mb, .int .u64 (e.key : Int), .int .u64 (e.val : Int), .int .u64 (e.hash : Int)] w fun y w' =>
  (look a.ents e.key = none ∧ M ≤ a.ents.length ∧ y = .returned (errV E 2) ∧ CoreTo W0 E H K M mb G w w' a ids) ∨
  (∃ a' ids', look a.ents e.key = none ∧ a.ents.length < M ∧ y = .returned .nilIface ∧ WrS H K a ids [] [e] a' ids' ∧ CoreTo W0 E H K M mb G w w' a' ids') ∨
  (∃ a' ids' e0, look a.ents e.key = some e0 ∧ y = .returned .nilIface ∧ WrS H K a ids [e0] [{ e0 with val := e.val }] a' ids' ∧ CoreTo W0 E H K M mb G w w' a' ids') := by
 obtain ⟨C, F, len, b, x, h1, h2, h3, rfl, hC, hi, hl, hm⟩ := h
 rw [← h1]
 cases hlk : look a.ents e.key with
 | some e0 =>
  obtain ⟨m1, m2⟩ := look_mem hlk
  refine (core_Put_found hC hi e he e0 m1 m2).mono ?_
  rintro y w' ⟨rfl, id, hp⟩
  obtain ⟨a', ids', k1, k2⟩ := wrPost_to h1 h2 h3 hl (by simp) hm hp
  exact .inr (.inr ⟨a', ids', e0, rfl, rfl, k1, h1 ▸ k2⟩)
 | none =>
  have hno : ∀ y ∈ a.ents, y.key ≠ e.key := fun y hy hk => by
   unfold look at hlk
   rw [List.find?_eq_none] at hlk
   exact hlk y hy (by simpa using hk)
  by_cases hlt : len < C.M
  ·refine (core_Put_new hC hi e he hno hlt hl).mono ?_
   rintro y w' ⟨rfl, id, hp⟩
   obtain ⟨a', ids', k1, k2⟩ := wrPost_to h1 h2 h3 hl (by simp) (by show len + 1 ≤ M; omega) hp
   exact .inr (.inl ⟨a', ids', rfl, by omega, rfl, k1, h1 ▸ k2⟩)
  ·refine (core_Put_full hC hi e he hno hlt).mono ?_
   rintro y w' ⟨rfl, x', hc, _⟩
   exact .inl ⟨rfl, by omega, rfl, h1 ▸ CoreTo.of (A' := C.A) (v' := C.v) h1 h2 h3 hc hi hl hm⟩
theorem at_Delete (h : CoreAt W0 E H K M mb G w a ids) (key : Nat) (h64 : H key < 18446744073709551616) : Calls Tryz.prog 53 #[coreP mb, .int .u64 (key : Int), .int .u64 (H key : Int)] w fun y w' =>
  ∃ a' ids', y = .returned (.tuple #[.int .u64 (((look a.ents key).getD ⟨0, 0, 0⟩).val : Int), .bool (look a.ents key).isSome]) ∧ WrS H K a ids (look a.ents key).toList [] a' ids' ∧ CoreTo W0 E H K M mb G w w' a' ids' := by
 obtain ⟨C, F, len, b, x, h1, h2, h3, rfl, hC, hi, hl, hm⟩ := h
 have hM := hC.mm.2
 rw [← h1]
 cases hlk : look a.ents key with
 | some e0 =>
  obtain ⟨m1, m2⟩ := look_mem hlk
  have hpos : 1 ≤ len := by rw [hl]; exact List.length_pos_of_mem m1
  refine (core_Delete hC hi key h64 e0 m1 m2 ⟨hpos, by show len ≤ 192; omega⟩).mono ?_
  rintro y w' ⟨rfl, id, hp⟩
  obtain ⟨a', ids', k1, k2⟩ := wrPost_to h1 h2 h3 hl (by show len - 1 + 1 = len + 0; omega) (by show len - 1 ≤ M; omega) hp
  exact ⟨a', ids', rfl, k1, h1 ▸ k2⟩
 | none =>
  have hno : ∀ y ∈ a.ents, y.key ≠ key := fun y hy hk => by
   unfold look at hlk
   rw [List.find?_eq_none] at hlk
   exact hlk y hy (by simpa using hk)
  refine (core_Delete_none hC hi key h64 hno).mono ?_
  rintro y w' ⟨rfl, id, hp⟩
  obtain ⟨a', ids', k1, k2⟩ := wrPost_to h1 h2 h3 hl (by simp) hm hp
  exact ⟨a', ids', rfl, k1, h1 ▸ k2⟩
theorem at_Get (h : CoreAt W0 E H K M mb G w a ids) (key : Nat) (h64 : H key < 18446744073709551616) : Calls Tryz.prog 50 #[coreP mb, .int .u64 (key : Int), .int .u64 (H key : Int)] w fun y w' =>
  y = .returned (.tuple #[.int .u64 (((look a.ents key).getD ⟨0, 0, 0⟩).val : Int), .bool (look a.ents key).isSome]) ∧ CoreTo W0 E H K M mb G w w' a ids := by
 obtain ⟨C, F, len, b, x, h1, h2, h3, rfl, hC, hi, hl, hm⟩ := h
 rw [← h1]
 refine (core_Get hC hi key h64).mono ?_
 rintro y w' ⟨rfl, x', hc, _⟩
 exact ⟨rfl, h1 ▸ CoreTo.of (A' := C.A) (v' := C.v) h1 h2 h3 hc hi hl hm⟩
theorem at_Len (h : CoreAt W0 E H K M mb G w a ids) : Calls Tryz.prog 49 #[coreP mb] w fun e w' => e = .returned (.int .i64 (a.ents.length : Int)) ∧ w = w' := by
 obtain ⟨C, F, len, b, x, h1, h2, h3, rfl, hC, hi, hl, hm⟩ := h
 rw [← h1, ← hl]
 exact core_Len hC
theorem CoreAt.mod {S : List Nat} (h : CoreAt W0 E H K M mb G w a ids) (hm : Mod S w w') (hS : ∀ q ∈ S, q ∉ G ∧ W0.heap.size ≤ q) : CoreAt W0 E H K M mb G w' a ids := by
 obtain ⟨C, F, len, b, x, h1, h2, h3, rfl, hC, hi, hl, hm'⟩ := h
 have hd : ∀ q ∈ S, q ≠ C.mb ∧ q ∉ C.s.blocks ∧ q ∉ F ∧ C.v.ownBlock ≠ some q := fun q hq => by
  have := (hS q hq).1
  rw [mem_foot] at this
  simp only [not_or] at this
  exact this
 refine ⟨C, F, len, b, x, h1, h2, h3, rfl, ⟨SchSt.start (hC.sch.sch.mod hm (fun q hq hqS => (hd q hqS).2.1 hq)) (hC.hp.stab hC.sch.pool hm (fun q hq hqS => (hd q hqS).2.2.1 hq)) (hC.sch.met.mod hm (fun hq => (hd _ hq).1 rfl)) (hC.sch.env.mod hm (fun q hq => (hS q hq).2)) hC.sch.apart hC.sch.mb0, own_far hC.row hm (fun k hk hkS => (hd k hkS).2.2.2 hk), hC.rap, hC.pos, hC.kk, hC.mm, ?_, fun q hq => .inl hq, Mod.refl _ _⟩, hi, hl, hm'⟩
 have := hC.sch.env.size
 have := hm.size
 omega
theorem CoreAt.below (h : CoreAt W0 E H K M mb G w a ids) (hb : Below w.heap.size w w') : CoreAt W0 E H K M mb G w' a ids := h.mod (Mod.of_below hb []) (by simp)
theorem CoreAt.facts (h : CoreAt W0 E H K M mb G w a ids) : CInv a ids [] ∧ a.d ≤ 5 ∧ a.Ns.length ≤ 32 ∧ 1 ≤ a.Ns.length ∧ a.Ns.length ≤ 2 ^ a.d ∧ (∀ (i : Nat) (N : Nd), a.Ns[i]? = some N → NOk H N) ∧ a.ents.length ≤ M ∧ M ≤ 192 ∧ (1 ≤ K ∧ K ≤ 64) ∧ (a.ents.map Ent.key).Nodup ∧ (∀ q ∈ G, q < w.heap.size ∧ W0.heap.size ≤ q) ∧ Env W0 E w := by
 obtain ⟨C, F, len, b, x, h1, h2, h3, rfl, hC, hi, hl, hm⟩ := h
 obtain ⟨b1, b2, b3, b4⟩ := hC.bounds
 have h4 := hC.mm
 have h5 := hC.kk
 exact ⟨hi, b1, b2, hC.pos, hi.dir.nodes, b4, by omega, by omega, by omega, pool_nodup hi.dir b1 b4, fun q hq => ⟨hC.lts q hq, hC.lows q hq⟩, hC.sch.env⟩
theorem new_at {H : Nat → Nat} (h : NewAt W0 E H K M w mb w') : CoreTo W0 E H K M mb [] w w' pool0 [] := by
 obtain ⟨C, F, h1, h2, h3, hC⟩ := h
 exact ⟨_, ⟨C, F, 0, 0, mtr0, h1, h2, h3, rfl, hC.again, inv0, by rw [ents0]; rfl, Nat.zero_le _⟩, hC.sub, hC.mod⟩
end
def GB (mx : Nat) (a : Pool) : Prop := ∀ (i : Nat) (N : Nd), a.Ns[i]? = some N → N.len ≤ mx ∧ N.each ≤ mx ∧ N.groups ≤ 2 * mx
theorem GB.more {mx' : Nat} {a : Pool} (h : GB mx a) (hm : mx ≤ mx') : GB mx' a := fun i N hN => by
 have := h i N hN; omega
end
section
variable {es l : List Ent} {e : Ent} {key : Nat}
def highs (a : Pool) : List Nat := a.Ns.map fun N => highOf N.pfx N.dpt
def upto (es : List Ent) (hi : Nat) : List Ent := es.filter fun e => decide (e.hash ≤ hi)
def rest (es : List Ent) (key : Nat) : List Ent := es.filter fun x => x.key != key
theorem rest_none (h : look es key = none) : rest es key = es := by
 unfold look at h
 rw [List.find?_eq_none] at h
 exact List.filter_eq_self.2 fun x hx => by simpa using h x hx
theorem rest_perm (key : Nat) (h : es.Perm l) : (rest es key).Perm (rest l key) := h.filter _
theorem rest_cons {r : List Ent} (hn : (es.map Ent.key).Nodup) (h : es.Perm (e :: r)) : (rest es e.key).Perm r := by
 have h1 := rest_perm e.key h
 have h2 := (h.map Ent.key).nodup_iff.1 hn
 rw [List.map_cons, List.nodup_cons] at h2
 have h3 : rest (e :: r) e.key = r := by
  unfold rest
  rw [List.filter_cons, if_neg (by simp)]
  exact List.filter_eq_self.2 fun x hx => by
   have : x.key ≠ e.key := fun hh => h2.1 (by rw [← hh]; exact List.mem_map_of_mem hx)
   simpa using this
 rw [h3] at h1
 exact h1
def fullB (M : Nat) (es : List Ent) (key : Nat) : Bool := (look es key).isNone && decide (M ≤ es.length)
def putC (M : Nat) (es : List Ent) (key : Nat) : Nat := if fullB M es key then 2 else 0
def putL (M : Nat) (es : List Ent) (e : Ent) : List Ent := if fullB M es e.key then es else rest es e.key ++ [e]
def getV (es : List Ent) (key : Nat) : Value := .tuple #[.int .u64 (((look es key).getD ⟨0, 0, 0⟩).val : Int), .bool (look es key).isSome]
section
variable {W0 : World} {E : Nat → Addr} {H : Nat → Nat} {K M mb : Nat} {G : List Nat} {w w' : World} {a : Pool} {ids : List Nat}
theorem at_del (h : CoreAt W0 E H K M mb G w a ids) (key : Nat) (h64 : H key < 18446744073709551616) : Calls Tryz.prog 53 #[coreP mb, .int .u64 (key : Int), .int .u64 (H key : Int)] w fun y w' =>
  y = .returned (getV a.ents key) ∧ ∃ a' ids', CoreTo W0 E H K M mb G w w' a' ids' ∧ a'.ents.Perm (rest a.ents key) := by
 obtain ⟨_, _, _, _, _, _, _, _, _, f10, _⟩ := h.facts
 refine (at_Delete h key h64).mono ?_
 rintro y w' ⟨a', ids', rfl, hw, hto⟩
 obtain ⟨_, _, _, _, _, _, ⟨r, hr1, hr2⟩, _⟩ := hw
 refine ⟨rfl, a', ids', hto, ?_⟩
 cases hl : look a.ents key with
 | none =>
  rw [hl] at hr1
  rw [rest_none hl]
  exact hr2.trans hr1.symm
 | some e0 =>
  rw [hl] at hr1
  have h3 := rest_cons f10 hr1
  rw [(look_mem hl).2] at h3
  exact hr2.trans h3.symm
theorem at_get (h : CoreAt W0 E H K M mb G w a ids) (key : Nat) (h64 : H key < 18446744073709551616) : Calls Tryz.prog 50 #[coreP mb, .int .u64 (key : Int), .int .u64 (H key : Int)] w fun y w' =>
  y = .returned (getV a.ents key) ∧ CoreTo W0 E H K M mb G w w' a ids := at_Get h key h64
end
end
end Go.Proofs.YtgfcmdmpegomdaaGreatDoor
