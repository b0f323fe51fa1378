/- A core's New by its contract. -/
import Derived.Test.YtfcecmcnmgagnaaGreatDoorCoCQ
import Derived.Test.YtfcecmcnmgagnaaGreatDoorSqM
import Derived.Test.YtfcecmcnmgagnaaGreatDoorLaneQ
import Derived.Test.YtfcecmcnmgagnaaGreatDoorCoBO
import Derived.Test.YtfcecmcnmgagnaaGreatDoorKit
import Derived.Test.YtfcecmcnmgagnaaGreatDoorCoO
import Derived.Test.YtfcecmcnmgagnaaGreatDoorTabR
import Derived.Defers
import Derived.Recover
import Derived.MapKept
import Derived.ChangeMaps5
import Derived.WideLaws
namespace Go.Proofs.YtfcecmcnmgagnaaGreatDoor
set_option maxRecDepth 100000
set_option maxHeartbeats 4000000
open Go.RowKit AmC Go.Maps AmK Go.MapKept
open Go.ChangeMaps (setBlock heap_setBlock_same heap_setBlock_other)
section
variable {W0 w : World} {E : Nat → Addr}
def NewAt (W0 : World) (E : Nat → Addr) (H : Nat → Nat) (K M : Nat) (w : World) (mb : Nat) (w' : World) : Prop := ∃ (C : CPl) (F : List Nat), C.mb = mb ∧ C.K = K ∧ C.M = M ∧ CoreF W0 E H C w [] w' F st0
theorem core_New (H : Nat → Nat) (hE : Env W0 E w) (k m i : Int) (hcf : cfgOk k m i = true) (K M I : Nat) (hkm : (1 ≤ K ∧ K ≤ 64) ∧ (1 ≤ M ∧ M ≤ 192) ∧ k = (K : Int) ∧ m = (M : Int) ∧ i = (I : Int)) : Calls Tryz.prog 23 #[cfgV k m i] w fun e w' => ∃ mb, e = .returned (.tuple #[coreP mb, .nilIface]) ∧ NewAt W0 E H K M w mb w' := by
 have HKk := qd hkm
 clear hkm
 have HEr := qd hE
 have hB0 := Blk.new w 23 #[.int .i64 k, .int .i64 m, .int .i64 i]
 have hb0 := (Below.refl w.heap.size w).alloc (Nat.le_refl _) (.cells #[.int .i64 k, .int .i64 m, .int .i64 i] 23)
 unfold cfgV
 go_in
 go_upto_region 1 with fail
 refine nameW (F := fun v => Blk v w.heap.size 23 #[.int .i64 k, .int .i64 m, .int .i64 i] ∧ Below w.heap.size w v) ⟨hB0, hb0⟩ ?_
 clear hB0 hb0
 rintro w1 ⟨hB1, hb1⟩
 obtain ⟨bx, hbx⟩ : ∃ bx, bx = w.heap.size := ⟨_, rfl⟩
 rw [← hbx] at hB1 ⊢
 have HBx := qd hbx
 have HB := qd hB1
 have HE1 := qd (hE.mod (Mod.of_below hb1 []) (by simp))
 have HBl := qd hb1
 obtain ⟨k0, k1, k2⟩ := hB1.c3
 have HCh := qd (plan_Check k m i w1 HE1.out.errs)
 rw [hcf] at HCh
 simp only [if_true] at HCh
 unfold cfgV at HCh
 have hz1 := hb1.size
 have hbxl := HB.out.lt
 clear hB1 hb1 hE hbx
 go_wp2_with fail
 refine HCh.out.mono ?_
 rintro y w2 ⟨rfl, hb2⟩
 replace HB := qB hb2 HB
 replace HBl := qd (below2 HBl.out hb2)
 replace HE1 := qB hb2 HE1
 have hz2 := hb2.size
 clear hb2 HCh k0 k1 k2
 go_wp2_with fail
 refine (node_New w2).mono ?_
 rintro y w3 ⟨nb, tb, gb, rfl, hn1, hn2, ⟨l1, l2, l3, l4, l5⟩, hb3⟩
 have HN := qd (show NdAt w3 nb [nb, tb, gb] nd0 from ⟨tb, gb, hn1, hn2, rfl, l4, l5⟩)
 replace HB := qB hb3 HB
 replace HBl := qd (below2 HBl.out hb3)
 replace HE1 := qB hb3 HE1
 have hz3 := hb3.size
 have l6 := hn2.ne
 have hnl := HN.out.lts
 have hn1l := hnl nb (by simp)
 have hn2l := hnl tb (by simp)
 have hn3l := hnl gb (by simp)
 clear hb3 hn1 hn2 hnl
 unfold nodeP
 have HDn := qd (show Calls Tryz.prog 39 #[.int .i64 0] w3 _ from dir_New 0 (by omega) w3)
 unfold dirP at HDn
 go_wp2_with fail
 refine HDn.out.mono ?_
 rintro y w4 ⟨rfl, hd4, hb4⟩
 have HD := qd (show DirAt w4 (w3.heap.size + 1) w3.heap.size 0 [0] from hd4)
 replace HN := qd (HN.out.mod (Mod.of_below hb4 []) (by simp))
 replace HB := qB hb4 HB
 replace HBl := qd (below2 HBl.out hb4)
 replace HE1 := qB hb4 HE1
 have hz4 := hb4.size
 have hd1l := HD.out.lt
 have hd2l := HD.out.ltE
 obtain ⟨db, hdb⟩ : ∃ db, db = w3.heap.size + 1 := ⟨_, rfl⟩
 obtain ⟨eb, heb⟩ : ∃ eb, eb = w3.heap.size := ⟨_, rfl⟩
 rw [← hdb, ← heb] at HD
 rw [← hdb]
 rw [← hdb] at hd1l
 rw [← heb] at hd2l
 have HDb := qd hdb
 have HEb := qd heb
 clear hb4 hd4 HDn hdb heb
 have kk := HB.out.c3
 have HSn := qd (sched_New k (by have := HKk.out; omega) (adr0 nb db eb).val w4 HE1.out.errs)
 unfold schP at HSn
 go_wp2_with fail
 refine HSn.out.mono ?_
 rintro y w5 ⟨sb, qb, rb, jb, rfl, hs5, hsl, hb5⟩
 have HS := qd hs5
 replace HN := qd (HN.out.mod (Mod.of_below hb5 []) (by simp))
 replace HD := qB hb5 HD
 replace HB := qB hb5 HB
 replace HBl := qd (below2 HBl.out hb5)
 replace HE1 := qB hb5 HE1
 have hz5 := hb5.size
 have HSl := qd hsl
 clear kk hb5 hs5 HSn hsl
 have kk := HB.out.c3
 go_wp2
 have hrow := World.ownsRow_lit (base := W0.heap.size) (e := 85) (size := 1) w5 #[.pointer (some ⟨nb, 0, none⟩)] 1 (by have := HE1.out.size; omega) (by decide) rfl
 have hb6 : Below w5.heap.size w5 (w5.alloc (.cells #[.pointer (some ⟨nb, 0, none⟩)] 85)) := (Below.refl _ _).alloc (Nat.le_refl _) _
 have hm6 := Mod.of_below hb6 []
 have hsl := HSl.out
 have hd1 := HDb.out
 have hd2 := HEb.out
 have s1 := hsl sb (by simp)
 have s2 := hsl qb (by simp)
 have s3 := hsl rb (by simp)
 have s4 := hsl jb (by simp)
 have hslt := HS.out.lt
 have t1 := hslt sb (by simp)
 have t2 := hslt qb (by simp)
 have t3 := hslt rb (by simp)
 have t4 := hslt jb (by simp)
 have hbx9 := HBx.out
 obtain ⟨F, hF⟩ := CoreF.fresh H (w := w) (w5 := w5.alloc (.cells #[.pointer (some ⟨nb, 0, none⟩)] 85)) (nb := nb) (tb := tb) (gb := gb) (db := db) (eb := eb) (sb := sb) (qb := qb) (rb := rb) (jb := jb) (vb := w5.heap.size) (K := K) (M := M) (I := I) HEr.out HKk.out.1 HKk.out.2.1 (below2 HBl.out hb6) (HN.out.mod hm6 (by simp)) (HD.out.mod hm6 (by simp) (by simp)) (HKk.out.2.2.1 ▸ HS.out.mod hm6 (by simp)) hrow
  (by intro q hq; simp at hq; omega) (by intro q hq; simp at hq ⊢; omega) (by intro q hq; simp at hq ⊢; omega) (by intro q hq; simp at hq; omega)
 have hkk := HKk.out.2.2
 have hq : coreCells K M I db sb w5.heap.size = #[.int .i64 k, .int .i64 m, .int .i64 i, .int .i64 0, .int .i64 0, .int .i64 0, .int .i64 0, .int .i64 0, .int .i64 0, .bool false, .int .i64 0, .slice (some ⟨w5.heap.size, 0, none⟩) 1 1, .pointer (some ⟨db, 0, none⟩), .pointer none, .pointer (some ⟨sb, 0, none⟩), .int .i64 0] := by
  unfold coreCells; rw [hkk.1, hkk.2.1, hkk.2.2]
 rw [hq] at hF
 refine bodyPost_ret (v := .tuple #[.pointer (some ⟨w5.heap.size + 1, 0, none⟩), .nilIface]) (by simp [results, Tryz.results23, go_sem]) rfl ⟨w5.heap.size + 1, rfl, ⟨_, F, ?_, rfl, rfl, hF⟩⟩
 simp
end
section
variable {α : Type} {id : Nat} {W0 w : World} {E : Nat → Addr}
def sumL {α : Type} (left : α → Nat → Nat) (a : α) (ids : List Nat) : Nat := (ids.map (left a)).sum
def LeftIs (l : Lit → Bool) (rem : List Nat) : Prop := ∀ x : Int, (Lit.int .i64 x).wf = true → (l (.int .i64 x) = true ↔ ∃ id ∈ rem, x = (id : Int))
theorem LeftIs.next {l : Lit → Bool} {rem : List Nat} (h : LeftIs l rem) (hn : rem.Nodup) : LeftIs (fun z => l z && !z.sameKey (.int .i64 (id : Int))) (rem.erase id) := fun x hx => by
 have hk : (Lit.int .i64 x).sameKey (.int .i64 (id : Int)) = decide (x = (id : Int)) := by simp [Lit.sameKey]
 show (l (.int .i64 x) && !(Lit.int .i64 x).sameKey (.int .i64 (id : Int))) = true ↔ _
 rw [hk, Bool.and_eq_true, h x hx]
 constructor
 ·rintro ⟨⟨j, hj, rfl⟩, h2⟩
  have h3 : ¬ (j : Int) = (id : Int) := by simpa using h2
  exact ⟨j, (List.mem_erase_of_ne (fun e => h3 (by rw [e]))).2 hj, rfl⟩
 ·rintro ⟨j, hj, rfl⟩
  rw [hn.mem_erase_iff] at hj
  have h3 : ¬ (j : Int) = (id : Int) := fun e => hj.1 (by omega)
  exact ⟨⟨j, hj.2, rfl⟩, by simpa using h3⟩
end
section
variable {g gl id k len' lo mx : Nat} {N N1 : Nd} {add del : List Ent} {C : CPl} {F ids' : List Nat} {a' : Pool} {t : Int}
def CoreAt (W0 : World) (E : Nat → Addr) (H : Nat → Nat) (K M mb : Nat) (G : List Nat) (w : World) (a : Pool) (ids : List Nat) : Prop :=
 ∃ (C : CPl) (F : List Nat) (len : Nat) (b : Int) (x : Mtr), C.mb = mb ∧ C.K = K ∧ C.M = M ∧ G = C.foot F ∧ CoreF W0 E H C w (C.foot F) w F ⟨a, ids, len, b, x⟩ ∧ CInv a ids [] ∧ len = a.ents.length ∧ len ≤ M
def CoreTo (W0 : World) (E : Nat → Addr) (H : Nat → Nat) (K M mb : Nat) (G : List Nat) (w w' : World) (a' : Pool) (ids' : List Nat) : Prop :=
 ∃ G', CoreAt W0 E H K M mb G' w' a' ids' ∧ (∀ q ∈ G', q ∈ G ∨ w.heap.size ≤ q) ∧ Mod G w w'
def WrS (H : Nat → Nat) (K : Nat) (a : Pool) (ids : List Nat) (del add : List Ent) (a' : Pool) (ids' : List Nat) : Prop :=
 ∃ (id : Nat) (N N1 : Nd), a.Ns[id]? = some N ∧ Wr H del add N N1 ∧ Maint H K { a with Ns := a.Ns.set id N1 } ids id a' ids' ∧ Chg del add a.ents a'.ents ∧ a'.ents.Perm ((a.Ns.set id N1).flatMap Nd.ents)
theorem wr_chg {H : Nat → Nat} {a : Pool} (hN : a.Ns[id]? = some N) (hw : Wr H del add N N1) : Chg del add a.ents ((a.Ns.set id N1).flatMap Nd.ents) := by
 obtain ⟨B, B', b1, b2⟩ := entsN_set (N' := N1) hN
 unfold Pool.ents
 rw [b1, b2]
 exact hw.chg.wrap B B'
section
variable {W0 : World} {E : Nat → Addr} {H : Nat → Nat} {K M mb : Nat} {G : List Nat} {w w' : World} {a : Pool} {ids : List Nat}
theorem CoreTo.of {A' : Adr} {v' : Value} {F' : List Nat} {b' : Int} {x' : Mtr} (h1 : C.mb = mb) (h2 : C.K = K) (h3 : C.M = M) (hc : CoreF W0 E H { C with A := A', v := v' } w (C.foot F) w' F' ⟨a', ids', len', b', x'⟩) (hi : CInv a' ids' []) (hl : len' = a'.ents.length) (hm : len' ≤ M) : CoreTo W0 E H K M mb (C.foot F) w w' a' ids' :=
 ⟨({ C with A := A', v := v' } : CPl).foot F', ⟨{ C with A := A', v := v' }, F', len', b', x', h1, h2, h3, rfl, hc.again, hi, hl, hm⟩, hc.sub, hc.mod⟩
theorem wrPost_to {len : Nat} {b : Int} {x : Mtr} (h1 : C.mb = mb) (h2 : C.K = K) (h3 : C.M = M) (hl : len = a.ents.length) (hl' : len' + del.length = len + add.length) (hm : len' ≤ M) (h : WrPost W0 E H C w (C.foot F) ⟨a, ids, len, b, x⟩ id del add len' w') :
  ∃ a' ids', WrS H K a ids del add a' ids' ∧ CoreTo W0 E H K M mb (C.foot F) w w' a' ids' := by
 obtain ⟨N, N1, x1, hN, hw, _, A', v', F', a', ids', b', x', u, k1, k2, k3, k4, _⟩ := h
 have hch := wr_chg hN hw
 have hch2 : Chg del add a.ents a'.ents := hch.perm (.refl _) k3
 have hlen := hch2.len
 exact ⟨a', ids', ⟨id, N, N1, hN, hw, h2 ▸ k1, hch2, k3⟩, CoreTo.of h1 h2 h3 k4 k2 (by show len' = _; omega) hm⟩
theorem at_Put (h : CoreAt W0 E H K M mb G w a ids) (e : Ent) (he : EntOk H e) : Calls Tryz.prog 30 #[coreP mb, .int .u64 (e.key : Int), .int .u64 (e.val : Int), .int .u64 (e.hash : Int)] w fun y w' =>
  (look a.ents e.key = none ∧ M ≤ a.ents.length ∧ y = .returned (errV E 2) ∧ CoreTo W0 E H K M mb G w w' a ids) ∨
  (∃ a' ids', look a.ents e.key = none ∧ a.ents.length < M ∧ y = .returned .nilIface ∧ WrS H K a ids [] [e] a' ids' ∧ CoreTo W0 E H K M mb G w w' a' ids') ∨
  (∃ a' ids' e0, look a.ents e.key = some e0 ∧ y = .returned .nilIface ∧ WrS H K a ids [e0] [{ e0 with val := e.val }] a' ids' ∧ CoreTo W0 E H K M mb G w w' a' ids') := by
 obtain ⟨C, F, len, b, x, h1, h2, h3, rfl, hC, hi, hl, hm⟩ := h
 rw [← h1]
 cases hlk : look a.ents e.key with
 | some e0 =>
  obtain ⟨m1, m2⟩ := look_mem hlk
  refine (core_Put_found hC hi e he e0 m1 m2).mono ?_
  rintro y w' ⟨rfl, id, hp⟩
  obtain ⟨a', ids', k1, k2⟩ := wrPost_to h1 h2 h3 hl (by simp) hm hp
  exact .inr (.inr ⟨a', ids', e0, rfl, rfl, k1, h1 ▸ k2⟩)
 | none =>
  have hno : ∀ y ∈ a.ents, y.key ≠ e.key := fun y hy hk => by
   unfold look at hlk
   rw [List.find?_eq_none] at hlk
   exact hlk y hy (by simpa using hk)
  by_cases hlt : len < C.M
  ·refine (core_Put_new hC hi e he hno hlt hl).mono ?_
   rintro y w' ⟨rfl, id, hp⟩
   obtain ⟨a', ids', k1, k2⟩ := wrPost_to h1 h2 h3 hl (by simp) (by show len + 1 ≤ M; omega) hp
   exact .inr (.inl ⟨a', ids', rfl, by omega, rfl, k1, h1 ▸ k2⟩)
  ·refine (core_Put_full hC hi e he hno hlt).mono ?_
   rintro y w' ⟨rfl, x', hc, _⟩
   exact .inl ⟨rfl, by omega, rfl, h1 ▸ CoreTo.of (A' := C.A) (v' := C.v) h1 h2 h3 hc hi hl hm⟩
theorem at_Delete (h : CoreAt W0 E H K M mb G w a ids) (key : Nat) (h64 : H key < 18446744073709551616) : Calls Tryz.prog 43 #[coreP mb, .int .u64 (key : Int), .int .u64 (H key : Int)] w fun y w' =>
  ∃ a' ids', y = .returned (.tuple #[.int .u64 (((look a.ents key).getD ⟨0, 0, 0⟩).val : Int), .bool (look a.ents key).isSome]) ∧ WrS H K a ids (look a.ents key).toList [] a' ids' ∧ CoreTo W0 E H K M mb G w w' a' ids' := by
 obtain ⟨C, F, len, b, x, h1, h2, h3, rfl, hC, hi, hl, hm⟩ := h
 have hM := hC.mm.2
 rw [← h1]
 cases hlk : look a.ents key with
 | some e0 =>
  obtain ⟨m1, m2⟩ := look_mem hlk
  have hpos : 1 ≤ len := by rw [hl]; exact List.length_pos_of_mem m1
  refine (core_Delete hC hi key h64 e0 m1 m2 ⟨hpos, by show len ≤ 192; omega⟩).mono ?_
  rintro y w' ⟨rfl, id, hp⟩
  obtain ⟨a', ids', k1, k2⟩ := wrPost_to h1 h2 h3 hl (by show len - 1 + 1 = len + 0; omega) (by show len - 1 ≤ M; omega) hp
  exact ⟨a', ids', rfl, k1, h1 ▸ k2⟩
 | none =>
  have hno : ∀ y ∈ a.ents, y.key ≠ key := fun y hy hk => by
   unfold look at hlk
   rw [List.find?_eq_none] at hlk
   exact hlk y hy (by simpa using hk)
  refine (core_Delete_none hC hi key h64 hno).mono ?_
  rintro y w' ⟨rfl, id, hp⟩
  obtain ⟨a', ids', k1, k2⟩ := wrPost_to h1 h2 h3 hl (by simp) hm hp
  exact ⟨a', ids', rfl, k1, h1 ▸ k2⟩
theorem at_Get (h : CoreAt W0 E H K M mb G w a ids) (key : Nat) (h64 : H key < 18446744073709551616) : Calls Tryz.prog 41 #[coreP mb, .int .u64 (key : Int), .int .u64 (H key : Int)] w fun y w' =>
  y = .returned (.tuple #[.int .u64 (((look a.ents key).getD ⟨0, 0, 0⟩).val : Int), .bool (look a.ents key).isSome]) ∧ CoreTo W0 E H K M mb G w w' a ids := by
 obtain ⟨C, F, len, b, x, h1, h2, h3, rfl, hC, hi, hl, hm⟩ := h
 rw [← h1]
 refine (core_Get hC hi key h64).mono ?_
 rintro y w' ⟨rfl, x', hc, _⟩
 exact ⟨rfl, h1 ▸ CoreTo.of (A' := C.A) (v' := C.v) h1 h2 h3 hc hi hl hm⟩
theorem at_Len (h : CoreAt W0 E H K M mb G w a ids) : Calls Tryz.prog 37 #[coreP mb] w fun e w' => e = .returned (.int .i64 (a.ents.length : Int)) ∧ w = w' := by
 obtain ⟨C, F, len, b, x, h1, h2, h3, rfl, hC, hi, hl, hm⟩ := h
 rw [← h1, ← hl]
 exact core_Len hC
theorem CoreAt.mod {S : List Nat} (h : CoreAt W0 E H K M mb G w a ids) (hm : Mod S w w') (hS : ∀ q ∈ S, q ∉ G ∧ W0.heap.size ≤ q) : CoreAt W0 E H K M mb G w' a ids := by
 obtain ⟨C, F, len, b, x, h1, h2, h3, rfl, hC, hi, hl, hm'⟩ := h
 have hd : ∀ q ∈ S, q ≠ C.mb ∧ q ∉ C.s.blocks ∧ q ∉ F ∧ C.v.ownBlock ≠ some q := fun q hq => by
  have := (hS q hq).1
  rw [mem_foot] at this
  simp only [not_or] at this
  exact this
 refine ⟨C, F, len, b, x, h1, h2, h3, rfl, ⟨SchSt.start (hC.sch.sch.mod hm (fun q hq hqS => (hd q hqS).2.1 hq)) (hC.hp.stab hC.sch.pool hm (fun q hq hqS => (hd q hqS).2.2.1 hq)) (hC.sch.met.mod hm (fun hq => (hd _ hq).1 rfl)) (hC.sch.env.mod hm (fun q hq => (hS q hq).2)) hC.sch.apart hC.sch.mb0, own_far hC.row hm (fun k hk hkS => (hd k hkS).2.2.2 hk), hC.rap, hC.pos, hC.kk, hC.mm, ?_, fun q hq => .inl hq, Mod.refl _ _⟩, hi, hl, hm'⟩
 have := hC.sch.env.size
 have := hm.size
 omega
theorem CoreAt.below (h : CoreAt W0 E H K M mb G w a ids) (hb : Below w.heap.size w w') : CoreAt W0 E H K M mb G w' a ids := h.mod (Mod.of_below hb []) (by simp)
theorem CoreAt.facts (h : CoreAt W0 E H K M mb G w a ids) : CInv a ids [] ∧ a.d ≤ 5 ∧ a.Ns.length ≤ 32 ∧ 1 ≤ a.Ns.length ∧ a.Ns.length ≤ 2 ^ a.d ∧ (∀ (i : Nat) (N : Nd), a.Ns[i]? = some N → NOk H N) ∧ a.ents.length ≤ M ∧ M ≤ 192 ∧ (1 ≤ K ∧ K ≤ 64) ∧ (a.ents.map Ent.key).Nodup ∧ (∀ q ∈ G, q < w.heap.size ∧ W0.heap.size ≤ q) ∧ Env W0 E w := by
 obtain ⟨C, F, len, b, x, h1, h2, h3, rfl, hC, hi, hl, hm⟩ := h
 obtain ⟨b1, b2, b3, b4⟩ := hC.bounds
 have h4 := hC.mm
 have h5 := hC.kk
 exact ⟨hi, b1, b2, hC.pos, hi.dir.nodes, b4, by omega, by omega, by omega, pool_nodup hi.dir b1 b4, fun q hq => ⟨hC.lts q hq, hC.lows q hq⟩, hC.sch.env⟩
theorem new_at {H : Nat → Nat} (h : NewAt W0 E H K M w mb w') : CoreTo W0 E H K M mb [] w w' pool0 [] := by
 obtain ⟨C, F, h1, h2, h3, hC⟩ := h
 exact ⟨_, ⟨C, F, 0, 0, mtr0, h1, h2, h3, rfl, hC.again, inv0, by rw [ents0]; rfl, Nat.zero_le _⟩, hC.sub, hC.mod⟩
end
def GB (mx : Nat) (a : Pool) : Prop := ∀ (i : Nat) (N : Nd), a.Ns[i]? = some N → N.len ≤ mx ∧ N.each ≤ mx ∧ N.groups ≤ 2 * mx
theorem GB.more {mx' : Nat} {a : Pool} (h : GB mx a) (hm : mx ≤ mx') : GB mx' a := fun i N hN => by
 have := h i N hN; omega
end
section
variable {es l : List Ent} {e : Ent} {key : Nat}
def highs (a : Pool) : List Nat := a.Ns.map fun N => highOf N.pfx N.dpt
def upto (es : List Ent) (hi : Nat) : List Ent := es.filter fun e => decide (e.hash ≤ hi)
def rest (es : List Ent) (key : Nat) : List Ent := es.filter fun x => x.key != key
theorem rest_none (h : look es key = none) : rest es key = es := by
 unfold look at h
 rw [List.find?_eq_none] at h
 exact List.filter_eq_self.2 fun x hx => by simpa using h x hx
theorem rest_perm (key : Nat) (h : es.Perm l) : (rest es key).Perm (rest l key) := h.filter _
theorem rest_cons {r : List Ent} (hn : (es.map Ent.key).Nodup) (h : es.Perm (e :: r)) : (rest es e.key).Perm r := by
 have h1 := rest_perm e.key h
 have h2 := (h.map Ent.key).nodup_iff.1 hn
 rw [List.map_cons, List.nodup_cons] at h2
 have h3 : rest (e :: r) e.key = r := by
  unfold rest
  rw [List.filter_cons, if_neg (by simp)]
  exact List.filter_eq_self.2 fun x hx => by
   have : x.key ≠ e.key := fun hh => h2.1 (by rw [← hh]; exact List.mem_map_of_mem hx)
   simpa using this
 rw [h3] at h1
 exact h1
def fullB (M : Nat) (es : List Ent) (key : Nat) : Bool := (look es key).isNone && decide (M ≤ es.length)
def putC (M : Nat) (es : List Ent) (key : Nat) : Nat := if fullB M es key then 2 else 0
def putL (M : Nat) (es : List Ent) (e : Ent) : List Ent := if fullB M es e.key then es else rest es e.key ++ [e]
def getV (es : List Ent) (key : Nat) : Value := .tuple #[.int .u64 (((look es key).getD ⟨0, 0, 0⟩).val : Int), .bool (look es key).isSome]
section
variable {W0 : World} {E : Nat → Addr} {H : Nat → Nat} {K M mb : Nat} {G : List Nat} {w w' : World} {a : Pool} {ids : List Nat}
theorem at_del (h : CoreAt W0 E H K M mb G w a ids) (key : Nat) (h64 : H key < 18446744073709551616) : Calls Tryz.prog 43 #[coreP mb, .int .u64 (key : Int), .int .u64 (H key : Int)] w fun y w' =>
  y = .returned (getV a.ents key) ∧ ∃ a' ids', CoreTo W0 E H K M mb G w w' a' ids' ∧ a'.ents.Perm (rest a.ents key) := by
 obtain ⟨_, _, _, _, _, _, _, _, _, f10, _⟩ := h.facts
 refine (at_Delete h key h64).mono ?_
 rintro y w' ⟨a', ids', rfl, hw, hto⟩
 obtain ⟨_, _, _, _, _, _, ⟨r, hr1, hr2⟩, _⟩ := hw
 refine ⟨rfl, a', ids', hto, ?_⟩
 cases hl : look a.ents key with
 | none =>
  rw [hl] at hr1
  rw [rest_none hl]
  exact hr2.trans hr1.symm
 | some e0 =>
  rw [hl] at hr1
  have h3 := rest_cons f10 hr1
  rw [(look_mem hl).2] at h3
  exact hr2.trans h3.symm
theorem at_get (h : CoreAt W0 E H K M mb G w a ids) (key : Nat) (h64 : H key < 18446744073709551616) : Calls Tryz.prog 41 #[coreP mb, .int .u64 (key : Int), .int .u64 (H key : Int)] w fun y w' =>
  y = .returned (getV a.ents key) ∧ CoreTo W0 E H K M mb G w w' a ids := at_Get h key h64
end
end
section
variable {M i k : Nat} {e : Ent} {A B : List Nat}
structure SlF where
 ent : Nat → Ent
 nw : Nat → Option Nat
 od : Nat → Option Nat
structure Ends where
 nst : Option Nat
 ost : Option Nat
def leaveS (s : SlF) (i : Nat) : SlF := { s with nw := updO s.nw (s.od i) (s.nw i), od := updO s.od (s.nw i) (s.od i) }
def leaveE (c : Ends) (s : SlF) (i : Nat) : Ends := ⟨if s.nw i = none then s.od i else c.nst, if s.od i = none then s.nw i else c.ost⟩
def enterS (c : Ends) (s : SlF) (i : Nat) : SlF := { s with nw := updO (upd s.nw i none) c.nst (some i), od := upd s.od i c.nst }
def enterE (c : Ends) (i : Nat) : Ends := ⟨some i, if c.nst = none then some i else c.ost⟩
def tagged (s : SlF) (i : Nat) : Ent := ⟨(s.ent i).key, i, (s.ent i).hash⟩
structure CaI (c : Ends) (n : Nat) (s : SlF) (fr : List Nat) (es : List Ent) (row : List Nat) : Prop where
 rw_ : Row s.nw s.od row c.nst c.ost
 part : (row ++ fr).Perm (List.range n)
 ents : es.Perm (row.map (tagged s))
section
variable {c : Ends} {n : Nat} {s : SlF} {fr row : List Nat} {es es' : List Ent}
theorem CaI.lt (h : CaI c n s fr es row) : (∀ i ∈ row, i < n) ∧ (∀ i ∈ fr, i < n) ∧ (∀ i ∈ row, i ∉ fr) ∧ fr.Nodup ∧ row.length + fr.length = n := by
 have h1 : ∀ i ∈ row, i < n := fun i hi => List.mem_range.1 (h.part.mem_iff.1 (List.mem_append_left fr hi))
 have h2 : ∀ i ∈ fr, i < n := fun i hi => List.mem_range.1 (h.part.mem_iff.1 (List.mem_append_right row hi))
 have h3 := (h.part.nodup_iff).2 List.nodup_range
 rw [List.nodup_append] at h3
 have h4 := h.part.length_eq
 rw [List.length_append, List.length_range] at h4
 exact ⟨h1, h2, fun i hi hf => h3.2.2 i hi i hf rfl, h3.2.1, h4⟩
theorem CaI.keys (h : CaI c n s fr es row) (hn : (es.map Ent.key).Nodup) : ((row.map s.ent).map Ent.key).Nodup := by
 have h1 := ((h.ents.map Ent.key).nodup_iff).1 hn
 rw [List.map_map] at h1 ⊢
 exact h1
theorem CaI.hit (h : CaI c n s fr es row) (hl : look es k = some e) : ∃ A B, row = A ++ e.val :: B ∧ (s.ent e.val).key = k ∧ (s.ent e.val).hash = e.hash := by
 obtain ⟨hm, hk⟩ := look_mem hl
 obtain ⟨i, hi, he⟩ := List.mem_map.1 (h.ents.mem_iff.1 hm)
 subst he
 obtain ⟨A, B, rfl⟩ := List.append_of_mem hi
 exact ⟨A, B, rfl, hk, rfl⟩
theorem CaI.miss (h : CaI c n s fr es row) (hl : look es k = none) : ∀ x ∈ row.map s.ent, x.key ≠ k := by
 intro x hx hk
 obtain ⟨i, hi, rfl⟩ := List.mem_map.1 hx
 have hm := h.ents.mem_iff.2 (List.mem_map_of_mem (f := tagged s) hi)
 unfold look at hl
 exact (List.find?_eq_none.1 hl _ hm) (by simpa [tagged] using hk)
theorem leave_row (h : Row s.nw s.od row c.nst c.ost) (hr : row = A ++ i :: B) : Row (leaveS s i).nw (leaveS s i).od (A ++ B) (leaveE c s i).nst (leaveE c s i).ost := by
 have h1 := h.leave hr
 obtain ⟨h2, h3, _⟩ := h.at_ hr
 unfold leaveS leaveE
 rw [h2, h3]
 exact h1
theorem CaI.use (h : CaI c n s fr es row) (hr : row = A ++ i :: B) : CaI (enterE (leaveE c s i) i) n (enterS (leaveE c s i) (leaveS s i) i) fr es (i :: (A ++ B)) := by
 have h1 := leave_row h.rw_ hr
 have hn := h.rw_.at_ hr
 have hi : i ∉ A ++ B := fun hm => (List.mem_append.1 hm).elim hn.2.2.1 hn.2.2.2.1
 have hp : (i :: (A ++ B)).Perm row := hr ▸ List.perm_middle.symm
 exact ⟨h1.enter hi, (hp.append_right fr).trans h.part, h.ents.trans ((hp.map (tagged s)).symm)⟩
def setVal (s : SlF) (i v : Nat) : SlF := { s with ent := upd s.ent i ⟨(s.ent i).key, v, (s.ent i).hash⟩ }
theorem CaI.val (h : CaI c n s fr es row) (i v : Nat) : CaI c n (setVal s i v) fr es row := by
 refine ⟨h.rw_, h.part, ?_⟩
 have : row.map (tagged (setVal s i v)) = row.map (tagged s) := List.map_congr_left fun j _ => by
  unfold tagged setVal upd
  by_cases hj : j = i
  ·subst hj; simp
  ·simp [hj]
 rw [this]; exact h.ents
theorem cput_hit {v hk : Nat} (h : CaI c n s fr es row) (hn : (es.map Ent.key).Nodup) (hr : row = A ++ i :: B) (hki : (s.ent i).key = k) (hh : (s.ent i).hash = hk) : ((i :: (A ++ B)).map (setVal s i v).ent) = cput Ent.key M (row.map s.ent) ⟨k, v, hk⟩ := by
 have hkeys := h.keys hn
 have hnn := h.rw_.at_ hr
 subst hr
 unfold cput
 rw [if_pos (by rw [List.any_eq_true]; exact ⟨s.ent i, by simp, by simp [hki]⟩)]
 have e0 : (A ++ i :: B).map s.ent = A.map s.ent ++ s.ent i :: B.map s.ent := by simp
 rw [e0] at hkeys ⊢
 show _ = _ :: caLess Ent.key k _
 rw [caLess_split hkeys hki, List.map_cons, List.map_append]
 have e1 : (setVal s i v).ent i = ⟨k, v, hk⟩ := by show upd s.ent i _ i = _; rw [upd_self, hki, hh]
 have e2 : ∀ l : List Nat, i ∉ l → l.map (setVal s i v).ent = l.map s.ent := fun l hl => List.map_congr_left fun j hj => upd_ne _ _ fun e => hl (e ▸ hj)
 rw [e1, e2 A hnn.2.2.1, e2 B hnn.2.2.2.1]
theorem get_hit (h : CaI c n s fr es row) (hn : (es.map Ent.key).Nodup) (hr : row = A ++ i :: B) (hki : (s.ent i).key = k) : (i :: (A ++ B)).map s.ent = s.ent i :: caLess Ent.key k (row.map s.ent) := by
 have hkeys := h.keys hn
 subst hr
 have e0 : (A ++ i :: B).map s.ent = A.map s.ent ++ s.ent i :: B.map s.ent := by simp
 rw [e0] at hkeys ⊢
 rw [caLess_split hkeys hki, List.map_cons, List.map_append]
def setEnt (s : SlF) (i : Nat) (e : Ent) : SlF := { s with ent := upd s.ent i e }
theorem CaI.new {n' : Nat} {fr' : List Nat} (h : Row s.nw s.od row c.nst c.ost) (hp : (row ++ (i :: fr')).Perm (List.range n')) (he : es.Perm (row.map (tagged s))) (hes : es'.Perm (es ++ [⟨e.key, i, e.hash⟩])) : CaI (enterE c i) n' (enterS c (setEnt s i e) i) fr' es' (i :: row) := by
 have hnd := (hp.nodup_iff).2 List.nodup_range
 have hi : i ∉ row := fun hm => by
  rw [List.nodup_append] at hnd
  exact hnd.2.2 i hm i (by simp) rfl
 refine ⟨Row.enter (nw := (setEnt s i e).nw) (od := (setEnt s i e).od) h hi, ?_, ?_⟩
 ·exact (List.perm_middle.symm).trans hp
 ·refine hes.trans (List.perm_append_comm.trans ?_)
  have e1 : tagged (enterS c (setEnt s i e) i) i = ⟨e.key, i, e.hash⟩ := by
   unfold tagged enterS setEnt; simp only [upd_self]
  have e2 : row.map (tagged (enterS c (setEnt s i e) i)) = row.map (tagged s) := List.map_congr_left fun j hj => by
   have : j ≠ i := fun e => hi (e ▸ hj)
   unfold tagged enterS setEnt; simp only [upd_ne _ _ this]
  rw [List.map_cons, e1, e2]
  exact List.Perm.cons _ he
theorem new_map (hi : i ∉ row) : (i :: row).map (setEnt s i e).ent = e :: row.map s.ent := by
 rw [List.map_cons]
 show upd s.ent i e i :: row.map (upd s.ent i e) = _
 have h1 : row.map (upd s.ent i e) = row.map s.ent := List.map_congr_left fun j hj => upd_ne s.ent e fun h => by rw [h] at hj; exact hi hj
 rw [upd_self, h1]
theorem cput_new (hm : ∀ x ∈ row.map s.ent, x.key ≠ e.key) (hl : row.length < M) : cput Ent.key M (row.map s.ent) e = e :: row.map s.ent := by
 unfold cput
 rw [if_neg (by simpa using hm), if_pos (by simpa using hl)]
theorem cput_full (hm : ∀ x ∈ row.map s.ent, x.key ≠ e.key) (hl : ¬ row.length < M) : cput Ent.key M (row.map s.ent) e = e :: (row.dropLast).map s.ent := by
 unfold cput
 rw [if_neg (by simpa using hm), if_neg (by simpa using hl), List.map_dropLast]
theorem CaI.oldest (h : CaI c n s fr es row) (hne : row ≠ []) : ∃ o, c.ost = some o ∧ row = row.dropLast ++ o :: [] := by
 have h1 := h.rw_.ost
 rw [List.getLast?_eq_some_getLast hne] at h1
 exact ⟨_, h1, (List.dropLast_concat_getLast hne).symm⟩
theorem CaI.drop (h : CaI c n s fr es row) (hn : (es.map Ent.key).Nodup) {o : Nat} (hr : row = A ++ o :: []) (hes : es'.Perm (rest es (s.ent o).key)) : CaI (leaveE c s o) n (leaveS s o) (fr ++ [o]) es' A := by
 have h1 := leave_row h.rw_ hr
 rw [List.append_nil] at h1
 refine ⟨h1, ?_, ?_⟩
 ·refine List.Perm.trans ?_ h.part
  subst hr
  rw [List.append_assoc]
  exact (List.Perm.append_left A (List.perm_append_comm.trans (by simp)))
 ·refine hes.trans ?_
  have h2 : es.Perm (tagged s o :: A.map (tagged s)) := by
   refine h.ents.trans ?_
   subst hr
   rw [List.map_append]
   exact List.perm_append_comm
  exact rest_cons (e := tagged s o) hn h2
structure Fresh (c : Ends) (n : Nat) (s : SlF) (fr : List Nat) (es : List Ent) (row : List Nat) (i : Nat) : Prop where
 rw_ : Row s.nw s.od row c.nst c.ost
 part : (row ++ (i :: fr)).Perm (List.range n)
 ents : es.Perm (row.map (tagged s))
def zeroS (s : SlF) (n : Nat) : SlF := ⟨upd s.ent n ⟨0, 0, 0⟩, upd s.nw n (some 0), upd s.od n (some 0)⟩
theorem CaI.pop (h : CaI c n s (fr ++ [i]) es row) : Fresh c n s fr es row i :=
 ⟨h.rw_, (List.Perm.append_left row (List.perm_append_comm (l₁ := [i]) (l₂ := fr))).trans h.part, h.ents⟩
theorem CaI.made (h : CaI c n s [] es row) : Fresh c (n + 1) (zeroS s n) [] es row n ∧ row.map (zeroS s n).ent = row.map s.ent := by
 have hne : ∀ j ∈ row, j ≠ n := fun j hj e => by have := h.lt.1 j hj; omega
 have h1 : row.map (zeroS s n).ent = row.map s.ent := List.map_congr_left fun j hj => upd_ne _ _ (hne j hj)
 have h2 : row.map (tagged (zeroS s n)) = row.map (tagged s) := List.map_congr_left fun j hj => by
  unfold tagged zeroS
  simp only [upd_ne _ _ (hne j hj)]
 refine ⟨⟨⟨h.rw_.nd, h.rw_.nst, h.rw_.ost, h.rw_.ch.congr fun j hj => ⟨upd_ne _ _ (hne j hj), upd_ne _ _ (hne j hj)⟩⟩, ?_, h2 ▸ h.ents⟩, h1⟩
 have h3 := h.part
 rw [List.append_nil] at h3
 rw [List.range_succ]
 exact h3.append_right [n]
theorem Fresh.put (h : Fresh c n s fr es row i) (hes : es'.Perm (es ++ [⟨e.key, i, e.hash⟩])) : CaI (enterE c i) n (enterS c (setEnt s i e) i) fr es' (i :: row) ∧ (i :: row).map (enterS c (setEnt s i e) i).ent = e :: row.map s.ent := by
 have hnd := (h.part.nodup_iff).2 List.nodup_range
 have hi : i ∉ row := fun hm => by
  rw [List.nodup_append] at hnd
  exact hnd.2.2 i hm i (by simp) rfl
 exact ⟨CaI.new h.rw_ h.part h.ents hes, new_map hi⟩
theorem Fresh.lt (h : Fresh c n s fr es row i) : i < n := List.mem_range.1 (h.part.mem_iff.1 (List.mem_append_right row (by simp)))
end
end
section
structure Cur where
 hash : Nat
 key : Nat
 done : Bool
def behind (hash key : Nat) : Cur := if key < 18446744073709551615 then ⟨hash, key + 1, false⟩ else if hash < 18446744073709551615 then ⟨hash + 1, 0, false⟩ else ⟨0, 0, true⟩
def Cur.ok (c : Cur) : Prop := c.hash < 18446744073709551616 ∧ c.key < 18446744073709551616
def Cur.cells (c : Cur) : Array Value := #[.int .u64 (c.key : Int), .int .u64 0, .int .u64 (c.hash : Int), .bool c.done]
def CurAt (w : World) (b : Nat) (c : Cur) : Prop := Blk w b 308 c.cells
theorem CurAt.blk {w : World} {b : Nat} {c : Cur} (h : CurAt w b c) : Blk w b 308 #[.int .u64 (c.key : Int), .int .u64 0, .int .u64 (c.hash : Int), .bool c.done] := h
theorem CurAt.lt {w : World} {b : Nat} {c : Cur} (h : CurAt w b c) : b < w.heap.size := Blk.lt h
theorem CurAt.mod {S : List Nat} {w w' : World} {b : Nat} {c : Cur} (h : CurAt w b c) (hm : Mod S w w') (hb : b ∉ S) : CurAt w' b c := Blk.mod h hm hb
instance {w w' : World} {b : Nat} {c : Cur} : Md (CurAt w b c) w w' (CurAt w' b c) (fun S => b ∉ S) := ⟨fun h hm hs => CurAt.mod h hm hs⟩
theorem catch_idle (p : Addr) (w : World) :
  CallsD Tryz.prog 44 #[.pointer (some p)] .returning w fun e u' w' => e = .returned (.tuple #[]) ∧ u' = .returning ∧ w' = w := by
 refine callsD_of_wpS Tryz.func44 rfl fun c₀ cs hu => ?_
 apply wpS_seq
 apply wpS_region
 simp [wpOpsS, go_sem, recoverD, hu, Tryz.ntmps44, Exit.thenS]
 refine wpS_of_wp ?_
 go_wp2
 cases c₀
 simp_all [bodyPostS, results, Tryz.results44]
theorem eqIn_fn (d : Nat) (fn : Fn) (a b : Array Value) (w : World) : (Op.equalIn (d + 1) 1 (.func fn a b) .nilFunc).run Tryz.prog w = .ok false w := by simp [Op.equalIn, run_underlying Tryz.underlying1]
theorem eq_fn (fn : Fn) (a b : Array Value) (w : World) : (Op.equal 1 (.func fn a b) .nilFunc).run Tryz.prog w = .ok false w := eqIn_fn 9999 fn a b w
theorem trap_Catch {S : List Nat} {K : World → Prop} (G : FuncId) (cap : Array Value) (w : World) (hG : ∀ W : World, (callFunc G cap).run Tryz.prog W = .ok (.enter G cap) W) (hS : w.heap.size ∉ S)
  (hc : Calls Tryz.prog G cap (w.alloc (.cells #[.nilIface] 28)) fun e w1 => e = .returned (.tuple #[]) ∧ Mod S (w.alloc (.cells #[.nilIface] 28)) w1 ∧ K w1) :
  Calls Tryz.prog 28 #[.func (.func G) #[] cap] w fun e w1 => e = .returned .nilIface ∧ Mod S (w.alloc (.cells #[.nilIface] 28)) w1 ∧ K w1 := by
 have hmf : ∀ (fn : Fn) (first cap : Array Value) (w : World), (Instr.makeFunc fn first cap).run Tryz.prog w = .ok (.func fn first cap) w := fun _ _ _ _ => rfl
 have hq : ∀ W : World, (binOp .eql 1 (.func (.func G) #[] cap) .nilFunc).run Tryz.prog W = .ok (.bool false) W := fun W => by
  simp only [binOp]
  simp [eq_fn]
 have HC := qd hc
 clear hc
 go_enter_defers Tryz.func28, Tryz.ntmps28
 go_wp2_with fail
 refine HC.out.mono ?_
 rintro y w1 ⟨rfl, hm, hk⟩
 have hB := (Blk.new w 28 #[.nilIface]).mod hm hS
 have hid := hB.setCell_id (i := 0) (u := .nilIface) rfl
 have c0 := hB.cell 0
 have f0 := hB.frozen 0
 simp only [List.getElem?_toArray, List.getElem?_cons_zero] at c0
 have HI := qd hid
 have HM := qd hm
 have HK := qd hk
 clear hB hid hm hk HC
 go_wp2
 rw [HI.out]
 refine leaves_cons (f := 44) (args := #[.pointer (some ⟨w.heap.size, 0, none⟩)]) (by simp) (by simp [go_sem]) ?_
 refine (catch_idle ⟨w.heap.size, 0, none⟩ _).mono ?_
 rintro e u' w2 ⟨rfl, rfl, rfl⟩
 simp [Leaves, settle, results, Tryz.results28, go_sem, c0]
 exact ⟨HM.out, HK.out⟩
section
variable {w : World} {b : Nat} {c : Cur}
end
end
section
def mEnt (p : Nat × Nat) : MapEntry := ⟨.int .i64 (p.1 : Int), .pointer (some ⟨p.2, 0, none⟩), p.1 - 1⟩
def MapL (w : World) (b g : Nat) (l : List (Nat × Nat)) : Prop := w.heap[b]? = some (.map (l.map mEnt).toArray g)
def findL (l : List (Nat × Nat)) (x : Int) : Option Nat := (l.find? fun p => decide ((p.1 : Int) = x)).map Prod.snd
def ptrO (o : Option Nat) : Value := .pointer (o.map fun b => ⟨b, 0, none⟩)
section
variable {P : Program} {w w' : World} {b g : Nat} {l : List (Nat × Nat)} {t k e : TypeId}
theorem MapL.lt (h : MapL w b g l) : b < w.heap.size := (Array.getElem?_eq_some_iff.1 h).1
theorem MapL.mod {S : List Nat} (h : MapL w b g l) (hm : Mod S w w') (hb : b ∉ S) : MapL w' b g l := (hm.block b h.lt hb).trans h
instance {w w' : World} {b g : Nat} {l : List (Nat × Nat)} : Md (MapL w b g l) w w' (MapL w' b g l) (fun S => b ∉ S) := ⟨fun h hm hs => MapL.mod h hm hs⟩
theorem MapL.new (w : World) : MapL (w.alloc (.map #[] 0)) w.heap.size 0 [] := by
 exact heap_alloc_new w _
theorem find_now (x : Int) : ∀ (l : List (Nat × Nat)) (i : Nat), ∃ a, Instr.findNow (.int .i64) (.int .i64 x) (l.map mEnt) i = some a ∧ a.map Prod.snd = (findL l x).map (fun b => Value.pointer (some ⟨b, 0, none⟩)) ∧ ∀ p, a = some p → ∃ j, p.1 = i + j ∧ (l.map Prod.fst)[j]?.map (fun n : Nat => (n : Int)) = some x
 | [], _ => ⟨none, rfl, rfl, fun _ h => by cases h⟩
 | p :: l, i => by
  by_cases hp : (p.1 : Int) = x
  ·refine ⟨some (i, .pointer (some ⟨p.2, 0, none⟩)), ?_, ?_, fun q hq => ?_⟩
   ·subst hp; simp [Instr.findNow, Instr.sameNow, mEnt]
   ·unfold findL; rw [List.find?_cons_of_pos (by simpa using hp)]; rfl
   ·cases hq; exact ⟨0, rfl, by simp [hp]⟩
  ·obtain ⟨a, h1, h2, h3⟩ := find_now x l (i + 1)
   refine ⟨a, ?_, ?_, fun q hq => ?_⟩
   ·have : ((x == (p.1 : Int)) = false) := by simpa using fun h => hp h.symm
    simp [Instr.findNow, Instr.sameNow, mEnt, this] at h1 ⊢
    exact h1
   ·unfold findL at h2 ⊢; rw [List.find?_cons_of_neg (by simpa using hp)]; exact h2
   ·obtain ⟨j, h4, h5⟩ := h3 q hq
    exact ⟨j + 1, by omega, by simpa using h5⟩
theorem key_int {x : Int} : IsKey (.int .i64) (.int .i64 x) := by simp [IsKey]
theorem MapL.look (h : MapL w b g l) (ht : P.underlying t = some (.map k e)) (hk : P.underlying k = some (.int .i64)) (hz : (zeroValue e).run P w = .ok (.pointer none) w) (x : Int) :
  (Instr.lookup t (.map (some b)) (.int .i64 x) true).run P w = .ok (.tuple #[ptrO (findL l x), .bool (findL l x).isSome]) w := by
 obtain ⟨a, h1, h2, _⟩ := find_now x l 0
 have h3 := run_findKey (P := P) (w := w) hk h1
 cases hf : findL l x with
 | none =>
  rw [hf] at h2
  obtain rfl : a = none := by cases a with | none => rfl | some q => simp at h2
  simp [Instr.lookup, run_underlying ht, Go.MapKept.run_getObj_map (show w.heap[b]? = some (.map (l.map mEnt).toArray g) from h), run_checkKey hk key_int, h3, hz, Result.andThen, ptrO]
 | some c =>
  rw [hf] at h2
  cases a with
  | none => simp at h2
  | some q =>
   obtain ⟨i, v⟩ := q
   simp at h2
   subst h2
   simp [Instr.lookup, run_underlying ht, Go.MapKept.run_getObj_map (show w.heap[b]? = some (.map (l.map mEnt).toArray g) from h), run_checkKey hk key_int, h3, Result.andThen, ptrO]
theorem findL_none {x : Int} : findL l x = none ↔ ∀ p ∈ l, (p.1 : Int) ≠ x := by
 unfold findL
 rw [Option.map_eq_none_iff, List.find?_eq_none]
 simp
theorem MapL.mod_ (h : MapL w b g l) (o : Obj) : Mod [b] w (setBlock w b o) := ⟨rfl, rfl, rfl, by simp [setBlock], fun k _ hn => heap_setBlock_other h o (by simpa using hn)⟩
theorem MapL.put (h : MapL w b g l) (ht : P.underlying t = some (.map k e)) (hk : P.underlying k = some (.int .i64)) (hf : findL l ((g + 1 : Nat) : Int) = none) (c : Nat) :
  (Instr.mapUpdate t (.map (some b)) (.int .i64 ((g + 1 : Nat) : Int)) (.pointer (some ⟨c, 0, none⟩))).run P w = .ok () (setBlock w b (.map ((l ++ [(g + 1, c)]).map mEnt).toArray (g + 1))) := by
 obtain ⟨a, h1, h2, _⟩ := find_now ((g + 1 : Nat) : Int) l 0
 have h3 := run_findKey (P := P) (w := w) hk h1
 rw [hf] at h2
 obtain rfl : a = none := by cases a with | none => rfl | some q => simp at h2
 rw [show ((g + 1 : Nat) : Int) = (g : Int) + 1 from by omega] at h3
 simp [Instr.mapUpdate, run_underlying ht, Go.MapKept.run_getObj_map (show w.heap[b]? = some (.map (l.map mEnt).toArray g) from h), run_checkKey hk key_int, h3, Go.MapKept.run_setObj_map _ (show w.heap[b]? = some (.map (l.map mEnt).toArray g) from h), Result.andThen, setBlock, mEnt]
theorem MapL.set_ (h : MapL w b g l) (l' : List (Nat × Nat)) (g' : Nat) : MapL (setBlock w b (.map (l'.map mEnt).toArray g')) b g' l' := heap_setBlock_same h _
end
end
end Go.Proofs.YtfcecmcnmgagnaaGreatDoor
