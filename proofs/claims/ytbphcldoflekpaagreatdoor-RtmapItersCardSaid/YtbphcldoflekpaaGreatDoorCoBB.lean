/- A node's Find, Delete, Least, whatever the dual or the table tells. -/
import Derived.Test.YtbphcldoflekpaaGreatDoorCoBA
import Derived.Test.YtbphcldoflekpaaGreatDoorSqT
import Derived.Test.YtbphcldoflekpaaGreatDoorLaneP
namespace Go.Proofs.YtbphcldoflekpaaGreatDoor
set_option maxRecDepth 100000
set_option maxHeartbeats 4000000
open Go.RowKit dA
def aK (b : Nat) : Value := pQ b
def Through (Post : World → World → Prop) (w w' : World) : Prop := ∃ V V' ZH, Below w.heap.size w V ∧ Post V V' ∧ w.heap.size ≤ ZH ∧ ZH < V.heap.size ∧ Mod [ZH] V' w'
theorem Gc (nb tb db : Nat) (pfx au job a b : Int) (P : MP) (c : bC) (e0 : av) (b0 : Bool) (S : List Nat) (Post : World → World → Prop) (w : World) (hnd : aj w nb 146 #[.int .i64 pfx, .int .i64 au, pQ tb, .int .i64 job, pQ db]) (hS : ∀ k ∈ S, k < w.heap.size)
  (HC : ∀ V, Below w.heap.size w V → Calls Tryz.prog 99 #[pQ db, aG (some ⟨P.mb, P.mo, none⟩) c, .int .u64 a, .int .u64 b] V fun e V' => e = .returned (.tuple #[aM e0, .bool b0]) ∧ Mod S V V' ∧ Post V V') :
  Calls Tryz.prog 63 #[aK nb, aG (some ⟨P.mb, P.mo, none⟩) c, .int .u64 a, .int .u64 b] w fun e w' => e = .returned (.tuple #[aM e0, .bool b0]) ∧ Through Post w w' := by
 obtain ⟨W, hW, hB, hL, hR⟩ := jS w 115 #[.pointer (some ⟨P.mb, P.mo, none⟩), .int .i64 c.p, .int .i64 c.v, .int .i64 c.u] 38 #[.int .u64 0, .int .u64 0, .int .u64 0]
 have hnl := hnd.lt
 have hwl : w.heap.size < W.heap.size := hL.lt
 have HW := qd hW
 have pX := qd hB
 have HC := qd (HC W.drew (hB.trans ((Below.refl _ _).drew.mono hB.size)))
 unfold aK
 unfold aG aM at HC ⊢
 have HN := qd (hnd.below hB hnd.lt)
 have HL := qd (hL)
 have HR := qd (hR)
 have ah := qd (Mod.of_below hB [])
 clear hW hB hnd hL hR
 go_in
 go_upto_region 1 with fail
 rw [← HW.out]
 have nc := HN.out.c5
 have lc := HL.out.c4
 go_upto_region 2 with fail
 refine rT (fun (w' : World) => w'.cell? ⟨nb, 4, none⟩ = some (pQ db) ∧ w'.cell? ⟨w.heap.size, 0, none⟩ = some (.pointer (some ⟨P.mb, P.mo, none⟩)) ∧ w'.cell? ⟨w.heap.size, 1, none⟩ = some (.int .i64 c.p) ∧ w'.cell? ⟨w.heap.size, 2, none⟩ = some (.int .i64 c.v) ∧ w'.cell? ⟨w.heap.size, 3, none⟩ = some (.int .i64 c.u)) [7, 10] ?_
 have hHeld := (⟨nc.2.2.2.2, lc.1, lc.2.1, lc.2.2.1, lc.2.2.2⟩ : _ ∧ _ ∧ _ ∧ _ ∧ _)
 refine vW 0 rfl ?_
 refine vW 1 rfl ?_
 refine vW 2 rfl ?_
 refine vT 3 rfl ?_
 refine vT 4 rfl ?_
 refine vW 5 rfl ?_
 refine vW 6 rfl ?_
 refine nT 7 rfl fun K hK => ?_
 go_simp
 refine (HC.out).mono ?_
 rintro y w2 ⟨rfl, hm, hpost⟩
 have qK := qd hpost
 have hR2 := HR.out.mod ((Mod.drewN S W 1).then hm) (by intro hk; have := hS _ hk; omega)
 have HR2 := qd hR2
 have rc := hR2.c3
 have rf := hR2.f3
 clear hpost hm hR2
 go_wp2_with fail
 refine kO hK ?_
 clear hK K
 refine vL 8 rfl ?_
 refine vL 9 rfl ?_
 refine nT 10 rfl fun K hK => ?_
 go_simp
 refine kO hK ?_
 clear hK K
 refine vL 11 rfl ?_
 refine aT (by kernel_rfl) ?_ _
 have mq := ((HR2.out.ak 0 (nU e0.key)).ak 1 (nU e0.val)).ak 2 (nU e0.hash)
 simp only [pt] at mq
 refine cO (F := fun v => aj v (w.heap.size + 1) 38 #[nU e0.key, nU e0.val, nU e0.hash] ∧ Mod [w.heap.size + 1] w2 v) ⟨mq, (((Mod.refl [w.heap.size + 1] w2).ak (b := w.heap.size + 1) (.inl (by simp)) 0 (nU e0.key)).ak (b := w.heap.size + 1) (.inl (by simp)) 1 (nU e0.val)).ak (b := w.heap.size + 1) (.inl (by simp)) 2 (nU e0.hash)⟩ ?_
 rintro w3 ⟨mQ, fE⟩
 clear mq rc rf
 have rx := mQ.c3
 clear mQ
 have HFin := qd (show Through Post w w3 from ⟨W.drew, w2, w.heap.size + 1, pX.out.trans ((Below.refl _ _).drew.mono pX.out.size), qK.out, by omega, HR.out.lt, fE⟩)
 clear fE
 go_wp2
 refine bodyPost_ret (v := .tuple #[.agg #[nU e0.key, nU e0.val, nU e0.hash], .bool b0]) (by simp [results, Tryz.results63, go_sem, rx.1, rx.2.1, rx.2.2]) rfl ⟨rfl, HFin.out⟩
theorem JB (nb tb : Nat) (pfx au job a b : Int) (P : MP) (c : bC) (e0 : av) (b0 : Bool) (S : List Nat) (Post : World → World → Prop) (w : World) (hnd : aj w nb 146 #[.int .i64 pfx, .int .i64 au, pQ tb, .int .i64 job, .pointer none]) (hS : ∀ k ∈ S, k < w.heap.size)
  (HC : ∀ V, Below w.heap.size w V → Calls Tryz.prog 100 #[pQ tb, aG (some ⟨P.mb, P.mo, none⟩) c, .int .u64 a, .int .u64 b] V fun e V' => e = .returned (.tuple #[aM e0, .bool b0]) ∧ Mod S V V' ∧ Post V V') :
  Calls Tryz.prog 63 #[aK nb, aG (some ⟨P.mb, P.mo, none⟩) c, .int .u64 a, .int .u64 b] w fun e w' => e = .returned (.tuple #[aM e0, .bool b0]) ∧ Through Post w w' := by
 obtain ⟨W, hW, hB, hL, hR⟩ := jS w 115 #[.pointer (some ⟨P.mb, P.mo, none⟩), .int .i64 c.p, .int .i64 c.v, .int .i64 c.u] 38 #[.int .u64 0, .int .u64 0, .int .u64 0]
 have hnl := hnd.lt
 have hwl : w.heap.size < W.heap.size := hL.lt
 have HW := qd hW
 have pX := qd hB
 have HC := qd (HC W.drew (hB.trans ((Below.refl _ _).drew.mono hB.size)))
 unfold aK
 unfold aG aM at HC ⊢
 have HN := qd (hnd.below hB hnd.lt)
 have HL := qd (hL)
 have HR := qd (hR)
 have ah := qd (Mod.of_below hB [])
 clear hW hB hnd hL hR
 go_in
 go_upto_region 1 with fail
 rw [← HW.out]
 have nc := HN.out.c5
 have lc := HL.out.c4
 go_upto_region 3 with fail
 refine rT (fun (w' : World) => w'.cell? ⟨nb, 2, none⟩ = some (pQ tb) ∧ w'.cell? ⟨w.heap.size, 0, none⟩ = some (.pointer (some ⟨P.mb, P.mo, none⟩)) ∧ w'.cell? ⟨w.heap.size, 1, none⟩ = some (.int .i64 c.p) ∧ w'.cell? ⟨w.heap.size, 2, none⟩ = some (.int .i64 c.v) ∧ w'.cell? ⟨w.heap.size, 3, none⟩ = some (.int .i64 c.u)) [7, 10] ?_
 have hHeld := (⟨nc.2.2.1, lc.1, lc.2.1, lc.2.2.1, lc.2.2.2⟩ : _ ∧ _ ∧ _ ∧ _ ∧ _)
 refine vW 0 rfl ?_
 refine vW 1 rfl ?_
 refine vW 2 rfl ?_
 refine vT 3 rfl ?_
 refine vT 4 rfl ?_
 refine vW 5 rfl ?_
 refine vW 6 rfl ?_
 refine nT 7 rfl fun K hK => ?_
 go_simp
 refine (HC.out).mono ?_
 rintro y w2 ⟨rfl, hm, hpost⟩
 have qK := qd hpost
 have hR2 := HR.out.mod ((Mod.drewN S W 1).then hm) (by intro hk; have := hS _ hk; omega)
 have HR2 := qd hR2
 have rc := hR2.c3
 have rf := hR2.f3
 clear hpost hm hR2
 go_wp2_with fail
 refine kO hK ?_
 clear hK K
 refine vL 8 rfl ?_
 refine vL 9 rfl ?_
 refine nT 10 rfl fun K hK => ?_
 go_simp
 refine kO hK ?_
 clear hK K
 refine vL 11 rfl ?_
 refine aT (by kernel_rfl) ?_ _
 have mq := ((HR2.out.ak 0 (nU e0.key)).ak 1 (nU e0.val)).ak 2 (nU e0.hash)
 simp only [pt] at mq
 refine cO (F := fun v => aj v (w.heap.size + 1) 38 #[nU e0.key, nU e0.val, nU e0.hash] ∧ Mod [w.heap.size + 1] w2 v) ⟨mq, (((Mod.refl [w.heap.size + 1] w2).ak (b := w.heap.size + 1) (.inl (by simp)) 0 (nU e0.key)).ak (b := w.heap.size + 1) (.inl (by simp)) 1 (nU e0.val)).ak (b := w.heap.size + 1) (.inl (by simp)) 2 (nU e0.hash)⟩ ?_
 rintro w3 ⟨mQ, fE⟩
 clear mq rc rf
 have rx := mQ.c3
 clear mQ
 have HFin := qd (show Through Post w w3 from ⟨W.drew, w2, w.heap.size + 1, pX.out.trans ((Below.refl _ _).drew.mono pX.out.size), qK.out, by omega, HR.out.lt, fE⟩)
 clear fE
 go_wp2
 refine bodyPost_ret (v := .tuple #[.agg #[nU e0.key, nU e0.val, nU e0.hash], .bool b0]) (by simp [results, Tryz.results63, go_sem, rx.1, rx.2.1, rx.2.2]) rfl ⟨rfl, HFin.out⟩
theorem vO (nb tb db : Nat) (pfx au job a b : Int) (P : MP) (c : bC) (e0 : av) (b0 : Bool) (S : List Nat) (Post : World → World → Prop) (w : World) (hnd : aj w nb 146 #[.int .i64 pfx, .int .i64 au, pQ tb, .int .i64 job, pQ db]) (hS : ∀ k ∈ S, k < w.heap.size)
  (HC : ∀ V, Below w.heap.size w V → Calls Tryz.prog 97 #[pQ db, aG (some ⟨P.mb, P.mo, none⟩) c, .int .u64 a, .int .u64 b] V fun e V' => e = .returned (.tuple #[aM e0, .bool b0]) ∧ Mod S V V' ∧ Post V V') :
  Calls Tryz.prog 61 #[aK nb, aG (some ⟨P.mb, P.mo, none⟩) c, .int .u64 a, .int .u64 b] w fun e w' => e = .returned (.tuple #[aM e0, .bool b0]) ∧ Through Post w w' := by
 obtain ⟨W, hW, hB, hL, hR⟩ := jS w 115 #[.pointer (some ⟨P.mb, P.mo, none⟩), .int .i64 c.p, .int .i64 c.v, .int .i64 c.u] 38 #[.int .u64 0, .int .u64 0, .int .u64 0]
 have hnl := hnd.lt
 have hwl : w.heap.size < W.heap.size := hL.lt
 have HW := qd hW
 have pX := qd hB
 have HC := qd (HC W.drew (hB.trans ((Below.refl _ _).drew.mono hB.size)))
 unfold aK
 unfold aG aM at HC ⊢
 have HN := qd (hnd.below hB hnd.lt)
 have HL := qd (hL)
 have HR := qd (hR)
 have ah := qd (Mod.of_below hB [])
 clear hW hB hnd hL hR
 go_in
 go_upto_region 1 with fail
 rw [← HW.out]
 have nc := HN.out.c5
 have lc := HL.out.c4
 go_upto_region 2 with fail
 refine rT (fun (w' : World) => w'.cell? ⟨nb, 4, none⟩ = some (pQ db) ∧ w'.cell? ⟨w.heap.size, 0, none⟩ = some (.pointer (some ⟨P.mb, P.mo, none⟩)) ∧ w'.cell? ⟨w.heap.size, 1, none⟩ = some (.int .i64 c.p) ∧ w'.cell? ⟨w.heap.size, 2, none⟩ = some (.int .i64 c.v) ∧ w'.cell? ⟨w.heap.size, 3, none⟩ = some (.int .i64 c.u)) [7, 10] ?_
 have hHeld := (⟨nc.2.2.2.2, lc.1, lc.2.1, lc.2.2.1, lc.2.2.2⟩ : _ ∧ _ ∧ _ ∧ _ ∧ _)
 refine vW 0 rfl ?_
 refine vW 1 rfl ?_
 refine vW 2 rfl ?_
 refine vT 3 rfl ?_
 refine vT 4 rfl ?_
 refine vW 5 rfl ?_
 refine vW 6 rfl ?_
 refine nT 7 rfl fun K hK => ?_
 go_simp
 refine (HC.out).mono ?_
 rintro y w2 ⟨rfl, hm, hpost⟩
 have qK := qd hpost
 have hR2 := HR.out.mod ((Mod.drewN S W 1).then hm) (by intro hk; have := hS _ hk; omega)
 have HR2 := qd hR2
 have rc := hR2.c3
 have rf := hR2.f3
 clear hpost hm hR2
 go_wp2_with fail
 refine kO hK ?_
 clear hK K
 refine vL 8 rfl ?_
 refine vL 9 rfl ?_
 refine nT 10 rfl fun K hK => ?_
 go_simp
 refine kO hK ?_
 clear hK K
 refine vL 11 rfl ?_
 refine aT (by kernel_rfl) ?_ _
 have mq := ((HR2.out.ak 0 (nU e0.key)).ak 1 (nU e0.val)).ak 2 (nU e0.hash)
 simp only [pt] at mq
 refine cO (F := fun v => aj v (w.heap.size + 1) 38 #[nU e0.key, nU e0.val, nU e0.hash] ∧ Mod [w.heap.size + 1] w2 v) ⟨mq, (((Mod.refl [w.heap.size + 1] w2).ak (b := w.heap.size + 1) (.inl (by simp)) 0 (nU e0.key)).ak (b := w.heap.size + 1) (.inl (by simp)) 1 (nU e0.val)).ak (b := w.heap.size + 1) (.inl (by simp)) 2 (nU e0.hash)⟩ ?_
 rintro w3 ⟨mQ, fE⟩
 clear mq rc rf
 have rx := mQ.c3
 clear mQ
 have HFin := qd (show Through Post w w3 from ⟨W.drew, w2, w.heap.size + 1, pX.out.trans ((Below.refl _ _).drew.mono pX.out.size), qK.out, by omega, HR.out.lt, fE⟩)
 clear fE
 go_wp2
 refine bodyPost_ret (v := .tuple #[.agg #[nU e0.key, nU e0.val, nU e0.hash], .bool b0]) (by simp [results, Tryz.results61, go_sem, rx.1, rx.2.1, rx.2.2]) rfl ⟨rfl, HFin.out⟩
theorem wZ (nb tb : Nat) (pfx au job a b : Int) (P : MP) (c : bC) (e0 : av) (b0 : Bool) (S : List Nat) (Post : World → World → Prop) (w : World) (hnd : aj w nb 146 #[.int .i64 pfx, .int .i64 au, pQ tb, .int .i64 job, .pointer none]) (hS : ∀ k ∈ S, k < w.heap.size)
  (HC : ∀ V, Below w.heap.size w V → Calls Tryz.prog 98 #[pQ tb, aG (some ⟨P.mb, P.mo, none⟩) c, .int .u64 a, .int .u64 b] V fun e V' => e = .returned (.tuple #[aM e0, .bool b0]) ∧ Mod S V V' ∧ Post V V') :
  Calls Tryz.prog 61 #[aK nb, aG (some ⟨P.mb, P.mo, none⟩) c, .int .u64 a, .int .u64 b] w fun e w' => e = .returned (.tuple #[aM e0, .bool b0]) ∧ Through Post w w' := by
 obtain ⟨W, hW, hB, hL, hR⟩ := jS w 115 #[.pointer (some ⟨P.mb, P.mo, none⟩), .int .i64 c.p, .int .i64 c.v, .int .i64 c.u] 38 #[.int .u64 0, .int .u64 0, .int .u64 0]
 have hnl := hnd.lt
 have hwl : w.heap.size < W.heap.size := hL.lt
 have HW := qd hW
 have pX := qd hB
 have HC := qd (HC W.drew (hB.trans ((Below.refl _ _).drew.mono hB.size)))
 unfold aK
 unfold aG aM at HC ⊢
 have HN := qd (hnd.below hB hnd.lt)
 have HL := qd (hL)
 have HR := qd (hR)
 have ah := qd (Mod.of_below hB [])
 clear hW hB hnd hL hR
 go_in
 go_upto_region 1 with fail
 rw [← HW.out]
 have nc := HN.out.c5
 have lc := HL.out.c4
 go_upto_region 3 with fail
 refine rT (fun (w' : World) => w'.cell? ⟨nb, 2, none⟩ = some (pQ tb) ∧ w'.cell? ⟨w.heap.size, 0, none⟩ = some (.pointer (some ⟨P.mb, P.mo, none⟩)) ∧ w'.cell? ⟨w.heap.size, 1, none⟩ = some (.int .i64 c.p) ∧ w'.cell? ⟨w.heap.size, 2, none⟩ = some (.int .i64 c.v) ∧ w'.cell? ⟨w.heap.size, 3, none⟩ = some (.int .i64 c.u)) [7, 10] ?_
 have hHeld := (⟨nc.2.2.1, lc.1, lc.2.1, lc.2.2.1, lc.2.2.2⟩ : _ ∧ _ ∧ _ ∧ _ ∧ _)
 refine vW 0 rfl ?_
 refine vW 1 rfl ?_
 refine vW 2 rfl ?_
 refine vT 3 rfl ?_
 refine vT 4 rfl ?_
 refine vW 5 rfl ?_
 refine vW 6 rfl ?_
 refine nT 7 rfl fun K hK => ?_
 go_simp
 refine (HC.out).mono ?_
 rintro y w2 ⟨rfl, hm, hpost⟩
 have qK := qd hpost
 have hR2 := HR.out.mod ((Mod.drewN S W 1).then hm) (by intro hk; have := hS _ hk; omega)
 have HR2 := qd hR2
 have rc := hR2.c3
 have rf := hR2.f3
 clear hpost hm hR2
 go_wp2_with fail
 refine kO hK ?_
 clear hK K
 refine vL 8 rfl ?_
 refine vL 9 rfl ?_
 refine nT 10 rfl fun K hK => ?_
 go_simp
 refine kO hK ?_
 clear hK K
 refine vL 11 rfl ?_
 refine aT (by kernel_rfl) ?_ _
 have mq := ((HR2.out.ak 0 (nU e0.key)).ak 1 (nU e0.val)).ak 2 (nU e0.hash)
 simp only [pt] at mq
 refine cO (F := fun v => aj v (w.heap.size + 1) 38 #[nU e0.key, nU e0.val, nU e0.hash] ∧ Mod [w.heap.size + 1] w2 v) ⟨mq, (((Mod.refl [w.heap.size + 1] w2).ak (b := w.heap.size + 1) (.inl (by simp)) 0 (nU e0.key)).ak (b := w.heap.size + 1) (.inl (by simp)) 1 (nU e0.val)).ak (b := w.heap.size + 1) (.inl (by simp)) 2 (nU e0.hash)⟩ ?_
 rintro w3 ⟨mQ, fE⟩
 clear mq rc rf
 have rx := mQ.c3
 clear mQ
 have HFin := qd (show Through Post w w3 from ⟨W.drew, w2, w.heap.size + 1, pX.out.trans ((Below.refl _ _).drew.mono pX.out.size), qK.out, by omega, HR.out.lt, fE⟩)
 clear fE
 go_wp2
 refine bodyPost_ret (v := .tuple #[.agg #[nU e0.key, nU e0.val, nU e0.hash], .bool b0]) (by simp [results, Tryz.results61, go_sem, rx.1, rx.2.1, rx.2.2]) rfl ⟨rfl, HFin.out⟩
theorem xg (nb tb db : Nat) (pfx au job a b : Int) (P : MP) (c : bC) (e0 : av) (b0 : Bool) (S : List Nat) (Post : World → World → Prop) (w : World) (hnd : aj w nb 146 #[.int .i64 pfx, .int .i64 au, pQ tb, .int .i64 job, pQ db]) (hS : ∀ k ∈ S, k < w.heap.size)
  (HC : ∀ V, Below w.heap.size w V → Calls Tryz.prog 150 #[pQ db, aG (some ⟨P.mb, P.mo, none⟩) c, .int .u64 a, .int .u64 b] V fun e V' => e = .returned (.tuple #[aM e0, .bool b0]) ∧ Mod S V V' ∧ Post V V') :
  Calls Tryz.prog 103 #[aK nb, aG (some ⟨P.mb, P.mo, none⟩) c, .int .u64 a, .int .u64 b] w fun e w' => e = .returned (.tuple #[aM e0, .bool b0]) ∧ Through Post w w' := by
 obtain ⟨W, hW, hB, hL, hR⟩ := jS w 115 #[.pointer (some ⟨P.mb, P.mo, none⟩), .int .i64 c.p, .int .i64 c.v, .int .i64 c.u] 38 #[.int .u64 0, .int .u64 0, .int .u64 0]
 have hnl := hnd.lt
 have hwl : w.heap.size < W.heap.size := hL.lt
 have HW := qd hW
 have pX := qd hB
 have HC := qd (HC W.drew (hB.trans ((Below.refl _ _).drew.mono hB.size)))
 unfold aK
 unfold aG aM at HC ⊢
 have HN := qd (hnd.below hB hnd.lt)
 have HL := qd (hL)
 have HR := qd (hR)
 have ah := qd (Mod.of_below hB [])
 clear hW hB hnd hL hR
 go_in
 go_upto_region 1 with fail
 rw [← HW.out]
 have nc := HN.out.c5
 have lc := HL.out.c4
 go_upto_region 2 with fail
 refine rT (fun (w' : World) => w'.cell? ⟨nb, 4, none⟩ = some (pQ db) ∧ w'.cell? ⟨w.heap.size, 0, none⟩ = some (.pointer (some ⟨P.mb, P.mo, none⟩)) ∧ w'.cell? ⟨w.heap.size, 1, none⟩ = some (.int .i64 c.p) ∧ w'.cell? ⟨w.heap.size, 2, none⟩ = some (.int .i64 c.v) ∧ w'.cell? ⟨w.heap.size, 3, none⟩ = some (.int .i64 c.u)) [7, 10] ?_
 have hHeld := (⟨nc.2.2.2.2, lc.1, lc.2.1, lc.2.2.1, lc.2.2.2⟩ : _ ∧ _ ∧ _ ∧ _ ∧ _)
 refine vW 0 rfl ?_
 refine vW 1 rfl ?_
 refine vW 2 rfl ?_
 refine vT 3 rfl ?_
 refine vT 4 rfl ?_
 refine vW 5 rfl ?_
 refine vW 6 rfl ?_
 refine nT 7 rfl fun K hK => ?_
 go_simp
 refine (HC.out).mono ?_
 rintro y w2 ⟨rfl, hm, hpost⟩
 have qK := qd hpost
 have hR2 := HR.out.mod ((Mod.drewN S W 1).then hm) (by intro hk; have := hS _ hk; omega)
 have HR2 := qd hR2
 have rc := hR2.c3
 have rf := hR2.f3
 clear hpost hm hR2
 go_wp2_with fail
 refine kO hK ?_
 clear hK K
 refine vL 8 rfl ?_
 refine vL 9 rfl ?_
 refine nT 10 rfl fun K hK => ?_
 go_simp
 refine kO hK ?_
 clear hK K
 refine vL 11 rfl ?_
 refine aT (by kernel_rfl) ?_ _
 have mq := ((HR2.out.ak 0 (nU e0.key)).ak 1 (nU e0.val)).ak 2 (nU e0.hash)
 simp only [pt] at mq
 refine cO (F := fun v => aj v (w.heap.size + 1) 38 #[nU e0.key, nU e0.val, nU e0.hash] ∧ Mod [w.heap.size + 1] w2 v) ⟨mq, (((Mod.refl [w.heap.size + 1] w2).ak (b := w.heap.size + 1) (.inl (by simp)) 0 (nU e0.key)).ak (b := w.heap.size + 1) (.inl (by simp)) 1 (nU e0.val)).ak (b := w.heap.size + 1) (.inl (by simp)) 2 (nU e0.hash)⟩ ?_
 rintro w3 ⟨mQ, fE⟩
 clear mq rc rf
 have rx := mQ.c3
 clear mQ
 have HFin := qd (show Through Post w w3 from ⟨W.drew, w2, w.heap.size + 1, pX.out.trans ((Below.refl _ _).drew.mono pX.out.size), qK.out, by omega, HR.out.lt, fE⟩)
 clear fE
 go_wp2
 refine bodyPost_ret (v := .tuple #[.agg #[nU e0.key, nU e0.val, nU e0.hash], .bool b0]) (by simp [results, Tryz.results103, go_sem, rx.1, rx.2.1, rx.2.2]) rfl ⟨rfl, HFin.out⟩
theorem Gd (nb tb : Nat) (pfx au job a b : Int) (P : MP) (c : bC) (e0 : av) (b0 : Bool) (S : List Nat) (Post : World → World → Prop) (w : World) (hnd : aj w nb 146 #[.int .i64 pfx, .int .i64 au, pQ tb, .int .i64 job, .pointer none]) (hS : ∀ k ∈ S, k < w.heap.size)
  (HC : ∀ V, Below w.heap.size w V → Calls Tryz.prog 151 #[pQ tb, aG (some ⟨P.mb, P.mo, none⟩) c, .int .u64 a, .int .u64 b] V fun e V' => e = .returned (.tuple #[aM e0, .bool b0]) ∧ Mod S V V' ∧ Post V V') :
  Calls Tryz.prog 103 #[aK nb, aG (some ⟨P.mb, P.mo, none⟩) c, .int .u64 a, .int .u64 b] w fun e w' => e = .returned (.tuple #[aM e0, .bool b0]) ∧ Through Post w w' := by
 obtain ⟨W, hW, hB, hL, hR⟩ := jS w 115 #[.pointer (some ⟨P.mb, P.mo, none⟩), .int .i64 c.p, .int .i64 c.v, .int .i64 c.u] 38 #[.int .u64 0, .int .u64 0, .int .u64 0]
 have hnl := hnd.lt
 have hwl : w.heap.size < W.heap.size := hL.lt
 have HW := qd hW
 have pX := qd hB
 have HC := qd (HC W.drew (hB.trans ((Below.refl _ _).drew.mono hB.size)))
 unfold aK
 unfold aG aM at HC ⊢
 have HN := qd (hnd.below hB hnd.lt)
 have HL := qd (hL)
 have HR := qd (hR)
 have ah := qd (Mod.of_below hB [])
 clear hW hB hnd hL hR
 go_in
 go_upto_region 1 with fail
 rw [← HW.out]
 have nc := HN.out.c5
 have lc := HL.out.c4
 go_upto_region 3 with fail
 refine rT (fun (w' : World) => w'.cell? ⟨nb, 2, none⟩ = some (pQ tb) ∧ w'.cell? ⟨w.heap.size, 0, none⟩ = some (.pointer (some ⟨P.mb, P.mo, none⟩)) ∧ w'.cell? ⟨w.heap.size, 1, none⟩ = some (.int .i64 c.p) ∧ w'.cell? ⟨w.heap.size, 2, none⟩ = some (.int .i64 c.v) ∧ w'.cell? ⟨w.heap.size, 3, none⟩ = some (.int .i64 c.u)) [7, 10] ?_
 have hHeld := (⟨nc.2.2.1, lc.1, lc.2.1, lc.2.2.1, lc.2.2.2⟩ : _ ∧ _ ∧ _ ∧ _ ∧ _)
 refine vW 0 rfl ?_
 refine vW 1 rfl ?_
 refine vW 2 rfl ?_
 refine vT 3 rfl ?_
 refine vT 4 rfl ?_
 refine vW 5 rfl ?_
 refine vW 6 rfl ?_
 refine nT 7 rfl fun K hK => ?_
 go_simp
 refine (HC.out).mono ?_
 rintro y w2 ⟨rfl, hm, hpost⟩
 have qK := qd hpost
 have hR2 := HR.out.mod ((Mod.drewN S W 1).then hm) (by intro hk; have := hS _ hk; omega)
 have HR2 := qd hR2
 have rc := hR2.c3
 have rf := hR2.f3
 clear hpost hm hR2
 go_wp2_with fail
 refine kO hK ?_
 clear hK K
 refine vL 8 rfl ?_
 refine vL 9 rfl ?_
 refine nT 10 rfl fun K hK => ?_
 go_simp
 refine kO hK ?_
 clear hK K
 refine vL 11 rfl ?_
 refine aT (by kernel_rfl) ?_ _
 have mq := ((HR2.out.ak 0 (nU e0.key)).ak 1 (nU e0.val)).ak 2 (nU e0.hash)
 simp only [pt] at mq
 refine cO (F := fun v => aj v (w.heap.size + 1) 38 #[nU e0.key, nU e0.val, nU e0.hash] ∧ Mod [w.heap.size + 1] w2 v) ⟨mq, (((Mod.refl [w.heap.size + 1] w2).ak (b := w.heap.size + 1) (.inl (by simp)) 0 (nU e0.key)).ak (b := w.heap.size + 1) (.inl (by simp)) 1 (nU e0.val)).ak (b := w.heap.size + 1) (.inl (by simp)) 2 (nU e0.hash)⟩ ?_
 rintro w3 ⟨mQ, fE⟩
 clear mq rc rf
 have rx := mQ.c3
 clear mQ
 have HFin := qd (show Through Post w w3 from ⟨W.drew, w2, w.heap.size + 1, pX.out.trans ((Below.refl _ _).drew.mono pX.out.size), qK.out, by omega, HR.out.lt, fE⟩)
 clear fE
 go_wp2
 refine bodyPost_ret (v := .tuple #[.agg #[nU e0.key, nU e0.val, nU e0.hash], .bool b0]) (by simp [results, Tryz.results103, go_sem, rx.1, rx.2.1, rx.2.2]) rfl ⟨rfl, HFin.out⟩
end Go.Proofs.YtbphcldoflekpaaGreatDoor
