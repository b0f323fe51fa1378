/- A node's Find, Delete, Least, whatever the dual or the table tells. -/
import Derived.Test.YtgfcmdmpegomdaaGreatDoorCoBA
import Derived.Test.YtgfcmdmpegomdaaGreatDoorCoO
import Derived.Test.YtgfcmdmpegomdaaGreatDoorLaneP
namespace Go.Proofs.YtgfcmdmpegomdaaGreatDoor
set_option maxRecDepth 100000
set_option maxHeartbeats 4000000
open Go.RowKit AmC
def nodeP (b : Nat) : Value := .pointer (some ⟨b, 0, none⟩)
def Through (Post : World → World → Prop) (w w' : World) : Prop := ∃ V V' rbk, Below w.heap.size w V ∧ Post V V' ∧ w.heap.size ≤ rbk ∧ rbk < V.heap.size ∧ Mod [rbk] V' w'
theorem node_Find_dual (nb tb db : Nat) (pfx dpt job a b : Int) (P : MP) (c : Cnt) (e0 : Ent) (b0 : Bool) (S : List Nat) (Post : World → World → Prop) (w : World) (hnd : Blk w nb 172 #[.int .i64 pfx, .int .i64 dpt, .pointer (some ⟨tb, 0, none⟩), .int .i64 job, .pointer (some ⟨db, 0, none⟩)]) (hS : ∀ k ∈ S, k < w.heap.size)
  (HC : ∀ V, Below w.heap.size w V → Calls Tryz.prog 109 #[.pointer (some ⟨db, 0, none⟩), lensV (some ⟨P.mb, P.mo, none⟩) c, .int .u64 a, .int .u64 b] V fun e V' => e = .returned (.tuple #[entV e0, .bool b0]) ∧ Mod S V V' ∧ Post V V') :
  Calls Tryz.prog 77 #[nodeP nb, lensV (some ⟨P.mb, P.mo, none⟩) c, .int .u64 a, .int .u64 b] w fun e w' => e = .returned (.tuple #[entV e0, .bool b0]) ∧ Through Post w w' := by
 obtain ⟨W, hW, hB, hL, hR⟩ := qX2 w 138 #[.pointer (some ⟨P.mb, P.mo, none⟩), .int .i64 c.p, .int .i64 c.v, .int .i64 c.u] 141 #[.int .u64 0, .int .u64 0, .int .u64 0]
 have hnl := hnd.lt
 have hwl : w.heap.size < W.heap.size := hL.lt
 have HW := qd hW
 have HWB := qd hB
 have HC := qd (HC W.drew (hB.trans ((Below.refl _ _).drew.mono hB.size)))
 unfold nodeP
 unfold lensV entV at HC ⊢
 have HN := qd (hnd.below hB hnd.lt)
 have HL := qd (hL)
 have HR := qd (hR)
 have Hmod := qd (Mod.of_below hB [])
 clear hW hB hnd hL hR
 go_in
 go_upto_region 1 with fail
 rw [← HW.out]
 have nc := HN.out.c5
 have lc := HL.out.c4
 go_upto_region 2 with fail
 refine rT (fun (w' : World) => w'.cell? ⟨nb, 4, none⟩ = some (.pointer (some ⟨db, 0, none⟩)) ∧ w'.cell? ⟨w.heap.size, 0, none⟩ = some (.pointer (some ⟨P.mb, P.mo, none⟩)) ∧ w'.cell? ⟨w.heap.size, 1, none⟩ = some (.int .i64 c.p) ∧ w'.cell? ⟨w.heap.size, 2, none⟩ = some (.int .i64 c.v) ∧ w'.cell? ⟨w.heap.size, 3, none⟩ = some (.int .i64 c.u)) [7, 10] ?_
 have hHeld := (⟨nc.2.2.2.2, lc.1, lc.2.1, lc.2.2.1, lc.2.2.2⟩ : _ ∧ _ ∧ _ ∧ _ ∧ _)
 refine vW 0 rfl ?_
 refine vW 1 rfl ?_
 refine vW 2 rfl ?_
 refine vT 3 rfl ?_
 refine vT 4 rfl ?_
 refine vW 5 rfl ?_
 refine vW 6 rfl ?_
 refine nT 7 rfl fun K hK => ?_
 go_simp
 refine (HC.out).mono ?_
 rintro y w2 ⟨rfl, hm, hpost⟩
 have HPo := qd hpost
 have hR2 := HR.out.mod ((Mod.drewN S W 1).then hm) (by intro hk; have := hS _ hk; omega)
 have HR2 := qd hR2
 have rc := hR2.c3
 have rf := hR2.f3
 clear hpost hm hR2
 go_wp2_with fail
 refine kO hK ?_
 clear hK K
 refine vL 8 rfl ?_
 refine vL 9 rfl ?_
 refine nT 10 rfl fun K hK => ?_
 go_simp
 refine kO hK ?_
 clear hK K
 refine vL 11 rfl ?_
 refine doneT (by kernel_rfl) ?_ _
 have hR3 := ((HR2.out.set_ 0 (.int .u64 (e0.key : Int))).set_ 1 (.int .u64 (e0.val : Int))).set_ 2 (.int .u64 (e0.hash : Int))
 simp only [pt] at hR3
 refine nameW (F := fun v => Blk v (w.heap.size + 1) 141 #[.int .u64 (e0.key : Int), .int .u64 (e0.val : Int), .int .u64 (e0.hash : Int)] ∧ Mod [w.heap.size + 1] w2 v) ⟨hR3, (((Mod.refl [w.heap.size + 1] w2).set_ (b := w.heap.size + 1) (.inl (by simp)) 0 (.int .u64 (e0.key : Int))).set_ (b := w.heap.size + 1) (.inl (by simp)) 1 (.int .u64 (e0.val : Int))).set_ (b := w.heap.size + 1) (.inl (by simp)) 2 (.int .u64 (e0.hash : Int))⟩ ?_
 rintro w3 ⟨hR4, hm3⟩
 clear hR3 rc rf
 have rx := hR4.c3
 clear hR4
 have HFin := qd (show Through Post w w3 from ⟨W.drew, w2, w.heap.size + 1, HWB.out.trans ((Below.refl _ _).drew.mono HWB.out.size), HPo.out, by omega, HR.out.lt, hm3⟩)
 clear hm3
 go_wp2
 refine bodyPost_ret (v := .tuple #[.agg #[.int .u64 (e0.key : Int), .int .u64 (e0.val : Int), .int .u64 (e0.hash : Int)], .bool b0]) (by simp [results, Tryz.results77, go_sem, rx.1, rx.2.1, rx.2.2]) rfl ⟨rfl, HFin.out⟩
theorem node_Find_tab (nb tb : Nat) (pfx dpt job a b : Int) (P : MP) (c : Cnt) (e0 : Ent) (b0 : Bool) (S : List Nat) (Post : World → World → Prop) (w : World) (hnd : Blk w nb 172 #[.int .i64 pfx, .int .i64 dpt, .pointer (some ⟨tb, 0, none⟩), .int .i64 job, .pointer none]) (hS : ∀ k ∈ S, k < w.heap.size)
  (HC : ∀ V, Below w.heap.size w V → Calls Tryz.prog 110 #[.pointer (some ⟨tb, 0, none⟩), lensV (some ⟨P.mb, P.mo, none⟩) c, .int .u64 a, .int .u64 b] V fun e V' => e = .returned (.tuple #[entV e0, .bool b0]) ∧ Mod S V V' ∧ Post V V') :
  Calls Tryz.prog 77 #[nodeP nb, lensV (some ⟨P.mb, P.mo, none⟩) c, .int .u64 a, .int .u64 b] w fun e w' => e = .returned (.tuple #[entV e0, .bool b0]) ∧ Through Post w w' := by
 obtain ⟨W, hW, hB, hL, hR⟩ := qX2 w 138 #[.pointer (some ⟨P.mb, P.mo, none⟩), .int .i64 c.p, .int .i64 c.v, .int .i64 c.u] 141 #[.int .u64 0, .int .u64 0, .int .u64 0]
 have hnl := hnd.lt
 have hwl : w.heap.size < W.heap.size := hL.lt
 have HW := qd hW
 have HWB := qd hB
 have HC := qd (HC W.drew (hB.trans ((Below.refl _ _).drew.mono hB.size)))
 unfold nodeP
 unfold lensV entV at HC ⊢
 have HN := qd (hnd.below hB hnd.lt)
 have HL := qd (hL)
 have HR := qd (hR)
 have Hmod := qd (Mod.of_below hB [])
 clear hW hB hnd hL hR
 go_in
 go_upto_region 1 with fail
 rw [← HW.out]
 have nc := HN.out.c5
 have lc := HL.out.c4
 go_upto_region 3 with fail
 refine rT (fun (w' : World) => w'.cell? ⟨nb, 2, none⟩ = some (.pointer (some ⟨tb, 0, none⟩)) ∧ w'.cell? ⟨w.heap.size, 0, none⟩ = some (.pointer (some ⟨P.mb, P.mo, none⟩)) ∧ w'.cell? ⟨w.heap.size, 1, none⟩ = some (.int .i64 c.p) ∧ w'.cell? ⟨w.heap.size, 2, none⟩ = some (.int .i64 c.v) ∧ w'.cell? ⟨w.heap.size, 3, none⟩ = some (.int .i64 c.u)) [7, 10] ?_
 have hHeld := (⟨nc.2.2.1, lc.1, lc.2.1, lc.2.2.1, lc.2.2.2⟩ : _ ∧ _ ∧ _ ∧ _ ∧ _)
 refine vW 0 rfl ?_
 refine vW 1 rfl ?_
 refine vW 2 rfl ?_
 refine vT 3 rfl ?_
 refine vT 4 rfl ?_
 refine vW 5 rfl ?_
 refine vW 6 rfl ?_
 refine nT 7 rfl fun K hK => ?_
 go_simp
 refine (HC.out).mono ?_
 rintro y w2 ⟨rfl, hm, hpost⟩
 have HPo := qd hpost
 have hR2 := HR.out.mod ((Mod.drewN S W 1).then hm) (by intro hk; have := hS _ hk; omega)
 have HR2 := qd hR2
 have rc := hR2.c3
 have rf := hR2.f3
 clear hpost hm hR2
 go_wp2_with fail
 refine kO hK ?_
 clear hK K
 refine vL 8 rfl ?_
 refine vL 9 rfl ?_
 refine nT 10 rfl fun K hK => ?_
 go_simp
 refine kO hK ?_
 clear hK K
 refine vL 11 rfl ?_
 refine doneT (by kernel_rfl) ?_ _
 have hR3 := ((HR2.out.set_ 0 (.int .u64 (e0.key : Int))).set_ 1 (.int .u64 (e0.val : Int))).set_ 2 (.int .u64 (e0.hash : Int))
 simp only [pt] at hR3
 refine nameW (F := fun v => Blk v (w.heap.size + 1) 141 #[.int .u64 (e0.key : Int), .int .u64 (e0.val : Int), .int .u64 (e0.hash : Int)] ∧ Mod [w.heap.size + 1] w2 v) ⟨hR3, (((Mod.refl [w.heap.size + 1] w2).set_ (b := w.heap.size + 1) (.inl (by simp)) 0 (.int .u64 (e0.key : Int))).set_ (b := w.heap.size + 1) (.inl (by simp)) 1 (.int .u64 (e0.val : Int))).set_ (b := w.heap.size + 1) (.inl (by simp)) 2 (.int .u64 (e0.hash : Int))⟩ ?_
 rintro w3 ⟨hR4, hm3⟩
 clear hR3 rc rf
 have rx := hR4.c3
 clear hR4
 have HFin := qd (show Through Post w w3 from ⟨W.drew, w2, w.heap.size + 1, HWB.out.trans ((Below.refl _ _).drew.mono HWB.out.size), HPo.out, by omega, HR.out.lt, hm3⟩)
 clear hm3
 go_wp2
 refine bodyPost_ret (v := .tuple #[.agg #[.int .u64 (e0.key : Int), .int .u64 (e0.val : Int), .int .u64 (e0.hash : Int)], .bool b0]) (by simp [results, Tryz.results77, go_sem, rx.1, rx.2.1, rx.2.2]) rfl ⟨rfl, HFin.out⟩
theorem node_Delete_dual (nb tb db : Nat) (pfx dpt job a b : Int) (P : MP) (c : Cnt) (e0 : Ent) (b0 : Bool) (S : List Nat) (Post : World → World → Prop) (w : World) (hnd : Blk w nb 172 #[.int .i64 pfx, .int .i64 dpt, .pointer (some ⟨tb, 0, none⟩), .int .i64 job, .pointer (some ⟨db, 0, none⟩)]) (hS : ∀ k ∈ S, k < w.heap.size)
  (HC : ∀ V, Below w.heap.size w V → Calls Tryz.prog 111 #[.pointer (some ⟨db, 0, none⟩), lensV (some ⟨P.mb, P.mo, none⟩) c, .int .u64 a, .int .u64 b] V fun e V' => e = .returned (.tuple #[entV e0, .bool b0]) ∧ Mod S V V' ∧ Post V V') :
  Calls Tryz.prog 78 #[nodeP nb, lensV (some ⟨P.mb, P.mo, none⟩) c, .int .u64 a, .int .u64 b] w fun e w' => e = .returned (.tuple #[entV e0, .bool b0]) ∧ Through Post w w' := by
 obtain ⟨W, hW, hB, hL, hR⟩ := qX2 w 138 #[.pointer (some ⟨P.mb, P.mo, none⟩), .int .i64 c.p, .int .i64 c.v, .int .i64 c.u] 141 #[.int .u64 0, .int .u64 0, .int .u64 0]
 have hnl := hnd.lt
 have hwl : w.heap.size < W.heap.size := hL.lt
 have HW := qd hW
 have HWB := qd hB
 have HC := qd (HC W.drew (hB.trans ((Below.refl _ _).drew.mono hB.size)))
 unfold nodeP
 unfold lensV entV at HC ⊢
 have HN := qd (hnd.below hB hnd.lt)
 have HL := qd (hL)
 have HR := qd (hR)
 have Hmod := qd (Mod.of_below hB [])
 clear hW hB hnd hL hR
 go_in
 go_upto_region 1 with fail
 rw [← HW.out]
 have nc := HN.out.c5
 have lc := HL.out.c4
 go_upto_region 2 with fail
 refine rT (fun (w' : World) => w'.cell? ⟨nb, 4, none⟩ = some (.pointer (some ⟨db, 0, none⟩)) ∧ w'.cell? ⟨w.heap.size, 0, none⟩ = some (.pointer (some ⟨P.mb, P.mo, none⟩)) ∧ w'.cell? ⟨w.heap.size, 1, none⟩ = some (.int .i64 c.p) ∧ w'.cell? ⟨w.heap.size, 2, none⟩ = some (.int .i64 c.v) ∧ w'.cell? ⟨w.heap.size, 3, none⟩ = some (.int .i64 c.u)) [7, 10] ?_
 have hHeld := (⟨nc.2.2.2.2, lc.1, lc.2.1, lc.2.2.1, lc.2.2.2⟩ : _ ∧ _ ∧ _ ∧ _ ∧ _)
 refine vW 0 rfl ?_
 refine vW 1 rfl ?_
 refine vW 2 rfl ?_
 refine vT 3 rfl ?_
 refine vT 4 rfl ?_
 refine vW 5 rfl ?_
 refine vW 6 rfl ?_
 refine nT 7 rfl fun K hK => ?_
 go_simp
 refine (HC.out).mono ?_
 rintro y w2 ⟨rfl, hm, hpost⟩
 have HPo := qd hpost
 have hR2 := HR.out.mod ((Mod.drewN S W 1).then hm) (by intro hk; have := hS _ hk; omega)
 have HR2 := qd hR2
 have rc := hR2.c3
 have rf := hR2.f3
 clear hpost hm hR2
 go_wp2_with fail
 refine kO hK ?_
 clear hK K
 refine vL 8 rfl ?_
 refine vL 9 rfl ?_
 refine nT 10 rfl fun K hK => ?_
 go_simp
 refine kO hK ?_
 clear hK K
 refine vL 11 rfl ?_
 refine doneT (by kernel_rfl) ?_ _
 have hR3 := ((HR2.out.set_ 0 (.int .u64 (e0.key : Int))).set_ 1 (.int .u64 (e0.val : Int))).set_ 2 (.int .u64 (e0.hash : Int))
 simp only [pt] at hR3
 refine nameW (F := fun v => Blk v (w.heap.size + 1) 141 #[.int .u64 (e0.key : Int), .int .u64 (e0.val : Int), .int .u64 (e0.hash : Int)] ∧ Mod [w.heap.size + 1] w2 v) ⟨hR3, (((Mod.refl [w.heap.size + 1] w2).set_ (b := w.heap.size + 1) (.inl (by simp)) 0 (.int .u64 (e0.key : Int))).set_ (b := w.heap.size + 1) (.inl (by simp)) 1 (.int .u64 (e0.val : Int))).set_ (b := w.heap.size + 1) (.inl (by simp)) 2 (.int .u64 (e0.hash : Int))⟩ ?_
 rintro w3 ⟨hR4, hm3⟩
 clear hR3 rc rf
 have rx := hR4.c3
 clear hR4
 have HFin := qd (show Through Post w w3 from ⟨W.drew, w2, w.heap.size + 1, HWB.out.trans ((Below.refl _ _).drew.mono HWB.out.size), HPo.out, by omega, HR.out.lt, hm3⟩)
 clear hm3
 go_wp2
 refine bodyPost_ret (v := .tuple #[.agg #[.int .u64 (e0.key : Int), .int .u64 (e0.val : Int), .int .u64 (e0.hash : Int)], .bool b0]) (by simp [results, Tryz.results78, go_sem, rx.1, rx.2.1, rx.2.2]) rfl ⟨rfl, HFin.out⟩
theorem node_Delete_tab (nb tb : Nat) (pfx dpt job a b : Int) (P : MP) (c : Cnt) (e0 : Ent) (b0 : Bool) (S : List Nat) (Post : World → World → Prop) (w : World) (hnd : Blk w nb 172 #[.int .i64 pfx, .int .i64 dpt, .pointer (some ⟨tb, 0, none⟩), .int .i64 job, .pointer none]) (hS : ∀ k ∈ S, k < w.heap.size)
  (HC : ∀ V, Below w.heap.size w V → Calls Tryz.prog 112 #[.pointer (some ⟨tb, 0, none⟩), lensV (some ⟨P.mb, P.mo, none⟩) c, .int .u64 a, .int .u64 b] V fun e V' => e = .returned (.tuple #[entV e0, .bool b0]) ∧ Mod S V V' ∧ Post V V') :
  Calls Tryz.prog 78 #[nodeP nb, lensV (some ⟨P.mb, P.mo, none⟩) c, .int .u64 a, .int .u64 b] w fun e w' => e = .returned (.tuple #[entV e0, .bool b0]) ∧ Through Post w w' := by
 obtain ⟨W, hW, hB, hL, hR⟩ := qX2 w 138 #[.pointer (some ⟨P.mb, P.mo, none⟩), .int .i64 c.p, .int .i64 c.v, .int .i64 c.u] 141 #[.int .u64 0, .int .u64 0, .int .u64 0]
 have hnl := hnd.lt
 have hwl : w.heap.size < W.heap.size := hL.lt
 have HW := qd hW
 have HWB := qd hB
 have HC := qd (HC W.drew (hB.trans ((Below.refl _ _).drew.mono hB.size)))
 unfold nodeP
 unfold lensV entV at HC ⊢
 have HN := qd (hnd.below hB hnd.lt)
 have HL := qd (hL)
 have HR := qd (hR)
 have Hmod := qd (Mod.of_below hB [])
 clear hW hB hnd hL hR
 go_in
 go_upto_region 1 with fail
 rw [← HW.out]
 have nc := HN.out.c5
 have lc := HL.out.c4
 go_upto_region 3 with fail
 refine rT (fun (w' : World) => w'.cell? ⟨nb, 2, none⟩ = some (.pointer (some ⟨tb, 0, none⟩)) ∧ w'.cell? ⟨w.heap.size, 0, none⟩ = some (.pointer (some ⟨P.mb, P.mo, none⟩)) ∧ w'.cell? ⟨w.heap.size, 1, none⟩ = some (.int .i64 c.p) ∧ w'.cell? ⟨w.heap.size, 2, none⟩ = some (.int .i64 c.v) ∧ w'.cell? ⟨w.heap.size, 3, none⟩ = some (.int .i64 c.u)) [7, 10] ?_
 have hHeld := (⟨nc.2.2.1, lc.1, lc.2.1, lc.2.2.1, lc.2.2.2⟩ : _ ∧ _ ∧ _ ∧ _ ∧ _)
 refine vW 0 rfl ?_
 refine vW 1 rfl ?_
 refine vW 2 rfl ?_
 refine vT 3 rfl ?_
 refine vT 4 rfl ?_
 refine vW 5 rfl ?_
 refine vW 6 rfl ?_
 refine nT 7 rfl fun K hK => ?_
 go_simp
 refine (HC.out).mono ?_
 rintro y w2 ⟨rfl, hm, hpost⟩
 have HPo := qd hpost
 have hR2 := HR.out.mod ((Mod.drewN S W 1).then hm) (by intro hk; have := hS _ hk; omega)
 have HR2 := qd hR2
 have rc := hR2.c3
 have rf := hR2.f3
 clear hpost hm hR2
 go_wp2_with fail
 refine kO hK ?_
 clear hK K
 refine vL 8 rfl ?_
 refine vL 9 rfl ?_
 refine nT 10 rfl fun K hK => ?_
 go_simp
 refine kO hK ?_
 clear hK K
 refine vL 11 rfl ?_
 refine doneT (by kernel_rfl) ?_ _
 have hR3 := ((HR2.out.set_ 0 (.int .u64 (e0.key : Int))).set_ 1 (.int .u64 (e0.val : Int))).set_ 2 (.int .u64 (e0.hash : Int))
 simp only [pt] at hR3
 refine nameW (F := fun v => Blk v (w.heap.size + 1) 141 #[.int .u64 (e0.key : Int), .int .u64 (e0.val : Int), .int .u64 (e0.hash : Int)] ∧ Mod [w.heap.size + 1] w2 v) ⟨hR3, (((Mod.refl [w.heap.size + 1] w2).set_ (b := w.heap.size + 1) (.inl (by simp)) 0 (.int .u64 (e0.key : Int))).set_ (b := w.heap.size + 1) (.inl (by simp)) 1 (.int .u64 (e0.val : Int))).set_ (b := w.heap.size + 1) (.inl (by simp)) 2 (.int .u64 (e0.hash : Int))⟩ ?_
 rintro w3 ⟨hR4, hm3⟩
 clear hR3 rc rf
 have rx := hR4.c3
 clear hR4
 have HFin := qd (show Through Post w w3 from ⟨W.drew, w2, w.heap.size + 1, HWB.out.trans ((Below.refl _ _).drew.mono HWB.out.size), HPo.out, by omega, HR.out.lt, hm3⟩)
 clear hm3
 go_wp2
 refine bodyPost_ret (v := .tuple #[.agg #[.int .u64 (e0.key : Int), .int .u64 (e0.val : Int), .int .u64 (e0.hash : Int)], .bool b0]) (by simp [results, Tryz.results78, go_sem, rx.1, rx.2.1, rx.2.2]) rfl ⟨rfl, HFin.out⟩
end Go.Proofs.YtgfcmdmpegomdaaGreatDoor
