/- Package cache's Put by its contract. No statement of the claim. -/
import Derived.Test.YtfcecmcnmgagnaaGreatDoorCaZ
import Derived.Test.YtfcecmcnmgagnaaGreatDoorCoO
import Derived.Test.YtfcecmcnmgagnaaGreatDoorLaneQ
import Derived.Test.YtfcecmcnmgagnaaGreatDoorSqM
namespace Go.Proofs.YtfcecmcnmgagnaaGreatDoor
set_option maxRecDepth 100000
set_option maxHeartbeats 4000000
open Go.RowKit AmC AmK
section
variable {W0 w : World} {E : Nat → Addr} {H : Nat → Nat} {I K M cb i n : Nat} {G fr ids row : List Nat} {a : Pool} {lst : Cnt} {s : SlF} {es : List Ent} {e e0 : Ent}
theorem RtAt.entOk {Kk b : Nat} {its : List It} {gv : Nat} (h : RtAt W0 E H Kk M I b G w a ids its gv lst) : ∀ e ∈ a.ents, EntOk H e := fun e he => by
 obtain ⟨C, GC, mb, h1, _⟩ := h
 obtain ⟨i, N, g1, g2⟩ := mem_pool.1 he
 exact ((h1.core.facts.2.2.2.2.2.1 i N g1).hash e g2).1
def goneK (M : Nat) (R : List Ent) (k : Nat) : Nat := if fullB M R k then (R.getLast?.getD ⟨0, 0, 0⟩).key else 0
theorem CaI.near {c : Ends} (h : CaI c n s fr es row) {A B : List Nat} (hr : row = A ++ i :: B) : i < n ∧ (∀ j, s.nw i = some j → j < n) ∧ (∀ j, s.od i = some j → j < n) ∧ (∀ j, (leaveE c s i).nst = some j → j < n) ∧ ∀ j, c.nst = some j → j < n := by
 have hl := h.lt.1
 obtain ⟨h1, h2, _⟩ := h.rw_.at_ hr
 have a1 : ∀ j, s.nw i = some j → j < n := fun j hj => hl j (by rw [hr]; exact List.mem_append_left _ (List.mem_of_getLast? (h1 ▸ hj)))
 have a2 : ∀ j, s.od i = some j → j < n := fun j hj => hl j (by rw [hr]; exact List.mem_append_right _ (List.mem_cons_of_mem _ (List.mem_of_head? (h2 ▸ hj))))
 have a3 : ∀ j, c.nst = some j → j < n := fun j hj => hl j (List.mem_of_head? (h.rw_.nst ▸ hj))
 refine ⟨hl i (by rw [hr]; simp), a1, a2, fun j hj => ?_, a3⟩
 unfold leaveE at hj
 by_cases hz : s.nw i = none
 ·rw [if_pos hz] at hj; exact a2 j hj
 ·rw [if_neg hz] at hj; exact a3 j hj
theorem Fresh.near {c : Ends} (h : Fresh c n s fr es row i) : ∀ j, c.nst = some j → j < n := fun j hj => List.mem_range.1 (h.part.mem_iff.1 (List.mem_append_left _ (List.mem_of_head? (h.rw_.nst ▸ hj))))
theorem cfg_field (k m i : Int) (W : World) : (Instr.field 23 (.agg #[.int .i64 k, .int .i64 m, .int .i64 i]) 1).run Tryz.prog W = .ok (.int .i64 m) W := by kernel_rfl
theorem hit_hash {k : Nat} (h : ∀ e ∈ es, e.hash = H e.key) (hl : look es k = some e0) : e0.hash = H k := by
 obtain ⟨h1, h2⟩ := look_mem hl
 rw [h e0 h1, h2]
theorem ca_Put_hit {c : CaC} (h1 : CaH W0 E H K M I cb (caFoot cb c G) w w c n s fr G a ids lst) (h2 : CaI c.e n s fr a.ents row) (he : EntOk H e) (hM : 1 ≤ M) (hl : look a.ents e.key = some e0) : Calls Tryz.prog 8 #[.pointer (some ⟨cb, 0, none⟩), .int .u64 (e.key : Int), .int .u64 (e.val : Int), .int .u64 (e.hash : Int)] w fun y w' => y = .returned (.tuple #[.int .u64 (goneK M (row.map s.ent) e.key : Int), .bool (fullB M (row.map s.ent) e.key), .nilIface]) ∧ CaTo W0 E H K M I cb (caFoot cb c G) w w' (cput Ent.key M (row.map s.ent) e) := by
 have hnd := h1.map.facts.2.1
 have hM192 := h1.map.facts.2.2.2.1
 have hleM := h1.map.facts.2.2.1
 have hentsH := fun e he => (h1.map.entOk e he).hash
 have hents64 := fun e he => And.intro (h1.map.entOk e he).h64 (h1.map.entOk e he).k64
 have h192 := h1.n192
 have hlt := h2.lt
 have hlen := h2.ents.length_eq
 rw [List.length_map] at hlen
 obtain ⟨A, B, hr, hk, hh⟩ := h2.hit hl
 have hsn := h2.seen hnd hl
 have hf := ca_find h1 e.key (by rw [← he.hash]; exact he.h64) (by rw [hl]; show e0.val < _; omega)
 rw [hl] at hf
 have hhk : (s.ent e0.val).hash = e.hash := by rw [hh, hit_hash hentsH hl, he.hash]
 obtain ⟨i, hii⟩ : ∃ i, i = e0.val := ⟨_, rfl⟩
 have HF := qd (show Calls Tryz.prog 14 #[.pointer (some ⟨cb, 0, none⟩), .int .u64 (e.key : Int), .int .u64 (H e.key : Int)] w (fun y w' => y = .returned (.tuple #[.int .i64 (i : Int), .bool true]) ∧ ∃ d G' lst', CaH W0 E H K M I cb (caFoot cb c G) w w' { c with last := d } n s fr G' a ids lst') from hii ▸ hf)
 rw [← hii] at hr hk hhk hsn
 have hfu : fullB M (row.map s.ent) e.key = false := by unfold fullB; rw [hsn.1]; rfl
 have hgo : goneK M (row.map s.ent) e.key = 0 := by unfold goneK; rw [hfu]; rfl
 rw [hgo, hfu]
 obtain ⟨n1, n2, n3, n4, _⟩ := h2.near hr
 have hcp := cput_hit (M := M) (v := e.val) h2 hnd hr hk hhk
 have HI := qd ((h2.val i e.val).use hr)
 have HR := qd (show ((i :: (A ++ B)).map (setVal s i e.val).ent) = cput Ent.key M (row.map s.ent) e from hcp)
 have HN1 := qd (And.intro n1 (And.intro n2 (And.intro n3 n4)))
 have hi0 : (0 : Int) ≤ (i : Int) := by omega
 have hi1 : (i : Int) < (n : Int) := by omega
 have hhs := he.hash
 clear h1 h2 hf hl hr hk hh hhk hsn hfu hgo hcp hii n1 n2 n3 n4 hnd hentsH hents64 h192 hlt he hlen hM192 hleM
 rw [hhs]
 clear hhs
 go_in
 go_wp2_with fail
 refine HF.out.mono ?_
 rintro y w1 ⟨rfl, d, G', lst', hh⟩
 obtain ⟨g, cap, hgv, hg0, hg1, p0, p1, p2, p3, p4⟩ := slot_cells hh HN1.out.1
 have hgv' : c.sv = .slice (some ⟨g, 0, none⟩) n cap := hgv
 have hbk := hh.blk
 unfold CaC.cells at hbk
 have k1 := hbk.cell 1
 simp only [gl] at k1
 clear hbk
 rw [hgv'] at k1
 have kz := hh.frozen hgv (i * 5 + 1)
 have hN := hh.setS (s' := setVal s i e.val) hgv HN1.out.1 1 (by decide) (.int .u64 (e.val : Int)) (fun k => by
  unfold upd SlF.cells setVal upd
  by_cases hk : k = i
  ·subst hk; simp
  ·simp [hk])
 have HN := qd hN
 clear hh HF hgv hgv' hg0 hg1 p0 p2 p3 p4 hN
 go_upto_region 4 with fail
 refine nameC (F := fun v => CaH W0 E H K M I cb (caFoot cb c G) w v { c with last := d } n (setVal s i e.val) fr G' a ids lst') HN.out ?_
 clear HN k1 kz p1
 rintro w2 hh
 have HU := qd (ca_use hh HN1.out.1 HN1.out.2.1 HN1.out.2.2.1 HN1.out.2.2.2)
 clear hh
 go_wp2_with fail
 refine HU.out.mono ?_
 rintro y w3 ⟨rfl, hh⟩
 have HN := qd hh
 clear hh HU
 go_wp2
 refine bodyPost_ret (v := .tuple #[.int .u64 0, .bool false, .nilIface]) (by simp [results, Tryz.results8, go_sem]) rfl ⟨rfl, HN.out.to HI.out HR.out⟩
theorem ca_Put_full {c : CaC} (h1 : CaH W0 E H K M I cb (caFoot cb c G) w w c n s fr G a ids lst) (h2 : CaI c.e n s fr a.ents row) (he : EntOk H e) (hM : 1 ≤ M) (hl : look a.ents e.key = none) (hge : M ≤ row.length) : Calls Tryz.prog 8 #[.pointer (some ⟨cb, 0, none⟩), .int .u64 (e.key : Int), .int .u64 (e.val : Int), .int .u64 (e.hash : Int)] w fun y w' => y = .returned (.tuple #[.int .u64 (goneK M (row.map s.ent) e.key : Int), .bool (fullB M (row.map s.ent) e.key), .nilIface]) ∧ CaTo W0 E H K M I cb (caFoot cb c G) w w' (cput Ent.key M (row.map s.ent) e) := by
 have hnd := h1.map.facts.2.1
 have hM192 := h1.map.facts.2.2.2.1
 have hleM := h1.map.facts.2.2.1
 have hentsH := fun e he => (h1.map.entOk e he).hash
 have hents64 := fun e he => And.intro (h1.map.entOk e he).h64 (h1.map.entOk e he).k64
 have h192 := h1.n192
 have hlt := h2.lt
 have hlen := h2.ents.length_eq
 rw [List.length_map] at hlen
 have hmiss := h2.miss hl
 have hf := ca_find h1 e.key (by rw [← he.hash]; exact he.h64) (by rw [hl]; decide)
 rw [hl] at hf
 have HF := qd (show Calls Tryz.prog 14 #[.pointer (some ⟨cb, 0, none⟩), .int .u64 (e.key : Int), .int .u64 (H e.key : Int)] w (fun y w' => y = .returned (.tuple #[.int .i64 0, .bool false]) ∧ ∃ d G' lst', CaH W0 E H K M I cb (caFoot cb c G) w w' { c with last := d } n s fr G' a ids lst') from hf)
 have HEe := qd he
 have hhs := he.hash
 clear hf he
 rw [hhs]
 have hne : row ≠ [] := fun e => by rw [e] at hge; simp at hge; omega
 obtain ⟨o, hos, hro⟩ := h2.oldest hne
 obtain ⟨A, hA⟩ : ∃ A, A = row.dropLast := ⟨_, rfl⟩
 rw [← hA] at hro
 have hfu : fullB M (row.map s.ent) e.key = true := by unfold fullB; rw [h2.unseen hl, List.length_map]; simp; exact hge
 have hgo : goneK M (row.map s.ent) e.key = (s.ent o).key := by unfold goneK; rw [hfu, if_pos rfl, hro]; simp
 rw [hgo, hfu]
 have hcp := cput_full (M := M) (e := e) (s := s) (row := row) hmiss (by omega)
 rw [← hA] at hcp
 obtain ⟨n1, n2, n3, _, _⟩ := h2.near hro
 have htm := h2.ents.mem_iff.2 (List.mem_map_of_mem (f := tagged s) (show o ∈ row by rw [hro]; simp))
 have hto := hentsH _ htm
 have ht64 := hents64 _ htm
 have HEo := qd (show EntOk H ⟨(s.ent o).key, 0, (s.ent o).hash⟩ from ⟨hto, ht64.1, ht64.2, by show 0 < _; omega⟩)
 have HN1 := qd (And.intro n1 (And.intro n2 n3))
 have HRo := qd hro
 have HI := qd h2
 have Hnd := qd hnd
 have HCp := qd (And.intro hcp (show A.length < M by have := congrArg List.length hro; rw [List.length_append] at this; simp at this; omega))
 have hfl0 : fr.length + 1 ≤ 192 := by have := hlt.2.2.2.2; have := List.length_pos_iff.2 hne; omega
 have hfln : fr.length + 1 ≤ n := by have := hlt.2.2.2.2; have := List.length_pos_iff.2 hne; omega
 have Hms := qd (show ∀ x ∈ A.map s.ent, x.key ≠ e.key from fun x hx => hmiss x (by rw [hro, List.map_append]; exact List.mem_append_left _ hx))
 have hgi : (M : Int) ≤ (a.ents.length : Int) := by omega
 have hgn : M ≤ a.ents.length := by omega
 have Hos := qd hos
 clear h1 h2 hl hro hfu hgo hcp n1 n2 n3 htm hto ht64 hnd hne hos hmiss hlt hA hentsH hents64
 go_in
 go_wp2_with fail
 refine HF.out.mono ?_
 rintro y w1 ⟨rfl, d, G', lst', hh⟩
 have HH := qd hh
 clear hh
 go_upto_region 7 with fail
 have hhd := HH.out.below (Below.refl _ _).drew
 have HD := qd hhd
 have HLe := qd (ca_LenH hhd)
 have HCf := qd (show Calls Tryz.prog 16 #[.pointer (some ⟨c.pb, 0, none⟩)] (World.drew w1) (fun y w' => y = .returned (.agg #[.int .i64 (K : Int), .int .i64 (M : Int), .int .i64 (I : Int)]) ∧ Below (World.drew w1).heap.size (World.drew w1) w') from rt_Config hhd.map)
 have hbk := HH.out.blk
 unfold CaC.cells at hbk
 have k0 := hbk.cell 0
 simp only [gl] at k0
 clear hbk hhd HF
 have hcf := cfg_field (K : Int) (M : Int) (I : Int)
 refine rT (fun (w' : World) => w'.cell? ⟨cb, 0, none⟩ = some (.pointer (some ⟨c.pb, 0, none⟩)) ∧ True) [] ?_
 have hHeld := (⟨k0, trivial⟩ : _ ∧ _)
 refine vW 0 rfl ?_
 refine vW 2 rfl ?_
 refine vW 3 rfl ?_
 refine vW 4 rfl ?_
 refine vT 5 rfl ?_
 refine nT 1 rfl fun K hK => ?_
 go_simp
 refine HLe.out.mono ?_
 rintro y wl ⟨rfl, rfl⟩
 have hHeld := (⟨k0, trivial⟩ : _ ∧ _)
 refine kO hK ?_
 clear hK K
 refine nT 6 rfl fun K hK => ?_
 go_simp
 refine HCf.out.mono ?_
 rintro y w2 ⟨rfl, hb⟩
 have HH2 := qd (HD.out.below hb)
 have hl1 : cb < (World.drew w1).heap.size := HD.out.blk.lt
 have q0 := (World.cell?_of_block (hb.block cb hl1)).trans k0
 clear hb hl1 k0
 have hHeld := (⟨q0, trivial⟩ : _ ∧ _)
 refine kO hK ?_
 clear hK K
 refine vW 7 rfl ?_
 refine vW 8 rfl ?_
 refine vW 9 rfl ?_
 refine doneT (by kernel_rfl) ?_ _
 have HDr := qd (ca_drop HH2.out HN1.out.1 hfl0 HN1.out.2.1 HN1.out.2.2 HEo.out)
 have hbk := HH2.out.blk
 unfold CaC.cells at hbk
 have k4 := hbk.cell 4
 simp only [gl] at k4
 clear hbk
 have k4' : w2.cell? ⟨cb, 4, none⟩ = some (.int .i64 (o : Int)) := by rw [k4, Hos.out]; rfl
 clear hcf k4 q0 HH HD HLe HCf
 go_wp2_with fail
 refine HDr.out.mono ?_
 rintro y w3 ⟨rfl, fv3, d3, G3, a3, ids4, lst4, h3, hp3⟩
 have HI3 := qd (HI.out.drop Hnd.out HRo.out hp3)
 have HFr := qd (ca_fresh_pop h3 hfln)
 have hlk3 := look_none (l := a3.ents) (key := e.key) (fun x hx hk => by
  have := (HI3.out.ents.mem_iff.1 hx)
  obtain ⟨j, hj, rfl⟩ := List.mem_map.1 this
  exact Hms.out _ (List.mem_map_of_mem (f := s.ent) hj) hk)
 have Hlk := qd hlk3
 clear h3 hp3 HDr k4' hlk3
 go_wp2_with fail
 refine HFr.out.mono ?_
 rintro y w4 ⟨rfl, fv4, h4⟩
 have HH := qd h4
 clear h4
 go_upto_region 11 with fail
 have HFs := qd HI3.out.pop
 have HRr := qd (show e :: A.map (leaveS s o).ent = cput Ent.key M (row.map s.ent) e from HCp.out.1.symm)
 have HLn := qd (show (a3).ents.length < M from by have := HI3.out.ents.length_eq; rw [List.length_map] at this; have := HCp.out.2; omega)
 clear HFr HI3 HCp HI HRo Hms
 have Hi := qd HFs.out.lt
 obtain ⟨g, cap, hgv, hg0, hg1, p0, p1, p2, p3, p4⟩ := slot_cells HH.out Hi.out
 have hbk := HH.out.blk
 unfold CaC.cells at hbk
 have k1 := hbk.cell 1
 simp only [gl] at k1
 have hgw : c.sv = .slice (some ⟨g, 0, none⟩) n cap := hgv
 rw [hgw] at k1
 clear hgw
 have kz0 := HH.out.frozen hgv (o * 5)
 have kz1 := HH.out.frozen hgv (o * 5 + 1)
 have kz2 := HH.out.frozen hgv (o * 5 + 2)
 have hi0 : (0 : Int) ≤ (o : Int) := by omega
 have hi1 : (o : Int) < (n : Int) := by have := Hi.out; omega
 have hi2 : (o : Int) < ((n : Nat) : Int) := by have := Hi.out; omega
 have hN1 := HH.out.setS (s' := { (leaveS s o) with ent := upd ((leaveS s o)).ent o ⟨e.key, (((leaveS s o)).ent o).val, (((leaveS s o)).ent o).hash⟩ }) hgv Hi.out 0 (by decide) (.int .u64 (e.key : Int)) (fun k => by
  unfold upd SlF.cells
  by_cases hk : k = o
  ·subst hk; simp
  ·simp [hk])
 have hN2 := hN1.setS (s' := { (leaveS s o) with ent := upd ((leaveS s o)).ent o ⟨e.key, e.val, (((leaveS s o)).ent o).hash⟩ }) hgv Hi.out 1 (by decide) (.int .u64 (e.val : Int)) (fun k => by
  unfold upd SlF.cells
  by_cases hk : k = o
  ·subst hk; simp
  ·simp [hk])
 have hN3 := hN2.setS (s' := setEnt ((leaveS s o)) o e) hgv Hi.out 2 (by decide) (.int .u64 (e.hash : Int)) (fun k => by
  unfold upd SlF.cells setEnt upd
  by_cases hk : k = o
  ·subst hk; simp
  ·simp [hk])
 have hhq : (e.hash : Int) = (H e.key : Int) := by rw [HEe.out.hash]
 rw [hhq] at hN3
 have HHq := qd hhq
 have HN := qd hN3
 clear hN1 hN2 hN3 hbk hgv hg0 hg1 p3 p4 hhq
 go_upto_region 12 with fail
 refine nameC (F := fun v => CaH W0 E H K M I cb (caFoot cb c G) w v { c with e := leaveE c.e s o, fv := fv4, last := d3 } n (setEnt ((leaveS s o)) o e) fr G3 a3 ids4 lst4) HN.out ?_
 clear HN k1 kz0 kz1 kz2 p0 p1 p2
 rintro w5 hh
 have HEn := qd (ca_enter hh Hi.out HFs.out.near)
 clear hh HH
 go_wp2_with fail
 refine HEn.out.mono ?_
 rintro y w6 ⟨rfl, hh⟩
 have hpu := rt_Put hh.map ⟨e.key, o, e.hash⟩ ⟨HEe.out.hash, HEe.out.h64, HEe.out.k64, by show o < _; have := Hi.out; have := hh.n192; omega⟩
 have hpc : putC M (a3).ents e.key = 0 := by unfold putC fullB; rw [Hlk.out]; simp; exact HLn.out
 rw [show putC M (a3).ents (⟨e.key, o, e.hash⟩ : Ent).key = 0 from hpc] at hpu
 have HPu := qd (show Calls Tryz.prog 20 #[.pointer (some ⟨c.pb, 0, none⟩), .int .u64 (e.key : Int), .int .u64 ((o : Nat) : Int), .int .u64 (H e.key : Int)] w6 (fun y w' => y = .returned .nilIface ∧ ∃ a' ids' lst', RtTo W0 E H K M I c.pb G3 w6 w' a' ids' [] 0 lst' ∧ PutR H K M (a3) ids4 ⟨e.key, o, e.hash⟩ a' ids') from by rw [← HHq.out]; exact hpu)
 have hpl : putL M (a3).ents ⟨e.key, o, e.hash⟩ = (a3).ents ++ [⟨e.key, o, e.hash⟩] := by
  unfold putL
  rw [show fullB M (a3).ents (⟨e.key, o, e.hash⟩ : Ent).key = false from by unfold fullB; rw [Hlk.out]; simp; exact HLn.out]
  rw [if_neg (by simp), rest_none Hlk.out]
 have HPl := qd hpl
 have HH := qd hh
 have hbk := hh.blk
 unfold CaC.cells at hbk
 have k0 := hbk.cell 0
 simp only [gl] at k0
 have hwu : IntKind.u64.wrap ((o : Nat) : Int) = ((o : Nat) : Int) := by have := Hi.out; have := hh.n192; rw [IntKind.wrap_u64]; omega
 clear hh hpu hpc hpl hbk HEn
 go_wp2_with fail
 refine HPu.out.mono ?_
 rintro y w7 ⟨rfl, a5, ids5, lst5, hto, hpr⟩
 obtain ⟨G5, h7⟩ := HH.out.setM hto
 have HF5 := qd (HFs.out.put (e := e) (HPl.out ▸ hpr.1))
 have HCo := qd (ca_count h7)
 clear hto hpr h7 k0 HPu HPl HH
 go_wp2_with fail
 refine HCo.out.mono ?_
 rintro y w8 ⟨rfl, d8, h8⟩
 have HN := qd h8
 clear h8 HCo
 go_wp2
 refine bodyPost_ret (v := .tuple #[.int .u64 ((s.ent o).key : Int), .bool true, .nilIface]) (by simp [results, Tryz.results8, go_sem]) rfl ⟨rfl, HN.out.to HF5.out.1 (HF5.out.2.trans HRr.out)⟩
theorem ca_Put_new {c : CaC} (h1 : CaH W0 E H K M I cb (caFoot cb c G) w w c n s fr G a ids lst) (h2 : CaI c.e n s fr a.ents row) (he : EntOk H e) (hM : 1 ≤ M) (hl : look a.ents e.key = none) (hge : ¬ M ≤ row.length) : Calls Tryz.prog 8 #[.pointer (some ⟨cb, 0, none⟩), .int .u64 (e.key : Int), .int .u64 (e.val : Int), .int .u64 (e.hash : Int)] w fun y w' => y = .returned (.tuple #[.int .u64 (goneK M (row.map s.ent) e.key : Int), .bool (fullB M (row.map s.ent) e.key), .nilIface]) ∧ CaTo W0 E H K M I cb (caFoot cb c G) w w' (cput Ent.key M (row.map s.ent) e) := by
 have hnd := h1.map.facts.2.1
 have hM192 := h1.map.facts.2.2.2.1
 have hleM := h1.map.facts.2.2.1
 have hentsH := fun e he => (h1.map.entOk e he).hash
 have hents64 := fun e he => And.intro (h1.map.entOk e he).h64 (h1.map.entOk e he).k64
 have h192 := h1.n192
 have hlt := h2.lt
 have hlen := h2.ents.length_eq
 rw [List.length_map] at hlen
 have hmiss := h2.miss hl
 have hf := ca_find h1 e.key (by rw [← he.hash]; exact he.h64) (by rw [hl]; decide)
 rw [hl] at hf
 have HF := qd (show Calls Tryz.prog 14 #[.pointer (some ⟨cb, 0, none⟩), .int .u64 (e.key : Int), .int .u64 (H e.key : Int)] w (fun y w' => y = .returned (.tuple #[.int .i64 0, .bool false]) ∧ ∃ d G' lst', CaH W0 E H K M I cb (caFoot cb c G) w w' { c with last := d } n s fr G' a ids lst') from hf)
 have HEe := qd he
 have hhs := he.hash
 clear hf he
 rw [hhs]
 have hfu : fullB M (row.map s.ent) e.key = false := by unfold fullB; rw [h2.unseen hl, List.length_map]; simp; omega
 have hgo : goneK M (row.map s.ent) e.key = 0 := by unfold goneK; rw [hfu]; rfl
 rw [hgo, hfu]
 have hcp := cput_new (M := M) (e := e) (s := s) (row := row) hmiss (by omega)
 have HI := qd h2
 have HCp := qd hcp
 have HLn := qd (show (a).ents.length < M from by omega)
 have Hlk := qd hl
 have hgi : ¬ (M : Int) ≤ (a.ents.length : Int) := by omega
 have hgn : ¬ M ≤ a.ents.length := by omega
 have hgm : a.ents.length < M := by omega
 have hn192 : n + 1 ≤ 192 ∨ fr ≠ [] := by
  by_cases hz : fr = []
  ·left; have := hlt.2.2.2.2; rw [hz] at this; simp at this; omega
  ·exact .inr hz
 have hfln := hlt.2.2.2.2
 clear h1 h2 hl hfu hgo hcp hnd hmiss hlt hentsH hents64
 go_in
 go_wp2_with fail
 refine HF.out.mono ?_
 rintro y w1 ⟨rfl, d, G', lst', hh⟩
 have HH := qd hh
 clear hh
 go_upto_region 7 with fail
 have hhd := HH.out.below (Below.refl _ _).drew
 have HD := qd hhd
 have HLe := qd (ca_LenH hhd)
 have HCf := qd (show Calls Tryz.prog 16 #[.pointer (some ⟨c.pb, 0, none⟩)] (World.drew w1) (fun y w' => y = .returned (.agg #[.int .i64 (K : Int), .int .i64 (M : Int), .int .i64 (I : Int)]) ∧ Below (World.drew w1).heap.size (World.drew w1) w') from rt_Config hhd.map)
 have hbk := HH.out.blk
 unfold CaC.cells at hbk
 have k0 := hbk.cell 0
 simp only [gl] at k0
 clear hbk hhd HF
 have hcf := cfg_field (K : Int) (M : Int) (I : Int)
 refine rT (fun (w' : World) => w'.cell? ⟨cb, 0, none⟩ = some (.pointer (some ⟨c.pb, 0, none⟩)) ∧ True) [] ?_
 have hHeld := (⟨k0, trivial⟩ : _ ∧ _)
 refine vW 0 rfl ?_
 refine vW 2 rfl ?_
 refine vW 3 rfl ?_
 refine vW 4 rfl ?_
 refine vT 5 rfl ?_
 refine nT 1 rfl fun K hK => ?_
 go_simp
 refine HLe.out.mono ?_
 rintro y wl ⟨rfl, rfl⟩
 have hHeld := (⟨k0, trivial⟩ : _ ∧ _)
 refine kO hK ?_
 clear hK K
 refine nT 6 rfl fun K hK => ?_
 go_simp
 refine HCf.out.mono ?_
 rintro y w2 ⟨rfl, hb⟩
 have HH2 := qd (HD.out.below hb)
 have hl1 : cb < (World.drew w1).heap.size := HD.out.blk.lt
 have q0 := (World.cell?_of_block (hb.block cb hl1)).trans k0
 clear hb hl1 k0
 have hHeld := (⟨q0, trivial⟩ : _ ∧ _)
 refine kO hK ?_
 clear hK K
 refine vW 7 rfl ?_
 refine vW 8 rfl ?_
 refine vW 9 rfl ?_
 refine doneT (by kernel_rfl) ?_ _
 clear hcf q0 HH HD HLe HCf
 obtain ⟨ids4, hids4⟩ : ∃ x, x = ids := ⟨_, rfl⟩
 obtain ⟨lst4, hlst4⟩ : ∃ x, x = lst' := ⟨_, rfl⟩
 have h22 := HH2.out
 rw [← hids4, ← hlst4] at h22
 rcases List.eq_nil_or_concat fr with hz | ⟨fr2, i, hz⟩
 ·subst hz
  have HFr := qd (ca_fresh_new h22 (hn192.resolve_right (by simp)))
  clear h22 hids4 hlst4
  go_wp2_with fail
  refine HFr.out.mono ?_
  rintro y w4 ⟨rfl, sv4, h4⟩
  have HH := qd h4
  clear h4
  go_upto_region 11 with fail
  have HFs := qd HI.out.made.1
  have HRr := qd (show e :: row.map (zeroS s n).ent = cput Ent.key M (row.map s.ent) e from by rw [HI.out.made.2]; exact HCp.out.symm)
  clear HFr HI HCp HH2
  have Hi := qd HFs.out.lt
  obtain ⟨g, cap, hgv, hg0, hg1, p0, p1, p2, p3, p4⟩ := slot_cells HH.out Hi.out
  have hbk := HH.out.blk
  unfold CaC.cells at hbk
  have k1 := hbk.cell 1
  simp only [gl] at k1
  have hgw : sv4 = .slice (some ⟨g, 0, none⟩) (n + 1) cap := hgv
  rw [hgw] at k1
  clear hgw
  have kz0 := HH.out.frozen hgv (n * 5)
  have kz1 := HH.out.frozen hgv (n * 5 + 1)
  have kz2 := HH.out.frozen hgv (n * 5 + 2)
  have hi0 : (0 : Int) ≤ (n : Int) := by omega
  have hi1 : (n : Int) < ((n + 1) : Int) := by have := Hi.out; omega
  have hi2 : (n : Int) < (((n + 1) : Nat) : Int) := by have := Hi.out; omega
  have hN1 := HH.out.setS (s' := { (zeroS s n) with ent := upd ((zeroS s n)).ent n ⟨e.key, (((zeroS s n)).ent n).val, (((zeroS s n)).ent n).hash⟩ }) hgv Hi.out 0 (by decide) (.int .u64 (e.key : Int)) (fun k => by
   unfold upd SlF.cells
   by_cases hk : k = n
   ·subst hk; simp
   ·simp [hk])
  have hN2 := hN1.setS (s' := { (zeroS s n) with ent := upd ((zeroS s n)).ent n ⟨e.key, e.val, (((zeroS s n)).ent n).hash⟩ }) hgv Hi.out 1 (by decide) (.int .u64 (e.val : Int)) (fun k => by
   unfold upd SlF.cells
   by_cases hk : k = n
   ·subst hk; simp
   ·simp [hk])
  have hN3 := hN2.setS (s' := setEnt ((zeroS s n)) n e) hgv Hi.out 2 (by decide) (.int .u64 (e.hash : Int)) (fun k => by
   unfold upd SlF.cells setEnt upd
   by_cases hk : k = n
   ·subst hk; simp
   ·simp [hk])
  have hhq : (e.hash : Int) = (H e.key : Int) := by rw [HEe.out.hash]
  rw [hhq] at hN3
  have HHq := qd hhq
  have HN := qd hN3
  clear hN1 hN2 hN3 hbk hgv hg0 hg1 p3 p4 hhq
  go_upto_region 12 with fail
  refine nameC (F := fun v => CaH W0 E H K M I cb (caFoot cb c G) w v { c with sv := sv4, last := d } (n + 1) (setEnt ((zeroS s n)) n e) [] G' a ids4 lst4) HN.out ?_
  clear HN k1 kz0 kz1 kz2 p0 p1 p2
  rintro w5 hh
  have HEn := qd (ca_enter hh Hi.out HFs.out.near)
  clear hh HH
  go_wp2_with fail
  refine HEn.out.mono ?_
  rintro y w6 ⟨rfl, hh⟩
  have hpu := rt_Put hh.map ⟨e.key, n, e.hash⟩ ⟨HEe.out.hash, HEe.out.h64, HEe.out.k64, by show n < _; have := Hi.out; have := hh.n192; omega⟩
  have hpc : putC M (a).ents e.key = 0 := by unfold putC fullB; rw [Hlk.out]; simp; exact HLn.out
  rw [show putC M (a).ents (⟨e.key, n, e.hash⟩ : Ent).key = 0 from hpc] at hpu
  have HPu := qd (show Calls Tryz.prog 20 #[.pointer (some ⟨c.pb, 0, none⟩), .int .u64 (e.key : Int), .int .u64 ((n : Nat) : Int), .int .u64 (H e.key : Int)] w6 (fun y w' => y = .returned .nilIface ∧ ∃ a' ids' lst', RtTo W0 E H K M I c.pb G' w6 w' a' ids' [] 0 lst' ∧ PutR H K M (a) ids4 ⟨e.key, n, e.hash⟩ a' ids') from by rw [← HHq.out]; exact hpu)
  have hpl : putL M (a).ents ⟨e.key, n, e.hash⟩ = (a).ents ++ [⟨e.key, n, e.hash⟩] := by
   unfold putL
   rw [show fullB M (a).ents (⟨e.key, n, e.hash⟩ : Ent).key = false from by unfold fullB; rw [Hlk.out]; simp; exact HLn.out]
   rw [if_neg (by simp), rest_none Hlk.out]
  have HPl := qd hpl
  have HH := qd hh
  have hbk := hh.blk
  unfold CaC.cells at hbk
  have k0 := hbk.cell 0
  simp only [gl] at k0
  have hwu : IntKind.u64.wrap ((n : Nat) : Int) = ((n : Nat) : Int) := by have := Hi.out; have := hh.n192; rw [IntKind.wrap_u64]; omega
  clear hh hpu hpc hpl hbk HEn
  go_wp2_with fail
  refine HPu.out.mono ?_
  rintro y w7 ⟨rfl, a5, ids5, lst5, hto, hpr⟩
  obtain ⟨G5, h7⟩ := HH.out.setM hto
  have HF5 := qd (HFs.out.put (e := e) (HPl.out ▸ hpr.1))
  have HCo := qd (ca_count h7)
  clear hto hpr h7 k0 HPu HPl HH
  go_wp2_with fail
  refine HCo.out.mono ?_
  rintro y w8 ⟨rfl, d8, h8⟩
  have HN := qd h8
  clear h8 HCo
  go_wp2
  refine bodyPost_ret (v := .tuple #[.int .u64 0, .bool false, .nilIface]) (by simp [results, Tryz.results8, go_sem]) rfl ⟨rfl, HN.out.to HF5.out.1 (HF5.out.2.trans HRr.out)⟩
 ·rw [List.concat_eq_append] at hz
  subst hz
  have HFr := qd (ca_fresh_pop h22 (by have := hfln; simp at this; omega))
  clear h22 hids4 hlst4
  go_wp2_with fail
  refine HFr.out.mono ?_
  rintro y w4 ⟨rfl, fv4, h4⟩
  have HH := qd h4
  clear h4
  go_upto_region 11 with fail
  have HFs := qd HI.out.pop
  have HRr := qd HCp.out.symm
  clear HFr HI HCp HH2
  have Hi := qd HFs.out.lt
  obtain ⟨g, cap, hgv, hg0, hg1, p0, p1, p2, p3, p4⟩ := slot_cells HH.out Hi.out
  have hbk := HH.out.blk
  unfold CaC.cells at hbk
  have k1 := hbk.cell 1
  simp only [gl] at k1
  have hgw : c.sv = .slice (some ⟨g, 0, none⟩) n cap := hgv
  rw [hgw] at k1
  clear hgw
  have kz0 := HH.out.frozen hgv (i * 5)
  have kz1 := HH.out.frozen hgv (i * 5 + 1)
  have kz2 := HH.out.frozen hgv (i * 5 + 2)
  have hi0 : (0 : Int) ≤ (i : Int) := by omega
  have hi1 : (i : Int) < (n : Int) := by have := Hi.out; omega
  have hi2 : (i : Int) < ((n : Nat) : Int) := by have := Hi.out; omega
  have hN1 := HH.out.setS (s' := { s with ent := upd (s).ent i ⟨e.key, ((s).ent i).val, ((s).ent i).hash⟩ }) hgv Hi.out 0 (by decide) (.int .u64 (e.key : Int)) (fun k => by
   unfold upd SlF.cells
   by_cases hk : k = i
   ·subst hk; simp
   ·simp [hk])
  have hN2 := hN1.setS (s' := { s with ent := upd (s).ent i ⟨e.key, e.val, ((s).ent i).hash⟩ }) hgv Hi.out 1 (by decide) (.int .u64 (e.val : Int)) (fun k => by
   unfold upd SlF.cells
   by_cases hk : k = i
   ·subst hk; simp
   ·simp [hk])
  have hN3 := hN2.setS (s' := setEnt (s) i e) hgv Hi.out 2 (by decide) (.int .u64 (e.hash : Int)) (fun k => by
   unfold upd SlF.cells setEnt upd
   by_cases hk : k = i
   ·subst hk; simp
   ·simp [hk])
  have hhq : (e.hash : Int) = (H e.key : Int) := by rw [HEe.out.hash]
  rw [hhq] at hN3
  have HHq := qd hhq
  have HN := qd hN3
  clear hN1 hN2 hN3 hbk hgv hg0 hg1 p3 p4 hhq
  go_upto_region 12 with fail
  refine nameC (F := fun v => CaH W0 E H K M I cb (caFoot cb c G) w v { c with fv := fv4, last := d } n (setEnt (s) i e) fr2 G' a ids4 lst4) HN.out ?_
  clear HN k1 kz0 kz1 kz2 p0 p1 p2
  rintro w5 hh
  have HEn := qd (ca_enter hh Hi.out HFs.out.near)
  clear hh HH
  go_wp2_with fail
  refine HEn.out.mono ?_
  rintro y w6 ⟨rfl, hh⟩
  have hpu := rt_Put hh.map ⟨e.key, i, e.hash⟩ ⟨HEe.out.hash, HEe.out.h64, HEe.out.k64, by show i < _; have := Hi.out; have := hh.n192; omega⟩
  have hpc : putC M (a).ents e.key = 0 := by unfold putC fullB; rw [Hlk.out]; simp; exact HLn.out
  rw [show putC M (a).ents (⟨e.key, i, e.hash⟩ : Ent).key = 0 from hpc] at hpu
  have HPu := qd (show Calls Tryz.prog 20 #[.pointer (some ⟨c.pb, 0, none⟩), .int .u64 (e.key : Int), .int .u64 ((i : Nat) : Int), .int .u64 (H e.key : Int)] w6 (fun y w' => y = .returned .nilIface ∧ ∃ a' ids' lst', RtTo W0 E H K M I c.pb G' w6 w' a' ids' [] 0 lst' ∧ PutR H K M (a) ids4 ⟨e.key, i, e.hash⟩ a' ids') from by rw [← HHq.out]; exact hpu)
  have hpl : putL M (a).ents ⟨e.key, i, e.hash⟩ = (a).ents ++ [⟨e.key, i, e.hash⟩] := by
   unfold putL
   rw [show fullB M (a).ents (⟨e.key, i, e.hash⟩ : Ent).key = false from by unfold fullB; rw [Hlk.out]; simp; exact HLn.out]
   rw [if_neg (by simp), rest_none Hlk.out]
  have HPl := qd hpl
  have HH := qd hh
  have hbk := hh.blk
  unfold CaC.cells at hbk
  have k0 := hbk.cell 0
  simp only [gl] at k0
  have hwu : IntKind.u64.wrap ((i : Nat) : Int) = ((i : Nat) : Int) := by have := Hi.out; have := hh.n192; rw [IntKind.wrap_u64]; omega
  clear hh hpu hpc hpl hbk HEn
  go_wp2_with fail
  refine HPu.out.mono ?_
  rintro y w7 ⟨rfl, a5, ids5, lst5, hto, hpr⟩
  obtain ⟨G5, h7⟩ := HH.out.setM hto
  have HF5 := qd (HFs.out.put (e := e) (HPl.out ▸ hpr.1))
  have HCo := qd (ca_count h7)
  clear hto hpr h7 k0 HPu HPl HH
  go_wp2_with fail
  refine HCo.out.mono ?_
  rintro y w8 ⟨rfl, d8, h8⟩
  have HN := qd h8
  clear h8 HCo
  go_wp2
  refine bodyPost_ret (v := .tuple #[.int .u64 0, .bool false, .nilIface]) (by simp [results, Tryz.results8, go_sem]) rfl ⟨rfl, HN.out.to HF5.out.1 (HF5.out.2.trans HRr.out)⟩
theorem ca_Put {F : List Nat} {R : List Ent} (h : CaAt W0 E H K M I cb F w R) (e : Ent) (he : EntOk H e) (hM : 1 ≤ M) : Calls Tryz.prog 8 #[.pointer (some ⟨cb, 0, none⟩), .int .u64 (e.key : Int), .int .u64 (e.val : Int), .int .u64 (e.hash : Int)] w fun y w' => y = .returned (.tuple #[.int .u64 (goneK M R e.key : Int), .bool (fullB M R e.key), .nilIface]) ∧ CaTo W0 E H K M I cb F w w' (cput Ent.key M R e) := by
 obtain ⟨c, n, s, fr, G, a, ids, lst, row, h1, h2, rfl, rfl⟩ := h
 cases hl : look a.ents e.key with
 | some e0 => exact ca_Put_hit h1 h2 he hM hl
 | none =>
  by_cases hge : M ≤ row.length
  ·exact ca_Put_full h1 h2 he hM hl hge
  ·exact ca_Put_new h1 h2 he hM hl hge
end
section
variable {W0 w : World} {E : Nat → Addr}
def slf0 : SlF := ⟨fun _ => ⟨0, 0, 0⟩, fun _ => none, fun _ => none⟩
theorem cai0 : CaI ⟨none, none⟩ 0 slf0 [] [] [] := ⟨⟨List.nodup_nil, rfl, rfl, trivial⟩, List.Perm.refl _, List.Perm.refl _⟩
theorem ca_New (H : Nat → Nat) (hE : Env W0 E w) (k m i : Int) (hcf : cfgOk k m i = true) (K M I : Nat) (hkm : (1 ≤ K ∧ K ≤ 64) ∧ (1 ≤ M ∧ M ≤ 192) ∧ k = (K : Int) ∧ m = (M : Int) ∧ i = (I : Int)) (hi8 : 1 ≤ I ∧ I ≤ 8) : Calls Tryz.prog 6 #[cfgV k m i] w fun y w' => ∃ cb F, y = .returned (.tuple #[.pointer (some ⟨cb, 0, none⟩), .nilIface]) ∧ CaAt W0 E H K M I cb F w' [] ∧ (∀ p ∈ F, w.heap.size ≤ p) ∧ Below w.heap.size w w' := by
 have hb0 := (Below.refl w.heap.size w).alloc (Nat.le_refl _) (.cells #[.int .i64 k, .int .i64 m, .int .i64 i] 23)
 have hX := Blk.new w 23 #[.int .i64 k, .int .i64 m, .int .i64 i]
 obtain ⟨W, hW⟩ : ∃ W, W = w.alloc (.cells #[.int .i64 k, .int .i64 m, .int .i64 i] 23) := ⟨_, rfl⟩
 rw [← hW] at hb0 hX
 obtain ⟨x0, x1, x2⟩ := hX.c3
 have hn := rt_New H (hE.next hb0) k m i hcf K M I hkm hi8
 unfold cfgV at hn ⊢
 have HN := qd hn
 have HB := qd hb0
 have HW := qd hW
 have HE := qd hE.size
 clear hn hb0 hX hE hcf hkm hi8 hW
 go_in
 go_upto_region 1 with fail
 rw [← HW.out]
 go_wp2_with fail
 refine HN.out.mono ?_
 rintro y w2 ⟨b, G, rfl, hA, hG, hb⟩
 have hfa := hA.facts.1
 have hsz := HB.out.size
 have hs2 := hb.size
 have hb2 := below2 HB.out hb
 have hal := hb2.alloc (by omega) (.cells #[.pointer (some ⟨b, 0, none⟩), .slice none 0 0, .slice none 0 0, .int .i64 (-1), .int .i64 (-1), .int .i64 0, .int .i64 0, .int .i64 0, .int .i64 0, .int .i64 0] 53)
 have HAl := qd hal
 have hH : CaH W0 E H K M I w2.heap.size (caFoot w2.heap.size ⟨b, .slice none 0 0, .slice none 0 0, ⟨none, none⟩, 0, 0, ⟨0, 0, 0⟩⟩ G) (w2.alloc (.cells #[.pointer (some ⟨b, 0, none⟩), .slice none 0 0, .slice none 0 0, .int .i64 (-1), .int .i64 (-1), .int .i64 0, .int .i64 0, .int .i64 0, .int .i64 0, .int .i64 0] 53)) (w2.alloc (.cells #[.pointer (some ⟨b, 0, none⟩), .slice none 0 0, .slice none 0 0, .int .i64 (-1), .int .i64 (-1), .int .i64 0, .int .i64 0, .int .i64 0, .int .i64 0, .int .i64 0] 53)) ⟨b, .slice none 0 0, .slice none 0 0, ⟨none, none⟩, 0, 0, ⟨0, 0, 0⟩⟩ 0 slf0 [] G pool0 [] ⟨0, 0, 0⟩ :=
  ⟨Blk.new w2 53 #[.pointer (some ⟨b, 0, none⟩), .slice none 0 0, .slice none 0 0, .int .i64 (-1), .int .i64 (-1), .int .i64 0, .int .i64 0, .int .i64 0, .int .i64 0, .int .i64 0], hA.below ((Below.refl _ _).alloc (Nat.le_refl _) _), World.ownsRow_nil _ _ _ _, World.ownsRow_nil _ _ _ _, (by have := HE.out; omega), fun g hg => (by cases hg), fun g hg => (by cases hg), fun hg => (by have := (hfa _ hg).1; omega), fun j hj => (by cases hj), Nat.zero_le _, fun p hp => .inl hp, Mod.refl _ _, by have := HE.out; simp; omega⟩
 have HH := qd (show CaAt W0 E H K M I w2.heap.size _ (w2.alloc (.cells #[.pointer (some ⟨b, 0, none⟩), .slice none 0 0, .slice none 0 0, .int .i64 (-1), .int .i64 (-1), .int .i64 0, .int .i64 0, .int .i64 0, .int .i64 0, .int .i64 0] 53)) [] from ⟨_, _, _, _, _, _, _, _, [], hH, by rw [ents0]; exact cai0, rfl, rfl⟩)
 have HF := qd (show ∀ p ∈ caFoot w2.heap.size ⟨b, .slice none 0 0, .slice none 0 0, ⟨none, none⟩, 0, 0, ⟨0, 0, 0⟩⟩ G, w.heap.size ≤ p from fun p hp => by
  rcases mem_caFoot.1 hp with rfl | k | k | k
  ·omega
  ·cases k
  ·cases k
  ·have := hG p k; omega)
 clear hA hG hb hfa hsz hs2 hb2 hal hH HN
 go_wp2
 refine bodyPost_ret (v := .tuple #[.pointer (some ⟨w2.heap.size, 0, none⟩), .nilIface]) (by simp [results, Tryz.results6, go_sem]) rfl ⟨_, _, rfl, HH.out, HF.out, HAl.out⟩
theorem ca_Get_hit {H : Nat → Nat} {K M I cb : Nat} {F : List Nat} {R : List Ent} (h : CaAt W0 E H K M I cb F w R) (key : Nat) (h64 : H key < 18446744073709551616) {x : Ent} (hx : look R key = some x) : Calls Tryz.prog 11 #[.pointer (some ⟨cb, 0, none⟩), .int .u64 (key : Int), .int .u64 (H key : Int)] w fun y w' => y = .returned (.tuple #[.int .u64 (x.val : Int), .bool true]) ∧ CaTo W0 E H K M I cb F w w' (x :: caLess Ent.key key R) := by
 obtain ⟨c, n, s, fr, G, a, ids, lst, row, h1, h2, rfl, rfl⟩ := h
 have hnd := h1.map.facts.2.1
 have h192 := h1.n192
 cases hl : look a.ents key with
 | none => rw [h2.unseen hl] at hx; cases hx
 | some e0 =>
  obtain ⟨A, B, hr, hk, hh⟩ := h2.hit hl
  have hsn := h2.seen hnd hl
  rw [hsn.1] at hx
  have hxe : s.ent e0.val = x := Option.some.inj hx
  have hf := ca_find h1 key h64 (by rw [hl]; show e0.val < _; omega)
  rw [hl] at hf
  obtain ⟨i, hii⟩ : ∃ i, i = e0.val := ⟨_, rfl⟩
  have HF := qd (show Calls Tryz.prog 14 #[.pointer (some ⟨cb, 0, none⟩), .int .u64 (key : Int), .int .u64 (H key : Int)] w (fun y w' => y = .returned (.tuple #[.int .i64 (i : Int), .bool true]) ∧ ∃ d G' lst', CaH W0 E H K M I cb (caFoot cb c G) w w' { c with last := d } n s fr G' a ids lst') from hii ▸ hf)
  rw [← hii] at hr hk hsn hxe
  obtain ⟨n1, n2, n3, n4, _⟩ := h2.near hr
  have hg := get_hit h2 hnd hr hk
  rw [hxe] at hg
  have HI := qd (h2.use hr)
  have HR := qd hg
  have HX := qd hxe
  have HN1 := qd (And.intro n1 (And.intro n2 (And.intro n3 n4)))
  have hi0 : (0 : Int) ≤ (i : Int) := by omega
  have hi1 : (i : Int) < (n : Int) := by omega
  obtain ⟨hv, hhv⟩ : ∃ hv, wrap64 (c.hit + 1) = hv := ⟨_, rfl⟩
  have hhw : IntKind.i64.wrap (c.hit + 1) = hv := by rw [← hhv, IntKind.wrap_i64, wrap64]
  clear h1 h2 hf hl hr hk hh hsn hx hxe hg hii n1 n2 n3 n4 hnd h192 h64
  go_in
  go_wp2_with fail
  refine HF.out.mono ?_
  rintro y w1 ⟨rfl, d, G', lst', hh⟩
  have hbk := hh.blk
  unfold CaC.cells at hbk
  have k5 := hbk.cell 5
  simp only [gl] at k5
  have f5 := hbk.frozen 5
  have hnew := hbk.set_ 5 (.int .i64 hv)
  have hm := (Mod.refl [cb] w1).sl 5 (.int .i64 hv)
  simp only [pt] at hnew
  have HN := qd (hh.setB (c' := { c with last := d, hit := hv }) (by unfold CaC.cells; exact hnew) hm ⟨rfl, rfl, rfl⟩)
  clear hbk hnew hm hh HF
  go_upto_region 6 with fail
  refine nameC (F := fun v => CaH W0 E H K M I cb (caFoot cb c G) w v { c with last := d, hit := hv } n s fr G' a ids lst') HN.out ?_
  clear HN k5 f5 hhv hhw
  rintro w2 hh
  have HU := qd (ca_use hh HN1.out.1 HN1.out.2.1 HN1.out.2.2.1 HN1.out.2.2.2)
  clear hh
  go_wp2_with fail
  refine HU.out.mono ?_
  rintro y w3 ⟨rfl, hh⟩
  have HN := qd hh
  obtain ⟨g, cap, hgv, hg0, hg1, p0, p1, p2, p3, p4⟩ := slot_cells hh HN1.out.1
  have hgw : c.sv = .slice (some ⟨g, 0, none⟩) n cap := hgv
  have pv : w3.cell? ⟨g, i * 5 + 1, none⟩ = some (.int .u64 (x.val : Int)) := by rw [← HX.out]; exact p1
  have hbk := hh.blk
  unfold CaC.cells at hbk
  have k1 := hbk.cell 1
  simp only [gl] at k1
  clear hbk
  rw [hgw] at k1
  clear hh HU hgv hgw hg0 hg1 p0 p1 p2 p3 p4
  go_wp2
  refine bodyPost_ret (v := .tuple #[.int .u64 (x.val : Int), .bool true]) (by simp [results, Tryz.results11, go_sem]) rfl ⟨rfl, HN.out.to HI.out HR.out⟩
end
end Go.Proofs.YtfcecmcnmgagnaaGreatDoor
