/- A node's small functions by their contracts. -/
import Derived.Test.YtcgjgfgkdoohlaaGreatDoorCoBB
import Derived.Test.YtcgjgfgkdoohlaaGreatDoorCoN
import Derived.Test.YtcgjgfgkdoohlaaGreatDoorLaneP
import Derived.Test.YtcgjgfgkdoohlaaGreatDoorCoBC
namespace Go.Proofs.YtcgjgfgkdoohlaaGreatDoor
section
set_option maxRecDepth 100000
set_option maxHeartbeats 4000000
open Go.RowKit AmC
theorem node_Prefix (nb tb : Nat) (pfx dpt job : Int) (dv : Value) (w : World) (h : Blk w nb 114 #[.int .i64 pfx, .int .i64 dpt, .pointer (some ⟨tb, 0, none⟩), .int .i64 job, dv]) :
  Calls Tryz.prog 85 #[nodeP nb] w fun e w' => e = .returned (.tuple #[.int .i64 pfx, .int .i64 dpt]) ∧ w.drew = w' := by
 obtain ⟨c0, c1, c2, c3, c4⟩ := h.c5
 clear h
 unfold nodeP
 go_enter Tryz.func85, Tryz.ntmps85
 go_upto_region 1 with fail
 go_region
 go_wp2
 refine bodyPost_ret (v := .tuple #[.int .i64 pfx, .int .i64 dpt]) (by simp [results, Tryz.results85, go_sem]) rfl ⟨rfl, rfl⟩
theorem node_Groups_tab (nb tb gb : Nat) (pfx dpt job : Int) (T : TabM) (w : World) (h : Blk w nb 114 #[.int .i64 pfx, .int .i64 dpt, .pointer (some ⟨tb, 0, none⟩), .int .i64 job, .pointer none]) (ht : TabAt w tb gb T) :
  Calls Tryz.prog 39 #[nodeP nb] w fun e w' => e = .returned (.int .i64 (T.gs.length : Int)) ∧ w = w' := by
 have HC := qd (table_Groups tb gb T w ht)
 unfold tabP at HC
 obtain ⟨c0, c1, c2, c3, c4⟩ := h.c5
 clear h
 unfold nodeP
 go_enter Tryz.func39, Tryz.ntmps39
 go_wp2_with fail
 refine (HC.out).mono ?_
 rintro y w1 ⟨rfl, rfl⟩
 go_wp2
 go_ret
 exact ⟨rfl, rfl⟩
theorem node_Groups_dual (nb tb db : Nat) (pfx dpt job : Int) (v : Int) (Post : World → World → Prop) (w : World) (h : Blk w nb 114 #[.int .i64 pfx, .int .i64 dpt, .pointer (some ⟨tb, 0, none⟩), .int .i64 job, .pointer (some ⟨db, 0, none⟩)]) (hc : Calls Tryz.prog 77 #[dualP db] w fun e w' => e = .returned (.int .i64 v) ∧ Post w w') :
  Calls Tryz.prog 39 #[nodeP nb] w fun e w' => e = .returned (.int .i64 v) ∧ Post w w' := by
 have HC := qd hc
 unfold dualP at HC
 clear hc
 obtain ⟨c0, c1, c2, c3, c4⟩ := h.c5
 clear h
 unfold nodeP
 go_enter Tryz.func39, Tryz.ntmps39
 go_wp2_with fail
 refine (HC.out).mono ?_
 rintro y w1 ⟨rfl, hp⟩
 have HP := qd hp
 clear hp
 go_wp2
 go_ret
 exact ⟨rfl, HP.out⟩
theorem node_Left_dual (nb tb db : Nat) (pfx dpt job : Int) (v : Int) (Post : World → World → Prop) (w : World) (h : Blk w nb 114 #[.int .i64 pfx, .int .i64 dpt, .pointer (some ⟨tb, 0, none⟩), .int .i64 job, .pointer (some ⟨db, 0, none⟩)]) (hc : Calls Tryz.prog 81 #[dualP db] w fun e w' => e = .returned (.int .i64 v) ∧ Post w w') :
  Calls Tryz.prog 44 #[nodeP nb] w fun e w' => e = .returned (.int .i64 v) ∧ Post w w' := by
 have HC := qd hc
 unfold dualP at HC
 clear hc
 obtain ⟨c0, c1, c2, c3, c4⟩ := h.c5
 clear h
 unfold nodeP
 go_enter Tryz.func44, Tryz.ntmps44
 go_wp2_with fail
 refine (HC.out).mono ?_
 rintro y w1 ⟨rfl, hp⟩
 have HP := qd hp
 clear hp
 go_wp2
 go_ret
 exact ⟨rfl, HP.out⟩
theorem node_Left_tab (nb tb : Nat) (pfx dpt job : Int) (w : World) (h : Blk w nb 114 #[.int .i64 pfx, .int .i64 dpt, .pointer (some ⟨tb, 0, none⟩), .int .i64 job, .pointer none]) :
  Calls Tryz.prog 44 #[nodeP nb] w fun e w' => e = .returned (.int .i64 0) ∧ w = w' := by
 obtain ⟨c0, c1, c2, c3, c4⟩ := h.c5
 clear h
 unfold nodeP
 go_enter Tryz.func44, Tryz.ntmps44
 go_wp2
 go_ret
 exact ⟨rfl, rfl⟩
theorem node_Step_dual (nb tb db : Nat) (pfx dpt job : Int) (P : MP) (Post : World → World → Prop) (w : World) (h : Blk w nb 114 #[.int .i64 pfx, .int .i64 dpt, .pointer (some ⟨tb, 0, none⟩), .int .i64 job, .pointer (some ⟨db, 0, none⟩)]) (hc : Calls Tryz.prog 211 #[dualP db, .pointer (some ⟨P.mb, P.mo, none⟩)] w fun e w' => e = .returned (.bool true) ∧ Post w w') :
  Calls Tryz.prog 210 #[nodeP nb, .pointer (some ⟨P.mb, P.mo, none⟩)] w fun e w' => e = .returned (.bool true) ∧ Post w w' := by
 have HC := qd hc
 unfold dualP at HC
 clear hc
 obtain ⟨c0, c1, c2, c3, c4⟩ := h.c5
 clear h
 unfold nodeP
 go_enter Tryz.func210, Tryz.ntmps210
 go_wp2_with fail
 refine (HC.out).mono ?_
 rintro y w1 ⟨rfl, hp⟩
 have HP := qd hp
 clear hp
 go_wp2
 go_ret
 exact ⟨rfl, HP.out⟩
theorem node_Done_dual (nb tb db : Nat) (pfx dpt job : Int) (Post : World → World → Prop) (w : World) (h : Blk w nb 114 #[.int .i64 pfx, .int .i64 dpt, .pointer (some ⟨tb, 0, none⟩), .int .i64 job, .pointer (some ⟨db, 0, none⟩)]) (hc : Calls Tryz.prog 81 #[dualP db] w fun e w' => e = .returned (.int .i64 0) ∧ Post w w') :
  Calls Tryz.prog 150 #[nodeP nb] w fun e w' => e = .returned (.bool true) ∧ Post w w' := by
 have HC := qd hc
 unfold dualP at HC
 clear hc
 obtain ⟨c0, c1, c2, c3, c4⟩ := h.c5
 clear h
 unfold nodeP
 go_enter Tryz.func150, Tryz.ntmps150
 go_wp2_with fail
 refine (HC.out).mono ?_
 rintro y w1 ⟨rfl, hp⟩
 have HP := qd hp
 clear hp
 go_wp2
 go_ret
 exact ⟨rfl, HP.out⟩
theorem node_Wants_dual (nb tb db : Nat) (pfx dpt job gl : Int) (w : World) (h : Blk w nb 114 #[.int .i64 pfx, .int .i64 dpt, .pointer (some ⟨tb, 0, none⟩), .int .i64 job, .pointer (some ⟨db, 0, none⟩)]) :
  Calls Tryz.prog 61 #[nodeP nb, .int .i64 gl] w fun e w' => e = .returned (.tuple #[.int .i64 0, .bool false]) ∧ w = w' := by
 obtain ⟨c0, c1, c2, c3, c4⟩ := h.c5
 clear h
 unfold nodeP
 go_enter Tryz.func61, Tryz.ntmps61
 go_wp2
 refine bodyPost_ret (v := .tuple #[.int .i64 0, .bool false]) (by simp [results, Tryz.results61, go_sem]) rfl ⟨rfl, rfl⟩
theorem node_Wants_tab (nb tb gb lo gl : Nat) (pfx job : Int) (T : TabM) (w : World) (h : Blk w nb 114 #[.int .i64 pfx, .int .i64 (lo : Int), .pointer (some ⟨tb, 0, none⟩), .int .i64 job, .pointer none]) (ht : TabAt w tb gb T) (hok : TOk T) :
  Calls Tryz.prog 61 #[nodeP nb, .int .i64 (gl : Int)] w fun e w' => e = .returned (.tuple #[.int .i64 ((whichK T.live T.tombs T.gs.length lo gl : Nat) : Int), .bool (doubleB T.live T.tombs T.gs.length lo gl)]) ∧ Below w.heap.size w w' := by
 have hg64 := hok.pow.le
 have hsm := hok.small
 have HPw := qd hok.pow
 have HSm := qd hsm
 obtain ⟨n, hn⟩ : ∃ n, n = T.gs.length := ⟨_, rfl⟩
 have HL := qd (fun V hV => table_Len tb gb T V hV)
 have HTm := qd (fun V hV => table_Tombs tb gb T V hV)
 have HG := qd (fun V hV => table_Groups tb gb T V hV)
 have HWh := qd (fun V : World => choose_Which T.live T.tombs T.gs.length lo gl hok.pow ⟨hsm.l0, hsm.l1⟩ ⟨hsm.t0, hsm.t1⟩ V)
 have HDb := qd (fun V : World => choose_Double T.live T.tombs T.gs.length lo gl hok.pow ⟨hsm.l0, hsm.l1⟩ ⟨hsm.t0, hsm.t1⟩ V)
 unfold tabP at HL HTm HG
 clear hok hsm
 have HN := qd (h)
 have HT := qd (ht)
 have Hmod := qd (Mod.refl [] w)
 clear h ht
 unfold nodeP
 go_enter Tryz.func61, Tryz.ntmps61
 obtain ⟨nc0, nc1, nc2, nc3, nc4⟩ := HN.out.c5
 go_upto_region 3 with fail
 refine region_T (fun (w' : World) => w'.cell? ⟨nb, 2, none⟩ = some (.pointer (some ⟨tb, 0, none⟩))) [] (by kernel_rfl) ?_
 try (change wpAnyT _ _ _ _ _ _ _ _ _ (World.drew _))
 have hHeld := nc2
 refine tW 0 (some 14) (.pointer (some ⟨nb, 0, none⟩)) rfl hHeld ?_
 try simp only [pt]
 refine tW 1 (some 15) (.pointer (some ⟨nb, 0, none⟩)) rfl hHeld ?_
 try simp only [pt]
 refine tW 2 (some 16) (.pointer (some ⟨nb, 2, none⟩)) rfl hHeld ?_
 try simp only [pt]
 refine tT 3 (some 17) (.pointer (some ⟨tb, 0, none⟩)) rfl (by rintro w hh0; go_simp) hHeld ?_
 try simp only [pt]
 refine tW 5 (some 19) (.pointer (some ⟨nb, 0, none⟩)) rfl hHeld ?_
 try simp only [pt]
 refine tW 6 (some 20) (.pointer (some ⟨nb, 0, none⟩)) rfl hHeld ?_
 try simp only [pt]
 refine tW 7 (some 21) (.pointer (some ⟨nb, 2, none⟩)) rfl hHeld ?_
 try simp only [pt]
 refine tT 8 (some 22) (.pointer (some ⟨tb, 0, none⟩)) rfl (by rintro w hh0; go_simp) hHeld ?_
 try simp only [pt]
 refine tW 10 (some 24) (.pointer (some ⟨nb, 0, none⟩)) rfl hHeld ?_
 try simp only [pt]
 refine tW 11 (some 25) (.pointer (some ⟨nb, 0, none⟩)) rfl hHeld ?_
 try simp only [pt]
 refine tW 12 (some 26) (.pointer (some ⟨nb, 2, none⟩)) rfl hHeld ?_
 try simp only [pt]
 refine tT 13 (some 27) (.pointer (some ⟨tb, 0, none⟩)) rfl (by rintro w hh0; go_simp) hHeld ?_
 try simp only [pt]
 refine nT 4 (some 18) rfl fun K hK => ?_
 go_simp
 refine (HL.out _ (HT.out.below (Below.refl _ _).drew)).mono ?_
 rintro y w2 ⟨rfl, rfl⟩
 go_wp2_with fail
 have hHeld := nc2
 refine hK.out _ _ (fun _ => hHeld) ?_
 clear hK K
 try simp only [pt]
 refine nT 9 (some 23) rfl fun K hK => ?_
 go_simp
 refine (HTm.out _ (HT.out.below (Below.refl _ _).drew)).mono ?_
 rintro y w2 ⟨rfl, rfl⟩
 go_wp2_with fail
 have hHeld := nc2
 refine hK.out _ _ (fun _ => hHeld) ?_
 clear hK K
 try simp only [pt]
 refine nT 14 (some 28) rfl fun K hK => ?_
 go_simp
 refine (HG.out _ (HT.out.below (Below.refl _ _).drew)).mono ?_
 rintro y w2 ⟨rfl, rfl⟩
 go_wp2_with fail
 have hHeld := nc2
 refine hK.out _ _ (fun _ => hHeld) ?_
 clear hK K
 try simp only [pt]
 refine tW 15 (some 6) (.int .i64 T.live) rfl hHeld ?_
 try simp only [pt]
 refine tW 16 (some 7) (.int .i64 T.tombs) rfl hHeld ?_
 try simp only [pt]
 refine tW 17 (some 8) (.int .i64 (T.gs.length : Int)) rfl hHeld ?_
 try simp only [pt]
 refine doneT (by kernel_rfl) ?_ _
 refine nameW (F := fun v => Mod [] w v) (Mod.drewN [] w 1) ?_
 rintro w1 hm
 clear nc0 nc1 nc2 nc3 nc4
 replace HN := qd (HN.out.mod hm (by simp))
 replace HT := qd (HT.out.mod hm (by simp) (by simp))
 have z1 := (hm).size
 replace Hmod := qd (Hmod.out.tr hm)
 clear hm
 go_upto_region 4 with fail
 obtain ⟨nc0, nc1, nc2, nc3, nc4⟩ := HN.out.c5
 refine region_T (fun (w' : World) => w'.cell? ⟨nb, 1, none⟩ = some (.int .i64 (lo : Int))) [] (by kernel_rfl) ?_
 try (change wpAnyT _ _ _ _ _ _ _ _ _ (World.drew _))
 have hHeld := nc1
 refine tW 0 (some 29) (.int .i64 T.live) rfl hHeld ?_
 try simp only [pt]
 refine tW 1 (some 30) (.int .i64 T.tombs) rfl hHeld ?_
 try simp only [pt]
 refine tW 2 (some 31) (.int .i64 (T.gs.length : Int)) rfl hHeld ?_
 try simp only [pt]
 refine tW 3 (some 32) (.pointer (some ⟨nb, 0, none⟩)) rfl hHeld ?_
 try simp only [pt]
 refine tW 4 (some 33) (.pointer (some ⟨nb, 0, none⟩)) rfl hHeld ?_
 try simp only [pt]
 refine tW 5 (some 34) (.pointer (some ⟨nb, 1, none⟩)) rfl hHeld ?_
 try simp only [pt]
 refine tT 6 (some 35) (.int .i64 (lo : Int)) rfl (by rintro w hh0; go_simp) hHeld ?_
 try simp only [pt]
 refine tW 7 (some 36) (.int .i64 (gl : Int)) rfl hHeld ?_
 try simp only [pt]
 refine tW 9 (some 38) (.int .i64 T.live) rfl hHeld ?_
 try simp only [pt]
 refine tW 10 (some 39) (.int .i64 T.tombs) rfl hHeld ?_
 try simp only [pt]
 refine tW 11 (some 40) (.int .i64 (T.gs.length : Int)) rfl hHeld ?_
 try simp only [pt]
 refine tW 12 (some 41) (.pointer (some ⟨nb, 0, none⟩)) rfl hHeld ?_
 try simp only [pt]
 refine tW 13 (some 42) (.pointer (some ⟨nb, 0, none⟩)) rfl hHeld ?_
 try simp only [pt]
 refine tW 14 (some 43) (.pointer (some ⟨nb, 1, none⟩)) rfl hHeld ?_
 try simp only [pt]
 refine tT 15 (some 44) (.int .i64 (lo : Int)) rfl (by rintro w hh0; go_simp) hHeld ?_
 try simp only [pt]
 refine tW 16 (some 45) (.int .i64 (gl : Int)) rfl hHeld ?_
 try simp only [pt]
 refine nT 8 (some 37) rfl fun K hK => ?_
 go_simp
 refine (HWh.out _).mono ?_
 rintro y w2 ⟨rfl, rfl⟩
 go_wp2_with fail
 have hHeld := nc1
 refine hK.out _ _ (fun _ => hHeld) ?_
 clear hK K
 try simp only [pt]
 refine nT 17 (some 46) rfl fun K hK => ?_
 go_simp
 refine (HDb.out _).mono ?_
 rintro y w2 ⟨rfl, rfl⟩
 go_wp2_with fail
 have hHeld := nc1
 refine hK.out _ _ (fun _ => hHeld) ?_
 clear hK K
 try simp only [pt]
 refine tW 18 (some 4) (.int .i64 ((whichK T.live T.tombs T.gs.length lo gl : Nat) : Int)) rfl hHeld ?_
 try simp only [pt]
 refine tW 19 (some 5) (.bool (doubleB T.live T.tombs T.gs.length lo gl)) rfl hHeld ?_
 try simp only [pt]
 refine doneT (by kernel_rfl) ?_ _
 have HFin := qd (show Below w.heap.size w w1.drew from (Hmod.out.to_below).trans ((Below.refl _ _).drew.mono Hmod.out.size))
 go_wp2
 refine bodyPost_ret (v := .tuple #[.int .i64 ((whichK T.live T.tombs T.gs.length lo gl : Nat) : Int), .bool (doubleB T.live T.tombs T.gs.length lo gl)]) (by simp [results, Tryz.results61, go_sem]) rfl ⟨rfl, HFin.out⟩
end
section
set_option maxRecDepth 100000
set_option maxHeartbeats 8000000
open Go.RowKit AmC
theorem DuNew.mod {w w1 w2 : World} {db ob og : Nat} {T : TabM} {n m depth : Nat} {S : List Nat} (h : DuNew w w1 db ob og T n m depth) (hm : Mod S w1 w2) (hS : ∀ k ∈ S, k < w.heap.size ∧ k ≠ ob ∧ k ≠ og) : DuNew w w2 db ob og T n m depth := by
 obtain ⟨rb, cap, bl, h1, h2, h3, h4, h5⟩ := h
 refine ⟨rb, cap, bl, h1, h2, h3, h4, h5.mod hm fun q hq hk => ?_⟩
 have hh := hS q hk
 unfold footB at hq
 simp only [List.mem_cons] at hq
 rcases hq with e | e | e | e | e
 ·omega
 ·omega
 ·exact hh.2.1 e
 ·exact hh.2.2 e
 ·have := h3 q e; omega
theorem node_New (w : World) :
  Calls Tryz.prog 28 #[.int .i64 0, .int .i64 0] w fun e w' => ∃ nb tb gb, e = .returned (.tuple #[nodeP nb, .nilIface]) ∧ Blk w' nb 114 #[.int .i64 0, .int .i64 0, .pointer (some ⟨tb, 0, none⟩), .int .i64 0, .pointer none] ∧ TabAt w' tb gb (prepT 1 1) ∧ (w.heap.size ≤ nb ∧ w.heap.size ≤ tb ∧ w.heap.size ≤ gb ∧ nb ≠ tb ∧ nb ≠ gb) ∧ Below w.heap.size w w' := by
 have HL := qd (split_Low 0 0 (by omega) (by omega) w)
 have HN := qd (table_New 1 (.inl rfl) w)
 unfold tabP at HN
 unfold nodeP
 go_enter Tryz.func28, Tryz.ntmps28
 go_wp2_with fail
 refine (HL.out).mono ?_
 rintro y w1 ⟨rfl, rfl⟩
 go_wp2_with fail
 refine (HN.out).mono ?_
 rintro y w1 ⟨tb, gb, htb, hgb, rfl, hT, hb⟩
 have HT := qd hT
 have Hb := qd hb
 clear hT hb
 go_wp2
 refine bodyPost_ret (v := .tuple #[.pointer (some ⟨w1.heap.size, 0, none⟩), .nilIface]) (by simp [results, Tryz.results28, go_sem]) rfl ?_
 have hbs := Hb.out.size
 exact ⟨w1.heap.size, tb, gb, rfl, Blk.new w1 _ _, HT.out.below ((Below.refl _ _).alloc (Nat.le_refl _) _), by have := HT.out.ltT; have := HT.out.ltG; omega, Hb.out.alloc hbs _⟩
theorem node_Start (nb tb gb kind each many dpt : Nat) (pfx job : Int) (T : TabM) (hd : dpt < 5 ∨ many = 1 ∧ dpt ≤ 5) (w : World) (h : Blk w nb 114 #[.int .i64 pfx, .int .i64 (dpt : Int), .pointer (some ⟨tb, 0, none⟩), .int .i64 job, .pointer none]) (ht : TabAt w tb gb T) (hok : TOk T) (hpe : Pw each) (hk : kind = 1 ∧ each = T.gs.length ∧ many = 1 ∨ kind = 2 ∧ each = 2 * T.gs.length ∧ many = 1 ∨ kind = 3 ∧ each = T.gs.length ∧ many = 2) (hnt : nb ≠ tb) (hng : nb ≠ gb) :
  Calls Tryz.prog 63 #[nodeP nb, .int .i64 (kind : Int)] w fun e w' => e = .returned .nilIface ∧ ∃ db, Blk w' nb 114 #[.int .i64 pfx, .int .i64 (dpt : Int), .pointer (some ⟨tb, 0, none⟩), .int .i64 (kind : Int), .pointer (some ⟨db, 0, none⟩)] ∧ DuNew w w' db tb gb T each many (if many = 1 then 0 else dpt) ∧ Mod [nb] w w' := by
 have hnl := h.lt
 have htl := ht.ltT
 have hgl := ht.ltG
 obtain ⟨g, hg⟩ : ∃ g, g = T.gs.length := ⟨_, rfl⟩
 have HG := qd (table_Groups tb gb T w ht)
 rw [← hg] at HG hk
 have HC := qd (choose_Groups kind g each many (by rw [hg]; exact hok.pow) hpe hk w)
 unfold tabP at HG
 unfold nodeP
 have hcase : many = 1 ∧ (if many = 1 then -1 else (dpt : Int)) = -1 ∧ (if many = 1 then 0 else dpt) = 0 ∨ many = 2 ∧ (if many = 1 then -1 else (dpt : Int)) = ((if many = 1 then 0 else dpt : Nat) : Int) ∧ (if many = 1 then 0 else dpt) ≤ 15 := by
  rcases hk with ⟨_, _, rfl⟩ | ⟨_, _, rfl⟩ | ⟨_, _, rfl⟩
  ·left; simp
  ·left; simp
  ·right; simp; omega
 have HDu := qd (dual_New tb gb each many (if many = 1 then 0 else dpt) (if many = 1 then -1 else (dpt : Int)) T hpe hcase w ht)
 have hmm : many = 1 ∨ many = 2 := by omega
 clear hcase
 have HN := qd (h)
 have Hmod := qd (Mod.refl [nb] w)
 clear h ht hk hok hg hpe
 rcases hmm with rfl | rfl
 ·simp only [if_true] at HDu ⊢
  unfold dualP at HDu
  go_enter Tryz.func63, Tryz.ntmps63
  obtain ⟨nc0, nc1, nc2, nc3, nc4⟩ := HN.out.c5
  go_wp2_with fail
  refine (HG.out).mono ?_
  rintro y w1 ⟨rfl, rfl⟩
  go_wp2_with fail
  refine (HC.out).mono ?_
  rintro y w1 ⟨rfl, rfl⟩
  go_wp2_with fail
  refine (HDu.out).mono ?_
  rintro y w1 ⟨db, rfl, hdu, hb⟩
  have hbsz := hb.size
  clear nc0 nc1 nc2 nc3 nc4
  replace HN := qd (HN.out.mod (Mod.of_below hb []) (by simp))
  have z101 := (hb).size
  replace Hmod := qd (Hmod.out.then (Mod.of_below hb _))
  clear hb HDu HG HC
  have HDu := qd hdu
  clear hdu
  obtain ⟨nc0, nc1, nc2, nc3, nc4⟩ := HN.out.c5
  obtain ⟨nf0, nf1, nf2, nf3, nf4⟩ := HN.out.f5
  go_upto_region 15 with fail
  have q102 := HN.out.lt
  have hnew := ((HN.out.set_ 3 (.int .i64 (kind : Int))).set_ 4 (.pointer (some ⟨db, 0, none⟩)))
  have hm := (((Mod.refl [nb] w1).sl 3 (.int .i64 (kind : Int))).sl 4 (.pointer (some ⟨db, 0, none⟩)))
  simp only [List.setIfInBounds_toArray, List.set_cons_zero, List.set_cons_succ] at hnew
  refine nameM hnew hm ?_
  clear hnew hm
  rintro w2 ⟨hnew, hm⟩
  have HDw := qd (HDu.out.mod hm (by intro k hk; simp at hk; omega))
  have z103 := (hm).size
  replace Hmod := qd (Hmod.out.tr hm)
  replace HN := qd hnew
  clear hnew hm
  go_wp2
  go_ret
  exact ⟨rfl, db, HN.out, HDw.out, Hmod.out⟩
 ·simp only [if_true, if_false, show (2 : Nat) ≠ 1 from by decide] at HDu ⊢
  unfold dualP at HDu
  have hd5 : ¬ (dpt : Int) ≥ 5 := by omega
  go_enter Tryz.func63, Tryz.ntmps63
  obtain ⟨nc0, nc1, nc2, nc3, nc4⟩ := HN.out.c5
  go_wp2_with fail
  refine (HG.out).mono ?_
  rintro y w1 ⟨rfl, rfl⟩
  go_wp2_with fail
  refine (HC.out).mono ?_
  rintro y w1 ⟨rfl, rfl⟩
  go_wp2_with fail
  refine (HDu.out).mono ?_
  rintro y w1 ⟨db, rfl, hdu, hb⟩
  have hbsz := hb.size
  clear nc0 nc1 nc2 nc3 nc4
  replace HN := qd (HN.out.mod (Mod.of_below hb []) (by simp))
  have z101 := (hb).size
  replace Hmod := qd (Hmod.out.then (Mod.of_below hb _))
  clear hb HDu HG HC
  have HDu := qd hdu
  clear hdu
  obtain ⟨nc0, nc1, nc2, nc3, nc4⟩ := HN.out.c5
  obtain ⟨nf0, nf1, nf2, nf3, nf4⟩ := HN.out.f5
  go_upto_region 15 with fail
  have q102 := HN.out.lt
  have hnew := ((HN.out.set_ 3 (.int .i64 (kind : Int))).set_ 4 (.pointer (some ⟨db, 0, none⟩)))
  have hm := (((Mod.refl [nb] w1).sl 3 (.int .i64 (kind : Int))).sl 4 (.pointer (some ⟨db, 0, none⟩)))
  simp only [List.setIfInBounds_toArray, List.set_cons_zero, List.set_cons_succ] at hnew
  refine nameM hnew hm ?_
  clear hnew hm
  rintro w2 ⟨hnew, hm⟩
  have HDw := qd (HDu.out.mod hm (by intro k hk; simp at hk; omega))
  have z103 := (hm).size
  replace Hmod := qd (Hmod.out.tr hm)
  replace HN := qd hnew
  clear hnew hm
  go_wp2
  go_ret
  exact ⟨rfl, db, HN.out, HDw.out, Hmod.out⟩
end
section
set_option maxRecDepth 100000
set_option maxHeartbeats 8000000
open Go.RowKit AmC
theorem mem_footM_t {db rb fb eb vb ob og : Nat} {bbs : List Nat} {bs : List (Nat × Nat)} {b : Nat × Nat} (h : b ∈ bs) : b.1 ∈ footM db rb fb eb vb ob og bbs bs ∧ b.2 ∈ footM db rb fb eb vb ob og bbs bs := by
 have h1 : b.1 ∈ flatB bs := mem_flatB.2 ⟨b, h, .inl rfl⟩
 have h2 : b.2 ∈ flatB bs := mem_flatB.2 ⟨b, h, .inr rfl⟩
 unfold footM
 simp only [List.mem_cons, List.mem_append]
 exact ⟨.inr (.inr (.inr (.inr (.inr (.inr (.inr (.inr h1))))))), .inr (.inr (.inr (.inr (.inr (.inr (.inr (.inr h2)))))))⟩
theorem node_End_one (nb tb db rb cap og fb fcap eb vb vcap t0 g0 : Nat) (bbs : List Nat) (pfx dpt job : Int) (T : TabM) (Ts : List TabM) (n depth next : Nat) (w : World) (h : Blk w nb 114 #[.int .i64 pfx, .int .i64 dpt, .pointer (some ⟨tb, 0, none⟩), .int .i64 job, .pointer (some ⟨db, 0, none⟩)]) (hdu : DuM w db rb cap tb og fb fcap eb vb vcap bbs [(t0, g0)] T Ts n depth next) (hg64 : T.gs.length ≤ 64) (hnx : next = T.gs.length) (hnf : ∀ q ∈ footM db rb fb eb vb tb og bbs [(t0, g0)], q ≠ nb) :
  Calls Tryz.prog 113 #[nodeP nb] w fun e w' => e = .returned (.tuple #[.pointer none, .nilIface]) ∧ Blk w' nb 114 #[.int .i64 pfx, .int .i64 dpt, .pointer (some ⟨t0, 0, none⟩), .int .i64 0, .pointer none] ∧ TabsAt w' [(t0, g0)] Ts ∧ Mod [nb, db] w w' := by
 have hnd := hdu.nd
 have hdl := hdu.blk.lt
 have HLf := qd (dual_Left_mov db rb cap tb og fb fcap eb vb vcap bbs [(t0, g0)] T Ts n depth next w hdu hg64 (by omega))
 have hz : T.gs.length - next = 0 := by omega
 rw [hz] at HLf
 have HDn := qd (node_Done_dual nb tb db pfx dpt job (fun w w' => w.drew = w') w h HLf.out)
 have HTk := qd (dual_Take db rb cap tb og fb fcap eb vb vcap bbs [(t0, g0)] T Ts n depth next w.drew (hdu.mod (Mod.drewN [] w 1) (by simp)) hg64 hnx)
 unfold nodeP at HDn
 unfold dualP at HTk
 unfold nodeP
 have hbn : ∀ b ∈ [(t0, g0)], b.1 ≠ nb ∧ b.2 ≠ nb := fun b hb => ⟨hnf _ (mem_footM_t hb).1, hnf _ (mem_footM_t hb).2⟩
 have hnl := h.lt
 have hdn : db ≠ nb := hnf _ (by simp [footM])
 clear hz HLf
 have HBn := qd hbn
 have HN := qd (h)
 have Hmod := qd (Mod.refl [nb, db] w)
 clear h hdu hnd hnx hg64 hnf
 go_enter Tryz.func113, Tryz.ntmps113
 go_wp2_with fail
 refine (HDn.out).mono ?_
 rintro y w1 ⟨rfl, rfl⟩
 clear HDn
 replace HN := qd (HN.out.mod (Mod.drewN [] w 1) (by simp))
 replace Hmod := qd (Hmod.out.then (Mod.drewN [nb, db] w 1))
 obtain ⟨w1, hw1⟩ : ∃ w1, w1 = w.drew := ⟨_, rfl⟩
 have hN1 := HN.out
 have hm1 := Hmod.out
 rw [show w.drewN 1 = w.drew from rfl, ← hw1] at hN1 hm1
 rw [← hw1] at HTk ⊢
 have hs1 : w.heap.size = w1.heap.size := by rw [hw1]; rfl
 clear HN Hmod hw1
 have HN := qd hN1
 have Hmod := qd hm1
 clear hN1 hm1
 obtain ⟨nc0, nc1, nc2, nc3, nc4⟩ := HN.out.c5
 go_wp2_with fail
 refine (HTk.out).mono ?_
 rintro x w2 ⟨rb2, c2, rfl, hrow, hrb2, hts, hm⟩
 clear nc0 nc1 nc2 nc3 nc4
 replace HN := qd (HN.out.mod hm (by simp <;> omega))
 have z1 := (hm).size
 replace Hmod := qd (Hmod.out.tr hm)
 clear hm
 clear HTk
 have r0 := hrow.at_ 0 t0 rfl
 have hrl := hrow.lt
 have hrn : rb2 ≠ nb := by omega
 have HTs := qd (hts)
 have HW := qd (hrow)
 clear hts hrow
 obtain ⟨nc0, nc1, nc2, nc3, nc4⟩ := HN.out.c5
 obtain ⟨nf0, nf1, nf2, nf3, nf4⟩ := HN.out.f5
 go_upto_region 7 with fail
 have q2 := HN.out.lt
 have q3 := HW.out.lt
 have hnew := (((HN.out.set_ 2 (.pointer (some ⟨t0, 0, none⟩))).set_ 3 (.int .i64 0)).set_ 4 (.pointer none))
 have hm := ((((Mod.refl [nb] w2).sl 2 (.pointer (some ⟨t0, 0, none⟩))).sl 3 (.int .i64 0)).sl 4 (.pointer none))
 simp only [List.setIfInBounds_toArray, List.set_cons_zero, List.set_cons_succ] at hnew
 refine nameM hnew hm ?_
 clear hnew hm
 rintro w3 ⟨hnew, hm⟩
 clear r0
 replace HTs := qd (HTs.out.mod hm (fun b hb => by have hh := HBn.out b hb; simp <;> omega))
 replace HW := qd (HW.out.mod hm (by simp <;> omega))
 have z4 := (hm).size
 replace Hmod := qd (Hmod.out.tr hm)
 replace HN := qd hnew
 clear hnew hm
 go_wp2
 refine bodyPost_ret (v := .tuple #[.pointer none, .nilIface]) (by simp [results, Tryz.results113, go_sem]) rfl ⟨rfl, HN.out, HTs.out, Hmod.out⟩
theorem node_End_two (nb tb db rb cap og fb fcap eb vb vcap t0 g0 t1 g1 : Nat) (bbs : List Nat) (pfx dpt job : Int) (T : TabM) (Ts : List TabM) (n depth next : Nat) (w : World) (h : Blk w nb 114 #[.int .i64 pfx, .int .i64 dpt, .pointer (some ⟨tb, 0, none⟩), .int .i64 job, .pointer (some ⟨db, 0, none⟩)]) (hdu : DuM w db rb cap tb og fb fcap eb vb vcap bbs [(t0, g0), (t1, g1)] T Ts n depth next) (hg64 : T.gs.length ≤ 64) (hnx : next = T.gs.length) (hnf : ∀ q ∈ footM db rb fb eb vb tb og bbs [(t0, g0), (t1, g1)], q ≠ nb) (hp : 0 ≤ pfx ∧ pfx ≤ 1000) (hd : 0 ≤ dpt ∧ dpt ≤ 1000) :
  Calls Tryz.prog 113 #[nodeP nb] w fun e w' => ∃ qb, e = .returned (.tuple #[nodeP qb, .nilIface]) ∧ Blk w' nb 114 #[.int .i64 (2 * pfx), .int .i64 (dpt + 1), .pointer (some ⟨t0, 0, none⟩), .int .i64 0, .pointer none] ∧ Blk w' qb 114 #[.int .i64 (2 * pfx + 1), .int .i64 (dpt + 1), .pointer (some ⟨t1, 0, none⟩), .int .i64 0, .pointer none] ∧ w.heap.size ≤ qb ∧ TabsAt w' [(t0, g0), (t1, g1)] Ts ∧ Mod [nb, db] w w' := by
 obtain ⟨p0, p1⟩ := hp
 obtain ⟨d0, d1⟩ := hd
 have hw1 : IntKind.i64.wrap (2 * pfx) = 2 * pfx := by rw [IntKind.wrap_i64]; omega
 have hw2 : IntKind.i64.wrap (dpt + 1) = dpt + 1 := by rw [IntKind.wrap_i64]; omega
 have hw3 : IntKind.i64.wrap (2 * pfx + 1) = 2 * pfx + 1 := by rw [IntKind.wrap_i64]; omega
 have hnd := hdu.nd
 have hdl := hdu.blk.lt
 have HLf := qd (dual_Left_mov db rb cap tb og fb fcap eb vb vcap bbs [(t0, g0), (t1, g1)] T Ts n depth next w hdu hg64 (by omega))
 have hz : T.gs.length - next = 0 := by omega
 rw [hz] at HLf
 have HDn := qd (node_Done_dual nb tb db pfx dpt job (fun w w' => w.drew = w') w h HLf.out)
 have HTk := qd (dual_Take db rb cap tb og fb fcap eb vb vcap bbs [(t0, g0), (t1, g1)] T Ts n depth next w.drew (hdu.mod (Mod.drewN [] w 1) (by simp)) hg64 hnx)
 unfold nodeP at HDn
 unfold dualP at HTk
 unfold nodeP
 have hbn : ∀ b ∈ [(t0, g0), (t1, g1)], b.1 ≠ nb ∧ b.2 ≠ nb := fun b hb => ⟨hnf _ (mem_footM_t hb).1, hnf _ (mem_footM_t hb).2⟩
 have hnl := h.lt
 have hdn : db ≠ nb := hnf _ (by simp [footM])
 clear hz HLf
 have HBn := qd hbn
 have HN := qd (h)
 have Hmod := qd (Mod.refl [nb, db] w)
 clear h hdu hnd hnx hg64 hnf
 go_enter Tryz.func113, Tryz.ntmps113
 go_wp2_with fail
 refine (HDn.out).mono ?_
 rintro y w1 ⟨rfl, rfl⟩
 clear HDn
 replace HN := qd (HN.out.mod (Mod.drewN [] w 1) (by simp))
 replace Hmod := qd (Hmod.out.then (Mod.drewN [nb, db] w 1))
 obtain ⟨w1, hw1⟩ : ∃ w1, w1 = w.drew := ⟨_, rfl⟩
 have hN1 := HN.out
 have hm1 := Hmod.out
 rw [show w.drewN 1 = w.drew from rfl, ← hw1] at hN1 hm1
 rw [← hw1] at HTk ⊢
 have hs1 : w.heap.size = w1.heap.size := by rw [hw1]; rfl
 clear HN Hmod hw1
 have HN := qd hN1
 have Hmod := qd hm1
 clear hN1 hm1
 obtain ⟨nc0, nc1, nc2, nc3, nc4⟩ := HN.out.c5
 go_wp2_with fail
 refine (HTk.out).mono ?_
 rintro x w2 ⟨rb2, c2, rfl, hrow, hrb2, hts, hm⟩
 clear nc0 nc1 nc2 nc3 nc4
 replace HN := qd (HN.out.mod hm (by simp <;> omega))
 have z1 := (hm).size
 replace Hmod := qd (Hmod.out.tr hm)
 clear hm
 clear HTk
 have r0 := hrow.at_ 0 t0 rfl
 have r1 := hrow.at_ 1 t1 rfl
 have hrl := hrow.lt
 have hrn : rb2 ≠ nb := by omega
 have HTs := qd (hts)
 have HW := qd (hrow)
 clear hts hrow
 obtain ⟨nc0, nc1, nc2, nc3, nc4⟩ := HN.out.c5
 obtain ⟨nf0, nf1, nf2, nf3, nf4⟩ := HN.out.f5
 go_upto_region 7 with fail
 have q2 := HN.out.lt
 have q3 := HW.out.lt
 have hnew := (((HN.out.set_ 2 (.pointer (some ⟨t0, 0, none⟩))).set_ 3 (.int .i64 0)).set_ 4 (.pointer none))
 have hm := ((((Mod.refl [nb] w2).sl 2 (.pointer (some ⟨t0, 0, none⟩))).sl 3 (.int .i64 0)).sl 4 (.pointer none))
 simp only [List.setIfInBounds_toArray, List.set_cons_zero, List.set_cons_succ] at hnew
 refine nameM hnew hm ?_
 clear hnew hm
 rintro w3 ⟨hnew, hm⟩
 clear r0 r1
 replace HTs := qd (HTs.out.mod hm (fun b hb => by have hh := HBn.out b hb; simp <;> omega))
 replace HW := qd (HW.out.mod hm (by simp <;> omega))
 have z4 := (hm).size
 replace Hmod := qd (Hmod.out.tr hm)
 replace HN := qd hnew
 clear hnew hm
 have r1 := HW.out.at_ 1 t1 rfl
 go_upto_region 9 with fail
 obtain ⟨nc0, nc1, nc2, nc3, nc4⟩ := HN.out.c5
 obtain ⟨nf0, nf1, nf2, nf3, nf4⟩ := HN.out.f5
 refine region_T (fun (w' : World) => w'.cell? ⟨nb, 0, none⟩ = some (.int .i64 pfx) ∧ w'.cell? ⟨nb, 1, none⟩ = some (.int .i64 dpt)) [14, 17] (by kernel_rfl) ?_
 try (change wpAnyT _ _ _ _ _ _ _ _ _ (World.drew _))
 have hHeld := (⟨nc0, nc1⟩ : _ ∧ _)
 refine tW 0 (some 36) (.pointer (some ⟨nb, 0, none⟩)) rfl hHeld ?_
 try simp only [pt]
 refine tW 1 (some 37) (.pointer (some ⟨nb, 0, none⟩)) rfl hHeld ?_
 try simp only [pt]
 refine tW 2 (some 38) (.pointer (some ⟨nb, 0, none⟩)) rfl hHeld ?_
 try simp only [pt]
 refine tW 3 (some 39) (.pointer (some ⟨nb, 0, none⟩)) rfl hHeld ?_
 try simp only [pt]
 refine tW 4 (some 40) (.pointer (some ⟨nb, 0, none⟩)) rfl hHeld ?_
 try simp only [pt]
 refine tT 5 (some 41) (.int .i64 pfx) rfl (by rintro w ⟨hh0, hh1⟩; go_simp) hHeld ?_
 try simp only [pt]
 refine tW 6 (some 42) (.int .i64 (2 * pfx)) rfl hHeld ?_
 try simp only [pt]
 refine tW 7 (some 43) (.pointer (some ⟨nb, 0, none⟩)) rfl hHeld ?_
 try simp only [pt]
 refine tW 8 (some 44) (.pointer (some ⟨nb, 0, none⟩)) rfl hHeld ?_
 try simp only [pt]
 refine tW 9 (some 45) (.pointer (some ⟨nb, 1, none⟩)) rfl hHeld ?_
 try simp only [pt]
 refine tT 10 (some 46) (.int .i64 dpt) rfl (by rintro w ⟨hh0, hh1⟩; go_simp) hHeld ?_
 try simp only [pt]
 refine tW 11 (some 47) (.int .i64 (dpt + 1)) rfl hHeld ?_
 try simp only [pt]
 refine tW 12 (some 48) (.pointer (some ⟨nb, 0, none⟩)) rfl hHeld ?_
 try simp only [pt]
 refine tW 13 (some 49) (.pointer (some ⟨nb, 0, none⟩)) rfl hHeld ?_
 try simp only [pt]
 refine nT 14 none rfl fun K hK => ?_
 go_simp
 refine hK.out _ _ (fun h => absurd (by decide) h) ?_
 clear hK K
 try simp only [pt]
 refine tL 15 (some 50) (.pointer (some ⟨nb, 0, none⟩)) rfl ?_
 try simp only [pt]
 refine tL 16 (some 51) (.pointer (some ⟨nb, 1, none⟩)) rfl ?_
 try simp only [pt]
 refine nT 17 none rfl fun K hK => ?_
 go_simp
 refine hK.out _ _ (fun h => absurd (by decide) h) ?_
 clear hK K
 try simp only [pt]
 refine doneT (by kernel_rfl) ?_ _
 have q5 := HN.out.lt
 have q6 := HW.out.lt
 have hnew := ((HN.out.set_ 0 (.int .i64 (2 * pfx))).set_ 1 (.int .i64 (dpt + 1))).drew
 have hm := ((((Mod.refl [nb] w3).sl 0 (.int .i64 (2 * pfx))).sl 1 (.int .i64 (dpt + 1))).then (Mod.drewN [nb] _ 1))
 simp only [List.setIfInBounds_toArray, List.set_cons_zero, List.set_cons_succ] at hnew
 refine nameM hnew hm ?_
 clear hnew hm
 rintro w4 ⟨hnew, hm⟩
 replace HTs := qd (HTs.out.mod hm (fun b hb => by have hh := HBn.out b hb; simp <;> omega))
 replace HW := qd (HW.out.mod hm (by simp <;> omega))
 have z7 := (hm).size
 replace Hmod := qd (Hmod.out.tr hm)
 replace HN := qd hnew
 clear hnew hm
 have r1 := HW.out.at_ 1 t1 rfl
 go_upto_region 10 with fail
 obtain ⟨nc0, nc1, nc2, nc3, nc4⟩ := HN.out.c5
 have q8 := HN.out.lt
 have q9 := HW.out.lt
 have z10 := Hmod.out.size
 refine region_T (fun (w' : World) => w'.cell? ⟨nb, 0, none⟩ = some (.int .i64 (2 * pfx)) ∧ w'.cell? ⟨nb, 1, none⟩ = some (.int .i64 (dpt + 1)) ∧ w'.cell? ⟨rb2, 1, none⟩ = some (.pointer (some ⟨t1, 0, none⟩))) [13] (by kernel_rfl) ?_
 try (change wpAnyT _ _ _ _ _ _ _ _ _ (World.drew _))
 have hHeld := (⟨nc0, nc1, r1⟩ : _ ∧ _ ∧ _)
 refine tW 0 (some 52) (.pointer (some ⟨nb, 0, none⟩)) rfl hHeld ?_
 try simp only [pt]
 refine tW 1 (some 53) (.pointer (some ⟨nb, 0, none⟩)) rfl hHeld ?_
 try simp only [pt]
 refine tW 2 (some 54) (.pointer (some ⟨nb, 0, none⟩)) rfl hHeld ?_
 try simp only [pt]
 refine tW 5 (some 57) (.pointer (some ⟨nb, 0, none⟩)) rfl hHeld ?_
 try simp only [pt]
 refine tW 6 (some 58) (.pointer (some ⟨nb, 0, none⟩)) rfl hHeld ?_
 try simp only [pt]
 refine tW 7 (some 59) (.pointer (some ⟨nb, 1, none⟩)) rfl hHeld ?_
 try simp only [pt]
 refine tT 8 (some 60) (.int .i64 (dpt + 1)) rfl (by rintro w ⟨hh0, hh1, hh2⟩; go_simp) hHeld ?_
 try simp only [pt]
 refine tW 9 (some 61) (.slice (some ⟨rb2, 0, none⟩) 2 c2) rfl hHeld ?_
 try simp only [pt]
 refine tW 10 (some 62) (.pointer (some ⟨rb2, 1, none⟩)) rfl hHeld ?_
 try simp only [pt]
 refine tT 11 (some 63) (.pointer (some ⟨t1, 0, none⟩)) rfl (by rintro w ⟨hh0, hh1, hh2⟩; go_simp) hHeld ?_
 try simp only [pt]
 refine nT 3 (some 55) rfl fun K hK => ?_
 go_simp
 refine hK.out _ _ (fun _ => hHeld) ?_
 clear hK K
 try simp only [pt]
 refine tW 4 (some 56) (.int .i64 (2 * pfx + 1)) rfl hHeld ?_
 try simp only [pt]
 refine tW 12 (some 64) (.agg #[.int .i64 (2 * pfx + 1), .int .i64 (dpt + 1), .pointer (some ⟨t1, 0, none⟩), .int .i64 0, .pointer none]) rfl hHeld ?_
 try simp only [pt]
 refine nT 13 (some 65) rfl fun K hK => ?_
 go_simp
 refine hK.out _ _ (fun h => absurd (by decide) h) ?_
 clear hK K
 try simp only [pt]
 refine tL 14 (some 2) (.pointer (some ⟨w4.heap.size, 0, none⟩)) rfl ?_
 try simp only [pt]
 refine tL 15 (some 3) .nilIface rfl ?_
 try simp only [pt]
 refine doneT (by kernel_rfl) ?_ _
 have q11 := HN.out.lt
 have q12 := HW.out.lt
 have z13 := Hmod.out.size
 refine nameW (F := fun v => Blk v w4.heap.size 114 #[.int .i64 (2 * pfx + 1), .int .i64 (dpt + 1), .pointer (some ⟨t1, 0, none⟩), .int .i64 0, .pointer none] ∧ Below w4.heap.size w4 v) ⟨(Blk.new w4 114 #[.int .i64 (2 * pfx + 1), .int .i64 (dpt + 1), .pointer (some ⟨t1, 0, none⟩), .int .i64 0, .pointer none]).drew, ((Below.refl w4.heap.size w4).alloc (Nat.le_refl _) (.cells #[.int .i64 (2 * pfx + 1), .int .i64 (dpt + 1), .pointer (some ⟨t1, 0, none⟩), .int .i64 0, .pointer none] 114)).drew⟩ ?_
 rintro w5 ⟨hnew, hb⟩
 obtain ⟨qb, hqb⟩ : ∃ qb, qb = w4.heap.size := ⟨_, rfl⟩
 rw [← hqb] at hnew ⊢
 replace hqb : w4.heap.size ≤ qb := by omega
 replace HN := qd (HN.out.mod (Mod.of_below hb []) (by simp))
 replace HTs := qd (HTs.out.mod (Mod.of_below hb []) (by simp))
 replace HW := qd (HW.out.mod (Mod.of_below hb []) (by simp))
 have z14 := (hb).size
 replace Hmod := qd (Hmod.out.then (Mod.of_below hb _))
 have HQ := qd (hnew)
 clear hnew hb
 go_wp2
 refine bodyPost_ret (v := .tuple #[.pointer (some ⟨qb, 0, none⟩), .nilIface]) (by simp [results, Tryz.results113, go_sem]) rfl ⟨qb, rfl, HN.out, HQ.out, by omega, HTs.out, Hmod.out⟩
end
end Go.Proofs.YtcgjgfgkdoohlaaGreatDoor
