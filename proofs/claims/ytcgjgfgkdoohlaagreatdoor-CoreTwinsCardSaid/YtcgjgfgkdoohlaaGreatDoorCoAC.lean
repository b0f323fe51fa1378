/- A table's Raw by its contract: groups in which nothing is prepared. -/
import Derived.Test.YtcgjgfgkdoohlaaGreatDoorCoEnv
import Derived.Test.YtcgjgfgkdoohlaaGreatDoorLaneP
import Derived.Test.YtcgjgfgkdoohlaaGreatDoorSqT
namespace Go.Proofs.YtcgjgfgkdoohlaaGreatDoor
section
set_option maxRecDepth 100000
set_option maxHeartbeats 4000000
open Go.RowKit AmC
theorem made_const {z : Array Value} {v : Value} {k : Nat} (hz : z = (List.replicate k v).toArray) (hk : 0 < k) (n : Nat) : madeCells z n = (List.replicate n v).toArray := by
 apply Array.toList_inj.1
 subst hz
 unfold madeCells
 rw [Array.toList_map]
 refine List.ext_getElem (by simp) fun i h1 h2 => ?_
 simp only [List.getElem_map, List.getElem_replicate]
 rw [getElem!_pos _ _ (by simp; exact Nat.mod_lt _ hk)]
 simp
def rawG : Grp := List.replicate 8 (.full ⟨0, 0, 0⟩)
theorem gCells_raw : gCells rawG = List.replicate 25 (.int .u64 0) := by rfl
theorem tabCells_raw : ∀ n, tabCells (List.replicate n rawG) = List.replicate (n * 25) (.int .u64 0)
 | 0 => rfl
 | n + 1 => by
  show gCells rawG ++ tabCells (List.replicate n rawG) = _
  rw [tabCells_raw n, gCells_raw, Nat.add_mul, Nat.add_comm, List.replicate_append_replicate]
def rawZ : Value := .agg #[.int .u64 0, .agg (Array.replicate 8 (.agg #[.int .u64 0, .int .u64 0, .int .u64 0]))]
theorem info_grp : (Tryz.prog.info? 167).map (fun i => (i.zero.map fun z => z.cells, i.size, i.bytes)) = some (some (List.replicate 25 (Value.int .u64 0)).toArray, 25, 200) := by kernel_rfl
theorem make_groups (n : Nat) (hn : n ≤ 64) (W : World) : (Instr.makeSlice 161 (.int .i64 (n : Int)) (.int .i64 (n : Int))).run Tryz.prog W = .ok (.slice (some ⟨W.heap.size, 0, none⟩) n n) (W.alloc (.cells (tabCells (List.replicate n rawG)).toArray 167)) := by
 have h := info_grp
 cases hi : Tryz.prog.info? 167 with
 | none => rw [hi] at h; cases h
 | some i =>
  rw [hi] at h
  simp only [Option.map_some, Option.some.injEq, Prod.mk.injEq, Option.map_eq_some_iff] at h
  obtain ⟨⟨z, hz, hc⟩, hs, hb⟩ := h
  have := run_makeSlice (P := Tryz.prog) (w := W) 161 167 i z Tryz.underlying161 hi hz .i64 .i64 (n : Int) (n : Int) (by omega) (Int.le_refl _) (by rw [hs]; omega) (by rw [hb]; omega) (by omega)
  rw [this, hs, Int.toNat_natCast, made_const hc (by omega), tabCells_raw]
theorem probe_Right_ok (n : Nat) (hn : Pw n) (w : World) : Calls Tryz.prog 133 #[.int .i64 (n : Int)] w fun e w' => e = .returned (.bool true) ∧ w = w' := by
 rcases hn with rfl | rfl | rfl | rfl | rfl | rfl | rfl
 all_goals
  go_in
  go_wp2
  go_ret
  exact ⟨rfl, rfl⟩
def rawT (n : Nat) : TabM := ⟨List.replicate n rawG, 0, 0⟩
theorem table_Raw (n : Nat) (hn : Pw n) (w : World) :
  Calls Tryz.prog 89 #[.int .i64 (n : Int)] w fun e w' => e = .returned (.tuple #[tabP (w.heap.size + 1), .nilIface]) ∧ TabAt w' (w.heap.size + 1) w.heap.size (rawT n) ∧ Below w.heap.size w w' := by
 have HR := qd (probe_Right_ok n hn w)
 have hle := hn.le
 have hpos := hn.pos
 have hmk := make_groups n hle w
 unfold tabP
 go_in
 go_wp2_with fail
 refine (HR.out).mono ?_
 rintro x w1 ⟨rfl, rfl⟩
 go_wp2
 refine bodyPost_ret (v := .tuple #[.pointer (some ⟨w.heap.size + 1, 0, none⟩), .nilIface]) (by simp [results, Tryz.results89, go_sem]) rfl ⟨rfl, ⟨fun G hG => ?_, ?_, ?_, by omega⟩, ?_⟩
 ·rw [(List.mem_replicate.1 hG).2]; rfl
 ·have := Blk.new (w.alloc (.cells (tabCells (List.replicate n rawG)).toArray 167)) 163 #[.slice (some ⟨w.heap.size, 0, none⟩) n n, .int .i64 0, .int .i64 0]
  rw [World.size_alloc] at this
  simpa [rawT] using this
 ·exact (Blk.new w 167 (tabCells (List.replicate n rawG)).toArray).alloc _
 ·exact ((Below.refl _ _).alloc (Nat.le_refl _) _).alloc (by simp) _
end
section
set_option maxRecDepth 100000
set_option maxHeartbeats 4000000
open Go.RowKit AmC
def emptyG : Grp := List.replicate 8 .empty
def prepG (n k : Nat) : Tab := List.replicate k emptyG ++ List.replicate (n - k) rawG
theorem prepG_all (n : Nat) : prepG n n = bare n := by unfold prepG; rw [Nat.sub_self]; simp [bare, emptyG]
theorem prepG_length {n k : Nat} (h : k ≤ n) : (prepG n k).length = n := by simp [prepG]; omega
theorem prepG_set {n k : Nat} (h : k < n) : (prepG n k).set k emptyG = prepG n (k + 1) := by
 unfold prepG
 rw [List.set_append_right _ _ (by simp), List.length_replicate, Nat.sub_self, show n - k = (n - (k + 1)) + 1 by omega, List.replicate_succ, List.set_cons_zero, List.replicate_succ', List.append_assoc]; rfl
def prepT (n k : Nat) : TabM := ⟨prepG n k, 0, 0⟩
theorem prep_ok {n : Nat} (hn : Pw n) : TOk (prepT n n) := by
 have h := (inv_bare hn)
 refine ⟨?_, ?_, ?_, ?_⟩
 ·show Wide (prepG n n); rw [prepG_all]; exact h.wide
 ·show Pw (prepG n n).length; rw [prepG_length (Nat.le_refl _)]; exact hn
 ·show (0 : Int) = ((entsT (prepG n n)).length : Int)
  rw [prepG_all]
  have : entsT (bare n) = [] := List.eq_nil_iff_forall_not_mem.2 fun e he => by obtain ⟨i, s, hh⟩ := mem_entsT.1 he; rw [slotAt_bare] at hh; cases hh
  rw [this]; rfl
 ·show (0 : Int) = (tombsT (prepG n n) : Int)
  rw [prepG_all]
  have : ∀ n, tombsT (bare n) = 0 := fun n => by
   induction n with
   | zero => rfl
   | succ k ih => show tombsT (List.replicate 8 Slot.empty :: bare k) = 0; rw [tombsT_cons, ih]; rfl
  rw [this]; rfl
theorem table_New (n : Nat) (hn : Pw n) (w : World) :
  Calls Tryz.prog 56 #[.int .i64 (n : Int)] w fun e w' => ∃ tb gb, w.heap.size ≤ tb ∧ w.heap.size ≤ gb ∧ e = .returned (.tuple #[tabP tb, .nilIface]) ∧ TabAt w' tb gb (prepT n n) ∧ Below w.heap.size w w' := by
 have hle := hn.le
 have hpos := hn.pos
 have HRaw := qd (table_Raw n hn w)
 unfold tabP at HRaw ⊢
 go_in
 go_upto_region 1 with fail
 go_wp2_with fail
 refine (HRaw.out).mono ?_
 rintro x w1 ⟨rfl, hT1, hb1⟩
 obtain ⟨tb, htb⟩ : ∃ tb, tb = w.heap.size + 1 := ⟨_, rfl⟩
 obtain ⟨gb, hgb⟩ : ∃ gb, gb = w.heap.size := ⟨_, rfl⟩
 rw [← htb] at hT1 ⊢
 rw [← hgb] at hT1
 replace htb : w.heap.size ≤ tb := by omega
 replace hgb : w.heap.size ≤ gb := by omega
 clear HRaw
 obtain ⟨c0, c1, c2⟩ := hT1.cells
 have hln : (rawT n).gs.length = n := by simp [rawT]
 rw [hln] at c0
 have HT := qd (show TabAt w1 tb gb (prepT n 0) from hT1)
 have Hmod := qd hb1
 clear hT1 hb1 hln
 go_wp2
 go_loopw [6, 20] (fun _ i wr => ∃ k : Nat, k ≤ n ∧ i = .int .i64 k ∧ TabAt wr tb gb (prepT n k) ∧ Below w.heap.size w wr) (fun _ i _ => n - (intOf i).toNat)
 case atStart => exact ⟨0, by omega, rfl, HT.out, Hmod.out⟩
 case round =>
  clear HT Hmod c0 c1 c2
  obtain ⟨k, hk, rfl, hT, hm⟩ := hrel
  by_cases hlt : k < n
  ·have hlt' : (k : Int) < (n : Int) := by omega
   have hk0 : (0 : Int) ≤ (k : Int) := by omega
   obtain ⟨c0, c1, c2⟩ := hT.cells
   have hln : (prepT n k).gs.length = n := prepG_length hk
   rw [hln] at c0
   have htl := hT.ltT
   have hgl := hT.ltG
   have HLk := qd (group_Look_nil ⟨gb, k * 25, none⟩ ⟨0, 0, 0⟩ wr)
   have HG := qd (hT.group k (by rw [hln]; exact hlt))
   have HT := qd hT
   have Hm := qd hm
   have HS := qd (prepG_set hlt)
   unfold lensV viewV at HLk
   clear hT hm hln
   go_wp2_with fail
   refine (HLk.out).mono ?_
   rintro x w2 ⟨rfl, hb2⟩
   have HCl := qd (grp_Clear gb 167 _ _ (k * 25) _ w2 (HG.out.below hb2))
   have HT2 := qd (HT.out.below hb2)
   have Hm2 := qd (Hm.out.trans (hb2.mono Hm.out.size))
   unfold viewV at HCl
   clear hb2 HT Hm HG HLk
   go_wp2_with fail
   refine (HCl.out).mono ?_
   rintro x w3 ⟨rfl, hG3, hm3⟩
   have HT3 := qd (HT2.out.set_group k (by rw [show (prepT n k).gs.length = n from prepG_length hk]; exact hlt) hm3 hG3)
   have Hm3 := qd (Hm2.out.trans (hm3.below (B := w.heap.size) (by intro j hj; simp at hj; omega) Hm2.out.size))
   clear HT2 Hm2 hG3 hm3
   go_wp2
   go_roundw
   case rel => exact ⟨k + 1, by omega, by go_num, by have := HT3.out; unfold prepT at this ⊢; rw [← HS.out]; exact this, Hm3.out⟩
   case measure => simp [intOf]; omega
  ·obtain rfl : k = n := by omega
   have hlt' : ¬ (k : Int) < (k : Int) := by omega
   go_wp2
   refine bodyPost_ret (v := .tuple #[.pointer (some ⟨tb, 0, none⟩), .nilIface]) (by simp [results, Tryz.results56, go_sem]) rfl (by first | exact ⟨tb, gb, htb, hgb, rfl, hT, hm⟩ | exact ⟨tb, htb, gb, hgb, rfl, hT, hm⟩)
end
section
set_option maxRecDepth 100000
set_option maxHeartbeats 8000000
open Go.RowKit AmC
variable {j k : Nat} {es : List Ent} {e : Ent}
theorem take_nx {α : Type} {l : List α} {y : α} (h : l[k]? = some y) : l.take (k + 1) = l.take k ++ [y] := by rw [List.take_add_one, h]; rfl
def leastStep (f : Ent) (o : Option Ent) (e : Ent) : Option Ent := if !lessE e f && (match o with | none => true | some b => lessE e b) then some e else o
def leastL (f : Ent) (o : Option Ent) (es : List Ent) : Option Ent := es.foldl (leastStep f) o
theorem leastL_snoc (f : Ent) (o : Option Ent) (h : es[j]? = some e) : leastL f o (es.take (j + 1)) = leastStep f (leastL f o (es.take j)) e := by
 unfold leastL; rw [take_nx h, List.foldl_append]; rfl
theorem leastL_group (f : Ent) (gs : Tab) (hk : k < gs.length) : leastL f none (entsT (gs.take (k + 1))) = leastL f (leastL f none (entsT (gs.take k))) (entsG (gs.getD k [])) := by
 have h : gs[k]? = some (gs.getD k []) := by rw [List.getD_eq_getElem?_getD, List.getElem?_eq_getElem hk]; rfl
 rw [take_nx h]
 unfold leastL entsT
 rw [List.flatMap_append, List.foldl_append]; simp
def optCells (o : Option Ent) : Array Value := (entCells (o.getD ⟨0, 0, 0⟩)).toArray
theorem ent_cells {w : World} {base n c : Nat} {A : Option Addr} (h : w.ownsRow base 37 3 (.slice A n c) n (es.flatMap entCells)) (he : es[j]? = some e) :
  ∃ g, A = some ⟨g, 0, none⟩ ∧ base ≤ g ∧ w.cell? ⟨g, j * 3, none⟩ = some (.int .u64 (e.key : Int)) ∧ w.cell? ⟨g, j * 3 + 1, none⟩ = some (.int .u64 (e.val : Int)) ∧ w.cell? ⟨g, j * 3 + 2, none⟩ = some (.int .u64 (e.hash : Int)) ∧ j < n := by
 have hl := h.1
 rw [ents_length] at hl
 obtain ⟨hj, _⟩ := List.getElem?_eq_some_iff.1 he
 have hjn : j < n := by omega
 rcases h.2 with hn | ⟨g, cap, cur, hv, hb, hg, h1, h2, h3, h4⟩
 ·omega
 ·cases hv
  refine ⟨g, rfl, hb, ?_⟩
  have hs : es.flatMap entCells = (es.take j).flatMap entCells ++ (entCells e ++ (es.drop (j + 1)).flatMap entCells) := by
   conv => lhs; rw [← List.take_append_drop j es, List.drop_eq_getElem?_toList_append, he]
   simp
  have hlt : ((es.take j).flatMap entCells).length = j * 3 := by rw [ents_length, List.length_take]; omega
  have hc : ∀ q, q < 3 → w.cell? ⟨g, j * 3 + q, none⟩ = (entCells e)[q]? := fun q hq => by
   have := h.cellAt (j * 3 + q) (by omega)
   rw [this, hs, List.getElem?_append_right (by omega), hlt, Nat.add_sub_cancel_left, List.getElem?_append_left (by simpa [entCells] using hq)]
  exact ⟨hc 0 (by omega), hc 1 (by omega), hc 2 (by omega), hjn⟩
theorem table_Least {W0 : World} {E : Nat → Addr} (tb gb : Nat) (T : TabM) (P : MP) (x : Mtr) (c : Cnt) (hash key : Nat) (hok : T.gs.length ≤ 64) (w : World) (h : TabAt w tb gb T) (hM : MetP w P x) (hE : Env W0 E w) (hmt : P.mb ≠ tb) (hmg : P.mb ≠ gb) (hb0 : W0.heap.size ≤ P.mb) :
  Calls Tryz.prog 131 #[tabP tb, lensV (some ⟨P.mb, P.mo, none⟩) c, .int .u64 (hash : Int), .int .u64 (key : Int)] w fun e w' => e = .returned (optE (leastL ⟨key, 0, hash⟩ none (entsT T.gs))) ∧ MetP w' P (x.add c T.gs.length) ∧ Mod [P.mb] w w' := by
 obtain ⟨n, hn⟩ : ∃ n, n = T.gs.length := ⟨_, rfl⟩
 obtain ⟨fr, hfr⟩ : ∃ fr : Ent, fr = ⟨key, 0, hash⟩ := ⟨_, rfl⟩
 rw [← hfr, ← hn]
 obtain ⟨W, hW, hB, hL, hR, hF, hO⟩ := qX4 w 89 #[.pointer (some ⟨P.mb, P.mo, none⟩), .int .i64 c.p, .int .i64 c.v, .int .i64 c.u] 37 #[.int .u64 0, .int .u64 0, .int .u64 0] 37 #[.int .u64 (key : Int), .int .u64 0, .int .u64 (hash : Int)] 37 #[.int .u64 0, .int .u64 0, .int .u64 0]
 have hml := hM.lt
 have htl := h.ltT
 have hgl := h.ltG
 have hB0 := hE.size
 have HW := qd hW
 have hnm : n ≤ 64 := by rw [hn]; exact hok
 obtain ⟨tc0, tc1, tc2⟩ := (h.below hB).cells
 rw [← hn] at tc0
 unfold tabP lensV optE entV
 have HT := qd (h.below hB)
 have HV0 := qd (hE.next hB)
 have HM := qd (show MetP W P (x.add c 0) from hM.below hB)
 have HL := qd (hL)
 have HR := qd (hR)
 have HF := qd (hF)
 have HO := qd (show Blk W _ _ (optCells (leastL fr none (entsT (T.gs.take 0)))) from hO)
 have Hmod := qd (Mod.of_below hB [P.mb])
 have z1 := Hmod.out.size
 obtain ⟨lb, hlb⟩ : ∃ lb, lb = w.heap.size := ⟨_, rfl⟩
 obtain ⟨rb, hrb⟩ : ∃ rb, rb = w.heap.size + 1 := ⟨_, rfl⟩
 obtain ⟨fb, hfb⟩ : ∃ fb, fb = w.heap.size + 1 + 1 := ⟨_, rfl⟩
 obtain ⟨ob, hob⟩ : ∃ ob, ob = w.heap.size + 1 + 1 + 1 := ⟨_, rfl⟩
 clear hW hB h hM hL hE hR hF hO
 go_in
 go_upto_region 3 with fail
 rw [← HW.out, ← hob, ← hfb, ← hrb, ← hlb]
 rw [← hlb] at HL
 rw [← hrb] at HR
 rw [← hfb] at HF
 rw [← hob] at HO
 have n1 : lb < rb := by omega
 have n2 : rb < fb := by omega
 have n3 : fb < ob := by omega
 have n4 : P.mb < lb := by omega
 have n5 : tb < lb := by omega
 have n6 : gb < lb := by omega
 have n7 : W0.heap.size ≤ lb := by omega
 have n8 : w.heap.size ≤ lb := by omega
 clear hlb hrb hfb hob HW
 have HN := qd hn
 have HFR := qd hfr
 have HFC := qd (show (#[.int .u64 (key : Int), .int .u64 0, .int .u64 (hash : Int)] : Array Value) = #[.int .u64 ((fr).key : Int), .int .u64 ((fr).val : Int), .int .u64 ((fr).hash : Int)] from by rw [hfr]; rfl)
 clear hfr hn
 go_wp2
 clear tc0 tc1 tc2
 go_loopw [12, 13, 15, 24] (fun v12 _ _ i wr => ∃ k : Nat, k ≤ n ∧ i = .int .i64 k ∧ v12 = .bool (leastL fr none (entsT (T.gs.take k))).isSome ∧ MetP wr P (x.add c k) ∧ Blk wr ob 37 (optCells (leastL fr none (entsT (T.gs.take k)))) ∧ TabAt wr tb gb T ∧ Env W0 E wr ∧ Blk wr lb 89 #[.pointer (some ⟨P.mb, P.mo, none⟩), .int .i64 c.p, .int .i64 c.v, .int .i64 c.u] ∧ Blk wr rb 37 #[.int .u64 0, .int .u64 0, .int .u64 0] ∧ Blk wr fb 37 #[.int .u64 ((fr).key : Int), .int .u64 ((fr).val : Int), .int .u64 ((fr).hash : Int)] ∧ Mod [P.mb] w wr) (fun _ _ _ i _ => n - (intOf i).toNat)
 case atStart => exact ⟨0, by omega, rfl, rfl, HM.out, HO.out, HT.out, HV0.out, HL.out, HR.out, HFC.out ▸ HF.out, Hmod.out⟩
 case round =>
  clear HM HO HT HV0 HL HR HF Hmod
  obtain ⟨k, hk, rfl, rfl, hM, hO, hT, hE, hL, hR, hF, hm⟩ := hrel
  by_cases hlt : k < n
  ·have hlt' : (k : Int) < (n : Int) := by omega
   have hk0 : (0 : Int) ≤ (k : Int) := by omega
   have hkT : k < T.gs.length := by rw [← HN.out]; exact hlt
   have HT := qd (hT)
   have HM := qd (hM)
   have HV0 := qd (hE)
   have HO := qd (hO)
   have HL := qd (hL)
   have HR := qd (hR)
   have HF := qd (hF)
   have Hmod := qd (hm)
   clear hT hM hE hO hL hR hF hm
   obtain ⟨o, ho⟩ : ∃ o, o = leastL fr none (entsT (T.gs.take k)) := ⟨_, rfl⟩
   rw [← ho] at HO ⊢
   have HOo := qd ho
   clear ho
   obtain ⟨G, hG⟩ : ∃ G, G = T.gs.getD k [] := ⟨_, rfl⟩
   have HGe := qd hG
   clear hG
   have tc0 := HT.out.cells.1
   rw [← HN.out] at tc0
   have lc := HL.out.c4
   go_upto_region 7 with fail
   have z1 := qJ Hmod.out.size (qJ HT.out.ltT (qJ HT.out.ltG (qJ HM.out.lt (qJ HO.out.lt (qJ HL.out.lt (qJ HR.out.lt HF.out.lt))))))
   have HLk := qd (group_Look ⟨gb, k * 25, none⟩ P.mb P.mt P.pre P.post P.mo (x.add c k).all (x.add c k).last P.m c wr.drew (HM.out.below (Below.refl _ _).drew))
   unfold lensV at HLk
   refine region_T (fun (w' : World) => w'.cell? ⟨tb, 0, none⟩ = some (.slice (some ⟨gb, 0, none⟩) n n) ∧ w'.cell? ⟨lb, 0, none⟩ = some (.pointer (some ⟨P.mb, P.mo, none⟩)) ∧ w'.cell? ⟨lb, 1, none⟩ = some (.int .i64 c.p) ∧ w'.cell? ⟨lb, 2, none⟩ = some (.int .i64 c.v) ∧ w'.cell? ⟨lb, 3, none⟩ = some (.int .i64 c.u)) [] (by kernel_rfl) ?_
   try (change wpAnyT _ _ _ _ _ _ _ _ _ (World.drew _))
   have hHeld := (⟨tc0, lc.1, lc.2.1, lc.2.2.1, lc.2.2.2⟩ : _ ∧ _ ∧ _ ∧ _ ∧ _)
   refine vW 0 rfl ?_
   refine vW 1 rfl ?_
   refine vW 2 rfl ?_
   refine vT 3 rfl ?_
   refine vW 4 rfl ?_
   refine vW 5 rfl ?_
   refine vT 6 rfl ?_
   refine vW 10 rfl ?_
   refine nT 7 rfl fun K hK => ?_
   go_simp
   refine (HLk.out).mono ?_
   rintro y w1 ⟨rfl, hM1, hm⟩
   replace hm : Mod [P.mb] wr w1 := (Mod.drewN [P.mb] wr 1).then hm
   clear HLk HM tc0 lc
   replace HT := qM hm HT
   replace HV0 := qM hm HV0
   replace HO := qM hm HO
   replace HL := qM hm HL
   replace HR := qM hm HR
   replace HF := qM hm HF
   have z9 := (hm).size
   replace Hmod := qU Hmod hm
   have HM := qd (show MetP w1 P (x.add c (k + 1)) from hM1)
   clear hM1 hm
   unfold viewV
   have tc0 := HT.out.cells.1
   rw [← HN.out] at tc0
   have lc := HL.out.c4
   have HEn := qd (grp_Entries gb 167 _ _ (k * 25) _ w1 (HT.out.group k hkT) HV0.out.tz)
   rw [← HGe.out] at HEn
   unfold viewV at HEn
   go_simp
   have hHeld := (⟨tc0, lc.1, lc.2.1, lc.2.2.1, lc.2.2.2⟩ : _ ∧ _ ∧ _ ∧ _ ∧ _)
   refine kO hK ?_
   clear hK K
   refine nT 8 rfl fun K hK => ?_
   go_simp
   refine (HEn.out).mono ?_
   rintro y w2 ⟨A, cc, rfl, hOw, hb⟩
   clear tc0 lc
   replace HT := qB hb HT
   replace HV0 := qB hb HV0
   replace HO := qB hb HO
   replace HL := qB hb HL
   replace HR := qB hb HR
   replace HF := qB hb HF
   replace HM := qB hb HM
   have z10 := (hb).size
   replace Hmod := qT Hmod hb
   have HOw := qd (hOw)
   clear hOw hb HEn
   have tc0 := HT.out.cells.1
   rw [← HN.out] at tc0
   have lc := HL.out.c4
   go_simp
   have hHeld := (⟨tc0, lc.1, lc.2.1, lc.2.2.1, lc.2.2.2⟩ : _ ∧ _ ∧ _ ∧ _ ∧ _)
   refine kO hK ?_
   clear hK K
   refine vW 9 rfl ?_
   refine doneT (by kernel_rfl) ?_ _
   obtain ⟨es, hes⟩ : ∃ es, es = entsG G := ⟨_, rfl⟩
   rw [← hes] at HOw ⊢
   have hes8 : es.length ≤ 8 := by have h1 := grp_count G; have h2 := HT.out.wide.at_ hkT; rw [← HGe.out] at h2; rw [hes]; omega
   have HEs := qd hes
   clear hes
   have z11 := Hmod.out.size
   go_wp2
   clear tc0 lc
   go_loopw [12, 15, 37] (fun v12 _ i wr => ∃ j : Nat, j ≤ es.length ∧ i = .int .i64 j ∧ v12 = .bool (leastL fr o (es.take j)).isSome ∧ Blk wr ob 37 (optCells (leastL fr o (es.take j))) ∧ TabAt wr tb gb T ∧ Env W0 E wr ∧ Blk wr lb 89 #[.pointer (some ⟨P.mb, P.mo, none⟩), .int .i64 c.p, .int .i64 c.v, .int .i64 c.u] ∧ Blk wr rb 37 #[.int .u64 0, .int .u64 0, .int .u64 0] ∧ Blk wr fb 37 #[.int .u64 ((fr).key : Int), .int .u64 ((fr).val : Int), .int .u64 ((fr).hash : Int)] ∧ Mod [P.mb] w wr ∧ MetP wr P (x.add c (k + 1)) ∧ wr.ownsRow w1.heap.size 37 3 (.slice A es.length cc) es.length (es.flatMap entCells)) (fun _ _ i _ => es.length - (intOf i).toNat)
   case atStart => exact ⟨0, by omega, rfl, rfl, HO.out, HT.out, HV0.out, HL.out, HR.out, HF.out, Hmod.out, HM.out, HOw.out⟩
   case round =>
    clear HM HO HT HV0 HL HR HF Hmod HOw
    obtain ⟨j, hj, rfl, rfl, hO, hT, hE, hL, hR, hF, hm, hM, hOw⟩ := hrel
    by_cases hlt2 : j < es.length
    ·have hlt2' : (j : Int) < (es.length : Int) := by omega
     have hj0 : (0 : Int) ≤ (j : Int) := by omega
     obtain ⟨e, he⟩ : ∃ e, es[j]? = some e := ⟨_, List.getElem?_eq_getElem hlt2⟩
     obtain ⟨g, rfl, hgb, k0, k1, k2, hjn⟩ := ent_cells hOw he
     have HSn := qd (leastL_snoc fr o he)
     clear he hjn
     have HT := qd (hT)
     have HM := qd (hM)
     have HV0 := qd (hE)
     have HO := qd (hO)
     have HL := qd (hL)
     have HR := qd (hR)
     have HF := qd (hF)
     have HOw := qd (hOw)
     have Hmod := qd (hm)
     clear hT hM hE hO hL hR hF hm hOw
     obtain ⟨o2, ho2⟩ : ∃ o2, o2 = leastL fr o (es.take j) := ⟨_, rfl⟩
     rw [← ho2] at HO HSn ⊢
     clear ho2
     go_upto_region 10 with fail
     have z1 := qJ Hmod.out.size (qJ HT.out.ltT (qJ HT.out.ltG (qJ HM.out.lt (qJ HO.out.lt (qJ HL.out.lt (qJ HR.out.lt (qJ HF.out.lt Hmod.out.size)))))))
     refine nameB 37 #[.int .u64 ((e).key : Int), .int .u64 ((e).val : Int), .int .u64 ((e).hash : Int)] ?_
     rintro w3 ⟨hnew, hb⟩
     obtain ⟨xb, hxb⟩ : ∃ xb, xb = wr.heap.size := ⟨_, rfl⟩
     rw [← hxb] at hnew ⊢
     replace hxb : wr.heap.size ≤ xb := by omega
     clear k0 k1 k2
     replace HT := qB hb HT
     replace HM := qB hb HM
     replace HV0 := qB hb HV0
     replace HO := qB hb HO
     replace HL := qB hb HL
     replace HR := qB hb HR
     replace HF := qB hb HF
     replace HOw := qB hb HOw
     have z10 := (hb).size
     replace Hmod := qT Hmod hb
     have HX := qd (hnew)
     clear hnew hb
     cases hl : lessE e fr with
     | true =>
      have HLs := qd (split_Less e fr w3)
      rw [hl] at HLs
      unfold entV at HLs
      replace HSn := qd (show leastL fr o (es.take (j + 1)) = o2 from by rw [HSn.out]; unfold leastStep; rw [hl]; simp)
      clear hl
      have xc := HX.out.c3
      have fc := HF.out.c3
      go_wp2_with fail
      refine (HLs.out).mono ?_
      rintro x w4 ⟨rfl, hb⟩
      clear xc fc
      replace HT := qB hb HT
      replace HM := qB hb HM
      replace HV0 := qB hb HV0
      replace HO := qB hb HO
      replace HL := qB hb HL
      replace HR := qB hb HR
      replace HF := qB hb HF
      replace HOw := qB hb HOw
      replace HX := qB hb HX
      have z901 := (hb).size
      replace Hmod := qT Hmod hb
      clear hb
      go_wp2
      go_roundw
      case rel => exact ⟨j + 1, by omega, by go_num, by rw [HSn.out] <;> rfl, by rw [HSn.out]; exact HO.out, HT.out, HV0.out, HL.out, HR.out, HF.out, Hmod.out, HM.out, HOw.out⟩
      case measure => simp [intOf]; omega
     | false =>
      cases o2 with
      | none =>
       replace HO := qd (show Blk w3 ob 37 #[.int .u64 0, .int .u64 0, .int .u64 0] from HO.out)
       have HLs := qd (split_Less e fr w3)
       rw [hl] at HLs
       unfold entV at HLs
       replace HSn := qd (show leastL fr o (es.take (j + 1)) = some e from by rw [HSn.out]; unfold leastStep; rw [hl]; rfl)
       clear hl
       have xc := HX.out.c3
       have fc := HF.out.c3
       go_wp2_with fail
       refine (HLs.out).mono ?_
       rintro x w4 ⟨rfl, hb⟩
       clear xc fc
       replace HT := qB hb HT
       replace HM := qB hb HM
       replace HV0 := qB hb HV0
       replace HO := qB hb HO
       replace HL := qB hb HL
       replace HR := qB hb HR
       replace HF := qB hb HF
       replace HOw := qB hb HOw
       replace HX := qB hb HX
       have z901 := (hb).size
       replace Hmod := qT Hmod hb
       clear hb
       have xc := HX.out.c3
       have oc := HO.out.c3
       have of := HO.out.f3
       go_upto_region 12 with fail
       have q902 := qJ HT.out.ltT (qJ HT.out.ltG (qJ HM.out.lt (qJ HO.out.lt (qJ HL.out.lt (qJ HR.out.lt (qJ HF.out.lt HX.out.lt))))))
       refine qS3 HO.out ?_
       rintro w6 ⟨hnew, hm⟩
       simp only [pt] at hnew
       replace HT := qM hm HT
       replace HM := qM hm HM
       replace HV0 := qM hm HV0
       replace HL := qM hm HL
       replace HR := qM hm HR
       replace HF := qM hm HF
       replace HOw := qM hm HOw
       replace HX := qM hm HX
       have z910 := (hm).size
       replace Hmod := qU Hmod hm
       replace HO := qd hnew
       clear hnew hm
       go_wp2
       go_roundw
       case rel => exact ⟨j + 1, by omega, by go_num, by rw [HSn.out] <;> rfl, by rw [HSn.out]; exact HO.out, HT.out, HV0.out, HL.out, HR.out, HF.out, Hmod.out, HM.out, HOw.out⟩
       case measure => simp [intOf]; omega
      | some b =>
       cases hlb : lessE e b with
       | true =>
        replace HO := qd (show Blk w3 ob 37 #[.int .u64 ((b).key : Int), .int .u64 ((b).val : Int), .int .u64 ((b).hash : Int)] from HO.out)
        have HLs := qd (split_Less e fr w3)
        rw [hl] at HLs
        unfold entV at HLs
        replace HSn := qd (show leastL fr o (es.take (j + 1)) = some e from by rw [HSn.out]; unfold leastStep; rw [hl]; simp [hlb])
        have HLb := qd (fun V : World => split_Less e b V)
        rw [hlb] at HLb
        unfold entV at HLb
        clear hlb hl
        have xc := HX.out.c3
        have fc := HF.out.c3
        go_wp2_with fail
        refine (HLs.out).mono ?_
        rintro x w4 ⟨rfl, hb⟩
        clear xc fc
        replace HT := qB hb HT
        replace HM := qB hb HM
        replace HV0 := qB hb HV0
        replace HO := qB hb HO
        replace HL := qB hb HL
        replace HR := qB hb HR
        replace HF := qB hb HF
        replace HOw := qB hb HOw
        replace HX := qB hb HX
        have z901 := (hb).size
        replace Hmod := qT Hmod hb
        clear hb
        have xc := HX.out.c3
        have oc := HO.out.c3
        go_wp2_with fail
        refine ((HLb.out w4)).mono ?_
        rintro x w5 ⟨rfl, hb⟩
        clear xc oc
        replace HT := qB hb HT
        replace HM := qB hb HM
        replace HV0 := qB hb HV0
        replace HO := qB hb HO
        replace HL := qB hb HL
        replace HR := qB hb HR
        replace HF := qB hb HF
        replace HOw := qB hb HOw
        replace HX := qB hb HX
        have z902 := (hb).size
        replace Hmod := qT Hmod hb
        clear hb
        have xc := HX.out.c3
        have oc := HO.out.c3
        have of := HO.out.f3
        go_upto_region 12 with fail
        have q903 := qJ HT.out.ltT (qJ HT.out.ltG (qJ HM.out.lt (qJ HO.out.lt (qJ HL.out.lt (qJ HR.out.lt (qJ HF.out.lt HX.out.lt))))))
        refine qS3 HO.out ?_
        rintro w6 ⟨hnew, hm⟩
        simp only [pt] at hnew
        replace HT := qM hm HT
        replace HM := qM hm HM
        replace HV0 := qM hm HV0
        replace HL := qM hm HL
        replace HR := qM hm HR
        replace HF := qM hm HF
        replace HOw := qM hm HOw
        replace HX := qM hm HX
        have z911 := (hm).size
        replace Hmod := qU Hmod hm
        replace HO := qd hnew
        clear hnew hm
        go_wp2
        go_roundw
        case rel => exact ⟨j + 1, by omega, by go_num, by rw [HSn.out] <;> rfl, by rw [HSn.out]; exact HO.out, HT.out, HV0.out, HL.out, HR.out, HF.out, Hmod.out, HM.out, HOw.out⟩
        case measure => simp [intOf]; omega
       | false =>
        replace HO := qd (show Blk w3 ob 37 #[.int .u64 ((b).key : Int), .int .u64 ((b).val : Int), .int .u64 ((b).hash : Int)] from HO.out)
        have HLs := qd (split_Less e fr w3)
        rw [hl] at HLs
        unfold entV at HLs
        replace HSn := qd (show leastL fr o (es.take (j + 1)) = some b from by rw [HSn.out]; unfold leastStep; rw [hl]; simp [hlb])
        have HLb := qd (fun V : World => split_Less e b V)
        rw [hlb] at HLb
        unfold entV at HLb
        clear hlb hl
        have xc := HX.out.c3
        have fc := HF.out.c3
        go_wp2_with fail
        refine (HLs.out).mono ?_
        rintro x w4 ⟨rfl, hb⟩
        clear xc fc
        replace HT := qB hb HT
        replace HM := qB hb HM
        replace HV0 := qB hb HV0
        replace HO := qB hb HO
        replace HL := qB hb HL
        replace HR := qB hb HR
        replace HF := qB hb HF
        replace HOw := qB hb HOw
        replace HX := qB hb HX
        have z901 := (hb).size
        replace Hmod := qT Hmod hb
        clear hb
        have xc := HX.out.c3
        have oc := HO.out.c3
        go_wp2_with fail
        refine ((HLb.out w4)).mono ?_
        rintro x w5 ⟨rfl, hb⟩
        clear xc oc
        replace HT := qB hb HT
        replace HM := qB hb HM
        replace HV0 := qB hb HV0
        replace HO := qB hb HO
        replace HL := qB hb HL
        replace HR := qB hb HR
        replace HF := qB hb HF
        replace HOw := qB hb HOw
        replace HX := qB hb HX
        have z902 := (hb).size
        replace Hmod := qT Hmod hb
        clear hb
        go_wp2
        go_roundw
        case rel => exact ⟨j + 1, by omega, by go_num, by rw [HSn.out] <;> rfl, by rw [HSn.out]; exact HO.out, HT.out, HV0.out, HL.out, HR.out, HF.out, Hmod.out, HM.out, HOw.out⟩
        case measure => simp [intOf]; omega
    ·obtain rfl : j = es.length := by omega
     have hlt2' : ¬ (es.length : Int) < (es.length : Int) := by omega
     have HNx := qd (show leastL fr none (entsT (T.gs.take (k + 1))) = leastL fr o es from by rw [leastL_group fr T.gs hkT, HOo.out, HEs.out, HGe.out])
     rw [List.take_length, ← HNx.out] at hO ⊢
     have HF2 := qd (And.intro hM (And.intro hO (And.intro hT (And.intro hE (And.intro hL (And.intro hR (And.intro hF hm)))))))
     clear hM hO hT hE hL hR hF hm hOw
     go_wp2
     go_roundw
     case rel => exact ⟨k + 1, by omega, by go_num, rfl, HF2.out⟩
     case measure => simp [intOf]; omega
  ·obtain rfl : k = n := by omega
   have hlt' : ¬ (k : Int) < (k : Int) := by omega
   have htk : T.gs.take k = T.gs := by rw [HN.out]; exact List.take_length
   rw [htk] at hO ⊢
   clear htk
   obtain ⟨b, hbe⟩ : ∃ b, b = (leastL fr none (entsT T.gs)).getD ⟨0, 0, 0⟩ := ⟨_, rfl⟩
   obtain ⟨sb, hsb⟩ : ∃ sb, sb = (leastL fr none (entsT T.gs)).isSome := ⟨_, rfl⟩
   have HM := qd (hM)
   have HO := qd (show Blk wr ob _ #[.int .u64 ((b).key : Int), .int .u64 ((b).val : Int), .int .u64 ((b).hash : Int)] from by rw [hbe]; exact hO)
   have HR := qd (hR)
   have Hmod := qd (hm)
   have HBe := qd hbe
   clear hM hO hT hE hL hR hF hm hbe hsb
   have oc := HO.out.c3
   have rc := HR.out.c3
   have rf := HR.out.f3
   go_wp2
   have q1 := qJ HM.out.lt (qJ HO.out.lt HR.out.lt)
   refine qS3 HR.out ?_
   rintro w9 ⟨hnew, hm⟩
   simp only [pt] at hnew
   replace HM := qM hm HM
   replace HO := qM hm HO
   have z4 := (hm).size
   replace Hmod := qU Hmod hm
   replace HR := qd hnew
   clear hnew hm
   have rx := HR.out.c3
   refine bodyPost_ret (v := .tuple #[.agg #[.int .u64 ((b).key : Int), .int .u64 ((b).val : Int), .int .u64 ((b).hash : Int)], .bool (leastL fr none (entsT T.gs)).isSome]) (by simp [results, Tryz.results131, go_sem, rx.1, rx.2.1, rx.2.2]) rfl ⟨by rw [HBe.out], HM.out, Hmod.out⟩
end
end Go.Proofs.YtcgjgfgkdoohlaaGreatDoor
