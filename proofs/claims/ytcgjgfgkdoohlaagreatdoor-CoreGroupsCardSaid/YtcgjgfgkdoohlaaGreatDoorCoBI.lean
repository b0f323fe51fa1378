/- Package dir by its contracts. -/
import Derived.Test.YtcgjgfgkdoohlaaGreatDoorCoBF
import Derived.Test.YtcgjgfgkdoohlaaGreatDoorCoN
import Derived.Test.YtcgjgfgkdoohlaaGreatDoorLaneP
namespace Go.Proofs.YtcgjgfgkdoohlaaGreatDoor
section
set_option maxRecDepth 100000
set_option maxHeartbeats 4000000
open Go.RowKit AmC
def intCells (l : List Nat) : Array Value := (l.map fun n : Nat => Value.int .i64 (n : Int)).toArray
theorem intCells_set (l : List Nat) (i n : Nat) : (intCells l).setIfInBounds i (.int .i64 (n : Int)) = intCells (l.set i n) := by
 unfold intCells
 rw [List.setIfInBounds_toArray, List.map_set]
theorem info_int : (Tryz.prog.info? 3).map (fun i => (i.zero, i.size, i.bytes)) = some (some (.int .i64 0), 1, 8) := by kernel_rfl
theorem make_ints (n : Nat) (hn : n ≤ 65536) (W : World) : (Instr.makeSlice 96 (.int .i64 (n : Int)) (.int .i64 (n : Int))).run Tryz.prog W = .ok (.slice (some ⟨W.heap.size, 0, none⟩) n n) (W.alloc (.cells (intCells (List.replicate n 0)) 3)) := by
 obtain ⟨i, hi, hz0, hz1, hz2⟩ := info_parts info_int
 have := run_makeSlice (P := Tryz.prog) (w := W) 96 3 i (.int .i64 0) Tryz.underlying96 hi hz0 .i64 .i64 (n : Int) (n : Int) (by omega) (Int.le_refl _) (by rw [hz1]; omega) (by rw [hz2]; omega) (by omega)
 rw [this, hz1, Int.toNat_natCast]
 have e : madeCells (Value.int .i64 0).cells (n * 1) = intCells (List.replicate n 0) := by
  rw [made_const (z := (Value.int .i64 0).cells) (k := 1) (v := .int .i64 0) rfl (by omega), Nat.mul_one]
  unfold intCells
  rw [List.map_replicate]; rfl
 rw [e]
structure DirAt (w : World) (db eb d : Nat) (l : List Nat) : Prop where
 blk : Blk w db 116 #[.int .i64 (d : Int), .slice (some ⟨eb, 0, none⟩) l.length l.length]
 row : Blk w eb 3 (intCells l)
 len : l.length = 2 ^ d
 le : d ≤ 5
 ne : db ≠ eb
section
variable {w w' : World} {db eb d : Nat} {l : List Nat}
theorem DirAt.mod {S : List Nat} (h : DirAt w db eb d l) (hm : Mod S w w') (h1 : db ∉ S) (h2 : eb ∉ S) : DirAt w' db eb d l := ⟨h.blk.mod hm h1, h.row.mod hm h2, h.len, h.le, h.ne⟩
theorem DirAt.lt (h : DirAt w db eb d l) : db < w.heap.size := h.blk.lt
theorem DirAt.ltE (h : DirAt w db eb d l) : eb < w.heap.size := h.row.lt
theorem DirAt.cells (h : DirAt w db eb d l) : w.cell? ⟨db, 0, none⟩ = some (.int .i64 (d : Int)) ∧ w.cell? ⟨db, 1, none⟩ = some (.slice (some ⟨eb, 0, none⟩) l.length l.length) := ⟨h.blk.cell 0, h.blk.cell 1⟩
theorem DirAt.entry (h : DirAt w db eb d l) {i : Nat} (hi : i < l.length) : w.cell? ⟨eb, i, none⟩ = some (.int .i64 ((l.getD i 0 : Nat) : Int)) := by
 rw [h.row.cell i]
 unfold intCells
 rw [List.getElem?_toArray, List.getElem?_map, List.getD_eq_getElem?_getD, List.getElem?_eq_getElem hi]; rfl
theorem DirAt.set_ (h : DirAt w db eb d l) (i n : Nat) : DirAt (w.setCell ⟨eb, i, none⟩ (.int .i64 (n : Int))) db eb d (l.set i n) := by
 refine ⟨?_, ?_, by rw [List.length_set]; exact h.len, h.le, h.ne⟩
 ·rw [List.length_set]; exact h.blk.far (p := ⟨eb, i, none⟩) h.ne _
 ·have := h.row.set_ i (.int .i64 (n : Int))
  rwa [intCells_set] at this
theorem DirAt.small (h : DirAt w db eb d l) : l.length ≤ 32 := by
 rw [h.len]
 have := Nat.pow_le_pow_right (n := 2) (by omega) h.le
 omega
end
def dirP (b : Nat) : Value := .pointer (some ⟨b, 0, none⟩)
theorem dir_New (d : Nat) (hd : d ≤ 5) (w : World) :
  Calls Tryz.prog 29 #[.int .i64 (d : Int)] w fun e w' => e = .returned (.tuple #[dirP (w.heap.size + 1), .nilIface]) ∧ DirAt w' (w.heap.size + 1) w.heap.size d (List.replicate (2 ^ d) 0) ∧ Below w.heap.size w w' := by
 have hpw : 2 ^ d ≤ 32 := by have := Nat.pow_le_pow_right (n := 2) (by omega) hd; omega
 have e : ((2 : Int) ^ d) = ((2 ^ d : Nat) : Int) := by simp
 have h1 : ¬ (d : Int) < 0 := by omega
 have h2 : ¬ (d : Int) > 5 := by omega
 have h3 : (2 : Int) ^ d ≤ 65536 := by rw [e]; omega
 have h4 : (0 : Int) ≤ 2 ^ d := by rw [e]; exact Int.natCast_nonneg _
 have h5 : (d : Int) ≤ 64 := by omega
 have hmk := make_ints (2 ^ d) (by omega) w
 rw [← e] at hmk
 have HE := qd (show DirAt ((w.alloc (.cells (intCells (List.replicate (2 ^ d) 0)) 3)).alloc (.cells #[.int .i64 (d : Int), .slice (some ⟨w.heap.size, 0, none⟩) (2 ^ d) (2 ^ d)] 116)) (w.heap.size + 1) w.heap.size d (List.replicate (2 ^ d) 0) from by
  refine ⟨?_, (Blk.new w _ _).alloc _, by simp, hd, by omega⟩
  have := Blk.new (w.alloc (.cells (intCells (List.replicate (2 ^ d) 0)) 3)) 116 #[.int .i64 (d : Int), .slice (some ⟨w.heap.size, 0, none⟩) (2 ^ d) (2 ^ d)]
  rw [World.size_alloc] at this
  rw [List.length_replicate]
  exact this)
 clear e hpw hd
 unfold dirP
 go_enter Tryz.func29, Tryz.ntmps29
 go_wp2
 refine bodyPost_ret (v := .tuple #[.pointer (some ⟨w.heap.size + 1, 0, none⟩), .nilIface]) (by simp [results, Tryz.results29, go_sem]) rfl ⟨rfl, HE.out, ?_⟩
 exact ((Below.refl _ _).alloc (Nat.le_refl _) _).alloc (by simp) _
theorem dir_Depth (db eb d : Nat) (l : List Nat) (w : World) (h : DirAt w db eb d l) : Calls Tryz.prog 40 #[dirP db] w fun e w' => e = .returned (.int .i64 (d : Int)) ∧ w = w' := by
 obtain ⟨c0, c1⟩ := h.cells
 clear h
 unfold dirP
 go_enter Tryz.func40, Tryz.ntmps40
 go_wp2
 go_ret
 exact ⟨rfl, rfl⟩
theorem dir_Len (db eb d : Nat) (l : List Nat) (w : World) (h : DirAt w db eb d l) : Calls Tryz.prog 80 #[dirP db] w fun e w' => e = .returned (.int .i64 (l.length : Int)) ∧ w = w' := by
 obtain ⟨c0, c1⟩ := h.cells
 clear h
 unfold dirP
 go_enter Tryz.func80, Tryz.ntmps80
 go_wp2
 go_ret
 exact ⟨rfl, rfl⟩
theorem dir_At (db eb d : Nat) (l : List Nat) (hash : Nat) (h64 : hash < 18446744073709551616) (w : World) (h : DirAt w db eb d l) : Calls Tryz.prog 58 #[dirP db, .int .u64 (hash : Int)] w fun e w' => e = .returned (.int .i64 ((l.getD (topOf hash d) 0 : Nat) : Int)) ∧ w.drew = w' := by
 have hls := h.len
 have hle := h.le
 have htl := topOf_lt (d := d) h64 (by omega)
 have hti : topOf hash d < l.length := by omega
 have ce := h.entry hti
 have HTp := qd (split_Top hash d h64 (by omega) w.drew)
 generalize topOf hash d = tp at *
 have hti' : (tp : Int) < (l.length : Int) := by omega
 have htp0 : (0 : Int) ≤ (tp : Int) := by omega
 have HMu := qd (must_int (tp : Int) w.drew)
 obtain ⟨v, hv⟩ : ∃ v, v = l.getD tp 0 := ⟨_, rfl⟩
 rw [← hv] at ce ⊢
 obtain ⟨c0, c1⟩ := h.cells
 clear h hls hle htl hv
 unfold dirP
 go_enter Tryz.func58, Tryz.ntmps58
 go_upto_region 1 with fail
 refine region_T (fun (w' : World) => w'.cell? ⟨db, 0, none⟩ = some (.int .i64 (d : Int)) ∧ w'.cell? ⟨db, 1, none⟩ = some (.slice (some ⟨eb, 0, none⟩) l.length l.length) ∧ w'.cell? ⟨eb, tp, none⟩ = some (.int .i64 (v : Int))) [] (by kernel_rfl) ?_
 try (change wpAnyT _ _ _ _ _ _ _ _ _ (World.drew _))
 have hHeld := (⟨c0, c1, ce⟩ : _ ∧ _ ∧ _)
 refine tW 0 (some 5) (.pointer (some ⟨db, 0, none⟩)) rfl hHeld ?_
 try simp only [pt]
 refine tW 1 (some 6) (.pointer (some ⟨db, 0, none⟩)) rfl hHeld ?_
 try simp only [pt]
 refine tW 2 (some 7) (.pointer (some ⟨db, 1, none⟩)) rfl hHeld ?_
 try simp only [pt]
 refine tT 3 (some 8) (.slice (some ⟨eb, 0, none⟩) l.length l.length) rfl (by rintro w ⟨hh0, hh1, hh2⟩; go_simp) hHeld ?_
 try simp only [pt]
 refine tW 4 (some 9) (.int .u64 (hash : Int)) rfl hHeld ?_
 try simp only [pt]
 refine tW 5 (some 10) (.pointer (some ⟨db, 0, none⟩)) rfl hHeld ?_
 try simp only [pt]
 refine tW 6 (some 11) (.pointer (some ⟨db, 0, none⟩)) rfl hHeld ?_
 try simp only [pt]
 refine tW 7 (some 12) (.pointer (some ⟨db, 0, none⟩)) rfl hHeld ?_
 try simp only [pt]
 refine tT 8 (some 13) (.int .i64 (d : Int)) rfl (by rintro w ⟨hh0, hh1, hh2⟩; go_simp) hHeld ?_
 try simp only [pt]
 refine nT 9 (some 14) rfl fun K hK => ?_
 go_simp
 refine (HTp.out).mono ?_
 rintro y w1 ⟨rfl, rfl⟩
 go_wp2_with fail
 have hHeld := (⟨c0, c1, ce⟩ : _ ∧ _ ∧ _)
 refine hK.out _ _ (fun _ => hHeld) ?_
 clear hK K
 try simp only [pt]
 refine tW 10 (some 15) (.int .i64 (tp : Int)) rfl hHeld ?_
 try simp only [pt]
 refine tW 11 (some 16) .nilIface rfl hHeld ?_
 try simp only [pt]
 refine nT 12 (some 17) rfl fun K hK => ?_
 go_simp
 refine (HMu.out).mono ?_
 rintro y w1 ⟨rfl, rfl⟩
 go_wp2_with fail
 have hHeld := (⟨c0, c1, ce⟩ : _ ∧ _ ∧ _)
 refine hK.out _ _ (fun _ => hHeld) ?_
 clear hK K
 try simp only [pt]
 refine tW 13 (some 18) (.pointer (some ⟨eb, tp, none⟩)) rfl hHeld ?_
 try simp only [pt]
 refine tT 14 (some 19) (.int .i64 (v : Int)) rfl (by rintro w ⟨hh0, hh1, hh2⟩; go_simp) hHeld ?_
 try simp only [pt]
 refine tW 15 (some 4) (.int .i64 (v : Int)) rfl hHeld ?_
 try simp only [pt]
 refine doneT (by kernel_rfl) ?_ _
 go_wp2
 go_ret
 exact ⟨rfl, rfl⟩
theorem dir_Entry (db eb d : Nat) (l : List Nat) (i : Nat) (hi : i < l.length) (w : World) (h : DirAt w db eb d l) : Calls Tryz.prog 189 #[dirP db, .int .i64 (i : Int)] w fun e w' => e = .returned (.tuple #[.int .i64 ((l.getD i 0 : Nat) : Int), .nilIface]) ∧ w = w' := by
 have hi0 : ¬ (i : Int) < 0 := by omega
 have hi1 : (0 : Int) ≤ (i : Int) := by omega
 have hi2 : (i : Int) < (l.length : Int) := by omega
 have ce := h.entry hi
 obtain ⟨v, hv⟩ : ∃ v, v = l.getD i 0 := ⟨_, rfl⟩
 rw [← hv] at ce ⊢
 obtain ⟨c0, c1⟩ := h.cells
 clear h hv
 unfold dirP
 go_enter Tryz.func189, Tryz.ntmps189
 go_wp2
 refine bodyPost_ret (v := .tuple #[.int .i64 (v : Int), .nilIface]) (by simp [results, Tryz.results189, go_sem]) rfl ⟨rfl, rfl⟩
theorem dir_Put (db eb d : Nat) (l : List Nat) (i id : Nat) (hi : i < l.length) (w : World) (h : DirAt w db eb d l) : Calls Tryz.prog 190 #[dirP db, .int .i64 (i : Int), .int .i64 (id : Int)] w fun e w' => e = .returned .nilIface ∧ DirAt w' db eb d (l.set i id) ∧ Mod [eb] w w' := by
 have hi1 : (0 : Int) ≤ (i : Int) := by omega
 have hi2 : (i : Int) < (l.length : Int) := by omega
 have hid : ¬ (id : Int) < 0 := by omega
 have ce := h.entry hi
 have fe := h.row.frozen i
 have HEn := qd (dir_Entry db eb d l i hi w h)
 have HS := qd (And.intro (h.set_ i id) ((Mod.refl [eb] w).sl i (.int .i64 (id : Int))))
 obtain ⟨v, hv⟩ : ∃ v, v = l.getD i 0 := ⟨_, rfl⟩
 rw [← hv] at ce HEn
 obtain ⟨c0, c1⟩ := h.cells
 clear h hv
 unfold dirP at HEn ⊢
 go_enter Tryz.func190, Tryz.ntmps190
 go_wp2_with fail
 refine (HEn.out).mono ?_
 rintro y w1 ⟨rfl, rfl⟩
 go_wp2
 go_ret
 exact ⟨rfl, HS.out⟩
end
section
set_option maxRecDepth 100000
set_option maxHeartbeats 4000000
open Go.RowKit AmC
def fromOf (p pd d : Nat) : Nat := p * 2 ^ (d - pd)
theorem top_low {p pd d : Nat} (h1 : pd ≤ d) (h2 : d ≤ 5) : topOf (lowOf p pd) d = fromOf p pd d := by
 unfold topOf lowOf fromOf
 rw [show 64 - pd = (d - pd) + (64 - d) by omega, Nat.pow_add, ← Nat.mul_assoc, Nat.mul_div_cancel _ (Nat.two_pow_pos _)]
theorem from_to {p pd d : Nat} (h1 : pd ≤ d) (hp : p < 2 ^ pd) : fromOf p pd d + 2 ^ (d - pd) ≤ 2 ^ d := by
 unfold fromOf
 have : (p + 1) * 2 ^ (d - pd) ≤ 2 ^ pd * 2 ^ (d - pd) := Nat.mul_le_mul_right _ hp
 rw [← Nat.pow_add, show pd + (d - pd) = d by omega, Nat.add_mul, Nat.one_mul] at this
 exact this
def setN (l : List Nat) (fr id : Nat) : Nat → List Nat
 | 0 => l
 | j + 1 => (setN l fr id j).set (fr + j) id
theorem setN_length (l : List Nat) (fr id : Nat) : ∀ j, (setN l fr id j).length = l.length
 | 0 => rfl
 | j + 1 => by unfold setN; rw [List.length_set, setN_length l fr id j]
theorem dir_Span (db eb d : Nat) (l : List Nat) (p pd : Nat) (h1 : pd ≤ d) (hp : p < 2 ^ pd) (w : World) (h : DirAt w db eb d l) :
  Calls Tryz.prog 175 #[dirP db, .int .i64 (p : Int), .int .i64 (pd : Int)] w fun e w' => e = .returned (.tuple #[.int .i64 ((fromOf p pd d : Nat) : Int), .int .i64 ((fromOf p pd d + 2 ^ (d - pd) : Nat) : Int), .nilIface]) ∧ w.drew = w' := by
 have hd5 := h.le
 have hlt := lowOf_lt (p := p) (d := pd) (by omega) hp
 have hpos := Nat.two_pow_pos (64 - pd)
 have hft := from_to h1 hp
 have hpw : 2 ^ d ≤ 32 := by have := Nat.pow_le_pow_right (n := 2) (by omega) hd5; omega
 have HLo := qd (fun V : World => split_Low p pd (by omega) hp V)
 have HTp := qd (fun V : World => split_Top (lowOf p pd) d (by omega) (by omega) V)
 rw [top_low h1 hd5] at HTp
 obtain ⟨fr, hfr⟩ : ∃ fr, fr = fromOf p pd d := ⟨_, rfl⟩
 rw [← hfr] at hft HTp ⊢
 obtain ⟨k, hk⟩ : ∃ k, k = d - pd := ⟨_, rfl⟩
 rw [← hk] at hft ⊢
 have e2 : ((2 : Int) ^ k) = ((2 ^ k : Nat) : Int) := by simp
 have k0 : (k : Int) ≤ 64 := by omega
 have k1 : (0 : Int) ≤ (k : Int) := by omega
 have k2 : (2 : Int) ^ k ≤ 65536 := by rw [e2]; omega
 have k3 : (0 : Int) ≤ 2 ^ k := by rw [e2]; exact Int.natCast_nonneg _
 have hgt : ¬ (pd : Int) > (d : Int) := by omega
 have hw1 : IntKind.i64.wrap ((d : Int) - (pd : Int)) = (k : Int) := by rw [IntKind.wrap_i64]; omega
 have hw2 : IntKind.i64.wrap ((fr : Int) + (2 : Int) ^ k) = (fr : Int) + (2 : Int) ^ k := by rw [IntKind.wrap_i64, e2]; omega
 have hw3 : IntKind.i64.wrap ((2 : Int) ^ k) = (2 : Int) ^ k := by rw [IntKind.wrap_i64, e2]; omega
 have hto : (fr : Int) + (2 : Int) ^ k = ((fr + 2 ^ k : Nat) : Int) := by rw [e2]; omega
 have HTo := qd hto
 have HMu := qd (must_int (fr : Int))
 obtain ⟨c0, c1⟩ := h.cells
 clear h hlt hpos hft hpw hfr hk e2 hto hd5 hp h1
 unfold dirP
 go_enter Tryz.func175, Tryz.ntmps175
 go_wp2_with fail
 refine (HLo.out _).mono ?_
 rintro y w1 ⟨rfl, rfl⟩
 go_wp2_with fail
 refine (HTp.out _).mono ?_
 rintro y w1 ⟨rfl, rfl⟩
 go_wp2_with fail
 refine (HMu.out _).mono ?_
 rintro y w1 ⟨rfl, rfl⟩
 go_upto_region 7 with fail
 refine region_T (fun (w' : World) => w'.cell? ⟨db, 0, none⟩ = some (.int .i64 (d : Int))) [] (by kernel_rfl) ?_
 try (change wpAnyT _ _ _ _ _ _ _ _ _ (World.drew _))
 have hHeld := c0
 refine tW 0 (some 35) (.int .i64 (fr : Int)) rfl hHeld ?_
 try simp only [pt]
 refine tW 1 (some 36) (.int .i64 (fr : Int)) rfl hHeld ?_
 try simp only [pt]
 refine tW 2 (some 37) (.pointer (some ⟨db, 0, none⟩)) rfl hHeld ?_
 try simp only [pt]
 refine tW 3 (some 38) (.pointer (some ⟨db, 0, none⟩)) rfl hHeld ?_
 try simp only [pt]
 refine tW 4 (some 39) (.pointer (some ⟨db, 0, none⟩)) rfl hHeld ?_
 try simp only [pt]
 refine tT 5 (some 40) (.int .i64 (d : Int)) rfl (by rintro w hh0; go_simp) hHeld ?_
 try simp only [pt]
 refine tW 6 (some 41) (.int .i64 (pd : Int)) rfl hHeld ?_
 try simp only [pt]
 refine tW 7 (some 42) (.int .i64 (k : Int)) rfl hHeld ?_
 try simp only [pt]
 refine tW 8 (some 43) (.int .i64 ((2 : Int) ^ k)) rfl hHeld ?_
 try simp only [pt]
 refine tW 9 (some 44) (.int .i64 ((fr : Int) + (2 : Int) ^ k)) rfl hHeld ?_
 try simp only [pt]
 refine tW 10 (some 6) (.int .i64 (fr : Int)) rfl hHeld ?_
 try simp only [pt]
 refine tW 11 (some 7) (.int .i64 ((fr : Int) + (2 : Int) ^ k)) rfl hHeld ?_
 try simp only [pt]
 refine tW 12 (some 8) .nilIface rfl hHeld ?_
 try simp only [pt]
 refine doneT (by kernel_rfl) ?_ _
 go_wp2
 refine bodyPost_ret (v := .tuple #[.int .i64 (fr : Int), .int .i64 ((fr : Int) + (2 : Int) ^ k), .nilIface]) (by simp [results, Tryz.results175, go_sem]) rfl ⟨by rw [HTo.out], rfl⟩
theorem dir_Set (db eb d : Nat) (l : List Nat) (p pd : Nat) (h1 : pd ≤ d) (hp : p < 2 ^ pd) (id : Nat) (w : World) (h : DirAt w db eb d l) :
  Calls Tryz.prog 153 #[dirP db, .int .i64 (p : Int), .int .i64 (pd : Int), .int .i64 (id : Int)] w fun e w' => e = .returned (.tuple #[.int .i64 ((2 ^ (d - pd) : Nat) : Int), .nilIface]) ∧ DirAt w' db eb d (setN l (fromOf p pd d) id (2 ^ (d - pd))) ∧ Mod [eb] w w' := by
 have hft := from_to h1 hp
 have hlen := h.len
 have hls := h.small
 have HSp := qd (dir_Span db eb d l p pd h1 hp w h)
 obtain ⟨fr, hfr⟩ : ∃ fr, fr = fromOf p pd d := ⟨_, rfl⟩
 obtain ⟨n, hn⟩ : ∃ n, n = 2 ^ (d - pd) := ⟨_, rfl⟩
 rw [← hfr, ← hn] at hft HSp ⊢
 have hin : fr + n ≤ l.length := by omega
 have hnp : 0 < n := by rw [hn]; exact Nat.two_pow_pos _
 have hne1 : ¬ l.length = fr := by omega
 have hfn : (fr : Int) ≤ ((fr + n : Nat) : Int) := by omega
 have hfl : ((fr + n : Nat) : Int) ≤ (l.length : Int) := by omega
 have hf0 : (0 : Int) ≤ (fr : Int) := by omega
 have hid : ¬ (id : Int) < 0 := by omega
 have hsub : ((fr + n : Nat) : Int) - (fr : Int) = (n : Int) := by omega
 have HD := qd (h.mod (Mod.drewN [] w 1) (by simp) (by simp))
 obtain ⟨c0, c1⟩ := h.cells
 clear h hfr hn hft hlen hp h1
 unfold dirP at HSp ⊢
 go_enter Tryz.func153, Tryz.ntmps153
 go_wp2_with fail
 refine (HSp.out).mono ?_
 rintro y w1 ⟨rfl, hw1⟩
 obtain ⟨c0, c1⟩ := HD.out.cells
 rw [show w.drewN 1 = w.drew from rfl, hw1] at c0 c1
 go_wp2
 have HD1 := qd (show DirAt w1 db eb d l from hw1 ▸ HD.out)
 have Hm1 := qd (show Mod [eb] w w1 from hw1 ▸ Mod.drewN [eb] w 1)
 clear hw1 HD c0 c1
 go_loopw [13, 38] (fun _ i wr => ∃ j : Nat, j ≤ n ∧ i = .int .i64 j ∧ DirAt wr db eb d (setN l fr id j) ∧ Mod [eb] w wr) (fun _ i _ => n - (intOf i).toNat)
 case atStart => exact ⟨0, by omega, rfl, HD1.out, Hm1.out⟩
 case round =>
  clear HD1 Hm1
  obtain ⟨j, hj, rfl, hD, hm⟩ := hrel
  by_cases hlt : j < n
  ·have hlt' : (j : Int) < (n : Int) := by omega
   have hj0 : (0 : Int) ≤ (j : Int) := by omega
   have hln : (setN l fr id j).length = l.length := setN_length l fr id j
   have hfj : fr + j < (setN l fr id j).length := by omega
   have ce := hD.entry hfj
   have fe := hD.row.frozen (fr + j)
   have HS := qd (And.intro (hD.set_ (fr + j) id) (hm.sl (fr + j) (.int .i64 (id : Int))))
   obtain ⟨c0, c1⟩ := hD.cells
   rw [hln] at c1
   obtain ⟨v, hv⟩ : ∃ v, v = (setN l fr id j).getD (fr + j) 0 := ⟨_, rfl⟩
   rw [← hv] at ce
   have hwr : IntKind.i64.wrap ((fr : Int) + (j : Int)) = (fr : Int) + (j : Int) := by rw [IntKind.wrap_i64]; omega
   have hs3 : (fr : Int) + (j : Int) < (l.length : Int) := by omega
   have hs4 : ((fr : Int) + (j : Int)).toNat = fr + j := by omega
   have hs5 : (0 : Int) ≤ (fr : Int) + (j : Int) := by omega
   clear hD hm hv hln hfj
   go_wp2
   go_roundw
   case rel => exact ⟨j + 1, by omega, by go_num, HS.out⟩
   case measure => simp [intOf]; omega
  ·obtain rfl : j = n := by omega
   have hlt' : ¬ (j : Int) < (j : Int) := by omega
   have HF := qd (And.intro hD hm)
   clear hD hm
   go_wp2
   refine bodyPost_ret (v := .tuple #[.int .i64 ((fr : Int) + (j : Int) - (fr : Int)), .nilIface]) (by simp [results, Tryz.results153, go_sem]) rfl ⟨by rw [show (fr : Int) + (j : Int) - (fr : Int) = (j : Int) by omega], HF.out⟩
end
section
set_option maxRecDepth 100000
set_option maxHeartbeats 4000000
open Go.RowKit AmC
structure CopAt (w : World) (cb ob oe fb fe d next : Nat) (lo lf : List Nat) : Prop where
 blk : Blk w cb 155 #[.pointer (some ⟨ob, 0, none⟩), .pointer (some ⟨fb, 0, none⟩), .int .i64 (next : Int), .bool false]
 old : DirAt w ob oe d lo
 fresh : DirAt w fb fe (d + 1) lf
 le : next ≤ lo.length
 nd : [cb, ob, oe, fb, fe].Nodup
section
variable {w w' : World} {cb ob oe fb fe d next : Nat} {lo lf : List Nat}
theorem CopAt.mod {S : List Nat} (h : CopAt w cb ob oe fb fe d next lo lf) (hm : Mod S w w') (hs : ∀ q ∈ [cb, ob, oe, fb, fe], q ∉ S) : CopAt w' cb ob oe fb fe d next lo lf :=
 ⟨h.blk.mod hm (hs _ (by simp)), h.old.mod hm (hs _ (by simp)) (hs _ (by simp)), h.fresh.mod hm (hs _ (by simp)) (hs _ (by simp)), h.le, h.nd⟩
theorem CopAt.lt (h : CopAt w cb ob oe fb fe d next lo lf) : cb < w.heap.size := h.blk.lt
end
def copP (b : Nat) : Value := .pointer (some ⟨b, 0, none⟩)
def dblN (lf : List Nat) (i id : Nat) : Nat → List Nat
 | 0 => lf
 | j + 1 => (dblN lf i id j).set (2 * i + j) id
theorem dblN_length (lf : List Nat) (i id : Nat) : ∀ j, (dblN lf i id j).length = lf.length
 | 0 => rfl
 | j + 1 => by unfold dblN; rw [List.length_set, dblN_length lf i id j]
theorem copyist_New (ob oe d : Nat) (lo : List Nat) (hd : d < 5) (w : World) (h : DirAt w ob oe d lo) :
  Calls Tryz.prog 66 #[dirP ob] w fun e w' => ∃ cb fb fe, e = .returned (.tuple #[copP cb, .nilIface]) ∧ CopAt w' cb ob oe fb fe d 0 lo (List.replicate (2 ^ (d + 1)) 0) ∧ (w.heap.size ≤ cb ∧ w.heap.size ≤ fb ∧ w.heap.size ≤ fe) ∧ Below w.heap.size w w' := by
 have hol := h.lt
 have hoe := h.ltE
 have HDp := qd (dir_Depth ob oe d lo w h)
 have HNw := qd (dir_New (d + 1) (by omega) w)
 have hd1 : ((d + 1 : Nat) : Int) = (d : Int) + 1 := by omega
 rw [hd1] at HNw
 have HO := qd h
 unfold dirP at HDp HNw ⊢
 clear h hd1
 go_enter Tryz.func66, Tryz.ntmps66
 go_wp2_with fail
 refine (HDp.out).mono ?_
 rintro y w1 ⟨rfl, rfl⟩
 go_wp2_with fail
 refine (HNw.out).mono ?_
 rintro y w1 ⟨rfl, hF, hb⟩
 have HF := qd hF
 have Hb := qd hb
 clear hF hb
 go_wp2
 refine bodyPost_ret (v := .tuple #[.pointer (some ⟨w1.heap.size, 0, none⟩), .nilIface]) (by simp [results, Tryz.results66, go_sem]) rfl ?_
 have hbs := Hb.out.size
 have hl1 := HF.out.lt
 have hB2 := Mod.of_below ((Below.refl w1.heap.size w1).alloc (Nat.le_refl _) (.cells #[.pointer (some ⟨ob, 0, none⟩), .pointer (some ⟨(w.heap.size + 1), 0, none⟩), .int .i64 0, .bool false] 155)) []
 have hne := HO.out.ne
 exact ⟨w1.heap.size, w.heap.size + 1, w.heap.size, rfl, ⟨Blk.new w1 _ _, (HO.out.mod (Mod.of_below Hb.out []) (by simp) (by simp)).mod hB2 (by simp) (by simp), HF.out.mod hB2 (by simp) (by simp), Nat.zero_le _, by simp; omega⟩, ⟨by omega, by omega, by omega⟩, Hb.out.alloc hbs _⟩
theorem copyist_Left (cb ob oe fb fe d next : Nat) (lo lf : List Nat) (w : World) (h : CopAt w cb ob oe fb fe d next lo lf) :
  Calls Tryz.prog 42 #[copP cb] w fun e w' => e = .returned (.int .i64 ((lo.length - next : Nat) : Int)) ∧ w.drew = w' := by
 have HLn := qd (dir_Len ob oe d lo w.drew (h.old.mod (Mod.drewN [] w 1) (by simp) (by simp)))
 have hle := h.le
 have hls := h.old.small
 obtain ⟨n, hn⟩ : ∃ n, n = lo.length := ⟨_, rfl⟩
 rw [← hn] at HLn hle hls ⊢
 have hwr : IntKind.i64.wrap ((n : Int) - (next : Int)) = ((n - next : Nat) : Int) := by rw [sub_nat hle, IntKind.wrap_i64]; omega
 unfold dirP at HLn
 unfold copP
 have c0 := h.blk.cell 0
 have c2 := h.blk.cell 2
 simp only [gl] at c0 c2
 clear h hn
 go_enter Tryz.func42, Tryz.ntmps42
 go_upto_region 1 with fail
 refine region_T (fun (w' : World) => w'.cell? ⟨cb, 0, none⟩ = some (.pointer (some ⟨ob, 0, none⟩)) ∧ w'.cell? ⟨cb, 2, none⟩ = some (.int .i64 (next : Int))) [] (by kernel_rfl) ?_
 try (change wpAnyT _ _ _ _ _ _ _ _ _ (World.drew _))
 have hHeld := (⟨c0, c2⟩ : _ ∧ _)
 refine tW 0 (some 3) (.pointer (some ⟨cb, 0, none⟩)) rfl hHeld ?_
 try simp only [pt]
 refine tW 1 (some 4) (.pointer (some ⟨cb, 0, none⟩)) rfl hHeld ?_
 try simp only [pt]
 refine tW 2 (some 5) (.pointer (some ⟨cb, 0, none⟩)) rfl hHeld ?_
 try simp only [pt]
 refine tT 3 (some 6) (.pointer (some ⟨ob, 0, none⟩)) rfl (by rintro w ⟨hh0, hh1⟩; go_simp) hHeld ?_
 try simp only [pt]
 refine tW 5 (some 8) (.pointer (some ⟨cb, 0, none⟩)) rfl hHeld ?_
 try simp only [pt]
 refine tW 6 (some 9) (.pointer (some ⟨cb, 0, none⟩)) rfl hHeld ?_
 try simp only [pt]
 refine tW 7 (some 10) (.pointer (some ⟨cb, 2, none⟩)) rfl hHeld ?_
 try simp only [pt]
 refine tT 8 (some 11) (.int .i64 (next : Int)) rfl (by rintro w ⟨hh0, hh1⟩; go_simp) hHeld ?_
 try simp only [pt]
 refine nT 4 (some 7) rfl fun K hK => ?_
 go_simp
 refine (HLn.out).mono ?_
 rintro y w1 ⟨rfl, rfl⟩
 go_wp2_with fail
 have hHeld := (⟨c0, c2⟩ : _ ∧ _)
 refine hK.out _ _ (fun _ => hHeld) ?_
 clear hK K
 try simp only [pt]
 refine tW 9 (some 12) (.int .i64 ((n - next : Nat) : Int)) rfl hHeld ?_
 try simp only [pt]
 refine tW 10 (some 2) (.int .i64 ((n - next : Nat) : Int)) rfl hHeld ?_
 try simp only [pt]
 refine doneT (by kernel_rfl) ?_ _
 go_wp2
 go_ret
 exact ⟨rfl, rfl⟩
theorem copyist_double (cb ob oe fb fe d next : Nat) (lo lf : List Nat) (i : Nat) (hi : i < lo.length) (w : World) (h : CopAt w cb ob oe fb fe d next lo lf) :
  Calls Tryz.prog 176 #[copP cb, .int .i64 (i : Int)] w fun e w' => e = .returned undef ∧ DirAt w' fb fe (d + 1) (dblN lf i (lo.getD i 0) 2) ∧ Mod [fe] w w' := by
 have hnd := h.nd
 simp at hnd
 have HEn := qd (dir_Entry ob oe d lo i hi w h.old)
 obtain ⟨id, hid⟩ : ∃ id, id = lo.getD i 0 := ⟨_, rfl⟩
 rw [← hid] at HEn ⊢
 have hls := h.old.small
 have hl1 := h.old.len
 have hl2 := h.fresh.len
 have hp := Nat.pow_succ 2 d
 have hil : 2 * i + 1 < lf.length := by omega
 have HMu := qd (must_int (id : Int) w)
 have HND := qd (trap_Need)
 have HF := qd h.fresh
 unfold dirP at HEn
 unfold copP
 have hi0 : (0 : Int) ≤ (i : Int) := by omega
 have hi32 : i < 32 := by omega
 have HC := qd (h.blk)
 have Hmod := qd (Mod.refl [fe] w)
 clear h hid hl1 hl2 hp hi
 go_enter Tryz.func176, Tryz.ntmps176
 obtain ⟨cc0, cc1, cc2, cc3⟩ := HC.out.c4
 go_wp2_with fail
 refine (HEn.out).mono ?_
 rintro y w1 ⟨rfl, rfl⟩
 go_wp2_with fail
 refine (HMu.out).mono ?_
 rintro y w1 ⟨rfl, rfl⟩
 go_wp2
 clear cc0 cc1 cc2 cc3
 go_loopw [5, 15] (fun _ k wr => ∃ j : Nat, j ≤ 2 ∧ k = .int .i64 j ∧ DirAt wr fb fe (d + 1) (dblN lf i id j) ∧ Blk wr cb 155 #[.pointer (some ⟨ob, 0, none⟩), .pointer (some ⟨fb, 0, none⟩), .int .i64 (next : Int), .bool false] ∧ Mod [fe] w wr) (fun _ k _ => 2 - (intOf k).toNat)
 case atStart => exact ⟨0, by omega, rfl, HF.out, HC.out, Hmod.out⟩
 case round =>
  clear HF HC Hmod
  obtain ⟨j, hj, rfl, hF, hC, hm⟩ := hrel
  by_cases hlt : j < 2
  ·have hlt' : (j : Int) < 2 := by omega
   have hj0 : (0 : Int) ≤ (j : Int) := by omega
   have hln : (dblN lf i id j).length = lf.length := dblN_length lf i id j
   have HPt := qd (dir_Put fb fe (d + 1) _ (2 * i + j) id (by omega) wr hF)
   have hcst : ((2 * i + j : Nat) : Int) = 2 * (i : Int) + (j : Int) := by omega
   rw [hcst] at HPt
   unfold dirP at HPt
   have hw1 : IntKind.i64.wrap (2 * (i : Int)) = 2 * (i : Int) := by rw [IntKind.wrap_i64]; omega
   have hw2 : IntKind.i64.wrap (2 * (i : Int) + (j : Int)) = 2 * (i : Int) + (j : Int) := by rw [IntKind.wrap_i64]; omega
   have HC := qd (hC)
   have Hmod := qd (hm)
   clear hF hC hm hcst hln
   obtain ⟨cc0, cc1, cc2, cc3⟩ := HC.out.c4
   go_wp2_with fail
   refine (HPt.out).mono ?_
   rintro x w2 ⟨rfl, hF2, hm⟩
   clear cc0 cc1 cc2 cc3
   replace HC := qd (HC.out.mod hm (by simp <;> omega))
   have z1 := (hm).size
   replace Hmod := qd (Hmod.out.tr hm)
   clear hm
   have HF2 := qd (show DirAt w2 fb fe (d + 1) (dblN lf i id (j + 1)) from hF2)
   clear hF2 HPt
   go_wp2_with fail
   refine (HND.out _).mono ?_
   rintro y w3 ⟨rfl, rfl⟩
   go_wp2
   go_roundw
   case rel => exact ⟨j + 1, by omega, by go_num, HF2.out, HC.out, Hmod.out⟩
   case measure => simp [intOf]; omega
  ·obtain rfl : j = 2 := by omega
   have hlt' : ¬ ((2 : Nat) : Int) < 2 := by omega
   have HZ := qd (And.intro hF hm)
   clear hF hC hm
   go_wp2
   go_end0
   exact ⟨rfl, HZ.out⟩
theorem copyist_Step (cb ob oe fb fe d next : Nat) (lo lf : List Nat) (P : MP) (x : Mtr) (hnx : next < lo.length) (w : World) (h : CopAt w cb ob oe fb fe d next lo lf) (hM : MetP w P x) (hmf : P.mb ∉ [cb, ob, oe, fb, fe]) :
  Calls Tryz.prog 228 #[copP cb, .pointer (some ⟨P.mb, P.mo, none⟩)] w fun e w' => e = .returned (.bool true) ∧ CopAt w' cb ob oe fb fe d (next + 1) lo (dblN lf next (lo.getD next 0) 2) ∧ MetP w' P (x.add (cU 1) 1) ∧ Mod [P.mb, cb, fe] w w' := by
 have hnd := h.nd
 simp at hnd
 simp only [List.mem_cons, List.not_mem_nil, or_false, not_or] at hmf
 have hml := hM.lt
 have HLf := qd (copyist_Left cb ob oe fb fe d next lo lf w h)
 obtain ⟨dn, hdn⟩ : ∃ dn, dn = lo.length - next := ⟨_, rfl⟩
 rw [← hdn] at HLf
 have hd0 : ¬ (dn : Int) = 0 := by omega
 have hd1 : ¬ dn = 0 := by omega
 have hls := h.old.small
 unfold copP at HLf ⊢
 clear hdn
 have HK := qd (h)
 have HM := qd (hM)
 have Hmod := qd (Mod.refl [P.mb, cb, fe] w)
 clear h hM
 go_enter Tryz.func228, Tryz.ntmps228
 go_wp2_with fail
 refine (HLf.out).mono ?_
 rintro y w1 ⟨rfl, hw1⟩
 have hm : Mod [] w w1 := hw1 ▸ Mod.drewN [] w 1
 clear hw1 HLf
 replace HK := qd (HK.out.mod hm (by intro q hq; simp at hq; simp <;> omega))
 replace HM := qd (HM.out.mod hm (by simp <;> omega))
 have z1 := (hm).size
 replace Hmod := qd (Hmod.out.tr hm)
 clear hm
 have HU := qd (meter_Unit P.mb P.mt P.pre P.post P.mo _ _ P.m 1 (by omega) w1 HM.out)
 clear HM
 go_wp2_with fail
 refine (HU.out).mono ?_
 rintro x w2 ⟨rfl, hM2, hm⟩
 replace HK := qd (HK.out.mod hm (by intro q hq; simp at hq; simp <;> omega))
 have z2 := (hm).size
 replace Hmod := qd (Hmod.out.tr hm)
 clear hm
 have HM := qd (show MetP w2 P (x.add (cU 1) 1) from hM2)
 clear hM2 HU
 have HDb := qd (copyist_double cb ob oe fb fe d next lo lf next hnx w2 HK.out)
 unfold copP at HDb
 have HB := qd HK.out.blk
 have HO := qd HK.out.old
 have HLe := qd HK.out.nd
 clear HK
 obtain ⟨bc0, bc1, bc2, bc3⟩ := HB.out.c4
 go_wp2_with fail
 refine (HDb.out).mono ?_
 rintro x w3 ⟨rfl, hF, hm⟩
 clear bc0 bc1 bc2 bc3
 replace HM := qd (HM.out.mod hm (by simp <;> omega))
 replace HB := qd (HB.out.mod hm (by simp <;> omega))
 replace HO := qd (HO.out.mod hm (by simp <;> omega) (by simp <;> omega))
 have z3 := (hm).size
 replace Hmod := qd (Hmod.out.tr hm)
 clear hm
 have HF := qd (hF)
 clear hF HDb
 obtain ⟨bc0, bc1, bc2, bc3⟩ := HB.out.c4
 obtain ⟨bf0, bf1, bf2, bf3⟩ := HB.out.f4
 go_upto_region 6 with fail
 have q4 := HM.out.lt
 have q5 := HB.out.lt
 have q6 := HO.out.lt
 have q7 := HO.out.ltE
 have q8 := HF.out.lt
 have q9 := HF.out.ltE
 have hnew := (HB.out.set_ 2 (.int .i64 ((next + 1 : Nat) : Int)))
 have hm := ((Mod.refl [cb] w3).sl 2 (.int .i64 ((next + 1 : Nat) : Int)))
 simp only [List.setIfInBounds_toArray, List.set_cons_zero, List.set_cons_succ] at hnew
 refine nameM hnew hm ?_
 clear hnew hm
 rintro w4 ⟨hnew, hm⟩
 replace HM := qd (HM.out.mod hm (by simp <;> omega))
 replace HO := qd (HO.out.mod hm (by simp <;> omega) (by simp <;> omega))
 replace HF := qd (HF.out.mod hm (by simp <;> omega) (by simp <;> omega))
 have z10 := (hm).size
 replace Hmod := qd (Hmod.out.tr hm)
 replace HB := qd hnew
 clear hnew hm
 go_wp2
 go_ret
 exact ⟨rfl, ⟨HB.out, HO.out, HF.out, by omega, HLe.out⟩, HM.out, Hmod.out⟩
theorem copyist_Take (cb ob oe fb fe d next : Nat) (lo lf : List Nat) (hnx : next = lo.length) (w : World) (h : CopAt w cb ob oe fb fe d next lo lf) :
  Calls Tryz.prog 111 #[copP cb] w fun e w' => e = .returned (.tuple #[dirP fb, .nilIface]) ∧ DirAt w' fb fe (d + 1) lf ∧ Mod [cb] w w' := by
 have hnd := h.nd
 simp at hnd
 have HLf := qd (copyist_Left cb ob oe fb fe d next lo lf w h)
 rw [show lo.length - next = 0 by omega] at HLf
 unfold copP at HLf ⊢
 unfold dirP
 have HB := qd (h.blk)
 have HF := qd (h.fresh)
 have Hmod := qd (Mod.refl [cb] w)
 clear h
 go_enter Tryz.func111, Tryz.ntmps111
 go_wp2_with fail
 refine (HLf.out).mono ?_
 rintro y w1 ⟨rfl, hw1⟩
 have hm : Mod [] w w1 := hw1 ▸ Mod.drewN [] w 1
 clear hw1 HLf
 replace HB := qd (HB.out.mod hm (by simp <;> omega))
 replace HF := qd (HF.out.mod hm (by simp <;> omega) (by simp <;> omega))
 have z1 := (hm).size
 replace Hmod := qd (Hmod.out.tr hm)
 clear hm
 obtain ⟨bc0, bc1, bc2, bc3⟩ := HB.out.c4
 obtain ⟨bf0, bf1, bf2, bf3⟩ := HB.out.f4
 go_upto_region 4 with fail
 have q2 := HB.out.lt
 have q3 := HF.out.lt
 have q4 := HF.out.ltE
 have hnew := (HB.out.set_ 3 (.bool true))
 have hm := ((Mod.refl [cb] w1).sl 3 (.bool true))
 simp only [List.setIfInBounds_toArray, List.set_cons_zero, List.set_cons_succ] at hnew
 refine nameM hnew hm ?_
 clear hnew hm
 rintro w2 ⟨hnew, hm⟩
 clear bc0 bc1 bc2 bc3 bf0 bf1 bf2 bf3
 replace HF := qd (HF.out.mod hm (by simp <;> omega) (by simp <;> omega))
 have z5 := (hm).size
 replace Hmod := qd (Hmod.out.tr hm)
 replace HB := qd hnew
 clear hnew hm
 obtain ⟨bc0, bc1, bc2, bc3⟩ := HB.out.c4
 go_wp2
 refine bodyPost_ret (v := .tuple #[.pointer (some ⟨fb, 0, none⟩), .nilIface]) (by simp [results, Tryz.results111, go_sem]) rfl ⟨rfl, HF.out, Hmod.out⟩
end
end Go.Proofs.YtcgjgfgkdoohlaaGreatDoor
