/- Package evac by its contracts. -/
import Derived.Test.YtcgjgfgkdoohlaaGreatDoorCoAE
import Derived.Test.YtcgjgfgkdoohlaaGreatDoorCoN
import Derived.Test.YtcgjgfgkdoohlaaGreatDoorLaneP
namespace Go.Proofs.YtcgjgfgkdoohlaaGreatDoor
section
set_option maxRecDepth 100000
set_option maxHeartbeats 4000000
open Go.RowKit AmC
def sideOf (k depth hash : Nat) : Nat := if k = 1 then 0 else bitOf hash depth
structure EvAt (w : World) (eb tb vb cap : Nat) (ts : List Nat) (depth next : Nat) : Prop where
 blk : Blk w eb 240 #[.pointer (some ⟨tb, 0, none⟩), .slice (some ⟨vb, 0, none⟩) ts.length cap, .int .i64 (depth : Int), .int .i64 (next : Int)]
 row : RowAt w vb ts
theorem EvAt.mod {S : List Nat} {w w' : World} {eb tb vb cap : Nat} {ts : List Nat} {depth next : Nat} (h : EvAt w eb tb vb cap ts depth next) (hm : Mod S w w') (h1 : eb ∉ S) (h2 : vb ∉ S) : EvAt w' eb tb vb cap ts depth next := ⟨h.blk.mod hm h1, h.row.mod hm h2⟩
theorem EvAt.lt {w : World} {eb tb vb cap : Nat} {ts : List Nat} {depth next : Nat} (h : EvAt w eb tb vb cap ts depth next) : eb < w.heap.size := h.blk.lt
theorem EvAt.ltV {w : World} {eb tb vb cap : Nat} {ts : List Nat} {depth next : Nat} (h : EvAt w eb tb vb cap ts depth next) : vb < w.heap.size := h.row.lt
theorem sub_nat {a b : Nat} (h : b ≤ a) : (a : Int) - (b : Int) = ((a - b : Nat) : Int) := by omega
theorem evac_Left (eb tb gb vb cap : Nat) (ts : List Nat) (depth next : Nat) (T : TabM) (w : World) (h : EvAt w eb tb vb cap ts depth next) (ht : TabAt w tb gb T) (hle : next ≤ T.gs.length) (h64 : T.gs.length ≤ 64) :
  Calls Tryz.prog 128 #[.pointer (some ⟨eb, 0, none⟩)] w fun e w' => e = .returned (.int .i64 ((T.gs.length - next : Nat) : Int)) ∧ w.drew = w' := by
 obtain ⟨tc0, tc1, tc2⟩ := ht.cells
 obtain ⟨n, hn⟩ : ∃ n, n = T.gs.length := ⟨_, rfl⟩
 have HG := qd (table_Groups tb gb T w.drew (ht.below (Below.refl _ _).drew))
 rw [← hn] at HG hle h64 ⊢
 unfold tabP at HG
 have HE := qd (h)
 have Hmod := qd (Mod.refl [] w)
 have HEb := qd h.blk
 clear h ht
 obtain ⟨ec0, ec1, ec2, ec3⟩ := HEb.out.c4
 have hwr : IntKind.i64.wrap ((n : Int) - (next : Int)) = ((n - next : Nat) : Int) := by rw [sub_nat hle]; rw [IntKind.wrap_i64]; omega
 clear tc0 tc1 tc2 hn
 go_enter Tryz.func128, Tryz.ntmps128
 go_upto_region 1 with fail
 refine region_T (fun (w' : World) => w'.cell? ⟨eb, 0, none⟩ = some (.pointer (some ⟨tb, 0, none⟩)) ∧ w'.cell? ⟨eb, 3, none⟩ = some (.int .i64 (next : Int))) [] (by kernel_rfl) ?_
 try (change wpAnyT _ _ _ _ _ _ _ _ _ (World.drew _))
 have hHeld := (⟨ec0, ec3⟩ : _ ∧ _)
 refine tW 0 (some 3) (.pointer (some ⟨eb, 0, none⟩)) rfl hHeld ?_
 try simp only [pt]
 refine tW 1 (some 4) (.pointer (some ⟨eb, 0, none⟩)) rfl hHeld ?_
 try simp only [pt]
 refine tW 2 (some 5) (.pointer (some ⟨eb, 0, none⟩)) rfl hHeld ?_
 try simp only [pt]
 refine tT 3 (some 6) (.pointer (some ⟨tb, 0, none⟩)) rfl (by rintro w ⟨hh0, hh1⟩; go_simp) hHeld ?_
 try simp only [pt]
 refine tW 5 (some 8) (.pointer (some ⟨eb, 0, none⟩)) rfl hHeld ?_
 try simp only [pt]
 refine tW 6 (some 9) (.pointer (some ⟨eb, 0, none⟩)) rfl hHeld ?_
 try simp only [pt]
 refine tW 7 (some 10) (.pointer (some ⟨eb, 3, none⟩)) rfl hHeld ?_
 try simp only [pt]
 refine tT 8 (some 11) (.int .i64 (next : Int)) rfl (by rintro w ⟨hh0, hh1⟩; go_simp) hHeld ?_
 try simp only [pt]
 refine nT 4 (some 7) rfl fun K hK => ?_
 go_simp
 refine (HG.out).mono ?_
 rintro y w1 ⟨rfl, rfl⟩
 go_wp2_with fail
 have hHeld := (⟨ec0, ec3⟩ : _ ∧ _)
 refine hK.out _ _ (fun _ => hHeld) ?_
 clear hK K
 try simp only [pt]
 refine tW 9 (some 12) (.int .i64 ((n - next : Nat) : Int)) rfl hHeld ?_
 try simp only [pt]
 refine tW 10 (some 2) (.int .i64 ((n - next : Nat) : Int)) rfl hHeld ?_
 try simp only [pt]
 refine doneT (by kernel_rfl) ?_ _
 go_wp2
 go_ret
 exact ⟨rfl, rfl⟩
theorem evac_Target (eb tb vb cap : Nat) (ts : List Nat) (depth next hash t : Nat) (hk : 1 ≤ ts.length ∧ ts.length ≤ 2) (hd : depth ≤ 15) (h64 : hash < 18446744073709551616) (ht : ts[sideOf ts.length depth hash]? = some t) (w : World) (h : EvAt w eb tb vb cap ts depth next) :
  Calls Tryz.prog 136 #[.pointer (some ⟨eb, 0, none⟩), .int .u64 (hash : Int)] w fun e w' => e = .returned (tabP t) ∧ Below w.heap.size w w' := by
 obtain ⟨ec0, ec1, ec2, ec3⟩ := h.blk.c4
 have hr := h.row.at_ _ _ ht
 have HT := qd ht
 unfold tabP
 clear h ht
 by_cases h1 : ts.length = 1
 ·have hs : sideOf ts.length depth hash = 0 := by unfold sideOf; rw [if_pos h1]
  rw [hs] at hr
  rw [h1] at ec1
  go_enter Tryz.func136, Tryz.ntmps136
  go_wp2
  go_ret
  exact ⟨rfl, Below.refl _ _⟩
 ·have h2 : ts.length = 2 := by omega
  have hs : sideOf ts.length depth hash = bitOf hash depth := by unfold sideOf; rw [if_neg h1]
  rw [hs] at hr
  rw [h2] at ec1
  clear hs h1 HT
  have hbl : bitOf hash depth < 2 := Nat.mod_lt _ (by omega)
  have HBt := qd (split_Bit hash depth h64 hd w.drew)
  generalize bitOf hash depth = sd at *
  have hsd : (sd : Int) < 2 := by omega
  have hsd0 : (0 : Int) ≤ (sd : Int) := by omega
  have HMu := qd (must_int (sd : Int) w.drew)
  go_enter Tryz.func136, Tryz.ntmps136
  go_upto_region 3 with fail
  refine region_T (fun (w' : World) => w'.cell? ⟨eb, 1, none⟩ = some (.slice (some ⟨vb, 0, none⟩) 2 cap) ∧ w'.cell? ⟨eb, 2, none⟩ = some (.int .i64 (depth : Int)) ∧ w'.cell? ⟨vb, sd, none⟩ = some (.pointer (some ⟨t, 0, none⟩))) [] (by kernel_rfl) ?_
  try (change wpAnyT _ _ _ _ _ _ _ _ _ (World.drew _))
  have hHeld := (⟨ec1, ec2, hr⟩ : _ ∧ _ ∧ _)
  refine tW 0 (some 17) (.pointer (some ⟨eb, 0, none⟩)) rfl hHeld ?_
  try simp only [pt]
  refine tW 1 (some 18) (.pointer (some ⟨eb, 0, none⟩)) rfl hHeld ?_
  try simp only [pt]
  refine tW 2 (some 19) (.pointer (some ⟨eb, 1, none⟩)) rfl hHeld ?_
  try simp only [pt]
  refine tT 3 (some 20) (.slice (some ⟨vb, 0, none⟩) 2 cap) rfl (by rintro w ⟨hh0, hh1, hh2⟩; go_simp) hHeld ?_
  try simp only [pt]
  refine tW 4 (some 21) (.int .u64 (hash : Int)) rfl hHeld ?_
  try simp only [pt]
  refine tW 5 (some 22) (.pointer (some ⟨eb, 0, none⟩)) rfl hHeld ?_
  try simp only [pt]
  refine tW 6 (some 23) (.pointer (some ⟨eb, 0, none⟩)) rfl hHeld ?_
  try simp only [pt]
  refine tW 7 (some 24) (.pointer (some ⟨eb, 2, none⟩)) rfl hHeld ?_
  try simp only [pt]
  refine tT 8 (some 25) (.int .i64 (depth : Int)) rfl (by rintro w ⟨hh0, hh1, hh2⟩; go_simp) hHeld ?_
  try simp only [pt]
  refine nT 9 (some 26) rfl fun K hK => ?_
  go_simp
  refine (HBt.out).mono ?_
  rintro y w1 ⟨rfl, rfl⟩
  go_wp2_with fail
  have hHeld := (⟨ec1, ec2, hr⟩ : _ ∧ _ ∧ _)
  refine hK.out _ _ (fun _ => hHeld) ?_
  clear hK K
  try simp only [pt]
  refine tW 10 (some 27) (.int .i64 (sd : Int)) rfl hHeld ?_
  try simp only [pt]
  refine tW 11 (some 28) .nilIface rfl hHeld ?_
  try simp only [pt]
  refine nT 12 (some 29) rfl fun K hK => ?_
  go_simp
  refine (HMu.out).mono ?_
  rintro y w1 ⟨rfl, rfl⟩
  go_wp2_with fail
  have hHeld := (⟨ec1, ec2, hr⟩ : _ ∧ _ ∧ _)
  refine hK.out _ _ (fun _ => hHeld) ?_
  clear hK K
  try simp only [pt]
  refine tW 13 (some 30) (.pointer (some ⟨vb, sd, none⟩)) rfl hHeld ?_
  try simp only [pt]
  refine tT 14 (some 31) (.pointer (some ⟨t, 0, none⟩)) rfl (by rintro w ⟨hh0, hh1, hh2⟩; go_simp) hHeld ?_
  try simp only [pt]
  refine tW 15 (some 4) (.pointer (some ⟨t, 0, none⟩)) rfl hHeld ?_
  try simp only [pt]
  refine doneT (by kernel_rfl) ?_ _
  go_wp2
  go_ret
  exact ⟨rfl, (Below.refl _ _).drew⟩
end
section
open Go AmC
def putNew (T : TabM) (e : Ent) : TabM := match (seek T.gs e.key e.hash).2.1 with
 | some x => placeM T x.1 x.2 e
 | none => T
structure CanPut (T : TabM) (e : Ent) : Prop where
 ok : TOk T
 h64 : e.hash < 18446744073709551616
 none_ : (seek T.gs e.key e.hash).1 = none
 free : ∃ i s, (seek T.gs e.key e.hash).2.1 = some (i, s)
 room : T.live + T.tombs + 1 ≤ 7 * (T.gs.length : Int)
def noT : TabM := ⟨[], 0, 0⟩
def moveOne (k d : Nat) (st : Mtr × List TabM) (e : Ent) : Mtr × List TabM :=
 (st.1.add cV (seek (st.2.getD (sideOf k d e.hash) noT).gs e.key e.hash).2.2, st.2.set (sideOf k d e.hash) (putNew (st.2.getD (sideOf k d e.hash) noT) e))
def moveL (k d : Nat) (st : Mtr × List TabM) (es : List Ent) : Mtr × List TabM := es.foldl (moveOne k d) st
def Fits (k d : Nat) : List TabM → List Ent → Prop
 | _, [] => True
 | Ts, e :: es => (∃ T, Ts[sideOf k d e.hash]? = some T ∧ CanPut T e) ∧ Fits k d (Ts.set (sideOf k d e.hash) (putNew (Ts.getD (sideOf k d e.hash) noT) e)) es
theorem moveL_snoc (k d : Nat) (st : Mtr × List TabM) {es : List Ent} {j : Nat} {e : Ent} (h : es[j]? = some e) : moveL k d st (es.take (j + 1)) = moveOne k d (moveL k d st (es.take j)) e := by
 unfold moveL; rw [take_nx h, List.foldl_append]; rfl
theorem fits_at {k d : Nat} : ∀ {es : List Ent} {x : Mtr} {Ts : List TabM} {j : Nat} {e : Ent}, Fits k d Ts es → es[j]? = some e → ∃ T, (moveL k d (x, Ts) (es.take j)).2[sideOf k d e.hash]? = some T ∧ CanPut T e
 | [], _, _, _, _, _, h => by simp at h
 | e0 :: es, x, Ts, 0, e, hf, h => by
  simp at h; subst h
  exact hf.1
 | e0 :: es, x, Ts, j + 1, e, hf, h => by
  rw [List.getElem?_cons_succ] at h
  have := fits_at (x := x.add cV (seek (Ts.getD (sideOf k d e0.hash) noT).gs e0.key e0.hash).2.2) hf.2 h
  exact this
structure TabsAt (w : World) (bs : List (Nat × Nat)) (Ts : List TabM) : Prop where
 len : bs.length = Ts.length
 at_ : ∀ (j : Nat) (b : Nat × Nat) (T : TabM), bs[j]? = some b → Ts[j]? = some T → TabAt w b.1 b.2 T
 ne : ∀ (i j : Nat) (b c : Nat × Nat), bs[i]? = some b → bs[j]? = some c → i ≠ j → b.1 ≠ c.1 ∧ b.1 ≠ c.2 ∧ b.2 ≠ c.1 ∧ b.2 ≠ c.2
def flatB (bs : List (Nat × Nat)) : List Nat := bs.flatMap fun b => [b.1, b.2]
theorem mem_flatB {bs : List (Nat × Nat)} {k : Nat} : k ∈ flatB bs ↔ ∃ b ∈ bs, k = b.1 ∨ k = b.2 := by simp [flatB]
theorem TabsAt.mod {S : List Nat} {w w' : World} {bs : List (Nat × Nat)} {Ts : List TabM} (h : TabsAt w bs Ts) (hm : Mod S w w') (hs : ∀ b ∈ bs, b.1 ∉ S ∧ b.2 ∉ S) : TabsAt w' bs Ts :=
 ⟨h.len, fun j b T hb hT => (h.at_ j b T hb hT).mod hm (hs b (List.mem_of_getElem? hb)).1 (hs b (List.mem_of_getElem? hb)).2, h.ne⟩
theorem TabsAt.set_ {S : List Nat} {w w' : World} {bs : List (Nat × Nat)} {Ts : List TabM} (h : TabsAt w bs Ts) {j : Nat} {b : Nat × Nat} {T' : TabM} (hb : bs[j]? = some b) (hT : TabAt w' b.1 b.2 T')
  (hm : Mod S w w') (hs : ∀ k ∈ S, k = b.1 ∨ k = b.2 ∨ ∀ c ∈ bs, k ≠ c.1 ∧ k ≠ c.2) : TabsAt w' bs (Ts.set j T') := by
 refine ⟨by rw [List.length_set]; exact h.len, fun i c T hc hT2 => ?_, h.ne⟩
 rw [List.getElem?_set] at hT2
 by_cases hij : j = i
 ·subst hij
  rw [hb] at hc; cases hc
  obtain ⟨hlt, _⟩ := List.getElem?_eq_some_iff.1 hb
  rw [if_pos rfl, if_pos (by rw [← h.len]; exact hlt)] at hT2
  cases hT2
  exact hT
 ·rw [if_neg hij] at hT2
  have hne := h.ne j i b c hb hc hij
  have hcm := List.mem_of_getElem? hc
  refine (h.at_ i c T hc hT2).mod hm (fun hk => ?_) (fun hk => ?_)
  ·rcases hs _ hk with e | e | e
   ·exact hne.1 e.symm
   ·exact hne.2.2.1 e.symm
   ·exact (e c hcm).1 rfl
  ·rcases hs _ hk with e | e | e
   ·exact hne.2.1 e.symm
   ·exact hne.2.2.2 e.symm
   ·exact (e c hcm).2 rfl
end
section
set_option maxRecDepth 100000
set_option maxHeartbeats 4000000
open Go.RowKit AmC
theorem table_Take {W0 : World} {E : Nat → Addr} (tb gb : Nat) (T : TabM) (P : MP) (x : Mtr) (c : Cnt) (g : Nat) (hg : g < T.gs.length) (hok : TOk T) (w : World) (h : TabAt w tb gb T) (hM : MetP w P x) (hE : Env W0 E w) (hmt : P.mb ≠ tb) (hmg : P.mb ≠ gb) (hb0 : W0.heap.size ≤ P.mb) (hb1 : W0.heap.size ≤ tb) (hb2 : W0.heap.size ≤ gb) :
  Calls Tryz.prog 216 #[tabP tb, lensV (some ⟨P.mb, P.mo, none⟩) c, .int .i64 (g : Int)] w fun e w' => ∃ A cc, e = .returned (.tuple #[.slice A (entsG (T.gs.getD g [])).length cc, .nilIface]) ∧
   w'.ownsRow w.heap.size 37 3 (.slice A (entsG (T.gs.getD g [])).length cc) (entsG (T.gs.getD g [])).length ((entsG (T.gs.getD g [])).flatMap entCells) ∧ TabAt w' tb gb (takeN T g 8) ∧ MetP w' P (x.add c 1) ∧ Mod [P.mb, tb, gb] w w' := by
 have hB := (Below.refl w.heap.size w).alloc (Nat.le_refl _) (.cells #[.pointer (some ⟨P.mb, P.mo, none⟩), .int .i64 c.p, .int .i64 c.v, .int .i64 c.u] 89)
 have hL := Blk.new w 89 #[.pointer (some ⟨P.mb, P.mo, none⟩), .int .i64 c.p, .int .i64 c.v, .int .i64 c.u]
 obtain ⟨W, hW⟩ : ∃ W, W = w.alloc (.cells #[.pointer (some ⟨P.mb, P.mo, none⟩), .int .i64 c.p, .int .i64 c.v, .int .i64 c.u] 89) := ⟨_, rfl⟩
 rw [← hW] at hB hL
 obtain ⟨lc0, lc1, lc2, lc3⟩ := hL.c4
 have hml := hM.lt
 have htl := h.ltT
 have hgl := h.ltG
 have hB0 := hE.size
 have HW := qd hW
 have hg0 : (g : Int) < (T.gs.length : Int) := by omega
 have HLk := qd (table_look tb gb T P.mb P.mt P.pre P.post P.mo x.all x.last P.m c g hg W (h.below hB) (hM.below hB) hmt hmg)
 have HOk := qd hok
 unfold tabP lensV viewV at HLk
 unfold tabP lensV
 have HT := qd (h.below hB)
 have HV0 := qd (hE.next hB)
 have Hmod := qd (Mod.of_below hB [P.mb, tb, gb])
 clear hW hB h hM hL hE hok
 generalize hGn : T.gs.getD g [] = G
 go_enter Tryz.func216, Tryz.ntmps216
 go_upto_region 1 with fail
 rw [← HW.out]
 go_wp2_with fail
 refine (HLk.out).mono ?_
 rintro x w1 ⟨rfl, hM1, hm⟩
 clear lc0 lc1 lc2 lc3
 replace HT := qd (HT.out.mod hm (by simp <;> omega) (by simp <;> omega))
 replace HV0 := qd (HV0.out.mod hm (by intro k hk <;> simp at hk <;> omega))
 replace Hmod := qd (Hmod.out.tr hm)
 clear hm
 have HM := qd (show MetP w1 P (x.add c 1) from hM1)
 clear hM1
 go_upto_region 4 with fail
 have q1 := HT.out.ltT
 have q2 := HT.out.ltG
 have q3 := HM.out.lt
 have z4 := Hmod.out.size
 refine nameB 138 #[.pointer (some ⟨gb, g * 25, none⟩)] ?_
 rintro w2 ⟨hnew, hb⟩
 obtain ⟨vb, hvb⟩ : ∃ vb, vb = w1.heap.size := ⟨_, rfl⟩
 rw [← hvb] at hnew ⊢
 replace hvb : w1.heap.size ≤ vb := by omega
 replace HT := qd (HT.out.mod (Mod.of_below hb []) (by simp) (by simp))
 replace HV0 := qd (HV0.out.mod (Mod.of_below hb []) (by simp))
 replace HM := qd (HM.out.mod (Mod.of_below hb []) (by simp))
 replace Hmod := qd (Hmod.out.then (Mod.of_below hb _))
 have HV := qd (hnew)
 clear hnew hb
 have z5 := Hmod.out.size
 have vc0 := HV.out.cell 0
 simp only [List.getElem?_toArray, List.getElem?_cons_zero] at vc0
 have HEn := qd (grp_Entries gb 167 _ _ (g * 25) _ w2 (HT.out.group g hg) HV0.out.tz)
 rw [hGn] at HEn
 unfold viewV at HEn
 go_wp2_with fail
 refine (HEn.out).mono ?_
 rintro x w3 ⟨A, cc, rfl, hO, hb⟩
 clear vc0
 replace HT := qd (HT.out.mod (Mod.of_below hb []) (by simp) (by simp))
 replace HV0 := qd (HV0.out.mod (Mod.of_below hb []) (by simp))
 replace HM := qd (HM.out.mod (Mod.of_below hb []) (by simp))
 replace HV := qd (HV.out.mod (Mod.of_below hb []) (by simp))
 replace Hmod := qd (Hmod.out.then (Mod.of_below hb _))
 clear hb
 have hwl := Hmod.out.size
 have HO := qd (hO)
 clear hO
 have q6 := HT.out.ltT
 have q7 := HT.out.ltG
 have q8 := HM.out.lt
 have q9 := HV.out.lt
 clear HW
 go_wp2
 go_loopw [11, 12, 13, 26] (fun _ _ _ i wr => ∃ k : Nat, k ≤ 8 ∧ i = .int .i64 k ∧ TabAt wr tb gb (takeN T g k) ∧ MetP wr P (x.add c 1) ∧ Env W0 E wr ∧ wr.ownsRow w2.heap.size 37 3 (.slice A (entsG G).length cc) (entsG G).length ((entsG G).flatMap entCells) ∧ Blk wr vb 138 #[.pointer (some ⟨gb, g * 25, none⟩)] ∧ Mod [P.mb, tb, gb] w wr) (fun _ _ _ i _ => 8 - (intOf i).toNat)
 case atStart => exact ⟨0, by omega, rfl, HT.out, HM.out, HV0.out, HO.out, HV.out, Hmod.out⟩
 case round =>
  clear HT HM HV0 HO HV Hmod
  obtain ⟨k, hk, rfl, hT, hM, hE, hO, hV, hm⟩ := hrel
  by_cases hlt : k < 8
  ·have hlt' : (k : Int) < 8 := by omega
   have HT := qd (hT)
   have HM := qd (hM)
   have HV0 := qd (hE)
   have HO := qd (hO)
   have HV := qd (hV)
   have Hmod := qd (hm)
   clear hT hM hE hO hV hm
   have hgk : g < (takeN T g k).gs.length := by rw [takeN_length]; exact hg
   have HG := qd (HT.out.group g hgk)
   have HOe := qd (HOk.out.tkN g k)
   have vc0 := HV.out.cell 0
   simp only [List.getElem?_toArray, List.getElem?_cons_zero] at vc0
   cases hsl : slotAt (takeN T g k).gs g k with
   | full e =>
    have HAt := qd (grp_At_full gb 167 _ _ (g * 25) _ wr HG.out k hlt e (by unfold slotAt at hsl; exact hsl))
    unfold viewV entV at HAt
    clear HG
    go_wp2_with fail
    refine (HAt.out).mono ?_
    rintro x w4 ⟨rfl, hb⟩
    clear vc0
    replace HT := qd (HT.out.mod (Mod.of_below hb []) (by simp) (by simp))
    replace HM := qd (HM.out.mod (Mod.of_below hb []) (by simp))
    replace HV0 := qd (HV0.out.mod (Mod.of_below hb []) (by simp))
    replace HO := qd (own_mod HO.out (Mod.of_below hb []) (by simp))
    replace HV := qd (HV.out.mod (Mod.of_below hb []) (by simp))
    replace Hmod := qd (Hmod.out.then (Mod.of_below hb _))
    clear hb
    clear HAt
    go_upto_region 10 with fail
    have q1 := HT.out.ltT
    have q2 := HT.out.ltG
    have q3 := HM.out.lt
    have q4 := HV.out.lt
    have z5 := Hmod.out.size
    refine nameB 37 #[.int .u64 (e.key : Int), .int .u64 (e.val : Int), .int .u64 (e.hash : Int)] ?_
    rintro w5 ⟨hnew, hb⟩
    replace HT := qd (HT.out.mod (Mod.of_below hb []) (by simp) (by simp))
    replace HM := qd (HM.out.mod (Mod.of_below hb []) (by simp))
    replace HV0 := qd (HV0.out.mod (Mod.of_below hb []) (by simp))
    replace HO := qd (own_mod HO.out (Mod.of_below hb []) (by simp))
    replace HV := qd (HV.out.mod (Mod.of_below hb []) (by simp))
    replace Hmod := qd (Hmod.out.then (Mod.of_below hb _))
    have HD := qd (hnew)
    clear hnew hb
    have vc0 := HV.out.cell 0
    simp only [List.getElem?_toArray, List.getElem?_cons_zero] at vc0
    have HEr := qd (table_erase tb gb (takeN T g k) g k hgk hlt e hsl HOe.out.small w5 HT.out)
    unfold tabP placeV at HEr
    clear HT
    clear HD
    go_wp2_with fail
    refine (HEr.out).mono ?_
    rintro x w6 ⟨rfl, hT6, hm⟩
    clear vc0
    replace HM := qd (HM.out.mod hm (by simp <;> omega))
    replace HV0 := qd (HV0.out.mod hm (by intro k hk <;> simp at hk <;> omega))
    replace HO := qd (own_mod HO.out hm (by intro k hk <;> simp at hk <;> omega))
    replace HV := qd (HV.out.mod hm (by simp <;> omega))
    replace Hmod := qd (Hmod.out.tr hm)
    clear hm
    have HT := qd (hT6)
    clear hT6
    have HNx := qd (show takeN T g (k + 1) = eraseM (takeN T g k) g k from by show eraseIf _ _ _ = _; unfold eraseIf; rw [hsl]; rfl)
    clear hsl
    go_wp2
    go_roundw
    case rel => exact ⟨k + 1, by omega, by go_num, by rw [HNx.out]; exact HT.out, HM.out, HV0.out, HO.out, HV.out, Hmod.out⟩
    case measure => simp [intOf]; omega
   | empty =>
    have HAt := qd (grp_At_no gb 167 _ _ (g * 25) _ wr HG.out k hlt (by unfold slotAt at hsl; rw [hsl]; rfl) E (HV0.out.errs.at_ 5 (by omega) (by omega)))
    unfold viewV entV at HAt
    clear HG
    go_wp2_with fail
    refine (HAt.out).mono ?_
    rintro x w4 ⟨rfl, hb⟩
    clear vc0
    replace HT := qd (HT.out.mod (Mod.of_below hb []) (by simp) (by simp))
    replace HM := qd (HM.out.mod (Mod.of_below hb []) (by simp))
    replace HV0 := qd (HV0.out.mod (Mod.of_below hb []) (by simp))
    replace HO := qd (own_mod HO.out (Mod.of_below hb []) (by simp))
    replace HV := qd (HV.out.mod (Mod.of_below hb []) (by simp))
    replace Hmod := qd (Hmod.out.then (Mod.of_below hb _))
    clear hb
    clear HAt
    have HNx := qd (show takeN T g (k + 1) = takeN T g k from by show eraseIf _ _ _ = _; unfold eraseIf; rw [hsl]; rfl)
    clear hsl
    go_upto_region 11 with fail
    have q1 := HT.out.ltT
    have q2 := HT.out.ltG
    have q3 := HM.out.lt
    have q4 := HV.out.lt
    have z5 := Hmod.out.size
    refine nameB 37 #[.int .u64 0, .int .u64 0, .int .u64 0] ?_
    rintro w5 ⟨hnew, hb⟩
    replace HT := qd (HT.out.mod (Mod.of_below hb []) (by simp) (by simp))
    replace HM := qd (HM.out.mod (Mod.of_below hb []) (by simp))
    replace HV0 := qd (HV0.out.mod (Mod.of_below hb []) (by simp))
    replace HO := qd (own_mod HO.out (Mod.of_below hb []) (by simp))
    replace HV := qd (HV.out.mod (Mod.of_below hb []) (by simp))
    replace Hmod := qd (Hmod.out.then (Mod.of_below hb _))
    have HD := qd (hnew)
    clear hnew hb
    go_wp2
    go_roundw
    case rel => exact ⟨k + 1, by omega, by go_num, by rw [HNx.out]; exact HT.out, HM.out, HV0.out, HO.out, HV.out, Hmod.out⟩
    case measure => simp [intOf]; omega
   | tomb =>
    have HAt := qd (grp_At_no gb 167 _ _ (g * 25) _ wr HG.out k hlt (by unfold slotAt at hsl; rw [hsl]; rfl) E (HV0.out.errs.at_ 5 (by omega) (by omega)))
    unfold viewV entV at HAt
    clear HG
    go_wp2_with fail
    refine (HAt.out).mono ?_
    rintro x w4 ⟨rfl, hb⟩
    clear vc0
    replace HT := qd (HT.out.mod (Mod.of_below hb []) (by simp) (by simp))
    replace HM := qd (HM.out.mod (Mod.of_below hb []) (by simp))
    replace HV0 := qd (HV0.out.mod (Mod.of_below hb []) (by simp))
    replace HO := qd (own_mod HO.out (Mod.of_below hb []) (by simp))
    replace HV := qd (HV.out.mod (Mod.of_below hb []) (by simp))
    replace Hmod := qd (Hmod.out.then (Mod.of_below hb _))
    clear hb
    clear HAt
    have HNx := qd (show takeN T g (k + 1) = takeN T g k from by show eraseIf _ _ _ = _; unfold eraseIf; rw [hsl]; rfl)
    clear hsl
    go_upto_region 11 with fail
    have q1 := HT.out.ltT
    have q2 := HT.out.ltG
    have q3 := HM.out.lt
    have q4 := HV.out.lt
    have z5 := Hmod.out.size
    refine nameB 37 #[.int .u64 0, .int .u64 0, .int .u64 0] ?_
    rintro w5 ⟨hnew, hb⟩
    replace HT := qd (HT.out.mod (Mod.of_below hb []) (by simp) (by simp))
    replace HM := qd (HM.out.mod (Mod.of_below hb []) (by simp))
    replace HV0 := qd (HV0.out.mod (Mod.of_below hb []) (by simp))
    replace HO := qd (own_mod HO.out (Mod.of_below hb []) (by simp))
    replace HV := qd (HV.out.mod (Mod.of_below hb []) (by simp))
    replace Hmod := qd (Hmod.out.then (Mod.of_below hb _))
    have HD := qd (hnew)
    clear hnew hb
    go_wp2
    go_roundw
    case rel => exact ⟨k + 1, by omega, by go_num, by rw [HNx.out]; exact HT.out, HM.out, HV0.out, HO.out, HV.out, Hmod.out⟩
    case measure => simp [intOf]; omega
  ·obtain rfl : k = 8 := by omega
   have HF := qd (And.intro hT (And.intro hM (And.intro (own_base hO (show w.heap.size ≤ w2.heap.size by omega)) hm)))
   clear hT hM hE hO hV hm
   have hlt' : ¬ ((8 : Nat) : Int) < 8 := by omega
   go_wp2
   refine bodyPost_ret (v := .tuple #[.slice A (entsG G).length cc, .nilIface]) (by simp [results, Tryz.results216, go_sem]) rfl ⟨A, cc, rfl, HF.out.2.2.1, HF.out.1, HF.out.2.1, HF.out.2.2.2⟩
end
end Go.Proofs.YtcgjgfgkdoohlaaGreatDoor
