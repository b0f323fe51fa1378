/- A new core; a core's Groups; a plan's Groups. -/
import Derived.Test.YtfojgfddgplinaaGreatDoorCoCP
import Derived.Test.YtfojgfddgplinaaGreatDoorLaneP
import Derived.Test.YtfojgfddgplinaaGreatDoorSqM
import Derived.Test.YtfojgfddgplinaaGreatDoorCoBO
namespace Go.Proofs.YtfojgfddgplinaaGreatDoor
section
set_option maxRecDepth 100000
set_option maxHeartbeats 4000000
open Go.RowKit AmC
variable {W0 w : World} {E : Nat → Addr} {N : Nd} {H : Nat → Nat}
def nd0 : Nd := ⟨0, 0, 0, 0, prepT 1 1, .idle⟩
def pool0 : Pool := ⟨[nd0], 0, [0], none⟩
theorem nd0_ok (H : Nat → Nat) : NOk H nd0 := by
 obtain ⟨h1, h2, h3⟩ := tg_bare (n := 1) (.inl rfl)
 have hE : nd0.ents = [] := by unfold Nd.ents nd0; rw [h2]; rfl
 refine ⟨h1, Nat.zero_le _, .inl rfl, by decide, Nat.zero_le _, by rw [hE]; exact List.nodup_nil, fun e he => (by rw [hE] at he; cases he), by rw [hE]; exact Nat.zero_le _, rfl, ?_⟩
 show load (prepT 1 1) ≤ _
 rw [h3]; exact Nat.zero_le _
theorem ents0 : pool0.ents = [] := by
 obtain ⟨h1, h2, h3⟩ := tg_bare (n := 1) (.inl rfl)
 have hE : nd0.ents = [] := by unfold Nd.ents nd0; rw [h2]; rfl
 unfold Pool.ents pool0
 simp [hE]
theorem inv0 : CInv pool0 [] [] := by
 have hget : ∀ (i : Nat) (N : Nd), pool0.Ns[i]? = some N → i = 0 ∧ N = nd0 := fun i N hN => by
  have h1 : i < 1 := get_lt hN
  obtain rfl : i = 0 := by omega
  exact ⟨rfl, (Option.some.inj hN).symm⟩
 refine ⟨⟨fun i N hN => ?_, fun j hj => ?_, fun i N j hN hj hp => ?_, rfl, fun i N hN hb => ?_, fun c hc => by cases hc⟩, fun id => ?_, List.nodup_nil, List.nodup_nil, fun i hi => (by cases hi), fun i hi => (by cases hi), fun i hi => (by cases hi), fun i N hN _ => ?_⟩
 ·obtain ⟨_, rfl⟩ := hget i N hN; exact ⟨Nat.le_refl _, by decide⟩
 ·have h1 : j < 1 := hj
  obtain rfl : j = 0 := by omega
  exact ⟨nd0, rfl, rfl⟩
 ·obtain ⟨rfl, rfl⟩ := hget i N hN
  have h1 : j < 1 := hj
  obtain rfl : j = 0 := by omega
  rfl
 ·obtain ⟨_, rfl⟩ := hget i N hN; cases hb
 ·constructor
  ·rintro (⟨N, h1, h2⟩ | ⟨_, _, c, h3⟩)
   ·obtain ⟨_, rfl⟩ := hget id N h1; cases h2
   ·cases h3
  ·rintro (h | h) <;> cases h
 ·obtain ⟨_, rfl⟩ := hget i N hN; rfl
def coreCells (K M I db sb vb : Nat) : Array Value := #[.int .i64 (K : Int), .int .i64 (M : Int), .int .i64 (I : Int), .int .i64 0, .int .i64 0, .int .i64 0, .int .i64 0, .int .i64 0, .int .i64 0, .bool false, .int .i64 0, .slice (some ⟨vb, 0, none⟩) 1 1, .pointer (some ⟨db, 0, none⟩), .pointer none, .pointer (some ⟨sb, 0, none⟩), .int .i64 0]
def st0 : CSt := ⟨pool0, [], 0, 0, mtr0⟩
def adr0 (nb db eb : Nat) : Adr := ⟨fun _ => nb, db, eb, 0, 0, 0⟩
theorem CoreF.fresh (H : Nat → Nat) {w5 : World} {nb tb gb db eb sb qb rb jb vb K M I : Nat} (hE : Env W0 E w) (hK : 1 ≤ K ∧ K ≤ 64) (hM : 1 ≤ M ∧ M ≤ 192) (hb : Below w.heap.size w w5) (hN : NdAt w5 nb [nb, tb, gb] nd0) (hD : DirAt w5 db eb 0 [0]) (hS : SchAt w5 sb qb rb jb (K : Int) 0 (adr0 nb db eb).val []) (hR : w5.ownsRow W0.heap.size 53 1 (.slice (some ⟨vb, 0, none⟩) 1 1) 1 [.pointer (some ⟨nb, 0, none⟩)]) (hlow : ∀ q ∈ [nb, tb, gb, db, eb, sb, qb, rb, jb, vb], w.heap.size ≤ q) (hap : ∀ q ∈ [nb, tb, gb], q ∉ [db, eb, sb, qb, rb, jb, vb]) (hap2 : ∀ q ∈ [db, eb], q ∉ [sb, qb, rb, jb, vb]) (hap3 : ∀ q ∈ [sb, qb, rb, jb], q ≠ vb) :
  ∃ F, CoreF W0 E H ⟨w5.heap.size, sb, qb, rb, jb, adr0 nb db eb, .slice (some ⟨vb, 0, none⟩) 1 1, K, M, I, 0⟩ w [] (w5.alloc (.cells (coreCells K M I db sb vb) 69)) F st0 := by
 have hb6 : Below w5.heap.size w5 (w5.alloc (.cells (coreCells K M I db sb vb) 69)) := (Below.refl _ _).alloc (Nat.le_refl _) _
 have hm6 := Mod.of_below hb6 []
 have hz := hb.size
 have hzW := hE.size
 have hvl := (hR.lt vb rfl).2
 have hNl := hN.lts
 have hSl := hS.lt
 have hgetN : ∀ (i : Nat) (N : Nd), [nd0][i]? = some N → i = 0 ∧ N = nd0 := fun i N hh => by
  have h1 : i < 1 := get_lt hh
  obtain rfl : i = 0 := by omega
  exact ⟨rfl, (Option.some.inj hh).symm⟩
 have hfp : ∀ q, q ∈ footP (adr0 nb db eb) (fun _ => [nb, tb, gb]) pool0 ↔ q ∈ [nb, tb, gb, db, eb] := fun q => by
  rw [mem_footP]
  constructor
  ·rintro (⟨i, _, hq⟩ | hq)
   ·simp at hq ⊢; omega
   ·unfold Adr.dirF adr0 pool0 at hq; simp at hq ⊢; omega
  ·intro hq
   by_cases h1 : q ∈ [nb, tb, gb]
   ·exact .inl ⟨0, by decide, h1⟩
   ·refine .inr ?_
    unfold Adr.dirF adr0 pool0
    simp at hq h1 ⊢; omega
 have hPool : PoolIn W0 w5.heap.size H (adr0 nb db eb) (w5.alloc (.cells (coreCells K M I db sb vb) 69)) (fun _ => [nb, tb, gb]) pool0 := by
  refine ⟨fun i N hi => ?_, hD.mod hm6 (by simp) (by simp), fun next lf hc => (by cases hc), fun i j hi hj hij => ?_, fun i hi q hq hq2 => ?_, fun q hq => ?_, fun hq => ?_, by decide⟩
  ·obtain ⟨_, rfl⟩ := hgetN i N hi
   exact ⟨hN.mod hm6 (by simp), nd0_ok H⟩
  ·have h1 : i < 1 := hi
   have h2 : j < 1 := hj
   omega
  ·unfold Adr.dirF adr0 pool0 at hq2
   exact hap q hq (by simp at hq2 ⊢; omega)
  ·have h1 := (hfp q).1 hq
   have := hlow q (by simp at h1 ⊢; omega)
   omega
  ·have h1 := (hfp _).1 hq
   simp at h1
   have h2 := hD.lt
   have h3 := hD.ltE
   have h4 := hNl nb (by simp)
   have h5 := hNl tb (by simp)
   have h6 := hNl gb (by simp)
   omega
 have hmet : MetP (w5.alloc (.cells (coreCells K M I db sb vb) 69)) (cmp ⟨w5.heap.size, sb, qb, rb, jb, adr0 nb db eb, .slice (some ⟨vb, 0, none⟩) 1 1, K, M, I, 0⟩ st0) mtr0 := ⟨rfl, Blk.new w5 69 (coreCells K M I db sb vb)⟩
 have hsb : ∀ q ∈ [sb, qb, rb, jb], q < w5.heap.size := hSl
 refine ⟨footP (adr0 nb db eb) (fun _ => [nb, tb, gb]) pool0, SchSt.start (hS.mod hm6 (by simp)) ⟨_, rfl, hPool⟩ hmet (hE.mod ((Mod.of_below hb []).then hm6) (by simp)) (fun q hq => ⟨fun hqF => ?_, ?_, ?_⟩) (by show W0.heap.size ≤ w5.heap.size; omega), hR.alloc _, fun g hg hq => ?_, by decide, hK, hM, hzW, fun q hq => ?_, (Mod.of_below hb []).then hm6⟩
 ·have hq' : q ∈ [sb, qb, rb, jb] := hq
  have h1 := (hfp q).1 hqF
  by_cases h2 : q ∈ [nb, tb, gb]
  ·exact hap q h2 (by simp at hq' ⊢; omega)
  ·exact hap2 q (by simp at h1 h2 ⊢; omega) (by simp at hq' ⊢; omega)
 ·have := hsb q hq
  show q ≠ w5.heap.size
  omega
 ·have hq' : q ∈ [sb, qb, rb, jb] := hq
  have := hlow q (by simp at hq' ⊢; omega)
  omega
 ·have hg' : g = vb := by simpa using (Option.some.inj hg).symm
  subst hg'
  have hq' : g = w5.heap.size ∨ g ∈ [sb, qb, rb, jb] ∨ g ∈ footP (adr0 nb db eb) (fun _ => [nb, tb, gb]) pool0 := by
   rcases List.mem_cons.1 hq with h3 | h3
   ·exact .inl h3
   ·exact .inr (List.mem_append.1 h3)
  rcases hq' with h1 | h1 | h1
  ·omega
  ·exact hap3 g h1 rfl
  ·have h2 := (hfp g).1 h1
   by_cases h3 : g ∈ [nb, tb, gb]
   ·exact hap g h3 (by simp)
   ·exact hap2 g (by simp at h2 h3 ⊢; omega) (by simp)
 ·right
  rcases mem_foot.1 hq with h1 | h1 | h1 | h1
  ·have h2 : q = w5.heap.size := h1
   omega
  ·have h2 : q ∈ [sb, qb, rb, jb] := h1
   exact hlow q (by simp at h2 ⊢; omega)
  ·have h2 := (hfp q).1 h1
   exact hlow q (by simp at h2 ⊢; omega)
  ·have h2 : q = vb := by simpa using (Option.some.inj h1).symm
   exact hlow q (by simp [h2])
def groupsTo (Ns : List Nd) (i : Nat) : Nat := ((Ns.take i).map Nd.groups).sum
theorem groupsTo_next {Ns : List Nd} {i : Nat} (h : Ns[i]? = some N) : groupsTo Ns (i + 1) = groupsTo Ns i + N.groups := by
 unfold groupsTo
 rw [List.take_add_one, h]
 simp
theorem groups_le (h : NOk H N) : N.groups ≤ 192 := by
 have h1 := h.pw.le
 have hph := h.ph
 unfold PhOk at hph
 unfold Nd.groups
 cases hp : N.ph with
 | idle => simp [Phase.busy]; omega
 | bld k =>
  rw [hp] at hph
  have := kind_each h.pw hph.1
  simp [Phase.busy]; omega
 | mov Ts next =>
  rw [hp] at hph
  have := kind_each h.pw hph.1
  simp [Phase.busy]; omega
theorem core_Groups {C : CPl} {w0 : World} {G0 : List Nat} {F : List Nat} {st : CSt} (h : CoreF W0 E H C w0 G0 w F st) : Calls Tryz.prog 16 #[coreP C.mb] w fun e w' => e = .returned (.int .i64 (st.a.groups : Int)) ∧ w = w' := by
 obtain ⟨b1, b2, b3, b4⟩ := h.bounds
 have HC := qd h
 obtain ⟨c0, c1, c11, c12, c13, c14, c15⟩ := HC.out.cells
 obtain ⟨vb, cap, hv, hr⟩ := h.rowAt
 rw [hv] at c11
 obtain ⟨Fs, hF, hp⟩ := h.sch.pool
 have HR := qd hr
 have HP := qd hp
 have HB4 := qd b4
 obtain ⟨Ns, hNs⟩ : ∃ Ns, Ns = st.a.Ns := ⟨_, rfl⟩
 have HNs := qd hNs
 obtain ⟨n, hn⟩ : ∃ n, n = st.a.Ns.length := ⟨_, rfl⟩
 have hn32 : n ≤ 32 := by omega
 have HNn := qd hn
 rw [← hn] at c11
 clear h hv hr hp hF b1 b2 b3 b4 hNs hn
 unfold coreP
 go_in
 go_wp2
 go_loopw [3, 5, 11] (fun v3 _ v11 wr => ∃ (i s : Nat), i ≤ n ∧ s ≤ 192 * i ∧ v11 = .int .i64 (i : Int) ∧ v3 = .int .i64 (s : Int) ∧ Hid (s = groupsTo st.a.Ns i) ∧ wr = w) (fun _ _ v11 _ => n - (intOf v11).toNat)
 case atStart => exact ⟨0, 0, by omega, by omega, rfl, rfl, qd rfl, rfl⟩
 case round =>
  obtain ⟨i, s, hi, hs, rfl, rfl, HS, rfl⟩ := hrel
  by_cases hlt : i < n
  ·have hlt' : (i : Int) < (n : Int) := by omega
   have hi0 : (0 : Int) ≤ (i : Int) := by omega
   obtain ⟨N, hN⟩ : ∃ N, st.a.Ns[i]? = some N := ⟨_, List.getElem?_eq_getElem (by have := HNn.out; omega)⟩
   obtain ⟨hA, hO⟩ := HP.out.nds i N hN
   have cr := HR.out i (get_lt hN)
   have HG := qd (nd_Groups hA hO)
   have hgl := groups_le hO
   obtain ⟨gr, hgr⟩ : ∃ gr, gr = N.groups := ⟨_, rfl⟩
   rw [← hgr] at HG hgl
   have HSn := qd (show s + gr = groupsTo st.a.Ns (i + 1) from by rw [groupsTo_next hN, ← HS.out, hgr])
   unfold nodeP at HG
   clear hN hA hO hgr
   go_wp2_with fail
   refine HG.out.mono ?_
   rintro x w1 ⟨rfl, rfl⟩
   go_wp2
   go_roundw
   case rel => exact ⟨i + 1, s + gr, by omega, by omega, by go_num, by first | go_num | (simp; omega), HSn, by trivial⟩
   case measure => simp [intOf]; omega
  ·obtain rfl : i = n := by omega
   have hlt' : ¬ (i : Int) < (i : Int) := by omega
   have HF := qd (show s = st.a.groups from by rw [HS.out, HNn.out]; unfold groupsTo Pool.groups; rw [List.take_length])
   go_wp2
   go_ret
   rw [← HF.out]
   exact ⟨rfl, rfl⟩
end
section
set_option maxRecDepth 100000
set_option maxHeartbeats 4000000
open Go.RowKit AmC
variable {W0 w : World} {E : Nat → Addr}
def NewAt (W0 : World) (E : Nat → Addr) (H : Nat → Nat) (K M : Nat) (w : World) (mb : Nat) (w' : World) : Prop := ∃ (C : CPl) (F : List Nat), C.mb = mb ∧ C.K = K ∧ C.M = M ∧ CoreF W0 E H C w [] w' F st0
theorem core_New_bad (hE : Env W0 E w) (k m i : Int) (hcf : cfgOk k m i = false) : Calls Tryz.prog 6 #[cfgV k m i] w fun e w' => e = .returned (.tuple #[.pointer none, errV E 1]) ∧ Below w.heap.size w w' := by
 have HEr := qd hE
 have hB0 := Blk.new w 23 #[.int .i64 k, .int .i64 m, .int .i64 i]
 have hb0 := (Below.refl w.heap.size w).alloc (Nat.le_refl _) (.cells #[.int .i64 k, .int .i64 m, .int .i64 i] 23)
 unfold cfgV
 go_in
 go_upto_region 1 with fail
 refine nameW (F := fun v => Blk v w.heap.size 23 #[.int .i64 k, .int .i64 m, .int .i64 i] ∧ Below w.heap.size w v) ⟨hB0, hb0⟩ ?_
 clear hB0 hb0
 rintro w1 ⟨hB1, hb1⟩
 obtain ⟨bx, hbx⟩ : ∃ bx, bx = w.heap.size := ⟨_, rfl⟩
 rw [← hbx] at hB1 ⊢
 have HBx := qd hbx
 have HB := qd hB1
 have HE1 := qd (hE.mod (Mod.of_below hb1 []) (by simp))
 have HBl := qd hb1
 obtain ⟨k0, k1, k2⟩ := hB1.c3
 have HCh := qd (plan_Check k m i w1 HE1.out.errs)
 rw [hcf] at HCh
 simp only [Bool.false_eq_true, if_false] at HCh
 rw [errV_pos E (by omega)] at HCh
 unfold cfgV at HCh
 clear hB1 hb1 hbx hE
 go_wp2_with fail
 refine HCh.out.mono ?_
 rintro y w2 ⟨rfl, hb2⟩
 go_wp2
 refine bodyPost_ret (v := .tuple #[.pointer none, .iface 238 (.pointer (some (E 1)))]) (by simp [results, Tryz.results6, go_sem]) rfl ⟨?_, below2 HBl.out hb2⟩
 rw [errV_pos E (by omega)]
theorem core_New (H : Nat → Nat) (hE : Env W0 E w) (k m i : Int) (hcf : cfgOk k m i = true) (K M I : Nat) (hkm : (1 ≤ K ∧ K ≤ 64) ∧ (1 ≤ M ∧ M ≤ 192) ∧ k = (K : Int) ∧ m = (M : Int) ∧ i = (I : Int)) : Calls Tryz.prog 6 #[cfgV k m i] w fun e w' => ∃ mb, e = .returned (.tuple #[coreP mb, .nilIface]) ∧ NewAt W0 E H K M w mb w' := by
 have HKk := qd hkm
 clear hkm
 have HEr := qd hE
 have hB0 := Blk.new w 23 #[.int .i64 k, .int .i64 m, .int .i64 i]
 have hb0 := (Below.refl w.heap.size w).alloc (Nat.le_refl _) (.cells #[.int .i64 k, .int .i64 m, .int .i64 i] 23)
 unfold cfgV
 go_in
 go_upto_region 1 with fail
 refine nameW (F := fun v => Blk v w.heap.size 23 #[.int .i64 k, .int .i64 m, .int .i64 i] ∧ Below w.heap.size w v) ⟨hB0, hb0⟩ ?_
 clear hB0 hb0
 rintro w1 ⟨hB1, hb1⟩
 obtain ⟨bx, hbx⟩ : ∃ bx, bx = w.heap.size := ⟨_, rfl⟩
 rw [← hbx] at hB1 ⊢
 have HBx := qd hbx
 have HB := qd hB1
 have HE1 := qd (hE.mod (Mod.of_below hb1 []) (by simp))
 have HBl := qd hb1
 obtain ⟨k0, k1, k2⟩ := hB1.c3
 have HCh := qd (plan_Check k m i w1 HE1.out.errs)
 rw [hcf] at HCh
 simp only [if_true] at HCh
 unfold cfgV at HCh
 have hz1 := hb1.size
 have hbxl := HB.out.lt
 clear hB1 hb1 hE hbx
 go_wp2_with fail
 refine HCh.out.mono ?_
 rintro y w2 ⟨rfl, hb2⟩
 replace HB := qB hb2 HB
 replace HBl := qd (below2 HBl.out hb2)
 replace HE1 := qB hb2 HE1
 have hz2 := hb2.size
 clear hb2 HCh k0 k1 k2
 go_wp2_with fail
 refine (node_New w2).mono ?_
 rintro y w3 ⟨nb, tb, gb, rfl, hn1, hn2, ⟨l1, l2, l3, l4, l5⟩, hb3⟩
 have HN := qd (show NdAt w3 nb [nb, tb, gb] nd0 from ⟨tb, gb, hn1, hn2, rfl, l4, l5⟩)
 replace HB := qB hb3 HB
 replace HBl := qd (below2 HBl.out hb3)
 replace HE1 := qB hb3 HE1
 have hz3 := hb3.size
 have l6 := hn2.ne
 have hnl := HN.out.lts
 have hn1l := hnl nb (by simp)
 have hn2l := hnl tb (by simp)
 have hn3l := hnl gb (by simp)
 clear hb3 hn1 hn2 hnl
 unfold nodeP
 have HDn := qd (show Calls Tryz.prog 19 #[.int .i64 0] w3 _ from dir_New 0 (by omega) w3)
 unfold dirP at HDn
 go_wp2_with fail
 refine HDn.out.mono ?_
 rintro y w4 ⟨rfl, hd4, hb4⟩
 have HD := qd (show DirAt w4 (w3.heap.size + 1) w3.heap.size 0 [0] from hd4)
 replace HN := qd (HN.out.mod (Mod.of_below hb4 []) (by simp))
 replace HB := qB hb4 HB
 replace HBl := qd (below2 HBl.out hb4)
 replace HE1 := qB hb4 HE1
 have hz4 := hb4.size
 have hd1l := HD.out.lt
 have hd2l := HD.out.ltE
 obtain ⟨db, hdb⟩ : ∃ db, db = w3.heap.size + 1 := ⟨_, rfl⟩
 obtain ⟨eb, heb⟩ : ∃ eb, eb = w3.heap.size := ⟨_, rfl⟩
 rw [← hdb, ← heb] at HD
 rw [← hdb]
 rw [← hdb] at hd1l
 rw [← heb] at hd2l
 have HDb := qd hdb
 have HEb := qd heb
 clear hb4 hd4 HDn hdb heb
 have kk := HB.out.c3
 have HSn := qd (sched_New k (by have := HKk.out; omega) (adr0 nb db eb).val w4 HE1.out.errs)
 unfold schP at HSn
 go_wp2_with fail
 refine HSn.out.mono ?_
 rintro y w5 ⟨sb, qb, rb, jb, rfl, hs5, hsl, hb5⟩
 have HS := qd hs5
 replace HN := qd (HN.out.mod (Mod.of_below hb5 []) (by simp))
 replace HD := qB hb5 HD
 replace HB := qB hb5 HB
 replace HBl := qd (below2 HBl.out hb5)
 replace HE1 := qB hb5 HE1
 have hz5 := hb5.size
 have HSl := qd hsl
 clear kk hb5 hs5 HSn hsl
 have kk := HB.out.c3
 go_wp2
 have hrow := World.ownsRow_lit (base := W0.heap.size) (e := 53) (size := 1) w5 #[.pointer (some ⟨nb, 0, none⟩)] 1 (by have := HE1.out.size; omega) (by decide) rfl
 have hb6 : Below w5.heap.size w5 (w5.alloc (.cells #[.pointer (some ⟨nb, 0, none⟩)] 53)) := (Below.refl _ _).alloc (Nat.le_refl _) _
 have hm6 := Mod.of_below hb6 []
 have hsl := HSl.out
 have hd1 := HDb.out
 have hd2 := HEb.out
 have s1 := hsl sb (by simp)
 have s2 := hsl qb (by simp)
 have s3 := hsl rb (by simp)
 have s4 := hsl jb (by simp)
 have hslt := HS.out.lt
 have t1 := hslt sb (by simp)
 have t2 := hslt qb (by simp)
 have t3 := hslt rb (by simp)
 have t4 := hslt jb (by simp)
 have hbx9 := HBx.out
 obtain ⟨F, hF⟩ := CoreF.fresh H (w := w) (w5 := w5.alloc (.cells #[.pointer (some ⟨nb, 0, none⟩)] 53)) (nb := nb) (tb := tb) (gb := gb) (db := db) (eb := eb) (sb := sb) (qb := qb) (rb := rb) (jb := jb) (vb := w5.heap.size) (K := K) (M := M) (I := I) HEr.out HKk.out.1 HKk.out.2.1 (below2 HBl.out hb6) (HN.out.mod hm6 (by simp)) (HD.out.mod hm6 (by simp) (by simp)) (HKk.out.2.2.1 ▸ HS.out.mod hm6 (by simp)) hrow
  (by intro q hq; simp at hq; omega) (by intro q hq; simp at hq ⊢; omega) (by intro q hq; simp at hq ⊢; omega) (by intro q hq; simp at hq; omega)
 have hkk := HKk.out.2.2
 have hq : coreCells K M I db sb w5.heap.size = #[.int .i64 k, .int .i64 m, .int .i64 i, .int .i64 0, .int .i64 0, .int .i64 0, .int .i64 0, .int .i64 0, .int .i64 0, .bool false, .int .i64 0, .slice (some ⟨w5.heap.size, 0, none⟩) 1 1, .pointer (some ⟨db, 0, none⟩), .pointer none, .pointer (some ⟨sb, 0, none⟩), .int .i64 0] := by
  unfold coreCells; rw [hkk.1, hkk.2.1, hkk.2.2]
 rw [hq] at hF
 refine bodyPost_ret (v := .tuple #[.pointer (some ⟨w5.heap.size + 1, 0, none⟩), .nilIface]) (by simp [results, Tryz.results6, go_sem]) rfl ⟨w5.heap.size + 1, rfl, ⟨_, F, ?_, rfl, rfl, hF⟩⟩
 simp
end
section
set_option maxRecDepth 100000
set_option maxHeartbeats 4000000
open Go.RowKit Go.Maps AmC
variable {α : Type} {id : Nat} {W0 w : World} {E : Nat → Addr}
def sumL {α : Type} (left : α → Nat → Nat) (a : α) (ids : List Nat) : Nat := (ids.map (left a)).sum
theorem sumL_erase {left : α → Nat → Nat} {a : α} {ids : List Nat} (h : id ∈ ids) : sumL left a ids = left a id + sumL left a (ids.erase id) := by
 unfold sumL
 have := (List.perm_cons_erase h).map (left a)
 rw [this.sum_nat]
 simp
theorem sumL_le {left : α → Nat → Nat} {a : α} : ∀ {ids : List Nat}, (∀ i ∈ ids, left a i ≤ 1000) → sumL left a ids ≤ 1000 * ids.length
 | [], _ => by simp [sumL]
 | i :: ids, h => by
  have h1 := sumL_le (ids := ids) (fun j hj => h j (by simp [hj]))
  have h2 := h i (by simp)
  unfold sumL at h1 ⊢
  simp only [List.map_cons, List.sum_cons, List.length_cons]
  omega
theorem grown_of_below {w' : World} (h : Below w.heap.size w w') : w.grownBy w' none := ⟨h.os, h.tape, h.output, h.size, fun k hk _ => h.block k hk⟩
def LeftIs (l : Lit → Bool) (rem : List Nat) : Prop := ∀ x : Int, (Lit.int .i64 x).wf = true → (l (.int .i64 x) = true ↔ ∃ id ∈ rem, x = (id : Int))
theorem LeftIs.next {l : Lit → Bool} {rem : List Nat} (h : LeftIs l rem) (hn : rem.Nodup) : LeftIs (fun z => l z && !z.sameKey (.int .i64 (id : Int))) (rem.erase id) := fun x hx => by
 have hk : (Lit.int .i64 x).sameKey (.int .i64 (id : Int)) = decide (x = (id : Int)) := by simp [Lit.sameKey]
 show (l (.int .i64 x) && !(Lit.int .i64 x).sameKey (.int .i64 (id : Int))) = true ↔ _
 rw [hk, Bool.and_eq_true, h x hx]
 constructor
 ·rintro ⟨⟨j, hj, rfl⟩, h2⟩
  have h3 : ¬ (j : Int) = (id : Int) := by simpa using h2
  exact ⟨j, (List.mem_erase_of_ne (fun e => h3 (by rw [e]))).2 hj, rfl⟩
 ·rintro ⟨j, hj, rfl⟩
  rw [hn.mem_erase_iff] at hj
  have h3 : ¬ (j : Int) = (id : Int) := fun e => hj.1 (by omega)
  exact ⟨⟨j, hj.2, rfl⟩, by simpa using h3⟩
theorem sched_Left {P : MP} {jt : Nat → TypeId} {ja : Nat → Addr} {At : World → List Nat → α → Prop} {can : α → Nat → Prop} {left : α → Nat → Nat} {Stp : α → Nat → α → Prop} (HP : PoolOk W0 E P jt ja At can left Stp) (s : SP) (F : List Nat) (b : Int) (ids : List Nat) (a : α) (x : Mtr) (hval : ∀ id, s.val id = .iface (jt id) (.pointer (some (ja id)))) (hcan : ∀ id ∈ ids, can a id ∧ id ≤ 1000) (w : World) (h : SchSt W0 E P At s w F w b ids a F x) :
  Calls Tryz.prog 34 #[schP s.sb] w fun e w' => e = .returned (.int .i64 ((sumL left a ids : Nat) : Int)) ∧ Below w.heap.size w w' := by
 obtain ⟨cs3, cs4⟩ := sch_cells h.sch
 obtain ⟨D, hown, hsz, hD⟩ := h.sch.map
 have HP' := qd HP
 have H0 := qd h
 have Hval := qd hval
 have Hcan := qd hcan
 have HDx := qd hD
 have hst : LeftIs (Maps.has D) ids := fun x hx => by
  rw [(hD x hx).1]
  unfold jobsF
  constructor
  ·intro hh
   split at hh
   ·next h1 => exact ⟨x.toNat, h1.2, by omega⟩
   ·cases hh
  ·rintro ⟨id, hid, rfl⟩
   rw [if_pos ⟨by omega, by simpa using hid⟩]; rfl
 have HSt := qd hst
 have HNd := qd h.sch.nd
 have hmany := h.sch.many
 have hsl : ∀ q ∈ s.blocks, q < w.heap.size := h.sch.lt
 have HSl := qd hsl
 have HOw := qd hown
 clear h hD hst hval hcan hsz hsl
 unfold schP
 go_in
 go_wp2_with (first | (at_range; refine wpList_range_own _ rfl _ 99 rfl 3 137 (int_keyed int_under) jobs_under heldV s.jb ids.length D rfl HOw.out ?_; intro w1 hrg0 hg0 hs0) | fail)
 go_frame
 have HB0 := qd (show Below w.heap.size w w1 from ⟨hg0.os, hg0.tape, hg0.output, hg0.size, fun k hk => hg0.block k hk (by simp)⟩)
 have HS0 := qd (H0.out.below HP HB0.out)
 have HRg0 := qd hrg0
 clear hown hrg0 hg0 hs0 cs3 cs4
 go_loopw [3, 5] (fun v3 _ wr => ∃ (l : Lit → Bool) (cnt : Nat) (rem : List Nat) (t : Nat), v3 = .int .i64 (t : Int) ∧ t ≤ 40000 ∧ Hid (t + sumL left a rem = sumL left a ids) ∧ Hid (wr.ranges Tryz.prog 3 heldV s.jb w.heap.size ids.length D l cnt) ∧ Hid (LeftIs l rem) ∧ Hid rem.Nodup ∧ Hid (∀ i ∈ rem, i ∈ ids) ∧ Hid (SchSt W0 E P At s w F wr b ids a F x) ∧ Hid (Below w.heap.size w wr)) (fun _ _ wr => wr.rangeLeft s.jb w.heap.size)
 case atStart => exact ⟨_, _, ids, 0, rfl, by omega, qd (by omega), HRg0, HSt, HNd, qd (fun _ h => h), HS0, HB0⟩
 case round =>
  clear HRg0 HS0 HB0 HSt HNd
  obtain ⟨l, cnt, rem, t, rfl, ht, HSu, HRg, HL, HNd, HIn, HS, HB⟩ := hrel
  go_wp2_with (first | (at_next; refine wpList_next_ranges _ rfl _ rfl 3 (int_keyed int_under) heldV (Value.int .i64) (fun v => v) (fun key kl hkey => by obtain ⟨x, rfl, _⟩ := Maps.keyOf_int_inv int_under hkey; exact ⟨x, rfl⟩) (fun v _ _ => ⟨v, rfl⟩) s.jb w.heap.size ids.length D l cnt rfl HRg.out ?_ ?_) | fail)
  ·intro hc0 hl0
   have hrem : rem = [] := List.eq_nil_iff_forall_not_mem.2 fun id hid => by
    have h1 := (HL.out (id : Int) (int_wf id (Hcan.out id (HIn.out id hid)).2)).2 ⟨id, hid, rfl⟩
    rw [hl0] at h1; cases h1
   have HT := qd (show t = sumL left a ids from by have := HSu.out; rw [hrem] at this; simpa [sumL] using this)
   clear hl0 hrem hc0
   go_wp2
   go_ret
   rw [← HT.out]
   exact ⟨rfl, HB.out⟩
  ·intro x9 c kl u ps w1 cnt1 hkey hlk hR hat hrg1 hlt hg1 hs1 hen
   obtain ⟨x8, hx8, rfl, hwf⟩ := Maps.keyOf_int_inv int_under hkey
   cases hx8
   obtain ⟨id, hid, hx⟩ := (HL.out x9 hwf).1 hlk
   subst hx
   have hids := HIn.out id hid
   have hval1 : c = s.val id := by
    have h1 := (HDx.out (id : Int) hwf).2 (s.val id) (jobsF_at hids) (.held .nilIface)
    have h2 := hat (.held .nilIface)
    rw [h1] at h2
    rw [← h2] at hR
    exact held_inj hR
   have hvi := Hval.out id
   rw [hvi] at hval1
   subst hval1
   have HM1 := qd (show Mod [w.heap.size] wr w1 from ⟨hg1.os, hg1.tape, hg1.output, hg1.size, fun k hk hn => hg1.block k hk (fun e => hn (by injection e with e; simp [e]))⟩)
   have HS1 := qd (HS.out.away HP HM1.out (fun q hq => by
    have hq' := List.mem_singleton.1 hq
    subst hq'
    refine ⟨Nat.le_refl _, fun hh => ?_, fun hh => ?_, fun hh => ?_, H0.out.env.size⟩
    ·have := (HP'.out.lt H0.out.pool _ hh).1; omega
    ·have := H0.out.met.lt; omega
    ·have := HSl.out _ hh; omega))
   have HB1 := qd (show Below w.heap.size w w1 from HB.out.trans (HM1.out.below (by simp) HB.out.size))
   have HRg1 := qd hrg1
   have HL1 := qd (HL.out.next HNd.out (id := id))
   have HNd1 := qd (HNd.out.erase id)
   have hci := (Hcan.out id hids).1
   have hl := HP'.out.left_ HS1.out.pool hci
   have HJ := qd (HP'.out.jt_ hci)
   have hle := HP'.out.le HS1.out.pool hci
   obtain ⟨Fl, hFl⟩ : ∃ Fl, Fl = leftF (jt id) := ⟨_, rfl⟩
   rw [← hFl] at hl
   have HFl := qd hFl.symm
   have hsum : t + left a id + sumL left a (rem.erase id) = sumL left a ids := by rw [← HSu.out, sumL_erase hid]; omega
   have hbd : sumL left a ids ≤ 40000 := by
    have := sumL_le (left := left) (a := a) (ids := ids) (fun i hi => HP'.out.le HS1.out.pool (Hcan.out i hi).1)
    omega
   have hIn1 : ∀ i ∈ rem.erase id, i ∈ ids := fun i hi => HIn.out i (List.mem_of_mem_erase hi)
   have HIn1 := qd hIn1
   obtain ⟨lf, hlf⟩ : ∃ lf, lf = left a id := ⟨_, rfl⟩
   rw [← hlf] at hl hle hsum
   have HLe := qd hl
   have HSm := qd hsum
   have hb40 : t + lf ≤ 40000 := by omega
   have HEn := qd hen
   have HMs := qd (And.intro hrg1.left_eq (And.intro HRg.out.left_eq hlt))
   clear hl hFl hsum hbd hlf hids hvi hci hkey hlk hR hat hrg1 hlt hg1 hs1 hid hIn1 HS HB HL HNd HIn HSu HRg hwf HM1
   have hen := HEn.out
   go_wp2_with fail
   rw [run_leftF HJ.out, Result.andThen_ok, run_leftC HJ.out]
   rw [show leftF (jt id) = Fl from HFl.out]
   rw [Oper.upon_enter]
   refine HLe.out.mono ?_
   rintro y w2 ⟨rfl, hb2⟩
   have HS2 := qd (HS1.out.below HP'.out hb2)
   have HB2 := qd (below2 HB1.out hb2)
   have HRg2 := qd (HRg1.out.kept (grown_of_below hb2) (by simp) (by simp))
   have HMs2 := qd (show w2.rangeLeft s.jb w.heap.size < wr.rangeLeft s.jb w.heap.size from by rw [HRg2.out.left_eq, HMs.out.2.1]; exact HMs.out.2.2)
   clear hb2 HS1 HB1 HRg1 HLe hen HEn HMs
   go_wp2
   go_roundw
   case rel => exact ⟨_, cnt1, rem.erase id, t + lf, by first | go_num | (simp; omega), hb40, HSm, HRg2, HL1, HNd1, HIn1, HS2, HB2⟩
   case measure => exact HMs2.out
theorem core_Left {H : Nat → Nat} {C : CPl} {w0 : World} {G0 : List Nat} {F : List Nat} {st : CSt} (h : CoreF W0 E H C w0 G0 w F st) (hi : CInv st.a st.ids []) : Calls Tryz.prog 12 #[coreP C.mb] w fun e w' => e = .returned (.int .i64 ((sumL Pool.left st.a st.ids : Nat) : Int)) ∧ Below w.heap.size w w' := by
 have HC := qd h
 obtain ⟨c0, c1, c11, c12, c13, c14, c15⟩ := HC.out.cells
 have hbd := h.bounds
 have HL := qd (sched_Left h.hp C.s F st.b st.ids st.a st.x (fun _ => rfl) (fun j hj => ⟨(hi.can_ j).2 (.inl hj), by
  rcases (hi.can_ j).2 (.inl hj) with ⟨M, h1, _⟩ | ⟨_, h1, _⟩
  ·have := get_lt h1
   have h3 := hbd.2.1
   omega
  ·omega⟩) w h.sch)
 have HL2 := qd (show Calls Tryz.prog 34 #[.pointer (some ⟨C.sb, 0, none⟩)] w _ from HL.out)
 obtain ⟨t, ht⟩ : ∃ t, t = sumL Pool.left st.a st.ids := ⟨_, rfl⟩
 rw [← ht] at HL2 ⊢
 clear h hbd HL hi ht
 unfold coreP
 go_in
 go_wp2_with fail
 refine HL2.out.mono ?_
 rintro x w1 ⟨rfl, hb⟩
 go_wp2
 go_ret
 exact ⟨rfl, hb⟩
end
section
open Go.RowKit AmC
variable {g gl id k len' lo mx : Nat} {N N1 : Nd} {add del : List Ent} {C : CPl} {F ids' : List Nat} {a' : Pool} {t : Int}
def CoreAt (W0 : World) (E : Nat → Addr) (H : Nat → Nat) (K M mb : Nat) (G : List Nat) (w : World) (a : Pool) (ids : List Nat) : Prop :=
 ∃ (C : CPl) (F : List Nat) (len : Nat) (b : Int) (x : Mtr), C.mb = mb ∧ C.K = K ∧ C.M = M ∧ G = C.foot F ∧ CoreF W0 E H C w (C.foot F) w F ⟨a, ids, len, b, x⟩ ∧ CInv a ids [] ∧ len = a.ents.length ∧ len ≤ M
def CoreTo (W0 : World) (E : Nat → Addr) (H : Nat → Nat) (K M mb : Nat) (G : List Nat) (w w' : World) (a' : Pool) (ids' : List Nat) : Prop :=
 ∃ G', CoreAt W0 E H K M mb G' w' a' ids' ∧ (∀ q ∈ G', q ∈ G ∨ w.heap.size ≤ q) ∧ Mod G w w'
def WrS (H : Nat → Nat) (K : Nat) (a : Pool) (ids : List Nat) (del add : List Ent) (a' : Pool) (ids' : List Nat) : Prop :=
 ∃ (id : Nat) (N N1 : Nd), a.Ns[id]? = some N ∧ Wr H del add N N1 ∧ Maint H K { a with Ns := a.Ns.set id N1 } ids id a' ids' ∧ Chg del add a.ents a'.ents ∧ a'.ents.Perm ((a.Ns.set id N1).flatMap Nd.ents)
theorem wr_chg {H : Nat → Nat} {a : Pool} (hN : a.Ns[id]? = some N) (hw : Wr H del add N N1) : Chg del add a.ents ((a.Ns.set id N1).flatMap Nd.ents) := by
 obtain ⟨B, B', b1, b2⟩ := entsN_set (N' := N1) hN
 unfold Pool.ents
 rw [b1, b2]
 exact hw.chg.wrap B B'
section
variable {W0 : World} {E : Nat → Addr} {H : Nat → Nat} {K M mb : Nat} {G : List Nat} {w w' : World} {a : Pool} {ids : List Nat}
theorem CoreTo.of {A' : Adr} {v' : Value} {F' : List Nat} {b' : Int} {x' : Mtr} (h1 : C.mb = mb) (h2 : C.K = K) (h3 : C.M = M) (hc : CoreF W0 E H { C with A := A', v := v' } w (C.foot F) w' F' ⟨a', ids', len', b', x'⟩) (hi : CInv a' ids' []) (hl : len' = a'.ents.length) (hm : len' ≤ M) : CoreTo W0 E H K M mb (C.foot F) w w' a' ids' :=
 ⟨({ C with A := A', v := v' } : CPl).foot F', ⟨{ C with A := A', v := v' }, F', len', b', x', h1, h2, h3, rfl, hc.again, hi, hl, hm⟩, hc.sub, hc.mod⟩
theorem wrPost_to {len : Nat} {b : Int} {x : Mtr} (h1 : C.mb = mb) (h2 : C.K = K) (h3 : C.M = M) (hl : len = a.ents.length) (hl' : len' + del.length = len + add.length) (hm : len' ≤ M) (h : WrPost W0 E H C w (C.foot F) ⟨a, ids, len, b, x⟩ id del add len' w') :
  ∃ a' ids', WrS H K a ids del add a' ids' ∧ CoreTo W0 E H K M mb (C.foot F) w w' a' ids' := by
 obtain ⟨N, N1, x1, hN, hw, _, A', v', F', a', ids', b', x', u, k1, k2, k3, k4, _⟩ := h
 have hch := wr_chg hN hw
 have hch2 : Chg del add a.ents a'.ents := hch.perm (.refl _) k3
 have hlen := hch2.len
 exact ⟨a', ids', ⟨id, N, N1, hN, hw, h2 ▸ k1, hch2, k3⟩, CoreTo.of h1 h2 h3 k4 k2 (by show len' = _; omega) hm⟩
theorem at_Put (h : CoreAt W0 E H K M mb G w a ids) (e : Ent) (he : EntOk H e) : Calls Tryz.prog 9 #[coreP mb, .int .u64 (e.key : Int), .int .u64 (e.val : Int), .int .u64 (e.hash : Int)] w fun y w' =>
  (look a.ents e.key = none ∧ M ≤ a.ents.length ∧ y = .returned (errV E 2) ∧ CoreTo W0 E H K M mb G w w' a ids) ∨
  (∃ a' ids', look a.ents e.key = none ∧ a.ents.length < M ∧ y = .returned .nilIface ∧ WrS H K a ids [] [e] a' ids' ∧ CoreTo W0 E H K M mb G w w' a' ids') ∨
  (∃ a' ids' e0, look a.ents e.key = some e0 ∧ y = .returned .nilIface ∧ WrS H K a ids [e0] [{ e0 with val := e.val }] a' ids' ∧ CoreTo W0 E H K M mb G w w' a' ids') := by
 obtain ⟨C, F, len, b, x, h1, h2, h3, rfl, hC, hi, hl, hm⟩ := h
 rw [← h1]
 cases hlk : look a.ents e.key with
 | some e0 =>
  obtain ⟨m1, m2⟩ := look_mem hlk
  refine (core_Put_found hC hi e he e0 m1 m2).mono ?_
  rintro y w' ⟨rfl, id, hp⟩
  obtain ⟨a', ids', k1, k2⟩ := wrPost_to h1 h2 h3 hl (by simp) hm hp
  exact .inr (.inr ⟨a', ids', e0, rfl, rfl, k1, h1 ▸ k2⟩)
 | none =>
  have hno : ∀ y ∈ a.ents, y.key ≠ e.key := fun y hy hk => by
   unfold look at hlk
   rw [List.find?_eq_none] at hlk
   exact hlk y hy (by simpa using hk)
  by_cases hlt : len < C.M
  ·refine (core_Put_new hC hi e he hno hlt hl).mono ?_
   rintro y w' ⟨rfl, id, hp⟩
   obtain ⟨a', ids', k1, k2⟩ := wrPost_to h1 h2 h3 hl (by simp) (by show len + 1 ≤ M; omega) hp
   exact .inr (.inl ⟨a', ids', rfl, by omega, rfl, k1, h1 ▸ k2⟩)
  ·refine (core_Put_full hC hi e he hno hlt).mono ?_
   rintro y w' ⟨rfl, x', hc, _⟩
   exact .inl ⟨rfl, by omega, rfl, h1 ▸ CoreTo.of (A' := C.A) (v' := C.v) h1 h2 h3 hc hi hl hm⟩
theorem at_Delete (h : CoreAt W0 E H K M mb G w a ids) (key : Nat) (h64 : H key < 18446744073709551616) : Calls Tryz.prog 8 #[coreP mb, .int .u64 (key : Int), .int .u64 (H key : Int)] w fun y w' =>
  ∃ a' ids', y = .returned (.tuple #[.int .u64 (((look a.ents key).getD ⟨0, 0, 0⟩).val : Int), .bool (look a.ents key).isSome]) ∧ WrS H K a ids (look a.ents key).toList [] a' ids' ∧ CoreTo W0 E H K M mb G w w' a' ids' := by
 obtain ⟨C, F, len, b, x, h1, h2, h3, rfl, hC, hi, hl, hm⟩ := h
 have hM := hC.mm.2
 rw [← h1]
 cases hlk : look a.ents key with
 | some e0 =>
  obtain ⟨m1, m2⟩ := look_mem hlk
  have hpos : 1 ≤ len := by rw [hl]; exact List.length_pos_of_mem m1
  refine (core_Delete hC hi key h64 e0 m1 m2 ⟨hpos, by show len ≤ 192; omega⟩).mono ?_
  rintro y w' ⟨rfl, id, hp⟩
  obtain ⟨a', ids', k1, k2⟩ := wrPost_to h1 h2 h3 hl (by show len - 1 + 1 = len + 0; omega) (by show len - 1 ≤ M; omega) hp
  exact ⟨a', ids', rfl, k1, h1 ▸ k2⟩
 | none =>
  have hno : ∀ y ∈ a.ents, y.key ≠ key := fun y hy hk => by
   unfold look at hlk
   rw [List.find?_eq_none] at hlk
   exact hlk y hy (by simpa using hk)
  refine (core_Delete_none hC hi key h64 hno).mono ?_
  rintro y w' ⟨rfl, id, hp⟩
  obtain ⟨a', ids', k1, k2⟩ := wrPost_to h1 h2 h3 hl (by simp) hm hp
  exact ⟨a', ids', rfl, k1, h1 ▸ k2⟩
theorem at_Get (h : CoreAt W0 E H K M mb G w a ids) (key : Nat) (h64 : H key < 18446744073709551616) : Calls Tryz.prog 14 #[coreP mb, .int .u64 (key : Int), .int .u64 (H key : Int)] w fun y w' =>
  y = .returned (.tuple #[.int .u64 (((look a.ents key).getD ⟨0, 0, 0⟩).val : Int), .bool (look a.ents key).isSome]) ∧ CoreTo W0 E H K M mb G w w' a ids := by
 obtain ⟨C, F, len, b, x, h1, h2, h3, rfl, hC, hi, hl, hm⟩ := h
 rw [← h1]
 refine (core_Get hC hi key h64).mono ?_
 rintro y w' ⟨rfl, x', hc, _⟩
 exact ⟨rfl, h1 ▸ CoreTo.of (A' := C.A) (v' := C.v) h1 h2 h3 hc hi hl hm⟩
theorem at_Len (h : CoreAt W0 E H K M mb G w a ids) : Calls Tryz.prog 15 #[coreP mb] w fun e w' => e = .returned (.int .i64 (a.ents.length : Int)) ∧ w = w' := by
 obtain ⟨C, F, len, b, x, h1, h2, h3, rfl, hC, hi, hl, hm⟩ := h
 rw [← h1, ← hl]
 exact core_Len hC
theorem at_Nodes (h : CoreAt W0 E H K M mb G w a ids) : Calls Tryz.prog 13 #[coreP mb] w fun e w' => e = .returned (.int .i64 (a.Ns.length : Int)) ∧ w = w' := by
 obtain ⟨C, F, len, b, x, h1, h2, h3, rfl, hC, hi, hl, hm⟩ := h
 rw [← h1]
 exact core_Nodes hC
theorem at_Groups (h : CoreAt W0 E H K M mb G w a ids) : Calls Tryz.prog 16 #[coreP mb] w fun e w' => e = .returned (.int .i64 (a.groups : Int)) ∧ w = w' := by
 obtain ⟨C, F, len, b, x, h1, h2, h3, rfl, hC, hi, hl, hm⟩ := h
 rw [← h1]
 exact core_Groups hC
theorem at_Left (h : CoreAt W0 E H K M mb G w a ids) : Calls Tryz.prog 12 #[coreP mb] w fun e w' => e = .returned (.int .i64 ((sumL Pool.left a ids : Nat) : Int)) ∧ Below w.heap.size w w' := by
 obtain ⟨C, F, len, b, x, h1, h2, h3, rfl, hC, hi, hl, hm⟩ := h
 rw [← h1]
 exact core_Left hC hi
theorem CoreAt.mod {S : List Nat} (h : CoreAt W0 E H K M mb G w a ids) (hm : Mod S w w') (hS : ∀ q ∈ S, q ∉ G ∧ W0.heap.size ≤ q) : CoreAt W0 E H K M mb G w' a ids := by
 obtain ⟨C, F, len, b, x, h1, h2, h3, rfl, hC, hi, hl, hm'⟩ := h
 have hd : ∀ q ∈ S, q ≠ C.mb ∧ q ∉ C.s.blocks ∧ q ∉ F ∧ C.v.ownBlock ≠ some q := fun q hq => by
  have := (hS q hq).1
  rw [mem_foot] at this
  simp only [not_or] at this
  exact this
 refine ⟨C, F, len, b, x, h1, h2, h3, rfl, ⟨SchSt.start (hC.sch.sch.mod hm (fun q hq hqS => (hd q hqS).2.1 hq)) (hC.hp.stab hC.sch.pool hm (fun q hq hqS => (hd q hqS).2.2.1 hq)) (hC.sch.met.mod hm (fun hq => (hd _ hq).1 rfl)) (hC.sch.env.mod hm (fun q hq => (hS q hq).2)) hC.sch.apart hC.sch.mb0, own_far hC.row hm (fun k hk hkS => (hd k hkS).2.2.2 hk), hC.rap, hC.pos, hC.kk, hC.mm, ?_, fun q hq => .inl hq, Mod.refl _ _⟩, hi, hl, hm'⟩
 have := hC.sch.env.size
 have := hm.size
 omega
theorem CoreAt.below (h : CoreAt W0 E H K M mb G w a ids) (hb : Below w.heap.size w w') : CoreAt W0 E H K M mb G w' a ids := h.mod (Mod.of_below hb []) (by simp)
theorem CoreAt.facts (h : CoreAt W0 E H K M mb G w a ids) : CInv a ids [] ∧ a.d ≤ 5 ∧ a.Ns.length ≤ 32 ∧ 1 ≤ a.Ns.length ∧ a.Ns.length ≤ 2 ^ a.d ∧ (∀ (i : Nat) (N : Nd), a.Ns[i]? = some N → NOk H N) ∧ a.ents.length ≤ M ∧ M ≤ 192 ∧ (1 ≤ K ∧ K ≤ 64) ∧ (a.ents.map Ent.key).Nodup ∧ (∀ q ∈ G, q < w.heap.size ∧ W0.heap.size ≤ q) ∧ Env W0 E w := by
 obtain ⟨C, F, len, b, x, h1, h2, h3, rfl, hC, hi, hl, hm⟩ := h
 obtain ⟨b1, b2, b3, b4⟩ := hC.bounds
 have h4 := hC.mm
 have h5 := hC.kk
 exact ⟨hi, b1, b2, hC.pos, hi.dir.nodes, b4, by omega, by omega, by omega, pool_nodup hi.dir b1 b4, fun q hq => ⟨hC.lts q hq, hC.lows q hq⟩, hC.sch.env⟩
theorem new_at {H : Nat → Nat} (h : NewAt W0 E H K M w mb w') : CoreTo W0 E H K M mb [] w w' pool0 [] := by
 obtain ⟨C, F, h1, h2, h3, hC⟩ := h
 exact ⟨_, ⟨C, F, 0, 0, mtr0, h1, h2, h3, rfl, hC.again, inv0, by rw [ents0]; rfl, Nat.zero_le _⟩, hC.sub, hC.mod⟩
end
def GB (mx : Nat) (a : Pool) : Prop := ∀ (i : Nat) (N : Nd), a.Ns[i]? = some N → N.len ≤ mx ∧ N.each ≤ mx ∧ N.groups ≤ 2 * mx
theorem GB.more {mx' : Nat} {a : Pool} (h : GB mx a) (hm : mx ≤ mx') : GB mx' a := fun i N hN => by
 have := h i N hN; omega
end
end Go.Proofs.YtfojgfddgplinaaGreatDoor
