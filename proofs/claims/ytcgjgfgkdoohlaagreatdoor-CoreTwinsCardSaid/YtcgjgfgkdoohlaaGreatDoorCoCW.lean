/- The chapter's example, step by step: what its core holds. No statement of the claim. -/
import Derived.Test.YtcgjgfgkdoohlaaGreatDoorCoCU
import Derived.Test.YtcgjgfgkdoohlaaGreatDoorLaneP
namespace Go.Proofs.YtcgjgfgkdoohlaaGreatDoor
section
open Go.RowKit AmC
variable {c i id : Nat} {H : Nat → Nat} {e ids ids' : List Nat} {a a' : Pool}
def aliveE (j : Nat) : Ent := ⟨j, j + 1, j * 1152921504606846976⟩
def aliveL : Nat → List Ent
 | 0 => []
 | i + 1 => aliveE i :: aliveL i
def aliveH (k : Nat) : Nat := k * 1152921504606846976 % 18446744073709551616
theorem aliveE_ok (hi : i < 4) : EntOk aliveH (aliveE i) := by
 unfold aliveE aliveH
 exact ⟨by simp only; omega, by simp only; omega, by simp only; omega, by simp only; omega⟩
theorem aliveL_len : ∀ i, (aliveL i).length = i
 | 0 => rfl
 | i + 1 => by unfold aliveL; rw [List.length_cons, aliveL_len i]
structure AliveSt (i : Nat) (a : Pool) (ids : List Nat) : Prop where
 ids_ : ids = []
 ents : a.ents.Perm (aliveL i)
 nd : ∃ N, a.Ns = [N] ∧ N.ph = .idle ∧ N.len = 1 ∧ N.dpt = 0 ∧ N.kind = 0 ∧ load N.T ≤ i
theorem alive0 : AliveSt 0 pool0 [] := by
 obtain ⟨h1, h2, h3⟩ := tg_bare (n := 1) (.inl rfl)
 refine ⟨rfl, by rw [ents0]; exact .refl _, nd0, rfl, rfl, prepG_length (Nat.le_refl 1), rfl, rfl, ?_⟩
 show load (prepT 1 1) ≤ 0
 rw [h3]; exact Nat.le_refl _
theorem oth_nil (h : Oth Pool.left (Pool.step H) c ids a e ids' a') (hn : ids = []) : e = [] ∧ ids' = [] ∧ a' = a := by
 cases h with
 | nil => exact ⟨rfl, rfl, rfl⟩
 | broke => exact ⟨rfl, hn, rfl⟩
 | ended => cases hn
 | step => cases hn
theorem oth_one (h : Oth Pool.left (Pool.step H) c ids a e ids' a') (hc : 1 ≤ c) (hn : ids = [id]) (h0 : a.left id = 0) : e = [id] ∧ ids' = [] ∧ a' = a := by
 cases h with
 | nil => cases hn
 | broke => omega
 | ended h1 r =>
  obtain ⟨rfl, hn2⟩ := List.cons.inj hn
  obtain ⟨e1, e2, e3⟩ := oth_nil r hn2
  rw [e1]
  exact ⟨rfl, e2, e3⟩
 | step h1 hs r =>
  obtain ⟨rfl, _⟩ := List.cons.inj hn
  omega
theorem ends_nil {l : List Nat} (h : EndAll H a l a') (hl : l = []) : a' = a := by
 cases h with
 | nil => rfl
 | cons => cases hl
theorem ends_one {l : List Nat} (h : EndAll H a l a') (hl : l = [id]) : EndS H a id a' := by
 cases h with
 | nil => cases hl
 | cons h1 r =>
  obtain ⟨rfl, h2⟩ := List.cons.inj hl
  rw [ends_nil r h2]; exact h1
theorem alive_node (hA : AliveSt i a ids) (ho : ∀ (i : Nat) (N : Nd), a.Ns[i]? = some N → NOk H N) (hw : WrS H 1 a ids [] [aliveE i] a' ids') :
  ∃ N1, NOk H N1 ∧ N1.ph = .idle ∧ N1.len = 1 ∧ N1.dpt = 0 ∧ N1.kind = 0 ∧ load N1.T ≤ i + 1 ∧ (entsT N1.T.gs).length = i + 1 ∧ Maint H 1 { a with Ns := [N1] } [] 0 a' ids' ∧ a'.ents.Perm (aliveL (i + 1)) := by
 obtain ⟨id, N0, N1, hN, hw, hm, hch, hp⟩ := hw
 obtain ⟨N, n1, n2, n3, n4, n5, n6⟩ := hA.nd
 have hid : id = 0 := by
  have := get_lt hN
  rw [n1] at this
  simpa using this
 subst hid
 rw [n1] at hN
 have hNN : N0 = N := (Option.some.inj hN).symm
 subst hNN
 have hL := hw.like
 have hset : a.Ns.set 0 N1 = [N1] := by rw [n1]; rfl
 rw [hset] at hm hp
 have hb : N1.ph = .idle := busy_of (by rw [hL.busy, n2]; rfl)
 have hpe : a'.ents.Perm (aliveL (i + 1)) := by
  obtain ⟨r, r1, r2⟩ := hch
  refine r2.trans ?_
  unfold aliveL
  simp only [List.singleton_append]
  exact ((by simpa using r1.symm : r.Perm a.ents).trans hA.ents).cons _
 refine ⟨N1, hw.ok, hb, hL.len.trans n3, hL.dpt.trans n4, hL.kind.trans n5, ?_, ?_, hA.ids_ ▸ hm, hpe⟩
 ·have := hw.ld n2
  simp at this; omega
 ·have h1 := hp.length_eq
  have h2 := hpe.length_eq
  rw [aliveL_len] at h2
  have h3 : ([N1].flatMap Nd.ents) = entsT N1.T.gs := by simp [Nd.ents, hb, frs, entsTs]
  rw [h3] at h1
  omega
theorem alive_next (hi : i < 3) (hA : AliveSt i a ids) (ho : ∀ (i : Nat) (N : Nd), a.Ns[i]? = some N → NOk H N) (hw : WrS H 1 a ids [] [aliveE i] a' ids') : AliveSt (i + 1) a' ids' := by
 obtain ⟨N1, k1, k2, k3, k4, k5, k6, k7, hm, hp⟩ := alive_node hA ho hw
 have hld := k1.tg.loadI
 have hnb : needsB N1.T.live N1.T.tombs N1.len = false := by
  unfold needsB
  rw [k3]
  have h1 := k1.tg.ok.live
  have h2 := k1.tg.ok.tombs
  simp only [Bool.or_eq_false_iff, decide_eq_false_iff_not]
  omega
 have hwh : ∀ gl, whichK N1.T.live N1.T.tombs N1.len N1.dpt gl = 0 := fun gl => by unfold whichK; rw [if_pos hnb]
 obtain ⟨a1, ids1, a2, ids2, a3, e1, ids3, a4, h1, h2, h3, h4, h5, h6⟩ := hm.ex
 have hget : ∀ X : Nd, ({ a with Ns := [N1] } : Pool).Ns[0]? = some X → X = N1 := fun X hX => (Option.some.inj hX).symm
 obtain ⟨g1, g2⟩ : a1 = { a with Ns := [{ N1 with sl := 0 }] } ∧ ids1 = [] := by
  cases h1 with
  | busy hN hb => have := hget _ hN; subst this; rw [k2] at hb; cases hb
  | none hN hi hk => have := hget _ hN; subst this; exact ⟨rfl, rfl⟩
  | start hN hi hk h0 => have := hget _ hN; subst this; rw [hwh] at hk; exact absurd hk.symm h0
 subst g1 g2
 obtain ⟨g3, g4⟩ : a2 = { a with Ns := [{ N1 with sl := 0 }] } ∧ ids2 = [] := by
  cases h2 with
  | not => exact ⟨rfl, rfl⟩
  | yes hp2 =>
   obtain ⟨X, hX, hd⟩ := hp2
   have := hget _ hX
   subst this
   rw [which_dbl (hwh _)] at hd
   cases hd
 subst g3 g4
 have g5 : a3 = { a with Ns := [{ N1 with sl := 0 }] } := by
  rcases h3 with ⟨_, e⟩ | ⟨e, _⟩
  ·exact e
  ·cases e
 obtain ⟨o1, o2, o3⟩ := oth_nil h4 rfl
 have g6 := ends_nil h5 (by rw [o1, o2]; rfl)
 refine ⟨by rw [h6, o2]; rfl, hp, { N1 with sl := 0 }, by rw [g6, o3, g5], k2, k3, k4, k5, k6⟩
theorem alive_last (hA : AliveSt 3 a ids) (ho : ∀ (i : Nat) (N : Nd), a.Ns[i]? = some N → NOk H N) (hw : WrS H 1 a ids [] [aliveE 3] a' ids') : ids' = [] ∧ a'.ents.Perm (aliveL 4) ∧ a'.groups = 2 := by
 obtain ⟨N1, k1, k2, k3, k4, k5, k6, k7, hm, hp⟩ := alive_node hA ho hw
 have h1' := k1.tg.ok.live
 have hl4 : N1.T.live = 4 := by rw [h1', k7]; rfl
 have hnb : needsB N1.T.live N1.T.tombs N1.len = true := by
  unfold needsB
  rw [k3, hl4]
  simp
 have hwh : ∀ gl, whichK N1.T.live N1.T.tombs N1.len N1.dpt gl = 2 := fun gl => by
  unfold whichK
  rw [if_neg (by rw [hnb]; simp), hl4, k3, if_neg (by decide), if_neg (by omega), if_pos (by decide)]
 have hdb : ∀ gl, doubleB N1.T.live N1.T.tombs N1.len N1.dpt gl = false := fun gl => by
  unfold doubleB
  rw [k3]
  simp
 obtain ⟨a1, ids1, a2, ids2, a3, e1, ids3, a4, h1, h2, h3, h4, h5, h6⟩ := hm.ex
 have hget : ∀ X : Nd, ({ a with Ns := [N1] } : Pool).Ns[0]? = some X → X = N1 := fun X hX => (Option.some.inj hX).symm
 obtain ⟨g1, g2⟩ : a1 = { a with Ns := [N1.start 2] } ∧ ids1 = [0] := by
  cases h1 with
  | busy hN hb => have := hget _ hN; subst this; rw [k2] at hb; cases hb
  | none hN hi hk => have := hget _ hN; subst this; rw [hwh] at hk; cases hk
  | @start _ kind hN hi hk h0 =>
   have := hget _ hN
   subst this
   rw [hwh] at hk
   subst hk
   exact ⟨rfl, rfl⟩
 subst g1 g2
 obtain ⟨g3, g4⟩ : a2 = { a with Ns := [N1.start 2] } ∧ ids2 = [0] := by
  cases h2 with
  | not => exact ⟨rfl, rfl⟩
  | yes hp2 =>
   obtain ⟨X, hX, hd⟩ := hp2
   have := hget _ hX
   subst this
   rw [hdb] at hd
   cases hd
 subst g3 g4
 have hleft : Pool.left { a with Ns := [N1.start 2] } 0 = 3 := by
  show (N1.start 2).left = 3
  show N1.len + ((N1.start 2).each * (N1.start 2).many - 0) = 3
  have e1 : (N1.start 2).each = 2 * N1.len := rfl
  have e2 : (N1.start 2).many = 1 := rfl
  rw [e1, e2, k3]
 rcases h3 with ⟨e, _⟩ | ⟨_, m, hs, hm8, hor⟩
 ·exact absurd (by simp) e
 ·obtain ⟨s1, s2, s3, s4, s5⟩ := stepN_ok hs
  rw [hleft] at s4
  have hz : a3.left 0 = 0 := by rcases hor with e | e <;> omega
  obtain ⟨o1, o2, o3⟩ := oth_one h4 (Nat.le_refl _) rfl hz
  have hE := ends_one (id := 0) h5 (by rw [o1, o2]; rfl)
  rw [o3] at hE
  have hlen : a3.Ns.length = 1 := s1.len
  obtain ⟨N3, hN3⟩ : ∃ N3, a3.Ns[0]? = some N3 := ⟨_, List.getElem?_eq_getElem (by omega)⟩
  obtain ⟨N2, hN2, hL, _⟩ := s1.nds 0 N3 hN3
  have hN2' : N2 = N1.start 2 := (Option.some.inj hN2).symm
  subst hN2'
  refine ⟨by rw [h6, o2]; rfl, hp, ?_⟩
  cases hE with
  | @one _ N X hN hb hl ho hm hk he hx =>
   rw [hN3] at hN
   have : N3 = N := Option.some.inj hN
   subst this
   have h8 : a3.Ns.set 0 (Nd.mk N3.pfx N3.dpt 0 0 X .idle) = [Nd.mk N3.pfx N3.dpt 0 0 X .idle] := by
    obtain ⟨y, hy⟩ := List.length_eq_one_iff.1 hlen
    rw [hy]; rfl
   show ((a3.Ns.set 0 (Nd.mk N3.pfx N3.dpt 0 0 X .idle)).map Nd.groups).sum = 2
   rw [h8]
   show X.gs.length + 0 = 2
   rw [hx, hL.each]
   show 2 * N1.len + 0 = 2
   rw [k3]
  | @two _ N X Y hN hb hl ho hmm hd hk hk2 he hx hy =>
   exfalso
   rw [hN3] at hN
   have : N3 = N := Option.some.inj hN
   subst this
   rw [hL.many] at hmm
   have e2 : (N1.start 2).many = 1 := rfl
   omega
theorem alive_look {l : List Ent} (h : l.Perm (aliveL 4)) : look l 2 = some ⟨2, 3, 2305843009213693952⟩ := by
 have hn : ((aliveL 4).map Ent.key).Nodup := by decide
 rw [look_perm h ((h.map Ent.key).nodup_iff.2 hn)]
 decide
end
section
open Go.RowKit AmC
variable {W0 w : World} {E : Nat → Addr} {H : Nat → Nat} {mb : Nat} {G ids : List Nat} {a : Pool}
set_option maxRecDepth 100000 in
set_option maxHeartbeats 4000000 in
theorem core_Jobs_nil {C : CPl} {w0 : World} {G0 : List Nat} {F : List Nat} {st : CSt} (h : CoreF W0 E H C w0 G0 w F st) (hn : st.ids = []) : Calls Tryz.prog 18 #[coreP C.mb] w fun e w' => e = .returned (.slice none 0 0) ∧ Below w.heap.size w w' := by
 have HC := qd h
 obtain ⟨c0, c1, c11, c12, c13, c14, c15⟩ := HC.out.cells
 have hI := sched_Ids C.sb C.qb C.rb C.jb (C.K : Int) st.b C.A.val st.ids w h.sch.sch
 rw [hn] at hI
 unfold schP at hI
 have HI := qd hI
 clear h hn hI
 unfold coreP
 go_in
 go_wp2_with fail
 refine HI.out.mono ?_
 rintro x w1 ⟨A, cc, rfl, hO, hb⟩
 have HB := qd hb
 clear c0 c1 c11 c12 c13 c14 c15 hO hb HI HC
 go_wp2
 go_loopw [3, 5, 12] (fun v3 _ v12 wr => v3 = .slice none 0 0 ∧ v12 = .int .i64 0 ∧ wr = w1) (fun _ _ _ _ => 0)
 case atStart => exact ⟨rfl, rfl, rfl⟩
 case round =>
  obtain ⟨rfl, rfl, rfl⟩ := hrel
  go_wp2
  go_ret
  exact ⟨rfl, HB.out⟩
theorem at_Jobs_nil {K M : Nat} (h : CoreAt W0 E H K M mb G w a ids) (hn : ids = []) : Calls Tryz.prog 18 #[coreP mb] w fun e w' => e = .returned (.slice none 0 0) ∧ Below w.heap.size w w' := by
 obtain ⟨C, F, len, b, x, h1, h2, h3, rfl, hC, hi, hl, hm⟩ := h
 rw [← h1]
 exact core_Jobs_nil hC hn
def AliveG (i : Nat) (a : Pool) (ids : List Nat) : Prop := (i < 4 → AliveSt i a ids) ∧ (i = 4 → ids = [] ∧ a.ents.Perm (aliveL 4) ∧ a.groups = 2)
theorem aliveL_lt : ∀ i, ∀ e ∈ aliveL i, e.key < i
 | 0, _, h => by cases h
 | i + 1, e, h => by
  unfold aliveL at h
  rcases List.mem_cons.1 h with rfl | h1
  ·exact Nat.lt_succ_self _
  ·exact Nat.lt_succ_of_lt (aliveL_lt i e h1)
theorem alive_put {i : Nat} (hlt : i < 4) (hA : CoreAt W0 E aliveH 1 9 mb G w a ids) (hG : AliveG i a ids) : Calls Tryz.prog 12 #[coreP mb, .int .u64 (i : Int), .int .u64 ((i + 1 : Nat) : Int), .int .u64 ((i * 1152921504606846976 : Nat) : Int)] w fun y w' => y = .returned .nilIface ∧ ∃ a' ids', AliveG (i + 1) a' ids' ∧ CoreTo W0 E aliveH 1 9 mb G w w' a' ids' := by
 have hS := hG.1 hlt
 obtain ⟨f1, f2, f3, f4, f5, f6, _⟩ := hA.facts
 have hno : look a.ents (aliveE i).key = none := look_none fun e he hk => by
  have := aliveL_lt i e (hS.ents.mem_iff.1 he)
  have h1 : e.key = i := hk
  omega
 have hlen := hS.ents.length_eq
 rw [aliveL_len] at hlen
 refine (at_Put hA (aliveE i) (aliveE_ok hlt)).mono ?_
 rintro y w' (⟨_, h2, _⟩ | ⟨a', ids', _, _, rfl, hw, hto⟩ | ⟨a', ids', e0, h1, _⟩)
 ·omega
 ·refine ⟨rfl, a', ids', ⟨fun h4 => alive_next (by omega) hS f6 hw, fun h4 => ?_⟩, hto⟩
  obtain rfl : i = 3 := by omega
  exact alive_last hS f6 hw
 ·rw [hno] at h1; cases h1
set_option maxRecDepth 100000 in
set_option maxHeartbeats 8000000 in
theorem law_alive (hE : Env W0 E w) : Calls Tryz.prog 7 #[] w fun e w' => e = .returned (.bool true) ∧ Below w.heap.size w w' := by
 have hN := core_New aliveH hE 1 9 1 (by decide) 1 9 1 ⟨⟨by omega, by omega⟩, ⟨by omega, by omega⟩, rfl, rfl, rfl⟩
 unfold cfgV at hN
 have HN := qd hN
 have HE := qd hE
 clear hN hE
 go_in
 go_wp2_with fail
 refine HN.out.mono ?_
 rintro x w1 ⟨mb, rfl, hnew⟩
 obtain ⟨G1, hA1, hs1, hm1⟩ := new_at hnew
 have HA1 := qd hA1
 have HS1 := qd (show ∀ q ∈ G1, w.heap.size ≤ q from fun q hq => by rcases hs1 q hq with h | h; cases h; exact h)
 have HB1 := qd hm1.to_below
 clear hnew hA1 hs1 hm1 HN
 unfold coreP
 go_wp2
 go_loopw [3, 17] (fun _ v17 wr => ∃ (i : Nat) (G : List Nat) (a : Pool) (ids : List Nat), i ≤ 4 ∧ v17 = .int .u64 (i : Int) ∧ Hid (CoreAt W0 E aliveH 1 9 mb G wr a ids) ∧ Hid (AliveG i a ids) ∧ Hid (∀ q ∈ G, w.heap.size ≤ q) ∧ Hid (Below w.heap.size w wr)) (fun _ v17 _ => 4 - (intOf v17).toNat)
 case atStart => exact ⟨0, G1, pool0, [], by omega, rfl, HA1, qd ⟨fun _ => alive0, fun h => absurd h (by omega)⟩, HS1, HB1⟩
 case round =>
  clear HA1 HS1 HB1
  obtain ⟨i, G, a, ids, hi, rfl, HA, HG, HS, HB⟩ := hrel
  by_cases hlt : i < 4
  ·have hlt' : (i : Int) < 4 := by omega
   have HP := qd (alive_put hlt HA.out HG.out)
   obtain ⟨v1, hv1⟩ : ∃ v1 : Nat, v1 = i + 1 := ⟨_, rfl⟩
   have hc : ((i * 1152921504606846976 : Nat) : Int) = (i : Int) * 1152921504606846976 := by omega
   have HP2 := qd (show Calls Tryz.prog 12 #[.pointer (some ⟨mb, 0, none⟩), .int .u64 (i : Int), .int .u64 (v1 : Int), .int .u64 ((i : Int) * 1152921504606846976)] wr _ from by rw [hv1, ← hc]; exact HP.out)
   have w1' : IntKind.u64.wrap ((i : Int) + 1) = (v1 : Int) := by rw [IntKind.wrap_u64] <;> omega
   have hsz := HB.out.size
   clear HP hv1 hc
   go_wp2_with fail
   refine HP2.out.mono ?_
   rintro y w2 ⟨rfl, a', ids', hG', G', hA', hsub, hmod⟩
   have HA2 := qd hA'
   have HG2 := qd hG'
   have HS2 := qd (show ∀ q ∈ G', w.heap.size ≤ q from fun q hq => by
    rcases hsub q hq with h1 | h1
    ·exact HS.out q h1
    ·omega)
   have HB2 := qd (HB.out.trans (hmod.below HS.out hsz))
   clear hG' hA' hsub hmod HP2 HA HG HS HB w1'
   go_wp2
   go_roundw
   case rel => exact ⟨i + 1, G', a', ids', by omega, by first | go_num | (simp; rw [IntKind.wrap_u64]; omega) | (simp; omega), HA2, HG2, HS2, HB2⟩
   case measure => simp [intOf]; omega
  ·obtain rfl : i = 4 := by omega
   have hlt' : ¬ ((4 : Nat) : Int) < 4 := by omega
   obtain ⟨t1, t2, t3⟩ := HG.out.2 rfl
   have hlk := alive_look t2
   have hlen := t2.length_eq
   have hget := at_Get HA.out 2 (by decide)
   rw [hlk] at hget
   have HGe := qd (show Calls Tryz.prog 24 #[.pointer (some ⟨mb, 0, none⟩), .int .u64 2, .int .u64 2305843009213693952] wr (fun y w' => y = .returned (.tuple #[.int .u64 3, .bool true]) ∧ CoreTo W0 E aliveH 1 9 mb G wr w' a ids) from hget)
   have HT1 := qd t1
   have HT3 := qd t3
   have HLen := qd (show a.ents.length = 4 from hlen)
   have hsz := HB.out.size
   clear t1 t2 t3 hlk hlen hget
   go_wp2_with fail
   refine HGe.out.mono ?_
   rintro y w2 ⟨rfl, G', hA', hsub, hmod⟩
   have HB2 := qd (HB.out.trans (hmod.below HS.out hsz))
   have hl2 := at_Len hA'
   rw [HLen.out] at hl2
   have HL2 := qd (show Calls Tryz.prog 13 #[.pointer (some ⟨mb, 0, none⟩)] w2 (fun e w' => e = .returned (.int .i64 4) ∧ w2 = w') from hl2)
   have hg2 := at_Groups hA'
   rw [HT3.out] at hg2
   have HG2 := qd (show Calls Tryz.prog 14 #[.pointer (some ⟨mb, 0, none⟩)] w2 (fun e w' => e = .returned (.int .i64 2) ∧ w2 = w') from hg2)
   have hf2 := at_Left hA'
   rw [HT1.out] at hf2
   have HF2 := qd (show Calls Tryz.prog 20 #[.pointer (some ⟨mb, 0, none⟩)] w2 (fun e w' => e = .returned (.int .i64 0) ∧ Below w2.heap.size w2 w') from hf2)
   have HA2 := qd hA'
   clear hA' hsub hmod hl2 hg2 hf2 HGe HA HG HS HB
   go_wp2_with fail
   refine HL2.out.mono ?_
   rintro y w3 ⟨rfl, rfl⟩
   go_wp2_with fail
   refine HG2.out.mono ?_
   rintro y w3 ⟨rfl, rfl⟩
   go_wp2_with fail
   refine HF2.out.mono ?_
   rintro y w3 ⟨rfl, hb3⟩
   have HJ := qd (show Calls Tryz.prog 18 #[.pointer (some ⟨mb, 0, none⟩)] w3 _ from at_Jobs_nil (HA2.out.below hb3) HT1.out)
   have HB3 := qd (below2 HB2.out hb3)
   clear hb3
   go_wp2_with fail
   refine HJ.out.mono ?_
   rintro y w4 ⟨rfl, hb4⟩
   have HB4 := qd (below2 HB3.out hb4)
   clear hb4
   go_wp2
   go_ret
   exact ⟨rfl, HB4.out⟩
end
end Go.Proofs.YtcgjgfgkdoohlaaGreatDoor
