/- A core at rest, told of its entries: what a write leaves; how many groups there are. -/
import Derived.Test.YtcgjgfgkdoohlaaGreatDoorCoCS
import Derived.Test.YtcgjgfgkdoohlaaGreatDoorLaneP
namespace Go.Proofs.YtcgjgfgkdoohlaaGreatDoor
section
open Go.RowKit AmC
def CoreAt (W0 : World) (E : Nat → Addr) (H : Nat → Nat) (K M mb : Nat) (G : List Nat) (w : World) (a : Pool) (ids : List Nat) : Prop :=
 ∃ (C : CPl) (F : List Nat) (len : Nat) (b : Int) (x : Mtr), C.mb = mb ∧ C.K = K ∧ C.M = M ∧ G = C.foot F ∧ CoreF W0 E H C w (C.foot F) w F ⟨a, ids, len, b, x⟩ ∧ CInv a ids [] ∧ len = a.ents.length ∧ len ≤ M
def CoreTo (W0 : World) (E : Nat → Addr) (H : Nat → Nat) (K M mb : Nat) (G : List Nat) (w w' : World) (a' : Pool) (ids' : List Nat) : Prop :=
 ∃ G', CoreAt W0 E H K M mb G' w' a' ids' ∧ (∀ q ∈ G', q ∈ G ∨ w.heap.size ≤ q) ∧ Mod G w w'
def WrS (H : Nat → Nat) (K : Nat) (a : Pool) (ids : List Nat) (del add : List Ent) (a' : Pool) (ids' : List Nat) : Prop :=
 ∃ (id : Nat) (N N1 : Nd), a.Ns[id]? = some N ∧ Wr H del add N N1 ∧ Maint H K { a with Ns := a.Ns.set id N1 } ids id a' ids' ∧ Chg del add a.ents a'.ents ∧ a'.ents.Perm ((a.Ns.set id N1).flatMap Nd.ents)
theorem wr_chg {H : Nat → Nat} {a : Pool} {id : Nat} {N N1 : Nd} {del add : List Ent} (hN : a.Ns[id]? = some N) (hw : Wr H del add N N1) : Chg del add a.ents ((a.Ns.set id N1).flatMap Nd.ents) := by
 obtain ⟨B, B', b1, b2⟩ := entsN_set (N' := N1) hN
 unfold Pool.ents
 rw [b1, b2]
 exact hw.chg.wrap B B'
section
variable {W0 : World} {E : Nat → Addr} {H : Nat → Nat} {K M mb : Nat} {G : List Nat} {w w' : World} {a : Pool} {ids : List Nat}
theorem CoreTo.of {C : CPl} {F : List Nat} {A' : Adr} {v' : Value} {F' : List Nat} {a' : Pool} {ids' : List Nat} {len' : Nat} {b' : Int} {x' : Mtr} (h1 : C.mb = mb) (h2 : C.K = K) (h3 : C.M = M) (hc : CoreF W0 E H { C with A := A', v := v' } w (C.foot F) w' F' ⟨a', ids', len', b', x'⟩) (hi : CInv a' ids' []) (hl : len' = a'.ents.length) (hm : len' ≤ M) : CoreTo W0 E H K M mb (C.foot F) w w' a' ids' :=
 ⟨({ C with A := A', v := v' } : CPl).foot F', ⟨{ C with A := A', v := v' }, F', len', b', x', h1, h2, h3, rfl, hc.again, hi, hl, hm⟩, hc.sub, hc.mod⟩
theorem wrPost_to {C : CPl} {F : List Nat} {len : Nat} {b : Int} {x : Mtr} {id : Nat} {del add : List Ent} {len' : Nat} (h1 : C.mb = mb) (h2 : C.K = K) (h3 : C.M = M) (hl : len = a.ents.length) (hl' : len' + del.length = len + add.length) (hm : len' ≤ M) (h : WrPost W0 E H C w (C.foot F) ⟨a, ids, len, b, x⟩ id del add len' w') :
  ∃ a' ids', WrS H K a ids del add a' ids' ∧ CoreTo W0 E H K M mb (C.foot F) w w' a' ids' := by
 obtain ⟨N, N1, x1, hN, hw, _, A', v', F', a', ids', b', x', u, k1, k2, k3, k4, _⟩ := h
 have hch := wr_chg hN hw
 have hch2 : Chg del add a.ents a'.ents := hch.perm (.refl _) k3
 have hlen := hch2.len
 exact ⟨a', ids', ⟨id, N, N1, hN, hw, h2 ▸ k1, hch2, k3⟩, CoreTo.of h1 h2 h3 k4 k2 (by show len' = _; omega) hm⟩
theorem at_Put (h : CoreAt W0 E H K M mb G w a ids) (e : Ent) (he : EntOk H e) : Calls Tryz.prog 12 #[coreP mb, .int .u64 (e.key : Int), .int .u64 (e.val : Int), .int .u64 (e.hash : Int)] w fun y w' =>
  (look a.ents e.key = none ∧ M ≤ a.ents.length ∧ y = .returned (errV E 2) ∧ CoreTo W0 E H K M mb G w w' a ids) ∨
  (∃ a' ids', look a.ents e.key = none ∧ a.ents.length < M ∧ y = .returned .nilIface ∧ WrS H K a ids [] [e] a' ids' ∧ CoreTo W0 E H K M mb G w w' a' ids') ∨
  (∃ a' ids' e0, look a.ents e.key = some e0 ∧ y = .returned .nilIface ∧ WrS H K a ids [e0] [{ e0 with val := e.val }] a' ids' ∧ CoreTo W0 E H K M mb G w w' a' ids') := by
 obtain ⟨C, F, len, b, x, h1, h2, h3, rfl, hC, hi, hl, hm⟩ := h
 rw [← h1]
 cases hlk : look a.ents e.key with
 | some e0 =>
  obtain ⟨m1, m2⟩ := look_mem hlk
  refine (core_Put_found hC hi e he e0 m1 m2).mono ?_
  rintro y w' ⟨rfl, id, hp⟩
  obtain ⟨a', ids', k1, k2⟩ := wrPost_to h1 h2 h3 hl (by simp) hm hp
  exact .inr (.inr ⟨a', ids', e0, rfl, rfl, k1, h1 ▸ k2⟩)
 | none =>
  have hno : ∀ y ∈ a.ents, y.key ≠ e.key := fun y hy hk => by
   unfold look at hlk
   rw [List.find?_eq_none] at hlk
   exact hlk y hy (by simpa using hk)
  by_cases hlt : len < C.M
  ·refine (core_Put_new hC hi e he hno hlt hl).mono ?_
   rintro y w' ⟨rfl, id, hp⟩
   obtain ⟨a', ids', k1, k2⟩ := wrPost_to h1 h2 h3 hl (by simp) (by show len + 1 ≤ M; omega) hp
   exact .inr (.inl ⟨a', ids', rfl, by omega, rfl, k1, h1 ▸ k2⟩)
  ·refine (core_Put_full hC hi e he hno hlt).mono ?_
   rintro y w' ⟨rfl, x', hc, _⟩
   exact .inl ⟨rfl, by omega, rfl, h1 ▸ CoreTo.of (A' := C.A) (v' := C.v) h1 h2 h3 hc hi hl hm⟩
theorem at_Delete (h : CoreAt W0 E H K M mb G w a ids) (key : Nat) (h64 : H key < 18446744073709551616) : Calls Tryz.prog 11 #[coreP mb, .int .u64 (key : Int), .int .u64 (H key : Int)] w fun y w' =>
  ∃ a' ids', y = .returned (.tuple #[.int .u64 (((look a.ents key).getD ⟨0, 0, 0⟩).val : Int), .bool (look a.ents key).isSome]) ∧ WrS H K a ids (look a.ents key).toList [] a' ids' ∧ CoreTo W0 E H K M mb G w w' a' ids' := by
 obtain ⟨C, F, len, b, x, h1, h2, h3, rfl, hC, hi, hl, hm⟩ := h
 have hM := hC.mm.2
 rw [← h1]
 cases hlk : look a.ents key with
 | some e0 =>
  obtain ⟨m1, m2⟩ := look_mem hlk
  have hpos : 1 ≤ len := by rw [hl]; exact List.length_pos_of_mem m1
  refine (core_Delete hC hi key h64 e0 m1 m2 ⟨hpos, by show len ≤ 192; omega⟩).mono ?_
  rintro y w' ⟨rfl, id, hp⟩
  obtain ⟨a', ids', k1, k2⟩ := wrPost_to h1 h2 h3 hl (by show len - 1 + 1 = len + 0; omega) (by show len - 1 ≤ M; omega) hp
  exact ⟨a', ids', rfl, k1, h1 ▸ k2⟩
 | none =>
  have hno : ∀ y ∈ a.ents, y.key ≠ key := fun y hy hk => by
   unfold look at hlk
   rw [List.find?_eq_none] at hlk
   exact hlk y hy (by simpa using hk)
  refine (core_Delete_none hC hi key h64 hno).mono ?_
  rintro y w' ⟨rfl, id, hp⟩
  obtain ⟨a', ids', k1, k2⟩ := wrPost_to h1 h2 h3 hl (by simp) hm hp
  exact ⟨a', ids', rfl, k1, h1 ▸ k2⟩
theorem at_Get (h : CoreAt W0 E H K M mb G w a ids) (key : Nat) (h64 : H key < 18446744073709551616) : Calls Tryz.prog 24 #[coreP mb, .int .u64 (key : Int), .int .u64 (H key : Int)] w fun y w' =>
  y = .returned (.tuple #[.int .u64 (((look a.ents key).getD ⟨0, 0, 0⟩).val : Int), .bool (look a.ents key).isSome]) ∧ CoreTo W0 E H K M mb G w w' a ids := by
 obtain ⟨C, F, len, b, x, h1, h2, h3, rfl, hC, hi, hl, hm⟩ := h
 rw [← h1]
 refine (core_Get hC hi key h64).mono ?_
 rintro y w' ⟨rfl, x', hc, _⟩
 exact ⟨rfl, h1 ▸ CoreTo.of (A' := C.A) (v' := C.v) h1 h2 h3 hc hi hl hm⟩
theorem at_Len (h : CoreAt W0 E H K M mb G w a ids) : Calls Tryz.prog 13 #[coreP mb] w fun e w' => e = .returned (.int .i64 (a.ents.length : Int)) ∧ w = w' := by
 obtain ⟨C, F, len, b, x, h1, h2, h3, rfl, hC, hi, hl, hm⟩ := h
 rw [← h1, ← hl]
 exact core_Len hC
theorem at_Nodes (h : CoreAt W0 E H K M mb G w a ids) : Calls Tryz.prog 16 #[coreP mb] w fun e w' => e = .returned (.int .i64 (a.Ns.length : Int)) ∧ w = w' := by
 obtain ⟨C, F, len, b, x, h1, h2, h3, rfl, hC, hi, hl, hm⟩ := h
 rw [← h1]
 exact core_Nodes hC
theorem at_Depth (h : CoreAt W0 E H K M mb G w a ids) : Calls Tryz.prog 17 #[coreP mb] w fun e w' => e = .returned (.int .i64 (a.d : Int)) ∧ w = w' := by
 obtain ⟨C, F, len, b, x, h1, h2, h3, rfl, hC, hi, hl, hm⟩ := h
 rw [← h1]
 exact core_Depth hC
theorem at_Groups (h : CoreAt W0 E H K M mb G w a ids) : Calls Tryz.prog 14 #[coreP mb] w fun e w' => e = .returned (.int .i64 (a.groups : Int)) ∧ w = w' := by
 obtain ⟨C, F, len, b, x, h1, h2, h3, rfl, hC, hi, hl, hm⟩ := h
 rw [← h1]
 exact core_Groups hC
theorem at_Left (h : CoreAt W0 E H K M mb G w a ids) : Calls Tryz.prog 20 #[coreP mb] w fun e w' => e = .returned (.int .i64 ((sumL Pool.left a ids : Nat) : Int)) ∧ Below w.heap.size w w' := by
 obtain ⟨C, F, len, b, x, h1, h2, h3, rfl, hC, hi, hl, hm⟩ := h
 rw [← h1]
 exact core_Left hC hi
theorem CoreAt.mod {S : List Nat} (h : CoreAt W0 E H K M mb G w a ids) (hm : Mod S w w') (hS : ∀ q ∈ S, q ∉ G ∧ W0.heap.size ≤ q) : CoreAt W0 E H K M mb G w' a ids := by
 obtain ⟨C, F, len, b, x, h1, h2, h3, rfl, hC, hi, hl, hm'⟩ := h
 have hd : ∀ q ∈ S, q ≠ C.mb ∧ q ∉ C.s.blocks ∧ q ∉ F ∧ C.v.ownBlock ≠ some q := fun q hq => by
  have := (hS q hq).1
  rw [mem_foot] at this
  simp only [not_or] at this
  exact this
 refine ⟨C, F, len, b, x, h1, h2, h3, rfl, ⟨SchSt.start (hC.sch.sch.mod hm (fun q hq hqS => (hd q hqS).2.1 hq)) (hC.hp.stab hC.sch.pool hm (fun q hq hqS => (hd q hqS).2.2.1 hq)) (hC.sch.met.mod hm (fun hq => (hd _ hq).1 rfl)) (hC.sch.env.mod hm (fun q hq => (hS q hq).2)) hC.sch.apart hC.sch.mb0, own_far hC.row hm (fun k hk hkS => (hd k hkS).2.2.2 hk), hC.rap, hC.pos, hC.kk, hC.mm, ?_, fun q hq => .inl hq, Mod.refl _ _⟩, hi, hl, hm'⟩
 have := hC.sch.env.size
 have := hm.size
 omega
theorem CoreAt.below (h : CoreAt W0 E H K M mb G w a ids) (hb : Below w.heap.size w w') : CoreAt W0 E H K M mb G w' a ids := h.mod (Mod.of_below hb []) (by simp)
theorem CoreAt.facts (h : CoreAt W0 E H K M mb G w a ids) : CInv a ids [] ∧ a.d ≤ 5 ∧ a.Ns.length ≤ 32 ∧ 1 ≤ a.Ns.length ∧ a.Ns.length ≤ 2 ^ a.d ∧ (∀ (i : Nat) (N : Nd), a.Ns[i]? = some N → NOk H N) ∧ a.ents.length ≤ M ∧ M ≤ 192 ∧ (1 ≤ K ∧ K ≤ 64) ∧ (a.ents.map Ent.key).Nodup ∧ (∀ q ∈ G, q < w.heap.size ∧ W0.heap.size ≤ q) ∧ Env W0 E w := by
 obtain ⟨C, F, len, b, x, h1, h2, h3, rfl, hC, hi, hl, hm⟩ := h
 obtain ⟨b1, b2, b3, b4⟩ := hC.bounds
 have h4 := hC.mm
 have h5 := hC.kk
 exact ⟨hi, b1, b2, hC.pos, hi.dir.nodes, b4, by omega, by omega, by omega, pool_nodup hi.dir b1 b4, fun q hq => ⟨hC.lts q hq, hC.lows q hq⟩, hC.sch.env⟩
theorem new_at {H : Nat → Nat} (h : NewAt W0 E H K M w mb w') : CoreTo W0 E H K M mb [] w w' pool0 [] := by
 obtain ⟨C, F, h1, h2, h3, hC⟩ := h
 exact ⟨_, ⟨C, F, 0, 0, mtr0, h1, h2, h3, rfl, hC.again, inv0, by rw [ents0]; rfl, Nat.zero_le _⟩, hC.sub, hC.mod⟩
end
def GB (mx : Nat) (a : Pool) : Prop := ∀ (i : Nat) (N : Nd), a.Ns[i]? = some N → N.len ≤ mx ∧ N.each ≤ mx ∧ N.groups ≤ 2 * mx
theorem GB.more {mx mx' : Nat} {a : Pool} (h : GB mx a) (hm : mx ≤ mx') : GB mx' a := fun i N hN => by
 have := h i N hN; omega
theorem gb_like {mx : Nat} {a a' : Pool} (h : GB mx a) (hl : ∀ (i : Nat) (N' : Nd), a'.Ns[i]? = some N' → ∃ N, a.Ns[i]? = some N ∧ Like N N') : GB mx a' := fun i N' hN' => by
 obtain ⟨N, h1, h2⟩ := hl i N' hN'
 have h3 := h i N h1
 rw [h2.len, h2.each, h2.groups]
 exact h3
theorem gb_set {mx : Nat} {a : Pool} {id : Nat} {N N1 : Nd} (h : GB mx a) (hN : a.Ns[id]? = some N) (h1 : N1.len ≤ mx ∧ N1.each ≤ mx ∧ N1.groups ≤ 2 * mx) : GB mx { a with Ns := a.Ns.set id N1 } := fun i X hX => by
 have hX' : (a.Ns.set id N1)[i]? = some X := hX
 rw [set_get (get_lt hN)] at hX'
 split at hX'
 ·cases hX'; exact h1
 ·exact h i X hX'
theorem gb_idle {mx : Nat} {p d : Nat} {X : TabM} (h : X.gs.length ≤ mx) : (Nd.mk p d 0 0 X .idle).len ≤ mx ∧ (Nd.mk p d 0 0 X .idle).each ≤ mx ∧ (Nd.mk p d 0 0 X .idle).groups ≤ 2 * mx := by
 refine ⟨h, h, ?_⟩
 show X.gs.length ≤ _
 omega
theorem gb_end {H : Nat → Nat} {mx : Nat} {a a' : Pool} {id : Nat} (h : GB mx a) (hs : EndS H a id a') : GB mx a' := by
 cases hs with
 | take hc hl => exact h
 | @one _ N X hN hb hl ho hm hk he hx => exact gb_set h hN (gb_idle (by rw [hx]; exact (h id N hN).2.1))
 | @two _ N X Y hN hb hl ho hm hd hk hk2 he hx hy =>
  intro i Z hZ
  have hZ' : (a.Ns.set id ⟨2 * N.pfx, N.dpt + 1, 0, 0, X, .idle⟩ ++ [⟨2 * N.pfx + 1, N.dpt + 1, 0, 0, Y, .idle⟩])[i]? = some Z := hZ
  by_cases hi : i < a.Ns.length
  ·rw [List.getElem?_append_left (by simpa using hi)] at hZ'
   exact gb_set h hN (gb_idle (p := 2 * N.pfx) (d := N.dpt + 1) (X := X) (by rw [hx]; exact (h id N hN).2.1)) i Z hZ'
  ·have := get_lt hZ'
   rw [List.getElem?_append_right (by simpa using hi)] at hZ'
   rw [List.length_set, show i - a.Ns.length = 0 by simp at this; omega] at hZ'
   cases hZ'
   exact gb_idle (by rw [hy]; exact (h id N hN).2.1)
theorem gb_ends {H : Nat → Nat} {mx : Nat} {a a' : Pool} {l : List Nat} (hs : EndAll H a l a') (h : GB mx a) : GB mx a' := by
 induction hs with
 | nil => exact h
 | cons h1 r ih => exact ih (gb_end h h1)
theorem which_many {l t : Int} {g lo gl k : Nat} (h : whichK l t g lo gl = k) (hk : k = 2 ∨ k = 3) : 2 * (g : Int) < l := by
 unfold whichK at h
 split at h
 ·omega
 ·split at h
  ·omega
  ·omega
theorem which_le {l t : Int} {g lo gl k : Nat} (h : whichK l t g lo gl = k) : k = 0 ∨ k = 1 ∨ k = 2 ∨ k = 3 := by
 unfold whichK at h
 split at h
 ·omega
 ·split at h
  ·omega
  ·split at h
   ·omega
   ·split at h <;> omega
theorem ents_node_le {a : Pool} {i : Nat} {N : Nd} (hN : a.Ns[i]? = some N) : N.ents.length ≤ a.ents.length := by
 obtain ⟨B, B', b1, _⟩ := entsN_set (N' := N) hN
 unfold Pool.ents
 rw [b1, List.length_append, List.length_append]
 omega
theorem gb_maint {H : Nat → Nat} {K mx : Nat} {a a' : Pool} {ids ids' : List Nat} {id : Nat} (h : GB mx a) (ho : ∀ (i : Nat) (N : Nd), a.Ns[i]? = some N → NOk H N) (hl : a.ents.length ≤ mx) (hp : CPre a ids id) (h32 : a.Ns.length ≤ 32) (hm : Maint H K a ids id a' ids') : GB mx a' := by
 obtain ⟨a1, ids1, a2, ids2, a3, e1, ids3, a4, h1, h2, h3, h4, h5, _⟩ := hm.ex
 obtain ⟨s1, _, s3, _⟩ := beg_srv hp (fun N hN => ho id N hN) h1
 obtain ⟨s2, _⟩ := dbl_srv s1 (by omega) h2
 have g1 : GB mx a1 := by
  cases h1 with
  | busy hN hb => exact h
  | @none N hN hi hk => exact gb_set h hN (h id N hN)
  | @start N kind hN hi hk h0 =>
   have hg := h id N hN
   have hO := ho id N hN
   have hlen : (N.start kind).len = N.len := rfl
   have h6 := hO.tg.ok.live
   have h7 : (entsT N.T.gs).length ≤ N.ents.length := by unfold Nd.ents; rw [List.length_append]; omega
   have h8 := ents_node_le hN
   refine gb_set h hN ?_
   have hgr : (N.start kind).groups = (N.start kind).len + (N.start kind).each * (N.start kind).many := rfl
   rw [hgr, hlen]
   rcases which_le hk with e | e | e | e
   ·exact absurd e h0
   ·have e1 : (N.start kind).each = N.len := by show (if kind = 2 then _ else _) = _; rw [if_neg (by omega)]; rfl
    have e2 : (N.start kind).many = 1 := by show (if kind = 3 then _ else _) = _; rw [if_neg (by omega)]
    rw [e1, e2]; omega
   ·have e1 : (N.start kind).each = 2 * N.len := by show (if kind = 2 then _ else _) = _; rw [if_pos e]; rfl
    have e2 : (N.start kind).many = 1 := by show (if kind = 3 then _ else _) = _; rw [if_neg (by omega)]
    have := which_many hk (.inl e)
    rw [e1, e2]; omega
   ·have e1 : (N.start kind).each = N.len := by show (if kind = 2 then _ else _) = _; rw [if_neg (by omega)]; rfl
    have e2 : (N.start kind).many = 2 := by show (if kind = 3 then _ else _) = _; rw [if_pos e]
    have := which_many hk (.inr e)
    rw [e1, e2]; omega
 have g2 : GB mx a2 := by
  cases h2 with
  | not => exact g1
  | yes hp hc hd => exact g1
 have g3 := gb_like g2 (fun i N' hN' => by obtain ⟨N, x1, x2, _⟩ := (own_ok h3).1.nds i N' hN'; exact ⟨N, x1, x2⟩)
 have g4 := gb_like g3 (fun i N' hN' => by obtain ⟨N, x1, x2, _⟩ := (oth_ok h4 s2.pre.nd).1.nds i N' hN'; exact ⟨N, x1, x2⟩)
 exact gb_ends h5 g4
theorem gb_wr {H : Nat → Nat} {K mx : Nat} {a a' : Pool} {ids ids' : List Nat} {del add : List Ent} (h : GB mx a) (ho : ∀ (i : Nat) (N : Nd), a.Ns[i]? = some N → NOk H N) (hi : CInv a ids []) (h32 : a.Ns.length ≤ 32) (hl : a'.ents.length ≤ mx) (hw : WrS H K a ids del add a' ids') : GB mx a' := by
 obtain ⟨id, N, N1, hN, hw, hm, _, hp⟩ := hw
 have hg := h id N hN
 refine gb_maint (gb_set h hN (by rw [hw.like.len, hw.like.each, hw.like.groups]; exact hg)) (fun i X hX => ?_) (by rw [show (Pool.ents { a with Ns := a.Ns.set id N1 }) = (a.Ns.set id N1).flatMap Nd.ents from rfl, ← hp.length_eq]; exact hl) (wr_pre hi hN hw) (by simpa using h32) hm
 have hX' : (a.Ns.set id N1)[i]? = some X := hX
 rw [set_get (get_lt hN)] at hX'
 split at hX'
 ·cases hX'; exact hw.ok
 ·exact ho i X hX'
theorem gb0 : GB 1 pool0 := fun i N hN => by
 have h1 : i < 1 := get_lt hN
 obtain rfl : i = 0 := by omega
 have : N = nd0 := (Option.some.inj hN).symm
 subst this
 have hl : nd0.len = 1 := prepG_length (Nat.le_refl 1)
 refine ⟨by omega, ?_, ?_⟩
 ·rw [show nd0.each = nd0.len from rfl]; omega
 ·show nd0.len ≤ 2 * 1; omega
theorem gb_sum {mx : Nat} {a : Pool} (h : GB mx a) (h32 : a.Ns.length ≤ 32) : a.groups ≤ 64 * mx := by
 have hs : ∀ l : List Nd, (∀ N ∈ l, N.groups ≤ 2 * mx) → (l.map Nd.groups).sum ≤ 2 * mx * l.length := fun l => by
  induction l with
  | nil => intro _; simp
  | cons N l ih =>
   intro hh
   have h1 := ih (fun X hX => hh X (by simp [hX]))
   have h2 := hh N (by simp)
   simp only [List.map_cons, List.sum_cons, List.length_cons, Nat.mul_succ]
   omega
 have h1 := hs a.Ns (fun N hN => by obtain ⟨i, hi⟩ := List.getElem?_of_mem hN; exact (h i N hi).2.2)
 have h2 : 2 * mx * a.Ns.length ≤ 2 * mx * 32 := Nat.mul_le_mul_left _ h32
 unfold Pool.groups
 omega
theorem groups_pos {H : Nat → Nat} {a : Pool} (h1 : 1 ≤ a.Ns.length) (ho : ∀ (i : Nat) (N : Nd), a.Ns[i]? = some N → NOk H N) : 1 ≤ a.groups := by
 obtain ⟨N, hN⟩ : ∃ N, a.Ns[0]? = some N := ⟨_, List.getElem?_eq_getElem h1⟩
 have h2 := (ho 0 N hN).pw.pos
 have h3 : N.len ≤ N.groups := by unfold Nd.groups; split <;> omega
 obtain ⟨hl, _⟩ := list_at hN
 have h4 : (a.Ns.map Nd.groups).sum = ((a.Ns.take 0 ++ N :: a.Ns.drop 1).map Nd.groups).sum := by rw [← hl]
 unfold Pool.groups
 rw [h4]
 simp
 omega
end
section
open Go.RowKit AmC
def aliveE (j : Nat) : Ent := ⟨j, j + 1, j * 1152921504606846976⟩
def aliveL : Nat → List Ent
 | 0 => []
 | i + 1 => aliveE i :: aliveL i
def aliveH (k : Nat) : Nat := k * 1152921504606846976 % 18446744073709551616
theorem aliveE_ok {i : Nat} (hi : i < 4) : EntOk aliveH (aliveE i) := by
 unfold aliveE aliveH
 exact ⟨by simp only; omega, by simp only; omega, by simp only; omega, by simp only; omega⟩
theorem aliveL_len : ∀ i, (aliveL i).length = i
 | 0 => rfl
 | i + 1 => by unfold aliveL; rw [List.length_cons, aliveL_len i]
structure AliveSt (i : Nat) (a : Pool) (ids : List Nat) : Prop where
 ids_ : ids = []
 ents : a.ents.Perm (aliveL i)
 nd : ∃ N, a.Ns = [N] ∧ N.ph = .idle ∧ N.len = 1 ∧ N.dpt = 0 ∧ N.kind = 0 ∧ load N.T ≤ i
theorem alive0 : AliveSt 0 pool0 [] := by
 obtain ⟨h1, h2, h3⟩ := tg_bare (n := 1) (.inl rfl)
 refine ⟨rfl, by rw [ents0]; exact .refl _, nd0, rfl, rfl, prepG_length (Nat.le_refl 1), rfl, rfl, ?_⟩
 show load (prepT 1 1) ≤ 0
 rw [h3]; exact Nat.le_refl _
theorem oth_nil {H : Nat → Nat} {c : Nat} {ids e ids' : List Nat} {a a' : Pool} (h : Oth Pool.left (Pool.step H) c ids a e ids' a') (hn : ids = []) : e = [] ∧ ids' = [] ∧ a' = a := by
 cases h with
 | nil => exact ⟨rfl, rfl, rfl⟩
 | broke => exact ⟨rfl, hn, rfl⟩
 | ended => cases hn
 | step => cases hn
theorem oth_one {H : Nat → Nat} {c id : Nat} {ids e ids' : List Nat} {a a' : Pool} (h : Oth Pool.left (Pool.step H) c ids a e ids' a') (hc : 1 ≤ c) (hn : ids = [id]) (h0 : a.left id = 0) : e = [id] ∧ ids' = [] ∧ a' = a := by
 cases h with
 | nil => cases hn
 | broke => omega
 | ended h1 r =>
  obtain ⟨rfl, hn2⟩ := List.cons.inj hn
  obtain ⟨e1, e2, e3⟩ := oth_nil r hn2
  rw [e1]
  exact ⟨rfl, e2, e3⟩
 | step h1 hs r =>
  obtain ⟨rfl, _⟩ := List.cons.inj hn
  omega
theorem ends_nil {H : Nat → Nat} {l : List Nat} {a a' : Pool} (h : EndAll H a l a') (hl : l = []) : a' = a := by
 cases h with
 | nil => rfl
 | cons => cases hl
theorem ends_one {H : Nat → Nat} {l : List Nat} {id : Nat} {a a' : Pool} (h : EndAll H a l a') (hl : l = [id]) : EndS H a id a' := by
 cases h with
 | nil => cases hl
 | cons h1 r =>
  obtain ⟨rfl, h2⟩ := List.cons.inj hl
  rw [ends_nil r h2]; exact h1
theorem alive_node {H : Nat → Nat} {i : Nat} {a a' : Pool} {ids ids' : List Nat} (hA : AliveSt i a ids) (ho : ∀ (i : Nat) (N : Nd), a.Ns[i]? = some N → NOk H N) (hw : WrS H 1 a ids [] [aliveE i] a' ids') :
  ∃ N1, NOk H N1 ∧ N1.ph = .idle ∧ N1.len = 1 ∧ N1.dpt = 0 ∧ N1.kind = 0 ∧ load N1.T ≤ i + 1 ∧ (entsT N1.T.gs).length = i + 1 ∧ Maint H 1 { a with Ns := [N1] } [] 0 a' ids' ∧ a'.ents.Perm (aliveL (i + 1)) := by
 obtain ⟨id, N0, N1, hN, hw, hm, hch, hp⟩ := hw
 obtain ⟨N, n1, n2, n3, n4, n5, n6⟩ := hA.nd
 have hid : id = 0 := by
  have := get_lt hN
  rw [n1] at this
  simpa using this
 subst hid
 rw [n1] at hN
 have hNN : N0 = N := (Option.some.inj hN).symm
 subst hNN
 have hL := hw.like
 have hset : a.Ns.set 0 N1 = [N1] := by rw [n1]; rfl
 rw [hset] at hm hp
 have hb : N1.ph = .idle := busy_of (by rw [hL.busy, n2]; rfl)
 have hpe : a'.ents.Perm (aliveL (i + 1)) := by
  obtain ⟨r, r1, r2⟩ := hch
  refine r2.trans ?_
  unfold aliveL
  simp only [List.singleton_append]
  exact ((by simpa using r1.symm : r.Perm a.ents).trans hA.ents).cons _
 refine ⟨N1, hw.ok, hb, hL.len.trans n3, hL.dpt.trans n4, hL.kind.trans n5, ?_, ?_, hA.ids_ ▸ hm, hpe⟩
 ·have := hw.ld n2
  simp at this; omega
 ·have h1 := hp.length_eq
  have h2 := hpe.length_eq
  rw [aliveL_len] at h2
  have h3 : ([N1].flatMap Nd.ents) = entsT N1.T.gs := by simp [Nd.ents, hb, frs, entsTs]
  rw [h3] at h1
  omega
theorem alive_next {H : Nat → Nat} {i : Nat} {a a' : Pool} {ids ids' : List Nat} (hi : i < 3) (hA : AliveSt i a ids) (ho : ∀ (i : Nat) (N : Nd), a.Ns[i]? = some N → NOk H N) (hw : WrS H 1 a ids [] [aliveE i] a' ids') : AliveSt (i + 1) a' ids' := by
 obtain ⟨N1, k1, k2, k3, k4, k5, k6, k7, hm, hp⟩ := alive_node hA ho hw
 have hld := k1.tg.loadI
 have hnb : needsB N1.T.live N1.T.tombs N1.len = false := by
  unfold needsB
  rw [k3]
  have h1 := k1.tg.ok.live
  have h2 := k1.tg.ok.tombs
  simp only [Bool.or_eq_false_iff, decide_eq_false_iff_not]
  omega
 have hwh : ∀ gl, whichK N1.T.live N1.T.tombs N1.len N1.dpt gl = 0 := fun gl => by unfold whichK; rw [if_pos hnb]
 obtain ⟨a1, ids1, a2, ids2, a3, e1, ids3, a4, h1, h2, h3, h4, h5, h6⟩ := hm.ex
 have hget : ∀ X : Nd, ({ a with Ns := [N1] } : Pool).Ns[0]? = some X → X = N1 := fun X hX => (Option.some.inj hX).symm
 obtain ⟨g1, g2⟩ : a1 = { a with Ns := [{ N1 with sl := 0 }] } ∧ ids1 = [] := by
  cases h1 with
  | busy hN hb => have := hget _ hN; subst this; rw [k2] at hb; cases hb
  | none hN hi hk => have := hget _ hN; subst this; exact ⟨rfl, rfl⟩
  | start hN hi hk h0 => have := hget _ hN; subst this; rw [hwh] at hk; exact absurd hk.symm h0
 subst g1 g2
 obtain ⟨g3, g4⟩ : a2 = { a with Ns := [{ N1 with sl := 0 }] } ∧ ids2 = [] := by
  cases h2 with
  | not => exact ⟨rfl, rfl⟩
  | yes hp2 =>
   obtain ⟨X, hX, hd⟩ := hp2
   have := hget _ hX
   subst this
   rw [which_dbl (hwh _)] at hd
   cases hd
 subst g3 g4
 have g5 : a3 = { a with Ns := [{ N1 with sl := 0 }] } := by
  rcases h3 with ⟨_, e⟩ | ⟨e, _⟩
  ·exact e
  ·cases e
 obtain ⟨o1, o2, o3⟩ := oth_nil h4 rfl
 have g6 := ends_nil h5 (by rw [o1, o2]; rfl)
 refine ⟨by rw [h6, o2]; rfl, hp, { N1 with sl := 0 }, by rw [g6, o3, g5], k2, k3, k4, k5, k6⟩
theorem alive_last {H : Nat → Nat} {a a' : Pool} {ids ids' : List Nat} (hA : AliveSt 3 a ids) (ho : ∀ (i : Nat) (N : Nd), a.Ns[i]? = some N → NOk H N) (hw : WrS H 1 a ids [] [aliveE 3] a' ids') : ids' = [] ∧ a'.ents.Perm (aliveL 4) ∧ a'.groups = 2 := by
 obtain ⟨N1, k1, k2, k3, k4, k5, k6, k7, hm, hp⟩ := alive_node hA ho hw
 have h1' := k1.tg.ok.live
 have hl4 : N1.T.live = 4 := by rw [h1', k7]; rfl
 have hnb : needsB N1.T.live N1.T.tombs N1.len = true := by
  unfold needsB
  rw [k3, hl4]
  simp
 have hwh : ∀ gl, whichK N1.T.live N1.T.tombs N1.len N1.dpt gl = 2 := fun gl => by
  unfold whichK
  rw [if_neg (by rw [hnb]; simp), hl4, k3, if_neg (by decide), if_neg (by omega), if_pos (by decide)]
 have hdb : ∀ gl, doubleB N1.T.live N1.T.tombs N1.len N1.dpt gl = false := fun gl => by
  unfold doubleB
  rw [k3]
  simp
 obtain ⟨a1, ids1, a2, ids2, a3, e1, ids3, a4, h1, h2, h3, h4, h5, h6⟩ := hm.ex
 have hget : ∀ X : Nd, ({ a with Ns := [N1] } : Pool).Ns[0]? = some X → X = N1 := fun X hX => (Option.some.inj hX).symm
 obtain ⟨g1, g2⟩ : a1 = { a with Ns := [N1.start 2] } ∧ ids1 = [0] := by
  cases h1 with
  | busy hN hb => have := hget _ hN; subst this; rw [k2] at hb; cases hb
  | none hN hi hk => have := hget _ hN; subst this; rw [hwh] at hk; cases hk
  | @start _ kind hN hi hk h0 =>
   have := hget _ hN
   subst this
   rw [hwh] at hk
   subst hk
   exact ⟨rfl, rfl⟩
 subst g1 g2
 obtain ⟨g3, g4⟩ : a2 = { a with Ns := [N1.start 2] } ∧ ids2 = [0] := by
  cases h2 with
  | not => exact ⟨rfl, rfl⟩
  | yes hp2 =>
   obtain ⟨X, hX, hd⟩ := hp2
   have := hget _ hX
   subst this
   rw [hdb] at hd
   cases hd
 subst g3 g4
 have hleft : Pool.left { a with Ns := [N1.start 2] } 0 = 3 := by
  show (N1.start 2).left = 3
  show N1.len + ((N1.start 2).each * (N1.start 2).many - 0) = 3
  have e1 : (N1.start 2).each = 2 * N1.len := rfl
  have e2 : (N1.start 2).many = 1 := rfl
  rw [e1, e2, k3]
 rcases h3 with ⟨e, _⟩ | ⟨_, m, hs, hm8, hor⟩
 ·exact absurd (by simp) e
 ·obtain ⟨s1, s2, s3, s4, s5⟩ := stepN_ok hs
  rw [hleft] at s4
  have hz : a3.left 0 = 0 := by rcases hor with e | e <;> omega
  obtain ⟨o1, o2, o3⟩ := oth_one h4 (Nat.le_refl _) rfl hz
  have hE := ends_one (id := 0) h5 (by rw [o1, o2]; rfl)
  rw [o3] at hE
  have hlen : a3.Ns.length = 1 := s1.len
  obtain ⟨N3, hN3⟩ : ∃ N3, a3.Ns[0]? = some N3 := ⟨_, List.getElem?_eq_getElem (by omega)⟩
  obtain ⟨N2, hN2, hL, _⟩ := s1.nds 0 N3 hN3
  have hN2' : N2 = N1.start 2 := (Option.some.inj hN2).symm
  subst hN2'
  refine ⟨by rw [h6, o2]; rfl, hp, ?_⟩
  cases hE with
  | @one _ N X hN hb hl ho hm hk he hx =>
   rw [hN3] at hN
   have : N3 = N := Option.some.inj hN
   subst this
   have h8 : a3.Ns.set 0 (Nd.mk N3.pfx N3.dpt 0 0 X .idle) = [Nd.mk N3.pfx N3.dpt 0 0 X .idle] := by
    obtain ⟨y, hy⟩ := List.length_eq_one_iff.1 hlen
    rw [hy]; rfl
   show ((a3.Ns.set 0 (Nd.mk N3.pfx N3.dpt 0 0 X .idle)).map Nd.groups).sum = 2
   rw [h8]
   show X.gs.length + 0 = 2
   rw [hx, hL.each]
   show 2 * N1.len + 0 = 2
   rw [k3]
  | @two _ N X Y hN hb hl ho hmm hd hk hk2 he hx hy =>
   exfalso
   rw [hN3] at hN
   have : N3 = N := Option.some.inj hN
   subst this
   rw [hL.many] at hmm
   have e2 : (N1.start 2).many = 1 := rfl
   omega
theorem alive_look {l : List Ent} (h : l.Perm (aliveL 4)) : look l 2 = some ⟨2, 3, 2305843009213693952⟩ := by
 have hn : ((aliveL 4).map Ent.key).Nodup := by decide
 rw [look_perm h ((h.map Ent.key).nodup_iff.2 hn)]
 decide
end
section
open Go.RowKit AmC
set_option maxRecDepth 100000 in
set_option maxHeartbeats 4000000 in
theorem core_Jobs_nil {W0 : World} {E : Nat → Addr} {H : Nat → Nat} {C : CPl} {w0 : World} {G0 : List Nat} {w : World} {F : List Nat} {st : CSt} (h : CoreF W0 E H C w0 G0 w F st) (hn : st.ids = []) : Calls Tryz.prog 18 #[coreP C.mb] w fun e w' => e = .returned (.slice none 0 0) ∧ Below w.heap.size w w' := by
 have HC := qd h
 obtain ⟨c0, c1, c11, c12, c13, c14, c15⟩ := HC.out.cells
 have hI := sched_Ids C.sb C.qb C.rb C.jb (C.K : Int) st.b C.A.val st.ids w h.sch.sch
 rw [hn] at hI
 unfold schP at hI
 have HI := qd hI
 clear h hn hI
 unfold coreP
 go_enter Tryz.func18, Tryz.ntmps18
 go_wp2_with fail
 refine HI.out.mono ?_
 rintro x w1 ⟨A, cc, rfl, hO, hb⟩
 have HB := qd hb
 clear c0 c1 c11 c12 c13 c14 c15
 clear hO hb HI HC
 go_wp2
 go_loopw [3, 5, 12] (fun v3 _ v12 wr => v3 = .slice none 0 0 ∧ v12 = .int .i64 0 ∧ wr = w1) (fun _ _ _ _ => 0)
 case atStart => exact ⟨rfl, rfl, rfl⟩
 case round =>
  obtain ⟨rfl, rfl, rfl⟩ := hrel
  go_wp2
  go_ret
  exact ⟨rfl, HB.out⟩
theorem at_Jobs_nil {W0 : World} {E : Nat → Addr} {H : Nat → Nat} {K M mb : Nat} {G : List Nat} {w : World} {a : Pool} {ids : List Nat} (h : CoreAt W0 E H K M mb G w a ids) (hn : ids = []) : Calls Tryz.prog 18 #[coreP mb] w fun e w' => e = .returned (.slice none 0 0) ∧ Below w.heap.size w w' := by
 obtain ⟨C, F, len, b, x, h1, h2, h3, rfl, hC, hi, hl, hm⟩ := h
 rw [← h1]
 exact core_Jobs_nil hC hn
def AliveG (i : Nat) (a : Pool) (ids : List Nat) : Prop := (i < 4 → AliveSt i a ids) ∧ (i = 4 → ids = [] ∧ a.ents.Perm (aliveL 4) ∧ a.groups = 2)
theorem aliveL_lt : ∀ i, ∀ e ∈ aliveL i, e.key < i
 | 0, _, h => by cases h
 | i + 1, e, h => by
  unfold aliveL at h
  rcases List.mem_cons.1 h with rfl | h1
  ·exact Nat.lt_succ_self _
  ·exact Nat.lt_succ_of_lt (aliveL_lt i e h1)
theorem alive_put {W0 : World} {E : Nat → Addr} {mb : Nat} {G : List Nat} {w : World} {a : Pool} {ids : List Nat} {i : Nat} (hlt : i < 4) (hA : CoreAt W0 E aliveH 1 9 mb G w a ids) (hG : AliveG i a ids) : Calls Tryz.prog 12 #[coreP mb, .int .u64 (i : Int), .int .u64 ((i + 1 : Nat) : Int), .int .u64 ((i * 1152921504606846976 : Nat) : Int)] w fun y w' => y = .returned .nilIface ∧ ∃ a' ids', AliveG (i + 1) a' ids' ∧ CoreTo W0 E aliveH 1 9 mb G w w' a' ids' := by
 have hS := hG.1 hlt
 obtain ⟨f1, f2, f3, f4, f5, f6, _⟩ := hA.facts
 have hno : look a.ents (aliveE i).key = none := look_none fun e he hk => by
  have := aliveL_lt i e (hS.ents.mem_iff.1 he)
  have h1 : e.key = i := hk
  omega
 have hlen := hS.ents.length_eq
 rw [aliveL_len] at hlen
 refine (at_Put hA (aliveE i) (aliveE_ok hlt)).mono ?_
 rintro y w' (⟨_, h2, _⟩ | ⟨a', ids', _, _, rfl, hw, hto⟩ | ⟨a', ids', e0, h1, _⟩)
 ·omega
 ·refine ⟨rfl, a', ids', ⟨fun h4 => alive_next (by omega) hS f6 hw, fun h4 => ?_⟩, hto⟩
  obtain rfl : i = 3 := by omega
  exact alive_last hS f6 hw
 ·rw [hno] at h1; cases h1
set_option maxRecDepth 100000 in
set_option maxHeartbeats 8000000 in
theorem law_alive {W0 : World} {E : Nat → Addr} {w : World} (hE : Env W0 E w) : Calls Tryz.prog 7 #[] w fun e w' => e = .returned (.bool true) ∧ Below w.heap.size w w' := by
 have hN := core_New aliveH hE 1 9 1 (by decide) 1 9 1 ⟨⟨by omega, by omega⟩, ⟨by omega, by omega⟩, rfl, rfl, rfl⟩
 unfold cfgV at hN
 have HN := qd hN
 have HE := qd hE
 clear hN hE
 go_enter Tryz.func7, Tryz.ntmps7
 go_wp2_with fail
 refine HN.out.mono ?_
 rintro x w1 ⟨mb, rfl, hnew⟩
 obtain ⟨G1, hA1, hs1, hm1⟩ := new_at hnew
 have HA1 := qd hA1
 have HS1 := qd (show ∀ q ∈ G1, w.heap.size ≤ q from fun q hq => by rcases hs1 q hq with h | h; cases h; exact h)
 have HB1 := qd hm1.to_below
 clear hnew hA1 hs1 hm1 HN
 unfold coreP
 go_wp2
 go_loopw [3, 17] (fun _ v17 wr => ∃ (i : Nat) (G : List Nat) (a : Pool) (ids : List Nat), i ≤ 4 ∧ v17 = .int .u64 (i : Int) ∧ Hid (CoreAt W0 E aliveH 1 9 mb G wr a ids) ∧ Hid (AliveG i a ids) ∧ Hid (∀ q ∈ G, w.heap.size ≤ q) ∧ Hid (Below w.heap.size w wr)) (fun _ v17 _ => 4 - (intOf v17).toNat)
 case atStart => exact ⟨0, G1, pool0, [], by omega, rfl, HA1, qd ⟨fun _ => alive0, fun h => absurd h (by omega)⟩, HS1, HB1⟩
 case round =>
  clear HA1 HS1 HB1
  obtain ⟨i, G, a, ids, hi, rfl, HA, HG, HS, HB⟩ := hrel
  by_cases hlt : i < 4
  ·have hlt' : (i : Int) < 4 := by omega
   have HP := qd (alive_put hlt HA.out HG.out)
   obtain ⟨v1, hv1⟩ : ∃ v1 : Nat, v1 = i + 1 := ⟨_, rfl⟩
   have hc : ((i * 1152921504606846976 : Nat) : Int) = (i : Int) * 1152921504606846976 := by omega
   have HP2 := qd (show Calls Tryz.prog 12 #[.pointer (some ⟨mb, 0, none⟩), .int .u64 (i : Int), .int .u64 (v1 : Int), .int .u64 ((i : Int) * 1152921504606846976)] wr _ from by rw [hv1, ← hc]; exact HP.out)
   have w1' : IntKind.u64.wrap ((i : Int) + 1) = (v1 : Int) := by rw [IntKind.wrap_u64] <;> omega
   have hsz := HB.out.size
   clear HP hv1 hc
   go_wp2_with fail
   refine HP2.out.mono ?_
   rintro y w2 ⟨rfl, a', ids', hG', G', hA', hsub, hmod⟩
   have HA2 := qd hA'
   have HG2 := qd hG'
   have HS2 := qd (show ∀ q ∈ G', w.heap.size ≤ q from fun q hq => by
    rcases hsub q hq with h1 | h1
    ·exact HS.out q h1
    ·omega)
   have HB2 := qd (HB.out.trans (hmod.below HS.out hsz))
   clear hG' hA' hsub hmod HP2 HA HG HS HB w1'
   go_wp2
   go_roundw
   case rel => exact ⟨i + 1, G', a', ids', by omega, by first | go_num | (simp; rw [IntKind.wrap_u64]; omega) | (simp; omega), HA2, HG2, HS2, HB2⟩
   case measure => simp [intOf]; omega
  ·obtain rfl : i = 4 := by omega
   have hlt' : ¬ ((4 : Nat) : Int) < 4 := by omega
   obtain ⟨t1, t2, t3⟩ := HG.out.2 rfl
   have hlk := alive_look t2
   have hlen := t2.length_eq
   have hget := at_Get HA.out 2 (by decide)
   rw [hlk] at hget
   have HGe := qd (show Calls Tryz.prog 24 #[.pointer (some ⟨mb, 0, none⟩), .int .u64 2, .int .u64 2305843009213693952] wr (fun y w' => y = .returned (.tuple #[.int .u64 3, .bool true]) ∧ CoreTo W0 E aliveH 1 9 mb G wr w' a ids) from hget)
   have HT1 := qd t1
   have HT3 := qd t3
   have HLen := qd (show a.ents.length = 4 from hlen)
   have hsz := HB.out.size
   clear t1 t2 t3 hlk hlen hget
   go_wp2_with fail
   refine HGe.out.mono ?_
   rintro y w2 ⟨rfl, G', hA', hsub, hmod⟩
   have HB2 := qd (HB.out.trans (hmod.below HS.out hsz))
   have hl2 := at_Len hA'
   rw [HLen.out] at hl2
   have HL2 := qd (show Calls Tryz.prog 13 #[.pointer (some ⟨mb, 0, none⟩)] w2 (fun e w' => e = .returned (.int .i64 4) ∧ w2 = w') from hl2)
   have hg2 := at_Groups hA'
   rw [HT3.out] at hg2
   have HG2 := qd (show Calls Tryz.prog 14 #[.pointer (some ⟨mb, 0, none⟩)] w2 (fun e w' => e = .returned (.int .i64 2) ∧ w2 = w') from hg2)
   have hf2 := at_Left hA'
   rw [HT1.out] at hf2
   have HF2 := qd (show Calls Tryz.prog 20 #[.pointer (some ⟨mb, 0, none⟩)] w2 (fun e w' => e = .returned (.int .i64 0) ∧ Below w2.heap.size w2 w') from hf2)
   have HA2 := qd hA'
   clear hA' hsub hmod hl2 hg2 hf2 HGe HA HG HS HB
   go_wp2_with fail
   refine HL2.out.mono ?_
   rintro y w3 ⟨rfl, rfl⟩
   go_wp2_with fail
   refine HG2.out.mono ?_
   rintro y w3 ⟨rfl, rfl⟩
   go_wp2_with fail
   refine HF2.out.mono ?_
   rintro y w3 ⟨rfl, hb3⟩
   have HJ := qd (show Calls Tryz.prog 18 #[.pointer (some ⟨mb, 0, none⟩)] w3 _ from at_Jobs_nil (HA2.out.below hb3) HT1.out)
   have HB3 := qd (below2 HB2.out hb3)
   clear hb3
   go_wp2_with fail
   refine HJ.out.mono ?_
   rintro y w4 ⟨rfl, hb4⟩
   have HB4 := qd (below2 HB3.out hb4)
   clear hb4
   go_wp2
   go_ret
   exact ⟨rfl, HB4.out⟩
end
end Go.Proofs.YtcgjgfgkdoohlaaGreatDoor
