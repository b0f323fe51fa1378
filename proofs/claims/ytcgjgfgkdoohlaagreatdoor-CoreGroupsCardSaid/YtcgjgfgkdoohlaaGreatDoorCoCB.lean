/- A node's writes, the begin and the end of its job; where a key of it is. No statement of the claim. -/
import Derived.Test.YtcgjgfgkdoohlaaGreatDoorCoBZ
import Derived.Test.YtcgjgfgkdoohlaaGreatDoorCoN
namespace Go.Proofs.YtcgjgfgkdoohlaaGreatDoor
section
open Go AmC
def Nd.setT (N : Nd) (X : TabM) (s : Nat) : Nd := { N with T := X, sl := s }
def Nd.setF (N : Nd) (Ts : List TabM) (next j : Nat) (X : TabM) (s : Nat) : Nd := { N with ph := .mov (Ts.set j X) next, sl := s }
structure Wr (H : Nat → Nat) (del add : List Ent) (N N' : Nd) : Prop where
 like : Like N N'
 left : N'.left = N.left
 chg : Chg del add N.ents N'.ents
 ok : NOk H N'
 sl : add.length ≤ del.length → N'.sl = N.sl
 ld : N.ph = .idle → load N'.T ≤ load N.T + (add.length - del.length)
structure AddOk (H : Nat → Nat) (N : Nd) (del add : List Ent) : Prop where
 hash : ∀ e ∈ add, EntOk H e ∧ topOf e.hash N.dpt = N.pfx
 keys : ∀ rest, N.ents.Perm (del ++ rest) → ((add ++ rest).map Ent.key).Nodup
 few : N.ents.length + add.length ≤ 192 + del.length
 one : add.length ≤ del.length ∨ add.length = 1 ∧ del = [] ∧ N.sl = 0
def slk (del add : List Ent) (s : Nat) : Nat := if del.length < add.length then 8 else s
theorem Wr.of {H : Nat → Nat} {N N' : Nd} {del add : List Ent} (h : NOk H N) (ha : AddOk H N del add) (hL : Like N N') (hl : N'.left = N.left) (hc : Chg del add N.ents N'.ents) (ht : TG N'.T) (hs : N'.sl = slk del add N.sl) (hld : N.ph = .idle → load N'.T ≤ load N.T + (add.length - del.length)) (hp : PhOk N') : Wr H del add N N' := by
 refine ⟨hL, hl, hc, ⟨ht, by rw [hL.dpt]; exact h.deep, by rw [hL.dpt, hL.len]; exact h.big, by rw [hL.dpt, hL.pfx]; exact h.pfx, ?_, ?_, fun e he => ?_, ?_, hp⟩, fun hh => by rw [hs]; unfold slk; rw [if_neg (by omega)], hld⟩
 ·rw [hs]; unfold slk; have := h.sl; split <;> omega
 ·obtain ⟨r, h1, h2⟩ := hc
  exact (h2.map Ent.key).nodup_iff.2 (ha.keys r h1)
 ·rw [hL.dpt, hL.pfx]
  rcases hc.mem he with h1 | h1
  ·exact ha.hash e h1
  ·exact h.hash e h1
 ·have := hc.len
  have := ha.few
  omega
theorem wr_T {H : Nat → Nat} {N : Nd} {X : TabM} {del add : List Ent} (h : NOk H N) (ha : AddOk H N del add) (hc : TChg del add N.T X) (hm : ∀ Ts next, N.ph = .mov Ts next → del ≠ [] ∧ add.length ≤ del.length) : Wr H del add N (N.setT X (slk del add N.sl)) := by
 have hL : Like N (N.setT X (slk del add N.sl)) := ⟨rfl, rfl, rfl, hc.len, rfl⟩
 have hlen := hc.chg.len
 have hld := hc.load_
 have hs := h.sl
 have h1 := ha.one
 refine Wr.of h ha hL ?_ ?_ hc.tg rfl (fun _ => hc.load_) ?_
 ·unfold Nd.left
  rw [hL.len, hL.each, hL.many]
  rfl
 ·have := hc.chg.wrap (entsTs (frs N.ph)) []
  show Chg del add (entsTs (frs N.ph) ++ entsT N.T.gs) (entsTs (frs N.ph) ++ entsT X.gs)
  simpa using this
 ·have hph := h.ph
  unfold PhOk at hph ⊢
  rw [hL.len, hL.each, hL.many]
  show match N.ph with
   | .idle => N.kind = 0 ∧ load X ≤ mRoom N.len N.dpt + slk del add N.sl / 8
   | .bld k => KindOk (N.setT X (slk del add N.sl)) ∧ k < N.each * N.many ∧ load X ≤ mRoom N.len N.dpt + (k + slk del add N.sl) / 8 ∧ (entsT X.gs).length + 1 ≤ rRoom N.kind N.len N.dpt + (k + slk del add N.sl) / 8
   | .mov Ts next => KindOk (N.setT X (slk del add N.sl)) ∧ next ≤ N.len ∧ FrOk N.many N.each N.dpt Ts ∧ (∀ i s e, slotAt X.gs i s = .full e → next ≤ i) ∧ loads Ts + (entsT X.gs).length + 1 ≤ rRoom N.kind N.len N.dpt + (N.each * N.many + next + slk del add N.sl) / 8
  have hsk : (add.length ≤ del.length ∧ slk del add N.sl = N.sl) ∨ (add.length = 1 ∧ del.length = 0 ∧ N.sl = 0 ∧ slk del add N.sl = 8) := by
   rcases h1 with h2 | ⟨h2, h3, h4⟩
   ·exact .inl ⟨h2, by unfold slk; rw [if_neg (by omega)]⟩
   ·exact .inr ⟨h2, by rw [h3]; rfl, h4, by unfold slk; rw [if_pos (by rw [h3, h2]; simp)]⟩
  cases hp : N.ph with
  | idle =>
   rw [hp] at hph
   exact ⟨hph.1, by have := hph.2; omega⟩
  | bld k =>
   rw [hp] at hph
   obtain ⟨g1, g2, g3, g4⟩ := hph
   exact ⟨hL.kindOk g1, g2, by omega, by omega⟩
  | mov Ts next =>
   rw [hp] at hph
   obtain ⟨g1, g2, g3, g4, g5⟩ := hph
   obtain ⟨m1, m2⟩ := hm Ts next hp
   refine ⟨hL.kindOk g1, g2, g3, fun i s e he => ?_, by omega⟩
   rcases hc.at_ i s e he with h2 | ⟨e0, h2⟩
   ·exact absurd h2 m1
   ·exact g4 i s e0 h2
theorem wr_F {H : Nat → Nat} {N : Nd} {X Y : TabM} {Ts : List TabM} {next j : Nat} {del add : List Ent} (h : NOk H N) (hp : N.ph = .mov Ts next) (hj : Ts[j]? = some Y) (ha : AddOk H N del add) (hc : TChg del add Y X) (hsd : ∀ e ∈ add, sideOf N.many N.dpt e.hash = j) : Wr H del add N (N.setF Ts next j X (slk del add N.sl)) := by
 have hL : Like N (N.setF Ts next j X (slk del add N.sl)) := ⟨rfl, rfl, rfl, rfl, by rw [hp]; rfl⟩
 have hlen := hc.chg.len
 have hld := hc.load_
 have hs := h.sl
 have h1 := ha.one
 have hls := loads_set hj X
 refine Wr.of h ha hL ?_ ?_ h.tg rfl (fun hh => by rw [hp] at hh; cases hh) ?_
 ·unfold Nd.left
  rw [hp]
  rfl
 ·obtain ⟨A, B, hA, hB⟩ := entsTs_split hj
  have := hc.chg.wrap A (B ++ entsT N.T.gs)
  unfold Nd.ents
  rw [hp]
  show Chg del add (entsTs Ts ++ entsT N.T.gs) (entsTs (Ts.set j X) ++ entsT N.T.gs)
  rw [hA, hB]
  simpa using this
 ·have hph := h.ph
  unfold PhOk at hph
  rw [hp] at hph
  obtain ⟨g1, g2, g3, g4, g5⟩ := hph
  show KindOk _ ∧ next ≤ N.len ∧ FrOk N.many N.each N.dpt (Ts.set j X) ∧ (∀ i s e, slotAt N.T.gs i s = .full e → next ≤ i) ∧ loads (Ts.set j X) + (entsT N.T.gs).length + 1 ≤ rRoom N.kind N.len N.dpt + (N.each * N.many + next + slk del add N.sl) / 8
  refine ⟨hL.kindOk g1, g2, g3.set_ hj hc hsd, g4, ?_⟩
  have hsk : (add.length ≤ del.length ∧ slk del add N.sl = N.sl) ∨ (add.length = 1 ∧ del.length = 0 ∧ N.sl = 0 ∧ slk del add N.sl = 8) := by
   rcases h1 with h2 | ⟨h2, h3, h4⟩
   ·exact .inl ⟨h2, by unfold slk; rw [if_neg (by omega)]⟩
   ·exact .inr ⟨h2, by rw [h3]; rfl, h4, by unfold slk; rw [if_pos (by rw [h3, h2]; simp)]⟩
  omega
theorem add_new {H : Nat → Nat} {N : Nd} {e : Ent} (h : NOk H N) (he : EntOk H e) (ht : topOf e.hash N.dpt = N.pfx) (hk : ∀ x ∈ N.ents, x.key ≠ e.key) (hf : N.ents.length + 1 ≤ 192) (hs : N.sl = 0) : AddOk H N [] [e] :=
 ⟨fun x hx => by simp at hx; subst hx; exact ⟨he, ht⟩, fun r hr => by
  have h1 := (hr.map Ent.key).nodup_iff.1 h.keys
  rw [List.nil_append] at h1 hr
  rw [List.singleton_append, List.map_cons, List.nodup_cons]
  exact ⟨fun hh => by obtain ⟨x, h2, h3⟩ := List.mem_map.1 hh; exact hk x (hr.mem_iff.2 h2) h3, h1⟩, by simpa using hf, .inr ⟨rfl, rfl, hs⟩⟩
theorem add_less {H : Nat → Nat} {N : Nd} {e : Ent} (h : NOk H N) : AddOk H N [e] [] :=
 ⟨fun x hx => by simp at hx, fun r hr => by
  have h1 := (hr.map Ent.key).nodup_iff.1 h.keys
  rw [List.singleton_append, List.map_cons, List.nodup_cons] at h1
  exact h1.2, by have := h.few; simp; omega, .inl (by simp)⟩
theorem add_other {H : Nat → Nat} {N : Nd} {e : Ent} {v : Nat} (h : NOk H N) (he : e ∈ N.ents) (hv : v < 18446744073709551616) : AddOk H N [e] [{ e with val := v }] :=
 ⟨fun x hx => by simp at hx; subst hx; obtain ⟨h1, h2⟩ := h.hash e he; exact ⟨⟨h1.hash, h1.h64, h1.k64, hv⟩, h2⟩, fun r hr => by
  have h1 := (hr.map Ent.key).nodup_iff.1 h.keys
  simpa using h1, by have := h.few; simp; omega, .inl (by simp)⟩
def Nd.start (N : Nd) (kind : Nat) : Nd := { N with kind := kind, sl := 8, ph := .bld 0 }
theorem start_ok {H : Nat → Nat} {N : Nd} {kind gl : Nat} (h : NOk H N) (hi : N.ph = .idle) (hgl : gl ≤ 5) (hk : whichK N.T.live N.T.tombs N.len N.dpt gl = kind) (h0 : kind ≠ 0) : NOk H (N.start kind) ∧ (N.start kind).ents = N.ents := by
 have hE : (N.start kind).ents = N.ents := by unfold Nd.ents Nd.start; rw [hi]; rfl
 have hph := h.ph
 unfold PhOk at hph
 rw [hi] at hph
 have hs := h.sl
 have hl := h.tg.ok.live
 have hK : KindOk (N.start kind) ∧ (kind = 1 → 2 * N.len < (entsT N.T.gs).length → N.len = 64) := by
  unfold whichK at hk
  split at hk
  ·exact absurd hk.symm h0
  ·split at hk
   ·next h1 => subst hk; exact ⟨.inl rfl, fun _ h2 => by omega⟩
   ·split at hk
    ·next h1 => subst hk; exact ⟨.inr (.inr ⟨rfl, h1.1, by show N.dpt < 5; omega⟩), fun hh => by omega⟩
    ·split at hk
     ·next h1 => subst hk; exact ⟨.inr (.inl ⟨rfl, h1⟩), fun hh => by omega⟩
     ·next h1 => subst hk; exact ⟨.inl rfl, fun _ _ => by have := h.pw.le; omega⟩
 have hle : (entsT N.T.gs).length ≤ load N.T := by unfold load; omega
 have hfew := h.few
 have hE2 : N.ents.length = (entsT N.T.gs).length := by unfold Nd.ents; rw [hi]; simp [frs, entsTs]
 have hkE := kind_each (N := N.start kind) h.pw hK.1
 refine ⟨⟨h.tg, h.deep, h.big, h.pfx, Nat.le_refl 8, by rw [hE]; exact h.keys, by rw [hE]; exact h.hash, by rw [hE]; exact h.few, ?_⟩, hE⟩
 show KindOk (N.start kind) ∧ 0 < (N.start kind).each * (N.start kind).many ∧ load N.T ≤ mRoom N.len N.dpt + (0 + 8) / 8 ∧ (entsT N.T.gs).length + 1 ≤ rRoom kind N.len N.dpt + (0 + 8) / 8
 have hpos := h.pw.pos
 have hlen : (N.start kind).len = N.len := rfl
 refine ⟨hK.1, by omega, by omega, ?_⟩
 unfold rRoom
 by_cases h1 : kind = 1
 ·rw [if_pos h1]
  have := hK.2 h1
  have h64 := h.pw.le
  by_cases h2 : N.len < 64
  ·rw [if_pos h2]; omega
  ·rw [if_neg h2]; omega
 ·rw [if_neg h1]; omega
theorem none_ok {H : Nat → Nat} {N : Nd} {gl : Nat} (h : NOk H N) (hi : N.ph = .idle) (hk : whichK N.T.live N.T.tombs N.len N.dpt gl = 0) : NOk H { N with sl := 0 } := by
 have hph := h.ph
 unfold PhOk at hph
 rw [hi] at hph
 have hl := h.tg.loadI
 have hn : needsB N.T.live N.T.tombs N.len = false := by
  unfold whichK at hk
  split at hk
  ·assumption
  ·split at hk
   ·cases hk
   ·split at hk
    ·cases hk
    ·split at hk <;> cases hk
 unfold needsB at hn
 simp only [Bool.or_eq_false_iff, decide_eq_false_iff_not] at hn
 refine ⟨h.tg, h.deep, h.big, h.pfx, Nat.zero_le _, h.keys, h.hash, h.few, ?_⟩
 unfold PhOk
 show match N.ph with
  | .idle => N.kind = 0 ∧ load N.T ≤ mRoom N.len N.dpt + 0 / 8
  | .bld k => _
  | .mov Ts next => _
 rw [hi]
 refine ⟨hph.1, ?_⟩
 unfold mRoom
 have := h.pw.pos
 omega
theorem ended {H : Nat → Nat} {N : Nd} (h : NOk H N) (hb : N.ph.busy = true) (hl : N.left = 0) : ∃ Ts, N.ph = .mov Ts N.len ∧ entsT N.T.gs = [] := by
 have hph := h.ph
 unfold PhOk at hph
 have hpos := h.pw.pos
 unfold Nd.left at hl
 cases hp : N.ph with
 | idle => rw [hp] at hb; cases hb
 | bld k => rw [hp] at hl; simp only at hl; omega
 | mov Ts next =>
  rw [hp] at hl hph
  simp only at hl
  obtain ⟨h1, h2, h3, h4, h5⟩ := hph
  obtain rfl : next = N.len := by omega
  refine ⟨Ts, rfl, List.eq_nil_iff_forall_not_mem.2 fun e he => ?_⟩
  obtain ⟨i, s, hs⟩ := mem_entsT.1 he
  have := h4 i s e hs
  have := (slotAt_lt (gs := N.T.gs) (i := i) (s := s) (by rw [hs]; exact fun h => by cases h)).1
  unfold Nd.len at *
  omega
theorem top_next {h d : Nat} (hd : d ≤ 5) : topOf h (d + 1) = 2 * topOf h d + bitOf h d := by
 unfold topOf bitOf
 have h1 : 64 - (d + 1) = 63 - d := by omega
 have h2 : (2 : Nat) ^ (64 - d) = 2 ^ (63 - d) * 2 := by rw [← Nat.pow_succ]; congr 1; omega
 rw [h1, h2, ← Nat.div_div_eq_div_mul]
 omega
theorem end_one {H : Nat → Nat} {N : Nd} {X : TabM} (h : NOk H N) (hp : N.ph = .mov [X] N.len) (hT : entsT N.T.gs = []) : NOk H ⟨N.pfx, N.dpt, 0, 0, X, .idle⟩ ∧ (Nd.mk N.pfx N.dpt 0 0 X .idle).ents = N.ents ∧ X.gs.length = N.each ∧ N.many = 1 := by
 have hph := h.ph
 unfold PhOk at hph
 rw [hp] at hph
 obtain ⟨h1, h2, h3, h4, h5⟩ := hph
 obtain ⟨k1, k2, k3, k4, k5⟩ := kind_each h.pw h1
 have hm : N.many = 1 := by have := h3.len; simpa using this.symm
 obtain ⟨x1, x2⟩ := h3.tg 0 X rfl
 have hE : (Nd.mk N.pfx N.dpt 0 0 X .idle).ents = N.ents := by unfold Nd.ents; rw [hp, hT]; simp [frs, entsTs]
 have hr := room_end (L := load X) h.pw h.deep h.big h1 h.sl (by rw [hT] at h5; simpa [loads] using h5)
 rw [hm, if_neg (by omega)] at hr
 refine ⟨⟨x1, h.deep, ?_, h.pfx, Nat.zero_le _, by rw [hE]; exact h.keys, by rw [hE]; exact h.hash, by rw [hE]; exact h.few, rfl, ?_⟩, hE, x2, hm⟩
 ·rcases h.big with hb | hb
  ·exact .inl hb
  ·right; show 8 ≤ X.gs.length; rw [x2, ← Nat.mul_one N.each, ← hm]; omega
 ·show load X ≤ mRoom X.gs.length N.dpt + 0 / 8
  rw [x2]; omega
theorem end_two {H : Nat → Nat} {N : Nd} {X Y : TabM} (h : NOk H N) (hp : N.ph = .mov [X, Y] N.len) (hT : entsT N.T.gs = []) : NOk H ⟨2 * N.pfx, N.dpt + 1, 0, 0, X, .idle⟩ ∧ NOk H ⟨2 * N.pfx + 1, N.dpt + 1, 0, 0, Y, .idle⟩ ∧
  (Nd.mk (2 * N.pfx) (N.dpt + 1) 0 0 X .idle).ents ++ (Nd.mk (2 * N.pfx + 1) (N.dpt + 1) 0 0 Y .idle).ents = N.ents ∧ X.gs.length = N.each ∧ Y.gs.length = N.each ∧ N.many = 2 ∧ N.dpt < 5 := by
 have hph := h.ph
 unfold PhOk at hph
 rw [hp] at hph
 obtain ⟨h1, h2, h3, h4, h5⟩ := hph
 obtain ⟨k1, k2, k3, k4, k5⟩ := kind_each h.pw h1
 have hm : N.many = 2 := by have := h3.len; simpa using this.symm
 have hk3 : N.kind = 3 ∧ N.each = N.len := by omega
 have hd5 : 8 ≤ N.len ∧ N.dpt < 5 := by rcases h1 with h6 | h6 | h6 <;> omega
 obtain ⟨x1, x2⟩ := h3.tg 0 X rfl
 obtain ⟨y1, y2⟩ := h3.tg 1 Y rfl
 have hE : (Nd.mk (2 * N.pfx) (N.dpt + 1) 0 0 X .idle).ents ++ (Nd.mk (2 * N.pfx + 1) (N.dpt + 1) 0 0 Y .idle).ents = N.ents := by unfold Nd.ents; rw [hp, hT]; simp [frs, entsTs]
 have hl : loads [X, Y] = load X + load Y := by simp [loads]
 rw [hT, hl, List.length_nil] at h5
 have hr1 := room_end (L := load X) h.pw h.deep h.big h1 h.sl (by omega)
 have hr2 := room_end (L := load Y) h.pw h.deep h.big h1 h.sl (by omega)
 rw [if_pos hm] at hr1 hr2
 have hkeys := h.keys
 rw [← hE, List.map_append] at hkeys
 have hn := List.nodup_append.1 hkeys
 have hfew := h.few
 rw [← hE, List.length_append] at hfew
 have hpf := h.pfx
 have hpw : 2 ^ (N.dpt + 1) = 2 ^ N.dpt * 2 := Nat.pow_succ ..
 have hside : ∀ (j : Nat) (Z : TabM) (e : Ent), [X, Y][j]? = some Z → e ∈ entsT Z.gs → EntOk H e ∧ topOf e.hash (N.dpt + 1) = 2 * N.pfx + j := fun j Z e hZ he => by
  have h6 := h3.side j Z e hZ he
  obtain ⟨h7, h8⟩ := h.hash e (by unfold Nd.ents; rw [hp]; exact List.mem_append_left _ (mem_entsTs.2 ⟨j, Z, hZ, he⟩))
  refine ⟨h7, ?_⟩
  rw [top_next (by omega), h8]
  unfold sideOf at h6
  rw [if_neg (by omega)] at h6
  omega
 refine ⟨⟨x1, by show N.dpt + 1 ≤ 5; omega, .inr (by show 8 ≤ X.gs.length; omega), by show 2 * N.pfx < 2 ^ (N.dpt + 1); omega, Nat.zero_le _, hn.1, fun e he => hside 0 X e rfl (by simpa [Nd.ents, frs, entsTs] using he), by omega, rfl, by show load X ≤ mRoom X.gs.length (N.dpt + 1) + 0 / 8; rw [x2]; omega⟩,
  ⟨y1, by show N.dpt + 1 ≤ 5; omega, .inr (by show 8 ≤ Y.gs.length; omega), by show 2 * N.pfx + 1 < 2 ^ (N.dpt + 1); omega, Nat.zero_le _, hn.2.1, fun e he => hside 1 Y e rfl (by simpa [Nd.ents, frs, entsTs] using he), by omega, rfl, by show load Y ≤ mRoom Y.gs.length (N.dpt + 1) + 0 / 8; rw [y2]; omega⟩, hE, x2, y2, hm, hd5.2⟩
theorem mov_where {H : Nat → Nat} {N : Nd} {Ts : List TabM} {next key : Nat} (h : NOk H N) (hp : N.ph = .mov Ts next) : ∃ Tx, Ts[sideOf N.many N.dpt (H key)]? = some Tx ∧
  ((∃ e ∈ N.ents, e.key = key ∧ e.hash = H key ∧ ((e ∈ entsT Tx.gs ∧ ∃ i s, (seek Tx.gs key (H key)).1 = some (i, s) ∧ slotAt Tx.gs i s = .full e) ∨ ((seek Tx.gs key (H key)).1 = none ∧ ∃ i s, (seek N.T.gs key (H key)).1 = some (i, s) ∧ slotAt N.T.gs i s = .full e))) ∨
   ((∀ e ∈ N.ents, e.key ≠ key) ∧ (seek Tx.gs key (H key)).1 = none ∧ (seek N.T.gs key (H key)).1 = none)) := by
 have hph := h.ph
 unfold PhOk at hph
 rw [hp] at hph
 obtain ⟨h1, h2, h3, h4, h5⟩ := hph
 obtain ⟨k1, k2, k3, k4, k5⟩ := kind_each h.pw h1
 obtain ⟨Tx, hT⟩ : ∃ Tx, Ts[sideOf N.many N.dpt (H key)]? = some Tx := ⟨_, List.getElem?_eq_getElem (by rw [h3.len]; exact side_lt k2)⟩
 have hE : N.ents = entsTs Ts ++ entsT N.T.gs := by unfold Nd.ents; rw [hp]; rfl
 refine ⟨Tx, hT, ?_⟩
 have hnk := h.keys
 rw [hE, List.map_append] at hnk
 by_cases hex : ∃ e ∈ N.ents, e.key = key
 ·obtain ⟨e, he, hk⟩ := hex
  have hh := (h.hash e he).1.hash
  rw [hk] at hh
  refine .inl ⟨e, he, hk, hh, ?_⟩
  rw [hE] at he
  rcases List.mem_append.1 he with he | he
  ·obtain ⟨j, T', hj, heT⟩ := mem_entsTs.1 he
   have hs := h3.side j T' e hj heT
   rw [hh] at hs
   rw [hs] at hT
   rw [hT] at hj
   cases hj
   obtain ⟨i, s, a, b⟩ := tg_seek (h3.tg j Tx hT).1 heT
   rw [hk, hh] at a
   exact .inl ⟨heT, i, s, a, b⟩
  ·obtain ⟨i, s, a, b⟩ := tg_seek h.tg he
   rw [hk, hh] at a
   refine .inr ⟨seek_none fun x hx hxk => ?_, i, s, a, b⟩
   exact (List.nodup_append.1 hnk).2.2 x.key (List.mem_map_of_mem (mem_entsTs.2 ⟨_, _, hT, hx⟩)) e.key (List.mem_map_of_mem he) (hxk.trans hk.symm)
 ·have hne : ∀ e ∈ N.ents, e.key ≠ key := fun e he hk => hex ⟨e, he, hk⟩
  exact .inr ⟨hne, seek_none fun x hx => hne x (by rw [hE]; exact List.mem_append_left _ (mem_entsTs.2 ⟨_, _, hT, hx⟩)), seek_none fun x hx => hne x (by rw [hE]; exact List.mem_append_right _ hx)⟩
theorem old_where {H : Nat → Nat} {N : Nd} {key : Nat} (h : NOk H N) (hp : frs N.ph = []) : (∃ e ∈ N.ents, e.key = key ∧ e.hash = H key ∧ ∃ i s, (seek N.T.gs key (H key)).1 = some (i, s) ∧ slotAt N.T.gs i s = .full e) ∨ ((∀ e ∈ N.ents, e.key ≠ key) ∧ (seek N.T.gs key (H key)).1 = none) := by
 have hE : N.ents = entsT N.T.gs := by unfold Nd.ents; rw [hp]; rfl
 by_cases hex : ∃ e ∈ N.ents, e.key = key
 ·obtain ⟨e, he, hk⟩ := hex
  have hh := (h.hash e he).1.hash
  rw [hk] at hh
  obtain ⟨i, s, a, b⟩ := tg_seek h.tg (hE ▸ he)
  rw [hk, hh] at a
  exact .inl ⟨e, he, hk, hh, i, s, a, b⟩
 ·have hne : ∀ e ∈ N.ents, e.key ≠ key := fun e he hk => hex ⟨e, he, hk⟩
  exact .inr ⟨hne, seek_none fun x hx => hne x (by rw [hE]; exact hx)⟩
def look (l : List Ent) (key : Nat) : Option Ent := l.find? fun e => e.key == key
theorem look_some {l : List Ent} {e : Ent} (hn : (l.map Ent.key).Nodup) (he : e ∈ l) : look l e.key = some e := by
 unfold look
 cases hf : l.find? (fun x => x.key == e.key) with
 | none => exact absurd (List.find?_eq_none.1 hf e he) (by simp)
 | some x =>
  have h1 := List.mem_of_find?_eq_some hf
  have h2 := List.find?_some hf
  simp at h2
  congr 1
  obtain ⟨i, hi, rfl⟩ := List.getElem_of_mem h1
  obtain ⟨j, hj, rfl⟩ := List.getElem_of_mem he
  have h3 : (l.map Ent.key)[i]'(by simpa using hi) = (l.map Ent.key)[j]'(by simpa using hj) := by simpa using h2
  have h4 := (List.getElem_inj hn).1 h3
  subst h4; rfl
theorem look_none {l : List Ent} {key : Nat} (h : ∀ e ∈ l, e.key ≠ key) : look l key = none := by
 unfold look
 rw [List.find?_eq_none]
 intro e he
 simpa using h e he
theorem look_mem {l : List Ent} {key : Nat} {e : Ent} (h : look l key = some e) : e ∈ l ∧ e.key = key := by
 unfold look at h
 exact ⟨List.mem_of_find?_eq_some h, by simpa using List.find?_some h⟩
theorem look_perm {l l' : List Ent} (hp : l.Perm l') (hn : (l.map Ent.key).Nodup) (key : Nat) : look l key = look l' key := by
 cases h : look l' key with
 | none =>
  refine look_none fun e he hk => ?_
  have := look_some ((hp.map Ent.key).nodup_iff.1 hn) (hp.mem_iff.1 he)
  rw [hk, h] at this
  cases this
 | some e =>
  obtain ⟨h1, h2⟩ := look_mem h
  rw [← h2]
  exact look_some hn (hp.mem_iff.2 h1)
end
section
open Go.RowKit AmC
def Nd.dep (N : Nd) : Nat := if N.many = 1 then 0 else N.dpt
theorem side_dep (N : Nd) (h : Nat) : sideOf N.many N.dep h = sideOf N.many N.dpt h := by
 unfold Nd.dep sideOf
 split <;> rfl
def ndCells (N : Nd) (tb : Nat) (dv : Value) : Array Value := #[.int .i64 (N.pfx : Int), .int .i64 (N.dpt : Int), .pointer (some ⟨tb, 0, none⟩), .int .i64 (N.kind : Int), dv]
def NdAt (w : World) (nb : Nat) (F : List Nat) (N : Nd) : Prop := match N.ph with
 | .idle => ∃ tb gb, Blk w nb 114 (ndCells N tb (.pointer none)) ∧ TabAt w tb gb N.T ∧ F = [nb, tb, gb] ∧ nb ≠ tb ∧ nb ≠ gb
 | .bld k => ∃ db rb cap ob og bl, Blk w nb 114 (ndCells N ob (.pointer (some ⟨db, 0, none⟩))) ∧ DuB w db rb cap ob og bl N.T N.each N.dep k ∧ bl.length = N.many ∧ F = nb :: footB db rb ob og bl ∧ nb ∉ footB db rb ob og bl
 | .mov Ts next => ∃ db rb cap ob og fb fcap eb vb vcap bbs bs, Blk w nb 114 (ndCells N ob (.pointer (some ⟨db, 0, none⟩))) ∧ DuM w db rb cap ob og fb fcap eb vb vcap bbs bs N.T Ts N.each N.dep next ∧ bs.length = N.many ∧ F = nb :: footM db rb fb eb vb ob og bbs bs ∧ nb ∉ footM db rb fb eb vb ob og bbs bs
section
variable {w w' : World} {db rb cap ob og fb fcap eb vb vcap : Nat} {bl : List (Nat × Nat × Nat)} {bbs : List Nat} {bs : List (Nat × Nat)} {T X : TabM} {Ts : List TabM} {n depth k next : Nat}
theorem DuB.lts (h : DuB w db rb cap ob og bl T n depth k) : ∀ q ∈ footB db rb ob og bl, q < w.heap.size := by
 intro q hq
 unfold footB at hq
 simp only [List.mem_cons, List.mem_flatMap] at hq
 rcases hq with rfl | rfl | rfl | rfl | ⟨b, hb, hq⟩
 ·exact h.blk.lt
 ·exact h.row.lt
 ·exact h.tab.ltT
 ·exact h.tab.ltG
 ·obtain ⟨i, hi⟩ := List.getElem?_of_mem hb
  have := h.blds i b hi
  simp at hq
  rcases hq with rfl | rfl | rfl
  ·exact this.lt
  ·exact this.ltT
  ·exact this.ltG
theorem DuM.lts (h : DuM w db rb cap ob og fb fcap eb vb vcap bbs bs T Ts n depth next) : ∀ q ∈ footM db rb fb eb vb ob og bbs bs, q < w.heap.size := by
 intro q hq
 unfold footM at hq
 simp only [List.mem_cons, List.mem_append, mem_flatB] at hq
 rcases hq with rfl | rfl | rfl | rfl | rfl | rfl | rfl | hq | ⟨b, hb, hq⟩
 ·exact h.blk.lt
 ·exact h.row.lt
 ·exact h.fresh.lt
 ·exact h.ev.lt
 ·exact h.ev.ltV
 ·exact h.tab.ltT
 ·exact h.tab.ltG
 ·exact (h.blds q hq).lt
 ·obtain ⟨i, hi⟩ := List.getElem?_of_mem hb
  obtain ⟨T', hT'⟩ : ∃ T', Ts[i]? = some T' := ⟨_, List.getElem?_eq_getElem (by rw [← h.tabs.len]; exact (List.getElem?_eq_some_iff.1 hi).1)⟩
  have := h.tabs.at_ i b T' hi hT'
  rcases hq with rfl | rfl
  ·exact this.ltT
  ·exact this.ltG
theorem DuB.setT {S : List Nat} (h : DuB w db rb cap ob og bl T n depth k) (hT : TabAt w' ob og X) (hm : Mod S w w') (hS : ∀ q ∈ footB db rb ob og bl, q ∈ S → q = ob ∨ q = og) : DuB w' db rb cap ob og bl X n depth k := by
 have hnd := h.nd
 unfold footB at hnd
 simp only [List.nodup_cons, List.mem_cons, List.mem_flatMap, not_or] at hnd
 obtain ⟨⟨h1, h2, h3, _⟩, ⟨h4, h5, h6⟩, ⟨h7, h8⟩, h9, _⟩ := hnd
 refine ⟨h.blk.mod hm (fun hh => ?_), h.row.mod hm (fun hh => ?_), fun i b hb => ?_, hT, h.pow, h.many, h.lt, h.deep, h.nd⟩
 ·rcases hS _ (by simp [footB]) hh with e | e
  ·exact h2 e
  ·exact h3 e
 ·rcases hS _ (by simp [footB]) hh with e | e
  ·exact h4 e
  ·exact h5 e
 ·have hbm := List.mem_of_getElem? hb
  obtain ⟨m1, m2, m3⟩ := mem_footB (db := db) (rb := rb) (ob := ob) (og := og) hbm
  have hne : ∀ q ∈ [b.1, b.2.1, b.2.2], q ≠ ob ∧ q ≠ og := fun q hq => ⟨fun e => h8 ⟨b, hbm, by have h := e ▸ hq; simpa using h⟩, fun e => h9 ⟨b, hbm, by have h := e ▸ hq; simpa using h⟩⟩
  refine (h.blds i b hb).mod hm (fun hh => ?_) (fun hh => ?_) (fun hh => ?_)
  ·rcases hS _ m1 hh with e | e
   ·exact (hne _ (by simp)).1 e
   ·exact (hne _ (by simp)).2 e
  ·rcases hS _ m2 hh with e | e
   ·exact (hne _ (by simp)).1 e
   ·exact (hne _ (by simp)).2 e
  ·rcases hS _ m3 hh with e | e
   ·exact (hne _ (by simp)).1 e
   ·exact (hne _ (by simp)).2 e
theorem mem_footM_b {q : Nat} (h : q ∈ bbs) : q ∈ footM db rb fb eb vb ob og bbs bs := by unfold footM; simp [h]
theorem DuM.setT {S : List Nat} (h : DuM w db rb cap ob og fb fcap eb vb vcap bbs bs T Ts n depth next) (hT : TabAt w' ob og X) (hm : Mod S w w') (hS : ∀ q ∈ footM db rb fb eb vb ob og bbs bs, q ∈ S → q = ob ∨ q = og) : DuM w' db rb cap ob og fb fcap eb vb vcap bbs bs X Ts n depth next := by
 have hnd := h.nd
 unfold footM at hnd
 simp only [List.nodup_cons, List.mem_cons, List.mem_append, not_or] at hnd
 obtain ⟨⟨a1, a2, a3, a4, a5, a6, a7, a8⟩, ⟨b2, b3, b4, b5, b6, b7, b8⟩, ⟨c3, c4, c5, c6, c7, c8⟩, ⟨d4, d5, d6, d7, d8⟩, ⟨e5, e6, e7, e8⟩, ⟨f6, f7, f8⟩, ⟨g7, g8⟩, _⟩ := hnd
 have key : ∀ q, q ∈ footM db rb fb eb vb ob og bbs bs → q ≠ ob → q ≠ og → q ∉ S := fun q hq n1 n2 hh => by
  rcases hS q hq hh with e | e
  ·exact n1 e
  ·exact n2 e
 refine ⟨h.blk.mod hm (key _ (by simp [footM]) a5 a6), h.row.mod hm (key _ (by simp [footM]) b5 b6), fun b hb => (h.blds b hb).mod hm (key _ (mem_footM_b hb) (fun e => f7 (e ▸ hb)) (fun e => g7 (e ▸ hb))), h.fresh.mod hm (key _ (by simp [footM]) c5 c6),
  h.ev.mod hm (key _ (by simp [footM]) d5 d6) (key _ (by simp [footM]) e5 e6), hT, h.tabs.mod hm (fun b hb => ?_), h.pow, h.many, h.eq, h.deep, h.nd⟩
 obtain ⟨m1, m2⟩ := mem_footM_t (db := db) (rb := rb) (fb := fb) (eb := eb) (vb := vb) (ob := ob) (og := og) (bbs := bbs) hb
 exact ⟨key _ m1 (fun e => f8 (e ▸ mem_flatB.2 ⟨b, hb, .inl rfl⟩)) (fun e => g8 (e ▸ mem_flatB.2 ⟨b, hb, .inl rfl⟩)), key _ m2 (fun e => f8 (e ▸ mem_flatB.2 ⟨b, hb, .inr rfl⟩)) (fun e => g8 (e ▸ mem_flatB.2 ⟨b, hb, .inr rfl⟩))⟩
theorem DuM.setF {S : List Nat} (h : DuM w db rb cap ob og fb fcap eb vb vcap bbs bs T Ts n depth next) {j : Nat} {b : Nat × Nat} (hb : bs[j]? = some b) (hT : TabAt w' b.1 b.2 X) (hm : Mod S w w') (hS : ∀ q ∈ footM db rb fb eb vb ob og bbs bs, q ∈ S → q = b.1 ∨ q = b.2) : DuM w' db rb cap ob og fb fcap eb vb vcap bbs bs T (Ts.set j X) n depth next := by
 have hnd := h.nd
 unfold footM at hnd
 simp only [List.nodup_cons, List.mem_cons, List.mem_append, not_or, List.nodup_append] at hnd
 obtain ⟨⟨a1, a2, a3, a4, a5, a6, a7, a8⟩, ⟨b2, b3, b4, b5, b6, b7, b8⟩, ⟨c3, c4, c5, c6, c7, c8⟩, ⟨d4, d5, d6, d7, d8⟩, ⟨e5, e6, e7, e8⟩, ⟨f6, f7, f8⟩, ⟨g7, g8⟩, _, _, i8⟩ := hnd
 have hbm := List.mem_of_getElem? hb
 have k1 : b.1 ∈ flatB bs := mem_flatB.2 ⟨b, hbm, .inl rfl⟩
 have k2 : b.2 ∈ flatB bs := mem_flatB.2 ⟨b, hbm, .inr rfl⟩
 have key : ∀ q, q ∈ footM db rb fb eb vb ob og bbs bs → (∀ z ∈ flatB bs, q ≠ z) → q ∉ S := fun q hq n1 hh => by
  rcases hS q hq hh with e | e
  ·exact n1 _ k1 e
  ·exact n1 _ k2 e
 have fl : ∀ q : Nat, q ∉ flatB bs → ∀ z ∈ flatB bs, q ≠ z := fun q hq z hz e => hq (e ▸ hz)
 refine ⟨h.blk.mod hm (key _ (by simp [footM]) (fl _ a8)), h.row.mod hm (key _ (by simp [footM]) (fl _ b8)), fun c hc => (h.blds c hc).mod hm (key _ (mem_footM_b hc) (fun z hz => i8 c hc z hz)), h.fresh.mod hm (key _ (by simp [footM]) (fl _ c8)),
  h.ev.mod hm (key _ (by simp [footM]) (fl _ d8)) (key _ (by simp [footM]) (fl _ e8)), h.tab.mod hm (key _ (by simp [footM]) (fl _ f8)) (key _ (by simp [footM]) (fl _ g8)),
  ?_, h.pow, h.many, h.eq, h.deep, h.nd⟩
 refine ⟨by rw [List.length_set]; exact h.tabs.len, fun i c Y hc hY => ?_, h.tabs.ne⟩
 rw [List.getElem?_set] at hY
 by_cases hij : j = i
 ·subst hij
  rw [hb] at hc; cases hc
  rw [if_pos rfl, if_pos (by rw [← h.tabs.len]; exact (List.getElem?_eq_some_iff.1 hb).1)] at hY
  cases hY
  exact hT
 ·rw [if_neg hij] at hY
  obtain ⟨m1, m2⟩ := mem_footM_t (db := db) (rb := rb) (fb := fb) (eb := eb) (vb := vb) (ob := ob) (og := og) (bbs := bbs) (List.mem_of_getElem? hc)
  have hne := h.tabs.ne j i b c hb hc hij
  refine (h.tabs.at_ i c Y hc hY).mod hm (fun hh => ?_) (fun hh => ?_)
  ·rcases hS _ m1 hh with e | e
   ·exact hne.1 e.symm
   ·exact hne.2.2.1 e.symm
  ·rcases hS _ m2 hh with e | e
   ·exact hne.2.1 e.symm
   ·exact hne.2.2.2 e.symm
end
section
variable {w w' : World} {nb : Nat} {F : List Nat} {N : Nd}
theorem NdAt.lts (h : NdAt w nb F N) : ∀ q ∈ F, q < w.heap.size := by
 unfold NdAt at h
 split at h
 ·obtain ⟨tb, gb, h1, h2, rfl, _⟩ := h
  intro q hq
  simp at hq
  rcases hq with rfl | rfl | rfl
  ·exact h1.lt
  ·exact h2.ltT
  ·exact h2.ltG
 ·obtain ⟨db, rb, cap, ob, og, bl, h1, h2, _, rfl, _⟩ := h
  intro q hq
  rcases List.mem_cons.1 hq with rfl | hq
  ·exact h1.lt
  ·exact h2.lts q hq
 ·obtain ⟨db, rb, cap, ob, og, fb, fcap, eb, vb, vcap, bbs, bs, h1, h2, _, rfl, _⟩ := h
  intro q hq
  rcases List.mem_cons.1 hq with rfl | hq
  ·exact h1.lt
  ·exact h2.lts q hq
theorem NdAt.nb_in (h : NdAt w nb F N) : nb ∈ F := by
 unfold NdAt at h
 split at h
 ·obtain ⟨tb, gb, h1, h2, rfl, _⟩ := h; simp
 ·obtain ⟨db, rb, cap, ob, og, bl, h1, h2, _, rfl, _⟩ := h; simp
 ·obtain ⟨db, rb, cap, ob, og, fb, fcap, eb, vb, vcap, bbs, bs, h1, h2, _, rfl, _⟩ := h; simp
theorem NdAt.mod {S : List Nat} (h : NdAt w nb F N) (hm : Mod S w w') (hS : ∀ q ∈ F, q ∉ S) : NdAt w' nb F N := by
 unfold NdAt at h ⊢
 split at h
 ·obtain ⟨tb, gb, h1, h2, rfl, h3⟩ := h
  exact ⟨tb, gb, h1.mod hm (hS _ (by simp)), h2.mod hm (hS _ (by simp)) (hS _ (by simp)), rfl, h3⟩
 ·obtain ⟨db, rb, cap, ob, og, bl, h1, h2, h3, rfl, h4⟩ := h
  exact ⟨db, rb, cap, ob, og, bl, h1.mod hm (hS _ (by simp)), h2.mod hm (fun q hq => hS q (by simp [hq])), h3, rfl, h4⟩
 ·obtain ⟨db, rb, cap, ob, og, fb, fcap, eb, vb, vcap, bbs, bs, h1, h2, h3, rfl, h4⟩ := h
  exact ⟨db, rb, cap, ob, og, fb, fcap, eb, vb, vcap, bbs, bs, h1.mod hm (hS _ (by simp)), h2.mod hm (fun q hq => hS q (by simp [hq])), h3, rfl, h4⟩
theorem NdAt.below (h : NdAt w nb F N) (hb : Below w.heap.size w w') : NdAt w' nb F N := h.mod (Mod.of_below hb []) (by simp)
theorem nd_set {X : TabM} {s : Nat} (h : X.gs.length = N.T.gs.length) : (N.setT X s).each = N.each ∧ (N.setT X s).many = N.many ∧ (N.setT X s).dep = N.dep := by
 have : (N.setT X s).len = N.len := h
 have h1 : (N.setT X s).each = N.each := by unfold Nd.each; rw [this]; rfl
 exact ⟨h1, rfl, rfl⟩
end
def nodeCells (N : Nd) (tb : Nat) (dv : Value) : Array Value := ndCells N tb dv
structure Whr (w : World) (H : Nat → Nat) (nb : Nat) (F : List Nat) (N : Nd) (P : MP) (x : Mtr) (c : Cnt) (key tX gX cnt : Nat) (TX : TabM) : Prop where
 tab : TabAt w tX gX TX
 inT : tX ∈ F
 inG : gX ∈ F
 ne : nb ≠ tX ∧ nb ≠ gX
 tg : TG TX
 cnt_ : cnt ≤ 128
 key_ : (∃ e ∈ N.ents, e.key = key ∧ e.hash = H key ∧ ∃ i s, (seek TX.gs key (H key)).1 = some (i, s) ∧ slotAt TX.gs i s = .full e) ∨
  ((∀ e ∈ N.ents, e.key ≠ key) ∧ (∀ e ∈ entsT TX.gs, e.key ≠ key) ∧ (seek TX.gs key (H key)).1 = none ∧ (N.sl = 0 → load TX + 1 ≤ 7 * TX.gs.length))
 swap : ∀ (w' : World) (X : TabM) (del add : List Ent) (S : List Nat), TabAt w' tX gX X → TChg del add TX X → AddOk H N del add → (∀ e ∈ add, e.hash = H key) → (del = [] → (seek TX.gs key (H key)).1 = none) → Mod S w w' → (∀ q ∈ F, q ∈ S → q = tX ∨ q = gX) → ∃ N', NdAt w' nb F N' ∧ Wr H del add N N'
 call : (Blk w nb 114 (ndCells N tX (.pointer none)) ∧ cnt = (seek TX.gs key (H key)).2.2) ∨ ∃ tb db, Blk w nb 114 (ndCells N tb (.pointer (some ⟨db, 0, none⟩))) ∧ SeekTo w db P x c key (H key) tX gX TX cnt
theorem seek_count (gs : Tab) (key hash : Nat) : (seek gs key hash).2.2 ≤ gs.length := seekFrom_count _ _ _ _ _ _
theorem wr_del {del add : List Ent} {H : Nat → Nat} {N : Nd} (ha : AddOk H N del add) (hd : del ≠ []) : add.length ≤ del.length := by
 rcases ha.one with h | ⟨_, h, _⟩
 ·exact h
 ·exact absurd h hd
theorem nd_where {W0 : World} {E : Nat → Addr} {H : Nat → Nat} {nb : Nat} {F : List Nat} {N : Nd} {P : MP} {x : Mtr} {w : World} (c : Cnt) (key : Nat) (h : NdAt w nb F N) (ho : NOk H N) (h64 : H key < 18446744073709551616) (hM : MetP w P x) (hE : Env W0 E w) (hb0 : W0.heap.size ≤ P.mb) (hF : P.mb ∉ F) :
  ∃ tX gX cnt TX, Whr w H nb F N P x c key tX gX cnt TX := by
 have hph := ho.ph
 have hsl := ho.sl
 unfold PhOk at hph
 unfold NdAt at h
 cases hp : N.ph with
 | idle =>
  rw [hp] at h hph
  obtain ⟨tb, gb, h1, h2, rfl, h3, h4⟩ := h
  have hcnt := seek_count N.T.gs key (H key)
  have h64' := ho.pw.le
  refine ⟨tb, gb, (seek N.T.gs key (H key)).2.2, N.T, h2, by simp, by simp, ⟨h3, h4⟩, ho.tg, by unfold Nd.len at h64'; omega, ?_, fun w' X del add S hX hc ha hh hd hm hS => ?_, .inl ⟨h1, rfl⟩⟩
  ·rcases old_where (key := key) ho (by rw [hp]; rfl) with h5 | ⟨h5, h6⟩
   ·exact .inl h5
   ·exact .inr ⟨h5, fun e he => h5 e (List.mem_append_right _ he), h6, fun h0 => room_old (n := N.len) (k := 0) ho.pw ho.deep ho.big (Nat.zero_le _) (by have := hph.2; omega)⟩
  ·refine ⟨_, ?_, wr_T ho ha hc (fun Ts next hh => by rw [hp] at hh; cases hh)⟩
   unfold NdAt
   rw [show (N.setT X (slk del add N.sl)).ph = .idle from hp]
   refine ⟨tb, gb, h1.mod hm (fun hh => ?_), hX, rfl, h3, h4⟩
   rcases hS nb (by simp) hh with e | e
   ·exact h3 e
   ·exact h4 e
 | bld k =>
  rw [hp] at h hph
  obtain ⟨db, rb, cap, ob, og, bl, h1, h2, h3, rfl, h4⟩ := h
  have hcnt := seek_count N.T.gs key (H key)
  have h64' := ho.pw.le
  obtain ⟨kk1, kk2, kk3, kk4, _⟩ := kind_each ho.pw hph.1
  have hob : ob ∈ footB db rb ob og bl := by simp [footB]
  have hog : og ∈ footB db rb ob og bl := by simp [footB]
  have hdb : db ∈ footB db rb ob og bl := by simp [footB]
  have hml := hM.lt
  simp only [List.mem_cons, not_or] at hF
  refine ⟨ob, og, (seek N.T.gs key (H key)).2.2, N.T, h2.tab, by simp [hob], by simp [hog], ⟨fun e => h4 (e ▸ hob), fun e => h4 (e ▸ hog)⟩, ho.tg, by unfold Nd.len at h64'; omega, ?_, fun w' X del add S hX hc ha hh hd hm hS => ?_, .inr ⟨ob, db, h1, fun V hV => dual_seek_bld db rb cap ob og bl N.T N.each N.dep k key (H key) P x c V (h2.mod (Mod.of_below hV []) (by simp)) ho.pw h64 (hM.below hV) (hE.next hV) hb0 ⟨fun e => hF.2 (e ▸ hob), fun e => hF.2 (e ▸ hog), fun e => hF.2 (e ▸ hdb)⟩⟩⟩
  ·rcases old_where (key := key) ho (by rw [hp]; rfl) with h5 | ⟨h5, h6⟩
   ·exact .inl h5
   ·exact .inr ⟨h5, fun e he => h5 e (List.mem_append_right _ he), h6, fun h0 => room_old (n := N.len) (k := k) ho.pw ho.deep ho.big (by have := hph.2.1; omega) (by have := hph.2.2.1; rw [h0] at this; omega)⟩
  ·refine ⟨_, ?_, wr_T ho ha hc (fun Ts next hh => by rw [hp] at hh; cases hh)⟩
   obtain ⟨e1, e2, e3⟩ := nd_set (N := N) (s := slk del add N.sl) hc.len
   unfold NdAt
   rw [show (N.setT X (slk del add N.sl)).ph = .bld k from hp]
   refine ⟨db, rb, cap, ob, og, bl, h1.mod hm (fun hh => ?_), by rw [e1, e3]; exact h2.setT hX hm (fun q hq hqS => hS q (by simp [hq]) hqS), h3, rfl, h4⟩
   rcases hS nb (by simp) hh with e | e
   ·exact h4 (e ▸ hob)
   ·exact h4 (e ▸ hog)
 | mov Ts next =>
  rw [hp] at h hph
  obtain ⟨db, rb, cap, ob, og, fb, fcap, eb, vb, vcap, bbs, bs, h1, h2, h3, rfl, h4⟩ := h
  obtain ⟨g1, g2, g3, g4, g5⟩ := hph
  obtain ⟨kk1, kk2, kk3, kk4, _⟩ := kind_each ho.pw g1
  have hob : ob ∈ footM db rb fb eb vb ob og bbs bs := by simp [footM]
  have hog : og ∈ footM db rb fb eb vb ob og bbs bs := by simp [footM]
  simp only [List.mem_cons, not_or] at hF
  obtain ⟨Tx, hTx, hw⟩ := mov_where (key := key) ho hp
  obtain ⟨b, hb⟩ : ∃ b, bs[sideOf N.many N.dpt (H key)]? = some b := ⟨_, List.getElem?_eq_getElem (by rw [h2.tabs.len]; exact (List.getElem?_eq_some_iff.1 hTx).1)⟩
  obtain ⟨m1, m2⟩ := mem_footM_t (db := db) (rb := rb) (fb := fb) (eb := eb) (vb := vb) (ob := ob) (og := og) (bbs := bbs) (List.mem_of_getElem? hb)
  obtain ⟨tx1, tx2⟩ := g3.tg _ _ hTx
  have hcx := seek_count Tx.gs key (H key)
  have hco := seek_count N.T.gs key (H key)
  have hl1 := kk1.le
  have hl2 := ho.pw.le
  unfold Nd.len at hl2
  have hsd : sideOf N.many N.dpt (H key) = sideOf bs.length N.dep (H key) := by rw [h3, side_dep]
  have hseek := fun (tX gX cnt : Nat) (TX : TabM) hga (V : World) (hV : Below w.heap.size w V) => dual_seek_mov db rb cap ob og fb fcap eb vb vcap bbs bs N.T Ts N.each N.dep next key (H key) _ b Tx P x c V (h2.mod (Mod.of_below hV []) (by simp)) hsd hb hTx ho.pw (by rw [tx2]; exact kk1) h64 (hM.below hV) (hE.next hV) hb0 hF.2 tX gX cnt TX hga
  have hLF : ∀ (w' : World) (X : TabM) (del add : List Ent) (S : List Nat), TabAt w' b.1 b.2 X → TChg del add Tx X → AddOk H N del add → (∀ e ∈ add, e.hash = H key) → Mod S w w' → (∀ q ∈ nb :: footM db rb fb eb vb ob og bbs bs, q ∈ S → q = b.1 ∨ q = b.2) → ∃ N', NdAt w' nb (nb :: footM db rb fb eb vb ob og bbs bs) N' ∧ Wr H del add N N' := fun w' X del add S hX hc ha hh hm hS => by
   refine ⟨_, ?_, wr_F ho hp hTx ha hc (fun e he => by rw [hh e he])⟩
   unfold NdAt
   rw [show (N.setF Ts next (sideOf N.many N.dpt (H key)) X (slk del add N.sl)).ph = .mov (Ts.set (sideOf N.many N.dpt (H key)) X) next from rfl]
   refine ⟨db, rb, cap, ob, og, fb, fcap, eb, vb, vcap, bbs, bs, h1.mod hm (fun hh => ?_), h2.setF hb hX hm (fun q hq hqS => hS q (by simp [hq]) hqS), h3, rfl, h4⟩
   rcases hS nb (by simp) hh with e | e
   ·exact h4 (e ▸ m1)
   ·exact h4 (e ▸ m2)
  rcases hw with ⟨e, he, hek, heh, ⟨heT, i, s, hs1, hs2⟩ | ⟨hn, i, s, hs1, hs2⟩⟩ | ⟨hn, hs1, hs2⟩
  ·refine ⟨b.1, b.2, (seek Tx.gs key (H key)).2.2, Tx, h2.tabs.at_ _ _ _ hb hTx, by simp [m1], by simp [m2], ⟨fun e => h4 (e ▸ m1), fun e => h4 (e ▸ m2)⟩, tx1, by omega, .inl ⟨e, he, hek, heh, i, s, hs1, hs2⟩, fun w' X del add S hX hc ha hh hd hm hS => hLF w' X del add S hX hc ha hh hm hS, .inr ⟨ob, db, h1, hseek _ _ _ _ ?_⟩⟩
   rw [hs1]
   exact ⟨rfl, rfl, rfl, rfl⟩
  ·refine ⟨ob, og, (seek Tx.gs key (H key)).2.2 + (seek N.T.gs key (H key)).2.2, N.T, h2.tab, by simp [hob], by simp [hog], ⟨fun e => h4 (e ▸ hob), fun e => h4 (e ▸ hog)⟩, ho.tg, ?_, .inl ⟨e, he, hek, heh, i, s, hs1, hs2⟩, fun w' X del add S hX hc ha hh hd hm hS => ?_, .inr ⟨ob, db, h1, hseek _ _ ((seek Tx.gs key (H key)).2.2 + (seek N.T.gs key (H key)).2.2) _ ?_⟩⟩
   ·omega
   ·have hd' : del ≠ [] := fun e => by rw [hd e] at hs1; cases hs1
    refine ⟨_, ?_, wr_T ho ha hc (fun Ts next hh => ⟨hd', wr_del ha hd'⟩)⟩
    obtain ⟨e1, e2, e3⟩ := nd_set (N := N) (s := slk del add N.sl) hc.len
    unfold NdAt
    rw [show (N.setT X (slk del add N.sl)).ph = .mov Ts next from hp]
    refine ⟨db, rb, cap, ob, og, fb, fcap, eb, vb, vcap, bbs, bs, h1.mod hm (fun hh => ?_), by rw [e1, e3]; exact h2.setT hX hm (fun q hq hqS => hS q (by simp [hq]) hqS), h3, rfl, h4⟩
    rcases hS nb (by simp) hh with e | e
    ·exact h4 (e ▸ hob)
    ·exact h4 (e ▸ hog)
   ·rw [hn, hs1]
    exact ⟨rfl, rfl, rfl, rfl⟩
  ·refine ⟨b.1, b.2, (seek Tx.gs key (H key)).2.2 + (seek N.T.gs key (H key)).2.2, Tx, h2.tabs.at_ _ _ _ hb hTx, by simp [m1], by simp [m2], ⟨fun e => h4 (e ▸ m1), fun e => h4 (e ▸ m2)⟩, tx1, by omega, .inr ⟨hn, fun e he => hn e ?_, hs1, fun h0 => ?_⟩, fun w' X del add S hX hc ha hh hd hm hS => hLF w' X del add S hX hc ha hh hm hS, .inr ⟨ob, db, h1, hseek _ _ _ _ ?_⟩⟩
   ·unfold Nd.ents; rw [hp]; exact List.mem_append_left _ (mem_entsTs.2 ⟨_, _, hTx, he⟩)
   ·have hB := room_fresh ho.pw ho.deep ho.big g1 (s := N.each * N.many + next + N.sl) (by omega)
    have := load_le hTx
    rw [tx2]
    omega
   ·rw [hs1, hs2]
    exact ⟨rfl, rfl, rfl, rfl⟩
end
end Go.Proofs.YtcgjgfgkdoohlaaGreatDoor
