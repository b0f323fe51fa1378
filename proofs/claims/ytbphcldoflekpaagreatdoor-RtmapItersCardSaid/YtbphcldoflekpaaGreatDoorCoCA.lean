/- Entries moved into tables that are right: they fit, and are there. No statement of the claim. -/
import Derived.Test.YtbphcldoflekpaaGreatDoorCoBX
import Derived.Test.YtbphcldoflekpaaGreatDoorSqT
namespace Go.Proofs.YtbphcldoflekpaaGreatDoor
set_option maxHeartbeats 2000000
open Go dA
section
variable {d j m n : Nat} {Ts : List aB} {T : aB}
def loads (Ts : List aB) : Nat := (Ts.map load).sum
def cB (Ts : List aB) : List av := Ts.flatMap fun T => aL T.gs
theorem uY {α : Type} {l : List α} {x : α} (h : l[j]? = some x) : l = l.take j ++ x :: l.drop (j + 1) ∧ ∀ y, l.set j y = l.take j ++ y :: l.drop (j + 1) := by
 obtain ⟨hj, rfl⟩ := List.getElem?_eq_some_iff.1 h
 refine ⟨?_, fun y => ny hj y⟩
 have := ny hj l[j]
 rwa [List.set_getElem_self] at this
theorem Im (h : Ts[j]? = some T) (T' : aB) : loads (Ts.set j T') + load T = loads Ts + load T' := by
 obtain ⟨h1, h2⟩ := uY h
 have h3 : loads Ts = loads (Ts.take j ++ T :: Ts.drop (j + 1)) := by rw [← h1]
 rw [h2 T', h3]
 unfold loads
 simp only [List.map_append, List.map_cons, List.sum_append, List.sum_cons]
 omega
theorem Ot (h : Ts[j]? = some T) : load T ≤ loads Ts := by
 obtain ⟨h1, h2⟩ := uY h
 have h3 : loads Ts = loads (Ts.take j ++ T :: Ts.drop (j + 1)) := by rw [← h1]
 rw [h3]
 unfold loads
 simp only [List.map_append, List.map_cons, List.sum_append, List.sum_cons]
 omega
theorem Bn (h : Ts[j]? = some T) : ∃ A B, cB Ts = A ++ (aL T.gs ++ B) ∧ ∀ T', cB (Ts.set j T') = A ++ (aL T'.gs ++ B) := by
 obtain ⟨h1, h2⟩ := uY h
 refine ⟨cB (Ts.take j), cB (Ts.drop (j + 1)), ?_, fun T' => ?_⟩
 ·have h3 : cB Ts = cB (Ts.take j ++ T :: Ts.drop (j + 1)) := by rw [← h1]
  rw [h3]
  unfold cB
  simp
 ·rw [h2 T']
  unfold cB
  simp
theorem mK {e : av} : e ∈ cB Ts ↔ ∃ (j : Nat) (T : aB), Ts[j]? = some T ∧ e ∈ aL T.gs := by
 unfold cB
 rw [List.mem_flatMap]
 constructor
 ·rintro ⟨T, h1, h2⟩
  obtain ⟨j, hj⟩ := List.getElem?_of_mem h1
  exact ⟨j, T, hj, h2⟩
 ·rintro ⟨j, T, hj, h2⟩
  exact ⟨T, List.mem_of_getElem? hj, h2⟩
structure xS (m n d : Nat) (Ts : List aB) : Prop where
 len : Ts.length = m
 tg : ∀ (j : Nat) (T : aB), Ts[j]? = some T → TG T ∧ T.gs.length = n
 side : ∀ (j : Nat) (T : aB) (e : av), Ts[j]? = some T → e ∈ aL T.gs → dx m d e.hash = j
theorem Ou {h : Nat} (hm : m = 1 ∨ m = 2) : dx m d h < m := by
 unfold dx rY
 rcases hm with rfl | rfl
 ·simp
 ·simp; omega
theorem xS.ak (h : xS m n d Ts) {T' : aB} {del add : List av} (hj : Ts[j]? = some T) (hc : zB del add T T') (ha : ∀ e ∈ add, dx m d e.hash = j) : xS m n d (Ts.set j T') := by
 have hset : ∀ (i : Nat) (X : aB), (Ts.set j T')[i]? = some X → (i = j ∧ X = T') ∨ (i ≠ j ∧ Ts[i]? = some X) := fun i X hX => by
  rw [List.getElem?_set] at hX
  by_cases hij : j = i
  ·rw [if_pos hij] at hX
   split at hX
   ·cases hX; exact .inl ⟨hij.symm, rfl⟩
   ·cases hX
  ·rw [if_neg hij] at hX
   exact .inr ⟨fun hh => hij hh.symm, hX⟩
 refine ⟨by rw [List.length_set]; exact h.len, fun i X hX => ?_, fun i X e hX he => ?_⟩
 ·rcases hset i X hX with ⟨rfl, rfl⟩ | ⟨_, h2⟩
  ·exact ⟨hc.tg, hc.len.trans (h.tg _ _ hj).2⟩
  ·exact h.tg _ _ h2
 ·rcases hset i X hX with ⟨rfl, rfl⟩ | ⟨_, h2⟩
  ·rcases hc.Fj.mem he with h3 | h3
   ·exact ha e h3
   ·exact h.side _ _ _ hj h3
  ·exact h.side _ _ _ h2 he
theorem Io (hn : Pw n) : xS m n d (List.replicate m (dN n n)) ∧ cB (List.replicate m (dN n n)) = [] ∧ loads (List.replicate m (dN n n)) = 0 := by
 obtain ⟨h1, h2, h3⟩ := Ci hn
 have hm : ∀ (j : Nat) (T : aB), (List.replicate m (dN n n))[j]? = some T → T = dN n n := fun j T hT => by
  rw [List.getElem?_replicate] at hT
  split at hT
  ·cases hT; rfl
  ·cases hT
 refine ⟨⟨by simp, fun j T hT => ?_, fun j T e hT he => ?_⟩, ?_, ?_⟩
 ·rw [hm j T hT]; exact ⟨h1, lM (Nat.le_refl _)⟩
 ·rw [hm j T hT, h2] at he; cases he
 ·exact List.eq_nil_iff_forall_not_mem.2 fun e he => by
   obtain ⟨j, T, hT, he⟩ := mK.1 he
   rw [hm j T hT, h2] at he; cases he
 ·unfold loads; simp [h3]
theorem moves {B : Nat} (hm : m = 1 ∨ m = 2) (hB : B ≤ 7 * n) : ∀ (es : List av) (Ts : List aB) (x : bM), xS m n d Ts → ((es ++ cB Ts).map av.key).Nodup → (∀ e ∈ es, e.hash < 18446744073709551616) → loads Ts + es.length ≤ B →
  Fits m d Ts es ∧ xS m n d (dZ m d (x, Ts) es).2 ∧ (cB (dZ m d (x, Ts) es).2).Perm (es ++ cB Ts) ∧ loads (dZ m d (x, Ts) es).2 ≤ loads Ts + es.length ∧ ∃ c, (dZ m d (x, Ts) es).1 = x.add cV c
 | [], Ts, x, h, _, _, _ => ⟨trivial, h, by exact List.Perm.refl _, Nat.le_refl _, 0, rfl⟩
 | e :: es, Ts, x, h, hk, h64, hl => by
  obtain ⟨T, hT⟩ : ∃ T, Ts[dx m d e.hash]? = some T := ⟨_, List.getElem?_eq_getElem (by rw [h.len]; exact Ou hm)⟩
  obtain ⟨hg, hn⟩ := h.tg _ _ hT
  have hgd : Ts.getD (dx m d e.hash) noT = T := by rw [List.getD_eq_getElem?_getD, hT]; rfl
  have hlT := Ot hT
  simp only [List.length_cons] at hl
  have E8 : ∀ y ∈ aL T.gs, y.key ≠ e.key := fun y hy he => by
   rw [List.cons_append, List.map_cons, List.nodup_cons] at hk
   exact hk.1 (by rw [← he]; exact List.mem_map_of_mem (List.mem_append_right _ (mK.2 ⟨_, _, hT, hy⟩)))
  obtain ⟨hs1, i, s, hs2, hf⟩ := Oo hg E8 (by omega)
  have hc := Lf hg hf E8
  have hpn : Bc T e = jm T i s e := by unfold Bc; rw [hs2]
  have hld := hg.J2
  have hcp : KQ T e := ⟨hg.ok, h64 e (by simp), hs1, ⟨i, s, hs2⟩, by omega⟩
  have hFr := h.ak hT hc (fun y hy => by simp at hy; rw [hy])
  have hls := Im hT (jm T i s e)
  have hlp := hc.load_
  simp only [List.length_cons, List.length_nil] at hlp
  obtain ⟨A, B', hsp1, hsp2⟩ := Bn hT
  have hpe : (cB (Ts.set (dx m d e.hash) (jm T i s e))).Perm (e :: cB Ts) := by
   obtain ⟨r, h7, h8⟩ := hc.Fj.wrap A B'
   rw [hsp2, hsp1]
   exact h8.trans (by simpa using h7.symm)
  have ih := moves (B := B) hm hB es (Ts.set (dx m d e.hash) (jm T i s e)) (x.add cV (aH (Ts.getD (dx m d e.hash) noT).gs e.key e.hash).2.2) hFr
   (((hpe.append_left es).trans List.perm_middle).map av.key |>.nodup_iff.2 (by simpa using hk)) (fun y hy => h64 y (by simp [hy])) (by omega)
  obtain ⟨ih1, ih2, ih3, ih4, c, ih5⟩ := ih
  have hst : dZ m d (x, Ts) (e :: es) = dZ m d (x.add cV (aH (Ts.getD (dx m d e.hash) noT).gs e.key e.hash).2.2, Ts.set (dx m d e.hash) (jm T i s e)) es := by
   unfold dZ
   rw [List.foldl_cons]
   congr 1
   unfold rP
   simp only
   rw [hgd, hpn]
  rw [hst]
  refine ⟨⟨⟨T, hT, hcp⟩, by rw [hgd, hpn]; exact ih1⟩, ih2, ih3.trans ((hpe.append_left es).trans List.perm_middle), by simp only [List.length_cons]; omega, _, ih5.trans (bM.add_add _ _ _ _)⟩
theorem Ip (k d : Nat) (x y : bM) : ∀ (es : List av) (Ts : List aB), (dZ k d (x, Ts) es).2 = (dZ k d (y, Ts) es).2
 | [], _ => rfl
 | e :: es, Ts => by
  unfold dZ
  rw [List.foldl_cons, List.foldl_cons]
  exact Ip k d _ _ es _
end
section
variable {H : Nat → Nat}
inductive Phase where
 | idle
 | lN (k : Nat)
 | iI (Ts : List aB) (next : Nat)
structure Nd where
 pfx : Nat
 au : Nat
 kind : Nat
 sl : Nat
 T : aB
 ph : Phase
def xu : Phase → List aB
 | .iI Ts _ => Ts
 | _ => []
def Phase.busy : Phase → Bool
 | .idle => false
 | _ => true
def Nd.len (N : Nd) : Nat := N.T.gs.length
def Nd.many (N : Nd) : Nat := if N.kind = 3 then 2 else 1
def Nd.each (N : Nd) : Nat := if N.kind = 2 then 2 * N.len else N.len
def Nd.ents (N : Nd) : List av := cB (xu N.ph) ++ aL N.T.gs
def Nd.left (N : Nd) : Nat := match N.ph with
 | .idle => 0
 | .lN k => N.len + (N.each * N.many - k)
 | .iI _ next => N.len - next
def Nd.groups (N : Nd) : Nat := if N.ph.busy then N.len + N.each * N.many else N.len
def lG (n d : Nat) : Nat := 4 * n - 1 + d * (3 * n / 8 + 1)
def qL (kind n d : Nat) : Nat := if kind = 1 then (if n < 64 then 2 * n else 192) else lG n d + 1
def jG (N : Nd) : Prop := N.kind = 1 ∨ (N.kind = 2 ∧ N.len < 64) ∨ (N.kind = 3 ∧ 8 ≤ N.len ∧ N.au < 5)
def jY (N : Nd) : Prop := match N.ph with
 | .idle => N.kind = 0 ∧ load N.T ≤ lG N.len N.au + N.sl / 8
 | .lN k => jG N ∧ k < N.each * N.many ∧ load N.T ≤ lG N.len N.au + (k + N.sl) / 8 ∧ (aL N.T.gs).length + 1 ≤ qL N.kind N.len N.au + (k + N.sl) / 8
 | .iI Ts next => jG N ∧ next ≤ N.len ∧ xS N.many N.each N.au Ts ∧ (∀ i s e, aF N.T.gs i s = .full e → next ≤ i) ∧ loads Ts + (aL N.T.gs).length + 1 ≤ qL N.kind N.len N.au + (N.each * N.many + next + N.sl) / 8
structure j5 (H : Nat → Nat) (e : av) : Prop where
 hash : e.hash = H e.key
 h64 : e.hash < 18446744073709551616
 k64 : e.key < 18446744073709551616
 v64 : e.val < 18446744073709551616
structure dL (H : Nat → Nat) (N : Nd) : Prop where
 tg : TG N.T
 deep : N.au ≤ 5
 big : N.au = 0 ∨ 8 ≤ N.len
 pfx : N.pfx < 2 ^ N.au
 sl : N.sl ≤ 8
 keys : (N.ents.map av.key).Nodup
 hash : ∀ e ∈ N.ents, j5 H e ∧ dP e.hash N.au = N.pfx
 few : N.ents.length ≤ 192
 ph : jY N
theorem dL.pw {N : Nd} (h : dL H N) : Pw N.len := h.tg.ok.pow
theorem fF {N : Nd} (h : Pw N.len) (hk : jG N) : Pw N.each ∧ (N.many = 1 ∨ N.many = 2) ∧ N.each * N.many ≤ 2 * N.len ∧ N.len ≤ N.each * N.many ∧
  (N.kind = 1 ∧ N.each = N.len ∧ N.many = 1 ∨ N.kind = 2 ∧ N.each = 2 * N.len ∧ N.many = 1 ∨ N.kind = 3 ∧ N.each = N.len ∧ N.many = 2) := by
 unfold Nd.each Nd.many
 rcases hk with h1 | ⟨h1, h2⟩ | ⟨h1, h2, h3⟩ <;> rw [h1] <;> simp
 ·exact ⟨h, by omega⟩
 ·refine ⟨?_, by omega⟩
  unfold Pw at h ⊢; omega
 ·exact ⟨h, by omega⟩
section
variable {n d k s L l kind : Nat}
theorem Lh (hn : Pw n) (hd : d ≤ 5) (hb : d = 0 ∨ 8 ≤ n) (hk : k ≤ 2 * n) (h : L ≤ lG n d + k / 8) : L + 1 ≤ 7 * n := by
 unfold lG at h
 rcases hb with rfl | hb
 ·rcases hn with rfl | rfl | rfl | rfl | rfl | rfl | rfl <;> omega
 ·rcases hn with rfl | rfl | rfl | rfl | rfl | rfl | rfl <;> omega
theorem Fp {N : Nd} (hn : Pw N.len) (hd : N.au ≤ 5) (hb : N.au = 0 ∨ 8 ≤ N.len) (hk : jG N) (hs : s ≤ 3 * N.len + 8) : qL N.kind N.len N.au + s / 8 ≤ 7 * N.each := by
 unfold Nd.each
 revert hk hb hn hd hs
 unfold jG
 generalize N.len = n
 generalize N.au = d
 intro hn hd hb hk hs
 rcases hk with h1 | ⟨h1, h2⟩ | ⟨h1, h2, h3⟩ <;> rw [h1] <;> unfold qL lG <;> simp
 ·rcases hn with rfl | rfl | rfl | rfl | rfl | rfl | rfl <;> simp <;> omega
 ·rcases hb with rfl | hb <;> rcases hn with rfl | rfl | rfl | rfl | rfl | rfl | rfl <;> simp at * <;> omega
 ·rcases hn with rfl | rfl | rfl | rfl | rfl | rfl | rfl <;> simp at * <;> omega
theorem room_end {N : Nd} (hn : Pw N.len) (hd : N.au ≤ 5) (hb : N.au = 0 ∨ 8 ≤ N.len) (hk : jG N) (hs : s ≤ 8) (h : L + 1 ≤ qL N.kind N.len N.au + (N.each * N.many + N.len + s) / 8) :
  L ≤ lG N.each (if N.many = 2 then N.au + 1 else N.au) := by
 revert h
 unfold Nd.each Nd.many
 revert hk hb hn hd
 unfold jG
 generalize N.len = n
 generalize N.au = d
 intro hn hd hb hk h
 rcases hk with h1 | ⟨h1, h2⟩ | ⟨h1, h2, h3⟩ <;> rw [h1] at h ⊢ <;> unfold qL lG at * <;> simp at h ⊢
 ·rcases hn with rfl | rfl | rfl | rfl | rfl | rfl | rfl <;> simp at h ⊢ <;> omega
 ·rcases hb with rfl | hb <;> rcases hn with rfl | rfl | rfl | rfl | rfl | rfl | rfl <;> simp at * <;> omega
 ·rcases hn with rfl | rfl | rfl | rfl | rfl | rfl | rfl <;> simp at * <;> omega
end
def xU : bM := ⟨⟨0, 0, 0⟩, ⟨0, 0, 0⟩⟩
def Nd.step (N : Nd) : Nd := match N.ph with
 | .idle => N
 | .lN k => { N with sl := N.sl - 1, ph := if k + 1 = N.each * N.many then .iI (List.replicate N.many (dN N.each N.each)) 0 else .lN (k + 1) }
 | .iI Ts next => { N with sl := N.sl - 1, T := takeN N.T next 8, ph := .iI (dZ N.many N.au (xU, Ts) (bT (N.T.gs.getD next []))).2 (next + 1) }
structure Like (N N' : Nd) : Prop where
 pfx : N'.pfx = N.pfx
 au : N'.au = N.au
 kind : N'.kind = N.kind
 len : N'.len = N.len
 busy : N'.ph.busy = N.ph.busy
theorem Like.each {N N' : Nd} (h : Like N N') : N'.each = N.each := by unfold Nd.each; rw [h.kind, h.len]
theorem Like.many {N N' : Nd} (h : Like N N') : N'.many = N.many := by unfold Nd.many; rw [h.kind]
theorem Like.groups {N N' : Nd} (h : Like N N') : N'.groups = N.groups := by unfold Nd.groups; rw [h.busy, h.each, h.many, h.len]
theorem Like.kindOk {N N' : Nd} (h : Like N N') (hk : jG N) : jG N' := by unfold jG at *; rw [h.kind, h.len, h.au]; exact hk
theorem Like.refl (N : Nd) : Like N N := ⟨rfl, rfl, rfl, rfl, rfl⟩
theorem Like.trans {N N' N2 : Nd} (h : Like N N') (k : Like N' N2) : Like N N2 := ⟨k.pfx.trans h.pfx, k.au.trans h.au, k.kind.trans h.kind, k.len.trans h.len, k.busy.trans h.busy⟩
theorem pY (N : Nd) : Like N N.step := by
 unfold Nd.step
 cases h : N.ph with
 | idle => exact Like.refl N
 | lN k => exact ⟨rfl, rfl, rfl, rfl, by simp only; rw [h]; split <;> rfl⟩
 | iI Ts next => exact ⟨rfl, rfl, rfl, qD _ _ _, by rw [h]; rfl⟩
theorem dL.fits {N : Nd} (h : dL H N) {Ts : List aB} {next : Nat} (hp : N.ph = .iI Ts next) (hn : next < N.len) (x : bM) :
  Fits N.many N.au Ts (bT (N.T.gs.getD next [])) ∧ xS N.many N.each N.au (dZ N.many N.au (x, Ts) (bT (N.T.gs.getD next []))).2 ∧ (cB (dZ N.many N.au (x, Ts) (bT (N.T.gs.getD next []))).2).Perm (bT (N.T.gs.getD next []) ++ cB Ts) ∧
   loads (dZ N.many N.au (x, Ts) (bT (N.T.gs.getD next []))).2 ≤ loads Ts + (bT (N.T.gs.getD next [])).length ∧ ∃ c, (dZ N.many N.au (x, Ts) (bT (N.T.gs.getD next []))).1 = x.add cV c := by
 have bQ := h.ph
 unfold jY at bQ
 rw [hp] at bQ
 obtain ⟨h1, h2, h3, h4, h5⟩ := bQ
 obtain ⟨k1, k2, k3, k4, _⟩ := fF h.pw h1
 obtain ⟨t1, t2, t3⟩ := zC h.tg hn
 have hsl := h.sl
 have hB := Fp h.pw h.deep h.big h1 (s := N.each * N.many + next + N.sl) (by omega)
 have hlen := t3.length_eq
 rw [List.length_append] at hlen
 have aa3 : N.ents = cB Ts ++ aL N.T.gs := by unfold Nd.ents; rw [hp]; rfl
 have hpe : N.ents.Perm ((bT (N.T.gs.getD next []) ++ cB Ts) ++ aL (takeN N.T next 8).gs) := by
  rw [aa3]
  refine (t3.append_left _).trans ?_
  rw [← List.append_assoc]
  exact List.perm_append_comm.append_right _
 refine moves k2 hB _ Ts x h3 ?_ (fun e he => ?_) (by omega)
 ·have := (hpe.map av.key).nodup_iff.1 h.keys
  rw [List.map_append] at this
  exact (List.nodup_append.1 this).1
 ·exact (h.hash e (hpe.mem_iff.2 (List.mem_append_left _ (List.mem_append_left _ he)))).1.h64
theorem Iq {N : Nd} (h : dL H N) (hl : 1 ≤ N.left) : N.step.ents.Perm N.ents := by
 cases hp : N.ph with
 | idle => unfold Nd.left at hl; rw [hp] at hl; simp at hl
 | lN k =>
  have bQ := h.ph
  unfold jY at bQ
  rw [hp] at bQ
  unfold Nd.step Nd.ents
  rw [hp]
  simp only
  split
  ·rw [show xu (Phase.iI (List.replicate N.many (dN N.each N.each)) 0) = List.replicate N.many (dN N.each N.each) from rfl, (Io (m := N.many) (d := N.au) (fF h.pw bQ.1).1).2.1]
   exact .refl _
  ·exact .refl _
 | iI Ts next =>
  have hn : next < N.len := by unfold Nd.left at hl; rw [hp] at hl; simp only at hl; omega
  obtain ⟨_, _, h3, _⟩ := h.fits hp hn xU
  obtain ⟨_, _, t3⟩ := zC h.tg hn
  unfold Nd.step Nd.ents
  rw [hp]
  show (cB (dZ N.many N.au (xU, Ts) (bT (N.T.gs.getD next []))).2 ++ aL (takeN N.T next 8).gs).Perm (cB Ts ++ aL N.T.gs)
  refine (h3.append_right _).trans (List.Perm.trans ?_ (t3.symm.append_left _))
  rw [← List.append_assoc]
  exact List.perm_append_comm.append_right _
theorem Sj {N : Nd} (h : dL H N) (hl : 1 ≤ N.left) : N.step.left + 1 = N.left := by
 have hL := pY N
 unfold Nd.left at hl ⊢
 rw [hL.len, hL.each, hL.many]
 cases hp : N.ph with
 | idle => rw [hp] at hl; simp at hl
 | lN k =>
  have bQ := h.ph
  unfold jY at bQ
  rw [hp] at bQ
  obtain ⟨_, hk, _⟩ := bQ
  by_cases h1 : k + 1 = N.each * N.many
  ·have hP : N.step.ph = .iI (List.replicate N.many (dN N.each N.each)) 0 := by unfold Nd.step; rw [hp]; simp only; rw [if_pos h1]
   rw [hP]
   show N.len - 0 + 1 = N.len + (N.each * N.many - k)
   omega
  ·have hP : N.step.ph = .lN (k + 1) := by unfold Nd.step; rw [hp]; simp only; rw [if_neg h1]
   rw [hP]
   show N.len + (N.each * N.many - (k + 1)) + 1 = N.len + (N.each * N.many - k)
   omega
 | iI Ts next =>
  rw [hp] at hl
  unfold Nd.step
  rw [hp]
  simp only at hl ⊢
  omega
theorem step_ok {N : Nd} (h : dL H N) (hl : 1 ≤ N.left) : dL H N.step := by
 have hL := pY N
 have hE := Iq h hl
 have hsl : N.step.sl = N.sl - 1 := by
  unfold Nd.step
  cases hp : N.ph with
  | idle => unfold Nd.left at hl; rw [hp] at hl; simp at hl
  | _ => rfl
 refine ⟨?_, by rw [hL.au]; exact h.deep, by rw [hL.au, hL.len]; exact h.big, by rw [hL.au, hL.pfx]; exact h.pfx, by rw [hsl]; have := h.sl; omega, (hE.map av.key).nodup_iff.2 h.keys, fun e he => by rw [hL.au, hL.pfx]; exact h.hash e (hE.mem_iff.1 he), by rw [hE.length_eq]; exact h.few, ?_⟩
 ·cases hp : N.ph with
  | idle => unfold Nd.left at hl; rw [hp] at hl; simp at hl
  | lN k =>
   have hT : N.step.T = N.T := by unfold Nd.step; rw [hp]
   rw [hT]
   exact h.tg
  | iI Ts next =>
   have hn : next < N.len := by unfold Nd.left at hl; rw [hp] at hl; simp only at hl; omega
   have hT : N.step.T = takeN N.T next 8 := by unfold Nd.step; rw [hp]
   rw [hT]
   exact (zC h.tg hn).1
 ·have bQ := h.ph
  have hs := h.sl
  unfold jY at bQ ⊢
  rw [hL.len, hL.each, hL.many, hL.kind, hL.au, hsl]
  cases hp : N.ph with
  | idle => unfold Nd.left at hl; rw [hp] at hl; simp at hl
  | lN k =>
   rw [hp] at bQ
   obtain ⟨h1, h2, h3, h4⟩ := bQ
   have hT : N.step.T = N.T := by unfold Nd.step; rw [hp]
   rw [hT]
   by_cases hk : k + 1 = N.each * N.many
   ·have hP : N.step.ph = .iI (List.replicate N.many (dN N.each N.each)) 0 := by unfold Nd.step; rw [hp]; simp only; rw [if_pos hk]
    rw [hP]
    obtain ⟨b1, b2, b3⟩ := Io (m := N.many) (n := N.each) (d := N.au) (fF h.pw h1).1
    refine ⟨hL.kindOk h1, Nat.zero_le _, b1, fun _ _ _ _ => Nat.zero_le _, ?_⟩
    rw [b3, ← hk]
    omega
   ·have hP : N.step.ph = .lN (k + 1) := by unfold Nd.step; rw [hp]; simp only; rw [if_neg hk]
    rw [hP]
    exact ⟨hL.kindOk h1, by omega, by omega, by omega⟩
  | iI Ts next =>
   rw [hp] at bQ
   have hn : next < N.len := by unfold Nd.left at hl; rw [hp] at hl; simp only at hl; omega
   obtain ⟨h1, h2, h3, h4, h5⟩ := bQ
   obtain ⟨_, f2, _, f4, _⟩ := h.fits hp hn xU
   obtain ⟨_, t2, t3⟩ := zC h.tg hn
   have hT : N.step.T = takeN N.T next 8 := by unfold Nd.step; rw [hp]
   have hP : N.step.ph = .iI (dZ N.many N.au (xU, Ts) (bT (N.T.gs.getD next []))).2 (next + 1) := by unfold Nd.step; rw [hp]
   rw [hT, hP]
   have hlen := t3.length_eq
   rw [List.length_append] at hlen
   refine ⟨hL.kindOk h1, by omega, f2, fun i s e he => ?_, by omega⟩
   obtain ⟨a, b⟩ := (t2 i s e).1 he
   have := h4 i s e a
   omega
end
section
variable {H : Nat → Nat} {add del l : List av} {X Y : aB} {Ts : List aB} {gl key next : Nat} {e : av}
def Nd.oz (N : Nd) (X : aB) (s : Nat) : Nd := { N with T := X, sl := s }
def Nd.Li (N : Nd) (Ts : List aB) (next j : Nat) (X : aB) (s : Nat) : Nd := { N with ph := .iI (Ts.set j X) next, sl := s }
structure Wr (H : Nat → Nat) (del add : List av) (N N' : Nd) : Prop where
 like : Like N N'
 left : N'.left = N.left
 Fj : rE del add N.ents N'.ents
 ok : dL H N'
 sl : add.length ≤ del.length → N'.sl = N.sl
 ld : N.ph = .idle → load N'.T ≤ load N.T + (add.length - del.length)
structure sF (H : Nat → Nat) (N : Nd) (del add : List av) : Prop where
 hash : ∀ e ∈ add, j5 H e ∧ dP e.hash N.au = N.pfx
 keys : ∀ rest, N.ents.Perm (del ++ rest) → ((add ++ rest).map av.key).Nodup
 few : N.ents.length + add.length ≤ 192 + del.length
 one : add.length ≤ del.length ∨ add.length = 1 ∧ del = [] ∧ N.sl = 0
def lD (del add : List av) (s : Nat) : Nat := if del.length < add.length then 8 else s
theorem Wr.of {N N' : Nd} (h : dL H N) (ha : sF H N del add) (hL : Like N N') (hl : N'.left = N.left) (hc : rE del add N.ents N'.ents) (ht : TG N'.T) (hs : N'.sl = lD del add N.sl) (hld : N.ph = .idle → load N'.T ≤ load N.T + (add.length - del.length)) (hp : jY N') : Wr H del add N N' := by
 refine ⟨hL, hl, hc, ⟨ht, by rw [hL.au]; exact h.deep, by rw [hL.au, hL.len]; exact h.big, by rw [hL.au, hL.pfx]; exact h.pfx, ?_, ?_, fun e he => ?_, ?_, hp⟩, fun hh => by rw [hs]; unfold lD; rw [if_neg (by omega)], hld⟩
 ·rw [hs]; unfold lD; have := h.sl; split <;> omega
 ·obtain ⟨r, h1, h2⟩ := hc
  exact (h2.map av.key).nodup_iff.2 (ha.keys r h1)
 ·rw [hL.au, hL.pfx]
  rcases hc.mem he with h1 | h1
  ·exact ha.hash e h1
  ·exact h.hash e h1
 ·have := hc.len
  have := ha.few
  omega
theorem Vz {N : Nd} (h : dL H N) (ha : sF H N del add) (hc : zB del add N.T X) (hm : ∀ Ts next, N.ph = .iI Ts next → del ≠ [] ∧ add.length ≤ del.length) : Wr H del add N (N.oz X (lD del add N.sl)) := by
 have hL : Like N (N.oz X (lD del add N.sl)) := ⟨rfl, rfl, rfl, hc.len, rfl⟩
 have hlen := hc.Fj.len
 have hld := hc.load_
 have hs := h.sl
 have h1 := ha.one
 refine Wr.of h ha hL ?_ ?_ hc.tg rfl (fun _ => hc.load_) ?_
 ·unfold Nd.left
  rw [hL.len, hL.each, hL.many]
  rfl
 ·have := hc.Fj.wrap (cB (xu N.ph)) []
  show rE del add (cB (xu N.ph) ++ aL N.T.gs) (cB (xu N.ph) ++ aL X.gs)
  simpa using this
 ·have bQ := h.ph
  unfold jY at bQ ⊢
  rw [hL.len, hL.each, hL.many]
  show match N.ph with
   | .idle => N.kind = 0 ∧ load X ≤ lG N.len N.au + lD del add N.sl / 8
   | .lN k => jG (N.oz X (lD del add N.sl)) ∧ k < N.each * N.many ∧ load X ≤ lG N.len N.au + (k + lD del add N.sl) / 8 ∧ (aL X.gs).length + 1 ≤ qL N.kind N.len N.au + (k + lD del add N.sl) / 8
   | .iI Ts next => jG (N.oz X (lD del add N.sl)) ∧ next ≤ N.len ∧ xS N.many N.each N.au Ts ∧ (∀ i s e, aF X.gs i s = .full e → next ≤ i) ∧ loads Ts + (aL X.gs).length + 1 ≤ qL N.kind N.len N.au + (N.each * N.many + next + lD del add N.sl) / 8
  have hsk : (add.length ≤ del.length ∧ lD del add N.sl = N.sl) ∨ (add.length = 1 ∧ del.length = 0 ∧ N.sl = 0 ∧ lD del add N.sl = 8) := by
   rcases h1 with h2 | ⟨h2, h3, h4⟩
   ·exact .inl ⟨h2, by unfold lD; rw [if_neg (by omega)]⟩
   ·exact .inr ⟨h2, by rw [h3]; rfl, h4, by unfold lD; rw [if_pos (by rw [h3, h2]; simp)]⟩
  cases hp : N.ph with
  | idle =>
   rw [hp] at bQ
   exact ⟨bQ.1, by have := bQ.2; omega⟩
  | lN k =>
   rw [hp] at bQ
   obtain ⟨g1, g2, g3, g4⟩ := bQ
   exact ⟨hL.kindOk g1, g2, by omega, by omega⟩
  | iI Ts next =>
   rw [hp] at bQ
   obtain ⟨g1, g2, g3, g4, g5⟩ := bQ
   obtain ⟨m1, m2⟩ := hm Ts next hp
   refine ⟨hL.kindOk g1, g2, g3, fun i s e he => ?_, by omega⟩
   rcases hc.at_ i s e he with h2 | ⟨e0, h2⟩
   ·exact absurd h2 m1
   ·exact g4 i s e0 h2
theorem abD {N : Nd} {j : Nat} (h : dL H N) (hp : N.ph = .iI Ts next) (hj : Ts[j]? = some Y) (ha : sF H N del add) (hc : zB del add Y X) (hsd : ∀ e ∈ add, dx N.many N.au e.hash = j) : Wr H del add N (N.Li Ts next j X (lD del add N.sl)) := by
 have hL : Like N (N.Li Ts next j X (lD del add N.sl)) := ⟨rfl, rfl, rfl, rfl, by rw [hp]; rfl⟩
 have hlen := hc.Fj.len
 have hld := hc.load_
 have hs := h.sl
 have h1 := ha.one
 have hls := Im hj X
 refine Wr.of h ha hL ?_ ?_ h.tg rfl (fun hh => by rw [hp] at hh; cases hh) ?_
 ·unfold Nd.left
  rw [hp]
  rfl
 ·obtain ⟨A, B, hA, hB⟩ := Bn hj
  have := hc.Fj.wrap A (B ++ aL N.T.gs)
  unfold Nd.ents
  rw [hp]
  show rE del add (cB Ts ++ aL N.T.gs) (cB (Ts.set j X) ++ aL N.T.gs)
  rw [hA, hB]
  simpa using this
 ·have bQ := h.ph
  unfold jY at bQ
  rw [hp] at bQ
  obtain ⟨g1, g2, g3, g4, g5⟩ := bQ
  show jG _ ∧ next ≤ N.len ∧ xS N.many N.each N.au (Ts.set j X) ∧ (∀ i s e, aF N.T.gs i s = .full e → next ≤ i) ∧ loads (Ts.set j X) + (aL N.T.gs).length + 1 ≤ qL N.kind N.len N.au + (N.each * N.many + next + lD del add N.sl) / 8
  refine ⟨hL.kindOk g1, g2, g3.ak hj hc hsd, g4, ?_⟩
  have hsk : (add.length ≤ del.length ∧ lD del add N.sl = N.sl) ∨ (add.length = 1 ∧ del.length = 0 ∧ N.sl = 0 ∧ lD del add N.sl = 8) := by
   rcases h1 with h2 | ⟨h2, h3, h4⟩
   ·exact .inl ⟨h2, by unfold lD; rw [if_neg (by omega)]⟩
   ·exact .inr ⟨h2, by rw [h3]; rfl, h4, by unfold lD; rw [if_pos (by rw [h3, h2]; simp)]⟩
  omega
theorem Ov {N : Nd} (h : dL H N) (he : j5 H e) (ht : dP e.hash N.au = N.pfx) (hk : ∀ x ∈ N.ents, x.key ≠ e.key) (hf : N.ents.length + 1 ≤ 192) (hs : N.sl = 0) : sF H N [] [e] :=
 ⟨fun x hx => by simp at hx; subst hx; exact ⟨he, ht⟩, fun r hr => by
  have h1 := (hr.map av.key).nodup_iff.1 h.keys
  rw [List.nil_append] at h1 hr
  rw [List.singleton_append, List.map_cons, List.nodup_cons]
  exact ⟨fun hh => by obtain ⟨x, h2, h3⟩ := List.mem_map.1 hh; exact hk x (hr.mem_iff.2 h2) h3, h1⟩, by simpa using hf, .inr ⟨rfl, rfl, hs⟩⟩
theorem VA {N : Nd} (h : dL H N) : sF H N [e] [] :=
 ⟨fun x hx => by simp at hx, fun r hr => by
  have h1 := (hr.map av.key).nodup_iff.1 h.keys
  rw [List.singleton_append, List.map_cons, List.nodup_cons] at h1
  exact h1.2, by have := h.few; simp; omega, .inl (by simp)⟩
theorem Ir {N : Nd} {v : Nat} (h : dL H N) (he : e ∈ N.ents) (hv : v < 18446744073709551616) : sF H N [e] [{ e with val := v }] :=
 ⟨fun x hx => by simp at hx; subst hx; obtain ⟨h1, h2⟩ := h.hash e he; exact ⟨⟨h1.hash, h1.h64, h1.k64, hv⟩, h2⟩, fun r hr => by
  have h1 := (hr.map av.key).nodup_iff.1 h.keys
  simpa using h1, by have := h.few; simp; omega, .inl (by simp)⟩
def Nd.start (N : Nd) (kind : Nat) : Nd := { N with kind := kind, sl := 8, ph := .lN 0 }
theorem Lj {N : Nd} {kind : Nat} (h : dL H N) (hi : N.ph = .idle) (hgl : gl ≤ 5) (hk : iE N.T.live N.T.bR N.len N.au gl = kind) (h0 : kind ≠ 0) : dL H (N.start kind) ∧ (N.start kind).ents = N.ents := by
 have hE : (N.start kind).ents = N.ents := by unfold Nd.ents Nd.start; rw [hi]; rfl
 have bQ := h.ph
 unfold jY at bQ
 rw [hi] at bQ
 have hs := h.sl
 have hl := h.tg.ok.live
 have hK : jG (N.start kind) ∧ (kind = 1 → 2 * N.len < (aL N.T.gs).length → N.len = 64) := by
  unfold iE at hk
  split at hk
  ·exact absurd hk.symm h0
  ·split at hk
   ·next h1 => subst hk; exact ⟨.inl rfl, fun _ h2 => by omega⟩
   ·split at hk
    ·next h1 => subst hk; exact ⟨.inr (.inr ⟨rfl, h1.1, by show N.au < 5; omega⟩), fun hh => by omega⟩
    ·split at hk
     ·next h1 => subst hk; exact ⟨.inr (.inl ⟨rfl, h1⟩), fun hh => by omega⟩
     ·next h1 => subst hk; exact ⟨.inl rfl, fun _ _ => by have := h.pw.le; omega⟩
 have hle : (aL N.T.gs).length ≤ load N.T := by unfold load; omega
 have zD := h.few
 have hE2 : N.ents.length = (aL N.T.gs).length := by unfold Nd.ents; rw [hi]; simp [xu, cB]
 have hkE := fF (N := N.start kind) h.pw hK.1
 refine ⟨⟨h.tg, h.deep, h.big, h.pfx, Nat.le_refl 8, by rw [hE]; exact h.keys, by rw [hE]; exact h.hash, by rw [hE]; exact h.few, ?_⟩, hE⟩
 show jG (N.start kind) ∧ 0 < (N.start kind).each * (N.start kind).many ∧ load N.T ≤ lG N.len N.au + (0 + 8) / 8 ∧ (aL N.T.gs).length + 1 ≤ qL kind N.len N.au + (0 + 8) / 8
 have hpos := h.pw.pos
 have hlen : (N.start kind).len = N.len := rfl
 refine ⟨hK.1, by omega, by omega, ?_⟩
 unfold qL
 by_cases h1 : kind = 1
 ·rw [if_pos h1]
  have := hK.2 h1
  have h64 := h.pw.le
  by_cases h2 : N.len < 64
  ·rw [if_pos h2]; omega
  ·rw [if_neg h2]; omega
 ·rw [if_neg h1]; omega
theorem Yy {N : Nd} (h : dL H N) (hi : N.ph = .idle) (hk : iE N.T.live N.T.bR N.len N.au gl = 0) : dL H { N with sl := 0 } := by
 have bQ := h.ph
 unfold jY at bQ
 rw [hi] at bQ
 have hl := h.tg.J2
 have hn : jX N.T.live N.T.bR N.len = false := by
  unfold iE at hk
  split at hk
  ·assumption
  ·split at hk
   ·cases hk
   ·split at hk
    ·cases hk
    ·split at hk <;> cases hk
 unfold jX at hn
 simp only [Bool.or_eq_false_iff, decide_eq_false_iff_not] at hn
 refine ⟨h.tg, h.deep, h.big, h.pfx, Nat.zero_le _, h.keys, h.hash, h.few, ?_⟩
 unfold jY
 show match N.ph with
  | .idle => N.kind = 0 ∧ load N.T ≤ lG N.len N.au + 0 / 8
  | .lN k => _
  | .iI Ts next => _
 rw [hi]
 refine ⟨bQ.1, ?_⟩
 unfold lG
 have := h.pw.pos
 omega
theorem ended {N : Nd} (h : dL H N) (hb : N.ph.busy = true) (hl : N.left = 0) : ∃ Ts, N.ph = .iI Ts N.len ∧ aL N.T.gs = [] := by
 have bQ := h.ph
 unfold jY at bQ
 have hpos := h.pw.pos
 unfold Nd.left at hl
 cases hp : N.ph with
 | idle => rw [hp] at hb; cases hb
 | lN k => rw [hp] at hl; simp only at hl; omega
 | iI Ts next =>
  rw [hp] at hl bQ
  simp only at hl
  obtain ⟨h1, h2, h3, h4, h5⟩ := bQ
  obtain rfl : next = N.len := by omega
  refine ⟨Ts, rfl, List.eq_nil_iff_forall_not_mem.2 fun e he => ?_⟩
  obtain ⟨i, s, hs⟩ := pF.1 he
  have := h4 i s e hs
  have := (jL (gs := N.T.gs) (i := i) (s := s) (by rw [hs]; exact fun h => by cases h)).1
  unfold Nd.len at *
  omega
theorem VB {h d : Nat} (hd : d ≤ 5) : dP h (d + 1) = 2 * dP h d + rY h d := by
 unfold dP rY
 have h1 : 64 - (d + 1) = 63 - d := by omega
 have h2 : (2 : Nat) ^ (64 - d) = 2 ^ (63 - d) * 2 := by rw [← Nat.pow_succ]; congr 1; omega
 rw [h1, h2, ← Nat.div_div_eq_div_mul]
 omega
theorem Yz {N : Nd} (h : dL H N) (hp : N.ph = .iI [X] N.len) (hT : aL N.T.gs = []) : dL H ⟨N.pfx, N.au, 0, 0, X, .idle⟩ ∧ (Nd.mk N.pfx N.au 0 0 X .idle).ents = N.ents ∧ X.gs.length = N.each ∧ N.many = 1 := by
 have bQ := h.ph
 unfold jY at bQ
 rw [hp] at bQ
 obtain ⟨h1, h2, h3, h4, h5⟩ := bQ
 obtain ⟨k1, k2, k3, k4, k5⟩ := fF h.pw h1
 have hm : N.many = 1 := by have := h3.len; simpa using this.symm
 obtain ⟨x1, x2⟩ := h3.tg 0 X rfl
 have hE : (Nd.mk N.pfx N.au 0 0 X .idle).ents = N.ents := by unfold Nd.ents; rw [hp, hT]; simp [xu, cB]
 have hr := room_end (L := load X) h.pw h.deep h.big h1 h.sl (by rw [hT] at h5; simpa [loads] using h5)
 rw [hm, if_neg (by omega)] at hr
 refine ⟨⟨x1, h.deep, ?_, h.pfx, Nat.zero_le _, by rw [hE]; exact h.keys, by rw [hE]; exact h.hash, by rw [hE]; exact h.few, rfl, ?_⟩, hE, x2, hm⟩
 ·rcases h.big with hb | hb
  ·exact .inl hb
  ·right; show 8 ≤ X.gs.length; rw [x2, ← Nat.mul_one N.each, ← hm]; omega
 ·show load X ≤ lG X.gs.length N.au + 0 / 8
  rw [x2]; omega
theorem YA {N : Nd} (h : dL H N) (hp : N.ph = .iI [X, Y] N.len) (hT : aL N.T.gs = []) : dL H ⟨2 * N.pfx, N.au + 1, 0, 0, X, .idle⟩ ∧ dL H ⟨2 * N.pfx + 1, N.au + 1, 0, 0, Y, .idle⟩ ∧
  (Nd.mk (2 * N.pfx) (N.au + 1) 0 0 X .idle).ents ++ (Nd.mk (2 * N.pfx + 1) (N.au + 1) 0 0 Y .idle).ents = N.ents ∧ X.gs.length = N.each ∧ Y.gs.length = N.each ∧ N.many = 2 ∧ N.au < 5 := by
 have bQ := h.ph
 unfold jY at bQ
 rw [hp] at bQ
 obtain ⟨h1, h2, h3, h4, h5⟩ := bQ
 obtain ⟨k1, k2, k3, k4, k5⟩ := fF h.pw h1
 have hm : N.many = 2 := by have := h3.len; simpa using this.symm
 have hk3 : N.kind = 3 ∧ N.each = N.len := by omega
 have hd5 : 8 ≤ N.len ∧ N.au < 5 := by rcases h1 with h6 | h6 | h6 <;> omega
 obtain ⟨x1, x2⟩ := h3.tg 0 X rfl
 obtain ⟨y1, y2⟩ := h3.tg 1 Y rfl
 have hE : (Nd.mk (2 * N.pfx) (N.au + 1) 0 0 X .idle).ents ++ (Nd.mk (2 * N.pfx + 1) (N.au + 1) 0 0 Y .idle).ents = N.ents := by unfold Nd.ents; rw [hp, hT]; simp [xu, cB]
 have hl : loads [X, Y] = load X + load Y := by simp [loads]
 rw [hT, hl, List.length_nil] at h5
 have hr1 := room_end (L := load X) h.pw h.deep h.big h1 h.sl (by omega)
 have hr2 := room_end (L := load Y) h.pw h.deep h.big h1 h.sl (by omega)
 rw [if_pos hm] at hr1 hr2
 have hkeys := h.keys
 rw [← hE, List.map_append] at hkeys
 have hn := List.nodup_append.1 hkeys
 have zD := h.few
 rw [← hE, List.length_append] at zD
 have hpf := h.pfx
 have hpw : 2 ^ (N.au + 1) = 2 ^ N.au * 2 := Nat.pow_succ ..
 have hside : ∀ (j : Nat) (Z : aB) (e : av), [X, Y][j]? = some Z → e ∈ aL Z.gs → j5 H e ∧ dP e.hash (N.au + 1) = 2 * N.pfx + j := fun j Z e hZ he => by
  have h6 := h3.side j Z e hZ he
  obtain ⟨h7, h8⟩ := h.hash e (by unfold Nd.ents; rw [hp]; exact List.mem_append_left _ (mK.2 ⟨j, Z, hZ, he⟩))
  refine ⟨h7, ?_⟩
  rw [VB (by omega), h8]
  unfold dx at h6
  rw [if_neg (by omega)] at h6
  omega
 refine ⟨⟨x1, by show N.au + 1 ≤ 5; omega, .inr (by show 8 ≤ X.gs.length; omega), by show 2 * N.pfx < 2 ^ (N.au + 1); omega, Nat.zero_le _, hn.1, fun e he => hside 0 X e rfl (by simpa [Nd.ents, xu, cB] using he), by omega, rfl, by show load X ≤ lG X.gs.length (N.au + 1) + 0 / 8; rw [x2]; omega⟩,
  ⟨y1, by show N.au + 1 ≤ 5; omega, .inr (by show 8 ≤ Y.gs.length; omega), by show 2 * N.pfx + 1 < 2 ^ (N.au + 1); omega, Nat.zero_le _, hn.2.1, fun e he => hside 1 Y e rfl (by simpa [Nd.ents, xu, cB] using he), by omega, rfl, by show load Y ≤ lG Y.gs.length (N.au + 1) + 0 / 8; rw [y2]; omega⟩, hE, x2, y2, hm, hd5.2⟩
theorem Sk {N : Nd} (h : dL H N) (hp : N.ph = .iI Ts next) : ∃ Tx, Ts[dx N.many N.au (H key)]? = some Tx ∧
  ((∃ e ∈ N.ents, e.key = key ∧ e.hash = H key ∧ ((e ∈ aL Tx.gs ∧ ∃ i s, (aH Tx.gs key (H key)).1 = some (i, s) ∧ aF Tx.gs i s = .full e) ∨ ((aH Tx.gs key (H key)).1 = none ∧ ∃ i s, (aH N.T.gs key (H key)).1 = some (i, s) ∧ aF N.T.gs i s = .full e))) ∨
   ((∀ e ∈ N.ents, e.key ≠ key) ∧ (aH Tx.gs key (H key)).1 = none ∧ (aH N.T.gs key (H key)).1 = none)) := by
 have bQ := h.ph
 unfold jY at bQ
 rw [hp] at bQ
 obtain ⟨h1, h2, h3, h4, h5⟩ := bQ
 obtain ⟨k1, k2, k3, k4, k5⟩ := fF h.pw h1
 obtain ⟨Tx, hT⟩ : ∃ Tx, Ts[dx N.many N.au (H key)]? = some Tx := ⟨_, List.getElem?_eq_getElem (by rw [h3.len]; exact Ou k2)⟩
 have hE : N.ents = cB Ts ++ aL N.T.gs := by unfold Nd.ents; rw [hp]; rfl
 refine ⟨Tx, hT, ?_⟩
 have hnk := h.keys
 rw [hE, List.map_append] at hnk
 by_cases hex : ∃ e ∈ N.ents, e.key = key
 ·obtain ⟨e, he, hk⟩ := hex
  have hh := (h.hash e he).1.hash
  rw [hk] at hh
  refine .inl ⟨e, he, hk, hh, ?_⟩
  rw [hE] at he
  rcases List.mem_append.1 he with he | he
  ·obtain ⟨j, T', hj, Xr⟩ := mK.1 he
   have hs := h3.side j T' e hj Xr
   rw [hh] at hs
   rw [hs] at hT
   rw [hT] at hj
   cases hj
   obtain ⟨i, s, a, b⟩ := Gi (h3.tg j Tx hT).1 Xr
   rw [hk, hh] at a
   exact .inl ⟨Xr, i, s, a, b⟩
  ·obtain ⟨i, s, a, b⟩ := Gi h.tg he
   rw [hk, hh] at a
   refine .inr ⟨pG fun x hx hxk => ?_, i, s, a, b⟩
   exact (List.nodup_append.1 hnk).2.2 x.key (List.mem_map_of_mem (mK.2 ⟨_, _, hT, hx⟩)) e.key (List.mem_map_of_mem he) (hxk.trans hk.symm)
 ·have hne : ∀ e ∈ N.ents, e.key ≠ key := fun e he hk => hex ⟨e, he, hk⟩
  exact .inr ⟨hne, pG fun x hx => hne x (by rw [hE]; exact List.mem_append_left _ (mK.2 ⟨_, _, hT, hx⟩)), pG fun x hx => hne x (by rw [hE]; exact List.mem_append_right _ hx)⟩
theorem Iu {N : Nd} (h : dL H N) (hp : xu N.ph = []) : (∃ e ∈ N.ents, e.key = key ∧ e.hash = H key ∧ ∃ i s, (aH N.T.gs key (H key)).1 = some (i, s) ∧ aF N.T.gs i s = .full e) ∨ ((∀ e ∈ N.ents, e.key ≠ key) ∧ (aH N.T.gs key (H key)).1 = none) := by
 have hE : N.ents = aL N.T.gs := by unfold Nd.ents; rw [hp]; rfl
 by_cases hex : ∃ e ∈ N.ents, e.key = key
 ·obtain ⟨e, he, hk⟩ := hex
  have hh := (h.hash e he).1.hash
  rw [hk] at hh
  obtain ⟨i, s, a, b⟩ := Gi h.tg (hE ▸ he)
  rw [hk, hh] at a
  exact .inl ⟨e, he, hk, hh, i, s, a, b⟩
 ·have hne : ∀ e ∈ N.ents, e.key ≠ key := fun e he hk => hex ⟨e, he, hk⟩
  exact .inr ⟨hne, pG fun x hx => hne x (by rw [hE]; exact hx)⟩
def look (l : List av) (key : Nat) : Option av := l.find? fun e => e.key == key
theorem jN (hn : (l.map av.key).Nodup) (he : e ∈ l) : look l e.key = some e := by
 unfold look
 cases hf : l.find? (fun x => x.key == e.key) with
 | none => exact absurd (List.find?_eq_none.1 hf e he) (by simp)
 | some x =>
  have h1 := List.mem_of_find?_eq_some hf
  have h2 := List.find?_some hf
  simp at h2
  congr 1
  obtain ⟨i, hi, rfl⟩ := List.getElem_of_mem h1
  obtain ⟨j, hj, rfl⟩ := List.getElem_of_mem he
  have h3 : (l.map av.key)[i]'(by simpa using hi) = (l.map av.key)[j]'(by simpa using hj) := by simpa using h2
  have h4 := (List.getElem_inj hn).1 h3
  subst h4; rfl
theorem Iw (h : ∀ e ∈ l, e.key ≠ key) : look l key = none := by
 unfold look
 rw [List.find?_eq_none]
 intro e he
 simpa using h e he
theorem vQ (h : look l key = some e) : e ∈ l ∧ e.key = key := by
 unfold look at h
 exact ⟨List.mem_of_find?_eq_some h, by simpa using List.find?_some h⟩
end
end Go.Proofs.YtbphcldoflekpaaGreatDoor
