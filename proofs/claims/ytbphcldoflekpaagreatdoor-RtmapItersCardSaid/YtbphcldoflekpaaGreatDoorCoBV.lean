/- A node's other operations, told of its entries and its job. -/
import Derived.Test.YtbphcldoflekpaaGreatDoorCoCC
import Derived.Test.YtbphcldoflekpaaGreatDoorLaneP
import Derived.Test.YtbphcldoflekpaaGreatDoorCoBU
import Derived.Test.YtbphcldoflekpaaGreatDoorSqT
namespace Go.Proofs.YtbphcldoflekpaaGreatDoor
set_option maxRecDepth 100000
set_option maxHeartbeats 4000000
open Go.RowKit dA
section
variable {a b f : av} {l' : List av} {o : Option av} {Ts : List aB}
def fV (f : av) (l : List av) : Option av → Prop
 | none => ∀ e ∈ l, aX e f = true
 | some m => m ∈ l ∧ aX m f = false ∧ ∀ e ∈ l, aX e f = false → aX e m = false
theorem Fy {c : av} (h : aX a b = true) (k : aX b c = true) : aX a c = true := by
 simp [aX] at *; omega
theorem xY (a : av) : aX a a = false := by simp [aX]
theorem LK {l : List av} (h : fV f l o) (e : av) : fV f (l ++ [e]) (mg f o e) := by
 unfold mg
 cases hl : aX e f with
 | true =>
  simp only [Bool.not_true, Bool.false_and, Bool.false_eq_true, if_false]
  cases o with
  | none =>
   intro x hx
   rcases List.mem_append.1 hx with h1 | h1
   ·exact h x h1
   ·simp at h1; subst h1; exact hl
  | some m =>
   refine ⟨List.mem_append_left _ h.1, h.2.1, fun x hx jM => ?_⟩
   rcases List.mem_append.1 hx with h1 | h1
   ·exact h.2.2 x h1 jM
   ·simp at h1; subst h1; rw [hl] at jM; cases jM
 | false =>
  cases o with
  | none =>
   simp only [Bool.not_false, Bool.true_and, if_true]
   refine ⟨by simp, hl, fun x hx jM => ?_⟩
   rcases List.mem_append.1 hx with h1 | h1
   ·rw [h x h1] at jM; cases jM
   ·simp at h1; subst h1; exact xY _
  | some m =>
   simp only [Bool.not_false, Bool.true_and]
   cases hm : aX e m with
   | true =>
    rw [if_pos rfl]
    refine ⟨by simp, hl, fun x hx jM => ?_⟩
    rcases List.mem_append.1 hx with h1 | h1
    ·cases hxe : aX x e with
     | false => rfl
     | true => have := h.2.2 x h1 jM; rw [Fy hxe hm] at this; cases this
    ·simp at h1; subst h1; exact xY _
   | false =>
    rw [if_neg (by simp)]
    refine ⟨List.mem_append_left _ h.1, h.2.1, fun x hx jM => ?_⟩
    rcases List.mem_append.1 hx with h1 | h1
    ·exact h.2.2 x h1 jM
    ·simp at h1; subst h1; exact hm
theorem Bu (f : av) : ∀ (es l : List av) (o : Option av), fV f l o → fV f (l ++ es) (dO f o es)
 | [], l, o, h => by simpa [dO] using h
 | e :: es, l, o, h => by
  have := Bu f es (l ++ [e]) _ (LK h e)
  simpa [dO] using this
theorem IV (f : av) (es : List av) : fV f es (dO f none es) := by
 have := Bu f es [] none (by intro e he; cases he)
 simpa [nI, nU] using this
theorem JI {l : List av} {o' : Option av} (h : fV f l o) (h' : fV f l' o') : fV f (l ++ l') (qF o o') := by
 unfold qF
 cases o' with
 | none =>
  cases o with
  | none =>
   intro x hx
   rcases List.mem_append.1 hx with h1 | h1
   ·exact h x h1
   ·exact h' x h1
  | some m =>
   refine ⟨List.mem_append_left _ h.1, h.2.1, fun x hx jM => ?_⟩
   rcases List.mem_append.1 hx with h1 | h1
   ·exact h.2.2 x h1 jM
   ·rw [h' x h1] at jM; cases jM
 | some e =>
  cases o with
  | none =>
   refine ⟨List.mem_append_right _ h'.1, h'.2.1, fun x hx jM => ?_⟩
   rcases List.mem_append.1 hx with h1 | h1
   ·rw [h x h1] at jM; cases jM
   ·exact h'.2.2 x h1 jM
  | some m =>
   simp only
   cases hm : aX e m with
   | true =>
    rw [if_pos rfl]
    refine ⟨List.mem_append_right _ h'.1, h'.2.1, fun x hx jM => ?_⟩
    rcases List.mem_append.1 hx with h1 | h1
    ·cases hxe : aX x e with
     | false => rfl
     | true => have := h.2.2 x h1 jM; rw [Fy hxe hm] at this; cases this
    ·exact h'.2.2 x h1 jM
   | false =>
    rw [if_neg (by simp)]
    refine ⟨List.mem_append_left _ h.1, h.2.1, fun x hx jM => ?_⟩
    rcases List.mem_append.1 hx with h1 | h1
    ·exact h.2.2 x h1 jM
    ·cases hxm : aX x m with
     | false => rfl
     | true =>
      have h2 := h'.2.2 x h1 jM
      have : aX e m = true := by
       simp [aX] at *; omega
      rw [hm] at this; cases this
theorem Ah (f : av) : ∀ (Ts : List aB) (l : List av) (o : Option av), fV f l o → fV f (l ++ cB Ts) (Ts.foldl (fun o T => qF o (dO f none (aL T.gs))) o)
 | [], l, o, h => by simpa [cB] using h
 | T :: Ts, l, o, h => by
  have := Ah f Ts (l ++ aL T.gs) _ (JI h (IV f (aL T.gs)))
  simpa [cB] using this
theorem Fz (f : av) (Ts : List aB) : fV f (cB Ts) (fU f Ts) := by
 have := Ah f Ts [] none (by intro e he; cases he)
 simpa [fU] using this
theorem gQ.snoc {w : World} {bs : List (Nat × Nat)} {ob og : Nat} {T : aB} (h : gQ w bs Ts) (hT : TabAt w ob og T) (h1 : ob ∉ fM bs) (h2 : og ∉ fM bs) : gQ w (bs ++ [(ob, og)]) (Ts ++ [T]) := by
 have hcase : ∀ (i : Nat) (b : Nat × Nat), (bs ++ [(ob, og)])[i]? = some b → bs[i]? = some b ∨ (i = bs.length ∧ b = (ob, og)) := fun i b hb => by
  by_cases hi : i < bs.length
  ·rw [List.getElem?_append_left hi] at hb; exact .inl hb
  ·rw [List.getElem?_append_right (by omega)] at hb
   have h0 : i - bs.length = 0 := by
    have := (List.getElem?_eq_some_iff.1 hb).1
    simp at this; omega
   rw [h0] at hb
   simp at hb
   exact .inr ⟨by omega, hb.symm⟩
 refine ⟨by simp [h.len], fun i b X hb hX => ?_, fun i j b c hb hc hij => ?_⟩
 ·rcases hcase i b hb with h3 | ⟨rfl, rfl⟩
  ·rw [List.getElem?_append_left (by rw [← h.len]; exact (List.getElem?_eq_some_iff.1 h3).1)] at hX
   exact h.at_ i b X h3 hX
  ·rw [h.len, List.getElem?_append_right (Nat.le_refl _), Nat.sub_self] at hX
   cases hX
   exact hT
 ·have hf : ∀ b ∈ bs, b.1 ≠ ob ∧ b.1 ≠ og ∧ b.2 ≠ ob ∧ b.2 ≠ og := fun b hb =>
   ⟨fun e => h1 (e ▸ dK.2 ⟨b, hb, .inl rfl⟩), fun e => h2 (e ▸ dK.2 ⟨b, hb, .inl rfl⟩), fun e => h1 (e ▸ dK.2 ⟨b, hb, .inr rfl⟩), fun e => h2 (e ▸ dK.2 ⟨b, hb, .inr rfl⟩)⟩
  rcases hcase i b hb with h3 | ⟨rfl, rfl⟩ <;> rcases hcase j c hc with h4 | ⟨rfl, rfl⟩
  ·exact h.ne i j b c h3 h4 hij
  ·exact hf b (List.mem_of_getElem? h3)
  ·obtain ⟨a1, a2, a3, a4⟩ := hf c (List.mem_of_getElem? h4)
   exact ⟨a1.symm, a3.symm, a2.symm, a4.symm⟩
  ·exact absurd rfl hij
theorem ZW (d d' h : Nat) : dx 1 d h = dx 1 d' h := by unfold dx; rw [if_pos rfl, if_pos rfl]
theorem VI (d d' : Nat) : rP 1 d = rP 1 d' := by funext st e; unfold rP; rw [ZW d d']
theorem XA (d d' : Nat) : ∀ (es : List av) (Ts : List aB), Fits 1 d Ts es → Fits 1 d' Ts es
 | [], _, _ => trivial
 | e :: es, Ts, h => by
  unfold Fits at h ⊢
  rw [ZW d' d]
  exact ⟨h.1, XA d d' es _ h.2⟩
theorem VJ {N : Nd} {es : List av} (h : Fits N.many N.au Ts es) : Fits N.many N.dep Ts es := by
 unfold Nd.dep
 split
 ·next h1 => rw [h1] at h ⊢; exact XA _ _ _ _ h
 ·exact h
theorem SG (N : Nd) (st : bM × List aB) (es : List av) : dZ N.many N.dep st es = dZ N.many N.au st es := by
 unfold Nd.dep
 split
 ·next h1 => rw [h1]; unfold dZ; rw [VI]
 ·rfl
section
variable {W0 : World} {E : Nat → Addr} {H : Nat → Nat} {nb : Nat} {F : List Nat} {N : Nd} {P : MP} {x : bM} {w : World}
theorem ZX (h : bJ w nb F N) : ∃ tb dv, aj w nb 146 (ku N tb dv) := by
 unfold bJ at h
 split at h
 ·obtain ⟨tb, gb, h1, _⟩ := h; exact ⟨_, _, h1⟩
 ·obtain ⟨db, rb, cap, ob, og, bl, h1, _⟩ := h; exact ⟨_, _, h1⟩
 ·obtain ⟨db, rb, cap, ob, og, fb, bU, eb, vb, bX, bq, bs, h1, _⟩ := h; exact ⟨_, _, h1⟩
theorem IW (h : bJ w nb F N) : Calls Tryz.prog 106 #[aK nb] w fun e w' => e = .returned (.tuple #[nI N.pfx, nI N.au]) ∧ w.drew = w' := by
 obtain ⟨tb, dv, hb⟩ := ZX h
 exact Np nb tb N.pfx N.au N.kind dv w hb
theorem YJ (h : bJ w nb F N) (ho : dL H N) : Calls Tryz.prog 236 #[aK nb] w fun e w' => e = .returned (nI N.left) ∧ Below w.heap.size w w' := by
 have hl := ho.pw.le
 have bQ := ho.ph
 unfold jY at bQ
 unfold bJ at h
 unfold Nd.left
 cases hp : N.ph with
 | idle =>
  rw [hp] at h
  obtain ⟨tb, gb, h1, _⟩ := h
  exact (JD nb tb N.pfx N.au N.kind w h1).mono fun e w' ⟨a, b⟩ => ⟨a, b ▸ Below.refl _ _⟩
 | lN k =>
  rw [hp] at h
  obtain ⟨db, rb, cap, ob, og, bl, h1, h2, h3, _⟩ := h
  have := Js db rb cap ob og bl N.T N.each N.dep k w h2 hl
  rw [h3] at this
  exact yO nb ob db N.pfx N.au N.kind _ (fun V V' => Below V.heap.size V V') w h1 this
 | iI Ts next =>
  rw [hp] at h bQ
  obtain ⟨db, rb, cap, ob, og, fb, bU, eb, vb, bX, bq, bs, h1, h2, h3, _⟩ := h
  have := oQ db rb cap ob og fb bU eb vb bX bq bs N.T Ts N.each N.dep next w h2 hl bQ.2.1
  exact (yO nb ob db N.pfx N.au N.kind _ (fun V V' => V.drew = V') w h1 this).mono fun e w' ⟨a, b⟩ => ⟨a, b ▸ (Below.refl _ _).drew⟩
theorem SH (h : bJ w nb F N) (ho : dL H N) : Calls Tryz.prog 65 #[aK nb] w fun e w' => e = .returned (nI N.groups) ∧ w = w' := by
 have hl := ho.pw.le
 have bQ := ho.ph
 unfold jY at bQ
 unfold bJ at h
 unfold Nd.groups
 cases hp : N.ph with
 | idle =>
  rw [hp] at h
  obtain ⟨tb, gb, h1, h2, _⟩ := h
  exact Fh nb tb gb N.pfx N.au N.kind N.T w h1 h2
 | lN k =>
  rw [hp] at h bQ
  obtain ⟨db, rb, cap, ob, og, bl, h1, h2, h3, _⟩ := h
  obtain ⟨k1, k2, _⟩ := fF ho.pw bQ.1
  have := Dc db rb cap ob og (bl.map fun b => b.1) N.T N.each (nI N.dep) (.slice none 0 0) (.pointer none) (.bool false) k1.le (by rw [List.length_map]; omega) hl w (by rw [List.length_map]; exact h2.blk) h2.row (fun b hb => by
   obtain ⟨c, hc, rfl⟩ := List.mem_map.1 hb
   obtain ⟨i, hi⟩ := List.getElem?_of_mem hc
   exact ⟨_, _, (h2.mZ i c hi).blk⟩) h2.tab
  rw [List.length_map, h3] at this
  exact vP nb ob db N.pfx N.au N.kind _ (fun V V' => V = V') w h1 this
 | iI Ts next =>
  rw [hp] at h bQ
  obtain ⟨db, rb, cap, ob, og, fb, bU, eb, vb, bX, bq, bs, h1, h2, h3, _⟩ := h
  obtain ⟨k1, k2, _⟩ := fF ho.pw bQ.1
  have := Dc db rb cap ob og bq N.T N.each (nI N.dep) (.slice (some ⟨fb, 0, none⟩) bs.length bU) (pQ eb) (.bool false) k1.le (by rw [h2.eq, h3]; omega) hl w h2.blk h2.row (fun b hb => ⟨_, _, h2.mZ b hb⟩) h2.tab
  rw [h2.eq, h3] at this
  exact vP nb ob db N.pfx N.au N.kind _ (fun V V' => V = V') w h1 this
theorem JJ (gl : Nat) (h : bJ w nb F N) (hb : N.ph.busy = true) : Calls Tryz.prog 85 #[aK nb, nI gl] w fun e w' => e = .returned (.tuple #[.int .i64 0, .bool false]) ∧ Below w.heap.size w w' := by
 unfold bJ at h
 cases hp : N.ph with
 | idle => rw [hp] at hb; cases hb
 | lN k =>
  rw [hp] at h
  obtain ⟨db, rb, cap, ob, og, bl, h1, _⟩ := h
  exact (xq nb ob db N.pfx N.au N.kind gl w h1).mono fun e w' ⟨a, b⟩ => ⟨a, b ▸ Below.refl _ _⟩
 | iI Ts next =>
  rw [hp] at h
  obtain ⟨db, rb, cap, ob, og, fb, bU, eb, vb, bX, bq, bs, h1, _⟩ := h
  exact (xq nb ob db N.pfx N.au N.kind gl w h1).mono fun e w' ⟨a, b⟩ => ⟨a, b ▸ Below.refl _ _⟩
theorem JK (gl : Nat) (h : bJ w nb F N) (ho : dL H N) (hi : N.ph = .idle) : Calls Tryz.prog 85 #[aK nb, nI gl] w fun e w' => e = .returned (.tuple #[.int .i64 ((iE N.T.live N.T.bR N.len N.au gl : Nat) : Int), .bool (eG N.T.live N.T.bR N.len N.au gl)]) ∧ Below w.heap.size w w' := by
 unfold bJ at h
 rw [hi] at h
 obtain ⟨tb, gb, h1, h2, _⟩ := h
 exact Gh nb tb gb N.au gl N.pfx N.kind N.T w h1 h2 ho.tg.ok
theorem VK (gl kind : Nat) (hgl : gl ≤ 5) (h : bJ w nb F N) (ho : dL H N) (hi : N.ph = .idle) (hk : iE N.T.live N.T.bR N.len N.au gl = kind) (h0 : kind ≠ 0) : Calls Tryz.prog 87 #[aK nb, nI kind] w fun e w' => e = .returned .nilIface ∧ ∃ F', bJ w' nb F' (N.start kind) ∧ (∀ q ∈ F', q ∈ F ∨ w.heap.size ≤ q) ∧ Mod [nb] w w' := by
 obtain ⟨hs, _⟩ := Lj ho hi hgl hk h0
 have bQ := hs.ph
 have hK : jG (N.start kind) := bQ.1
 obtain ⟨k1, k2, k3, k4, k5⟩ := fF (N := N.start kind) ho.pw hK
 have hd := ho.deep
 have hd' : N.au < 5 ∨ (N.start kind).many = 1 ∧ N.au ≤ 5 := by
  rcases hK with h1 | h1 | h1
  ·exact .inr ⟨by unfold Nd.many; rw [h1]; rfl, hd⟩
  ·exact .inr ⟨by unfold Nd.many; rw [h1.1]; rfl, hd⟩
  ·exact .inl h1.2.2
 unfold bJ at h
 rw [hi] at h
 obtain ⟨tb, gb, h1, h2, rfl, h3, h4⟩ := h
 refine (Qa nb tb gb kind (N.start kind).each (N.start kind).many N.au N.pfx N.kind N.T hd' w h1 h2 ho.tg.ok k1 k5 h3 h4).mono ?_
 rintro e w' ⟨rfl, db, hb, ⟨rb, cap, bl, l1, l2, l3, l4, oJ⟩, hm⟩
 have hnl := h1.lt
 refine ⟨rfl, nb :: bH db rb tb gb bl, ?_, fun q hq => ?_, hm⟩
 ·unfold bJ
  show ∃ db rb cap ob og bl, _
  refine ⟨db, rb, cap, tb, gb, bl, hb, oJ, l4, rfl, fun hh => ?_⟩
  simp only [bH, List.mem_cons] at hh
  rcases hh with e | e | e | e | e
  ·omega
  ·omega
  ·exact h3 e
  ·exact h4 e
  ·have := l3 nb e; omega
 ·simp only [bH, List.mem_cons] at hq
  rcases hq with e | e | e | e | e | e
  ·exact .inl (by simp [e])
  ·exact .inr (by omega)
  ·exact .inr (by omega)
  ·exact .inl (by simp [e])
  ·exact .inl (by simp [e])
  ·exact .inr (l3 q e)
theorem VL (key hash : Nat) (h : bJ w nb F N) (ho : dL H N) (hM : aN w P x) (hE : Env W0 E w) (hb0 : W0.heap.size ≤ P.mb) (hF : P.mb ∉ F) :
  Calls Tryz.prog 103 #[aK nb, aG (some ⟨P.mb, P.mo, none⟩) cP, nU hash, nU key] w fun e w' => ∃ o x', e = .returned (eT o) ∧ fV ⟨key, 0, hash⟩ N.ents o ∧ aN w' P x' ∧ dI x x' 192 0 ∧ Mod [P.mb] w w' := by
 have hl := ho.pw.le
 have bQ := ho.ph
 unfold jY at bQ
 unfold bJ at h
 have fin : ∀ (w' : World) (n : Nat), Through (fun V V' => aN V' P (x.add cP n) ∧ Mod [P.mb] V V') w w' → n ≤ 192 → ∃ x', aN w' P x' ∧ dI x x' 192 0 ∧ Mod [P.mb] w w' := fun w' n ht hn => by
  obtain ⟨h1, h2⟩ := ht.out (by simpa [nI, nU] using hM.lt) (fun V' g hg hR hm => hR.mod hm (by have := hM.lt; simp; omega))
  exact ⟨_, h1, (vZ x n).mono hn (Nat.le_refl _), h2⟩
 cases hp : N.ph with
 | idle =>
  rw [hp] at h
  obtain ⟨tb, gb, h1, h2, rfl, h3, h4⟩ := h
  have hE' : N.ents = aL N.T.gs := by unfold Nd.ents; rw [hp]; rfl
  refine (Gd nb tb N.pfx N.au N.kind hash key P cP ((dO ⟨key, 0, hash⟩ none (aL N.T.gs)).getD ⟨0, 0, 0⟩) (dO ⟨key, 0, hash⟩ none (aL N.T.gs)).isSome [P.mb] (fun V V' => aN V' P (x.add cP N.T.gs.length) ∧ Mod [P.mb] V V') w h1 (by simpa [nI, nU] using hM.lt) fun V hV => ?_).mono fun e w' ⟨a, b⟩ => ?_
  ·exact (Da tb gb N.T P x cP hash key hl V (h2.below hV) (hM.below hV) (hE.next hV) (fun e => hF (by simp [e])) (fun e => hF (by simp [e])) hb0).mono fun e V' ⟨a, b, c⟩ => ⟨a, c, b, c⟩
  ·obtain ⟨x', c, d⟩ := fin w' _ b (by unfold Nd.len at hl; omega)
   exact ⟨_, x', a, by rw [hE']; exact IV _ _, c, d⟩
 | lN k =>
  rw [hp] at h
  obtain ⟨db, rb, cap, ob, og, bl, h1, h2, h3, rfl, h4⟩ := h
  have hE' : N.ents = cB [N.T] := by unfold Nd.ents; rw [hp]; simp [xu, cB]
  have mU : P.mb ≠ ob := fun e => hF (by simp [bH, e])
  have hog : P.mb ≠ og := fun e => hF (by simp [bH, e])
  refine (xg nb ob db N.pfx N.au N.kind hash key P cP ((fU ⟨key, 0, hash⟩ [N.T]).getD ⟨0, 0, 0⟩) (fU ⟨key, 0, hash⟩ [N.T]).isSome [P.mb] (fun V V' => aN V' P (x.add cP (qG [N.T])) ∧ Mod [P.mb] V V') w h1 (by simpa [nI, nU] using hM.lt) fun V hV => ?_).mono fun e w' ⟨a, b⟩ => ?_
  ·have h2' := h2.mod (Mod.of_below hV []) (by simp)
   have hts : gQ V [(ob, og)] [N.T] := by
    have := (gQ.mk (w := V) (bs := []) (Ts := []) rfl (fun j b T hb => by simp at hb) (fun i j b c hb => by simp at hb)).snoc h2'.tab (by simp [fM]) (by simp [fM])
    simpa [nI, nU] using this
   exact (Fa db ob 0 none [] (by simp) _ _ _ _ [(ob, og)] [N.T] P x cP hash key V h2'.blk ⟨by simp [ptrs], fun hh => by simp at hh⟩ rfl hts (fun T hT => by simp at hT; subst hT; exact hl) (hM.below hV) (hE.next hV) hb0 (fun b hb => by simp at hb; subst hb; exact ⟨mU, hog⟩)).mono fun e V' ⟨a, b, c⟩ => ⟨a, c, b, c⟩
  ·obtain ⟨x', c, d⟩ := fin w' _ b (by unfold qG; unfold Nd.len at hl; simp; omega)
   exact ⟨_, x', a, by rw [hE']; exact Fz _ _, c, d⟩
 | iI Ts next =>
  rw [hp] at h bQ
  obtain ⟨db, rb, cap, ob, og, fb, bU, eb, vb, bX, bq, bs, h1, h2, h3, rfl, h4⟩ := h
  obtain ⟨g1, g2, g3, g4, g5⟩ := bQ
  obtain ⟨k1, k2, k3, k4, _⟩ := fF ho.pw g1
  have hE' : N.ents = cB (Ts ++ [N.T]) := by unfold Nd.ents; rw [hp]; simp [xu, cB]
  have hg : ∀ T ∈ Ts ++ [N.T], T.gs.length ≤ 64 := fun T hT => by
   rcases List.mem_append.1 hT with h5 | h5
   ·obtain ⟨j, hj⟩ := List.getElem?_of_mem h5
    rw [(g3.tg j T hj).2]; exact k1.le
   ·simp at h5; subst h5; exact hl
  have hsum : ∀ l : List aB, (∀ T ∈ l, T.gs.length ≤ 64) → qG l ≤ 64 * l.length := fun l => by
   induction l with
   | nil => intro _; simp [qG]
   | cons T l ih =>
    intro hh
    have h6 := ih (fun X hX => hh X (by simp [hX]))
    have h7 := hh T (by simp)
    unfold qG at h6 ⊢
    simp only [List.map_cons, List.sum_cons, List.length_cons]
    omega
  have hs := hsum _ hg
  have hlen := g3.len
  rw [List.length_append, List.length_singleton, hlen] at hs
  refine (xg nb ob db N.pfx N.au N.kind hash key P cP ((fU ⟨key, 0, hash⟩ (Ts ++ [N.T])).getD ⟨0, 0, 0⟩) (fU ⟨key, 0, hash⟩ (Ts ++ [N.T])).isSome [P.mb] (fun V V' => aN V' P (x.add cP (qG (Ts ++ [N.T]))) ∧ Mod [P.mb] V V') w h1 (by simpa [nI, nU] using hM.lt) fun V hV => ?_).mono fun e w' ⟨a, b⟩ => ?_
  ·have h2' := h2.mod (Mod.of_below hV []) (by simp)
   have hnd := h2.nd
   unfold aV at hnd
   simp only [List.nodup_cons, List.mem_cons, List.mem_append, not_or] at hnd
   obtain ⟨_, _, _, _, _, ⟨_, _, f8⟩, ⟨_, g8⟩, _⟩ := hnd
   have hts := h2'.tabs.snoc h2'.tab f8 g8
   exact (Fa db ob bU (some ⟨fb, 0, none⟩) (bs.map Prod.fst) (by rw [List.length_map]; omega) _ _ _ _ (bs ++ [(ob, og)]) (Ts ++ [N.T]) P x cP hash key V (by rw [List.length_map]; exact h2'.blk) (eO.reads h2'.fresh) (by simp) hts hg (hM.below hV) (hE.next hV) hb0 (fun b hb => by
    rcases List.mem_append.1 hb with h5 | h5
    ·obtain ⟨m1, m2⟩ := gU (db := db) (rb := rb) (fb := fb) (eb := eb) (vb := vb) (ob := ob) (og := og) (bq := bq) h5
     exact ⟨fun e => hF (by rw [e]; simp [m1]), fun e => hF (by rw [e]; simp [m2])⟩
    ·simp at h5; subst h5
     exact ⟨fun e => hF (by simp [aV, e]), fun e => hF (by simp [aV, e])⟩)).mono fun e V' ⟨a, b, c⟩ => ⟨a, c, b, c⟩
  ·obtain ⟨x', c, d⟩ := fin w' _ b (by omega)
   exact ⟨_, x', a, by rw [hE']; exact Fz _ _, c, d⟩
theorem Oz {α : Type} {l : List α} (h : l.length = 2) : ∃ a b, l = [a, b] := by
 match l, h with
 | [a, b], _ => exact ⟨a, b, rfl⟩
theorem Bv {nb tb db : Nat} {pfx au job : Int} {R : World → Prop} (h : aj w nb 146 #[.int .i64 pfx, .int .i64 au, pQ tb, .int .i64 job, pQ db]) (hc : Calls Tryz.prog 238 #[bL db, .pointer (some ⟨P.mb, P.mo, none⟩)] w fun e w' => e = .returned (.bool true) ∧ R w') :
  Calls Tryz.prog 237 #[aK nb, .pointer (some ⟨P.mb, P.mo, none⟩)] w fun e w' => e = .returned (.bool true) ∧ R w' := Gg nb tb db pfx au job P (fun _ V' => R V') w h hc
theorem YK (h : bJ w nb F N) (ho : dL H N) (hl : 1 ≤ N.left) (hM : aN w P x) (hE : Env W0 E w) (hb0 : W0.heap.size ≤ P.mb) (hF : P.mb ∉ F) (Xo : ∀ q ∈ F, W0.heap.size ≤ q) :
  Calls Tryz.prog 237 #[aK nb, lT P] w fun e w' => e = .returned (.bool true) ∧ ∃ F' x', bJ w' nb F' N.step ∧ (∀ q ∈ F', q ∈ F ∨ w.heap.size ≤ q) ∧ aN w' P x' ∧ dI x x' 0 1 ∧ Mod (P.mb :: F) w w' := by
 have hL := pY N
 have P9 : N.step.dep = N.dep := by unfold Nd.dep; rw [hL.many, hL.au]
 have hcells : ∀ tb dv, ku N.step tb dv = ku N tb dv := fun tb dv => by unfold ku; rw [hL.pfx, hL.au, hL.kind]
 have bQ := ho.ph
 unfold jY at bQ
 unfold bJ at h
 cases hp : N.ph with
 | idle => unfold Nd.left at hl; rw [hp] at hl; simp at hl
 | lN k =>
  rw [hp] at h bQ
  obtain ⟨db, rb, cap, ob, og, bl, h1, h2, h3, rfl, h4⟩ := h
  simp only [List.mem_cons, not_or] at hF
  have hst := Jy db rb cap ob og bl N.T N.each N.dep k P x w h2 hM hE hF.2 hb0 (fun q hq => Xo q (by simp [hq]))
  refine (Bv h1 hst).mono ?_
  rintro e w' ⟨rfl, hM', hm, hif⟩
  have J5 : dI x ((x.add cV 1).add (cU 1) 1) 0 1 := (LJ x 1).trans (qQ _ 1)
  have hnb : nb ∉ P.mb :: bH db rb ob og bl := by simp only [List.mem_cons, not_or]; exact ⟨fun e => hF.1 e.symm, h4⟩
  have hblk := h1.mod hm hnb
  have hmod : Mod (P.mb :: nb :: bH db rb ob og bl) w w' := hm.more (fun q hq => by
   rcases List.mem_cons.1 hq with e | e
   ·simp [e]
   ·simp [e])
  by_cases hk : k + 1 = N.each * N.many
  ·have hP : N.step.ph = .iI (List.replicate N.many (dN N.each N.each)) 0 := by unfold Nd.step; rw [hp]; simp only; rw [if_pos hk]
   have hT : N.step.T = N.T := by unfold Nd.step; rw [hp]
   rw [if_pos (by rw [h3]; exact hk)] at hif
   obtain ⟨fb, bU, eb, vb, bX, oJ, l1, l2, l3⟩ := hif
   have hnl := h1.lt
   have hin : ∀ q, q ∈ aV db rb fb eb vb ob og (bl.map fun b => b.1) (gT bl) → q ∈ bH db rb ob og bl ∨ w.heap.size ≤ q := fun q hq => by
    unfold aV at hq
    rw [List.mem_cons, List.mem_cons, List.mem_cons, List.mem_cons, List.mem_cons, List.mem_cons, List.mem_cons] at hq
    rcases hq with e | e | e | e | e | e | e | e
    ·exact .inl (by simp [bH, e])
    ·exact .inl (by simp [bH, e])
    ·exact .inr (by omega)
    ·exact .inr (by omega)
    ·exact .inr (by omega)
    ·exact .inl (by simp [bH, e])
    ·exact .inl (by simp [bH, e])
    ·have := wY e
     refine .inl ?_
     unfold bH
     rw [List.mem_cons, List.mem_cons, List.mem_cons, List.mem_cons]
     exact .inr (.inr (.inr (.inr this)))
   refine ⟨rfl, nb :: aV db rb fb eb vb ob og (bl.map fun b => b.1) (gT bl), _, ?_, fun q hq => ?_, hM', J5, hmod⟩
   ·unfold bJ
    rw [hP, hT, hL.each, P9]
    refine ⟨db, rb, cap, ob, og, fb, bU, eb, vb, bX, bl.map fun b => b.1, gT bl, by rw [hcells]; exact hblk, by rw [← h3]; exact oJ, by rw [hL.many, ← h3]; simp [gT], rfl, fun hh => ?_⟩
    rcases hin nb hh with e | e
    ·exact h4 e
    ·omega
   ·rcases List.mem_cons.1 hq with e | e
    ·exact .inl (by simp [e])
    ·rcases hin q e with e | e
     ·exact .inl (by simp [e])
     ·exact .inr e
  ·have hP : N.step.ph = .lN (k + 1) := by unfold Nd.step; rw [hp]; simp only; rw [if_neg hk]
   have hT : N.step.T = N.T := by unfold Nd.step; rw [hp]
   rw [if_neg (by rw [h3]; exact hk)] at hif
   refine ⟨rfl, nb :: bH db rb ob og bl, _, ?_, fun q hq => .inl hq, hM', J5, hmod⟩
   unfold bJ
   rw [hP, hT, hL.each, P9]
   exact ⟨db, rb, cap, ob, og, bl, by rw [hcells]; exact hblk, hif, by rw [hL.many]; exact h3, rfl, h4⟩
 | iI Ts next =>
  rw [hp] at h bQ
  obtain ⟨db, rb, cap, ob, og, fb, bU, eb, vb, bX, bq, bs, h1, h2, h3, rfl, h4⟩ := h
  have hn : next < N.len := by unfold Nd.left at hl; rw [hp] at hl; simp only at hl; omega
  simp only [List.mem_cons, not_or] at hF
  obtain ⟨f1, f2, f3, f4, c, f5⟩ := ho.fits hp hn ((x.add (cU 1) 1).add cV 1)
  have hst := Jw db rb cap ob og fb bU eb vb bX bq bs N.T Ts N.each N.dep next P x w h2 ho.tg.ok hn (by rw [h3]; exact VJ f1) hM hE hF.2 hb0 (fun q hq => Xo q (by simp [hq]))
  refine (Bv h1 hst).mono ?_
  rintro e w' ⟨rfl, oJ, hM', hm⟩
  rw [h3, SG] at oJ hM'
  rw [f5] at hM'
  have J5 : dI x (((x.add (cU 1) 1).add cV 1).add cV c) 0 1 := ((qQ x 1).trans (LJ _ 1)).trans (LJ _ c)
  have hnb : nb ∉ P.mb :: aV db rb fb eb vb ob og bq bs := by simp only [List.mem_cons, not_or]; exact ⟨fun e => hF.1 e.symm, h4⟩
  have hP : N.step.ph = .iI (dZ N.many N.au (xU, Ts) (bT (N.T.gs.getD next []))).2 (next + 1) := by unfold Nd.step; rw [hp]
  have hT : N.step.T = takeN N.T next 8 := by unfold Nd.step; rw [hp]
  refine ⟨rfl, nb :: aV db rb fb eb vb ob og bq bs, _, ?_, fun q hq => .inl hq, hM', J5, hm.more (fun q hq => by
   rcases List.mem_cons.1 hq with e | e
   ·simp [e]
   ·simp [e])⟩
  unfold bJ
  rw [hP, hT, hL.each, P9, Ip _ _ xU ((x.add (cU 1) 1).add cV 1)]
  exact ⟨db, rb, cap, ob, og, fb, bU, eb, vb, bX, bq, bs, by rw [hcells]; exact h1.mod hm hnb, oJ, by rw [hL.many]; exact h3, rfl, h4⟩
theorem Ql (h : bJ w nb F N) (ho : dL H N) (hb : N.ph.busy = true) (hl : N.left = 0) (hm1 : N.many = 1) :
  Calls Tryz.prog 144 #[aK nb] w fun e w' => e = .returned (.tuple #[.pointer none, .nilIface]) ∧ ∃ X F', bJ w' nb F' ⟨N.pfx, N.au, 0, 0, X, .idle⟩ ∧ dL H ⟨N.pfx, N.au, 0, 0, X, .idle⟩ ∧ (Nd.mk N.pfx N.au 0 0 X .idle).ents = N.ents ∧ X.gs.length = N.each ∧ (∀ q ∈ F', q ∈ F) ∧ Mod F w w' := by
 obtain ⟨Ts, hp, hT⟩ := ended ho hb hl
 have bQ := ho.ph
 unfold jY at bQ
 unfold bJ at h
 rw [hp] at h bQ
 obtain ⟨db, rb, cap, ob, og, fb, bU, eb, vb, bX, bq, bs, h1, h2, h3, rfl, h4⟩ := h
 rw [hm1] at h3
 obtain ⟨b, rfl⟩ := List.length_eq_one_iff.1 h3
 have SI := h2.tabs.len
 rw [h3] at SI
 obtain ⟨X, rfl⟩ := List.length_eq_one_iff.1 SI.symm
 obtain ⟨e1, e2, e3, _⟩ := Yz ho hp hT
 obtain ⟨m1, m2⟩ := gU (db := db) (rb := rb) (fb := fb) (eb := eb) (vb := vb) (ob := ob) (og := og) (bq := bq) (bs := [b]) (b := b) (by simp)
 refine (Ld nb ob db rb cap og fb bU eb vb bX b.1 b.2 bq N.pfx N.au N.kind N.T [X] N.each N.dep N.len w h1 h2 ho.pw.le rfl (fun q hq e => h4 (e ▸ hq))).mono ?_
 rintro e w' ⟨rfl, hb', hts, hm⟩
 refine ⟨rfl, X, [nb, b.1, b.2], ?_, e1, e2, e3, fun q hq => ?_, hm.more (fun q hq => ?_)⟩
 ·exact ⟨b.1, b.2, hb', hts.at_ 0 b X rfl rfl, rfl, fun e => h4 (e ▸ m1), fun e => h4 (e ▸ m2)⟩
 ·simp at hq
  rcases hq with rfl | rfl | rfl
  ·simp
  ·simp [m1]
  ·simp [m2]
 ·simp at hq
  rcases hq with rfl | rfl
  ·simp
  ·simp [aV]
theorem Qm (h : bJ w nb F N) (ho : dL H N) (hb : N.ph.busy = true) (hl : N.left = 0) (hm2 : N.many = 2) :
  Calls Tryz.prog 144 #[aK nb] w fun e w' => ∃ qb, e = .returned (.tuple #[aK qb, .nilIface]) ∧ w.heap.size ≤ qb ∧ N.au < 5 ∧ ∃ X Y F' F2, bJ w' nb F' ⟨2 * N.pfx, N.au + 1, 0, 0, X, .idle⟩ ∧ bJ w' qb F2 ⟨2 * N.pfx + 1, N.au + 1, 0, 0, Y, .idle⟩ ∧ dL H ⟨2 * N.pfx, N.au + 1, 0, 0, X, .idle⟩ ∧ dL H ⟨2 * N.pfx + 1, N.au + 1, 0, 0, Y, .idle⟩ ∧
   (Nd.mk (2 * N.pfx) (N.au + 1) 0 0 X .idle).ents ++ (Nd.mk (2 * N.pfx + 1) (N.au + 1) 0 0 Y .idle).ents = N.ents ∧ X.gs.length = N.each ∧ Y.gs.length = N.each ∧ (∀ q ∈ F', q ∈ F) ∧ (∀ q ∈ F2, q ∈ F ∨ w.heap.size ≤ q) ∧ (∀ q ∈ F', q ∉ F2) ∧ Mod F w w' := by
 obtain ⟨Ts, hp, hT⟩ := ended ho hb hl
 have hpf := ho.pfx
 have hdp := ho.deep
 unfold bJ at h
 rw [hp] at h
 obtain ⟨db, rb, cap, ob, og, fb, bU, eb, vb, bX, bq, bs, h1, h2, h3, rfl, h4⟩ := h
 rw [hm2] at h3
 obtain ⟨b, c, rfl⟩ := Oz h3
 have SI := h2.tabs.len
 rw [h3] at SI
 obtain ⟨X, Y, rfl⟩ := Oz SI.symm
 obtain ⟨e1, e2, e3, e4, e5, _, e6⟩ := YA ho hp hT
 obtain ⟨m1, m2⟩ := gU (db := db) (rb := rb) (fb := fb) (eb := eb) (vb := vb) (ob := ob) (og := og) (bq := bq) (bs := [b, c]) (b := b) (by simp)
 obtain ⟨m3, m4⟩ := gU (db := db) (rb := rb) (fb := fb) (eb := eb) (vb := vb) (ob := ob) (og := og) (bq := bq) (bs := [b, c]) (b := c) (by simp)
 have hlts := h2.iF
 have hnl := h1.lt
 have adF : N.pfx ≤ 1000 := by
  have : 2 ^ N.au ≤ 2 ^ 5 := Nat.pow_le_pow_right (by decide) hdp
  omega
 refine (Le nb ob db rb cap og fb bU eb vb bX b.1 b.2 c.1 c.2 bq N.pfx N.au N.kind N.T [X, Y] N.each N.dep N.len w h1 h2 ho.pw.le rfl (fun q hq e => h4 (e ▸ hq)) (by omega) (by omega)).mono ?_
 rintro e w' ⟨qb, rfl, hb', hq', Xt, hts, hm⟩
 have hne := hts.ne 0 1 b c rfl rfl (by decide)
 refine ⟨qb, rfl, Xt, e6, X, Y, [nb, b.1, b.2], [qb, c.1, c.2], ?_, ?_, e1, e2, e3, e4, e5, fun q hq => ?_, fun q hq => ?_, fun q hq hq2 => ?_, hm.more (fun q hq => ?_)⟩
 ·refine ⟨b.1, b.2, ?_, hts.at_ 0 b X rfl rfl, rfl, fun e => h4 (e ▸ m1), fun e => h4 (e ▸ m2)⟩
  unfold ku
  simpa [nI, nU] using hb'
 ·refine ⟨c.1, c.2, ?_, hts.at_ 1 c Y rfl rfl, rfl, fun e => ?_, fun e => ?_⟩
  ·unfold ku
   simpa [nI, nU] using hq'
  ·have := hlts _ m3; omega
  ·have := hlts _ m4; omega
 ·simp at hq
  rcases hq with rfl | rfl | rfl
  ·simp
  ·simp [m1]
  ·simp [m2]
 ·simp at hq
  rcases hq with rfl | rfl | rfl
  ·exact .inr Xt
  ·exact .inl (by simp [m3])
  ·exact .inl (by simp [m4])
 ·simp at hq hq2
  have g1 := hlts _ m1
  have g2 := hlts _ m2
  rcases hq with rfl | rfl | rfl <;> rcases hq2 with e | e | e
  ·omega
  ·exact h4 (e ▸ m3)
  ·exact h4 (e ▸ m4)
  ·omega
  ·exact hne.1 e
  ·exact hne.2.1 e
  ·omega
  ·exact hne.2.2.1 e
  ·exact hne.2.2.2 e
 ·simp at hq
  rcases hq with rfl | rfl
  ·simp
  ·simp [aV]
end
end
section
variable {w : World} {jb qb rb sb : Nat} {b k : Int} {val : Nat → Value} {ids : List Nat}
def Qn (w : World) (p : Addr) : Nat := match w.cell? p with | some (.int _ n) => n.toNat | _ => 0
def Cn (sb qb : Nat) (w : World) : Nat := Qn w ⟨sb, 5, none⟩ + Qn w ⟨qb, 2, none⟩
theorem dS.meas {c : Nat} (h : dS w sb qb rb jb k (c : Int) val ids) : Cn sb qb w = c + ids.length := by
 obtain ⟨s, h1⟩ := h.blk
 obtain ⟨ring, first, h2⟩ := h.Bp
 have c5 := aj.cell h1 5
 have c2 := h2.blk.cell 2
 simp only [gl] at c5 c2
 unfold Cn Qn
 rw [c5, c2]
 simp
theorem qj (h : dS w sb qb rb jb k b val ids) : w.cell? ⟨sb, 3, none⟩ = some (pQ qb) ∧ w.cell? ⟨sb, 4, none⟩ = some (.map (some jb)) := by
 obtain ⟨s, h1⟩ := h.blk
 exact ⟨aj.cell h1 3, aj.cell h1 4⟩
theorem dS.head {id : Nat} (h : dS w sb qb rb jb k b val (id :: ids)) : Calls Tryz.prog 175 #[pQ qb] w fun e w' => e = .returned (.tuple #[nI id, .bool true]) ∧ w.drew = w' := by
 obtain ⟨ring, first, h2⟩ := h.Bp
 exact Qd qb rb ring first id ids w h2
theorem dS.YL (h : dS w sb qb rb jb k b val []) : Calls Tryz.prog 175 #[pQ qb] w fun e w' => e = .returned (.tuple #[.int .i64 0, .bool false]) ∧ w = w' := by
 obtain ⟨ring, first, h2⟩ := h.Bp
 exact JE qb rb ring first [] w h2
theorem dS.balance (h : dS w sb qb rb jb k b val ids) : Calls Tryz.prog 176 #[.pointer (some ⟨sb, 5, none⟩)] w fun e w' => e = .returned (.int .i64 b) ∧ w = w' := by
 obtain ⟨s, h1⟩ := h.blk
 exact Gq sb b w h1
theorem Bw {W0 : World} {E : Nat → Addr} {P : MP} {α : Type} {jt : Nat → TypeId} {ja : Nat → Addr} {At : World → List Nat → α → Prop} {can : α → Nat → Prop} {left : α → Nat → Nat} {Stp : α → Nat → α → Prop} (HP : iH W0 E P jt ja At can left Stp) (s : SP) (F : List Nat) (c0 : Nat) (hc : c0 ≤ 64) (ids : List Nat) (a : α) (x : bM) (hval : ∀ id, s.val id = .iface (jt id) (.pointer (some (ja id)))) (hcan : ∀ id ∈ ids, can a id ∧ id ≤ 1000) (w : World) (h : bG W0 E P At s w F w (c0 : Int) ids a F x) :
  Calls Tryz.prog 137 #[eu s.sb, lT P] w fun e w' => ∃ A cc ended aI a' F' x' b', e = .returned (.slice A ended.length cc) ∧ w'.ownsRow w.heap.size 3 1 (.slice A ended.length cc) ended.length (dz ended) ∧ qh left Stp c0 ids a ended aI a' ∧ bG W0 E P At s w F w' b' aI a' F' x' ∧ dI x x' 0 c0 ∧ mM P s F' (.slice A ended.length cc) := by
 have hval := qd hval
 have hlen := qd h.aC.many
 have H0 := qd h
 have D9 := qd hcan
 obtain ⟨F0, IX⟩ : ∃ F0, F0 = F := ⟨_, rfl⟩
 unfold eu lT
 clear h hcan
 rw [← IX] at H0 ⊢
 clear IX
 go_in
 go_wp2
 go_loopw [5, 6, 7] (fun v5 _ _ wr => ∃ (c : Nat) (bO e1 : List Nat) (a1 : α) (F1 : List Nat) (x1 : bM) (u : Nat), Hid (bG W0 E P At s w F0 wr (c : Int) bO a1 F1 x1) ∧ wr.ownsRow w.heap.size 3 1 v5 e1.length (dz e1) ∧ Hid (∀ e aI a', qh left Stp c bO a1 e aI a' → qh left Stp c0 ids a (e1 ++ e) aI a') ∧ (u + c = c0 ∧ e1.length + bO.length = ids.length) ∧ (∀ id ∈ bO, can a1 id ∧ id ≤ 1000) ∧ dI x x1 0 u ∧ Hid (mM P s F1 v5)) (fun _ _ _ wr => Cn s.sb s.qb wr)
 case atStart => exact ⟨c0, ids, [], a, F0, x, 0, H0, ⟨rfl, .inl ⟨rfl, rfl⟩⟩, qd (fun _ _ _ h => h), ⟨by omega, by simp⟩, D9.out, dI.refl x, qd (fun g hg => by cases hg)⟩
 case round =>
  obtain ⟨c, bO, e1, a1, F1, x1, u, HS, hO, hK, hu, hcan, XB, OA⟩ := hrel
  obtain ⟨A, vc, rfl⟩ := dJ hO
  have hE1 := HS.out.aC.many
  have HM0 := qd HS.out.aC.meas
  obtain ⟨hu, hE2⟩ := hu
  rcases bO with _ | ⟨id, bO⟩
  ·have HH := qd HS.out.aC.YL
   have HF := qd (hK.out _ _ _ (qh.nil c a1))
   have HO := qd hO
   have HC := qd XB
   have hu2 : u ≤ c0 := by omega
   obtain ⟨Dl, Dm⟩ := qj HS.out.aC
   clear hO XB hcan
   go_wp2_with fail
   refine HH.out.mono ?_
   rintro x w1 ⟨rfl, rfl⟩
   go_wp2
   go_ret
   exact ⟨A, vc, e1, [], a1, F1, x1, _, rfl, HO.out, by simpa [nI, nU] using HF.out, HS.out, HC.out.mono (Nat.le_refl _) hu2, OA.out⟩
  ·have HH := qd HS.out.aC.head
   obtain ⟨Dl, Dm⟩ := qj HS.out.aC
   have HO := qd hO
   have HC := qd XB
   have Qo := qd hcan
   have hlo := hO.lt
   clear hO XB hcan
   go_wp2_with fail
   refine HH.out.mono ?_
   rintro x w1 ⟨rfl, hdr⟩
   have hb1 : Below wr.heap.size wr w1 := hdr ▸ (Below.refl _ _).drew
   clear hdr
   replace HS := qd (HS.out.below HP hb1)
   replace HO := qB hb1 HO
   clear Dl Dm HH
   obtain ⟨Dl, Dm⟩ := qj HS.out.aC
   have HB := qd HS.out.aC.balance
   go_wp2_with fail
   refine HB.out.mono ?_
   rintro x w2 ⟨rfl, rfl⟩
   rcases c with _ | c
   ·have HF := qd (hK.out _ _ _ (qh.broke (id :: bO) a1))
    have hu2 : u ≤ c0 := by omega
    clear hK HB
    simp only [Int.ofNat_zero] at *
    go_wp2
    go_ret
    exact ⟨A, vc, e1, _, a1, F1, x1, _, rfl, HO.out, by simpa [nI, nU] using HF.out, HS.out, HC.out.mono (Nat.le_refl _) hu2, OA.out⟩
   ·have hc0 : ¬ ((c + 1 : Nat) : Int) = 0 := by omega
    have lU := Qo.out id (by simp)
    have hl := HP.zI HS.out.pool lU.1
    have HJ := qd (HP.LG lU.1)
    obtain ⟨Fl, wh⟩ : ∃ Fl, Fl = ji (jt id) := ⟨_, rfl⟩
    rw [← wh] at hl
    have IY := qd wh.symm
    have HL := qd hl
    have Dn := qd (vY id lU.2)
    have mD := qd HS.out.aC.map
    have HV := qd (show jk s.val (id :: bO) (id : Int) = some (.iface (jt id) (.pointer (some (ja id)))) from by rw [vX (by simp), hval.out])
    have hle := HP.le HS.out.pool lU.1
    have FB := qd lU
    obtain ⟨lf, hlf⟩ : ∃ lf, lf = left a1 id := ⟨_, rfl⟩
    rw [← hlf] at HL hle
    have iY := qd hlf
    clear hl wh lU HB hlf
    go_wp2_with (at_lookup; refine uP rfl _ _ rfl rfl mD.out _ rfl Dn.out _ HV.out ?_)
    rw [p9 HJ.out, Result.andThen_ok, qc HJ.out]
    rw [show ji (jt id) = Fl from IY.out]
    rw [Oper.upon_enter]
    refine HL.out.mono ?_
    rintro x w3 ⟨rfl, hb3⟩
    replace HS := qd (HS.out.below HP hb3)
    replace HO := qB hb3 HO
    replace mD := qd HS.out.aC.map
    have abu := HS.out.size
    clear HL Dl Dm hb3 IY
    obtain ⟨Dl, Dm⟩ := qj HS.out.aC
    rcases Nat.eq_zero_or_pos lf with h0 | h1
    ·subst h0
     have LM := qd (show left a1 id = 0 from iY.out.symm)
     have HR := qd (zJ HP s F0 F1 ((c + 1 : Nat) : Int) (id :: bO) a1 x1 id (by simp) FB.out.2 w3 HS.out)
     simp only [List.erase_cons_head] at HR
     simp only [Int.ofNat_zero] at *
     go_wp2_with fail
     refine HR.out.mono ?_
     rintro x w4 ⟨rfl, hs4, iO⟩
     have hO4 := jy HO.out iO (fun g hg hq => OA.out g hg (by simp [hq]))
     have XC := iO.size
     clear iO HS HO HR Dl Dm mD
     have aby := hs4.size
     have Sg := qd hs4
     clear hs4
     have ZY : e1.length + 1 ≤ 100 := by have := hlen.out; omega
     go_wp2_with (at_builtin; refine jP rfl rfl vV hO4 rfl rfl rfl rfl rfl (by omega) (by omega) ?_; intro v4 w5 dB gN; obtain ⟨A4, c4, rfl⟩ := dJ dB)
     obtain ⟨hs5, abF⟩ := Sg.out.app HP hO4 (Nat.le_refl _) OA.out gN
     go_roundw
     case rel => exact ⟨c + 1, bO, e1 ++ [id], a1, F1, x1, u, qd hs5, by simpa [dz] using dB, qd (fun e aI a' hh => by rw [List.append_assoc]; exact hK.out _ _ _ (.ended LM.out hh)), ⟨by omega, by simp at hE2 ⊢; omega⟩, fun i hi => Qo.out i (by simp [hi]), HC.out, qd (by simpa [nI, nU] using abF)⟩
     case measure =>
      rw [hs5.aC.meas, HM0.out]
      simp
    ·have hl1 : ¬ (lf : Int) < 1 := by omega
     have jg := qd (LH HP s F0 F1 c (by omega) (id :: bO) a1 x1 id FB.out.1 (by rw [← iY.out]; exact h1) w3 HS.out)
     unfold lT at jg
     go_wp2_with (at_lookup; refine uP rfl _ _ rfl rfl mD.out _ rfl Dn.out _ HV.out ?_)
     refine jg.out.mono ?_
     rintro x w4 ⟨rfl, a2, F2, x2, hst, hco, hs4, hF2, iO⟩
     have hO4 := jy HO.out iO OA.out
     have Z0 := OA.out.step HO.out hF2
     have Ea := qd (And.intro hs4 (And.intro hO4 (And.intro Z0 (And.intro hst hco))))
     have XC := iO.size
     clear hs4 hO4 Z0 hst hco iO hF2
     go_wp2
     go_roundw
     case rel => exact ⟨c, id :: bO, e1, a2, F2, x2, u + 1, qd Ea.out.1, Ea.out.2.1, qd (fun e aI a' hh => hK.out _ _ _ (.step (by rw [← iY.out]; exact h1) Ea.out.2.2.2.1 hh)), ⟨by omega, by omega⟩, fun i hi => ⟨HP.iU Ea.out.2.2.2.1 (Qo.out i hi).1, (Qo.out i hi).2⟩, (HC.out.trans Ea.out.2.2.2.2).mono (by omega) (by omega), qd Ea.out.2.2.1⟩
     case measure =>
      rw [Ea.out.1.aC.meas, HM0.out]
      omega
end
end Go.Proofs.YtbphcldoflekpaaGreatDoor
