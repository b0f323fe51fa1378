/- A node's other operations, told of its entries and its job. -/
import Derived.Test.YtfojgfddgplinabGreatDoorCoCC
import Derived.Test.YtfojgfddgplinabGreatDoorSqT
import Derived.Test.YtfojgfddgplinabGreatDoorLaneP
namespace Go.Proofs.YtfojgfddgplinabGreatDoor
set_option maxRecDepth 100000
set_option maxHeartbeats 4000000
open Go.RowKit dG
section
variable {a b f : av} {l' : List av} {o : Option av} {Ts : List aC}
def eT (f : av) (l : List av) : Option av → Prop
 | none => ∀ e ∈ l, bg e f = true
 | some m => m ∈ l ∧ bg m f = false ∧ ∀ e ∈ l, bg e f = false → bg e m = false
theorem FK {c : av} (h : bg a b = true) (k : bg b c = true) : bg a c = true := by
 simp [bg] at *; omega
theorem yh (a : av) : bg a a = false := by simp [bg]
theorem Lu {l : List av} (h : eT f l o) (e : av) : eT f (l ++ [e]) (mh f o e) := by
 unfold mh
 cases hl : bg e f with
 | true =>
  simp only [Bool.not_true, Bool.false_and, Bool.false_eq_true, if_false]
  cases o with
  | none =>
   intro x hx
   rcases List.mem_append.1 hx with h1 | h1
   ·exact h x h1
   ·simp at h1; subst h1; exact hl
  | some m =>
   refine ⟨List.mem_append_left _ h.1, h.2.1, fun x hx jR => ?_⟩
   rcases List.mem_append.1 hx with h1 | h1
   ·exact h.2.2 x h1 jR
   ·simp at h1; subst h1; rw [hl] at jR; cases jR
 | false =>
  cases o with
  | none =>
   simp only [Bool.not_false, Bool.true_and, if_true]
   refine ⟨by simp, hl, fun x hx jR => ?_⟩
   rcases List.mem_append.1 hx with h1 | h1
   ·rw [h x h1] at jR; cases jR
   ·simp at h1; subst h1; exact yh _
  | some m =>
   simp only [Bool.not_false, Bool.true_and]
   cases hm : bg e m with
   | true =>
    rw [if_pos rfl]
    refine ⟨by simp, hl, fun x hx jR => ?_⟩
    rcases List.mem_append.1 hx with h1 | h1
    ·cases hxe : bg x e with
     | false => rfl
     | true => have := h.2.2 x h1 jR; rw [FK hxe hm] at this; cases this
    ·simp at h1; subst h1; exact yh _
   | false =>
    rw [if_neg (by simp)]
    refine ⟨List.mem_append_left _ h.1, h.2.1, fun x hx jR => ?_⟩
    rcases List.mem_append.1 hx with h1 | h1
    ·exact h.2.2 x h1 jR
    ·simp at h1; subst h1; exact hm
theorem BK (f : av) : ∀ (es l : List av) (o : Option av), eT f l o → eT f (l ++ es) (dN f o es)
 | [], l, o, h => by simpa [dN] using h
 | e :: es, l, o, h => by
  have := BK f es (l ++ [e]) _ (Lu h e)
  simpa [dN] using this
theorem IQ (f : av) (es : List av) : eT f es (dN f none es) := by
 have := BK f es [] none (by intro e he; cases he)
 simpa using this
theorem Jv {l : List av} {o' : Option av} (h : eT f l o) (h' : eT f l' o') : eT f (l ++ l') (qZ o o') := by
 unfold qZ
 cases o' with
 | none =>
  cases o with
  | none =>
   intro x hx
   rcases List.mem_append.1 hx with h1 | h1
   ·exact h x h1
   ·exact h' x h1
  | some m =>
   refine ⟨List.mem_append_left _ h.1, h.2.1, fun x hx jR => ?_⟩
   rcases List.mem_append.1 hx with h1 | h1
   ·exact h.2.2 x h1 jR
   ·rw [h' x h1] at jR; cases jR
 | some e =>
  cases o with
  | none =>
   refine ⟨List.mem_append_right _ h'.1, h'.2.1, fun x hx jR => ?_⟩
   rcases List.mem_append.1 hx with h1 | h1
   ·rw [h x h1] at jR; cases jR
   ·exact h'.2.2 x h1 jR
  | some m =>
   simp only
   cases hm : bg e m with
   | true =>
    rw [if_pos rfl]
    refine ⟨List.mem_append_right _ h'.1, h'.2.1, fun x hx jR => ?_⟩
    rcases List.mem_append.1 hx with h1 | h1
    ·cases hxe : bg x e with
     | false => rfl
     | true => have := h.2.2 x h1 jR; rw [FK hxe hm] at this; cases this
    ·exact h'.2.2 x h1 jR
   | false =>
    rw [if_neg (by simp)]
    refine ⟨List.mem_append_left _ h.1, h.2.1, fun x hx jR => ?_⟩
    rcases List.mem_append.1 hx with h1 | h1
    ·exact h.2.2 x h1 jR
    ·cases hxm : bg x m with
     | false => rfl
     | true =>
      have h2 := h'.2.2 x h1 jR
      have : bg e m = true := by
       simp [bg] at *; omega
      rw [hm] at this; cases this
theorem Av (f : av) : ∀ (Ts : List aC) (l : List av) (o : Option av), eT f l o → eT f (l ++ cB Ts) (Ts.foldl (fun o T => qZ o (dN f none (aL T.gs))) o)
 | [], l, o, h => by simpa [cB] using h
 | T :: Ts, l, o, h => by
  have := Av f Ts (l ++ aL T.gs) _ (Jv h (IQ f (aL T.gs)))
  simpa [cB] using this
theorem FL (f : av) (Ts : List aC) : eT f (cB Ts) (fG f Ts) := by
 have := Av f Ts [] none (by intro e he; cases he)
 simpa [fG] using this
theorem gK.snoc {w : World} {bs : List (Nat × Nat)} {ob og : Nat} {T : aC} (h : gK w bs Ts) (hT : TabAt w ob og T) (h1 : ob ∉ fD bs) (h2 : og ∉ fD bs) : gK w (bs ++ [(ob, og)]) (Ts ++ [T]) := by
 have hcase : ∀ (i : Nat) (b : Nat × Nat), (bs ++ [(ob, og)])[i]? = some b → bs[i]? = some b ∨ (i = bs.length ∧ b = (ob, og)) := fun i b hb => by
  by_cases hi : i < bs.length
  ·rw [List.getElem?_append_left hi] at hb; exact .inl hb
  ·rw [List.getElem?_append_right (by omega)] at hb
   have h0 : i - bs.length = 0 := by
    have := (List.getElem?_eq_some_iff.1 hb).1
    simp at this; omega
   rw [h0] at hb
   simp at hb
   exact .inr ⟨by omega, hb.symm⟩
 refine ⟨by simp [h.len], fun i b X hb hX => ?_, fun i j b c hb hc hij => ?_⟩
 ·rcases hcase i b hb with h3 | ⟨rfl, rfl⟩
  ·rw [List.getElem?_append_left (by rw [← h.len]; exact (List.getElem?_eq_some_iff.1 h3).1)] at hX
   exact h.at_ i b X h3 hX
  ·rw [h.len, List.getElem?_append_right (Nat.le_refl _), Nat.sub_self] at hX
   cases hX
   exact hT
 ·have hf : ∀ b ∈ bs, b.1 ≠ ob ∧ b.1 ≠ og ∧ b.2 ≠ ob ∧ b.2 ≠ og := fun b hb =>
   ⟨fun e => h1 (e ▸ dK.2 ⟨b, hb, .inl rfl⟩), fun e => h2 (e ▸ dK.2 ⟨b, hb, .inl rfl⟩), fun e => h1 (e ▸ dK.2 ⟨b, hb, .inr rfl⟩), fun e => h2 (e ▸ dK.2 ⟨b, hb, .inr rfl⟩)⟩
  rcases hcase i b hb with h3 | ⟨rfl, rfl⟩ <;> rcases hcase j c hc with h4 | ⟨rfl, rfl⟩
  ·exact h.ne i j b c h3 h4 hij
  ·exact hf b (List.mem_of_getElem? h3)
  ·obtain ⟨a1, a2, a3, a4⟩ := hf c (List.mem_of_getElem? h4)
   exact ⟨a1.symm, a3.symm, a2.symm, a4.symm⟩
  ·exact absurd rfl hij
theorem ZE (d d' h : Nat) : dx 1 d h = dx 1 d' h := by unfold dx; rw [if_pos rfl, if_pos rfl]
theorem Vj (d d' : Nat) : sF 1 d = sF 1 d' := by funext st e; unfold sF; rw [ZE d d']
theorem WV (d d' : Nat) : ∀ (es : List av) (Ts : List aC), Fits 1 d Ts es → Fits 1 d' Ts es
 | [], _, _ => trivial
 | e :: es, Ts, h => by
  unfold Fits at h ⊢
  rw [ZE d' d]
  exact ⟨h.1, WV d d' es _ h.2⟩
theorem Vk {N : Nd} {es : List av} (h : Fits N.many N.au Ts es) : Fits N.many N.dep Ts es := by
 unfold Nd.dep
 split
 ·next h1 => rw [h1] at h ⊢; exact WV _ _ _ _ h
 ·exact h
theorem RZ (N : Nd) (st : bI × List aC) (es : List av) : dY N.many N.dep st es = dY N.many N.au st es := by
 unfold Nd.dep
 split
 ·next h1 => rw [h1]; unfold dY; rw [Vj]
 ·rfl
section
variable {W0 : World} {E : Nat → Addr} {H : Nat → Nat} {nb : Nat} {F : List Nat} {N : Nd} {P : MP} {x : bI} {w : World}
theorem ZF (h : bK w nb F N) : ∃ tb dv, aj w nb 142 (kC N tb dv) := by
 unfold bK at h
 split at h
 ·obtain ⟨tb, gb, h1, _⟩ := h; exact ⟨_, _, h1⟩
 ·obtain ⟨db, rb, cap, ob, og, bl, h1, _⟩ := h; exact ⟨_, _, h1⟩
 ·obtain ⟨db, rb, cap, ob, og, fb, bU, eb, vb, bX, bH, bs, h1, _⟩ := h; exact ⟨_, _, h1⟩
theorem IU (h : bK w nb F N) : Calls Tryz.prog 89 #[aN nb] w fun e w' => e = .returned (.tuple #[.int .i64 (N.pfx : Int), .int .i64 (N.au : Int)]) ∧ w.drew = w' := by
 obtain ⟨tb, dv, hb⟩ := ZF h
 exact M0 nb tb N.pfx N.au N.kind dv w hb
theorem Yb (h : bK w nb F N) (ho : dO H N) : Calls Tryz.prog 223 #[aN nb] w fun e w' => e = .returned (.int .i64 (N.left : Int)) ∧ Below w.heap.size w w' := by
 have hl := ho.pw.le
 have dw := ho.ph
 unfold lq at dw
 unfold bK at h
 unfold Nd.left
 cases hp : N.ph with
 | idle =>
  rw [hp] at h
  obtain ⟨tb, gb, h1, _⟩ := h
  exact (Jq nb tb N.pfx N.au N.kind w h1).mono fun e w' ⟨a, b⟩ => ⟨a, b ▸ Below.refl _ _⟩
 | mZ k =>
  rw [hp] at h
  obtain ⟨db, rb, cap, ob, og, bl, h1, h2, h3, _⟩ := h
  have := Jg db rb cap ob og bl N.T N.each N.dep k w h2 hl
  rw [h3] at this
  exact yY nb ob db N.pfx N.au N.kind _ (fun V V' => Below V.heap.size V V') w h1 this
 | iP Ts next =>
  rw [hp] at h dw
  obtain ⟨db, rb, cap, ob, og, fb, bU, eb, vb, bX, bH, bs, h1, h2, h3, _⟩ := h
  have := pJ db rb cap ob og fb bU eb vb bX bH bs N.T Ts N.each N.dep next w h2 hl dw.2.1
  exact (yY nb ob db N.pfx N.au N.kind _ (fun V V' => V.drew = V') w h1 this).mono fun e w' ⟨a, b⟩ => ⟨a, b ▸ (Below.refl _ _).drew⟩
theorem Jw (gl : Nat) (h : bK w nb F N) (hb : N.ph.busy = true) : Calls Tryz.prog 72 #[aN nb, .int .i64 (gl : Int)] w fun e w' => e = .returned (.tuple #[.int .i64 0, .bool false]) ∧ Below w.heap.size w w' := by
 unfold bK at h
 cases hp : N.ph with
 | idle => rw [hp] at hb; cases hb
 | mZ k =>
  rw [hp] at h
  obtain ⟨db, rb, cap, ob, og, bl, h1, _⟩ := h
  exact (xJ nb ob db N.pfx N.au N.kind gl w h1).mono fun e w' ⟨a, b⟩ => ⟨a, b ▸ Below.refl _ _⟩
 | iP Ts next =>
  rw [hp] at h
  obtain ⟨db, rb, cap, ob, og, fb, bU, eb, vb, bX, bH, bs, h1, _⟩ := h
  exact (xJ nb ob db N.pfx N.au N.kind gl w h1).mono fun e w' ⟨a, b⟩ => ⟨a, b ▸ Below.refl _ _⟩
theorem Jy (gl : Nat) (h : bK w nb F N) (ho : dO H N) (hi : N.ph = .idle) : Calls Tryz.prog 72 #[aN nb, .int .i64 (gl : Int)] w fun e w' => e = .returned (.tuple #[.int .i64 ((iw N.T.live N.T.bM N.len N.au gl : Nat) : Int), .bool (eP N.T.live N.T.bM N.len N.au gl)]) ∧ Below w.heap.size w w' := by
 unfold bK at h
 rw [hi] at h
 obtain ⟨tb, gb, h1, h2, _⟩ := h
 exact Gp nb tb gb N.au gl N.pfx N.kind N.T w h1 h2 ho.tg.ok
theorem Vl (gl kind : Nat) (hgl : gl ≤ 5) (h : bK w nb F N) (ho : dO H N) (hi : N.ph = .idle) (hk : iw N.T.live N.T.bM N.len N.au gl = kind) (h0 : kind ≠ 0) : Calls Tryz.prog 74 #[aN nb, .int .i64 (kind : Int)] w fun e w' => e = .returned .nilIface ∧ ∃ F', bK w' nb F' (N.start kind) ∧ (∀ q ∈ F', q ∈ F ∨ w.heap.size ≤ q) ∧ Mod [nb] w w' := by
 obtain ⟨hs, _⟩ := K5 ho hi hgl hk h0
 have dw := hs.ph
 have hK : jK (N.start kind) := dw.1
 obtain ⟨k1, k2, k3, k4, k5⟩ := iQ (N := N.start kind) ho.pw hK
 have hd := ho.deep
 have hd' : N.au < 5 ∨ (N.start kind).many = 1 ∧ N.au ≤ 5 := by
  rcases hK with h1 | h1 | h1
  ·exact .inr ⟨by unfold Nd.many; rw [h1]; rfl, hd⟩
  ·exact .inr ⟨by unfold Nd.many; rw [h1.1]; rfl, hd⟩
  ·exact .inl h1.2.2
 unfold bK at h
 rw [hi] at h
 obtain ⟨tb, gb, h1, h2, rfl, h3, h4⟩ := h
 refine (Pp nb tb gb kind (N.start kind).each (N.start kind).many N.au N.pfx N.kind N.T hd' w h1 h2 ho.tg.ok k1 k5 h3 h4).mono ?_
 rintro e w' ⟨rfl, db, hb, ⟨rb, cap, bl, l1, l2, l3, l4, nC⟩, hm⟩
 have hnl := h1.lt
 refine ⟨rfl, nb :: bD db rb tb gb bl, ?_, fun q hq => ?_, hm⟩
 ·unfold bK
  show ∃ db rb cap ob og bl, _
  refine ⟨db, rb, cap, tb, gb, bl, hb, nC, l4, rfl, fun hh => ?_⟩
  simp only [bD, List.mem_cons] at hh
  rcases hh with e | e | e | e | e
  ·omega
  ·omega
  ·exact h3 e
  ·exact h4 e
  ·have := l3 nb e; omega
 ·simp only [bD, List.mem_cons] at hq
  rcases hq with e | e | e | e | e | e
  ·exact .inl (by simp [e])
  ·exact .inr (by omega)
  ·exact .inr (by omega)
  ·exact .inl (by simp [e])
  ·exact .inl (by simp [e])
  ·exact .inr (l3 q e)
theorem Vm (key hash : Nat) (h : bK w nb F N) (ho : dO H N) (hM : aO w P x) (hE : Env W0 E w) (hb0 : W0.heap.size ≤ P.mb) (hF : P.mb ∉ F) :
  Calls Tryz.prog 86 #[aN nb, aJ (some ⟨P.mb, P.mo, none⟩) cP, .int .u64 (hash : Int), .int .u64 (key : Int)] w fun e w' => ∃ o x', e = .returned (gI o) ∧ eT ⟨key, 0, hash⟩ N.ents o ∧ aO w' P x' ∧ dJ x x' 192 0 ∧ Mod [P.mb] w w' := by
 have hl := ho.pw.le
 have dw := ho.ph
 unfold lq at dw
 unfold bK at h
 have fin : ∀ (w' : World) (n : Nat), Through (fun V V' => aO V' P (x.add cP n) ∧ Mod [P.mb] V V') w w' → n ≤ 192 → ∃ x', aO w' P x' ∧ dJ x x' 192 0 ∧ Mod [P.mb] w w' := fun w' n ht hn => by
  obtain ⟨h1, h2⟩ := ht.out (by simpa using hM.lt) (fun V' g hg hR hm => hR.mod hm (by have := hM.lt; simp; omega))
  exact ⟨_, h1, (y8 x n).mono hn (Nat.le_refl _), h2⟩
 cases hp : N.ph with
 | idle =>
  rw [hp] at h
  obtain ⟨tb, gb, h1, h2, rfl, h3, h4⟩ := h
  have hE' : N.ents = aL N.T.gs := by unfold Nd.ents; rw [hp]; rfl
  refine (Gl nb tb N.pfx N.au N.kind hash key P cP ((dN ⟨key, 0, hash⟩ none (aL N.T.gs)).getD ⟨0, 0, 0⟩) (dN ⟨key, 0, hash⟩ none (aL N.T.gs)).isSome [P.mb] (fun V V' => aO V' P (x.add cP N.T.gs.length) ∧ Mod [P.mb] V V') w h1 (by simpa using hM.lt) fun V hV => ?_).mono fun e w' ⟨a, b⟩ => ?_
  ·exact (Dn tb gb N.T P x cP hash key hl V (h2.below hV) (hM.below hV) (hE.next hV) (fun e => hF (by simp [e])) (fun e => hF (by simp [e])) hb0).mono fun e V' ⟨a, b, c⟩ => ⟨a, c, b, c⟩
  ·obtain ⟨x', c, d⟩ := fin w' _ b (by unfold Nd.len at hl; omega)
   exact ⟨_, x', a, by rw [hE']; exact IQ _ _, c, d⟩
 | mZ k =>
  rw [hp] at h
  obtain ⟨db, rb, cap, ob, og, bl, h1, h2, h3, rfl, h4⟩ := h
  have hE' : N.ents = cB [N.T] := by unfold Nd.ents; rw [hp]; simp [xK, cB]
  have mX : P.mb ≠ ob := fun e => hF (by simp [bD, e])
  have hog : P.mb ≠ og := fun e => hF (by simp [bD, e])
  refine (xI nb ob db N.pfx N.au N.kind hash key P cP ((fG ⟨key, 0, hash⟩ [N.T]).getD ⟨0, 0, 0⟩) (fG ⟨key, 0, hash⟩ [N.T]).isSome [P.mb] (fun V V' => aO V' P (x.add cP (ru [N.T])) ∧ Mod [P.mb] V V') w h1 (by simpa using hM.lt) fun V hV => ?_).mono fun e w' ⟨a, b⟩ => ?_
  ·have h2' := h2.mod (Mod.of_below hV []) (by simp)
   have hts : gK V [(ob, og)] [N.T] := by
    have := (gK.mk (w := V) (bs := []) (Ts := []) rfl (fun j b T hb => by simp at hb) (fun i j b c hb => by simp at hb)).snoc h2'.tab (by simp [fD]) (by simp [fD])
    simpa using this
   exact (Fv db ob 0 none [] (by simp) _ _ _ _ [(ob, og)] [N.T] P x cP hash key V h2'.blk ⟨by simp [ptrs], fun hh => by simp at hh⟩ rfl hts (fun T hT => by simp at hT; subst hT; exact hl) (hM.below hV) (hE.next hV) hb0 (fun b hb => by simp at hb; subst hb; exact ⟨mX, hog⟩)).mono fun e V' ⟨a, b, c⟩ => ⟨a, c, b, c⟩
  ·obtain ⟨x', c, d⟩ := fin w' _ b (by unfold ru; unfold Nd.len at hl; simp; omega)
   exact ⟨_, x', a, by rw [hE']; exact FL _ _, c, d⟩
 | iP Ts next =>
  rw [hp] at h dw
  obtain ⟨db, rb, cap, ob, og, fb, bU, eb, vb, bX, bH, bs, h1, h2, h3, rfl, h4⟩ := h
  obtain ⟨g1, g2, g3, g4, g5⟩ := dw
  obtain ⟨k1, k2, k3, k4, _⟩ := iQ ho.pw g1
  have hE' : N.ents = cB (Ts ++ [N.T]) := by unfold Nd.ents; rw [hp]; simp [xK, cB]
  have hg : ∀ T ∈ Ts ++ [N.T], T.gs.length ≤ 64 := fun T hT => by
   rcases List.mem_append.1 hT with h5 | h5
   ·obtain ⟨j, hj⟩ := List.getElem?_of_mem h5
    rw [(g3.tg j T hj).2]; exact k1.le
   ·simp at h5; subst h5; exact hl
  have hsum : ∀ l : List aC, (∀ T ∈ l, T.gs.length ≤ 64) → ru l ≤ 64 * l.length := fun l => by
   induction l with
   | nil => intro _; simp [ru]
   | cons T l ih =>
    intro hh
    have h6 := ih (fun X hX => hh X (by simp [hX]))
    have h7 := hh T (by simp)
    unfold ru at h6 ⊢
    simp only [List.map_cons, List.sum_cons, List.length_cons]
    omega
  have hs := hsum _ hg
  have hlen := g3.len
  rw [List.length_append, List.length_singleton, hlen] at hs
  refine (xI nb ob db N.pfx N.au N.kind hash key P cP ((fG ⟨key, 0, hash⟩ (Ts ++ [N.T])).getD ⟨0, 0, 0⟩) (fG ⟨key, 0, hash⟩ (Ts ++ [N.T])).isSome [P.mb] (fun V V' => aO V' P (x.add cP (ru (Ts ++ [N.T]))) ∧ Mod [P.mb] V V') w h1 (by simpa using hM.lt) fun V hV => ?_).mono fun e w' ⟨a, b⟩ => ?_
  ·have h2' := h2.mod (Mod.of_below hV []) (by simp)
   have hnd := h2.nd
   unfold aV at hnd
   simp only [List.nodup_cons, List.mem_cons, List.mem_append, not_or] at hnd
   obtain ⟨_, _, _, _, _, ⟨_, _, f8⟩, ⟨_, g8⟩, _⟩ := hnd
   have hts := h2'.tabs.snoc h2'.tab f8 g8
   exact (Fv db ob bU (some ⟨fb, 0, none⟩) (bs.map Prod.fst) (by rw [List.length_map]; omega) _ _ _ _ (bs ++ [(ob, og)]) (Ts ++ [N.T]) P x cP hash key V (by rw [List.length_map]; exact h2'.blk) (eF.reads h2'.fresh) (by simp) hts hg (hM.below hV) (hE.next hV) hb0 (fun b hb => by
    rcases List.mem_append.1 hb with h5 | h5
    ·obtain ⟨m1, m2⟩ := gM (db := db) (rb := rb) (fb := fb) (eb := eb) (vb := vb) (ob := ob) (og := og) (bH := bH) h5
     exact ⟨fun e => hF (by rw [e]; simp [m1]), fun e => hF (by rw [e]; simp [m2])⟩
    ·simp at h5; subst h5
     exact ⟨fun e => hF (by simp [aV, e]), fun e => hF (by simp [aV, e])⟩)).mono fun e V' ⟨a, b, c⟩ => ⟨a, c, b, c⟩
  ·obtain ⟨x', c, d⟩ := fin w' _ b (by omega)
   exact ⟨_, x', a, by rw [hE']; exact FL _ _, c, d⟩
theorem NW {α : Type} {l : List α} (h : l.length = 2) : ∃ a b, l = [a, b] := by
 match l, h with
 | [a, b], _ => exact ⟨a, b, rfl⟩
theorem BL {nb tb db : Nat} {pfx au job : Int} {R : World → Prop} (h : aj w nb 142 #[.int .i64 pfx, .int .i64 au, .pointer (some ⟨tb, 0, none⟩), .int .i64 job, .pointer (some ⟨db, 0, none⟩)]) (hc : Calls Tryz.prog 225 #[bZ db, .pointer (some ⟨P.mb, P.mo, none⟩)] w fun e w' => e = .returned (.bool true) ∧ R w') :
  Calls Tryz.prog 224 #[aN nb, .pointer (some ⟨P.mb, P.mo, none⟩)] w fun e w' => e = .returned (.bool true) ∧ R w' := Gn nb tb db pfx au job P (fun _ V' => R V') w h hc
theorem Yc (h : bK w nb F N) (ho : dO H N) (hl : 1 ≤ N.left) (hM : aO w P x) (hE : Env W0 E w) (hb0 : W0.heap.size ≤ P.mb) (hF : P.mb ∉ F) (WI : ∀ q ∈ F, W0.heap.size ≤ q) :
  Calls Tryz.prog 224 #[aN nb, lU P] w fun e w' => e = .returned (.bool true) ∧ ∃ F' x', bK w' nb F' N.step ∧ (∀ q ∈ F', q ∈ F ∨ w.heap.size ≤ q) ∧ aO w' P x' ∧ dJ x x' 0 1 ∧ Mod (P.mb :: F) w w' := by
 have hL := qy N
 have Po : N.step.dep = N.dep := by unfold Nd.dep; rw [hL.many, hL.au]
 have hcells : ∀ tb dv, kC N.step tb dv = kC N tb dv := fun tb dv => by unfold kC; rw [hL.pfx, hL.au, hL.kind]
 have dw := ho.ph
 unfold lq at dw
 unfold bK at h
 cases hp : N.ph with
 | idle => unfold Nd.left at hl; rw [hp] at hl; simp at hl
 | mZ k =>
  rw [hp] at h dw
  obtain ⟨db, rb, cap, ob, og, bl, h1, h2, h3, rfl, h4⟩ := h
  simp only [List.mem_cons, not_or] at hF
  have hst := Jl db rb cap ob og bl N.T N.each N.dep k P x w h2 hM hE hF.2 hb0 (fun q hq => WI q (by simp [hq]))
  refine (BL h1 hst).mono ?_
  rintro e w' ⟨rfl, hM', hm, hif⟩
  have JK : dJ x ((x.add cV 1).add (cU 1) 1) 0 1 := (Ls x 1).trans (ng _ 1)
  have hnb : nb ∉ P.mb :: bD db rb ob og bl := by simp only [List.mem_cons, not_or]; exact ⟨fun e => hF.1 e.symm, h4⟩
  have hblk := h1.mod hm hnb
  have hmod : Mod (P.mb :: nb :: bD db rb ob og bl) w w' := hm.more (fun q hq => by
   rcases List.mem_cons.1 hq with e | e
   ·simp [e]
   ·simp [e])
  by_cases hk : k + 1 = N.each * N.many
  ·have hP : N.step.ph = .iP (List.replicate N.many (dM N.each N.each)) 0 := by unfold Nd.step; rw [hp]; simp only; rw [if_pos hk]
   have hT : N.step.T = N.T := by unfold Nd.step; rw [hp]
   rw [if_pos (by rw [h3]; exact hk)] at hif
   obtain ⟨fb, bU, eb, vb, bX, nC, l1, l2, l3⟩ := hif
   have hnl := h1.lt
   have hin : ∀ q, q ∈ aV db rb fb eb vb ob og (bl.map fun b => b.1) (gL bl) → q ∈ bD db rb ob og bl ∨ w.heap.size ≤ q := fun q hq => by
    unfold aV at hq
    rw [List.mem_cons, List.mem_cons, List.mem_cons, List.mem_cons, List.mem_cons, List.mem_cons, List.mem_cons] at hq
    rcases hq with e | e | e | e | e | e | e | e
    ·exact .inl (by simp [bD, e])
    ·exact .inl (by simp [bD, e])
    ·exact .inr (by omega)
    ·exact .inr (by omega)
    ·exact .inr (by omega)
    ·exact .inl (by simp [bD, e])
    ·exact .inl (by simp [bD, e])
    ·have := xE e
     refine .inl ?_
     unfold bD
     rw [List.mem_cons, List.mem_cons, List.mem_cons, List.mem_cons]
     exact .inr (.inr (.inr (.inr this)))
   refine ⟨rfl, nb :: aV db rb fb eb vb ob og (bl.map fun b => b.1) (gL bl), _, ?_, fun q hq => ?_, hM', JK, hmod⟩
   ·unfold bK
    rw [hP, hT, hL.each, Po]
    refine ⟨db, rb, cap, ob, og, fb, bU, eb, vb, bX, bl.map fun b => b.1, gL bl, by rw [hcells]; exact hblk, by rw [← h3]; exact nC, by rw [hL.many, ← h3]; simp [gL], rfl, fun hh => ?_⟩
    rcases hin nb hh with e | e
    ·exact h4 e
    ·omega
   ·rcases List.mem_cons.1 hq with e | e
    ·exact .inl (by simp [e])
    ·rcases hin q e with e | e
     ·exact .inl (by simp [e])
     ·exact .inr e
  ·have hP : N.step.ph = .mZ (k + 1) := by unfold Nd.step; rw [hp]; simp only; rw [if_neg hk]
   have hT : N.step.T = N.T := by unfold Nd.step; rw [hp]
   rw [if_neg (by rw [h3]; exact hk)] at hif
   refine ⟨rfl, nb :: bD db rb ob og bl, _, ?_, fun q hq => .inl hq, hM', JK, hmod⟩
   unfold bK
   rw [hP, hT, hL.each, Po]
   exact ⟨db, rb, cap, ob, og, bl, by rw [hcells]; exact hblk, hif, by rw [hL.many]; exact h3, rfl, h4⟩
 | iP Ts next =>
  rw [hp] at h dw
  obtain ⟨db, rb, cap, ob, og, fb, bU, eb, vb, bX, bH, bs, h1, h2, h3, rfl, h4⟩ := h
  have hn : next < N.len := by unfold Nd.left at hl; rw [hp] at hl; simp only at hl; omega
  simp only [List.mem_cons, not_or] at hF
  obtain ⟨f1, f2, f3, f4, c, f5⟩ := ho.fits hp hn ((x.add (cU 1) 1).add cV 1)
  have hst := Jk db rb cap ob og fb bU eb vb bX bH bs N.T Ts N.each N.dep next P x w h2 ho.tg.ok hn (by rw [h3]; exact Vk f1) hM hE hF.2 hb0 (fun q hq => WI q (by simp [hq]))
  refine (BL h1 hst).mono ?_
  rintro e w' ⟨rfl, nC, hM', hm⟩
  rw [h3, RZ] at nC hM'
  rw [f5] at hM'
  have JK : dJ x (((x.add (cU 1) 1).add cV 1).add cV c) 0 1 := ((ng x 1).trans (Ls _ 1)).trans (Ls _ c)
  have hnb : nb ∉ P.mb :: aV db rb fb eb vb ob og bH bs := by simp only [List.mem_cons, not_or]; exact ⟨fun e => hF.1 e.symm, h4⟩
  have hP : N.step.ph = .iP (dY N.many N.au (xY, Ts) (bN (N.T.gs.getD next []))).2 (next + 1) := by unfold Nd.step; rw [hp]
  have hT : N.step.T = takeN N.T next 8 := by unfold Nd.step; rw [hp]
  refine ⟨rfl, nb :: aV db rb fb eb vb ob og bH bs, _, ?_, fun q hq => .inl hq, hM', JK, hm.more (fun q hq => by
   rcases List.mem_cons.1 hq with e | e
   ·simp [e]
   ·simp [e])⟩
  unfold bK
  rw [hP, hT, hL.each, Po, Iq _ _ xY ((x.add (cU 1) 1).add cV 1)]
  exact ⟨db, rb, cap, ob, og, fb, bU, eb, vb, bX, bH, bs, by rw [hcells]; exact h1.mod hm hnb, nC, by rw [hL.many]; exact h3, rfl, h4⟩
theorem PK (h : bK w nb F N) (ho : dO H N) (hb : N.ph.busy = true) (hl : N.left = 0) (hm1 : N.many = 1) :
  Calls Tryz.prog 128 #[aN nb] w fun e w' => e = .returned (.tuple #[.pointer none, .nilIface]) ∧ ∃ X F', bK w' nb F' ⟨N.pfx, N.au, 0, 0, X, .idle⟩ ∧ dO H ⟨N.pfx, N.au, 0, 0, X, .idle⟩ ∧ (Nd.mk N.pfx N.au 0 0 X .idle).ents = N.ents ∧ X.gs.length = N.each ∧ (∀ q ∈ F', q ∈ F) ∧ Mod F w w' := by
 obtain ⟨Ts, hp, hT⟩ := ended ho hb hl
 have dw := ho.ph
 unfold lq at dw
 unfold bK at h
 rw [hp] at h dw
 obtain ⟨db, rb, cap, ob, og, fb, bU, eb, vb, bX, bH, bs, h1, h2, h3, rfl, h4⟩ := h
 rw [hm1] at h3
 obtain ⟨b, rfl⟩ := List.length_eq_one_iff.1 h3
 have R3 := h2.tabs.len
 rw [h3] at R3
 obtain ⟨X, rfl⟩ := List.length_eq_one_iff.1 R3.symm
 obtain ⟨e1, e2, e3, _⟩ := X0 ho hp hT
 obtain ⟨m1, m2⟩ := gM (db := db) (rb := rb) (fb := fb) (eb := eb) (vb := vb) (ob := ob) (og := og) (bH := bH) (bs := [b]) (b := b) (by simp)
 refine (KW nb ob db rb cap og fb bU eb vb bX b.1 b.2 bH N.pfx N.au N.kind N.T [X] N.each N.dep N.len w h1 h2 ho.pw.le rfl (fun q hq e => h4 (e ▸ hq))).mono ?_
 rintro e w' ⟨rfl, hb', hts, hm⟩
 refine ⟨rfl, X, [nb, b.1, b.2], ?_, e1, e2, e3, fun q hq => ?_, hm.more (fun q hq => ?_)⟩
 ·exact ⟨b.1, b.2, hb', hts.at_ 0 b X rfl rfl, rfl, fun e => h4 (e ▸ m1), fun e => h4 (e ▸ m2)⟩
 ·simp at hq
  rcases hq with rfl | rfl | rfl
  ·simp
  ·simp [m1]
  ·simp [m2]
 ·simp at hq
  rcases hq with rfl | rfl
  ·simp
  ·simp [aV]
theorem PL (h : bK w nb F N) (ho : dO H N) (hb : N.ph.busy = true) (hl : N.left = 0) (hm2 : N.many = 2) :
  Calls Tryz.prog 128 #[aN nb] w fun e w' => ∃ qb, e = .returned (.tuple #[aN qb, .nilIface]) ∧ w.heap.size ≤ qb ∧ N.au < 5 ∧ ∃ X Y F' F2, bK w' nb F' ⟨2 * N.pfx, N.au + 1, 0, 0, X, .idle⟩ ∧ bK w' qb F2 ⟨2 * N.pfx + 1, N.au + 1, 0, 0, Y, .idle⟩ ∧ dO H ⟨2 * N.pfx, N.au + 1, 0, 0, X, .idle⟩ ∧ dO H ⟨2 * N.pfx + 1, N.au + 1, 0, 0, Y, .idle⟩ ∧
   (Nd.mk (2 * N.pfx) (N.au + 1) 0 0 X .idle).ents ++ (Nd.mk (2 * N.pfx + 1) (N.au + 1) 0 0 Y .idle).ents = N.ents ∧ X.gs.length = N.each ∧ Y.gs.length = N.each ∧ (∀ q ∈ F', q ∈ F) ∧ (∀ q ∈ F2, q ∈ F ∨ w.heap.size ≤ q) ∧ (∀ q ∈ F', q ∉ F2) ∧ Mod F w w' := by
 obtain ⟨Ts, hp, hT⟩ := ended ho hb hl
 have hpf := ho.pfx
 have hdp := ho.deep
 unfold bK at h
 rw [hp] at h
 obtain ⟨db, rb, cap, ob, og, fb, bU, eb, vb, bX, bH, bs, h1, h2, h3, rfl, h4⟩ := h
 rw [hm2] at h3
 obtain ⟨b, c, rfl⟩ := NW h3
 have R3 := h2.tabs.len
 rw [h3] at R3
 obtain ⟨X, Y, rfl⟩ := NW R3.symm
 obtain ⟨e1, e2, e3, e4, e5, _, e6⟩ := X3 ho hp hT
 obtain ⟨m1, m2⟩ := gM (db := db) (rb := rb) (fb := fb) (eb := eb) (vb := vb) (ob := ob) (og := og) (bH := bH) (bs := [b, c]) (b := b) (by simp)
 obtain ⟨m3, m4⟩ := gM (db := db) (rb := rb) (fb := fb) (eb := eb) (vb := vb) (ob := ob) (og := og) (bH := bH) (bs := [b, c]) (b := c) (by simp)
 have hlts := h2.fQ
 have hnl := h1.lt
 have ade : N.pfx ≤ 1000 := by
  have : 2 ^ N.au ≤ 2 ^ 5 := Nat.pow_le_pow_right (by decide) hdp
  omega
 refine (KX nb ob db rb cap og fb bU eb vb bX b.1 b.2 c.1 c.2 bH N.pfx N.au N.kind N.T [X, Y] N.each N.dep N.len w h1 h2 ho.pw.le rfl (fun q hq e => h4 (e ▸ hq)) (by omega) (by omega)).mono ?_
 rintro e w' ⟨qb, rfl, hb', hq', WM, hts, hm⟩
 have hne := hts.ne 0 1 b c rfl rfl (by decide)
 refine ⟨qb, rfl, WM, e6, X, Y, [nb, b.1, b.2], [qb, c.1, c.2], ?_, ?_, e1, e2, e3, e4, e5, fun q hq => ?_, fun q hq => ?_, fun q hq hq2 => ?_, hm.more (fun q hq => ?_)⟩
 ·refine ⟨b.1, b.2, ?_, hts.at_ 0 b X rfl rfl, rfl, fun e => h4 (e ▸ m1), fun e => h4 (e ▸ m2)⟩
  unfold kC
  simpa using hb'
 ·refine ⟨c.1, c.2, ?_, hts.at_ 1 c Y rfl rfl, rfl, fun e => ?_, fun e => ?_⟩
  ·unfold kC
   simpa using hq'
  ·have := hlts _ m3; omega
  ·have := hlts _ m4; omega
 ·simp at hq
  rcases hq with rfl | rfl | rfl
  ·simp
  ·simp [m1]
  ·simp [m2]
 ·simp at hq
  rcases hq with rfl | rfl | rfl
  ·exact .inr WM
  ·exact .inl (by simp [m3])
  ·exact .inl (by simp [m4])
 ·simp at hq hq2
  have g1 := hlts _ m1
  have g2 := hlts _ m2
  rcases hq with rfl | rfl | rfl <;> rcases hq2 with e | e | e
  ·omega
  ·exact h4 (e ▸ m3)
  ·exact h4 (e ▸ m4)
  ·omega
  ·exact hne.1 e
  ·exact hne.2.1 e
  ·omega
  ·exact hne.2.2.1 e
  ·exact hne.2.2.2 e
 ·simp at hq
  rcases hq with rfl | rfl
  ·simp
  ·simp [aV]
end
end
section
variable {w : World} {jb qb rb sb : Nat} {b k : Int} {val : Nat → Value} {ids : List Nat}
def PN (w : World) (p : Addr) : Nat := match w.cell? p with | some (.int _ n) => n.toNat | _ => 0
def CB (sb qb : Nat) (w : World) : Nat := PN w ⟨sb, 5, none⟩ + PN w ⟨qb, 2, none⟩
theorem dR.meas {c : Nat} (h : dR w sb qb rb jb k (c : Int) val ids) : CB sb qb w = c + ids.length := by
 obtain ⟨s, h1⟩ := h.blk
 obtain ⟨ring, first, h2⟩ := h.BG
 have c5 := aj.cell h1 5
 have c2 := h2.blk.cell 2
 simp only [gl] at c5 c2
 unfold CB PN
 rw [c5, c2]
 simp
theorem qD (h : dR w sb qb rb jb k b val ids) : w.cell? ⟨sb, 3, none⟩ = some (.pointer (some ⟨qb, 0, none⟩)) ∧ w.cell? ⟨sb, 4, none⟩ = some (.map (some jb)) := by
 obtain ⟨s, h1⟩ := h.blk
 exact ⟨aj.cell h1 3, aj.cell h1 4⟩
theorem dR.head {id : Nat} (h : dR w sb qb rb jb k b val (id :: ids)) : Calls Tryz.prog 160 #[.pointer (some ⟨qb, 0, none⟩)] w fun e w' => e = .returned (.tuple #[.int .i64 (id : Int), .bool true]) ∧ w.drew = w' := by
 obtain ⟨ring, first, h2⟩ := h.BG
 exact Pv qb rb ring first id ids w h2
theorem dR.Yd (h : dR w sb qb rb jb k b val []) : Calls Tryz.prog 160 #[.pointer (some ⟨qb, 0, none⟩)] w fun e w' => e = .returned (.tuple #[.int .i64 0, .bool false]) ∧ w = w' := by
 obtain ⟨ring, first, h2⟩ := h.BG
 exact Jr qb rb ring first [] w h2
theorem dR.balance (h : dR w sb qb rb jb k b val ids) : Calls Tryz.prog 161 #[.pointer (some ⟨sb, 5, none⟩)] w fun e w' => e = .returned (.int .i64 b) ∧ w = w' := by
 obtain ⟨s, h1⟩ := h.blk
 exact Gu sb b w h1
theorem BM {W0 : World} {E : Nat → Addr} {P : MP} {α : Type} {jt : Nat → TypeId} {ja : Nat → Addr} {At : World → List Nat → α → Prop} {can : α → Nat → Prop} {left : α → Nat → Nat} {Stp : α → Nat → α → Prop} (HP : iA W0 E P jt ja At can left Stp) (s : SP) (F : List Nat) (c0 : Nat) (hc : c0 ≤ 64) (ids : List Nat) (a : α) (x : bI) (hval : ∀ id, s.val id = .iface (jt id) (.pointer (some (ja id)))) (hcan : ∀ id ∈ ids, can a id ∧ id ≤ 1000) (w : World) (h : bB W0 E P At s w F w (c0 : Int) ids a F x) :
  Calls Tryz.prog 121 #[eu s.sb, lU P] w fun e w' => ∃ A cc ended aI a' F' x' b', e = .returned (.slice A ended.length cc) ∧ w'.ownsRow w.heap.size 3 1 (.slice A ended.length cc) ended.length (bR ended) ∧ qC left Stp c0 ids a ended aI a' ∧ bB W0 E P At s w F w' b' aI a' F' x' ∧ dJ x x' 0 c0 ∧ mM P s F' (.slice A ended.length cc) := by
 have hval := qd hval
 have hlen := qd h.aB.many
 have H0 := qd h
 have Ed := qd hcan
 obtain ⟨F0, IV⟩ : ∃ F0, F0 = F := ⟨_, rfl⟩
 unfold eu lU
 clear h hcan
 rw [← IV] at H0 ⊢
 clear IV
 go_in
 go_wp2
 go_loopw [5, 6, 7] (fun v5 _ _ wr => ∃ (c : Nat) (bG e1 : List Nat) (a1 : α) (F1 : List Nat) (x1 : bI) (u : Nat), Hid (bB W0 E P At s w F0 wr (c : Int) bG a1 F1 x1) ∧ wr.ownsRow w.heap.size 3 1 v5 e1.length (bR e1) ∧ Hid (∀ e aI a', qC left Stp c bG a1 e aI a' → qC left Stp c0 ids a (e1 ++ e) aI a') ∧ (u + c = c0 ∧ e1.length + bG.length = ids.length) ∧ (∀ id ∈ bG, can a1 id ∧ id ≤ 1000) ∧ dJ x x1 0 u ∧ Hid (mM P s F1 v5)) (fun _ _ _ wr => CB s.sb s.qb wr)
 case atStart => exact ⟨c0, ids, [], a, F0, x, 0, H0, ⟨rfl, .inl ⟨rfl, rfl⟩⟩, qd (fun _ _ _ h => h), ⟨by omega, by simp⟩, Ed.out, dJ.refl x, qd (fun g hg => by cases hg)⟩
 case round =>
  obtain ⟨c, bG, e1, a1, F1, x1, u, HS, hO, hK, hu, hcan, WW, NY⟩ := hrel
  obtain ⟨A, vc, rfl⟩ := dB hO
  have hE1 := HS.out.aB.many
  have HM0 := qd HS.out.aB.meas
  obtain ⟨hu, hE2⟩ := hu
  rcases bG with _ | ⟨id, bG⟩
  ·have HH := qd HS.out.aB.Yd
   have HF := qd (hK.out _ _ _ (qC.nil c a1))
   have HO := qd hO
   have HC := qd WW
   have hu2 : u ≤ c0 := by omega
   obtain ⟨Dw, Dx⟩ := qD HS.out.aB
   clear hO WW hcan
   go_wp2_with fail
   refine HH.out.mono ?_
   rintro x w1 ⟨rfl, rfl⟩
   go_wp2
   go_ret
   exact ⟨A, vc, e1, [], a1, F1, x1, _, rfl, HO.out, by simpa using HF.out, HS.out, HC.out.mono (Nat.le_refl _) hu2, NY.out⟩
  ·have HH := qd HS.out.aB.head
   obtain ⟨Dw, Dx⟩ := qD HS.out.aB
   have HO := qd hO
   have HC := qd WW
   have PO := qd hcan
   have hlo := hO.lt
   clear hO WW hcan
   go_wp2_with fail
   refine HH.out.mono ?_
   rintro x w1 ⟨rfl, hdr⟩
   have hb1 : Below wr.heap.size wr w1 := hdr ▸ (Below.refl _ _).drew
   clear hdr
   replace HS := qd (HS.out.below HP hb1)
   replace HO := qB hb1 HO
   clear Dw Dx HH
   obtain ⟨Dw, Dx⟩ := qD HS.out.aB
   have HB := qd HS.out.aB.balance
   go_wp2_with fail
   refine HB.out.mono ?_
   rintro x w2 ⟨rfl, rfl⟩
   rcases c with _ | c
   ·have HF := qd (hK.out _ _ _ (qC.broke (id :: bG) a1))
    have hu2 : u ≤ c0 := by omega
    clear hK HB
    simp only [Int.ofNat_zero] at *
    go_wp2
    go_ret
    exact ⟨A, vc, e1, _, a1, F1, x1, _, rfl, HO.out, by simpa using HF.out, HS.out, HC.out.mono (Nat.le_refl _) hu2, NY.out⟩
   ·have hc0 : ¬ ((c + 1 : Nat) : Int) = 0 := by omega
    have lV := PO.out id (by simp)
    have hl := HP.zQ HS.out.pool lV.1
    have HJ := qd (HP.Lp lV.1)
    obtain ⟨Fl, wG⟩ : ∃ Fl, Fl = jh (jt id) := ⟨_, rfl⟩
    rw [← wG] at hl
    have IW := qd wG.symm
    have HL := qd hl
    have Dy := qd (wF id lV.2)
    have mE := qd HS.out.aB.map
    have HV := qd (show ji s.val (id :: bG) (id : Int) = some (.iface (jt id) (.pointer (some (ja id)))) from by rw [wE (by simp), hval.out])
    have hle := HP.le HS.out.pool lV.1
    have FM := qd lV
    obtain ⟨lf, hlf⟩ : ∃ lf, lf = left a1 id := ⟨_, rfl⟩
    rw [← hlf] at HL hle
    have iX := qd hlf
    clear hl wG lV HB hlf
    go_wp2_with (at_lookup; refine uY rfl _ _ rfl rfl mE.out _ rfl Dy.out _ HV.out ?_)
    rw [qz HJ.out, Result.andThen_ok, qA HJ.out]
    rw [show jh (jt id) = Fl from IW.out]
    rw [Oper.upon_enter]
    refine HL.out.mono ?_
    rintro x w3 ⟨rfl, hb3⟩
    replace HS := qd (HS.out.below HP hb3)
    replace HO := qB hb3 HO
    replace mE := qd HS.out.aB.map
    have aa6 := HS.out.size
    clear HL Dw Dx hb3 IW
    obtain ⟨Dw, Dx⟩ := qD HS.out.aB
    rcases Nat.eq_zero_or_pos lf with h0 | h1
    ·subst h0
     have Lv := qd (show left a1 id = 0 from iX.out.symm)
     have HR := qd (zR HP s F0 F1 ((c + 1 : Nat) : Int) (id :: bG) a1 x1 id (by simp) FM.out.2 w3 HS.out)
     simp only [List.erase_cons_head] at HR
     simp only [Int.ofNat_zero] at *
     go_wp2_with fail
     refine HR.out.mono ?_
     rintro x w4 ⟨rfl, hs4, jy⟩
     have hO4 := fH HO.out jy (fun g hg hq => NY.out g hg (by simp [hq]))
     have WX := jy.size
     clear jy HS HO HR Dw Dx mE
     have abb := hs4.size
     have Zl := qd hs4
     clear hs4
     have ZG : e1.length + 1 ≤ 100 := by have := hlen.out; omega
     go_wp2_with (at_builtin; refine iZ rfl rfl wD hO4 rfl rfl rfl rfl rfl (by omega) (by omega) ?_; intro v4 w5 dF gH; obtain ⟨A4, c4, rfl⟩ := dB dF)
     obtain ⟨hs5, abl⟩ := Zl.out.app HP hO4 (Nat.le_refl _) NY.out gH
     go_roundw
     case rel => exact ⟨c + 1, bG, e1 ++ [id], a1, F1, x1, u, qd hs5, by simpa [bR] using dF, qd (fun e aI a' hh => by rw [List.append_assoc]; exact hK.out _ _ _ (.ended Lv.out hh)), ⟨by omega, by simp at hE2 ⊢; omega⟩, fun i hi => PO.out i (by simp [hi]), HC.out, qd (by simpa using abl)⟩
     case measure =>
      rw [hs5.aB.meas, HM0.out]
      simp
    ·have hl1 : ¬ (lf : Int) < 1 := by omega
     have kN := qd (Lr HP s F0 F1 c (by omega) (id :: bG) a1 x1 id FM.out.1 (by rw [← iX.out]; exact h1) w3 HS.out)
     unfold lU at kN
     go_wp2_with (at_lookup; refine uY rfl _ _ rfl rfl mE.out _ rfl Dy.out _ HV.out ?_)
     refine kN.out.mono ?_
     rintro x w4 ⟨rfl, a2, F2, x2, hst, hco, hs4, hF2, jy⟩
     have hO4 := fH HO.out jy NY.out
     have ZH := NY.out.step HO.out hF2
     have Ee := qd (And.intro hs4 (And.intro hO4 (And.intro ZH (And.intro hst hco))))
     have WX := jy.size
     clear hs4 hO4 ZH hst hco jy hF2
     go_wp2
     go_roundw
     case rel => exact ⟨c, id :: bG, e1, a2, F2, x2, u + 1, qd Ee.out.1, Ee.out.2.1, qd (fun e aI a' hh => hK.out _ _ _ (.step (by rw [← iX.out]; exact h1) Ee.out.2.2.2.1 hh)), ⟨by omega, by omega⟩, fun i hi => ⟨HP.fU Ee.out.2.2.2.1 (PO.out i hi).1, (PO.out i hi).2⟩, (HC.out.trans Ee.out.2.2.2.2).mono (by omega) (by omega), qd Ee.out.2.2.1⟩
     case measure =>
      rw [Ee.out.1.aB.meas, HM0.out]
      omega
end
end Go.Proofs.YtfojgfddgplinabGreatDoor
