/- A node's Find, Put, Delete, told of its entries. -/
import Derived.Test.YtcgjgfgkdoohlaaGreatDoorCoBH
import Derived.Test.YtcgjgfgkdoohlaaGreatDoorSqT
import Derived.Test.YtcgjgfgkdoohlaaGreatDoorCoBU
namespace Go.Proofs.YtcgjgfgkdoohlaaGreatDoor
open Go.RowKit AmC
variable {c l : Cnt} {cnt gX key p tX : Nat} {V w' : World} {TX : TabM} {S : List Nat}
theorem plusN_p (hp : c.p = (p : Int)) (h : 0 ≤ l.p) : ∀ n, 0 ≤ (plusN l c n).p ∧ (plusN l c n).p ≤ l.p + (p * n : Nat)
 | 0 => ⟨h, by show l.p ≤ _; omega⟩
 | n + 1 => by
  obtain ⟨h1, h2⟩ := plusN_p hp h n
  show 0 ≤ sumI _ _ ∧ sumI _ _ ≤ _
  rw [hp, Nat.mul_succ]
  unfold sumI clampI
  generalize (plusN l c n).p = a at *
  generalize p * n = b at *
  omega
theorem plusN_u (hp : c.u = (p : Int)) (h : 0 ≤ l.u) : ∀ n, 0 ≤ (plusN l c n).u ∧ (plusN l c n).u ≤ l.u + (p * n : Nat)
 | 0 => ⟨h, by show l.u ≤ _; omega⟩
 | n + 1 => by
  obtain ⟨h1, h2⟩ := plusN_u hp h n
  show 0 ≤ sumI _ _ ∧ sumI _ _ ≤ _
  rw [hp, Nat.mul_succ]
  unfold sumI clampI
  generalize (plusN l c n).u = a at *
  generalize p * n = b at *
  omega
theorem cost_P (x : Mtr) (n : Nat) : Cost x (x.add cP n) n 0 := fun h1 h2 => by
 obtain ⟨a, b⟩ := plusN_p (c := cP) (p := 1) rfl h1 n
 obtain ⟨c, d⟩ := plusN_u (c := cP) (p := 0) rfl h2 n
 exact ⟨a, by simpa [Mtr.add] using b, c, by simpa [Mtr.add] using d⟩
theorem cost_V (x : Mtr) (n : Nat) : Cost x (x.add cV n) 0 0 := fun h1 h2 => by
 obtain ⟨a, b⟩ := plusN_p (c := cV) (p := 0) rfl h1 n
 obtain ⟨c, d⟩ := plusN_u (c := cV) (p := 0) rfl h2 n
 exact ⟨a, by simpa [Mtr.add] using b, c, by simpa [Mtr.add] using d⟩
theorem cost_U (x : Mtr) (k : Nat) : Cost x (x.add (cU (k : Int)) 1) 0 k := fun h1 h2 => by
 obtain ⟨a, b⟩ := plusN_p (c := cU (k : Int)) (p := 0) rfl h1 1
 obtain ⟨c, d⟩ := plusN_u (c := cU (k : Int)) (p := k) rfl h2 1
 exact ⟨a, by simpa [Mtr.add] using b, c, by simpa [Mtr.add] using d⟩
theorem below2 {w U : World} (h : Below w.heap.size w V) (k : Below V.heap.size V U) : Below w.heap.size w U := ((Mod.of_below h []).trans (Mod.of_below k []) (by simp) (by simp)).to_below
theorem SeekTo.next {w : World} {db hash : Nat} {P : MP} {x : Mtr} (h : SeekTo w db P x c key hash tX gX TX cnt) (hV : Below w.heap.size w V) : SeekTo V db P x c key hash tX gX TX cnt := fun U hU => h U (below2 hV hU)
theorem Through.out {w : World} {R : World → Prop} (h : Through (fun V V' => R V' ∧ Mod S V V') w w') (hS : ∀ k ∈ S, k < w.heap.size) (hR : ∀ (V' : World) (g : Nat), w.heap.size ≤ g → R V' → Mod [g] V' w' → R w') : R w' ∧ Mod S w w' := by
 obtain ⟨V, V', g, h1, ⟨h2, h3⟩, h4, h5, h6⟩ := h
 exact ⟨hR V' g h4 h2 h6, ((Mod.of_below h1 S).then h3).trans h6 (fun _ hh _ => hh) (fun q hq hl => by simp at hq; omega)⟩
section
variable {W0 : World} {E : Nat → Addr} {H : Nat → Nat} {nb : Nat} {F : List Nat} {N : Nd} {P : MP} {x : Mtr} {w : World}
theorem whr_found (ho : NOk H N) (h : Whr w H nb F N P x c key tX gX cnt TX) : foundE TX.gs key (H key) = look N.ents key := by
 unfold foundE
 rcases h.key_ with ⟨e, he, hk, hh, i, s, h1, h2⟩ | ⟨h1, _, h2, _⟩
 ·rw [h1, ← hk, look_some ho.keys he]
  show some ((slotAt TX.gs i s).ent) = some e
  rw [h2]; rfl
 ·rw [h2, look_none h1]; rfl
theorem nd_Find (key : Nat) (h : NdAt w nb F N) (ho : NOk H N) (h64 : H key < 18446744073709551616) (hM : MetP w P x) (hE : Env W0 E w) (hb0 : W0.heap.size ≤ P.mb) (hF : P.mb ∉ F) :
  Calls Tryz.prog 52 #[nodeP nb, lensV (some ⟨P.mb, P.mo, none⟩) cP, .int .u64 (key : Int), .int .u64 (H key : Int)] w fun e w' => e = .returned (optE (look N.ents key)) ∧ ∃ x', MetP w' P x' ∧ Cost x x' 128 0 ∧ Mod [P.mb] w w' := by
 obtain ⟨tX, gX, cnt, TX, W⟩ := nd_where cP key h ho h64 hM hE hb0 hF
 have hfd := whr_found ho W
 have hmt : P.mb ≠ tX := fun e => hF (e ▸ W.inT)
 have hmg : P.mb ≠ gX := fun e => hF (e ▸ W.inG)
 have fin : ∀ w', Through (fun V V' => MetP V' P (x.add cP cnt) ∧ Mod [P.mb] V V') w w' → ∃ x', MetP w' P x' ∧ Cost x x' 128 0 ∧ Mod [P.mb] w w' := fun w' ht => by
  obtain ⟨h1, h2⟩ := ht.out (by simpa using hM.lt) (fun V' g hg hR hm => hR.mod hm (by have := hM.lt; simp; omega))
  exact ⟨_, h1, (cost_P x cnt).mono W.cnt_ (Nat.le_refl _), h2⟩
 rcases W.call with ⟨hb, hc⟩ | ⟨tb, db, hb, hS⟩
 ·refine (node_Find_tab nb tX N.pfx N.dpt N.kind key (H key) P cP ((look N.ents key).getD ⟨0, 0, 0⟩) (look N.ents key).isSome [P.mb] (fun V V' => MetP V' P (x.add cP cnt) ∧ Mod [P.mb] V V') w hb (by simpa using hM.lt) fun V hV => ?_).mono fun e w' ⟨h1, h2⟩ => ⟨h1, fin w' h2⟩
  refine (table_Find tX gX TX P.mb P.mt P.pre P.post P.mo x.all x.last P.m cP key (H key) V (W.tab.below hV) W.tg.ok.pow h64 (hM.below hV) hmt hmg (hE.next hV).tz (by have := hE.tzlt; omega)).mono fun e V' ⟨h1, h2, h3⟩ => ⟨?_, h3, ?_, h3⟩
  ·rw [h1, hfd]; rfl
  ·rw [hc]; exact h2
 ·refine (node_Find_dual nb tb db N.pfx N.dpt N.kind key (H key) P cP ((look N.ents key).getD ⟨0, 0, 0⟩) (look N.ents key).isSome [P.mb] (fun V V' => MetP V' P (x.add cP cnt) ∧ Mod [P.mb] V V') w hb (by simpa using hM.lt) fun V hV => ?_).mono fun e w' ⟨h1, h2⟩ => ⟨h1, fin w' h2⟩
  refine (dual_Find db tX gX cnt TX P x cP key (H key) V (hS.next hV) (W.tab.below hV) (hM.below hV).lt hmt hmg).mono fun e V' ⟨h1, h2, h3⟩ => ⟨?_, h3, h2, h3⟩
  rw [h1, hfd]; rfl
theorem nd_Delete_none (key : Nat) (h : NdAt w nb F N) (ho : NOk H N) (h64 : H key < 18446744073709551616) (hM : MetP w P x) (hE : Env W0 E w) (hb0 : W0.heap.size ≤ P.mb) (hF : P.mb ∉ F) (hk : ∀ e ∈ N.ents, e.key ≠ key) :
  Calls Tryz.prog 33 #[nodeP nb, lensV (some ⟨P.mb, P.mo, none⟩) cP, .int .u64 (key : Int), .int .u64 (H key : Int)] w fun e w' => e = .returned (optE none) ∧ ∃ x', MetP w' P x' ∧ Cost x x' 128 0 ∧ Mod [P.mb] w w' := by
 obtain ⟨tX, gX, cnt, TX, W⟩ := nd_where cP key h ho h64 hM hE hb0 hF
 have hmt : P.mb ≠ tX := fun e => hF (e ▸ W.inT)
 have hmg : P.mb ≠ gX := fun e => hF (e ▸ W.inG)
 have hsk : (seek TX.gs key (H key)).1 = none := by
  rcases W.key_ with ⟨e, he, hk', _⟩ | ⟨_, _, h2, _⟩
  ·exact absurd hk' (hk e he)
  ·exact h2
 have fin : ∀ w', Through (fun V V' => MetP V' P (x.add cP cnt) ∧ Mod [P.mb] V V') w w' → ∃ x', MetP w' P x' ∧ Cost x x' 128 0 ∧ Mod [P.mb] w w' := fun w' ht => by
  obtain ⟨h1, h2⟩ := ht.out (by simpa using hM.lt) (fun V' g hg hR hm => hR.mod hm (by have := hM.lt; simp; omega))
  exact ⟨_, h1, (cost_P x cnt).mono W.cnt_ (Nat.le_refl _), h2⟩
 rcases W.call with ⟨hb, hc⟩ | ⟨tb, db, hb, hS⟩
 ·refine (node_Delete_tab nb tX N.pfx N.dpt N.kind key (H key) P cP ⟨0, 0, 0⟩ false [P.mb] (fun V V' => MetP V' P (x.add cP cnt) ∧ Mod [P.mb] V V') w hb (by simpa using hM.lt) fun V hV => ?_).mono fun e w' ⟨h1, h2⟩ => ⟨h1, fin w' h2⟩
  refine (table_Delete_none tX gX TX P.mb P.mt P.pre P.post P.mo x.all x.last P.m cP key (H key) V (W.tab.below hV) W.tg.ok.pow h64 (hM.below hV) hmt hmg (hE.next hV).tz (by have := hE.tzlt; omega) hsk).mono fun e V' ⟨h1, _, h2, h3⟩ => ⟨h1, h3, ?_, h3⟩
  rw [hc]; exact h2
 ·refine (node_Delete_dual nb tb db N.pfx N.dpt N.kind key (H key) P cP ⟨0, 0, 0⟩ false [P.mb] (fun V V' => MetP V' P (x.add cP cnt) ∧ Mod [P.mb] V V') w hb (by simpa using hM.lt) fun V hV => ?_).mono fun e w' ⟨h1, h2⟩ => ⟨h1, fin w' h2⟩
  exact (dual_Delete_none db tX gX cnt TX P x cP key (H key) V (hS.next hV) (W.tab.below hV) (hM.below hV).lt hmt hmg hsk).mono fun e V' ⟨h1, _, h2, h3⟩ => ⟨h1, h3, h2, h3⟩
theorem nd_Delete (key : Nat) (h : NdAt w nb F N) (ho : NOk H N) (h64 : H key < 18446744073709551616) (hM : MetP w P x) (hE : Env W0 E w) (hb0 : W0.heap.size ≤ P.mb) (hF : P.mb ∉ F) (e0 : Ent) (he0 : e0 ∈ N.ents) (hk : e0.key = key) :
  Calls Tryz.prog 33 #[nodeP nb, lensV (some ⟨P.mb, P.mo, none⟩) cP, .int .u64 (key : Int), .int .u64 (H key : Int)] w fun e w' => e = .returned (optE (some e0)) ∧ ∃ x' N', NdAt w' nb F N' ∧ Wr H [e0] [] N N' ∧ MetP w' P x' ∧ Cost x x' 128 0 ∧ Mod (P.mb :: F) w w' := by
 obtain ⟨tX, gX, cnt, TX, W⟩ := nd_where cP key h ho h64 hM hE hb0 hF
 have hmt : P.mb ≠ tX := fun e => hF (e ▸ W.inT)
 have hmg : P.mb ≠ gX := fun e => hF (e ▸ W.inG)
 obtain ⟨i, s, hs1, hs2⟩ : ∃ i s, (seek TX.gs key (H key)).1 = some (i, s) ∧ slotAt TX.gs i s = .full e0 := by
  rcases W.key_ with ⟨e, he, hk', _, i, s, h1, h2⟩ | ⟨h1, _⟩
  ·have h3 := look_some ho.keys he
   have h4 := look_some ho.keys he0
   rw [hk'] at h3
   rw [hk, h3] at h4
   cases h4
   exact ⟨i, s, h1, h2⟩
  ·exact absurd hk (h1 e0 he0)
 obtain ⟨hch, _⟩ := tg_erase W.tg hs2
 have hsub : ∀ k, k ∈ [P.mb, tX, gX] → k ∈ P.mb :: F := fun k hk => by
  simp at hk
  rcases hk with rfl | rfl | rfl
  ·simp
  ·simp [W.inT]
  ·simp [W.inG]
 have hlts : ∀ k ∈ [P.mb, tX, gX], k < w.heap.size := fun k hk => by
  simp at hk
  rcases hk with rfl | rfl | rfl
  ·exact hM.lt
  ·exact W.tab.ltT
  ·exact W.tab.ltG
 have fin : ∀ w', Through (fun V V' => (TabAt V' tX gX (eraseM TX i s) ∧ MetP V' P (x.add cP cnt)) ∧ Mod [P.mb, tX, gX] V V') w w' → ∃ x' N', NdAt w' nb F N' ∧ Wr H [e0] [] N N' ∧ MetP w' P x' ∧ Cost x x' 128 0 ∧ Mod (P.mb :: F) w w' := fun w' ht => by
  obtain ⟨⟨h1, h3⟩, h2⟩ := ht.out hlts (fun V' g hg hR hm => ⟨hR.1.mod hm (by have := hlts tX (by simp); simp; omega) (by have := hlts gX (by simp); simp; omega), hR.2.mod hm (by have := hM.lt; simp; omega)⟩)
  obtain ⟨N', n1, n2⟩ := W.swap w' _ [e0] [] _ h1 hch (add_less ho) (by simp) (by simp) h2 (fun q hq hqS => by
   simp at hqS
   rcases hqS with rfl | rfl | rfl
   ·exact absurd hq hF
   ·exact .inl rfl
   ·exact .inr rfl)
  exact ⟨_, N', n1, n2, h3, (cost_P x cnt).mono W.cnt_ (Nat.le_refl _), h2.more hsub⟩
 rcases W.call with ⟨hb, hc⟩ | ⟨tb, db, hb, hS⟩
 ·refine (node_Delete_tab nb tX N.pfx N.dpt N.kind key (H key) P cP e0 true [P.mb, tX, gX] (fun V V' => (TabAt V' tX gX (eraseM TX i s) ∧ MetP V' P (x.add cP cnt)) ∧ Mod [P.mb, tX, gX] V V') w hb hlts fun V hV => ?_).mono fun e w' ⟨h1, h2⟩ => ⟨h1, fin w' h2⟩
  refine (table_Delete_found tX gX TX P.mb P.mt P.pre P.post P.mo x.all x.last P.m cP key (H key) V (W.tab.below hV) W.tg.ok.pow h64 (hM.below hV) hmt hmg (hE.next hV).tz (by have := hE.tzlt; omega) i s hs1 e0 hs2 W.tg.ok.small).mono fun e V' ⟨h1, h4, h2, h3⟩ => ⟨h1, h3, ⟨h4, ?_⟩, h3⟩
  rw [hc]; exact h2
 ·refine (node_Delete_dual nb tb db N.pfx N.dpt N.kind key (H key) P cP e0 true [P.mb, tX, gX] (fun V V' => (TabAt V' tX gX (eraseM TX i s) ∧ MetP V' P (x.add cP cnt)) ∧ Mod [P.mb, tX, gX] V V') w hb hlts fun V hV => ?_).mono fun e w' ⟨h1, h2⟩ => ⟨h1, fin w' h2⟩
  exact (dual_Delete_found db tX gX cnt TX P x cP key (H key) V (hS.next hV) (W.tab.below hV) (hM.below hV).lt hmt hmg i s hs1 e0 hs2 W.tg.ok.small).mono fun e V' ⟨h1, h4, h2, h3⟩ => ⟨h1, h3, ⟨h4, h2⟩, h3⟩
theorem Wr.world {del add : List Ent} {X : TabM} (hM : MetP w P x) (hF : P.mb ∉ F) (W : Whr w H nb F N P x cP key tX gX cnt TX) (h1 : TabAt w' tX gX X) (hc : TChg del add TX X) (ha : AddOk H N del add) (hh : ∀ e ∈ add, e.hash = H key) (hd : del = [] → (seek TX.gs key (H key)).1 = none) (h2 : Mod [P.mb, tX, gX] w w') (h3 : MetP w' P (x.add cP cnt)) :
  ∃ x' N', NdAt w' nb F N' ∧ Wr H del add N N' ∧ MetP w' P x' ∧ Cost x x' 128 0 ∧ Mod (P.mb :: F) w w' := by
 obtain ⟨N', n1, n2⟩ := W.swap w' _ del add _ h1 hc ha hh hd h2 (fun q hq hqS => by
  simp at hqS
  rcases hqS with rfl | rfl | rfl
  ·exact absurd hq hF
  ·exact .inl rfl
  ·exact .inr rfl)
 exact ⟨_, N', n1, n2, h3, (cost_P x cnt).mono W.cnt_ (Nat.le_refl _), h2.more fun k hk => by
  simp at hk
  rcases hk with rfl | rfl | rfl
  ·simp
  ·simp [W.inT]
  ·simp [W.inG]⟩
theorem mod_from {w : World} (hV : Below w.heap.size w V) (h : Mod S V w') : Mod S w w' := (Mod.of_below hV S).then h
theorem nd_Put_found (e : Ent) (more : Bool) (h : NdAt w nb F N) (ho : NOk H N) (hh : e.hash = H e.key) (h64 : e.hash < 18446744073709551616) (hv : e.val < 18446744073709551616) (hM : MetP w P x) (hE : Env W0 E w) (hb0 : W0.heap.size ≤ P.mb) (hF : P.mb ∉ F) (e0 : Ent) (he0 : e0 ∈ N.ents) (hk : e0.key = e.key) :
  Calls Tryz.prog 36 #[nodeP nb, lensV (some ⟨P.mb, P.mo, none⟩) cP, entV e, .bool more] w fun y w' => y = .returned (.tuple #[.bool false, .nilIface]) ∧ ∃ x' N', NdAt w' nb F N' ∧ Wr H [e0] [{ e0 with val := e.val }] N N' ∧ MetP w' P x' ∧ Cost x x' 128 0 ∧ Mod (P.mb :: F) w w' := by
 obtain ⟨tX, gX, cnt, TX, W⟩ := nd_where cP e.key h ho (hh ▸ h64) hM hE hb0 hF
 have hmt : P.mb ≠ tX := fun e => hF (e ▸ W.inT)
 have hmg : P.mb ≠ gX := fun e => hF (e ▸ W.inG)
 have hmn : P.mb ≠ nb := fun e => hF (e ▸ h.nb_in)
 obtain ⟨i, s, hs1, hs2⟩ : ∃ i s, (seek TX.gs e.key (H e.key)).1 = some (i, s) ∧ slotAt TX.gs i s = .full e0 := by
  rcases W.key_ with ⟨e1, he, hk', _, i, s, h1, h2⟩ | ⟨h1, _⟩
  ·have h3 := look_some ho.keys he
   have h4 := look_some ho.keys he0
   rw [hk'] at h3
   rw [hk, h3] at h4
   cases h4
   exact ⟨i, s, h1, h2⟩
  ·exact absurd hk (h1 e0 he0)
 have hch := tg_replace (v := e.val) W.tg hs2
 have hh0 : ∀ y ∈ [({ e0 with val := e.val } : Ent)], y.hash = H e.key := fun y hy => by
  simp at hy; subst hy
  rw [← hk]; exact (ho.hash e0 he0).1.hash
 rw [← hh] at hs1
 rcases W.call with ⟨hb, hc⟩ | ⟨tb, db, hb, hS⟩
 ·refine (node_Put_found nb tX gX N.pfx N.dpt N.kind TX P x cP e more w hb W.tab W.tg.ok.pow h64 hM hE hb0 hmt hmg hmn W.ne.1 W.ne.2 i s hs1 e0 hs2).mono fun y w' ⟨h1, h2, h3, h4⟩ => ⟨h1, Wr.world hM hF W h2 hch (add_other ho he0 hv) hh0 (by simp) h4 (by rw [hc, ← hh]; exact h3)⟩
 ·rw [← hh] at hS
  refine (node_Put_dual nb tb db N.pfx N.dpt N.kind P cP e more false .nilIface (fun V V' => TabAt V' tX gX (replaceM TX i s e.val e0) ∧ MetP V' P (x.add cP cnt) ∧ Mod [P.mb, tX, gX] V V') w hb fun V hV => ?_).mono fun y w' ⟨h1, V, hV, h2, h3, h4⟩ => ⟨h1, Wr.world hM hF W h2 hch (add_other ho he0 hv) hh0 (by simp) (mod_from hV h4) h3⟩
  exact dual_Put_found db tX gX cnt TX P x cP e V (hS.next hV) (W.tab.below hV) (hM.below hV).lt hmt hmg more i s hs1 e0 hs2
theorem nd_Put_new (e : Ent) (h : NdAt w nb F N) (ho : NOk H N) (he : EntOk H e) (ht : topOf e.hash N.dpt = N.pfx) (hM : MetP w P x) (hE : Env W0 E w) (hb0 : W0.heap.size ≤ P.mb) (hF : P.mb ∉ F) (hk : ∀ y ∈ N.ents, y.key ≠ e.key) (hf : N.ents.length + 1 ≤ 192) (hs : N.sl = 0) :
  Calls Tryz.prog 36 #[nodeP nb, lensV (some ⟨P.mb, P.mo, none⟩) cP, entV e, .bool true] w fun y w' => y = .returned (.tuple #[.bool true, .nilIface]) ∧ ∃ x' N', NdAt w' nb F N' ∧ Wr H [] [e] N N' ∧ MetP w' P x' ∧ Cost x x' 128 0 ∧ Mod (P.mb :: F) w w' := by
 obtain ⟨tX, gX, cnt, TX, W⟩ := nd_where cP e.key h ho (he.hash ▸ he.h64) hM hE hb0 hF
 have hmt : P.mb ≠ tX := fun e => hF (e ▸ W.inT)
 have hmg : P.mb ≠ gX := fun e => hF (e ▸ W.inG)
 have hmn : P.mb ≠ nb := fun e => hF (e ▸ h.nb_in)
 obtain ⟨hkT, hroom⟩ : (∀ y ∈ entsT TX.gs, y.key ≠ e.key) ∧ load TX + 1 ≤ 7 * TX.gs.length := by
  rcases W.key_ with ⟨e1, he1, hk', _⟩ | ⟨_, h2, _, h3⟩
  ·exact absurd hk' (hk e1 he1)
  ·exact ⟨h2, h3 hs⟩
 obtain ⟨hs1, i, s, hs2, hfr⟩ := tg_free W.tg hkT (by omega)
 have hch := tg_place W.tg hfr hkT
 have hld := W.tg.loadI
 have hh0 : ∀ y ∈ [e], y.hash = H e.key := fun y hy => by simp at hy; subst hy; exact he.hash
 have hd : ([] : List Ent) = [] → (seek TX.gs e.key (H e.key)).1 = none := fun _ => by rw [← he.hash]; exact hs1
 rcases W.call with ⟨hb, hc⟩ | ⟨tb, db, hb, hS⟩
 ·refine (node_Put_new nb tX gX N.pfx N.dpt N.kind TX P x cP e w hb W.tab W.tg.ok.pow he.h64 hM hE hb0 hmt hmg hmn W.ne.1 W.ne.2 hs1 i s hs2 W.tg.ok.small (by omega)).mono fun y w' ⟨h1, h2, h3, h4⟩ => ⟨h1, Wr.world hM hF W h2 hch (add_new ho he ht hk hf hs) hh0 hd h4 (by rw [hc, ← he.hash]; exact h3)⟩
 ·rw [← he.hash] at hS
  refine (node_Put_dual nb tb db N.pfx N.dpt N.kind P cP e true true .nilIface (fun V V' => TabAt V' tX gX (placeM TX i s e) ∧ MetP V' P (x.add cP cnt) ∧ Mod [P.mb, tX, gX] V V') w hb fun V hV => ?_).mono fun y w' ⟨h1, V, hV, h2, h3, h4⟩ => ⟨h1, Wr.world hM hF W h2 hch (add_new ho he ht hk hf hs) hh0 hd (mod_from hV h4) h3⟩
  exact dual_Put_new db tX gX cnt TX P x cP e V (hS.next hV) (W.tab.below hV) (hM.below hV).lt hmt hmg W.tg.ok.pow he.h64 hs1 i s hs2 W.tg.ok.small (by omega)
theorem nd_Put_full (e : Ent) (h : NdAt w nb F N) (ho : NOk H N) (hh : e.hash = H e.key) (h64 : e.hash < 18446744073709551616) (hM : MetP w P x) (hE : Env W0 E w) (hb0 : W0.heap.size ≤ P.mb) (hF : P.mb ∉ F) (hk : ∀ y ∈ N.ents, y.key ≠ e.key) :
  Calls Tryz.prog 36 #[nodeP nb, lensV (some ⟨P.mb, P.mo, none⟩) cP, entV e, .bool false] w fun y w' => y = .returned (.tuple #[.bool false, errV E 2]) ∧ ∃ x', MetP w' P x' ∧ Cost x x' 128 0 ∧ Mod [P.mb] w w' := by
 obtain ⟨tX, gX, cnt, TX, W⟩ := nd_where cP e.key h ho (hh ▸ h64) hM hE hb0 hF
 have hmt : P.mb ≠ tX := fun e => hF (e ▸ W.inT)
 have hmg : P.mb ≠ gX := fun e => hF (e ▸ W.inG)
 have hmn : P.mb ≠ nb := fun e => hF (e ▸ h.nb_in)
 have hsk : (seek TX.gs e.key e.hash).1 = none := by
  rcases W.key_ with ⟨e1, he1, hk', _⟩ | ⟨_, _, h2, _⟩
  ·exact absurd hk' (hk e1 he1)
  ·rw [hh]; exact h2
 rcases W.call with ⟨hb, hc⟩ | ⟨tb, db, hb, hS⟩
 ·exact (node_Put_full nb tX gX N.pfx N.dpt N.kind TX P x cP e w hb W.tab W.tg.ok.pow h64 hM hE hb0 hmt hmg hmn W.ne.1 W.ne.2 hsk).mono fun y w' ⟨h1, _, h3, h4⟩ => ⟨h1, _, h3, (cost_P x _).mono (by rw [hh, ← hc]; exact W.cnt_) (Nat.le_refl _), h4⟩
 ·rw [← hh] at hS
  refine (node_Put_dual nb tb db N.pfx N.dpt N.kind P cP e false false (errV E 2) (fun V V' => MetP V' P (x.add cP cnt) ∧ Mod [P.mb] V V') w hb fun V hV => ?_).mono fun y w' ⟨h1, V, hV, h3, h4⟩ => ⟨h1, _, h3, (cost_P x _).mono W.cnt_ (Nat.le_refl _), mod_from hV h4⟩
  exact (dual_Put_full db tX gX cnt TX P x cP e V (hS.next hV) (W.tab.below hV) (hM.below hV).lt hmt hmg (hE.next hV) hb0 hsk).mono fun y V' ⟨h1, _, h3, h4⟩ => ⟨h1, h3, h4⟩
end
end Go.Proofs.YtcgjgfgkdoohlaaGreatDoor
