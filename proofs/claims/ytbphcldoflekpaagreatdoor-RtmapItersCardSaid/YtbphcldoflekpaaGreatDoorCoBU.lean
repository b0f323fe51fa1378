/- A scheduler's Ids by its contract. -/
import Derived.Test.YtbphcldoflekpaaGreatDoorCoBS
import Derived.Test.YtbphcldoflekpaaGreatDoorLaneP
import Derived.Test.YtbphcldoflekpaaGreatDoorCoT
import Derived.Maps.OwnIn
import Derived.Test.YtbphcldoflekpaaGreatDoorCoAC
namespace Go.Proofs.YtbphcldoflekpaaGreatDoor
set_option maxRecDepth 100000
set_option maxHeartbeats 2000000
open Go.RowKit Go.Shelf dA
section
variable {t : TypeId} {base : Nat} {v : Value}
attribute [local go_sem] Oper.semAt_some
theorem D7 {F : Fence} {fu : Nat} {P : Program} {w0 : World} {ops : Array Oper} {rest : List Oper} {o : Oper} {a : Act} {Q : Exit → Act → World → Prop} (hgd : o.guard = none) {s x : Operand} (ho : o.op = .call { callee := .builtin .append, args := #[s, x], argTypes := #[t, t] }) {e : TypeId} {size bytes : Nat} (hT : xL P t e size bytes) {n : Nat} {xs : List Value} (hown : w0.ownsRow base e size v n xs) (hs : a.eval s = v) {cs : Array Value} {t' : TypeId} {c : Nat} {g : Nat} (hx : a.eval x = .slice (some ⟨g, 0, none⟩) 1 c) (hg0 : g = w0.heap.size) (hl : cs.size = size) (h1' : (cs.toList.all fun u => u.oneCell') = true) (hn : n < 33554432) (hbase : base ≤ w0.heap.size) (h : ∀ v' w', w'.ownsRow base e size v' (n + 1) (xs ++ cs.toList) → ou w0 base v w' v' → wpListIn F fu P ops Q rest (a.put o.dst v') w') :
  wpListIn F fu P ops Q (o :: rest) a (w0.alloc (.cells cs t')) := by
 obtain ⟨i, z, ht, hi, hz, hsize, hby, hzs, hsz, hb⟩ := hT
 have h1 : ∀ u ∈ cs.toList, u.oneCell' = true := List.all_eq_true.1 h1'
 subst hg0
 refine wpListIn_append_own_at (w0.alloc (.cells cs t')) hgd s x t ho base e i z size bytes ht hi hz hsize hby hzs hsz v n xs hs (hown.alloc _) ⟨w0.heap.size, 0, none⟩ 1 c cs.toList hx (by simp [hl]) ?_ h1
  (by simp only [maxLen]; omega) ?_ (by simp; omega) ?_
 ·intro j u hj
  have hadd : (⟨w0.heap.size, 0, none⟩ : Addr).add j = ⟨w0.heap.size, j, none⟩ := by unfold Addr.add; split <;> simp_all
  rw [hadd, (aj.new w0 t' cs).cell]
  simpa using hj
 ·have : (n + 1) * bytes ≤ 33554432 * 4096 := Nat.mul_le_mul (by omega) hb
  omega
 ·intro v' w' hown' hg _ hat
  have hlt := hown.lt
  have hb0 : Below base w0 (w0.alloc (.cells cs t')) := (Below.refl _ _).alloc hbase _
  refine h v' w' hown' ⟨hb0.grown hg (by simp; omega) (fun k hk => (hlt k hk).1), ⟨hg.os, hg.tape, hg.output, by have := hg.size; simp at this; omega, fun k hk hne => ?_⟩, ?_⟩
  ·exact (hg.block k (by simp; omega) hne).trans (Below.heap_alloc w0 _ k hk)
  ·rcases hat with hat | hat
   ·exact .inl hat
   ·exact .inr ⟨_, hat, by simp⟩
def IL (ids : List Nat) (pre : List (Fin ids.length)) : List Nat := pre.map (Bq ids)
theorem YH (ids : List Nat) : IL ids (List.finRange ids.length) = ids := by
 unfold IL
 apply List.ext_getElem
 ·simp
 ·intro i h1 h2
  simp only [List.getElem_map, List.getElem_finRange, Bq]
  rw [List.getD_eq_getElem?_getD, List.getElem?_eq_getElem (by simpa using h2)]; rfl
theorem VH (ids : List Nat) (pre : List (Fin ids.length)) (x : Fin ids.length) : dz (IL ids (pre ++ [x])) = dz (IL ids pre) ++ [.int .i64 ((Bq ids x : Nat) : Int)] := by simp [IL, dz]
theorem SC {n₀ ob : Nat} {V w4 : World} {v4 : Value} (uD : Boxed V ob t v) (hg : ou V base v w4 v4) (hK : aY n₀ [ob] V (w4.setCell ⟨ob, 0, none⟩ v4)) (hB4 : Boxed (w4.setCell ⟨ob, 0, none⟩ v4) ob t v4) : qP n₀ ob V (w4.setCell ⟨ob, 0, none⟩ v4) := by
 have hr : oK V ob = v.ownBlock := by unfold oK; rw [uD.cell]; rfl
 have hr4 : oK (w4.setCell ⟨ob, 0, none⟩ v4) ob = v4.ownBlock := by unfold oK; rw [hB4.cell]; rfl
 refine ⟨hK, fun k o hk hc hne hro => ?_, fun k hk => ?_⟩
 ·have hlt := (Array.getElem?_eq_some_iff.1 hk).1
  rw [Below.heap_setCell _ _ _ _ hne]
  rw [hr] at hro
  exact (hg.lZ.block k hlt (fun e => hro e.symm)).trans hk
 ·rw [hr4] at hk
  rw [hr]
  rcases hg.at_ with h1 | ⟨g, h1, h2⟩
  ·exact .inl (h1 ▸ hk)
  ·rw [h1] at hk
   injection hk with hk
   subst hk
   exact .inr h2
theorem IQ (sb qb rb jb : Nat) (k b : Int) (val : Nat → Value) (ids : List Nat) (w : World) (h : dS w sb qb rb jb k b val ids) :
  Calls Tryz.prog 138 #[eu sb] w fun e w' => ∃ A c, e = .returned (.slice A ids.length c) ∧ w'.ownsRow w.heap.size 3 1 (.slice A ids.length c) ids.length (dz ids) ∧ Below w.heap.size w w' := by
 obtain ⟨s, hb⟩ := h.blk
 obtain ⟨ring, first, hq⟩ := h.Bp
 have hmn := h.many
 have hB := (Below.refl w.heap.size w).alloc (Nat.le_refl _) (.cells #[.slice none 0 0] 147)
 have hO := aj.new w 147 #[.slice none 0 0]
 obtain ⟨W, hW⟩ : ∃ W, W = w.alloc (.cells #[.slice none 0 0] 147) := ⟨_, rfl⟩
 rw [← hW] at hB hO
 have hQ := hq.mod (Mod.of_below hB []) (by simp) (by simp)
 have hS := hb.mod (Mod.of_below hB []) (by simp)
 have hsl := hS.lt
 have HW := qd hW
 have HB := qd hB
 unfold eu
 have v0 := aj.cell hS 3
 simp only [gl] at v0
 clear hW hB h hb hq hS
 refine (callsIn_wide (n := 10)).1 ?_
 have h1 : 1 ≤ 10 := by omega
 refine kH Tryz.func138 rfl trivial rfl ?_
 simp only [Tryz.ntmps138, List.size_toArray, List.length_cons, List.length_nil, Nat.reduceAdd, Nat.reduceSub, Array.replicate_succ, Array.replicate_zero, List.push_toArray, List.append_toArray, List.nil_append, List.cons_append]
 refine wpIn_wide.2 ?_
 go_upto_region 2 with fail
 rw [← HW.out]
 go_wp2_with fail
 refine (SB qb _).mono ?_
 rintro e w1 ⟨rfl, hw1⟩
 have hb1 : Below W.heap.size W w1 := hw1 ▸ (Below.refl W.heap.size W).alloc (Nat.le_refl _) _
 have hX1 : aj w1 W.heap.size 150 #[pQ qb] := hw1 ▸ aj.new W _ _
 clear hw1
 go_wp2_with fail
 refine (wpIn_wide (n := 10)).1 ?_
 have hB1 : Below w.heap.size w w1 := bI hb1 HB.out
 have hlt3 : w.heap.size < W.heap.size := hO.lt
 have wO : Boxed w1 w.heap.size 147 (.slice none 0 0) := hO.below hb1 hO.lt
 have hQ1 := hQ.mod (Mod.of_below hb1 []) (by simp) (by simp)
 have hbl := hB1.size
 have hbs := hb1.size
 clear hQ v0
 refine wpIn_rangeFunc_ownH rfl h1 (gf := 199) (lb := #[pQ W.heap.size]) rfl trivial (enters_of Tryz.func199 (by kernel_rfl) rfl)
  (SA (10 - 1) (by omega) w1.heap.size w.heap.size W.heap.size qb rb ring first ids w1 (hX1.cell 0) hX1.lt hQ1 (by omega) wO.cell) Oy (YG (Nat.le_refl _) (by omega)) (Below.refl _ _) (fun _ => rfl)
  (fun pre V => (∃ v, Boxed V w.heap.size 147 v ∧ V.ownsRow w1.heap.size 3 1 v pre.length (dz (IL ids pre)) ∧ True) ∧ aY w1.heap.size [w.heap.size] w1 V)
  (fun _ _ _ => False)
  (OwnFrom.and (Own.from (holdsRow_own w1.heap.size w.heap.size 147 3 1 List.length (fun pre => dz (IL ids pre)) (fun _ _ => True)) _) (oN (Nat.le_refl _) (Nat.le_refl _)))
  (fun _ _ _ _ _ hs _ _ => hs)
  ⟨⟨_, wO, ⟨by simp [IL, dz], .inl ⟨rfl, rfl⟩⟩, trivial⟩, aY.refl _ _ _⟩
  (fun x a' _ => a' = { tmps := #[pQ sb, undef, .slice none 0 0, pQ w.heap.size, undef, .int .i64 ((Bq ids x : Nat) : Int), pQ sb, pQ sb, .pointer (some ⟨sb, 3, none⟩), pQ qb, .func (.func 199) #[] #[pQ W.heap.size], nI x.val, .int .i64 ((Bq ids x : Nat) : Int), undef, undef, undef, undef, undef], defers := [] })
  (fun _ _ _ _ _ _ hs _ _ => hs) ?assign ?body ?done ?stop
 case assign =>
  rintro lp pre x V K hi hK
  gi_wp2
  exact hK _ _ (KeepsFrom.refl _ _) (qP.refl _ _ _) hi rfl
 case body =>
  rintro lp pre x a' V hl ⟨r, hr⟩ ⟨⟨v, uD, hO, -⟩, nD⟩ rfl hlt
  obtain ⟨A, c, rfl⟩ := dJ hO
  have ho := uD.cell
  have adE := uD.lt
  have dD := qd (VH ids pre x)
  have AL := nD.size
  generalize Bq ids x = id at *
  gi_wp2_with (gi_at_builtin; refine D7 rfl rfl vV hO rfl rfl rfl rfl rfl (by omega) (by omega) ?_; intro v4 w4 dB gN; obtain ⟨A4, c4, rfl⟩ := dJ dB; have hox : Boxed w4 w.heap.size 147 (.slice A pre.length c) := (gN.below.block _ (by omega)).trans uD; have o4 := hox.cell; have f4 := hox.frozen)
  have hfin : Boxed (w4.setCell ⟨w.heap.size, 0, none⟩ (.slice A4 (pre.length + 1) c4)) w.heap.size 147 (.slice A4 (pre.length + 1) c4) := hox.set _
  have UM : (Value.slice A4 (pre.length + 1) c4).ownBlock ≠ some w.heap.size := fun he => by
   have := (dB.lt _ he).1
   omega
  have hown5 := dB.kept (grownBy_setCell' w4 w.heap.size (.slice A4 (pre.length + 1) c4)) (.inr UM)
  have hK4 : aY w1.heap.size [w.heap.size] w1 w4 := dM nD (aY.of_below gN.below)
  have AO : KeepsFrom w1.heap.size V w4 := zY AL (Below.refl _ _) hO gN
  have uh := AO.trans ((KeepsOthers.setCell w4 ⟨w.heap.size, 0, none⟩ (.slice A4 (pre.length + 1) c4)).from _)
  have wP : aY w1.heap.size [w.heap.size] w1 (w4.setCell ⟨w.heap.size, 0, none⟩ (.slice A4 (pre.length + 1) c4)) := hK4.ak (.inl (by simp)) _ _
  have Ru : aY w1.heap.size [w.heap.size] V (w4.setCell ⟨w.heap.size, 0, none⟩ (.slice A4 (pre.length + 1) c4)) := (aY.of_below gN.below).ak (.inl (by simp)) _ _
  have hKO := SC uD gN Ru hfin
  have HE := qd (And.intro uh (And.intro hKO (And.intro (And.intro hfin hown5) wP)))
  clear uh Ru hfin hown5 wP AO hK4 dB gN hox hKO
  first | gi_wp2 | skip
  exact ⟨HE.out.1, HE.out.2.1, ⟨_, HE.out.2.2.1.1, by rw [dD.out, List.length_append]; exact HE.out.2.2.1.2⟩, HE.out.2.2.2⟩
 case done =>
  rintro D ys V hD hys ⟨⟨v, uD, hO, -⟩, nD⟩ pJ
  obtain ⟨A, c, rfl⟩ := dJ hO
  have ho := uD.cell
  subst hys
  have hlen : (List.finRange ids.length).length = ids.length := by simp
  rw [YH, hlen] at hO
  rw [hlen] at uD ho
  have NW := (Mod.of_below hB1 [w.heap.size]).then nD.mod
  have gB := qd hO
  clear hO
  go_wp2
  refine uX ⟨by simp, .inl ⟨_, _, rfl, run_takeDeferred pJ, ?_⟩⟩
  refine ⟨.slice A ids.length c, ?_, A, c, rfl, ?_, ?_⟩
  ·simp [results, Tryz.f138, go_sem]
  ·exact oW (ownsRow_putObj gB.out _ pJ rfl) (by omega)
  ·exact (NW.below (by simp) (Nat.le_refl _)).trans (belowK_b (w := w) (Nat.le_refl _) V D _ _ (by omega) pJ rfl rfl)
 case stop =>
  rintro D c pre V hD hS hI
  exact hI.elim
end
section
variable {x y : bM} {base n p q u : Nat} {F' S : List Nat} {e : TypeId} {xs : List Value}
def dI (x x' : bM) (p u : Nat) : Prop := 0 ≤ x.last.p → 0 ≤ x.last.u → 0 ≤ x'.last.p ∧ x'.last.p ≤ x.last.p + p ∧ 0 ≤ x'.last.u ∧ x'.last.u ≤ x.last.u + u
theorem dI.refl (x : bM) : dI x x 0 0 := fun h1 h2 => ⟨h1, by omega, h2, by omega⟩
theorem dI.trans {z : bM} {v : Nat} (h : dI x y p u) (k : dI y z q v) : dI x z (p + q) (u + v) := fun h1 h2 => by
 obtain ⟨a, b, c, d⟩ := h h1 h2
 obtain ⟨a', b', c', d'⟩ := k a c
 exact ⟨a', by omega, c', by omega⟩
theorem dI.mono {v : Nat} (h : dI x y p u) (hp : p ≤ q) (hu : u ≤ v) : dI x y q v := fun h1 h2 => by
 obtain ⟨a, b, c, d⟩ := h h1 h2
 exact ⟨a, by omega, c, by omega⟩
def lT (P : MP) : Value := .pointer (some ⟨P.mb, P.mo, none⟩)
structure iH (W0 : World) (E : Nat → Addr) (P : MP) {α : Type} (jt : Nat → TypeId) (ja : Nat → Addr) (At : World → List Nat → α → Prop) (can : α → Nat → Prop) (left : α → Nat → Nat) (Stp : α → Nat → α → Prop) : Prop where
 LG : ∀ {a id}, can a id → xW (jt id)
 lt : ∀ {V F a}, At V F a → ∀ q ∈ F, q < V.heap.size ∧ W0.heap.size ≤ q
 mb : ∀ {V F a}, At V F a → P.mb ∉ F
 xX : ∀ {V V' F S a}, At V F a → Mod S V V' → (∀ q ∈ F, q ∉ S) → At V' F a
 le : ∀ {V F a id}, At V F a → can a id → left a id ≤ 1000
 zI : ∀ {V F a id}, At V F a → can a id → Calls Tryz.prog (ji (jt id)) #[.pointer (some (ja id))] V fun e V' => e = .returned (.int .i64 (left a id : Int)) ∧ Below V.heap.size V V'
 Xy : ∀ {V F a id x}, At V F a → can a id → 1 ≤ left a id → Env W0 E V → aN V P x → Calls Tryz.prog (uQ (jt id)) #[.pointer (some (ja id)), lT P] V fun e V' => e = .returned (.bool true) ∧ ∃ a' F' x', Stp a id a' ∧ At V' F' a' ∧ (∀ q ∈ F', q ∈ F ∨ V.heap.size ≤ q) ∧ aN V' P x' ∧ dI x x' 0 1 ∧ Mod (P.mb :: F) V V'
 iU : ∀ {a id a' j}, Stp a id a' → can a j → can a' j
 IU : ∀ {a id a' j}, Stp a id a' → j ≠ id → left a' j = left a j
 Br : ∀ {a id a'}, Stp a id a' → left a' id + 1 = left a id
structure SP where
 sb : Nat
 qb : Nat
 rb : Nat
 jb : Nat
 k : Int
 val : Nat → Value
def SP.blocks (s : SP) : List Nat := [s.sb, s.qb, s.rb, s.jb]
structure bG (W0 : World) (E : Nat → Addr) (P : MP) {α : Type} (At : World → List Nat → α → Prop) (s : SP) (w0 : World) (F0 : List Nat) (w : World) (b : Int) (ids : List Nat) (a : α) (F : List Nat) (x : bM) : Prop where
 aC : dS w s.sb s.qb s.rb s.jb s.k b s.val ids
 pool : At w F a
 met : aN w P x
 env : Env W0 E w
 apart : ∀ q ∈ s.blocks, q ∉ F ∧ q ≠ P.mb ∧ W0.heap.size ≤ q
 qg : W0.heap.size ≤ P.mb
 oq : W0.heap.size ≤ w0.heap.size
 sub : ∀ q ∈ F, q ∈ F0 ∨ w0.heap.size ≤ q
 mod : Mod (P.mb :: (s.blocks ++ F0)) w0 w
section
variable {W0 w0 w w' : World} {E : Nat → Addr} {P : MP} {α : Type} {jt : Nat → TypeId} {ja : Nat → Addr} {At : World → List Nat → α → Prop} {can : α → Nat → Prop} {left : α → Nat → Nat} {Stp : α → Nat → α → Prop}
 {s : SP} {F0 F : List Nat} {b : Int} {ids : List Nat} {a : α} {x : bM}
theorem bG.size (h : bG W0 E P At s w0 F0 w b ids a F x) : w0.heap.size ≤ w.heap.size := h.mod.size
theorem bG.start (hs : dS w s.sb s.qb s.rb s.jb s.k b s.val ids) (hp : At w F a) (hm : aN w P x) (he : Env W0 E w) (ha : ∀ q ∈ s.blocks, q ∉ F ∧ q ≠ P.mb ∧ W0.heap.size ≤ q) (hmb : W0.heap.size ≤ P.mb) : bG W0 E P At s w F w b ids a F x :=
 ⟨hs, hp, hm, he, ha, hmb, he.size, fun _ h => .inl h, Mod.refl _ _⟩
theorem bG.away (HP : iH W0 E P jt ja At can left Stp) (h : bG W0 E P At s w0 F0 w b ids a F x) (hm : Mod S w w') (hS : ∀ q ∈ S, w0.heap.size ≤ q ∧ q ∉ F ∧ q ≠ P.mb ∧ q ∉ s.blocks ∧ W0.heap.size ≤ q) : bG W0 E P At s w0 F0 w' b ids a F x :=
 ⟨h.aC.mod hm (fun q hq dH => (hS q dH).2.2.2.1 hq), HP.xX h.pool hm (fun q hq dH => (hS q dH).2.1 hq), h.met.mod hm (fun hq => (hS _ hq).2.2.1 rfl), h.env.mod hm (fun q hq => (hS q hq).2.2.2.2), h.apart, h.qg, h.oq, h.sub,
  h.mod.trans hm (fun _ hq _ => hq) (fun q hq hl => by have := (hS q hq).1; omega)⟩
theorem bG.below (HP : iH W0 E P jt ja At can left Stp) (h : bG W0 E P At s w0 F0 w b ids a F x) (hb : Below w.heap.size w w') : bG W0 E P At s w0 F0 w' b ids a F x := h.away HP (Mod.of_below hb []) (by simp)
theorem bG.own (HP : iH W0 E P jt ja At can left Stp) (h : bG W0 E P At s w0 F0 w b ids a F x) {b' : Int} {aI : List Nat} (hm : Mod S w w') (hS : ∀ q ∈ S, q ∈ s.blocks) (hs : dS w' s.sb s.qb s.rb s.jb s.k b' s.val aI) : bG W0 E P At s w0 F0 w' b' aI a F x :=
 ⟨hs, HP.xX h.pool hm (fun q hq dH => (h.apart q (hS q dH)).1 hq), h.met.mod hm (fun hq => (h.apart _ (hS _ hq)).2.1 rfl), h.env.mod hm (fun q hq => (h.apart q (hS q hq)).2.2), h.apart, h.qg, h.oq, h.sub,
  h.mod.trans hm (fun _ hq _ => hq) (fun q hq _ => by simp [hS q hq])⟩
theorem bG.stepped (HP : iH W0 E P jt ja At can left Stp) (h : bG W0 E P At s w0 F0 w b ids a F x) {a' : α} {x' : bM} (hA : At w' F' a') (hF : ∀ q ∈ F', q ∈ F ∨ w.heap.size ≤ q) (hM : aN w' P x') (hm : Mod (P.mb :: F) w w') : bG W0 E P At s w0 F0 w' b ids a' F' x' :=
 ⟨h.aC.mod hm (fun q hq dH => by
   have := h.apart q hq
   rcases List.mem_cons.1 dH with h1 | h1
   ·exact this.2.1 h1
   ·exact this.1 h1), hA, hM, h.env.mod hm (fun q hq => by
   rcases List.mem_cons.1 hq with h1 | h1
   ·rw [h1]; exact h.qg
   ·exact (HP.lt h.pool q h1).2), fun q hq => ⟨fun hq' => by
   rcases hF q hq' with h1 | h1
   ·exact (h.apart q hq).1 h1
   ·have := h.aC.lt q hq; omega, (h.apart q hq).2⟩, h.qg, h.oq, fun q hq => by
   rcases hF q hq with h1 | h1
   ·exact h.sub q h1
   ·exact .inr (Nat.le_trans h.size h1),
  h.mod.trans hm (fun _ hq _ => hq) (fun q hq hl => by
   rcases List.mem_cons.1 hq with h1 | h1
   ·simp [h1]
   ·rcases h.sub q h1 with h2 | h2
    ·simp [h2]
    ·omega)⟩
def mM (P : MP) (s : SP) (F : List Nat) (v : Value) : Prop := ∀ g, v.ownBlock = some g → g ∉ P.mb :: (s.blocks ++ F)
theorem bG.iF (HP : iH W0 E P jt ja At can left Stp) (h : bG W0 E P At s w0 F0 w b ids a F x) : ∀ q ∈ P.mb :: (s.blocks ++ F), q < w.heap.size := by
 intro q hq
 rcases List.mem_cons.1 hq with h1 | h1
 ·rw [h1]; exact h.met.lt
 ·rcases List.mem_append.1 h1 with h2 | h2
  ·exact h.aC.lt q h2
  ·exact (HP.lt h.pool q h2).1
theorem mM.step {v : Value} {size : Nat} (h : mM P s F v) (hO : w.ownsRow base e size v n xs) (hF : ∀ q ∈ F', q ∈ F ∨ w.heap.size ≤ q) : mM P s F' v := fun g hg hq => by
 have hl := (hO.lt g hg).2
 have hn := h g hg
 simp only [List.mem_cons, List.mem_append, not_or] at hn hq
 rcases hq with h1 | h1 | h1
 ·exact hn.1 h1
 ·exact hn.2.1 h1
 ·rcases hF g h1 with h2 | h2
  ·exact hn.2.2 h2
  ·omega
theorem bG.app (HP : iH W0 E P jt ja At can left Stp) (h : bG W0 E P At s w0 F0 w b ids a F x) {v v' : Value} {size : Nat} (hO : w.ownsRow base e size v n xs) (hb : w0.heap.size ≤ base) (hr : mM P s F v) (hg : ou w base v w' v') : bG W0 E P At s w0 F0 w' b ids a F x ∧ mM P s F v' := by
 refine ⟨h.away HP (S := v.ownBlock.toList) ⟨hg.lZ.os, hg.lZ.tape, hg.lZ.output, hg.lZ.size, fun k hk hn => hg.lZ.block k hk (fun e => hn (by rw [← e]; simp))⟩ (fun q hq => ?_), fun g Xz hq => ?_⟩
 ·have hq' : v.ownBlock = some q := by simpa using hq
  have h1 := hr q hq'
  have h2 := (hO.lt q hq').1
  have h3 := h.oq
  simp only [List.mem_cons, List.mem_append, not_or] at h1
  exact ⟨by omega, h1.2.2, h1.1, h1.2.1, by omega⟩
 ·rcases hg.at_ with h1 | ⟨g', h1, h2⟩
  ·exact hr g (h1 ▸ Xz) hq
  ·rw [h1] at Xz
   injection Xz with Xz
   have := h.iF HP g hq
   omega
end
section
variable {W0 w0 : World} {E : Nat → Addr} {P : MP} {α : Type} {jt : Nat → TypeId} {ja : Nat → Addr} {At : World → List Nat → α → Prop} {can : α → Nat → Prop} {left : α → Nat → Nat} {Stp : α → Nat → α → Prop}
theorem step_done (HP : iH W0 E P jt ja At can left Stp) (s : SP) (F0 F : List Nat) (b : Int) (ids : List Nat) (a : α) (x : bM) (id : Nat) (hc : can a id) (h0 : left a id = 0) (w : World) (h : bG W0 E P At s w0 F0 w b ids a F x) :
  Calls Tryz.prog 135 #[eu s.sb, lT P, .iface (jt id) (.pointer (some (ja id)))] w fun e w' => e = .returned (.bool false) ∧ Below w.heap.size w w' := by
 have := HP.zI h.pool hc
 rw [h0] at this
 exact Fx s.sb (jt id) (ja id) (lT P) w (HP.LG hc) this
theorem Qj (HP : iH W0 E P jt ja At can left Stp) (s : SP) (F0 F : List Nat) (ids : List Nat) (a : α) (x : bM) (id : Nat) (hc : can a id) (h1 : 1 ≤ left a id) (w : World) (h : bG W0 E P At s w0 F0 w 0 ids a F x) :
  Calls Tryz.prog 135 #[eu s.sb, lT P, .iface (jt id) (.pointer (some (ja id)))] w fun e w' => e = .returned (.bool false) ∧ Below w.heap.size w w' := by
 obtain ⟨sp, hs⟩ := h.aC.blk
 exact D6 s.sb s.qb s.jb s.k sp (left a id) h1 (jt id) (ja id) (lT P) w (HP.LG hc) (HP.zI h.pool hc) hs
theorem LH (HP : iH W0 E P jt ja At can left Stp) (s : SP) (F0 F : List Nat) (b : Nat) (hb : b ≤ 999) (ids : List Nat) (a : α) (x : bM) (id : Nat) (hc : can a id) (h1 : 1 ≤ left a id) (w : World) (h : bG W0 E P At s w0 F0 w ((b + 1 : Nat) : Int) ids a F x) :
  Calls Tryz.prog 135 #[eu s.sb, lT P, .iface (jt id) (.pointer (some (ja id)))] w fun e w' => e = .returned (.bool true) ∧ ∃ a' F' x', Stp a id a' ∧ dI x x' 0 1 ∧ bG W0 E P At s w0 F0 w' (b : Int) ids a' F' x' ∧ (∀ q ∈ F', q ∈ F ∨ w.heap.size ≤ q) ∧ Mod (P.mb :: (s.blocks ++ F)) w w' := by
 obtain ⟨sp, hs⟩ := h.aC.blk
 refine (Qh s.sb s.qb s.jb s.k sp b (left a id) h1 hb (jt id) (ja id) (lT P) (fun V V' => ∃ a' F' x', Stp a id a' ∧ At V' F' a' ∧ (∀ q ∈ F', q ∈ F ∨ V.heap.size ≤ q) ∧ aN V' P x' ∧ dI x x' 0 1 ∧ Mod (P.mb :: F) V V') w (HP.LG hc) (HP.zI h.pool hc) hs ?_).mono ?_
 ·intro V hm ZV
  have hV := h.own HP hm (by simp [SP.blocks]) (h.aC.ZU hm ZV)
  exact HP.Xy hV.pool hc h1 hV.env hV.met
 ·rintro e w' ⟨rfl, V, hm, ZV, a', F', x', h2, h3, h4, h5, h6, h7⟩
  have hV := h.own HP hm (by simp [SP.blocks]) (h.aC.ZU hm ZV)
  exact ⟨rfl, a', F', x', h2, h6, hV.stepped HP h3 h4 h5 h7, fun q hq => (h4 q hq).imp (fun hh => hh) (fun hh => Nat.le_trans hm.size hh), hm.trans h7 (fun q hq _ => by simp at hq; simp [hq, SP.blocks]) (fun q hq _ => by
   rcases List.mem_cons.1 hq with h8 | h8
   ·simp [h8]
   ·simp [h8])⟩
theorem zJ (HP : iH W0 E P jt ja At can left Stp) (s : SP) (F0 F : List Nat) (b : Int) (ids : List Nat) (a : α) (x : bM) (id : Nat) (hid : id ∈ ids) (kL : id ≤ 1000) (w : World) (h : bG W0 E P At s w0 F0 w b ids a F x) :
  Calls Tryz.prog 139 #[eu s.sb, nI id] w fun e w' => e = .returned (.bool true) ∧ bG W0 E P At s w0 F0 w' b (ids.erase id) a F x ∧ Mod s.blocks w w' :=
 (LC s.sb s.qb s.rb s.jb s.k b s.val ids id hid kL w h.aC).mono fun e w' ⟨h1, h2, h3⟩ => ⟨h1, h.own HP h3 (by simp [SP.blocks]) h2, h3.more (by simp [SP.blocks])⟩
theorem zK (HP : iH W0 E P jt ja At can left Stp) (s : SP) (F0 F : List Nat) (b n : Int) (hn : 0 ≤ n ∧ n ≤ 1000) (ids : List Nat) (a : α) (x : bM) (w : World) (h : bG W0 E P At s w0 F0 w b ids a F x) :
  Calls Tryz.prog 133 #[eu s.sb, .int .i64 n] w fun e w' => e = .returned undef ∧ bG W0 E P At s w0 F0 w' n ids a F x := by
 obtain ⟨sp, hs⟩ := h.aC.blk
 exact (Qg s.sb s.qb s.jb s.k b sp n hn w hs).mono fun e w' ⟨h1, h2, h3⟩ => ⟨h1, h.own HP h3 (by simp [SP.blocks]) (h.aC.ZU h3 h2)⟩
end
inductive qh {α : Type} (left : α → Nat → Nat) (Stp : α → Nat → α → Prop) : Nat → List Nat → α → List Nat → List Nat → α → Prop
 | nil (c : Nat) (a : α) : qh left Stp c [] a [] [] a
 | broke (ids : List Nat) (a : α) : qh left Stp 0 ids a [] ids a
 | ended {c id : Nat} {ids e aI : List Nat} {a a' : α} (h : left a id = 0) (r : qh left Stp (c + 1) ids a e aI a') : qh left Stp (c + 1) (id :: ids) a (id :: e) aI a'
 | step {c id : Nat} {ids e aI : List Nat} {a b a' : α} (h : 1 ≤ left a id) (hs : Stp a id b) (r : qh left Stp c (id :: ids) b e aI a') : qh left Stp (c + 1) (id :: ids) a e aI a'
end
end Go.Proofs.YtbphcldoflekpaaGreatDoor
