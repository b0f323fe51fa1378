/- A core in the heap: its block, its nodes' row, its scheduler, its pool. -/
import Derived.Test.YtfojgfddgplinabGreatDoorCoCF
import Derived.Test.YtfojgfddgplinabGreatDoorLaneP
namespace Go.Proofs.YtfojgfddgplinabGreatDoor
set_option maxRecDepth 100000
set_option maxHeartbeats 4000000
open Go.RowKit dG
section
variable {F' S : List Nat} {x' : bI}
structure eB where
 mb : Nat
 sb : Nat
 qb : Nat
 rb : Nat
 jb : Nat
 A : cK
 v : Value
 K : Nat
 M : Nat
 I : Nat
 m : Int
structure lH where
 a : Pool
 ids : List Nat
 len : Nat
 b : Int
 x : bI
def cK.val (A : cK) (id : Nat) : Value := .iface (A.jt id) (.pointer (some (A.ja id)))
def eB.s (C : eB) : SP := ⟨C.sb, C.qb, C.rb, C.jb, (C.K : Int), C.A.val⟩
def kQ (A : cK) (c : Option (Nat × List Nat)) : Value := .pointer (if c.isSome then some ⟨A.cb, 0, none⟩ else none)
def cmp (C : eB) (st : lH) : MP := ⟨C.mb, 100, [.int .i64 (C.K : Int), .int .i64 (C.M : Int), .int .i64 (C.I : Int)], [C.v, .pointer (some ⟨C.A.db, 0, none⟩), kQ C.A st.a.cop, .pointer (some ⟨C.sb, 0, none⟩), .int .i64 (st.len : Int)], 3, C.m⟩
def eB.foot (C : eB) (F : List Nat) : List Nat := C.mb :: (C.s.blocks ++ (F ++ C.v.ownBlock.toList))
def jD (A : cK) (n : Nat) : List Value := ptrs ((List.range n).map A.nb)
structure aA (W0 : World) (E : Nat → Addr) (H : Nat → Nat) (C : eB) (w0 : World) (G0 : List Nat) (w : World) (F : List Nat) (st : lH) : Prop where
 aB : bB W0 E (cmp C st) (y9 W0 C.mb H C.A) C.s w F w st.b st.ids st.a F st.x
 row : w.ownsRow W0.heap.size 88 1 C.v st.a.Ns.length (jD C.A st.a.Ns.length)
 za : mM (cmp C st) C.s F C.v
 pos : 1 ≤ st.a.Ns.length
 kk : 1 ≤ C.K ∧ C.K ≤ 64
 mm : 1 ≤ C.M ∧ C.M ≤ 192
 o9 : W0.heap.size ≤ w0.heap.size
 sub : ∀ q ∈ C.foot F, q ∈ G0 ∨ w0.heap.size ≤ q
 mod : Mod G0 w0 w
section
variable {W0 : World} {E : Nat → Addr} {H : Nat → Nat} {C : eB} {w0 : World} {G0 : List Nat} {w w' : World} {F : List Nat} {st : lH}
theorem aA.hp (h : aA W0 E H C w0 G0 w F st) : iA W0 E (cmp C st) C.A.jt C.A.ja (y9 W0 C.mb H C.A) Pool.can Pool.left (Pool.step H) := CF (P := cmp C st) C.A h.aB.rF
theorem aW {q : Nat} : q ∈ C.foot F ↔ q = C.mb ∨ q ∈ C.s.blocks ∨ q ∈ F ∨ C.v.ownBlock = some q := by
 unfold eB.foot
 simp [eq_comm]
theorem aA.fQ (h : aA W0 E H C w0 G0 w F st) : ∀ q ∈ C.foot F, q < w.heap.size := by
 intro q hq
 have hl := h.aB.fQ h.hp
 rcases aW.1 hq with rfl | h1 | h1 | h1
 ·exact h.aB.met.lt
 ·exact hl q (by simp [h1])
 ·exact hl q (by simp [h1])
 ·exact (h.row.lt q h1).2
theorem aA.Vv (h : aA W0 E H C w0 G0 w F st) : ∀ q ∈ C.foot F, W0.heap.size ≤ q := by
 intro q hq
 rcases aW.1 hq with rfl | h1 | h1 | h1
 ·exact h.aB.rF
 ·exact (h.aB.apart q h1).2.2
 ·exact (h.hp.lt h.aB.pool q h1).2
 ·exact (h.row.lt q h1).1
theorem aA.ZN (h : aA W0 E H C w0 G0 w F st) (A' : cK) (v' : Value) (st' : lH) (hm : Mod S w w') (hS : ∀ q ∈ S, q ∈ C.foot F) (Vw : dR w' C.sb C.qb C.rb C.jb (C.K : Int) st'.b A'.val st'.ids) (PV : y9 W0 C.mb H A' w' F' st'.a) (hmet : aO w' (cmp { C with A := A', v := v' } st') st'.x) (hrow : w'.ownsRow W0.heap.size 88 1 v' st'.a.Ns.length (jD A' st'.a.Ns.length)) (hpos : 1 ≤ st'.a.Ns.length) (hF : ∀ q ∈ F', q ∈ F ∨ ((q ∈ G0 ∨ w0.heap.size ≤ q) ∧ q ∉ C.foot F)) (hg : ∀ g, v'.ownBlock = some g → (C.v.ownBlock = some g ∨ w.heap.size ≤ g) ∧ (w.heap.size ≤ g → g ∉ F')) :
  aA W0 E H { C with A := A', v := v' } w0 G0 w' F' st' := by
 have hl := h.fQ
 have hbl : ∀ q ∈ C.s.blocks, q ∈ C.foot F := fun q hq => aW.2 (.inr (.inl hq))
 refine ⟨bB.start (P := cmp { C with A := A', v := v' } st') (s := ({ C with A := A', v := v' } : eB).s) Vw PV hmet (h.aB.env.mod hm (fun q hq => h.Vv q (hS q hq))) (fun q hq => ?_) h.aB.rF, hrow, fun g hgg hq => ?_, hpos, h.kk, h.mm, h.o9, fun q hq => ?_, ?_⟩
 ·have hq' : q ∈ C.s.blocks := hq
  have ha := h.aB.apart q hq'
  refine ⟨fun ZO => ?_, ha.2⟩
  rcases hF q ZO with h1 | h1
  ·exact ha.1 h1
  ·exact h1.2 (hbl q hq')
 ·obtain ⟨h1, h2⟩ := hg g hgg
  have hq' : g = C.mb ∨ g ∈ C.s.blocks ∨ g ∈ F' := by
   rcases List.mem_cons.1 hq with h3 | h3
   ·exact .inl h3
   ·exact .inr (List.mem_append.1 h3)
  have hml := h.aB.met.lt
  have hml' : C.mb < w.heap.size := hml
  rcases h1 with h1 | h1
  ·have hr := h.za g h1
   simp only [List.mem_cons, List.mem_append, not_or] at hr
   rcases hq' with h3 | h3 | h3
   ·exact hr.1 h3
   ·exact hr.2.1 h3
   ·rcases hF g h3 with h4 | h4
    ·exact hr.2.2 h4
    ·exact h4.2 (aW.2 (.inr (.inr (.inr h1))))
  ·rcases hq' with h3 | h3 | h3
   ·omega
   ·have := hl g (hbl g h3); omega
   ·exact h2 h1 h3
 ·have hz := h.mod.size
  rcases aW.1 hq with h1 | h1 | h1 | h1
  ·exact h.sub q (aW.2 (.inl h1))
  ·exact h.sub q (aW.2 (.inr (.inl h1)))
  ·rcases hF q h1 with h2 | h2
   ·exact h.sub q (aW.2 (.inr (.inr (.inl h2))))
   ·exact h2.1
  ·rcases (hg q h1).1 with h2 | h2
   ·exact h.sub q (aW.2 (.inr (.inr (.inr h2))))
   ·right; omega
 ·exact h.mod.trans hm (fun _ hh _ => hh) (fun q hq hlt => by
   rcases h.sub q (hS q hq) with h1 | h1
   ·exact h1
   ·omega)
theorem aA.upd (h : aA W0 E H C w0 G0 w F st) (A' : cK) (v' : Value) (st' : lH) (hm : Mod S w w') (hS : ∀ q ∈ S, q ∈ C.foot F) (Vw : dR w' C.sb C.qb C.rb C.jb (C.K : Int) st'.b A'.val st'.ids) (PV : y9 W0 C.mb H A' w' F' st'.a) (hmet : aO w' (cmp { C with A := A', v := v' } st') st'.x) (hrow : w'.ownsRow W0.heap.size 88 1 v' st'.a.Ns.length (jD A' st'.a.Ns.length)) (hpos : 1 ≤ st'.a.Ns.length) (hF : ∀ q ∈ F', q ∈ F ∨ w.heap.size ≤ q) (hg : ∀ g, v'.ownBlock = some g → (C.v.ownBlock = some g ∨ w.heap.size ≤ g) ∧ (w.heap.size ≤ g → g ∉ F')) :
  aA W0 E H { C with A := A', v := v' } w0 G0 w' F' st' :=
 h.ZN A' v' st' hm hS Vw PV hmet hrow hpos (fun q hq => (hF q hq).imp (fun hh => hh) (fun hh => ⟨.inr (Nat.le_trans h.mod.size hh), fun hf => by have := h.fQ q hf; omega⟩)) hg
theorem lC (h : aA W0 E H C w0 G0 w F st) (hm : Mod S w w') (hS : ∀ q ∈ S, q = C.mb ∨ q ∈ C.s.blocks ∨ q ∈ F) : w'.ownsRow W0.heap.size 88 1 C.v st.a.Ns.length (jD C.A st.a.Ns.length) :=
 fH h.row hm (fun k hk FT => h.za k hk (by
  show k ∈ C.mb :: (C.s.blocks ++ F)
  rcases hS k FT with h1 | h1 | h1 <;> simp [h1]))
theorem wJ (h : aA W0 E H C w0 G0 w F st) : ∀ g, C.v.ownBlock = some g → (C.v.ownBlock = some g ∨ w.heap.size ≤ g) ∧ (w.heap.size ≤ g → g ∉ F) := fun g hg => ⟨.inl hg, fun hh => by have := (h.row.lt g hg).2; omega⟩
theorem aA.below (h : aA W0 E H C w0 G0 w F st) (hb : Below w.heap.size w w') : aA W0 E H C w0 G0 w' F st :=
 h.upd C.A C.v st (S := []) (Mod.of_below hb []) (by simp) (h.aB.aB.mod (Mod.of_below hb []) (by simp)) (h.hp.yg h.aB.pool (Mod.of_below hb []) (by simp)) (h.aB.met.below hb) (lC h (Mod.of_below hb []) (by simp)) h.pos (fun _ hq => .inl hq) (wJ h)
theorem aA.met (h : aA W0 E H C w0 G0 w F st) (hM : aO w' (cmp C st) x') (hm : Mod [C.mb] w w') : aA W0 E H C w0 G0 w' F { st with x := x' } :=
 h.upd C.A C.v { st with x := x' } hm (fun q hq => aW.2 (.inl (by simpa using hq))) (h.aB.aB.mod hm (fun q hq dI => (h.aB.apart q hq).2.1 (List.mem_singleton.1 dI))) (h.hp.yg h.aB.pool hm (fun q hq dI => h.hp.mb h.aB.pool (by show C.mb ∈ F; rw [← List.mem_singleton.1 dI]; exact hq))) hM (lC (st := st) h hm (fun q hq => .inl (List.mem_singleton.1 hq))) h.pos (fun _ hq => .inl hq) (wJ h)
theorem aA.Sc (h : aA W0 E H C w0 G0 w F st) (n : Nat) : aA W0 E H C w0 G0 (w.setCell ⟨C.mb, 15, none⟩ (.int .i64 (n : Int))) F { st with len := n } := by
 have hm : Mod [C.mb] w (w.setCell ⟨C.mb, 15, none⟩ (.int .i64 (n : Int))) := (Mod.refl _ w).ak (.inl (by simp)) _ _
 refine h.upd C.A C.v { st with len := n } hm (fun q hq => aW.2 (.inl (by simpa using hq))) (h.aB.aB.mod hm (fun q hq dI => (h.aB.apart q hq).2.1 (List.mem_singleton.1 dI))) (h.hp.yg h.aB.pool hm (fun q hq dI => h.hp.mb h.aB.pool (by show C.mb ∈ F; rw [← List.mem_singleton.1 dI]; exact hq))) ⟨rfl, ?_⟩ (lC (st := st) h hm (fun q hq => .inl (List.mem_singleton.1 hq))) h.pos (fun _ hq => .inl hq) (wJ h)
 exact Met.blk h.aB.met |>.ak 15 _
theorem aA.cells (h : aA W0 E H C w0 G0 w F st) : w.cell? ⟨C.mb, 0, none⟩ = some (.int .i64 (C.K : Int)) ∧ w.cell? ⟨C.mb, 1, none⟩ = some (.int .i64 (C.M : Int)) ∧ w.cell? ⟨C.mb, 11, none⟩ = some C.v ∧ w.cell? ⟨C.mb, 12, none⟩ = some (.pointer (some ⟨C.A.db, 0, none⟩)) ∧ w.cell? ⟨C.mb, 13, none⟩ = some (kQ C.A st.a.cop) ∧ w.cell? ⟨C.mb, 14, none⟩ = some (.pointer (some ⟨C.sb, 0, none⟩)) ∧ w.cell? ⟨C.mb, 15, none⟩ = some (.int .i64 (st.len : Int)) :=
 ⟨(Met.blk h.aB.met).cell 0, (Met.blk h.aB.met).cell 1, (Met.blk h.aB.met).cell 11, (Met.blk h.aB.met).cell 12, (Met.blk h.aB.met).cell 13, (Met.blk h.aB.met).cell 14, (Met.blk h.aB.met).cell 15⟩
theorem aA.frozen (h : aA W0 E H C w0 G0 w F st) (i : Nat) : w.frozen? ⟨C.mb, i, none⟩ = false := (Met.blk h.aB.met).frozen i
theorem aA.rowAt (h : aA W0 E H C w0 G0 w F st) : ∃ vb cap, C.v = .slice (some ⟨vb, 0, none⟩) st.a.Ns.length cap ∧ ∀ id, id < st.a.Ns.length → w.cell? ⟨vb, id, none⟩ = some (.pointer (some ⟨C.A.nb id, 0, none⟩)) := by
 have hr := h.row
 obtain ⟨A, c, hv⟩ := dB hr
 rw [hv] at hr
 obtain ⟨rb, rfl, _, hra, _⟩ := eF.qK hr (by have := h.pos; omega)
 exact ⟨rb, c, hv, fun id hid => hra.at_ id _ (by simp [hid])⟩
theorem aA.node (h : aA W0 E H C w0 G0 w F st) {id : Nat} {N : Nd} (hN : st.a.Ns[id]? = some N) : ∃ Fi, bK w (C.A.nb id) Fi N ∧ dO H N ∧ C.mb ∉ Fi ∧ (∀ q ∈ Fi, W0.heap.size ≤ q) ∧ (∀ q ∈ Fi, q ∈ F) ∧
  ∀ (w' : World) (F' S : List Nat) (N' : Nd) (x' : bI), bK w' (C.A.nb id) F' N' → dO H N' → (∀ q ∈ F', q ∈ Fi ∨ w.heap.size ≤ q) → aO w' (cmp C st) x' → Mod S w w' → (∀ q ∈ S, q = C.mb ∨ q ∈ Fi) → ∃ F2, aA W0 E H C w0 G0 w' F2 { st with a := { st.a with Ns := st.a.Ns.set id N' }, x := x' } := by
 obtain ⟨Fs, hF, hp⟩ := h.aB.pool
 obtain ⟨hA, hO⟩ := hp.kP id N hN
 have hid := aX hN
 have hin : ∀ q ∈ Fs id, q ∈ F := fun q hq => hF ▸ aP.2 (.inl ⟨id, hid, hq⟩)
 refine ⟨Fs id, hA, hO, fun hq => hp.mb (aP.2 (.inl ⟨id, hid, hq⟩)), fun q hq => hp.low q (aP.2 (.inl ⟨id, hid, hq⟩)), hin, fun w' F' S N' x' hA' hO' hF' hM hm hS => ?_⟩
 have hP := hp.node hN hA' hO' hF' hm hS h.aB.env.size h.aB.met.lt
 have hS' : ∀ q ∈ S, q = C.mb ∨ q ∈ C.s.blocks ∨ q ∈ F := fun q hq => (hS q hq).imp (fun hh => hh) (fun hh => .inr (hin q hh))
 have hlen : (st.a.Ns.set id N').length = st.a.Ns.length := List.length_set
 refine ⟨_, h.upd C.A C.v { st with a := { st.a with Ns := st.a.Ns.set id N' }, x := x' } hm (fun q hq => ?_) (h.aB.aB.mod hm (fun q hq dI => ?_)) ⟨_, rfl, hP⟩ hM ?_ ?_ (fun q hq => ?_) (fun g hg => ⟨.inl hg, fun hh => by have := (h.row.lt g hg).2; omega⟩)⟩
 ·rcases hS' q hq with h1 | h1 | h1
  ·exact aW.2 (.inl h1)
  ·exact aW.2 (.inr (.inl h1))
  ·exact aW.2 (.inr (.inr (.inl h1)))
 ·have ha := h.aB.apart q hq
  rcases hS q dI with h1 | h1
  ·exact ha.2.1 h1
  ·exact ha.1 (hin q h1)
 ·show w'.ownsRow W0.heap.size 88 1 C.v (st.a.Ns.set id N').length (jD C.A (st.a.Ns.set id N').length)
  rw [hlen]
  exact lC h hm hS'
 ·show 1 ≤ (st.a.Ns.set id N').length
  rw [hlen]; exact h.pos
 ·rcases aP.1 hq with ⟨i, hi, hq2⟩ | hq2
  ·have hi' : i < st.a.Ns.length := by simpa using hi
   by_cases e1 : i = id
   ·simp only [if_pos e1] at hq2
    rcases hF' q hq2 with h6 | h6
    ·exact .inl (hin q h6)
    ·exact .inr h6
   ·simp only [if_neg e1] at hq2
    exact .inl (hF ▸ aP.2 (.inl ⟨i, hi', hq2⟩))
  ·exact .inl (hF ▸ aP.2 (.inr hq2))
theorem aA.again (h : aA W0 E H C w0 G0 w F st) : aA W0 E H C w (C.foot F) w F st := ⟨h.aB, h.row, h.za, h.pos, h.kk, h.mm, h.aB.env.size, fun _ hq => .inl hq, Mod.refl _ _⟩
theorem aA.chain {C' : eB} {st' : lH} (h : aA W0 E H C w0 G0 w F st) (k : aA W0 E H C' w (C.foot F) w' F' st') : aA W0 E H C' w0 G0 w' F' st' :=
 ⟨k.aB, k.row, k.za, k.pos, k.kk, k.mm, h.o9, fun q hq => by
  have hz := h.mod.size
  rcases k.sub q hq with h1 | h1
  ·exact h.sub q h1
  ·right; omega, h.mod.trans k.mod (fun _ hh _ => hh) (fun q hq hl => by
   rcases h.sub q hq with h1 | h1
   ·exact h1
   ·omega)⟩
theorem aA.served (h : aA W0 E H C w0 G0 w F st) {b' : Int} {aI : List Nat} {a' : Pool} (hs : bB W0 E (cmp C st) (y9 W0 C.mb H C.A) C.s w F w' b' aI a' F' x') (hlen : a'.Ns.length = st.a.Ns.length) (Ej : a'.cop.isSome = st.a.cop.isSome) : aA W0 E H C w0 G0 w' F' { st with a := a', ids := aI, b := b', x := x' } := by
 have hm := hs.mod
 have hm' : Mod (C.mb :: (C.s.blocks ++ F)) w w' := hm
 refine h.upd C.A C.v { st with a := a', ids := aI, b := b', x := x' } hm' (fun q hq => ?_) hs.aB hs.pool ?_ ?_ (by show 1 ≤ a'.Ns.length; rw [hlen]; exact h.pos) hs.sub (fun g hg => ⟨.inl hg, fun hh => by have := (h.row.lt g hg).2; omega⟩)
 ·simp only [List.mem_cons, List.mem_append] at hq
  rcases hq with h1 | h1 | h1
  ·exact aW.2 (.inl h1)
  ·exact aW.2 (.inr (.inl h1))
  ·exact aW.2 (.inr (.inr (.inl h1)))
 ·have := hs.met
  have hc : cmp C { st with a := a', ids := aI, b := b', x := x' } = cmp C st := by unfold cmp kQ; simp only; rw [Ej]
  show aO w' (cmp C { st with a := a', ids := aI, b := b', x := x' }) x'
  rw [hc]; exact this
 ·show w'.ownsRow W0.heap.size 88 1 C.v a'.Ns.length (jD C.A a'.Ns.length)
  rw [hlen]
  exact lC h hm' (fun q hq => by simpa [List.mem_cons, List.mem_append] using hq)
end
end
section
variable {W0 w w0 : World} {E : Nat → Addr} {H : Nat → Nat} {C : eB} {F G0 : List Nat} {st : lH}
def aZ (b : Nat) : Value := .pointer (some ⟨b, 0, none⟩)
theorem Vx (h : aA W0 E H C w0 G0 w F st) : Calls Tryz.prog 30 #[aZ C.mb] w fun e w' => e = .returned (.int .i64 (st.len : Int)) ∧ w = w' := by
 have HC := qd h
 obtain ⟨c0, c1, c11, c12, c13, c14, c15⟩ := HC.out.cells
 clear h
 unfold aZ
 go_in
 go_wp2
 go_ret
 exact ⟨rfl, rfl⟩
theorem PW (h : aA W0 E H C w0 G0 w F st) : Calls Tryz.prog 31 #[aZ C.mb] w fun e w' => e = .returned (.int .i64 (st.a.Ns.length : Int)) ∧ w = w' := by
 have HC := qd h
 obtain ⟨c0, c1, c11, c12, c13, c14, c15⟩ := HC.out.cells
 obtain ⟨vb, cap, hv, _⟩ := h.rowAt
 rw [hv] at c11
 generalize st.a.Ns.length = n at *
 clear h hv HC
 unfold aZ
 go_in
 go_wp2
 go_ret
 exact ⟨rfl, rfl⟩
theorem sI (h : aA W0 E H C w0 G0 w F st) (hash id : Nat) (h64 : hash < 18446744073709551616) (hid : st.a.l.getD (dP hash st.a.d) 0 = id) (hn : id < st.a.Ns.length) : Calls Tryz.prog 44 #[aZ C.mb, .int .u64 (hash : Int)] w fun e w' => e = .returned (.tuple #[.int .i64 (id : Int), aN (C.A.nb id)]) ∧ Below w.heap.size w w' := by
 have HC := qd h
 obtain ⟨c0, c1, c11, c12, c13, c14, c15⟩ := HC.out.cells
 obtain ⟨Fs, hF, hp⟩ := h.aB.pool
 have HD := qd (Zv C.A.db C.A.eb st.a.d st.a.l hash h64 w hp.dir)
 rw [hid] at HD
 clear h hp hF
 unfold gZ at HD
 unfold aZ aN
 go_in
 go_wp2_with fail
 refine HD.out.mono ?_
 rintro x w1 ⟨rfl, hd⟩
 have hb : Below w.heap.size w w1 := hd ▸ (Below.refl _ _).drew
 have HB := qd hb
 replace HC := qd (HC.out.below hb)
 clear c0 c1 c11 c12 c13 c14 c15 hd hb HD
 obtain ⟨c0, c1, c11, c12, c13, c14, c15⟩ := HC.out.cells
 obtain ⟨vb, cap, hv, hr⟩ := HC.out.rowAt
 rw [hv] at c11
 have cr := hr id hn
 have hn' : (id : Int) < (st.a.Ns.length : Int) := by omega
 have hi0 : (0 : Int) ≤ (id : Int) := by omega
 generalize st.a.Ns.length = n at *
 clear hv hr hid
 go_wp2
 go_region
 go_wp2
 refine bodyPost_ret (v := .tuple #[.int .i64 (id : Int), .pointer (some ⟨C.A.nb id, 0, none⟩)]) (by simp [results, Tryz.results44, go_sem]) rfl ⟨rfl, fV HB.out (Below.refl _ _).drew⟩
end
section
variable {S l' : List Nat} {pX : Option (Nat × List Nat)}
section
variable {W0 : World} {E : Nat → Addr} {H : Nat → Nat} {C : eB} {w0 : World} {G0 : List Nat} {w w' : World} {F : List Nat} {st : lH}
theorem qE (h : aA W0 E H C w0 G0 w F st) (n : Nat) (hn : 1 ≤ n) : Calls Tryz.prog 79 #[.pointer (some ⟨C.mb, 3, none⟩), .int .i64 (n : Int)] w fun e w' => e = .returned undef ∧ aA W0 E H C w0 G0 w' F { st with x := st.x.add (cU (n : Int)) 1 } :=
 (qO C.mb _ _ _ 3 st.x.all st.x.last C.m (n : Int) (by omega) w h.aB.met).mono fun e w' ⟨h1, h2, h3⟩ => ⟨h1, h.met h2 h3⟩
theorem aA.sched (h : aA W0 E H C w0 G0 w F st) {aI : List Nat} (hs : dR w' C.sb C.qb C.rb C.jb (C.K : Int) st.b C.A.val aI) (hm : Mod S w w') (hS : ∀ q ∈ S, q ∈ C.s.blocks) : aA W0 E H C w0 G0 w' F { st with ids := aI } := by
 have hb : ∀ q ∈ S, q ∉ F ∧ q ≠ C.mb ∧ W0.heap.size ≤ q := fun q hq => h.aB.apart q (hS q hq)
 exact h.upd C.A C.v { st with ids := aI } hm (fun q hq => aW.2 (.inr (.inl (hS q hq)))) hs (h.hp.yg h.aB.pool hm (fun q hq dI => (hb q dI).1 hq)) (h.aB.met.mod hm (fun hq => (hb _ hq).2.1 rfl)) (lC (st := st) h hm (fun q hq => .inr (.inl (hS q hq)))) h.pos (fun _ hq => .inl hq) (wJ (st := st) h)
theorem iL.PX {mb : Nat} {A : cK} {Fs : Nat → List Nat} {a : Pool} (h : iL W0 mb H A w Fs a) (hD : dh w' A.db A.eb a.d l') (hC : ∀ (next : Nat) (lf : List Nat), pX = some (next, lf) → iU w' A.cb A.db A.eb A.fb A.fe a.d next l' lf) (hi : pX.isSome = a.cop.isSome) (hm : Mod S w w') (hS : ∀ q ∈ S, q ∈ A.dS a.cop) :
  iL W0 mb H A w' Fs { a with l := l', cop := pX } ∧ gD A Fs { a with l := l', cop := pX } = gD A Fs a := by
 have hd : A.dS pX = A.dS a.cop := by unfold cK.dS; rw [hi]
 have hf : gD A Fs { a with l := l', cop := pX } = gD A Fs a := by unfold gD; rw [← hd]
 refine ⟨⟨fun i N hN => ⟨(h.kP i N hN).1.mod hm (fun q hq dI => h.uJ i (aX hN) q hq (hS q dI)), (h.kP i N hN).2⟩, hD, hC, h.sep, fun i hi q hq => by show q ∉ A.dS pX; rw [hd]; exact h.uJ i hi q hq, fun q hq => h.low q (hf ▸ hq), fun hq => h.mb (hf ▸ hq), h.wI⟩, hf⟩
theorem aA.PX (h : aA W0 E H C w0 G0 w F st) (hD : dh w' C.A.db C.A.eb st.a.d l') (hC : ∀ (next : Nat) (lf : List Nat), pX = some (next, lf) → iU w' C.A.cb C.A.db C.A.eb C.A.fb C.A.fe st.a.d next l' lf) (hi : pX.isSome = st.a.cop.isSome) (hm : Mod S w w') (hS : ∀ q ∈ S, q ∈ C.A.dS st.a.cop) :
  aA W0 E H C w0 G0 w' F { st with a := { st.a with l := l', cop := pX } } := by
 obtain ⟨Fs, hF, hp⟩ := h.aB.pool
 obtain ⟨hp', hf⟩ := hp.PX hD hC hi hm hS
 have WZ : ∀ q ∈ S, q ∈ F := fun q hq => hF ▸ aP.2 (.inr (hS q hq))
 have hcm : cmp C { st with a := { st.a with l := l', cop := pX } } = cmp C st := by unfold cmp kQ; simp only; rw [hi]
 refine h.upd C.A C.v { st with a := { st.a with l := l', cop := pX } } hm (fun q hq => aW.2 (.inr (.inr (.inl (WZ q hq))))) (h.aB.aB.mod hm (fun q hq dI => (h.aB.apart q hq).1 (WZ q dI))) ⟨Fs, hF.trans hf.symm, hp'⟩ ?_ (lC (st := st) h hm (fun q hq => .inr (.inr (WZ q hq)))) h.pos (fun _ hq => .inl hq) (wJ (st := st) h)
 show aO w' (cmp C { st with a := { st.a with l := l', cop := pX } }) st.x
 rw [hcm]
 exact h.aB.met.mod hm (fun hq => h.hp.mb h.aB.pool (WZ _ hq))
end
theorem LP {W0 : World} {E : Nat → Addr} {H : Nat → Nat} {C : eB} {w0 : World} {G0 : List Nat} {w : World} {F : List Nat} {st : lH} (h : aA W0 E H C w0 G0 w F st) (id : Nat) (t : TypeId) (p : Addr) (hv : C.A.val id = .iface t (.pointer (some p))) (hid : id ∉ st.ids) (jB : id ≤ 1000) (hroom : st.ids.length < 40) : Calls Tryz.prog 75 #[aZ C.mb, .int .i64 (id : Int), .iface t (.pointer (some p))] w fun e w' => e = .returned undef ∧ aA W0 E H C w0 G0 w' F { st with ids := st.ids ++ [id], x := st.x.add (cU 1) 1 } := by
 have HC := qd h
 obtain ⟨c0, c1, c11, c12, c13, c14, c15⟩ := HC.out.cells
 have HU := qd (qE h 1 (Nat.le_refl _))
 have HV := qd hv
 have lX := qd hid
 have jL := qd hroom
 clear h hv hid hroom
 unfold aZ
 go_in
 go_wp2_with fail
 refine HU.out.mono ?_
 rintro x w1 ⟨rfl, h1⟩
 clear HC HU c0 c1 c11 c12 c13 c14 c15
 have HC := qd h1
 clear h1
 obtain ⟨c0, c1, c11, c12, c13, c14, c15⟩ := HC.out.cells
 have HA := qd (RQ C.sb C.qb C.rb C.jb C.K st.b C.A.val st.ids id lX.out jB jL.out t p HV.out w1 HC.out.aB.aB)
 unfold eu at HA
 go_wp2_with fail
 refine HA.out.mono ?_
 rintro x w2 ⟨rfl, h2, h3⟩
 have pq := qd (HC.out.sched h2 h3 (by intro q hq; simp [eB.s, SP.blocks] at hq ⊢; omega))
 clear c0 c1 c11 c12 c13 c14 c15 HC HA h2 h3
 go_wp2_with fail
 refine (jg w2).mono ?_
 rintro x w3 ⟨rfl, rfl⟩
 go_wp2
 go_end0
 exact ⟨rfl, pq.out⟩
theorem Jz {W0 : World} {E : Nat → Addr} {H : Nat → Nat} {C : eB} {w0 : World} {G0 : List Nat} {w : World} {F : List Nat} {st : lH} (h : aA W0 E H C w0 G0 w F st) (p pd id : Nat) (h1 : pd ≤ st.a.d) (hp : p < 2 ^ pd) (hc : st.a.cop = none) : Calls Tryz.prog 129 #[aZ C.mb, .int .i64 (p : Int), .int .i64 (pd : Int), .int .i64 (id : Int)] w fun e w' => ∃ n, 1 ≤ n ∧ e = .returned (.int .i64 ((n : Nat) : Int)) ∧ aA W0 E H C w0 G0 w' F { st with a := { st.a with l := jo st.a.l (bW p pd st.a.d) id (2 ^ (st.a.d - pd)), cop := st.a.cop.map fun c => (c.1, oh c.2 (jo st.a.l (bW p pd st.a.d) id (2 ^ (st.a.d - pd))) (bW p pd st.a.d) (min (bW p pd st.a.d + 2 ^ (st.a.d - pd)) c.1 - bW p pd st.a.d)) } } := by
 obtain ⟨Fs, hF, hpo⟩ := h.aB.pool
 have HC := qd h
 obtain ⟨c0, c1, c11, c12, c13, c14, c15⟩ := HC.out.cells
 unfold kQ at c13
 rw [hc] at c13
 simp only [Option.isSome_none, if_true, Bool.false_eq_true, if_false] at c13
 have HS := qd (NU C.A.db C.A.eb st.a.d st.a.l p pd h1 hp id w hpo.dir)
 have hpos := pos2 (st.a.d - pd)
 obtain ⟨n, hn⟩ : ∃ n, n = 2 ^ (st.a.d - pd) := ⟨_, rfl⟩
 have hn1 : 1 ≤ n := by omega
 have ze := qd hc
 have HN := qd hn
 have HS2 := qd (show Calls Tryz.prog 168 #[gZ C.A.db, .int .i64 (p : Int), .int .i64 (pd : Int), .int .i64 (id : Int)] w fun e w' => e = .returned (.tuple #[.int .i64 (n : Int), .nilIface]) ∧ dh w' C.A.db C.A.eb st.a.d (jo st.a.l (bW p pd st.a.d) id (2 ^ (st.a.d - pd))) ∧ Mod [C.A.eb] w w' from by rw [hn]; exact HS.out)
 clear HS
 have HS := HS2
 clear HS2 h hc hpo hF h1 hp hn hpos
 unfold gZ at HS
 unfold aZ
 go_in
 go_wp2_with fail
 refine HS.out.mono ?_
 rintro x w1 ⟨rfl, h3, h4⟩
 have pq := qd (HC.out.PX (pX := none) h3 (fun next lf he => by cases he) (by rw [ze.out]) h4 (by intro q hq; unfold cK.dS; simp at hq ⊢; omega))
 clear c0 c1 c11 c12 c13 c14 c15 h3 h4 HC HS
 go_wp2_with fail
 refine (sD (n : Int) w1).mono ?_
 rintro x w2 ⟨rfl, rfl⟩
 go_wp2
 go_ret
 exact ⟨n, hn1, rfl, by have hh := pq.out; rw [ze.out]; exact hh⟩
theorem JA {W0 : World} {E : Nat → Addr} {H : Nat → Nat} {C : eB} {w0 : World} {G0 : List Nat} {w : World} {F : List Nat} {st : lH} (h : aA W0 E H C w0 G0 w F st) (p pd id : Nat) (h1 : pd ≤ st.a.d) (hp : p < 2 ^ pd) (c : Nat × List Nat) (hc : st.a.cop = some c) : Calls Tryz.prog 129 #[aZ C.mb, .int .i64 (p : Int), .int .i64 (pd : Int), .int .i64 (id : Int)] w fun e w' => ∃ n, 1 ≤ n ∧ e = .returned (.int .i64 ((n : Nat) : Int)) ∧ aA W0 E H C w0 G0 w' F { st with a := { st.a with l := jo st.a.l (bW p pd st.a.d) id (2 ^ (st.a.d - pd)), cop := st.a.cop.map fun c => (c.1, oh c.2 (jo st.a.l (bW p pd st.a.d) id (2 ^ (st.a.d - pd))) (bW p pd st.a.d) (min (bW p pd st.a.d + 2 ^ (st.a.d - pd)) c.1 - bW p pd st.a.d)) } } := by
 obtain ⟨Fs, hF, hpo⟩ := h.aB.pool
 have HC := qd h
 obtain ⟨c0, c1, c11, c12, c13, c14, c15⟩ := HC.out.cells
 unfold kQ at c13
 rw [hc] at c13
 simp only [Option.isSome_some, if_true, Bool.false_eq_true, if_false] at c13
 have HS := qd (M5 C.A.cb C.A.db C.A.eb C.A.fb C.A.fe st.a.d c.1 st.a.l c.2 p pd id h1 hp w (hpo.cop c.1 c.2 hc))
 have hpos := pos2 (st.a.d - pd)
 obtain ⟨n, hn⟩ : ∃ n, n = 2 ^ (st.a.d - pd) + 2 * (min (bW p pd st.a.d + 2 ^ (st.a.d - pd)) c.1 - bW p pd st.a.d) := ⟨_, rfl⟩
 have hn1 : 1 ≤ n := by omega
 have ze := qd hc
 rw [← hn] at HS
 clear h hc hpo hF h1 hp hn hpos
 unfold oV at HS
 unfold aZ
 go_in
 go_wp2_with fail
 refine HS.out.mono ?_
 rintro x w1 ⟨rfl, h3, h4⟩
 have pq := qd (HC.out.PX (pX := some (c.1, _)) h3.old (fun next lf he => by cases he; exact h3) (by rw [ze.out]; rfl) h4 (by intro q hq; unfold cK.dS; rw [ze.out]; simp at hq ⊢; omega))
 clear c0 c1 c11 c12 c13 c14 c15 h3 h4 HC HS
 go_wp2_with fail
 refine (sD (n : Int) w1).mono ?_
 rintro x w2 ⟨rfl, rfl⟩
 go_wp2
 go_ret
 exact ⟨n, hn1, rfl, by have hh := pq.out; rw [ze.out]; exact hh⟩
end
end Go.Proofs.YtfojgfddgplinabGreatDoor
