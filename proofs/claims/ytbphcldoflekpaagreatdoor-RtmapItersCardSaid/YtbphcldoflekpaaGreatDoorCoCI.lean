/- A core in the heap: its block, its nodes' row, its scheduler, its pool. -/
import Derived.Test.YtbphcldoflekpaaGreatDoorCoCF
import Derived.Test.YtbphcldoflekpaaGreatDoorLaneP
namespace Go.Proofs.YtbphcldoflekpaaGreatDoor
set_option maxRecDepth 100000
set_option maxHeartbeats 4000000
open Go.RowKit dA
section
variable {F' S : List Nat} {x' : bM}
structure gV where
 mb : Nat
 sb : Nat
 qb : Nat
 rb : Nat
 jb : Nat
 A : dw
 v : Value
 K : Nat
 M : Nat
 I : Nat
 m : Int
structure kr where
 a : Pool
 ids : List Nat
 len : Nat
 b : Int
 x : bM
def dw.val (A : dw) (id : Nat) : Value := .iface (A.jt id) (.pointer (some (A.ja id)))
def gV.s (C : gV) : SP := ⟨C.sb, C.qb, C.rb, C.jb, (C.K : Int), C.A.val⟩
def kM (A : dw) (c : Option (Nat × List Nat)) : Value := .pointer (if c.isSome then some ⟨A.cb, 0, none⟩ else none)
def cmp (C : gV) (st : kr) : MP := ⟨C.mb, 103, [nI C.K, nI C.M, nI C.I], [C.v, pQ C.A.db, kM C.A st.a.cop, pQ C.sb, nI st.len], 3, C.m⟩
def gV.foot (C : gV) (F : List Nat) : List Nat := C.mb :: (C.s.blocks ++ (F ++ C.v.ownBlock.toList))
def jA (A : dw) (n : Nat) : List Value := ptrs ((List.range n).map A.nb)
structure aA (W0 : World) (E : Nat → Addr) (H : Nat → Nat) (C : gV) (w0 : World) (G0 : List Nat) (w : World) (F : List Nat) (st : kr) : Prop where
 aC : bG W0 E (cmp C st) (yT W0 C.mb H C.A) C.s w F w st.b st.ids st.a F st.x
 row : w.ownsRow W0.heap.size 91 1 C.v st.a.Ns.length (jA C.A st.a.Ns.length)
 yU : mM (cmp C st) C.s F C.v
 pos : 1 ≤ st.a.Ns.length
 kk : 1 ≤ C.K ∧ C.K ≤ 64
 mm : 1 ≤ C.M ∧ C.M ≤ 192
 oq : W0.heap.size ≤ w0.heap.size
 sub : ∀ q ∈ C.foot F, q ∈ G0 ∨ w0.heap.size ≤ q
 mod : Mod G0 w0 w
section
variable {W0 : World} {E : Nat → Addr} {H : Nat → Nat} {C : gV} {w0 : World} {G0 : List Nat} {w w' : World} {F : List Nat} {st : kr}
theorem aA.hp (h : aA W0 E H C w0 G0 w F st) : iH W0 E (cmp C st) C.A.jt C.A.ja (yT W0 C.mb H C.A) Pool.can Pool.left (Pool.step H) := Co (P := cmp C st) C.A h.aC.qg
theorem aZ {q : Nat} : q ∈ C.foot F ↔ q = C.mb ∨ q ∈ C.s.blocks ∨ q ∈ F ∨ C.v.ownBlock = some q := by
 unfold gV.foot
 simp [eq_comm]
theorem aA.iF (h : aA W0 E H C w0 G0 w F st) : ∀ q ∈ C.foot F, q < w.heap.size := by
 intro q hq
 have hl := h.aC.iF h.hp
 rcases aZ.1 hq with rfl | h1 | h1 | h1
 ·exact h.aC.met.lt
 ·exact hl q (by simp [h1])
 ·exact hl q (by simp [h1])
 ·exact (h.row.lt q h1).2
theorem aA.VX (h : aA W0 E H C w0 G0 w F st) : ∀ q ∈ C.foot F, W0.heap.size ≤ q := by
 intro q hq
 rcases aZ.1 hq with rfl | h1 | h1 | h1
 ·exact h.aC.qg
 ·exact (h.aC.apart q h1).2.2
 ·exact (h.hp.lt h.aC.pool q h1).2
 ·exact (h.row.lt q h1).1
theorem aA.aac (h : aA W0 E H C w0 G0 w F st) (A' : dw) (v' : Value) (st' : kr) (hm : Mod S w w') (hS : ∀ q ∈ S, q ∈ C.foot F) (VY : dS w' C.sb C.qb C.rb C.jb (C.K : Int) st'.b A'.val st'.ids) (Qr : yT W0 C.mb H A' w' F' st'.a) (hmet : aN w' (cmp { C with A := A', v := v' } st') st'.x) (hrow : w'.ownsRow W0.heap.size 91 1 v' st'.a.Ns.length (jA A' st'.a.Ns.length)) (hpos : 1 ≤ st'.a.Ns.length) (hF : ∀ q ∈ F', q ∈ F ∨ ((q ∈ G0 ∨ w0.heap.size ≤ q) ∧ q ∉ C.foot F)) (hg : ∀ g, v'.ownBlock = some g → (C.v.ownBlock = some g ∨ w.heap.size ≤ g) ∧ (w.heap.size ≤ g → g ∉ F')) :
  aA W0 E H { C with A := A', v := v' } w0 G0 w' F' st' := by
 have hl := h.iF
 have hbl : ∀ q ∈ C.s.blocks, q ∈ C.foot F := fun q hq => aZ.2 (.inr (.inl hq))
 refine ⟨bG.start (P := cmp { C with A := A', v := v' } st') (s := ({ C with A := A', v := v' } : gV).s) VY Qr hmet (h.aC.env.mod hm (fun q hq => h.VX q (hS q hq))) (fun q hq => ?_) h.aC.qg, hrow, fun g hgg hq => ?_, hpos, h.kk, h.mm, h.oq, fun q hq => ?_, ?_⟩
 ·have hq' : q ∈ C.s.blocks := hq
  have ha := h.aC.apart q hq'
  refine ⟨fun hqF => ?_, ha.2⟩
  rcases hF q hqF with h1 | h1
  ·exact ha.1 h1
  ·exact h1.2 (hbl q hq')
 ·obtain ⟨h1, h2⟩ := hg g hgg
  have hq' : g = C.mb ∨ g ∈ C.s.blocks ∨ g ∈ F' := by
   rcases List.mem_cons.1 hq with h3 | h3
   ·exact .inl h3
   ·exact .inr (List.mem_append.1 h3)
  have hml := h.aC.met.lt
  have hml' : C.mb < w.heap.size := hml
  rcases h1 with h1 | h1
  ·have hr := h.yU g h1
   simp only [List.mem_cons, List.mem_append, not_or] at hr
   rcases hq' with h3 | h3 | h3
   ·exact hr.1 h3
   ·exact hr.2.1 h3
   ·rcases hF g h3 with h4 | h4
    ·exact hr.2.2 h4
    ·exact h4.2 (aZ.2 (.inr (.inr (.inr h1))))
  ·rcases hq' with h3 | h3 | h3
   ·omega
   ·have := hl g (hbl g h3); omega
   ·exact h2 h1 h3
 ·have hz := h.mod.size
  rcases aZ.1 hq with h1 | h1 | h1 | h1
  ·exact h.sub q (aZ.2 (.inl h1))
  ·exact h.sub q (aZ.2 (.inr (.inl h1)))
  ·rcases hF q h1 with h2 | h2
   ·exact h.sub q (aZ.2 (.inr (.inr (.inl h2))))
   ·exact h2.1
  ·rcases (hg q h1).1 with h2 | h2
   ·exact h.sub q (aZ.2 (.inr (.inr (.inr h2))))
   ·right; omega
 ·exact h.mod.trans hm (fun _ hh _ => hh) (fun q hq hlt => by
   rcases h.sub q (hS q hq) with h1 | h1
   ·exact h1
   ·omega)
theorem aA.upd (h : aA W0 E H C w0 G0 w F st) (A' : dw) (v' : Value) (st' : kr) (hm : Mod S w w') (hS : ∀ q ∈ S, q ∈ C.foot F) (VY : dS w' C.sb C.qb C.rb C.jb (C.K : Int) st'.b A'.val st'.ids) (Qr : yT W0 C.mb H A' w' F' st'.a) (hmet : aN w' (cmp { C with A := A', v := v' } st') st'.x) (hrow : w'.ownsRow W0.heap.size 91 1 v' st'.a.Ns.length (jA A' st'.a.Ns.length)) (hpos : 1 ≤ st'.a.Ns.length) (hF : ∀ q ∈ F', q ∈ F ∨ w.heap.size ≤ q) (hg : ∀ g, v'.ownBlock = some g → (C.v.ownBlock = some g ∨ w.heap.size ≤ g) ∧ (w.heap.size ≤ g → g ∉ F')) :
  aA W0 E H { C with A := A', v := v' } w0 G0 w' F' st' :=
 h.aac A' v' st' hm hS VY Qr hmet hrow hpos (fun q hq => (hF q hq).imp (fun hh => hh) (fun hh => ⟨.inr (Nat.le_trans h.mod.size hh), fun hf => by have := h.iF q hf; omega⟩)) hg
theorem kZ (h : aA W0 E H C w0 G0 w F st) (hm : Mod S w w') (hS : ∀ q ∈ S, q = C.mb ∨ q ∈ C.s.blocks ∨ q ∈ F) : w'.ownsRow W0.heap.size 91 1 C.v st.a.Ns.length (jA C.A st.a.Ns.length) :=
 jy h.row hm (fun k hk FI => h.yU k hk (by
  show k ∈ C.mb :: (C.s.blocks ++ F)
  rcases hS k FI with h1 | h1 | h1 <;> simp [h1]))
theorem wo (h : aA W0 E H C w0 G0 w F st) : ∀ g, C.v.ownBlock = some g → (C.v.ownBlock = some g ∨ w.heap.size ≤ g) ∧ (w.heap.size ≤ g → g ∉ F) := fun g hg => ⟨.inl hg, fun hh => by have := (h.row.lt g hg).2; omega⟩
theorem aA.below (h : aA W0 E H C w0 G0 w F st) (hb : Below w.heap.size w w') : aA W0 E H C w0 G0 w' F st :=
 h.upd C.A C.v st (S := []) (Mod.of_below hb []) (by simp) (h.aC.aC.mod (Mod.of_below hb []) (by simp)) (h.hp.xX h.aC.pool (Mod.of_below hb []) (by simp)) (h.aC.met.below hb) (kZ h (Mod.of_below hb []) (by simp)) h.pos (fun _ hq => .inl hq) (wo h)
theorem aA.met (h : aA W0 E H C w0 G0 w F st) (hM : aN w' (cmp C st) x') (hm : Mod [C.mb] w w') : aA W0 E H C w0 G0 w' F { st with x := x' } :=
 h.upd C.A C.v { st with x := x' } hm (fun q hq => aZ.2 (.inl (by simpa [nI, nU] using hq))) (h.aC.aC.mod hm (fun q hq dH => (h.aC.apart q hq).2.1 (List.mem_singleton.1 dH))) (h.hp.xX h.aC.pool hm (fun q hq dH => h.hp.mb h.aC.pool (by show C.mb ∈ F; rw [← List.mem_singleton.1 dH]; exact hq))) hM (kZ (st := st) h hm (fun q hq => .inl (List.mem_singleton.1 hq))) h.pos (fun _ hq => .inl hq) (wo h)
theorem aA.SY (h : aA W0 E H C w0 G0 w F st) (n : Nat) : aA W0 E H C w0 G0 (w.setCell ⟨C.mb, 15, none⟩ (nI n)) F { st with len := n } := by
 have hm : Mod [C.mb] w (w.setCell ⟨C.mb, 15, none⟩ (nI n)) := (Mod.refl _ w).ak (.inl (by simp)) _ _
 refine h.upd C.A C.v { st with len := n } hm (fun q hq => aZ.2 (.inl (by simpa [nI, nU] using hq))) (h.aC.aC.mod hm (fun q hq dH => (h.aC.apart q hq).2.1 (List.mem_singleton.1 dH))) (h.hp.xX h.aC.pool hm (fun q hq dH => h.hp.mb h.aC.pool (by show C.mb ∈ F; rw [← List.mem_singleton.1 dH]; exact hq))) ⟨rfl, ?_⟩ (kZ (st := st) h hm (fun q hq => .inl (List.mem_singleton.1 hq))) h.pos (fun _ hq => .inl hq) (wo h)
 exact Met.blk h.aC.met |>.ak 15 _
theorem aA.cells (h : aA W0 E H C w0 G0 w F st) : w.cell? ⟨C.mb, 0, none⟩ = some (nI C.K) ∧ w.cell? ⟨C.mb, 1, none⟩ = some (nI C.M) ∧ w.cell? ⟨C.mb, 11, none⟩ = some C.v ∧ w.cell? ⟨C.mb, 12, none⟩ = some (pQ C.A.db) ∧ w.cell? ⟨C.mb, 13, none⟩ = some (kM C.A st.a.cop) ∧ w.cell? ⟨C.mb, 14, none⟩ = some (pQ C.sb) ∧ w.cell? ⟨C.mb, 15, none⟩ = some (nI st.len) :=
 ⟨(Met.blk h.aC.met).cell 0, (Met.blk h.aC.met).cell 1, (Met.blk h.aC.met).cell 11, (Met.blk h.aC.met).cell 12, (Met.blk h.aC.met).cell 13, (Met.blk h.aC.met).cell 14, (Met.blk h.aC.met).cell 15⟩
theorem aA.frozen (h : aA W0 E H C w0 G0 w F st) (i : Nat) : w.frozen? ⟨C.mb, i, none⟩ = false := (Met.blk h.aC.met).frozen i
theorem aA.rowAt (h : aA W0 E H C w0 G0 w F st) : ∃ vb cap, C.v = .slice (some ⟨vb, 0, none⟩) st.a.Ns.length cap ∧ ∀ id, id < st.a.Ns.length → w.cell? ⟨vb, id, none⟩ = some (.pointer (some ⟨C.A.nb id, 0, none⟩)) := by
 have hr := h.row
 obtain ⟨A, c, hv⟩ := dJ hr
 rw [hv] at hr
 obtain ⟨rb, rfl, _, hra, _⟩ := eO.uZ hr (by have := h.pos; omega)
 exact ⟨rb, c, hv, fun id hid => hra.at_ id _ (by simp [hid])⟩
theorem aA.node (h : aA W0 E H C w0 G0 w F st) {id : Nat} {N : Nd} (hN : st.a.Ns[id]? = some N) : ∃ Fi, bJ w (C.A.nb id) Fi N ∧ dL H N ∧ C.mb ∉ Fi ∧ (∀ q ∈ Fi, W0.heap.size ≤ q) ∧ (∀ q ∈ Fi, q ∈ F) ∧
  ∀ (w' : World) (F' S : List Nat) (N' : Nd) (x' : bM), bJ w' (C.A.nb id) F' N' → dL H N' → (∀ q ∈ F', q ∈ Fi ∨ w.heap.size ≤ q) → aN w' (cmp C st) x' → Mod S w w' → (∀ q ∈ S, q = C.mb ∨ q ∈ Fi) → ∃ F2, aA W0 E H C w0 G0 w' F2 { st with a := { st.a with Ns := st.a.Ns.set id N' }, x := x' } := by
 obtain ⟨Fs, hF, hp⟩ := h.aC.pool
 obtain ⟨hA, hO⟩ := hp.ko id N hN
 have hid := bA hN
 have hin : ∀ q ∈ Fs id, q ∈ F := fun q hq => hF ▸ aP.2 (.inl ⟨id, hid, hq⟩)
 refine ⟨Fs id, hA, hO, fun hq => hp.mb (aP.2 (.inl ⟨id, hid, hq⟩)), fun q hq => hp.low q (aP.2 (.inl ⟨id, hid, hq⟩)), hin, fun w' F' S N' x' hA' hO' hF' hM hm hS => ?_⟩
 have hP := hp.node hN hA' hO' hF' hm hS h.aC.env.size h.aC.met.lt
 have hS' : ∀ q ∈ S, q = C.mb ∨ q ∈ C.s.blocks ∨ q ∈ F := fun q hq => (hS q hq).imp (fun hh => hh) (fun hh => .inr (hin q hh))
 have hlen : (st.a.Ns.set id N').length = st.a.Ns.length := List.length_set
 refine ⟨_, h.upd C.A C.v { st with a := { st.a with Ns := st.a.Ns.set id N' }, x := x' } hm (fun q hq => ?_) (h.aC.aC.mod hm (fun q hq dH => ?_)) ⟨_, rfl, hP⟩ hM ?_ ?_ (fun q hq => ?_) (fun g hg => ⟨.inl hg, fun hh => by have := (h.row.lt g hg).2; omega⟩)⟩
 ·rcases hS' q hq with h1 | h1 | h1
  ·exact aZ.2 (.inl h1)
  ·exact aZ.2 (.inr (.inl h1))
  ·exact aZ.2 (.inr (.inr (.inl h1)))
 ·have ha := h.aC.apart q hq
  rcases hS q dH with h1 | h1
  ·exact ha.2.1 h1
  ·exact ha.1 (hin q h1)
 ·show w'.ownsRow W0.heap.size 91 1 C.v (st.a.Ns.set id N').length (jA C.A (st.a.Ns.set id N').length)
  rw [hlen]
  exact kZ h hm hS'
 ·show 1 ≤ (st.a.Ns.set id N').length
  rw [hlen]; exact h.pos
 ·rcases aP.1 hq with ⟨i, hi, hq2⟩ | hq2
  ·have hi' : i < st.a.Ns.length := by simpa [nI, nU] using hi
   by_cases e1 : i = id
   ·simp only [if_pos e1] at hq2
    rcases hF' q hq2 with h6 | h6
    ·exact .inl (hin q h6)
    ·exact .inr h6
   ·simp only [if_neg e1] at hq2
    exact .inl (hF ▸ aP.2 (.inl ⟨i, hi', hq2⟩))
  ·exact .inl (hF ▸ aP.2 (.inr hq2))
theorem aA.again (h : aA W0 E H C w0 G0 w F st) : aA W0 E H C w (C.foot F) w F st := ⟨h.aC, h.row, h.yU, h.pos, h.kk, h.mm, h.aC.env.size, fun _ hq => .inl hq, Mod.refl _ _⟩
theorem aA.chain {C' : gV} {st' : kr} (h : aA W0 E H C w0 G0 w F st) (k : aA W0 E H C' w (C.foot F) w' F' st') : aA W0 E H C' w0 G0 w' F' st' :=
 ⟨k.aC, k.row, k.yU, k.pos, k.kk, k.mm, h.oq, fun q hq => by
  have hz := h.mod.size
  rcases k.sub q hq with h1 | h1
  ·exact h.sub q h1
  ·right; omega, h.mod.trans k.mod (fun _ hh _ => hh) (fun q hq hl => by
   rcases h.sub q hq with h1 | h1
   ·exact h1
   ·omega)⟩
theorem aA.served (h : aA W0 E H C w0 G0 w F st) {b' : Int} {aI : List Nat} {a' : Pool} (hs : bG W0 E (cmp C st) (yT W0 C.mb H C.A) C.s w F w' b' aI a' F' x') (hlen : a'.Ns.length = st.a.Ns.length) (Ef : a'.cop.isSome = st.a.cop.isSome) : aA W0 E H C w0 G0 w' F' { st with a := a', ids := aI, b := b', x := x' } := by
 have hm := hs.mod
 have hm' : Mod (C.mb :: (C.s.blocks ++ F)) w w' := hm
 refine h.upd C.A C.v { st with a := a', ids := aI, b := b', x := x' } hm' (fun q hq => ?_) hs.aC hs.pool ?_ ?_ (by show 1 ≤ a'.Ns.length; rw [hlen]; exact h.pos) hs.sub (fun g hg => ⟨.inl hg, fun hh => by have := (h.row.lt g hg).2; omega⟩)
 ·simp only [List.mem_cons, List.mem_append] at hq
  rcases hq with h1 | h1 | h1
  ·exact aZ.2 (.inl h1)
  ·exact aZ.2 (.inr (.inl h1))
  ·exact aZ.2 (.inr (.inr (.inl h1)))
 ·have := hs.met
  have hc : cmp C { st with a := a', ids := aI, b := b', x := x' } = cmp C st := by unfold cmp kM; simp only; rw [Ef]
  show aN w' (cmp C { st with a := a', ids := aI, b := b', x := x' }) x'
  rw [hc]; exact this
 ·show w'.ownsRow W0.heap.size 91 1 C.v a'.Ns.length (jA C.A a'.Ns.length)
  rw [hlen]
  exact kZ h hm' (fun q hq => by simpa [List.mem_cons, List.mem_append] using hq)
end
end
section
variable {W0 w w0 : World} {E : Nat → Addr} {H : Nat → Nat} {C : gV} {F G0 : List Nat} {st : kr}
def aU (b : Nat) : Value := pQ b
theorem VZ (h : aA W0 E H C w0 G0 w F st) : Calls Tryz.prog 43 #[aU C.mb] w fun e w' => e = .returned (nI st.len) ∧ w = w' := by
 have HC := qd h
 obtain ⟨c0, c1, c11, c12, c13, c14, c15⟩ := HC.out.cells
 clear h
 unfold aU
 go_in
 go_wp2
 go_ret
 exact ⟨rfl, rfl⟩
theorem Qs (h : aA W0 E H C w0 G0 w F st) : Calls Tryz.prog 44 #[aU C.mb] w fun e w' => e = .returned (nI st.a.Ns.length) ∧ w = w' := by
 have HC := qd h
 obtain ⟨c0, c1, c11, c12, c13, c14, c15⟩ := HC.out.cells
 obtain ⟨vb, cap, hv, _⟩ := h.rowAt
 rw [hv] at c11
 generalize st.a.Ns.length = n at *
 clear h hv HC
 unfold aU
 go_in
 go_wp2
 go_ret
 exact ⟨rfl, rfl⟩
theorem qm (h : aA W0 E H C w0 G0 w F st) (hash id : Nat) (h64 : hash < 18446744073709551616) (hid : st.a.l.getD (dP hash st.a.d) 0 = id) (hn : id < st.a.Ns.length) : Calls Tryz.prog 53 #[aU C.mb, nU hash] w fun e w' => e = .returned (.tuple #[nI id, aK (C.A.nb id)]) ∧ Below w.heap.size w w' := by
 have HC := qd h
 obtain ⟨c0, c1, c11, c12, c13, c14, c15⟩ := HC.out.cells
 obtain ⟨Fs, hF, hp⟩ := h.aC.pool
 have HD := qd (ZN C.A.db C.A.eb st.a.d st.a.l hash h64 w hp.dir)
 rw [hid] at HD
 clear h hp hF
 unfold iA at HD
 unfold aU aK
 go_in
 go_wp2_with fail
 refine HD.out.mono ?_
 rintro x w1 ⟨rfl, hd⟩
 have hb : Below w.heap.size w w1 := hd ▸ (Below.refl _ _).drew
 have HB := qd hb
 replace HC := qd (HC.out.below hb)
 clear c0 c1 c11 c12 c13 c14 c15 hd hb HD
 obtain ⟨c0, c1, c11, c12, c13, c14, c15⟩ := HC.out.cells
 obtain ⟨vb, cap, hv, hr⟩ := HC.out.rowAt
 rw [hv] at c11
 have cr := hr id hn
 have hn' : (id : Int) < (st.a.Ns.length : Int) := by omega
 have hi0 : (0 : Int) ≤ (id : Int) := by omega
 generalize st.a.Ns.length = n at *
 clear hv hr hid
 go_wp2
 go_region
 go_wp2
 refine bodyPost_ret (v := .tuple #[nI id, .pointer (some ⟨C.A.nb id, 0, none⟩)]) (by simp [results, Tryz.results53, go_sem]) rfl ⟨rfl, iZ HB.out (Below.refl _ _).drew⟩
end
section
variable {S l' : List Nat} {o7 : Option (Nat × List Nat)}
section
variable {W0 : World} {E : Nat → Addr} {H : Nat → Nat} {C : gV} {w0 : World} {G0 : List Nat} {w w' : World} {F : List Nat} {st : kr}
theorem BG (h : aA W0 E H C w0 G0 w F st) (n : Nat) (hn : 1 ≤ n) : Calls Tryz.prog 92 #[.pointer (some ⟨C.mb, 3, none⟩), nI n] w fun e w' => e = .returned undef ∧ aA W0 E H C w0 G0 w' F { st with x := st.x.add (cU (n : Int)) 1 } :=
 (qz C.mb _ _ _ 3 st.x.all st.x.last C.m (n : Int) (by omega) w h.aC.met).mono fun e w' ⟨h1, h2, h3⟩ => ⟨h1, h.met h2 h3⟩
theorem aA.sched (h : aA W0 E H C w0 G0 w F st) {aI : List Nat} (hs : dS w' C.sb C.qb C.rb C.jb (C.K : Int) st.b C.A.val aI) (hm : Mod S w w') (hS : ∀ q ∈ S, q ∈ C.s.blocks) : aA W0 E H C w0 G0 w' F { st with ids := aI } := by
 have hb : ∀ q ∈ S, q ∉ F ∧ q ≠ C.mb ∧ W0.heap.size ≤ q := fun q hq => h.aC.apart q (hS q hq)
 exact h.upd C.A C.v { st with ids := aI } hm (fun q hq => aZ.2 (.inr (.inl (hS q hq)))) hs (h.hp.xX h.aC.pool hm (fun q hq dH => (hb q dH).1 hq)) (h.aC.met.mod hm (fun hq => (hb _ hq).2.1 rfl)) (kZ (st := st) h hm (fun q hq => .inr (.inl (hS q hq)))) h.pos (fun _ hq => .inl hq) (wo (st := st) h)
theorem iM.Qt {mb : Nat} {A : dw} {Fs : Nat → List Nat} {a : Pool} (h : iM W0 mb H A w Fs a) (hD : dh w' A.db A.eb a.d l') (hC : ∀ (next : Nat) (lf : List Nat), o7 = some (next, lf) → iW w' A.cb A.db A.eb A.fb A.fe a.d next l' lf) (hi : o7.isSome = a.cop.isSome) (hm : Mod S w w') (hS : ∀ q ∈ S, q ∈ A.dU a.cop) :
  iM W0 mb H A w' Fs { a with l := l', cop := o7 } ∧ gL A Fs { a with l := l', cop := o7 } = gL A Fs a := by
 have hd : A.dU o7 = A.dU a.cop := by unfold dw.dU; rw [hi]
 have hf : gL A Fs { a with l := l', cop := o7 } = gL A Fs a := by unfold gL; rw [← hd]
 refine ⟨⟨fun i N hN => ⟨(h.ko i N hN).1.mod hm (fun q hq dH => h.uw i (bA hN) q hq (hS q dH)), (h.ko i N hN).2⟩, hD, hC, h.sep, fun i hi q hq => by show q ∉ A.dU o7; rw [hd]; exact h.uw i hi q hq, fun q hq => h.low q (hf ▸ hq), fun hq => h.mb (hf ▸ hq), h.wm⟩, hf⟩
theorem aA.Qt (h : aA W0 E H C w0 G0 w F st) (hD : dh w' C.A.db C.A.eb st.a.d l') (hC : ∀ (next : Nat) (lf : List Nat), o7 = some (next, lf) → iW w' C.A.cb C.A.db C.A.eb C.A.fb C.A.fe st.a.d next l' lf) (hi : o7.isSome = st.a.cop.isSome) (hm : Mod S w w') (hS : ∀ q ∈ S, q ∈ C.A.dU st.a.cop) :
  aA W0 E H C w0 G0 w' F { st with a := { st.a with l := l', cop := o7 } } := by
 obtain ⟨Fs, hF, hp⟩ := h.aC.pool
 obtain ⟨hp', hf⟩ := hp.Qt hD hC hi hm hS
 have XE : ∀ q ∈ S, q ∈ F := fun q hq => hF ▸ aP.2 (.inr (hS q hq))
 have hcm : cmp C { st with a := { st.a with l := l', cop := o7 } } = cmp C st := by unfold cmp kM; simp only; rw [hi]
 refine h.upd C.A C.v { st with a := { st.a with l := l', cop := o7 } } hm (fun q hq => aZ.2 (.inr (.inr (.inl (XE q hq))))) (h.aC.aC.mod hm (fun q hq dH => (h.aC.apart q hq).1 (XE q dH))) ⟨Fs, hF.trans hf.symm, hp'⟩ ?_ (kZ (st := st) h hm (fun q hq => .inr (.inr (XE q hq)))) h.pos (fun _ hq => .inl hq) (wo (st := st) h)
 show aN w' (cmp C { st with a := { st.a with l := l', cop := o7 } }) st.x
 rw [hcm]
 exact h.aC.met.mod hm (fun hq => h.hp.mb h.aC.pool (XE _ hq))
end
theorem L9 {W0 : World} {E : Nat → Addr} {H : Nat → Nat} {C : gV} {w0 : World} {G0 : List Nat} {w : World} {F : List Nat} {st : kr} (h : aA W0 E H C w0 G0 w F st) (id : Nat) (t : TypeId) (p : Addr) (hv : C.A.val id = .iface t (.pointer (some p))) (hid : id ∉ st.ids) (kL : id ≤ 1000) (hroom : st.ids.length < 40) : Calls Tryz.prog 88 #[aU C.mb, nI id, .iface t (.pointer (some p))] w fun e w' => e = .returned undef ∧ aA W0 E H C w0 G0 w' F { st with ids := st.ids ++ [id], x := st.x.add (cU 1) 1 } := by
 have HC := qd h
 obtain ⟨c0, c1, c11, c12, c13, c14, c15⟩ := HC.out.cells
 have HU := qd (BG h 1 (Nat.le_refl _))
 have HV := qd hv
 have kg := qd hid
 have FJ := qd hroom
 clear h hv hid hroom
 unfold aU
 go_in
 go_wp2_with fail
 refine HU.out.mono ?_
 rintro x w1 ⟨rfl, h1⟩
 clear HC HU c0 c1 c11 c12 c13 c14 c15
 have HC := qd h1
 clear h1
 obtain ⟨c0, c1, c11, c12, c13, c14, c15⟩ := HC.out.cells
 have HA := qd (Sy C.sb C.qb C.rb C.jb C.K st.b C.A.val st.ids id kg.out kL FJ.out t p HV.out w1 HC.out.aC.aC)
 unfold eu at HA
 go_wp2_with fail
 refine HA.out.mono ?_
 rintro x w2 ⟨rfl, h2, h3⟩
 have rF := qd (HC.out.sched h2 h3 (by intro q hq; simp [gV.s, SP.blocks] at hq ⊢; omega))
 clear c0 c1 c11 c12 c13 c14 c15 HC HA h2 h3
 go_wp2_with fail
 refine (jh w2).mono ?_
 rintro x w3 ⟨rfl, rfl⟩
 go_wp2
 go_end0
 exact ⟨rfl, rF.out⟩
theorem JL {W0 : World} {E : Nat → Addr} {H : Nat → Nat} {C : gV} {w0 : World} {G0 : List Nat} {w : World} {F : List Nat} {st : kr} (h : aA W0 E H C w0 G0 w F st) (p pd id : Nat) (h1 : pd ≤ st.a.d) (hp : p < 2 ^ pd) (hc : st.a.cop = none) : Calls Tryz.prog 145 #[aU C.mb, nI p, nI pd, nI id] w fun e w' => ∃ n, 1 ≤ n ∧ e = .returned (.int .i64 ((n : Nat) : Int)) ∧ aA W0 E H C w0 G0 w' F { st with a := { st.a with l := jq st.a.l (bZ p pd st.a.d) id (2 ^ (st.a.d - pd)), cop := st.a.cop.map fun c => (c.1, oD c.2 (jq st.a.l (bZ p pd st.a.d) id (2 ^ (st.a.d - pd))) (bZ p pd st.a.d) (min (bZ p pd st.a.d + 2 ^ (st.a.d - pd)) c.1 - bZ p pd st.a.d)) } } := by
 obtain ⟨Fs, hF, hpo⟩ := h.aC.pool
 have HC := qd h
 obtain ⟨c0, c1, c11, c12, c13, c14, c15⟩ := HC.out.cells
 unfold kM at c13
 rw [hc] at c13
 simp only [Option.isSome_none, if_true, Bool.false_eq_true, if_false] at c13
 have HS := qd (Ox C.A.db C.A.eb st.a.d st.a.l p pd h1 hp id w hpo.dir)
 have hpos := pos2 (st.a.d - pd)
 obtain ⟨n, hn⟩ : ∃ n, n = 2 ^ (st.a.d - pd) := ⟨_, rfl⟩
 have hn1 : 1 ≤ n := by omega
 have yV := qd hc
 have HN := qd hn
 have HS2 := qd (show Calls Tryz.prog 183 #[iA C.A.db, nI p, nI pd, nI id] w fun e w' => e = .returned (.tuple #[nI n, .nilIface]) ∧ dh w' C.A.db C.A.eb st.a.d (jq st.a.l (bZ p pd st.a.d) id (2 ^ (st.a.d - pd))) ∧ Mod [C.A.eb] w w' from by rw [hn]; exact HS.out)
 clear HS
 have HS := HS2
 clear HS2 h hc hpo hF h1 hp hn hpos
 unfold iA at HS
 unfold aU
 go_in
 go_wp2_with fail
 refine HS.out.mono ?_
 rintro x w1 ⟨rfl, h3, h4⟩
 have rF := qd (HC.out.Qt (o7 := none) h3 (fun next lf he => by cases he) (by rw [yV.out]) h4 (by intro q hq; unfold dw.dU; simp at hq ⊢; omega))
 clear c0 c1 c11 c12 c13 c14 c15 h3 h4 HC HS
 go_wp2_with fail
 refine (rO (n : Int) w1).mono ?_
 rintro x w2 ⟨rfl, rfl⟩
 go_wp2
 go_ret
 exact ⟨n, hn1, rfl, by have hh := rF.out; rw [yV.out]; exact hh⟩
theorem JM {W0 : World} {E : Nat → Addr} {H : Nat → Nat} {C : gV} {w0 : World} {G0 : List Nat} {w : World} {F : List Nat} {st : kr} (h : aA W0 E H C w0 G0 w F st) (p pd id : Nat) (h1 : pd ≤ st.a.d) (hp : p < 2 ^ pd) (c : Nat × List Nat) (hc : st.a.cop = some c) : Calls Tryz.prog 145 #[aU C.mb, nI p, nI pd, nI id] w fun e w' => ∃ n, 1 ≤ n ∧ e = .returned (.int .i64 ((n : Nat) : Int)) ∧ aA W0 E H C w0 G0 w' F { st with a := { st.a with l := jq st.a.l (bZ p pd st.a.d) id (2 ^ (st.a.d - pd)), cop := st.a.cop.map fun c => (c.1, oD c.2 (jq st.a.l (bZ p pd st.a.d) id (2 ^ (st.a.d - pd))) (bZ p pd st.a.d) (min (bZ p pd st.a.d + 2 ^ (st.a.d - pd)) c.1 - bZ p pd st.a.d)) } } := by
 obtain ⟨Fs, hF, hpo⟩ := h.aC.pool
 have HC := qd h
 obtain ⟨c0, c1, c11, c12, c13, c14, c15⟩ := HC.out.cells
 unfold kM at c13
 rw [hc] at c13
 simp only [Option.isSome_some, if_true, Bool.false_eq_true, if_false] at c13
 have HS := qd (Nr C.A.cb C.A.db C.A.eb C.A.fb C.A.fe st.a.d c.1 st.a.l c.2 p pd id h1 hp w (hpo.cop c.1 c.2 hc))
 have hpos := pos2 (st.a.d - pd)
 obtain ⟨n, hn⟩ : ∃ n, n = 2 ^ (st.a.d - pd) + 2 * (min (bZ p pd st.a.d + 2 ^ (st.a.d - pd)) c.1 - bZ p pd st.a.d) := ⟨_, rfl⟩
 have hn1 : 1 ≤ n := by omega
 have yV := qd hc
 rw [← hn] at HS
 clear h hc hpo hF h1 hp hn hpos
 unfold oC at HS
 unfold aU
 go_in
 go_wp2_with fail
 refine HS.out.mono ?_
 rintro x w1 ⟨rfl, h3, h4⟩
 have rF := qd (HC.out.Qt (o7 := some (c.1, _)) h3.old (fun next lf he => by cases he; exact h3) (by rw [yV.out]; rfl) h4 (by intro q hq; unfold dw.dU; rw [yV.out]; simp at hq ⊢; omega))
 clear c0 c1 c11 c12 c13 c14 c15 h3 h4 HC HS
 go_wp2_with fail
 refine (rO (n : Int) w1).mono ?_
 rintro x w2 ⟨rfl, rfl⟩
 go_wp2
 go_ret
 exact ⟨n, hn1, rfl, by have hh := rF.out; rw [yV.out]; exact hh⟩
end
end Go.Proofs.YtbphcldoflekpaaGreatDoor
