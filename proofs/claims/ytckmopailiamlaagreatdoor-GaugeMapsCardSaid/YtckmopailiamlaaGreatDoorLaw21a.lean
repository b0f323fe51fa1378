/- A new map; a map's Get. No statement of the claim. -/
import Derived.Test.YtckmopailiamlaaGreatDoorRmE
import Derived.Test.YtckmopailiamlaaGreatDoorSqM
import Derived.Test.YtckmopailiamlaaGreatDoorLaneP
import Derived.Test.YtckmopailiamlaaGreatDoorCoCQ
import Derived.Test.YtckmopailiamlaaGreatDoorTabR
import Derived.Test.YtckmopailiamlaaGreatDoorCoBV
import Derived.Test.YtckmopailiamlaaGreatDoorCoDA
import Derived.Test.YtckmopailiamlaaGreatDoorRmM
import Derived.Test.YtckmopailiamlaaGreatDoorCoBB
import Derived.Test.YtckmopailiamlaaGreatDoorTabV
import Derived.Deep.Cut
import Derived.Deep.CutRange
namespace Go.Proofs.YtckmopailiamlaaGreatDoor
set_option maxRecDepth 100000
set_option maxHeartbeats 4000000
open Go.RowKit AmC
section
variable {W0 w : World} {E : Nat → Addr}
theorem rt_New (H : Nat → Nat) (hE : Env W0 E w) (k m i : Int) (hcf : cfgOk k m i = true) (K M I : Nat) (hkm : (1 ≤ K ∧ K ≤ 64) ∧ (1 ≤ M ∧ M ≤ 192) ∧ k = (K : Int) ∧ m = (M : Int) ∧ i = (I : Int)) (hi8 : 1 ≤ I ∧ I ≤ 8) : Calls Tryz.prog 6 #[cfgV k m i] w fun y w' => ∃ b G, y = .returned (.tuple #[.pointer (some ⟨b, 0, none⟩), .nilIface]) ∧ RtAt W0 E H K M I b G w' pool0 [] [] 0 ⟨0, 0, 0⟩ ∧ (∀ q ∈ G, w.heap.size ≤ q) ∧ Below w.heap.size w w' := by
 obtain ⟨hK, hM, rfl, rfl, rfl⟩ := hkm
 have HI := qd (And.intro hK (And.intro hM hi8))
 have hB0 := Blk.new w 23 #[.int .i64 (K : Int), .int .i64 (M : Int), .int .i64 (I : Int)]
 have hb0 := (Below.refl w.heap.size w).alloc (Nat.le_refl _) (.cells #[.int .i64 (K : Int), .int .i64 (M : Int), .int .i64 (I : Int)] 23)
 obtain ⟨W, hW⟩ : ∃ W, W = w.alloc (.cells #[.int .i64 (K : Int), .int .i64 (M : Int), .int .i64 (I : Int)] 23) := ⟨_, rfl⟩
 rw [← hW] at hB0 hb0
 have hnb := core_New H (hE.next hb0) (K : Int) (M : Int) (I : Int) hcf K M I ⟨hK, hM, rfl, rfl, rfl⟩
 have c := hB0.c3
 unfold cfgV at hnb ⊢
 have HNw := qd hnb
 have HX := qd hB0
 have HB := qd hb0
 have HW := qd hW
 have HE := qd hE
 clear hnb hB0 hb0 hW hK hM hi8 hE
 go_in
 go_upto_region 1 with fail
 rw [← HW.out]
 go_wp2_with fail
 refine HNw.out.mono ?_
 rintro y w1 ⟨cb, rfl, hnew⟩
 obtain ⟨GC, hC, hsu, hmo⟩ := new_at hnew
 have hb1 := hmo.to_below
 have HC := qd hC
 have HSu := qd (show ∀ q ∈ GC, W.heap.size ≤ q from fun q hq => (hsu q hq).elim (fun k => by cases k) (fun k => k))
 have HGl := qd (show ∀ q ∈ GC, q < w1.heap.size from fun q hq => (hC.facts.2.2.2.2.2.2.2.2.2.2.1 q hq).1)
 replace HX := qB hb1 HX
 have HB1 := qd (below_nx hb1 HB.out)
 have HL0 := qd hb1.size
 have HZ := qd (show w.heap.size < W.heap.size from by rw [HW.out]; simp)
 clear hnew hC hsu hmo hb1 HNw c
 have c := HX.out.c3
 have HIt := qd (iters_New I HI.out.2.2 w1)
 unfold coreP
 go_wp2_with fail
 refine HIt.out.mono ?_
 rintro y w2 ⟨rfl, hit, hb2⟩
 replace HC := qd (HC.out.below hb2)
 replace HX := qB hb2 HX
 have HB2 := qd (below_nx hb2 HB1.out)
 have HIa := qd hit
 have HL1 := qd (show W.heap.size ≤ w1.heap.size ∧ w1.heap.size + 1 < w2.heap.size from ⟨HL0.out, hit.blk.lt⟩)
 clear hit hb2 HIt c
 have c := HX.out.c3
 obtain ⟨ib, hib⟩ : ∃ ib, ib = w1.heap.size + 1 := ⟨_, rfl⟩
 obtain ⟨mb, hmb⟩ : ∃ mb, mb = w1.heap.size := ⟨_, rfl⟩
 rw [← hib] at HIa HL1 ⊢
 rw [← hmb] at HIa
 have HQ := qd (show mb = w1.heap.size ∧ ib = w1.heap.size + 1 from ⟨hmb, hib⟩)
 clear hib hmb
 obtain ⟨C, hCdef⟩ : ∃ C : RmC, C = ⟨(K : Int), (M : Int), (I : Int), cb, 0, 0, ⟨0, 0, 0⟩, ⟨0, 0, 0⟩, ib, ⟨0, 0, 0⟩, ⟨0, 0, 0⟩⟩ := ⟨_, rfl⟩
 have hbb := (Below.refl w2.heap.size w2).alloc (Nat.le_refl _) (.cells C.cells 66)
 have hnb := Blk.new w2 66 C.cells
 have hS : RtS W0 E H K M I w2.heap.size [] w C GC mb 0 (w2.alloc (.cells C.cells 66)) pool0 [] [] := by
  have h1 := HL1.out.1
  have h2 := HL1.out.2
  obtain ⟨g1, g2⟩ := HQ.out
  have hg := HGl.out
  have hs := HSu.out
  have hz := HZ.out
  have hw0 := HE.out.size
  have e1 : C.cb = cb := by rw [hCdef]
  have e2 : C.ib = ib := by rw [hCdef]
  have hf : ∀ q, q ∈ itFoot ib mb [] → q = ib ∨ q = mb := fun q hq => by unfold itFoot at hq; simpa using hq
  refine ⟨⟨hnb, by rw [hCdef]; exact Nat.zero_le _, by rw [hCdef]; exact Nat.zero_le _⟩, by rw [hCdef]; exact ⟨rfl, rfl, rfl⟩, by rw [e1]; exact HC.out.below hbb, by rw [e2]; exact HIa.out.below hbb, ⟨by omega, fun q hq => ?_⟩, ⟨fun hh => by have := hg _ hh; omega, fun hh => ?_, fun q hq hh => ?_⟩, fun q hq => .inr ?_, (Mod.of_below (below_nx hbb HB2.out) []), hw0⟩
  ·rw [e2] at hq; rcases hf q hq with k | k <;> omega
  ·rw [e2] at hh; rcases hf _ hh with k | k <;> omega
  ·rw [e2] at hq; have := hg q hh; rcases hf q hq with k | k <;> omega
  ·rcases mem_rtFoot.1 hq with k | k | k
   ·omega
   ·rw [e2] at k; rcases hf q k with k | k <;> omega
   ·have := hs q k; omega
 have hto := hS.to
 have hbz := below_nx hbb HB2.out
 rw [hCdef] at hto hbz
 unfold RmC.cells at hto hbz
 have HF := qd (And.intro hto hbz)
 clear hS hto hbz hbb hnb hCdef
 go_wp2
 refine bodyPost_ret (v := .tuple #[.pointer (some ⟨w2.heap.size, 0, none⟩), .nilIface]) (by simp [results, Tryz.results6, go_sem]) rfl ?_
 obtain ⟨G', k1, k2, k3⟩ := HF.out.1
 exact ⟨w2.heap.size, G', rfl, k1, fun q hq => (k2 q hq).elim (fun z => by cases z) (fun z => z), HF.out.2⟩
theorem rt_New_bad (hE : Env W0 E w) (k m i : Int) (hcf : cfgOk k m i = false) : Calls Tryz.prog 6 #[cfgV k m i] w fun y w' => y = .returned (.tuple #[.pointer none, errV E 1]) ∧ Below w.heap.size w w' := by
 have hB0 := Blk.new w 23 #[.int .i64 k, .int .i64 m, .int .i64 i]
 have hb0 := (Below.refl w.heap.size w).alloc (Nat.le_refl _) (.cells #[.int .i64 k, .int .i64 m, .int .i64 i] 23)
 obtain ⟨W, hW⟩ : ∃ W, W = w.alloc (.cells #[.int .i64 k, .int .i64 m, .int .i64 i] 23) := ⟨_, rfl⟩
 rw [← hW] at hB0 hb0
 have hnb := core_New_bad (hE.next hb0) k m i hcf
 obtain ⟨c0, c1, c2⟩ := hB0.c3
 rw [errV_pos E (by omega : 1 ≤ 1)] at hnb ⊢
 unfold cfgV at hnb ⊢
 have HNw := qd hnb
 have HB := qd hb0
 have HW := qd hW
 clear hnb hB0 hb0 hW hE
 go_in
 go_upto_region 1 with fail
 rw [← HW.out]
 go_wp2_with fail
 refine HNw.out.mono ?_
 rintro y w1 ⟨rfl, hb⟩
 have HB1 := qd (below_nx hb HB.out)
 clear hb HNw
 go_wp2
 refine bodyPost_ret (v := .tuple #[.pointer none, .iface 296 (.pointer (some (E 1)))]) (by simp [results, Tryz.results6, go_sem]) rfl ⟨rfl, HB1.out⟩
end
section
variable {j key m : Nat} {es : List Ent} {e : Ent}
def FindPost (es : List Ent) (key : Nat) (y : Int) : Prop := (∃ (i : Nat) (e : Ent), es[i]? = some e ∧ e.key = key ∧ y = (i : Int) ∧ ∀ k, k < i → ∀ e', es[k]? = some e' → e'.key ≠ key) ∨ ((∀ e ∈ es, e.key ≠ key) ∧ y = -1)
end
section
variable {es : List Ent} {j key : Nat} {e : Ent}
def without (es : List Ent) (key j : Nat) : List Ent := (es.take j).filter fun x => x.key != key
end
section
section
variable {w w' : World} {base mb M : Nat} {es : List Ent} {R : List Nat}
end
def cutAt (y : Option Ent) (hi : Nat) : Option Ent := match y with | none => none | some m => if m.hash ≤ hi then some m else none
end
section
variable {l : List Ent} {m : Ent} {b base : Nat} {w : World} {v : Value}
def Asc (l : List Ent) : Prop := l.Pairwise fun x y => lessE x y = true
theorem Asc.nodup (h : Asc l) : l.Nodup := h.imp fun hxy e => by rw [e, less_irrefl] at hxy; cases hxy
theorem asc_snoc (h : Asc l) (hm : ∀ e ∈ l, lessE e m = true) : Asc (l ++ [m]) := List.pairwise_append.2 ⟨h, List.pairwise_singleton _ _, fun x hx y hy => by rw [List.mem_singleton.1 hy]; exact hm x hx⟩
def below_ (hs : List Nat) (b : Nat) : Nat := (hs.filter fun h => decide (h < b)).length
theorem below_mono (hs : List Nat) {a : Nat} (h : a ≤ b) : below_ hs a ≤ below_ hs b := by
 unfold below_
 induction hs with
 | nil => simp
 | cons x l ih =>
  simp only [List.filter_cons]
  by_cases h1 : x < a
  ·rw [if_pos (by simpa using h1), if_pos (by simp; omega)]; simp only [List.length_cons]; omega
  ·rw [if_neg (by simpa using h1)]
   split <;> (try simp only [List.length_cons]) <;> omega
theorem below_more {hs : List Nat} {a x : Nat} (hx : x ∈ hs) (h1 : a ≤ x) (h2 : x < b) : below_ hs a + 1 ≤ below_ hs b := by
 obtain ⟨s, t, rfl⟩ := List.append_of_mem hx
 have g1 := below_mono s (Nat.le_trans h1 (Nat.le_of_lt h2))
 have g2 := below_mono t (Nat.le_trans h1 (Nat.le_of_lt h2))
 unfold below_ at g1 g2 ⊢
 rw [List.filter_append, List.filter_append, List.filter_cons, List.filter_cons, if_neg (by simp; omega), if_pos (by simp; omega)]
 simp only [List.length_append, List.length_cons]
 omega
theorem below_le (hs : List Nat) (b : Nat) : below_ hs b ≤ hs.length := List.length_filter_le _ _
structure WalkSt (es : List Ent) (hs : List Nat) (n : Nat) (out : List Ent) (key hash : Nat) : Prop where
 asc : Asc out
 mem : ∀ e, e ∈ out ↔ e ∈ es ∧ lessE e ⟨key, 0, hash⟩ = true
 cnt : n ≤ out.length + below_ hs hash
section
variable {es out : List Ent} {hs : List Nat} {n key hash hi : Nat}
theorem WalkSt.start (es : List Ent) (hs : List Nat) : WalkSt es hs 0 [] 0 0 := ⟨.nil, fun e => by simp [lessE], Nat.zero_le _⟩
theorem sub_nodup {l' : List Ent} (hn : l.Nodup) (hs : ∀ x ∈ l, x ∈ l') : l.length ≤ l'.length := by
 induction l generalizing l' with
 | nil => exact Nat.zero_le _
 | cons x l ih =>
  rw [List.nodup_cons] at hn
  obtain ⟨s, t, rfl⟩ := List.append_of_mem (hs x (by simp))
  have h1 := ih (l' := s ++ t) hn.2 (fun y hy => by
   have := hs y (by simp [hy])
   simp only [List.mem_append, List.mem_cons] at this ⊢
   rcases this with h | h | h
   ·exact .inl h
   ·rw [h] at hy; exact absurd hy hn.1
   ·exact .inr h)
  simp only [List.length_append, List.length_cons] at h1 ⊢
  omega
theorem WalkSt.len (h : WalkSt es hs n out key hash) : out.length ≤ es.length := sub_nodup h.asc.nodup (fun e he => ((h.mem e).1 he).1)
theorem WalkSt.few (h : WalkSt es hs n out key hash) (h1 : es.length ≤ 192) (h2 : hs.length ≤ 32) : n ≤ 224 := by
 have := h.cnt
 have := h.len
 have := below_le hs hash
 omega
theorem WalkSt.some_ (h : WalkSt es hs n out key hash) (hn : (es.map Ent.key).Nodup) (hm : IsLeast ⟨key, 0, hash⟩ (upto es hi) (some m)) : WalkSt es hs (n + 1) (out ++ [m]) (m.key + 1) m.hash ∧ (∀ e ∈ out, lessE e m = true) ∧ m.hash ≤ hi ∧ m ∈ es := by
 obtain ⟨m1, m2⟩ := mem_upto.1 hm.1
 have hlt : ∀ e ∈ out, lessE e m = true := fun e he => by
  have h1 := ((h.mem e).1 he).2
  have h2 := hm.2.1
  simp [lessE] at h1 h2 ⊢
  omega
 have hh := less_hash hm.2.1
 refine ⟨⟨asc_snoc h.asc hlt, fun e => ⟨fun he => ?_, fun he => ?_⟩, ?_⟩, hlt, m2, m1⟩
 ·rcases List.mem_append.1 he with h1 | h1
  ·refine ⟨((h.mem e).1 h1).1, ?_⟩
   have := hlt e h1
   simp [lessE] at this ⊢
   omega
  ·rw [List.mem_singleton.1 h1]
   exact ⟨m1, by simp [lessE]⟩
 ·rw [List.mem_append, List.mem_singleton]
  cases hl : lessE e ⟨key, 0, hash⟩ with
  | true => exact .inl ((h.mem e).2 ⟨he.1, hl⟩)
  | false =>
   right
   have h1 := he.2
   have h2 := hm.2.2 e (mem_upto.2 ⟨he.1, by simp [lessE] at h1; omega⟩) hl
   have hk : e.key = m.key := by simp [lessE] at h1 h2; omega
   have e1 := look_some hn he.1
   have e2 := look_some hn m1
   rw [hk, e2] at e1
   exact (Option.some.inj e1).symm
 ·have := h.cnt
  have := below_mono hs hh
  simp only [List.length_append, List.length_cons, List.length_nil]
  omega
theorem WalkSt.none_ (h : WalkSt es hs n out key hash) (hm : IsLeast ⟨key, 0, hash⟩ (upto es hi) none) (h1 : hash ≤ hi) (h2 : hi ∈ hs) : WalkSt es hs (n + 1) out 0 (hi + 1) := by
 refine ⟨h.asc, fun e => ⟨fun he => ?_, fun he => ?_⟩, ?_⟩
 ·have := (h.mem e).1 he
  refine ⟨this.1, ?_⟩
  have h3 := this.2
  simp [lessE] at h3 ⊢
  omega
 ·have h3 := he.2
  exact (h.mem e).2 ⟨he.1, hm e (mem_upto.2 ⟨he.1, by simp [lessE] at h3; omega⟩)⟩
 ·have := h.cnt
  have := below_more (b := hi + 1) h2 h1 (by omega)
  omega
end
end
section
structure Itm where
 st : Nat
 key : Nat
 val : Nat
def Itm.zero : Itm := ⟨0, 0, 0⟩
def Cur.passed (c : Cur) (e : Ent) : Prop := c.done = true ∨ lessE e ⟨c.key, 0, c.hash⟩ = true
inductive NextS (es : List Ent) (hs : List Nat) (c : Cur) : Itm → Cur → Prop
 | done (h : c.done = true) : NextS es hs c ⟨3, 0, 0⟩ c
 | yield (h : c.done = false) (hi : Nat) (m : Ent) (h1 : c.hash ≤ hi) (h2 : hi ∈ hs) (h3 : hi < 18446744073709551616) (h4 : ∀ x ∈ hs, c.hash ≤ x → hi ≤ x) (hm : IsLeast ⟨c.key, 0, c.hash⟩ (upto es hi) (some m)) : NextS es hs c ⟨1, m.key, m.val⟩ (behind m.hash m.key)
 | skip (h : c.done = false) (hi : Nat) (h1 : c.hash ≤ hi) (h2 : hi ∈ hs) (h3 : hi < 18446744073709551616) (h4 : ∀ x ∈ hs, c.hash ≤ x → hi ≤ x) (hm : IsLeast ⟨c.key, 0, c.hash⟩ (upto es hi) none) : NextS es hs c ⟨if hi < 18446744073709551615 then 2 else 3, 0, 0⟩ (behind hi 18446744073709551615)
theorem behind_ok {h k : Nat} (h1 : h < 18446744073709551616) : (behind h k).ok := by
 unfold behind Cur.ok
 split
 ·exact ⟨h1, by simp only; omega⟩
 ·split
  ·exact ⟨by simp only; omega, by simp⟩
  ·simp
section
variable {es out : List Ent} {hs : List Nat} {n : Nat} {c c' c'' : Cur} {i i' : Itm}
structure Way (es : List Ent) (hs : List Nat) (n : Nat) (out : List Ent) (c : Cur) : Prop where
 asc : Asc out
 mem : ∀ e, e ∈ out ↔ e ∈ es ∧ c.passed e
 cnt : c.done = false → n ≤ out.length + below_ hs c.hash
 ok : c.ok
theorem Way.start (es : List Ent) (hs : List Nat) : Way es hs 0 [] ⟨0, 0, false⟩ := ⟨.nil, fun e => by simp [Cur.passed, lessE], fun _ => Nat.zero_le _, by simp [Cur.ok]⟩
theorem passed_behind {es : List Ent} {hash key : Nat} (h1 : hash < 18446744073709551616) (h2 : key < 18446744073709551616) (he : ∀ e ∈ es, e.hash < 18446744073709551616 ∧ e.key < 18446744073709551616) {e : Ent} (h : e ∈ es) : (behind hash key).passed e ↔ lessE e ⟨key + 1, 0, hash⟩ = true := by
 have := he e h
 unfold behind Cur.passed
 split
 ·simp [lessE]
 ·split
  ·simp [lessE]; omega
  ·simp [lessE]; omega
theorem Way.walkSt (h : Way es hs n out c) (hd : c.done = false) : WalkSt es hs n out c.key c.hash := ⟨h.asc, fun e => by rw [h.mem e]; unfold Cur.passed; rw [hd]; simp, h.cnt hd⟩
theorem walk_way {hash key : Nat} (h : WalkSt es hs n out (key + 1) hash) (h1 : hash < 18446744073709551616) (h2 : key < 18446744073709551616) (he : ∀ e ∈ es, e.hash < 18446744073709551616 ∧ e.key < 18446744073709551616) : Way es hs n out (behind hash key) := by
 refine ⟨h.asc, fun e => ⟨fun hh => ?_, fun hh => ?_⟩, fun hd => ?_, behind_ok h1⟩
 ·obtain ⟨g1, g2⟩ := (h.mem e).1 hh
  exact ⟨g1, (passed_behind h1 h2 he g1).2 g2⟩
 ·exact (h.mem e).2 ⟨hh.1, (passed_behind h1 h2 he hh.1).1 hh.2⟩
 ·have h3 := h.cnt
  have : hash ≤ (behind hash key).hash := by
   unfold behind at hd ⊢
   split
   ·exact Nat.le_refl _
   ·split
    ·exact Nat.le_succ _
    ·rename_i a b; rw [if_neg a, if_neg b] at hd; cases hd
  have := below_mono hs this
  omega
theorem Way.next (h : Way es hs n out c) (hn : (es.map Ent.key).Nodup) (he : ∀ e ∈ es, e.hash < 18446744073709551616 ∧ e.key < 18446744073709551616) (hN : NextS es hs c i c') :
  ∃ out', Way es hs (n + 1) out' c' ∧ ((i.st = 1 ∧ c.done = false ∧ ∃ m ∈ es, out' = out ++ [m] ∧ (∀ e ∈ out, lessE e m = true) ∧ ¬ c.passed m ∧ i.key = m.key ∧ i.val = m.val ∧ c' = behind m.hash m.key) ∨ (i.st ≠ 1 ∧ out' = out ∧ i.key = 0 ∧ i.val = 0 ∧ (i.st = 2 ∨ i.st = 3) ∧ (i.st = 3 ↔ c'.done = true))) := by
 cases hN with
 | done hd => exact ⟨out, ⟨h.asc, h.mem, fun hh => (by rw [hd] at hh; cases hh), h.ok⟩, .inr ⟨by simp, rfl, rfl, rfl, .inr rfl, by simp [hd]⟩⟩
 | yield hd hi m h1 h2 h3 h4 hm =>
  obtain ⟨w1, w2, w3, w4⟩ := (h.walkSt hd).some_ hn hm
  have hb := he m w4
  exact ⟨out ++ [m], walk_way w1 hb.1 hb.2 he, .inl ⟨rfl, hd, m, w4, rfl, w2, fun hp => (by rcases hp with hp | hp; rw [hd] at hp; cases hp; have := hm.2.1; rw [hp] at this; cases this), rfl, rfl, rfl⟩⟩
 | skip hd hi h1 h2 h3 h4 hm =>
  have hcn := h.cnt hd
  have hpass : ∀ e ∈ es, ((behind hi 18446744073709551615).passed e ↔ c.passed e) := fun e hh => by
   rw [passed_behind h3 (by omega) he hh]
   have hb := he e hh
   unfold Cur.passed
   rw [hd]
   constructor
   ·intro hl
    right
    exact hm e (mem_upto.2 ⟨hh, by simp [lessE] at hl; omega⟩)
   ·rintro (hl | hl)
    ·cases hl
    ·simp [lessE] at hl ⊢; omega
  refine ⟨out, ⟨h.asc, fun e => ⟨fun hh => ?_, fun hh => ?_⟩, fun hx => ?_, behind_ok h3⟩, .inr ⟨?_, rfl, rfl, rfl, ?_, ?_⟩⟩
  ·obtain ⟨g1, g2⟩ := (h.mem e).1 hh
   exact ⟨g1, (hpass e g1).2 g2⟩
  ·exact (h.mem e).2 ⟨hh.1, (hpass e hh.1).1 hh.2⟩
  ·have hx' : hi < 18446744073709551615 := by
    unfold behind at hx
    rw [if_neg (by omega)] at hx
    by_cases hlt : hi < 18446744073709551615
    ·exact hlt
    ·rw [if_neg hlt] at hx; cases hx
   have hb : (behind hi 18446744073709551615).hash = hi + 1 := by
    unfold behind; rw [if_neg (by omega), if_pos hx']
   rw [hb]
   have := below_more (b := hi + 1) h2 h1 (by omega)
   omega
  ·simp only; split <;> omega
  ·simp only; split <;> simp
  ·unfold behind
   by_cases hlt : hi < 18446744073709551615 <;> simp [hlt]
theorem Way.few (h : Way es hs n out c) (hd : c.done = false) (hN : NextS es hs c i c') : n < es.length + hs.length := by
 have h1 := h.cnt hd
 have h2 : out.length ≤ es.length := sub_nodup h.asc.nodup (fun e he => ((h.mem e).1 he).1)
 have h3 : below_ hs c.hash < hs.length := by
  have hx : ∃ hi, c.hash ≤ hi ∧ hi ∈ hs := by
   cases hN with
   | done h => rw [hd] at h; cases h
   | yield h hi m h1 h2 => exact ⟨hi, h1, h2⟩
   | skip h hi h1 h2 => exact ⟨hi, h1, h2⟩
  obtain ⟨hi, g1, g2⟩ := hx
  have := below_more (b := hi + 1) g2 g1 (by omega)
  have := below_le hs (hi + 1)
  omega
 omega
end
end
section
def itV (i : Itm) : Value := .agg #[.int .i64 (i.st : Int), .int .u64 (i.key : Int), .int .u64 (i.val : Int)]
def itSet (its : List It) (id : Nat) (c : Cur) : List It := its.map fun i => if i.id = id then { i with c := c } else i
theorem nodup_cb_eq {its : List It} (hn : (its.map It.cb).Nodup) {i j : It} (hi : i ∈ its) (hj : j ∈ its) (h : i.cb = j.cb) : i = j := by
 induction its with
 | nil => cases hi
 | cons x l ih =>
  rw [List.map_cons, List.nodup_cons] at hn
  rcases List.mem_cons.1 hi with h1 | h1
  ·rcases List.mem_cons.1 hj with h2 | h2
   ·rw [h1, h2]
   ·exact absurd (show x.cb ∈ l.map It.cb from by rw [← h1, h]; exact List.mem_map_of_mem h2) hn.1
  ·rcases List.mem_cons.1 hj with h2 | h2
   ·exact absurd (show x.cb ∈ l.map It.cb from by rw [← h2, ← h]; exact List.mem_map_of_mem h1) hn.1
   ·exact ih hn.2 h1 h2
section
variable {w w' : World} {ib mb most given id cb : Nat} {its : List It} {c c' : Cur}
theorem itSet_id : (itSet its id c).map It.id = its.map It.id := by
 unfold itSet
 rw [List.map_map]
 apply List.map_congr_left
 intro i _
 simp only [Function.comp_apply]
 split <;> rfl
theorem itSet_cb : (itSet its id c).map It.cb = its.map It.cb := by
 unfold itSet
 rw [List.map_map]
 apply List.map_congr_left
 intro i _
 simp only [Function.comp_apply]
 split <;> rfl
theorem itSet_foot : itFoot ib mb (itSet its id c) = itFoot ib mb its := by unfold itFoot; rw [itSet_cb]
theorem itSet_map : itMap (itSet its id c) = itMap its := by
 unfold itMap itSet
 rw [List.map_map]
 apply List.map_congr_left
 intro i _
 simp only [Function.comp_apply]
 split <;> rfl
theorem ItAt.setCur (h : ItAt w ib mb most given its) (hi : ⟨id, cb, c⟩ ∈ its) (hc : CurAt w' cb c') {S : List Nat} (hm : Mod S w w') (hS : ∀ q ∈ S, q = cb ∨ q ∉ itFoot ib mb its) : ItAt w' ib mb most given (itSet its id c') := by
 have hnf := h.nf
 unfold itFoot at hnf
 rw [List.nodup_cons, List.nodup_cons] at hnf
 have hcbm : cb ∈ its.map It.cb := List.mem_map.2 ⟨_, hi, rfl⟩
 have h1 : ib ∉ S := fun hh => (hS _ hh).elim (fun k => hnf.1 (by rw [k]; exact List.mem_cons_of_mem _ hcbm)) (fun k => k (by simp [itFoot]))
 have h2 : mb ∉ S := fun hh => (hS _ hh).elim (fun k => hnf.2.1 (by rw [k]; exact hcbm)) (fun k => k (by simp [itFoot]))
 refine ⟨h.blk.mod hm h1, by rw [itSet_map]; exact h.map.mod hm h2, fun i hi' => ?_, fun i hi' => ?_, by rw [itSet_id]; exact h.nd, by rw [itSet_foot]; exact h.nf, h.few.1, by unfold itSet; rw [List.length_map]; exact h.few.2⟩
 ·unfold itSet at hi'
  obtain ⟨j, hj, rfl⟩ := List.mem_map.1 hi'
  by_cases hid : j.id = id
  ·rw [if_pos hid]
   have := nodup_map_eq h.nd hj hi hid
   rw [this]; exact hc
  ·rw [if_neg hid]
   refine (h.cur j hj).mod hm (fun hh => hid ?_)
   have hcb : j.cb = cb := (hS _ hh).elim (fun k => k) (fun k => absurd (by unfold itFoot; simp only [List.mem_cons]; exact .inr (.inr (List.mem_map_of_mem hj))) k)
   have hn : (its.map It.cb).Nodup := hnf.2.2
   exact congrArg It.id (nodup_cb_eq hn hj hi hcb)
 ·have : i.id ∈ its.map It.id := by rw [← itSet_id (id := id) (c := c')]; exact List.mem_map_of_mem hi'
  obtain ⟨j, hj, hji⟩ := List.mem_map.1 this
  rw [← hji]
  exact h.ids j hj
end
def StepP (W0 : World) (E : Nat → Addr) (H : Nat → Nat) (Kk M I b : Nat) (G0 : List Nat) (w0 : World) (C : RmC) (GC : List Nat) (mb gv : Nat) (a : Pool) (ids : List Nat) (its : List It) (id cb : Nat) (c : Cur) (V : World) (it : Itm) (w' : World) : Prop :=
 ∃ (c' : Cur) (cc : Cnt) (GC' : List Nat), NextS a.ents (highs a) c it c' ∧ LeC cc ∧ RtS W0 E H Kk M I b G0 w0 C GC' mb gv w' a ids (itSet its id c') ∧ CoreAtC W0 E H Kk M C.cb GC' w' a ids cc ∧ (∀ q ∈ GC', q ∈ GC ∨ V.heap.size ≤ q) ∧ Mod (cb :: GC) V w'
section
variable {W0 : World} {E : Nat → Addr} {H : Nat → Nat} {Kk M I b : Nat} {G0 : List Nat} {w0 w : World} {C : RmC} {GC : List Nat} {mb gv : Nat} {a : Pool} {ids : List Nat} {its : List It} {id cb : Nat} {c : Cur}
theorem StepP.mod {T : List Nat} {V w1 w2 : World} {it : Itm} (h : StepP W0 E H Kk M I b G0 w0 C GC mb gv a ids its id cb c V it w1) (hm : Mod T w1 w2) (hT : ∀ q ∈ T, q ∉ rtFoot b C GC mb its ∧ w0.heap.size ≤ q ∧ q < V.heap.size) :
  ∃ (c' : Cur) (cc : Cnt) (GC' : List Nat), NextS a.ents (highs a) c it c' ∧ LeC cc ∧ RtS W0 E H Kk M I b G0 w0 C GC' mb gv w2 a ids (itSet its id c') ∧ CoreAtC W0 E H Kk M C.cb GC' w2 a ids cc ∧ (∀ q ∈ GC', q ∈ GC ∨ V.heap.size ≤ q) ∧ Mod (cb :: (GC ++ T)) V w2 := by
 obtain ⟨c', cc, GC', h1, h2, h3, h4, h5, h6⟩ := h
 have h7 : ∀ q ∈ T, q ∉ GC' := fun q hq hg => by
  rcases h5 q hg with k | k
  ·exact (hT q hq).1 (mem_rtFoot.2 (.inr (.inr k)))
  ·have := (hT q hq).2.2; omega
 refine ⟨c', cc, GC', h1, h2, h3.mod_ hm (fun q hq => ⟨fun hg => ?_, (hT q hq).2.1⟩), h4.mod hm (fun q hq => ⟨h7 q hq, Nat.le_trans h3.le0 (hT q hq).2.1⟩), h5, (h6.more (fun q hq => by simp at hq ⊢; rcases hq with k | k; exact .inl k; exact .inr (.inl k))).then (hm.more (fun q hq => by simp; exact .inr (.inr hq)))⟩
 rcases mem_rtFoot.1 hg with k | k | k
 ·exact (hT q hq).1 (mem_rtFoot.2 (.inl k))
 ·rw [itSet_foot] at k; exact (hT q hq).1 (mem_rtFoot.2 (.inr (.inl k)))
 ·exact h7 q hq k
theorem StepP.of {S : List Nat} {V V1 V2 : World} {c' : Cur} {cc : Cnt} {GC' : List Nat} {it : Itm} (h3 : RtS W0 E H Kk M I b G0 w0 C GC' mb gv V1 a ids its) (h4 : CoreAtC W0 E H Kk M C.cb GC' V1 a ids cc) (h5 : ∀ q ∈ GC', q ∈ GC ∨ V.heap.size ≤ q) (h6 : Mod GC V V1) (hi : ⟨id, cb, c⟩ ∈ its) (h1 : NextS a.ents (highs a) c it c') (h2 : LeC cc) (hc : CurAt V2 cb c') (hm : Mod S V1 V2) (hS : ∀ q ∈ S, q = cb ∨ (q ∉ rtFoot b C GC' mb its ∧ w0.heap.size ≤ q ∧ V.heap.size ≤ q)) : StepP W0 E H Kk M I b G0 w0 C GC mb gv a ids its id cb c V it V2 := by
 have hcb : cb ∈ itFoot C.ib mb its := by
  unfold itFoot
  simp only [List.mem_cons, List.mem_map]
  exact .inr (.inr ⟨_, hi, rfl⟩)
 refine ⟨c', cc, GC', h1, h2, h3.setI (h3.itr.setCur hi hc hm (fun q hq => (hS q hq).elim .inl (fun k => .inr (fun g => k.1 (mem_rtFoot.2 (.inr (.inl g))))))) hm (fun q hq => (hS q hq).elim (fun k => .inl (k ▸ hcb)) (fun k => .inr ⟨k.1, k.2.1⟩)) (fun q hq => by rw [itSet_foot] at hq; exact .inl hq), h4.mod hm (fun q hq => ?_), h5, h6.trans hm (fun q hq _ => List.mem_cons_of_mem _ hq) (fun q hq hl => ?_)⟩
 ·rcases hS q hq with k | k
  ·rw [k]; exact ⟨h3.apart.2.2 _ hcb, h3.b0.2 _ hcb⟩
  ·exact ⟨fun g => k.1 (mem_rtFoot.2 (.inr (.inr g))), Nat.le_trans h3.le0 k.2.1⟩
 ·rcases hS q hq with k | k
  ·rw [k]; simp
  ·omega
end
end
section
inductive Run (es : List Ent) (hs : List Nat) : Nat → List Itm → Cur → Prop
 | nil : Run es hs 0 [] ⟨0, 0, false⟩
 | next {n : Nat} {l : List Itm} {c c' : Cur} {i : Itm} : Run es hs n l c → NextS es hs c i c' → Run es hs (n + 1) (l ++ [i]) c'
def ykeys (l : List Itm) : List Nat := (l.filter fun i => i.st == 1).map Itm.key
theorem ykeys_append (l l' : List Itm) : ykeys (l ++ l') = ykeys l ++ ykeys l' := by unfold ykeys; rw [List.filter_append, List.map_append]
section
variable {es : List Ent} {hs : List Nat} {n : Nat} {l l' : List Itm} {c c' : Cur}
theorem Run.len (h : Run es hs n l c) : l.length = n := by
 induction h with
 | nil => rfl
 | next _ _ ih => rw [List.length_append, ih]; rfl
theorem Run.way (hn : (es.map Ent.key).Nodup) (he : ∀ e ∈ es, e.hash < 18446744073709551616 ∧ e.key < 18446744073709551616) (h : Run es hs n l c) : ∃ out, Way es hs n out c ∧ ykeys l = out.map Ent.key ∧ ∀ i ∈ l, i.st = 1 ∨ i.st = 2 ∨ i.st = 3 := by
 induction h with
 | nil => exact ⟨[], Way.start es hs, rfl, by simp⟩
 | @next n l c c' i _ h2 ih =>
  obtain ⟨out, hw, hk, hs3⟩ := ih
  obtain ⟨out', hw', hor⟩ := hw.next hn he h2
  refine ⟨out', hw', ?_, ?_⟩
  ·rw [ykeys_append, hk]
   rcases hor with ⟨h1, _, m, _, h3, _, _, h5, _⟩ | ⟨h1, h3, _⟩
   ·rw [h3, List.map_append]
    simp [ykeys, h1, h5]
   ·rw [h3]
    simp [ykeys, h1]
  ·intro j hj
   rcases List.mem_append.1 hj with hj | hj
   ·exact hs3 j hj
   ·rw [List.mem_singleton.1 hj]
    rcases hor with ⟨h1, _⟩ | ⟨_, _, _, _, h1, _⟩
    ·exact .inl h1
    ·exact .inr h1
end
end
section
variable {I Kk M b gv q size : Nat} {xs : List Value} {es out : List Ent} {hs ids : List Nat} {c c' : Cur} {it : Itm} {W0 : World} {E : Nat → Addr} {H : Nat → Nat} {a : Pool} {its : List It} {lst : Cnt} {l : List Itm}
def itC (i : Itm) : List Value := [.int .i64 (i.st : Int), .int .u64 (i.key : Int), .int .u64 (i.val : Int)]
section
variable {base : Nat} {w w' : World} {v v' u u' : Value} {vs : List Value} {L : List (List Itm)} {G G' : List Nat}
end
theorem NextS.ok (hc : c.ok) (he : ∀ e ∈ es, e.hash < 18446744073709551616 ∧ e.key < 18446744073709551616) (h : NextS es hs c it c') : c'.ok := by
 cases h with
 | done => exact hc
 | yield h hi m h1 h2 h3 h4 hm => exact behind_ok (he m (mem_upto.1 hm.1).1).1
 | skip h hi h1 h2 h3 => exact behind_ok h3
def RunsAt (es : List Ent) (hs : List Nat) (its : List It) (L : List (List Itm)) (I : Nat) (n : Nat → Nat) : Prop := ∀ k, k < I → ∃ cb c l, (⟨k + 1, cb, c⟩ : It) ∈ its ∧ L[k]? = some l ∧ Run es hs (n k) l c ∧ c.ok
theorem RunsAt.congr {L : List (List Itm)} {n n' : Nat → Nat} (h : RunsAt es hs its L I n) (hn : ∀ k, k < I → n k = n' k) : RunsAt es hs its L I n' := fun k hk => by rw [← hn k hk]; exact h k hk
theorem RunsAt.step {L : List (List Itm)} {cb : Nat} {n : Nat → Nat} (h : RunsAt es hs its L I n) (hi : (⟨q + 1, cb, c⟩ : It) ∈ its) (hL : L[q]? = some l) (hr : Run es hs (n q) l c) (hx : NextS es hs c it c') (hc : c'.ok) : RunsAt es hs (itSet its (q + 1) c') (L.set q (l ++ [it])) I (fun k => if k = q then n q + 1 else n k) := fun k hk => by
 by_cases hkq : k = q
 ·subst hkq
  refine ⟨cb, c', l ++ [it], List.mem_map.2 ⟨_, hi, by simp⟩, ?_, by simp only [if_true]; exact hr.next hx, hc⟩
  rw [List.getElem?_set, if_pos rfl, if_pos (List.getElem?_eq_some_iff.1 hL).1]
 ·obtain ⟨cb2, c2, l2, h1, h2, h3, h4⟩ := h k hk
  refine ⟨cb2, c2, l2, List.mem_map.2 ⟨_, h1, ?_⟩, ?_, by simp only [if_neg hkq]; exact h3, h4⟩
  ·show (if k + 1 = q + 1 then _ else _) = _
   rw [if_neg (by omega)]
  ·rw [List.getElem?_set, if_neg (fun e => hkq e.symm)]; exact h2
def LastK (out : List Ent) (n : Nat) (le : Ent) : Prop := n = 0 ∨ ∃ e, out[n - 1]? = some e ∧ le.key = e.key ∧ le.hash = e.hash
theorem LastK.next {n : Nat} {le e x : Ent} (h : LastK out n le) (ha : Asc out) (he : out[n]? = some e) (h0 : n ≠ 0) (hk : x.key = e.key) (hh : x.hash = e.hash) : lessE le x = true := by
 rcases h with h | ⟨e', h1, h2, h3⟩
 ·exact absurd h h0
 ·obtain ⟨a1, a2⟩ := List.getElem?_eq_some_iff.1 h1
  obtain ⟨b1, b2⟩ := List.getElem?_eq_some_iff.1 he
  have := List.pairwise_iff_getElem.1 ha (n - 1) n a1 b1 (by omega)
  rw [a2, b2] at this
  unfold lessE at this ⊢
  rw [h2, h3, hk, hh]
  exact this
end
section
variable {c i id : Nat} {H : Nat → Nat} {e ids ids' : List Nat} {a a' : Pool}
def aliveE (j : Nat) : Ent := ⟨j, j + 1, j * 1152921504606846976⟩
def aliveL : Nat → List Ent
 | 0 => []
 | i + 1 => aliveE i :: aliveL i
def aliveH (k : Nat) : Nat := k * 1152921504606846976 % 18446744073709551616
structure AliveSt (i : Nat) (a : Pool) (ids : List Nat) : Prop where
 ids_ : ids = []
 ents : a.ents.Perm (aliveL i)
 nd : ∃ N, a.Ns = [N] ∧ N.ph = .idle ∧ N.len = 1 ∧ N.dpt = 0 ∧ N.kind = 0 ∧ load N.T ≤ i
end
def AliveG (i : Nat) (a : Pool) (ids : List Nat) : Prop := (i < 4 → AliveSt i a ids) ∧ (i = 4 → ids = [] ∧ a.ents.Perm (aliveL 4) ∧ a.groups = 2)
section
variable {W0 w : World} {K M j mb : Nat} {G ids l : List Nat} {E : Nat → Addr} {H : Nat → Nat}
theorem act_cells {base m : Nat} {B : Option Addr} {acts : List LAct} (hR : Reads w base 3 B m (acts.flatMap LAct.cells)) (hm : acts.length = m) {a : LAct} (hj : acts[j]? = some a) : ∃ g off, B = some ⟨g, off, none⟩ ∧ g < base ∧ w.cell? ⟨g, off + j * 3, none⟩ = some (.int .i64 a.kind) ∧ w.cell? ⟨g, off + j * 3 + 1, none⟩ = some (.int .i64 a.key) ∧ w.cell? ⟨g, off + j * 3 + 2, none⟩ = some (.int .i64 a.n) := by
 have hjl := get_lt hj
 obtain ⟨g, off, h1, h2, h3⟩ := hR.2 (by omega)
 have hat : ∀ q u, a.cells[q]? = some u → (acts.flatMap LAct.cells)[j * 3 + q]? = some u := fun q u hu => by
  have hq : q < 3 := by have := get_lt hu; simpa [LAct.cells] using this
  obtain ⟨e1, _⟩ := list_at hj
  have e2 : acts.flatMap LAct.cells = (acts.take j).flatMap LAct.cells ++ (a.cells ++ (acts.drop (j + 1)).flatMap LAct.cells) := by
   have : acts.flatMap LAct.cells = (acts.take j ++ a :: acts.drop (j + 1)).flatMap LAct.cells := by rw [← e1]
   rw [this]; simp
  have e3 : ((acts.take j).flatMap LAct.cells).length = j * 3 := by
   have : ∀ l : List LAct, (l.flatMap LAct.cells).length = l.length * 3 := fun l => by
    induction l with
    | nil => rfl
    | cons x l ih => simp only [List.flatMap_cons, List.length_append, List.length_cons, ih]; simp [LAct.cells]; omega
   rw [this, List.length_take]; omega
  rw [e2, List.getElem?_append_right (by omega), e3, Nat.add_sub_cancel_left, List.getElem?_append_left (by simpa [LAct.cells] using hq)]
  exact hu
 exact ⟨g, off, h1, h2, h3 _ _ (hat 0 _ rfl), by rw [Nat.add_assoc]; exact h3 _ _ (hat 1 _ rfl), by rw [Nat.add_assoc]; exact h3 _ _ (hat 2 _ rfl)⟩
def lawH (l : List Nat) (k : Nat) : Nat := l.getD k 0
theorem lawH_lt (h : ∀ x ∈ l, x < 18446744073709551616) (k : Nat) : lawH l k < 18446744073709551616 := by
 unfold lawH
 rw [List.getD_eq_getElem?_getD]
 cases hk : l[k]? with
 | none => decide
 | some x => exact h x (List.mem_of_getElem? hk)
theorem entOf_ok (h : ∀ x ∈ l, x < 18446744073709551616) (hn : 1 ≤ l.length ∧ l.length ≤ 220) (a : LAct) : EntOk (lawH l) (entOf l a) := by
 refine ⟨rfl, lawH_lt h _, ?_, ?_⟩
 ·have : iOf a.key l.length < l.length := Nat.mod_lt _ (by omega)
  show iOf a.key l.length < _
  omega
 ·show (a.n % 18446744073709551616).toNat < _
  omega
theorem cfg_nat {k m i : Int} (h : cfgOk k m i = true) : ∃ K M I : Nat, (1 ≤ K ∧ K ≤ 64) ∧ (1 ≤ M ∧ M ≤ 192) ∧ k = (K : Int) ∧ m = (M : Int) ∧ i = (I : Int) := by
 unfold cfgOk inB at h
 simp only [Bool.and_eq_true, decide_eq_true_eq] at h
 exact ⟨k.toNat, m.toNat, i.toNat, by omega, by omega, by omega, by omega, by omega⟩
def Keeps (a a' : Pool) : Prop := ∀ mx, GB mx a → a'.ents.length ≤ mx → GB mx a'
theorem fewer_rounds {m : Nat} (h : j < m) : m - (intOf (.int .i64 ((j : Int) + 1))).toNat < m - (intOf (.int .i64 (j : Int))).toNat := by
 show m - ((j : Int) + 1).toNat < m - (j : Int).toNat
 omega
end
end Go.Proofs.YtckmopailiamlaaGreatDoor
