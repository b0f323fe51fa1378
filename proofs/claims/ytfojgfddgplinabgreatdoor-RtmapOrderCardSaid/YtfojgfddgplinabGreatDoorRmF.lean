/- amblernum.Before; amblerref21.Map: Least. -/
import Derived.Test.YtfojgfddgplinabGreatDoorRefD
import Derived.Test.YtfojgfddgplinabGreatDoorLaneP
import Derived.Test.YtfojgfddgplinabGreatDoorCoBV
import Derived.Test.YtfojgfddgplinabGreatDoorCoDA
import Derived.Test.YtfojgfddgplinabGreatDoorRmI
import Derived.Test.YtfojgfddgplinabGreatDoorSqT
namespace Go.Proofs.YtfojgfddgplinabGreatDoor
set_option maxRecDepth 100000
set_option maxHeartbeats 4000000
open Go.RowKit dG
theorem Qi (a b : av) : (a.hash ≠ b.hash ∧ bg a b = decide (a.hash < b.hash)) ∨ (a.hash = b.hash ∧ bg a b = decide (a.key < b.key)) := by
 by_cases h : a.hash = b.hash
 ·refine .inr ⟨h, ?_⟩
  rw [Bool.eq_iff_iff]
  simp [bg]
  omega
 ·refine .inl ⟨h, ?_⟩
  rw [Bool.eq_iff_iff]
  simp [bg]
  omega
theorem Qj (a b : av) (w : World) : Calls Tryz.prog 15 #[aM a, aM b] w fun e w' => e = .returned (.bool (bg a b)) ∧ Below w.heap.size w w' := by
 have HL := qd (Qi a b)
 unfold aM
 have hA := aj.alloc (aj.new w 37 #[.int .u64 (a.key : Int), .int .u64 (a.val : Int), .int .u64 (a.hash : Int)]) (.cells #[.int .u64 (b.key : Int), .int .u64 (b.val : Int), .int .u64 (b.hash : Int)] 37)
 have hB := aj.new (w.alloc (.cells #[.int .u64 (a.key : Int), .int .u64 (a.val : Int), .int .u64 (a.hash : Int)] 37)) 37 #[.int .u64 (b.key : Int), .int .u64 (b.val : Int), .int .u64 (b.hash : Int)]
 have hW := ((Below.refl w.heap.size w).alloc (Nat.le_refl _) (.cells #[.int .u64 (a.key : Int), .int .u64 (a.val : Int), .int .u64 (a.hash : Int)] 37)).alloc (by simp) (.cells #[.int .u64 (b.key : Int), .int .u64 (b.val : Int), .int .u64 (b.hash : Int)] 37)
 rw [World.size_alloc] at hB
 have HA := qd hA
 have HB := qd hB
 have HW := qd hW
 clear hA hB hW
 go_in
 go_upto_region 1 with fail
 refine cZ (F := fun v => aj v w.heap.size 37 #[.int .u64 (a.key : Int), .int .u64 (a.val : Int), .int .u64 (a.hash : Int)] ∧ aj v (w.heap.size + 1) 37 #[.int .u64 (b.key : Int), .int .u64 (b.val : Int), .int .u64 (b.hash : Int)] ∧ Below w.heap.size w v) ⟨HA.out, HB.out, HW.out⟩ ?_
 clear HA HB HW
 rintro w1 ⟨hA, hB, hb⟩
 have a0 := hA.cell 0
 have a2 := hA.cell 2
 have b0 := hB.cell 0
 have b2 := hB.cell 2
 simp only [gl] at a0 a2 b0 b2
 have HW := qd hb
 clear hA hB hb
 rcases HL.out with ⟨h1, h2⟩ | ⟨h1, h2⟩
 ·have h1' : ¬ (a.hash : Int) = (b.hash : Int) := by omega
  have HL2 := qd h2
  clear h2
  go_wp2
  go_ret
  exact ⟨jU HL2.out.symm, HW.out⟩
 ·have h1' : (a.hash : Int) = (b.hash : Int) := by omega
  have HL2 := qd h2
  clear h2
  go_wp2
  go_ret
  exact ⟨jU HL2.out.symm, HW.out⟩
section
section
variable {w w' : World} {base mb M : Nat} {es : List av} {R : List Nat}
end
def cutAt (y : Option av) (hi : Nat) : Option av := match y with | none => none | some m => if m.hash ≤ hi then some m else none
end
section
variable {l : List av} {m : av} {b base : Nat} {w : World} {v : Value}
def Asc (l : List av) : Prop := l.Pairwise fun x y => bg x y = true
theorem Asc.nodup (h : Asc l) : l.Nodup := h.imp fun hxy e => by rw [e, yh] at hxy; cases hxy
theorem VN (h : Asc l) (hm : ∀ e ∈ l, bg e m = true) : Asc (l ++ [m]) := List.pairwise_append.2 ⟨h, List.pairwise_singleton _ _, fun x hx y hy => by rw [List.mem_singleton.1 hy]; exact hm x hx⟩
def below_ (hs : List Nat) (b : Nat) : Nat := (hs.filter fun h => decide (h < b)).length
theorem vo (hs : List Nat) {a : Nat} (h : a ≤ b) : below_ hs a ≤ below_ hs b := by
 unfold below_
 induction hs with
 | nil => simp
 | cons x l ih =>
  simp only [List.filter_cons]
  by_cases h1 : x < a
  ·rw [if_pos (by simpa using h1), if_pos (by simp; omega)]; simp only [List.length_cons]; omega
  ·rw [if_neg (by simpa using h1)]
   split <;> (try simp only [List.length_cons]) <;> omega
theorem zZ {hs : List Nat} {a x : Nat} (hx : x ∈ hs) (h1 : a ≤ x) (h2 : x < b) : below_ hs a + 1 ≤ below_ hs b := by
 obtain ⟨s, t, rfl⟩ := List.append_of_mem hx
 have g1 := vo s (Nat.le_trans h1 (Nat.le_of_lt h2))
 have g2 := vo t (Nat.le_trans h1 (Nat.le_of_lt h2))
 unfold below_ at g1 g2 ⊢
 rw [List.filter_append, List.filter_append, List.filter_cons, List.filter_cons, if_neg (by simp; omega), if_pos (by simp; omega)]
 simp only [List.length_append, List.length_cons]
 omega
theorem below_le (hs : List Nat) (b : Nat) : below_ hs b ≤ hs.length := List.length_filter_le _ _
structure kV (es : List av) (hs : List Nat) (n : Nat) (out : List av) (key hash : Nat) : Prop where
 Cn : Asc out
 mem : ∀ e, e ∈ out ↔ e ∈ es ∧ bg e ⟨key, 0, hash⟩ = true
 cnt : n ≤ out.length + below_ hs hash
section
variable {es out : List av} {hs : List Nat} {n key hash hi : Nat}
theorem kV.start (es : List av) (hs : List Nat) : kV es hs 0 [] 0 0 := ⟨.nil, fun e => by simp [bg], Nat.zero_le _⟩
theorem I8 {l' : List av} (hn : l.Nodup) (hs : ∀ x ∈ l, x ∈ l') : l.length ≤ l'.length := by
 induction l generalizing l' with
 | nil => exact Nat.zero_le _
 | cons x l ih =>
  rw [List.nodup_cons] at hn
  obtain ⟨s, t, rfl⟩ := List.append_of_mem (hs x (by simp))
  have h1 := ih (l' := s ++ t) hn.2 (fun y hy => by
   have := hs y (by simp [hy])
   simp only [List.mem_append, List.mem_cons] at this ⊢
   rcases this with h | h | h
   ·exact .inl h
   ·rw [h] at hy; exact absurd hy hn.1
   ·exact .inr h)
  simp only [List.length_append, List.length_cons] at h1 ⊢
  omega
theorem kV.len (h : kV es hs n out key hash) : out.length ≤ es.length := I8 h.Cn.nodup (fun e he => ((h.mem e).1 he).1)
theorem kV.few (h : kV es hs n out key hash) (h1 : es.length ≤ 192) (h2 : hs.length ≤ 32) : n ≤ 224 := by
 have := h.cnt
 have := h.len
 have := below_le hs hash
 omega
theorem kV.some_ (h : kV es hs n out key hash) (hn : (es.map av.key).Nodup) (hm : eT ⟨key, 0, hash⟩ (upto es hi) (some m)) : kV es hs (n + 1) (out ++ [m]) (m.key + 1) m.hash ∧ (∀ e ∈ out, bg e m = true) ∧ m.hash ≤ hi ∧ m ∈ es := by
 obtain ⟨m1, m2⟩ := jd.1 hm.1
 have hlt : ∀ e ∈ out, bg e m = true := fun e he => by
  have h1 := ((h.mem e).1 he).2
  have h2 := hm.2.1
  simp [bg] at h1 h2 ⊢
  omega
 have hh := I4 hm.2.1
 refine ⟨⟨VN h.Cn hlt, fun e => ⟨fun he => ?_, fun he => ?_⟩, ?_⟩, hlt, m2, m1⟩
 ·rcases List.mem_append.1 he with h1 | h1
  ·refine ⟨((h.mem e).1 h1).1, ?_⟩
   have := hlt e h1
   simp [bg] at this ⊢
   omega
  ·rw [List.mem_singleton.1 h1]
   exact ⟨m1, by simp [bg]⟩
 ·rw [List.mem_append, List.mem_singleton]
  cases hl : bg e ⟨key, 0, hash⟩ with
  | true => exact .inl ((h.mem e).2 ⟨he.1, hl⟩)
  | false =>
   right
   have h1 := he.2
   have h2 := hm.2.2 e (jd.2 ⟨he.1, by simp [bg] at h1; omega⟩) hl
   have hk : e.key = m.key := by simp [bg] at h1 h2; omega
   have e1 := mD hn he.1
   have e2 := mD hn m1
   rw [hk, e2] at e1
   exact (Option.some.inj e1).symm
 ·have := h.cnt
  have := vo hs hh
  simp only [List.length_append, List.length_cons, List.length_nil]
  omega
theorem kV.none_ (h : kV es hs n out key hash) (hm : eT ⟨key, 0, hash⟩ (upto es hi) none) (h1 : hash ≤ hi) (h2 : hi ∈ hs) : kV es hs (n + 1) out 0 (hi + 1) := by
 refine ⟨h.Cn, fun e => ⟨fun he => ?_, fun he => ?_⟩, ?_⟩
 ·have := (h.mem e).1 he
  refine ⟨this.1, ?_⟩
  have h3 := this.2
  simp [bg] at h3 ⊢
  omega
 ·have h3 := he.2
  exact (h.mem e).2 ⟨he.1, hm e (jd.2 ⟨he.1, by simp [bg] at h3; omega⟩)⟩
 ·have := h.cnt
  have := zZ (b := hi + 1) h2 h1 (by omega)
  omega
end
end
section
structure gQ where
 st : Nat
 key : Nat
 val : Nat
def gQ.zero : gQ := ⟨0, 0, 0⟩
def gq.passed (c : gq) (e : av) : Prop := c.done = true ∨ bg e ⟨c.key, 0, c.hash⟩ = true
inductive iV (es : List av) (hs : List Nat) (c : gq) : gQ → gq → Prop
 | done (h : c.done = true) : iV es hs c ⟨3, 0, 0⟩ c
 | yield (h : c.done = false) (hi : Nat) (m : av) (h1 : c.hash ≤ hi) (h2 : hi ∈ hs) (h3 : hi < 18446744073709551616) (h4 : ∀ x ∈ hs, c.hash ≤ x → hi ≤ x) (hm : eT ⟨c.key, 0, c.hash⟩ (upto es hi) (some m)) : iV es hs c ⟨1, m.key, m.val⟩ (behind m.hash m.key)
 | skip (h : c.done = false) (hi : Nat) (h1 : c.hash ≤ hi) (h2 : hi ∈ hs) (h3 : hi < 18446744073709551616) (h4 : ∀ x ∈ hs, c.hash ≤ x → hi ≤ x) (hm : eT ⟨c.key, 0, c.hash⟩ (upto es hi) none) : iV es hs c ⟨if hi < 18446744073709551615 then 2 else 3, 0, 0⟩ (behind hi 18446744073709551615)
theorem xP {h k : Nat} (h1 : h < 18446744073709551616) : (behind h k).ok := by
 unfold behind gq.ok
 split
 ·exact ⟨h1, by simp only; omega⟩
 ·split
  ·exact ⟨by simp only; omega, by simp⟩
  ·simp
theorem sK {f : av} {l : List av} {o o' : Option av} (hn : ∀ e ∈ l, ∀ e' ∈ l, e.key = e'.key → e = e') (h : eT f l o) (h' : eT f l o') : o = o' := by
 cases o with
 | none =>
  cases o' with
  | none => rfl
  | some m => exact absurd (h m h'.1) (by rw [h'.2.1]; simp)
 | some m =>
  cases o' with
  | none => exact absurd (h' m h.1) (by rw [h.2.1]; simp)
  | some m' =>
   have h1 := h.2.2 m' h'.1 h'.2.1
   have h2 := h'.2.2 m h.1 h.2.1
   have : m.key = m'.key := by simp [bg] at h1 h2; omega
   rw [hn m h.1 m' h'.1 this]
theorem Qk {es : List av} (hn : (es.map av.key).Nodup) : ∀ e ∈ es, ∀ e' ∈ es, e.key = e'.key → e = e' := fun e he e' he' hk => by
 have e1 := mD hn he
 have e2 := mD hn he'
 rw [hk, e2] at e1
 exact (Option.some.inj e1).symm
section
variable {es out : List av} {hs : List Nat} {n : Nat} {c c' c'' : gq} {i i' : gQ}
theorem iV.unique (hn : (es.map av.key).Nodup) (h : iV es hs c i c') (h' : iV es hs c i' c'') : i = i' ∧ c' = c'' := by
 have hu : ∀ (hi hi' : Nat), c.hash ≤ hi → hi ∈ hs → (∀ x ∈ hs, c.hash ≤ x → hi ≤ x) → c.hash ≤ hi' → hi' ∈ hs → (∀ x ∈ hs, c.hash ≤ x → hi' ≤ x) → hi = hi' :=
  fun hi hi' a b d a' b' d' => Nat.le_antisymm (d hi' b' a') (d' hi b a)
 have hk : ∀ hi : Nat, ∀ e ∈ upto es hi, ∀ e' ∈ upto es hi, e.key = e'.key → e = e' := fun hi e he e' he' => Qk hn e (jd.1 he).1 e' (jd.1 he').1
 cases h with
 | done h =>
  cases h' with
  | done => exact ⟨rfl, rfl⟩
  | yield h' => rw [h] at h'; cases h'
  | skip h' => rw [h] at h'; cases h'
 | yield h hi m h1 h2 h3 h4 hm =>
  cases h' with
  | done h' => rw [h] at h'; cases h'
  | yield _ hi' m' h1' h2' h3' h4' hm' =>
   obtain rfl := hu hi hi' h1 h2 h4 h1' h2' h4'
   have := sK (hk hi) hm hm'
   obtain rfl := Option.some.inj this
   exact ⟨rfl, rfl⟩
  | skip _ hi' h1' h2' h3' h4' hm' =>
   obtain rfl := hu hi hi' h1 h2 h4 h1' h2' h4'
   cases sK (hk hi) hm hm'
 | skip h hi h1 h2 h3 h4 hm =>
  cases h' with
  | done h' => rw [h] at h'; cases h'
  | yield _ hi' m' h1' h2' h3' h4' hm' =>
   obtain rfl := hu hi hi' h1 h2 h4 h1' h2' h4'
   cases sK (hk hi) hm hm'
  | skip _ hi' h1' h2' h3' h4' hm' =>
   obtain rfl := hu hi hi' h1 h2 h4 h1' h2' h4'
   exact ⟨rfl, rfl⟩
structure Way (es : List av) (hs : List Nat) (n : Nat) (out : List av) (c : gq) : Prop where
 Cn : Asc out
 mem : ∀ e, e ∈ out ↔ e ∈ es ∧ c.passed e
 cnt : c.done = false → n ≤ out.length + below_ hs c.hash
 ok : c.ok
theorem Way.start (es : List av) (hs : List Nat) : Way es hs 0 [] ⟨0, 0, false⟩ := ⟨.nil, fun e => by simp [gq.passed, bg], fun _ => Nat.zero_le _, by simp [gq.ok]⟩
theorem uM {es : List av} {hash key : Nat} (h1 : hash < 18446744073709551616) (h2 : key < 18446744073709551616) (he : ∀ e ∈ es, e.hash < 18446744073709551616 ∧ e.key < 18446744073709551616) {e : av} (h : e ∈ es) : (behind hash key).passed e ↔ bg e ⟨key + 1, 0, hash⟩ = true := by
 have := he e h
 unfold behind gq.passed
 split
 ·simp [bg]
 ·split
  ·simp [bg]; omega
  ·simp [bg]; omega
theorem Way.aan (h : Way es hs n out c) (hd : c.done = false) : kV es hs n out c.key c.hash := ⟨h.Cn, fun e => by rw [h.mem e]; unfold gq.passed; rw [hd]; simp, h.cnt hd⟩
theorem VO {hash key : Nat} (h : kV es hs n out (key + 1) hash) (h1 : hash < 18446744073709551616) (h2 : key < 18446744073709551616) (he : ∀ e ∈ es, e.hash < 18446744073709551616 ∧ e.key < 18446744073709551616) : Way es hs n out (behind hash key) := by
 refine ⟨h.Cn, fun e => ⟨fun hh => ?_, fun hh => ?_⟩, fun hd => ?_, xP h1⟩
 ·obtain ⟨g1, g2⟩ := (h.mem e).1 hh
  exact ⟨g1, (uM h1 h2 he g1).2 g2⟩
 ·exact (h.mem e).2 ⟨hh.1, (uM h1 h2 he hh.1).1 hh.2⟩
 ·have h3 := h.cnt
  have : hash ≤ (behind hash key).hash := by
   unfold behind at hd ⊢
   split
   ·exact Nat.le_refl _
   ·split
    ·exact Nat.le_succ _
    ·rename_i a b; rw [if_neg a, if_neg b] at hd; cases hd
  have := vo hs this
  omega
theorem Way.next (h : Way es hs n out c) (hn : (es.map av.key).Nodup) (he : ∀ e ∈ es, e.hash < 18446744073709551616 ∧ e.key < 18446744073709551616) (hN : iV es hs c i c') :
  ∃ out', Way es hs (n + 1) out' c' ∧ ((i.st = 1 ∧ c.done = false ∧ ∃ m ∈ es, out' = out ++ [m] ∧ (∀ e ∈ out, bg e m = true) ∧ ¬ c.passed m ∧ i.key = m.key ∧ i.val = m.val ∧ c' = behind m.hash m.key) ∨ (i.st ≠ 1 ∧ out' = out ∧ i.key = 0 ∧ i.val = 0 ∧ (i.st = 2 ∨ i.st = 3) ∧ (i.st = 3 ↔ c'.done = true))) := by
 cases hN with
 | done hd => exact ⟨out, ⟨h.Cn, h.mem, fun hh => (by rw [hd] at hh; cases hh), h.ok⟩, .inr ⟨by simp, rfl, rfl, rfl, .inr rfl, by simp [hd]⟩⟩
 | yield hd hi m h1 h2 h3 h4 hm =>
  obtain ⟨w1, w2, w3, w4⟩ := (h.aan hd).some_ hn hm
  have hb := he m w4
  exact ⟨out ++ [m], VO w1 hb.1 hb.2 he, .inl ⟨rfl, hd, m, w4, rfl, w2, fun hp => (by rcases hp with hp | hp; rw [hd] at hp; cases hp; have := hm.2.1; rw [hp] at this; cases this), rfl, rfl, rfl⟩⟩
 | skip hd hi h1 h2 h3 h4 hm =>
  have hcn := h.cnt hd
  have Xp : ∀ e ∈ es, ((behind hi 18446744073709551615).passed e ↔ c.passed e) := fun e hh => by
   rw [uM h3 (by omega) he hh]
   have hb := he e hh
   unfold gq.passed
   rw [hd]
   constructor
   ·intro hl
    right
    exact hm e (jd.2 ⟨hh, by simp [bg] at hl; omega⟩)
   ·rintro (hl | hl)
    ·cases hl
    ·simp [bg] at hl ⊢; omega
  refine ⟨out, ⟨h.Cn, fun e => ⟨fun hh => ?_, fun hh => ?_⟩, fun hx => ?_, xP h3⟩, .inr ⟨?_, rfl, rfl, rfl, ?_, ?_⟩⟩
  ·obtain ⟨g1, g2⟩ := (h.mem e).1 hh
   exact ⟨g1, (Xp e g1).2 g2⟩
  ·exact (h.mem e).2 ⟨hh.1, (Xp e hh.1).1 hh.2⟩
  ·have hx' : hi < 18446744073709551615 := by
    unfold behind at hx
    rw [if_neg (by omega)] at hx
    by_cases hlt : hi < 18446744073709551615
    ·exact hlt
    ·rw [if_neg hlt] at hx; cases hx
   have hb : (behind hi 18446744073709551615).hash = hi + 1 := by
    unfold behind; rw [if_neg (by omega), if_pos hx']
   rw [hb]
   have := zZ (b := hi + 1) h2 h1 (by omega)
   omega
  ·simp only; split <;> omega
  ·simp only; split <;> simp
  ·unfold behind
   by_cases hlt : hi < 18446744073709551615 <;> simp [hlt]
theorem Way.few (h : Way es hs n out c) (hd : c.done = false) (hN : iV es hs c i c') : n < es.length + hs.length := by
 have h1 := h.cnt hd
 have h2 : out.length ≤ es.length := I8 h.Cn.nodup (fun e he => ((h.mem e).1 he).1)
 have h3 : below_ hs c.hash < hs.length := by
  have hx : ∃ hi, c.hash ≤ hi ∧ hi ∈ hs := by
   cases hN with
   | done h => rw [hd] at h; cases h
   | yield h hi m h1 h2 => exact ⟨hi, h1, h2⟩
   | skip h hi h1 h2 => exact ⟨hi, h1, h2⟩
  obtain ⟨hi, g1, g2⟩ := hx
  have := zZ (b := hi + 1) g2 g1 (by omega)
  have := below_le hs (hi + 1)
  omega
 omega
theorem Way.abC (h : Way es hs n out c) (hn : (es.map av.key).Nodup) (hd : c.done = true) : out.Perm es :=
 (List.perm_ext_iff_of_nodup h.Cn.nodup (by
  unfold List.Nodup at hn ⊢
  rw [List.pairwise_map] at hn
  exact hn.imp fun hxy e => hxy (by rw [e]))).2 fun e => ⟨fun he => ((h.mem e).1 he).1, fun he => (h.mem e).2 ⟨he, .inl hd⟩⟩
end
end
section
def uQ (i : gQ) : Value := .agg #[.int .i64 (i.st : Int), .int .u64 (i.key : Int), .int .u64 (i.val : Int)]
def jP (its : List It) (id : Nat) (c : gq) : List It := its.map fun i => if i.id = id then { i with c := c } else i
theorem Nl {its : List It} (hn : (its.map It.cb).Nodup) {i j : It} (hi : i ∈ its) (hj : j ∈ its) (h : i.cb = j.cb) : i = j := by
 induction its with
 | nil => cases hi
 | cons x l ih =>
  rw [List.map_cons, List.nodup_cons] at hn
  rcases List.mem_cons.1 hi with h1 | h1
  ·rcases List.mem_cons.1 hj with h2 | h2
   ·rw [h1, h2]
   ·exact absurd (show x.cb ∈ l.map It.cb from by rw [← h1, h]; exact List.mem_map_of_mem h2) hn.1
  ·rcases List.mem_cons.1 hj with h2 | h2
   ·exact absurd (show x.cb ∈ l.map It.cb from by rw [← h2, ← h]; exact List.mem_map_of_mem h1) hn.1
   ·exact ih hn.2 h1 h2
section
variable {w w' : World} {ib mb most given id cb : Nat} {its : List It} {c c' : gq}
theorem Ml : (jP its id c).map It.id = its.map It.id := by
 unfold jP
 rw [List.map_map]
 apply List.map_congr_left
 intro i _
 simp only [Function.comp_apply]
 split <;> rfl
theorem VP : (jP its id c).map It.cb = its.map It.cb := by
 unfold jP
 rw [List.map_map]
 apply List.map_congr_left
 intro i _
 simp only [Function.comp_apply]
 split <;> rfl
theorem vw : dz ib mb (jP its id c) = dz ib mb its := by unfold dz; rw [VP]
theorem SV : nG (jP its id c) = nG its := by
 unfold nG jP
 rw [List.map_map]
 apply List.map_congr_left
 intro i _
 simp only [Function.comp_apply]
 split <;> rfl
theorem j4.setCur (h : j4 w ib mb most given its) (hi : ⟨id, cb, c⟩ ∈ its) (hc : fA w' cb c') {S : List Nat} (hm : Mod S w w') (hS : ∀ q ∈ S, q = cb ∨ q ∉ dz ib mb its) : j4 w' ib mb most given (jP its id c') := by
 have hnf := h.nf
 unfold dz at hnf
 rw [List.nodup_cons, List.nodup_cons] at hnf
 have aao : cb ∈ its.map It.cb := List.mem_map.2 ⟨_, hi, rfl⟩
 have h1 : ib ∉ S := fun hh => (hS _ hh).elim (fun k => hnf.1 (by rw [k]; exact List.mem_cons_of_mem _ aao)) (fun k => k (by simp [dz]))
 have h2 : mb ∉ S := fun hh => (hS _ hh).elim (fun k => hnf.2.1 (by rw [k]; exact aao)) (fun k => k (by simp [dz]))
 refine ⟨h.blk.mod hm h1, by rw [SV]; exact h.map.mod hm h2, fun i hi' => ?_, fun i hi' => ?_, by rw [Ml]; exact h.nd, by rw [vw]; exact h.nf, h.few.1, by unfold jP; rw [List.length_map]; exact h.few.2⟩
 ·unfold jP at hi'
  obtain ⟨j, hj, rfl⟩ := List.mem_map.1 hi'
  by_cases hid : j.id = id
  ·rw [if_pos hid]
   have := wQ h.nd hj hi hid
   rw [this]; exact hc
  ·rw [if_neg hid]
   refine (h.cur j hj).mod hm (fun hh => hid ?_)
   have hcb : j.cb = cb := (hS _ hh).elim (fun k => k) (fun k => absurd (by unfold dz; simp only [List.mem_cons]; exact .inr (.inr (List.mem_map_of_mem hj))) k)
   have hn : (its.map It.cb).Nodup := hnf.2.2
   exact congrArg It.id (Nl hn hj hi hcb)
 ·have : i.id ∈ its.map It.id := by rw [← Ml (id := id) (c := c')]; exact List.mem_map_of_mem hi'
  obtain ⟨j, hj, hji⟩ := List.mem_map.1 this
  rw [← hji]
  exact h.ids j hj
end
def rP (W0 : World) (E : Nat → Addr) (H : Nat → Nat) (Kk M I b : Nat) (G0 : List Nat) (w0 : World) (C : fZ) (GC : List Nat) (mb gv : Nat) (a : Pool) (ids : List Nat) (its : List It) (id cb : Nat) (c : gq) (V : World) (it : gQ) (w' : World) : Prop :=
 ∃ (c' : gq) (cc : bF) (fI : List Nat), iV a.ents (kU a) c it c' ∧ Mj cc ∧ fO W0 E H Kk M I b G0 w0 C fI mb gv w' a ids (jP its id c') ∧ jE W0 E H Kk M C.cb fI w' a ids cc ∧ (∀ q ∈ fI, q ∈ GC ∨ V.heap.size ≤ q) ∧ Mod (cb :: GC) V w'
section
variable {W0 : World} {E : Nat → Addr} {H : Nat → Nat} {Kk M I b : Nat} {G0 : List Nat} {w0 w : World} {C : fZ} {GC : List Nat} {mb gv : Nat} {a : Pool} {ids : List Nat} {its : List It} {id cb : Nat} {c : gq}
theorem rP.mod {T : List Nat} {V w1 w2 : World} {it : gQ} (h : rP W0 E H Kk M I b G0 w0 C GC mb gv a ids its id cb c V it w1) (hm : Mod T w1 w2) (hT : ∀ q ∈ T, q ∉ dU b C GC mb its ∧ w0.heap.size ≤ q ∧ q < V.heap.size) :
  ∃ (c' : gq) (cc : bF) (fI : List Nat), iV a.ents (kU a) c it c' ∧ Mj cc ∧ fO W0 E H Kk M I b G0 w0 C fI mb gv w2 a ids (jP its id c') ∧ jE W0 E H Kk M C.cb fI w2 a ids cc ∧ (∀ q ∈ fI, q ∈ GC ∨ V.heap.size ≤ q) ∧ Mod (cb :: (GC ++ T)) V w2 := by
 obtain ⟨c', cc, fI, h1, h2, h3, h4, h5, h6⟩ := h
 have h7 : ∀ q ∈ T, q ∉ fI := fun q hq hg => by
  rcases h5 q hg with k | k
  ·exact (hT q hq).1 (aG.2 (.inr (.inr k)))
  ·have := (hT q hq).2.2; omega
 refine ⟨c', cc, fI, h1, h2, h3.Cj hm (fun q hq => ⟨fun hg => ?_, (hT q hq).2.1⟩), h4.mod hm (fun q hq => ⟨h7 q hq, Nat.le_trans h3.o9 (hT q hq).2.1⟩), h5, (h6.more (fun q hq => by simp at hq ⊢; rcases hq with k | k; exact .inl k; exact .inr (.inl k))).then (hm.more (fun q hq => by simp; exact .inr (.inr hq)))⟩
 rcases aG.1 hg with k | k | k
 ·exact (hT q hq).1 (aG.2 (.inl k))
 ·rw [vw] at k; exact (hT q hq).1 (aG.2 (.inr (.inl k)))
 ·exact h7 q hq k
theorem rP.of {S : List Nat} {V V1 V2 : World} {c' : gq} {cc : bF} {fI : List Nat} {it : gQ} (h3 : fO W0 E H Kk M I b G0 w0 C fI mb gv V1 a ids its) (h4 : jE W0 E H Kk M C.cb fI V1 a ids cc) (h5 : ∀ q ∈ fI, q ∈ GC ∨ V.heap.size ≤ q) (h6 : Mod GC V V1) (hi : ⟨id, cb, c⟩ ∈ its) (h1 : iV a.ents (kU a) c it c') (h2 : Mj cc) (hc : fA V2 cb c') (hm : Mod S V1 V2) (hS : ∀ q ∈ S, q = cb ∨ (q ∉ dU b C fI mb its ∧ w0.heap.size ≤ q ∧ V.heap.size ≤ q)) : rP W0 E H Kk M I b G0 w0 C GC mb gv a ids its id cb c V it V2 := by
 have hcb : cb ∈ dz C.ib mb its := by
  unfold dz
  simp only [List.mem_cons, List.mem_map]
  exact .inr (.inr ⟨_, hi, rfl⟩)
 refine ⟨c', cc, fI, h1, h2, h3.aal (h3.ou.setCur hi hc hm (fun q hq => (hS q hq).elim .inl (fun k => .inr (fun g => k.1 (aG.2 (.inr (.inl g))))))) hm (fun q hq => (hS q hq).elim (fun k => .inl (k ▸ hcb)) (fun k => .inr ⟨k.1, k.2.1⟩)) (fun q hq => by rw [vw] at hq; exact .inl hq), h4.mod hm (fun q hq => ?_), h5, h6.trans hm (fun q hq _ => List.mem_cons_of_mem _ hq) (fun q hq hl => ?_)⟩
 ·rcases hS q hq with k | k
  ·rw [k]; exact ⟨h3.apart.2.2 _ hcb, h3.b0.2 _ hcb⟩
  ·exact ⟨fun g => k.1 (aG.2 (.inr (.inr g))), Nat.le_trans h3.o9 k.2.1⟩
 ·rcases hS q hq with k | k
  ·rw [k]; simp
  ·omega
theorem fO.Co (h : fO W0 E H Kk M I b G0 w0 C GC mb gv w a ids its) : ∀ e ∈ a.ents, e.hash < 18446744073709551616 ∧ e.key < 18446744073709551616 := fun e he => by
 obtain ⟨i, N, h1, h2⟩ := mQ.1 he
 have h3 := ((h.core.facts.2.2.2.2.2.1 i N h1).hash e h2).1
 exact ⟨h3.h64, h3.k64⟩
end
theorem Yk {W0 : World} {E : Nat → Addr} {H : Nat → Nat} {Kk M I b : Nat} {G0 : List Nat} {w0 w : World} {C : fZ} {GC : List Nat} {mb gv : Nat} {a : Pool} {ids : List Nat} {its : List It} {id cb : Nat} {c : gq} (hS : fO W0 E H Kk M I b G0 w0 C GC mb gv w a ids its) (hi : ⟨id, cb, c⟩ ∈ its) (hd : c.done = false) (hok : c.ok) : Calls Tryz.prog 37 #[.pointer (some ⟨b, 0, none⟩), .pointer (some ⟨cb, 0, none⟩)] w fun y w' => ∃ it, y = .returned (.tuple #[uQ it, .nilIface]) ∧ rP W0 E H Kk M I b G0 w0 C GC mb gv a ids its id cb c w it w' := by
 have hst := hS
 have hB := (Below.refl w.heap.size w).alloc (Nat.le_refl _) (.cells #[.int .i64 0, .int .u64 0, .int .u64 0] 47)
 have hR := aj.new w 47 #[.int .i64 0, .int .u64 0, .int .u64 0]
 obtain ⟨W, hW⟩ : ∃ W, W = w.alloc (.cells #[.int .i64 0, .int .u64 0, .int .u64 0] 47) := ⟨_, rfl⟩
 rw [← hW] at hB hR
 have Ol := (hS.ou.cur _ hi).mod (Mod.of_below hB []) (by simp)
 have HS := qd (hS.below hB)
 have HR := qd hR
 have HB := qd hB
 have HW := qd hW
 have HI := qd hi
 have HCu := qd Ol
 have bC := qd hS.Co
 have HD := qd hd
 have H8 := qd hok
 have Xq := qd (show w.heap.size ∉ dU b C GC mb its from fun hg => by have := (hS.fQ _ hg).1; omega)
 have HW0 := qd (show w0.heap.size ≤ w.heap.size from hS.mod.size)
 have WJ := qd (show w.heap.size ∉ GC from fun hg => by have := (hS.fQ _ (aG.2 (.inr (.inr hg)))).1; omega)
 have Oo := qd (show w.heap.size ≠ cb from fun e => by have : cb < w.heap.size := (hS.ou.cur _ hi).lt; omega)
 clear hst hB hR hW hS Ol hi hd hok
 go_in
 go_upto_region 1 with fail
 rw [← HW.out]
 go_wp2_with fail
 refine (SC HCu.out).mono ?_
 rintro y W1 ⟨rfl, hb⟩
 replace HS := qd (HS.out.below hb)
 replace HR := qB hb HR
 replace HB := qd (bE hb HB.out)
 clear hb HCu
 have hbk := HS.out.blk.blk
 unfold fZ.cells at hbk
 have c3 := hbk.cell 3
 simp only [gl] at c3
 have hle := SB HS.out.core c.key c.hash H8.out.1
 unfold aZ at hle
 have lS := qd hle
 clear hbk hle
 go_wp2_with fail
 refine lS.out.mono ?_
 rintro y W2 ⟨o, hg, cc, fI, rfl, SX, hcc, hct, hsu, hmo⟩
 have hs2 := HS.out.Xn hct.at_ hsu hmo
 have HRn := qd (show w.heap.size ∉ fI from fun hg => (hsu _ hg).elim WJ.out (fun k => by have := HR.out.lt; omega))
 have HQ := qd (show Mod GC w W2 from (Mod.of_below HB.out GC).then hmo)
 replace HR := qd (HR.out.mod hmo WJ.out)
 replace HS := qd hs2
 have sj := qd hct
 have xQ := qd SX
 have HCc := qd hcc
 have Ck := qd (show ∀ q ∈ fI, q ∈ GC ∨ w.heap.size ≤ q from fun q hq => (hsu q hq).elim .inl (fun k => .inr (by have := HB.out.size; omega)))
 have HCb := qd (show cb < W2.heap.size from (hs2.ou.cur _ HI.out).lt)
 clear hs2 hct SX hcc hsu hmo lS c3
 obtain ⟨e0, he0⟩ : ∃ e0 : av, e0 = o.getD ⟨0, 0, 0⟩ := ⟨_, rfl⟩
 rw [← he0]
 have Sm := qd he0
 clear he0
 unfold aM
 go_upto_region 3 with fail
 refine bY 37 #[.int .u64 (e0.key : Int), .int .u64 (e0.val : Int), .int .u64 (e0.hash : Int)] ?_
 rintro W3 ⟨hX, hb⟩
 replace HS := qd (HS.out.below hb)
 replace sj := qd (sj.out.below hb)
 replace HR := qB hb HR
 replace HQ := qd (HQ.out.then (Mod.of_below hb GC))
 have HX := qd hX
 obtain ⟨xb, hxb⟩ : ∃ xb, xb = W2.heap.size := ⟨_, rfl⟩
 rw [← hxb] at HX ⊢
 have hxr : xb ≠ cb := fun e => by have := HCb.out; omega
 have HXc := qd hxr
 clear hX hb hxb hxr
 have HRf := qd (show w.heap.size ∉ dU b C fI mb its from fun hg => by
  rcases aG.1 hg with k | k | k
  ·exact Xq.out (aG.2 (.inl k))
  ·exact Xq.out (aG.2 (.inr (.inl k)))
  ·exact HRn.out k)
 have hxc : xb ∉ [cb] := fun hh => HXc.out (List.mem_singleton.1 hh)
 have hrc : w.heap.size ∉ [cb] := fun hh => Oo.out (List.mem_singleton.1 hh)
 have HXm := qd hxc
 have NG := qd hrc
 clear hxc hrc
 cases o with
 | some m =>
  obtain rfl : e0 = m := Sm.out
  have hmm := xQ.out.2.2.2.2.1
  have Gx := qd (bC.out e0 (jd.1 hmm).1)
  have fM := qd xQ.out.2.2.2.2.2.1
  have Oq := qd (fun V (hV : fA V cb c) => Nj hV HD.out e0 Gx.out.2 Gx.out.1 fM.out)
  unfold aM at Oq
  have jl := qd (iV.yield HD.out hg e0 xQ.out.1 xQ.out.2.2.1 xQ.out.2.1 xQ.out.2.2.2.1 xQ.out.2.2.2.2)
  clear hmm
  go_upto_region 4 with fail
  have Ot := HX.out.cell 0
  have Ou := HX.out.cell 1
  have Ov := HX.out.cell 2
  simp only [gl] at Ot Ou Ov
  refine rT (fun (w' : World) => w'.cell? ⟨xb, 0, none⟩ = some (.int .u64 (e0.key : Int)) ∧ w'.cell? ⟨xb, 1, none⟩ = some (.int .u64 (e0.val : Int)) ∧ w'.cell? ⟨xb, 2, none⟩ = some (.int .u64 (e0.hash : Int))) [8] ?_
  have hHeld := (⟨Ot, Ou, Ov⟩ : _ ∧ _ ∧ _)
  refine vW 0 rfl ?_
  refine vT 1 rfl ?_
  refine vW 2 rfl ?_
  refine vT 3 rfl ?_
  refine vW 4 rfl ?_
  refine vW 5 rfl ?_
  refine vT 6 rfl ?_
  refine nT 7 rfl fun K hK => ?_
  go_simp
  refine (Oq.out _ ((HS.out.ou.cur _ HI.out).mod (Mod.of_below (Below.refl W3.heap.size W3).drew []) (by simp))).mono ?_
  rintro y W4 ⟨rfl, hc4, jy⟩
  replace jy : Mod [cb] W3 W4 := (Mod.of_below (Below.refl W3.heap.size W3).drew [cb]).then jy
  replace HR := qd (HR.out.mod jy NG.out)
  have fE := qd hc4
  have Db := qd jy
  replace HX := qd (HX.out.mod jy HXm.out)
  clear hc4 jy Oq Ot Ou Ov
  have Ot := HX.out.cell 0
  have Ou := HX.out.cell 1
  have Ov := HX.out.cell 2
  simp only [gl] at Ot Ou Ov
  go_wp2_with fail
  have hHeld := (⟨Ot, Ou, Ov⟩ : _ ∧ _ ∧ _)
  refine kO hK ?_
  clear hK K
  refine nT 8 rfl fun K hK => ?_
  have r := HR.out.c3
  obtain ⟨f0, f1, f2⟩ := HR.out.f3
  have hnw := ((HR.out.ak 0 (.int .i64 1)).ak 1 (.int .u64 (e0.key : Int))).ak 2 (.int .u64 (e0.val : Int))
  have gJ := (((Mod.refl [w.heap.size] W4).ak (b := w.heap.size) (.inl (by simp)) 0 (.int .i64 1)).ak (b := w.heap.size) (.inl (by simp)) 1 (.int .u64 (e0.key : Int))).ak (b := w.heap.size) (.inl (by simp)) 2 (.int .u64 (e0.val : Int))
  simp only [pt] at hnw
  have hmt : Mod [cb, w.heap.size] W3 ((((W4).setCell ⟨w.heap.size, 0, none⟩ (.int .i64 1)).setCell ⟨w.heap.size, 1, none⟩ (.int .u64 (e0.key : Int))).setCell ⟨w.heap.size, 2, none⟩ (.int .u64 (e0.val : Int))) := Db.out.trans gJ (fun q hq _ => by simp at hq ⊢; exact .inl hq) (fun q hq _ => by simp at hq ⊢; exact .inr hq)
  have HF := qd (rP.of (V := w) HS.out sj.out Ck.out HQ.out HI.out jl.out HCc.out (fE.out.mod gJ (fun hh => Oo.out (List.mem_singleton.1 hh).symm)) hmt (fun q hq => by
   rcases List.mem_cons.1 hq with k | k
   ·exact .inl k
   ·rw [List.mem_singleton.1 k]; exact .inr ⟨HRf.out, HW0.out, Nat.le_refl _⟩))
  have iE := qd hnw
  clear hnw gJ hmt
  go_simp
  refine kO hK ?_
  clear hK K
  refine vL 9 rfl ?_
  refine aS (by kernel_rfl) ?_ _
  go_wp2
  refine bodyPost_ret (v := .tuple #[.agg #[.int .i64 1, .int .u64 (e0.key : Int), .int .u64 (e0.val : Int)], .nilIface]) (by simp [results, Tryz.results37, go_sem, r.1, r.2.1, r.2.2]) rfl ⟨⟨1, e0.key, e0.val⟩, rfl, HF.out⟩
 | none =>
  have Oq := qd (Nk (HS.out.ou.cur _ HI.out) HD.out hg xQ.out.2.1 xQ.out.1)
  have jl := qd (iV.skip HD.out hg xQ.out.1 xQ.out.2.2.1 xQ.out.2.1 xQ.out.2.2.2.1 xQ.out.2.2.2.2)
  go_wp2_with fail
  refine Oq.out.mono ?_
  rintro y W4 ⟨rfl, hc4, jy⟩
  replace HR := qd (HR.out.mod jy NG.out)
  have fE := qd hc4
  have Db := qd jy
  have HDn := qd (DJ hc4)
  clear hc4 jy Oq
  by_cases hmx : hg < 18446744073709551615
  ·have hdn : (behind hg 18446744073709551615).done = false := by unfold behind; rw [if_neg (by omega), if_pos hmx]
   rw [hdn] at HDn
   rw [if_pos hmx] at jl
   clear hdn
   go_wp2_with fail
   refine HDn.out.mono ?_
   rintro y W5 ⟨rfl, rfl⟩
   clear HDn
   have r := HR.out.c3
   obtain ⟨f0, f1, f2⟩ := HR.out.f3
   have hnw := ((HR.out.ak 0 (.int .i64 2)).ak 1 (.int .u64 0)).ak 2 (.int .u64 0)
   have gJ := (((Mod.refl [w.heap.size] W4).ak (b := w.heap.size) (.inl (by simp)) 0 (.int .i64 2)).ak (b := w.heap.size) (.inl (by simp)) 1 (.int .u64 0)).ak (b := w.heap.size) (.inl (by simp)) 2 (.int .u64 0)
   simp only [pt] at hnw
   have hmt : Mod [cb, w.heap.size] W3 ((((W4).setCell ⟨w.heap.size, 0, none⟩ (.int .i64 2)).setCell ⟨w.heap.size, 1, none⟩ (.int .u64 0)).setCell ⟨w.heap.size, 2, none⟩ (.int .u64 0)) := Db.out.trans gJ (fun q hq _ => by simp at hq ⊢; exact .inl hq) (fun q hq _ => by simp at hq ⊢; exact .inr hq)
   have HF := qd (rP.of (V := w) HS.out sj.out Ck.out HQ.out HI.out jl.out HCc.out (fE.out.mod gJ (fun hh => Oo.out (List.mem_singleton.1 hh).symm)) hmt (fun q hq => by
    rcases List.mem_cons.1 hq with k | k
    ·exact .inl k
    ·rw [List.mem_singleton.1 k]; exact .inr ⟨HRf.out, HW0.out, Nat.le_refl _⟩))
   have iE := qd hnw
   clear hnw gJ hmt
   go_wp2
   refine bodyPost_ret (v := .tuple #[.agg #[.int .i64 2, .int .u64 0, .int .u64 0], .nilIface]) (by simp [results, Tryz.results37, go_sem, r.1, r.2.1, r.2.2]) rfl ⟨⟨2, 0, 0⟩, rfl, HF.out⟩
  ·have hdn : (behind hg 18446744073709551615).done = true := by unfold behind; rw [if_neg (by omega), if_neg hmx]
   rw [hdn] at HDn
   rw [if_neg hmx] at jl
   clear hdn
   go_wp2_with fail
   refine HDn.out.mono ?_
   rintro y W5 ⟨rfl, rfl⟩
   clear HDn
   have r := HR.out.c3
   obtain ⟨f0, f1, f2⟩ := HR.out.f3
   have hnw := ((HR.out.ak 0 (.int .i64 3)).ak 1 (.int .u64 0)).ak 2 (.int .u64 0)
   have gJ := (((Mod.refl [w.heap.size] W4).ak (b := w.heap.size) (.inl (by simp)) 0 (.int .i64 3)).ak (b := w.heap.size) (.inl (by simp)) 1 (.int .u64 0)).ak (b := w.heap.size) (.inl (by simp)) 2 (.int .u64 0)
   simp only [pt] at hnw
   have hmt : Mod [cb, w.heap.size] W3 ((((W4).setCell ⟨w.heap.size, 0, none⟩ (.int .i64 3)).setCell ⟨w.heap.size, 1, none⟩ (.int .u64 0)).setCell ⟨w.heap.size, 2, none⟩ (.int .u64 0)) := Db.out.trans gJ (fun q hq _ => by simp at hq ⊢; exact .inl hq) (fun q hq _ => by simp at hq ⊢; exact .inr hq)
   have HF := qd (rP.of (V := w) HS.out sj.out Ck.out HQ.out HI.out jl.out HCc.out (fE.out.mod gJ (fun hh => Oo.out (List.mem_singleton.1 hh).symm)) hmt (fun q hq => by
    rcases List.mem_cons.1 hq with k | k
    ·exact .inl k
    ·rw [List.mem_singleton.1 k]; exact .inr ⟨HRf.out, HW0.out, Nat.le_refl _⟩))
   have iE := qd hnw
   clear hnw gJ hmt
   go_wp2
   refine bodyPost_ret (v := .tuple #[.agg #[.int .i64 3, .int .u64 0, .int .u64 0], .nilIface]) (by simp [results, Tryz.results37, go_sem, r.1, r.2.1, r.2.2]) rfl ⟨⟨3, 0, 0⟩, rfl, HF.out⟩
end
end Go.Proofs.YtfojgfddgplinabGreatDoor
