/- The example of the chapter on maps answers true. No statement of the claim. -/
import Derived.Test.YtfojgfddgplinabGreatDoorRmQ
import Derived.Test.YtfojgfddgplinabGreatDoorLaneP
import Derived.Test.YtfojgfddgplinabGreatDoorRmF
import Derived.Test.YtfojgfddgplinabGreatDoorSqT
import Derived.Test.YtfojgfddgplinabGreatDoorCoS
import Derived.Test.YtfojgfddgplinabGreatDoorCoAQ
import Derived.Test.YtfojgfddgplinabGreatDoorLaw25a
import Derived.Deep.Cut
import Derived.Deep.CutRange
namespace Go.Proofs.YtfojgfddgplinabGreatDoor
set_option maxRecDepth 100000
set_option maxHeartbeats 4000000
open Go.RowKit dG
section
theorem Tc {H : Nat → Nat} {l : List av} {a : Pool} {ids : List Nat} (h : CO l a ids) (ho : ∀ (i : Nat) (N : Nd), a.Ns[i]? = some N → dO H N) : kU a = [18446744073709551615] := by
 obtain ⟨N, h1, _, _, h4, _⟩ := h.nd
 have h5 := (ho 0 N (by rw [h1]; rfl)).pfx
 rw [h4] at h5
 have h6 : N.pfx = 0 := by simpa using h5
 unfold kU
 rw [h1]
 simp only [List.map_cons, List.map_nil, h4, h6]
 rfl
section
variable {es : List av} {it : gQ} {c' : gq}
theorem Td (he : es.Perm [⟨1, 2, 77⟩]) (hN : iV es [18446744073709551615] ⟨0, 0, false⟩ it c') : it = ⟨1, 1, 2⟩ ∧ c' = ⟨77, 2, false⟩ := by
 have hm : ∀ e ∈ es, e = ⟨1, 2, 77⟩ := fun e h => by simpa using he.mem_iff.1 h
 cases hN with
 | done h => cases h
 | yield h hi m h1 h2 h3 h4 hl =>
  obtain rfl := hm m (jd.1 hl.1).1
  exact ⟨rfl, by unfold behind; simp⟩
 | skip h hi h1 h2 h3 h4 hl =>
  have := hl ⟨1, 2, 77⟩ (jd.2 ⟨he.mem_iff.2 (by simp), by simp at h2; rw [h2]; simp⟩)
  simp [bg] at this
theorem Qn (he : es.Perm [⟨1, 2, 77⟩]) (hN : iV es [18446744073709551615] ⟨77, 2, false⟩ it c') : it = ⟨3, 0, 0⟩ := by
 have hm : ∀ e ∈ es, e = ⟨1, 2, 77⟩ := fun e h => by simpa using he.mem_iff.1 h
 cases hN with
 | done h => cases h
 | yield h hi m h1 h2 h3 h4 hl =>
  obtain rfl := hm m (jd.1 hl.1).1
  have := hl.2.1
  simp [bg] at this
 | skip h hi h1 h2 h3 h4 hl =>
  simp at h2
  rw [h2]
  simp
end
theorem Nn {W0 w : World} {E : Nat → Addr} (hE : Env W0 E w) (Cq : gT E W0 6) : Calls Tryz.prog 4 #[] w fun y w' => y = .returned (.bool true) ∧ Below w.heap.size w w' := by
 have hnew := S9 (fun _ => 77) hE 1 9 1 (by decide) 1 9 1 ⟨by omega, by omega, rfl, rfl, rfl⟩ (by omega)
 unfold iC at hnew
 have iE := qd hnew
 clear hnew
 go_in
 go_wp2_with fail
 refine iE.out.mono ?_
 rintro y w1 ⟨b, G, rfl, hA, hG, hb⟩
 have hent : j6 (fun _ => 77) ⟨1, 2, 77⟩ := ⟨rfl, by decide, by decide, by decide⟩
 have hput := SI hA ⟨1, 2, 77⟩ hent
 have hpc : rM 9 kg.ents 1 = 0 := by rw [CJ]; rfl
 rw [hpc, G9] at hput
 have BF := qd (show Calls Tryz.prog 8 #[.pointer (some ⟨b, 0, none⟩), .int .u64 1, .int .u64 2, .int .u64 77] w1 _ from hput)
 have HG := qd hG
 have HB := qd hb
 clear hpc hput hA hG hb iE
 go_wp2_with fail
 refine BF.out.mono ?_
 rintro y w2 ⟨rfl, a, ids, jw, ⟨G2, hA2, hs2, hm2⟩, hpr⟩
 have zL : CO [⟨1, 2, 77⟩] a ids := VX (by decide) abD (hpr.2 (by rw [CJ]; rfl) (by rw [CJ]; decide))
 have hho := Tc zL (by obtain ⟨C, GC, mb, h1, _⟩ := hA2; exact h1.core.facts.2.2.2.2.2.1)
 have hpe := zL.ents
 have nD := qd (And.intro hho hpe)
 have hop := Om hA2 (by decide) (by decide)
 have HO := qd (show Calls Tryz.prog 10 #[.pointer (some ⟨b, 0, none⟩)] w2 _ from hop)
 have HB2 := qd (HB.out.trans (hm2.below HG.out HB.out.size))
 have HG2 := qd (show ∀ q ∈ G2, w.heap.size ≤ q from fun q hq => (hs2 q hq).elim (HG.out q) (fun k => by have := HB.out.size; omega))
 clear hA2 hs2 hm2 hpr zL hho hpe hop BF HB HG hent
 go_wp2_with fail
 refine HO.out.mono ?_
 rintro y w3 ⟨cb, rfl, G3, hA3, hs3, jV⟩
 have hnx := GN (id := 1) (cb := cb) (c := ⟨0, 0, false⟩) hA3 Cq (by simp) ⟨by decide, by decide⟩
 have jl := qd (show Calls Tryz.prog 14 #[.pointer (some ⟨b, 0, none⟩), .int .i64 1] w3 _ from hnx)
 have HB3 := qd (HB2.out.trans (jV.below HG2.out HB2.out.size))
 have QL := qd (show ∀ q ∈ G3, w.heap.size ≤ q from fun q hq => (hs3 q hq).elim (HG2.out q) (fun k => by have := HB2.out.size; omega))
 clear hA3 hs3 jV hnx HO HB2 HG2
 go_wp2_with fail
 refine jl.out.mono ?_
 rintro y w4 ⟨it, c', adq, rfl, hns, _, G4, Ox, hs4, jy⟩
 rw [nD.out.1] at hns
 obtain ⟨rfl, rfl⟩ := Td nD.out.2 hns
 have hb5 : Below w4.heap.size w4 (w4.alloc (.cells #[.int .i64 1, .int .u64 1, .int .u64 2] 47)) := (Below.refl w4.heap.size w4).alloc (Nat.le_refl _) _
 have HA4 := qd Ox
 have Te := qd (HB3.out.trans (jy.below QL.out HB3.out.size))
 have Nw := qd (show ∀ q ∈ G4, w.heap.size ≤ q ∧ q < w4.heap.size from fun q hq => ⟨(hs4 q hq).elim (QL.out q) (fun k => by have := HB3.out.size; omega), (Ox.facts.1 q hq).1⟩)
 clear Ox hs4 jy hns jl HB3 QL hb5
 unfold uQ
 go_upto_region 6 with fail
 refine bY 47 #[.int .i64 1, .int .u64 1, .int .u64 2] ?_
 rintro w5 ⟨hX, hb5⟩
 have hnx := GN (id := 1) (cb := cb) (c := ⟨77, 2, false⟩) (HA4.out.below hb5) Cq (by simp [jP]) ⟨by decide, by decide⟩
 have jl := qd (show Calls Tryz.prog 14 #[.pointer (some ⟨b, 0, none⟩), .int .i64 1] w5 _ from hnx)
 have HX := qd hX
 have HXg := qd (show w4.heap.size ∉ G4 from fun hg => by have := (Nw.out _ hg).2; omega)
 have nk := qd (bE hb5 Te.out)
 obtain ⟨xb, hxb⟩ : ∃ xb, xb = w4.heap.size := ⟨_, rfl⟩
 rw [← hxb] at HX HXg ⊢
 clear hX hb5 hnx HA4 Te hxb
 go_wp2_with fail
 refine jl.out.mono ?_
 rintro y w6 ⟨it, c', adr, rfl, hns, _, G6, hA6, hs6, lF⟩
 rw [nD.out.1] at hns
 obtain rfl := Qn nD.out.2 hns
 have DF := qd (nk.out.trans (lF.below (fun q hq => (Nw.out q hq).1) nk.out.size))
 have Xu := HX.out.mod lF HXg.out
 have jJ : Below w6.heap.size w6 (w6.alloc (.cells #[.int .i64 3, .int .u64 0, .int .u64 0] 47)) := (Below.refl w6.heap.size w6).alloc (Nat.le_refl _) _
 have x0 := (Xu.mod (Mod.of_below jJ []) (by simp)).cell 0
 have x1 := (Xu.mod (Mod.of_below jJ []) (by simp)).cell 1
 have x2 := (Xu.mod (Mod.of_below jJ []) (by simp)).cell 2
 simp only [gl] at x0 x1 x2
 have HF := qd (bE jJ DF.out)
 clear hns hA6 hs6 lF Xu jJ jl
 unfold uQ
 go_wp2
 go_ret
 exact ⟨rfl, HF.out⟩
end
section
inductive Run (es : List av) (hs : List Nat) : Nat → List gQ → gq → Prop
 | nil : Run es hs 0 [] ⟨0, 0, false⟩
 | next {n : Nat} {l : List gQ} {c c' : gq} {i : gQ} : Run es hs n l c → iV es hs c i c' → Run es hs (n + 1) (l ++ [i]) c'
def fJ (l : List gQ) : List Nat := (l.filter fun i => i.st == 1).map gQ.key
theorem rQ (l l' : List gQ) : fJ (l ++ l') = fJ l ++ fJ l' := by unfold fJ; rw [List.filter_append, List.map_append]
section
variable {es : List av} {hs : List Nat} {n : Nat} {l l' : List gQ} {c c' : gq}
theorem Run.len (h : Run es hs n l c) : l.length = n := by
 induction h with
 | nil => rfl
 | next _ _ ih => rw [List.length_append, ih]; rfl
theorem Run.unique (hn : (es.map av.key).Nodup) (h : Run es hs n l c) : ∀ {l' : List gQ} {c' : gq}, Run es hs n l' c' → l = l' ∧ c = c' := by
 induction h with
 | nil =>
  intro l' c' h'
  cases h'
  exact ⟨rfl, rfl⟩
 | next _ h2 ih =>
  intro l' c' h'
  cases h' with
  | next h3 h4 =>
   obtain ⟨rfl, rfl⟩ := ih h3
   obtain ⟨rfl, rfl⟩ := h2.unique hn h4
   exact ⟨rfl, rfl⟩
theorem Run.way (hn : (es.map av.key).Nodup) (he : ∀ e ∈ es, e.hash < 18446744073709551616 ∧ e.key < 18446744073709551616) (h : Run es hs n l c) : ∃ out, Way es hs n out c ∧ fJ l = out.map av.key ∧ ∀ i ∈ l, i.st = 1 ∨ i.st = 2 ∨ i.st = 3 := by
 induction h with
 | nil => exact ⟨[], Way.start es hs, rfl, by simp⟩
 | @next n l c c' i _ h2 ih =>
  obtain ⟨out, hw, hk, hs3⟩ := ih
  obtain ⟨out', hw', hor⟩ := hw.next hn he h2
  refine ⟨out', hw', ?_, ?_⟩
  ·rw [rQ, hk]
   rcases hor with ⟨h1, _, m, _, h3, _, _, h5, _⟩ | ⟨h1, h3, _⟩
   ·rw [h3, List.map_append]
    simp [fJ, h1, h5]
   ·rw [h3]
    simp [fJ, h1]
  ·intro j hj
   rcases List.mem_append.1 hj with hj | hj
   ·exact hs3 j hj
   ·rw [List.mem_singleton.1 hj]
    rcases hor with ⟨h1, _⟩ | ⟨_, _, _, _, h1, _⟩
    ·exact .inl h1
    ·exact .inr h1
theorem Run.ends (hn : (es.map av.key).Nodup) (he : ∀ e ∈ es, e.hash < 18446744073709551616 ∧ e.key < 18446744073709551616) (h : Run es hs (es.length + hs.length + 1) l c) : ∃ (l0 : List gQ) (out : List av), l = l0 ++ [⟨3, 0, 0⟩] ∧ Asc out ∧ out.Perm es ∧ fJ l = out.map av.key := by
 obtain ⟨out, hw, hk, _⟩ := h.way hn he
 cases h with
 | @next _ l0 c0 _ i h1 h2 =>
  obtain ⟨ads, hw0, _, _⟩ := h1.way hn he
  have hd : c0.done = true := by
   cases hc : c0.done with
   | true => rfl
   | false => have := hw0.few hc h2; omega
  cases h2 with
  | done => exact ⟨l0, out, rfl, hw.Cn, hw.abC hn hd, hk⟩
  | yield h => rw [hd] at h; cases h
  | skip h => rw [hd] at h; cases h
theorem Qo (hj : n < l.length) (h1 : (l[n]?.map gQ.st) = some 1) : ∃ i, l[n]? = some i ∧ fJ (l.take (n + 1)) = fJ (l.take n) ++ [i.key] := by
 refine ⟨l[n], List.getElem?_eq_getElem hj, ?_⟩
 rw [List.getElem?_eq_getElem hj] at h1
 simp only [Option.map_some, Option.some.injEq] at h1
 rw [List.take_succ_eq_append_getElem hj, rQ]
 simp [fJ, h1]
theorem Qp (hj : n < l.length) (h1 : (l[n]?.map gQ.st) ≠ some 1) : fJ (l.take (n + 1)) = fJ (l.take n) := by
 rw [List.getElem?_eq_getElem hj] at h1
 simp only [Option.map_some, ne_eq, Option.some.injEq] at h1
 rw [List.take_succ_eq_append_getElem hj, rQ]
 simp [fJ, h1]
theorem Tf (l : List gQ) (k : Nat) : fJ l = fJ (l.take k) ++ fJ (l.drop k) := by rw [← rQ, List.take_append_drop]
end
end
section
variable {S hs ids : List Nat} {I Kk M b gv j q size : Nat} {xs : List Value} {l : List gQ} {es out : List av} {c' : gq} {it : gQ} {W0 : World} {E : Nat → Addr} {H : Nat → Nat} {a : Pool} {its : List It} {jw : bF}
def Ja (i : gQ) : List Value := [.int .i64 (i.st : Int), .int .u64 (i.key : Int), .int .u64 (i.val : Int)]
theorem Tg : (Tryz.prog.info? 47).map (fun i => (i.zero, i.size, i.bytes)) = some (some (.agg #[.int .i64 0, .int .u64 0, .int .u64 0]), 3, 24) := by kernel_rfl
theorem Ti : uD Tryz.prog 50 47 3 24 := DL Tryz.underlying50 Tg rfl (by decide) (by decide)
theorem Qq : (Tryz.prog.info? 50).map (fun i => (i.zero, i.size, i.bytes)) = some (some (.slice none 0 0), 1, 24) := by kernel_rfl
theorem Qr : uD Tryz.prog 41 50 1 24 := DL Tryz.underlying41 Qq rfl (by decide) (by decide)
theorem Ew {w w' : World} {base n : Nat} {e : TypeId} {v : Value} (h : w.ownsRow base e size v n xs) (hm : Mod S w w') (hS : ∀ k, v.ownBlock = some k → k ∉ S) : w'.ownsRow base e size v n xs := by
 refine ⟨h.1, ?_⟩
 rcases h.2 with k | ⟨g, cap, cur, h1, h2, h3, h4⟩
 ·exact .inl k
 ·refine .inr ⟨g, cap, cur, h1, h2, ?_, h4⟩
  rw [hm.block g (Array.getElem?_eq_some_iff.1 h3).1 (hS g (by rw [h1]; rfl))]
  exact h3
structure gU (base : Nat) (w : World) (v : Value) (vs : List Value) (L : List (List gQ)) (G : List Nat) : Prop where
 out : w.ownsRow base 50 1 v vs.length vs
 len : vs.length = L.length
 inn : ∀ (k : Nat) (u : Value) (l : List gQ), vs[k]? = some u → L[k]? = some l → w.ownsRow base 47 3 u l.length (l.flatMap Ja)
 ap : ∀ (k j : Nat) (u u' : Value), k ≠ j → vs[k]? = some u → vs[j]? = some u' → u.ownBlock = none ∨ u.ownBlock ≠ u'.ownBlock
 gs : (∀ g, v.ownBlock = some g → g ∉ G) ∧ ∀ (k : Nat) (u : Value), vs[k]? = some u → ∀ g, u.ownBlock = some g → g ∉ G
section
variable {base : Nat} {w w' : World} {v v' u u' : Value} {vs : List Value} {L : List (List gQ)} {G G' : List Nat}
theorem gU.fQ (h : gU base w v vs L G) : (∀ g, v.ownBlock = some g → g < w.heap.size) ∧ ∀ (k : Nat) (u : Value), vs[k]? = some u → ∀ g, u.ownBlock = some g → g < w.heap.size := by
 refine ⟨fun g hg => (h.out.lt g hg).2, fun k u hu g hg => ?_⟩
 have hk : k < vs.length := (List.getElem?_eq_some_iff.1 hu).1
 exact ((h.inn k u _ hu (List.getElem?_eq_getElem (by have := h.len; omega))).lt g hg).2
theorem gU.mod (h : gU base w v vs L G) (hm : Mod S w w') (hv : ∀ g, v.ownBlock = some g → g ∉ S) (hu : ∀ (k : Nat) (u : Value), vs[k]? = some u → ∀ g, u.ownBlock = some g → g ∉ S) : gU base w' v vs L G :=
 ⟨Ew h.out hm hv, h.len, fun k u l h1 h2 => Ew (h.inn k u l h1 h2) hm (hu k u h1), h.ap, h.gs⟩
theorem gU.below (h : gU base w v vs L G) (hb : Below w.heap.size w w') : gU base w' v vs L G := h.mod (Mod.of_below hb []) (by simp) (by simp)
theorem gU.to (h : gU base w v vs L G) (h2 : ∀ q ∈ G', q ∈ G ∨ w.heap.size ≤ q) (hm : Mod G w w') : gU base w' v vs L G' := by
 have hl := h.fQ
 have h1 := h.mod hm h.gs.1 h.gs.2
 refine ⟨h1.out, h1.len, h1.inn, h1.ap, fun g hg hq => ?_, fun k u hu g hg hq => ?_⟩
 ·rcases h2 g hq with k | k
  ·exact h.gs.1 g hg k
  ·have := hl.1 g hg; omega
 ·rcases h2 g hq with z | z
  ·exact h.gs.2 k u hu g hg z
  ·have := hl.2 k u hu g hg; omega
theorem gU.new (hb : base ≤ w.heap.size) (hG : ∀ q ∈ G, q < w.heap.size) : gU base (w.alloc (.cells #[] 50)) (.slice (some ⟨w.heap.size, 0, none⟩) 0 0) [] [] G :=
 ⟨Uh w base 50 1 hb, rfl, by simp, by simp, fun g hg hq => by have := hG g hq; simp [Value.ownBlock] at hg; omega, by simp⟩
theorem gU.push (h : gU base w v vs L G) (hg : mG w base v w' v') (ho : w'.ownsRow base 50 1 v' (vs.length + 1) (vs ++ [.slice none 0 0])) (hG : ∀ q ∈ G, q < w.heap.size) : gU base w' v' (vs ++ [.slice none 0 0]) (L ++ [[]]) G := by
 have hl := h.fQ
 have hnb : (Value.slice none 0 0).ownBlock = none := rfl
 have hgt : ∀ (k : Nat) (u : Value), (vs ++ [Value.slice none 0 0])[k]? = some u → vs[k]? = some u ∨ (k = vs.length ∧ u = .slice none 0 0) := fun k u hu => by
  rw [List.getElem?_append] at hu
  split at hu
  ·exact .inl hu
  ·rename_i hk
   have hk2 : k - vs.length < 1 := by simpa using (List.getElem?_eq_some_iff.1 hu).1
   have : k = vs.length := by omega
   subst this
   simp at hu
   exact .inr ⟨rfl, hu.symm⟩
 refine ⟨by rw [List.length_append]; exact ho, by rw [List.length_append, List.length_append, h.len]; rfl, fun k u l h1 h2 => ?_, fun k j u u' hne h1 h2 => ?_, fun g hgg hq => ?_, fun k u hu g hgg => ?_⟩
 ·rcases hgt k u h1 with z | ⟨rfl, rfl⟩
  ·have hk : k < vs.length := (List.getElem?_eq_some_iff.1 z).1
   rw [List.getElem?_append_left (by have := h.len; omega)] at h2
   exact hg.keep (h.inn k u l z h2) (wU (h.inn k u l z h2) h.out (by decide))
  ·rw [h.len, List.getElem?_append_right (Nat.le_refl _)] at h2
   simp at h2
   subst h2
   exact World.ownsRow_nil _ _ _ _
 ·rcases hgt k u h1 with z | ⟨rfl, rfl⟩
  ·rcases hgt j u' h2 with z2 | ⟨rfl, rfl⟩
   ·exact h.ap k j u u' hne z z2
   ·cases hb : u.ownBlock with
    | none => exact .inl rfl
    | some g => exact .inr (by rw [hnb]; simp)
  ·exact .inl rfl
 ·rcases hg.at_ with h1 | ⟨g2, h1, h2⟩
  ·rw [h1] at hgg; exact h.gs.1 g hgg hq
  ·rw [h1] at hgg; cases hgg; have := hG g hq; omega
 ·rcases hgt k u hu with z | ⟨rfl, rfl⟩
  ·exact h.gs.2 k u z g hgg
  ·cases hgg
theorem gU.add {i vb cap : Nat} {x : gQ} (h : gU base w v vs L G) (hv : v = .slice (some ⟨vb, 0, none⟩) vs.length cap) (hu : vs[i]? = some u) (hL : L[i]? = some l) (hg : mG w base u w' u') (ho : w'.ownsRow base 47 3 u' (l.length + 1) (l.flatMap Ja ++ Ja x)) (hG : ∀ q ∈ G, q < w.heap.size) :
  gU base (w'.setCell ⟨vb, i, none⟩ u') v (vs.set i u') (L.set i (l ++ [x])) G ∧ Mod (vb :: u.ownBlock.toList) w (w'.setCell ⟨vb, i, none⟩ u') := by
 have hl := h.fQ
 have hi : i < vs.length := (List.getElem?_eq_some_iff.1 hu).1
 have hvb : v.ownBlock = some vb := by rw [hv]; rfl
 have hui := h.inn i u l hu hL
 have hov := hg.keep h.out (wU h.out hui (by decide))
 have hmu : Mod u.ownBlock.toList w w' := ⟨hg.je.os, hg.je.tape, hg.je.output, hg.je.size, fun k hk hn => hg.je.block k hk (fun e => hn (by rw [e.symm]; simp))⟩
 have hm2 : Mod [vb] w' (w'.setCell ⟨vb, i, none⟩ u') := (Mod.refl [vb] w').sl i u'
 have aau : ∀ {n : Nat} {y : Value} {xs : List Value}, w'.ownsRow base 47 3 y n xs → (w'.setCell ⟨vb, i, none⟩ u').ownsRow base 47 3 y n xs := fun {n y xs} hy => Ew hy hm2 (fun k hk hs => by
  rcases wU hy hov (by decide) with z | z
  ·rw [z] at hk; cases hk
  ·exact z (by rw [hk, hvb, List.mem_singleton.1 hs]))
 have hu' : ∀ (j : Nat) (y : Value), j ≠ i → vs[j]? = some y → y.ownBlock = none ∨ y.ownBlock ≠ u'.ownBlock := fun j y hne hy => by
  rcases hg.at_ with h1 | ⟨g2, h1, h2⟩
  ·rw [h1]; exact h.ap j i y u hne hy hu
  ·cases hb : y.ownBlock with
   | none => exact .inl rfl
   | some g => exact .inr (fun e => by rw [h1] at e; have := hl.2 j y hy g hb; cases e; omega)
 have hset : ∀ (k : Nat) (y : Value), (vs.set i u')[k]? = some y → (k = i ∧ y = u') ∨ (k ≠ i ∧ vs[k]? = some y) := fun k y hy => by
  rw [List.getElem?_set] at hy
  split at hy
  ·rename_i e; subst e
   exact .inl ⟨rfl, (Option.some.inj hy).symm⟩
  ·rename_i e; exact .inr ⟨fun z => e z.symm, hy⟩
 refine ⟨⟨?_, by rw [List.length_set, List.length_set, h.len], fun k y l' h1 h2 => ?_, fun k j y y' hne h1 h2 => ?_, h.gs.1, fun k y hy g hgg hq => ?_⟩, hmu.trans hm2 (fun q hq _ => List.mem_cons_of_mem _ hq) (fun q hq _ => by rw [List.mem_singleton.1 hq]; simp)⟩
 ·rw [List.length_set]
  rw [hv] at hov ⊢
  exact (hov.stored i u').1
 ·rcases hset k y h1 with ⟨rfl, rfl⟩ | ⟨z1, z2⟩
  ·rw [List.getElem?_set, if_pos rfl, if_pos (by have := h.len; omega)] at h2
   obtain rfl := Option.some.inj h2
   have := aau ho
   rw [List.length_append, List.flatMap_append]
   simpa using this
  ·rw [List.getElem?_set, if_neg (fun e => z1 e.symm)] at h2
   have h3 := h.inn k y l' z2 h2
   exact aau (hg.keep h3 (h.ap k i y u z1 z2 hu))
 ·rcases hset k y h1 with ⟨rfl, rfl⟩ | ⟨z1, z2⟩
  ·rcases hset j y' h2 with ⟨rfl, rfl⟩ | ⟨y1, y2⟩
   ·exact absurd rfl hne
   ·rcases hu' j y' y1 y2 with q | q
    ·cases hb : y.ownBlock with
     | none => exact .inl rfl
     | some g => exact .inr (by rw [q]; simp)
    ·exact .inr (fun e => q e.symm)
  ·rcases hset j y' h2 with ⟨rfl, rfl⟩ | ⟨y1, y2⟩
   ·exact hu' k y z1 z2
   ·exact h.ap k j y y' hne z2 y2
 ·rcases hset k y hy with ⟨rfl, rfl⟩ | ⟨z1, z2⟩
  ·rcases hg.at_ with h1 | ⟨g2, h1, h2⟩
   ·rw [h1] at hgg; exact h.gs.2 k u hu g hgg hq
   ·rw [h1] at hgg; cases hgg; have := hG g hq; omega
  ·exact h.gs.2 k y z2 g hgg hq
end
theorem iV.ok {c : gq} (hc : c.ok) (he : ∀ e ∈ es, e.hash < 18446744073709551616 ∧ e.key < 18446744073709551616) (h : iV es hs c it c') : c'.ok := by
 cases h with
 | done => exact hc
 | yield h hi m h1 h2 h3 h4 hm => exact xP (he m (jd.1 hm.1).1).1
 | skip h hi h1 h2 h3 => exact xP h3
theorem jI.Co {G : List Nat} {w : World} (h : jI W0 E H Kk M I b G w a ids its gv jw) : ∀ e ∈ a.ents, e.hash < 18446744073709551616 ∧ e.key < 18446744073709551616 := by
 obtain ⟨C, GC, mb, h1, _⟩ := h
 exact h1.Co
def pz (es : List av) (hs : List Nat) (its : List It) (L : List (List gQ)) (I : Nat) (n : Nat → Nat) : Prop := ∀ k, k < I → ∃ cb c l, (⟨k + 1, cb, c⟩ : It) ∈ its ∧ L[k]? = some l ∧ Run es hs (n k) l c ∧ c.ok
theorem pz.congr {L : List (List gQ)} {n n' : Nat → Nat} (h : pz es hs its L I n) (hn : ∀ k, k < I → n k = n' k) : pz es hs its L I n' := fun k hk => by rw [← hn k hk]; exact h k hk
theorem pz.step {L : List (List gQ)} {cb : Nat} {n : Nat → Nat} {c : gq} (h : pz es hs its L I n) (hi : (⟨q + 1, cb, c⟩ : It) ∈ its) (hL : L[q]? = some l) (hr : Run es hs (n q) l c) (hx : iV es hs c it c') (hc : c'.ok) : pz es hs (jP its (q + 1) c') (L.set q (l ++ [it])) I (fun k => if k = q then n q + 1 else n k) := fun k hk => by
 by_cases hkq : k = q
 ·subst hkq
  refine ⟨cb, c', l ++ [it], List.mem_map.2 ⟨_, hi, by simp⟩, ?_, by simp only [if_true]; exact hr.next hx, hc⟩
  rw [List.getElem?_set, if_pos rfl, if_pos (List.getElem?_eq_some_iff.1 hL).1]
 ·obtain ⟨cb2, c2, l2, h1, h2, h3, h4⟩ := h k hk
  refine ⟨cb2, c2, l2, List.mem_map.2 ⟨_, h1, ?_⟩, ?_, by simp only [if_neg hkq]; exact h3, h4⟩
  ·show (if k + 1 = q + 1 then _ else _) = _
   rw [if_neg (by omega)]
  ·rw [List.getElem?_set, if_neg (fun e => hkq e.symm)]; exact h2
theorem Ms {w : World} {base n : Nat} {e : TypeId} {v : Value} (h : w.ownsRow base e size v n xs) (hn : 0 < n) : ∃ g cap, v = .slice (some ⟨g, 0, none⟩) n cap := by
 rcases h.2 with ⟨_, h1⟩ | ⟨g, cap, cur, h1, _⟩
 ·omega
 ·exact ⟨g, cap, h1⟩
theorem jI.aaQ {G : List Nat} {w : World} (h : jI W0 E H Kk M I b G w a ids its gv jw) : ∀ e ∈ a.ents, e.hash = H e.key := fun e he => by
 obtain ⟨C, GC, mb, h1, _⟩ := h
 obtain ⟨i, N, g1, g2⟩ := mQ.1 he
 exact ((h1.core.facts.2.2.2.2.2.1 i N g1).hash e g2).1.hash
theorem Ab {x : gQ} {u : Value} : ∀ {l : List gQ} {i : Nat}, l[i]? = some x → (Ja x)[q]? = some u → (l.flatMap Ja)[i * 3 + q]? = some u
 | [], _, h, _ => by simp at h
 | y :: l, 0, h, hu => by
  simp at h
  subst h
  rw [List.flatMap_cons, List.getElem?_append_left (by have := aX hu; omega)]
  simpa using hu
 | y :: l, i + 1, h, hu => by
  have h' : l[i]? = some x := by simpa using h
  have hl : (Ja y).length = 3 := rfl
  rw [List.flatMap_cons, List.getElem?_append_right (by rw [hl]; omega), hl, show (i + 1) * 3 + q - 3 = i * 3 + q by omega]
  exact Ab h' hu
theorem Ac {w : World} {base n c g : Nat} (h : w.ownsRow base 47 3 (.slice (some ⟨g, 0, none⟩) n c) n (l.flatMap Ja)) {x : gQ} (hx : l[j]? = some x) (hj : j < n) : w.cell? ⟨g, j * 3, none⟩ = some (.int .i64 (x.st : Int)) ∧ w.cell? ⟨g, j * 3 + 1, none⟩ = some (.int .u64 (x.key : Int)) ∧ w.cell? ⟨g, j * 3 + 2, none⟩ = some (.int .u64 (x.val : Int)) :=
 ⟨(h.cellAt (j * 3 + 0) (by omega)).trans (Ab hx rfl), (h.cellAt (j * 3 + 1) (by omega)).trans (Ab hx rfl), (h.cellAt (j * 3 + 2) (by omega)).trans (Ab hx rfl)⟩
theorem Qs {L : List (List gQ)} (hI : 0 < I) (h : pz es hs its L I (fun _ => es.length + hs.length + 1)) (hn : (es.map av.key).Nodup) (he : ∀ e ∈ es, e.hash < 18446744073709551616 ∧ e.key < 18446744073709551616) : ∃ (l0 lh : List gQ) (out : List av), (∀ k, k < I → L[k]? = some l0) ∧ l0.length = es.length + hs.length + 1 ∧ l0 = lh ++ [⟨3, 0, 0⟩] ∧ Asc out ∧ out.Perm es ∧ fJ l0 = out.map av.key := by
 obtain ⟨_, c, l0, _, h1, h2, _⟩ := h 0 hI
 obtain ⟨lh, out, e1, e2, e3, e4⟩ := h2.ends hn he
 refine ⟨l0, lh, out, fun k hk => ?_, h2.len, e1, e2, e3, e4⟩
 obtain ⟨_, c', l', _, g1, g2, _⟩ := h k hk
 rw [g1, (g2.unique hn h2).1]
theorem VY (ho : fJ l = out.map av.key) {x : gQ} (hx : l[j]? = some x) (h1 : x.st = 1) : ∃ e, out[(fJ (l.take j)).length]? = some e ∧ e.key = x.key ∧ (fJ (l.take (j + 1))).length = (fJ (l.take j)).length + 1 := by
 obtain ⟨i, hi, hy⟩ := Qo (aX hx) (by rw [hx]; simp [h1])
 obtain rfl : i = x := by rw [hx] at hi; exact (Option.some.inj hi).symm
 have hp := Tf l (j + 1)
 rw [hy, ho] at hp
 have h3 : (out.map av.key)[(fJ (l.take j)).length]? = some i.key := by rw [hp]; simp
 rw [List.getElem?_map] at h3
 cases h4 : out[(fJ (l.take j)).length]? with
 | none => rw [h4] at h3; cases h3
 | some e => rw [h4] at h3; exact ⟨e, rfl, by simpa using h3, by rw [hy]; simp⟩
def CP (out : List av) (n : Nat) (le : av) : Prop := n = 0 ∨ ∃ e, out[n - 1]? = some e ∧ le.key = e.key ∧ le.hash = e.hash
theorem CP.next {n : Nat} {le e x : av} (h : CP out n le) (ha : Asc out) (he : out[n]? = some e) (h0 : n ≠ 0) (hk : x.key = e.key) (hh : x.hash = e.hash) : bg le x = true := by
 rcases h with h | ⟨e', h1, h2, h3⟩
 ·exact absurd h h0
 ·obtain ⟨a1, a2⟩ := List.getElem?_eq_some_iff.1 h1
  obtain ⟨b1, b2⟩ := List.getElem?_eq_some_iff.1 he
  have := List.pairwise_iff_getElem.1 ha (n - 1) n a1 b1 (by omega)
  rw [a2, b2] at this
  unfold bg at this ⊢
  rw [h2, h3, hk, hh]
  exact this
end
def abM (i : Nat) (a : Pool) (ids : List Nat) : Prop := (i < 4 → Yn i a ids) ∧ (i = 4 → ids = [] ∧ a.ents.Perm (Mr 4) ∧ a.groups = 2)
section
variable {W0 w : World} {K M j mb : Nat} {G ids l : List Nat} {E : Nat → Addr} {H : Nat → Nat}
theorem Tj {base m : Nat} {B : Option Addr} {acts : List eY} (hR : Reads w base 3 B m (acts.flatMap eY.cells)) (hm : acts.length = m) {a : eY} (hj : acts[j]? = some a) : ∃ g off, B = some ⟨g, off, none⟩ ∧ g < base ∧ w.cell? ⟨g, off + j * 3, none⟩ = some (.int .i64 a.kind) ∧ w.cell? ⟨g, off + j * 3 + 1, none⟩ = some (.int .i64 a.key) ∧ w.cell? ⟨g, off + j * 3 + 2, none⟩ = some (.int .i64 a.n) := by
 have hjl := aX hj
 obtain ⟨g, off, h1, h2, h3⟩ := hR.2 (by omega)
 have hat : ∀ q u, a.cells[q]? = some u → (acts.flatMap eY.cells)[j * 3 + q]? = some u := fun q u hu => by
  have hq : q < 3 := by have := aX hu; simpa [eY.cells] using this
  obtain ⟨e1, _⟩ := vF hj
  have e2 : acts.flatMap eY.cells = (acts.take j).flatMap eY.cells ++ (a.cells ++ (acts.drop (j + 1)).flatMap eY.cells) := by
   have : acts.flatMap eY.cells = (acts.take j ++ a :: acts.drop (j + 1)).flatMap eY.cells := by rw [← e1]
   rw [this]; simp
  have e3 : ((acts.take j).flatMap eY.cells).length = j * 3 := by
   have : ∀ l : List eY, (l.flatMap eY.cells).length = l.length * 3 := fun l => by
    induction l with
    | nil => rfl
    | cons x l ih => simp only [List.flatMap_cons, List.length_append, List.length_cons, ih]; simp [eY.cells]; omega
   rw [this, List.length_take]; omega
  rw [e2, List.getElem?_append_right (by omega), e3, Nat.add_sub_cancel_left, List.getElem?_append_left (by simpa [eY.cells] using hq)]
  exact hu
 exact ⟨g, off, h1, h2, h3 _ _ (hat 0 _ rfl), by rw [Nat.add_assoc]; exact h3 _ _ (hat 1 _ rfl), by rw [Nat.add_assoc]; exact h3 _ _ (hat 2 _ rfl)⟩
def gu (l : List Nat) (k : Nat) : Nat := l.getD k 0
theorem Yp (h : ∀ x ∈ l, x < 18446744073709551616) (k : Nat) : gu l k < 18446744073709551616 := by
 unfold gu
 rw [List.getD_eq_getElem?_getD]
 cases hk : l[k]? with
 | none => decide
 | some x => exact h x (List.mem_of_getElem? hk)
theorem VZ (h : ∀ x ∈ l, x < 18446744073709551616) (hn : 1 ≤ l.length ∧ l.length ≤ 220) (a : eY) : j6 (gu l) (uV l a) := by
 refine ⟨rfl, Yp h _, ?_, ?_⟩
 ·have : Ht a.key l.length < l.length := Nat.mod_lt _ (by omega)
  show Ht a.key l.length < _
  omega
 ·show (a.n % 18446744073709551616).toNat < _
  omega
theorem Yq {k m i : Int} (h : pK k m i = true) : ∃ K M I : Nat, (1 ≤ K ∧ K ≤ 64) ∧ (1 ≤ M ∧ M ≤ 192) ∧ k = (K : Int) ∧ m = (M : Int) ∧ i = (I : Int) := by
 unfold pK y7 at h
 simp only [Bool.and_eq_true, decide_eq_true_eq] at h
 exact ⟨k.toNat, m.toNat, i.toNat, by omega, by omega, by omega, by omega, by omega⟩
def Keeps (a a' : Pool) : Prop := ∀ mx, GB mx a → a'.ents.length ≤ mx → GB mx a'
theorem oz {m : Nat} (h : j < m) : m - (intOf (.int .i64 ((j : Int) + 1))).toNat < m - (intOf (.int .i64 (j : Int))).toNat := by
 show m - ((j : Int) + 1).toNat < m - (j : Int).toNat
 omega
end
end Go.Proofs.YtfojgfddgplinabGreatDoor
