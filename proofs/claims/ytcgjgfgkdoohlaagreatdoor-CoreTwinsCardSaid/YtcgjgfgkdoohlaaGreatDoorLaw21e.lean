/- amblerlaw21.walk: going over a core comes to all its entries, in order. -/
import Derived.Test.YtcgjgfgkdoohlaaGreatDoorCoCV
import Derived.Test.YtcgjgfgkdoohlaaGreatDoorSqT
import Derived.Test.YtcgjgfgkdoohlaaGreatDoorLaneP
namespace Go.Proofs.YtcgjgfgkdoohlaaGreatDoor
set_option maxRecDepth 100000
set_option maxHeartbeats 2000000
open Go.RowKit AmC
variable {l : List Ent} {m : Ent} {Kk M b base mb : Nat} {W0 w : World} {v : Value} {E : Nat → Addr} {G ids : List Nat}
def Asc (l : List Ent) : Prop := l.Pairwise fun x y => lessE x y = true
theorem Asc.nodup (h : Asc l) : l.Nodup := h.imp fun hxy e => by rw [e, less_irrefl] at hxy; cases hxy
theorem asc_snoc (h : Asc l) (hm : ∀ e ∈ l, lessE e m = true) : Asc (l ++ [m]) := List.pairwise_append.2 ⟨h, List.pairwise_singleton _ _, fun x hx y hy => by rw [List.mem_singleton.1 hy]; exact hm x hx⟩
theorem asc_unique : ∀ {l l' : List Ent}, Asc l → Asc l' → l.Perm l' → l = l'
 | [], l', _, _, hp => (List.nil_perm.1 hp).symm
 | x :: l, [], _, _, hp => absurd hp.length_eq (by simp)
 | x :: l, y :: l', h, h', hp => by
  obtain ⟨h1, h2⟩ := List.pairwise_cons.1 h
  obtain ⟨h3, h4⟩ := List.pairwise_cons.1 h'
  have hxy : x = y := by
   have hx : x ∈ y :: l' := hp.mem_iff.1 (by simp)
   have hy : y ∈ x :: l := hp.mem_iff.2 (by simp)
   rcases List.mem_cons.1 hx with e | e
   ·exact e
   ·rcases List.mem_cons.1 hy with e' | e'
    ·exact e'.symm
    ·have := less_asymm (h1 y e'); rw [h3 x e] at this; cases this
  subst hxy
  rw [asc_unique h2 h4 (List.Perm.cons_inv hp)]
def below_ (hs : List Nat) (b : Nat) : Nat := (hs.filter fun h => decide (h < b)).length
theorem below_mono (hs : List Nat) {a : Nat} (h : a ≤ b) : below_ hs a ≤ below_ hs b := by
 unfold below_
 induction hs with
 | nil => simp
 | cons x l ih =>
  simp only [List.filter_cons]
  by_cases h1 : x < a
  ·rw [if_pos (by simpa using h1), if_pos (by simp; omega)]; simp only [List.length_cons]; omega
  ·rw [if_neg (by simpa using h1)]
   split <;> (try simp only [List.length_cons]) <;> omega
theorem below_more {hs : List Nat} {a x : Nat} (hx : x ∈ hs) (h1 : a ≤ x) (h2 : x < b) : below_ hs a + 1 ≤ below_ hs b := by
 obtain ⟨s, t, rfl⟩ := List.append_of_mem hx
 have g1 := below_mono s (Nat.le_trans h1 (Nat.le_of_lt h2))
 have g2 := below_mono t (Nat.le_trans h1 (Nat.le_of_lt h2))
 unfold below_ at g1 g2 ⊢
 rw [List.filter_append, List.filter_append, List.filter_cons, List.filter_cons, if_neg (by simp; omega), if_pos (by simp; omega)]
 simp only [List.length_append, List.length_cons]
 omega
theorem below_le (hs : List Nat) (b : Nat) : below_ hs b ≤ hs.length := List.length_filter_le _ _
structure WalkSt (es : List Ent) (hs : List Nat) (n : Nat) (out : List Ent) (key hash : Nat) : Prop where
 asc : Asc out
 mem : ∀ e, e ∈ out ↔ e ∈ es ∧ lessE e ⟨key, 0, hash⟩ = true
 cnt : n ≤ out.length + below_ hs hash
section
variable {es out : List Ent} {hs : List Nat} {n key hash hi : Nat}
theorem WalkSt.start (es : List Ent) (hs : List Nat) : WalkSt es hs 0 [] 0 0 := ⟨.nil, fun e => by simp [lessE], Nat.zero_le _⟩
theorem sub_nodup {l' : List Ent} (hn : l.Nodup) (hs : ∀ x ∈ l, x ∈ l') : l.length ≤ l'.length := by
 induction l generalizing l' with
 | nil => exact Nat.zero_le _
 | cons x l ih =>
  rw [List.nodup_cons] at hn
  obtain ⟨s, t, rfl⟩ := List.append_of_mem (hs x (by simp))
  have h1 := ih (l' := s ++ t) hn.2 (fun y hy => by
   have := hs y (by simp [hy])
   simp only [List.mem_append, List.mem_cons] at this ⊢
   rcases this with h | h | h
   ·exact .inl h
   ·rw [h] at hy; exact absurd hy hn.1
   ·exact .inr h)
  simp only [List.length_append, List.length_cons] at h1 ⊢
  omega
theorem WalkSt.len (h : WalkSt es hs n out key hash) : out.length ≤ es.length := sub_nodup h.asc.nodup (fun e he => ((h.mem e).1 he).1)
theorem WalkSt.few (h : WalkSt es hs n out key hash) (h1 : es.length ≤ 192) (h2 : hs.length ≤ 32) : n ≤ 224 := by
 have := h.cnt
 have := h.len
 have := below_le hs hash
 omega
theorem WalkSt.some_ (h : WalkSt es hs n out key hash) (hn : (es.map Ent.key).Nodup) (hm : IsLeast ⟨key, 0, hash⟩ (upto es hi) (some m)) : WalkSt es hs (n + 1) (out ++ [m]) (m.key + 1) m.hash ∧ (∀ e ∈ out, lessE e m = true) ∧ m.hash ≤ hi ∧ m ∈ es := by
 obtain ⟨m1, m2⟩ := mem_upto.1 hm.1
 have hlt : ∀ e ∈ out, lessE e m = true := fun e he => by
  have h1 := ((h.mem e).1 he).2
  have h2 := hm.2.1
  simp [lessE] at h1 h2 ⊢
  omega
 have hh := less_hash hm.2.1
 refine ⟨⟨asc_snoc h.asc hlt, fun e => ⟨fun he => ?_, fun he => ?_⟩, ?_⟩, hlt, m2, m1⟩
 ·rcases List.mem_append.1 he with h1 | h1
  ·refine ⟨((h.mem e).1 h1).1, ?_⟩
   have := hlt e h1
   simp [lessE] at this ⊢
   omega
  ·rw [List.mem_singleton.1 h1]
   exact ⟨m1, by simp [lessE]⟩
 ·rw [List.mem_append, List.mem_singleton]
  cases hl : lessE e ⟨key, 0, hash⟩ with
  | true => exact .inl ((h.mem e).2 ⟨he.1, hl⟩)
  | false =>
   right
   have h1 := he.2
   have h2 := hm.2.2 e (mem_upto.2 ⟨he.1, by simp [lessE] at h1; omega⟩) hl
   have hk : e.key = m.key := by simp [lessE] at h1 h2; omega
   have e1 := look_some hn he.1
   have e2 := look_some hn m1
   rw [hk, e2] at e1
   exact (Option.some.inj e1).symm
 ·have := h.cnt
  have := below_mono hs hh
  simp only [List.length_append, List.length_cons, List.length_nil]
  omega
theorem WalkSt.none_ (h : WalkSt es hs n out key hash) (hm : IsLeast ⟨key, 0, hash⟩ (upto es hi) none) (h1 : hash ≤ hi) (h2 : hi ∈ hs) : WalkSt es hs (n + 1) out 0 (hi + 1) := by
 refine ⟨h.asc, fun e => ⟨fun he => ?_, fun he => ?_⟩, ?_⟩
 ·have := (h.mem e).1 he
  refine ⟨this.1, ?_⟩
  have h3 := this.2
  simp [lessE] at h3 ⊢
  omega
 ·have h3 := he.2
  exact (h.mem e).2 ⟨he.1, hm e (mem_upto.2 ⟨he.1, by simp [lessE] at h3; omega⟩)⟩
 ·have := h.cnt
  have := below_more (b := hi + 1) h2 h1 (by omega)
  omega
theorem WalkSt.fin_ (h : WalkSt es hs n out key hash) (hn : (es.map Ent.key).Nodup) (hm : IsLeast ⟨key, 0, hash⟩ (upto es hi) none) (h1 : ∀ e ∈ es, e.hash ≤ hi) : out.Perm es :=
 (List.perm_ext_iff_of_nodup h.asc.nodup (by
  unfold List.Nodup at hn ⊢
  rw [List.pairwise_map] at hn
  exact hn.imp fun hxy e => hxy (by rw [e]))).2 fun e => ⟨fun he => ((h.mem e).1 he).1, fun he => (h.mem e).2 ⟨he, hm e (mem_upto.2 ⟨he, h1 e he⟩)⟩⟩
end
theorem grew_mod {w' : World} {v' : Value} (h : Grew w base v w' v') : Mod v.ownBlock.toList w w' :=
 ⟨h.by_.os, h.by_.tape, h.by_.output, h.by_.size, fun k hk hn => h.by_.block k hk (fun e => hn (by simp [e]))⟩
theorem last_of (h : l ≠ []) : ∃ (j : Nat) (e : Ent), j + 1 = l.length ∧ l[j]? = some e ∧ e ∈ l := by
 have hp : 0 < l.length := List.length_pos_iff.2 h
 exact ⟨l.length - 1, l[l.length - 1], by omega, List.getElem?_eq_getElem (by omega), List.getElem_mem _⟩
theorem app_keeps {H : Nat → Nat} {G0 : List Nat} {wn : World} {a : Pool} {n xb : Nat} {t : TypeId} {cs : Array Value} {xs : List Value} (hC : CoreAt W0 E H Kk M mb G wn a ids) (hX : Blk wn xb t cs) (hG : ∀ g, v.ownBlock = some g → g ∉ G) (hS : ∀ q ∈ G, q ∈ G0 ∨ w.heap.size ≤ q) (hM : Mod G0 w wn) (hO : wn.ownsRow w.heap.size 37 3 v n xs) (o : Obj) (hx : ∀ g, v.ownBlock = some g → g ≠ xb) (hw : W0.heap.size ≤ w.heap.size) :
  ∀ (v' : Value) (w' : World), Grew (wn.alloc o) w.heap.size v w' v' → CoreAt W0 E H Kk M mb G w' a ids ∧ Blk w' xb t cs ∧ (∀ g, v'.ownBlock = some g → g ∉ G) ∧ Mod G0 w w' := by
 intro v' w' hg
 have _ := hS
 have hb2 := (Below.refl wn.heap.size wn).alloc (Nat.le_refl _) o
 have hC2 := hC.below hb2
 have hgm := grew_mod hg
 refine ⟨hC2.mod hgm (fun q hq => ?_), (hX.alloc o).mod hgm (fun hq => ?_), fun g hg' hq => ?_, (hM.alloc o).trans hgm (fun _ hh _ => hh) (fun k hk hl => ?_)⟩
 ·have hq' : v.ownBlock = some q := by simpa using hq
  exact ⟨hG q hq', Nat.le_trans hw (hO.lt q hq').1⟩
 ·have hq' : v.ownBlock = some xb := by simpa using hq
  exact hx xb hq' rfl
 ·rcases hg.at_ with h1 | ⟨g2, h1, h2⟩
  ·rw [h1] at hg'; exact hG g hg' hq
  ·rw [h1] at hg'; cases hg'
   have := (hC2.facts.2.2.2.2.2.2.2.2.2.2.1 g hq).1
   omega
 ·have hq' : v.ownBlock = some k := by simpa using hk
  have := (hO.lt k hq').1
  omega
theorem own_snoc {n : Nat} {out : List Ent} (h : w.ownsRow base 37 3 v (n + 1) (out.flatMap entCells ++ (#[.int .u64 (m.key : Int), .int .u64 (m.val : Int), .int .u64 (m.hash : Int)] : Array Value).toList)) (hn : n = out.length) : w.ownsRow base 37 3 v (out ++ [m]).length ((out ++ [m]).flatMap entCells) := by
 subst hn
 rw [List.length_append, List.flatMap_append]
 simpa [entCells] using h
theorem law_walk {Hh : Nat → Nat} {a : Pool} (hC : CoreAt W0 E Hh Kk M mb G w a ids) (hsm : ∀ e ∈ a.ents, e.key < 1000) : Calls Tryz.prog 26 #[coreP mb] w fun y w' => ∃ A c out, y = .returned (.tuple #[.slice A out.length c, .bool true]) ∧ Asc out ∧ out.Perm a.ents ∧ w'.ownsRow w.heap.size 37 3 (.slice A out.length c) out.length (out.flatMap entCells) ∧ ∃ G', CoreAt W0 E Hh Kk M mb G' w' a ids ∧ (∀ q ∈ G', q ∈ G ∨ w.heap.size ≤ q) ∧ Mod G w w' ∧ (∀ g, (Value.slice A out.length c).ownBlock = some g → g ∉ G') := by
 have HC := qd hC
 have HK := qd hsm
 have HFc := qd hC.facts
 have hB0 := hC.facts.2.2.2.2.2.2.2.2.2.2.2.size
 have Hm0 := qd (Mod.refl G w)
 clear hC hsm
 unfold coreP
 go_in
 go_upto_region 2 with fail
 refine nameW (F := fun v => v.ownsRow w.heap.size 37 3 (.slice (some ⟨w.heap.size, 0, none⟩) 0 0) 0 [] ∧ Below w.heap.size w v) ⟨own_none w w.heap.size 37 3 (Nat.le_refl _), (Below.refl w.heap.size w).alloc (Nat.le_refl _) _⟩ ?_
 rintro w1 ⟨ho, hb⟩
 replace HC := qd (HC.out.below hb)
 have HO := qd ho
 have HG := qd (show ∀ g, (Value.slice (some ⟨w.heap.size, 0, none⟩) 0 0).ownBlock = some g → g ∉ G from fun g hg hq => by
  have := (ho.lt g hg).1
  have := (HFc.out.2.2.2.2.2.2.2.2.2.2.1 g hq).1
  omega)
 have HS := qd (show ∀ q ∈ G, q ∈ G ∨ w.heap.size ≤ q from fun q hq => .inl hq)
 have HM := qd (Mod.of_below hb G)
 clear ho hb Hm0
 obtain ⟨v0, hv0⟩ : ∃ v0 : Value, v0 = .slice (some ⟨w.heap.size, 0, none⟩) 0 0 := ⟨_, rfl⟩
 rw [← hv0] at HO HG
 rw [show (Value.slice (some ⟨w.heap.size, 0, none⟩) 0 0) = v0 from hv0.symm]
 clear hv0
 go_wp2
 go_loopw [2, 3, 4, 5, 6, 7, 8, 9, 10] (fun _ _ v4 v5 v6 v7 _ _ _ wr => ∃ (n : Nat) (out : List Ent) (key hash : Nat) (G1 : List Nat), v7 = .int .i64 (n : Int) ∧ v5 = .int .u64 (hash : Int) ∧ v6 = .int .u64 (key : Int) ∧ hash < 18446744073709551616 ∧ Hid (WalkSt a.ents (highs a) n out key hash) ∧ Hid (CoreAt W0 E Hh Kk M mb G1 wr a ids) ∧ Hid (wr.ownsRow w.heap.size 37 3 v4 out.length (out.flatMap entCells)) ∧ Hid (∀ g, v4.ownBlock = some g → g ∉ G1) ∧ Hid (∀ q ∈ G1, q ∈ G ∨ w.heap.size ≤ q) ∧ Hid (Mod G w wr)) (fun _ _ _ _ _ v7 _ _ _ _ => 400 - (intOf v7).toNat)
 case atStart => exact ⟨0, [], 0, 0, G, rfl, rfl, rfl, by omega, qd (WalkSt.start _ _), HC, HO, HG, HS, HM⟩
 case round =>
  clear HC HO HG HS HM
  obtain ⟨n, out, key, hash, G1, rfl, rfl, rfl, h64, HWk, HC, HO, HG, HS, HM⟩ := hrel
  obtain ⟨f1, f2, f3, f4, f5, f6, f7, f8, f9, f10, f11, f12⟩ := HC.out.facts
  have hnd := qd f10
  have hn224 := HWk.out.few (by omega) (by unfold highs; rw [List.length_map]; omega)
  have hn4 : (n : Int) < 400 := by omega
  have hol := HWk.out.len
  have hol2 : out.length ≤ 192 := by omega
  have HMe := qd (show 400 - (intOf (.int .i64 ((n : Int) + 1))).toNat < 400 - (intOf (.int .i64 (n : Int))).toNat from by show 400 - ((n : Int) + 1).toNat < 400 - (n : Int).toNat; omega)
  have hcl := at_Least HC.out key hash h64
  unfold coreP at hcl
  have HCl := qd hcl
  have HS1 := HS
  have HGl := qd f11
  obtain ⟨A4, c4, hv4⟩ := own_form HO.out
  obtain ⟨ln, hln⟩ : ∃ ln, ln = out.length := ⟨_, rfl⟩
  rw [← hln] at hv4 HO hol hol2
  subst hv4
  have HLn := qd hln
  clear hln hcl f1 f2 f3 f4 f5 f6 f7 f8 f9 f10 f11 f12
  unfold entV at HCl
  go_wp2_with fail
  refine HCl.out.mono ?_
  rintro y w3 ⟨o, hi, rfl, hhi, hhi64, hhs, hIs, G2, c1, c2, c3⟩
  have HIs := qd hIs
  have HHi := qd hhs
  replace HC := qd c1
  have hz3 := c3.size
  have hzm := HM.out.size
  have HO3 := qd (own_farN HO.out c3 (fun k hk => HG.out k hk))
  have HG3 := qd (show ∀ g, (Value.slice A4 ln c4).ownBlock = some g → g ∉ G2 from fun g hg hq => by
   rcases c2 g hq with h1 | h1
   ·exact HG.out g hg h1
   ·have := (HO.out.lt g hg).2; omega)
  replace HS := qd (show ∀ q ∈ G2, q ∈ G ∨ w.heap.size ≤ q from fun q hq => by
   rcases c2 q hq with h1 | h1
   ·exact HS.out q h1
   ·right; omega)
  replace HM := qd (HM.out.trans c3 (fun _ hh _ => hh) (fun k hk hl => by
   rcases HS1.out k hk with h1 | h1
   ·exact h1
   ·omega))
  clear hIs hhs c1 c2 c3 HCl HO HG HGl HS1
  have HO := HO3
  have HG := HG3
  clear HO3 HG3
  obtain ⟨m, hm⟩ : ∃ x : Ent, x = o.getD ⟨0, 0, 0⟩ := ⟨_, rfl⟩
  obtain ⟨b, hb⟩ : ∃ b, b = o.isSome := ⟨_, rfl⟩
  rw [← hm, ← hb]
  have HMo := qd hm
  have HBo := qd hb
  clear hm hb
  have hX5 := Blk.new w3 37 #[.int .u64 (m.key : Int), .int .u64 (m.val : Int), .int .u64 (m.hash : Int)]
  have hb5 := (Below.refl w3.heap.size w3).alloc (Nat.le_refl _) (.cells #[.int .u64 (m.key : Int), .int .u64 (m.val : Int), .int .u64 (m.hash : Int)] 37)
  go_upto_region 7 with fail
  refine nameW (F := fun v => Blk v w3.heap.size 37 #[.int .u64 (m.key : Int), .int .u64 (m.val : Int), .int .u64 (m.hash : Int)] ∧ Below w3.heap.size w3 v) ⟨hX5, hb5⟩ ?_
  clear hX5 hb5
  rintro w5 ⟨hX5, hb5⟩
  have hxo : ∀ g, (Value.slice A4 ln c4).ownBlock = some g → g ≠ w3.heap.size := fun g hg => by have := (HO.out.lt g hg).2; omega
  replace HC := qd (HC.out.below hb5)
  replace HO := qd (own_below HO.out hb5 (Nat.le_refl _))
  replace HM := qd (HM.out.then (Mod.of_below hb5 G))
  obtain ⟨xb, hxb⟩ : ∃ xb, xb = w3.heap.size := ⟨_, rfl⟩
  rw [← hxb] at hX5 hxo ⊢
  have HX := qd hX5
  have hz5 := hb5.size
  clear hX5 hb5 hxb
  cases o with
  | none =>
   obtain rfl := HBo.out
   simp only [Option.isSome_none]
   by_cases hlast : hi = 18446744073709551615
   ·have HPm := qd (HWk.out.fin_ hnd.out HIs.out (fun e he => by
     obtain ⟨j, N, k1, k2⟩ := mem_pool.1 he
     have := ((HC.out.facts.2.2.2.2.2.1 j N k1).hash e k2).1.h64
     omega))
    have hh1 : IntKind.u64.wrap ((hi : Int) + 1) = 0 := by rw [hlast]; first | rfl | decide
    clear hlast
    go_wp2
    refine bodyPost_ret (v := .tuple #[.slice A4 ln c4, .bool true]) (by simp [results, Tryz.results26, go_sem]) rfl ?_
    exact ⟨A4, c4, out, by rw [← HLn.out], HWk.out.asc, HPm.out, by rw [← HLn.out]; exact HO.out, G2, HC.out, HS.out, HM.out, by rw [← HLn.out]; exact HG.out⟩
   ·have HWs := qd (HWk.out.none_ HIs.out hhi HHi.out)
    have hh1 : IntKind.u64.wrap ((hi : Int) + 1) = ((hi + 1 : Nat) : Int) := by
     have : IntKind.u64.wrap ((hi : Int) + 1) = ((hi : Int) + 1) % 18446744073709551616 := by first | rfl | (simp [IntKind.wrap])
     rw [this]; omega
    have hh2 : ¬ ((hi + 1 : Nat) : Int) = 0 := by omega
    have hh64 : hi + 1 < 18446744073709551616 := by omega
    obtain ⟨h1, hh1e⟩ : ∃ h1, h1 = hi + 1 := ⟨_, rfl⟩
    rw [← hh1e] at HWs hh1 hh2 hh64
    replace HO := qd (show w5.ownsRow w.heap.size 37 3 (.slice A4 ln c4) out.length (out.flatMap entCells) from by rw [← HLn.out]; exact HO.out)
    clear hh1e hlast
    go_wp2
    go_roundw
    all_goals first | exact ⟨n + 1, out, 0, h1, G2, rfl, rfl, rfl, hh64, HWs, HC, HO, HG, HS, HM⟩ | exact ⟨⟨n + 1, out, 0, h1, G2, rfl, rfl, rfl, hh64, HWs, HC, HO, HG, HS, HM⟩, HMe.out⟩ | exact HMe.out
  | some m' =>
   obtain rfl : m = m' := HMo.out
   obtain rfl := HBo.out
   simp only [Option.isSome_some]
   obtain ⟨hws, hlt, hmhi, hmem⟩ := HWk.out.some_ hnd.out HIs.out
   have HWs := qd hws
   have HLt := qd hlt
   have hmk := HK.out m hmem
   have HM64 := qd (show m.hash < 18446744073709551616 from by omega)
   have hmI : ¬ (hi : Int) < (m.hash : Int) := by omega
   have hk1 : IntKind.u64.wrap ((m.key : Int) + 1) = (m.key : Int) + 1 := by
    have : IntKind.u64.wrap ((m.key : Int) + 1) = ((m.key : Int) + 1) % 18446744073709551616 := by first | rfl | (simp [IntKind.wrap])
    rw [this]; omega
   clear hws hlt hmem
   go_upto_region 8 with fail
   obtain ⟨x0, x1, x2⟩ := HX.out.c3
   by_cases hne : out = []
   ·have hl0 : ¬ (0 : Int) < (ln : Int) := by rw [HLn.out, hne]; simp
    have HL0 := qd (show ln = 0 from by rw [HLn.out, hne]; rfl)
    clear hne hl0
    have hdr : Below w5.heap.size w5 w5.drew := (Below.refl _ _).drew
    replace HC := qd (HC.out.below hdr)
    replace HO := qd (own_below HO.out hdr (Nat.le_refl _))
    replace HX := qd HX.out.drew
    replace HM := qd (HM.out.then (Mod.of_below hdr G))
    clear hdr x0 x1 x2
    obtain ⟨x0, x1, x2⟩ := HX.out.c3
    refine region_T (fun (w' : World) => w'.cell? ⟨xb, 0, none⟩ = some (.int .u64 (m.key : Int)) ∧ w'.cell? ⟨xb, 1, none⟩ = some (.int .u64 (m.val : Int)) ∧ w'.cell? ⟨xb, 2, none⟩ = some (.int .u64 (m.hash : Int))) [] (by kernel_rfl) ?_
    try (change wpAnyT _ _ _ _ _ _ _ _ _ (World.drew _))
    have hHeld := (⟨x0, x1, x2⟩ : _ ∧ _ ∧ _)
    refine vW 0 rfl ?_
    refine vW 1 rfl ?_
    refine takeW (i := 2) (oi := ⟨some 27, _, _, _, _, _⟩) (v := .bool false) rfl (by kernel_rfl) (by kernel_rfl) (by kernel_rfl) (by rfl) (fun _ _ _ h => h) (Or.inl ⟨by rfl, ?_⟩) hHeld ?_
    ·rintro w -
     go_simp
     all_goals (have := HL0.out; omega)
    try simp only [pt]
    refine vW 3 rfl ?_
    refine vU 4 rfl ?_
    refine vU 5 rfl ?_
    refine vU 6 rfl ?_
    refine vU 7 rfl ?_
    refine vU 8 rfl ?_
    refine vU 9 rfl ?_
    refine vU 10 rfl ?_
    refine vU 11 rfl ?_
    refine vU 12 rfl ?_
    refine vW 13 rfl ?_
    refine vW 14 rfl ?_
    refine vW 15 rfl ?_
    refine vT 16 rfl ?_
    refine vW 17 rfl ?_
    refine vW 18 rfl ?_
    refine vW 19 rfl ?_
    refine doneT (by kernel_rfl) ?_ _
    generalize World.drew w5 = w6 at HC HO HX HM x0 x1 x2 ⊢
    have hN2 := Blk.new w6 37 #[.int .u64 (m.key : Int), .int .u64 (m.val : Int), .int .u64 (m.hash : Int)]
    have hO2 := HO.out.alloc (.cells #[.int .u64 (m.key : Int), .int .u64 (m.val : Int), .int .u64 (m.hash : Int)] 37)
    have hb2 := (Below.refl w6.heap.size w6).alloc (Nat.le_refl _) (.cells #[.int .u64 (m.key : Int), .int .u64 (m.val : Int), .int .u64 (m.hash : Int)] 37)
    have hzw := HM.out.size
    have hap := app_keeps HC.out HX.out HG.out HS.out HM.out HO.out (.cells #[.int .u64 (m.key : Int), .int .u64 (m.val : Int), .int .u64 (m.hash : Int)] 37) hxo hB0
    clear x0 x1 x2
    obtain ⟨x0, x1, x2⟩ := HX.out.c3
    go_upto_region 11 with (at_builtin; refine wpList_app (by rfl) (by rfl) slty_Ent hO2 (by rfl) (by rfl) (reads_blk (size := 3) (m := 1) hN2 (by rfl)) (by rfl) (by omega) (by simp; omega) ?_; intro v7 w7 ho7 hg7)
    obtain ⟨k1, k2, k3, k4⟩ := hap _ _ hg7
    replace HX := qd k2
    replace HC := qd k1
    replace HO := qd (show w7.ownsRow w.heap.size 37 3 v7 (out ++ [m]).length ((out ++ [m]).flatMap entCells) from own_snoc ho7 HLn.out)
    replace HG := qd k3
    replace HM := qd k4
    clear x0 x1 x2
    obtain ⟨x0, x1, x2⟩ := HX.out.c3
    clear ho7 hg7 hN2 hO2 hb2 hap k1 k2 k3 k4
    have hdr : Below w7.heap.size w7 w7.drew := (Below.refl _ _).drew
    replace HC := qd (HC.out.below hdr)
    replace HO := qd (own_below HO.out hdr (Nat.le_refl _))
    replace HM := qd (HM.out.then (Mod.of_below hdr G))
    clear hdr
    go_wp2
    go_region
    go_wp2
    go_roundw
    all_goals first | exact ⟨n + 1, out ++ [m], m.key + 1, m.hash, G2, rfl, rfl, rfl, HM64.out, HWs, HC, HO, HG, HS, HM⟩ | exact ⟨⟨n + 1, out ++ [m], m.key + 1, m.hash, G2, rfl, rfl, rfl, HM64.out, HWs, HC, HO, HG, HS, HM⟩, HMe.out⟩ | exact HMe.out
   ·obtain ⟨jl, z, hjl, hz, hzm⟩ := last_of hne
    have HZl := qd (HLt.out z hzm)
    obtain ⟨g, hA, hgb, z0, z1, z2, _⟩ := ent_cells HO.out hz
    subst hA
    have hgl : g < w5.heap.size := World.block_lt_of_cell? _ _ z0
    have hln2 := HLn.out
    have hlp : (0 : Int) < (ln : Int) := by omega
    have HL0 := qd (show 0 < ln from by omega)
    have hwj : IntKind.i64.wrap ((ln : Int) - 1) = (jl : Int) := by rw [IntKind.wrap_i64]; omega
    have hjc : (jl : Int) < (ln : Int) := by omega
    have hj0 : (0 : Int) ≤ (jl : Int) := by omega
    clear hne hz hzm hln2 hjl
    have hdr : Below w5.heap.size w5 w5.drew := (Below.refl _ _).drew
    replace HC := qd (HC.out.below hdr)
    replace HO := qd (own_below HO.out hdr (Nat.le_refl _))
    replace HX := qd HX.out.drew
    replace HM := qd (HM.out.then (Mod.of_below hdr G))
    clear hdr x0 x1 x2
    obtain ⟨x0, x1, x2⟩ := HX.out.c3
    refine region_T (fun (w' : World) => w'.cell? ⟨xb, 0, none⟩ = some (.int .u64 (m.key : Int)) ∧ w'.cell? ⟨xb, 1, none⟩ = some (.int .u64 (m.val : Int)) ∧ w'.cell? ⟨xb, 2, none⟩ = some (.int .u64 (m.hash : Int)) ∧ w'.cell? ⟨g, jl * 3, none⟩ = some (.int .u64 (z.key : Int)) ∧ w'.cell? ⟨g, jl * 3 + 1, none⟩ = some (.int .u64 (z.val : Int)) ∧ w'.cell? ⟨g, jl * 3 + 2, none⟩ = some (.int .u64 (z.hash : Int))) [] (by kernel_rfl) ?_
    try (change wpAnyT _ _ _ _ _ _ _ _ _ (World.drew _))
    have hHeld := (⟨x0, x1, x2, z0, z1, z2⟩ : _ ∧ _ ∧ _ ∧ _ ∧ _ ∧ _)
    refine vW 0 rfl ?_
    refine vW 1 rfl ?_
    refine takeW (i := 2) (oi := ⟨some 27, _, _, _, _, _⟩) (v := .bool true) rfl (by kernel_rfl) (by kernel_rfl) (by kernel_rfl) (by rfl) (fun _ _ _ h => h) (Or.inl ⟨by rfl, ?_⟩) hHeld ?_
    ·rintro w -
     go_simp
     all_goals (have := HL0.out; omega)
    try simp only [pt]
    refine vW 3 rfl ?_
    refine vW 4 rfl ?_
    refine vW 5 rfl ?_
    refine vW 6 rfl ?_
    refine vW 7 rfl ?_
    refine vW 8 rfl ?_
    refine vT 9 rfl ?_
    refine vT 10 rfl ?_
    refine nT 11 rfl fun K hK => ?_
    go_simp
    have hbf := num_Before z m w5.drew
    rw [HZl.out] at hbf
    unfold entV at hbf
    refine hbf.mono ?_
    rintro y w6 ⟨rfl, hb6⟩
    replace HC := qd (HC.out.below hb6)
    replace HO := qd (own_below HO.out hb6 (Nat.le_refl _))
    replace HX := qB hb6 HX
    replace HM := qd (HM.out.then (Mod.of_below hb6 G))
    have hxl6 := hb6.size
    replace z0 := (hb6.cell hgl).trans z0
    replace z1 := (hb6.cell hgl).trans z1
    replace z2 := (hb6.cell hgl).trans z2
    clear hbf hb6 x0 x1 x2
    obtain ⟨x0, x1, x2⟩ := HX.out.c3
    have hHeld := (⟨x0, x1, x2, z0, z1, z2⟩ : _ ∧ _ ∧ _ ∧ _ ∧ _ ∧ _)
    refine kO hK ?_
    clear hK K
    refine vW 12 rfl ?_
    refine vW 13 rfl ?_
    refine vW 14 rfl ?_
    refine vW 15 rfl ?_
    refine vT 16 rfl ?_
    refine vW 17 rfl ?_
    refine vW 18 rfl ?_
    refine vW 19 rfl ?_
    refine doneT (by kernel_rfl) ?_ _
    have hN2 := Blk.new w6 37 #[.int .u64 (m.key : Int), .int .u64 (m.val : Int), .int .u64 (m.hash : Int)]
    have hO2 := HO.out.alloc (.cells #[.int .u64 (m.key : Int), .int .u64 (m.val : Int), .int .u64 (m.hash : Int)] 37)
    have hb2 := (Below.refl w6.heap.size w6).alloc (Nat.le_refl _) (.cells #[.int .u64 (m.key : Int), .int .u64 (m.val : Int), .int .u64 (m.hash : Int)] 37)
    have hzw := HM.out.size
    have hap := app_keeps HC.out HX.out HG.out HS.out HM.out HO.out (.cells #[.int .u64 (m.key : Int), .int .u64 (m.val : Int), .int .u64 (m.hash : Int)] 37) hxo hB0
    clear x0 x1 x2
    obtain ⟨x0, x1, x2⟩ := HX.out.c3
    go_upto_region 11 with (at_builtin; refine wpList_app (by rfl) (by rfl) slty_Ent hO2 (by rfl) (by rfl) (reads_blk (size := 3) (m := 1) hN2 (by rfl)) (by rfl) (by omega) (by simp; omega) ?_; intro v7 w7 ho7 hg7)
    obtain ⟨k1, k2, k3, k4⟩ := hap _ _ hg7
    replace HX := qd k2
    replace HC := qd k1
    replace HO := qd (show w7.ownsRow w.heap.size 37 3 v7 (out ++ [m]).length ((out ++ [m]).flatMap entCells) from own_snoc ho7 HLn.out)
    replace HG := qd k3
    replace HM := qd k4
    clear x0 x1 x2
    obtain ⟨x0, x1, x2⟩ := HX.out.c3
    clear ho7 hg7 hN2 hO2 hb2 hap k1 k2 k3 k4
    have hdr : Below w7.heap.size w7 w7.drew := (Below.refl _ _).drew
    replace HC := qd (HC.out.below hdr)
    replace HO := qd (own_below HO.out hdr (Nat.le_refl _))
    replace HM := qd (HM.out.then (Mod.of_below hdr G))
    clear hdr
    go_wp2
    go_region
    go_wp2
    go_roundw
    all_goals first | exact ⟨n + 1, out ++ [m], m.key + 1, m.hash, G2, rfl, rfl, rfl, HM64.out, HWs, HC, HO, HG, HS, HM⟩ | exact ⟨⟨n + 1, out ++ [m], m.key + 1, m.hash, G2, rfl, rfl, rfl, HM64.out, HWs, HC, HO, HG, HS, HM⟩, HMe.out⟩ | exact HMe.out
end Go.Proofs.YtcgjgfgkdoohlaaGreatDoor
