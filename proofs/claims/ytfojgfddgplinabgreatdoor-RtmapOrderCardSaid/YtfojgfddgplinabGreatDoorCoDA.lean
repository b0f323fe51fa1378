/- A new core; a core's Groups; a plan's Groups. -/
import Derived.Test.YtfojgfddgplinabGreatDoorCoCP
import Derived.Test.YtfojgfddgplinabGreatDoorSqT
import Derived.Test.YtfojgfddgplinabGreatDoorLaneP
import Derived.Test.YtfojgfddgplinabGreatDoorCoBO
namespace Go.Proofs.YtfojgfddgplinabGreatDoor
set_option maxRecDepth 100000
set_option maxHeartbeats 4000000
open Go.RowKit dG Go.Maps
def nd0 : Nd := ⟨0, 0, 0, 0, dM 1 1, .idle⟩
def kg : Pool := ⟨[nd0], 0, [0], none⟩
theorem Z7 (H : Nat → Nat) : dO H nd0 := by
 obtain ⟨h1, h2, h3⟩ := Cw (n := 1) (.inl rfl)
 have hE : nd0.ents = [] := by unfold Nd.ents nd0; rw [h2]; rfl
 refine ⟨h1, Nat.zero_le _, .inl rfl, by decide, Nat.zero_le _, by rw [hE]; exact List.nodup_nil, fun e he => (by rw [hE] at he; cases he), by rw [hE]; exact Nat.zero_le _, rfl, ?_⟩
 show load (dM 1 1) ≤ _
 rw [h3]; exact Nat.zero_le _
theorem CJ : kg.ents = [] := by
 obtain ⟨h1, h2, h3⟩ := Cw (n := 1) (.inl rfl)
 have hE : nd0.ents = [] := by unfold Nd.ents nd0; rw [h2]; rfl
 unfold Pool.ents kg
 simp [hE]
theorem inv0 : iM kg [] [] := by
 have hget : ∀ (i : Nat) (N : Nd), kg.Ns[i]? = some N → i = 0 ∧ N = nd0 := fun i N hN => by
  have h1 : i < 1 := aX hN
  obtain rfl : i = 0 := by omega
  exact ⟨rfl, (Option.some.inj hN).symm⟩
 refine ⟨⟨fun i N hN => ?_, fun j hj => ?_, fun i N j hN hj hp => ?_, rfl, fun i N hN hb => ?_, fun c hc => by cases hc⟩, fun id => ?_, List.nodup_nil, List.nodup_nil, fun i hi => (by cases hi), fun i hi => (by cases hi), fun i hi => (by cases hi), fun i N hN _ => ?_⟩
 ·obtain ⟨_, rfl⟩ := hget i N hN; exact ⟨Nat.le_refl _, by decide⟩
 ·have h1 : j < 1 := hj
  obtain rfl : j = 0 := by omega
  exact ⟨nd0, rfl, rfl⟩
 ·obtain ⟨rfl, rfl⟩ := hget i N hN
  have h1 : j < 1 := hj
  obtain rfl : j = 0 := by omega
  rfl
 ·obtain ⟨_, rfl⟩ := hget i N hN; cases hb
 ·constructor
  ·rintro (⟨N, h1, h2⟩ | ⟨_, _, c, h3⟩)
   ·obtain ⟨_, rfl⟩ := hget id N h1; cases h2
   ·cases h3
  ·rintro (h | h) <;> cases h
 ·obtain ⟨_, rfl⟩ := hget i N hN; rfl
def oo (K M I db sb vb : Nat) : Array Value := #[.int .i64 (K : Int), .int .i64 (M : Int), .int .i64 (I : Int), .int .i64 0, .int .i64 0, .int .i64 0, .int .i64 0, .int .i64 0, .int .i64 0, .bool false, .int .i64 0, .slice (some ⟨vb, 0, none⟩) 1 1, .pointer (some ⟨db, 0, none⟩), .pointer none, .pointer (some ⟨sb, 0, none⟩), .int .i64 0]
def st0 : lH := ⟨kg, [], 0, 0, xY⟩
def wP (nb db eb : Nat) : cK := ⟨fun _ => nb, db, eb, 0, 0, 0⟩
theorem aA.fresh {W0 : World} {E : Nat → Addr} (H : Nat → Nat) {w w5 : World} {nb tb gb db eb sb qb rb jb vb K M I : Nat} (hE : Env W0 E w) (hK : 1 ≤ K ∧ K ≤ 64) (hM : 1 ≤ M ∧ M ≤ 192) (hb : Below w.heap.size w w5) (hN : bK w5 nb [nb, tb, gb] nd0) (hD : dh w5 db eb 0 [0]) (hS : dR w5 sb qb rb jb (K : Int) 0 (wP nb db eb).val [])
  (hR : w5.ownsRow W0.heap.size 88 1 (.slice (some ⟨vb, 0, none⟩) 1 1) 1 [.pointer (some ⟨nb, 0, none⟩)]) (hlow : ∀ q ∈ [nb, tb, gb, db, eb, sb, qb, rb, jb, vb], w.heap.size ≤ q) (hap : ∀ q ∈ [nb, tb, gb], q ∉ [db, eb, sb, qb, rb, jb, vb]) (Z8 : ∀ q ∈ [db, eb], q ∉ [sb, qb, rb, jb, vb]) (abv : ∀ q ∈ [sb, qb, rb, jb], q ≠ vb) :
  ∃ F, aA W0 E H ⟨w5.heap.size, sb, qb, rb, jb, wP nb db eb, .slice (some ⟨vb, 0, none⟩) 1 1, K, M, I, 0⟩ w [] (w5.alloc (.cells (oo K M I db sb vb) 100)) F st0 := by
 have hb6 : Below w5.heap.size w5 (w5.alloc (.cells (oo K M I db sb vb) 100)) := (Below.refl _ _).alloc (Nat.le_refl _) _
 have lF := Mod.of_below hb6 []
 have hz := hb.size
 have hzW := hE.size
 have hvl := (hR.lt vb rfl).2
 have Z9 := hN.fQ
 have hSl := hS.lt
 have aaM : ∀ (i : Nat) (N : Nd), [nd0][i]? = some N → i = 0 ∧ N = nd0 := fun i N hh => by
  have h1 : i < 1 := aX hh
  obtain rfl : i = 0 := by omega
  exact ⟨rfl, (Option.some.inj hh).symm⟩
 have hfp : ∀ q, q ∈ gD (wP nb db eb) (fun _ => [nb, tb, gb]) kg ↔ q ∈ [nb, tb, gb, db, eb] := fun q => by
  rw [aP]
  constructor
  ·rintro (⟨i, _, hq⟩ | hq)
   ·simp at hq ⊢; omega
   ·unfold cK.dS wP kg at hq; simp at hq ⊢; omega
  ·intro hq
   by_cases h1 : q ∈ [nb, tb, gb]
   ·exact .inl ⟨0, by decide, h1⟩
   ·refine .inr ?_
    unfold cK.dS wP kg
    simp at hq h1 ⊢; omega
 have aaN : iL W0 w5.heap.size H (wP nb db eb) (w5.alloc (.cells (oo K M I db sb vb) 100)) (fun _ => [nb, tb, gb]) kg := by
  refine ⟨fun i N hi => ?_, hD.mod lF (by simp) (by simp), fun next lf hc => (by cases hc), fun i j hi hj hij => ?_, fun i hi q hq hq2 => ?_, fun q hq => ?_, fun hq => ?_, by decide⟩
  ·obtain ⟨_, rfl⟩ := aaM i N hi
   exact ⟨hN.mod lF (by simp), Z7 H⟩
  ·have h1 : i < 1 := hi
   have h2 : j < 1 := hj
   omega
  ·unfold cK.dS wP kg at hq2
   exact hap q hq (by simp at hq2 ⊢; omega)
  ·have h1 := (hfp q).1 hq
   have := hlow q (by simp at h1 ⊢; omega)
   omega
  ·have h1 := (hfp _).1 hq
   simp at h1
   have h2 := hD.lt
   have h3 := hD.Iz
   have h4 := Z9 nb (by simp)
   have h5 := Z9 tb (by simp)
   have h6 := Z9 gb (by simp)
   omega
 have hmet : aO (w5.alloc (.cells (oo K M I db sb vb) 100)) (cmp ⟨w5.heap.size, sb, qb, rb, jb, wP nb db eb, .slice (some ⟨vb, 0, none⟩) 1 1, K, M, I, 0⟩ st0) xY := ⟨rfl, aj.new w5 100 (oo K M I db sb vb)⟩
 have hsb : ∀ q ∈ [sb, qb, rb, jb], q < w5.heap.size := hSl
 refine ⟨gD (wP nb db eb) (fun _ => [nb, tb, gb]) kg, bB.start (hS.mod lF (by simp)) ⟨_, rfl, aaN⟩ hmet (hE.mod ((Mod.of_below hb []).then lF) (by simp)) (fun q hq => ⟨fun ZO => ?_, ?_, ?_⟩) (by show W0.heap.size ≤ w5.heap.size; omega), hR.alloc _, fun g hg hq => ?_, by decide, hK, hM, hzW, fun q hq => ?_, (Mod.of_below hb []).then lF⟩
 ·have hq' : q ∈ [sb, qb, rb, jb] := hq
  have h1 := (hfp q).1 ZO
  by_cases h2 : q ∈ [nb, tb, gb]
  ·exact hap q h2 (by simp at hq' ⊢; omega)
  ·exact Z8 q (by simp at h1 h2 ⊢; omega) (by simp at hq' ⊢; omega)
 ·have := hsb q hq
  show q ≠ w5.heap.size
  omega
 ·have hq' : q ∈ [sb, qb, rb, jb] := hq
  have := hlow q (by simp at hq' ⊢; omega)
  omega
 ·have hg' : g = vb := by simpa using (Option.some.inj hg).symm
  subst hg'
  have hq' : g = w5.heap.size ∨ g ∈ [sb, qb, rb, jb] ∨ g ∈ gD (wP nb db eb) (fun _ => [nb, tb, gb]) kg := by
   rcases List.mem_cons.1 hq with h3 | h3
   ·exact .inl h3
   ·exact .inr (List.mem_append.1 h3)
  rcases hq' with h1 | h1 | h1
  ·omega
  ·exact abv g h1 rfl
  ·have h2 := (hfp g).1 h1
   by_cases h3 : g ∈ [nb, tb, gb]
   ·exact hap g h3 (by simp)
   ·exact Z8 g (by simp at h2 h3 ⊢; omega) (by simp)
 ·right
  rcases aW.1 hq with h1 | h1 | h1 | h1
  ·have h2 : q = w5.heap.size := h1
   omega
  ·have h2 : q ∈ [sb, qb, rb, jb] := h1
   exact hlow q (by simp at h2 ⊢; omega)
  ·have h2 := (hfp q).1 h1
   exact hlow q (by simp at h2 ⊢; omega)
  ·have h2 : q = vb := by simpa using (Option.some.inj h1).symm
   exact hlow q (by simp [h2])
def abw (Ns : List Nd) (i : Nat) : Nat := ((Ns.take i).map Nd.groups).sum
section
variable {W0 w : World} {E : Nat → Addr}
def NewAt (W0 : World) (E : Nat → Addr) (H : Nat → Nat) (K M : Nat) (w : World) (mb : Nat) (w' : World) : Prop := ∃ (C : eB) (F : List Nat), C.mb = mb ∧ C.K = K ∧ C.M = M ∧ aA W0 E H C w [] w' F st0
theorem Ma (hE : Env W0 E w) (k m i : Int) (hcf : pK k m i = false) : Calls Tryz.prog 16 #[iC k m i] w fun e w' => e = .returned (.tuple #[.pointer none, kW E 1]) ∧ Below w.heap.size w w' := by
 have Rn := qd hE
 have hB0 := aj.new w 23 #[.int .i64 k, .int .i64 m, .int .i64 i]
 have hb0 := (Below.refl w.heap.size w).alloc (Nat.le_refl _) (.cells #[.int .i64 k, .int .i64 m, .int .i64 i] 23)
 unfold iC
 go_in
 go_upto_region 1 with fail
 refine cZ (F := fun v => aj v w.heap.size 23 #[.int .i64 k, .int .i64 m, .int .i64 i] ∧ Below w.heap.size w v) ⟨hB0, hb0⟩ ?_
 clear hB0 hb0
 rintro w1 ⟨hB1, hb1⟩
 obtain ⟨bx, hbx⟩ : ∃ bx, bx = w.heap.size := ⟨_, rfl⟩
 rw [← hbx] at hB1 ⊢
 have lZ := qd hbx
 have HB := qd hB1
 have qH := qd (hE.mod (Mod.of_below hb1 []) (by simp))
 have yU := qd hb1
 obtain ⟨k0, k1, k2⟩ := hB1.c3
 have Ch := qd (zO k m i w1 qH.out.errs)
 rw [hcf] at Ch
 simp only [Bool.false_eq_true, if_false] at Ch
 rw [jc E (by omega)] at Ch
 unfold iC at Ch
 clear hB1 hb1 hbx hE
 go_wp2_with fail
 refine Ch.out.mono ?_
 rintro y w2 ⟨rfl, hb2⟩
 go_wp2
 refine bodyPost_ret (v := .tuple #[.pointer none, .iface 285 (.pointer (some (E 1)))]) (by simp [results, Tryz.results16, go_sem]) rfl ⟨?_, fV yU.out hb2⟩
 rw [jc E (by omega)]
theorem VE (H : Nat → Nat) (hE : Env W0 E w) (k m i : Int) (hcf : pK k m i = true) (K M I : Nat) (hkm : (1 ≤ K ∧ K ≤ 64) ∧ (1 ≤ M ∧ M ≤ 192) ∧ k = (K : Int) ∧ m = (M : Int) ∧ i = (I : Int)) : Calls Tryz.prog 16 #[iC k m i] w fun e w' => ∃ mb, e = .returned (.tuple #[aZ mb, .nilIface]) ∧ NewAt W0 E H K M w mb w' := by
 have FP := qd hkm
 clear hkm
 have Rn := qd hE
 have hB0 := aj.new w 23 #[.int .i64 k, .int .i64 m, .int .i64 i]
 have hb0 := (Below.refl w.heap.size w).alloc (Nat.le_refl _) (.cells #[.int .i64 k, .int .i64 m, .int .i64 i] 23)
 unfold iC
 go_in
 go_upto_region 1 with fail
 refine cZ (F := fun v => aj v w.heap.size 23 #[.int .i64 k, .int .i64 m, .int .i64 i] ∧ Below w.heap.size w v) ⟨hB0, hb0⟩ ?_
 clear hB0 hb0
 rintro w1 ⟨hB1, hb1⟩
 obtain ⟨bx, hbx⟩ : ∃ bx, bx = w.heap.size := ⟨_, rfl⟩
 rw [← hbx] at hB1 ⊢
 have lZ := qd hbx
 have HB := qd hB1
 have qH := qd (hE.mod (Mod.of_below hb1 []) (by simp))
 have yU := qd hb1
 obtain ⟨k0, k1, k2⟩ := hB1.c3
 have Ch := qd (zO k m i w1 qH.out.errs)
 rw [hcf] at Ch
 simp only [if_true] at Ch
 unfold iC at Ch
 have hz1 := hb1.size
 have adj := HB.out.lt
 clear hB1 hb1 hE hbx
 go_wp2_with fail
 refine Ch.out.mono ?_
 rintro y w2 ⟨rfl, hb2⟩
 replace HB := qB hb2 HB
 replace yU := qd (fV yU.out hb2)
 replace qH := qB hb2 qH
 have hz2 := hb2.size
 clear hb2 Ch k0 k1 k2
 go_wp2_with fail
 refine (U8 w2).mono ?_
 rintro y w3 ⟨nb, tb, gb, rfl, hn1, hn2, ⟨l1, l2, l3, l4, l5⟩, hb3⟩
 have HN := qd (show bK w3 nb [nb, tb, gb] nd0 from ⟨tb, gb, hn1, hn2, rfl, l4, l5⟩)
 replace HB := qB hb3 HB
 replace yU := qd (fV yU.out hb3)
 replace qH := qB hb3 qH
 have hz3 := hb3.size
 have l6 := hn2.ne
 have hnl := HN.out.fQ
 have adk := hnl nb (by simp)
 have adl := hnl tb (by simp)
 have adn := hnl gb (by simp)
 clear hb3 hn1 hn2 hnl
 unfold aN
 have HDn := qd (show Calls Tryz.prog 40 #[.int .i64 0] w3 _ from NT 0 (by omega) w3)
 unfold gZ at HDn
 go_wp2_with fail
 refine HDn.out.mono ?_
 rintro y w4 ⟨rfl, hd4, hb4⟩
 have HD := qd (show dh w4 (w3.heap.size + 1) w3.heap.size 0 [0] from hd4)
 replace HN := qd (HN.out.mod (Mod.of_below hb4 []) (by simp))
 replace HB := qB hb4 HB
 replace yU := qd (fV yU.out hb4)
 replace qH := qB hb4 qH
 have WX := hb4.size
 have abx := HD.out.lt
 have aby := HD.out.Iz
 obtain ⟨db, hdb⟩ : ∃ db, db = w3.heap.size + 1 := ⟨_, rfl⟩
 obtain ⟨eb, Ii⟩ : ∃ eb, eb = w3.heap.size := ⟨_, rfl⟩
 rw [← hdb, ← Ii] at HD
 rw [← hdb]
 rw [← hdb] at abx
 rw [← Ii] at aby
 have oM := qd hdb
 have qo := qd Ii
 clear hb4 hd4 HDn hdb Ii
 have kk := HB.out.c3
 have dV := qd (RS k (by have := FP.out; omega) (wP nb db eb).val w4 qH.out.errs)
 unfold eu at dV
 go_wp2_with fail
 refine dV.out.mono ?_
 rintro y w5 ⟨sb, qb, rb, jb, rfl, hs5, hsl, hb5⟩
 have HS := qd hs5
 replace HN := qd (HN.out.mod (Mod.of_below hb5 []) (by simp))
 replace HD := qB hb5 HD
 replace HB := qB hb5 HB
 replace yU := qd (fV yU.out hb5)
 replace qH := qB hb5 qH
 have hz5 := hb5.size
 have Xk := qd hsl
 clear kk hb5 hs5 dV hsl
 have kk := HB.out.c3
 go_wp2
 have hrow := World.ownsRow_lit (base := W0.heap.size) (e := 88) (size := 1) w5 #[.pointer (some ⟨nb, 0, none⟩)] 1 (by have := qH.out.size; omega) (by decide) rfl
 have hb6 : Below w5.heap.size w5 (w5.alloc (.cells #[.pointer (some ⟨nb, 0, none⟩)] 88)) := (Below.refl _ _).alloc (Nat.le_refl _) _
 have lF := Mod.of_below hb6 []
 have hsl := Xk.out
 have hd1 := oM.out
 have hd2 := qo.out
 have s1 := hsl sb (by simp)
 have s2 := hsl qb (by simp)
 have s3 := hsl rb (by simp)
 have s4 := hsl jb (by simp)
 have hslt := HS.out.lt
 have t1 := hslt sb (by simp)
 have t2 := hslt qb (by simp)
 have t3 := hslt rb (by simp)
 have t4 := hslt jb (by simp)
 have ado := lZ.out
 obtain ⟨F, hF⟩ := aA.fresh H (w := w) (w5 := w5.alloc (.cells #[.pointer (some ⟨nb, 0, none⟩)] 88)) (nb := nb) (tb := tb) (gb := gb) (db := db) (eb := eb) (sb := sb) (qb := qb) (rb := rb) (jb := jb) (vb := w5.heap.size) (K := K) (M := M) (I := I) Rn.out FP.out.1 FP.out.2.1 (fV yU.out hb6) (HN.out.mod lF (by simp)) (HD.out.mod lF (by simp) (by simp)) (FP.out.2.2.1 ▸ HS.out.mod lF (by simp)) hrow
  (by intro q hq; simp at hq; omega) (by intro q hq; simp at hq ⊢; omega) (by intro q hq; simp at hq ⊢; omega) (by intro q hq; simp at hq; omega)
 have hkk := FP.out.2.2
 have hq : oo K M I db sb w5.heap.size = #[.int .i64 k, .int .i64 m, .int .i64 i, .int .i64 0, .int .i64 0, .int .i64 0, .int .i64 0, .int .i64 0, .int .i64 0, .bool false, .int .i64 0, .slice (some ⟨w5.heap.size, 0, none⟩) 1 1, .pointer (some ⟨db, 0, none⟩), .pointer none, .pointer (some ⟨sb, 0, none⟩), .int .i64 0] := by
  unfold oo; rw [hkk.1, hkk.2.1, hkk.2.2]
 rw [hq] at hF
 refine bodyPost_ret (v := .tuple #[.pointer (some ⟨w5.heap.size + 1, 0, none⟩), .nilIface]) (by simp [results, Tryz.results16, go_sem]) rfl ⟨w5.heap.size + 1, rfl, ⟨_, F, ?_, rfl, rfl, hF⟩⟩
 simp
end
section
variable {α : Type} {id : Nat} {W0 w : World} {E : Nat → Addr}
def adp {α : Type} (left : α → Nat → Nat) (a : α) (ids : List Nat) : Nat := (ids.map (left a)).sum
def Mc (l : Lit → Bool) (rem : List Nat) : Prop := ∀ x : Int, (Lit.int .i64 x).wf = true → (l (.int .i64 x) = true ↔ ∃ id ∈ rem, x = (id : Int))
theorem Mc.next {l : Lit → Bool} {rem : List Nat} (h : Mc l rem) (hn : rem.Nodup) : Mc (fun z => l z && !z.sameKey (.int .i64 (id : Int))) (rem.erase id) := fun x hx => by
 have hk : (Lit.int .i64 x).sameKey (.int .i64 (id : Int)) = decide (x = (id : Int)) := by simp [Lit.sameKey]
 show (l (.int .i64 x) && !(Lit.int .i64 x).sameKey (.int .i64 (id : Int))) = true ↔ _
 rw [hk, Bool.and_eq_true, h x hx]
 constructor
 ·rintro ⟨⟨j, hj, rfl⟩, h2⟩
  have h3 : ¬ (j : Int) = (id : Int) := by simpa using h2
  exact ⟨j, (List.mem_erase_of_ne (fun e => h3 (by rw [e]))).2 hj, rfl⟩
 ·rintro ⟨j, hj, rfl⟩
  rw [hn.mem_erase_iff] at hj
  have h3 : ¬ (j : Int) = (id : Int) := fun e => hj.1 (by omega)
  exact ⟨⟨j, hj.2, rfl⟩, by simpa using h3⟩
end
section
variable {g gl id k len' lo mx : Nat} {N N1 : Nd} {add del : List av} {C : eB} {F aI : List Nat} {a' : Pool} {t : Int}
def gP (W0 : World) (E : Nat → Addr) (H : Nat → Nat) (K M mb : Nat) (G : List Nat) (w : World) (a : Pool) (ids : List Nat) : Prop :=
 ∃ (C : eB) (F : List Nat) (len : Nat) (b : Int) (x : bI), C.mb = mb ∧ C.K = K ∧ C.M = M ∧ G = C.foot F ∧ aA W0 E H C w (C.foot F) w F ⟨a, ids, len, b, x⟩ ∧ iM a ids [] ∧ len = a.ents.length ∧ len ≤ M
def l7 (W0 : World) (E : Nat → Addr) (H : Nat → Nat) (K M mb : Nat) (G : List Nat) (w w' : World) (a' : Pool) (aI : List Nat) : Prop :=
 ∃ G', gP W0 E H K M mb G' w' a' aI ∧ (∀ q ∈ G', q ∈ G ∨ w.heap.size ≤ q) ∧ Mod G w w'
def Me (H : Nat → Nat) (K : Nat) (a : Pool) (ids : List Nat) (del add : List av) (a' : Pool) (aI : List Nat) : Prop :=
 ∃ (id : Nat) (N N1 : Nd), a.Ns[id]? = some N ∧ Wr H del add N N1 ∧ P7 H K { a with Ns := a.Ns.set id N1 } ids id a' aI ∧ rZ del add a.ents a'.ents ∧ a'.ents.Perm ((a.Ns.set id N1).flatMap Nd.ents)
theorem aac {H : Nat → Nat} {a : Pool} (hN : a.Ns[id]? = some N) (hw : Wr H del add N N1) : rZ del add a.ents ((a.Ns.set id N1).flatMap Nd.ents) := by
 obtain ⟨B, B', b1, b2⟩ := qF (N' := N1) hN
 unfold Pool.ents
 rw [b1, b2]
 exact hw.FB.wrap B B'
section
variable {W0 : World} {E : Nat → Addr} {H : Nat → Nat} {K M mb : Nat} {G : List Nat} {w w' : World} {a : Pool} {ids : List Nat}
theorem l7.of {A' : cK} {v' : Value} {F' : List Nat} {b' : Int} {x' : bI} (h1 : C.mb = mb) (h2 : C.K = K) (h3 : C.M = M) (hc : aA W0 E H { C with A := A', v := v' } w (C.foot F) w' F' ⟨a', aI, len', b', x'⟩) (hi : iM a' aI []) (hl : len' = a'.ents.length) (hm : len' ≤ M) : l7 W0 E H K M mb (C.foot F) w w' a' aI :=
 ⟨({ C with A := A', v := v' } : eB).foot F', ⟨{ C with A := A', v := v' }, F', len', b', x', h1, h2, h3, rfl, hc.again, hi, hl, hm⟩, hc.sub, hc.mod⟩
theorem xO {len : Nat} {b : Int} {x : bI} (h1 : C.mb = mb) (h2 : C.K = K) (h3 : C.M = M) (hl : len = a.ents.length) (hl' : len' + del.length = len + add.length) (hm : len' ≤ M) (h : wO W0 E H C w (C.foot F) ⟨a, ids, len, b, x⟩ id del add len' w') :
  ∃ a' aI, Me H K a ids del add a' aI ∧ l7 W0 E H K M mb (C.foot F) w w' a' aI := by
 obtain ⟨N, N1, x1, hN, hw, _, A', v', F', a', aI, b', x', u, k1, k2, k3, k4, _⟩ := h
 have hch := aac hN hw
 have aad : rZ del add a.ents a'.ents := hch.perm (.refl _) k3
 have hlen := aad.len
 exact ⟨a', aI, ⟨id, N, N1, hN, hw, h2 ▸ k1, aad, k3⟩, l7.of h1 h2 h3 k4 k2 (by show len' = _; omega) hm⟩
theorem aae (h : gP W0 E H K M mb G w a ids) (e : av) (he : j6 H e) : Calls Tryz.prog 21 #[aZ mb, .int .u64 (e.key : Int), .int .u64 (e.val : Int), .int .u64 (e.hash : Int)] w fun y w' =>
  (look a.ents e.key = none ∧ M ≤ a.ents.length ∧ y = .returned (kW E 2) ∧ l7 W0 E H K M mb G w w' a ids) ∨
  (∃ a' aI, look a.ents e.key = none ∧ a.ents.length < M ∧ y = .returned .nilIface ∧ Me H K a ids [] [e] a' aI ∧ l7 W0 E H K M mb G w w' a' aI) ∨
  (∃ a' aI e0, look a.ents e.key = some e0 ∧ y = .returned .nilIface ∧ Me H K a ids [e0] [{ e0 with val := e.val }] a' aI ∧ l7 W0 E H K M mb G w w' a' aI) := by
 obtain ⟨C, F, len, b, x, h1, h2, h3, rfl, hC, hi, hl, hm⟩ := h
 rw [← h1]
 cases hlk : look a.ents e.key with
 | some e0 =>
  obtain ⟨m1, m2⟩ := zM hlk
  refine (GI hC hi e he e0 m1 m2).mono ?_
  rintro y w' ⟨rfl, id, hp⟩
  obtain ⟨a', aI, k1, k2⟩ := xO h1 h2 h3 hl (by simp) hm hp
  exact .inr (.inr ⟨a', aI, e0, rfl, rfl, k1, h1 ▸ k2⟩)
 | none =>
  have hno : ∀ y ∈ a.ents, y.key ≠ e.key := fun y hy hk => by
   unfold look at hlk
   rw [List.find?_eq_none] at hlk
   exact hlk y hy (by simpa using hk)
  by_cases hlt : len < C.M
  ·refine (L9 hC hi e he hno hlt hl).mono ?_
   rintro y w' ⟨rfl, id, hp⟩
   obtain ⟨a', aI, k1, k2⟩ := xO h1 h2 h3 hl (by simp) (by show len + 1 ≤ M; omega) hp
   exact .inr (.inl ⟨a', aI, rfl, by omega, rfl, k1, h1 ▸ k2⟩)
  ·refine (JC hC hi e he hno hlt).mono ?_
   rintro y w' ⟨rfl, x', hc, _⟩
   exact .inl ⟨rfl, by omega, rfl, h1 ▸ l7.of (A' := C.A) (v' := C.v) h1 h2 h3 hc hi hl hm⟩
theorem Sq (h : gP W0 E H K M mb G w a ids) (key : Nat) (h64 : H key < 18446744073709551616) : Calls Tryz.prog 27 #[aZ mb, .int .u64 (key : Int), .int .u64 (H key : Int)] w fun y w' =>
  ∃ a' aI, y = .returned (.tuple #[.int .u64 (((look a.ents key).getD ⟨0, 0, 0⟩).val : Int), .bool (look a.ents key).isSome]) ∧ Me H K a ids (look a.ents key).toList [] a' aI ∧ l7 W0 E H K M mb G w w' a' aI := by
 obtain ⟨C, F, len, b, x, h1, h2, h3, rfl, hC, hi, hl, hm⟩ := h
 have hM := hC.mm.2
 rw [← h1]
 cases hlk : look a.ents key with
 | some e0 =>
  obtain ⟨m1, m2⟩ := zM hlk
  have hpos : 1 ≤ len := by rw [hl]; exact List.length_pos_of_mem m1
  refine (Ng hC hi key h64 e0 m1 m2 ⟨hpos, by show len ≤ 192; omega⟩).mono ?_
  rintro y w' ⟨rfl, id, hp⟩
  obtain ⟨a', aI, k1, k2⟩ := xO h1 h2 h3 hl (by show len - 1 + 1 = len + 0; omega) (by show len - 1 ≤ M; omega) hp
  exact ⟨a', aI, rfl, k1, h1 ▸ k2⟩
 | none =>
  have hno : ∀ y ∈ a.ents, y.key ≠ key := fun y hy hk => by
   unfold look at hlk
   rw [List.find?_eq_none] at hlk
   exact hlk y hy (by simpa using hk)
  refine (Es hC hi key h64 hno).mono ?_
  rintro y w' ⟨rfl, id, hp⟩
  obtain ⟨a', aI, k1, k2⟩ := xO h1 h2 h3 hl (by simp) hm hp
  exact ⟨a', aI, rfl, k1, h1 ▸ k2⟩
theorem aaf (h : gP W0 E H K M mb G w a ids) : Calls Tryz.prog 30 #[aZ mb] w fun e w' => e = .returned (.int .i64 (a.ents.length : Int)) ∧ w = w' := by
 obtain ⟨C, F, len, b, x, h1, h2, h3, rfl, hC, hi, hl, hm⟩ := h
 rw [← h1, ← hl]
 exact Vx hC
theorem VF (h : gP W0 E H K M mb G w a ids) : Calls Tryz.prog 31 #[aZ mb] w fun e w' => e = .returned (.int .i64 (a.Ns.length : Int)) ∧ w = w' := by
 obtain ⟨C, F, len, b, x, h1, h2, h3, rfl, hC, hi, hl, hm⟩ := h
 rw [← h1]
 exact PW hC
theorem gP.mod {S : List Nat} (h : gP W0 E H K M mb G w a ids) (hm : Mod S w w') (hS : ∀ q ∈ S, q ∉ G ∧ W0.heap.size ≤ q) : gP W0 E H K M mb G w' a ids := by
 obtain ⟨C, F, len, b, x, h1, h2, h3, rfl, hC, hi, hl, hm'⟩ := h
 have hd : ∀ q ∈ S, q ≠ C.mb ∧ q ∉ C.s.blocks ∧ q ∉ F ∧ C.v.ownBlock ≠ some q := fun q hq => by
  have := (hS q hq).1
  rw [aW] at this
  simp only [not_or] at this
  exact this
 refine ⟨C, F, len, b, x, h1, h2, h3, rfl, ⟨bB.start (hC.aB.aB.mod hm (fun q hq dI => (hd q dI).2.1 hq)) (hC.hp.yg hC.aB.pool hm (fun q hq dI => (hd q dI).2.2.1 hq)) (hC.aB.met.mod hm (fun hq => (hd _ hq).1 rfl)) (hC.aB.env.mod hm (fun q hq => (hS q hq).2)) hC.aB.apart hC.aB.rF, fH hC.row hm (fun k hk FT => (hd k FT).2.2.2 hk), hC.za, hC.pos, hC.kk, hC.mm, ?_, fun q hq => .inl hq, Mod.refl _ _⟩, hi, hl, hm'⟩
 have := hC.aB.env.size
 have := hm.size
 omega
theorem gP.below (h : gP W0 E H K M mb G w a ids) (hb : Below w.heap.size w w') : gP W0 E H K M mb G w' a ids := h.mod (Mod.of_below hb []) (by simp)
theorem gP.facts (h : gP W0 E H K M mb G w a ids) : iM a ids [] ∧ a.d ≤ 5 ∧ a.Ns.length ≤ 32 ∧ 1 ≤ a.Ns.length ∧ a.Ns.length ≤ 2 ^ a.d ∧ (∀ (i : Nat) (N : Nd), a.Ns[i]? = some N → dO H N) ∧ a.ents.length ≤ M ∧ M ≤ 192 ∧ (1 ≤ K ∧ K ≤ 64) ∧ (a.ents.map av.key).Nodup ∧ (∀ q ∈ G, q < w.heap.size ∧ W0.heap.size ≤ q) ∧ Env W0 E w := by
 obtain ⟨C, F, len, b, x, h1, h2, h3, rfl, hC, hi, hl, hm⟩ := h
 obtain ⟨b1, b2, b3, b4⟩ := hC.bounds
 have h4 := hC.mm
 have h5 := hC.kk
 exact ⟨hi, b1, b2, hC.pos, hi.dir.nodes, b4, by omega, by omega, by omega, P9 hi.dir b1 b4, fun q hq => ⟨hC.fQ q hq, hC.Vv q hq⟩, hC.aB.env⟩
theorem aag {H : Nat → Nat} (h : NewAt W0 E H K M w mb w') : l7 W0 E H K M mb [] w w' kg [] := by
 obtain ⟨C, F, h1, h2, h3, hC⟩ := h
 exact ⟨_, ⟨C, F, 0, 0, xY, h1, h2, h3, rfl, hC.again, inv0, by rw [CJ]; rfl, Nat.zero_le _⟩, hC.sub, hC.mod⟩
end
def GB (mx : Nat) (a : Pool) : Prop := ∀ (i : Nat) (N : Nd), a.Ns[i]? = some N → N.len ≤ mx ∧ N.each ≤ mx ∧ N.groups ≤ 2 * mx
theorem GB.more {mx' : Nat} {a : Pool} (h : GB mx a) (hm : mx ≤ mx') : GB mx' a := fun i N hN => by
 have := h i N hN; omega
end
section
variable {es l : List av} {e : av} {key : Nat}
def kU (a : Pool) : List Nat := a.Ns.map fun N => kI N.pfx N.au
theorem uw {h d p : Nat} : dP h d = p ↔ mI p d ≤ h ∧ h ≤ kI p d := by
 unfold dP mI kI
 have := pos2 (64 - d)
 rw [um]
 omega
theorem Nh {f : av} {l' : List av} {o : Option av} (h : eT f l o) (h1 : ∀ e ∈ l', bg e f = false → e ∈ l) (h2 : ∀ e ∈ l, e ∈ l') : eT f l' o := by
 cases o with
 | none =>
  intro e he
  cases hl : bg e f with
  | true => rfl
  | false => exact absurd (h e (h1 e he hl)) (by rw [hl]; simp)
 | some m => exact ⟨h2 m h.1, h.2.1, fun e he hl => h.2.2 e (h1 e he hl) hl⟩
theorem I4 {hash : Nat} (h : bg e ⟨key, 0, hash⟩ = false) : hash ≤ e.hash := by
 simp [bg] at h; omega
def upto (es : List av) (hi : Nat) : List av := es.filter fun e => decide (e.hash ≤ hi)
theorem jd {hi : Nat} : e ∈ upto es hi ↔ e ∈ es ∧ e.hash ≤ hi := by unfold upto; simp
def rest (es : List av) (key : Nat) : List av := es.filter fun x => x.key != key
theorem Mf : e ∈ rest es key ↔ e ∈ es ∧ e.key ≠ key := by unfold rest; simp
theorem I5 (h : look es key = none) : rest es key = es := by
 unfold look at h
 rw [List.find?_eq_none] at h
 exact List.filter_eq_self.2 fun x hx => by simpa using h x hx
theorem Sr (key : Nat) (h : es.Perm l) : (rest es key).Perm (rest l key) := h.filter _
theorem I6 {r : List av} (hn : (es.map av.key).Nodup) (h : es.Perm (e :: r)) : (rest es e.key).Perm r := by
 have h1 := Sr e.key h
 have h2 := (h.map av.key).nodup_iff.1 hn
 rw [List.map_cons, List.nodup_cons] at h2
 have h3 : rest (e :: r) e.key = r := by
  unfold rest
  rw [List.filter_cons, if_neg (by simp)]
  exact List.filter_eq_self.2 fun x hx => by
   have : x.key ≠ e.key := fun hh => h2.1 (by rw [← hh]; exact List.mem_map_of_mem hx)
   simpa using this
 rw [h3] at h1
 exact h1
def vg (M : Nat) (es : List av) (key : Nat) : Bool := (look es key).isNone && decide (M ≤ es.length)
def rM (M : Nat) (es : List av) (key : Nat) : Nat := if vg M es key then 2 else 0
def GJ (M : Nat) (es : List av) (e : av) : List av := if vg M es e.key then es else rest es e.key ++ [e]
def aah (es : List av) (key : Nat) : Value := .tuple #[.int .u64 (((look es key).getD ⟨0, 0, 0⟩).val : Int), .bool (look es key).isSome]
section
variable {W0 : World} {E : Nat → Addr} {H : Nat → Nat} {K M mb : Nat} {G : List Nat} {w w' : World} {a : Pool} {ids : List Nat}
theorem aai (h : gP W0 E H K M mb G w a ids) (key : Nat) (h64 : H key < 18446744073709551616) : Calls Tryz.prog 27 #[aZ mb, .int .u64 (key : Int), .int .u64 (H key : Int)] w fun y w' =>
  y = .returned (aah a.ents key) ∧ ∃ a' aI, l7 W0 E H K M mb G w w' a' aI ∧ a'.ents.Perm (rest a.ents key) := by
 obtain ⟨_, _, _, _, _, _, _, _, _, f10, _⟩ := h.facts
 refine (Sq h key h64).mono ?_
 rintro y w' ⟨a', aI, rfl, hw, hto⟩
 obtain ⟨_, _, _, _, _, _, ⟨r, hr1, hr2⟩, _⟩ := hw
 refine ⟨rfl, a', aI, hto, ?_⟩
 cases hl : look a.ents key with
 | none =>
  rw [hl] at hr1
  rw [I5 hl]
  exact hr2.trans hr1.symm
 | some e0 =>
  rw [hl] at hr1
  have h3 := I6 f10 hr1
  rw [(zM hl).2] at h3
  exact hr2.trans h3.symm
end
end
end Go.Proofs.YtfojgfddgplinabGreatDoor
