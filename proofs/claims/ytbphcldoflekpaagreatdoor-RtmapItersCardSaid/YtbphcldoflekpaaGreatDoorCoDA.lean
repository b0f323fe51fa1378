/- A new core; a core's Groups; a plan's Groups. -/
import Derived.Test.YtbphcldoflekpaaGreatDoorCoCP
import Derived.Test.YtbphcldoflekpaaGreatDoorLaneP
import Derived.Test.YtbphcldoflekpaaGreatDoorSqT
import Derived.Test.YtbphcldoflekpaaGreatDoorCoBO
namespace Go.Proofs.YtbphcldoflekpaaGreatDoor
set_option maxRecDepth 100000
set_option maxHeartbeats 4000000
open Go.RowKit dA Go.Maps
section
variable {W0 w : World} {E : Nat → Addr} {N : Nd} {H : Nat → Nat}
def nd0 : Nd := ⟨0, 0, 0, 0, dN 1 1, .idle⟩
def jB : Pool := ⟨[nd0], 0, [0], none⟩
theorem aao (H : Nat → Nat) : dL H nd0 := by
 obtain ⟨h1, h2, h3⟩ := Ci (n := 1) (.inl rfl)
 have hE : nd0.ents = [] := by unfold Nd.ents nd0; rw [h2]; rfl
 refine ⟨h1, Nat.zero_le _, .inl rfl, by decide, Nat.zero_le _, by rw [hE]; exact List.nodup_nil, fun e he => (by rw [hE] at he; cases he), by rw [hE]; exact Nat.zero_le _, rfl, ?_⟩
 show load (dN 1 1) ≤ _
 rw [h3]; exact Nat.zero_le _
theorem zN : jB.ents = [] := by
 obtain ⟨h1, h2, h3⟩ := Ci (n := 1) (.inl rfl)
 have hE : nd0.ents = [] := by unfold Nd.ents nd0; rw [h2]; rfl
 unfold Pool.ents jB
 simp [hE]
theorem inv0 : jJ jB [] [] := by
 have hget : ∀ (i : Nat) (N : Nd), jB.Ns[i]? = some N → i = 0 ∧ N = nd0 := fun i N hN => by
  have h1 : i < 1 := bA hN
  obtain rfl : i = 0 := by omega
  exact ⟨rfl, (Option.some.inj hN).symm⟩
 refine ⟨⟨fun i N hN => ?_, fun j hj => ?_, fun i N j hN hj hp => ?_, rfl, fun i N hN hb => ?_, fun c hc => by cases hc⟩, fun id => ?_, List.nodup_nil, List.nodup_nil, fun i hi => (by cases hi), fun i hi => (by cases hi), fun i hi => (by cases hi), fun i N hN _ => ?_⟩
 ·obtain ⟨_, rfl⟩ := hget i N hN; exact ⟨Nat.le_refl _, by decide⟩
 ·have h1 : j < 1 := hj
  obtain rfl : j = 0 := by omega
  exact ⟨nd0, rfl, rfl⟩
 ·obtain ⟨rfl, rfl⟩ := hget i N hN
  have h1 : j < 1 := hj
  obtain rfl : j = 0 := by omega
  rfl
 ·obtain ⟨_, rfl⟩ := hget i N hN; cases hb
 ·constructor
  ·rintro (⟨N, h1, h2⟩ | ⟨_, _, c, h3⟩)
   ·obtain ⟨_, rfl⟩ := hget id N h1; cases h2
   ·cases h3
  ·rintro (h | h) <;> cases h
 ·obtain ⟨_, rfl⟩ := hget i N hN; rfl
def nO (K M I db sb vb : Nat) : Array Value := #[nI K, nI M, nI I, .int .i64 0, .int .i64 0, .int .i64 0, .int .i64 0, .int .i64 0, .int .i64 0, .bool false, .int .i64 0, .slice (some ⟨vb, 0, none⟩) 1 1, pQ db, .pointer none, pQ sb, .int .i64 0]
def st0 : kr := ⟨jB, [], 0, 0, xU⟩
def wE (nb db eb : Nat) : dw := ⟨fun _ => nb, db, eb, 0, 0, 0⟩
theorem aA.fresh (H : Nat → Nat) {w5 : World} {nb tb gb db eb sb qb rb jb vb K M I : Nat} (hE : Env W0 E w) (hK : 1 ≤ K ∧ K ≤ 64) (hM : 1 ≤ M ∧ M ≤ 192) (hb : Below w.heap.size w w5) (hN : bJ w5 nb [nb, tb, gb] nd0) (hD : dh w5 db eb 0 [0]) (hS : dS w5 sb qb rb jb (K : Int) 0 (wE nb db eb).val []) (hR : w5.ownsRow W0.heap.size 91 1 (.slice (some ⟨vb, 0, none⟩) 1 1) 1 [pQ nb]) (hlow : ∀ q ∈ [nb, tb, gb, db, eb, sb, qb, rb, jb, vb], w.heap.size ≤ q) (hap : ∀ q ∈ [nb, tb, gb], q ∉ [db, eb, sb, qb, rb, jb, vb]) (aap : ∀ q ∈ [db, eb], q ∉ [sb, qb, rb, jb, vb]) (abP : ∀ q ∈ [sb, qb, rb, jb], q ≠ vb) :
  ∃ F, aA W0 E H ⟨w5.heap.size, sb, qb, rb, jb, wE nb db eb, .slice (some ⟨vb, 0, none⟩) 1 1, K, M, I, 0⟩ w [] (w5.alloc (.cells (nO K M I db sb vb) 103)) F st0 := by
 have hb6 : Below w5.heap.size w5 (w5.alloc (.cells (nO K M I db sb vb) 103)) := (Below.refl _ _).alloc (Nat.le_refl _) _
 have jW := Mod.of_below hb6 []
 have hz := hb.size
 have hzW := hE.size
 have hvl := (hR.lt vb rfl).2
 have hNl := hN.iF
 have hSl := hS.lt
 have aa9 : ∀ (i : Nat) (N : Nd), [nd0][i]? = some N → i = 0 ∧ N = nd0 := fun i N hh => by
  have h1 : i < 1 := bA hh
  obtain rfl : i = 0 := by omega
  exact ⟨rfl, (Option.some.inj hh).symm⟩
 have hfp : ∀ q, q ∈ gL (wE nb db eb) (fun _ => [nb, tb, gb]) jB ↔ q ∈ [nb, tb, gb, db, eb] := fun q => by
  rw [aP]
  constructor
  ·rintro (⟨i, _, hq⟩ | hq)
   ·simp at hq ⊢; omega
   ·unfold dw.dU wE jB at hq; simp at hq ⊢; omega
  ·intro hq
   by_cases h1 : q ∈ [nb, tb, gb]
   ·exact .inl ⟨0, by decide, h1⟩
   ·refine .inr ?_
    unfold dw.dU wE jB
    simp at hq h1 ⊢; omega
 have abb : iM W0 w5.heap.size H (wE nb db eb) (w5.alloc (.cells (nO K M I db sb vb) 103)) (fun _ => [nb, tb, gb]) jB := by
  refine ⟨fun i N hi => ?_, hD.mod jW (by simp) (by simp), fun next lf hc => (by cases hc), fun i j hi hj hij => ?_, fun i hi q hq hq2 => ?_, fun q hq => ?_, fun hq => ?_, by decide⟩
  ·obtain ⟨_, rfl⟩ := aa9 i N hi
   exact ⟨hN.mod jW (by simp), aao H⟩
  ·have h1 : i < 1 := hi
   have h2 : j < 1 := hj
   omega
  ·unfold dw.dU wE jB at hq2
   exact hap q hq (by simp at hq2 ⊢; omega)
  ·have h1 := (hfp q).1 hq
   have := hlow q (by simp at h1 ⊢; omega)
   omega
  ·have h1 := (hfp _).1 hq
   simp at h1
   have h2 := hD.lt
   have h3 := hD.IB
   have h4 := hNl nb (by simp)
   have h5 := hNl tb (by simp)
   have h6 := hNl gb (by simp)
   omega
 have hmet : aN (w5.alloc (.cells (nO K M I db sb vb) 103)) (cmp ⟨w5.heap.size, sb, qb, rb, jb, wE nb db eb, .slice (some ⟨vb, 0, none⟩) 1 1, K, M, I, 0⟩ st0) xU := ⟨rfl, aj.new w5 103 (nO K M I db sb vb)⟩
 have hsb : ∀ q ∈ [sb, qb, rb, jb], q < w5.heap.size := hSl
 refine ⟨gL (wE nb db eb) (fun _ => [nb, tb, gb]) jB, bG.start (hS.mod jW (by simp)) ⟨_, rfl, abb⟩ hmet (hE.mod ((Mod.of_below hb []).then jW) (by simp)) (fun q hq => ⟨fun hqF => ?_, ?_, ?_⟩) (by show W0.heap.size ≤ w5.heap.size; omega), hR.alloc _, fun g hg hq => ?_, by decide, hK, hM, hzW, fun q hq => ?_, (Mod.of_below hb []).then jW⟩
 ·have hq' : q ∈ [sb, qb, rb, jb] := hq
  have h1 := (hfp q).1 hqF
  by_cases h2 : q ∈ [nb, tb, gb]
  ·exact hap q h2 (by simp at hq' ⊢; omega)
  ·exact aap q (by simp at h1 h2 ⊢; omega) (by simp at hq' ⊢; omega)
 ·have := hsb q hq
  show q ≠ w5.heap.size
  omega
 ·have hq' : q ∈ [sb, qb, rb, jb] := hq
  have := hlow q (by simp at hq' ⊢; omega)
  omega
 ·have hg' : g = vb := by simpa [nI, nU] using (Option.some.inj hg).symm
  subst hg'
  have hq' : g = w5.heap.size ∨ g ∈ [sb, qb, rb, jb] ∨ g ∈ gL (wE nb db eb) (fun _ => [nb, tb, gb]) jB := by
   rcases List.mem_cons.1 hq with h3 | h3
   ·exact .inl h3
   ·exact .inr (List.mem_append.1 h3)
  rcases hq' with h1 | h1 | h1
  ·omega
  ·exact abP g h1 rfl
  ·have h2 := (hfp g).1 h1
   by_cases h3 : g ∈ [nb, tb, gb]
   ·exact hap g h3 (by simp)
   ·exact aap g (by simp at h2 h3 ⊢; omega) (by simp)
 ·right
  rcases aZ.1 hq with h1 | h1 | h1 | h1
  ·have h2 : q = w5.heap.size := h1
   omega
  ·have h2 : q ∈ [sb, qb, rb, jb] := h1
   exact hlow q (by simp at h2 ⊢; omega)
  ·have h2 := (hfp q).1 h1
   exact hlow q (by simp at h2 ⊢; omega)
  ·have h2 : q = vb := by simpa [nI, nU] using (Option.some.inj h1).symm
   exact hlow q (by simp [h2])
def rW (Ns : List Nd) (i : Nat) : Nat := ((Ns.take i).map Nd.groups).sum
theorem JQ {Ns : List Nd} {i : Nat} (h : Ns[i]? = some N) : rW Ns (i + 1) = rW Ns i + N.groups := by
 unfold rW
 rw [List.take_add_one, h]
 simp
theorem Ja (h : dL H N) : N.groups ≤ 192 := by
 have h1 := h.pw.le
 have bQ := h.ph
 unfold jY at bQ
 unfold Nd.groups
 cases hp : N.ph with
 | idle => simp [Phase.busy]; omega
 | lN k =>
  rw [hp] at bQ
  have := fF h.pw bQ.1
  simp [Phase.busy]; omega
 | iI Ts next =>
  rw [hp] at bQ
  have := fF h.pw bQ.1
  simp [Phase.busy]; omega
theorem NA {C : gV} {w0 : World} {G0 : List Nat} {F : List Nat} {st : kr} (h : aA W0 E H C w0 G0 w F st) : Calls Tryz.prog 34 #[aU C.mb] w fun e w' => e = .returned (nI st.a.groups) ∧ w = w' := by
 obtain ⟨b1, b2, b3, b4⟩ := h.bounds
 have HC := qd h
 obtain ⟨c0, c1, c11, c12, c13, c14, c15⟩ := HC.out.cells
 obtain ⟨vb, cap, hv, hr⟩ := h.rowAt
 rw [hv] at c11
 obtain ⟨Fs, hF, hp⟩ := h.aC.pool
 have HR := qd hr
 have HP := qd hp
 have OO := qd b4
 obtain ⟨Ns, hNs⟩ : ∃ Ns, Ns = st.a.Ns := ⟨_, rfl⟩
 have Aj := qd hNs
 obtain ⟨n, hn⟩ : ∃ n, n = st.a.Ns.length := ⟨_, rfl⟩
 have hn32 : n ≤ 32 := by omega
 have R9 := qd hn
 rw [← hn] at c11
 clear h hv hr hp hF b1 b2 b3 b4 hNs hn
 unfold aU
 go_in
 go_wp2
 go_loopw [3, 5, 11] (fun v3 _ v11 wr => ∃ (i s : Nat), i ≤ n ∧ s ≤ 192 * i ∧ v11 = nI i ∧ v3 = nI s ∧ Hid (s = rW st.a.Ns i) ∧ wr = w) (fun _ _ v11 _ => n - (intOf v11).toNat)
 case atStart => exact ⟨0, 0, by omega, by omega, rfl, rfl, qd rfl, rfl⟩
 case round =>
  obtain ⟨i, s, hi, hs, rfl, rfl, HS, rfl⟩ := hrel
  by_cases hlt : i < n
  ·have hlt' : (i : Int) < (n : Int) := by omega
   have hi0 : (0 : Int) ≤ (i : Int) := by omega
   obtain ⟨N, hN⟩ : ∃ N, st.a.Ns[i]? = some N := ⟨_, List.getElem?_eq_getElem (by have := R9.out; omega)⟩
   obtain ⟨hA, hO⟩ := HP.out.ko i N hN
   have cr := HR.out i (bA hN)
   have HG := qd (SH hA hO)
   have hgl := Ja hO
   obtain ⟨gr, hgr⟩ : ∃ gr, gr = N.groups := ⟨_, rfl⟩
   rw [← hgr] at HG hgl
   have dD := qd (show s + gr = rW st.a.Ns (i + 1) from by rw [JQ hN, ← HS.out, hgr])
   unfold aK at HG
   clear hN hA hO hgr
   go_wp2_with fail
   refine HG.out.mono ?_
   rintro x w1 ⟨rfl, rfl⟩
   go_wp2
   go_roundw
   case rel => exact ⟨i + 1, s + gr, by omega, by omega, by go_num, by first | go_num | (simp; omega), dD, by trivial⟩
   case measure => simp [intOf]; omega
  ·obtain rfl : i = n := by omega
   have hlt' : ¬ (i : Int) < (i : Int) := by omega
   have HF := qd (show s = st.a.groups from by rw [HS.out, R9.out]; unfold rW Pool.groups; rw [List.take_length])
   go_wp2
   go_ret
   rw [← HF.out]
   exact ⟨rfl, rfl⟩
end
section
variable {W0 w : World} {E : Nat → Addr}
def NewAt (W0 : World) (E : Nat → Addr) (H : Nat → Nat) (K M : Nat) (w : World) (mb : Nat) (w' : World) : Prop := ∃ (C : gV) (F : List Nat), C.mb = mb ∧ C.K = K ∧ C.M = M ∧ aA W0 E H C w [] w' F st0
theorem Mr (hE : Env W0 E w) (k m i : Int) (hcf : nk k m i = false) : Calls Tryz.prog 19 #[iB k m i] w fun e w' => e = .returned (.tuple #[.pointer none, kT E 1]) ∧ Below w.heap.size w w' := by
 have KR := qd hE
 have hB0 := aj.new w 23 #[.int .i64 k, .int .i64 m, .int .i64 i]
 have hb0 := (Below.refl w.heap.size w).alloc (Nat.le_refl _) (.cells #[.int .i64 k, .int .i64 m, .int .i64 i] 23)
 unfold iB
 go_in
 go_upto_region 1 with fail
 refine cO (F := fun v => aj v w.heap.size 23 #[.int .i64 k, .int .i64 m, .int .i64 i] ∧ Below w.heap.size w v) ⟨hB0, hb0⟩ ?_
 clear hB0 hb0
 rintro w1 ⟨hB1, hb1⟩
 obtain ⟨bx, hbx⟩ : ∃ bx, bx = w.heap.size := ⟨_, rfl⟩
 rw [← hbx] at hB1 ⊢
 have lX := qd hbx
 have HB := qd hB1
 have nY := qd (hE.mod (Mod.of_below hb1 []) (by simp))
 have sW := qd hb1
 obtain ⟨k0, k1, k2⟩ := hB1.c3
 have BN := qd (zG k m i w1 nY.out.errs)
 rw [hcf] at BN
 simp only [Bool.false_eq_true, if_false] at BN
 rw [jd E (by omega)] at BN
 unfold iB at BN
 clear hB1 hb1 hbx hE
 go_wp2_with fail
 refine BN.out.mono ?_
 rintro y w2 ⟨rfl, hb2⟩
 go_wp2
 refine bodyPost_ret (v := .tuple #[.pointer none, .iface 286 (.pointer (some (E 1)))]) (by simp [results, Tryz.results19, go_sem]) rfl ⟨?_, iZ sW.out hb2⟩
 rw [jd E (by omega)]
theorem Ms (H : Nat → Nat) (hE : Env W0 E w) (k m i : Int) (hcf : nk k m i = true) (K M I : Nat) (hkm : (1 ≤ K ∧ K ≤ 64) ∧ (1 ≤ M ∧ M ≤ 192) ∧ k = (K : Int) ∧ m = (M : Int) ∧ i = (I : Int)) : Calls Tryz.prog 19 #[iB k m i] w fun e w' => ∃ mb, e = .returned (.tuple #[aU mb, .nilIface]) ∧ NewAt W0 E H K M w mb w' := by
 have FD := qd hkm
 clear hkm
 have KR := qd hE
 have hB0 := aj.new w 23 #[.int .i64 k, .int .i64 m, .int .i64 i]
 have hb0 := (Below.refl w.heap.size w).alloc (Nat.le_refl _) (.cells #[.int .i64 k, .int .i64 m, .int .i64 i] 23)
 unfold iB
 go_in
 go_upto_region 1 with fail
 refine cO (F := fun v => aj v w.heap.size 23 #[.int .i64 k, .int .i64 m, .int .i64 i] ∧ Below w.heap.size w v) ⟨hB0, hb0⟩ ?_
 clear hB0 hb0
 rintro w1 ⟨hB1, hb1⟩
 obtain ⟨bx, hbx⟩ : ∃ bx, bx = w.heap.size := ⟨_, rfl⟩
 rw [← hbx] at hB1 ⊢
 have lX := qd hbx
 have HB := qd hB1
 have nY := qd (hE.mod (Mod.of_below hb1 []) (by simp))
 have sW := qd hb1
 obtain ⟨k0, k1, k2⟩ := hB1.c3
 have BN := qd (zG k m i w1 nY.out.errs)
 rw [hcf] at BN
 simp only [if_true] at BN
 unfold iB at BN
 have hz1 := hb1.size
 have adK := HB.out.lt
 clear hB1 hb1 hE hbx
 go_wp2_with fail
 refine BN.out.mono ?_
 rintro y w2 ⟨rfl, hb2⟩
 replace HB := qB hb2 HB
 replace sW := qd (iZ sW.out hb2)
 replace nY := qB hb2 nY
 have hz2 := hb2.size
 clear hb2 BN k0 k1 k2
 go_wp2_with fail
 refine (Vy w2).mono ?_
 rintro y w3 ⟨nb, tb, gb, rfl, hn1, hn2, ⟨l1, l2, l3, l4, l5⟩, hb3⟩
 have HN := qd (show bJ w3 nb [nb, tb, gb] nd0 from ⟨tb, gb, hn1, hn2, rfl, l4, l5⟩)
 replace HB := qB hb3 HB
 replace sW := qd (iZ sW.out hb3)
 replace nY := qB hb3 nY
 have hz3 := hb3.size
 have l6 := hn2.ne
 have hnl := HN.out.iF
 have adL := hnl nb (by simp)
 have adM := hnl tb (by simp)
 have adN := hnl gb (by simp)
 clear hb3 hn1 hn2 hnl
 unfold aK
 have HDn := qd (show Calls Tryz.prog 49 #[.int .i64 0] w3 _ from Ow 0 (by omega) w3)
 unfold iA at HDn
 go_wp2_with fail
 refine HDn.out.mono ?_
 rintro y w4 ⟨rfl, hd4, hb4⟩
 have HD := qd (show dh w4 (w3.heap.size + 1) w3.heap.size 0 [0] from hd4)
 replace HN := qd (HN.out.mod (Mod.of_below hb4 []) (by simp))
 replace HB := qB hb4 HB
 replace sW := qd (iZ sW.out hb4)
 replace nY := qB hb4 nY
 have XC := hb4.size
 have abQ := HD.out.lt
 have abR := HD.out.IB
 obtain ⟨db, hdb⟩ : ∃ db, db = w3.heap.size + 1 := ⟨_, rfl⟩
 obtain ⟨eb, Ih⟩ : ∃ eb, eb = w3.heap.size := ⟨_, rfl⟩
 rw [← hdb, ← Ih] at HD
 rw [← hdb]
 rw [← hdb] at abQ
 rw [← Ih] at abR
 have tK := qd hdb
 have pR := qd Ih
 clear hb4 hd4 HDn hdb Ih
 have kk := HB.out.c3
 have dD := qd (Sz k (by have := FD.out; omega) (wE nb db eb).val w4 nY.out.errs)
 unfold eu at dD
 go_wp2_with fail
 refine dD.out.mono ?_
 rintro y w5 ⟨sb, qb, rb, jb, rfl, hs5, hsl, hb5⟩
 have HS := qd hs5
 replace HN := qd (HN.out.mod (Mod.of_below hb5 []) (by simp))
 replace HD := qB hb5 HD
 replace HB := qB hb5 HB
 replace sW := qd (iZ sW.out hb5)
 replace nY := qB hb5 nY
 have hz5 := hb5.size
 have XT := qd hsl
 clear kk hb5 hs5 dD hsl
 have kk := HB.out.c3
 go_wp2
 have hrow := World.ownsRow_lit (base := W0.heap.size) (e := 91) (size := 1) w5 #[pQ nb] 1 (by have := nY.out.size; omega) (by decide) rfl
 have hb6 : Below w5.heap.size w5 (w5.alloc (.cells #[pQ nb] 91)) := (Below.refl _ _).alloc (Nat.le_refl _) _
 have jW := Mod.of_below hb6 []
 have hsl := XT.out
 have hd1 := tK.out
 have hd2 := pR.out
 have s1 := hsl sb (by simp)
 have s2 := hsl qb (by simp)
 have s3 := hsl rb (by simp)
 have s4 := hsl jb (by simp)
 have hslt := HS.out.lt
 have t1 := hslt sb (by simp)
 have t2 := hslt qb (by simp)
 have t3 := hslt rb (by simp)
 have t4 := hslt jb (by simp)
 have adO := lX.out
 obtain ⟨F, hF⟩ := aA.fresh H (w := w) (w5 := w5.alloc (.cells #[pQ nb] 91)) (nb := nb) (tb := tb) (gb := gb) (db := db) (eb := eb) (sb := sb) (qb := qb) (rb := rb) (jb := jb) (vb := w5.heap.size) (K := K) (M := M) (I := I) KR.out FD.out.1 FD.out.2.1 (iZ sW.out hb6) (HN.out.mod jW (by simp)) (HD.out.mod jW (by simp) (by simp)) (FD.out.2.2.1 ▸ HS.out.mod jW (by simp)) hrow
  (by intro q hq; simp at hq; omega) (by intro q hq; simp at hq ⊢; omega) (by intro q hq; simp at hq ⊢; omega) (by intro q hq; simp at hq; omega)
 have hkk := FD.out.2.2
 have hq : nO K M I db sb w5.heap.size = #[.int .i64 k, .int .i64 m, .int .i64 i, .int .i64 0, .int .i64 0, .int .i64 0, .int .i64 0, .int .i64 0, .int .i64 0, .bool false, .int .i64 0, .slice (some ⟨w5.heap.size, 0, none⟩) 1 1, pQ db, .pointer none, pQ sb, .int .i64 0] := by
  unfold nO; rw [hkk.1, hkk.2.1, hkk.2.2]
 rw [hq] at hF
 refine bodyPost_ret (v := .tuple #[.pointer (some ⟨w5.heap.size + 1, 0, none⟩), .nilIface]) (by simp [results, Tryz.results19, go_sem]) rfl ⟨w5.heap.size + 1, rfl, ⟨_, F, ?_, rfl, rfl, hF⟩⟩
 simp
end
section
variable {α : Type} {id : Nat} {W0 w : World} {E : Nat → Addr}
def adP {α : Type} (left : α → Nat → Nat) (a : α) (ids : List Nat) : Nat := (ids.map (left a)).sum
def Mt (l : Lit → Bool) (rem : List Nat) : Prop := ∀ x : Int, (Lit.int .i64 x).wf = true → (l (.int .i64 x) = true ↔ ∃ id ∈ rem, x = (id : Int))
theorem Mt.next {l : Lit → Bool} {rem : List Nat} (h : Mt l rem) (hn : rem.Nodup) : Mt (fun z => l z && !z.sameKey (.int .i64 (id : Int))) (rem.erase id) := fun x hx => by
 have hk : (Lit.int .i64 x).sameKey (.int .i64 (id : Int)) = decide (x = (id : Int)) := by simp [Lit.sameKey]
 show (l (.int .i64 x) && !(Lit.int .i64 x).sameKey (.int .i64 (id : Int))) = true ↔ _
 rw [hk, Bool.and_eq_true, h x hx]
 constructor
 ·rintro ⟨⟨j, hj, rfl⟩, h2⟩
  have h3 : ¬ (j : Int) = (id : Int) := by simpa [nI, nU] using h2
  exact ⟨j, (List.mem_erase_of_ne (fun e => h3 (by rw [e]))).2 hj, rfl⟩
 ·rintro ⟨j, hj, rfl⟩
  rw [hn.mem_erase_iff] at hj
  have h3 : ¬ (j : Int) = (id : Int) := fun e => hj.1 (by omega)
  exact ⟨⟨j, hj.2, rfl⟩, by simpa [nI, nU] using h3⟩
end
section
variable {g gl id k len' lo mx : Nat} {N N1 : Nd} {add del : List av} {C : gV} {F aI : List Nat} {a' : Pool} {t : Int}
def fB (W0 : World) (E : Nat → Addr) (H : Nat → Nat) (K M mb : Nat) (G : List Nat) (w : World) (a : Pool) (ids : List Nat) : Prop :=
 ∃ (C : gV) (F : List Nat) (len : Nat) (b : Int) (x : bM), C.mb = mb ∧ C.K = K ∧ C.M = M ∧ G = C.foot F ∧ aA W0 E H C w (C.foot F) w F ⟨a, ids, len, b, x⟩ ∧ jJ a ids [] ∧ len = a.ents.length ∧ len ≤ M
def jH (W0 : World) (E : Nat → Addr) (H : Nat → Nat) (K M mb : Nat) (G : List Nat) (w w' : World) (a' : Pool) (aI : List Nat) : Prop :=
 ∃ G', fB W0 E H K M mb G' w' a' aI ∧ (∀ q ∈ G', q ∈ G ∨ w.heap.size ≤ q) ∧ Mod G w w'
def Mv (H : Nat → Nat) (K : Nat) (a : Pool) (ids : List Nat) (del add : List av) (a' : Pool) (aI : List Nat) : Prop :=
 ∃ (id : Nat) (N N1 : Nd), a.Ns[id]? = some N ∧ Wr H del add N N1 ∧ Qy H K { a with Ns := a.Ns.set id N1 } ids id a' aI ∧ rE del add a.ents a'.ents ∧ a'.ents.Perm ((a.Ns.set id N1).flatMap Nd.ents)
theorem aaq {H : Nat → Nat} {a : Pool} (hN : a.Ns[id]? = some N) (hw : Wr H del add N N1) : rE del add a.ents ((a.Ns.set id N1).flatMap Nd.ents) := by
 obtain ⟨B, B', b1, b2⟩ := qo (N' := N1) hN
 unfold Pool.ents
 rw [b1, b2]
 exact hw.Fj.wrap B B'
section
variable {W0 : World} {E : Nat → Addr} {H : Nat → Nat} {K M mb : Nat} {G : List Nat} {w w' : World} {a : Pool} {ids : List Nat}
theorem jH.of {A' : dw} {v' : Value} {F' : List Nat} {b' : Int} {x' : bM} (h1 : C.mb = mb) (h2 : C.K = K) (h3 : C.M = M) (hc : aA W0 E H { C with A := A', v := v' } w (C.foot F) w' F' ⟨a', aI, len', b', x'⟩) (hi : jJ a' aI []) (hl : len' = a'.ents.length) (hm : len' ≤ M) : jH W0 E H K M mb (C.foot F) w w' a' aI :=
 ⟨({ C with A := A', v := v' } : gV).foot F', ⟨{ C with A := A', v := v' }, F', len', b', x', h1, h2, h3, rfl, hc.again, hi, hl, hm⟩, hc.sub, hc.mod⟩
theorem xG {len : Nat} {b : Int} {x : bM} (h1 : C.mb = mb) (h2 : C.K = K) (h3 : C.M = M) (hl : len = a.ents.length) (hl' : len' + del.length = len + add.length) (hm : len' ≤ M) (h : wC W0 E H C w (C.foot F) ⟨a, ids, len, b, x⟩ id del add len' w') :
  ∃ a' aI, Mv H K a ids del add a' aI ∧ jH W0 E H K M mb (C.foot F) w w' a' aI := by
 obtain ⟨N, N1, x1, hN, hw, _, A', v', F', a', aI, b', x', u, k1, k2, k3, k4, _⟩ := h
 have hch := aaq hN hw
 have aar : rE del add a.ents a'.ents := hch.perm (.refl _) k3
 have hlen := aar.len
 exact ⟨a', aI, ⟨id, N, N1, hN, hw, h2 ▸ k1, aar, k3⟩, jH.of h1 h2 h3 k4 k2 (by show len' = _; omega) hm⟩
theorem aas (h : fB W0 E H K M mb G w a ids) (e : av) (he : j5 H e) : Calls Tryz.prog 24 #[aU mb, nU e.key, nU e.val, nU e.hash] w fun y w' =>
  (look a.ents e.key = none ∧ M ≤ a.ents.length ∧ y = .returned (kT E 2) ∧ jH W0 E H K M mb G w w' a ids) ∨
  (∃ a' aI, look a.ents e.key = none ∧ a.ents.length < M ∧ y = .returned .nilIface ∧ Mv H K a ids [] [e] a' aI ∧ jH W0 E H K M mb G w w' a' aI) ∨
  (∃ a' aI e0, look a.ents e.key = some e0 ∧ y = .returned .nilIface ∧ Mv H K a ids [e0] [{ e0 with val := e.val }] a' aI ∧ jH W0 E H K M mb G w w' a' aI) := by
 obtain ⟨C, F, len, b, x, h1, h2, h3, rfl, hC, hi, hl, hm⟩ := h
 rw [← h1]
 cases hlk : look a.ents e.key with
 | some e0 =>
  obtain ⟨m1, m2⟩ := vQ hlk
  refine (Gz hC hi e he e0 m1 m2).mono ?_
  rintro y w' ⟨rfl, id, hp⟩
  obtain ⟨a', aI, k1, k2⟩ := xG h1 h2 h3 hl (by simp) hm hp
  exact .inr (.inr ⟨a', aI, e0, rfl, rfl, k1, h1 ▸ k2⟩)
 | none =>
  have hno : ∀ y ∈ a.ents, y.key ≠ e.key := fun y hy hk => by
   unfold look at hlk
   rw [List.find?_eq_none] at hlk
   exact hlk y hy (by simpa [nI, nU] using hk)
  by_cases hlt : len < C.M
  ·refine (Ml hC hi e he hno hlt hl).mono ?_
   rintro y w' ⟨rfl, id, hp⟩
   obtain ⟨a', aI, k1, k2⟩ := xG h1 h2 h3 hl (by simp) (by show len + 1 ≤ M; omega) hp
   exact .inr (.inl ⟨a', aI, rfl, by omega, rfl, k1, h1 ▸ k2⟩)
  ·refine (JO hC hi e he hno hlt).mono ?_
   rintro y w' ⟨rfl, x', hc, _⟩
   exact .inl ⟨rfl, by omega, rfl, h1 ▸ jH.of (A' := C.A) (v' := C.v) h1 h2 h3 hc hi hl hm⟩
theorem Tj (h : fB W0 E H K M mb G w a ids) (key : Nat) (h64 : H key < 18446744073709551616) : Calls Tryz.prog 30 #[aU mb, nU key, .int .u64 (H key : Int)] w fun y w' =>
  ∃ a' aI, y = .returned (.tuple #[.int .u64 (((look a.ents key).getD ⟨0, 0, 0⟩).val : Int), .bool (look a.ents key).isSome]) ∧ Mv H K a ids (look a.ents key).toList [] a' aI ∧ jH W0 E H K M mb G w w' a' aI := by
 obtain ⟨C, F, len, b, x, h1, h2, h3, rfl, hC, hi, hl, hm⟩ := h
 have hM := hC.mm.2
 rw [← h1]
 cases hlk : look a.ents key with
 | some e0 =>
  obtain ⟨m1, m2⟩ := vQ hlk
  have hpos : 1 ≤ len := by rw [hl]; exact List.length_pos_of_mem m1
  refine (Nz hC hi key h64 e0 m1 m2 ⟨hpos, by show len ≤ 192; omega⟩).mono ?_
  rintro y w' ⟨rfl, id, hp⟩
  obtain ⟨a', aI, k1, k2⟩ := xG h1 h2 h3 hl (by show len - 1 + 1 = len + 0; omega) (by show len - 1 ≤ M; omega) hp
  exact ⟨a', aI, rfl, k1, h1 ▸ k2⟩
 | none =>
  have hno : ∀ y ∈ a.ents, y.key ≠ key := fun y hy hk => by
   unfold look at hlk
   rw [List.find?_eq_none] at hlk
   exact hlk y hy (by simpa [nI, nU] using hk)
  refine (El hC hi key h64 hno).mono ?_
  rintro y w' ⟨rfl, id, hp⟩
  obtain ⟨a', aI, k1, k2⟩ := xG h1 h2 h3 hl (by simp) hm hp
  exact ⟨a', aI, rfl, k1, h1 ▸ k2⟩
theorem aat (h : fB W0 E H K M mb G w a ids) (key : Nat) (h64 : H key < 18446744073709551616) : Calls Tryz.prog 32 #[aU mb, nU key, .int .u64 (H key : Int)] w fun y w' =>
  y = .returned (.tuple #[.int .u64 (((look a.ents key).getD ⟨0, 0, 0⟩).val : Int), .bool (look a.ents key).isSome]) ∧ jH W0 E H K M mb G w w' a ids := by
 obtain ⟨C, F, len, b, x, h1, h2, h3, rfl, hC, hi, hl, hm⟩ := h
 rw [← h1]
 refine (Wj hC hi key h64).mono ?_
 rintro y w' ⟨rfl, x', hc, _⟩
 exact ⟨rfl, h1 ▸ jH.of (A' := C.A) (v' := C.v) h1 h2 h3 hc hi hl hm⟩
theorem aau (h : fB W0 E H K M mb G w a ids) : Calls Tryz.prog 43 #[aU mb] w fun e w' => e = .returned (nI a.ents.length) ∧ w = w' := by
 obtain ⟨C, F, len, b, x, h1, h2, h3, rfl, hC, hi, hl, hm⟩ := h
 rw [← h1, ← hl]
 exact VZ hC
theorem Wl (h : fB W0 E H K M mb G w a ids) : Calls Tryz.prog 44 #[aU mb] w fun e w' => e = .returned (nI a.Ns.length) ∧ w = w' := by
 obtain ⟨C, F, len, b, x, h1, h2, h3, rfl, hC, hi, hl, hm⟩ := h
 rw [← h1]
 exact Qs hC
theorem Tk (h : fB W0 E H K M mb G w a ids) : Calls Tryz.prog 34 #[aU mb] w fun e w' => e = .returned (nI a.groups) ∧ w = w' := by
 obtain ⟨C, F, len, b, x, h1, h2, h3, rfl, hC, hi, hl, hm⟩ := h
 rw [← h1]
 exact NA hC
theorem fB.mod {S : List Nat} (h : fB W0 E H K M mb G w a ids) (hm : Mod S w w') (hS : ∀ q ∈ S, q ∉ G ∧ W0.heap.size ≤ q) : fB W0 E H K M mb G w' a ids := by
 obtain ⟨C, F, len, b, x, h1, h2, h3, rfl, hC, hi, hl, hm'⟩ := h
 have hd : ∀ q ∈ S, q ≠ C.mb ∧ q ∉ C.s.blocks ∧ q ∉ F ∧ C.v.ownBlock ≠ some q := fun q hq => by
  have := (hS q hq).1
  rw [aZ] at this
  simp only [not_or] at this
  exact this
 refine ⟨C, F, len, b, x, h1, h2, h3, rfl, ⟨bG.start (hC.aC.aC.mod hm (fun q hq dH => (hd q dH).2.1 hq)) (hC.hp.xX hC.aC.pool hm (fun q hq dH => (hd q dH).2.2.1 hq)) (hC.aC.met.mod hm (fun hq => (hd _ hq).1 rfl)) (hC.aC.env.mod hm (fun q hq => (hS q hq).2)) hC.aC.apart hC.aC.qg, jy hC.row hm (fun k hk FI => (hd k FI).2.2.2 hk), hC.yU, hC.pos, hC.kk, hC.mm, ?_, fun q hq => .inl hq, Mod.refl _ _⟩, hi, hl, hm'⟩
 have := hC.aC.env.size
 have := hm.size
 omega
theorem fB.below (h : fB W0 E H K M mb G w a ids) (hb : Below w.heap.size w w') : fB W0 E H K M mb G w' a ids := h.mod (Mod.of_below hb []) (by simp)
theorem fB.facts (h : fB W0 E H K M mb G w a ids) : jJ a ids [] ∧ a.d ≤ 5 ∧ a.Ns.length ≤ 32 ∧ 1 ≤ a.Ns.length ∧ a.Ns.length ≤ 2 ^ a.d ∧ (∀ (i : Nat) (N : Nd), a.Ns[i]? = some N → dL H N) ∧ a.ents.length ≤ M ∧ M ≤ 192 ∧ (1 ≤ K ∧ K ≤ 64) ∧ (a.ents.map av.key).Nodup ∧ (∀ q ∈ G, q < w.heap.size ∧ W0.heap.size ≤ q) ∧ Env W0 E w := by
 obtain ⟨C, F, len, b, x, h1, h2, h3, rfl, hC, hi, hl, hm⟩ := h
 obtain ⟨b1, b2, b3, b4⟩ := hC.bounds
 have h4 := hC.mm
 have h5 := hC.kk
 exact ⟨hi, b1, b2, hC.pos, hi.dir.nodes, b4, by omega, by omega, by omega, FM hi.dir b1 b4, fun q hq => ⟨hC.iF q hq, hC.VX q hq⟩, hC.aC.env⟩
theorem Tm {H : Nat → Nat} (h : NewAt W0 E H K M w mb w') : jH W0 E H K M mb [] w w' jB [] := by
 obtain ⟨C, F, h1, h2, h3, hC⟩ := h
 exact ⟨_, ⟨C, F, 0, 0, xU, h1, h2, h3, rfl, hC.again, inv0, by rw [zN]; rfl, Nat.zero_le _⟩, hC.sub, hC.mod⟩
end
def GB (mx : Nat) (a : Pool) : Prop := ∀ (i : Nat) (N : Nd), a.Ns[i]? = some N → N.len ≤ mx ∧ N.each ≤ mx ∧ N.groups ≤ 2 * mx
theorem GB.more {mx' : Nat} {a : Pool} (h : GB mx a) (hm : mx ≤ mx') : GB mx' a := fun i N hN => by
 have := h i N hN; omega
end
section
variable {es l : List av} {e : av} {key : Nat}
def mO (a : Pool) : List Nat := a.Ns.map fun N => kG N.pfx N.au
theorem tZ {h d p : Nat} : dP h d = p ↔ mI p d ≤ h ∧ h ≤ kG p d := by
 unfold dP mI kG
 have := pos2 (64 - d)
 rw [tN]
 omega
theorem NC {f : av} {l' : List av} {o : Option av} (h : fV f l o) (h1 : ∀ e ∈ l', aX e f = false → e ∈ l) (h2 : ∀ e ∈ l, e ∈ l') : fV f l' o := by
 cases o with
 | none =>
  intro e he
  cases hl : aX e f with
  | true => rfl
  | false => exact absurd (h e (h1 e he hl)) (by rw [hl]; simp)
 | some m => exact ⟨h2 m h.1, h.2.1, fun e he hl => h.2.2 e (h1 e he hl) hl⟩
theorem Jb {hash : Nat} (h : aX e ⟨key, 0, hash⟩ = false) : hash ≤ e.hash := by
 simp [aX] at h; omega
def upto (es : List av) (hi : Nat) : List av := es.filter fun e => decide (e.hash ≤ hi)
theorem gI {hi : Nat} : e ∈ upto es hi ↔ e ∈ es ∧ e.hash ≤ hi := by unfold upto; simp
def rest (es : List av) (key : Nat) : List av := es.filter fun x => x.key != key
theorem wF : e ∈ rest es key ↔ e ∈ es ∧ e.key ≠ key := by unfold rest; simp
theorem Jc (h : look es key = none) : rest es key = es := by
 unfold look at h
 rw [List.find?_eq_none] at h
 exact List.filter_eq_self.2 fun x hx => by simpa [nI, nU] using h x hx
theorem Tn (key : Nat) (h : es.Perm l) : (rest es key).Perm (rest l key) := h.filter _
theorem Jd {r : List av} (hn : (es.map av.key).Nodup) (h : es.Perm (e :: r)) : (rest es e.key).Perm r := by
 have h1 := Tn e.key h
 have h2 := (h.map av.key).nodup_iff.1 hn
 rw [List.map_cons, List.nodup_cons] at h2
 have h3 : rest (e :: r) e.key = r := by
  unfold rest
  rw [List.filter_cons, if_neg (by simp)]
  exact List.filter_eq_self.2 fun x hx => by
   have : x.key ≠ e.key := fun hh => h2.1 (by rw [← hh]; exact List.mem_map_of_mem hx)
   simpa [nI, nU] using this
 rw [h3] at h1
 exact h1
def sI (M : Nat) (es : List av) (key : Nat) : Bool := (look es key).isNone && decide (M ≤ es.length)
def o8 (M : Nat) (es : List av) (key : Nat) : Nat := if sI M es key then 2 else 0
def rX (M : Nat) (es : List av) (e : av) : List av := if sI M es e.key then es else rest es e.key ++ [e]
def BO (es : List av) (key : Nat) : Value := .tuple #[.int .u64 (((look es key).getD ⟨0, 0, 0⟩).val : Int), .bool (look es key).isSome]
section
variable {W0 : World} {E : Nat → Addr} {H : Nat → Nat} {K M mb : Nat} {G : List Nat} {w w' : World} {a : Pool} {ids : List Nat}
theorem aav (h : fB W0 E H K M mb G w a ids) (key : Nat) (h64 : H key < 18446744073709551616) : Calls Tryz.prog 30 #[aU mb, nU key, .int .u64 (H key : Int)] w fun y w' =>
  y = .returned (BO a.ents key) ∧ ∃ a' aI, jH W0 E H K M mb G w w' a' aI ∧ a'.ents.Perm (rest a.ents key) := by
 obtain ⟨_, _, _, _, _, _, _, _, _, f10, _⟩ := h.facts
 refine (Tj h key h64).mono ?_
 rintro y w' ⟨a', aI, rfl, hw, hto⟩
 obtain ⟨_, _, _, _, _, _, ⟨r, hr1, hr2⟩, _⟩ := hw
 refine ⟨rfl, a', aI, hto, ?_⟩
 cases hl : look a.ents key with
 | none =>
  rw [hl] at hr1
  rw [Jc hl]
  exact hr2.trans hr1.symm
 | some e0 =>
  rw [hl] at hr1
  have h3 := Jd f10 hr1
  rw [(vQ hl).2] at h3
  exact hr2.trans h3.symm
theorem aaw (h : fB W0 E H K M mb G w a ids) (key : Nat) (h64 : H key < 18446744073709551616) : Calls Tryz.prog 32 #[aU mb, nU key, .int .u64 (H key : Int)] w fun y w' =>
  y = .returned (BO a.ents key) ∧ jH W0 E H K M mb G w w' a ids := aat h key h64
end
end
end Go.Proofs.YtbphcldoflekpaaGreatDoor
