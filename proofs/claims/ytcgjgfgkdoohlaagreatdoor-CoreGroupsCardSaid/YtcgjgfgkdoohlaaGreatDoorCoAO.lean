/- An evacuation's New by its contract. -/
import Derived.Test.YtcgjgfgkdoohlaaGreatDoorCoAL
import Derived.Test.YtcgjgfgkdoohlaaGreatDoorLaneP
import Derived.Test.YtcgjgfgkdoohlaaGreatDoorCoN
namespace Go.Proofs.YtcgjgfgkdoohlaaGreatDoor
section
set_option maxRecDepth 100000
set_option maxHeartbeats 8000000
open Go.RowKit AmC
theorem clone_tabs (rb cap : Nat) (ts : List Nat) (hn : 1 ≤ ts.length ∧ ts.length ≤ 2) (w : World) (h : RowAt w rb ts) :
  Calls Tryz.prog 226 #[.slice (some ⟨rb, 0, none⟩) ts.length cap] w fun e w' => ∃ rb' c', w.heap.size ≤ rb' ∧ e = .returned (.slice (some ⟨rb', 0, none⟩) ts.length c') ∧ RowAt w' rb' ts ∧ Below w.heap.size w w' := by
 have HR := qd h.reads
 obtain ⟨n1, n2⟩ := hn
 have hnn : (Go.binOp .eql 212 (.slice (some ⟨rb, 0, none⟩) ts.length cap) (.slice none 0 0)).run Tryz.prog w = .ok (.bool false) w := by first | rfl | kernel_rfl | simp [Go.binOp, go_sem]
 clear h
 go_enter Tryz.func226, Tryz.ntmps226
 go_wp2_with (at_builtin; refine wpList_app rfl rfl slty_ptab (World.ownsRow_lit w #[] 0 (Nat.le_refl _) (by simp) rfl) rfl rfl (HR.out.alloc (Nat.le_refl _) _) (ptrs_all ts) (by omega) (by simp) ?_; intro v4 w4 hown4 hg4)
 rw [Nat.zero_add] at hown4
 obtain ⟨A4, c4, rfl⟩ := own_form hown4
 go_ret
 obtain ⟨rb', rfl, hrb', hrow, _⟩ := RowAt.of_own (show w4.ownsRow w.heap.size 109 1 (.slice A4 ts.length c4) ts.length (ptrs ts) from by simpa using hown4) (by omega)
 have hB : Below w.heap.size w w4 := ((Below.refl _ _).alloc (Nat.le_refl _) _).trans hg4.below
 first | exact ⟨rb', hrb', ⟨_, rfl⟩, hrow, hB⟩ | exact ⟨rb', _, hrb', rfl, hrow, hB⟩
theorem evac_New (tb rb cap depth : Nat) (ts : List Nat) (hn : 1 ≤ ts.length ∧ ts.length ≤ 2) (hd : depth ≤ 15) (w : World) (h : RowAt w rb ts) :
  Calls Tryz.prog 223 #[.pointer (some ⟨tb, 0, none⟩), .int .i64 (depth : Int), .slice (some ⟨rb, 0, none⟩) ts.length cap] w fun e w' => ∃ eb vb c2, w.heap.size ≤ eb ∧ w.heap.size ≤ vb ∧ eb ≠ vb ∧ e = .returned (.tuple #[.pointer (some ⟨eb, 0, none⟩), .nilIface]) ∧ EvAt w' eb tb vb c2 ts depth 0 ∧ Below w.heap.size w w' := by
 obtain ⟨n1, n2⟩ := hn
 have HC := qd (contains_nil rb cap ts n2 w h)
 have HK := qd (clone_tabs rb cap ts ⟨n1, n2⟩ w h)
 have hnl : ts.length = 1 ∨ ts.length = 2 := by omega
 have hd0 : ¬ (depth : Int) < 0 := by omega
 have hd1 : ¬ (depth : Int) > 15 := by omega
 clear h
 obtain ⟨n, hnn⟩ : ∃ n, n = ts.length := ⟨_, rfl⟩
 have HNn := qd hnn
 rw [← hnn] at HC HK hnl n1 n2
 simp only [← hnn]
 clear hnn
 rcases hnl with rfl | rfl
 all_goals
  go_enter Tryz.func223, Tryz.ntmps223
  go_wp2_with fail
  refine (HC.out).mono ?_
  rintro y w1 ⟨rfl, rfl⟩
  go_wp2_with fail
  refine (HK.out).mono ?_
  rintro y w2 ⟨vb, c2, hvb, rfl, hrow, hb⟩
  have hvl := hrow.lt
  have HN2 := qd (Blk.new w2 240 #[.pointer (some ⟨tb, 0, none⟩), .slice (some ⟨vb, 0, none⟩) ts.length c2, .int .i64 (depth : Int), .int .i64 0])
  have HE := qd (And.intro (hrow.mod (Mod.of_below ((Below.refl w2.heap.size w2).alloc (Nat.le_refl _) (.cells #[.pointer (some ⟨tb, 0, none⟩), .slice (some ⟨vb, 0, none⟩) ts.length c2, .int .i64 (depth : Int), .int .i64 0] 240)) []) (by simp)) (hb.alloc hb.size (.cells #[.pointer (some ⟨tb, 0, none⟩), .slice (some ⟨vb, 0, none⟩) ts.length c2, .int .i64 (depth : Int), .int .i64 0] 240)))
  rw [← HNn.out] at HN2 HE
  have hbs := hb.size
  clear hrow hb
  go_wp2
  refine bodyPost_ret (v := .tuple #[.pointer (some ⟨w2.heap.size, 0, none⟩), .nilIface]) (by simp [results, Tryz.results223, go_sem]) rfl ?_
  have hEv : EvAt (w2.alloc (.cells #[.pointer (some ⟨tb, 0, none⟩), .slice (some ⟨vb, 0, none⟩) _ c2, .int .i64 (depth : Int), .int .i64 0] 240)) w2.heap.size tb vb c2 ts depth 0 := ⟨by rw [← HNn.out]; exact HN2.out, HE.out.1⟩
  first | exact ⟨w2.heap.size, vb, c2, hbs, hvb, by omega, rfl, hEv, HE.out.2⟩ | exact ⟨w2.heap.size, hbs, vb, hvb, by omega, rfl, c2, hEv, HE.out.2⟩
end
section
set_option maxRecDepth 100000
set_option maxHeartbeats 8000000
open Go.RowKit AmC
theorem below_asMod {B : Nat} {w w' : World} (h : Below B w w') : Mod (List.range' B (w.heap.size - B)) w w' :=
 ⟨h.os, h.tape, h.output, h.size, fun k hk hn => h.block k (by simp [List.mem_range'_1] at hn; omega)⟩
theorem nodup_flat {α : Type} {f : α → List Nat} {l : List α} (h : (l.flatMap f).Nodup) {i j : Nat} {a b : α} (hi : l[i]? = some a) (hj : l[j]? = some b) (hne : i ≠ j) : ∀ x ∈ f a, x ∉ f b := by
 obtain ⟨hi', rfl⟩ := List.getElem?_eq_some_iff.1 hi
 obtain ⟨hj', rfl⟩ := List.getElem?_eq_some_iff.1 hj
 have hp := List.pairwise_iff_getElem.1 (List.pairwise_flatMap.1 h).2
 intro x hx hy
 rcases Nat.lt_or_ge i j with hlt | hge
 ·exact hp i j hi' hj' hlt x hx x hy rfl
 ·exact hp j i hj' hi' (by omega) x hy x hx rfl
theorem nodup_at {α : Type} {f : α → List Nat} {l : List α} (h : (l.flatMap f).Nodup) {a : α} (ha : a ∈ l) : (f a).Nodup := (List.pairwise_flatMap.1 h).1 a ha
structure BgAt (w : World) (bl : List (Nat × Nat × Nat)) (n j : Nat) : Prop where
 undone : ∀ (i : Nat) (b : Nat × Nat × Nat), bl[i]? = some b → j ≤ i → BldAt w b.1 b.2.1 b.2.2 n n
 done : ∀ (i : Nat) (b : Nat × Nat × Nat), bl[i]? = some b → i < j → Blk w b.1 238 #[.pointer none, .int .i64 (n : Int), .int .i64 (n : Int)]
 tabs : ∀ (i : Nat) (b : Nat × Nat × Nat), bl[i]? = some b → TabAt w b.2.1 b.2.2 (prepT n n)
theorem BgAt.mod {S : List Nat} {w w' : World} {bl : List (Nat × Nat × Nat)} {n j : Nat} (h : BgAt w bl n j) (hm : Mod S w w') (hs : ∀ b ∈ bl, b.1 ∉ S ∧ b.2.1 ∉ S ∧ b.2.2 ∉ S) : BgAt w' bl n j :=
 ⟨fun i b hb hj => by obtain ⟨h1, h2, h3⟩ := hs b (List.mem_of_getElem? hb); exact (h.undone i b hb hj).mod hm h1 h2 h3,
  fun i b hb hj => (h.done i b hb hj).mod hm (hs b (List.mem_of_getElem? hb)).1,
  fun i b hb => (h.tabs i b hb).mod hm (hs b (List.mem_of_getElem? hb)).2.1 (hs b (List.mem_of_getElem? hb)).2.2⟩
def blBlocks (b : Nat × Nat × Nat) : List Nat := [b.1, b.2.1, b.2.2]
def blTabs (bl : List (Nat × Nat × Nat)) : List (Nat × Nat) := bl.map fun b => (b.2.1, b.2.2)
theorem perm_blocks : ∀ bl : List (Nat × Nat × Nat), (bl.flatMap blBlocks).Perm (bl.map (fun b => b.1) ++ flatB (blTabs bl))
 | [] => .refl _
 | b :: t => by
  have h := perm_blocks t
  have h1 : ((b :: t).flatMap blBlocks) = b.1 :: ([b.2.1, b.2.2] ++ t.flatMap blBlocks) := by simp [blBlocks]
  have h2 : ((b :: t).map (fun b => b.1) ++ flatB (blTabs (b :: t))) = b.1 :: (t.map (fun b => b.1) ++ ([b.2.1, b.2.2] ++ flatB (blTabs t))) := by simp [flatB, blTabs]
  rw [h1, h2]
  refine List.Perm.cons _ ((h.append_left _).trans ?_)
  rw [← List.append_assoc, ← List.append_assoc]
  exact List.perm_append_comm.append_right _
theorem mem_flat_blocks {bl : List (Nat × Nat × Nat)} {q : Nat} (h : q ∈ bl.map (fun b => b.1) ++ flatB (blTabs bl)) : q ∈ bl.flatMap blBlocks := (perm_blocks bl).mem_iff.2 h
theorem fst_blTabs (bl : List (Nat × Nat × Nat)) : (blTabs bl).map Prod.fst = bl.map fun b => b.2.1 := by simp [blTabs]
theorem BgAt.take {w w' : World} {bl : List (Nat × Nat × Nat)} {n j : Nat} (h : BgAt w bl n j) (hnd : (bl.flatMap blBlocks).Nodup) {b : Nat × Nat × Nat} (hb : bl[j]? = some b) (hk : Blk w' b.1 238 #[.pointer none, .int .i64 (n : Int), .int .i64 (n : Int)]) (hm : Mod [b.1] w w') : BgAt w' bl n (j + 1) := by
 have ap : ∀ (i : Nat) (c : Nat × Nat × Nat), bl[i]? = some c → i ≠ j → c.1 ≠ b.1 ∧ c.2.1 ≠ b.1 ∧ c.2.2 ≠ b.1 := fun i c hc hne => by
  have hf := nodup_flat hnd hc hb hne
  have h1 := hf c.1 (by simp [blBlocks])
  have h2 := hf c.2.1 (by simp [blBlocks])
  have h3 := hf c.2.2 (by simp [blBlocks])
  simp [blBlocks] at h1 h2 h3
  exact ⟨h1.1, h2.1, h3.1⟩
 have hb3 := nodup_at hnd (List.mem_of_getElem? hb)
 simp [blBlocks] at hb3
 refine ⟨fun i c hc hj => ?_, fun i c hc hj => ?_, fun i c hc => ?_⟩
 ·obtain ⟨h1, h2, h3⟩ := ap i c hc (by omega)
  exact (h.undone i c hc (by omega)).mod hm (by simpa using h1) (by simpa using h2) (by simpa using h3)
 ·by_cases hij : i = j
  ·subst hij; rw [hb] at hc; cases hc; exact hk
  ·exact (h.done i c hc (by omega)).mod hm (by simpa using (ap i c hc hij).1)
 ·by_cases hij : i = j
  ·subst hij; rw [hb] at hc; cases hc
   exact (h.tabs _ _ hb).mod hm (by simp; omega) (by simp; omega)
  ·obtain ⟨h1, h2, h3⟩ := ap i c hc hij
   exact (h.tabs i c hc).mod hm (by simpa using h2) (by simpa using h3)
theorem BgAt.tabsAt {w : World} {bl : List (Nat × Nat × Nat)} {n j : Nat} (h : BgAt w bl n j) (hnd : (bl.flatMap blBlocks).Nodup) : TabsAt w (blTabs bl) (List.replicate bl.length (prepT n n)) := by
 refine ⟨by simp [blTabs], fun i b T hb hT => ?_, fun i k b c hb hc hne => ?_⟩
 ·unfold blTabs at hb
  rw [List.getElem?_map] at hb
  obtain ⟨x, hx, rfl⟩ := Option.map_eq_some_iff.1 hb
  have := List.mem_of_getElem? hT
  rw [(List.mem_replicate.1 this).2]
  exact h.tabs i x hx
 ·unfold blTabs at hb hc
  rw [List.getElem?_map] at hb hc
  obtain ⟨x, hx, rfl⟩ := Option.map_eq_some_iff.1 hb
  obtain ⟨y, hy, rfl⟩ := Option.map_eq_some_iff.1 hc
  have hf := nodup_flat hnd hx hy hne
  have h1 := hf x.2.1 (by simp [blBlocks])
  have h2 := hf x.2.2 (by simp [blBlocks])
  simp [blBlocks] at h1 h2
  exact ⟨h1.2.1, h1.2.2, h2.2.1, h2.2.2⟩
theorem ptrs_snoc {α : Type} {f : α → Nat} {l : List α} {j : Nat} {b : α} (h : l[j]? = some b) : ptrs ((l.take j).map f) ++ [.pointer (some ⟨f b, 0, none⟩)] = ptrs ((l.take (j + 1)).map f) := by
 rw [take_nx h, List.map_append]; simp [ptrs]
theorem dual_begin (db rb cap ob og : Nat) (bl : List (Nat × Nat × Nat)) (T : TabM) (n depth : Nat) (hmany : 1 ≤ bl.length ∧ bl.length ≤ 2) (hdeep : depth ≤ 15) (hpow : Pw n) (hnd : (footB db rb ob og bl).Nodup) (w : World)
  (hblk : Blk w db 215 #[.pointer (some ⟨ob, 0, none⟩), .int .i64 (depth : Int), .slice (some ⟨rb, 0, none⟩) bl.length cap, .slice none 0 0, .pointer none, .bool false]) (hrow : RowAt w rb (bl.map fun b => b.1)) (htab : TabAt w ob og T) (hbl : BgAt w bl n 0) :
  Calls Tryz.prog 214 #[dualP db] w fun e w' => e = .returned undef ∧ ∃ fb fcap eb vb vcap, DuM w' db rb cap ob og fb fcap eb vb vcap (bl.map fun b => b.1) (blTabs bl) T (List.replicate bl.length (prepT n n)) n depth 0 ∧ w.heap.size ≤ fb ∧ w.heap.size ≤ eb ∧ w.heap.size ≤ vb ∧ Mod (footB db rb ob og bl) w w' := by
 obtain ⟨n1, n2⟩ := hmany
 unfold footB at hnd
 simp only [List.nodup_cons, List.mem_cons, not_or] at hnd
 obtain ⟨⟨hd1, hd2, hd3, hd4⟩, ⟨hr1, hr2, hr3⟩, ⟨ho1, ho2⟩, hg1, hnd'⟩ := hnd
 have hmemF : ∀ b ∈ bl, ∀ q, q = b.1 ∨ q = b.2.1 ∨ q = b.2.2 → q ∈ bl.flatMap fun b => [b.1, b.2.1, b.2.2] := fun b hb q hq => List.mem_flatMap.2 ⟨b, hb, by simpa using hq⟩
 have hne : ∀ b ∈ bl, db ≠ b.1 ∧ db ≠ b.2.1 ∧ db ≠ b.2.2 ∧ rb ≠ b.1 ∧ rb ≠ b.2.1 ∧ rb ≠ b.2.2 ∧ ob ≠ b.1 ∧ ob ≠ b.2.1 ∧ ob ≠ b.2.2 ∧ og ≠ b.1 ∧ og ≠ b.2.1 ∧ og ≠ b.2.2 ∧ b.1 < w.heap.size ∧ b.2.1 < w.heap.size ∧ b.2.2 < w.heap.size := fun b hb => by
  have m1 := hmemF b hb b.1 (.inl rfl)
  have m2 := hmemF b hb b.2.1 (.inr (.inl rfl))
  have m3 := hmemF b hb b.2.2 (.inr (.inr rfl))
  obtain ⟨i, hi⟩ := List.getElem?_of_mem hb
  have hl := hbl.undone i b hi (Nat.zero_le _)
  exact ⟨fun e => hd4 (e ▸ m1), fun e => hd4 (e ▸ m2), fun e => hd4 (e ▸ m3), fun e => hr3 (e ▸ m1), fun e => hr3 (e ▸ m2), fun e => hr3 (e ▸ m3), fun e => ho2 (e ▸ m1), fun e => ho2 (e ▸ m2), fun e => ho2 (e ▸ m3), fun e => hg1 (e ▸ m1), fun e => hg1 (e ▸ m2), fun e => hg1 (e ▸ m3), hl.lt, hl.ltT, hl.ltG⟩
 have HND := qd (show (bl.flatMap blBlocks).Nodup from hnd')
 have HDp := qd hdeep
 have HPw := qd hpow
 clear hnd' hmemF hd4 hr3 ho2 hg1 hdeep hpow
 have HD := qd (hblk)
 have HR := qd (hrow)
 have HT := qd (htab)
 have HB := qd (hbl)
 have Hmod := qd (Mod.refl (footB db rb ob og bl) w)
 have q1 := HD.out.lt
 have q2 := HR.out.lt
 have q3 := HT.out.ltT
 have q4 := HT.out.ltG
 clear hblk hrow htab hbl
 unfold dualP
 go_enter Tryz.func214, Tryz.ntmps214
 obtain ⟨dc0, dc1, dc2, dc3, dc4, dc5⟩ := HD.out.c6
 go_wp2
 clear dc0 dc1 dc2 dc3 dc4 dc5
 go_loopw [3, 9] (fun _ i wr => ∃ j : Nat, j ≤ bl.length ∧ i = .int .i64 j ∧ ∃ v, Blk wr db 215 #[.pointer (some ⟨ob, 0, none⟩), .int .i64 (depth : Int), .slice (some ⟨rb, 0, none⟩) bl.length cap, v, .pointer none, .bool false] ∧ wr.ownsRow w.heap.size 109 1 v j (ptrs ((bl.take j).map fun b => b.2.1)) ∧ RowAt wr rb (bl.map fun b => b.1) ∧ TabAt wr ob og T ∧ BgAt wr bl n j ∧ Mod (footB db rb ob og bl) w wr) (fun _ i _ => bl.length - (intOf i).toNat)
 case atStart => exact ⟨0, by omega, rfl, _, HD.out, by simpa [ptrs] using World.ownsRow_nil w w.heap.size _ 1, HR.out, HT.out, HB.out, Hmod.out⟩
 case round =>
  clear HD HR HT HB Hmod
  obtain ⟨j, hj, rfl, v, hD, hO, hR, hT, hB, hm⟩ := hrel
  obtain ⟨A, vc, rfl⟩ := own_form hO
  by_cases hlt : j < bl.length
  ·have hlt' : (j : Int) < (bl.length : Int) := by omega
   have hj0 : (0 : Int) ≤ (j : Int) := by omega
   obtain ⟨b, hb⟩ : ∃ b, bl[j]? = some b := ⟨_, List.getElem?_eq_getElem hlt⟩
   have hbm := List.mem_of_getElem? hb
   have hbb := hne b hbm
   have hrw := hR.at_ j b.1 (by rw [List.getElem?_map, hb]; rfl)
   have HPs := qd (ptrs_snoc (f := fun b : Nat × Nat × Nat => b.2.1) hb)
   have HBi := qd hb
   clear hb
   have HD := qd (hD)
   have HR := qd (hR)
   have HT := qd (hT)
   have HB := qd (hB)
   have HO := qd (hO)
   have Hmod := qd (hm)
   clear hD hO hR hT hB hm
   have z1 := Hmod.out.size
   have q2 := HD.out.lt
   have q3 := HR.out.lt
   have q4 := HT.out.ltT
   have q5 := HT.out.ltG
   go_upto_region 3 with fail
   obtain ⟨dc0, dc1, dc2, dc3, dc4, dc5⟩ := HD.out.c6
   refine region_T (fun (w' : World) => w'.cell? ⟨db, 3, none⟩ = some (.slice A j vc)) [14] (by kernel_rfl) ?_
   try (change wpAnyT _ _ _ _ _ _ _ _ _ (World.drew _))
   have hHeld := dc3
   refine tW 0 (some 13) (.pointer (some ⟨db, 0, none⟩)) rfl hHeld ?_
   try simp only [pt]
   refine tW 1 (some 14) (.pointer (some ⟨db, 0, none⟩)) rfl hHeld ?_
   try simp only [pt]
   refine tW 2 (some 15) (.pointer (some ⟨db, 0, none⟩)) rfl hHeld ?_
   try simp only [pt]
   refine tW 3 (some 16) (.pointer (some ⟨db, 3, none⟩)) rfl hHeld ?_
   try simp only [pt]
   refine tT 4 (some 17) (.slice A j vc) rfl (by rintro w hh0; go_simp) hHeld ?_
   try simp only [pt]
   refine tW 5 (some 18) (.pointer (some ⟨b.1, 0, none⟩)) rfl hHeld ?_
   try simp only [pt]
   refine nT 6 (some 19) rfl fun K hK => ?_
   go_simp
   have HTk := qd (build_Take b.1 b.2.1 b.2.2 n wr.drew (((HB.out.undone j b HBi.out (Nat.le_refl _)).mod (Mod.drewN [] wr 1) (by simp) (by simp) (by simp))))
   unfold bldP tabP at HTk
   refine (HTk.out).mono ?_
   rintro y w1 ⟨rfl, hk1, _, hm⟩
   replace hm : Mod [b.1] wr w1 := (Mod.drewN [b.1] wr 1).then hm
   have hB1 := HB.out.take HND.out HBi.out hk1 hm
   clear HTk HB hk1
   have hm0 : Mod (footB db rb ob og bl) wr w1 := hm.more (by intro q hq; simp at hq; subst hq; exact (mem_footB hbm).1)
   have HmO := Hmod
   clear Hmod
   have Hmod := qd (Mod.refl [b.1] wr)
   clear hrw dc0 dc1 dc2 dc3 dc4 dc5
   replace HD := qd (HD.out.mod hm (by simp <;> omega))
   replace HR := qd (HR.out.mod hm (by simp <;> omega))
   replace HT := qd (HT.out.mod hm (by simp <;> omega) (by simp <;> omega))
   replace HO := qd (own_mod HO.out hm (by intro k hk <;> simp at hk <;> omega))
   have z6 := (hm).size
   replace Hmod := qd (Hmod.out.trans hm (fun _ hh _ => hh) (by intro k hk hl; simp [footB] at hk ⊢ <;> omega))
   clear Hmod
   have Hmod := qd (HmO.out.then hm0)
   clear HmO hm0 hm
   have HB := qd hB1
   clear hB1
   obtain ⟨dc0, dc1, dc2, dc3, dc4, dc5⟩ := HD.out.c6
   go_wp2_with fail
   have hHeld := dc3
   refine hK.out _ _ (fun _ => hHeld) ?_
   clear hK K
   try simp only [pt]
   refine tW 7 (some 20) (.pointer (some ⟨b.2.1, 0, none⟩)) rfl hHeld ?_
   try simp only [pt]
   refine tW 8 (some 21) .nilIface rfl hHeld ?_
   try simp only [pt]
   refine nT 9 (some 22) rfl fun K hK => ?_
   go_simp
   refine (must_tab (some ⟨b.2.1, 0, none⟩) w1).mono ?_
   rintro y w2 ⟨rfl, rfl⟩
   go_wp2_with fail
   have hHeld := dc3
   refine hK.out _ _ (fun _ => hHeld) ?_
   clear hK K
   try simp only [pt]
   refine nT 10 (some 23) rfl fun K hK => ?_
   go_simp
   have q7 := HD.out.lt
   have q8 := HR.out.lt
   have q9 := HT.out.ltT
   have q10 := HT.out.ltG
   have z11 := Hmod.out.size
   refine nameB 109 #[.pointer (some ⟨b.2.1, 0, none⟩)] ?_
   rintro w3 ⟨hnew, hb⟩
   obtain ⟨xb, hxb⟩ : ∃ xb, xb = w1.heap.size := ⟨_, rfl⟩
   rw [← hxb] at hnew ⊢
   replace hxb : w1.heap.size ≤ xb := by omega
   clear dc0 dc1 dc2 dc3 dc4 dc5
   replace HD := qd (HD.out.mod (Mod.of_below hb []) (by simp))
   replace HR := qd (HR.out.mod (Mod.of_below hb []) (by simp))
   replace HT := qd (HT.out.mod (Mod.of_below hb []) (by simp) (by simp))
   replace HO := qd (own_mod HO.out (Mod.of_below hb []) (by simp))
   replace HB := qd (HB.out.mod (Mod.of_below hb []) (by simp))
   have z12 := (hb).size
   replace Hmod := qd (Hmod.out.then (Mod.of_below hb _))
   have HX := qd (hnew)
   clear hnew hb
   obtain ⟨dc0, dc1, dc2, dc3, dc4, dc5⟩ := HD.out.c6
   have xc0 := HX.out.cell 0
   simp only [List.getElem?_toArray, List.getElem?_cons_zero] at xc0
   have hHeld := dc3
   refine hK.out _ _ (fun _ => hHeld) ?_
   clear hK K
   try simp only [pt]
   refine nT 11 (some 24) rfl fun K hK => ?_
   refine step_app (by rfl) (by rfl) slty_ptab HO.out (by rfl) (by rfl) (reads_blk (size := 1) (m := 1) HX.out (by rfl)) (by rfl) (by omega) (by have := Hmod.out.size; omega) ?_
   intro v4 w4 hown4 hgr4
   have hown5 : w4.ownsRow w.heap.size 109 1 v4 (j + 1) (ptrs ((bl.take (j + 1)).map fun b => b.2.1)) := HPs.out ▸ hown4
   clear hown4
   obtain ⟨A4, vc4, rfl⟩ := own_form hown5
   have hb4 := hgr4.below
   clear HX HO
   clear dc0 dc1 dc2 dc3 dc4 dc5 xc0
   replace HD := qd (HD.out.mod (below_asMod hb4) (by simp [List.mem_range'_1] <;> omega))
   replace HR := qd (HR.out.mod (below_asMod hb4) (by simp [List.mem_range'_1] <;> omega))
   replace HT := qd (HT.out.mod (below_asMod hb4) (by simp [List.mem_range'_1] <;> omega) (by simp [List.mem_range'_1] <;> omega))
   replace HB := qd (HB.out.mod (below_asMod hb4) (fun b hb => by have hh := hne b hb; simp [List.mem_range'_1] <;> omega))
   have z13 := (hb4).size
   replace Hmod := qd (Hmod.out.trans (below_asMod hb4) (fun _ hh _ => hh) (by intro k hk hl; simp [List.mem_range'_1] at hk; omega))
   have HO := qd hown5
   clear hown5 hb4
   obtain ⟨dc0, dc1, dc2, dc3, dc4, dc5⟩ := HD.out.c6
   obtain ⟨df0, df1, df2, df3, df4, df5⟩ := HD.out.f6
   have hHeld := dc3
   refine hK.out _ _ (fun _ => hHeld) ?_
   clear hK K
   try simp only [pt]
   refine tW 12 (some 25) (.pointer (some ⟨db, 0, none⟩)) rfl hHeld ?_
   try simp only [pt]
   refine tW 13 (some 26) (.pointer (some ⟨db, 3, none⟩)) rfl hHeld ?_
   try simp only [pt]
   refine nT 14 none rfl fun K hK => ?_
   go_simp
   refine hK.out _ _ (fun h => absurd (by decide) h) ?_
   clear hK K
   try simp only [pt]
   refine doneT (by kernel_rfl) ?_ _
   have q14 := HD.out.lt
   have q15 := HR.out.lt
   have q16 := HT.out.ltT
   have q17 := HT.out.ltG
   have hnew := (HD.out.set_ 3 (.slice A4 (j + 1) vc4))
   have hm := ((Mod.refl [db] w4).sl 3 (.slice A4 (j + 1) vc4))
   simp only [List.setIfInBounds_toArray, List.set_cons_zero, List.set_cons_succ] at hnew
   refine nameM hnew hm ?_
   clear hnew hm
   rintro w5 ⟨hnew, hm⟩
   replace HR := qd (HR.out.mod hm (by simp <;> omega))
   replace HT := qd (HT.out.mod hm (by simp <;> omega) (by simp <;> omega))
   replace HB := qd (HB.out.mod hm (fun b hb => by have hh := hne b hb; simp <;> omega))
   replace HO := qd (own_mod HO.out hm (by intro k hk <;> simp at hk <;> omega))
   have z18 := (hm).size
   replace Hmod := qd (Hmod.out.trans hm (fun _ hh _ => hh) (by intro k hk hl; simp [footB] at hk ⊢ <;> omega))
   replace HD := qd hnew
   clear hnew hm
   go_wp2
   go_roundw
   case rel => exact ⟨j + 1, by omega, by go_num, _, HD.out, HO.out, HR.out, HT.out, HB.out, Hmod.out⟩
   case measure => simp [intOf]; omega
  ·obtain rfl : j = bl.length := by omega
   have hlt' : ¬ (bl.length : Int) < (bl.length : Int) := by omega
   rw [List.take_length] at hO
   obtain ⟨fb, rfl, hfb, hfr, _⟩ := RowAt.of_own hO (by omega)
   have HD := qd (hD)
   have HR := qd (hR)
   have HT := qd (hT)
   have HB := qd (hB)
   have HF := qd (hfr)
   have Hmod := qd (hm)
   clear hD hO hR hT hB hfr hm
   have z1 := Hmod.out.size
   have q2 := HD.out.lt
   have q3 := HR.out.lt
   have q4 := HT.out.ltT
   have q5 := HT.out.ltG
   have q6 := HF.out.lt
   go_upto_region 5 with fail
   obtain ⟨dc0, dc1, dc2, dc3, dc4, dc5⟩ := HD.out.c6
   have HEv := qd (evac_New ob fb vc depth (bl.map fun b : Nat × Nat × Nat => b.2.1) (by rw [List.length_map]; exact ⟨n1, n2⟩) HDp.out wr.drew (HF.out.mod (Mod.drewN [] wr 1) (by simp)))
   rw [List.length_map] at HEv
   refine region_T (fun (w' : World) => w'.cell? ⟨db, 0, none⟩ = some (.pointer (some ⟨ob, 0, none⟩)) ∧ w'.cell? ⟨db, 1, none⟩ = some (.int .i64 (depth : Int)) ∧ w'.cell? ⟨db, 3, none⟩ = some (.slice (some ⟨fb, 0, none⟩) bl.length vc)) [19] (by kernel_rfl) ?_
   try (change wpAnyT _ _ _ _ _ _ _ _ _ (World.drew _))
   have hHeld := (⟨dc0, dc1, dc3⟩ : _ ∧ _ ∧ _)
   refine tW 0 (some 28) (.pointer (some ⟨db, 0, none⟩)) rfl hHeld ?_
   try simp only [pt]
   refine tW 1 (some 29) (.pointer (some ⟨db, 0, none⟩)) rfl hHeld ?_
   try simp only [pt]
   refine tW 2 (some 30) (.pointer (some ⟨db, 0, none⟩)) rfl hHeld ?_
   try simp only [pt]
   refine tW 3 (some 31) (.pointer (some ⟨db, 0, none⟩)) rfl hHeld ?_
   try simp only [pt]
   refine tT 4 (some 32) (.pointer (some ⟨ob, 0, none⟩)) rfl (by rintro w ⟨hh0, hh1, hh2⟩; go_simp) hHeld ?_
   try simp only [pt]
   refine tW 5 (some 33) (.pointer (some ⟨db, 0, none⟩)) rfl hHeld ?_
   try simp only [pt]
   refine tW 6 (some 34) (.pointer (some ⟨db, 0, none⟩)) rfl hHeld ?_
   try simp only [pt]
   refine tW 7 (some 35) (.pointer (some ⟨db, 1, none⟩)) rfl hHeld ?_
   try simp only [pt]
   refine tT 8 (some 36) (.int .i64 (depth : Int)) rfl (by rintro w ⟨hh0, hh1, hh2⟩; go_simp) hHeld ?_
   try simp only [pt]
   refine tW 9 (some 37) (.pointer (some ⟨db, 0, none⟩)) rfl hHeld ?_
   try simp only [pt]
   refine tW 10 (some 38) (.pointer (some ⟨db, 0, none⟩)) rfl hHeld ?_
   try simp only [pt]
   refine tW 11 (some 39) (.pointer (some ⟨db, 3, none⟩)) rfl hHeld ?_
   try simp only [pt]
   refine tT 12 (some 40) (.slice (some ⟨fb, 0, none⟩) bl.length vc) rfl (by rintro w ⟨hh0, hh1, hh2⟩; go_simp) hHeld ?_
   try simp only [pt]
   refine nT 13 (some 41) rfl fun K hK => ?_
   go_simp
   refine (HEv.out).mono ?_
   rintro y w1 ⟨eb, vb, c2, heb, hvb, hev, rfl, hEv, hb⟩
   replace hb : Below wr.heap.size wr w1 := below_nx hb (Below.refl _ _).drew
   replace heb : wr.heap.size ≤ eb := heb
   replace hvb : wr.heap.size ≤ vb := hvb
   clear HEv
   clear dc0 dc1 dc2 dc3 dc4 dc5
   replace HD := qd (HD.out.mod (Mod.of_below hb []) (by simp))
   replace HR := qd (HR.out.mod (Mod.of_below hb []) (by simp))
   replace HT := qd (HT.out.mod (Mod.of_below hb []) (by simp) (by simp))
   replace HB := qd (HB.out.mod (Mod.of_below hb []) (by simp))
   replace HF := qd (HF.out.mod (Mod.of_below hb []) (by simp))
   have z7 := (hb).size
   replace Hmod := qd (Hmod.out.then (Mod.of_below hb _))
   have HE := qd (hEv)
   clear hEv hb
   obtain ⟨dc0, dc1, dc2, dc3, dc4, dc5⟩ := HD.out.c6
   go_wp2_with fail
   have hHeld := (⟨dc0, dc1, dc3⟩ : _ ∧ _ ∧ _)
   refine hK.out _ _ (fun _ => hHeld) ?_
   clear hK K
   try simp only [pt]
   refine tW 14 (some 42) (.pointer (some ⟨eb, 0, none⟩)) rfl hHeld ?_
   try simp only [pt]
   refine tW 15 (some 43) .nilIface rfl hHeld ?_
   try simp only [pt]
   refine nT 16 (some 44) rfl fun K hK => ?_
   go_simp
   refine (must_evac (some ⟨eb, 0, none⟩) w1).mono ?_
   rintro y w2 ⟨rfl, rfl⟩
   go_wp2_with fail
   have hHeld := (⟨dc0, dc1, dc3⟩ : _ ∧ _ ∧ _)
   refine hK.out _ _ (fun _ => hHeld) ?_
   clear hK K
   try simp only [pt]
   refine tW 17 (some 45) (.pointer (some ⟨db, 0, none⟩)) rfl hHeld ?_
   try simp only [pt]
   refine tW 18 (some 46) (.pointer (some ⟨db, 4, none⟩)) rfl hHeld ?_
   try simp only [pt]
   refine nT 19 none rfl fun K hK => ?_
   obtain ⟨dc0, dc1, dc2, dc3, dc4, dc5⟩ := HD.out.c6
   obtain ⟨df0, df1, df2, df3, df4, df5⟩ := HD.out.f6
   go_simp
   refine hK.out _ _ (fun h => absurd (by decide) h) ?_
   clear hK K
   try simp only [pt]
   refine doneT (by kernel_rfl) ?_ _
   have q8 := HD.out.lt
   have q9 := HR.out.lt
   have q10 := HT.out.ltT
   have q11 := HT.out.ltG
   have q12 := HF.out.lt
   have q13 := HE.out.lt
   have q14 := HE.out.ltV
   have hnew := (HD.out.set_ 4 (.pointer (some ⟨eb, 0, none⟩)))
   have hm := ((Mod.refl [db] w1).sl 4 (.pointer (some ⟨eb, 0, none⟩)))
   simp only [List.setIfInBounds_toArray, List.set_cons_zero, List.set_cons_succ] at hnew
   refine nameM hnew hm ?_
   clear hnew hm
   rintro w3 ⟨hnew, hm⟩
   replace HR := qd (HR.out.mod hm (by simp <;> omega))
   replace HT := qd (HT.out.mod hm (by simp <;> omega) (by simp <;> omega))
   replace HB := qd (HB.out.mod hm (fun b hb => by have hh := hne b hb; simp <;> omega))
   replace HF := qd (HF.out.mod hm (by simp <;> omega))
   replace HE := qd (HE.out.mod hm (by simp <;> omega) (by simp <;> omega))
   have z15 := (hm).size
   replace Hmod := qd (Hmod.out.trans hm (fun _ hh _ => hh) (by intro k hk hl; simp [footB] at hk ⊢ <;> omega))
   replace HD := qd hnew
   clear hnew hm
   have hndB := HND.out
   have hd4 : ∀ b ∈ bl, _ := hne
   have hDM : DuM w3 db rb cap ob og fb vc eb vb c2 (bl.map fun b => b.1) (blTabs bl) T (List.replicate bl.length (prepT n n)) n depth 0 := by
    have hlt1 : (bl.map fun b => b.1).length = bl.length := List.length_map ..
    have hlt2 : (blTabs bl).length = bl.length := List.length_map ..
    refine ⟨by rw [hlt1, hlt2]; exact HD.out, HR.out, fun q hq => ?_, by rw [fst_blTabs]; exact HF.out, by rw [fst_blTabs]; exact HE.out, HT.out, HB.out.tabsAt hndB, HPw.out, by rw [hlt2]; exact ⟨n1, n2⟩, by rw [hlt1, hlt2], HDp.out, ?_⟩
    ·obtain ⟨b, hb, rfl⟩ := List.mem_map.1 hq
     obtain ⟨i, hi⟩ := List.getElem?_of_mem hb
     exact HB.out.done i b hi (List.getElem?_eq_some_iff.1 hi).1
    ·have hlow : ∀ q ∈ bl.map (fun b => b.1) ++ flatB (blTabs bl), q < w.heap.size ∧ db ≠ q ∧ rb ≠ q ∧ ob ≠ q ∧ og ≠ q := fun q hq => by
      obtain ⟨b, hb, hqb⟩ := List.mem_flatMap.1 (mem_flat_blocks hq)
      have hh := hne b hb
      simp [blBlocks] at hqb
      rcases hqb with rfl | rfl | rfl <;> omega
     unfold footM
     simp only [List.nodup_cons, List.mem_cons, not_or]
     have hz : ∀ q, (q = db ∨ q = rb ∨ q = ob ∨ q = og ∨ w.heap.size ≤ q) → q ∉ bl.map (fun b => b.1) ++ flatB (blTabs bl) := fun q hq hm => by
      have := hlow q hm
      omega
     refine ⟨⟨by omega, by omega, by omega, by omega, by omega, by omega, hz _ (by omega)⟩, ⟨by omega, by omega, by omega, by omega, by omega, hz _ (by omega)⟩, ⟨by omega, by omega, by omega, by omega, hz _ (by omega)⟩, ⟨by omega, by omega, by omega, hz _ (by omega)⟩, ⟨by omega, by omega, hz _ (by omega)⟩, ⟨by omega, hz _ (by omega)⟩, hz _ (by omega), (perm_blocks bl).nodup_iff.1 hndB⟩
   go_wp2
   go_end0
   first | exact ⟨rfl, fb, vc, eb, vb, ⟨c2, hDM⟩, hfb, by omega, by omega, Hmod.out⟩ | exact ⟨rfl, fb, vc, eb, vb, c2, hDM, hfb, by omega, by omega, Hmod.out⟩
end
section
set_option maxRecDepth 100000
set_option maxHeartbeats 8000000
open Go.RowKit AmC
theorem dual_Step_mov {W0 : World} {E : Nat → Addr} (db rb cap ob og fb fcap eb vb vcap : Nat) (bbs : List Nat) (bs : List (Nat × Nat)) (T : TabM) (Ts : List TabM) (n depth next : Nat) (P : MP) (x : Mtr) (w : World) (h : DuM w db rb cap ob og fb fcap eb vb vcap bbs bs T Ts n depth next)
  (hok : TOk T) (hn : next < T.gs.length) (hfit : Fits bs.length depth Ts (entsG (T.gs.getD next []))) (hM : MetP w P x) (hE : Env W0 E w) (hmf : P.mb ∉ footM db rb fb eb vb ob og bbs bs) (hb0 : W0.heap.size ≤ P.mb) (hbf : ∀ q ∈ footM db rb fb eb vb ob og bbs bs, W0.heap.size ≤ q) :
  Calls Tryz.prog 211 #[dualP db, .pointer (some ⟨P.mb, P.mo, none⟩)] w fun e w' => e = .returned (.bool true) ∧ DuM w' db rb cap ob og fb fcap eb vb vcap bbs bs (takeN T next 8) (moveL bs.length depth ((x.add (cU 1) 1).add cV 1, Ts) (entsG (T.gs.getD next []))).2 n depth (next + 1) ∧ MetP w' P (moveL bs.length depth ((x.add (cU 1) 1).add cV 1, Ts) (entsG (T.gs.getD next []))).1 ∧ Mod (P.mb :: footM db rb fb eb vb ob og bbs bs) w w' := by
 have hnd := h.nd
 unfold footM at hnd hmf hbf
 simp only [List.nodup_cons, List.mem_cons, not_or, List.nodup_append, List.mem_append] at hnd hmf
 obtain ⟨⟨d1, d2, d3, d4, d5, d6, d7, d8⟩, ⟨r1, r2, r3, r4, r5, r6, r7⟩, ⟨f1, f2, f3, f4, f5, f6⟩, ⟨e1, e2, e3, e4, e5⟩, ⟨v1, v2, v3, v4⟩, ⟨o1, o2, o3⟩, ⟨g1, g2⟩, hn1, hn2, hn3⟩ := hnd
 obtain ⟨m1, m2, m3, m4, m5, m6, m7, m8, m9⟩ := hmf
 have hfl : ∀ b ∈ bs, b.1 ∈ flatB bs ∧ b.2 ∈ flatB bs := fun b hb => ⟨mem_flatB.2 ⟨b, hb, .inl rfl⟩, mem_flatB.2 ⟨b, hb, .inr rfl⟩⟩
 have hS := evac_Step (W0 := W0) (E := E) eb ob og vb vcap depth next bs T Ts P x h.many h.deep w h.ev h.tab hok hn h.tabs hfit hM hE
  (fun b hb => by
   obtain ⟨q1, q2⟩ := hfl b hb
   simp only [List.mem_cons, List.not_mem_nil, or_false, not_or]
   exact ⟨⟨fun e => m9 (e ▸ q1), fun e => e5 (e ▸ q1), fun e => v4 (e ▸ q1), fun e => o3 (e ▸ q1), fun e => g2 (e ▸ q1)⟩, ⟨fun e => m9 (e ▸ q2), fun e => e5 (e ▸ q2), fun e => v4 (e ▸ q2), fun e => o3 (e ▸ q2), fun e => g2 (e ▸ q2)⟩⟩)
  (by simp; omega) (by simp; omega) (by simp; omega) hb0 (hbf _ (by simp)) (hbf _ (by simp)) (hbf _ (by simp)) (fun b hb => ⟨hbf _ (by simp [hfl b hb]), hbf _ (by simp [hfl b hb])⟩)
 have bc3 := h.blk.cell 3
 have bc4 := h.blk.cell 4
 simp only [gl] at bc3 bc4
 have HRd := qd (dual_Ready_yes db fb bs.length fcap w bc3)
 have HS := qd hS
 have HH := qd h
 unfold dualP at HRd ⊢
 clear h hS hfit
 go_enter Tryz.func211, Tryz.ntmps211
 go_wp2_with fail
 refine (HRd.out).mono ?_
 rintro y w1 ⟨rfl, rfl⟩
 go_wp2_with fail
 refine (HS.out).mono ?_
 rintro y w1 ⟨rfl, hEv, hT, hTs, hM1, hm⟩
 have HF := qd (show DuM w1 db rb cap ob og fb fcap eb vb vcap bbs bs (takeN T next 8) (moveL bs.length depth ((x.add (cU 1) 1).add cV 1, Ts) (entsG (T.gs.getD next []))).2 n depth (next + 1) from by
  have hap : ∀ q, q ≠ P.mb → q ≠ eb → q ≠ ob → q ≠ og → q ∉ flatB bs → q ∉ P.mb :: eb :: ob :: og :: flatB bs := fun q a1 a2 a3 a4 a5 => by simp only [List.mem_cons, not_or]; exact ⟨a1, a2, a3, a4, a5⟩
  refine ⟨HH.out.blk.mod hm (hap _ (by omega) (by omega) (by omega) (by omega) (by assumption)), HH.out.row.mod hm (hap _ (by omega) (by omega) (by omega) (by omega) (by assumption)), fun b hb => (HH.out.blds b hb).mod hm (hap _ (fun e => m8 (e ▸ hb)) (fun e => e4 (e ▸ hb)) (fun e => o2 (e ▸ hb)) (fun e => g1 (e ▸ hb)) (fun hq => hn3 b hb b hq rfl)),
   HH.out.fresh.mod hm (hap _ (by omega) (by omega) (by omega) (by omega) (by assumption)), hEv, hT, hTs, HH.out.pow, HH.out.many, HH.out.eq, HH.out.deep, HH.out.nd⟩)
 have HM := qd (hm.more (T := P.mb :: footM db rb fb eb vb ob og bbs bs) (by intro q hq; unfold footM; simp only [List.mem_cons, List.mem_append] at hq ⊢; rcases hq with h | h | h | h | h <;> simp [h]))
 have HM1 := qd hM1
 clear hEv hT hTs hM1 hm
 go_wp2
 go_ret
 exact ⟨rfl, HF.out, HM1.out, HM.out⟩
end
end Go.Proofs.YtcgjgfgkdoohlaaGreatDoor
