/- slice.Keys by its contract: the distinct keys, rising. -/
import Derived.Test.YtoohcnjilmcimaaSortG
import Derived.Test.YtoohcnjilmcimaaScriptC
import Derived.Test.YtoohcnjilmcimaaScriptH
namespace Go.Proofs.Ytoohcnjilmcimaa
open Go.RowKit AmS
open Go.Sort (Holds ltInt PermIn SortedIn putRow putCells grow mapBlock onCells)

theorem info_u64k : (Try.prog.info? 27).map (fun i => (i.zero, i.size, i.bytes)) = some (some (.int .u64 0), 1, 8) := by kernel_rfl
theorem slty_u64k : SlTy Try.prog 23 27 1 8 := slTy Try.underlying23 info_u64k rfl (by decide) (by decide)
def keyVs (ks : List Int) : List Value := ks.map (Value.int .u64)
/-- a row of the call's own, as the sort sees it -/
theorem holds_own {w : World} {base g n c : Nat} {ks : List Int} (h : w.ownsRow base 27 1 (.slice (some ⟨g, 0, none⟩) n c) n (keyVs ks)) : Holds (Value.int .u64) w g 0 ks.toArray ∧ g < w.heap.size ∧ ks.length = n ∧ base ≤ g := by
  obtain ⟨h1, h2⟩ := h
  have hn : ks.length = n := by simpa [keyVs] using h1
  rcases h2 with ⟨h2, _⟩ | ⟨g', cap, cur, hv, hg, hh, hcap, hmax, hsz, htk⟩
  · cases h2
  · injection hv with hv _ _
    injection hv with hv
    injection hv with hv _ _
    subst hv
    refine ⟨fun j hj => ⟨?_, ?_⟩, (Array.getElem?_eq_some_iff.1 hh).1, hn, hg⟩
    · have hj' : j < ks.length := by simpa using hj
      have e1 : (cur.toList.take (n * 1))[j]? = some (Value.int .u64 ks[j]) := by rw [htk]; simp [keyVs, hj']
      rw [List.getElem?_take_of_lt (by omega)] at e1
      simp only [World.cell?, hh]
      have e2 : (ks.toArray)[j]! = ks[j] := by simp [hj']
      rw [e2]
      simpa using e1
    · simp [World.frozen?, hh]
theorem own_sorted {w w' : World} {base g n c : Nat} {ks : List Int} {d' : Array Int} (h : w.ownsRow base 27 1 (.slice (some ⟨g, 0, none⟩) n c) n (keyVs ks)) (hr : RowNow w g 0 ks.toArray d' w') :
    w'.ownsRow base 27 1 (.slice (some ⟨g, 0, none⟩) n c) n (keyVs d'.toList) ∧ Below base w w' := by
  obtain ⟨hH, hlt, hn, hbg⟩ := holds_own h
  obtain ⟨h1, h2⟩ := h
  obtain ⟨hs, q, os, rfl⟩ := hr
  have hs' : d'.size = n := by rw [hs]; simpa using hn
  rcases h2 with ⟨h2, _⟩ | ⟨g', cap, cur, hv, hg, hh, hcap, hmax, hsz, htk⟩
  · cases h2
  · injection hv with hv _ hc
    injection hv with hv
    injection hv with hv _ _
    subst hv hc
    have hcell : (grow (putRow (Value.int .u64) (Sort.ahead w q) g 0 d') os).heap[g]? = some (.cells (putCells (Value.int .u64) 0 d' cur) 27 (0, 0)) := by
      rw [Go.Sort.heap_grow_old _ _ (by simpa using hlt)]
      show ((w.heap).modify g _)[g]? = _
      rw [Array.getElem?_modify, if_pos rfl, hh]
      rfl
    refine ⟨⟨by simp [keyVs, hs'], .inr ⟨g, c, _, rfl, hg, hcell, hcap, hmax, by simp [putCells, hsz], ?_⟩⟩, rfl, rfl, rfl, by simp, fun k hk => ?_⟩
    · apply List.ext_getElem?
      intro i
      by_cases hi : i < n
      · rw [List.getElem?_take_of_lt (by omega)]
        have hic : i < cur.size := by omega
        simp [putCells, keyVs, hic, hs', hi]
      · rw [List.getElem?_eq_none (by simp; omega), List.getElem?_eq_none (by simp [keyVs]; omega)]
    · rw [Go.Sort.heap_grow_old _ _ (by simp; omega)]
      show ((w.heap).modify g _)[k]? = _
      rw [Array.getElem?_modify, if_neg (by omega)]
theorem perm_all {d d' : Array Int} (h : PermIn 0 d.size d d') : d'.toList.Perm d.toList := by
  have := h.2.2
  rw [show (d'.extract 0 d.size) = d' from by rw [← h.1]; simp, show d.extract 0 d.size = d from by simp] at this
  exact this
theorem rising_all {d : Array Int} {n : Nat} (hn : d.size = n) (h : SortedIn ltInt 0 n d) : d.toList.Pairwise (· ≤ ·) := by
  rw [List.pairwise_iff_getElem]
  intro i j hi hj hij
  have hi' : i < d.size := by simpa using hi
  have hj' : j < d.size := by simpa using hj
  have := h i j (by omega) hij (by omega)
  rw [getElem!_pos d i hi', getElem!_pos d j hj'] at this
  simp only [ltInt, decide_eq_false_iff_not] at this
  simp only [Array.getElem_toList]
  omega

/-- all keys, rising, in memory of the call's own -/
def KeysPost (w : World) (l : List SOp) (e : Ending) (w' : World) : Prop :=
  ∃ v ks, e = .returned v ∧ w'.ownsRow w.heap.size 27 1 v ks.length (keyVs ks) ∧ ks = keysR l ∧ ks.Perm (hashesGo [] l) ∧ Below w.heap.size w w'
set_option maxHeartbeats 2000000 in
set_option maxRecDepth 100000 in
theorem slice_Keys (A : Option Addr) (n c : Nat) (l : List SOp) (w : World) (h : Reads w w.heap.size 5 A n (opsCells l)) (hn : n ≤ 300) (hwf : ∀ o ∈ l, opWf o) :
    Calls Try.prog 7 #[.slice A n c] w (KeysPost w l) := by
  have hl : l.length = n := by have := h.1; rw [opsCells_length] at this; omega
  have hfl := firsts_length l
  have HH := Lib.hid (script_Hashes A n c l w h (by omega) hwf)
  have HF := Lib.hid (hashes_firsts l)
  clear h
  go_enter Try.func7, Try.ntmps7
  go_wp2_with fail
  refine HH.out.mono ?_
  rintro e W ⟨v, rfl, hown, hbW⟩
  obtain ⟨B0, c0, rfl⟩ := own_form hown
  have hRd := Reads.of_own hown
  clear hown
  go_wp2
  go_loopw [3, 5, 9] (fun v _ i wr => ∃ k : Nat, k ≤ (firsts l).length ∧ i = .int .i64 k ∧ wr.ownsRow W.heap.size 27 1 v k (keyVs (((firsts l).take k).map (·.key))) ∧ Below W.heap.size W wr) (fun _ _ i _ => (firsts l).length - (intOf i).toNat)
  case atStart => exact ⟨0, by omega, rfl, World.ownsRow_nil _ _ _ _, Below.refl _ _⟩
  case round =>
    obtain ⟨k, hk, rfl, hown, hB⟩ := hrel
    obtain ⟨wo, rfl⟩ : ∃ wo : World, wo = wr := ⟨_, rfl⟩
    by_cases hlt : k < (firsts l).length
    · have ho : (firsts l)[k]? = some ((firsts l)[k]'hlt) := List.getElem?_eq_getElem _
      generalize (firsts l)[k]'hlt = o at ho
      obtain ⟨b, off, rfl, hb, c1, c2, c3⟩ := ent_cells (hRd.below hB) ho
      have hlt' : (k : Int) < ((firsts l).length : Int) := by omega
      have HT := Lib.hid (show keyVs (((firsts l).take (k + 1)).map (·.key)) = keyVs (((firsts l).take k).map (·.key)) ++ [.int .u64 o.key] from by rw [take_snoc_op ho]; simp [keyVs])
      have hB2 := hB.alloc hB.size (.cells #[.int .u64 o.key, .int .u64 0, .int .u64 o.hash] 50)
      have hown2 := hown.alloc (.cells #[.int .u64 o.key, .int .u64 0, .int .u64 o.hash] 50)
      clear ho hown
      go_wp2_with (at_builtin; refine wpList_append1 rfl rfl slty_u64k hown2 rfl rfl (by simp) rfl rfl (by omega) hB2.size ?_; intro v4 w4 hown4 hg4)
      go_roundw
      case rel => exact ⟨k + 1, by omega, by go_num, by rw [HT.out]; exact hown4, hB2.trans hg4.below⟩
      case measure => simp [intOf]; omega
    · obtain rfl : k = (firsts l).length := by omega
      have hlt' : ¬ ((firsts l).length : Int) < ((firsts l).length : Int) := by omega
      rw [List.take_length, ← HF.out] at hown
      have hkl : (hashesGo [] l).length = (firsts l).length := by rw [HF.out]; simp
      rw [← hkl] at hown
      obtain ⟨ks, hks⟩ : ∃ ks, ks = hashesGo [] l := ⟨_, rfl⟩
      rw [← hks] at hown hkl
      have HKL := Lib.hid hkl
      have HKS := Lib.hid hks
      clear hkl hks
      obtain ⟨A4, c4, rfl⟩ := own_form hown
      have hbw := hbW.trans (hB.mono hbW.size)
      rcases Nat.eq_zero_or_pos ks.length with h0 | hpos
      · have hnil := List.length_eq_zero_iff.1 h0
        subst hnil
        go_wp2_with fail
        refine (sort_none A4 c4 _).mono ?_
        rintro e w5 ⟨rfl, rfl⟩
        go_wp2
        go_ret
        exact ⟨_, [], rfl, own_lower hown hbW.size, keys_eq l [] (by rw [← HKS.out]) List.Pairwise.nil, by rw [← HKS.out], hbw⟩
      · have hform : ∃ g, A4 = some ⟨g, 0, none⟩ := by
          rcases hown.2 with ⟨_, h0⟩ | ⟨g, _, _, hv, _⟩
          · omega
          · injection hv with hv _ _
            exact ⟨g, hv⟩
        obtain ⟨g, rfl⟩ := hform
        obtain ⟨hH, hg, _, _⟩ := holds_own hown
        have hsort := sort_u64 g 0 c4 ks.toArray wo hH hg (by rw [List.size_toArray]; have := HKL.out; omega)
        rw [List.size_toArray] at hsort
        have HS := Lib.hid hsort
        clear hsort hH
        go_wp2_with fail
        refine HS.out.mono ?_
        rintro e w5 ⟨rfl, d', hrow, hperm, hsorted⟩
        obtain ⟨hown5, hB5⟩ := own_sorted hown hrow
        have hds : d'.size = ks.length := by rw [hrow.1, List.size_toArray]
        have hp2 : d'.toList.Perm ks := perm_all (d := ks.toArray) (by rw [List.size_toArray]; exact hperm)
        have hr2 := rising_all hds hsorted
        have hbw5 := hbw.trans (hB5.mono hbW.size)
        go_wp2
        go_ret
        rw [HKS.out] at hp2
        exact ⟨_, d'.toList, rfl, by rw [show d'.toList.length = ks.length from by simp [hds]]; exact own_lower hown5 hbW.size, keys_eq l d'.toList hp2 hr2, hp2, hbw5⟩
end Go.Proofs.Ytoohcnjilmcimaa
