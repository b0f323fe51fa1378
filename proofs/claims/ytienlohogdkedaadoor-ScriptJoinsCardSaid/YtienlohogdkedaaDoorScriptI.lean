/- amblerlaw31.ScriptOps: its walk: whatever the operations and the kind, true. -/
import Derived.Test.YtienlohogdkedaaDoorScriptH
import Derived.Test.YtienlohogdkedaaDoorLaw30a
import Derived.Test.YtienlohogdkedaaDoorBackW
import Derived.Deep.Cut
import Derived.Deep.CutRange
namespace Go.Proofs.YtienlohogdkedaaDoor
open Go.RowKit AmS
theorem info_ROp : (Tryd.prog.info? 28).map (fun i => (i.zero, i.size, i.bytes)) = some (some (.agg #[.int .i64 0, .int .u64 0, .int .u64 0, .int .u64 0, .int .i64 0]), 5, 40) := by kernel_rfl
theorem slty_ROp : SlTy Tryd.prog 24 28 5 40 := slTy Tryd.underlying24 info_ROp rfl (by decide) (by decide)
theorem firstsGo_any (x : Int) : ∀ (l pre : List SOp), ((pre.any fun e => keyedP e.kind && e.key == x) || (firstsGo pre l).any (fun e => e.key == x)) = ((pre.any fun e => keyedP e.kind && e.key == x) || l.any (fun e => keyedP e.kind && e.key == x))
  | [], pre => by simp [firstsGo]
  | o :: t, pre => by
    have ih := firstsGo_any x t (pre ++ [o])
    have hs : sameKeyed o = fun e => keyedP e.kind && e.key == o.key := rfl
    simp only [List.any_append, List.any_cons, List.any_nil, Bool.or_false] at ih
    unfold firstsGo
    cases hK : keyedP o.kind with
    | false =>
      rw [hK] at ih
      simp only [Bool.false_and, Bool.or_false] at ih
      simp [ih, hK]
    | true =>
      rw [hK] at ih
      simp only [Bool.true_and] at ih
      cases hp : pre.any (sameKeyed o) with
      | true =>
        by_cases hx : o.key = x
        · subst hx
          rw [hs] at hp
          simp [hp]
        · have : (o.key == x) = false := by simpa using hx
          rw [this] at ih
          simp only [Bool.or_false] at ih
          simp [ih, hK, this]
      | false =>
        simp only [Bool.not_false, Bool.and_true, if_true, List.any_cons, hK, Bool.true_and]
        rw [← Bool.or_assoc, ih, Bool.or_assoc]
theorem firsts_any (l : List SOp) (o : SOp) : (firsts l).any (fun e => e.key == o.key) = l.any (sameKeyed o) := by
  have := firstsGo_any o.key l []
  simp only [List.any_nil, Bool.false_or] at this
  exact this
/-- an empty row in a block of its own -/
theorem own_empty (w : World) (base e size : Nat) (h : base ≤ w.heap.size) : (w.alloc (.cells #[] e)).ownsRow base e size (.slice (some ⟨w.heap.size, 0, none⟩) 0 0) 0 [] :=
  ⟨by simp, .inr ⟨w.heap.size, 0, #[], rfl, h, heap_alloc_new w _, by omega, by decide, by simp, by simp⟩⟩
theorem own_empty2 (w : World) (base e size : Nat) (o : Obj) (h : base ≤ w.heap.size) : ((w.alloc o).alloc (.cells #[] e)).ownsRow base e size (.slice (some ⟨w.heap.size + 1, 0, none⟩) 0 0) 0 [] := by
  have := own_empty (w.alloc o) base e size (by simp; omega)
  simpa using this
/-- where the loop of ScriptOps stands -/
structure OpsAt (w : World) (l : List SOp) (k : Nat) (va vk : Value) (wr : World) : Prop where
  all : wr.ownsRow w.heap.size 28 5 va k (opsCells (l.take k))
  known : wr.ownsRow w.heap.size 86 3 vk (firsts (l.take k)).length (hashCells (firsts (l.take k)))
  below : Below w.heap.size w wr
/-- none of the first so many entries is of the key, or one is -/
structure There (f : List SOp) (o : SOp) (j : Nat) (b : Bool) : Prop where
  is : (f.take j).any (fun e => e.key == o.key) = b
theorem hashCells_snoc (l : List SOp) (o : SOp) : hashCells (l ++ [o]) = hashCells l ++ entCells3 o.key 0 o.hash := by simp [hashCells]
theorem kinds4 (k : Int) : (keyedP k = true ∧ (k == 2) = true ∧ iterK k = false ∧ 0 < k ∧ k < 9) ∨ (keyedP k = true ∧ (k == 2) = false ∧ iterK k = false ∧ 0 < k ∧ k < 9) ∨
    (keyedP k = false ∧ (k == 2) = false ∧ iterK k = true ∧ 0 < k ∧ k < 9) ∨ (keyedP k = false ∧ (k == 2) = false ∧ iterK k = false) := by
  by_cases h1 : k = 1
  · subst h1; decide
  · by_cases h2 : k = 2
    · subst h2; decide
    · by_cases h3 : k = 3
      · subst h3; decide
      · by_cases h7 : k = 7
        · subst h7; decide
        · by_cases h8 : k = 8
          · subst h8; decide
          · refine .inr (.inr (.inr ⟨?_, ?_, ?_⟩))
            · simp [keyedP, h1, h2, h3]
            · simp [h2]
            · simp [iterK, h7, h8]
theorem names_cell (m : Nat) (h : m < 9) : (names.map strV).toArray[m]? = some (.string ⟨(names.getD m []).toArray⟩) := by
  have hl : names.length = 9 := rfl
  have : m < names.length := by omega
  simp [List.getElem?_eq_getElem this, strV]
theorem max100 {n : Nat} (h : ¬ (100 : Int) < (n : Int)) : n ≤ 100 := by omega
set_option maxHeartbeats 4000000 in
set_option maxRecDepth 100000 in
theorem ops_walk {E : Nat → Addr} (A : Option Addr) (n c : Nat) (kind : Int) (l : List SOp) (w : World) (h : Reads w w.heap.size 5 A n (opsCells l)) (hcap : n ≤ c) (hwf : ∀ o ∈ l, opWf o) (hn : n ≤ 100) (hE : ScrB E w) :
    Calls Tryd.prog 10 #[.slice A n c, .int .i64 kind] w (LawTrue w) := by
  have hl : l.length = n := by have := h.1; rw [opsCells_length] at this; omega
  have hn' : ¬ (100 : Int) < (n : Int) := by omega
  have HA := Lib.hid (alive31 w hE)
  have HOf := Lib.hid (fun (o : SOp) (W : World) => law31_Of o W)
  have HRight := Lib.hid (fun (o : SOp) (W : World) => script_Right o W)
  unfold opV at HOf HRight
  have HL := Lib.hid hl
  clear hl
  go_enter Tryd.func10, Tryd.ntmps10
  go_wp2_with fail
  refine HA.out.mono ?_
  rintro e W ⟨rfl, hbW⟩
  go_wp2
  go_loopw [4, 5, 6, 8, 9, 10, 11, 12, 13, 14, 16, 30] (fun v4 va vk _ _ _ _ _ _ _ _ i wr => ∃ k : Nat, k ≤ n ∧ i = .int .i64 k ∧ v4 = .bool false ∧ OpsAt W l k va vk wr) (fun _ _ _ _ _ _ _ _ _ _ _ i _ => n - (intOf i).toNat)
  case atStart => exact ⟨0, by omega, rfl, rfl, (own_empty W W.heap.size 28 5 (Nat.le_refl _)).alloc _, own_empty2 W W.heap.size 86 3 _ (Nat.le_refl _), ((Below.refl _ _).alloc (Nat.le_refl _) _).alloc ((Below.refl _ _).alloc (Nat.le_refl _) _).size _⟩
  case round =>
    obtain ⟨k, hk, rfl, rfl, hat⟩ := hrel
    obtain ⟨wo, rfl⟩ : ∃ wo : World, wo = wr := ⟨_, rfl⟩
    by_cases hlt : k < n
    · have ho : l[k]? = some (l[k]'(by rw [HL.out]; omega)) := List.getElem?_eq_getElem _
      generalize l[k]'(by rw [HL.out]; omega) = o at ho
      have hBw := hbW.trans (hat.below.mono hbW.size)
      obtain ⟨b, off, rfl, hb, c0, c1, c2, c3, c4⟩ := op_cells (h.below hBw) ho
      have HO := Lib.hid ho
      have hlt' : (k : Int) < (n : Int) := by omega
      have hall := hat.all
      have hknown := hat.known
      have hbel := hat.below
      have hva : ∀ g, u5.ownBlock = some g → g < wo.heap.size := fun g e => (hall.lt g e).2
      clear hat ho
      go_wp2_with fail
      refine (HOf.out o _).mono ?_
      rintro e w1 ⟨rfl, hb1⟩
      have hall1 := (own_below (hall.alloc _) hb1 (Nat.le_refl _))
      have hknown1 := (own_below (hknown.alloc _) hb1 (Nat.le_refl _))
      have hbel1 := (hbel.alloc hbel.size _).trans (hb1.mono (by have := hbel.size; simp; omega))
      have hB1 := (Blk.new wo 27 #[.int .i64 o.kind, .int .u64 o.key, .int .u64 o.val, .int .u64 o.hash, .int .i64 o.iter]).below hb1 (by simp)
      have hbase : W.heap.size ≤ wo.heap.size := hbel.size
      clear hall hknown hbel hb1 c0 c1 c2 c3 c4
      have hall2 := hall1.alloc (.cells #[.int .i64 o.kind, .int .u64 o.key, .int .u64 o.val, .int .u64 o.hash, .int .i64 o.iter] 28)
      have hknown2 := hknown1.alloc (.cells #[.int .i64 o.kind, .int .u64 o.key, .int .u64 o.val, .int .u64 o.hash, .int .i64 o.iter] 28)
      have hbel2 := hbel1.alloc hbel1.size (.cells #[.int .i64 o.kind, .int .u64 o.key, .int .u64 o.val, .int .u64 o.hash, .int .i64 o.iter] 28)
      have hB2 := hB1.alloc (.cells #[.int .i64 o.kind, .int .u64 o.key, .int .u64 o.val, .int .u64 o.hash, .int .i64 o.iter] 28)
      clear hall1 hknown1 hbel1 hB1
      go_upto_region 11 with (at_builtin; refine wpList_append1 rfl rfl slty_ROp hall2 rfl rfl (by simp) rfl rfl (by omega) hbel2.size ?_; intro v4 w4 hown4 hg4)
      have hknown4 := hg4.keep hknown2 (own_apart hknown2 hall2 (by decide))
      have hbel4 := hbel2.trans hg4.below
      have hB4 := hB2.grown hg4.by_ (fun e => by have := hva _ e.symm; omega)
      have hsz4 : wo.heap.size < w4.heap.size := hB4.lt
      clear hall2 hknown2 hbel2 hB2 hg4 hva
      have hc0 := hB4.cell 0
      have hc1 := hB4.cell 1
      have hc2 := hB4.cell 2
      have hc3 := hB4.cell 3
      have hc4 := hB4.cell 4
      simp only [List.getElem?_toArray, List.getElem?_cons_zero, List.getElem?_cons_succ] at hc0 hc1 hc2 hc3 hc4
      go_cut [10, 11, 12] from 31 to 138 (fun v10 v11 v12 wx => v10 = .bool (keyedP o.kind) ∧ v11 = .bool (o.kind == 2) ∧ v12 = .bool (iterK o.kind) ∧ ∃ q, wx = w4.drewN q)
      case first =>
        by_cases h1 : 0 < o.kind
        · have hke : keyedP o.kind = decide (o.kind < 4) := by rw [← keyed_eq]; unfold keyedR; simp [h1]
          have HK := Lib.hid hke
          clear hke
          by_cases h7 : o.kind = 7
          · have hd7 : (o.kind == 7) = true := by simp [h7]
            have H7 := Lib.hid h7
            clear h7
            go_quiet (fail)
            go_wp2
            all_goals (go_meet; case rel => exact ⟨by rw [HK.out], rfl, by simp [iterK, H7.out], _, rfl⟩)
          · have H7 := Lib.hid h7
            go_quiet (fail)
            go_wp2
            all_goals (go_meet; case rel => exact ⟨by rw [HK.out], rfl, rfl, _, rfl⟩)
        · have hke : keyedP o.kind = false := by rw [← keyed_eq]; unfold keyedR; simp [h1]
          have HK := Lib.hid hke
          have h7 : ¬ o.kind = 7 := by omega
          clear hke
          go_quiet (fail)
          go_wp2
          all_goals (go_meet; case rel => exact ⟨by rw [HK.out], rfl, rfl, _, rfl⟩)
      case rest =>
        obtain ⟨rfl, rfl, rfl, q, rfl⟩ := hcut
        obtain ⟨W4, hW4⟩ : ∃ W4, W4 = w4.drewN q := ⟨_, rfl⟩
        have hall5 : W4.ownsRow W.heap.size 28 5 v4 (k + 1) (opsCells (l.take k) ++ opCells o) := by rw [hW4]; exact hown4
        have hknown5 : W4.ownsRow W.heap.size 86 3 u6 (firsts (l.take k)).length (hashCells (firsts (l.take k))) := by rw [hW4]; exact hknown4
        have hbel5 : Below W.heap.size W W4 := by rw [hW4]; exact below_drewN hbel4 q
        have hB5 : Blk W4 wo.heap.size 27 #[.int .i64 o.kind, .int .u64 o.key, .int .u64 o.val, .int .u64 o.hash, .int .i64 o.iter] := by rw [hW4]; exact hB4
        rw [← hW4]
        clear hW4 hown4 hknown4 hbel4 hB4 hc0 hc1 hc2 hc3 hc4
        have hc0 := hB5.cell 0
        have hc1 := hB5.cell 1
        have hc2 := hB5.cell 2
        have hc3 := hB5.cell 3
        have hc4 := hB5.cell 4
        simp only [List.getElem?_toArray, List.getElem?_cons_zero, List.getElem?_cons_succ] at hc0 hc1 hc2 hc3 hc4
        go_upto_region 12 with fail
        go_cut [10, 11, 12, 13] from 31 to 138 (fun v10 v11 v12 v13 wx => v10 = .bool (keyedP o.kind) ∧ v11 = .bool (o.kind == 2) ∧ v12 = .bool (iterK o.kind) ∧ v13 = .bool (rightB o) ∧ wx = W4)
        case first =>
          rcases kinds4 o.kind with ⟨hK, hV, hI, hp, hq⟩ | ⟨hK, hV, hI, hp, hq⟩ | ⟨hK, hV, hI, hp, hq⟩ | ⟨hK, hV, hI⟩
          all_goals
            have HR := Lib.hid (show rightB o = (isKind o.kind && decide (0 ≤ o.iter) && decide (o.iter ≤ 1000000) && (_ || (o.key == 0 && o.hash == 0)) && (_ || o.val == 0) && (_ || o.iter == 0)) from by unfold rightB; rw [hK, hV, hI])
            have HK := Lib.hid hK
            have HV := Lib.hid hV
            have HI := Lib.hid hI
            rw [hK, hV, hI]
            clear hK hV hI
            go_wp2
            all_goals (go_meet; case rel => exact ⟨by rw [HK.out], by rw [HV.out], by rw [HI.out], by rw [HR.out]; congr 1; unfold isKind; rw [Bool.eq_iff_iff]; simp; try omega, rfl⟩)
        case rest =>
          obtain ⟨rfl, rfl, rfl, rfl, rfl⟩ := hcut
          obtain ⟨K, hK⟩ : ∃ K, keyedP o.kind = K := ⟨_, rfl⟩
          have HK := Lib.hid hK
          rw [hK]
          clear hK
          go_wp2_with fail
          refine (HRight.out o _).mono ?_
          rintro e W5 ⟨rfl, h5⟩
          have hall6 : W5.ownsRow W.heap.size 28 5 v4 (k + 1) (opsCells (l.take k) ++ opCells o) := by rw [← h5]; exact hall5.alloc _
          have hknown6 : W5.ownsRow W.heap.size 86 3 u6 (firsts (l.take k)).length (hashCells (firsts (l.take k))) := by rw [← h5]; exact hknown5.alloc _
          have hbel6 : Below W.heap.size W W5 := by rw [← h5]; exact hbel5.alloc hbel5.size _
          have hB6 : Blk W5 wo.heap.size 27 #[.int .i64 o.kind, .int .u64 o.key, .int .u64 o.val, .int .u64 o.hash, .int .i64 o.iter] := by rw [← h5]; exact hB5.alloc _
          clear h5 hall5 hknown5 hbel5 hB5 hc0 hc1 hc2 hc3 hc4
          have hbb : (rightB o != rightB o) = false := by simp
          obtain ⟨A6, c6, rfl⟩ := own_form hknown6
          have hRk := Reads.of_own hknown6
          obtain ⟨f, hf⟩ : ∃ f, firsts (l.take k) = f := ⟨_, rfl⟩
          have hlk : (l.take k).length = k := by rw [List.length_take, HL.out]; omega
          have hfl : f.length ≤ k := by have := firsts_length (l.take k); rw [hf, hlk] at this; exact this
          have hfs := firsts_snoc (l.take k) o
          rw [← take_snoc_op HO.out, ← firsts_any, hf, HK.out] at hfs
          have HFS := Lib.hid hfs
          have hta : opsCells (l.take (k + 1)) = opsCells (l.take k) ++ opCells o := by rw [take_snoc_op HO.out, opsCells_snoc]
          have HT := Lib.hid hta
          have hlk1 : (l.take (k + 1)).length = k + 1 := by rw [List.length_take, HL.out]; omega
          rw [hf] at hknown6 hRk ⊢
          have hsz6 : W.heap.size ≤ W5.heap.size := hbel6.size
          clear hf hfs hta hlk hlk1
          go_wp2
          go_loopw [14, 16, 112] (fun v14 _ i wx => ∃ (j : Nat) (t : Bool), j ≤ f.length ∧ i = .int .i64 j ∧ v14 = .bool t ∧ There f o j t ∧ Below W5.heap.size W5 wx) (fun _ _ i _ => f.length - (intOf i).toNat)
          case atStart => exact ⟨0, false, by omega, rfl, rfl, ⟨by simp⟩, Below.refl _ _⟩
          case round =>
            obtain ⟨j, t, hj, rfl, rfl, ⟨hth⟩, hbx⟩ := hrel
            obtain ⟨wx, rfl⟩ : ∃ wx : World, wx = wr := ⟨_, rfl⟩
            by_cases hjt : j < f.length
            · have hx : f[j]? = some (f[j]'hjt) := List.getElem?_eq_getElem _
              generalize f[j]'hjt = x at hx
              obtain ⟨gb, off', rfl, hb', d0, d1, d2⟩ := ent_cells (hRk.below hbx) hx
              have hBx := hB6.below hbx hB6.lt
              have a1 : ∀ p, (wx.alloc p).cell? ⟨wo.heap.size, 1, none⟩ = some (.int .u64 o.key) := fun p => (hBx.alloc p).cell 1
              have hth' : (f.take (j + 1)).any (fun e => e.key == o.key) = (t || (x.key == o.key)) := by
                rw [take_snoc_op hx, List.any_append, hth]; simp
              have HTH := Lib.hid hth'
              have hjt' : (j : Int) < (f.length : Int) := by omega
              have hbn := hbx.alloc hbx.size (.cells #[.int .u64 x.key, .int .u64 0, .int .u64 x.hash] 86)
              clear hth hth' hx hBx hRk
              cases t with
              | true =>
                go_wp2
                go_roundw
                case rel => exact ⟨j + 1, true, by omega, by go_num, rfl, ⟨by rw [HTH.out]; rfl⟩, hbn⟩
                case measure => simp [intOf]; omega
              | false =>
                by_cases hkx : x.key = o.key
                · have HKX := Lib.hid hkx
                  have hkk : (x.key == o.key) = true := by simp [hkx]
                  clear hkx
                  go_wp2
                  go_roundw
                  case rel => exact ⟨j + 1, true, by omega, by go_num, rfl, ⟨by rw [HTH.out]; simp [HKX.out]⟩, hbn⟩
                  case measure => simp [intOf]; omega
                · have HKX := Lib.hid hkx
                  have hkk : (x.key == o.key) = false := by simp [hkx]
                  go_wp2
                  go_roundw
                  case rel => exact ⟨j + 1, false, by omega, by go_num, rfl, ⟨by rw [HTH.out]; simp [HKX.out]⟩, hbn⟩
                  case measure => simp [intOf]; omega
            · obtain rfl : j = f.length := by omega
              rw [List.take_length] at hth
              have hallx := own_below hall6 hbx (Nat.le_refl _)
              have hknownx := own_below hknown6 hbx (Nat.le_refl _)
              have hbelx := hbel6.trans (hbx.mono hsz6)
              have hBx := hB6.below hbx hB6.lt
              have hc1 := hBx.cell 1
              have hc3 := hBx.cell 3
              simp only [List.getElem?_toArray, List.getElem?_cons_zero, List.getElem?_cons_succ] at hc1 hc3
              have hfs := HFS.out
              rw [hth] at hfs
              have hjt' : ¬ (f.length : Int) < (f.length : Int) := by omega
              cases K with
              | false =>
                rw [Bool.false_and, if_neg (by simp), List.append_nil] at hfs
                have HE := Lib.hid hfs
                clear hfs hth
                go_wp2
                go_roundw
                case rel => exact ⟨k + 1, by omega, by go_num, rfl, by rw [HT.out]; exact hallx, by rw [HE.out]; exact hknownx, hbelx⟩
                case measure => simp [intOf]; omega
              | true =>
                cases t with
                | true =>
                  rw [Bool.true_and, if_neg (by simp), List.append_nil] at hfs
                  have HE := Lib.hid hfs
                  clear hfs hth
                  go_wp2
                  go_roundw
                  case rel => exact ⟨k + 1, by omega, by go_num, rfl, by rw [HT.out]; exact hallx, by rw [HE.out]; exact hknownx, hbelx⟩
                  case measure => simp [intOf]; omega
                | false =>
                  rw [Bool.true_and, if_pos (by simp)] at hfs
                  have HE := Lib.hid hfs
                  clear hfs hth
                  go_wp2_with (at_builtin; refine wpList_append1 rfl rfl slty_Ent hknownx rfl rfl (by simp) rfl rfl (by omega) hbelx.size ?_; intro v7 w7 hown7 hg7)
                  have hall7 := hg7.keep hallx (own_apart hallx hknownx (by decide))
                  go_roundw
                  case rel => exact ⟨k + 1, by omega, by go_num, rfl, by rw [HT.out]; exact hall7, by rw [HE.out, List.length_append, hashCells_snoc]; exact hown7, hbelx.trans hg7.below⟩
                  case measure => simp [intOf]; omega
    · obtain rfl : k = n := by omega
      have hBw := hbW.trans (hat.below.mono hbW.size)
      have hta : l.take k = l := by rw [← HL.out]; exact List.take_length
      have hall := hat.all
      have hknown := hat.known
      rw [hta] at hall hknown
      obtain ⟨A5, c5, rfl⟩ := own_form hall
      obtain ⟨A6, c6, rfl⟩ := own_form hknown
      obtain ⟨f, hf⟩ : ∃ f, firsts l = f := ⟨_, rfl⟩
      rw [hf] at hknown ⊢
      have hfl : f.length ≤ k := by have := firsts_length l; rw [hf, HL.out] at this; exact this
      have HHash := Lib.hid (fun (W' : World) (hb : Below w.heap.size w W') => show Calls Tryd.prog 52 #[.slice A k c] W' (fun e w' => ∃ v, e = .returned v ∧ w'.ownsRow W'.heap.size 86 3 v f.length (hashCells f) ∧ Below W'.heap.size W' w') from hf ▸ script_Hashes A k c l W' ((h.below hb).more hb.size) (by omega) hwf)
      have HWord := Lib.hid (fun (W' : World) (hb : Below w.heap.size w W') => script_Word (E := E) kind W' (hE.scr.below hb (Nat.le_refl _)))
      have HWords := Lib.hid (fun (W' : World) => ref_Words W')
      have hRk := Reads.of_own hknown
      have hlt' : ¬ (k : Int) < (k : Int) := by omega
      clear hf hta hknown
      unfold strV at HWord
      by_cases hkn : isKind kind = true
      · have hr := kinds8' hkn
        obtain ⟨m, rfl⟩ := Int.eq_ofNat_of_zero_le (show 0 ≤ kind by omega)
        have hm1 : 1 ≤ m := by omega
        have hm8 : m ≤ 8 := by omega
        have hnm : (names.map strV).toArray[m]? = some (.string ⟨(names.getD m []).toArray⟩) := names_cell m (by omega)
        have hwo : wordOf (m : Int) = names.getD m [] := wordOf_at m hm1 hm8
        rw [hwo] at HWord
        obtain ⟨sw, hsw⟩ : ∃ sw : ByteArray, (⟨(names.getD m []).toArray⟩ : ByteArray) = sw := ⟨_, rfl⟩
        rw [hsw] at HWord hnm
        have HNm := Lib.hid hnm
        have hss : (sw.toList == sw.toList) = true := by simp
        have g1 : (0 : Int) < (m : Int) := by omega
        have g9 : (m : Int) < 9 := by omega
        clear hkn hr hwo hsw hnm
        cases hot : other l with
        | some i =>
          have HCons := Lib.hid (fun (W' : World) (hb : Below w.heap.size w W') => show Calls Tryd.prog 48 #[.slice A k c] W' (fun e w' => e = .returned (.tuple #[.int .i64 (i : Int), .bool false]) ∧ Below W'.heap.size W' w') from by
            have := script_Consistent A k c l W' ((h.below hb).more hb.size) (by omega) hwf
            rw [hot] at this
            exact this)
          have HOther := Lib.hid (fun (W' : World) (hb : Below wo.heap.size wo W') => show Calls Tryd.prog 49 #[.slice A5 k c5] W' (fun e w' => e = .returned (.int .i64 (i : Int)) ∧ Below W'.heap.size W' w') from by
            have := ref_Other A5 k c5 l W' (((Reads.of_own hall).below hb).more hb.size) (by omega) (own_cap hall)
            rw [hot] at this
            exact this)
          clear hot hall
          have gi : ¬ (i : Int) < 0 := by omega
          go_wp2_with fail
          refine (HCons.out _ hBw).mono ?_
          rintro e W5 ⟨rfl, hb5⟩
          go_wp2_with fail
          refine (HOther.out _ hb5).mono ?_
          rintro e W6 ⟨rfl, hb6⟩
          have hb56 : Below wo.heap.size wo W6 := hb5.trans (hb6.mono hb5.size)
          go_wp2_with fail
          refine (HWords.out _).mono ?_
          rintro e W7 ⟨rfl, h7⟩
          have hcm : W7.cell? ⟨W6.heap.size, m, none⟩ = some (.string sw) := by rw [← h7, (Blk.new W6 _ _).cell]; exact HNm.out
          have hb7 : Below wo.heap.size wo W7 := by rw [← h7]; exact hb56.alloc hb56.size _
          clear h7 hb56
          have hbw7 : Below w.heap.size w W7 := hBw.trans (hb7.mono hBw.size)
          have hk7 := hRk.below hb7
          go_wp2_with fail
          refine (HHash.out _ hbw7).mono ?_
          rintro e W8 ⟨v8, rfl, hown8, hb8⟩
          obtain ⟨A8, c8, rfl⟩ := own_form hown8
          have hbw8 : Below w.heap.size w W8 := hbw7.trans (hb8.mono hbw7.size)
          have hk8 := (hk7.below (hb8.mono hb7.size)).more (Nat.le_trans hb7.size hb8.size)
          have hr8 := Reads.of_own hown8
          go_wp2_with fail
          refine (same_entries A8 A6 f.length c8 c6 f W8 (by omega) hr8 hk8).mono ?_
          rintro e W9 ⟨rfl, hb9⟩
          have hbw9 : Below w.heap.size w W9 := hbw8.trans (hb9.mono hbw8.size)
          go_wp2_with fail
          refine (HWord.out _ hbw9).mono ?_
          rintro e W10 ⟨rfl, rfl⟩
          go_wp2
          go_ret
          exact ⟨rfl, hbw9⟩
        | none =>
          obtain ⟨z, hz, hz0⟩ : ∃ z : Int, z = -1 ∧ z < 0 := ⟨-1, rfl, by omega⟩
          have hmx : max z 0 = 0 := by omega
          have HCons := Lib.hid (fun (W' : World) (hb : Below w.heap.size w W') => show Calls Tryd.prog 48 #[.slice A k c] W' (fun e w' => e = .returned (.tuple #[.int .i64 0, .bool true]) ∧ Below W'.heap.size W' w') from by
            have := script_Consistent A k c l W' ((h.below hb).more hb.size) (by omega) hwf
            rw [hot] at this
            exact this)
          have HOther := Lib.hid (fun (W' : World) (hb : Below wo.heap.size wo W') => show Calls Tryd.prog 49 #[.slice A5 k c5] W' (fun e w' => e = .returned (.int .i64 z) ∧ Below W'.heap.size W' w') from by
            have := ref_Other A5 k c5 l W' (((Reads.of_own hall).below hb).more hb.size) (by omega) (own_cap hall)
            rw [hot] at this
            rw [hz]
            exact this)
          clear hot hall
          clear hz
          go_wp2_with fail
          refine (HCons.out _ hBw).mono ?_
          rintro e W5 ⟨rfl, hb5⟩
          go_wp2_with fail
          refine (HOther.out _ hb5).mono ?_
          rintro e W6 ⟨rfl, hb6⟩
          have hb56 : Below wo.heap.size wo W6 := hb5.trans (hb6.mono hb5.size)
          go_wp2_with fail
          refine (HWords.out _).mono ?_
          rintro e W7 ⟨rfl, h7⟩
          have hcm : W7.cell? ⟨W6.heap.size, m, none⟩ = some (.string sw) := by rw [← h7, (Blk.new W6 _ _).cell]; exact HNm.out
          have hb7 : Below wo.heap.size wo W7 := by rw [← h7]; exact hb56.alloc hb56.size _
          clear h7 hb56
          have hbw7 : Below w.heap.size w W7 := hBw.trans (hb7.mono hBw.size)
          have hk7 := hRk.below hb7
          go_wp2_with fail
          refine (HHash.out _ hbw7).mono ?_
          rintro e W8 ⟨v8, rfl, hown8, hb8⟩
          obtain ⟨A8, c8, rfl⟩ := own_form hown8
          have hbw8 : Below w.heap.size w W8 := hbw7.trans (hb8.mono hbw7.size)
          have hk8 := (hk7.below (hb8.mono hb7.size)).more (Nat.le_trans hb7.size hb8.size)
          have hr8 := Reads.of_own hown8
          go_wp2_with fail
          refine (same_entries A8 A6 f.length c8 c6 f W8 (by omega) hr8 hk8).mono ?_
          rintro e W9 ⟨rfl, hb9⟩
          have hbw9 : Below w.heap.size w W9 := hbw8.trans (hb9.mono hbw8.size)
          go_wp2_with fail
          refine (HWord.out _ hbw9).mono ?_
          rintro e W10 ⟨rfl, rfl⟩
          go_wp2
          go_ret
          exact ⟨rfl, hbw9⟩
      · have hkf : isKind kind = false := by simpa using hkn
        rw [wordOf_none hkf] at HWord
        have g : ¬ (0 < kind ∧ kind < 9) := by unfold isKind at hkf; simp at hkf; omega
        clear hkn hkf
        cases hot : other l with
        | some i =>
          have HCons := Lib.hid (fun (W' : World) (hb : Below w.heap.size w W') => show Calls Tryd.prog 48 #[.slice A k c] W' (fun e w' => e = .returned (.tuple #[.int .i64 (i : Int), .bool false]) ∧ Below W'.heap.size W' w') from by
            have := script_Consistent A k c l W' ((h.below hb).more hb.size) (by omega) hwf
            rw [hot] at this
            exact this)
          have HOther := Lib.hid (fun (W' : World) (hb : Below wo.heap.size wo W') => show Calls Tryd.prog 49 #[.slice A5 k c5] W' (fun e w' => e = .returned (.int .i64 (i : Int)) ∧ Below W'.heap.size W' w') from by
            have := ref_Other A5 k c5 l W' (((Reads.of_own hall).below hb).more hb.size) (by omega) (own_cap hall)
            rw [hot] at this
            exact this)
          clear hot hall
          have gi : ¬ (i : Int) < 0 := by omega
          go_wp2_with fail
          refine (HCons.out _ hBw).mono ?_
          rintro e W5 ⟨rfl, hb5⟩
          go_wp2_with fail
          refine (HOther.out _ hb5).mono ?_
          rintro e W6 ⟨rfl, hb6⟩
          have hb56 : Below wo.heap.size wo W6 := hb5.trans (hb6.mono hb5.size)
          go_upto_region 27 with fail
          go_cut [151] from 146 (fun v wx => v = .bool false ∧ wx = W6)
          case first =>
            by_cases hg : 0 < kind
            · have hg9 : ¬ kind < 9 := fun h => g ⟨hg, h⟩
              go_wp2
              go_meet
              case rel => exact ⟨rfl, rfl⟩
            · go_wp2
              go_meet
              case rel => exact ⟨rfl, rfl⟩
          obtain ⟨rfl, W7, rfl⟩ : _ ∧ ∃ W7, wc = W7 := ⟨hcut.1, _, rfl⟩
          have hb7 : Below wo.heap.size wo wc := by rw [hcut.2]; exact hb56
          clear hcut hb56
          have hbw7 : Below w.heap.size w wc := hBw.trans (hb7.mono hBw.size)
          have hk7 := hRk.below hb7
          go_wp2_with fail
          refine (HHash.out _ hbw7).mono ?_
          rintro e W8 ⟨v8, rfl, hown8, hb8⟩
          obtain ⟨A8, c8, rfl⟩ := own_form hown8
          have hbw8 : Below w.heap.size w W8 := hbw7.trans (hb8.mono hbw7.size)
          have hk8 := (hk7.below (hb8.mono hb7.size)).more (Nat.le_trans hb7.size hb8.size)
          have hr8 := Reads.of_own hown8
          go_wp2_with fail
          refine (same_entries A8 A6 f.length c8 c6 f W8 (by omega) hr8 hk8).mono ?_
          rintro e W9 ⟨rfl, hb9⟩
          have hbw9 : Below w.heap.size w W9 := hbw8.trans (hb9.mono hbw8.size)
          go_wp2_with fail
          refine (HWord.out _ hbw9).mono ?_
          rintro e W10 ⟨rfl, rfl⟩
          go_wp2
          go_ret
          exact ⟨rfl, hbw9⟩
        | none =>
          obtain ⟨z, hz, hz0⟩ : ∃ z : Int, z = -1 ∧ z < 0 := ⟨-1, rfl, by omega⟩
          have hmx : max z 0 = 0 := by omega
          have HCons := Lib.hid (fun (W' : World) (hb : Below w.heap.size w W') => show Calls Tryd.prog 48 #[.slice A k c] W' (fun e w' => e = .returned (.tuple #[.int .i64 0, .bool true]) ∧ Below W'.heap.size W' w') from by
            have := script_Consistent A k c l W' ((h.below hb).more hb.size) (by omega) hwf
            rw [hot] at this
            exact this)
          have HOther := Lib.hid (fun (W' : World) (hb : Below wo.heap.size wo W') => show Calls Tryd.prog 49 #[.slice A5 k c5] W' (fun e w' => e = .returned (.int .i64 z) ∧ Below W'.heap.size W' w') from by
            have := ref_Other A5 k c5 l W' (((Reads.of_own hall).below hb).more hb.size) (by omega) (own_cap hall)
            rw [hot] at this
            rw [hz]
            exact this)
          clear hot hall
          clear hz
          go_wp2_with fail
          refine (HCons.out _ hBw).mono ?_
          rintro e W5 ⟨rfl, hb5⟩
          go_wp2_with fail
          refine (HOther.out _ hb5).mono ?_
          rintro e W6 ⟨rfl, hb6⟩
          have hb56 : Below wo.heap.size wo W6 := hb5.trans (hb6.mono hb5.size)
          go_upto_region 27 with fail
          go_cut [151] from 146 (fun v wx => v = .bool false ∧ wx = W6)
          case first =>
            by_cases hg : 0 < kind
            · have hg9 : ¬ kind < 9 := fun h => g ⟨hg, h⟩
              go_wp2
              go_meet
              case rel => exact ⟨rfl, rfl⟩
            · go_wp2
              go_meet
              case rel => exact ⟨rfl, rfl⟩
          obtain ⟨rfl, W7, rfl⟩ : _ ∧ ∃ W7, wc = W7 := ⟨hcut.1, _, rfl⟩
          have hb7 : Below wo.heap.size wo wc := by rw [hcut.2]; exact hb56
          clear hcut hb56
          have hbw7 : Below w.heap.size w wc := hBw.trans (hb7.mono hBw.size)
          have hk7 := hRk.below hb7
          go_wp2_with fail
          refine (HHash.out _ hbw7).mono ?_
          rintro e W8 ⟨v8, rfl, hown8, hb8⟩
          obtain ⟨A8, c8, rfl⟩ := own_form hown8
          have hbw8 : Below w.heap.size w W8 := hbw7.trans (hb8.mono hbw7.size)
          have hk8 := (hk7.below (hb8.mono hb7.size)).more (Nat.le_trans hb7.size hb8.size)
          have hr8 := Reads.of_own hown8
          go_wp2_with fail
          refine (same_entries A8 A6 f.length c8 c6 f W8 (by omega) hr8 hk8).mono ?_
          rintro e W9 ⟨rfl, hb9⟩
          have hbw9 : Below w.heap.size w W9 := hbw8.trans (hb9.mono hbw8.size)
          go_wp2_with fail
          refine (HWord.out _ hbw9).mono ?_
          rintro e W10 ⟨rfl, rfl⟩
          go_wp2
          go_ret
          exact ⟨rfl, hbw9⟩

set_option maxHeartbeats 1000000 in
set_option maxRecDepth 100000 in
theorem ops_long {E : Nat → Addr} (A : Option Addr) (n c : Nat) (kind : Int) (w : World) (hn : 100 < n) (hE : ScrB E w) :
    Calls Tryd.prog 10 #[.slice A n c, .int .i64 kind] w (LawTrue w) := by
  have hn' : (100 : Int) < (n : Int) := by omega
  have HA := Lib.hid (alive31 w hE)
  go_enter Tryd.func10, Tryd.ntmps10
  go_wp2_with fail
  refine HA.out.mono ?_
  rintro e W ⟨rfl, hbW⟩
  go_wp2
  go_ret
  exact ⟨rfl, hbW⟩
theorem law_ops {E : Nat → Addr} (A : Option Addr) (n c : Nat) (kind : Int) (l : List SOp) (w : World) (h : Reads w w.heap.size 5 A n (opsCells l)) (hcap : n ≤ c) (hwf : ∀ o ∈ l, opWf o) (hE : ScrB E w) :
    Calls Tryd.prog 10 #[.slice A n c, .int .i64 kind] w (LawTrue w) := by
  by_cases hn : 100 < n
  · exact ops_long A n c kind w hn hE
  · exact ops_walk A n c kind l w h hcap hwf (by omega) hE
end Go.Proofs.YtienlohogdkedaaDoor
