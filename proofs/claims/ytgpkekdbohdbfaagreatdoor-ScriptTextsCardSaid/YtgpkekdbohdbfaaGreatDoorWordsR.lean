/- amblerref30.Split by its contract: byte by byte, as refGo. -/
import Derived.Test.YtgpkekdbohdbfaaGreatDoorTexts
import Derived.Test.YtgpkekdbohdbfaaGreatDoorWordsP
import Derived.WalkKit
import Derived.WalkSpells
import Derived.WalkLawsBesides
import Derived.Outline
namespace Go.Proofs.YtgpkekdbohdbfaaGreatDoor
open Go.RowKit AmW

theorem results_tmp4 {fn : Func} {t u v x : Tmp} (h : fn.results = #[.tmp t, .tmp u, .tmp v, .tmp x]) (tmps : Array Value) (P : Program) (w : World) :
    (results fn tmps).run P w = .ok (.tuple #[tmps.getD t undef, tmps.getD u undef, tmps.getD v undef, tmps.getD x undef]) w := by simp [results, h]

/-- what the reference answers of a text that is not too long -/
def Ref30Post (w : World) (r : Res) (e : Ending) (w' : World) : Prop :=
  match r with
  | .bad n => e = .returned (.tuple #[.slice none 0 0, .slice none 0 0, .int .i64 (n : Int), .int .i64 3]) ∧ Below w.heap.size w w'
  | .ok l => ∃ vn va vr, e = .returned (.tuple #[vn, va, .int .i64 0, .int .i64 0]) ∧ Ref30 w w' vn va vr l []

/-- where the loop stands -/
def At30 (s : ByteArray) (R : Res) (i : Nat) (acc : List (Nat × List Bytes)) (row : List Bytes) (word : Bytes) (remark : Bool) (n : Nat) : Prop :=
  (i ≤ s.size ∧ refGo acc row word remark n (s.data.toList.drop i) = R) ∨ (i = s.size + 1 ∧ row = [] ∧ R = .ok acc)

theorem drop_byte (s : ByteArray) (i : Nat) (h : i < s.size) : s.data.toList.drop i = s[i] :: s.data.toList.drop (i + 1) := by
  rw [List.drop_eq_getElem_cons (by simpa using h)]; rfl
theorem ext1 (s : ByteArray) (i : Nat) (h : i < s.size) : (s.extract i (i + 1)).data.toList = [s[i]] := by
  rw [Lib.extract_data]
  rw [show i + 1 - i = 1 by omega]
  rw [drop_byte s i h]; rfl

theorem byte_ne {b c : UInt8} {k : Int} (h : ¬ b = c) (hk : (c.toNat : Int) = k) : ((b.toNat : Int) == k) = false := by
  rw [beq_eq_false_iff_ne]
  intro e
  exact h (UInt8.toNat_inj.1 (by omega))
theorem data_append (a b : ByteArray) : (a ++ b).data.toList = a.data.toList ++ b.data.toList := by simp

set_option maxHeartbeats 2000000 in
set_option maxRecDepth 100000 in
theorem ref30 (s : ByteArray) (w : World) (hs : s.size ≤ 60000) :
    Calls Tryz.prog 14 #[.string s] w (Ref30Post w (refGo [] [] [] false 1 s.data.toList)) := by
  have hst := Ref30.start w
  generalize hRR : refGo [] [] [] false 1 s.data.toList = R
  have hR0 := Lib.hid hRR
  clear hRR
  go_enter Tryz.func14, Tryz.ntmps14
  go_wp2
  go_loopw [6, 7, 8, 9, 10, 11, 12] (fun vn va vr vw vm vk vi wr => ∃ (i : Nat) (acc : List (Nat × List Bytes)) (row : List Bytes) (wd : ByteArray) (remark : Bool) (n : Nat),
      vi = .int .i64 i ∧ vw = .string wd ∧ vm = .bool remark ∧ vk = .int .i64 n ∧ Ref30 w wr vn va vr acc row ∧ At30 s R i acc row wd.data.toList remark n ∧ n ≤ i + 1 ∧ wd.size ≤ i ∧ acc.length ≤ i ∧ row.length ≤ i)
    (fun _ _ _ _ _ _ vi _ => s.size + 1 - (intOf vi).toNat)
  case atStart => exact ⟨0, [], [], ⟨#[]⟩, false, 1, rfl, rfl, rfl, rfl, hst, .inl ⟨Nat.zero_le _, hR0.out⟩, by omega, Nat.le_refl _, by simp, by simp⟩
  case round =>
    obtain ⟨i, acc, row, wd, remark, n, rfl, rfl, rfl, rfl, h, hat, hn, hw, hacc, hrow⟩ := hrel
    clear hst
    obtain ⟨A8, cc8, rfl⟩ := own_form h.row
    rcases hat with ⟨hi, hat⟩ | ⟨hi, hrw, hat⟩
    · by_cases hlt : i < s.size
      · rw [drop_byte s i hlt] at hat
        have b7 : ((i : Int) == (s.size : Int)) = false := by simp; omega
        by_cases hb : s[i] = 10
        · have b1 : (((s[i]).toNat : Int) == 10) = true := by rw [hb]; rfl
          by_cases hwd : wd.size = 0
          · have hw0 : wd.data.toList = [] := by rw [← List.length_eq_zero_iff]; simpa using hwd
            have b8 : ¬ (0 : Int) < (wd.size : Int) := by omega
            have hfl : fl row wd.data.toList = row := by rw [hw0]; rfl
            rw [hb, refGo_nl, hfl] at hat
            by_cases hr : row = []
            · subst hr
              have Hat := Lib.hid (show refGo acc [] [] false (n + 1) (s.data.toList.drop (i + 1)) = R by rw [← hat, add, if_pos rfl])
              have hw0 := Lib.hid hw0
              clear hat hwd hfl
              go_wp2_with (first
                | (at_builtin; refine wpList_append1 rfl rfl slty_strs h.row rfl rfl (by simp) rfl rfl (by omega) h.below.size ?_; intro vr1 w1 hown1 hg1; obtain ⟨A1, cc1, rfl⟩ := own_form hown1; replace h := h.word hown1 hg1; clear hown1 hg1)
                | (at_builtin; refine wpList_append1 rfl rfl slty_ints h.nums rfl rfl (by simp) rfl rfl (by simp; omega) h.below.size ?_; intro vn1 w2 hown2 hg2; obtain ⟨hN, hA, hR, hBB⟩ := h.num hown2 hg2; clear hown2 hg2 h; obtain ⟨vs, hA1, hA2, hA3⟩ := hA; clear hA3)
                | (at_builtin; refine wpList_append1 rfl rfl slty_rows hA1 rfl rfl (by simp) rfl rfl (by simp; omega) hBB.size ?_; intro va1 w3 hown3 hg3; have h := Ref30.push hN hR hBB hA1 hA2 hown3 hg3; clear hown3 hg3 hN hR hBB hA1 hA2))
              go_roundw
              case rel => exact ⟨i + 1, acc, [], wd, false, n + 1, by go_num, rfl, rfl, by go_num, h.skip, .inl ⟨by omega, by rw [hw0.out]; exact Hat.out⟩, by omega, by omega, by omega, by simp⟩
              case measure => first | (simp [intOf]; done) | (simp [intOf]; omega)
            · have hrl : 0 < row.length := List.length_pos_iff.2 hr
              have Hat := Lib.hid (show refGo (acc ++ [(n, row)]) [] [] false (n + 1) (s.data.toList.drop (i + 1)) = R by rw [← hat, add, if_neg hr])
              have hw0 := Lib.hid hw0
              clear hat hwd hfl
              go_wp2_with (first
                | (at_builtin; refine wpList_append1 rfl rfl slty_strs h.row rfl rfl (by simp) rfl rfl (by omega) h.below.size ?_; intro vr1 w1 hown1 hg1; obtain ⟨A1, cc1, rfl⟩ := own_form hown1; replace h := h.word hown1 hg1; clear hown1 hg1)
                | (at_builtin; refine wpList_append1 rfl rfl slty_ints h.nums rfl rfl (by simp) rfl rfl (by simp; omega) h.below.size ?_; intro vn1 w2 hown2 hg2; obtain ⟨hN, hA, hR, hBB⟩ := h.num hown2 hg2; clear hown2 hg2 h; obtain ⟨vs, hA1, hA2, hA3⟩ := hA; clear hA3)
                | (at_builtin; refine wpList_append1 rfl rfl slty_rows hA1 rfl rfl (by simp) rfl rfl (by simp; omega) hBB.size ?_; intro va1 w3 hown3 hg3; have h := Ref30.push hN hR hBB hA1 hA2 hown3 hg3; clear hown3 hg3 hN hR hBB hA1 hA2))
              go_roundw
              case rel => exact ⟨i + 1, acc ++ [(n, row)], [], wd, false, n + 1, by go_num, rfl, rfl, by go_num, h, .inl ⟨by omega, by rw [hw0.out]; exact Hat.out⟩, by omega, by omega, by simp; omega, by simp⟩
              case measure => first | (simp [intOf]; done) | (simp [intOf]; omega)
          · have hw0 : wd.data.toList ≠ [] := fun e => hwd (by have := congrArg List.length e; simpa using this)
            have b8 : (0 : Int) < (wd.size : Int) := by omega
            have hfl : fl row wd.data.toList = row ++ [wd.data.toList] := by rw [fl, if_neg hw0]
            rw [hb, refGo_nl, hfl] at hat
            have Hat := Lib.hid (show refGo (acc ++ [(n, row ++ [wd.data.toList])]) [] [] false (n + 1) (s.data.toList.drop (i + 1)) = R by rw [← hat, add, if_neg (by simp)])
            clear hat hwd hfl hw0
            go_wp2_with (first
              | (at_builtin; refine wpList_append1 rfl rfl slty_strs h.row rfl rfl (by simp) rfl rfl (by omega) h.below.size ?_; intro vr1 w1 hown1 hg1; obtain ⟨A1, cc1, rfl⟩ := own_form hown1; replace h := h.word hown1 hg1; clear hown1 hg1)
              | (at_builtin; refine wpList_append1 rfl rfl slty_ints h.nums rfl rfl (by simp) rfl rfl (by simp; omega) h.below.size ?_; intro vn1 w2 hown2 hg2; obtain ⟨hN, hA, hR, hBB⟩ := h.num hown2 hg2; clear hown2 hg2 h; obtain ⟨vs, hA1, hA2, hA3⟩ := hA; clear hA3)
              | (at_builtin; refine wpList_append1 rfl rfl slty_rows hA1 rfl rfl (by simp) rfl rfl (by simp; omega) hBB.size ?_; intro va1 w3 hown3 hg3; have h := Ref30.push hN hR hBB hA1 hA2 hown3 hg3; clear hown3 hg3 hN hR hBB hA1 hA2))
            go_roundw
            case rel => exact ⟨i + 1, acc ++ [(n, row ++ [wd.data.toList])], [], ⟨#[]⟩, false, n + 1, by go_num, rfl, rfl, by go_num, h, .inl ⟨by omega, Hat.out⟩, by omega, Nat.zero_le _, by simp; omega, by simp⟩
            case measure => first | (simp [intOf]; done) | (simp [intOf]; omega)
        · have b1 : (((s[i]).toNat : Int) == 10) = false := byte_ne hb (by decide)
          cases remark with
          | true =>
            by_cases hwd : wd.size = 0
            · have hw0 : wd.data.toList = [] := by rw [← List.length_eq_zero_iff]; simpa using hwd
              have b8 : ¬ (0 : Int) < (wd.size : Int) := by omega
              have hfl : fl row wd.data.toList = row := by rw [hw0]; rfl
              rw [refGo_skip _ _ _ _ _ _ _ hb (.inl rfl), hfl] at hat
              have Hat := Lib.hid hat
              have hw0 := Lib.hid hw0
              clear hat hwd hfl
              go_wp2_with (first
                | (at_builtin; refine wpList_append1 rfl rfl slty_strs h.row rfl rfl (by simp) rfl rfl (by omega) h.below.size ?_; intro vr1 w1 hown1 hg1; obtain ⟨A1, cc1, rfl⟩ := own_form hown1; replace h := h.word hown1 hg1; clear hown1 hg1)
                | (at_builtin; refine wpList_append1 rfl rfl slty_ints h.nums rfl rfl (by simp) rfl rfl (by simp; omega) h.below.size ?_; intro vn1 w2 hown2 hg2; obtain ⟨hN, hA, hR, hBB⟩ := h.num hown2 hg2; clear hown2 hg2 h; obtain ⟨vs, hA1, hA2, hA3⟩ := hA; clear hA3)
                | (at_builtin; refine wpList_append1 rfl rfl slty_rows hA1 rfl rfl (by simp) rfl rfl (by simp; omega) hBB.size ?_; intro va1 w3 hown3 hg3; have h := Ref30.push hN hR hBB hA1 hA2 hown3 hg3; clear hown3 hg3 hN hR hBB hA1 hA2))
              go_roundw
              case rel => exact ⟨i + 1, acc, row, wd, true, n, by go_num, rfl, rfl, rfl, h, .inl ⟨by omega, by rw [hw0.out]; exact Hat.out⟩, by omega, by omega, by omega, by omega⟩
              case measure => first | (simp [intOf]; done) | (simp [intOf]; omega)
            · have hw0 : wd.data.toList ≠ [] := fun e => hwd (by have := congrArg List.length e; simpa using this)
              have b8 : (0 : Int) < (wd.size : Int) := by omega
              have hfl : fl row wd.data.toList = row ++ [wd.data.toList] := by rw [fl, if_neg hw0]
              rw [refGo_skip _ _ _ _ _ _ _ hb (.inl rfl), hfl] at hat
              have Hat := Lib.hid hat
              have hw0 := Lib.hid hw0
              clear hat hwd hfl
              go_wp2_with (first
                | (at_builtin; refine wpList_append1 rfl rfl slty_strs h.row rfl rfl (by simp) rfl rfl (by omega) h.below.size ?_; intro vr1 w1 hown1 hg1; obtain ⟨A1, cc1, rfl⟩ := own_form hown1; replace h := h.word hown1 hg1; clear hown1 hg1)
                | (at_builtin; refine wpList_append1 rfl rfl slty_ints h.nums rfl rfl (by simp) rfl rfl (by simp; omega) h.below.size ?_; intro vn1 w2 hown2 hg2; obtain ⟨hN, hA, hR, hBB⟩ := h.num hown2 hg2; clear hown2 hg2 h; obtain ⟨vs, hA1, hA2, hA3⟩ := hA; clear hA3)
                | (at_builtin; refine wpList_append1 rfl rfl slty_rows hA1 rfl rfl (by simp) rfl rfl (by simp; omega) hBB.size ?_; intro va1 w3 hown3 hg3; have h := Ref30.push hN hR hBB hA1 hA2 hown3 hg3; clear hown3 hg3 hN hR hBB hA1 hA2))
              go_roundw
              case rel => exact ⟨i + 1, acc, (row ++ [wd.data.toList]), ⟨#[]⟩, true, n, by go_num, rfl, rfl, rfl, h, .inl ⟨by omega, Hat.out⟩, by omega, Nat.zero_le _, by omega, by simp; omega⟩
              case measure => first | (simp [intOf]; done) | (simp [intOf]; omega)
          | false =>
            by_cases hb2 : s[i] = 32
            · have b2 : (((s[i]).toNat : Int) == 32) = true := by rw [hb2]; rfl
              by_cases hwd : wd.size = 0
              · have hw0 : wd.data.toList = [] := by rw [← List.length_eq_zero_iff]; simpa using hwd
                have b8 : ¬ (0 : Int) < (wd.size : Int) := by omega
                have hfl : fl row wd.data.toList = row := by rw [hw0]; rfl
                rw [refGo_skip _ _ _ _ _ _ _ hb (.inr hb2), hfl] at hat
                have Hat := Lib.hid hat
                have hw0 := Lib.hid hw0
                clear hat hwd hfl
                go_wp2_with (first
                  | (at_builtin; refine wpList_append1 rfl rfl slty_strs h.row rfl rfl (by simp) rfl rfl (by omega) h.below.size ?_; intro vr1 w1 hown1 hg1; obtain ⟨A1, cc1, rfl⟩ := own_form hown1; replace h := h.word hown1 hg1; clear hown1 hg1)
                  | (at_builtin; refine wpList_append1 rfl rfl slty_ints h.nums rfl rfl (by simp) rfl rfl (by simp; omega) h.below.size ?_; intro vn1 w2 hown2 hg2; obtain ⟨hN, hA, hR, hBB⟩ := h.num hown2 hg2; clear hown2 hg2 h; obtain ⟨vs, hA1, hA2, hA3⟩ := hA; clear hA3)
                  | (at_builtin; refine wpList_append1 rfl rfl slty_rows hA1 rfl rfl (by simp) rfl rfl (by simp; omega) hBB.size ?_; intro va1 w3 hown3 hg3; have h := Ref30.push hN hR hBB hA1 hA2 hown3 hg3; clear hown3 hg3 hN hR hBB hA1 hA2))
                go_roundw
                case rel => exact ⟨i + 1, acc, row, wd, false, n, by go_num, rfl, rfl, rfl, h, .inl ⟨by omega, by rw [hw0.out]; exact Hat.out⟩, by omega, by omega, by omega, by omega⟩
                case measure => first | (simp [intOf]; done) | (simp [intOf]; omega)
              · have hw0 : wd.data.toList ≠ [] := fun e => hwd (by have := congrArg List.length e; simpa using this)
                have b8 : (0 : Int) < (wd.size : Int) := by omega
                have hfl : fl row wd.data.toList = row ++ [wd.data.toList] := by rw [fl, if_neg hw0]
                rw [refGo_skip _ _ _ _ _ _ _ hb (.inr hb2), hfl] at hat
                have Hat := Lib.hid hat
                have hw0 := Lib.hid hw0
                clear hat hwd hfl
                go_wp2_with (first
                  | (at_builtin; refine wpList_append1 rfl rfl slty_strs h.row rfl rfl (by simp) rfl rfl (by omega) h.below.size ?_; intro vr1 w1 hown1 hg1; obtain ⟨A1, cc1, rfl⟩ := own_form hown1; replace h := h.word hown1 hg1; clear hown1 hg1)
                  | (at_builtin; refine wpList_append1 rfl rfl slty_ints h.nums rfl rfl (by simp) rfl rfl (by simp; omega) h.below.size ?_; intro vn1 w2 hown2 hg2; obtain ⟨hN, hA, hR, hBB⟩ := h.num hown2 hg2; clear hown2 hg2 h; obtain ⟨vs, hA1, hA2, hA3⟩ := hA; clear hA3)
                  | (at_builtin; refine wpList_append1 rfl rfl slty_rows hA1 rfl rfl (by simp) rfl rfl (by simp; omega) hBB.size ?_; intro va1 w3 hown3 hg3; have h := Ref30.push hN hR hBB hA1 hA2 hown3 hg3; clear hown3 hg3 hN hR hBB hA1 hA2))
                go_roundw
                case rel => exact ⟨i + 1, acc, (row ++ [wd.data.toList]), ⟨#[]⟩, false, n, by go_num, rfl, rfl, rfl, h, .inl ⟨by omega, Hat.out⟩, by omega, Nat.zero_le _, by omega, by simp; omega⟩
                case measure => first | (simp [intOf]; done) | (simp [intOf]; omega)
            · have b2 : (((s[i]).toNat : Int) == 32) = false := byte_ne hb2 (by decide)
              by_cases hb3 : s[i] = 35
              · have b3 : (((s[i]).toNat : Int) == 35) = true := by rw [hb3]; rfl
                by_cases hwd : wd.size = 0
                · have hw0 : wd.data.toList = [] := by rw [← List.length_eq_zero_iff]; simpa using hwd
                  have b8 : ¬ (0 : Int) < (wd.size : Int) := by omega
                  have hfl : fl row wd.data.toList = row := by rw [hw0]; rfl
                  rw [hb3, refGo_hash, hfl] at hat
                  have Hat := Lib.hid hat
                  have hw0 := Lib.hid hw0
                  clear hat hwd hfl
                  go_wp2_with (first
                    | (at_builtin; refine wpList_append1 rfl rfl slty_strs h.row rfl rfl (by simp) rfl rfl (by omega) h.below.size ?_; intro vr1 w1 hown1 hg1; obtain ⟨A1, cc1, rfl⟩ := own_form hown1; replace h := h.word hown1 hg1; clear hown1 hg1)
                    | (at_builtin; refine wpList_append1 rfl rfl slty_ints h.nums rfl rfl (by simp) rfl rfl (by simp; omega) h.below.size ?_; intro vn1 w2 hown2 hg2; obtain ⟨hN, hA, hR, hBB⟩ := h.num hown2 hg2; clear hown2 hg2 h; obtain ⟨vs, hA1, hA2, hA3⟩ := hA; clear hA3)
                    | (at_builtin; refine wpList_append1 rfl rfl slty_rows hA1 rfl rfl (by simp) rfl rfl (by simp; omega) hBB.size ?_; intro va1 w3 hown3 hg3; have h := Ref30.push hN hR hBB hA1 hA2 hown3 hg3; clear hown3 hg3 hN hR hBB hA1 hA2))
                  go_roundw
                  case rel => exact ⟨i + 1, acc, row, wd, true, n, by go_num, rfl, rfl, rfl, h, .inl ⟨by omega, by rw [hw0.out]; exact Hat.out⟩, by omega, by omega, by omega, by omega⟩
                  case measure => first | (simp [intOf]; done) | (simp [intOf]; omega)
                · have hw0 : wd.data.toList ≠ [] := fun e => hwd (by have := congrArg List.length e; simpa using this)
                  have b8 : (0 : Int) < (wd.size : Int) := by omega
                  have hfl : fl row wd.data.toList = row ++ [wd.data.toList] := by rw [fl, if_neg hw0]
                  rw [hb3, refGo_hash, hfl] at hat
                  have Hat := Lib.hid hat
                  have hw0 := Lib.hid hw0
                  clear hat hwd hfl
                  go_wp2_with (first
                    | (at_builtin; refine wpList_append1 rfl rfl slty_strs h.row rfl rfl (by simp) rfl rfl (by omega) h.below.size ?_; intro vr1 w1 hown1 hg1; obtain ⟨A1, cc1, rfl⟩ := own_form hown1; replace h := h.word hown1 hg1; clear hown1 hg1)
                    | (at_builtin; refine wpList_append1 rfl rfl slty_ints h.nums rfl rfl (by simp) rfl rfl (by simp; omega) h.below.size ?_; intro vn1 w2 hown2 hg2; obtain ⟨hN, hA, hR, hBB⟩ := h.num hown2 hg2; clear hown2 hg2 h; obtain ⟨vs, hA1, hA2, hA3⟩ := hA; clear hA3)
                    | (at_builtin; refine wpList_append1 rfl rfl slty_rows hA1 rfl rfl (by simp) rfl rfl (by simp; omega) hBB.size ?_; intro va1 w3 hown3 hg3; have h := Ref30.push hN hR hBB hA1 hA2 hown3 hg3; clear hown3 hg3 hN hR hBB hA1 hA2))
                  go_roundw
                  case rel => exact ⟨i + 1, acc, (row ++ [wd.data.toList]), ⟨#[]⟩, true, n, by go_num, rfl, rfl, rfl, h, .inl ⟨by omega, Hat.out⟩, by omega, Nat.zero_le _, by omega, by simp; omega⟩
                  case measure => first | (simp [intOf]; done) | (simp [intOf]; omega)
              · have b3 : (((s[i]).toNat : Int) == 35) = false := byte_ne hb3 (by decide)
                by_cases hbad : s[i] < 33 ∨ 126 < s[i]
                · rw [refGo_bad _ _ _ _ _ _ hb hb2 hb3 hbad] at hat
                  have Hat := Lib.hid hat
                  clear hat
                  rcases hbad with hlo | hhi
                  · have b4 : ((s[i]).toNat : Int) < 33 := by have := UInt8.lt_iff_toNat_lt.1 hlo; have e : (33 : UInt8).toNat = 33 := rfl; omega
                    go_wp2
                    all_goals (refine bodyPost_ret (results_tmp4 rfl _ _ _) rfl ?_; rw [← Hat.out]; exact ⟨rfl, h.below⟩)
                  · have b5 : (126 : Int) < ((s[i]).toNat : Int) := by have := UInt8.lt_iff_toNat_lt.1 hhi; have e : (126 : UInt8).toNat = 126 := rfl; omega
                    have b4 : ¬ ((s[i]).toNat : Int) < 33 := by omega
                    go_wp2
                    all_goals (refine bodyPost_ret (results_tmp4 rfl _ _ _) rfl ?_; rw [← Hat.out]; exact ⟨rfl, h.below⟩)
                · rw [refGo_more _ _ _ _ _ _ hb hb2 hb3 hbad] at hat
                  rw [not_or] at hbad
                  have b4 : ¬ ((s[i]).toNat : Int) < 33 := by have e : (33 : UInt8).toNat = 33 := rfl; have := Nat.le_of_not_lt (fun q => hbad.1 (UInt8.lt_iff_toNat_lt.2 q)); omega
                  have b5 : ¬ (126 : Int) < ((s[i]).toNat : Int) := by have e : (126 : UInt8).toNat = 126 := rfl; have := Nat.le_of_not_lt (fun q => hbad.2 (UInt8.lt_iff_toNat_lt.2 q)); omega
                  have Hat := Lib.hid (show refGo acc row (wd ++ s.extract i (i + 1)).data.toList false n (s.data.toList.drop (i + 1)) = R by rw [data_append, ext1 s i hlt]; exact hat)
                  clear hat
                  go_wp2
                  all_goals
                    go_roundw
                    case rel => exact ⟨i + 1, acc, row, wd ++ s.extract i (i + 1), false, n, by go_num, rfl, rfl, rfl, h, .inl ⟨by omega, Hat.out⟩, by omega, by rw [ByteArray.size_append, ByteArray.size_extract]; omega, by omega, by omega⟩
                    case measure => first | (simp [intOf]; done) | (simp [intOf]; omega)
      · have hie : i = s.size := by omega
        subst hie
        rw [List.drop_eq_nil_of_le (by simp), refGo_end] at hat
        have b7 : (((s.size : Nat) : Int) == (s.size : Int)) = true := by simp
        by_cases hwd : wd.size = 0
        · have hw0 : wd.data.toList = [] := by rw [← List.length_eq_zero_iff]; simpa using hwd
          rw [hw0] at hat
          simp only [fl, if_true] at hat
          have b8 : ¬ (0 : Int) < (wd.size : Int) := by omega
          by_cases hr : row = []
          · subst hr
            have Hat := Lib.hid (show R = .ok acc by rw [← hat, add, if_pos rfl])
            clear hat hwd
            go_wp2_with (first
              | (at_builtin; refine wpList_append1 rfl rfl slty_strs h.row rfl rfl (by simp) rfl rfl (by omega) h.below.size ?_; intro vr1 w1 hown1 hg1; obtain ⟨A1, cc1, rfl⟩ := own_form hown1; replace h := h.word hown1 hg1; clear hown1 hg1)
              | (at_builtin; (refine wpList_append1 rfl rfl slty_ints h.nums rfl rfl (by simp) rfl rfl (by simp; omega) h.below.size ?_; intro vn1 w2 hown2 hg2; obtain ⟨hN, hA, hR, hBB⟩ := h.num hown2 hg2; clear hown2 hg2 h; obtain ⟨vs, hA1, hA2, hA3⟩ := hA; clear hA3))
              | (at_builtin; refine wpList_append1 rfl rfl slty_rows hA1 rfl rfl (by simp) rfl rfl (by simp; omega) hBB.size ?_; intro va1 w3 hown3 hg3; have h := Ref30.push hN hR hBB hA1 hA2 hown3 hg3; clear hown3 hg3 hN hR hBB hA1 hA2))
            go_roundw
            case rel => exact ⟨s.size + 1, acc, [], wd, false, n + 1, by go_num, rfl, rfl, by go_num, h.skip, .inr ⟨rfl, rfl, Hat.out⟩, by omega, by omega, by omega, by simp⟩
            case measure => first | (simp [intOf]; done) | (simp [intOf]; omega)
          · have hrl : 0 < row.length := List.length_pos_iff.2 hr
            have Hat := Lib.hid (show R = .ok (acc ++ [(n, row)]) by rw [← hat, add, if_neg hr])
            clear hat hwd
            go_wp2_with (first
              | (at_builtin; refine wpList_append1 rfl rfl slty_strs h.row rfl rfl (by simp) rfl rfl (by omega) h.below.size ?_; intro vr1 w1 hown1 hg1; obtain ⟨A1, cc1, rfl⟩ := own_form hown1; replace h := h.word hown1 hg1; clear hown1 hg1)
              | (at_builtin; (refine wpList_append1 rfl rfl slty_ints h.nums rfl rfl (by simp) rfl rfl (by simp; omega) h.below.size ?_; intro vn1 w2 hown2 hg2; obtain ⟨hN, hA, hR, hBB⟩ := h.num hown2 hg2; clear hown2 hg2 h; obtain ⟨vs, hA1, hA2, hA3⟩ := hA; clear hA3))
              | (at_builtin; refine wpList_append1 rfl rfl slty_rows hA1 rfl rfl (by simp) rfl rfl (by simp; omega) hBB.size ?_; intro va1 w3 hown3 hg3; have h := Ref30.push hN hR hBB hA1 hA2 hown3 hg3; clear hown3 hg3 hN hR hBB hA1 hA2))
            go_roundw
            case rel => exact ⟨s.size + 1, acc ++ [(n, row)], [], wd, false, n + 1, by go_num, rfl, rfl, by go_num, h, .inr ⟨rfl, rfl, Hat.out⟩, by omega, by omega, by simp; omega, by simp⟩
            case measure => first | (simp [intOf]; done) | (simp [intOf]; omega)
        · have hw0 : wd.data.toList ≠ [] := fun e => hwd (by have := congrArg List.length e; simpa using this)
          simp only [fl, if_neg hw0] at hat
          have b8 : (0 : Int) < (wd.size : Int) := by omega
          have Hat := Lib.hid (show R = .ok (acc ++ [(n, row ++ [wd.data.toList])]) by rw [← hat, add, if_neg (by simp)])
          clear hat hwd
          go_wp2_with (first
            | (at_builtin; refine wpList_append1 rfl rfl slty_strs h.row rfl rfl (by simp) rfl rfl (by omega) h.below.size ?_; intro vr1 w1 hown1 hg1; obtain ⟨A1, cc1, rfl⟩ := own_form hown1; replace h := h.word hown1 hg1; clear hown1 hg1)
            | (at_builtin; (refine wpList_append1 rfl rfl slty_ints h.nums rfl rfl (by simp) rfl rfl (by simp; omega) h.below.size ?_; intro vn1 w2 hown2 hg2; obtain ⟨hN, hA, hR, hBB⟩ := h.num hown2 hg2; clear hown2 hg2 h; obtain ⟨vs, hA1, hA2, hA3⟩ := hA; clear hA3))
            | (at_builtin; refine wpList_append1 rfl rfl slty_rows hA1 rfl rfl (by simp) rfl rfl (by simp; omega) hBB.size ?_; intro va1 w3 hown3 hg3; have h := Ref30.push hN hR hBB hA1 hA2 hown3 hg3; clear hown3 hg3 hN hR hBB hA1 hA2))
          go_roundw
          case rel => exact ⟨s.size + 1, acc ++ [(n, row ++ [wd.data.toList])], [], ⟨#[]⟩, false, n + 1, by go_num, rfl, rfl, by go_num, h, .inr ⟨rfl, rfl, Hat.out⟩, by omega, Nat.zero_le _, by simp; omega, by simp⟩
          case measure => first | (simp [intOf]; done) | (simp [intOf]; omega)
    · subst hi hrw
      go_wp2
      refine bodyPost_ret (results_tmp4 rfl _ _ _) rfl ?_
      rw [hat]
      exact ⟨_, _, _, rfl, h⟩
end Go.Proofs.YtgpkekdbohdbfaaGreatDoor
