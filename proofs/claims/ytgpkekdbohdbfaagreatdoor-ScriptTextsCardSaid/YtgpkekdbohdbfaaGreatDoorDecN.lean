/- strconv.ParseUint at the bases 10 and 16, words.decimal, words.Number, words.Small by their contracts. -/
import Derived.Test.YtgpkekdbohdbfaaGreatDoorDecU
import Derived.Test.YtgpkekdbohdbfaaGreatDoorErrs
import Derived.Test.YtgpkekdbohdbfaaGreatDoorShelf
import Derived.Lib.Walk
import Derived.Lib.AtoiErrMem
import Derived.Lib.ParseIntBMem
import Derived.Laws.Strings3
import Derived.Laws.Closers25
import Derived.BigCall
import Derived.BigGuard
import Derived.BigQuiet
import Derived.Deep.QuietTactic
namespace Go.Proofs.YtgpkekdbohdbfaaGreatDoor
open Go.RowKit AmD

/-- what ParseUint of base 16 makes of a text -/
def p16 (l : List UInt8) : Lib.NumEnd Nat := if l = [] then Lib.NumEnd.syntax else parse16 0 l
theorem p16_hex {l : List UInt8} {n : Nat} (h : hex l = some n) : p16 l = .ok n := by
  rw [p16, if_neg (hex_some h).1, parse16_hex h]

/-- one more byte -/
def EndIs (T : TypeId) (r : Lib.NumEnd Nat) (e : Ending) : Prop := e = .returned (Lib.uintTuple T r)
theorem endIs_syn {T : TypeId} {r : Lib.NumEnd Nat} (h : r = Lib.NumEnd.syntax) : EndIs T r (.returned (.tuple #[.int .u64 0, .iface T (.int .i64 2)])) := by subst h; rfl
theorem endIs_range {T : TypeId} {r : Lib.NumEnd Nat} (h : r = .range) : EndIs T r (.returned (.tuple #[.int .u64 18446744073709551615, .iface T (.int .i64 1)])) := by subst h; rfl
theorem endIs_ok {T : TypeId} {r : Lib.NumEnd Nat} {n : Nat} (h : r = .ok n) : EndIs T r (.returned (.tuple #[.int .u64 n, .nilIface])) := by subst h; rfl

theorem parse16_syn {c : UInt8} (h : d16 c = none) (acc : Nat) (r : List UInt8) : parse16 acc (c :: r) = Lib.NumEnd.syntax := by rw [parse16, h]
theorem parse16_range {c : UInt8} {d : Nat} (h : d16 c = some d) {acc : Nat} (ha : 1152921504606846976 ≤ acc) (r : List UInt8) : parse16 acc (c :: r) = .range := by rw [parse16, h]; simp only; rw [if_pos ha]
theorem parse16_more {c : UInt8} {d : Nat} (h : d16 c = some d) {acc : Nat} (ha : ¬ 1152921504606846976 ≤ acc) (r : List UInt8) : parse16 acc (c :: r) = parse16 (acc * 16 + d) r := by rw [parse16, h]; simp only; rw [if_neg ha]

set_option maxHeartbeats 16000000 in
set_option maxRecDepth 100000 in
theorem parse16_walk (t : ByteArray) (hne : t.size ≠ 0) (hmax : t.size ≤ 70000) (w : World) :
    Calls Tryz.prog 59 #[.string t, .int .i64 16, .int .i64 64] w fun e w' => EndIs 132 (parse16 0 t.data.toList) e ∧ Below w.heap.size w w' := by
  have hemp : t.toList.isEmpty = false := by
    rw [← decide_eq_emptyBytes]
    exact decide_eq_false (fun h => hne (by rw [h]; rfl))
  obtain ⟨cc, W1, hcv, hBel, hlt1, hB⟩ := conv_bytes (P := Tryz.prog) w 9 81 5 t Tryz.underlying9 Tryz.underlying81 Tryz.underlying5
  obtain ⟨bs, hL⟩ : ∃ bs, bs = t.data.toList := ⟨_, rfl⟩
  have hLn : bs.length = t.size := by rw [hL]; simp
  have hB' : ∀ j (hj : j < t.size), W1.cell? ⟨w.heap.size, j, none⟩ = some (.int .u8 ((bs[j]'(by omega)).toNat : Int)) := fun j hj => by
    subst hL; exact hB j hj
  rw [← hL]
  clear hL hB
  have HB := Lib.hid hB'
  clear hB'
  have hmv : IntKind.u64.wrap (IntKind.u64.wrap 18446744073709551616 - 1) = 18446744073709551615 := by
    rw [IntKind.wrap_u64, IntKind.wrap_u64]
    decide
  have hLow := Lib.hid (fun (c : Int) (W : World) => AnyPu.internal_strconv_lower { Tryz.laysPu14 with } c W)
  go_enter Tryz.func59, Tryz.ntmps59
  go_wp2
  go_loop [12, 13, 101] (fun vu vn vi => ∃ (k acc : Nat) (a : Int), vu = .bool false ∧ vn = .int .u64 a ∧ vi = .int .i64 k ∧ k ≤ t.size ∧ Hid (a = (acc : Int) ∧ acc < 18446744073709551616 ∧ parse16 0 bs = parse16 acc (bs.drop k)))
    (fun _ _ vi => t.size - (intOf vi).toNat)
  case atStart => exact ⟨0, 0, 0, rfl, rfl, rfl, by omega, rfl, by omega, rfl⟩
  case round =>
    obtain ⟨k, acc, a, rfl, rfl, rfl, hk, hh⟩ := hrel
    obtain ⟨ha, hacc, hdec⟩ := hh.out
    clear hh
    have a0 : 0 ≤ a := by omega
    have a1 : a < 18446744073709551616 := by omega
    by_cases hkn : k < t.size
    · have hc := HB.out k hkn
      have hdrop : bs.drop k = bs[k]'(by omega) :: bs.drop (k + 1) := List.drop_eq_getElem_cons (by omega)
      rw [hdrop] at hdec
      generalize bs[k]'(by omega) = c at hc hdec
      have hc256 : c.toNat < 256 := c.toNat_lt
      clear hdrop
      by_cases hdig : 48 ≤ c.toNat ∧ c.toNat ≤ 57
      · obtain ⟨hd0, hd1⟩ := hdig
        have hd : d16 c = some (c.toNat - 48) := by
          rw [d16, if_pos]; unfold isDig; simp; omega
        by_cases hcut : 1152921504606846976 ≤ acc
        · have HD := Lib.hid (hdec.trans (parse16_range hd hcut _))
          have icut : 1152921504606846976 ≤ a := by omega
          clear hcut hacc ha hdec
          go_wp2
          go_ret2
          exact ⟨endIs_range HD.out, hBel⟩
        · have HN : Hid (a * 16 + ((c.toNat : Int) - 48) = ((acc * 16 + (c.toNat - 48) : Nat) : Int) ∧ acc * 16 + (c.toNat - 48) < 18446744073709551616 ∧ parse16 0 bs = parse16 (acc * 16 + (c.toNat - 48)) (bs.drop (k + 1))) := Lib.hid ⟨by omega, by omega, hdec.trans (parse16_more hd hcut _)⟩
          have icut : a < 1152921504606846976 := by omega
          clear hcut hacc hdec ha
          go_wp2
          refine ⟨⟨k + 1, acc * 16 + (c.toNat - 48), a * 16 + ((c.toNat : Int) - 48), rfl, (by first | rfl | (congr 1; omega)), (by first | rfl | (congr 1; omega)), by omega, HN⟩, by simp [intOf]; omega⟩
      · by_cases h95 : c.toNat = 95
        · have hc95 : c = 95 := UInt8.toNat_inj.1 h95
          subst hc95
          have e95 : ((95 : UInt8).toNat : Int) = 95 := rfl
          rw [e95] at hc
          have hd : d16 95 = none := by decide
          have HD := Lib.hid (hdec.trans (parse16_syn hd _ _))
          have e127 : bits .or .u8 95 32 = 127 := by decide
          have Hlow := Lib.hid (show ∀ W, Calls Tryz.prog 65 #[.int .u8 95] W fun e w' => e = .returned (.int .u8 127) ∧ w' = W from fun W => by rw [← e127]; exact hLow.out 95 W)
          clear hacc ha hdec hd e127 e95 h95 hdig hc256
          go_wp2_with (go_at_call 65; refine (Hlow.out _).mono ?_; rintro e w' ⟨rfl, rfl⟩)
          go_ret2
          exact ⟨endIs_syn HD.out, hBel⟩
        have b95 : ((c.toNat : Int) == 95) = false := by rw [beq_eq_false_iff_ne]; omega
        have hx0 := bits_lo_u8 .or (c.toNat : Int) 32
        have hx1 := bits_hi_u8 .or (c.toNat : Int) 32
        have hndig : isDig c = false := by unfold isDig; simp; omega
        have hd16 : d16 c = if 97 ≤ bits .or .u8 (c.toNat : Int) 32 ∧ bits .or .u8 (c.toNat : Int) 32 ≤ 102 then some ((bits .or .u8 (c.toNat : Int) 32).toNat - 87) else none := by rw [d16, hndig]; rfl
        have hlow : ∀ W, Calls Tryz.prog 65 #[.int .u8 (c.toNat : Int)] W fun e w' => e = .returned (.int .u8 (bits .or .u8 (c.toNat : Int) 32)) ∧ w' = W := fun W => hLow.out _ W
        generalize bits .or .u8 (c.toNat : Int) 32 = x at hx0 hx1 hd16 hlow
        have Hlow := Lib.hid hlow
        clear hlow
        by_cases h97 : 97 ≤ x ∧ x ≤ 102
        · have hd : d16 c = some (x.toNat - 87) := by rw [hd16, if_pos h97]
          obtain ⟨q1, q2⟩ := h97
          by_cases hcut : 1152921504606846976 ≤ acc
          · have HD := Lib.hid (hdec.trans (parse16_range hd hcut _))
            have icut : 1152921504606846976 ≤ a := by omega
            clear hcut hacc ha hdec hd hd16 hndig
            go_wp2_with (go_at_call 65; refine (Hlow.out _).mono ?_; rintro e w' ⟨rfl, rfl⟩)
            all_goals (go_ret2; exact ⟨endIs_range HD.out, hBel⟩)
          · have HN : Hid (a * 16 + (x - 87) = ((acc * 16 + (x.toNat - 87) : Nat) : Int) ∧ acc * 16 + (x.toNat - 87) < 18446744073709551616 ∧ parse16 0 bs = parse16 (acc * 16 + (x.toNat - 87)) (bs.drop (k + 1))) := Lib.hid ⟨by omega, by omega, hdec.trans (parse16_more hd hcut _)⟩
            have icut : a < 1152921504606846976 := by omega
            clear hcut hacc hdec ha hd hd16 hndig
            go_wp2_with (go_at_call 65; refine (Hlow.out _).mono ?_; rintro e w' ⟨rfl, rfl⟩)
            all_goals refine ⟨⟨k + 1, acc * 16 + (x.toNat - 87), a * 16 + (x - 87), rfl, (by first | rfl | (congr 1; omega)), (by first | rfl | (congr 1; omega)), by omega, HN⟩, by simp [intOf]; omega⟩
        · have hd : d16 c = none := by rw [hd16, if_neg h97]
          have HD := Lib.hid (hdec.trans (parse16_syn hd _ _))
          clear hacc ha hdec hd hd16 hndig
          by_cases q1 : x < 97
          · go_wp2_with (go_at_call 65; refine (Hlow.out _).mono ?_; rintro e w' ⟨rfl, rfl⟩)
            all_goals (go_ret2; exact ⟨endIs_syn HD.out, hBel⟩)
          · by_cases q2 : 122 < x
            · go_wp2_with (go_at_call 65; refine (Hlow.out _).mono ?_; rintro e w' ⟨rfl, rfl⟩)
              all_goals (go_ret2; exact ⟨endIs_syn HD.out, hBel⟩)
            · have q3 : 103 ≤ x := by omega
              go_wp2_with (go_at_call 65; refine (Hlow.out _).mono ?_; rintro e w' ⟨rfl, rfl⟩)
              all_goals (go_ret2; exact ⟨endIs_syn HD.out, hBel⟩)
    · have hkk : k = t.size := by omega
      subst hkk
      have hF : parse16 acc (bs.drop t.size) = .ok acc := by rw [List.drop_eq_nil_of_le (by omega)]; rfl
      have HD := Lib.hid (hdec.trans hF)
      subst ha
      clear hacc hF a0 a1 hdec
      go_wp2
      go_ret2
      exact ⟨endIs_ok HD.out, hBel⟩
end Go.Proofs.YtgpkekdbohdbfaaGreatDoor
