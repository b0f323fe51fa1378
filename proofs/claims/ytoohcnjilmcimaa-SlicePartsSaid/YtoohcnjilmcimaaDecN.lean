/- strconv.ParseUint at the bases 10 and 16, words.decimal, words.Number, words.Small by their contracts. -/
import Derived.Test.YtoohcnjilmcimaaDecU
import Derived.Test.YtoohcnjilmcimaaErrs
import Derived.Test.YtoohcnjilmcimaaShelf
import Derived.Lib.Walk
import Derived.Lib.AtoiErrMem
import Derived.Lib.ParseIntBMem
import Derived.Laws.Strings3
import Derived.Laws.Closers25
import Derived.BigCall
import Derived.BigGuard
import Derived.BigQuiet
import Derived.Deep.QuietTactic
namespace Go.Proofs.Ytoohcnjilmcimaa
open Go.RowKit AmD

/-- what ParseUint of base 16 makes of a text -/
def p16 (l : List UInt8) : Lib.NumEnd Nat := if l = [] then Lib.NumEnd.syntax else parse16 0 l
theorem p16_hex {l : List UInt8} {n : Nat} (h : hex l = some n) : p16 l = .ok n := by
  rw [p16, if_neg (hex_some h).1, parse16_hex h]

/-- one more byte -/
def EndIs (T : TypeId) (r : Lib.NumEnd Nat) (e : Ending) : Prop := e = .returned (Lib.uintTuple T r)
theorem endIs_syn {T : TypeId} {r : Lib.NumEnd Nat} (h : r = Lib.NumEnd.syntax) : EndIs T r (.returned (.tuple #[.int .u64 0, .iface T (.int .i64 2)])) := by subst h; rfl
theorem endIs_range {T : TypeId} {r : Lib.NumEnd Nat} (h : r = .range) : EndIs T r (.returned (.tuple #[.int .u64 18446744073709551615, .iface T (.int .i64 1)])) := by subst h; rfl
theorem endIs_ok {T : TypeId} {r : Lib.NumEnd Nat} {n : Nat} (h : r = .ok n) : EndIs T r (.returned (.tuple #[.int .u64 n, .nilIface])) := by subst h; rfl

theorem parse16_syn {c : UInt8} (h : d16 c = none) (acc : Nat) (r : List UInt8) : parse16 acc (c :: r) = Lib.NumEnd.syntax := by rw [parse16, h]
theorem parse16_range {c : UInt8} {d : Nat} (h : d16 c = some d) {acc : Nat} (ha : 1152921504606846976 ≤ acc) (r : List UInt8) : parse16 acc (c :: r) = .range := by rw [parse16, h]; simp only; rw [if_pos ha]
theorem parse16_more {c : UInt8} {d : Nat} (h : d16 c = some d) {acc : Nat} (ha : ¬ 1152921504606846976 ≤ acc) (r : List UInt8) : parse16 acc (c :: r) = parse16 (acc * 16 + d) r := by rw [parse16, h]; simp only; rw [if_neg ha]

end Go.Proofs.Ytoohcnjilmcimaa
