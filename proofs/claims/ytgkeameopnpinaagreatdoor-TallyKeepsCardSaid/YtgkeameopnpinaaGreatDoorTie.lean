/-
  DERIVED. GIVEN WITH THE SEED: THE PROGRAM's TIES (one call each: nine closed facts by the kernel) AND EACH ROW's TIE, after the 31st guide's Derived/Test/Toyas{Tie, Card}.lean. No idea stands in it: it is a product of the set-up. Laid BY PROGRAM, IN A SANDBOX (cutbox-door.mjs). By AI agents, Wed Nov 11 2026. No macro, syntax, notation, axiom, sorry.
-/
import Derived.Test.YtgkeameopnpinaaGreatDoorRows
import Derived.LaidByTextLater
import Derived.SevenTiedAt
import Derived.LaidSub
import Derived.LaidOnce
namespace Go.Proofs.YtgkeameopnpinaaGreatDoor
open Go
set_option maxRecDepth 100000
theorem seatTie1 : Tryz.prog.laidByTextLater [("math/bits.deBruijn64tab", Rows.laid_math_bits_deBruijn64tab), ("ambler/api.ErrRange", Rows.laid_ambler_api_ErrRange), ("ambler/api.ErrFull", Rows.laid_ambler_api_ErrFull), ("ambler/api.ErrForm", Rows.laid_ambler_api_ErrForm), ("ambler/api.ErrNone", Rows.laid_ambler_api_ErrNone), ("ambler/api.ErrState", Rows.laid_ambler_api_ErrState), ("ambler/api.ErrBadIter", Rows.laid_ambler_api_ErrBadIter), ("ambler/api.ErrTooMany", Rows.laid_ambler_api_ErrTooMany), ("ambler/api.ErrBroken", Rows.laid_ambler_api_ErrBroken), ("ambler/api.ErrLimit", Rows.laid_ambler_api_ErrLimit), ("ambler/api.ErrEmpty", Rows.laid_ambler_api_ErrEmpty), ("ambler/api.ErrNumber", Rows.laid_ambler_api_ErrNumber), ("ambler/api.ErrKind", Rows.laid_ambler_api_ErrKind), ("ambler/api.ErrDup", Rows.laid_ambler_api_ErrDup), ("ambler/mix.words", Rows.laid_ambler_mix_words)] [.data, .sentinel, .sentinel, .sentinel, .sentinel, .sentinel, .sentinel, .sentinel, .sentinel, .sentinel, .sentinel, .sentinel, .sentinel, .sentinel, .widerDeep] true :=
  Program.laidByTextLater_by_one 266 8 65 (by kernel_rfl) (by kernel_rfl) (by kernel_rfl) (by kernel_rfl) (by kernel_rfl) (by kernel_rfl) (fun _ _ => by kernel_rfl)
theorem noOwnUnsafe : Tryz.pinned.checked.prog.headLifts.contains "ownunsafe" = false := by kernel_rfl
theorem tie : Tryz.prog.laidByTextLater [("math/bits.deBruijn64tab", Rows.laid_math_bits_deBruijn64tab), ("ambler/api.ErrRange", Rows.laid_ambler_api_ErrRange), ("ambler/api.ErrFull", Rows.laid_ambler_api_ErrFull), ("ambler/api.ErrForm", Rows.laid_ambler_api_ErrForm), ("ambler/api.ErrNone", Rows.laid_ambler_api_ErrNone), ("ambler/api.ErrState", Rows.laid_ambler_api_ErrState), ("ambler/api.ErrBadIter", Rows.laid_ambler_api_ErrBadIter), ("ambler/api.ErrTooMany", Rows.laid_ambler_api_ErrTooMany), ("ambler/api.ErrBroken", Rows.laid_ambler_api_ErrBroken), ("ambler/api.ErrLimit", Rows.laid_ambler_api_ErrLimit), ("ambler/api.ErrEmpty", Rows.laid_ambler_api_ErrEmpty), ("ambler/api.ErrNumber", Rows.laid_ambler_api_ErrNumber), ("ambler/api.ErrKind", Rows.laid_ambler_api_ErrKind), ("ambler/api.ErrDup", Rows.laid_ambler_api_ErrDup), ("ambler/mix.words", Rows.laid_ambler_mix_words)] [.data, .sentinel, .sentinel, .sentinel, .sentinel, .sentinel, .sentinel, .sentinel, .sentinel, .sentinel, .sentinel, .sentinel, .sentinel, .sentinel, .widerDeep] true :=
  Program.laidByTextLater.sub seatTie1 ["math/bits.deBruijn64tab", "ambler/api.ErrRange", "ambler/api.ErrFull", "ambler/api.ErrForm", "ambler/api.ErrNone", "ambler/api.ErrState", "ambler/api.ErrBadIter", "ambler/api.ErrTooMany", "ambler/api.ErrBroken", "ambler/api.ErrLimit", "ambler/api.ErrEmpty", "ambler/api.ErrNumber", "ambler/api.ErrKind", "ambler/api.ErrDup", "ambler/mix.words"] (by kernel_rfl) (by kernel_rfl)
theorem tallyKeeps_row_tie : Rows.tallyKeepsRow.laidByTextAt .later Tryz.pinned [.data, .sentinel, .sentinel, .sentinel, .sentinel, .sentinel, .sentinel, .sentinel, .sentinel, .sentinel, .sentinel, .sentinel, .sentinel, .sentinel, .widerDeep] true :=
  OpenClaim.laidByTextAt_later rfl rfl tie noOwnUnsafe
theorem tallyKeepsUpto_row_tie : Rows.tallyKeepsUptoRow.laidByTextAt .later Tryz.pinned [.data, .sentinel, .sentinel, .sentinel, .sentinel, .sentinel, .sentinel, .sentinel, .sentinel, .sentinel, .sentinel, .sentinel, .sentinel, .sentinel, .widerDeep] true :=
  OpenClaim.laidByTextAt_later rfl rfl tie noOwnUnsafe
end Go.Proofs.YtgkeameopnpinaaGreatDoor
