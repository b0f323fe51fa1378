/- WordsNumbers: whatever the word and the bound, the law answers true, and the word and the bound read as they read. No condition but the row's own. -/
import Derived.Test.YtienlohogdkedaaDoorLaw30c
import Derived.Test.YtienlohogdkedaaDoorLaid2
import Derived.OpenShut
namespace Go.Proofs.YtienlohogdkedaaDoor.p30c
open Go.ChangeShapes Go.WideShapes Go.ChangeAt Go.RowKit
open Go.ChangeMaps (open_string shut_string)

theorem own : ownKnob Tryd.prog.godebug = none := by kernel_rfl
theorem gMax : Tryd.prog.globalNamed "strings.asciiSpace" = some 18 := by kernel_rfl
theorem posE : ∀ k, k < 16 → ∃ n text, Rows.wordsNumbersRow.laid[4 + k]? = some (n, errD text) ∧ Tryd.prog.globalNamed n = some (gE (k + 1)) ∧ (Tryd.prog.globals[gE (k + 1)]?).map (·.type) = some 31
  | 0, _ => ⟨_, _, rfl, by kernel_rfl, by kernel_rfl⟩ | 1, _ => ⟨_, _, rfl, by kernel_rfl, by kernel_rfl⟩ | 2, _ => ⟨_, _, rfl, by kernel_rfl, by kernel_rfl⟩ | 3, _ => ⟨_, _, rfl, by kernel_rfl, by kernel_rfl⟩
  | 4, _ => ⟨_, _, rfl, by kernel_rfl, by kernel_rfl⟩ | 5, _ => ⟨_, _, rfl, by kernel_rfl, by kernel_rfl⟩ | 6, _ => ⟨_, _, rfl, by kernel_rfl, by kernel_rfl⟩ | 7, _ => ⟨_, _, rfl, by kernel_rfl, by kernel_rfl⟩
  | 8, _ => ⟨_, _, rfl, by kernel_rfl, by kernel_rfl⟩ | 9, _ => ⟨_, _, rfl, by kernel_rfl, by kernel_rfl⟩ | 10, _ => ⟨_, _, rfl, by kernel_rfl, by kernel_rfl⟩ | 11, _ => ⟨_, _, rfl, by kernel_rfl, by kernel_rfl⟩
  | 12, _ => ⟨_, _, rfl, by kernel_rfl, by kernel_rfl⟩ | 13, _ => ⟨_, _, rfl, by kernel_rfl, by kernel_rfl⟩ | 14, _ => ⟨_, _, rfl, by kernel_rfl, by kernel_rfl⟩ | 15, _ => ⟨_, _, rfl, by kernel_rfl, by kernel_rfl⟩
  | k + 16, h => absurd h (by omega)

/-- the number 4 stands at place 15 of math/bits' table -/
def db64 : List Int := [0, 1, 56, 2, 57, 49, 28, 3, 61, 58, 42, 50, 38, 29, 17, 4, 62, 47, 59, 36, 45, 43, 51, 22, 53, 39, 33, 30, 24, 18, 12, 5, 63, 55, 48, 27, 60, 41, 37, 16, 46, 35, 44, 21, 52, 32, 23, 11, 54, 26, 40, 15, 34, 20, 31, 10, 25, 14, 19, 9, 13, 8, 7, 6]

set_option maxRecDepth 100000 in
/-- what the row's list and the world's shape give -/
theorem lib_in {W : World} (h : laidMet Tryd.prog Rows.wordsNumbersRow.laid W) (hsh : W.ShapedOpen Tryd.prog) : ∃ E, LibIn E W ∧ NumsIn E W := by
  obtain ⟨E, hE⟩ := errsIn_of_laid h 4 posE
  refine ⟨E, ⟨⟨⟨hE.at_ 3 (by omega) (by omega), hE.at_ 9 (by omega) (by omega), Tryd.laysM146.s1_3 W hsh, ?_⟩, ?_⟩, hE⟩, hE.at_ 13 (by omega) (by omega), ?_, ?_⟩
  · have h21 := laid_drop 23 _ h
    exact Lib.tabIs_of_head (t := 145) (e := 5) (n := 256) (zs := Lib.asciiSpaceTab) gMax (by kernel_rfl) (by kernel_rfl) Tryd.underlying5 (by kernel_rfl) (by kernel_rfl) h21
  · have h1 := laid_drop 1 _ h
    have ht := Lib.tabIs_of_head (P := Tryd.prog) (g := 27) (t := 219) (e := 5) (n := 64) (zs := db64) (by kernel_rfl) (by kernel_rfl) (by kernel_rfl) Tryd.underlying5 (by kernel_rfl) (by kernel_rfl) h1
    exact ht.cell (by kernel_rfl) 15 (by decide)
  · obtain ⟨a, ha⟩ := err_cell (g := 21) h 21 rfl (by kernel_rfl) (by kernel_rfl)
    exact ⟨_, _, ha⟩
  · obtain ⟨a, ha⟩ := err_cell (g := 22) h 20 rfl (by kernel_rfl) (by kernel_rfl)
    exact ⟨_, _, ha⟩

set_option maxRecDepth 100000 in
theorem contract (H : Type) (enc : TypeId × Value → H) (W : World) (base : Nat) (args : Array Value) (ds gs : List (DataW H)) (before : List MemPlace)
    (hval : ∀ (j : Nat) t v, Tryd.f8.params[j]? = some t → args[j]? = some v → Value.okWide Tryd.prog W .any base t v)
    (hW : DataW.Whole enc Tryd.prog Tryd.f8.params.toList Rows.wordsNumbersSpec.vars false W args.toList ds gs before) (hL : laidMetH Tryd.prog Rows.wordsNumbersRow.laid W) (hsh : W.ShapedOpen Tryd.prog) :
    Calls Tryd.prog 8 args W fun e W' => ∃ v, e = .returned v ∧ Rows.wordsNumbersSpec.post enc Tryd.prog Tryd.f8 false true false false W args v W' := by
  have hW' := hW
  obtain ⟨p, q, hA0, hV, rfl, hfz, hnd⟩ := hW
  have hA : DataW.TrodAll enc Tryd.prog W 0 (fun _ => true) true Tryd.f8.params.toList args.toList ds p := hA0
  rw [Tryd.params8] at hA hval
  obtain ⟨v0, vs0, d0, ds0, p0, q0, hargs, rfl, rfl, h0, r0⟩ := trodAll_cons hA
  obtain ⟨v1, vs1, d1, ds1, p1, q1, hargs1, rfl, rfl, h1, r1⟩ := trodAll_cons r0
  obtain ⟨rfl, rfl, rfl⟩ := trodAll_nil r1
  obtain rfl : args = #[v0, v1] := by cases args; simp_all
  obtain ⟨rfl, rfl⟩ := trodVars_none hV
  obtain ⟨s, rfl, rfl, rfl, hs⟩ := open_string Tryd.underlying9 (hval 0 9 v0 rfl rfl) h0
  obtain ⟨n1, rfl, rfl, rfl, hn1⟩ := open_int Tryd.underlying3 (hval 1 3 v1 rfl rfl) h1
  clear hA0
  simp only [List.append_nil] at hW'
  obtain ⟨E, hE, hN⟩ := lib_in hL hsh
  have hwb : -9223372036854775808 ≤ n1 ∧ n1 ≤ 9223372036854775807 := by
    unfold Lit.wf at hn1
    have e1 : IntKind.i64.min = -9223372036854775808 := by decide
    have e2 : IntKind.i64.max = 9223372036854775807 := by decide
    simpa only [e1, e2, Bool.and_eq_true, decide_eq_true_eq] using hn1
  refine (law_numbers s n1 W hE hN hwb.1 (by omega)).mono fun e W' ⟨he, hb⟩ => ?_
  subst he
  exact ⟨_, rfl, post_of_below (pa := []) (pv := []) hW' (fun _ _ _ => trodAll_cons_mk (shut_bool Tryd.underlying4 _) trodAll_mk0) (fun _ _ => trodAll_cons_mk (shut_string Tryd.underlying9 hs) (trodAll_cons_mk (shut_int Tryd.underlying3 hn1) trodAll_mk0)) (fun _ _ => rfl) rfl
    hb (ok_one (by kernel_rfl) rfl (okWide_bool_mk Tryd.underlying4 _))⟩

end Go.Proofs.YtienlohogdkedaaDoor.p30c
