/- WordsBack: whatever the number and the text, the law answers true, and the number and the text read as they read. No condition but the row's own. -/
import Derived.Test.YtienlohogdkedaaDoorLaw30d
import Derived.Test.YtienlohogdkedaaDoorLaid2
import Derived.OpenShut
namespace Go.Proofs.YtienlohogdkedaaDoor.p30d
open Go.ChangeShapes Go.WideShapes Go.ChangeAt Go.RowKit
open Go.ChangeMaps (open_string shut_string)

theorem own : ownKnob Tryd.prog.godebug = none := by kernel_rfl
theorem gMax : Tryd.prog.globalNamed "strings.asciiSpace" = some 18 := by kernel_rfl
/-- the number 4 stands at place 15 of math/bits' table -/
def db64 : List Int := [0, 1, 56, 2, 57, 49, 28, 3, 61, 58, 42, 50, 38, 29, 17, 4, 62, 47, 59, 36, 45, 43, 51, 22, 53, 39, 33, 30, 24, 18, 12, 5, 63, 55, 48, 27, 60, 41, 37, 16, 46, 35, 44, 21, 52, 32, 23, 11, 54, 26, 40, 15, 34, 20, 31, 10, 25, 14, 19, 9, 13, 8, 7, 6]

set_option maxRecDepth 100000 in
/-- what the row's list and the world's shape give -/
theorem lib_in {W : World} (h : laidMet Tryd.prog Rows.wordsBackRow.laid W) (hsh : W.ShapedOpen Tryd.prog) : ∃ E, LibB E W ∧ NumsIn E W := by
  refine ⟨pickE W, ⟨⟨pickE_at (err_cell (g := gE 3) h 4 rfl (by kernel_rfl) (by kernel_rfl)), pickE_at (err_cell (g := gE 9) h 5 rfl (by kernel_rfl) (by kernel_rfl)), Tryd.laysM146.s1_3 W hsh, ?_⟩, ?_⟩, pickE_at (err_cell (g := gE 13) h 6 rfl (by kernel_rfl) (by kernel_rfl)), ?_, ?_⟩
  · have h21 := laid_drop 10 _ h
    exact Lib.tabIs_of_head (t := 145) (e := 5) (n := 256) (zs := Lib.asciiSpaceTab) gMax (by kernel_rfl) (by kernel_rfl) Tryd.underlying5 (by kernel_rfl) (by kernel_rfl) h21
  · have h1 := laid_drop 1 _ h
    have ht := Lib.tabIs_of_head (P := Tryd.prog) (g := 27) (t := 219) (e := 5) (n := 64) (zs := db64) (by kernel_rfl) (by kernel_rfl) (by kernel_rfl) Tryd.underlying5 (by kernel_rfl) (by kernel_rfl) h1
    exact ht.cell (by kernel_rfl) 15 (by decide)
  · obtain ⟨a, ha⟩ := err_cell (g := 21) h 8 rfl (by kernel_rfl) (by kernel_rfl)
    exact ⟨_, _, ha⟩
  · obtain ⟨a, ha⟩ := err_cell (g := 22) h 7 rfl (by kernel_rfl) (by kernel_rfl)
    exact ⟨_, _, ha⟩

set_option maxRecDepth 100000 in
theorem contract (H : Type) (enc : TypeId × Value → H) (W : World) (base : Nat) (args : Array Value) (ds gs : List (DataW H)) (before : List MemPlace)
    (hval : ∀ (j : Nat) t v, Tryd.f9.params[j]? = some t → args[j]? = some v → Value.okWide Tryd.prog W .any base t v)
    (hW : DataW.Whole enc Tryd.prog Tryd.f9.params.toList Rows.wordsBackSpec.vars false W args.toList ds gs before) (hL : laidMetH Tryd.prog Rows.wordsBackRow.laid W) (hsh : W.ShapedOpen Tryd.prog) :
    Calls Tryd.prog 9 args W fun e W' => ∃ v, e = .returned v ∧ Rows.wordsBackSpec.post enc Tryd.prog Tryd.f9 false true false false W args v W' := by
  have hW' := hW
  obtain ⟨p, q, hA0, hV, rfl, hfz, hnd⟩ := hW
  have hA : DataW.TrodAll enc Tryd.prog W 0 (fun _ => true) true Tryd.f9.params.toList args.toList ds p := hA0
  rw [Tryd.params9] at hA hval
  obtain ⟨v0, vs0, d0, ds0, p0, q0, hargs, rfl, rfl, h0, r0⟩ := trodAll_cons hA
  obtain ⟨v1, vs1, d1, ds1, p1, q1, hargs1, rfl, rfl, h1, r1⟩ := trodAll_cons r0
  obtain ⟨rfl, rfl, rfl⟩ := trodAll_nil r1
  obtain rfl : args = #[v0, v1] := by cases args; simp_all
  obtain ⟨rfl, rfl⟩ := trodVars_none hV
  obtain ⟨n1, rfl, rfl, rfl, hn1⟩ := open_int Tryd.underlying25 (hval 0 25 v0 rfl rfl) h0
  obtain ⟨s, rfl, rfl, rfl, hs⟩ := open_string Tryd.underlying9 (hval 1 9 v1 rfl rfl) h1
  clear hA0
  simp only [List.append_nil] at hW'
  obtain ⟨E, hE, hN⟩ := lib_in hL hsh
  have hwb : 0 ≤ n1 ∧ n1 ≤ 18446744073709551615 := by
    unfold Lit.wf at hn1
    have e1 : IntKind.u64.min = 0 := by decide
    have e2 : IntKind.u64.max = 18446744073709551615 := by decide
    simpa only [e1, e2, Bool.and_eq_true, decide_eq_true_eq] using hn1
  obtain ⟨n, rfl⟩ := Int.eq_ofNat_of_zero_le hwb.1
  refine (law_back n (by omega) s W hE hN).mono fun e W' ⟨he, hb⟩ => ?_
  subst he
  exact ⟨_, rfl, post_of_below (pa := []) (pv := []) hW' (fun _ _ _ => trodAll_cons_mk (shut_bool Tryd.underlying4 _) trodAll_mk0) (fun _ _ => trodAll_cons_mk (shut_int Tryd.underlying25 hn1) (trodAll_cons_mk (shut_string Tryd.underlying9 hs) trodAll_mk0)) (fun _ _ => rfl) rfl
    hb (ok_one (by kernel_rfl) rfl (okWide_bool_mk Tryd.underlying4 _))⟩

end Go.Proofs.YtienlohogdkedaaDoor.p30d
