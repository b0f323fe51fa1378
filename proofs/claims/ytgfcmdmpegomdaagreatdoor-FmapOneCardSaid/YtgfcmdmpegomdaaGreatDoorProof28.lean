/- FmapOne: whatever the floats, the law answers true. No condition but the row's own. -/
import Derived.Test.YtgfcmdmpegomdaaGreatDoorLaw28
import Derived.Test.YtgfcmdmpegomdaaGreatDoorLaid
import Derived.Deep.Strs
import Derived.OpenShut
import Derived.Carry
namespace Go.Proofs.YtgfcmdmpegomdaaGreatDoor.p28
set_option maxRecDepth 100000
open Go.ChangeShapes Go.WideShapes Go.ChangeAt Go.RowKit Go.Deep AmC AmF
def db64 : List Int := [0, 1, 56, 2, 57, 49, 28, 3, 61, 58, 42, 50, 38, 29, 17, 4, 62, 47, 59, 36, 45, 43, 51, 22, 53, 39, 33, 30, 24, 18, 12, 5, 63, 55, 48, 27, 60, 41, 37, 16, 46, 35, 44, 21, 52, 32, 23, 11, 54, 26, 40, 15, 34, 20, 31, 10, 25, 14, 19, 9, 13, 8, 7, 6]
theorem own : ownKnob Tryz.prog.godebug = none := by kernel_rfl
theorem f64_lt {b : Nat} (h : (Lit.float .f64 b).wf = true) : b < 18446744073709551616 := by
 have : b < 2 ^ 64 := by simpa [Lit.wf] using h
 have e : (2 : Nat) ^ 64 = 18446744073709551616 := by decide
 rw [← e]; exact this
theorem posE : ∀ k, k < 16 → ∃ n text, Rows.fmapOneRow.laid[1 + k]? = some (n, errD text) ∧ Tryz.prog.globalNamed n = some (gE (k + 1)) ∧ (Tryz.prog.globals[gE (k + 1)]?).map (·.type) = some 26
 | 0, _ => ⟨_, _, rfl, by kernel_rfl, by kernel_rfl⟩ | 1, _ => ⟨_, _, rfl, by kernel_rfl, by kernel_rfl⟩ | 2, _ => ⟨_, _, rfl, by kernel_rfl, by kernel_rfl⟩ | 3, _ => ⟨_, _, rfl, by kernel_rfl, by kernel_rfl⟩
 | 4, _ => ⟨_, _, rfl, by kernel_rfl, by kernel_rfl⟩ | 5, _ => ⟨_, _, rfl, by kernel_rfl, by kernel_rfl⟩ | 6, _ => ⟨_, _, rfl, by kernel_rfl, by kernel_rfl⟩ | 7, _ => ⟨_, _, rfl, by kernel_rfl, by kernel_rfl⟩
 | 8, _ => ⟨_, _, rfl, by kernel_rfl, by kernel_rfl⟩ | 9, _ => ⟨_, _, rfl, by kernel_rfl, by kernel_rfl⟩ | 10, _ => ⟨_, _, rfl, by kernel_rfl, by kernel_rfl⟩ | 11, _ => ⟨_, _, rfl, by kernel_rfl, by kernel_rfl⟩
 | 12, _ => ⟨_, _, rfl, by kernel_rfl, by kernel_rfl⟩ | 13, _ => ⟨_, _, rfl, by kernel_rfl, by kernel_rfl⟩ | 14, _ => ⟨_, _, rfl, by kernel_rfl, by kernel_rfl⟩ | 15, _ => ⟨_, _, rfl, by kernel_rfl, by kernel_rfl⟩
 | k + 16, h => absurd h (by omega)
theorem lib_in {W : World} (h : laidMet Tryz.prog Rows.fmapOneRow.laid W) : ∃ E, Env W E W ∧ ErrsIn E W := by
 obtain ⟨E, hE⟩ := errsIn_of_laid h 1 posE
 have ht := Lib.tabIs_of_head (P := Tryz.prog) (g := 17) (t := 320) (e := 5) (n := 64) (zs := db64) (by kernel_rfl) (by kernel_rfl) (by kernel_rfl) Tryz.underlying5 (by kernel_rfl) (by kernel_rfl) h
 refine ⟨E, ⟨Below.refl _ _, hE.core, fun i hi => ?_⟩, hE⟩
 match i, hi with
 | 0, _ => exact ht.cell (by kernel_rfl) _ (by decide)
 | 1, _ => exact ht.cell (by kernel_rfl) _ (by decide)
 | 2, _ => exact ht.cell (by kernel_rfl) _ (by decide)
 | 3, _ => exact ht.cell (by kernel_rfl) _ (by decide)
 | 4, _ => exact ht.cell (by kernel_rfl) _ (by decide)
 | 5, _ => exact ht.cell (by kernel_rfl) _ (by decide)
 | 6, _ => exact ht.cell (by kernel_rfl) _ (by decide)
 | 7, _ => exact ht.cell (by kernel_rfl) _ (by decide)
theorem contract (H : Type) (enc : TypeId × Value → H) (W : World) (base : Nat) (args : Array Value) (ds gs : List (DataW H)) (before : List MemPlace)
  (hval : ∀ (j : Nat) t v, Tryz.f3.params[j]? = some t → args[j]? = some v → Value.okWide Tryz.prog W .any base t v)
  (hW : DataW.Whole enc Tryz.prog Tryz.f3.params.toList Rows.fmapOneSpec.vars false W args.toList ds gs before) (hL : laidMetH Tryz.prog Rows.fmapOneRow.laid W) :
  Calls Tryz.prog 3 args W fun e W' => ∃ v, e = .returned v ∧ Rows.fmapOneSpec.post enc Tryz.prog Tryz.f3 false true false false W args v W' := by
 have hW' := hW
 obtain ⟨p, q, hA0, hV, rfl, hfz, hnd⟩ := hW
 have hA : DataW.TrodAll enc Tryz.prog W 0 (fun _ => true) true Tryz.f3.params.toList args.toList ds p := hA0
 rw [Tryz.params3] at hA hval
 obtain ⟨v0, vs0, d0, ds0, p0, q0, hargs, rfl, rfl, h0, r0⟩ := trodAll_cons hA
 obtain ⟨v1, vs1, d1, ds1, p1, q1, hargs1, rfl, rfl, h1, r1⟩ := trodAll_cons r0
 obtain ⟨v2, vs2, d2, ds2, p2, q2, hargs2, rfl, rfl, h2, r2⟩ := trodAll_cons r1
 obtain ⟨rfl, rfl, rfl⟩ := trodAll_nil r2
 obtain rfl : args = #[v0, v1, v2] := by cases args; simp_all
 obtain ⟨rfl, rfl⟩ := trodVars_none hV
 obtain ⟨a, rfl, rfl, rfl, ha⟩ := open_float Tryz.underlying22 (hval 0 22 v0 rfl rfl) h0
 obtain ⟨b, rfl, rfl, rfl, hb⟩ := open_float Tryz.underlying22 (hval 1 22 v1 rfl rfl) h1
 obtain ⟨v, rfl, rfl, rfl, hv⟩ := open_float Tryz.underlying22 (hval 2 22 v2 rfl rfl) h2
 clear hA0
 simp only [List.append_nil] at hW'
 obtain ⟨E, hE, hEr⟩ := lib_in hL
 refine (law_one a b v W hE hEr (f64_lt ha) (f64_lt hb) (f64_lt hv)).mono fun e W' ⟨he, hbl⟩ => ?_
 subst he
 exact ⟨_, rfl, post_of_below (pa := []) (pv := []) hW' (fun _ _ _ => trodAll_cons_mk (shut_bool Tryz.underlying4 _) trodAll_mk0)
  (fun _ _ => trodAll_cons_mk (shut_float Tryz.underlying22 ha) (trodAll_cons_mk (shut_float Tryz.underlying22 hb) (trodAll_cons_mk (shut_float Tryz.underlying22 hv) trodAll_mk0)))
  (fun _ _ => rfl) rfl
  hbl (ok_one (by kernel_rfl) rfl (okWide_bool_mk Tryz.underlying4 _))⟩
end Go.Proofs.YtgfcmdmpegomdaaGreatDoor.p28
