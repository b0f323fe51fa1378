/- GaugeFloats: whatever the numbers and the float, the law answers true, and they read as they read. No condition but the row's own. -/
import Derived.Test.YtgpkekdbohdbfaaDoorGaugeF
import Derived.Test.YtgpkekdbohdbfaaDoorLaid2
import Derived.Deep.Strs
import Derived.OpenShut
import Derived.Carry
namespace Go.Proofs.YtgpkekdbohdbfaaDoor.p35a
open Go.ChangeShapes Go.WideShapes Go.ChangeAt Go.RowKit Go.Deep AmF

theorem own : ownKnob Tryd.prog.godebug = none := by kernel_rfl
theorem gPow10 : Tryd.prog.globalNamed "internal/strconv.uint64pow10" = some 20 := by kernel_rfl

theorem pow_keep {w w' : World} (h : Lib.TabIs Tryd.prog w "internal/strconv.uint64pow10" .u64 Lib.pow10Tab) (hb : Below w.heap.size w w') : Lib.TabIs Tryd.prog w' "internal/strconv.uint64pow10" .u64 Lib.pow10Tab := by
  unfold Lib.TabIs World.var? at h ⊢
  simp only [gPow10, Option.bind_some] at h ⊢
  have hlt : 20 < w.heap.size := by
    rcases Nat.lt_or_ge 20 w.heap.size with h1 | h1
    · exact h1
    · simp [Array.getElem?_eq_none h1] at h
  rw [hb.block _ hlt]
  exact h
theorem f64_lt {b : Nat} (h : (Lit.float .f64 b).wf = true) : b < 18446744073709551616 := by
  have : b < 2 ^ 64 := by simpa [Lit.wf] using h
  have e : (2 : Nat) ^ 64 = 18446744073709551616 := by decide
  rw [← e]; exact this

set_option maxRecDepth 100000 in
/-- what the row's list gives -/
theorem lib_in {W : World} (h : laidMet Tryd.prog Rows.gaugeFloatsRow.laid W) : Lib.TabIs Tryd.prog W "internal/strconv.uint64pow10" .u64 Lib.pow10Tab := by
  have h2 := laid_drop 2 _ h
  exact Lib.tabIs_of_head (P := Tryd.prog) (g := 20) (t := 159) (e := 25) (n := 20) (zs := Lib.pow10Tab) gPow10 (by kernel_rfl) (by kernel_rfl) Tryd.underlying25 (by kernel_rfl) (by kernel_rfl) h2

set_option maxRecDepth 100000 in
theorem contract (H : Type) (enc : TypeId × Value → H) (W : World) (base : Nat) (args : Array Value) (ds gs : List (DataW H)) (before : List MemPlace)
    (hval : ∀ (j : Nat) t v, Tryd.f4.params[j]? = some t → args[j]? = some v → Value.okWide Tryd.prog W .any base t v)
    (hW : DataW.Whole enc Tryd.prog Tryd.f4.params.toList Rows.gaugeFloatsSpec.vars false W args.toList ds gs before) (hL : laidMetH Tryd.prog Rows.gaugeFloatsRow.laid W) (_ : W.ShapedOpen Tryd.prog) :
    Calls Tryd.prog 4 args W fun e W' => ∃ v, e = .returned v ∧ Rows.gaugeFloatsSpec.post enc Tryd.prog Tryd.f4 false true false false W args v W' := by
  have hW' := hW
  obtain ⟨p, q, hA0, hV, rfl, hfz, hnd⟩ := hW
  have hA : DataW.TrodAll enc Tryd.prog W 0 (fun _ => true) true Tryd.f4.params.toList args.toList ds p := hA0
  rw [Tryd.params4] at hA hval
  obtain ⟨v0, vs0, d0, ds0, p0, q0, hargs, rfl, rfl, h0, r0⟩ := trodAll_cons hA
  obtain ⟨v1, vs1, d1, ds1, p1, q1, hargs1, rfl, rfl, h1, r1⟩ := trodAll_cons r0
  obtain ⟨v2, vs2, d2, ds2, p2, q2, hargs2, rfl, rfl, h2, r2⟩ := trodAll_cons r1
  obtain ⟨rfl, rfl, rfl⟩ := trodAll_nil r2
  obtain rfl : args = #[v0, v1, v2] := by cases args; simp_all
  obtain ⟨rfl, rfl⟩ := trodVars_none hV
  obtain ⟨n0, rfl, rfl, rfl, hn0⟩ := open_int Tryd.underlying3 (hval 0 3 v0 rfl rfl) h0
  obtain ⟨n1, rfl, rfl, rfl, hn1⟩ := open_int Tryd.underlying3 (hval 1 3 v1 rfl rfl) h1
  obtain ⟨f, rfl, rfl, rfl, hf⟩ := open_float Tryd.underlying43 (hval 2 43 v2 rfl rfl) h2
  clear hA0
  simp only [List.append_nil] at hW'
  have hT := lib_in hL
  refine (law_floats n0 n1 f (f64_lt hf) W hT (fun _ hb => pow_keep hT hb)).mono fun e W' ⟨he, hb⟩ => ?_
  subst he
  exact ⟨_, rfl, post_of_below (pa := []) (pv := []) hW' (fun _ _ _ => trodAll_cons_mk (shut_bool Tryd.underlying4 _) trodAll_mk0)
    (fun _ _ => trodAll_cons_mk (shut_int Tryd.underlying3 hn0) (trodAll_cons_mk (shut_int Tryd.underlying3 hn1) (trodAll_cons_mk (shut_float Tryd.underlying43 hf) trodAll_mk0)))
    (fun _ _ => rfl) rfl
    hb (ok_one (by kernel_rfl) rfl (okWide_bool_mk Tryd.underlying4 _))⟩

end Go.Proofs.YtgpkekdbohdbfaaDoor.p35a
