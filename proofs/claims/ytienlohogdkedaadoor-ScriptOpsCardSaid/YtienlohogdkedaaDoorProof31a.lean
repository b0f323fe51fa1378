/- ScriptOps: whatever the operations and the kind, the law answers true, and both read as they read. No condition but the row's own. -/
import Derived.Test.YtienlohogdkedaaDoorScriptI
import Derived.Test.YtienlohogdkedaaDoorRead
namespace Go.Proofs.YtienlohogdkedaaDoor.p31a
open Go.ChangeShapes Go.WideShapes Go.ChangeAt Go.RowKit AmS

theorem own : ownKnob Tryd.prog.godebug = none := by kernel_rfl
theorem gMax : Tryd.prog.globalNamed "strings.asciiSpace" = some 18 := by kernel_rfl
theorem laidOut : laidOutB Tryd.prog = true := by kernel_rfl

set_option maxRecDepth 100000 in
/-- what the row's list and the world's shape give -/
theorem lib_in {W : World} (h : laidMet Tryd.prog Rows.scriptOpsRow.laid W) (hsh : W.ShapedOpen Tryd.prog) : ∃ E, ScrB E W := by
  refine ⟨pickE W, ⟨names_laid h 14 rfl, pickE_at (err_cell (g := gE 1) h 4 rfl (by kernel_rfl) (by kernel_rfl)), pickE_at (err_cell (g := gE 3) h 5 rfl (by kernel_rfl) (by kernel_rfl)), pickE_at (err_cell (g := gE 15) h 9 rfl (by kernel_rfl) (by kernel_rfl)),
      pickE_at (err_cell (g := gE 13) h 8 rfl (by kernel_rfl) (by kernel_rfl)), ?_, ?_⟩,
    ⟨pickE_at (err_cell (g := gE 3) h 5 rfl (by kernel_rfl) (by kernel_rfl)), pickE_at (err_cell (g := gE 9) h 7 rfl (by kernel_rfl) (by kernel_rfl)), Tryd.laysM146.s1_3 W hsh, ?_⟩, pickE_at (err_cell (g := gE 8) h 6 rfl (by kernel_rfl) (by kernel_rfl))⟩
  · obtain ⟨a, ha⟩ := err_cell (g := 21) h 11 rfl (by kernel_rfl) (by kernel_rfl)
    exact ⟨_, _, ha⟩
  · obtain ⟨a, ha⟩ := err_cell (g := 22) h 10 rfl (by kernel_rfl) (by kernel_rfl)
    exact ⟨_, _, ha⟩
  · have h21 := laid_drop 13 _ h
    exact Lib.tabIs_of_head (t := 145) (e := 5) (n := 256) (zs := Lib.asciiSpaceTab) gMax (by kernel_rfl) (by kernel_rfl) Tryd.underlying5 (by kernel_rfl) (by kernel_rfl) h21

set_option maxRecDepth 100000 in
theorem contract (H : Type) (enc : TypeId × Value → H) (W : World) (base : Nat) (args : Array Value) (ds gs : List (DataW H)) (before : List MemPlace)
    (hval : ∀ (j : Nat) t v, Tryd.f10.params[j]? = some t → args[j]? = some v → Value.okWide Tryd.prog W .any base t v)
    (hW : DataW.Whole enc Tryd.prog Tryd.f10.params.toList Rows.scriptOpsSpec.vars false W args.toList ds gs before) (hL : laidMetH Tryd.prog Rows.scriptOpsRow.laid W) (hsh : W.ShapedOpen Tryd.prog) :
    Calls Tryd.prog 10 args W fun e W' => ∃ v, e = .returned v ∧ Rows.scriptOpsSpec.post enc Tryd.prog Tryd.f10 false true false false W args v W' := by
  have hW' := hW
  obtain ⟨p, q, hA0, hV, rfl, hfz, hnd⟩ := hW
  have hA : DataW.TrodAll enc Tryd.prog W 0 (fun _ => true) true Tryd.f10.params.toList args.toList ds p := hA0
  rw [Tryd.params10] at hA hval
  obtain ⟨v0, vs0, d0, ds0, p0, q0, hargs, rfl, rfl, h0, r0⟩ := trodAll_cons hA
  obtain ⟨v1, vs1, d1, ds1, p1, q1, hargs1, rfl, rfl, h1, r1⟩ := trodAll_cons r0
  obtain ⟨rfl, rfl, rfl⟩ := trodAll_nil r1
  obtain rfl : args = #[v0, v1] := by cases args; simp_all
  obtain ⟨rfl, rfl⟩ := trodVars_none hV
  have h0k := h0
  obtain ⟨A, n, c, l, rfl, hcap, hR, hwf⟩ := open_ops (hval 0 22 v0 rfl rfl) h0
  obtain ⟨n1, rfl, rfl, rfl, hn1⟩ := open_int Tryd.underlying3 (hval 1 3 v1 rfl rfl) h1
  clear hA0
  simp only [List.append_nil] at hW'
  have hlt : ∀ x ∈ p0, x.block < W.heap.size := fun x hx => hW'.lt x hx
  obtain ⟨E, hE⟩ := lib_in hL hsh
  refine (law_ops A n c n1 l W hR hcap hwf hE).mono fun e W' ⟨he, hb⟩ => ?_
  subst he
  exact ⟨_, rfl, post_of_below (pa := p0) (pv := []) hW' (fun _ _ _ => trodAll_cons_mk (shut_bool Tryd.underlying4 _) trodAll_mk0)
    (fun sp hsp => by
      have := trodAll_cons_mk (WideElems.Trod_stays (sp' := sp) laidOut (by kernel_rfl) (of_decide_eq_true (by kernel_rfl)) h0k (fun x hx => hb.same (hlt x hx)) (fun x hx => hsp x hx)) (trodAll_cons_mk (shut_int Tryd.underlying3 hn1) trodAll_mk0)
      simp only [List.append_nil] at this
      exact this)
    (fun _ _ => rfl) (by simp)
    hb (ok_one (by kernel_rfl) rfl (okWide_bool_mk Tryd.underlying4 _))⟩

end Go.Proofs.YtienlohogdkedaaDoor.p31a
