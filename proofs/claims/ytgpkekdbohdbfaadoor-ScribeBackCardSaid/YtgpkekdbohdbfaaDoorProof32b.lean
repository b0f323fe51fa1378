/- ScribeBack: whatever the operations, the law answers true, and they read as they read. No condition but the row's own. -/
import Derived.Test.YtgpkekdbohdbfaaDoorScribeH
import Derived.Test.YtgpkekdbohdbfaaDoorRead
namespace Go.Proofs.YtgpkekdbohdbfaaDoor.p32b
open Go.ChangeShapes Go.WideShapes Go.ChangeAt Go.RowKit AmS

theorem own : ownKnob Tryd.prog.godebug = none := by kernel_rfl
theorem laidOut : laidOutB Tryd.prog = true := by kernel_rfl
/-- the number 4 stands at place 15 of math/bits' table -/
def db64 : List Int := [0, 1, 56, 2, 57, 49, 28, 3, 61, 58, 42, 50, 38, 29, 17, 4, 62, 47, 59, 36, 45, 43, 51, 22, 53, 39, 33, 30, 24, 18, 12, 5, 63, 55, 48, 27, 60, 41, 37, 16, 46, 35, 44, 21, 52, 32, 23, 11, 54, 26, 40, 15, 34, 20, 31, 10, 25, 14, 19, 9, 13, 8, 7, 6]

theorem gMax : Tryd.prog.globalNamed "strings.asciiSpace" = some 18 := by kernel_rfl

set_option maxRecDepth 100000 in
/-- what the row's list gives -/
theorem lib_in {W : World} (h : laidMet Tryd.prog Rows.scribeBackRow.laid W) (hsh : W.ShapedOpen Tryd.prog) : ∃ E, ScribeIn E W ∧ ScrB E W := by
  have e3 := pickE_at (W := W) (err_cell (g := gE 3) h 5 rfl (by kernel_rfl) (by kernel_rfl))
  have e8 := pickE_at (W := W) (err_cell (g := gE 8) h 6 rfl (by kernel_rfl) (by kernel_rfl))
  have e9 := pickE_at (W := W) (err_cell (g := gE 9) h 7 rfl (by kernel_rfl) (by kernel_rfl))
  have hnm := names_laid h 14 rfl
  refine ⟨pickE W, ⟨hnm, e3, e8, e9, ?_, ?_⟩, ⟨hnm, pickE_at (err_cell (g := gE 1) h 4 rfl (by kernel_rfl) (by kernel_rfl)), e3, pickE_at (err_cell (g := gE 15) h 9 rfl (by kernel_rfl) (by kernel_rfl)),
      pickE_at (err_cell (g := gE 13) h 8 rfl (by kernel_rfl) (by kernel_rfl)), ?_, ?_⟩,
    ⟨e3, e9, Tryd.laysM146.s1_3 W hsh, ?_⟩, e8⟩
  · have h1 := laid_drop 1 _ h
    have ht := Lib.tabIs_of_head (P := Tryd.prog) (g := 23) (t := 188) (e := 5) (n := 64) (zs := db64) (by kernel_rfl) (by kernel_rfl) (by kernel_rfl) Tryd.underlying5 (by kernel_rfl) (by kernel_rfl) h1
    exact ht.cell (by kernel_rfl) 15 (by decide)
  · have h2 := laid_drop 2 _ h
    exact Lib.tabIs_of_head (P := Tryd.prog) (g := 20) (t := 159) (e := 25) (n := 20) (zs := Lib.pow10Tab) gPow (by kernel_rfl) (by kernel_rfl) Tryd.underlying25 (by kernel_rfl) (by kernel_rfl) h2
  · obtain ⟨a, ha⟩ := err_cell (g := 26) h 11 rfl (by kernel_rfl) (by kernel_rfl)
    exact ⟨_, _, ha⟩
  · obtain ⟨a, ha⟩ := err_cell (g := 27) h 10 rfl (by kernel_rfl) (by kernel_rfl)
    exact ⟨_, _, ha⟩
  · have h21 := laid_drop 13 _ h
    exact Lib.tabIs_of_head (t := 136) (e := 5) (n := 256) (zs := Lib.asciiSpaceTab) gMax (by kernel_rfl) (by kernel_rfl) Tryd.underlying5 (by kernel_rfl) (by kernel_rfl) h21

set_option maxRecDepth 100000 in
theorem contract (H : Type) (enc : TypeId × Value → H) (W : World) (base : Nat) (args : Array Value) (ds gs : List (DataW H)) (before : List MemPlace)
    (hval : ∀ (j : Nat) t v, Tryd.f6.params[j]? = some t → args[j]? = some v → Value.okWide Tryd.prog W .any base t v)
    (hW : DataW.Whole enc Tryd.prog Tryd.f6.params.toList Rows.scribeBackSpec.vars false W args.toList ds gs before) (hL : laidMetH Tryd.prog Rows.scribeBackRow.laid W) (hsh : W.ShapedOpen Tryd.prog) :
    Calls Tryd.prog 6 args W fun e W' => ∃ v, e = .returned v ∧ Rows.scribeBackSpec.post enc Tryd.prog Tryd.f6 false true false false W args v W' := by
  have hW' := hW
  obtain ⟨p, q, hA0, hV, rfl, hfz, hnd⟩ := hW
  have hA : DataW.TrodAll enc Tryd.prog W 0 (fun _ => true) true Tryd.f6.params.toList args.toList ds p := hA0
  rw [Tryd.params6] at hA hval
  obtain ⟨v0, vs0, d0, ds0, p0, q0, hargs, rfl, rfl, h0, r0⟩ := trodAll_cons hA
  obtain ⟨rfl, rfl, rfl⟩ := trodAll_nil r0
  obtain rfl : args = #[v0] := by cases args; simp_all
  obtain ⟨rfl, rfl⟩ := trodVars_none hV
  have h0k := h0
  obtain ⟨A, n, c, l, rfl, hcap, hR, hwf⟩ := open_ops (hval 0 22 v0 rfl rfl) h0
  clear hA0
  simp only [List.append_nil] at hW'
  have hlt : ∀ x ∈ p0, x.block < W.heap.size := fun x hx => hW'.lt x hx
  obtain ⟨E, hE, hB⟩ := lib_in hL hsh
  refine (law_scribe_back A n c l W hR hwf hE hB).mono fun e W' ⟨he, hb⟩ => ?_
  subst he
  exact ⟨_, rfl, post_of_below (pa := p0) (pv := []) hW' (fun _ _ _ => trodAll_cons_mk (shut_bool Tryd.underlying4 _) trodAll_mk0)
    (fun sp hsp => by
      have := trodAll_cons_mk (WideElems.Trod_stays (sp' := sp) laidOut (by kernel_rfl) (of_decide_eq_true (by kernel_rfl)) h0k (fun x hx => hb.same (hlt x hx)) (fun x hx => hsp x hx)) trodAll_mk0
      simp only [List.append_nil] at this
      exact this)
    (fun _ _ => rfl) (by simp)
    hb (ok_one (by kernel_rfl) rfl (okWide_bool_mk Tryd.underlying4 _))⟩

end Go.Proofs.YtgpkekdbohdbfaaDoor.p32b
