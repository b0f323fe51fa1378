/- ScriptTexts: whatever the text, the law answers true, and it reads as it read. No condition but the row's own. -/
import Derived.Test.YtgpkekdbohdbfaaGreatDoorLaw31a
import Derived.Test.YtgpkekdbohdbfaaGreatDoorRead
namespace Go.Proofs.YtgpkekdbohdbfaaGreatDoor.p31d
open Go.ChangeShapes Go.WideShapes Go.ChangeAt Go.RowKit AmS
open Go.ChangeMaps (open_string shut_string)

theorem own : ownKnob Tryz.prog.godebug = none := by kernel_rfl
theorem gMax : Tryz.prog.globalNamed "strings.asciiSpace" = some 17 := by kernel_rfl
theorem laidOut : laidOutB Tryz.prog = true := by kernel_rfl

theorem posE : ∀ k, k < 16 → ∃ n text, Rows.scriptTextsRow.laid[4 + k]? = some (n, errD text) ∧ Tryz.prog.globalNamed n = some (gE (k + 1)) ∧ (Tryz.prog.globals[gE (k + 1)]?).map (·.type) = some 25
  | 0, _ => ⟨_, _, rfl, by kernel_rfl, by kernel_rfl⟩ | 1, _ => ⟨_, _, rfl, by kernel_rfl, by kernel_rfl⟩ | 2, _ => ⟨_, _, rfl, by kernel_rfl, by kernel_rfl⟩ | 3, _ => ⟨_, _, rfl, by kernel_rfl, by kernel_rfl⟩
  | 4, _ => ⟨_, _, rfl, by kernel_rfl, by kernel_rfl⟩ | 5, _ => ⟨_, _, rfl, by kernel_rfl, by kernel_rfl⟩ | 6, _ => ⟨_, _, rfl, by kernel_rfl, by kernel_rfl⟩ | 7, _ => ⟨_, _, rfl, by kernel_rfl, by kernel_rfl⟩
  | 8, _ => ⟨_, _, rfl, by kernel_rfl, by kernel_rfl⟩ | 9, _ => ⟨_, _, rfl, by kernel_rfl, by kernel_rfl⟩ | 10, _ => ⟨_, _, rfl, by kernel_rfl, by kernel_rfl⟩ | 11, _ => ⟨_, _, rfl, by kernel_rfl, by kernel_rfl⟩
  | 12, _ => ⟨_, _, rfl, by kernel_rfl, by kernel_rfl⟩ | 13, _ => ⟨_, _, rfl, by kernel_rfl, by kernel_rfl⟩ | 14, _ => ⟨_, _, rfl, by kernel_rfl, by kernel_rfl⟩ | 15, _ => ⟨_, _, rfl, by kernel_rfl, by kernel_rfl⟩
  | k + 16, h => absurd h (by omega)

set_option maxRecDepth 100000 in
/-- what the row's list and the world's shape give -/
theorem lib_in {W : World} (h : laidMet Tryz.prog Rows.scriptTextsRow.laid W) (hsh : W.ShapedOpen Tryz.prog) : ∃ E, ScrB E W ∧ ErrsIn E W := by
  obtain ⟨E, hE⟩ := errsIn_of_laid h 4 posE
  refine ⟨E, ⟨⟨names_laid h 24 rfl, hE.at_ 1 (by omega) (by omega), hE.at_ 3 (by omega) (by omega), hE.at_ 15 (by omega) (by omega), hE.at_ 13 (by omega) (by omega), ?_, ?_⟩,
    ⟨hE.at_ 3 (by omega) (by omega), hE.at_ 9 (by omega) (by omega), Tryz.laysM146.s1_3 W hsh, ?_⟩, hE.at_ 8 (by omega) (by omega)⟩, hE⟩
  · obtain ⟨a, ha⟩ := err_cell (g := 22) h 21 rfl (by kernel_rfl) (by kernel_rfl)
    exact ⟨_, _, ha⟩
  · obtain ⟨a, ha⟩ := err_cell (g := 23) h 20 rfl (by kernel_rfl) (by kernel_rfl)
    exact ⟨_, _, ha⟩
  · have h21 := laid_drop 23 _ h
    exact Lib.tabIs_of_head (t := 82) (e := 5) (n := 256) (zs := Lib.asciiSpaceTab) gMax (by kernel_rfl) (by kernel_rfl) Tryz.underlying5 (by kernel_rfl) (by kernel_rfl) h21

set_option maxRecDepth 100000 in
theorem contract (H : Type) (enc : TypeId × Value → H) (W : World) (base : Nat) (args : Array Value) (ds gs : List (DataW H)) (before : List MemPlace)
    (hval : ∀ (j : Nat) t v, Tryz.f3.params[j]? = some t → args[j]? = some v → Value.okWide Tryz.prog W .any base t v)
    (hW : DataW.Whole enc Tryz.prog Tryz.f3.params.toList Rows.scriptTextsSpec.vars false W args.toList ds gs before) (hL : laidMetH Tryz.prog Rows.scriptTextsRow.laid W) (hsh : W.ShapedOpen Tryz.prog) :
    Calls Tryz.prog 3 args W fun e W' => ∃ v, e = .returned v ∧ Rows.scriptTextsSpec.post enc Tryz.prog Tryz.f3 false true false false W args v W' := by
  have hW' := hW
  obtain ⟨p, q, hA0, hV, rfl, hfz, hnd⟩ := hW
  have hA : DataW.TrodAll enc Tryz.prog W 0 (fun _ => true) true Tryz.f3.params.toList args.toList ds p := hA0
  rw [Tryz.params3] at hA hval
  obtain ⟨v0, vs0, d0, ds0, p0, q0, hargs, rfl, rfl, h0, r0⟩ := trodAll_cons hA
  obtain ⟨rfl, rfl, rfl⟩ := trodAll_nil r0
  obtain rfl : args = #[v0] := by cases args; simp_all
  obtain ⟨rfl, rfl⟩ := trodVars_none hV
  obtain ⟨sa, rfl, rfl, rfl, hsa⟩ := open_string Tryz.underlying9 (hval 0 9 v0 rfl rfl) h0
  clear hA0
  simp only [List.append_nil] at hW'
  obtain ⟨E, hE, hErr⟩ := lib_in hL hsh
  refine (law_texts sa W hE hErr).mono fun e W' ⟨he, hb⟩ => ?_
  subst he
  exact ⟨_, rfl, post_of_below (pa := []) (pv := []) hW' (fun _ _ _ => trodAll_cons_mk (shut_bool Tryz.underlying4 _) trodAll_mk0) (fun _ _ => trodAll_cons_mk (shut_string Tryz.underlying9 hsa) trodAll_mk0) (fun _ _ => rfl) rfl
    hb (ok_one (by kernel_rfl) rfl (okWide_bool_mk Tryz.underlying4 _))⟩

end Go.Proofs.YtgpkekdbohdbfaaGreatDoor.p31d
