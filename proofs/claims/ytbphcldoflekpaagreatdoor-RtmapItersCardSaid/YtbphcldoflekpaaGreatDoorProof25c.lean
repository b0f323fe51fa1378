/- RtmapIters: whatever the configuration, the hashes and the acts, the law answers true, and they read as they read. No condition but the row's own. -/
import Derived.Test.YtbphcldoflekpaaGreatDoorLaw25c
import Derived.Test.YtbphcldoflekpaaGreatDoorRead25p
namespace Go.Proofs.YtbphcldoflekpaaGreatDoor.p25c
set_option maxRecDepth 100000
open Go.ChangeShapes Go.WideShapes Go.ChangeAt Go.RowKit Go.Deep dA
theorem own : ownKnob Tryz.prog.godebug = none := by kernel_rfl
theorem laidOut : laidOutB Tryz.prog = true := by kernel_rfl
theorem ab3 : ∀ k, k < 16 → ∃ n text, Rows.rtmapItersRow.laid[1 + k]? = some (n, WM text) ∧ Tryz.prog.globalNamed n = some (gE (k + 1)) ∧ (Tryz.prog.globals[gE (k + 1)]?).map (·.type) = some 31
 | 0, _ => ⟨_, _, rfl, by kernel_rfl, by kernel_rfl⟩ | 1, _ => ⟨_, _, rfl, by kernel_rfl, by kernel_rfl⟩ | 2, _ => ⟨_, _, rfl, by kernel_rfl, by kernel_rfl⟩ | 3, _ => ⟨_, _, rfl, by kernel_rfl, by kernel_rfl⟩ | 4, _ => ⟨_, _, rfl, by kernel_rfl, by kernel_rfl⟩ | 5, _ => ⟨_, _, rfl, by kernel_rfl, by kernel_rfl⟩ | 6, _ => ⟨_, _, rfl, by kernel_rfl, by kernel_rfl⟩ | 7, _ => ⟨_, _, rfl, by kernel_rfl, by kernel_rfl⟩ | 8, _ => ⟨_, _, rfl, by kernel_rfl, by kernel_rfl⟩ | 9, _ => ⟨_, _, rfl, by kernel_rfl, by kernel_rfl⟩ | 10, _ => ⟨_, _, rfl, by kernel_rfl, by kernel_rfl⟩ | 11, _ => ⟨_, _, rfl, by kernel_rfl, by kernel_rfl⟩ | 12, _ => ⟨_, _, rfl, by kernel_rfl, by kernel_rfl⟩ | 13, _ => ⟨_, _, rfl, by kernel_rfl, by kernel_rfl⟩ | 14, _ => ⟨_, _, rfl, by kernel_rfl, by kernel_rfl⟩ | 15, _ => ⟨_, _, rfl, by kernel_rfl, by kernel_rfl⟩
 | _ + 16, h => absurd h (by omega)
theorem aaU {W : World} (h : laidMet Tryz.prog Rows.rtmapItersRow.laid W) : ∃ E, Env W E W ∧ eZ E W := by
 obtain ⟨E, hE⟩ := GD h 1 ab3
 obtain ⟨a6, h6⟩ := WO (g := 0) h 6 rfl (by kernel_rfl) (by kernel_rfl)
 have ht := Lib.tabIs_of_head (P := Tryz.prog) (g := 16) (t := 280) (e := 5) (n := 64) (zs := ab2) (by kernel_rfl) (by kernel_rfl) (by kernel_rfl) Tryz.underlying5 (by kernel_rfl) (by kernel_rfl) h
 refine ⟨E, ⟨Below.refl _ _, hE.core, fun i hi => ?_⟩, hE⟩
 ·match i, hi with
  | 0, _ => exact ht.cell (by kernel_rfl) _ (by decide)
  | 1, _ => exact ht.cell (by kernel_rfl) _ (by decide)
  | 2, _ => exact ht.cell (by kernel_rfl) _ (by decide)
  | 3, _ => exact ht.cell (by kernel_rfl) _ (by decide)
  | 4, _ => exact ht.cell (by kernel_rfl) _ (by decide)
  | 5, _ => exact ht.cell (by kernel_rfl) _ (by decide)
  | 6, _ => exact ht.cell (by kernel_rfl) _ (by decide)
  | 7, _ => exact ht.cell (by kernel_rfl) _ (by decide)
theorem contract (H : Type) (enc : TypeId × Value → H) (W : World) (base : Nat) (args : Array Value) (ds gs : List (DataW H)) (before : List MemPlace)
  (hval : ∀ (j : Nat) t v, Tryz.f3.params[j]? = some t → args[j]? = some v → Value.okWide Tryz.prog W .any base t v)
  (hW : DataW.Whole enc Tryz.prog Tryz.f3.params.toList Rows.rtmapItersSpec.vars false W args.toList ds gs before) (hL : laidMetH Tryz.prog Rows.rtmapItersRow.laid W) :
  Calls Tryz.prog 3 args W fun e W' => ∃ v, e = .returned v ∧ Rows.rtmapItersSpec.post enc Tryz.prog Tryz.f3 false true false false W args v W' := by
 have hW' := hW
 obtain ⟨p, q, XF, hV, rfl, hfz, hnd⟩ := hW
 have hA : DataW.TrodAll enc Tryz.prog W 0 (fun _ => true) true Tryz.f3.params.toList args.toList ds p := XF
 rw [Tryz.params3] at hA hval
 obtain ⟨v0, vs0, d0, ds0, p0, q0, hargs, rfl, rfl, h0, r0⟩ := trodAll_cons hA
 obtain ⟨v1, vs1, d1, ds1, p1, q1, ab9, rfl, rfl, h1, r1⟩ := trodAll_cons r0
 obtain ⟨v2, vs2, d2, ds2, p2, q2, acd, rfl, rfl, h2, r2⟩ := trodAll_cons r1
 obtain ⟨rfl, rfl, rfl⟩ := trodAll_nil r2
 obtain rfl : args = #[v0, v1, v2] := by cases args; simp_all
 obtain ⟨rfl, rfl⟩ := trodVars_none hV
 have h0k := h0
 have h1k := h1
 have h2k := h2
 obtain ⟨k, m, i, rfl⟩ := WS (hval 0 23 v0 rfl rfl) h0
 obtain ⟨A, n, c, l, rfl, hl, hR, hll⟩ := Ub (hval 1 24 v1 rfl rfl) h1
 obtain ⟨B, ma, d, acts, B2, mG, d2, FU, rfl, hla, X7, QS, QT⟩ := QW (hval 2 26 v2 rfl rfl) h2
 clear XF
 simp only [List.append_nil] at hW'
 obtain ⟨E, hE, aaV⟩ := aaU hL
 have hlt : ∀ x ∈ p0 ++ (p1 ++ p2), x.block < W.heap.size := fun x hx => hW'.lt x hx
 refine (TR k m i A n c l B ma d acts B2 mG d2 FU W hE (aaV.at_ 6 (by omega) (by omega)) aaV hl hll hR hla X7 QS QT).mono fun e W' ⟨he, hb⟩ => ?_
 subst he
 exact ⟨_, rfl, JX (pa := p0 ++ (p1 ++ p2)) (pv := []) hW' (fun _ _ _ => trodAll_cons_mk (shut_bool Tryz.underlying4 _) trodAll_mk0)
  (fun sp hsp => by
   have := trodAll_cons_mk (WideElems.Trod_stays (sp' := sp) laidOut (by kernel_rfl) (of_decide_eq_true (by kernel_rfl)) h0k (fun x hx => hb.same (hlt x (by simp [hx]))) (fun x hx => hsp x (by simp [hx])))
    (trodAll_cons_mk (WideElems.Trod_stays (sp' := sp) laidOut (by kernel_rfl) (of_decide_eq_true (by kernel_rfl)) h1k (fun x hx => hb.same (hlt x (by simp [hx]))) (fun x hx => hsp x (by simp [hx])))
    (trodAll_cons_mk (WideElems.Trod_stays (sp' := sp) laidOut (by kernel_rfl) (of_decide_eq_true (by kernel_rfl)) h2k (fun x hx => hb.same (hlt x (by simp [hx]))) (fun x hx => hsp x (by simp [hx]))) trodAll_mk0))
   simp only [List.append_nil] at this
   exact this)
  (fun _ _ => rfl) (by simp)
  hb (ok_one (by kernel_rfl) rfl (okWide_bool_mk Tryz.underlying4 _))⟩
end Go.Proofs.YtbphcldoflekpaaGreatDoor.p25c
