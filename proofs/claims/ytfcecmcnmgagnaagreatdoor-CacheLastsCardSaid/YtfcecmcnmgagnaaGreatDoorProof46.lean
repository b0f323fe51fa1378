/- CacheLasts: whatever the configuration, the hashes and the keys, the law answers true, and they read as they read. No condition but the row's own. -/
import Derived.Test.YtfcecmcnmgagnaaGreatDoorLaw46
import Derived.Test.YtfcecmcnmgagnaaGreatDoorRead46
namespace Go.Proofs.YtfcecmcnmgagnaaGreatDoor.p46
set_option maxRecDepth 100000
open Go.ChangeShapes Go.WideShapes Go.ChangeAt Go.RowKit Go.Deep AmC
def db64 : List Int := [0, 1, 56, 2, 57, 49, 28, 3, 61, 58, 42, 50, 38, 29, 17, 4, 62, 47, 59, 36, 45, 43, 51, 22, 53, 39, 33, 30, 24, 18, 12, 5, 63, 55, 48, 27, 60, 41, 37, 16, 46, 35, 44, 21, 52, 32, 23, 11, 54, 26, 40, 15, 34, 20, 31, 10, 25, 14, 19, 9, 13, 8, 7, 6]
theorem own : ownKnob Tryz.prog.godebug = none := by kernel_rfl
theorem laidOut : laidOutB Tryz.prog = true := by kernel_rfl
theorem lib_in {W : World} (h : laidMet Tryz.prog Rows.cacheLastsRow.laid W) : ∃ E, Env W E W := by
 obtain ⟨a1, h1⟩ := err_cell (g := 0) h 1 rfl (by kernel_rfl) (by kernel_rfl)
 obtain ⟨a2, h2⟩ := err_cell (g := 3) h 2 rfl (by kernel_rfl) (by kernel_rfl)
 obtain ⟨a5, h5⟩ := err_cell (g := 7) h 5 rfl (by kernel_rfl) (by kernel_rfl)
 have ht := Lib.tabIs_of_head (P := Tryz.prog) (g := 9) (t := 256) (e := 5) (n := 64) (zs := db64) (by kernel_rfl) (by kernel_rfl) (by kernel_rfl) Tryz.underlying5 (by kernel_rfl) (by kernel_rfl) h
 refine ⟨fun k => if k = 1 then a1 else if k = 2 then a2 else a5, Below.refl _ _, ⟨fun k hk => ?_⟩, fun i hi => ?_⟩
 ·rcases hk with rfl | rfl | rfl
  ·exact h1
  ·exact h2
  ·exact h5
 ·match i, hi with
  | 0, _ => exact ht.cell (by kernel_rfl) _ (by decide)
  | 1, _ => exact ht.cell (by kernel_rfl) _ (by decide)
  | 2, _ => exact ht.cell (by kernel_rfl) _ (by decide)
  | 3, _ => exact ht.cell (by kernel_rfl) _ (by decide)
  | 4, _ => exact ht.cell (by kernel_rfl) _ (by decide)
  | 5, _ => exact ht.cell (by kernel_rfl) _ (by decide)
  | 6, _ => exact ht.cell (by kernel_rfl) _ (by decide)
  | 7, _ => exact ht.cell (by kernel_rfl) _ (by decide)
theorem contract (H : Type) (enc : TypeId × Value → H) (W : World) (base : Nat) (args : Array Value) (ds gs : List (DataW H)) (before : List MemPlace)
  (hval : ∀ (j : Nat) t v, Tryz.f3.params[j]? = some t → args[j]? = some v → Value.okWide Tryz.prog W .any base t v)
  (hW : DataW.Whole enc Tryz.prog Tryz.f3.params.toList Rows.cacheLastsSpec.vars false W args.toList ds gs before) (hL : laidMetH Tryz.prog Rows.cacheLastsRow.laid W) :
  Calls Tryz.prog 3 args W fun e W' => ∃ v, e = .returned v ∧ Rows.cacheLastsSpec.post enc Tryz.prog Tryz.f3 false true false false W args v W' := by
 have hW' := hW
 obtain ⟨p, q, hA0, hV, rfl, hfz, hnd⟩ := hW
 have hA : DataW.TrodAll enc Tryz.prog W 0 (fun _ => true) true Tryz.f3.params.toList args.toList ds p := hA0
 rw [Tryz.params3] at hA hval
 obtain ⟨v0, vs0, d0, ds0, p0, q0, hargs, rfl, rfl, h0, r0⟩ := trodAll_cons hA
 obtain ⟨v1, vs1, d1, ds1, p1, q1, hargs1, rfl, rfl, h1, r1⟩ := trodAll_cons r0
 obtain ⟨v2, vs2, d2, ds2, p2, q2, hargs2, rfl, rfl, h2, r2⟩ := trodAll_cons r1
 obtain ⟨rfl, rfl, rfl⟩ := trodAll_nil r2
 obtain rfl : args = #[v0, v1, v2] := by cases args; simp_all
 obtain ⟨rfl, rfl⟩ := trodVars_none hV
 have h0k := h0
 have h1k := h1
 have h2k := h2
 obtain ⟨k, m, i, rfl⟩ := open_cfg (hval 0 23 v0 rfl rfl) h0
 obtain ⟨A, n, c, l, rfl, hl, hR, hll⟩ := open_hash (hval 1 24 v1 rfl rfl) h1
 obtain ⟨B, ma, d, acts, rfl, hla, hRa⟩ := open_keys (hval 2 25 v2 rfl rfl) h2
 clear hA0
 simp only [List.append_nil] at hW'
 obtain ⟨E, hE⟩ := lib_in hL
 have hlt : ∀ x ∈ p0 ++ (p1 ++ p2), x.block < W.heap.size := fun x hx => hW'.lt x hx
 refine (law_lasts k m i A n c l B ma d acts W hE hl hll hR hla hRa).mono fun e W' ⟨he, hb⟩ => ?_
 subst he
 exact ⟨_, rfl, post_of_below (pa := p0 ++ (p1 ++ p2)) (pv := []) hW' (fun _ _ _ => trodAll_cons_mk (shut_bool Tryz.underlying4 _) trodAll_mk0)
  (fun sp hsp => by
   have := trodAll_cons_mk (WideElems.Trod_stays (sp' := sp) laidOut (by kernel_rfl) (of_decide_eq_true (by kernel_rfl)) h0k (fun x hx => hb.same (hlt x (by simp [hx]))) (fun x hx => hsp x (by simp [hx])))
    (trodAll_cons_mk (WideElems.Trod_stays (sp' := sp) laidOut (by kernel_rfl) (of_decide_eq_true (by kernel_rfl)) h1k (fun x hx => hb.same (hlt x (by simp [hx]))) (fun x hx => hsp x (by simp [hx])))
    (trodAll_cons_mk (WideElems.Trod_stays (sp' := sp) laidOut (by kernel_rfl) (of_decide_eq_true (by kernel_rfl)) h2k (fun x hx => hb.same (hlt x (by simp [hx]))) (fun x hx => hsp x (by simp [hx]))) trodAll_mk0))
   simp only [List.append_nil] at this
   exact this)
  (fun _ _ => rfl) (by simp)
  hb (ok_one (by kernel_rfl) rfl (okWide_bool_mk Tryz.underlying4 _))⟩
end Go.Proofs.YtfcecmcnmgagnaaGreatDoor.p46
