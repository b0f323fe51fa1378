/- GaugeLists: whatever the list, the law answers true, and it reads as it read. No condition but the row's own. -/
import Derived.Test.YtgpkekdbohdbfaaDoorGaugeD
import Derived.Test.YtgpkekdbohdbfaaDoorLaid2
import Derived.Deep.Strs
import Derived.OpenShut
import Derived.Carry
namespace Go.Proofs.YtgpkekdbohdbfaaDoor.p35b
open Go.ChangeShapes Go.WideShapes Go.ChangeAt Go.RowKit Go.Deep AmF

theorem own : ownKnob Tryd.prog.godebug = none := by kernel_rfl
theorem laidOut : laidOutB Tryd.prog = true := by kernel_rfl
theorem gPow10 : Tryd.prog.globalNamed "internal/strconv.uint64pow10" = some 20 := by kernel_rfl

section
variable {H : Type} {enc : TypeId × Value → H} {w : World} {base : Nat} {spare : Nat → Bool} {held : Bool} {fuel : Nat}
theorem trod_float {P : Program} {t : TypeId} {k : FloatKind} {cs : List Value} {x : DataW H × List MemPlace} (ht : P.underlying t = some (.float k)) (h : DataW.trod enc P w base spare held fuel t cs = some x) : ∃ b, cs = [.float k b] ∧ x = (.lit (.float k b), []) ∧ (Lit.float k b).wf = true := by
  cases fuel with
  | zero => simp [DataW.trod] at h
  | succ n =>
    unfold DataW.trod at h
    rw [ht] at h
    split at h <;> simp_all
theorem float_trod {cs : List Value} {x : DataW H × List MemPlace} (h : DataW.trod enc Tryd.prog w base spare held fuel 43 cs = some x) : ∃ b, cs = [.float .f64 b] ∧ b < 18446744073709551616 := by
  obtain ⟨b, rfl, _, hw⟩ := trod_float Tryd.underlying43 h
  refine ⟨b, rfl, ?_⟩
  have : b < 2 ^ 64 := by simpa [Lit.wf] using hw
  have e : (2 : Nat) ^ 64 = 18446744073709551616 := by decide
  rw [← e]; exact this
set_option maxRecDepth 100000 in
/-- a slice of floats that came in -/
theorem open_floats {v : Value} {d : DataW H} {p : List MemPlace} (ho : Value.okWide Tryd.prog w .any base 55 v) (h : DataW.Trod enc Tryd.prog w 0 (fun _ => true) true 55 v d p) :
    ∃ A n c l, v = .slice A n c ∧ n ≤ c ∧ Reads w w.heap.size 1 A n (l.map fV) ∧ words l := by
  obtain ⟨a0, len0, cap0, rfl⟩ := okWide_slice Tryd.underlying55 ho
  obtain ⟨fuel, hf⟩ := h
  have hc1 : Tryd.prog.cellsOf 43 = 1 := by kernel_rfl
  rcases open_slice Tryd.underlying55 hf with ⟨hcs, _⟩ | ⟨a, len, cap, m, k, D, Pl, hcs, _, hl, _, hm, _, hx⟩
  · simp [Value.cells] at hcs
    obtain ⟨rfl, rfl, rfl⟩ := hcs
    refine ⟨none, 0, 0, [], rfl, Nat.le_refl _, ?_, fun _ h => absurd h List.not_mem_nil⟩
    exact Reads.none_
  · simp [Value.cells] at hcs
    obtain ⟨rfl, rfl, rfl⟩ := hcs
    simp only [if_true] at hm
    rw [hc1] at hx
    obtain ⟨O, hO⟩ := choose_lt (α := Nat) (n := len0) (p := fun i b => b < 18446744073709551616 ∧ w.cell? (a.add i) = some (.float .f64 b)) (fun i hi => by
      obtain ⟨cs', h1, h2⟩ := hx i (by omega)
      obtain ⟨_, _, hcell⟩ := World.cells?_some h1
      obtain ⟨b, rfl, hw⟩ := float_trod h2
      have := hcell 0 (by omega)
      rw [Nat.mul_one] at this
      refine ⟨b, hw, ?_⟩
      obtain ⟨ab, ao, asp⟩ := a
      have e : ((⟨ab, ao, asp⟩ : Addr).add i).add 0 = (⟨ab, ao, asp⟩ : Addr).add i := by
        unfold Addr.add
        split <;> simp_all
      rw [e] at this
      simpa using this)
    refine ⟨some a, len0, cap0, (List.range len0).map O, rfl, hl, ⟨by simp, fun hn => ?_⟩, fun o ho => ?_⟩
    · obtain ⟨b, off, spot⟩ := a
      have h00 := (hO 0 (by omega)).2
      have hspot : spot = none := by simpa [Addr.add] using World.cell?_spot h00
      subst hspot
      refine ⟨b, off, rfl, by simpa [Addr.add] using World.block_lt_of_cell? w _ h00, fun j u hu => ?_⟩
      have hj : j < len0 := by have := (List.getElem?_eq_some_iff.1 hu).1; simpa using this
      have h1 := (hO j (by omega)).2
      rw [add_plain] at h1
      rw [h1, ← hu]
      simp [hj, fV]
    · obtain ⟨i, hi, rfl⟩ := List.mem_map.1 ho
      exact (hO i (by simpa using hi)).1
end

set_option maxRecDepth 100000 in
/-- what the row's list gives -/
theorem lib_in {W : World} (h : laidMet Tryd.prog Rows.gaugeListsRow.laid W) : Lib.TabIs Tryd.prog W "internal/strconv.uint64pow10" .u64 Lib.pow10Tab := by
  have h2 := laid_drop 2 _ h
  exact Lib.tabIs_of_head (P := Tryd.prog) (g := 20) (t := 159) (e := 25) (n := 20) (zs := Lib.pow10Tab) gPow10 (by kernel_rfl) (by kernel_rfl) Tryd.underlying25 (by kernel_rfl) (by kernel_rfl) h2

set_option maxRecDepth 100000 in
theorem contract (H : Type) (enc : TypeId × Value → H) (W : World) (base : Nat) (args : Array Value) (ds gs : List (DataW H)) (before : List MemPlace)
    (hval : ∀ (j : Nat) t v, Tryd.f5.params[j]? = some t → args[j]? = some v → Value.okWide Tryd.prog W .any base t v)
    (hW : DataW.Whole enc Tryd.prog Tryd.f5.params.toList Rows.gaugeListsSpec.vars false W args.toList ds gs before) (hL : laidMetH Tryd.prog Rows.gaugeListsRow.laid W) (_ : W.ShapedOpen Tryd.prog) :
    Calls Tryd.prog 5 args W fun e W' => ∃ v, e = .returned v ∧ Rows.gaugeListsSpec.post enc Tryd.prog Tryd.f5 false true false false W args v W' := by
  have hW' := hW
  obtain ⟨p, q, hA0, hV, rfl, hfz, hnd⟩ := hW
  have hA : DataW.TrodAll enc Tryd.prog W 0 (fun _ => true) true Tryd.f5.params.toList args.toList ds p := hA0
  rw [Tryd.params5] at hA hval
  obtain ⟨v0, vs0, d0, ds0, p0, q0, hargs, rfl, rfl, h0, r0⟩ := trodAll_cons hA
  obtain ⟨rfl, rfl, rfl⟩ := trodAll_nil r0
  obtain rfl : args = #[v0] := by cases args; simp_all
  obtain ⟨rfl, rfl⟩ := trodVars_none hV
  have h0k := h0
  obtain ⟨A, n, c, l, rfl, hcap, hR, hwf⟩ := open_floats (hval 0 55 v0 rfl rfl) h0
  clear hA0
  simp only [List.append_nil] at hW'
  have hlt : ∀ x ∈ p0, x.block < W.heap.size := fun x hx => hW'.lt x hx
  refine (law_lists A n c l W hR hcap hwf (lib_in hL)).mono fun e W' ⟨he, hb⟩ => ?_
  subst he
  exact ⟨_, rfl, post_of_below (pa := p0) (pv := []) hW' (fun _ _ _ => trodAll_cons_mk (shut_bool Tryd.underlying4 _) trodAll_mk0)
    (fun sp hsp => by
      have := trodAll_cons_mk (WideElems.Trod_stays (sp' := sp) laidOut (by kernel_rfl) (of_decide_eq_true (by kernel_rfl)) h0k (fun x hx => hb.same (hlt x hx)) (fun x hx => hsp x hx)) trodAll_mk0
      simp only [List.append_nil] at this
      exact this)
    (fun _ _ => rfl) (by simp)
    hb (ok_one (by kernel_rfl) rfl (okWide_bool_mk Tryd.underlying4 _))⟩

end Go.Proofs.YtgpkekdbohdbfaaDoor.p35b
