/- From what a row lists of the package-level variables ('laid') to what the walks ask; and the wrap that hands on both that and the world's shape. -/
import Derived.Test.YtbphcldoflekpaaGreatDoorErrs
import Derived.Test.YtbphcldoflekpaaGreatDoorRows
import Derived.ProofKit
import Derived.LaidMore
import Derived.Stop.LaidErr
import Derived.Lib.LaidTab
import Derived.HandedShaped
import Derived.Handed
import Derived.Test.YtbphcldoflekpaaGreatDoorLaw25a
import Derived.Test.YtbphcldoflekpaaGreatDoorCoAC
import Derived.Deep.Strs
import Derived.OpenShut
import Derived.Carry
namespace Go.Proofs.YtbphcldoflekpaaGreatDoor
set_option maxRecDepth 100000
open Go.RowKit Go.ChangeShapes Go.WideShapes Go.ChangeAt Go.Deep dA
section
variable {s : ChangeSpec} {again apart fresh handsOn : Bool} {P : Program} {W : World}
section
variable {H : Type} {enc : TypeId × Value → H}
theorem NK {a : Assume} {C : Checked} {os : Os} {f : FuncId} {fn : Func} {conds : List PathCond} {X : World → Array Value → Prop} (hX : ∀ (w w' : World) (args : Array Value), w.heap = w'.heap → X w args → X w' args) (own : ownKnob C.prog.godebug = none) (started : os.Started) (noInit : C.prog.inits.idxOf? f = none) (hfn : C.prog.funcs[f]? = some fn) (witness : ∃ (w : World) (tape : Tape) (i : Input), w.os = os ∧ (w.forCall tape i).Shaped C.prog ∧ i.vars = [] ∧ Input.okWide C.prog (w.forCall tape i) .any w.heap.size f i ∧
   ((s.pre enc C.prog fn conds apart (w.forCall tape i).memory i.args ∧ X (w.forCall tape i).memory i.args) ∧ sizedMet enc C.prog fn (OpenSpec.ofChange s) apart (w.forCall tape i).memory i.args) ∧ a.holds C.prog (lone (Frame.enter C.prog f i.args .normal) [] (w.forCall tape i))) (contract : ∀ (W : World) (base : Nat) (args : Array Value) (ds gs : List (DataW H)) (before : List MemPlace),
   (∀ (j : Nat) t v, fn.params[j]? = some t → args[j]? = some v → Value.okWide C.prog W .any base t v) →
   DataW.Whole enc C.prog fn.params.toList s.vars apart W args.toList ds gs before →
   (DataW.weightsEach C.prog (fn.params.toList ++ s.plain.varTypes C.prog) (ds ++ gs)).all (· ≤ reachBytes) = true → X W args → W.ShapedOpen C.prog →
   Calls C.prog f args W fun e W' => ∃ v, e = .returned v ∧ s.post enc C.prog fn apart fresh handsOn again W args v W') :
  ReturnsInHanded a C os f .any (fun w args => (s.pre enc C.prog fn conds apart w args ∧ X w args) ∧ sizedMet enc C.prog fn (OpenSpec.ofChange s) apart w args) (s.post enc C.prog fn apart fresh handsOn again) := by
 refine returnsInHanded_of_calls own started noInit witness ?_
 intro w tape i _ hsh _ hok hpre hholds
 obtain ⟨_, _, _, fn', hfn', _, _, _, _, hval⟩ := hok
 have e : fn' = fn := Option.some.inj (hfn'.symm.trans hfn)
 subst e
 obtain ⟨⟨⟨ds, gs, before, hw, hc⟩, hx⟩, hz⟩ := hpre
 have hw' := DataW.Whole.of_heap (w' := w.forCall tape i) (by rfl) hw
 refine (contract (w.forCall tape i) w.heap.size i.args ds gs before hval hw' (hz.weights hw) (hX _ _ _ (by rfl) hx) hsh).mono fun e W' ⟨v, he, hp⟩ => ?_
 subst he
 exact ChangeSpec.post_blind hp
theorem JX {f : Func} {W' : World} {args : Array Value} {v : Value} {ds gs : List (DataW H)} {before pa pv : List MemPlace} (hW : DataW.Whole enc P f.params.toList s.vars apart W args.toList ds gs before) (hres : ∀ (b : Nat) (sp : Nat → Bool) (hd : Bool), DataW.TrodAll enc P W' b sp hd f.resultTypes.toList (v.resultList f.resultTypes.size) (s.fn H (ds ++ gs)).results []) (hargs : ∀ sp : Nat → Bool, (∀ p ∈ before, sp p.block = true) → DataW.TrodAll enc P W' 0 sp true f.params.toList args.toList (s.fn H (ds ++ gs)).args pa) (hvars : ∀ sp : Nat → Bool, (∀ p ∈ before, sp p.block = true) → DataW.TrodVars enc P W' sp s.vars (s.fn H (ds ++ gs)).vars pv) (hps : before = pa ++ pv) (hb : Below W.heap.size W W') (hok : ∀ (j : Nat) (t : TypeId) (r : Value), f.resultTypes[j]? = some t → (v.resultList f.resultTypes.size)[j]? = some r → Value.okWide P W' .any 0 t r) :
  s.post enc P f apart fresh handsOn again W args v W' := by
 have hlt : ∀ p ∈ before, p.block < W.heap.size := fun p hp => hW.lt p hp
 have hold : ∀ p ∈ before, (fun b => decide (b < W.heap.size)) p.block = true := fun p hp => by simpa using hlt p hp
 refine ⟨ds, gs, before, [], pa, pv, hW, hres _ _ _, hargs _ hold, hvars _ hold, World.keptBut_mono (fun p hp => ⟨hp, ?_⟩) (hb.frame (· ∈ before)), fun _ => ?_⟩
 ·rw [hps, List.mem_append] at hp
  exact Or.inr hp
 ·obtain ⟨_, _, _, _, _, hz, hn⟩ := hW
  refine ⟨hok, _, _, ([] ++ pa) ++ pv, ⟨[] ++ pa, pv, trodAll_append (hargs _ (fun _ _ => rfl)) (hres _ _ _), hvars _ (fun _ _ => rfl), rfl, ?_, ?_⟩, ?_⟩
  ·intro b off hp
   have hin : MemPlace.cell b off ∈ before := by rw [hps]; simpa using hp
   rw [hb.frozen (hlt _ hin)]
   exact hz b off hin
  ·intro ha
   have := hn ha
   rw [hps] at this
   simpa using this
  ·intro p hp _
   rw [hps]
   simpa using hp
end
def WM (text : List UInt8) : DataW Unit := .iface "*errors.errorString" (.ptr (.agg [.lit (.string text)]))
theorem zU : ∀ (l : List (String × DataW Unit)) (ps : List MemPlace), DataW.LaidVars P W l ps →
  ∃ pl : List (List MemPlace), ps = pl.flatten ∧ pl.length = l.length ∧ ∀ (i : Nat) (n : String) (d : DataW Unit), l[i]? = some (n, d) →
   ∃ g t cs fuel p, P.globalNamed n = some g ∧ (P.globals[g]?).map (·.type) = some t ∧ W.var? P n = some cs ∧ DataW.trod (fun _ => ()) P W 0 (fun _ => true) false fuel t cs.toList = some (d, p) ∧
    pl[i]? = some (MemPlace.row ⟨g, 0, none⟩ cs.size ++ p)
 | [], ps, h => ⟨[], by simpa [DataW.LaidVars] using h, rfl, fun i n d hi => by simp at hi⟩
 | (n, d) :: r, ps, h => by
  obtain ⟨g, t, cs, fuel, p, q, h1, h2, h3, h4, h5, rfl⟩ := h
  obtain ⟨pl, e1, e2, e3⟩ := zU r q h5
  refine ⟨(MemPlace.row ⟨g, 0, none⟩ cs.size ++ p) :: pl, by rw [List.flatten_cons, ← e1], by simp [e2], fun i n' d' hi => ?_⟩
  cases i with
  | zero =>
   simp only [List.getElem?_cons_zero, Option.some.injEq, Prod.mk.injEq] at hi
   obtain ⟨rfl, rfl⟩ := hi
   exact ⟨g, t, cs, fuel, p, h1, h2, h3, h4, rfl⟩
  | succ i => exact e3 i n' d' (by simpa using hi)
theorem star : "*" ++ "errors.errorString" = "*errors.errorString" := by decide
theorem Cc (u : TypeId) (h : Tryz.prog.typeName? 3 u = some "*errors.errorString") : u = 286 :=
 typeName_ptr_named (nm := "errors.errorString") (by rw [star]; kernel_rfl) (by kernel_rfl) (by decide) u (by rw [star]; exact h)
theorem uz {α : Type} : ∀ (pl : List (List α)), pl.flatten.Nodup → ∀ (i j : Nat) (p q : List α) (x : α), i < j → pl[i]? = some p → pl[j]? = some q → x ∈ p → x ∈ q → False
 | [], _, i, j, p, q, x, _, h, _, _, _ => by simp at h
 | r :: pl, hn, i, j, p, q, x, hij, hi, hj, hp, hq => by
  rw [List.flatten_cons, List.nodup_append] at hn
  obtain ⟨j, rfl⟩ : ∃ j', j = j' + 1 := ⟨j - 1, by omega⟩
  rw [List.getElem?_cons_succ] at hj
  cases i with
  | zero =>
   simp only [List.getElem?_cons_zero, Option.some.injEq] at hi
   subst hi
   exact hn.2.2 x hp x (List.mem_flatten.2 ⟨q, List.mem_of_getElem? hj, hq⟩) rfl
  | succ i =>
   rw [List.getElem?_cons_succ] at hi
   exact uz pl hn.2.1 i j p q x (by omega) hi hj hp hq
theorem GD {l : List (String × DataW Unit)} (h : laidMet Tryz.prog l W) (p : Nat) (hpos : ∀ k, k < 16 → ∃ n text, l[p + k]? = some (n, WM text) ∧ Tryz.prog.globalNamed n = some (gE (k + 1)) ∧ (Tryz.prog.globals[gE (k + 1)]?).map (·.type) = some 31) : ∃ E, eZ E W := by
 obtain ⟨ps, hv, hnd, hrows⟩ := h
 obtain ⟨pl, e1, e2, e3⟩ := zU l ps hv
 have H : ∀ k, 1 ≤ k ∧ k ≤ 16 → ∃ (a : Addr), W.cell? ⟨gE k, 0, none⟩ = some (.iface 286 (.pointer (some a))) ∧ (∃ c t, W.heap[a.block]? = some (.cells c t (0, 0))) ∧ ∃ q, pl[p + (k - 1)]? = some q ∧ MemPlace.cell a.block a.off ∈ q := by
  rintro k ⟨hk1, hk2⟩
  obtain ⟨n, text, hl, hg, ht⟩ := hpos (k - 1) (by omega)
  rw [show k - 1 + 1 = k by omega] at hg ht
  obtain ⟨g, t, cs, fuel, p', h1, h2, h3, h4, h5⟩ := e3 _ _ _ hl
  obtain rfl := Option.some.inj (hg.symm.trans h1)
  obtain rfl := Option.some.inj (ht.symm.trans h2)
  have hmem : ∀ x ∈ MemPlace.row ⟨gE k, 0, none⟩ cs.size ++ p', x ∈ ps := by
   intro x hx
   rw [e1]
   exact List.mem_flatten.2 ⟨_, List.mem_of_getElem? h5, hx⟩
  obtain ⟨l0⟩ := cs
  have ok0 : ∀ u v, l0 = [.iface u v] → Value.okWide Tryz.prog W .any 0 u v := fun u v e => by
   subst e
   exact (hrows (gE k) 0 (hmem _ (by simp [MemPlace.row]))).2 u v (by simpa using World.var?_cell hg h3 0)
  obtain ⟨a0, s0, rfl, hc0, hs0, hz0, rfl⟩ := errorString_of_trod Tryz.underlying31 Cc Tryz.underlying286 Tryz.underlying326 rfl rfl Tryz.underlying9 (by kernel_rfl) (by kernel_rfl) h4 ok0
  refine ⟨a0, by simpa using World.var?_cell hg h3 0, (hrows a0.block a0.off (hmem _ (by simp [MemPlace.row]))).1, _, h5, ?_⟩
  simp [MemPlace.row]
 refine ⟨fun k => if h : 1 ≤ k ∧ k ≤ 16 then Classical.choose (H k h) else default, ⟨fun k h1 h2 => ?_, fun k h1 h2 => ?_, fun j k h1 h2 h3 h4 e => ?_⟩⟩
 ·have hk : 1 ≤ k ∧ k ≤ 16 := ⟨h1, h2⟩
  simp only [hk, and_self, dif_pos]
  exact (Classical.choose_spec (H k hk)).1
 ·have hk : 1 ≤ k ∧ k ≤ 16 := ⟨h1, h2⟩
  simp only [hk, and_self, dif_pos]
  exact (Classical.choose_spec (H k hk)).2.1
 ·have hj : 1 ≤ j ∧ j ≤ 16 := ⟨h1, h2⟩
  have hk : 1 ≤ k ∧ k ≤ 16 := ⟨h3, h4⟩
  simp only [hk, hj, and_self, dif_pos] at e
  obtain ⟨q1, hq1, hx1⟩ := (Classical.choose_spec (H j hj)).2.2
  obtain ⟨q2, hq2, hx2⟩ := (Classical.choose_spec (H k hk)).2.2
  rw [e] at hx1
  rw [e1] at hnd
  rcases Nat.lt_trichotomy (p + (j - 1)) (p + (k - 1)) with hlt | heq | hgt
  ·exact (uz pl hnd _ _ _ _ _ hlt hq1 hq2 hx1 hx2).elim
  ·omega
  ·exact (uz pl hnd _ _ _ _ _ hgt hq2 hq1 hx2 hx1).elim
end
theorem WO {l : List (String × DataW Unit)} {W : World} (h : laidMet Tryz.prog l W) (p : Nat) {n : String} {text : List UInt8} {g : Nat} (hl : l[p]? = some (n, WM text)) (hg : Tryz.prog.globalNamed n = some g) (ht : (Tryz.prog.globals[g]?).map (·.type) = some 31) :
  ∃ a, W.cell? ⟨g, 0, none⟩ = some (.iface 286 (.pointer (some a))) := by
 obtain ⟨ps, hv, hnd, hrows⟩ := h
 obtain ⟨pl, e1, e2, e3⟩ := zU l ps hv
 obtain ⟨g', t, cs, fuel, p', h1, h2, h3, h4, h5⟩ := e3 _ _ _ hl
 obtain rfl := Option.some.inj (hg.symm.trans h1)
 obtain rfl := Option.some.inj (ht.symm.trans h2)
 have hmem : ∀ x ∈ MemPlace.row ⟨g, 0, none⟩ cs.size ++ p', x ∈ ps := by
  intro x hx
  rw [e1]
  exact List.mem_flatten.2 ⟨_, List.mem_of_getElem? h5, hx⟩
 obtain ⟨l0⟩ := cs
 have ok0 : ∀ u v, l0 = [.iface u v] → Value.okWide Tryz.prog W .any 0 u v := fun u v e => by
  subst e
  exact (hrows g 0 (hmem _ (by simp [MemPlace.row]))).2 u v (by simpa using World.var?_cell hg h3 0)
 obtain ⟨a0, s0, rfl, hc0, hs0, hz0, rfl⟩ := errorString_of_trod Tryz.underlying31 Cc Tryz.underlying286 Tryz.underlying326 rfl rfl Tryz.underlying9 (by kernel_rfl) (by kernel_rfl) h4 ok0
 exact ⟨a0, by simpa using World.var?_cell hg h3 0⟩
def acL (W : World) (k : Nat) : Addr := match W.cell? ⟨gE k, 0, none⟩ with
 | some (.iface _ (.pointer (some a))) => a
 | _ => default
section
variable {cs : List Value} {v : Value} {p : List MemPlace}
section
variable {H : Type} {enc : TypeId × Value → H} {w : World} {base : Nat} {spare : Nat → Bool} {held : Bool} {fuel : Nat}
theorem WQ {x : DataW H × List MemPlace} (h : DataW.trod enc Tryz.prog w base spare held fuel 35 cs = some x) : ∃ a b c : Int, cs = [.int .i64 a, .int .i64 b, .int .i64 c] := by
 obtain ⟨xs, m, rfl, rfl, hl, hxs, hf⟩ := DataW.trod_struct Tryz.underlying35 h
 have hc1 : Tryz.prog.cellsOf 3 = 1 := by kernel_rfl
 have hc3 : Tryz.prog.cellsOf 35 = 3 := by kernel_rfl
 rw [hc3] at hl
 have hx3 : xs.length = 3 := hxs
 have f0 : DataW.trod enc Tryz.prog w base spare held m 3 ((cs.drop 0).take (Tryz.prog.cellsOf 3)) = xs[0]? := hf 0 _ rfl
 have f1 : DataW.trod enc Tryz.prog w base spare held m 3 ((cs.drop 1).take (Tryz.prog.cellsOf 3)) = xs[1]? := hf 1 _ rfl
 have f2 : DataW.trod enc Tryz.prog w base spare held m 3 ((cs.drop 2).take (Tryz.prog.cellsOf 3)) = xs[2]? := hf 2 _ rfl
 rw [hc1] at f0 f1 f2
 rw [List.getElem?_eq_getElem (by omega)] at f0 f1 f2
 obtain ⟨n0, q0, _, w0⟩ := DataW.trod_int Tryz.underlying3 f0
 obtain ⟨n1, q1, _, w1⟩ := DataW.trod_int Tryz.underlying3 f1
 obtain ⟨n2, q2, _, w2⟩ := DataW.trod_int Tryz.underlying3 f2
 refine ⟨n0, n1, n2, ?_⟩
 match cs, hl with
 | [a, b, c], _ =>
  simp at q0 q1 q2
  simp [q0, q1, q2]
theorem WR {x : DataW H × List MemPlace} (h : DataW.trod enc Tryz.prog w base spare held fuel 23 cs = some x) : ∃ a b c : Int, cs = [.int .i64 a, .int .i64 b, .int .i64 c] := by
 obtain ⟨xs, m, rfl, rfl, hl, hxs, hf⟩ := DataW.trod_struct Tryz.underlying23 h
 have hc1 : Tryz.prog.cellsOf 3 = 1 := by kernel_rfl
 have hc3 : Tryz.prog.cellsOf 23 = 3 := by kernel_rfl
 rw [hc3] at hl
 have hx3 : xs.length = 3 := hxs
 have f0 : DataW.trod enc Tryz.prog w base spare held m 3 ((cs.drop 0).take (Tryz.prog.cellsOf 3)) = xs[0]? := hf 0 _ rfl
 have f1 : DataW.trod enc Tryz.prog w base spare held m 3 ((cs.drop 1).take (Tryz.prog.cellsOf 3)) = xs[1]? := hf 1 _ rfl
 have f2 : DataW.trod enc Tryz.prog w base spare held m 3 ((cs.drop 2).take (Tryz.prog.cellsOf 3)) = xs[2]? := hf 2 _ rfl
 rw [hc1] at f0 f1 f2
 rw [List.getElem?_eq_getElem (by omega)] at f0 f1 f2
 obtain ⟨n0, q0, _, w0⟩ := DataW.trod_int Tryz.underlying3 f0
 obtain ⟨n1, q1, _, w1⟩ := DataW.trod_int Tryz.underlying3 f1
 obtain ⟨n2, q2, _, w2⟩ := DataW.trod_int Tryz.underlying3 f2
 refine ⟨n0, n1, n2, ?_⟩
 match cs, hl with
 | [a, b, c], _ =>
  simp at q0 q1 q2
  simp [q0, q1, q2]
theorem WS {r : Reach} {b0 : Nat} {d : DataW H} (hv : Value.okWide Tryz.prog w r b0 23 v) (h : DataW.Trod enc Tryz.prog w base spare held 23 v d p) : ∃ k m i : Int, v = .agg #[.int .i64 k, .int .i64 m, .int .i64 i] := by
 obtain ⟨cs, rfl, hsz⟩ := okWide_struct Tryz.underlying23 hv
 obtain ⟨fuel, hf⟩ := h
 obtain ⟨a, b, c, hc⟩ := WR (cs := cs.toList) hf
 refine ⟨a, b, c, ?_⟩
 congr 1
 apply Array.toList_inj.1
 rw [hc]
theorem Ub {d : DataW H} (ho : Value.okWide Tryz.prog w .any base 24 v) (h : DataW.Trod enc Tryz.prog w 0 (fun _ => true) true 24 v d p) :
  ∃ (A : Option Addr) (n c : Nat) (l : List Nat), v = .slice A n c ∧ l.length = n ∧ Reads w w.heap.size 1 A n (sw l) ∧ ∀ x ∈ l, x < 18446744073709551616 := by
 obtain ⟨a0, wJ, cap0, rfl⟩ := okWide_slice Tryz.underlying24 ho
 obtain ⟨fuel, hf⟩ := h
 have hc1 : Tryz.prog.cellsOf 36 = 1 := by kernel_rfl
 rcases open_slice Tryz.underlying24 hf with ⟨hcs, _⟩ | ⟨a, len, cap, m, kx, D, Pl, hcs, _, hl, _, hm, _, hx⟩
 ·simp [Value.cells] at hcs
  obtain ⟨rfl, rfl, rfl⟩ := hcs
  exact ⟨none, 0, 0, [], rfl, rfl, Reads.none_, fun _ h => absurd h List.not_mem_nil⟩
 ·simp [Value.cells] at hcs
  obtain ⟨rfl, rfl, rfl⟩ := hcs
  simp only [if_true] at hm
  rw [hc1] at hx
  obtain ⟨O, hO⟩ := choose_lt (α := Nat) (n := wJ) (p := fun i b => b < 18446744073709551616 ∧ w.cell? (a.add i) = some (.int .u64 (b : Int))) (fun i hi => by
   obtain ⟨cs', h1, h2⟩ := hx i (by omega)
   obtain ⟨_, _, hcell⟩ := World.cells?_some h1
   obtain ⟨b, rfl, _, hw⟩ := DataW.trod_int Tryz.underlying36 h2
   have hb := Go.bounds_u64 hw
   have := hcell 0 (by omega)
   rw [Nat.mul_one] at this
   refine ⟨b.toNat, by omega, ?_⟩
   rw [show ((b.toNat : Nat) : Int) = b by omega]
   obtain ⟨ab, ao, asp⟩ := a
   have e : ((⟨ab, ao, asp⟩ : Addr).add i).add 0 = (⟨ab, ao, asp⟩ : Addr).add i := by
    unfold Addr.add
    split <;> simp_all
   rw [e] at this
   simpa using this)
  refine ⟨some a, wJ, cap0, (List.range wJ).map O, rfl, by simp, ⟨by simp [sw], fun hn => ?_⟩, fun x hx => ?_⟩
  ·obtain ⟨b, off, spot⟩ := a
   have h00 := (hO 0 (by omega)).2
   have hspot : spot = none := by simpa [Addr.add] using World.cell?_spot h00
   subst hspot
   refine ⟨b, off, rfl, by simpa [Addr.add] using World.block_lt_of_cell? w _ h00, fun j u hu => ?_⟩
   have hj : j < wJ := by have := (List.getElem?_eq_some_iff.1 hu).1; simpa [sw] using this
   have h1 := (hO j (by omega)).2
   rw [add_plain] at h1
   rw [h1, ← hu]
   simp [sw, hj]
  ·obtain ⟨i, hi, rfl⟩ := List.mem_map.1 hx
   exact (hO i (by simpa using hi)).1
instance : Inhabited dV := ⟨⟨0, 0, 0⟩⟩
theorem wK (l : List dV) : (l.flatMap dV.cells).length = l.length * 3 := by
 induction l with
 | nil => rfl
 | cons x l ih => simp only [List.flatMap_cons, List.length_append, List.length_cons, ih]; simp [dV.cells]; omega
theorem M5 (l : List dV) : ∀ (i : Nat) (a : dV), l[i]? = some a → ∀ j, j < 3 → (l.flatMap dV.cells)[i * 3 + j]? = a.cells[j]? := by
 induction l with
 | nil => intro i a h; simp at h
 | cons x l ih =>
  intro i a h j hj
  rw [List.flatMap_cons]
  cases i with
  | zero =>
   simp at h; subst h
   rw [List.getElem?_append_left (by simp [dV.cells]; omega), Nat.zero_mul, Nat.zero_add]
  | succ i =>
   rw [List.getElem?_append_right (by simp [dV.cells]; omega), show (i + 1) * 3 + j - x.cells.length = i * 3 + j by simp [dV.cells]; omega]
   exact ih i a (by simpa using h) j hj
theorem Uc {d : DataW H} (ho : Value.okWide Tryz.prog w .any base 25 v) (h : DataW.Trod enc Tryz.prog w 0 (fun _ => true) true 25 v d p) :
  ∃ (A : Option Addr) (n c : Nat) (l : List dV), v = .slice A n c ∧ l.length = n ∧ Reads w w.heap.size 3 A n (l.flatMap dV.cells) := by
 obtain ⟨a0, wJ, cap0, rfl⟩ := okWide_slice Tryz.underlying25 ho
 obtain ⟨fuel, hf⟩ := h
 have hc3 : Tryz.prog.cellsOf 35 = 3 := by kernel_rfl
 rcases open_slice Tryz.underlying25 hf with ⟨hcs, _⟩ | ⟨a, len, cap, m, k, D, Pl, hcs, _, hl, _, hm, _, hx⟩
 ·simp [Value.cells] at hcs
  obtain ⟨rfl, rfl, rfl⟩ := hcs
  exact ⟨none, 0, 0, [], rfl, rfl, Reads.none_⟩
 ·simp [Value.cells] at hcs
  obtain ⟨rfl, rfl, rfl⟩ := hcs
  simp only [if_true] at hm
  rw [hc3] at hx
  obtain ⟨O, hO⟩ := choose_lt (α := dV) (n := wJ) (p := fun i o => ∀ j, j < 3 → w.cell? ((a.add (i * 3)).add j) = (dV.cells o)[j]?) (fun i hi => by
   obtain ⟨cs', h1, h2⟩ := hx i (by omega)
   obtain ⟨_, _, hcell⟩ := World.cells?_some h1
   obtain ⟨x, y, z, rfl⟩ := WQ h2
   exact ⟨⟨x, y, z⟩, hcell⟩)
  refine ⟨some a, wJ, cap0, (List.range wJ).map O, rfl, by simp, ⟨by rw [wK]; simp, fun hn => ?_⟩⟩
  obtain ⟨b, off, spot⟩ := a
  have h00 := hO 0 (by omega) 0 (by omega)
  have hspot : spot = none := by simpa [Addr.add] using World.cell?_spot (h00.trans rfl)
  subst hspot
  refine ⟨b, off, rfl, by simpa [Addr.add] using World.block_lt_of_cell? w _ (h00.trans rfl), fun j u hu => ?_⟩
  have hj : j < wJ * 3 := by have := (List.getElem?_eq_some_iff.1 hu).1; rw [wK] at this; simpa using this
  have h1 := hO (j / 3) (by omega) (j % 3) (by omega)
  rw [← M5 ((List.range wJ).map O) (j / 3) (O (j / 3)) (by rw [List.getElem?_map, List.getElem?_range (by omega)]; rfl) _ (by omega), show j / 3 * 3 + j % 3 = j by omega, hu] at h1
  rw [add_plain, add_plain, show off + j / 3 * 3 + j % 3 = off + j by omega] at h1
  exact h1
end
def ab2 : List Int := [0, 1, 56, 2, 57, 49, 28, 3, 61, 58, 42, 50, 38, 29, 17, 4, 62, 47, 59, 36, 45, 43, 51, 22, 53, 39, 33, 30, 24, 18, 12, 5, 63, 55, 48, 27, 60, 41, 37, 16, 46, 35, 44, 21, 52, 32, 23, 11, 54, 26, 40, 15, 34, 20, 31, 10, 25, 14, 19, 9, 13, 8, 7, 6]
end
section
section
variable {H : Type} {enc : TypeId × Value → H} {w : World} {base : Nat}
theorem QW {v : Value} {d : DataW H} {p : List MemPlace} (hv : Value.okWide Tryz.prog w .any base 26 v) (h : DataW.Trod enc Tryz.prog w 0 (fun _ => true) true 26 v d p) :
  ∃ (A : Option Addr) (n c : Nat) (l : List dV) (A2 : Option Addr) (n2 c2 : Nat) (l2 : List dV), v = .agg #[.slice A n c, .slice A2 n2 c2] ∧ l.length = n ∧ Reads w w.heap.size 3 A n (l.flatMap dV.cells) ∧ l2.length = n2 ∧ Reads w w.heap.size 3 A2 n2 (l2.flatMap dV.cells) := by
 simp only [Value.okWide, Tryz.underlying26] at hv
 obtain ⟨cs, rfl, hsz, hel⟩ := hv
 obtain ⟨fuel, hf⟩ := h
 have hc1 : Tryz.prog.cellsOf 25 = 1 := by kernel_rfl
 have hc2 : Tryz.prog.cellsOf 26 = 2 := by kernel_rfl
 rw [hc2] at hsz
 obtain ⟨xs, m, rfl, _, hl, hxs, hg⟩ := DataW.trod_array (cs := cs.toList) Tryz.underlying26 hf
 have f0 := hg 0 (by omega)
 have f1 := hg 1 (by omega)
 rw [hc1] at f0 f1
 rw [List.getElem?_eq_getElem (by omega)] at f0 f1
 obtain ⟨ts, e1, _, e3⟩ := hel
 have e2 : Tryz.prog.cellTypes Tryz.prog.depth 26 = some [25, 25] := by kernel_rfl
 obtain rfl := Option.some.inj (e1.symm.trans e2)
 have hone : ∀ (i : Nat) (v : Value) (x : DataW H × List MemPlace), i < 2 → cs[i]? = some v → DataW.trod enc Tryz.prog w 0 (fun _ => true) true m 25 [v] = some x → ∃ (A : Option Addr) (n c : Nat) (l : List dV), v = .slice A n c ∧ l.length = n ∧ Reads w w.heap.size 3 A n (l.flatMap dV.cells) := by
  intro i v x hi hv hx
  obtain ⟨u, hu, k⟩ := e3 i v hv
  have hu2 : u = 25 := by
   have : i = 0 ∨ i = 1 := by omega
   rcases this with rfl | rfl <;> simpa using hu.symm
  subst hu2
  have o0 : Value.okWide Tryz.prog w .any base 25 v := by simp only [Value.okWide, Tryz.underlying25]; exact k
  obtain ⟨a0, wJ, cap0, rfl⟩ := okWide_slice Tryz.underlying25 o0
  exact Uc o0 ⟨m, by simpa [Value.cells] using hx⟩
 obtain ⟨l⟩ := cs
 match l, hsz with
 | [c0, c1], _ =>
  obtain ⟨A, n, c, l, rfl, h1, h2⟩ := hone 0 c0 _ (by omega) rfl f0
  obtain ⟨A2, n2, c2, l2, rfl, h3, h4⟩ := hone 1 c1 _ (by omega) rfl f1
  exact ⟨A, n, c, l, A2, n2, c2, l2, rfl, h1, h2, h3, h4⟩
end
end
end Go.Proofs.YtbphcldoflekpaaGreatDoor
