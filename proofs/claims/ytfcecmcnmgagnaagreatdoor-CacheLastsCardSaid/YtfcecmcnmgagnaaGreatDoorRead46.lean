/- From what a row lists of the package-level variables ('laid') to what the walks ask; and the wrap that hands on both that and the world's shape. -/
import Derived.Test.YtfcecmcnmgagnaaGreatDoorCoI
import Derived.Test.YtfcecmcnmgagnaaGreatDoorRows
import Derived.ProofKit
import Derived.LaidMore
import Derived.Stop.LaidErr
import Derived.Lib.LaidTab
import Derived.HandedShaped
import Derived.Handed
import Derived.Test.YtfcecmcnmgagnaaGreatDoorLaw46
import Derived.Test.YtfcecmcnmgagnaaGreatDoorLaw21a
import Derived.Test.YtfcecmcnmgagnaaGreatDoorCoEnv
import Derived.Deep.Strs
import Derived.OpenShut
import Derived.Carry
namespace Go.Proofs.YtfcecmcnmgagnaaGreatDoor
set_option maxRecDepth 100000
open Go.RowKit Go.ChangeShapes Go.WideShapes Go.ChangeAt Go.Deep AmC
section
variable {s : ChangeSpec} {again apart fresh handsOn : Bool} {P : Program} {W : World}
section
variable {H : Type} {enc : TypeId × Value → H}
theorem returnsLaid {a : Assume} {C : Checked} {os : Os} {f : FuncId} {fn : Func} {conds : List PathCond} {X : World → Array Value → Prop} (hX : ∀ (w w' : World) (args : Array Value), w.heap = w'.heap → X w args → X w' args) (own : ownKnob C.prog.godebug = none) (started : os.Started) (noInit : C.prog.inits.idxOf? f = none) (hfn : C.prog.funcs[f]? = some fn) (witness : ∃ (w : World) (tape : Tape) (i : Input), w.os = os ∧ (w.forCall tape i).Shaped C.prog ∧ i.vars = [] ∧ Input.okWide C.prog (w.forCall tape i) .any w.heap.size f i ∧
   ((s.pre enc C.prog fn conds apart (w.forCall tape i).memory i.args ∧ X (w.forCall tape i).memory i.args) ∧ sizedMet enc C.prog fn (OpenSpec.ofChange s) apart (w.forCall tape i).memory i.args) ∧ a.holds C.prog (lone (Frame.enter C.prog f i.args .normal) [] (w.forCall tape i))) (contract : ∀ (W : World) (base : Nat) (args : Array Value) (ds gs : List (DataW H)) (before : List MemPlace),
   (∀ (j : Nat) t v, fn.params[j]? = some t → args[j]? = some v → Value.okWide C.prog W .any base t v) →
   DataW.Whole enc C.prog fn.params.toList s.vars apart W args.toList ds gs before →
   (DataW.weightsEach C.prog (fn.params.toList ++ s.plain.varTypes C.prog) (ds ++ gs)).all (· ≤ reachBytes) = true → X W args → W.ShapedOpen C.prog →
   Calls C.prog f args W fun e W' => ∃ v, e = .returned v ∧ s.post enc C.prog fn apart fresh handsOn again W args v W') :
  ReturnsInHanded a C os f .any (fun w args => (s.pre enc C.prog fn conds apart w args ∧ X w args) ∧ sizedMet enc C.prog fn (OpenSpec.ofChange s) apart w args) (s.post enc C.prog fn apart fresh handsOn again) := by
 refine returnsInHanded_of_calls own started noInit witness ?_
 intro w tape i _ hsh _ hok hpre hholds
 obtain ⟨_, _, _, fn', hfn', _, _, _, _, hval⟩ := hok
 have e : fn' = fn := Option.some.inj (hfn'.symm.trans hfn)
 subst e
 obtain ⟨⟨⟨ds, gs, before, hw, hc⟩, hx⟩, hz⟩ := hpre
 have hw' := DataW.Whole.of_heap (w' := w.forCall tape i) (by rfl) hw
 refine (contract (w.forCall tape i) w.heap.size i.args ds gs before hval hw' (hz.weights hw) (hX _ _ _ (by rfl) hx) hsh).mono fun e W' ⟨v, he, hp⟩ => ?_
 subst he
 exact ChangeSpec.post_blind hp
theorem post_of_below {f : Func} {W' : World} {args : Array Value} {v : Value} {ds gs : List (DataW H)} {before pa pv : List MemPlace} (hW : DataW.Whole enc P f.params.toList s.vars apart W args.toList ds gs before) (hres : ∀ (b : Nat) (sp : Nat → Bool) (hd : Bool), DataW.TrodAll enc P W' b sp hd f.resultTypes.toList (v.resultList f.resultTypes.size) (s.fn H (ds ++ gs)).results []) (hargs : ∀ sp : Nat → Bool, (∀ p ∈ before, sp p.block = true) → DataW.TrodAll enc P W' 0 sp true f.params.toList args.toList (s.fn H (ds ++ gs)).args pa) (hvars : ∀ sp : Nat → Bool, (∀ p ∈ before, sp p.block = true) → DataW.TrodVars enc P W' sp s.vars (s.fn H (ds ++ gs)).vars pv) (hps : before = pa ++ pv) (hb : Below W.heap.size W W') (hok : ∀ (j : Nat) (t : TypeId) (r : Value), f.resultTypes[j]? = some t → (v.resultList f.resultTypes.size)[j]? = some r → Value.okWide P W' .any 0 t r) :
  s.post enc P f apart fresh handsOn again W args v W' := by
 have hlt : ∀ p ∈ before, p.block < W.heap.size := fun p hp => hW.lt p hp
 have hold : ∀ p ∈ before, (fun b => decide (b < W.heap.size)) p.block = true := fun p hp => by simpa using hlt p hp
 refine ⟨ds, gs, before, [], pa, pv, hW, hres _ _ _, hargs _ hold, hvars _ hold, World.keptBut_mono (fun p hp => ⟨hp, ?_⟩) (hb.frame (· ∈ before)), fun _ => ?_⟩
 ·rw [hps, List.mem_append] at hp
  exact Or.inr hp
 ·obtain ⟨_, _, _, _, _, hz, hn⟩ := hW
  refine ⟨hok, _, _, ([] ++ pa) ++ pv, ⟨[] ++ pa, pv, trodAll_append (hargs _ (fun _ _ => rfl)) (hres _ _ _), hvars _ (fun _ _ => rfl), rfl, ?_, ?_⟩, ?_⟩
  ·intro b off hp
   have hin : MemPlace.cell b off ∈ before := by rw [hps]; simpa using hp
   rw [hb.frozen (hlt _ hin)]
   exact hz b off hin
  ·intro ha
   have := hn ha
   rw [hps] at this
   simpa using this
  ·intro p hp _
   rw [hps]
   simpa using hp
end
def errD (text : List UInt8) : DataW Unit := .iface "*errors.errorString" (.ptr (.agg [.lit (.string text)]))
theorem laid_parts : ∀ (l : List (String × DataW Unit)) (ps : List MemPlace), DataW.LaidVars P W l ps →
  ∃ pl : List (List MemPlace), ps = pl.flatten ∧ pl.length = l.length ∧ ∀ (i : Nat) (n : String) (d : DataW Unit), l[i]? = some (n, d) →
   ∃ g t cs fuel p, P.globalNamed n = some g ∧ (P.globals[g]?).map (·.type) = some t ∧ W.var? P n = some cs ∧ DataW.trod (fun _ => ()) P W 0 (fun _ => true) false fuel t cs.toList = some (d, p) ∧
    pl[i]? = some (MemPlace.row ⟨g, 0, none⟩ cs.size ++ p)
 | [], ps, h => ⟨[], by simpa [DataW.LaidVars] using h, rfl, fun i n d hi => by simp at hi⟩
 | (n, d) :: r, ps, h => by
  obtain ⟨g, t, cs, fuel, p, q, h1, h2, h3, h4, h5, rfl⟩ := h
  obtain ⟨pl, e1, e2, e3⟩ := laid_parts r q h5
  refine ⟨(MemPlace.row ⟨g, 0, none⟩ cs.size ++ p) :: pl, by rw [List.flatten_cons, ← e1], by simp [e2], fun i n' d' hi => ?_⟩
  cases i with
  | zero =>
   simp only [List.getElem?_cons_zero, Option.some.injEq, Prod.mk.injEq] at hi
   obtain ⟨rfl, rfl⟩ := hi
   exact ⟨g, t, cs, fuel, p, h1, h2, h3, h4, rfl⟩
  | succ i => exact e3 i n' d' (by simpa using hi)
theorem star : "*" ++ "errors.errorString" = "*errors.errorString" := by decide
theorem typeName_err (u : TypeId) (h : Tryz.prog.typeName? 3 u = some "*errors.errorString") : u = 262 :=
 typeName_ptr_named (nm := "errors.errorString") (by rw [star]; kernel_rfl) (by kernel_rfl) (by decide) u (by rw [star]; exact h)
end
theorem err_cell {l : List (String × DataW Unit)} {W : World} (h : laidMet Tryz.prog l W) (p : Nat) {n : String} {text : List UInt8} {g : Nat} (hl : l[p]? = some (n, errD text)) (hg : Tryz.prog.globalNamed n = some g) (ht : (Tryz.prog.globals[g]?).map (·.type) = some 28) :
  ∃ a, W.cell? ⟨g, 0, none⟩ = some (.iface 262 (.pointer (some a))) := by
 obtain ⟨ps, hv, hnd, hrows⟩ := h
 obtain ⟨pl, e1, e2, e3⟩ := laid_parts l ps hv
 obtain ⟨g', t, cs, fuel, p', h1, h2, h3, h4, h5⟩ := e3 _ _ _ hl
 obtain rfl := Option.some.inj (hg.symm.trans h1)
 obtain rfl := Option.some.inj (ht.symm.trans h2)
 have hmem : ∀ x ∈ MemPlace.row ⟨g, 0, none⟩ cs.size ++ p', x ∈ ps := by
  intro x hx
  rw [e1]
  exact List.mem_flatten.2 ⟨_, List.mem_of_getElem? h5, hx⟩
 obtain ⟨l0⟩ := cs
 have ok0 : ∀ u v, l0 = [.iface u v] → Value.okWide Tryz.prog W .any 0 u v := fun u v e => by
  subst e
  exact (hrows g 0 (hmem _ (by simp [MemPlace.row]))).2 u v (by simpa using World.var?_cell hg h3 0)
 obtain ⟨a0, s0, rfl, hc0, hs0, hz0, rfl⟩ := errorString_of_trod Tryz.underlying28 typeName_err Tryz.underlying262 Tryz.underlying305 rfl rfl Tryz.underlying9 (by kernel_rfl) (by kernel_rfl) h4 ok0
 exact ⟨a0, by simpa using World.var?_cell hg h3 0⟩
def pickE (W : World) (k : Nat) : Addr := match W.cell? ⟨gE k, 0, none⟩ with
 | some (.iface _ (.pointer (some a))) => a
 | _ => default
section
variable {cs : List Value} {v : Value} {p : List MemPlace}
section
variable {H : Type} {enc : TypeId × Value → H} {w : World} {base : Nat} {spare : Nat → Bool} {held : Bool} {fuel : Nat}
theorem cfg_trod {x : DataW H × List MemPlace} (h : DataW.trod enc Tryz.prog w base spare held fuel 23 cs = some x) : ∃ a b c : Int, cs = [.int .i64 a, .int .i64 b, .int .i64 c] := by
 obtain ⟨xs, m, rfl, rfl, hl, hxs, hf⟩ := DataW.trod_struct Tryz.underlying23 h
 have hc1 : Tryz.prog.cellsOf 3 = 1 := by kernel_rfl
 have hc3 : Tryz.prog.cellsOf 23 = 3 := by kernel_rfl
 rw [hc3] at hl
 have hx3 : xs.length = 3 := hxs
 have f0 : DataW.trod enc Tryz.prog w base spare held m 3 ((cs.drop 0).take (Tryz.prog.cellsOf 3)) = xs[0]? := hf 0 _ rfl
 have f1 : DataW.trod enc Tryz.prog w base spare held m 3 ((cs.drop 1).take (Tryz.prog.cellsOf 3)) = xs[1]? := hf 1 _ rfl
 have f2 : DataW.trod enc Tryz.prog w base spare held m 3 ((cs.drop 2).take (Tryz.prog.cellsOf 3)) = xs[2]? := hf 2 _ rfl
 rw [hc1] at f0 f1 f2
 rw [List.getElem?_eq_getElem (by omega)] at f0 f1 f2
 obtain ⟨n0, q0, _, w0⟩ := DataW.trod_int Tryz.underlying3 f0
 obtain ⟨n1, q1, _, w1⟩ := DataW.trod_int Tryz.underlying3 f1
 obtain ⟨n2, q2, _, w2⟩ := DataW.trod_int Tryz.underlying3 f2
 refine ⟨n0, n1, n2, ?_⟩
 match cs, hl with
 | [a, b, c], _ =>
  simp at q0 q1 q2
  simp [q0, q1, q2]
theorem open_cfg {r : Reach} {b0 : Nat} {d : DataW H} (hv : Value.okWide Tryz.prog w r b0 23 v) (h : DataW.Trod enc Tryz.prog w base spare held 23 v d p) : ∃ k m i : Int, v = .agg #[.int .i64 k, .int .i64 m, .int .i64 i] := by
 obtain ⟨cs, rfl, hsz⟩ := okWide_struct Tryz.underlying23 hv
 obtain ⟨fuel, hf⟩ := h
 obtain ⟨a, b, c, hc⟩ := cfg_trod (cs := cs.toList) hf
 refine ⟨a, b, c, ?_⟩
 congr 1
 apply Array.toList_inj.1
 rw [hc]
theorem open_hash {d : DataW H} (ho : Value.okWide Tryz.prog w .any base 24 v) (h : DataW.Trod enc Tryz.prog w 0 (fun _ => true) true 24 v d p) :
  ∃ (A : Option Addr) (n c : Nat) (l : List Nat), v = .slice A n c ∧ l.length = n ∧ Reads w w.heap.size 1 A n (numsV l) ∧ ∀ x ∈ l, x < 18446744073709551616 := by
 obtain ⟨a0, len0, cap0, rfl⟩ := okWide_slice Tryz.underlying24 ho
 obtain ⟨fuel, hf⟩ := h
 have hc1 : Tryz.prog.cellsOf 33 = 1 := by kernel_rfl
 rcases open_slice Tryz.underlying24 hf with ⟨hcs, _⟩ | ⟨a, len, cap, m, kx, D, Pl, hcs, _, hl, _, hm, _, hx⟩
 ·simp [Value.cells] at hcs
  obtain ⟨rfl, rfl, rfl⟩ := hcs
  exact ⟨none, 0, 0, [], rfl, rfl, Reads.none_, fun _ h => absurd h List.not_mem_nil⟩
 ·simp [Value.cells] at hcs
  obtain ⟨rfl, rfl, rfl⟩ := hcs
  simp only [if_true] at hm
  rw [hc1] at hx
  obtain ⟨O, hO⟩ := choose_lt (α := Nat) (n := len0) (p := fun i b => b < 18446744073709551616 ∧ w.cell? (a.add i) = some (.int .u64 (b : Int))) (fun i hi => by
   obtain ⟨cs', h1, h2⟩ := hx i (by omega)
   obtain ⟨_, _, hcell⟩ := World.cells?_some h1
   obtain ⟨b, rfl, _, hw⟩ := DataW.trod_int Tryz.underlying33 h2
   have hb := Go.bounds_u64 hw
   have := hcell 0 (by omega)
   rw [Nat.mul_one] at this
   refine ⟨b.toNat, by omega, ?_⟩
   rw [show ((b.toNat : Nat) : Int) = b by omega]
   obtain ⟨ab, ao, asp⟩ := a
   have e : ((⟨ab, ao, asp⟩ : Addr).add i).add 0 = (⟨ab, ao, asp⟩ : Addr).add i := by
    unfold Addr.add
    split <;> simp_all
   rw [e] at this
   simpa using this)
  refine ⟨some a, len0, cap0, (List.range len0).map O, rfl, by simp, ⟨by simp [numsV], fun hn => ?_⟩, fun x hx => ?_⟩
  ·obtain ⟨b, off, spot⟩ := a
   have h00 := (hO 0 (by omega)).2
   have hspot : spot = none := by simpa [Addr.add] using World.cell?_spot h00
   subst hspot
   refine ⟨b, off, rfl, by simpa [Addr.add] using World.block_lt_of_cell? w _ h00, fun j u hu => ?_⟩
   have hj : j < len0 := by have := (List.getElem?_eq_some_iff.1 hu).1; simpa [numsV] using this
   have h1 := (hO j (by omega)).2
   rw [add_plain] at h1
   rw [h1, ← hu]
   simp [numsV, hj]
  ·obtain ⟨i, hi, rfl⟩ := List.mem_map.1 hx
   exact (hO i (by simpa using hi)).1
instance : Inhabited LAct := ⟨⟨0, 0, 0⟩⟩
theorem open_keys {d : DataW H} (ho : Value.okWide Tryz.prog w .any base 25 v) (h : DataW.Trod enc Tryz.prog w 0 (fun _ => true) true 25 v d p) :
  ∃ (A : Option Addr) (n c : Nat) (l : List Int), v = .slice A n c ∧ l.length = n ∧ Reads w w.heap.size 1 A n (intsV l) := by
 obtain ⟨a0, len0, cap0, rfl⟩ := okWide_slice Tryz.underlying25 ho
 obtain ⟨fuel, hf⟩ := h
 have hc1 : Tryz.prog.cellsOf 3 = 1 := by kernel_rfl
 rcases open_slice Tryz.underlying25 hf with ⟨hcs, _⟩ | ⟨a, len, cap, m, kx, D, Pl, hcs, _, hl, _, hm, _, hx⟩
 ·simp [Value.cells] at hcs
  obtain ⟨rfl, rfl, rfl⟩ := hcs
  exact ⟨none, 0, 0, [], rfl, rfl, Reads.none_⟩
 ·simp [Value.cells] at hcs
  obtain ⟨rfl, rfl, rfl⟩ := hcs
  simp only [if_true] at hm
  rw [hc1] at hx
  obtain ⟨O, hO⟩ := choose_lt (α := Int) (n := len0) (p := fun i b => b = b ∧ w.cell? (a.add i) = some (.int .i64 b)) (fun i hi => by
   obtain ⟨cs', h1, h2⟩ := hx i (by omega)
   obtain ⟨_, _, hcell⟩ := World.cells?_some h1
   obtain ⟨b, rfl, _, hw⟩ := DataW.trod_int Tryz.underlying3 h2
   have := hcell 0 (by omega)
   rw [Nat.mul_one] at this
   refine ⟨b, rfl, ?_⟩
   obtain ⟨ab, ao, asp⟩ := a
   have e : ((⟨ab, ao, asp⟩ : Addr).add i).add 0 = (⟨ab, ao, asp⟩ : Addr).add i := by
    unfold Addr.add
    split <;> simp_all
   rw [e] at this
   simpa using this)
  refine ⟨some a, len0, cap0, (List.range len0).map O, rfl, by simp, ⟨by simp [intsV], fun hn => ?_⟩⟩
  ·obtain ⟨b, off, spot⟩ := a
   have h00 := (hO 0 (by omega)).2
   have hspot : spot = none := by simpa [Addr.add] using World.cell?_spot h00
   subst hspot
   refine ⟨b, off, rfl, by simpa [Addr.add] using World.block_lt_of_cell? w _ h00, fun j u hu => ?_⟩
   have hj : j < len0 := by have := (List.getElem?_eq_some_iff.1 hu).1; simpa [intsV] using this
   have h1 := (hO j (by omega)).2
   rw [add_plain] at h1
   rw [h1, ← hu]
   simp [intsV, hj]
end
end
end Go.Proofs.YtfcecmcnmgagnaaGreatDoor
