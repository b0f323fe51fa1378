/- The plain law of a text's operations; and of a text behind another one. No program in sight. -/
import Derived.Test.YtoohcnjilmcimaaScriptP
import Derived.Test.YtoohcnjilmcimaaBackP
namespace Go.Proofs.Ytoohcnjilmcimaa.AmS
open Go AmD AmW

/-- a place and an error's number, or the operations -/
def ofGo (acc : List SOp) : List (Nat × List Bytes) → Except (Nat × Nat) (List SOp)
  | [] => .ok acc
  | p :: r => if 2000 ≤ acc.length then .error (p.1, 9) else match one p.2 with
    | .error e => .error (p.1, e)
    | .ok o => ofGo (acc ++ [o]) r
def ofLines (L : List (Nat × List Bytes)) : Except (Nat × Nat) (List SOp) :=
  match ofGo [] L with
  | .error e => .error e
  | .ok ops => match other ops with
    | some i => .error ((L.getD i (0, [])).1, 8)
    | none => .ok ops
def ofText (s : Bytes) : Except (Nat × Nat) (List SOp) :=
  if 60000 < s.length then .error (0, 9) else
  match goSplit [] 1 (lines s) with
  | .bad n => .error (n, 3)
  | .ok L => ofLines L

theorem ofGo_ok : ∀ (L : List (Nat × List Bytes)) (acc ops : List SOp), ofGo acc L = .ok ops → ops.length = acc.length + L.length ∧ (∀ o ∈ ops, o ∈ acc ∨ ∃ p ∈ L, one p.2 = .ok o) ∧ (acc.length ≤ 2000 → ops.length ≤ 2000)
  | [], acc, ops, h => by
    injection h with h
    subst h
    exact ⟨by simp, fun o ho => .inl ho, id⟩
  | p :: r, acc, ops, h => by
    rw [ofGo] at h
    split at h
    · cases h
    · next hlt =>
      split at h
      · cases h
      · next o ho =>
        obtain ⟨h1, h2, h3⟩ := ofGo_ok r _ ops h
        refine ⟨by simp at h1 ⊢; omega, fun q hq => ?_, fun _ => h3 (by simp; omega)⟩
        rcases h2 q hq with h4 | ⟨p', hp', h4⟩
        · rcases List.mem_append.1 h4 with h4 | h4
          · exact .inl h4
          · obtain rfl : q = o := by simpa using h4
            exact .inr ⟨p, by simp, ho⟩
        · exact .inr ⟨p', List.mem_cons_of_mem _ hp', h4⟩
theorem ofGo_err : ∀ (L : List (Nat × List Bytes)) (acc : List SOp) (e : Nat × Nat), ofGo acc L = .error e → 1 ≤ e.2 ∧ e.2 ≤ 16 ∧ ∃ p ∈ L, e.1 = p.1
  | [], acc, e, h => by cases h
  | p :: r, acc, e, h => by
    rw [ofGo] at h
    split at h
    · injection h with h
      subst h
      exact ⟨by simp, by simp, p, by simp, rfl⟩
    · split at h
      · next e0 he0 =>
        injection h with h
        subst h
        have := one_err he0
        exact ⟨this.1, this.2, p, by simp, rfl⟩
      · obtain ⟨h1, h2, q, hq, h3⟩ := ofGo_err r _ e h
        exact ⟨h1, h2, q, List.mem_cons_of_mem _ hq, h3⟩
theorem ofLines_ok {L : List (Nat × List Bytes)} {ops : List SOp} (h : ofLines L = .ok ops) : ofGo [] L = .ok ops ∧ other ops = none := by
  unfold ofLines at h
  split at h
  · cases h
  · next h1 =>
    split at h
    · cases h
    · next h2 =>
      injection h with h
      subst h
      exact ⟨h1, h2⟩

/-! ### a text behind another one -/
theorem lines_append (b : Bytes) : ∀ a : Bytes, lines (a ++ 10 :: b) = lines a ++ lines b
  | [] => by show lines (10 :: b) = [[]] ++ lines b; simp [lines]
  | c :: t => by
    have ih := lines_append b t
    rw [List.cons_append, lines, ih]
    by_cases hc : c = 10
    · rw [if_pos hc, lines, if_pos hc]; rfl
    · rw [if_neg hc]
      conv => rhs; rw [lines, if_neg hc]
      cases hl : lines t with
      | nil => exact absurd hl (lines_ne t)
      | cons l r => rfl
def moved (k : Nat) (L : List (Nat × List Bytes)) : List (Nat × List Bytes) := L.map fun p => (p.1 + k, p.2)
def Res.moved (k : Nat) (acc : List (Nat × List Bytes)) : Res → Res
  | .bad n => .bad (n + k)
  | .ok L => .ok (acc ++ AmS.moved k L)
theorem add_moved (acc acc0 : List (Nat × List Bytes)) (n k : Nat) (row : List Bytes) : add (acc0 ++ moved k acc) (n + k) row = acc0 ++ moved k (add acc n row) := by
  unfold add moved
  split <;> simp
theorem goSplit_moved (k : Nat) (acc0 : List (Nat × List Bytes)) : ∀ (ls : List Bytes) (acc : List (Nat × List Bytes)) (n : Nat), goSplit (acc0 ++ moved k acc) (n + k) ls = Res.moved k acc0 (goSplit acc n ls)
  | [], acc, n => rfl
  | l :: r, acc, n => by
    rw [goSplit_step, goSplit_step, add_moved]
    split
    · rw [show n + k + 1 = n + 1 + k by omega]
      exact goSplit_moved k acc0 r _ _
    · rfl
theorem goSplit_append : ∀ (la lb : List Bytes) (acc : List (Nat × List Bytes)) (n : Nat), goSplit acc n (la ++ lb) = match goSplit acc n la with
    | .bad m => .bad m
    | .ok L => goSplit L (n + la.length) lb
  | [], lb, acc, n => rfl
  | l :: r, lb, acc, n => by
    rw [List.cons_append, goSplit_step, goSplit_step]
    split
    · rw [goSplit_append r lb _ _]
      rw [show n + 1 + r.length = n + (l :: r).length by simp; omega]
    · rfl
theorem split_join {a : Bytes} {L : List (Nat × List Bytes)} (h : goSplit [] 1 (lines a) = .ok L) (b : Bytes) :
    goSplit [] 1 (lines (a ++ 10 :: b)) = Res.moved (lines a).length L (goSplit [] 1 (lines b)) := by
  rw [lines_append, goSplit_append, h]
  have := goSplit_moved (lines a).length L (lines b) [] 1
  simpa [moved] using this

/-- without the bound on their number -/
def ofFree (acc : List SOp) : List (Nat × List Bytes) → Except (Nat × Nat) (List SOp)
  | [] => .ok acc
  | p :: r => match one p.2 with
    | .error e => .error (p.1, e)
    | .ok o => ofFree (acc ++ [o]) r
theorem kindOf_len {w : Bytes} (h : kindOf w ≠ 0) : 3 ≤ w.length := by
  unfold kindOf at h
  repeat
    split at h
    · next e => rw [e]; simp
  exact absurd rfl h
theorem one_len {l : List Bytes} {o : SOp} (h : one l = .ok o) : 3 ≤ (Lib.join l [32]).length := by
  cases l with
  | nil => cases h
  | cons w r =>
    unfold one at h
    simp only at h
    split at h
    · cases h
    · next hk =>
      have := kindOf_len hk
      rw [Lib.join_cons, List.length_append]; omega
theorem ofGo_free : ∀ (L : List (Nat × List Bytes)) (acc : List SOp), 4 * acc.length + (joined L).length < 8000 → ofGo acc L = ofFree acc L
  | [], _, _ => rfl
  | p :: r, acc, h => by
    have e : (joined (p :: r)).length = (Lib.join p.2 [32]).length + 1 + (joined r).length := by simp [joined]; omega
    rw [ofGo, ofFree, if_neg (by omega)]
    split
    · rfl
    · next o ho =>
      have := one_len ho
      exact ofGo_free r _ (by simp; omega)
def addBefore (acc : List SOp) : Except (Nat × Nat) (List SOp) → Except (Nat × Nat) (List SOp)
  | .error e => .error e
  | .ok y => .ok (acc ++ y)
theorem ofFree_acc : ∀ (L : List (Nat × List Bytes)) (acc acc' : List SOp), ofFree (acc ++ acc') L = addBefore acc (ofFree acc' L)
  | [], acc, acc' => rfl
  | p :: r, acc, acc' => by
    rw [ofFree, ofFree]
    split
    · rfl
    · rw [List.append_assoc]; exact ofFree_acc r _ _
theorem ofFree_append : ∀ (L M : List (Nat × List Bytes)) (acc x : List SOp), ofFree acc L = .ok x → ofFree acc (L ++ M) = ofFree x M
  | [], M, acc, x, h => by injection h with h; subst h; rfl
  | p :: r, M, acc, x, h => by
    rw [ofFree] at h
    rw [List.cons_append, ofFree]
    split at h
    · cases h
    · next o ho =>
      exact ofFree_append r M _ x h
def movedE (k : Nat) : Except (Nat × Nat) (List SOp) → Except (Nat × Nat) (List SOp)
  | .error e => .error (e.1 + k, e.2)
  | .ok y => .ok y
theorem ofFree_moved (k : Nat) : ∀ (L : List (Nat × List Bytes)) (acc : List SOp), ofFree acc (moved k L) = movedE k (ofFree acc L)
  | [], _ => rfl
  | p :: r, acc => by
    show ofFree acc ((p.1 + k, p.2) :: moved k r) = _
    rw [ofFree, ofFree]
    simp only
    split
    · rfl
    · exact ofFree_moved k r _
theorem otherGo_app : ∀ (x pre y : List SOp), free (pre ++ x) → otherGo pre (x ++ y) = otherGo (pre ++ x) y
  | [], pre, y, _ => by simp
  | o :: x, pre, y, h => by
    rw [List.cons_append, otherGo]
    have hc : pre.any (clash o) = false := by
      rw [Bool.eq_false_iff]
      intro hany
      obtain ⟨q, hq, hcq⟩ := List.any_eq_true.1 hany
      have := h o (by simp) q (List.mem_append_left _ hq)
      rw [hcq] at this; cases this
    rw [hc]
    simp only [Bool.false_eq_true, if_false]
    rw [otherGo_app x (pre ++ [o]) y (by simpa using h)]
    simp
theorem other_app {x y : List SOp} {i : Nat} (hx : other x = none) (h : other (x ++ y) = some i) : x.length ≤ i ∧ i < x.length + y.length := by
  unfold other at h
  rw [otherGo_app x [] y (by simpa using other_none.1 hx)] at h
  exact otherGo_lt y _ i (by simpa using h)
theorem goSplit_pos : ∀ (ls : List Bytes) (acc : List (Nat × List Bytes)) (n : Nat) (L : List (Nat × List Bytes)), goSplit acc n ls = .ok L → (∀ p ∈ acc, 1 ≤ p.1) → 1 ≤ n → ∀ p ∈ L, 1 ≤ p.1
  | [], acc, n, L, h, ha, _ => by
    simp only [goSplit, Res.ok.injEq] at h
    subst h
    exact ha
  | l :: r, acc, n, L, h, ha, hn => by
    rw [goSplit_step] at h
    split at h
    · refine goSplit_pos r _ _ L h (fun p hp => ?_) (by omega)
      unfold add at hp
      split at hp
      · exact ha p hp
      · rcases List.mem_append.1 hp with hp | hp
        · exact ha p hp
        · obtain rfl : p = (n, Lib.fields (body l)) := by simpa using hp
          exact hn
    · cases h

/-- a text behind another one -/
theorem ofText_join {a b : Bytes} (ha : a.length ≤ 3000) (hb : b.length ≤ 3000) {x : List SOp} (hx : ofText a = .ok x) :
    (∀ n e, ofText b = .error (n, e) → ofText (a ++ 10 :: b) = .error (n + (lines a).length, e) ∨ (e = 8 ∧ ∃ place, ofText (a ++ 10 :: b) = .error (place, 8) ∧ (lines a).length < place)) ∧
    ∀ y, ofText b = .ok y → (∀ i, other (x ++ y) = some i → ∃ place, ofText (a ++ 10 :: b) = .error (place, 8) ∧ (lines a).length < place) ∧ (other (x ++ y) = none → ofText (a ++ 10 :: b) = .ok (x ++ y)) := by
  unfold ofText at hx ⊢
  rw [if_neg (by omega)] at hx
  rw [if_neg (show ¬ 60000 < b.length by omega), if_neg (show ¬ 60000 < (a ++ 10 :: b).length by simp; omega)]
  cases hLa : goSplit [] 1 (lines a) with
  | bad n => rw [hLa] at hx; cases hx
  | ok La =>
    rw [hLa] at hx
    simp only at hx
    rw [split_join hLa b]
    obtain ⟨hxa, hxo⟩ := ofLines_ok hx
    have ja := joined_len hLa
    rw [ofGo_free La [] (by simp; omega)] at hxa
    have hxl : x.length = La.length := by
      have := (ofLines_ok hx).1
      have := (ofGo_ok _ _ _ this).1
      simpa using this
    cases hLb : goSplit [] 1 (lines b) with
    | bad n =>
      simp only [Res.moved]
      refine ⟨fun n' e h => ?_, fun y h => by cases h⟩
      injection h with h
      injection h with h1 h2
      subst h1; subst h2
      exact .inl rfl
    | ok Lb =>
      simp only [Res.moved]
      have jb := joined_len hLb
      have jm : (joined (moved (lines a).length Lb)).length = (joined Lb).length := by simp [joined, moved, Function.comp_def]
      have hfree : ofGo [] (La ++ moved (lines a).length Lb) = movedE (lines a).length (addBefore x (ofGo [] Lb)) := by
        rw [ofGo_free _ [] (by rw [joined_append, List.length_append, jm]; simp; omega), ofFree_append La _ [] x hxa, ofFree_moved, ofGo_free Lb [] (by simp; omega)]
        have := ofFree_acc Lb x []
        rw [List.append_nil] at this
        rw [this]
      have hpos := goSplit_pos _ _ _ _ hLb (by simp) (Nat.le_refl _)
      have hplace : ∀ i, x.length ≤ i → i < x.length + Lb.length → (lines a).length < ((La ++ moved (lines a).length Lb).getD i (0, [])).1 := by
        intro i h1 h2
        have hi : i - La.length < Lb.length := by omega
        rw [List.getD_eq_getElem?_getD, List.getElem?_append_right (by omega)]
        unfold moved
        rw [List.getElem?_map, List.getElem?_eq_getElem hi]
        have := hpos _ (List.getElem_mem hi)
        simp
        omega
      unfold ofLines
      rw [hfree]
      cases hob : ofGo [] Lb with
      | error e =>
        simp only [addBefore, movedE]
        refine ⟨fun n e' h => ?_, fun y h => by cases h⟩
        injection h with h
        subst h
        exact .inl rfl
      | ok yb =>
        simp only [addBefore, movedE]
        have hyl : yb.length = Lb.length := by
          have := (ofGo_ok _ _ _ hob).1
          simpa using this
        cases hot : other yb with
        | some j =>
          simp only
          refine ⟨fun n e h => ?_, fun y h => by cases h⟩
          injection h with h
          injection h with h1 h2
          subst h2
          right
          refine ⟨rfl, ?_⟩
          cases ho2 : other (x ++ yb) with
          | none =>
            have hf := other_none.1 ho2
            have : other yb = none := other_none.2 fun p hp q hq => hf p (List.mem_append_right _ hp) q (List.mem_append_right _ hq)
            rw [hot] at this; cases this
          | some i =>
            obtain ⟨h3, h4⟩ := other_app hxo ho2
            exact ⟨_, rfl, hplace i h3 (by omega)⟩
        | none =>
          simp only
          refine ⟨fun n e h => (by cases h), fun y h => ?_⟩
          injection h with h
          subst h
          refine ⟨fun i hi => ?_, fun hn => by rw [hn]⟩
          obtain ⟨h3, h4⟩ := other_app hxo hi
          rw [hi]
          exact ⟨_, rfl, hplace i h3 (by omega)⟩
theorem lines_count (a : Bytes) : (lines a).length = 1 + a.count 10 := by
  induction a with
  | nil => rfl
  | cons c t ih =>
    rw [lines]
    by_cases hc : c = 10
    · rw [if_pos hc, hc, List.count_cons_self]; simp [ih]; omega
    · rw [if_neg hc, List.count_cons_of_ne hc]
      cases hl : lines t with
      | nil => exact absurd hl (lines_ne t)
      | cons l r => rw [hl] at ih; simpa using ih
end Go.Proofs.Ytoohcnjilmcimaa.AmS
