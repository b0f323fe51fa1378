/- The plain law of the least and the greatest of a list that may hold NaN. No program in sight. -/
import Derived.Test.YtgpkekdbohdbfaaDoorListsP
namespace Go.Proofs.YtgpkekdbohdbfaaDoor.AmF

/-- what is least of a list: a NaN of none, and of one that has a NaN -/
structure LeastIs (l : List Nat) (r : Nat) : Prop where
  lt : r < 18446744073709551616
  nan : l = [] ∨ l.any nanB = true → nanB r = true
  num : ∀ x t, l = x :: t → l.any nanB = false → r = leastFrom x t
/-- what is greatest of a list -/
structure MostIs (l : List Nat) (r : Nat) : Prop where
  lt : r < 18446744073709551616
  nan : l = [] ∨ l.any nanB = true → nanB r = true
  num : ∀ x t, l = x :: t → l.any nanB = false → r = mostFrom x t
theorem any_neg {l : List Nat} (h : words l) : (l.map negW).any nanB = l.any nanB := by
  induction l with
  | nil => rfl
  | cons x t ih =>
    rw [List.map_cons, List.any_cons, List.any_cons, nan_neg (h x (by simp)), ih fun y hy => h y (List.mem_cons_of_mem _ hy)]
theorem most_of_least {l : List Nat} {r : Nat} (hl : words l) (h : LeastIs (l.map negW) r) : MostIs l (negW r) := by
  refine ⟨(negW_facts h.lt).2.2, fun hn => ?_, fun x t he ha => ?_⟩
  · rw [nan_neg h.lt]
    refine h.nan ?_
    rcases hn with hn | hn
    · exact .inl (by rw [hn]; rfl)
    · exact .inr (by rw [any_neg hl]; exact hn)
  · subst he
    have hx := hl x (by simp)
    have ht : words t := fun y hy => hl y (List.mem_cons_of_mem _ hy)
    have := h.num (negW x) (t.map negW) rfl (by rw [any_neg hl]; exact ha)
    rw [this]
    exact most_least t x ht hx
theorem leastFrom_snoc (x : Nat) (l : List Nat) (y : Nat) : leastFrom x (l ++ [y]) = if lessB y (leastFrom x l) then y else leastFrom x l := by unfold leastFrom; rw [List.foldl_append]; rfl
theorem mostFrom_snoc (x : Nat) (l : List Nat) (y : Nat) : mostFrom x (l ++ [y]) = if moreB y (mostFrom x l) then y else mostFrom x l := by unfold mostFrom; rw [List.foldl_append]; rfl
/-- what is picked stands in the list -/
theorem leastFrom_mem (P : Nat → Prop) : ∀ (l : List Nat) (x : Nat), P x → (∀ y ∈ l, P y) → P (leastFrom x l)
  | [], _, h, _ => h
  | y :: t, x, h, hl => by
    simp only [leastFrom, List.foldl_cons]
    split
    · exact leastFrom_mem P t y (hl y (by simp)) (fun z hz => hl z (List.mem_cons_of_mem _ hz))
    · exact leastFrom_mem P t x h (fun z hz => hl z (List.mem_cons_of_mem _ hz))
theorem mostFrom_mem (P : Nat → Prop) : ∀ (l : List Nat) (x : Nat), P x → (∀ y ∈ l, P y) → P (mostFrom x l)
  | [], _, h, _ => h
  | y :: t, x, h, hl => by
    simp only [mostFrom, List.foldl_cons]
    split
    · exact mostFrom_mem P t y (hl y (by simp)) (fun z hz => hl z (List.mem_cons_of_mem _ hz))
    · exact mostFrom_mem P t x h (fun z hz => hl z (List.mem_cons_of_mem _ hz))
theorem any_mem {l : List Nat} (h : l.any nanB = false) : ∀ y ∈ l, nanB y = false := by
  intro y hy
  cases hn : nanB y with
  | false => rfl
  | true => rw [List.any_eq_true.2 ⟨y, hy, hn⟩] at h; cases h
theorem take_next {l : List Nat} {k y : Nat} (h : l[k]? = some y) : l.take (k + 1) = l.take k ++ [y] := by rw [List.take_add_one, h]; rfl
/-- where the program's loop to the least stands: behind the first, so many more -/
structure LeastAt (x : Nat) (t : List Nat) (k out : Nat) : Prop where
  eq : leastFrom x (t.take k) = out
  fine : k = 0 ∨ (x :: t.take k).any nanB = false
theorem LeastAt.lt {x : Nat} {t : List Nat} {k out : Nat} (h : LeastAt x t k out) (hl : words (x :: t)) : out < 18446744073709551616 := by
  rw [← h.eq]
  exact leastFrom_mem (· < 18446744073709551616) _ _ (hl x (by simp)) (fun y hy => hl y (List.mem_cons_of_mem _ (List.mem_of_mem_take hy)))
theorem LeastAt.nan {x : Nat} {t : List Nat} {k out : Nat} (h : LeastAt x t k out) : nanB out = true → nanB x = true := by
  intro hn
  rcases h.fine with h0 | h0
  · subst h0
    have := h.eq
    simp [leastFrom] at this
    rw [this]; exact hn
  · have h1 := any_mem h0
    have : nanB out = false := by
      rw [← h.eq]
      exact leastFrom_mem (fun y => nanB y = false) _ _ (h1 x (by simp)) (fun y hy => h1 y (List.mem_cons_of_mem _ hy))
    rw [this] at hn; cases hn
theorem LeastAt.bad {x : Nat} {t : List Nat} {k out y r : Nat} (h : LeastAt x t k out) (hy : t[k]? = some y) (hb : nanB y = true ∨ nanB out = true) (hr : r < 18446744073709551616) (hn : nanB r = true) : LeastIs (x :: t) r := by
  refine ⟨hr, fun _ => hn, fun x' t' he ha => ?_⟩
  injection he with e1 e2
  subst e1; subst e2
  exfalso
  have h1 := any_mem ha
  rcases hb with hb | hb
  · rw [h1 y (List.mem_cons_of_mem _ (List.mem_of_getElem? hy))] at hb; cases hb
  · exact Bool.noConfusion ((h.nan hb).symm.trans (h1 x (by simp)))
theorem LeastAt.next {x : Nat} {t : List Nat} {k out y : Nat} (h : LeastAt x t k out) (hl : words (x :: t)) (hy : t[k]? = some y) (ny : nanB y = false) (no : nanB out = false) : LeastAt x t (k + 1) (pick out y) := by
  have hyw := hl y (List.mem_cons_of_mem _ (List.mem_of_getElem? hy))
  refine ⟨?_, .inr ?_⟩
  · rw [take_next hy, leastFrom_snoc, h.eq, pick_less hyw (h.lt hl) ny no]
  · rw [take_next hy]
    have hx : (x :: t.take k).any nanB = false := by
      rcases h.fine with h0 | h0
      · subst h0
        have := h.eq
        simp [leastFrom] at this
        subst this
        simp [no]
      · exact h0
    rw [← List.cons_append, List.any_append, hx]
    simp [ny]
theorem LeastAt.done {x : Nat} {t : List Nat} {out : Nat} (h : LeastAt x t t.length out) (hl : words (x :: t)) : LeastIs (x :: t) out := by
  have he := h.eq
  rw [List.take_length] at he
  refine ⟨h.lt hl, fun hn => ?_, fun x' t' he' ha => ?_⟩
  · rcases hn with hn | hn
    · cases hn
    · rcases h.fine with h0 | h0
      · have ht := List.length_eq_zero_iff.1 h0
        subst ht
        simp [leastFrom] at he
        subst he
        simpa using hn
      · rw [List.take_length, hn] at h0; cases h0
  · injection he' with e1 e2
    subst e1; subst e2
    exact he.symm
/-- where the statement's loop stands -/
structure LawAt (l : List Nat) (k least most : Nat) : Prop where
  zero : k = 0 → least = 9221120237041090561 ∧ most = 9221120237041090561
  num : ∀ x t, l = x :: t → 0 < k → (l.take k).any nanB = false ∧ least = leastFrom x (t.take (k - 1)) ∧ most = mostFrom x (t.take (k - 1))
/-- both are as the program's: bit by bit, or NaN -/
def SameF (a b : Nat) : Prop := a = b ∨ (nanB a = true ∧ nanB b = true)
theorem LawAt.lt {l : List Nat} {k least most : Nat} (h : LawAt l k least most) (hl : words l) (hk : k ≤ l.length) : least < 18446744073709551616 ∧ most < 18446744073709551616 := by
  by_cases h0 : k = 0
  · obtain ⟨e1, e2⟩ := h.zero h0
    omega
  · cases l with
    | nil => simp at hk; omega
    | cons x t =>
      obtain ⟨_, e1, e2⟩ := h.num x t rfl (by omega)
      have ht : ∀ y ∈ t.take (k - 1), y < 18446744073709551616 := fun y hy => hl y (List.mem_cons_of_mem _ (List.mem_of_mem_take hy))
      exact ⟨e1 ▸ leastFrom_mem (· < 18446744073709551616) _ _ (hl x (by simp)) ht, e2 ▸ mostFrom_mem (· < 18446744073709551616) _ _ (hl x (by simp)) ht⟩
theorem LawAt.num_ {l : List Nat} {k least most : Nat} (h : LawAt l k least most) (hk : k ≤ l.length) (h0 : 0 < k) : nanB least = false ∧ nanB most = false := by
  cases l with
  | nil => simp at hk; omega
  | cons x t =>
    obtain ⟨h1, e1, e2⟩ := h.num x t rfl h0
    obtain ⟨k, rfl⟩ : ∃ j, k = j + 1 := ⟨k - 1, by omega⟩
    rw [List.take_succ_cons] at h1
    have h2 := any_mem h1
    simp only [Nat.add_sub_cancel] at e1 e2
    exact ⟨e1 ▸ leastFrom_mem (fun y => nanB y = false) _ _ (h2 x (by simp)) (fun y hy => h2 y (List.mem_cons_of_mem _ hy)), e2 ▸ mostFrom_mem (fun y => nanB y = false) _ _ (h2 x (by simp)) (fun y hy => h2 y (List.mem_cons_of_mem _ hy))⟩
theorem LawAt.first {l : List Nat} {y : Nat} (hy : l[0]? = some y) (ny : nanB y = false) : LawAt l 1 y y := by
  refine ⟨fun h => absurd h (by omega), fun x t he _ => ?_⟩
  subst he
  simp only [List.getElem?_cons_zero, Option.some.injEq] at hy
  subst hy
  simp [ny, leastFrom, mostFrom]
theorem LawAt.next {l : List Nat} {k least most y : Nat} (h : LawAt l k least most) (h0 : 0 < k) (hy : l[k]? = some y) (ny : nanB y = false) :
    LawAt l (k + 1) (if lessB y least then y else least) (if moreB y most then y else most) := by
  refine ⟨fun h => absurd h (by omega), fun x t he _ => ?_⟩
  obtain ⟨h1, e1, e2⟩ := h.num x t he h0
  rw [take_next hy, List.any_append, h1]
  subst he
  obtain ⟨k, rfl⟩ : ∃ j, k = j + 1 := ⟨k - 1, by omega⟩
  rw [List.getElem?_cons_succ] at hy
  simp only [Nat.add_sub_cancel] at e1 e2 ⊢
  rw [take_next hy, leastFrom_snoc, mostFrom_snoc, ← e1, ← e2]
  simp [ny]
theorem LawAt.nan {l : List Nat} {k y r : Nat} (hy : l[k]? = some y) (ny : nanB y = true) (h : LeastIs l r) : SameF r y :=
  .inr ⟨h.nan (.inr (List.any_eq_true.2 ⟨y, List.mem_of_getElem? hy, ny⟩)), ny⟩
theorem LawAt.nanM {l : List Nat} {k y r : Nat} (hy : l[k]? = some y) (ny : nanB y = true) (h : MostIs l r) : SameF r y :=
  .inr ⟨h.nan (.inr (List.any_eq_true.2 ⟨y, List.mem_of_getElem? hy, ny⟩)), ny⟩
theorem LawAt.done {l : List Nat} {least most r : Nat} (h : LawAt l l.length least most) (hr : LeastIs l r) : SameF r least := by
  cases l with
  | nil =>
    obtain ⟨e1, _⟩ := h.zero rfl
    exact .inr ⟨hr.nan (.inl rfl), by rw [e1]; decide⟩
  | cons x t =>
    obtain ⟨h1, e1, _⟩ := h.num x t rfl (by simp)
    rw [List.take_length] at h1
    left
    rw [hr.num x t rfl h1, e1]
    simp
theorem LawAt.doneM {l : List Nat} {least most r : Nat} (h : LawAt l l.length least most) (hr : MostIs l r) : SameF r most := by
  cases l with
  | nil =>
    obtain ⟨_, e1⟩ := h.zero rfl
    exact .inr ⟨hr.nan (.inl rfl), by rw [e1]; decide⟩
  | cons x t =>
    obtain ⟨h1, _, e1⟩ := h.num x t rfl (by simp)
    rw [List.take_length] at h1
    left
    rw [hr.num x t rfl h1, e1]
    simp
end Go.Proofs.YtgpkekdbohdbfaaDoor.AmF
