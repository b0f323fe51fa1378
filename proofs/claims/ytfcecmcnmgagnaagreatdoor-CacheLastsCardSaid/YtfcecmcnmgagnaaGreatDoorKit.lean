/- The plain law of a row whose members know who is newer and who is older: one leaves, one enters. No program in sight. -/
import Derived.Below
import Derived.Laws.OwnMore
import Derived.Laws.Rows
import Derived.Deep.AppendLies
import Derived.Deep.Draws
import Derived.Maps.AppendAt
import Derived.RegionTactic
import Derived.OwnWalk
import Derived.Lib.Hide
import Derived.Lib.ConvBytes
namespace Go.Proofs.YtfcecmcnmgagnaaGreatDoor.AmK
variable {α : Type} {j : Nat} {A B : List Nat}
def upd {α : Type} (f : Nat → α) (i : Nat) (v : α) : Nat → α := fun j => if j = i then v else f j
def updO {α : Type} (f : Nat → α) (i : Option Nat) (v : α) : Nat → α := match i with
 | none => f
 | some i => upd f i v
theorem upd_self (f : Nat → α) (i : Nat) (v : α) : upd f i v i = v := if_pos rfl
theorem upd_ne (f : Nat → α) {i : Nat} (v : α) (h : j ≠ i) : upd f i v j = f j := if_neg h
theorem updO_ne (f : Nat → α) {i : Option Nat} (v : α) (h : ∀ k, i = some k → j ≠ k) : updO f i v j = f j := by
 cases i with
 | none => rfl
 | some k => exact upd_ne f v (h k rfl)
def Ch (nw od : Nat → Option Nat) : Option Nat → List Nat → Option Nat → Prop
 | _, [], _ => True
 | p, i :: t, q => nw i = p ∧ od i = t.head?.or q ∧ Ch nw od (some i) t q
variable {nw od nw' od' : Nat → Option Nat}
theorem Ch.congr : ∀ {l : List Nat} {p q : Option Nat}, Ch nw od p l q → (∀ i ∈ l, nw' i = nw i ∧ od' i = od i) → Ch nw' od' p l q
 | [], _, _, _, _ => trivial
 | i :: t, p, q, h, hc => by
  obtain ⟨h1, h2, h3⟩ := h
  obtain ⟨c1, c2⟩ := hc i (by simp)
  exact ⟨c1.trans h1, c2.trans h2, h3.congr fun j hj => hc j (by simp [hj])⟩
theorem last_or (i : Nat) (t : List Nat) (p : Option Nat) : (i :: t).getLast?.or p = t.getLast?.or (some i) := by
 cases t with
 | nil => rfl
 | cons j t =>
  rw [List.getLast?_cons_cons]
  obtain ⟨x, hx⟩ : ∃ x, (j :: t).getLast? = some x := ⟨_, List.getLast?_eq_some_getLast (by simp)⟩
  rw [hx]; rfl
theorem Ch.split : ∀ {A B : List Nat} {p q : Option Nat}, Ch nw od p (A ++ B) q → Ch nw od p A (B.head?.or q) ∧ Ch nw od (A.getLast?.or p) B q
 | [], B, p, q, h => ⟨trivial, by simpa using h⟩
 | i :: t, B, p, q, h => by
  obtain ⟨h1, h2, h3⟩ := h
  obtain ⟨k1, k2⟩ := Ch.split (A := t) (B := B) h3
  refine ⟨⟨h1, ?_, k1⟩, ?_⟩
  ·rw [h2]; cases t <;> simp
  ·rw [last_or]
   exact k2
theorem Ch.join : ∀ {A B : List Nat} {p q : Option Nat}, Ch nw od p A (B.head?.or q) → Ch nw od (A.getLast?.or p) B q → Ch nw od p (A ++ B) q
 | [], B, p, q, _, k => by simpa using k
 | i :: t, B, p, q, h, k => by
  obtain ⟨h1, h2, h3⟩ := h
  refine ⟨h1, ?_, Ch.join h3 ?_⟩
  ·rw [h2]; cases t <;> simp
  ·rw [last_or] at k
   exact k
theorem Ch.first {l : List Nat} {p q : Option Nat} (h : Ch nw od p l q) (hn : l.Nodup) (p' : Option Nat) : Ch (updO nw l.head? p') od p' l q := by
 cases l with
 | nil => trivial
 | cons i t =>
  obtain ⟨h1, h2, h3⟩ := h
  refine ⟨upd_self _ _ _, h2, h3.congr fun j hj => ⟨upd_ne _ _ fun e => ?_, rfl⟩⟩
  rw [e] at hj
  exact (List.nodup_cons.1 hn).1 hj
theorem Ch.last : ∀ {l : List Nat} {p q : Option Nat}, Ch nw od p l q → l.Nodup → ∀ q' : Option Nat, Ch nw (updO od l.getLast? q') p l q'
 | [], _, _, _, _, _ => trivial
 | [i], p, q, h, _, q' => ⟨h.1, upd_self _ _ _, trivial⟩
 | i :: j :: t, p, q, h, hn, q' => by
  obtain ⟨h1, h2, h3⟩ := h
  have hn' := List.nodup_cons.1 hn
  rw [List.getLast?_cons_cons]
  refine ⟨h1, ?_, Ch.last h3 hn'.2 q'⟩
  rw [updO_ne _ _ (fun k hk e => hn'.1 (by rw [e]; exact List.mem_of_getLast? hk))]
  exact h2
structure Row (nw od : Nat → Option Nat) (row : List Nat) (nst ost : Option Nat) : Prop where
 nd : row.Nodup
 nst : nst = row.head?
 ost : ost = row.getLast?
 ch : Ch nw od none row none
variable {row : List Nat} {nst ost : Option Nat}
theorem Row.at_ (h : Row nw od row nst ost) {i : Nat} (hr : row = A ++ i :: B) : nw i = A.getLast? ∧ od i = B.head? ∧ i ∉ A ∧ i ∉ B ∧ (∀ j, A.getLast? = some j → j ≠ i) ∧ ∀ j, B.head? = some j → j ≠ i := by
 subst hr
 have h1 := h.ch.split
 obtain ⟨k1, k2, _⟩ := h1.2
 have hn := h.nd
 rw [List.nodup_append, List.nodup_cons] at hn
 have hA : i ∉ A := fun hi => hn.2.2 i hi i (by simp) rfl
 refine ⟨by simpa using k1, by simpa using k2, hA, hn.2.1.1, fun j hj e => hA (e ▸ List.mem_of_getLast? hj), fun j hj e => hn.2.1.1 (e ▸ List.mem_of_head? hj)⟩
theorem Row.leave (h : Row nw od row nst ost) {i : Nat} (hr : row = A ++ i :: B) :
  Row (updO nw B.head? A.getLast?) (updO od A.getLast? B.head?) (A ++ B) (if A.getLast? = none then B.head? else nst) (if B.head? = none then A.getLast? else ost) := by
 have ha := h.at_ hr
 subst hr
 have h1 := h.ch.split
 obtain ⟨k1, k2, k3⟩ := h1.2
 have hn := h.nd
 rw [List.nodup_append, List.nodup_cons] at hn
 obtain ⟨nA, ⟨_, nB⟩, nAB⟩ := hn
 have dAB : ∀ x ∈ A, ∀ y ∈ B, x ≠ y := fun x hx y hy => nAB x hx y (by simp [hy])
 have z1 : Ch (updO nw B.head? A.getLast?) (updO od A.getLast? B.head?) none A B.head? :=
  (Ch.last (by simpa using h1.1) nA B.head?).congr fun j hj => ⟨updO_ne _ _ fun k hk e => dAB j hj k (List.mem_of_head? hk) e, rfl⟩
 have z2 : Ch (updO nw B.head? A.getLast?) (updO od A.getLast? B.head?) A.getLast? B none :=
  (Ch.first k3 nB A.getLast?).congr fun j hj => ⟨rfl, updO_ne _ _ fun k hk e => dAB k (List.mem_of_getLast? hk) j hj e.symm⟩
 refine ⟨List.nodup_append.2 ⟨nA, nB, dAB⟩, ?_, ?_, Ch.join (by simpa using z1) (by simpa using z2)⟩
 ·cases A with
  | nil => simp
  | cons x A =>
   have : (x :: A).getLast? ≠ none := by simp
   rw [if_neg this, h.nst]; rfl
 ·cases B with
  | nil => simp
  | cons y B =>
   rw [if_neg (by simp), h.ost]
   simp [List.getLast?_append, List.getLast?_cons_cons]
theorem Row.enter (h : Row nw od row nst ost) {i : Nat} (hi : i ∉ row) :
  Row (updO (upd nw i none) nst (some i)) (upd od i nst) (i :: row) (some i) (if nst = none then some i else ost) := by
 have hne : ∀ k, nst = some k → i ≠ k := fun k hk e => hi (by rw [e]; exact List.mem_of_head? (by rw [← h.nst]; exact hk))
 refine ⟨List.nodup_cons.2 ⟨hi, h.nd⟩, rfl, ?_, ?_, ?_, ?_⟩
 ·rw [h.nst, h.ost]
  cases row with
  | nil => rfl
  | cons x t => rw [if_neg (by simp), List.getLast?_cons_cons]
 ·rw [updO_ne _ _ hne, upd_self]
 ·rw [upd_self, h.nst]; simp
 ·have h1 := Ch.first (h.ch.congr (nw' := upd nw i none) (od' := upd od i nst) fun j hj => ⟨upd_ne _ _ fun e => hi (e ▸ hj), upd_ne _ _ fun e => hi (e ▸ hj)⟩) h.nd (some i)
  rw [← h.nst] at h1
  exact h1
end Go.Proofs.YtfcecmcnmgagnaaGreatDoor.AmK

/-! Rows of equally long rows: what stands where, what a store changes. No program in sight. -/
namespace Go.Proofs.YtfcecmcnmgagnaaGreatDoor.AmK
variable {α : Type} {m : Nat}
def rows (f : Nat → List α) (n : Nat) : List α := (List.range n).flatMap f
theorem rows_succ (f : Nat → List α) (n : Nat) : rows f (n + 1) = rows f n ++ f n := by
 unfold rows
 rw [List.range_succ, List.flatMap_append]
 simp
theorem rows_length {f : Nat → List α} (hf : ∀ i, (f i).length = m) : ∀ n, (rows f n).length = n * m
 | 0 => by simp [rows]
 | n + 1 => by rw [rows_succ, List.length_append, rows_length hf n, hf, Nat.succ_mul]
theorem rows_get {f : Nat → List α} (hf : ∀ i, (f i).length = m) {i j : Nat} (hj : j < m) : ∀ {n}, i < n → (rows f n)[i * m + j]? = (f i)[j]?
 | 0, h => absurd h (by omega)
 | n + 1, h => by
  rw [rows_succ]
  by_cases hi : i < n
  ·have : i * m + j < n * m := by
    have h1 : (i + 1) * m ≤ n * m := Nat.mul_le_mul_right _ hi
    rw [Nat.succ_mul] at h1
    omega
   rw [List.getElem?_append_left (by rw [rows_length hf]; exact this), rows_get hf hj hi]
  ·obtain rfl : i = n := by omega
   rw [List.getElem?_append_right (by rw [rows_length hf]; omega), rows_length hf]
   congr 1
   omega
theorem rows_congr {f g : Nat → List α} : ∀ {n}, (∀ i, i < n → f i = g i) → rows f n = rows g n
 | 0, _ => rfl
 | n + 1, h => by rw [rows_succ, rows_succ, rows_congr fun i hi => h i (by omega), h n (by omega)]
theorem rows_set {f : Nat → List α} (hf : ∀ i, (f i).length = m) {i j : Nat} (hj : j < m) (u : α) : ∀ {n}, i < n → (rows f n).set (i * m + j) u = rows (upd f i ((f i).set j u)) n
 | 0, h => absurd h (by omega)
 | n + 1, h => by
  rw [rows_succ, rows_succ]
  by_cases hi : i < n
  ·have : i * m + j < n * m := by
    have h1 : (i + 1) * m ≤ n * m := Nat.mul_le_mul_right _ hi
    rw [Nat.succ_mul] at h1
    omega
   rw [List.set_append_left _ _ (by rw [rows_length hf]; exact this), rows_set hf hj u hi, upd_ne _ _ (by omega)]
  ·obtain rfl : i = n := by omega
   rw [List.set_append_right _ _ (by rw [rows_length hf]; omega), rows_length hf, upd_self, rows_congr (g := upd f i ((f i).set j u)) fun k hk => (upd_ne _ _ (by omega)).symm]
   congr 2
   omega
end Go.Proofs.YtfcecmcnmgagnaaGreatDoor.AmK

/-! The plain law of what is there of those that came one behind the other: the last so many, each once. No program in sight. -/
namespace Go.Proofs.YtfcecmcnmgagnaaGreatDoor.AmK
variable {k n : Nat}
variable {α : Type} (κ : α → Nat)
def caLess (k : Nat) (l : List α) : List α := l.filter fun x => κ x != k
def came (D : List α) (e : α) : List α := e :: caLess κ (κ e) D
def hist (es : List α) : List α := es.foldl (came κ) []
def cput (M : Nat) (R : List α) (e : α) : List α := if (R.any fun x => κ x == κ e) then e :: caLess κ (κ e) R else if R.length < M then e :: R else e :: R.dropLast
variable {κ}
theorem caLess_none : ∀ {l : List α}, (∀ x ∈ l, κ x ≠ k) → caLess κ k l = l := fun h => List.filter_eq_self.2 fun x hx => by simpa using h x hx
theorem mem_caLess {l : List α} {x : α} : x ∈ caLess κ k l ↔ x ∈ l ∧ κ x ≠ k := by unfold caLess; simp [List.mem_filter]
theorem nodup_caLess {l : List α} (h : (l.map κ).Nodup) : ((caLess κ k l).map κ).Nodup := h.sublist (List.filter_sublist.map κ)
theorem came_nodup {D : List α} (h : (D.map κ).Nodup) (e : α) : ((came κ D e).map κ).Nodup := by
 unfold came
 rw [List.map_cons, List.nodup_cons]
 refine ⟨fun hm => ?_, nodup_caLess h⟩
 obtain ⟨x, hx, hk⟩ := List.mem_map.1 hm
 exact (mem_caLess.1 hx).2 hk
theorem foldl_nodup : ∀ (es D : List α), (D.map κ).Nodup → ((es.foldl (came κ) D).map κ).Nodup
 | [], _, h => h
 | e :: es, _, h => foldl_nodup es _ (came_nodup h e)
theorem hist_nodup (es : List α) : ((hist κ es).map κ).Nodup := foldl_nodup es [] (by simp)
theorem split_key {D : List α} (h : ∃ x ∈ D, κ x = k) : ∃ A x B, D = A ++ x :: B ∧ κ x = k ∧ ∀ y ∈ A, κ y ≠ k := by
 induction D with
 | nil => obtain ⟨x, hx, _⟩ := h; cases hx
 | cons y D ih =>
  by_cases hy : κ y = k
  ·exact ⟨[], y, D, rfl, hy, by simp⟩
  ·obtain ⟨x, hx, hk⟩ := h
   rcases List.mem_cons.1 hx with rfl | hx
   ·exact absurd hk hy
   ·obtain ⟨A, z, B, h1, h2, h3⟩ := ih ⟨x, hx, hk⟩
    exact ⟨y :: A, z, B, by rw [h1]; rfl, h2, fun w hw => by rcases List.mem_cons.1 hw with rfl | hw; exact hy; exact h3 w hw⟩
theorem caLess_split {A B : List α} {x : α} (hn : ((A ++ x :: B).map κ).Nodup) (hk : κ x = k) : caLess κ k (A ++ x :: B) = A ++ B := by
 rw [List.map_append, List.map_cons, List.nodup_append, List.nodup_cons] at hn
 unfold caLess
 rw [List.filter_append, List.filter_cons, if_neg (by simp [hk])]
 rw [List.filter_eq_self.2, List.filter_eq_self.2]
 ·intro y hy
  have : κ y ≠ k := fun e => hn.2.1.1 (by rw [hk, ← e]; exact List.mem_map_of_mem hy)
  simpa using this
 ·intro y hy
  have : κ y ≠ k := fun e => hn.2.2 (κ y) (List.mem_map_of_mem hy) (κ x) (by simp) (by rw [e, hk])
  simpa using this
theorem cput_take {M : Nat} (hM : 1 ≤ M) {D : List α} (hn : (D.map κ).Nodup) (e : α) : cput κ M (D.take M) e = (came κ D e).take M := by
 obtain ⟨m, rfl⟩ : ∃ m, M = m + 1 := ⟨M - 1, by omega⟩
 unfold came cput
 rw [List.take_succ_cons]
 by_cases ha : ((D.take (m + 1)).any fun x => κ x == κ e) = true
 ·rw [if_pos ha]
  have hx : ∃ x ∈ D.take (m + 1), κ x = κ e := by simpa using ha
  have hx' : ∃ x ∈ D, κ x = κ e := by obtain ⟨x, h1, h2⟩ := hx; exact ⟨x, List.mem_of_mem_take h1, h2⟩
  obtain ⟨A, x, B, rfl, hk, hA⟩ := split_key hx'
  have hlen : A.length ≤ m := by
   by_cases hc : A.length ≤ m
   ·exact hc
   ·obtain ⟨z, h1, h2⟩ := hx
    rw [List.take_append_of_le_length (by omega)] at h1
    exact absurd h2 (hA z (List.mem_of_mem_take h1))
  have e1 : (A ++ x :: B).take (m + 1) = A ++ x :: B.take (m - A.length) := by
   rw [List.take_append, List.take_of_length_le (by omega), show m + 1 - A.length = (m - A.length) + 1 by omega, List.take_succ_cons]
  have e2 : (A ++ B).take m = A ++ B.take (m - A.length) := by rw [List.take_append, List.take_of_length_le hlen]
  rw [e1, caLess_split hn hk, e2, caLess_split (by rw [← e1]; exact hn.sublist ((List.take_sublist _ _).map κ)) hk]
 ·rw [if_neg ha]
  have hno : ∀ x ∈ D.take (m + 1), κ x ≠ κ e := by simpa using ha
  have hw : (caLess κ (κ e) D).take m = (D.take (m + 1)).take m := by
   have h1 : caLess κ (κ e) D = D.take (m + 1) ++ caLess κ (κ e) (D.drop (m + 1)) := by
    conv => lhs; rw [← List.take_append_drop (m + 1) D]
    unfold caLess
    rw [List.filter_append]
    congr 1
    exact caLess_none hno
   rw [h1]
   by_cases hl : m ≤ (D.take (m + 1)).length
   ·rw [List.take_append_of_le_length hl]
   ·have hd : D.drop (m + 1) = [] := List.drop_eq_nil_of_le (by rw [List.length_take] at hl; omega)
    rw [hd]; simp [caLess]
  rw [hw, List.take_take, Nat.min_eq_left (by omega)]
  by_cases hl : (D.take (m + 1)).length < m + 1
  ·rw [if_pos hl, List.take_of_length_le (by rw [List.length_take] at hl; omega), List.take_of_length_le (by rw [List.length_take] at hl; omega)]
  ·rw [if_neg hl, List.dropLast_eq_take, List.take_take]
   congr 2
   rw [List.length_take] at hl ⊢
   omega
theorem hist_snoc (es : List α) (e : α) : hist κ (es ++ [e]) = came κ (hist κ es) e := by unfold hist; rw [List.foldl_append]; rfl
def Met_ (κ : α → Nat) (D pre : List α) (n : Nat) : Prop := D = D.take n ++ (hist κ pre).filter (fun x => !((D.take n).any fun y => κ y == κ x)) ∧ n ≤ D.length
theorem met_all (es : List α) : Met_ κ (hist κ es) es 0 := by
 refine ⟨?_, Nat.zero_le _⟩
 rw [List.take_zero, List.nil_append]
 exact (List.filter_eq_self.2 fun x _ => rfl).symm
theorem met_again {D pre : List α} {e : α} (h : Met_ κ D (pre ++ [e]) n) (hm : ∃ y ∈ D.take n, κ y = κ e) : Met_ κ D pre n := by
 refine ⟨?_, h.2⟩
 have h1 := h.1
 rw [hist_snoc] at h1
 unfold came caLess at h1
 rw [List.filter_cons, if_neg (by simpa using hm), List.filter_filter] at h1
 conv => lhs; rw [h1]
 congr 1
 apply List.filter_congr
 intro x _
 by_cases hx : κ x = κ e
 ·obtain ⟨y, hy, hk⟩ := hm
  have : ((D.take n).any fun y => κ y == κ x) = true := by
   rw [List.any_eq_true]; exact ⟨y, hy, by simp [hk, hx]⟩
  rw [this]; rfl
 ·simp [hx]
theorem met_new {D pre : List α} {e : α} (h : Met_ κ D (pre ++ [e]) n) (hm : ∀ y ∈ D.take n, κ y ≠ κ e) : D[n]? = some e ∧ Met_ κ D pre (n + 1) := by
 have h1 := h.1
 rw [hist_snoc] at h1
 unfold came caLess at h1
 rw [List.filter_cons, if_pos (by simpa using hm), List.filter_filter] at h1
 have hl : (D.take n).length = n := by rw [List.length_take]; have := h.2; omega
 have hg : D[n]? = some e := by rw [h1, List.getElem?_append_right (by omega), hl]; simp
 have hlt : n < D.length := (List.getElem?_eq_some_iff.1 hg).1
 have ht : D.take (n + 1) = D.take n ++ [e] := by rw [List.take_add_one, hg]; rfl
 refine ⟨hg, ?_, hlt⟩
 conv => lhs; rw [h1]
 rw [ht, List.append_assoc]
 congr 1
 rw [List.singleton_append]
 congr 1
 apply List.filter_congr
 intro x _
 rw [List.any_append]
 by_cases hx : κ x = κ e
 ·simp [hx]
 ·have : (κ e == κ x) = false := by simpa using fun h => hx h.symm
  simp [hx, this]
theorem met_end {D : List α} (h : Met_ κ D [] n) : n = D.length := by
 have h1 := congrArg List.length h.1
 have h2 := h.2
 simp [hist] at h1
 omega
end Go.Proofs.YtfcecmcnmgagnaaGreatDoor.AmK

/-! Words for memory that the walks of this claim use: slices that read as lists, blocks that are known whole, what lies below a block. No statement of the claim. -/
namespace Go.Proofs.YtfcecmcnmgagnaaGreatDoor
open Go.RowKit

theorem ret_int {k : IntKind} {a b : Int} (h : a = b) : Ending.returned (.int k a) = .returned (.int k b) := by rw [h]
theorem ret_bool {a b : Bool} (h : a = b) : Ending.returned (.bool a) = .returned (.bool b) := by rw [h]
/-- A slice value of n elements of 'size' cells each that reads as the cells xs, nil and empty let in; what it shows lies below block B. -/
def Reads (w : World) (B size : Nat) (A : Option Addr) (n : Nat) (xs : List Value) : Prop :=
  xs.length = n * size ∧ (0 < n → ∃ b off, A = some ⟨b, off, none⟩ ∧ b < B ∧ ∀ j u, xs[j]? = some u → w.cell? ⟨b, off + j, none⟩ = some u)

section
variable {w w' : World} {B B' size n : Nat} {A : Option Addr} {xs : List Value}
theorem Reads.none_ : Reads w B size A 0 [] := ⟨by simp, fun h => absurd h (by omega)⟩
theorem Reads.keep (h : Reads w B size A n xs) (hk : ∀ b o, b < B → w'.cell? ⟨b, o, none⟩ = w.cell? ⟨b, o, none⟩) : Reads w' B size A n xs :=
  ⟨h.1, fun hn => by
    obtain ⟨b, off, e, hb, hc⟩ := h.2 hn
    exact ⟨b, off, e, hb, fun j u hu => (hk _ _ hb).trans (hc j u hu)⟩⟩
theorem Reads.more (h : Reads w B size A n xs) (hB : B ≤ B') : Reads w B' size A n xs :=
  ⟨h.1, fun hn => by
    obtain ⟨b, off, e, hb, hc⟩ := h.2 hn
    exact ⟨b, off, e, by omega, hc⟩⟩
theorem Reads.below (h : Reads w B size A n xs) (hb : Below B w w') : Reads w' B size A n xs := h.keep fun b o hp => hb.cell (p := ⟨b, o, none⟩) hp
theorem Reads.drew (h : Reads w B size A n xs) : Reads w.drew B size A n xs := h
theorem Reads.drewN (h : Reads w B size A n xs) (k : Nat) : Reads (w.drewN k) B size A n xs := h
theorem Reads.alloc (h : Reads w B size A n xs) (hB : B ≤ w.heap.size) (o : Obj) : Reads (w.alloc o) B size A n xs := h.keep fun b off hp => World.cell?_alloc_lt w o ⟨b, off, none⟩ (Nat.lt_of_lt_of_le hp hB)
theorem Reads.of_own {base : Nat} {e : TypeId} {c : Nat} (h : w.ownsRow base e size (.slice A n c) n xs) : Reads w w.heap.size size A n xs := by
  refine ⟨h.1, fun hn => ?_⟩
  obtain ⟨g, cap, hv, _, hlt⟩ := h.form hn
  have hA : A = some ⟨g, 0, none⟩ := by injection hv
  subst hA
  refine ⟨g, 0, rfl, hlt, fun j u hu => ?_⟩
  have := h.cells (g := g) rfl j u hu
  by_cases h0 : j = 0
  · subst h0; simpa [Addr.add] using this
  · simpa [Addr.add, h0] using this
end

/-- block g is just the cells cs of element type t, none frozen -/
def Blk (w : World) (g : Nat) (t : TypeId) (cs : Array Value) : Prop := w.heap[g]? = some (.cells cs t (0, 0))
section
variable {w w' : World} {g : Nat} {t : TypeId} {cs : Array Value}
theorem Blk.lt (h : Blk w g t cs) : g < w.heap.size := by
  rcases Nat.lt_or_ge g w.heap.size with hlt | hge
  · exact hlt
  · unfold Blk at h; rw [Array.getElem?_eq_none hge] at h; cases h
theorem Blk.cell (h : Blk w g t cs) (i : Nat) : w.cell? ⟨g, i, none⟩ = cs[i]? := cell_of_row w g i cs t (0, 0) h
theorem Blk.frozen (h : Blk w g t cs) (i : Nat) : w.frozen? ⟨g, i, none⟩ = false := by
  unfold Blk at h
  simp [World.frozen?, h]
theorem Blk.new (w : World) (t : TypeId) (cs : Array Value) : Blk (w.alloc (.cells cs t)) w.heap.size t cs := heap_alloc_new w _
theorem Blk.drew (h : Blk w g t cs) : Blk w.drew g t cs := h
theorem Blk.drewN (h : Blk w g t cs) (n : Nat) : Blk (w.drewN n) g t cs := h
theorem Blk.alloc (h : Blk w g t cs) (o : Obj) : Blk (w.alloc o) g t cs := (Below.heap_alloc w o g h.lt).trans h
theorem Blk.set_ (h : Blk w g t cs) (i : Nat) (u : Value) : Blk (w.setCell ⟨g, i, none⟩ u) g t (cs.setIfInBounds i u) := by
  unfold Blk at h ⊢
  simp [World.setCell, Array.getElem?_modify, h]
theorem Blk.far (h : Blk w g t cs) {p : Addr} (hp : g ≠ p.block) (u : Value) : Blk (w.setCell p u) g t cs := (Below.heap_setCell w p u g hp).trans h
theorem Blk.below {B : Nat} (h : Blk w g t cs) (hb : Below B w w') (hg : g < B) : Blk w' g t cs := (hb.block g hg).trans h
theorem Blk.grown {row : Option Nat} (h : Blk w g t cs) (hb : w.grownBy w' row) (hg : some g ≠ row) : Blk w' g t cs := (hb.block g h.lt hg).trans h
end


/-- slice type t of elements of type e, each of 'size' cells and 'bytes' bytes -/
def SlTy (P : Program) (t e : TypeId) (size bytes : Nat) : Prop :=
  ∃ i z, P.underlying t = some (.slice e) ∧ P.info? e = some i ∧ i.zero = some z ∧ i.size = size ∧ i.bytes = bytes ∧ z.cells.size = size ∧ 0 < size ∧ bytes ≤ 4096
theorem slTy {P : Program} {t e : TypeId} {z : Value} {size bytes : Nat} (ht : P.underlying t = some (.slice e)) (h : (P.info? e).map (fun i => (i.zero, i.size, i.bytes)) = some (some z, size, bytes))
    (h1 : z.cells.size = size) (h2 : 0 < size) (h3 : bytes ≤ 4096) : SlTy P t e size bytes := by
  obtain ⟨i, hi, hz0, hz1, hz2⟩ := info_parts h
  exact ⟨i, z, ht, hi, hz0, hz1, hz2, h1, h2, h3⟩

/-- what an append has done: below 'base' all is as it was; of the old blocks the appended row's alone may have turned; the row lies where it lay, or in a new block -/
structure Grew (w0 : World) (base : Nat) (v : Value) (w' : World) (v' : Value) : Prop where
  below : Below base w0 w'
  by_ : w0.grownBy w' v.ownBlock
  at_ : v'.ownBlock = v.ownBlock ∨ ∃ g, v'.ownBlock = some g ∧ w0.heap.size ≤ g
theorem Grew.size {w0 w' : World} {base : Nat} {v v' : Value} (h : Grew w0 base v w' v') : w0.heap.size ≤ w'.heap.size := h.by_.size

/-- append of one element, which stands in a block that was laid for it, onto a row of the call's own -/
theorem wpList_append1 {P : Program} {w0 : World} {ops : Array Oper} {rest : List Oper} {o : Oper} {a : Act} {Q : Exit → Act → World → Prop} (hgd : o.guard = none) {s x : Operand} {t : TypeId}
    (ho : o.op = .call { callee := .builtin .append, args := #[s, x], argTypes := #[t, t] }) {e : TypeId} {size bytes : Nat} (hT : SlTy P t e size bytes)
    {base : Nat} {v : Value} {n : Nat} {xs : List Value} (hown : w0.ownsRow base e size v n xs) (hs : a.eval s = v) {cs : Array Value} {t' : TypeId} {c : Nat}
    {g : Nat} (hx : a.eval x = .slice (some ⟨g, 0, none⟩) 1 c) (hg0 : g = w0.heap.size) (hl : cs.size = size) (h1' : (cs.toList.all fun u => u.oneCell') = true)
    (hn : n < 33554432) (hbase : base ≤ w0.heap.size)
    (h : ∀ v' w', w'.ownsRow base e size v' (n + 1) (xs ++ cs.toList) → Grew w0 base v w' v' → wpList P ops Q rest (a.put o.dst v') w') :
    wpList P ops Q (o :: rest) a (w0.alloc (.cells cs t')) := by
  obtain ⟨i, z, ht, hi, hz, hsize, hby, hzs, hsz, hb⟩ := hT
  have h1 : ∀ u ∈ cs.toList, u.oneCell' = true := List.all_eq_true.1 h1'
  subst hg0
  refine wpList_append_own_at (w0.alloc (.cells cs t')) hgd s x t ho base e i z size bytes ht hi hz hsize hby hzs hsz v n xs hs (hown.alloc _) ⟨w0.heap.size, 0, none⟩ 1 c cs.toList hx (by simp [hl]) ?_ h1
    (by simp only [maxLen]; omega) ?_ (by simp; omega) ?_
  · intro j u hj
    have hadd : (⟨w0.heap.size, 0, none⟩ : Addr).add j = ⟨w0.heap.size, j, none⟩ := by unfold Addr.add; split <;> simp_all
    rw [hadd, (Blk.new w0 t' cs).cell]
    simpa using hj
  · have : (n + 1) * bytes ≤ 33554432 * 4096 := Nat.mul_le_mul (by omega) hb
    omega
  · intro v' w' hown' hg _ hat
    have hlt := hown.lt
    have hb0 : Below base w0 (w0.alloc (.cells cs t')) := (Below.refl _ _).alloc hbase _
    refine h v' w' hown' ⟨hb0.grown hg (by simp; omega) (fun k hk => (hlt k hk).1), ⟨hg.os, hg.tape, hg.output, by have := hg.size; simp at this; omega, fun k hk hne => ?_⟩, ?_⟩
    · exact (hg.block k (by simp; omega) hne).trans (Below.heap_alloc w0 _ k hk)
    · rcases hat with hat | hat
      · exact .inl hat
      · exact .inr ⟨_, hat, by simp⟩

/-- a row of the call's own stays, whatever other row has grown -/
theorem Grew.keep {w0 w' : World} {base : Nat} {v v' : Value} (h : Grew w0 base v w' v') {b e size : Nat} {u : Value} {n : Nat} {xs : List Value} (hu : w0.ownsRow b e size u n xs)
    (hne : u.ownBlock = Option.none ∨ u.ownBlock ≠ v.ownBlock) : w'.ownsRow b e size u n xs := hu.kept h.by_ hne
theorem own_form {w : World} {b e size n : Nat} {v : Value} {xs : List Value} (hv : w.ownsRow b e size v n xs) : ∃ A c, v = .slice A n c := by
  rcases hv.2 with ⟨rfl, rfl⟩ | ⟨g, cap, cur, rfl, _⟩
  · exact ⟨_, _, rfl⟩
  · exact ⟨_, _, rfl⟩
theorem own_below {w w1 : World} {base B : Nat} {e : TypeId} {size : Nat} {v : Value} {n : Nat} {xs : List Value} (h : w.ownsRow base e size v n xs) (hb : Below B w w1) (hB : w.heap.size ≤ B) : w1.ownsRow base e size v n xs := by
  have hg : w.grownBy w1 Option.none := ⟨hb.os, hb.tape, hb.output, hb.size, fun k hk _ => hb.block k (by omega)⟩
  refine h.kept hg ?_
  cases hv : v.ownBlock with
  | none => exact .inl rfl
  | some k => exact .inr (by simp)

end Go.Proofs.YtfcecmcnmgagnaaGreatDoor
