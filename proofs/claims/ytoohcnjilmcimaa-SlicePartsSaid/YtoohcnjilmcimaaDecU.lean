/- amblernum.Unsigned and words.figures by their contracts. -/
import Derived.Test.YtoohcnjilmcimaaDecP
import Derived.Test.YtoohcnjilmcimaaTexts
import Derived.WalkKit
import Derived.WalkSpells
import Derived.WalkLawsBesides
import Derived.Deep.RegionWith
import Derived.Laws.IdiomStrings
import Derived.Outline
namespace Go.Proofs.Ytoohcnjilmcimaa
open Go.RowKit AmD

theorem byte_ne' {b c : UInt8} {k : Int} (h : b ≠ c) (hk : (c.toNat : Int) = k) : ((b.toNat : Int) == k) = false := by
  rw [beq_eq_false_iff_ne]
  intro e
  exact h (UInt8.toNat_inj.1 (by omega))
/-- a text by its bytes -/
def Says (l : List UInt8) (b : ByteArray) : Prop := b.data.toList = l
def TextPost (w : World) (l : List UInt8) (e : Ending) (w' : World) : Prop := ∃ b : ByteArray, Says l b ∧ e = .returned (.string b) ∧ Below w.heap.size w w'

theorem un_drew {w w1 : World} (h : Below w.drew.heap.size w.drew w1) : Below w.heap.size w w1 := ⟨h.os, h.tape, h.output, h.size, h.block⟩
theorem un_alloc {w w1 : World} {o : Obj} (h : Below (w.alloc o).drew.heap.size (w.alloc o).drew w1) : Below w.heap.size w w1 :=
  ((Below.refl _ w).alloc (Nat.le_refl _) o).trans ((un_drew (w := w.alloc o) h).mono (by simp))
theorem says_next {n : Nat} {b : ByteArray} (h : 10 ≤ n) (hb : Says (digits (n / 10)) b) : Says (digits n) (b ++ ⟨#[dg (n % 10)]⟩) := by
  unfold Says at hb ⊢
  rw [digits_great n (by omega), ← hb]
  simp

/-! words.figures -/
def figC (h : Bool) (c : UInt8) : Bool := if h then isHex c else isDig c
def figs (h : Bool) (l : List UInt8) : Bool := l.all (figC h)
def figR (h : Bool) (l : List UInt8) : Bool := figs h l && !l.isEmpty
theorem figR_bad {h : Bool} {l : List UInt8} (hf : figs h l = false) : figR h l = false := by rw [figR, hf]; rfl
theorem figR_ok {h : Bool} {s : ByteArray} (hf : figs h s.data.toList = true) : figR h s.data.toList = !s.toList.isEmpty := by rw [figR, hf, ByteArray.toList_eq]; rfl
theorem figs_take (h : Bool) (l : List UInt8) (k : Nat) (hk : k < l.length) : figs h (l.take (k + 1)) = (figs h (l.take k) && figC h l[k]) := by
  unfold figs
  rw [List.take_succ_eq_append_getElem hk, List.all_append]
  simp

end Go.Proofs.Ytoohcnjilmcimaa
