/- slice.Only, Without, Writes by their contracts: the operations that stay. -/
import Derived.Test.YtoohcnjilmcimaaSliceL
namespace Go.Proofs.Ytoohcnjilmcimaa
open Go.RowKit AmS

/-- operations in memory of the call's own -/
def KeptPost (w : World) (l : List SOp) (e : Ending) (w' : World) : Prop :=
  ∃ v, e = .returned v ∧ w'.ownsRow w.heap.size 29 5 v l.length (opsCells l) ∧ Below w.heap.size w w'
def KeepsPost (W : World) (b : Bool) (e : Ending) (W' : World) : Prop := e = .returned (.bool b) ∧ Below W.heap.size W W'

set_option maxHeartbeats 1000000 in
theorem only_fn (i : Int) (o : SOp) (p : Nat) (B : Option Addr) (m d : Nat) (ks : List Int) (W : World) (hc : W.cell? ⟨p, 0, none⟩ = some (.slice B m d)) (hp : p < W.heap.size) (hk : Reads W W.heap.size 1 B m (ks.map (Value.int .u64))) (hm : m ≤ 65536) :
    Calls Try.prog 27 #[.int .i64 i, opV o, .pointer (some ⟨p, 0, none⟩)] W (KeepsPost W (!keyedP o.kind || ks.contains o.key)) := by
  have HK := Lib.hid (fun V => slice_keyed o V)
  unfold opV at HK ⊢
  have hBl := (Below.refl W.heap.size W).alloc (Nat.le_refl _) (.cells #[.int .i64 o.kind, .int .u64 o.key, .int .u64 o.val, .int .u64 o.hash, .int .i64 o.iter] 29)
  have hO := Blk.new W 29 #[.int .i64 o.kind, .int .u64 o.key, .int .u64 o.val, .int .u64 o.hash, .int .i64 o.iter]
  obtain ⟨W1, hW1⟩ : ∃ W1, W1 = W.alloc (.cells #[.int .i64 o.kind, .int .u64 o.key, .int .u64 o.val, .int .u64 o.hash, .int .i64 o.iter] 29) := ⟨_, rfl⟩
  rw [← hW1] at hBl hO
  have HW1 := Lib.hid hW1
  clear hW1
  cases hq : keyedP o.kind with
  | false =>
    rw [hq] at HK
    go_enter Try.func27, Try.ntmps27
    go_wp2_with fail
    rw [← HW1.out]
    refine (HK.out _).mono ?_
    rintro e w2 ⟨rfl, hb2⟩
    go_wp2
    go_ret
    exact ⟨rfl, hBl.trans (hb2.mono hBl.size)⟩
  | true =>
    rw [hq] at HK
    have HC := Lib.hid (fun (V : World) (hV : Below W.heap.size W V) => contains_u64 B m d ks o.key V ((hk.below hV).more hV.size) hm)
    clear hk
    go_enter Try.func27, Try.ntmps27
    go_wp2_with fail
    rw [← HW1.out]
    refine (HK.out _).mono ?_
    rintro e w2 ⟨rfl, hb2⟩
    have hb12 := hBl.trans (hb2.mono hBl.size)
    have hc2 := (hb12.cell (p := ⟨p, 0, none⟩) hp).trans hc
    have x1 := (hO.below hb2 hO.lt).cell 1
    simp only [List.getElem?_toArray, List.getElem?_cons_zero, List.getElem?_cons_succ] at x1
    clear hO
    go_wp2_with fail
    refine (HC.out _ hb12).mono ?_
    rintro e w3 ⟨rfl, rfl⟩
    go_wp2
    go_ret
    exact ⟨by simp, hb12⟩
set_option maxHeartbeats 1000000 in
theorem without_fn (i : Int) (o : SOp) (p : Nat) (B : Option Addr) (m d : Nat) (ks : List Int) (W : World) (hc : W.cell? ⟨p, 0, none⟩ = some (.slice B m d)) (hp : p < W.heap.size) (hk : Reads W W.heap.size 1 B m (ks.map (Value.int .i64))) (hm : m ≤ 65536) :
    Calls Try.prog 30 #[.int .i64 i, opV o, .pointer (some ⟨p, 0, none⟩)] W (KeepsPost W (!ks.contains o.kind)) := by
  unfold opV
  have hBl := (Below.refl W.heap.size W).alloc (Nat.le_refl _) (.cells #[.int .i64 o.kind, .int .u64 o.key, .int .u64 o.val, .int .u64 o.hash, .int .i64 o.iter] 29)
  have hc2 := (hBl.cell (p := ⟨p, 0, none⟩) hp).trans hc
  have HC := Lib.hid (contains_i64 B m d ks o.kind _ ((hk.below hBl).more hBl.size) hm)
  clear hk
  go_enter Try.func30, Try.ntmps30
  go_wp2_with fail
  refine HC.out.mono ?_
  rintro e w3 ⟨rfl, rfl⟩
  go_wp2
  go_ret
  exact ⟨by simp, hBl⟩
set_option maxHeartbeats 1000000 in
theorem writes_fn (i : Int) (o : SOp) (W : World) : Calls Try.prog 32 #[.int .i64 i, opV o] W (KeepsPost W (write o)) := by
  unfold opV
  have hBl := (Below.refl W.heap.size W).alloc (Nat.le_refl _) (.cells #[.int .i64 o.kind, .int .u64 o.key, .int .u64 o.val, .int .u64 o.hash, .int .i64 o.iter] 29)
  have HK := Lib.hid (show write o = (o.kind == 2 || o.kind == 3 || o.kind == 5) from rfl)
  have HB := Lib.hid hBl
  clear hBl
  cases h1 : (o.kind == 2) with
  | true =>
    go_enter Try.func32, Try.ntmps32
    go_wp2
    go_ret
    exact ⟨ret_bool (by rw [HK.out, h1]; rfl), HB.out⟩
  | false =>
    cases h2 : (o.kind == 3) with
    | true =>
      go_enter Try.func32, Try.ntmps32
      go_wp2
      go_ret
      exact ⟨ret_bool (by rw [HK.out, h1, h2]; rfl), HB.out⟩
    | false =>
      go_enter Try.func32, Try.ntmps32
      go_wp2
      go_ret
      exact ⟨ret_bool (by rw [HK.out, h1, h2]; rfl), HB.out⟩

set_option maxHeartbeats 1000000 in
theorem slice_Writes (A : Option Addr) (n c : Nat) (l : List SOp) (w : World) (h : Reads w w.heap.size 5 A n (opsCells l)) (hn : n ≤ 65536) :
    Calls Try.prog 18 #[.slice A n c] w (KeptPost w (l.filter write)) := by
  have HK := slice_kept A n c l w 32 #[] (fun _ o => write o) h hn (enters_of Try.func32 (by kernel_rfl) rfl) (fun W i o _ _ => writes_fn i o W)
  rw [keptF_filter] at HK
  have HK' := Lib.hid HK
  clear HK h
  go_enter Try.func18, Try.ntmps18
  go_wp2_with fail
  refine HK'.out.mono ?_
  rintro e w' ⟨v, rfl, hown, hb⟩
  go_wp2
  go_ret
  exact ⟨v, rfl, hown, hb⟩
set_option maxHeartbeats 1000000 in
theorem slice_Only (A : Option Addr) (n c : Nat) (l : List SOp) (B : Option Addr) (m d : Nat) (ks : List Int) (w : World) (h : Reads w w.heap.size 5 A n (opsCells l)) (hn : n ≤ 65536) (hk : Reads w w.heap.size 1 B m (ks.map (Value.int .u64))) (hm : m ≤ 65536) :
    Calls Try.prog 11 #[.slice A n c, .slice B m d] w (KeptPost w (l.filter fun o => !keyedP o.kind || ks.contains o.key)) := by
  have hBl := (Below.refl w.heap.size w).alloc (Nat.le_refl _) (.cells #[.slice B m d] 23)
  have hbox := (Blk.new w 23 #[.slice B m d]).cell 0
  simp only [List.getElem?_toArray, List.getElem?_cons_zero] at hbox
  have HK := slice_kept A n c l _ 27 #[.pointer (some ⟨w.heap.size, 0, none⟩)] (fun _ o => !keyedP o.kind || ks.contains o.key) ((h.below hBl).more hBl.size) hn (enters_of Try.func27 (by kernel_rfl) rfl)
    (fun W i o _ hW => only_fn i o w.heap.size B m d ks W ((hW.cell (p := ⟨w.heap.size, 0, none⟩) (by simp)).trans hbox) (by have := hW.size; simp at this; omega) (((hk.below hBl).more hBl.size |>.below hW).more hW.size) hm)
  rw [keptF_filter] at HK
  have HK' := Lib.hid HK
  clear HK h hk hbox
  go_enter Try.func11, Try.ntmps11
  go_wp2_with fail
  refine HK'.out.mono ?_
  rintro e w' ⟨v, rfl, hown, hb⟩
  go_wp2
  go_ret
  exact ⟨v, rfl, own_lower hown (by simp), hBl.trans (hb.mono (by simp))⟩
set_option maxHeartbeats 1000000 in
theorem slice_Without (A : Option Addr) (n c : Nat) (l : List SOp) (B : Option Addr) (m d : Nat) (ks : List Int) (w : World) (h : Reads w w.heap.size 5 A n (opsCells l)) (hn : n ≤ 65536) (hk : Reads w w.heap.size 1 B m (ks.map (Value.int .i64))) (hm : m ≤ 65536) :
    Calls Try.prog 15 #[.slice A n c, .slice B m d] w (KeptPost w (l.filter fun o => !ks.contains o.kind)) := by
  have hBl := (Below.refl w.heap.size w).alloc (Nat.le_refl _) (.cells #[.slice B m d] 24)
  have hbox := (Blk.new w 24 #[.slice B m d]).cell 0
  simp only [List.getElem?_toArray, List.getElem?_cons_zero] at hbox
  have HK := slice_kept A n c l _ 30 #[.pointer (some ⟨w.heap.size, 0, none⟩)] (fun _ o => !ks.contains o.kind) ((h.below hBl).more hBl.size) hn (enters_of Try.func30 (by kernel_rfl) rfl)
    (fun W i o _ hW => without_fn i o w.heap.size B m d ks W ((hW.cell (p := ⟨w.heap.size, 0, none⟩) (by simp)).trans hbox) (by have := hW.size; simp at this; omega) (((hk.below hBl).more hBl.size |>.below hW).more hW.size) hm)
  rw [keptF_filter] at HK
  have HK' := Lib.hid HK
  clear HK h hk hbox
  go_enter Try.func15, Try.ntmps15
  go_wp2_with fail
  refine HK'.out.mono ?_
  rintro e w' ⟨v, rfl, hown, hb⟩
  go_wp2
  go_ret
  exact ⟨v, rfl, own_lower hown (by simp), hBl.trans (hb.mono (by simp))⟩
end Go.Proofs.Ytoohcnjilmcimaa
