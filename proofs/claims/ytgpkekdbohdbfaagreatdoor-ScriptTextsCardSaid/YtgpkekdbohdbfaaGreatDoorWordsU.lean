/- words.Split of a text that is not too long, by its contract. -/
import Derived.Test.YtgpkekdbohdbfaaGreatDoorWordsT
namespace Go.Proofs.YtgpkekdbohdbfaaGreatDoor
open Go.RowKit AmW

/-- a round's state: k lines are done -/
structure SplitAt (E : Nat → Addr) (w W0 : World) (s : ByteArray) (R : Res) (k : Nat) (acc : List (Nat × List Bytes)) (v : Value) (wr : World) : Prop where
  res : goSplit acc (k + 1) ((lines s.data.toList).drop k) = R
  own : LinesOwn wr (w.heap.size + 1) v acc
  below : Below (w.heap.size + 1) W0 wr
  len : acc.length ≤ k

theorem cut_size {l : Bytes} {b : ByteArray} (hb : CutIs l b) (hl : l.length ≤ 60000) : b.size ≤ 70000 := by
  have : b.data.toList.length = b.size := by simp
  unfold CutIs at hb
  rw [hb] at this; omega
theorem split_below {w W0 wr w2 : World} {B B' : Nat} (_h0 : Below B w W0) (h : Below B' W0 wr) {nq : Nat} (h2 : Below (wr.drewN nq).heap.size (wr.drewN nq) w2) (hB : B' ≤ W0.heap.size) (_n : Nat) : Below B' W0 w2 :=
  (below_drewN h nq).trans (h2.mono (Nat.le_trans hB h.size))
theorem split_alloc {w : World} {base : Nat} {v : Value} {L : List (Nat × List Bts)} (h : LinesOwn w base v L) (o : Obj) : LinesOwn (w.alloc o) base v L :=
  h.below (B := w.heap.size) ((Below.refl _ _).alloc (Nat.le_refl _) o) (Nat.le_refl _)
theorem split_drewN {w : World} {base : Nat} {v : Value} {L : List (Nat × List Bts)} (h : LinesOwn w base v L) (n : Nat) : LinesOwn (w.drewN n) base v L :=
  h.below (B := w.heap.size) (below_drewN (Below.refl _ _) n) (Nat.le_refl _)
/-- a new row of texts, and the lines beside it -/
theorem split_fields {w : World} {base : Nat} {v : Value} {L : List (Nat × List Bts)} (h : LinesOwn w base v L) (hb : base ≤ w.heap.size) (r : List Bts) (hr : r.length ≤ 60000) :
    StrsOwn (w.alloc (.cells (r.map strV).toArray 9)) base (.slice (some ⟨w.heap.size, 0, none⟩) r.length r.length) r ∧ LinesOwn (w.alloc (.cells (r.map strV).toArray 9)) base v L := by
  refine ⟨?_, split_alloc h _⟩
  have := World.ownsRow_lit (base := base) (e := 9) (size := 1) w (r.map strV).toArray r.length hb (by simp only [maxLen]; omega) (by simp)
  unfold StrsOwn
  simpa using this
theorem add_pos {acc : List (Nat × List Bytes)} {n : Nat} {row : List Bytes} (h : row ≠ []) : add acc n row = acc ++ [(n, row)] := by unfold add; rw [if_neg h]
theorem add_zero (acc : List (Nat × List Bytes)) (n : Nat) : add acc n [] = acc := rfl

set_option maxHeartbeats 1000000 in
set_option maxRecDepth 100000 in
theorem words_Split_short {E : Nat → Addr} (s : ByteArray) (w : World) (hs : s.size ≤ 60000) (hE : WordsIn E w) :
    Calls Tryz.prog 12 #[.string s] w (SplitPost E w (goSplit [] 1 (lines s.data.toList))) := by
  obtain ⟨m, hm⟩ := hE.max
  have hsp := Tryz.strings_Split s ⟨#[10]⟩ m w (by omega) hm (by decide)
  have hpl : ((Lib.splitB ⟨#[10]⟩ 0 (Lib.countB s ⟨#[10]⟩) s).map (·.data.toList)) = lines s.data.toList := split_lines s
  have hlen := lines_length_le s.data.toList
  have hsl : s.data.toList.length = s.size := by simp
  have hN : (Lib.splitB ⟨#[10]⟩ 0 (Lib.countB s ⟨#[10]⟩) s).length = Lib.countB s ⟨#[10]⟩ + 1 := Lib.splitB_all ⟨#[10]⟩ (by decide) 0 _ s rfl
  generalize hps : Lib.splitB ⟨#[10]⟩ 0 (Lib.countB s ⟨#[10]⟩) s = ps at *
  generalize hcn : Lib.countB s ⟨#[10]⟩ + 1 = N at *
  clear hps hcn
  have hNl : (lines s.data.toList).length = N := by rw [← hpl, List.length_map, hN]
  generalize hRR : goSplit [] 1 (lines s.data.toList) = R
  have HR := Lib.hid hRR
  clear hRR
  obtain ⟨W0, hW0⟩ : ∃ W0, W0 = w.alloc (.cells (ps.map Value.string).toArray 9) := ⟨_, rfl⟩
  have hE0 : WordsIn E W0 := by rw [hW0]; exact hE.alloc _
  have hb0 : Below w.heap.size w W0 := by rw [hW0]; exact (Below.refl _ _).alloc (Nat.le_refl _) _
  have hz0 : W0.heap.size = w.heap.size + 1 := by rw [hW0]; simp
  have hcell : ∀ k (hk : k < N), ∃ p : ByteArray, W0.cell? ⟨w.heap.size, k, none⟩ = some (.string p) ∧ (lines s.data.toList)[k]? = some p.data.toList := by
    intro k hk
    have hkp : k < ps.length := by omega
    refine ⟨ps[k], ?_, ?_⟩
    · rw [hW0, (Blk.new w 9 (ps.map Value.string).toArray).cell, List.getElem?_toArray, List.getElem?_map, List.getElem?_eq_getElem hkp]; rfl
    · rw [← hpl, List.getElem?_map, List.getElem?_eq_getElem hkp]; rfl
  have HSp := Lib.hid hsp
  have HW0 := Lib.hid hW0
  have HC := Lib.hid hcell
  have HN := Lib.hid hNl
  have HPL := Lib.hid hpl
  have HZ := Lib.hid hz0
  have hNs : N ≤ s.size + 1 := by omega
  have hz1 : W0.heap.size ≤ w.heap.size + 1 := by omega
  have hz2 : w.heap.size + 1 ≤ W0.heap.size := by omega
  clear hsp hW0 hcell hNl hpl hz0 hm hN hlen hsl
  go_enter Tryz.func12, Tryz.ntmps12
  go_wp2_with (go_at_call 22; refine HSp.out.mono ?_; rintro e w' ⟨rfl, rfl⟩; rw [← HW0.out])
  go_loopw [5, 6, 7, 8, 16] (fun v _ _ _ i wr => ∃ (k : Nat) (acc : List (Nat × List Bytes)), k ≤ N ∧ i = .int .i64 k ∧ SplitAt E w W0 s R k acc v wr) (fun _ _ _ _ i _ => N - (intOf i).toNat)
  case atStart => exact ⟨0, [], by omega, rfl, HR.out, LinesOwn.nil _ _, Below.refl _ _, by simp⟩
  case round =>
    obtain ⟨k, acc, hk, rfl, h⟩ := hrel
    by_cases hlt : k < N
    · obtain ⟨p, hp1, hp2⟩ := HC.out k hlt
      have hc : wr.cell? ⟨w.heap.size, k, none⟩ = some (.string p) := (h.below.cell (p := ⟨w.heap.size, k, none⟩) (by simp)).trans hp1
      have hEr : WordsIn E wr := hE0.below h.below hz1
      have hpm := lines_mem _ _ (List.mem_of_getElem? hp2)
      have hps : p.size ≤ 60000 := by
        have : p.data.toList.length = p.size := by simp
        have : s.data.toList.length = s.size := by simp
        omega
      have hres := h.res
      have hd : (lines s.data.toList).drop k = p.data.toList :: (lines s.data.toList).drop (k + 1) := by
        obtain ⟨h1, h2⟩ := List.getElem?_eq_some_iff.1 hp2
        rw [List.drop_eq_getElem_cons h1, h2]
      rw [hd, goSplit_step] at hres
      have hbl := body_length p.data.toList
      have hpl2 : p.data.toList.length = p.size := by simp
      obtain ⟨m', hm'⟩ := hEr.max
      have HCut := Lib.hid (words_cut p m' wr (by omega) hm')
      have hb60 : (body p.data.toList).length ≤ 60000 := by omega
      generalize body p.data.toList = bd at *
      clear hp1 hp2 hpm hd hm' hbl hpl2
      have hown := h.own
      have hbel := h.below
      have hacc := h.len
      clear h
      cases hf : fineB bd with
      | false =>
        rw [hf, if_neg (by simp)] at hres
        have HRes := Lib.hid hres
        have HF := Lib.hid hf
        clear hres hf
        go_wp2_with (first
          | (go_at_call 23; refine HCut.out.mono ?_; rintro e w1 ⟨b, r2, r3, nq, hb, rfl, rfl⟩; have hbs := cut_size hb hb60)
          | (go_at_call 24; refine (words_fine_false b _ hbs hb HF.out).mono ?_; rintro e w2 ⟨rfl, hb2⟩; have hE2 := (hEr.drewN nq).below hb2 (Nat.le_refl _); have h3 := hE2.e3; simp only [ErrAt, gE] at h3; have hw2 := split_below hb0 hbel hb2 hz2 nq))
        go_quiet (fail)
        go_wp2
        go_ret3
        rw [← HRes.out]
        exact ⟨rfl, below_drewN (hb0.trans (hw2.mono (by omega))) _⟩
      | true =>
        rw [hf, if_pos rfl] at hres
        have hfl := fields_length_le bd
        have HF := Lib.hid hf
        clear hf
        cases hfs : Lib.fields bd with
        | nil =>
          rw [hfs, add_zero] at hres
          have HRes := Lib.hid hres
          have HFS := Lib.hid hfs
          clear hres hfs
          go_wp2_with (first
            | (go_at_call 23; refine HCut.out.mono ?_; rintro e w1 ⟨b, r2, r3, nq, hb, rfl, rfl⟩; have hbs := cut_size hb hb60)
            | (go_at_call 24; refine (words_fine_true b _ hbs hb HF.out).mono ?_; rintro e w2 ⟨rfl, hb2⟩; have hE2 := (hEr.drewN nq).below hb2 (Nat.le_refl _); have hw2 := split_below hb0 hbel hb2 hz2 nq; have hown2 := (split_drewN hown nq).below hb2 (Nat.le_refl _))
            | (go_at_call 25; refine (words_fields b bd _ hb (by omega) HF.out hE2.tab).mono ?_; rw [HFS.out]; rintro e w3 ⟨rfl, rfl⟩))
          go_roundw
          case rel => exact ⟨k + 1, acc, by omega, by go_num, HRes.out, split_alloc hown2 _, hw2.alloc (Nat.le_trans hz2 hw2.size) _, by omega⟩
          case measure => first | (simp [intOf]; done) | (simp [intOf]; omega)
        | cons f0 fr =>
          rw [hfs, add_pos (by simp)] at hres
          have HRes := Lib.hid hres
          have HFS := Lib.hid hfs
          have hpos : (0 : Int) < ((Lib.fields bd).length : Int) := by rw [hfs, List.length_cons]; omega
          have hfl6 : (Lib.fields bd).length ≤ 60000 := by omega
          clear hres hfs
          go_wp2_with (first
            | (go_at_call 23; refine HCut.out.mono ?_; rintro e w1 ⟨b, r2, r3, nq, hb, rfl, rfl⟩; have hbs := cut_size hb hb60)
            | (go_at_call 24; refine (words_fine_true b _ hbs hb HF.out).mono ?_; rintro e w2 ⟨rfl, hb2⟩; have hE2 := (hEr.drewN nq).below hb2 (Nat.le_refl _); have hw2 := split_below hb0 hbel hb2 hz2 nq; have hown2 := (split_drewN hown nq).below hb2 (Nat.le_refl _))
            | (go_at_call 25; refine (words_fields b bd _ hb (by omega) HF.out hE2.tab).mono ?_; rintro e w3 ⟨rfl, rfl⟩; have hz3 := Nat.le_trans hz2 hw2.size; have hw3 := hw2.alloc hz3 (.cells ((Lib.fields bd).map strV).toArray 9); have hF3 := split_fields hown2 hz3 (Lib.fields bd) hfl6; obtain ⟨hS3, vs, l1, l2, l3⟩ := hF3)
            | (at_builtin; refine wpList_append1 rfl rfl slty_lines l1 rfl rfl (by simp) rfl rfl (by omega) (Nat.le_trans hz2 hw3.size) ?_; intro v4 w4 hown4 hg4; have hL4 := LinesOwn.push (n := k + 1) (r := Lib.fields bd) l1 l2 l3 hS3 hown4 hg4; have hw4 := hw3.trans hg4.below; clear hown4 hg4))
          go_roundw
          case rel => exact ⟨k + 1, acc ++ [(k + 1, Lib.fields bd)], by omega, by go_num, by rw [← HRes.out, HFS.out], hL4, hw4, by simp; omega⟩
          case measure => first | (simp [intOf]; done) | (simp [intOf]; omega)
    · have hres := h.res
      rw [List.drop_eq_nil_of_le (by rw [HN.out]; omega)] at hres
      have hown := (h.own).base (base' := w.heap.size) (by omega)
      have hbel := hb0.trans (h.below.mono (by omega))
      have HRes := Lib.hid hres
      clear hres h
      go_wp2
      go_ret3
      rw [← HRes.out]
      exact ⟨_, rfl, hown, hbel⟩
end Go.Proofs.YtgpkekdbohdbfaaGreatDoor
