/- Package cache's Peek, fresh and drop by their contracts. No statement of the claim. -/
import Derived.Test.YtfcecmcnmgagnaaGreatDoorCaX
import Derived.Test.YtfcecmcnmgagnaaGreatDoorSqM
import Derived.Test.YtfcecmcnmgagnaaGreatDoorLaneQ
import Derived.Test.YtfcecmcnmgagnaaGreatDoorTabR
import Derived.Test.YtfcecmcnmgagnaaGreatDoorCoBL
import Derived.Test.YtfcecmcnmgagnaaGreatDoorCoO
namespace Go.Proofs.YtfcecmcnmgagnaaGreatDoor
set_option maxRecDepth 100000
set_option maxHeartbeats 4000000
open Go.RowKit AmC AmK
section
variable {I K M base cb k n size : Nat} {s : SlF} {F G G0 fr ids row : List Nat} {R es : List Ent} {W0 w w0 : World} {xs : List Value} {E : Nat → Addr} {H : Nat → Nat} {a : Pool} {lst : Cnt} {v : Value}
theorem info_slot : (Tryz.prog.info? 58).map (fun i => (i.zero, i.size, i.bytes)) = some (some (.agg #[.int .u64 0, .int .u64 0, .int .u64 0, .int .i64 0, .int .i64 0]), 5, 40) := by kernel_rfl
theorem slty_slot : SlTy Tryz.prog 49 58 5 40 := slTy Tryz.underlying49 info_slot rfl (by decide) (by decide)
theorem CaI.seen {c : Ends} (h : CaI c n s fr es row) (hn : (es.map Ent.key).Nodup) {e : Ent} (hl : look es k = some e) : look (row.map s.ent) k = some (s.ent e.val) ∧ e.val < n := by
 obtain ⟨A, B, hr, hk, _⟩ := h.hit hl
 have hi : e.val ∈ row := by rw [hr]; simp
 refine ⟨?_, h.lt.1 _ hi⟩
 rw [← hk]
 exact look_some (h.keys hn) (List.mem_map_of_mem hi)
theorem CaI.unseen {c : Ends} (h : CaI c n s fr es row) (hl : look es k = none) : look (row.map s.ent) k = none := look_none (h.miss hl)
theorem own_cap {g cap : Nat} {e : TypeId} (h : w.ownsRow base e size (.slice (some ⟨g, 0, none⟩) n cap) n xs) : n ≤ cap := by
 rcases h.2 with ⟨h1, _⟩ | ⟨g', cap', cur, hv, hb, hg, hnc, _⟩
 ·cases h1
 ·cases hv; exact hnc
theorem ca_Peek (h : CaAt W0 E H K M I cb F w R) (key : Nat) (h64 : H key < 18446744073709551616) : Calls Tryz.prog 9 #[.pointer (some ⟨cb, 0, none⟩), .int .u64 (key : Int), .int .u64 (H key : Int)] w fun y w' => y = .returned (getV R key) ∧ CaTo W0 E H K M I cb F w w' R := by
 obtain ⟨c, n, s, fr, G, a, ids, lst, row, h1, h2, rfl, rfl⟩ := h
 have hnd := h1.map.facts.2.1
 have h192 := h1.n192
 cases hl : look a.ents key with
 | none =>
  have hf := ca_find h1 key h64 (by rw [hl]; decide)
  rw [hl] at hf
  have hr : getV (row.map s.ent) key = .tuple #[.int .u64 0, .bool false] := by unfold getV; rw [h2.unseen hl]; rfl
  rw [hr]
  have HF := qd (show Calls Tryz.prog 14 #[.pointer (some ⟨cb, 0, none⟩), .int .u64 (key : Int), .int .u64 (H key : Int)] w (fun y w' => y = .returned (.tuple #[.int .i64 0, .bool false]) ∧ ∃ d G' lst', CaH W0 E H K M I cb (caFoot cb c G) w w' { c with last := d } n s fr G' a ids lst') from hf)
  have HI := qd h2
  clear h1 h2 hf hr hl hnd
  go_in
  go_wp2_with fail
  refine HF.out.mono ?_
  rintro y w1 ⟨rfl, d, G', lst', hh⟩
  have HN := qd hh
  clear hh HF
  go_wp2
  refine bodyPost_ret (v := .tuple #[.int .u64 0, .bool false]) (by simp [results, Tryz.results9, go_sem]) rfl ⟨rfl, HN.out.to HI.out rfl⟩
 | some e0 =>
  obtain ⟨hs, hi⟩ := h2.seen hnd hl
  have hf := ca_find h1 key h64 (by rw [hl]; show e0.val < _; omega)
  rw [hl] at hf
  obtain ⟨i, hii⟩ : ∃ i, i = e0.val := ⟨_, rfl⟩
  rw [← hii] at hs hi
  have hr : getV (row.map s.ent) key = .tuple #[.int .u64 ((s.ent i).val : Int), .bool true] := by unfold getV; rw [hs]; rfl
  rw [hr]
  have HF := qd (show Calls Tryz.prog 14 #[.pointer (some ⟨cb, 0, none⟩), .int .u64 (key : Int), .int .u64 (H key : Int)] w (fun y w' => y = .returned (.tuple #[.int .i64 (i : Int), .bool true]) ∧ ∃ d G' lst', CaH W0 E H K M I cb (caFoot cb c G) w w' { c with last := d } n s fr G' a ids lst') from hii ▸ hf)
  have HI := qd h2
  have hi0 : (0 : Int) ≤ (i : Int) := by omega
  have hi1 : (i : Int) < (n : Int) := by omega
  have Hi := qd hi
  clear h1 h2 hf hr hl hs hii hnd hi
  go_in
  go_wp2_with fail
  refine HF.out.mono ?_
  rintro y w1 ⟨rfl, d, G', lst', hh⟩
  have HN := qd hh
  obtain ⟨g, cap, hgv, hg0, hg1, p0, p1, p2, p3, p4⟩ := slot_cells hh Hi.out
  have hbk := hh.blk
  unfold CaC.cells at hbk
  have k1 := hbk.cell 1
  simp only [gl] at k1
  clear hbk
  have hgv' : c.sv = .slice (some ⟨g, 0, none⟩) n cap := hgv
  rw [hgv'] at k1
  clear hh HF hgv hgv' hg0 hg1
  go_wp2
  refine bodyPost_ret (v := .tuple #[.int .u64 ((s.ent i).val : Int), .bool true]) (by simp [results, Tryz.results9, go_sem]) rfl ⟨rfl, HN.out.to HI.out rfl⟩
theorem ca_Len (h : CaAt W0 E H K M I cb F w R) : Calls Tryz.prog 10 #[.pointer (some ⟨cb, 0, none⟩)] w fun y w' => y = .returned (.int .i64 (R.length : Int)) ∧ w = w' := by
 obtain ⟨c, n, s, fr, G, a, ids, lst, row, h1, h2, rfl, rfl⟩ := h
 have := h2.ents.length_eq
 rw [List.length_map] at this ⊢
 rw [← this]
 exact ca_LenH h1
theorem ca_fresh_pop {c : CaC} {i : Nat} (h : CaH W0 E H K M I cb G0 w0 w c n s (fr ++ [i]) G a ids lst) (hlen0 : fr.length + 1 ≤ n) : Calls Tryz.prog 18 #[.pointer (some ⟨cb, 0, none⟩)] w fun y w' => y = .returned (.int .i64 (i : Int)) ∧ ∃ fv', CaH W0 E H K M I cb G0 w0 w' { c with fv := fv' } n s fr G a ids lst := by
 obtain ⟨g, cap, hfv⟩ : ∃ g cap, c.fv = .slice (some ⟨g, 0, none⟩) (fr.length + 1) cap := by
  have h1 := h.fre
  rw [List.length_append] at h1
  obtain ⟨g, cap, h2, _⟩ := h1.form (by simp)
  exact ⟨g, cap, h2⟩
 obtain ⟨m, hm0⟩ : ∃ m, m = fr.length := ⟨_, rfl⟩
 have hfre := h.fre
 rw [hfv, List.length_append] at hfre
 have hcap := own_cap hfre
 have hc0 := hfre.cellAt fr.length (by simp)
 have hcell : w.cell? ⟨g, m, none⟩ = some (.int .i64 (i : Int)) := by
  rw [hm0, hc0]; unfold nums; simp
 have hpop : w.ownsRow W0.heap.size 3 1 (.slice (some ⟨g, 0, none⟩) fr.length cap) fr.length (nums fr) := ownsRow_pop (last := [.int .i64 (i : Int)]) (by unfold nums; simp) (by unfold nums at hfre ⊢; simpa using hfre)
 have hlen := hlen0
 have h192 := h.n192
 rw [← hm0] at hfv hcap hpop hlen
 have hq0 : (0 : Int) ≤ (m : Int) := by omega
 have hq1 : (m : Int) < ((m + 1 : Nat) : Int) := by omega
 have hq1b : (m : Int) < (m : Int) + 1 := by omega
 have hq2 : (m : Int) ≤ (cap : Int) := by omega
 have hqw : IntKind.i64.wrap (((m + 1 : Nat) : Int) - 1) = (m : Int) := by rw [IntKind.wrap_i64]; omega
 have hqwb : IntKind.i64.wrap ((m : Int) + 1 - 1) = (m : Int) := by rw [IntKind.wrap_i64]; omega
 have hw64 : wrap64 (m : Int) = (m : Int) := by unfold wrap64; first | omega | (split <;> omega)
 have hbk := h.blk
 unfold CaC.cells at hbk
 have k2 := hbk.cell 2
 simp only [gl] at k2
 have kf2 := hbk.frozen 2
 clear hbk
 rw [hfv] at k2
 have hbk := h.blk
 unfold CaC.cells at hbk
 have hnew := hbk.set_ 2 (.slice (some ⟨g, 0, none⟩) m cap)
 have hm := (Mod.refl [cb] w).sl 2 (.slice (some ⟨g, 0, none⟩) m cap)
 simp only [pt] at hnew
 have hfg : c.fv.ownBlock = some g := by rw [hfv]; rfl
 have hN := h.make (c' := { c with fv := .slice (some ⟨g, 0, none⟩) m cap }) (s' := s) (n' := n) (fr' := fr) (by unfold CaC.cells; exact hnew) rfl (ca_keep h.sl hm (fun q hq hs => (h.apS q hq).1 (List.mem_singleton.1 hs)))
  (hm0 ▸ ca_keep hpop hm (fun q hq hs => (h.apF q (by rw [hfg]; exact hq)).1 (List.mem_singleton.1 hs))) hm (fun q hq => .inl (List.mem_singleton.1 hq)) (.inl rfl) (.inl (by rw [hfg]; rfl)) (.inl rfl) (fun j hj => h.frn j (by simp [hj])) h.n192
 have HN := qd hN
 clear h hfre hcap hc0 hpop hbk hnew hm hfg hN hm0 hfv hlen h192 hlen0
 go_in
 go_wp2
 go_ret
 exact ⟨rfl, _, HN.out⟩
theorem own_some' {e : TypeId} (h : w.ownsRow base e size v n xs) (hn : 0 < n) : ∃ g cap, v = .slice (some ⟨g, 0, none⟩) n cap := by
 obtain ⟨g, cap, h1, _⟩ := h.form hn
 exact ⟨g, cap, h1⟩
theorem grow_modS {w' : World} {v' : Value} (h : Grew w base v w' v') : Mod v.ownBlock.toList w w' :=
 ⟨h.by_.os, h.by_.tape, h.by_.output, h.by_.size, fun k hk hn => h.by_.block k hk (fun e => hn (by simp [e]))⟩
theorem ca_fresh_new {c : CaC} (h : CaH W0 E H K M I cb G0 w0 w c n s [] G a ids lst) (hn : n + 1 ≤ 192) : Calls Tryz.prog 18 #[.pointer (some ⟨cb, 0, none⟩)] w fun y w' => y = .returned (.int .i64 (n : Int)) ∧ ∃ sv', CaH W0 E H K M I cb G0 w0 w' { c with sv := sv' } (n + 1) (zeroS s n) [] G a ids lst := by
 obtain ⟨A, c0, hfv⟩ := own_form h.fre
 obtain ⟨B, b0, hsv⟩ := own_form h.sl
 have hsl := h.sl
 have h192 := h.n192
 have hbs := h.le0
 have hsz := h.mod.size
 have hqw : IntKind.i64.wrap (0 - 1) = -1 := by rw [IntKind.wrap_i64]; decide
 have hqwb : IntKind.i64.wrap (-1) = -1 := by rw [IntKind.wrap_i64]; decide
 have hqwc : wrap64 (-1) = -1 := by unfold wrap64; omega
 have hbk := h.blk
 unfold CaC.cells at hbk
 have k1 := hbk.cell 1
 have k2 := hbk.cell 2
 simp only [gl] at k1 k2
 have kf1 := hbk.frozen 1
 clear hbk
 have hfl : c.fv = .slice A 0 c0 := hfv
 rw [hfl] at k2
 rw [hsv] at k1
 rw [hsv] at hsl
 have HS := qd hsl
 have HH := qd h
 have Hsv := qd hsv
 clear h hsl hfv hfl hsv
 go_in
 have hne : some cb ≠ (Value.slice B n b0).ownBlock := fun e => (HH.out.apS cb (by rw [Hsv.out]; exact e.symm)).1 rfl
 have Hne := qd hne
 clear hne
 go_upto_region 7 with (at_builtin; refine wpList_append1 rfl rfl slty_slot HS.out rfl rfl rfl rfl rfl (by omega) (by omega) ?_; intro v7 w7 ho7 hg7; obtain ⟨g, cap, hv7⟩ := own_some' ho7 (by omega); subst hv7; have qf1 := (HH.out.blk.grown hg7.by_ Hne.out).frozen 1; have q1 := (HH.out.blk.grown hg7.by_ Hne.out).cell 1; have HO7 := qd ho7; have HG7 := qd hg7; clear ho7 hg7; unfold CaC.cells at q1; simp only [gl] at q1)
 have ho7 := HO7.out
 have hg7 := HG7.out
 have hm7 := grow_modS hg7
 have hbk := HH.out.blk.grown hg7.by_ Hne.out
 unfold CaC.cells at hbk
 have hnew := hbk.set_ 1 (.slice (some ⟨g, 0, none⟩) (n + 1) cap)
 simp only [pt] at hnew
 have hmb : Mod (cb :: (Value.slice B n b0).ownBlock.toList) w (w7.setCell ⟨cb, 1, none⟩ (.slice (some ⟨g, 0, none⟩) (n + 1) cap)) := (hm7.more (fun q hq => List.mem_cons_of_mem _ hq)).sl 1 _
 have hgo : g ≠ cb := by
  rcases hg7.at_ with e | ⟨g', e, hl⟩
  ·exact (HH.out.apS g (by rw [Hsv.out]; exact e.symm)).1
  ·have e1 : some g = some g' := e
   injection e1 with e1
   have := HH.out.blk.lt
   omega
 have hsl7 : (w7.setCell ⟨cb, 1, none⟩ (.slice (some ⟨g, 0, none⟩) (n + 1) cap)).ownsRow W0.heap.size 58 5 (.slice (some ⟨g, 0, none⟩) (n + 1) cap) (n + 1) (rows (zeroS s n).cells (n + 1)) := by
  have hm1 : Mod [cb] w7 (w7.setCell ⟨cb, 1, none⟩ (.slice (some ⟨g, 0, none⟩) (n + 1) cap)) := (Mod.refl [cb] w7).sl 1 _
  have e1 : rows (zeroS s n).cells (n + 1) = rows s.cells n ++ #[.int .u64 0, .int .u64 0, .int .u64 0, .int .i64 0, .int .i64 0].toList := by
   rw [rows_succ, rows_congr (g := s.cells) fun k hk => ?_]
   ·congr 1
    unfold SlF.cells zeroS
    simp only [upd_self]
    rfl
   ·unfold SlF.cells zeroS
    simp only [upd_ne _ _ (by omega : k ≠ n)]
  rw [e1]
  exact ca_keep ho7 hm1 (fun q hq hs => by cases hq; exact hgo (List.mem_singleton.1 hs))
 have hN := HH.out.make (c' := { c with sv := .slice (some ⟨g, 0, none⟩) (n + 1) cap }) (s' := zeroS s n) (n' := n + 1) (fr' := []) (by unfold CaC.cells; exact hnew) rfl hsl7
  (ca_keep HH.out.fre hmb (fun q hq hs => by
   rcases List.mem_cons.1 hs with e | e
   ·exact (HH.out.apF q hq).1 e
   ·exact (HH.out.apF q hq).2.2 (by rw [Hsv.out]; exact Option.mem_toList.1 e)))
  hmb (fun q hq => by
   rcases List.mem_cons.1 hq with e | e
   ·exact .inl e
   ·exact .inr (.inl (by rw [Hsv.out]; exact Option.mem_toList.1 e)))
  (by rcases hg7.at_ with e | ⟨g', e, hl⟩; exact .inl (by rw [Hsv.out]; exact e); exact .inr ⟨g', e, hl⟩) (.inl rfl) (.inr rfl) (by simp) (by omega)
 have HN := qd hN
 have hqn : IntKind.i64.wrap (((n + 1 : Nat) : Int) - 1) = (n : Int) := by rw [IntKind.wrap_i64]; omega
 have hw64 : wrap64 (n : Int) = (n : Int) := by unfold wrap64; first | omega | (split <;> omega)
 have hqnb : IntKind.i64.wrap ((n : Int) + 1 - 1) = (n : Int) := by rw [IntKind.wrap_i64]; omega
 have z1 := HN.out.blk.cell 1
 unfold CaC.cells at z1
 simp only [gl] at z1
 clear hbk hnew hmb hgo hsl7 hN hm7 hg7 ho7 k1 k2 kf1 q1 qf1
 go_wp2
 go_ret
 exact ⟨rfl, _, HN.out⟩
end
section
variable {W0 w w' w0 : World} {E : Nat → Addr} {H : Nat → Nat} {I K M cb n n' : Nat} {G G' G0 fr fr' ids ids' : List Nat} {c c' : CaC} {s s' : SlF} {a a' : Pool} {lst lst' : Cnt}
theorem CaH.chain (h : CaH W0 E H K M I cb G0 w0 w c n s fr G a ids lst) (k : CaH W0 E H K M I cb (caFoot cb c G) w w' c' n' s' fr' G' a' ids' lst') : CaH W0 E H K M I cb G0 w0 w' c' n' s' fr' G' a' ids' lst' :=
 ⟨k.blk, k.map, k.sl, k.fre, k.b0, k.apS, k.apF, k.apB, k.frn, k.n192, fun q hq => (k.sub q hq).elim (fun g => h.sub q g) (fun g => .inr (by have := h.mod.size; omega)), h.mod.within k.mod h.sub, h.le0⟩
theorem CaH.apart (k : CaH W0 E H K M I cb (caFoot cb c G) w w' c' n' s' fr' G' a' ids' lst') {x : Nat} (hx : x ∉ caFoot cb c G ∧ x < w.heap.size) : x ∉ caFoot cb c' G' ∧ x < w'.heap.size :=
 ⟨fun hq => (k.sub x hq).elim hx.1 (fun g => by have := hx.2; omega), by have := k.mod.size; have := hx.2; omega⟩
theorem ca_drop (h : CaH W0 E H K M I cb G0 w0 w c n s fr G a ids lst) {i : Nat} (hi : i < n) (hfl0 : fr.length + 1 ≤ 192) (hnw : ∀ j, s.nw i = some j → j < n) (hod : ∀ j, s.od i = some j → j < n) (he : EntOk H ⟨(s.ent i).key, 0, (s.ent i).hash⟩) : Calls Tryz.prog 17 #[.pointer (some ⟨cb, 0, none⟩), .int .i64 (i : Int)] w fun y w' => y = .returned (.int .u64 ((s.ent i).key : Int)) ∧ ∃ fv' d G' a' ids' lst', CaH W0 E H K M I cb G0 w0 w' { c with e := leaveE c.e s i, fv := fv', last := d } n (leaveS s i) (fr ++ [i]) G' a' ids' lst' ∧ a'.ents.Perm (rest a.ents (s.ent i).key) := by
 obtain ⟨g, cap, hgv, hg0, hg1, p0, p1, p2, p3, p4⟩ := slot_cells h hi
 have hi0 : (0 : Int) ≤ (i : Int) := by omega
 have hi1 : (i : Int) < (n : Int) := by omega
 have hbk := h.blk
 unfold CaC.cells at hbk
 have k1 := hbk.cell 1
 simp only [gl] at k1
 clear hbk
 rw [hgv] at k1
 have hx0 := h.below ((Below.refl w.heap.size w).alloc (Nat.le_refl _) (.cells #[.int .u64 ((s.ent i).key : Int), .int .u64 ((s.ent i).val : Int), .int .u64 ((s.ent i).hash : Int)] 35))
 have hX0 := Blk.new w 35 #[.int .u64 ((s.ent i).key : Int), .int .u64 ((s.ent i).val : Int), .int .u64 ((s.ent i).hash : Int)]
 have HXn := qd (show w.heap.size ∉ caFoot cb c G ∧ w.heap.size < (w.alloc (.cells #[.int .u64 ((s.ent i).key : Int), .int .u64 ((s.ent i).val : Int), .int .u64 ((s.ent i).hash : Int)] 35)).heap.size from ⟨fun hq => by have := (h.lts _ hq).1; omega, by simp⟩)
 have Hnw := qd hnw
 have Hod := qd hod
 have Hi := qd hi
 have HEk := qd he
 clear h hnw hod hi he hgv
 go_in
 go_upto_region 2 with fail
 refine nameC (F := fun v => CaH W0 E H K M I cb G0 w0 v c n s fr G a ids lst ∧ Blk v w.heap.size 35 #[.int .u64 ((s.ent i).key : Int), .int .u64 ((s.ent i).val : Int), .int .u64 ((s.ent i).hash : Int)] ∧ (w.heap.size ∉ caFoot cb c G ∧ w.heap.size < v.heap.size)) ⟨hx0, hX0, HXn.out⟩ ?_
 clear hx0 hX0 HXn k1 p0 p1 p2 p3 p4 hg0 hg1
 obtain ⟨xb, hxb⟩ : ∃ xb, xb = w.heap.size := ⟨_, rfl⟩
 rw [← hxb]
 clear hxb
 rintro w1 ⟨hh, hx, hn⟩
 have HL := qd (ca_leave hh.again Hi.out Hnw.out Hod.out)
 have HH := qd hh
 have HX := qd hx
 have HXn := qd hn
 clear hh hx hn
 go_wp2_with fail
 refine HL.out.mono ?_
 rintro y w2 ⟨rfl, h2⟩
 replace HX := qd (HX.out.mod h2.mod HXn.out.1)
 replace HXn := qd (h2.apart HXn.out)
 replace HH := qd (HH.out.chain h2)
 clear h2 HL
 obtain ⟨A, c0, hfv⟩ := own_form HH.out.fre
 have hfv0 : c.fv = .slice A fr.length c0 := hfv
 have hbk := HH.out.blk
 unfold CaC.cells at hbk
 have k2 := hbk.cell 2
 simp only [gl] at k2
 have kf2 := hbk.frozen 2
 clear hbk
 rw [hfv0] at k2
 have hfre := HH.out.fre
 have hfv1 : (({ c with e := leaveE c.e s i } : CaC)).fv = .slice A fr.length c0 := hfv
 rw [hfv1] at hfre
 have HF := qd hfre
 have Hfv := qd hfv0
 have h192 := HH.out.n192
 have hfl : fr.length ≤ n ∨ True := .inr trivial
 have hbs := HH.out.le0
 have hsz := HH.out.mod.size
 have Hne := qd (show some cb ≠ (Value.slice A fr.length c0).ownBlock from fun e => (HH.out.apF cb (by rw [hfv1]; exact e.symm)).1 rfl)
 have hflen := hfl0
 clear hfv hfv0 hfre hfv1 hfl
 go_upto_region 4 with (at_builtin; refine wpList_append1 rfl rfl slty_int HF.out rfl rfl rfl rfl rfl (by omega) (by omega) ?_; intro v7 w7 ho7 hg7; obtain ⟨g2, cap2, hv7⟩ := own_some' ho7 (by omega); subst hv7; have qf2 := (HH.out.blk.grown hg7.by_ Hne.out).frozen 2; have q2 := (HH.out.blk.grown hg7.by_ Hne.out).cell 2; have HO7 := qd ho7; have HG7 := qd hg7; clear ho7 hg7; unfold CaC.cells at q2; simp only [gl] at q2)
 have ho7 := HO7.out
 have hg7 := HG7.out
 have hm7 := grow_modS hg7
 have hbk := HH.out.blk.grown hg7.by_ Hne.out
 unfold CaC.cells at hbk
 have hnew := hbk.set_ 2 (.slice (some ⟨g2, 0, none⟩) (fr.length + 1) cap2)
 simp only [pt] at hnew
 have hmb : Mod (cb :: (Value.slice A fr.length c0).ownBlock.toList) w2 (w7.setCell ⟨cb, 2, none⟩ (.slice (some ⟨g2, 0, none⟩) (fr.length + 1) cap2)) := (hm7.more (fun q hq => List.mem_cons_of_mem _ hq)).sl 2 _
 have hgo : g2 ≠ cb := by
  rcases hg7.at_ with e | ⟨g', e, hl⟩
  ·exact (HH.out.apF g2 (by rw [show ({ c with e := leaveE c.e s i } : CaC).fv = c.fv from rfl, Hfv.out]; exact e.symm)).1
  ·have e1 : some g2 = some g' := e
   injection e1 with e1
   have := HH.out.blk.lt
   omega
 have hf7 : (w7.setCell ⟨cb, 2, none⟩ (.slice (some ⟨g2, 0, none⟩) (fr.length + 1) cap2)).ownsRow W0.heap.size 3 1 (.slice (some ⟨g2, 0, none⟩) (fr.length + 1) cap2) (fr ++ [i]).length (nums (fr ++ [i])) := by
  have hm1 : Mod [cb] w7 (w7.setCell ⟨cb, 2, none⟩ (.slice (some ⟨g2, 0, none⟩) (fr.length + 1) cap2)) := (Mod.refl [cb] w7).sl 2 _
  have e1 : nums (fr ++ [i]) = nums fr ++ #[Value.int .i64 (i : Int)].toList := by unfold nums; simp
  rw [e1, List.length_append]
  exact ca_keep ho7 hm1 (fun q hq hs => by cases hq; exact hgo (List.mem_singleton.1 hs))
 have hN := HH.out.again.make (c' := { c with e := leaveE c.e s i, fv := .slice (some ⟨g2, 0, none⟩) (fr.length + 1) cap2 }) (s' := leaveS s i) (n' := n) (fr' := fr ++ [i]) (by unfold CaC.cells; exact hnew) rfl
  (ca_keep HH.out.sl hmb (fun q hq hs => by
   rcases List.mem_cons.1 hs with e | e
   ·exact (HH.out.apS q hq).1 e
   ·exact (HH.out.apF q (by rw [show ({ c with e := leaveE c.e s i } : CaC).fv = c.fv from rfl, Hfv.out]; exact Option.mem_toList.1 e)).2.2 hq)) hf7
  hmb (fun q hq => by
   rcases List.mem_cons.1 hq with e | e
   ·exact .inl e
   ·exact .inr (.inr (by rw [show ({ c with e := leaveE c.e s i } : CaC).fv = c.fv from rfl, Hfv.out]; exact Option.mem_toList.1 e)))
  (.inl rfl) (by rcases hg7.at_ with e | ⟨g', e, hl⟩; exact .inl (by rw [show ({ c with e := leaveE c.e s i } : CaC).fv = c.fv from rfl, Hfv.out]; exact e); exact .inr ⟨g', e, hl⟩) (.inl rfl)
  (fun j hj => by rcases List.mem_append.1 hj with k | k; exact HH.out.frn j k; rw [List.mem_singleton.1 k]; exact Hi.out) (by omega)
 refine nameC (F := fun v => CaH W0 E H K M I cb (caFoot cb { c with e := leaveE c.e s i } G) w2 v { c with e := leaveE c.e s i, fv := .slice (some ⟨g2, 0, none⟩) (fr.length + 1) cap2 } n (leaveS s i) (fr ++ [i]) G a ids lst) hN ?_
 clear hN hf7 hgo hmb hnew hbk hm7 hg7 ho7 HO7 HG7 q2 qf2 k2 kf2
 rintro w4 h4
 replace HX := qd (HX.out.mod h4.mod HXn.out.1)
 replace HXn := qd (h4.apart HXn.out)
 replace HH := qd (HH.out.chain h4)
 clear h4
 have hhd := HH.out.below (Below.refl _ _).drew
 have HDe := qd (rt_Delete hhd.map ⟨(s.ent i).key, 0, (s.ent i).hash⟩ HEk.out)
 have HD := qd hhd
 have hbk := HH.out.blk
 unfold CaC.cells at hbk
 have k0 := hbk.cell 0
 simp only [gl] at k0
 clear hbk
 have x0 := HX.out.cell 0
 have x2 := HX.out.cell 2
 simp only [gl] at x0 x2
 clear hhd
 go_upto_region 4 with fail
 refine rT (fun (w' : World) => w'.cell? ⟨cb, 0, none⟩ = some (.pointer (some ⟨c.pb, 0, none⟩)) ∧ w'.cell? ⟨xb, 0, none⟩ = some (.int .u64 ((s.ent i).key : Int)) ∧ w'.cell? ⟨xb, 2, none⟩ = some (.int .u64 ((s.ent i).hash : Int))) [8] ?_
 have hHeld := (⟨k0, x0, x2⟩ : _ ∧ _ ∧ _)
 refine vW 0 rfl ?_
 refine vW 1 rfl ?_
 refine vW 2 rfl ?_
 refine vT 3 rfl ?_
 refine vW 4 rfl ?_
 refine vT 5 rfl ?_
 refine vW 6 rfl ?_
 refine vT 7 rfl ?_
 refine nT 8 rfl fun K hK => ?_
 go_simp
 refine HDe.out.mono ?_
 rintro y w5 ⟨rfl, a', ids', lst', hto, hpe⟩
 refine kO hK ?_
 clear hK K
 refine doneT (by kernel_rfl) ?_ _
 obtain ⟨G', h5⟩ := HD.out.again.setM hto
 have HP := qd hpe
 replace HX := qd ((show Blk w4.drew xb 35 #[.int .u64 ((s.ent i).key : Int), .int .u64 ((s.ent i).val : Int), .int .u64 ((s.ent i).hash : Int)] from HX.out).mod h5.mod HXn.out.1)
 replace HXn := qd (h5.apart (x := xb) HXn.out)
 replace HH := qd (HD.out.chain h5)
 have HCo := qd (ca_count HH.out.again)
 clear hto hpe h5 k0 x0 x2 HDe HD
 go_wp2_with fail
 refine HCo.out.mono ?_
 rintro y w6 ⟨rfl, d, h6⟩
 replace HX := qd (HX.out.mod h6.mod HXn.out.1)
 replace HH := qd (HH.out.chain h6)
 have x0 := HX.out.cell 0
 have x2 := HX.out.cell 2
 simp only [gl] at x0 x2
 clear h6 HCo
 go_wp2
 go_ret
 exact ⟨rfl, _, _, _, _, _, _, HH.out, HP.out⟩
end
end Go.Proofs.YtfcecmcnmgagnaaGreatDoor
