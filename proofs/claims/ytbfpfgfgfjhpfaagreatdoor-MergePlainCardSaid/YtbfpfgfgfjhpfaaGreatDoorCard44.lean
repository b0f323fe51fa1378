/- MergePlain: the law's row and its tied card. -/
import Derived.Test.YtbfpfgfgfjhpfaaGreatDoorProof44
import Derived.Test.YtbfpfgfgfjhpfaaGreatDoorCards
import Derived.Test.YtbfpfgfgfjhpfaaGreatDoorTie
import Derived.Lay
namespace Go.Proofs.YtbfpfgfgfjhpfaaGreatDoor.p44
set_option maxRecDepth 100000
open Go.ChangeShapes Go.WideShapes Go.ChangeAt Go.RowKit
theorem lifted (os:Os)(started:os.Started)(H:Type)(enc:TypeId×Value→H):
  ReturnsInHanded {} Tryz.checked os 3 .any (fun w args=>(Rows.mergePlainSpec.pre enc Tryz.prog Tryz.f3 [] false w args∧laidMetH Tryz.prog Rows.mergePlainRow.laid w)∧sizedMet enc Tryz.prog Tryz.f3 (OpenSpec.ofChange Rows.mergePlainSpec) false w args)
   (Rows.mergePlainSpec.post enc Tryz.prog Tryz.f3 false true false false):=by
 refine QW (C:=Tryz.checked) (X:=fun w _=>laidMetH Tryz.prog Rows.mergePlainRow.laid w) (fun _ _ _ hh h=>h.of_heap hh) own started (by kernel_rfl) Tryz.func3
  (ChangeSpec.witness_shaped (enc:=enc) (C:=Tryz.checked) (os:=os) (X:=fun w _=>laidMetH Tryz.prog Rows.mergePlainRow.laid w) false (World.laidAll Tryz.prog os Rows.mergePlainRow.laid) #[.slice none 0 0,.slice none 0 0,.int .i64 0] 8 (World.laidAll_os _ _ _)
   (World.shaped_of_ZipB (by kernel_rfl) (by kernel_rfl)) (by kernel_rfl) (by kernel_rfl) (by kernel_rfl)
   (by rw[MakeChecks.laidMetH_plain _ _ _ (by kernel_rfl)];exact laidMet_laidAll _ (by kernel_rfl) (by kernel_rfl))) ?_
 intro W base args ds gs before hval hW _ hL _;exact contract H enc W base args ds gs before hval hW hL
theorem said:Rows.MergePlainSaid:=
 OpenClaim.holds_of_wide 3 Tryz.f3 rfl rfl rfl rfl rfl rfl rfl ⟨rfl,rfl,rfl,rfl,rfl⟩ rfl rfl rfl rfl rfl (by kernel_rfl) Tryz.func3 (by kernel_rfl)
  (of_decide_eq_true (by kernel_rfl)) (by unfold Func.isWrapper;first|(rw[if_pos (by decide+kernel)];kernel_rfl)|(rw[if_neg (by decide+kernel)];exact⟨rfl,rfl⟩))
  (fun os started H enc _=>lifted os started H enc)
theorem plain (f:FuncId)(fn:Func)(hf:Tryz.pinned.checked.prog.funcNamed "ambler/amblerlaw44.MergePlain" =some f)(hfn:Tryz.pinned.checked.prog.funcs[f]?=some fn):
  true=Tryz.pinned.checked.prog.looks []∧∀(j:Nat) t,fn.params[j]?=some t→Tryz.pinned.checked.prog.wantsStandIn t=false:=by
 obtain rfl:f=3 :=Option.some.inj ((show Tryz.prog.funcNamed "ambler/amblerlaw44.MergePlain" =some 3 by kernel_rfl).symm.trans hf)|>.symm
 obtain rfl:fn=Tryz.f3 :=(Option.some.inj (Tryz.func3.symm.trans hfn)).symm;refine⟨by kernel_rfl,fun j t ht=> ?_⟩;rw[Tryz.params3]at ht;have h:=Array.mem_of_getElem? ht;simp only[List.mem_toArray,List.mem_cons,List.not_mem_nil,or_false]at h;rcases h with rfl|rfl|rfl
 ·exact(show Tryz.prog.wantsStandIn 22 =false by kernel_rfl)
 ·exact(show Tryz.prog.wantsStandIn 22 =false by kernel_rfl)
 ·exact(show Tryz.prog.wantsStandIn 3 =false by kernel_rfl)
theorem card:Rows.MergePlainCardSaid:=
 Claim7.holds_tied_plain_at .later [] _ _ _ _ said (fun _ h=>by cases h) (by kernel_rfl) (fun _ h=>by cases h) mergePlain_row_tie rfl ⟨rfl,rfl⟩ (by kernel_rfl) rfl plain (by kernel_rfl)
#print axioms card
end Go.Proofs.YtbfpfgfgfjhpfaaGreatDoor.p44
