/- slices.SortFunc at pairs, off the shelf. -/
import Derived.Test.YtflbmgpmnocnbaaGreatDoorFmD
import Derived.Test.YtflbmgpmnocnbaaGreatDoorLaneP
import Derived.Test.YtflbmgpmnocnbaaGreatDoorSortL
import Derived.Shelf.SlSortCmp.WholeK
namespace Go.Proofs.YtflbmgpmnocnbaaGreatDoor
set_option maxRecDepth 100000
set_option maxHeartbeats 4000000
open Go.RowKit AmC AmF
open Go.Sort (Holds PermIn SortedIn HoldsK grow grow_grow alloc_eq_grow)
theorem isNaN_u64 (x:Int)(w:World):Calls Tryz.prog 46 #[.int .u64 x] w fun y w'=>y= .returned (.bool false)∧w=w':=by
 go_in;go_wp2;go_ret;exact⟨by simp,rfl⟩
theorem compare_u64 (x y:Nat×Nat)(w:World):Calls Tryz.prog 42 #[.int .u64 (x.1:Int),.int .u64 (y.1:Int)] w fun e w'=>e= .returned (.int .i64 (cmpP x y))∧w=w':=by
 have HN:=qd (fun(z:Int) (W:World)=>isNaN_u64 z W);by_cases h1:x.1<y.1
 ·have h1':(x.1:Int)<(y.1:Int):=by omega
  have hv:cmpP x y= -1:=by unfold cmpP;rw[if_pos h1]
  rw[hv];clear hv h1;go_in;go_wp2_with fail;refine(HN.out _ _).mono ?_;rintro e wq ⟨rfl,rfl⟩;go_wp2_with fail;refine(HN.out _ _).mono ?_;rintro e wq ⟨rfl,rfl⟩;go_wp2;go_ret;exact⟨rfl,rfl⟩
 ·have h1':¬(x.1:Int)<(y.1:Int):=by omega
  by_cases h2:y.1<x.1
  ·have h2':(y.1:Int)<(x.1:Int):=by omega
   have hv:cmpP x y=1:=by unfold cmpP;rw[if_neg h1,if_pos h2]
   rw[hv];clear hv h1 h2;go_in;go_wp2_with fail;refine(HN.out _ _).mono ?_;rintro e wq ⟨rfl,rfl⟩;go_wp2_with fail;refine(HN.out _ _).mono ?_;rintro e wq ⟨rfl,rfl⟩;go_wp2;go_ret;exact⟨rfl,rfl⟩
  ·have h2':¬(y.1:Int)<(x.1:Int):=by omega
   have hv:cmpP x y=0:=by unfold cmpP;rw[if_neg h1,if_neg h2]
   rw[hv];clear hv h1 h2;go_in;go_wp2_with fail;refine(HN.out _ _).mono ?_;rintro e wq ⟨rfl,rfl⟩;go_wp2_with fail;refine(HN.out _ _).mono ?_;rintro e wq ⟨rfl,rfl⟩;go_wp2;go_ret;exact⟨rfl,rfl⟩
theorem raw_cmp (x y:Nat×Nat)(W:World):Calls Tryz.prog 41 #[.agg #[.int .u64 (x.1:Int),.int .u64 (x.2:Int)],.agg #[.int .u64 (y.1:Int),.int .u64 (y.2:Int)]] W fun e w'=>e= .returned (.int .i64 (cmpP x y))∧∃q os',w'=grow (W.drewN q) os':=by
 have HC:=qd (fun(W:World)=>compare_u64 x y W);go_in;go_wp2_with fail;refine(HC.out _).mono ?_;rintro e wq ⟨rfl,rfl⟩;go_wp2;go_ret;exact⟨rfl,0,_,by rw[alloc_eq_grow,alloc_eq_grow,grow_grow];rfl⟩
theorem aggPair (w:World):(isAgg 60).run Tryz.prog w= .ok true w:=by kernel_rfl
theorem sizePair (w:World):(Go.sizeOf 60).run Tryz.prog w= .ok 2 w:=by kernel_rfl
theorem insertion_none (p:Option Addr)(cap:Nat)(fv:Value)(w:World):Calls Tryz.prog 104 #[.slice p 0 cap,.int .i64 0,.int .i64 0,fv] w fun e w'=>e= .returned (.tuple #[])∧w'=w:=by
 go_in;go_wp2;refine wp_loop_rounds 1 ?_;rw[rounds_succ];go_wp2;go_end0;exact⟨rfl,rfl⟩
theorem pdq_none (p:Option Addr)(cap:Nat)(lim:Int)(fv:Value)(w:World):Calls Tryz.prog 69 #[.slice p 0 cap,.int .i64 0,.int .i64 0,.int .i64 lim,fv] w fun e w'=>e= .returned (.tuple #[])∧w'=w:=by
 have hi:=fun W=>insertion_none p cap fv W;go_in;go_wp2;refine wp_loop_rounds 1 ?_;rw[rounds_succ];go_wp2_with fail;refine(hi _).mono ?_;rintro e w' ⟨rfl,rfl⟩;go_wp2
 (try simp only[Exit.inBlock,Exit.then]);refine bodyPost_ret (results_none rfl _ _ _) rfl ?_
 exact⟨rfl,rfl⟩
theorem len_zero (w:World):Calls Tryz.prog 70 #[.int .u64 0] w fun e w'=>e= .returned (.int .i64 0)∧w'=w:=by have h:=Any.bits_Len (SlLaysF0.n15.bits {Tryz.sortPair with}) 0 w (by omega) (by omega);exact h
theorem sort_none (p:Option Addr)(cap:Nat)(fv:Value)(w:World):Calls Tryz.prog 40 #[.slice p 0 cap,fv] w fun e w'=>e= .returned (.tuple #[])∧w'=w:=by
 have hp:=fun lim W=>pdq_none p cap lim fv W;have hl:=fun W=>len_zero W;go_in;go_wp2_with fail;refine(hl _).mono ?_;rintro e w' ⟨rfl,rfl⟩;go_wp2_with fail;refine(hp _ _).mono ?_;rintro e w' ⟨rfl,rfl⟩;go_wp2;go_end0;exact⟨rfl,rfl⟩
theorem sort_some {blk off cap:Nat}{d:Array (Nat×Nat)}{w:World}(hH:HoldsK pC 2 w blk off d)(hblk:blk<w.heap.size)(hsz:d.size<4611686018427387904):Calls Tryz.prog 40 #[.slice (some ⟨blk,off,none⟩) d.size cap,.func (.func 41) #[] #[]] w fun e w'=>
  e= .returned (.tuple #[])∧∃d' n os,PermIn 0 d.size d d'∧SortedIn (ltOf cmpP) 0 d.size d'∧w'=sortWorldK pC 2 w blk off n d' os:=AnyQ.slices_SortFunc Tryz.sortPair 2 aggPair sizePair pC (fun _=>rfl) (fun x v hv=>by simp[pC]at hv;rcases hv with rfl|rfl<;>rfl) cmpP swoP 41 #[] blk off cap d w (enters_of Tryz.func41 (by kernel_rfl) rfl) (fun _ _ _ _ x y=>raw_cmp x y _) hH hblk hsz
end Go.Proofs.YtflbmgpmnocnbaaGreatDoor
