/- amblerref29.Of by contract: the hash of each kind. No statement of the claim. -/
import Derived.Test.YthfgacnlojmmfaaGreatDoorMixS
import Derived.Test.YthfgacnlojmmfaaGreatDoorLaneP
import Derived.RangeFuncNested
import Derived.RangeFuncBound
import Derived.RangeFuncCalls
import Derived.RangeFuncLeaves
import Derived.RangeFuncBox
import Derived.Shelf.Abstract
import Derived.Shelf.RegionOpen
import Derived.WalkKit
import Derived.OwnWalkIn
import Derived.TacticsInMore
import Derived.LoopNIn
import Derived.LoopIn
import Derived.BigQuiet
import Derived.Maps.RangeWalk
import Derived.Test.YthfgacnlojmmfaaGreatDoorPlA
import Derived.Test.YthfgacnlojmmfaaGreatDoorSnG
import Derived.Test.YthfgacnlojmmfaaGreatDoorCoN
import Derived.Test.YthfgacnlojmmfaaGreatDoorProg
import Derived.KernelRfl
import Derived.Test.YthfgacnlojmmfaaGreatDoorShelf
import Derived.Shelf.Strings.BuilderX
import Derived.Lib.Builder
import Derived.Lib.AppendStr
import Derived.WalkSpells
import Derived.WalkLawsBesides
import Derived.Laws.Externs
import Derived.Outline
namespace Go.Proofs.YthfgacnlojmmfaaGreatDoor
set_option maxRecDepth 100000
set_option maxHeartbeats 8000000
open Go.RowKit AmC Go.Shelf Go.MapKept AmL
section
theorem and255 (n:Nat)(hn:n<18446744073709551616):bits .and .u64 (n:Int) 255=((n % 256:Nat):Int):=by
 have:=bits_and_u64_nat n 255 hn (by decide);rw[show((255:Nat):Int)=255 from rfl]at this;rw[this,show(255:Nat)=2^8-1 from rfl,Nat.and_two_pow_sub_one_eq_mod]
theorem fnv_nat (key:Nat)(hk:key<18446744073709551616):∀i,∃n:Nat,n<18446744073709551616∧(fnvS (key:Int) i).1=(n:Int)
 |0=>⟨key,hk,rfl⟩
 |i+1=>by
  obtain⟨n,h1,h2⟩:=fnv_nat key hk i;refine⟨n/256,Nat.lt_of_le_of_lt (Nat.div_le_self _ _) h1, ?_⟩;show(fnvS (key:Int) i).1/256=_;rw[h2];exact(Int.natCast_ediv n 256).symm
theorem mixH_of (kind key:Nat)(hk:key<18446744073709551616){n:Nat}(h:mixZ kind key=(n:Int)):mixH kind key=n:=by
 have:=(mixH_eq kind key hk).1;omega
section
variable {w : World} {t : TypeId}
theorem new_zero (W:World)(t:TypeId):Blk (W.alloc (.cells (List.replicate 64 (Value.int .i64 0)).toArray t)) W.heap.size t (fL fun _=>0).toArray:=by rw[fL_zero];exact Blk.new W t _
theorem new_full (W:World)(t:TypeId)(g:Nat→Nat):Blk ((W.alloc (.cells (List.replicate 64 (Value.int .i64 0)).toArray t)).setCells W.heap.size 0 (fL g)) W.heap.size t (fL g).toArray∧Below W.heap.size W ((W.alloc (.cells (List.replicate 64 (Value.int .i64 0)).toArray t)).setCells W.heap.size 0 (fL g)):=by
 have h:=fA_sets (new_zero W t) g (Nat.zero_le _);exact⟨h.1,((Below.refl W.heap.size W).alloc (Nat.le_refl _) _).trans (h.2.below (by simp) (by simp))⟩
theorem store_full (W:World)(t:TypeId)(g:Nat→Nat):(storeCells ⟨W.heap.size,0,none⟩ (fL g)).run Tryz.prog (W.alloc (.cells (List.replicate 64 (Value.int .i64 0)).toArray t))= .ok () ((W.alloc (.cells (List.replicate 64 (Value.int .i64 0)).toArray t)).setCells W.heap.size 0 (fL g)):=by
 have ht:=fA_there (new_zero W t);have h:=run_storeCells_cells (P:=Tryz.prog) W.heap.size 0 (fL g) 0 _ (fun j hj=>(ht j (fL_len g▸hj)).1) (fun j hj=>(ht j (fL_len g▸hj)).2) (fL_cell g);exact h
theorem upon_full {o:Oper}{a:Act}{next:Act→World→Prop}{Q:Exit→Act→World→Prop}(W:World)(t:TypeId)(g:Nat→Nat)(h:next (a.put o.dst undef) ((W.alloc (.cells (List.replicate 64 (Value.int .i64 0)).toArray t)).setCells W.heap.size 0 (fL g))):
  Oper.upon Tryz.prog o a next Q (((storeCells ⟨W.heap.size,0,none⟩ (fL g)).run Tryz.prog (W.alloc (.cells (List.replicate 64 (Value.int .i64 0)).toArray t))).andThen fun _ w'=> .ok .skip w'):=by
 rw[store_full];exact h
end
theorem ref29_Of (kind key:Nat)(hk:key<18446744073709551616)(h5:kind≤5)(w:World):
  Calls Tryz.prog 12 #[.int .i64 (kind:Int),.int .u64 (key:Int)] w fun y w'=>y= .returned (.tuple #[.int .u64 (mixH kind key:Int),.int .i64 0])∧Below w.heap.size w w':=by
 have HBt:=qd (ref03_Bits key hk w);have HNb:=qd (fun(f:Nat→Bool) (b:Nat) (W:World) (hb:Blk W b 71 (fL fun i=>(f i).toNat).toArray)=>ref03_Number f b W hb);have HZ:=qd (fun W t=>new_zero W t);have HK:=qd hk;have HL:=qd (fun g:Nat→Nat=>fL_len g)
 have n1:¬(kind:Int)<0:=by omega
 have n2:¬(5:Int)<(kind:Int):=by omega
 obtain⟨r,hr⟩:∃r,r=mixH kind key:=⟨_,rfl⟩;have HR:=qd hr;rw[←hr];clear hr hk;go_in;go_wp2_with fail;refine HBt.out.mono ?_;rintro y w1 ⟨rfl,hb1⟩;have HB1:=qd hb1;have HN:=qd (new_full w1 71 (bitN key));clear hb1 HBt n1 n2;go_upto_region 4 with fail;refine upon_full w1 71 (bitN key) ?_;go_upto_region 4 with fail;refine nameW (F:=fun v=>Blk v w1.heap.size 71 (fL (bitN key)).toArray∧Below w1.heap.size w1 v) ⟨by exact HN.out.1,by exact HN.out.2⟩ ?_;rintro w2 ⟨hA2,hb2⟩;obtain⟨ra,hra⟩:∃ra,ra=w1.heap.size:=⟨_,rfl⟩;rw[←hra]at hA2⊢;have HA2:=qd hA2;have HB2:=qd (HB1.out.trans (hb2.mono HB1.out.size));have HRa:=qd (show w.heap.size≤ra from by rw[hra];exact HB1.out.size);clear hA2 hb2 hra HN HB1
 go_upto_region 5 with(refine wpList_store_mid rfl 71 (.tmp 7) (.tmp 20) rfl w2.heap.size 0 _ rfl rfl (new_thereA w2 _ 71) (by kernel_rfl) (by kernel_rfl) ?_)
 refine nameW (F:=fun v=>Blk v w2.heap.size 71 (fL fun _=>0).toArray∧Below w2.heap.size w2 v) ⟨by rw[fL_zero];exact(new_setsA w2 _ 71).1,(new_setsA w2 _ 71).2⟩ ?_;rintro w3 ⟨h3,hb3⟩;obtain⟨rb,hrb⟩:∃rb,rb=w2.heap.size:=⟨_,rfl⟩;have HRb:=qd (show ra<rb∧w.heap.size≤rb from by rw[hrb];exact⟨HA2.out.lt,HB2.out.size⟩);have HA:=qd (HA2.out.below hb3 HA2.out.lt);have HB:=qd (HB2.out.trans (hb3.mono HB2.out.size));rw[←hrb]at h3⊢;have HO:=qd h3;clear h3 hb3 hrb HA2 HB2
 have hc:kind=0∨kind=1∨kind=2∨kind=3∨kind=4∨kind=5:=by omega
 clear h5;rcases hc with rfl|rfl|rfl|rfl|rfl|rfl
 ·have HE:=qd (show r=numF (fun i=>key.testBit (63-i)) 64 from by rw[HR.out,num_same key HK.out];exact mixH_of 0 key HK.out rfl);have HRg:=qd (fA_range HA.out);have HTh:=qd (fA_there HO.out);have hst:=fA_sets HO.out (bitN key) (Nat.zero_le _);have HBs:=qd (HB.out.trans (hst.2.below (by simp;exact HRb.out.2) HB.out.size));have HN:=qd (HNb.out (fun i=>key.testBit (63-i)) rb _ hst.1);clear hst HA HO HB;have HLn:=qd (fL_len (bitN key));go_upto_region 7 with fail
  go_upto_region 30 with(first|refine wpList_load_mid rfl 71 (.tmp 6) rfl ra 0 rfl (fL (bitN key)) _ HRg.out Tryz.underlying71 rfl (by rw[HLn.out];kernel_rfl) ?_|refine wpList_store_mid rfl 71 (.tmp 7) (.tmp 24) rfl rb 0 (fL (bitN key)).toArray rfl rfl (by rw[List.size_toArray,HLn.out];exact HTh.out) (by rw[List.size_toArray,HLn.out];kernel_rfl) (all_oneCell_toArray (fL_cell _)) ?_)
  go_wp2_with fail;refine HN.out.mono ?_;rintro y wq ⟨rfl,rfl⟩;go_wp2;refine bodyPost_ret (v:= .tuple #[.int .u64 (numF (fun i=>key.testBit (63-i)) 64:Int),.int .i64 0]) (by simp[results,Tryz.results12,go_sem]) rfl ⟨by rw[HE.out],HBs.out⟩
 ·have HE:=qd (show r=numF (fun _=>false) 64 from by rw[HR.out,num_zero];exact mixH_of 1 key HK.out rfl);have HN:=qd (HNb.out (fun _=>false) rb _ HO.out);go_wp2_with fail;refine HN.out.mono ?_;rintro y wq ⟨rfl,rfl⟩;go_wp2;refine bodyPost_ret (v:= .tuple #[.int .u64 (numF (fun _=>false) 64:Int),.int .i64 0]) (by simp[results,Tryz.results12,go_sem]) rfl ⟨by rw[HE.out],HB.out⟩
 ·have HE:=qd (show(r:Int)=IntKind.u64.wrap ((key:Int)*11400714819323198485)from by rw[HR.out,(mixH_eq 2 key HK.out).1];rfl);go_wp2;refine bodyPost_ret (v:= .tuple #[.int .u64 (IntKind.u64.wrap ((key:Int)*11400714819323198485)),.int .i64 0]) (by simp[results,Tryz.results12,go_sem]) rfl ⟨by rw[HE.out],HB.out⟩
 ·obtain⟨S,hS⟩:∃S,S=fnvS (key:Int):=⟨_,rfl⟩;have HE:=qd (show(r:Int)=(S 8).2 from by rw[HR.out,(mixH_eq 3 key HK.out).1,hS];rfl);have HSn:=qd (show∀i,∃n:Nat,n<18446744073709551616∧(S i).1=(n:Int)from by rw[hS];exact fnv_nat key HK.out);have HS:=qd (show∀i,(S (i+1)).1=(S i).1/256∧(S (i+1)).2=IntKind.u64.wrap (bits .xor .u64 (S i).2 (bits .and .u64 (S i).1 255)*1099511628211)from fun i=>by rw[hS];exact⟨rfl,rfl⟩);have HS0:=qd (show(S 0).1=(key:Int)∧(S 0).2=14695981039346656037 from by rw[hS];exact⟨rfl,rfl⟩);clear hS;go_wp2;go_loopw [1,8,9] (fun v1 v8 v9 wr=>∃i:Nat,i≤8∧v9= .int .i64 (i:Int)∧v1= .int .u64 (S i).1∧v8= .int .u64 (S i).2∧Hid (Below w.heap.size w wr)) (fun _ _ v9 _=>8-(intOf v9).toNat)
  case atStart=>exact⟨0,by omega,rfl,by rw[HS0.out.1],by rw[HS0.out.2],HB⟩
  case round=>
   obtain⟨i,hi,rfl,rfl,rfl,HB4⟩:=hrel;by_cases hlt:i<8
   ·have hlt':(i:Int)<8:=by omega
    have hwi:IntKind.i64.wrap ((i:Int)+1)=((i+1:Nat):Int):=by rw[IntKind.wrap_i64];omega
    obtain⟨n,hn,hSn⟩:=HSn.out i;have h2:=HS.out i;rw[hSn]at h2⊢;rw[and255 n hn]at h2
    have hrem:((n:Int).tmod 256)=((n % 256:Nat):Int):=by rw[Int.tmod_eq_emod_of_nonneg (Int.natCast_nonneg n)];exact(Int.natCast_emod n 256).symm
    have hquo:((n:Int).tdiv 256)=(n:Int)/256:=Int.tdiv_eq_ediv_of_nonneg (Int.natCast_nonneg n);have H2:=qd h2;clear h2;go_wp2;go_roundw
    case measure=>(simp[intOf]<;>omega)
    exact⟨i+1,by omega,rfl,by rw[H2.out.1],by rw[H2.out.2];rfl,HB4⟩
   ·obtain rfl:i=8:=by omega
    go_wp2;refine bodyPost_ret (v:= .tuple #[.int .u64 (S 8).2,.int .i64 0]) (by simp[results,Tryz.results12,go_sem]) rfl ⟨by rw[HE.out],HB4.out⟩
 ·have HE:=qd (show r=numF (fun i=>key.testBit i) 64 from by rw[HR.out];exact mixH_of 4 key HK.out (revZ_num key HK.out))
  have HO4:=qd (show Blk w3 rb 71 (fL fun i=>if i<0 then bitN key (63-i)else 0).toArray from by
   rw[fL_congr (g:=fun _=>0) (fun i _=>if_neg (by omega))];exact HO.out)
  clear HO;go_wp2;go_loopw [10,46] (fun _ v46 wr=>∃i:Nat,i≤64∧v46= .int .i64 (i:Int)∧Hid (Blk wr ra 71 (fL (bitN key)).toArray)∧Hid (Blk wr rb 71 (fL fun t=>if t<i then bitN key (63-t)else 0).toArray)∧Hid (Below w.heap.size w wr)) (fun _ v46 _=>64-(intOf v46).toNat)
  case atStart=>exact⟨0,by omega,rfl,HA,HO4,HB⟩
  case round=>
   clear HA HO4 HB;obtain⟨i,hi,rfl,HA,HO,HB⟩:=hrel;by_cases hlt:i<64
   ·have hlt':(i:Int)<64:=by omega
    have hi0:(0:Int)≤(i:Int):=by omega
    have hwi:IntKind.i64.wrap ((i:Int)+1)=((i+1:Nat):Int):=by rw[IntKind.wrap_i64];omega
    obtain⟨k,hk⟩:∃k,k=63-i:=⟨_,rfl⟩
    have hki:(63:Int)-(i:Int)=(k:Int):=by omega
    have hwk:IntKind.i64.wrap (k:Int)=(k:Int):=by rw[IntKind.wrap_i64];omega
    have hk0:(0:Int)≤(k:Int):=by omega
    have hk64:(k:Int)<64:=by omega
    have hkn:k<64:=by omega
    have hca:=fA_at HA.out hkn;have hcb:=fA_at HO.out hlt;have hfr:=HO.out.frozen i;have hst:=fA_set HO.out i (bitN key k)
    rw[fL_congr (g:=fun t=>if t<i+1 then bitN key (63-t)else 0) (fun t ht=>by
     by_cases e:t=i
     ·subst e;rw[if_pos rfl,if_pos (by omega),hk]
     ·rw[if_neg e];by_cases e2:t<i
      ·rw[if_pos e2,if_pos (by omega)]
      ·rw[if_neg e2,if_neg (by omega)])]at hst
    have HSt:=qd hst;have HA':=qd (HA.out.far (p:=⟨rb,i,none⟩) (Nat.ne_of_lt HRb.out.1) (.int .i64 ((bitN key k:Nat):Int)));have HB':=qd (HB.out.setCell (p:=⟨rb,i,none⟩) HRb.out.2 (.int .i64 ((bitN key k:Nat):Int)));clear hst hk HA HO HB;go_wp2;go_roundw
    case measure=>(simp[intOf]<;>omega)
    exact⟨i+1,by omega,rfl,HA',HSt,HB'⟩
   ·obtain rfl:i=64:=by omega
    have ho:=HO.out;rw[fL_congr (g:=fun t=>(key.testBit t).toNat) (fun t ht=>by rw[if_pos ht];unfold bitN;rw[show 63-(63-t)=t by omega])]at ho;have HN:=qd (HNb.out (fun i=>key.testBit i) rb _ ho);clear ho HO;go_wp2_with fail;refine HN.out.mono ?_;rintro y wq ⟨rfl,rfl⟩;go_wp2;refine bodyPost_ret (v:= .tuple #[.int .u64 (numF (fun i=>key.testBit i) 64:Int),.int .i64 0]) (by simp[results,Tryz.results12,go_sem]) rfl ⟨by rw[HE.out],HB.out⟩
 ·have HE:=qd (show r=numF (fun i=>decide (i<6) && key.testBit (5-i)) 64 from by rw[HR.out];exact mixH_of 5 key HK.out (num_top key).symm)
  have HO4:=qd (show Blk w3 rb 71 (fL fun i=>if i<0 then bitN key (58+i)else 0).toArray from by
   rw[fL_congr (g:=fun _=>0) (fun i _=>if_neg (by omega))];exact HO.out)
  clear HO;go_wp2;go_loopw [11] (fun v11 wr=>∃i:Nat,i≤6∧v11= .int .i64 (i:Int)∧Hid (Blk wr ra 71 (fL (bitN key)).toArray)∧Hid (Blk wr rb 71 (fL fun t=>if t<i then bitN key (58+t)else 0).toArray)∧Hid (Below w.heap.size w wr)) (fun v11 _=>6-(intOf v11).toNat)
  case atStart=>exact⟨0,by omega,rfl,HA,HO4,HB⟩
  case round=>
   clear HA HO4 HB;obtain⟨i,hi,rfl,HA,HO,HB⟩:=hrel;by_cases hlt:i<6
   ·have hlt':(i:Int)<6:=by omega
    have hi0:(0:Int)≤(i:Int):=by omega
    have hi64:(i:Int)<64:=by omega
    have hwi:IntKind.i64.wrap ((i:Int)+1)=((i+1:Nat):Int):=by rw[IntKind.wrap_i64];omega
    obtain⟨k,hk⟩:∃k,k=58+i:=⟨_,rfl⟩
    have hki:(58:Int)+(i:Int)=(k:Int):=by omega
    have hwk:IntKind.i64.wrap (k:Int)=(k:Int):=by rw[IntKind.wrap_i64];omega
    have hk0:(0:Int)≤(k:Int):=by omega
    have hk64:(k:Int)<64:=by omega
    have hkn:k<64:=by omega
    have hca:=fA_at HA.out hkn;have hcb:=fA_at HO.out (show i<64 by omega);have hfr:=HO.out.frozen i;have hst:=fA_set HO.out i (bitN key k)
    rw[fL_congr (g:=fun t=>if t<i+1 then bitN key (58+t)else 0) (fun t ht=>by
     by_cases e:t=i
     ·subst e;rw[if_pos rfl,if_pos (by omega),hk]
     ·rw[if_neg e];by_cases e2:t<i
      ·rw[if_pos e2,if_pos (by omega)]
      ·rw[if_neg e2,if_neg (by omega)])]at hst
    have HSt:=qd hst;have HA':=qd (HA.out.far (p:=⟨rb,i,none⟩) (Nat.ne_of_lt HRb.out.1) (.int .i64 ((bitN key k:Nat):Int)));have HB':=qd (HB.out.setCell (p:=⟨rb,i,none⟩) HRb.out.2 (.int .i64 ((bitN key k:Nat):Int)));clear hst hk HA HO HB;go_wp2;go_roundw
    case measure=>(simp[intOf]<;>omega)
    exact⟨i+1,by omega,rfl,HA',HSt,HB'⟩
   ·obtain rfl:i=6:=by omega
    have ho:=HO.out
    rw[fL_congr (g:=fun t=>(decide (t<6) && key.testBit (5-t)).toNat) (fun t ht=>by
     by_cases e:t<6
     ·rw[if_pos e,decide_eq_true e,Bool.true_and];unfold bitN;rw[show 63-(58+t)=5-t by omega]
     ·rw[if_neg e,decide_eq_false e,Bool.false_and];rfl)]at ho
    have HN:=qd (HNb.out (fun i=>decide (i<6) && key.testBit (5-i)) rb _ ho);clear ho HO;go_wp2_with fail;refine HN.out.mono ?_;rintro y wq ⟨rfl,rfl⟩;go_wp2;refine bodyPost_ret (v:= .tuple #[.int .u64 (numF (fun i=>decide (i<6) && key.testBit (5-i)) 64:Int),.int .i64 0]) (by simp[results,Tryz.results12,go_sem]) rfl ⟨by rw[HE.out],HB.out⟩
end
section
attribute [local go_sem] Oper.semAt_some
section
variable {P : Program} {F : Fence} {n : Nat} {ops : Array Oper} {rest : List Oper} {o : Oper} {a : Act} {Q : Exit → Act → World → Prop} {w : World} {t k e : TypeId} {b g r : Nat} {seen : Array Nat}
theorem wpListIn_range_none (hg:o.guard=none)(m:Operand)(hop:o.op=Op.range t m)(ht:P.underlying t=some (.map k e))(hm:a.eval m= .map (some b))(h:w.heap[b]?=some (.map #[] g))
  (hK:wpListIn F n P ops Q rest (a.put o.dst (.pointer (some ⟨w.heap.size,0,none⟩))) (w.alloc (.mapIter (some b) g #[] g))):wpListIn F n P ops Q (o::rest) a w:=by
 refine wpListIn_plain hg fun K' hK'=> ?_;have hrun:=run_range_map w t k e b #[] g ht h;unfold Oper.wpIn;refine⟨by simp[Oper.about,hop], ?_⟩;rw[Oper.semAt_plain F _ _ (by rw[hop];intro c hc';cases hc')];simp[execOp,hop,hm,hrun,Result.andThen];exact hK' _ _ hK
theorem wpListIn_next_none (hg:o.guard=none)(it:Operand)(hop:o.op=Op.next it false)(hit:a.eval it= .pointer (some ⟨r,0,none⟩))(h:w.heap[b]?=some (.map #[] g))(hr:w.heap[r]?=some (.mapIter (some b) g seen g))
  (hDone:wpListIn F n P ops Q rest (a.put o.dst (.tuple #[.bool false])) w):wpListIn F n P ops Q (o::rest) a w:=by
 refine wpListIn_plain hg fun K' hK'=> ?_;unfold Oper.wpIn;refine⟨by simp[Oper.about,hop], ?_⟩;rw[Oper.semAt_plain F _ _ (by rw[hop];intro c hc';cases hc')];rcases run_next_at (P:=P) w o.type r b g g seen #[] g hr h (by simp) (Nat.le_refl _)with⟨h0,hrun⟩|⟨x,hx,_⟩
 ·simp[execOp,hop,hit,hrun,Result.andThen];exact hK' _ _ hDone
 ·obtain⟨hem,_⟩:=mem_left hx;simp at hem
end
theorem keys_none1 (F:Fence)(q:Nat)(hF:F.fn 93)(hro:F.round=none)(Bm b g:Nat)(w:World)(hBn:Bm<w.heap.size)(hbn:b<w.heap.size)(hc:w.cell? ⟨Bm,0,none⟩=some (.map (some b)))(hm:w.heap[b]?=some (.map #[] g)):
  SeqStopsK F q Tryz.prog 93 #[.pointer (some ⟨Bm,0,none⟩)] (fun x:Int=> #[.int .i64 x]) (Below w.heap.size) (fun ys=>ys=[]) (fun _=>False) 0 w:=fun lp J Jx W hW hJ _ _ h0=>by
 have hBs:=(hW.cell (p:=⟨Bm,0,none⟩) hBn).trans hc;have hmW:=(hW.block b hbn).trans hm;have hJ1:=hJ [] W (W.alloc (.mapIter (some b) g #[] g)) none h0 (World.grownBy_alloc _ _ _) (fun r e=>by cases e);have hm1:=(Below.heap_alloc W (.mapIter (some b) g #[] g) b (Array.getElem?_eq_some_iff.1 hmW).1).trans hmW;have hi1:=heap_alloc_new W (.mapIter (some b) g #[] g);clear hW hm hc hJ h0;refine callsIn_of_wp Tryz.func93 rfl hF ?_ hro;simp only[Tryz.ntmps93,List.size_toArray,List.length_cons,List.length_nil,Nat.reduceAdd,Nat.reduceSub,Array.replicate_succ,Array.replicate_zero,List.push_toArray,List.append_toArray,List.nil_append,List.cons_append]
 gi_wp2_with (first|(gi_at_range;refine wpListIn_range_none rfl _ rfl Tryz.underlying132 rfl hmW ?_)|gi_in)
 (try go_frame)
 obtain⟨W1,hW1⟩:∃W1,W1=W.alloc (.mapIter (some b) g #[] g):=⟨_,rfl⟩;rw[←hW1]at hJ1 hm1 hi1⊢;clear hW1
 gi_loopw [3] (fun _ wr=>wr=W1) (fun _ _=>0)
 case atStart=>exact rfl
 case round=>
  obtain rfl:=hrel
  gi_wp2_with (first|(gi_at_next;refine wpListIn_next_none rfl _ rfl rfl hm1 hi1 ?_)|gi_in)
  gi_wp2
  go_end0;exact⟨⟨_,rfl⟩,.inl ⟨[],rfl,hJ1⟩⟩
theorem append_none (Bm b g:Nat)(w:World)(hBn:Bm<w.heap.size)(hbn:b<w.heap.size)(hc:w.cell? ⟨Bm,0,none⟩=some (.map (some b)))(hm:w.heap[b]?=some (.map #[] g)):
  Calls Tryz.prog 127 #[.slice none 0 0,.func (.func 93) #[] #[.pointer (some ⟨Bm,0,none⟩)]] w fun e w'=>e= .returned (.slice none 0 0)∧Below w.heap.size w w':=by
 refine(callsIn_wide (n:=10)).1 ?_
 have h1:1≤10:=by omega
 refine callsIn_of_wp_marks Tryz.func127 rfl trivial ?_ rfl;simp only[Tryz.ntmps127,List.size_toArray,List.length_cons,List.length_nil,Nat.reduceAdd,Nat.reduceSub,Array.replicate_succ,Array.replicate_zero,List.push_toArray,List.append_toArray,List.nil_append,List.cons_append];have bS:=Boxed.new w 52 (.slice none 0 0);have hB0:=(Below.refl _ w).alloc (Nat.le_refl _) (.cells #[.slice none 0 0] 52)
 have hsz:(w.alloc (.cells #[.slice none 0 0] 52)).heap.size=w.heap.size+1:=by simp
 have hc0:=(hB0.cell (p:=⟨Bm,0,none⟩) hBn).trans hc;have hm0:=(hB0.block b hbn).trans hm
 gi_wp2
 obtain⟨W0,hW0⟩:∃W0,w.alloc (.cells #[.slice none 0 0] 52)=W0:=⟨_,rfl⟩;rw[hW0]at bS hB0 hsz hc0 hm0⊢;clear hW0
 refine wpIn_rangeFunc_ownH rfl h1 (gf:=93) (lb:= #[.pointer (some ⟨Bm,0,none⟩)]) rfl trivial (enters_of Tryz.func93 (by kernel_rfl) rfl)
  (keys_none1 Fence.wide (10-1) trivial rfl Bm b g W0 (by omega) (by omega) hc0 hm0) belowK_t (belowK_b (Nat.le_refl _)) (Below.refl _ _) (fun _=>rfl)
  (fun _ W=>Boxed W w.heap.size 52 (.slice none 0 0)∧Below W0.heap.size W0 W)
  (fun _ _ _=>False)
  (OwnFrom.and (Own.from (boxed_own _ _ _) _) (ownFrom_below (Nat.le_refl _) (Nat.le_refl _)))
  (fun _ _ _ _ _ hs _ _=>hs)
  ⟨bS,Below.refl _ _⟩
  (fun _ _ _=>True)
  (fun _ _ _ _ _ _ _ _ _=>trivial)
  ?assign ?body ?done ?stop
 case assign=>
  rintro lp pre x W K ⟨hb,hB1⟩ hK
  gi_wp2
  exact hK _ _ (KeepsFrom.refl _ _) (Below.refl _ _) ⟨hb,hB1⟩ trivial
 case body=>
  rintro lp pre x a' W hl _ _ _ hlt;exact absurd hlt (Nat.not_lt_zero _)
 case done=>
  rintro D ys W hD rfl ⟨hb,hB1⟩ hK;have cR:=hb.cell
  gi_wp2
  refine⟨by simp,.inl ⟨_,_,rfl,run_takeDeferred hK, ?_⟩⟩;refine⟨.slice none 0 0, ?_,rfl,(hB0.trans (hB1.mono hB0.size)).trans (belowK_b (w:=w) (Nat.le_refl _) W D _ _ (by omega) hK rfl rfl)⟩;simp[results,Tryz.f127,go_sem]
 case stop=>
  rintro D c pre W hD hf;exact hf.elim
theorem collect_none (Bm b g:Nat)(w:World)(hBn:Bm<w.heap.size)(hbn:b<w.heap.size)(hc:w.cell? ⟨Bm,0,none⟩=some (.map (some b)))(hm:w.heap[b]?=some (.map #[] g)):
  Calls Tryz.prog 91 #[.func (.func 93) #[] #[.pointer (some ⟨Bm,0,none⟩)]] w fun e w'=>e= .returned (.slice none 0 0)∧Below w.heap.size w w':=by
 have HA:=qd (append_none Bm b g w hBn hbn hc hm);clear hc hm;go_in;go_wp2_with fail;refine HA.out.mono ?_;rintro e w1 ⟨rfl,hb1⟩;go_wp2;go_ret;exact⟨rfl,hb1⟩
theorem len64_none (w:World):Calls Tryz.prog 188 #[.int .u64 0] w fun e w'=>e= .returned (.int .i64 0)∧w=w':=by
 go_in;go_wp2;go_ret;exact⟨by first|rfl|kernel_rfl|decide+kernel,rfl⟩
theorem len_none (w:World):Calls Tryz.prog 129 #[.int .u64 0] w fun e w'=>e= .returned (.int .i64 0)∧w=w':=by
 have HL:=qd (len64_none w);go_in;go_wp2_with fail;refine HL.out.mono ?_;rintro e w1 ⟨rfl,rfl⟩;go_wp2;go_ret;exact⟨rfl,rfl⟩
theorem insI_none (w:World):Calls Tryz.prog 178 #[.slice none 0 0,.int .i64 0,.int .i64 0] w fun e w'=>e= .returned (.tuple #[])∧w=w':=by
 go_in;go_wp2;refine wp_loop_rounds 1 ?_;rw[rounds_succ];go_wp2;go_end0;exact⟨rfl,rfl⟩
theorem pdqI_none (w:World):Calls Tryz.prog 128 #[.slice none 0 0,.int .i64 0,.int .i64 0,.int .i64 0] w fun e w'=>e= .returned (.tuple #[])∧w=w':=by
 have HI:=qd (insI_none w);go_in;go_wp2;refine wp_loop_rounds 1 ?_;rw[rounds_succ];go_wp2_with fail;refine HI.out.mono ?_;rintro e w' ⟨rfl,rfl⟩;go_wp2
 (try simp only[Exit.inBlock,Exit.then])
 refine bodyPost_ret (results_none rfl _ _ _) rfl ?_;exact⟨rfl,rfl⟩
theorem sortI_none (w:World):Calls Tryz.prog 92 #[.slice none 0 0] w fun e w'=>e= .returned (.tuple #[])∧w=w':=by
 have HL:=qd (len_none w);have HP:=qd (pdqI_none w);go_in;go_wp2_with fail;refine HL.out.mono ?_;rintro e w' ⟨rfl,rfl⟩;go_wp2_with fail;refine HP.out.mono ?_;rintro e w' ⟨rfl,rfl⟩;go_wp2;go_end0;exact⟨rfl,rfl⟩
theorem sorted_none (Bm b g:Nat)(w:World)(hBn:Bm<w.heap.size)(hbn:b<w.heap.size)(hc:w.cell? ⟨Bm,0,none⟩=some (.map (some b)))(hm:w.heap[b]?=some (.map #[] g)):
  Calls Tryz.prog 65 #[.func (.func 93) #[] #[.pointer (some ⟨Bm,0,none⟩)]] w fun e w'=>e= .returned (.slice none 0 0)∧Below w.heap.size w w':=by
 have HC:=qd (collect_none Bm b g w hBn hbn hc hm);have HS:=qd (fun W=>sortI_none W);clear hc hm;go_in;go_wp2_with fail;refine HC.out.mono ?_;rintro e w1 ⟨rfl,hb1⟩;go_wp2_with fail;refine(HS.out _).mono ?_;rintro e wq ⟨rfl,rfl⟩;go_wp2;go_ret;exact⟨rfl,hb1⟩
theorem keys_made (b:Nat)(w:World):Calls Tryz.prog 66 #[.map (some b)] w fun e w'=>e= .returned (.func (.func 93) #[] #[.pointer (some ⟨w.heap.size,0,none⟩)])∧w'=w.alloc (.cells #[.map (some b)] 132):=by
 have hmf:∀(fn:Fn) (first cap:Array Value) (w:World),(Instr.makeFunc fn first cap).run Tryz.prog w= .ok (.func fn first cap) w:=fun _ _ _ _=>rfl;go_in;go_wp2;go_ret;exact⟨rfl,rfl⟩
theorem ids_none {w:World}{ib mb most given:Nat}(h:ItAt w ib mb most given []):Calls Tryz.prog 36 #[.pointer (some ⟨ib,0,none⟩)] w fun e w'=>e= .returned (.slice none 0 0)∧Below w.heap.size w w':=by
 have c2:=h.blk.cell 2;simp only[gl]at c2;have hb0:=(Below.refl w.heap.size w).alloc (Nat.le_refl _) (.cells #[.map (some mb)] 132);have hmm:w.heap[mb]?=some (.map #[] given):=h.map;have hlt:=(Array.getElem?_eq_some_iff.1 hmm).1;have HK:=qd (keys_made mb w);have HS:=qd (sorted_none w.heap.size mb given (w.alloc (.cells #[.map (some mb)] 132)) (by simp) (by simp;omega) ((Blk.new w 132 #[.map (some mb)]).cell 0) ((hb0.block mb hlt).trans hmm));have HB:=qd hb0;clear hb0 hmm h;go_in;go_wp2_with fail;refine HK.out.mono ?_;rintro e w1 ⟨rfl,rfl⟩;go_wp2_with fail;refine HS.out.mono ?_;rintro e w2 ⟨rfl,hb2⟩;go_wp2;go_ret;exact⟨rfl,HB.out.trans (hb2.mono HB.out.size)⟩
theorem rt_Iters_none {W0:World}{E:Nat→Addr}{H:Nat→Nat}{K M I b:Nat}{G:List Nat}{w:World}{R:Nat→Option Nat}{n gv:Nat}(h:MpAt W0 E H K M I b G w R n [] gv):Calls Tryz.prog 16 #[.pointer (some ⟨b,0,none⟩)] w fun y w'=>y= .returned (.slice none 0 0)∧Below w.heap.size w w':=by
 obtain⟨a,ids,lst,⟨C,GC,mb,hS,rfl,hlst⟩,_,_⟩:=h;have hbk:=hS.blk.blk;unfold RmC.cells at hbk;have c16:=hbk.cell 16;simp only[gl]at c16;have HL:=qd (ids_none hS.itr);clear hbk hS hlst;go_in;go_wp2_with fail;refine HL.out.mono ?_;rintro y w1 ⟨rfl,hb1⟩;go_wp2;go_ret;exact⟨rfl,hb1⟩
theorem snap_Take_nil {E:Nat→Addr}{w:World}(h4:ErrAt E w 4):Calls Tryz.prog 13 #[.pointer none] w fun y w'=>y= .returned (.tuple #[.slice none 0 0,errV E 4])∧Below w.heap.size w w':=by
 have her:=h4;unfold ErrAt gE at her;simp only at her;clear h4;go_in;go_wp2;go_quiet (fail);go_wp2;go_ret2;exact⟨rfl,below_drewN (Below.refl _ _) _⟩
end
section
variable {w w' : World} {b base n : Nat} {u v v' : Value}
abbrev Bts:=List UInt8
def strV (l:Bts):Value:= .string ⟨l.toArray⟩
theorem strV_data (s:ByteArray):strV s.data.toList= .string s:=by unfold strV;congr 1
def IntsOwn (w:World)(base:Nat)(v:Value)(l:List Nat):Prop:=w.ownsRow base 3 1 v l.length (l.map fun n:Nat=>Value.int .i64 (n:Int))
def StrsOwn (w:World)(base:Nat)(v:Value)(l:List Bts):Prop:=w.ownsRow base 9 1 v l.length (l.map strV)
theorem StrsOwn.append {l:List Bts}{s:ByteArray}(h:w.ownsRow base 9 1 v (l.length+1) (l.map strV++[.string s])):StrsOwn w base v (l++[s.data.toList]):=by
 unfold StrsOwn;rw[List.length_append,List.map_append];simpa[strV_data]using h
theorem IntsOwn.append {l:List Nat}(h:w.ownsRow base 3 1 v (l.length+1) ((l.map fun n:Nat=>Value.int .i64 (n:Int))++[.int .i64 (n:Int)])):IntsOwn w base v (l++[n]):=by
 unfold IntsOwn;rw[List.length_append,List.map_append];simpa using h
theorem StrsOwn.new (hb:base≤w.heap.size):StrsOwn (w.alloc (.cells #[] 9)) base (.slice (some ⟨w.heap.size,0,none⟩) 0 0) []:=
 World.ownsRow_made w #[] 0 hb (by simp[maxLen]) (by simp)
theorem IntsOwn.alloc {l:List Nat}(h:IntsOwn w base v l)(o:Obj):IntsOwn (w.alloc o) base v l:=World.ownsRow.alloc h o
theorem StrsOwn.alloc {l:List Bts}(h:StrsOwn w base v l)(o:Obj):StrsOwn (w.alloc o) base v l:=World.ownsRow.alloc h o
def lineCells (L:List (Nat×List Bts))(vs:List Value):List Value:=(List.zipWith (fun(p:Nat×List Bts) u=> [Value.int .i64 (p.1:Int),u]) L vs).flatten
end
section
variable {B b : Nat} {l : List UInt8} {w w' : World}
def TxtAt (B b:Nat)(l:List UInt8)(w:World):Prop:=Lib.IsBuilder 108 5 B b (Lib.byteCells l) w
theorem TxtAt.new (w:World):TxtAt w.heap.size w.heap.size [] (w.alloc (.cells #[.pointer none,.slice none 0 0] 108)):=Lib.fresh_isBuilder _ _ w
theorem TxtAt.parts (h:TxtAt B b l w):∃p,Lib.BuilderAt 108 5 B b p (Lib.byteCells l) w:=by
 rcases h with h|h
 ·exact⟨_,h⟩
 ·exact⟨_,h⟩
theorem txtAt_grown {T e:Nat}{p:Value}{bs:List Value}(h:Lib.BuilderAt T e B b p bs w)(hb:Below w.heap.size w w'):Lib.BuilderAt T e B b p bs w':=by
 have hlt:=h.lt;obtain⟨hB,v,h1,h2,h3⟩:=h;exact⟨hB,v,(hb.block b hlt).trans h1,own_below h2 hb (Nat.le_refl _),h3⟩
theorem TxtAt.below (h:TxtAt B b l w)(hb:Below w.heap.size w w'):TxtAt B b l w':=by
 rcases h with h|h
 ·exact .inl (txtAt_grown h hb)
 ·exact .inr (txtAt_grown h hb)
theorem TxtAt.alloc (h:TxtAt B b l w)(o:Obj):TxtAt B b l (w.alloc o):=h.below ((Below.refl _ _).alloc (Nat.le_refl _) o)
theorem TxtAt.le (h:TxtAt B b l w):B≤w.heap.size:=by
 obtain⟨p,h1⟩:=h.parts;have:=h1.lt;have:=h1.1;omega
theorem builder_size:(Tryz.prog.info? 108).map (·.size)=some 2:=by kernel_rfl
theorem builder_lies:liesAt Tryz.prog Tryz.prog.depth 108 (2/Tryz.prog.cellsOf 108) 0 108 1=true:=by kernel_rfl
theorem info_byte:(Tryz.prog.info? 5).map (fun i=>(i.zero,i.size,i.bytes))=some (some (.int .u8 0),1,1):=by kernel_rfl
theorem copyCheck_used (b:Nat)(w:World)(h0:w.cell? ⟨b,0,none⟩=some (.pointer (some ⟨b,0,none⟩))):
  Calls Tryz.prog 80 #[.pointer (some ⟨b,0,none⟩)] w fun e w'=>e= .returned (.tuple #[])∧w'=w:=by
 obtain⟨j,hj,_⟩:=Option.map_eq_some_iff.1 builder_size;go_in;go_wp2;rw[Lib.run_neq_ptr_same w _ Tryz.underlying105 hj];go_wp2;go_end0;exact⟨rfl,rfl⟩
theorem copyCheck_fresh (b:Nat)(w:World)(h0:w.cell? ⟨b,0,none⟩=some (.pointer none))(hsh:w.shape? b=some (108,2))(hfz:w.frozen? ⟨b,0,none⟩=false):
  Calls Tryz.prog 80 #[.pointer (some ⟨b,0,none⟩)] w fun e w'=>e= .returned (.tuple #[])∧w'=w.setCell ⟨b,0,none⟩ (.pointer (some ⟨b,0,none⟩)):=by
 obtain⟨j,hj,hjs⟩:=Option.map_eq_some_iff.1 builder_size;go_in;go_wp2;rw[Lib.run_to_unsafe w ⟨b,0,none⟩ Tryz.underlying105 Tryz.underlying221 hj (by rw[hjs];decide) hsh (Nat.zero_lt_succ 1)];simp only[Result.andThen];rw[Oper.upon_value];go_wp2;rw[run_callFunc_extern Tryz.func116 (by kernel_rfl) (by kernel_rfl) (by kernel_rfl) (e:=Extern.AbiNoEscape.same) (by kernel_rfl)];rw[Lib.run_noEscape];simp only[Result.andThen];rw[Oper.upon_value];go_wp2;rw[Lib.run_from_unsafe w ⟨b,0,none⟩ Tryz.underlying221 Tryz.underlying105 hj hsh builder_lies];simp only[Result.andThen];rw[Oper.upon_value];go_wp2;go_end0;exact⟨rfl,rfl⟩
theorem builder_copyCheckF (B b:Nat)(bs:List Value)(w:World)(h:Lib.IsBuilder 108 5 B b bs w):
  Calls Tryz.prog 80 #[.pointer (some ⟨b,0,none⟩)] w fun e w'=>e= .returned (.tuple #[])∧(Lib.BuilderAt 108 5 B b (.pointer (some ⟨b,0,none⟩)) bs w'∧Below B w w'∧∀k,k≠b→w'.heap[k]?=w.heap[k]?):=by
 rcases h with h|h
 ·refine(copyCheck_fresh b w h.cell0 h.shape h.frozen0).mono ?_;rintro e w' ⟨rfl,rfl⟩;exact⟨rfl,h.used _,(Below.refl B w).setCell (p:=⟨b,0,none⟩) h.1 _,fun k hk=>Below.heap_setCell w ⟨b,0,none⟩ _ k hk⟩
 ·refine(copyCheck_used b w h.cell0).mono ?_;rintro e w' ⟨rfl,rfl⟩;exact⟨rfl,h,Below.refl B _,fun _ _=>rfl⟩
theorem builder_textF (B b:Nat)(l:List UInt8)(s:ByteArray)(w:World)(h:TxtAt B b l w)(hlen:l.length≤33554432)(hs:s.size≤33554432):
  Calls Tryz.prog 46 #[.pointer (some ⟨b,0,none⟩),.string s] w fun e w'=>e= .returned (.tuple #[.int .i64 s.size,.nilIface])∧(TxtAt B b (l++s.data.toList) w'∧Below B w w'∧∀(g:Nat) (t:TypeId) (cs:Array Value),Blk w g t cs→t≠108 →t≠5 →Blk w' g t cs):=by
 have hBw:=h.le
 have hT0:∃cs0,Blk w b 108 cs0:=by
  rcases h with h|h
  ·obtain⟨_,v,hb,_⟩:=h;exact⟨_,hb⟩
  ·obtain⟨_,v,hb,_⟩:=h;exact⟨_,hb⟩
 obtain⟨i0,hi,hz0,hz1,hz2⟩:=info_parts info_byte;have hbl:=Lib.byteCells_length l
 have hbn:Lib.byteCells (l++s.data.toList)=Lib.byteCells l++Lib.strCells s:=by rw[Lib.byteCells_append,Lib.strCells_eq]
 unfold TxtAt at h;unfold TxtAt;rw[hbn];generalize Lib.byteCells l=bs at*
 have hlen':bs.length≤33554432:=by omega
 clear hbn hbl hlen;go_in;go_wp2_with (go_at_call 80;refine(builder_copyCheckF B b bs _ h).mono ?_);rintro e w1 ⟨rfl,h1,hb1,hk1⟩;obtain⟨hB,v,hbk,hown,hne⟩:=h1
 have c0:w1.cell? ⟨b,0,none⟩=some (.pointer (some ⟨b,0,none⟩)):=by rw[Lib.cell_of_heap hbk];rfl
 have c1:w1.cell? ⟨b,1,none⟩=some v:=by rw[Lib.cell_of_heap hbk];rfl
 go_wp2_with (at_builtin;refine Lib.wpList_append_own_string _ rfl _ _ 106 9 rfl B 5 i0 Tryz.underlying106 Tryz.underlying9 hi hz0 hz1 hz2 _ _ _ rfl hown s rfl ?c3 ?c4 ?c5 ?_)
 case c3=>unfold maxLen;omega
 case c4=>omega
 case c5=>have:=hb1.size;omega
 intro v' w2 hown' hgrow _
 have hlt:b<w1.heap.size:=by
  rcases Nat.lt_or_ge b w1.heap.size with h'|h'
  ·exact h'
  ·simp[Array.getElem?_eq_none h']at hbk
 have hb2:w2.heap[b]?=some (.cells #[.pointer (some ⟨b,0,none⟩),v] 108 (0,0)):=by
  rw[hgrow.block b hlt (fun e=>hne e.symm)];exact hbk
 have d0:w2.cell? ⟨b,0,none⟩=some (.pointer (some ⟨b,0,none⟩)):=by rw[Lib.cell_of_heap hb2];rfl
 have d1:w2.cell? ⟨b,1,none⟩=some v:=by rw[Lib.cell_of_heap hb2];rfl
 have f1:w2.frozen? ⟨b,1,none⟩=false:=Lib.frozen_of_heap hb2 1
 obtain⟨ao,n',cap,rfl⟩:∃ao n' cap,v'= .slice ao n' cap:=by
  rcases hown'.2 with⟨hv,_⟩|⟨g,cap,cur,hv,_⟩
  ·exact⟨_,_,_,hv⟩
  ·exact⟨_,_,_,hv⟩
 go_wp2;go_ret2;refine⟨rfl,.inr ?_, ?_,fun g t cs hg ht1 ht2=> ?_⟩
 ·exact Lib.BuilderAt.put (T:=108) (e:=5) hB hb2 (bs':=bs++Lib.strCells s) (by simpa[Lib.strCells_length]using hown') (by decide)
 ·exact(hb1.grown hgrow (by have:=hb1.size;omega) (fun k hk=>(hown.lt k hk).1)).setCell (p:=⟨b,1,none⟩) hB _
 ·have hgb:g≠b:=by
   rintro rfl;obtain⟨cs0,h0⟩:=hT0;have h1:some (Obj.cells cs0 108 (0,0))=some (.cells cs t (0,0)):=h0.symm.trans hg
   injection h1 with h1
   injection h1 with _ h1 _
   exact ht1 h1.symm
  have hg1:Blk w1 g t cs:=(hk1 g hgb).trans hg
  have hg2:Blk w2 g t cs:=hg1.grown hgrow (fun e=>by
   rcases hown.2 with⟨rfl,_⟩|⟨g',cap',cur',rfl,_,hh,_⟩
   ·cases e
   ·have e':g=g':=by simpa[Value.ownBlock]using e
    subst e';have h1:some (Obj.cells cur' 5 (0,0))=some (.cells cs t (0,0)):=hh.symm.trans hg1
    injection h1 with h1
    injection h1 with _ h1 _
    exact ht2 h1.symm)
  exact(Below.heap_setCell w2 ⟨b,1,none⟩ _ g hgb).trans hg2
end
end Go.Proofs.YthfgacnlojmmfaaGreatDoor
