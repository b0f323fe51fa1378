/- A table's spots: what is found there, what is written. -/
import Derived.Test.YtfbljmcjadfkoaaGreatDoorCoT
import Derived.Test.YtfbljmcjadfkoaaGreatDoorSqM
import Derived.Test.YtfbljmcjadfkoaaGreatDoorSq
namespace Go.Proofs.YtfbljmcjadfkoaaGreatDoor
set_option maxRecDepth 100000
set_option maxHeartbeats 2000000
open Go.RowKit AmC Go
def placeV (p:Option Addr)(s:Int):Value:= .agg #[.pointer p,.int .i64 s]
def spotV (tb key hash:Nat)(ap:Option Addr)(as_:Int)(fp:Option Addr)(fs:Int):Value:= .agg #[.pointer (some ⟨tb,0,none⟩),.int .u64 (key:Int),.int .u64 (hash:Int),.pointer ap,.int .i64 as_,.pointer fp,.int .i64 fs]
def eraseM (T:TabM)(i s:Nat):TabM:={gs:=putAt T.gs i s (if openG (T.gs.getD i [])then .empty else .tomb),live:=T.live-1,tombs:=if openG (T.gs.getD i [])then T.tombs else T.tombs+1}
def placeM (T:TabM)(i s:Nat)(e:Ent):TabM:={gs:=putAt T.gs i s (.full e),live:=T.live+1,tombs:=if(slotAt T.gs i s).isTomb then T.tombs-1 else T.tombs}
def replaceM (T:TabM)(i s:Nat)(v:Nat)(e:Ent):TabM:={T with gs:=putAt T.gs i s (.full {e with val:=v})}
structure Small (T:TabM):Prop where
 l0:0≤T.live
 l1:T.live≤1000
 t0:0≤T.tombs
 t1:T.tombs≤1000
 n1:T.gs.length≤64
theorem table_erase (tb gb:Nat)(T:TabM)(i s:Nat)(hi:i<T.gs.length)(hs:s<8)(e:Ent)(he:slotAt T.gs i s= .full e)(hS:Small T)(w:World)(h:TabAt w tb gb T):
  Calls Tryz.prog 267 #[tabP tb,placeV (some ⟨gb,i*25,none⟩) (s:Int)] w fun x w'=>x= .returned .nilIface∧TabAt w' tb gb (eraseM T i s)∧Mod [tb,gb] w w':=by
 have hB:=(Below.refl w.heap.size w).alloc (Nat.le_refl _) (.cells #[.pointer (some ⟨gb,i*25,none⟩),.int .i64 (s:Int)] 244);have hV:=Blk.new w 244 #[.pointer (some ⟨gb,i*25,none⟩),.int .i64 (s:Int)];obtain⟨W,hW⟩:∃W,W=w.alloc (.cells #[.pointer (some ⟨gb,i*25,none⟩),.int .i64 (s:Int)] 244):=⟨_,rfl⟩;rw[←hW]at hB hV;have hTW:=h.below hB;have hGW:=hTW.group i hi;have HE:=qd (grp_Erase gb 239 (tabCells (T.gs.take i)) (tabCells (T.gs.drop (i+1))) (i*25) (T.gs.getD i []) W hGW s hs e he);have HW:=qd hW;have HB:=qd hB;obtain⟨l0,l1,t0,t1,n1⟩:=hS
 have hi0:(0:Int)≤(i:Int):=by omega
 unfold viewV at HE;unfold tabP placeV;clear hW h hB hGW he n1
 cases ho:openG (T.gs.getD i [])with
 |true=>
  rw[ho]at HE;simp only[Bool.not_true,if_true]at HE;have HO:=qd ho;clear ho;go_in;go_upto_region 1 with fail;rw[←HW.out];have v:=hV.c2;go_wp2_with fail;refine(HE.out).mono ?_;rintro x w1 ⟨rfl,hG1,hm1⟩;have hT1:=hTW.set_group i hi hm1 hG1;obtain⟨c0,c1,c2⟩:=hT1.cells;have f1:=hT1.tab.frozen 1;have f2:=hT1.tab.frozen 2;have hT2:=hT1.set_live (T.live-1);have hM2:=((((Mod.of_below HB.out [tb,gb]).then (hm1.more (by simp))).sl 1 (.int .i64 (T.live-1))));have HP:=qd (And.intro hT2 hM2);clear hT2 hM2 hT1 hTW hG1 hm1 hV;go_wp2;go_ret;refine⟨rfl, ?_,HP.out.2⟩;have:=HP.out.1;unfold eraseM putAt;rw[HO.out];exact this
 |false=>
  rw[ho]at HE;simp only[Bool.not_false,Bool.false_eq_true,if_false]at HE;have HO:=qd ho;clear ho;go_in;go_upto_region 1 with fail;rw[←HW.out];have v:=hV.c2;go_wp2_with fail;refine(HE.out).mono ?_;rintro x w1 ⟨rfl,hG1,hm1⟩;have hT1:=hTW.set_group i hi hm1 hG1;obtain⟨c0,c1,c2⟩:=hT1.cells;have f1:=hT1.tab.frozen 1;have f2:=hT1.tab.frozen 2;have hT2:=hT1.set_live (T.live-1);have hM2:=((((Mod.of_below HB.out [tb,gb]).then (hm1.more (by simp))).sl 1 (.int .i64 (T.live-1))));have hT3:=hT2.set_tombs (T.tombs+1);have hM3:=hM2.sl 2 (.int .i64 (T.tombs+1));have HP:=qd (And.intro hT3 hM3);clear hT3 hM3 hT2 hM2 hT1 hTW hG1 hm1 hV;go_wp2;go_ret;refine⟨rfl, ?_,HP.out.2⟩;have:=HP.out.1;unfold eraseM putAt;rw[HO.out];exact this
theorem spot_Entry_none (tb key hash:Nat)(ap fp:Option Addr)(fs:Int)(w:World):
  Calls Tryz.prog 165 #[spotV tb key hash ap (-1) fp fs] w fun x w'=>x= .returned (.tuple #[entV ⟨0,0,0⟩,.bool false])∧Below w.heap.size w w':=by
 obtain⟨W,hW,hB,hV,hD⟩:=qX2 w 246 #[.pointer (some ⟨tb,0,none⟩),.int .u64 (key:Int),.int .u64 (hash:Int),.pointer ap,.int .i64 (-1),.pointer fp,.int .i64 fs] 199 #[.int .u64 0,.int .u64 0,.int .u64 0];obtain⟨d0,d1,d2⟩:=hD.c3;obtain⟨f0,f1,f2⟩:=hD.f3;obtain⟨v0,v1,v2,v3,v4,v5,v6⟩:=hV.c7;have HW:=qd hW;have HB:=qd hB;unfold spotV entV;clear hW hB hV hD;go_in;go_upto_region 1 with fail;rw[←HW.out];go_wp2;refine bodyPost_ret (v:= .tuple #[.agg #[.int .u64 0,.int .u64 0,.int .u64 0],.bool false]) ?_ rfl ⟨rfl, ?_⟩
 ·simp[results,Tryz.results165,go_sem,d0,d1,d2]
 ·repeat (with_reducible first|exact HB.out|refine Below.setCell ?_ ?_ _)
  all_goals (simp;try omega)
theorem spot_Entry_some (tb key hash gb:Nat)(fp:Option Addr)(fs:Int)(T:TabM)(i s:Nat)(hi:i<T.gs.length)(hs:s<8)(e:Ent)(he:slotAt T.gs i s= .full e)(w:World)(h:TabAt w tb gb T):
  Calls Tryz.prog 165 #[spotV tb key hash (some ⟨gb,i*25,none⟩) (s:Int) fp fs] w fun x w'=>x= .returned (.tuple #[entV e,.bool true])∧Below w.heap.size w w':=by
 obtain⟨W,hW,hB,hV,hD⟩:=qX2 w 246 #[.pointer (some ⟨tb,0,none⟩),.int .u64 (key:Int),.int .u64 (hash:Int),.pointer (some ⟨gb,i*25,none⟩),.int .i64 (s:Int),.pointer fp,.int .i64 fs] 199 #[.int .u64 0,.int .u64 0,.int .u64 0];obtain⟨v0,v1,v2,v3,v4,v5,v6⟩:=hV.c7;have hTW:=h.below hB;have HE:=qd (grp_At_full gb 239 (tabCells (T.gs.take i)) (tabCells (T.gs.drop (i+1))) (i*25) (T.gs.getD i []) W (hTW.group i hi) s hs e he);have HW:=qd hW;have HB:=qd hB
 have hs0:¬(s:Int)<0:=by omega
 unfold viewV entV at HE;unfold spotV entV;clear hW hB hV h hTW he;go_in;go_upto_region 1 with fail;rw[←HW.out];go_wp2_with fail;refine(HE.out).mono ?_;rintro x w1 ⟨rfl,hb⟩;have hD1:=hD.below hb hD.lt;obtain⟨d0,d1,d2⟩:=hD1.c3;obtain⟨f0,f1,f2⟩:=hD1.f3;have hB1:=qd (below_nx hb HB.out);clear hb hD;go_wp2;refine bodyPost_ret (v:= .tuple #[.agg #[.int .u64 (e.key:Int),.int .u64 (e.val:Int),.int .u64 (e.hash:Int)],.bool true]) ?_ rfl ⟨rfl, ?_⟩
 ·simp[results,Tryz.results165,go_sem,d0,d1,d2]
 ·repeat (with_reducible first|exact hB1.out|refine Below.setCell ?_ ?_ _)
  all_goals (simp;try omega)
theorem spot_Place (tb gb:Nat)(ap:Option Addr)(T:TabM)(i s:Nat)(e:Ent)(hi:i<T.gs.length)(hs:s<8)(h64:e.hash<18446744073709551616)(he:(slotAt T.gs i s).isFull=false)(hS:Small T)(hroom:T.live+T.tombs+1≤7*(T.gs.length:Int))(w:World)(h:TabAt w tb gb T):
  Calls Tryz.prog 167 #[spotV tb e.key e.hash ap (-1) (some ⟨gb,i*25,none⟩) (s:Int),entV e] w fun x w'=>x= .returned .nilIface∧TabAt w' tb gb (placeM T i s e)∧Mod [tb,gb] w w':=by
 obtain⟨W,hW,hB,hV,hE⟩:=qX2 w 246 #[.pointer (some ⟨tb,0,none⟩),.int .u64 (e.key:Int),.int .u64 (e.hash:Int),.pointer ap,.int .i64 (-1),.pointer (some ⟨gb,i*25,none⟩),.int .i64 (s:Int)] 199 #[.int .u64 (e.key:Int),.int .u64 (e.val:Int),.int .u64 (e.hash:Int)];have v:=hV.c7;obtain⟨e0,e1,e2⟩:=hE.c3;have hTW:=h.below hB;have htl:=h.ltT;have hgl:=h.ltG;have HT:=qd (hTW.below (Below.refl _ _).drew);have HE:=qd (grp_Put gb 239 (tabCells (T.gs.take i)) (tabCells (T.gs.drop (i+1))) (i*25) (T.gs.getD i []) W.drew (HT.out.group i hi) s hs e h64 he);have HL:=qd (table_Left tb gb T W hTW hS.n1 ⟨hS.l0,hS.l1⟩ ⟨hS.t0,hS.t1⟩);have HW:=qd hW;have HB:=qd hB
 have hs0:¬(s:Int)<0:=by omega
 have hlf:¬7*(T.gs.length:Int)-T.live-T.tombs<1:=by omega
 have hne:w.heap.size≠gb:=by omega
 obtain⟨l0,l1,t0,t1,n1⟩:=hS;rw[show(T.gs.getD i []).getD s .empty=slotAt T.gs i s from rfl]at HE;unfold viewV entV at HE;unfold tabP at HL;unfold spotV entV;clear hW hB h hTW he n1 hroom h64 hE
 cases ho:(slotAt T.gs i s).isTomb with
 |true=>
  rw[ho]at HE;have HO:=qd ho;clear ho;go_in;go_upto_region 1 with fail;rw[←HW.out];go_wp2_with fail;refine(HL.out).mono ?_;rintro x w1 ⟨rfl,rfl⟩;go_wp2_with fail;refine(HE.out).mono ?_;rintro x w1 ⟨rfl,hG1,hm1⟩;have hT1:=HT.out.set_group i hi hm1 hG1;obtain⟨c0,c1,c2⟩:=hT1.cells;have f1:=hT1.tab.frozen 1;have f2:=hT1.tab.frozen 2;have hVm:=hV.drew.mod hm1 (by simpa using hne);have v:=hVm.c7;have hT2:=hT1.set_live (T.live+1);have hM2:=((((Mod.of_below HB.out.drew [tb,gb]).then (hm1.more (by simp))).sl 1 (.int .i64 (T.live+1))));have hT3:=hT2.set_tombs (T.tombs-1);have hM3:=hM2.sl 2 (.int .i64 (T.tombs-1));have HP:=qd (And.intro hT3 hM3);clear hT3 hM3 hT2 hM2 hT1 hG1 hm1 hVm hV;go_wp2;go_ret;refine⟨rfl, ?_,HP.out.2⟩;have:=HP.out.1;unfold placeM putAt;rw[HO.out];exact this
 |false=>
  rw[ho]at HE;have HO:=qd ho;clear ho;go_in;go_upto_region 1 with fail;rw[←HW.out];go_wp2_with fail;refine(HL.out).mono ?_;rintro x w1 ⟨rfl,rfl⟩;go_wp2_with fail;refine(HE.out).mono ?_;rintro x w1 ⟨rfl,hG1,hm1⟩;have hT1:=HT.out.set_group i hi hm1 hG1;obtain⟨c0,c1,c2⟩:=hT1.cells;have f1:=hT1.tab.frozen 1;have f2:=hT1.tab.frozen 2;have hVm:=hV.drew.mod hm1 (by simpa using hne);have v:=hVm.c7;have hT2:=hT1.set_live (T.live+1);have hM2:=((((Mod.of_below HB.out.drew [tb,gb]).then (hm1.more (by simp))).sl 1 (.int .i64 (T.live+1))));have HP:=qd (And.intro hT2 hM2);clear hT2 hM2 hT1 hG1 hm1 hVm hV;go_wp2;go_ret;refine⟨rfl, ?_,HP.out.2⟩;have:=HP.out.1;unfold placeM putAt;rw[HO.out];exact this
end Go.Proofs.YtfbljmcjadfkoaaGreatDoor

/-! Seeking over a list of groups. No program in sight. -/
namespace Go.Proofs.YtfbljmcjadfkoaaGreatDoor.AmC
set_option maxRecDepth 100000
set_option maxHeartbeats 2000000
open Go.RowKit AmC Go
variable {gs : Tab} {hash i key : Nat} {pre rest : List Nat}
def seekOver (gs:Tab)(key hash:Nat):List Nat→Option (Nat×Nat)→Option (Nat×Nat)×Option (Nat×Nat)×Nat
 | [],fr=>(none,fr,0)
 |i::is,fr=>
  match findG (gs.getD i []) key hash with
  |some s=>(some (i,s),nextFree fr i (gs.getD i []),1)
  |none=>if openG (gs.getD i [])then(none,nextFree fr i (gs.getD i []),1)else
   let r:=seekOver gs key hash is (nextFree fr i (gs.getD i []))
   (r.1,r.2.1,r.2.2+1)
theorem seekFrom_over (gs:Tab)(key hash:Nat):∀f j fr,seekFrom gs key hash f j fr=seekOver gs key hash ((List.range f).map fun k=>walkAt (hash/128) gs.length (j+k)) fr
 |0,_,_=>rfl
 |f+1,j,fr=>by
  rw[List.range_succ_eq_map,List.map_cons,List.map_map];have ih:=seekFrom_over gs key hash f (j+1);unfold seekFrom seekOver;simp only[Nat.add_zero]
  have he:(List.range f).map ((fun k=>walkAt (hash/128) gs.length (j+k))∘Nat.succ)=(List.range f).map fun k=>walkAt (hash/128) gs.length (j+1+k):=by
   apply List.map_congr_left;intro k _;simp[Nat.succ_eq_add_one,Nat.add_assoc,Nat.add_comm 1 k]
  rw[he]
  cases hf:findG (gs.getD (walkAt (hash/128) gs.length j) []) key hash with
  |some s=>rfl
  |none=>
   cases ho:openG (gs.getD (walkAt (hash/128) gs.length j) [])with
   |true=>rfl
   |false=>
    simp only[Bool.false_eq_true,if_false];rw[ih]
theorem seek_over (gs:Tab)(key hash:Nat):seek gs key hash=seekOver gs key hash (walk (hash/128) gs.length) none:=by
 unfold seek walk;rw[seekFrom_over];congr 1;apply List.map_congr_left;intro k _;rw[Nat.zero_add]
def freeOf (gs:Tab)(pre:List Nat):Option (Nat×Nat):=pre.foldl (fun fr i=>nextFree fr i (gs.getD i [])) none
theorem freeOf_snoc (gs:Tab)(pre:List Nat)(i:Nat):freeOf gs (pre++[i])=nextFree (freeOf gs pre) i (gs.getD i []):=by simp[freeOf]
def Passed (gs:Tab)(key hash:Nat)(i:Nat):Prop:=findG (gs.getD i []) key hash=none∧openG (gs.getD i [])=false
theorem over_passed (gs:Tab)(key hash:Nat):∀(pre rest:List Nat) (fr:Option (Nat×Nat)),(∀i∈pre,Passed gs key hash i)→
  seekOver gs key hash (pre++rest) fr=let r:=seekOver gs key hash rest (pre.foldl (fun fr i=>nextFree fr i (gs.getD i [])) fr);(r.1,r.2.1,r.2.2+pre.length)
 | [],rest,fr,_=>by simp
 |i::pre,rest,fr,h=>by
  obtain⟨h1,h2⟩:=h i (by simp);have ih:=over_passed gs key hash pre rest (nextFree fr i (gs.getD i [])) (fun x hx=>h x (by simp[hx]));rw[List.cons_append,seekOver,h1];simp only[h2,Bool.false_eq_true,if_false];rw[ih];simp only[List.foldl_cons,List.length_cons,Nat.add_assoc]
theorem seek_all (he:pre=walk (hash/128) gs.length)(h:∀i∈pre,Passed gs key hash i):seek gs key hash=(none,freeOf gs pre,pre.length):=by
 rw[seek_over,←he];have:=over_passed gs key hash pre [] none h;rw[List.append_nil]at this;rw[this];simp[seekOver,freeOf]
theorem seek_hit {s:Nat}(he:pre++i::rest=walk (hash/128) gs.length)(h:∀i∈pre,Passed gs key hash i)(hf:findG (gs.getD i []) key hash=some s):seek gs key hash=(some (i,s),freeOf gs (pre++[i]),(pre++[i]).length):=by
 rw[seek_over,←he,over_passed gs key hash pre _ none h,freeOf_snoc];unfold seekOver;rw[hf];simp only[List.length_append,List.length_cons,List.length_nil,Nat.zero_add,Nat.add_comm 1];rfl
theorem seek_stop (he:pre++i::rest=walk (hash/128) gs.length)(h:∀i∈pre,Passed gs key hash i)(hf:findG (gs.getD i []) key hash=none)(ho:openG (gs.getD i [])=true):seek gs key hash=(none,freeOf gs (pre++[i]),(pre++[i]).length):=by
 rw[seek_over,←he,over_passed gs key hash pre _ none h,freeOf_snoc];unfold seekOver;rw[hf];simp only[ho,if_true,List.length_append,List.length_cons,List.length_nil,Nat.zero_add,Nat.add_comm 1];rfl
end Go.Proofs.YtfbljmcjadfkoaaGreatDoor.AmC
