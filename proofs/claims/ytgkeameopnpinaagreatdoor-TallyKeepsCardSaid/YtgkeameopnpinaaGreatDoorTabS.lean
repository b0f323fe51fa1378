/- A table's spots: what is found there, what is written. -/
import Derived.Test.YtgkeameopnpinaaGreatDoorCoT
import Derived.Test.YtgkeameopnpinaaGreatDoorSqM
import Derived.Test.YtgkeameopnpinaaGreatDoorLaneP
namespace Go.Proofs.YtgkeameopnpinaaGreatDoor
set_option maxRecDepth 100000
set_option maxHeartbeats 2000000
open Go.RowKit bY Go
def Fv (p:Option Addr)(s:Int):Value:= .agg #[.pointer p,.int .i64 s]
def bH (tb key hash:Nat)(ap:Option Addr)(as_:Int)(fp:Option Addr)(fs:Int):Value:= .agg #[pQ tb,nU key,nU hash,.pointer ap,.int .i64 as_,.pointer fp,.int .i64 fs]
def iE (T:aB)(i s:Nat):aB:={gs:=putAt T.gs i s (if dF (T.gs.getD i [])then .empty else .oH),live:=T.live-1,bS:=if dF (T.gs.getD i [])then T.bS else T.bS+1}
def jf (T:aB)(i s:Nat)(e:av):aB:={gs:=putAt T.gs i s (.full e),live:=T.live+1,bS:=if(aF T.gs i s).iD then T.bS-1 else T.bS}
def replaceM (T:aB)(i s:Nat)(v:Nat)(e:av):aB:={T with gs:=putAt T.gs i s (.full {e with val:=v})}
structure Small (T:aB):Prop where
 l0:0≤T.live
 l1:T.live≤1000
 t0:0≤T.bS
 t1:T.bS≤1000
 n1:T.gs.length≤64
theorem Dt (tb gb:Nat)(T:aB)(i s:Nat)(hi:i<T.gs.length)(hs:s<8)(e:av)(he:aF T.gs i s= .full e)(hS:Small T)(w:World)(h:TabAt w tb gb T):
  Calls Tryz.prog 205 #[bP tb,Fv (some ⟨gb,i*25,none⟩) (s:Int)] w fun x w'=>x= .returned .nilIface∧TabAt w' tb gb (iE T i s)∧Mod [tb,gb] w w':=by
 have hB:=(Below.refl w.heap.size w).alloc (Nat.le_refl _) (.cells #[.pointer (some ⟨gb,i*25,none⟩),nI s] 238);have hV:=aj.new w 238 #[.pointer (some ⟨gb,i*25,none⟩),nI s];obtain⟨W,hW⟩:∃W,W=w.alloc (.cells #[.pointer (some ⟨gb,i*25,none⟩),nI s] 238):=⟨_,rfl⟩;rw[←hW]at hB hV;have lu:=h.below hB;have hGW:=lu.group i hi;have HE:=qd (Sm gb 223 (cO (T.gs.take i)) (cO (T.gs.drop (i+1))) (i*25) (T.gs.getD i []) W hGW s hs e he);have HW:=qd hW;have HB:=qd hB;obtain⟨l0,l1,t0,t1,n1⟩:=hS
 have hi0:(0:Int)≤(i:Int):=by omega
 unfold bq at HE;unfold bP Fv;clear hW h hB hGW he n1
 cases ho:dF (T.gs.getD i [])with
 |true=>
  rw[ho]at HE;simp only[Bool.not_true,if_true]at HE;have HO:=qd ho;clear ho;go_in;go_upto_region 1 with fail;rw[←HW.out];have v:=hV.c2;go_wp2_with fail;refine(HE.out).mono ?_;rintro x w1 ⟨rfl,hG1,hm1⟩;have hT1:=lu.nN i hi hm1 hG1;obtain⟨c0,c1,c2⟩:=hT1.cells;have f1:=hT1.tab.frozen 1;have f2:=hT1.tab.frozen 2;have jy:=hT1.zF (T.live-1);have hM2:=((((Mod.of_below HB.out [tb,gb]).then (hm1.more (by simp))).sl 1 (.int .i64 (T.live-1))));have HP:=qd (And.intro jy hM2);clear jy hM2 hT1 lu hG1 hm1 hV;go_wp2;go_ret;refine⟨rfl, ?_,HP.out.2⟩;have:=HP.out.1;unfold iE putAt;rw[HO.out];exact this
 |false=>
  rw[ho]at HE;simp only[Bool.not_false,Bool.false_eq_true,if_false]at HE;have HO:=qd ho;clear ho;go_in;go_upto_region 1 with fail;rw[←HW.out];have v:=hV.c2;go_wp2_with fail;refine(HE.out).mono ?_;rintro x w1 ⟨rfl,hG1,hm1⟩;have hT1:=lu.nN i hi hm1 hG1;obtain⟨c0,c1,c2⟩:=hT1.cells;have f1:=hT1.tab.frozen 1;have f2:=hT1.tab.frozen 2;have jy:=hT1.zF (T.live-1);have hM2:=((((Mod.of_below HB.out [tb,gb]).then (hm1.more (by simp))).sl 1 (.int .i64 (T.live-1))));have Aq:=jy.Iu (T.bS+1);have rO:=hM2.sl 2 (.int .i64 (T.bS+1));have HP:=qd (And.intro Aq rO);clear Aq rO jy hM2 hT1 lu hG1 hm1 hV;go_wp2;go_ret;refine⟨rfl, ?_,HP.out.2⟩;have:=HP.out.1;unfold iE putAt;rw[HO.out];exact this
theorem Fw (tb key hash:Nat)(ap fp:Option Addr)(fs:Int)(w:World):
  Calls Tryz.prog 144 #[bH tb key hash ap (-1) fp fs] w fun x w'=>x= .returned (.tuple #[aO ⟨0,0,0⟩,.bool false])∧Below w.heap.size w w':=by
 obtain⟨W,hW,hB,hV,hD⟩:=jZ w 240 #[pQ tb,nU key,nU hash,.pointer ap,.int .i64 (-1),.pointer fp,.int .i64 fs] 159 #[.int .u64 0,.int .u64 0,.int .u64 0];obtain⟨d0,d1,d2⟩:=hD.c3;obtain⟨f0,f1,f2⟩:=hD.f3;obtain⟨v0,v1,v2,v3,v4,v5,v6⟩:=hV.c7;have HW:=qd hW;have HB:=qd hB;unfold bH aO;clear hW hB hV hD;go_in;go_upto_region 1 with fail;rw[←HW.out];go_wp2;refine bodyPost_ret (v:= .tuple #[.agg #[.int .u64 0,.int .u64 0,.int .u64 0],.bool false]) ?_ rfl ⟨rfl, ?_⟩
 ·simp[results,Tryz.results144,go_sem,d0,d1,d2]
 ·repeat (with_reducible first|exact HB.out|refine Below.setCell ?_ ?_ _)
  all_goals (simp;try omega)
theorem Fx (tb key hash gb:Nat)(fp:Option Addr)(fs:Int)(T:aB)(i s:Nat)(hi:i<T.gs.length)(hs:s<8)(e:av)(he:aF T.gs i s= .full e)(w:World)(h:TabAt w tb gb T):
  Calls Tryz.prog 144 #[bH tb key hash (some ⟨gb,i*25,none⟩) (s:Int) fp fs] w fun x w'=>x= .returned (.tuple #[aO e,.bool true])∧Below w.heap.size w w':=by
 obtain⟨W,hW,hB,hV,hD⟩:=jZ w 240 #[pQ tb,nU key,nU hash,.pointer (some ⟨gb,i*25,none⟩),nI s,.pointer fp,.int .i64 fs] 159 #[.int .u64 0,.int .u64 0,.int .u64 0];obtain⟨v0,v1,v2,v3,v4,v5,v6⟩:=hV.c7;have lu:=h.below hB;have HE:=qd (Dq gb 223 (cO (T.gs.take i)) (cO (T.gs.drop (i+1))) (i*25) (T.gs.getD i []) W (lu.group i hi) s hs e he);have HW:=qd hW;have HB:=qd hB
 have hs0:¬(s:Int)<0:=by omega
 unfold bq aO at HE;unfold bH aO;clear hW hB hV h lu he;go_in;go_upto_region 1 with fail;rw[←HW.out];go_wp2_with fail;refine(HE.out).mono ?_;rintro x w1 ⟨rfl,hb⟩;have hD1:=hD.below hb hD.lt;obtain⟨d0,d1,d2⟩:=hD1.c3;obtain⟨f0,f1,f2⟩:=hD1.f3;have hB1:=qd (bR hb HB.out);clear hb hD;go_wp2;refine bodyPost_ret (v:= .tuple #[.agg #[nU e.key,nU e.val,nU e.hash],.bool true]) ?_ rfl ⟨rfl, ?_⟩
 ·simp[results,Tryz.results144,go_sem,d0,d1,d2]
 ·repeat (with_reducible first|exact hB1.out|refine Below.setCell ?_ ?_ _)
  all_goals (simp;try omega)
theorem Bj (tb key hash gb:Nat)(fp:Option Addr)(fs:Int)(T:aB)(i s v:Nat)(hi:i<T.gs.length)(hs:s<8)(e:av)(he:aF T.gs i s= .full e)(w:World)(h:TabAt w tb gb T):
  Calls Tryz.prog 145 #[bH tb key hash (some ⟨gb,i*25,none⟩) (s:Int) fp fs,nU v] w fun x w'=>x= .returned .nilIface∧TabAt w' tb gb (replaceM T i s v e)∧Mod [tb,gb] w w':=by
 have hB:=(Below.refl w.heap.size w).alloc (Nat.le_refl _) (.cells #[pQ tb,nU key,nU hash,.pointer (some ⟨gb,i*25,none⟩),nI s,.pointer fp,.int .i64 fs] 240);have hV:=aj.new w 240 #[pQ tb,nU key,nU hash,.pointer (some ⟨gb,i*25,none⟩),nI s,.pointer fp,.int .i64 fs];obtain⟨W,hW⟩:∃W,W=w.alloc (.cells #[pQ tb,nU key,nU hash,.pointer (some ⟨gb,i*25,none⟩),nI s,.pointer fp,.int .i64 fs] 240):=⟨_,rfl⟩;rw[←hW]at hB hV;obtain⟨v0,v1,v2,v3,v4,v5,v6⟩:=hV.c7;have lu:=h.below hB;have HE:=qd (Zr gb 223 (cO (T.gs.take i)) (cO (T.gs.drop (i+1))) (i*25) (T.gs.getD i []) W (lu.group i hi) s hs v e he);have HT:=qd lu;have HW:=qd hW;have HB:=qd hB
 have hs0:¬(s:Int)<0:=by omega
 unfold bq at HE;unfold bH;clear hW hB hV h lu he;go_in;go_upto_region 1 with fail;rw[←HW.out];go_wp2_with fail;refine(HE.out).mono ?_;rintro x w1 ⟨rfl,hG1,hm1⟩;have HP:=qd (And.intro (HT.out.nN i hi hm1 hG1) ((Mod.of_below HB.out [tb,gb]).then (hm1.more (by simp))));clear hG1 hm1;go_wp2;go_ret;exact⟨rfl,HP.out.1,HP.out.2⟩
theorem Du (tb key hash gb:Nat)(fp:Option Addr)(fs:Int)(T:aB)(i s:Nat)(hi:i<T.gs.length)(hs:s<8)(e:av)(he:aF T.gs i s= .full e)(hS:Small T)(w:World)(h:TabAt w tb gb T):
  Calls Tryz.prog 164 #[bH tb key hash (some ⟨gb,i*25,none⟩) (s:Int) fp fs] w fun x w'=>x= .returned .nilIface∧TabAt w' tb gb (iE T i s)∧Mod [tb,gb] w w':=by
 have hB:=(Below.refl w.heap.size w).alloc (Nat.le_refl _) (.cells #[pQ tb,nU key,nU hash,.pointer (some ⟨gb,i*25,none⟩),nI s,.pointer fp,.int .i64 fs] 240);have hV:=aj.new w 240 #[pQ tb,nU key,nU hash,.pointer (some ⟨gb,i*25,none⟩),nI s,.pointer fp,.int .i64 fs];obtain⟨W,hW⟩:∃W,W=w.alloc (.cells #[pQ tb,nU key,nU hash,.pointer (some ⟨gb,i*25,none⟩),nI s,.pointer fp,.int .i64 fs] 240):=⟨_,rfl⟩;rw[←hW]at hB hV;obtain⟨v0,v1,v2,v3,v4,v5,v6⟩:=hV.c7;have HE:=qd (Dt tb gb T i s hi hs e he hS W (h.below hB));have HW:=qd hW;have HB:=qd hB
 have hs0:¬(s:Int)<0:=by omega
 unfold bP Fv at HE;unfold bH;clear hW hB hV h he hS;go_in;go_upto_region 1 with fail;rw[←HW.out];go_wp2_with fail;refine(HE.out).mono ?_;rintro x w1 ⟨rfl,hG1,hm1⟩;have HP:=qd (And.intro hG1 ((Mod.of_below HB.out [tb,gb]).then hm1));clear hG1 hm1;go_wp2;go_ret;exact⟨rfl,HP.out.1,HP.out.2⟩
theorem zG (tb gb:Nat)(ap:Option Addr)(T:aB)(i s:Nat)(e:av)(hi:i<T.gs.length)(hs:s<8)(h64:e.hash<18446744073709551616)(he:(aF T.gs i s).isFull=false)(hS:Small T)(hroom:T.live+T.bS+1≤7*(T.gs.length:Int))(w:World)(h:TabAt w tb gb T):
  Calls Tryz.prog 146 #[bH tb e.key e.hash ap (-1) (some ⟨gb,i*25,none⟩) (s:Int),aO e] w fun x w'=>x= .returned .nilIface∧TabAt w' tb gb (jf T i s e)∧Mod [tb,gb] w w':=by
 obtain⟨W,hW,hB,hV,hE⟩:=jZ w 240 #[pQ tb,nU e.key,nU e.hash,.pointer ap,.int .i64 (-1),.pointer (some ⟨gb,i*25,none⟩),nI s] 159 #[nU e.key,nU e.val,nU e.hash];have v:=hV.c7;obtain⟨e0,e1,e2⟩:=hE.c3;have lu:=h.below hB;have htl:=h.aR;have hgl:=h.aS;have HT:=qd (lu.below (Below.refl _ _).drew);have HE:=qd (Zq gb 223 (cO (T.gs.take i)) (cO (T.gs.drop (i+1))) (i*25) (T.gs.getD i []) W.drew (HT.out.group i hi) s hs e h64 he);have HL:=qd (Qn tb gb T W lu hS.n1 ⟨hS.l0,hS.l1⟩ ⟨hS.t0,hS.t1⟩);have HW:=qd hW;have HB:=qd hB
 have hs0:¬(s:Int)<0:=by omega
 have hlf:¬7*(T.gs.length:Int)-T.live-T.bS<1:=by omega
 have hne:w.heap.size≠gb:=by omega
 obtain⟨l0,l1,t0,t1,n1⟩:=hS;rw[show(T.gs.getD i []).getD s .empty=aF T.gs i s from rfl]at HE;unfold bq aO at HE;unfold bP at HL;unfold bH aO;clear hW hB h lu he n1 hroom h64 hE
 cases ho:(aF T.gs i s).iD with
 |true=>
  rw[ho]at HE;have HO:=qd ho;clear ho;go_in;go_upto_region 1 with fail;rw[←HW.out];go_wp2_with fail;refine(HL.out).mono ?_;rintro x w1 ⟨rfl,rfl⟩;go_wp2_with fail;refine(HE.out).mono ?_;rintro x w1 ⟨rfl,hG1,hm1⟩;have hT1:=HT.out.nN i hi hm1 hG1;obtain⟨c0,c1,c2⟩:=hT1.cells;have f1:=hT1.tab.frozen 1;have f2:=hT1.tab.frozen 2;have Sq:=hV.drew.mod hm1 (by simpa using hne);have v:=Sq.c7;have jy:=hT1.zF (T.live+1);have hM2:=((((Mod.of_below HB.out.drew [tb,gb]).then (hm1.more (by simp))).sl 1 (.int .i64 (T.live+1))));have Aq:=jy.Iu (T.bS-1);have rO:=hM2.sl 2 (.int .i64 (T.bS-1));have HP:=qd (And.intro Aq rO);clear Aq rO jy hM2 hT1 hG1 hm1 Sq hV;go_wp2;go_ret;refine⟨rfl, ?_,HP.out.2⟩;have:=HP.out.1;unfold jf putAt;rw[HO.out];exact this
 |false=>
  rw[ho]at HE;have HO:=qd ho;clear ho;go_in;go_upto_region 1 with fail;rw[←HW.out];go_wp2_with fail;refine(HL.out).mono ?_;rintro x w1 ⟨rfl,rfl⟩;go_wp2_with fail;refine(HE.out).mono ?_;rintro x w1 ⟨rfl,hG1,hm1⟩;have hT1:=HT.out.nN i hi hm1 hG1;obtain⟨c0,c1,c2⟩:=hT1.cells;have f1:=hT1.tab.frozen 1;have f2:=hT1.tab.frozen 2;have Sq:=hV.drew.mod hm1 (by simpa using hne);have v:=Sq.c7;have jy:=hT1.zF (T.live+1);have hM2:=((((Mod.of_below HB.out.drew [tb,gb]).then (hm1.more (by simp))).sl 1 (.int .i64 (T.live+1))));have HP:=qd (And.intro jy hM2);clear jy hM2 hT1 hG1 hm1 Sq hV;go_wp2;go_ret;refine⟨rfl, ?_,HP.out.2⟩;have:=HP.out.1;unfold jf putAt;rw[HO.out];exact this
end Go.Proofs.YtgkeameopnpinaaGreatDoor

/-! Seeking over a list of groups. No program in sight. -/
namespace Go.Proofs.YtgkeameopnpinaaGreatDoor.bY
set_option maxRecDepth 100000
set_option maxHeartbeats 2000000
open Go.RowKit bY Go
variable {gs : Tab} {hash i key : Nat} {pre rest : List Nat}
def jr (gs:Tab)(key hash:Nat):List Nat→Option (Nat×Nat)→Option (Nat×Nat)×Option (Nat×Nat)×Nat
 | [],fr=>(none,fr,0)
 |i::is,fr=>
  match gI (gs.getD i []) key hash with
  |some s=>(some (i,s),iy fr i (gs.getD i []),1)
  |none=>if dF (gs.getD i [])then(none,iy fr i (gs.getD i []),1)else
   let r:=jr gs key hash is (iy fr i (gs.getD i []))
   (r.1,r.2.1,r.2.2+1)
theorem Ar (gs:Tab)(key hash:Nat):∀f j fr,iH gs key hash f j fr=jr gs key hash ((List.range f).map fun k=>bV (hash/128) gs.length (j+k)) fr
 |0,_,_=>rfl
 |f+1,j,fr=>by
  rw[List.range_succ_eq_map,List.map_cons,List.map_map];have ih:=Ar gs key hash f (j+1);unfold iH jr;simp only[Nat.add_zero]
  have he:(List.range f).map ((fun k=>bV (hash/128) gs.length (j+k))∘Nat.succ)=(List.range f).map fun k=>bV (hash/128) gs.length (j+1+k):=by
   apply List.map_congr_left;intro k _;simp[Nat.succ_eq_add_one,Nat.add_assoc,Nat.add_comm 1 k]
  rw[he]
  cases hf:gI (gs.getD (bV (hash/128) gs.length j) []) key hash with
  |some s=>rfl
  |none=>
   cases ho:dF (gs.getD (bV (hash/128) gs.length j) [])with
   |true=>rfl
   |false=>
    simp only[Bool.false_eq_true,if_false];rw[ih]
theorem wU (gs:Tab)(key hash:Nat):aI gs key hash=jr gs key hash (walk (hash/128) gs.length) none:=by
 unfold aI walk;rw[Ar];congr 1;apply List.map_congr_left;intro k _;rw[Nat.zero_add]
def eY (gs:Tab)(pre:List Nat):Option (Nat×Nat):=pre.foldl (fun fr i=>iy fr i (gs.getD i [])) none
theorem sQ (gs:Tab)(pre:List Nat)(i:Nat):eY gs (pre++[i])=iy (eY gs pre) i (gs.getD i []):=by simp[eY]
def Passed (gs:Tab)(key hash:Nat)(i:Nat):Prop:=gI (gs.getD i []) key hash=none∧dF (gs.getD i [])=false
theorem sS (gs:Tab)(key hash:Nat):∀(pre rest:List Nat) (fr:Option (Nat×Nat)),(∀i∈pre,Passed gs key hash i)→
  jr gs key hash (pre++rest) fr=let r:=jr gs key hash rest (pre.foldl (fun fr i=>iy fr i (gs.getD i [])) fr);(r.1,r.2.1,r.2.2+pre.length)
 | [],rest,fr,_=>by simp
 |i::pre,rest,fr,h=>by
  obtain⟨h1,h2⟩:=h i (by simp);have ih:=sS gs key hash pre rest (iy fr i (gs.getD i [])) (fun x hx=>h x (by simp[hx]));rw[List.cons_append,jr,h1];simp only[h2,Bool.false_eq_true,if_false];rw[ih];simp only[List.foldl_cons,List.length_cons,Nat.add_assoc]
theorem VT (he:pre=walk (hash/128) gs.length)(h:∀i∈pre,Passed gs key hash i):aI gs key hash=(none,eY gs pre,pre.length):=by
 rw[wU,←he];have:=sS gs key hash pre [] none h;rw[List.append_nil]at this;rw[this];simp[jr,eY]
theorem VU {s:Nat}(he:pre++i::rest=walk (hash/128) gs.length)(h:∀i∈pre,Passed gs key hash i)(hf:gI (gs.getD i []) key hash=some s):aI gs key hash=(some (i,s),eY gs (pre++[i]),(pre++[i]).length):=by
 rw[wU,←he,sS gs key hash pre _ none h,sQ];unfold jr;rw[hf];simp only[List.length_append,List.length_cons,List.length_nil,Nat.zero_add,Nat.add_comm 1];rfl
theorem Sr (he:pre++i::rest=walk (hash/128) gs.length)(h:∀i∈pre,Passed gs key hash i)(hf:gI (gs.getD i []) key hash=none)(ho:dF (gs.getD i [])=true):aI gs key hash=(none,eY gs (pre++[i]),(pre++[i]).length):=by
 rw[wU,←he,sS gs key hash pre _ none h,sQ];unfold jr;rw[hf];simp only[ho,if_true,List.length_append,List.length_cons,List.length_nil,Nat.zero_add,Nat.add_comm 1];rfl
end Go.Proofs.YtgkeameopnpinaaGreatDoor.bY
