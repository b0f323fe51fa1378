/- A table's spots: what is found there, what is written. -/
import Derived.Test.YtkkibocdfijnhaaGreatDoorCoT
import Derived.Test.YtkkibocdfijnhaaGreatDoorSqM
import Derived.Test.YtkkibocdfijnhaaGreatDoorLaneP
namespace Go.Proofs.YtkkibocdfijnhaaGreatDoor
set_option maxRecDepth 100000
set_option maxHeartbeats 2000000
open Go.RowKit bV Go
def GK (p:Option Addr)(s:Int):Value:= .agg #[.pointer p,.int .i64 s]
def bN (tb key hash:Nat)(ap:Option Addr)(as_:Int)(fp:Option Addr)(fs:Int):Value:= .agg #[pQ tb,nU key,nU hash,.pointer ap,.int .i64 as_,.pointer fp,.int .i64 fs]
def iP (T:aC)(i s:Nat):aC:={gs:=putAt T.gs i s (if dL (T.gs.getD i [])then .empty else .pO),live:=T.live-1,cK:=if dL (T.gs.getD i [])then T.cK else T.cK+1}
def jE (T:aC)(i s:Nat)(e:ay):aC:={gs:=putAt T.gs i s (.full e),live:=T.live+1,cK:=if(aH T.gs i s).iO then T.cK-1 else T.cK}
def replaceM (T:aC)(i s:Nat)(v:Nat)(e:ay):aC:={T with gs:=putAt T.gs i s (.full {e with val:=v})}
structure Small (T:aC):Prop where
 l0:0≤T.live
 l1:T.live≤1000
 t0:0≤T.cK
 t1:T.cK≤1000
 n1:T.gs.length≤64
theorem Ev (tb gb:Nat)(T:aC)(i s:Nat)(hi:i<T.gs.length)(hs:s<8)(e:ay)(he:aH T.gs i s= .full e)(hS:Small T)(w:World)(h:TabAt w tb gb T):
  Calls Tryz.prog 210 #[bQ tb,GK (some ⟨gb,i*25,none⟩) (s:Int)] w fun x w'=>x= .returned .nilIface∧TabAt w' tb gb (iP T i s)∧Mod [tb,gb] w w':=by
 have hB:=(Below.refl w.heap.size w).alloc (Nat.le_refl _) (.cells #[.pointer (some ⟨gb,i*25,none⟩),nI s] 205);have hV:=aj.new w 205 #[.pointer (some ⟨gb,i*25,none⟩),nI s];obtain⟨W,hW⟩:∃W,W=w.alloc (.cells #[.pointer (some ⟨gb,i*25,none⟩),nI s] 205):=⟨_,rfl⟩;rw[←hW]at hB hV;have lX:=h.below hB;have hGW:=lX.group i hi;have HE:=qd (Ue gb 200 (dB (T.gs.take i)) (dB (T.gs.drop (i+1))) (i*25) (T.gs.getD i []) W hGW s hs e he);have HW:=qd hW;have HB:=qd hB;obtain⟨l0,l1,t0,t1,n1⟩:=hS
 have hi0:(0:Int)≤(i:Int):=by omega
 unfold bE at HE;unfold bQ GK;clear hW h hB hGW he n1
 cases ho:dL (T.gs.getD i [])with
 |true=>
  rw[ho]at HE;simp only[Bool.not_true,if_true]at HE;have HO:=qd ho;clear ho;go_in;go_upto_region 1 with fail;rw[←HW.out];have v:=hV.c2;go_wp2_with fail;refine(HE.out).mono ?_;rintro x w1 ⟨rfl,hG1,hm1⟩;have hT1:=lX.oF i hi hm1 hG1;obtain⟨c0,c1,c2⟩:=hT1.cells;have f1:=hT1.tab.frozen 1;have f2:=hT1.tab.frozen 2;have jV:=hT1.Az (T.live-1);have hM2:=((((Mod.of_below HB.out [tb,gb]).then (hm1.more (by simp))).sl 1 (.int .i64 (T.live-1))));have HP:=qd (And.intro jV hM2);clear jV hM2 hT1 lX hG1 hm1 hV;go_wp2;go_ret;refine⟨rfl, ?_,HP.out.2⟩;have:=HP.out.1;unfold iP putAt;rw[HO.out];exact this
 |false=>
  rw[ho]at HE;simp only[Bool.not_false,Bool.false_eq_true,if_false]at HE;have HO:=qd ho;clear ho;go_in;go_upto_region 1 with fail;rw[←HW.out];have v:=hV.c2;go_wp2_with fail;refine(HE.out).mono ?_;rintro x w1 ⟨rfl,hG1,hm1⟩;have hT1:=lX.oF i hi hm1 hG1;obtain⟨c0,c1,c2⟩:=hT1.cells;have f1:=hT1.tab.frozen 1;have f2:=hT1.tab.frozen 2;have jV:=hT1.Az (T.live-1);have hM2:=((((Mod.of_below HB.out [tb,gb]).then (hm1.more (by simp))).sl 1 (.int .i64 (T.live-1))));have Bu:=jV.JM (T.cK+1);have sN:=hM2.sl 2 (.int .i64 (T.cK+1));have HP:=qd (And.intro Bu sN);clear Bu sN jV hM2 hT1 lX hG1 hm1 hV;go_wp2;go_ret;refine⟨rfl, ?_,HP.out.2⟩;have:=HP.out.1;unfold iP putAt;rw[HO.out];exact this
theorem GL (tb key hash:Nat)(ap fp:Option Addr)(fs:Int)(w:World):
  Calls Tryz.prog 109 #[bN tb key hash ap (-1) fp fs] w fun x w'=>x= .returned (.tuple #[aP ⟨0,0,0⟩,.bool false])∧Below w.heap.size w w':=by
 obtain⟨W,hW,hB,hV,hD⟩:=kF w 207 #[pQ tb,nU key,nU hash,.pointer ap,.int .i64 (-1),.pointer fp,.int .i64 fs] 62 #[.int .u64 0,.int .u64 0,.int .u64 0];obtain⟨d0,d1,d2⟩:=hD.c3;obtain⟨f0,f1,f2⟩:=hD.f3;obtain⟨v0,v1,v2,v3,v4,v5,v6⟩:=hV.c7;have HW:=qd hW;have HB:=qd hB;unfold bN aP;clear hW hB hV hD;go_in;go_upto_region 1 with fail;rw[←HW.out];go_wp2;refine bodyPost_ret (v:= .tuple #[.agg #[.int .u64 0,.int .u64 0,.int .u64 0],.bool false]) ?_ rfl ⟨rfl, ?_⟩
 ·simp[results,Tryz.results109,go_sem,d0,d1,d2]
 ·repeat (with_reducible first|exact HB.out|refine Below.setCell ?_ ?_ _)
  all_goals (simp;try omega)
theorem GQ (tb key hash gb:Nat)(fp:Option Addr)(fs:Int)(T:aC)(i s:Nat)(hi:i<T.gs.length)(hs:s<8)(e:ay)(he:aH T.gs i s= .full e)(w:World)(h:TabAt w tb gb T):
  Calls Tryz.prog 109 #[bN tb key hash (some ⟨gb,i*25,none⟩) (s:Int) fp fs] w fun x w'=>x= .returned (.tuple #[aP e,.bool true])∧Below w.heap.size w w':=by
 obtain⟨W,hW,hB,hV,hD⟩:=kF w 207 #[pQ tb,nU key,nU hash,.pointer (some ⟨gb,i*25,none⟩),nI s,.pointer fp,.int .i64 fs] 62 #[.int .u64 0,.int .u64 0,.int .u64 0];obtain⟨v0,v1,v2,v3,v4,v5,v6⟩:=hV.c7;have lX:=h.below hB;have HE:=qd (Et gb 200 (dB (T.gs.take i)) (dB (T.gs.drop (i+1))) (i*25) (T.gs.getD i []) W (lX.group i hi) s hs e he);have HW:=qd hW;have HB:=qd hB
 have hs0:¬(s:Int)<0:=by omega
 unfold bE aP at HE;unfold bN aP;clear hW hB hV h lX he;go_in;go_upto_region 1 with fail;rw[←HW.out];go_wp2_with fail;refine(HE.out).mono ?_;rintro x w1 ⟨rfl,hb⟩;have hD1:=hD.below hb hD.lt;obtain⟨d0,d1,d2⟩:=hD1.c3;obtain⟨f0,f1,f2⟩:=hD1.f3;have hB1:=qd (bL hb HB.out);clear hb hD;go_wp2;refine bodyPost_ret (v:= .tuple #[.agg #[nU e.key,nU e.val,nU e.hash],.bool true]) ?_ rfl ⟨rfl, ?_⟩
 ·simp[results,Tryz.results109,go_sem,d0,d1,d2]
 ·repeat (with_reducible first|exact hB1.out|refine Below.setCell ?_ ?_ _)
  all_goals (simp;try omega)
theorem Cn (tb key hash gb:Nat)(fp:Option Addr)(fs:Int)(T:aC)(i s v:Nat)(hi:i<T.gs.length)(hs:s<8)(e:ay)(he:aH T.gs i s= .full e)(w:World)(h:TabAt w tb gb T):
  Calls Tryz.prog 110 #[bN tb key hash (some ⟨gb,i*25,none⟩) (s:Int) fp fs,nU v] w fun x w'=>x= .returned .nilIface∧TabAt w' tb gb (replaceM T i s v e)∧Mod [tb,gb] w w':=by
 have hB:=(Below.refl w.heap.size w).alloc (Nat.le_refl _) (.cells #[pQ tb,nU key,nU hash,.pointer (some ⟨gb,i*25,none⟩),nI s,.pointer fp,.int .i64 fs] 207);have hV:=aj.new w 207 #[pQ tb,nU key,nU hash,.pointer (some ⟨gb,i*25,none⟩),nI s,.pointer fp,.int .i64 fs];obtain⟨W,hW⟩:∃W,W=w.alloc (.cells #[pQ tb,nU key,nU hash,.pointer (some ⟨gb,i*25,none⟩),nI s,.pointer fp,.int .i64 fs] 207):=⟨_,rfl⟩;rw[←hW]at hB hV;obtain⟨v0,v1,v2,v3,v4,v5,v6⟩:=hV.c7;have lX:=h.below hB;have HE:=qd (aaO gb 200 (dB (T.gs.take i)) (dB (T.gs.drop (i+1))) (i*25) (T.gs.getD i []) W (lX.group i hi) s hs v e he);have HT:=qd lX;have HW:=qd hW;have HB:=qd hB
 have hs0:¬(s:Int)<0:=by omega
 unfold bE at HE;unfold bN;clear hW hB hV h lX he;go_in;go_upto_region 1 with fail;rw[←HW.out];go_wp2_with fail;refine(HE.out).mono ?_;rintro x w1 ⟨rfl,hG1,hm1⟩;have HP:=qd (And.intro (HT.out.oF i hi hm1 hG1) ((Mod.of_below HB.out [tb,gb]).then (hm1.more (by simp))));clear hG1 hm1;go_wp2;go_ret;exact⟨rfl,HP.out.1,HP.out.2⟩
theorem Ew (tb key hash gb:Nat)(fp:Option Addr)(fs:Int)(T:aC)(i s:Nat)(hi:i<T.gs.length)(hs:s<8)(e:ay)(he:aH T.gs i s= .full e)(hS:Small T)(w:World)(h:TabAt w tb gb T):
  Calls Tryz.prog 174 #[bN tb key hash (some ⟨gb,i*25,none⟩) (s:Int) fp fs] w fun x w'=>x= .returned .nilIface∧TabAt w' tb gb (iP T i s)∧Mod [tb,gb] w w':=by
 have hB:=(Below.refl w.heap.size w).alloc (Nat.le_refl _) (.cells #[pQ tb,nU key,nU hash,.pointer (some ⟨gb,i*25,none⟩),nI s,.pointer fp,.int .i64 fs] 207);have hV:=aj.new w 207 #[pQ tb,nU key,nU hash,.pointer (some ⟨gb,i*25,none⟩),nI s,.pointer fp,.int .i64 fs];obtain⟨W,hW⟩:∃W,W=w.alloc (.cells #[pQ tb,nU key,nU hash,.pointer (some ⟨gb,i*25,none⟩),nI s,.pointer fp,.int .i64 fs] 207):=⟨_,rfl⟩;rw[←hW]at hB hV;obtain⟨v0,v1,v2,v3,v4,v5,v6⟩:=hV.c7;have HE:=qd (Ev tb gb T i s hi hs e he hS W (h.below hB));have HW:=qd hW;have HB:=qd hB
 have hs0:¬(s:Int)<0:=by omega
 unfold bQ GK at HE;unfold bN;clear hW hB hV h he hS;go_in;go_upto_region 1 with fail;rw[←HW.out];go_wp2_with fail;refine(HE.out).mono ?_;rintro x w1 ⟨rfl,hG1,hm1⟩;have HP:=qd (And.intro hG1 ((Mod.of_below HB.out [tb,gb]).then hm1));clear hG1 hm1;go_wp2;go_ret;exact⟨rfl,HP.out.1,HP.out.2⟩
theorem AA (tb gb:Nat)(ap:Option Addr)(T:aC)(i s:Nat)(e:ay)(hi:i<T.gs.length)(hs:s<8)(h64:e.hash<18446744073709551616)(he:(aH T.gs i s).isFull=false)(hS:Small T)(hroom:T.live+T.cK+1≤7*(T.gs.length:Int))(w:World)(h:TabAt w tb gb T):
  Calls Tryz.prog 111 #[bN tb e.key e.hash ap (-1) (some ⟨gb,i*25,none⟩) (s:Int),aP e] w fun x w'=>x= .returned .nilIface∧TabAt w' tb gb (jE T i s e)∧Mod [tb,gb] w w':=by
 obtain⟨W,hW,hB,hV,hE⟩:=kF w 207 #[pQ tb,nU e.key,nU e.hash,.pointer ap,.int .i64 (-1),.pointer (some ⟨gb,i*25,none⟩),nI s] 62 #[nU e.key,nU e.val,nU e.hash];have v:=hV.c7;obtain⟨e0,e1,e2⟩:=hE.c3;have lX:=h.below hB;have htl:=h.aR;have hgl:=h.aS;have HT:=qd (lX.below (Below.refl _ _).drew);have HE:=qd (aaN gb 200 (dB (T.gs.take i)) (dB (T.gs.drop (i+1))) (i*25) (T.gs.getD i []) W.drew (HT.out.group i hi) s hs e h64 he);have HL:=qd (Ry tb gb T W lX hS.n1 ⟨hS.l0,hS.l1⟩ ⟨hS.t0,hS.t1⟩);have HW:=qd hW;have HB:=qd hB
 have hs0:¬(s:Int)<0:=by omega
 have hlf:¬7*(T.gs.length:Int)-T.live-T.cK<1:=by omega
 have hne:w.heap.size≠gb:=by omega
 obtain⟨l0,l1,t0,t1,n1⟩:=hS;rw[show(T.gs.getD i []).getD s .empty=aH T.gs i s from rfl]at HE;unfold bE aP at HE;unfold bQ at HL;unfold bN aP;clear hW hB h lX he n1 hroom h64 hE
 cases ho:(aH T.gs i s).iO with
 |true=>
  rw[ho]at HE;have HO:=qd ho;clear ho;go_in;go_upto_region 1 with fail;rw[←HW.out];go_wp2_with fail;refine(HL.out).mono ?_;rintro x w1 ⟨rfl,rfl⟩;go_wp2_with fail;refine(HE.out).mono ?_;rintro x w1 ⟨rfl,hG1,hm1⟩;have hT1:=HT.out.oF i hi hm1 hG1;obtain⟨c0,c1,c2⟩:=hT1.cells;have f1:=hT1.tab.frozen 1;have f2:=hT1.tab.frozen 2;have Ug:=hV.drew.mod hm1 (by simpa using hne);have v:=Ug.c7;have jV:=hT1.Az (T.live+1);have hM2:=((((Mod.of_below HB.out.drew [tb,gb]).then (hm1.more (by simp))).sl 1 (.int .i64 (T.live+1))));have Bu:=jV.JM (T.cK-1);have sN:=hM2.sl 2 (.int .i64 (T.cK-1));have HP:=qd (And.intro Bu sN);clear Bu sN jV hM2 hT1 hG1 hm1 Ug hV;go_wp2;go_ret;refine⟨rfl, ?_,HP.out.2⟩;have:=HP.out.1;unfold jE putAt;rw[HO.out];exact this
 |false=>
  rw[ho]at HE;have HO:=qd ho;clear ho;go_in;go_upto_region 1 with fail;rw[←HW.out];go_wp2_with fail;refine(HL.out).mono ?_;rintro x w1 ⟨rfl,rfl⟩;go_wp2_with fail;refine(HE.out).mono ?_;rintro x w1 ⟨rfl,hG1,hm1⟩;have hT1:=HT.out.oF i hi hm1 hG1;obtain⟨c0,c1,c2⟩:=hT1.cells;have f1:=hT1.tab.frozen 1;have f2:=hT1.tab.frozen 2;have Ug:=hV.drew.mod hm1 (by simpa using hne);have v:=Ug.c7;have jV:=hT1.Az (T.live+1);have hM2:=((((Mod.of_below HB.out.drew [tb,gb]).then (hm1.more (by simp))).sl 1 (.int .i64 (T.live+1))));have HP:=qd (And.intro jV hM2);clear jV hM2 hT1 hG1 hm1 Ug hV;go_wp2;go_ret;refine⟨rfl, ?_,HP.out.2⟩;have:=HP.out.1;unfold jE putAt;rw[HO.out];exact this
end Go.Proofs.YtkkibocdfijnhaaGreatDoor

/-! Seeking over a list of groups. No program in sight. -/
namespace Go.Proofs.YtkkibocdfijnhaaGreatDoor.bV
set_option maxRecDepth 100000
set_option maxHeartbeats 2000000
open Go.RowKit bV Go
variable {gs : Tab} {hash i key : Nat} {pre rest : List Nat}
def jS (gs:Tab)(key hash:Nat):List Nat→Option (Nat×Nat)→Option (Nat×Nat)×Option (Nat×Nat)×Nat
 | [],fr=>(none,fr,0)
 |i::is,fr=>
  match ig (gs.getD i []) key hash with
  |some s=>(some (i,s),iK fr i (gs.getD i []),1)
  |none=>if dL (gs.getD i [])then(none,iK fr i (gs.getD i []),1)else
   let r:=jS gs key hash is (iK fr i (gs.getD i []))
   (r.1,r.2.1,r.2.2+1)
theorem Bv (gs:Tab)(key hash:Nat):∀f j fr,iX gs key hash f j fr=jS gs key hash ((List.range f).map fun k=>cZ (hash/128) gs.length (j+k)) fr
 |0,_,_=>rfl
 |f+1,j,fr=>by
  rw[List.range_succ_eq_map,List.map_cons,List.map_map];have ih:=Bv gs key hash f (j+1);unfold iX jS;simp only[Nat.add_zero]
  have he:(List.range f).map ((fun k=>cZ (hash/128) gs.length (j+k))∘Nat.succ)=(List.range f).map fun k=>cZ (hash/128) gs.length (j+1+k):=by
   apply List.map_congr_left;intro k _;simp[Nat.succ_eq_add_one,Nat.add_assoc,Nat.add_comm 1 k]
  rw[he]
  cases hf:ig (gs.getD (cZ (hash/128) gs.length j) []) key hash with
  |some s=>rfl
  |none=>
   cases ho:dL (gs.getD (cZ (hash/128) gs.length j) [])with
   |true=>rfl
   |false=>
    simp only[Bool.false_eq_true,if_false];rw[ih]
theorem yB (gs:Tab)(key hash:Nat):aJ gs key hash=jS gs key hash (walk (hash/128) gs.length) none:=by
 unfold aJ walk;rw[Bv];congr 1;apply List.map_congr_left;intro k _;rw[Nat.zero_add]
def fO (gs:Tab)(pre:List Nat):Option (Nat×Nat):=pre.foldl (fun fr i=>iK fr i (gs.getD i [])) none
theorem uF (gs:Tab)(pre:List Nat)(i:Nat):fO gs (pre++[i])=iK (fO gs pre) i (gs.getD i []):=by simp[fO]
def Passed (gs:Tab)(key hash:Nat)(i:Nat):Prop:=ig (gs.getD i []) key hash=none∧dL (gs.getD i [])=false
theorem uG (gs:Tab)(key hash:Nat):∀(pre rest:List Nat) (fr:Option (Nat×Nat)),(∀i∈pre,Passed gs key hash i)→
  jS gs key hash (pre++rest) fr=let r:=jS gs key hash rest (pre.foldl (fun fr i=>iK fr i (gs.getD i [])) fr);(r.1,r.2.1,r.2.2+pre.length)
 | [],rest,fr,_=>by simp
 |i::pre,rest,fr,h=>by
  obtain⟨h1,h2⟩:=h i (by simp);have ih:=uG gs key hash pre rest (iK fr i (gs.getD i [])) (fun x hx=>h x (by simp[hx]));rw[List.cons_append,jS,h1];simp only[h2,Bool.false_eq_true,if_false];rw[ih];simp only[List.foldl_cons,List.length_cons,Nat.add_assoc]
theorem Xt (he:pre=walk (hash/128) gs.length)(h:∀i∈pre,Passed gs key hash i):aJ gs key hash=(none,fO gs pre,pre.length):=by
 rw[yB,←he];have:=uG gs key hash pre [] none h;rw[List.append_nil]at this;rw[this];simp[jS,fO]
theorem Xu {s:Nat}(he:pre++i::rest=walk (hash/128) gs.length)(h:∀i∈pre,Passed gs key hash i)(hf:ig (gs.getD i []) key hash=some s):aJ gs key hash=(some (i,s),fO gs (pre++[i]),(pre++[i]).length):=by
 rw[yB,←he,uG gs key hash pre _ none h,uF];unfold jS;rw[hf];simp only[List.length_append,List.length_cons,List.length_nil,Nat.zero_add,Nat.add_comm 1];rfl
theorem Uh (he:pre++i::rest=walk (hash/128) gs.length)(h:∀i∈pre,Passed gs key hash i)(hf:ig (gs.getD i []) key hash=none)(ho:dL (gs.getD i [])=true):aJ gs key hash=(none,fO gs (pre++[i]),(pre++[i]).length):=by
 rw[yB,←he,uG gs key hash pre _ none h,uF];unfold jS;rw[hf];simp only[ho,if_true,List.length_append,List.length_cons,List.length_nil,Nat.zero_add,Nat.add_comm 1];rfl
end Go.Proofs.YtkkibocdfijnhaaGreatDoor.bV
