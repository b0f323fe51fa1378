/- A table's spots: what is found there, what is written. -/
import Derived.Test.YtkddpchpcepjgaaGreatDoorCoT
namespace Go.Proofs.YtkddpchpcepjgaaGreatDoor
set_option maxRecDepth 100000
set_option maxHeartbeats 2000000
open Go.RowKit cu Go
theorem ju:type_of% @List.foldl_cons:=@List.foldl_cons
def Jk (p:Option Addr)(s:Int):Value:= .agg #[.pointer p,.int .i64 s]
def bP (tb key hash:Nat)(ap:Option Addr)(as_:Int)(fp:Option Addr)(fs:Int):Value:= .agg #[pQ tb,nU key,nU hash,.pointer ap,.int .i64 as_,.pointer fp,.int .i64 fs]
def jh (T:aC)(i s:Nat):aC:={gs:=putAt T.gs i s (if dP (T.gs.getD i [])then .empty else .qP),live:=T.live-1,dh:=if dP (T.gs.getD i [])then T.dh else T.dh+1}
def j4 (T:aC)(i s:Nat)(e:ay):aC:={gs:=putAt T.gs i s (.full e),live:=T.live+1,dh:=if(aH T.gs i s).jg then T.dh-1 else T.dh}
def replaceM (T:aC)(i s:Nat)(v:Nat)(e:ay):aC:={T with gs:=putAt T.gs i s (.full {e with val:=v})}
structure Small (T:aC):Prop where
 l0:0<=T.live
 l1:T.live<=1000
 t0:0<=T.dh
 t1:T.dh<=1000
 n1:T.gs.length<=64
theorem Gb (tb gb:Nat)(T:aC)(i s:Nat)(hi:i<T.gs.length)(hs:s<8)(e:ay)(he:aH T.gs i s= .full e)(hS:Small T)(w:World)(h:TabAt w tb gb T):
  Calls Tryz.prog 222 #[bT tb,Jk (some ⟨gb,i*25,none⟩) (s:Int)] w λx w'=>x= .returned .nilIface/\TabAt w' tb gb (jh T i s)/\Mod [tb,gb] w w':=by
 have hB:=(Below.refl w.heap.size w).alloc (zb _) (.cells #[.pointer (some ⟨gb,i*25,none⟩),nI s] 220);have hV:=aj.new w 220 #[.pointer (some ⟨gb,i*25,none⟩),nI s];obtain⟨W,hW⟩:∃W,W=w.alloc (.cells #[.pointer (some ⟨gb,i*25,none⟩),nI s] 220):=⟨_,rfl⟩;rw[<-hW]at hB hV;have ni:=h.below hB;have hGW:=ni.group i hi;have HE:=qd (WR gb 215 (dG (T.gs.take i)) (dG (T.gs.drop (i+1))) (i*25) (T.gs.getD i []) W hGW s hs e he);have HW:=qd hW;have HB:=qd hB;obtain⟨l0,l1,t0,t1,n1⟩:=hS
 have hi0:(0:Int)<=(i:Int):=by omega
 unfold bG at HE;unfold bT Jk;clear hW h hB hGW he n1
 cases ho:dP (T.gs.getD i [])with
 |true=>
  rw[ho]at HE;simp only[vy,if_true]at HE;have HO:=qd ho;clear ho;go_in;go_upto_region 1 with fail;rw[<-HW.o];have v:=hV.c2;go_wp2_with fail;refine(HE.o).mono ?_;rintro x w1 ⟨rfl,hG1,hm1⟩;have hT1:=ni.pU i hi hm1 hG1;obtain⟨c0,c1,c2⟩:=hT1.cells;have f1:=hT1.tab.frozen 1;have f2:=hT1.tab.frozen 2;have kR:=hT1.Cg (T.live-1);have hM2:=((((Mod.of_below HB.o [tb,gb]).then (hm1.more (by simp))).sl 1 (.int .i64 (T.live-1))));have HP:=qd (And.intro kR hM2);clear kR hM2 hT1 ni hG1 hm1 hV;go_wp2;go_ret;refine⟨rfl, ?_,HP.o.2⟩;have:=HP.o.1;unfold jh putAt;rw[HO.o];exact this
 |false=>
  rw[ho]at HE;simp only[Bool.not_false,yd,xx]at HE;have HO:=qd ho;clear ho;go_in;go_upto_region 1 with fail;rw[<-HW.o];have v:=hV.c2;go_wp2_with fail;refine(HE.o).mono ?_;rintro x w1 ⟨rfl,hG1,hm1⟩;have hT1:=ni.pU i hi hm1 hG1;obtain⟨c0,c1,c2⟩:=hT1.cells;have f1:=hT1.tab.frozen 1;have f2:=hT1.tab.frozen 2;have kR:=hT1.Cg (T.live-1);have hM2:=((((Mod.of_below HB.o [tb,gb]).then (hm1.more (by simp))).sl 1 (.int .i64 (T.live-1))));have C8:=kR.Lx (T.dh+1);have uK:=hM2.sl 2 (.int .i64 (T.dh+1));have HP:=qd (And.intro C8 uK);clear C8 uK kR hM2 hT1 ni hG1 hm1 hV;go_wp2;go_ret;refine⟨rfl, ?_,HP.o.2⟩;have:=HP.o.1;unfold jh putAt;rw[HO.o];exact this
theorem Jl (tb key hash:Nat)(ap fp:Option Addr)(fs:Int)(w:World):
  Calls Tryz.prog 121 #[bP tb key hash ap (-1) fp fs] w λx w'=>x= .returned (.tuple #[aP ⟨0,0,0⟩,.bool false])/\Below w.heap.size w w':=by
 obtain⟨W,hW,hB,hV,hD⟩:=lI w 222 #[pQ tb,nU key,nU hash,.pointer ap,.int .i64 (-1),.pointer fp,.int .i64 fs] 67 #[.int .u64 0,.int .u64 0,.int .u64 0];obtain⟨d0,d1,d2⟩:=hD.c3;obtain⟨f0,f1,f2⟩:=hD.f3;obtain⟨v0,v1,v2,v3,v4,v5,v6⟩:=hV.c7;have HW:=qd hW;have HB:=qd hB;unfold bP aP;clear hW hB hV hD;go_in;go_upto_region 1 with fail;rw[<-HW.o];go_wp2;refine bodyPost_ret (v:= .tuple #[.agg #[.int .u64 0,.int .u64 0,.int .u64 0],.bool false]) ?_ rfl ⟨rfl, ?_⟩
 ·simp[results,Tryz.results121,go_sem,d0,d1,d2]
 ·repeat (with_reducible first|exact HB.o|refine Below.setCell ?_ ?_ _)
  all_goals (simp;try omega)
theorem Jm (tb key hash gb:Nat)(fp:Option Addr)(fs:Int)(T:aC)(i s:Nat)(hi:i<T.gs.length)(hs:s<8)(e:ay)(he:aH T.gs i s= .full e)(w:World)(h:TabAt w tb gb T):
  Calls Tryz.prog 121 #[bP tb key hash (some ⟨gb,i*25,none⟩) (s:Int) fp fs] w λx w'=>x= .returned (.tuple #[aP e,.bool true])/\Below w.heap.size w w':=by
 obtain⟨W,hW,hB,hV,hD⟩:=lI w 222 #[pQ tb,nU key,nU hash,.pointer (some ⟨gb,i*25,none⟩),nI s,.pointer fp,.int .i64 fs] 67 #[.int .u64 0,.int .u64 0,.int .u64 0];obtain⟨v0,v1,v2,v3,v4,v5,v6⟩:=hV.c7;have ni:=h.below hB;have HE:=qd (F8 gb 215 (dG (T.gs.take i)) (dG (T.gs.drop (i+1))) (i*25) (T.gs.getD i []) W (ni.group i hi) s hs e he);have HW:=qd hW;have HB:=qd hB
 have hs0:¬(s:Int)<0:=by omega
 unfold bG aP at HE;unfold bP aP;clear hW hB hV h ni he;go_in;go_upto_region 1 with fail;rw[<-HW.o];go_wp2_with fail;refine(HE.o).mono ?_;rintro x w1 ⟨rfl,hb⟩;have hD1:=hD.below hb hD.lt;obtain⟨d0,d1,d2⟩:=hD1.c3;obtain⟨f0,f1,f2⟩:=hD1.f3;have hB1:=qd (bN hb HB.o);clear hb hD;go_wp2;refine bodyPost_ret (v:= .tuple #[.agg #[nU e.key,nU e.val,nU e.hash],.bool true]) ?_ rfl ⟨rfl, ?_⟩
 ·simp[results,Tryz.results121,go_sem,d0,d1,d2]
 ·repeat (with_reducible first|exact hB1.o|refine Below.setCell ?_ ?_ _)
  all_goals (simp;try omega)
theorem DV (tb key hash gb:Nat)(fp:Option Addr)(fs:Int)(T:aC)(i s v:Nat)(hi:i<T.gs.length)(hs:s<8)(e:ay)(he:aH T.gs i s= .full e)(w:World)(h:TabAt w tb gb T):
  Calls Tryz.prog 122 #[bP tb key hash (some ⟨gb,i*25,none⟩) (s:Int) fp fs,nU v] w λx w'=>x= .returned .nilIface/\TabAt w' tb gb (replaceM T i s v e)/\Mod [tb,gb] w w':=by
 have hB:=(Below.refl w.heap.size w).alloc (zb _) (.cells #[pQ tb,nU key,nU hash,.pointer (some ⟨gb,i*25,none⟩),nI s,.pointer fp,.int .i64 fs] 222);have hV:=aj.new w 222 #[pQ tb,nU key,nU hash,.pointer (some ⟨gb,i*25,none⟩),nI s,.pointer fp,.int .i64 fs];obtain⟨W,hW⟩:∃W,W=w.alloc (.cells #[pQ tb,nU key,nU hash,.pointer (some ⟨gb,i*25,none⟩),nI s,.pointer fp,.int .i64 fs] 222):=⟨_,rfl⟩;rw[<-hW]at hB hV;obtain⟨v0,v1,v2,v3,v4,v5,v6⟩:=hV.c7;have ni:=h.below hB;have HE:=qd (ac0 gb 215 (dG (T.gs.take i)) (dG (T.gs.drop (i+1))) (i*25) (T.gs.getD i []) W (ni.group i hi) s hs v e he);have HT:=qd ni;have HW:=qd hW;have HB:=qd hB
 have hs0:¬(s:Int)<0:=by omega
 unfold bG at HE;unfold bP;clear hW hB hV h ni he;go_in;go_upto_region 1 with fail;rw[<-HW.o];go_wp2_with fail;refine(HE.o).mono ?_;rintro x w1 ⟨rfl,hG1,hm1⟩;have HP:=qd (And.intro (HT.o.pU i hi hm1 hG1) ((Mod.of_below HB.o [tb,gb]).then (hm1.more (by simp))));clear hG1 hm1;go_wp2;go_ret;exact⟨rfl,HP.o.1,HP.o.2⟩
theorem Gc (tb key hash gb:Nat)(fp:Option Addr)(fs:Int)(T:aC)(i s:Nat)(hi:i<T.gs.length)(hs:s<8)(e:ay)(he:aH T.gs i s= .full e)(hS:Small T)(w:World)(h:TabAt w tb gb T):
  Calls Tryz.prog 186 #[bP tb key hash (some ⟨gb,i*25,none⟩) (s:Int) fp fs] w λx w'=>x= .returned .nilIface/\TabAt w' tb gb (jh T i s)/\Mod [tb,gb] w w':=by
 have hB:=(Below.refl w.heap.size w).alloc (zb _) (.cells #[pQ tb,nU key,nU hash,.pointer (some ⟨gb,i*25,none⟩),nI s,.pointer fp,.int .i64 fs] 222);have hV:=aj.new w 222 #[pQ tb,nU key,nU hash,.pointer (some ⟨gb,i*25,none⟩),nI s,.pointer fp,.int .i64 fs];obtain⟨W,hW⟩:∃W,W=w.alloc (.cells #[pQ tb,nU key,nU hash,.pointer (some ⟨gb,i*25,none⟩),nI s,.pointer fp,.int .i64 fs] 222):=⟨_,rfl⟩;rw[<-hW]at hB hV;obtain⟨v0,v1,v2,v3,v4,v5,v6⟩:=hV.c7;have HE:=qd (Gb tb gb T i s hi hs e he hS W (h.below hB));have HW:=qd hW;have HB:=qd hB
 have hs0:¬(s:Int)<0:=by omega
 unfold bT Jk at HE;unfold bP;clear hW hB hV h he hS;go_in;go_upto_region 1 with fail;rw[<-HW.o];go_wp2_with fail;refine(HE.o).mono ?_;rintro x w1 ⟨rfl,hG1,hm1⟩;have HP:=qd (And.intro hG1 ((Mod.of_below HB.o [tb,gb]).then hm1));clear hG1 hm1;go_wp2;go_ret;exact⟨rfl,HP.o.1,HP.o.2⟩
theorem Ch (tb gb:Nat)(ap:Option Addr)(T:aC)(i s:Nat)(e:ay)(hi:i<T.gs.length)(hs:s<8)(h64:e.hash<18446744073709551616)(he:(aH T.gs i s).isFull=false)(hS:Small T)(hroom:T.live+T.dh+1<=7*(T.gs.length:Int))(w:World)(h:TabAt w tb gb T):
  Calls Tryz.prog 123 #[bP tb e.key e.hash ap (-1) (some ⟨gb,i*25,none⟩) (s:Int),aP e] w λx w'=>x= .returned .nilIface/\TabAt w' tb gb (j4 T i s e)/\Mod [tb,gb] w w':=by
 obtain⟨W,hW,hB,hV,hE⟩:=lI w 222 #[pQ tb,nU e.key,nU e.hash,.pointer ap,.int .i64 (-1),.pointer (some ⟨gb,i*25,none⟩),nI s] 67 #[nU e.key,nU e.val,nU e.hash];have v:=hV.c7;obtain⟨e0,e1,e2⟩:=hE.c3;have ni:=h.below hB;have htl:=h.aS;have hgl:=h.aT;have HT:=qd (ni.below (Below.refl _ _).drew);have HE:=qd (acZ gb 215 (dG (T.gs.take i)) (dG (T.gs.drop (i+1))) (i*25) (T.gs.getD i []) W.drew (HT.o.group i hi) s hs e h64 he);have HL:=qd (UE tb gb T W ni hS.n1 ⟨hS.l0,hS.l1⟩ ⟨hS.t0,hS.t1⟩);have HW:=qd hW;have HB:=qd hB
 have hs0:¬(s:Int)<0:=by omega
 have hlf:¬7*(T.gs.length:Int)-T.live-T.dh<1:=by omega
 have hne:w.heap.size≠gb:=by omega
 obtain⟨l0,l1,t0,t1,n1⟩:=hS;rw[show(T.gs.getD i []).getD s .empty=aH T.gs i s from rfl]at HE;unfold bG aP at HE;unfold bT at HL;unfold bP aP;clear hW hB h ni he n1 hroom h64 hE
 cases ho:(aH T.gs i s).jg with
 |true=>
  rw[ho]at HE;have HO:=qd ho;clear ho;go_in;go_upto_region 1 with fail;rw[<-HW.o];go_wp2_with fail;refine(HL.o).mono ?_;rintro x w1 ⟨rfl,rfl⟩;go_wp2_with fail;refine(HE.o).mono ?_;rintro x w1 ⟨rfl,hG1,hm1⟩;have hT1:=HT.o.pU i hi hm1 hG1;obtain⟨c0,c1,c2⟩:=hT1.cells;have f1:=hT1.tab.frozen 1;have f2:=hT1.tab.frozen 2;have WT:=hV.drew.mod hm1 (by simpa using hne);have v:=WT.c7;have kR:=hT1.Cg (T.live+1);have hM2:=((((Mod.of_below HB.o.drew [tb,gb]).then (hm1.more (by simp))).sl 1 (.int .i64 (T.live+1))));have C8:=kR.Lx (T.dh-1);have uK:=hM2.sl 2 (.int .i64 (T.dh-1));have HP:=qd (And.intro C8 uK);clear C8 uK kR hM2 hT1 hG1 hm1 WT hV;go_wp2;go_ret;refine⟨rfl, ?_,HP.o.2⟩;have:=HP.o.1;unfold j4 putAt;rw[HO.o];exact this
 |false=>
  rw[ho]at HE;have HO:=qd ho;clear ho;go_in;go_upto_region 1 with fail;rw[<-HW.o];go_wp2_with fail;refine(HL.o).mono ?_;rintro x w1 ⟨rfl,rfl⟩;go_wp2_with fail;refine(HE.o).mono ?_;rintro x w1 ⟨rfl,hG1,hm1⟩;have hT1:=HT.o.pU i hi hm1 hG1;obtain⟨c0,c1,c2⟩:=hT1.cells;have f1:=hT1.tab.frozen 1;have f2:=hT1.tab.frozen 2;have WT:=hV.drew.mod hm1 (by simpa using hne);have v:=WT.c7;have kR:=hT1.Cg (T.live+1);have hM2:=((((Mod.of_below HB.o.drew [tb,gb]).then (hm1.more (by simp))).sl 1 (.int .i64 (T.live+1))));have HP:=qd (And.intro kR hM2);clear kR hM2 hT1 hG1 hm1 WT hV;go_wp2;go_ret;refine⟨rfl, ?_,HP.o.2⟩;have:=HP.o.1;unfold j4 putAt;rw[HO.o];exact this
end Go.Proofs.YtkddpchpcepjgaaGreatDoor

/-! Seeking over a list of groups. No program in sight. -/
namespace Go.Proofs.YtkddpchpcepjgaaGreatDoor.cu
set_option maxRecDepth 100000
set_option maxHeartbeats 2000000
open Go.RowKit cu Go
variable {gs : Tab} {hash i key : Nat} {pre rest : List Nat}
def kM (gs:Tab)(key hash:Nat):List Nat->Option (Nat×Nat)->Option (Nat×Nat)×Option (Nat×Nat)×Nat
 | [],fr=>(none,fr,0)
 |i::is,fr=>
  match iL (gs.getD i []) key hash with
  |some s=>(some (i,s),je fr i (gs.getD i []),1)
  |none=>if dP (gs.getD i [])then(none,je fr i (gs.getD i []),1)else
   let r:=kM gs key hash is (je fr i (gs.getD i []))
   (r.1,r.2.1,r.2.2+1)
theorem C9 (gs:Tab)(key hash:Nat):∀f j fr,jA gs key hash f j fr=kM gs key hash ((List.range f).map λk=>dx (hash/128) gs.length (j+k)) fr
 |0,_,_=>rfl
 |f+1,j,fr=>by
  rw[List.range_succ_eq_map,ye,js];have ih:=C9 gs key hash f (j+1);unfold jA kM;simp only[ky]
  have he:(List.range f).map ((λk=>dx (hash/128) gs.length (j+k))∘Nat.succ)=(List.range f).map λk=>dx (hash/128) gs.length (j+1+k):=by
   apply jx;intro k _;simp[Nat.succ_eq_add_one,Nat.add_assoc,Nat.add_comm 1 k]
  rw[he]
  cases hf:iL (gs.getD (dx (hash/128) gs.length j) []) key hash with
  |some s=>rfl
  |none=>
   cases ho:dP (gs.getD (dx (hash/128) gs.length j) [])with
   |true=>rfl
   |false=>
    simp only[yd,xx];rw[ih]
theorem zH (gs:Tab)(key hash:Nat):aJ gs key hash=kM gs key hash (walk (hash/128) gs.length) none:=by
 unfold aJ walk;rw[C9];congr 1;apply jx;intro k _;rw[yz]
def gy (gs:Tab)(pre:List Nat):Option (Nat×Nat):=pre.foldl (λfr i=>je fr i (gs.getD i [])) none
theorem vO (gs:Tab)(pre:List Nat)(i:Nat):gy gs (pre++[i])=je (gy gs pre) i (gs.getD i []):=by simp[gy]
def Passed (gs:Tab)(key hash:Nat)(i:Nat):Prop:=iL (gs.getD i []) key hash=none/\dP (gs.getD i [])=false
theorem vP (gs:Tab)(key hash:Nat):∀(pre rest:List Nat) (fr:Option (Nat×Nat)),(∀i∈pre,Passed gs key hash i)->
  kM gs key hash (pre++rest) fr=let r:=kM gs key hash rest (pre.foldl (λfr i=>je fr i (gs.getD i [])) fr);(r.1,r.2.1,r.2.2+pre.length)
 | [],rest,fr,_=>by simp
 |i::pre,rest,fr,h=>by
  obtain⟨h1,h2⟩:=h i (by simp);have ih:=vP gs key hash pre rest (je fr i (gs.getD i [])) (λx hx=>h x (by simp[hx]));rw[yb,kM,h1];simp only[h2,yd,xx];rw[ih];simp only[ju,ZS,Nat.add_assoc]
theorem Z8 (he:pre=walk (hash/128) gs.length)(h:∀i∈pre,Passed gs key hash i):aJ gs key hash=(none,gy gs pre,pre.length):=by
 rw[zH,<-he];have:=vP gs key hash pre [] none h;rw[yy]at this;rw[this];simp[kM,gy]
theorem Z9 {s:Nat}(he:pre++i::rest=walk (hash/128) gs.length)(h:∀i∈pre,Passed gs key hash i)(hf:iL (gs.getD i []) key hash=some s):aJ gs key hash=(some (i,s),gy gs (pre++[i]),(pre++[i]).length):=by
 rw[zH,<-he,vP gs key hash pre _ none h,vO];unfold kM;rw[hf];simp only[ZD,ZS,yv,yz,Nat.add_comm 1];rfl
theorem WU (he:pre++i::rest=walk (hash/128) gs.length)(h:∀i∈pre,Passed gs key hash i)(hf:iL (gs.getD i []) key hash=none)(ho:dP (gs.getD i [])=true):aJ gs key hash=(none,gy gs (pre++[i]),(pre++[i]).length):=by
 rw[zH,<-he,vP gs key hash pre _ none h,vO];unfold kM;rw[hf];simp only[ho,if_true,ZD,ZS,yv,yz,Nat.add_comm 1];rfl
end Go.Proofs.YtkddpchpcepjgaaGreatDoor.cu
