/- An append onto a row of the call's own, whose source reads as a list, nil and empty let in. No statement of the claim. -/
import Derived.Test.YtkddpchpcepjgaaGreatDoorKit2
namespace Go.Proofs.YtkddpchpcepjgaaGreatDoor
set_option maxRecDepth 100000
set_option maxHeartbeats 2000000
open Go.RowKit Go.Shelf cu Go
theorem qn:type_of% @List.length_take:=@List.length_take
theorem Q3:type_of% @List.getElem?_map:=@List.getElem?_map
theorem x8:type_of% @Result.andThen_ok:=@Result.andThen_ok
theorem kj:type_of% @Nat.eq_zero_or_pos:=@Nat.eq_zero_or_pos
variable {o : Oper} {a : Act} {K : Act -> World -> Prop} {Q : Exit -> Act -> World -> Prop} {ops : Array Oper} {rest : List Oper} {E : Prop} {B base bytes c m n size : Nat} {e t : TypeId} {v : Value} {news xs : List Value} {s x : Operand} {A : Option Addr}
section
variable {P : Program} (w : World)
theorem FJ (base:Nat)(t ty e:TypeId)(i:TypeInfo)(size:Nat)(ht:P.underlying t=some (.slice e))(hi:P.info? e=some i)(v:Value)(n:Nat)(xs:List Value)(hown:w.ownsRow base e size v n xs)(c:Nat):(Builtin.append_ #[t,t] ty #[v,.slice none 0 c]).run P w= .ok v w:=by
 rcases hown.2 with⟨rfl,rfl⟩|⟨g,cap,cur,rfl,_,_,hnc,_⟩
 ·simp[Builtin.append_,XN ht,sizeOf,typeInfo,hi,Builtin.lenOf,Builtin.firstCells]
 ·simp[Builtin.append_,XN ht,sizeOf,typeInfo,hi,Builtin.lenOf,Builtin.firstCells,hnc,storeCells]
theorem Kw (base:Nat)(t ty e:TypeId)(i:TypeInfo)(z:Value)(size bytes:Nat)(ht:P.underlying t=some (.slice e))(hi:P.info? e=some i)(hz:i.zero=some z)(hsize:i.size=size)(hby:i.bytes=bytes)(hzs:z.cells.size=size)(hsz:0<size)(v:Value)(n:Nat)(xs:List Value)(hown:w.ownsRow base e size v n xs)(B:Nat)(A:Option Addr)(m c:Nat)(news:List Value)(hr:Reads w B size A m news)(h1:∀u∈news,u.oneCell'=true)(h63:n+m<=maxLen)(hbytes:(n+m)*bytes<=140737488355328)(hbase:base<=w.heap.size):
  ∃v' w',(Builtin.append_ #[t,t] ty #[v,.slice A m c]).run P w= .ok v' w'/\w'.ownsRow base e size v' (n+m) (xs++news)/\w.grownBy w' v.ownBlock/\
   (v'.ownBlock=v.ownBlock\/v'.ownBlock=some w.heap.size):=by
 rcases A with _|ad
 ·have hm:m=0:=by
   rcases kj m with h0|h0
   ·exact h0
   ·obtain⟨b,off,h,_⟩:=hr.2 h0;cases h
  subst hm;have hn:news=[]:=List.eq_nil_of_length_eq_zero (by simpa using hr.1);subst hn;exact⟨v,w,FJ w base t ty e i size ht hi v n xs hown c,by simpa using hown,World.grownBy.refl w _,.inl rfl⟩
 ·have hcells:∀j u,news[j]?=some u->w.cell? (ad.add j)=some u:=by
   intro j u hu;rcases kj m with h0|h0
   ·subst h0;have hn:news=[]:=List.eq_nil_of_length_eq_zero (by simpa using hr.1);subst hn;simp at hu
   ·obtain⟨b,off,h,_,hc⟩:=hr.2 h0
    injection h with h
    subst h;rw[show(⟨b,off,none⟩:Addr).add j=⟨b,off+j,none⟩from by unfold Addr.add;split<;>simp_all];exact hc j u hu
  obtain⟨v',w',hrun,h2,h3,_,h5⟩:=run_append_own_at (P:=P) w base t ty e i z size bytes ht hi hz hsize hby hzs hsz v n xs hown ad m c news hr.1 hcells h1 h63 hbytes hbase;exact⟨v',w',hrun,h2,h3,h5⟩
theorem CY (s x:Operand)(t:TypeId)(ho:o.op= .call {callee:= .builtin .append,args:= #[s,x],argTypes:= #[t,t]})(base:Nat)(e:TypeId)(i:TypeInfo)(z:Value)(size bytes:Nat)(ht:P.underlying t=some (.slice e))(hi:P.info? e=some i)(hz:i.zero=some z)(hsize:i.size=size)(hby:i.bytes=bytes)(hzs:z.cells.size=size)(hsz:0<size)(v:Value)(n:Nat)(xs:List Value)(hs:a.eval s=v)(hown:w.ownsRow base e size v n xs)(B:Nat)(A:Option Addr)(m c:Nat)(news:List Value)(hx:a.eval x= .slice A m c)(hr:Reads w B size A m news)(h1:∀u∈news,u.oneCell'=true)(h63:n+m<=maxLen)(hbytes:(n+m)*bytes<=140737488355328)(hbase:base<=w.heap.size)(h:∀v' w',w'.ownsRow base e size v' (n+m) (xs++news)->w.grownBy w' v.ownBlock->(v'.ownBlock=v.ownBlock\/v'.ownBlock=some w.heap.size)->K (a.put o.dst v') w'):o.wp P a w K Q:=by
 obtain⟨v',w',hrun,h2,h3,h4⟩:=Kw (P:=P) w base t o.type e i z size bytes ht hi hz hsize hby hzs hsz v n xs hown B A m c news hr h1 h63 hbytes hbase;unfold Oper.wp execOp;simp only[ho,resolve,invoke,builtin,Sem.run_bind,Sem.run_pure,x8,List.map_toArray,ye,List.map_nil,hs,hx,hrun];exact h v' w' h2 h3 h4
theorem FK (hgd:o.guard=none)(s x:Operand)(t:TypeId)(ho:o.op= .call {callee:= .builtin .append,args:= #[s,x],argTypes:= #[t,t]})(base:Nat)(e:TypeId)(i:TypeInfo)(z:Value)(size bytes:Nat)(ht:P.underlying t=some (.slice e))(hi:P.info? e=some i)(hz:i.zero=some z)(hsize:i.size=size)(hby:i.bytes=bytes)(hzs:z.cells.size=size)(hsz:0<size)(v:Value)(n:Nat)(xs:List Value)(hs:a.eval s=v)(hown:w.ownsRow base e size v n xs)(B:Nat)(A:Option Addr)(m c:Nat)(news:List Value)(hx:a.eval x= .slice A m c)(hr:Reads w B size A m news)(h1:∀u∈news,u.oneCell'=true)(h63:n+m<=maxLen)(hbytes:(n+m)*bytes<=140737488355328)(hbase:base<=w.heap.size)(h:∀v' w',w'.ownsRow base e size v' (n+m) (xs++news)->w.grownBy w' v.ownBlock->(v'.ownBlock=v.ownBlock\/v'.ownBlock=some w.heap.size)->wpList P ops Q rest (a.put o.dst v') w'):wpList P ops Q (o::rest) a w:=
 wpList_plain hgd λ_ hK=>CY w s x t ho base e i z size bytes ht hi hz hsize hby hzs hsz v n xs hs hown B A m c news hx hr h1 h63 hbytes hbase λv' w' h2 h3 h4=>hK _ _ (h v' w' h2 h3 h4)
theorem Jd (hgd:o.guard=none)(s x:Operand)(t:TypeId)(ho:o.op= .call {callee:= .builtin .append,args:= #[s,x],argTypes:= #[t,t]})(base:Nat)(e:TypeId)(i:TypeInfo)(z:Value)(size bytes:Nat)(ht:P.underlying t=some (.slice e))(hi:P.info? e=some i)(hz:i.zero=some z)(hsize:i.size=size)(hby:i.bytes=bytes)(hzs:z.cells.size=size)(hsz:0<size)(v:Value)(n:Nat)(xs:List Value)(hs:a.eval s=v)(hown:w.ownsRow base e size v n xs)(B:Nat)(A:Option Addr)(m c:Nat)(news:List Value)(hx:a.eval x= .slice A m c)(hr:Reads w B size A m news)(h1:∀u∈news,u.oneCell'=true)(h63:n+m<=maxLen)(hbytes:(n+m)*bytes<=140737488355328)(hbase:base<=w.heap.size)(h:∀v' w',w'.ownsRow base e size v' (n+m) (xs++news)->w.grownBy w' v.ownBlock->(v'.ownBlock=v.ownBlock\/v'.ownBlock=some w.heap.size)->K (a.put o.dst v') w'):
  if Region.wanted o (yielded ops a.tmps)=true then Oper.wp P o a w K Q else E:=by
 have hw:Region.wanted o (yielded ops a.tmps)=true:=by simp[Region.wanted,hgd]
 rw[if_pos hw];exact CY w s x t ho base e i z size bytes ht hi hz hsize hby hzs hsz v n xs hs hown B A m c news hx hr h1 h63 hbytes hbase h
end
theorem Sz {v':Value}{w w':World}(hown:w.ownsRow base e size v n xs)(hbase:base<=w.heap.size)(hg:w.grownBy w' v.ownBlock)(hat:v'.ownBlock=v.ownBlock\/v'.ownBlock=some w.heap.size):o9 w base v w' v':=
 ⟨(Below.refl base w).grown hg hbase (λk hk=>(hown.lt k hk).1),hg,hat.imp_right λh=>⟨_,h,zb _⟩⟩
theorem oL {P:Program}{w:World}(hgd:o.guard=none)(ho:o.op= .call {callee:= .builtin .append,args:= #[s,x],argTypes:= #[t,t]})(hT:sZ P t e size bytes)(hown:w.ownsRow base e size v n xs)(hs:a.eval s=v)(hx:a.eval x= .slice A m c)(hr:Reads w B size A m news)(h1':(news.all λu=>u.oneCell')=true)(hn:n+m<33554432)(hbase:base<=w.heap.size)(h:∀v' w',w'.ownsRow base e size v' (n+m) (xs++news)->o9 w base v w' v'->K (a.put o.dst v') w'):
  if Region.wanted o (yielded ops a.tmps)=true then Oper.wp P o a w K Q else E:=by
 obtain⟨i,z,ht,hi,hz,hsize,hby,hzs,hsz,hb⟩:=hT
 refine Jd w hgd s x t ho base e i z size bytes ht hi hz hsize hby hzs hsz v n xs hs hown B A m c news hx hr (kz.1 h1') (by simp only[maxLen];omega) ?_ hbase
  (λv' w' h2 h3 h4=>h v' w' h2 (Sz hown hbase h3 h4))
 have:(n+m)*bytes<=33554432*4096:=vp (by omega) hb;omega
theorem Je {P:Program}{w:World}(hgd:o.guard=none)(ho:o.op= .call {callee:= .builtin .append,args:= #[s,x],argTypes:= #[t,t]})(hT:sZ P t e size bytes)(hown:w.ownsRow base e size v n xs)(hs:a.eval s=v)(hx:a.eval x= .slice A m c)(hr:Reads w B size A m news)(h1':(news.all λu=>u.oneCell')=true)(hn:n+m<33554432)(hbase:base<=w.heap.size)(h:∀v' w',w'.ownsRow base e size v' (n+m) (xs++news)->o9 w base v w' v'->wpList P ops Q rest (a.put o.dst v') w'):wpList P ops Q (o::rest) a w:=by
 obtain⟨i,z,ht,hi,hz,hsize,hby,hzs,hsz,hb⟩:=hT
 refine FK w hgd s x t ho base e i z size bytes ht hi hz hsize hby hzs hsz v n xs hs hown B A m c news hx hr (kz.1 h1') (by simp only[maxLen];omega) ?_ hbase
  (λv' w' h2 h3 h4=>h v' w' h2 (Sz hown hbase h3 h4))
 have:(n+m)*bytes<=33554432*4096:=vp (by omega) hb;omega
theorem ZU {w:World}(h:w.ownsRow base e size (.slice A n c) n xs):(A=none/\n=0/\c=0)\/∃g,A=some ⟨g,0,none⟩/\n<=c/\base<=g/\g<w.heap.size:=by
 rcases h.2 with⟨hv,hx⟩|⟨g,cap,cur,hv,hg,hh,hcap,_⟩
 ·injection hv with h1 h2 h3
  exact .inl ⟨h1,h2,h3⟩
 ·injection hv with h1 h2 h3
  subst h3;exact .inr ⟨g,h1,hcap,hg,(qi.1 hh).1⟩
theorem rZ {w:World}{g:Nat}{cs:Array Value}(h:aj w g t cs)(hl:cs.size=m*size):Reads w w.heap.size size (some ⟨g,0,none⟩) m cs.toList:=
 ⟨by simpa using hl,λ_=>⟨g,0,rfl,h.lt,λj u hu=>by
  rw[yz,h.cell]
  simpa using hu⟩⟩
end Go.Proofs.YtkddpchpcepjgaaGreatDoor

/-! A view's Entries by its contract. -/
namespace Go.Proofs.YtkddpchpcepjgaaGreatDoor
set_option maxRecDepth 100000
set_option maxHeartbeats 2000000
open Go.RowKit Go.Shelf cu Go
attribute [local go_sem] k9
theorem rG {w:World}{b b' e size n:Nat}{v:Value}{xs:List Value}(h:w.ownsRow b e size v n xs)(hb:b'<=b):w.ownsRow b' e size v n xs:=
 ⟨h.1,h.2.imp id fun⟨g,cap,cur,h1,h2,h3⟩=>⟨g,cap,cur,h1,qf hb h2,h3⟩⟩
theorem ZV:(Tryz.prog.info? 67).map (λi=>(i.zero,i.size,i.bytes))=some (some (.agg #[.int .u64 0,.int .u64 0,.int .u64 0]),3,24):=by kernel_rfl
theorem CZ {B base n:Nat}{V V2 w4:World}{e:TypeId}{size:Nat}{v v4:Value}{xs:List Value}(_:B<=V.heap.size)(hb:Below V.heap.size V V2)(ho:V2.ownsRow base e size v n xs)(hg:o9 V2 base v w4 v4):KeepsFrom B V w4:=by
 have h1:KeepsOthers V V2:=⟨hb.size,λk o hk _=>(hb.block k (qi.1 hk).1).trans hk⟩
 have h2:KeepsOthers V2 w4:=KeepsOthers.of_grownBy hg.lH (λj o hj ho'=>by
  rcases ho.2 with⟨rfl,_⟩|⟨g,cap,cur,rfl,_,hh,_⟩
  ·simp[Value.ownBlock]at hj
  ·have:g=j:=by simpa[Value.ownBlock]using hj
   subst this;rw[hh]at ho'
   cases ho';rfl)
 exact(h1.trans h2).from B
theorem ZW:sZ Tryz.prog 64 67 3 24:=BO Tryz.underlying64 ZV rfl (by decide) (by decide)
def vN (l:List Nat)(es:List ay):List ay:=(dD 0 (ru l)).map λi=>es.getD i ⟨0,0,0⟩
def atR (es:List ay)(pre:List (Fin 8)):List ay:=pre.map λx=>es.getD x.val ⟨0,0,0⟩
theorem Jf (l:List Nat):Marks (ru l):=rR _
theorem Ry (l:List Nat):(ru l).length=l.length:=by simp[ru,Dz]
theorem OO {l:List Nat}{es:List ay}{ys:List (Fin 8)}(hys:ys.map Fin.val=dD 0 ((ru l).map eZ)):atR es ys=vN l es:=by
 rw[wh (Jf l)]at hys;unfold vN atR;rw[<-hys,js];rfl
theorem ZX (es:List ay)(pre:List (Fin 8))(x:Fin 8):(atR es (pre++[x])).flatMap aU=(atR es pre).flatMap aU++aU (es.getD x.val ⟨0,0,0⟩):=by simp[atR]
theorem OP (gb:Nat)(t:TypeId)(ahead post:List Value)(go:Nat)(l:List Nat)(es:List ay)(w:World)(h:dB w gb t ahead post go l es)(hT:gW w):
  Calls Tryz.prog 245 #[bG ⟨gb,go,none⟩] w λe w'=>∃A c,e= .returned (.slice A (vN l es).length c)/\w'.ownsRow w.heap.size 67 3 (.slice A (vN l es).length c) (vN l es).length ((vN l es).flatMap aU)/\Below w.heap.size w w':=by
 obtain⟨W,hW,hB,hV,hO⟩:=lI w 211 #[.pointer (some ⟨gb,go,none⟩)] 64 #[.slice none 0 0];have hG:=h.below hB;have HF:=qd (Ul l h.l8 h.bytes);have HW:=qd hW;have HB:=qd hB;have hg:=qt w _ (hT 0 (by omega));have OM:=h.l8;unfold bG;clear hW hB;refine(vu (n:=10)).1 ?_
 have h1:1<=10:=by omega
 refine mD Tryz.func245 rfl trivial rfl ?_;simp only[Tryz.ntmps245,xn,ZS,yv,Nat.reduceAdd,Nat.reduceSub,j0,j7,xo,JS,ya,yb];refine VC.2 ?_;go_upto_region 2 with fail;rw[<-HW.o];have v0:=hV.cell 0;simp only[zr,zc]at v0;have hw:=hG.word;go_wp2_with fail;refine(HF.o _).mono ?_;rintro e w1 ⟨rfl,rfl⟩;go_wp2_with fail;refine(Jb (ru l) _).mono ?_;rintro e w1 ⟨rfl,hw1⟩;have hb1:Below W.heap.size W w1:=hw1▸(Below.refl W.heap.size W).alloc (zb _) _;have hL1:aj w1 W.heap.size 37 #[.int .u64 ((w8 (ru l):Nat):Int)]:=hw1▸aj.new W _ _;clear hw1;replace v0:=aA hb1 v0;replace hw:=aA hb1 hw;go_wp2_with fail;refine(VC (n:=10)).1 ?_;have hB1:Below w.heap.size w w1:=bN hb1 HB.o;have hlt3:w.heap.size+1<W.heap.size:=hO.lt;have hgl:gb<w.heap.size:=h.lt;have hT1:gW w1:=λi hi=>(hB1.cell (p:=⟨16,qD i,none⟩) hg).trans (hT i hi);have hG1:=hG.below hb1;have zD:Boxed w1 (w.heap.size+1) 64 (.slice none 0 0):=hO.below hb1 hO.lt;have hbl:=hB1.size;have hbs:=hb1.size;clear h
 refine wpIn_rangeFunc_ownH rfl h1 (gf:=230) (lb:= #[pQ W.heap.size]) rfl trivial (enters_of Tryz.func230 (by kernel_rfl) rfl)
  (F7 (10-1) (by omega) W.heap.size w1.heap.size [w.heap.size+1] (ru l) (by rw[Ry];exact OM) (Jf l).bytes w1 (by omega) (by simp;omega) (zb _) hL1.lt (hL1.cell 0) hT1) dW (yA (zb _)) (Below.refl _ _) (λ_=>rfl)
  (λpre V=>(∃v,Boxed V (w.heap.size+1) 64 v/\V.ownsRow w1.heap.size 67 3 v pre.length ((atR es pre).flatMap aU)/\True)/\aZ w1.heap.size [w.heap.size+1] w1 V)
  (λ_ _ _=>False)
  (OwnFrom.and (Own.from (holdsRow_own w1.heap.size (w.heap.size+1) 64 67 3 List.length (λpre=>(atR es pre).flatMap aU) (λ_ _=>True)) _) (rz (zb _) (zb _)))
  (λ_ _ _ _ _ hs _ _=>hs)
  ⟨⟨_,zD,⟨by simp[atR],.inl ⟨rfl,rfl⟩⟩,trivial⟩,aZ.refl _ _ _⟩
  (λx a' _=>a'={tmps:= #[.agg #[.pointer (some ⟨gb,go,none⟩)],pQ w.heap.size,.slice none 0 0,.pointer (some ⟨w.heap.size+1,0,none⟩),nI x.val,pQ w.heap.size,.pointer (some ⟨gb,go,none⟩),.pointer (some ⟨gb,go,none⟩),.pointer (some ⟨gb,go,none⟩),.int .u64 ((w8 l:Nat):Int),.int .u64 ((w8 (ru l):Nat):Int),.func (.func 230) #[] #[pQ W.heap.size],nI x.val,undef,undef,undef,undef,undef,undef,undef,undef,undef,undef,undef],defers:=[]})
  (λ_ _ _ _ _ _ hs _ _=>hs) ?assign ?body ?done ?stop
 case assign=>
  rintro lp pre x V K hi hK
  gi_wp2
  exact hK _ _ (KeepsFrom.refl _ _) (aZ.refl _ _ _) hi rfl
 case body=>
  rintro lp pre x a' V hl ⟨r,hr⟩ ⟨⟨v,xJ,hO,-⟩,pR⟩ rfl hlt;have Lr:x.val<8:=x.isLt;have af2:gb<w1.heap.size:=hG1.lt
  have hgn:gb∉[w.heap.size+1]:=by simp;omega
  have hv:=(pR.cell (p:=⟨w.heap.size,0,none⟩) (by show w.heap.size<_;omega) (by simp)).trans v0;have hGV:dB V gb t ahead post go l es:=⟨hG1.len,hG1.l8,hG1.bytes,hG1.e8,pR.blk hG1.blk af2 hgn⟩;obtain⟨A,c,rfl⟩:=bq hO;have ho:=xJ.cell;have s0:=hGV.at_ x.val 0 Lr (by omega);have s1:=hGV.at_ x.val 1 Lr (by omega);have s2:=hGV.at_ x.val 2 Lr (by omega);rw[ky]at s0
  have hxi:(x.val:Int)<8:=by omega
  have hx0:(0:Int)<=(x.val:Int):=by omega
  have eO:=qd (ZX es pre x);have DT:=pR.size;clear hGV;generalize es.getD x.val ⟨0,0,0⟩=x1 at*;simp only[aU,zc,Q2]at s0 s1 s2
  gi_wp2_with fail
  refine Cb (λ(w':World)=>w'.cell? ⟨w.heap.size,0,none⟩=some (.pointer (some ⟨gb,go,none⟩))/\w'.cell? ⟨w.heap.size+1,0,none⟩=some (.slice A pre.length c)/\w'.cell? ⟨gb,go+1+x.val*3,none⟩=some (nU x1.key)/\w'.cell? ⟨gb,go+1+x.val*3+1,none⟩=some (nU x1.val)/\w'.cell? ⟨gb,go+1+x.val*3+2,none⟩=some (nU x1.hash)) [9,10] (by kernel_rfl) (by kernel_rfl) (by rintro⟨_,_,h⟩;exact h) ?_
  try (change cO _ _ _ _ _ _ _ _ _ (World.drew _))
  have hHeld:=(⟨hv,ho,s0,s1,s2⟩:_/\_/\_/\_/\_);refine vT 0 rfl ?_;refine vW 1 rfl ?_;refine vW 3 rfl ?_;refine nT 2 rfl λK hK=> ?_;go_simp;refine kO hK ?_;clear hK K;refine vW 4 rfl ?_;refine vW 5 rfl ?_;refine vW 6 rfl ?_;refine vT 7 rfl ?_;refine nT 8 rfl λK hK=> ?_;go_simp;have hb2:Below V.heap.size V (V.alloc (.cells #[nU x1.key,nU x1.val,nU x1.hash] 67)).drew:=((Below.refl V.heap.size V).alloc (zb _) _).drew;obtain⟨V2,hV2⟩:∃V2,V2=(V.alloc (.cells #[nU x1.key,nU x1.val,nU x1.hash] 67)).drew:=⟨_,rfl⟩;have hN2:aj V2 V.heap.size 67 #[nU x1.key,nU x1.val,nU x1.hash]:=hV2▸(aj.new V _ _).drew;have hO2:V2.ownsRow w1.heap.size 67 3 (.slice A pre.length c) pre.length ((atR es pre).flatMap aU):=own_below hO (hV2▸hb2) (zb _);rw[<-hV2]at hb2|-;clear hV2;have hHeld:=(⟨aA hb2 hv,aA hb2 ho,aA hb2 s0,aA hb2 s1,aA hb2 s2⟩:_/\_/\_/\_/\_);refine kO hK ?_;clear hK K;refine nT 9 rfl λK hK=> ?_;refine oL (by rfl) (by rfl) ZW hO2 (by rfl) (by rfl) (rZ (size:=3) (m:=1) hN2 (by rfl)) (by rfl) (by omega) (by have:=hb2.size;have:=DT;omega) ?_;intro v4 w4 dM iP;obtain⟨A4,c4,rfl⟩:=bq dM;have hox:Boxed w4 (w.heap.size+1) 64 (.slice A pre.length c):=(iP.below.block _ (by omega)).trans ((hb2.block _ xJ.lt).trans xJ);have o4:=hox.cell;have f4:=hox.frozen;have hK4:aZ w1.heap.size [w.heap.size+1] w1 w4:=dW pR (dW ((Mod.of_below hb2 _).xQ DT) (aZ.of_below iP.below));have DU:KeepsFrom w1.heap.size V w4:=CZ DT hb2 hO2 iP
  refine kO hK ?_;clear hK K;refine nT 10 rfl λK hK=> ?_;go_simp;refine kO hK ?_;clear hK K;refine aV (by kernel_rfl) ?_ _;have hfin:Boxed (w4.setCell ⟨w.heap.size+1,0,none⟩ (.slice A4 (pre.length+1) c4)) (w.heap.size+1) 64 (.slice A4 (pre.length+1) c4):=hox.set _
  have ZY:(Value.slice A4 (pre.length+1) c4).ownBlock≠some (w.heap.size+1):=λhe=>by
   have:=(dM.lt _ he).1;omega
  have hown5:=dM.kept (grownBy_setCell' w4 (w.heap.size+1) (.slice A4 (pre.length+1) c4)) (.inr ZY);have xg:=DU.trans ((KeepsOthers.setCell w4 ⟨w.heap.size+1,0,none⟩ (.slice A4 (pre.length+1) c4)).from _);have zF:aZ w1.heap.size [w.heap.size+1] w1 (w4.setCell ⟨w.heap.size+1,0,none⟩ (.slice A4 (pre.length+1) c4)):=hK4.ak (.inl (by simp)) _ _;have WL:aZ w1.heap.size [w.heap.size+1] V (w4.setCell ⟨w.heap.size+1,0,none⟩ (.slice A4 (pre.length+1) c4)):=(dW ((Mod.of_below hb2 _).xQ DT) (aZ.of_below iP.below)).ak (.inl (by simp)) _ _;have HE:=qd (And.intro xg (And.intro WL (And.intro (And.intro hfin hown5) zF)));clear xg WL hfin hown5 zF DU hK4 dM iP hox
  gi_wp2
  exact⟨HE.o.1,HE.o.2.1,⟨_,HE.o.2.2.1.1,by rw[eO.o,ZD];exact HE.o.2.2.1.2⟩,HE.o.2.2.2⟩
 case done=>
  rintro D ys V hD hys ⟨⟨v,xJ,hO,-⟩,pR⟩ rY;obtain⟨A,c,rfl⟩:=bq hO;have ho:=xJ.cell
  have hlen:ys.length=(vN l es).length:=by rw[<-OO hys];simp[atR]
  rw[OO hys,hlen]at hO;rw[hlen]at xJ ho;have SA:=(Mod.of_below hB1 [w.heap.size+1]).then pR.mod;have iB:=qd hO;clear hO;go_wp2;refine yB ⟨by simp,.inl ⟨_,_,rfl,run_takeDeferred rY, ?_⟩⟩;refine⟨.slice A (vN l es).length c, ?_,A,c,rfl, ?_, ?_⟩
  ·simp[results,Tryz.f245,go_sem]
  ·exact rG (ownsRow_putObj iB.o _ rY rfl) (by omega)
  ·exact(SA.below (by simp) (zb _)).trans (belowK_b (w:=w) (zb _) V D _ _ (by omega) rY rfl rfl)
 case stop=>
  rintro D c pre V hD hS hI;exact hI.elim
end Go.Proofs.YtkddpchpcepjgaaGreatDoor

/-! A group as slots and as bytes: what the lanes tell of the slots. No program in sight. -/
namespace Go.Proofs.YtkddpchpcepjgaaGreatDoor.cu
set_option maxRecDepth 100000
set_option maxHeartbeats 2000000
open Go.RowKit Go.Shelf cu Go
def Slot.ent:Slot->ay
 | .full e=>e
 |_=>⟨0,0,0⟩
theorem SB (h b:Nat):l9 h b=128↔b=h:=by unfold l9;split<;>simp_all
theorem Z0 (x:Slot)(h:Nat)(hh:h<128):x.byte=h↔∃e,x= .full e/\e.hash % 128=h:=by
 cases x with
 |empty=>simp[Slot.byte];omega
 |qP=>simp[Slot.byte];omega
 |full e=>simp[Slot.byte]
theorem Jg (key hash:Nat)(f:Nat->ay):∀(G:lU) (s:Nat),(∀k x,G[k]?=some x->f (s+k)=x.ent)->
  (dD s (G.map λx=>l9 (hash % 128) x.byte)).find? (λi=>(f i).key==key)=(iL G key hash).map (s+·)
 | [],_,_=>rfl
 |x::G,s,hf=>by
  have ih:=Jg key hash f G (s+1) (λk y hy=>by have:=hf (k+1) y (by simpa using hy);rwa [show s+(k+1)=s+1+k by omega]at this);have h0:f s=x.ent:=hf 0 x rfl
  have hm:(iL G key hash).map (s+1+·)=((iL G key hash).map (·+1)).map (s+·):=by
   cases iL G key hash with
   |none=>rfl
   |some k=>simp;omega
  rw[ye,dD];unfold iL at ih hm|-;rw[List.findIdx?_cons];by_cases hx:x.byte=hash % 128
  ·obtain⟨e,rfl,he⟩:=(Z0 x _ (by omega)).1 hx;rw[if_pos ((SB _ _).2 hx),List.find?_cons,h0];by_cases hk:e.key=key
   ·have:Slot.isKey key hash (.full e)=true:=by simp[Slot.isKey,he,hk]
    rw[this];simp[Slot.ent,hk]
   ·have:Slot.isKey key hash (.full e)=false:=by simp[Slot.isKey,hk]
    rw[this]
    have h1:((Slot.ent (.full e)).key==key)=false:=by simpa[Slot.ent]using hk
    rw[h1];simp only[yd,xx];rw[ih,hm]
  ·have:Slot.isKey key hash x=false:=by
    cases x with
    |empty=>rfl
    |qP=>rfl
    |full e=>simp[Slot.byte]at hx;simp[Slot.isKey,hx]
   rw[if_neg (λh=>hx ((SB _ _).1 h)),this,ih,hm];simp
theorem WM (x:Slot):eZ x.byte=128↔x.isFull=false:=by
 cases x with
 |empty=>simp[Slot.byte,eZ,Slot.isFull]
 |qP=>simp[Slot.byte,eZ,Slot.isFull]
 |full e=>
  have:=kA e.hash (show 0<128 by omega)
  have h1:eZ (e.hash % 128)=0:=by unfold eZ;rw[if_pos this]
  show eZ (e.hash % 128)=128↔_;rw[h1];simp[Slot.isFull]
theorem UD (G:lU):firstM ((G.map Slot.byte).map eZ)=mg G:=by
 unfold firstM mg;rw[js,List.findIdx?_map];congr 1;funext x;rw[xy];simp[WM]
theorem G5 (G:lU):(G.map Slot.byte).any (·==128)=dP G:=by
 unfold dP;rw[List.any_map];congr 1;funext x
 cases x with
 |empty=>rfl
 |qP=>rfl
 |full e=>simp[Slot.byte,Slot.isEmpty];omega
theorem Jh (f:Nat->ay):∀(G:lU) (s:Nat),(∀k x,G[k]?=some x->f (s+k)=x.ent)->(dD s (G.map λx=>eZ (255-x.byte))).map f=bX G
 | [],_,_=>rfl
 |x::G,s,hf=>by
  have ih:=Jh f G (s+1) (λk y hy=>by have:=hf (k+1) y (by simpa using hy);rwa [show s+(k+1)=s+1+k by omega]at this);have h0:f s=x.ent:=hf 0 x rfl
  have hg:bX (x::G)=x.ents++bX G:=by simp[bX]
  rw[ye,dD,hg]
  cases x with
  |empty=>rw[if_neg (by simp[Slot.byte,eZ]),ih];rfl
  |qP=>rw[if_neg (by simp[Slot.byte,eZ]),ih];rfl
  |full e=>
   have h1:eZ (255-e.hash % 128)=128:=by unfold eZ;rw[if_neg (by omega)]
   rw[if_pos (show eZ (255-(Slot.full e).byte)=128 from h1),ye,ih,h0];rfl
theorem zG (G:lU)(i:Nat)(x:Slot):(G.set i x).map Slot.byte=(G.map Slot.byte).set i x.byte:=List.map_set
theorem rA (G:lU)(i:Nat)(x:Slot):(G.set i x).map Slot.ent=(G.map Slot.ent).set i x.ent:=List.map_set
theorem Ce (G:lU)(i:Nat):(G.map Slot.ent).getD i ⟨0,0,0⟩=(G.getD i .empty).ent:=by
 rw[zv,zv,Q3]
 cases G[i]?<;>rfl
theorem Ls (G:lU)(i:Nat)(hi:i<G.length):(G.map Slot.byte).getD i 0=(G.getD i .empty).byte:=by
 rw[zv,zv,Q3,zg hi];rfl
theorem WO (x:Slot):x.byte<128↔x.isFull=true:=by
 cases x with
 |empty=>simp[Slot.byte,Slot.isFull]
 |qP=>simp[Slot.byte,Slot.isFull]
 |full e=>simp[Slot.byte,Slot.isFull];omega
theorem WQ (x:Slot)(h:x.isFull=false):(x.byte==254)=x.jg:=by
 cases x with
 |empty=>rfl
 |qP=>rfl
 |full e=>cases h
end Go.Proofs.YtkddpchpcepjgaaGreatDoor.cu

/-! A group of slots in memory: its view's functions, told of slots. -/
namespace Go.Proofs.YtkddpchpcepjgaaGreatDoor
set_option maxRecDepth 100000
set_option maxHeartbeats 2000000
open Go.RowKit Go.Shelf cu Go
def nM (w:World)(gb:Nat)(t:TypeId)(pre post:List Value)(go:Nat)(G:lU):Prop:=dB w gb t pre post go (G.map Slot.byte) (G.map Slot.ent)
section
variable {w w' : World} {gb go : Nat} {t : TypeId} {pre post : List Value} {G : lU}
theorem nM.len8 (h:nM w gb t pre post go G):G.length=8:=by have:=h.l8;simpa using this
theorem nM.lt (h:nM w gb t pre post go G):gb<w.heap.size:=h.blk.lt
theorem nM.mod {S:List Nat}(h:nM w gb t pre post go G)(hm:Mod S w w')(hg:gb∉S):nM w' gb t pre post go G:=dB.mod h hm hg
instance {w w':World}{gb:Nat}{t:TypeId}{pre post:List Value}{go:Nat}{G:lU}:Md (nM w gb t pre post go G) w w' (nM w' gb t pre post go G) (λS=>gb∉S):=⟨λh hm hs=>nM.mod h hm hs⟩
theorem nM.below (h:nM w gb t pre post go G)(hb:Below w.heap.size w w'):nM w' gb t pre post go G:=dB.below h hb
theorem nM.keep {n₀:Nat}{S:List Nat}(h:nM w gb t pre post go G)(hm:aZ n₀ S w w')(hn:gb<n₀)(hg:gb∉S):nM w' gb t pre post go G:=⟨h.len,h.l8,h.bytes,h.e8,hm.blk h.blk hn hg⟩
end
section
variable (gb : Nat) (t : TypeId) (pre post : List Value) (go : Nat) (G : lU) (w : World) (h : nM w gb t pre post go G)
include h
theorem Bc (i:Nat)(hi:i<8):(G.map Slot.byte).getD i 0<128↔(G.getD i .empty).isFull=true:=by
 rw[Ls G i (by rw[h.len8];exact hi),WO]
theorem Z4 (key hash:Nat)(h64:hash<18446744073709551616)(hT:gW w):
  Calls Tryz.prog 158 #[bG ⟨gb,go,none⟩,nU key,nU hash] w λe w'=>e= .returned (.int .i64 (uZ (iL G key hash)))/\Below w.heap.size w w':=by
 have:=WK gb t pre post go _ _ key hash h64 w h hT;unfold Fq at this;rw[js]at this
 have he:=Jg key hash (λi=>(G.map Slot.ent).getD i ⟨0,0,0⟩) G 0 (λk x hk=>by
  rw[yz,Ce,zv,hk];rfl)
 have hm:(iL G key hash).map (0+·)=iL G key hash:=by cases iL G key hash<;>simp
 rw[hm]at he;rw[show(dD 0 (List.map (l9 (hash % 128)∘Slot.byte) G))=dD 0 (G.map λx=>l9 (hash % 128) x.byte)from rfl,he]at this;exact this
theorem Z5 (hT:gW w):Calls Tryz.prog 157 #[bG ⟨gb,go,none⟩] w λe w'=>e= .returned (.int .i64 (uZ (mg G)))/\Below w.heap.size w w':=by
 have:=WC gb t pre post go _ _ w h hT
 rwa [UD]at this
theorem Z6:Calls Tryz.prog 159 #[bG ⟨gb,go,none⟩] w λe w'=>e= .returned (.bool (dP G))/\Below w.heap.size w w':=by
 have:=DK gb t pre post go _ _ w h
 rwa [G5]at this
theorem F8 (i:Nat)(hi:i<8)(e:ay)(he:G.getD i .empty= .full e):
  Calls Tryz.prog 160 #[bG ⟨gb,go,none⟩,nI i] w λx w'=>x= .returned (.tuple #[aP e,.bool true])/\Below w.heap.size w w':=by
 have:=OD gb t pre post go _ _ i hi w h ((Bc gb t pre post go G w h i hi).2 (by rw[he];rfl))
 rwa [Ce,he]at this
theorem Lu (i:Nat)(hi:i<8)(he:(G.getD i .empty).isFull=false)(E:Nat->Addr)(hE:bY E w 5):
  Calls Tryz.prog 160 #[bG ⟨gb,go,none⟩,nI i] w λx w'=>x= .returned (.tuple #[aP ⟨0,0,0⟩,.bool false])/\Below w.heap.size w w':=
 Uv gb t pre post go _ _ i hi w h (λhl=>by rw[(Bc gb t pre post go G w h i hi).1 hl]at he;cases he) E hE
theorem acZ (i:Nat)(hi:i<8)(e:ay)(h64:e.hash<18446744073709551616)(he:(G.getD i .empty).isFull=false):
  Calls Tryz.prog 163 #[bG ⟨gb,go,none⟩,nI i,aP e] w λx w'=>x= .returned (.tuple #[.bool (G.getD i .empty).jg,.nilIface])/\nM w' gb t pre post go (G.set i (.full e))/\Mod [gb] w w':=by
 have:=ZM gb t pre post go _ _ i hi e h64 w h (λhl=>by rw[(Bc gb t pre post go G w h i hi).1 hl]at he;cases he);rw[Ls G i (by rw[h.len8];exact hi),WQ _ he]at this;refine this.mono λx w' ⟨h1,h2,h3⟩=>⟨h1, ?_,h3⟩;unfold nM;rw[zG,rA];exact h2
theorem ac0 (i:Nat)(hi:i<8)(v:Nat)(e:ay)(he:G.getD i .empty= .full e):
  Calls Tryz.prog 161 #[bG ⟨gb,go,none⟩,nI i,nU v] w λx w'=>x= .returned .nilIface/\nM w' gb t pre post go (G.set i (.full {e with val:=v}))/\Mod [gb] w w':=by
 have OM:i<G.length:=by rw[h.len8];exact hi
 have:=ZN gb t pre post go _ _ i hi v w h ((Bc gb t pre post go G w h i hi).2 (by rw[he];rfl));rw[Ce,he]at this;refine this.mono λx w' ⟨h1,h2,h3⟩=>⟨h1, ?_,h3⟩;unfold nM;rw[zG,rA]
 have hb:(G.map Slot.byte).set i (Slot.full {e with val:=v}).byte=G.map Slot.byte:=by
  apply Kx;intro k;rw[qr];split
  ·next hk=>
   subst hk;rw[if_pos (by simpa using OM),Q3,zg OM]
   have:G[i]= .full e:=by rw[<-he,cu.getD_in OM]
   rw[this];rfl
  ·rfl
 rw[hb];exact h2
theorem WR (i:Nat)(hi:i<8)(e:ay)(he:G.getD i .empty= .full e):
  Calls Tryz.prog 243 #[bG ⟨gb,go,none⟩,nI i] w λx w'=>x= .returned (.tuple #[.bool !(dP G),.nilIface])/\nM w' gb t pre post go (G.set i (if dP G then .empty else .qP))/\Mod [gb] w w':=by
 have hm:=(Bc gb t pre post go G w h i hi).2 (by rw[he];rfl)
 cases ho:dP G with
 |true=>
  refine(I9 gb t pre post go _ _ i hi w h hm (by rw[G5];exact ho)).mono λx w' ⟨h1,h2,h3⟩=>⟨h1, ?_,h3⟩;unfold nM;rw[zG,rA];exact h2
 |false=>
  refine(Ja gb t pre post go _ _ i hi w h hm (by rw[G5];exact ho)).mono λx w' ⟨h1,h2,h3⟩=>⟨h1, ?_,h3⟩;unfold nM;rw[zG,rA];exact h2
theorem Lv:Calls Tryz.prog 118 #[bG ⟨gb,go,none⟩] w λx w'=>x= .returned undef/\nM w' gb t pre post go (List.replicate 8 .empty)/\Mod [gb] w w':=Uw gb t pre post go _ _ w h
theorem Ga (hT:gW w):Calls Tryz.prog 245 #[bG ⟨gb,go,none⟩] w λe w'=>∃A c,e= .returned (.slice A (bX G).length c)/\
  w'.ownsRow w.heap.size 67 3 (.slice A (bX G).length c) (bX G).length ((bX G).flatMap aU)/\Below w.heap.size w w':=by
 have:=OP gb t pre post go _ _ w h hT
 have he:vN (G.map Slot.byte) (G.map Slot.ent)=bX G:=by
  unfold vN ru Dz;rw[js,js];exact Jh _ G 0 (λk x hk=>by rw[yz,Ce,zv,hk];rfl)
 rwa [he]at this
end
end Go.Proofs.YtkddpchpcepjgaaGreatDoor

/-! A table in memory. -/
namespace Go.Proofs.YtkddpchpcepjgaaGreatDoor
set_option maxRecDepth 100000
set_option maxHeartbeats 2000000
open Go.RowKit Go.Shelf cu Go
variable {G : lU} {gs : Tab} {i : Nat} {S : List Nat}
structure aC where
 gs:Tab
 live:Int
 dh:Int
def yJ (G:lU):List Value:=fZ (G.map Slot.byte) (G.map Slot.ent)
def dG (gs:Tab):List Value:=gs.flatMap yJ
structure TabAt (w:World)(tb gb:Nat)(T:aC):Prop where
 wide:rE T.gs
 tab:aj w tb 208 #[.slice (some ⟨gb,0,none⟩) T.gs.length T.gs.length,.int .i64 T.live,.int .i64 T.dh]
 Ji:aj w gb 215 (dG T.gs).toArray
 ne:tb≠gb
theorem Nq (h:G.length=8):(yJ G).length=25:=by unfold yJ fZ;rw[ZS,iA,qS,h]
theorem Jj (h:rE gs):(dG gs).length=gs.length*25:=by
 induction gs with
 |nil=>rfl
 |cons G gs ih=>
  have h1:=Nq (h G (by simp));have h2:=ih (λX hX=>h X (by simp[hX]));unfold dG at h2|-;rw[yn,ZD,h1,h2,ZS];omega
theorem Rz (hi:i<gs.length):dG gs=dG (gs.take i)++(yJ (gs.getD i [])++dG (gs.drop (i+1))):=by
 conv=>lhs;rw[yE (d:=[]) hi]
 simp[dG]
theorem OQ (hi:i<gs.length)(G:lU):dG (gs.set i G)=dG (gs.take i)++(yJ G++dG (gs.drop (i+1))):=by
 rw[pJ hi];simp[dG]
theorem Z7 (h:rE gs)(i:Nat)(hG:G.length=8):rE (gs.set i G):=λX hX=>by
 rcases kc hX with hX|rfl
 ·exact h X hX
 ·exact hG
section
variable {w w' : World} {tb gb : Nat} {T : aC}
theorem TabAt.aS (h:TabAt w tb gb T):tb<w.heap.size:=h.tab.lt
theorem TabAt.aT (h:TabAt w tb gb T):gb<w.heap.size:=h.Ji.lt
theorem TabAt.mod (h:TabAt w tb gb T)(hm:Mod S w w')(h1:tb∉S)(h2:gb∉S):TabAt w' tb gb T:=⟨h.wide,h.tab.mod hm h1,h.Ji.mod hm h2,h.ne⟩
instance {w w':World}{tb gb:Nat}{T:aC}:Md (TabAt w tb gb T) w w' (TabAt w' tb gb T) (λS=>tb∉S/\gb∉S):=⟨λh hm hs=>h.mod hm hs.1 hs.2⟩
theorem TabAt.below (h:TabAt w tb gb T)(hb:Below w.heap.size w w'):TabAt w' tb gb T:=h.mod (Mod.of_below hb []) (by simp) (by simp)
theorem TabAt.keep {n₀:Nat}(h:TabAt w tb gb T)(hm:aZ n₀ S w w')(h1:tb<n₀)(h2:gb<n₀)(h3:tb∉S)(h4:gb∉S):TabAt w' tb gb T:=⟨h.wide,hm.blk h.tab h1 h3,hm.blk h.Ji h2 h4,h.ne⟩
theorem TabAt.group (h:TabAt w tb gb T)(i:Nat)(hi:i<T.gs.length):nM w gb 215 (dG (T.gs.take i)) (dG (T.gs.drop (i+1))) (i*25) (T.gs.getD i []):=by
 have hw:rE (T.gs.take i):=λX hX=>h.wide X (List.mem_of_mem_take hX);have h8:=h.wide.at_ hi;refine⟨by rw[Jj hw,qn];congr 1;omega,by simpa using h8,Wp _,by simpa using h8, ?_⟩;have:=h.Ji;rw[Rz hi]at this;exact this
theorem TabAt.pU (h:TabAt w tb gb T)(i:Nat)(hi:i<T.gs.length)(hm:Mod [gb] w w')(hG:nM w' gb 215 (dG (T.gs.take i)) (dG (T.gs.drop (i+1))) (i*25) G):TabAt w' tb gb {T with gs:=T.gs.set i G}:=by
 refine⟨Z7 h.wide i hG.len8, ?_, ?_,h.ne⟩
 ·have:=h.tab.mod hm (by simpa using h.ne);simpa using this
 ·show aj w' gb _ (dG (T.gs.set i G)).toArray;rw[OQ hi];exact hG.blk
theorem TabAt.cells (h:TabAt w tb gb T):w.cell? ⟨tb,0,none⟩=some (.slice (some ⟨gb,0,none⟩) T.gs.length T.gs.length)/\w.cell? ⟨tb,1,none⟩=some (.int .i64 T.live)/\w.cell? ⟨tb,2,none⟩=some (.int .i64 T.dh):=
 ⟨h.tab.cell 0,h.tab.cell 1,h.tab.cell 2⟩
theorem TabAt.Cg (h:TabAt w tb gb T)(x:Int):TabAt (w.setCell ⟨tb,1,none⟩ (.int .i64 x)) tb gb {T with live:=x}:=
 ⟨h.wide,h.tab.ak 1 _,h.Ji.far (p:=⟨tb,1,none⟩) (Ks h.ne) _,h.ne⟩
theorem TabAt.Lx (h:TabAt w tb gb T)(x:Int):TabAt (w.setCell ⟨tb,2,none⟩ (.int .i64 x)) tb gb {T with dh:=x}:=
 ⟨h.wide,h.tab.ak 2 _,h.Ji.far (p:=⟨tb,2,none⟩) (Ks h.ne) _,h.ne⟩
end
def bT (tb:Nat):Value:=pQ tb
theorem nN (tb gb:Nat)(T:aC)(w:World)(h:TabAt w tb gb T):Calls Tryz.prog 139 #[bT tb] w λe w'=>e= .returned (nI T.gs.length)/\w=w':=by
 obtain⟨h0,h1,h2⟩:=h.cells;clear h;unfold bT;go_in;go_wp2;go_ret;exact⟨rfl,rfl⟩
theorem WS (tb gb:Nat)(T:aC)(w:World)(h:TabAt w tb gb T):Calls Tryz.prog 164 #[bT tb] w λe w'=>e= .returned (.int .i64 T.live)/\w=w':=by
 obtain⟨h0,h1,h2⟩:=h.cells;clear h;unfold bT;go_in;go_wp2;go_ret;exact⟨rfl,rfl⟩
theorem RA (tb gb:Nat)(T:aC)(w:World)(h:TabAt w tb gb T):Calls Tryz.prog 165 #[bT tb] w λe w'=>e= .returned (.int .i64 T.dh)/\w=w':=by
 obtain⟨h0,h1,h2⟩:=h.cells;clear h;unfold bT;go_in;go_wp2;go_ret;exact⟨rfl,rfl⟩
theorem UE (tb gb:Nat)(T:aC)(w:World)(h:TabAt w tb gb T)(hn:T.gs.length<=64)(hl:0<=T.live/\T.live<=1000)(ht:0<=T.dh/\T.dh<=1000):
  Calls Tryz.prog 162 #[bT tb] w λe w'=>e= .returned (.int .i64 (7*(T.gs.length:Int)-T.live-T.dh))/\w'=w.drew:=by
 obtain⟨h0,h1,h2⟩:=h.cells;obtain⟨l0,l1⟩:=hl;obtain⟨t0,t1⟩:=ht;clear h;generalize T.gs.length=n at*;generalize T.live=a at*;generalize T.dh=b at*;unfold bT;go_in;go_upto_region 1 with fail;go_region;go_wp2;go_ret;exact⟨iE (by omega),rfl⟩
