/- snap.Parse of any text: the walk. No statement of the claim. -/
import Derived.Test.YtjfgpnapccdnlaaGreatDoorSnS
import Derived.Test.YtjfgpnapccdnlaaGreatDoorBuilder
import Derived.Test.YtjfgpnapccdnlaaGreatDoorSqT
import Derived.Test.YtjfgpnapccdnlaaGreatDoorKit
import Derived.Test.YtjfgpnapccdnlaaGreatDoorDecK
import Derived.Test.YtjfgpnapccdnlaaGreatDoorDecR
namespace Go.Proofs.YtjfgpnapccdnlaaGreatDoor
set_option maxRecDepth 100000
set_option maxHeartbeats 8000000
open Go.RowKit dF wF qw
theorem EA (L:List (Nat×List (List UInt8))):L.length≤(joined L).length:=by
 induction L with
 |nil=>simp
 |cons q L ih=>
  have e:joined (q::L)=(Lib.join q.2 [32]++[10])++joined L:=by simp[joined]
  rw[e,List.length_append,List.length_append,List.length_cons,List.length_singleton];omega
theorem MG {acc:PL}{m:Nat}{q:Nat×Nat}(hm:acc.length=m+1)(hq:acc[m]?=some q)(p:Nat×Nat):late acc p=decide (p.1≤q.1):=by
 unfold late;rw[List.getLast?_eq_getElem?,hm,Nat.add_sub_cancel,hq];rfl
theorem Rz {E:Nat→Addr}(s:List UInt8)(hs:s.length≤60000)(w:World)(hWd:fK E w)(hN:iF E w)(h16:dL E w 16)(hT:w.cell? ⟨21,15,none⟩=some (.int .u8 4)):
  Calls Tryz.prog 10 #[dN s] w (zC E w (nP s)):=by
 have h1:=EW (E:=E) (⟨s.toArray⟩:ByteArray) w (by show s.toArray.size≤60000;simp;omega) hWd;rw[show(⟨s.toArray⟩:ByteArray).data.toList=s by simp]at h1;have HX:=qd (And.intro hN (And.intro hWd.e3 (And.intro h16 hT)));unfold dN nP
 cases hg:fH [] 1 (lines s)with
 |bad n=>
  rw[hg]at h1;have HS:=qd (show Calls Tryz.prog 20 #[.string ⟨s.toArray⟩] w (fun e w'=>e= .returned (.tuple #[.slice none 0 0,.int .i64 (n:Int),.iface 391 (.pointer (some (E 3)))])∧Below w.heap.size w w')from h1);clear h1 hg hWd hN h16 hT;go_in;go_wp2_with fail;refine HS.out.mono ?_;rintro y w1 ⟨rfl,hb1⟩;go_wp2;refine bodyPost_ret (v:= .tuple #[.slice none 0 0,.int .i64 (n:Int),.iface 391 (.pointer (some (E 3)))]) (by simp[results,Tryz.results10,go_sem]) rfl ⟨hb1,rfl⟩
 |ok L=>
  rw[hg]at h1;have HS:=qd (show Calls Tryz.prog 20 #[.string ⟨s.toArray⟩] w (fun y w'=>∃v,y= .returned (.tuple #[v,.int .i64 0,.nilIface])∧dU w' w.heap.size v L∧Below w.heap.size w w')from h1);have HWl:=qd (fun(p:Nat×List (List UInt8)) (hp:p∈L) (x:List UInt8) (hx:x∈p.2)=>show x.length≤70000 from by have:=QC hg hp hx;omega);have QD:=qd (show L.length≤70000 from by have h2:=wN hg;have h3:=EA L;omega);obtain⟨r,hr⟩:∃r,r=iQ [] L:=⟨_,rfl⟩;have Yl:=qd (show r=iQ [] (L.drop 0)from by rw[hr];rfl);simp only;rw[←hr];clear h1 hg hWd hN h16 hT hr;go_in;go_wp2_with fail;refine HS.out.mono ?_;rintro y w1 ⟨vl,rfl,hL,hb1⟩
  have hform:∃A c,vl= .slice A L.length c:=by
   obtain⟨vs,h1,h2,h3⟩:=hL;exact aH h1
  obtain⟨Al,cl,rfl⟩:=hform;have HL:=qd hL;have HB1:=qd hb1;have HO:=qd (World.ownsRow_nil w1 w1.heap.size 49 2);have HB:=qd (Below.refl w1.heap.size w1);clear hL hb1 HS;go_wp2;go_loopw [8,25] (fun v8 v25 wr=>∃(i:Nat) (acc:PL),i≤L.length∧v25= .int .i64 (i:Int)∧acc.length=i∧Hid (r=iQ acc (L.drop i))∧Hid (wr.ownsRow w1.heap.size 49 2 v8 i (acc.flatMap bB))∧Hid (Below w1.heap.size w1 wr)) (fun _ v25 _=>L.length-(intOf v25).toNat)
  case atStart=>exact⟨0,[],by omega,rfl,rfl,Yl,HO,HB⟩
  case round=>
   clear HB HO Yl;obtain⟨i,acc,hi,rfl,hacc,HR,HO,HB⟩:=hrel;by_cases hlt:i<L.length
   ·have hlt':(i:Int)<(L.length:Int):=by omega
    have hi0:(0:Int)≤(i:Int):=by omega
    have QE:=QD.out
    have hwi:IntKind.i64.wrap ((i:Int)+1)=((i+1:Nat):Int):=by rw[IntKind.wrap_i64];omega
    obtain⟨⟨n,ws⟩,hp⟩:∃p,L[i]?=some p:=⟨_,List.getElem?_eq_getElem hlt⟩
    have hdr:L.drop i=(n,ws)::L.drop (i+1):=by
     rw[List.drop_eq_getElem_cons hlt];congr 1;rw[List.getElem?_eq_getElem hlt]at hp;exact Option.some.inj hp
    have HD:=qd hdr;have hLr:=HL.out.below HB.out (Nat.le_refl _);obtain⟨g,c,Aw,cw,hv,hg,k1,k2,hR⟩:=hLr.at_ hp
    obtain rfl:Al=some ⟨g,0,none⟩:=by injection hv
    simp only at k1 k2 hR;obtain⟨z,hz⟩:∃z:Int,z=(n:Int):=⟨_,rfl⟩;rw[←hz]at k1;have HZ:=qd hz;have HRw:=qd hR;obtain⟨A8,c8,hv8⟩:=aH HO.out;subst hv8;have hws:=HWl.out _ (List.mem_of_getElem? hp);have hBw:=HB1.out.trans (HB.out.mono HB1.out.size);have HWm:=qd (show i≠0→IntKind.i64.wrap ((i:Int)-1)=((i-1:Nat):Int)from fun h=>by rw[IntKind.wrap_i64];omega);have G9:=qd hacc;clear hp hLr hv hR hz hdr QE hacc;go_upto_region 8 with fail;refine dx (F:=fun v=>aj v wr.heap.size 63 #[.int .i64 z,.slice Aw ws.length cw]∧Below wr.heap.size wr v) ⟨aj.new wr 63 #[.int .i64 z,.slice Aw ws.length cw],(Below.refl wr.heap.size wr).alloc (Nat.le_refl _) _⟩ ?_;rintro w6 ⟨kE,hb6⟩;have Ym:=qd (own_below HO.out hb6 (Nat.le_refl _));have kM:=qd (HB.out.trans (hb6.mono HB.out.size));have He:=qd (hBw.trans (hb6.mono hBw.size));obtain⟨bx,hbx⟩:∃bx,bx=wr.heap.size:=⟨_,rfl⟩;have lC:=qd (Vo (E:=E) (c':=cw) ws hws w6 (HX.out.1.below He.out (Nat.le_refl _)) (HX.out.2.1.below He.out (Nat.le_refl _)) (aA He.out HX.out.2.2.2) (HRw.out.below hb6) z);rw[←hbx]at kE⊢;have iP:=qd kE;obtain⟨x0,x1⟩:=kE.c2;obtain⟨pw,hpw⟩:∃pw,pw=oz ws:=⟨_,rfl⟩;rw[←hpw]at lC;have vH:=qd hpw;clear kE hb6 hbx HO HB hws hBw k1 k2 hpw
    cases pw with
    |inl e=>
     have he1:=ME vH.out.symm;simp only[JB]at lC;rw[iL E he1]at lC;have vI:=qd (show r= .inl (n,e)from by rw[HR.out,HD.out,tH _ _ _ vH.out.symm]);have AX:=qd he1;clear he1;go_wp2_with fail;refine lC.out.mono ?_;rintro y w7 ⟨rfl,kF⟩;have nZ:=qd (He.out.trans (kF.mono He.out.size));have sW:=qd (iP.out.below kF iP.out.lt);clear kF lC kM He iP x0 x1;go_upto_region 9 with fail;refine dx (F:=fun v=>Below w7.heap.size w7 v) ((Below.refl w7.heap.size w7).alloc (Nat.le_refl _) _) ?_;rintro w8 ig;have XL:=sW.out.below ig sW.out.lt;have x0:=XL.cell 0;simp only[List.getElem?_toArray,List.getElem?_cons_zero]at x0;have pR:=qd (nZ.out.trans (ig.mono nZ.out.size));clear ig XL sW nZ;go_quiet (fail);go_wp2;go_quiet (fail);go_wp2;go_ret3
     exact show zC E w r _ _ from by rw[vI.out];exact⟨by first|exact pR.out|exact below_drewN pR.out _|exact below_drewN (below_drewN pR.out _) _,by show _=Ending.returned (.tuple #[.slice none 0 0,.int .i64 (n:Int),jO E e]);rw[←HZ.out,iL E AX.out];rfl⟩
    |inr p=>
     simp only[JB]at lC;go_wp2_with fail;refine lC.out.mono ?_;rintro y w7 ⟨rfl,kF⟩;have Mx:=qd (own_below Ym.out kF (Nat.le_refl _));have nZ:=qd (kM.out.trans (kF.mono kM.out.size));have sW:=qd (iP.out.below kF iP.out.lt);have vI:=qd (show r=if late acc p=true then .inl (n,16)else iQ (acc++[p]) (L.drop (i+1))from by rw[HR.out,HD.out,uR _ _ _ vH.out.symm]);clear kF lC Ym kM He iP x0 x1;go_upto_region 9 with fail;refine dx (F:=fun v=>aj v w7.heap.size 49 #[.int .u64 (p.1:Int),.int .u64 (p.2:Int)]∧Below w7.heap.size w7 v) ⟨aj.new w7 49 #[.int .u64 (p.1:Int),.int .u64 (p.2:Int)],(Below.refl w7.heap.size w7).alloc (Nat.le_refl _) _⟩ ?_;rintro w8 ⟨hB8,ig⟩;have Gb:=qd (own_below Mx.out ig (Nat.le_refl _));have pR:=qd (nZ.out.trans (ig.mono nZ.out.size));have Mc:=qd (sW.out.below ig sW.out.lt);obtain⟨kV,hby⟩:∃kV,kV=w7.heap.size:=⟨_,rfl⟩;rw[←hby]at hB8⊢;have HP8:=qd hB8;obtain⟨y0,y1⟩:=hB8.c2;clear hB8 ig hby Mx nZ sW
     go_cut [51]from 35 to 51 (fun v51 wx=>v51= .bool (late acc p)∧Hid (Below w8.heap.size w8 wx))
     case first=>
      by_cases h0:i=0
      focus
       have hg0:decide ((0:Int)<(i:Int))=false:=decide_eq_false (by omega);have hg1:decide (0<i)=false:=decide_eq_false (by omega)
       have Fp:=qd (show late acc p=false from by
        have:acc=[]:=List.eq_nil_of_length_eq_zero (by rw[G9.out];exact h0)
        rw[this];rfl)
       clear h0
      rotate_left
      focus
       have hg0:decide ((0:Int)<(i:Int))=true:=decide_eq_true (by omega);have hg1:decide (0<i)=true:=decide_eq_true (by omega);obtain⟨m,hm⟩:∃m,m=i-1:=⟨_,rfl⟩;have hwm:=HWm.out h0;rw[←hm]at hwm
       have X7:m<i:=by omega
       have QE:=QD.out
       have afH:IntKind.i64.wrap (m:Int)=(m:Int):=by rw[IntKind.wrap_i64];omega
       have hmz:(i:Int)-1=(m:Int):=by omega
       have hm0:(0:Int)≤(m:Int):=by omega
       have hm1:(m:Int)<(i:Int):=by omega
       have hacc:=G9.out;obtain⟨pr,hpr⟩:∃pr,acc[m]?=some pr:=⟨_,List.getElem?_eq_getElem (by omega)⟩;have Fp:=qd (MG (show acc.length=m+1 by omega) hpr p);obtain⟨g8,aa6,Td,afI,hc8⟩:=(Reads.iC Gb.out).2 (by omega);have r8:w8.cell? ⟨g8,aa6+m*2,none⟩=some (.int .u64 (pr.1:Int)):=hc8 (m*2+0) _ (eY hpr (by omega));subst Td;clear hm hpr hc8 h0 hacc
      all_goals
       go_quiet (fail);go_wp2;go_meet
       case rel=>exact⟨by rw[Fp.out],qd (by first|exact Below.refl _ _|exact below_drewN (Below.refl _ _) _)⟩
     case rest=>
      obtain⟨rfl,zD⟩:=hcut;have hz:=HP8.out.below zD.out HP8.out.lt;obtain⟨y0,y1⟩:=hz.c2;have hrow:=own_below Gb.out zD.out (Nat.le_refl _);have yO:=qd (pR.out.trans (zD.out.mono pR.out.size));have hC:=Mc.out.below zD.out Mc.out.lt;have x0:=hC.cell 0;simp only[List.getElem?_toArray,List.getElem?_cons_zero]at x0;have hbs:=yO.out.size;clear hz hC Mc HP8 Gb pR zD
      cases zL:late acc p with
      |true=>
       have QF:=qd (show r= .inl (n,16)from by rw[vI.out,zL];rfl);have AZ:=qd (HB1.out.trans (yO.out.mono HB1.out.size));have he:=HX.out.2.2.1.below AZ.out (Nat.le_refl _);unfold dL gE at he;simp only at he;clear zL hrow;go_wp2;go_quiet (fail);go_wp2;go_ret3
       exact show zC E w r _ _ from by rw[QF.out];exact⟨by first|exact AZ.out|exact below_drewN AZ.out _,by show _=Ending.returned (.tuple #[.slice none 0 0,.int .i64 (n:Int),jO E 16]);rw[←HZ.out];rfl⟩
      |false=>
       have QF:=qd (show r=iQ (acc++[p]) (L.drop (i+1))from by rw[vI.out,zL];rfl);have QE:=QD.out;clear zL;go_upto_region 13 with fail;go_wp2_with (at_builtin;refine aB rfl rfl QU hrow rfl rfl rfl rfl rfl (by omega) (by omega) ?_;intro v9 w9 yj zu)
       have rU:=qd (show w9.ownsRow w1.heap.size 49 2 v9 (i+1) ((acc++[p]).flatMap bB)from by
        rw[List.flatMap_append]
        simpa[bB]using yj)
       have wI:=qd (yO.out.trans (zu.below.mono (by omega)));have HM:=qd (show L.length-(i+1)<L.length-i by omega);clear yj zu hrow yO;go_wp2;go_roundw
       case measure=>simp[intOf];exact HM.out
       exact⟨i+1,acc++[p],by omega,rfl,by rw[List.length_append,G9.out];rfl,QF,rU,wI⟩
   ·obtain rfl:i=L.length:=by omega
    have hlt':¬(L.length:Int)<(L.length:Int):=by omega
    have I8:=qd (show r= .inr acc from by rw[HR.out,List.drop_length];rfl);obtain⟨A8,c8,hv8⟩:=aH HO.out;subst hv8;have zh:=qd (Ch HO.out HB1.out.size);have HB2:=qd (HB1.out.trans (HB.out.mono HB1.out.size));go_wp2;refine bodyPost_ret (v:= .tuple #[.slice A8 L.length c8,.int .i64 0,.nilIface]) (by simp[results,Tryz.results10,go_sem]) rfl (show zC E w r _ _ from by rw[I8.out];exact⟨HB2.out,_,rfl,by rw[hacc];exact zh.out⟩)
section
variable {f n u : Nat} {o : ByteArray} {w : World} {A : Option Addr}
theorem Yn (d:Nat)(h:d<16):((⟨#[48,49,50,51,52,53,54,55,56,57,97,98,99,100,101,102]⟩:ByteArray).extract d (d+1)).data.toList=[jo d]:=by
 exact match d,h with
 |0,_=>rfl|1,_=>rfl|2,_=>rfl|3,_=>rfl|4,_=>rfl|5,_=>rfl|6,_=>rfl|7,_=>rfl
 |8,_=>rfl|9,_=>rfl|10,_=>rfl|11,_=>rfl|12,_=>rfl|13,_=>rfl|14,_=>rfl|15,_=>rfl
 |k+16,hk=>absurd hk (by omega)
theorem yR (a b:ByteArray):(a++b).data.toList=a.data.toList++b.data.toList:=by simp
structure zF (n u f:Nat)(o:ByteArray):Prop where
 lt:u<16^(f+1)
 le:f≤16
 eq:jM f u++o.data.toList=d9 n
 top:u≤n
theorem zF.size (h:zF n u f o):o.size≤17:=by
 have h1:=congrArg List.length h.eq;have h2:=j5 n
 have h3:o.data.toList.length=o.size:=by simp
 rw[List.length_append]at h1;omega
theorem zF.next {e:ByteArray}(h:zF n u f o)(h16:16≤u)(he:e.data.toList=[jo (u % 16)]):∃f',zF n (u/16) f' (e++o):=by
 cases f with
 |zero=>have:=h.lt;simp at this;omega
 |succ f=>
  refine⟨f, ?_,by have:=h.le;omega, ?_,Nat.le_trans (Nat.div_le_self _ _) h.top⟩
  ·have:=h.lt;rw[Nat.pow_succ]at this;exact Nat.div_lt_of_lt_mul (by rw[Nat.mul_comm];exact this)
  ·rw[←h.eq,NK f u h16,yR,he];simp
theorem zF.fin {e:ByteArray}(h:zF n u f o)(h16:u<16)(he:e.data.toList=[jo (u % 16)]):(⟨#[48,120]⟩++(e++o):ByteArray)=⟨(48::120::d9 n).toArray⟩:=by
 apply ByteArray.ext;apply Array.toList_inj.1;rw[yR,yR,he,←h.eq,H7 f u h16,Nat.mod_eq_of_lt h16];simp
theorem Tf (n:Nat)(hn:n<18446744073709551616)(w:World):
  Calls Tryz.prog 19 #[.int .u64 n] w fun e w'=>e= .returned (dN (48::120::d9 n))∧w=w':=by
 go_in;go_wp2;go_loop [0,3,4] (fun vn vo _=>∃(u f:Nat) (o:ByteArray),vn= .int .u64 u∧vo= .string o∧zF n u f o) (fun vn _ _=>(intOf vn).toNat)
 case atStart=>exact⟨n,16,⟨#[]⟩,rfl,rfl,(by have e:(16:Nat)^(16+1)=295147905179352825856:=(by decide);omega),Nat.le_refl _,by simp[d9],Nat.le_refl _⟩
 case round=>
  obtain⟨u,f,o,rfl,rfl,h⟩:=hrel;have hm:u % 16<16:=Nat.mod_lt _ (by omega);have hos:=h.size;have hu64:u<18446744073709551616:=Nat.lt_of_le_of_lt h.top hn;have he:=qd (Yn (u % 16) hm);by_cases h16:16≤u
  ·have b1:((u:Int)/16==0)=false:=by simp;omega
   obtain⟨f',hN⟩:=h.next h16 he.out;clear h;go_wp2;go_round
   case rel=>exact⟨u/16,f',_,rfl,rfl,hN⟩
   case measure=>simp[intOf];omega
  ·have b1:((u:Int)/16==0)=true:=by simp;omega
   have hF:=qd (h.fin (by omega) he.out);clear h;go_wp2;go_ret;exact⟨ret_val (by unfold dN;rw[←hF.out];rfl),rfl⟩
end
section
variable {a b x : List UInt8} {k n q0 q1 : Nat}
theorem aa7:(Tryz.prog.info? 38).map (fun i=>(i.zero,i.size,i.bytes))=some (some (.agg #[.int .u64 0,.int .u64 0]),2,16):=by kernel_rfl
theorem QG:qc Tryz.prog 24 38 2 16:=xH Tryz.underlying24 aa7 rfl (by decide) (by decide)
def Ba (w:World)(r:(Nat×Nat)⊕PL)(y:Ending)(w':World):Prop:=
 Below w.heap.size w w'∧match r with
  | .inl (n,e)=>y= .returned (.tuple #[.slice none 0 0,.int .i64 (n:Int),.int .i64 (e:Int)])
  | .inr l=>∃v,y= .returned (.tuple #[v,.int .i64 0,.int .i64 0])∧w'.ownsRow w.heap.size 38 2 v l.length (l.flatMap bB)
def Got (a b:List UInt8)(k q0 q1:Nat):Prop:=(0<k→kS a=some q0)∧(1<k→kS b=some q1)
theorem Got.done (h:Got a b 2 q0 q1):oz [a,b]= .inr (q0,q1):=by
 rw[rY,h.1 (by decide),h.2 (by decide)];rfl
theorem Got.next (h:Got a b k q0 q1)(hk:k<2)(hx: [a,b][k]?=some x)(hn:kS x=some n):Got a b (k+1) (if k=0 then n else q0) (if k=0 then q1 else n):=by
 have:k=0∨k=1:=by omega
 rcases this with rfl|rfl
 ·obtain rfl:a=x:=by simpa using hx
  exact⟨fun _=>by simpa using hn,fun h=>absurd h (by decide)⟩
 ·obtain rfl:b=x:=by simpa using hx
  exact⟨fun _=>by simpa using h.1 (by decide),fun _=>by simpa using hn⟩
theorem Got.bad (h:Got a b k q0 q1)(hk:k<2)(hx: [a,b][k]?=some x)(hn:kS x=none):oz [a,b]= .inl 13:=by
 have:k=0∨k=1:=by omega
 rcases this with rfl|rfl
 ·obtain rfl:a=x:=by simpa using hx
  rw[rY,hn];rfl
 ·obtain rfl:b=x:=by simpa using hx
  rw[rY,h.1 (by decide),hn];rfl
theorem acR {w:World}{bx:Nat}{t:TypeId}(h:aj w bx t #[.int .u64 (q0:Int),.int .u64 (q1:Int)])(hk:k<2):aj (w.setCell ⟨bx,k,none⟩ (.int .u64 (n:Int))) bx t #[.int .u64 ((if k=0 then n else q0:Nat):Int),.int .u64 ((if k=0 then q1 else n:Nat):Int)]:=by
 have h1:=h.ak k (.int .u64 (n:Int))
 have:k=0∨k=1:=by omega
 rcases this with rfl|rfl
 ·exact h1
 ·exact h1
theorem RA (s:List UInt8)(hs:s.length≤60000)(w:World):
  Calls Tryz.prog 11 #[dN s] w (Ba w (nP s)):=by
 have h1:=aeH (⟨s.toArray⟩:ByteArray) w (by show s.toArray.size≤60000;simp;omega);rw[acT,show(⟨s.toArray⟩:ByteArray).data.toList=s by simp]at h1;have HNm:=qd (fun(l:List UInt8) (hl:l.length≤70000) (W:World)=>aa5 l hl W);have HHx:=qd (fun(n:Nat) (hn:n<18446744073709551616) (W:World)=>Tf n hn W);unfold dN nP
 cases hg:fH [] 1 (lines s)with
 |bad n=>
  rw[hg]at h1;have HS:=qd (show Calls Tryz.prog 22 #[.string ⟨s.toArray⟩] w (fun e w'=>e= .returned (.tuple #[.slice none 0 0,.slice none 0 0,.int .i64 (n:Int),.int .i64 3])∧Below w.heap.size w w')from h1);clear h1 hg;go_in;go_wp2_with fail;refine HS.out.mono ?_;rintro y w1 ⟨rfl,hb1⟩;go_wp2;refine bodyPost_ret (v:= .tuple #[.slice none 0 0,.int .i64 (n:Int),.int .i64 3]) (by simp[results,Tryz.results11,go_sem]) rfl ⟨hb1,rfl⟩
 |ok L=>
  rw[hg]at h1;have HS:=qd (show Calls Tryz.prog 22 #[.string ⟨s.toArray⟩] w (fun y w'=>∃vn va vr,y= .returned (.tuple #[vn,va,.int .i64 0,.int .i64 0])∧fQ w w' vn va vr L [])from h1);have HWl:=qd (fun(p:Nat×List (List UInt8)) (hp:p∈L) (x:List UInt8) (hx:x∈p.2)=>show x.length≤70000 from by have:=QC hg hp hx;omega);have QD:=qd (show L.length≤70000 from by have h2:=wN hg;have h3:=EA L;omega);obtain⟨r,hr⟩:∃r,r=iQ [] L:=⟨_,rfl⟩;have Yl:=qd (show r=iQ [] (L.drop 0)from by rw[hr];rfl);simp only;rw[←hr];clear h1 hg hr;go_in;go_wp2_with fail;refine HS.out.mono ?_;rintro y w1 ⟨vn,va,vr,rfl,hR⟩;have QH:=qd hR.nums;have Ed:=qd hR.rows;have HB1:=qd hR.below
  obtain⟨Ar,cr,hvr⟩:∃A c,va= .slice A L.length c:=by
   obtain⟨vs,h1,_⟩:=hR.rows;obtain⟨A,c,h⟩:=aH h1;exact⟨A,c,by rw[h,List.length_map]⟩
  obtain⟨An,cn,hvn⟩:∃A c,vn= .slice A L.length c:=by
   obtain⟨A,c,h⟩:=aH hR.nums;exact⟨A,c,by rw[h,List.length_map]⟩
  subst hvr hvn;clear hR HS;go_upto_region 5 with fail;refine dx (F:=fun v=>v.ownsRow w1.heap.size 38 2 (.slice (some ⟨w1.heap.size,0,none⟩) 0 0) 0 []∧Below w1.heap.size w1 v) ⟨World.ownsRow_made w1 #[] 0 (Nat.le_refl _) (by simp[maxLen]) (by simp),(Below.refl w1.heap.size w1).alloc (Nat.le_refl _) _⟩ ?_;rintro w2 ⟨ho2,hb2⟩;have HO:=qd ho2;have HB:=qd hb2;clear ho2 hb2;go_wp2;go_loopw [9,32] (fun v9 v32 wr=>∃(i:Nat) (acc:PL),i≤L.length∧v32= .int .i64 (i:Int)∧acc.length=i∧Hid (r=iQ acc (L.drop i))∧Hid (wr.ownsRow w1.heap.size 38 2 v9 i (acc.flatMap bB))∧Hid (Below w1.heap.size w1 wr)) (fun _ v32 _=>L.length-(intOf v32).toNat)
  case atStart=>exact⟨0,[],by omega,rfl,rfl,Yl,HO,HB⟩
  case round=>
   clear HB HO Yl;obtain⟨i,acc,hi,rfl,hacc,HR,HO,HB⟩:=hrel;by_cases hlt:i<L.length
   ·have hlt':(i:Int)<(L.length:Int):=by omega
    have hi0:(0:Int)≤(i:Int):=by omega
    have QE:=QD.out
    have hwi:IntKind.i64.wrap ((i:Int)+1)=((i+1:Nat):Int):=by rw[IntKind.wrap_i64];omega
    obtain⟨⟨n,ws⟩,hp⟩:∃p,L[i]?=some p:=⟨_,List.getElem?_eq_getElem hlt⟩
    have hdr:L.drop i=(n,ws)::L.drop (i+1):=by
     rw[List.drop_eq_getElem_cons hlt];congr 1;rw[List.getElem?_eq_getElem hlt]at hp;exact Option.some.inj hp
    have HD:=qd hdr;obtain⟨gn,cn',hvn,hgn,hcn⟩:=QH.out.at_ (i:=i) (n:=n) (by rw[List.getElem?_map,hp];rfl);obtain⟨gr,cr',Aw,cw,hvr,hgr,hcr,hRw⟩:=Ed.out.at_ (i:=i) (r:=ws) (by rw[List.getElem?_map,hp];rfl)
    obtain rfl:An=some ⟨gn,0,none⟩:=by injection hvn
    obtain rfl:Ar=some ⟨gr,0,none⟩:=by injection hvr
    obtain⟨z,hz⟩:∃z:Int,z=(n:Int):=⟨_,rfl⟩;rw[←hz]at hcn;have HZ:=qd hz;have kn:wr.cell? ⟨gn,i,none⟩=some (.int .i64 z):=aA HB.out hcn;have kr:wr.cell? ⟨gr,i,none⟩=some (.slice Aw ws.length cw):=aA HB.out hcr;obtain⟨A9,c9,Yo⟩:=aH HO.out;subst Yo;have HWs:=qd (HWl.out _ (List.mem_of_getElem? hp));have Ml:=qd hcn;have HRw:=qd hRw;have HWm:=qd (show i≠0→IntKind.i64.wrap ((i:Int)-1)=((i-1:Nat):Int)from fun h=>by rw[IntKind.wrap_i64];omega);have G9:=qd hacc;clear hp hvn hvr hz hdr QE hacc hRw hcn hcr;by_cases hl2:ws.length=2
    ·obtain⟨a,b,rfl⟩:∃a b,ws=[a,b]:=by
      match ws,hl2 with
      | [a,b],_=>exact⟨a,b,rfl⟩
     clear hl2 kn;go_upto_region 11 with fail;refine dx (F:=fun v=>aj v wr.heap.size 38 #[.int .u64 ((0:Nat):Int),.int .u64 ((0:Nat):Int)]∧Below wr.heap.size wr v) ⟨aj.new wr 38 #[.int .u64 0,.int .u64 0],(Below.refl wr.heap.size wr).alloc (Nat.le_refl _) _⟩ ?_;rintro w6 ⟨kE,hb6⟩;obtain⟨bx,hbx⟩:∃bx,bx=wr.heap.size:=⟨_,rfl⟩;rw[←hbx]at kE hb6⊢;have kQ:=qd hbx;have iP:=qd kE;have kM:=qd hb6;have HG0:=qd (show Got a b 0 0 0 from⟨fun h=>absurd h (by decide),fun h=>absurd h (by decide)⟩);clear kE hb6 hbx kr;obtain⟨wo,rfl⟩:∃wo,wo=wr:=⟨_,rfl⟩;go_wp2;go_loopw [47] (fun v47 wq=>∃k q0 q1:Nat,k≤2∧v47= .int .i64 (k:Int)∧Hid (Got a b k q0 q1)∧Hid (aj wq bx 38 #[.int .u64 (q0:Int),.int .u64 (q1:Int)])∧Hid (Below bx wo wq)) (fun v47 _=>2-(intOf v47).toNat)
     case atStart=>exact⟨0,0,0,by omega,rfl,HG0,iP,kM⟩
     case round=>
      clear iP kM HG0;obtain⟨k,q0,q1,hk,rfl,HG,iP,kM⟩:=hrel;by_cases hk2:k<2
      ·have afJ:(k:Int)<2:=by omega
       have hk0:(0:Int)≤(k:Int):=by omega
       have hwk:IntKind.i64.wrap ((k:Int)+1)=((k+1:Nat):Int):=by rw[IntKind.wrap_i64];omega
       obtain⟨x,hx⟩:∃x,[a,b][k]?=some x:=⟨_,List.getElem?_eq_getElem (by simpa using hk2)⟩;have hxl:=HWs.out x (List.mem_of_getElem? hx);obtain⟨gw,ow,hAw,hgw,hcw⟩:=HRw.out.2 (by simp);subst hAw
       have hbw:Below wo.heap.size wo wr:=by have:=kM.out;rwa [kQ.out]at this
       have kx:wr.cell? ⟨gw,ow+k,none⟩=some (dN x):=aA hbw (aA HB.out (hcw k _ (by rw[List.getElem?_map,hx];rfl)));unfold dN at kx;have HX:=qd hx;have jg:=qd (HNm.out x hxl wr);have hfr:wr.frozen? ⟨bx,k,none⟩=false:=iP.out.frozen k;unfold dN at jg
       have hmk:min k 2=k:=by omega
       clear hx hxl hcw hbw hgw;go_wp2_with fail;refine jg.out.mono ?_;rintro y w7 ⟨⟨m,ta,tb,hm,rfl,hnx⟩,kF⟩;have Yp:=qd (HHx.out m hm);unfold dN at Yp;have sW:=qd (iP.out.below kF iP.out.lt);have nZ:=qd (kM.out.trans (kF.mono (Nat.le_of_lt iP.out.lt)));by_cases hq:48::120::d9 m=x
       ·rw[if_pos hq]at hnx;rw[hq]at Yp;have HGn:=qd (HG.out.next hk2 HX.out hnx);clear kF jg hnx hq iP kM kx;have hfr:w7.frozen? ⟨bx,k,none⟩=false:=sW.out.frozen k
        obtain⟨qo,kc⟩:∃qo:Nat,w7.cell? ⟨bx,k,none⟩=some (.int .u64 (qo:Int)):=by
         have:k=0∨k=1:=by omega
         rcases this with rfl|rfl
         ·exact⟨_,sW.out.cell 0⟩
         ·exact⟨_,sW.out.cell 1⟩
        have Qi:=qd (acR (n:=m) sW.out hk2);have HBs:=qd (nZ.out.setCell (p:=⟨bx,k,none⟩) (Nat.le_refl _) (.int .u64 (m:Int)));go_wp2_with fail;refine(Yp.out _).mono ?_;rintro y w8 ⟨rfl,rfl⟩;go_wp2;go_roundw
        case measure=>simp[intOf];omega
        exact⟨k+1,_,_,by omega,rfl,HGn,Qi,HBs⟩
       ·rw[if_neg hq]at hnx;have vH:=qd (HG.out.bad hk2 HX.out hnx);have vI:=qd (show r= .inl (n,13)from by rw[HR.out,HD.out,tH _ _ _ vH.out]);obtain⟨sx,hsx⟩:∃sx:ByteArray,sx=⟨x.toArray⟩:=⟨_,rfl⟩;obtain⟨sh,hsh⟩:∃sh:ByteArray,sh=⟨(48::120::d9 m).toArray⟩:=⟨_,rfl⟩;have hne:¬sh.toList=sx.toList:=fun e=>hq (str_eq (by rw[←hsx,←hsh];exact e));have hnb:(sh.toList==sx.toList)=false:=beq_eq_false_iff_ne.2 hne;have HBw:=qd (HB.out.trans ((show Below wo.heap.size wo w7 by have:=nZ.out;rwa [kQ.out]at this).mono HB.out.size));have kn:w7.cell? ⟨gn,i,none⟩=some (.int .i64 z):=aA HBw.out Ml.out;rw[←hsh]at Yp;rw[←hsx];clear kF jg hnx hq iP kM kx hsx hsh sW nZ;go_wp2_with fail;refine(Yp.out _).mono ?_;rintro y w8 ⟨rfl,rfl⟩;go_wp2;go_quiet (fail);go_wp2;go_ret3;have zD:=HB1.out.trans (HBw.out.mono HB1.out.size)
        exact show Ba w r _ _ from by rw[vI.out];exact⟨by first|exact zD|exact below_drewN zD _,by show _=Ending.returned (.tuple #[.slice none 0 0,.int .i64 (n:Int),.int .i64 13]);rw[←HZ.out];rfl⟩
      ·obtain rfl:k=2:=by omega
       have afJ:¬((2:Nat):Int)<2:=by omega
       have vH:=qd HG.out.done;obtain⟨p,hp⟩:∃p:Nat×Nat,p=(q0,q1):=⟨_,rfl⟩
       have hp0:q0=p.1:=by rw[hp]
       have hp1:q1=p.2:=by rw[hp]
       rw[←hp]at vH;subst hp0 hp1;have vI:=qd (show r=if late acc p=true then .inl (n,16)else iQ (acc++[p]) (L.drop (i+1))from by rw[HR.out,HD.out,uR _ _ _ vH.out]);have AZ:=qd (show Below wo.heap.size wo wr by have:=kM.out;rwa [kQ.out]at this);have Gb:=qd (own_below HO.out AZ.out (Nat.le_refl _));have pR:=qd (HB.out.trans (AZ.out.mono HB.out.size));obtain⟨y0,y1⟩:=iP.out.c2;clear hp HO kM AZ HG hk;go_upto_region 19 with fail
       go_cut [82]from 70 to 82 (fun v82 wx=>v82= .bool (late acc p)∧Hid (Below wr.heap.size wr wx))
       case first=>
        by_cases h0:i=0
        focus
         have hg0:decide ((0:Int)<(i:Int))=false:=decide_eq_false (by omega);have hg1:decide (0<i)=false:=decide_eq_false (by omega)
         have Fp:=qd (show late acc p=false from by
          have:acc=[]:=List.eq_nil_of_length_eq_zero (by rw[G9.out];exact h0)
          rw[this];rfl)
         clear h0
        rotate_left
        focus
         have hg0:decide ((0:Int)<(i:Int))=true:=decide_eq_true (by omega);have hg1:decide (0<i)=true:=decide_eq_true (by omega);obtain⟨m,hm⟩:∃m,m=i-1:=⟨_,rfl⟩;have hwm:=HWm.out h0;rw[←hm]at hwm
         have X7:m<i:=by omega
         have QE:=QD.out
         have afH:IntKind.i64.wrap (m:Int)=(m:Int):=by rw[IntKind.wrap_i64];omega
         have hmz:(i:Int)-1=(m:Int):=by omega
         have hm0:(0:Int)≤(m:Int):=by omega
         have hm1:(m:Int)<(i:Int):=by omega
         have hacc:=G9.out;obtain⟨pr,hpr⟩:∃pr,acc[m]?=some pr:=⟨_,List.getElem?_eq_getElem (by omega)⟩;have Fp:=qd (MG (show acc.length=m+1 by omega) hpr p);obtain⟨g8,aa6,Td,afI,hc8⟩:=(Reads.iC Gb.out).2 (by omega);have r8:wr.cell? ⟨g8,aa6+m*2,none⟩=some (.int .u64 (pr.1:Int)):=hc8 (m*2+0) _ (eY hpr (by omega));subst Td;clear hm hpr hc8 h0 hacc
        all_goals
         go_wp2;go_quiet (fail);go_wp2;go_meet
         case rel=>exact⟨by rw[Fp.out],qd (by first|exact Below.refl _ _|exact below_drewN (Below.refl _ _) _)⟩
       case rest=>
        obtain⟨rfl,zD⟩:=hcut;have hz:=iP.out.below zD.out iP.out.lt;obtain⟨y0,y1⟩:=hz.c2;have hrow:=own_below Gb.out zD.out (Nat.le_refl _);have yO:=qd (pR.out.trans (zD.out.mono pR.out.size));have hbs:=yO.out.size;clear hz iP Gb pR
        cases zL:late acc p with
        |true=>
         have QF:=qd (show r= .inl (n,16)from by rw[vI.out,zL];rfl);have AZ:=qd (HB1.out.trans (yO.out.mono HB1.out.size));have kn:=aA yO.out Ml.out;clear zL hrow zD;go_wp2;go_quiet (fail);go_wp2;go_ret3
         exact show Ba w r _ _ from by rw[QF.out];exact⟨by first|exact AZ.out|exact below_drewN AZ.out _,by show _=Ending.returned (.tuple #[.slice none 0 0,.int .i64 (n:Int),.int .i64 16]);rw[←HZ.out];rfl⟩
        |false=>
         have QF:=qd (show r=iQ (acc++[p]) (L.drop (i+1))from by rw[vI.out,zL];rfl);have QE:=QD.out;clear zL zD;go_upto_region 21 with fail;go_wp2_with (at_builtin;refine aB rfl rfl QG hrow rfl rfl rfl rfl rfl (by omega) (by omega) ?_;intro v9 w9 yj zu)
         have rU:=qd (show w9.ownsRow w1.heap.size 38 2 v9 (i+1) ((acc++[p]).flatMap bB)from by
          rw[List.flatMap_append]
          simpa[bB]using yj)
         have wI:=qd (yO.out.trans (zu.below.mono (by omega)));have HM:=qd (show L.length-(i+1)<L.length-i by omega);clear yj zu hrow yO;go_wp2;go_roundw
         case measure=>simp[intOf];exact HM.out
         exact⟨i+1,acc++[p],by omega,rfl,by rw[List.length_append,G9.out];rfl,QF,rU,wI⟩
    ·have afK:¬(ws.length:Int)=2:=by omega
     have ahF:((ws.length:Int)==2)=false:=by simpa using afK
     have ahG:(ws.length==2)=false:=by simpa using hl2
     have vI:=qd (show r= .inl (n,3)from by rw[HR.out,HD.out,tH _ _ _ (uQ hl2)]);have AZ:=qd (HB1.out.trans (HB.out.mono HB1.out.size));clear HRw HWs HO;go_wp2;go_quiet (fail);go_wp2;go_ret3
     exact show Ba w r _ _ from by rw[vI.out];exact⟨by first|exact AZ.out|exact below_drewN AZ.out _,by show _=Ending.returned (.tuple #[.slice none 0 0,.int .i64 (n:Int),.int .i64 3]);rw[←HZ.out];rfl⟩
   ·obtain rfl:i=L.length:=by omega
    have hlt':¬(L.length:Int)<(L.length:Int):=by omega
    have I8:=qd (show r= .inr acc from by rw[HR.out,List.drop_length];rfl);obtain⟨A9,c9,Yo⟩:=aH HO.out;subst Yo;have zh:=qd (Ch HO.out HB1.out.size);have HB2:=qd (HB1.out.trans (HB.out.mono HB1.out.size));go_wp2;refine bodyPost_ret (v:= .tuple #[.slice A9 L.length c9,.int .i64 0,.int .i64 0]) (by simp[results,Tryz.results11,go_sem]) rfl (show Ba w r _ _ from by rw[I8.out];exact⟨HB2.out,_,rfl,by rw[hacc];exact zh.out⟩)
end
section
variable {w : World} {l : PL} {A : Option Addr} {B c : Nat}
theorem aa8 (out:List UInt8)(p:Nat×Nat):((⟨out.toArray⟩:ByteArray)++((((⟨(48::120::d9 p.1).toArray⟩:ByteArray)++⟨#[32]⟩)++⟨(48::120::d9 p.2).toArray⟩)++⟨#[10]⟩))=⟨(out++wU p).toArray⟩:=by
 unfold wU;apply ByteArray.ext;simp[ByteArray.data_append]
theorem JC (hl:Reads w B 2 A l.length (l.flatMap bB))(hn:l.length≤100000)(h64:∀p∈l,p.1<18446744073709551616∧p.2<18446744073709551616):
  Calls Tryz.prog 7 #[.slice A l.length c] w fun y w'=>y= .returned (dN (gW l))∧Below w.heap.size w w':=by
 have HL:=qd hl;have HX:=qd h64;have HH:=qd (fun(n:Nat) (hn:n<18446744073709551616) (W:World)=>Tf n hn W);have HB:=qd (Below.refl w.heap.size w);clear hl h64;unfold dN;go_in;go_wp2;go_loopw [3,8] (fun v3 v8 wr=>∃i:Nat,i≤l.length∧v8= .int .i64 (i:Int)∧v3= .string ⟨(gW (l.take i)).toArray⟩∧Hid (Below w.heap.size w wr)) (fun _ v8 _=>l.length-(intOf v8).toNat)
 case atStart=>exact⟨0,by omega,rfl,rfl,HB⟩
 case round=>
  clear HB;obtain⟨i,hi,rfl,rfl,HB⟩:=hrel;by_cases hlt:i<l.length
  ·have hlt':(i:Int)<(l.length:Int):=by omega
   have hi0:(0:Int)≤(i:Int):=by omega
   have hwi:IntKind.i64.wrap ((i:Int)+1)=((i+1:Nat):Int):=by rw[IntKind.wrap_i64];omega
   obtain⟨p,hp⟩:∃p,l[i]?=some p:=⟨_,List.getElem?_eq_getElem hlt⟩;obtain⟨g,off,hA,hgl,hc⟩:=HL.out.2 (by omega);have r0:wr.cell? ⟨g,off+i*2,none⟩=some (.int .u64 (p.1:Int)):=aA HB.out (hc (i*2+0) _ (eY hp (by omega)));have r1:wr.cell? ⟨g,off+i*2+1,none⟩=some (.int .u64 (p.2:Int)):=aA HB.out (hc (i*2+1) _ (eY hp (by omega)));have HP:=qd (HX.out p (List.mem_of_getElem? hp));have mO:=qd (IX hp);obtain⟨o,ho⟩:∃o,o=gW (l.take i):=⟨_,rfl⟩;rw[←ho];have HO:=qd ho;subst hA;clear hc hp ho;go_upto_region 5 with fail;refine dx (F:=fun v=>aj v wr.heap.size 38 #[.int .u64 (p.1:Int),.int .u64 (p.2:Int)]∧Below wr.heap.size wr v) ⟨aj.new wr 38 #[.int .u64 (p.1:Int),.int .u64 (p.2:Int)],(Below.refl wr.heap.size wr).alloc (Nat.le_refl _) _⟩ ?_;rintro w6 ⟨kE,hb6⟩;have kM:=qd (HB.out.trans (hb6.mono HB.out.size));obtain⟨bx,hbx⟩:∃bx,bx=wr.heap.size:=⟨_,rfl⟩;rw[←hbx]at kE⊢;obtain⟨x0,x1⟩:=kE.c2;clear kE hb6 hbx HB r0 r1;obtain⟨s1,hs1⟩:∃s1:ByteArray,s1=⟨(48::120::d9 p.1:List UInt8).toArray⟩:=⟨_,rfl⟩;obtain⟨s2,hs2⟩:∃s2:ByteArray,s2=⟨(48::120::d9 p.2:List UInt8).toArray⟩:=⟨_,rfl⟩;obtain⟨so,hso⟩:∃so:ByteArray,so=⟨o.toArray⟩:=⟨_,rfl⟩;have HQ0:=qd (fun(W:World)=>show Calls Tryz.prog 19 #[.int .u64 (p.1:Int)] W (fun e w'=>e= .returned (.string s1)∧∃k,w'=W.drewN k)from(HH.out p.1 HP.out.1 W).mono fun e w' ⟨a,b⟩=>⟨by rw[a,hs1];rfl,0,b▸rfl⟩)
   have HQ1:=qd (fun(W:World)=>show Calls Tryz.prog 19 #[.int .u64 (p.2:Int)] W (fun e w'=>e= .returned (.string s2)∧∃k,w'=W.drewN k)from(HH.out p.2 HP.out.2 W).mono fun e w' ⟨a,b⟩=>⟨by rw[a,hs2];rfl,0,b▸rfl⟩);have HEq:=qd (show so++(((s1++⟨#[32]⟩)++s2)++⟨#[10]⟩)=⟨(gW (l.take (i+1))).toArray⟩from by rw[mO.out,←HO.out,hso,hs1,hs2];exact aa8 o p)
   have hz:s1.size≤40∧s2.size≤40:=by
    have h1:=j5 p.1;have h2:=j5 p.2
    have e1:s1.size=(48::120::d9 p.1:List UInt8).length:=by rw[hs1];rfl
    have e2:s2.size=(48::120::d9 p.2:List UInt8).length:=by rw[hs2];rfl
    rw[e1,e2,List.length_cons,List.length_cons,List.length_cons,List.length_cons];omega
   have hzo:so.size≤4000000:=by
    have e0:so.size=o.length:=by rw[hso];rfl
    have e1:=y9 (l.take i);rw[List.length_take]at e1;rw[e0,HO.out];omega
   have hz1:¬9223372036854775807<s1.size+1:=by omega
   have hz2:¬9223372036854775807<s1.size+1+s2.size:=by omega
   have hz3:¬9223372036854775807<s1.size+1+s2.size+1:=by omega
   have Xz:¬9223372036854775807<so.size+(s1.size+1+s2.size+1):=by omega
   rw[←hso];have HM:=qd (show l.length-(i+1)<l.length-i by omega);clear hs1 hs2 hso hz hzo
   go_quiet (first
    |(go_at_call_of 19 (Value.int .u64 (p.1:Int));exact Calls.quiet_of (HQ0.out _))
    |(go_at_call_of 19 (Value.int .u64 (p.2:Int));exact Calls.quiet_of (HQ1.out _)))
   go_wp2;go_roundw
   case measure=>simp[intOf];exact HM.out
   exact⟨i+1,by omega,rfl,congrArg Value.string HEq.out,qd (by first|exact kM.out|exact below_drewN kM.out _)⟩
  ·obtain rfl:i=l.length:=by omega
   have hlt':¬(l.length:Int)<(l.length:Int):=by omega
   rw[List.take_length];go_wp2;go_ret;exact⟨rfl,HB.out⟩
theorem Yq (hl:Reads w B 2 A l.length (l.flatMap bB))(hn:l.length≤100000)(h64:∀p∈l,p.1<18446744073709551616∧p.2<18446744073709551616):
  Calls Tryz.prog 9 #[.slice A l.length c] w fun y w'=>y= .returned (.int .u64 (JU ⟨(gW l).toArray⟩ (gW l).length))∧Below w.heap.size w w':=by
 have HX:=qd (JC (c:=c) hl hn h64);have hlen:=y9 l;obtain⟨s,hs⟩:∃s:ByteArray,s=⟨(gW l).toArray⟩:=⟨_,rfl⟩;obtain⟨n,hN⟩:∃n,n=(gW l).length:=⟨_,rfl⟩
 have hsn:s.size=n:=by rw[hs,hN];exact List.size_toArray
 unfold dN at HX;rw[←hs]at HX⊢;rw[←hN]at hlen⊢;obtain⟨S,hS⟩:∃S,S=JU s:=⟨_,rfl⟩;have HS:=qd (show S 0=14695981039346656037∧∀i,S (i+1)=IntKind.u64.wrap (bits .xor .u64 (S i) ((s.data.toList.getD i 0).toNat:Int)*1099511628211)from by rw[hS];exact⟨rfl,fun i=>rfl⟩);rw[←hS];clear hl h64 hs hN hS;go_in;go_wp2_with fail;refine HX.out.mono ?_;rintro y w1 ⟨rfl,hb1⟩;have HB:=qd hb1;clear hb1 HX;go_wp2;go_loopw [4,5] (fun v4 v5 wr=>∃i:Nat,i≤n∧v5= .int .i64 (i:Int)∧v4= .int .u64 (S i)∧w1=wr) (fun _ v5 _=>n-(intOf v5).toNat)
 case atStart=>exact⟨0,by omega,rfl,by rw[HS.out.1],rfl⟩
 case round=>
  obtain⟨i,hi,rfl,rfl,rfl⟩:=hrel;by_cases hlt:i<n
  ·have hlt':(i:Int)<(n:Int):=by omega
   have hlts:(i:Int)<(s.size:Int):=by omega
   have afL:i<s.size:=by omega
   have hi0:(0:Int)≤(i:Int):=by omega
   have hwi:IntKind.i64.wrap ((i:Int)+1)=((i+1:Nat):Int):=by rw[IntKind.wrap_i64];omega
   have hgs:(s.data.toList.getD i 0)=s[i]:=by
    rw[List.getD_eq_getElem?_getD,List.getElem?_eq_getElem (by simpa using afL)];rfl
   have hst:=HS.out.2 i;rw[hgs]at hst;have jT:=qd hst;have ig:=(s[i]).toNat_lt
   have hwb:IntKind.u64.wrap (((s[i]).toNat:Nat):Int)=(((s[i]).toNat:Nat):Int):=by rw[IntKind.wrap_u64];omega
   clear hst hgs;go_wp2;go_roundw
   case measure=>(simp[intOf]<;>omega)
   exact⟨i+1,by omega,rfl,by rw[jT.out],by first|rfl|trivial⟩
  ·obtain rfl:i=n:=by omega
   have hle:¬(i:Int)<(s.size:Int):=by omega
   go_wp2;go_ret;exact⟨rfl,HB.out⟩
end
end Go.Proofs.YtjfgpnapccdnlaaGreatDoor
