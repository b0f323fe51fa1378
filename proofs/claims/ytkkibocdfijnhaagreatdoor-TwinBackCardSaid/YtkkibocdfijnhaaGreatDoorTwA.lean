/- Package twin: Compare. No statement of the claim. -/
import Derived.Test.YtkkibocdfijnhaaGreatDoorTwP
import Derived.Test.YtkkibocdfijnhaaGreatDoorCoO
import Derived.Test.YtkkibocdfijnhaaGreatDoorLaneP
namespace Go.Proofs.YtkkibocdfijnhaaGreatDoor
set_option maxRecDepth 100000
set_option maxHeartbeats 8000000
open Go.RowKit bV tF
variable {u : Value} {E : Nat → Addr}
theorem LP {e:Nat}(h:Jv u e):u= .nilIface∨∃A,u= .iface 318 (.pointer (some A)):=h.elim (fun h=> .inl h.1) (fun⟨A,h,_⟩=> .inr ⟨A,h⟩)
theorem Ze (E:Nat→Addr):∀us:List mh,(us.flatMap (jq E)).length=us.length*7
 | []=>rfl
 |u::us=>by
  rw[List.flatMap_cons,List.length_append,Ze E us,List.length_cons];simp[jq];omega
theorem jr {a:mh}{q:Nat}:∀{us:List mh} {i:Nat},us[i]?=some a→(jq E a)[q]?=some u→(us.flatMap (jq E))[i*7+q]?=some u
 | [],_,h,_=>by simp at h
 |x::us,0,h,hu=>by
  obtain rfl:x=a:=by simpa using h
  have hq:=(List.getElem?_eq_some_iff.1 hu).1;rw[List.flatMap_cons,List.getElem?_append_left (by omega),Nat.zero_mul,Nat.zero_add];exact hu
 |x::us,i+1,h,hu=>by
  have:=jr (us:=us) (i:=i) (by simpa using h) hu;rw[List.flatMap_cons,List.getElem?_append_right (by simp[jq];omega)];rw[show(i+1)*7+q-(jq E x).length=i*7+q by simp[jq];omega];exact this
structure ae5 (E:Nat→Addr)(W0:World):Prop where
 all:eB E W0
def Tg (E:Nat→Addr)(k m i k' m' i':Int)(l:List aV)(w:World)(y:Ending)(w':World):Prop:=
 y= .returned (if jU k m i l≠0 then .tuple #[.int .i64 0,.bool false,dK E (jU k m i l)]else if jU k' m' i' l≠0 then .tuple #[.int .i64 0,.bool false,dK E (jU k' m' i' l)]
  else .tuple #[.int .i64 (((nQ (zq m.toNat i.toNat vZ l) (zq m'.toNat i'.toNat vZ l)).getD 0:Nat):Int),.bool (nQ (zq m.toNat i.toNat vZ l) (zq m'.toNat i'.toNat vZ l)).isNone,.nilIface])∧Below w.heap.size w w'
theorem O1 {W0:World}{w:World}(hE:Env W0 E w)(hEr:eB E W0)(k m i k' m' i':Int){A:Option Addr}{c:Nat}{l:List aV}(h:Reads w w.heap.size 5 A l.length (dR l))(hn:l.length≤65536)(hwf:∀o∈l,Dz o):
  Calls Tryz.prog 6 #[fZ k m i,fZ k' m' i',.slice A l.length c] w (Tg E k m i k' m' i' l w):=by
 have hup:∀V,Below w.heap.size w V→Reads V V.heap.size 5 A l.length (dR l):=fun V hb=>by
  have h2:=h.below hb
  exact⟨h2.1,fun hn=>by
   obtain⟨g,off,a,b,d⟩:=h2.2 hn
   exact⟨g,off,a,Nat.lt_of_lt_of_le b hb.size,d⟩⟩
 have hop:∀(V:World) (k m i:Int),Below w.heap.size w V→Calls Tryz.prog 11 #[fZ k m i,.slice A l.length c] V (Te W0 E k m i l V):=fun V k m i hb=>
  QZ (hE.next hb) (hEr.at_ 3 (by omega) (by omega)) (hEr.at_ 6 (by omega) (by omega)) (hEr.at_ 7 (by omega) (by omega)) (hEr.at_ 8 (by omega) (by omega)) (hEr.at_ 9 (by omega) (by omega)) k m i (hup V hb) hn hwf
 have hsm:∀(V:World) (a b:mh),a.err≤16→b.err≤16→Below w.heap.size w V→Calls Tryz.prog 12 #[oh E a,oh E b] V fun y w'=>y= .returned (.bool (decide (a=b)))∧Below V.heap.size V w':=fun V a b ha hb hV=>Zc (hEr.below (hE.next hV).below (Nat.le_refl _)) a b ha hb;have GU:=qd hop;have HSa:=qd hsm;have rV:=qd hn;clear hup hop hsm hE hEr h hwf hn;unfold fZ at GU⊢;go_in;go_upto_region 1 with fail;refine aZ (F:=fun V=>(aj V w.heap.size 23 #[.int .i64 k,.int .i64 m,.int .i64 i]∧aj V (w.heap.size+1) 23 #[.int .i64 k',.int .i64 m',.int .i64 i'])∧Below w.heap.size w V) ⟨⟨(aj.new w 23 #[.int .i64 k,.int .i64 m,.int .i64 i]).alloc _,(by have:=aj.new (w.alloc (.cells #[.int .i64 k,.int .i64 m,.int .i64 i] 23)) 23 #[.int .i64 k',.int .i64 m',.int .i64 i'];simpa using this)⟩,((Below.refl w.heap.size w).alloc (Nat.le_refl _) _).alloc (by simp) _⟩ ?_;rintro w1 ⟨⟨hX,hY⟩,hb1⟩;have HB1:=qd hb1;have HY:=qd hY;obtain⟨bx,hbx⟩:∃bx,bx=w.heap.size:=⟨_,rfl⟩;obtain⟨bY,hbY⟩:∃bY,bY=w.heap.size+1:=⟨_,rfl⟩;rw[←hbY]at HY⊢;rw[←hbx]at hX⊢;obtain⟨x0,x1,x2⟩:=hX.c3;have wY:=qd (GU.out w1 k m i hb1);clear hX hY hb1 hbx hbY;go_wp2_with fail;refine wY.out.mono ?_;rintro y w2 ⟨hy,hb2⟩;have HB2:=qd (HB1.out.trans (hb2.mono HB1.out.size));have hY2:=HY.out.below hb2 HY.out.lt;clear hb2 wY HB1 HY x0 x1 x2;rcases hy with⟨hbg,rfl⟩|⟨hbg,v1,us,rfl,ho1,ha1⟩
 ·obtain⟨e,he⟩:∃e,e=jU k m i l:=⟨_,rfl⟩;have HFin:=qd (show∀V,Below w.heap.size w V→Tg E k m i k' m' i' l w (.returned (.tuple #[.int .i64 0,.bool false,dK E e])) V from fun V hV=>⟨by rw[if_pos hbg,←he],hV⟩);rw[←he]at hbg⊢;rw[fI E (by omega)]at HFin⊢;clear he hbg hY2;go_wp2;refine bodyPost_ret (v:= .tuple #[.int .i64 0,.bool false,.iface 318 (.pointer (some (E e)))]) (by simp[results,Tryz.results6,go_sem]) rfl (HFin.out _ HB2.out)
 obtain⟨A1,c1,rfl⟩:=bU ho1;have HR1:=qd (And.intro ho1 ha1);have TS:=qd hbg;obtain⟨x0,x1,x2⟩:=hY2.c3;have sU:=qd (GU.out w2 k' m' i' HB2.out);clear ho1 ha1 hbg hY2 GU;go_wp2_with fail;refine sU.out.mono ?_;rintro y w3 ⟨hy,hb3⟩;have HB3:=qd (HB2.out.trans (hb3.mono HB2.out.size));have HR3:=qd (And.intro (own_below HR1.out.1 hb3 (Nat.le_refl _)) HR1.out.2);clear hb3 sU HB2 HR1 x0 x1 x2;rcases hy with⟨hbg,rfl⟩|⟨hbg,v2,vs,rfl,ho2,ha2⟩
 ·obtain⟨e,he⟩:∃e,e=jU k' m' i' l:=⟨_,rfl⟩;have HFin:=qd (show∀V,Below w.heap.size w V→Tg E k m i k' m' i' l w (.returned (.tuple #[.int .i64 0,.bool false,dK E e])) V from fun V hV=>⟨by rw[if_neg (by rw[TS.out];simp),if_pos hbg,←he],hV⟩);rw[←he]at hbg⊢;rw[fI E (by omega)]at HFin⊢;clear he hbg;go_wp2;refine bodyPost_ret (v:= .tuple #[.int .i64 0,.bool false,.iface 318 (.pointer (some (E e)))]) (by simp[results,Tryz.results6,go_sem]) rfl (HFin.out _ HB3.out)
 obtain⟨A2,c2,rfl⟩:=bU ho2;have hlu:=HR3.out.2.len;have hlv:=ha2.len;have hcm:=OZ HR3.out.2 ha2;have HFin:=qd (show∀V (o:Option Nat),nQ us vs=o→Below w.heap.size w V→Tg E k m i k' m' i' l w (.returned (.tuple #[.int .i64 ((o.getD 0:Nat):Int),.bool o.isNone,.nilIface])) V from fun V o ho hV=>⟨by rw[if_neg (by rw[TS.out];simp),if_neg (by rw[hbg];simp),←hcm,ho],hV⟩);have HRw:=qd (show∀V,Below w3.heap.size w3 V→Reads V V.heap.size 7 A1 us.length (us.flatMap (jq E))∧Reads V V.heap.size 7 A2 vs.length (vs.flatMap (jq E))from fun V hV=>⟨Reads.mG (own_below HR3.out.1 hV (Nat.le_refl _)),Reads.mG (own_below ho2 hV (Nat.le_refl _))⟩);have iQ:=qd (show(∀j a,us[j]?=some a→a.err≤16)∧(∀j a,vs[j]?=some a→a.err≤16)∧us.length=vs.length∧us.length≤65536 from⟨fun j a ha=>(HR3.out.2.at ha).choose_spec.2.2.2.2,fun j a ha=>(ha2.at ha).choose_spec.2.2.2.2,by omega,by have:=rV.out;omega⟩);have BI:=qd (Below.refl w3.heap.size w3);clear hbg ho2 ha2 hlu hlv hcm HR3 TS rV;go_wp2;go_loopw [34] (fun v34 wr=>∃j:Nat,j≤us.length∧v34=nI j∧Hid (nQ (us.take j) (vs.take j)=none)∧Hid (Below w3.heap.size w3 wr)) (fun v34 _=>us.length-(intOf v34).toNat)
 case atStart=>exact⟨0,by omega,rfl,qd (by simp[nQ]),BI⟩
 case round=>
  clear BI;obtain⟨j,hj,rfl,HC,BI⟩:=hrel;by_cases hlt:j<us.length
  ·have hlt':(j:Int)<(us.length:Int):=by omega
   have hj0:(0:Int)≤(j:Int):=by omega
   obtain⟨ha16,ac9,hll,hl6⟩:=iQ.out
   have hltv:(j:Int)<(vs.length:Int):=by omega
   have hwj:IntKind.i64.wrap ((j:Int)+1)=((j+1:Nat):Int):=by rw[IntKind.wrap_i64];omega
   obtain⟨a,ha⟩:∃a,us[j]?=some a:=⟨_,List.getElem?_eq_getElem hlt⟩;obtain⟨b,hb⟩:∃b,vs[j]?=some b:=⟨_,List.getElem?_eq_getElem (show j<vs.length by omega)⟩;obtain⟨hr1,hr2⟩:=HRw.out wr BI.out;obtain⟨g1,off1,hA1,_,hc1⟩:=hr1.2 (by omega);obtain⟨g2,off2,hA2,_,hc2⟩:=hr2.2 (by omega);obtain⟨ua,hua⟩:∃ua,ua=dK E a.err:=⟨_,rfl⟩;obtain⟨ub,hub⟩:∃ub,ub=dK E b.err:=⟨_,rfl⟩;have r0:wr.cell? ⟨g1,off1+j*7,none⟩=some (.int .i64 a.kind):=hc1 (j*7+0) _ (jr ha (by unfold jq;rfl));have r1:wr.cell? ⟨g1,off1+j*7+1,none⟩=some (.int .i64 a.iter):=hc1 (j*7+1) _ (jr ha (by unfold jq;rfl));have r2:wr.cell? ⟨g1,off1+j*7+2,none⟩=some (.int .i64 a.state):=hc1 (j*7+2) _ (jr ha (by unfold jq;rfl));have r3:wr.cell? ⟨g1,off1+j*7+3,none⟩=some (.bool a.is):=hc1 (j*7+3) _ (jr ha (by unfold jq;rfl));have r4:wr.cell? ⟨g1,off1+j*7+4,none⟩=some (nU a.key):=hc1 (j*7+4) _ (jr ha (by unfold jq;rfl));have r5:wr.cell? ⟨g1,off1+j*7+5,none⟩=some (nU a.val):=hc1 (j*7+5) _ (jr ha (by unfold jq;rfl));have r6:wr.cell? ⟨g1,off1+j*7+6,none⟩=some (ua):=hc1 (j*7+6) _ (jr ha (by unfold jq;rw[←hua];rfl));have y0:wr.cell? ⟨g2,off2+j*7,none⟩=some (.int .i64 b.kind):=hc2 (j*7+0) _ (jr hb (by unfold jq;rfl));have y1:wr.cell? ⟨g2,off2+j*7+1,none⟩=some (.int .i64 b.iter):=hc2 (j*7+1) _ (jr hb (by unfold jq;rfl));have y2:wr.cell? ⟨g2,off2+j*7+2,none⟩=some (.int .i64 b.state):=hc2 (j*7+2) _ (jr hb (by unfold jq;rfl));have y3:wr.cell? ⟨g2,off2+j*7+3,none⟩=some (.bool b.is):=hc2 (j*7+3) _ (jr hb (by unfold jq;rfl))
   have y4:wr.cell? ⟨g2,off2+j*7+4,none⟩=some (nU b.key):=hc2 (j*7+4) _ (jr hb (by unfold jq;rfl));have y5:wr.cell? ⟨g2,off2+j*7+5,none⟩=some (nU b.val):=hc2 (j*7+5) _ (jr hb (by unfold jq;rfl));have y6:wr.cell? ⟨g2,off2+j*7+6,none⟩=some (ub):=hc2 (j*7+6) _ (jr hb (by unfold jq;rw[←hub];rfl));subst hA1;subst hA2
   have hfm:Jv ua a.err:=by rw[hua];exact IB E a.err
   have hu2:ub.oneCell'=true:=by rw[hub];exact F9 (IB E b.err)
   have hsm:∀V,Below w.heap.size w V→Calls Tryz.prog 12 #[.agg #[.int .i64 a.kind,.int .i64 a.iter,.int .i64 a.state,.bool a.is,nU a.key,nU a.val,ua],.agg #[.int .i64 b.kind,.int .i64 b.iter,.int .i64 b.state,.bool b.is,nU b.key,nU b.val,ub]] V fun y w'=>y= .returned (.bool (decide (a=b)))∧Below V.heap.size V w':=fun V hV=>by
    have:=HSa.out V a b (ha16 _ _ ha) (ac9 _ _ hb) hV;unfold oh at this;rw[←hua,←hub]at this;exact this
   have CF:=qd hsm;have HN:=qd (show(¬(a.kind≠7∧a≠b)→nQ (us.take (j+1)) (vs.take (j+1))=none)∧(a.kind≠7→a≠b→nQ us vs=some j)from⟨K3 ha hb HC.out,O0 ha hb HC.out⟩);clear hc1 hc2 hr1 hr2 ha hb hua hub hsm ha16 ac9 hll hl6 HC;have hform:=LP hfm;clear hfm;rcases hform with rfl|⟨Ae,rfl⟩
   ·go_upto_region 10 with fail;refine aZ (F:=fun v=>aj v wr.heap.size 47 #[.int .i64 a.kind,.int .i64 a.iter,.int .i64 a.state,.bool a.is,nU a.key,nU a.val,.nilIface]∧Below wr.heap.size wr v) ⟨aj.new wr 47 #[.int .i64 a.kind,.int .i64 a.iter,.int .i64 a.state,.bool a.is,nU a.key,nU a.val,.nilIface],(Below.refl wr.heap.size wr).alloc (Nat.le_refl _) _⟩ ?_;rintro w2 ⟨hX2,hb2⟩;obtain⟨p,hp⟩:∃p,p=wr.heap.size:=⟨_,rfl⟩;rw[←hp]at hX2⊢;obtain⟨x0,x1,x2,x3,x4,x5,x6⟩:=hX2.c7;replace y0:=aA hb2 y0;replace y1:=aA hb2 y1;replace y2:=aA hb2 y2;replace y3:=aA hb2 y3;replace y4:=aA hb2 y4;replace y5:=aA hb2 y5;replace y6:=aA hb2 y6;have oW:=qd (BI.out.trans (hb2.mono BI.out.size));have HB2:=qd (HB3.out.trans (oW.out.mono HB3.out.size));have HM:=qd (show us.length-(j+1)<us.length-j by omega);clear hX2 hb2 hp r0 r1 r2 r3 r4 r5 r6 BI;by_cases hk:a.kind=7
    ·have sD:=qd (HN.out.1 (fun hh=>hh.1 hk));clear HN CF;go_quiet (fail);go_wp2;go_roundw
     case measure=>simp[intOf];exact HM.out
     exact⟨j+1,by omega,rfl,sD,qd (below_drewN oW.out _)⟩
    ·have HK:=qd hk
     have hkd:(a.kind==7)=false:=by simpa using hk
     refine rT (fun(w':World)=>w'.cell? ⟨p,0,none⟩=some (.int .i64 a.kind)∧w'.cell? ⟨p,1,none⟩=some (.int .i64 a.iter)∧w'.cell? ⟨p,2,none⟩=some (.int .i64 a.state)∧w'.cell? ⟨p,3,none⟩=some (.bool a.is)∧w'.cell? ⟨p,4,none⟩=some (nU a.key)∧w'.cell? ⟨p,5,none⟩=some (nU a.val)∧w'.cell? ⟨p,6,none⟩=some (.nilIface)∧w'.cell? ⟨g2,off2+j*7,none⟩=some (.int .i64 b.kind)∧w'.cell? ⟨g2,off2+j*7+1,none⟩=some (.int .i64 b.iter)∧w'.cell? ⟨g2,off2+j*7+2,none⟩=some (.int .i64 b.state)∧w'.cell? ⟨g2,off2+j*7+3,none⟩=some (.bool b.is)∧w'.cell? ⟨g2,off2+j*7+4,none⟩=some (nU b.key)∧w'.cell? ⟨g2,off2+j*7+5,none⟩=some (nU b.val)∧w'.cell? ⟨g2,off2+j*7+6,none⟩=some (ub)) [] ?_;have hHeld:=(⟨x0,x1,x2,x3,x4,x5,x6,y0,y1,y2,y3,y4,y5,y6⟩:_∧_∧_∧_∧_∧_∧_∧_∧_∧_∧_∧_∧_∧_);refine vW 0 rfl ?_;refine vT 1 rfl ?_;refine tW 2 (some 41) (.bool true) rfl hHeld ?_
     try simp only[pt]
     refine tW 3 (some 42) (.bool true) rfl hHeld ?_
     try simp only[pt]
     refine vT 4 rfl ?_;refine vW 5 rfl ?_;refine vW 6 rfl ?_;refine vW 7 rfl ?_;refine vT 8 rfl ?_;refine nT 9 rfl fun K hK=> ?_;go_simp;refine(CF.out _ (by first|exact HB2.out|exact HB2.out.drew)).mono ?_;rintro y V1 ⟨rfl,hb2⟩
     have hbq:Below w3.heap.size w3 V1:=by first|exact oW.out.trans (hb2.mono oW.out.size)|exact oW.out.drew.trans (hb2.mono oW.out.drew.size)
     replace oW:=qd hbq;clear hbq;replace HB2:=qd (show Below w.heap.size w V1 from by first|exact HB2.out.trans (hb2.mono HB2.out.size)|exact HB2.out.drew.trans (hb2.mono HB2.out.drew.size));replace x0:=aA hb2 x0;replace y0:=aA hb2 y0;replace x1:=aA hb2 x1;replace y1:=aA hb2 y1;replace x2:=aA hb2 x2;replace y2:=aA hb2 y2;replace x3:=aA hb2 x3;replace y3:=aA hb2 y3;replace x4:=aA hb2 x4;replace y4:=aA hb2 y4;replace x5:=aA hb2 x5;replace y5:=aA hb2 y5;replace x6:=aA hb2 x6;replace y6:=aA hb2 y6;clear hb2;go_wp2_with fail;have hHeld:=(⟨x0,x1,x2,x3,x4,x5,x6,y0,y1,y2,y3,y4,y5,y6⟩:_∧_∧_∧_∧_∧_∧_∧_∧_∧_∧_∧_∧_∧_);refine kO hK ?_;clear hK K;refine vW 10 rfl ?_;refine vW 11 rfl ?_;refine aU (by kernel_rfl) ?_ _;by_cases hab:a=b
     ·have sD:=qd (HN.out.1 (fun hh=>hh.2 hab));have hd:decide (a=b)=true:=decide_eq_true hab;rw[hd];clear HN CF hab hd;go_wp2;go_roundw
      case measure=>simp[intOf];exact HM.out
      exact⟨j+1,by omega,rfl,sD,oW⟩
     ·have HF:=qd (HFin.out _ (some j) (HN.out.2 hk hab) HB2.out);have hd:decide (a=b)=false:=decide_eq_false hab;rw[hd];clear HN CF hab hd;go_wp2;refine bodyPost_ret (v:= .tuple #[nI j,.bool false,.nilIface]) (by simp[results,Tryz.results6,go_sem]) rfl HF.out
   ·go_upto_region 10 with fail;refine aZ (F:=fun v=>aj v wr.heap.size 47 #[.int .i64 a.kind,.int .i64 a.iter,.int .i64 a.state,.bool a.is,nU a.key,nU a.val,.iface 318 (.pointer (some Ae))]∧Below wr.heap.size wr v) ⟨aj.new wr 47 #[.int .i64 a.kind,.int .i64 a.iter,.int .i64 a.state,.bool a.is,nU a.key,nU a.val,.iface 318 (.pointer (some Ae))],(Below.refl wr.heap.size wr).alloc (Nat.le_refl _) _⟩ ?_;rintro w2 ⟨hX2,hb2⟩;obtain⟨p,hp⟩:∃p,p=wr.heap.size:=⟨_,rfl⟩;rw[←hp]at hX2⊢;obtain⟨x0,x1,x2,x3,x4,x5,x6⟩:=hX2.c7;replace y0:=aA hb2 y0;replace y1:=aA hb2 y1;replace y2:=aA hb2 y2;replace y3:=aA hb2 y3;replace y4:=aA hb2 y4;replace y5:=aA hb2 y5;replace y6:=aA hb2 y6;have oW:=qd (BI.out.trans (hb2.mono BI.out.size));have HB2:=qd (HB3.out.trans (oW.out.mono HB3.out.size));have HM:=qd (show us.length-(j+1)<us.length-j by omega);clear hX2 hb2 hp r0 r1 r2 r3 r4 r5 r6 BI;by_cases hk:a.kind=7
    ·have sD:=qd (HN.out.1 (fun hh=>hh.1 hk));clear HN CF;go_quiet (fail);go_wp2;go_roundw
     case measure=>simp[intOf];exact HM.out
     exact⟨j+1,by omega,rfl,sD,qd (below_drewN oW.out _)⟩
    ·have HK:=qd hk
     have hkd:(a.kind==7)=false:=by simpa using hk
     refine rT (fun(w':World)=>w'.cell? ⟨p,0,none⟩=some (.int .i64 a.kind)∧w'.cell? ⟨p,1,none⟩=some (.int .i64 a.iter)∧w'.cell? ⟨p,2,none⟩=some (.int .i64 a.state)∧w'.cell? ⟨p,3,none⟩=some (.bool a.is)∧w'.cell? ⟨p,4,none⟩=some (nU a.key)∧w'.cell? ⟨p,5,none⟩=some (nU a.val)∧w'.cell? ⟨p,6,none⟩=some (.iface 318 (.pointer (some Ae)))∧w'.cell? ⟨g2,off2+j*7,none⟩=some (.int .i64 b.kind)∧w'.cell? ⟨g2,off2+j*7+1,none⟩=some (.int .i64 b.iter)∧w'.cell? ⟨g2,off2+j*7+2,none⟩=some (.int .i64 b.state)∧w'.cell? ⟨g2,off2+j*7+3,none⟩=some (.bool b.is)∧w'.cell? ⟨g2,off2+j*7+4,none⟩=some (nU b.key)∧w'.cell? ⟨g2,off2+j*7+5,none⟩=some (nU b.val)∧w'.cell? ⟨g2,off2+j*7+6,none⟩=some (ub)) [] ?_;have hHeld:=(⟨x0,x1,x2,x3,x4,x5,x6,y0,y1,y2,y3,y4,y5,y6⟩:_∧_∧_∧_∧_∧_∧_∧_∧_∧_∧_∧_∧_∧_);refine vW 0 rfl ?_;refine vT 1 rfl ?_;refine tW 2 (some 41) (.bool true) rfl hHeld ?_
     try simp only[pt]
     refine tW 3 (some 42) (.bool true) rfl hHeld ?_
     try simp only[pt]
     refine vT 4 rfl ?_;refine vW 5 rfl ?_;refine vW 6 rfl ?_;refine vW 7 rfl ?_;refine vT 8 rfl ?_;refine nT 9 rfl fun K hK=> ?_;go_simp;refine(CF.out _ (by first|exact HB2.out|exact HB2.out.drew)).mono ?_;rintro y V1 ⟨rfl,hb2⟩
     have hbq:Below w3.heap.size w3 V1:=by first|exact oW.out.trans (hb2.mono oW.out.size)|exact oW.out.drew.trans (hb2.mono oW.out.drew.size)
     replace oW:=qd hbq;clear hbq;replace HB2:=qd (show Below w.heap.size w V1 from by first|exact HB2.out.trans (hb2.mono HB2.out.size)|exact HB2.out.drew.trans (hb2.mono HB2.out.drew.size));replace x0:=aA hb2 x0;replace y0:=aA hb2 y0;replace x1:=aA hb2 x1;replace y1:=aA hb2 y1;replace x2:=aA hb2 x2;replace y2:=aA hb2 y2;replace x3:=aA hb2 x3;replace y3:=aA hb2 y3;replace x4:=aA hb2 x4;replace y4:=aA hb2 y4;replace x5:=aA hb2 x5;replace y5:=aA hb2 y5;replace x6:=aA hb2 x6;replace y6:=aA hb2 y6;clear hb2;go_wp2_with fail;have hHeld:=(⟨x0,x1,x2,x3,x4,x5,x6,y0,y1,y2,y3,y4,y5,y6⟩:_∧_∧_∧_∧_∧_∧_∧_∧_∧_∧_∧_∧_∧_);refine kO hK ?_;clear hK K;refine vW 10 rfl ?_;refine vW 11 rfl ?_;refine aU (by kernel_rfl) ?_ _;by_cases hab:a=b
     ·have sD:=qd (HN.out.1 (fun hh=>hh.2 hab));have hd:decide (a=b)=true:=decide_eq_true hab;rw[hd];clear HN CF hab hd;go_wp2;go_roundw
      case measure=>simp[intOf];exact HM.out
      exact⟨j+1,by omega,rfl,sD,oW⟩
     ·have HF:=qd (HFin.out _ (some j) (HN.out.2 hk hab) HB2.out);have hd:decide (a=b)=false:=decide_eq_false hab;rw[hd];clear HN CF hab hd;go_wp2;refine bodyPost_ret (v:= .tuple #[nI j,.bool false,.nilIface]) (by simp[results,Tryz.results6,go_sem]) rfl HF.out
  ·obtain rfl:j=us.length:=by omega
   have hlt':¬(us.length:Int)<(us.length:Int):=by omega
   have hC:=HC.out;rw[List.take_length,iQ.out.2.2.1,List.take_length]at hC;have HF:=qd (HFin.out wr none hC (HB3.out.trans (BI.out.mono HB3.out.size)));clear hC HC;go_wp2;refine bodyPost_ret (v:= .tuple #[.int .i64 0,.bool true,.nilIface]) (by simp[results,Tryz.results6,go_sem]) rfl HF.out
end Go.Proofs.YtkkibocdfijnhaaGreatDoor
