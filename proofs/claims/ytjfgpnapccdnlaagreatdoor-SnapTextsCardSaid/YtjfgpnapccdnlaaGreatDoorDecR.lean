/- A map's snapshot by its contract: all pairs, by keys, rising. No statement of the claim. -/
import Derived.Test.YtjfgpnapccdnlaaGreatDoorRmF
import Derived.Test.YtjfgpnapccdnlaaGreatDoorBuilder
import Derived.Test.YtjfgpnapccdnlaaGreatDoorWordsT
import Derived.Test.YtjfgpnapccdnlaaGreatDoorRmS
import Derived.Deep.LoopGhost
import Derived.Test.YtjfgpnapccdnlaaGreatDoorDecK
import Derived.Test.YtjfgpnapccdnlaaGreatDoorCoAB
import Derived.Deep.CutRange
import Derived.BigQuiet
import Derived.Deep.QuietTactic
namespace Go.Proofs.YtjfgpnapccdnlaaGreatDoor
set_option maxRecDepth 100000
set_option maxHeartbeats 4000000
open Go.RowKit dF wF qw yS
section
variable {es out : List ay} {G hs : List Nat} {b' n sz : Nat} {c : fZ} {t : TypeId} {v : Value} {xs : List Value}
def rX (e:ay):Nat×Nat:=(e.key,e.val)
theorem Vl (hn:(es.map ay.key).Nodup)(ho:out.Nodup)(hs:∀e∈out,e∈es):((out.map rX).map Prod.fst).Nodup:=by
 rw[List.map_map];show(out.map ay.key).Nodup;unfold List.Nodup;rw[List.pairwise_map];exact ho.imp_of_mem fun h1 h2 hne hk=>hne (Vj hn _ (hs _ h1) _ (hs _ h2) hk)
theorem acJ (h:Way es hs n out c):out.length≤es.length:=Er h.yX.nodup fun e he=>((h.mem e).1 he).1
theorem Qw (hn:(es.map ay.key).Nodup)(h:Way es hs n out c):((out.map rX).map Prod.fst).Nodup:=Vl hn h.yX.nodup fun e he=>((h.mem e).1 he).1
theorem aaZ {m:ay}(hn:(es.map ay.key).Nodup)(h:Way es hs n (out++[m]) c):(jN (out.map rX)).length<es.length∧qV (jN (out.map rX)) m.key=false:=by
 have h1:=acJ h;have h2:=Qw hn h;rw[List.map_append,List.map_append,List.nodup_append]at h2;have h3:=NQ h2.1;rw[List.length_append,List.length_singleton]at h1;refine⟨by rw[h3.2,List.length_map];omega, ?_⟩;rw[RH (Bj _)]
 cases hg:oC (jN (out.map rX)) m.key with
 |none=>rfl
 |some v=>
  have h4:=(h3.1 _).1 ((oD (Bj _)).1 hg);exact absurd rfl (h2.2.2 m.key (List.mem_map_of_mem (f:=Prod.fst) h4) m.key (by simp[rX]))
theorem acK (hn:(es.map ay.key).Nodup)(h:Way es hs n out c)(hd:c.done=true):(∀k,oC (jN (out.map rX)) k=yP es k)∧(jN (out.map rX)).length=es.length:=by
 have h1:=h.afB hn hd;have h3:=NQ (Qw hn h);refine⟨fun k=> ?_,by rw[h3.2,List.length_map,h1.length_eq]⟩;unfold yP
 cases hl:look es k with
 |none=>
  rw[Option.map_none,oF];intro p hp hk;obtain⟨e,he,rfl⟩:=List.mem_map.1 ((h3.1 p).1 hp);have:=lI hn (h1.mem_iff.1 he);rw[show e.key=k from hk,hl]at this;cases this
 |some e=>
  obtain⟨he,rfl⟩:=yw hl;exact(oD (Bj _)).2 ((h3.1 _).2 (List.mem_map.2 ⟨e,h1.mem_iff.2 he,rfl⟩))
theorem acL {W0:World}{E:Nat→Addr}{H:Nat→Nat}{Kk M I b:Nat}{w:World}{a:Pool}{ids:List Nat}{its:List It}{gv:Nat}{gL:bF}(h:nV W0 E H Kk M I b G w a ids its gv gL):∀e∈a.ents,e.hash<18446744073709551616∧e.key<18446744073709551616:=fun e he=>by
 obtain⟨C,GC,mb,h1,_⟩:=h;obtain⟨i,N,g1,g2⟩:=o8.1 he;have h3:=((h1.core.facts.2.2.2.2.2.1 i N g1).hash e g2).1;exact⟨h3.h64,h3.k64⟩
theorem Qx {w w':World}{S:List Nat}{base:Nat}(h:w.ownsRow base t sz v n xs)(hm:Mod S w w')(hS:∀q∈v.ownBlock.toList,q∉S):w'.ownsRow base t sz v n xs:=by
 refine⟨h.1, ?_⟩;rcases h.2 with k|⟨g,cap,cur,rfl,k2,k3,k4⟩
 ·exact .inl k
 ·refine .inr ⟨g,cap,cur,rfl,k2, ?_,k4⟩;rw[hm.block g (Array.getElem?_eq_some_iff.1 k3).1 (hS g (by simp[Value.ownBlock]))];exact k3
theorem Ch {w:World}{b:Nat}(h:w.ownsRow b t sz v n xs)(hb:b'≤b):w.ownsRow b' t sz v n xs:=
 ⟨h.1,h.2.imp id fun⟨g,cap,cur,h1,h2,h3⟩=>⟨g,cap,cur,h1,Nat.le_trans hb h2,h3⟩⟩
theorem acM {b fb most:Nat}{w:World}{F:List Nat}{l:PL}(h:tK b w fb most F l)(hb:b'≤b):tK b' w fb most F l:=by
 obtain⟨v,h1,h2,h3,h4,h5⟩:=h;exact⟨v,h1,Ch h2 hb,h3,Nat.le_trans hb h4,h5⟩
structure Two (W0:World)(E:Nat→Addr)(H:Nat→Nat)(K M I b:Nat)(w0 w:World)(G0 F:List Nat)(a:Pool)(ids:List Nat)(its:List It)(gv:Nat)(gL:bF)(fb most:Nat)(F2:List Nat)(l:PL):Prop where
 map:nV W0 E H K M I b F w a ids its gv gL
 fn:tK w0.heap.size w fb most F2 l
 apart:∀q∈F2,q∉F
 from_:∀q∈F,q∈G0∨w0.heap.size≤q
 mod:Mod G0 w0 w
 base:W0.heap.size≤w0.heap.size
section
variable {W0 : World} {E : Nat → Addr} {H : Nat → Nat} {K M I b : Nat} {w0 w w' : World} {G0 F F2 : List Nat} {a a' : Pool} {ids aP : List Nat} {its qO : List It} {gv CB : Nat} {gL jG : bF} {fb most : Nat} {l l' : PL}
theorem Two.step (h:Two W0 E H K M I b w0 w G0 F a ids its gv gL fb most F2 l)(hr:tC W0 E H K M I b F w w' a' aP qO CB jG):∃F',Two W0 E H K M I b w0 w' G0 F' a' aP qO CB jG fb most F2 l:=by
 obtain⟨F',h1,h2,h3⟩:=hr;have hsz:=h.mod.size;refine⟨F',h1,h.fn.mod h3 fun q hq hf=>h.apart q hf hq,fun q hq hf=> ?_,fun q hq=> ?_,h.mod.trans h3 (fun _ hk _=>hk) (fun q hq hl=>(h.from_ q hq).elim id fun k=>absurd hl (by omega)),h.base⟩
 ·rcases h2 q hf with k|k
  ·exact h.apart q hq k
  ·have:=(h.fn.iE q hq).1;omega
 ·rcases h2 q hq with k|k
  ·exact h.from_ q k
  ·exact .inr (by omega)
theorem Two.put (h:Two W0 E H K M I b w0 w G0 F a ids its gv gL fb most F2 l)(hr:Y1 w0.heap.size w w' fb most F2 l'):∃F',Two W0 E H K M I b w0 w' G0 F a ids its gv gL fb most F' l':=by
 obtain⟨F',h1,h2,h3⟩:=hr;have hsz:=h.mod.size;refine⟨F',h.map.mod h3 (fun q hq=>⟨h.apart q hq,Nat.le_trans h.base (h.fn.iE q hq).2⟩),h1,fun q hq hf=> ?_,h.from_,h.mod.trans h3 (fun _ hk _=>hk) (fun q hq hl=>absurd (h.fn.iE q hq).2 (by omega)),h.base⟩;rcases h2 q hq with k|k
 ·exact h.apart q k hf
 ·have:=(h.map.facts.1 q hf).1;omega
theorem Two.below (h:Two W0 E H K M I b w0 w G0 F a ids its gv gL fb most F2 l)(hb:Below w.heap.size w w'):Two W0 E H K M I b w0 w' G0 F a ids its gv gL fb most F2 l:=
 ⟨h.map.below hb,h.fn.below hb,h.apart,h.from_,h.mod.then (Mod.of_below hb _),h.base⟩
end
theorem acN {W0:World}{E:Nat→Addr}{H:Nat→Nat}{K M I b:Nat}{w:World}{R:Nat→Option Nat}{gv:Nat}(h:pF W0 E H K M I b G w R n [] gv)(hI:1≤I)(hg:gv≤100000)(h6:dL E W0 6):
  Calls Tryz.prog 15 #[.pointer (some ⟨b,0,none⟩)] w fun y w'=>∃v l G',y= .returned (.tuple #[v,.nilIface])∧jq l∧(∀k,oC l k=R k)∧w'.ownsRow w.heap.size 49 2 v l.length (l.flatMap bB)∧(∀q∈v.ownBlock.toList,q∉G')∧pF W0 E H K M I b G' w' R n [] (gv+1)∧(∀q∈G',q∈G∨w.heap.size≤q)∧Mod G w w':=by
 obtain⟨a,ids,afC,hR,rfl,rfl⟩:=h;obtain⟨hlts,hnd,hlM,hM,h32,_,_,_,_,aeb⟩:=hR.facts;have hop:=acC hR (by simp;omega) hg;simp only[List.nil_append]at hop;have OE:=qd hop;have DL:=qd hnd;have aec:=qd (acL hR);have H6:=qd h6;have HW0:=qd aeb.size;have Vm:=qd (show a.ents.length≤192 by omega);have sI:=qd (show a.ents.length+(jY a).length≤224 from by unfold jY;rw[List.length_map];omega);have ahD:=qd (aea a.ents (jY a) ⟨0,0,false⟩);clear hop hR hlts hnd hlM hM h32 aeb hg h6 hI;go_in;go_wp2_with fail;refine OE.out.mono ?_;rintro y w1 ⟨cb,rfl,F1,hA1,hs1,hm1⟩;have oO:=qd (adY hA1);have mU:=qd (ac3 a.ents.length w1);obtain⟨n0,hn0⟩:∃n0,n0=a.ents.length:=⟨_,rfl⟩;rw[←hn0]at oO mU;have Pe:=qd hn0;have HX:=qd (And.intro hA1 (And.intro hs1 hm1));clear hA1 hs1 hm1 OE hn0;go_wp2_with fail;refine oO.out.mono ?_;rintro y wq ⟨rfl,rfl⟩;go_wp2_with fail;refine mU.out.mono ?_;rintro y w2 ⟨rfl,hf2,hb2⟩;obtain⟨fb,oh⟩:∃fb,fb=w1.heap.size:=⟨_,rfl⟩
 have HT:=qd (show Two W0 E H K M I b w w2 G F1 a ids [⟨gv+1,cb,⟨0,0,false⟩⟩] (gv+1) afC fb n0 [fb] (jN (([]:List ay).map rX))from by
  obtain⟨g1,g2,g3⟩:=HX.out;have hsz:=g3.size;rw[oh]
  exact⟨g1.below hb2,acM hf2 hsz,fun q hq hF=>by have:=(g1.facts.1 q hF).1;simp at hq;omega,g2,g3.then (Mod.of_below hb2 _),HW0.out⟩)
 rw[←oh];have HW:=qd (Way.start a.ents (jY a));clear hf2 hb2 oh HX oO mU;go_wp2;go_loopg [7] (zA a.ents (jY a) ⟨0,0,false⟩) (fun k _ wr=>∃(n1:Nat) (F:List Nat) (c:fZ) (gL:bF) (out:List ay) (F2:List Nat),k=zA a.ents (jY a) c∧Hid (Two W0 E H K M I b w wr G F a ids [⟨gv+1,cb,c⟩] (gv+1) gL fb n0 F2 (jN (out.map rX)))∧Hid (Way a.ents (jY a) n1 out c))
 case atStart=>exact⟨0,F1,_,_,[],[fb],rfl,HT,HW⟩
 case round=>
  clear HT HW;obtain⟨n1,F,c,gL,out,F2,hk,HT,HW⟩:=hrel;have jg:=acI HT.out.map H6.out (id:=gv+1) (cb:=cb) (c:=c) (by simp) HW.out.ok;unfold zx at jg;replace jg:=qd jg;have HK:=qd hk;clear hk;go_wp2_with fail;refine jg.out.mono ?_;rintro y w5 ⟨it,c',jG,rfl,hns,-,hrt⟩;obtain⟨out',hw',hor⟩:=HW.out.next DL.out aec.out hns;have uX:=qd (fun hst:it.st≠3=>hns.zA aec.out hst);obtain⟨F',rD⟩:=HT.out.step hrt;have HT5:=qd (show Two W0 E H K M I b w w5 G F' a ids [⟨gv+1,cb,c'⟩] (gv+1) jG fb n0 F2 (jN (out.map rX))from by simpa[kJ]using rD);have HW5:=qd hw';have HOr:=qd hor;obtain⟨st,ky,vl⟩:=it;clear rD hrt hns hw' hor jg HT HW;go_upto_region 8 with fail;refine dx (F:=fun v=>aj v w5.heap.size 102 #[.int .i64 (st:Int),.int .u64 (ky:Int),.int .u64 (vl:Int)]∧Below w5.heap.size w5 v) ⟨aj.new w5 102 #[.int .i64 (st:Int),.int .u64 (ky:Int),.int .u64 (vl:Int)],(Below.refl w5.heap.size w5).alloc (Nat.le_refl _) _⟩ ?_;rintro w6 ⟨kE,hb6⟩;obtain⟨bx,hbx⟩:∃bx,bx=w5.heap.size:=⟨_,rfl⟩;rw[←hbx]at kE⊢;obtain⟨x0,x1,x2⟩:=kE.c3;have JA:=qd (HT5.out.below hb6);clear kE hb6 hbx HT5;rcases HOr.out with⟨hst,_,m,_,hout,_,_,hky,hvl,_⟩|⟨hst,hout,_,_,h23,hdn⟩
  ·try simp only at hst hky hvl
   subst hst;subst hky;subst hvl;subst hout;have HK':=qd (show zA a.ents (jY a) c'<gk from by rw[HK.out];exact uX.out (by decide));have hroom:=aaZ DL.out HW5.out
   have hlen:(jN (out.map rX)).length≤192:=by have:=hroom.1;have:=Vm.out;omega
   have Xn:=qd (adb JA.out.fn (by omega) m.key m.val (fun _=>by rw[Pe.out];exact hroom.1) (by rw[Pe.out];have:=Vm.out;omega));clear uX HOr hroom hlen;go_wp2_with fail;refine Xn.out.mono ?_;rintro y w7 ⟨rfl,hto⟩;obtain⟨F3,hT7⟩:=JA.out.put hto;have Mw:=qd (show Two W0 E H K M I b w w7 G F' a ids [⟨gv+1,cb,c'⟩] (gv+1) jG fb n0 F3 (jN ((out++[m]).map rX))from by rw[List.map_append,List.map_singleton,VI];exact hT7);clear hto hT7 JA Xn x0 x1 x2;go_wp2;go_roundg (zA a.ents (jY a) c')
   case measure=>exact HK'.out
   case rel=>exact⟨n1+1,F',c',jG,out++[m],F3,rfl,Mw,HW5⟩
  ·try simp only at hst h23 hdn
   subst hout;rcases h23 with rfl|rfl
   ·have HK':=qd (show zA a.ents (jY a) c'<gk from by rw[HK.out];exact uX.out (by decide));clear uX HOr hdn hst;go_wp2;go_roundg (zA a.ents (jY a) c')
    case measure=>exact HK'.out
    case rel=>exact⟨n1+1,F',c',jG,out',F2,rfl,JA,HW5⟩
   ·have hend:=acK DL.out HW5.out (hdn.1 rfl);have afD:=qd hend;have lC:=qd (ZA JA.out.fn (by rw[hend.2];have:=Vm.out;omega));clear uX HOr hdn hst hend;go_wp2_with fail;refine lC.out.mono ?_;rintro y w7 ⟨v',rfl,Si,kF⟩;obtain⟨A',c7,rfl⟩:=aH Si;have Mw:=qd (JA.out.below kF);have Mx:=qd (And.intro Si (And.intro kF.size (show∀q∈F',q<w6.heap.size from fun q hq=>(JA.out.map.facts.1 q hq).1)));have Dz:=qd (aaS Mw.out.map (j:=0) rfl);have afE:=JA.out.mod.size;clear Si kF lC JA x0 x1 x2;go_wp2_with fail;refine Dz.out.mono ?_;rintro y w8 ⟨rfl,F8,Td,Ao,hm8⟩;have hown:∀q∈(Value.slice A' (jN (out'.map rX)).length c7).ownBlock.toList,w6.heap.size≤q∧q<w7.heap.size:=fun q hq=>Mx.out.1.lt q (by simpa using hq)
    have HFin:=qd (show w8.ownsRow w.heap.size 49 2 (.slice A' (jN (out'.map rX)).length c7) (jN (out'.map rX)).length ((jN (out'.map rX)).flatMap bB)∧(∀q∈(Value.slice A' (jN (out'.map rX)).length c7).ownBlock.toList,q∉F8)∧pF W0 E H K M I b F8 w8 (yP a.ents) a.ents.length [] (gv+1)∧(∀q∈F8,q∈G∨w.heap.size≤q)∧Mod G w w8 from by
     refine⟨Qx (Ch Mx.out.1 afE) hm8 (fun q hq hF=> ?_),fun q hq hF=> ?_,⟨a,ids,jG,by simpa using Td,rfl,rfl⟩,fun q hq=> ?_,Mw.out.mod.trans hm8 (fun _ hk _=>hk) (fun q hq hl=>(Mw.out.from_ q hq).elim id (fun k=>absurd hl (by omega)))⟩
     ·have:=hown q hq;have:=Mx.out.2.2 q hF;omega
     ·have h1:=hown q hq;rcases Ao q hF with k|k
      ·have:=Mx.out.2.2 q k;omega
      ·omega
     ·rcases Ao q hq with k|k
      ·exact Mw.out.from_ q k
      ·exact .inr (by have:=Mw.out.mod.size;omega))
    clear Td Ao hm8 hown Dz Mw Mx;go_wp2;refine bodyPost_ret (v:= .tuple #[.slice A' (jN (out'.map rX)).length c7,.nilIface]) (by simp[results,Tryz.results15,go_sem]) rfl ⟨_,jN (out'.map rX),F8,rfl,Bj _,afD.out.1,HFin.out⟩
end
section
variable {E : Nat → Addr}
end
section
variable {E : Nat → Addr} {A : Option Addr} {c' : Nat}
def kS (l:List UInt8):Option Nat:=
 match numOf l with
 |some n=>if 48::120::d9 n=l then some n else none
 |none=>none
def Kq (E:Nat→Addr):Option Nat→Value
 |some n=> .tuple #[.int .u64 (n:Int),.nilIface]
 |none=> .tuple #[.int .u64 0,jO E 13]
theorem str_eq {a b:List UInt8}(h:(⟨a.toArray⟩:ByteArray).toList=(⟨b.toArray⟩:ByteArray).toList):a=b:=by
 rw[ByteArray.toList_eq,ByteArray.toList_eq]at h;simpa using h
theorem Eu (l:List UInt8)(hl:l.length≤70000)(w:World)(hN:iF E w)(hT:w.cell? ⟨21,15,none⟩=some (.int .u8 4)):
  Calls Tryz.prog 48 #[dN l] w fun y w'=>y= .returned (Kq E (kS l))∧Below w.heap.size w w':=by
 have h1:=OQ (E:=E) (⟨l.toArray⟩:ByteArray) w (by show l.toArray.size≤70000;simp;omega) hN;rw[show(⟨l.toArray⟩:ByteArray).data.toList=l by simp]at h1;have her:=fun(W:World) (hb:Below w.heap.size w W)=>show dL E W 13 from(hN.e13.below hb (Nat.le_refl _));have DK:=qd her;clear her;unfold dN;obtain⟨r,hr⟩:∃r,r=Kq E (kS l):=⟨_,rfl⟩;have HR:=qd hr;rw[←hr];clear hr
 cases hn:numOf l with
 |none=>
  rw[hn]at h1;have HN:=qd (show Calls Tryz.prog 83 #[.string ⟨l.toArray⟩] w (fun e w'=>e= .returned (.tuple #[.int .u64 0,.iface 391 (.pointer (some (E 13)))])∧Below w.heap.size w w')from h1);have HE:=qd (show r= .tuple #[.int .u64 0,.iface 391 (.pointer (some (E 13)))]from by rw[HR.out];unfold kS;rw[hn];rfl);clear h1 hn hN hT;go_in;go_wp2_with fail;refine HN.out.mono ?_;rintro y w1 ⟨rfl,hb1⟩;have he:=DK.out w1 hb1;unfold dL gE at he;simp only at he;go_wp2;go_quiet (fail);go_wp2;go_ret2;exact⟨by rw[HE.out];rfl,below_drewN hb1 _⟩
 |some n=>
  rw[hn]at h1;have HN:=qd (show Calls Tryz.prog 83 #[.string ⟨l.toArray⟩] w (fun y w'=>y= .returned (.tuple #[.int .u64 (n:Int),.nilIface])∧Below w.heap.size w w')from h1);have HH:=qd (fun(W:World) (hb:Below w.heap.size w W)=>KC n (xK hn) W (aA hb hT));unfold dN at HH;by_cases hq:48::120::d9 n=l
  ·have HE:=qd (show r= .tuple #[.int .u64 (n:Int),.nilIface]from by rw[HR.out];unfold kS;rw[hn];simp only;rw[if_pos hq];rfl);rw[hq]at HH;clear h1 hn hN hT hq;go_in;go_wp2_with fail;refine HN.out.mono ?_;rintro y w1 ⟨rfl,hb1⟩;have Ye:=qd (HH.out w1 hb1);have HB1:=qd hb1;clear hb1 HH;go_wp2_with fail;refine Ye.out.mono ?_;rintro y w2 ⟨rfl,hb2⟩;have HB2:=qd (HB1.out.trans (hb2.mono HB1.out.size));clear hb2 HB1 Ye;go_wp2;go_ret2;exact⟨by rw[HE.out];rfl,HB2.out⟩
  ·have HE:=qd (show r= .tuple #[.int .u64 0,.iface 391 (.pointer (some (E 13)))]from by rw[HR.out];unfold kS;rw[hn];simp only;rw[if_neg hq];rfl);obtain⟨s,hs⟩:∃s:ByteArray,s=⟨l.toArray⟩:=⟨_,rfl⟩;obtain⟨h,hh⟩:∃h:ByteArray,h=⟨(48::120::d9 n).toArray⟩:=⟨_,rfl⟩;have hne:¬h.toList=s.toList:=fun e=>hq (str_eq (by rw[←hs,←hh];exact e));have hnb:(h.toList==s.toList)=false:=beq_eq_false_iff_ne.2 hne;rw[←hs]at HN⊢;rw[←hh]at HH;clear h1 hn hN hT hq hs hh;go_in;go_wp2_with fail;refine HN.out.mono ?_;rintro y w1 ⟨rfl,hb1⟩;have Ye:=qd (HH.out w1 hb1);have HB1:=qd hb1;clear hb1 HH;go_wp2_with fail;refine Ye.out.mono ?_;rintro y w2 ⟨rfl,hb2⟩;have HB2:=qd (HB1.out.trans (hb2.mono HB1.out.size));have he:=DK.out w2 HB2.out;unfold dL gE at he;simp only at he;clear hb2 HB1 Ye;go_wp2;go_quiet (fail);go_wp2;go_ret2;exact⟨by rw[HE.out];rfl,below_drewN HB2.out _⟩
def oz:List (List UInt8)→Nat⊕(Nat×Nat)
 | [a,b]=>match kS a with
  |none=> .inl 13
  |some k=>match kS b with
   |none=> .inl 13
   |some v=> .inr (k,v)
 |_=> .inl 3
def JB (E:Nat→Addr):Nat⊕(Nat×Nat)→Value
 | .inl e=> .tuple #[.agg #[.int .u64 0,.int .u64 0],jO E e]
 | .inr p=> .tuple #[.agg #[.int .u64 (p.1:Int),.int .u64 (p.2:Int)],.nilIface]
def abE (x y:Option Nat):Nat⊕(Nat×Nat):=
 match x with
 |none=> .inl 13
 |some k=>match y with
  |none=> .inl 13
  |some v=> .inr (k,v)
theorem rY (a b:List UInt8):oz [a,b]=abE (kS a) (kS b):=rfl
theorem uQ {ws:List (List UInt8)}(h:ws.length≠2):oz ws= .inl 3:=by
 match ws,h with
 | [],_=>rfl
 | [_],_=>rfl
 | [_,_],h=>exact absurd rfl h
 |_::_::_::_,_=>rfl
theorem Kr (ws:List (List UInt8))(w:World)(h3:dL E w 3)(hlen:ws.length≠2)(z:Int):
  Calls Tryz.prog 21 #[.agg #[.int .i64 z,.slice A ws.length c']] w fun y w'=>y= .returned (JB E (oz ws))∧Below w.heap.size w w':=by
 have HE3:=qd h3
 have hne:¬(ws.length:Int)=2:=by omega
 rw[uQ hlen];clear h3 hlen;go_in;go_upto_region 1 with fail;refine dx (F:=fun v=>aj v w.heap.size 63 #[.int .i64 z,.slice A ws.length c']∧aj v (w.heap.size+1) 49 #[.int .u64 0,.int .u64 0]∧Below w.heap.size w v) ⟨(aj.new w 63 #[.int .i64 z,.slice A ws.length c']).alloc _,(by have:=aj.new (w.alloc (.cells #[.int .i64 z,.slice A ws.length c'] 63)) 49 #[.int .u64 0,.int .u64 0];simpa using this),((Below.refl w.heap.size w).alloc (Nat.le_refl _) _).alloc (by simp) _⟩ ?_;rintro w1 ⟨hL1,hP1,hb1⟩;obtain⟨bl,hbl⟩:∃bl,bl=w.heap.size:=⟨_,rfl⟩;obtain⟨bp,hbp⟩:∃bp,bp=w.heap.size+1:=⟨_,rfl⟩;have HB1:=qd hb1;have nM:=qd (show w.heap.size≤bp by omega);rw[←hbp]at hP1⊢;rw[←hbl]at hL1⊢;have x0:=hL1.cell 0;have x1:=hL1.cell 1;have y0:=hP1.cell 0;have y1:=hP1.cell 1;have f0:=hP1.frozen 0;have f1:=hP1.frozen 1;simp only[gl]at x0 x1 y0 y1;have her:=HE3.out.below hb1 (Nat.le_refl _);unfold dL gE at her;simp only at her;have i0:w1.setCell ⟨bp,0,none⟩ (.int .u64 0)=w1:=hP1.jX rfl;have i1:w1.setCell ⟨bp,1,none⟩ (.int .u64 0)=w1:=hP1.jX rfl;have Qy:=qd hP1;clear hL1 hP1 hb1 hbl hbp;go_upto_region 2 with fail;go_region;go_wp2;refine bodyPost_ret (v:= .tuple #[.agg #[.int .u64 0,.int .u64 0],.iface 391 (.pointer (some (E 3)))]) (by simp[results,Tryz.f21,go_sem,y0,y1]) rfl ⟨rfl,HB1.out.drew⟩
theorem Nr (a b:List UInt8)(ha:a.length≤70000)(hb:b.length≤70000)(w:World)(hN:iF E w)(hT:w.cell? ⟨21,15,none⟩=some (.int .u8 4)){B:Nat}(hR:Reads w B 1 A 2 ([a,b].map dN))(z:Int):
  Calls Tryz.prog 21 #[.agg #[.int .i64 z,.slice A 2 c']] w fun y w'=>y= .returned (JB E (oz [a,b]))∧Below w.heap.size w w':=by
 obtain⟨g,off,rfl,hg,hc⟩:=hR.2 (by omega);have s0:w.cell? ⟨g,off,none⟩=some (dN a):=hc 0 _ rfl;have s1:w.cell? ⟨g,off+1,none⟩=some (dN b):=hc 1 _ rfl;have HS:=qd (And.intro s0 s1);have H1:=qd (fun(W:World) (hb:Below w.heap.size w W)=>Eu (E:=E) a ha W (hN.below hb (Nat.le_refl _)) (aA hb hT));have H2:=qd (fun(W:World) (hbW:Below w.heap.size w W)=>Eu (E:=E) b hb W (hN.below hbW (Nat.le_refl _)) (aA hbW hT));rw[rY];obtain⟨na,hna⟩:∃na,na=kS a:=⟨_,rfl⟩;obtain⟨nb,hnb⟩:∃nb,nb=kS b:=⟨_,rfl⟩;rw[←hna]at H1⊢;rw[←hnb]at H2⊢;clear hR hc hN hT s0 s1 hna hnb;go_in;go_upto_region 1 with fail;refine dx (F:=fun v=>aj v w.heap.size 63 #[.int .i64 z,.slice (some ⟨g,off,none⟩) 2 c']∧aj v (w.heap.size+1) 49 #[.int .u64 0,.int .u64 0]∧Below w.heap.size w v) ⟨(aj.new w 63 #[.int .i64 z,.slice (some ⟨g,off,none⟩) 2 c']).alloc _,(by have:=aj.new (w.alloc (.cells #[.int .i64 z,.slice (some ⟨g,off,none⟩) 2 c'] 63)) 49 #[.int .u64 0,.int .u64 0];simpa using this),((Below.refl w.heap.size w).alloc (Nat.le_refl _) _).alloc (by simp) _⟩ ?_;rintro w1 ⟨hL1,hP1,hb1⟩;obtain⟨bl,hbl⟩:∃bl,bl=w.heap.size:=⟨_,rfl⟩;obtain⟨bp,hbp⟩:∃bp,bp=w.heap.size+1:=⟨_,rfl⟩;have HB1:=qd hb1;have nM:=qd (show w.heap.size≤bp by omega);rw[←hbp]at hP1⊢;rw[←hbl]at hL1⊢;have Mr:=qd hL1;have Qy:=qd hP1;obtain⟨x0,x1⟩:=hL1.c2;have s0:=aA hb1 HS.out.1;have MB:=qd (H1.out w1 hb1);clear hL1 hP1 hb1 hbl hbp H1;unfold dN at s0 MB
 cases na with
 |none=>
  unfold Kq at MB;rw[iL E (by omega:1≤13)]at MB;go_wp2_with fail;refine MB.out.mono ?_;rintro y w2 ⟨rfl,hb2⟩;have HB2:=qd (HB1.out.trans (hb2.mono HB1.out.size));have hP2:=Qy.out.below hb2 Qy.out.lt;have y0:=hP2.cell 0;have y1:=hP2.cell 1;have f0:=hP2.frozen 0;have f1:=hP2.frozen 1;simp only[gl]at y0 y1;have i0:w2.setCell ⟨bp,0,none⟩ (.int .u64 0)=w2:=hP2.jX rfl;have i1:w2.setCell ⟨bp,1,none⟩ (.int .u64 0)=w2:=hP2.jX rfl;clear hb2 hP2 Mr Qy HB1 MB H2 x0 x1 s0;go_wp2;refine bodyPost_ret (v:= .tuple #[.agg #[.int .u64 0,.int .u64 0],.iface 391 (.pointer (some (E 13)))]) (by simp[results,Tryz.f21,go_sem,y0,y1,i0,i1]) rfl ⟨rfl,by first|exact HB2.out|(rw[i0,i1];exact HB2.out)⟩
 |some va=>
  unfold Kq at MB;go_wp2_with fail;refine MB.out.mono ?_;rintro y w2 ⟨rfl,hb2⟩;have HB2:=qd (HB1.out.trans (hb2.mono HB1.out.size));have hL2:=Mr.out.below hb2 Mr.out.lt;have Te:=qd (Qy.out.below hb2 Qy.out.lt);obtain⟨x0,x1⟩:=hL2.c2;have s1:=aA HB2.out HS.out.2;have DN:=qd (H2.out w2 HB2.out);clear hb2 hL2 Mr Qy HB1 MB H2;unfold dN at s1 DN
  cases nb with
  |none=>
   unfold Kq at DN;rw[iL E (by omega:1≤13)]at DN;go_wp2_with fail;refine DN.out.mono ?_;rintro y w3 ⟨rfl,hb3⟩;have HB3:=qd (HB2.out.trans (hb3.mono HB2.out.size));have hP3:=Te.out.below hb3 Te.out.lt;have y0:=hP3.cell 0;have y1:=hP3.cell 1;have f0:=hP3.frozen 0;have f1:=hP3.frozen 1;simp only[gl]at y0 y1;have i0:w3.setCell ⟨bp,0,none⟩ (.int .u64 0)=w3:=hP3.jX rfl;have i1:w3.setCell ⟨bp,1,none⟩ (.int .u64 0)=w3:=hP3.jX rfl;clear hb3 hP3 Te HB2 DN x0 x1 s1;go_wp2;refine bodyPost_ret (v:= .tuple #[.agg #[.int .u64 0,.int .u64 0],.iface 391 (.pointer (some (E 13)))]) (by simp[results,Tryz.f21,go_sem,y0,y1,i0,i1]) rfl ⟨rfl,by first|exact HB3.out|(rw[i0,i1];exact HB3.out)⟩
  |some vb=>
   unfold Kq at DN;go_wp2_with fail;refine DN.out.mono ?_;rintro y w3 ⟨rfl,hb3⟩;have HB3:=qd (HB2.out.trans (hb3.mono HB2.out.size));have hP3:=Te.out.below hb3 Te.out.lt;have y0:=hP3.cell 0;have y1:=hP3.cell 1;have f0:=hP3.frozen 0;have f1:=hP3.frozen 1;simp only[gl]at y0 y1;have hS:=(hP3.ak 0 (.int .u64 (va:Int))).ak 1 (.int .u64 (vb:Int));have HE:=qd hS;clear hb3 hP3 Te HB2 DN hS;go_wp2;have hE:=HE.out;have z0:=hE.cell 0;have z1:=hE.cell 1;simp at z0 z1;refine bodyPost_ret (v:= .tuple #[.agg #[.int .u64 (va:Int),.int .u64 (vb:Int)],.nilIface]) (by simp[results,Tryz.f21,go_sem,z0,z1]) rfl ⟨rfl,(HB3.out.setCell (p:=⟨bp,0,none⟩) nM.out _).setCell (p:=⟨bp,1,none⟩) nM.out _⟩
end
section
variable {k n : Nat} {c : UInt8} {l : List UInt8} {b s : ByteArray}
theorem jR {fn:Func}{t u v:Tmp}(h:fn.results= #[.tmp t,.tmp u,.tmp v])(tmps:Array Value)(P:Program)(w:World):
  (results fn tmps).run P w= .ok (.tuple #[tmps.getD t undef,tmps.getD u undef,tmps.getD v undef]) w:=by simp[results,h]
def ER (c:UInt8):Int:=if eH c then(kC c:Int)else-1
def nO (k:Nat)(c:UInt8):Int:=if eH c∧kC c<k then(kC c:Int)else-1
theorem Qz (c:UInt8):nO 0 c= -1:=by unfold nO;simp
theorem Rx (c:UInt8):nO 16 c=ER c:=by
 unfold nO ER;by_cases h:eH c=true
 ·have:=ED h;simp[h,this]
 ·simp[h]
def abF:ByteArray:=⟨#[48,49,50,51,52,53,54,55,56,57,97,98,99,100,101,102]⟩
theorem aa0 (k:Nat)(h:k<16):((abF[k]'h).toNat:Int)=if k<10 then 48+(k:Int)else 87+(k:Int):=by
 match k,h with
 |0,_=>rfl|1,_=>rfl|2,_=>rfl|3,_=>rfl|4,_=>rfl|5,_=>rfl|6,_=>rfl|7,_=>rfl
 |8,_=>rfl|9,_=>rfl|10,_=>rfl|11,_=>rfl|12,_=>rfl|13,_=>rfl|14,_=>rfl|15,_=>rfl
 |k+16,h=>exact absurd h (by omega)
theorem MC (k:Nat)(h:k<16)(c:UInt8):((abF[k]'h).toNat:Int)=(c.toNat:Int)↔eH c=true∧kC c=k:=by
 rw[aa0 k h];unfold eH dR kC;simp only[Bool.or_eq_true,Bool.and_eq_true,decide_eq_true_eq];constructor
 ·intro e
  split at e<;>split<;>omega
 ·rintro⟨h1,h2⟩
  split at h2<;>split<;>omega
theorem Ry (h:eH c=true∧kC c=k):nO (k+1) c=(k:Int):=by
 unfold nO;rw[if_pos ⟨h.1,by omega⟩,h.2]
theorem QA (h:¬(eH c=true∧kC c=k)):nO (k+1) c=nO k c:=by
 unfold nO;by_cases h1:eH c=true
 ·have:kC c≠k:=fun e=>h ⟨h1,e⟩;by_cases h2:kC c<k
  ·rw[if_pos ⟨h1,by omega⟩,if_pos ⟨h1,h2⟩]
  ·rw[if_neg (by omega),if_neg (by omega)]
 ·rw[if_neg (fun e=>h1 e.1),if_neg (fun e=>h1 e.1)]
def Yf (w:World)(r:Option Nat)(e:Ending)(w':World):Prop:=
 match r with
 |some n=>e= .returned (.tuple #[.int .u64 n,.bool false,.bool true])∧Below w.heap.size w w'
 |none=>e= .returned (.tuple #[.int .u64 0,.bool false,.bool false])∧Below w.heap.size w w'
def aeM (w:World)(r:Option Nat)(e:Ending)(w':World):Prop:=
 match r with
 |some n=>e= .returned (.tuple #[.int .u64 n,.bool true,.bool true])∧Below w.heap.size w w'
 |none=>∃m,e= .returned (.tuple #[.int .u64 m,.bool true,.bool false])∧Below w.heap.size w w'
structure zX (l:List UInt8)(k n:Nat):Prop where
 all:∀b∈l.take k,eH b=true
 val:n=nX 0 (l.take k)
 len:k=0∨l.length≤16
theorem zX.next (h:zX l k n)(hk:k<l.length)(hc:eH l[k]=true)(hl:l.length≤16):zX l (k+1) (n*16+kC l[k]):=by
 refine⟨fun b hb=> ?_, ?_,.inr hl⟩
 ·rw[List.take_succ_eq_append_getElem hk]at hb;rcases List.mem_append.1 hb with hb|hb
  ·exact h.all b hb
  ·obtain rfl:b=l[k]:=by simpa using hb
   exact hc
 ·rw[List.take_succ_eq_append_getElem hk,CS,←h.val];rw[mX,qQ]
theorem zX.lt (h:zX l k n):n<16^k:=by
 have:=Gf (l.take k) 0 0 h.all (by decide);rw[h.val];refine Nat.lt_of_lt_of_le this (Nat.pow_le_pow_right (by decide) ?_);simp;omega
theorem zX.fin (h:zX l l.length n)(hne:l≠[]):hex l=some n:=by
 have hl:l.length≤16:=by
  rcases h.len with q|q
  ·exact absurd (List.length_eq_zero_iff.1 q) hne
  ·exact q
 unfold hex;rw[if_pos ⟨hne,by have:=h.all;rwa [List.take_length]at this,hl⟩,h.val,List.take_length]
structure G8 (l:List UInt8)(k n:Nat):Prop where
 all:∀b∈l.take k,dR b=true
 val:n=gI 0 (l.take k) % 18446744073709551616
theorem G8.next (h:G8 l k n)(hk:k<l.length)(hc:dR l[k]=true):G8 l (k+1) ((n*10+(l[k].toNat-48)) % 18446744073709551616):=by
 refine⟨fun b hb=> ?_, ?_⟩
 ·rw[List.take_succ_eq_append_getElem hk]at hb;rcases List.mem_append.1 hb with hb|hb
  ·exact h.all b hb
  ·obtain rfl:b=l[k]:=by simpa using hb
   exact hc
 ·rw[List.take_succ_eq_append_getElem hk,xI,kW,mK,h.val];omega
theorem aed (s:ByteArray):(s.extract 0 2).data.toList=s.data.toList.take 2:=by
 simp
theorem zX.afF (h:zX l k n)(hk:k≤15):n<1152921504606846976:=by
 refine Nat.lt_of_lt_of_le h.lt ?_
 have:(1152921504606846976:Nat)=16^15:=by decide
 rw[this];exact Nat.pow_le_pow_right (by decide) hk
theorem acO (hk:k<l.length)(h:eH l[k]=false):hex l=none:=by
 unfold hex;rw[if_neg];rintro⟨_,h1,_⟩;have:=h1 _ (List.getElem_mem hk);rw[h]at this;cases this
theorem aa1 (h:16<l.length):hex l=none:=by
 unfold hex;rw[if_neg];rintro⟨_,_,h1⟩;omega
theorem aa2 (s:ByteArray)(m:Nat)(h2:2≤m)(h:m<s.size)(h':m-2<(s.data.toList.drop 2).length):(s.data.toList.drop 2)[m-2]'h'=s[m]:=by
 rw[List.getElem_drop]
 have e:2+(m-2)=m:=by omega
 simp only[e];rfl
theorem Yg (s:ByteArray)(w:World)(hs:s.size≤70000)(h2:2<s.size)(hpre:s.extract 0 2=⟨#[48,120]⟩):
  Calls Tryz.prog 23 #[.string s] w (Yf w (hex (s.data.toList.drop 2))):=by
 have b1:(2:Int)<(s.size:Int):=by omega
 have hll:(s.data.toList.drop 2).length=s.size-2:=by simp
 have aa3:=fun m h2 h h'=>aa2 s m h2 h h';generalize s.data.toList.drop 2=l at hll aa3⊢;have hdr:=qd aa3;clear aa3
 have hne:l≠[]:=fun e=>by rw[e]at hll;simp at hll;omega
 go_in;go_wp2;go_loopw [5,6,7,8] (fun vn vi _ _ wr=>∃(m n:Nat),vn= .int .u64 n∧vi= .int .i64 m∧2≤m∧m≤s.size∧zX l (m-2) n∧Below w.heap.size w wr) (fun _ vi _ _ _=>s.size-(intOf vi).toNat)
 case atStart=>exact⟨2,0,rfl,rfl,by omega,by omega,⟨by simp,by simp[qQ],.inl rfl⟩,Below.refl _ _⟩
 case round=>
  obtain⟨m,n,rfl,rfl,hm2,hk,hat,hB⟩:=hrel;by_cases hlt:m<s.size
  ·have b2:(m:Int)<(s.size:Int):=by omega
   have hml:m-2<l.length:=by omega
   have hget:=hdr.out m hm2 hlt hml;go_wp2;go_loopw [7,8] (fun vd vk wq=>∃j:Nat,j≤16∧vk= .int .i64 j∧vd= .int .i64 (nO j s[m])∧Below w.heap.size w wq) (fun _ vk _=>16-(intOf vk).toNat)
   case atStart=>exact⟨0,by omega,rfl,by rw[Qz],hB⟩
   case round=>
    obtain⟨j,hj,rfl,rfl,hBq⟩:=hrel;clear hB;by_cases aee:j<16
    ·have b3:(j:Int)<16:=by omega
     have b4:(j:Int)<((⟨#[48,49,50,51,52,53,54,55,56,57,97,98,99,100,101,102]⟩:ByteArray).size:Int):=by show(j:Int)<16;omega
     by_cases hh:eH s[m]=true∧kC s[m]=j
     focus
      have hT:∀h,((((⟨#[48,49,50,51,52,53,54,55,56,57,97,98,99,100,101,102]⟩:ByteArray)[j]'h).toNat:Int)==((s[m]).toNat:Int))=true:=fun h=>by
       have:=(MC j aee s[m]).2 hh;exact beq_iff_eq.2 this
      have HX:=qd (Ry hh)
     rotate_left
     focus
      have hT:∀h,((((⟨#[48,49,50,51,52,53,54,55,56,57,97,98,99,100,101,102]⟩:ByteArray)[j]'h).toNat:Int)==((s[m]).toNat:Int))=false:=fun h=>by
       have:=mt (MC j aee s[m]).1 hh;exact beq_eq_false_iff_ne.2 this
      have HX:=qd (QA hh)
     all_goals
      clear hh hget;go_wp2;go_quiet (fail);go_wp2;go_roundw
      case rel=>exact⟨j+1,by omega,by go_num,by rw[HX.out],below_drewN hBq _⟩
      case measure=>simp[intOf];omega
    ·obtain rfl:j=16:=by omega
     have b3:¬((16:Nat):Int)<16:=by omega
     rw[Rx];by_cases hh:eH s[m]=true
     ·have hx:ER s[m]=(kC s[m]:Int):=by unfold ER;rw[if_pos hh]
      rw[hx]
      have b5:¬((kC s[m]:Int)<0):=by omega
      have hv:=ED hh;by_cases h18:18<s.size
      ·have b6:(18:Int)<(s.size:Int):=by omega
       have HR:=qd (aa1 (l:=l) (by omega));clear hx hh hat hget;generalize kC s[m]=d at b5 hv;go_wp2;refine bodyPost_ret (jR rfl _ _ _) rfl ?_;rw[HR.out];exact⟨rfl,hBq⟩
      ·have b6:¬(18:Int)<(s.size:Int):=by omega
       have HN:=qd (hat.next hml (by rw[hget];exact hh) (by omega));have ahE:=hat.afF (by omega);rw[hget]at HN;clear hx hh hat hget;generalize kC s[m]=d at b5 hv HN;go_wp2;go_roundw
       case rel=>exact⟨m+1,n*16+d,by go_num,by go_num,by omega,by omega,by rw[show m+1-2=m-2+1 by omega];exact HN.out,hBq⟩
       case measure=>simp[intOf];omega
     ·have hh':eH s[m]=false:=by simpa using hh
      have hx:ER s[m]= -1:=by unfold ER;rw[if_neg hh]
      rw[hx];have HR:=qd (acO hml (by rw[hget];exact hh'));clear hx hh hat hget hh';go_wp2;refine bodyPost_ret (jR rfl _ _ _) rfl ?_;rw[HR.out];exact⟨rfl,hBq⟩
  ·obtain rfl:m=s.size:=by omega
   have HR:=qd (show hex l=some n from by
    rw[←hll]at hat
    exact hat.fin hne)
   clear hat;go_wp2;refine bodyPost_ret (jR rfl _ _ _) rfl ?_;rw[HR.out];exact⟨rfl,hB⟩
theorem Kt (hk:k<l.length)(h:dR l[k]=false):dec l=none:=by
 unfold dec;rw[if_neg];rintro⟨_,h1,_⟩;have:=h1 _ (List.getElem_mem hk);rw[h]at this;cases this
theorem aa4 (h:20<l.length):dec l=none:=by
 cases h1:dec l with
 |none=>rfl
 |some n=>have:=Tq h1;omega
theorem G8.fin (h:G8 l l.length n)(hne:l≠[]):n<18446744073709551616∧(∀m,dec l=some m→digits n=l∧n=m)∧(dec l=none→digits n≠l):=by
 have hv:=h.val;have ha:=h.all;rw[List.take_length]at hv ha;obtain⟨h1,h2⟩:=abG l ha hne;rw[←hv]at h1 h2;refine⟨by rw[hv];exact Nat.mod_lt _ (by decide),fun m hm=>⟨h1.2 ⟨m,hm⟩,h2 m hm⟩,fun hn e=> ?_⟩;obtain⟨m,hm⟩:=h1.1 e;rw[hn]at hm;cases hm
theorem acP (hb:Says l b)(h:l=s.data.toList):b=s:=by
 unfold Says at hb;rw[h]at hb;apply ByteArray.ext;exact Array.toList_inj.1 hb
end
end Go.Proofs.YtjfgpnapccdnlaaGreatDoor
