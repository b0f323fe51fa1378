/- A map's snapshot by its contract: all pairs, by keys, rising. No statement of the claim. -/
import Derived.Test.YtgiaobmcbbfmnaaGreatDoorRmF
import Derived.Test.YtgiaobmcbbfmnaaGreatDoorSq
import Derived.Test.YtgiaobmcbbfmnaaGreatDoorSnP
import Derived.Test.YtgiaobmcbbfmnaaGreatDoorRmS
import Derived.Deep.LoopGhost
import Derived.Test.YtgiaobmcbbfmnaaGreatDoorDecM
import Derived.Test.YtgiaobmcbbfmnaaGreatDoorCoAB
import Derived.Deep.CutRange
import Derived.BigQuiet
import Ieee.Arith
namespace Go.Proofs.YtgiaobmcbbfmnaaGreatDoor
set_option maxRecDepth 100000
set_option maxHeartbeats 4000000
open Go.RowKit dw lY jY Ieee
variable {es out : List ay} {G hs : List Nat} {b' n sz : Nat} {c : gy} {t : TypeId} {v : Value} {xs : List Value}
def rX (e:ay):Nat×Nat:=(e.key,e.val)
theorem UJ (hn:(es.map ay.key).Nodup)(ho:out.Nodup)(hs:∀e∈out,e∈es):((out.map rX).map Prod.fst).Nodup:=by
 rw[List.map_map];show(out.map ay.key).Nodup;unfold List.Nodup;rw[List.pairwise_map];exact ho.imp_of_mem fun h1 h2 hne hk=>hne (UG hn _ (hs _ h1) _ (hs _ h2) hk)
theorem abS (h:Way es hs n out c):out.length≤es.length:=Em h.y5.nodup fun e he=>((h.mem e).1 he).1
theorem Ql (hn:(es.map ay.key).Nodup)(h:Way es hs n out c):((out.map rX).map Prod.fst).Nodup:=UJ hn h.y5.nodup fun e he=>((h.mem e).1 he).1
theorem aag {m:ay}(hn:(es.map ay.key).Nodup)(h:Way es hs n (out++[m]) c):(dG (out.map rX)).length<es.length∧qV (dG (out.map rX)) m.key=false:=by
 have h1:=abS h;have h2:=Ql hn h;rw[List.map_append,List.map_append,List.nodup_append]at h2;have h3:=Nl h2.1;rw[List.length_append,List.length_singleton]at h1;refine⟨by rw[h3.2,List.length_map];omega, ?_⟩;rw[Rj (xK _)]
 cases hg:oh (dG (out.map rX)) m.key with
 |none=>rfl
 |some v=>
  have h4:=(h3.1 _).1 ((om (xK _)).1 hg);exact absurd rfl (h2.2.2 m.key (List.mem_map_of_mem (f:=Prod.fst) h4) m.key (by simp[rX]))
theorem abT (hn:(es.map ay.key).Nodup)(h:Way es hs n out c)(hd:c.done=true):(∀k,oh (dG (out.map rX)) k=yU es k)∧(dG (out.map rX)).length=es.length:=by
 have h1:=h.aeD hn hd;have h3:=Nl (Ql hn h);refine⟨fun k=> ?_,by rw[h3.2,List.length_map,h1.length_eq]⟩;unfold yU
 cases hl:look es k with
 |none=>
  rw[Option.map_none,oo];intro p hp hk;obtain⟨e,he,rfl⟩:=List.mem_map.1 ((h3.1 p).1 hp);have:=lg hn (h1.mem_iff.1 he);rw[show e.key=k from hk,hl]at this;cases this
 |some e=>
  obtain⟨he,rfl⟩:=yA hl;exact(om (xK _)).2 ((h3.1 _).2 (List.mem_map.2 ⟨e,h1.mem_iff.2 he,rfl⟩))
theorem abU {W0:World}{E:Nat→Addr}{H:Nat→Nat}{Kk M I b:Nat}{w:World}{a:Pool}{ids:List Nat}{its:List It}{gv:Nat}{fF:bE}(h:nC W0 E H Kk M I b G w a ids its gv fF):∀e∈a.ents,e.hash<18446744073709551616∧e.key<18446744073709551616:=fun e he=>by
 obtain⟨C,GC,mb,h1,_⟩:=h;obtain⟨i,N,g1,g2⟩:=oZ.1 he;have h3:=((h1.core.facts.2.2.2.2.2.1 i N g1).hash e g2).1;exact⟨h3.h64,h3.k64⟩
theorem Qm {w w':World}{S:List Nat}{base:Nat}(h:w.ownsRow base t sz v n xs)(hm:Mod S w w')(hS:∀q∈v.ownBlock.toList,q∉S):w'.ownsRow base t sz v n xs:=by
 refine⟨h.1, ?_⟩;rcases h.2 with k|⟨g,cap,cur,rfl,k2,k3,k4⟩
 ·exact .inl k
 ·refine .inr ⟨g,cap,cur,rfl,k2, ?_,k4⟩;rw[hm.block g (Array.getElem?_eq_some_iff.1 k3).1 (hS g (by simp[Value.ownBlock]))];exact k3
theorem GX {w:World}{b:Nat}(h:w.ownsRow b t sz v n xs)(hb:b'≤b):w.ownsRow b' t sz v n xs:=
 ⟨h.1,h.2.imp id fun⟨g,cap,cur,h1,h2,h3⟩=>⟨g,cap,cur,h1,Nat.le_trans hb h2,h3⟩⟩
theorem J8 {b fb most:Nat}{w:World}{F:List Nat}{l:PL}(h:rC b w fb most F l)(hb:b'≤b):rC b' w fb most F l:=by
 obtain⟨v,h1,h2,h3,h4,h5⟩:=h;exact⟨v,h1,GX h2 hb,h3,Nat.le_trans hb h4,h5⟩
structure Two (W0:World)(E:Nat→Addr)(H:Nat→Nat)(K M I b:Nat)(w0 w:World)(G0 F:List Nat)(a:Pool)(ids:List Nat)(its:List It)(gv:Nat)(fF:bE)(fb most:Nat)(F2:List Nat)(l:PL):Prop where
 map:nC W0 E H K M I b F w a ids its gv fF
 fn:rC w0.heap.size w fb most F2 l
 apart:∀q∈F2,q∉F
 from_:∀q∈F,q∈G0∨w0.heap.size≤q
 mod:Mod G0 w0 w
 base:W0.heap.size≤w0.heap.size
section
variable {W0 : World} {E : Nat → Addr} {H : Nat → Nat} {K M I b : Nat} {w0 w w' : World} {G0 F F2 : List Nat} {a a' : Pool} {ids aO : List Nat} {its qo : List It} {gv AX : Nat} {fF jB : bE} {fb most : Nat} {l l' : PL}
theorem Two.step (h:Two W0 E H K M I b w0 w G0 F a ids its gv fF fb most F2 l)(hr:tN W0 E H K M I b F w w' a' aO qo AX jB):∃F',Two W0 E H K M I b w0 w' G0 F' a' aO qo AX jB fb most F2 l:=by
 obtain⟨F',h1,h2,h3⟩:=hr;have hsz:=h.mod.size;refine⟨F',h1,h.fn.mod h3 fun q hq hf=>h.apart q hf hq,fun q hq hf=> ?_,fun q hq=> ?_,h.mod.trans h3 (fun _ hk _=>hk) (fun q hq hl=>(h.from_ q hq).elim id fun k=>absurd hl (by omega)),h.base⟩
 ·rcases h2 q hf with k|k
  ·exact h.apart q hq k
  ·have:=(h.fn.gJ q hq).1;omega
 ·rcases h2 q hq with k|k
  ·exact h.from_ q k
  ·exact .inr (by omega)
theorem Two.put (h:Two W0 E H K M I b w0 w G0 F a ids its gv fF fb most F2 l)(hr:Yk w0.heap.size w w' fb most F2 l'):∃F',Two W0 E H K M I b w0 w' G0 F a ids its gv fF fb most F' l':=by
 obtain⟨F',h1,h2,h3⟩:=hr;have hsz:=h.mod.size;refine⟨F',h.map.mod h3 (fun q hq=>⟨h.apart q hq,Nat.le_trans h.base (h.fn.gJ q hq).2⟩),h1,fun q hq hf=> ?_,h.from_,h.mod.trans h3 (fun _ hk _=>hk) (fun q hq hl=>absurd (h.fn.gJ q hq).2 (by omega)),h.base⟩;rcases h2 q hq with k|k
 ·exact h.apart q k hf
 ·have:=(h.map.facts.1 q hf).1;omega
theorem Two.below (h:Two W0 E H K M I b w0 w G0 F a ids its gv fF fb most F2 l)(hb:Below w.heap.size w w'):Two W0 E H K M I b w0 w' G0 F a ids its gv fF fb most F2 l:=
 ⟨h.map.below hb,h.fn.below hb,h.apart,h.from_,h.mod.then (Mod.of_below hb _),h.base⟩
end
theorem abV {W0:World}{E:Nat→Addr}{H:Nat→Nat}{K M I b:Nat}{w:World}{R:Nat→Option Nat}{gv:Nat}(h:mF W0 E H K M I b G w R n [] gv)(hI:1≤I)(hg:gv≤100000)(h6:dP E W0 6):
  Calls Tryz.prog 15 #[.pointer (some ⟨b,0,none⟩)] w fun y w'=>∃v l G',y= .returned (.tuple #[v,.nilIface])∧gT l∧(∀k,oh l k=R k)∧w'.ownsRow w.heap.size 33 2 v l.length (l.flatMap bW)∧(∀q∈v.ownBlock.toList,q∉G')∧mF W0 E H K M I b G' w' R n [] (gv+1)∧(∀q∈G',q∈G∨w.heap.size≤q)∧Mod G w w':=by
 obtain⟨a,ids,aeE,hR,rfl,rfl⟩:=h;obtain⟨hlts,hnd,hlM,hM,h32,_,_,_,_,ac8⟩:=hR.facts;have hop:=Si hR (by simp;omega) hg;simp only[List.nil_append]at hop;have xW:=qd hop;have DI:=qd hnd;have ac9:=qd (abU hR);have H6:=qd h6;have HW0:=qd ac8.size;have UK:=qd (show a.ents.length≤192 by omega);have sP:=qd (show a.ents.length+(jW a).length≤224 from by unfold jW;rw[List.length_map];omega);have agC:=qd (ac7 a.ents (jW a) ⟨0,0,false⟩);clear hop hR hlts hnd hlM hM h32 ac8 hg h6 hI;go_in;go_wp2_with fail;refine xW.out.mono ?_;rintro y w1 ⟨cb,rfl,F1,hA1,hs1,hm1⟩;have oI:=qd (acX hA1);have lq:=qd (NG a.ents.length w1);obtain⟨n0,hn0⟩:∃n0,n0=a.ents.length:=⟨_,rfl⟩;rw[←hn0]at oI lq;have OV:=qd hn0;have HX:=qd (And.intro hA1 (And.intro hs1 hm1));clear hA1 hs1 hm1 xW hn0;go_wp2_with fail;refine oI.out.mono ?_;rintro y wq ⟨rfl,rfl⟩;go_wp2_with fail;refine lq.out.mono ?_;rintro y w2 ⟨rfl,hf2,hb2⟩;obtain⟨fb,lN⟩:∃fb,fb=w1.heap.size:=⟨_,rfl⟩
 have HT:=qd (show Two W0 E H K M I b w w2 G F1 a ids [⟨gv+1,cb,⟨0,0,false⟩⟩] (gv+1) aeE fb n0 [fb] (dG (([]:List ay).map rX))from by
  obtain⟨g1,g2,g3⟩:=HX.out;have hsz:=g3.size;rw[lN]
  exact⟨g1.below hb2,J8 hf2 hsz,fun q hq hF=>by have:=(g1.facts.1 q hF).1;simp at hq;omega,g2,g3.then (Mod.of_below hb2 _),HW0.out⟩)
 rw[←lN];have HW:=qd (Way.start a.ents (jW a));clear hf2 hb2 lN HX oI lq;go_wp2;go_loopg [7] (zB a.ents (jW a) ⟨0,0,false⟩) (fun k _ wr=>∃(n1:Nat) (F:List Nat) (c:gy) (fF:bE) (out:List ay) (F2:List Nat),k=zB a.ents (jW a) c∧Hid (Two W0 E H K M I b w wr G F a ids [⟨gv+1,cb,c⟩] (gv+1) fF fb n0 F2 (dG (out.map rX)))∧Hid (Way a.ents (jW a) n1 out c))
 case atStart=>exact⟨0,F1,_,_,[],[fb],rfl,HT,HW⟩
 case round=>
  clear HT HW;obtain⟨n1,F,c,fF,out,F2,hk,HT,HW⟩:=hrel;have j5:=abR HT.out.map H6.out (id:=gv+1) (cb:=cb) (c:=c) (by simp) HW.out.ok;unfold zy at j5;replace j5:=qd j5;have HK:=qd hk;clear hk;go_wp2_with fail;refine j5.out.mono ?_;rintro y w5 ⟨it,c',jB,rfl,hns,-,hrt⟩;obtain⟨out',hw',hor⟩:=HW.out.next DI.out ac9.out hns;have vG:=qd (fun hst:it.st≠3=>hns.zB ac9.out hst);obtain⟨F',oH⟩:=HT.out.step hrt;have HT5:=qd (show Two W0 E H K M I b w w5 G F' a ids [⟨gv+1,cb,c'⟩] (gv+1) jB fb n0 F2 (dG (out.map rX))from by simpa[kG]using oH);have HW5:=qd hw';have HOr:=qd hor;obtain⟨st,ky,vl⟩:=it;clear oH hrt hns hw' hor j5 HT HW;go_upto_region 8 with fail;refine dI (F:=fun v=>aj v w5.heap.size 92 #[.int .i64 (st:Int),.int .u64 (ky:Int),.int .u64 (vl:Int)]∧Below w5.heap.size w5 v) ⟨aj.new w5 92 #[.int .i64 (st:Int),.int .u64 (ky:Int),.int .u64 (vl:Int)],(Below.refl w5.heap.size w5).alloc (Nat.le_refl _) _⟩ ?_;rintro w6 ⟨mG,hb6⟩;obtain⟨bx,hbx⟩:∃bx,bx=w5.heap.size:=⟨_,rfl⟩;rw[←hbx]at mG⊢;obtain⟨x0,x1,x2⟩:=mG.c3;have Jq:=qd (HT5.out.below hb6);clear mG hb6 hbx HT5;rcases HOr.out with⟨hst,_,m,_,hout,_,_,hky,hvl,_⟩|⟨hst,hout,_,_,h23,hdn⟩
  ·try simp only at hst hky hvl
   subst hst;subst hky;subst hvl;subst hout;have HK':=qd (show zB a.ents (jW a) c'<gk from by rw[HK.out];exact vG.out (by decide));have hroom:=aag DI.out HW5.out
   have hlen:(dG (out.map rX)).length≤192:=by have:=hroom.1;have:=UK.out;omega
   have DT:=qd (VT Jq.out.fn (by omega) m.key m.val (fun _=>by rw[OV.out];exact hroom.1) (by rw[OV.out];have:=UK.out;omega));clear vG HOr hroom hlen;go_wp2_with fail;refine DT.out.mono ?_;rintro y w7 ⟨rfl,hto⟩;obtain⟨F3,hT7⟩:=Jq.out.put hto;have L8:=qd (show Two W0 E H K M I b w w7 G F' a ids [⟨gv+1,cb,c'⟩] (gv+1) jB fb n0 F3 (dG ((out++[m]).map rX))from by rw[List.map_append,List.map_singleton,CU];exact hT7);clear hto hT7 Jq DT x0 x1 x2;go_wp2;go_roundg (zB a.ents (jW a) c')
   case measure=>exact HK'.out
   case rel=>exact⟨n1+1,F',c',jB,out++[m],F3,rfl,L8,HW5⟩
  ·try simp only at hst h23 hdn
   subst hout;rcases h23 with rfl|rfl
   ·have HK':=qd (show zB a.ents (jW a) c'<gk from by rw[HK.out];exact vG.out (by decide));clear vG HOr hdn hst;go_wp2;go_roundg (zB a.ents (jW a) c')
    case measure=>exact HK'.out
    case rel=>exact⟨n1+1,F',c',jB,out',F2,rfl,Jq,HW5⟩
   ·have hend:=abT DI.out HW5.out (hdn.1 rfl);have aeF:=qd hend;have kU:=qd (Gh Jq.out.fn (by rw[hend.2];have:=UK.out;omega));clear vG HOr hdn hst hend;go_wp2_with fail;refine kU.out.mono ?_;rintro y w7 ⟨v',rfl,RF,oJ⟩;obtain⟨A',c7,rfl⟩:=bA RF;have L8:=qd (Jq.out.below oJ);have L9:=qd (And.intro RF (And.intro oJ.size (show∀q∈F',q<w6.heap.size from fun q hq=>(Jq.out.map.facts.1 q hq).1)));have Dx:=qd (Z7 L8.out.map (j:=0) rfl);have aeG:=Jq.out.mod.size;clear RF oJ kU Jq x0 x1 x2;go_wp2_with fail;refine Dx.out.mono ?_;rintro y w8 ⟨rfl,F8,hA8,Ap,hm8⟩;have hown:∀q∈(Value.slice A' (dG (out'.map rX)).length c7).ownBlock.toList,w6.heap.size≤q∧q<w7.heap.size:=fun q hq=>L9.out.1.lt q (by simpa using hq)
    have HFin:=qd (show w8.ownsRow w.heap.size 33 2 (.slice A' (dG (out'.map rX)).length c7) (dG (out'.map rX)).length ((dG (out'.map rX)).flatMap bW)∧(∀q∈(Value.slice A' (dG (out'.map rX)).length c7).ownBlock.toList,q∉F8)∧mF W0 E H K M I b F8 w8 (yU a.ents) a.ents.length [] (gv+1)∧(∀q∈F8,q∈G∨w.heap.size≤q)∧Mod G w w8 from by
     refine⟨Qm (GX L9.out.1 aeG) hm8 (fun q hq hF=> ?_),fun q hq hF=> ?_,⟨a,ids,jB,by simpa using hA8,rfl,rfl⟩,fun q hq=> ?_,L8.out.mod.trans hm8 (fun _ hk _=>hk) (fun q hq hl=>(L8.out.from_ q hq).elim id (fun k=>absurd hl (by omega)))⟩
     ·have:=hown q hq;have:=L9.out.2.2 q hF;omega
     ·have h1:=hown q hq;rcases Ap q hF with k|k
      ·have:=L9.out.2.2 q k;omega
      ·omega
     ·rcases Ap q hq with k|k
      ·exact L8.out.from_ q k
      ·exact .inr (by have:=L8.out.mod.size;omega))
    clear hA8 Ap hm8 hown Dx L8 L9;go_wp2;refine bodyPost_ret (v:= .tuple #[.slice A' (dG (out'.map rX)).length c7,.nilIface]) (by simp[results,Tryz.results15,go_sem]) rfl ⟨_,dG (out'.map rX),F8,rfl,xK _,aeF.out.1,HFin.out⟩
end Go.Proofs.YtgiaobmcbbfmnaaGreatDoor

/-! A snapshot's text is parsed again, by the contracts. No statement of the claim. -/
namespace Go.Proofs.YtgiaobmcbbfmnaaGreatDoor
set_option maxRecDepth 100000
set_option maxHeartbeats 4000000
open Go.RowKit dw lY jY Ieee
variable {E : Nat → Addr}
theorem FR (n:Nat)(hn:n<18446744073709551616)(w:World)(hN:iL E w)(hT:w.cell? ⟨25,15,none⟩=some (.int .u8 4)):
  Calls Tryz.prog 51 #[fO (48::120::eH n)] w fun y w'=>y= .returned (.tuple #[.int .u64 (n:Int),.nilIface])∧Below w.heap.size w w':=by
 have hlen:=nQ n;have h1:=Oy (E:=E) (⟨(48::120::eH n).toArray⟩:ByteArray) w (by show(48::120::eH n).toArray.size≤70000;simp;omega) hN;rw[show(⟨(48::120::eH n).toArray⟩:ByteArray).data.toList=48::120::eH n by simp,SA n hn]at h1;have HN:=qd (show Calls Tryz.prog 83 #[fO (48::120::eH n)] w (fun y w'=>y= .returned (.tuple #[.int .u64 (n:Int),.nilIface])∧Below w.heap.size w w')from h1);have HH:=qd (fun(W:World) (hb:Below w.heap.size w W)=>Kl n hn W (aA hb hT));unfold fO at*;obtain⟨s,hs⟩:∃s:ByteArray,s=⟨(48::120::eH n).toArray⟩:=⟨_,rfl⟩;rw[←hs]at HN HH⊢;clear h1 hs hN hT hlen;go_in;go_wp2_with fail;refine HN.out.mono ?_;rintro y w1 ⟨rfl,hb1⟩;have HH1:=qd (HH.out w1 hb1);have HB1:=qd hb1;clear hb1 HH;go_wp2_with fail;refine HH1.out.mono ?_;rintro y w2 ⟨rfl,hb2⟩;have HB2:=qd (HB1.out.trans (hb2.mono HB1.out.size));clear hb2 HB1 HH1;go_wp2;go_ret2;exact⟨rfl,HB2.out⟩
theorem XF (p:Nat×Nat)(hp:p.1<18446744073709551616∧p.2<18446744073709551616)(w:World)(hN:iL E w)(hT:w.cell? ⟨25,15,none⟩=some (.int .u8 4)){A:Option Addr}{c' B:Nat}(hR:Reads w B 1 A 2 ((qw p).map fO))(z:Int):
  Calls Tryz.prog 23 #[.agg #[.int .i64 z,.slice A 2 c']] w fun y w'=>y= .returned (.tuple #[.agg #[.int .u64 (p.1:Int),.int .u64 (p.2:Int)],.nilIface])∧Below w.heap.size w w':=by
 obtain⟨g,off,rfl,hg,hc⟩:=hR.2 (by omega);have s0:w.cell? ⟨g,off,none⟩=some (fO (48::120::eH p.1)):=hc 0 _ rfl;have s1:w.cell? ⟨g,off+1,none⟩=some (fO (48::120::eH p.2)):=hc 1 _ rfl;have HS:=qd (And.intro s0 s1);have H1:=qd (fun(W:World) (hb:Below w.heap.size w W)=>FR p.1 hp.1 W (hN.below hb (Nat.le_refl _)) (aA hb hT));have H2:=qd (fun(W:World) (hb:Below w.heap.size w W)=>FR p.2 hp.2 W (hN.below hb (Nat.le_refl _)) (aA hb hT));clear hR hc hN hT hp s0 s1;go_in;go_upto_region 1 with fail;refine dI (F:=fun v=>aj v w.heap.size 63 #[.int .i64 z,.slice (some ⟨g,off,none⟩) 2 c']∧aj v (w.heap.size+1) 33 #[.int .u64 0,.int .u64 0]∧Below w.heap.size w v) ⟨(aj.new w 63 #[.int .i64 z,.slice (some ⟨g,off,none⟩) 2 c']).alloc _,(by have:=aj.new (w.alloc (.cells #[.int .i64 z,.slice (some ⟨g,off,none⟩) 2 c'] 63)) 33 #[.int .u64 0,.int .u64 0];simpa using this),((Below.refl w.heap.size w).alloc (Nat.le_refl _) _).alloc (by simp) _⟩ ?_;rintro w1 ⟨hL1,hP1,hb1⟩;obtain⟨bl,hbl⟩:∃bl,bl=w.heap.size:=⟨_,rfl⟩;obtain⟨bp,hbp⟩:∃bp,bp=w.heap.size+1:=⟨_,rfl⟩;have HB1:=qd hb1;have nK:=qd (show w.heap.size≤bp by omega);rw[←hbp]at hP1⊢;rw[←hbl]at hL1⊢;have Qh:=qd hL1;have HP1:=qd hP1;obtain⟨x0,x1⟩:=hL1.c2;have s0:=aA hb1 HS.out.1;have HN1:=qd (H1.out w1 hb1);clear hL1 hP1 hb1 hbl hbp H1;unfold fO at s0 HN1;go_wp2_with fail;refine HN1.out.mono ?_;rintro y w2 ⟨rfl,hb2⟩;have HB2:=qd (HB1.out.trans (hb2.mono HB1.out.size))
 have hL2:=Qh.out.below hb2 Qh.out.lt;have HP2:=qd (HP1.out.below hb2 HP1.out.lt);obtain⟨x0,x1⟩:=hL2.c2;have s1:=aA HB2.out HS.out.2;have RG:=qd (H2.out w2 HB2.out);clear hb2 hL2 Qh HP1 HB1 HN1 H2;unfold fO at s1 RG;go_wp2_with fail;refine RG.out.mono ?_;rintro y w3 ⟨rfl,hb3⟩;have HB3:=qd (HB2.out.trans (hb3.mono HB2.out.size));have hP3:=HP2.out.below hb3 HP2.out.lt;have y0:=hP3.cell 0;have y1:=hP3.cell 1;have f0:=hP3.frozen 0;have f1:=hP3.frozen 1;simp only[gl]at y0 y1;have hS:=(hP3.ak 0 (.int .u64 (p.1:Int))).ak 1 (.int .u64 (p.2:Int));have HE:=qd hS;clear hb3 hP3 HP2 HB2 RG hS;go_wp2;have hE:=HE.out;have z0:=hE.cell 0;have z1:=hE.cell 1;simp at z0 z1;refine bodyPost_ret (v:= .tuple #[.agg #[.int .u64 (p.1:Int),.int .u64 (p.2:Int)],.nilIface]) (by simp[results,Tryz.f23,go_sem,z0,z1]) rfl ⟨rfl,(HB3.out.setCell (p:=⟨bp,0,none⟩) nK.out _).setCell (p:=⟨bp,1,none⟩) nK.out _⟩
theorem aah {l:PL}(h:gT l){i:Nat}{p q:Nat×Nat}(hp:l[i]?=some p)(hq:l[i+1]?=some q):p.1<q.1:=by
 have h1:=List.pairwise_iff_getElem.1 h i (i+1) (List.getElem?_eq_some_iff.1 hp).1 (List.getElem?_eq_some_iff.1 hq).1 (by omega);rw[(List.getElem?_eq_some_iff.1 hp).2,(List.getElem?_eq_some_iff.1 hq).2]at h1;exact h1
theorem UL (l:PL)(hasc:gT l)(h64:∀p∈l,p.1<18446744073709551616∧p.2<18446744073709551616)(hn:l.length≤1000)(w:World)(hWd:fQ E w)(hN:iL E w)(hT:w.cell? ⟨25,15,none⟩=some (.int .u8 4)):
  Calls Tryz.prog 9 #[fO (gq l)] w fun y w'=>∃v,y= .returned (.tuple #[v,.int .i64 0,.nilIface])∧w'.ownsRow w.heap.size 33 2 v l.length (l.flatMap bW)∧Below w.heap.size w w':=by
 have hlen:=Dt l;have h1:=EK (E:=E) (⟨(gq l).toArray⟩:ByteArray) w (by show(gq l).toArray.size≤60000;simp;omega) hWd;rw[show(⟨(gq l).toArray⟩:ByteArray).data.toList=gq l by simp,Bw l h64]at h1;have HS:=qd (show Calls Tryz.prog 22 #[fO (gq l)] w (fun y w'=>∃v,y= .returned (.tuple #[v,.int .i64 0,.nilIface])∧dU w' w.heap.size v (pE 1 (sM l))∧Below w.heap.size w w')from h1);have HX:=qd (And.intro hasc (And.intro h64 (And.intro hN hT)));unfold fO at HS⊢;clear h1 hlen hasc h64 hWd hN hT;go_in;go_wp2_with fail;refine HS.out.mono ?_;rintro y w1 ⟨vl,rfl,hL,hb1⟩
 have hform:∃A c,vl= .slice A l.length c:=by
  obtain⟨vs,h1,h2,h3⟩:=hL;obtain⟨A,c,h4⟩:=bA h1;rw[wu]at h4;exact⟨A,c,h4⟩
 obtain⟨Al,cl,rfl⟩:=hform;have HL:=qd hL;have HB1:=qd hb1;have HO:=qd (World.ownsRow_nil w1 w1.heap.size 33 2);have HB:=qd (Below.refl w1.heap.size w1);clear hL hb1 HS;go_wp2;go_loopw [8,25] (fun v8 v25 wr=>∃i:Nat,i≤l.length∧v25= .int .i64 (i:Int)∧Hid (wr.ownsRow w1.heap.size 33 2 v8 i ((l.take i).flatMap bW))∧Hid (Below w1.heap.size w1 wr)) (fun _ v25 _=>l.length-(intOf v25).toNat)
 case atStart=>exact⟨0,by omega,rfl,HO,HB⟩
 case round=>
  clear HB HO;obtain⟨i,hi,rfl,HO,HB⟩:=hrel;by_cases hlt:i<l.length
  ·have hlt':(i:Int)<(l.length:Int):=by omega
   have hi0:(0:Int)≤(i:Int):=by omega
   have hwi:IntKind.i64.wrap ((i:Int)+1)=((i+1:Nat):Int):=by rw[IntKind.wrap_i64];omega
   obtain⟨p,hp⟩:∃p,l[i]?=some p:=⟨_,List.getElem?_eq_getElem hlt⟩;have HP:=qd hp;have hLr:=HL.out.below HB.out (Nat.le_refl _);obtain⟨g,c,Aw,cw,hv,hg,k1,k2,hR⟩:=hLr.at_ (Gi hp)
   obtain rfl:Al=some ⟨g,0,none⟩:=by injection hv
   rw[show(qw p).length=2 from rfl]at k2 hR;obtain⟨z,hz⟩:∃z:Int,z=((1+i:Nat):Int):=⟨_,rfl⟩;rw[←hz]at k1;have HR:=qd hR;obtain⟨A8,c8,hv8⟩:=bA HO.out;subst hv8;have hpb:=HX.out.2.1 p (List.mem_of_getElem? hp);have hBw:=HB1.out.trans (HB.out.mono HB1.out.size)
   have hwm:i≠0→IntKind.i64.wrap ((i:Int)-1)=((i-1:Nat):Int):=fun h=>by rw[IntKind.wrap_i64];omega
   have HWm:=qd hwm;clear hwm hp hLr hv hR hz;go_upto_region 8 with fail;refine dI (F:=fun v=>aj v wr.heap.size 63 #[.int .i64 z,.slice Aw 2 cw]∧Below wr.heap.size wr v) ⟨aj.new wr 63 #[.int .i64 z,.slice Aw 2 cw],(Below.refl wr.heap.size wr).alloc (Nat.le_refl _) _⟩ ?_;rintro w6 ⟨mG,hb6⟩;have HO6:=qd (own_below HO.out hb6 (Nat.le_refl _));have rE:=qd (HB.out.trans (hb6.mono HB.out.size));have aai:=qd (hBw.trans (hb6.mono hBw.size));obtain⟨bx,hbx⟩:∃bx,bx=wr.heap.size:=⟨_,rfl⟩;have kU:=qd (XF (c':=cw) p hpb w6 (HX.out.2.2.1.below aai.out (Nat.le_refl _)) (aA aai.out HX.out.2.2.2) (HR.out.below hb6) z);rw[←hbx]at mG⊢;obtain⟨x0,x1⟩:=mG.c2;clear mG hb6 hbx HO HB hpb hBw k1 k2;go_wp2_with fail;refine kU.out.mono ?_;rintro y w7 ⟨rfl,oJ⟩;have L9:=qd (own_below HO6.out oJ (Nat.le_refl _));have Aq:=qd (rE.out.trans (oJ.mono rE.out.size));clear oJ kU HO6 rE aai x0 x1;go_upto_region 9 with fail;refine dI (F:=fun v=>aj v w7.heap.size 33 #[.int .u64 (p.1:Int),.int .u64 (p.2:Int)]∧Below w7.heap.size w7 v) ⟨aj.new w7 33 #[.int .u64 (p.1:Int),.int .u64 (p.2:Int)],(Below.refl w7.heap.size w7).alloc (Nat.le_refl _) _⟩ ?_;rintro w8 ⟨hB8,iw⟩;have HO8:=qd (own_below L9.out iw (Nat.le_refl _));have vD:=qd (Aq.out.trans (iw.mono Aq.out.size));obtain⟨kM,hby⟩:∃kM,kM=w7.heap.size:=⟨_,rfl⟩;rw[←hby]at hB8⊢;have Cx:=qd hB8;obtain⟨y0,y1⟩:=hB8.c2;clear hB8 iw hby L9 Aq
   go_cut [51]from 35 to 51 (fun v51 wx=>v51= .bool false∧Hid (Below w8.heap.size w8 wx))
   case first=>
    by_cases h0:i=0
    ·have hg0:decide ((0:Int)<(i:Int))=false:=decide_eq_false (by omega);have hg1:decide (0<i)=false:=decide_eq_false (by omega);clear h0;go_quiet (fail);go_wp2;go_meet
     case rel=>exact⟨rfl,qd (by first|exact Below.refl _ _|exact below_drewN (Below.refl _ _) _)⟩
    ·have hg0:decide ((0:Int)<(i:Int))=true:=decide_eq_true (by omega);have hg1:decide (0<i)=true:=decide_eq_true (by omega);obtain⟨m,hm⟩:∃m,m=i-1:=⟨_,rfl⟩;have hwm:=HWm.out h0;rw[←hm]at hwm
     have Xx:m<i:=by omega
     have hmz:(i:Int)-1=(m:Int):=by omega
     have hm0:(0:Int)≤(m:Int):=by omega
     have hm1:(m:Int)<(i:Int):=by omega
     obtain⟨pr,hpr⟩:∃pr,l[m]?=some pr:=⟨_,List.getElem?_eq_getElem (by omega)⟩;have aeH:=aah HX.out.1 hpr (by rw[show m+1=i by omega];exact HP.out);have hle:decide ((p.1:Int)≤(pr.1:Int))=false:=decide_eq_false (by omega);have hle2:decide (p.1≤pr.1)=false:=decide_eq_false (by omega);obtain⟨g8,aeI,hA8,agD,hc8⟩:=(Reads.eF HO8.out).2 (by omega);have r8:w8.cell? ⟨g8,aeI+m*2,none⟩=some (.int .u64 (pr.1:Int)):=hc8 (m*2+0) _ (fI (by rw[List.getElem?_take,if_pos Xx];exact hpr) (by omega));subst hA8;clear hm hpr hc8 h0 aeH;go_quiet (fail);go_wp2;go_meet
     case rel=>exact⟨rfl,qd (by first|exact Below.refl _ _|exact below_drewN (Below.refl _ _) _)⟩
   case rest=>
    obtain⟨rfl,Ma⟩:=hcut;have hz:=Cx.out.below Ma.out Cx.out.lt;obtain⟨y0,y1⟩:=hz.c2;have hrow:=own_below HO8.out Ma.out (Nat.le_refl _);have LY:=qd (vD.out.trans (Ma.out.mono vD.out.size));have hbs:=LY.out.size;clear hz Cx HO8 vD Ma;go_upto_region 13 with fail;go_wp2_with (at_builtin;refine iD rfl rfl QC hrow rfl rfl rfl rfl rfl (by omega) (by omega) ?_;intro v9 w9 Wt LH)
    have AP:=qd (show w9.ownsRow w1.heap.size 33 2 v9 (i+1) ((l.take (i+1)).flatMap bW)from by
     rw[List.take_add_one,HP.out]
     simpa[bW]using Wt)
    have xY:=qd (LY.out.trans (LH.below.mono (by omega)));have HM:=qd (show l.length-(i+1)<l.length-i by omega);clear Wt LH hrow LY;go_wp2;go_roundw
    case measure=>simp[intOf];exact HM.out
    exact⟨i+1,by omega,rfl,AP,xY⟩
  ·obtain rfl:i=l.length:=by omega
   have hlt':¬(l.length:Int)<(l.length:Int):=by omega
   have hO:=HO.out;rw[List.take_of_length_le (Nat.le_refl _)]at hO;obtain⟨A8,c8,hv8⟩:=bA hO;subst hv8;have Cq:=qd (GX hO HB1.out.size);have HB2:=qd (HB1.out.trans (HB.out.mono HB1.out.size));clear hO HO;go_wp2;refine bodyPost_ret (v:= .tuple #[.slice A8 l.length c8,.int .i64 0,.nilIface]) (by simp[results,Tryz.results9,go_sem]) rfl ⟨_,rfl,Cq.out,HB2.out⟩
end Go.Proofs.YtgiaobmcbbfmnaaGreatDoor

/-! The plain law of floats below 2 to the 50th: what is exact, and what rounding to the nearest whole number gives. No program in sight. -/
namespace Go.Proofs.YtgiaobmcbbfmnaaGreatDoor.pz
set_option maxRecDepth 100000
set_option maxHeartbeats 4000000
open Go.RowKit dw lY jY Ieee
variable {m w : Nat}
def ada (w:Nat):Nat:=if w<4503599627370496 then w else 4503599627370496+w % 4503599627370496
def UM (w:Nat):Nat:=if w<4503599627370496 then 1074 else 1075-w/4503599627370496
def Low (w:Nat):Prop:=w≤4832362400168542208
def whole (w:Nat):Nat:=ada w/2^UM w
def xq (w:Nat):Nat:=ada w % 2^UM w
def rounded (w:Nat):Nat:=whole w+if 2^UM w≤2*xq w then 1 else 0
def aeX (w:Nat):Nat:=
 if w/4503599627370496<1023 then(if w/4503599627370496=1022 then 4607182418800017408 else 0)
 else(w+2^(51-(w/4503599627370496-1023)))/2^(52-(w/4503599627370496-1023))*2^(52-(w/4503599627370496-1023))
end Go.Proofs.YtgiaobmcbbfmnaaGreatDoor.pz
