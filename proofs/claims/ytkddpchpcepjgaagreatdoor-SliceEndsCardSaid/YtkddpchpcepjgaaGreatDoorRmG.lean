/- Going over a map by an iterator: what it has passed, step by step. No statement of the claim. -/
import Derived.Test.YtkddpchpcepjgaaGreatDoorLaw21e
namespace Go.Proofs.YtkddpchpcepjgaaGreatDoor
set_option maxRecDepth 100000
set_option maxHeartbeats 4000000
open Go.RowKit cu
section
structure ET where
 st:Nat
 key:Nat
 val:Nat
def ET.zero:ET:=⟨0,0,0⟩
def jl.passed (c:jl)(e:ay):Prop:=c.done=true\/bO e ⟨c.key,0,c.hash⟩=true
inductive mO (es:List ay)(hs:List Nat)(c:jl):ET->jl->Prop
 |done (h:c.done=true):mO es hs c ⟨3,0,0⟩ c
 |yield (h:c.done=false) (hi:Nat) (m:ay) (h1:c.hash<=hi) (h2:hi∈hs) (h3:hi<18446744073709551616) (h4:∀x∈hs,c.hash<=x->hi<=x) (hm:ig ⟨c.key,0,c.hash⟩ (upto es hi) (some m)):mO es hs c ⟨1,m.key,m.val⟩ (behind m.hash m.key)
 |skip (h:c.done=false) (hi:Nat) (h1:c.hash<=hi) (h2:hi∈hs) (h3:hi<18446744073709551616) (h4:∀x∈hs,c.hash<=x->hi<=x) (hm:ig ⟨c.key,0,c.hash⟩ (upto es hi) none):mO es hs c ⟨if hi<18446744073709551615 then 2 else 3,0,0⟩ (behind hi 18446744073709551615)
theorem zX {h k:Nat}(h1:h<18446744073709551616):(behind h k).ok:=by
 unfold behind jl.ok;split
 ·exact⟨h1,by simp only;omega⟩
 ·split
  ·exact⟨by simp only;omega,by simp⟩
  ·simp
section
variable {es out : List ay} {hs : List Nat} {n : Nat} {c c' c'' : jl} {i i' : ET}
structure Way (es:List ay)(hs:List Nat)(n:Nat)(out:List ay)(c:jl):Prop where
 qO:Asc out
 mem:∀e,e∈out↔e∈es/\c.passed e
 cnt:c.done=false->n<=out.length+below_ hs c.hash
 ok:c.ok
theorem Way.start (es:List ay)(hs:List Nat):Way es hs 0 [] ⟨0,0,false⟩:=⟨.nil,λe=>by simp[jl.passed,bO],λ_=>Q4 _,by simp[jl.ok]⟩
theorem xD {es:List ay}{hash key:Nat}(h1:hash<18446744073709551616)(h2:key<18446744073709551616)(he:∀e∈es,e.hash<18446744073709551616/\e.key<18446744073709551616){e:ay}(h:e∈es):(behind hash key).passed e↔bO e ⟨key+1,0,hash⟩=true:=by
 have:=he e h;unfold behind jl.passed;split
 ·simp[bO]
 ·split
  ·simp[bO];omega
  ·simp[bO];omega
theorem Way.aeW (h:Way es hs n out c)(hd:c.done=false):mM es hs n out c.key c.hash:=⟨h.qO,λe=>by rw[h.mem e];unfold jl.passed;rw[hd];simp,h.cnt hd⟩
theorem abu {hash key:Nat}(h:mM es hs n out (key+1) hash)(h1:hash<18446744073709551616)(h2:key<18446744073709551616)(he:∀e∈es,e.hash<18446744073709551616/\e.key<18446744073709551616):Way es hs n out (behind hash key):=by
 refine⟨h.qO,λe=>⟨λhh=> ?_,λhh=> ?_⟩,λhd=> ?_,zX h1⟩
 ·obtain⟨g1,g2⟩:=(h.mem e).1 hh;exact⟨g1,(xD h1 h2 he g1).2 g2⟩
 ·exact(h.mem e).2 ⟨hh.1,(xD h1 h2 he hh.1).1 hh.2⟩
 ·have h3:=h.cnt
  have:hash<=(behind hash key).hash:=by
   unfold behind at hd|-;split
   ·exact zb _
   ·split
    ·exact Nat.le_succ _
    ·rename_i a b;rw[if_neg a,if_neg b]at hd;cases hd
  have:=x9 hs this;omega
theorem Way.next (h:Way es hs n out c)(hn:(es.map ay.key).Nodup)(he:∀e∈es,e.hash<18446744073709551616/\e.key<18446744073709551616)(hN:mO es hs c i c'):
  ∃out',Way es hs (n+1) out' c'/\((i.st=1/\c.done=false/\∃m∈es,out'=out++[m]/\(∀e∈out,bO e m=true)/\¬c.passed m/\i.key=m.key/\i.val=m.val/\c'=behind m.hash m.key)\/(i.st≠1/\out'=out/\i.key=0/\i.val=0/\(i.st=2\/i.st=3)/\(i.st=3↔c'.done=true))):=by
 cases hN with
 |done hd=>exact⟨out,⟨h.qO,h.mem,λhh=>(by rw[hd]at hh;cases hh),h.ok⟩,.inr ⟨by simp,rfl,rfl,rfl,.inr rfl,by simp[hd]⟩⟩
 |yield hd hi m h1 h2 h3 h4 hm=>
  obtain⟨w1,w2,w3,w4⟩:=(h.aeW hd).some_ hn hm;have hb:=he m w4;exact⟨out++[m],abu w1 hb.1 hb.2 he,.inl ⟨rfl,hd,m,w4,rfl,w2,λhp=>(by rcases hp with hp|hp;rw[hd]at hp;cases hp;have:=hm.2.1;rw[hp]at this;cases this),rfl,rfl,rfl⟩⟩
 |skip hd hi h1 h2 h3 h4 hm=>
  have hcn:=h.cnt hd
  have acB:∀e∈es,((behind hi 18446744073709551615).passed e↔c.passed e):=λe hh=>by
   rw[xD h3 (by omega) he hh];have hb:=he e hh;unfold jl.passed;rw[hd];constructor
   ·intro hl;right;exact hm e (oP.2 ⟨hh,by simp[bO]at hl;omega⟩)
   ·rintro(hl|hl)
    ·cases hl
    ·simp[bO]at hl|-;omega
  refine⟨out,⟨h.qO,λe=>⟨λhh=> ?_,λhh=> ?_⟩,λhx=> ?_,zX h3⟩,.inr ⟨?_,rfl,rfl,rfl, ?_, ?_⟩⟩
  ·obtain⟨g1,g2⟩:=(h.mem e).1 hh;exact⟨g1,(acB e g1).2 g2⟩
  ·exact(h.mem e).2 ⟨hh.1,(acB e hh.1).1 hh.2⟩
  ·have hx':hi<18446744073709551615:=by
    unfold behind at hx;rw[if_neg (by omega)]at hx;by_cases hlt:hi<18446744073709551615
    ·exact hlt
    ·rw[if_neg hlt]at hx;cases hx
   have hb:(behind hi 18446744073709551615).hash=hi+1:=by
    unfold behind;rw[if_neg (by omega),if_pos hx']
   rw[hb];have:=CG (b:=hi+1) h2 h1 (by omega);omega
  ·simp only;split<;>omega
  ·simp only;split<;>simp
  ·unfold behind
   by_cases hlt:hi<18446744073709551615<;>simp[hlt]
theorem Way.few (h:Way es hs n out c)(hd:c.done=false)(hN:mO es hs c i c'):n<es.length+hs.length:=by
 have h1:=h.cnt hd;have h2:out.length<=es.length:=MX h.qO.nodup (λe he=>((h.mem e).1 he).1)
 have h3:below_ hs c.hash<hs.length:=by
  have hx:∃hi,c.hash<=hi/\hi∈hs:=by
   cases hN with
   |done h=>rw[hd]at h;cases h
   |yield h hi m h1 h2=>exact⟨hi,h1,h2⟩
   |skip h hi h1 h2=>exact⟨hi,h1,h2⟩
  obtain⟨hi,g1,g2⟩:=hx;have:=CG (b:=hi+1) g2 g1 (by omega);have:=below_le hs (hi+1);omega
 omega
end
end
section
def BJ (i:ET):Value:= .agg #[nI i.st,nU i.key,nU i.val]
def jY (its:List It)(id:Nat)(c:jl):List It:=its.map λi=>if i.id=id then{i with c:=c} else i
theorem R3 {its:List It}(hn:(its.map It.cb).Nodup){i j:It}(hi:i∈its)(hj:j∈its)(h:i.cb=j.cb):i=j:=by
 induction its with
 |nil=>cases hi
 |cons x l ih=>
  rw[ye,qa]at hn;rcases zt.1 hi with h1|h1
  ·rcases zt.1 hj with h2|h2
   ·rw[h1,h2]
   ·exact absurd (show x.cb∈l.map It.cb from by rw[<-h1,h];exact QQ h2) hn.1
  ·rcases zt.1 hj with h2|h2
   ·exact absurd (show x.cb∈l.map It.cb from by rw[<-h2,<-h];exact QQ h1) hn.1
   ·exact ih hn.2 h1 h2
section
variable {w w' : World} {ib mb most given id cb : Nat} {its : List It} {c c' : jl}
theorem QL:(jY its id c).map It.id=its.map It.id:=by
 unfold jY;rw[js];apply jx;intro i _;simp only[Function.comp_apply]
 split<;>rfl
theorem abv:(jY its id c).map It.cb=its.map It.cb:=by
 unfold jY;rw[js];apply jx;intro i _;simp only[Function.comp_apply]
 split<;>rfl
theorem yg:bD ib mb (jY its id c)=bD ib mb its:=by unfold bD;rw[abv]
theorem Yz:gq (jY its id c)=gq its:=by
 unfold gq jY;rw[js];apply jx;intro i _;simp only[Function.comp_apply]
 split<;>rfl
theorem fQ.setCur (h:fQ w ib mb most given its)(hi:⟨id,cb,c⟩∈its)(hc:eY w' cb c'){S:List Nat}(hm:Mod S w w')(hS:∀q∈S,q=cb\/q∉bD ib mb its):fQ w' ib mb most given (jY its id c'):=by
 have hnf:=h.nf;unfold bD at hnf;rw[qa,qa]at hnf;have aeX:cb∈its.map It.cb:=Z3.2 ⟨_,hi,rfl⟩;have h1:ib∉S:=λhh=>(hS _ hh).elim (λk=>hnf.1 (by rw[k];exact qu _ aeX)) (λk=>k (by simp[bD]));have h2:mb∉S:=λhh=>(hS _ hh).elim (λk=>hnf.2.1 (by rw[k];exact aeX)) (λk=>k (by simp[bD]));refine⟨h.blk.mod hm h1,by rw[Yz];exact h.map.mod hm h2,λi hi'=> ?_,λi hi'=> ?_,by rw[QL];exact h.nd,by rw[yg];exact h.nf,h.few.1,by unfold jY;rw[qS];exact h.few.2⟩
 ·unfold jY at hi';obtain⟨j,hj,rfl⟩:=Z3.1 hi';by_cases hid:j.id=id
  ·rw[if_pos hid];have:=um h.nd hj hi hid;rw[this];exact hc
  ·rw[if_neg hid];refine(h.cur j hj).mod hm (λhh=>hid ?_);have hcb:j.cb=cb:=(hS _ hh).elim (λk=>k) (λk=>absurd (by unfold bD;simp only[zt];exact .inr (.inr (QQ hj))) k);have hn:(its.map It.cb).Nodup:=hnf.2.2;exact congrArg It.id (R3 hn hj hi hcb)
 ·have:i.id∈its.map It.id:=by rw[<-QL (id:=id) (c:=c')];exact QQ hi'
  obtain⟨j,hj,hji⟩:=Z3.1 this;rw[<-hji];exact h.ids j hj
end
def uo (W0:World)(E:Nat->Addr)(H:Nat->Nat)(Kk M I b:Nat)(G0:List Nat)(w0:World)(C:fJ)(GC:List Nat)(mb gv:Nat)(a:Pool)(ids:List Nat)(its:List It)(id cb:Nat)(c:jl)(V:World)(it:ET)(w':World):Prop:=
 ∃(c':jl) (cc:bE) (fT:List Nat),mO a.ents (zW a) c it c'/\QC cc/\gG W0 E H Kk M I b G0 w0 C fT mb gv w' a ids (jY its id c')/\kJ W0 E H Kk M C.cb fT w' a ids cc/\(∀q∈fT,q∈GC\/V.heap.size<=q)/\Mod (cb::GC) V w'
section
variable {W0 : World} {E : Nat -> Addr} {H : Nat -> Nat} {Kk M I b : Nat} {G0 : List Nat} {w0 w : World} {C : fJ} {GC : List Nat} {mb gv : Nat} {a : Pool} {ids : List Nat} {its : List It} {id cb : Nat} {c : jl}
theorem uo.mod {T:List Nat}{V w1 w2:World}{it:ET}(h:uo W0 E H Kk M I b G0 w0 C GC mb gv a ids its id cb c V it w1)(hm:Mod T w1 w2)(hT:∀q∈T,q∉eD b C GC mb its/\w0.heap.size<=q/\q<V.heap.size):
  ∃(c':jl) (cc:bE) (fT:List Nat),mO a.ents (zW a) c it c'/\QC cc/\gG W0 E H Kk M I b G0 w0 C fT mb gv w2 a ids (jY its id c')/\kJ W0 E H Kk M C.cb fT w2 a ids cc/\(∀q∈fT,q∈GC\/V.heap.size<=q)/\Mod (cb::(GC++T)) V w2:=by
 obtain⟨c',cc,fT,h1,h2,h3,h4,h5,h6⟩:=h
 have h7:∀q∈T,q∉fT:=λq hq hg=>by
  rcases h5 q hg with k|k
  ·exact(hT q hq).1 (aG.2 (.inr (.inr k)))
  ·have:=(hT q hq).2.2;omega
 refine⟨c',cc,fT,h1,h2,h3.AB hm (λq hq=>⟨λhg=> ?_,(hT q hq).2.1⟩),h4.mod hm (λq hq=>⟨h7 q hq,qf h3.qN (hT q hq).2.1⟩),h5,(h6.more (λq hq=>by simp at hq|-;rcases hq with k|k;exact .inl k;exact .inr (.inl k))).then (hm.more (λq hq=>by simp;exact .inr (.inr hq)))⟩;rcases aG.1 hg with k|k|k
 ·exact(hT q hq).1 (aG.2 (.inl k))
 ·rw[yg]at k;exact(hT q hq).1 (aG.2 (.inr (.inl k)))
 ·exact h7 q hq k
theorem uo.of {S:List Nat}{V V1 V2:World}{c':jl}{cc:bE}{fT:List Nat}{it:ET}(h3:gG W0 E H Kk M I b G0 w0 C fT mb gv V1 a ids its)(h4:kJ W0 E H Kk M C.cb fT V1 a ids cc)(h5:∀q∈fT,q∈GC\/V.heap.size<=q)(h6:Mod GC V V1)(hi:⟨id,cb,c⟩∈its)(h1:mO a.ents (zW a) c it c')(h2:QC cc)(hc:eY V2 cb c')(hm:Mod S V1 V2)(hS:∀q∈S,q=cb\/(q∉eD b C fT mb its/\w0.heap.size<=q/\V.heap.size<=q)):uo W0 E H Kk M I b G0 w0 C GC mb gv a ids its id cb c V it V2:=by
 have hcb:cb∈bD C.ib mb its:=by
  unfold bD;simp only[zt,Z3];exact .inr (.inr ⟨_,hi,rfl⟩)
 refine⟨c',cc,fT,h1,h2,h3.VA (h3.lS.setCur hi hc hm (λq hq=>(hS q hq).elim .inl (λk=> .inr (λg=>k.1 (aG.2 (.inr (.inl g))))))) hm (λq hq=>(hS q hq).elim (λk=> .inl (k▸hcb)) (λk=> .inr ⟨k.1,k.2.1⟩)) (λq hq=>by rw[yg]at hq;exact .inl hq),h4.mod hm (λq hq=> ?_),h5,h6.trans hm (λq hq _=>qu _ hq) (λq hq hl=> ?_)⟩
 ·rcases hS q hq with k|k
  ·rw[k];exact⟨h3.apart.2.2 _ hcb,h3.b0.2 _ hcb⟩
  ·exact⟨λg=>k.1 (aG.2 (.inr (.inr g))),qf h3.qN k.2.1⟩
 ·rcases hS q hq with k|k
  ·rw[k];simp
  ·omega
theorem gG.aeY (h:gG W0 E H Kk M I b G0 w0 C GC mb gv w a ids its):∀e∈a.ents,e.hash<18446744073709551616/\e.key<18446744073709551616:=λe he=>by
 obtain⟨i,N,h1,h2⟩:=ng.1 he;have h3:=((h.core.facts.2.2.2.2.2.1 i N h1).hash e h2).1;exact⟨h3.h64,h3.k64⟩
end
theorem adt {W0:World}{E:Nat->Addr}{H:Nat->Nat}{Kk M I b:Nat}{G0:List Nat}{w0 w:World}{C:fJ}{GC:List Nat}{mb gv:Nat}{a:Pool}{ids:List Nat}{its:List It}{id cb:Nat}{c:jl}(hS:gG W0 E H Kk M I b G0 w0 C GC mb gv w a ids its)(hi:⟨id,cb,c⟩∈its)(hd:c.done=false)(hok:c.ok):Calls Tryz.prog 108 #[pQ b,pQ cb] w λy w'=>∃it,y= .returned (.tuple #[BJ it,.nilIface])/\uo W0 E H Kk M I b G0 w0 C GC mb gv a ids its id cb c w it w':=by
 have hst:=hS;have hB:=(Below.refl w.heap.size w).alloc (zb _) (.cells #[.int .i64 0,.int .u64 0,.int .u64 0] 145);have hR:=aj.new w 145 #[.int .i64 0,.int .u64 0,.int .u64 0];obtain⟨W,hW⟩:∃W,W=w.alloc (.cells #[.int .i64 0,.int .u64 0,.int .u64 0] 145):=⟨_,rfl⟩;rw[<-hW]at hB hR;have TJ:=(hS.lS.cur _ hi).mod (Mod.of_below hB []) (by simp);have HS:=qd (hS.below hB);have HR:=qd hR;have HB:=qd hB;have HW:=qd hW;have HI:=qd hi;have HCu:=qd TJ;have bI:=qd hS.aeY;have HD:=qd hd;have LW:=qd hok;have HNf:=qd (show w.heap.size∉eD b C GC mb its from λhg=>by have:=(hS.fC _ hg).1;omega);have HW0:=qd (show w0.heap.size<=w.heap.size from hS.mod.size);have HN0:=qd (show w.heap.size∉GC from λhg=>by have:=(hS.fC _ (aG.2 (.inr (.inr hg)))).1;omega);have TK:=qd (show w.heap.size≠cb from λe=>by have:cb<w.heap.size:=(hS.lS.cur _ hi).lt;omega);clear hst hB hR hW hS TJ hi hd hok;go_in;go_upto_region 1 with fail;rw[<-HW.o];go_wp2_with fail;refine(Yo HCu.o).mono ?_;rintro y W1 ⟨rfl,hb⟩;replace HS:=qd (HS.o.below hb);replace HR:=qB hb HR;replace HB:=qd (bN hb HB.o);clear hb HCu;have hbk:=HS.o.blk.blk;unfold fJ.cells at hbk;have c3:=hbk.cell 3;simp only[gl]at c3;have hle:=Yn HS.o.core c.key c.hash LW.o.1;unfold bg at hle;have qg:=qd hle;clear hbk hle;go_wp2_with fail;refine qg.o.mono ?_;rintro y W2 ⟨o,hg,cc,fT,rfl,YA,hcc,hct,hsu,hmo⟩;have hs2:=HS.o.acz hct.at_ hsu hmo
 have HRn:=qd (show w.heap.size∉fT from λhg=>(hsu _ hg).elim HN0.o (λk=>by have:=HR.o.lt;omega));have HQ:=qd (show Mod GC w W2 from(Mod.of_below HB.o GC).then hmo);replace HR:=qd (HR.o.mod hmo HN0.o);replace HS:=qd hs2;have uW:=qd hct;have zY:=qd YA;have HCc:=qd hcc;have zx:=qd (show∀q∈fT,q∈GC\/w.heap.size<=q from λq hq=>(hsu q hq).elim .inl (λk=> .inr (by have:=HB.o.size;omega)));have HCb:=qd (show cb<W2.heap.size from(hs2.lS.cur _ HI.o).lt);clear hs2 hct YA hcc hsu hmo qg c3;obtain⟨e0,he0⟩:∃e0:ay,e0=o.getD ⟨0,0,0⟩:=⟨_,rfl⟩;rw[<-he0];have EI:=qd he0;clear he0;unfold aP;go_upto_region 3 with fail;refine dL 67 #[nU e0.key,nU e0.val,nU e0.hash] ?_;rintro W3 ⟨hX,hb⟩;replace HS:=qd (HS.o.below hb);replace uW:=qd (uW.o.below hb);replace HR:=qB hb HR;replace HQ:=qd (HQ.o.then (Mod.of_below hb GC));have HX:=qd hX;obtain⟨xb,hxb⟩:∃xb,xb=W2.heap.size:=⟨_,rfl⟩;rw[<-hxb]at HX|-
 have hxr:xb≠cb:=λe=>by have:=HCb.o;omega
 have HXc:=qd hxr;clear hX hb hxb hxr
 have QM:=qd (show w.heap.size∉eD b C fT mb its from λhg=>by
  rcases aG.1 hg with k|k|k
  ·exact HNf.o (aG.2 (.inl k))
  ·exact HNf.o (aG.2 (.inr (.inl k)))
  ·exact HRn.o k)
 have hxc:xb∉[cb]:=λhh=>HXc.o (zj.1 hh);have hrc:w.heap.size∉[cb]:=λhh=>TK.o (zj.1 hh);have HXm:=qd hxc;have SL:=qd hrc;clear hxc hrc
 cases o with
 |some m=>
  obtain rfl:e0=m:=EI.o;have hmm:=zY.o.2.2.2.2.1;have KS:=qd (bI.o e0 (oP.1 hmm).1);have fE:=qd zY.o.2.2.2.2.2.1;have TL:=qd (λV (hV:eY V cb c)=>RX hV HD.o e0 KS.o.2 KS.o.1 fE.o);unfold aP at TL;have lJ:=qd (mO.yield HD.o hg e0 zY.o.1 zY.o.2.2.1 zY.o.2.1 zY.o.2.2.2.1 zY.o.2.2.2.2);clear hmm;go_upto_region 4 with fail;have TM:=HX.o.cell 0;have TN:=HX.o.cell 1;have TP:=HX.o.cell 2;simp only[gl]at TM TN TP;refine rT (λ(w':World)=>w'.cell? ⟨xb,0,none⟩=some (nU e0.key)/\w'.cell? ⟨xb,1,none⟩=some (nU e0.val)/\w'.cell? ⟨xb,2,none⟩=some (nU e0.hash)) [8] ?_;have hHeld:=(⟨TM,TN,TP⟩:_/\_/\_);refine vW 0 rfl ?_;refine vT 1 rfl ?_;refine vW 2 rfl ?_;refine vT 3 rfl ?_;refine vW 4 rfl ?_;refine vW 5 rfl ?_;refine vT 6 rfl ?_;refine nT 7 rfl λK hK=> ?_;go_simp;refine(TL.o _ ((HS.o.lS.cur _ HI.o).mod (Mod.of_below (Below.refl W3.heap.size W3).drew []) (by simp))).mono ?_;rintro y W4 ⟨rfl,hc4,dO⟩;replace dO:Mod [cb] W3 W4:=(Mod.of_below (Below.refl W3.heap.size W3).drew [cb]).then dO;replace HR:=qd (HR.o.mod dO SL.o);have jd:=qd hc4;have FY:=qd dO;replace HX:=qd (HX.o.mod dO HXm.o);clear hc4 dO TL TM TN TP;have TM:=HX.o.cell 0;have TN:=HX.o.cell 1;have TP:=HX.o.cell 2;simp only[gl]at TM TN TP;go_wp2_with fail;have hHeld:=(⟨TM,TN,TP⟩:_/\_/\_);refine kO hK ?_;clear hK K;refine nT 8 rfl λK hK=> ?_;have r:=HR.o.c3;obtain⟨f0,f1,f2⟩:=HR.o.f3;have hnw:=((HR.o.ak 0 (.int .i64 1)).ak 1 (nU e0.key)).ak 2 (nU e0.val)
  have dz:=(((Mod.refl [w.heap.size] W4).ak (b:=w.heap.size) (.inl (by simp)) 0 (.int .i64 1)).ak (b:=w.heap.size) (.inl (by simp)) 1 (nU e0.key)).ak (b:=w.heap.size) (.inl (by simp)) 2 (nU e0.val);simp only[pt]at hnw;have hmt:Mod [cb,w.heap.size] W3 ((((W4).setCell ⟨w.heap.size,0,none⟩ (.int .i64 1)).setCell ⟨w.heap.size,1,none⟩ (nU e0.key)).setCell ⟨w.heap.size,2,none⟩ (nU e0.val)):=FY.o.trans dz (λq hq _=>by simp at hq|-;exact .inl hq) (λq hq _=>by simp at hq|-;exact .inr hq)
  have HF:=qd (uo.of (V:=w) HS.o uW.o zx.o HQ.o HI.o lJ.o HCc.o (jd.o.mod dz (λhh=>TK.o (zj.1 hh).symm)) hmt (λq hq=>by
   rcases zt.1 hq with k|k
   ·exact .inl k
   ·rw[zj.1 k];exact .inr ⟨QM.o,HW0.o,zb _⟩))
  have jJ:=qd hnw;clear hnw dz hmt;go_simp;refine kO hK ?_;clear hK K;refine vL 9 rfl ?_;refine aV (by kernel_rfl) ?_ _;go_wp2;refine bodyPost_ret (v:= .tuple #[.agg #[.int .i64 1,nU e0.key,nU e0.val],.nilIface]) (by simp[results,Tryz.results108,go_sem,r.1,r.2.1,r.2.2]) rfl ⟨⟨1,e0.key,e0.val⟩,rfl,HF.o⟩
 |none=>
  have TL:=qd (RY (HS.o.lS.cur _ HI.o) HD.o hg zY.o.2.1 zY.o.1);have lJ:=qd (mO.skip HD.o hg zY.o.1 zY.o.2.2.1 zY.o.2.1 zY.o.2.2.2.1 zY.o.2.2.2.2);go_wp2_with fail;refine TL.o.mono ?_;rintro y W4 ⟨rfl,hc4,dO⟩;replace HR:=qd (HR.o.mod dO SL.o);have jd:=qd hc4;have FY:=qd dO;have HDn:=qd (Gy hc4);clear hc4 dO TL;by_cases hmx:hg<18446744073709551615
  ·have hdn:(behind hg 18446744073709551615).done=false:=by unfold behind;rw[if_neg (by omega),if_pos hmx]
   rw[hdn]at HDn;rw[if_pos hmx]at lJ;clear hdn;go_wp2_with fail;refine HDn.o.mono ?_;rintro y W5 ⟨rfl,rfl⟩;clear HDn;have r:=HR.o.c3;obtain⟨f0,f1,f2⟩:=HR.o.f3;have hnw:=((HR.o.ak 0 (.int .i64 2)).ak 1 (.int .u64 0)).ak 2 (.int .u64 0);have dz:=(((Mod.refl [w.heap.size] W4).ak (b:=w.heap.size) (.inl (by simp)) 0 (.int .i64 2)).ak (b:=w.heap.size) (.inl (by simp)) 1 (.int .u64 0)).ak (b:=w.heap.size) (.inl (by simp)) 2 (.int .u64 0);simp only[pt]at hnw;have hmt:Mod [cb,w.heap.size] W3 ((((W4).setCell ⟨w.heap.size,0,none⟩ (.int .i64 2)).setCell ⟨w.heap.size,1,none⟩ (.int .u64 0)).setCell ⟨w.heap.size,2,none⟩ (.int .u64 0)):=FY.o.trans dz (λq hq _=>by simp at hq|-;exact .inl hq) (λq hq _=>by simp at hq|-;exact .inr hq)
   have HF:=qd (uo.of (V:=w) HS.o uW.o zx.o HQ.o HI.o lJ.o HCc.o (jd.o.mod dz (λhh=>TK.o (zj.1 hh).symm)) hmt (λq hq=>by
    rcases zt.1 hq with k|k
    ·exact .inl k
    ·rw[zj.1 k];exact .inr ⟨QM.o,HW0.o,zb _⟩))
   have jJ:=qd hnw;clear hnw dz hmt;go_wp2;refine bodyPost_ret (v:= .tuple #[.agg #[.int .i64 2,.int .u64 0,.int .u64 0],.nilIface]) (by simp[results,Tryz.results108,go_sem,r.1,r.2.1,r.2.2]) rfl ⟨⟨2,0,0⟩,rfl,HF.o⟩
  ·have hdn:(behind hg 18446744073709551615).done=true:=by unfold behind;rw[if_neg (by omega),if_neg hmx]
   rw[hdn]at HDn;rw[if_neg hmx]at lJ;clear hdn;go_wp2_with fail;refine HDn.o.mono ?_;rintro y W5 ⟨rfl,rfl⟩;clear HDn;have r:=HR.o.c3;obtain⟨f0,f1,f2⟩:=HR.o.f3;have hnw:=((HR.o.ak 0 (.int .i64 3)).ak 1 (.int .u64 0)).ak 2 (.int .u64 0);have dz:=(((Mod.refl [w.heap.size] W4).ak (b:=w.heap.size) (.inl (by simp)) 0 (.int .i64 3)).ak (b:=w.heap.size) (.inl (by simp)) 1 (.int .u64 0)).ak (b:=w.heap.size) (.inl (by simp)) 2 (.int .u64 0);simp only[pt]at hnw;have hmt:Mod [cb,w.heap.size] W3 ((((W4).setCell ⟨w.heap.size,0,none⟩ (.int .i64 3)).setCell ⟨w.heap.size,1,none⟩ (.int .u64 0)).setCell ⟨w.heap.size,2,none⟩ (.int .u64 0)):=FY.o.trans dz (λq hq _=>by simp at hq|-;exact .inl hq) (λq hq _=>by simp at hq|-;exact .inr hq)
   have HF:=qd (uo.of (V:=w) HS.o uW.o zx.o HQ.o HI.o lJ.o HCc.o (jd.o.mod dz (λhh=>TK.o (zj.1 hh).symm)) hmt (λq hq=>by
    rcases zt.1 hq with k|k
    ·exact .inl k
    ·rw[zj.1 k];exact .inr ⟨QM.o,HW0.o,zb _⟩))
   have jJ:=qd hnw;clear hnw dz hmt;go_wp2;refine bodyPost_ret (v:= .tuple #[.agg #[.int .i64 3,.int .u64 0,.int .u64 0],.nilIface]) (by simp[results,Tryz.results108,go_sem,r.1,r.2.1,r.2.2]) rfl ⟨⟨3,0,0⟩,rfl,HF.o⟩
end
theorem abw (d:Nat)(fn:Fn)(a b:Array Value)(w:World):(Op.equalIn (d+1) 201 (.func fn a b) .nilFunc).run Tryz.prog w= .ok false w:=by simp[Op.equalIn,XN Tryz.underlying201]
theorem aeZ (fn:Fn)(a b:Array Value)(w:World):(Op.equal 201 (.func fn a b) .nilFunc).run Tryz.prog w= .ok false w:=abw 9999 fn a b w
theorem adu (d:Nat)(x:TypeId)(v:Value)(w:World):(Op.equalIn (d+1) 29 .nilIface (.iface x v)).run Tryz.prog w= .ok false w:=by simp[Op.equalIn,XN Tryz.underlying29]
theorem afQ (x:TypeId)(v:Value)(w:World):(Op.equal 29 .nilIface (.iface x v)).run Tryz.prog w= .ok false w:=adu 9999 x v w
theorem ae0 (a:Addr)(w:World):Calls Tryz.prog 33 #[.nilIface,.iface 333 (.pointer (some a))] w λe w'=>e= .returned (.bool false)/\w=w':=by
 have hq:∀W:World,(binOp .eql 29 .nilIface (.iface 333 (.pointer (some a)))).run Tryz.prog W= .ok (.bool false) W:=λW=>by
  simp only[binOp];simp[afQ]
 go_in;go_wp2;go_ret;exact⟨rfl,rfl⟩
theorem adv {S:List Nat}{K:ET->World->Prop}(G:FuncId)(cap:Array Value){V:World}{fb ob eb:Nat}(hG:∀W:World,(callFunc G cap).run Tryz.prog W= .ok (.enter G cap) W)(hF:aj V fb 201 #[.func (.func G) #[] cap])(hO:aj V ob 145 #[.int .i64 0,.int .u64 0,.int .u64 0])(hE:aj V eb 29 #[.nilIface])(hN:ob∉S/\eb∉S)(hoe:ob≠eb)
  (hc:Calls Tryz.prog G cap V λy w1=>∃it,y= .returned (.tuple #[BJ it,.nilIface])/\Mod S V w1/\K it w1):
  Calls Tryz.prog 140 #[pQ fb,pQ ob,pQ eb] V λy w'=>y= .returned undef/\∃it w1,K it w1/\Mod S V w1/\Mod [ob] w1 w'/\aj w' ob 145 #[nI it.st,nU it.key,nU it.val]/\aj w' eb 29 #[.nilIface]:=by
 have HO:=qd hO;have HE:=qd hE;have HN:=qd hN;have HC:=qd hc;have x0:=hF.cell 0;simp only[zr,zc]at x0;have hgg:=hG;have HOE:=qd hoe;clear hF hO hE hN hc hoe;go_in;go_wp2_with fail;refine HC.o.mono ?_;rintro y w1 ⟨it,rfl,hm,hk⟩;have zD:=HO.o.mod hm HN.o.1;have hE1:=HE.o.mod hm HN.o.2;have o0:=zD.cell 0;have o1:=zD.cell 1;have o2:=zD.cell 2;have e0:=hE1.cell 0;simp only[gl]at o0 o1 o2 e0;obtain⟨of0,of1,of2⟩:=zD.f3;have ef0:=hE1.frozen 0;have hid:=hE1.Cc (i:=0) (u:= .nilIface) rfl;have hn:=((zD.ak 0 (nI it.st)).ak 1 (nU it.key)).ak 2 (nU it.val);have hm2:=(((Mod.refl [ob] w1).sl 0 (nI it.st)).sl 1 (nU it.key)).sl 2 (nU it.val);simp only[pt]at hn;have hE2:=hE1.mod hm2 (λhh=>HOE.o (zj.1 hh).symm);have ae1:=hE2.Cc (i:=0) (u:= .nilIface) rfl;have HF:=qd (show∃it w2,K it w2/\Mod S V w2/\Mod [ob] w2 _/\aj _ ob 145 #[nI it.st,nU it.key,nU it.val]/\aj _ eb 29 #[.nilIface]from⟨it,w1,hk,hm,hm2,hn,hE2⟩);have hne1:=HOE.o;have hne2:eb≠ob:=λe=>hne1 e.symm;clear e0 ef0;have e0:=hE1.cell 0;simp only[gl]at e0;have ef0:=hE1.frozen 0;have HI:=qd ae1;clear hm hk zD hE1 hid hn hm2 hE2 ae1;unfold BJ;go_wp2;go_end0;rw[HI.o];exact⟨rfl,HF.o⟩
theorem abx {S:List Nat}{K:World->ET->World->Prop}(G:FuncId)(cap:Array Value)(w:World)(hG:∀W:World,(callFunc G cap).run Tryz.prog W= .ok (.enter G cap) W)(hS:∀q∈S,q<w.heap.size)
  (hc:∀V,Below w.heap.size w V->w.heap.size+5<=V.heap.size->Calls Tryz.prog G cap V λy w1=>∃it,y= .returned (.tuple #[BJ it,.nilIface])/\Mod S V w1/\K V it w1):
  Calls Tryz.prog 106 #[.func (.func G) #[] cap] w λy w'=>∃V it w1 T,y= .returned (.tuple #[BJ it,.nilIface])/\Below w.heap.size w V/\Mod S V w1/\K V it w1/\Mod T w1 w'/\∀q∈T,w.heap.size<=q/\q<V.heap.size:=by
 obtain⟨W,hW,hB,hBf,hBr,J2,Ld,EP⟩:=qX5 w 201 #[.func (.func G) #[] cap] 145 #[.int .i64 0,.int .u64 0,.int .u64 0] 145 #[.int .i64 0,.int .u64 0,.int .u64 0] 145 #[.int .i64 0,.int .u64 0,.int .u64 0] 29 #[.nilIface];have hsz:=hB.size;have HW:=qd hW;have HB:=qd hB;have hWl:=EP.lt;have HBf:=qd hBf;have HBr:=qd hBr;have Qv:=qd J2;have xL:=qd EP;have HS:=qd hS;have HC:=qd hc;clear hW hB hBf hBr J2 Ld EP hS hc;have p9:∀(fn:Fn) (first cap:Array Value) (w:World),(Instr.makeFunc fn first cap).run Tryz.prog w= .ok (.func fn first cap) w:=λ_ _ _ _=>rfl
 have hq:∀W:World,(binOp .eql 201 (.func (.func G) #[] cap) .nilFunc).run Tryz.prog W= .ok (.bool false) W:=λW=>by
  simp only[binOp];simp[aeZ]
 have qp:=(Below.refl W.heap.size W).alloc (zb _) (.cells #[.nilIface] 29);have sD:Below w.heap.size w (W.alloc (.cells #[.nilIface] 29)):=bN qp HB.o
 have hlV:w.heap.size+5<=(W.alloc (.cells #[.nilIface] 29)).heap.size:=by simp;omega
 have HNS:=qd (show∀q,w.heap.size<=q->q∉S from λq hq hs=>by have:=HS.o q hs;omega)
 have uW:=qd (Cx (S:=(w.heap.size+1+1)::S) (K:=λw'=>∃it w1,K (W.alloc (.cells #[.nilIface] 29)) it w1/\Mod S (W.alloc (.cells #[.nilIface] 29)) w1/\Mod [(w.heap.size+1+1)] w1 w'/\aj w' (w.heap.size+1+1) 145 #[nI it.st,nU it.key,nU it.val]/\aj w' (w.heap.size+1+1+1+1) 29 #[.nilIface]) 140 #[pQ w.heap.size,.pointer (some ⟨(w.heap.size+1+1),0,none⟩),.pointer (some ⟨(w.heap.size+1+1+1+1),0,none⟩)] W (λV=>enters_of Tryz.func140 (by kernel_rfl) rfl _ V)
  (λhg=>by
   rcases zt.1 hg with k|k
   ·omega
   ·exact HNS.o _ (by omega) k)
  ((adv G cap hG (HBf.o.mod (Mod.of_below qp []) (by simp)) (Qv.o.mod (Mod.of_below qp []) (by simp)) (xL.o.mod (Mod.of_below qp []) (by simp)) ⟨HNS.o _ (by omega),HNS.o _ (by omega)⟩ (by omega) (HC.o _ sD hlV)).mono (λy w1 hh=>⟨hh.1,(by
   obtain⟨it,w2,k1,k2,k3,_,_⟩:=hh.2
   exact k2.trans k3 (λq hq _=>qu _ hq) (λq hq _=>by rw[zj.1 hq];simp)),hh.2⟩)))
 have HV:=qd (And.intro sD hlV);have QF:=qd qp;have x0:=HBf.o.cell 0;simp only[zr,zc]at x0;clear qp sD hlV;go_in;go_upto_region 3 with fail;rw[<-HW.o];go_wp2_with fail;refine uW.o.mono ?_;rintro y w1 ⟨rfl,hm1,it,w2,hk,hm2,gQ,ho,he⟩
 have hr1:=(HBr.o.mod (Mod.of_below QF.o []) (by simp)).mod hm1 (λhg=>by
  rcases zt.1 hg with k|k
  ·omega
  ·exact HNS.o _ (by omega) k)
 have r0:=hr1.cell 0;have r1:=hr1.cell 1;have r2:=hr1.cell 2;have o0:=ho.cell 0;have o1:=ho.cell 1;have o2:=ho.cell 2;have e0:=he.cell 0;simp only[gl]at r0 r1 r2 o0 o1 o2 e0;obtain⟨f0,f1,f2⟩:=hr1.f3;have dz:=(((Mod.refl [(w.heap.size+1)] w1).sl 0 (nI it.st)).sl 1 (nU it.key)).sl 2 (nU it.val);have hmt:=gQ.trans dz (U:=[(w.heap.size+1),(w.heap.size+1+1)]) (λq hq _=>by simp at hq|-;exact .inr hq) (λq hq _=>by simp at hq|-;exact .inl hq)
 have HF:=qd (show∃V MZ w1 T,(Ending.returned (.tuple #[.agg #[nI it.st,nU it.key,nU it.val],.nilIface]))= .returned (.tuple #[BJ MZ,.nilIface])/\Below w.heap.size w V/\Mod S V w1/\K V MZ w1/\Mod T w1 _/\∀q∈T,w.heap.size<=q/\q<V.heap.size from⟨_,it,w2,_,rfl,HV.o.1,hm2,hk,hmt,λq hq=>by
  have:=HV.o.2;simp at hq
  rcases hq with k|k<;>omega⟩)
 clear hm1 hk hm2 gQ ho he hr1 dz hmt uW;go_wp2;refine bodyPost_ret (v:= .tuple #[.agg #[nI it.st,nU it.key,nU it.val],.nilIface]) (by simp[results,Tryz.results106,go_sem,r0,r1,r2]) rfl HF.o
