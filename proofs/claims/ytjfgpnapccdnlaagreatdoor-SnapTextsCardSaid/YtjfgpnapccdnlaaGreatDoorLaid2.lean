/- Hashes of plain numbers by their contracts: each kind is a function of the key. No statement of the claim. -/
import Derived.Test.YtjfgpnapccdnlaaGreatDoorKit2
import Derived.Laws.Closers25b
import Derived.Deep.LoopGhost
import Derived.Test.YtjfgpnapccdnlaaGreatDoorCoU
import Derived.Test.YtjfgpnapccdnlaaGreatDoorDecR
import Derived.Test.YtjfgpnapccdnlaaGreatDoorBuilder
import Derived.Test.YtjfgpnapccdnlaaGreatDoorSqT
import Derived.Test.YtjfgpnapccdnlaaGreatDoorWordsT
import Derived.Test.YtjfgpnapccdnlaaGreatDoorSnW
import Derived.Test.YtjfgpnapccdnlaaGreatDoorSnS
import Derived.ChangeKeysEq
import Derived.KernelRfl
import Derived.Test.YtjfgpnapccdnlaaGreatDoorErrs
import Derived.Test.YtjfgpnapccdnlaaGreatDoorRows
import Derived.ProofKit
import Derived.LaidMore
import Derived.Stop.LaidErr
import Derived.Lib.LaidTab
import Derived.HandedShaped
import Derived.Handed
namespace Go.Proofs.YtjfgpnapccdnlaaGreatDoor
set_option maxRecDepth 100000
set_option maxHeartbeats 8000000
open Go.RowKit dF wF qw Go.ChangeShapes Go.WideShapes Go.ChangeAt
def Ci (x d m:Int):Int:=bits .or .u64 (bits .and .u64 (x/d) m) (IntKind.u64.wrap (bits .and .u64 x m*d))
def aeI (x:Int):Int:=bits .or .u64 (Ci (Ci x 256 71777214294589695) 65536 281470681808895/4294967296) (IntKind.u64.wrap (Ci (Ci x 256 71777214294589695) 65536 281470681808895*4294967296))
def afM (x:Int):Int:=aeI (Ci (Ci (Ci x 2 6148914691236517205) 4 3689348814741910323) 16 1085102592571150095)
def Vp (x:Int):Nat→Int×Int
 |0=>(x,14695981039346656037)
 |i+1=>((Vp x i).1/256,IntKind.u64.wrap (bits .xor .u64 (Vp x i).2 (bits .and .u64 (Vp x i).1 255)*1099511628211))
def afN (kind:Nat)(x:Int):Int:=
 match kind with
 |0=>x
 |1=>0
 |2=>IntKind.u64.wrap (x*11400714819323198485)
 |3=>(Vp x 8).2
 |4=>afM x
 |_=>IntKind.u64.wrap (x*288230376151711744)
def afO (kind key:Nat):Nat:=if key<18446744073709551616 then(afN kind key).toNat else 0
def ahH (kind:Nat)(p:Nat×Nat):ay:=⟨p.1,p.2,afO kind p.1⟩
structure Fill (W0:World)(E:Nat→Addr)(H:Nat→Nat)(K M I b:Nat)(w0 w:World)(G:List Nat)(l:PL)(i:Nat)(v:Value)(n:Nat)(xs:List Value):Prop where
 map:∃R,pF W0 E H K M I b G w R i [] 0∧∀k u,R k=some u↔(k,u)∈l.take i
 row:w.ownsRow w0.heap.size 148 3 v n xs
 apart:∀q∈v.ownBlock.toList,q∉G
 from_:∀q∈G,w0.heap.size≤q
 below:Below w0.heap.size w0 w
theorem Fill.step {W0:World}{E:Nat→Addr}{H:Nat→Nat}{K M I b:Nat}{w0 w w':World}{G:List Nat}{l:PL}{i n:Nat}{v:Value}{xs:List Value}{p:Nat×Nat}{R R':Nat→Option Nat}(h:Fill W0 E H K M I b w0 w G l i v n xs)(hp:l[i]?=some p)(hR:∀k u,R k=some u↔(k,u)∈l.take i)(hn:R p.1=none)(hR':R'=fun x=>if x=p.1 then some p.2 else R x)(hto:Vi W0 E H K M I b G w w' R' (i+1) [] 0):∃G',Fill W0 E H K M I b w0 w' G' l (i+1) v n xs:=by
 obtain⟨G',h1,h2,h3⟩:=hto;have hsz:=h.below.size;have hlt:∀q∈v.ownBlock.toList,q<w.heap.size:=fun q hq=>(h.row.lt q (by simpa using hq)).2;refine⟨G',⟨R',h1,fun k u=> ?_⟩,Qx h.row h3 h.apart,fun q hq hg=> ?_,fun q hq=> ?_,h.below.trans (h3.below (fun q hq=>h.from_ q hq) hsz)⟩
 ·rw[hR',List.take_add_one,hp];simp only[Option.toList_some,List.mem_append,List.mem_singleton];by_cases hk:k=p.1
  ·rw[if_pos hk];constructor
   ·intro e;refine .inr ?_;rw[←Option.some.inj e,hk]
   ·rintro(e|e)
    ·have:=(hR k u).2 e;rw[hk,hn]at this;cases this
    ·rw[←e]
  ·rw[if_neg hk,hR];constructor
   ·exact .inl
   ·rintro(e|e)
    ·exact e
    ·exact absurd (congrArg Prod.fst e) hk
 ·rcases h2 q hg with k|k
  ·exact h.apart q hq k
  ·have:=hlt q hq;omega
 ·rcases h2 q hq with k|k
  ·exact h.from_ q k
  ·omega
theorem afP:gW [(1,2)]=[48,120,49,32,48,120,50,10]:=by decide
theorem aeJ:jq [(1,2)]:=by unfold jq;simp
theorem RB {W0:World}{E:Nat→Addr}{w:World}(hE:Env W0 E w)(h6:dL E W0 6)(hT:W0.cell? ⟨21,15,none⟩=some (.int .u8 4)):
  Calls Tryz.prog 4 #[] w fun y w'=>y= .returned (.bool true)∧Below w.heap.size w w':=by
 have HN:=qd (ad2 (fun _=>3) hE 1 5 1 (by decide) 1 5 1 (by omega) (by omega));have HE:=qd hE;have HX:=qd (And.intro h6 hT);unfold kR at HN;clear hE h6 hT;go_in;go_wp2_with fail;refine HN.out.mono ?_;rintro y w1 ⟨b,G,rfl,hA1,hG1,hb1⟩;have hpt:=ad3 hA1 ⟨1,2,3⟩ ⟨rfl,by decide,by decide,by decide⟩;rw[show noRoom 5 none 0=false from by decide]at hpt;simp only[Bool.false_eq_true,if_false,KP]at hpt;have uX:=qd hpt;have HG:=qd (And.intro hG1 hb1);clear hA1 hG1 hb1 hpt HN;go_wp2_with fail;refine uX.out.mono ?_;rintro y w2 ⟨rfl,G2,hA2,hs2,hm2⟩;have mO:=qd (acN hA2 (by omega) (by omega) HX.out.1);have HB2:=qd (show Below w.heap.size w w2∧∀q∈G2,w.heap.size≤q from⟨HG.out.2.trans (hm2.below HG.out.1 HG.out.2.size),fun q hq=>(hs2 q hq).elim (HG.out.1 q) (fun k=>by have:=HG.out.2.size;omega)⟩);clear hA2 hs2 hm2 uX HG;go_wp2_with fail;refine mO.out.mono ?_;rintro y w3 ⟨v,l,G3,rfl,hasc,hget,ho3,hap,hA3,hs3,kL⟩
 obtain rfl:l=[(1,2)]:=YG hasc aeJ fun k=>by
  rw[hget];unfold Vg;rw[show noRoom 5 none 0=false from by decide];simp only[Bool.false_eq_true,if_false];by_cases hk:k=1
  ·subst hk;rfl
  ·rw[if_neg hk];symm;rw[oF];intro p hp;obtain rfl:=List.mem_singleton.1 hp;exact fun e=>hk e.symm
 obtain⟨A,c,rfl⟩:=aH ho3;have xS:w3.cell? ⟨21,15,none⟩=some (.int .u8 4):=aA (hA3.env.below) HX.out.2;have htx:=Dv (c:=c) (Reads.iC ho3) (by decide) (by decide) xS;rw[afP]at htx;unfold dN at htx;have bD:=qd htx;have HB3:=qd (HB2.out.1.trans (kL.below HB2.out.2 HB2.out.1.size));clear hasc hget ho3 hap hA3 hs3 kL xS htx mO HB2;go_wp2_with fail;refine bD.out.mono ?_;rintro y w4 ⟨rfl,hb4⟩;have Yr:=qd (HB3.out.trans (hb4.mono HB3.out.size));clear hb4 HB3;go_wp2;go_ret;exact⟨rfl,Yr.out⟩
section
variable {s : List UInt8} {l : PL} {w : World} {A : Option Addr} {c : Nat}
theorem acS (x y:Int)(W:World):(binOp .neq 38 (.agg #[.int .u64 x,.int .u64 y]) (.agg #[.int .u64 x,.int .u64 y])).run Tryz.prog W= .ok (.bool false) W:=by
 have hc:Tryz.prog.cellsOf 28 =1:=by kernel_rfl
 have hi:(Tryz.prog.info? 28).isSome=true:=by kernel_rfl
 obtain⟨i,hi⟩:=Option.isSome_iff_exists.1 hi;have hr:=run_equalIn_array (P:=Tryz.prog) (w:=W) 9999 #[.int .u64 x,.int .u64 y] #[.int .u64 x,.int .u64 y] Tryz.underlying38 hi;rw[hc]at hr
 have hk:Tryz.prog.plainKey 28 =true:=by kernel_rfl
 have p0:=run_part_plain (P:=Tryz.prog) (w:=W) hk (xs:= #[.int .u64 x,.int .u64 y]) (off:=0) (v:= .int .u64 x) rfl;have p1:=run_part_plain (P:=Tryz.prog) (w:=W) hk (xs:= #[.int .u64 x,.int .u64 y]) (off:=1) (v:= .int .u64 y) rfl
 have he:∀(d:Nat) (v:Int),(Op.equalIn (d+1) 28 (.int .u64 v) (.int .u64 v)).run Tryz.prog W= .ok true W:=fun d v=>by
  simp[Op.equalIn,run_underlying Tryz.underlying28]
 have e0:=he 9998 x;have e1:=he 9998 y;have hl:List.range 2=[0,1]:=rfl;rw[hl]at hr;simp only[Op.eqItems,Nat.zero_mul,Nat.one_mul,Sem.run_bind,p0,Result.andThen_ok,e0]at hr;simp only[binOp];simp only[Op.equal,Op.maxDepth,Sem.run_bind];rw[hr];simp[p1,e1]
theorem JD:∀(L:List (Nat×List (List UInt8))) (acc:PL) {n e:Nat},iQ acc L= .inl (n,e)→1≤e∧e≤16
 | [],acc,n,e,h=>by cases h
 |(m,ws)::r,acc,n,e,h=>by
  cases hp:oz ws with
  |inl e'=>
   rw[tH acc m r hp]at h;have h1:=ME hp
   injection h with h
   injection h with _ h
   subst h;refine⟨h1, ?_⟩;by_cases hl:ws.length=2
   ·match ws,hl with
    | [a,b],_=>
     rw[rY]at hp;unfold abE at hp
     cases h2:kS a with
     |none=>rw[h2]at hp;injection hp with hp;omega
     |some k=>
      rw[h2]at hp
      cases h3:kS b with
      |none=>rw[h3]at hp;injection hp with hp;omega
      |some v=>rw[h3]at hp;cases hp
   ·rw[uQ hl]at hp
    injection hp with hp
    omega
  |inr p=>
   rw[uR acc m r hp]at h;split at h
   ·injection h with h
    injection h with _ h
    omega
   ·exact JD r _ h
theorem JE:∀(L:List (Nat×List (List UInt8))) (acc:PL) {l:PL},iQ acc L= .inr l→l.length=acc.length+L.length
 | [],acc,l,h=>by
  injection h with h
  subst h;rfl
 |(m,ws)::r,acc,l,h=>by
  cases hp:oz ws with
  |inl e'=>rw[tH acc m r hp]at h;cases h
  |inr p=>
   rw[uR acc m r hp]at h;split at h
   ·cases h
   ·have:=JE r _ h;rw[this,List.length_append,List.length_cons,List.length_cons,List.length_nil];omega
theorem RD {n e:Nat}(h:nP s= .inl (n,e)):1≤e∧e≤16:=by
 unfold nP at h
 cases hg:fH [] 1 (lines s)with
 |bad m=>
  rw[hg]at h
  injection h with h
  injection h with _ h
  omega
 |ok L=>rw[hg]at h;exact JD L [] h
theorem RF (h:nP s= .inr l):l.length≤s.length+1:=by
 unfold nP at h
 cases hg:fH [] 1 (lines s)with
 |bad m=>rw[hg]at h;cases h
 |ok L=>
  rw[hg]at h;have h1:=JE L [] h;have h2:=wN hg;have h3:=EA L;simp only[List.length_nil]at h1;omega
theorem Hg {B:Nat}(hl:Reads w B 2 A l.length (l.flatMap bB))(hn:l.length≤100000):
  Calls Tryz.prog 5 #[.slice A l.length c] w fun y w'=>∃v,y= .returned v∧w'.ownsRow w.heap.size 38 2 v l.length (l.flatMap bB)∧Below w.heap.size w w':=by
 have HL:=qd hl;clear hl;go_in;go_upto_region 2 with fail;refine dx (F:=fun v=>v.ownsRow w.heap.size 38 2 (.slice (some ⟨w.heap.size,0,none⟩) 0 0) 0 []∧Below w.heap.size w v) ⟨World.ownsRow_made w #[] 0 (Nat.le_refl _) (by simp[maxLen]) (by simp),(Below.refl w.heap.size w).alloc (Nat.le_refl _) _⟩ ?_;rintro w2 ⟨ho2,hb2⟩;have HO:=qd ho2;have HB:=qd hb2;clear ho2 hb2;go_wp2;go_loopw [3,9] (fun v3 v9 wr=>∃i:Nat,i≤l.length∧v9= .int .i64 (i:Int)∧Hid (wr.ownsRow w.heap.size 38 2 v3 i ((l.take i).flatMap bB))∧Hid (Below w.heap.size w wr)) (fun _ v9 _=>l.length-(intOf v9).toNat)
 case atStart=>exact⟨0,by omega,rfl,HO,HB⟩
 case round=>
  clear HB HO;obtain⟨i,hi,rfl,HO,HB⟩:=hrel;obtain⟨A3,c3,hv3⟩:=aH HO.out;subst hv3;by_cases hlt:i<l.length
  ·have hlt':(i:Int)<(l.length:Int):=by omega
   have hi0:(0:Int)≤(i:Int):=by omega
   have hwi:IntKind.i64.wrap ((i:Int)+1)=((i+1:Nat):Int):=by rw[IntKind.wrap_i64];omega
   obtain⟨p,hp⟩:∃p,l[i]?=some p:=⟨_,List.getElem?_eq_getElem hlt⟩;obtain⟨g,off,hA,hgl,hc⟩:=HL.out.2 (by omega);have r0:wr.cell? ⟨g,off+i*2,none⟩=some (.int .u64 (p.1:Int)):=aA HB.out (hc (i*2+0) _ (eY hp (by omega)));have r1:wr.cell? ⟨g,off+i*2+1,none⟩=some (.int .u64 (p.2:Int)):=aA HB.out (hc (i*2+1) _ (eY hp (by omega)));have mO:=qd (show(l.take (i+1)).flatMap bB=(l.take i).flatMap bB++bB p by rw[List.take_add_one,hp];simp);subst hA;clear hc hp;go_upto_region 5 with fail;refine dx (F:=fun v=>aj v wr.heap.size 49 #[.int .u64 (p.1:Int),.int .u64 (p.2:Int)]∧Below wr.heap.size wr v) ⟨aj.new wr 49 #[.int .u64 (p.1:Int),.int .u64 (p.2:Int)],(Below.refl wr.heap.size wr).alloc (Nat.le_refl _) _⟩ ?_;rintro w6 ⟨kE,hb6⟩;have hrow:=own_below HO.out hb6 (Nat.le_refl _);have kM:=qd (HB.out.trans (hb6.mono HB.out.size));have hbs:=kM.out.size;obtain⟨bx,hbx⟩:∃bx,bx=wr.heap.size:=⟨_,rfl⟩;rw[←hbx]at kE⊢;obtain⟨x0,x1⟩:=kE.c2;clear kE hb6 hbx HO HB r0 r1;go_wp2_with (at_builtin;refine aB rfl rfl QG hrow rfl rfl rfl rfl rfl (by omega) (by omega) ?_;intro v9 w9 yj zu)
   have rU:=qd (show w9.ownsRow w.heap.size 38 2 v9 (i+1) ((l.take (i+1)).flatMap bB)from by
    rw[mO.out]
    simpa[bB]using yj)
   have wI:=qd (kM.out.trans (zu.below.mono (by omega)));have HM:=qd (show l.length-(i+1)<l.length-i by omega);clear yj zu hrow kM;go_wp2;go_roundw
   case measure=>simp[intOf];exact HM.out
   exact⟨i+1,by omega,rfl,rU,wI⟩
  ·obtain rfl:i=l.length:=by omega
   have hlt':¬(l.length:Int)<(l.length:Int):=by omega
   have HOe:=qd (show wr.ownsRow w.heap.size 38 2 (.slice A3 l.length c3) l.length (l.flatMap bB)from by have h:=HO.out;rwa [List.take_length]at h);go_wp2;go_ret;exact⟨_,rfl,HOe.out,HB.out⟩
theorem Nt {E:Nat→Addr}(s:List UInt8)(hl:Reads w w.heap.size 2 A l.length (l.flatMap bB))(h64:∀p∈l,p.1<18446744073709551616∧p.2<18446744073709551616)(hE:Env w E w)(hEr:eU E w)(hWd:fK E w)(hN:iF E w)(hT:w.cell? ⟨21,15,none⟩=some (.int .u8 4)):
  Calls Tryz.prog 3 #[.slice A l.length c,dN s] w fun y w'=>y= .returned (.bool true)∧Below w.heap.size w w':=by
 have HAl:=qd (RB hE (hEr.at_ 6 (by omega) (by omega)) hT);have HL:=qd hl;have HX:=qd (And.intro h64 hEr);have HY:=qd (And.intro hWd (And.intro hN hT));have dO:=qd (fun(W:World) (hb:Below w.heap.size w W) (h:s.length≤60000)=>Rz (E:=E) s h W (hWd.below hb (Nat.le_refl _)) (hN.below hb (Nat.le_refl _)) ((hEr.at_ 16 (by omega) (by omega)).below hb (Nat.le_refl _)) (aA hb hT));have Mt:=qd (fun(W:World) (h:s.length≤60000)=>RA s h W);obtain⟨S,hS⟩:∃S:ByteArray,S=⟨s.toArray⟩:=⟨_,rfl⟩
 have hSz:S.size=s.length:=by rw[hS];exact List.size_toArray
 unfold dN at dO Mt⊢;rw[←hS]at dO Mt⊢;have HSz:=qd hSz;clear h64 hE hEr hWd hN hT hl hS;go_in;go_wp2_with fail;refine HAl.out.mono ?_;rintro y w2 ⟨rfl,hb2⟩;have HB2:=qd hb2;clear hb2 HAl;by_cases hlong:200<l.length
 ·have Yt:(200:Int)<(l.length:Int):=by omega
  go_wp2;go_ret;exact⟨rfl,HB2.out⟩
 have Yt:¬(200:Int)<(l.length:Int):=by omega
 by_cases aeg:12000<S.size
 ·have Tg:(12000:Int)<(S.size:Int):=by omega
  go_wp2;go_ret;exact⟨rfl,HB2.out⟩
 have Tg:¬(12000:Int)<(S.size:Int):=by omega
 have p9:=qd (Hg (c:=c) (HL.out.below HB2.out) (by omega))
 have hs6:s.length≤60000:=by omega
 have gD:=qd (show s.length≤12000 by omega);go_wp2_with fail;refine p9.out.mono ?_;rintro y w3 ⟨v5,rfl,ho3,hb3⟩;obtain⟨A5,c5,hv5⟩:=aH ho3;subst hv5;have HB3:=qd (HB2.out.trans (hb3.mono HB2.out.size));have HO3:=qd ho3;have bD:=qd (Dv (c:=c) (HL.out.below HB3.out) (by omega) HX.out.1 (aA HB3.out HY.out.2.2));unfold dN at bD;clear hb3 ho3 p9 HB2;go_wp2_with fail;refine bD.out.mono ?_;rintro y w4 ⟨rfl,hb4⟩;have Yr:=qd (HB3.out.trans (hb4.mono HB3.out.size));have HO4:=qd (own_below HO3.out hb4 (Nat.le_refl _));have HRt:=qd (JC (c:=c5) (Reads.iC HO4.out) (by omega) HX.out.1);unfold dN at HRt;clear hb4 HO3 HB3 bD;go_wp2_with fail;refine HRt.out.mono ?_;rintro y w5 ⟨rfl,hb5⟩;have Me:=qd (Yr.out.trans (hb5.mono Yr.out.size));have HO5:=qd (own_below HO4.out hb5 (Nat.le_refl _));have AY:=qd (ZC (c:=c) (HL.out.below Me.out) (by omega) HX.out.1 (aA Me.out HY.out.2.2));obtain⟨tx,htx⟩:∃tx:ByteArray,tx=⟨(gW l).toArray⟩:=⟨_,rfl⟩;rw[←htx]at AY⊢;obtain⟨su,hsu⟩:∃su:Int,su=JU tx (gW l).length:=⟨_,rfl⟩;rw[←hsu]at AY;clear hb5 HO4 Yr HRt;go_wp2_with fail;refine AY.out.mono ?_;rintro y w6 ⟨rfl,hb6⟩;have kM:=qd (Me.out.trans (hb6.mono Me.out.size));have Ym:=qd (own_below HO5.out hb6 (Nat.le_refl _));have lZ:=qd (Yq (c:=c5) (Reads.iC Ym.out) (by omega) HX.out.1);rw[←htx,←hsu]at lZ;clear hb6 HO5 Me AY htx hsu;go_wp2_with fail;refine lZ.out.mono ?_;rintro y w7 ⟨rfl,kF⟩;have nZ:=qd (kM.out.trans (kF.mono kM.out.size));have Et:=qd (dO.out w7 nZ.out hs6);obtain⟨r,hr⟩:∃r,r=nP s:=⟨_,rfl⟩
 have DK:=qd (fun(n e:Nat) (h:r= .inl (n,e))=>RD (hr▸h));have oO:=qd (fun(k:PL) (h:r= .inr k)=>show k.length≤12001 from by have:=RF (hr▸h:nP s= .inr k);have:=gD.out;omega);have HRp:=qd (fun(W:World)=>Mt.out W hs6);rw[←hr]at Et HRp;clear kF kM Ym lZ dO Mt hr hs6 hlong Yt aeg Tg gD;go_wp2_with fail;refine Et.out.mono ?_
 cases r with
 |inl q=>
  obtain⟨n,e⟩:=q;have he:=DK.out n e rfl;rintro y w8 ⟨ig,rfl⟩;have pR:=qd (nZ.out.trans (ig.mono nZ.out.size));rw[iL E he.1];clear ig nZ Et DK oO;go_wp2_with fail;refine(HRp.out _).mono ?_;rintro y w9 ⟨xV,rfl⟩;have wI:=qd (pR.out.trans (xV.mono pR.out.size));have QH:=qd (acQ (HX.out.2.below wI.out (Nat.le_refl _)) e he.1 he.2);clear xV pR he;go_wp2_with fail;refine QH.out.mono ?_;rintro y Sc ⟨rfl,Gv⟩;have aa9:=qd (wI.out.trans (Gv.mono wI.out.size));have Yu:=qd (show Calls Tryz.prog 5 #[.slice none 0 0] Sc _ from Hg (l:=[]) (c:=0) (B:=0) (w:=Sc) Reads.none_ (by simp));clear Gv wI QH;go_wp2_with fail;refine Yu.out.mono ?_;rintro y Sd ⟨v,rfl,BJ,wh⟩;obtain⟨A6,c6,hv6⟩:=aH BJ;subst hv6;simp only[List.length_nil];have Vq:=qd (aa9.out.trans (wh.mono aa9.out.size));clear wh aa9 Yu BJ;go_wp2;refine wp_loop_rounds 1 ?_;rw[rounds_succ];go_wp2;go_ret;exact⟨rfl,Vq.out⟩
 |inr k=>
  have hk:=oO.out k rfl;rintro y w8 ⟨ig,v,rfl,ho8⟩;obtain⟨A6,c6,hv6⟩:=aH ho8;subst hv6;have pR:=qd (nZ.out.trans (ig.mono nZ.out.size));have Gb:=qd ho8;clear ig ho8 nZ Et DK oO;go_wp2_with fail;refine(HRp.out _).mono ?_;rintro y w9 ⟨xV,v,rfl,yj⟩;obtain⟨A9,c9,Yo⟩:=aH yj;subst Yo;have wI:=qd (pR.out.trans (xV.mono pR.out.size));have rU:=qd (own_below Gb.out xV (Nat.le_refl _));have HP9:=qd yj;have QH:=qd (ab1 w9);clear xV yj pR Gb;go_wp2_with fail;refine QH.out.mono ?_;rintro y Sc ⟨rfl,rfl⟩;have Yu:=qd (Hg (c:=c6) (Reads.iC rU.out) (by omega));clear QH;go_wp2_with fail;refine Yu.out.mono ?_;rintro y Sd ⟨v,rfl,BJ,wh⟩;obtain⟨A7,c7,hv7⟩:=aH BJ;subst hv7;have Vq:=qd (wI.out.trans (wh.mono wI.out.size));have afQ:=qd (Reads.iC BJ);have afR:=qd (Reads.iC (own_below HP9.out wh (Nat.le_refl _)));have nM:=qd (Below.refl Sd.heap.size Sd);clear wh BJ Yu wI rU HP9;go_wp2;go_loopw [69] (fun v69 wr=>∃i:Nat,i≤k.length∧v69= .int .i64 (i:Int)∧Hid (Below Sd.heap.size Sd wr)) (fun v69 _=>k.length-(intOf v69).toNat)
  case atStart=>exact⟨0,by omega,rfl,nM⟩
  case round=>
   clear nM;obtain⟨i,hi,rfl,nM⟩:=hrel;by_cases hlt:i<k.length
   ·have hlt':(i:Int)<(k.length:Int):=by omega
    have hi0:(0:Int)≤(i:Int):=by omega
    have hwi:IntKind.i64.wrap ((i:Int)+1)=((i+1:Nat):Int):=by rw[IntKind.wrap_i64];omega
    obtain⟨p,hp⟩:∃p,k[i]?=some p:=⟨_,List.getElem?_eq_getElem hlt⟩;obtain⟨g7,aeh,hA7,ahI,hc7⟩:=afQ.out.2 (by omega);obtain⟨g9,aei,hA9,ahJ,hc9⟩:=afR.out.2 (by omega);have r0:wr.cell? ⟨g7,aeh+i*2,none⟩=some (.int .u64 (p.1:Int)):=aA nM.out (hc7 (i*2+0) _ (eY hp (by omega)));have r1:wr.cell? ⟨g7,aeh+i*2+1,none⟩=some (.int .u64 (p.2:Int)):=aA nM.out (hc7 (i*2+1) _ (eY hp (by omega)));have q0:=hc9 (i*2+0) _ (eY hp (by omega));have q1:=hc9 (i*2+1) _ (eY hp (by omega));have HQ:=qd (And.intro q0 q1);subst hA7 hA9;clear hc7 hc9 hp q0 q1;go_upto_region 15 with fail;refine dx (F:=fun v=>aj v wr.heap.size 38 #[.int .u64 (p.1:Int),.int .u64 (p.2:Int)]∧Below wr.heap.size wr v) ⟨aj.new wr 38 #[.int .u64 (p.1:Int),.int .u64 (p.2:Int)],(Below.refl wr.heap.size wr).alloc (Nat.le_refl _) _⟩ ?_;rintro w12 ⟨abb,aej⟩;have Vr:=qd (nM.out.trans (aej.mono nM.out.size));obtain⟨bx,hbx⟩:∃bx,bx=wr.heap.size:=⟨_,rfl⟩;rw[←hbx]at abb⊢;obtain⟨x0,x1⟩:=abb.c2;have q0:w12.cell? ⟨g9,aei+i*2,none⟩=some (.int .u64 (p.1:Int)):=aA Vr.out HQ.out.1;have q1:w12.cell? ⟨g9,aei+i*2+1,none⟩=some (.int .u64 (p.2:Int)):=aA Vr.out HQ.out.2;have HM:=qd (show k.length-(i+1)<k.length-i by omega);have HNq:=fun(W:World)=>acS (p.1:Int) (p.2:Int) W;clear abb aej hbx nM r0 r1;go_quiet (fail);go_wp2;go_roundw
    case measure=>simp[intOf];exact HM.out
    exact⟨i+1,by omega,rfl,qd (by first|exact Vr.out|exact below_drewN Vr.out _)⟩
   ·obtain rfl:i=k.length:=by omega
    have hlt':¬(k.length:Int)<(k.length:Int):=by omega
    go_wp2;go_ret;exact⟨rfl,Vq.out.trans (nM.out.mono Vq.out.size)⟩
end
section
variable {s : ChangeSpec} {again apart fresh handsOn : Bool} {P : Program} {W : World}
section
variable {H : Type} {enc : TypeId × Value → H}
theorem RG {a:Assume}{C:Checked}{os:Os}{f:FuncId}{fn:Func}{conds:List PathCond}{X:World→Array Value→Prop}(hX:∀(w w':World) (args:Array Value),w.heap=w'.heap→X w args→X w' args)(own:ownKnob C.prog.godebug=none)(started:os.Started)(noInit:C.prog.inits.idxOf? f=none)(hfn:C.prog.funcs[f]?=some fn)(witness:∃(w:World) (tape:Tape) (i:Input),w.os=os∧(w.forCall tape i).Shaped C.prog∧i.vars=[]∧Input.okWide C.prog (w.forCall tape i) .any w.heap.size f i∧
   ((s.pre enc C.prog fn conds apart (w.forCall tape i).memory i.args∧X (w.forCall tape i).memory i.args)∧sizedMet enc C.prog fn (OpenSpec.ofChange s) apart (w.forCall tape i).memory i.args)∧a.holds C.prog (lone (Frame.enter C.prog f i.args .normal) [] (w.forCall tape i))) (contract:∀(W:World) (base:Nat) (args:Array Value) (ds gs:List (DataW H)) (before:List MemPlace),
   (∀(j:Nat) t v,fn.params[j]?=some t→args[j]?=some v→Value.okWide C.prog W .any base t v)→
   DataW.Whole enc C.prog fn.params.toList s.vars apart W args.toList ds gs before→
   (DataW.weightsEach C.prog (fn.params.toList++s.plain.varTypes C.prog) (ds++gs)).all (·≤reachBytes)=true→X W args→W.ShapedOpen C.prog→
   Calls C.prog f args W fun e W'=>∃v,e= .returned v∧s.post enc C.prog fn apart fresh handsOn again W args v W'):
  ReturnsInHanded a C os f .any (fun w args=>(s.pre enc C.prog fn conds apart w args∧X w args)∧sizedMet enc C.prog fn (OpenSpec.ofChange s) apart w args) (s.post enc C.prog fn apart fresh handsOn again):=by
 refine returnsInHanded_of_calls own started noInit witness ?_;intro w tape i _ hsh _ hok hpre hholds;obtain⟨_,_,_,fn',hfn',_,_,_,_,hval⟩:=hok;have e:fn'=fn:=Option.some.inj (hfn'.symm.trans hfn);subst e;obtain⟨⟨⟨ds,gs,before,hw,hc⟩,hx⟩,hz⟩:=hpre;have hw':=DataW.Whole.of_heap (w':=w.forCall tape i) (by rfl) hw;refine(contract (w.forCall tape i) w.heap.size i.args ds gs before hval hw' (hz.weights hw) (hX _ _ _ (by rfl) hx) hsh).mono fun e W' ⟨v,he,hp⟩=> ?_;subst he;exact ChangeSpec.post_blind hp
theorem Nu {f:Func}{W':World}{args:Array Value}{v:Value}{ds gs:List (DataW H)}{before pa pv:List MemPlace}(hW:DataW.Whole enc P f.params.toList s.vars apart W args.toList ds gs before)(hres:∀(b:Nat) (sp:Nat→Bool) (hd:Bool),DataW.TrodAll enc P W' b sp hd f.resultTypes.toList (v.resultList f.resultTypes.size) (s.fn H (ds++gs)).results [])(hargs:∀sp:Nat→Bool,(∀p∈before,sp p.block=true)→DataW.TrodAll enc P W' 0 sp true f.params.toList args.toList (s.fn H (ds++gs)).args pa)(hvars:∀sp:Nat→Bool,(∀p∈before,sp p.block=true)→DataW.TrodVars enc P W' sp s.vars (s.fn H (ds++gs)).vars pv)(hps:before=pa++pv)(hb:Below W.heap.size W W')(hok:∀(j:Nat) (t:TypeId) (r:Value),f.resultTypes[j]?=some t→(v.resultList f.resultTypes.size)[j]?=some r→Value.okWide P W' .any 0 t r):
  s.post enc P f apart fresh handsOn again W args v W':=by
 have hlt:∀p∈before,p.block<W.heap.size:=fun p hp=>hW.lt p hp
 have hold:∀p∈before,(fun b=>decide (b<W.heap.size)) p.block=true:=fun p hp=>by simpa using hlt p hp
 refine⟨ds,gs,before,[],pa,pv,hW,hres _ _ _,hargs _ hold,hvars _ hold,World.keptBut_mono (fun p hp=>⟨hp, ?_⟩) (hb.frame (·∈before)),fun _=> ?_⟩
 ·rw[hps,List.mem_append]at hp;exact Or.inr hp
 ·obtain⟨_,_,_,_,_,hz,hn⟩:=hW;refine⟨hok,_,_,([]++pa)++pv,⟨[]++pa,pv,trodAll_append (hargs _ (fun _ _=>rfl)) (hres _ _ _),hvars _ (fun _ _=>rfl),rfl, ?_, ?_⟩, ?_⟩
  ·intro b off hp
   have hin:MemPlace.cell b off∈before:=by rw[hps];simpa using hp
   rw[hb.frozen (hlt _ hin)];exact hz b off hin
  ·intro ha;have:=hn ha;rw[hps]at this;simpa using this
  ·intro p hp _;rw[hps];simpa using hp
end
def abd (text:List UInt8):DataW Unit:= .iface "*errors.errorString" (.ptr (.agg [.lit (.string text)]))
theorem Cj:∀(l:List (String×DataW Unit)) (ps:List MemPlace),DataW.LaidVars P W l ps→
  ∃pl:List (List MemPlace),ps=pl.flatten∧pl.length=l.length∧∀(i:Nat) (n:String) (d:DataW Unit),l[i]?=some (n,d)→
   ∃g t cs fuel p,P.globalNamed n=some g∧(P.globals[g]?).map (·.type)=some t∧W.var? P n=some cs∧DataW.trod (fun _=>()) P W 0 (fun _=>true) false fuel t cs.toList=some (d,p)∧
    pl[i]?=some (MemPlace.row ⟨g,0,none⟩ cs.size++p)
 | [],ps,h=>⟨[],by simpa[DataW.LaidVars]using h,rfl,fun i n d hi=>by simp at hi⟩
 |(n,d)::r,ps,h=>by
  obtain⟨g,t,cs,fuel,p,q,h1,h2,h3,h4,h5,rfl⟩:=h;obtain⟨pl,e1,e2,e3⟩:=Cj r q h5;refine⟨(MemPlace.row ⟨g,0,none⟩ cs.size++p)::pl,by rw[List.flatten_cons,←e1],by simp[e2],fun i n' d' hi=> ?_⟩
  cases i with
  |zero=>
   simp only[List.getElem?_cons_zero,Option.some.injEq,Prod.mk.injEq]at hi;obtain⟨rfl,rfl⟩:=hi;exact⟨g,t,cs,fuel,p,h1,h2,h3,h4,rfl⟩
  |succ i=>exact e3 i n' d' (by simpa using hi)
theorem star: "*" ++ "errors.errorString" = "*errors.errorString" :=by decide
theorem EB (u:TypeId)(h:Tryz.prog.typeName? 3 u=some "*errors.errorString"):u=391 :=
 typeName_ptr_named (nm:= "errors.errorString") (by rw[star];kernel_rfl) (by kernel_rfl) (by decide) u (by rw[star];exact h)
theorem wE {α:Type}:∀(pl:List (List α)),pl.flatten.Nodup→∀(i j:Nat) (p q:List α) (x:α),i<j→pl[i]?=some p→pl[j]?=some q→x∈p→x∈q→False
 | [],_,i,j,p,q,x,_,h,_,_,_=>by simp at h
 |r::pl,hn,i,j,p,q,x,hij,hi,hj,hp,hq=>by
  rw[List.flatten_cons,List.nodup_append]at hn;obtain⟨j,rfl⟩:∃j',j=j'+1:=⟨j-1,by omega⟩;rw[List.getElem?_cons_succ]at hj
  cases i with
  |zero=>
   simp only[List.getElem?_cons_zero,Option.some.injEq]at hi;subst hi;exact hn.2.2 x hp x (List.mem_flatten.2 ⟨q,List.mem_of_getElem? hj,hq⟩) rfl
  |succ i=>
   rw[List.getElem?_cons_succ]at hi;exact wE pl hn.2.1 i j p q x (by omega) hi hj hp hq
theorem Kw {l:List (String×DataW Unit)}(h:laidMet Tryz.prog l W)(p:Nat)(hpos:∀k,k<16→∃n text,l[p+k]?=some (n,abd text)∧Tryz.prog.globalNamed n=some (gE (k+1))∧(Tryz.prog.globals[gE (k+1)]?).map (·.type)=some 32):∃E,eU E W:=by
 obtain⟨ps,hv,hnd,hrows⟩:=h;obtain⟨pl,e1,e2,e3⟩:=Cj l ps hv
 have H:∀k,1≤k∧k≤16→∃(a:Addr),W.cell? ⟨gE k,0,none⟩=some (.iface 391 (.pointer (some a)))∧(∃c t,W.heap[a.block]?=some (.cells c t (0,0)))∧∃q,pl[p+(k-1)]?=some q∧MemPlace.cell a.block a.off∈q:=by
  rintro k ⟨hk1,hk2⟩;obtain⟨n,text,hl,hg,ht⟩:=hpos (k-1) (by omega);rw[show k-1+1=k by omega]at hg ht;obtain⟨g,t,cs,fuel,p',h1,h2,h3,h4,h5⟩:=e3 _ _ _ hl;obtain rfl:=Option.some.inj (hg.symm.trans h1);obtain rfl:=Option.some.inj (ht.symm.trans h2)
  have hmem:∀x∈MemPlace.row ⟨gE k,0,none⟩ cs.size++p',x∈ps:=by
   intro x hx;rw[e1];exact List.mem_flatten.2 ⟨_,List.mem_of_getElem? h5,hx⟩
  obtain⟨l0⟩:=cs
  have ok0:∀u v,l0=[.iface u v]→Value.okWide Tryz.prog W .any 0 u v:=fun u v e=>by
   subst e;exact(hrows (gE k) 0 (hmem _ (by simp[MemPlace.row]))).2 u v (by simpa using World.var?_cell hg h3 0)
  obtain⟨a0,s0,rfl,hc0,hs0,hz0,rfl⟩:=errorString_of_trod Tryz.underlying32 EB Tryz.underlying391 Tryz.underlying393 rfl rfl Tryz.underlying9 (by kernel_rfl) (by kernel_rfl) h4 ok0;refine⟨a0,by simpa using World.var?_cell hg h3 0,(hrows a0.block a0.off (hmem _ (by simp[MemPlace.row]))).1,_,h5, ?_⟩;simp[MemPlace.row]
 refine⟨fun k=>if h:1≤k∧k≤16 then Classical.choose (H k h)else default,⟨fun k h1 h2=> ?_,fun k h1 h2=> ?_,fun j k h1 h2 h3 h4 e=> ?_⟩⟩
 ·have hk:1≤k∧k≤16:=⟨h1,h2⟩;simp only[hk,and_self,dif_pos];exact(Classical.choose_spec (H k hk)).1
 ·have hk:1≤k∧k≤16:=⟨h1,h2⟩;simp only[hk,and_self,dif_pos];exact(Classical.choose_spec (H k hk)).2.1
 ·have hj:1≤j∧j≤16:=⟨h1,h2⟩;have hk:1≤k∧k≤16:=⟨h3,h4⟩;simp only[hk,hj,and_self,dif_pos]at e;obtain⟨q1,hq1,hx1⟩:=(Classical.choose_spec (H j hj)).2.2;obtain⟨q2,hq2,hx2⟩:=(Classical.choose_spec (H k hk)).2.2;rw[e]at hx1;rw[e1]at hnd;rcases Nat.lt_trichotomy (p+(j-1)) (p+(k-1))with hlt|heq|hgt
  ·exact(wE pl hnd _ _ _ _ _ hlt hq1 hq2 hx1 hx2).elim
  ·omega
  ·exact(wE pl hnd _ _ _ _ _ hgt hq2 hq1 hx2 hx1).elim
theorem EC:∀(k:Nat) (l:List (String×DataW Unit)),laidMet P l W→laidMet P (l.drop k) W
 |0,l,h=>by simpa using h
 |k+1,[],h=>by simpa using h
 |k+1,x::r,h=>EC k r h.tail
end
theorem QI {l:List (String×DataW Unit)}{W:World}(h:laidMet Tryz.prog l W)(p:Nat){n:String}{text:List UInt8}{g:Nat}(hl:l[p]?=some (n,abd text))(hg:Tryz.prog.globalNamed n=some g)(ht:(Tryz.prog.globals[g]?).map (·.type)=some 32):
  ∃a,W.cell? ⟨g,0,none⟩=some (.iface 391 (.pointer (some a))):=by
 obtain⟨ps,hv,hnd,hrows⟩:=h;obtain⟨pl,e1,e2,e3⟩:=Cj l ps hv;obtain⟨g',t,cs,fuel,p',h1,h2,h3,h4,h5⟩:=e3 _ _ _ hl;obtain rfl:=Option.some.inj (hg.symm.trans h1);obtain rfl:=Option.some.inj (ht.symm.trans h2)
 have hmem:∀x∈MemPlace.row ⟨g,0,none⟩ cs.size++p',x∈ps:=by
  intro x hx;rw[e1];exact List.mem_flatten.2 ⟨_,List.mem_of_getElem? h5,hx⟩
 obtain⟨l0⟩:=cs
 have ok0:∀u v,l0=[.iface u v]→Value.okWide Tryz.prog W .any 0 u v:=fun u v e=>by
  subst e;exact(hrows g 0 (hmem _ (by simp[MemPlace.row]))).2 u v (by simpa using World.var?_cell hg h3 0)
 obtain⟨a0,s0,rfl,hc0,hs0,hz0,rfl⟩:=errorString_of_trod Tryz.underlying32 EB Tryz.underlying391 Tryz.underlying393 rfl rfl Tryz.underlying9 (by kernel_rfl) (by kernel_rfl) h4 ok0;exact⟨a0,by simpa using World.var?_cell hg h3 0⟩
def agv (W:World)(k:Nat):Addr:=match W.cell? ⟨gE k,0,none⟩with
 |some (.iface _ (.pointer (some a)))=>a
 |_=>default
end Go.Proofs.YtjfgpnapccdnlaaGreatDoor
