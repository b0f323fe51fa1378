/- A map's snapshot by its contract: all pairs, by keys, rising. No statement of the claim. -/
import Derived.Test.YthfgacnlojmmfaaGreatDoorPlA
import Derived.Test.YthfgacnlojmmfaaGreatDoorLaneP
import Derived.Test.YthfgacnlojmmfaaGreatDoorRmF
import Derived.Test.YthfgacnlojmmfaaGreatDoorRmS
import Derived.Deep.LoopGhost
import Derived.Test.YthfgacnlojmmfaaGreatDoorCoN
import Derived.Test.YthfgacnlojmmfaaGreatDoorCoL
namespace Go.Proofs.YthfgacnlojmmfaaGreatDoor
set_option maxRecDepth 100000
set_option maxHeartbeats 4000000
open Go.RowKit AmC AmL
section
variable {es out : List Ent} {G hs : List Nat} {b' n sz : Nat} {c : Cur} {t : TypeId} {v : Value} {xs : List Value}
def kvE (e:Ent):Nat×Nat:=(e.key,e.val)
theorem keys_nodup (hn:(es.map Ent.key).Nodup)(ho:out.Nodup)(hs:∀e∈out,e∈es):((out.map kvE).map Prod.fst).Nodup:=by
 rw[List.map_map];show(out.map Ent.key).Nodup;unfold List.Nodup;rw[List.pairwise_map];exact ho.imp_of_mem fun h1 h2 hne hk=>hne (keys_apart hn _ (hs _ h1) _ (hs _ h2) hk)
theorem way_len (h:Way es hs n out c):out.length≤es.length:=sub_nodup h.asc.nodup fun e he=>((h.mem e).1 he).1
theorem way_keys (hn:(es.map Ent.key).Nodup)(h:Way es hs n out c):((out.map kvE).map Prod.fst).Nodup:=keys_nodup hn h.asc.nodup fun e he=>((h.mem e).1 he).1
theorem way_room {m:Ent}(hn:(es.map Ent.key).Nodup)(h:Way es hs n (out++[m]) c):(allP (out.map kvE)).length<es.length∧isP (allP (out.map kvE)) m.key=false:=by
 have h1:=way_len h;have h2:=way_keys hn h;rw[List.map_append,List.map_append,List.nodup_append]at h2;have h3:=allP_mem h2.1;rw[List.length_append,List.length_singleton]at h1;refine⟨by rw[h3.2,List.length_map];omega, ?_⟩;rw[isP_get (allP_asc _)]
 cases hg:getP (allP (out.map kvE)) m.key with
 |none=>rfl
 |some v=>
  have h4:=(h3.1 _).1 ((getP_mem (allP_asc _)).1 hg);exact absurd rfl (h2.2.2 m.key (List.mem_map_of_mem (f:=Prod.fst) h4) m.key (by simp[kvE]))
theorem way_end (hn:(es.map Ent.key).Nodup)(h:Way es hs n out c)(hd:c.done=true):(∀k,getP (allP (out.map kvE)) k=fnM es k)∧(allP (out.map kvE)).length=es.length:=by
 have h1:=h.all_ hn hd;have h3:=allP_mem (way_keys hn h);refine⟨fun k=> ?_,by rw[h3.2,List.length_map,h1.length_eq]⟩;unfold fnM
 cases hl:look es k with
 |none=>
  rw[Option.map_none,getP_none];intro p hp hk;obtain⟨e,he,rfl⟩:=List.mem_map.1 ((h3.1 p).1 hp);have:=look_some hn (h1.mem_iff.1 he);rw[show e.key=k from hk,hl]at this;cases this
 |some e=>
  obtain⟨he,rfl⟩:=look_mem hl;exact(getP_mem (allP_asc _)).2 ((h3.1 _).2 (List.mem_map.2 ⟨e,h1.mem_iff.2 he,rfl⟩))
theorem ents64M {W0:World}{E:Nat→Addr}{H:Nat→Nat}{Kk M I b:Nat}{w:World}{a:Pool}{ids:List Nat}{its:List It}{gv:Nat}{lst:Cnt}(h:RtAt W0 E H Kk M I b G w a ids its gv lst):∀e∈a.ents,e.hash<18446744073709551616∧e.key<18446744073709551616:=fun e he=>by
 obtain⟨C,GC,mb,h1,_⟩:=h;obtain⟨i,N,g1,g2⟩:=mem_pool.1 he;have h3:=((h1.core.facts.2.2.2.2.2.1 i N g1).hash e g2).1;exact⟨h3.h64,h3.k64⟩
theorem own_farK {w w':World}{S:List Nat}{base:Nat}(h:w.ownsRow base t sz v n xs)(hm:Mod S w w')(hS:∀q∈v.ownBlock.toList,q∉S):w'.ownsRow base t sz v n xs:=by
 refine⟨h.1, ?_⟩;rcases h.2 with k|⟨g,cap,cur,rfl,k2,k3,k4⟩
 ·exact .inl k
 ·refine .inr ⟨g,cap,cur,rfl,k2, ?_,k4⟩;rw[hm.block g (Array.getElem?_eq_some_iff.1 k3).1 (hS g (by simp[Value.ownBlock]))];exact k3
theorem own_lowK {w:World}{b:Nat}(h:w.ownsRow b t sz v n xs)(hb:b'≤b):w.ownsRow b' t sz v n xs:=
 ⟨h.1,h.2.imp id fun⟨g,cap,cur,h1,h2,h3⟩=>⟨g,cap,cur,h1,Nat.le_trans hb h2,h3⟩⟩
theorem pl_base {b fb most:Nat}{w:World}{F:List Nat}{l:PL}(h:PlF b w fb most F l)(hb:b'≤b):PlF b' w fb most F l:=by
 obtain⟨v,h1,h2,h3,h4,h5⟩:=h;exact⟨v,h1,own_lowK h2 hb,h3,Nat.le_trans hb h4,h5⟩
structure Two (W0:World)(E:Nat→Addr)(H:Nat→Nat)(K M I b:Nat)(w0 w:World)(G0 F:List Nat)(a:Pool)(ids:List Nat)(its:List It)(gv:Nat)(lst:Cnt)(fb most:Nat)(F2:List Nat)(l:PL):Prop where
 map:RtAt W0 E H K M I b F w a ids its gv lst
 fn:PlF w0.heap.size w fb most F2 l
 apart:∀q∈F2,q∉F
 from_:∀q∈F,q∈G0∨w0.heap.size≤q
 mod:Mod G0 w0 w
 base:W0.heap.size≤w0.heap.size
section
variable {W0 : World} {E : Nat → Addr} {H : Nat → Nat} {K M I b : Nat} {w0 w w' : World} {G0 F F2 : List Nat} {a a' : Pool} {ids ids' : List Nat} {its its' : List It} {gv gv' : Nat} {lst lst' : Cnt} {fb most : Nat} {l l' : PL}
theorem Two.step (h:Two W0 E H K M I b w0 w G0 F a ids its gv lst fb most F2 l)(hr:RtTo W0 E H K M I b F w w' a' ids' its' gv' lst'):∃F',Two W0 E H K M I b w0 w' G0 F' a' ids' its' gv' lst' fb most F2 l:=by
 obtain⟨F',h1,h2,h3⟩:=hr;have hsz:=h.mod.size;refine⟨F',h1,h.fn.mod h3 fun q hq hf=>h.apart q hf hq,fun q hq hf=> ?_,fun q hq=> ?_,h.mod.trans h3 (fun _ hk _=>hk) (fun q hq hl=>(h.from_ q hq).elim id fun k=>absurd hl (by omega)),h.base⟩
 ·rcases h2 q hf with k|k
  ·exact h.apart q hq k
  ·have:=(h.fn.lts q hq).1;omega
 ·rcases h2 q hq with k|k
  ·exact h.from_ q k
  ·exact .inr (by omega)
theorem Two.put (h:Two W0 E H K M I b w0 w G0 F a ids its gv lst fb most F2 l)(hr:PlTo w0.heap.size w w' fb most F2 l'):∃F',Two W0 E H K M I b w0 w' G0 F a ids its gv lst fb most F' l':=by
 obtain⟨F',h1,h2,h3⟩:=hr;have hsz:=h.mod.size;refine⟨F',h.map.mod h3 (fun q hq=>⟨h.apart q hq,Nat.le_trans h.base (h.fn.lts q hq).2⟩),h1,fun q hq hf=> ?_,h.from_,h.mod.trans h3 (fun _ hk _=>hk) (fun q hq hl=>absurd (h.fn.lts q hq).2 (by omega)),h.base⟩;rcases h2 q hq with k|k
 ·exact h.apart q k hf
 ·have:=(h.map.facts.1 q hf).1;omega
theorem Two.below (h:Two W0 E H K M I b w0 w G0 F a ids its gv lst fb most F2 l)(hb:Below w.heap.size w w'):Two W0 E H K M I b w0 w' G0 F a ids its gv lst fb most F2 l:=
 ⟨h.map.below hb,h.fn.below hb,h.apart,h.from_,h.mod.then (Mod.of_below hb _),h.base⟩
end
theorem mp_Take {W0:World}{E:Nat→Addr}{H:Nat→Nat}{K M I b:Nat}{w:World}{R:Nat→Option Nat}{gv:Nat}(h:MpAt W0 E H K M I b G w R n [] gv)(hI:1≤I)(hg:gv≤100000)(h6:ErrAt E W0 6):
  Calls Tryz.prog 13 #[.pointer (some ⟨b,0,none⟩)] w fun y w'=>∃v l G',y= .returned (.tuple #[v,.nilIface])∧AscP l∧(∀k,getP l k=R k)∧w'.ownsRow w.heap.size 35 2 v l.length (l.flatMap pairC)∧(∀q∈v.ownBlock.toList,q∉G')∧MpAt W0 E H K M I b G' w' R n [] (gv+1)∧(∀q∈G',q∈G∨w.heap.size≤q)∧Mod G w w':=by
 obtain⟨a,ids,lst0,hR,rfl,rfl⟩:=h;obtain⟨hlts,hnd,hlM,hM,h32,_,_,_,_,hEnv⟩:=hR.facts;have hop:=rt_Open hR (by simp;omega) hg;simp only[List.nil_append]at hop;have HOp:=qd hop;have HNd:=qd hnd;have HE64:=qd (ents64M hR);have H6:=qd h6;have HW0:=qd hEnv.size;have Hl192:=qd (show a.ents.length≤192 by omega);have HBd:=qd (show a.ents.length+(highs a).length≤224 from by unfold highs;rw[List.length_map];omega);have HPt0:=qd (pot_le a.ents (highs a) ⟨0,0,false⟩);clear hop hR hlts hnd hlM hM h32 hEnv hg h6 hI;go_in;go_wp2_with fail;refine HOp.out.mono ?_;rintro y w1 ⟨cb,rfl,F1,hA1,hs1,hm1⟩;have HLn:=qd (rt_Len hA1);have HNw:=qd (pl_New a.ents.length w1);obtain⟨n0,hn0⟩:∃n0,n0=a.ents.length:=⟨_,rfl⟩;rw[←hn0]at HLn HNw;have HN0:=qd hn0;have HX:=qd (And.intro hA1 (And.intro hs1 hm1));clear hA1 hs1 hm1 HOp hn0;go_wp2_with fail;refine HLn.out.mono ?_;rintro y wq ⟨rfl,rfl⟩;go_wp2_with fail;refine HNw.out.mono ?_;rintro y w2 ⟨rfl,hf2,hb2⟩;obtain⟨fb,hfb⟩:∃fb,fb=w1.heap.size:=⟨_,rfl⟩
 have HT:=qd (show Two W0 E H K M I b w w2 G F1 a ids [⟨gv+1,cb,⟨0,0,false⟩⟩] (gv+1) lst0 fb n0 [fb] (allP (([]:List Ent).map kvE))from by
  obtain⟨g1,g2,g3⟩:=HX.out;have hsz:=g3.size;rw[hfb]
  exact⟨g1.below hb2,pl_base hf2 hsz,fun q hq hF=>by have:=(g1.facts.1 q hF).1;simp at hq;omega,g2,g3.then (Mod.of_below hb2 _),HW0.out⟩)
 rw[←hfb];have HW:=qd (Way.start a.ents (highs a));clear hf2 hb2 hfb HX HLn HNw;go_wp2;go_loopg [7] (pot a.ents (highs a) ⟨0,0,false⟩) (fun k _ wr=>∃(n1:Nat) (F:List Nat) (c:Cur) (lst:Cnt) (out:List Ent) (F2:List Nat),k=pot a.ents (highs a) c∧Hid (Two W0 E H K M I b w wr G F a ids [⟨gv+1,cb,c⟩] (gv+1) lst fb n0 F2 (allP (out.map kvE)))∧Hid (Way a.ents (highs a) n1 out c))
 case atStart=>exact⟨0,F1,_,_,[],[fb],rfl,HT,HW⟩
 case round=>
  clear HT HW;obtain⟨n1,F,c,lst,out,F2,hk,HT,HW⟩:=hrel;have HNx:=rt_Next HT.out.map H6.out (id:=gv+1) (cb:=cb) (c:=c) (by simp) HW.out.ok;unfold itV at HNx;replace HNx:=qd HNx;have HK:=qd hk;clear hk;go_wp2_with fail;refine HNx.out.mono ?_;rintro y w5 ⟨it,c',lst',rfl,hns,-,hrt⟩;obtain⟨out',hw',hor⟩:=HW.out.next HNd.out HE64.out hns;have HPt:=qd (fun hst:it.st≠3=>hns.pot HE64.out hst);obtain⟨F',hT5⟩:=HT.out.step hrt;have HT5:=qd (show Two W0 E H K M I b w w5 G F' a ids [⟨gv+1,cb,c'⟩] (gv+1) lst' fb n0 F2 (allP (out.map kvE))from by simpa[itSet]using hT5);have HW5:=qd hw';have HOr:=qd hor;obtain⟨st,ky,vl⟩:=it;clear hT5 hrt hns hw' hor HNx HT HW;go_upto_region 8 with fail;refine nameW (F:=fun v=>Blk v w5.heap.size 78 #[.int .i64 (st:Int),.int .u64 (ky:Int),.int .u64 (vl:Int)]∧Below w5.heap.size w5 v) ⟨Blk.new w5 78 #[.int .i64 (st:Int),.int .u64 (ky:Int),.int .u64 (vl:Int)],(Below.refl w5.heap.size w5).alloc (Nat.le_refl _) _⟩ ?_;rintro w6 ⟨hB6,hb6⟩;obtain⟨bx,hbx⟩:∃bx,bx=w5.heap.size:=⟨_,rfl⟩;rw[←hbx]at hB6⊢;obtain⟨x0,x1,x2⟩:=hB6.c3;have HT6:=qd (HT5.out.below hb6);clear hB6 hb6 hbx HT5;rcases HOr.out with⟨hst,_,m,_,hout,_,_,hky,hvl,_⟩|⟨hst,hout,_,_,h23,hdn⟩
  ·try simp only at hst hky hvl
   subst hst;subst hky;subst hvl;subst hout;have HK':=qd (show pot a.ents (highs a) c'<gk from by rw[HK.out];exact HPt.out (by decide));have hroom:=way_room HNd.out HW5.out
   have hlen:(allP (out.map kvE)).length≤192:=by have:=hroom.1;have:=Hl192.out;omega
   have HPu:=qd (pl_Put HT6.out.fn (by omega) m.key m.val (fun _=>by rw[HN0.out];exact hroom.1) (by rw[HN0.out];have:=Hl192.out;omega));clear HPt HOr hroom hlen;go_wp2_with fail;refine HPu.out.mono ?_;rintro y w7 ⟨rfl,hto⟩;obtain⟨F3,hT7⟩:=HT6.out.put hto;have HT7:=qd (show Two W0 E H K M I b w w7 G F' a ids [⟨gv+1,cb,c'⟩] (gv+1) lst' fb n0 F3 (allP ((out++[m]).map kvE))from by rw[List.map_append,List.map_singleton,allP_snoc];exact hT7);clear hto hT7 HT6 HPu x0 x1 x2;go_wp2;go_roundg (pot a.ents (highs a) c')
   case measure=>exact HK'.out
   case rel=>exact⟨n1+1,F',c',lst',out++[m],F3,rfl,HT7,HW5⟩
  ·try simp only at hst h23 hdn
   subst hout;rcases h23 with rfl|rfl
   ·have HK':=qd (show pot a.ents (highs a) c'<gk from by rw[HK.out];exact HPt.out (by decide));clear HPt HOr hdn hst;go_wp2;go_roundg (pot a.ents (highs a) c')
    case measure=>exact HK'.out
    case rel=>exact⟨n1+1,F',c',lst',out',F2,rfl,HT6,HW5⟩
   ·have hend:=way_end HNd.out HW5.out (hdn.1 rfl);have HEnd:=qd hend;have HPr:=qd (pl_Pairs HT6.out.fn (by rw[hend.2];have:=Hl192.out;omega));clear HPt HOr hdn hst hend;go_wp2_with fail;refine HPr.out.mono ?_;rintro y w7 ⟨v',rfl,ho7,hb7⟩;obtain⟨A',c7,rfl⟩:=own_form ho7;have HT7:=qd (HT6.out.below hb7);have HO7:=qd (And.intro ho7 (And.intro hb7.size (show∀q∈F',q<w6.heap.size from fun q hq=>(HT6.out.map.facts.1 q hq).1)));have HCl:=qd (rt_Close HT7.out.map (j:=0) rfl);have hsz6:=HT6.out.mod.size;clear ho7 hb7 HPr HT6 x0 x1 x2;go_wp2_with fail;refine HCl.out.mono ?_;rintro y w8 ⟨rfl,F8,hA8,hs8,hm8⟩;have hown:∀q∈(Value.slice A' (allP (out'.map kvE)).length c7).ownBlock.toList,w6.heap.size≤q∧q<w7.heap.size:=fun q hq=>HO7.out.1.lt q (by simpa using hq)
    have HFin:=qd (show w8.ownsRow w.heap.size 35 2 (.slice A' (allP (out'.map kvE)).length c7) (allP (out'.map kvE)).length ((allP (out'.map kvE)).flatMap pairC)∧(∀q∈(Value.slice A' (allP (out'.map kvE)).length c7).ownBlock.toList,q∉F8)∧MpAt W0 E H K M I b F8 w8 (fnM a.ents) a.ents.length [] (gv+1)∧(∀q∈F8,q∈G∨w.heap.size≤q)∧Mod G w w8 from by
     refine⟨own_farK (own_lowK HO7.out.1 hsz6) hm8 (fun q hq hF=> ?_),fun q hq hF=> ?_,⟨a,ids,lst',by simpa using hA8,rfl,rfl⟩,fun q hq=> ?_,HT7.out.mod.trans hm8 (fun _ hk _=>hk) (fun q hq hl=>(HT7.out.from_ q hq).elim id (fun k=>absurd hl (by omega)))⟩
     ·have:=hown q hq;have:=HO7.out.2.2 q hF;omega
     ·have h1:=hown q hq;rcases hs8 q hF with k|k
      ·have:=HO7.out.2.2 q k;omega
      ·omega
     ·rcases hs8 q hq with k|k
      ·exact HT7.out.from_ q k
      ·exact .inr (by have:=HT7.out.mod.size;omega))
    clear hA8 hs8 hm8 hown HCl HT7 HO7;go_wp2;refine bodyPost_ret (v:= .tuple #[.slice A' (allP (out'.map kvE)).length c7,.nilIface]) (by simp[results,Tryz.results13,go_sem]) rfl ⟨_,allP (out'.map kvE),F8,rfl,allP_asc _,HEnd.out.1,HFin.out⟩
end
section
variable {w : World} {l : PL} {A : Option Addr} {c : Nat}
def MixWords (w:World):Prop:=∀k,k≤5→∃s:ByteArray,w.cell? ⟨16,k,none⟩=some (.string s)∧s.toList.isEmpty=false
theorem MixWords.below {w':World}(h:MixWords w)(hb:Below w.heap.size w w'):MixWords w':=fun k hk=>by
 obtain⟨s,h1,h2⟩:=h k hk;exact⟨s,cell_in hb h1,h2⟩
theorem mix_Word (k:Nat)(hk:k≤5)(s:ByteArray)(w:World)(hs:w.cell? ⟨16,k,none⟩=some (.string s)):
  Calls Tryz.prog 26 #[.int .i64 (k:Int)] w fun y w'=>y= .returned (.string s)∧w=w':=by
 have h1:¬(k:Int)<0:=by omega
 have h2:¬(5:Int)<(k:Int):=by omega
 have h3:(0:Int)≤(k:Int):=by omega
 have h4:(k:Int)<6:=by omega
 go_in;go_wp2;go_ret;exact⟨rfl,rfl⟩
def entM (kind:Nat)(p:Nat×Nat):Ent:=⟨p.1,p.2,mixH kind p.1⟩
theorem snap_Hashed {B:Nat}(hl:Reads w B 2 A l.length (l.flatMap pairC))(hn:l.length≤100000)(h64:∀p∈l,p.1<18446744073709551616)(kind:Nat)(hk:kind≤5)(hW:MixWords w):
  Calls Tryz.prog 11 #[.slice A l.length c,.int .i64 (kind:Int)] w fun y w'=>∃v',y= .returned (.tuple #[v',.nilIface])∧w'.ownsRow w.heap.size 45 3 v' l.length ((l.map (entM kind)).flatMap entCells)∧Below w.heap.size w w':=by
 obtain⟨s,hs,hne⟩:=hW kind hk;have HW:=qd (mix_Word kind hk s w hs);have HL:=qd hl;have HK:=qd (fun(p:Nat×Nat) (hp:p∈l) (W:World)=>mix_Of kind p.1 (h64 p hp) hk W);have HB:=qd (Below.refl w.heap.size w);have HO:=qd (World.ownsRow_nil w w.heap.size 45 3);clear hs hW hl h64;go_in;go_wp2_with fail;refine HW.out.mono ?_;rintro y wq ⟨rfl,rfl⟩;go_wp2;go_loopw [6,17] (fun v6 v17 wr=>∃i:Nat,i≤l.length∧v17= .int .i64 (i:Int)∧Hid (wr.ownsRow w.heap.size 45 3 v6 i (((l.take i).map (entM kind)).flatMap entCells))∧Hid (Below w.heap.size w wr)) (fun _ v17 _=>l.length-(intOf v17).toNat)
 case atStart=>exact⟨0,by omega,rfl,HO,HB⟩
 case round=>
  clear HB HO;obtain⟨i,hi,rfl,HO,HB⟩:=hrel;by_cases hlt:i<l.length
  ·have hlt':(i:Int)<(l.length:Int):=by omega
   have hi0:(0:Int)≤(i:Int):=by omega
   have hwi:IntKind.i64.wrap ((i:Int)+1)=((i+1:Nat):Int):=by rw[IntKind.wrap_i64];omega
   obtain⟨p,hp⟩:∃p,l[i]?=some p:=⟨_,List.getElem?_eq_getElem hlt⟩;obtain⟨g,off,hA,hgl,hc⟩:=HL.out.2 (by omega);have r0:wr.cell? ⟨g,off+i*2,none⟩=some (.int .u64 (p.1:Int)):=cell_in HB.out (hc (i*2+0) _ (pairC_at hp (by omega)));have r1:wr.cell? ⟨g,off+i*2+1,none⟩=some (.int .u64 (p.2:Int)):=cell_in HB.out (hc (i*2+1) _ (pairC_at hp (by omega)));have HKp:=qd (HK.out p (List.mem_of_getElem? hp));have HP:=qd hp;obtain⟨A6,c6,hv6⟩:=own_form HO.out;subst hA;subst hv6;clear hc hp;go_upto_region 7 with fail;refine nameW (F:=fun v=>Blk v wr.heap.size 35 #[.int .u64 (p.1:Int),.int .u64 (p.2:Int)]∧Below wr.heap.size wr v) ⟨Blk.new wr 35 #[.int .u64 (p.1:Int),.int .u64 (p.2:Int)],(Below.refl wr.heap.size wr).alloc (Nat.le_refl _) _⟩ ?_;rintro w6 ⟨hB6,hb6⟩;have HO6:=qd (own_below HO.out hb6 (Nat.le_refl _));have HB6:=qd (HB.out.trans (hb6.mono HB.out.size));obtain⟨bx,hbx⟩:∃bx,bx=wr.heap.size:=⟨_,rfl⟩;rw[←hbx]at hB6⊢;obtain⟨x0,x1⟩:=hB6.c2;clear hB6 hb6 hbx HO HB r0 r1;go_wp2_with fail;refine(HKp.out _).mono ?_;rintro y wq ⟨rfl,rfl⟩;have hrow6:=HO6.out;have hbs:=HB6.out.size;go_upto_region 10 with fail;go_wp2_with (at_builtin;refine wpList_append1 rfl rfl slty_Ent hrow6 rfl rfl rfl rfl rfl (by omega) (by omega) ?_;intro v7 w7 ho7 hg7)
   have HO7:=qd (show w7.ownsRow w.heap.size 45 3 v7 (i+1) (((l.take (i+1)).map (entM kind)).flatMap entCells)from by
    rw[List.take_add_one,HP.out]
    simpa[entCells,entM]using ho7)
   have HB7:=qd (HB6.out.trans (hg7.below.mono (by omega)));have HM:=qd (show l.length-(i+1)<l.length-i by omega);clear ho7 hg7 hrow6 HO6 HB6;go_wp2;go_roundw
   case measure=>simp[intOf];exact HM.out
   exact⟨i+1,by omega,rfl,HO7,HB7⟩
  ·obtain rfl:i=l.length:=by omega
   have hlt':¬(l.length:Int)<(l.length:Int):=by omega
   have hO:=HO.out;rw[List.take_of_length_le (Nat.le_refl _)]at hO;have HO2:=qd hO;obtain⟨A6,c6,hv6⟩:=own_form hO;subst hv6;clear hO HO;go_wp2;refine bodyPost_ret (v:= .tuple #[.slice A6 l.length c6,.nilIface]) (by simp[results,Tryz.results11,go_sem]) rfl ⟨_,rfl,HO2.out,HB.out⟩
theorem entCells_at {e:Ent}{q:Nat}:∀{l:List Ent} {i:Nat},l[i]?=some e→q<3→(l.flatMap entCells)[i*3+q]?=some ((entCells e)[q]!)
 | [],_,h,_=>by simp at h
 |x::l,0,h,hq=>by
  obtain rfl:=Option.some.inj h;rw[List.flatMap_cons,List.getElem?_append_left (by simp[entCells];omega)]
  have:q=0∨q=1∨q=2:=by omega
  rcases this with rfl|rfl|rfl<;>rfl
 |x::l,i+1,h,hq=>by
  rw[List.flatMap_cons,List.getElem?_append_right (by simp[entCells];omega)];have:=entCells_at (l:=l) (i:=i) h hq;rw[show(i+1)*3+q-(entCells x).length=i*3+q by simp[entCells];omega];exact this
theorem takeP (hnd:(l.map Prod.fst).Nodup){i:Nat}{p:Nat×Nat}(hp:l[i]?=some p):isP (allP (l.take i)) p.1=false∧getP (allP (l.take i)) p.1=none∧(allP (l.take i)).length=i∧allP (l.take (i+1))=putP (allP (l.take i)) p.1 p.2:=by
 have hlt:i<l.length:=(List.getElem?_eq_some_iff.1 hp).1;have hn1:((l.take i).map Prod.fst).Nodup:=hnd.sublist ((List.take_sublist i l).map _);have hm:=allP_mem hn1
 have hg:getP (allP (l.take i)) p.1=none:=by
  rw[getP_none];intro q hq he;have hq2:=(hm.1 q).1 hq;obtain⟨j,hj⟩:=List.getElem?_of_mem hq2;rw[List.getElem?_take]at hj;split at hj
  ·next hji=>
   have:=List.pairwise_iff_getElem.1 (show(l.map Prod.fst).Pairwise (·≠·)from hnd) j i (by simp;omega) (by simp;omega) hji;simp only[List.getElem_map]at this;obtain⟨_,rfl⟩:=List.getElem?_eq_some_iff.1 hj;obtain⟨_,rfl⟩:=List.getElem?_eq_some_iff.1 hp;exact this he
  ·cases hj
 refine⟨?_,hg,by rw[hm.2,List.length_take];omega, ?_⟩
 ·rw[isP_get (allP_asc _),hg];rfl
 ·rw[List.take_add_one,hp];exact allP_snoc _ _
end
section
variable {W0 w : World} {E : Nat → Addr} {l : PL}
structure Fill (W0:World)(E:Nat→Addr)(H:Nat→Nat)(K M I b:Nat)(w0 w:World)(G:List Nat)(l:PL)(i:Nat)(v:Value)(n:Nat)(xs:List Value):Prop where
 map:∃R,MpAt W0 E H K M I b G w R i [] 0∧∀k u,R k=some u↔(k,u)∈l.take i
 row:w.ownsRow w0.heap.size 45 3 v n xs
 apart:∀q∈v.ownBlock.toList,q∉G
 from_:∀q∈G,w0.heap.size≤q
 below:Below w0.heap.size w0 w
theorem Fill.step {H:Nat→Nat}{K M I b:Nat}{w0 w':World}{G:List Nat}{i n:Nat}{v:Value}{xs:List Value}{p:Nat×Nat}{R R':Nat→Option Nat}(h:Fill W0 E H K M I b w0 w G l i v n xs)(hp:l[i]?=some p)(hR:∀k u,R k=some u↔(k,u)∈l.take i)(hn:R p.1=none)(hR':R'=fun x=>if x=p.1 then some p.2 else R x)(hto:MpTo W0 E H K M I b G w w' R' (i+1) [] 0):∃G',Fill W0 E H K M I b w0 w' G' l (i+1) v n xs:=by
 obtain⟨G',h1,h2,h3⟩:=hto;have hsz:=h.below.size;have hlt:∀q∈v.ownBlock.toList,q<w.heap.size:=fun q hq=>(h.row.lt q (by simpa using hq)).2;refine⟨G',⟨R',h1,fun k u=> ?_⟩,own_farK h.row h3 h.apart,fun q hq hg=> ?_,fun q hq=> ?_,h.below.trans (h3.below (fun q hq=>h.from_ q hq) hsz)⟩
 ·rw[hR',List.take_add_one,hp];simp only[Option.toList_some,List.mem_append,List.mem_singleton];by_cases hk:k=p.1
  ·rw[if_pos hk];constructor
   ·intro e;refine .inr ?_;rw[←Option.some.inj e,hk]
   ·rintro(e|e)
    ·have:=(hR k u).2 e;rw[hk,hn]at this;cases this
    ·rw[←e]
  ·rw[if_neg hk,hR];constructor
   ·exact .inl
   ·rintro(e|e)
    ·exact e
    ·exact absurd (congrArg Prod.fst e) hk
 ·rcases h2 q hg with k|k
  ·exact h.apart q hq k
  ·have:=hlt q hq;omega
 ·rcases h2 q hq with k|k
  ·exact h.from_ q k
  ·omega
end
theorem takeG {l:PL}{i:Nat}{p:Nat×Nat}(hn:((l.take i).map Prod.fst).Nodup)(hp:l[i]?=some p):
  (getP (allP (l.take i)) p.1=none→((l.take (i+1)).map Prod.fst).Nodup)∧((getP (allP (l.take i)) p.1).isSome=true→¬(l.map Prod.fst).Nodup)∧(allP (l.take i)).length=i∧allP (l.take (i+1))=putP (allP (l.take i)) p.1 p.2:=by
 have hlt:i<l.length:=(List.getElem?_eq_some_iff.1 hp).1;have hm:=allP_mem hn
 have hin:(getP (allP (l.take i)) p.1).isSome=true→∃u,(p.1,u)∈l.take i:=fun h=>by
  obtain⟨u,hu⟩:=Option.isSome_iff_exists.1 h;exact⟨u,(hm.1 _).1 ((getP_mem (allP_asc _)).1 hu)⟩
 refine⟨fun h=> ?_,fun h hnd=> ?_,by rw[hm.2,List.length_take];omega,by rw[List.take_add_one,hp];exact allP_snoc _ _⟩
 ·rw[List.take_add_one,hp,List.map_append];refine List.nodup_append.2 ⟨hn,by simp,fun a ha b hb e=> ?_⟩;obtain⟨q,hq,rfl⟩:=List.mem_map.1 ha
  have hb':b=p.1:=by simpa using hb
  have h2:=(getP_mem (allP_asc (l.take i))).2 ((hm.1 (q.1,q.2)).2 hq);rw[e,hb',h]at h2;cases h2
 ·have:=(takeP hnd hp).2.1;rw[this]at h;cases h
theorem snap_twiceG {w:World}{l:PL}{kind c:Nat}{A:Option Addr}{base:Nat}(ho:w.ownsRow base 45 3 (.slice A l.length c) l.length ((l.map (entM kind)).flatMap entCells))(hn:l.length≤90000):
  Calls Tryz.prog 20 #[.slice A l.length c] w fun y w'=>y= .returned (.bool (!decide (l.map Prod.fst).Nodup))∧Below w.heap.size w w':=by
 have HNw:=qd (pl_New l.length w);have HO:=qd ho;obtain⟨r,hr⟩:∃r,r= !decide (l.map Prod.fst).Nodup:=⟨_,rfl⟩;have HR:=qd hr;rw[←hr];clear ho hr;go_in;go_wp2_with fail;refine HNw.out.mono ?_;rintro y w1 ⟨rfl,hf1,hb1⟩;obtain⟨fb,hfb⟩:∃fb,fb=w.heap.size:=⟨_,rfl⟩;have HF:=qd (show(∃F,PlF w.heap.size w1 fb l.length F (allP (l.take 0)))∧((l.take 0).map Prod.fst).Nodup from⟨⟨_,by rw[hfb];exact hf1⟩,by simp⟩);have HB:=qd hb1;rw[←hfb];clear hf1 hb1 hfb HNw;go_wp2;go_loopw [2,13] (fun _ v13 wr=>∃i:Nat,i≤l.length∧v13= .int .i64 (i:Int)∧Hid ((∃F,PlF w.heap.size wr fb l.length F (allP (l.take i)))∧((l.take i).map Prod.fst).Nodup)∧Hid (Below w.heap.size w wr)) (fun _ v13 _=>l.length-(intOf v13).toNat)
 case atStart=>exact⟨0,by omega,rfl,HF,HB⟩
 case round=>
  clear HB HF;obtain⟨i,hi,rfl,HF,HB⟩:=hrel;by_cases hlt:i<l.length
  ·have hlt':(i:Int)<(l.length:Int):=by omega
   have hi0:(0:Int)≤(i:Int):=by omega
   have hwi:IntKind.i64.wrap ((i:Int)+1)=((i+1:Nat):Int):=by rw[IntKind.wrap_i64];omega
   obtain⟨p,hp⟩:∃p,l[i]?=some p:=⟨_,List.getElem?_eq_getElem hlt⟩
   have hpe:(l.map (entM kind))[i]?=some (entM kind p):=by rw[List.getElem?_map,hp];rfl
   obtain⟨g,off,hA,hgl,hc⟩:=(Reads.of_own (own_below HO.out HB.out (Nat.le_refl _))).2 (by omega);have r0:wr.cell? ⟨g,off+i*3,none⟩=some (.int .u64 (p.1:Int)):=hc (i*3+0) _ (entCells_at hpe (by omega));have r1:wr.cell? ⟨g,off+i*3+1,none⟩=some (.int .u64 (p.2:Int)):=hc (i*3+1) _ (entCells_at hpe (by omega));have r2:wr.cell? ⟨g,off+i*3+2,none⟩=some (.int .u64 (mixH kind p.1:Int)):=hc (i*3+2) _ (entCells_at hpe (by omega));obtain⟨t1,t2,t3,t4⟩:=takeG HF.out.2 hp;have HTk:=qd (And.intro t1 (And.intro t2 (And.intro t3 t4)));subst hA;clear hc hp hpe t1 t2 t3 t4;go_upto_region 5 with fail;refine nameW (F:=fun v=>Blk v wr.heap.size 45 #[.int .u64 (p.1:Int),.int .u64 (p.2:Int),.int .u64 (mixH kind p.1:Int)]∧Below wr.heap.size wr v) ⟨Blk.new wr 45 #[.int .u64 (p.1:Int),.int .u64 (p.2:Int),.int .u64 (mixH kind p.1:Int)],(Below.refl wr.heap.size wr).alloc (Nat.le_refl _) _⟩ ?_;rintro w6 ⟨hB6,hb6⟩;obtain⟨F6,hF6⟩:=HF.out.1;have hF6':=hF6.below hb6;obtain⟨bx,hbx⟩:∃bx,bx=wr.heap.size:=⟨_,rfl⟩;have HBx:=qd (show bx∉F6 from fun hq=>by have:=(hF6.lts bx hq).1;omega);rw[←hbx]at hB6⊢;obtain⟨x0,x1⟩:=hB6.c2;have HX6:=qd hB6;have HF6:=qd hF6';have HB6:=qd (HB.out.trans (hb6.mono HB.out.size));have hG:=pl_Get hF6' (by rw[HTk.out.2.2.1];omega) p.1
   cases hg:getP (allP (l.take i)) p.1 with
   |some u=>
    rw[hg]at hG;have HG:=qd hG;have HRt:=qd (show r=true from by rw[HR.out,decide_eq_false (HTk.out.2.1 (by rw[hg];rfl))];rfl);clear hB6 hb6 hbx hF6 hF6' hG HF HB r0 r1 r2 hg;go_wp2_with fail;refine HG.out.mono ?_;rintro y w7 ⟨rfl,hb7⟩;have HB7:=qd (HB6.out.trans (hb7.mono HB6.out.size));clear hb7 HB6 HF6 HG HX6;go_wp2;go_ret;exact⟨by rw[HRt.out];rfl,HB7.out⟩
   |none=>
    rw[hg]at hG;have HG:=qd hG;have HNx:=qd (HTk.out.1 hg);clear hB6 hb6 hbx hF6 hF6' hG HF HB r0 r1 r2 hg;go_wp2_with fail;refine HG.out.mono ?_;rintro y w7 ⟨rfl,hb7⟩;have hF7:=HF6.out.below hb7;have hX7:=HX6.out.below hb7 HX6.out.lt;obtain⟨x0,x1⟩:=hX7.c2;have HPu:=qd (pl_Put hF7 (by rw[HTk.out.2.2.1];omega) p.1 p.2 (fun _=>by rw[HTk.out.2.2.1];omega) (by omega));have HB7:=qd (HB6.out.trans (hb7.mono HB6.out.size));have HF7:=qd hF7;clear hb7 hF7 hX7 HB6 HF6 HG HX6;go_wp2_with fail;refine HPu.out.mono ?_;rintro y w8 ⟨rfl,F8,hF8,hs8,hm8⟩;have HF8:=qd (show(∃F,PlF w.heap.size w8 fb l.length F (allP (l.take (i+1))))∧((l.take (i+1)).map Prod.fst).Nodup from⟨⟨F8,by rw[HTk.out.2.2.2];exact hF8⟩,HNx.out⟩);have HB8:=qd (HB7.out.trans (hm8.below (fun q hq=>(HF7.out.lts q hq).2) HB7.out.size));have HM:=qd (show l.length-(i+1)<l.length-i by omega);clear hF8 hs8 hm8 HPu HB7;go_wp2;go_roundw
    case measure=>simp[intOf];exact HM.out
    exact⟨i+1,by omega,rfl,HF8,HB8⟩
  ·obtain rfl:i=l.length:=by omega
   have hlt':¬(l.length:Int)<(l.length:Int):=by omega
   have hnd:=HF.out.2;rw[List.take_length]at hnd;have HRf:=qd (show r=false from by rw[HR.out,decide_eq_true hnd];rfl);clear hnd;go_wp2;go_ret;exact⟨by rw[HRf.out];rfl,HB.out⟩
end Go.Proofs.YthfgacnlojmmfaaGreatDoor
