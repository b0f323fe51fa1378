/- The sort of weights, its clone, Top. No statement of the claim. -/
import Derived.Test.YtgkeameopnpinaaGreatDoorTyD
import Derived.Test.YtgkeameopnpinaaGreatDoorLaneP
import Derived.Deep.LoopGhost
namespace Go.Proofs.YtgkeameopnpinaaGreatDoor
set_option maxRecDepth 100000
set_option maxHeartbeats 4000000
open Go.RowKit bY rZ lH
open Go.Sort (Holds PermIn SortedIn SWO putRow grow grow_grow alloc_eq_grow HoldsK putRowK flatK get_flatK size_flatK)
variable {l : PL} {w : World} {base n : Nat} {v : Value}
theorem adx (w:World):(isAgg 43).run Tryz.prog w= .ok true w:=by kernel_rfl
theorem acA (w:World):(Go.sizeOf 43).run Tryz.prog w= .ok 2 w:=by kernel_rfl
theorem Y4 {p:Nat×Nat}{q:Nat}:∀{l:List (Nat×Nat)} {i:Nat},l[i]?=some p→q<2→(l.flatMap eW)[i*2+q]?=some ((eW p)[q]!)
 | [],_,h,_=>by simp at h
 |x::l,0,h,hq=>by
  obtain rfl:=Option.some.inj h;rw[List.flatMap_cons,List.getElem?_append_left (by simp[eW];omega)]
  have:q=0∨q=1:=by omega
  rcases this with rfl|rfl<;>rfl
 |x::l,i+1,h,hq=>by
  rw[List.flatMap_cons,List.getElem?_append_right (by simp[eW];omega)];have:=Y4 (l:=l) (i:=i) h hq;rw[show(i+1)*2+q-(eW x).length=i*2+q by simp[eW];omega];exact this
theorem JU (l:List (Nat×Nat)):(l.flatMap eW).length=l.length*2:=by
 induction l with
 |nil=>rfl
 |cons x l ih=>rw[List.flatMap_cons,List.length_append,ih,List.length_cons];simp[eW];omega
theorem CX (d:Array (Nat×Nat)):flatK eW 2 d=(d.toList.flatMap eW).toArray:=by
 apply Array.ext_getElem?;intro t;by_cases ht:t<d.size*2
 ·have h1:t/2<d.size:=by omega
  have h2:d.toList[t/2]?=some d[t/2]:=by simp[h1]
  have h3:=Y4 (q:=t % 2) h2 (by omega);rw[show t/2*2+t % 2=t by omega]at h3
  have h6:(d.toList.flatMap eW).toArray[t]?=(d.toList.flatMap eW)[t]?:=by simp
  rw[h6,h3]
  have h4:t<(flatK eW 2 d).size:=by simpa using ht
  rw[Array.getElem?_eq_getElem h4];have h5:=get_flatK eW 2 d t ht;rw[getElem!_pos (flatK eW 2 d) t h4]at h5;rw[h5,getElem!_pos d (t/2) h1]
 ·rw[Array.getElem?_eq_none (by simp;omega),List.getElem?_toArray,List.getElem?_eq_none (by rw[JU];simp;omega)]
def EL (l:PL):Prop:=∀p∈l,p.2<9218868437227405312
theorem Y5 (h:EL l):l.flatMap eW=l.flatMap wC:=by
 induction l with
 |nil=>rfl
 |cons x l ih=>
  rw[List.flatMap_cons,List.flatMap_cons,ih (fun p hp=>h p (List.mem_cons_of_mem _ hp))];congr 1;unfold eW wC;rw[Nat.mod_eq_of_lt (h x (List.mem_cons_self ..))]
def GeW (a b:Nat×Nat):Prop:=b.2≤a.2∧(a.2=b.2→a.1≤b.1)
theorem Gv (p:Option Addr)(cap:Nat)(fv:Value)(w:World):Calls Tryz.prog 72 #[.slice p 0 cap,.int .i64 0,.int .i64 0,fv] w fun e w'=>e= .returned (.tuple #[])∧w'=w:=by
 go_in;go_wp2;refine wp_loop_rounds 1 ?_;rw[rounds_succ];go_wp2;go_end0;exact⟨rfl,rfl⟩
theorem U5 (p:Option Addr)(cap:Nat)(lim:Int)(fv:Value)(w:World):Calls Tryz.prog 40 #[.slice p 0 cap,.int .i64 0,.int .i64 0,.int .i64 lim,fv] w fun e w'=>e= .returned (.tuple #[])∧w'=w:=by
 have hi:=fun W=>Gv p cap fv W;go_in;go_wp2;refine wp_loop_rounds 1 ?_;rw[rounds_succ];go_wp2_with fail;refine(hi _).mono ?_;rintro e w' ⟨rfl,rfl⟩;go_wp2
 (try simp only[Exit.inBlock,Exit.then]);refine bodyPost_ret (results_none rfl _ _ _) rfl ?_
 exact⟨rfl,rfl⟩
theorem U6 (w:World):Calls Tryz.prog 41 #[.int .u64 0] w fun e w'=>e= .returned (.int .i64 0)∧w'=w:=by have h:=Any.bits_Len (SlLaysF0.n15.bits {Tryz.sortW with}) 0 w (by omega) (by omega);exact h
theorem RF (p:Option Addr)(cap:Nat)(fv:Value)(w:World):Calls Tryz.prog 20 #[.slice p 0 cap,fv] w fun e w'=>e= .returned (.tuple #[])∧w'=w:=by
 have hp:=fun lim W=>U5 p cap lim fv W;have hl:=fun W=>U6 W;go_in;go_wp2_with fail;refine(hl _).mono ?_;rintro e w' ⟨rfl,rfl⟩;go_wp2_with fail;refine(hp _ _).mono ?_;rintro e w' ⟨rfl,rfl⟩;go_wp2;go_end0;exact⟨rfl,rfl⟩
theorem RG {blk off cap:Nat}{d:Array (Nat×Nat)}(hH:HoldsK eW 2 w blk off d)(hblk:blk<w.heap.size)(hsz:d.size<4611686018427387904):Calls Tryz.prog 20 #[.slice (some ⟨blk,off,none⟩) d.size cap,.func (.func 21) #[] #[]] w fun e w'=>
  e= .returned (.tuple #[])∧∃d' n os,PermIn 0 d.size d d'∧SortedIn (ltOf EK) 0 d.size d'∧w'=sortWorldK eW 2 w blk off n d' os:=AnyQ.slices_SortFunc Tryz.sortW 2 adx acA eW (fun _=>rfl) (fun x v hv=>by simp[eW]at hv;rcases hv with rfl|rfl<;>rfl) EK adw 21 #[] blk off cap d w (enters_of Tryz.func21 (by kernel_rfl) rfl) (fun _ _ _ _ x y=>Ou x y _) hH hblk hsz
theorem abV (h:w.ownsRow base 43 2 v l.length (l.flatMap wC))(hl:l.length≤100000)(hw:EL l):
  Calls Tryz.prog 20 #[v,.func (.func 21) #[] #[]] w fun y w'=>y= .returned (.tuple #[])∧∃l':PL,l'.Perm l∧l'.Pairwise GeW∧w'.ownsRow base 43 2 v l'.length (l'.flatMap wC)∧Mod v.ownBlock.toList w w':=by
 have h':=h;rcases h.2 with⟨rfl,hn⟩|⟨g,cap,cur,rfl,hbg,hh,hcap,hmax,hsz,htk⟩
 ·refine(RF none 0 _ w).mono ?_;rintro y w' ⟨rfl,rfl⟩;have h0:l=[]:=List.length_eq_zero_iff.1 hn;subst h0;exact⟨rfl,[],List.Perm.refl _,List.Pairwise.nil,h',Mod.refl _ _⟩
 ·obtain⟨hH,hlt,_⟩:=Gu h';rw[←Y5 hw]at hH
  have hHK:HoldsK eW 2 w g 0 l.toArray:=by unfold HoldsK;rw[CX];exact hH
  have hc:=RG (d:=l.toArray) (cap:=cap) hHK hlt (by simp;omega);simp only[List.size_toArray]at hc;refine hc.mono ?_;rintro y w' ⟨rfl,d',n,os,hp,hs,rfl⟩
  have hsz':d'.toList.length=l.length:=by have:=hp.1;simpa using this
  have hperm:d'.toList.Perm l:=by
   have:=hp.2.2;rw[show(d'.extract 0 l.length)=d' from by rw[show l.length=d'.size from by have:=hp.1;simpa using this.symm];simp,show l.toArray.extract 0 l.length=l.toArray from by simp]at this;exact this
  have hw':EL d'.toList:=fun p hp=>hw p (hperm.mem_iff.1 hp);have hput:=XU h' (xs':=d'.toList.flatMap eW) (by rw[JU,hsz']) n os;rw[←CX]at hput;refine⟨rfl,d'.toList,hperm, ?_,by rw[hsz',←Y5 hw'];rw[CX]at hput;unfold sortWorldK putRowK;rw[CX];exact hput.1,hput.2⟩;rw[List.pairwise_iff_getElem];intro i j hi hj hij
  have hi':i<d'.size:=by simpa using hi
  have hj':j<d'.size:=by simpa using hj
  have:=hs i j (by omega) hij (by have:=hsz';simp at this;omega);rw[getElem!_pos d' i hi',getElem!_pos d' j hj',Y3]at this;simp only[decide_eq_false_iff_not]at this;have q1:=hw' d'[i] (by simp);have q2:=hw' d'[j] (by simp);rw[Nat.mod_eq_of_lt q1,Nat.mod_eq_of_lt q2]at this;simp only[Array.getElem_toList];exact⟨by omega,fun h=>by omega⟩
theorem XV {c k sz:Nat}{t:TypeId}{A:Option Addr}{xs:List Value}(h:w.ownsRow base t sz (.slice A n c) n xs)(hk:k≤n):w.ownsRow base t sz (.slice A k c) k (xs.take (k*sz)):=by
 obtain⟨h1,h2⟩:=h;have hm:k*sz≤n*sz:=Nat.mul_le_mul_right _ hk;refine⟨by rw[List.length_take,h1];omega, ?_⟩;rcases h2 with⟨h2,h3⟩|⟨g,cap,cur,hv,hg,hh,hcap,hmax,hsz,htk⟩
 ·injection h2 with a b d
  subst a;subst b;subst d
  obtain rfl:k=0:=by omega
  exact .inl ⟨rfl,rfl⟩
 ·injection hv with a b d
  subst a;subst d;refine .inr ⟨g,c,cur,rfl,hg,hh,by omega,hmax,hsz, ?_⟩;rw[←htk,List.take_take,Nat.min_eq_left hm]
theorem aaj (l:PL)(k:Nat):(l.flatMap wC).take (k*2)=(l.take k).flatMap wC:=by
 induction l generalizing k with
 |nil=>simp
 |cons x l ih=>
  cases k with
  |zero=>simp
  |succ k=>
   rw[List.take_succ_cons,List.flatMap_cons,List.flatMap_cons,←ih];rw[show(k+1)*2=(wC x).length+k*2 by simp[wC];omega,List.take_append,List.take_of_length_le (Nat.le_add_right _ _),Nat.add_sub_cancel_left]
theorem abW (l:PL):∀u∈l.flatMap wC,u.oneCell'=true:=fun u hu=>by
 obtain⟨p,_,hp⟩:=List.mem_flatMap.1 hu;simp[wC]at hp
 rcases hp with rfl|rfl<;>rfl
theorem aak (ho:w.ownsRow base 43 2 v l.length (l.flatMap wC))(hn:l.length≤100000):
  Calls Tryz.prog 22 #[v] w fun y w'=>∃v',y= .returned v'∧w'.ownsRow w.heap.size 43 2 v' l.length (l.flatMap wC)∧Below w.heap.size w w':=by
 have q22:∀(w:World) (a:Option Addr) (n c n' c':Nat),(binOp .eql 39 (.slice a n c) (.slice none n' c')).run Tryz.prog w= .ok (.bool a.isNone) w:=fun w a n c n' c'=>Lib.run_eql_slice_nil w _ _ a n c n' c' Tryz.underlying39
 have mixed:Tryz.prog.follows Departure.mixedOrders=true:=by kernel_rfl
 rcases ho.2 with⟨rfl,h0⟩|⟨g,cap,cur,rfl,hbg,hh,hcap,hmax,hsz,htk⟩
 ·obtain rfl:l=[]:=List.length_eq_zero_iff.1 h0;clear ho h0 hn;go_in;go_wp2;go_ret;exact⟨_,rfl,World.ownsRow_nil _ _ _ _,Below.refl _ _⟩
 ·obtain⟨i0,hi0,hz0,hz1,hz2⟩:=info_parts U1;have HI:=qd (And.intro hi0 (And.intro hz0 (And.intro hz1 hz2)))
  have HC:=qd (show∀(w2:World) (o:Obj),w2=w.alloc o→∀(j:Nat) (u:Value),(l.flatMap wC)[j]?=some u→w2.cell? ((⟨g,0,none⟩:Addr).add j)=some u from by
   rintro w2 o rfl j u hj
   have hadd:(⟨g,0,none⟩:Addr).add j=⟨g,j,none⟩:=by unfold Addr.add;split<;>simp_all
   rw[hadd];refine Lib.cell?_alloc_some _ ?_;show(match w.heap[g]? with|some (.cells cs _ _)=>cs[j]?|_=>none)=_;rw[hh];rw[←htk,List.getElem?_take]at hj;split at hj
   ·simpa using hj
   ·cases hj)
  have H1:=qd (abW l);have HL:=qd (U2 l);clear hi0 hz0 hz1 hz2 ho hh htk hsz hmax hbg;go_in;go_wp2_with (at_builtin;refine wpList_append_own _ rfl _ _ 39 rfl w.heap.size 43 i0 _ 2 16 Tryz.underlying39 HI.out.1 HI.out.2.1 HI.out.2.2.1 HI.out.2.2.2 rfl (by omega) _ _ _ rfl (World.ownsRow_made w #[] 0 (Nat.le_refl _) (Nat.zero_le _) (by simp)) ⟨g,0,none⟩ l.length cap (l.flatMap wC) rfl HL.out (HC.out _ _ rfl) H1.out (by unfold maxLen;omega) (by omega) (by simp) ?_;intro v' w1 hown hgrow hnil;have HP:=qd (show w1.ownsRow w.heap.size 43 2 v' l.length (l.flatMap wC)∧Below w.heap.size w w1 from⟨by simpa using hown,((Below.refl _ w).alloc (Nat.le_refl _) _).grown hgrow (by simp) (by intro k hk;cases hk;exact Nat.le_refl _)⟩);clear hown hgrow hnil);go_ret;exact⟨_,rfl,HP.out⟩
structure abX (W0:World)(E:Nat→Addr)(kd K M I tb b:Nat)(G:List Nat)(w w':World)(R:Nat→Option Nat)(n gv k:Nat)(v:Value)(l l':PL)(G':List Nat):Prop where
 qH:jG l
 get:∀k,ny l k=R k
 len:l.length=n
 perm:l'.Perm l
 sorted:l'.Pairwise GeW
 row:w'.ownsRow w.heap.size 43 2 v k ((l'.take k).flatMap wC)
 at_:fC W0 E kd K M I tb b G' w' R n gv
 apart:∀q∈v.ownBlock.toList,q∉G'
 sub:∀q∈G',q∈G∨w.heap.size≤q
 mod:Mod G w w'
theorem adI {W0:World}{E:Nat→Addr}{kd K M I tb b:Nat}{G:List Nat}{R:Nat→Option Nat}{gv:Nat}(h:fC W0 E kd K M I tb b G w R n gv)(hI:1≤I)(hg:gv≤100000)(h6:dV E W0 6)(hv:∀k v,R k=some v→v<9218868437227405312)(m:Int)(k:Nat)(hm:k=(min (max m 0) (n:Int)).toNat):
  Calls Tryz.prog 9 #[pQ tb,.int .i64 m] w fun y w'=>∃v l l' G',y= .returned v∧abX W0 E kd K M I tb b G w w' R n (gv+1) k v l l' G':=by
 have HA:=qd (U3 h hI hg h6 (fun k v e=>Nat.lt_trans (hv k v e) (by decide)));have HV:=qd hv;have HE:=qd h.env.size
 have hM:n≤192:=by
  obtain⟨F,_,hM,_⟩:=h;have:=hM.least;omega
 clear h hg h6 hv hI;go_in;go_wp2_with fail;refine HA.out.mono ?_;rintro y w1 ⟨v,l,G1,rfl,hP⟩;have hlow:EL l:=fun p hp=>HV.out p.1 p.2 (by rw[←hP.get];exact(jU hP.qH).2 hp);have hln:=hP.len;have HS:=qd (abV hP.row (by omega) hlow);have HP:=qd hP;clear hP HA HV hlow;go_wp2_with fail;refine HS.out.mono ?_;rintro y w2 ⟨rfl,l',hperm,hsort,hrow,hmod⟩
 have hl':l'.length=n:=by rw[hperm.length_eq,hln]
 obtain⟨A5,c5,hv5⟩:=bE hrow;rw[hl']at hv5 hrow;subst hv5
 have hkn:k≤n:=by omega
 have hcap:n≤c5:=by
  rcases hrow.2 with⟨e,e2⟩|⟨g,cap,cur,e,_,_,e2,_⟩
  ·injection e with e1 e3 e4;omega
  ·injection e with e1 e3 e4;omega
 have hrow2:=XV hrow hkn;rw[aaj]at hrow2
 have hltk:(l'.take k).length=k:=by rw[List.length_take];omega
 have HC:=qd (show Calls Tryz.prog 22 #[.slice A5 k c5] w2 (fun y w'=>∃v',y= .returned v'∧w'.ownsRow w2.heap.size 43 2 v' k ((l'.take k).flatMap wC)∧Below w2.heap.size w2 w')from by
  have h9:=aak (l:=l'.take k) (by rw[hltk];exact hrow2) (by omega);rw[hltk]at h9
  exact h9)
 have HT2:=qd (show fC W0 E kd K M I tb b G1 w2 R n (gv+1)∧Mod G w w2 from by
  have h1:=HP.out.at_;have h2:=HP.out.mod;obtain⟨F1,b1,b2,b3,b4,b5⟩:=h1;have hap:∀q∈(Value.slice A5 n c5).ownBlock.toList,q∉G1:=HP.out.apart;have hbs:∀q∈(Value.slice A5 n c5).ownBlock.toList,w.heap.size≤q:=fun q hq=>(hrow.lt q (by simpa using hq)).1;have hEs:W0.heap.size≤w.heap.size:=HE.out
  refine⟨⟨F1,b1.mod hmod (fun hq=>hap tb hq (by rw[b3];simp)),b2.mod hmod (fun q hq=>⟨fun hf=>hap q hq (by rw[b3];exact List.mem_cons_of_mem _ hf),Nat.le_trans hEs (hbs q hq)⟩),b3,b4,b5⟩,h2.trans hmod (fun _ hk _=>hk) (fun q hq hl=>absurd (hbs q hq) (by omega))⟩)
 have HX:=qd (And.intro hperm hsort);clear hperm hsort hrow hmod hrow2 HS;subst hm;go_wp2_with fail;refine HC.out.mono ?_;rintro y w3 ⟨v',rfl,hr3,hb3⟩
 have HR:=qd (show abX W0 E kd K M I tb b G w w3 R n (gv+1) ((min (max m 0) (n:Int)).toNat) v' l l' G1 from⟨HP.out.qH,HP.out.get,HP.out.len,HX.out.1,HX.out.2,Ad hr3 HT2.out.2.size,HT2.out.1.below hb3,fun q hq hG=>by
  have h1:=(hr3.lt q (by simpa using hq)).1;have h2:=(HT2.out.1.fA q hG).1
  omega,HP.out.sub,HT2.out.2.then (Mod.of_below hb3 _)⟩)
 obtain⟨A9,c9,hv9⟩:=bE hr3;subst hv9;clear hr3 hb3 HC HT2 HP HX;go_wp2;refine bodyPost_ret (v:= .slice A9 ((min (max m 0) (n:Int)).toNat) c9) (by simp[results,Tryz.results9,go_sem]) rfl ⟨_,l,l',G1,rfl,HR.out⟩
end Go.Proofs.YtgkeameopnpinaaGreatDoor
