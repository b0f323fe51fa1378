/- FmapOrder: all pairs stand in the order of floats, each key once. -/
import Derived.Test.YtflbmgpmnocnbaaGreatDoorFmC
import Derived.Test.YtflbmgpmnocnbaaGreatDoorSqT
import Derived.Test.YtflbmgpmnocnbaaGreatDoorLaneP
namespace Go.Proofs.YtflbmgpmnocnbaaGreatDoor
set_option maxRecDepth 100000
set_option maxHeartbeats 4000000
open Go.RowKit AmC AmF
variable {w : World} {fs : List Nat} {j x : Nat}
theorem store_f64 (P:Program)(w:World)(a:Addr)(x:Nat)(m:Mode):(store a (.float .f64 x) m).run P w=stored P w a (.float .f64 x) m:=run_store P w a _ m rfl
attribute [local go_sem] store_f64
def fltV (x:Nat):Value:= .float .f64 x
theorem flt_cell {base nk:Nat}{B:Option Addr}(hR:Reads w base 1 B nk (fs.map fltV))(hj:fs[j]?=some x):∃g off,B=some ⟨g,off,none⟩∧g<base∧w.cell? ⟨g,off+j,none⟩=some (.float .f64 x):=by
 have hlt:j<fs.length:=(List.getElem?_eq_some_iff.1 hj).1
 have hn:0<nk:=by have:=hR.1;simp at this;omega
 obtain⟨g,off,h1,h2,h3⟩:=hR.2 hn;exact⟨g,off,h1,h2,h3 j _ (by rw[List.getElem?_map,hj];rfl)⟩
def fltI (i:Nat):Nat:=floatOfInt .f64 (i:Int)
theorem fltI_nan:∀i,i<101→nanB (fltI i)=false∧fltI i<18446744073709551616:=by decide+kernel
theorem fC_at {p:Nat×Nat}{q:Nat}:∀{l:List (Nat×Nat)} {i:Nat},l[i]?=some p→q<2→(l.flatMap fC)[i*2+q]?=some ((fC p)[q]!)
 | [],_,h,_=>by simp at h
 |x::l,0,h,hq=>by
  obtain rfl:=Option.some.inj h;rw[List.flatMap_cons,List.getElem?_append_left (by simp[fC];omega)]
  have:q=0∨q=1:=by omega
  rcases this with rfl|rfl<;>rfl
 |x::l,i+1,h,hq=>by
  rw[List.flatMap_cons,List.getElem?_append_right (by simp[fC];omega)];have:=fC_at (l:=l) (i:=i) h hq;rw[show(i+1)*2+q-(fC x).length=i*2+q by simp[fC];omega];exact this
theorem own_cell {bs n:Nat}{A:Option Addr}{c:Nat}{l:List (Nat×Nat)}{F:List Nat}(h:OwnAp bs w 38 2 (.slice A n c) n (l.flatMap fC) F)(hn:0<n):∃g off,A=some ⟨g,off,none⟩∧∀i q,l[i]?=some q→w.cell? ⟨g,off+i*2,none⟩=some (.float .f64 (kback q.1))∧w.cell? ⟨g,off+i*2+1,none⟩=some (.float .f64 q.2):=by
 obtain⟨g,off,hA,hgl,hc⟩:=(Reads.of_own h.row).2 hn;exact⟨g,off,hA,fun i q hq=>⟨hc (i*2+0) _ (fC_at hq (by omega)),hc (i*2+1) _ (fC_at hq (by omega))⟩⟩
theorem run_int_float28 (n:Int)(W:World):(convert 3 31 (.int .i64 n)).run Tryz.prog W= .ok (.float .f64 (floatOfInt .f64 n)) W:=
 run_convert_int_float W 3 31 .i64 .f64 n (by rw[Tryz.underlying3];rfl) Tryz.underlying31
theorem any_take (h:fs[j]?=some x):(fs.take (j+1)).any nanB=((fs.take j).any nanB||nanB x):=by
 rw[List.take_add_one,h,List.any_append];simp
theorem take_snocN (h:fs[j]?=some x):fs.take (j+1)=fs.take j++[x]:=by
 rw[List.take_add_one,h];rfl
theorem less_u64T (x y:Int)(h:x<y)(w:World):Calls Tryz.prog 26 #[.int .u64 x,.int .u64 y] w fun e w'=>e= .returned (.bool true)∧w=w':=by
 have HN:=qd (fun(z:Int) (W:World)=>isNaN_u64 z W);go_in;go_wp2_with fail;refine(HN.out _ _).mono ?_;rintro e wq ⟨rfl,rfl⟩;go_wp2;go_ret;exact⟨by simp,rfl⟩
theorem order_Less (a b:Nat)(ha:a<18446744073709551616)(hb:b<18446744073709551616)(hlt:okey a<okey b)(w:World):Calls Tryz.prog 10 #[.float .f64 a,.float .f64 b] w fun y w'=>y= .returned (.bool true)∧w=w':=by
 have HA:=qd (fun(W:World)=>order_Key a ha W);have HB:=qd (fun(W:World)=>order_Key b hb W);have HN:=qd (fun(z:Int) (W:World)=>isNaN_u64 z W)
 have hlt':(okey a:Int)<(okey b:Int):=by omega
 have HL:=qd (fun(W:World)=>less_u64T (okey a:Int) (okey b:Int) hlt' W);go_in;go_wp2_with fail;refine(HA.out _).mono ?_;rintro y wq ⟨rfl,rfl⟩;go_wp2_with fail;refine(HB.out _).mono ?_;rintro y wq ⟨rfl,rfl⟩;go_wp2_with fail;refine(HL.out _).mono ?_;rintro y wq ⟨rfl,rfl⟩;go_wp2;go_ret;exact⟨rfl,rfl⟩
theorem order_Same (a:Nat)(w:World):Calls Tryz.prog 13 #[.float .f64 a,.float .f64 a] w fun y w'=>y= .returned (.bool true)∧w=w':=by
 have HA:=qd (fun(W:World)=>order_Bits a W);go_in;go_wp2_with fail;refine(HA.out _).mono ?_;rintro y wq ⟨rfl,rfl⟩;go_wp2_with fail;refine(HA.out _).mono ?_;rintro y wq ⟨rfl,rfl⟩;go_wp2;go_ret;exact⟨by simp,rfl⟩
theorem law_order28 {E:Nat→Addr}(B:Option Addr)(nk d:Nat)(fs:List Nat)(w:World)(hE:Env w E w)(h6:ErrAt E w 6)(h12:ErrAt E w 12)(hl:fs.length=nk)(hfs:∀x∈fs,x<18446744073709551616)(hR:Reads w w.heap.size 1 B nk (fs.map fltV)):Calls Tryz.prog 3 #[.slice B nk d] w fun y w'=>y= .returned (.bool true)∧Below w.heap.size w w':=by
 have HE:=qd hE;have HR:=qd hR;have HFs:=qd hfs;have HLk:=qd hl;have H6:=qd h6;have H12:=qd h12;have HAl:=qd (law28_alive hE);clear hE hR hfs hl h6 h12;go_in;go_wp2_with fail;refine HAl.out.mono ?_;rintro y w0 ⟨rfl,hb0⟩;have HBa:=qd hb0;have hn:=fm_New (HE.out.next hb0) 2 150 1 (by decide) 2 150 1 ⟨by decide,by decide,rfl,rfl,rfl⟩ (by decide);unfold cfgV at hn;have HN:=qd hn;clear hn hb0 HAl;by_cases hlong:100<nk
 ·have hlong':(100:Int)<(nk:Int):=by omega
  go_wp2;go_ret;exact⟨rfl,HBa.out⟩
 have hlong':¬(100:Int)<(nk:Int):=by omega
 go_wp2_with fail;refine HN.out.mono ?_;rintro y w1 ⟨fb,b0,G1,rfl,hA,hG,hb⟩;have HA:=qd hA;have HG:=qd (show∀q∈G1,w.heap.size≤q from fun q hq=>Nat.le_trans HBa.out.size (hG q hq));have HB:=qd (below2 HBa.out hb);have HP:=qd PutSt.nil;clear hA hG hb HN HBa;go_wp2;go_loopw [5,32] (fun vn vi wr=>∃(j:Nat) (G:List Nat) (R:Nat→Option Nat) (n:Nat),j≤nk∧vi= .int .i64 (j:Int)∧vn= .bool ((fs.take j).any nanB)∧Hid (FmAt w E 2 150 1 fb b0 G wr R n [] 0)∧Hid (PutSt (fs.take j) R n)∧Hid (∀q∈G,w.heap.size≤q)∧Hid (Below w.heap.size w wr)) (fun _ vi _=>nk-(intOf vi).toNat)
 case atStart=>exact⟨0,_,_,_,by omega,rfl,rfl,HA,HP,HG,HB⟩
 case round=>
  clear HA HP HG HB;obtain⟨j,G,R,n,hj,rfl,rfl,HA,HP,HG,HB⟩:=hrel;by_cases hlt:j<nk
  ·have hlt':(j:Int)<(nk:Int):=by omega
   have hj0:(0:Int)≤(j:Int):=by omega
   have hwj:IntKind.i64.wrap ((j:Int)+1)=((j+1:Nat):Int):=by rw[IntKind.wrap_i64];omega
   obtain⟨x,hx⟩:∃x,fs[j]?=some x:=⟨_,List.getElem?_eq_getElem (by rw[HLk.out];exact hlt)⟩;obtain⟨g,off,hBv,hgl,m0⟩:=flt_cell HR.out hx;have r0:=(World.cell?_of_block (HB.out.block g hgl)).trans m0;have hx64:=HFs.out x (List.mem_of_getElem? hx);obtain⟨hfn,hf64⟩:=fltI_nan j (by omega);have hcv:=run_int_float28 (j:Int)
   have hn150:n<150:=by have:=HP.out.few;rw[List.length_take]at this;omega
   have hpu:=fm_Put HA.out x (fltI j) hx64 hf64 hn150;unfold fltI at hpu;have HPu:=qd hpu;have HJ:=qd (Nat.succ_le_of_lt hlt);have HMe:=qd (show nk-(intOf (.int .i64 ((j:Int)+1))).toNat<nk-(intOf (.int .i64 (j:Int))).toNat from by show nk-((j:Int)+1).toNat<nk-(j:Int).toNat;omega);have HP2:=qd (show PutSt (fs.take (j+1)) (fupd R (okey x) (some (formW (fltI j)))) (upN (R (okey x)) n)from by rw[take_snocN hx];exact HP.out.snoc (by rw[nan_form];exact hfn));have HAn:=qd (any_take hx);have HNs:=qd (neq_self x);have HB0:=qd HB.out.size;subst hBv;clear hpu hfn hf64 hn150 hx m0 hx64;go_wp2_with fail;refine HPu.out.mono ?_;rintro y w5 ⟨rfl,G',hA5,hs5,hm5⟩;have HA5:=qd hA5;have HB5:=qd (HB.out.trans (hm5.below HG.out HB.out.size));have HG5:=qd (show∀q∈G',w.heap.size≤q from fun q hq=>(hs5 q hq).elim (HG.out q) (fun k=>Nat.le_trans HB0.out k));unfold fltI at HP2;obtain⟨b,hb⟩:∃b,b=(fs.take j).any nanB:=⟨_,rfl⟩;rw[←hb]at HAn⊢;clear hA5 hs5 hm5 HPu HA HB HG HP r0 hcv hb
   cases b with
   |true=>
    go_wp2;go_roundw
    all_goals first|exact⟨⟨j+1,G',_,_,HJ.out,rfl,by rw[HAn.out];rfl,HA5,HP2,HG5,HB5⟩,HMe.out⟩|exact⟨j+1,G',_,_,HJ.out,rfl,by rw[HAn.out];rfl,HA5,HP2,HG5,HB5⟩|exact HMe.out
   |false=>
    go_wp2;go_roundw
    all_goals first|exact⟨⟨j+1,G',_,_,HJ.out,rfl,by rw[HAn.out,Bool.false_or,←HNs.out],HA5,HP2,HG5,HB5⟩,HMe.out⟩|exact⟨j+1,G',_,_,HJ.out,rfl,by rw[HAn.out,Bool.false_or,←HNs.out],HA5,HP2,HG5,HB5⟩|exact HMe.out
  ·obtain rfl:j=nk:=by omega
   have hlt':¬(j:Int)<(j:Int):=by omega
   have hft:fs.take j=fs:=List.take_of_length_le (by have:=HLk.out;omega);rw[hft];rw[hft]at HP;obtain⟨bn,hbn⟩:∃bn,bn=fs.any nanB:=⟨_,rfl⟩;rw[←hbn];have HBn:=qd hbn;have hok:=HP.out.keys HFs.out
   have hn192:n≤192:=by have:=HP.out.few;have:=HLk.out;omega
   have HPa:=qd (fm_Pairs HA.out (by decide) (by omega) H6.out hok hn192);have HOk:=qd (And.intro hok hn192);have HB0:=qd HB.out.size;obtain⟨bs,hbs⟩:∃bs,bs=wr.heap.size:=⟨_,rfl⟩;have HBs:=qd (show w.heap.size≤bs from by rw[hbs];exact HB.out.size);rw[←hbs]at HPa;clear hft hbn hok hn192 hj hlt hbs;go_wp2_with fail;refine HPa.out.mono ?_;rintro y w5 ⟨v,l,G',rfl,hrw,ho,hA5,hs5,hm5⟩;obtain⟨A4,c4,hv4⟩:=own_form ho.row;subst hv4
   have hll:l.length≤192:=by rw[hrw.len];exact HOk.out.2
   have hlen:=fm_Len hA5;rw[←hrw.len]at hlen;have HLn:=qd hlen;have HRw:=qd hrw;have HO5:=qd ho;have HA5:=qd hA5;have HB5:=qd (HB.out.trans (hm5.below HG.out HB.out.size));have HG5:=qd (show∀q∈G',w.heap.size≤q from fun q hq=>(hs5 q hq).elim (HG.out q) (fun k=>Nat.le_trans HBs.out k));clear hA5 hs5 hm5 HPa HA HB HG hlen hrw ho;go_wp2_with fail;refine HLn.out.mono ?_;rintro y wq ⟨rfl,rfl⟩;clear HLn
   have hwl:IntKind.i64.wrap ((l.length:Int)-1)=(l.length:Int)-1:=by rw[IntKind.wrap_i64];omega
   go_wp2;go_loopw [66] (fun vi wr=>∃(i:Nat) (G:List Nat),i≤l.length∧vi= .int .i64 (i:Int)∧Hid (FmAt w E 2 150 1 fb b0 G wr R n [] 1∧OwnAp bs wr 38 2 (.slice A4 l.length c4) l.length (l.flatMap fC) G)∧Hid (∀q∈G,w.heap.size≤q)∧Hid (Below w.heap.size w wr)) (fun vi _=>l.length-(intOf vi).toNat)
   case atStart=>exact⟨0,_,by omega,rfl,qd (And.intro HA5.out HO5.out),HG5,HB5⟩
   case round=>
    clear HA5 HO5 HG5 HB5;obtain⟨i,G,hi,rfl,HL,HG,HB⟩:=hrel;by_cases hlt:i<l.length
    ·have hlt':(i:Int)<(l.length:Int):=by omega
     have hi0:(0:Int)≤(i:Int):=by omega
     obtain⟨q,hq⟩:∃q,l[i]?=some q:=⟨_,List.getElem?_eq_getElem hlt⟩;obtain⟨z,hz,hzk,hkb,hRq,hvn,hnn⟩:=raw_at HP.out HFs.out HRw.out hq;rw[←HBn.out]at hnn;obtain⟨g,off,hA,hc⟩:=own_cell HL.out.2 (by omega);obtain⟨r0,r1⟩:=hc i q hq;obtain⟨kz,hkz⟩:∃kz,kz=kback q.1:=⟨_,rfl⟩;rw[←hkz]at r0 hkb
     have hk64:kz<18446744073709551616:=by rw[hkb];exact formW_lt hz
     have hok:okey kz=q.1:=by rw[hkb,hzk];exact(okey_inj (formW_lt hz) hz).2 (formW_form z)
     rw[←hkb]at hnn;have HGd:=qd (fun(W:World) (hW:Below wr.heap.size wr W)=>by have:=fm_Get (HL.out.1.below hW) kz hk64;rw[hok,hRq]at this;exact(this:Calls Tryz.prog 9 #[.pointer (some ⟨fb,0,none⟩),.float .f64 kz] W (fun y w'=>y= .returned (.tuple #[.float .f64 q.2,.bool true])∧FmTo w E 2 150 1 fb b0 G W w' R n [] 1)))
     have q1:(FloatKind.f64.format.order q.2 q.2 !=some .eq)=false:=by rw[neq_self];exact hvn
     have hq2:(FloatKind.f64.format.order kz kz !=some .eq)=(bn && decide (i+1=l.length)):=by rw[neq_self];exact hnn
     have hq3:(FloatKind.f64.format.order kz 0==some .eq)=decide (kz=0):=by
      cases hn:nanB kz with
      |true=>
       rw[none_key (.inl hn)];symm;rw[show(none==some Ordering.eq)=false from rfl,decide_eq_false_iff_not];intro h;rw[h]at hn;cases hn
      |false=>
       rw[eq_zero_f hn,Bool.eq_iff_iff,decide_eq_true_iff,decide_eq_true_iff];constructor
       ·intro h;rw[hkb]at h⊢;have h2:formW (formW z)=formW z:=formW_form z;by_cases hnz:nanB (formW z)=true
        ·rw[←hkb,hn]at hnz;cases hnz
        ·have h3:formW (formW z)=0:=by
          have h4:nanB (formW z)≠true:=hnz;show(if nanB (formW z)then 9221120237041090560 else if rung (formW z)=0 then 0 else formW z)=0;rw[if_neg h4,if_pos h]
         rw[←h2];exact h3
       ·intro h;rw[h];rfl
     have HPr:=qd (show 0<i→∃q',l[i-1]?=some q'∧kback q'.1<18446744073709551616∧okey (kback q'.1)<okey kz from fun h0=>by
      obtain⟨q',hq'⟩:∃q',l[i-1]?=some q':=⟨_,List.getElem?_eq_getElem (by omega)⟩;obtain⟨z',hz',hzk',hkb',_⟩:=raw_at HP.out HFs.out HRw.out hq';refine⟨q',hq',by rw[hkb'];exact formW_lt hz', ?_⟩;rw[hok,hkb',(okey_inj (formW_lt hz') hz').2 (formW_form z'),←hzk'];obtain⟨h1,h2⟩:=List.getElem?_eq_some_iff.1 hq';obtain⟨h3,h4⟩:=List.getElem?_eq_some_iff.1 hq;have:=List.pairwise_iff_getElem.1 HRw.out.asc (i-1) i h1 h3 (by omega);rw[h2,h4]at this
      exact this)
     have HK64:=qd hk64;have HQ:=qd (And.intro hq2 hq3);have HJ:=qd (Nat.succ_le_of_lt hlt);have HMe:=qd (show l.length-(intOf (.int .i64 ((i:Int)+1))).toNat<l.length-(intOf (.int .i64 (i:Int))).toNat from by show l.length-((i:Int)+1).toNat<l.length-(i:Int).toNat;omega)
     have hwi:IntKind.i64.wrap ((i:Int)+1)=((i+1:Nat):Int):=by rw[IntKind.wrap_i64];omega
     have HB0:=qd HB.out.size;subst hA;clear hc hq hz hzk hkb hRq hvn hnn hok hq2 hq3 hk64 hkz hi;go_upto_region 22 with fail;refine nameB 38 #[.float .f64 kz,.float .f64 q.2] ?_;rintro w6 ⟨hB6,hb6⟩;have HXg:=qd (show wr.heap.size∉G from fun hg=>Nat.lt_irrefl _ (HL.out.1.lts _ hg).1);have HGe:=qd (HGd.out w6 hb6);have HL6:=qd (HL.out.2.below hb6);have HB6:=qd (below2 HB.out hb6);have HS6:=qd hb6.size;obtain⟨bx,hbx⟩:∃bx,bx=wr.heap.size:=⟨_,rfl⟩;rw[←hbx]at hB6 HXg⊢;have HX:=qd hB6;have x0:=hB6.cell 0;simp only[gl]at x0;clear hB6 hb6 hbx HGd HL HB r0 r1;go_wp2_with fail;refine HGe.out.mono ?_;rintro y w7 ⟨rfl,G',hA7,hs7,hm7⟩;have HL7:=qd (And.intro hA7 (HL6.out.to hs7 hm7));have HB7:=qd (HB6.out.trans (hm7.below HG.out HB6.out.size));have HG7:=qd (show∀q∈G',w.heap.size≤q from fun q hq=>(hs7 q hq).elim (HG.out q) (fun k=>Nat.le_trans HB6.out.size k));have hX7:=HX.out.mod hm7 HXg.out;obtain⟨x0,x1⟩:=hX7.c2;obtain⟨g2,off2,hA2,hc7⟩:=own_cell HL7.out.2 (by omega)
     obtain⟨rfl,rfl⟩:g=g2∧off=off2:=by
      injection hA2 with hA2
      injection hA2 with h1 h2
      exact⟨h1,h2⟩
     clear hA7 hs7 hm7 hX7 HGe HL6 HB6 HX HG hA2;by_cases hip:0<i
     ·have hip':(0:Int)<(i:Int):=by omega
      have hwm:IntKind.i64.wrap ((i:Int)-1)=((i-1:Nat):Int):=by rw[IntKind.wrap_i64];omega
      obtain⟨q',hq',hk1,hkk⟩:=HPr.out hip;have r2:=(hc7 (i-1) q' hq').1
      have him:((i-1:Nat):Int)<(l.length:Int):=by omega
      have him0:(0:Int)≤((i-1:Nat):Int):=by omega
      have HLs:=qd (fun(W:World)=>order_Less (kback q'.1) kz hk1 HK64.out hkk W);clear hc7 hq' hk1 hkk
      cases bn with
      |false=>
       have q2:(FloatKind.f64.format.order kz kz !=some .eq)=false:=by rw[HQ.out.1];rfl
       by_cases hz0:kz=0
       ·have q3:(FloatKind.f64.format.order kz 0==some .eq)=true:=by rw[HQ.out.2];simpa using hz0
        have HSg:=qd (fun(W:World)=>(by have:=math_Signbit kz HK64.out W;rw[show sgn kz=false from by rw[hz0];decide]at this;exact this:Calls Tryz.prog 11 #[.float .f64 kz] W fun e w'=>e= .returned (.bool false)∧W=w'));clear hz0;go_upto_region 23 with fail;refine rT (fun(w':World)=>w'.cell? ⟨bx,0,none⟩=some (.float .f64 kz)∧w'.cell? ⟨bx,1,none⟩=some (.float .f64 q.2)∧w'.cell? ⟨g,off+(i-1)*2,none⟩=some (.float .f64 (kback q'.1))) [] ?_;have hHeld:=(⟨x0,x1,r2⟩:_∧_∧_);refine tW 0 (some 78) (.bool true) rfl hHeld ?_
        try simp only[pt]
        refine tW 1 (some 79) (.bool false) rfl hHeld ?_
        try simp only[pt]
        refine tW 2 (some 80) (.bool false) rfl hHeld ?_
        try simp only[pt]
        refine vW 3 rfl ?_;refine vW 4 rfl ?_;refine vT 5 rfl ?_;refine tW 6 (some 84) (.bool false) rfl hHeld ?_
        try simp only[pt]
        refine tW 7 (some 85) (.bool false) rfl hHeld ?_
        try simp only[pt]
        refine tW 8 (some 86) (.bool false) rfl hHeld ?_
        try simp only[pt]
        refine vW 9 rfl ?_;refine tW 10 (some 88) (.bool true) rfl hHeld ?_
        try simp only[pt]
        refine tW 11 (some 89) (.bool true) rfl hHeld ?_
        try simp only[pt]
        refine vW 12 rfl ?_;refine vW 13 rfl ?_;refine vW 14 rfl ?_;refine vW 15 rfl ?_;refine vW 16 rfl ?_;refine vT 17 rfl ?_;refine vW 18 rfl ?_;refine vT 19 rfl ?_;refine nT 20 rfl fun K hK=> ?_;go_simp;refine(HLs.out _).mono ?_;rintro y wq ⟨rfl,rfl⟩;go_wp2_with fail;have hHeld:=(⟨x0,x1,r2⟩:_∧_∧_);refine kO hK ?_;clear hK K;refine tW 21 (some 99) (.bool false) rfl hHeld ?_
        try simp only[pt]
        refine tW 22 (some 100) (.bool false) rfl hHeld ?_
        try simp only[pt]
        refine tW 23 (some 101) (.bool false) rfl hHeld ?_
        try simp only[pt]
        refine tW 24 (some 102) (.bool false) rfl hHeld ?_
        try simp only[pt]
        refine vW 25 rfl ?_;refine vT 26 rfl ?_;refine vW 27 rfl ?_;refine vT 28 rfl ?_;refine tW 29 (some 107) (.bool false) rfl hHeld ?_
        try simp only[pt]
        refine tW 30 (some 108) (.bool false) rfl hHeld ?_
        try simp only[pt]
        refine tW 31 (some 109) (.bool false) rfl hHeld ?_
        try simp only[pt]
        refine vU 32 rfl ?_;refine vU 33 rfl ?_;refine vU 34 rfl ?_;refine vU 35 rfl ?_;refine vU 36 rfl ?_;refine tW 37 (some 115) (.bool false) rfl hHeld ?_
        try simp only[pt]
        refine tW 38 (some 116) (.bool false) rfl hHeld ?_
        try simp only[pt]
        refine tW 39 (some 117) (.bool false) rfl hHeld ?_
        try simp only[pt]
        refine tW 40 (some 118) (.bool false) rfl hHeld ?_
        try simp only[pt]
        refine vW 41 rfl ?_;refine vT 42 rfl ?_;refine tW 43 (some 121) (.bool true) rfl hHeld ?_
        try simp only[pt]
        refine tW 44 (some 122) (.bool true) rfl hHeld ?_
        try simp only[pt]
        refine vW 45 rfl ?_;refine vT 46 rfl ?_;refine nT 47 rfl fun K hK=> ?_;go_simp;refine(HSg.out _).mono ?_;rintro y wq ⟨rfl,rfl⟩;go_wp2_with fail;have hHeld:=(⟨x0,x1,r2⟩:_∧_∧_);refine kO hK ?_;clear hK K;refine tW 48 (some 126) (.bool false) rfl hHeld ?_
        try simp only[pt]
        refine tW 49 (some 127) (.bool false) rfl hHeld ?_
        try simp only[pt]
        refine doneT (by kernel_rfl) ?_ _;have HL8:=qd (And.intro (HL7.out.1.below (Below.refl w7.heap.size w7).drew) (HL7.out.2.below (Below.refl w7.heap.size w7).drew));have HB8:=qd HB7.out.drew;clear HL7 HB7;go_wp2;go_roundw
        all_goals first|exact⟨⟨i+1,G',HJ.out,rfl,HL8,HG7,HB8⟩,HMe.out⟩|exact⟨i+1,G',HJ.out,rfl,HL8,HG7,HB8⟩|exact HMe.out
       ·have q3:(FloatKind.f64.format.order kz 0==some .eq)=false:=by rw[HQ.out.2];simpa using hz0
        clear hz0;go_upto_region 23 with fail;refine rT (fun(w':World)=>w'.cell? ⟨bx,0,none⟩=some (.float .f64 kz)∧w'.cell? ⟨bx,1,none⟩=some (.float .f64 q.2)∧w'.cell? ⟨g,off+(i-1)*2,none⟩=some (.float .f64 (kback q'.1))) [] ?_;have hHeld:=(⟨x0,x1,r2⟩:_∧_∧_);refine tW 0 (some 78) (.bool true) rfl hHeld ?_
        try simp only[pt]
        refine tW 1 (some 79) (.bool false) rfl hHeld ?_
        try simp only[pt]
        refine tW 2 (some 80) (.bool false) rfl hHeld ?_
        try simp only[pt]
        refine vW 3 rfl ?_;refine vW 4 rfl ?_;refine vT 5 rfl ?_;refine tW 6 (some 84) (.bool false) rfl hHeld ?_
        try simp only[pt]
        refine tW 7 (some 85) (.bool false) rfl hHeld ?_
        try simp only[pt]
        refine tW 8 (some 86) (.bool false) rfl hHeld ?_
        try simp only[pt]
        refine vW 9 rfl ?_;refine tW 10 (some 88) (.bool true) rfl hHeld ?_
        try simp only[pt]
        refine tW 11 (some 89) (.bool true) rfl hHeld ?_
        try simp only[pt]
        refine vW 12 rfl ?_;refine vW 13 rfl ?_;refine vW 14 rfl ?_;refine vW 15 rfl ?_;refine vW 16 rfl ?_;refine vT 17 rfl ?_;refine vW 18 rfl ?_;refine vT 19 rfl ?_;refine nT 20 rfl fun K hK=> ?_;go_simp;refine(HLs.out _).mono ?_;rintro y wq ⟨rfl,rfl⟩;go_wp2_with fail;have hHeld:=(⟨x0,x1,r2⟩:_∧_∧_);refine kO hK ?_;clear hK K;refine tW 21 (some 99) (.bool false) rfl hHeld ?_
        try simp only[pt]
        refine tW 22 (some 100) (.bool false) rfl hHeld ?_
        try simp only[pt]
        refine tW 23 (some 101) (.bool false) rfl hHeld ?_
        try simp only[pt]
        refine tW 24 (some 102) (.bool false) rfl hHeld ?_
        try simp only[pt]
        refine vW 25 rfl ?_;refine vT 26 rfl ?_;refine vW 27 rfl ?_;refine vT 28 rfl ?_;refine tW 29 (some 107) (.bool false) rfl hHeld ?_
        try simp only[pt]
        refine tW 30 (some 108) (.bool false) rfl hHeld ?_
        try simp only[pt]
        refine tW 31 (some 109) (.bool false) rfl hHeld ?_
        try simp only[pt]
        refine vU 32 rfl ?_;refine vU 33 rfl ?_;refine vU 34 rfl ?_;refine vU 35 rfl ?_;refine vU 36 rfl ?_;refine tW 37 (some 115) (.bool false) rfl hHeld ?_
        try simp only[pt]
        refine tW 38 (some 116) (.bool false) rfl hHeld ?_
        try simp only[pt]
        refine tW 39 (some 117) (.bool false) rfl hHeld ?_
        try simp only[pt]
        refine tW 40 (some 118) (.bool false) rfl hHeld ?_
        try simp only[pt]
        refine vW 41 rfl ?_;refine vT 42 rfl ?_;refine tW 43 (some 121) (.bool false) rfl hHeld ?_
        try simp only[pt]
        refine tW 44 (some 122) (.bool false) rfl hHeld ?_
        try simp only[pt]
        refine vU 45 rfl ?_;refine vU 46 rfl ?_;refine vU 47 rfl ?_;refine tW 48 (some 126) (.bool false) rfl hHeld ?_
        try simp only[pt]
        refine tW 49 (some 127) (.bool false) rfl hHeld ?_
        try simp only[pt]
        refine doneT (by kernel_rfl) ?_ _;have HL8:=qd (And.intro (HL7.out.1.below (Below.refl w7.heap.size w7).drew) (HL7.out.2.below (Below.refl w7.heap.size w7).drew));have HB8:=qd HB7.out.drew;clear HL7 HB7;go_wp2;go_roundw
        all_goals first|exact⟨⟨i+1,G',HJ.out,rfl,HL8,HG7,HB8⟩,HMe.out⟩|exact⟨i+1,G',HJ.out,rfl,HL8,HG7,HB8⟩|exact HMe.out
      |true=>
       by_cases hla:i+1=l.length
       ·have q2:(FloatKind.f64.format.order kz kz !=some .eq)=true:=by rw[HQ.out.1];simpa using hla
        have hie:(i:Int)=(l.length:Int)-1:=by omega
        have hie':((i:Int)==(l.length:Int)-1)=true:=by simpa using hie
        have q3:(FloatKind.f64.format.order kz 0==some .eq)=false:=by
         rw[HQ.out.2,decide_eq_false_iff_not];intro h;rw[h]at q2;exact absurd q2 (by decide)
        clear hla hie;go_upto_region 23 with fail;refine rT (fun(w':World)=>w'.cell? ⟨bx,0,none⟩=some (.float .f64 kz)∧w'.cell? ⟨bx,1,none⟩=some (.float .f64 q.2)∧w'.cell? ⟨g,off+(i-1)*2,none⟩=some (.float .f64 (kback q'.1))) [] ?_;have hHeld:=(⟨x0,x1,r2⟩:_∧_∧_);refine tW 0 (some 78) (.bool true) rfl hHeld ?_
        try simp only[pt]
        refine tW 1 (some 79) (.bool false) rfl hHeld ?_
        try simp only[pt]
        refine tW 2 (some 80) (.bool false) rfl hHeld ?_
        try simp only[pt]
        refine vW 3 rfl ?_;refine vW 4 rfl ?_;refine vT 5 rfl ?_;refine tW 6 (some 84) (.bool false) rfl hHeld ?_
        try simp only[pt]
        refine tW 7 (some 85) (.bool false) rfl hHeld ?_
        try simp only[pt]
        refine tW 8 (some 86) (.bool false) rfl hHeld ?_
        try simp only[pt]
        refine vW 9 rfl ?_;refine tW 10 (some 88) (.bool true) rfl hHeld ?_
        try simp only[pt]
        refine tW 11 (some 89) (.bool true) rfl hHeld ?_
        try simp only[pt]
        refine vW 12 rfl ?_;refine vW 13 rfl ?_;refine vW 14 rfl ?_;refine vW 15 rfl ?_;refine vW 16 rfl ?_;refine vT 17 rfl ?_;refine vW 18 rfl ?_;refine vT 19 rfl ?_;refine nT 20 rfl fun K hK=> ?_;go_simp;refine(HLs.out _).mono ?_;rintro y wq ⟨rfl,rfl⟩;go_wp2_with fail;have hHeld:=(⟨x0,x1,r2⟩:_∧_∧_);refine kO hK ?_;clear hK K;refine tW 21 (some 99) (.bool false) rfl hHeld ?_
        try simp only[pt]
        refine tW 22 (some 100) (.bool false) rfl hHeld ?_
        try simp only[pt]
        refine tW 23 (some 101) (.bool false) rfl hHeld ?_
        try simp only[pt]
        refine tW 24 (some 102) (.bool false) rfl hHeld ?_
        try simp only[pt]
        refine vW 25 rfl ?_;refine vT 26 rfl ?_;refine vW 27 rfl ?_;refine vT 28 rfl ?_;refine tW 29 (some 107) (.bool true) rfl hHeld ?_
        try simp only[pt]
        refine tW 30 (some 108) (.bool true) rfl hHeld ?_
        try simp only[pt]
        refine tW 31 (some 109) (.bool true) rfl hHeld ?_
        try simp only[pt]
        refine vW 32 rfl ?_;refine vW 33 rfl ?_;refine vW 34 rfl ?_;refine vW 35 rfl ?_;refine tW 36 (some 114) (.bool true) rfl hHeld ?_
        try simp only[pt]
        refine tW 37 (some 115) (.bool true) rfl hHeld ?_
        try simp only[pt]
        refine tW 38 (some 116) (.bool false) rfl hHeld ?_
        try simp only[pt]
        refine tW 39 (some 117) (.bool false) rfl hHeld ?_
        try simp only[pt]
        refine tW 40 (some 118) (.bool false) rfl hHeld ?_
        try simp only[pt]
        refine vW 41 rfl ?_;refine vT 42 rfl ?_;refine tW 43 (some 121) (.bool false) rfl hHeld ?_
        try simp only[pt]
        refine tW 44 (some 122) (.bool false) rfl hHeld ?_
        try simp only[pt]
        refine vU 45 rfl ?_;refine vU 46 rfl ?_;refine vU 47 rfl ?_;refine tW 48 (some 126) (.bool false) rfl hHeld ?_
        try simp only[pt]
        refine tW 49 (some 127) (.bool false) rfl hHeld ?_
        try simp only[pt]
        refine doneT (by kernel_rfl) ?_ _;have HL8:=qd (And.intro (HL7.out.1.below (Below.refl w7.heap.size w7).drew) (HL7.out.2.below (Below.refl w7.heap.size w7).drew));have HB8:=qd HB7.out.drew;clear HL7 HB7;go_wp2;go_roundw
        all_goals first|exact⟨⟨i+1,G',HJ.out,rfl,HL8,HG7,HB8⟩,HMe.out⟩|exact⟨i+1,G',HJ.out,rfl,HL8,HG7,HB8⟩|exact HMe.out
       ·have q2:(FloatKind.f64.format.order kz kz !=some .eq)=false:=by rw[HQ.out.1];simpa using hla
        have hie:¬(i:Int)=(l.length:Int)-1:=by omega
        clear hla;by_cases hz0:kz=0
        ·have q3:(FloatKind.f64.format.order kz 0==some .eq)=true:=by rw[HQ.out.2];simpa using hz0
         have HSg:=qd (fun(W:World)=>(by have:=math_Signbit kz HK64.out W;rw[show sgn kz=false from by rw[hz0];decide]at this;exact this:Calls Tryz.prog 11 #[.float .f64 kz] W fun e w'=>e= .returned (.bool false)∧W=w'));clear hz0;go_upto_region 23 with fail;refine rT (fun(w':World)=>w'.cell? ⟨bx,0,none⟩=some (.float .f64 kz)∧w'.cell? ⟨bx,1,none⟩=some (.float .f64 q.2)∧w'.cell? ⟨g,off+(i-1)*2,none⟩=some (.float .f64 (kback q'.1))) [] ?_;have hHeld:=(⟨x0,x1,r2⟩:_∧_∧_);refine tW 0 (some 78) (.bool true) rfl hHeld ?_
         try simp only[pt]
         refine tW 1 (some 79) (.bool false) rfl hHeld ?_
         try simp only[pt]
         refine tW 2 (some 80) (.bool false) rfl hHeld ?_
         try simp only[pt]
         refine vW 3 rfl ?_;refine vW 4 rfl ?_;refine vT 5 rfl ?_;refine tW 6 (some 84) (.bool false) rfl hHeld ?_
         try simp only[pt]
         refine tW 7 (some 85) (.bool false) rfl hHeld ?_
         try simp only[pt]
         refine tW 8 (some 86) (.bool false) rfl hHeld ?_
         try simp only[pt]
         refine vW 9 rfl ?_;refine tW 10 (some 88) (.bool true) rfl hHeld ?_
         try simp only[pt]
         refine tW 11 (some 89) (.bool true) rfl hHeld ?_
         try simp only[pt]
         refine vW 12 rfl ?_;refine vW 13 rfl ?_;refine vW 14 rfl ?_;refine vW 15 rfl ?_;refine vW 16 rfl ?_;refine vT 17 rfl ?_;refine vW 18 rfl ?_;refine vT 19 rfl ?_;refine nT 20 rfl fun K hK=> ?_;go_simp;refine(HLs.out _).mono ?_;rintro y wq ⟨rfl,rfl⟩;go_wp2_with fail;have hHeld:=(⟨x0,x1,r2⟩:_∧_∧_);refine kO hK ?_;clear hK K;refine tW 21 (some 99) (.bool false) rfl hHeld ?_
         try simp only[pt]
         refine tW 22 (some 100) (.bool false) rfl hHeld ?_
         try simp only[pt]
         refine tW 23 (some 101) (.bool false) rfl hHeld ?_
         try simp only[pt]
         refine tW 24 (some 102) (.bool false) rfl hHeld ?_
         try simp only[pt]
         refine vW 25 rfl ?_;refine vT 26 rfl ?_;refine vW 27 rfl ?_;refine vT 28 rfl ?_;refine tW 29 (some 107) (.bool false) rfl hHeld ?_
         try simp only[pt]
         refine tW 30 (some 108) (.bool true) rfl hHeld ?_
         try simp only[pt]
         refine tW 31 (some 109) (.bool true) rfl hHeld ?_
         try simp only[pt]
         refine vW 32 rfl ?_;refine vW 33 rfl ?_;refine vW 34 rfl ?_;refine vW 35 rfl ?_;refine tW 36 (some 114) (.bool false) rfl hHeld ?_
         try simp only[pt]
         refine tW 37 (some 115) (.bool false) rfl hHeld ?_
         try simp only[pt]
         refine tW 38 (some 116) (.bool false) rfl hHeld ?_
         try simp only[pt]
         refine tW 39 (some 117) (.bool false) rfl hHeld ?_
         try simp only[pt]
         refine tW 40 (some 118) (.bool false) rfl hHeld ?_
         try simp only[pt]
         refine vW 41 rfl ?_;refine vT 42 rfl ?_;refine tW 43 (some 121) (.bool true) rfl hHeld ?_
         try simp only[pt]
         refine tW 44 (some 122) (.bool true) rfl hHeld ?_
         try simp only[pt]
         refine vW 45 rfl ?_;refine vT 46 rfl ?_;refine nT 47 rfl fun K hK=> ?_;go_simp;refine(HSg.out _).mono ?_;rintro y wq ⟨rfl,rfl⟩;go_wp2_with fail;have hHeld:=(⟨x0,x1,r2⟩:_∧_∧_);refine kO hK ?_;clear hK K;refine tW 48 (some 126) (.bool false) rfl hHeld ?_
         try simp only[pt]
         refine tW 49 (some 127) (.bool false) rfl hHeld ?_
         try simp only[pt]
         refine doneT (by kernel_rfl) ?_ _;have HL8:=qd (And.intro (HL7.out.1.below (Below.refl w7.heap.size w7).drew) (HL7.out.2.below (Below.refl w7.heap.size w7).drew));have HB8:=qd HB7.out.drew;clear HL7 HB7;go_wp2;go_roundw
         all_goals first|exact⟨⟨i+1,G',HJ.out,rfl,HL8,HG7,HB8⟩,HMe.out⟩|exact⟨i+1,G',HJ.out,rfl,HL8,HG7,HB8⟩|exact HMe.out
        ·have q3:(FloatKind.f64.format.order kz 0==some .eq)=false:=by rw[HQ.out.2];simpa using hz0
         clear hz0;go_upto_region 23 with fail;refine rT (fun(w':World)=>w'.cell? ⟨bx,0,none⟩=some (.float .f64 kz)∧w'.cell? ⟨bx,1,none⟩=some (.float .f64 q.2)∧w'.cell? ⟨g,off+(i-1)*2,none⟩=some (.float .f64 (kback q'.1))) [] ?_;have hHeld:=(⟨x0,x1,r2⟩:_∧_∧_);refine tW 0 (some 78) (.bool true) rfl hHeld ?_
         try simp only[pt]
         refine tW 1 (some 79) (.bool false) rfl hHeld ?_
         try simp only[pt]
         refine tW 2 (some 80) (.bool false) rfl hHeld ?_
         try simp only[pt]
         refine vW 3 rfl ?_;refine vW 4 rfl ?_;refine vT 5 rfl ?_;refine tW 6 (some 84) (.bool false) rfl hHeld ?_
         try simp only[pt]
         refine tW 7 (some 85) (.bool false) rfl hHeld ?_
         try simp only[pt]
         refine tW 8 (some 86) (.bool false) rfl hHeld ?_
         try simp only[pt]
         refine vW 9 rfl ?_;refine tW 10 (some 88) (.bool true) rfl hHeld ?_
         try simp only[pt]
         refine tW 11 (some 89) (.bool true) rfl hHeld ?_
         try simp only[pt]
         refine vW 12 rfl ?_;refine vW 13 rfl ?_;refine vW 14 rfl ?_;refine vW 15 rfl ?_;refine vW 16 rfl ?_;refine vT 17 rfl ?_;refine vW 18 rfl ?_;refine vT 19 rfl ?_;refine nT 20 rfl fun K hK=> ?_;go_simp;refine(HLs.out _).mono ?_;rintro y wq ⟨rfl,rfl⟩;go_wp2_with fail;have hHeld:=(⟨x0,x1,r2⟩:_∧_∧_);refine kO hK ?_;clear hK K;refine tW 21 (some 99) (.bool false) rfl hHeld ?_
         try simp only[pt]
         refine tW 22 (some 100) (.bool false) rfl hHeld ?_
         try simp only[pt]
         refine tW 23 (some 101) (.bool false) rfl hHeld ?_
         try simp only[pt]
         refine tW 24 (some 102) (.bool false) rfl hHeld ?_
         try simp only[pt]
         refine vW 25 rfl ?_;refine vT 26 rfl ?_;refine vW 27 rfl ?_;refine vT 28 rfl ?_;refine tW 29 (some 107) (.bool false) rfl hHeld ?_
         try simp only[pt]
         refine tW 30 (some 108) (.bool true) rfl hHeld ?_
         try simp only[pt]
         refine tW 31 (some 109) (.bool true) rfl hHeld ?_
         try simp only[pt]
         refine vW 32 rfl ?_;refine vW 33 rfl ?_;refine vW 34 rfl ?_;refine vW 35 rfl ?_;refine tW 36 (some 114) (.bool false) rfl hHeld ?_
         try simp only[pt]
         refine tW 37 (some 115) (.bool false) rfl hHeld ?_
         try simp only[pt]
         refine tW 38 (some 116) (.bool false) rfl hHeld ?_
         try simp only[pt]
         refine tW 39 (some 117) (.bool false) rfl hHeld ?_
         try simp only[pt]
         refine tW 40 (some 118) (.bool false) rfl hHeld ?_
         try simp only[pt]
         refine vW 41 rfl ?_;refine vT 42 rfl ?_;refine tW 43 (some 121) (.bool false) rfl hHeld ?_
         try simp only[pt]
         refine tW 44 (some 122) (.bool false) rfl hHeld ?_
         try simp only[pt]
         refine vU 45 rfl ?_;refine vU 46 rfl ?_;refine vU 47 rfl ?_;refine tW 48 (some 126) (.bool false) rfl hHeld ?_
         try simp only[pt]
         refine tW 49 (some 127) (.bool false) rfl hHeld ?_
         try simp only[pt]
         refine doneT (by kernel_rfl) ?_ _;have HL8:=qd (And.intro (HL7.out.1.below (Below.refl w7.heap.size w7).drew) (HL7.out.2.below (Below.refl w7.heap.size w7).drew));have HB8:=qd HB7.out.drew;clear HL7 HB7;go_wp2;go_roundw
         all_goals first|exact⟨⟨i+1,G',HJ.out,rfl,HL8,HG7,HB8⟩,HMe.out⟩|exact⟨i+1,G',HJ.out,rfl,HL8,HG7,HB8⟩|exact HMe.out
     ·have hip':¬(0:Int)<(i:Int):=by omega
      clear hc7
      cases bn with
      |false=>
       have q2:(FloatKind.f64.format.order kz kz !=some .eq)=false:=by rw[HQ.out.1];rfl
       by_cases hz0:kz=0
       ·have q3:(FloatKind.f64.format.order kz 0==some .eq)=true:=by rw[HQ.out.2];simpa using hz0
        have HSg:=qd (fun(W:World)=>(by have:=math_Signbit kz HK64.out W;rw[show sgn kz=false from by rw[hz0];decide]at this;exact this:Calls Tryz.prog 11 #[.float .f64 kz] W fun e w'=>e= .returned (.bool false)∧W=w'));clear hz0;go_upto_region 23 with fail;refine rT (fun(w':World)=>w'.cell? ⟨bx,0,none⟩=some (.float .f64 kz)∧w'.cell? ⟨bx,1,none⟩=some (.float .f64 q.2)) [] ?_;have hHeld:=(⟨x0,x1⟩:_∧_);refine tW 0 (some 78) (.bool true) rfl hHeld ?_
        try simp only[pt]
        refine tW 1 (some 79) (.bool false) rfl hHeld ?_
        try simp only[pt]
        refine tW 2 (some 80) (.bool false) rfl hHeld ?_
        try simp only[pt]
        refine vW 3 rfl ?_;refine vW 4 rfl ?_;refine vT 5 rfl ?_;refine tW 6 (some 84) (.bool false) rfl hHeld ?_
        try simp only[pt]
        refine tW 7 (some 85) (.bool false) rfl hHeld ?_
        try simp only[pt]
        refine tW 8 (some 86) (.bool false) rfl hHeld ?_
        try simp only[pt]
        refine vW 9 rfl ?_;refine tW 10 (some 88) (.bool false) rfl hHeld ?_
        try simp only[pt]
        refine tW 11 (some 89) (.bool false) rfl hHeld ?_
        try simp only[pt]
        refine vU 12 rfl ?_;refine vU 13 rfl ?_;refine vU 14 rfl ?_;refine vU 15 rfl ?_;refine vU 16 rfl ?_;refine vU 17 rfl ?_;refine vU 18 rfl ?_;refine vU 19 rfl ?_;refine vU 20 rfl ?_;refine vU 21 rfl ?_;refine tW 22 (some 100) (.bool false) rfl hHeld ?_
        try simp only[pt]
        refine tW 23 (some 101) (.bool false) rfl hHeld ?_
        try simp only[pt]
        refine tW 24 (some 102) (.bool false) rfl hHeld ?_
        try simp only[pt]
        refine vW 25 rfl ?_;refine vT 26 rfl ?_;refine vW 27 rfl ?_;refine vT 28 rfl ?_;refine tW 29 (some 107) (.bool false) rfl hHeld ?_
        try simp only[pt]
        refine tW 30 (some 108) (.bool false) rfl hHeld ?_
        try simp only[pt]
        refine tW 31 (some 109) (.bool false) rfl hHeld ?_
        try simp only[pt]
        refine vU 32 rfl ?_;refine vU 33 rfl ?_;refine vU 34 rfl ?_;refine vU 35 rfl ?_;refine vU 36 rfl ?_;refine tW 37 (some 115) (.bool false) rfl hHeld ?_
        try simp only[pt]
        refine tW 38 (some 116) (.bool false) rfl hHeld ?_
        try simp only[pt]
        refine tW 39 (some 117) (.bool false) rfl hHeld ?_
        try simp only[pt]
        refine tW 40 (some 118) (.bool false) rfl hHeld ?_
        try simp only[pt]
        refine vW 41 rfl ?_;refine vT 42 rfl ?_;refine tW 43 (some 121) (.bool true) rfl hHeld ?_
        try simp only[pt]
        refine tW 44 (some 122) (.bool true) rfl hHeld ?_
        try simp only[pt]
        refine vW 45 rfl ?_;refine vT 46 rfl ?_;refine nT 47 rfl fun K hK=> ?_;go_simp;refine(HSg.out _).mono ?_;rintro y wq ⟨rfl,rfl⟩;go_wp2_with fail;have hHeld:=(⟨x0,x1⟩:_∧_);refine kO hK ?_;clear hK K;refine tW 48 (some 126) (.bool false) rfl hHeld ?_
        try simp only[pt]
        refine tW 49 (some 127) (.bool false) rfl hHeld ?_
        try simp only[pt]
        refine doneT (by kernel_rfl) ?_ _;have HL8:=qd (And.intro (HL7.out.1.below (Below.refl w7.heap.size w7).drew) (HL7.out.2.below (Below.refl w7.heap.size w7).drew));have HB8:=qd HB7.out.drew;clear HL7 HB7;go_wp2;go_roundw
        all_goals first|exact⟨⟨i+1,G',HJ.out,rfl,HL8,HG7,HB8⟩,HMe.out⟩|exact⟨i+1,G',HJ.out,rfl,HL8,HG7,HB8⟩|exact HMe.out
       ·have q3:(FloatKind.f64.format.order kz 0==some .eq)=false:=by rw[HQ.out.2];simpa using hz0
        clear hz0;go_upto_region 23 with fail;refine rT (fun(w':World)=>w'.cell? ⟨bx,0,none⟩=some (.float .f64 kz)∧w'.cell? ⟨bx,1,none⟩=some (.float .f64 q.2)) [] ?_;have hHeld:=(⟨x0,x1⟩:_∧_);refine tW 0 (some 78) (.bool true) rfl hHeld ?_
        try simp only[pt]
        refine tW 1 (some 79) (.bool false) rfl hHeld ?_
        try simp only[pt]
        refine tW 2 (some 80) (.bool false) rfl hHeld ?_
        try simp only[pt]
        refine vW 3 rfl ?_;refine vW 4 rfl ?_;refine vT 5 rfl ?_;refine tW 6 (some 84) (.bool false) rfl hHeld ?_
        try simp only[pt]
        refine tW 7 (some 85) (.bool false) rfl hHeld ?_
        try simp only[pt]
        refine tW 8 (some 86) (.bool false) rfl hHeld ?_
        try simp only[pt]
        refine vW 9 rfl ?_;refine tW 10 (some 88) (.bool false) rfl hHeld ?_
        try simp only[pt]
        refine tW 11 (some 89) (.bool false) rfl hHeld ?_
        try simp only[pt]
        refine vU 12 rfl ?_;refine vU 13 rfl ?_;refine vU 14 rfl ?_;refine vU 15 rfl ?_;refine vU 16 rfl ?_;refine vU 17 rfl ?_;refine vU 18 rfl ?_;refine vU 19 rfl ?_;refine vU 20 rfl ?_;refine vU 21 rfl ?_;refine tW 22 (some 100) (.bool false) rfl hHeld ?_
        try simp only[pt]
        refine tW 23 (some 101) (.bool false) rfl hHeld ?_
        try simp only[pt]
        refine tW 24 (some 102) (.bool false) rfl hHeld ?_
        try simp only[pt]
        refine vW 25 rfl ?_;refine vT 26 rfl ?_;refine vW 27 rfl ?_;refine vT 28 rfl ?_;refine tW 29 (some 107) (.bool false) rfl hHeld ?_
        try simp only[pt]
        refine tW 30 (some 108) (.bool false) rfl hHeld ?_
        try simp only[pt]
        refine tW 31 (some 109) (.bool false) rfl hHeld ?_
        try simp only[pt]
        refine vU 32 rfl ?_;refine vU 33 rfl ?_;refine vU 34 rfl ?_;refine vU 35 rfl ?_;refine vU 36 rfl ?_;refine tW 37 (some 115) (.bool false) rfl hHeld ?_
        try simp only[pt]
        refine tW 38 (some 116) (.bool false) rfl hHeld ?_
        try simp only[pt]
        refine tW 39 (some 117) (.bool false) rfl hHeld ?_
        try simp only[pt]
        refine tW 40 (some 118) (.bool false) rfl hHeld ?_
        try simp only[pt]
        refine vW 41 rfl ?_;refine vT 42 rfl ?_;refine tW 43 (some 121) (.bool false) rfl hHeld ?_
        try simp only[pt]
        refine tW 44 (some 122) (.bool false) rfl hHeld ?_
        try simp only[pt]
        refine vU 45 rfl ?_;refine vU 46 rfl ?_;refine vU 47 rfl ?_;refine tW 48 (some 126) (.bool false) rfl hHeld ?_
        try simp only[pt]
        refine tW 49 (some 127) (.bool false) rfl hHeld ?_
        try simp only[pt]
        refine doneT (by kernel_rfl) ?_ _;have HL8:=qd (And.intro (HL7.out.1.below (Below.refl w7.heap.size w7).drew) (HL7.out.2.below (Below.refl w7.heap.size w7).drew));have HB8:=qd HB7.out.drew;clear HL7 HB7;go_wp2;go_roundw
        all_goals first|exact⟨⟨i+1,G',HJ.out,rfl,HL8,HG7,HB8⟩,HMe.out⟩|exact⟨i+1,G',HJ.out,rfl,HL8,HG7,HB8⟩|exact HMe.out
      |true=>
       by_cases hla:i+1=l.length
       ·have q2:(FloatKind.f64.format.order kz kz !=some .eq)=true:=by rw[HQ.out.1];simpa using hla
        have hie:(i:Int)=(l.length:Int)-1:=by omega
        have hie':((i:Int)==(l.length:Int)-1)=true:=by simpa using hie
        have q3:(FloatKind.f64.format.order kz 0==some .eq)=false:=by
         rw[HQ.out.2,decide_eq_false_iff_not];intro h;rw[h]at q2;exact absurd q2 (by decide)
        clear hla hie;go_upto_region 23 with fail;refine rT (fun(w':World)=>w'.cell? ⟨bx,0,none⟩=some (.float .f64 kz)∧w'.cell? ⟨bx,1,none⟩=some (.float .f64 q.2)) [] ?_;have hHeld:=(⟨x0,x1⟩:_∧_);refine tW 0 (some 78) (.bool true) rfl hHeld ?_
        try simp only[pt]
        refine tW 1 (some 79) (.bool false) rfl hHeld ?_
        try simp only[pt]
        refine tW 2 (some 80) (.bool false) rfl hHeld ?_
        try simp only[pt]
        refine vW 3 rfl ?_;refine vW 4 rfl ?_;refine vT 5 rfl ?_;refine tW 6 (some 84) (.bool false) rfl hHeld ?_
        try simp only[pt]
        refine tW 7 (some 85) (.bool false) rfl hHeld ?_
        try simp only[pt]
        refine tW 8 (some 86) (.bool false) rfl hHeld ?_
        try simp only[pt]
        refine vW 9 rfl ?_;refine tW 10 (some 88) (.bool false) rfl hHeld ?_
        try simp only[pt]
        refine tW 11 (some 89) (.bool false) rfl hHeld ?_
        try simp only[pt]
        refine vU 12 rfl ?_;refine vU 13 rfl ?_;refine vU 14 rfl ?_;refine vU 15 rfl ?_;refine vU 16 rfl ?_;refine vU 17 rfl ?_;refine vU 18 rfl ?_;refine vU 19 rfl ?_;refine vU 20 rfl ?_;refine vU 21 rfl ?_;refine tW 22 (some 100) (.bool false) rfl hHeld ?_
        try simp only[pt]
        refine tW 23 (some 101) (.bool false) rfl hHeld ?_
        try simp only[pt]
        refine tW 24 (some 102) (.bool false) rfl hHeld ?_
        try simp only[pt]
        refine vW 25 rfl ?_;refine vT 26 rfl ?_;refine vW 27 rfl ?_;refine vT 28 rfl ?_;refine tW 29 (some 107) (.bool true) rfl hHeld ?_
        try simp only[pt]
        refine tW 30 (some 108) (.bool true) rfl hHeld ?_
        try simp only[pt]
        refine tW 31 (some 109) (.bool true) rfl hHeld ?_
        try simp only[pt]
        refine vW 32 rfl ?_;refine vW 33 rfl ?_;refine vW 34 rfl ?_;refine vW 35 rfl ?_;refine tW 36 (some 114) (.bool true) rfl hHeld ?_
        try simp only[pt]
        refine tW 37 (some 115) (.bool true) rfl hHeld ?_
        try simp only[pt]
        refine tW 38 (some 116) (.bool false) rfl hHeld ?_
        try simp only[pt]
        refine tW 39 (some 117) (.bool false) rfl hHeld ?_
        try simp only[pt]
        refine tW 40 (some 118) (.bool false) rfl hHeld ?_
        try simp only[pt]
        refine vW 41 rfl ?_;refine vT 42 rfl ?_;refine tW 43 (some 121) (.bool false) rfl hHeld ?_
        try simp only[pt]
        refine tW 44 (some 122) (.bool false) rfl hHeld ?_
        try simp only[pt]
        refine vU 45 rfl ?_;refine vU 46 rfl ?_;refine vU 47 rfl ?_;refine tW 48 (some 126) (.bool false) rfl hHeld ?_
        try simp only[pt]
        refine tW 49 (some 127) (.bool false) rfl hHeld ?_
        try simp only[pt]
        refine doneT (by kernel_rfl) ?_ _;have HL8:=qd (And.intro (HL7.out.1.below (Below.refl w7.heap.size w7).drew) (HL7.out.2.below (Below.refl w7.heap.size w7).drew));have HB8:=qd HB7.out.drew;clear HL7 HB7;go_wp2;go_roundw
        all_goals first|exact⟨⟨i+1,G',HJ.out,rfl,HL8,HG7,HB8⟩,HMe.out⟩|exact⟨i+1,G',HJ.out,rfl,HL8,HG7,HB8⟩|exact HMe.out
       ·have q2:(FloatKind.f64.format.order kz kz !=some .eq)=false:=by rw[HQ.out.1];simpa using hla
        have hie:¬(i:Int)=(l.length:Int)-1:=by omega
        clear hla;by_cases hz0:kz=0
        ·have q3:(FloatKind.f64.format.order kz 0==some .eq)=true:=by rw[HQ.out.2];simpa using hz0
         have HSg:=qd (fun(W:World)=>(by have:=math_Signbit kz HK64.out W;rw[show sgn kz=false from by rw[hz0];decide]at this;exact this:Calls Tryz.prog 11 #[.float .f64 kz] W fun e w'=>e= .returned (.bool false)∧W=w'));clear hz0;go_upto_region 23 with fail;refine rT (fun(w':World)=>w'.cell? ⟨bx,0,none⟩=some (.float .f64 kz)∧w'.cell? ⟨bx,1,none⟩=some (.float .f64 q.2)) [] ?_;have hHeld:=(⟨x0,x1⟩:_∧_);refine tW 0 (some 78) (.bool true) rfl hHeld ?_
         try simp only[pt]
         refine tW 1 (some 79) (.bool false) rfl hHeld ?_
         try simp only[pt]
         refine tW 2 (some 80) (.bool false) rfl hHeld ?_
         try simp only[pt]
         refine vW 3 rfl ?_;refine vW 4 rfl ?_;refine vT 5 rfl ?_;refine tW 6 (some 84) (.bool false) rfl hHeld ?_
         try simp only[pt]
         refine tW 7 (some 85) (.bool false) rfl hHeld ?_
         try simp only[pt]
         refine tW 8 (some 86) (.bool false) rfl hHeld ?_
         try simp only[pt]
         refine vW 9 rfl ?_;refine tW 10 (some 88) (.bool false) rfl hHeld ?_
         try simp only[pt]
         refine tW 11 (some 89) (.bool false) rfl hHeld ?_
         try simp only[pt]
         refine vU 12 rfl ?_;refine vU 13 rfl ?_;refine vU 14 rfl ?_;refine vU 15 rfl ?_;refine vU 16 rfl ?_;refine vU 17 rfl ?_;refine vU 18 rfl ?_;refine vU 19 rfl ?_;refine vU 20 rfl ?_;refine vU 21 rfl ?_;refine tW 22 (some 100) (.bool false) rfl hHeld ?_
         try simp only[pt]
         refine tW 23 (some 101) (.bool false) rfl hHeld ?_
         try simp only[pt]
         refine tW 24 (some 102) (.bool false) rfl hHeld ?_
         try simp only[pt]
         refine vW 25 rfl ?_;refine vT 26 rfl ?_;refine vW 27 rfl ?_;refine vT 28 rfl ?_;refine tW 29 (some 107) (.bool false) rfl hHeld ?_
         try simp only[pt]
         refine tW 30 (some 108) (.bool true) rfl hHeld ?_
         try simp only[pt]
         refine tW 31 (some 109) (.bool true) rfl hHeld ?_
         try simp only[pt]
         refine vW 32 rfl ?_;refine vW 33 rfl ?_;refine vW 34 rfl ?_;refine vW 35 rfl ?_;refine tW 36 (some 114) (.bool false) rfl hHeld ?_
         try simp only[pt]
         refine tW 37 (some 115) (.bool false) rfl hHeld ?_
         try simp only[pt]
         refine tW 38 (some 116) (.bool false) rfl hHeld ?_
         try simp only[pt]
         refine tW 39 (some 117) (.bool false) rfl hHeld ?_
         try simp only[pt]
         refine tW 40 (some 118) (.bool false) rfl hHeld ?_
         try simp only[pt]
         refine vW 41 rfl ?_;refine vT 42 rfl ?_;refine tW 43 (some 121) (.bool true) rfl hHeld ?_
         try simp only[pt]
         refine tW 44 (some 122) (.bool true) rfl hHeld ?_
         try simp only[pt]
         refine vW 45 rfl ?_;refine vT 46 rfl ?_;refine nT 47 rfl fun K hK=> ?_;go_simp;refine(HSg.out _).mono ?_;rintro y wq ⟨rfl,rfl⟩;go_wp2_with fail;have hHeld:=(⟨x0,x1⟩:_∧_);refine kO hK ?_;clear hK K;refine tW 48 (some 126) (.bool false) rfl hHeld ?_
         try simp only[pt]
         refine tW 49 (some 127) (.bool false) rfl hHeld ?_
         try simp only[pt]
         refine doneT (by kernel_rfl) ?_ _;have HL8:=qd (And.intro (HL7.out.1.below (Below.refl w7.heap.size w7).drew) (HL7.out.2.below (Below.refl w7.heap.size w7).drew));have HB8:=qd HB7.out.drew;clear HL7 HB7;go_wp2;go_roundw
         all_goals first|exact⟨⟨i+1,G',HJ.out,rfl,HL8,HG7,HB8⟩,HMe.out⟩|exact⟨i+1,G',HJ.out,rfl,HL8,HG7,HB8⟩|exact HMe.out
        ·have q3:(FloatKind.f64.format.order kz 0==some .eq)=false:=by rw[HQ.out.2];simpa using hz0
         clear hz0;go_upto_region 23 with fail;refine rT (fun(w':World)=>w'.cell? ⟨bx,0,none⟩=some (.float .f64 kz)∧w'.cell? ⟨bx,1,none⟩=some (.float .f64 q.2)) [] ?_;have hHeld:=(⟨x0,x1⟩:_∧_);refine tW 0 (some 78) (.bool true) rfl hHeld ?_
         try simp only[pt]
         refine tW 1 (some 79) (.bool false) rfl hHeld ?_
         try simp only[pt]
         refine tW 2 (some 80) (.bool false) rfl hHeld ?_
         try simp only[pt]
         refine vW 3 rfl ?_;refine vW 4 rfl ?_;refine vT 5 rfl ?_;refine tW 6 (some 84) (.bool false) rfl hHeld ?_
         try simp only[pt]
         refine tW 7 (some 85) (.bool false) rfl hHeld ?_
         try simp only[pt]
         refine tW 8 (some 86) (.bool false) rfl hHeld ?_
         try simp only[pt]
         refine vW 9 rfl ?_;refine tW 10 (some 88) (.bool false) rfl hHeld ?_
         try simp only[pt]
         refine tW 11 (some 89) (.bool false) rfl hHeld ?_
         try simp only[pt]
         refine vU 12 rfl ?_;refine vU 13 rfl ?_;refine vU 14 rfl ?_;refine vU 15 rfl ?_;refine vU 16 rfl ?_;refine vU 17 rfl ?_;refine vU 18 rfl ?_;refine vU 19 rfl ?_;refine vU 20 rfl ?_;refine vU 21 rfl ?_;refine tW 22 (some 100) (.bool false) rfl hHeld ?_
         try simp only[pt]
         refine tW 23 (some 101) (.bool false) rfl hHeld ?_
         try simp only[pt]
         refine tW 24 (some 102) (.bool false) rfl hHeld ?_
         try simp only[pt]
         refine vW 25 rfl ?_;refine vT 26 rfl ?_;refine vW 27 rfl ?_;refine vT 28 rfl ?_;refine tW 29 (some 107) (.bool false) rfl hHeld ?_
         try simp only[pt]
         refine tW 30 (some 108) (.bool true) rfl hHeld ?_
         try simp only[pt]
         refine tW 31 (some 109) (.bool true) rfl hHeld ?_
         try simp only[pt]
         refine vW 32 rfl ?_;refine vW 33 rfl ?_;refine vW 34 rfl ?_;refine vW 35 rfl ?_;refine tW 36 (some 114) (.bool false) rfl hHeld ?_
         try simp only[pt]
         refine tW 37 (some 115) (.bool false) rfl hHeld ?_
         try simp only[pt]
         refine tW 38 (some 116) (.bool false) rfl hHeld ?_
         try simp only[pt]
         refine tW 39 (some 117) (.bool false) rfl hHeld ?_
         try simp only[pt]
         refine tW 40 (some 118) (.bool false) rfl hHeld ?_
         try simp only[pt]
         refine vW 41 rfl ?_;refine vT 42 rfl ?_;refine tW 43 (some 121) (.bool false) rfl hHeld ?_
         try simp only[pt]
         refine tW 44 (some 122) (.bool false) rfl hHeld ?_
         try simp only[pt]
         refine vU 45 rfl ?_;refine vU 46 rfl ?_;refine vU 47 rfl ?_;refine tW 48 (some 126) (.bool false) rfl hHeld ?_
         try simp only[pt]
         refine tW 49 (some 127) (.bool false) rfl hHeld ?_
         try simp only[pt]
         refine doneT (by kernel_rfl) ?_ _;have HL8:=qd (And.intro (HL7.out.1.below (Below.refl w7.heap.size w7).drew) (HL7.out.2.below (Below.refl w7.heap.size w7).drew));have HB8:=qd HB7.out.drew;clear HL7 HB7;go_wp2;go_roundw
         all_goals first|exact⟨⟨i+1,G',HJ.out,rfl,HL8,HG7,HB8⟩,HMe.out⟩|exact⟨i+1,G',HJ.out,rfl,HL8,HG7,HB8⟩|exact HMe.out
    ·obtain rfl:i=l.length:=by omega
     have hlt':¬(l.length:Int)<(l.length:Int):=by omega
     have HLe:=qd (fm_Least HL.out.1 (by decide) (by omega) H6.out H12.out HOk.out.1 HOk.out.2);have HB0:=qd HB.out.size;clear hi hlt;go_wp2_with fail;refine HLe.out.mono ?_;rintro y w7 ⟨l2,G',rfl,hrw2,hA7,hs7,hm7⟩;obtain rfl:=HRw.out.unique hrw2;have hO7:=HL.out.2.to hs7 hm7;have HB7:=qd (HB.out.trans (hm7.below HG.out HB.out.size))
     cases l with
     |nil=>
      unfold leastV;clear hrw2 hA7 hs7 hm7 hO7 HLe;simp only[List.length_nil];go_wp2;go_ret;exact⟨rfl,HB7.out⟩
     |cons x l=>
      unfold leastV;obtain⟨g,off,hA,hc⟩:=own_cell hO7 (by simp);have r0:=(hc 0 x rfl).1;rw[Nat.zero_mul,Nat.add_zero]at r0;subst hA
      have hpos:(0:Int)<((x::l).length:Int):=by rw[List.length_cons];omega
      have hne0:¬((x::l).length:Int)=0:=by omega
      have HSm:=qd (fun(W:World)=>order_Same (kback x.1) W);obtain⟨N,hN⟩:∃N,N=(x::l).length:=⟨_,rfl⟩;rw[←hN]at hpos hne0⊢;clear hrw2 hA7 hs7 hm7 hO7 HLe hc hN;go_wp2_with fail;refine(HSm.out _).mono ?_;rintro y wq ⟨rfl,rfl⟩;go_wp2;go_ret;exact⟨rfl,HB7.out⟩
end Go.Proofs.YtflbmgpmnocnbaaGreatDoor
