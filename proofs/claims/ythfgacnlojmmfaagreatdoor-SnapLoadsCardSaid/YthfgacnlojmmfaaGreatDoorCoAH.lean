/- Package evac by its contracts. -/
import Derived.Test.YthfgacnlojmmfaaGreatDoorCoAE
import Derived.Test.YthfgacnlojmmfaaGreatDoorCoN
import Derived.Test.YthfgacnlojmmfaaGreatDoorLaneP
import Derived.Test.YthfgacnlojmmfaaGreatDoorCoAB
namespace Go.Proofs.YthfgacnlojmmfaaGreatDoor
set_option maxRecDepth 100000
set_option maxHeartbeats 8000000
open Go.RowKit AmC Go
section
variable {w : World} {cap depth eb next tb vb : Nat} {ts : List Nat}
def sideOf (k depth hash:Nat):Nat:=if k=1 then 0 else bitOf hash depth
structure EvAt (w:World)(eb tb vb cap:Nat)(ts:List Nat)(depth next:Nat):Prop where
 blk:Blk w eb 328 #[.pointer (some ⟨tb,0,none⟩),.slice (some ⟨vb,0,none⟩) ts.length cap,.int .i64 (depth:Int),.int .i64 (next:Int)]
 row:RowAt w vb ts
theorem EvAt.mod {S:List Nat}{w':World}(h:EvAt w eb tb vb cap ts depth next)(hm:Mod S w w')(h1:eb∉S)(h2:vb∉S):EvAt w' eb tb vb cap ts depth next:=⟨h.blk.mod hm h1,h.row.mod hm h2⟩
instance {w w':World}{eb tb vb cap:Nat}{ts:List Nat}{depth next:Nat}:Md (EvAt w eb tb vb cap ts depth next) w w' (EvAt w' eb tb vb cap ts depth next) (fun S=>eb∉S∧vb∉S):=⟨fun h hm hs=>h.mod hm hs.1 hs.2⟩
theorem EvAt.lt (h:EvAt w eb tb vb cap ts depth next):eb<w.heap.size:=h.blk.lt
theorem EvAt.ltV (h:EvAt w eb tb vb cap ts depth next):vb<w.heap.size:=h.row.lt
theorem sub_nat {a b:Nat}(h:b≤a):(a:Int)-(b:Int)=((a-b:Nat):Int):=by omega
theorem evac_Left (eb tb gb vb cap:Nat)(ts:List Nat)(depth next:Nat)(T:TabM)(w:World)(h:EvAt w eb tb vb cap ts depth next)(ht:TabAt w tb gb T)(hle:next≤T.gs.length)(h64:T.gs.length≤64):
  Calls Tryz.prog 258 #[.pointer (some ⟨eb,0,none⟩)] w fun e w'=>e= .returned (.int .i64 ((T.gs.length-next:Nat):Int))∧w.drew=w':=by
 obtain⟨tc0,tc1,tc2⟩:=ht.cells;obtain⟨n,hn⟩:∃n,n=T.gs.length:=⟨_,rfl⟩;have HG:=qd (table_Groups tb gb T w.drew (ht.below (Below.refl _ _).drew));rw[←hn]at HG hle h64⊢;unfold tabP at HG;have HE:=qd (h);have Hmod:=qd (Mod.refl [] w);have HEb:=qd h.blk;clear h ht;have ec:=HEb.out.c4
 have hwr:IntKind.i64.wrap ((n:Int)-(next:Int))=((n-next:Nat):Int):=by rw[sub_nat hle];rw[IntKind.wrap_i64];omega
 clear tc0 tc1 tc2 hn;go_in;go_upto_region 1 with fail;refine rT (fun(w':World)=>w'.cell? ⟨eb,0,none⟩=some (.pointer (some ⟨tb,0,none⟩))∧w'.cell? ⟨eb,3,none⟩=some (.int .i64 (next:Int))) [] ?_;have hHeld:=(⟨ec.1,ec.2.2.2⟩:_∧_);refine vW 0 rfl ?_;refine vW 1 rfl ?_;refine vW 2 rfl ?_;refine vT 3 rfl ?_;refine vW 5 rfl ?_;refine vW 6 rfl ?_;refine vW 7 rfl ?_;refine vT 8 rfl ?_;refine nT 4 rfl fun K hK=> ?_;go_simp;refine(HG.out).mono ?_;rintro y w1 ⟨rfl,rfl⟩;go_wp2_with fail;have hHeld:=(⟨ec.1,ec.2.2.2⟩:_∧_);refine kO hK ?_;clear hK K;refine vW 9 rfl ?_;refine vW 10 rfl ?_;refine doneT (by kernel_rfl) ?_ _;go_wp2;go_ret;exact⟨rfl,rfl⟩
theorem evac_Target (eb tb vb cap:Nat)(ts:List Nat)(depth next hash t:Nat)(hk:1≤ts.length∧ts.length≤2)(hd:depth≤15)(h64:hash<18446744073709551616)(ht:ts[sideOf ts.length depth hash]?=some t)(w:World)(h:EvAt w eb tb vb cap ts depth next):
  Calls Tryz.prog 194 #[.pointer (some ⟨eb,0,none⟩),.int .u64 (hash:Int)] w fun e w'=>e= .returned (tabP t)∧Below w.heap.size w w':=by
 obtain⟨ec0,ec1,ec2,ec3⟩:=h.blk.c4;have hr:=h.row.at_ _ _ ht;have HT:=qd ht;unfold tabP;clear h ht;by_cases h1:ts.length=1
 ·have hs:sideOf ts.length depth hash=0:=by unfold sideOf;rw[if_pos h1]
  rw[hs]at hr;rw[h1]at ec1;go_in;go_wp2;go_ret;exact⟨rfl,Below.refl _ _⟩
 ·have h2:ts.length=2:=by omega
  have hs:sideOf ts.length depth hash=bitOf hash depth:=by unfold sideOf;rw[if_neg h1]
  rw[hs]at hr;rw[h2]at ec1;clear hs h1 HT;have hbl:bitOf hash depth<2:=Nat.mod_lt _ (by omega);have HBt:=qd (split_Bit hash depth h64 hd w.drew);generalize bitOf hash depth=sd at*
  have hsd:(sd:Int)<2:=by omega
  have hsd0:(0:Int)≤(sd:Int):=by omega
  have HMu:=qd (must_int (sd:Int) w.drew);go_in;go_upto_region 3 with fail;refine rT (fun(w':World)=>w'.cell? ⟨eb,1,none⟩=some (.slice (some ⟨vb,0,none⟩) 2 cap)∧w'.cell? ⟨eb,2,none⟩=some (.int .i64 (depth:Int))∧w'.cell? ⟨vb,sd,none⟩=some (.pointer (some ⟨t,0,none⟩))) [] ?_;have hHeld:=(⟨ec1,ec2,hr⟩:_∧_∧_);refine vW 0 rfl ?_;refine vW 1 rfl ?_;refine vW 2 rfl ?_;refine vT 3 rfl ?_;refine vW 4 rfl ?_;refine vW 5 rfl ?_;refine vW 6 rfl ?_;refine vW 7 rfl ?_;refine vT 8 rfl ?_;refine nT 9 rfl fun K hK=> ?_;go_simp;refine(HBt.out).mono ?_;rintro y w1 ⟨rfl,rfl⟩;go_wp2_with fail;have hHeld:=(⟨ec1,ec2,hr⟩:_∧_∧_);refine kO hK ?_;clear hK K;refine vW 10 rfl ?_;refine vW 11 rfl ?_;refine nT 12 rfl fun K hK=> ?_;go_simp;refine(HMu.out).mono ?_;rintro y w1 ⟨rfl,rfl⟩;go_wp2_with fail;have hHeld:=(⟨ec1,ec2,hr⟩:_∧_∧_);refine kO hK ?_;clear hK K;refine vW 13 rfl ?_;refine vT 14 rfl ?_;refine vW 15 rfl ?_;refine doneT (by kernel_rfl) ?_ _;go_wp2;go_ret;exact⟨rfl,(Below.refl _ _).drew⟩
end
section
variable {j k : Nat} {e : Ent} {bs : List (Nat × Nat)} {S : List Nat} {w w' : World} {Ts : List TabM}
def putNew (T:TabM)(e:Ent):TabM:=match (seek T.gs e.key e.hash).2.1 with
 |some x=>placeM T x.1 x.2 e
 |none=>T
structure CanPut (T:TabM)(e:Ent):Prop where
 ok:TOk T
 h64:e.hash<18446744073709551616
 none_:(seek T.gs e.key e.hash).1=none
 free:∃i s,(seek T.gs e.key e.hash).2.1=some (i,s)
 room:T.live+T.tombs+1≤7*(T.gs.length:Int)
def noT:TabM:=⟨[],0,0⟩
def moveOne (k d:Nat)(st:Mtr×List TabM)(e:Ent):Mtr×List TabM:=
 (st.1.add cV (seek (st.2.getD (sideOf k d e.hash) noT).gs e.key e.hash).2.2,st.2.set (sideOf k d e.hash) (putNew (st.2.getD (sideOf k d e.hash) noT) e))
def moveL (k d:Nat)(st:Mtr×List TabM)(es:List Ent):Mtr×List TabM:=es.foldl (moveOne k d) st
def Fits (k d:Nat):List TabM→List Ent→Prop
 |_,[]=>True
 |Ts,e::es=>(∃T,Ts[sideOf k d e.hash]?=some T∧CanPut T e)∧Fits k d (Ts.set (sideOf k d e.hash) (putNew (Ts.getD (sideOf k d e.hash) noT) e)) es
theorem moveL_snoc (k d:Nat)(st:Mtr×List TabM){es:List Ent}(h:es[j]?=some e):moveL k d st (es.take (j+1))=moveOne k d (moveL k d st (es.take j)) e:=by
 unfold moveL;rw[take_nx h,List.foldl_append];rfl
theorem fits_at {d:Nat}:∀{es:List Ent} {x:Mtr} {Ts:List TabM} {j:Nat} {e:Ent},Fits k d Ts es→es[j]?=some e→∃T,(moveL k d (x,Ts) (es.take j)).2[sideOf k d e.hash]?=some T∧CanPut T e
 | [],_,_,_,_,_,h=>by simp at h
 |e0::es,x,Ts,0,e,hf,h=>by
  simp at h;subst h;exact hf.1
 |e0::es,x,Ts,j+1,e,hf,h=>by
  rw[List.getElem?_cons_succ]at h;have:=fits_at (x:=x.add cV (seek (Ts.getD (sideOf k d e0.hash) noT).gs e0.key e0.hash).2.2) hf.2 h;exact this
structure TabsAt (w:World)(bs:List (Nat×Nat))(Ts:List TabM):Prop where
 len:bs.length=Ts.length
 at_:∀(j:Nat) (b:Nat×Nat) (T:TabM),bs[j]?=some b→Ts[j]?=some T→TabAt w b.1 b.2 T
 ne:∀(i j:Nat) (b c:Nat×Nat),bs[i]?=some b→bs[j]?=some c→i≠j→b.1≠c.1∧b.1≠c.2∧b.2≠c.1∧b.2≠c.2
def flatB (bs:List (Nat×Nat)):List Nat:=bs.flatMap fun b=> [b.1,b.2]
theorem mem_flatB:k∈flatB bs↔∃b∈bs,k=b.1∨k=b.2:=by simp[flatB]
theorem TabsAt.mod (h:TabsAt w bs Ts)(hm:Mod S w w')(hs:∀b∈bs,b.1∉S∧b.2∉S):TabsAt w' bs Ts:=
 ⟨h.len,fun j b T hb hT=>(h.at_ j b T hb hT).mod hm (hs b (List.mem_of_getElem? hb)).1 (hs b (List.mem_of_getElem? hb)).2,h.ne⟩
theorem TabsAt.set_ (h:TabsAt w bs Ts){b:Nat×Nat}{T':TabM}(hb:bs[j]?=some b)(hT:TabAt w' b.1 b.2 T')(hm:Mod S w w')(hs:∀k∈S,k=b.1∨k=b.2∨∀c∈bs,k≠c.1∧k≠c.2):TabsAt w' bs (Ts.set j T'):=by
 refine⟨by rw[List.length_set];exact h.len,fun i c T hc hT2=> ?_,h.ne⟩;rw[List.getElem?_set]at hT2;by_cases hij:j=i
 ·subst hij;rw[hb]at hc;cases hc;obtain⟨hlt,_⟩:=List.getElem?_eq_some_iff.1 hb;rw[if_pos rfl,if_pos (by rw[←h.len];exact hlt)]at hT2;cases hT2;exact hT
 ·rw[if_neg hij]at hT2;have hne:=h.ne j i b c hb hc hij;have hcm:=List.mem_of_getElem? hc;refine(h.at_ i c T hc hT2).mod hm (fun hk=> ?_) (fun hk=> ?_)
  ·rcases hs _ hk with e|e|e
   ·exact hne.1 e.symm
   ·exact hne.2.2.1 e.symm
   ·exact(e c hcm).1 rfl
  ·rcases hs _ hk with e|e|e
   ·exact hne.2.1 e.symm
   ·exact hne.2.2.2 e.symm
   ·exact(e c hcm).2 rfl
end
theorem table_Take {W0:World}{E:Nat→Addr}(tb gb:Nat)(T:TabM)(P:MP)(x:Mtr)(c:Cnt)(g:Nat)(hg:g<T.gs.length)(hok:TOk T)(w:World)(h:TabAt w tb gb T)(hM:MetP w P x)(hE:Env W0 E w)(hmt:P.mb≠tb)(hmg:P.mb≠gb)(hb0:W0.heap.size≤P.mb)(hb1:W0.heap.size≤tb)(hb2:W0.heap.size≤gb):
  Calls Tryz.prog 291 #[tabP tb,lensV (some ⟨P.mb,P.mo,none⟩) c,.int .i64 (g:Int)] w fun e w'=>∃A cc,e= .returned (.tuple #[.slice A (entsG (T.gs.getD g [])).length cc,.nilIface])∧
   w'.ownsRow w.heap.size 45 3 (.slice A (entsG (T.gs.getD g [])).length cc) (entsG (T.gs.getD g [])).length ((entsG (T.gs.getD g [])).flatMap entCells)∧TabAt w' tb gb (takeN T g 8)∧MetP w' P (x.add c 1)∧Mod [P.mb,tb,gb] w w':=by
 have hB:=(Below.refl w.heap.size w).alloc (Nat.le_refl _) (.cells #[.pointer (some ⟨P.mb,P.mo,none⟩),.int .i64 c.p,.int .i64 c.v,.int .i64 c.u] 155);have hL:=Blk.new w 155 #[.pointer (some ⟨P.mb,P.mo,none⟩),.int .i64 c.p,.int .i64 c.v,.int .i64 c.u];obtain⟨W,hW⟩:∃W,W=w.alloc (.cells #[.pointer (some ⟨P.mb,P.mo,none⟩),.int .i64 c.p,.int .i64 c.v,.int .i64 c.u] 155):=⟨_,rfl⟩;rw[←hW]at hB hL;obtain⟨lc0,lc1,lc2,lc3⟩:=hL.c4;have hml:=hM.lt;have htl:=h.ltT;have hgl:=h.ltG;have hB0:=hE.size;have HW:=qd hW
 have hg0:(g:Int)<(T.gs.length:Int):=by omega
 have HLk:=qd (table_look tb gb T P.mb P.mt P.pre P.post P.mo x.all x.last P.m c g hg W (h.below hB) (hM.below hB) hmt hmg);have HOk:=qd hok;unfold tabP lensV viewV at HLk;unfold tabP lensV;have HT:=qd (h.below hB);have HV0:=qd (hE.next hB);have Hmod:=qd (Mod.of_below hB [P.mb,tb,gb]);clear hW hB h hM hL hE hok;generalize hGn:T.gs.getD g []=G;go_in;go_upto_region 1 with fail;rw[←HW.out];go_wp2_with fail;refine(HLk.out).mono ?_;rintro x w1 ⟨rfl,hM1,hm⟩;clear lc0 lc1 lc2 lc3;replace HT:=qM hm HT;replace HV0:=qM hm HV0;replace Hmod:=qU Hmod hm;clear hm;have HM:=qd (show MetP w1 P (x.add c 1)from hM1);clear hM1;go_upto_region 4 with fail;have q1:=qJ HT.out.ltT (qJ HT.out.ltG (qJ HM.out.lt Hmod.out.size));refine nameB 202 #[.pointer (some ⟨gb,g*25,none⟩)] ?_;rintro w2 ⟨hnew,hb⟩;obtain⟨vb,hvb⟩:∃vb,vb=w1.heap.size:=⟨_,rfl⟩;rw[←hvb]at hnew⊢
 replace hvb:w1.heap.size≤vb:=by omega
 replace HT:=qB hb HT;replace HV0:=qB hb HV0;replace HM:=qB hb HM;replace Hmod:=qT Hmod hb;have HV:=qd (hnew);clear hnew hb;have z5:=Hmod.out.size;have vc0:=HV.out.cell 0;simp only[List.getElem?_toArray,List.getElem?_cons_zero]at vc0;have HEn:=qd (grp_Entries gb 242 _ _ (g*25) _ w2 (HT.out.group g hg) HV0.out.tz);rw[hGn]at HEn;unfold viewV at HEn;go_wp2_with fail;refine(HEn.out).mono ?_;rintro x w3 ⟨A,cc,rfl,hO,hb⟩;clear vc0;replace HT:=qB hb HT;replace HV0:=qB hb HV0;replace HM:=qB hb HM;replace HV:=qB hb HV;replace Hmod:=qT Hmod hb;clear hb;have hwl:=Hmod.out.size;have HO:=qd (hO);clear hO;have q6:=qJ HT.out.ltT (qJ HT.out.ltG (qJ HM.out.lt HV.out.lt));clear HW;go_wp2;go_loopw [11,12,13,26] (fun _ _ _ i wr=>∃k:Nat,k≤8∧i= .int .i64 k∧TabAt wr tb gb (takeN T g k)∧MetP wr P (x.add c 1)∧Env W0 E wr∧wr.ownsRow w2.heap.size 45 3 (.slice A (entsG G).length cc) (entsG G).length ((entsG G).flatMap entCells)∧Blk wr vb 202 #[.pointer (some ⟨gb,g*25,none⟩)]∧Mod [P.mb,tb,gb] w wr) (fun _ _ _ i _=>8-(intOf i).toNat)
 case atStart=>exact⟨0,by omega,rfl,HT.out,HM.out,HV0.out,HO.out,HV.out,Hmod.out⟩
 case round=>
  clear HT HM HV0 HO HV Hmod;obtain⟨k,hk,rfl,hT,hM,hE,hO,hV,hm⟩:=hrel;by_cases hlt:k<8
  ·have hlt':(k:Int)<8:=by omega
   have HT:=qd (hT);have HM:=qd (hM);have HV0:=qd (hE);have HO:=qd (hO);have HV:=qd (hV);have Hmod:=qd (hm);clear hT hM hE hO hV hm
   have hgk:g<(takeN T g k).gs.length:=by rw[takeN_length];exact hg
   have HG:=qd (HT.out.group g hgk);have HOe:=qd (HOk.out.tkN g k);have vc0:=HV.out.cell 0;simp only[List.getElem?_toArray,List.getElem?_cons_zero]at vc0
   cases hsl:slotAt (takeN T g k).gs g k with
   |full e=>
    have HAt:=qd (grp_At_full gb 242 _ _ (g*25) _ wr HG.out k hlt e (by unfold slotAt at hsl;exact hsl));unfold viewV entV at HAt;clear HG;go_wp2_with fail;refine(HAt.out).mono ?_;rintro x w4 ⟨rfl,hb⟩;clear vc0;replace HT:=qB hb HT;replace HM:=qB hb HM;replace HV0:=qB hb HV0;replace HO:=qB hb HO;replace HV:=qB hb HV;replace Hmod:=qT Hmod hb;clear hb HAt;go_upto_region 10 with fail;have q1:=qJ HT.out.ltT (qJ HT.out.ltG (qJ HM.out.lt (qJ HV.out.lt Hmod.out.size)));refine nameB 45 #[.int .u64 (e.key:Int),.int .u64 (e.val:Int),.int .u64 (e.hash:Int)] ?_;rintro w5 ⟨hnew,hb⟩;replace HT:=qB hb HT;replace HM:=qB hb HM;replace HV0:=qB hb HV0;replace HO:=qB hb HO;replace HV:=qB hb HV;replace Hmod:=qT Hmod hb;have HD:=qd (hnew);clear hnew hb;have vc0:=HV.out.cell 0;simp only[List.getElem?_toArray,List.getElem?_cons_zero]at vc0;have HEr:=qd (table_erase tb gb (takeN T g k) g k hgk hlt e hsl HOe.out.small w5 HT.out);unfold tabP placeV at HEr;clear HT HD;go_wp2_with fail;refine(HEr.out).mono ?_;rintro x w6 ⟨rfl,hT6,hm⟩;clear vc0;replace HM:=qM hm HM;replace HV0:=qM hm HV0;replace HO:=qM hm HO;replace HV:=qM hm HV;replace Hmod:=qU Hmod hm;clear hm;have HT:=qd (hT6);clear hT6;have HNx:=qd (show takeN T g (k+1)=eraseM (takeN T g k) g k from by show eraseIf _ _ _=_;unfold eraseIf;rw[hsl];rfl);clear hsl;go_wp2;go_roundw
    case rel=>exact⟨k+1,by omega,by go_num,by rw[HNx.out];exact HT.out,HM.out,HV0.out,HO.out,HV.out,Hmod.out⟩
    case measure=>simp[intOf];omega
   |empty=>
    have HAt:=qd (grp_At_no gb 242 _ _ (g*25) _ wr HG.out k hlt (by unfold slotAt at hsl;rw[hsl];rfl) E (HV0.out.errs.at_ 5 (by omega) (by omega)));unfold viewV entV at HAt;clear HG;go_wp2_with fail;refine(HAt.out).mono ?_;rintro x w4 ⟨rfl,hb⟩;clear vc0;replace HT:=qB hb HT;replace HM:=qB hb HM;replace HV0:=qB hb HV0;replace HO:=qB hb HO;replace HV:=qB hb HV;replace Hmod:=qT Hmod hb;clear hb HAt;have HNx:=qd (show takeN T g (k+1)=takeN T g k from by show eraseIf _ _ _=_;unfold eraseIf;rw[hsl];rfl);clear hsl;go_upto_region 11 with fail;have q1:=qJ HT.out.ltT (qJ HT.out.ltG (qJ HM.out.lt (qJ HV.out.lt Hmod.out.size)));refine nameB 45 #[.int .u64 0,.int .u64 0,.int .u64 0] ?_;rintro w5 ⟨hnew,hb⟩;replace HT:=qB hb HT;replace HM:=qB hb HM;replace HV0:=qB hb HV0;replace HO:=qB hb HO;replace HV:=qB hb HV;replace Hmod:=qT Hmod hb;have HD:=qd (hnew);clear hnew hb;go_wp2;go_roundw
    case rel=>exact⟨k+1,by omega,by go_num,by rw[HNx.out];exact HT.out,HM.out,HV0.out,HO.out,HV.out,Hmod.out⟩
    case measure=>simp[intOf];omega
   |tomb=>
    have HAt:=qd (grp_At_no gb 242 _ _ (g*25) _ wr HG.out k hlt (by unfold slotAt at hsl;rw[hsl];rfl) E (HV0.out.errs.at_ 5 (by omega) (by omega)));unfold viewV entV at HAt;clear HG;go_wp2_with fail;refine(HAt.out).mono ?_;rintro x w4 ⟨rfl,hb⟩;clear vc0;replace HT:=qB hb HT;replace HM:=qB hb HM;replace HV0:=qB hb HV0;replace HO:=qB hb HO;replace HV:=qB hb HV;replace Hmod:=qT Hmod hb;clear hb HAt;have HNx:=qd (show takeN T g (k+1)=takeN T g k from by show eraseIf _ _ _=_;unfold eraseIf;rw[hsl];rfl);clear hsl;go_upto_region 11 with fail;have q1:=qJ HT.out.ltT (qJ HT.out.ltG (qJ HM.out.lt (qJ HV.out.lt Hmod.out.size)));refine nameB 45 #[.int .u64 0,.int .u64 0,.int .u64 0] ?_;rintro w5 ⟨hnew,hb⟩;replace HT:=qB hb HT;replace HM:=qB hb HM;replace HV0:=qB hb HV0;replace HO:=qB hb HO;replace HV:=qB hb HV;replace Hmod:=qT Hmod hb;have HD:=qd (hnew);clear hnew hb;go_wp2;go_roundw
    case rel=>exact⟨k+1,by omega,by go_num,by rw[HNx.out];exact HT.out,HM.out,HV0.out,HO.out,HV.out,Hmod.out⟩
    case measure=>simp[intOf];omega
  ·obtain rfl:k=8:=by omega
   have HF:=qd (And.intro hT (And.intro hM (And.intro (own_base hO (show w.heap.size≤w2.heap.size by omega)) hm)));clear hT hM hE hO hV hm
   have hlt':¬((8:Nat):Int)<8:=by omega
   go_wp2;refine bodyPost_ret (v:= .tuple #[.slice A (entsG G).length cc,.nilIface]) (by simp[results,Tryz.results291,go_sem]) rfl ⟨A,cc,rfl,HF.out.2.2.1,HF.out.1,HF.out.2.1,HF.out.2.2.2⟩
theorem evac_Step {W0:World}{E:Nat→Addr}(eb tb gb vb cap:Nat)(depth next:Nat)(bs:List (Nat×Nat))(T:TabM)(Ts:List TabM)(P:MP)(x:Mtr)(hk:1≤bs.length∧bs.length≤2)(hd:depth≤15)(w:World)
  (h:EvAt w eb tb vb cap (bs.map Prod.fst) depth next) (ht:TabAt w tb gb T) (hok:TOk T) (hn:next<T.gs.length) (hts:TabsAt w bs Ts) (hfit:Fits bs.length depth Ts (entsG (T.gs.getD next [])))
  (hM:MetP w P x) (hE:Env W0 E w) (hbd:∀b∈bs,b.1∉[P.mb,eb,vb,tb,gb]∧b.2∉[P.mb,eb,vb,tb,gb]) (hmd:P.mb∉[eb,vb,tb,gb]) (hed:eb∉[vb,tb,gb]) (hvd:vb∉[tb,gb])
  (hb0:W0.heap.size≤P.mb) (hb1:W0.heap.size≤tb) (hb2:W0.heap.size≤gb) (_:W0.heap.size≤eb) (hb4:∀b∈bs,W0.heap.size≤b.1∧W0.heap.size≤b.2):
  Calls Tryz.prog 287 #[.pointer (some ⟨eb,0,none⟩),.pointer (some ⟨P.mb,P.mo,none⟩)] w fun e w'=>e= .returned (.bool true)∧EvAt w' eb tb vb cap (bs.map Prod.fst) depth (next+1)∧TabAt w' tb gb (takeN T next 8)∧
   TabsAt w' bs (moveL bs.length depth ((x.add (cU 1) 1).add cV 1,Ts) (entsG (T.gs.getD next []))).2∧MetP w' P (moveL bs.length depth ((x.add (cU 1) 1).add cV 1,Ts) (entsG (T.gs.getD next []))).1∧Mod (P.mb::eb::tb::gb::flatB bs) w w':=by
 simp only[List.mem_cons,List.not_mem_nil,or_false,not_or]at hmd hed hvd hbd;have hml:=hM.lt;have hB0:=hE.size;have HLf:=qd (evac_Left eb tb gb vb cap _ depth next T w h ht (by omega) hok.pow.le);have hle:=hok.pow.le
 obtain⟨dn,hdn⟩:∃dn,dn=T.gs.length-next:=⟨_,rfl⟩
 rw[←hdn]at HLf
 have hd0:¬(dn:Int)=0:=by omega
 have hd1:¬dn=0:=by omega
 obtain⟨bn,hbn⟩:∃bn,bn=(bs.map Prod.fst).length:=⟨_,rfl⟩;have hbl:(bs.map Prod.fst).length=bs.length:=List.length_map ..;have HOk:=qd hok
 have hbs:∀b∈bs,b.1<w.heap.size∧b.2<w.heap.size:=fun b hb=>by
  obtain⟨j,hj⟩:=List.getElem?_of_mem hb;obtain⟨hlt,_⟩:=List.getElem?_eq_some_iff.1 hj
  have hlt2:j<Ts.length:=by rw[←hts.len];exact hlt
  have:=hts.at_ j b Ts[j] hj (List.getElem?_eq_getElem hlt2);exact⟨this.ltT,this.ltG⟩
 obtain⟨es,hes⟩:∃es,es=entsG (T.gs.getD next []):=⟨_,rfl⟩;rw[←hes]at hfit⊢;have HEs:=qd hes;clear hes;have HBd:=qd hbd;have HV:=qd (h);have HT:=qd (ht);have HTs:=qd (hts);have HV0:=qd (hE);have HM:=qd (hM);have Hmod:=qd (Mod.refl (P.mb::eb::tb::gb::flatB bs) w);have HF:=qd hfit;clear h ht hts hE hM hok hdn hfit;have q1:=qJ HV.out.lt (qJ HV.out.ltV (qJ HT.out.ltT (qJ HT.out.ltG HM.out.lt)));go_in;go_upto_region 1 with fail;go_wp2_with fail;refine(HLf.out).mono ?_;rintro y w1 ⟨rfl,hw1⟩;have hm:Mod [] w w1:=hw1▸Mod.drewN [] w 1;clear hw1 HLf;replace HV:=qM hm HV;replace HT:=qM hm HT;replace HTs:=qd (HTs.out.mod hm (fun b hb=>by have hh:=hbd b hb;simp<;>omega));replace HV0:=qM hm HV0;replace HM:=qM hm HM;have z6:=(hm).size;replace Hmod:=qU Hmod hm;clear hm;have HU:=qd (meter_Unit P.mb P.mt P.pre P.post P.mo _ _ P.m 1 (by omega) w1 HM.out);clear HM;go_wp2_with fail;refine(HU.out).mono ?_;rintro x w2 ⟨rfl,hM2,hm⟩;replace HV:=qM hm HV;replace HT:=qM hm HT;replace HTs:=qd (HTs.out.mod hm (fun b hb=>by have hh:=hbd b hb;simp<;>omega));replace HV0:=qM hm HV0;have z7:=(hm).size;replace Hmod:=qU Hmod hm;clear hm;have HM:=qd (show MetP w2 P (x.add (cU 1) 1)from hM2);clear hM2 HU;go_upto_region 4 with fail;have hEb:=HV.out.blk;rw[←hbn]at hEb;have HEb:=qd (hEb);clear hEb;have ec:=HEb.out.c4;refine rT (fun(w':World)=>w'.cell? ⟨eb,0,none⟩=some (.pointer (some ⟨tb,0,none⟩))∧w'.cell? ⟨eb,3,none⟩=some (.int .i64 (next:Int))) [] ?_;have hHeld:=(⟨ec.1,ec.2.2.2⟩:_∧_);refine vW 0 rfl ?_
 refine vW 1 rfl ?_;refine vW 2 rfl ?_;refine vT 3 rfl ?_;refine vW 4 rfl ?_;refine vW 6 rfl ?_;refine vW 7 rfl ?_;refine vW 8 rfl ?_;refine vT 9 rfl ?_;refine vW 15 rfl ?_;refine nT 5 rfl fun K hK=> ?_;go_simp;refine(meter_Working (some ⟨P.mb,P.mo,none⟩) _).mono ?_;rintro y w3 ⟨rfl,hb⟩;replace hb:Below w2.heap.size w2 w3:=below_nx hb (Below.refl _ _).drew;unfold lensV;clear ec;replace HV:=qB hb HV;replace HT:=qB hb HT;replace HTs:=qd (HTs.out.mod (Mod.of_below hb []) (by simp));replace HV0:=qB hb HV0;replace HM:=qB hb HM;replace HEb:=qB hb HEb;have z8:=(hb).size;replace Hmod:=qT Hmod hb;clear hb;have ec:=HEb.out.c4;go_wp2_with fail;have hHeld:=(⟨ec.1,ec.2.2.2⟩:_∧_);refine kO hK ?_;clear hK K;refine nT 10 rfl fun K hK=> ?_;go_simp;have HTk:=qd (table_Take tb gb T P (x.add (cU 1) 1) cV next hn HOk.out w3 HT.out HM.out HV0.out (by omega) (by omega) hb0 hb1 hb2);unfold tabP lensV cV at HTk;refine(HTk.out).mono ?_;rintro y w4 ⟨A,cc,rfl,hOw,hT4,hM4,hm⟩;clear HTk HT HM ec;replace HV:=qM hm HV;replace HTs:=qd (HTs.out.mod hm (fun b hb=>by have hh:=hbd b hb;simp<;>omega));replace HV0:=qM hm HV0;replace HEb:=qM hm HEb;have z9:=(hm).size;replace Hmod:=qU Hmod hm;have HT:=qd (hT4);have HM:=qd (hM4);have HOw:=qd (hOw);clear hT4 hM4 hOw hm;have ec:=HEb.out.c4;rw[←HEs.out]at HOw⊢;go_wp2_with fail;have hHeld:=(⟨ec.1,ec.2.2.2⟩:_∧_);refine kO hK ?_;clear hK K;refine vW 11 rfl ?_;refine vW 12 rfl ?_;refine nT 13 rfl fun K hK=> ?_;go_simp;refine(must_ents A es.length cc w4).mono ?_
 rintro y w5 ⟨rfl,rfl⟩;go_wp2_with fail;have hHeld:=(⟨ec.1,ec.2.2.2⟩:_∧_);refine kO hK ?_;clear hK K;refine vW 14 rfl ?_;refine doneT (by kernel_rfl) ?_ _
 have hes8:es.length≤8:=by have h1:=grp_count (T.gs.getD next []);have h2:=HOk.out.wide.at_ hn;rw[HEs.out];omega
 clear hd0 hd1;go_wp2;clear ec HEb;obtain⟨st0,hst0⟩:∃st0:Mtr×List TabM,st0=((x.add (cU 1) 1).add cV 1,Ts):=⟨_,rfl⟩;go_loopw [6,7,8,29] (fun _ _ _ i wr=>∃j:Nat,j≤es.length∧i= .int .i64 j∧EvAt wr eb tb vb cap (bs.map Prod.fst) depth next∧TabAt wr tb gb (takeN T next 8)∧TabsAt wr bs (moveL bs.length depth st0 (es.take j)).2∧MetP wr P (moveL bs.length depth st0 (es.take j)).1∧Env W0 E wr∧wr.ownsRow w3.heap.size 45 3 (.slice A es.length cc) es.length (es.flatMap entCells)∧Mod (P.mb::eb::tb::gb::flatB bs) w wr) (fun _ _ _ i _=>es.length-(intOf i).toNat)
 case atStart=>exact⟨0,by omega,rfl,HV.out,HT.out,by rw[hst0];exact HTs.out,by rw[hst0];exact HM.out,HV0.out,HOw.out,Hmod.out⟩
 case round=>
  clear HV HT HTs HM HV0 HOw Hmod;obtain⟨j,hj,rfl,hV,hT,hTs,hM,hE,hOw,hm⟩:=hrel;by_cases hlt:j<es.length
  ·have hlt':(j:Int)<(es.length:Int):=by omega
   have hj0:(0:Int)≤(j:Int):=by omega
   obtain⟨e,he⟩:∃e,es[j]?=some e:=⟨_,List.getElem?_eq_getElem hlt⟩;obtain⟨g,rfl,hgb,k0,k1,k2,hjn⟩:=ent_cells hOw he;have HSn:=qd (moveL_snoc bs.length depth st0 he);obtain⟨T1,hT1,hcp⟩:=fits_at (x:=(x.add (cU 1) 1).add cV 1) HF.out he;rw[←hst0]at hT1;clear he hjn;obtain⟨st,hst⟩:∃st,st=moveL bs.length depth st0 (es.take j):=⟨_,rfl⟩;rw[←hst]at hTs hM HSn hT1;clear hst;obtain⟨sd,hsd⟩:∃sd,sd=sideOf bs.length depth e.hash:=⟨_,rfl⟩;have HSd:=qd hsd;rw[←hsd]at hT1;clear hsd;obtain⟨b,hb⟩:∃b,bs[sd]?=some b:=⟨_,List.getElem?_eq_getElem (by rw[hTs.len];exact(List.getElem?_eq_some_iff.1 hT1).1)⟩;have hbm:=List.mem_of_getElem? hb;have hbb:=hbd b hbm;have hbs4:=hbs b hbm;have hb4b:=hb4 b hbm;have HBi:=qd hb;have HT1:=qd hT1;have HCp:=qd hcp;clear hb hT1 hcp;have HV:=qd (hV);have HT:=qd (hT);have HTs:=qd (hTs);have HM:=qd (hM);have HV0:=qd (hE);have HOw:=qd (hOw);have Hmod:=qd (hm);clear hV hT hTs hM hE hOw hm;have HTg:=qd (fun(V:World) (hV:EvAt V eb tb vb cap (bs.map Prod.fst) depth next)=>evac_Target eb tb vb cap (bs.map Prod.fst) depth next e.hash b.1 (by rw[List.length_map];exact hk) hd HCp.out.h64 (by rw[List.length_map,←HSd.out,List.getElem?_map,HBi.out];rfl) V hV);unfold tabP at HTg;go_upto_region 7 with fail;have q1:=qJ HV.out.lt (qJ HV.out.ltV (qJ HT.out.ltT (qJ HT.out.ltG (qJ HM.out.lt Hmod.out.size))));refine nameB 45 #[.int .u64 (e.key:Int),.int .u64 (e.val:Int),.int .u64 (e.hash:Int)] ?_;rintro w6 ⟨hnew,hb⟩;obtain⟨xb,hxb⟩:∃xb,xb=wr.heap.size:=⟨_,rfl⟩;rw[←hxb]at hnew⊢
   replace hxb:wr.heap.size≤xb:=by omega
   clear k0 k1 k2;replace HV:=qB hb HV;replace HT:=qB hb HT;replace HTs:=qd (HTs.out.mod (Mod.of_below hb []) (by simp));replace HM:=qB hb HM;replace HV0:=qB hb HV0;replace HOw:=qB hb HOw;have z7:=(hb).size;replace Hmod:=qT Hmod hb;have HX:=qd (hnew);clear hnew hb;have xc:=HX.out.c3;obtain⟨i,s,hfr⟩:=HCp.out.free;have HFr:=qd hfr;clear hfr;refine rT (fun(w':World)=>w'.cell? ⟨xb,0,none⟩=some (.int .u64 (e.key:Int))∧w'.cell? ⟨xb,1,none⟩=some (.int .u64 (e.val:Int))∧w'.cell? ⟨xb,2,none⟩=some (.int .u64 (e.hash:Int))) [] ?_;have hHeld:=(⟨xc.1,xc.2.1,xc.2.2⟩:_∧_∧_);refine vW 0 rfl ?_;refine vW 1 rfl ?_;refine vT 2 rfl ?_;refine vW 4 rfl ?_;refine vT 6 rfl ?_;refine nT 3 rfl fun K hK=> ?_;go_simp;refine(HTg.out _ (HV.out.mod (Mod.drewN [] w6 1) (by simp) (by simp))).mono ?_;rintro y w7 ⟨rfl,hb⟩;replace hb:Below w6.heap.size w6 w7:=below_nx hb (Below.refl _ _).drew;clear xc;replace HV:=qB hb HV;replace HT:=qB hb HT;replace HTs:=qd (HTs.out.mod (Mod.of_below hb []) (by simp));replace HM:=qB hb HM;replace HV0:=qB hb HV0;replace HOw:=qB hb HOw;replace HX:=qB hb HX;have z8:=(hb).size;replace Hmod:=qT Hmod hb;clear hb;have xc:=HX.out.c3;go_wp2_with fail;have hHeld:=(⟨xc.1,xc.2.1,xc.2.2⟩:_∧_∧_);refine kO hK ?_;clear hK K;refine nT 5 rfl fun K hK=> ?_;go_simp;refine(meter_Working (some ⟨P.mb,P.mo,none⟩) _).mono ?_;rintro y w8 ⟨rfl,hb⟩;unfold lensV;clear xc;replace HV:=qB hb HV;replace HT:=qB hb HT;replace HTs:=qd (HTs.out.mod (Mod.of_below hb []) (by simp));replace HM:=qB hb HM
   replace HV0:=qB hb HV0;replace HOw:=qB hb HOw;replace HX:=qB hb HX;have z9:=(hb).size;replace Hmod:=qT Hmod hb;clear hb;have xc:=HX.out.c3;go_wp2_with fail;have hHeld:=(⟨xc.1,xc.2.1,xc.2.2⟩:_∧_∧_);refine kO hK ?_;clear hK K;refine nT 7 rfl fun K hK=> ?_;go_simp;have HPt:=qd (table_Put_new b.1 b.2 T1 P.mb P.mt P.pre P.post P.mo st.1.all st.1.last P.m cV e w8 (HTs.out.at_ sd b T1 HBi.out HT1.out) HCp.out.ok.pow HCp.out.h64 HM.out (by omega) (by omega) HV0.out.tz (by have:=HV0.out.tzlt;omega) HCp.out.none_ i s HFr.out HCp.out.ok.small HCp.out.room);unfold tabP lensV entV cV at HPt;refine(HPt.out).mono ?_;rintro y w9 ⟨rfl,hT9,hM9,hm⟩;clear HPt HM;have hTs9:=HTs.out.set_ HBi.out hT9 hm (by intro q hq;simp at hq;rcases hq with rfl|rfl|rfl;exact .inr (.inr (fun c hc=>by have:=hbd c hc;omega));exact .inl rfl;exact .inr (.inl rfl));clear HTs hT9;have hm0:Mod (P.mb::eb::tb::gb::flatB bs) w8 w9:=hm.more (by intro q hq;simp at hq;rcases hq with rfl|rfl|rfl;simp;simp[mem_flatB];exact .inr (.inr (.inr (.inr ⟨_,_,hbm,.inl rfl⟩)));simp[mem_flatB];exact .inr (.inr (.inr (.inr ⟨_,_,hbm,.inr rfl⟩))));have HmO:=Hmod;clear Hmod;have Hmod:=qd (Mod.refl [P.mb,b.1,b.2] w8);clear xc;replace HV:=qM hm HV;replace HT:=qM hm HT;replace HV0:=qM hm HV0;replace HOw:=qM hm HOw;replace HX:=qM hm HX;have z10:=(hm).size;replace Hmod:=qU Hmod hm;clear Hmod;have Hmod:=qd (HmO.out.then hm0);clear HmO hm0 hm;have HTs:=qd (hTs9);have HM:=qd (show MetP w9 P (st.1.add cV (seek T1.gs e.key e.hash).2.2)from hM9)
   clear hTs9 hM9;have xc:=HX.out.c3;go_wp2_with fail;have hHeld:=(⟨xc.1,xc.2.1,xc.2.2⟩:_∧_∧_);refine kO hK ?_;clear hK K;refine vW 8 rfl ?_;refine vW 9 rfl ?_;refine vW 10 rfl ?_;refine vW 11 rfl ?_;refine vW 12 rfl ?_;refine doneT (by kernel_rfl) ?_ _
   have hgd:st.2.getD sd noT=T1:=by rw[List.getD_eq_getElem?_getD,HT1.out];rfl
   have HNx:=qd (show moveL bs.length depth st0 (es.take (j+1))=(st.1.add cV (seek T1.gs e.key e.hash).2.2,st.2.set sd (placeM T1 i s e))from by rw[HSn.out];unfold moveOne;rw[←HSd.out,hgd];unfold putNew;rw[HFr.out]);clear hgd;have HNd:=qd (trap_Need w9);go_wp2_with fail;refine(HNd.out).mono ?_;rintro y w10 ⟨rfl,rfl⟩;clear xc;go_wp2;go_roundw
   case rel=>exact⟨j+1,by omega,by go_num,HV.out,HT.out,by rw[HNx.out];exact HTs.out,by rw[HNx.out];exact HM.out,HV0.out,HOw.out,Hmod.out⟩
   case measure=>simp[intOf];omega
  ·obtain rfl:j=es.length:=by omega
   have hlt':¬(es.length:Int)<(es.length:Int):=by omega
   rw[List.take_length]at hTs hM;have HEb:=qd (hV.blk);have HW:=qd (hV.row);have HT:=qd (hT);have HTs:=qd (hTs);have HM:=qd (hM);have Hmod:=qd (hm);clear hV hT hTs hM hE hOw hm;have q1:=qJ HEb.out.lt (qJ HW.out.lt (qJ HT.out.ltT (qJ HT.out.ltG HM.out.lt)));have ec:=HEb.out.c4;have ef:=HEb.out.f4;go_upto_region 11 with fail;have q6:=qJ HEb.out.lt (qJ HW.out.lt (qJ HT.out.ltT (qJ HT.out.ltG HM.out.lt)));refine qS1 HEb.out ?_;rintro w11 ⟨hnew,hm⟩;simp only[pt]at hnew;clear ec ef;replace HW:=qM hm HW;replace HT:=qM hm HT;replace HTs:=qd (HTs.out.mod hm (fun b hb=>by have hh:=hbd b hb;simp<;>omega));replace HM:=qM hm HM;have z11:=(hm).size;replace Hmod:=qU Hmod hm;replace HEb:=qd hnew;clear hnew hm;go_wp2;go_ret;exact⟨rfl,⟨HEb.out,HW.out⟩,HT.out,by rw[←hst0];exact HTs.out,by rw[←hst0];exact HM.out,Hmod.out⟩
section
def kOf (n k i:Nat):Nat:=min n (k-i*n)
def footB (db rb ob og:Nat)(bl:List (Nat×Nat×Nat)):List Nat:=db::rb::ob::og::bl.flatMap fun b=> [b.1,b.2.1,b.2.2]
structure DuB (w:World)(db rb cap ob og:Nat)(bl:List (Nat×Nat×Nat))(T:TabM)(n depth k:Nat):Prop where
 blk:Blk w db 293 #[.pointer (some ⟨ob,0,none⟩),.int .i64 (depth:Int),.slice (some ⟨rb,0,none⟩) bl.length cap,.slice none 0 0,.pointer none,.bool false]
 row:RowAt w rb (bl.map fun b=>b.1)
 blds:∀(i:Nat) (b:Nat×Nat×Nat),bl[i]?=some b→BldAt w b.1 b.2.1 b.2.2 n (kOf n k i)
 tab:TabAt w ob og T
 pow:Pw n
 many:1≤bl.length∧bl.length≤2
 lt:k<n*bl.length
 deep:depth≤15
 nd:(footB db rb ob og bl).Nodup
def footM (db rb fb eb vb ob og:Nat)(bbs:List Nat)(bs:List (Nat×Nat)):List Nat:=db::rb::fb::eb::vb::ob::og::(bbs++flatB bs)
structure DuM (w:World)(db rb cap ob og fb fcap eb vb vcap:Nat)(bbs:List Nat)(bs:List (Nat×Nat))(T:TabM)(Ts:List TabM)(n depth next:Nat):Prop where
 blk:Blk w db 293 #[.pointer (some ⟨ob,0,none⟩),.int .i64 (depth:Int),.slice (some ⟨rb,0,none⟩) bbs.length cap,.slice (some ⟨fb,0,none⟩) bs.length fcap,.pointer (some ⟨eb,0,none⟩),.bool false]
 row:RowAt w rb bbs
 blds:∀b∈bbs,Blk w b 335 #[.pointer none,.int .i64 (n:Int),.int .i64 (n:Int)]
 fresh:RowAt w fb (bs.map Prod.fst)
 ev:EvAt w eb ob vb vcap (bs.map Prod.fst) depth next
 tab:TabAt w ob og T
 tabs:TabsAt w bs Ts
 pow:Pw n
 many:1≤bs.length∧bs.length≤2
 eq:bbs.length=bs.length
 deep:depth≤15
 nd:(footM db rb fb eb vb ob og bbs bs).Nodup
section
variable {w w' : World} {db rb cap ob og fb fcap eb vb vcap : Nat} {bl : List (Nat × Nat × Nat)} {bbs : List Nat} {bs : List (Nat × Nat)} {T : TabM} {Ts : List TabM} {n depth k next : Nat}
theorem mem_footB {b:Nat×Nat×Nat}(h:b∈bl):b.1∈footB db rb ob og bl∧b.2.1∈footB db rb ob og bl∧b.2.2∈footB db rb ob og bl:=by
 have h0:∀q∈[b.1,b.2.1,b.2.2],q∈bl.flatMap fun b=> [b.1,b.2.1,b.2.2]:=fun q hq=>List.mem_flatMap.2 ⟨b,h,hq⟩;have h1:=h0 b.1 (by simp);have h2:=h0 b.2.1 (by simp);have h3:=h0 b.2.2 (by simp);unfold footB;simp only[List.mem_cons];exact⟨.inr (.inr (.inr (.inr h1))),.inr (.inr (.inr (.inr h2))),.inr (.inr (.inr (.inr h3)))⟩
theorem DuB.mod {S:List Nat}(h:DuB w db rb cap ob og bl T n depth k)(hm:Mod S w w')(hs:∀q∈footB db rb ob og bl,q∉S):DuB w' db rb cap ob og bl T n depth k:=
 ⟨h.blk.mod hm (hs _ (by simp[footB])),h.row.mod hm (hs _ (by simp[footB])),fun i b hb=>by
  obtain⟨h1,h2,h3⟩:=mem_footB (db:=db) (rb:=rb) (ob:=ob) (og:=og) (List.mem_of_getElem? hb)
  exact(h.blds i b hb).mod hm (hs _ h1) (hs _ h2) (hs _ h3),
  h.tab.mod hm (hs _ (by simp[footB])) (hs _ (by simp[footB])),h.pow,h.many,h.lt,h.deep,h.nd⟩
theorem DuM.mod {S:List Nat}(h:DuM w db rb cap ob og fb fcap eb vb vcap bbs bs T Ts n depth next)(hm:Mod S w w')(hs:∀q∈footM db rb fb eb vb ob og bbs bs,q∉S):DuM w' db rb cap ob og fb fcap eb vb vcap bbs bs T Ts n depth next:=
 ⟨h.blk.mod hm (hs _ (by simp[footM])),h.row.mod hm (hs _ (by simp[footM])),fun b hb=>(h.blds b hb).mod hm (hs _ (by unfold footM;simp[hb])),h.fresh.mod hm (hs _ (by simp[footM])),
  h.ev.mod hm (hs _ (by simp[footM])) (hs _ (by simp[footM])),h.tab.mod hm (hs _ (by simp[footM])) (hs _ (by simp[footM])),
  h.tabs.mod hm (fun b hb=>⟨hs _ (by unfold footM;simp[mem_flatB];exact .inr (.inr (.inr (.inr (.inr (.inr (.inr (.inr ⟨_,_,hb,.inl rfl⟩)))))))),hs _ (by unfold footM;simp[mem_flatB];exact .inr (.inr (.inr (.inr (.inr (.inr (.inr (.inr ⟨_,_,hb,.inr rfl⟩))))))))⟩),h.pow,h.many,h.eq,h.deep,h.nd⟩
end
def dualP (db:Nat):Value:= .pointer (some ⟨db,0,none⟩)
def sumLeft (n k:Nat):Nat→Nat
 |0=>0
 |j+1=>sumLeft n k j+(n-kOf n k j)
theorem sumLeft_eq (n k:Nat):∀j,sumLeft n k j=n*j-min k (n*j)
 |0=>by simp[sumLeft]
 |j+1=>by
  have h1:=sumLeft_eq n k j;unfold sumLeft kOf;rw[h1,Nat.mul_comm j n,Nat.mul_succ];generalize n*j=m;omega
theorem dual_Ready_no (db:Nat)(w:World)(h:w.cell? ⟨db,3,none⟩=some (.slice none 0 0)):
  Calls Tryz.prog 193 #[dualP db] w fun e w'=>e= .returned (.bool false)∧w=w':=by
 unfold dualP;go_in;go_wp2;go_ret;exact⟨rfl,rfl⟩
theorem dual_Ready_yes (db fb fn fcap:Nat)(w:World)(h:w.cell? ⟨db,3,none⟩=some (.slice (some ⟨fb,0,none⟩) fn fcap)):
  Calls Tryz.prog 193 #[dualP db] w fun e w'=>e= .returned (.bool true)∧w=w':=by
 unfold dualP;go_in;go_wp2;go_ret;exact⟨rfl,rfl⟩
theorem dual_Left_bld (db rb cap ob og:Nat)(bl:List (Nat×Nat×Nat))(T:TabM)(n depth k:Nat)(w:World)(h:DuB w db rb cap ob og bl T n depth k)(hgl:T.gs.length≤64):
  Calls Tryz.prog 247 #[dualP db] w fun e w'=>e= .returned (.int .i64 ((T.gs.length+(n*bl.length-k):Nat):Int))∧Below w.heap.size w w':=by
 have hkl0:=h.lt;have HB:=qd (h.blk);have HR:=qd (h.row);have HT:=qd (h.tab);have Hmod:=qd (Mod.refl [] w);obtain⟨many1,many2⟩:=h.many;have HBl:=qd (show∀V,Below w.heap.size w V→∀(i:Nat) (b:Nat×Nat×Nat),bl[i]?=some b→BldAt V b.1 b.2.1 b.2.2 n (kOf n k i)from fun V hV i b hb=>(h.blds i b hb).mod (Mod.of_below hV []) (by simp) (by simp) (by simp));have hn64:=h.pow.le;clear h;obtain⟨g0,hg0⟩:∃g0,g0=T.gs.length:=⟨_,rfl⟩;rw[←hg0]at hgl⊢;unfold dualP;have bc:=HB.out.c6;have HRd:=qd (dual_Ready_no db w bc.2.2.2.1);unfold dualP at HRd;have HG:=qd (table_Groups ob og T w HT.out);rw[←hg0]at HG;unfold tabP at HG;clear hg0;go_in;go_wp2_with fail;refine(HRd.out).mono ?_;rintro y w1 ⟨rfl,rfl⟩;clear HRd;go_wp2_with fail;refine(HG.out).mono ?_;rintro y w1 ⟨rfl,rfl⟩;clear HG;go_wp2;clear bc;have HRow:=HR;clear HB HR HT Hmod;go_loopw [3,5,23] (fun v3 _ i wr=>∃j:Nat,j≤bl.length∧i= .int .i64 j∧v3= .int .i64 ((g0+sumLeft n k j:Nat):Int)∧Below w.heap.size w wr) (fun _ _ i _=>bl.length-(intOf i).toNat)
 case atStart=>exact⟨0,by omega,rfl,by simp[sumLeft],Below.refl _ _⟩
 case round=>
  obtain⟨j,hj,rfl,rfl,hm⟩:=hrel;by_cases hlt:j<bl.length
  ·have hlt':(j:Int)<(bl.length:Int):=by omega
   have hj0:(0:Int)≤(j:Int):=by omega
   obtain⟨b,hb⟩:∃b,bl[j]?=some b:=⟨_,List.getElem?_eq_getElem hlt⟩;have hbl:=HBl.out wr hm j b hb;have hc:=(HRow.out.mod (Mod.of_below hm []) (by simp)).at_ j b.1 (by rw[List.getElem?_map,hb];rfl);have hkl:kOf n k j≤n:=Nat.min_le_left _ _
   have hsl:sumLeft n k j≤128:=by rw[sumLeft_eq];have:n*j≤64*2:=Nat.mul_le_mul hn64 (by omega);omega
   have HC:=qd (build_Left b.1 n (kOf n k j) _ wr hkl hn64 hbl.blk);unfold bldP at HC;have Hm:=qd hm;clear hm hb hbl;go_wp2_with fail;refine(HC.out).mono ?_;rintro y w2 ⟨rfl,hw2⟩;have Hm2:=qd (show Below w.heap.size w w2 from by rw[←hw2];exact Hm.out.trans ((Below.refl _ _).drew.mono Hm.out.size));clear hw2;go_wp2;go_roundw
   case rel=>exact⟨j+1,by omega,by go_num,by first|go_num|(simp[sumLeft];omega),Hm2.out⟩
   case measure=>simp[intOf];omega
  ·obtain rfl:j=bl.length:=by omega
   have hlt':¬(bl.length:Int)<(bl.length:Int):=by omega
   go_wp2;go_ret;exact⟨ret_int (by have:=sumLeft_eq n k bl.length;omega),hm⟩
theorem dual_Left_mov (db rb cap ob og fb fcap eb vb vcap:Nat)(bbs:List Nat)(bs:List (Nat×Nat))(T:TabM)(Ts:List TabM)(n depth next:Nat)(w:World)(h:DuM w db rb cap ob og fb fcap eb vb vcap bbs bs T Ts n depth next)(hgl:T.gs.length≤64)(hnx:next≤T.gs.length):
  Calls Tryz.prog 247 #[dualP db] w fun e w'=>e= .returned (.int .i64 ((T.gs.length-next:Nat):Int))∧w.drew=w':=by
 have bc3:=h.blk.cell 3;have bc4:=h.blk.cell 4;simp only[gl]at bc3 bc4;have HRd:=qd (dual_Ready_yes db fb bs.length fcap w bc3);have HL:=qd (evac_Left eb ob og vb vcap _ depth next T w h.ev h.tab hnx hgl);unfold dualP at HRd⊢;clear h;go_in;go_wp2_with fail;refine(HRd.out).mono ?_;rintro y w1 ⟨rfl,rfl⟩;go_wp2_with fail;refine(HL.out).mono ?_;rintro y w1 ⟨rfl,rfl⟩;go_wp2;go_ret;exact⟨rfl,rfl⟩
end
end Go.Proofs.YthfgacnlojmmfaaGreatDoor
