/- Where a seek ends: the places are of the table. No program in sight. -/
import Derived.Test.YthfgacnlojmmfaaGreatDoorTabS
import Derived.Test.YthfgacnlojmmfaaGreatDoorCoV
import Derived.Test.YthfgacnlojmmfaaGreatDoorCoN
import Derived.Test.YthfgacnlojmmfaaGreatDoorLaneP
namespace Go.Proofs.YthfgacnlojmmfaaGreatDoor.AmC
set_option maxRecDepth 100000
set_option maxHeartbeats 4000000
open Go Go.RowKit AmC
theorem freeG_some {G:Grp}{s:Nat}(h:freeG G=some s):s<G.length∧(G.getD s .empty).isFull=false:=by
 obtain⟨hk,hp,_⟩:=List.findIdx?_eq_some_iff_getElem.1 h;refine⟨hk, ?_⟩;rw[getD_in hk];simpa using hp
def FreePl (gs:Tab)(x:Option (Nat×Nat)):Prop:=∀i s,x=some (i,s)→i<gs.length∧s<(gs.getD i []).length∧(slotAt gs i s).isFull=false
theorem next_free {gs:Tab}{fr:Option (Nat×Nat)}(h:FreePl gs fr){i:Nat}(hi:i<gs.length):FreePl gs (nextFree fr i (gs.getD i [])):=by
 intro a b hab
 cases fr with
 |some x=>exact h a b hab
 |none=>
  unfold nextFree at hab;dsimp only at hab
  cases hg:freeG (gs.getD i [])with
  |none=>rw[hg]at hab;cases hab
  |some s=>
   rw[hg]at hab;cases hab;exact⟨hi,freeG_some hg⟩
theorem over_free (gs:Tab)(key hash:Nat):∀(l:List Nat) (fr:Option (Nat×Nat)),(∀i∈l,i<gs.length)→FreePl gs fr→FreePl gs (seekOver gs key hash l fr).2.1
 | [],_,_,h=>h
 |i::is,fr,hl,h=>by
  have h1:=next_free h (hl i (by simp));have ih:=over_free gs key hash is _ (fun x hx=>hl x (by simp[hx])) h1;rw[seekOver]
  cases findG (gs.getD i []) key hash with
  |some s=>exact h1
  |none=>
   cases openG (gs.getD i [])with
   |true=>exact h1
   |false=>exact ih
theorem walk_lt {h n i:Nat}(hn:0<n)(hi:i∈walk h n):i<n:=by
 obtain⟨j,_,rfl⟩:=List.mem_map.1 hi;exact Nat.mod_lt _ hn
theorem seek_freePl (gs:Tab)(hn:0<gs.length)(key hash:Nat):FreePl gs (seek gs key hash).2.1:=by
 rw[seek_over];exact over_free gs key hash _ none (fun i hi=>walk_lt hn hi) (fun _ _ h=>by cases h)
theorem seek_full {gs:Tab}{key hash i s:Nat}(h:(seek gs key hash).1=some (i,s)):∃e,slotAt gs i s= .full e∧e.key=key∧i<gs.length∧s<(gs.getD i []).length:=by
 obtain⟨e,h1,h2,_⟩:=seek_sound h;have:=slotAt_lt (gs:=gs) (i:=i) (s:=s) (by rw[h1];simp);exact⟨e,h1,h2,this⟩
end Go.Proofs.YthfgacnlojmmfaaGreatDoor.AmC

/-! A table's Find, Put, Delete by their contracts. -/
namespace Go.Proofs.YthfgacnlojmmfaaGreatDoor
set_option maxRecDepth 100000
set_option maxHeartbeats 4000000
open Go Go.RowKit AmC
theorem nameW {p F:World→Prop}{w:World}(h:F w)(h2:∀v,F v→p v):p w:=h2 w h
theorem TzIn.below {w w':World}(h:TzIn w)(hb:Below w.heap.size w w'):TzIn w':=fun i hi=>cell_in hb (h i hi)
theorem TzIn.mod {S:List Nat}{w w':World}(h:TzIn w)(hm:Mod S w w')(hs:18 ∉S):TzIn w':=fun i hi=>
 (hm.cell_ (p:=⟨18,tzIdx i,none⟩) (World.block_lt_of_cell? w _ (h i hi)) hs).trans (h i hi)
def foundE (gs:Tab)(key hash:Nat):Option Ent:=(seek gs key hash).1.map fun x=>(slotAt gs x.1 x.2).ent
def optE (o:Option Ent):Value:= .tuple #[entV (o.getD ⟨0,0,0⟩),.bool o.isSome]
theorem spot_Entry (tb gb key hash:Nat)(T:TabM)(ap fp:Option Addr)(fs:Int)(hap:PtrOf gb (seek T.gs key hash).1 ap)(w:World)(h:TabAt w tb gb T):
  Calls Tryz.prog 100 #[spotV tb key hash ap (slotI (seek T.gs key hash).1) fp fs] w fun x w'=>x= .returned (optE (foundE T.gs key hash))∧Below w.heap.size w w':=by
 unfold foundE optE
 cases hs:(seek T.gs key hash).1 with
 |none=>exact spot_Entry_none tb key hash ap fp fs w
 |some x=>
  obtain⟨i,s⟩:=x;obtain⟨e,h1,_,h3,h4⟩:=seek_full hs;obtain rfl:=hap i s hs;have:=spot_Entry_some tb key hash gb fp fs T i s h3 (by have:=h.wide.at_ h3;omega) e h1 w h;simpa[slotI,h1,Slot.ent]using this
theorem table_Put_new (tb gb:Nat)(T:TabM)(mb:Nat)(mt:TypeId)(mpre mpost:List Value)(mo:Nat)(a0 l0:Cnt)(m:Int)(c:Cnt)(e:Ent)(w:World)(h:TabAt w tb gb T)(hP:Pw T.gs.length)(h64:e.hash<18446744073709551616)(hM:Met w mb mt mpre mpost mo a0 l0 m)(hmt:mb≠tb)(hmg:mb≠gb)(hT:TzIn w)(hz:18 ≠mb)(hsk:(seek T.gs e.key e.hash).1=none)(i s:Nat)(hfr:(seek T.gs e.key e.hash).2.1=some (i,s))(hS:Small T)(hroom:T.live+T.tombs+1≤7*(T.gs.length:Int)):
  Calls Tryz.prog 293 #[tabP tb,lensV (some ⟨mb,mo,none⟩) c,entV e] w fun x w'=>x= .returned (.tuple #[.bool true,.nilIface])∧TabAt w' tb gb (placeM T i s e)∧Met w' mb mt mpre mpost mo (plusN a0 c (seek T.gs e.key e.hash).2.2) (plusN l0 c (seek T.gs e.key e.hash).2.2) m∧Mod [mb,tb,gb] w w':=by
 obtain⟨W,hW,hB,hL,hE⟩:=qX2 w 155 #[.pointer (some ⟨mb,mo,none⟩),.int .i64 c.p,.int .i64 c.v,.int .i64 c.u] 45 #[.int .u64 (e.key:Int),.int .u64 (e.val:Int),.int .u64 (e.hash:Int)];obtain⟨lc0,lc1,lc2,lc3⟩:=hL.c4;obtain⟨e0,e1,e2⟩:=hE.c3;have hml:=hM.lt;have htl:=h.ltT;have hgl:=h.ltG;have hTW:=h.below hB;have h8:=fun i hi=>h.wide.at_ (i:=i) hi;have HSk:=qd (table_Seek tb gb e.key e.hash T mb mt mpre mpost mo a0 l0 m c W hTW hP h64 (hM.below hB) hmt hmg (hT.below hB) hz);have HW:=qd hW;have HB:=qd hB;have HEn:=qd (fun ap fp fs hap V hV=>spot_Entry tb gb e.key e.hash T ap fp fs hap V hV);unfold foundE at HEn;rw[hsk]at HEn HSk;rw[hfr]at HSk;simp only[Option.map_none,slotI,optE,Option.getD_none,Option.isSome_none]at HEn HSk;unfold tabP lensV spotV at HSk;unfold spotV entV at HEn;unfold tabP lensV entV;clear hW hB h hM;go_in;go_upto_region 1 with fail;rw[←HW.out];go_wp2_with fail;refine(HSk.out).mono ?_;rintro x w1 ⟨ap,fp,rfl,hap,hfp,hM1,hm1⟩;obtain rfl:=hfp i s rfl;go_upto_region 2 with fail;have hS2:=Blk.new w1 206 #[.pointer (some ⟨tb,0,none⟩),.int .u64 (e.key:Int),.int .u64 (e.hash:Int),.pointer ap,.int .i64 (-1),.pointer (some ⟨gb,i*25,none⟩),.int .i64 (s:Int)];have hb2:=(Below.refl w1.heap.size w1).alloc (Nat.le_refl _) (.cells #[.pointer (some ⟨tb,0,none⟩),.int .u64 (e.key:Int),.int .u64 (e.hash:Int),.pointer ap,.int .i64 (-1),.pointer (some ⟨gb,i*25,none⟩),.int .i64 (s:Int)] 206)
 obtain⟨w2,hw2⟩:∃w2,w2=w1.alloc (.cells #[.pointer (some ⟨tb,0,none⟩),.int .u64 (e.key:Int),.int .u64 (e.hash:Int),.pointer ap,.int .i64 (-1),.pointer (some ⟨gb,i*25,none⟩),.int .i64 (s:Int)] 206):=⟨_,rfl⟩;rw[←hw2]at hS2 hb2⊢;clear hw2;have hT2:=(hTW.mod hm1 (by simp;omega) (by simp;omega)).below hb2;have hM2:=hM1.below hb2;have hE2:=(hE.mod hm1 (by simp;omega)).below hb2 (hE.mod hm1 (by simp;omega)).lt;have hm2:=((Mod.of_below HB.out [mb,tb,gb]).then (hm1.more (by simp))).then (Mod.of_below hb2 [mb,tb,gb]);obtain⟨sp0,sp1,sp2,sp3,sp4,sp5,sp6⟩:=hS2.c7;clear hTW hM1 hm1 hE hb2;go_wp2_with fail;refine(HEn.out ap _ _ (fun _ _ hh=>by cases hh) w2 hT2).mono ?_;rintro x w3 ⟨rfl,hb3⟩;have hb4:=below_nx ((Below.refl w3.heap.size w3).alloc (Nat.le_refl _) (.cells #[.int .u64 0,.int .u64 0,.int .u64 0] 45)) hb3;have hS4:=hS2.below hb4 hS2.lt;have hE4:=hE2.below hb4 hE2.lt;go_upto_region 5 with fail;obtain⟨w4,hw4⟩:∃w4,w4=w3.alloc (.cells #[.int .u64 0,.int .u64 0,.int .u64 0] 45):=⟨_,rfl⟩;rw[←hw4]at hb4 hS4 hE4
 try rw[←hw4]
 clear hw4 hb3 hS2 hE2;have hFp:=seek_freePl T.gs hP.pos e.key e.hash i s hfr
 have hs8:s<8:=by have:=h8 i hFp.1;omega
 have HPl:=qd (spot_Place tb gb ap T i s e hFp.1 hs8 h64 hFp.2.2 hS hroom w4 (hT2.below hb4));unfold spotV entV at HPl;have HM4:=qd (hM2.below hb4);have HM5:=qd (hm2.then (Mod.of_below hb4 [mb,tb,gb]));clear hT2 hM2 hm2 hb4;obtain⟨sq0,sq1,sq2,sq3,sq4,sq5,sq6⟩:=hS4.c7;obtain⟨eq0,eq1,eq2⟩:=hE4.c3;go_wp2_with fail;refine(HPl.out).mono ?_;rintro x w5 ⟨rfl,hT5,hm5⟩;have HT5:=qd hT5;have HM6:=qd (HM4.out.mod hm5 (by simp;omega));have HM7:=qd (HM5.out.then (hm5.more (by simp)));clear hT5 hm5;go_wp2;refine bodyPost_ret (v:= .tuple #[.bool true,.nilIface]) (by simp[results,Tryz.results293,go_sem]) rfl ⟨rfl,HT5.out,HM6.out,HM7.out⟩
end Go.Proofs.YthfgacnlojmmfaaGreatDoor

/-! A table's look and Prepare by their contracts. -/
namespace Go.Proofs.YthfgacnlojmmfaaGreatDoor
set_option maxRecDepth 100000
set_option maxHeartbeats 4000000
open Go Go.RowKit AmC
theorem table_look (tb gb:Nat)(T:TabM)(mb:Nat)(mt:TypeId)(mpre mpost:List Value)(mo:Nat)(a0 l0:Cnt)(m:Int)(c:Cnt)(i:Nat)(hi:i<T.gs.length)(w:World)(h:TabAt w tb gb T)(hM:Met w mb mt mpre mpost mo a0 l0 m)(hmt:mb≠tb)(hmg:mb≠gb):
  Calls Tryz.prog 299 #[tabP tb,lensV (some ⟨mb,mo,none⟩) c,.int .i64 (i:Int)] w fun x w'=>x= .returned (.tuple #[viewV ⟨gb,i*25,none⟩,.bool true])∧Met w' mb mt mpre mpost mo (plusC a0 c) (plusC l0 c) m∧Mod [mb] w w':=by
 obtain⟨W,hW,hB,hL,hR⟩:=qX2 w 155 #[.pointer (some ⟨mb,mo,none⟩),.int .i64 c.p,.int .i64 c.v,.int .i64 c.u] 202 #[.pointer none];have lc:=hL.c4;have rc0:=hR.cell 0;simp only[List.getElem?_toArray,List.getElem?_cons_zero]at rc0;have hml:=hM.lt;have htl:=h.ltT;have hgl:=h.ltG;have HW:=qd hW
 have hi':(i:Int)<(T.gs.length:Int):=by omega
 have hi0:¬((i:Int)<0):=by omega
 have hi2:(0:Int)≤(i:Int):=by omega
 have HLk:=qd (group_Look ⟨gb,i*25,none⟩ mb mt mpre mpost mo a0 l0 m c W.drew (hM.below (hB.trans ((Below.refl _ _).drew.mono hB.size))));obtain⟨tc0,tc1,tc2⟩:=(h.below hB).cells;unfold lensV at HLk;unfold tabP lensV viewV;have HT:=qd (h.below hB);have HR:=qd (hR);have Hmod:=qd (Mod.of_below hB [mb]);clear hW hB h hM hL hR;go_in;go_upto_region 1 with fail;rw[←HW.out];go_upto_region 3 with fail;refine rT (fun(w':World)=>w'.cell? ⟨tb,0,none⟩=some (.slice (some ⟨gb,0,none⟩) T.gs.length T.gs.length)∧w'.cell? ⟨w.heap.size,0,none⟩=some (.pointer (some ⟨mb,mo,none⟩))∧w'.cell? ⟨w.heap.size,1,none⟩=some (.int .i64 c.p)∧w'.cell? ⟨w.heap.size,2,none⟩=some (.int .i64 c.v)∧w'.cell? ⟨w.heap.size,3,none⟩=some (.int .i64 c.u)) [7,8] ?_;have hHeld:=(⟨tc0,lc.1,lc.2.1,lc.2.2.1,lc.2.2.2⟩:_∧_∧_∧_∧_);refine vW 0 rfl ?_;refine vW 1 rfl ?_;refine vW 2 rfl ?_;refine vT 3 rfl ?_;refine vW 4 rfl ?_;refine vW 5 rfl ?_;refine vT 6 rfl ?_;refine nT 7 rfl fun K hK=> ?_;go_simp;refine(HLk.out).mono ?_;rintro x w1 ⟨rfl,hM1,hm⟩;replace hm:Mod [mb] W w1:=(Mod.drewN [mb] W 1).then hm;clear lc rc0;replace HT:=qM hm HT;replace HR:=qM hm HR;replace Hmod:=qU Hmod hm;have HM:=qd (hM1);clear hM1 hm;unfold viewV;have rc0:=HR.out.cell 0;simp only[List.getElem?_toArray,List.getElem?_cons_zero]at rc0;have rf0:=HR.out.frozen 0;have n0:=HT.out.cells.1;go_simp;refine kO hK ?_;clear hK K;refine nT 8 rfl fun K hK=> ?_;go_simp;refine kO hK ?_;clear hK K;refine vL 9 rfl ?_;refine doneT (by kernel_rfl) ?_ _
 have q1:=qJ HT.out.ltT (qJ HT.out.ltG (qJ HR.out.lt HM.out.lt));have hnew:=(HR.out.set_ 0 (.pointer (some ⟨gb,i*25,none⟩)));have hm:=((Mod.refl [(w.heap.size+1)] w1).sl 0 (.pointer (some ⟨gb,i*25,none⟩)));simp only[pt]at hnew;refine nameW (F:=fun v=>Blk v (w.heap.size+1) 202 #[.pointer (some ⟨gb,i*25,none⟩)]∧Mod [(w.heap.size+1)] w1 v) ⟨hnew,hm⟩ ?_;clear hnew hm;rintro w2 ⟨hnew,hm⟩;clear rc0 rf0;replace HT:=qM hm HT;replace HM:=qM hm HM;replace Hmod:=qU Hmod hm;replace HR:=qd hnew;clear hnew hm;have rc0:=HR.out.cell 0;simp only[List.getElem?_toArray,List.getElem?_cons_zero]at rc0;go_wp2;refine bodyPost_ret (v:= .tuple #[.agg #[.pointer (some ⟨gb,i*25,none⟩)],.bool true]) (by simp[results,Tryz.results299,go_sem,rc0]) rfl ⟨rfl,HM.out,Hmod.out⟩
theorem table_Prepare (tb gb:Nat)(T:TabM)(mb:Nat)(mt:TypeId)(mpre mpost:List Value)(mo:Nat)(a0 l0:Cnt)(m:Int)(c:Cnt)(i:Nat)(hi:i<T.gs.length)(w:World)(h:TabAt w tb gb T)(hM:Met w mb mt mpre mpost mo a0 l0 m)(hmt:mb≠tb)(hmg:mb≠gb):
  Calls Tryz.prog 294 #[tabP tb,lensV (some ⟨mb,mo,none⟩) c,.int .i64 (i:Int)] w fun x w'=>x= .returned .nilIface∧TabAt w' tb gb {T with gs:=T.gs.set i (List.replicate 8 .empty)}∧Met w' mb mt mpre mpost mo (plusC a0 c) (plusC l0 c) m∧Mod [mb,tb,gb] w w':=by
 have hB:=(Below.refl w.heap.size w).alloc (Nat.le_refl _) (.cells #[.pointer (some ⟨mb,mo,none⟩),.int .i64 c.p,.int .i64 c.v,.int .i64 c.u] 155);have hL:=Blk.new w 155 #[.pointer (some ⟨mb,mo,none⟩),.int .i64 c.p,.int .i64 c.v,.int .i64 c.u];obtain⟨W,hW⟩:∃W,W=w.alloc (.cells #[.pointer (some ⟨mb,mo,none⟩),.int .i64 c.p,.int .i64 c.v,.int .i64 c.u] 155):=⟨_,rfl⟩;rw[←hW]at hB hL;obtain⟨lc0,lc1,lc2,lc3⟩:=hL.c4;have hml:=hM.lt;have htl:=h.ltT;have hgl:=h.ltG;have HW:=qd hW;have HLk:=qd (table_look tb gb T mb mt mpre mpost mo a0 l0 m c i hi W (h.below hB) (hM.below hB) hmt hmg);unfold tabP lensV viewV at HLk;unfold tabP lensV;have HT:=qd (h.below hB);have Hmod:=qd (Mod.of_below hB [mb,tb,gb]);clear hW hB h hM hL;go_in;go_upto_region 1 with fail;rw[←HW.out];go_wp2_with fail;refine(HLk.out).mono ?_;rintro x w1 ⟨rfl,hM1,hm⟩;clear lc0 lc1 lc2 lc3;replace HT:=qM hm HT;replace Hmod:=qU Hmod hm;clear hm;have HM:=qd (hM1);clear hM1;go_upto_region 4 with fail;have q1:=qJ HT.out.ltT (qJ HT.out.ltG (qJ HM.out.lt Hmod.out.size));refine nameB 202 #[.pointer (some ⟨gb,i*25,none⟩)] ?_;rintro w2 ⟨hnew,hb⟩;replace HT:=qB hb HT;replace HM:=qB hb HM;replace Hmod:=qT Hmod hb;have HV:=qd (hnew);clear hnew hb;have vc0:=HV.out.cell 0;simp only[List.getElem?_toArray,List.getElem?_cons_zero]at vc0;have HCl:=qd (grp_Clear gb 242 _ _ (i*25) _ w2 (HT.out.group i hi));unfold viewV at HCl;go_wp2_with fail;refine(HCl.out).mono ?_
 rintro x w3 ⟨rfl,hG3,hm⟩;have hT3:=HT.out.set_group i hi hm hG3;clear HT hG3 HV vc0;replace HM:=qM hm HM;replace Hmod:=qU Hmod hm;have HT:=qd (hT3);clear hm hT3;go_wp2;go_ret;exact⟨rfl,HT.out,HM.out,Hmod.out⟩
end Go.Proofs.YthfgacnlojmmfaaGreatDoor

/-! A table that counts right: what a write leaves of that. No statement of the claim. -/
namespace Go.Proofs.YthfgacnlojmmfaaGreatDoor
set_option maxRecDepth 100000
set_option maxHeartbeats 4000000
open Go Go.RowKit AmC
variable {T : TabM} {i s : Nat}
structure TOk (T:TabM):Prop where
 wide:Wide T.gs
 pow:Pw T.gs.length
 live:T.live=((entsT T.gs).length:Int)
 tombs:T.tombs=(tombsT T.gs:Int)
theorem TOk.small (h:TOk T):Small T:=by
 have h1:=room_most h.wide;have h2:=h.pow.le;exact⟨by rw[h.live];omega,by rw[h.live];omega,by rw[h.tombs];omega,by rw[h.tombs];omega,h2⟩
theorem TOk.put (h:TOk T)(hi:i<T.gs.length)(hs:s<(T.gs.getD i []).length)(x:Slot){l t:Int}(hl:l=T.live+x.ents.length-(slotAt T.gs i s).ents.length)(ht:t=T.tombs+x.tomb1-(slotAt T.gs i s).tomb1):TOk ⟨putAt T.gs i s x,l,t⟩:=by
 have h1:=(entsT_put hi hs x).length_eq;have h2:=tombsT_put hi hs x;rw[List.length_append,List.length_append]at h1;have h3:=h.live;have h4:=h.tombs;exact⟨h.wide.put _ _ _,by show Pw (putAt _ _ _ _).length;rw[putAt_length];exact h.pow,by show l=((entsT (putAt T.gs i s x)).length:Int);omega,by show t=(tombsT (putAt T.gs i s x):Int);omega⟩
theorem TOk.erase (h:TOk T){e:Ent}(he:slotAt T.gs i s= .full e):TOk (eraseM T i s):=by
 obtain⟨hi,hs⟩:=slotAt_lt (gs:=T.gs) (i:=i) (s:=s) (by rw[he];exact fun h=>by cases h);unfold eraseM
 cases ho:openG (T.gs.getD i [])with
 |true=>exact h.put hi hs _ (by rw[he];simp[Slot.ents]<;>omega) (by rw[he];simp[Slot.tomb1,Slot.isTomb]<;>omega)
 |false=>exact h.put hi hs _ (by rw[he];simp[Slot.ents]<;>omega) (by rw[he];simp[Slot.tomb1,Slot.isTomb]<;>omega)
theorem TOk.place (h:TOk T)(hi:i<T.gs.length)(hs:s<(T.gs.getD i []).length)(he:(slotAt T.gs i s).isFull=false)(e:Ent):TOk (placeM T i s e):=by
 unfold placeM
 cases hx:slotAt T.gs i s with
 |full y=>rw[hx]at he;cases he
 |empty=>exact h.put hi hs _ (by rw[hx];simp[Slot.ents]<;>omega) (by rw[hx];simp[Slot.tomb1,Slot.isTomb]<;>omega)
 |tomb=>exact h.put hi hs _ (by rw[hx];simp[Slot.ents]<;>omega) (by rw[hx];simp[Slot.tomb1,Slot.isTomb]<;>omega)
theorem TOk.replace (h:TOk T){v:Nat}{e:Ent}(he:slotAt T.gs i s= .full e):TOk (replaceM T i s v e):=by
 obtain⟨hi,hs⟩:=slotAt_lt (gs:=T.gs) (i:=i) (s:=s) (by rw[he];exact fun h=>by cases h);exact h.put hi hs _ (by rw[he];simp[Slot.ents]<;>omega) (by rw[he];simp[Slot.tomb1,Slot.isTomb]<;>omega)
def eraseIf (T:TabM)(i s:Nat):TabM:=if(slotAt T.gs i s).isFull then eraseM T i s else T
def takeN (T:TabM)(i:Nat):Nat→TabM
 |0=>T
 |k+1=>eraseIf (takeN T i k) i k
theorem TOk.erIf (h:TOk T)(i s:Nat):TOk (eraseIf T i s):=by
 unfold eraseIf
 cases hx:slotAt T.gs i s with
 |full e=>rw[if_pos (by rfl)];exact h.erase hx
 |empty=>rw[if_neg (by simp[Slot.isFull])];exact h
 |tomb=>rw[if_neg (by simp[Slot.isFull])];exact h
theorem TOk.tkN (h:TOk T)(i:Nat):∀k,TOk (takeN T i k)
 |0=>h
 |k+1=>(h.tkN i k).erIf i k
theorem eraseM_length (T:TabM)(i s:Nat):(eraseM T i s).gs.length=T.gs.length:=putAt_length _ _ _ _
theorem takeN_length (T:TabM)(i:Nat):∀k,(takeN T i k).gs.length=T.gs.length
 |0=>rfl
 |k+1=>by
  show(eraseIf _ _ _).gs.length=_;unfold eraseIf;split
  ·rw[eraseM_length,takeN_length T i k]
  ·exact takeN_length T i k
theorem own_mod {w w':World}{S:List Nat}{base:Nat}{e:TypeId}{size n:Nat}{v:Value}{xs:List Value}(h:w.ownsRow base e size v n xs)(hm:Mod S w w')(hS:∀k,k∈S→k<base):w'.ownsRow base e size v n xs:=by
 refine⟨h.1, ?_⟩;rcases h.2 with hn|⟨g,cap,cur,hv,hb,hg,rest⟩
 ·exact .inl hn
 ·exact .inr ⟨g,cap,cur,hv,hb,(hm.block g (Array.getElem?_eq_some_iff.1 hg).1 (fun hh=>absurd (hS g hh) (by omega))).trans hg,rest⟩
instance {w w':World}{base:Nat}{e:TypeId}{size n:Nat}{v:Value}{xs:List Value}:Md (w.ownsRow base e size v n xs) w w' (w'.ownsRow base e size v n xs) (fun S=>∀k,k∈S→k<base):=⟨fun h hm hs=>own_mod h hm hs⟩
end Go.Proofs.YthfgacnlojmmfaaGreatDoor

/-! What lies below all that is written: the errors, the table of bits; a meter as one thing. No statement of the claim. -/
namespace Go.Proofs.YthfgacnlojmmfaaGreatDoor
set_option maxRecDepth 100000
set_option maxHeartbeats 4000000
open Go Go.RowKit AmC
structure ErrsC (E:Nat→Addr)(w:World):Prop where
 of:∀k,k=1∨k=2∨k=5→ErrAt E w k
theorem ErrsC.at_ {E:Nat→Addr}{w:World}(h:ErrsC E w)(k:Nat)(_:1≤k)(_:k≤16)(hk:k=1∨k=2∨k=5:=by decide):ErrAt E w k:=h.of k hk
theorem ErrsC.below {E:Nat→Addr}{w w':World}{B:Nat}(h:ErrsC E w)(hb:Below B w w')(hB:w.heap.size≤B):ErrsC E w':=⟨fun k hk=>(h.of k hk).below hb hB⟩
theorem ErrsIn.core {E:Nat→Addr}{w:World}(h:ErrsIn E w):ErrsC E w:=⟨fun k hk=>h.at_ k (by omega) (by omega)⟩
structure Env (W0:World)(E:Nat→Addr)(w:World):Prop where
 below:Below W0.heap.size W0 w
 errs0:ErrsC E W0
 tz0:TzIn W0
section
variable {W0 w w' : World} {E : Nat → Addr}
theorem Env.size (h:Env W0 E w):W0.heap.size≤w.heap.size:=h.below.size
theorem Env.errs (h:Env W0 E w):ErrsC E w:=h.errs0.below h.below (Nat.le_refl _)
theorem Env.tz (h:Env W0 E w):TzIn w:=h.tz0.below h.below
theorem Env.tzlt (h:Env W0 E w):18 <W0.heap.size:=World.block_lt_of_cell? W0 _ (h.tz0 0 (by omega))
theorem Env.mod {S:List Nat}(h:Env W0 E w)(hm:Mod S w w')(hS:∀k,k∈S→W0.heap.size≤k):Env W0 E w':=⟨h.below.trans (hm.below hS h.size),h.errs0,h.tz0⟩
instance {w w':World}{W0:World}{E:Nat→Addr}:Md (Env W0 E w) w w' (Env W0 E w') (fun S=>∀k,k∈S→W0.heap.size≤k):=⟨fun h hm hs=>h.mod hm hs⟩
theorem Env.next (h:Env W0 E w)(hb:Below w.heap.size w w'):Env W0 E w':=h.mod (Mod.of_below hb []) (by simp)
end
structure MP where
 mb:Nat
 mt:TypeId
 pre:List Value
 post:List Value
 mo:Nat
 m:Int
structure Mtr where
 all:Cnt
 last:Cnt
def Mtr.add (x:Mtr)(c:Cnt)(n:Nat):Mtr:=⟨plusN x.all c n,plusN x.last c n⟩
theorem plusN_add (a c:Cnt)(k:Nat):∀n,plusN (plusN a c k) c n=plusN a c (k+n)
 |0=>rfl
 |n+1=>by
  show plusC (plusN (plusN a c k) c n) c=plusC (plusN a c (k+n)) c;rw[plusN_add a c k n]
theorem Mtr.add_add (x:Mtr)(c:Cnt)(k n:Nat):(x.add c k).add c n=x.add c (k+n):=by unfold Mtr.add;rw[plusN_add,plusN_add]
def MetP (w:World)(P:MP)(x:Mtr):Prop:=Met w P.mb P.mt P.pre P.post P.mo x.all x.last P.m
def MP.addr (P:MP):Addr:=⟨P.mb,P.mo,none⟩
section
variable {w w' : World} {P : MP} {x : Mtr}
theorem MetP.lt (h:MetP w P x):P.mb<w.heap.size:=Met.lt h
theorem MetP.mod {S:List Nat}(h:MetP w P x)(hm:Mod S w w')(hg:P.mb∉S):MetP w' P x:=Met.mod h hm hg
instance {w w':World}{P:MP}{x:Mtr}:Md (MetP w P x) w w' (MetP w' P x) (fun S=>P.mb∉S):=⟨fun h hm hs=>MetP.mod h hm hs⟩
theorem MetP.below (h:MetP w P x)(hb:Below w.heap.size w w'):MetP w' P x:=Met.below h hb
end
end Go.Proofs.YthfgacnlojmmfaaGreatDoor

/-! A table's Raw by its contract: groups in which nothing is prepared. -/
namespace Go.Proofs.YthfgacnlojmmfaaGreatDoor
set_option maxRecDepth 100000
set_option maxHeartbeats 4000000
open Go Go.RowKit AmC
theorem made_const {z:Array Value}{v:Value}{k:Nat}(hz:z=(List.replicate k v).toArray)(hk:0<k)(n:Nat):madeCells z n=(List.replicate n v).toArray:=by
 apply Array.toList_inj.1;subst hz;unfold madeCells;rw[Array.toList_map];refine List.ext_getElem (by simp) fun i h1 h2=> ?_;simp only[List.getElem_map,List.getElem_replicate];rw[getElem!_pos _ _ (by simp;exact Nat.mod_lt _ hk)];simp
def rawG:Grp:=List.replicate 8 (.full ⟨0,0,0⟩)
theorem gCells_raw:gCells rawG=List.replicate 25 (.int .u64 0):=by rfl
theorem tabCells_raw:∀n,tabCells (List.replicate n rawG)=List.replicate (n*25) (.int .u64 0)
 |0=>rfl
 |n+1=>by
  show gCells rawG++tabCells (List.replicate n rawG)=_;rw[tabCells_raw n,gCells_raw,Nat.add_mul,Nat.add_comm,List.replicate_append_replicate]
def rawZ:Value:= .agg #[.int .u64 0,.agg (Array.replicate 8 (.agg #[.int .u64 0,.int .u64 0,.int .u64 0]))]
theorem info_grp:(Tryz.prog.info? 242).map (fun i=>(i.zero.map fun z=>z.cells,i.size,i.bytes))=some (some (List.replicate 25 (Value.int .u64 0)).toArray,25,200):=by kernel_rfl
theorem make_groups (n:Nat)(hn:n≤64)(W:World):(Instr.makeSlice 236 (.int .i64 (n:Int)) (.int .i64 (n:Int))).run Tryz.prog W= .ok (.slice (some ⟨W.heap.size,0,none⟩) n n) (W.alloc (.cells (tabCells (List.replicate n rawG)).toArray 242)):=by
 have h:=info_grp
 cases hi:Tryz.prog.info? 242 with
 |none=>rw[hi]at h;cases h
 |some i=>
  rw[hi]at h;simp only[Option.map_some,Option.some.injEq,Prod.mk.injEq,Option.map_eq_some_iff]at h;obtain⟨⟨z,hz,hc⟩,hs,hb⟩:=h;have:=run_makeSlice (P:=Tryz.prog) (w:=W) 236 242 i z Tryz.underlying236 hi hz .i64 .i64 (n:Int) (n:Int) (by omega) (Int.le_refl _) (by rw[hs];omega) (by rw[hb];omega) (by omega);rw[this,hs,Int.toNat_natCast,made_const hc (by omega),tabCells_raw]
theorem probe_Right_ok (n:Nat)(hn:Pw n)(w:World):Calls Tryz.prog 190 #[.int .i64 (n:Int)] w fun e w'=>e= .returned (.bool true)∧w=w':=by
 rcases hn with rfl|rfl|rfl|rfl|rfl|rfl|rfl
 all_goals
  go_in;go_wp2;go_ret;exact⟨rfl,rfl⟩
def rawT (n:Nat):TabM:=⟨List.replicate n rawG,0,0⟩
theorem table_Raw (n:Nat)(hn:Pw n)(w:World):
  Calls Tryz.prog 131 #[.int .i64 (n:Int)] w fun e w'=>e= .returned (.tuple #[tabP (w.heap.size+1),.nilIface])∧TabAt w' (w.heap.size+1) w.heap.size (rawT n)∧Below w.heap.size w w':=by
 have HR:=qd (probe_Right_ok n hn w);have hle:=hn.le;have hpos:=hn.pos;have hmk:=make_groups n hle w;unfold tabP;go_in;go_wp2_with fail;refine(HR.out).mono ?_;rintro x w1 ⟨rfl,rfl⟩;go_wp2;refine bodyPost_ret (v:= .tuple #[.pointer (some ⟨w.heap.size+1,0,none⟩),.nilIface]) (by simp[results,Tryz.results131,go_sem]) rfl ⟨rfl,⟨fun G hG=> ?_, ?_, ?_,by omega⟩, ?_⟩
 ·rw[(List.mem_replicate.1 hG).2];rfl
 ·have:=Blk.new (w.alloc (.cells (tabCells (List.replicate n rawG)).toArray 242)) 238 #[.slice (some ⟨w.heap.size,0,none⟩) n n,.int .i64 0,.int .i64 0];rw[World.size_alloc]at this;simpa[rawT]using this
 ·exact(Blk.new w 242 (tabCells (List.replicate n rawG)).toArray).alloc _
 ·exact((Below.refl _ _).alloc (Nat.le_refl _) _).alloc (by simp) _
end Go.Proofs.YthfgacnlojmmfaaGreatDoor

/-! A table's New by its contract; tables of which some groups are prepared. -/
namespace Go.Proofs.YthfgacnlojmmfaaGreatDoor
set_option maxRecDepth 100000
set_option maxHeartbeats 4000000
open Go Go.RowKit AmC
def emptyG:Grp:=List.replicate 8 .empty
def prepG (n k:Nat):Tab:=List.replicate k emptyG++List.replicate (n-k) rawG
theorem prepG_all (n:Nat):prepG n n=bare n:=by unfold prepG;rw[Nat.sub_self];simp[bare,emptyG]
theorem prepG_length {n k:Nat}(h:k≤n):(prepG n k).length=n:=by simp[prepG];omega
theorem prepG_set {n k:Nat}(h:k<n):(prepG n k).set k emptyG=prepG n (k+1):=by
 unfold prepG;rw[List.set_append_right _ _ (by simp),List.length_replicate,Nat.sub_self,show n-k=(n-(k+1))+1 by omega,List.replicate_succ,List.set_cons_zero,List.replicate_succ',List.append_assoc];rfl
def prepT (n k:Nat):TabM:=⟨prepG n k,0,0⟩
theorem prep_ok {n:Nat}(hn:Pw n):TOk (prepT n n):=by
 have h:=(inv_bare hn);refine⟨?_, ?_, ?_, ?_⟩
 ·show Wide (prepG n n);rw[prepG_all];exact h.wide
 ·show Pw (prepG n n).length;rw[prepG_length (Nat.le_refl _)];exact hn
 ·show(0:Int)=((entsT (prepG n n)).length:Int);rw[prepG_all]
  have:entsT (bare n)=[]:=List.eq_nil_iff_forall_not_mem.2 fun e he=>by obtain⟨i,s,hh⟩:=mem_entsT.1 he;rw[slotAt_bare]at hh;cases hh
  rw[this];rfl
 ·show(0:Int)=(tombsT (prepG n n):Int);rw[prepG_all]
  have:∀n,tombsT (bare n)=0:=fun n=>by
   induction n with
   |zero=>rfl
   |succ k ih=>show tombsT (List.replicate 8 Slot.empty::bare k)=0;rw[tombsT_cons,ih];rfl
  rw[this];rfl
theorem table_New (n:Nat)(hn:Pw n)(w:World):
  Calls Tryz.prog 95 #[.int .i64 (n:Int)] w fun e w'=>∃tb gb,w.heap.size≤tb∧w.heap.size≤gb∧e= .returned (.tuple #[tabP tb,.nilIface])∧TabAt w' tb gb (prepT n n)∧Below w.heap.size w w':=by
 have hle:=hn.le;have hpos:=hn.pos;have HRaw:=qd (table_Raw n hn w);unfold tabP at HRaw⊢;go_in;go_upto_region 1 with fail;go_wp2_with fail;refine(HRaw.out).mono ?_;rintro x w1 ⟨rfl,hT1,hb1⟩;obtain⟨tb,htb⟩:∃tb,tb=w.heap.size+1:=⟨_,rfl⟩;obtain⟨gb,hgb⟩:∃gb,gb=w.heap.size:=⟨_,rfl⟩;rw[←htb]at hT1⊢;rw[←hgb]at hT1
 replace htb:w.heap.size≤tb:=by omega
 replace hgb:w.heap.size≤gb:=by omega
 clear HRaw;obtain⟨c0,c1,c2⟩:=hT1.cells
 have hln:(rawT n).gs.length=n:=by simp[rawT]
 rw[hln]at c0;have HT:=qd (show TabAt w1 tb gb (prepT n 0)from hT1);have Hmod:=qd hb1;clear hT1 hb1 hln;go_wp2;go_loopw [6,20] (fun _ i wr=>∃k:Nat,k≤n∧i= .int .i64 k∧TabAt wr tb gb (prepT n k)∧Below w.heap.size w wr) (fun _ i _=>n-(intOf i).toNat)
 case atStart=>exact⟨0,by omega,rfl,HT.out,Hmod.out⟩
 case round=>
  clear HT Hmod c0 c1 c2;obtain⟨k,hk,rfl,hT,hm⟩:=hrel;by_cases hlt:k<n
  ·have hlt':(k:Int)<(n:Int):=by omega
   have hk0:(0:Int)≤(k:Int):=by omega
   obtain⟨c0,c1,c2⟩:=hT.cells;have hln:(prepT n k).gs.length=n:=prepG_length hk;rw[hln]at c0;have htl:=hT.ltT;have hgl:=hT.ltG;have HLk:=qd (group_Look_nil ⟨gb,k*25,none⟩ ⟨0,0,0⟩ wr);have HG:=qd (hT.group k (by rw[hln];exact hlt));have HT:=qd hT;have Hm:=qd hm;have HS:=qd (prepG_set hlt);unfold lensV viewV at HLk;clear hT hm hln;go_wp2_with fail;refine(HLk.out).mono ?_;rintro x w2 ⟨rfl,hb2⟩;have HCl:=qd (grp_Clear gb 242 _ _ (k*25) _ w2 (HG.out.below hb2));have HT2:=qd (HT.out.below hb2);have Hm2:=qd (Hm.out.trans (hb2.mono Hm.out.size));unfold viewV at HCl;clear hb2 HT Hm HG HLk;go_wp2_with fail;refine(HCl.out).mono ?_;rintro x w3 ⟨rfl,hG3,hm3⟩;have HT3:=qd (HT2.out.set_group k (by rw[show(prepT n k).gs.length=n from prepG_length hk];exact hlt) hm3 hG3);have Hm3:=qd (Hm2.out.trans (hm3.below (B:=w.heap.size) (by intro j hj;simp at hj;omega) Hm2.out.size));clear HT2 Hm2 hG3 hm3;go_wp2;go_roundw
   case rel=>exact⟨k+1,by omega,by go_num,by have:=HT3.out;unfold prepT at this⊢;rw[←HS.out];exact this,Hm3.out⟩
   case measure=>simp[intOf];omega
  ·obtain rfl:k=n:=by omega
   have hlt':¬(k:Int)<(k:Int):=by omega
   go_wp2;refine bodyPost_ret (v:= .tuple #[.pointer (some ⟨tb,0,none⟩),.nilIface]) (by simp[results,Tryz.results95,go_sem]) rfl (by first|exact⟨tb,gb,htb,hgb,rfl,hT,hm⟩|exact⟨tb,htb,gb,hgb,rfl,hT,hm⟩)
end Go.Proofs.YthfgacnlojmmfaaGreatDoor
