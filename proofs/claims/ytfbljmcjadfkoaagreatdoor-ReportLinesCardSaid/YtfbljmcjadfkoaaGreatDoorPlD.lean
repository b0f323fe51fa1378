/- Where a seek ends: the places are of the table. No program in sight. -/
import Derived.Test.YtfbljmcjadfkoaaGreatDoorTabS
import Derived.Test.YtfbljmcjadfkoaaGreatDoorCoV
import Derived.Test.YtfbljmcjadfkoaaGreatDoorSqM
import Derived.Test.YtfbljmcjadfkoaaGreatDoorSq
import Derived.Test.YtfbljmcjadfkoaaGreatDoorSqT
import Derived.Deep.LoopGhost
namespace Go.Proofs.YtfbljmcjadfkoaaGreatDoor.AmC
set_option maxRecDepth 100000
set_option maxHeartbeats 2000000
open Go Go.RowKit AmC Go.Shelf AmL
theorem freeG_some {G:Grp}{s:Nat}(h:freeG G=some s):s<G.length∧(G.getD s .empty).isFull=false:=by
 obtain⟨hk,hp,_⟩:=List.findIdx?_eq_some_iff_getElem.1 h;refine⟨hk, ?_⟩;rw[getD_in hk];simpa using hp
def FreePl (gs:Tab)(x:Option (Nat×Nat)):Prop:=∀i s,x=some (i,s)→i<gs.length∧s<(gs.getD i []).length∧(slotAt gs i s).isFull=false
theorem next_free {gs:Tab}{fr:Option (Nat×Nat)}(h:FreePl gs fr){i:Nat}(hi:i<gs.length):FreePl gs (nextFree fr i (gs.getD i [])):=by
 intro a b hab
 cases fr with
 |some x=>exact h a b hab
 |none=>
  unfold nextFree at hab;dsimp only at hab
  cases hg:freeG (gs.getD i [])with
  |none=>rw[hg]at hab;cases hab
  |some s=>
   rw[hg]at hab;cases hab;exact⟨hi,freeG_some hg⟩
theorem over_free (gs:Tab)(key hash:Nat):∀(l:List Nat) (fr:Option (Nat×Nat)),(∀i∈l,i<gs.length)→FreePl gs fr→FreePl gs (seekOver gs key hash l fr).2.1
 | [],_,_,h=>h
 |i::is,fr,hl,h=>by
  have h1:=next_free h (hl i (by simp));have ih:=over_free gs key hash is _ (fun x hx=>hl x (by simp[hx])) h1;rw[seekOver]
  cases findG (gs.getD i []) key hash with
  |some s=>exact h1
  |none=>
   cases openG (gs.getD i [])with
   |true=>exact h1
   |false=>exact ih
theorem walk_lt {h n i:Nat}(hn:0<n)(hi:i∈walk h n):i<n:=by
 obtain⟨j,_,rfl⟩:=List.mem_map.1 hi;exact Nat.mod_lt _ hn
theorem seek_freePl (gs:Tab)(hn:0<gs.length)(key hash:Nat):FreePl gs (seek gs key hash).2.1:=by
 rw[seek_over];exact over_free gs key hash _ none (fun i hi=>walk_lt hn hi) (fun _ _ h=>by cases h)
theorem seek_full {gs:Tab}{key hash i s:Nat}(h:(seek gs key hash).1=some (i,s)):∃e,slotAt gs i s= .full e∧e.key=key∧i<gs.length∧s<(gs.getD i []).length:=by
 obtain⟨e,h1,h2,_⟩:=seek_sound h;have:=slotAt_lt (gs:=gs) (i:=i) (s:=s) (by rw[h1];simp);exact⟨e,h1,h2,this⟩
end Go.Proofs.YtfbljmcjadfkoaaGreatDoor.AmC

/-! A table's Find, Put, Delete by their contracts. -/
namespace Go.Proofs.YtfbljmcjadfkoaaGreatDoor
set_option maxRecDepth 100000
set_option maxHeartbeats 2000000
open Go Go.RowKit AmC Go.Shelf AmL
theorem nameW {p F:World→Prop}{w:World}(h:F w)(h2:∀v,F v→p v):p w:=h2 w h
theorem TzIn.below {w w':World}(h:TzIn w)(hb:Below w.heap.size w w'):TzIn w':=fun i hi=>cell_in hb (h i hi)
theorem TzIn.mod {S:List Nat}{w w':World}(h:TzIn w)(hm:Mod S w w')(hs:19 ∉S):TzIn w':=fun i hi=>
 (hm.cell_ (p:=⟨19,tzIdx i,none⟩) (World.block_lt_of_cell? w _ (h i hi)) hs).trans (h i hi)
def foundE (gs:Tab)(key hash:Nat):Option Ent:=(seek gs key hash).1.map fun x=>(slotAt gs x.1 x.2).ent
def optE (o:Option Ent):Value:= .tuple #[entV (o.getD ⟨0,0,0⟩),.bool o.isSome]
theorem spot_Entry (tb gb key hash:Nat)(T:TabM)(ap fp:Option Addr)(fs:Int)(hap:PtrOf gb (seek T.gs key hash).1 ap)(w:World)(h:TabAt w tb gb T):
  Calls Tryz.prog 165 #[spotV tb key hash ap (slotI (seek T.gs key hash).1) fp fs] w fun x w'=>x= .returned (optE (foundE T.gs key hash))∧Below w.heap.size w w':=by
 unfold foundE optE
 cases hs:(seek T.gs key hash).1 with
 |none=>exact spot_Entry_none tb key hash ap fp fs w
 |some x=>
  obtain⟨i,s⟩:=x;obtain⟨e,h1,_,h3,h4⟩:=seek_full hs;obtain rfl:=hap i s hs;have:=spot_Entry_some tb key hash gb fp fs T i s h3 (by have:=h.wide.at_ h3;omega) e h1 w h;simpa[slotI,h1,Slot.ent]using this
theorem table_Put_new (tb gb:Nat)(T:TabM)(mb:Nat)(mt:TypeId)(mpre mpost:List Value)(mo:Nat)(a0 l0:Cnt)(m:Int)(c:Cnt)(e:Ent)(w:World)(h:TabAt w tb gb T)(hP:Pw T.gs.length)(h64:e.hash<18446744073709551616)(hM:Met w mb mt mpre mpost mo a0 l0 m)(hmt:mb≠tb)(hmg:mb≠gb)(hT:TzIn w)(hz:19 ≠mb)(hsk:(seek T.gs e.key e.hash).1=none)(i s:Nat)(hfr:(seek T.gs e.key e.hash).2.1=some (i,s))(hS:Small T)(hroom:T.live+T.tombs+1≤7*(T.gs.length:Int)):
  Calls Tryz.prog 335 #[tabP tb,lensV (some ⟨mb,mo,none⟩) c,entV e] w fun x w'=>x= .returned (.tuple #[.bool true,.nilIface])∧TabAt w' tb gb (placeM T i s e)∧Met w' mb mt mpre mpost mo (plusN a0 c (seek T.gs e.key e.hash).2.2) (plusN l0 c (seek T.gs e.key e.hash).2.2) m∧Mod [mb,tb,gb] w w':=by
 obtain⟨W,hW,hB,hL,hE⟩:=qX2 w 203 #[.pointer (some ⟨mb,mo,none⟩),.int .i64 c.p,.int .i64 c.v,.int .i64 c.u] 199 #[.int .u64 (e.key:Int),.int .u64 (e.val:Int),.int .u64 (e.hash:Int)];obtain⟨lc0,lc1,lc2,lc3⟩:=hL.c4;obtain⟨e0,e1,e2⟩:=hE.c3;have hml:=hM.lt;have htl:=h.ltT;have hgl:=h.ltG;have hTW:=h.below hB;have h8:=fun i hi=>h.wide.at_ (i:=i) hi;have HSk:=qd (table_Seek tb gb e.key e.hash T mb mt mpre mpost mo a0 l0 m c W hTW hP h64 (hM.below hB) hmt hmg (hT.below hB) hz);have HW:=qd hW;have HB:=qd hB;have HEn:=qd (fun ap fp fs hap V hV=>spot_Entry tb gb e.key e.hash T ap fp fs hap V hV);unfold foundE at HEn;rw[hsk]at HEn HSk;rw[hfr]at HSk;simp only[Option.map_none,slotI,optE,Option.getD_none,Option.isSome_none]at HEn HSk;unfold tabP lensV spotV at HSk;unfold spotV entV at HEn;unfold tabP lensV entV;clear hW hB h hM;go_in;go_upto_region 1 with fail;rw[←HW.out];go_wp2_with fail;refine(HSk.out).mono ?_;rintro x w1 ⟨ap,fp,rfl,hap,hfp,hM1,hm1⟩;obtain rfl:=hfp i s rfl;go_upto_region 2 with fail;have hS2:=Blk.new w1 246 #[.pointer (some ⟨tb,0,none⟩),.int .u64 (e.key:Int),.int .u64 (e.hash:Int),.pointer ap,.int .i64 (-1),.pointer (some ⟨gb,i*25,none⟩),.int .i64 (s:Int)];have hb2:=(Below.refl w1.heap.size w1).alloc (Nat.le_refl _) (.cells #[.pointer (some ⟨tb,0,none⟩),.int .u64 (e.key:Int),.int .u64 (e.hash:Int),.pointer ap,.int .i64 (-1),.pointer (some ⟨gb,i*25,none⟩),.int .i64 (s:Int)] 246)
 obtain⟨w2,hw2⟩:∃w2,w2=w1.alloc (.cells #[.pointer (some ⟨tb,0,none⟩),.int .u64 (e.key:Int),.int .u64 (e.hash:Int),.pointer ap,.int .i64 (-1),.pointer (some ⟨gb,i*25,none⟩),.int .i64 (s:Int)] 246):=⟨_,rfl⟩;rw[←hw2]at hS2 hb2⊢;clear hw2;have hT2:=(hTW.mod hm1 (by simp;omega) (by simp;omega)).below hb2;have hM2:=hM1.below hb2;have hE2:=(hE.mod hm1 (by simp;omega)).below hb2 (hE.mod hm1 (by simp;omega)).lt;have hm2:=((Mod.of_below HB.out [mb,tb,gb]).then (hm1.more (by simp))).then (Mod.of_below hb2 [mb,tb,gb]);obtain⟨sp0,sp1,sp2,sp3,sp4,sp5,sp6⟩:=hS2.c7;clear hTW hM1 hm1 hE hb2;go_wp2_with fail;refine(HEn.out ap _ _ (fun _ _ hh=>by cases hh) w2 hT2).mono ?_;rintro x w3 ⟨rfl,hb3⟩;have hb4:=below_nx ((Below.refl w3.heap.size w3).alloc (Nat.le_refl _) (.cells #[.int .u64 0,.int .u64 0,.int .u64 0] 199)) hb3;have hS4:=hS2.below hb4 hS2.lt;have hE4:=hE2.below hb4 hE2.lt;go_upto_region 5 with fail;obtain⟨w4,hw4⟩:∃w4,w4=w3.alloc (.cells #[.int .u64 0,.int .u64 0,.int .u64 0] 199):=⟨_,rfl⟩;rw[←hw4]at hb4 hS4 hE4
 try rw[←hw4]
 clear hw4 hb3 hS2 hE2;have hFp:=seek_freePl T.gs hP.pos e.key e.hash i s hfr
 have hs8:s<8:=by have:=h8 i hFp.1;omega
 have HPl:=qd (spot_Place tb gb ap T i s e hFp.1 hs8 h64 hFp.2.2 hS hroom w4 (hT2.below hb4));unfold spotV entV at HPl;have HM4:=qd (hM2.below hb4);have HM5:=qd (hm2.then (Mod.of_below hb4 [mb,tb,gb]));clear hT2 hM2 hm2 hb4;obtain⟨sq0,sq1,sq2,sq3,sq4,sq5,sq6⟩:=hS4.c7;obtain⟨eq0,eq1,eq2⟩:=hE4.c3;go_wp2_with fail;refine(HPl.out).mono ?_;rintro x w5 ⟨rfl,hT5,hm5⟩;have HT5:=qd hT5;have HM6:=qd (HM4.out.mod hm5 (by simp;omega));have HM7:=qd (HM5.out.then (hm5.more (by simp)));clear hT5 hm5;go_wp2;refine bodyPost_ret (v:= .tuple #[.bool true,.nilIface]) (by simp[results,Tryz.results335,go_sem]) rfl ⟨rfl,HT5.out,HM6.out,HM7.out⟩
end Go.Proofs.YtfbljmcjadfkoaaGreatDoor

/-! A function's Put and Pairs by their contracts. No statement of the claim. -/
namespace Go.Proofs.YtfbljmcjadfkoaaGreatDoor
set_option maxRecDepth 100000
set_option maxHeartbeats 2000000
open Go Go.RowKit AmC Go.Shelf AmL
variable {w : World} {base c n sz : Nat} {t : TypeId} {xs : List Value}
theorem own_cellSet {g i:Nat}(h:w.ownsRow base t sz (.slice (some ⟨g,0,none⟩) n c) n xs)(u:Value):
  (w.setCell ⟨g,i,none⟩ u).ownsRow base t sz (.slice (some ⟨g,0,none⟩) n c) n (xs.set i u)∧Mod [g] w (w.setCell ⟨g,i,none⟩ u):=by
 rcases h.2 with⟨h2,_⟩|⟨g',cap,cur,hv,hg,hh,hcap,hmax,hsz,htk⟩
 ·cases h2
 ·injection hv with hv _ hc
  injection hv with hv
  injection hv with hv _ _
  subst hv hc;have hB:Blk w g t cur:=hh;refine⟨⟨by rw[List.length_set];exact h.1,.inr ⟨g,c,_,rfl,hg,hB.set_ i u,hcap,hmax,by simpa using hsz, ?_⟩⟩,(Mod.refl [g] w).set_ (.inl (by simp)) i u⟩;rw[Array.toList_setIfInBounds,List.take_set,htk]
theorem own_at0 {A:Option Addr}(h:w.ownsRow base t sz (.slice A n c) n xs)(hn:0<n):∃g,A=some ⟨g,0,none⟩∧g<w.heap.size∧base≤g∧n≤c∧(∀i,w.frozen? ⟨g,i,none⟩=false):=by
 rcases h.2 with⟨h2,h0⟩|⟨g,cap,cur,hv,hg,hh,hcap,hmax,hsz,htk⟩
 ·omega
 ·injection hv with hv _ hc
  subst hv hc;exact⟨g,rfl,(Array.getElem?_eq_some_iff.1 hh).1,hg,hcap,fun i=>by simp[World.frozen?,hh]⟩
end Go.Proofs.YtfbljmcjadfkoaaGreatDoor
