/- What lies below all that is written: the errors, the table of bits; a meter as one thing. No statement of the claim. -/
import Derived.Test.YtnfjjbpmhcbelaaGreatDoorTabV
import Derived.Test.YtnfjjbpmhcbelaaGreatDoorGaugeA
import Derived.Test.YtnfjjbpmhcbelaaGreatDoorSqM
import Derived.Test.YtnfjjbpmhcbelaaGreatDoorAppAny
namespace Go.Proofs.YtnfjjbpmhcbelaaGreatDoor
set_option maxRecDepth 100000
set_option maxHeartbeats 8000000
open Go.RowKit dI
section
structure uU (E:Nat→Addr)(w:World):Prop where
 of:∀k,k=1∨k=2∨k=5→fJ E w k
theorem uU.at_ {E:Nat→Addr}{w:World}(h:uU E w)(k:Nat)(_:1≤k)(_:k≤16)(hk:k=1∨k=2∨k=5:=by decide):fJ E w k:=h.of k hk
theorem uU.below {E:Nat→Addr}{w w':World}{B:Nat}(h:uU E w)(hb:Below B w w')(hB:w.heap.size≤B):uU E w':=⟨fun k hk=>(h.of k hk).below hb hB⟩
theorem eY.core {E:Nat→Addr}{w:World}(h:eY E w):uU E w:=⟨fun k hk=>h.at_ k (by omega) (by omega)⟩
structure Env (W0:World)(E:Nat→Addr)(w:World):Prop where
 below:Below W0.heap.size W0 w
 aau:uU E W0
 tz0:fP W0
section
variable {W0 w w' : World} {E : Nat → Addr}
theorem Env.size (h:Env W0 E w):W0.heap.size≤w.heap.size:=h.below.size
theorem Env.errs (h:Env W0 E w):uU E w:=h.aau.below h.below (Nat.le_refl _)
theorem Env.tz (h:Env W0 E w):fP w:=h.tz0.below h.below
theorem Env.NI (h:Env W0 E w):17 <W0.heap.size:=World.block_lt_of_cell? W0 _ (h.tz0 0 (by omega))
theorem Env.mod {S:List Nat}(h:Env W0 E w)(hm:Mod S w w')(hS:∀k,k∈S→W0.heap.size≤k):Env W0 E w':=⟨h.below.trans (hm.below hS h.size),h.aau,h.tz0⟩
instance {w w':World}{W0:World}{E:Nat→Addr}:Md (Env W0 E w) w w' (Env W0 E w') (fun S=>∀k,k∈S→W0.heap.size≤k):=⟨fun h hm hs=>h.mod hm hs⟩
theorem Env.next (h:Env W0 E w)(hb:Below w.heap.size w w'):Env W0 E w':=h.mod (Mod.of_below hb []) (by simp)
end
structure MP where
 mb:Nat
 mt:TypeId
 pre:List Value
 post:List Value
 mo:Nat
 m:Int
structure bL where
 all:bq
 last:bq
def bL.add (x:bL)(c:bq)(n:Nat):bL:=⟨eO x.all c n,eO x.last c n⟩
theorem Dn (a c:bq)(k:Nat):∀n,eO (eO a c k) c n=eO a c (k+n)
 |0=>rfl
 |n+1=>by
  show ji (eO (eO a c k) c n) c=ji (eO a c (k+n)) c;rw[Dn a c k n]
theorem bL.add_add (x:bL)(c:bq)(k n:Nat):(x.add c k).add c n=x.add c (k+n):=by unfold bL.add;rw[Dn,Dn]
def aN (w:World)(P:MP)(x:bL):Prop:=Met w P.mb P.mt P.pre P.post P.mo x.all x.last P.m
def MP.addr (P:MP):Addr:=⟨P.mb,P.mo,none⟩
section
variable {w w' : World} {P : MP} {x : bL}
theorem aN.lt (h:aN w P x):P.mb<w.heap.size:=Met.lt h
theorem aN.mod {S:List Nat}(h:aN w P x)(hm:Mod S w w')(hg:P.mb∉S):aN w' P x:=Met.mod h hm hg
instance {w w':World}{P:MP}{x:bL}:Md (aN w P x) w w' (aN w' P x) (fun S=>P.mb∉S):=⟨fun h hm hs=>aN.mod h hm hs⟩
theorem aN.below (h:aN w P x)(hb:Below w.heap.size w w'):aN w' P x:=Met.below h hb
end
end
theorem Bt {z:Array Value}{v:Value}{k:Nat}(hz:z=(List.replicate k v).toArray)(hk:0<k)(n:Nat):madeCells z n=(List.replicate n v).toArray:=by
 apply Array.toList_inj.1;subst hz;unfold madeCells;rw[Array.toList_map];refine List.ext_getElem (by simp) fun i h1 h2=> ?_;simp only[List.getElem_map,List.getElem_replicate];rw[getElem!_pos _ _ (by simp;exact Nat.mod_lt _ hk)];simp
def Bu:kP:=List.replicate 8 (.full ⟨0,0,0⟩)
theorem SI:xQ Bu=List.replicate 25 (.int .u64 0):=by rfl
theorem Dp:∀n,dw (List.replicate n Bu)=List.replicate (n*25) (.int .u64 0)
 |0=>rfl
 |n+1=>by
  show xQ Bu++dw (List.replicate n Bu)=_;rw[Dp n,SI,Nat.add_mul,Nat.add_comm,List.replicate_append_replicate]
def afm:Value:= .agg #[.int .u64 0,.agg (Array.replicate 8 (.agg #[.int .u64 0,.int .u64 0,.int .u64 0]))]
theorem YL:(Tryz.prog.info? 246).map (fun i=>(i.zero.map fun z=>z.cells,i.size,i.bytes))=some (some (List.replicate 25 (Value.int .u64 0)).toArray,25,200):=by kernel_rfl
theorem P7 (n:Nat)(hn:n≤64)(W:World):(Instr.makeSlice 240 (nI n) (nI n)).run Tryz.prog W= .ok (.slice (some ⟨W.heap.size,0,none⟩) n n) (W.alloc (.cells (dw (List.replicate n Bu)).toArray 246)):=by
 have h:=YL
 cases hi:Tryz.prog.info? 246 with
 |none=>rw[hi]at h;cases h
 |some i=>
  rw[hi]at h;simp only[Option.map_some,Option.some.injEq,Prod.mk.injEq,Option.map_eq_some_iff]at h;obtain⟨⟨z,hz,hc⟩,hs,hb⟩:=h;have:=run_makeSlice (P:=Tryz.prog) (w:=W) 240 246 i z Tryz.underlying240 hi hz .i64 .i64 (n:Int) (n:Int) (by omega) (Int.le_refl _) (by rw[hs];omega) (by rw[hb];omega) (by omega);rw[this,hs,Int.toNat_natCast,Bt hc (by omega),Dp]
theorem pU (n:Nat)(hn:Pw n)(w:World):Calls Tryz.prog 207 #[nI n] w fun e w'=>e= .returned (.bool true)∧w=w':=by
 rcases hn with rfl|rfl|rfl|rfl|rfl|rfl|rfl
 all_goals
  go_in;go_wp2;go_ret;exact⟨rfl,rfl⟩
def SK (n:Nat):aC:=⟨List.replicate n Bu,0,0⟩
theorem KC (n:Nat)(hn:Pw n)(w:World):
  Calls Tryz.prog 145 #[nI n] w fun e w'=>e= .returned (.tuple #[bU (w.heap.size+1),.nilIface])∧TabAt w' (w.heap.size+1) w.heap.size (SK n)∧Below w.heap.size w w':=by
 have HR:=qd (pU n hn w);have hle:=hn.le;have hpos:=hn.pos;have hmk:=P7 n hle w;unfold bU;go_in;go_wp2_with fail;refine(HR.out).mono ?_;rintro x w1 ⟨rfl,rfl⟩;go_wp2;refine bodyPost_ret (v:= .tuple #[.pointer (some ⟨w.heap.size+1,0,none⟩),.nilIface]) (by simp[results,Tryz.results145,go_sem]) rfl ⟨rfl,⟨fun G hG=> ?_, ?_, ?_,by omega⟩, ?_⟩
 ·rw[(List.mem_replicate.1 hG).2];rfl
 ·have:=aj.new (w.alloc (.cells (dw (List.replicate n Bu)).toArray 246)) 242 #[.slice (some ⟨w.heap.size,0,none⟩) n n,.int .i64 0,.int .i64 0];rw[World.size_alloc]at this;simpa[SK]using this
 ·exact(aj.new w 246 (dw (List.replicate n Bu)).toArray).alloc _
 ·exact((Below.refl _ _).alloc (Nat.le_refl _) _).alloc (by simp) _
def NJ:kP:=List.replicate 8 .empty
def qN (n k:Nat):Tab:=List.replicate k NJ++List.replicate (n-k) Bu
theorem yV (n:Nat):qN n n=bare n:=by unfold qN;rw[Nat.sub_self];simp[bare,NJ]
theorem oU {n k:Nat}(h:k≤n):(qN n k).length=n:=by simp[qN];omega
theorem KD {n k:Nat}(h:k<n):(qN n k).set k NJ=qN n (k+1):=by
 unfold qN;rw[List.set_append_right _ _ (by simp),List.length_replicate,Nat.sub_self,show n-k=(n-(k+1))+1 by omega,List.replicate_succ,List.set_cons_zero,List.replicate_succ',List.append_assoc];rfl
def dR (n k:Nat):aC:=⟨qN n k,0,0⟩
theorem abf {n:Nat}(hn:Pw n):mg (dR n n):=by
 have h:=(MV hn);refine⟨?_, ?_, ?_, ?_⟩
 ·show qP (qN n n);rw[yV];exact h.wide
 ·show Pw (qN n n).length;rw[oU (Nat.le_refl _)];exact hn
 ·show(0:Int)=((aM (qN n n)).length:Int);rw[yV]
  have:aM (bare n)=[]:=List.eq_nil_iff_forall_not_mem.2 fun e he=>by obtain⟨i,s,hh⟩:=rG.1 he;rw[zC]at hh;cases hh
  rw[this];rfl
 ·show(0:Int)=(eT (qN n n):Int);rw[yV]
  have:∀n,eT (bare n)=0:=fun n=>by
   induction n with
   |zero=>rfl
   |succ k ih=>show eT (List.replicate 8 Slot.empty::bare k)=0;rw[zB,ih];rfl
  rw[this];rfl
theorem Vr (n:Nat)(hn:Pw n)(w:World):
  Calls Tryz.prog 101 #[nI n] w fun e w'=>∃tb gb,w.heap.size≤tb∧w.heap.size≤gb∧e= .returned (.tuple #[bU tb,.nilIface])∧TabAt w' tb gb (dR n n)∧Below w.heap.size w w':=by
 have hle:=hn.le;have hpos:=hn.pos;have YM:=qd (KC n hn w);unfold bU at YM⊢;go_in;go_upto_region 1 with fail;go_wp2_with fail;refine(YM.out).mono ?_;rintro x w1 ⟨rfl,hT1,hb1⟩;obtain⟨tb,htb⟩:∃tb,tb=w.heap.size+1:=⟨_,rfl⟩;obtain⟨gb,hgb⟩:∃gb,gb=w.heap.size:=⟨_,rfl⟩;rw[←htb]at hT1⊢;rw[←hgb]at hT1
 replace htb:w.heap.size≤tb:=by omega
 replace hgb:w.heap.size≤gb:=by omega
 clear YM;obtain⟨c0,c1,c2⟩:=hT1.cells
 have hln:(SK n).gs.length=n:=by simp[SK]
 rw[hln]at c0;have HT:=qd (show TabAt w1 tb gb (dR n 0)from hT1);have ah:=qd hb1;clear hT1 hb1 hln;go_wp2;go_loopw [6,20] (fun _ i wr=>∃k:Nat,k≤n∧i= .int .i64 k∧TabAt wr tb gb (dR n k)∧Below w.heap.size w wr) (fun _ i _=>n-(intOf i).toNat)
 case atStart=>exact⟨0,by omega,rfl,HT.out,ah.out⟩
 case round=>
  clear HT ah c0 c1 c2;obtain⟨k,hk,rfl,hT,hm⟩:=hrel;by_cases hlt:k<n
  ·have hlt':(k:Int)<(n:Int):=by omega
   have hk0:(0:Int)≤(k:Int):=by omega
   obtain⟨c0,c1,c2⟩:=hT.cells;have hln:(dR n k).gs.length=n:=oU hk;rw[hln]at c0;have htl:=hT.aT;have hgl:=hT.aU;have uf:=qd (Jl ⟨gb,k*25,none⟩ ⟨0,0,0⟩ wr);have HG:=qd (hT.group k (by rw[hln];exact hlt));have HT:=qd hT;have Hm:=qd hm;have HS:=qd (KD hlt);unfold aG bC at uf;clear hT hm hln;go_wp2_with fail;refine(uf.out).mono ?_;rintro x w2 ⟨rfl,hb2⟩;have yU:=qd (Kl gb 246 _ _ (k*25) _ w2 (HG.out.below hb2));have HT2:=qd (HT.out.below hb2);have Vs:=qd (Hm.out.trans (hb2.mono Hm.out.size));unfold bC at yU;clear hb2 HT Hm HG uf;go_wp2_with fail;refine(yU.out).mono ?_;rintro x w3 ⟨rfl,hG3,gZ⟩;have HT3:=qd (HT2.out.oL k (by rw[show(dR n k).gs.length=n from oU hk];exact hlt) gZ hG3);have Hm3:=qd (Vs.out.trans (gZ.below (B:=w.heap.size) (by intro j hj;simp at hj;omega) Vs.out.size));clear HT2 Vs hG3 gZ;go_wp2;go_roundw
   case rel=>exact⟨k+1,by omega,by go_num,by have:=HT3.out;unfold dR at this⊢;rw[←HS.out];exact this,Hm3.out⟩
   case measure=>simp[intOf];omega
  ·obtain rfl:k=n:=by omega
   have hlt':¬(k:Int)<(k:Int):=by omega
   go_wp2;refine bodyPost_ret (v:= .tuple #[pQ tb,.nilIface]) (by simp[results,Tryz.results101,go_sem]) rfl (by first|exact⟨tb,gb,htb,hgb,rfl,hT,hm⟩|exact⟨tb,htb,gb,hgb,rfl,hT,hm⟩)
section
variable {j k : Nat} {es : List av} {e : av}
theorem rO {α:Type}{l:List α}{y:α}(h:l[k]?=some y):l.take (k+1)=l.take k++[y]:=by rw[List.take_add_one,h];rfl
def nk (f:av)(o:Option av)(e:av):Option av:=if !bF e f && (match o with|none=>true|some b=>bF e b)then some e else o
def dO (f:av)(o:Option av)(es:List av):Option av:=es.foldl (nk f) o
theorem P8 (f:av)(o:Option av)(h:es[j]?=some e):dO f o (es.take (j+1))=nk f (dO f o (es.take j)) e:=by
 unfold dO;rw[rO h,List.foldl_append];rfl
theorem NK (f:av)(gs:Tab)(hk:k<gs.length):dO f none (aM (gs.take (k+1)))=dO f (dO f none (aM (gs.take k))) (bT (gs.getD k [])):=by
 have h:gs[k]?=some (gs.getD k []):=by rw[List.getD_eq_getElem?_getD,List.getElem?_eq_getElem hk];rfl
 rw[rO h];unfold dO aM;rw[List.flatMap_append,List.foldl_append];simp
def xU (o:Option av):Array Value:=(aV (o.getD ⟨0,0,0⟩)).toArray
theorem KE {w:World}{base n c:Nat}{A:Option Addr}(h:w.ownsRow base 166 3 (.slice A n c) n (es.flatMap aV))(he:es[j]?=some e):
  ∃g,A=some ⟨g,0,none⟩∧base≤g∧w.cell? ⟨g,j*3,none⟩=some (.int .u64 (e.key:Int))∧w.cell? ⟨g,j*3+1,none⟩=some (.int .u64 (e.val:Int))∧w.cell? ⟨g,j*3+2,none⟩=some (.int .u64 (e.hash:Int))∧j<n:=by
 have hl:=h.1;rw[gF]at hl;obtain⟨hj,_⟩:=List.getElem?_eq_some_iff.1 he
 have hjn:j<n:=by omega
 rcases h.2 with hn|⟨g,cap,cur,hv,hb,hg,h1,h2,h3,h4⟩
 ·omega
 ·cases hv;refine⟨g,rfl,hb, ?_⟩
  have hs:es.flatMap aV=(es.take j).flatMap aV++(aV e++(es.drop (j+1)).flatMap aV):=by
   conv=>lhs;rw[←List.take_append_drop j es,List.drop_eq_getElem?_toList_append,he]
   simp
  have hlt:((es.take j).flatMap aV).length=j*3:=by rw[gF,List.length_take];omega
  have hc:∀q,q<3→w.cell? ⟨g,j*3+q,none⟩=(aV e)[q]?:=fun q hq=>by
   have:=h.cellAt (j*3+q) (by omega);rw[this,hs,List.getElem?_append_right (by omega),hlt,Nat.add_sub_cancel_left,List.getElem?_append_left (by simpa[aV]using hq)]
  exact⟨hc 0 (by omega),hc 1 (by omega),hc 2 (by omega),hjn⟩
theorem E9 {W0:World}{E:Nat→Addr}(tb gb:Nat)(T:aC)(P:MP)(x:bL)(c:bq)(hash key:Nat)(hok:T.gs.length≤64)(w:World)(h:TabAt w tb gb T)(hM:aN w P x)(hE:Env W0 E w)(hmt:P.mb≠tb)(gH:P.mb≠gb)(hb0:W0.heap.size≤P.mb):
  Calls Tryz.prog 239 #[bU tb,aG (some ⟨P.mb,P.mo,none⟩) c,.int .u64 (hash:Int),.int .u64 (key:Int)] w fun e w'=>e= .returned (eX (dO ⟨key,0,hash⟩ none (aM T.gs)))∧aN w' P (x.add c T.gs.length)∧Mod [P.mb] w w':=by
 obtain⟨n,hn⟩:∃n,n=T.gs.length:=⟨_,rfl⟩;obtain⟨fr,hfr⟩:∃fr:av,fr=⟨key,0,hash⟩:=⟨_,rfl⟩;rw[←hfr,←hn];obtain⟨W,hW,hB,hL,hR,hF,hO⟩:=qX4 w 163 #[.pointer (some ⟨P.mb,P.mo,none⟩),.int .i64 c.p,.int .i64 c.v,.int .i64 c.u] 166 #[.int .u64 0,.int .u64 0,.int .u64 0] 166 #[.int .u64 (key:Int),.int .u64 0,.int .u64 (hash:Int)] 166 #[.int .u64 0,.int .u64 0,.int .u64 0];have hml:=hM.lt;have htl:=h.aT;have hgl:=h.aU;have hB0:=hE.size;have HW:=qd hW
 have hnm:n≤64:=by rw[hn];exact hok
 obtain⟨ug,tc1,tc2⟩:=(h.below hB).cells;rw[←hn]at ug;unfold bU aG eX aP;have HT:=qd (h.below hB);have ay:=qd (hE.next hB);have HM:=qd (show aN W P (x.add c 0)from hM.below hB);have HL:=qd (hL);have HR:=qd (hR);have HF:=qd (hF);have HO:=qd (show aj W _ _ (xU (dO fr none (aM (T.gs.take 0))))from hO);have ah:=qd (Mod.of_below hB [P.mb]);have z1:=ah.out.size;obtain⟨lb,hlb⟩:∃lb,lb=w.heap.size:=⟨_,rfl⟩;obtain⟨rb,hrb⟩:∃rb,rb=w.heap.size+1:=⟨_,rfl⟩;obtain⟨fb,pX⟩:∃fb,fb=w.heap.size+1+1:=⟨_,rfl⟩;obtain⟨ob,nV⟩:∃ob,ob=w.heap.size+1+1+1:=⟨_,rfl⟩;clear hW hB h hM hL hE hR hF hO;go_in;go_upto_region 3 with fail;rw[←HW.out,←nV,←pX,←hrb,←hlb];rw[←hlb]at HL;rw[←hrb]at HR;rw[←pX]at HF;rw[←nV]at HO
 have n1:lb<rb:=by omega
 have n2:rb<fb:=by omega
 have n3:fb<ob:=by omega
 have n4:P.mb<lb:=by omega
 have n5:tb<lb:=by omega
 have n6:gb<lb:=by omega
 have n7:W0.heap.size≤lb:=by omega
 have n8:w.heap.size≤lb:=by omega
 clear hlb hrb pX nV HW;have HN:=qd hn;have HFR:=qd hfr;have HFC:=qd (show(#[.int .u64 (key:Int),.int .u64 0,.int .u64 (hash:Int)]:Array Value)= #[.int .u64 ((fr).key:Int),.int .u64 ((fr).val:Int),.int .u64 ((fr).hash:Int)]from by rw[hfr];rfl);clear hfr hn;go_wp2;clear ug tc1 tc2;go_loopw [12,13,15,24] (fun v12 _ _ i wr=>∃k:Nat,k≤n∧i= .int .i64 k∧v12= .bool (dO fr none (aM (T.gs.take k))).isSome∧aN wr P (x.add c k)∧aj wr ob 166 (xU (dO fr none (aM (T.gs.take k))))∧TabAt wr tb gb T∧Env W0 E wr∧aj wr lb 163 #[.pointer (some ⟨P.mb,P.mo,none⟩),.int .i64 c.p,.int .i64 c.v,.int .i64 c.u]∧aj wr rb 166 #[.int .u64 0,.int .u64 0,.int .u64 0]∧aj wr fb 166 #[.int .u64 ((fr).key:Int),.int .u64 ((fr).val:Int),.int .u64 ((fr).hash:Int)]∧Mod [P.mb] w wr) (fun _ _ _ i _=>n-(intOf i).toNat)
 case atStart=>exact⟨0,by omega,rfl,rfl,HM.out,HO.out,HT.out,ay.out,HL.out,HR.out,HFC.out▸HF.out,ah.out⟩
 case round=>
  clear HM HO HT ay HL HR HF ah;obtain⟨k,hk,rfl,rfl,hM,hO,hT,hE,hL,hR,hF,hm⟩:=hrel;by_cases hlt:k<n
  ·have hlt':(k:Int)<(n:Int):=by omega
   have hk0:(0:Int)≤(k:Int):=by omega
   have Io:k<T.gs.length:=by rw[←HN.out];exact hlt
   have HT:=qd (hT);have HM:=qd (hM);have ay:=qd (hE);have HO:=qd (hO);have HL:=qd (hL);have HR:=qd (hR);have HF:=qd (hF);have ah:=qd (hm);clear hT hM hE hO hL hR hF hm;obtain⟨o,ho⟩:∃o,o=dO fr none (aM (T.gs.take k)):=⟨_,rfl⟩;rw[←ho]at HO⊢;have HOo:=qd ho;clear ho;obtain⟨G,hG⟩:∃G,G=T.gs.getD k []:=⟨_,rfl⟩;have QU:=qd hG;clear hG;have ug:=HT.out.cells.1;rw[←HN.out]at ug;have lc:=HL.out.c4;go_upto_region 7 with fail;have z1:=qJ ah.out.size (qJ HT.out.aT (qJ HT.out.aU (qJ HM.out.lt (qJ HO.out.lt (qJ HL.out.lt (qJ HR.out.lt HF.out.lt))))));have uf:=qd (wV ⟨gb,k*25,none⟩ P.mb P.mt P.pre P.post P.mo (x.add c k).all (x.add c k).last P.m c wr.drew (HM.out.below (Below.refl _ _).drew));unfold aG at uf;refine rT (fun(w':World)=>w'.cell? ⟨tb,0,none⟩=some (.slice (some ⟨gb,0,none⟩) n n)∧w'.cell? ⟨lb,0,none⟩=some (.pointer (some ⟨P.mb,P.mo,none⟩))∧w'.cell? ⟨lb,1,none⟩=some (.int .i64 c.p)∧w'.cell? ⟨lb,2,none⟩=some (.int .i64 c.v)∧w'.cell? ⟨lb,3,none⟩=some (.int .i64 c.u)) [] ?_;have hHeld:=(⟨ug,lc.1,lc.2.1,lc.2.2.1,lc.2.2.2⟩:_∧_∧_∧_∧_);refine vW 0 rfl ?_;refine vW 1 rfl ?_;refine vW 2 rfl ?_;refine vT 3 rfl ?_;refine vW 4 rfl ?_;refine vW 5 rfl ?_;refine vT 6 rfl ?_;refine vW 10 rfl ?_;refine nT 7 rfl fun K hK=> ?_;go_simp;refine(uf.out).mono ?_;rintro y w1 ⟨rfl,hM1,hm⟩;replace hm:Mod [P.mb] wr w1:=(Mod.drewN [P.mb] wr 1).then hm;clear uf HM ug lc;replace HT:=qM hm HT;replace ay:=qM hm ay;replace HO:=qM hm HO;replace HL:=qM hm HL;replace HR:=qM hm HR;replace HF:=qM hm HF;have z9:=(hm).size
   replace ah:=qU ah hm;have HM:=qd (show aN w1 P (x.add c (k+1))from hM1);clear hM1 hm;unfold bC;have ug:=HT.out.cells.1;rw[←HN.out]at ug;have lc:=HL.out.c4;have bQ:=qd (EX gb 246 _ _ (k*25) _ w1 (HT.out.group k Io) ay.out.tz);rw[←QU.out]at bQ;unfold bC at bQ;go_simp;have hHeld:=(⟨ug,lc.1,lc.2.1,lc.2.2.1,lc.2.2.2⟩:_∧_∧_∧_∧_);refine kO hK ?_;clear hK K;refine nT 8 rfl fun K hK=> ?_;go_simp;refine(bQ.out).mono ?_;rintro y w2 ⟨A,cc,rfl,xV,hb⟩;clear ug lc;replace HT:=qB hb HT;replace ay:=qB hb ay;replace HO:=qB hb HO;replace HL:=qB hb HL;replace HR:=qB hb HR;replace HF:=qB hb HF;replace HM:=qB hb HM;have z10:=(hb).size;replace ah:=qT ah hb;have gG:=qd (xV);clear xV hb bQ;have ug:=HT.out.cells.1;rw[←HN.out]at ug;have lc:=HL.out.c4;go_simp;have hHeld:=(⟨ug,lc.1,lc.2.1,lc.2.2.1,lc.2.2.2⟩:_∧_∧_∧_∧_);refine kO hK ?_;clear hK K;refine vW 9 rfl ?_;refine aR (by kernel_rfl) ?_ _;obtain⟨es,hes⟩:∃es,es=bT G:=⟨_,rfl⟩;rw[←hes]at gG⊢
   have ad1:es.length≤8:=by have h1:=yO G;have h2:=HT.out.wide.at_ Io;rw[←QU.out]at h2;rw[hes];omega
   have HEs:=qd hes;clear hes;have z11:=ah.out.size;go_wp2;clear ug lc;go_loopw [12,15,37] (fun v12 _ i wr=>∃j:Nat,j≤es.length∧i= .int .i64 j∧v12= .bool (dO fr o (es.take j)).isSome∧aj wr ob 166 (xU (dO fr o (es.take j)))∧TabAt wr tb gb T∧Env W0 E wr∧aj wr lb 163 #[.pointer (some ⟨P.mb,P.mo,none⟩),.int .i64 c.p,.int .i64 c.v,.int .i64 c.u]∧aj wr rb 166 #[.int .u64 0,.int .u64 0,.int .u64 0]∧aj wr fb 166 #[.int .u64 ((fr).key:Int),.int .u64 ((fr).val:Int),.int .u64 ((fr).hash:Int)]∧Mod [P.mb] w wr∧aN wr P (x.add c (k+1))∧wr.ownsRow w1.heap.size 166 3 (.slice A es.length cc) es.length (es.flatMap aV)) (fun _ _ i _=>es.length-(intOf i).toNat)
   case atStart=>exact⟨0,by omega,rfl,rfl,HO.out,HT.out,ay.out,HL.out,HR.out,HF.out,ah.out,HM.out,gG.out⟩
   case round=>
    clear HM HO HT ay HL HR HF ah gG;obtain⟨j,hj,rfl,rfl,hO,hT,hE,hL,hR,hF,hm,hM,xV⟩:=hrel;by_cases hlt2:j<es.length
    ·have adA:(j:Int)<(es.length:Int):=by omega
     have hj0:(0:Int)≤(j:Int):=by omega
     obtain⟨e,he⟩:∃e,es[j]?=some e:=⟨_,List.getElem?_eq_getElem hlt2⟩;obtain⟨g,rfl,hgb,k0,k1,k2,hjn⟩:=KE xV he;have dZ:=qd (P8 fr o he);clear he hjn;have HT:=qd (hT);have HM:=qd (hM);have ay:=qd (hE);have HO:=qd (hO);have HL:=qd (hL);have HR:=qd (hR);have HF:=qd (hF);have gG:=qd (xV);have ah:=qd (hm);clear hT hM hE hO hL hR hF hm xV;obtain⟨o2,ho2⟩:∃o2,o2=dO fr o (es.take j):=⟨_,rfl⟩;rw[←ho2]at HO dZ⊢;clear ho2;go_upto_region 10 with fail;have z1:=qJ ah.out.size (qJ HT.out.aT (qJ HT.out.aU (qJ HM.out.lt (qJ HO.out.lt (qJ HL.out.lt (qJ HR.out.lt (qJ HF.out.lt ah.out.size)))))));refine dF 166 #[.int .u64 ((e).key:Int),.int .u64 ((e).val:Int),.int .u64 ((e).hash:Int)] ?_;rintro w3 ⟨hnew,hb⟩;obtain⟨xb,hxb⟩:∃xb,xb=wr.heap.size:=⟨_,rfl⟩;rw[←hxb]at hnew⊢
     replace hxb:wr.heap.size≤xb:=by omega
     clear k0 k1 k2;replace HT:=qB hb HT;replace HM:=qB hb HM;replace ay:=qB hb ay;replace HO:=qB hb HO;replace HL:=qB hb HL;replace HR:=qB hb HR;replace HF:=qB hb HF;replace gG:=qB hb gG;have z10:=(hb).size;replace ah:=qT ah hb;have HX:=qd (hnew);clear hnew hb
     cases hl:bF e fr with
     |true=>
      have fK:=qd (jU e fr w3);rw[hl]at fK;unfold aP at fK;replace dZ:=qd (show dO fr o (es.take (j+1))=o2 from by rw[dZ.out];unfold nk;rw[hl];simp);clear hl;have xc:=HX.out.c3;have fc:=HF.out.c3;go_wp2_with fail;refine(fK.out).mono ?_;rintro x w4 ⟨rfl,hb⟩;clear xc fc;replace HT:=qB hb HT;replace HM:=qB hb HM;replace ay:=qB hb ay;replace HO:=qB hb HO;replace HL:=qB hb HL;replace HR:=qB hb HR;replace HF:=qB hb HF;replace gG:=qB hb gG;replace HX:=qB hb HX;have YN:=(hb).size;replace ah:=qT ah hb;clear hb;go_wp2;go_roundw
      case rel=>exact⟨j+1,by omega,by go_num,by rw[dZ.out]<;>rfl,by rw[dZ.out];exact HO.out,HT.out,ay.out,HL.out,HR.out,HF.out,ah.out,HM.out,gG.out⟩
      case measure=>simp[intOf];omega
     |false=>
      cases o2 with
      |none=>
       replace HO:=qd (show aj w3 ob 166 #[.int .u64 0,.int .u64 0,.int .u64 0]from HO.out);have fK:=qd (jU e fr w3);rw[hl]at fK;unfold aP at fK;replace dZ:=qd (show dO fr o (es.take (j+1))=some e from by rw[dZ.out];unfold nk;rw[hl];rfl);clear hl;have xc:=HX.out.c3;have fc:=HF.out.c3;go_wp2_with fail;refine(fK.out).mono ?_;rintro x w4 ⟨rfl,hb⟩;clear xc fc;replace HT:=qB hb HT;replace HM:=qB hb HM;replace ay:=qB hb ay;replace HO:=qB hb HO;replace HL:=qB hb HL;replace HR:=qB hb HR;replace HF:=qB hb HF;replace gG:=qB hb gG;replace HX:=qB hb HX;have YN:=(hb).size;replace ah:=qT ah hb;clear hb;have xc:=HX.out.c3;have oc:=HO.out.c3;have of:=HO.out.f3;go_upto_region 12 with fail;have afn:=qJ HT.out.aT (qJ HT.out.aU (qJ HM.out.lt (qJ HO.out.lt (qJ HL.out.lt (qJ HR.out.lt (qJ HF.out.lt HX.out.lt))))));refine Kc HO.out ?_;rintro w6 ⟨hnew,hm⟩;simp only[pt]at hnew;replace HT:=qM hm HT;replace HM:=qM hm HM;replace ay:=qM hm ay;replace HL:=qM hm HL;replace HR:=qM hm HR;replace HF:=qM hm HF;replace gG:=qM hm gG;replace HX:=qM hm HX;have afo:=(hm).size;replace ah:=qU ah hm;replace HO:=qd hnew;clear hnew hm;go_wp2;go_roundw
       case rel=>exact⟨j+1,by omega,by go_num,by rw[dZ.out]<;>rfl,by rw[dZ.out];exact HO.out,HT.out,ay.out,HL.out,HR.out,HF.out,ah.out,HM.out,gG.out⟩
       case measure=>simp[intOf];omega
      |some b=>
       cases hlb:bF e b with
       |true=>
        replace HO:=qd (show aj w3 ob 166 #[.int .u64 ((b).key:Int),.int .u64 ((b).val:Int),.int .u64 ((b).hash:Int)]from HO.out);have fK:=qd (jU e fr w3);rw[hl]at fK;unfold aP at fK;replace dZ:=qd (show dO fr o (es.take (j+1))=some e from by rw[dZ.out];unfold nk;rw[hl];simp[hlb]);have xW:=qd (fun V:World=>jU e b V);rw[hlb]at xW;unfold aP at xW;clear hlb hl;have xc:=HX.out.c3;have fc:=HF.out.c3;go_wp2_with fail;refine(fK.out).mono ?_;rintro x w4 ⟨rfl,hb⟩;clear xc fc;replace HT:=qB hb HT;replace HM:=qB hb HM;replace ay:=qB hb ay;replace HO:=qB hb HO;replace HL:=qB hb HL;replace HR:=qB hb HR;replace HF:=qB hb HF;replace gG:=qB hb gG;replace HX:=qB hb HX;have YN:=(hb).size;replace ah:=qT ah hb;clear hb;have xc:=HX.out.c3;have oc:=HO.out.c3;go_wp2_with fail;refine((xW.out w4)).mono ?_;rintro x w5 ⟨rfl,hb⟩;clear xc oc;replace HT:=qB hb HT;replace HM:=qB hb HM;replace ay:=qB hb ay;replace HO:=qB hb HO;replace HL:=qB hb HL;replace HR:=qB hb HR;replace HF:=qB hb HF;replace gG:=qB hb gG;replace HX:=qB hb HX;have ad2:=(hb).size;replace ah:=qT ah hb;clear hb;have xc:=HX.out.c3;have oc:=HO.out.c3;have of:=HO.out.f3;go_upto_region 12 with fail;have afp:=qJ HT.out.aT (qJ HT.out.aU (qJ HM.out.lt (qJ HO.out.lt (qJ HL.out.lt (qJ HR.out.lt (qJ HF.out.lt HX.out.lt))))));refine Kc HO.out ?_;rintro w6 ⟨hnew,hm⟩;simp only[pt]at hnew;replace HT:=qM hm HT;replace HM:=qM hm HM;replace ay:=qM hm ay;replace HL:=qM hm HL;replace HR:=qM hm HR;replace HF:=qM hm HF;replace gG:=qM hm gG
        replace HX:=qM hm HX;have afq:=(hm).size;replace ah:=qU ah hm;replace HO:=qd hnew;clear hnew hm;go_wp2;go_roundw
        case rel=>exact⟨j+1,by omega,by go_num,by rw[dZ.out]<;>rfl,by rw[dZ.out];exact HO.out,HT.out,ay.out,HL.out,HR.out,HF.out,ah.out,HM.out,gG.out⟩
        case measure=>simp[intOf];omega
       |false=>
        replace HO:=qd (show aj w3 ob 166 #[.int .u64 ((b).key:Int),.int .u64 ((b).val:Int),.int .u64 ((b).hash:Int)]from HO.out);have fK:=qd (jU e fr w3);rw[hl]at fK;unfold aP at fK;replace dZ:=qd (show dO fr o (es.take (j+1))=some b from by rw[dZ.out];unfold nk;rw[hl];simp[hlb]);have xW:=qd (fun V:World=>jU e b V);rw[hlb]at xW;unfold aP at xW;clear hlb hl;have xc:=HX.out.c3;have fc:=HF.out.c3;go_wp2_with fail;refine(fK.out).mono ?_;rintro x w4 ⟨rfl,hb⟩;clear xc fc;replace HT:=qB hb HT;replace HM:=qB hb HM;replace ay:=qB hb ay;replace HO:=qB hb HO;replace HL:=qB hb HL;replace HR:=qB hb HR;replace HF:=qB hb HF;replace gG:=qB hb gG;replace HX:=qB hb HX;have YN:=(hb).size;replace ah:=qT ah hb;clear hb;have xc:=HX.out.c3;have oc:=HO.out.c3;go_wp2_with fail;refine((xW.out w4)).mono ?_;rintro x w5 ⟨rfl,hb⟩;clear xc oc;replace HT:=qB hb HT;replace HM:=qB hb HM;replace ay:=qB hb ay;replace HO:=qB hb HO;replace HL:=qB hb HL;replace HR:=qB hb HR;replace HF:=qB hb HF;replace gG:=qB hb gG;replace HX:=qB hb HX;have ad2:=(hb).size;replace ah:=qT ah hb;clear hb;go_wp2;go_roundw
        case rel=>exact⟨j+1,by omega,by go_num,by rw[dZ.out]<;>rfl,by rw[dZ.out];exact HO.out,HT.out,ay.out,HL.out,HR.out,HF.out,ah.out,HM.out,gG.out⟩
        case measure=>simp[intOf];omega
    ·obtain rfl:j=es.length:=by omega
     have adA:¬(es.length:Int)<(es.length:Int):=by omega
     have j4:=qd (show dO fr none (aM (T.gs.take (k+1)))=dO fr o es from by rw[NK fr T.gs Io,HOo.out,HEs.out,QU.out]);rw[List.take_length,←j4.out]at hO⊢;have NM:=qd (And.intro hM (And.intro hO (And.intro hT (And.intro hE (And.intro hL (And.intro hR (And.intro hF hm)))))));clear hM hO hT hE hL hR hF hm xV;go_wp2;go_roundw
     case rel=>exact⟨k+1,by omega,by go_num,rfl,NM.out⟩
     case measure=>simp[intOf];omega
  ·obtain rfl:k=n:=by omega
   have hlt':¬(k:Int)<(k:Int):=by omega
   have htk:T.gs.take k=T.gs:=by rw[HN.out];exact List.take_length
   rw[htk]at hO⊢;clear htk;obtain⟨b,hbe⟩:∃b,b=(dO fr none (aM T.gs)).getD ⟨0,0,0⟩:=⟨_,rfl⟩;obtain⟨sb,hsb⟩:∃sb,sb=(dO fr none (aM T.gs)).isSome:=⟨_,rfl⟩;have HM:=qd (hM);have HO:=qd (show aj wr ob _ #[.int .u64 ((b).key:Int),.int .u64 ((b).val:Int),.int .u64 ((b).hash:Int)]from by rw[hbe];exact hO);have HR:=qd (hR);have ah:=qd (hm);have p9:=qd hbe;clear hM hO hT hE hL hR hF hm hbe hsb;have oc:=HO.out.c3;have rc:=HR.out.c3;have rf:=HR.out.f3;go_wp2;have q1:=qJ HM.out.lt (qJ HO.out.lt HR.out.lt);refine Kc HR.out ?_;rintro w9 ⟨hnew,hm⟩;simp only[pt]at hnew;replace HM:=qM hm HM;replace HO:=qM hm HO;have z4:=(hm).size;replace ah:=qU ah hm;replace HR:=qd hnew;clear hnew hm;have rx:=HR.out.c3;refine bodyPost_ret (v:= .tuple #[.agg #[.int .u64 ((b).key:Int),.int .u64 ((b).val:Int),.int .u64 ((b).hash:Int)],.bool (dO fr none (aM T.gs)).isSome]) (by simp[results,Tryz.results239,go_sem,rx.1,rx.2.1,rx.2.2]) rfl ⟨by rw[p9.out],HM.out,ah.out⟩
end
section
def cU (n:Int):bq:=⟨0,0,n⟩
def cV:bq:=⟨0,1,0⟩
def cP:bq:=⟨1,0,0⟩
def ou (b:Nat):Value:=pQ b
structure fH (w:World)(bb tb gb n k:Nat):Prop where
 blk:aj w bb 337 #[pQ tb,nI n,nI k]
 tab:TabAt w tb gb (dR n k)
 le:k≤n
 pow:Pw n
 ne1:bb≠tb
 Vt:bb≠gb
section
variable {w w' : World} {bb tb gb n k : Nat}
theorem fH.lt (h:fH w bb tb gb n k):bb<w.heap.size:=h.blk.lt
theorem fH.aT (h:fH w bb tb gb n k):tb<w.heap.size:=h.tab.aT
theorem fH.aU (h:fH w bb tb gb n k):gb<w.heap.size:=h.tab.aU
theorem fH.mod {S:List Nat}(h:fH w bb tb gb n k)(hm:Mod S w w')(h1:bb∉S)(h2:tb∉S)(h3:gb∉S):fH w' bb tb gb n k:=⟨h.blk.mod hm h1,h.tab.mod hm h2 h3,h.le,h.pow,h.ne1,h.Vt⟩
instance {w w':World}{bb tb gb n k:Nat}:Md (fH w bb tb gb n k) w w' (fH w' bb tb gb n k) (fun S=>bb∉S∧tb∉S∧gb∉S):=⟨fun h hm hs=>h.mod hm hs.1 hs.2.1 hs.2.2⟩
theorem fH.cells (h:fH w bb tb gb n k):w.cell? ⟨bb,0,none⟩=some (pQ tb)∧w.cell? ⟨bb,1,none⟩=some (nI n)∧w.cell? ⟨bb,2,none⟩=some (nI k):=
 ⟨h.blk.cell 0,h.blk.cell 1,h.blk.cell 2⟩
end
theorem Vu (n:Nat)(hn:Pw n)(w:World):
  Calls Tryz.prog 225 #[nI n] w fun e w'=>∃bb tb gb,w.heap.size≤bb∧w.heap.size≤tb∧w.heap.size≤gb∧e= .returned (.tuple #[ou bb,.nilIface])∧fH w' bb tb gb n 0∧Below w.heap.size w w':=by
 have HR:=qd (KC n hn w);unfold bU at HR;unfold ou;go_in;go_wp2_with fail;refine(HR.out).mono ?_;rintro x w1 ⟨rfl,hT1,hb1⟩;go_wp2;refine bodyPost_ret (v:= .tuple #[pQ w1.heap.size,.nilIface]) (by simp[results,Tryz.results225,go_sem]) rfl ⟨w1.heap.size,w.heap.size+1,w.heap.size,hb1.size,by omega,by omega,rfl,⟨aj.new w1 _ _,hT1.below ((Below.refl _ _).alloc (Nat.le_refl _) _),Nat.zero_le _,hn, ?_, ?_⟩,hb1.alloc (by have:=hT1.aT;omega) _⟩
 ·have:=hT1.aT;omega
 ·have:=hT1.aU;omega
theorem sS (bb n k:Nat)(p:Value)(w:World)(hk:k≤n)(hn:n≤64)(h:aj w bb 337 #[p,nI n,nI k]):
  Calls Tryz.prog 275 #[ou bb] w fun e w'=>e= .returned (.int .i64 ((n-k:Nat):Int))∧w.drew=w':=by
 have c1:=h.cell 1;have c2:=h.cell 2;simp only[gl]at c1 c2;clear h;unfold ou;go_in;go_upto_region 1 with fail;go_region;go_wp2;go_ret;exact⟨gJ (by omega),rfl⟩
theorem SL {W0:World}{E:Nat→Addr}(bb tb gb n k:Nat)(P:MP)(x:bL)(hk:k<n)(w:World)(h:fH w bb tb gb n k)(hM:aN w P x)(hE:Env W0 E w)(hmb:P.mb≠bb)(hmt:P.mb≠tb)(gH:P.mb≠gb)(hb0:W0.heap.size≤P.mb)(hb1:W0.heap.size≤bb)(hb2:W0.heap.size≤tb)(hb3:W0.heap.size≤gb):
  Calls Tryz.prog 303 #[ou bb,.pointer (some ⟨P.mb,P.mo,none⟩)] w fun e w'=>e= .returned (.bool true)∧fH w' bb tb gb n (k+1)∧aN w' P ((x.add cV 1).add (cU 1) 1)∧Mod [P.mb,bb,tb,gb] w w':=by
 have hml:=hM.lt;have hB0:=hE.size;have hne1:=h.ne1;have hne2:=h.Vt;have hle:=h.pow.le
 have hk0:¬((n-k:Nat):Int)=0:=by omega
 have hk1:¬n≤k:=by omega
 have hk2:¬n-k=0:=by omega
 have HB:=qd (h.blk);have HT:=qd (h.tab);have ay:=qd (hE);have HM:=qd (hM);have ah:=qd (Mod.refl [P.mb,bb,tb,gb] w);have HP:=qd h.pow;clear h hM hE;unfold ou;have q1:=qJ HB.out.lt (qJ HT.out.aT (qJ HT.out.aU HM.out.lt));go_in;go_upto_region 1 with fail;have bc:=HB.out.c3;refine rT (fun(w':World)=>w'.cell? ⟨bb,0,none⟩=some (pQ tb)∧w'.cell? ⟨bb,1,none⟩=some (nI n)∧w'.cell? ⟨bb,2,none⟩=some (nI k)) [] ?_;have hHeld:=(⟨bc.1,bc.2.1,bc.2.2⟩:_∧_∧_);refine vW 0 rfl ?_;refine nT 1 rfl fun K hK=> ?_;go_simp;refine(sS bb n k _ _ (by omega) hle (HB.out.mod (Mod.drewN [] w 1) (by simp))).mono ?_;rintro y w1 ⟨rfl,hw1⟩;have hm:Mod [] w w1:=hw1▸Mod.drewN [] w 2;clear hw1 bc;replace HB:=qM hm HB;replace HT:=qM hm HT;replace ay:=qM hm ay;replace HM:=qM hm HM;have z5:=(hm).size;replace ah:=qU ah hm;clear hm;have bc:=HB.out.c3;go_wp2_with fail;have hHeld:=(⟨bc.1,bc.2.1,bc.2.2⟩:_∧_∧_);refine kO hK ?_;clear hK K;refine tW 2 (some 7) (.bool false) rfl hHeld ?_
 try simp only[pt]
 refine tW 3 (some 8) (.bool false) rfl hHeld ?_
 try simp only[pt]
 refine vW 4 rfl ?_;refine vW 5 rfl ?_;refine vW 6 rfl ?_;refine vT 7 rfl ?_;refine vW 8 rfl ?_;refine vW 10 rfl ?_;refine vW 11 rfl ?_;refine vW 12 rfl ?_;refine vT 13 rfl ?_;refine nT 9 rfl fun K hK=> ?_;go_simp;refine(wm (some ⟨P.mb,P.mo,none⟩) _).mono ?_;rintro y w2 ⟨rfl,hb⟩;unfold aG;clear bc;replace HB:=qB hb HB;replace HT:=qB hb HT;replace ay:=qB hb ay;replace HM:=qB hb HM;have z6:=(hb).size;replace ah:=qT ah hb;clear hb;have bc:=HB.out.c3;go_wp2_with fail;have hHeld:=(⟨bc.1,bc.2.1,bc.2.2⟩:_∧_∧_);refine kO hK ?_;clear hK K;refine nT 14 rfl fun K hK=> ?_;go_simp;have vF:=qd (LH tb gb (dR n k) P.mb P.mt P.pre P.post P.mo x.all x.last P.m ⟨0,1,0⟩ k (by rw[show(dR n k).gs.length=n from oU (by omega)];exact hk) w2 HT.out HM.out hmt gH);unfold bU aG at vF;refine(vF.out).mono ?_;rintro y w3 ⟨rfl,Cg,yP,hm⟩;clear vF HT HM bc;replace HB:=qM hm HB;replace ay:=qM hm ay;have z7:=(hm).size;replace ah:=qU ah hm;have HT:=qd (show TabAt w3 tb gb (dR n (k+1))from by unfold dR at Cg⊢;rw[←KD hk];exact Cg);have HM:=qd (show aN w3 P (x.add cV 1)from yP);clear yP Cg hm;have bc:=HB.out.c3;go_wp2_with fail;have hHeld:=(⟨bc.1,bc.2.1,bc.2.2⟩:_∧_∧_);refine kO hK ?_;clear hK K;refine tW 15 (some 20) (.bool false) rfl hHeld ?_
 try simp only[pt]
 refine tW 16 (some 21) (.bool false) rfl hHeld ?_
 try simp only[pt]
 refine aR (by kernel_rfl) ?_ _;go_upto_region 3 with fail;have HU:=qd (sK P.mb P.mt P.pre P.post P.mo _ _ P.m 1 (by omega) w3 HM.out);clear HM;go_wp2_with fail;refine(HU.out).mono ?_;rintro x w4 ⟨rfl,Ih,hm⟩;clear bc;replace HB:=qM hm HB;replace ay:=qM hm ay;replace HT:=qM hm HT;have z8:=(hm).size;replace ah:=qU ah hm;clear hm;have HM:=qd (show aN w4 P ((x.add cV 1).add (cU 1) 1)from Ih);clear Ih HU;have bc:=HB.out.c3;have bf:=HB.out.f3;go_upto_region 5 with fail;have q9:=qJ HB.out.lt (qJ HT.out.aT (qJ HT.out.aU HM.out.lt));refine Hu HB.out ?_;rintro w5 ⟨hnew,hm⟩;simp only[pt]at hnew;clear bc bf;replace ay:=qM hm ay;replace HT:=qM hm HT;replace HM:=qM hm HM;have z13:=(hm).size;replace ah:=qU ah hm;replace HB:=qd hnew;clear hnew hm;go_wp2;go_ret;exact⟨rfl,⟨HB.out,HT.out,by omega,HP.out,hne1,hne2⟩,HM.out,ah.out⟩
theorem LJ (bb tb gb n:Nat)(p:Value)(w:World)(h:fH w bb tb gb n n):
  Calls Tryz.prog 303 #[ou bb,p] w fun e w'=>e= .returned (.bool false)∧Below w.heap.size w w':=by
 have hle:=h.pow.le;unfold ou;have HL:=qd (sS bb n n _ w.drew (Nat.le_refl n) hle h.blk.drew);rw[Nat.sub_self]at HL;unfold ou at HL;go_in;go_upto_region 1 with fail;refine rT (fun(w':World)=>True) [] ?_;have hHeld:=trivial;refine vW 0 rfl ?_;refine nT 1 rfl fun K hK=> ?_;go_simp;refine(HL.out).mono ?_;rintro y w1 ⟨rfl,rfl⟩;go_wp2_with fail;refine kO hK ?_;clear hK K;refine tW 2 (some 7) (.bool true) rfl hHeld ?_
 try simp only[pt]
 refine tW 3 (some 8) (.bool true) rfl hHeld ?_
 try simp only[pt]
 refine vU 4 rfl ?_;refine vU 5 rfl ?_;refine vU 6 rfl ?_;refine vU 7 rfl ?_;refine vU 8 rfl ?_;refine vU 9 rfl ?_;refine vU 10 rfl ?_;refine vU 11 rfl ?_;refine vU 12 rfl ?_;refine vU 13 rfl ?_;refine vU 14 rfl ?_;refine vU 15 rfl ?_;refine tW 16 (some 21) (.bool true) rfl hHeld ?_
 try simp only[pt]
 refine aR (by kernel_rfl) ?_ _;go_wp2;go_ret;exact⟨rfl,(Below.refl _ _).drew.drew⟩
theorem SN (bb tb gb n:Nat)(w:World)(h:fH w bb tb gb n n):
  Calls Tryz.prog 311 #[ou bb] w fun e w'=>e= .returned (.tuple #[bU tb,.nilIface])∧aj w' bb 337 #[.pointer none,nI n,nI n]∧TabAt w' tb gb (dR n n)∧Mod [bb] w w':=by
 have hle:=h.pow.le;have HL:=qd (sS bb n n _ w (Nat.le_refl n) hle h.blk);rw[Nat.sub_self]at HL;have hne1:=h.ne1;have hne2:=h.Vt;have HB:=qd (h.blk);have HT:=qd (h.tab);have ah:=qd (Mod.refl [bb] w);clear h;unfold ou bU;unfold ou at HL;go_in;go_upto_region 1 with fail;go_wp2_with fail;refine(HL.out).mono ?_;rintro x w1 ⟨rfl,hw1⟩;have hm:Mod [] w w1:=hw1▸Mod.drewN [] w 1;clear hw1 HL;replace HB:=qM hm HB;replace HT:=qM hm HT;have z1:=(hm).size;replace ah:=qU ah hm;clear hm;have bc:=HB.out.c3;have bf:=HB.out.f3;go_upto_region 5 with fail;have q2:=qJ HB.out.lt (qJ HT.out.aT HT.out.aU);refine Hu HB.out ?_;rintro w2 ⟨hnew,hm⟩;simp only[pt]at hnew;clear bc bf;replace HT:=qM hm HT;have z5:=(hm).size;replace ah:=qU ah hm;replace HB:=qd hnew;clear hnew hm;go_wp2;refine bodyPost_ret (v:= .tuple #[pQ tb,.nilIface]) (by simp[results,Tryz.results311,go_sem]) rfl ⟨rfl,HB.out,HT.out,ah.out⟩
end
end Go.Proofs.YtnfjjbpmhcbelaaGreatDoor
