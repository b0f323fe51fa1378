/- A table's look and Prepare by their contracts. -/
import Derived.Test.YtbfpfgfgfjhpfaaGreatDoorCoX
import Derived.Test.YtbfpfgfgfjhpfaaGreatDoorPlA
import Derived.Test.YtbfpfgfgfjhpfaaGreatDoorCoG
import Derived.Test.YtbfpfgfgfjhpfaaGreatDoorSq
import Derived.Test.YtbfpfgfgfjhpfaaGreatDoorTabS
import Derived.Test.YtbfpfgfgfjhpfaaGreatDoorTabT
namespace Go.Proofs.YtbfpfgfgfjhpfaaGreatDoor
set_option maxRecDepth 100000
set_option maxHeartbeats 8000000
open Go.RowKit dP Go
theorem Iy (tb gb:Nat)(T:aC)(mb:Nat)(mt:TypeId)(kr iP:List Value)(mo:Nat)(a0 l0:bE)(m:Int)(c:bE)(i:Nat)(hi:i<T.gs.length)(w:World)(h:TabAt w tb gb T)(hM:Met w mb mt kr iP mo a0 l0 m)(hmt:mb≠tb)(jW:mb≠gb):
  Calls Tryz.prog 280 #[cZ tb,aJ (some ⟨mb,mo,none⟩) c,.int .i64 (i:Int)] w fun x w'=>x= .returned (.tuple #[bC ⟨gb,i*25,none⟩,.bool true])∧Met w' mb mt kr iP mo (jA a0 c) (jA l0 c) m∧Mod [mb] w w':=by
 obtain⟨W,hW,hB,hL,hR⟩:=oJ w 154 #[.pointer (some ⟨mb,mo,none⟩),.int .i64 c.p,.int .i64 c.v,.int .i64 c.u] 195 #[.pointer none];have lc:=hL.c4;have KJ:=hR.cell 0;simp only[List.getElem?_toArray,List.getElem?_cons_zero]at KJ;have hml:=hM.lt;have htl:=h.aW;have hgl:=h.aX;have HW:=qd hW
 have hi':(i:Int)<(T.gs.length:Int):=by omega
 have hi0:¬((i:Int)<0):=by omega
 have hi2:(0:Int)≤(i:Int):=by omega
 have tZ:=qd (wO ⟨gb,i*25,none⟩ mb mt kr iP mo a0 l0 m c W.drew (hM.below (hB.trans ((Below.refl _ _).drew.mono hB.size))));obtain⟨uf,tc1,tc2⟩:=(h.below hB).cells;unfold aJ at tZ;unfold cZ aJ bC;have HT:=qd (h.below hB);have HR:=qd (hR);have ah:=qd (Mod.of_below hB [mb]);clear hW hB h hM hL hR;go_in;go_upto_region 1 with fail;rw[←HW.out];go_upto_region 3 with fail;refine rT (fun(w':World)=>w'.cell? ⟨tb,0,none⟩=some (.slice (some ⟨gb,0,none⟩) T.gs.length T.gs.length)∧w'.cell? ⟨w.heap.size,0,none⟩=some (.pointer (some ⟨mb,mo,none⟩))∧w'.cell? ⟨w.heap.size,1,none⟩=some (.int .i64 c.p)∧w'.cell? ⟨w.heap.size,2,none⟩=some (.int .i64 c.v)∧w'.cell? ⟨w.heap.size,3,none⟩=some (.int .i64 c.u)) [7,8] ?_;have hHeld:=(⟨uf,lc.1,lc.2.1,lc.2.2.1,lc.2.2.2⟩:_∧_∧_∧_∧_);refine vW 0 rfl ?_;refine vW 1 rfl ?_;refine vW 2 rfl ?_;refine vT 3 rfl ?_;refine vW 4 rfl ?_;refine vW 5 rfl ?_;refine vT 6 rfl ?_;refine nT 7 rfl fun K hK=> ?_;go_simp;refine(tZ.out).mono ?_;rintro x w1 ⟨rfl,hM1,hm⟩;replace hm:Mod [mb] W w1:=(Mod.drewN [mb] W 1).then hm;clear lc KJ;replace HT:=qM hm HT;replace HR:=qM hm HR;replace ah:=qU ah hm;have HM:=qd (hM1);clear hM1 hm;unfold bC;have KJ:=HR.out.cell 0;simp only[List.getElem?_toArray,List.getElem?_cons_zero]at KJ;have rf0:=HR.out.frozen 0;have n0:=HT.out.cells.1;go_simp;refine kO hK ?_;clear hK K;refine nT 8 rfl fun K hK=> ?_;go_simp;refine kO hK ?_;clear hK K;refine vL 9 rfl ?_;refine aY (by kernel_rfl) ?_ _;have q1:=qJ HT.out.aW (qJ HT.out.aX (qJ HR.out.lt HM.out.lt))
 have hnew:=(HR.out.ak 0 (.pointer (some ⟨gb,i*25,none⟩)));have hm:=((Mod.refl [(w.heap.size+1)] w1).sl 0 (.pointer (some ⟨gb,i*25,none⟩)));simp only[pt]at hnew;refine bU (F:=fun v=>aj v (w.heap.size+1) 195 #[.pointer (some ⟨gb,i*25,none⟩)]∧Mod [(w.heap.size+1)] w1 v) ⟨hnew,hm⟩ ?_;clear hnew hm;rintro w2 ⟨hnew,hm⟩;clear KJ rf0;replace HT:=qM hm HT;replace HM:=qM hm HM;replace ah:=qU ah hm;replace HR:=qd hnew;clear hnew hm;have KJ:=HR.out.cell 0;simp only[List.getElem?_toArray,List.getElem?_cons_zero]at KJ;go_wp2;refine bodyPost_ret (v:= .tuple #[.agg #[.pointer (some ⟨gb,i*25,none⟩)],.bool true]) (by simp[results,Tryz.results280,go_sem,KJ]) rfl ⟨rfl,HM.out,ah.out⟩
theorem Mg (tb gb:Nat)(T:aC)(mb:Nat)(mt:TypeId)(kr iP:List Value)(mo:Nat)(a0 l0:bE)(m:Int)(c:bE)(i:Nat)(hi:i<T.gs.length)(w:World)(h:TabAt w tb gb T)(hM:Met w mb mt kr iP mo a0 l0 m)(hmt:mb≠tb)(jW:mb≠gb):
  Calls Tryz.prog 275 #[cZ tb,aJ (some ⟨mb,mo,none⟩) c,.int .i64 (i:Int)] w fun x w'=>x= .returned .nilIface∧TabAt w' tb gb {T with gs:=T.gs.set i (List.replicate 8 .empty)}∧Met w' mb mt kr iP mo (jA a0 c) (jA l0 c) m∧Mod [mb,tb,gb] w w':=by
 have hB:=(Below.refl w.heap.size w).alloc (Nat.le_refl _) (.cells #[.pointer (some ⟨mb,mo,none⟩),.int .i64 c.p,.int .i64 c.v,.int .i64 c.u] 154);have hL:=aj.new w 154 #[.pointer (some ⟨mb,mo,none⟩),.int .i64 c.p,.int .i64 c.v,.int .i64 c.u];obtain⟨W,hW⟩:∃W,W=w.alloc (.cells #[.pointer (some ⟨mb,mo,none⟩),.int .i64 c.p,.int .i64 c.v,.int .i64 c.u] 154):=⟨_,rfl⟩;rw[←hW]at hB hL;obtain⟨Kz,KA,KC,KD⟩:=hL.c4;have hml:=hM.lt;have htl:=h.aW;have hgl:=h.aX;have HW:=qd hW;have tZ:=qd (Iy tb gb T mb mt kr iP mo a0 l0 m c i hi W (h.below hB) (hM.below hB) hmt jW);unfold cZ aJ bC at tZ;unfold cZ aJ;have HT:=qd (h.below hB);have ah:=qd (Mod.of_below hB [mb,tb,gb]);clear hW hB h hM hL;go_in;go_upto_region 1 with fail;rw[←HW.out];go_wp2_with fail;refine(tZ.out).mono ?_;rintro x w1 ⟨rfl,hM1,hm⟩;clear Kz KA KC KD;replace HT:=qM hm HT;replace ah:=qU ah hm;clear hm;have HM:=qd (hM1);clear hM1;go_upto_region 4 with fail;have q1:=qJ HT.out.aW (qJ HT.out.aX (qJ HM.out.lt ah.out.size));refine eB 195 #[.pointer (some ⟨gb,i*25,none⟩)] ?_;rintro w2 ⟨hnew,hb⟩;replace HT:=qB hb HT;replace HM:=qB hb HM;replace ah:=qT ah hb;have HV:=qd (hnew);clear hnew hb;have Aq:=HV.out.cell 0;simp only[List.getElem?_toArray,List.getElem?_cons_zero]at Aq;have Ar:=qd (Kw gb 239 _ _ (i*25) _ w2 (HT.out.group i hi));unfold bC at Ar;go_wp2_with fail;refine(Ar.out).mono ?_;rintro x w3 ⟨rfl,hG3,hm⟩;have Cw:=HT.out.o7 i hi hm hG3;clear HT hG3 HV Aq
 replace HM:=qM hm HM;replace ah:=qU ah hm;have HT:=qd (Cw);clear hm Cw;go_wp2;go_ret;exact⟨rfl,HT.out,HM.out,ah.out⟩
section
variable {T : aC} {i s : Nat}
structure mO (T:aC):Prop where
 wide:qZ T.gs
 pow:Pw T.gs.length
 live:T.live=((aI T.gs).length:Int)
 bW:T.bW=(fJ T.gs:Int)
theorem mO.small (h:mO T):Small T:=by
 have h1:=U8 h.wide;have h2:=h.pow.le;exact⟨by rw[h.live];omega,by rw[h.live];omega,by rw[h.bW];omega,by rw[h.bW];omega,h2⟩
theorem mO.put (h:mO T)(hi:i<T.gs.length)(hs:s<(T.gs.getD i []).length)(x:Slot){l t:Int}(hl:l=T.live+x.ents.length-(aF T.gs i s).ents.length)(ht:t=T.bW+x.kU-(aF T.gs i s).kU):mO ⟨putAt T.gs i s x,l,t⟩:=by
 have h1:=(C9 hi hs x).length_eq;have h2:=wM hi hs x;rw[List.length_append,List.length_append]at h1;have h3:=h.live;have h4:=h.bW;exact⟨h.wide.put _ _ _,by show Pw (putAt _ _ _ _).length;rw[iH];exact h.pow,by show l=((aI (putAt T.gs i s x)).length:Int);omega,by show t=(fJ (putAt T.gs i s x):Int);omega⟩
theorem mO.erase (h:mO T){e:av}(he:aF T.gs i s= .full e):mO (lN T i s):=by
 obtain⟨hi,hs⟩:=kK (gs:=T.gs) (i:=i) (s:=s) (by rw[he];exact fun h=>by cases h);unfold lN
 cases ho:dQ (T.gs.getD i [])with
 |true=>exact h.put hi hs _ (by rw[he];simp[Slot.ents]<;>omega) (by rw[he];simp[Slot.kU,Slot.iY]<;>omega)
 |false=>exact h.put hi hs _ (by rw[he];simp[Slot.ents]<;>omega) (by rw[he];simp[Slot.kU,Slot.iY]<;>omega)
theorem mO.place (h:mO T)(hi:i<T.gs.length)(hs:s<(T.gs.getD i []).length)(he:(aF T.gs i s).isFull=false)(e:av):mO (jM T i s e):=by
 unfold jM
 cases hx:aF T.gs i s with
 |full y=>rw[hx]at he;cases he
 |empty=>exact h.put hi hs _ (by rw[hx];simp[Slot.ents]<;>omega) (by rw[hx];simp[Slot.kU,Slot.iY]<;>omega)
 |qp=>exact h.put hi hs _ (by rw[hx];simp[Slot.ents]<;>omega) (by rw[hx];simp[Slot.kU,Slot.iY]<;>omega)
theorem mO.replace (h:mO T){v:Nat}{e:av}(he:aF T.gs i s= .full e):mO (replaceM T i s v e):=by
 obtain⟨hi,hs⟩:=kK (gs:=T.gs) (i:=i) (s:=s) (by rw[he];exact fun h=>by cases h);exact h.put hi hs _ (by rw[he];simp[Slot.ents]<;>omega) (by rw[he];simp[Slot.kU,Slot.iY]<;>omega)
def gK (T:aC)(i s:Nat):aC:=if(aF T.gs i s).isFull then lN T i s else T
def takeN (T:aC)(i:Nat):Nat→aC
 |0=>T
 |k+1=>gK (takeN T i k) i k
theorem mO.aed (h:mO T)(i s:Nat):mO (gK T i s):=by
 unfold gK
 cases hx:aF T.gs i s with
 |full e=>rw[if_pos (by rfl)];exact h.erase hx
 |empty=>rw[if_neg (by simp[Slot.isFull])];exact h
 |qp=>rw[if_neg (by simp[Slot.isFull])];exact h
theorem mO.tkN (h:mO T)(i:Nat):∀k,mO (takeN T i k)
 |0=>h
 |k+1=>(h.tkN i k).aed i k
theorem Cz (T:aC)(i s:Nat):(lN T i s).gs.length=T.gs.length:=iH _ _ _ _
theorem sP (T:aC)(i:Nat):∀k,(takeN T i k).gs.length=T.gs.length
 |0=>rfl
 |k+1=>by
  show(gK _ _ _).gs.length=_;unfold gK;split
  ·rw[Cz,sP T i k]
  ·exact sP T i k
theorem abl {w w':World}{S:List Nat}{base:Nat}{e:TypeId}{size n:Nat}{v:Value}{xs:List Value}(h:w.ownsRow base e size v n xs)(hm:Mod S w w')(hS:∀k,k∈S→k<base):w'.ownsRow base e size v n xs:=by
 refine⟨h.1, ?_⟩;rcases h.2 with hn|⟨g,cap,cur,hv,hb,hg,rest⟩
 ·exact .inl hn
 ·exact .inr ⟨g,cap,cur,hv,hb,(hm.block g (Array.getElem?_eq_some_iff.1 hg).1 (fun hh=>absurd (hS g hh) (by omega))).trans hg,rest⟩
instance {w w':World}{base:Nat}{e:TypeId}{size n:Nat}{v:Value}{xs:List Value}:Md (w.ownsRow base e size v n xs) w w' (w'.ownsRow base e size v n xs) (fun S=>∀k,k∈S→k<base):=⟨fun h hm hs=>abl h hm hs⟩
end
section
structure uT (E:Nat→Addr)(w:World):Prop where
 of:∀k,k=1∨k=2∨k=5→gN E w k
theorem uT.at_ {E:Nat→Addr}{w:World}(h:uT E w)(k:Nat)(_:1≤k)(_:k≤16)(hk:k=1∨k=2∨k=5:=by decide):gN E w k:=h.of k hk
theorem uT.below {E:Nat→Addr}{w w':World}{B:Nat}(h:uT E w)(hb:Below B w w')(hB:w.heap.size≤B):uT E w':=⟨fun k hk=>(h.of k hk).below hb hB⟩
theorem jh.core {E:Nat→Addr}{w:World}(h:jh E w):uT E w:=⟨fun k hk=>h.at_ k (by omega) (by omega)⟩
structure Env (W0:World)(E:Nat→Addr)(w:World):Prop where
 below:Below W0.heap.size W0 w
 aas:uT E W0
 tz0:gZ W0
section
variable {W0 w w' : World} {E : Nat → Addr}
theorem Env.size (h:Env W0 E w):W0.heap.size≤w.heap.size:=h.below.size
theorem Env.errs (h:Env W0 E w):uT E w:=h.aas.below h.below (Nat.le_refl _)
theorem Env.tz (h:Env W0 E w):gZ w:=h.tz0.below h.below
theorem Env.YS (h:Env W0 E w):13 <W0.heap.size:=World.block_lt_of_cell? W0 _ (h.tz0 0 (by omega))
theorem Env.mod {S:List Nat}(h:Env W0 E w)(hm:Mod S w w')(hS:∀k,k∈S→W0.heap.size≤k):Env W0 E w':=⟨h.below.trans (hm.below hS h.size),h.aas,h.tz0⟩
instance {w w':World}{W0:World}{E:Nat→Addr}:Md (Env W0 E w) w w' (Env W0 E w') (fun S=>∀k,k∈S→W0.heap.size≤k):=⟨fun h hm hs=>h.mod hm hs⟩
theorem Env.next (h:Env W0 E w)(hb:Below w.heap.size w w'):Env W0 E w':=h.mod (Mod.of_below hb []) (by simp)
end
structure MP where
 mb:Nat
 mt:TypeId
 pre:List Value
 post:List Value
 mo:Nat
 m:Int
structure bP where
 all:bE
 last:bE
def bP.add (x:bP)(c:bE)(n:Nat):bP:=⟨gH x.all c n,gH x.last c n⟩
theorem Dy (a c:bE)(k:Nat):∀n,gH (gH a c k) c n=gH a c (k+n)
 |0=>rfl
 |n+1=>by
  show jA (gH (gH a c k) c n) c=jA (gH a c (k+n)) c;rw[Dy a c k n]
theorem bP.add_add (x:bP)(c:bE)(k n:Nat):(x.add c k).add c n=x.add c (k+n):=by unfold bP.add;rw[Dy,Dy]
def aQ (w:World)(P:MP)(x:bP):Prop:=Met w P.mb P.mt P.pre P.post P.mo x.all x.last P.m
def MP.addr (P:MP):Addr:=⟨P.mb,P.mo,none⟩
section
variable {w w' : World} {P : MP} {x : bP}
theorem aQ.lt (h:aQ w P x):P.mb<w.heap.size:=Met.lt h
theorem aQ.mod {S:List Nat}(h:aQ w P x)(hm:Mod S w w')(hg:P.mb∉S):aQ w' P x:=Met.mod h hm hg
instance {w w':World}{P:MP}{x:bP}:Md (aQ w P x) w w' (aQ w' P x) (fun S=>P.mb∉S):=⟨fun h hm hs=>aQ.mod h hm hs⟩
theorem aQ.below (h:aQ w P x)(hb:Below w.heap.size w w'):aQ w' P x:=Met.below h hb
end
end
theorem BH {z:Array Value}{v:Value}{k:Nat}(hz:z=(List.replicate k v).toArray)(hk:0<k)(n:Nat):madeCells z n=(List.replicate n v).toArray:=by
 apply Array.toList_inj.1;subst hz;unfold madeCells;rw[Array.toList_map];refine List.ext_getElem (by simp) fun i h1 h2=> ?_;simp only[List.getElem_map,List.getElem_replicate];rw[getElem!_pos _ _ (by simp;exact Nat.mod_lt _ hk)];simp
def BI:kW:=List.replicate 8 (.full ⟨0,0,0⟩)
theorem Tw:xO BI=List.replicate 25 (.int .u64 0):=by rfl
theorem Dz:∀n,dz (List.replicate n BI)=List.replicate (n*25) (.int .u64 0)
 |0=>rfl
 |n+1=>by
  show xO BI++dz (List.replicate n BI)=_;rw[Dz n,Tw,Nat.add_mul,Nat.add_comm,List.replicate_append_replicate]
def afH:Value:= .agg #[.int .u64 0,.agg (Array.replicate 8 (.agg #[.int .u64 0,.int .u64 0,.int .u64 0]))]
theorem YT:(Tryz.prog.info? 239).map (fun i=>(i.zero.map fun z=>z.cells,i.size,i.bytes))=some (some (List.replicate 25 (Value.int .u64 0)).toArray,25,200):=by kernel_rfl
theorem Qu (n:Nat)(hn:n≤64)(W:World):(Instr.makeSlice 233 (.int .i64 (n:Int)) (.int .i64 (n:Int))).run Tryz.prog W= .ok (.slice (some ⟨W.heap.size,0,none⟩) n n) (W.alloc (.cells (dz (List.replicate n BI)).toArray 239)):=by
 have h:=YT
 cases hi:Tryz.prog.info? 239 with
 |none=>rw[hi]at h;cases h
 |some i=>
  rw[hi]at h;simp only[Option.map_some,Option.some.injEq,Prod.mk.injEq,Option.map_eq_some_iff]at h;obtain⟨⟨z,hz,hc⟩,hs,hb⟩:=h;have:=run_makeSlice (P:=Tryz.prog) (w:=W) 233 239 i z Tryz.underlying233 hi hz .i64 .i64 (n:Int) (n:Int) (by omega) (Int.le_refl _) (by rw[hs];omega) (by rw[hb];omega) (by omega);rw[this,hs,Int.toNat_natCast,BH hc (by omega),Dz]
theorem qc (n:Nat)(hn:Pw n)(w:World):Calls Tryz.prog 175 #[.int .i64 (n:Int)] w fun e w'=>e= .returned (.bool true)∧w=w':=by
 rcases hn with rfl|rfl|rfl|rfl|rfl|rfl|rfl
 all_goals
  go_in;go_wp2;go_ret;exact⟨rfl,rfl⟩
def Tz (n:Nat):aC:=⟨List.replicate n BI,0,0⟩
theorem KL (n:Nat)(hn:Pw n)(w:World):
  Calls Tryz.prog 129 #[.int .i64 (n:Int)] w fun e w'=>e= .returned (.tuple #[cZ (w.heap.size+1),.nilIface])∧TabAt w' (w.heap.size+1) w.heap.size (Tz n)∧Below w.heap.size w w':=by
 have HR:=qd (qc n hn w);have hle:=hn.le;have hpos:=hn.pos;have hmk:=Qu n hle w;unfold cZ;go_in;go_wp2_with fail;refine(HR.out).mono ?_;rintro x w1 ⟨rfl,rfl⟩;go_wp2;refine bodyPost_ret (v:= .tuple #[.pointer (some ⟨w.heap.size+1,0,none⟩),.nilIface]) (by simp[results,Tryz.results129,go_sem]) rfl ⟨rfl,⟨fun G hG=> ?_, ?_, ?_,by omega⟩, ?_⟩
 ·rw[(List.mem_replicate.1 hG).2];rfl
 ·have:=aj.new (w.alloc (.cells (dz (List.replicate n BI)).toArray 239)) 235 #[.slice (some ⟨w.heap.size,0,none⟩) n n,.int .i64 0,.int .i64 0];rw[World.size_alloc]at this;simpa[Tz]using this
 ·exact(aj.new w 239 (dz (List.replicate n BI)).toArray).alloc _
 ·exact((Below.refl _ _).alloc (Nat.le_refl _) _).alloc (by simp) _
def NW:kW:=List.replicate 8 .empty
def qV (n k:Nat):Tab:=List.replicate k NW++List.replicate (n-k) BI
theorem y8 (n:Nat):qV n n=bare n:=by unfold qV;rw[Nat.sub_self];simp[bare,NW]
theorem o9 {n k:Nat}(h:k≤n):(qV n k).length=n:=by simp[qV];omega
theorem KM {n k:Nat}(h:k<n):(qV n k).set k NW=qV n (k+1):=by
 unfold qV;rw[List.set_append_right _ _ (by simp),List.length_replicate,Nat.sub_self,show n-k=(n-(k+1))+1 by omega,List.replicate_succ,List.set_cons_zero,List.replicate_succ',List.append_assoc];rfl
def dZ (n k:Nat):aC:=⟨qV n k,0,0⟩
theorem abm {n:Nat}(hn:Pw n):mO (dZ n n):=by
 have h:=(Nk hn);refine⟨?_, ?_, ?_, ?_⟩
 ·show qZ (qV n n);rw[y8];exact h.wide
 ·show Pw (qV n n).length;rw[o9 (Nat.le_refl _)];exact hn
 ·show(0:Int)=((aI (qV n n)).length:Int);rw[y8]
  have:aI (bare n)=[]:=List.eq_nil_iff_forall_not_mem.2 fun e he=>by obtain⟨i,s,hh⟩:=rJ.1 he;rw[zG]at hh;cases hh
  rw[this];rfl
 ·show(0:Int)=(fJ (qV n n):Int);rw[y8]
  have:∀n,fJ (bare n)=0:=fun n=>by
   induction n with
   |zero=>rfl
   |succ k ih=>show fJ (List.replicate 8 Slot.empty::bare k)=0;rw[zF,ih];rfl
  rw[this];rfl
theorem VJ (n:Nat)(hn:Pw n)(w:World):
  Calls Tryz.prog 95 #[.int .i64 (n:Int)] w fun e w'=>∃tb gb,w.heap.size≤tb∧w.heap.size≤gb∧e= .returned (.tuple #[cZ tb,.nilIface])∧TabAt w' tb gb (dZ n n)∧Below w.heap.size w w':=by
 have hle:=hn.le;have hpos:=hn.pos;have YU:=qd (KL n hn w);unfold cZ at YU⊢;go_in;go_upto_region 1 with fail;go_wp2_with fail;refine(YU.out).mono ?_;rintro x w1 ⟨rfl,hT1,hb1⟩;obtain⟨tb,htb⟩:∃tb,tb=w.heap.size+1:=⟨_,rfl⟩;obtain⟨gb,hgb⟩:∃gb,gb=w.heap.size:=⟨_,rfl⟩;rw[←htb]at hT1⊢;rw[←hgb]at hT1
 replace htb:w.heap.size≤tb:=by omega
 replace hgb:w.heap.size≤gb:=by omega
 clear YU;obtain⟨c0,c1,c2⟩:=hT1.cells
 have hln:(Tz n).gs.length=n:=by simp[Tz]
 rw[hln]at c0;have HT:=qd (show TabAt w1 tb gb (dZ n 0)from hT1);have ah:=qd hb1;clear hT1 hb1 hln;go_wp2;go_loopw [6,20] (fun _ i wr=>∃k:Nat,k≤n∧i= .int .i64 k∧TabAt wr tb gb (dZ n k)∧Below w.heap.size w wr) (fun _ i _=>n-(intOf i).toNat)
 case atStart=>exact⟨0,by omega,rfl,HT.out,ah.out⟩
 case round=>
  clear HT ah c0 c1 c2;obtain⟨k,hk,rfl,hT,hm⟩:=hrel;by_cases hlt:k<n
  ·have hlt':(k:Int)<(n:Int):=by omega
   have hk0:(0:Int)≤(k:Int):=by omega
   obtain⟨c0,c1,c2⟩:=hT.cells;have hln:(dZ n k).gs.length=n:=o9 hk;rw[hln]at c0;have htl:=hT.aW;have hgl:=hT.aX;have tZ:=qd (JA ⟨gb,k*25,none⟩ ⟨0,0,0⟩ wr);have HG:=qd (hT.group k (by rw[hln];exact hlt));have HT:=qd hT;have Hm:=qd hm;have HS:=qd (KM hlt);unfold aJ bC at tZ;clear hT hm hln;go_wp2_with fail;refine(tZ.out).mono ?_;rintro x w2 ⟨rfl,hb2⟩;have Ar:=qd (Kw gb 239 _ _ (k*25) _ w2 (HG.out.below hb2));have HT2:=qd (HT.out.below hb2);have VK:=qd (Hm.out.trans (hb2.mono Hm.out.size));unfold bC at Ar;clear hb2 HT Hm HG tZ;go_wp2_with fail;refine(Ar.out).mono ?_;rintro x w3 ⟨rfl,hG3,iZ⟩;have HT3:=qd (HT2.out.o7 k (by rw[show(dZ n k).gs.length=n from o9 hk];exact hlt) iZ hG3);have Hm3:=qd (VK.out.trans (iZ.below (B:=w.heap.size) (by intro j hj;simp at hj;omega) VK.out.size));clear HT2 VK hG3 iZ;go_wp2;go_roundw
   case rel=>exact⟨k+1,by omega,by go_num,by have:=HT3.out;unfold dZ at this⊢;rw[←HS.out];exact this,Hm3.out⟩
   case measure=>simp[intOf];omega
  ·obtain rfl:k=n:=by omega
   have hlt':¬(k:Int)<(k:Int):=by omega
   go_wp2;refine bodyPost_ret (v:= .tuple #[.pointer (some ⟨tb,0,none⟩),.nilIface]) (by simp[results,Tryz.results95,go_sem]) rfl (by first|exact⟨tb,gb,htb,hgb,rfl,hT,hm⟩|exact⟨tb,htb,gb,hgb,rfl,hT,hm⟩)
section
variable {j k : Nat} {es : List av} {e : av}
theorem rV {α:Type}{l:List α}{y:α}(h:l[k]?=some y):l.take (k+1)=l.take k++[y]:=by rw[List.take_add_one,h];rfl
def nL (f:av)(o:Option av)(e:av):Option av:=if !bG e f && (match o with|none=>true|some b=>bG e b)then some e else o
def dX (f:av)(o:Option av)(es:List av):Option av:=es.foldl (nL f) o
theorem Qv (f:av)(o:Option av)(h:es[j]?=some e):dX f o (es.take (j+1))=nL f (dX f o (es.take j)) e:=by
 unfold dX;rw[rV h,List.foldl_append];rfl
theorem NY (f:av)(gs:Tab)(hk:k<gs.length):dX f none (aI (gs.take (k+1)))=dX f (dX f none (aI (gs.take k))) (bR (gs.getD k [])):=by
 have h:gs[k]?=some (gs.getD k []):=by rw[List.getD_eq_getElem?_getD,List.getElem?_eq_getElem hk];rfl
 rw[rV h];unfold dX aI;rw[List.flatMap_append,List.foldl_append];simp
def xR (o:Option av):Array Value:=(aG (o.getD ⟨0,0,0⟩)).toArray
theorem KN {w:World}{base n c:Nat}{A:Option Addr}(h:w.ownsRow base 76 3 (.slice A n c) n (es.flatMap aG))(he:es[j]?=some e):
  ∃g,A=some ⟨g,0,none⟩∧base≤g∧w.cell? ⟨g,j*3,none⟩=some (.int .u64 (e.key:Int))∧w.cell? ⟨g,j*3+1,none⟩=some (.int .u64 (e.val:Int))∧w.cell? ⟨g,j*3+2,none⟩=some (.int .u64 (e.hash:Int))∧j<n:=by
 have hl:=h.1;rw[gV]at hl;obtain⟨hj,_⟩:=List.getElem?_eq_some_iff.1 he
 have hjn:j<n:=by omega
 rcases h.2 with hn|⟨g,cap,cur,hv,hb,hg,h1,h2,h3,h4⟩
 ·omega
 ·cases hv;refine⟨g,rfl,hb, ?_⟩
  have hs:es.flatMap aG=(es.take j).flatMap aG++(aG e++(es.drop (j+1)).flatMap aG):=by
   conv=>lhs;rw[←List.take_append_drop j es,List.drop_eq_getElem?_toList_append,he]
   simp
  have hlt:((es.take j).flatMap aG).length=j*3:=by rw[gV,List.length_take];omega
  have hc:∀q,q<3→w.cell? ⟨g,j*3+q,none⟩=(aG e)[q]?:=fun q hq=>by
   have:=h.cellAt (j*3+q) (by omega);rw[this,hs,List.getElem?_append_right (by omega),hlt,Nat.add_sub_cancel_left,List.getElem?_append_left (by simpa[aG]using hq)]
  exact⟨hc 0 (by omega),hc 1 (by omega),hc 2 (by omega),hjn⟩
theorem FB {W0:World}{E:Nat→Addr}(tb gb:Nat)(T:aC)(P:MP)(x:bP)(c:bE)(hash key:Nat)(hok:T.gs.length≤64)(w:World)(h:TabAt w tb gb T)(hM:aQ w P x)(hE:Env W0 E w)(hmt:P.mb≠tb)(jW:P.mb≠gb)(hb0:W0.heap.size≤P.mb):
  Calls Tryz.prog 171 #[cZ tb,aJ (some ⟨P.mb,P.mo,none⟩) c,.int .u64 (hash:Int),.int .u64 (key:Int)] w fun e w'=>e= .returned (kH (dX ⟨key,0,hash⟩ none (aI T.gs)))∧aQ w' P (x.add c T.gs.length)∧Mod [P.mb] w w':=by
 obtain⟨n,hn⟩:∃n,n=T.gs.length:=⟨_,rfl⟩;obtain⟨fr,hfr⟩:∃fr:av,fr=⟨key,0,hash⟩:=⟨_,rfl⟩;rw[←hfr,←hn];obtain⟨W,hW,hB,hL,hR,hF,hO⟩:=qX4 w 154 #[.pointer (some ⟨P.mb,P.mo,none⟩),.int .i64 c.p,.int .i64 c.v,.int .i64 c.u] 76 #[.int .u64 0,.int .u64 0,.int .u64 0] 76 #[.int .u64 (key:Int),.int .u64 0,.int .u64 (hash:Int)] 76 #[.int .u64 0,.int .u64 0,.int .u64 0];have hml:=hM.lt;have htl:=h.aW;have hgl:=h.aX;have hB0:=hE.size;have HW:=qd hW
 have hnm:n≤64:=by rw[hn];exact hok
 obtain⟨uf,tc1,tc2⟩:=(h.below hB).cells;rw[←hn]at uf;unfold cZ aJ kH aR;have HT:=qd (h.below hB);have ay:=qd (hE.next hB);have HM:=qd (show aQ W P (x.add c 0)from hM.below hB);have HL:=qd (hL);have HR:=qd (hR);have HF:=qd (hF);have HO:=qd (show aj W _ _ (xR (dX fr none (aI (T.gs.take 0))))from hO);have ah:=qd (Mod.of_below hB [P.mb]);have z1:=ah.out.size;obtain⟨lb,hlb⟩:∃lb,lb=w.heap.size:=⟨_,rfl⟩;obtain⟨rb,hrb⟩:∃rb,rb=w.heap.size+1:=⟨_,rfl⟩;obtain⟨fb,iB⟩:∃fb,fb=w.heap.size+1+1:=⟨_,rfl⟩;obtain⟨ob,lQ⟩:∃ob,ob=w.heap.size+1+1+1:=⟨_,rfl⟩;clear hW hB h hM hL hE hR hF hO;go_in;go_upto_region 3 with fail;rw[←HW.out,←lQ,←iB,←hrb,←hlb];rw[←hlb]at HL;rw[←hrb]at HR;rw[←iB]at HF;rw[←lQ]at HO
 have n1:lb<rb:=by omega
 have n2:rb<fb:=by omega
 have n3:fb<ob:=by omega
 have n4:P.mb<lb:=by omega
 have n5:tb<lb:=by omega
 have n6:gb<lb:=by omega
 have n7:W0.heap.size≤lb:=by omega
 have n8:w.heap.size≤lb:=by omega
 clear hlb hrb iB lQ HW;have HN:=qd hn;have HFR:=qd hfr;have HFC:=qd (show(#[.int .u64 (key:Int),.int .u64 0,.int .u64 (hash:Int)]:Array Value)= #[.int .u64 ((fr).key:Int),.int .u64 ((fr).val:Int),.int .u64 ((fr).hash:Int)]from by rw[hfr];rfl);clear hfr hn;go_wp2;clear uf tc1 tc2;go_loopw [12,13,15,24] (fun v12 _ _ i wr=>∃k:Nat,k≤n∧i= .int .i64 k∧v12= .bool (dX fr none (aI (T.gs.take k))).isSome∧aQ wr P (x.add c k)∧aj wr ob 76 (xR (dX fr none (aI (T.gs.take k))))∧TabAt wr tb gb T∧Env W0 E wr∧aj wr lb 154 #[.pointer (some ⟨P.mb,P.mo,none⟩),.int .i64 c.p,.int .i64 c.v,.int .i64 c.u]∧aj wr rb 76 #[.int .u64 0,.int .u64 0,.int .u64 0]∧aj wr fb 76 #[.int .u64 ((fr).key:Int),.int .u64 ((fr).val:Int),.int .u64 ((fr).hash:Int)]∧Mod [P.mb] w wr) (fun _ _ _ i _=>n-(intOf i).toNat)
 case atStart=>exact⟨0,by omega,rfl,rfl,HM.out,HO.out,HT.out,ay.out,HL.out,HR.out,HFC.out▸HF.out,ah.out⟩
 case round=>
  clear HM HO HT ay HL HR HF ah;obtain⟨k,hk,rfl,rfl,hM,hO,hT,hE,hL,hR,hF,hm⟩:=hrel;by_cases hlt:k<n
  ·have hlt':(k:Int)<(n:Int):=by omega
   have hk0:(0:Int)≤(k:Int):=by omega
   have Iz:k<T.gs.length:=by rw[←HN.out];exact hlt
   have HT:=qd (hT);have HM:=qd (hM);have ay:=qd (hE);have HO:=qd (hO);have HL:=qd (hL);have HR:=qd (hR);have HF:=qd (hF);have ah:=qd (hm);clear hT hM hE hO hL hR hF hm;obtain⟨o,ho⟩:∃o,o=dX fr none (aI (T.gs.take k)):=⟨_,rfl⟩;rw[←ho]at HO⊢;have HOo:=qd ho;clear ho;obtain⟨G,hG⟩:∃G,G=T.gs.getD k []:=⟨_,rfl⟩;have Ro:=qd hG;clear hG;have uf:=HT.out.cells.1;rw[←HN.out]at uf;have lc:=HL.out.c4;go_upto_region 7 with fail;have z1:=qJ ah.out.size (qJ HT.out.aW (qJ HT.out.aX (qJ HM.out.lt (qJ HO.out.lt (qJ HL.out.lt (qJ HR.out.lt HF.out.lt))))));have tZ:=qd (wO ⟨gb,k*25,none⟩ P.mb P.mt P.pre P.post P.mo (x.add c k).all (x.add c k).last P.m c wr.drew (HM.out.below (Below.refl _ _).drew));unfold aJ at tZ;refine rT (fun(w':World)=>w'.cell? ⟨tb,0,none⟩=some (.slice (some ⟨gb,0,none⟩) n n)∧w'.cell? ⟨lb,0,none⟩=some (.pointer (some ⟨P.mb,P.mo,none⟩))∧w'.cell? ⟨lb,1,none⟩=some (.int .i64 c.p)∧w'.cell? ⟨lb,2,none⟩=some (.int .i64 c.v)∧w'.cell? ⟨lb,3,none⟩=some (.int .i64 c.u)) [] ?_;have hHeld:=(⟨uf,lc.1,lc.2.1,lc.2.2.1,lc.2.2.2⟩:_∧_∧_∧_∧_);refine vW 0 rfl ?_;refine vW 1 rfl ?_;refine vW 2 rfl ?_;refine vT 3 rfl ?_;refine vW 4 rfl ?_;refine vW 5 rfl ?_;refine vT 6 rfl ?_;refine vW 10 rfl ?_;refine nT 7 rfl fun K hK=> ?_;go_simp;refine(tZ.out).mono ?_;rintro y w1 ⟨rfl,hM1,hm⟩;replace hm:Mod [P.mb] wr w1:=(Mod.drewN [P.mb] wr 1).then hm;clear tZ HM uf lc;replace HT:=qM hm HT;replace ay:=qM hm ay;replace HO:=qM hm HO;replace HL:=qM hm HL;replace HR:=qM hm HR;replace HF:=qM hm HF;have z9:=(hm).size
   replace ah:=qU ah hm;have HM:=qd (show aQ w1 P (x.add c (k+1))from hM1);clear hM1 hm;unfold bC;have uf:=HT.out.cells.1;rw[←HN.out]at uf;have lc:=HL.out.c4;have dU:=qd (Fy gb 239 _ _ (k*25) _ w1 (HT.out.group k Iz) ay.out.tz);rw[←Ro.out]at dU;unfold bC at dU;go_simp;have hHeld:=(⟨uf,lc.1,lc.2.1,lc.2.2.1,lc.2.2.2⟩:_∧_∧_∧_∧_);refine kO hK ?_;clear hK K;refine nT 8 rfl fun K hK=> ?_;go_simp;refine(dU.out).mono ?_;rintro y w2 ⟨A,cc,rfl,xS,hb⟩;clear uf lc;replace HT:=qB hb HT;replace ay:=qB hb ay;replace HO:=qB hb HO;replace HL:=qB hb HL;replace HR:=qB hb HR;replace HF:=qB hb HF;replace HM:=qB hb HM;have z10:=(hb).size;replace ah:=qT ah hb;have gW:=qd (xS);clear xS hb dU;have uf:=HT.out.cells.1;rw[←HN.out]at uf;have lc:=HL.out.c4;go_simp;have hHeld:=(⟨uf,lc.1,lc.2.1,lc.2.2.1,lc.2.2.2⟩:_∧_∧_∧_∧_);refine kO hK ?_;clear hK K;refine vW 9 rfl ?_;refine aY (by kernel_rfl) ?_ _;obtain⟨es,hes⟩:∃es,es=bR G:=⟨_,rfl⟩;rw[←hes]at gW⊢
   have aee:es.length≤8:=by have h1:=yS G;have h2:=HT.out.wide.at_ Iz;rw[←Ro.out]at h2;rw[hes];omega
   have HEs:=qd hes;clear hes;have z11:=ah.out.size;go_wp2;clear uf lc;go_loopw [12,15,37] (fun v12 _ i wr=>∃j:Nat,j≤es.length∧i= .int .i64 j∧v12= .bool (dX fr o (es.take j)).isSome∧aj wr ob 76 (xR (dX fr o (es.take j)))∧TabAt wr tb gb T∧Env W0 E wr∧aj wr lb 154 #[.pointer (some ⟨P.mb,P.mo,none⟩),.int .i64 c.p,.int .i64 c.v,.int .i64 c.u]∧aj wr rb 76 #[.int .u64 0,.int .u64 0,.int .u64 0]∧aj wr fb 76 #[.int .u64 ((fr).key:Int),.int .u64 ((fr).val:Int),.int .u64 ((fr).hash:Int)]∧Mod [P.mb] w wr∧aQ wr P (x.add c (k+1))∧wr.ownsRow w1.heap.size 76 3 (.slice A es.length cc) es.length (es.flatMap aG)) (fun _ _ i _=>es.length-(intOf i).toNat)
   case atStart=>exact⟨0,by omega,rfl,rfl,HO.out,HT.out,ay.out,HL.out,HR.out,HF.out,ah.out,HM.out,gW.out⟩
   case round=>
    clear HM HO HT ay HL HR HF ah gW;obtain⟨j,hj,rfl,rfl,hO,hT,hE,hL,hR,hF,hm,hM,xS⟩:=hrel;by_cases hlt2:j<es.length
    ·have TA:(j:Int)<(es.length:Int):=by omega
     have hj0:(0:Int)≤(j:Int):=by omega
     obtain⟨e,he⟩:∃e,es[j]?=some e:=⟨_,List.getElem?_eq_getElem hlt2⟩;obtain⟨g,rfl,hgb,k0,k1,k2,hjn⟩:=KN xS he;have eG:=qd (Qv fr o he);clear he hjn;have HT:=qd (hT);have HM:=qd (hM);have ay:=qd (hE);have HO:=qd (hO);have HL:=qd (hL);have HR:=qd (hR);have HF:=qd (hF);have gW:=qd (xS);have ah:=qd (hm);clear hT hM hE hO hL hR hF hm xS;obtain⟨o2,ho2⟩:∃o2,o2=dX fr o (es.take j):=⟨_,rfl⟩;rw[←ho2]at HO eG⊢;clear ho2;go_upto_region 10 with fail;have z1:=qJ ah.out.size (qJ HT.out.aW (qJ HT.out.aX (qJ HM.out.lt (qJ HO.out.lt (qJ HL.out.lt (qJ HR.out.lt (qJ HF.out.lt ah.out.size)))))));refine eB 76 #[.int .u64 ((e).key:Int),.int .u64 ((e).val:Int),.int .u64 ((e).hash:Int)] ?_;rintro w3 ⟨hnew,hb⟩;obtain⟨xb,hxb⟩:∃xb,xb=wr.heap.size:=⟨_,rfl⟩;rw[←hxb]at hnew⊢
     replace hxb:wr.heap.size≤xb:=by omega
     clear k0 k1 k2;replace HT:=qB hb HT;replace HM:=qB hb HM;replace ay:=qB hb ay;replace HO:=qB hb HO;replace HL:=qB hb HL;replace HR:=qB hb HR;replace HF:=qB hb HF;replace gW:=qB hb gW;have z10:=(hb).size;replace ah:=qT ah hb;have HX:=qd (hnew);clear hnew hb
     cases hl:bG e fr with
     |true=>
      have ig:=qd (kG e fr w3);rw[hl]at ig;unfold aR at ig;replace eG:=qd (show dX fr o (es.take (j+1))=o2 from by rw[eG.out];unfold nL;rw[hl];simp);clear hl;have xc:=HX.out.c3;have fc:=HF.out.c3;go_wp2_with fail;refine(ig.out).mono ?_;rintro x w4 ⟨rfl,hb⟩;clear xc fc;replace HT:=qB hb HT;replace HM:=qB hb HM;replace ay:=qB hb ay;replace HO:=qB hb HO;replace HL:=qB hb HL;replace HR:=qB hb HR;replace HF:=qB hb HF;replace gW:=qB hb gW;replace HX:=qB hb HX;have YV:=(hb).size;replace ah:=qT ah hb;clear hb;go_wp2;go_roundw
      case rel=>exact⟨j+1,by omega,by go_num,by rw[eG.out]<;>rfl,by rw[eG.out];exact HO.out,HT.out,ay.out,HL.out,HR.out,HF.out,ah.out,HM.out,gW.out⟩
      case measure=>simp[intOf];omega
     |false=>
      cases o2 with
      |none=>
       replace HO:=qd (show aj w3 ob 76 #[.int .u64 0,.int .u64 0,.int .u64 0]from HO.out);have ig:=qd (kG e fr w3);rw[hl]at ig;unfold aR at ig;replace eG:=qd (show dX fr o (es.take (j+1))=some e from by rw[eG.out];unfold nL;rw[hl];rfl);clear hl;have xc:=HX.out.c3;have fc:=HF.out.c3;go_wp2_with fail;refine(ig.out).mono ?_;rintro x w4 ⟨rfl,hb⟩;clear xc fc;replace HT:=qB hb HT;replace HM:=qB hb HM;replace ay:=qB hb ay;replace HO:=qB hb HO;replace HL:=qB hb HL;replace HR:=qB hb HR;replace HF:=qB hb HF;replace gW:=qB hb gW;replace HX:=qB hb HX;have YV:=(hb).size;replace ah:=qT ah hb;clear hb;have xc:=HX.out.c3;have oc:=HO.out.c3;have of:=HO.out.f3;go_upto_region 12 with fail;have afI:=qJ HT.out.aW (qJ HT.out.aX (qJ HM.out.lt (qJ HO.out.lt (qJ HL.out.lt (qJ HR.out.lt (qJ HF.out.lt HX.out.lt))))));refine Fg HO.out ?_;rintro w6 ⟨hnew,hm⟩;simp only[pt]at hnew;replace HT:=qM hm HT;replace HM:=qM hm HM;replace ay:=qM hm ay;replace HL:=qM hm HL;replace HR:=qM hm HR;replace HF:=qM hm HF;replace gW:=qM hm gW;replace HX:=qM hm HX;have afJ:=(hm).size;replace ah:=qU ah hm;replace HO:=qd hnew;clear hnew hm;go_wp2;go_roundw
       case rel=>exact⟨j+1,by omega,by go_num,by rw[eG.out]<;>rfl,by rw[eG.out];exact HO.out,HT.out,ay.out,HL.out,HR.out,HF.out,ah.out,HM.out,gW.out⟩
       case measure=>simp[intOf];omega
      |some b=>
       cases hlb:bG e b with
       |true=>
        replace HO:=qd (show aj w3 ob 76 #[.int .u64 ((b).key:Int),.int .u64 ((b).val:Int),.int .u64 ((b).hash:Int)]from HO.out);have ig:=qd (kG e fr w3);rw[hl]at ig;unfold aR at ig;replace eG:=qd (show dX fr o (es.take (j+1))=some e from by rw[eG.out];unfold nL;rw[hl];simp[hlb]);have xU:=qd (fun V:World=>kG e b V);rw[hlb]at xU;unfold aR at xU;clear hlb hl;have xc:=HX.out.c3;have fc:=HF.out.c3;go_wp2_with fail;refine(ig.out).mono ?_;rintro x w4 ⟨rfl,hb⟩;clear xc fc;replace HT:=qB hb HT;replace HM:=qB hb HM;replace ay:=qB hb ay;replace HO:=qB hb HO;replace HL:=qB hb HL;replace HR:=qB hb HR;replace HF:=qB hb HF;replace gW:=qB hb gW;replace HX:=qB hb HX;have YV:=(hb).size;replace ah:=qT ah hb;clear hb;have xc:=HX.out.c3;have oc:=HO.out.c3;go_wp2_with fail;refine((xU.out w4)).mono ?_;rintro x w5 ⟨rfl,hb⟩;clear xc oc;replace HT:=qB hb HT;replace HM:=qB hb HM;replace ay:=qB hb ay;replace HO:=qB hb HO;replace HL:=qB hb HL;replace HR:=qB hb HR;replace HF:=qB hb HF;replace gW:=qB hb gW;replace HX:=qB hb HX;have aef:=(hb).size;replace ah:=qT ah hb;clear hb;have xc:=HX.out.c3;have oc:=HO.out.c3;have of:=HO.out.f3;go_upto_region 12 with fail;have afK:=qJ HT.out.aW (qJ HT.out.aX (qJ HM.out.lt (qJ HO.out.lt (qJ HL.out.lt (qJ HR.out.lt (qJ HF.out.lt HX.out.lt))))));refine Fg HO.out ?_;rintro w6 ⟨hnew,hm⟩;simp only[pt]at hnew;replace HT:=qM hm HT;replace HM:=qM hm HM;replace ay:=qM hm ay;replace HL:=qM hm HL;replace HR:=qM hm HR;replace HF:=qM hm HF;replace gW:=qM hm gW
        replace HX:=qM hm HX;have afL:=(hm).size;replace ah:=qU ah hm;replace HO:=qd hnew;clear hnew hm;go_wp2;go_roundw
        case rel=>exact⟨j+1,by omega,by go_num,by rw[eG.out]<;>rfl,by rw[eG.out];exact HO.out,HT.out,ay.out,HL.out,HR.out,HF.out,ah.out,HM.out,gW.out⟩
        case measure=>simp[intOf];omega
       |false=>
        replace HO:=qd (show aj w3 ob 76 #[.int .u64 ((b).key:Int),.int .u64 ((b).val:Int),.int .u64 ((b).hash:Int)]from HO.out);have ig:=qd (kG e fr w3);rw[hl]at ig;unfold aR at ig;replace eG:=qd (show dX fr o (es.take (j+1))=some b from by rw[eG.out];unfold nL;rw[hl];simp[hlb]);have xU:=qd (fun V:World=>kG e b V);rw[hlb]at xU;unfold aR at xU;clear hlb hl;have xc:=HX.out.c3;have fc:=HF.out.c3;go_wp2_with fail;refine(ig.out).mono ?_;rintro x w4 ⟨rfl,hb⟩;clear xc fc;replace HT:=qB hb HT;replace HM:=qB hb HM;replace ay:=qB hb ay;replace HO:=qB hb HO;replace HL:=qB hb HL;replace HR:=qB hb HR;replace HF:=qB hb HF;replace gW:=qB hb gW;replace HX:=qB hb HX;have YV:=(hb).size;replace ah:=qT ah hb;clear hb;have xc:=HX.out.c3;have oc:=HO.out.c3;go_wp2_with fail;refine((xU.out w4)).mono ?_;rintro x w5 ⟨rfl,hb⟩;clear xc oc;replace HT:=qB hb HT;replace HM:=qB hb HM;replace ay:=qB hb ay;replace HO:=qB hb HO;replace HL:=qB hb HL;replace HR:=qB hb HR;replace HF:=qB hb HF;replace gW:=qB hb gW;replace HX:=qB hb HX;have aef:=(hb).size;replace ah:=qT ah hb;clear hb;go_wp2;go_roundw
        case rel=>exact⟨j+1,by omega,by go_num,by rw[eG.out]<;>rfl,by rw[eG.out];exact HO.out,HT.out,ay.out,HL.out,HR.out,HF.out,ah.out,HM.out,gW.out⟩
        case measure=>simp[intOf];omega
    ·obtain rfl:j=es.length:=by omega
     have TA:¬(es.length:Int)<(es.length:Int):=by omega
     have gT:=qd (show dX fr none (aI (T.gs.take (k+1)))=dX fr o es from by rw[NY fr T.gs Iz,HOo.out,HEs.out,Ro.out]);rw[List.take_length,←gT.out]at hO⊢;have FC:=qd (And.intro hM (And.intro hO (And.intro hT (And.intro hE (And.intro hL (And.intro hR (And.intro hF hm)))))));clear hM hO hT hE hL hR hF hm xS;go_wp2;go_roundw
     case rel=>exact⟨k+1,by omega,by go_num,rfl,FC.out⟩
     case measure=>simp[intOf];omega
  ·obtain rfl:k=n:=by omega
   have hlt':¬(k:Int)<(k:Int):=by omega
   have htk:T.gs.take k=T.gs:=by rw[HN.out];exact List.take_length
   rw[htk]at hO⊢;clear htk;obtain⟨b,hbe⟩:∃b,b=(dX fr none (aI T.gs)).getD ⟨0,0,0⟩:=⟨_,rfl⟩;obtain⟨sb,hsb⟩:∃sb,sb=(dX fr none (aI T.gs)).isSome:=⟨_,rfl⟩;have HM:=qd (hM);have HO:=qd (show aj wr ob _ #[.int .u64 ((b).key:Int),.int .u64 ((b).val:Int),.int .u64 ((b).hash:Int)]from by rw[hbe];exact hO);have HR:=qd (hR);have ah:=qd (hm);have Au:=qd hbe;clear hM hO hT hE hL hR hF hm hbe hsb;have oc:=HO.out.c3;have rc:=HR.out.c3;have rf:=HR.out.f3;go_wp2;have q1:=qJ HM.out.lt (qJ HO.out.lt HR.out.lt);refine Fg HR.out ?_;rintro w9 ⟨hnew,hm⟩;simp only[pt]at hnew;replace HM:=qM hm HM;replace HO:=qM hm HO;have z4:=(hm).size;replace ah:=qU ah hm;replace HR:=qd hnew;clear hnew hm;have rx:=HR.out.c3;refine bodyPost_ret (v:= .tuple #[.agg #[.int .u64 ((b).key:Int),.int .u64 ((b).val:Int),.int .u64 ((b).hash:Int)],.bool (dX fr none (aI T.gs)).isSome]) (by simp[results,Tryz.results171,go_sem,rx.1,rx.2.1,rx.2.2]) rfl ⟨by rw[Au.out],HM.out,ah.out⟩
end
end Go.Proofs.YtbfpfgfgfjhpfaaGreatDoor
