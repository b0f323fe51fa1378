/- A table's Raw by its contract: groups in which nothing is prepared. -/
import Derived.Test.YtfbljmcjadfkoaaGreatDoorCoEnv
import Derived.Test.YtfbljmcjadfkoaaGreatDoorSq
import Derived.Test.YtfbljmcjadfkoaaGreatDoorSqM
import Derived.Test.YtfbljmcjadfkoaaGreatDoorSqT
namespace Go.Proofs.YtfbljmcjadfkoaaGreatDoor
set_option maxRecDepth 100000
set_option maxHeartbeats 8000000
open Go.RowKit AmC Go
theorem made_const {z:Array Value}{v:Value}{k:Nat}(hz:z=(List.replicate k v).toArray)(hk:0<k)(n:Nat):madeCells z n=(List.replicate n v).toArray:=by
 apply Array.toList_inj.1;subst hz;unfold madeCells;rw[Array.toList_map];refine List.ext_getElem (by simp) fun i h1 h2=> ?_;simp only[List.getElem_map,List.getElem_replicate];rw[getElem!_pos _ _ (by simp;exact Nat.mod_lt _ hk)];simp
def rawG:Grp:=List.replicate 8 (.full ⟨0,0,0⟩)
theorem gCells_raw:gCells rawG=List.replicate 25 (.int .u64 0):=by rfl
theorem tabCells_raw:∀n,tabCells (List.replicate n rawG)=List.replicate (n*25) (.int .u64 0)
 |0=>rfl
 |n+1=>by
  show gCells rawG++tabCells (List.replicate n rawG)=_;rw[tabCells_raw n,gCells_raw,Nat.add_mul,Nat.add_comm,List.replicate_append_replicate]
def rawZ:Value:= .agg #[.int .u64 0,.agg (Array.replicate 8 (.agg #[.int .u64 0,.int .u64 0,.int .u64 0]))]
theorem info_grp:(Tryz.prog.info? 239).map (fun i=>(i.zero.map fun z=>z.cells,i.size,i.bytes))=some (some (List.replicate 25 (Value.int .u64 0)).toArray,25,200):=by kernel_rfl
theorem make_groups (n:Nat)(hn:n≤64)(W:World):(Instr.makeSlice 230 (.int .i64 (n:Int)) (.int .i64 (n:Int))).run Tryz.prog W= .ok (.slice (some ⟨W.heap.size,0,none⟩) n n) (W.alloc (.cells (tabCells (List.replicate n rawG)).toArray 239)):=by
 have h:=info_grp
 cases hi:Tryz.prog.info? 239 with
 |none=>rw[hi]at h;cases h
 |some i=>
  rw[hi]at h;simp only[Option.map_some,Option.some.injEq,Prod.mk.injEq,Option.map_eq_some_iff]at h;obtain⟨⟨z,hz,hc⟩,hs,hb⟩:=h;have:=run_makeSlice (P:=Tryz.prog) (w:=W) 230 239 i z Tryz.underlying230 hi hz .i64 .i64 (n:Int) (n:Int) (by omega) (Int.le_refl _) (by rw[hs];omega) (by rw[hb];omega) (by omega);rw[this,hs,Int.toNat_natCast,made_const hc (by omega),tabCells_raw]
theorem probe_Right_ok (n:Nat)(hn:Pw n)(w:World):Calls Tryz.prog 194 #[.int .i64 (n:Int)] w fun e w'=>e= .returned (.bool true)∧w=w':=by
 rcases hn with rfl|rfl|rfl|rfl|rfl|rfl|rfl
 all_goals
  go_in;go_wp2;go_ret;exact⟨rfl,rfl⟩
def rawT (n:Nat):TabM:=⟨List.replicate n rawG,0,0⟩
theorem table_Raw (n:Nat)(hn:Pw n)(w:World):
  Calls Tryz.prog 156 #[.int .i64 (n:Int)] w fun e w'=>e= .returned (.tuple #[tabP (w.heap.size+1),.nilIface])∧TabAt w' (w.heap.size+1) w.heap.size (rawT n)∧Below w.heap.size w w':=by
 have HR:=qd (probe_Right_ok n hn w);have hle:=hn.le;have hpos:=hn.pos;have hmk:=make_groups n hle w;unfold tabP;go_in;go_wp2_with fail;refine(HR.out).mono ?_;rintro x w1 ⟨rfl,rfl⟩;go_wp2;refine bodyPost_ret (v:= .tuple #[.pointer (some ⟨w.heap.size+1,0,none⟩),.nilIface]) (by simp[results,Tryz.results156,go_sem]) rfl ⟨rfl,⟨fun G hG=> ?_, ?_, ?_,by omega⟩, ?_⟩
 ·rw[(List.mem_replicate.1 hG).2];rfl
 ·have:=Blk.new (w.alloc (.cells (tabCells (List.replicate n rawG)).toArray 239)) 232 #[.slice (some ⟨w.heap.size,0,none⟩) n n,.int .i64 0,.int .i64 0];rw[World.size_alloc]at this;simpa[rawT]using this
 ·exact(Blk.new w 239 (tabCells (List.replicate n rawG)).toArray).alloc _
 ·exact((Below.refl _ _).alloc (Nat.le_refl _) _).alloc (by simp) _
def emptyG:Grp:=List.replicate 8 .empty
def prepG (n k:Nat):Tab:=List.replicate k emptyG++List.replicate (n-k) rawG
theorem prepG_all (n:Nat):prepG n n=bare n:=by unfold prepG;rw[Nat.sub_self];simp[bare,emptyG]
theorem prepG_length {n k:Nat}(h:k≤n):(prepG n k).length=n:=by simp[prepG];omega
theorem prepG_set {n k:Nat}(h:k<n):(prepG n k).set k emptyG=prepG n (k+1):=by
 unfold prepG;rw[List.set_append_right _ _ (by simp),List.length_replicate,Nat.sub_self,show n-k=(n-(k+1))+1 by omega,List.replicate_succ,List.set_cons_zero,List.replicate_succ',List.append_assoc];rfl
def prepT (n k:Nat):TabM:=⟨prepG n k,0,0⟩
theorem prep_ok {n:Nat}(hn:Pw n):TOk (prepT n n):=by
 have h:=(inv_bare hn);refine⟨?_, ?_, ?_, ?_⟩
 ·show Wide (prepG n n);rw[prepG_all];exact h.wide
 ·show Pw (prepG n n).length;rw[prepG_length (Nat.le_refl _)];exact hn
 ·show(0:Int)=((entsT (prepG n n)).length:Int);rw[prepG_all]
  have:entsT (bare n)=[]:=List.eq_nil_iff_forall_not_mem.2 fun e he=>by obtain⟨i,s,hh⟩:=mem_entsT.1 he;rw[slotAt_bare]at hh;cases hh
  rw[this];rfl
 ·show(0:Int)=(tombsT (prepG n n):Int);rw[prepG_all]
  have:∀n,tombsT (bare n)=0:=fun n=>by
   induction n with
   |zero=>rfl
   |succ k ih=>show tombsT (List.replicate 8 Slot.empty::bare k)=0;rw[tombsT_cons,ih];rfl
  rw[this];rfl
theorem table_New (n:Nat)(hn:Pw n)(w:World):
  Calls Tryz.prog 121 #[.int .i64 (n:Int)] w fun e w'=>∃tb gb,w.heap.size≤tb∧w.heap.size≤gb∧e= .returned (.tuple #[tabP tb,.nilIface])∧TabAt w' tb gb (prepT n n)∧Below w.heap.size w w':=by
 have hle:=hn.le;have hpos:=hn.pos;have HRaw:=qd (table_Raw n hn w);unfold tabP at HRaw⊢;go_in;go_upto_region 1 with fail;go_wp2_with fail;refine(HRaw.out).mono ?_;rintro x w1 ⟨rfl,hT1,hb1⟩;obtain⟨tb,htb⟩:∃tb,tb=w.heap.size+1:=⟨_,rfl⟩;obtain⟨gb,hgb⟩:∃gb,gb=w.heap.size:=⟨_,rfl⟩;rw[←htb]at hT1⊢;rw[←hgb]at hT1
 replace htb:w.heap.size≤tb:=by omega
 replace hgb:w.heap.size≤gb:=by omega
 clear HRaw;obtain⟨c0,c1,c2⟩:=hT1.cells
 have hln:(rawT n).gs.length=n:=by simp[rawT]
 rw[hln]at c0;have HT:=qd (show TabAt w1 tb gb (prepT n 0)from hT1);have Hmod:=qd hb1;clear hT1 hb1 hln;go_wp2;go_loopw [6,20] (fun _ i wr=>∃k:Nat,k≤n∧i= .int .i64 k∧TabAt wr tb gb (prepT n k)∧Below w.heap.size w wr) (fun _ i _=>n-(intOf i).toNat)
 case atStart=>exact⟨0,by omega,rfl,HT.out,Hmod.out⟩
 case round=>
  clear HT Hmod c0 c1 c2;obtain⟨k,hk,rfl,hT,hm⟩:=hrel;by_cases hlt:k<n
  ·have hlt':(k:Int)<(n:Int):=by omega
   have hk0:(0:Int)≤(k:Int):=by omega
   obtain⟨c0,c1,c2⟩:=hT.cells;have hln:(prepT n k).gs.length=n:=prepG_length hk;rw[hln]at c0;have htl:=hT.ltT;have hgl:=hT.ltG;have HLk:=qd (group_Look_nil ⟨gb,k*25,none⟩ ⟨0,0,0⟩ wr);have HG:=qd (hT.group k (by rw[hln];exact hlt));have HT:=qd hT;have Hm:=qd hm;have HS:=qd (prepG_set hlt);unfold lensV viewV at HLk;clear hT hm hln;go_wp2_with fail;refine(HLk.out).mono ?_;rintro x w2 ⟨rfl,hb2⟩;have HCl:=qd (grp_Clear gb 239 _ _ (k*25) _ w2 (HG.out.below hb2));have HT2:=qd (HT.out.below hb2);have Hm2:=qd (Hm.out.trans (hb2.mono Hm.out.size));unfold viewV at HCl;clear hb2 HT Hm HG HLk;go_wp2_with fail;refine(HCl.out).mono ?_;rintro x w3 ⟨rfl,hG3,hm3⟩;have HT3:=qd (HT2.out.set_group k (by rw[show(prepT n k).gs.length=n from prepG_length hk];exact hlt) hm3 hG3);have Hm3:=qd (Hm2.out.trans (hm3.below (B:=w.heap.size) (by intro j hj;simp at hj;omega) Hm2.out.size));clear HT2 Hm2 hG3 hm3;go_wp2;go_roundw
   case rel=>exact⟨k+1,by omega,by go_num,by have:=HT3.out;unfold prepT at this⊢;rw[←HS.out];exact this,Hm3.out⟩
   case measure=>simp[intOf];omega
  ·obtain rfl:k=n:=by omega
   have hlt':¬(k:Int)<(k:Int):=by omega
   go_wp2;refine bodyPost_ret (v:= .tuple #[.pointer (some ⟨tb,0,none⟩),.nilIface]) (by simp[results,Tryz.results121,go_sem]) rfl (by first|exact⟨tb,gb,htb,hgb,rfl,hT,hm⟩|exact⟨tb,htb,gb,hgb,rfl,hT,hm⟩)
section
variable {j k : Nat} {es : List Ent} {e : Ent}
theorem take_nx {α:Type}{l:List α}{y:α}(h:l[k]?=some y):l.take (k+1)=l.take k++[y]:=by rw[List.take_add_one,h];rfl
def leastStep (f:Ent)(o:Option Ent)(e:Ent):Option Ent:=if !lessE e f && (match o with|none=>true|some b=>lessE e b)then some e else o
def leastL (f:Ent)(o:Option Ent)(es:List Ent):Option Ent:=es.foldl (leastStep f) o
def optCells (o:Option Ent):Array Value:=(entCells (o.getD ⟨0,0,0⟩)).toArray
theorem ent_cells {w:World}{base n c:Nat}{A:Option Addr}(h:w.ownsRow base 199 3 (.slice A n c) n (es.flatMap entCells))(he:es[j]?=some e):
  ∃g,A=some ⟨g,0,none⟩∧base≤g∧w.cell? ⟨g,j*3,none⟩=some (.int .u64 (e.key:Int))∧w.cell? ⟨g,j*3+1,none⟩=some (.int .u64 (e.val:Int))∧w.cell? ⟨g,j*3+2,none⟩=some (.int .u64 (e.hash:Int))∧j<n:=by
 have hl:=h.1;rw[ents_length]at hl;obtain⟨hj,_⟩:=List.getElem?_eq_some_iff.1 he
 have hjn:j<n:=by omega
 rcases h.2 with hn|⟨g,cap,cur,hv,hb,hg,h1,h2,h3,h4⟩
 ·omega
 ·cases hv;refine⟨g,rfl,hb, ?_⟩
  have hs:es.flatMap entCells=(es.take j).flatMap entCells++(entCells e++(es.drop (j+1)).flatMap entCells):=by
   conv=>lhs;rw[←List.take_append_drop j es,List.drop_eq_getElem?_toList_append,he]
   simp
  have hlt:((es.take j).flatMap entCells).length=j*3:=by rw[ents_length,List.length_take];omega
  have hc:∀q,q<3→w.cell? ⟨g,j*3+q,none⟩=(entCells e)[q]?:=fun q hq=>by
   have:=h.cellAt (j*3+q) (by omega);rw[this,hs,List.getElem?_append_right (by omega),hlt,Nat.add_sub_cancel_left,List.getElem?_append_left (by simpa[entCells]using hq)]
  exact⟨hc 0 (by omega),hc 1 (by omega),hc 2 (by omega),hjn⟩
end
section
def cU (n:Int):Cnt:=⟨0,0,n⟩
def cV:Cnt:=⟨0,1,0⟩
def cP:Cnt:=⟨1,0,0⟩
def bldP (b:Nat):Value:= .pointer (some ⟨b,0,none⟩)
structure BldAt (w:World)(bb tb gb n k:Nat):Prop where
 blk:Blk w bb 325 #[.pointer (some ⟨tb,0,none⟩),.int .i64 (n:Int),.int .i64 (k:Int)]
 tab:TabAt w tb gb (prepT n k)
 le:k≤n
 pow:Pw n
 ne1:bb≠tb
 ne2:bb≠gb
section
variable {w w' : World} {bb tb gb n k : Nat}
theorem BldAt.lt (h:BldAt w bb tb gb n k):bb<w.heap.size:=h.blk.lt
theorem BldAt.ltT (h:BldAt w bb tb gb n k):tb<w.heap.size:=h.tab.ltT
theorem BldAt.ltG (h:BldAt w bb tb gb n k):gb<w.heap.size:=h.tab.ltG
theorem BldAt.mod {S:List Nat}(h:BldAt w bb tb gb n k)(hm:Mod S w w')(h1:bb∉S)(h2:tb∉S)(h3:gb∉S):BldAt w' bb tb gb n k:=⟨h.blk.mod hm h1,h.tab.mod hm h2 h3,h.le,h.pow,h.ne1,h.ne2⟩
instance {w w':World}{bb tb gb n k:Nat}:Md (BldAt w bb tb gb n k) w w' (BldAt w' bb tb gb n k) (fun S=>bb∉S∧tb∉S∧gb∉S):=⟨fun h hm hs=>h.mod hm hs.1 hs.2.1 hs.2.2⟩
theorem BldAt.cells (h:BldAt w bb tb gb n k):w.cell? ⟨bb,0,none⟩=some (.pointer (some ⟨tb,0,none⟩))∧w.cell? ⟨bb,1,none⟩=some (.int .i64 (n:Int))∧w.cell? ⟨bb,2,none⟩=some (.int .i64 (k:Int)):=
 ⟨h.blk.cell 0,h.blk.cell 1,h.blk.cell 2⟩
end
theorem build_Groups (bb n k:Nat)(p:Value)(w:World)(h:Blk w bb 325 #[p,.int .i64 (n:Int),.int .i64 (k:Int)]):
  Calls Tryz.prog 188 #[bldP bb] w fun e w'=>e= .returned (.int .i64 (n:Int))∧w=w':=by
 have c1:=h.cell 1;simp only[gl]at c1;clear h;unfold bldP;go_in;go_wp2;go_ret;exact⟨rfl,rfl⟩
theorem build_Left (bb n k:Nat)(p:Value)(w:World)(hk:k≤n)(hn:n≤64)(h:Blk w bb 325 #[p,.int .i64 (n:Int),.int .i64 (k:Int)]):
  Calls Tryz.prog 301 #[bldP bb] w fun e w'=>e= .returned (.int .i64 ((n-k:Nat):Int))∧w.drew=w':=by
 have c1:=h.cell 1;have c2:=h.cell 2;simp only[gl]at c1 c2;clear h;unfold bldP;go_in;go_upto_region 1 with fail;go_region;go_wp2;go_ret;exact⟨ret_int (by omega),rfl⟩
theorem build_Step {W0:World}{E:Nat→Addr}(bb tb gb n k:Nat)(P:MP)(x:Mtr)(hk:k<n)(w:World)(h:BldAt w bb tb gb n k)(hM:MetP w P x)(hE:Env W0 E w)(hmb:P.mb≠bb)(hmt:P.mb≠tb)(hmg:P.mb≠gb)(hb0:W0.heap.size≤P.mb)(hb1:W0.heap.size≤bb)(hb2:W0.heap.size≤tb)(hb3:W0.heap.size≤gb):
  Calls Tryz.prog 330 #[bldP bb,.pointer (some ⟨P.mb,P.mo,none⟩)] w fun e w'=>e= .returned (.bool true)∧BldAt w' bb tb gb n (k+1)∧MetP w' P ((x.add cV 1).add (cU 1) 1)∧Mod [P.mb,bb,tb,gb] w w':=by
 have hml:=hM.lt;have hB0:=hE.size;have hne1:=h.ne1;have hne2:=h.ne2;have hle:=h.pow.le
 have hk0:¬((n-k:Nat):Int)=0:=by omega
 have hk1:¬n≤k:=by omega
 have hk2:¬n-k=0:=by omega
 have HB:=qd (h.blk);have HT:=qd (h.tab);have HV0:=qd (hE);have HM:=qd (hM);have Hmod:=qd (Mod.refl [P.mb,bb,tb,gb] w);have HP:=qd h.pow;clear h hM hE;unfold bldP;have q1:=qJ HB.out.lt (qJ HT.out.ltT (qJ HT.out.ltG HM.out.lt));go_in;go_upto_region 1 with fail;have bc:=HB.out.c3;refine rT (fun(w':World)=>w'.cell? ⟨bb,0,none⟩=some (.pointer (some ⟨tb,0,none⟩))∧w'.cell? ⟨bb,1,none⟩=some (.int .i64 (n:Int))∧w'.cell? ⟨bb,2,none⟩=some (.int .i64 (k:Int))) [] ?_;have hHeld:=(⟨bc.1,bc.2.1,bc.2.2⟩:_∧_∧_);refine vW 0 rfl ?_;refine nT 1 rfl fun K hK=> ?_;go_simp;refine(build_Left bb n k _ _ (by omega) hle (HB.out.mod (Mod.drewN [] w 1) (by simp))).mono ?_;rintro y w1 ⟨rfl,hw1⟩;have hm:Mod [] w w1:=hw1▸Mod.drewN [] w 2;clear hw1 bc;replace HB:=qM hm HB;replace HT:=qM hm HT;replace HV0:=qM hm HV0;replace HM:=qM hm HM;have z5:=(hm).size;replace Hmod:=qU Hmod hm;clear hm;have bc:=HB.out.c3;go_wp2_with fail;have hHeld:=(⟨bc.1,bc.2.1,bc.2.2⟩:_∧_∧_);refine kO hK ?_;clear hK K;refine tW 2 (some 7) (.bool false) rfl hHeld ?_
 try simp only[pt]
 refine tW 3 (some 8) (.bool false) rfl hHeld ?_
 try simp only[pt]
 refine vW 4 rfl ?_;refine vW 5 rfl ?_;refine vW 6 rfl ?_;refine vT 7 rfl ?_;refine vW 8 rfl ?_;refine vW 10 rfl ?_;refine vW 11 rfl ?_;refine vW 12 rfl ?_;refine vT 13 rfl ?_;refine nT 9 rfl fun K hK=> ?_;go_simp;refine(meter_Working (some ⟨P.mb,P.mo,none⟩) _).mono ?_;rintro y w2 ⟨rfl,hb⟩;unfold lensV;clear bc;replace HB:=qB hb HB;replace HT:=qB hb HT;replace HV0:=qB hb HV0;replace HM:=qB hb HM;have z6:=(hb).size;replace Hmod:=qT Hmod hb;clear hb;have bc:=HB.out.c3;go_wp2_with fail;have hHeld:=(⟨bc.1,bc.2.1,bc.2.2⟩:_∧_∧_);refine kO hK ?_;clear hK K;refine nT 14 rfl fun K hK=> ?_;go_simp;have HPr:=qd (table_Prepare tb gb (prepT n k) P.mb P.mt P.pre P.post P.mo x.all x.last P.m ⟨0,1,0⟩ k (by rw[show(prepT n k).gs.length=n from prepG_length (by omega)];exact hk) w2 HT.out HM.out hmt hmg);unfold tabP lensV at HPr;refine(HPr.out).mono ?_;rintro y w3 ⟨rfl,hT3,hM3,hm⟩;clear HPr HT HM bc;replace HB:=qM hm HB;replace HV0:=qM hm HV0;have z7:=(hm).size;replace Hmod:=qU Hmod hm;have HT:=qd (show TabAt w3 tb gb (prepT n (k+1))from by unfold prepT at hT3⊢;rw[←prepG_set hk];exact hT3);have HM:=qd (show MetP w3 P (x.add cV 1)from hM3);clear hM3 hT3 hm;have bc:=HB.out.c3;go_wp2_with fail;have hHeld:=(⟨bc.1,bc.2.1,bc.2.2⟩:_∧_∧_);refine kO hK ?_;clear hK K;refine tW 15 (some 20) (.bool false) rfl hHeld ?_
 try simp only[pt]
 refine tW 16 (some 21) (.bool false) rfl hHeld ?_
 try simp only[pt]
 refine doneT (by kernel_rfl) ?_ _;go_upto_region 3 with fail;have HU:=qd (meter_Unit P.mb P.mt P.pre P.post P.mo _ _ P.m 1 (by omega) w3 HM.out);clear HM;go_wp2_with fail;refine(HU.out).mono ?_;rintro x w4 ⟨rfl,hM4,hm⟩;clear bc;replace HB:=qM hm HB;replace HV0:=qM hm HV0;replace HT:=qM hm HT;have z8:=(hm).size;replace Hmod:=qU Hmod hm;clear hm;have HM:=qd (show MetP w4 P ((x.add cV 1).add (cU 1) 1)from hM4);clear hM4 HU;have bc:=HB.out.c3;have bf:=HB.out.f3;go_upto_region 5 with fail;have q9:=qJ HB.out.lt (qJ HT.out.ltT (qJ HT.out.ltG HM.out.lt));refine qS1 HB.out ?_;rintro w5 ⟨hnew,hm⟩;simp only[pt]at hnew;clear bc bf;replace HV0:=qM hm HV0;replace HT:=qM hm HT;replace HM:=qM hm HM;have z13:=(hm).size;replace Hmod:=qU Hmod hm;replace HB:=qd hnew;clear hnew hm;go_wp2;go_ret;exact⟨rfl,⟨HB.out,HT.out,by omega,HP.out,hne1,hne2⟩,HM.out,Hmod.out⟩
theorem build_Step_no (bb tb gb n:Nat)(p:Value)(w:World)(h:BldAt w bb tb gb n n):
  Calls Tryz.prog 330 #[bldP bb,p] w fun e w'=>e= .returned (.bool false)∧Below w.heap.size w w':=by
 have hle:=h.pow.le;unfold bldP;have HL:=qd (build_Left bb n n _ w.drew (Nat.le_refl n) hle h.blk.drew);rw[Nat.sub_self]at HL;unfold bldP at HL;go_in;go_upto_region 1 with fail;refine rT (fun(w':World)=>True) [] ?_;have hHeld:=trivial;refine vW 0 rfl ?_;refine nT 1 rfl fun K hK=> ?_;go_simp;refine(HL.out).mono ?_;rintro y w1 ⟨rfl,rfl⟩;go_wp2_with fail;refine kO hK ?_;clear hK K;refine tW 2 (some 7) (.bool true) rfl hHeld ?_
 try simp only[pt]
 refine tW 3 (some 8) (.bool true) rfl hHeld ?_
 try simp only[pt]
 refine vU 4 rfl ?_;refine vU 5 rfl ?_;refine vU 6 rfl ?_;refine vU 7 rfl ?_;refine vU 8 rfl ?_;refine vU 9 rfl ?_;refine vU 10 rfl ?_;refine vU 11 rfl ?_;refine vU 12 rfl ?_;refine vU 13 rfl ?_;refine vU 14 rfl ?_;refine vU 15 rfl ?_;refine tW 16 (some 21) (.bool true) rfl hHeld ?_
 try simp only[pt]
 refine doneT (by kernel_rfl) ?_ _;go_wp2;go_ret;exact⟨rfl,(Below.refl _ _).drew.drew⟩
theorem build_Take (bb tb gb n:Nat)(w:World)(h:BldAt w bb tb gb n n):
  Calls Tryz.prog 338 #[bldP bb] w fun e w'=>e= .returned (.tuple #[tabP tb,.nilIface])∧Blk w' bb 325 #[.pointer none,.int .i64 (n:Int),.int .i64 (n:Int)]∧TabAt w' tb gb (prepT n n)∧Mod [bb] w w':=by
 have hle:=h.pow.le;have HL:=qd (build_Left bb n n _ w (Nat.le_refl n) hle h.blk);rw[Nat.sub_self]at HL;have hne1:=h.ne1;have hne2:=h.ne2;have HB:=qd (h.blk);have HT:=qd (h.tab);have Hmod:=qd (Mod.refl [bb] w);clear h;unfold bldP tabP;unfold bldP at HL;go_in;go_upto_region 1 with fail;go_wp2_with fail;refine(HL.out).mono ?_;rintro x w1 ⟨rfl,hw1⟩;have hm:Mod [] w w1:=hw1▸Mod.drewN [] w 1;clear hw1 HL;replace HB:=qM hm HB;replace HT:=qM hm HT;have z1:=(hm).size;replace Hmod:=qU Hmod hm;clear hm;have bc:=HB.out.c3;have bf:=HB.out.f3;go_upto_region 5 with fail;have q2:=qJ HB.out.lt (qJ HT.out.ltT HT.out.ltG);refine qS1 HB.out ?_;rintro w2 ⟨hnew,hm⟩;simp only[pt]at hnew;clear bc bf;replace HT:=qM hm HT;have z5:=(hm).size;replace Hmod:=qU Hmod hm;replace HB:=qd hnew;clear hnew hm;go_wp2;refine bodyPost_ret (v:= .tuple #[.pointer (some ⟨tb,0,none⟩),.nilIface]) (by simp[results,Tryz.results338,go_sem]) rfl ⟨rfl,HB.out,HT.out,Hmod.out⟩
end
section
attribute [local go_sem] Option.isNone_some Option.isNone_none
theorem trap_Raise (w:World):Calls Tryz.prog 168 #[.nilIface] w fun e w'=>e= .returned undef∧w=w':=by
 go_in;go_wp2;go_end0;exact⟨rfl,rfl⟩
theorem trap_Need (w:World):Calls Tryz.prog 130 #[.bool true] w fun e w'=>e= .returned undef∧w=w':=by
 go_in;go_wp2;go_end0;exact⟨rfl,rfl⟩
theorem must_int (a:Int)(w:World):Calls Tryz.prog 197 #[.int .i64 a,.nilIface] w fun e w'=>e= .returned (.int .i64 a)∧w=w':=by
 have HR:=qd (trap_Raise w);go_in;go_wp2_with fail;refine(HR.out).mono ?_;rintro x w1 ⟨rfl,rfl⟩;go_wp2;go_ret;exact⟨rfl,rfl⟩
theorem must_ents (p:Option Addr)(n c:Nat)(w:World):Calls Tryz.prog 332 #[.slice p n c,.nilIface] w fun e w'=>e= .returned (.slice p n c)∧w=w':=by
 have HR:=qd (trap_Raise w);go_in;go_wp2_with fail;refine(HR.out).mono ?_;rintro x w1 ⟨rfl,rfl⟩;go_wp2;go_ret;exact⟨rfl,rfl⟩
theorem must_tab (p:Option Addr)(w:World):Calls Tryz.prog 337 #[.pointer p,.nilIface] w fun e w'=>e= .returned (.pointer p)∧w=w':=by
 have HR:=qd (trap_Raise w);go_in;go_wp2_with fail;refine(HR.out).mono ?_;rintro x w1 ⟨rfl,rfl⟩;go_wp2;go_ret;exact⟨rfl,rfl⟩
theorem must_evac (p:Option Addr)(w:World):Calls Tryz.prog 339 #[.pointer p,.nilIface] w fun e w'=>e= .returned (.pointer p)∧w=w':=by
 have HR:=qd (trap_Raise w);go_in;go_wp2_with fail;refine(HR.out).mono ?_;rintro x w1 ⟨rfl,rfl⟩;go_wp2;go_ret;exact⟨rfl,rfl⟩
structure RowAt (w:World)(rb:Nat)(ts:List Nat):Prop where
 lt:rb<w.heap.size
 at_:∀j t,ts[j]?=some t→w.cell? ⟨rb,j,none⟩=some (.pointer (some ⟨t,0,none⟩))
theorem RowAt.mod {S:List Nat}{w w':World}{rb:Nat}{ts:List Nat}(h:RowAt w rb ts)(hm:Mod S w w')(hs:rb∉S):RowAt w' rb ts:=
 ⟨Nat.lt_of_lt_of_le h.lt hm.size,fun j t ht=>(hm.cell_ (p:=⟨rb,j,none⟩) h.lt hs).trans (h.at_ j t ht)⟩
instance {w w':World}{rb:Nat}{ts:List Nat}:Md (RowAt w rb ts) w w' (RowAt w' rb ts) (fun S=>rb∉S):=⟨fun h hm hs=>h.mod hm hs⟩
def ptrs (ts:List Nat):List Value:=ts.map fun t=> .pointer (some ⟨t,0,none⟩)
theorem RowAt.of_own {w:World}{base n c:Nat}{e:TypeId}{A:Option Addr}{ts:List Nat}(h:w.ownsRow base e 1 (.slice A n c) n (ptrs ts))(hn:0<n):∃rb,A=some ⟨rb,0,none⟩∧base≤rb∧RowAt w rb ts∧ts.length=n:=by
 have hl:=h.1;rcases h.2 with hz|⟨g,cap,cur,hv,hb,hg,h1,h2,h3,h4⟩
 ·omega
 ·cases hv;refine⟨g,rfl,hb,⟨(Array.getElem?_eq_some_iff.1 hg).1,fun j t ht=> ?_⟩,by simpa[ptrs]using hl⟩;obtain⟨hj,_⟩:=List.getElem?_eq_some_iff.1 ht
  have hjn:j<n:=by simp[ptrs]at hl;omega
  have:=h.cellAt j (by omega);rw[this];unfold ptrs;rw[List.getElem?_map,ht];rfl
theorem index_nil (rb cap:Nat)(ts:List Nat)(hn:ts.length≤2)(w:World)(h:RowAt w rb ts):
  Calls Tryz.prog 344 #[.slice (some ⟨rb,0,none⟩) ts.length cap,.pointer none] w fun e w'=>e= .returned (.int .i64 (-1))∧w=w':=by
 go_in;go_wp2;go_loop [5,8] (fun _ i=>∃k:Nat,k≤ts.length∧i= .int .i64 k) (fun _ i=>ts.length-(intOf i).toNat)
 case atStart=>exact⟨0,by omega,rfl⟩
 case round=>
  obtain⟨k,hk,rfl⟩:=hrel;by_cases hlt:k<ts.length
  ·have hlt':(k:Int)<(ts.length:Int):=by omega
   have hk0:(0:Int)≤(k:Int):=by omega
   have hc:=h.at_ k ts[k] (List.getElem?_eq_getElem hlt);generalize ts[k]=tk at hc
   have hnn:(Go.binOp .eql 182 (.pointer none) (.pointer (some (⟨tk,0,none⟩:Addr)))).run Tryz.prog w= .ok (.bool false) w:=by first|rfl|kernel_rfl|simp[Go.binOp,go_sem]
   go_wp2;go_round
   case rel=>exact⟨k+1,by omega,by go_num⟩
   case measure=>simp[intOf];omega
  ·have hlt':¬(k:Int)<(ts.length:Int):=by omega
   go_wp2;go_ret;exact⟨rfl,rfl⟩
theorem contains_nil (rb cap:Nat)(ts:List Nat)(hn:ts.length≤2)(w:World)(h:RowAt w rb ts):
  Calls Tryz.prog 342 #[.slice (some ⟨rb,0,none⟩) ts.length cap,.pointer none] w fun e w'=>e= .returned (.bool false)∧w=w':=by
 have HI:=qd (index_nil rb cap ts hn w h);go_in;go_wp2_with fail;refine(HI.out).mono ?_;rintro x w1 ⟨rfl,rfl⟩;go_wp2;go_ret;exact⟨rfl,rfl⟩
end
section
variable {w : World} {cap depth eb next tb vb : Nat} {ts : List Nat}
def sideOf (k depth hash:Nat):Nat:=if k=1 then 0 else bitOf hash depth
structure EvAt (w:World)(eb tb vb cap:Nat)(ts:List Nat)(depth next:Nat):Prop where
 blk:Blk w eb 354 #[.pointer (some ⟨tb,0,none⟩),.slice (some ⟨vb,0,none⟩) ts.length cap,.int .i64 (depth:Int),.int .i64 (next:Int)]
 row:RowAt w vb ts
theorem EvAt.mod {S:List Nat}{w':World}(h:EvAt w eb tb vb cap ts depth next)(hm:Mod S w w')(h1:eb∉S)(h2:vb∉S):EvAt w' eb tb vb cap ts depth next:=⟨h.blk.mod hm h1,h.row.mod hm h2⟩
instance {w w':World}{eb tb vb cap:Nat}{ts:List Nat}{depth next:Nat}:Md (EvAt w eb tb vb cap ts depth next) w w' (EvAt w' eb tb vb cap ts depth next) (fun S=>eb∉S∧vb∉S):=⟨fun h hm hs=>h.mod hm hs.1 hs.2⟩
theorem EvAt.lt (h:EvAt w eb tb vb cap ts depth next):eb<w.heap.size:=h.blk.lt
theorem EvAt.ltV (h:EvAt w eb tb vb cap ts depth next):vb<w.heap.size:=h.row.lt
theorem sub_nat {a b:Nat}(h:b≤a):(a:Int)-(b:Int)=((a-b:Nat):Int):=by omega
theorem evac_Left (eb tb gb vb cap:Nat)(ts:List Nat)(depth next:Nat)(T:TabM)(w:World)(h:EvAt w eb tb vb cap ts depth next)(ht:TabAt w tb gb T)(hle:next≤T.gs.length)(h64:T.gs.length≤64):
  Calls Tryz.prog 300 #[.pointer (some ⟨eb,0,none⟩)] w fun e w'=>e= .returned (.int .i64 ((T.gs.length-next:Nat):Int))∧w.drew=w':=by
 obtain⟨tc0,tc1,tc2⟩:=ht.cells;obtain⟨n,hn⟩:∃n,n=T.gs.length:=⟨_,rfl⟩;have HG:=qd (table_Groups tb gb T w.drew (ht.below (Below.refl _ _).drew));rw[←hn]at HG hle h64⊢;unfold tabP at HG;have HE:=qd (h);have Hmod:=qd (Mod.refl [] w);have HEb:=qd h.blk;clear h ht;have ec:=HEb.out.c4
 have hwr:IntKind.i64.wrap ((n:Int)-(next:Int))=((n-next:Nat):Int):=by rw[sub_nat hle];rw[IntKind.wrap_i64];omega
 clear tc0 tc1 tc2 hn;go_in;go_upto_region 1 with fail;refine rT (fun(w':World)=>w'.cell? ⟨eb,0,none⟩=some (.pointer (some ⟨tb,0,none⟩))∧w'.cell? ⟨eb,3,none⟩=some (.int .i64 (next:Int))) [] ?_;have hHeld:=(⟨ec.1,ec.2.2.2⟩:_∧_);refine vW 0 rfl ?_;refine vW 1 rfl ?_;refine vW 2 rfl ?_;refine vT 3 rfl ?_;refine vW 5 rfl ?_;refine vW 6 rfl ?_;refine vW 7 rfl ?_;refine vT 8 rfl ?_;refine nT 4 rfl fun K hK=> ?_;go_simp;refine(HG.out).mono ?_;rintro y w1 ⟨rfl,rfl⟩;go_wp2_with fail;have hHeld:=(⟨ec.1,ec.2.2.2⟩:_∧_);refine kO hK ?_;clear hK K;refine vW 9 rfl ?_;refine vW 10 rfl ?_;refine doneT (by kernel_rfl) ?_ _;go_wp2;go_ret;exact⟨rfl,rfl⟩
theorem evac_Target (eb tb vb cap:Nat)(ts:List Nat)(depth next hash t:Nat)(hk:1≤ts.length∧ts.length≤2)(hd:depth≤15)(h64:hash<18446744073709551616)(ht:ts[sideOf ts.length depth hash]?=some t)(w:World)(h:EvAt w eb tb vb cap ts depth next):
  Calls Tryz.prog 242 #[.pointer (some ⟨eb,0,none⟩),.int .u64 (hash:Int)] w fun e w'=>e= .returned (tabP t)∧Below w.heap.size w w':=by
 obtain⟨ec0,ec1,ec2,ec3⟩:=h.blk.c4;have hr:=h.row.at_ _ _ ht;have HT:=qd ht;unfold tabP;clear h ht;by_cases h1:ts.length=1
 ·have hs:sideOf ts.length depth hash=0:=by unfold sideOf;rw[if_pos h1]
  rw[hs]at hr;rw[h1]at ec1;go_in;go_wp2;go_ret;exact⟨rfl,Below.refl _ _⟩
 ·have h2:ts.length=2:=by omega
  have hs:sideOf ts.length depth hash=bitOf hash depth:=by unfold sideOf;rw[if_neg h1]
  rw[hs]at hr;rw[h2]at ec1;clear hs h1 HT;have hbl:bitOf hash depth<2:=Nat.mod_lt _ (by omega);have HBt:=qd (split_Bit hash depth h64 hd w.drew);generalize bitOf hash depth=sd at*
  have hsd:(sd:Int)<2:=by omega
  have hsd0:(0:Int)≤(sd:Int):=by omega
  have HMu:=qd (must_int (sd:Int) w.drew);go_in;go_upto_region 3 with fail;refine rT (fun(w':World)=>w'.cell? ⟨eb,1,none⟩=some (.slice (some ⟨vb,0,none⟩) 2 cap)∧w'.cell? ⟨eb,2,none⟩=some (.int .i64 (depth:Int))∧w'.cell? ⟨vb,sd,none⟩=some (.pointer (some ⟨t,0,none⟩))) [] ?_;have hHeld:=(⟨ec1,ec2,hr⟩:_∧_∧_);refine vW 0 rfl ?_;refine vW 1 rfl ?_;refine vW 2 rfl ?_;refine vT 3 rfl ?_;refine vW 4 rfl ?_;refine vW 5 rfl ?_;refine vW 6 rfl ?_;refine vW 7 rfl ?_;refine vT 8 rfl ?_;refine nT 9 rfl fun K hK=> ?_;go_simp;refine(HBt.out).mono ?_;rintro y w1 ⟨rfl,rfl⟩;go_wp2_with fail;have hHeld:=(⟨ec1,ec2,hr⟩:_∧_∧_);refine kO hK ?_;clear hK K;refine vW 10 rfl ?_;refine vW 11 rfl ?_;refine nT 12 rfl fun K hK=> ?_;go_simp;refine(HMu.out).mono ?_;rintro y w1 ⟨rfl,rfl⟩;go_wp2_with fail;have hHeld:=(⟨ec1,ec2,hr⟩:_∧_∧_);refine kO hK ?_;clear hK K;refine vW 13 rfl ?_;refine vT 14 rfl ?_;refine vW 15 rfl ?_;refine doneT (by kernel_rfl) ?_ _;go_wp2;go_ret;exact⟨rfl,(Below.refl _ _).drew⟩
end
section
variable {j k : Nat} {e : Ent} {bs : List (Nat × Nat)} {S : List Nat} {w w' : World} {Ts : List TabM}
def putNew (T:TabM)(e:Ent):TabM:=match (seek T.gs e.key e.hash).2.1 with
 |some x=>placeM T x.1 x.2 e
 |none=>T
structure CanPut (T:TabM)(e:Ent):Prop where
 ok:TOk T
 h64:e.hash<18446744073709551616
 none_:(seek T.gs e.key e.hash).1=none
 free:∃i s,(seek T.gs e.key e.hash).2.1=some (i,s)
 room:T.live+T.tombs+1≤7*(T.gs.length:Int)
def noT:TabM:=⟨[],0,0⟩
def moveOne (k d:Nat)(st:Mtr×List TabM)(e:Ent):Mtr×List TabM:=
 (st.1.add cV (seek (st.2.getD (sideOf k d e.hash) noT).gs e.key e.hash).2.2,st.2.set (sideOf k d e.hash) (putNew (st.2.getD (sideOf k d e.hash) noT) e))
def moveL (k d:Nat)(st:Mtr×List TabM)(es:List Ent):Mtr×List TabM:=es.foldl (moveOne k d) st
def Fits (k d:Nat):List TabM→List Ent→Prop
 |_,[]=>True
 |Ts,e::es=>(∃T,Ts[sideOf k d e.hash]?=some T∧CanPut T e)∧Fits k d (Ts.set (sideOf k d e.hash) (putNew (Ts.getD (sideOf k d e.hash) noT) e)) es
theorem moveL_snoc (k d:Nat)(st:Mtr×List TabM){es:List Ent}(h:es[j]?=some e):moveL k d st (es.take (j+1))=moveOne k d (moveL k d st (es.take j)) e:=by
 unfold moveL;rw[take_nx h,List.foldl_append];rfl
theorem fits_at {d:Nat}:∀{es:List Ent} {x:Mtr} {Ts:List TabM} {j:Nat} {e:Ent},Fits k d Ts es→es[j]?=some e→∃T,(moveL k d (x,Ts) (es.take j)).2[sideOf k d e.hash]?=some T∧CanPut T e
 | [],_,_,_,_,_,h=>by simp at h
 |e0::es,x,Ts,0,e,hf,h=>by
  simp at h;subst h;exact hf.1
 |e0::es,x,Ts,j+1,e,hf,h=>by
  rw[List.getElem?_cons_succ]at h;have:=fits_at (x:=x.add cV (seek (Ts.getD (sideOf k d e0.hash) noT).gs e0.key e0.hash).2.2) hf.2 h;exact this
structure TabsAt (w:World)(bs:List (Nat×Nat))(Ts:List TabM):Prop where
 len:bs.length=Ts.length
 at_:∀(j:Nat) (b:Nat×Nat) (T:TabM),bs[j]?=some b→Ts[j]?=some T→TabAt w b.1 b.2 T
 ne:∀(i j:Nat) (b c:Nat×Nat),bs[i]?=some b→bs[j]?=some c→i≠j→b.1≠c.1∧b.1≠c.2∧b.2≠c.1∧b.2≠c.2
def flatB (bs:List (Nat×Nat)):List Nat:=bs.flatMap fun b=> [b.1,b.2]
theorem mem_flatB:k∈flatB bs↔∃b∈bs,k=b.1∨k=b.2:=by simp[flatB]
theorem TabsAt.mod (h:TabsAt w bs Ts)(hm:Mod S w w')(hs:∀b∈bs,b.1∉S∧b.2∉S):TabsAt w' bs Ts:=
 ⟨h.len,fun j b T hb hT=>(h.at_ j b T hb hT).mod hm (hs b (List.mem_of_getElem? hb)).1 (hs b (List.mem_of_getElem? hb)).2,h.ne⟩
theorem TabsAt.set_ (h:TabsAt w bs Ts){b:Nat×Nat}{T':TabM}(hb:bs[j]?=some b)(hT:TabAt w' b.1 b.2 T')(hm:Mod S w w')(hs:∀k∈S,k=b.1∨k=b.2∨∀c∈bs,k≠c.1∧k≠c.2):TabsAt w' bs (Ts.set j T'):=by
 refine⟨by rw[List.length_set];exact h.len,fun i c T hc hT2=> ?_,h.ne⟩;rw[List.getElem?_set]at hT2;by_cases hij:j=i
 ·subst hij;rw[hb]at hc;cases hc;obtain⟨hlt,_⟩:=List.getElem?_eq_some_iff.1 hb;rw[if_pos rfl,if_pos (by rw[←h.len];exact hlt)]at hT2;cases hT2;exact hT
 ·rw[if_neg hij]at hT2;have hne:=h.ne j i b c hb hc hij;have hcm:=List.mem_of_getElem? hc;refine(h.at_ i c T hc hT2).mod hm (fun hk=> ?_) (fun hk=> ?_)
  ·rcases hs _ hk with e|e|e
   ·exact hne.1 e.symm
   ·exact hne.2.2.1 e.symm
   ·exact(e c hcm).1 rfl
  ·rcases hs _ hk with e|e|e
   ·exact hne.2.1 e.symm
   ·exact hne.2.2.2 e.symm
   ·exact(e c hcm).2 rfl
end
end Go.Proofs.YtfbljmcjadfkoaaGreatDoor
