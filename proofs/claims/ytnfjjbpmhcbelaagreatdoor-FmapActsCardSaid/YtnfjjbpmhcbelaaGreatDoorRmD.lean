/- A map from numbers to addresses, as a list; number k was laid as the k-th. No statement of the claim. -/
import Derived.Test.YtnfjjbpmhcbelaaGreatDoorSqM
import Derived.MapKept
import Derived.ChangeMaps5
import Derived.WideLaws
import Derived.Test.YtnfjjbpmhcbelaaGreatDoorRmA
import Derived.Test.YtnfjjbpmhcbelaaGreatDoorAppAny
import Derived.Test.YtnfjjbpmhcbelaaGreatDoorGaugeA
import Derived.Test.YtnfjjbpmhcbelaaGreatDoorFqB
import Derived.BigRegion
namespace Go.Proofs.YtnfjjbpmhcbelaaGreatDoor
set_option maxRecDepth 100000
set_option maxHeartbeats 4000000
open Go.RowKit dI Go.MapKept
open Go.ChangeMaps (setBlock heap_setBlock_same heap_setBlock_other)
open Go.ChangeMaps (setBlock)
section
def nO (p:Nat×Nat):MapEntry:=⟨.int .i64 (p.1:Int),.pointer (some ⟨p.2,0,none⟩),p.1-1⟩
def jh (w:World)(b g:Nat)(l:List (Nat×Nat)):Prop:=w.heap[b]?=some (.map (l.map nO).toArray g)
def nP (l:List (Nat×Nat))(x:Int):Option Nat:=(l.find? fun p=>decide ((p.1:Int)=x)).map Prod.snd
def TY (o:Option Nat):Value:= .pointer (o.map fun b=>⟨b,0,none⟩)
section
variable {P : Program} {w w' : World} {b g : Nat} {l : List (Nat × Nat)} {t k e : TypeId}
theorem jh.lt (h:jh w b g l):b<w.heap.size:=(Array.getElem?_eq_some_iff.1 h).1
theorem jh.mod {S:List Nat}(h:jh w b g l)(hm:Mod S w w')(hb:b∉S):jh w' b g l:=(hm.block b h.lt hb).trans h
instance {w w':World}{b g:Nat}{l:List (Nat×Nat)}:Md (jh w b g l) w w' (jh w' b g l) (fun S=>b∉S):=⟨fun h hm hs=>jh.mod h hm hs⟩
theorem jh.new (w:World):jh (w.alloc (.map #[] 0)) w.heap.size 0 []:=by
 exact heap_alloc_new w _
theorem BM (x:Int):∀(l:List (Nat×Nat)) (i:Nat),∃a,Instr.findNow (.int .i64) (.int .i64 x) (l.map nO) i=some a∧a.map Prod.snd=(nP l x).map (fun b=>Value.pointer (some ⟨b,0,none⟩))∧∀p,a=some p→∃j,p.1=i+j∧(l.map Prod.fst)[j]?.map (fun n:Nat=>(n:Int))=some x
 | [],_=>⟨none,rfl,rfl,fun _ h=>by cases h⟩
 |p::l,i=>by
  by_cases hp:(p.1:Int)=x
  ·refine⟨some (i,.pointer (some ⟨p.2,0,none⟩)), ?_, ?_,fun q hq=> ?_⟩
   ·subst hp;simp[Instr.findNow,Instr.sameNow,nO]
   ·unfold nP;rw[List.find?_cons_of_pos (by simpa using hp)];rfl
   ·cases hq;exact⟨0,rfl,by simp[hp]⟩
  ·obtain⟨a,h1,h2,h3⟩:=BM x l (i+1);refine⟨a, ?_, ?_,fun q hq=> ?_⟩
   ·have:((x==(p.1:Int))=false):=by simpa using fun h=>hp h.symm
    simp[Instr.findNow,Instr.sameNow,nO,this]at h1⊢;exact h1
   ·unfold nP at h2⊢;rw[List.find?_cons_of_neg (by simpa using hp)];exact h2
   ·obtain⟨j,h4,h5⟩:=h3 q hq;exact⟨j+1,by omega,by simpa using h5⟩
theorem Ew {x:Int}:IsKey (.int .i64) (.int .i64 x):=by simp[IsKey]
theorem jh.look (h:jh w b g l)(ht:P.underlying t=some (.map k e))(hk:P.underlying k=some (.int .i64))(hz:(zeroValue e).run P w= .ok (.pointer none) w)(x:Int):
  (Instr.lookup t (.map (some b)) (.int .i64 x) true).run P w= .ok (.tuple #[TY (nP l x),.bool (nP l x).isSome]) w:=by
 obtain⟨a,h1,h2,_⟩:=BM x l 0;have h3:=run_findKey (P:=P) (w:=w) hk h1
 cases hf:nP l x with
 |none=>
  rw[hf]at h2
  obtain rfl:a=none:=by cases a with|none=>rfl|some q=>simp at h2
  simp[Instr.lookup,run_underlying ht,Go.MapKept.run_getObj_map (show w.heap[b]?=some (.map (l.map nO).toArray g)from h),run_checkKey hk Ew,h3,hz,Result.andThen,TY]
 |some c=>
  rw[hf]at h2
  cases a with
  |none=>simp at h2
  |some q=>
   obtain⟨i,v⟩:=q;simp at h2;subst h2;simp[Instr.lookup,run_underlying ht,Go.MapKept.run_getObj_map (show w.heap[b]?=some (.map (l.map nO).toArray g)from h),run_checkKey hk Ew,h3,Result.andThen,TY]
theorem BN {x:Int}:nP l x=none↔∀p∈l,(p.1:Int)≠x:=by
 unfold nP;rw[Option.map_eq_none_iff,List.find?_eq_none];simp
theorem WT {x:Int}{c:Nat}(h:nP l x=some c):∃n:Nat,(n,c)∈l∧(n:Int)=x:=by
 unfold nP at h;rw[Option.map_eq_some_iff]at h;obtain⟨p,h1,rfl⟩:=h;have h2:=List.find?_some h1;exact⟨p.1,List.mem_of_find?_eq_some h1,by simpa using h2⟩
theorem jh.BO (h:jh w b g l)(o:Obj):Mod [b] w (setBlock w b o):=⟨rfl,rfl,rfl,by simp[setBlock],fun k _ hn=>heap_setBlock_other h o (by simpa using hn)⟩
theorem jh.put (h:jh w b g l)(ht:P.underlying t=some (.map k e))(hk:P.underlying k=some (.int .i64))(hf:nP l ((g+1:Nat):Int)=none)(c:Nat):
  (Instr.mapUpdate t (.map (some b)) (.int .i64 ((g+1:Nat):Int)) (.pointer (some ⟨c,0,none⟩))).run P w= .ok () (setBlock w b (.map ((l++[(g+1,c)]).map nO).toArray (g+1))):=by
 obtain⟨a,h1,h2,_⟩:=BM ((g+1:Nat):Int) l 0;have h3:=run_findKey (P:=P) (w:=w) hk h1;rw[hf]at h2
 obtain rfl:a=none:=by cases a with|none=>rfl|some q=>simp at h2
 rw[show((g+1:Nat):Int)=(g:Int)+1 from by omega]at h3;simp[Instr.mapUpdate,run_underlying ht,Go.MapKept.run_getObj_map (show w.heap[b]?=some (.map (l.map nO).toArray g)from h),run_checkKey hk Ew,h3,Go.MapKept.run_setObj_map _ (show w.heap[b]?=some (.map (l.map nO).toArray g)from h),Result.andThen,setBlock,nO]
theorem jh.ak (h:jh w b g l)(l':List (Nat×Nat))(g':Nat):jh (setBlock w b (.map (l'.map nO).toArray g')) b g' l':=heap_setBlock_same h _
end
end
section
variable {cb id : Nat} {c : gP}
structure It where
 id:Nat
 cb:Nat
 c:gP
def bR (ib mb:Nat)(its:List It):List Nat:=ib::mb::its.map It.cb
def iD (its:List It):List (Nat×Nat):=its.map fun i=>(i.id,i.cb)
structure gM (w:World)(ib mb most given:Nat)(its:List It):Prop where
 blk:aj w ib 134 #[.int .i64 (most:Int),.int .i64 (given:Int),.map (some mb)]
 map:jh w mb given (iD its)
 cur:∀i∈its,fB w i.cb i.c
 ids:∀i∈its,1≤i.id∧i.id≤given
 nd:(its.map It.id).Nodup
 nf:(bR ib mb its).Nodup
 few:most≤8∧its.length≤most
section
variable {w w' : World} {ib mb most given : Nat} {its : List It}
theorem gM.gI (h:gM w ib mb most given its):∀q∈bR ib mb its,q<w.heap.size:=by
 intro q hq;unfold bR at hq;rcases List.mem_cons.1 hq with rfl|hq
 ·exact h.blk.lt
 ·rcases List.mem_cons.1 hq with rfl|hq
  ·exact h.map.lt
  ·obtain⟨i,hi,rfl⟩:=List.mem_map.1 hq;exact(h.cur i hi).lt
theorem gM.mod {S:List Nat}(h:gM w ib mb most given its)(hm:Mod S w w')(hS:∀q∈bR ib mb its,q∉S):gM w' ib mb most given its:=
 ⟨h.blk.mod hm (hS _ (by simp[bR])),h.map.mod hm (hS _ (by simp[bR])),fun i hi=>(h.cur i hi).mod hm (hS _ (by simp only[bR,List.mem_cons];exact .inr (.inr (List.mem_map_of_mem hi)))),h.ids,h.nd,h.nf,h.few⟩
instance {w w':World}{ib mb most given:Nat}{its:List It}:Md (gM w ib mb most given its) w w' (gM w' ib mb most given its) (fun S=>∀q∈bR ib mb its,q∉S):=⟨fun h hm hs=>gM.mod h hm hs⟩
theorem gM.below (h:gM w ib mb most given its)(hb:Below w.heap.size w w'):gM w' ib mb most given its:=h.mod (Mod.of_below hb []) (by simp)
end
theorem abA (w:World):(zeroValue 132).run Tryz.prog w= .ok (.pointer none) w:=by kernel_rfl
theorem ac0 {w:World}{b g:Nat}{l:List (Nat×Nat)}(h:jh w b g l)(ty:TypeId):(Builtin.len_ #[131] ty #[.map (some b)]).run Tryz.prog w= .ok (.int .i64 (l.length:Int)) w:=by
 have:=run_len_map (P:=Tryz.prog) w 131 ty b _ g (by kernel_rfl) (show w.heap[b]?=some (.map (l.map nO).toArray g)from h);rw[this];simp[goInt]
theorem WU (n:Nat)(hn:1≤n∧n≤8)(w:World):Calls Tryz.prog 47 #[.int .i64 (n:Int)] w fun y w'=>y= .returned (.tuple #[.pointer (some ⟨(w.heap.size+1),0,none⟩),.nilIface])∧gM w' (w.heap.size+1) w.heap.size n 0 []∧Below w.heap.size w w':=by
 have h1:¬(n:Int)<1:=by omega
 have h2:¬(n:Int)>8:=by omega
 have hm:∀W:World,(Instr.makeMap 131 none).run Tryz.prog W= .ok (.map (some W.heap.size)) (W.alloc (.map #[] 0)):=fun _=>rfl;have HN:=qd hn;clear hn;go_in;go_wp2;refine bodyPost_ret (v:= .tuple #[.pointer (some ⟨(w.heap.size+1),0,none⟩),.nilIface]) (by simp[results,Tryz.results47,go_sem]) rfl ⟨rfl, ?_, ?_⟩
 ·exact⟨by simpa using aj.new (w.alloc (.map #[] 0)) 134 #[.int .i64 (n:Int),.int .i64 0,.map (some w.heap.size)],(jh.new w).mod (Mod.of_below ((Below.refl _ _).alloc (Nat.le_refl _) _) []) (by simp),by simp,by simp,by simp,by simp[bR],by have:=HN.out;simp;omega⟩
 ·exact((Below.refl _ _).alloc (Nat.le_refl _) _).alloc (by simp) _
section
variable {w : World} {ib mb most given : Nat} {its : List It}
theorem yK {its:List It}(hn:(its.map It.id).Nodup){i j:It}(hi:i∈its)(hj:j∈its)(h:i.id=j.id):i=j:=by
 induction its with
 |nil=>cases hi
 |cons x l ih=>
  rw[List.map_cons,List.nodup_cons]at hn;rcases List.mem_cons.1 hi with h1|h1
  ·rcases List.mem_cons.1 hj with h2|h2
   ·rw[h1,h2]
   ·exact absurd (show x.id∈l.map It.id from by rw[←h1,h];exact List.mem_map_of_mem h2) hn.1
  ·rcases List.mem_cons.1 hj with h2|h2
   ·exact absurd (show x.id∈l.map It.id from by rw[←h2,←h];exact List.mem_map_of_mem h1) hn.1
   ·exact ih hn.2 h1 h2
theorem ZK (hn:(its.map It.id).Nodup)(h:⟨id,cb,c⟩∈its):nP (iD its) (id:Int)=some cb:=by
 cases hf:nP (iD its) (id:Int)with
 |none=>
  exact absurd rfl (BN.1 hf (id,cb) (List.mem_map.2 ⟨_,h,rfl⟩))
 |some cb'=>
  obtain⟨n,h1,h2⟩:=WT hf;obtain⟨i,h3,h4⟩:=List.mem_map.1 h1;obtain⟨h5,h6⟩:=Prod.mk.inj h4
  have hid:i.id=id:=by omega
  have:i=⟨id,cb,c⟩:=by
   exact yK hn h3 h hid
  rw[this]at h6;exact congrArg some h6.symm
theorem Ph (h:gM w ib mb most given its)(hi:⟨id,cb,c⟩∈its):Calls Tryz.prog 88 #[pQ ib,.int .i64 (id:Int)] w fun y w'=>y= .returned (.tuple #[pQ cb,.nilIface])∧w=w':=by
 have hl:=h.map.look (P:=Tryz.prog) (t:=131) Tryz.underlying131 Tryz.underlying3 (abA _) (id:Int);rw[ZK h.nd hi]at hl;obtain⟨c0,c1,c2⟩:=h.blk.c3;unfold TY at hl;simp only[Option.map_some,Option.isSome_some]at hl;clear h hi;go_in;go_wp2;refine bodyPost_ret (v:= .tuple #[pQ cb,.nilIface]) (by simp[results,Tryz.results88,go_sem]) rfl ⟨rfl,rfl⟩
theorem gM.opened {w2:World}(h:gM w ib mb most given its)(hlt:its.length<most)(hb:aj w2 ib 134 #[.int .i64 (most:Int),.int .i64 ((given:Int)+1),.map (some mb)])(hm:jh w2 mb (given+1) (iD its++[(given+1,cb)]))(hc:fB w2 cb ⟨0,0,false⟩)(hcb:w.heap.size≤cb)(hmod:Mod [ib,mb] w w2):gM w2 ib mb most (given+1) (its++[⟨given+1,cb,⟨0,0,false⟩⟩]):=by
 have hl:=h.gI;have hnf:=h.nf
 have aeB:∀i∈its,i.cb∉[ib,mb]:=fun i hi=>by
  unfold bR at hnf;rw[List.nodup_cons,List.nodup_cons]at hnf;have:=List.mem_map_of_mem (f:=It.cb) hi;intro hh;rcases List.mem_cons.1 hh with e|e
  ·exact hnf.1 (List.mem_cons_of_mem _ (e▸this))
  ·exact hnf.2.1 (List.mem_singleton.1 e▸this)
 refine⟨hb,by unfold iD at hm⊢;rw[List.map_append];exact hm,fun i hi=> ?_,fun i hi=> ?_, ?_, ?_,h.few.1,by rw[List.length_append];simp;omega⟩
 ·rcases List.mem_append.1 hi with hi|hi
  ·exact(h.cur i hi).mod hmod (aeB i hi)
  ·rw[List.mem_singleton.1 hi];exact hc
 ·rcases List.mem_append.1 hi with hi|hi
  ·have:=h.ids i hi;omega
  ·rw[List.mem_singleton.1 hi];simp
 ·rw[List.map_append,List.nodup_append];refine⟨h.nd,by simp,fun a ha b hb=> ?_⟩;obtain⟨i,hi,rfl⟩:=List.mem_map.1 ha;have:=h.ids i hi;simp at hb;omega
 ·have:bR ib mb (its++[⟨given+1,cb,⟨0,0,false⟩⟩])=bR ib mb its++[cb]:=by simp[bR]
  rw[this,List.nodup_append];refine⟨h.nf,by simp,fun a ha b hb=> ?_⟩;have:=hl a ha;simp at hb;omega
theorem T9 (h:gM w ib mb most given its)(hlt:its.length<most)(hg:given≤100000):Calls Tryz.prog 87 #[pQ ib] w fun y w'=>∃cb,w.heap.size≤cb∧y= .returned (.tuple #[.int .i64 ((given+1:Nat):Int),.nilIface])∧gM w' ib mb most (given+1) (its++[⟨given+1,cb,⟨0,0,false⟩⟩])∧Mod [ib,mb] w w':=by
 obtain⟨c0,c1,c2⟩:=h.blk.c3;have f1:=h.blk.frozen 1;have hl:=ac0 (h.map.mod (Mod.of_below (Below.refl w.heap.size w).drew []) (by simp)) 3
 have hll:(iD its).length=its.length:=by simp[iD]
 rw[hll]at hl
 have hlt':¬(its.length:Int)≥(most:Int):=by omega
 have hw1:IntKind.i64.wrap ((given:Int)+1)=((given+1:Nat):Int):=by rw[IntKind.wrap_i64];omega
 have hnew:=((h.blk.ak 1 (.int .i64 ((given:Int)+1)))).drew;have hm:=(((Mod.refl [ib] w).sl 1 (.int .i64 ((given:Int)+1)))).then (Mod.of_below (Below.refl _ _).drew [ib]);simp only[pt]at hnew
 have hmi:mb∉[ib]:=fun hh=>by have:=h.nf;unfold bR at this;rw[List.nodup_cons]at this;exact this.1 (by rw[List.mem_singleton.1 hh];simp)
 have jR:=qd (And.intro hnew (And.intro hm (h.map.mod hm hmi)));have HH:=qd h;have Nw:=qd hlt;have HMi:=qd hmi;clear h hnew hm hmi hlt;go_in;go_upto_region 1 with fail;go_region;go_upto_region 4 with fail;refine bV (F:=fun v=>aj v ib 134 #[.int .i64 (most:Int),.int .i64 ((given:Int)+1),.map (some mb)]∧Mod [ib] w v∧jh v mb given (iD its)) jR.out ?_;clear jR c0 c1 c2 f1 hl hll;rintro W ⟨hb,hm,hmp⟩;have HB:=qd hb;have HM:=qd hm;have HP:=qd hmp;clear hb hm hmp;have c1:=HB.out.cell 1;have c2:=HB.out.cell 2;simp only[gl]at c1 c2;refine rT (fun(w':World)=>w'.cell? ⟨ib,1,none⟩=some (.int .i64 ((given:Int)+1))∧w'.cell? ⟨ib,2,none⟩=some (.map (some mb))) [9] ?_;have hHeld:=(⟨c1,c2⟩:_∧_);refine vW 0 rfl ?_;refine vW 1 rfl ?_;refine vW 2 rfl ?_;refine vT 3 rfl ?_;refine vW 4 rfl ?_;refine vW 5 rfl ?_;refine vW 6 rfl ?_;refine vT 7 rfl ?_;refine nT 8 rfl fun K hK=> ?_;go_simp;refine(TV _).mono ?_;rintro y W1 ⟨rfl,Rv,hb⟩;have hsz:(World.drew W).heap.size=W.heap.size:=rfl;rw[hsz]at Rv hb⊢;replace hb:Below W.heap.size W W1:=bP hb (Below.refl _ _).drew;replace HB:=qB hb HB;replace HP:=qB hb HP;have HS:=qd (show w.heap.size≤W.heap.size from HM.out.size);replace HM:=qd (HM.out.then (Mod.of_below hb [ib]));have HC:=qd Rv;obtain⟨cb,hcb⟩:∃cb,cb=W.heap.size:=⟨_,rfl⟩;rw[←hcb]at HC HS⊢;clear Rv hb hsz c1 c2 hcb;have c1:=HB.out.cell 1;have c2:=HB.out.cell 2;simp only[gl]at c1 c2;go_wp2_with fail;have hHeld:=(⟨c1,c2⟩:_∧_);refine kO hK ?_;clear hK K;refine nT 9 rfl fun K hK=> ?_
 have hput:=HP.out.put (P:=Tryz.prog) (t:=131) Tryz.underlying131 Tryz.underlying3 (by
  rw[BN];intro p hp;obtain⟨i,hi,rfl⟩:=List.mem_map.1 hp;have:=HH.out.ids i hi
  simp only;omega) cb
 have hms:=HP.out.ak (iD its++[(given+1,cb)]) (given+1);have hmm:=HP.out.BO (.map ((iD its++[(given+1,cb)]).map nO).toArray (given+1))
 have hcm:cb∉[mb]:=fun hh=>by have:=HH.out.map.lt;rw[←List.mem_singleton.1 hh]at this;have:=HS.out;omega
 have him:ib∉[mb]:=fun hh=>HMi.out (by rw[List.mem_singleton.1 hh];simp);rw[show((given+1:Nat):Int)=(given:Int)+1 from by omega]at hput;obtain⟨W2,hW2⟩:∃W2,W2=setBlock W1 mb (.map ((iD its++[(given+1,cb)]).map nO).toArray (given+1)):=⟨_,rfl⟩;rw[←hW2]at hput hms hmm;have HE:=qd (And.intro (HB.out.mod hmm him) (HH.out.opened Nw.out (HB.out.mod hmm him) hms (HC.out.mod hmm hcm) HS.out (HM.out.trans hmm (fun _ hk _=>by simp at hk⊢;exact .inl hk) (fun _ hk _=>by simp at hk⊢;exact .inr hk))));have HE2:=qd (HM.out.trans hmm (U:=[ib,mb]) (fun _ hk _=>by simp at hk⊢;exact .inl hk) (fun _ hk _=>by simp at hk⊢;exact .inr hk));clear hms hmm hcm him hW2 c1 c2;have c1:=HE.out.1.cell 1;simp only[gl]at c1;have HI:=qd (And.intro HE.out.2 HE2.out);clear HE HE2;go_simp;refine kO hK ?_;clear hK K;refine aR (by kernel_rfl) ?_ _;go_wp2;refine bodyPost_ret (v:= .tuple #[.int .i64 ((given:Int)+1),.nilIface]) (by simp[results,Tryz.results87,go_sem]) rfl ⟨cb,HS.out,rfl,HI.out⟩
end
end
section
variable {fO S : List Nat} {Kk ph pk pm pr : Nat} {V : World} {e : av}
def dW (b:Nat)(C:fZ)(GC:List Nat)(mb:Nat)(its:List It):List Nat:=b::(bR C.ib mb its++GC)
structure gB (W0:World)(E:Nat→Addr)(H:Nat→Nat)(K M I b:Nat)(G0:List Nat)(w0:World)(C:fZ)(GC:List Nat)(mb gv:Nat)(w:World)(a:Pool)(ids:List Nat)(its:List It):Prop where
 blk:sF w b C
 cfg:C.k=(K:Int)∧C.m=(M:Int)∧C.i=(I:Int)
 core:gN W0 E H K M C.cb GC w a ids
 nZ:gM w C.ib mb I gv its
 b0:W0.heap.size≤b∧∀q∈bR C.ib mb its,W0.heap.size≤q
 apart:b∉GC∧b∉bR C.ib mb its∧∀q∈bR C.ib mb its,q∉GC
 sub:∀q∈dW b C GC mb its,q∈G0∨w0.heap.size≤q
 mod:Mod G0 w0 w
 qH:W0.heap.size≤w0.heap.size
theorem aH {b:Nat}{C:fZ}{GC:List Nat}{mb:Nat}{its:List It}{q:Nat}:q∈dW b C GC mb its↔q=b∨q∈bR C.ib mb its∨q∈GC:=by unfold dW;simp
section
variable {W0 : World} {E : Nat → Addr} {H : Nat → Nat} {K M I b : Nat} {G0 : List Nat} {w0 : World} {C C' : fZ} {GC : List Nat} {mb gv yL : Nat} {w w' : World} {a a' : Pool} {ids aK : List Nat} {its qX : List It}
theorem gB.gI (h:gB W0 E H K M I b G0 w0 C GC mb gv w a ids its):∀q∈dW b C GC mb its,q<w.heap.size∧W0.heap.size≤q:=fun q hq=>by
 rcases aH.1 hq with rfl|hq|hq
 ·exact⟨h.blk.lt,h.b0.1⟩
 ·exact⟨h.nZ.gI q hq,h.b0.2 q hq⟩
 ·exact h.core.facts.2.2.2.2.2.2.2.2.2.2.1 q hq
theorem gB.kk (h:gB W0 E H K M I b G0 w0 C GC mb gv w a ids its):1≤C.k∧C.k≤64:=by
 have:=h.core.facts.2.2.2.2.2.2.2.2.1;rw[h.cfg.1];omega
theorem gB.BO (h:gB W0 E H K M I b G0 w0 C GC mb gv w a ids its)(hm:Mod S w w')(hS:∀q∈S,q∉dW b C GC mb its∧w0.heap.size≤q):gB W0 E H K M I b G0 w0 C GC mb gv w' a ids its:=by
 have h1:∀q∈dW b C GC mb its,q∉S:=fun q hq hs=>(hS q hs).1 hq;exact⟨h.blk.mod hm (h1 b (aH.2 (.inl rfl))),h.cfg,h.core.mod hm (fun q hq=>⟨fun hg=>(hS q hq).1 (aH.2 (.inr (.inr hg))),Nat.le_trans h.qH (hS q hq).2⟩),h.nZ.mod hm (fun q hq=>h1 q (aH.2 (.inr (.inl hq)))),h.b0,h.apart,h.sub,h.mod.trans hm (fun _ hk _=>hk) (fun k hk hl=>absurd (hS k hk).2 (by omega)),h.qH⟩
theorem gB.below (h:gB W0 E H K M I b G0 w0 C GC mb gv w a ids its)(hb:Below w.heap.size w w'):gB W0 E H K M I b G0 w0 C GC mb gv w' a ids its:=h.BO (Mod.of_below hb []) (by simp)
theorem gB.Pj (h:gB W0 E H K M I b G0 w0 C GC mb gv w a ids its)(hB:sF w' b C')(hm:Mod [b] w w')(hk:C'.k=C.k∧C'.m=C.m∧C'.i=C.i∧C'.cb=C.cb∧C'.ib=C.ib):gB W0 E H K M I b G0 w0 C' GC mb gv w' a ids its:=by
 obtain⟨k1,k2,k3,k4,k5⟩:=hk;refine⟨hB,by rw[k1,k2,k3];exact h.cfg,by rw[k4];exact h.core.mod hm (fun q hq=>by rw[List.mem_singleton.1 hq];exact⟨h.apart.1,h.b0.1⟩),by rw[k5];exact h.nZ.mod hm (fun q hq hs=>h.apart.2.1 (List.mem_singleton.1 hs▸hq)),by rw[k5];exact h.b0,by rw[k5];exact h.apart,fun q hq=>h.sub q (by rw[aH]at hq⊢;rw[k5]at hq;exact hq),h.mod.trans hm (fun _ hk _=>hk) (fun k hk hl=> ?_),h.qH⟩;rcases h.sub b (aH.2 (.inl rfl))with h1|h1
 ·rw[List.mem_singleton.1 hk];exact h1
 ·rw[List.mem_singleton.1 hk]at hl;omega
theorem Mod.within (h:Mod G0 w0 w)(hm:Mod S w w')(hs:∀q∈S,q∈G0∨w0.heap.size≤q):Mod G0 w0 w':=h.trans hm (fun _ hk _=>hk) fun k hk hl=>(hs k hk).elim id fun h1=>absurd h1 (by omega)
theorem gB.aaJ (h:gB W0 E H K M I b G0 w0 C GC mb gv w a ids its)(h1:gN W0 E H K M C.cb fO w' a' aK)(h2:∀q∈fO,q∈GC∨w.heap.size≤q)(h3:Mod GC w w'):gB W0 E H K M I b G0 w0 C fO mb gv w' a' aK its:=by
 have hbl:=h.blk.lt;have hil:=h.nZ.gI;refine⟨h.blk.mod h3 h.apart.1,h.cfg,h1,h.nZ.mod h3 h.apart.2.2,h.b0,⟨fun hg=> ?_,h.apart.2.1,fun q hq hg=> ?_⟩,fun q hq=> ?_,h.mod.within h3 (fun q hq=>h.sub q (aH.2 (.inr (.inr hq)))),h.qH⟩
 ·rcases h2 b hg with k|k
  ·exact h.apart.1 k
  ·omega
 ·rcases h2 q hg with k|k
  ·exact h.apart.2.2 q hq k
  ·have:=hil q hq;omega
 ·rcases aH.1 hq with k|k|k
  ·exact h.sub q (aH.2 (.inl k))
  ·exact h.sub q (aH.2 (.inr (.inl k)))
  ·rcases h2 q k with k|k
   ·exact h.sub q (aH.2 (.inr (.inr k)))
   ·have:=h.mod.size;exact .inr (by omega)
theorem gB.ZL (h:gB W0 E H K M I b G0 w0 C GC mb gv w a ids its)(hc:jS W0 E H K M C.cb GC w w' a' aK):∃fO,gB W0 E H K M I b G0 w0 C fO mb gv w' a' aK its∧(∀q∈fO,q∈GC∨w.heap.size≤q)∧Mod GC w w':=by
 obtain⟨fO,h1,h2,h3⟩:=hc;exact⟨fO,h.aaJ h1 h2 h3,h2,h3⟩
theorem gB.ZM (h:gB W0 E H K M I b G0 w0 C GC mb gv w a ids its)(hi:gM w' C.ib mb I yL qX)(hm:Mod S w w')(hS:∀q∈S,q∈bR C.ib mb its∨(q∉dW b C GC mb its∧w0.heap.size≤q))(hn:∀q∈bR C.ib mb qX,q∈bR C.ib mb its∨w.heap.size≤q):gB W0 E H K M I b G0 w0 C GC mb yL w' a ids qX:=by
 have hbl:=h.blk.lt;have hcl:=h.core.facts.2.2.2.2.2.2.2.2.2.2.1;have hen:=h.core.facts.2.2.2.2.2.2.2.2.2.2.2.size;refine⟨h.blk.mod hm (fun hs=> ?_),h.cfg,h.core.mod hm (fun q hq=> ?_),hi,⟨h.b0.1,fun q hq=> ?_⟩,⟨h.apart.1,fun hq=> ?_,fun q hq hg=> ?_⟩,fun q hq=> ?_,h.mod.within hm (fun q hq=> ?_),h.qH⟩
 ·rcases hS b hs with k|k
  ·exact h.apart.2.1 k
  ·exact k.1 (aH.2 (.inl rfl))
 ·rcases hS q hq with k|k
  ·exact⟨h.apart.2.2 q k,h.b0.2 q k⟩
  ·exact⟨fun hg=>k.1 (aH.2 (.inr (.inr hg))),Nat.le_trans h.qH k.2⟩
 ·rcases hn q hq with k|k
  ·exact h.b0.2 q k
  ·omega
 ·rcases hn b hq with k|k
  ·exact h.apart.2.1 k
  ·omega
 ·rcases hn q hq with k|k
  ·exact h.apart.2.2 q k hg
  ·have:=(hcl q hg).1;omega
 ·rcases aH.1 hq with k|k|k
  ·exact h.sub q (aH.2 (.inl k))
  ·rcases hn q k with k|k
   ·exact h.sub q (aH.2 (.inr (.inl k)))
   ·have:=h.mod.size;exact .inr (by omega)
  ·exact h.sub q (aH.2 (.inr (.inr k)))
 ·rcases hS q hq with k|k
  ·exact h.sub q (aH.2 (.inr (.inl k)))
  ·exact .inr k.2
theorem gB.again (h:gB W0 E H K M I b G0 w0 C GC mb gv w a ids its):gB W0 E H K M I b (dW b C GC mb its) w C GC mb gv w a ids its:=⟨h.blk,h.cfg,h.core,h.nZ,h.b0,h.apart,fun q hq=> .inl hq,Mod.refl _ _,by have:=h.core.facts.2.2.2.2.2.2.2.2.2.2.2.size;exact this⟩
theorem gB.chain {mb':Nat}(h:gB W0 E H K M I b G0 w0 C GC mb gv w a ids its)(k:gB W0 E H K M I b (dW b C GC mb its) w C' fO mb' yL w' a' aK qX):gB W0 E H K M I b G0 w0 C' fO mb' yL w' a' aK qX:=
 ⟨k.blk,k.cfg,k.core,k.nZ,k.b0,k.apart,fun q hq=>(k.sub q hq).elim (fun g=>h.sub q g) (fun g=> .inr (by have:=h.mod.size;omega)),h.mod.within k.mod h.sub,h.qH⟩
end
def kR (W0:World)(E:Nat→Addr)(H:Nat→Nat)(K M I b:Nat)(G:List Nat)(w:World)(a:Pool)(ids:List Nat)(its:List It)(gv:Nat)(d9:bq):Prop:=
 ∃(C:fZ) (GC:List Nat) (mb:Nat),gB W0 E H K M I b (dW b C GC mb its) w C GC mb gv w a ids its∧G=dW b C GC mb its∧C.last=d9
def mW (W0:World)(E:Nat→Addr)(H:Nat→Nat)(K M I b:Nat)(G:List Nat)(w w':World)(a':Pool)(aK:List Nat)(qX:List It)(yL:Nat)(gD:bq):Prop:=
 ∃G',kR W0 E H K M I b G' w' a' aK qX yL gD∧(∀q∈G',q∈G∨w.heap.size≤q)∧Mod G w w'
section
variable {W0 : World} {E : Nat → Addr} {H : Nat → Nat} {K M I b : Nat} {G G0 : List Nat} {w0 w w' : World} {C : fZ} {GC : List Nat} {mb gv yL : Nat} {a a' : Pool} {ids aK : List Nat} {its qX : List It} {d9 gD : bq}
theorem gB.to (h:gB W0 E H K M I b G w C GC mb gv w' a' aK qX):mW W0 E H K M I b G w w' a' aK qX gv C.last:=⟨_,⟨C,GC,mb,h.again,rfl,rfl⟩,h.sub,h.mod⟩
theorem kR.mod (h:kR W0 E H K M I b G w a ids its gv d9)(hm:Mod S w w')(hS:∀q∈S,q∉G∧W0.heap.size≤q):kR W0 E H K M I b G w' a ids its gv d9:=by
 obtain⟨C,GC,mb,h1,rfl,h2⟩:=h;have k1:∀q∈dW b C GC mb its,q∉S:=fun q hq hs=>(hS q hs).1 hq;have h3:gB W0 E H K M I b (dW b C GC mb its) w' C GC mb gv w' a ids its:=⟨h1.blk.mod hm (k1 b (aH.2 (.inl rfl))),h1.cfg,h1.core.mod hm (fun q hq=>⟨fun hg=>(hS q hq).1 (aH.2 (.inr (.inr hg))),(hS q hq).2⟩),h1.nZ.mod hm (fun q hq=>k1 q (aH.2 (.inr (.inl hq)))),h1.b0,h1.apart,fun q hq=> .inl hq,Mod.refl _ _,by have:=h1.qH;have:=hm.size;omega⟩;exact⟨C,GC,mb,h3,rfl,h2⟩
theorem kR.below (h:kR W0 E H K M I b G w a ids its gv d9)(hb:Below w.heap.size w w'):kR W0 E H K M I b G w' a ids its gv d9:=h.mod (Mod.of_below hb []) (by simp)
theorem kR.facts (h:kR W0 E H K M I b G w a ids its gv d9):(∀q∈G,q<w.heap.size∧W0.heap.size≤q)∧(a.ents.map av.key).Nodup∧a.ents.length≤M∧M≤192∧a.Ns.length≤32∧1≤a.Ns.length∧(its.map It.id).Nodup∧its.length≤I∧I≤8∧Env W0 E w:=by
 obtain⟨C,GC,mb,h1,rfl,h2⟩:=h;obtain⟨_,_,f3,f4,_,_,f7,f8,_,f10,_,f12⟩:=h1.core.facts;exact⟨h1.gI,f10,f7,f8,f3,f4,h1.nZ.nd,h1.nZ.few.2,h1.nZ.few.1,f12⟩
theorem mW.next (h:mW W0 E H K M I b G w w' a' aK qX yL gD){w2:World}(hb:Below w'.heap.size w' w2):mW W0 E H K M I b G w w2 a' aK qX yL gD:=by
 obtain⟨G',h1,h2,h3⟩:=h;exact⟨G',h1.below hb,h2,h3.then (Mod.of_below hb _)⟩
theorem ac1 (h:kR W0 E H K M I b G w a ids its gv d9):Calls Tryz.prog 42 #[pQ b] w fun y w'=>y= .returned (nI a.ents.length)∧w=w':=by
 obtain⟨C,GC,mb,hS,rfl,qY⟩:=h;have hbk:=hS.blk.blk;unfold fZ.cells at hbk;have c3:=hbk.cell 3;simp only[gl]at c3;have HL:=qd (acW hS.core);unfold bg at HL;clear hbk hS qY;go_in;go_wp2_with fail;refine HL.out.mono ?_;rintro y w1 ⟨rfl,rfl⟩;go_wp2;go_ret;exact⟨rfl,rfl⟩
theorem abB (h:kR W0 E H K M I b G w a ids its gv d9)(hlt:its.length<I)(hg:gv≤100000):Calls Tryz.prog 64 #[pQ b] w fun y w'=>∃cb,y= .returned (.tuple #[.int .i64 ((gv+1:Nat):Int),.nilIface])∧mW W0 E H K M I b G w w' a ids (its++[⟨gv+1,cb,⟨0,0,false⟩⟩]) (gv+1) d9:=by
 obtain⟨C,GC,mb,hS,rfl,qY⟩:=h;have hbk:=hS.blk.blk;unfold fZ.cells at hbk;have c16:=hbk.cell 16;simp only[gl]at c16;have hop:=T9 hS.nZ hlt hg;have HO:=qd hop;have HS:=qd hS;have HQ:=qd qY;clear hbk hS hop qY;go_in;go_wp2_with fail;refine HO.out.mono ?_;rintro y w1 ⟨cb,hcb,rfl,hi,hm⟩
 have hs:=HS.out.ZM hi hm (fun q hq=> .inl (by unfold bR;simp at hq⊢;rcases hq with k|k;exact .inl k;exact .inr (.inl k))) (fun q hq=>by
  unfold bR at hq⊢;simp only[List.map_append,List.mem_cons,List.mem_append,List.map_cons,List.map_nil,List.not_mem_nil,or_false]at hq⊢;rcases hq with k|k|k|k
  ·exact .inl (.inl k)
  ·exact .inl (.inr (.inl k))
  ·exact .inl (.inr (.inr k))
  ·exact .inr (k▸hcb))
 have HE:=qd (show mW W0 E H K M I b (dW b C GC mb its) w w1 a ids (its++[⟨gv+1,cb,⟨0,0,false⟩⟩]) (gv+1) d9 from HQ.out▸hs.to);clear hs hi hm hcb HO;go_wp2;refine bodyPost_ret (v:= .tuple #[.int .i64 ((gv:Int)+1),.nilIface]) (by simp[results,Tryz.results64,go_sem]) rfl ⟨cb,rfl,HE.out⟩
end
def JV (W0:World)(E:Nat→Addr)(H:Nat→Nat)(K M I b:Nat)(G0:List Nat)(w0:World)(C:fZ)(GC:List Nat)(mb gv:Nat)(its:List It)(R:Pool→List Nat→Prop)(pr:Nat)(t:TypeId)(v:Value)(V w':World):Prop:=
 ∃fO a' aK,gB W0 E H K M I b G0 w0 C fO mb gv w' a' aK its∧R a' aK∧aj w' pr t #[v]∧(∀q∈fO,q∈GC∨V.heap.size≤q)∧Mod (pr::GC) V w'
theorem WV (E:Nat→Addr)(k:Nat):jf E k= .nilIface∨∃A,jf E k= .iface 351 (.pointer (some A)):=by
 unfold jf;split
 ·exact .inl rfl
 ·exact .inr ⟨_,rfl⟩
theorem abC {W0:World}{E:Nat→Addr}{H:Nat→Nat}{M I b:Nat}{G0:List Nat}{w0:World}{C:fZ}{GC:List Nat}{mb gv:Nat}{a:Pool}{ids:List Nat}{its:List It}{pv:Nat}(hS:gB W0 E H Kk M I b G0 w0 C GC mb gv V a ids its)(hm:aj V pm 66 #[pQ b])(hk:aj V pk 41 #[nU e.key])(hv:aj V pv 41 #[nU e.val])(hh:aj V ph 41 #[nU e.hash])(hr:aj V pr 28 #[.nilIface])(hne:pr∉dW b C GC mb its∧w0.heap.size≤pr)(he:mG H e):Calls Tryz.prog 51 #[pQ pm,pQ pk,pQ pv,pQ ph,pQ pr] V fun y w'=>y= .returned undef∧JV W0 E H Kk M I b G0 w0 C GC mb gv its (BK H Kk M a ids e) pr 28 (jf E (tL M a.ents e.key)) V w':=by
 have hbk:=hS.blk.blk;unfold fZ.cells at hbk;have c3:=hbk.cell 3;simp only[gl]at c3;have xm:=hm.cell 0;have xk:=hk.cell 0;have xv:=hv.cell 0;have xh:=hh.cell 0;simp only[List.getElem?_toArray,List.getElem?_cons_zero]at xm xk xv xh;have HS:=qd hS;have jr:=qd hr;have eH:=qd hne;have HE:=qd he;have hdr:=(Below.refl V.heap.size V).drew;have hcl:=aby (hS.core.below hdr) e he;unfold bg at hcl;obtain⟨ev,hev⟩:∃ev,ev=jf E (tL M a.ents e.key):=⟨_,rfl⟩;have hone:ev= .nilIface∨∃A,ev= .iface 351 (.pointer (some A)):=hev▸WV E _;rw[←hev]at hcl⊢;have VN:=qd hone;clear hone;have yU:=qd hcl;clear hcl hev hbk hS hr hne he hdr hm hk hv hh;go_in;refine rT (fun(w':World)=>w'.cell? ⟨pm,0,none⟩=some (pQ b)∧w'.cell? ⟨pk,0,none⟩=some (nU e.key)∧w'.cell? ⟨pv,0,none⟩=some (nU e.val)∧w'.cell? ⟨ph,0,none⟩=some (nU e.hash)∧w'.cell? ⟨b,3,none⟩=some (pQ C.cb)) [7,8] ?_;have hHeld:=(⟨xm,xk,xv,xh,c3⟩:_∧_∧_∧_∧_);refine vT 4 rfl ?_;refine vT 5 rfl ?_;refine vT 6 rfl ?_;refine nT 0 rfl fun K hK=> ?_;go_simp;refine kO hK ?_;clear hK K;refine vW 1 rfl ?_;refine vW 2 rfl ?_;refine vT 3 rfl ?_;refine nT 7 rfl fun K hK=> ?_;go_simp;refine yU.out.mono ?_;rintro y V1 ⟨rfl,a',aK,hto,hpm⟩;obtain⟨fO,hS1,hsub,hmod⟩:=(HS.out.below (Below.refl V.heap.size V).drew).ZL hto;have dP:=qd hS1;have yG:=qd hpm;have BP:Mod GC V V1:=(Mod.of_below (Below.refl V.heap.size V).drew GC).then hmod;have Ee:=qd (show∀q∈fO,q∈GC∨V.heap.size≤q from hsub);have hpl:=jr.out.lt
 have hr1:=(jr.out.mod BP (fun hg=>eH.out.1 (aH.2 (.inr (.inr hg)))));have HR1:=qd hr1;have HMo:=qd BP;have jl:=qd hpl;clear hto hpm hS1 hsub hmod BP hr1 hpl yU;go_wp2_with fail;refine kO hK ?_;clear hK K;refine nT 8 rfl fun K hK=> ?_;have r0:=HR1.out.cell 0;simp only[List.getElem?_toArray,List.getElem?_cons_zero]at r0;have rf:=HR1.out.frozen 0;have hn2:=HR1.out.ak 0 (ev);have hm2:=(Mod.refl [pr] V1).sl 0 (ev);simp only[List.setIfInBounds_toArray,List.set_cons_zero]at hn2
 have hfr:∀q∈[pr],q∉dW b C fO mb its∧w0.heap.size≤q:=fun q hq=>by
  rw[List.mem_singleton.1 hq];refine⟨fun hg=> ?_,eH.out.2⟩;rcases aH.1 hg with k|k|k
  ·exact eH.out.1 (aH.2 (.inl k))
  ·exact eH.out.1 (aH.2 (.inr (.inl k)))
  ·rcases Ee.out pr k with k|k
   ·exact eH.out.1 (aH.2 (.inr (.inr k)))
   ·have:=jl.out;omega
 have HF:=qd (show JV W0 E H Kk M I b G0 w0 C GC mb gv its (BK H Kk M a ids e) pr 28 (ev) V (V1.setCell ⟨pr,0,none⟩ (ev))from⟨fO,a',aK,dP.out.BO hm2 hfr,yG.out,hn2,Ee.out,(HMo.out.more (fun q hq=>List.mem_cons_of_mem _ hq)).then (hm2.more (fun q hq=>by rw[List.mem_singleton.1 hq];simp))⟩);clear hn2 hm2 hfr;rcases VN.out with hv|⟨A,hv⟩
 all_goals
  subst hv;go_simp;refine kO hK ?_;clear hK K;refine aR (by kernel_rfl) ?_ _;go_wp2;go_end0;exact⟨rfl,HF.out⟩
theorem abD {W0:World}{E:Nat→Addr}{H:Nat→Nat}{M I b:Nat}{G0:List Nat}{w0:World}{C:fZ}{GC:List Nat}{mb gv:Nat}{a:Pool}{ids:List Nat}{its:List It}(hS:gB W0 E H Kk M I b G0 w0 C GC mb gv V a ids its)(hm:aj V pm 66 #[pQ b])(hk:aj V pk 41 #[nU e.key])(hh:aj V ph 41 #[nU e.hash])(hr:aj V pr 4 #[.bool false])(hne:pr∉dW b C GC mb its∧w0.heap.size≤pr)(he:mG H e):Calls Tryz.prog 60 #[pQ pm,pQ pk,pQ ph,pQ pr] V fun y w'=>y= .returned undef∧JV W0 E H Kk M I b G0 w0 C GC mb gv its (fun a' _=>a'.ents.Perm (rest a.ents e.key)) pr 4 (.bool (look a.ents e.key).isSome) V w':=by
 have hbk:=hS.blk.blk;unfold fZ.cells at hbk;have c3:=hbk.cell 3;simp only[gl]at c3;have xm:=hm.cell 0;have xk:=hk.cell 0;have xh:=hh.cell 0;simp only[List.getElem?_toArray,List.getElem?_cons_zero]at xm xk xh;have HS:=qd hS;have jr:=qd hr;have eH:=qd hne;have HE:=qd he;have hdr:=(Below.refl V.heap.size V).drew;have h64:=he.h64;have hcl:=acY (hS.core.below hdr) e.key (by rw[←he.hash];exact h64);rw[←he.hash]at hcl;unfold bg GL at hcl;obtain⟨gv0,ac2⟩:∃g:Int,g=(((look a.ents e.key).getD ⟨0,0,0⟩).val:Int):=⟨_,rfl⟩;obtain⟨iv,hiv⟩:∃i,i=(look a.ents e.key).isSome:=⟨_,rfl⟩;rw[←ac2,←hiv]at hcl;rw[←hiv];have yU:=qd hcl;clear hcl ac2 hiv h64 hbk hS hr hne he hdr hm hk hh;go_in;refine rT (fun(w':World)=>w'.cell? ⟨pm,0,none⟩=some (pQ b)∧w'.cell? ⟨pk,0,none⟩=some (nU e.key)∧w'.cell? ⟨ph,0,none⟩=some (nU e.hash)∧w'.cell? ⟨b,3,none⟩=some (pQ C.cb)) [6,10] ?_;have hHeld:=(⟨xm,xk,xh,c3⟩:_∧_∧_∧_);refine vT 4 rfl ?_;refine vT 5 rfl ?_;refine nT 0 rfl fun K hK=> ?_;go_simp;refine kO hK ?_;clear hK K;refine vW 1 rfl ?_;refine vW 2 rfl ?_;refine vT 3 rfl ?_;refine nT 6 rfl fun K hK=> ?_;go_simp;refine yU.out.mono ?_;rintro y V1 ⟨rfl,a',aK,hto,hpm⟩;obtain⟨fO,hS1,hsub,hmod⟩:=(HS.out.below (Below.refl V.heap.size V).drew).ZL hto;have dP:=qd hS1;have yG:=qd hpm;have BP:Mod GC V V1:=(Mod.of_below (Below.refl V.heap.size V).drew GC).then hmod;have Ee:=qd (show∀q∈fO,q∈GC∨V.heap.size≤q from hsub);have hpl:=jr.out.lt;have hr1:=(jr.out.mod BP (fun hg=>eH.out.1 (aH.2 (.inr (.inr hg)))));have HR1:=qd hr1
 have HMo:=qd BP;have jl:=qd hpl;clear hto hpm hS1 hsub hmod BP hr1 hpl yU;go_wp2_with fail;refine kO hK ?_;clear hK K;refine vL 7 rfl ?_;refine vL 8 rfl ?_;refine vL 9 rfl ?_;refine nT 10 rfl fun K hK=> ?_;have r0:=HR1.out.cell 0;simp only[List.getElem?_toArray,List.getElem?_cons_zero]at r0;have rf:=HR1.out.frozen 0;have hn2:=HR1.out.ak 0 (.bool iv);have hm2:=(Mod.refl [pr] V1).sl 0 (.bool iv);simp only[List.setIfInBounds_toArray,List.set_cons_zero]at hn2
 have hfr:∀q∈[pr],q∉dW b C fO mb its∧w0.heap.size≤q:=fun q hq=>by
  rw[List.mem_singleton.1 hq];refine⟨fun hg=> ?_,eH.out.2⟩;rcases aH.1 hg with k|k|k
  ·exact eH.out.1 (aH.2 (.inl k))
  ·exact eH.out.1 (aH.2 (.inr (.inl k)))
  ·rcases Ee.out pr k with k|k
   ·exact eH.out.1 (aH.2 (.inr (.inr k)))
   ·have:=jl.out;omega
 have HF:=qd (show JV W0 E H Kk M I b G0 w0 C GC mb gv its (fun a' _=>a'.ents.Perm (rest a.ents e.key)) pr 4 (.bool iv) V (V1.setCell ⟨pr,0,none⟩ (.bool iv))from⟨fO,a',aK,dP.out.BO hm2 hfr,yG.out,hn2,Ee.out,(HMo.out.more (fun q hq=>List.mem_cons_of_mem _ hq)).then (hm2.more (fun q hq=>by rw[List.mem_singleton.1 hq];simp))⟩);clear hn2 hm2 hfr;go_simp;refine kO hK ?_;clear hK K;refine aR (by kernel_rfl) ?_ _;go_wp2;go_end0;exact⟨rfl,HF.out⟩
end
end Go.Proofs.YtnfjjbpmhcbelaaGreatDoor
