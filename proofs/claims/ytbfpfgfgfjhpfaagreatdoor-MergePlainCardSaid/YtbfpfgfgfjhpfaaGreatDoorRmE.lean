/- A map from numbers to addresses, as a list; number k was laid as the k-th. No statement of the claim. -/
import Derived.Test.YtbfpfgfgfjhpfaaGreatDoorPlA
import Derived.MapKept
import Derived.ChangeMaps5
import Derived.WideLaws
import Derived.Test.YtbfpfgfgfjhpfaaGreatDoorRmA
import Derived.Test.YtbfpfgfgfjhpfaaGreatDoorCoG
import Derived.Test.YtbfpfgfgfjhpfaaGreatDoorSq
import Derived.Test.YtbfpfgfgfjhpfaaGreatDoorCoX
import Derived.BigRegion
namespace Go.Proofs.YtbfpfgfgfjhpfaaGreatDoor
set_option maxRecDepth 100000
set_option maxHeartbeats 4000000
open Go.RowKit dP Go.MapKept
open Go.ChangeMaps (setBlock heap_setBlock_same heap_setBlock_other)
open Go.ChangeMaps (setBlock)
section
def nY (p:Nat×Nat):MapEntry:=⟨.int .i64 (p.1:Int),.pointer (some ⟨p.2,0,none⟩),p.1-1⟩
def jy (w:World)(b g:Nat)(l:List (Nat×Nat)):Prop:=w.heap[b]?=some (.map (l.map nY).toArray g)
def nZ (l:List (Nat×Nat))(x:Int):Option Nat:=(l.find? fun p=>decide ((p.1:Int)=x)).map Prod.snd
def UA (o:Option Nat):Value:= .pointer (o.map fun b=>⟨b,0,none⟩)
section
variable {P : Program} {w w' : World} {b g : Nat} {l : List (Nat × Nat)} {t k e : TypeId}
theorem jy.lt (h:jy w b g l):b<w.heap.size:=(Array.getElem?_eq_some_iff.1 h).1
theorem jy.mod {S:List Nat}(h:jy w b g l)(hm:Mod S w w')(hb:b∉S):jy w' b g l:=(hm.block b h.lt hb).trans h
instance {w w':World}{b g:Nat}{l:List (Nat×Nat)}:Md (jy w b g l) w w' (jy w' b g l) (fun S=>b∉S):=⟨fun h hm hs=>jy.mod h hm hs⟩
theorem jy.new (w:World):jy (w.alloc (.map #[] 0)) w.heap.size 0 []:=by
 exact heap_alloc_new w _
theorem BZ (x:Int):∀(l:List (Nat×Nat)) (i:Nat),∃a,Instr.findNow (.int .i64) (.int .i64 x) (l.map nY) i=some a∧a.map Prod.snd=(nZ l x).map (fun b=>Value.pointer (some ⟨b,0,none⟩))∧∀p,a=some p→∃j,p.1=i+j∧(l.map Prod.fst)[j]?.map (fun n:Nat=>(n:Int))=some x
 | [],_=>⟨none,rfl,rfl,fun _ h=>by cases h⟩
 |p::l,i=>by
  by_cases hp:(p.1:Int)=x
  ·refine⟨some (i,.pointer (some ⟨p.2,0,none⟩)), ?_, ?_,fun q hq=> ?_⟩
   ·subst hp;simp[Instr.findNow,Instr.sameNow,nY]
   ·unfold nZ;rw[List.find?_cons_of_pos (by simpa using hp)];rfl
   ·cases hq;exact⟨0,rfl,by simp[hp]⟩
  ·obtain⟨a,h1,h2,h3⟩:=BZ x l (i+1);refine⟨a, ?_, ?_,fun q hq=> ?_⟩
   ·have:((x==(p.1:Int))=false):=by simpa using fun h=>hp h.symm
    simp[Instr.findNow,Instr.sameNow,nY,this]at h1⊢;exact h1
   ·unfold nZ at h2⊢;rw[List.find?_cons_of_neg (by simpa using hp)];exact h2
   ·obtain⟨j,h4,h5⟩:=h3 q hq;exact⟨j+1,by omega,by simpa using h5⟩
theorem ER {x:Int}:IsKey (.int .i64) (.int .i64 x):=by simp[IsKey]
theorem jy.look (h:jy w b g l)(ht:P.underlying t=some (.map k e))(hk:P.underlying k=some (.int .i64))(hz:(zeroValue e).run P w= .ok (.pointer none) w)(x:Int):
  (Instr.lookup t (.map (some b)) (.int .i64 x) true).run P w= .ok (.tuple #[UA (nZ l x),.bool (nZ l x).isSome]) w:=by
 obtain⟨a,h1,h2,_⟩:=BZ x l 0;have h3:=run_findKey (P:=P) (w:=w) hk h1
 cases hf:nZ l x with
 |none=>
  rw[hf]at h2
  obtain rfl:a=none:=by cases a with|none=>rfl|some q=>simp at h2
  simp[Instr.lookup,run_underlying ht,Go.MapKept.run_getObj_map (show w.heap[b]?=some (.map (l.map nY).toArray g)from h),run_checkKey hk ER,h3,hz,Result.andThen,UA]
 |some c=>
  rw[hf]at h2
  cases a with
  |none=>simp at h2
  |some q=>
   obtain⟨i,v⟩:=q;simp at h2;subst h2;simp[Instr.lookup,run_underlying ht,Go.MapKept.run_getObj_map (show w.heap[b]?=some (.map (l.map nY).toArray g)from h),run_checkKey hk ER,h3,Result.andThen,UA]
theorem Ca {x:Int}:nZ l x=none↔∀p∈l,(p.1:Int)≠x:=by
 unfold nZ;rw[Option.map_eq_none_iff,List.find?_eq_none];simp
theorem Xi {x:Int}{c:Nat}(h:nZ l x=some c):∃n:Nat,(n,c)∈l∧(n:Int)=x:=by
 unfold nZ at h;rw[Option.map_eq_some_iff]at h;obtain⟨p,h1,rfl⟩:=h;have h2:=List.find?_some h1;exact⟨p.1,List.mem_of_find?_eq_some h1,by simpa using h2⟩
theorem jy.Eo (h:jy w b g l)(o:Obj):Mod [b] w (setBlock w b o):=⟨rfl,rfl,rfl,by simp[setBlock],fun k _ hn=>heap_setBlock_other h o (by simpa using hn)⟩
theorem jy.put (h:jy w b g l)(ht:P.underlying t=some (.map k e))(hk:P.underlying k=some (.int .i64))(hf:nZ l ((g+1:Nat):Int)=none)(c:Nat):
  (Instr.mapUpdate t (.map (some b)) (.int .i64 ((g+1:Nat):Int)) (.pointer (some ⟨c,0,none⟩))).run P w= .ok () (setBlock w b (.map ((l++[(g+1,c)]).map nY).toArray (g+1))):=by
 obtain⟨a,h1,h2,_⟩:=BZ ((g+1:Nat):Int) l 0;have h3:=run_findKey (P:=P) (w:=w) hk h1;rw[hf]at h2
 obtain rfl:a=none:=by cases a with|none=>rfl|some q=>simp at h2
 rw[show((g+1:Nat):Int)=(g:Int)+1 from by omega]at h3;simp[Instr.mapUpdate,run_underlying ht,Go.MapKept.run_getObj_map (show w.heap[b]?=some (.map (l.map nY).toArray g)from h),run_checkKey hk ER,h3,Go.MapKept.run_setObj_map _ (show w.heap[b]?=some (.map (l.map nY).toArray g)from h),Result.andThen,setBlock,nY]
theorem jy.ak (h:jy w b g l)(l':List (Nat×Nat))(g':Nat):jy (setBlock w b (.map (l'.map nY).toArray g')) b g' l':=heap_setBlock_same h _
end
end
section
variable {cb id : Nat} {c : gq}
structure It where
 id:Nat
 cb:Nat
 c:gq
def bQ (ib mb:Nat)(its:List It):List Nat:=ib::mb::its.map It.cb
def iR (its:List It):List (Nat×Nat):=its.map fun i=>(i.id,i.cb)
structure iw (w:World)(ib mb most given:Nat)(its:List It):Prop where
 blk:aj w ib 147 #[.int .i64 (most:Int),.int .i64 (given:Int),.map (some mb)]
 map:jy w mb given (iR its)
 cur:∀i∈its,fT w i.cb i.c
 ids:∀i∈its,1≤i.id∧i.id≤given
 nd:(its.map It.id).Nodup
 nf:(bQ ib mb its).Nodup
 few:most≤8∧its.length≤most
section
variable {w w' : World} {ib mb most given : Nat} {its : List It}
theorem iw.fH (h:iw w ib mb most given its):∀q∈bQ ib mb its,q<w.heap.size:=by
 intro q hq;unfold bQ at hq;rcases List.mem_cons.1 hq with rfl|hq
 ·exact h.blk.lt
 ·rcases List.mem_cons.1 hq with rfl|hq
  ·exact h.map.lt
  ·obtain⟨i,hi,rfl⟩:=List.mem_map.1 hq;exact(h.cur i hi).lt
theorem iw.mod {S:List Nat}(h:iw w ib mb most given its)(hm:Mod S w w')(hS:∀q∈bQ ib mb its,q∉S):iw w' ib mb most given its:=
 ⟨h.blk.mod hm (hS _ (by simp[bQ])),h.map.mod hm (hS _ (by simp[bQ])),fun i hi=>(h.cur i hi).mod hm (hS _ (by simp only[bQ,List.mem_cons];exact .inr (.inr (List.mem_map_of_mem hi)))),h.ids,h.nd,h.nf,h.few⟩
instance {w w':World}{ib mb most given:Nat}{its:List It}:Md (iw w ib mb most given its) w w' (iw w' ib mb most given its) (fun S=>∀q∈bQ ib mb its,q∉S):=⟨fun h hm hs=>iw.mod h hm hs⟩
theorem iw.below (h:iw w ib mb most given its)(hb:Below w.heap.size w w'):iw w' ib mb most given its:=h.mod (Mod.of_below hb []) (by simp)
end
theorem abG (w:World):(zeroValue 120).run Tryz.prog w= .ok (.pointer none) w:=by kernel_rfl
theorem ada {w:World}{b g:Nat}{l:List (Nat×Nat)}(h:jy w b g l)(ty:TypeId):(Builtin.len_ #[145] ty #[.map (some b)]).run Tryz.prog w= .ok (.int .i64 (l.length:Int)) w:=by
 have:=run_len_map (P:=Tryz.prog) w 145 ty b _ g (by kernel_rfl) (show w.heap[b]?=some (.map (l.map nY).toArray g)from h);rw[this];simp[goInt]
theorem Xj (n:Nat)(hn:1≤n∧n≤8)(w:World):Calls Tryz.prog 42 #[.int .i64 (n:Int)] w fun y w'=>y= .returned (.tuple #[.pointer (some ⟨(w.heap.size+1),0,none⟩),.nilIface])∧iw w' (w.heap.size+1) w.heap.size n 0 []∧Below w.heap.size w w':=by
 have h1:¬(n:Int)<1:=by omega
 have h2:¬(n:Int)>8:=by omega
 have hm:∀W:World,(Instr.makeMap 145 none).run Tryz.prog W= .ok (.map (some W.heap.size)) (W.alloc (.map #[] 0)):=fun _=>rfl;have HN:=qd hn;clear hn;go_in;go_wp2;refine bodyPost_ret (v:= .tuple #[.pointer (some ⟨(w.heap.size+1),0,none⟩),.nilIface]) (by simp[results,Tryz.results42,go_sem]) rfl ⟨rfl, ?_, ?_⟩
 ·exact⟨by simpa using aj.new (w.alloc (.map #[] 0)) 147 #[.int .i64 (n:Int),.int .i64 0,.map (some w.heap.size)],(jy.new w).mod (Mod.of_below ((Below.refl _ _).alloc (Nat.le_refl _) _) []) (by simp),by simp,by simp,by simp,by simp[bQ],by have:=HN.out;simp;omega⟩
 ·exact((Below.refl _ _).alloc (Nat.le_refl _) _).alloc (by simp) _
section
variable {w : World} {ib mb most given : Nat} {its : List It}
theorem yG {its:List It}(hn:(its.map It.id).Nodup){i j:It}(hi:i∈its)(hj:j∈its)(h:i.id=j.id):i=j:=by
 induction its with
 |nil=>cases hi
 |cons x l ih=>
  rw[List.map_cons,List.nodup_cons]at hn;rcases List.mem_cons.1 hi with h1|h1
  ·rcases List.mem_cons.1 hj with h2|h2
   ·rw[h1,h2]
   ·exact absurd (show x.id∈l.map It.id from by rw[←h1,h];exact List.mem_map_of_mem h2) hn.1
  ·rcases List.mem_cons.1 hj with h2|h2
   ·exact absurd (show x.id∈l.map It.id from by rw[←h2,←h];exact List.mem_map_of_mem h1) hn.1
   ·exact ih hn.2 h1 h2
theorem ZT (hn:(its.map It.id).Nodup)(h:⟨id,cb,c⟩∈its):nZ (iR its) (id:Int)=some cb:=by
 cases hf:nZ (iR its) (id:Int)with
 |none=>
  exact absurd rfl (Ca.1 hf (id,cb) (List.mem_map.2 ⟨_,h,rfl⟩))
 |some cb'=>
  obtain⟨n,h1,h2⟩:=Xi hf;obtain⟨i,h3,h4⟩:=List.mem_map.1 h1;obtain⟨h5,h6⟩:=Prod.mk.inj h4
  have hid:i.id=id:=by omega
  have:i=⟨id,cb,c⟩:=by
   exact yG hn h3 h hid
  rw[this]at h6;exact congrArg some h6.symm
theorem Pt (h:iw w ib mb most given its)(hi:⟨id,cb,c⟩∈its):Calls Tryz.prog 53 #[.pointer (some ⟨ib,0,none⟩),.int .i64 (id:Int)] w fun y w'=>y= .returned (.tuple #[.pointer (some ⟨cb,0,none⟩),.nilIface])∧w=w':=by
 have hl:=h.map.look (P:=Tryz.prog) (t:=145) Tryz.underlying145 Tryz.underlying3 (abG _) (id:Int);rw[ZT h.nd hi]at hl;obtain⟨c0,c1,c2⟩:=h.blk.c3;unfold UA at hl;simp only[Option.map_some,Option.isSome_some]at hl;clear h hi;go_in;go_wp2;refine bodyPost_ret (v:= .tuple #[.pointer (some ⟨cb,0,none⟩),.nilIface]) (by simp[results,Tryz.results53,go_sem]) rfl ⟨rfl,rfl⟩
theorem iw.opened {w2:World}(h:iw w ib mb most given its)(hlt:its.length<most)(hb:aj w2 ib 147 #[.int .i64 (most:Int),.int .i64 ((given:Int)+1),.map (some mb)])(hm:jy w2 mb (given+1) (iR its++[(given+1,cb)]))(hc:fT w2 cb ⟨0,0,false⟩)(hcb:w.heap.size≤cb)(hmod:Mod [ib,mb] w w2):iw w2 ib mb most (given+1) (its++[⟨given+1,cb,⟨0,0,false⟩⟩]):=by
 have hl:=h.fH;have hnf:=h.nf
 have aeO:∀i∈its,i.cb∉[ib,mb]:=fun i hi=>by
  unfold bQ at hnf;rw[List.nodup_cons,List.nodup_cons]at hnf;have:=List.mem_map_of_mem (f:=It.cb) hi;intro hh;rcases List.mem_cons.1 hh with e|e
  ·exact hnf.1 (List.mem_cons_of_mem _ (e▸this))
  ·exact hnf.2.1 (List.mem_singleton.1 e▸this)
 refine⟨hb,by unfold iR at hm⊢;rw[List.map_append];exact hm,fun i hi=> ?_,fun i hi=> ?_, ?_, ?_,h.few.1,by rw[List.length_append];simp;omega⟩
 ·rcases List.mem_append.1 hi with hi|hi
  ·exact(h.cur i hi).mod hmod (aeO i hi)
  ·rw[List.mem_singleton.1 hi];exact hc
 ·rcases List.mem_append.1 hi with hi|hi
  ·have:=h.ids i hi;omega
  ·rw[List.mem_singleton.1 hi];simp
 ·rw[List.map_append,List.nodup_append];refine⟨h.nd,by simp,fun a ha b hb=> ?_⟩;obtain⟨i,hi,rfl⟩:=List.mem_map.1 ha;have:=h.ids i hi;simp at hb;omega
 ·have:bQ ib mb (its++[⟨given+1,cb,⟨0,0,false⟩⟩])=bQ ib mb its++[cb]:=by simp[bQ]
  rw[this,List.nodup_append];refine⟨h.nf,by simp,fun a ha b hb=> ?_⟩;have:=hl a ha;simp at hb;omega
theorem UC (h:iw w ib mb most given its)(hlt:its.length<most)(hg:given≤100000):Calls Tryz.prog 50 #[.pointer (some ⟨ib,0,none⟩)] w fun y w'=>∃cb,w.heap.size≤cb∧y= .returned (.tuple #[.int .i64 ((given+1:Nat):Int),.nilIface])∧iw w' ib mb most (given+1) (its++[⟨given+1,cb,⟨0,0,false⟩⟩])∧Mod [ib,mb] w w':=by
 obtain⟨c0,c1,c2⟩:=h.blk.c3;have f1:=h.blk.frozen 1;have hl:=ada (h.map.mod (Mod.of_below (Below.refl w.heap.size w).drew []) (by simp)) 3
 have hll:(iR its).length=its.length:=by simp[iR]
 rw[hll]at hl
 have hlt':¬(its.length:Int)≥(most:Int):=by omega
 have hw1:IntKind.i64.wrap ((given:Int)+1)=((given+1:Nat):Int):=by rw[IntKind.wrap_i64];omega
 have hnew:=((h.blk.ak 1 (.int .i64 ((given:Int)+1)))).drew;have hm:=(((Mod.refl [ib] w).sl 1 (.int .i64 ((given:Int)+1)))).then (Mod.of_below (Below.refl _ _).drew [ib]);simp only[pt]at hnew
 have hmi:mb∉[ib]:=fun hh=>by have:=h.nf;unfold bQ at this;rw[List.nodup_cons]at this;exact this.1 (by rw[List.mem_singleton.1 hh];simp)
 have jS:=qd (And.intro hnew (And.intro hm (h.map.mod hm hmi)));have HH:=qd h;have Rb:=qd hlt;have HMi:=qd hmi;clear h hnew hm hmi hlt;go_in;go_upto_region 1 with fail;go_region;go_upto_region 4 with fail;refine bU (F:=fun v=>aj v ib 147 #[.int .i64 (most:Int),.int .i64 ((given:Int)+1),.map (some mb)]∧Mod [ib] w v∧jy v mb given (iR its)) jS.out ?_;clear jS c0 c1 c2 f1 hl hll;rintro W ⟨hb,hm,hmp⟩;have HB:=qd hb;have HM:=qd hm;have HP:=qd hmp;clear hb hm hmp;have c1:=HB.out.cell 1;have c2:=HB.out.cell 2;simp only[gl]at c1 c2;refine rT (fun(w':World)=>w'.cell? ⟨ib,1,none⟩=some (.int .i64 ((given:Int)+1))∧w'.cell? ⟨ib,2,none⟩=some (.map (some mb))) [9] ?_;have hHeld:=(⟨c1,c2⟩:_∧_);refine vW 0 rfl ?_;refine vW 1 rfl ?_;refine vW 2 rfl ?_;refine vT 3 rfl ?_;refine vW 4 rfl ?_;refine vW 5 rfl ?_;refine vW 6 rfl ?_;refine vT 7 rfl ?_;refine nT 8 rfl fun K hK=> ?_;go_simp;refine(Uy _).mono ?_;rintro y W1 ⟨rfl,R5,hb⟩;have hsz:(World.drew W).heap.size=W.heap.size:=rfl;rw[hsz]at R5 hb⊢;replace hb:Below W.heap.size W W1:=bX hb (Below.refl _ _).drew;replace HB:=qB hb HB;replace HP:=qB hb HP;have HS:=qd (show w.heap.size≤W.heap.size from HM.out.size);replace HM:=qd (HM.out.then (Mod.of_below hb [ib]));have HC:=qd R5;obtain⟨cb,hcb⟩:∃cb,cb=W.heap.size:=⟨_,rfl⟩;rw[←hcb]at HC HS⊢;clear R5 hb hsz c1 c2 hcb;have c1:=HB.out.cell 1;have c2:=HB.out.cell 2;simp only[gl]at c1 c2;go_wp2_with fail;have hHeld:=(⟨c1,c2⟩:_∧_);refine kO hK ?_;clear hK K;refine nT 9 rfl fun K hK=> ?_
 have hput:=HP.out.put (P:=Tryz.prog) (t:=145) Tryz.underlying145 Tryz.underlying3 (by
  rw[Ca];intro p hp;obtain⟨i,hi,rfl⟩:=List.mem_map.1 hp;have:=HH.out.ids i hi
  simp only;omega) cb
 have hms:=HP.out.ak (iR its++[(given+1,cb)]) (given+1);have hmm:=HP.out.Eo (.map ((iR its++[(given+1,cb)]).map nY).toArray (given+1))
 have hcm:cb∉[mb]:=fun hh=>by have:=HH.out.map.lt;rw[←List.mem_singleton.1 hh]at this;have:=HS.out;omega
 have him:ib∉[mb]:=fun hh=>HMi.out (by rw[List.mem_singleton.1 hh];simp);rw[show((given+1:Nat):Int)=(given:Int)+1 from by omega]at hput;obtain⟨W2,hW2⟩:∃W2,W2=setBlock W1 mb (.map ((iR its++[(given+1,cb)]).map nY).toArray (given+1)):=⟨_,rfl⟩;rw[←hW2]at hput hms hmm;have HE:=qd (And.intro (HB.out.mod hmm him) (HH.out.opened Rb.out (HB.out.mod hmm him) hms (HC.out.mod hmm hcm) HS.out (HM.out.trans hmm (fun _ hk _=>by simp at hk⊢;exact .inl hk) (fun _ hk _=>by simp at hk⊢;exact .inr hk))));have HE2:=qd (HM.out.trans hmm (U:=[ib,mb]) (fun _ hk _=>by simp at hk⊢;exact .inl hk) (fun _ hk _=>by simp at hk⊢;exact .inr hk));clear hms hmm hcm him hW2 c1 c2;have c1:=HE.out.1.cell 1;simp only[gl]at c1;have HI:=qd (And.intro HE.out.2 HE2.out);clear HE HE2;go_simp;refine kO hK ?_;clear hK K;refine aY (by kernel_rfl) ?_ _;go_wp2;refine bodyPost_ret (v:= .tuple #[.int .i64 ((given:Int)+1),.nilIface]) (by simp[results,Tryz.results50,go_sem]) rfl ⟨cb,HS.out,rfl,HI.out⟩
end
end
section
variable {iF S : List Nat} {Kk ph pk pm pr : Nat} {V : World} {e : av}
def fC (b:Nat)(C:iE)(GC:List Nat)(mb:Nat)(its:List It):List Nat:=b::(bQ C.ib mb its++GC)
structure gY (W0:World)(E:Nat→Addr)(H:Nat→Nat)(K M I b:Nat)(G0:List Nat)(w0:World)(C:iE)(GC:List Nat)(mb gv:Nat)(w:World)(a:Pool)(ids:List Nat)(its:List It):Prop where
 blk:sI w b C
 cfg:C.k=(K:Int)∧C.m=(M:Int)∧C.i=(I:Int)
 core:je W0 E H K M C.cb GC w a ids
 oM:iw w C.ib mb I gv its
 b0:W0.heap.size≤b∧∀q∈bQ C.ib mb its,W0.heap.size≤q
 apart:b∉GC∧b∉bQ C.ib mb its∧∀q∈bQ C.ib mb its,q∉GC
 sub:∀q∈fC b C GC mb its,q∈G0∨w0.heap.size≤q
 mod:Mod G0 w0 w
 qH:W0.heap.size≤w0.heap.size
theorem aK {b:Nat}{C:iE}{GC:List Nat}{mb:Nat}{its:List It}{q:Nat}:q∈fC b C GC mb its↔q=b∨q∈bQ C.ib mb its∨q∈GC:=by unfold fC;simp
section
variable {W0 : World} {E : Nat → Addr} {H : Nat → Nat} {K M I b : Nat} {G0 : List Nat} {w0 : World} {C C' : iE} {GC : List Nat} {mb gv yH : Nat} {w w' : World} {a a' : Pool} {ids aO : List Nat} {its oH : List It}
theorem gY.fH (h:gY W0 E H K M I b G0 w0 C GC mb gv w a ids its):∀q∈fC b C GC mb its,q<w.heap.size∧W0.heap.size≤q:=fun q hq=>by
 rcases aK.1 hq with rfl|hq|hq
 ·exact⟨h.blk.lt,h.b0.1⟩
 ·exact⟨h.oM.fH q hq,h.b0.2 q hq⟩
 ·exact h.core.facts.2.2.2.2.2.2.2.2.2.2.1 q hq
theorem gY.kk (h:gY W0 E H K M I b G0 w0 C GC mb gv w a ids its):1≤C.k∧C.k≤64:=by
 have:=h.core.facts.2.2.2.2.2.2.2.2.1;rw[h.cfg.1];omega
theorem gY.Eo (h:gY W0 E H K M I b G0 w0 C GC mb gv w a ids its)(hm:Mod S w w')(hS:∀q∈S,q∉fC b C GC mb its∧w0.heap.size≤q):gY W0 E H K M I b G0 w0 C GC mb gv w' a ids its:=by
 have h1:∀q∈fC b C GC mb its,q∉S:=fun q hq hs=>(hS q hs).1 hq;exact⟨h.blk.mod hm (h1 b (aK.2 (.inl rfl))),h.cfg,h.core.mod hm (fun q hq=>⟨fun hg=>(hS q hq).1 (aK.2 (.inr (.inr hg))),Nat.le_trans h.qH (hS q hq).2⟩),h.oM.mod hm (fun q hq=>h1 q (aK.2 (.inr (.inl hq)))),h.b0,h.apart,h.sub,h.mod.trans hm (fun _ hk _=>hk) (fun k hk hl=>absurd (hS k hk).2 (by omega)),h.qH⟩
theorem gY.below (h:gY W0 E H K M I b G0 w0 C GC mb gv w a ids its)(hb:Below w.heap.size w w'):gY W0 E H K M I b G0 w0 C GC mb gv w' a ids its:=h.Eo (Mod.of_below hb []) (by simp)
theorem gY.Pv (h:gY W0 E H K M I b G0 w0 C GC mb gv w a ids its)(hB:sI w' b C')(hm:Mod [b] w w')(hk:C'.k=C.k∧C'.m=C.m∧C'.i=C.i∧C'.cb=C.cb∧C'.ib=C.ib):gY W0 E H K M I b G0 w0 C' GC mb gv w' a ids its:=by
 obtain⟨k1,k2,k3,k4,k5⟩:=hk;refine⟨hB,by rw[k1,k2,k3];exact h.cfg,by rw[k4];exact h.core.mod hm (fun q hq=>by rw[List.mem_singleton.1 hq];exact⟨h.apart.1,h.b0.1⟩),by rw[k5];exact h.oM.mod hm (fun q hq hs=>h.apart.2.1 (List.mem_singleton.1 hs▸hq)),by rw[k5];exact h.b0,by rw[k5];exact h.apart,fun q hq=>h.sub q (by rw[aK]at hq⊢;rw[k5]at hq;exact hq),h.mod.trans hm (fun _ hk _=>hk) (fun k hk hl=> ?_),h.qH⟩;rcases h.sub b (aK.2 (.inl rfl))with h1|h1
 ·rw[List.mem_singleton.1 hk];exact h1
 ·rw[List.mem_singleton.1 hk]at hl;omega
theorem Mod.within (h:Mod G0 w0 w)(hm:Mod S w w')(hs:∀q∈S,q∈G0∨w0.heap.size≤q):Mod G0 w0 w':=h.trans hm (fun _ hk _=>hk) fun k hk hl=>(hs k hk).elim id fun h1=>absurd h1 (by omega)
theorem gY.aaI (h:gY W0 E H K M I b G0 w0 C GC mb gv w a ids its)(h1:je W0 E H K M C.cb iF w' a' aO)(h2:∀q∈iF,q∈GC∨w.heap.size≤q)(h3:Mod GC w w'):gY W0 E H K M I b G0 w0 C iF mb gv w' a' aO its:=by
 have hbl:=h.blk.lt;have hil:=h.oM.fH;refine⟨h.blk.mod h3 h.apart.1,h.cfg,h1,h.oM.mod h3 h.apart.2.2,h.b0,⟨fun hg=> ?_,h.apart.2.1,fun q hq hg=> ?_⟩,fun q hq=> ?_,h.mod.within h3 (fun q hq=>h.sub q (aK.2 (.inr (.inr hq)))),h.qH⟩
 ·rcases h2 b hg with k|k
  ·exact h.apart.1 k
  ·omega
 ·rcases h2 q hg with k|k
  ·exact h.apart.2.2 q hq k
  ·have:=hil q hq;omega
 ·rcases aK.1 hq with k|k|k
  ·exact h.sub q (aK.2 (.inl k))
  ·exact h.sub q (aK.2 (.inr (.inl k)))
  ·rcases h2 q k with k|k
   ·exact h.sub q (aK.2 (.inr (.inr k)))
   ·have:=h.mod.size;exact .inr (by omega)
theorem gY.adb (h:gY W0 E H K M I b G0 w0 C GC mb gv w a ids its)(hc:lY W0 E H K M C.cb GC w w' a' aO):∃iF,gY W0 E H K M I b G0 w0 C iF mb gv w' a' aO its∧(∀q∈iF,q∈GC∨w.heap.size≤q)∧Mod GC w w':=by
 obtain⟨iF,h1,h2,h3⟩:=hc;exact⟨iF,h.aaI h1 h2 h3,h2,h3⟩
theorem gY.ZU (h:gY W0 E H K M I b G0 w0 C GC mb gv w a ids its)(hi:iw w' C.ib mb I yH oH)(hm:Mod S w w')(hS:∀q∈S,q∈bQ C.ib mb its∨(q∉fC b C GC mb its∧w0.heap.size≤q))(hn:∀q∈bQ C.ib mb oH,q∈bQ C.ib mb its∨w.heap.size≤q):gY W0 E H K M I b G0 w0 C GC mb yH w' a ids oH:=by
 have hbl:=h.blk.lt;have hcl:=h.core.facts.2.2.2.2.2.2.2.2.2.2.1;have hen:=h.core.facts.2.2.2.2.2.2.2.2.2.2.2.size;refine⟨h.blk.mod hm (fun hs=> ?_),h.cfg,h.core.mod hm (fun q hq=> ?_),hi,⟨h.b0.1,fun q hq=> ?_⟩,⟨h.apart.1,fun hq=> ?_,fun q hq hg=> ?_⟩,fun q hq=> ?_,h.mod.within hm (fun q hq=> ?_),h.qH⟩
 ·rcases hS b hs with k|k
  ·exact h.apart.2.1 k
  ·exact k.1 (aK.2 (.inl rfl))
 ·rcases hS q hq with k|k
  ·exact⟨h.apart.2.2 q k,h.b0.2 q k⟩
  ·exact⟨fun hg=>k.1 (aK.2 (.inr (.inr hg))),Nat.le_trans h.qH k.2⟩
 ·rcases hn q hq with k|k
  ·exact h.b0.2 q k
  ·omega
 ·rcases hn b hq with k|k
  ·exact h.apart.2.1 k
  ·omega
 ·rcases hn q hq with k|k
  ·exact h.apart.2.2 q k hg
  ·have:=(hcl q hg).1;omega
 ·rcases aK.1 hq with k|k|k
  ·exact h.sub q (aK.2 (.inl k))
  ·rcases hn q k with k|k
   ·exact h.sub q (aK.2 (.inr (.inl k)))
   ·have:=h.mod.size;exact .inr (by omega)
  ·exact h.sub q (aK.2 (.inr (.inr k)))
 ·rcases hS q hq with k|k
  ·exact h.sub q (aK.2 (.inr (.inl k)))
  ·exact .inr k.2
theorem gY.again (h:gY W0 E H K M I b G0 w0 C GC mb gv w a ids its):gY W0 E H K M I b (fC b C GC mb its) w C GC mb gv w a ids its:=⟨h.blk,h.cfg,h.core,h.oM,h.b0,h.apart,fun q hq=> .inl hq,Mod.refl _ _,by have:=h.core.facts.2.2.2.2.2.2.2.2.2.2.2.size;exact this⟩
theorem gY.chain {mb':Nat}(h:gY W0 E H K M I b G0 w0 C GC mb gv w a ids its)(k:gY W0 E H K M I b (fC b C GC mb its) w C' iF mb' yH w' a' aO oH):gY W0 E H K M I b G0 w0 C' iF mb' yH w' a' aO oH:=
 ⟨k.blk,k.cfg,k.core,k.oM,k.b0,k.apart,fun q hq=>(k.sub q hq).elim (fun g=>h.sub q g) (fun g=> .inr (by have:=h.mod.size;omega)),h.mod.within k.mod h.sub,h.qH⟩
end
def jV (W0:World)(E:Nat→Addr)(H:Nat→Nat)(K M I b:Nat)(G:List Nat)(w:World)(a:Pool)(ids:List Nat)(its:List It)(gv:Nat)(dK:bE):Prop:=
 ∃(C:iE) (GC:List Nat) (mb:Nat),gY W0 E H K M I b (fC b C GC mb its) w C GC mb gv w a ids its∧G=fC b C GC mb its∧C.last=dK
def qC (W0:World)(E:Nat→Addr)(H:Nat→Nat)(K M I b:Nat)(G:List Nat)(w w':World)(a':Pool)(aO:List Nat)(oH:List It)(yH:Nat)(dL:bE):Prop:=
 ∃G',jV W0 E H K M I b G' w' a' aO oH yH dL∧(∀q∈G',q∈G∨w.heap.size≤q)∧Mod G w w'
section
variable {W0 : World} {E : Nat → Addr} {H : Nat → Nat} {K M I b : Nat} {G G0 : List Nat} {w0 w w' : World} {C : iE} {GC : List Nat} {mb gv yH : Nat} {a a' : Pool} {ids aO : List Nat} {its oH : List It} {dK dL : bE}
theorem gY.to (h:gY W0 E H K M I b G w C GC mb gv w' a' aO oH):qC W0 E H K M I b G w w' a' aO oH gv C.last:=⟨_,⟨C,GC,mb,h.again,rfl,rfl⟩,h.sub,h.mod⟩
theorem jV.mod (h:jV W0 E H K M I b G w a ids its gv dK)(hm:Mod S w w')(hS:∀q∈S,q∉G∧W0.heap.size≤q):jV W0 E H K M I b G w' a ids its gv dK:=by
 obtain⟨C,GC,mb,h1,rfl,h2⟩:=h;have k1:∀q∈fC b C GC mb its,q∉S:=fun q hq hs=>(hS q hs).1 hq;have h3:gY W0 E H K M I b (fC b C GC mb its) w' C GC mb gv w' a ids its:=⟨h1.blk.mod hm (k1 b (aK.2 (.inl rfl))),h1.cfg,h1.core.mod hm (fun q hq=>⟨fun hg=>(hS q hq).1 (aK.2 (.inr (.inr hg))),(hS q hq).2⟩),h1.oM.mod hm (fun q hq=>k1 q (aK.2 (.inr (.inl hq)))),h1.b0,h1.apart,fun q hq=> .inl hq,Mod.refl _ _,by have:=h1.qH;have:=hm.size;omega⟩;exact⟨C,GC,mb,h3,rfl,h2⟩
theorem jV.below (h:jV W0 E H K M I b G w a ids its gv dK)(hb:Below w.heap.size w w'):jV W0 E H K M I b G w' a ids its gv dK:=h.mod (Mod.of_below hb []) (by simp)
theorem jV.facts (h:jV W0 E H K M I b G w a ids its gv dK):(∀q∈G,q<w.heap.size∧W0.heap.size≤q)∧(a.ents.map av.key).Nodup∧a.ents.length≤M∧M≤192∧a.Ns.length≤32∧1≤a.Ns.length∧(its.map It.id).Nodup∧its.length≤I∧I≤8∧Env W0 E w:=by
 obtain⟨C,GC,mb,h1,rfl,h2⟩:=h;obtain⟨_,_,f3,f4,_,_,f7,f8,_,f10,_,f12⟩:=h1.core.facts;exact⟨h1.fH,f10,f7,f8,f3,f4,h1.oM.nd,h1.oM.few.2,h1.oM.few.1,f12⟩
theorem qC.next (h:qC W0 E H K M I b G w w' a' aO oH yH dL){w2:World}(hb:Below w'.heap.size w' w2):qC W0 E H K M I b G w w2 a' aO oH yH dL:=by
 obtain⟨G',h1,h2,h3⟩:=h;exact⟨G',h1.below hb,h2,h3.then (Mod.of_below hb _)⟩
theorem ade (h:jV W0 E H K M I b G w a ids its gv dK):Calls Tryz.prog 32 #[.pointer (some ⟨b,0,none⟩)] w fun y w'=>y= .returned (.int .i64 (a.ents.length:Int))∧w=w':=by
 obtain⟨C,GC,mb,hS,rfl,wD⟩:=h;have hbk:=hS.blk.blk;unfold iE.cells at hbk;have c3:=hbk.cell 3;simp only[gl]at c3;have HL:=qd (ac7 hS.core);unfold bM at HL;clear hbk hS wD;go_in;go_wp2_with fail;refine HL.out.mono ?_;rintro y w1 ⟨rfl,rfl⟩;go_wp2;go_ret;exact⟨rfl,rfl⟩
theorem R6 (h:jV W0 E H K M I b G w a ids its gv dK)(hlt:its.length<I)(hg:gv≤100000):Calls Tryz.prog 30 #[.pointer (some ⟨b,0,none⟩)] w fun y w'=>∃cb,y= .returned (.tuple #[.int .i64 ((gv+1:Nat):Int),.nilIface])∧qC W0 E H K M I b G w w' a ids (its++[⟨gv+1,cb,⟨0,0,false⟩⟩]) (gv+1) dK:=by
 obtain⟨C,GC,mb,hS,rfl,wD⟩:=h;have hbk:=hS.blk.blk;unfold iE.cells at hbk;have c16:=hbk.cell 16;simp only[gl]at c16;have hop:=UC hS.oM hlt hg;have HO:=qd hop;have HS:=qd hS;have HQ:=qd wD;clear hbk hS hop wD;go_in;go_wp2_with fail;refine HO.out.mono ?_;rintro y w1 ⟨cb,hcb,rfl,hi,hm⟩
 have hs:=HS.out.ZU hi hm (fun q hq=> .inl (by unfold bQ;simp at hq⊢;rcases hq with k|k;exact .inl k;exact .inr (.inl k))) (fun q hq=>by
  unfold bQ at hq⊢;simp only[List.map_append,List.mem_cons,List.mem_append,List.map_cons,List.map_nil,List.not_mem_nil,or_false]at hq⊢;rcases hq with k|k|k|k
  ·exact .inl (.inl k)
  ·exact .inl (.inr (.inl k))
  ·exact .inl (.inr (.inr k))
  ·exact .inr (k▸hcb))
 have HE:=qd (show qC W0 E H K M I b (fC b C GC mb its) w w1 a ids (its++[⟨gv+1,cb,⟨0,0,false⟩⟩]) (gv+1) dK from HQ.out▸hs.to);clear hs hi hm hcb HO;go_wp2;refine bodyPost_ret (v:= .tuple #[.int .i64 ((gv:Int)+1),.nilIface]) (by simp[results,Tryz.results30,go_sem]) rfl ⟨cb,rfl,HE.out⟩
end
def ZV (W0:World)(E:Nat→Addr)(H:Nat→Nat)(K M I b:Nat)(G0:List Nat)(w0:World)(C:iE)(GC:List Nat)(mb gv:Nat)(its:List It)(R:Pool→List Nat→Prop)(pr:Nat)(t:TypeId)(v:Value)(V w':World):Prop:=
 ∃iF a' aO,gY W0 E H K M I b G0 w0 C iF mb gv w' a' aO its∧R a' aO∧aj w' pr t #[v]∧(∀q∈iF,q∈GC∨V.heap.size≤q)∧Mod (pr::GC) V w'
theorem Xk (E:Nat→Addr)(k:Nat):mW E k= .nilIface∨∃A,mW E k= .iface 325 (.pointer (some A)):=by
 unfold mW;split
 ·exact .inl rfl
 ·exact .inr ⟨_,rfl⟩
theorem abH {W0:World}{E:Nat→Addr}{H:Nat→Nat}{M I b:Nat}{G0:List Nat}{w0:World}{C:iE}{GC:List Nat}{mb gv:Nat}{a:Pool}{ids:List Nat}{its:List It}{pv:Nat}(hS:gY W0 E H Kk M I b G0 w0 C GC mb gv V a ids its)(hm:aj V pm 42 #[.pointer (some ⟨b,0,none⟩)])(hk:aj V pk 35 #[.int .u64 (e.key:Int)])(hv:aj V pv 35 #[.int .u64 (e.val:Int)])(hh:aj V ph 35 #[.int .u64 (e.hash:Int)])(hr:aj V pr 44 #[.nilIface])(hne:pr∉fC b C GC mb its∧w0.heap.size≤pr)(he:nS H e):Calls Tryz.prog 44 #[.pointer (some ⟨pm,0,none⟩),.pointer (some ⟨pk,0,none⟩),.pointer (some ⟨pv,0,none⟩),.pointer (some ⟨ph,0,none⟩),.pointer (some ⟨pr,0,none⟩)] V fun y w'=>y= .returned undef∧ZV W0 E H Kk M I b G0 w0 C GC mb gv its (En H Kk M a ids e) pr 44 (mW E (uL M a.ents e.key)) V w':=by
 have hbk:=hS.blk.blk;unfold iE.cells at hbk;have c3:=hbk.cell 3;simp only[gl]at c3;have xm:=hm.cell 0;have xk:=hk.cell 0;have xv:=hv.cell 0;have xh:=hh.cell 0;simp only[List.getElem?_toArray,List.getElem?_cons_zero]at xm xk xv xh;have HS:=qd hS;have ng:=qd hr;have nM:=qd hne;have HE:=qd he;have hdr:=(Below.refl V.heap.size V).drew;have hcl:=abE (hS.core.below hdr) e he;unfold bM at hcl;obtain⟨ev,hev⟩:∃ev,ev=mW E (uL M a.ents e.key):=⟨_,rfl⟩;have hone:ev= .nilIface∨∃A,ev= .iface 325 (.pointer (some A)):=hev▸Xk E _;rw[←hev]at hcl⊢;have V9:=qd hone;clear hone;have Ar:=qd hcl;clear hcl hev hbk hS hr hne he hdr hm hk hv hh;go_in;refine rT (fun(w':World)=>w'.cell? ⟨pm,0,none⟩=some (.pointer (some ⟨b,0,none⟩))∧w'.cell? ⟨pk,0,none⟩=some (.int .u64 (e.key:Int))∧w'.cell? ⟨pv,0,none⟩=some (.int .u64 (e.val:Int))∧w'.cell? ⟨ph,0,none⟩=some (.int .u64 (e.hash:Int))∧w'.cell? ⟨b,3,none⟩=some (.pointer (some ⟨C.cb,0,none⟩))) [7,8] ?_;have hHeld:=(⟨xm,xk,xv,xh,c3⟩:_∧_∧_∧_∧_);refine vT 4 rfl ?_;refine vT 5 rfl ?_;refine vT 6 rfl ?_;refine nT 0 rfl fun K hK=> ?_;go_simp;refine kO hK ?_;clear hK K;refine vW 1 rfl ?_;refine vW 2 rfl ?_;refine vT 3 rfl ?_;refine nT 7 rfl fun K hK=> ?_;go_simp;refine Ar.out.mono ?_;rintro y V1 ⟨rfl,a',aO,hto,hpm⟩;obtain⟨iF,hS1,hsub,hmod⟩:=(HS.out.below (Below.refl V.heap.size V).drew).adb hto;have iK:=qd hS1;have Ej:=qd hpm;have UD:Mod GC V V1:=(Mod.of_below (Below.refl V.heap.size V).drew GC).then hmod
 have LM:=qd (show∀q∈iF,q∈GC∨V.heap.size≤q from hsub);have hpl:=ng.out.lt;have hr1:=(ng.out.mod UD (fun hg=>nM.out.1 (aK.2 (.inr (.inr hg)))));have HR1:=qd hr1;have HMo:=qd UD;have jO:=qd hpl;clear hto hpm hS1 hsub hmod UD hr1 hpl Ar;go_wp2_with fail;refine kO hK ?_;clear hK K;refine nT 8 rfl fun K hK=> ?_;have r0:=HR1.out.cell 0;simp only[List.getElem?_toArray,List.getElem?_cons_zero]at r0;have rf:=HR1.out.frozen 0;have hn2:=HR1.out.ak 0 (ev);have hm2:=(Mod.refl [pr] V1).sl 0 (ev);simp only[List.setIfInBounds_toArray,List.set_cons_zero]at hn2
 have hfr:∀q∈[pr],q∉fC b C iF mb its∧w0.heap.size≤q:=fun q hq=>by
  rw[List.mem_singleton.1 hq];refine⟨fun hg=> ?_,nM.out.2⟩;rcases aK.1 hg with k|k|k
  ·exact nM.out.1 (aK.2 (.inl k))
  ·exact nM.out.1 (aK.2 (.inr (.inl k)))
  ·rcases LM.out pr k with k|k
   ·exact nM.out.1 (aK.2 (.inr (.inr k)))
   ·have:=jO.out;omega
 have HF:=qd (show ZV W0 E H Kk M I b G0 w0 C GC mb gv its (En H Kk M a ids e) pr 44 (ev) V (V1.setCell ⟨pr,0,none⟩ (ev))from⟨iF,a',aO,iK.out.Eo hm2 hfr,Ej.out,hn2,LM.out,(HMo.out.more (fun q hq=>List.mem_cons_of_mem _ hq)).then (hm2.more (fun q hq=>by rw[List.mem_singleton.1 hq];simp))⟩);clear hn2 hm2 hfr;rcases V9.out with hv|⟨A,hv⟩
 all_goals
  subst hv;go_simp;refine kO hK ?_;clear hK K;refine aY (by kernel_rfl) ?_ _;go_wp2;go_end0;exact⟨rfl,HF.out⟩
end
section
section
variable {W0 : World} {E : Nat → Addr} {H : Nat → Nat} {Kk M I b : Nat} {G0 : List Nat} {w0 w w' : World} {C : iE} {GC : List Nat} {mb gv : Nat} {a : Pool} {ids : List Nat} {its : List It}
theorem gY.wrote (h:gY W0 E H Kk M I b G0 w0 C GC mb gv w a ids its)(hw:Wrote w b C w'):∃C',gY W0 E H Kk M I b G0 w0 C' GC mb gv w' a ids its∧Mod [b] w w'∧C'.cb=C.cb∧C'.ib=C.ib∧C'.lf≤C.lf:=by
 obtain⟨lf,gn,ma,ml,last,all,h1,h2,h3⟩:=hw;exact⟨_,h.Pv h2 h3 ⟨rfl,rfl,rfl,rfl,rfl⟩,h3,rfl,rfl,h1⟩
end
theorem adf {W0:World}{E:Nat→Addr}{H:Nat→Nat}{Kk M I b:Nat}{G:List Nat}{w:World}{a:Pool}{ids:List Nat}{its:List It}{gv:Nat}{dK:bE}(h:jV W0 E H Kk M I b G w a ids its gv dK)(e:av)(he:nS H e):Calls Tryz.prog 28 #[.pointer (some ⟨b,0,none⟩),.int .u64 (e.key:Int),.int .u64 (e.val:Int),.int .u64 (e.hash:Int)] w fun y w'=>y= .returned (mW E (uL M a.ents e.key))∧∃a' aO dL,qC W0 E H Kk M I b G w w' a' aO its gv dL∧En H Kk M a ids e a' aO:=by
 obtain⟨C,GC,mb,hS,rfl,wD⟩:=h;obtain⟨W,hW,hB,hBm,hBk,R7,Ct,Px⟩:=qX5 w 42 #[.pointer (some ⟨b,0,none⟩)] 35 #[.int .u64 (e.key:Int)] 35 #[.int .u64 (e.val:Int)] 35 #[.int .u64 (e.hash:Int)] 44 #[.nilIface];have hlt:=fun q hq=>(hS.fH q hq).1;have nM:=qd (show∀q,w.heap.size≤q→q∉fC b C GC mb its from fun q hq hg=>by have:=hlt q hg;omega);have HS:=qd (hS.below hB);have hsz:=hB.size;have Lx:=qd hBm;have HBk:=qd hBk;have HBv:=qd R7;have HBh:=qd Ct;have Au:=qd Px;have hWl:=Px.lt;have HW:=qd hW;have HE:=qd he;clear hW hB hS hlt hBm hBk R7 Ct Px;have qm:∀(fn:Fn) (first cap:Array Value) (w:World),(Instr.makeFunc fn first cap).run Tryz.prog w= .ok (.func fn first cap) w:=fun _ _ _ _=>rfl;have yI:=(Below.refl W.heap.size W).alloc (Nat.le_refl _) (.cells #[.nilIface] 44)
 have yJ:=qd (Jh (S:=(w.heap.size+1+1+1+1)::GC) (K:=fun w1=>ZV W0 E H Kk M I b (fC b C GC mb its) w C GC mb gv its (En H Kk M a ids e) (w.heap.size+1+1+1+1) 44 (mW E (uL M a.ents e.key)) (W.alloc (.cells #[.nilIface] 44)) w1) 44 #[.pointer (some ⟨w.heap.size,0,none⟩),.pointer (some ⟨(w.heap.size+1),0,none⟩),.pointer (some ⟨(w.heap.size+1+1),0,none⟩),.pointer (some ⟨(w.heap.size+1+1+1),0,none⟩),.pointer (some ⟨(w.heap.size+1+1+1+1),0,none⟩)] W (fun V=>enters_of Tryz.func44 (by kernel_rfl) rfl _ V)
  (fun hg=>by
   rcases List.mem_cons.1 hg with k|k
   ·omega
   ·exact nM.out _ (by omega) (aK.2 (.inr (.inr k))))
  ((abH (HS.out.below yI) (Lx.out.mod (Mod.of_below yI []) (by simp)) (HBk.out.mod (Mod.of_below yI []) (by simp)) (HBv.out.mod (Mod.of_below yI []) (by simp)) (HBh.out.mod (Mod.of_below yI []) (by simp)) (Au.out.mod (Mod.of_below yI []) (by simp)) ⟨nM.out _ (by omega),by omega⟩ HE.out).mono (fun y w1 hh=>⟨hh.1,(by obtain⟨_,_,_,_,_,_,_,q⟩:=hh.2;exact q),hh.2⟩)))
 have Xl:=qd yI;clear yI;go_in;go_upto_region 2 with fail;rw[←HW.out];go_wp2_with fail;refine yJ.out.mono ?_;rintro y w1 ⟨rfl,hm1,iF,a',aO,hS1,hpm,hr1,hsu,hm2⟩;have HS:=qd hS1;have Ej:=qd hpm;have HR:=qd hr1
 have hx1:=(Lx.out.mod (Mod.of_below Xl.out []) (by simp)).mod hm1 (fun hg=>by
  rcases List.mem_cons.1 hg with k|k
  ·omega
  ·exact nM.out _ (Nat.le_refl _) (aK.2 (.inr (.inr k))))
 have HX:=qd hx1;have Pg:=qd (show(w.heap.size+1+1+1+1)∉[b]from fun hg=>nM.out _ (by omega) (aK.2 (.inl (List.mem_singleton.1 hg))));clear hm1 hS1 hpm hr1 hsu hm2 hx1 yJ Lx HBk HBv HBh Au Xl
 cases hfu:tH M a.ents e.key with
 |false=>
  have hpc:uL M a.ents e.key=0:=by unfold uL;rw[hfu];rfl
  rw[hpc]at HR;have Xf:=qd hpc;clear hpc;rw[Df]at HR;have r0:=HR.out.cell 0;simp only[List.getElem?_toArray,List.getElem?_cons_zero]at r0;go_upto_region 8 with fail;clear r0;obtain⟨cc,hcc⟩:=HS.out.core.c_;have hbk:=HS.out.blk.blk;unfold iE.cells at hbk;have c3:=hbk.cell 3;simp only[gl]at c3;have x0:=HX.out.cell 0;simp only[List.getElem?_toArray,List.getElem?_cons_zero]at x0;have ig:=qd (EP (hcc.below (Below.refl w1.heap.size w1).drew));unfold oF at ig;clear hbk hcc;refine rT (fun(w':World)=>w'.cell? ⟨w.heap.size,0,none⟩=some (.pointer (some ⟨b,0,none⟩))∧w'.cell? ⟨b,3,none⟩=some (.pointer (some ⟨C.cb,0,none⟩))) [7] ?_;have hHeld:=(⟨x0,c3⟩:_∧_);refine vT 0 rfl ?_;refine nT 1 rfl fun K hK=> ?_;go_simp;refine kO hK ?_;clear hK K;refine vW 2 rfl ?_;refine vW 3 rfl ?_;refine nT 4 rfl fun K hK=> ?_;go_simp;refine kO hK ?_;clear hK K;refine nT 5 rfl fun K hK=> ?_;go_simp;refine(wY _ _).mono ?_;rintro y V1 ⟨rfl,rfl⟩;go_wp2_with fail;have hHeld:=(⟨x0,c3⟩:_∧_);refine kO hK ?_;clear hK K;refine nT 6 rfl fun K hK=> ?_;go_simp;refine(ig.out).mono ?_;rintro y V2 ⟨rfl,hb⟩;replace hb:Below w1.heap.size w1 V2:=bX hb (Below.refl _ _).drew;replace HS:=qd (HS.out.below hb);replace x0:=aA hb x0;replace c3:=aA hb c3;clear hb ig;go_wp2_with fail;have hHeld:=(⟨x0,c3⟩:_∧_);refine kO hK ?_;clear hK K;refine nT 7 rfl fun K hK=> ?_;go_simp
  have vQ:=qd (show Calls Tryz.prog 49 #[.pointer (some ⟨b,0,none⟩),.agg #[.int .i64 cc.p,.int .i64 cc.v,.int .i64 cc.u]] V2 _ from ZR HS.out.blk HS.out.kk cc);refine(vQ.out).mono ?_;rintro y V3 ⟨rfl,hwr⟩;obtain⟨C3,hS3,q3,aeP,aeQ,aeR⟩:=HS.out.wrote hwr;have kZ:=qd hS3;clear hS3 hwr q3 aeP aeQ aeR vQ HS x0 c3;go_wp2_with fail;refine kO hK ?_;clear hK K;refine aY (by kernel_rfl) ?_ _;go_wp2;go_ret;exact⟨by rw[Xf.out];rfl,a',aO,_,kZ.out.to,Ej.out⟩
 |true=>
  have hpc:uL M a.ents e.key=2:=by unfold uL;rw[hfu];rfl
  rw[hpc]at HR;have Xf:=qd hpc;clear hpc;rw[nP E (by omega:1≤2)]at HR;have r0:=HR.out.cell 0;simp only[List.getElem?_toArray,List.getElem?_cons_zero]at r0;go_upto_region 6 with fail;clear r0;obtain⟨cc,hcc⟩:=HS.out.core.c_;have hbk:=HS.out.blk.blk;unfold iE.cells at hbk;have c3:=hbk.cell 3;simp only[gl]at c3;have x0:=HX.out.cell 0;simp only[List.getElem?_toArray,List.getElem?_cons_zero]at x0;have ig:=qd (EP (hcc.below (Below.refl w1.heap.size w1).drew));unfold oF at ig;clear hbk hcc;refine rT (fun(w':World)=>w'.cell? ⟨w.heap.size,0,none⟩=some (.pointer (some ⟨b,0,none⟩))∧w'.cell? ⟨b,3,none⟩=some (.pointer (some ⟨C.cb,0,none⟩))) [7] ?_;have hHeld:=(⟨x0,c3⟩:_∧_);refine vT 0 rfl ?_;refine nT 1 rfl fun K hK=> ?_;go_simp;refine kO hK ?_;clear hK K;refine vW 2 rfl ?_;refine vW 3 rfl ?_;refine nT 4 rfl fun K hK=> ?_;go_simp;refine kO hK ?_;clear hK K;refine nT 5 rfl fun K hK=> ?_;go_simp;refine(wY _ _).mono ?_;rintro y V1 ⟨rfl,rfl⟩;go_wp2_with fail;have hHeld:=(⟨x0,c3⟩:_∧_);refine kO hK ?_;clear hK K;refine nT 6 rfl fun K hK=> ?_;go_simp;refine(ig.out).mono ?_;rintro y V2 ⟨rfl,hb⟩;replace hb:Below w1.heap.size w1 V2:=bX hb (Below.refl _ _).drew;replace HS:=qd (HS.out.below hb);replace HR:=qB hb HR;replace x0:=aA hb x0;replace c3:=aA hb c3;clear hb ig;go_wp2_with fail;have hHeld:=(⟨x0,c3⟩:_∧_);refine kO hK ?_;clear hK K;refine nT 7 rfl fun K hK=> ?_;go_simp
  have vQ:=qd (show Calls Tryz.prog 46 #[.pointer (some ⟨b,0,none⟩),.agg #[.int .i64 cc.p,.int .i64 cc.v,.int .i64 cc.u]] V2 _ from yF HS.out.blk cc);refine(vQ.out).mono ?_;rintro y V3 ⟨rfl,hwr,q3⟩;have kZ:=qd (HS.out.Pv hwr q3 ⟨rfl,rfl,rfl,rfl,rfl⟩);replace HR:=qd (HR.out.mod q3 Pg.out);clear hwr q3 vQ HS x0 c3;go_wp2_with fail;refine kO hK ?_;clear hK K;refine aY (by kernel_rfl) ?_ _;have r0:=HR.out.cell 0;simp only[List.getElem?_toArray,List.getElem?_cons_zero]at r0;go_wp2;go_ret;exact⟨by rw[Xf.out,nP E (by omega:1≤2)];rfl,a',aO,_,kZ.out.to,Ej.out⟩
end
end Go.Proofs.YtbfpfgfgfjhpfaaGreatDoor
