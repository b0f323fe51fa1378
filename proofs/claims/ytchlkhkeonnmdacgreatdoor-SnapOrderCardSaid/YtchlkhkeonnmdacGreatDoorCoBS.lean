/- A map from integers to interface values that the call owns, as a function. -/
import Derived.Maps.OwnSet
import Derived.Maps.OwnOps
import Derived.Maps.RangeWalk
import Derived.Test.YtchlkhkeonnmdacGreatDoorCoBO
import Derived.Test.YtchlkhkeonnmdacGreatDoorSqT
import Derived.Test.YtchlkhkeonnmdacGreatDoorLaneP
import Derived.Test.YtchlkhkeonnmdacGreatDoorKit2
namespace Go.Proofs.YtchlkhkeonnmdacGreatDoor
set_option maxRecDepth 100000
set_option maxHeartbeats 4000000
open Go.RowKit Go.Maps AmC Go.Shelf
section
variable {ops : Array Oper} {rest : List Oper} {o : Oper} {a : Act} {Q : Exit → Act → World → Prop}
def heldV (v:Value):Option (DataW Value×List MemPlace):=some (.held v,[])
def JobMap (w:World)(b n:Nat)(f:Int→Option Value):Prop:=
 ∃D:DataW Value,w.ownsMap Tryz.prog 3 heldV b n D∧size D=n∧∀x,(Lit.int .i64 x).wf=true→has D (.int .i64 x)=(f x).isSome∧∀v,f x=some v→∀z,D.atKey (.int .i64 x) z= .held v
theorem int_under:Tryz.prog.underlying 3 =some (.int .i64):=by kernel_rfl
theorem jobs_under:Tryz.prog.underlying 175 =some (.map 3 249):=by kernel_rfl
theorem job_zero (w:World):(zeroValue 249).run Tryz.prog w= .ok .nilIface w:=by kernel_rfl
theorem mod_turned {w w':World}{b:Nat}(h:w.mapTurned w' b):Mod [b] w w':=by
 have hg:=h.grown;exact⟨hg.os,hg.tape,hg.output,hg.size,fun k hk hn=>hg.block k hk (fun e=>hn (by injection e with e;simp[e]))⟩
section
variable {b n : Nat} {f : Int → Option Value} {w w' : World}
theorem JobMap.made (w:World):JobMap (w.alloc (.map #[] 0)) w.heap.size 0 (fun _=>none):=
 ⟨_,World.ownsMap_made w _ _ _,rfl,fun x _=>⟨rfl,fun v hv=>by cases hv⟩⟩
theorem JobMap.lt (h:JobMap w b n f):b<w.heap.size:=by
 obtain⟨D,h1,_⟩:=h;exact h1.lt
theorem JobMap.mod {S:List Nat}(h:JobMap w b n f)(hm:Mod S w w')(hb:b∉S):JobMap w' b n f:=by
 have hlt:=h.lt;obtain⟨D,⟨es,clock,hh,r⟩,h2⟩:=h;exact⟨D,⟨es,clock,(hm.block b hlt hb).trans hh,r⟩,h2⟩
instance {w w':World}{b n:Nat}{f:Int→Option Value}:Md (JobMap w b n f) w w' (JobMap w' b n f) (fun S=>b∉S):=⟨fun h hm hs=>h.mod hm hs⟩
theorem JobMap.congr {g:Int→Option Value}(h:JobMap w b n f)(he:∀x,f x=g x):JobMap w b n g:=by
 obtain rfl:f=g:=funext he;exact h
theorem held_inj {v u:Value}{ps:List MemPlace}(h:heldV v=some (.held u,ps)):v=u:=by
 unfold heldV at h
 injection h with h
 injection h with h1 h2
 injection h1
theorem wpList_job_ok (hg:o.guard=none)(m x:Operand)(hop:o.op=Op.lookup 175 m x true)(hm:a.eval m= .map (some b))(hown:JobMap w b n f)(xv:Int)(hx:a.eval x= .int .i64 xv)(hw:(Lit.int .i64 xv).wf=true)(hK:wpList Tryz.prog ops Q rest (a.put o.dst (.tuple #[(f xv).getD .nilIface,.bool (f xv).isSome])) w):
  wpList Tryz.prog ops Q (o::rest) a w:=by
 obtain⟨D,h1,h0,h2⟩:=hown;obtain⟨h3,h4⟩:=h2 xv hw;refine wpList_lookup_own_ok w hg m x _ hop _ _ (int_keyed int_under) jobs_under heldV (job_zero w) (.held .nilIface) [] rfl b n D hm h1 _ _ hx (keyOf_int_mk int_under hw) fun v ps hv=> ?_;rw[h3]
 cases hf:f xv with
 |some u=>
  rw[h4 u hf]at hv;obtain rfl:=held_inj hv;rw[hf]at hK;exact hK
 |none=>
  rw[hf]at h3;rw[atKey_of_not_has h3]at hv;obtain rfl:=held_inj hv;rw[hf]at hK;exact hK
theorem wpList_job (hg:o.guard=none)(m x:Operand)(hop:o.op=Op.lookup 175 m x false)(hm:a.eval m= .map (some b))(hown:JobMap w b n f)(xv:Int)(hx:a.eval x= .int .i64 xv)(hw:(Lit.int .i64 xv).wf=true)(v:Value)(hf:f xv=some v)(hK:wpList Tryz.prog ops Q rest (a.put o.dst v) w):
  wpList Tryz.prog ops Q (o::rest) a w:=by
 obtain⟨D,h1,h0,h2⟩:=hown;obtain⟨h3,h4⟩:=h2 xv hw;refine wpList_plain hg fun K' hK'=> ?_;obtain⟨u,ps,hrun,hv⟩:=h1.lookup (int_keyed int_under) jobs_under (job_zero w) (zd:= .held .nilIface) (zp:=[]) rfl (keyOf_int_mk int_under hw);rw[h4 v hf]at hv;obtain rfl:=held_inj hv;unfold Oper.wp;simp[execOp,hop,hm,hx,hrun,Result.andThen];exact hK' _ _ hK
theorem wpList_job_store (hg:o.guard=none)(m x v:Operand)(hop:o.op=Op.mapUpdate 175 m x v)(hm:a.eval m= .map (some b))(hown:JobMap w b n f)(hn:n<maxLen)(xv:Int)(vv:Value)(hx:a.eval x= .int .i64 xv)(hv:a.eval v=vv)(hw:(Lit.int .i64 xv).wf=true)(hf:f xv=none)(hK:∀w',JobMap w' b (n+1) (fun y=>if y=xv then some vv else f y)→Mod [b] w w'→wpList Tryz.prog ops Q rest (a.put o.dst undef) w'):
  wpList Tryz.prog ops Q (o::rest) a w:=by
 obtain⟨D,h1,h0,h2⟩:=hown;have hD:IsMap D:=h1.isMap;have hT:Tidy D:=h1.tidy (int_keyed int_under);refine wpList_mapUpdate_in w hg m x v _ hop _ _ (int_keyed int_under) jobs_under _ b n D hm h1 hn _ _ _ hx hv (keyOf_int_mk int_under hw) (.held vv) [] rfl fun w' h3 h4=>hK w' ⟨_,h3, ?_,fun y hy=> ?_⟩ (mod_turned h4)
 ·rw[size_put hT,if_neg (by rw[(h2 xv hw).1,hf];simp),h0]
 have hkl:WideAt.IsKeyLit (.int .i64 xv):=(int_keyed int_under).key (keyOf_int_mk int_under hw);by_cases hyx:y=xv
 ·subst hyx;refine⟨?_,fun u hu z=> ?_⟩
  ·rw[has_put_same hD hkl];simp
  ·rw[atKey_put_same hD hkl];simp at hu;rw[hu]
 ·have hne:(Lit.int .i64 y)≠ .int .i64 xv:=fun e=>hyx (by injection e);obtain⟨h5,h6⟩:=h2 y hy;simp only[hyx,if_false];refine⟨by rw[has_put_other hne];exact h5,fun u hu z=> ?_⟩;rw[atKey_put_other hne];exact h6 u hu z
theorem wpList_job_delete (hg:o.guard=none)(m x:Operand)(hop:o.op=Op.call {callee:=Callee.builtin Builtin.delete,args:= #[m,x],argTypes:= #[175,3]})(hm:a.eval m= .map (some b))(hown:JobMap w b n f)(xv:Int)(hx:a.eval x= .int .i64 xv)(hw:(Lit.int .i64 xv).wf=true)(hK:∀w',JobMap w' b (n-if(f xv).isSome then 1 else 0) (fun y=>if y=xv then none else f y)→Mod [b] w w'→wpList Tryz.prog ops Q rest (a.put o.dst (.tuple #[])) w'):
  wpList Tryz.prog ops Q (o::rest) a w:=by
 obtain⟨D,h1,h0,h2⟩:=hown;have hT:Tidy D:=h1.tidy (int_keyed int_under);refine wpList_delete_own w hg m x _ _ hop _ (int_keyed int_under) jobs_under _ b n D hm h1 _ _ hx (keyOf_int_mk int_under hw) fun w' h3 h4=>hK w' ⟨D.del (.int .i64 xv), ?_, ?_,fun y hy=> ?_⟩ (mod_turned h4)
 ·have hs:=size_del (k:= .int .i64 xv) hT;rw[(h2 xv hw).1]at hs;obtain⟨es,clock,hb,F,_,hD⟩:=h3;refine⟨es,clock,hb,F, ?_,hD⟩
  have e1:size (D.del (.int .i64 xv))=es.size:=by rw[hD];simp[size,length_sorted]
  omega
 ·have hs:=size_del (k:= .int .i64 xv) hT;rw[(h2 xv hw).1]at hs;omega
 by_cases hyx:y=xv
 ·subst hyx;refine⟨?_,fun u hu z=> ?_⟩
  ·rw[has_del_same];simp
  ·simp at hu
 ·have hne:(Lit.int .i64 y)≠ .int .i64 xv:=fun e=>hyx (by injection e);obtain⟨h5,h6⟩:=h2 y hy;simp only[hyx,if_false];refine⟨by rw[has_del_other hne];exact h5,fun u hu z=> ?_⟩;rw[atKey_del_other hne];exact h6 u hu z
end
end
section
variable {t : TypeId}
def JobT (t:TypeId):Prop:=t=113 ∨t=123
def leftF (t:TypeId):FuncId:=if t=113 then 253 else 190
def stepF (t:TypeId):FuncId:=if t=113 then 254 else 274
theorem run_leftF (h:JobT t)(a:Addr)(n:Nat)(w:World):(method (n+1) t (.pointer (some a)) "Left").run Tryz.prog w= .ok (leftF t,.pointer (some a)) w:=by
 rcases h with rfl|rfl<;>kernel_rfl
theorem run_stepF (h:JobT t)(a:Addr)(n:Nat)(w:World):(method (n+1) t (.pointer (some a)) "Step").run Tryz.prog w= .ok (stepF t,.pointer (some a)) w:=by
 rcases h with rfl|rfl<;>kernel_rfl
theorem run_leftC (h:JobT t)(args:Array Value)(w:World):(callFunc (leftF t) args).run Tryz.prog w= .ok (.enter (leftF t) args) w:=by
 rcases h with rfl|rfl<;>kernel_rfl
theorem run_stepC (h:JobT t)(args:Array Value)(w:World):(callFunc (stepF t) args).run Tryz.prog w= .ok (.enter (stepF t) args) w:=by
 rcases h with rfl|rfl<;>kernel_rfl
def schP (b:Nat):Value:= .pointer (some ⟨b,0,none⟩)
def SchB (w:World)(sb qb jb:Nat)(k b s:Int):Prop:=Blk w sb 177 #[.int .i64 k,.int .i64 1,.int .i64 1,.pointer (some ⟨qb,0,none⟩),.map (some jb),.int .i64 b,.float .f64 0,.int .i64 s]
section
variable {w w' : World} {sb qb jb : Nat} {k b s : Int}
theorem SchB.lt (h:SchB w sb qb jb k b s):sb<w.heap.size:=Blk.lt h
theorem SchB.mod {S:List Nat}(h:SchB w sb qb jb k b s)(hm:Mod S w w')(hs:sb∉S):SchB w' sb qb jb k b s:=Blk.mod h hm hs
instance {w w':World}{sb qb jb:Nat}{k b s:Int}:Md (SchB w sb qb jb k b s) w w' (SchB w' sb qb jb k b s) (fun S=>sb∉S):=⟨fun h hm hs=>SchB.mod h hm hs⟩
end
theorem sched_fund (sb qb jb:Nat)(k b s n:Int)(hn:0≤n∧n≤1000)(w:World)(h:SchB w sb qb jb k b s):
  Calls Tryz.prog 140 #[schP sb,.int .i64 n] w fun e w'=>e= .returned undef∧SchB w' sb qb jb k n s∧Mod [sb] w w':=by
 unfold SchB at h⊢;have HB:=qd h;have Hmod:=qd (Mod.refl [sb] w);have HS:=qd (h);unfold schP;have c5:=h.cell 5;clear h HB c5;go_in;go_wp2_with fail;refine(credit_Drop sb b w HS.out).mono ?_;rintro x w1 ⟨rfl,hs,hm⟩;replace HS:=qd hs;have hz:=hm.size;replace Hmod:=qd hm;clear hs hm;go_wp2_with fail;refine(credit_Deposit sb n hn w1 HS.out).mono ?_;rintro x w2 ⟨rfl,hs,hm⟩;replace Hmod:=qd (Hmod.out.then hm);replace HS:=qd hs;clear hs hm;go_wp2;go_end0;exact⟨rfl,HS.out,Hmod.out⟩
theorem sched_step_done (sb:Nat)(t:TypeId)(a:Addr)(m:Value)(w:World)(hj:JobT t)(hL:Calls Tryz.prog (leftF t) #[.pointer (some a)] w fun e w'=>e= .returned (.int .i64 0)∧Below w.heap.size w w'):
  Calls Tryz.prog 142 #[schP sb,m,.iface t (.pointer (some a))] w fun e w'=>e= .returned (.bool false)∧Below w.heap.size w w':=by
 have HJ:=qd hj;have HL:=qd hL;obtain⟨F,hF⟩:∃F,F=leftF t:=⟨_,rfl⟩;rw[←hF]at HL;have HF:=qd hF.symm;unfold schP;clear hj hL hF;go_in;go_upto_region 1 with fail;go_wp2_with fail;rw[run_leftF HJ.out,Result.andThen_ok,run_leftC HJ.out];rw[show leftF t=F from HF.out];rw[Oper.upon_enter];refine HL.out.mono ?_;rintro x w1 ⟨rfl,hb⟩;have HB:=qd hb;clear hb;go_wp2;go_ret;exact⟨rfl,HB.out⟩
theorem sched_step_broke (sb qb jb:Nat)(k s:Int)(l:Nat)(hl:1≤l)(t:TypeId)(a:Addr)(m:Value)(w:World)(hj:JobT t)(hL:Calls Tryz.prog (leftF t) #[.pointer (some a)] w fun e w'=>e= .returned (.int .i64 (l:Int))∧Below w.heap.size w w')(h:SchB w sb qb jb k 0 s):
  Calls Tryz.prog 142 #[schP sb,m,.iface t (.pointer (some a))] w fun e w'=>e= .returned (.bool false)∧Below w.heap.size w w':=by
 have hl1:¬(l:Int)<1:=by omega
 have HS:=qd h;have hlt:=h.lt;clear h hl;have HJ:=qd hj;have HL:=qd hL;obtain⟨F,hF⟩:∃F,F=leftF t:=⟨_,rfl⟩;rw[←hF]at HL;have HF:=qd hF.symm;unfold schP;clear hj hL hF;go_in;go_upto_region 1 with fail;go_wp2_with fail;rw[run_leftF HJ.out,Result.andThen_ok,run_leftC HJ.out];rw[show leftF t=F from HF.out];rw[Oper.upon_enter];refine HL.out.mono ?_;rintro x w1 ⟨rfl,hb⟩;replace HS:=qB hb HS;have HB:=qd hb;clear hb;have HC:=qd (credit_Spend_no sb w1 HS.out);go_wp2_with fail;refine HC.out.mono ?_;rintro x w2 ⟨rfl,rfl⟩;go_wp2;go_ret;exact⟨rfl,HB.out⟩
theorem sched_step (sb qb jb:Nat)(k s:Int)(b l:Nat)(hl:1≤l)(hb:b≤999)(t:TypeId)(a:Addr)(m:Value)(Post:World→World→Prop)(w:World)(hj:JobT t)(hL:Calls Tryz.prog (leftF t) #[.pointer (some a)] w fun e w'=>e= .returned (.int .i64 (l:Int))∧Below w.heap.size w w')(h:SchB w sb qb jb k ((b+1:Nat):Int) s)(hS:∀V,Mod [sb] w V→SchB V sb qb jb k (b:Int) (wrap64 (s+1))→Calls Tryz.prog (stepF t) #[.pointer (some a),m] V fun e V'=>e= .returned (.bool true)∧Post V V'):
  Calls Tryz.prog 142 #[schP sb,m,.iface t (.pointer (some a))] w fun e w'=>e= .returned (.bool true)∧∃V,Mod [sb] w V∧SchB V sb qb jb k (b:Int) (wrap64 (s+1))∧Post V w':=by
 have hl1:¬(l:Int)<1:=by omega
 have HS:=qd h;have HSt:=qd hS;have hlt:=h.lt;obtain⟨Fs,hFs⟩:∃F,F=stepF t:=⟨_,rfl⟩;rw[←hFs]at HSt;have HFs:=qd hFs.symm;clear h hl hS hFs;have HJ:=qd hj;have HL:=qd hL;obtain⟨F,hF⟩:∃F,F=leftF t:=⟨_,rfl⟩;rw[←hF]at HL;have HF:=qd hF.symm;unfold schP;clear hj hL hF;go_in;go_upto_region 1 with fail;go_wp2_with fail;rw[run_leftF HJ.out,Result.andThen_ok,run_leftC HJ.out];rw[show leftF t=F from HF.out];rw[Oper.upon_enter];refine HL.out.mono ?_;rintro x w1 ⟨rfl,hb⟩;replace HS:=qB hb HS;have Hmod:=qd (Mod.of_below hb [sb]);clear hb;have HC:=qd (credit_Spend sb (b+1) (by omega) w1 HS.out);go_wp2_with fail;refine HC.out.mono ?_;rintro x w2 ⟨rfl,hs,hm⟩;replace Hmod:=qd (Hmod.out.then hm);clear HC hm
 have hs2:SchB w2 sb qb jb k (b:Int) s:=by
  unfold SchB
  try simp only[nI]at hs
  rw[show(((b+1:Nat):Int)-1)=(b:Int) by omega]at hs;exact hs
 replace HS:=qd hs2;clear hs hs2;have c7:=Blk.cell HS.out 7;have f7:=Blk.frozen HS.out 7;simp only[gl]at c7;have hsp:=Blk.set_ HS.out 7 (.int .i64 (wrap64 (s+1)));simp only[pt]at hsp;replace HS:=qd (show SchB (w2.setCell ⟨sb,7,none⟩ (.int .i64 (wrap64 (s+1)))) sb qb jb k (b:Int) (wrap64 (s+1))from hsp);replace Hmod:=qd (Hmod.out.sl 7 (.int .i64 (wrap64 (s+1))));clear hsp;replace HSt:=qd (HSt.out _ Hmod.out HS.out);go_wp2_with fail;rw[run_stepF HJ.out,Result.andThen_ok,run_stepC HJ.out];rw[show stepF t=Fs from HFs.out];rw[Oper.upon_enter];refine HSt.out.mono ?_;rintro x w3 ⟨rfl,hp⟩;have HP:=qd hp;clear hp c7 f7;go_wp2;go_ret;exact⟨rfl,_,Hmod.out,HS.out,HP.out⟩
end
section
variable {id : Nat}
def jobsF (val:Nat→Value)(ids:List Nat):Int→Option Value:=fun x=>if 0≤x∧x.toNat∈ids then some (val x.toNat)else none
structure SchAt (w:World)(sb qb rb jb:Nat)(k b:Int)(val:Nat→Value)(ids:List Nat):Prop where
 blk:∃s,SchB w sb qb jb k b s
 que:∃ring first,QuIn w qb rb ring first ids
 map:JobMap w jb ids.length (jobsF val ids)
 nd:ids.Nodup
 apart: [sb,qb,rb,jb].Nodup
section
variable {w w' : World} {sb qb rb jb : Nat} {k b : Int} {val : Nat → Value} {ids : List Nat}
theorem SchAt.mod {S:List Nat}(h:SchAt w sb qb rb jb k b val ids)(hm:Mod S w w')(hs:∀q∈[sb,qb,rb,jb],q∉S):SchAt w' sb qb rb jb k b val ids:=by
 obtain⟨s,h1⟩:=h.blk;obtain⟨ring,first,h2⟩:=h.que;exact⟨⟨s,h1.mod hm (hs _ (by simp))⟩,⟨ring,first,h2.mod hm (hs _ (by simp)) (hs _ (by simp))⟩,h.map.mod hm (hs _ (by simp)),h.nd,h.apart⟩
theorem SchAt.lt (h:SchAt w sb qb rb jb k b val ids):∀q∈[sb,qb,rb,jb],q<w.heap.size:=by
 obtain⟨s,h1⟩:=h.blk;obtain⟨ring,first,h2⟩:=h.que;have:=h1.lt;have:=h2.lt;have:=h2.ltR;have:=h.map.lt;intro q hq;simp at hq
 rcases hq with rfl|rfl|rfl|rfl<;>assumption
theorem SchAt.many (h:SchAt w sb qb rb jb k b val ids):ids.length≤40:=by
 obtain⟨ring,first,h2⟩:=h.que;exact h2.many
theorem SchAt.bal {b' s:Int}(h:SchAt w sb qb rb jb k b val ids)(hm:Mod [sb] w w')(hs:SchB w' sb qb jb k b' s):SchAt w' sb qb rb jb k b' val ids:=by
 obtain⟨ring,first,h2⟩:=h.que;have ha:=h.apart;simp at ha;refine⟨⟨s,hs⟩,⟨ring,first,h2.mod hm (by simp;omega) (by simp;omega)⟩,h.map.mod hm (by simp;omega),h.nd,h.apart⟩
end
theorem jobsF_at {val:Nat→Value}{ids:List Nat}(h:id∈ids):jobsF val ids (id:Int)=some (val id):=by
 unfold jobsF;rw[if_pos ⟨by omega,by simpa using h⟩];simp
theorem jobsF_no {val:Nat→Value}{ids:List Nat}(h:id∉ids):jobsF val ids (id:Int)=none:=by
 unfold jobsF;rw[if_neg];simpa using h
theorem jobsF_erase {val:Nat→Value}{ids:List Nat}(hn:ids.Nodup)(y:Int):(if y=(id:Int)then none else jobsF val ids y)=jobsF val (ids.erase id) y:=by
 unfold jobsF;by_cases h:y=(id:Int)
 ·subst h;rw[if_pos rfl,if_neg];simp[hn.mem_erase_iff]
 ·rw[if_neg h];by_cases h0:0≤y
  ·have:y.toNat≠id:=by omega
   simp[hn.mem_erase_iff,h0,this]
  ·simp[h0]
theorem jobsF_push {val:Nat→Value}{ids:List Nat}(y:Int):(if y=(id:Int)then some (val id)else jobsF val ids y)=jobsF val (ids++[id]) y:=by
 unfold jobsF;by_cases h:y=(id:Int)
 ·subst h;rw[if_pos rfl,if_pos (by simp)];simp
 ·rw[if_neg h];by_cases h0:0≤y
  ·have:y.toNat≠id:=by omega
   simp[h0,this]
  ·simp[h0]
theorem idxN_in {ids:List Nat}(h:id∈ids):∃i,idxN ids id=some i∧ids.eraseIdx i=ids.erase id:=by
 have h1:ids.idxOf id<ids.length:=List.idxOf_lt_length_of_mem h;refine⟨ids.idxOf id, ?_,(List.erase_eq_eraseIdx_of_idxOf rfl).symm⟩;unfold idxN;have:ids.findIdx? (fun x=>x==id)=some (ids.findIdx fun x=>x==id):=List.findIdx?_eq_some_of_exists ⟨id,h,by simp⟩;rw[this];rfl
theorem idxN_out {ids:List Nat}(h:id∉ids):idxN ids id=none:=by
 unfold idxN;rw[List.findIdx?_eq_none_iff];intro x hx;simp;rintro rfl;exact h hx
theorem int_wf (id:Nat)(h:id≤1000):(Lit.int .i64 (id:Int)).wf=true:=by
 have h1:(IntKind.i64.min)= -9223372036854775808:=by decide
 have h2:(IntKind.i64.max)=9223372036854775807:=by decide
 simp only[Lit.wf,h1,h2,Bool.and_eq_true,decide_eq_true_eq];omega
theorem sched_Remove (sb qb rb jb:Nat)(k b:Int)(val:Nat→Value)(ids:List Nat)(id:Nat)(hid:id∈ids)(h1000:id≤1000)(w:World)(h:SchAt w sb qb rb jb k b val ids):
  Calls Tryz.prog 146 #[schP sb,.int .i64 (id:Int)] w fun e w'=>e= .returned (.bool true)∧SchAt w' sb qb rb jb k b val (ids.erase id)∧Mod [qb,rb,jb] w w':=by
 obtain⟨i,hi1,hi2⟩:=idxN_in hid;obtain⟨s,hb⟩:=h.blk;obtain⟨ring,first,hq⟩:=h.que;have HQ:=qd hq;have hB:=qd hb;have HM:=qd h.map;have hnd:=qd h.nd;have hap:=qd h.apart;have hap':=h.apart;simp at hap';have HW:=qd (int_wf id h1000);have HI:=qd hi1;have HI2:=qd hi2;have hlq:=hq.lt;have hlr:=hq.ltR;have hlb:=hb.lt
 have hln:(ids.length-if(jobsF val ids (id:Int)).isSome then 1 else 0)=(ids.erase id).length:=by rw[jobsF_at hid,List.length_erase_of_mem hid];simp
 have HN:=qd hln;unfold schP;clear h hb hq hi1 hi2 hln hid;have hs0:=Blk.cell hB.out 0;have hs1:=Blk.cell hB.out 3;have hs2:=Blk.cell hB.out 4;simp only[gl]at hs0 hs1 hs2;go_in;go_wp2_with (at_delete;refine wpList_job_delete rfl _ _ rfl rfl HM.out _ rfl HW.out ?_;intro w1 hm1 hmod1;have ht1:=Blk.cell (hB.out.mod hmod1 (by simp;omega)) 3;simp only[gl]at ht1);replace HM:=qd (HN.out▸hm1);have Hmod:=qd hmod1;have hB2:=qd (hB.out.mod hmod1 (by simp;omega));have HQ2:=qd (HQ.out.mod hmod1 (by simp;omega) (by simp;omega));clear hs0 hs1 hs2 hm1 hmod1 ht1;refine(queue_Remove qb rb ring first ids id i HI.out w1 HQ2.out).mono ?_;rintro x w2 ⟨rfl,⟨ring',hq'⟩,hm⟩;have hfin:SchAt w2 sb qb rb jb k b val (ids.erase id):=⟨⟨s,hB2.out.mod hm (by simp;omega)⟩,⟨ring',first,HI2.out▸hq'⟩,(HM.out.mod hm (by simp;omega)).congr (jobsF_erase hnd.out),hnd.out.erase id,hap.out⟩;have HF:=qd hfin;replace Hmod:=qd (Hmod.out.trans hm (U:=[qb,rb,jb]) (by simp) (by simp<;>omega));clear hfin hq' hm;go_wp2;go_ret;exact⟨rfl,HF.out,Hmod.out⟩
theorem sched_Add (sb qb rb jb:Nat)(k b:Int)(val:Nat→Value)(ids:List Nat)(id:Nat)(hid:id∉ids)(h1000:id≤1000)(hroom:ids.length<40)(t:TypeId)(a:Addr)(hv:val id= .iface t (.pointer (some a)))(w:World)(h:SchAt w sb qb rb jb k b val ids):
  Calls Tryz.prog 139 #[schP sb,.int .i64 (id:Int),.iface t (.pointer (some a))] w fun e w'=>e= .returned .nilIface∧SchAt w' sb qb rb jb k b val (ids++[id])∧Mod [qb,rb,jb] w w':=by
 obtain⟨s,hb⟩:=h.blk;obtain⟨ring,first,hq⟩:=h.que;have HQ:=qd hq;have hB:=qd hb;have HM:=qd h.map;have hnd:=qd h.nd;have hap:=qd h.apart;have hap':=h.apart;simp at hap';have HW:=qd (int_wf id h1000);have HI:=qd (idxN_out hid);have HO:=qd hid;have HV:=qd hv;have hlq:=hq.lt;have hlr:=hq.ltR;have hlb:=hb.lt;have hlm:=HM.out.lt;have HNo:=qd (jobsF_no (val:=val) hid);unfold schP;clear h hb hq hid hv;have hs0:=Blk.cell hB.out 0;have hs1:=Blk.cell hB.out 3;have hs2:=Blk.cell hB.out 4;simp only[gl]at hs0 hs1 hs2;go_in;go_wp2_with fail;refine(queue_Push qb rb ring first ids id HI.out hroom w HQ.out).mono ?_;rintro x w1 ⟨rfl,ring',hq',hm⟩;have Hmod:=qd hm;replace hB:=qd (hB.out.mod hm (by simp;omega));replace HM:=qd (HM.out.mod hm (by simp;omega));replace HQ:=qd hq';clear hq' hm hs0 hs1 hs2;have hs0:=Blk.cell hB.out 0;have hs1:=Blk.cell hB.out 3;have hs2:=Blk.cell hB.out 4;simp only[gl]at hs0 hs1 hs2;go_wp2_with (at_mapUpdate;refine wpList_job_store rfl _ _ _ rfl rfl HM.out (by unfold maxLen;omega) _ (.iface t (.pointer (some a))) rfl rfl HW.out HNo.out ?_;intro w2 hm1 hmod1)
 have hfin:SchAt w2 sb qb rb jb k b val (ids++[id]):=⟨⟨s,hB.out.mod hmod1 (by simp;omega)⟩,⟨ring',first,HQ.out.mod hmod1 (by simp;omega) (by simp;omega)⟩,by rw[List.length_append];exact hm1.congr (fun y=>by rw[←jobsF_push,HV.out]),by
  rw[List.nodup_append];exact⟨hnd.out,by simp,by simp;exact fun a ha he=>HO.out (he▸ha)⟩,hap.out⟩
 have HF:=qd hfin;replace Hmod:=qd (Hmod.out.trans hmod1 (U:=[qb,rb,jb]) (by simp<;>omega) (by simp));clear hfin hm1 hmod1 hs0 hs1 hs2;go_wp2;go_ret;exact⟨rfl,HF.out,Hmod.out⟩
theorem sched_New {E:Nat→Addr}(k:Int)(hk:1≤k∧k≤64)(val:Nat→Value)(w:World)(hE:ErrsC E w):
  Calls Tryz.prog 56 #[.int .i64 k] w fun e w'=>∃sb qb rb jb,e= .returned (.tuple #[schP sb,.nilIface])∧SchAt w' sb qb rb jb k 0 val []∧(∀q∈[sb,qb,rb,jb],w.heap.size≤q)∧Below w.heap.size w w':=by
 have hB:=(Below.refl w.heap.size w).alloc (Nat.le_refl _) (.cells #[.int .i64 k,.int .i64 1,.int .i64 1] 39);have hC:=Blk.new w 39 #[.int .i64 k,.int .i64 1,.int .i64 1];obtain⟨W,hW⟩:∃W,W=w.alloc (.cells #[.int .i64 k,.int .i64 1,.int .i64 1] 39):=⟨_,rfl⟩;rw[←hW]at hB hC;have HP:=qd (plan_Check k 1 1 W (hE.below hB (Nat.le_refl _)));rw[show(if cfgOk k 1 1=true then Value.nilIface else errV E 1)=Value.nilIface from by rw[if_pos];simp[cfgOk,inB,hk]]at HP;have hsz:=hC.lt;have HC:=qd hC;have HW:=qd hW;have HB:=qd hB;unfold cfgV at HP;unfold schP;have c:=hC.c3;clear hW hB hC hE hk;go_in;go_upto_region 2 with fail;rw[←HW.out];go_wp2_with fail;refine HP.out.mono ?_;rintro x w1 ⟨rfl,hb⟩;replace HC:=qB hb HC;replace HB:=qd (HB.out.trans (hb.mono HB.out.size));have hz1:=hb.size;clear hb c;go_wp2_with fail;have HN:=queue_New w1;unfold quP at HN;refine HN.mono ?_;clear HN;rintro x w2 ⟨rfl,hq,hb⟩;obtain⟨qb,hqb⟩:∃q,q=w1.heap.size+1:=⟨_,rfl⟩;obtain⟨rb,hrb⟩:∃q,q=w1.heap.size:=⟨_,rfl⟩;rw[←hqb,←hrb]at hq;rw[←hqb];replace HC:=qB hb HC;replace HB:=qd (HB.out.trans (hb.mono (Nat.le_trans HB.out.size (Nat.le_refl _))));have hz2:=hb.size;have hql:=hq.lt;have hrl:=hq.ltR;have HQ:=qd hq
 have hqge:w.heap.size≤qb∧w.heap.size≤rb∧qb≠rb:=by omega
 clear hb hq hqb hrb;have c:=HC.out.c3;have hmm:=@run_makeMap Tryz.prog;go_wp2
 have hfin:SchAt ((w2.alloc (.map #[] 0)).alloc (.cells #[.int .i64 k,.int .i64 1,.int .i64 1,.pointer (some ⟨qb,0,none⟩),.map (some w2.heap.size),.int .i64 0,.float .f64 0,.int .i64 0] 177)) (w2.heap.size+1) qb rb w2.heap.size k 0 val []:=by
  have hm:=(Mod.refl [] w2).alloc (.map #[] 0);have hm2:=(Mod.refl [] (w2.alloc (.map #[] 0))).alloc (.cells #[.int .i64 k,.int .i64 1,.int .i64 1,.pointer (some ⟨qb,0,none⟩),.map (some w2.heap.size),.int .i64 0,.float .f64 0,.int .i64 0] 177);refine⟨⟨0, ?_⟩,⟨_,0,(HQ.out.mod hm (by simp) (by simp)).mod hm2 (by simp) (by simp)⟩,((JobMap.made w2).mod hm2 (by simp)).congr (fun x=>by simp[jobsF]),by simp,by simp;omega⟩;have:=Blk.new (w2.alloc (.map #[] 0)) 177 #[.int .i64 k,.int .i64 1,.int .i64 1,.pointer (some ⟨qb,0,none⟩),.map (some w2.heap.size),.int .i64 0,.float .f64 0,.int .i64 0];rw[World.size_alloc]at this;exact this
 have hsz2:w.heap.size≤w2.heap.size:=HB.out.size;refine bodyPost_ret (v:= .tuple #[.pointer (some ⟨w2.heap.size+1,0,none⟩),.nilIface]) (by simp[results,Tryz.results56,go_sem]) rfl ?_;refine⟨_,_,_,_,rfl,hfin, ?_, ?_⟩
 ·first|omega|(simp;omega)
 ·exact(HB.out.alloc hsz2 _).alloc (by simp;omega) _
end
section
attribute [local go_sem] Oper.semAt_some
def boxRow (A:World)(ob:Nat):Option Nat:=(A.cell? ⟨ob,0,none⟩).bind Value.ownBlock
structure KeepO (n₀ ob:Nat)(A B:World):Prop where
 keep:KeepS n₀ [ob] A B
 cells:∀(k:Nat) (o:Obj),A.heap[k]?=some o→o.isCells=true→k≠ob→boxRow A ob≠some k→B.heap[k]?=some o
 row:∀k,boxRow B ob=some k→boxRow A ob=some k∨A.heap.size≤k
theorem KeepO.refl (n₀ ob:Nat)(A:World):KeepO n₀ ob A A:=⟨KeepS.refl _ _ _,fun _ _ h _ _ _=>h,fun _ h=> .inl h⟩
theorem keepO_t {n₀ ob:Nat}{A B C:World}(h:KeepO n₀ ob A B)(k:KeepO n₀ ob B C):KeepO n₀ ob A C:=
 ⟨keepS_t h.keep k.keep,fun i o hi hc hne hr=>k.cells i o (h.cells i o hi hc hne hr) hc hne (fun e=>by
  rcases h.row i e with h1|h1
  ·exact hr h1
  ·have:=(Array.getElem?_eq_some_iff.1 hi).1;omega),fun i hi=>by
  rcases k.row i hi with h1|h1
  ·exact h.row i h1
  ·exact .inr (Nat.le_trans h.keep.size h1)⟩
theorem keepO_b {n₀ ob:Nat}{w:World}(hn:n₀≤w.heap.size)(hob:ob<w.heap.size)(W:World)(l:Nat)(o o':Obj)(hl:w.heap.size≤l)(h1:W.heap[l]?=some o)(h2:o.isCells=false)(h3:o.isWalk=false):KeepO n₀ ob W (W.putObj l o'):=
 ⟨keepS_b hn W l o o' hl h1 h2 h3,fun k x hk hc hne _=>(World.putObj_heap_other (fun e=>by rw[e,h1]at hk;injection hk with hk;rw[hk,hc]at h2;cases h2)).trans hk,fun k hk=> .inl (by
  have:(W.putObj l o').cell? ⟨ob,0,none⟩=W.cell? ⟨ob,0,none⟩:=World.cell?_of_block (World.putObj_heap_other (by show ob≠l;omega));unfold boxRow at hk⊢
  rwa [this]at hk)⟩
def nthQ (ids:List Nat)(x:Fin ids.length):Nat:=ids.getD x.val 0
abbrev quEnc (ids:List Nat)(x:Fin ids.length):Array Value:= #[.int .i64 (x.val:Int),.int .i64 ((nthQ ids x:Nat):Int)]
theorem finRange_snoc {n j:Nat}(h:j<n):(List.finRange n).take (j+1)=(List.finRange n).take j++[⟨j,h⟩]:=by
 rw[List.take_add_one,List.getElem?_eq_getElem (by simpa using h)];simp
theorem queue_seq (q:Nat)(hq:1≤q)(n₀ ob bx qb rb:Nat)(ring:List Nat)(first:Nat)(ids:List Nat)(w:World)(hbx:w.cell? ⟨bx,0,none⟩=some (.pointer (some ⟨qb,0,none⟩)))(hbl:bx<w.heap.size)
  (h:QuIn w qb rb ring first ids) (hob:ob<w.heap.size) (hnil:w.cell? ⟨ob,0,none⟩=some (.slice none 0 0)):
  SeqStopsK (α:=Fin ids.length) Fence.wide q Tryz.prog 213 #[.pointer (some ⟨bx,0,none⟩)] (quEnc ids) (KeepO n₀ ob) (fun ys=>ys=List.finRange ids.length) (fun _=>True) 64 w:=by
 intro lp J Jx W hW hJ _ hY h0;have hmn:=h.many;have hWl:=hW.size;have hbxW:W.cell? ⟨bx,0,none⟩=some (.pointer (some ⟨qb,0,none⟩)):=(hW.cell (p:=⟨bx,0,none⟩) hbl).trans hbx;have hQW:=h.mod (Mod.of_below hW []) (by simp) (by simp);have HL:=qd (wide_of (q:=q-1) (queue_list qb rb ring first ids W hQW));unfold quP at HL;have hnilW:W.cell? ⟨ob,0,none⟩=some (.slice none 0 0):=(hW.cell (p:=⟨ob,0,none⟩) hob).trans hnil;have HJ:=qd hJ;have HNil:=qd hnilW;obtain⟨n,hn⟩:∃n,n=ids.length:=⟨_,rfl⟩
 have hn40:n≤40:=by omega
 have HN:=qd hn;rw[←hn]at HL;clear h hQW hbx hnil hJ hn hnilW;refine callsIn_of_wp Tryz.func213 rfl trivial ?_ rfl;simp only[Tryz.ntmps213,List.size_toArray,List.length_cons,List.length_nil,Nat.reduceAdd,Nat.reduceSub,Array.replicate_succ,Array.replicate_zero,List.push_toArray,List.append_toArray,List.nil_append,List.cons_append]
 gi_wp2_with (refine⟨trivial, ?_⟩;gi_at_call 214;refine HL.out.mono ?_;rintro e w' ⟨A,c,rfl,hO,hB⟩)
 gi_loopw [3,4,8] (fun _ _ i wr=>∃j:Nat,j≤n∧i= .int .i64 (j:Int)∧J ((List.finRange ids.length).take j) wr∧KeepO n₀ ob w' wr) (fun _ _ i _=>n-(intOf i).toNat)
 case atStart=>
  refine⟨0,Nat.zero_le _,rfl, ?_,KeepO.refl _ _ _⟩;exact HJ.out [] W w' none h0 ⟨hB.os,hB.tape,hB.output,hB.size,fun k hk _=>hB.block k hk⟩ (fun r hr=>by cases hr)
 case round=>
  obtain⟨j,hj,rfl,hJj,hK⟩:=hrel;by_cases hlt:j<n
  ·have hlt':(j:Int)<(n:Int):=by omega
   have hnn:=HN.out
   have hji:j<ids.length:=by omega
   have hlen:((List.finRange ids.length).take j).length<64:=by simp;omega
   obtain⟨fn,tmps,assign,body,hy,hRd⟩:=hY _ ⟨j,hji⟩ wr hJj hlen;have HS:=qd (finRange_snoc hji);obtain⟨g,rfl,hge,hgl,hce,hln⟩:=intVals_cell hO (List.getElem?_eq_getElem hji)
   have hce2:wr.cell? ⟨g,j,none⟩=some (.int .i64 ((ids.getD j 0:Nat):Int)):=by
    obtain⟨o,ho⟩:∃o,w'.heap[g]?=some o:=⟨_,Array.getElem?_eq_getElem hgl⟩
    have hbr:boxRow w' ob=none:=by
     unfold boxRow;rw[(hB.cell (p:=⟨ob,0,none⟩) (Nat.lt_of_lt_of_le hob hWl)).trans HNil.out];rfl
    have hcl:o.isCells=true:=by
     have:=hce;unfold World.cell? at this;simp only[ho]at this
     cases o<;>simp at this<;>rfl
    have:=hK.cells g o ho hcl (by omega) (by rw[hbr];simp);rw[World.cell?_of_block (w:=w') (a:=⟨g,j,none⟩) (this.trans ho.symm),hce,List.getD_eq_getElem?_getD,List.getElem?_eq_getElem hji];rfl
   simp only[quEnc,nthQ]at hy hRd;generalize ids.getD j 0=x at*;clear hce hnn hln hO hge hgl
   have hj0:(0:Int)≤(j:Int):=by omega
   gi_wp2
   refine hRd.mono ?_;rintro e W3 (⟨rfl,hJ3,hk3⟩|⟨rfl,hJx3⟩)
   ·gi_wp2
    go_roundw
    case rel=>exact⟨j+1,by omega,by go_num,by rw[HS.out];exact hJ3,keepO_t hK hk3⟩
    case measure=>simp[intOf];omega
   ·gi_wp2
    refine bodyPost_ret (results_none rfl _ _ _) rfl ?_;exact⟨⟨_,rfl⟩,.inr ⟨_,trivial,hJx3⟩⟩
  ·obtain rfl:j=n:=by omega
   have hlt':¬(j:Int)<(j:Int):=by omega
   have hw:(List.finRange ids.length).take j=List.finRange ids.length:=List.take_of_length_le (by rw[List.length_finRange];exact Nat.le_of_eq HN.out.symm);rw[hw]at hJj;clear hw
   gi_wp2
   go_end0
   first|exact⟨⟨_,rfl⟩,.inl ⟨_,rfl,hJj⟩⟩|exact⟨⟨_,rfl⟩,.inl hJj⟩
theorem queue_All (qb:Nat)(w:World):Calls Tryz.prog 188 #[quP qb] w fun e w'=>e= .returned (.func (.func 213) #[] #[.pointer (some ⟨w.heap.size,0,none⟩)])∧w.alloc (.cells #[.pointer (some ⟨qb,0,none⟩)] 172)=w':=by
 unfold quP;go_in;go_wp2;go_ret;exact⟨rfl,rfl⟩
end
end Go.Proofs.YtchlkhkeonnmdacGreatDoor
