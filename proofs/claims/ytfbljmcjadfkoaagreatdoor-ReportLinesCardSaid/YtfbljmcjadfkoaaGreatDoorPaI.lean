/- Package run: begun, Ops. No statement of the claim. -/
import Derived.Test.YtfbljmcjadfkoaaGreatDoorRunB
import Derived.Test.YtfbljmcjadfkoaaGreatDoorSq
import Derived.Test.YtfbljmcjadfkoaaGreatDoorScribeC
import Derived.Test.YtfbljmcjadfkoaaGreatDoorRmJ
import Derived.Test.YtfbljmcjadfkoaaGreatDoorSqT
import Derived.Test.YtfbljmcjadfkoaaGreatDoorCoEnv
import Derived.Deep.WholeRow
namespace Go.Proofs.YtfbljmcjadfkoaaGreatDoor
set_option maxRecDepth 100000
set_option maxHeartbeats 8000000
open Go.RowKit AmC AmS Go.Shelf AmL AmF AmD
section
variable {A : Option Addr} {c n : Nat} {l : List SOp} {W0 w : World} {E : Nat → Addr}
def idxE (z:Int)(b:Bool):Prop:=decide (z≥0)=b
theorem idx_ops (h:Reads w w.heap.size 5 A n (opsCells l))(hn:n≤65536)(g:Nat)(eg:∀args w,(callFunc g args).run Tryz.prog w= .ok (.enter g args) w)(p:SOp→Bool)(hp:∀(W:World) (o:SOp),o∈l→Calls Tryz.prog g #[opV o] W fun e W'=>e= .returned (.bool (p o))∧Below W.heap.size W W'):
  Calls Tryz.prog 119 #[.slice A n c,.func (.func g) #[] #[]] w fun e w'=>∃z:Int,e= .returned (.int .i64 z)∧idxE z (l.any p)∧Below w.heap.size w w':=by
 have hl:l.length=n:=by have:=h.1;rw[opsCells_length]at this;omega
 have HL:=qd hl;have HP:=qd hp;clear hl hp;go_in;go_wp2;go_loopw [4,5,8] (fun _ _ i wr=>∃k:Nat,k≤n∧i= .int .i64 k∧Hid ((l.take k).any p=false)∧Hid (Below w.heap.size w wr)) (fun _ _ i _=>n-(intOf i).toNat)
 case atStart=>exact⟨0,by omega,rfl,qd (by simp),qd (Below.refl _ _)⟩
 case round=>
  obtain⟨k,hk,rfl,HA,HB⟩:=hrel;by_cases hlt:k<n
  ·have ho:l[k]?=some (l[k]'(by rw[HL.out];omega)):=List.getElem?_eq_getElem _;generalize l[k]'(by rw[HL.out];omega)=o at ho;obtain⟨b,off,rfl,hb,c0,c1,c2,c3,c4⟩:=op_cells (h.below HB.out) ho
   have hlt':(k:Int)<(n:Int):=by omega
   have hk0:(0:Int)≤(k:Int):=by omega
   have hwk:IntKind.i64.wrap ((k:Int)+1)=((k+1:Nat):Int):=by rw[IntKind.wrap_i64];omega
   have HF:=qd (HP.out wr o (List.mem_of_getElem? ho));have HT:=qd (take_snoc_op ho);have HM:=qd (List.mem_of_getElem? ho);clear ho
   cases hq:p o with
   |false=>
    have HQ:=qd hq;rw[hq]at HF;unfold opV at HF;clear hq;go_wp2_with (go_at_fn g;refine HF.out.mono ?_;rintro e w1 ⟨rfl,hb1⟩;have HB1:=qd (HB.out.trans (hb1.mono HB.out.size)));go_roundw
    case rel=>exact⟨k+1,by omega,by go_num,qd (by rw[HT.out,List.any_append,HA.out];simp[HQ.out]),HB1⟩
    case measure=>simp[intOf];omega
   |true=>
    have HQ:=qd hq;rw[hq]at HF;unfold opV at HF;clear hq;go_wp2_with (go_at_fn g;refine HF.out.mono ?_;rintro e w1 ⟨rfl,hb1⟩;have HB1:=qd (HB.out.trans (hb1.mono HB.out.size)));refine bodyPost_ret (v:= .int .i64 (k:Int)) (by simp[results,Tryz.results119,go_sem]) rfl ⟨k,rfl, ?_,HB1.out⟩;unfold idxE;rw[List.any_eq_true.2 ⟨o,HM.out,HQ.out⟩];simp
  ·obtain rfl:k=n:=by omega
   have hlt':¬(k:Int)<(k:Int):=by omega
   have ha:=HA.out;rw[←HL.out,List.take_length]at ha;have HA2:=qd ha;clear ha HA;go_wp2;refine bodyPost_ret (v:= .int .i64 (-1)) (by simp[results,Tryz.results119,go_sem]) rfl ⟨-1,rfl, ?_,HB.out⟩;unfold idxE;rw[HA2.out];simp
theorem begun_clo (o:SOp)(w:World):Calls Tryz.prog 81 #[opV o] w fun e w'=>e= .returned (.bool (!rightB o))∧Below w.heap.size w w':=by
 have hRt:∀V,Calls Tryz.prog 55 #[opV o] V fun y w'=>y= .returned (.bool (rightB o))∧Below V.heap.size V w':=fun V=>(script_Right o V).mono fun y w' ⟨a,e⟩=>⟨a,e▸(Below.refl _ _).alloc (Nat.le_refl _) _⟩;have hX:=Blk.new w 74 #[.int .i64 o.kind,.int .u64 o.key,.int .u64 o.val,.int .u64 o.hash,.int .i64 o.iter];have hB:=(Below.refl w.heap.size w).alloc (Nat.le_refl _) (.cells #[.int .i64 o.kind,.int .u64 o.key,.int .u64 o.val,.int .u64 o.hash,.int .i64 o.iter] 74);unfold opV at hRt⊢;have HRt:=qd hRt;obtain⟨W,hW⟩:∃W,W=w.alloc (.cells #[.int .i64 o.kind,.int .u64 o.key,.int .u64 o.val,.int .u64 o.hash,.int .i64 o.iter] 74):=⟨_,rfl⟩;rw[←hW]at hX hB;obtain⟨x0,x1,x2,x3,x4⟩:=hX.c5;have HB:=qd hB;have HW:=qd hW;clear hX hB hRt hW;go_in;go_upto_region 1 with fail;rw[←HW.out];go_wp2_with fail;refine(HRt.out W).mono ?_;rintro y w1 ⟨rfl,hb1⟩;have HB1:=qd (HB.out.trans (hb1.mono HB.out.size));clear hb1;go_wp2;go_ret;exact⟨rfl,HB1.out⟩
theorem contains_wrong (h:Reads w w.heap.size 5 A n (opsCells l))(hn:n≤65536):
  Calls Tryz.prog 80 #[.slice A n c,.func (.func 81) #[] #[]] w fun e w'=>e= .returned (.bool (l.any fun o=> !rightB o))∧Below w.heap.size w w':=by
 have HC:=qd (idx_ops (c:=c) h hn 81 (fun args w=>enters_of Tryz.func81 (by kernel_rfl) rfl args w) (fun o=> !rightB o) (fun W o _=>begun_clo o W));clear h;go_in;go_wp2_with fail;refine HC.out.mono ?_;rintro y w1 ⟨z,rfl,hz,hb⟩;have HZ:=qd hz;have HB:=qd hb;clear hz hb HC;go_wp2;go_ret;exact⟨by have:=HZ.out;unfold idxE at this;rw[←this];rfl,HB.out⟩
def mayE (l:List SOp):Nat:=if 2000<l.length then 9 else if(l.any fun o=> !rightB o)=true then 3 else if(other l).isSome=true then 8 else 0
def begE (k m i:Int)(l:List SOp):Nat:=if mayE l=0 then(if cfgOk k m i=true then 0 else 1)else mayE l
def BegP (W0:World)(E:Nat→Addr)(k m i:Int)(l:List SOp)(w:World)(y:Ending)(w':World):Prop:=
 ((begE k m i l≠0∧y= .returned (.tuple #[.pointer none,errV E (begE k m i l)]))∨
  (begE k m i l=0∧∃b G,y= .returned (.tuple #[.pointer (some ⟨b,0,none⟩),.nilIface])∧DoAt W0 E (hashF l) k.toNat m.toNat i.toNat b G w' stZ∧∀q∈G,w.heap.size≤q))∧Below w.heap.size w w'
theorem cfg_nat {k m i:Int}(h:cfgOk k m i=true):(1≤k.toNat∧k.toNat≤64)∧(1≤m.toNat∧m.toNat≤192)∧(1≤i.toNat∧i.toNat≤8)∧k=(k.toNat:Int)∧m=(m.toNat:Int)∧i=(i.toNat:Int):=by
 unfold cfgOk inB at h;simp at h;omega
theorem do_New (H:Nat→Nat)(hE:Env W0 E w)(k m i:Int):Calls Tryz.prog 28 #[cfgV k m i] w fun y w'=>
  ((cfgOk k m i=false∧y= .returned (.tuple #[.pointer none,errV E 1]))∨(cfgOk k m i=true∧∃b G,y= .returned (.tuple #[.pointer (some ⟨b,0,none⟩),.nilIface])∧DoAt W0 E H k.toNat m.toNat i.toNat b G w' stZ∧∀q∈G,w.heap.size≤q))∧Below w.heap.size w w':=by
 cases hc:cfgOk k m i with
 |false=>exact(rt_New_bad hE k m i hc).mono fun y w' ⟨a,b⟩=>⟨.inl ⟨rfl,a⟩,b⟩
 |true=>
  obtain⟨h1,h2,h3,h4,h5,h6⟩:=cfg_nat hc;refine(mp_New H hE k m i hc k.toNat m.toNat i.toNat ⟨h1,h2,h4,h5,h6⟩ h3).mono ?_;rintro y w' ⟨b,G,rfl,a,d,e⟩;exact⟨.inr ⟨rfl,b,G,rfl,⟨[],a,rfl,fun i hi=>by cases hi⟩,d⟩,e⟩
theorem run_begun (hE:Env W0 E w)(h3:ErrAt E W0 3)(h8:ErrAt E W0 8)(h9:ErrAt E W0 9)(k m i:Int)(h:Reads w w.heap.size 5 A l.length (opsCells l))(hn:l.length≤65536)(hwf:∀o∈l,opWf o):
  Calls Tryz.prog 52 #[cfgV k m i,.slice A l.length c] w (BegP W0 E k m i l w):=by
 have hB:=(Below.refl w.heap.size w).alloc (Nat.le_refl _) (.cells #[.int .i64 k,.int .i64 m,.int .i64 i] 23);have hX:=Blk.new w 23 #[.int .i64 k,.int .i64 m,.int .i64 i];obtain⟨W,hW⟩:∃W,W=w.alloc (.cells #[.int .i64 k,.int .i64 m,.int .i64 i] 23):=⟨_,rfl⟩;rw[←hW]at hB hX
 have hup:∀V,Below w.heap.size w V→Reads V V.heap.size 5 A l.length (opsCells l):=fun V hb=>by
  have h2:=h.below hb
  exact⟨h2.1,fun hn=>by
   obtain⟨g,off,a,b,d⟩:=h2.2 hn
   exact⟨g,off,a,Nat.lt_of_lt_of_le b hb.size,d⟩⟩
 have he:∀V j,Below w.heap.size w V→ErrAt E W0 j→ErrAt E V j:=fun V j hb h=>h.of_block (hE.next hb).below.block;have HUp:=qd hup;have HEr:=qd he;have HEn:=qd (And.intro hE (And.intro h3 (And.intro h8 h9)));have HN:=qd (And.intro hn hwf);have HB:=qd hB;have HX:=qd hX;have HW:=qd hW;clear hB hX hW hup he hE h3 h8 h9 h hwf;unfold cfgV;go_in;go_upto_region 1 with fail;rw[←HW.out];have h9:ErrAt E W 9:=HEr.out W 9 HB.out HEn.out.2.2.2;unfold ErrAt at h9;simp only[gE]at h9;by_cases hlong:2000<l.length
 ·have hlong':(2000:Int)<(l.length:Int):=by omega
  have HF:=qd (show begE k m i l=9 from by unfold begE mayE;rw[if_pos hlong];rfl);go_upto_region 2 with fail;go_region;go_wp2;refine bodyPost_ret (v:= .tuple #[.pointer none,.iface 372 (.pointer (some (E 9)))]) (by simp[results,Tryz.results52,go_sem]) rfl ⟨.inl ⟨by rw[HF.out];decide,by rw[HF.out];rfl⟩,HB.out.drew⟩
 have hlong':¬(2000:Int)<(l.length:Int):=by omega
 clear h9;have HC:=qd (contains_wrong (c:=c) (HUp.out W HB.out) HN.out.1);have HLg:=qd hlong;clear hlong;go_wp2_with fail;refine HC.out.mono ?_;rintro y w1 ⟨rfl,hb1⟩;have HB1:=qd (HB.out.trans (hb1.mono HB.out.size));have HX1:=qd (HX.out.below hb1 HX.out.lt);clear hb1 HC HX HB HW
 cases hr:(l.any fun o=> !rightB o)with
 |true=>
  have h3:ErrAt E w1 3:=HEr.out w1 3 HB1.out HEn.out.2.1;unfold ErrAt at h3;simp only[gE]at h3;have HF:=qd (show begE k m i l=3 from by unfold begE mayE;rw[if_neg HLg.out,if_pos hr];rfl);clear hr;go_upto_region 8 with fail;go_region;go_wp2;refine bodyPost_ret (v:= .tuple #[.pointer none,.iface 372 (.pointer (some (E 3)))]) (by simp[results,Tryz.results52,go_sem]) rfl ⟨.inl ⟨by rw[HF.out];decide,by rw[HF.out];rfl⟩,HB1.out.drew⟩
 |false=>
  have HR:=qd (show¬(l.any fun o=> !rightB o)=true from by rw[hr];decide);have HCs:=qd (script_Consistent A l.length c l w1 (HUp.out w1 HB1.out) HN.out.1 HN.out.2);unfold ConsPost at HCs;clear hr;go_wp2_with fail;refine HCs.out.mono ?_;rintro y w2 ⟨hy,hb2⟩;have HB2:=qd (HB1.out.trans (hb2.mono HB1.out.size));have hX2:=HX1.out.below hb2 HX1.out.lt;clear hb2 HCs HX1 HB1
  cases ho:other l with
  |some j=>
   rw[ho]at hy;simp only at hy;subst hy;have h8:ErrAt E w2 8:=HEr.out w2 8 HB2.out HEn.out.2.2.1;unfold ErrAt at h8;simp only[gE]at h8;have HF:=qd (show begE k m i l=8 from by unfold begE mayE;rw[if_neg HLg.out,if_neg HR.out,ho];rfl);clear ho hX2;go_upto_region 6 with fail;go_region;go_wp2;refine bodyPost_ret (v:= .tuple #[.pointer none,.iface 372 (.pointer (some (E 8)))]) (by simp[results,Tryz.results52,go_sem]) rfl ⟨.inl ⟨by rw[HF.out];decide,by rw[HF.out];rfl⟩,HB2.out.drew⟩
  |none=>
   rw[ho]at hy;simp only at hy;subst hy;have HF:=qd (show begE k m i l=if cfgOk k m i=true then 0 else 1 from by unfold begE mayE;rw[if_neg HLg.out,if_neg HR.out,ho];rfl);obtain⟨x0,x1,x2⟩:=hX2.c3;have HNw:=qd (do_New (hashF l) (HEn.out.1.next HB2.out) k m i);unfold cfgV at HNw;clear ho hX2;go_wp2_with fail;refine HNw.out.mono ?_;rintro y w3 ⟨hy,hb3⟩;have HB3:=qd (HB2.out.trans (hb3.mono HB2.out.size));clear hb3;rcases hy with⟨hc,rfl⟩|⟨hc,b,G,rfl,hD,hG⟩
   ·have HF2:=qd (show begE k m i l=1 from by rw[HF.out,hc];rfl);clear hc HF;rw[errV_pos E (k:=1) (by decide)];go_wp2;refine bodyPost_ret (v:= .tuple #[.pointer none,.iface 372 (.pointer (some (E 1)))]) (by simp[results,Tryz.results52,go_sem]) rfl ⟨.inl ⟨by rw[HF2.out];decide,by rw[HF2.out];rfl⟩,HB3.out⟩
   ·have HF2:=qd (show begE k m i l=0 from by rw[HF.out,hc];rfl);have HD:=qd (And.intro hD (show∀q∈G,w.heap.size≤q from fun q hq=>Nat.le_trans HB2.out.size (hG q hq)));clear hc HF hD hG;go_wp2;refine bodyPost_ret (v:= .tuple #[.pointer (some ⟨b,0,none⟩),.nilIface]) (by simp[results,Tryz.results52,go_sem]) rfl ⟨.inr ⟨HF2.out,b,G,rfl,HD.out⟩,HB3.out⟩
end
section
theorem ents_loads:∀Ts:List TabM,(entsTs Ts).length≤loads Ts
 | []=>by simp[entsTs]
 |T::Ts=>by
  have:=ents_loads Ts;unfold entsTs loads at*;simp only[List.flatMap_cons,List.length_append,List.map_cons,List.sum_cons];unfold load at*;omega
theorem node_room {H:Nat→Nat}{N:Nd}(h:NOk H N):N.ents.length≤7*N.groups∧1≤N.groups:=by
 have hpw:=h.pw;have hph:=h.ph;have hsl:=h.sl;have hdp:=h.deep;have hbg:=h.big
 have hpos:1≤N.len:=by rcases hpw with e|e|e|e|e|e|e<;>omega
 unfold PhOk at hph;unfold Nd.groups Nd.ents
 cases hp:N.ph with
 |idle=>
  rw[hp]at hph;simp only[frs,Phase.busy,entsTs,List.flatMap_nil,List.nil_append,Bool.false_eq_true,if_false];have h1:=hph.2;unfold load mRoom at h1;refine⟨?_,hpos⟩;rcases hbg with h0|h8
  ·rw[h0]at h1;omega
  ·rcases hpw with e|e|e|e|e|e|e<;>rw[e]at h1⊢<;>omega
 |bld k=>
  rw[hp]at hph;have hke:=kind_each hpw hph.1;have hr:=room_fresh (s:=k+N.sl) hpw hdp hbg hph.1 (by omega)
  have hm:N.each≤N.each*N.many:=by rcases hke.2.1 with e|e<;>rw[e]<;>omega
  simp only[frs,Phase.busy,entsTs,List.flatMap_nil,List.nil_append,if_true];have:=hph.2.2.2;omega
 |mov Ts next=>
  rw[hp]at hph;have hke:=kind_each hpw hph.1;have hr:=room_fresh (s:=N.each*N.many+next+N.sl) hpw hdp hbg hph.1 (by have:=hph.2.1;omega)
  have hm:N.each≤N.each*N.many:=by rcases hke.2.1 with e|e<;>rw[e]<;>omega
  simp only[frs,Phase.busy,List.length_append,if_true];have h1:=hph.2.2.2.2;have h2:=ents_loads Ts;omega
theorem nodes_room {H:Nat→Nat}:∀l:List Nd,(∀N∈l,NOk H N)→(l.flatMap Nd.ents).length≤7*(l.map Nd.groups).sum∧l.length≤(l.map Nd.groups).sum
 | [],_=>by simp
 |N::l,h=>by
  have h1:=node_room (h N (by simp));have h2:=nodes_room l fun x hx=>h x (by simp[hx]);simp only[List.flatMap_cons,List.length_append,List.map_cons,List.sum_cons,List.length_cons];omega
section
variable {W0 : World} {E : Nat → Addr} {H : Nat → Nat} {Kk M I b : Nat} {G : List Nat} {w w' : World} {a : Pool} {ids : List Nat} {its : List It} {gv : Nat} {lst : Cnt}
theorem RtAt.room (h:RtAt W0 E H Kk M I b G w a ids its gv lst):a.ents.length≤7*a.groups∧1≤a.groups∧a.groups≤6144:=by
 obtain⟨C,GC,mb,hS,rfl,hlst⟩:=h;obtain⟨_,_,f3,f4,_,f6,_⟩:=hS.core.facts
 have h1:=nodes_room a.Ns fun N hN=>by
  obtain⟨i,hi⟩:=List.getElem?_of_mem hN;exact f6 i N hi
 have h2:=groups_small f6 f3;unfold Pool.ents;unfold Pool.groups at h2⊢;omega
def WashIs (w:World)(b lf:Nat):Prop:=lf≤1099511627776∧b<w.heap.size∧w.cell? ⟨b,4,none⟩=some (.int .i64 (lf:Int))
theorem RtAt.left (h:RtAt W0 E H Kk M I b G w a ids its gv lst):∃lf,WashIs w b lf:=by
 obtain⟨C,GC,mb,hS,rfl,hlst⟩:=h;have hbk:=hS.blk.blk;unfold RmC.cells at hbk;have c4:=hbk.cell 4;simp only[gl]at c4;exact⟨C.lf,hS.blk.lf,hS.blk.lt,c4⟩
theorem WashIs.below {lf:Nat}(h:WashIs w b lf)(hb:Below w.heap.size w w'):WashIs w' b lf:=⟨h.1,by have:=hb.size;have:=h.2.1;omega,(World.cell?_of_block (hb.block b h.2.1)).trans h.2.2⟩
theorem rt_Groups {lf:Nat}(h:RtAt W0 E H Kk M I b G w a ids its gv lst)(hf:WashIs w b lf):Calls Tryz.prog 36 #[.pointer (some ⟨b,0,none⟩)] w fun y w'=>y= .returned (.tuple #[.int .i64 (a.groups:Int),.int .i64 (lf:Int)])∧Below w.heap.size w w':=by
 obtain⟨C,GC,mb,hS,rfl,hlst⟩:=h;have hbk:=hS.blk.blk;unfold RmC.cells at hbk;have c3:=hbk.cell 3;have c4:=hbk.cell 4;simp only[gl]at c3 c4;rw[hf.2.2]at c4;have hdr:=(Below.refl w.heap.size w).drew;have HG:=qd (at_Groups (hS.core.below hdr));have hw:=wash_Left (hS.below hdr).blk
 have hlf:lf=C.lf:=by
  have h1:(lf:Int)=(C.lf:Int):=by simpa using c4
  omega
 rw[←hlf]at hw;have HW:=qd hw;unfold coreP at HG;clear hbk hS hlst hf c4 hlf hw hdr;go_in;go_upto_region 1 with fail;refine rT (fun(w':World)=>w'.cell? ⟨b,3,none⟩=some (.pointer (some ⟨C.cb,0,none⟩))∧True) [] ?_;have hHeld:=(⟨c3,trivial⟩:_∧_);refine vW 0 rfl ?_;refine vW 1 rfl ?_;refine vW 2 rfl ?_;refine vT 3 rfl ?_;refine vW 5 rfl ?_;refine vW 6 rfl ?_;refine vW 7 rfl ?_;refine nT 4 rfl fun K hK=> ?_;go_simp;refine HG.out.mono ?_;rintro y w1 ⟨rfl,rfl⟩;have hHeld:=(⟨c3,trivial⟩:_∧_);refine kO hK ?_;clear hK K;refine nT 8 rfl fun K hK=> ?_;go_simp;refine HW.out.mono ?_;rintro y w1 ⟨rfl,rfl⟩;have hHeld:=(⟨c3,trivial⟩:_∧_);refine kO hK ?_;clear hK K;refine vW 9 rfl ?_;refine vW 10 rfl ?_;refine doneT (by kernel_rfl) ?_ _;go_wp2;refine bodyPost_ret (v:= .tuple #[.int .i64 (a.groups:Int),.int .i64 (lf:Int)]) (by simp[results,Tryz.results36,go_sem]) rfl ⟨rfl,(Below.refl _ _).drew⟩
end
end
section
variable {W0 w : World} {E : Nat → Addr}
theorem rt_All {H:Nat→Nat}{K M I b:Nat}{G:List Nat}{a:Pool}{ids:List Nat}{its:List It}{gv:Nat}{lst:Cnt}(h:RtAt W0 E H K M I b G w a ids its gv lst):Calls Tryz.prog 35 #[.pointer (some ⟨b,0,none⟩)] w fun y w'=>∃t0 t1 t2:Int,y= .returned (.agg #[.int .i64 t0,.int .i64 t1,.int .i64 t2])∧Below w.heap.size w w':=by
 obtain⟨C,GC,mb,hS,rfl,rfl⟩:=h;have hbk:=hS.blk.blk;unfold RmC.cells at hbk;have m17:=hbk.cell 20;have m18:=hbk.cell 21;have m19:=hbk.cell 22;simp only[gl]at m17 m18 m19;have hB:=(Below.refl w.heap.size w).alloc (Nat.le_refl _) (.cells #[.int .i64 0,.int .i64 0,.int .i64 0] 37);have hX:=Blk.new w 37 #[.int .i64 0,.int .i64 0,.int .i64 0];obtain⟨W,hW⟩:∃W,W=w.alloc (.cells #[.int .i64 0,.int .i64 0,.int .i64 0] 37):=⟨_,rfl⟩;rw[←hW]at hB hX;replace m17:=cell_in hB m17;replace m18:=cell_in hB m18;replace m19:=cell_in hB m19;obtain⟨x0,x1,x2⟩:=hX.c3;obtain⟨f0,f1,f2⟩:=hX.f3;have HW:=qd hW;have HB:=qd hB;clear hbk hS hW hB hX;go_in;go_upto_region 1 with fail;rw[←HW.out];go_wp2;refine bodyPost_ret (v:= .agg #[.int .i64 C.all.p,.int .i64 C.all.v,.int .i64 C.all.u]) (by simp[results,Tryz.results35,go_sem,x0,x1,x2]) rfl ?_;exact⟨_,_,_,rfl,(((HB.out).setCell (p:=⟨w.heap.size,0,none⟩) (Nat.le_refl _) _).setCell (p:=⟨w.heap.size,1,none⟩) (Nat.le_refl _) _).setCell (p:=⟨w.heap.size,2,none⟩) (Nat.le_refl _) _⟩
theorem below_setRow {B g:Nat}{a:World}(h:Below B a w)(hg:B≤g)(cs:Array Value):Below B a (w.setRow g cs):=
 ⟨h.os,h.tape,h.output,by have:=h.size;simpa[World.setRow]using this,fun k hk=>(setRow_other w g k cs (by omega)).trans (h.block k hk)⟩
theorem results_row_tmp {P:Program}{fn:Func}{p e:Tmp}{ty:TypeId}(h:fn.results= #[.cell p ty,.tmp e])(tmps:Array Value)(w:World)(g:Nat)(t:TypeId)(cs:Array Value)(fr:Nat×Nat)(d:TypeDesc){ve:Value}(hp:tmps.getD p undef= .pointer (some ⟨g,0,none⟩))(he:tmps.getD e undef=ve)(hg:w.heap[g]?=some (.cells cs t fr))(hu:P.underlying ty=some d)(hd:(match d with| .struct _| .array _ _=>true|_=>false)=true)(hi:(P.info? ty).map (·.size)=some cs.size):
  (results fn tmps).run P w= .ok (.tuple #[.agg cs,ve]) w:=by
 subst he
 have hp':tmps[p]?.getD undef= .pointer (some ⟨g,0,none⟩):=by simpa using hp
 simp[results,h,hp',asAddr,run_loadVar_row w g t ty cs fr d hg hu hd hi]
theorem run_OpsNone (hE:Env W0 E w)(h3:ErrAt E W0 3)(h8:ErrAt E W0 8)(h9:ErrAt E W0 9):Calls Tryz.prog 27 #[cfgV 1 1 1,.slice none 0 0] w fun y w'=>y= .returned (.tuple #[.slice none 0 0,.nilIface])∧Below w.heap.size w w':=by
 have hB:=(Below.refl w.heap.size w).alloc (Nat.le_refl _) (.cells #[.int .i64 1,.int .i64 1,.int .i64 1] 23);have hX:=Blk.new w 23 #[.int .i64 1,.int .i64 1,.int .i64 1];obtain⟨W,hW⟩:∃W,W=w.alloc (.cells #[.int .i64 1,.int .i64 1,.int .i64 1] 23):=⟨_,rfl⟩;rw[←hW]at hB hX;obtain⟨x0,x1,x2⟩:=hX.c3;have HBg:=qd (show Calls Tryz.prog 52 #[cfgV 1 1 1,.slice none 0 0] W (BegP W0 E 1 1 1 [] W)from run_begun (l:=[]) (c:=0) (hE.next hB) h3 h8 h9 1 1 1 Reads.none_ (by simp) (fun o ho=>by cases ho));unfold cfgV at HBg⊢;have HW:=qd hW;have HB:=qd hB;clear hW hB hX hE;go_in;go_upto_region 1 with fail;rw[←HW.out];go_wp2_with fail;refine HBg.out.mono ?_;rintro y w1 ⟨hbeg,hb1⟩
 have h0:begE 1 1 1 ([]:List SOp)=0:=by decide
 rcases hbeg with⟨hne,_⟩|⟨_,b,G,rfl,_,_⟩
 ·exact absurd h0 hne
 have HB1:=qd (HB.out.trans (hb1.mono HB.out.size));clear hb1 HBg h0;go_wp2;refine wp_loop_rounds 1 ?_;rw[rounds_succ];go_wp2;go_ret2;exact⟨rfl,HB1.out⟩
theorem report_OfNone (hE:Env W0 E w)(h3:ErrAt E W0 3)(h8:ErrAt E W0 8)(h9:ErrAt E W0 9):Calls Tryz.prog 12 #[cfgV 1 1 1,.slice none 0 0] w fun y w'=>∃(n3 n4 n5 n6 t0 t1 t2:Int) (u p:Value),y= .returned (.tuple #[repV 0 0 0 0 0 0 0 0 0 0 0 n3 n4 n5 n6 t0 t1 t2 u p,.nilIface])∧(i64B n3∧i64B n4∧i64B n5∧i64B n6)∧Rec w' u [] 0∧Rec w' p [] 0∧Below w.heap.size w w':=by
 have HOp:=qd (fun(W:World) (hb:Below w.heap.size w W)=>run_OpsNone (hE.next hb) h3 h8 h9);have HNw:=qd (fun(W:World) (hb:Below w.heap.size w W)=>rt_New (fun _=>0) (hE.next hb) 1 1 1 (by decide) 1 1 1 ⟨by omega,by omega,rfl,rfl,rfl⟩ (by omega));unfold cfgV at HOp HNw⊢;clear hE h3 h8 h9;go_in;go_upto_region 1 with fail;refine nameW (F:=fun v=>Blk v w.heap.size 23 #[.int .i64 1,.int .i64 1,.int .i64 1]∧Blk v (w.heap.size+1) 39 #[.int .i64 0,.int .i64 0,.int .i64 0,.int .i64 0,.int .i64 0,.int .i64 0,.int .i64 0,.int .i64 0,.int .i64 0,.int .i64 0,.int .i64 0,.pointer none,.pointer none,.int .i64 0,.int .i64 0,.int .i64 0,.int .i64 0,.int .i64 0,.int .i64 0,.int .i64 0]∧Below w.heap.size w v) ⟨?_, ?_, ?_⟩ ?_
 ·exact(Blk.new w 23 _).alloc _
 ·have h:=Blk.new (w.alloc (.cells #[.int .i64 1,.int .i64 1,.int .i64 1] 23)) 39 #[.int .i64 0,.int .i64 0,.int .i64 0,.int .i64 0,.int .i64 0,.int .i64 0,.int .i64 0,.int .i64 0,.int .i64 0,.int .i64 0,.int .i64 0,.pointer none,.pointer none,.int .i64 0,.int .i64 0,.int .i64 0,.int .i64 0,.int .i64 0,.int .i64 0,.int .i64 0];rw[World.size_alloc]at h;exact h
 ·exact((Below.refl _ _).alloc (Nat.le_refl _) _).alloc (by simp) _
 rintro w1 ⟨hC1,hR1,hb1⟩;obtain⟨bc,hbc⟩:∃bc,bc=w.heap.size:=⟨_,rfl⟩;obtain⟨br,hbr⟩:∃br,br=w.heap.size+1:=⟨_,rfl⟩;have HBr:=qd (show w.heap.size<br by omega);rw[←hbr]at hR1⊢;rw[←hbc]at hC1⊢;have HR1:=qd hR1;have HC1:=qd hC1;have HB1:=qd hb1;obtain⟨x0,x1,x2⟩:=hC1.c3;clear hR1 hC1 hb1 hbr hbc;go_wp2_with fail;refine(HOp.out w1 HB1.out).mono ?_;rintro y w2 ⟨rfl,hb2⟩;have hC2:=HC1.out.below hb2 HC1.out.lt;have HR2:=qd (HR1.out.below hb2 HR1.out.lt);have HB2:=qd (HB1.out.trans (hb2.mono HB1.out.size));obtain⟨x0,x1,x2⟩:=hC2.c3;clear hC2 hb2 HR1 HC1 HB1 HOp;go_wp2_with fail;refine(HNw.out w2 HB2.out).mono ?_;rintro y w3 ⟨b,G,rfl,hm3,hG3,hb3⟩;have HR3:=qd (HR2.out.below hb3 HR2.out.lt);have HB3:=qd (HB2.out.trans (hb3.mono HB2.out.size));have HM3:=qd hm3;clear hm3 hG3 hb3 HR2 HB2 HNw x0 x1 x2;go_upto_region 7 with fail
 iterate 19 go_step
 have hBt:=Blk.new ((w3.alloc (.cells #[.slice none 0 0,.int .i64 0] 33)).alloc (.cells #[.slice none 0 0,.int .i64 0] 33)) 39 #[.int .i64 0,.int .i64 0,.int .i64 0,.int .i64 0,.int .i64 0,.int .i64 0,.int .i64 0,.int .i64 0,.int .i64 0,.int .i64 0,.int .i64 0,.pointer none,.pointer none,.int .i64 0,.int .i64 0,.int .i64 0,.int .i64 0,.int .i64 0,.int .i64 0,.int .i64 0];have hRw:=World.setRow_alloc_new ((w3.alloc (.cells #[.slice none 0 0,.int .i64 0] 33)).alloc (.cells #[.slice none 0 0,.int .i64 0] 33)) #[.int .i64 0,.int .i64 0,.int .i64 0,.int .i64 0,.int .i64 0,.int .i64 0,.int .i64 0,.int .i64 0,.int .i64 0,.int .i64 0,.int .i64 0,.pointer none,.pointer none,.int .i64 0,.int .i64 0,.int .i64 0,.int .i64 0,.int .i64 0,.int .i64 0,.int .i64 0] #[.int .i64 0,.int .i64 0,.int .i64 0,.int .i64 0,.int .i64 0,.int .i64 0,.int .i64 0,.int .i64 0,.int .i64 0,.int .i64 0,.int .i64 0,.pointer (some ⟨w3.heap.size,0,none⟩),.pointer (some ⟨w3.heap.size+1,0,none⟩),.int .i64 0,.int .i64 0,.int .i64 0,.int .i64 0,.int .i64 0,.int .i64 0,.int .i64 0] 39;simp only[World.size_alloc]at hBt hRw
 refine wpList_store_row rfl 39 (.tmp 10) (.tmp 38) rfl (w3.heap.size+1+1) #[.int .i64 0,.int .i64 0,.int .i64 0,.int .i64 0,.int .i64 0,.int .i64 0,.int .i64 0,.int .i64 0,.int .i64 0,.int .i64 0,.int .i64 0,.pointer (some ⟨w3.heap.size,0,none⟩),.pointer (some ⟨w3.heap.size+1,0,none⟩),.int .i64 0,.int .i64 0,.int .i64 0,.int .i64 0,.int .i64 0,.int .i64 0,.int .i64 0] rfl rfl 39 #[.int .i64 0,.int .i64 0,.int .i64 0,.int .i64 0,.int .i64 0,.int .i64 0,.int .i64 0,.int .i64 0,.int .i64 0,.int .i64 0,.int .i64 0,.pointer none,.pointer none,.int .i64 0,.int .i64 0,.int .i64 0,.int .i64 0,.int .i64 0,.int .i64 0,.int .i64 0] hBt (by kernel_rfl) rfl (by simp[Value.oneCell']) ?_;rw[hRw];clear hBt hRw;refine nameW (F:=fun v=>Blk v w3.heap.size 33 #[.slice none 0 0,.int .i64 0]∧Blk v (w3.heap.size+1) 33 #[.slice none 0 0,.int .i64 0]∧Blk v (w3.heap.size+1+1) 39 #[.int .i64 0,.int .i64 0,.int .i64 0,.int .i64 0,.int .i64 0,.int .i64 0,.int .i64 0,.int .i64 0,.int .i64 0,.int .i64 0,.int .i64 0,.pointer (some ⟨w3.heap.size,0,none⟩),.pointer (some ⟨w3.heap.size+1,0,none⟩),.int .i64 0,.int .i64 0,.int .i64 0,.int .i64 0,.int .i64 0,.int .i64 0,.int .i64 0]∧Below w3.heap.size w3 v) ⟨?_, ?_, ?_, ?_⟩ ?_
 ·exact((Blk.new w3 33 _).alloc _).alloc _
 ·have h:=Blk.new (w3.alloc (.cells #[.slice none 0 0,.int .i64 0] 33)) 33 #[.slice none 0 0,.int .i64 0];rw[World.size_alloc]at h;exact h.alloc _
 ·have h:=Blk.new ((w3.alloc (.cells #[.slice none 0 0,.int .i64 0] 33)).alloc (.cells #[.slice none 0 0,.int .i64 0] 33)) 39 #[.int .i64 0,.int .i64 0,.int .i64 0,.int .i64 0,.int .i64 0,.int .i64 0,.int .i64 0,.int .i64 0,.int .i64 0,.int .i64 0,.int .i64 0,.pointer (some ⟨w3.heap.size,0,none⟩),.pointer (some ⟨w3.heap.size+1,0,none⟩),.int .i64 0,.int .i64 0,.int .i64 0,.int .i64 0,.int .i64 0,.int .i64 0,.int .i64 0];simp only[World.size_alloc]at h;exact h
 ·exact(((Below.refl _ _).alloc (Nat.le_refl _) _).alloc (by simp) _).alloc (by simp;omega) _
 rintro w4 ⟨hU4,hP4,hT4,hb4⟩;obtain⟨bu,hbu⟩:∃bu,bu=w3.heap.size:=⟨_,rfl⟩;obtain⟨bp,hbp⟩:∃bp,bp=w3.heap.size+1:=⟨_,rfl⟩;obtain⟨bt,hbt⟩:∃bt,bt=w3.heap.size+1+1:=⟨_,rfl⟩;have HLt:=qd (show br<bt∧bu≠bt∧bp≠bt∧w.heap.size≤bt∧w3.heap.size≤bt∧bu≠br∧bp≠br from by have:=HR3.out.lt;have:=HBr.out;have:=HB3.out.size;omega);rw[←hbt]at hT4
 try rw[←hbt]
 rw[←hbp]at hP4 hT4
 try rw[←hbp]
 rw[←hbu]at hU4 hT4
 try rw[←hbu]
 have HU4:=qd hU4;have HP4:=qd hP4;have HT4:=qd hT4;have HR4:=qd (HR3.out.below hb4 HR3.out.lt);have HB4:=qd (HB3.out.trans (hb4.mono HB3.out.size));have HM4:=qd (HM3.out.below hb4);have HZ4:=qd hb4;clear hU4 hP4 hT4 hb4 HR3 HB3 hbu hbp hbt;go_wp2;refine wp_loop_rounds 1 ?_;rw[rounds_succ];have HLe:=qd (rt_Len HM4.out);go_wp2_with fail;refine HLe.out.mono ?_;rintro y w5 ⟨rfl,rfl⟩;have HNo:=qd (rt_Nodes HM4.out);go_wp2_with fail;refine HNo.out.mono ?_;rintro y w5 ⟨rfl,rfl⟩;have HAl:=qd (rt_All HM4.out);obtain⟨n3,hn3⟩:∃n3,n3=pool0.ents.length:=⟨_,rfl⟩;obtain⟨n4,hn4⟩:∃n4,n4=pool0.Ns.length:=⟨_,rfl⟩;have HN:=qd (show n3≤1000∧n4≤1000 from by rw[hn3,hn4,ents0];exact⟨by simp,by show 1≤1000;omega⟩);rw[←hn3,←hn4];clear HLe HNo hn3 hn4;go_wp2_with fail;refine HAl.out.mono ?_;rintro y w5 ⟨t0,t1,t2,rfl,hb5⟩;have HU5:=qd (HU4.out.below hb5 HU4.out.lt);have HP5:=qd (HP4.out.below hb5 HP4.out.lt);have HT5:=qd (HT4.out.below hb5 HT4.out.lt);have HR5:=qd (HR4.out.below hb5 HR4.out.lt);have HB5:=qd (HB4.out.trans (hb5.mono HB4.out.size));have HZ5:=qd (HZ4.out.trans (hb5.mono HZ4.out.size));have hT5:=HT5.out;have hfz:=fun i=>hT5.frozen i;have f13:=hfz 13;have f14:=hfz 14;have f17:=hfz 17;have f18:=hfz 18;have f19:=hfz 19;have y13:=hT5.cell 13;have y14:=hT5.cell 14;have y17:=hT5.cell 17;have y18:=hT5.cell 18;have y19:=hT5.cell 19;simp only[gl]at y13 y14 y17 y18 y19;clear hb5 HAl HU4 HP4 HT4 HR4 HB4 HM4 HZ4 hT5 hfz;go_upto_region 18 with fail
 refine nameW (F:=fun v=>Blk v bu 33 #[.slice none 0 0,.int .i64 0]∧Blk v bp 33 #[.slice none 0 0,.int .i64 0]∧Blk v bt 39 #[.int .i64 0,.int .i64 0,.int .i64 0,.int .i64 0,.int .i64 0,.int .i64 0,.int .i64 0,.int .i64 0,.int .i64 0,.int .i64 0,.int .i64 0,.pointer (some ⟨bu,0,none⟩),.pointer (some ⟨bp,0,none⟩),.int .i64 (n3:Int),.int .i64 (n4:Int),.int .i64 0,.int .i64 0,.int .i64 t0,.int .i64 t1,.int .i64 t2]∧Blk v br 39 #[.int .i64 0,.int .i64 0,.int .i64 0,.int .i64 0,.int .i64 0,.int .i64 0,.int .i64 0,.int .i64 0,.int .i64 0,.int .i64 0,.int .i64 0,.pointer none,.pointer none,.int .i64 0,.int .i64 0,.int .i64 0,.int .i64 0,.int .i64 0,.int .i64 0,.int .i64 0]∧Below w.heap.size w v∧Below w3.heap.size w3 v) ⟨(((((HU5.out.far (p:=⟨bt,13,none⟩) HLt.out.2.1 _).far (p:=⟨bt,14,none⟩) HLt.out.2.1 _).far (p:=⟨bt,17,none⟩) HLt.out.2.1 _).far (p:=⟨bt,18,none⟩) HLt.out.2.1 _).far (p:=⟨bt,19,none⟩) HLt.out.2.1 _),(((((HP5.out.far (p:=⟨bt,13,none⟩) HLt.out.2.2.1 _).far (p:=⟨bt,14,none⟩) HLt.out.2.2.1 _).far (p:=⟨bt,17,none⟩) HLt.out.2.2.1 _).far (p:=⟨bt,18,none⟩) HLt.out.2.2.1 _).far (p:=⟨bt,19,none⟩) HLt.out.2.2.1 _),(by have h:=(((((HT5.out.set_ 13 (.int .i64 (n3:Int))).set_ 14 (.int .i64 (n4:Int))).set_ 17 (.int .i64 t0)).set_ 18 (.int .i64 t1)).set_ 19 (.int .i64 t2));simp only[List.setIfInBounds_toArray,List.set_cons_zero,List.set_cons_succ]at h;exact h),(((((HR5.out.far (p:=⟨bt,13,none⟩) (Nat.ne_of_lt HLt.out.1) _).far (p:=⟨bt,14,none⟩) (Nat.ne_of_lt HLt.out.1) _).far (p:=⟨bt,17,none⟩) (Nat.ne_of_lt HLt.out.1) _).far (p:=⟨bt,18,none⟩) (Nat.ne_of_lt HLt.out.1) _).far (p:=⟨bt,19,none⟩) (Nat.ne_of_lt HLt.out.1) _),(((((HB5.out.setCell (p:=⟨bt,13,none⟩) HLt.out.2.2.2.1 _).setCell (p:=⟨bt,14,none⟩) HLt.out.2.2.2.1 _).setCell (p:=⟨bt,17,none⟩) HLt.out.2.2.2.1 _).setCell (p:=⟨bt,18,none⟩) HLt.out.2.2.2.1 _).setCell (p:=⟨bt,19,none⟩) HLt.out.2.2.2.1 _),(((((HZ5.out.setCell (p:=⟨bt,13,none⟩) HLt.out.2.2.2.2.1 _).setCell (p:=⟨bt,14,none⟩) HLt.out.2.2.2.2.1 _).setCell (p:=⟨bt,17,none⟩) HLt.out.2.2.2.2.1 _).setCell (p:=⟨bt,18,none⟩) HLt.out.2.2.2.2.1 _).setCell (p:=⟨bt,19,none⟩) HLt.out.2.2.2.2.1 _)⟩ ?_
 clear HU5 HP5 HT5 HR5 HB5 HZ5 f13 f14 f17 f18 f19 y13 y14 y17 y18 y19;rintro w6 ⟨hU6,hP6,hT6,hR6,hb6,hz6⟩;have hm6:=HM3.out.below hz6;obtain⟨lf,hlf⟩:=hm6.left;have HGr:=qd (rt_Groups hm6 hlf);have HLf:=qd hlf.1;have HGl:=qd (show pool0.groups≤192 from by unfold Pool.groups pool0;have:=groups_le (nd0_ok (fun _=>0));simpa using this);obtain⟨n5,hn5⟩:∃n5,n5=pool0.groups:=⟨_,rfl⟩;rw[←hn5]at HGr HGl;have HU6:=qd hU6;have HP6:=qd hP6;have HT6:=qd hT6;have HR6:=qd hR6;have HB6:=qd hb6;clear hU6 hP6 hT6 hR6 hb6 hz6 hm6 hlf hn5 HM3;go_wp2_with fail;refine HGr.out.mono ?_;rintro y w7 ⟨rfl,hb7⟩;have HU7:=qd (HU6.out.below hb7 HU6.out.lt);have HP7:=qd (HP6.out.below hb7 HP6.out.lt);have HT7:=qd (HT6.out.below hb7 HT6.out.lt);have HR7:=qd (HR6.out.below hb7 HR6.out.lt);have HB7:=qd (HB6.out.trans (hb7.mono HB6.out.size));have y15:=HT7.out.cell 15;have y16:=HT7.out.cell 16;have f15:=HT7.out.frozen 15;have f16:=HT7.out.frozen 16;simp only[gl]at y15 y16;obtain⟨n6,hn6⟩:∃n6,n6=lf:=⟨_,rfl⟩;rw[←hn6]at HLf⊢;clear hb7 HGr HU6 HP6 HT6 HR6 HB6 hn6;go_upto_region 19 with fail
 refine nameW (F:=fun v=>Blk v bu 33 #[.slice none 0 0,.int .i64 0]∧Blk v bp 33 #[.slice none 0 0,.int .i64 0]∧Blk v bt 39 #[.int .i64 0,.int .i64 0,.int .i64 0,.int .i64 0,.int .i64 0,.int .i64 0,.int .i64 0,.int .i64 0,.int .i64 0,.int .i64 0,.int .i64 0,.pointer (some ⟨bu,0,none⟩),.pointer (some ⟨bp,0,none⟩),.int .i64 (n3:Int),.int .i64 (n4:Int),.int .i64 (n5:Int),.int .i64 (n6:Int),.int .i64 t0,.int .i64 t1,.int .i64 t2]∧Blk v br 39 #[.int .i64 0,.int .i64 0,.int .i64 0,.int .i64 0,.int .i64 0,.int .i64 0,.int .i64 0,.int .i64 0,.int .i64 0,.int .i64 0,.int .i64 0,.pointer none,.pointer none,.int .i64 0,.int .i64 0,.int .i64 0,.int .i64 0,.int .i64 0,.int .i64 0,.int .i64 0]∧Below w.heap.size w v) ⟨((HU7.out.far (p:=⟨bt,15,none⟩) HLt.out.2.1 _).far (p:=⟨bt,16,none⟩) HLt.out.2.1 _),((HP7.out.far (p:=⟨bt,15,none⟩) HLt.out.2.2.1 _).far (p:=⟨bt,16,none⟩) HLt.out.2.2.1 _),(by have h:=((HT7.out.set_ 15 (.int .i64 (n5:Int))).set_ 16 (.int .i64 (n6:Int)));simp only[List.setIfInBounds_toArray,List.set_cons_zero,List.set_cons_succ]at h;exact h),((HR7.out.far (p:=⟨bt,15,none⟩) (Nat.ne_of_lt HLt.out.1) _).far (p:=⟨bt,16,none⟩) (Nat.ne_of_lt HLt.out.1) _),((HB7.out.setCell (p:=⟨bt,15,none⟩) HLt.out.2.2.2.1 _).setCell (p:=⟨bt,16,none⟩) HLt.out.2.2.2.1 _)⟩ ?_;clear HU7 HP7 HT7 HR7 HB7 y15 y16 f15 f16;rintro w8 ⟨hU8,hP8,hT8,hR8,hb8⟩;have HU8:=qd hU8;have HP8:=qd hP8;have HR8:=qd hR8;have HB8:=qd hb8;clear hU8 hP8 hb8;go_step
 refine wpList_load_row rfl 39 (.tmp 10) rfl bt rfl 39 #[.int .i64 0,.int .i64 0,.int .i64 0,.int .i64 0,.int .i64 0,.int .i64 0,.int .i64 0,.int .i64 0,.int .i64 0,.int .i64 0,.int .i64 0,.pointer (some ⟨bu,0,none⟩),.pointer (some ⟨bp,0,none⟩),.int .i64 (n3:Int),.int .i64 (n4:Int),.int .i64 (n5:Int),.int .i64 (n6:Int),.int .i64 t0,.int .i64 t1,.int .i64 t2] (0,0) _ hT8 Tryz.underlying39 rfl (by kernel_rfl) ?_;refine wpList_store_row rfl 39 (.tmp 4) (.tmp 79) rfl br #[.int .i64 0,.int .i64 0,.int .i64 0,.int .i64 0,.int .i64 0,.int .i64 0,.int .i64 0,.int .i64 0,.int .i64 0,.int .i64 0,.int .i64 0,.pointer (some ⟨bu,0,none⟩),.pointer (some ⟨bp,0,none⟩),.int .i64 (n3:Int),.int .i64 (n4:Int),.int .i64 (n5:Int),.int .i64 (n6:Int),.int .i64 t0,.int .i64 t1,.int .i64 t2] rfl rfl 39 #[.int .i64 0,.int .i64 0,.int .i64 0,.int .i64 0,.int .i64 0,.int .i64 0,.int .i64 0,.int .i64 0,.int .i64 0,.int .i64 0,.int .i64 0,.pointer none,.pointer none,.int .i64 0,.int .i64 0,.int .i64 0,.int .i64 0,.int .i64 0,.int .i64 0,.int .i64 0] hR8 (by kernel_rfl) rfl (by simp[Value.oneCell']) ?_
 try simp only[pt]
 refine nameW (F:=fun v=>Blk v bu 33 #[.slice none 0 0,.int .i64 0]∧Blk v bp 33 #[.slice none 0 0,.int .i64 0]∧Blk v br 39 #[.int .i64 0,.int .i64 0,.int .i64 0,.int .i64 0,.int .i64 0,.int .i64 0,.int .i64 0,.int .i64 0,.int .i64 0,.int .i64 0,.int .i64 0,.pointer (some ⟨bu,0,none⟩),.pointer (some ⟨bp,0,none⟩),.int .i64 (n3:Int),.int .i64 (n4:Int),.int .i64 (n5:Int),.int .i64 (n6:Int),.int .i64 t0,.int .i64 t1,.int .i64 t2]∧Below w.heap.size w v) ⟨(setRow_other w8 br bu _ HLt.out.2.2.2.2.2.1).trans HU8.out,(setRow_other w8 br bp _ HLt.out.2.2.2.2.2.2).trans HP8.out,setRow_heap w8 br _ _ _ _ hR8,below_setRow HB8.out (Nat.le_of_lt HBr.out) _⟩ ?_;rintro w9 ⟨hU9,hP9,hR9,hb9⟩;have HU9:=qd hU9;have HP9:=qd hP9;have HB9:=qd hb9;clear hU9 hP9 hb9 hT8 hR8 HU8 HP8 HR8 HB8;go_wp2
 refine bodyPost_ret (v:= .tuple #[.agg #[.int .i64 0,.int .i64 0,.int .i64 0,.int .i64 0,.int .i64 0,.int .i64 0,.int .i64 0,.int .i64 0,.int .i64 0,.int .i64 0,.int .i64 0,.pointer (some ⟨bu,0,none⟩),.pointer (some ⟨bp,0,none⟩),.int .i64 (n3:Int),.int .i64 (n4:Int),.int .i64 (n5:Int),.int .i64 (n6:Int),.int .i64 t0,.int .i64 t1,.int .i64 t2],.nilIface]) (results_row_tmp (fn:=Tryz.f12) (p:=4) (e:=5) rfl _ _ br 39 #[.int .i64 0,.int .i64 0,.int .i64 0,.int .i64 0,.int .i64 0,.int .i64 0,.int .i64 0,.int .i64 0,.int .i64 0,.int .i64 0,.int .i64 0,.pointer (some ⟨bu,0,none⟩),.pointer (some ⟨bp,0,none⟩),.int .i64 (n3:Int),.int .i64 (n4:Int),.int .i64 (n5:Int),.int .i64 (n6:Int),.int .i64 t0,.int .i64 t1,.int .i64 t2] (0,0) _ rfl rfl hR9 Tryz.underlying39 rfl (by kernel_rfl)) rfl ?_;exact⟨n3,n4,n5,n6,t0,t1,t2,.pointer (some ⟨bu,0,none⟩),.pointer (some ⟨bp,0,none⟩),rfl,⟨⟨by omega,by have:=HN.out;omega⟩,⟨by omega,by have:=HN.out;omega⟩,⟨by omega,by have:=HGl.out;omega⟩,⟨by omega,by have:=HLf.out;omega⟩⟩,.inr ⟨bu,bu,[bu],rfl,_,HU9.out,World.ownsRow_nil _ _ _ _,rfl,Nat.le_refl _,List.Pairwise.nil⟩,.inr ⟨bp,bp,[bp],rfl,_,HP9.out,World.ownsRow_nil _ _ _ _,rfl,Nat.le_refl _,List.Pairwise.nil⟩,HB9.out⟩
end
end Go.Proofs.YtfbljmcjadfkoaaGreatDoor
