/- The plain law of lines and words: byte by byte and line by line they are the same. No program in sight. -/
import Derived.Lib.Fields
import Derived.Lib.IndexMore
import Derived.Lib.SplitLaws
import Derived.Lib.CutLaws
import Derived.Lib.Join
import Derived.Below
import Derived.Laws.OwnMore
import Derived.Laws.Rows
import Derived.Deep.AppendLies
import Derived.Deep.Draws
import Derived.Maps.AppendAt
import Derived.RegionTactic
import Derived.OwnWalk
import Derived.Lib.Hide
import Derived.Lib.ConvBytes
namespace Go.Proofs.YtjfgpnapccdnlaaGreatDoor.qw
abbrev Bytes:=List UInt8
def nW (c:UInt8):Bool:=32≤c && c≤126
def gH (l:Bytes):Bool:=l.all nW
def lines:Bytes→List Bytes
 | []=> [[]]
 |b::t=>if b=10 then []::lines t else
  match lines t with
  | []=> [[b]]
  |l::r=>(b::l)::r
theorem ND (s:Bytes):lines s≠[]:=by
 induction s with
 |nil=>simp[lines]
 |cons b t ih=>
  unfold lines;split
  ·simp
  ·split<;>simp
def body:Bytes→Bytes
 | []=> []
 |b::t=>if b=35 then []else b::body t
inductive CF where
 |bad (n:Nat)
 |ok (l:List (Nat×List Bytes))
def add (acc:List (Nat×List Bytes))(n:Nat)(row:List Bytes):List (Nat×List Bytes):=
 if row=[]then acc else acc++[(n,row)]
def fH (acc:List (Nat×List Bytes))(n:Nat):List Bytes→CF
 | []=> .ok acc
 |l::r=>if gH (body l)then fH (add acc n (Lib.fields (body l))) (n+1) r else .bad n
def flush (row:List Bytes)(word:Bytes)(c:Bool):List Bytes×Bytes:=
 if word≠[]∧c=true then(row++[word],[])else(row,word)
def eX (acc:List (Nat×List Bytes))(row:List Bytes)(word:Bytes)(remark:Bool)(n:Nat):Bytes→CF
 | []=> .ok (add acc n (flush row word true).1)
 |b::t=>
  let f:=flush row word (b==10||remark||b==32||b==35)
  if b=10 then eX (add acc n f.1) [] f.2 false (n+1) t
  else if remark=true∨b=32 then eX acc f.1 f.2 remark n t
  else if b=35 then eX acc f.1 f.2 true n t
  else if b<33∨126<b then .bad n
  else eX acc f.1 (f.2++[b]) remark n t
def rest (acc:List (Nat×List Bytes))(row:List Bytes)(word:Bytes)(remark:Bool)(n:Nat):List Bytes→CF
 | []=> .ok acc
 |l::r=>
  let m:=if remark then []else body l
  if gH m then fH (add acc n (row++Lib.fieldsGo word m)) (n+1) r else .bad n
theorem rest_start (acc:List (Nat×List Bytes))(n:Nat)(l:List Bytes):rest acc [] [] false n l=fH acc n l:=by
 cases l with
 |nil=>rfl
 |cons l r=>simp[rest,fH,Lib.fields]
theorem Vt {b:UInt8}(h:nW b=true):Lib.isSp b=(b==32):=by
 unfold nW at h;unfold Lib.isSp;simp only[Bool.and_eq_true,decide_eq_true_eq,UInt8.le_iff_toNat_le]at h
 have e:∀k:UInt8,k.toNat<32→(b==k)=false:=by
  intro k hk;rw[beq_eq_false_iff_ne];rintro rfl;have h1:=h.1;have:(32:UInt8).toNat=32:=rfl;omega
 rw[e 9 (by decide),e 10 (by decide),e 11 (by decide),e 12 (by decide),e 13 (by decide)];simp
theorem qA (w:Bytes):Lib.fieldsGo w []=if w=[]then []else [w]:=by
 cases w<;>simp[Lib.fieldsGo]
theorem Yw (s:Bytes):∀(acc:List (Nat×List Bytes)) (row:List Bytes) (word:Bytes) (remark:Bool) (n:Nat),
  (remark=true→word=[])→eX acc row word remark n s=rest acc row word remark n (lines s):=by
 induction s with
 |nil=>
  intro acc row word remark n hr;unfold eX lines rest
  have hm:(if remark then([]:Bytes)else body [])=[]:=by cases remark<;>rfl
  simp only[hm,gH,List.all_nil,if_true,fH,qA,flush]
  by_cases h:word=[]<;>simp[h]
 |cons b t ih=>
  intro acc row word remark n hr;unfold eX;simp only;by_cases h10:b=10
  ·subst h10
   have hl:lines (10::t)=[]::lines t:=by rw[lines,if_pos rfl]
   rw[hl,if_pos rfl];unfold rest
   have hm:(if remark then([]:Bytes)else body [])=[]:=by cases remark<;>rfl
   simp only[hm,gH,List.all_nil,if_true,qA,flush];by_cases h:word=[]
   ·simp only[h];simp;rw[ih _ _ _ _ _ (by simp),rest_start]
   ·simp[h];rw[ih _ _ _ _ _ (by simp),rest_start]
  ·rw[if_neg h10]
   obtain⟨l,r,hl⟩:∃l r,lines t=l::r:=by
    cases hh:lines t with
    |nil=>exact absurd hh (ND t)
    |cons l r=>exact⟨l,r,rfl⟩
   have hl':lines (b::t)=(b::l)::r:=by
    conv=>lhs;unfold lines
    rw[if_neg h10,hl]
   rw[hl']
   cases remark with
   |true=>
    have hw:=hr rfl;subst hw;simp only[true_or,if_true];rw[ih _ _ _ _ _ (by simp[flush]),hl];simp[rest,flush]
   |false=>
    simp only[Bool.false_eq_true,false_or];by_cases h32:b=32
    ·subst h32;rw[if_pos rfl,ih _ _ _ _ _ (by simp),hl];unfold rest
     have hb:body (32::l)=32::body l:=by
      conv=>lhs;unfold body
      rw[if_neg (by decide)]
     simp only[Bool.false_eq_true,if_false,hb]
     have hf:gH (32::body l)=gH (body l):=by simp[gH,nW]
     rw[hf]
     have hfg:(flush row word ((32:UInt8)==10||false||(32:UInt8)==32||(32:UInt8)==35)).1++Lib.fieldsGo (flush row word ((32:UInt8)==10||false||(32:UInt8)==32||(32:UInt8)==35)).2 (body l)=row++Lib.fieldsGo word (32::body l):=by
      by_cases h:word=[]
      ·subst h;simp[flush,Lib.fieldsGo_sp 32 _ (by decide)]
      ·rw[Lib.fieldsGo_end word 32 _ (by decide) h];simp[flush,h]
     rw[hfg]
    ·rw[if_neg h32];by_cases h35:b=35
     ·subst h35;rw[if_pos rfl,ih _ _ _ _ _ (by intro _;simp only[flush];split<;>simp_all),hl];unfold rest
      have hb:body (35::l)=[]:=by unfold body;simp
      simp only[if_true,hb,Bool.false_eq_true,if_false];simp only[gH,List.all_nil,if_true,qA,flush]
      by_cases h:word=[]<;>simp[h]
     ·rw[if_neg h35]
      have hb:body (b::l)=b::body l:=by
       conv=>lhs;unfold body
       rw[if_neg h35]
      have hfl:flush row word (b==10||false||b==32||b==35)=(row,word):=by
       have e1:(b==10)=false:=by simpa using h10
       have e2:(b==32)=false:=by simpa using h32
       have e3:(b==35)=false:=by simpa using h35
       simp[flush,e1,e2,e3]
      rw[hfl]
      have hfin:nW b=false↔(b<33∨126<b):=by
       unfold nW;have NG:b.toNat≠32:=fun e=>h32 (by apply UInt8.toNat_inj.1;simpa using e);simp only[Bool.and_eq_false_iff,decide_eq_false_iff_not,UInt8.le_iff_toNat_le,UInt8.lt_iff_toNat_lt];have:(33:UInt8).toNat=33:=rfl;have:(32:UInt8).toNat=32:=rfl;have:(126:UInt8).toNat=126:=rfl;omega
      by_cases hbad:b<33∨126<b
      ·rw[if_pos hbad];unfold rest;have:=hfin.2 hbad;simp[hb,gH,this]
      ·rw[if_neg hbad,ih _ _ _ _ _ (by simp),hl]
       have hg:nW b=true:=by
        cases hh:nW b with
        |true=>rfl
        |false=>exact absurd (hfin.1 hh) hbad
       have hns:Lib.isSp b=false:=by rw[Vt hg];simpa using h32
       unfold rest;simp only[Bool.false_eq_true,if_false,hb];rw[Lib.fieldsGo_more word b _ hns];simp[gH,hg]
theorem acT (s:Bytes):eX [] [] [] false 1 s=fH [] 1 (lines s):=by
 rw[Yw _ _ _ _ _ _ (by simp),rest_start]
def fl (row:List Bytes)(word:Bytes):List Bytes:=if word=[]then row else row++[word]
theorem wL (row:List Bytes)(word:Bytes):flush row word true=(fl row word,[]):=by
 unfold flush fl
 by_cases h:word=[]<;>simp[h]
theorem Vu (acc:List (Nat×List Bytes))(row:List Bytes)(word:Bytes)(remark:Bool)(n:Nat):eX acc row word remark n []= .ok (add acc n (fl row word)):=by
 rw[eX,wL]
theorem NH (acc:List (Nat×List Bytes))(row:List Bytes)(word:Bytes)(remark:Bool)(n:Nat)(t:Bytes):
  eX acc row word remark n (10::t)=eX (add acc n (fl row word)) [] [] false (n+1) t:=by
 rw[eX]
 have:((10:UInt8)==10||remark||(10:UInt8)==32||(10:UInt8)==35)=true:=by simp
 simp only[this,wL,if_true]
theorem wM (acc:List (Nat×List Bytes))(row:List Bytes)(word:Bytes)(remark:Bool)(n:Nat)(b:UInt8)(t:Bytes)(h:b≠10)(h2:remark=true∨b=32):
  eX acc row word remark n (b::t)=eX acc (fl row word) [] remark n t:=by
 rw[eX]
 have:(b==10||remark||b==32||b==35)=true:=by
  rcases h2 with h2|h2<;>simp[h2]
 simp only[this,wL];rw[if_neg h,if_pos h2]
theorem Hl (acc:List (Nat×List Bytes))(row:List Bytes)(word:Bytes)(n:Nat)(t:Bytes):
  eX acc row word false n (35::t)=eX acc (fl row word) [] true n t:=by
 rw[eX]
 have:((35:UInt8)==10||false||(35:UInt8)==32||(35:UInt8)==35)=true:=by simp
 simp only[this,wL];rw[if_neg (by decide),if_neg (by simp),if_pos trivial]
theorem Vv (acc:List (Nat×List Bytes))(row:List Bytes)(word:Bytes)(n:Nat)(b:UInt8)(t:Bytes)(h1:b≠10)(h2:b≠32)(h3:b≠35)(h:b<33∨126<b):
  eX acc row word false n (b::t)= .bad n:=by
 rw[eX];rw[if_neg h1,if_neg (by simp[h2]),if_neg h3,if_pos h]
theorem Ti (acc:List (Nat×List Bytes))(row:List Bytes)(word:Bytes)(n:Nat)(b:UInt8)(t:Bytes)(h1:b≠10)(h2:b≠32)(h3:b≠35)(h:¬(b<33∨126<b)):
  eX acc row word false n (b::t)=eX acc row (word++[b]) false n t:=by
 rw[eX]
 have e1:(b==10)=false:=by simpa using h1
 have e2:(b==32)=false:=by simpa using h2
 have e3:(b==35)=false:=by simpa using h3
 simp only[e1,e2,e3,Bool.or_false,flush];rw[if_neg h1,if_neg (by simp[h2]),if_neg h3,if_neg h];simp
end Go.Proofs.YtjfgpnapccdnlaaGreatDoor.qw

/-! The lines of a text, as strings.Split and strings.Cut give them. No program in sight. -/
namespace Go.Proofs.YtjfgpnapccdnlaaGreatDoor.qw
open Go
theorem ug (b c:UInt8)(l:Bytes):Lib.index (b::l) [c]=if b=c then 0 else if Lib.index l [c]= -1 then-1 else Lib.index l [c]+1:=by
 rw[Lib.index];by_cases h:b=c
 ·subst h;simp
 ·have:([c].isPrefixOf (b::l))=false:=by simp[List.isPrefixOf];exact fun e=>h e.symm
  rw[this,if_neg (by simp),if_neg h]
  by_cases h2:Lib.index l [c]= -1<;>simp[h2]
theorem rZ (c:UInt8):∀l:Bytes,-1≤Lib.index l [c]
 | []=>by simp[Lib.index]
 |b::l=>by
  have:=rZ c l;rw[ug];split
  ·omega
  ·split<;>omega
theorem Yx (l:Bytes):(Lib.cut l [35]).1=body l:=by
 unfold Lib.cut
 induction l with
 |nil=>simp[Lib.index,body]
 |cons b t ih=>
  have hge:=rZ 35 t;rw[ug];unfold body;by_cases h:b=35
  ·simp[h]
  ·rw[if_neg h,if_neg h];by_cases h2:Lib.index t [35]= -1
   ·rw[if_pos h2,if_neg (by omega)];rw[if_neg (by omega)]at ih;simp only at ih⊢;rw[←ih]
   ·rw[if_neg h2,if_pos (by omega)];rw[if_pos (by omega)]at ih;simp only at ih⊢
    have e:(Lib.index t [35]+1).toNat=(Lib.index t [35]).toNat+1:=by omega
    rw[e,List.take_succ_cons,ih]
theorem EY (l:Bytes):(Lib.index l [10]= -1→lines l=[l])∧(∀i:Nat,Lib.index l [10]=(i:Int)→lines l=l.take i::lines (l.drop (i+1))):=by
 induction l with
 |nil=>simp[Lib.index,lines]
 |cons b t ih=>
  have hge:=rZ 10 t;rw[ug];by_cases h:b=10
  ·subst h;refine⟨fun e=>by simp at e,fun i e=> ?_⟩;rw[if_pos rfl]at e
   obtain rfl:i=0:=by omega
   simp[lines]
  ·rw[if_neg h];by_cases h2:Lib.index t [10]= -1
   ·rw[if_pos h2];refine⟨fun _=> ?_,fun i e=>by omega⟩;rw[lines,if_neg h,ih.1 h2]
   ·rw[if_neg h2];refine⟨fun e=>by omega,fun i e=> ?_⟩;obtain⟨j,rfl⟩:∃j,i=j+1:=⟨i-1,by omega⟩;rw[lines,if_neg h,ih.2 j (by omega)];simp
theorem CG:∀(fuel:Nat) (l:Bytes),l.length<fuel→Lib.splitK [10] 0 (Lib.countFrom [10] fuel l) l=lines l
 |0,l,h=>by omega
 |fuel+1,l,h=>by
  rw[Lib.countFrom];by_cases hi:Lib.index l [10]= -1
  ·simp only[hi,beq_self_eq_true,if_true,Lib.splitK];exact((EY l).1 hi).symm
  ·have hge:=rZ 10 l;obtain⟨i,hi'⟩:∃i:Nat,Lib.index l [10]=(i:Int):=⟨(Lib.index l [10]).toNat,by omega⟩
   have hb:(Lib.index l [10]== -1)=false:=by simpa using hi
   rw[hb];simp only[Bool.false_eq_true,if_false];rw[Nat.add_comm,Lib.splitK,hb];simp only[Bool.false_eq_true,if_false];rw[(EY l).2 i hi']
   have e:(Lib.index l [10]).toNat=i:=by omega
   have hroom:=Lib.index_room l [10] (by omega);rw[e]
   have hl:(List.drop (i+([10]:Bytes).length) l).length<fuel:=by
    rw[List.length_drop];simp only[List.length_cons,List.length_nil]at hroom⊢;omega
   rw[CG fuel _ hl];simp
theorem QK (s:ByteArray):(Lib.splitB ⟨#[10]⟩ 0 (Lib.countB s ⟨#[10]⟩) s).map (·.data.toList)=lines s.data.toList:=by
 rw[Lib.splitB_data];show Lib.splitK [10] 0 (Lib.count s.data.toList [10]) s.data.toList=_;exact CG _ _ (by omega)
theorem Ho (l:Bytes):(lines l).length≤l.length+1:=by
 induction l with
 |nil=>simp[lines]
 |cons b t ih=>
  unfold lines;split
  ·simp;exact ih
  ·split
   ·simp
   ·next h=>rw[h]at ih;simp at ih⊢;omega
theorem Vw (l x:Bytes)(h:x∈lines l):x.length≤l.length:=by
 induction l generalizing x with
 |nil=>simp[lines]at h;simp[h]
 |cons b t ih=>
  unfold lines at h;split at h
  ·rcases List.mem_cons.1 h with rfl|h
   ·simp
   ·have:=ih x h;simp;omega
  ·split at h
   ·simp at h;simp[h]
   ·next l0 r0 hl=>
    rcases List.mem_cons.1 h with rfl|h
    ·have:=ih l0 (by rw[hl];simp);simp at this⊢;omega
    ·have:=ih x (by rw[hl];exact List.mem_cons_of_mem _ h);simp;omega
theorem EZ (l:Bytes):(body l).length≤l.length:=by
 induction l with
 |nil=>simp[body]
 |cons b t ih=>
  unfold body
  split<;>simp
  exact ih
theorem Tj {l:Bytes}(h:gH l=true)(j:Nat)(b:UInt8)(hj:l[j]?=some b):b.toNat<128:=by
 unfold gH at h;rw[List.all_eq_true]at h;have:=h b (List.mem_of_getElem? hj);unfold nW at this;simp only[Bool.and_eq_true,decide_eq_true_eq,UInt8.le_iff_toNat_le]at this;have e:(126:UInt8).toNat=126:=rfl;omega
theorem CJ (acc:List (Nat×List Bytes))(n:Nat)(l:Bytes)(r:List Bytes):fH acc n (l::r)=if gH (body l)then fH (add acc n (Lib.fields (body l))) (n+1) r else .bad n:=rfl
theorem Gc (l:Bytes):(Lib.fields l).length≤l.length:=by
 rw[Lib.fields_length]
 have H:∀(l:Bytes) (ws:Bool),Lib.cntF ws l≤l.length:=by
  intro l
  induction l with
  |nil=>intro ws;exact Nat.le_refl _
  |cons b t ih=>
   intro ws;have:=ih (Lib.isSp b);simp only[Lib.cntF,List.length_cons]
   split<;>omega
 exact H l true
end Go.Proofs.YtjfgpnapccdnlaaGreatDoor.qw

/-! The plain law of remarks: a remark's line, a blank line and a remark behind change no word. No program in sight. -/
namespace Go.Proofs.YtjfgpnapccdnlaaGreatDoor.qw
def behind (t:Bytes):List Bytes→List Bytes
 | []=> []
 | [l]=> [l++t]
 |l::m::r=>l::behind t (m::r)
def up (p:Nat×List Bytes):Nat×List Bytes:=(p.1+2,p.2)
def CF.up:CF→CF
 | .bad n=> .bad (n+2)
 | .ok l=> .ok (l.map qw.up)
def aeN (r s:Bytes):Bytes:=35::(r++([10,32,32,32,10]++(s++(32::35::r))))
end Go.Proofs.YtjfgpnapccdnlaaGreatDoor.qw

/-! The plain law of lines, joined and split again; and of figures of base 16, read again. No program in sight. -/
namespace Go.Proofs.YtjfgpnapccdnlaaGreatDoor.qw
open Go
variable {c : UInt8} {s : Bytes} {L : List (Nat × List Bytes)}
def joined (L:List (Nat×List Bytes)):Bytes:=(L.map fun p=>Lib.join p.2 [32]++[10]).flatten
def ael:Nat→List (Nat×List Bytes)→List (Nat×List Bytes)
 |_,[]=> []
 |n,p::r=>(n,p.2)::ael (n+1) r
def aem (c:UInt8):Prop:=nW c=true∧c≠32∧c≠35
def af0 (x:Bytes):Prop:=x≠[]∧∀b∈x,aem b
theorem Hq (x y:Bytes)(r:List Bytes):Lib.join (x::y::r) [32]=x++32::Lib.join (y::r) [32]:=by
 rw[Lib.join_cons,Lib.join_cons];simp[Lib.joinTail]
theorem Vx (s:Bytes):((lines s).map (fun l=>l.length+1)).sum=s.length+1:=by
 induction s with
 |nil=>rfl
 |cons b t ih=>
  unfold lines;split
  ·simp[ih];omega
  ·split
   ·next h=>exact absurd h (ND t)
   ·next l r h=>rw[h]at ih;simp at ih⊢;omega
theorem xG:∀(l cur:Bytes),(Lib.join (Lib.fieldsGo cur l) [32]).length≤cur.length+l.length
 | [],cur=>by
  rw[qA];split
  ·simp[Lib.join_nil]
  ·simp[Lib.join_one]
 |b::l,cur=>by
  cases hs:Lib.isSp b with
  |true=>
   have ih:=xG l [];by_cases hc:cur=[]
   ·subst hc;rw[Lib.fieldsGo_sp b l hs];simp at ih⊢;omega
   ·rw[Lib.fieldsGo_end cur b l hs hc]
    cases hf:Lib.fieldsGo [] l with
    |nil=>simp[Lib.join_one]
    |cons y r=>
     rw[hf]at ih;rw[Hq];simp at ih⊢;omega
  |false=>
   rw[Lib.fieldsGo_more cur b l hs];have ih:=xG l (cur++[b]);simp at ih⊢;omega
theorem MH (a b:List (Nat×List Bytes)):joined (a++b)=joined a++joined b:=by simp[joined]
theorem E5:∀(ls:List Bytes) (acc:List (Nat×List Bytes)) (n:Nat) (L:List (Nat×List Bytes)),fH acc n ls= .ok L→
  (joined L).length≤(joined acc).length+(ls.map (fun l=>l.length+1)).sum
 | [],acc,n,L,h=>by
  simp only[fH,CF.ok.injEq]at h;subst h;simp
 |l::r,acc,n,L,h=>by
  rw[CJ]at h;split at h
  ·have ih:=E5 r _ _ L h;have hb:=EZ l;have hf:=xG (body l) []
   have ha:(joined (add acc n (Lib.fields (body l)))).length≤(joined acc).length+(l.length+1):=by
    unfold add;split
    ·omega
    ·rw[MH,List.length_append];unfold Lib.fields;simp[joined]at hf⊢;omega
   simp only[List.map_cons,List.sum_cons];omega
  ·cases h
theorem wN (h:fH [] 1 (lines s)= .ok L):(joined L).length≤s.length+1:=by
 have:=E5 _ _ _ _ h;rw[Vx]at this;simpa[joined]using this
end Go.Proofs.YtjfgpnapccdnlaaGreatDoor.qw

/-! Words for memory that the walks of this claim use: slices that read as lists, blocks that are known whole, what lies below a block. No statement of the claim. -/
namespace Go.Proofs.YtjfgpnapccdnlaaGreatDoor
open Go.RowKit

theorem below_drewN {B:Nat}{a w:World}(h:Below B a w)(n:Nat):Below B a (w.drewN n):=⟨h.os,h.tape,h.output,h.size,h.block⟩

theorem gu {k:IntKind}{a b:Int}(h:a=b):Ending.returned (.int k a)= .returned (.int k b):=by rw[h]
theorem jl {a b:Bool}(h:a=b):Ending.returned (.bool a)= .returned (.bool b):=by rw[h]
theorem ret_val {a b:Value}(h:a=b):Ending.returned a= .returned b:=by rw[h]

/-- A slice value of n elements of 'size' cells each that reads as the cells xs, nil and empty let in; what it shows lies below block B. -/
def Reads (w:World)(B size:Nat)(A:Option Addr)(n:Nat)(xs:List Value):Prop:=
  xs.length=n*size∧(0<n→∃b off,A=some ⟨b,off,none⟩∧b<B∧∀j u,xs[j]?=some u→w.cell? ⟨b,off+j,none⟩=some u)

section
variable {w w' : World} {B B' size n : Nat} {A : Option Addr} {xs : List Value}
theorem Reads.none_:Reads w B size A 0 []:=⟨by simp,fun h=>absurd h (by omega)⟩
theorem Reads.keep (h:Reads w B size A n xs)(hk:∀b o,b<B→w'.cell? ⟨b,o,none⟩=w.cell? ⟨b,o,none⟩):Reads w' B size A n xs:=
  ⟨h.1,fun hn=>by
    obtain⟨b,off,e,hb,hc⟩:=h.2 hn
    exact⟨b,off,e,hb,fun j u hu=>(hk _ _ hb).trans (hc j u hu)⟩⟩
theorem Reads.more (h:Reads w B size A n xs)(hB:B≤B'):Reads w B' size A n xs:=
  ⟨h.1,fun hn=>by
    obtain⟨b,off,e,hb,hc⟩:=h.2 hn
    exact⟨b,off,e,by omega,hc⟩⟩
theorem Reads.below (h:Reads w B size A n xs)(hb:Below B w w'):Reads w' B size A n xs:=h.keep fun b o hp=>hb.cell (p:=⟨b,o,none⟩) hp
theorem Reads.drew (h:Reads w B size A n xs):Reads w.drew B size A n xs:=h
theorem Reads.drewN (h:Reads w B size A n xs)(k:Nat):Reads (w.drewN k) B size A n xs:=h
theorem Reads.alloc (h:Reads w B size A n xs)(hB:B≤w.heap.size)(o:Obj):Reads (w.alloc o) B size A n xs:=h.keep fun b off hp=>World.cell?_alloc_lt w o ⟨b,off,none⟩ (Nat.lt_of_lt_of_le hp hB)
theorem Reads.iC {base:Nat}{e:TypeId}{c:Nat}(h:w.ownsRow base e size (.slice A n c) n xs):Reads w w.heap.size size A n xs:=by
  refine⟨h.1,fun hn=> ?_⟩;obtain⟨g,cap,hv,_,hlt⟩:=h.form hn
  have hA:A=some ⟨g,0,none⟩:=by injection hv
  subst hA;refine⟨g,0,rfl,hlt,fun j u hu=> ?_⟩;have:=h.cells (g:=g) rfl j u hu;by_cases h0:j=0
  · subst h0;simpa[Addr.add]using this
  · simpa[Addr.add,h0]using this
end

/-- block g is just the cells cs of element type t, none frozen -/
def aj (w:World)(g:Nat)(t:TypeId)(cs:Array Value):Prop:=w.heap[g]?=some (.cells cs t (0,0))
section
variable {w w' : World} {g : Nat} {t : TypeId} {cs : Array Value}
theorem aj.lt (h:aj w g t cs):g<w.heap.size:=by
  rcases Nat.lt_or_ge g w.heap.size with hlt|hge
  · exact hlt
  · unfold aj at h;rw[Array.getElem?_eq_none hge]at h;cases h
theorem aj.cell (h:aj w g t cs)(i:Nat):w.cell? ⟨g,i,none⟩=cs[i]?:=cell_of_row w g i cs t (0,0) h
theorem aj.frozen (h:aj w g t cs)(i:Nat):w.frozen? ⟨g,i,none⟩=false:=by
  unfold aj at h;simp[World.frozen?,h]
theorem aj.new (w:World)(t:TypeId)(cs:Array Value):aj (w.alloc (.cells cs t)) w.heap.size t cs:=heap_alloc_new w _
theorem aj.drew (h:aj w g t cs):aj w.drew g t cs:=h
theorem aj.drewN (h:aj w g t cs)(n:Nat):aj (w.drewN n) g t cs:=h
theorem aj.alloc (h:aj w g t cs)(o:Obj):aj (w.alloc o) g t cs:=(Below.heap_alloc w o g h.lt).trans h
theorem aj.ak (h:aj w g t cs)(i:Nat)(u:Value):aj (w.setCell ⟨g,i,none⟩ u) g t (cs.setIfInBounds i u):=by
  unfold aj at h⊢;simp[World.setCell,Array.getElem?_modify,h]
theorem aj.far (h:aj w g t cs){p:Addr}(hp:g≠p.block)(u:Value):aj (w.setCell p u) g t cs:=(Below.heap_setCell w p u g hp).trans h
theorem aj.below {B:Nat}(h:aj w g t cs)(hb:Below B w w')(hg:g<B):aj w' g t cs:=(hb.block g hg).trans h
theorem aj.grown {row:Option Nat}(h:aj w g t cs)(hb:w.grownBy w' row)(hg:some g≠row):aj w' g t cs:=(hb.block g h.lt hg).trans h
end


/-- slice type t of elements of type e, each of 'size' cells and 'bytes' bytes -/
def qc (P:Program)(t e:TypeId)(size bytes:Nat):Prop:=
  ∃i z,P.underlying t=some (.slice e)∧P.info? e=some i∧i.zero=some z∧i.size=size∧i.bytes=bytes∧z.cells.size=size∧0<size∧bytes≤4096
theorem xH {P:Program}{t e:TypeId}{z:Value}{size bytes:Nat}(ht:P.underlying t=some (.slice e))(h:(P.info? e).map (fun i=>(i.zero,i.size,i.bytes))=some (some z,size,bytes))
    (h1:z.cells.size=size) (h2:0<size) (h3:bytes≤4096):qc P t e size bytes:=by
  obtain⟨i,hi,hz0,hz1,hz2⟩:=info_parts h;exact⟨i,z,ht,hi,hz0,hz1,hz2,h1,h2,h3⟩

/-- what an append has done: below 'base' all is as it was; of the old blocks the appended row's alone may have turned; the row lies where it lay, or in a new block -/
structure jL (w0:World)(base:Nat)(v:Value)(w':World)(v':Value):Prop where
  below:Below base w0 w'
  kV:w0.grownBy w' v.ownBlock
  at_:v'.ownBlock=v.ownBlock∨∃g,v'.ownBlock=some g∧w0.heap.size≤g
theorem jL.size {w0 w':World}{base:Nat}{v v':Value}(h:jL w0 base v w' v'):w0.heap.size≤w'.heap.size:=h.kV.size

/-- append of one element, which stands in a block that was laid for it, onto a row of the call's own -/
theorem aB {P:Program}{w0:World}{ops:Array Oper}{rest:List Oper}{o:Oper}{a:Act}{Q:Exit→Act→World→Prop}(hgd:o.guard=none){s x:Operand}{t:TypeId}
    (ho:o.op= .call {callee:= .builtin .append,args:= #[s,x],argTypes:= #[t,t]}) {e:TypeId} {size bytes:Nat} (hT:qc P t e size bytes)
    {base:Nat} {v:Value} {n:Nat} {xs:List Value} (hown:w0.ownsRow base e size v n xs) (hs:a.eval s=v) {cs:Array Value} {t':TypeId} {c:Nat}
    {g:Nat} (hx:a.eval x= .slice (some ⟨g,0,none⟩) 1 c) (hg0:g=w0.heap.size) (hl:cs.size=size) (h1':(cs.toList.all fun u=>u.oneCell')=true)
    (hn:n<33554432) (hbase:base≤w0.heap.size)
    (h:∀v' w',w'.ownsRow base e size v' (n+1) (xs++cs.toList)→jL w0 base v w' v'→wpList P ops Q rest (a.put o.dst v') w'):
    wpList P ops Q (o::rest) a (w0.alloc (.cells cs t')):=by
  obtain⟨i,z,ht,hi,hz,hsize,hby,hzs,hsz,hb⟩:=hT;have h1:∀u∈cs.toList,u.oneCell'=true:=List.all_eq_true.1 h1';subst hg0
  refine wpList_append_own_at (w0.alloc (.cells cs t')) hgd s x t ho base e i z size bytes ht hi hz hsize hby hzs hsz v n xs hs (hown.alloc _) ⟨w0.heap.size,0,none⟩ 1 c cs.toList hx (by simp[hl]) ?_ h1
    (by simp only[maxLen];omega) ?_ (by simp;omega) ?_
  · intro j u hj
    have hadd:(⟨w0.heap.size,0,none⟩:Addr).add j=⟨w0.heap.size,j,none⟩:=by unfold Addr.add;split<;>simp_all
    rw[hadd,(aj.new w0 t' cs).cell];simpa using hj
  · have:(n+1)*bytes≤33554432*4096:=Nat.mul_le_mul (by omega) hb;omega
  · intro v' w' hown' hg _ hat;have hlt:=hown.lt;have hb0:Below base w0 (w0.alloc (.cells cs t')):=(Below.refl _ _).alloc hbase _;refine h v' w' hown' ⟨hb0.grown hg (by simp;omega) (fun k hk=>(hlt k hk).1),⟨hg.os,hg.tape,hg.output,by have:=hg.size;simp at this;omega,fun k hk hne=> ?_⟩, ?_⟩
    · exact(hg.block k (by simp;omega) hne).trans (Below.heap_alloc w0 _ k hk)
    · rcases hat with hat|hat
      · exact .inl hat
      · exact .inr ⟨_,hat,by simp⟩

/-- a row of the call's own stays, whatever other row has grown -/
theorem jL.keep {w0 w':World}{base:Nat}{v v':Value}(h:jL w0 base v w' v'){b e size:Nat}{u:Value}{n:Nat}{xs:List Value}(hu:w0.ownsRow b e size u n xs)
    (hne:u.ownBlock=Option.none∨u.ownBlock≠v.ownBlock):w'.ownsRow b e size u n xs:=hu.kept h.kV hne
/-- rows of elements of two types are two rows -/
theorem j4 {w:World}{b b' e e' size size' n n':Nat}{u v:Value}{xs ys:List Value}(hu:w.ownsRow b e size u n xs)(hv:w.ownsRow b' e' size' v n' ys)(hne:e≠e'):
    u.ownBlock=Option.none∨u.ownBlock≠v.ownBlock:=by
  rcases hu.2 with⟨rfl,_⟩|⟨g,cap,cur,rfl,_,hh,_⟩
  · exact .inl rfl
  · refine .inr ?_;rcases hv.2 with⟨rfl,_⟩|⟨g',cap',cur',rfl,_,hh',_⟩
    · simp[Value.ownBlock]
    · intro hE
      have:g=g':=by simpa[Value.ownBlock]using hE
      subst this;rw[hh]at hh'
      injection hh' with hh'
      injection hh' with _ ht
      exact hne ht
theorem JF {w:World}{b e size n:Nat}{u:Value}{xs:List Value}(hu:w.ownsRow b e size u n xs){g:Nat}(hg:w.heap.size≤g):u.ownBlock=Option.none∨u.ownBlock≠some g:=by
  cases h:u.ownBlock with
  |none=>exact .inl rfl
  | some k =>
    have:=hu.lt k h;exact .inr (fun e=>by injection e with e;omega)

theorem aH {w:World}{b e size n:Nat}{v:Value}{xs:List Value}(hv:w.ownsRow b e size v n xs):∃A c,v= .slice A n c:=by
  rcases hv.2 with⟨rfl,rfl⟩|⟨g,cap,cur,rfl,_⟩
  · exact⟨_,_,rfl⟩
  · exact⟨_,_,rfl⟩
theorem own_below {w w1:World}{base B:Nat}{e:TypeId}{size:Nat}{v:Value}{n:Nat}{xs:List Value}(h:w.ownsRow base e size v n xs)(hb:Below B w w1)(hB:w.heap.size≤B):w1.ownsRow base e size v n xs:=by
  have hg:w.grownBy w1 Option.none:=⟨hb.os,hb.tape,hb.output,hb.size,fun k hk _=>hb.block k (by omega)⟩;refine h.kept hg ?_
  cases hv:v.ownBlock with
  |none=>exact .inl rfl
  |some k=>exact .inr (by simp)

/-- []byte(s): a new block whose cells are the bytes -/
theorem wO {P:Program}(w:World)(src dst e:TypeId)(s:ByteArray){u:TypeDesc}(hs:P.underlying src=some u)(hd:P.underlying dst=some (.slice e))(he:P.underlying e=some (.int .u8)):
    ∃(c:Nat) (W:World),(convert src dst (.string s)).run P w= .ok (.slice (some ⟨w.heap.size,0,none⟩) s.size c) W∧Below w.heap.size w W∧w.heap.size<W.heap.size∧
      ∀(j:Nat) (hj:j<s.size),W.cell? ⟨w.heap.size,j,none⟩=some (.int .u8 ((s[j]).toNat:Int)):=by
  refine⟨_,_,Lib.run_convert_string_bytes w src dst e s hs hd he,⟨?_, ?_, ?_, ?_, ?_⟩, ?_, ?_⟩
  · rfl
  · rfl
  · rfl
  · rw[Lib.bytesWorld_size];omega
  · intro k hk;exact Lib.bytesWorld_at_old w e s k hk
  · rw[Lib.bytesWorld_size];omega
  · intro j hj;rw[Lib.bytesWorld_cell w e s j hj]
    have:s.data.toList.getD j 0=s[j]:=by
      rw[List.getD_eq_getElem?_getD,List.getElem?_eq_getElem (by simpa using hj)];rfl
    rw[this]
end Go.Proofs.YtjfgpnapccdnlaaGreatDoor
