/- The plain law of lines and words: byte by byte and line by line they are the same. No program in sight. -/
import Derived.Lib.Fields
import Derived.Lib.IndexMore
import Derived.Lib.SplitLaws
import Derived.Lib.CutLaws
import Derived.Lib.Join
import Derived.Below
import Derived.Laws.OwnMore
import Derived.Laws.Rows
import Derived.Deep.AppendLies
import Derived.Deep.Draws
import Derived.Maps.AppendAt
import Derived.RegionTactic
import Derived.OwnWalk
import Derived.Lib.Hide
import Derived.Lib.ConvBytes
namespace Go.Proofs.YtgiaobmcbbfmnaaGreatDoor.jY
abbrev Bytes:=List UInt8
def rY (c:UInt8):Bool:=32≤c && c≤126
def jP (l:Bytes):Bool:=l.all rY
def lines:Bytes→List Bytes
 | []=> [[]]
 |b::t=>if b=10 then []::lines t else
  match lines t with
  | []=> [[b]]
  |l::r=>(b::l)::r
def body:Bytes→Bytes
 | []=> []
 |b::t=>if b=35 then []else b::body t
inductive Ke where
 |bad (n:Nat)
 |ok (l:List (Nat×List Bytes))
def add (acc:List (Nat×List Bytes))(n:Nat)(row:List Bytes):List (Nat×List Bytes):=
 if row=[]then acc else acc++[(n,row)]
def lW (acc:List (Nat×List Bytes))(n:Nat):List Bytes→Ke
 | []=> .ok acc
 |l::r=>if jP (body l)then lW (add acc n (Lib.fields (body l))) (n+1) r else .bad n
def flush (row:List Bytes)(word:Bytes)(c:Bool):List Bytes×Bytes:=
 if word≠[]∧c=true then(row++[word],[])else(row,word)
def MW (acc:List (Nat×List Bytes))(row:List Bytes)(word:Bytes)(remark:Bool)(n:Nat):Bytes→Ke
 | []=> .ok (add acc n (flush row word true).1)
 |b::t=>
  let f:=flush row word (b==10||remark||b==32||b==35)
  if b=10 then MW (add acc n f.1) [] f.2 false (n+1) t
  else if remark=true∨b=32 then MW acc f.1 f.2 remark n t
  else if b=35 then MW acc f.1 f.2 true n t
  else if b<33∨126<b then .bad n
  else MW acc f.1 (f.2++[b]) remark n t
def rest (acc:List (Nat×List Bytes))(row:List Bytes)(word:Bytes)(remark:Bool)(n:Nat):List Bytes→Ke
 | []=> .ok acc
 |l::r=>
  let m:=if remark then []else body l
  if jP m then lW (add acc n (row++Lib.fieldsGo word m)) (n+1) r else .bad n
theorem U0 {b:UInt8}(h:rY b=true):Lib.isSp b=(b==32):=by
 unfold rY at h;unfold Lib.isSp;simp only[Bool.and_eq_true,decide_eq_true_eq,UInt8.le_iff_toNat_le]at h
 have e:∀k:UInt8,k.toNat<32→(b==k)=false:=by
  intro k hk;rw[beq_eq_false_iff_ne];rintro rfl;have h1:=h.1;have:(32:UInt8).toNat=32:=rfl;omega
 rw[e 9 (by decide),e 10 (by decide),e 11 (by decide),e 12 (by decide),e 13 (by decide)];simp
theorem Me (w:Bytes):Lib.fieldsGo w []=if w=[]then []else [w]:=by
 cases w<;>simp[Lib.fieldsGo]
def fl (row:List Bytes)(word:Bytes):List Bytes:=if word=[]then row else row++[word]
end Go.Proofs.YtgiaobmcbbfmnaaGreatDoor.jY

/-! The lines of a text, as strings.Split and strings.Cut give them. No program in sight. -/
namespace Go.Proofs.YtgiaobmcbbfmnaaGreatDoor.jY
open Go
theorem um (b c:UInt8)(l:Bytes):Lib.index (b::l) [c]=if b=c then 0 else if Lib.index l [c]= -1 then-1 else Lib.index l [c]+1:=by
 rw[Lib.index];by_cases h:b=c
 ·subst h;simp
 ·have:([c].isPrefixOf (b::l))=false:=by simp[List.isPrefixOf];exact fun e=>h e.symm
  rw[this,if_neg (by simp),if_neg h]
  by_cases h2:Lib.index l [c]= -1<;>simp[h2]
theorem rZ (c:UInt8):∀l:Bytes,-1≤Lib.index l [c]
 | []=>by simp[Lib.index]
 |b::l=>by
  have:=rZ c l;rw[um];split
  ·omega
  ·split<;>omega
theorem XK (l:Bytes):(Lib.cut l [35]).1=body l:=by
 unfold Lib.cut
 induction l with
 |nil=>simp[Lib.index,body]
 |cons b t ih=>
  have hge:=rZ 35 t;rw[um];unfold body;by_cases h:b=35
  ·simp[h]
  ·rw[if_neg h,if_neg h];by_cases h2:Lib.index t [35]= -1
   ·rw[if_pos h2,if_neg (by omega)];rw[if_neg (by omega)]at ih;simp only at ih⊢;rw[←ih]
   ·rw[if_neg h2,if_pos (by omega)];rw[if_pos (by omega)]at ih;simp only at ih⊢
    have e:(Lib.index t [35]+1).toNat=(Lib.index t [35]).toNat+1:=by omega
    rw[e,List.take_succ_cons,ih]
theorem EM (l:Bytes):(Lib.index l [10]= -1→lines l=[l])∧(∀i:Nat,Lib.index l [10]=(i:Int)→lines l=l.take i::lines (l.drop (i+1))):=by
 induction l with
 |nil=>simp[Lib.index,lines]
 |cons b t ih=>
  have hge:=rZ 10 t;rw[um];by_cases h:b=10
  ·subst h;refine⟨fun e=>by simp at e,fun i e=> ?_⟩;rw[if_pos rfl]at e
   obtain rfl:i=0:=by omega
   simp[lines]
  ·rw[if_neg h];by_cases h2:Lib.index t [10]= -1
   ·rw[if_pos h2];refine⟨fun _=> ?_,fun i e=>by omega⟩;rw[lines,if_neg h,ih.1 h2]
   ·rw[if_neg h2];refine⟨fun e=>by omega,fun i e=> ?_⟩;obtain⟨j,rfl⟩:∃j,i=j+1:=⟨i-1,by omega⟩;rw[lines,if_neg h,ih.2 j (by omega)];simp
theorem Cz:∀(fuel:Nat) (l:Bytes),l.length<fuel→Lib.splitK [10] 0 (Lib.countFrom [10] fuel l) l=lines l
 |0,l,h=>by omega
 |fuel+1,l,h=>by
  rw[Lib.countFrom];by_cases hi:Lib.index l [10]= -1
  ·simp only[hi,beq_self_eq_true,if_true,Lib.splitK];exact((EM l).1 hi).symm
  ·have hge:=rZ 10 l;obtain⟨i,hi'⟩:∃i:Nat,Lib.index l [10]=(i:Int):=⟨(Lib.index l [10]).toNat,by omega⟩
   have hb:(Lib.index l [10]== -1)=false:=by simpa using hi
   rw[hb];simp only[Bool.false_eq_true,if_false];rw[Nat.add_comm,Lib.splitK,hb];simp only[Bool.false_eq_true,if_false];rw[(EM l).2 i hi']
   have e:(Lib.index l [10]).toNat=i:=by omega
   have hroom:=Lib.index_room l [10] (by omega);rw[e]
   have hl:(List.drop (i+([10]:Bytes).length) l).length<fuel:=by
    rw[List.length_drop];simp only[List.length_cons,List.length_nil]at hroom⊢;omega
   rw[Cz fuel _ hl];simp
theorem Qu (s:ByteArray):(Lib.splitB ⟨#[10]⟩ 0 (Lib.countB s ⟨#[10]⟩) s).map (·.data.toList)=lines s.data.toList:=by
 rw[Lib.splitB_data];show Lib.splitK [10] 0 (Lib.count s.data.toList [10]) s.data.toList=_;exact Cz _ _ (by omega)
theorem G6 (l:Bytes):(lines l).length≤l.length+1:=by
 induction l with
 |nil=>simp[lines]
 |cons b t ih=>
  unfold lines;split
  ·simp;exact ih
  ·split
   ·simp
   ·next h=>rw[h]at ih;simp at ih⊢;omega
theorem U1 (l x:Bytes)(h:x∈lines l):x.length≤l.length:=by
 induction l generalizing x with
 |nil=>simp[lines]at h;simp[h]
 |cons b t ih=>
  unfold lines at h;split at h
  ·rcases List.mem_cons.1 h with rfl|h
   ·simp
   ·have:=ih x h;simp;omega
  ·split at h
   ·simp at h;simp[h]
   ·next l0 r0 hl=>
    rcases List.mem_cons.1 h with rfl|h
    ·have:=ih l0 (by rw[hl];simp);simp at this⊢;omega
    ·have:=ih x (by rw[hl];exact List.mem_cons_of_mem _ h);simp;omega
theorem Qv (l:Bytes):(body l).length≤l.length:=by
 induction l with
 |nil=>simp[body]
 |cons b t ih=>
  unfold body
  split<;>simp
  exact ih
theorem Sw {l:Bytes}(h:jP l=true)(j:Nat)(b:UInt8)(hj:l[j]?=some b):b.toNat<128:=by
 unfold jP at h;rw[List.all_eq_true]at h;have:=h b (List.mem_of_getElem? hj);unfold rY at this;simp only[Bool.and_eq_true,decide_eq_true_eq,UInt8.le_iff_toNat_le]at this;have e:(126:UInt8).toNat=126:=rfl;omega
theorem xH (acc:List (Nat×List Bytes))(n:Nat)(l:Bytes)(r:List Bytes):lW acc n (l::r)=if jP (body l)then lW (add acc n (Lib.fields (body l))) (n+1) r else .bad n:=rfl
theorem FU (l:Bytes):(Lib.fields l).length≤l.length:=by
 rw[Lib.fields_length]
 have H:∀(l:Bytes) (ws:Bool),Lib.cntF ws l≤l.length:=by
  intro l
  induction l with
  |nil=>intro ws;exact Nat.le_refl _
  |cons b t ih=>
   intro ws;have:=ih (Lib.isSp b);simp only[Lib.cntF,List.length_cons]
   split<;>omega
 exact H l true
end Go.Proofs.YtgiaobmcbbfmnaaGreatDoor.jY

/-! The plain law of remarks: a remark's line, a blank line and a remark behind change no word. No program in sight. -/
namespace Go.Proofs.YtgiaobmcbbfmnaaGreatDoor.jY
def behind (t:Bytes):List Bytes→List Bytes
 | []=> []
 | [l]=> [l++t]
 |l::m::r=>l::behind t (m::r)
theorem Qw (p:Bytes)(hp:∀b∈p,b≠10)(s:Bytes):lines (p++10::s)=p::lines s:=by
 induction p with
 |nil=>simp[lines]
 |cons b p ih=>
  rw[List.cons_append,lines,if_neg (hp b (by simp)),ih fun x hx=>hp x (by simp[hx])]
def up (p:Nat×List Bytes):Nat×List Bytes:=(p.1+2,p.2)
def Ke.up:Ke→Ke
 | .bad n=> .bad (n+2)
 | .ok l=> .ok (l.map jY.up)
def adL (r s:Bytes):Bytes:=35::(r++([10,32,32,32,10]++(s++(32::35::r))))
end Go.Proofs.YtgiaobmcbbfmnaaGreatDoor.jY

/-! The plain law of lines, joined and split again; and of figures of base 16, read again. No program in sight. -/
namespace Go.Proofs.YtgiaobmcbbfmnaaGreatDoor.jY
open Go
variable {c : UInt8} {s : Bytes} {L : List (Nat × List Bytes)}
def joined (L:List (Nat×List Bytes)):Bytes:=(L.map fun p=>Lib.join p.2 [32]++[10]).flatten
def pE:Nat→List (Nat×List Bytes)→List (Nat×List Bytes)
 |_,[]=> []
 |n,p::r=>(n,p.2)::pE (n+1) r
def yV (c:UInt8):Prop:=rY c=true∧c≠32∧c≠35
def Es (x:Bytes):Prop:=x≠[]∧∀b∈x,yV b
theorem XL (h:yV c):Lib.isSp c=false:=by
 rw[U0 h.1];simpa using h.2.1
theorem XM (h:yV c):c≠10:=by
 rintro rfl;have:=h.1;revert this;decide
theorem AZ (x y:Bytes)(r:List Bytes):Lib.join (x::y::r) [32]=x++32::Lib.join (y::r) [32]:=by
 rw[Lib.join_cons,Lib.join_cons];simp[Lib.joinTail]
theorem Nb:∀(r:List Bytes),∀b∈Lib.join r [32],b=32∨∃x∈r,b∈x
 | [],b,h=>by cases h
 | [x],b,h=>by rw[Lib.join_one]at h;exact .inr ⟨x,by simp,h⟩
 |x::y::r,b,h=>by
  rw[AZ]at h;rcases List.mem_append.1 h with h|h
  ·exact .inr ⟨x,by simp,h⟩
  ·rcases List.mem_cons.1 h with h|h
   ·exact .inl h
   ·rcases Nb (y::r) b h with h|⟨z,hz,hb⟩
    ·exact .inl h
    ·exact .inr ⟨z,List.mem_cons_of_mem _ hz,hb⟩
theorem wh:∀(x cur t:Bytes),(∀b∈x,yV b)→Lib.fieldsGo cur (x++t)=Lib.fieldsGo (cur++x) t
 | [],cur,t,_=>by simp
 |b::x,cur,t,h=>by
  rw[List.cons_append,Lib.fieldsGo_more cur b _ (XL (h b (by simp))),wh x _ t (fun c hc=>h c (List.mem_cons_of_mem _ hc))];simp
theorem EN:∀(r:List Bytes),(∀x∈r,Es x)→Lib.fields (Lib.join r [32])=r
 | [],_=>rfl
 | [x],h=>by
  have hx:=h x (by simp);rw[Lib.join_one];unfold Lib.fields;have:=wh x [] [] hx.2;rw[List.append_nil,List.nil_append]at this;rw[this,Me,if_neg hx.1]
 |x::y::r,h=>by
  have hx:=h x (by simp);rw[AZ];unfold Lib.fields;rw[wh x [] _ hx.2,List.nil_append,Lib.fieldsGo_end x 32 _ (by decide) hx.1];have ih:=EN (y::r) (fun z hz=>h z (List.mem_cons_of_mem _ hz));unfold Lib.fields at ih;rw[ih]
theorem Kg {r:List Bytes}(h:∀x∈r,Es x):∀b∈Lib.join r [32],rY b=true∧b≠35∧b≠10:=by
 intro b hb;rcases Nb r b hb with rfl|⟨x,hx,hbx⟩
 ·exact⟨by decide,by decide,by decide⟩
 ·have:=(h x hx).2 b hbx;exact⟨this.1,this.2.2,XM this⟩
theorem Kh:∀(l:Bytes),(∀b∈l,b≠35)→body l=l
 | [],_=>rfl
 |b::t,h=>by
  unfold body;rw[if_neg (h b (by simp)),Kh t (fun c hc=>h c (List.mem_cons_of_mem _ hc))]
theorem CB:∀(L:List (Nat×List Bytes)),(∀p∈L,∀x∈p.2,Es x)→lines (joined L)=L.map (fun p=>Lib.join p.2 [32])++[[]]
 | [],_=>rfl
 |p::L,h=>by
  have e:joined (p::L)=Lib.join p.2 [32]++10::joined L:=by simp[joined]
  rw[e,Qw _ (fun b hb=>(Kg (h p (by simp)) b hb).2.2),CB L (fun q hq=>h q (List.mem_cons_of_mem _ hq))];simp
theorem zS:∀(L acc:List (Nat×List Bytes)) (n:Nat),(∀p∈L,p.2≠[]∧∀x∈p.2,Es x)→
  lW acc n (L.map (fun p=>Lib.join p.2 [32])++[[]])= .ok (acc++pE n L)
 | [],acc,n,_=>by
  show lW acc n [[]]=_;rw[xH];rw[if_pos (by decide)];simp[lW,pE,body,Lib.fields,Lib.fieldsGo,add]
 |p::L,acc,n,h=>by
  obtain⟨hne,hp⟩:=h p (by simp);have hj:=Kg hp;rw[List.map_cons,List.cons_append,xH,Kh _ (fun b hb=>(hj b hb).2.1)];rw[if_pos (by unfold jP;exact List.all_eq_true.2 fun b hb=>(hj b hb).1),EN _ hp,add,if_neg hne];rw[zS L _ _ (fun q hq=>h q (List.mem_cons_of_mem _ hq))];simp[pE]
theorem CF:∀(L:List (Nat×List Bytes)) (n:Nat),(pE n L).length=L.length
 | [],_=>rfl
 |p::L,n=>by simp[pE,CF L]
theorem Nc:∀(L:List (Nat×List Bytes)) (n i:Nat) (p:Nat×List Bytes),L[i]?=some p→(pE n L)[i]?=some (n+i,p.2)
 | [],_,_,_,h=>by cases h
 |q::L,n,0,p,h=>by
  obtain rfl:q=p:=by simpa using h
  simp[pE]
 |q::L,n,i+1,p,h=>by
  have:=Nc L (n+1) i p (by simpa using h);rw[pE,List.getElem?_cons_succ,this];congr 2;omega
end Go.Proofs.YtgiaobmcbbfmnaaGreatDoor.jY

/-! Words for memory that the walks of this claim use: slices that read as lists, blocks that are known whole, what lies below a block. No statement of the claim. -/
namespace Go.Proofs.YtgiaobmcbbfmnaaGreatDoor
open Go.RowKit

theorem below_drewN {B:Nat}{a w:World}(h:Below B a w)(n:Nat):Below B a (w.drewN n):=⟨h.os,h.tape,h.output,h.size,h.block⟩

theorem gD {k:IntKind}{a b:Int}(h:a=b):Ending.returned (.int k a)= .returned (.int k b):=by rw[h]
theorem fH {a b:Bool}(h:a=b):Ending.returned (.bool a)= .returned (.bool b):=by rw[h]
theorem ret_val {a b:Value}(h:a=b):Ending.returned a= .returned b:=by rw[h]

/-- A slice value of n elements of 'size' cells each that reads as the cells xs, nil and empty let in; what it shows lies below block B. -/
def Reads (w:World)(B size:Nat)(A:Option Addr)(n:Nat)(xs:List Value):Prop:=
  xs.length=n*size∧(0<n→∃b off,A=some ⟨b,off,none⟩∧b<B∧∀j u,xs[j]?=some u→w.cell? ⟨b,off+j,none⟩=some u)

section
variable {w w' : World} {B B' size n : Nat} {A : Option Addr} {xs : List Value}
theorem Reads.none_:Reads w B size A 0 []:=⟨by simp,fun h=>absurd h (by omega)⟩
theorem Reads.keep (h:Reads w B size A n xs)(hk:∀b o,b<B→w'.cell? ⟨b,o,none⟩=w.cell? ⟨b,o,none⟩):Reads w' B size A n xs:=
  ⟨h.1,fun hn=>by
    obtain⟨b,off,e,hb,hc⟩:=h.2 hn
    exact⟨b,off,e,hb,fun j u hu=>(hk _ _ hb).trans (hc j u hu)⟩⟩
theorem Reads.more (h:Reads w B size A n xs)(hB:B≤B'):Reads w B' size A n xs:=
  ⟨h.1,fun hn=>by
    obtain⟨b,off,e,hb,hc⟩:=h.2 hn
    exact⟨b,off,e,by omega,hc⟩⟩
theorem Reads.below (h:Reads w B size A n xs)(hb:Below B w w'):Reads w' B size A n xs:=h.keep fun b o hp=>hb.cell (p:=⟨b,o,none⟩) hp
theorem Reads.drew (h:Reads w B size A n xs):Reads w.drew B size A n xs:=h
theorem Reads.drewN (h:Reads w B size A n xs)(k:Nat):Reads (w.drewN k) B size A n xs:=h
theorem Reads.alloc (h:Reads w B size A n xs)(hB:B≤w.heap.size)(o:Obj):Reads (w.alloc o) B size A n xs:=h.keep fun b off hp=>World.cell?_alloc_lt w o ⟨b,off,none⟩ (Nat.lt_of_lt_of_le hp hB)
theorem Reads.eF {base:Nat}{e:TypeId}{c:Nat}(h:w.ownsRow base e size (.slice A n c) n xs):Reads w w.heap.size size A n xs:=by
  refine⟨h.1,fun hn=> ?_⟩;obtain⟨g,cap,hv,_,hlt⟩:=h.form hn
  have hA:A=some ⟨g,0,none⟩:=by injection hv
  subst hA;refine⟨g,0,rfl,hlt,fun j u hu=> ?_⟩;have:=h.cells (g:=g) rfl j u hu;by_cases h0:j=0
  · subst h0;simpa[Addr.add]using this
  · simpa[Addr.add,h0]using this
end

/-- block g is just the cells cs of element type t, none frozen -/
def aj (w:World)(g:Nat)(t:TypeId)(cs:Array Value):Prop:=w.heap[g]?=some (.cells cs t (0,0))
section
variable {w w' : World} {g : Nat} {t : TypeId} {cs : Array Value}
theorem aj.lt (h:aj w g t cs):g<w.heap.size:=by
  rcases Nat.lt_or_ge g w.heap.size with hlt|hge
  · exact hlt
  · unfold aj at h;rw[Array.getElem?_eq_none hge]at h;cases h
theorem aj.cell (h:aj w g t cs)(i:Nat):w.cell? ⟨g,i,none⟩=cs[i]?:=cell_of_row w g i cs t (0,0) h
theorem aj.frozen (h:aj w g t cs)(i:Nat):w.frozen? ⟨g,i,none⟩=false:=by
  unfold aj at h;simp[World.frozen?,h]
theorem aj.new (w:World)(t:TypeId)(cs:Array Value):aj (w.alloc (.cells cs t)) w.heap.size t cs:=heap_alloc_new w _
theorem aj.drew (h:aj w g t cs):aj w.drew g t cs:=h
theorem aj.drewN (h:aj w g t cs)(n:Nat):aj (w.drewN n) g t cs:=h
theorem aj.alloc (h:aj w g t cs)(o:Obj):aj (w.alloc o) g t cs:=(Below.heap_alloc w o g h.lt).trans h
theorem aj.ak (h:aj w g t cs)(i:Nat)(u:Value):aj (w.setCell ⟨g,i,none⟩ u) g t (cs.setIfInBounds i u):=by
  unfold aj at h⊢;simp[World.setCell,Array.getElem?_modify,h]
theorem aj.far (h:aj w g t cs){p:Addr}(hp:g≠p.block)(u:Value):aj (w.setCell p u) g t cs:=(Below.heap_setCell w p u g hp).trans h
theorem aj.below {B:Nat}(h:aj w g t cs)(hb:Below B w w')(hg:g<B):aj w' g t cs:=(hb.block g hg).trans h
theorem aj.grown {row:Option Nat}(h:aj w g t cs)(hb:w.grownBy w' row)(hg:some g≠row):aj w' g t cs:=(hb.block g h.lt hg).trans h
end


/-- slice type t of elements of type e, each of 'size' cells and 'bytes' bytes -/
def wm (P:Program)(t e:TypeId)(size bytes:Nat):Prop:=
  ∃i z,P.underlying t=some (.slice e)∧P.info? e=some i∧i.zero=some z∧i.size=size∧i.bytes=bytes∧z.cells.size=size∧0<size∧bytes≤4096
theorem FV {P:Program}{t e:TypeId}{z:Value}{size bytes:Nat}(ht:P.underlying t=some (.slice e))(h:(P.info? e).map (fun i=>(i.zero,i.size,i.bytes))=some (some z,size,bytes))
    (h1:z.cells.size=size) (h2:0<size) (h3:bytes≤4096):wm P t e size bytes:=by
  obtain⟨i,hi,hz0,hz1,hz2⟩:=info_parts h;exact⟨i,z,ht,hi,hz0,hz1,hz2,h1,h2,h3⟩

/-- what an append has done: below 'base' all is as it was; of the old blocks the appended row's alone may have turned; the row lies where it lay, or in a new block -/
structure kr (w0:World)(base:Nat)(v:Value)(w':World)(v':Value):Prop where
  below:Below base w0 w'
  kM:w0.grownBy w' v.ownBlock
  at_:v'.ownBlock=v.ownBlock∨∃g,v'.ownBlock=some g∧w0.heap.size≤g
theorem kr.size {w0 w':World}{base:Nat}{v v':Value}(h:kr w0 base v w' v'):w0.heap.size≤w'.heap.size:=h.kM.size

/-- append of one element, which stands in a block that was laid for it, onto a row of the call's own -/
theorem iD {P:Program}{w0:World}{ops:Array Oper}{rest:List Oper}{o:Oper}{a:Act}{Q:Exit→Act→World→Prop}(hgd:o.guard=none){s x:Operand}{t:TypeId}
    (ho:o.op= .call {callee:= .builtin .append,args:= #[s,x],argTypes:= #[t,t]}) {e:TypeId} {size bytes:Nat} (hT:wm P t e size bytes)
    {base:Nat} {v:Value} {n:Nat} {xs:List Value} (hown:w0.ownsRow base e size v n xs) (hs:a.eval s=v) {cs:Array Value} {t':TypeId} {c:Nat}
    {g:Nat} (hx:a.eval x= .slice (some ⟨g,0,none⟩) 1 c) (hg0:g=w0.heap.size) (hl:cs.size=size) (h1':(cs.toList.all fun u=>u.oneCell')=true)
    (hn:n<33554432) (hbase:base≤w0.heap.size)
    (h:∀v' w',w'.ownsRow base e size v' (n+1) (xs++cs.toList)→kr w0 base v w' v'→wpList P ops Q rest (a.put o.dst v') w'):
    wpList P ops Q (o::rest) a (w0.alloc (.cells cs t')):=by
  obtain⟨i,z,ht,hi,hz,hsize,hby,hzs,hsz,hb⟩:=hT;have h1:∀u∈cs.toList,u.oneCell'=true:=List.all_eq_true.1 h1';subst hg0
  refine wpList_append_own_at (w0.alloc (.cells cs t')) hgd s x t ho base e i z size bytes ht hi hz hsize hby hzs hsz v n xs hs (hown.alloc _) ⟨w0.heap.size,0,none⟩ 1 c cs.toList hx (by simp[hl]) ?_ h1
    (by simp only[maxLen];omega) ?_ (by simp;omega) ?_
  · intro j u hj
    have hadd:(⟨w0.heap.size,0,none⟩:Addr).add j=⟨w0.heap.size,j,none⟩:=by unfold Addr.add;split<;>simp_all
    rw[hadd,(aj.new w0 t' cs).cell];simpa using hj
  · have:(n+1)*bytes≤33554432*4096:=Nat.mul_le_mul (by omega) hb;omega
  · intro v' w' hown' hg _ hat;have hlt:=hown.lt;have hb0:Below base w0 (w0.alloc (.cells cs t')):=(Below.refl _ _).alloc hbase _;refine h v' w' hown' ⟨hb0.grown hg (by simp;omega) (fun k hk=>(hlt k hk).1),⟨hg.os,hg.tape,hg.output,by have:=hg.size;simp at this;omega,fun k hk hne=> ?_⟩, ?_⟩
    · exact(hg.block k (by simp;omega) hne).trans (Below.heap_alloc w0 _ k hk)
    · rcases hat with hat|hat
      · exact .inl hat
      · exact .inr ⟨_,hat,by simp⟩

/-- a row of the call's own stays, whatever other row has grown -/
theorem kr.keep {w0 w':World}{base:Nat}{v v':Value}(h:kr w0 base v w' v'){b e size:Nat}{u:Value}{n:Nat}{xs:List Value}(hu:w0.ownsRow b e size u n xs)
    (hne:u.ownBlock=Option.none∨u.ownBlock≠v.ownBlock):w'.ownsRow b e size u n xs:=hu.kept h.kM hne
/-- rows of elements of two types are two rows -/
theorem nZ {w:World}{b b' e e' size size' n n':Nat}{u v:Value}{xs ys:List Value}(hu:w.ownsRow b e size u n xs)(hv:w.ownsRow b' e' size' v n' ys)(hne:e≠e'):
    u.ownBlock=Option.none∨u.ownBlock≠v.ownBlock:=by
  rcases hu.2 with⟨rfl,_⟩|⟨g,cap,cur,rfl,_,hh,_⟩
  · exact .inl rfl
  · refine .inr ?_;rcases hv.2 with⟨rfl,_⟩|⟨g',cap',cur',rfl,_,hh',_⟩
    · simp[Value.ownBlock]
    · intro hE
      have:g=g':=by simpa[Value.ownBlock]using hE
      subst this;rw[hh]at hh'
      injection hh' with hh'
      injection hh' with _ ht
      exact hne ht
theorem Jv {w:World}{b e size n:Nat}{u:Value}{xs:List Value}(hu:w.ownsRow b e size u n xs){g:Nat}(hg:w.heap.size≤g):u.ownBlock=Option.none∨u.ownBlock≠some g:=by
  cases h:u.ownBlock with
  |none=>exact .inl rfl
  | some k =>
    have:=hu.lt k h;exact .inr (fun e=>by injection e with e;omega)

theorem bA {w:World}{b e size n:Nat}{v:Value}{xs:List Value}(hv:w.ownsRow b e size v n xs):∃A c,v= .slice A n c:=by
  rcases hv.2 with⟨rfl,rfl⟩|⟨g,cap,cur,rfl,_⟩
  · exact⟨_,_,rfl⟩
  · exact⟨_,_,rfl⟩
theorem own_below {w w1:World}{base B:Nat}{e:TypeId}{size:Nat}{v:Value}{n:Nat}{xs:List Value}(h:w.ownsRow base e size v n xs)(hb:Below B w w1)(hB:w.heap.size≤B):w1.ownsRow base e size v n xs:=by
  have hg:w.grownBy w1 Option.none:=⟨hb.os,hb.tape,hb.output,hb.size,fun k hk _=>hb.block k (by omega)⟩;refine h.kept hg ?_
  cases hv:v.ownBlock with
  |none=>exact .inl rfl
  |some k=>exact .inr (by simp)

/-- []byte(s): a new block whose cells are the bytes -/
theorem wQ {P:Program}(w:World)(src dst e:TypeId)(s:ByteArray){u:TypeDesc}(hs:P.underlying src=some u)(hd:P.underlying dst=some (.slice e))(he:P.underlying e=some (.int .u8)):
    ∃(c:Nat) (W:World),(convert src dst (.string s)).run P w= .ok (.slice (some ⟨w.heap.size,0,none⟩) s.size c) W∧Below w.heap.size w W∧w.heap.size<W.heap.size∧
      ∀(j:Nat) (hj:j<s.size),W.cell? ⟨w.heap.size,j,none⟩=some (.int .u8 ((s[j]).toNat:Int)):=by
  refine⟨_,_,Lib.run_convert_string_bytes w src dst e s hs hd he,⟨?_, ?_, ?_, ?_, ?_⟩, ?_, ?_⟩
  · rfl
  · rfl
  · rfl
  · rw[Lib.bytesWorld_size];omega
  · intro k hk;exact Lib.bytesWorld_at_old w e s k hk
  · rw[Lib.bytesWorld_size];omega
  · intro j hj;rw[Lib.bytesWorld_cell w e s j hj]
    have:s.data.toList.getD j 0=s[j]:=by
      rw[List.getD_eq_getElem?_getD,List.getElem?_eq_getElem (by simpa using hj)];rfl
    rw[this]
end Go.Proofs.YtgiaobmcbbfmnaaGreatDoor

/-! Short names for what is often said: the cells of a block, a row's items. No statement of the claim. -/
namespace Go.Proofs.YtgiaobmcbbfmnaaGreatDoor
open Go.RowKit

theorem qJ {p q:Prop}(h:p)(k:q):p∧q:=⟨h,k⟩
theorem qd {p:Prop}(h:p):Hid p:=Lib.hid h
abbrev nI (n:Nat):Value:= .int .i64 (n:Int)
abbrev nU (n:Nat):Value:= .int .u64 (n:Int)
abbrev pQ (b:Nat):Value:= .pointer (some ⟨b,0,none⟩)
theorem dQ {p:World→Prop}{w:World}(t:TypeId)(cs:Array Value)(h:∀v,aj v w.heap.size t cs∧Below w.heap.size w v→p v):p (w.alloc (.cells cs t)):=h _ ⟨aj.new w t cs,(Below.refl w.heap.size w).alloc (Nat.le_refl _) (.cells cs t)⟩
theorem gl:(∀(l:List Value) (i:Nat),l.toArray[i]?=l[i]?)∧(∀(a:Value) (l:List Value),(a::l)[0]?=some a)∧(∀(a:Value) (l:List Value) (i:Nat),(a::l)[i+1]?=l[i]?):=⟨fun _ _=>List.getElem?_toArray ..,fun _ _=>List.getElem?_cons_zero,fun _ _ _=>List.getElem?_cons_succ⟩
theorem pt:(∀(a:Act) (i:Tmp) (v:Value),a.put (some i) v={a with tmps:=a.tmps.setIfInBounds i v})∧(∀(a:Act) (v:Value),a.put none v=a)∧(∀(l:List Value) (i:Nat) (v:Value),l.toArray.setIfInBounds i v=(l.set i v).toArray)∧(∀(a b:Value) (l:List Value),(a::l).set 0 b=b::l)∧(∀(a b:Value) (l:List Value) (i:Nat),(a::l).set (i+1) b=a::l.set i b):=⟨fun _ _ _=>rfl,fun _ _=>rfl,fun _ _ _=>List.setIfInBounds_toArray ..,fun _ _ _=>List.set_cons_zero,fun _ _ _ _=>List.set_cons_succ⟩
section
variable {w : World} {g : Nat} {t : TypeId} {a0 a1 a2 a3 a4 a5 a6 a7 a8 a9 zT CG a12 a13 a14 : Value} {l : List Value}
theorem qQ (w:World)(t0:TypeId)(c0:Array Value)(t1:TypeId)(c1:Array Value):∃W,W=((w.alloc (.cells c0 t0)).alloc (.cells c1 t1))∧Below w.heap.size w W∧aj W (w.heap.size) t0 c0∧aj W (w.heap.size+1) t1 c1:=⟨_,rfl,(((Below.refl w.heap.size w).alloc (by simp<;>omega) (.cells c0 t0)).alloc (by simp<;>omega) (.cells c1 t1)),by simpa using((aj.new w t0 c0).alloc (.cells c1 t1)),by simpa using(aj.new (w.alloc (.cells c0 t0)) t1 c1)⟩
theorem qX3 (w:World)(t0:TypeId)(c0:Array Value)(t1:TypeId)(c1:Array Value)(t2:TypeId)(c2:Array Value):∃W,W=(((w.alloc (.cells c0 t0)).alloc (.cells c1 t1)).alloc (.cells c2 t2))∧Below w.heap.size w W∧aj W (w.heap.size) t0 c0∧aj W (w.heap.size+1) t1 c1∧aj W (w.heap.size+1+1) t2 c2:=⟨_,rfl,((((Below.refl w.heap.size w).alloc (by simp<;>omega) (.cells c0 t0)).alloc (by simp<;>omega) (.cells c1 t1)).alloc (by simp<;>omega) (.cells c2 t2)),by simpa using(((aj.new w t0 c0).alloc (.cells c1 t1)).alloc (.cells c2 t2)),by simpa using((aj.new (w.alloc (.cells c0 t0)) t1 c1).alloc (.cells c2 t2)),by simpa using(aj.new ((w.alloc (.cells c0 t0)).alloc (.cells c1 t1)) t2 c2)⟩
theorem qX4 (w:World)(t0:TypeId)(c0:Array Value)(t1:TypeId)(c1:Array Value)(t2:TypeId)(c2:Array Value)(t3:TypeId)(c3:Array Value):∃W,W=((((w.alloc (.cells c0 t0)).alloc (.cells c1 t1)).alloc (.cells c2 t2)).alloc (.cells c3 t3))∧Below w.heap.size w W∧aj W (w.heap.size) t0 c0∧aj W (w.heap.size+1) t1 c1∧aj W (w.heap.size+1+1) t2 c2∧aj W (w.heap.size+1+1+1) t3 c3:=⟨_,rfl,(((((Below.refl w.heap.size w).alloc (by simp<;>omega) (.cells c0 t0)).alloc (by simp<;>omega) (.cells c1 t1)).alloc (by simp<;>omega) (.cells c2 t2)).alloc (by simp<;>omega) (.cells c3 t3)),by simpa using((((aj.new w t0 c0).alloc (.cells c1 t1)).alloc (.cells c2 t2)).alloc (.cells c3 t3)),by simpa using(((aj.new (w.alloc (.cells c0 t0)) t1 c1).alloc (.cells c2 t2)).alloc (.cells c3 t3)),by simpa using((aj.new ((w.alloc (.cells c0 t0)).alloc (.cells c1 t1)) t2 c2).alloc (.cells c3 t3)),by simpa using(aj.new (((w.alloc (.cells c0 t0)).alloc (.cells c1 t1)).alloc (.cells c2 t2)) t3 c3)⟩
theorem qX5 (w:World)(t0:TypeId)(c0:Array Value)(t1:TypeId)(c1:Array Value)(t2:TypeId)(c2:Array Value)(t3:TypeId)(c3:Array Value)(t4:TypeId)(c4:Array Value):∃W,W=(((((w.alloc (.cells c0 t0)).alloc (.cells c1 t1)).alloc (.cells c2 t2)).alloc (.cells c3 t3)).alloc (.cells c4 t4))∧Below w.heap.size w W∧aj W (w.heap.size) t0 c0∧aj W (w.heap.size+1) t1 c1∧aj W (w.heap.size+1+1) t2 c2∧aj W (w.heap.size+1+1+1) t3 c3∧aj W (w.heap.size+1+1+1+1) t4 c4:=⟨_,rfl,((((((Below.refl w.heap.size w).alloc (by simp<;>omega) (.cells c0 t0)).alloc (by simp<;>omega) (.cells c1 t1)).alloc (by simp<;>omega) (.cells c2 t2)).alloc (by simp<;>omega) (.cells c3 t3)).alloc (by simp<;>omega) (.cells c4 t4)),by simpa using(((((aj.new w t0 c0).alloc (.cells c1 t1)).alloc (.cells c2 t2)).alloc (.cells c3 t3)).alloc (.cells c4 t4)),by simpa using((((aj.new (w.alloc (.cells c0 t0)) t1 c1).alloc (.cells c2 t2)).alloc (.cells c3 t3)).alloc (.cells c4 t4)),by simpa using(((aj.new ((w.alloc (.cells c0 t0)).alloc (.cells c1 t1)) t2 c2).alloc (.cells c3 t3)).alloc (.cells c4 t4)),by simpa using((aj.new (((w.alloc (.cells c0 t0)).alloc (.cells c1 t1)).alloc (.cells c2 t2)) t3 c3).alloc (.cells c4 t4)),by simpa using(aj.new ((((w.alloc (.cells c0 t0)).alloc (.cells c1 t1)).alloc (.cells c2 t2)).alloc (.cells c3 t3)) t4 c4)⟩
theorem aj.c2 (h:aj w g t (a0::a1::l).toArray):w.cell? ⟨g,0,none⟩=some a0∧w.cell? ⟨g,1,none⟩=some a1:=⟨h.cell 0,h.cell 1⟩
theorem aj.c3 (h:aj w g t (a0::a1::a2::l).toArray):w.cell? ⟨g,0,none⟩=some a0∧w.cell? ⟨g,1,none⟩=some a1∧w.cell? ⟨g,2,none⟩=some a2:=⟨h.cell 0,h.cell 1,h.cell 2⟩
theorem aj.c4 (h:aj w g t (a0::a1::a2::a3::l).toArray):w.cell? ⟨g,0,none⟩=some a0∧w.cell? ⟨g,1,none⟩=some a1∧w.cell? ⟨g,2,none⟩=some a2∧w.cell? ⟨g,3,none⟩=some a3:=⟨h.cell 0,h.cell 1,h.cell 2,h.cell 3⟩
theorem aj.c5 (h:aj w g t (a0::a1::a2::a3::a4::l).toArray):w.cell? ⟨g,0,none⟩=some a0∧w.cell? ⟨g,1,none⟩=some a1∧w.cell? ⟨g,2,none⟩=some a2∧w.cell? ⟨g,3,none⟩=some a3∧w.cell? ⟨g,4,none⟩=some a4:=⟨h.cell 0,h.cell 1,h.cell 2,h.cell 3,h.cell 4⟩
theorem aj.c6 (h:aj w g t (a0::a1::a2::a3::a4::a5::l).toArray):w.cell? ⟨g,0,none⟩=some a0∧w.cell? ⟨g,1,none⟩=some a1∧w.cell? ⟨g,2,none⟩=some a2∧w.cell? ⟨g,3,none⟩=some a3∧w.cell? ⟨g,4,none⟩=some a4∧w.cell? ⟨g,5,none⟩=some a5:=⟨h.cell 0,h.cell 1,h.cell 2,h.cell 3,h.cell 4,h.cell 5⟩
theorem aj.c7 (h:aj w g t (a0::a1::a2::a3::a4::a5::a6::l).toArray):w.cell? ⟨g,0,none⟩=some a0∧w.cell? ⟨g,1,none⟩=some a1∧w.cell? ⟨g,2,none⟩=some a2∧w.cell? ⟨g,3,none⟩=some a3∧w.cell? ⟨g,4,none⟩=some a4∧w.cell? ⟨g,5,none⟩=some a5∧w.cell? ⟨g,6,none⟩=some a6:=⟨h.cell 0,h.cell 1,h.cell 2,h.cell 3,h.cell 4,h.cell 5,h.cell 6⟩
theorem aj.c8 (h:aj w g t (a0::a1::a2::a3::a4::a5::a6::a7::l).toArray):w.cell? ⟨g,0,none⟩=some a0∧w.cell? ⟨g,1,none⟩=some a1∧w.cell? ⟨g,2,none⟩=some a2∧w.cell? ⟨g,3,none⟩=some a3∧w.cell? ⟨g,4,none⟩=some a4∧w.cell? ⟨g,5,none⟩=some a5∧w.cell? ⟨g,6,none⟩=some a6∧w.cell? ⟨g,7,none⟩=some a7:=⟨h.cell 0,h.cell 1,h.cell 2,h.cell 3,h.cell 4,h.cell 5,h.cell 6,h.cell 7⟩
theorem aj.c9 (h:aj w g t (a0::a1::a2::a3::a4::a5::a6::a7::a8::l).toArray):w.cell? ⟨g,0,none⟩=some a0∧w.cell? ⟨g,1,none⟩=some a1∧w.cell? ⟨g,2,none⟩=some a2∧w.cell? ⟨g,3,none⟩=some a3∧w.cell? ⟨g,4,none⟩=some a4∧w.cell? ⟨g,5,none⟩=some a5∧w.cell? ⟨g,6,none⟩=some a6∧w.cell? ⟨g,7,none⟩=some a7∧w.cell? ⟨g,8,none⟩=some a8:=⟨h.cell 0,h.cell 1,h.cell 2,h.cell 3,h.cell 4,h.cell 5,h.cell 6,h.cell 7,h.cell 8⟩
theorem aj.c11 (h:aj w g t (a0::a1::a2::a3::a4::a5::a6::a7::a8::a9::zT::l).toArray):w.cell? ⟨g,0,none⟩=some a0∧w.cell? ⟨g,1,none⟩=some a1∧w.cell? ⟨g,2,none⟩=some a2∧w.cell? ⟨g,3,none⟩=some a3∧w.cell? ⟨g,4,none⟩=some a4∧w.cell? ⟨g,5,none⟩=some a5∧w.cell? ⟨g,6,none⟩=some a6∧w.cell? ⟨g,7,none⟩=some a7∧w.cell? ⟨g,8,none⟩=some a8∧w.cell? ⟨g,9,none⟩=some a9∧w.cell? ⟨g,10,none⟩=some zT:=⟨h.cell 0,h.cell 1,h.cell 2,h.cell 3,h.cell 4,h.cell 5,h.cell 6,h.cell 7,h.cell 8,h.cell 9,h.cell 10⟩
theorem aj.c12 (h:aj w g t (a0::a1::a2::a3::a4::a5::a6::a7::a8::a9::zT::CG::l).toArray):w.cell? ⟨g,0,none⟩=some a0∧w.cell? ⟨g,1,none⟩=some a1∧w.cell? ⟨g,2,none⟩=some a2∧w.cell? ⟨g,3,none⟩=some a3∧w.cell? ⟨g,4,none⟩=some a4∧w.cell? ⟨g,5,none⟩=some a5∧w.cell? ⟨g,6,none⟩=some a6∧w.cell? ⟨g,7,none⟩=some a7∧w.cell? ⟨g,8,none⟩=some a8∧w.cell? ⟨g,9,none⟩=some a9∧w.cell? ⟨g,10,none⟩=some zT∧w.cell? ⟨g,11,none⟩=some CG:=⟨h.cell 0,h.cell 1,h.cell 2,h.cell 3,h.cell 4,h.cell 5,h.cell 6,h.cell 7,h.cell 8,h.cell 9,h.cell 10,h.cell 11⟩
theorem aj.c13 (h:aj w g t (a0::a1::a2::a3::a4::a5::a6::a7::a8::a9::zT::CG::a12::l).toArray):w.cell? ⟨g,0,none⟩=some a0∧w.cell? ⟨g,1,none⟩=some a1∧w.cell? ⟨g,2,none⟩=some a2∧w.cell? ⟨g,3,none⟩=some a3∧w.cell? ⟨g,4,none⟩=some a4∧w.cell? ⟨g,5,none⟩=some a5∧w.cell? ⟨g,6,none⟩=some a6∧w.cell? ⟨g,7,none⟩=some a7∧w.cell? ⟨g,8,none⟩=some a8∧w.cell? ⟨g,9,none⟩=some a9∧w.cell? ⟨g,10,none⟩=some zT∧w.cell? ⟨g,11,none⟩=some CG∧w.cell? ⟨g,12,none⟩=some a12:=⟨h.cell 0,h.cell 1,h.cell 2,h.cell 3,h.cell 4,h.cell 5,h.cell 6,h.cell 7,h.cell 8,h.cell 9,h.cell 10,h.cell 11,h.cell 12⟩
theorem aj.c14 (h:aj w g t (a0::a1::a2::a3::a4::a5::a6::a7::a8::a9::zT::CG::a12::a13::l).toArray):w.cell? ⟨g,0,none⟩=some a0∧w.cell? ⟨g,1,none⟩=some a1∧w.cell? ⟨g,2,none⟩=some a2∧w.cell? ⟨g,3,none⟩=some a3∧w.cell? ⟨g,4,none⟩=some a4∧w.cell? ⟨g,5,none⟩=some a5∧w.cell? ⟨g,6,none⟩=some a6∧w.cell? ⟨g,7,none⟩=some a7∧w.cell? ⟨g,8,none⟩=some a8∧w.cell? ⟨g,9,none⟩=some a9∧w.cell? ⟨g,10,none⟩=some zT∧w.cell? ⟨g,11,none⟩=some CG∧w.cell? ⟨g,12,none⟩=some a12∧w.cell? ⟨g,13,none⟩=some a13:=⟨h.cell 0,h.cell 1,h.cell 2,h.cell 3,h.cell 4,h.cell 5,h.cell 6,h.cell 7,h.cell 8,h.cell 9,h.cell 10,h.cell 11,h.cell 12,h.cell 13⟩
theorem aj.c15 (h:aj w g t (a0::a1::a2::a3::a4::a5::a6::a7::a8::a9::zT::CG::a12::a13::a14::l).toArray):w.cell? ⟨g,0,none⟩=some a0∧w.cell? ⟨g,1,none⟩=some a1∧w.cell? ⟨g,2,none⟩=some a2∧w.cell? ⟨g,3,none⟩=some a3∧w.cell? ⟨g,4,none⟩=some a4∧w.cell? ⟨g,5,none⟩=some a5∧w.cell? ⟨g,6,none⟩=some a6∧w.cell? ⟨g,7,none⟩=some a7∧w.cell? ⟨g,8,none⟩=some a8∧w.cell? ⟨g,9,none⟩=some a9∧w.cell? ⟨g,10,none⟩=some zT∧w.cell? ⟨g,11,none⟩=some CG∧w.cell? ⟨g,12,none⟩=some a12∧w.cell? ⟨g,13,none⟩=some a13∧w.cell? ⟨g,14,none⟩=some a14:=⟨h.cell 0,h.cell 1,h.cell 2,h.cell 3,h.cell 4,h.cell 5,h.cell 6,h.cell 7,h.cell 8,h.cell 9,h.cell 10,h.cell 11,h.cell 12,h.cell 13,h.cell 14⟩
variable {cs : Array Value}
theorem aj.f3 (h:aj w g t cs):w.frozen? ⟨g,0,none⟩=false∧w.frozen? ⟨g,1,none⟩=false∧w.frozen? ⟨g,2,none⟩=false:=⟨h.frozen 0,h.frozen 1,h.frozen 2⟩
theorem aj.f4 (h:aj w g t cs):w.frozen? ⟨g,0,none⟩=false∧w.frozen? ⟨g,1,none⟩=false∧w.frozen? ⟨g,2,none⟩=false∧w.frozen? ⟨g,3,none⟩=false:=⟨h.frozen 0,h.frozen 1,h.frozen 2,h.frozen 3⟩
theorem aj.f5 (h:aj w g t cs):w.frozen? ⟨g,0,none⟩=false∧w.frozen? ⟨g,1,none⟩=false∧w.frozen? ⟨g,2,none⟩=false∧w.frozen? ⟨g,3,none⟩=false∧w.frozen? ⟨g,4,none⟩=false:=⟨h.frozen 0,h.frozen 1,h.frozen 2,h.frozen 3,h.frozen 4⟩
theorem aj.f6 (h:aj w g t cs):w.frozen? ⟨g,0,none⟩=false∧w.frozen? ⟨g,1,none⟩=false∧w.frozen? ⟨g,2,none⟩=false∧w.frozen? ⟨g,3,none⟩=false∧w.frozen? ⟨g,4,none⟩=false∧w.frozen? ⟨g,5,none⟩=false:=⟨h.frozen 0,h.frozen 1,h.frozen 2,h.frozen 3,h.frozen 4,h.frozen 5⟩
theorem aj.f7 (h:aj w g t cs):w.frozen? ⟨g,0,none⟩=false∧w.frozen? ⟨g,1,none⟩=false∧w.frozen? ⟨g,2,none⟩=false∧w.frozen? ⟨g,3,none⟩=false∧w.frozen? ⟨g,4,none⟩=false∧w.frozen? ⟨g,5,none⟩=false∧w.frozen? ⟨g,6,none⟩=false:=⟨h.frozen 0,h.frozen 1,h.frozen 2,h.frozen 3,h.frozen 4,h.frozen 5,h.frozen 6⟩
theorem aj.f8 (h:aj w g t cs):w.frozen? ⟨g,0,none⟩=false∧w.frozen? ⟨g,1,none⟩=false∧w.frozen? ⟨g,2,none⟩=false∧w.frozen? ⟨g,3,none⟩=false∧w.frozen? ⟨g,4,none⟩=false∧w.frozen? ⟨g,5,none⟩=false∧w.frozen? ⟨g,6,none⟩=false∧w.frozen? ⟨g,7,none⟩=false:=⟨h.frozen 0,h.frozen 1,h.frozen 2,h.frozen 3,h.frozen 4,h.frozen 5,h.frozen 6,h.frozen 7⟩
theorem aj.f10 (h:aj w g t cs):w.frozen? ⟨g,0,none⟩=false∧w.frozen? ⟨g,1,none⟩=false∧w.frozen? ⟨g,2,none⟩=false∧w.frozen? ⟨g,3,none⟩=false∧w.frozen? ⟨g,4,none⟩=false∧w.frozen? ⟨g,5,none⟩=false∧w.frozen? ⟨g,6,none⟩=false∧w.frozen? ⟨g,7,none⟩=false∧w.frozen? ⟨g,8,none⟩=false∧w.frozen? ⟨g,9,none⟩=false:=⟨h.frozen 0,h.frozen 1,h.frozen 2,h.frozen 3,h.frozen 4,h.frozen 5,h.frozen 6,h.frozen 7,h.frozen 8,h.frozen 9⟩
theorem aj.f12 (h:aj w g t cs):w.frozen? ⟨g,0,none⟩=false∧w.frozen? ⟨g,1,none⟩=false∧w.frozen? ⟨g,2,none⟩=false∧w.frozen? ⟨g,3,none⟩=false∧w.frozen? ⟨g,4,none⟩=false∧w.frozen? ⟨g,5,none⟩=false∧w.frozen? ⟨g,6,none⟩=false∧w.frozen? ⟨g,7,none⟩=false∧w.frozen? ⟨g,8,none⟩=false∧w.frozen? ⟨g,9,none⟩=false∧w.frozen? ⟨g,10,none⟩=false∧w.frozen? ⟨g,11,none⟩=false:=⟨h.frozen 0,h.frozen 1,h.frozen 2,h.frozen 3,h.frozen 4,h.frozen 5,h.frozen 6,h.frozen 7,h.frozen 8,h.frozen 9,h.frozen 10,h.frozen 11⟩
theorem aj.f15 (h:aj w g t cs):w.frozen? ⟨g,0,none⟩=false∧w.frozen? ⟨g,1,none⟩=false∧w.frozen? ⟨g,2,none⟩=false∧w.frozen? ⟨g,3,none⟩=false∧w.frozen? ⟨g,4,none⟩=false∧w.frozen? ⟨g,5,none⟩=false∧w.frozen? ⟨g,6,none⟩=false∧w.frozen? ⟨g,7,none⟩=false∧w.frozen? ⟨g,8,none⟩=false∧w.frozen? ⟨g,9,none⟩=false∧w.frozen? ⟨g,10,none⟩=false∧w.frozen? ⟨g,11,none⟩=false∧w.frozen? ⟨g,12,none⟩=false∧w.frozen? ⟨g,13,none⟩=false∧w.frozen? ⟨g,14,none⟩=false:=⟨h.frozen 0,h.frozen 1,h.frozen 2,h.frozen 3,h.frozen 4,h.frozen 5,h.frozen 6,h.frozen 7,h.frozen 8,h.frozen 9,h.frozen 10,h.frozen 11,h.frozen 12,h.frozen 13,h.frozen 14⟩
end
end Go.Proofs.YtgiaobmcbbfmnaaGreatDoor
