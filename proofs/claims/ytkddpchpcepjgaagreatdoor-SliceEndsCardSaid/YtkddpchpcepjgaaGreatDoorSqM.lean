/- A table's laws: who is there is found where it stands; a free place is found; what writes leave. No program in sight. -/
import Derived.Test.YtkddpchpcepjgaaGreatDoorTabP
import Derived.Deep.RegionHeld3
import Derived.Deep.Cut
import Derived.Deep.CutRange
import Derived.Deep.RegionWith
import Derived.BigRegion
import Derived.StillTailTactics
namespace Go.Proofs.YtkddpchpcepjgaaGreatDoor.cu
open Go
theorem zz:type_of% @List.getElem?_eq_some_iff:=@List.getElem?_eq_some_iff
theorem ZD:type_of% @List.length_append:=@List.length_append
theorem qf:type_of% @Nat.le_trans:=@Nat.le_trans
theorem qt:type_of% @World.block_lt_of_cell?:=@World.block_lt_of_cell?
theorem Q4:type_of% @Nat.zero_le:=@Nat.zero_le
theorem yk:type_of% @Bool.and_eq_true:=@Bool.and_eq_true
theorem xy:type_of% @Bool.eq_iff_iff:=@Bool.eq_iff_iff
theorem xN:type_of% @World.size_alloc:=@World.size_alloc
theorem Kf:type_of% @decide_eq_true_eq:=@decide_eq_true_eq
theorem vh:type_of% @Nat.two_pow_pos:=@Nat.two_pow_pos
variable {α : Type} {hash i j k key s : Nat} {gs : Tab} {e : ay} {G : lU}
theorem GV {p:α->Bool}{l:List α}(h:l.findIdx? p=some k):∃x,l[k]?=some x/\p x=true/\∀j y,j<k->l[j]?=some y->p y=false:=by
 obtain⟨hk,hp,hn⟩:=xe.1 h;refine⟨l[k],zg hk,hp,λj y hj hy=> ?_⟩;obtain⟨hj2,rfl⟩:=zz.1 hy;simpa using hn j hj
theorem Ou {p:α->Bool}{l:List α}(h:l.findIdx? p=none):∀x∈l,p x=false:=by
 intro x hx;have:=k7.1 h x hx;simpa using this
theorem adR {p:α->Bool}{l:List α}{x:α}(hx:l[k]?=some x)(hp:p x=true)(hu:∀j y,l[j]?=some y->p y=true->j=k):l.findIdx? p=some k:=by
 cases h:l.findIdx? p with
 |none=>
  have:=Ou h x (zE hx);rw[hp]at this;cases this
 |some j=>
  obtain⟨y,h1,h2,_⟩:=GV h;rw[hu j y h1 h2]
structure Ah (gs:Tab):Prop where
 wide:rE gs
 pow:Pw gs.length
 uniq:∀i s i' s' e e',aH gs i s= .full e->aH gs i' s'= .full e'->e.key=e'.key->i=i'/\s=s'
 reach:∀i s e,aH gs i s= .full e->∃j,j<gs.length/\dx (e.hash/128) gs.length j=i/\∀j',j'<j->dP (gs.getD (dx (e.hash/128) gs.length j') [])=false
theorem full_of {x:Slot}(h:x.isKey key hash=true):∃e,x= .full e/\e.key=key/\e.hash % 128=hash % 128:=by
 cases x with
 |full e=>simp[Slot.isKey]at h;exact⟨e,rfl,h.2,h.1⟩
 |_=>simp[Slot.isKey]at h
theorem IY (h:iL (gs.getD i []) key hash=some s):∃e,aH gs i s= .full e/\e.key=key/\e.hash % 128=hash % 128:=by
 obtain⟨x,h1,h2,_⟩:=GV h;obtain⟨e,rfl,h3,h4⟩:=full_of h2;obtain⟨hs,hx⟩:=zz.1 h1;refine⟨e, ?_,h3,h4⟩;unfold aH;rw[getD_in hs,hx]
theorem Le {x:Slot}(h:(gs.getD i [])[s]?=some x):aH gs i s=x:=by
 obtain⟨hs,hx⟩:=zz.1 h;unfold aH;rw[getD_in hs,hx]
theorem AX (gs:Tab)(key hash:Nat):∀f j fr i s,(jA gs key hash f j fr).1=some (i,s)->∃e,aH gs i s= .full e/\e.key=key/\e.hash % 128=hash % 128
 |0,_,_,_,_,h=>by simp[jA]at h
 |f+1,j,fr,i,s,h=>by
  unfold jA at h;simp only at h;split at h
  ·next s' hs'=>
   injection h with h
   injection h with h1 h2
   subst h1 h2;exact IY hs'
  ·split at h
   ·cases h
   ·exact AX gs key hash f (j+1) _ i s h
theorem IZ (h:(aJ gs key hash).1=some (i,s)):∃e,aH gs i s= .full e/\e.key=key/\e.hash % 128=hash % 128:=AX gs key hash _ _ _ i s h
theorem AY (hT:Ah gs)(he:aH gs i s= .full e){t:Nat}(ht:dx (e.hash/128) gs.length t=i)(hm:∀j,j<t->dx (e.hash/128) gs.length j≠i)(hc:∀j,j<t->dP (gs.getD (dx (e.hash/128) gs.length j) [])=false):∀f j fr,j<=t->t<j+f->(jA gs e.key e.hash f j fr).1=some (i,s)
 |0,_,_,h1,h2=>by omega
 |f+1,j,fr,h1,h2=>by
  unfold jA;simp only;by_cases hj:j=t
  ·subst hj;rw[ht]
   have:iL (gs.getD i []) e.key e.hash=some s:=by
    have hl:=(lu (gs:=gs) (i:=i) (s:=s) (by rw[he];exact λh=>by cases h)).2;refine adR (BQ hl) (by rw[he];simp[Slot.isKey]) λk y hy hp=> ?_;obtain⟨e',rfl,h3,_⟩:=full_of hp;exact(hT.uniq i k i s e' e (Le hy) he h3).2
   rw[this]
  ·have hn:iL (gs.getD (dx (e.hash/128) gs.length j) []) e.key e.hash=none:=by
    cases h:iL (gs.getD (dx (e.hash/128) gs.length j) []) e.key e.hash with
    |none=>rfl
    |some k=>
     obtain⟨e',h3,h4,_⟩:=IY h;exact absurd (hT.uniq _ _ _ _ e' e h3 he h4).1 (hm j (by omega))
   rw[hn];simp only;rw[if_neg (by rw[hc j (by omega)];simp)];exact AY hT he ht hm hc f (j+1) _ (by omega) (by omega)
theorem ZA {p:Nat->Prop}(h:p j):∃t,t<=j/\p t/\∀k,k<t->¬p k:=by
 induction j using Nat.strongRecOn with
 |ind j ih=>
  by_cases hk:∃k,k<j/\p k
  ·obtain⟨k,hk,hp⟩:=hk;obtain⟨t,h1,h2,h3⟩:=ih k hk hp;exact⟨t,by omega,h2,h3⟩
  ·exact⟨j,zb _,h,λk hkj hp=>hk ⟨k,hkj,hp⟩⟩
theorem Um (hT:Ah gs)(he:aH gs i s= .full e):(aJ gs e.key e.hash).1=some (i,s):=by
 obtain⟨j,hj,hw,hc⟩:=hT.reach i s e he;obtain⟨t,h1,h2,h3⟩:=ZA (p:=λj=>dx (e.hash/128) gs.length j=i) hw;exact AY hT he h2 h3 (λk hk=>hc k (by omega)) _ _ _ (Q4 _) (by omega)
theorem rV (h:∀e∈aM gs,e.key≠key):(aJ gs key hash).1=none:=by
 cases hs:(aJ gs key hash).1 with
 |none=>rfl
 |some x=>
  obtain⟨e,h1,h2,_⟩:=IZ (i:=x.1) (s:=x.2) hs;exact absurd h2 (h e (rU.2 ⟨_,_,h1⟩))
def wu (gs:Tab)(hash i s:Nat):Prop:=
 i<gs.length/\s<(gs.getD i []).length/\(aH gs i s).isFull=false/\∃j,j<gs.length/\dx (hash/128) gs.length j=i/\∀j',j'<j->dP (gs.getD (dx (hash/128) gs.length j') [])=false
theorem Wq (h:dP G=true):∃s,mg G=some s:=by
 unfold dP at h;obtain⟨x,hx,he⟩:=QR.1 h
 cases hf:mg G with
 |some s=>exact⟨s,rfl⟩
 |none=>
  have:=Ou hf x hx
  cases x<;>simp_all[Slot.isEmpty,Slot.isFull]
theorem free_at (hn:0<gs.length)(hj:j<gs.length)(hs:mg (gs.getD (dx (hash/128) gs.length j) [])=some s)(hc:∀j',j'<j->dP (gs.getD (dx (hash/128) gs.length j') [])=false):
  wu gs hash (dx (hash/128) gs.length j) s:=by
 obtain⟨x,h1,h2,_⟩:=GV hs;obtain⟨hlt,_⟩:=zz.1 h1;refine⟨kA _ hn,hlt, ?_,j,hj,rfl,hc⟩;rw[Le h1];simpa using h2
theorem CX (hn:0<gs.length):∀f j fr,j+f=gs.length->
  (∀j',j'<j->dP (gs.getD (dx (hash/128) gs.length j') [])=false)->
  (match fr with|some x=>wu gs hash x.1 x.2|none=>∀j',j'<j->mg (gs.getD (dx (hash/128) gs.length j') [])=none)->
  (∃j,j<gs.length/\dP (gs.getD (dx (hash/128) gs.length j) [])=true)->
  (jA gs key hash f j fr).1=none->∃i s,(jA gs key hash f j fr).2.1=some (i,s)/\wu gs hash i s
 |0,j,fr,hj,hc,hf,ho,_=>by
  cases fr with
  |some x=>exact⟨x.1,x.2,rfl,hf⟩
  |none=>
   obtain⟨j',h1,h2⟩:=ho;have:=hc j' (by omega);rw[this]at h2;cases h2
 |f+1,j,fr,hj,hc,hf,ho,hnone=>by
  have hfr:∀fr',fr'=je fr (dx (hash/128) gs.length j) (gs.getD (dx (hash/128) gs.length j) [])->
    (match fr' with|some x=>wu gs hash x.1 x.2|none=>∀j',j'<j+1->mg (gs.getD (dx (hash/128) gs.length j') [])=none):=by
   intro fr' GX
   cases fr with
   |some x=>simp only[je]at GX;subst GX;exact hf
   |none=>
    simp only[je]at GX hf
    cases hg:mg (gs.getD (dx (hash/128) gs.length j) [])with
    |some s=>
     rw[hg]at GX;subst GX;exact free_at hn (by omega) hg hc
    |none=>
     rw[hg]at GX;subst GX;intro j' hj';by_cases he:j'=j
     ·rw[he];exact hg
     ·exact hf j' (by omega)
  unfold jA at hnone|-;simp only at hnone|-;generalize AZ:je fr (dx (hash/128) gs.length j) (gs.getD (dx (hash/128) gs.length j) [])=fr' at hnone|-;have hf':=hfr fr' AZ.symm
  cases hfind:iL (gs.getD (dx (hash/128) gs.length j) []) key hash with
  |some s=>rw[hfind]at hnone;cases hnone
  |none=>
   rw[hfind]at hnone;simp only at hnone|-
   cases hop:dP (gs.getD (dx (hash/128) gs.length j) [])with
   |true=>
    simp only[if_true]
    cases fr' with
    |some x=>exact⟨x.1,x.2,rfl,hf'⟩
    |none=>
     obtain⟨s,hs⟩:=Wq hop;rw[hf' j (by omega)]at hs;cases hs
   |false=>
    rw[hop]at hnone;simp only[yd,xx]at hnone|-
    exact CX hn f (j+1) fr' (by omega) (λj' hj'=>by
     by_cases he:j'=j
     ·rw[he];exact hop
     ·exact hc j' (by omega)) hf' ho hnone
theorem Ws (hn:Pw gs.length)(ho:∃i,i<gs.length/\dP (gs.getD i [])=true)(h:(aJ gs key hash).1=none):∃i s,(aJ gs key hash).2.1=some (i,s)/\wu gs hash i s:=by
 obtain⟨i,hi,hop⟩:=ho;obtain⟨j,hj,hw⟩:=Zz hn (hash/128) i hi;exact CX hn.pos gs.length 0 none (by omega) (λ_ h=>by omega) (λ_ h=>by omega) ⟨j,hj,by rw[hw];exact hop⟩ h
theorem zC (G:lU):(bX G).length+G.countP Slot.jg+G.countP Slot.isEmpty=G.length:=by
 induction G with
 |nil=>rfl
 |cons x t ih=>
  have e:(bX (x::t)).length=x.ents.length+(bX t).length:=by simp[bX]
  rw[e,xF,xF,ZS]
  cases x with
  |empty=>simp[Slot.ents,Slot.jg,Slot.isEmpty];omega
  |qP=>simp[Slot.ents,Slot.jg,Slot.isEmpty];omega
  |full e=>simp[Slot.ents,Slot.jg,Slot.isEmpty];omega
theorem I4 (G:lU)(gs:Tab):aM (G::gs)=bX G++aM gs:=by simp[aM]
theorem Ai (G:lU)(gs:Tab):fH (G::gs)=G.countP Slot.jg+fH gs:=by simp[fH]
theorem DF:∀{gs:Tab},rE gs->(aM gs).length+fH gs<8*gs.length->∃i,i<gs.length/\dP (gs.getD i [])=true
 | [],_,h=>by simp at h
 |G::gs,hw,h=>by
  cases ho:dP G with
  |true=>exact⟨0,by simp,by simpa using ho⟩
  |false=>
   have h0:G.countP Slot.isEmpty=0:=by
    rw[List.countP_eq_zero];intro x hx he;have:dP G=true:=QR.2 ⟨x,hx,he⟩;rw[ho]at this;cases this
   have h1:=zC G;have h2:=hw G (by simp);rw[I4,Ai,ZD,ZS]at h;obtain⟨i,hi,hop⟩:=DF (gs:=gs) (λx hx=>hw x (by simp[hx])) (by omega);exact⟨i+1,by simpa using hi,by simpa using hop⟩
theorem Wt (hw:rE gs):(aM gs).length+fH gs<=8*gs.length:=by
 induction gs with
 |nil=>simp[aM,fH]
 |cons G t ih=>
  have h1:=zC G;have h2:=hw G (by simp);have h3:=ih (λx hx=>hw x (by simp[hx]));rw[I4,Ai,ZD,ZS];omega
theorem Np {x:Slot}(hx:x.isEmpty=false)(h:dP G=false):dP (G.set s x)=false:=by
 unfold dP at h|-;rw[List.any_eq_false]at h|-;intro y hy;rcases kc hy with hy|rfl
 ·exact h y hy
 ·simp[hx]
theorem yF {x:Slot}(hi:i<gs.length)(hx:x.isEmpty=true->dP (gs.getD i [])=true)(h:dP (gs.getD k [])=false):dP ((putAt gs i s x).getD k [])=false:=by
 rw[IW gs i s x k hi];by_cases he:i=k
 ·subst he;rw[if_pos rfl];refine Np ?_ h
  cases hxe:x.isEmpty with
  |false=>rfl
  |true=>rw[hx hxe]at h;cases h
 ·rw[if_neg he];exact h
theorem acP (hT:Ah gs)(hf:wu gs e.hash i s)(hk:∀x∈aM gs,x.key≠e.key):Ah (putAt gs i s (.full e)):=by
 obtain⟨hi,hs,_,j,hj,hw,hc⟩:=hf;refine⟨hT.wide.put _ _ _,by rw[iO];exact hT.pow,λa b a' b' x x' h1 h2 h3=> ?_,λa b x h1=> ?_⟩
 ·rw[mh gs i s _ _ _ hi hs]at h1 h2
  by_cases c1:i=a/\s=b<;>by_cases c2:i=a'/\s=b'
  ·exact⟨by omega,by omega⟩
  ·rw[if_pos c1]at h1;rw[if_neg c2]at h2
   injection h1 with h1;subst h1
   exact absurd h3.symm (hk x' (rU.2 ⟨_,_,h2⟩))
  ·rw[if_neg c1]at h1;rw[if_pos c2]at h2
   injection h2 with h2;subst h2
   exact absurd h3 (hk x (rU.2 ⟨_,_,h1⟩))
  ·rw[if_neg c1]at h1;rw[if_neg c2]at h2;exact hT.uniq _ _ _ _ _ _ h1 h2 h3
 ·rw[mh gs i s _ _ _ hi hs]at h1;rw[iO]
  have hE:(Slot.full e).isEmpty=true->dP (gs.getD i [])=true:=λh=>by cases h
  by_cases c1:i=a/\s=b
  ·rw[if_pos c1]at h1
   injection h1 with h1;subst h1
   exact⟨j,hj,by rw[hw];exact c1.1,λk hk=>yF hi hE (hc k hk)⟩
  ·rw[if_neg c1]at h1;obtain⟨j1,h4,h5,h6⟩:=hT.reach a b x h1;exact⟨j1,h4,h5,λk hk=>yF hi hE (h6 k hk)⟩
theorem Wu (hT:Ah gs)(hi:i<gs.length)(hs:s<(gs.getD i []).length){x:Slot}(hx:x.isEmpty=true->dP (gs.getD i [])=true)(lC:∀e,x≠ .full e):Ah (putAt gs i s x):=by
 refine⟨hT.wide.put _ _ _,by rw[iO];exact hT.pow,λa b a' b' y y' h1 h2 h3=> ?_,λa b y h1=> ?_⟩
 ·rw[mh gs i s _ _ _ hi hs]at h1 h2;by_cases c1:i=a/\s=b
  ·rw[if_pos c1]at h1;exact absurd h1 (lC y)
  ·by_cases c2:i=a'/\s=b'
   ·rw[if_pos c2]at h2;exact absurd h2 (lC y')
   ·rw[if_neg c1]at h1;rw[if_neg c2]at h2;exact hT.uniq _ _ _ _ _ _ h1 h2 h3
 ·rw[mh gs i s _ _ _ hi hs]at h1;rw[iO];by_cases c1:i=a/\s=b
  ·rw[if_pos c1]at h1;exact absurd h1 (lC y)
  ·rw[if_neg c1]at h1;obtain⟨j1,h4,h5,h6⟩:=hT.reach a b y h1;exact⟨j1,h4,h5,λk hk=>yF hi hx (h6 k hk)⟩
theorem Rv (hT:Ah gs){e':ay}(he:aH gs i s= .full e)(hk:e'.key=e.key)(hh:e'.hash=e.hash):Ah (putAt gs i s (.full e')):=by
 obtain⟨hi,hs⟩:=lu (gs:=gs) (i:=i) (s:=s) (by rw[he];exact λh=>by cases h);refine⟨hT.wide.put _ _ _,by rw[iO];exact hT.pow,λa b a' b' x x' h1 h2 h3=> ?_,λa b x h1=> ?_⟩
 ·rw[mh gs i s _ _ _ hi hs]at h1 h2
  by_cases c1:i=a/\s=b<;>by_cases c2:i=a'/\s=b'
  ·exact⟨by omega,by omega⟩
  ·rw[if_pos c1]at h1;rw[if_neg c2]at h2
   injection h1 with h1;subst h1
   have:=hT.uniq _ _ _ _ _ _ he h2 (hk▸h3);omega
  ·rw[if_neg c1]at h1;rw[if_pos c2]at h2
   injection h2 with h2;subst h2
   have:=hT.uniq _ _ _ _ _ _ h1 he (by rw[h3,hk]);omega
  ·rw[if_neg c1]at h1;rw[if_neg c2]at h2;exact hT.uniq _ _ _ _ _ _ h1 h2 h3
 ·rw[mh gs i s _ _ _ hi hs]at h1;rw[iO]
  have hE:(Slot.full e').isEmpty=true->dP (gs.getD i [])=true:=λh=>by cases h
  by_cases c1:i=a/\s=b
  ·rw[if_pos c1]at h1
   injection h1 with h1;subst h1
   obtain⟨j1,h4,h5,h6⟩:=hT.reach i s e he;rw[hh];exact⟨j1,h4,by rw[h5];exact c1.1,λk hk=>yF hi hE (h6 k hk)⟩
  ·rw[if_neg c1]at h1;obtain⟨j1,h4,h5,h6⟩:=hT.reach a b x h1;exact⟨j1,h4,h5,λk hk=>yF hi hE (h6 k hk)⟩
def bare (n:Nat):Tab:=List.replicate n (List.replicate 8 .empty)
theorem Aj (n i s:Nat):aH (bare n) i s= .empty:=by
 unfold aH bare;by_cases hi:i<n
 ·rw[getD_in (l:=List.replicate n (List.replicate 8 Slot.empty)) (by simpa using hi),List.getElem_replicate];by_cases hs:s<8
  ·rw[getD_in (by simpa using hs),List.getElem_replicate]
  ·rw[BP (by simp;omega)]
 ·rw[BP (l:=List.replicate n _) (by simp;omega)];rfl
theorem Ov {n:Nat}(h:Pw n):Ah (bare n):=by
 refine⟨λG hG=> ?_,by simpa[bare]using h,λi s i' s' e e' h1=> ?_,λi s e h1=> ?_⟩
 ·unfold bare at hG;rw[(vd.1 hG).2];simp
 ·rw[Aj]at h1;cases h1
 ·rw[Aj]at h1;cases h1
end Go.Proofs.YtkddpchpcepjgaaGreatDoor.cu

/-! What a hash says, and in which order groups are looked at, by their contracts. -/
namespace Go.Proofs.YtkddpchpcepjgaaGreatDoor
open Go.RowKit cu
variable {d h n : Nat}
set_option maxHeartbeats 400000 in
theorem ZB (h:Nat)(w:World):Calls Tryz.prog 156 #[nU h] w λe w'=>e= .returned (.int .u64 ((h/128:Nat):Int))/\w=w':=by
 go_in;go_wp2;go_ret;exact⟨AU (by omega),rfl⟩
theorem adS (h64:h<18446744073709551616):bits .and .u64 (h:Int) 127=((h % 128:Nat):Int):=by
 have:=bits_and_u64_nat h 127 h64 (by decide);rw[show(127:Nat)=2^7-1 by decide,Nat.and_two_pow_sub_one_eq_mod]at this;exact this
set_option maxHeartbeats 400000 in
theorem Ow (h:Nat)(h64:h<18446744073709551616)(w:World):Calls Tryz.prog 203 #[nU h] w λe w'=>e= .returned (.int .u8 ((h % 128:Nat):Int))/\w=w':=by
 have HV:=qd (adS h64);clear h64;go_in;go_wp2;go_ret;exact⟨by rw[HV.o];refine iE ?_;omega,rfl⟩
set_option maxHeartbeats 400000 in
theorem BR (d:Nat)(hd:d<=16)(w:World):Calls Tryz.prog 151 #[nI d] w λe w'=>e= .returned (.bool true)/\w=w':=by
 have h':(d:Int)<=16:=by omega
 go_in;go_wp2;go_ret;exact⟨rfl,rfl⟩
def eu (h d:Nat):Nat:=h/2^(64-d)
def vM (h d:Nat):Nat:=h/2^(63-d) % 2
theorem BS (h64:h<18446744073709551616)(hd:d<=16):eu h d<2^d:=by
 unfold eu;rw[Nat.div_lt_iff_lt_mul (vh _),<-Nat.pow_add,show d+(64-d)=64 by omega];exact h64
theorem Un (hd:d<=16):2^d<=65536:=by
 have:=xa (n:=2) (by omega) hd;exact this
theorem Kn (h k:Nat):(h:Int)/2^k=((h/2^k:Nat):Int):=by simp
set_option maxHeartbeats 400000 in
theorem Lf (h d:Nat)(h64:h<18446744073709551616)(hd:d<=16)(w:World):Calls Tryz.prog 146 #[nU h,nI d] w λe w'=>e= .returned (.tuple #[.int .i64 ((eu h d:Nat):Int),.nilIface])/\w=w':=by
 have HD:=qd (BR d hd w);have hlt:=BS h64 hd;have hp:=Un hd
 have h1:(0:Int)<=64-(d:Int):=by omega
 have h2:(64:Int)-(d:Int)<=64:=by omega
 have h3:((64:Int)-(d:Int)).toNat=64-d:=by omega
 have HV:=qd (show(h:Int)/2^(64-d)=((eu h d:Nat):Int)from Kn h (64-d))
 have hb:(h:Int)/2^(64-d)<65536:=by rw[HV.o];omega
 have hb0:0<=(h:Int)/2^(64-d):=by rw[HV.o];omega
 clear hlt hp h64;go_in;go_wp2_with fail;refine HD.o.mono ?_;rintro e w1 ⟨rfl,rfl⟩;go_wp2;rw[HV.o];go_ret2;exact⟨rfl,rfl⟩
theorem acQ (x:Nat)(hx:x<18446744073709551616):bits .and .u64 (x:Int) 1=((x % 2:Nat):Int):=by
 have:=bits_and_u64_nat x 1 hx (by decide);rw[Nat.and_one_is_mod]at this;exact this
set_option maxHeartbeats 400000 in
theorem Wv (h d:Nat)(h64:h<18446744073709551616)(hd:d<=15)(w:World):Calls Tryz.prog 226 #[nU h,nI d] w λe w'=>e= .returned (.tuple #[.int .i64 ((vM h d:Nat):Int),.nilIface])/\w=w':=by
 have HD:=qd (BR d (by omega) w)
 have h1:(0:Int)<=63-(d:Int):=by omega
 have h2:(63:Int)-(d:Int)<=64:=by omega
 have h3:((63:Int)-(d:Int)).toNat=63-d:=by omega
 have hlt:h/2^(63-d)<18446744073709551616:=Nat.lt_of_le_of_lt (Nat.div_le_self _ _) h64;have HV:=qd (show bits .and .u64 ((h:Int)/2^(63-d)) 1=((vM h d:Nat):Int)from by rw[Kn];exact acQ _ hlt)
 have hb:bits .and .u64 ((h:Int)/2^(63-d)) 1<2:=by rw[HV.o];unfold vM;omega
 have hb0:0<=bits .and .u64 ((h:Int)/2^(63-d)) 1:=by rw[HV.o];omega
 clear hlt h64;go_in;go_wp2_with fail;refine HD.o.mono ?_;rintro e w1 ⟨rfl,rfl⟩;go_wp2;rw[HV.o];go_ret2;exact⟨rfl,rfl⟩
set_option maxHeartbeats 400000 in
theorem Ko (p d:Nat)(hd:d<=16)(hp:p<2^d)(w:World):Calls Tryz.prog 115 #[nI p,nI d] w λe w'=>e= .returned (.bool true)/\w=w':=by
 have HD:=qd (BR d hd w)
 have h1:(d:Int)<=64:=by omega
 have hpw:=Un hd
 have e:((2:Int)^d)=((2^d:Nat):Int):=by simp
 have h2:(p:Int)<2^d:=by rw[e];omega
 have h3:(2:Int)^d<=65536:=by rw[e];omega
 have h4:(0:Int)<=2^d:=by rw[e];omega
 clear hp hpw e;go_in;go_wp2_with fail;refine HD.o.mono ?_;rintro e w1 ⟨rfl,rfl⟩;go_wp2;go_ret;exact⟨rfl,rfl⟩
def oK (p d:Nat):Nat:=p*2^(64-d)
def mq (p d:Nat):Nat:=p*2^(64-d)+(2^(64-d)-1)
theorem BU {p:Nat}(hd:d<=16)(hp:p<2^d):oK p d+2^(64-d)<=18446744073709551616:=by
 unfold oK;have:(p+1)*2^(64-d)<=2^d*2^(64-d):=xt _ hp;rw[<-Nat.pow_add,show d+(64-d)=64 by omega,Nat.add_mul,Nat.one_mul]at this;exact this
set_option maxHeartbeats 400000 in
theorem DI (p d:Nat)(hd:d<=16)(hp:p<2^d)(w:World):Calls Tryz.prog 90 #[nI p,nI d] w λe w'=>e= .returned (.tuple #[.int .u64 ((oK p d:Nat):Int),.nilIface])/\w=w':=by
 have HD:=qd (Ko p d hd hp w)
 have h1:(0:Int)<=64-(d:Int):=by omega
 have h2:(64:Int)-(d:Int)<=64:=by omega
 have h3:((64:Int)-(d:Int)).toNat=64-d:=by omega
 have hlt:=BU hd hp;have hpos:=vh (64-d);have hpw:=Un hd
 have hp1:(p:Int)<65536:=by omega
 have HV:=qd (show IntKind.u64.wrap ((p:Int)*2^(64-d))=((oK p d:Nat):Int)from by
  rw[show(p:Int)*2^(64-d)=((oK p d:Nat):Int) by simp[oK]]
  exact yD (by omega))
 clear hlt hpos hpw hp hd;go_in;go_wp2_with fail;refine HD.o.mono ?_;rintro e w1 ⟨rfl,rfl⟩;go_wp2;rw[HV.o];go_ret2;exact⟨rfl,rfl⟩
theorem adT {a k b:Nat}(hb:b<2^k):a*2^k|||b=a*2^k+b:=by
 have:=Nat.shiftLeft_add_eq_or_of_lt hb a;rw[Nat.shiftLeft_eq]at this;exact this.symm
theorem ZC (hd:d<=16):18446744073709551615/2^d=2^(64-d)-1:=by
 have H:∀d:Fin 17,18446744073709551615/2^d.val=2^(64-d.val)-1:=by decide+kernel
 exact H ⟨d,by omega⟩
set_option maxHeartbeats 400000 in
theorem Uo (p d:Nat)(hd:d<=16)(hp:p<2^d)(w:World):Calls Tryz.prog 190 #[nI p,nI d] w λe w'=>e= .returned (.tuple #[.int .u64 ((mq p d:Nat):Int),.nilIface])/\w=w':=by
 have HD:=qd (DI p d hd hp w)
 have h1:(d:Int)<=64:=by omega
 have hlt:=BU hd hp;have hpos:=vh (64-d)
 have HV:=qd (show bits .or .u64 ((oK p d:Nat):Int) (18446744073709551615/2^d)=((mq p d:Nat):Int)from by
  have e:(18446744073709551615:Int)/2^d=((2^(64-d)-1:Nat):Int):=by
   rw[<-ZC hd];exact Kn 18446744073709551615 d
  rw[e,bits_or_u64_nat _ _ (by omega) (by omega)];unfold oK mq
  rw[adT (by omega)])
 clear hlt hpos hp hd;go_in;go_wp2_with fail;refine HD.o.mono ?_;rintro e w1 ⟨rfl,rfl⟩;go_wp2;rw[HV.o];go_ret2;exact⟨rfl,rfl⟩
theorem acR (h:Pw n):bits .and .i64 (n:Int) ((n:Int)-1)=0:=by
 unfold Pw at h
 rcases h with rfl|rfl|rfl|rfl|rfl|rfl|rfl<;>decide
set_option maxHeartbeats 400000 in
theorem Rw (n:Nat)(h:Pw n)(w:World):Calls Tryz.prog 152 #[nI n] w λe w'=>e= .returned (.bool true)/\w=w':=by
 have h1:(1:Int)<=(n:Int):=by have:=h.pos;omega
 have h2:(n:Int)<=64:=by have:=h.le;omega
 have hV:=acR h;clear h;go_in;go_wp2;go_ret;exact⟨rfl,rfl⟩
theorem adU (h:Pw n):∃k,n=2^k:=by
 unfold Pw at h;rcases h with rfl|rfl|rfl|rfl|rfl|rfl|rfl
 ·exact⟨0,rfl⟩
 ·exact⟨1,rfl⟩
 ·exact⟨2,rfl⟩
 ·exact⟨3,rfl⟩
 ·exact⟨4,rfl⟩
 ·exact⟨5,rfl⟩
 ·exact⟨6,rfl⟩
theorem ZE (h64:h<18446744073709551616)(hn:Pw n):bits .and .u64 (h:Int) ((n:Int)-1)=((h % n:Nat):Int):=by
 obtain⟨k,rfl⟩:=adU hn;have hle:=hn.le;have hpos:=hn.pos;have:=bits_and_u64_nat h (2^k-1) h64 (by omega);rw[Nat.and_two_pow_sub_one_eq_mod]at this;rw[show((2^k:Nat):Int)-1=((2^k-1:Nat):Int) by omega];exact this
set_option maxHeartbeats 400000 in
theorem Uq (h n:Nat)(h64:h<18446744073709551616)(hn:Pw n)(w:World):Calls Tryz.prog 198 #[nU h,nI n] w λe w'=>e= .returned (.int .i64 ((h % n:Nat):Int))/\w=w':=by
 have h1:(1:Int)<=(n:Int):=by have:=hn.pos;omega
 have h2:(n:Int)<=64:=by have:=hn.le;omega
 have hV:=ZE h64 hn
 have hm:((h % n:Nat):Int)<64:=by have:=kA h hn.pos;omega
 clear hn h64;go_in;go_wp2;go_ret;exact⟨iE (by omega),rfl⟩
def bO (a b:ay):Bool:=decide (a.hash<b.hash)||(a.hash==b.hash && decide (a.key<b.key))
set_option maxHeartbeats 400000 in
theorem Lg (a:Nat)(w:World):Calls Tryz.prog 149 #[nU a] w λe w'=>e= .returned (.bool false)/\w=w':=by
 go_in;go_wp2;go_ret;exact⟨by simp,rfl⟩
def Ox (a b:Nat):Int:=if a<b then-1 else if b<a then 1 else 0
set_option maxHeartbeats 400000 in
theorem acS (a b:Nat)(w:World):Calls Tryz.prog 113 #[nU a,nU b] w λe w'=>e= .returned (.int .i64 (Ox a b))/\w=w':=by
 have HA:=qd (Lg a w);have HB:=qd (Lg b w);have HC:=qd (show Ox a b=if a<b then-1 else if b<a then 1 else 0 from rfl)
 have K:(a:Int)<b\/(¬(a:Int)<b/\(b:Int)<a)\/(¬(a:Int)<b/\¬(b:Int)<a):=by omega
 rcases K with h|⟨h,h2⟩|⟨h,h2⟩
 ·go_in;go_wp2_with fail;refine HA.o.mono ?_;rintro e w1 ⟨rfl,rfl⟩;go_wp2_with fail;refine HB.o.mono ?_;rintro e w1 ⟨rfl,rfl⟩;go_wp2;go_ret;exact⟨iE (by rw[HC.o,if_pos (by omega)]),rfl⟩
 ·go_in;go_wp2_with fail;refine HA.o.mono ?_;rintro e w1 ⟨rfl,rfl⟩;go_wp2_with fail;refine HB.o.mono ?_;rintro e w1 ⟨rfl,rfl⟩;go_wp2;go_ret;exact⟨iE (by rw[HC.o,if_neg (by omega),if_pos (by omega)]),rfl⟩
 ·go_in;go_wp2_with fail;refine HA.o.mono ?_;rintro e w1 ⟨rfl,rfl⟩;go_wp2_with fail;refine HB.o.mono ?_;rintro e w1 ⟨rfl,rfl⟩;go_wp2;go_ret;exact⟨iE (by rw[HC.o,if_neg (by omega),if_neg (by omega)]),rfl⟩
def orI (a b:Int):Int:=if a=0 then b else a
set_option maxHeartbeats 400000 in
theorem acT (g:Nat)(a b:Int)(w:World)(h0:w.cell? ⟨g,0,none⟩=some (.int .i64 a))(h1:w.cell? ⟨g,1,none⟩=some (.int .i64 b)):
  Calls Tryz.prog 246 #[.slice (some ⟨g,0,none⟩) 2 2] w λe w'=>e= .returned (.int .i64 (orI a b))/\w=w':=by
 have HO:=qd (show orI a b=if a=0 then b else a from rfl);go_in;go_wp2;go_loop [5,8] (λ_ i=>∃k:Nat,k<=2/\i= .int .i64 k/\(0<k->a=0)/\(1<k->b=0)) (λ_ i=>2-(intOf i).toNat)
 case atStart=>exact⟨0,by omega,rfl,by omega,by omega⟩
 case round=>
  obtain⟨k,hk,rfl,ha,hb⟩:=hrel
  have K:k=0\/k=1\/k=2:=by omega
  rcases K with rfl|rfl|rfl
  ·clear ha hb
   cases hz:(a !=0)with
   |true=>
    go_wp2;go_ret;exact⟨iE (by rw[HO.o,if_neg (by simpa using hz)]),rfl⟩
   |false=>
    go_wp2;go_round
    case rel=>exact⟨1,by omega,rfl,λ_=>by simpa using hz,by omega⟩
    case measure=>simp[intOf]
  ·have HA:=qd (ha (by omega));clear ha hb
   cases hz:(b !=0)with
   |true=>
    go_wp2;go_ret;exact⟨iE (by rw[HO.o,if_pos HA.o]),rfl⟩
   |false=>
    go_wp2;go_round
    case rel=>exact⟨2,by omega,rfl,λ_=>HA.o,λ_=>by simpa using hz⟩
    case measure=>simp[intOf]
  ·have HA:=qd (ha (by omega));have HB:=qd (hb (by omega));clear ha hb;go_wp2;go_ret;exact⟨iE (by rw[HO.o,if_pos HA.o,HB.o]),rfl⟩
theorem ZF (a b:ay):decide (orI (Ox a.hash b.hash) (Ox a.key b.key)<0)=bO a b:=by
 unfold orI Ox bO;rw[xy];simp only[Kf,Bool.or_eq_true,yk,x7];by_cases h1:a.hash<b.hash
 ·simp[h1]
 ·by_cases h2:b.hash<a.hash
  ·simp[h1,h2];omega
  ·have:a.hash=b.hash:=by omega
   simp[this];by_cases h3:a.key<b.key
   ·simp[h3]
   ·by_cases h4:b.key<a.key
    ·simp[h3,h4]
    ·simp[h3,h4]
theorem Oy {W:World}{o:Obj}{a:Addr}{v:Value}(h:W.cell? a=some v):(W.alloc o).cell? a=some v:=(World.cell?_alloc_lt W o a (qt W a h)).trans h
def aP (e:ay):Value:= .agg #[nU e.key,nU e.val,nU e.hash]
def aU (e:ay):List Value:=[nU e.key,nU e.val,nU e.hash]
set_option maxHeartbeats 2000000 in
theorem kW (a b:ay)(w:World):Calls Tryz.prog 225 #[aP a,aP b] w λe w'=>e= .returned (.bool (bO a b))/\Below w.heap.size w w':=by
 have HL:=qd (ZF a b);have HC:=qd (λ(x y:Nat) (W:World)=>acS x y W);unfold aP;have hA:=aj.alloc (aj.new w 67 #[nU a.key,nU a.val,nU a.hash]) (.cells #[nU b.key,nU b.val,nU b.hash] 67);have hB:=aj.new (w.alloc (.cells #[nU a.key,nU a.val,nU a.hash] 67)) 67 #[nU b.key,nU b.val,nU b.hash];have hBel:Below w.heap.size w ((w.alloc (.cells #[nU a.key,nU a.val,nU a.hash] 67)).alloc (.cells #[nU b.key,nU b.val,nU b.hash] 67)):=((Below.refl _ w).alloc (zb _) _).alloc (by simp) _;rw[xN]at hB;obtain⟨W,hW⟩:∃W,W=(w.alloc (.cells #[nU a.key,nU a.val,nU a.hash] 67)).alloc (.cells #[nU b.key,nU b.val,nU b.hash] 67):=⟨_,rfl⟩;rw[<-hW]at hA hB hBel;have a0:=hA.cell 0;have a2:=hA.cell 2;have b0:=hB.cell 0;have b2:=hB.cell 2;simp only[gl]at a0 a2 b0 b2;have HW:=qd hW;clear hW hA hB;go_in;go_upto_region 1 with fail;rw[<-HW.o]
 go_region_held3 (λw'=>(w'.cell? ⟨w.heap.size,0,none⟩=some (nU a.key)/\w'.cell? ⟨w.heap.size,2,none⟩=some (nU a.hash)/\w'.cell? ⟨w.heap.size+1,0,none⟩=some (nU b.key)/\w'.cell? ⟨w.heap.size+1,2,none⟩=some (nU b.hash))/\Below w.heap.size w w')
  (first
   |(go_split_ands;refine⟨⟨?_, ?_, ?_, ?_⟩, ?_⟩<;>first|go_keep|assumption|exact Oy (by assumption)|exact Below.drew (by assumption)|exact Below.alloc (by assumption) (Below.size (by assumption)) _)
   |(refine⟨⟨?_, ?_, ?_, ?_⟩, ?_⟩<;>first|go_keep|assumption|exact Oy (by assumption)|exact Below.drew (by assumption)|exact Below.alloc (by assumption) (Below.size (by assumption)) _))
  (first
   |(go_at_call 113;refine(HC.o _ _ _).mono ?_;rintro e w3 ⟨rfl,rfl⟩)
   |(go_at_call 246;refine(acT _ _ _ _ ((aj.new _ _ _).cell 0) ((aj.new _ _ _).cell 1)).mono ?_;rintro e w3 ⟨rfl,rfl⟩))
 go_wp2;go_ret;exact⟨jw HL.o,(hBel.alloc hBel.size _).drew⟩
end Go.Proofs.YtkddpchpcepjgaaGreatDoor

/-! The meter by its contracts. -/
namespace Go.Proofs.YtkddpchpcepjgaaGreatDoor
open Go.RowKit cu
variable {w w' w1 w2 : World} {S T : List Nat} {A : Prop} {C : List Nat -> Prop}
structure Mod (S:List Nat)(w w':World):Prop where
 os:w'.os=w.os
 tape:w'.tape=w.tape
 output:w'.output=w.output
 size:w.heap.size<=w'.heap.size
 block:∀k,k<w.heap.size->k∉S->w'.heap[k]?=w.heap[k]?
theorem Mod.refl (S:List Nat)(w:World):Mod S w w:=⟨rfl,rfl,rfl,zb _,λ_ _ _=>rfl⟩
theorem Mod.of_below (h:Below w.heap.size w w')(S:List Nat):Mod S w w':=⟨h.os,h.tape,h.output,h.size,λk hk _=>h.block k hk⟩
theorem Mod.trans {U:List Nat}(h1:Mod S w w1)(h2:Mod T w1 w2)(hS:∀k,k∈S->k<w.heap.size->k∈U)(hT:∀k,k∈T->k<w.heap.size->k∈U):Mod U w w2:=
 ⟨h2.os.trans h1.os,h2.tape.trans h1.tape,h2.output.trans h1.output,qf h1.size h2.size,λk hk hn=>
  (h2.block k (yp hk h1.size) (λh=>hn (hT k h hk))).trans (h1.block k hk (λh=>hn (hS k h hk)))⟩
theorem Mod.then (h1:Mod S w w1)(h2:Mod S w1 w2):Mod S w w2:=h1.trans h2 (λ_ h _=>h) (λ_ h _=>h)
theorem Mod.more (h:Mod S w w')(hS:∀k,k∈S->k∈T):Mod T w w':=⟨h.os,h.tape,h.output,h.size,λk hk hn=>h.block k hk (λhh=>hn (hS k hh))⟩
theorem Mod.drewN (S:List Nat)(w:World)(n:Nat):Mod S w (w.drewN n):=⟨rfl,rfl,rfl,zb _,λ_ _ _=>rfl⟩
theorem Mod.alloc (h:Mod S w w')(o:Obj):Mod S w (w'.alloc o):=h.then (Mod.of_below ((Below.refl _ _).alloc (zb _) o) S)
theorem Mod.ak (h:Mod S w w'){b:Nat}(hb:b∈S\/w.heap.size<=b)(o:Nat)(u:Value):Mod S w (w'.setCell ⟨b,o,none⟩ u):=
 ⟨h.os,h.tape,h.output,by simpa using h.size,λk hk hn=>by
  have hne:k≠b:=by rintro rfl;rcases hb with hb|hb;exact hn hb;omega
  exact(Below.heap_setCell w' ⟨b,o,none⟩ u k hne).trans (h.block k hk hn)⟩
theorem Mod.below {B:Nat}(h:Mod S w w')(hS:∀k,k∈S->B<=k)(hB:B<=w.heap.size):Below B w w':=
 ⟨h.os,h.tape,h.output,h.size,λk hk=>h.block k (yp hk hB) (λhh=>absurd (hS k hh) (by omega))⟩
theorem Mod.yG (h:Mod [] w w'):Below w.heap.size w w':=h.below (by simp) (zb _)
theorem aj.mod {g:Nat}{t:TypeId}{cs:Array Value}(h:aj w g t cs)(hm:Mod S w w')(hg:g∉S):aj w' g t cs:=(hm.block g h.lt hg).trans h
class Md (A:Prop)(w w':World)(B:outParam Prop)(C:outParam (List Nat->Prop)):Prop where
 md:∀{S:List Nat},A->Mod S w w'->C S->B
theorem mv {B:Prop}[i:Md A w w' B C](hm:Mod S w w')(h:Hqq A)(hs:C S:=by simp<;>omega):Hqq B:=qd (i.md h.o hm hs)
theorem nb {B:Prop}[i:Md A w w' B C](hb:Below w.heap.size w w')(h:Hqq A)(hs:C []:=by simp):Hqq B:=qd (i.md h.o (Mod.of_below hb []) hs)
instance {w w':World}{g:Nat}{t:TypeId}{cs:Array Value}:Md (aj w g t cs) w w' (aj w' g t cs) (λS=>g∉S):=⟨λh hm hs=>aj.mod h hm hs⟩
structure bE where
 p:Int
 v:Int
 u:Int
def pK (n:Int):Int:=min (max n 0) 1099511627776
def tq (a b:Int):Int:=min (pK a+pK b) 1099511627776
def jN (a b:bE):bE:=⟨tq a.p b.p,tq a.v b.v,tq a.u b.u⟩
def nL (c:bE):Value:= .agg #[.int .i64 c.p,.int .i64 c.v,.int .i64 c.u]
theorem Lh (n:Int):0<=pK n/\pK n<=1099511627776:=by unfold pK;omega
set_option maxHeartbeats 400000 in
theorem FV (n:Int)(w:World):Calls Tryz.prog 148 #[.int .i64 n] w λe w'=>e= .returned (.int .i64 (pK n))/\w=w':=by
 have HC:=qd (show pK n=min (max n 0) 1099511627776 from rfl);go_in;go_wp2
 all_goals
  go_ret;exact⟨iE (by have hc:=HC.o;first|omega|(rw[hc];first|omega|(split at* <;>omega))),rfl⟩
theorem Ur {P:Program}{f:FuncId}{args:Array Value}{v:Value}(h:Calls P f args w λe w'=>e= .returned v/\w=w'):Calls P f args w λe w'=>e= .returned v/\w'=w:=h.mono λ_ _ ⟨a,b⟩=>⟨a,b.symm⟩
set_option maxHeartbeats 400000 in
theorem Ww (a b:Int)(w:World):Calls Tryz.prog 112 #[.int .i64 a,.int .i64 b] w λe w'=>e= .returned (.int .i64 (tq a b))/\w=w':=by
 have HA:=qd (FV a w);have HB:=qd (FV b w);have HC:=qd (show tq a b=min (pK a+pK b) 1099511627776 from rfl);obtain⟨a0,a1⟩:=Lh a;obtain⟨b0,b1⟩:=Lh b;go_in;go_wp2_with fail;refine HA.o.mono ?_;rintro e w1 ⟨rfl,rfl⟩;go_wp2_with fail;refine HB.o.mono ?_;rintro e w1 ⟨rfl,rfl⟩;go_wp2
 all_goals
  go_ret;exact⟨iE (by have hc:=HC.o;first|omega|(rw[hc];omega)),rfl⟩
set_option maxHeartbeats 2000000 in
set_option maxRecDepth 100000 in
theorem BX (c d:bE)(w:World):Calls Tryz.prog 83 #[nL c,nL d] w λe w'=>e= .returned (nL (jN c d))/\Below w.heap.size w w':=by
 have HS:=qd (λ(a b:Int) (W:World)=>Ww a b W);unfold nL jN;generalize hp:tq c.p d.p=sp;generalize hv:tq c.v d.v=sv;generalize hu:tq c.u d.u=su;have HP:=qd hp;have HV:=qd hv;have HU:=qd hu;clear hp hv hu;have hA:=aj.alloc (aj.alloc (aj.new w 93 #[.int .i64 c.p,.int .i64 c.v,.int .i64 c.u]) (.cells #[.int .i64 d.p,.int .i64 d.v,.int .i64 d.u] 93)) (.cells #[.int .i64 0,.int .i64 0,.int .i64 0] 93);have hB:=aj.alloc (aj.new (w.alloc (.cells #[.int .i64 c.p,.int .i64 c.v,.int .i64 c.u] 93)) 93 #[.int .i64 d.p,.int .i64 d.v,.int .i64 d.u]) (.cells #[.int .i64 0,.int .i64 0,.int .i64 0] 93);have hD:=aj.new ((w.alloc (.cells #[.int .i64 c.p,.int .i64 c.v,.int .i64 c.u] 93)).alloc (.cells #[.int .i64 d.p,.int .i64 d.v,.int .i64 d.u] 93)) 93 #[.int .i64 0,.int .i64 0,.int .i64 0];have hBel:Below w.heap.size w (((w.alloc (.cells #[.int .i64 c.p,.int .i64 c.v,.int .i64 c.u] 93)).alloc (.cells #[.int .i64 d.p,.int .i64 d.v,.int .i64 d.u] 93)).alloc (.cells #[.int .i64 0,.int .i64 0,.int .i64 0] 93)):=(((Below.refl _ w).alloc (zb _) _).alloc (by simp) _).alloc (by simp;omega) _;simp only[xN]at hB hD
 obtain⟨W,hW⟩:∃W,W=((w.alloc (.cells #[.int .i64 c.p,.int .i64 c.v,.int .i64 c.u] 93)).alloc (.cells #[.int .i64 d.p,.int .i64 d.v,.int .i64 d.u] 93)).alloc (.cells #[.int .i64 0,.int .i64 0,.int .i64 0] 93):=⟨_,rfl⟩;rw[<-hW]at hA hB hD hBel;have a0:=hA.cell 0;have a1:=hA.cell 1;have a2:=hA.cell 2;have b0:=hB.cell 0;have b1:=hB.cell 1;have b2:=hB.cell 2;have d0:=hD.cell 0;have d1:=hD.cell 1;have d2:=hD.cell 2;simp only[gl]at a0 a1 a2 b0 b1 b2 d0 d1 d2;obtain⟨f0,f1,f2⟩:=hD.f3;have HW:=qd hW;clear hW hA hB hD;go_in;go_upto_region 1 with fail;rw[<-HW.o];go_still_tail 15,(by kernel_rfl)
 still_call (Ur (HS.o _ _ _))
 repeat still_step
 still_call (Ur (HS.o _ _ _))
 repeat still_step
 still_call (Ur (HS.o _ _ _))
 refine wpStill_nil ?_;change wpList _ _ _ _ _ W.drew;go_wp2;rw[HP.o,HV.o,HU.o];refine bodyPost_ret (v:= .agg #[.int .i64 sp,.int .i64 sv,.int .i64 su]) (by simp[results,Tryz.results83,go_sem,d0,d1,d2]) rfl ⟨rfl, ?_⟩;exact(((hBel.setCell (p:=⟨w.heap.size+1+1,0,none⟩) (by simp;omega) _).setCell (p:=⟨w.heap.size+1+1,1,none⟩) (by simp;omega) _).setCell (p:=⟨w.heap.size+1+1,2,none⟩) (by simp;omega) _).drew
end Go.Proofs.YtkddpchpcepjgaaGreatDoor

/-! The same for what a call keeps. No statement of the claim. -/
namespace Go.Proofs.YtkddpchpcepjgaaGreatDoor
open Go.RowKit
theorem qM {A B:Prop}{C:List Nat->Prop}{S:List Nat}{w w':World}[i:Md A w w' B C](hm:Mod S w w')(h:Hqq A)(hs:C S:=by simp<;>omega):Hqq B:=qd (i.md h.o hm hs)
theorem qB {A B:Prop}{C:List Nat->Prop}{w w':World}[i:Md A w w' B C](hb:Below w.heap.size w w')(h:Hqq A)(hs:C []:=by simp):Hqq B:=qd (i.md h.o (Mod.of_below hb []) hs)
theorem ab7 {p:World->Prop}{w w1:World}{b:Nat}{S:List Nat}{t:TypeId}{cs:Array Value}(h:aj w b t cs)(hm:Mod S w1 w)(h2:∀v,aj v b t cs/\Mod S w1 v->p v):p w:=h2 w ⟨h,hm⟩
theorem qT {S:List Nat}{w w1 w2:World}(h:Hqq (Mod S w w1))(hb:Below w1.heap.size w1 w2):Hqq (Mod S w w2):=qd (h.o.then (Mod.of_below hb _))
theorem qU {T U:List Nat}{w w1 w2:World}(h1:Hqq (Mod U w w1))(h2:Mod T w1 w2)(hT:∀k,k∈T->k<w.heap.size->k∈U:=by intro k hk hl;simp at hk|-<;>omega):Hqq (Mod U w w2):=qd (h1.o.trans h2 (λ_ hh _=>hh) hT)
theorem I5 {p:World->Prop}{w:World}{b:Nat}{t:TypeId}{cs:Array Value}{i0:Nat}{v0:Value}(h:aj w b t cs)(k:∀v,aj v b t (cs.setIfInBounds i0 v0)/\Mod [b] w v->p v):p (w.setCell ⟨b,i0,none⟩ v0):=k _ ⟨(h.ak i0 v0),((Mod.refl [b] w).ak (.inl (by simp)) i0 v0)⟩
theorem qS2 {p:World->Prop}{w:World}{b:Nat}{t:TypeId}{cs:Array Value}{i0 i1:Nat}{v0 v1:Value}(h:aj w b t cs)(k:∀v,aj v b t ((cs.setIfInBounds i0 v0).setIfInBounds i1 v1)/\Mod [b] w v->p v):p ((w.setCell ⟨b,i0,none⟩ v0).setCell ⟨b,i1,none⟩ v1):=k _ ⟨((h.ak i0 v0).ak i1 v1),(((Mod.refl [b] w).ak (.inl (by simp)) i0 v0).ak (.inl (by simp)) i1 v1)⟩
theorem Li {p:World->Prop}{w:World}{b:Nat}{t:TypeId}{cs:Array Value}{i0 i1 i2:Nat}{v0 v1 v2:Value}(h:aj w b t cs)(k:∀v,aj v b t (((cs.setIfInBounds i0 v0).setIfInBounds i1 v1).setIfInBounds i2 v2)/\Mod [b] w v->p v):p (((w.setCell ⟨b,i0,none⟩ v0).setCell ⟨b,i1,none⟩ v1).setCell ⟨b,i2,none⟩ v2):=k _ ⟨(((h.ak i0 v0).ak i1 v1).ak i2 v2),((((Mod.refl [b] w).ak (.inl (by simp)) i0 v0).ak (.inl (by simp)) i1 v1).ak (.inl (by simp)) i2 v2)⟩
theorem Ba {p:World->Prop}{w:World}{b:Nat}{t:TypeId}{cs:Array Value}{i0 i1 i2 i3 i4 i5 i6:Nat}{v0 v1 v2 v3 v4 v5 v6:Value}(h:aj w b t cs)(k:∀v,aj v b t (((((((cs.setIfInBounds i0 v0).setIfInBounds i1 v1).setIfInBounds i2 v2).setIfInBounds i3 v3).setIfInBounds i4 v4).setIfInBounds i5 v5).setIfInBounds i6 v6)/\Mod [b] w v->p v):p (((((((w.setCell ⟨b,i0,none⟩ v0).setCell ⟨b,i1,none⟩ v1).setCell ⟨b,i2,none⟩ v2).setCell ⟨b,i3,none⟩ v3).setCell ⟨b,i4,none⟩ v4).setCell ⟨b,i5,none⟩ v5).setCell ⟨b,i6,none⟩ v6):=k _ ⟨(((((((h.ak i0 v0).ak i1 v1).ak i2 v2).ak i3 v3).ak i4 v4).ak i5 v5).ak i6 v6),((((((((Mod.refl [b] w).ak (.inl (by simp)) i0 v0).ak (.inl (by simp)) i1 v1).ak (.inl (by simp)) i2 v2).ak (.inl (by simp)) i3 v3).ak (.inl (by simp)) i4 v4).ak (.inl (by simp)) i5 v5).ak (.inl (by simp)) i6 v6)⟩
theorem Mod.sl {b:Nat}{S:List Nat}{w w':World}(h:Mod (b::S) w w')(o:Nat)(u:Value):Mod (b::S) w (w'.setCell ⟨b,o,none⟩ u):=h.ak (.inl (by simp)) o u
