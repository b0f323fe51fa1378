/- A table's laws: who is there is found where it stands; a free place is found; what writes leave. No program in sight. -/
import Derived.Test.YtnfjjbpmhcbelaaGreatDoorTabP
import Derived.Test.YtnfjjbpmhcbelaaGreatDoorGaugeA
import Derived.Deep.RegionHeld3
import Derived.Deep.Cut
import Derived.Deep.CutRange
import Derived.Deep.RegionWith
import Derived.BigRegion
import Derived.StillTailTactics
namespace Go.Proofs.YtnfjjbpmhcbelaaGreatDoor.dI
open Go
variable {α : Type} {hash i j k key s : Nat} {gs : Tab} {e : av} {G : kP}
theorem F5 {p:α→Bool}{l:List α}(h:l.findIdx? p=some k):∃x,l[k]?=some x∧p x=true∧∀j y,j<k→l[j]?=some y→p y=false:=by
 obtain⟨hk,hp,hn⟩:=List.findIdx?_eq_some_iff_getElem.1 h;refine⟨l[k],List.getElem?_eq_getElem hk,hp,fun j y hj hy=> ?_⟩;obtain⟨hj2,rfl⟩:=List.getElem?_eq_some_iff.1 hy;simpa using hn j hj
theorem MU {p:α→Bool}{l:List α}(h:l.findIdx? p=none):∀x∈l,p x=false:=by
 intro x hx;have:=List.findIdx?_eq_none_iff.1 h x hx;simpa using this
theorem abW {p:α→Bool}{l:List α}{x:α}(hx:l[k]?=some x)(hp:p x=true)(hu:∀j y,l[j]?=some y→p y=true→j=k):l.findIdx? p=some k:=by
 cases h:l.findIdx? p with
 |none=>
  have:=MU h x (List.mem_of_getElem? hx);rw[hp]at this;cases this
 |some j=>
  obtain⟨y,h1,h2,_⟩:=F5 h;rw[hu j y h1 h2]
structure zA (gs:Tab):Prop where
 wide:qP gs
 pow:Pw gs.length
 uniq:∀i s i' s' e e',aF gs i s= .full e→aF gs i' s'= .full e'→e.key=e'.key→i=i'∧s=s'
 reach:∀i s e,aF gs i s= .full e→∃j,j<gs.length∧bZ (e.hash/128) gs.length j=i∧∀j',j'<j→dH (gs.getD (bZ (e.hash/128) gs.length j') [])=false
theorem full_of {x:Slot}(h:x.isKey key hash=true):∃e,x= .full e∧e.key=key∧e.hash % 128=hash % 128:=by
 cases x with
 |full e=>simp[Slot.isKey]at h;exact⟨e,rfl,h.2,h.1⟩
 |_=>simp[Slot.isKey]at h
theorem Hq (h:gT (gs.getD i []) key hash=some s):∃e,aF gs i s= .full e∧e.key=key∧e.hash % 128=hash % 128:=by
 obtain⟨x,h1,h2,_⟩:=F5 h;obtain⟨e,rfl,h3,h4⟩:=full_of h2;obtain⟨hs,hx⟩:=List.getElem?_eq_some_iff.1 h1;refine⟨e, ?_,h3,h4⟩;unfold aF;rw[getD_in hs,hx]
theorem J7 {x:Slot}(h:(gs.getD i [])[s]?=some x):aF gs i s=x:=by
 obtain⟨hs,hx⟩:=List.getElem?_eq_some_iff.1 h;unfold aF;rw[getD_in hs,hx]
theorem zV (gs:Tab)(key hash:Nat):∀f j fr i s,(iT gs key hash f j fr).1=some (i,s)→∃e,aF gs i s= .full e∧e.key=key∧e.hash % 128=hash % 128
 |0,_,_,_,_,h=>by simp[iT]at h
 |f+1,j,fr,i,s,h=>by
  unfold iT at h;simp only at h;split at h
  ·next s' hs'=>
   injection h with h
   injection h with h1 h2
   subst h1 h2;exact Hq hs'
  ·split at h
   ·cases h
   ·exact zV gs key hash f (j+1) _ i s h
theorem Hr (h:(aJ gs key hash).1=some (i,s)):∃e,aF gs i s= .full e∧e.key=key∧e.hash % 128=hash % 128:=zV gs key hash _ _ _ i s h
theorem zW (hT:zA gs)(he:aF gs i s= .full e){t:Nat}(ht:bZ (e.hash/128) gs.length t=i)(hm:∀j,j<t→bZ (e.hash/128) gs.length j≠i)(hc:∀j,j<t→dH (gs.getD (bZ (e.hash/128) gs.length j) [])=false):∀f j fr,j≤t→t<j+f→(iT gs e.key e.hash f j fr).1=some (i,s)
 |0,_,_,h1,h2=>by omega
 |f+1,j,fr,h1,h2=>by
  unfold iT;simp only;by_cases hj:j=t
  ·subst hj;rw[ht]
   have:gT (gs.getD i []) e.key e.hash=some s:=by
    have hl:=(jY (gs:=gs) (i:=i) (s:=s) (by rw[he];exact fun h=>by cases h)).2;refine abW (Ba hl) (by rw[he];simp[Slot.isKey]) fun k y hy hp=> ?_;obtain⟨e',rfl,h3,_⟩:=full_of hp;exact(hT.uniq i k i s e' e (J7 hy) he h3).2
   rw[this]
  ·have hn:gT (gs.getD (bZ (e.hash/128) gs.length j) []) e.key e.hash=none:=by
    cases h:gT (gs.getD (bZ (e.hash/128) gs.length j) []) e.key e.hash with
    |none=>rfl
    |some k=>
     obtain⟨e',h3,h4,_⟩:=Hq h;exact absurd (hT.uniq _ _ _ _ e' e h3 he h4).1 (hm j (by omega))
   rw[hn];simp only;rw[if_neg (by rw[hc j (by omega)];simp)];exact zW hT he ht hm hc f (j+1) _ (by omega) (by omega)
theorem X6 {p:Nat→Prop}(h:p j):∃t,t≤j∧p t∧∀k,k<t→¬p k:=by
 induction j using Nat.strongRecOn with
 |ind j ih=>
  by_cases hk:∃k,k<j∧p k
  ·obtain⟨k,hk,hp⟩:=hk;obtain⟨t,h1,h2,h3⟩:=ih k hk hp;exact⟨t,by omega,h2,h3⟩
  ·exact⟨j,Nat.le_refl _,h,fun k hkj hp=>hk ⟨k,hkj,hp⟩⟩
theorem Sb (hT:zA gs)(he:aF gs i s= .full e):(aJ gs e.key e.hash).1=some (i,s):=by
 obtain⟨j,hj,hw,hc⟩:=hT.reach i s e he;obtain⟨t,h1,h2,h3⟩:=X6 (p:=fun j=>bZ (e.hash/128) gs.length j=i) hw;exact zW hT he h2 h3 (fun k hk=>hc k (by omega)) _ _ _ (Nat.zero_le _) (by omega)
theorem rH (h:∀e∈aM gs,e.key≠key):(aJ gs key hash).1=none:=by
 cases hs:(aJ gs key hash).1 with
 |none=>rfl
 |some x=>
  obtain⟨e,h1,h2,_⟩:=Hr (i:=x.1) (s:=x.2) hs;exact absurd h2 (h e (rG.2 ⟨_,_,h1⟩))
def vw (gs:Tab)(hash i s:Nat):Prop:=
 i<gs.length∧s<(gs.getD i []).length∧(aF gs i s).isFull=false∧∃j,j<gs.length∧bZ (hash/128) gs.length j=i∧∀j',j'<j→dH (gs.getD (bZ (hash/128) gs.length j') [])=false
theorem UD (h:dH G=true):∃s,kW G=some s:=by
 unfold dH at h;obtain⟨x,hx,he⟩:=List.any_eq_true.1 h
 cases hf:kW G with
 |some s=>exact⟨s,rfl⟩
 |none=>
  have:=MU hf x hx
  cases x<;>simp_all[Slot.isEmpty,Slot.isFull]
theorem free_at (hn:0<gs.length)(hj:j<gs.length)(hs:kW (gs.getD (bZ (hash/128) gs.length j) [])=some s)(hc:∀j',j'<j→dH (gs.getD (bZ (hash/128) gs.length j') [])=false):
  vw gs hash (bZ (hash/128) gs.length j) s:=by
 obtain⟨x,h1,h2,_⟩:=F5 hs;obtain⟨hlt,_⟩:=List.getElem?_eq_some_iff.1 h1;refine⟨Nat.mod_lt _ hn,hlt, ?_,j,hj,rfl,hc⟩;rw[J7 h1];simpa using h2
theorem Cb (hn:0<gs.length):∀f j fr,j+f=gs.length→
  (∀j',j'<j→dH (gs.getD (bZ (hash/128) gs.length j') [])=false)→
  (match fr with|some x=>vw gs hash x.1 x.2|none=>∀j',j'<j→kW (gs.getD (bZ (hash/128) gs.length j') [])=none)→
  (∃j,j<gs.length∧dH (gs.getD (bZ (hash/128) gs.length j) [])=true)→
  (iT gs key hash f j fr).1=none→∃i s,(iT gs key hash f j fr).2.1=some (i,s)∧vw gs hash i s
 |0,j,fr,hj,hc,hf,ho,_=>by
  cases fr with
  |some x=>exact⟨x.1,x.2,rfl,hf⟩
  |none=>
   obtain⟨j',h1,h2⟩:=ho;have:=hc j' (by omega);rw[this]at h2;cases h2
 |f+1,j,fr,hj,hc,hf,ho,hnone=>by
  have hfr:∀fr',fr'=iH fr (bZ (hash/128) gs.length j) (gs.getD (bZ (hash/128) gs.length j) [])→
    (match fr' with|some x=>vw gs hash x.1 x.2|none=>∀j',j'<j+1→kW (gs.getD (bZ (hash/128) gs.length j') [])=none):=by
   intro fr' F7
   cases fr with
   |some x=>simp only[iH]at F7;subst F7;exact hf
   |none=>
    simp only[iH]at F7 hf
    cases hg:kW (gs.getD (bZ (hash/128) gs.length j) [])with
    |some s=>
     rw[hg]at F7;subst F7;exact free_at hn (by omega) hg hc
    |none=>
     rw[hg]at F7;subst F7;intro j' hj';by_cases he:j'=j
     ·rw[he];exact hg
     ·exact hf j' (by omega)
  unfold iT at hnone⊢;simp only at hnone⊢;generalize zX:iH fr (bZ (hash/128) gs.length j) (gs.getD (bZ (hash/128) gs.length j) [])=fr' at hnone⊢;have hf':=hfr fr' zX.symm
  cases hfind:gT (gs.getD (bZ (hash/128) gs.length j) []) key hash with
  |some s=>rw[hfind]at hnone;cases hnone
  |none=>
   rw[hfind]at hnone;simp only at hnone⊢
   cases hop:dH (gs.getD (bZ (hash/128) gs.length j) [])with
   |true=>
    simp only[if_true]
    cases fr' with
    |some x=>exact⟨x.1,x.2,rfl,hf'⟩
    |none=>
     obtain⟨s,hs⟩:=UD hop;rw[hf' j (by omega)]at hs;cases hs
   |false=>
    rw[hop]at hnone;simp only[Bool.false_eq_true,if_false]at hnone⊢
    exact Cb hn f (j+1) fr' (by omega) (fun j' hj'=>by
     by_cases he:j'=j
     ·rw[he];exact hop
     ·exact hc j' (by omega)) hf' ho hnone
theorem UE (hn:Pw gs.length)(ho:∃i,i<gs.length∧dH (gs.getD i [])=true)(h:(aJ gs key hash).1=none):∃i s,(aJ gs key hash).2.1=some (i,s)∧vw gs hash i s:=by
 obtain⟨i,hi,hop⟩:=ho;obtain⟨j,hj,hw⟩:=X5 hn (hash/128) i hi;exact Cb hn.pos gs.length 0 none (by omega) (fun _ h=>by omega) (fun _ h=>by omega) ⟨j,hj,by rw[hw];exact hop⟩ h
theorem yO (G:kP):(bT G).length+G.countP Slot.iL+G.countP Slot.isEmpty=G.length:=by
 induction G with
 |nil=>rfl
 |cons x t ih=>
  have e:(bT (x::t)).length=x.ents.length+(bT t).length:=by simp[bT]
  rw[e,List.countP_cons,List.countP_cons,List.length_cons]
  cases x with
  |empty=>simp[Slot.ents,Slot.iL,Slot.isEmpty];omega
  |qm=>simp[Slot.ents,Slot.iL,Slot.isEmpty];omega
  |full e=>simp[Slot.ents,Slot.iL,Slot.isEmpty];omega
theorem Ht (G:kP)(gs:Tab):aM (G::gs)=bT G++aM gs:=by simp[aM]
theorem zB (G:kP)(gs:Tab):eT (G::gs)=G.countP Slot.iL+eT gs:=by simp[eT]
theorem CO:∀{gs:Tab},qP gs→(aM gs).length+eT gs<8*gs.length→∃i,i<gs.length∧dH (gs.getD i [])=true
 | [],_,h=>by simp at h
 |G::gs,hw,h=>by
  cases ho:dH G with
  |true=>exact⟨0,by simp,by simpa using ho⟩
  |false=>
   have h0:G.countP Slot.isEmpty=0:=by
    rw[List.countP_eq_zero];intro x hx he;have:dH G=true:=List.any_eq_true.2 ⟨x,hx,he⟩;rw[ho]at this;cases this
   have h1:=yO G;have h2:=hw G (by simp);rw[Ht,zB,List.length_append,List.length_cons]at h;obtain⟨i,hi,hop⟩:=CO (gs:=gs) (fun x hx=>hw x (by simp[hx])) (by omega);exact⟨i+1,by simpa using hi,by simpa using hop⟩
theorem UF (hw:qP gs):(aM gs).length+eT gs≤8*gs.length:=by
 induction gs with
 |nil=>simp[aM,eT]
 |cons G t ih=>
  have h1:=yO G;have h2:=hw G (by simp);have h3:=ih (fun x hx=>hw x (by simp[hx]));rw[Ht,zB,List.length_append,List.length_cons];omega
theorem LC {x:Slot}(hx:x.isEmpty=false)(h:dH G=false):dH (G.set s x)=false:=by
 unfold dH at h⊢;rw[List.any_eq_false]at h⊢;intro y hy;rcases List.mem_or_eq_of_mem_set hy with hy|rfl
 ·exact h y hy
 ·simp[hx]
theorem xO {x:Slot}(hi:i<gs.length)(hx:x.isEmpty=true→dH (gs.getD i [])=true)(h:dH (gs.getD k [])=false):dH ((putAt gs i s x).getD k [])=false:=by
 rw[Hl gs i s x k hi];by_cases he:i=k
 ·subst he;rw[if_pos rfl];refine LC ?_ h
  cases hxe:x.isEmpty with
  |false=>rfl
  |true=>rw[hx hxe]at h;cases h
 ·rw[if_neg he];exact h
theorem aaY (hT:zA gs)(hf:vw gs e.hash i s)(hk:∀x∈aM gs,x.key≠e.key):zA (putAt gs i s (.full e)):=by
 obtain⟨hi,hs,_,j,hj,hw,hc⟩:=hf;refine⟨hT.wide.put _ _ _,by rw[gY];exact hT.pow,fun a b a' b' x x' h1 h2 h3=> ?_,fun a b x h1=> ?_⟩
 ·rw[kX gs i s _ _ _ hi hs]at h1 h2
  by_cases c1:i=a∧s=b<;>by_cases c2:i=a'∧s=b'
  ·exact⟨by omega,by omega⟩
  ·rw[if_pos c1]at h1;rw[if_neg c2]at h2
   injection h1 with h1;subst h1
   exact absurd h3.symm (hk x' (rG.2 ⟨_,_,h2⟩))
  ·rw[if_neg c1]at h1;rw[if_pos c2]at h2
   injection h2 with h2;subst h2
   exact absurd h3 (hk x (rG.2 ⟨_,_,h1⟩))
  ·rw[if_neg c1]at h1;rw[if_neg c2]at h2;exact hT.uniq _ _ _ _ _ _ h1 h2 h3
 ·rw[kX gs i s _ _ _ hi hs]at h1;rw[gY]
  have hE:(Slot.full e).isEmpty=true→dH (gs.getD i [])=true:=fun h=>by cases h
  by_cases c1:i=a∧s=b
  ·rw[if_pos c1]at h1
   injection h1 with h1;subst h1
   exact⟨j,hj,by rw[hw];exact c1.1,fun k hk=>xO hi hE (hc k hk)⟩
  ·rw[if_neg c1]at h1;obtain⟨j1,h4,h5,h6⟩:=hT.reach a b x h1;exact⟨j1,h4,h5,fun k hk=>xO hi hE (h6 k hk)⟩
theorem UG (hT:zA gs)(hi:i<gs.length)(hs:s<(gs.getD i []).length){x:Slot}(hx:x.isEmpty=true→dH (gs.getD i [])=true)(jZ:∀e,x≠ .full e):zA (putAt gs i s x):=by
 refine⟨hT.wide.put _ _ _,by rw[gY];exact hT.pow,fun a b a' b' y y' h1 h2 h3=> ?_,fun a b y h1=> ?_⟩
 ·rw[kX gs i s _ _ _ hi hs]at h1 h2;by_cases c1:i=a∧s=b
  ·rw[if_pos c1]at h1;exact absurd h1 (jZ y)
  ·by_cases c2:i=a'∧s=b'
   ·rw[if_pos c2]at h2;exact absurd h2 (jZ y')
   ·rw[if_neg c1]at h1;rw[if_neg c2]at h2;exact hT.uniq _ _ _ _ _ _ h1 h2 h3
 ·rw[kX gs i s _ _ _ hi hs]at h1;rw[gY];by_cases c1:i=a∧s=b
  ·rw[if_pos c1]at h1;exact absurd h1 (jZ y)
  ·rw[if_neg c1]at h1;obtain⟨j1,h4,h5,h6⟩:=hT.reach a b y h1;exact⟨j1,h4,h5,fun k hk=>xO hi hx (h6 k hk)⟩
theorem PU (hT:zA gs){e':av}(he:aF gs i s= .full e)(hk:e'.key=e.key)(hh:e'.hash=e.hash):zA (putAt gs i s (.full e')):=by
 obtain⟨hi,hs⟩:=jY (gs:=gs) (i:=i) (s:=s) (by rw[he];exact fun h=>by cases h);refine⟨hT.wide.put _ _ _,by rw[gY];exact hT.pow,fun a b a' b' x x' h1 h2 h3=> ?_,fun a b x h1=> ?_⟩
 ·rw[kX gs i s _ _ _ hi hs]at h1 h2
  by_cases c1:i=a∧s=b<;>by_cases c2:i=a'∧s=b'
  ·exact⟨by omega,by omega⟩
  ·rw[if_pos c1]at h1;rw[if_neg c2]at h2
   injection h1 with h1;subst h1
   have:=hT.uniq _ _ _ _ _ _ he h2 (hk▸h3);omega
  ·rw[if_neg c1]at h1;rw[if_pos c2]at h2
   injection h2 with h2;subst h2
   have:=hT.uniq _ _ _ _ _ _ h1 he (by rw[h3,hk]);omega
  ·rw[if_neg c1]at h1;rw[if_neg c2]at h2;exact hT.uniq _ _ _ _ _ _ h1 h2 h3
 ·rw[kX gs i s _ _ _ hi hs]at h1;rw[gY]
  have hE:(Slot.full e').isEmpty=true→dH (gs.getD i [])=true:=fun h=>by cases h
  by_cases c1:i=a∧s=b
  ·rw[if_pos c1]at h1
   injection h1 with h1;subst h1
   obtain⟨j1,h4,h5,h6⟩:=hT.reach i s e he;rw[hh];exact⟨j1,h4,by rw[h5];exact c1.1,fun k hk=>xO hi hE (h6 k hk)⟩
  ·rw[if_neg c1]at h1;obtain⟨j1,h4,h5,h6⟩:=hT.reach a b x h1;exact⟨j1,h4,h5,fun k hk=>xO hi hE (h6 k hk)⟩
def bare (n:Nat):Tab:=List.replicate n (List.replicate 8 .empty)
theorem zC (n i s:Nat):aF (bare n) i s= .empty:=by
 unfold aF bare;by_cases hi:i<n
 ·rw[getD_in (l:=List.replicate n (List.replicate 8 Slot.empty)) (by simpa using hi),List.getElem_replicate];by_cases hs:s<8
  ·rw[getD_in (by simpa using hs),List.getElem_replicate]
  ·rw[A8 (by simp;omega)]
 ·rw[A8 (l:=List.replicate n _) (by simp;omega)];rfl
theorem MV {n:Nat}(h:Pw n):zA (bare n):=by
 refine⟨fun G hG=> ?_,by simpa[bare]using h,fun i s i' s' e e' h1=> ?_,fun i s e h1=> ?_⟩
 ·unfold bare at hG;rw[(List.mem_replicate.1 hG).2];simp
 ·rw[zC]at h1;cases h1
 ·rw[zC]at h1;cases h1
end Go.Proofs.YtnfjjbpmhcbelaaGreatDoor.dI

/-! What a hash says, and in which order groups are looked at, by their contracts. -/
namespace Go.Proofs.YtnfjjbpmhcbelaaGreatDoor
open Go.RowKit dI
variable {d h n : Nat}
set_option maxHeartbeats 400000 in
theorem X7 (h:Nat)(w:World):Calls Tryz.prog 152 #[nU h] w fun e w'=>e= .returned (.int .u64 ((h/128:Nat):Int))∧w=w':=by
 go_in;go_wp2;go_ret;exact⟨zT (by omega),rfl⟩
theorem abX (h64:h<18446744073709551616):bits .and .u64 (h:Int) 127=((h % 128:Nat):Int):=by
 have:=bits_and_u64_nat h 127 h64 (by decide);rw[show(127:Nat)=2^7-1 by decide,Nat.and_two_pow_sub_one_eq_mod]at this;exact this
set_option maxHeartbeats 400000 in
theorem MW (h:Nat)(h64:h<18446744073709551616)(w:World):Calls Tryz.prog 218 #[nU h] w fun e w'=>e= .returned (.int .u8 ((h % 128:Nat):Int))∧w=w':=by
 have HV:=qd (abX h64);clear h64;go_in;go_wp2;go_ret;exact⟨by rw[HV.out];refine gJ ?_;omega,rfl⟩
set_option maxHeartbeats 400000 in
theorem Bb (d:Nat)(hd:d≤16)(w:World):Calls Tryz.prog 206 #[nI d] w fun e w'=>e= .returned (.bool true)∧w=w':=by
 have h':(d:Int)≤16:=by omega
 go_in;go_wp2;go_ret;exact⟨rfl,rfl⟩
def dQ (h d:Nat):Nat:=h/2^(64-d)
def uQ (h d:Nat):Nat:=h/2^(63-d) % 2
theorem Bc (h64:h<18446744073709551616)(hd:d≤16):dQ h d<2^d:=by
 unfold dQ;rw[Nat.div_lt_iff_lt_mul (Nat.two_pow_pos _),←Nat.pow_add,show d+(64-d)=64 by omega];exact h64
theorem Sc (hd:d≤16):2^d≤65536:=by
 have:=Nat.pow_le_pow_right (n:=2) (by omega) hd;exact this
theorem Ji (h k:Nat):(h:Int)/2^k=((h/2^k:Nat):Int):=by simp
set_option maxHeartbeats 400000 in
theorem J8 (h d:Nat)(h64:h<18446744073709551616)(hd:d≤16)(w:World):Calls Tryz.prog 149 #[nU h,nI d] w fun e w'=>e= .returned (.tuple #[.int .i64 ((dQ h d:Nat):Int),.nilIface])∧w=w':=by
 have HD:=qd (Bb d hd w);have hlt:=Bc h64 hd;have hp:=Sc hd
 have h1:(0:Int)≤64-(d:Int):=by omega
 have h2:(64:Int)-(d:Int)≤64:=by omega
 have h3:((64:Int)-(d:Int)).toNat=64-d:=by omega
 have HV:=qd (show(h:Int)/2^(64-d)=((dQ h d:Nat):Int)from Ji h (64-d))
 have hb:(h:Int)/2^(64-d)<65536:=by rw[HV.out];omega
 have hb0:0≤(h:Int)/2^(64-d):=by rw[HV.out];omega
 clear hlt hp h64;go_in;go_wp2_with fail;refine HD.out.mono ?_;rintro e w1 ⟨rfl,rfl⟩;go_wp2;rw[HV.out];go_ret2;exact⟨rfl,rfl⟩
theorem aaZ (x:Nat)(hx:x<18446744073709551616):bits .and .u64 (x:Int) 1=((x % 2:Nat):Int):=by
 have:=bits_and_u64_nat x 1 hx (by decide);rw[Nat.and_one_is_mod]at this;exact this
set_option maxHeartbeats 400000 in
theorem UH (h d:Nat)(h64:h<18446744073709551616)(hd:d≤15)(w:World):Calls Tryz.prog 248 #[nU h,nI d] w fun e w'=>e= .returned (.tuple #[.int .i64 ((uQ h d:Nat):Int),.nilIface])∧w=w':=by
 have HD:=qd (Bb d (by omega) w)
 have h1:(0:Int)≤63-(d:Int):=by omega
 have h2:(63:Int)-(d:Int)≤64:=by omega
 have h3:((63:Int)-(d:Int)).toNat=63-d:=by omega
 have hlt:h/2^(63-d)<18446744073709551616:=Nat.lt_of_le_of_lt (Nat.div_le_self _ _) h64;have HV:=qd (show bits .and .u64 ((h:Int)/2^(63-d)) 1=((uQ h d:Nat):Int)from by rw[Ji];exact aaZ _ hlt)
 have hb:bits .and .u64 ((h:Int)/2^(63-d)) 1<2:=by rw[HV.out];unfold uQ;omega
 have hb0:0≤bits .and .u64 ((h:Int)/2^(63-d)) 1:=by rw[HV.out];omega
 clear hlt h64;go_in;go_wp2_with fail;refine HD.out.mono ?_;rintro e w1 ⟨rfl,rfl⟩;go_wp2;rw[HV.out];go_ret2;exact⟨rfl,rfl⟩
set_option maxHeartbeats 400000 in
theorem Jj (p d:Nat)(hd:d≤16)(hp:p<2^d)(w:World):Calls Tryz.prog 144 #[nI p,nI d] w fun e w'=>e= .returned (.bool true)∧w=w':=by
 have HD:=qd (Bb d hd w)
 have h1:(d:Int)≤64:=by omega
 have hpw:=Sc hd
 have e:((2:Int)^d)=((2^d:Nat):Int):=by simp
 have h2:(p:Int)<2^d:=by rw[e];omega
 have h3:(2:Int)^d≤65536:=by rw[e];omega
 have h4:(0:Int)≤2^d:=by rw[e];omega
 clear hp hpw e;go_in;go_wp2_with fail;refine HD.out.mono ?_;rintro e w1 ⟨rfl,rfl⟩;go_wp2;go_ret;exact⟨rfl,rfl⟩
def nD (p d:Nat):Nat:=p*2^(64-d)
def kY (p d:Nat):Nat:=p*2^(64-d)+(2^(64-d)-1)
theorem Bd {p:Nat}(hd:d≤16)(hp:p<2^d):nD p d+2^(64-d)≤18446744073709551616:=by
 unfold nD;have:(p+1)*2^(64-d)≤2^d*2^(64-d):=Nat.mul_le_mul_right _ hp;rw[←Nat.pow_add,show d+(64-d)=64 by omega,Nat.add_mul,Nat.one_mul]at this;exact this
set_option maxHeartbeats 400000 in
theorem CP (p d:Nat)(hd:d≤16)(hp:p<2^d)(w:World):Calls Tryz.prog 100 #[nI p,nI d] w fun e w'=>e= .returned (.tuple #[.int .u64 ((nD p d:Nat):Int),.nilIface])∧w=w':=by
 have HD:=qd (Jj p d hd hp w)
 have h1:(0:Int)≤64-(d:Int):=by omega
 have h2:(64:Int)-(d:Int)≤64:=by omega
 have h3:((64:Int)-(d:Int)).toNat=64-d:=by omega
 have hlt:=Bd hd hp;have hpos:=Nat.two_pow_pos (64-d);have hpw:=Sc hd
 have hp1:(p:Int)<65536:=by omega
 have HV:=qd (show IntKind.u64.wrap ((p:Int)*2^(64-d))=((nD p d:Nat):Int)from by
  rw[show(p:Int)*2^(64-d)=((nD p d:Nat):Int) by simp[nD]]
  exact xK (by omega))
 clear hlt hpos hpw hp hd;go_in;go_wp2_with fail;refine HD.out.mono ?_;rintro e w1 ⟨rfl,rfl⟩;go_wp2;rw[HV.out];go_ret2;exact⟨rfl,rfl⟩
theorem abY {a k b:Nat}(hb:b<2^k):a*2^k|||b=a*2^k+b:=by
 have:=Nat.shiftLeft_add_eq_or_of_lt hb a;rw[Nat.shiftLeft_eq]at this;exact this.symm
theorem X8 (hd:d≤16):18446744073709551615/2^d=2^(64-d)-1:=by
 have H:∀d:Fin 17,18446744073709551615/2^d.val=2^(64-d.val)-1:=by decide+kernel
 exact H ⟨d,by omega⟩
set_option maxHeartbeats 400000 in
theorem Sd (p d:Nat)(hd:d≤16)(hp:p<2^d)(w:World):Calls Tryz.prog 188 #[nI p,nI d] w fun e w'=>e= .returned (.tuple #[.int .u64 ((kY p d:Nat):Int),.nilIface])∧w=w':=by
 have HD:=qd (CP p d hd hp w)
 have h1:(d:Int)≤64:=by omega
 have hlt:=Bd hd hp;have hpos:=Nat.two_pow_pos (64-d)
 have HV:=qd (show bits .or .u64 ((nD p d:Nat):Int) (18446744073709551615/2^d)=((kY p d:Nat):Int)from by
  have e:(18446744073709551615:Int)/2^d=((2^(64-d)-1:Nat):Int):=by
   rw[←X8 hd];exact Ji 18446744073709551615 d
  rw[e,bits_or_u64_nat _ _ (by omega) (by omega)];unfold nD kY
  rw[abY (by omega)])
 clear hlt hpos hp hd;go_in;go_wp2_with fail;refine HD.out.mono ?_;rintro e w1 ⟨rfl,rfl⟩;go_wp2;rw[HV.out];go_ret2;exact⟨rfl,rfl⟩
theorem aa0 (h:Pw n):bits .and .i64 (n:Int) ((n:Int)-1)=0:=by
 unfold Pw at h
 rcases h with rfl|rfl|rfl|rfl|rfl|rfl|rfl<;>decide
set_option maxHeartbeats 400000 in
theorem PV (n:Nat)(h:Pw n)(w:World):Calls Tryz.prog 207 #[nI n] w fun e w'=>e= .returned (.bool true)∧w=w':=by
 have h1:(1:Int)≤(n:Int):=by have:=h.pos;omega
 have h2:(n:Int)≤64:=by have:=h.le;omega
 have hV:=aa0 h;clear h;go_in;go_wp2;go_ret;exact⟨rfl,rfl⟩
theorem abZ (h:Pw n):∃k,n=2^k:=by
 unfold Pw at h;rcases h with rfl|rfl|rfl|rfl|rfl|rfl|rfl
 ·exact⟨0,rfl⟩
 ·exact⟨1,rfl⟩
 ·exact⟨2,rfl⟩
 ·exact⟨3,rfl⟩
 ·exact⟨4,rfl⟩
 ·exact⟨5,rfl⟩
 ·exact⟨6,rfl⟩
theorem X9 (h64:h<18446744073709551616)(hn:Pw n):bits .and .u64 (h:Int) ((n:Int)-1)=((h % n:Nat):Int):=by
 obtain⟨k,rfl⟩:=abZ hn;have hle:=hn.le;have hpos:=hn.pos;have:=bits_and_u64_nat h (2^k-1) h64 (by omega);rw[Nat.and_two_pow_sub_one_eq_mod]at this;rw[show((2^k:Nat):Int)-1=((2^k-1:Nat):Int) by omega];exact this
set_option maxHeartbeats 400000 in
theorem Sg (h n:Nat)(h64:h<18446744073709551616)(hn:Pw n)(w:World):Calls Tryz.prog 213 #[nU h,nI n] w fun e w'=>e= .returned (.int .i64 ((h % n:Nat):Int))∧w=w':=by
 have h1:(1:Int)≤(n:Int):=by have:=hn.pos;omega
 have h2:(n:Int)≤64:=by have:=hn.le;omega
 have hV:=X9 h64 hn
 have hm:((h % n:Nat):Int)<64:=by have:=Nat.mod_lt h hn.pos;omega
 clear hn h64;go_in;go_wp2;go_ret;exact⟨gJ (by omega),rfl⟩
def bF (a b:av):Bool:=decide (a.hash<b.hash)||(a.hash==b.hash && decide (a.key<b.key))
set_option maxHeartbeats 400000 in
theorem J9 (a:Nat)(w:World):Calls Tryz.prog 95 #[nU a] w fun e w'=>e= .returned (.bool false)∧w=w':=by
 go_in;go_wp2;go_ret;exact⟨by simp,rfl⟩
def MX (a b:Nat):Int:=if a<b then-1 else if b<a then 1 else 0
set_option maxHeartbeats 400000 in
theorem aa1 (a b:Nat)(w:World):Calls Tryz.prog 68 #[nU a,nU b] w fun e w'=>e= .returned (.int .i64 (MX a b))∧w=w':=by
 have HA:=qd (J9 a w);have HB:=qd (J9 b w);have HC:=qd (show MX a b=if a<b then-1 else if b<a then 1 else 0 from rfl)
 have K:(a:Int)<b∨(¬(a:Int)<b∧(b:Int)<a)∨(¬(a:Int)<b∧¬(b:Int)<a):=by omega
 rcases K with h|⟨h,h2⟩|⟨h,h2⟩
 ·go_in;go_wp2_with fail;refine HA.out.mono ?_;rintro e w1 ⟨rfl,rfl⟩;go_wp2_with fail;refine HB.out.mono ?_;rintro e w1 ⟨rfl,rfl⟩;go_wp2;go_ret;exact⟨gJ (by rw[HC.out,if_pos (by omega)]),rfl⟩
 ·go_in;go_wp2_with fail;refine HA.out.mono ?_;rintro e w1 ⟨rfl,rfl⟩;go_wp2_with fail;refine HB.out.mono ?_;rintro e w1 ⟨rfl,rfl⟩;go_wp2;go_ret;exact⟨gJ (by rw[HC.out,if_neg (by omega),if_pos (by omega)]),rfl⟩
 ·go_in;go_wp2_with fail;refine HA.out.mono ?_;rintro e w1 ⟨rfl,rfl⟩;go_wp2_with fail;refine HB.out.mono ?_;rintro e w1 ⟨rfl,rfl⟩;go_wp2;go_ret;exact⟨gJ (by rw[HC.out,if_neg (by omega),if_neg (by omega)]),rfl⟩
def orI (a b:Int):Int:=if a=0 then b else a
set_option maxHeartbeats 400000 in
theorem aa2 (g:Nat)(a b:Int)(w:World)(h0:w.cell? ⟨g,0,none⟩=some (.int .i64 a))(h1:w.cell? ⟨g,1,none⟩=some (.int .i64 b)):
  Calls Tryz.prog 267 #[.slice (some ⟨g,0,none⟩) 2 2] w fun e w'=>e= .returned (.int .i64 (orI a b))∧w=w':=by
 have HO:=qd (show orI a b=if a=0 then b else a from rfl);go_in;go_wp2;go_loop [5,8] (fun _ i=>∃k:Nat,k≤2∧i= .int .i64 k∧(0<k→a=0)∧(1<k→b=0)) (fun _ i=>2-(intOf i).toNat)
 case atStart=>exact⟨0,by omega,rfl,by omega,by omega⟩
 case round=>
  obtain⟨k,hk,rfl,ha,hb⟩:=hrel
  have K:k=0∨k=1∨k=2:=by omega
  rcases K with rfl|rfl|rfl
  ·clear ha hb
   cases hz:(a !=0)with
   |true=>
    go_wp2;go_ret;exact⟨gJ (by rw[HO.out,if_neg (by simpa using hz)]),rfl⟩
   |false=>
    go_wp2;go_round
    case rel=>exact⟨1,by omega,rfl,fun _=>by simpa using hz,by omega⟩
    case measure=>simp[intOf]
  ·have HA:=qd (ha (by omega));clear ha hb
   cases hz:(b !=0)with
   |true=>
    go_wp2;go_ret;exact⟨gJ (by rw[HO.out,if_pos HA.out]),rfl⟩
   |false=>
    go_wp2;go_round
    case rel=>exact⟨2,by omega,rfl,fun _=>HA.out,fun _=>by simpa using hz⟩
    case measure=>simp[intOf]
  ·have HA:=qd (ha (by omega));have HB:=qd (hb (by omega));clear ha hb;go_wp2;go_ret;exact⟨gJ (by rw[HO.out,if_pos HA.out,HB.out]),rfl⟩
theorem Ya (a b:av):decide (orI (MX a.hash b.hash) (MX a.key b.key)<0)=bF a b:=by
 unfold orI MX bF;rw[Bool.eq_iff_iff];simp only[decide_eq_true_eq,Bool.or_eq_true,Bool.and_eq_true,beq_iff_eq];by_cases h1:a.hash<b.hash
 ·simp[h1]
 ·by_cases h2:b.hash<a.hash
  ·simp[h1,h2];omega
  ·have:a.hash=b.hash:=by omega
   simp[this];by_cases h3:a.key<b.key
   ·simp[h3]
   ·by_cases h4:b.key<a.key
    ·simp[h3,h4]
    ·simp[h3,h4]
theorem MZ {W:World}{o:Obj}{a:Addr}{v:Value}(h:W.cell? a=some v):(W.alloc o).cell? a=some v:=(World.cell?_alloc_lt W o a (World.block_lt_of_cell? W a h)).trans h
def aP (e:av):Value:= .agg #[nU e.key,nU e.val,nU e.hash]
def aV (e:av):List Value:=[nU e.key,nU e.val,nU e.hash]
set_option maxHeartbeats 2000000 in
theorem jU (a b:av)(w:World):Calls Tryz.prog 240 #[aP a,aP b] w fun e w'=>e= .returned (.bool (bF a b))∧Below w.heap.size w w':=by
 have HL:=qd (Ya a b);have HC:=qd (fun(x y:Nat) (W:World)=>aa1 x y W);unfold aP;have hA:=aj.alloc (aj.new w 166 #[nU a.key,nU a.val,nU a.hash]) (.cells #[nU b.key,nU b.val,nU b.hash] 166);have hB:=aj.new (w.alloc (.cells #[nU a.key,nU a.val,nU a.hash] 166)) 166 #[nU b.key,nU b.val,nU b.hash];have hBel:Below w.heap.size w ((w.alloc (.cells #[nU a.key,nU a.val,nU a.hash] 166)).alloc (.cells #[nU b.key,nU b.val,nU b.hash] 166)):=((Below.refl _ w).alloc (Nat.le_refl _) _).alloc (by simp) _;rw[World.size_alloc]at hB;obtain⟨W,hW⟩:∃W,W=(w.alloc (.cells #[nU a.key,nU a.val,nU a.hash] 166)).alloc (.cells #[nU b.key,nU b.val,nU b.hash] 166):=⟨_,rfl⟩;rw[←hW]at hA hB hBel;have a0:=hA.cell 0;have a2:=hA.cell 2;have b0:=hB.cell 0;have b2:=hB.cell 2;simp only[gl]at a0 a2 b0 b2;have HW:=qd hW;clear hW hA hB;go_in;go_upto_region 1 with fail;rw[←HW.out]
 go_region_held3 (fun w'=>(w'.cell? ⟨w.heap.size,0,none⟩=some (nU a.key)∧w'.cell? ⟨w.heap.size,2,none⟩=some (nU a.hash)∧w'.cell? ⟨w.heap.size+1,0,none⟩=some (nU b.key)∧w'.cell? ⟨w.heap.size+1,2,none⟩=some (nU b.hash))∧Below w.heap.size w w')
  (first
   |(go_split_ands;refine⟨⟨?_, ?_, ?_, ?_⟩, ?_⟩<;>first|go_keep|assumption|exact MZ (by assumption)|exact Below.drew (by assumption)|exact Below.alloc (by assumption) (Below.size (by assumption)) _)
   |(refine⟨⟨?_, ?_, ?_, ?_⟩, ?_⟩<;>first|go_keep|assumption|exact MZ (by assumption)|exact Below.drew (by assumption)|exact Below.alloc (by assumption) (Below.size (by assumption)) _))
  (first
   |(go_at_call 68;refine(HC.out _ _ _).mono ?_;rintro e w3 ⟨rfl,rfl⟩)
   |(go_at_call 267;refine(aa2 _ _ _ _ ((aj.new _ _ _).cell 0) ((aj.new _ _ _).cell 1)).mono ?_;rintro e w3 ⟨rfl,rfl⟩))
 go_wp2;go_ret;exact⟨uz HL.out,(hBel.alloc hBel.size _).drew⟩
end Go.Proofs.YtnfjjbpmhcbelaaGreatDoor

/-! The meter by its contracts. -/
namespace Go.Proofs.YtnfjjbpmhcbelaaGreatDoor
open Go.RowKit dI
variable {w w' w1 w2 : World} {S T : List Nat} {A : Prop} {C : List Nat → Prop}
structure Mod (S:List Nat)(w w':World):Prop where
 os:w'.os=w.os
 tape:w'.tape=w.tape
 output:w'.output=w.output
 size:w.heap.size≤w'.heap.size
 block:∀k,k<w.heap.size→k∉S→w'.heap[k]?=w.heap[k]?
theorem Mod.refl (S:List Nat)(w:World):Mod S w w:=⟨rfl,rfl,rfl,Nat.le_refl _,fun _ _ _=>rfl⟩
theorem Mod.of_below (h:Below w.heap.size w w')(S:List Nat):Mod S w w':=⟨h.os,h.tape,h.output,h.size,fun k hk _=>h.block k hk⟩
theorem Mod.trans {U:List Nat}(h1:Mod S w w1)(h2:Mod T w1 w2)(hS:∀k,k∈S→k<w.heap.size→k∈U)(hT:∀k,k∈T→k<w.heap.size→k∈U):Mod U w w2:=
 ⟨h2.os.trans h1.os,h2.tape.trans h1.tape,h2.output.trans h1.output,Nat.le_trans h1.size h2.size,fun k hk hn=>
  (h2.block k (Nat.lt_of_lt_of_le hk h1.size) (fun h=>hn (hT k h hk))).trans (h1.block k hk (fun h=>hn (hS k h hk)))⟩
theorem Mod.then (h1:Mod S w w1)(h2:Mod S w1 w2):Mod S w w2:=h1.trans h2 (fun _ h _=>h) (fun _ h _=>h)
theorem Mod.more (h:Mod S w w')(hS:∀k,k∈S→k∈T):Mod T w w':=⟨h.os,h.tape,h.output,h.size,fun k hk hn=>h.block k hk (fun hh=>hn (hS k hh))⟩
theorem Mod.drewN (S:List Nat)(w:World)(n:Nat):Mod S w (w.drewN n):=⟨rfl,rfl,rfl,Nat.le_refl _,fun _ _ _=>rfl⟩
theorem Mod.alloc (h:Mod S w w')(o:Obj):Mod S w (w'.alloc o):=h.then (Mod.of_below ((Below.refl _ _).alloc (Nat.le_refl _) o) S)
theorem Mod.ak (h:Mod S w w'){b:Nat}(hb:b∈S∨w.heap.size≤b)(o:Nat)(u:Value):Mod S w (w'.setCell ⟨b,o,none⟩ u):=
 ⟨h.os,h.tape,h.output,by simpa using h.size,fun k hk hn=>by
  have hne:k≠b:=by rintro rfl;rcases hb with hb|hb;exact hn hb;omega
  exact(Below.heap_setCell w' ⟨b,o,none⟩ u k hne).trans (h.block k hk hn)⟩
theorem Mod.below {B:Nat}(h:Mod S w w')(hS:∀k,k∈S→B≤k)(hB:B≤w.heap.size):Below B w w':=
 ⟨h.os,h.tape,h.output,h.size,fun k hk=>h.block k (Nat.lt_of_lt_of_le hk hB) (fun hh=>absurd (hS k hh) (by omega))⟩
theorem Mod.Bf (h:Mod [] w w'):Below w.heap.size w w':=h.below (by simp) (Nat.le_refl _)
theorem aj.mod {g:Nat}{t:TypeId}{cs:Array Value}(h:aj w g t cs)(hm:Mod S w w')(hg:g∉S):aj w' g t cs:=(hm.block g h.lt hg).trans h
class Md (A:Prop)(w w':World)(B:outParam Prop)(C:outParam (List Nat→Prop)):Prop where
 md:∀{S:List Nat},A→Mod S w w'→C S→B
theorem mv {B:Prop}[i:Md A w w' B C](hm:Mod S w w')(h:Hid A)(hs:C S:=by simp<;>omega):Hid B:=qd (i.md h.out hm hs)
theorem nb {B:Prop}[i:Md A w w' B C](hb:Below w.heap.size w w')(h:Hid A)(hs:C []:=by simp):Hid B:=qd (i.md h.out (Mod.of_below hb []) hs)
instance {w w':World}{g:Nat}{t:TypeId}{cs:Array Value}:Md (aj w g t cs) w w' (aj w' g t cs) (fun S=>g∉S):=⟨fun h hm hs=>aj.mod h hm hs⟩
structure bq where
 p:Int
 v:Int
 u:Int
def oI (n:Int):Int:=min (max n 0) 1099511627776
def sI (a b:Int):Int:=min (oI a+oI b) 1099511627776
def ji (a b:bq):bq:=⟨sI a.p b.p,sI a.v b.v,sI a.u b.u⟩
def nG (c:bq):Value:= .agg #[.int .i64 c.p,.int .i64 c.v,.int .i64 c.u]
theorem Ka (n:Int):0≤oI n∧oI n≤1099511627776:=by unfold oI;omega
set_option maxHeartbeats 400000 in
theorem EM (n:Int)(w:World):Calls Tryz.prog 182 #[.int .i64 n] w fun e w'=>e= .returned (.int .i64 (oI n))∧w=w':=by
 have HC:=qd (show oI n=min (max n 0) 1099511627776 from rfl);go_in;go_wp2
 all_goals
  go_ret;exact⟨gJ (by have hc:=HC.out;first|omega|(rw[hc];first|omega|(split at* <;>omega))),rfl⟩
theorem Si {P:Program}{f:FuncId}{args:Array Value}{v:Value}(h:Calls P f args w fun e w'=>e= .returned v∧w=w'):Calls P f args w fun e w'=>e= .returned v∧w'=w:=h.mono fun _ _ ⟨a,b⟩=>⟨a,b.symm⟩
set_option maxHeartbeats 400000 in
theorem UJ (a b:Int)(w:World):Calls Tryz.prog 119 #[.int .i64 a,.int .i64 b] w fun e w'=>e= .returned (.int .i64 (sI a b))∧w=w':=by
 have HA:=qd (EM a w);have HB:=qd (EM b w);have HC:=qd (show sI a b=min (oI a+oI b) 1099511627776 from rfl);obtain⟨a0,a1⟩:=Ka a;obtain⟨b0,b1⟩:=Ka b;go_in;go_wp2_with fail;refine HA.out.mono ?_;rintro e w1 ⟨rfl,rfl⟩;go_wp2_with fail;refine HB.out.mono ?_;rintro e w1 ⟨rfl,rfl⟩;go_wp2
 all_goals
  go_ret;exact⟨gJ (by have hc:=HC.out;first|omega|(rw[hc];omega)),rfl⟩
set_option maxHeartbeats 2000000 in
set_option maxRecDepth 100000 in
theorem Bj (c d:bq)(w:World):Calls Tryz.prog 82 #[nG c,nG d] w fun e w'=>e= .returned (nG (ji c d))∧Below w.heap.size w w':=by
 have HS:=qd (fun(a b:Int) (W:World)=>UJ a b W);unfold nG ji;generalize hp:sI c.p d.p=sp;generalize hv:sI c.v d.v=sv;generalize hu:sI c.u d.u=su;have HP:=qd hp;have HV:=qd hv;have HU:=qd hu;clear hp hv hu;have hA:=aj.alloc (aj.alloc (aj.new w 98 #[.int .i64 c.p,.int .i64 c.v,.int .i64 c.u]) (.cells #[.int .i64 d.p,.int .i64 d.v,.int .i64 d.u] 98)) (.cells #[.int .i64 0,.int .i64 0,.int .i64 0] 98);have hB:=aj.alloc (aj.new (w.alloc (.cells #[.int .i64 c.p,.int .i64 c.v,.int .i64 c.u] 98)) 98 #[.int .i64 d.p,.int .i64 d.v,.int .i64 d.u]) (.cells #[.int .i64 0,.int .i64 0,.int .i64 0] 98);have hD:=aj.new ((w.alloc (.cells #[.int .i64 c.p,.int .i64 c.v,.int .i64 c.u] 98)).alloc (.cells #[.int .i64 d.p,.int .i64 d.v,.int .i64 d.u] 98)) 98 #[.int .i64 0,.int .i64 0,.int .i64 0];have hBel:Below w.heap.size w (((w.alloc (.cells #[.int .i64 c.p,.int .i64 c.v,.int .i64 c.u] 98)).alloc (.cells #[.int .i64 d.p,.int .i64 d.v,.int .i64 d.u] 98)).alloc (.cells #[.int .i64 0,.int .i64 0,.int .i64 0] 98)):=(((Below.refl _ w).alloc (Nat.le_refl _) _).alloc (by simp) _).alloc (by simp;omega) _;simp only[World.size_alloc]at hB hD
 obtain⟨W,hW⟩:∃W,W=((w.alloc (.cells #[.int .i64 c.p,.int .i64 c.v,.int .i64 c.u] 98)).alloc (.cells #[.int .i64 d.p,.int .i64 d.v,.int .i64 d.u] 98)).alloc (.cells #[.int .i64 0,.int .i64 0,.int .i64 0] 98):=⟨_,rfl⟩;rw[←hW]at hA hB hD hBel;have a0:=hA.cell 0;have a1:=hA.cell 1;have a2:=hA.cell 2;have b0:=hB.cell 0;have b1:=hB.cell 1;have b2:=hB.cell 2;have d0:=hD.cell 0;have d1:=hD.cell 1;have d2:=hD.cell 2;simp only[gl]at a0 a1 a2 b0 b1 b2 d0 d1 d2;obtain⟨f0,f1,f2⟩:=hD.f3;have HW:=qd hW;clear hW hA hB hD;go_in;go_upto_region 1 with fail;rw[←HW.out];go_still_tail 15,(by kernel_rfl)
 still_call (Si (HS.out _ _ _))
 repeat still_step
 still_call (Si (HS.out _ _ _))
 repeat still_step
 still_call (Si (HS.out _ _ _))
 refine wpStill_nil ?_;change wpList _ _ _ _ _ W.drew;go_wp2;rw[HP.out,HV.out,HU.out];refine bodyPost_ret (v:= .agg #[.int .i64 sp,.int .i64 sv,.int .i64 su]) (by simp[results,Tryz.results82,go_sem,d0,d1,d2]) rfl ⟨rfl, ?_⟩;exact(((hBel.setCell (p:=⟨w.heap.size+1+1,0,none⟩) (by simp;omega) _).setCell (p:=⟨w.heap.size+1+1,1,none⟩) (by simp;omega) _).setCell (p:=⟨w.heap.size+1+1,2,none⟩) (by simp;omega) _).drew
end Go.Proofs.YtnfjjbpmhcbelaaGreatDoor

/-! The same for what a call keeps. No statement of the claim. -/
namespace Go.Proofs.YtnfjjbpmhcbelaaGreatDoor
open Go.RowKit
theorem qM {A B:Prop}{C:List Nat→Prop}{S:List Nat}{w w':World}[i:Md A w w' B C](hm:Mod S w w')(h:Hid A)(hs:C S:=by simp<;>omega):Hid B:=Lib.hid (i.md h.out hm hs)
theorem qB {A B:Prop}{C:List Nat→Prop}{w w':World}[i:Md A w w' B C](hb:Below w.heap.size w w')(h:Hid A)(hs:C []:=by simp):Hid B:=Lib.hid (i.md h.out (Mod.of_below hb []) hs)
theorem aaq {p:World→Prop}{w w1:World}{b:Nat}{S:List Nat}{t:TypeId}{cs:Array Value}(h:aj w b t cs)(hm:Mod S w1 w)(h2:∀v,aj v b t cs∧Mod S w1 v→p v):p w:=h2 w ⟨h,hm⟩
theorem qT {S:List Nat}{w w1 w2:World}(h:Hid (Mod S w w1))(hb:Below w1.heap.size w1 w2):Hid (Mod S w w2):=Lib.hid (h.out.then (Mod.of_below hb _))
theorem qU {T U:List Nat}{w w1 w2:World}(h1:Hid (Mod U w w1))(h2:Mod T w1 w2)(hT:∀k,k∈T→k<w.heap.size→k∈U:=by intro k hk hl;simp at hk⊢<;>omega):Hid (Mod U w w2):=Lib.hid (h1.out.trans h2 (fun _ hh _=>hh) hT)
theorem Hu {p:World→Prop}{w:World}{b:Nat}{t:TypeId}{cs:Array Value}{i0:Nat}{v0:Value}(h:aj w b t cs)(k:∀v,aj v b t (cs.setIfInBounds i0 v0)∧Mod [b] w v→p v):p (w.setCell ⟨b,i0,none⟩ v0):=k _ ⟨(h.ak i0 v0),((Mod.refl [b] w).ak (.inl (by simp)) i0 v0)⟩
theorem qS2 {p:World→Prop}{w:World}{b:Nat}{t:TypeId}{cs:Array Value}{i0 i1:Nat}{v0 v1:Value}(h:aj w b t cs)(k:∀v,aj v b t ((cs.setIfInBounds i0 v0).setIfInBounds i1 v1)∧Mod [b] w v→p v):p ((w.setCell ⟨b,i0,none⟩ v0).setCell ⟨b,i1,none⟩ v1):=k _ ⟨((h.ak i0 v0).ak i1 v1),(((Mod.refl [b] w).ak (.inl (by simp)) i0 v0).ak (.inl (by simp)) i1 v1)⟩
theorem Kc {p:World→Prop}{w:World}{b:Nat}{t:TypeId}{cs:Array Value}{i0 i1 i2:Nat}{v0 v1 v2:Value}(h:aj w b t cs)(k:∀v,aj v b t (((cs.setIfInBounds i0 v0).setIfInBounds i1 v1).setIfInBounds i2 v2)∧Mod [b] w v→p v):p (((w.setCell ⟨b,i0,none⟩ v0).setCell ⟨b,i1,none⟩ v1).setCell ⟨b,i2,none⟩ v2):=k _ ⟨(((h.ak i0 v0).ak i1 v1).ak i2 v2),((((Mod.refl [b] w).ak (.inl (by simp)) i0 v0).ak (.inl (by simp)) i1 v1).ak (.inl (by simp)) i2 v2)⟩
theorem zY {p:World→Prop}{w:World}{b:Nat}{t:TypeId}{cs:Array Value}{i0 i1 i2 i3 i4 i5 i6:Nat}{v0 v1 v2 v3 v4 v5 v6:Value}(h:aj w b t cs)(k:∀v,aj v b t (((((((cs.setIfInBounds i0 v0).setIfInBounds i1 v1).setIfInBounds i2 v2).setIfInBounds i3 v3).setIfInBounds i4 v4).setIfInBounds i5 v5).setIfInBounds i6 v6)∧Mod [b] w v→p v):p (((((((w.setCell ⟨b,i0,none⟩ v0).setCell ⟨b,i1,none⟩ v1).setCell ⟨b,i2,none⟩ v2).setCell ⟨b,i3,none⟩ v3).setCell ⟨b,i4,none⟩ v4).setCell ⟨b,i5,none⟩ v5).setCell ⟨b,i6,none⟩ v6):=k _ ⟨(((((((h.ak i0 v0).ak i1 v1).ak i2 v2).ak i3 v3).ak i4 v4).ak i5 v5).ak i6 v6),((((((((Mod.refl [b] w).ak (.inl (by simp)) i0 v0).ak (.inl (by simp)) i1 v1).ak (.inl (by simp)) i2 v2).ak (.inl (by simp)) i3 v3).ak (.inl (by simp)) i4 v4).ak (.inl (by simp)) i5 v5).ak (.inl (by simp)) i6 v6)⟩
theorem Mod.sl {b:Nat}{S:List Nat}{w w':World}(h:Mod (b::S) w w')(o:Nat)(u:Value):Mod (b::S) w (w'.setCell ⟨b,o,none⟩ u):=h.ak (.inl (by simp)) o u
end Go.Proofs.YtnfjjbpmhcbelaaGreatDoor
