/- Seeking over a list of groups. No program in sight. -/
import Derived.Test.YtgiaobmcbbfmnaaGreatDoorTabQ
namespace Go.Proofs.YtgiaobmcbbfmnaaGreatDoor.dw
open Go
variable {gs : Tab} {hash i key : Nat} {pre rest : List Nat}
def jJ (gs:Tab)(key hash:Nat):List Nat→Option (Nat×Nat)→Option (Nat×Nat)×Option (Nat×Nat)×Nat
 | [],fr=>(none,fr,0)
 |i::is,fr=>
  match gF (gs.getD i []) key hash with
  |some s=>(some (i,s),iB fr i (gs.getD i []),1)
  |none=>if dB (gs.getD i [])then(none,iB fr i (gs.getD i []),1)else
   let r:=jJ gs key hash is (iB fr i (gs.getD i []))
   (r.1,r.2.1,r.2.2+1)
theorem Cm (gs:Tab)(key hash:Nat):∀f j fr,iK gs key hash f j fr=jJ gs key hash ((List.range f).map fun k=>bT (hash/128) gs.length (j+k)) fr
 |0,_,_=>rfl
 |f+1,j,fr=>by
  rw[List.range_succ_eq_map,List.map_cons,List.map_map];have ih:=Cm gs key hash f (j+1);unfold iK jJ;simp only[Nat.add_zero]
  have he:(List.range f).map ((fun k=>bT (hash/128) gs.length (j+k))∘Nat.succ)=(List.range f).map fun k=>bT (hash/128) gs.length (j+1+k):=by
   apply List.map_congr_left;intro k _;simp[Nat.succ_eq_add_one,Nat.add_assoc,Nat.add_comm 1 k]
  rw[he]
  cases hf:gF (gs.getD (bT (hash/128) gs.length j) []) key hash with
  |some s=>rfl
  |none=>
   cases ho:dB (gs.getD (bT (hash/128) gs.length j) [])with
   |true=>rfl
   |false=>
    simp only[Bool.false_eq_true,if_false];rw[ih]
theorem y9 (gs:Tab)(key hash:Nat):aJ gs key hash=jJ gs key hash (walk (hash/128) gs.length) none:=by
 unfold aJ walk;rw[Cm];congr 1;apply List.map_congr_left;intro k _;rw[Nat.zero_add]
def eY (gs:Tab)(pre:List Nat):Option (Nat×Nat):=pre.foldl (fun fr i=>iB fr i (gs.getD i [])) none
theorem uP (gs:Tab)(pre:List Nat)(i:Nat):eY gs (pre++[i])=iB (eY gs pre) i (gs.getD i []):=by simp[eY]
def Passed (gs:Tab)(key hash:Nat)(i:Nat):Prop:=gF (gs.getD i []) key hash=none∧dB (gs.getD i [])=false
theorem uQ (gs:Tab)(key hash:Nat):∀(pre rest:List Nat) (fr:Option (Nat×Nat)),(∀i∈pre,Passed gs key hash i)→
  jJ gs key hash (pre++rest) fr=let r:=jJ gs key hash rest (pre.foldl (fun fr i=>iB fr i (gs.getD i [])) fr);(r.1,r.2.1,r.2.2+pre.length)
 | [],rest,fr,_=>by simp
 |i::pre,rest,fr,h=>by
  obtain⟨h1,h2⟩:=h i (by simp);have ih:=uQ gs key hash pre rest (iB fr i (gs.getD i [])) (fun x hx=>h x (by simp[hx]));rw[List.cons_append,jJ,h1];simp only[h2,Bool.false_eq_true,if_false];rw[ih];simp only[List.foldl_cons,List.length_cons,Nat.add_assoc]
theorem YE (he:pre=walk (hash/128) gs.length)(h:∀i∈pre,Passed gs key hash i):aJ gs key hash=(none,eY gs pre,pre.length):=by
 rw[y9,←he];have:=uQ gs key hash pre [] none h;rw[List.append_nil]at this;rw[this];simp[jJ,eY]
theorem YF {s:Nat}(he:pre++i::rest=walk (hash/128) gs.length)(h:∀i∈pre,Passed gs key hash i)(hf:gF (gs.getD i []) key hash=some s):aJ gs key hash=(some (i,s),eY gs (pre++[i]),(pre++[i]).length):=by
 rw[y9,←he,uQ gs key hash pre _ none h,uP];unfold jJ;rw[hf];simp only[List.length_append,List.length_cons,List.length_nil,Nat.zero_add,Nat.add_comm 1];rfl
theorem VL (he:pre++i::rest=walk (hash/128) gs.length)(h:∀i∈pre,Passed gs key hash i)(hf:gF (gs.getD i []) key hash=none)(ho:dB (gs.getD i [])=true):aJ gs key hash=(none,eY gs (pre++[i]),(pre++[i]).length):=by
 rw[y9,←he,uQ gs key hash pre _ none h,uP];unfold jJ;rw[hf];simp only[ho,if_true,List.length_append,List.length_cons,List.length_nil,Nat.zero_add,Nat.add_comm 1];rfl
end Go.Proofs.YtgiaobmcbbfmnaaGreatDoor.dw
