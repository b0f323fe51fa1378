/- Seeking over a list of groups. No program in sight. -/
import Derived.Test.YtjfgpnapccdnlaaGreatDoorTabQ
namespace Go.Proofs.YtjfgpnapccdnlaaGreatDoor.dF
open Go
variable {gs : Tab} {hash i key : Nat} {pre rest : List Nat}
def jQ (gs:Tab)(key hash:Nat):List Nat→Option (Nat×Nat)→Option (Nat×Nat)×Option (Nat×Nat)×Nat
 | [],fr=>(none,fr,0)
 |i::is,fr=>
  match gJ (gs.getD i []) key hash with
  |some s=>(some (i,s),iA fr i (gs.getD i []),1)
  |none=>if dA (gs.getD i [])then(none,iA fr i (gs.getD i []),1)else
   let r:=jQ gs key hash is (iA fr i (gs.getD i []))
   (r.1,r.2.1,r.2.2+1)
theorem Ct (gs:Tab)(key hash:Nat):∀f j fr,iK gs key hash f j fr=jQ gs key hash ((List.range f).map fun k=>bR (hash/128) gs.length (j+k)) fr
 |0,_,_=>rfl
 |f+1,j,fr=>by
  rw[List.range_succ_eq_map,List.map_cons,List.map_map];have ih:=Ct gs key hash f (j+1);unfold iK jQ;simp only[Nat.add_zero]
  have he:(List.range f).map ((fun k=>bR (hash/128) gs.length (j+k))∘Nat.succ)=(List.range f).map fun k=>bR (hash/128) gs.length (j+1+k):=by
   apply List.map_congr_left;intro k _;simp[Nat.succ_eq_add_one,Nat.add_assoc,Nat.add_comm 1 k]
  rw[he]
  cases hf:gJ (gs.getD (bR (hash/128) gs.length j) []) key hash with
  |some s=>rfl
  |none=>
   cases ho:dA (gs.getD (bR (hash/128) gs.length j) [])with
   |true=>rfl
   |false=>
    simp only[Bool.false_eq_true,if_false];rw[ih]
theorem y7 (gs:Tab)(key hash:Nat):aK gs key hash=jQ gs key hash (walk (hash/128) gs.length) none:=by
 unfold aK walk;rw[Ct];congr 1;apply List.map_congr_left;intro k _;rw[Nat.zero_add]
def fD (gs:Tab)(pre:List Nat):Option (Nat×Nat):=pre.foldl (fun fr i=>iA fr i (gs.getD i [])) none
theorem uK (gs:Tab)(pre:List Nat)(i:Nat):fD gs (pre++[i])=iA (fD gs pre) i (gs.getD i []):=by simp[fD]
def Passed (gs:Tab)(key hash:Nat)(i:Nat):Prop:=gJ (gs.getD i []) key hash=none∧dA (gs.getD i [])=false
theorem uL (gs:Tab)(key hash:Nat):∀(pre rest:List Nat) (fr:Option (Nat×Nat)),(∀i∈pre,Passed gs key hash i)→
  jQ gs key hash (pre++rest) fr=let r:=jQ gs key hash rest (pre.foldl (fun fr i=>iA fr i (gs.getD i [])) fr);(r.1,r.2.1,r.2.2+pre.length)
 | [],rest,fr,_=>by simp
 |i::pre,rest,fr,h=>by
  obtain⟨h1,h2⟩:=h i (by simp);have ih:=uL gs key hash pre rest (iA fr i (gs.getD i [])) (fun x hx=>h x (by simp[hx]));rw[List.cons_append,jQ,h1];simp only[h2,Bool.false_eq_true,if_false];rw[ih];simp only[List.foldl_cons,List.length_cons,Nat.add_assoc]
theorem Zm (he:pre=walk (hash/128) gs.length)(h:∀i∈pre,Passed gs key hash i):aK gs key hash=(none,fD gs pre,pre.length):=by
 rw[y7,←he];have:=uL gs key hash pre [] none h;rw[List.append_nil]at this;rw[this];simp[jQ,fD]
theorem Zn {s:Nat}(he:pre++i::rest=walk (hash/128) gs.length)(h:∀i∈pre,Passed gs key hash i)(hf:gJ (gs.getD i []) key hash=some s):aK gs key hash=(some (i,s),fD gs (pre++[i]),(pre++[i]).length):=by
 rw[y7,←he,uL gs key hash pre _ none h,uK];unfold jQ;rw[hf];simp only[List.length_append,List.length_cons,List.length_nil,Nat.zero_add,Nat.add_comm 1];rfl
theorem Wx (he:pre++i::rest=walk (hash/128) gs.length)(h:∀i∈pre,Passed gs key hash i)(hf:gJ (gs.getD i []) key hash=none)(ho:dA (gs.getD i [])=true):aK gs key hash=(none,fD gs (pre++[i]),(pre++[i]).length):=by
 rw[y7,←he,uL gs key hash pre _ none h,uK];unfold jQ;rw[hf];simp only[ho,if_true,List.length_append,List.length_cons,List.length_nil,Nat.zero_add,Nat.add_comm 1];rfl
end Go.Proofs.YtjfgpnapccdnlaaGreatDoor.dF
