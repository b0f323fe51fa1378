/- A region that draws its order: the condition may be laid anew in the midst of it. No statement of the claim. -/
import Derived.Test.YtgkeameopnpinaaGreatDoorCoO
namespace Go.Proofs.YtgkeameopnpinaaGreatDoor
open Go
section
variable {P : Program} {ops : Array Oper} {Q : Exit → Act → World → Prop} {md : Region.Mode} {S : World → Prop} {n : List Nat}
theorem JQ {k i:Nat}{l:Array Bool}(h:l.getD k true=true):(l.setIfInBounds i true).getD k true=true:=by
 by_cases hi:i=k
 ·subst hi;rw[Array.getD_eq_getD_getElem?];by_cases hs:i<l.size
  ·simp[hs]
  ·rw[Array.getElem?_eq_none (by simpa using hs)];rfl
 ·rw[getD_set_ne true hi];exact h
theorem Ai {n':List Nat}{k:Nat}(hk:k∈n):∀(f:Nat) (listed:Array Bool) (a:Act) (w:World),listed.getD k true=true→bL P md ops Q (fun _=>True) n' f listed a w→bL P md ops Q S n f listed a w
 |0,_,_,_,_,h=>h
 |f+1,_,_,_,hl,h=>⟨h.1,fun i hi=>wpOp_mono (fun _ _ h'=>⟨fun e=>absurd (e k hk) (by rw[JQ hl];decide),Ai hk f _ _ _ (JQ hl) h'.2⟩) (h.2 i hi)⟩
end
end Go.Proofs.YtgkeameopnpinaaGreatDoor
