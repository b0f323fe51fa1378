/- Scale's question of all weights: its closure, slices.IndexFunc, ContainsFunc. No statement of the claim. -/
import Derived.Test.YtgkeameopnpinaaGreatDoorTyE
import Derived.Test.YtgkeameopnpinaaGreatDoorLaneP
namespace Go.Proofs.YtgkeameopnpinaaGreatDoor
set_option maxRecDepth 100000
set_option maxHeartbeats 4000000
open Go.RowKit bY rZ lH
variable {B a bf c f : Nat} {A : Option Addr} {l : PL} {w : World}
def Aj (a f:Nat):Nat:=(Ieee.double.mul a f).getD 0
theorem PS (ha:gV a=true)(hf:gV f=true):Ieee.double.mul a f=some (Aj a f):=by
 obtain⟨r,hr⟩:=aah ha hf;unfold Aj;rw[hr];rfl
theorem Ia (h:a<9218868437227405312):gV a=true:=by
 unfold gV rung;exact decide_eq_true (by omega)
theorem U7 (p:Nat×Nat)(f bf:Nat)(hp:p.2<9218868437227405312)(hf:gV f=true)(w:World)(hb:w.cell? ⟨bf,0,none⟩=some (.float .f64 f)):
  Calls Tryz.prog 17 #[.agg #[nU p.1,.float .f64 p.2],pQ bf] w fun e w'=>e= .returned (.bool (pI (Aj p.2 f)))∧Below w.heap.size w w':=by
 have hm:=PS (Ia hp) hf;obtain⟨r,hr⟩:∃r,r=Aj p.2 f:=⟨_,rfl⟩;rw[←hr]at hm⊢;have hmul:=fun t W=>Ny hm t W;have HI:=qd (fun(W:World)=>DX r (Nz hm) W);have hw1:=(Below.refl w.heap.size w).alloc (Nat.le_refl _) (.cells #[nU p.1,.float .f64 p.2] 43);have hf1:=aD hw1 hb;have hN:=aj.new w 43 #[nU p.1,.float .f64 p.2];obtain⟨w1,hw⟩:∃w1,w1=w.alloc (.cells #[nU p.1,.float .f64 p.2] 43):=⟨_,rfl⟩;rw[←hw]at hw1 hf1 hN;have x1:=hN.cell 1;simp only[gl]at x1;have HW:=qd hw;have HB:=qd hw1;clear hp hf hb hm hr hw hw1 hN;go_in;go_upto_region 1 with fail;rw[←HW.out];go_wp2_with fail;refine(HI.out _).mono ?_;rintro e wq ⟨rfl,rfl⟩;go_wp2;refine bodyPost_ret (v:= .bool (pI r)) (by simp[results,Tryz.results17,go_sem]) rfl ⟨rfl,HB.out⟩
theorem acB (h:Reads w B 2 A l.length (l.flatMap wC))(hn:l.length≤65536)(hw:EL l)(hf:gV f=true)(hb:w.cell? ⟨bf,0,none⟩=some (.float .f64 f)):
  Calls Tryz.prog 32 #[.slice A l.length c,.func (.func 17) #[] #[pQ bf]] w fun e w'=>∃z:Int,e= .returned (.int .i64 z)∧(z<0→∀p∈l,pI (Aj p.2 f)=false)∧Below w.heap.size w w':=by
 have HR:=qd h;have HC:=qd (fun(W:World) (hB:Below w.heap.size w W) (p:Nat×Nat) (hp:p∈l)=>U7 p f bf (hw p hp) hf W (aD hB hb));have HB0:=qd (Below.refl w.heap.size w);clear h hw hf hb;go_in;go_wp2;go_loopw [4,5,8] (fun _ _ i wr=>∃k:Nat,k≤l.length∧i= .int .i64 k∧Hid (∀p∈l.take k,pI (Aj p.2 f)=false)∧Hid (Below w.heap.size w wr)) (fun _ _ i _=>l.length-(intOf i).toNat)
 case atStart=>exact⟨0,by omega,rfl,qd (by simp),HB0⟩
 case round=>
  clear HB0;obtain⟨k,hk,rfl,HA,HB⟩:=hrel;by_cases hlt:k<l.length
  ·obtain⟨p,hp⟩:∃p,l[k]?=some p:=⟨_,List.getElem?_eq_getElem hlt⟩;obtain⟨g,off,hA,hgl,hc⟩:=HR.out.2 (by omega);have r0:wr.cell? ⟨g,off+k*2,none⟩=some (nU p.1):=aD HB.out (hc (k*2+0) _ (Gt hp (by omega)));have r1:wr.cell? ⟨g,off+k*2+1,none⟩=some (.float .f64 p.2):=aD HB.out (hc (k*2+1) _ (Gt hp (by omega)));subst hA
   have hlt':(k:Int)<(l.length:Int):=by omega
   have hk0:(0:Int)≤(k:Int):=by omega
   have hwk:IntKind.i64.wrap ((k:Int)+1)=((k+1:Nat):Int):=by rw[IntKind.wrap_i64];omega
   have HF:=qd (HC.out wr HB.out p (List.mem_of_getElem? hp));have HT:=qd (show l.take (k+1)=l.take k++[p]from by rw[List.take_add_one,hp];rfl);clear hp hc
   cases hq:pI (Aj p.2 f)with
   |false=>
    have HQ:=qd hq;rw[hq]at HF;clear hq;go_wp2_with fail;refine HF.out.mono ?_;rintro e w1 ⟨rfl,hb1⟩;have HB1:=qd (HB.out.trans (hb1.mono HB.out.size));clear hb1 HF;go_wp2;go_roundw
    case rel=>exact⟨k+1,by omega,by go_num,qd (by
     intro q hq';rw[HT.out]at hq';rcases List.mem_append.1 hq' with h1|h1
     ·exact HA.out q h1
     ·rw[List.mem_singleton.1 h1];exact HQ.out),HB1⟩
    case measure=>simp[intOf];omega
   |true=>
    rw[hq]at HF;clear hq;go_wp2_with fail;refine HF.out.mono ?_;rintro e w1 ⟨rfl,hb1⟩;have HB1:=qd (HB.out.trans (hb1.mono HB.out.size));clear hb1 HF;go_wp2;refine bodyPost_ret (v:=nI k) (by simp[results,Tryz.results32,go_sem]) rfl ⟨k,rfl,fun hz=>by omega,HB1.out⟩
  ·obtain rfl:k=l.length:=by omega
   have hlt':¬(l.length:Int)<(l.length:Int):=by omega
   have ha:=HA.out;rw[List.take_length]at ha;have HA2:=qd ha;clear ha HA;go_wp2;refine bodyPost_ret (v:= .int .i64 (-1)) (by simp[results,Tryz.results32,go_sem]) rfl ⟨-1,rfl,fun _ a b h=>HA2.out (a,b) h,HB.out⟩
theorem acC (h:Reads w B 2 A l.length (l.flatMap wC))(hn:l.length≤65536)(hw:EL l)(hf:gV f=true)(hb:w.cell? ⟨bf,0,none⟩=some (.float .f64 f)):
  Calls Tryz.prog 16 #[.slice A l.length c,.func (.func 17) #[] #[pQ bf]] w fun e w'=>∃z:Bool,e= .returned (.bool z)∧(z=false→∀p∈l,pI (Aj p.2 f)=false)∧Below w.heap.size w w':=by
 have HI:=qd (acB (c:=c) h hn hw hf hb);clear h hw hf hb;go_in;go_wp2_with fail;refine HI.out.mono ?_;rintro e w1 ⟨z,rfl,hz,hb1⟩;have HZ:=qd hz;have HB:=qd hb1;clear hz hb1 HI;go_wp2;refine bodyPost_ret (v:= .bool (decide (z≥0))) (by simp[results,Tryz.results16,go_sem]) rfl ⟨_,rfl,fun hz=>HZ.out (by have:=of_decide_eq_false hz;omega),HB.out⟩
end Go.Proofs.YtgkeameopnpinaaGreatDoor
