/- Package fmap by its contracts. No statement of the claim. -/
import Derived.Test.YtnfjjbpmhcbelaaGreatDoorMpA
import Derived.Test.YtnfjjbpmhcbelaaGreatDoorAppAny
import Derived.Test.YtnfjjbpmhcbelaaGreatDoorGaugeA
import Derived.Test.YtnfjjbpmhcbelaaGreatDoorCoG
import Derived.Test.YtnfjjbpmhcbelaaGreatDoorCoCP
import Derived.Test.YtnfjjbpmhcbelaaGreatDoorCoBV
import Derived.Test.YtnfjjbpmhcbelaaGreatDoorCoDA
import Derived.Test.YtnfjjbpmhcbelaaGreatDoorRmA
import Derived.Shelf.SlSortCmp.Insertion
import Derived.Shelf.GgSortFunc.InsertionK
namespace Go.Proofs.YtnfjjbpmhcbelaaGreatDoor
set_option maxRecDepth 100000
set_option maxHeartbeats 4000000
open Go.RowKit dI kM
open Go.Sort (Holds PermIn SortedIn SWO putRow putCells grow mapBlock onCells HoldsK putRowK flatK get_flatK size_flatK)
section
variable {E : Nat → Addr} {W0 w : World} {its : List It} {I K M b fb gv n : Nat} {G : List Nat} {R : Nat → Option Nat}
theorem Xd (hE:Env W0 E w)(k m i:Int)(hcf:oD k m i=true)(K M I:Nat)(hkm:(1≤K∧K≤64)∧(1≤M∧M≤192)∧k=(K:Int)∧m=(M:Int)∧i=(I:Int))(EO:1≤I∧I≤8):Calls Tryz.prog 5 #[gL k m i] w fun y w'=>∃fb b G,y= .returned (.tuple #[pQ fb,.nilIface])∧dS W0 E K M I fb b G w' (fun _=>none) 0 [] 0∧(∀q∈G,w.heap.size≤q)∧Below w.heap.size w w':=by
 have hb0:=(Below.refl w.heap.size w).alloc (Nat.le_refl _) (.cells #[.int .i64 k,.int .i64 m,.int .i64 i] 23);have hX:=aj.new w 23 #[.int .i64 k,.int .i64 m,.int .i64 i];obtain⟨W,hW⟩:∃W,W=w.alloc (.cells #[.int .i64 k,.int .i64 m,.int .i64 i] 23):=⟨_,rfl⟩;rw[←hW]at hb0 hX;obtain⟨x0,x1,x2⟩:=hX.c3;have hn:=ac4 iP (hE.next hb0) k m i hcf K M I hkm EO;unfold gL at hn⊢;have HN:=qd hn;have HB:=qd hb0;have HW:=qd hW;have HE:=qd hE.size;clear hn hb0 hX hE hcf hkm EO hW;go_in;go_upto_region 1 with fail;rw[←HW.out];go_wp2_with fail;refine HN.out.mono ?_;rintro y w2 ⟨b,G,rfl,hA,hG,hb⟩;have hfa:=hA.facts.1;have hsz:=HB.out.size;have hs2:=hb.size;have hb2:=jq HB.out hb;have hal:=hb2.alloc (by omega) (.cells #[pQ b] 74);have HAl:=qd hal;have HH:=qd (show dS W0 E K M I w2.heap.size b (w2.heap.size::G) (w2.alloc (.cells #[pQ b] 74)) (fun _=>none) 0 [] 0 from⟨G,_,_,_,aj.new w2 74 #[pQ b],hA.below ((Below.refl _ _).alloc (Nat.le_refl _) _),rfl,fun hg=>Nat.lt_irrefl _ (hfa _ hg).1,by have:=HE.out;omega,by rw[TS];rfl,by rw[TS];rfl⟩)
 have HF:=qd (show∀p∈w2.heap.size::G,w.heap.size≤p from fun p hp=>by
  rcases List.mem_cons.1 hp with rfl|k
  ·omega
  ·have:=hG p k;omega)
 clear hA hG hb hfa hs2 hal HN hsz hb2 x0 x1 x2;go_wp2;refine bodyPost_ret (v:= .tuple #[pQ w2.heap.size,.nilIface]) (by simp[results,Tryz.results5,go_sem]) rfl ⟨_,b,_,rfl,HH.out,HF.out,HAl.out⟩
theorem ac8 (h:dS W0 E K M I fb b G w R n its gv):Calls Tryz.prog 26 #[pQ fb] w fun y w'=>y= .returned (pQ b)∧w=w':=by
 obtain⟨F,a,ids,d9,hB,hR,rfl,hne,h0,hfn,hln⟩:=h;have c0:=hB.cell 0;simp only[List.getElem?_toArray,List.getElem?_cons_zero]at c0;clear hB hR hne h0 hfn hln;go_in;go_wp2;go_ret;exact⟨rfl,rfl⟩
theorem Xe (h:dS W0 E K M I fb b G w R n its gv):Calls Tryz.prog 18 #[pQ fb] w fun y w'=>y= .returned (nI n)∧w=w':=by
 obtain⟨F,a,ids,d9,hB,hR,rfl,hne,h0,hfn,hln⟩:=h;have c0:=hB.cell 0;simp only[List.getElem?_toArray,List.getElem?_cons_zero]at c0;have HL:=qd (ac1 hR);rw[hln]at HL;clear hB hR hne h0 hfn hln;go_in;go_wp2_with fail;refine HL.out.mono ?_;rintro y w1 ⟨rfl,rfl⟩;go_wp2;go_ret;exact⟨rfl,rfl⟩
theorem Pn (h:dS W0 E K M I fb b G w R n its gv)(x:Nat)(hx:x<18446744073709551616):Calls Tryz.prog 17 #[pQ fb,.float .f64 x] w fun y w'=>y= .returned (.tuple #[.float .f64 ((R (aA x)).getD 0),.bool (R (aA x)).isSome])∧lY W0 E K M I fb b G w w' R n its gv:=by
 obtain⟨F,a,ids,d9,hB,hR,rfl,hne,h0,hfn,hln⟩:=h;have c0:=hB.cell 0;simp only[List.getElem?_toArray,List.getElem?_cons_zero]at c0;have sM:=hR.below (Below.refl w.heap.size w).drew;have hg:=ac5 sM (aA x) (FX _);have HK:=qd (fun(W:World)=>vk x hx W);have HH:=qd (fun(W:World)=>yM x hx W);have hxx:=@run_callFunc_extern Tryz.prog 37 _ Extern.MathFloatBits.float64frombits Tryz.func37 (by kernel_rfl) (by kernel_rfl) (by kernel_rfl) (by kernel_rfl);have GZ:=fun(n:Int) (W:World)=>show(Extern.MathFloatBits.float64frombits #[.int .u64 n]).run Tryz.prog W= .ok (.float .f64 n.toNat) W from rfl;have HB:=qd hB;have eH:=qd (And.intro hne h0);have HF:=qd (And.intro hfn hln);rw[show R (aA x)=(look a.ents (aA x)).map av.val from by rw[←hfn];rfl];clear hB hR sM hne h0 hfn hln;unfold GL at hg
 cases hl:look a.ents (aA x)with
 |none=>
  rw[hl]at hg;have HG:=qd (show Calls Tryz.prog 41 #[pQ b,.int .u64 (aA x:Int),.int .u64 (iP (aA x):Int)] w.drew (fun y w'=>y= .returned (.tuple #[.int .u64 0,.bool false])∧∃gD,mW W0 E iP K M I b F w.drew w' a ids its gv gD)from hg);clear hl hg;go_in;go_upto_region 1 with fail;refine rT (fun(w':World)=>w'.cell? ⟨fb,0,none⟩=some (pQ b)) [8] ?_;have hHeld:=c0;refine vW 0 rfl ?_;refine vW 1 rfl ?_;refine vW 2 rfl ?_;refine vT 3 rfl ?_;refine vW 4 rfl ?_;refine vW 6 rfl ?_;refine nT 5 rfl fun K hK=> ?_;go_simp;refine(HK.out _).mono ?_;rintro y1 wq ⟨rfl,rfl⟩;go_wp2_with fail;have hHeld:=c0;refine kO hK ?_;clear hK K;refine nT 7 rfl fun K hK=> ?_;go_simp;refine(HH.out _).mono ?_;rintro y1 wq ⟨rfl,rfl⟩;go_wp2_with fail;have hHeld:=c0;refine kO hK ?_;clear hK K;refine nT 8 rfl fun K hK=> ?_;go_simp;refine HG.out.mono ?_;rintro y1 w1 ⟨rfl,ZT,hto⟩;have HT:=qd (lY.Ey (dS.of HB.out.drew eH.out.1 eH.out.2 hto HF.out.1 HF.out.2));clear hto HG HB eH HF;go_wp2_with fail;refine kO hK ?_;clear hK K;refine vL 9 rfl ?_;refine vL 10 rfl ?_;refine vL 11 rfl ?_;refine vL 12 rfl ?_;refine vL 13 rfl ?_;refine aR (by kernel_rfl) ?_ _;go_wp2;refine bodyPost_ret (v:= .tuple #[.float .f64 0,.bool false]) (by simp[results,Tryz.results17,go_sem]) rfl ⟨rfl,HT.out⟩
 |some e=>
  rw[hl]at hg;have HG:=qd (show Calls Tryz.prog 41 #[pQ b,.int .u64 (aA x:Int),.int .u64 (iP (aA x):Int)] w.drew (fun y w'=>y= .returned (.tuple #[nU e.val,.bool true])∧∃gD,mW W0 E iP K M I b F w.drew w' a ids its gv gD)from hg);clear hl hg;go_in;go_upto_region 1 with fail;refine rT (fun(w':World)=>w'.cell? ⟨fb,0,none⟩=some (pQ b)) [8] ?_;have hHeld:=c0;refine vW 0 rfl ?_;refine vW 1 rfl ?_;refine vW 2 rfl ?_;refine vT 3 rfl ?_;refine vW 4 rfl ?_;refine vW 6 rfl ?_;refine nT 5 rfl fun K hK=> ?_;go_simp;refine(HK.out _).mono ?_;rintro y1 wq ⟨rfl,rfl⟩;go_wp2_with fail;have hHeld:=c0;refine kO hK ?_;clear hK K;refine nT 7 rfl fun K hK=> ?_;go_simp;refine(HH.out _).mono ?_;rintro y1 wq ⟨rfl,rfl⟩;go_wp2_with fail;have hHeld:=c0;refine kO hK ?_;clear hK K;refine nT 8 rfl fun K hK=> ?_;go_simp;refine HG.out.mono ?_;rintro y1 w1 ⟨rfl,ZT,hto⟩;have HT:=qd (lY.Ey (dS.of HB.out.drew eH.out.1 eH.out.2 hto HF.out.1 HF.out.2));clear hto HG HB eH HF;go_wp2_with fail;refine kO hK ?_;clear hK K;refine vL 9 rfl ?_;refine vL 10 rfl ?_;refine vL 11 rfl ?_;refine vL 12 rfl ?_;refine vL 13 rfl ?_;refine aR (by kernel_rfl) ?_ _;go_wp2;refine bodyPost_ret (v:= .tuple #[.float .f64 e.val,.bool true]) (by simp[results,Tryz.results17,go_sem]) rfl ⟨rfl,HT.out⟩
theorem JW (h:dS W0 E K M I fb b G w R n its gv)(x v:Nat)(hx:x<18446744073709551616)(hv:v<18446744073709551616):Calls Tryz.prog 10 #[pQ fb,.float .f64 x,.float .f64 v] w fun y w'=>y= .returned (jf E (if noRoom M (R (aA x)) n then 2 else 0))∧lY W0 E K M I fb b G w w' (qC M R n (aA x) (aQ v)) (qZ M (R (aA x)) n) its gv:=by
 obtain⟨F,a,ids,d9,hB,hR,rfl,hne,h0,hfn,hln⟩:=h;have c0:=hB.cell 0;simp only[List.getElem?_toArray,List.getElem?_cons_zero]at c0;have sM:=hR.below (Below.refl w.heap.size w).drew;have hnd:=hR.facts.2.1;have hp:=ac3 sM ⟨aA x,aQ v,iP (aA x)⟩ ⟨rfl,FX _,Em hx,ko hv⟩;obtain⟨V,hV⟩:∃V,V=jf E (if noRoom M (R (aA x)) n then 2 else 0):=⟨_,rfl⟩;rw[show jf E (tL M a.ents (⟨aA x,aQ v,iP (aA x)⟩:av).key)=V from by rw[hV];unfold tL;rw[aaL,hln,show zq a.ents=R from hfn]]at hp;rw[←hV];have HP:=qd (show Calls Tryz.prog 34 #[pQ b,.int .u64 (aA x:Int),.int .u64 (aQ v:Int),.int .u64 (iP (aA x):Int)] w.drew (fun y w'=>y= .returned V∧∃a' aK gD,mW W0 E iP K M I b F w.drew w' a' aK its gv gD∧BK iP K M a ids ⟨aA x,aQ v,iP (aA x)⟩ a' aK)from hp);have HK:=qd (fun(W:World)=>vk x hx W);have HH:=qd (fun(W:World)=>yM x hx W);have HV:=qd (fun(W:World)=>GX v W);have HB:=qd hB;have eH:=qd (And.intro hne h0);have HF:=qd (And.intro hfn hln);have HD:=qd hnd;clear hp hB hR sM hne h0 hfn hln hnd hV;go_in;go_upto_region 1 with fail;refine rT (fun(w':World)=>w'.cell? ⟨fb,0,none⟩=some (pQ b)) [10] ?_;have hHeld:=c0;refine vW 0 rfl ?_;refine vW 1 rfl ?_;refine vW 2 rfl ?_;refine vT 3 rfl ?_;refine vW 4 rfl ?_;refine vW 6 rfl ?_;refine vW 8 rfl ?_;refine nT 5 rfl fun K hK=> ?_;go_simp;refine(HK.out _).mono ?_;rintro y1 wq ⟨rfl,rfl⟩;go_wp2_with fail;have hHeld:=c0;refine kO hK ?_;clear hK K;refine nT 7 rfl fun K hK=> ?_;go_simp;refine(HV.out _).mono ?_;rintro y1 wq ⟨rfl,rfl⟩;go_wp2_with fail
 have hHeld:=c0;refine kO hK ?_;clear hK K;refine nT 9 rfl fun K hK=> ?_;go_simp;refine(HH.out _).mono ?_;rintro y1 wq ⟨rfl,rfl⟩;go_wp2_with fail;have hHeld:=c0;refine kO hK ?_;clear hK K;refine nT 10 rfl fun K hK=> ?_;go_simp;refine HP.out.mono ?_;rintro y1 w1 ⟨rfl,a1,bM,ZT,hto,hpr⟩;have Po:=hto.choose_spec.1.facts.2.1;have hfp:=abE HD.out Po hpr.1;rw[show zq a.ents=R from HF.out.1,HF.out.2]at hfp;have HT:=qd (lY.Ey (dS.of HB.out.drew eH.out.1 eH.out.2 hto hfp.1 hfp.2));clear hto hpr HP HB eH HF hfp Po;go_wp2_with fail;refine kO hK ?_;clear hK K;refine vL 11 rfl ?_;refine aR (by kernel_rfl) ?_ _;go_wp2;refine bodyPost_ret (v:=V) (by simp[results,Tryz.results10,go_sem]) rfl ⟨rfl,HT.out⟩
theorem ZU {k v:Nat}(hn:n<M):noRoom M (R k) n=false∧qC M R n k v=qA R k (some v)∧qZ M (R k) n=Rz (R k) n:=by
 have h1:noRoom M (R k) n=false:=by unfold noRoom;rw[show decide (M≤n)=false by simp;omega,Bool.and_false]
 refine⟨h1, ?_, ?_⟩
 ·unfold qC qA;rw[h1];rfl
 ·unfold qZ Rz;rw[show decide (M≤n)=false by simp;omega,Bool.or_false]
theorem Xf (h:dS W0 E K M I fb b G w R n its gv)(x v:Nat)(hx:x<18446744073709551616)(hv:v<18446744073709551616)(hn:n<M):Calls Tryz.prog 10 #[pQ fb,.float .f64 x,.float .f64 v] w fun y w'=>y= .returned .nilIface∧lY W0 E K M I fb b G w w' (qA R (aA x) (some (aQ v))) (Rz (R (aA x)) n) its gv:=by
 have h1:=ZU (R:=R) (k:=aA x) (v:=aQ v) hn;have h2:=JW h x v hx hv;rw[h1.1,h1.2.1,h1.2.2]at h2;exact h2
theorem Xg (h:dS W0 E K M I fb b G w R n its gv)(x:Nat)(hx:x<18446744073709551616):Calls Tryz.prog 15 #[pQ fb,.float .f64 x] w fun y w'=>y= .returned (.bool (R (aA x)).isSome)∧lY W0 E K M I fb b G w w' (qA R (aA x) none) (dnN (R (aA x)) n) its gv:=by
 obtain⟨F,a,ids,d9,hB,hR,rfl,hne,h0,hfn,hln⟩:=h;have c0:=hB.cell 0;simp only[List.getElem?_toArray,List.getElem?_cons_zero]at c0;have sM:=hR.below (Below.refl w.heap.size w).drew;have hnd:=hR.facts.2.1;have hp:=WZ sM ⟨aA x,0,iP (aA x)⟩ ⟨rfl,FX _,Em hx,by show 0<_;decide⟩
 have hqs:(look a.ents (aA x)).isSome=(R (aA x)).isSome:=by rw[←hfn];show _=((look a.ents (aA x)).map av.val).isSome;simp
 have HP:=qd (show Calls Tryz.prog 40 #[pQ b,.int .u64 (aA x:Int),.int .u64 (iP (aA x):Int)] w.drew (fun y w'=>y= .returned (.bool (R (aA x)).isSome)∧∃a' aK gD,mW W0 E iP K M I b F w.drew w' a' aK its gv gD∧a'.ents.Perm (rest a.ents (aA x)))from by rw[←hqs];exact hp);have HK:=qd (fun(W:World)=>vk x hx W);have HH:=qd (fun(W:World)=>yM x hx W);have HB:=qd hB;have eH:=qd (And.intro hne h0);have HF:=qd (And.intro hfn hln);have HD:=qd hnd;clear hp hB hR sM hne h0 hfn hln hnd hqs;go_in;go_upto_region 1 with fail;refine rT (fun(w':World)=>w'.cell? ⟨fb,0,none⟩=some (pQ b)) [8] ?_;have hHeld:=c0;refine vW 0 rfl ?_;refine vW 1 rfl ?_;refine vW 2 rfl ?_;refine vT 3 rfl ?_;refine vW 4 rfl ?_;refine vW 6 rfl ?_;refine nT 5 rfl fun K hK=> ?_;go_simp;refine(HK.out _).mono ?_;rintro y1 wq ⟨rfl,rfl⟩;go_wp2_with fail;have hHeld:=c0;refine kO hK ?_;clear hK K;refine nT 7 rfl fun K hK=> ?_;go_simp;refine(HH.out _).mono ?_;rintro y1 wq ⟨rfl,rfl⟩;go_wp2_with fail;have hHeld:=c0;refine kO hK ?_;clear hK K;refine nT 8 rfl fun K hK=> ?_;go_simp;refine HP.out.mono ?_;rintro y1 w1 ⟨rfl,a1,bM,ZT,hto,hpr⟩;have Po:=hto.choose_spec.1.facts.2.1;have hfp:=ac6 HD.out Po hpr;rw[HF.out.1,HF.out.2]at hfp;have HT:=qd (lY.Ey (dS.of HB.out.drew eH.out.1 eH.out.2 hto hfp.1 hfp.2));clear hto hpr HP HB eH HF hfp Po;go_wp2_with fail;refine kO hK ?_;clear hK K;refine vL 9 rfl ?_;refine aR (by kernel_rfl) ?_ _;go_wp2
 refine bodyPost_ret (v:= .bool (R (aA x)).isSome) (by simp[results,Tryz.results15,go_sem]) rfl ⟨rfl,HT.out⟩
end
section
variable {j key m : Nat} {es : List av} {e : av}
def aeC (es:List av)(key:Nat)(y:Int):Prop:=(∃(i:Nat) (e:av),es[i]?=some e∧e.key=key∧y=(i:Int)∧∀k,k<i→∀e',es[k]?=some e'→e'.key≠key)∨((∀e∈es,e.key≠key)∧y= -1)
end
section
variable {es : List av} {j key : Nat} {e : av}
def without (es:List av)(key j:Nat):List av:=(es.take j).filter fun x=>x.key !=key
end
section
section
variable {w w' : World} {base mb M : Nat} {es : List av} {R : List Nat}
end
def cutAt (y:Option av)(hi:Nat):Option av:=match y with|none=>none|some m=>if m.hash≤hi then some m else none
end
section
variable {l : List av} {m : av} {b base : Nat} {w : World} {v : Value}
def Asc (l:List av):Prop:=l.Pairwise fun x y=>bF x y=true
theorem Asc.nodup (h:Asc l):l.Nodup:=h.imp fun hxy e=>by rw[e,zL]at hxy;cases hxy
theorem ZV (h:Asc l)(hm:∀e∈l,bF e m=true):Asc (l++[m]):=List.pairwise_append.2 ⟨h,List.pairwise_singleton _ _,fun x hx y hy=>by rw[List.mem_singleton.1 hy];exact hm x hx⟩
def below_ (hs:List Nat)(b:Nat):Nat:=(hs.filter fun h=>decide (h<b)).length
theorem xw (hs:List Nat){a:Nat}(h:a≤b):below_ hs a≤below_ hs b:=by
 unfold below_
 induction hs with
 |nil=>simp
 |cons x l ih=>
  simp only[List.filter_cons];by_cases h1:x<a
  ·rw[if_pos (by simpa using h1),if_pos (by simp;omega)];simp only[List.length_cons];omega
  ·rw[if_neg (by simpa using h1)]
   split<;>(try simp only[List.length_cons])<;>omega
theorem BS {hs:List Nat}{a x:Nat}(hx:x∈hs)(h1:a≤x)(h2:x<b):below_ hs a+1≤below_ hs b:=by
 obtain⟨s,t,rfl⟩:=List.append_of_mem hx;have g1:=xw s (Nat.le_trans h1 (Nat.le_of_lt h2));have g2:=xw t (Nat.le_trans h1 (Nat.le_of_lt h2));unfold below_ at g1 g2⊢;rw[List.filter_append,List.filter_append,List.filter_cons,List.filter_cons,if_neg (by simp;omega),if_pos (by simp;omega)];simp only[List.length_append,List.length_cons];omega
theorem below_le (hs:List Nat)(b:Nat):below_ hs b≤hs.length:=List.length_filter_le _ _
structure lM (es:List av)(hs:List Nat)(n:Nat)(out:List av)(key hash:Nat):Prop where
 j5:Asc out
 mem:∀e,e∈out↔e∈es∧bF e ⟨key,0,hash⟩=true
 cnt:n≤out.length+below_ hs hash
section
variable {es out : List av} {hs : List Nat} {n key hash hi : Nat}
theorem lM.start (es:List av)(hs:List Nat):lM es hs 0 [] 0 0:=⟨.nil,fun e=>by simp[bF],Nat.zero_le _⟩
theorem Lr {l':List av}(hn:l.Nodup)(hs:∀x∈l,x∈l'):l.length≤l'.length:=by
 induction l generalizing l' with
 |nil=>exact Nat.zero_le _
 |cons x l ih=>
  rw[List.nodup_cons]at hn;obtain⟨s,t,rfl⟩:=List.append_of_mem (hs x (by simp))
  have h1:=ih (l':=s++t) hn.2 (fun y hy=>by
   have:=hs y (by simp[hy]);simp only[List.mem_append,List.mem_cons]at this⊢;rcases this with h|h|h
   ·exact .inl h
   ·rw[h]at hy;exact absurd hy hn.1
   ·exact .inr h)
  simp only[List.length_append,List.length_cons]at h1⊢;omega
theorem lM.len (h:lM es hs n out key hash):out.length≤es.length:=Lr h.j5.nodup (fun e he=>((h.mem e).1 he).1)
theorem lM.few (h:lM es hs n out key hash)(h1:es.length≤192)(h2:hs.length≤32):n≤224:=by
 have:=h.cnt;have:=h.len;have:=below_le hs hash;omega
theorem lM.some_ (h:lM es hs n out key hash)(hn:(es.map av.key).Nodup)(hm:fU ⟨key,0,hash⟩ (upto es hi) (some m)):lM es hs (n+1) (out++[m]) (m.key+1) m.hash∧(∀e∈out,bF e m=true)∧m.hash≤hi∧m∈es:=by
 obtain⟨m1,m2⟩:=pz.1 hm.1
 have hlt:∀e∈out,bF e m=true:=fun e he=>by
  have h1:=((h.mem e).1 he).2;have h2:=hm.2.1;simp[bF]at h1 h2⊢;omega
 have hh:=Lj hm.2.1;refine⟨⟨ZV h.j5 hlt,fun e=>⟨fun he=> ?_,fun he=> ?_⟩, ?_⟩,hlt,m2,m1⟩
 ·rcases List.mem_append.1 he with h1|h1
  ·refine⟨((h.mem e).1 h1).1, ?_⟩;have:=hlt e h1;simp[bF]at this⊢;omega
  ·rw[List.mem_singleton.1 h1];exact⟨m1,by simp[bF]⟩
 ·rw[List.mem_append,List.mem_singleton]
  cases hl:bF e ⟨key,0,hash⟩with
  |true=>exact .inl ((h.mem e).2 ⟨he.1,hl⟩)
  |false=>
   right;have h1:=he.2;have h2:=hm.2.2 e (pz.2 ⟨he.1,by simp[bF]at h1;omega⟩) hl
   have hk:e.key=m.key:=by simp[bF]at h1 h2;omega
   have e1:=jc hn he.1;have e2:=jc hn m1;rw[hk,e2]at e1;exact(Option.some.inj e1).symm
 ·have:=h.cnt;have:=xw hs hh;simp only[List.length_append,List.length_cons,List.length_nil];omega
theorem lM.none_ (h:lM es hs n out key hash)(hm:fU ⟨key,0,hash⟩ (upto es hi) none)(h1:hash≤hi)(h2:hi∈hs):lM es hs (n+1) out 0 (hi+1):=by
 refine⟨h.j5,fun e=>⟨fun he=> ?_,fun he=> ?_⟩, ?_⟩
 ·have:=(h.mem e).1 he;refine⟨this.1, ?_⟩;have h3:=this.2;simp[bF]at h3⊢;omega
 ·have h3:=he.2;exact(h.mem e).2 ⟨he.1,hm e (pz.2 ⟨he.1,by simp[bF]at h3;omega⟩)⟩
 ·have:=h.cnt;have:=BS (b:=hi+1) h2 h1 (by omega);omega
end
end
section
structure Ei where
 st:Nat
 key:Nat
 val:Nat
def Ei.zero:Ei:=⟨0,0,0⟩
def gP.passed (c:gP)(e:av):Prop:=c.done=true∨bF e ⟨c.key,0,c.hash⟩=true
inductive jW (es:List av)(hs:List Nat)(c:gP):Ei→gP→Prop
 |done (h:c.done=true):jW es hs c ⟨3,0,0⟩ c
 |yield (h:c.done=false) (hi:Nat) (m:av) (h1:c.hash≤hi) (h2:hi∈hs) (h3:hi<18446744073709551616) (h4:∀x∈hs,c.hash≤x→hi≤x) (hm:fU ⟨c.key,0,c.hash⟩ (upto es hi) (some m)):jW es hs c ⟨1,m.key,m.val⟩ (behind m.hash m.key)
 |skip (h:c.done=false) (hi:Nat) (h1:c.hash≤hi) (h2:hi∈hs) (h3:hi<18446744073709551616) (h4:∀x∈hs,c.hash≤x→hi≤x) (hm:fU ⟨c.key,0,c.hash⟩ (upto es hi) none):jW es hs c ⟨if hi<18446744073709551615 then 2 else 3,0,0⟩ (behind hi 18446744073709551615)
theorem Ls {h k:Nat}(h1:h<18446744073709551616):(behind h k).ok:=by
 unfold behind gP.ok;split
 ·exact⟨h1,by simp only;omega⟩
 ·split
  ·exact⟨by simp only;omega,by simp⟩
  ·simp
section
variable {es out : List av} {hs : List Nat} {n : Nat} {c c' c'' : gP} {i i' : Ei}
structure Way (es:List av)(hs:List Nat)(n:Nat)(out:List av)(c:gP):Prop where
 j5:Asc out
 mem:∀e,e∈out↔e∈es∧c.passed e
 cnt:c.done=false→n≤out.length+below_ hs c.hash
 ok:c.ok
theorem Way.start (es:List av)(hs:List Nat):Way es hs 0 [] ⟨0,0,false⟩:=⟨.nil,fun e=>by simp[gP.passed,bF],fun _=>Nat.zero_le _,by simp[gP.ok]⟩
theorem wF {es:List av}{hash key:Nat}(h1:hash<18446744073709551616)(h2:key<18446744073709551616)(he:∀e∈es,e.hash<18446744073709551616∧e.key<18446744073709551616){e:av}(h:e∈es):(behind hash key).passed e↔bF e ⟨key+1,0,hash⟩=true:=by
 have:=he e h;unfold behind gP.passed;split
 ·simp[bF]
 ·split
  ·simp[bF];omega
  ·simp[bF];omega
theorem Way.ac9 (h:Way es hs n out c)(hd:c.done=false):lM es hs n out c.key c.hash:=⟨h.j5,fun e=>by rw[h.mem e];unfold gP.passed;rw[hd];simp,h.cnt hd⟩
theorem ZW {hash key:Nat}(h:lM es hs n out (key+1) hash)(h1:hash<18446744073709551616)(h2:key<18446744073709551616)(he:∀e∈es,e.hash<18446744073709551616∧e.key<18446744073709551616):Way es hs n out (behind hash key):=by
 refine⟨h.j5,fun e=>⟨fun hh=> ?_,fun hh=> ?_⟩,fun hd=> ?_,Ls h1⟩
 ·obtain⟨g1,g2⟩:=(h.mem e).1 hh;exact⟨g1,(wF h1 h2 he g1).2 g2⟩
 ·exact(h.mem e).2 ⟨hh.1,(wF h1 h2 he hh.1).1 hh.2⟩
 ·have h3:=h.cnt
  have:hash≤(behind hash key).hash:=by
   unfold behind at hd⊢;split
   ·exact Nat.le_refl _
   ·split
    ·exact Nat.le_succ _
    ·rename_i a b;rw[if_neg a,if_neg b]at hd;cases hd
  have:=xw hs this;omega
theorem Way.next (h:Way es hs n out c)(hn:(es.map av.key).Nodup)(he:∀e∈es,e.hash<18446744073709551616∧e.key<18446744073709551616)(hN:jW es hs c i c'):
  ∃out',Way es hs (n+1) out' c'∧((i.st=1∧c.done=false∧∃m∈es,out'=out++[m]∧(∀e∈out,bF e m=true)∧¬c.passed m∧i.key=m.key∧i.val=m.val∧c'=behind m.hash m.key)∨(i.st≠1∧out'=out∧i.key=0∧i.val=0∧(i.st=2∨i.st=3)∧(i.st=3↔c'.done=true))):=by
 cases hN with
 |done hd=>exact⟨out,⟨h.j5,h.mem,fun hh=>(by rw[hd]at hh;cases hh),h.ok⟩,.inr ⟨by simp,rfl,rfl,rfl,.inr rfl,by simp[hd]⟩⟩
 |yield hd hi m h1 h2 h3 h4 hm=>
  obtain⟨w1,w2,w3,w4⟩:=(h.ac9 hd).some_ hn hm;have hb:=he m w4;exact⟨out++[m],ZW w1 hb.1 hb.2 he,.inl ⟨rfl,hd,m,w4,rfl,w2,fun hp=>(by rcases hp with hp|hp;rw[hd]at hp;cases hp;have:=hm.2.1;rw[hp]at this;cases this),rfl,rfl,rfl⟩⟩
 |skip hd hi h1 h2 h3 h4 hm=>
  have hcn:=h.cnt hd
  have aaM:∀e∈es,((behind hi 18446744073709551615).passed e↔c.passed e):=fun e hh=>by
   rw[wF h3 (by omega) he hh];have hb:=he e hh;unfold gP.passed;rw[hd];constructor
   ·intro hl;right;exact hm e (pz.2 ⟨hh,by simp[bF]at hl;omega⟩)
   ·rintro(hl|hl)
    ·cases hl
    ·simp[bF]at hl⊢;omega
  refine⟨out,⟨h.j5,fun e=>⟨fun hh=> ?_,fun hh=> ?_⟩,fun hx=> ?_,Ls h3⟩,.inr ⟨?_,rfl,rfl,rfl, ?_, ?_⟩⟩
  ·obtain⟨g1,g2⟩:=(h.mem e).1 hh;exact⟨g1,(aaM e g1).2 g2⟩
  ·exact(h.mem e).2 ⟨hh.1,(aaM e hh.1).1 hh.2⟩
  ·have hx':hi<18446744073709551615:=by
    unfold behind at hx;rw[if_neg (by omega)]at hx;by_cases hlt:hi<18446744073709551615
    ·exact hlt
    ·rw[if_neg hlt]at hx;cases hx
   have hb:(behind hi 18446744073709551615).hash=hi+1:=by
    unfold behind;rw[if_neg (by omega),if_pos hx']
   rw[hb];have:=BS (b:=hi+1) h2 h1 (by omega);omega
  ·simp only;split<;>omega
  ·simp only;split<;>simp
  ·unfold behind
   by_cases hlt:hi<18446744073709551615<;>simp[hlt]
theorem Way.few (h:Way es hs n out c)(hd:c.done=false)(hN:jW es hs c i c'):n<es.length+hs.length:=by
 have h1:=h.cnt hd;have h2:out.length≤es.length:=Lr h.j5.nodup (fun e he=>((h.mem e).1 he).1)
 have h3:below_ hs c.hash<hs.length:=by
  have hx:∃hi,c.hash≤hi∧hi∈hs:=by
   cases hN with
   |done h=>rw[hd]at h;cases h
   |yield h hi m h1 h2=>exact⟨hi,h1,h2⟩
   |skip h hi h1 h2=>exact⟨hi,h1,h2⟩
  obtain⟨hi,g1,g2⟩:=hx;have:=BS (b:=hi+1) g2 g1 (by omega);have:=below_le hs (hi+1);omega
 omega
theorem Way.aeD (h:Way es hs n out c)(hn:(es.map av.key).Nodup)(hd:c.done=true):out.Perm es:=
 (List.perm_ext_iff_of_nodup h.j5.nodup (by
  unfold List.Nodup at hn⊢;rw[List.pairwise_map]at hn
  exact hn.imp fun hxy e=>hxy (by rw[e]))).2 fun e=>⟨fun he=>((h.mem e).1 he).1,fun he=>(h.mem e).2 ⟨he,.inl hd⟩⟩
end
end
section
theorem wG {m:av}{h k:Nat}(hm:m.hash<h∨(m.hash=h∧m.key≤k)):(behind h k).passed m:=by
 unfold behind gP.passed;split
 ·right;simp[bF];omega
 ·split
  ·right;simp[bF];omega
  ·left;rfl
section
variable {es : List av} {hs : List Nat} {c c' : gP} {i : Ei}
theorem jW.keeps (h:jW es hs c i c'){e:av}(he:e.hash<18446744073709551616∧e.key<18446744073709551616)(hp:c.passed e):c'.passed e:=by
 cases h with
 |done=>exact hp
 |yield hd hi m h1 h2 h3 h4 hm=>
  have hp2:bF e ⟨c.key,0,c.hash⟩=true:=hp.resolve_left (by rw[hd];simp);have hn:=hm.2.1;refine wG ?_;simp[bF]at hp2 hn;omega
 |skip hd hi h1 h2 h3 h4 hm=>
  have hp2:bF e ⟨c.key,0,c.hash⟩=true:=hp.resolve_left (by rw[hd];simp);refine wG ?_;simp[bF]at hp2;omega
theorem jW.tells (h:jW es hs c i c'):(i.st=1∧c.done=false∧∃m∈es,i.key=m.key∧i.val=m.val∧¬c.passed m∧c'.passed m)∨((i.st=2∨i.st=3)∧i.key=0∧i.val=0∧(i.st=3↔c'.done=true)∧(c.done=true→i.st=3)):=by
 cases h with
 |done hd=>exact .inr ⟨.inr rfl,rfl,rfl,by simp[hd],fun _=>rfl⟩
 |yield hd hi m h1 h2 h3 h4 hm=>
  refine .inl ⟨rfl,hd,m,(pz.1 hm.1).1,rfl,rfl,fun hp=> ?_,wG (.inr ⟨rfl,Nat.le_refl _⟩)⟩;have:=hp.resolve_left (by rw[hd];simp);rw[hm.2.1]at this;cases this
 |skip hd hi h1 h2 h3 h4 hm=>
  refine .inr ⟨by simp only;split<;>simp,rfl,rfl, ?_,fun h=>by rw[hd]at h;cases h⟩;unfold behind
  by_cases hlt:hi<18446744073709551615<;>simp[hlt]
instance (c:gP)(e:av):Decidable (c.passed e):=by unfold gP.passed;infer_instance
def wP (es:List av)(hs:List Nat)(c:gP):Nat:=if c.done=true then 0 else(es.filter fun e=> !decide (c.passed e)).length+(hs.filter fun h=>decide (c.hash≤h)).length
theorem ada (es:List av)(hs:List Nat)(c:gP):wP es hs c≤es.length+hs.length:=by
 unfold wP;split
 ·exact Nat.zero_le _
 ·exact Nat.add_le_add (List.length_filter_le _ _) (List.length_filter_le _ _)
theorem filter_le {α:Type}{p q:α→Bool}:∀{l:List α},(∀x∈l,p x=true→q x=true)→(l.filter p).length≤(l.filter q).length
 | [],_=>Nat.le_refl _
 |x::l,h=>by
  have ih:=filter_le (l:=l) fun y hy=>h y (by simp[hy]);rw[List.filter_cons,List.filter_cons];have hx:=h x (by simp);split
  ·rename_i hp;rw[if_pos (hx hp)];simp;exact ih
  ·split
   ·simp;omega
   ·exact ih
theorem filter_lt {α:Type}{p q:α→Bool}:∀{l:List α},(∀x∈l,p x=true→q x=true)→(∃x∈l,q x=true∧p x=false)→(l.filter p).length<(l.filter q).length
 | [],_,h=>by obtain⟨_,h,_⟩:=h;cases h
 |x::l,h,hx=>by
  have hle:=filter_le (l:=l) fun y hy=>h y (by simp[hy]);rw[List.filter_cons,List.filter_cons];obtain⟨y,hy,h1,h2⟩:=hx;rcases List.mem_cons.1 hy with e|hy
  ·subst e;rw[if_neg (by rw[h2];simp),if_pos h1];simp;omega
  ·have hlt:=filter_lt (l:=l) (fun z hz=>h z (by simp[hz])) ⟨y,hy,h1,h2⟩;have hq:=h x (by simp);split
   ·rename_i hp;rw[if_pos (hq hp)];simp;exact hlt
   ·split
    ·simp;omega
    ·exact hlt
theorem jW.wP (h:jW es hs c i c')(hes:∀e∈es,e.hash<18446744073709551616∧e.key<18446744073709551616)(hne:i.st≠3):wP es hs c'<wP es hs c:=by
 have hk:=fun(e:av) (he:e∈es) (hp:c.passed e)=>h.keeps (hes e he) hp;rcases h.tells with⟨_,hd,m,h2,_,_,h3,h4⟩|⟨hst,_,_,h3,h4⟩
 ·have hm1:1≤(es.filter fun e=> !decide (c.passed e)).length:=by
   have:m∈es.filter fun e=> !decide (c.passed e):=List.mem_filter.2 ⟨h2,by simp[h3]⟩;exact List.length_pos_of_mem this
  unfold Go.Proofs.YtnfjjbpmhcbelaaGreatDoor.wP;rw[if_neg (show¬c.done=true by rw[hd];simp)];by_cases hd':c'.done=true
  ·rw[if_pos hd'];omega
  ·rw[if_neg hd']
   have e1:=filter_lt (l:=es) (p:=fun e=> !decide (c'.passed e)) (q:=fun e=> !decide (c.passed e)) (fun e he hp=>by
    simp at hp⊢;exact fun hq=>hp (hk e he hq)) ⟨m,h2,by simp[h3],by simp[h4]⟩
   have e2:(hs.filter fun h=>decide (c'.hash≤h)).length≤(hs.filter fun h=>decide (c.hash≤h)).length:=filter_le fun x _ hx=>by
    simp at hx⊢
    cases h with
    |yield hd hi m' g1 g2 g3 g4 hm=>
     have hn:=hm.2.1;simp[bF]at hn
     have:m'.hash≤(behind m'.hash m'.key).hash:=by
      unfold behind;split
      ·exact Nat.le_refl _
      ·split
       ·exact Nat.le_succ _
       ·rename_i a b;exact absurd (by unfold behind;rw[if_neg a,if_neg b]) hd'
     omega
    |done hd2=>rw[hd]at hd2;cases hd2
    |skip hd2 x g1 g2 g3=>
     have:x≤(behind x 18446744073709551615).hash:=by
      unfold behind;rw[if_neg (by omega)];split
      ·exact Nat.le_succ _
      ·rename_i b;exact absurd (by unfold behind;rw[if_neg (by omega),if_neg b]) hd'
     omega
   omega
 ·have hd:c.done=false:=by
   cases hd:c.done with
   |false=>rfl
   |true=>exact absurd (h4 hd) hne
  have hd':¬c'.done=true:=fun e=>hne (h3.2 e);unfold Go.Proofs.YtnfjjbpmhcbelaaGreatDoor.wP;rw[if_neg (show¬c.done=true by rw[hd];simp),if_neg hd']
  have e1:(es.filter fun e=> !decide (c'.passed e)).length≤(es.filter fun e=> !decide (c.passed e)).length:=filter_le fun e he hp=>by
   simp at hp⊢;exact fun hq=>hp (hk e he hq)
  have e2:(hs.filter fun h=>decide (c'.hash≤h)).length<(hs.filter fun h=>decide (c.hash≤h)).length:=by
   cases h with
   |done hd2=>rw[hd]at hd2;cases hd2
   |yield hd2 x m g1 g2 g3 g4 hm=>
    rcases hst with k|k<;>cases k
   |skip hd2 x g1 g2 g3 g4 hm=>
    have hx:x<18446744073709551615:=by
     by_cases hlt:x<18446744073709551615
     ·exact hlt
     ·exact absurd (by unfold behind;rw[if_neg (by omega),if_neg hlt]) hd'
    have hb:(behind x 18446744073709551615).hash=x+1:=by
     unfold behind;rw[if_neg (by omega),if_pos hx]
    rw[hb];exact filter_lt (fun y _ hy=>by simp at hy⊢;omega) ⟨x,g2,by simpa using g1,by simp⟩
  omega
end
end
section
theorem I9 {w:World}{base g n c sz:Nat}{t:TypeId}{xs:List Value}(h:w.ownsRow base t sz (.slice (some ⟨g,0,none⟩) n c) n xs):Holds id w g 0 xs.toArray∧g<w.heap.size∧base≤g:=by
 obtain⟨h1,h2⟩:=h;rcases h2 with⟨h2,_⟩|⟨g',cap,cur,hv,hg,hh,hcap,hmax,hsz,htk⟩
 ·cases h2
 ·injection hv with hv _ _
  injection hv with hv
  injection hv with hv _ _
  subst hv;refine⟨fun j hj=>⟨?_, ?_⟩,(Array.getElem?_eq_some_iff.1 hh).1,hg⟩
  ·have hj':j<xs.length:=by simpa using hj
   have e1:(cur.toList.take (n*sz))[j]?=some xs[j]:=by rw[htk];simp[hj']
   rw[List.getElem?_take_of_lt (by omega)]at e1;simp only[World.cell?,hh]
   have e2:(xs.toArray)[j]! =xs[j]:=by simp[hj']
   rw[e2];simpa using e1
  ·simp[World.frozen?,hh]
theorem ZX {w:World}{base g n c sz:Nat}{t:TypeId}{xs xs':List Value}(h:w.ownsRow base t sz (.slice (some ⟨g,0,none⟩) n c) n xs)(hl:xs'.length=n*sz)(q:Nat)(os:Array Obj):
  (grow (putRow id (Sort.ahead w q) g 0 xs'.toArray) os).ownsRow base t sz (.slice (some ⟨g,0,none⟩) n c) n xs'∧Mod [g] w (grow (putRow id (Sort.ahead w q) g 0 xs'.toArray) os):=by
 obtain⟨hH,hlt,hbg⟩:=I9 h;obtain⟨h1,h2⟩:=h;rcases h2 with⟨h2,_⟩|⟨g',cap,cur,hv,hg,hh,hcap,hmax,hsz,htk⟩
 ·cases h2
 ·injection hv with hv _ hc
  injection hv with hv
  injection hv with hv _ _
  subst hv hc
  have hcell:(grow (putRow id (Sort.ahead w q) g 0 xs'.toArray) os).heap[g]?=some (.cells (putCells id 0 xs'.toArray cur) t (0,0)):=by
   rw[Go.Sort.heap_grow_old _ _ (by simpa using hlt)];show((w.heap).modify g _)[g]?=_;rw[Array.getElem?_modify,if_pos rfl,hh];rfl
  have hmul:n*sz≤c*sz:=Nat.mul_le_mul_right _ hcap;refine⟨⟨hl,.inr ⟨g,c,_,rfl,hg,hcell,hcap,hmax,by simp[putCells,hsz], ?_⟩⟩,rfl,rfl,rfl,by simp,fun k hk hne=> ?_⟩
  ·apply List.ext_getElem?;intro i;by_cases hi:i<n*sz
   ·rw[List.getElem?_take_of_lt (by omega)]
    have hic:i<cur.size:=by omega
    have hix:i<xs'.length:=by omega
    simp[putCells,hic,hix]
   ·rw[List.getElem?_eq_none (by simp;omega),List.getElem?_eq_none (by omega)]
  ·rw[Go.Sort.heap_grow_old _ _ (by simp;omega)];show((w.heap).modify g _)[k]?=_;rw[Array.getElem?_modify,if_neg (fun e=>hne (by simp[e]))]
def pC (p:Nat×Nat):List Value:=[nU p.1,nU p.2]
theorem ME {p:Nat×Nat}{q:Nat}:∀{l:List (Nat×Nat)} {i:Nat},l[i]?=some p→q<2→(l.flatMap pC)[i*2+q]?=some ((pC p)[q]!)
 | [],_,h,_=>by simp at h
 |x::l,0,h,hq=>by
  obtain rfl:=Option.some.inj h;rw[List.flatMap_cons,List.getElem?_append_left (by simp[pC];omega)]
  have:q=0∨q=1:=by omega
  rcases this with rfl|rfl<;>rfl
 |x::l,i+1,h,hq=>by
  rw[List.flatMap_cons,List.getElem?_append_right (by simp[pC];omega)];have:=ME (l:=l) (i:=i) h hq;rw[show(i+1)*2+q-(pC x).length=i*2+q by simp[pC];omega];exact this
theorem Lu (l:List (Nat×Nat)):(l.flatMap pC).length=l.length*2:=by
 induction l with
 |nil=>rfl
 |cons x l ih=>rw[List.flatMap_cons,List.length_append,ih,List.length_cons];simp[pC];omega
theorem RA (d:Array (Nat×Nat)):flatK pC 2 d=(d.toList.flatMap pC).toArray:=by
 apply Array.ext_getElem?;intro t;by_cases ht:t<d.size*2
 ·have h1:t/2<d.size:=by omega
  have h2:d.toList[t/2]?=some d[t/2]:=by simp[h1]
  have h3:=ME (q:=t % 2) h2 (by omega);rw[show t/2*2+t % 2=t by omega]at h3
  have h6:(d.toList.flatMap pC).toArray[t]?=(d.toList.flatMap pC)[t]?:=by simp
  rw[h6,h3]
  have h4:t<(flatK pC 2 d).size:=by simpa using ht
  rw[Array.getElem?_eq_getElem h4];have h5:=get_flatK pC 2 d t ht;rw[getElem!_pos (flatK pC 2 d) t h4]at h5;rw[h5,getElem!_pos d (t/2) h1]
 ·rw[Array.getElem?_eq_none (by simp;omega),List.getElem?_toArray,List.getElem?_eq_none (by rw[Lu];simp;omega)]
def uO (x y:Nat×Nat):Int:=if x.1<y.1 then-1 else if y.1<x.1 then 1 else 0
theorem ltP (x y:Nat×Nat):ltOf uO x y=decide (x.1<y.1):=by
 unfold ltOf uO;by_cases h1:x.1<y.1
 ·simp[h1]
 ·by_cases h2:y.1<x.1<;>simp[h1,h2]
theorem aeE:SWO (ltOf uO):=⟨fun x=>by rw[ltP];simp,fun x y z h1 h2=>by rw[ltP]at*;simp at*;omega,fun x y z h1 h2=>by rw[ltP]at*;simp at*;omega⟩
structure gW (base:Nat)(w:World)(t:TypeId)(sz:Nat)(v:Value)(n:Nat)(xs:List Value)(F:List Nat):Prop where
 row:w.ownsRow base t sz v n xs
 gs:∀g,v.ownBlock=some g→g∉F
section
variable {base n sz : Nat} {w w' : World} {t : TypeId} {v v' : Value} {xs ys : List Value} {F F' S : List Nat}
theorem Pp (h:w.ownsRow base t sz v n xs)(hm:Mod S w w')(hS:∀k,v.ownBlock=some k→k∉S):w'.ownsRow base t sz v n xs:=by
 refine⟨h.1, ?_⟩;rcases h.2 with k|⟨g,cap,cur,h1,h2,h3,h4⟩
 ·exact .inl k
 ·refine .inr ⟨g,cap,cur,h1,h2, ?_,h4⟩;rw[hm.block g (Array.getElem?_eq_some_iff.1 h3).1 (hS g (by rw[h1];rfl))];exact h3
theorem gW.nil (w:World)(base:Nat)(t:TypeId)(sz:Nat)(F:List Nat):gW base w t sz (.slice none 0 0) 0 [] F:=⟨World.ownsRow_nil _ _ _ _,fun g hg=>by cases hg⟩
theorem gW.to (h:gW base w t sz v n xs F)(h2:∀q∈F',q∈F∨w.heap.size≤q)(hm:Mod F w w'):gW base w' t sz v n xs F':=
 ⟨Pp h.row hm h.gs,fun g hg hq=>(h2 g hq).elim (h.gs g hg) (fun k=>by have:=(h.row.lt g hg).2;omega)⟩
theorem gW.below (h:gW base w t sz v n xs F)(hb:Below w.heap.size w w'):gW base w' t sz v n xs F:=⟨Pp h.row (Mod.of_below hb []) (by simp),h.gs⟩
theorem gW.push (h:gW base w t sz v n xs F)(hg:nA w base v w' v')(ho:w'.ownsRow base t sz v' (n+1) ys)(hF:∀q∈F,q<w.heap.size):gW base w' t sz v' (n+1) ys F:=by
 refine⟨ho,fun g hgg=> ?_⟩;rcases hg.at_ with h1|⟨g2,h1,h2⟩
 ·rw[h1]at hgg;exact h.gs g hgg
 ·rw[h1]at hgg;cases hgg;exact fun hq=>by have:=hF g hq;omega
theorem Lv (h:nA w base v w' v'):Mod v.ownBlock.toList w w':=⟨h.kr.os,h.kr.tape,h.kr.output,h.kr.size,fun k hk hn=>h.kr.block k hk (fun e=>hn (by simp[e]))⟩
end
end
end Go.Proofs.YtnfjjbpmhcbelaaGreatDoor
