/- amblerref28: Put. No statement of the claim. -/
import Derived.Test.YtnfjjbpmhcbelaaGreatDoorFqB
import Derived.Test.YtnfjjbpmhcbelaaGreatDoorSqM
import Derived.Test.YtnfjjbpmhcbelaaGreatDoorAppAny
import Derived.Test.YtnfjjbpmhcbelaaGreatDoorGaugeA
namespace Go.Proofs.YtnfjjbpmhcbelaaGreatDoor
set_option maxRecDepth 100000
set_option maxHeartbeats 8000000
open Go.RowKit dI ru kM
variable {xs ys : List Value} {t t' : TypeId} {v w : World} {M c d m n wb : Nat} {a b u : Value} {A B : Option Addr} {l : PL}
theorem oo (h:xs.Sublist ys)(ho:(ys.all fun u=>u.oneCell')=true):(xs.all fun u=>u.oneCell')=true:=by
 rw[List.all_eq_true]at ho⊢;exact fun u hu=>ho u (h.subset hu)
theorem Gc:∀w,(sizeOf 38).run Tryz.prog w= .ok 1 w:=fun w=>by kernel_rfl
theorem Gd:∀w,(sizeOf 41).run Tryz.prog w= .ok 1 w:=fun w=>by kernel_rfl
theorem Nt (w:World):cu w.heap.size t 1 w w.drew [none,none]:=⟨(Below.refl _ _).drew,Nat.le_refl _,fun i r h=>by rcases i with _|_|i<;>simp at h,fun i j r s _ h=>by rcases i with _|_|i<;>simp at h⟩
theorem aar {w4:World}{s:Value}(hB:aj v wb 37 #[a,b,nI M])(h4:Below w.heap.size w w4)(hb:Below w4.heap.size w4 v)(ho:v.ownsRow w.heap.size t 1 u m xs)(hv:v.ownsRow w.heap.size t' 1 s n ys)(hlt:wb<w.heap.size):
  aj (v.setCell ⟨wb,0,none⟩ u) wb 37 #[u,b,nI M]∧(v.setCell ⟨wb,0,none⟩ u).ownsRow w.heap.size t 1 u m xs∧(v.setCell ⟨wb,0,none⟩ u).ownsRow w.heap.size t' 1 s n ys∧Mod [wb] w (v.setCell ⟨wb,0,none⟩ u):=by
 have h1:=hB.ak 0 u;have hm:=(Mod.refl [wb] v).sl 0 u;exact⟨by simpa only[List.setIfInBounds_toArray,List.set_cons_zero,List.set_cons_succ]using h1,xS ho hm (by simpa using hlt),xS hv hm (by simpa using hlt),(Mod.of_below (h4.trans (hb.mono h4.size)) [wb]).sl 0 u⟩
theorem aas {w5:World}(hB:aj v wb 37 #[a,b,nI M])(h5:Mod [wb] w w5)(hb:Below w5.heap.size w5 v)(ho:v.ownsRow w.heap.size t 1 a m xs)(hv:v.ownsRow w.heap.size t' 1 u n ys)(hlt:wb<w.heap.size):
  aj (v.setCell ⟨wb,1,none⟩ u) wb 37 #[a,u,nI M]∧(v.setCell ⟨wb,1,none⟩ u).ownsRow w.heap.size t 1 a m xs∧(v.setCell ⟨wb,1,none⟩ u).ownsRow w.heap.size t' 1 u n ys∧Mod [wb] w (v.setCell ⟨wb,1,none⟩ u):=by
 have h1:=hB.ak 1 u;have hm:=(Mod.refl [wb] v).sl 1 u;exact⟨by simpa only[List.setIfInBounds_toArray,List.set_cons_zero,List.set_cons_succ]using h1,xS ho hm (by simpa using hlt),xS hv hm (by simpa using hlt),(h5.then (Mod.of_below hb _)).sl 1 u⟩
def qo (wb n M c d c4 x fl key p g33 z:Nat)(A B A4 X:Option Addr)(y49 y56 y58 y59 y66:Value):Array Value:= #[pQ wb,nU x,.float .f64 fl,undef,undef,undef,.int .i64 0,nU key,nI p,.bool false,.slice A4 n c4,nU x,nU key,.tuple #[nI p,.bool false],pQ wb,nU key,.tuple #[nI p,.bool false],nI p,.bool false,.bool false,.bool true,.bool true,pQ wb,pQ wb,pQ wb,.slice A n c,nI n,pQ wb,pQ wb,.pointer (some ⟨wb,2,none⟩),nI M,.bool false,.bool false,.slice (some ⟨g33,0,none⟩) 0 0,pQ wb,pQ wb,.pointer (some ⟨wb,1,none⟩),.slice B n d,.slice A4 n c4,.bool false,undef,undef,undef,undef,undef,undef,undef,undef,pQ wb,y49,pQ wb,pQ wb,pQ wb,.slice A n c,nI p,.slice A p c,y56,nU key,y58,y59,pQ wb,pQ wb,pQ wb,.slice A n c,nI p,.slice X z (c-p),y66,undef,undef,undef,undef,undef,undef,undef,undef,undef,undef,undef,undef,undef,undef,undef,undef,undef]
def qp (wb n M c d c4 x fl key p g33 z:Nat)(A B A4 X Y:Option Addr)(ng vH x66:Value)(jD kE:Nat)(y70 y74 y76 y77 y81:Value):Array Value:= #[pQ wb,nU x,.float .f64 fl,undef,undef,undef,.int .i64 0,nU key,nI p,.bool false,.slice A4 n c4,nU x,nU key,.tuple #[nI p,.bool false],pQ wb,nU key,.tuple #[nI p,.bool false],nI p,.bool false,.bool false,.bool true,.bool true,pQ wb,pQ wb,pQ wb,.slice A n c,nI n,pQ wb,pQ wb,.pointer (some ⟨wb,2,none⟩),nI M,.bool false,.bool false,.slice (some ⟨g33,0,none⟩) 0 0,pQ wb,pQ wb,.pointer (some ⟨wb,1,none⟩),.slice B n d,.slice A4 n c4,.bool false,undef,undef,undef,undef,undef,undef,undef,undef,pQ wb,.slice (some ⟨jD,0,none⟩) 0 0,pQ wb,pQ wb,pQ wb,.slice A n c,nI p,.slice A p c,ng,nU key,.slice (some ⟨kE,0,none⟩) 1 1,vH,pQ wb,pQ wb,pQ wb,.slice A n c,nI p,.slice X z (c-p),x66,pQ wb,pQ wb,pQ wb,y70,.slice A4 n c4,nI p,.slice A4 p c4,y74,.float .f64 fl,y76,y77,.slice A4 n c4,nI p,.slice Y z (c4-p),y81,undef,undef]
theorem P5 (hB:aj w wb 37 #[.slice A l.length c,u,nI M])(hR:Reads w w.heap.size 1 A l.length (l.map kC))(h9:l.length≤1000)(ha:je l)(x v:Nat)(hx:x<18446744073709551616)(hi:kL l (aA x)=false)(hM:M≤l.length):
  Calls Tryz.prog 11 #[pQ wb,nU x,.float .f64 v] w fun e w'=>e= .returned (.int .i64 2)∧Below w.heap.size w w':=by
 have HK:=qd (fun(W:World)=>mX x hx W);have HF:=qd (xI hB hR h9 ha (aA x));rw[hi]at HF;obtain⟨n,hn⟩:∃n,n=l.length:=⟨_,rfl⟩;have hdM:decide ((M:Int)≤(n:Int))=true:=decide_eq_true (by omega)
 have hM':(M:Int)≤(n:Int):=by omega
 have HB:=qd hB;rw[←hn]at HB;clear hB hR hn h9 hM hi ha;go_in;go_wp2_with fail;refine(HK.out _).mono ?_;rintro y wq ⟨rfl,rfl⟩;go_wp2_with fail;refine HF.out.mono ?_;rintro y w1 ⟨rfl,hb1⟩;have hB1:=HB.out.below hb1 HB.out.lt;have c0:=hB1.cell 0;have c2:=hB1.cell 2;simp only[gl]at c0 c2;have HX:=qd hb1;clear hB1 hb1 HF HB;go_wp2_with fail;go_quiet (fail);go_wp2;go_ret;exact⟨rfl,below_drewN HX.out _⟩
theorem Nu (hB:aj w wb 37 #[.slice A l.length c,.slice B l.length d,nI M])(hR:Reads w w.heap.size 1 A l.length (l.map kC))(hV:Reads w w.heap.size 1 B l.length (l.map fF))(h9:l.length≤1000)(ha:je l)(x v:Nat)(hx:x<18446744073709551616)(hi:kL l (aA x)=true):
  Calls Tryz.prog 11 #[pQ wb,nU x,.float .f64 v] w fun e w'=>e= .returned (.int .i64 0)∧∃B' d',aj w' wb 37 #[.slice A l.length c,.slice B' l.length d',nI M]∧w'.ownsRow w.heap.size 38 1 (.slice B' l.length d') l.length ((l.set (gy l (aA x)) (aA x,v)).map fF)∧Mod [wb] w w':=by
 have HK:=qd (fun(W:World)=>mX x hx W);have HF:=qd (xI hB hR h9 ha (aA x));rw[hi]at HF;obtain⟨u,hv,_⟩:=(pG ha).1 hi;obtain⟨p,hp⟩:∃p,p=gy l (aA x):=⟨_,rfl⟩;rw[←hp]at hv HF⊢;have hlt:=hB.lt;have HB:=qd hB;have HV:=qd hV;obtain⟨n,hn⟩:∃n,n=l.length:=⟨_,rfl⟩
 have hin:p<n:=by rw[hn];exact(List.getElem?_eq_some_iff.1 hv).1
 have hvs:(l.map fF).length=n:=by simp[hn]
 have hfin:∀(w4:World) (g c4:Nat),w4.ownsRow w.heap.size 38 1 (.slice (some ⟨g,0,none⟩) (0+n) c4) (0+n) ([]++l.map fF)→Below w.heap.size w w4→w.heap.size≤g→aj (((w4.setCell ⟨g,p,none⟩ (.float .f64 v)).setCell ⟨wb,1,none⟩ (.slice (some ⟨g,0,none⟩) n c4))) wb 37 #[.slice A l.length c,.slice (some ⟨g,0,none⟩) l.length c4,nI M]∧((w4.setCell ⟨g,p,none⟩ (.float .f64 v)).setCell ⟨wb,1,none⟩ (.slice (some ⟨g,0,none⟩) n c4)).ownsRow w.heap.size 38 1 (.slice (some ⟨g,0,none⟩) l.length c4) l.length ((l.set p (aA x,v)).map fF)∧Mod [wb] w ((w4.setCell ⟨g,p,none⟩ (.float .f64 v)).setCell ⟨wb,1,none⟩ (.slice (some ⟨g,0,none⟩) n c4)):=by
  intro w4 g c4 ho hb hg;rw[Nat.zero_add,List.nil_append]at ho;obtain⟨h1,h2⟩:=PZ (i:=p) ho (.float .f64 v)
  have hne:wb∉[g]:=by simp;omega
  have h3:=((HB.out.below hb hlt).mod h2 hne).ak 1 (.slice (some ⟨g,0,none⟩) n c4);simp only[pt]at h3;have h5:=xS h1 ((Mod.refl [wb] _).sl 1 (.slice (some ⟨g,0,none⟩) n c4)) (by simpa using hlt);refine⟨by rw[hn]at h3⊢;exact h3, ?_, ?_⟩
  ·rw[List.map_set];rw[hn]at h5⊢;exact h5
  ·exact(Mod.of_below (hb.trans (h2.below (fun k hk=>by rw[List.mem_singleton.1 hk];exact hg) hb.size)) [wb]).ak (.inl (by simp)) 1 _
 have HFin:=qd hfin
 have Ik:n≤1000:=by omega
 have hi0:(0:Int)≤(p:Int):=by omega
 have hil:(p:Int)<(n:Int):=by omega
 have HN:=qd hn;have Jp:=fun(q:Addr) m (V:World)=>run_store Tryz.prog V q (.float .f64 v) m rfl;clear hB hR hV hv hi hp hfin hn h9 ha hx;go_in;go_wp2_with fail;refine(HK.out _).mono ?_;rintro y wq ⟨rfl,rfl⟩;go_wp2_with fail;refine HF.out.mono ?_;rintro y w1 ⟨rfl,hb1⟩;have HX:=qd hb1;clear hb1 HF HK;go_wp2_with fail;go_quiet (fail);go_upto_region 5 with fail;refine bV (F:=fun v=>Below w.heap.size w v) (below_drewN HX.out _) ?_;rintro w2 hb2;have HB2:=qd hb2;have Ck:=(Below.refl w2.heap.size w2).alloc (Nat.le_refl _) (.cells #[] 38);have hoN:=MQ w2 w.heap.size 38 1 hb2.size;have Vk:=((HV.out.below hb2).below (Ck.mono hb2.size)).more (Nat.le_trans hb2.size Ck.size);have c1:=((HB.out.below hb2 hlt).below Ck (Nat.lt_of_lt_of_le hlt hb2.size)).cell 1;simp only[gl]at c1;rw[←HN.out]at Vk c1;clear hb2 HX HV
 go_wp2_with (go_loud (at_builtin;refine wT (by rfl) (by rfl) oO hoN (by rfl) (by rfl) Vk (Br l) (by omega) (Nat.le_trans HB2.out.size Ck.size) ?_;intro v4 w4 wL hg4;obtain⟨A4,c4,rfl⟩:=bA wL;obtain⟨g,rfl,hgl,hgb,hgc,hfz⟩:=abd wL (by omega);have HO4:=qd wL;have oP:=qd ((HB2.out.trans (Ck.mono HB2.out.size)).trans hg4.below);have fz:=hfz p;have hne:¬g=wb:=(by omega);have hne':¬wb=g:=(by omega);have oQ:=HB.out.below oP.out hlt;have e2:=oQ.cell 1;simp only[gl]at e2;have f2:=oQ.frozen 1;have r0:w4.cell? ⟨g,p,none⟩=((l.map fF)[p]?):=(by obtain⟨b',o',h1,_,h3⟩:=(Reads.fD wL).2 (by omega);cases h1;have:=h3 p;rw[List.nil_append]at this;cases hx:(l.map fF)[p]? with|none=>rw[List.getElem?_eq_none_iff]at hx;omega|some u=>have:=this u hx;simpa using this);rw[List.getElem?_eq_getElem (by omega)]at r0;clear wL hg4 hfz oQ));refine bodyPost_ret (v:= .int .i64 0) (by simp[results,Tryz.results11,go_sem]) rfl ⟨rfl,some ⟨g,0,none⟩,c4, ?_⟩;have hF:=HFin.out w4 g c4 HO4.out oP.out hgb;exact hF
theorem SH {base:Nat}(hB:aj w wb 37 #[.slice A l.length c,.slice B l.length d,nI M])(hKr:w.ownsRow base 41 1 (.slice A l.length c) l.length (l.map kC))(hV:Reads w w.heap.size 1 B l.length (l.map fF))(h9:l.length≤1000)(ha:je l)(x fl:Nat)(hx:x<18446744073709551616)(hi:kL l (aA x)=false)(hM:l.length<M):
  Calls Tryz.prog 11 #[pQ wb,nU x,.float .f64 fl] w fun e w'=>e= .returned (.int .i64 0)∧∃A' c' B' d',aj w' wb 37 #[.slice A' (l.length+1) c',.slice B' (l.length+1) d',nI M]∧w'.ownsRow w.heap.size 41 1 (.slice A' (l.length+1) c') (l.length+1) ((mH l (aA x) fl).map kC)∧w'.ownsRow w.heap.size 38 1 (.slice B' (l.length+1) d') (l.length+1) ((mH l (aA x) fl).map fF)∧Mod [wb] w w':=by
 have HK:=qd (fun(W:World)=>mX x hx W);have HF:=qd (xI hB (Reads.fD hKr) h9 ha (aA x));rw[hi]at HF
 have Nv:mH l (aA x) fl=l.take (gy l (aA x))++(aA x,fl)::l.drop (gy l (aA x)):=by unfold mH;rw[hi];rfl
 rw[Nv];have hpl:=Je l (aA x);obtain⟨key,hkey⟩:∃k,k=aA x:=⟨_,rfl⟩;rw[←hkey]at HF HK hpl⊢;obtain⟨p,hp⟩:∃p,p=gy l key:=⟨_,rfl⟩;rw[←hp]at HF hpl⊢;obtain⟨L,hL⟩:∃L,L=l.take p++(key,fl)::l.drop p:=⟨_,rfl⟩;rw[←hL];have hlt:=hB.lt;have HB:=qd hB;have Vl:=qd hKr;have HV:=qd hV;obtain⟨n,hn⟩:∃n,n=l.length:=⟨_,rfl⟩
 have hvs:(l.map fF).length=n:=by simp[hn]
 have Ik:n≤1000:=by omega
 have hdM:decide ((M:Int)≤(n:Int))=false:=decide_eq_false (by omega)
 have hM':¬(M:Int)≤(n:Int):=by omega
 rw[←hn]at HB Vl HV hpl⊢;have HN:=qd hn;have HP:=qd hpl;clear hB hKr hV hi hp hn h9 ha Nv hM hkey hpl;go_in;go_wp2_with fail;refine(HK.out _).mono ?_;rintro y wq ⟨rfl,rfl⟩;go_wp2_with fail;refine HF.out.mono ?_;rintro y w1 ⟨rfl,hb1⟩;have hB1:=HB.out.below hb1 HB.out.lt;have c0:=hB1.cell 0;have c2:=hB1.cell 2;simp only[gl]at c0 c2;have HX:=qd hb1;clear hb1 HF HK hB1;go_wp2_with fail;go_quiet (fail);go_upto_region 5 with fail;refine bV (F:=fun v=>Below w.heap.size w v) (below_drewN HX.out _) ?_;rintro w2 hb2;have HB2:=qd hb2;have Ck:=(Below.refl w2.heap.size w2).alloc (Nat.le_refl _) (.cells #[] 38);have hoN:=MQ w2 w.heap.size 38 1 hb2.size;have Vk:=((HV.out.below hb2).below (Ck.mono hb2.size)).more (Nat.le_trans hb2.size Ck.size);have c1:=((HB.out.below hb2 hlt).below Ck (Nat.lt_of_lt_of_le hlt hb2.size)).cell 1;simp only[gl]at c1;clear hb2 HX c0 c2
 go_upto_region 10 with(go_loud (at_builtin;refine wT (by rfl) (by rfl) oO hoN (by rfl) (by rfl) Vk (Br l) (by omega) (Nat.le_trans HB2.out.size Ck.size) ?_;intro v4 w4 wL hg4;obtain⟨A4,c4,rfl⟩:=bA wL;have HO4:=qd wL;have oP:=qd ((HB2.out.trans (Ck.mono HB2.out.size)).trans hg4.below);clear wL hg4))
 obtain⟨X,hs1,hr2,hs2,hr1⟩:=xD (t:=34) Tryz.underlying34 Gd (own_below Vl.out oP.out (Nat.le_refl _)) (j:=p) HP.out;obtain⟨z,hz⟩:∃z,z=n-p:=⟨_,rfl⟩;rw[←hz]at hs1 hr2;have hpn:=HP.out;have HZ:=qd hz
 have hzp:p+z=n:=by omega
 have HT:=qd hr1;have HD:=qd hr2
 have HV4:=qd (show w4.ownsRow w.heap.size 38 1 (.slice A4 n c4) n (l.map fF)from by
  have h:=HO4.out;rw[Nat.zero_add,List.nil_append]at h
  exact h)
 have Gf:=qd (HB.out.below oP.out hlt);have Nw:=qd hlt;have YJ:wb<w4.heap.size:=Nat.lt_of_lt_of_le hlt oP.out.size;have c0:=Gf.out.cell 0;simp only[List.getElem?_toArray,List.getElem?_cons_zero]at c0;have HXk:=qd (show((((#[]:Array Value).toList++(l.map kC).take (p*1))++(#[nU key]:Array Value).toList)++(l.map kC).drop (p*1))=L.map kC from by rw[hL];simp[List.map_take,List.map_drop,kC]);have HXv:=qd (show((((#[]:Array Value).toList++(l.map fF).take (p*1))++(#[.float .f64 fl]:Array Value).toList)++(l.map fF).drop (p*1))=L.map fF from by rw[hL];simp[List.map_take,List.map_drop,fF]);clear hL hr1 hr2 hz HO4 c1 hoN Ck Vk hdM hM' hvs;refine rT (fun(w':World)=>w'.cell? ⟨wb,0,none⟩=some (.slice A n c)) [21] ?_;have hHeld:=c0;refine vW 0 rfl ?_;refine vW 2 rfl ?_;refine vW 3 rfl ?_;refine vW 4 rfl ?_;refine vT 5 rfl ?_;refine vW 6 rfl ?_;refine vW 7 rfl ?_;refine vW 9 rfl ?_;refine vW 12 rfl ?_;refine vW 13 rfl ?_;refine vW 14 rfl ?_;refine vT 15 rfl ?_;refine vW 16 rfl ?_;refine vW 17 rfl ?_;have hr0:cu w4.heap.size 41 1 w4 w4.drew [none,none]:=Nt w4;have hC:∀v:World,Below w4.heap.size w4 v→(fun(w':World)=>w'.cell? ⟨wb,0,none⟩=some (.slice A n c)) v:=fun v hv=>(hv.cell YJ).trans c0;refine Mv fun WW fG=> ?_
 have Jq:∀(jD:Nat) (ng:Value) (kE:Nat) (vH:Value) (x66:Value) (v:World),cu w4.heap.size 41 1 w4 v [some ⟨x66,(((0+p)+1)+z),((((#[]:Array Value).toList++(l.map kC).take (p*1))++(#[nU key]:Array Value).toList)++(l.map kC).drop (p*1))⟩,none]→WW 3 #[true,true,true,true,true,true,true,true,true,true,true,true,true,true,true,true,true,true,true,false,false,false] ⟨qo wb n M c d c4 x fl key p w2.heap.size z A B A4 X (.slice (some ⟨jD,0,none⟩) 0 0) ng (.slice (some ⟨kE,0,none⟩) 1 1) vH x66,[]⟩ v:=by
  intro jD ng kE vH x66 v hr;refine inT fG ?_;unfold qo;have o0:=hr.own 0 _ rfl;have jE:=hr.below;simp only at o0;rw[show(((0+p)+1)+z)=n+1 by omega,HXk.out]at o0;obtain⟨A',c',rfl⟩:=bA o0;have oQ:=Gf.out.below jE Gf.out.lt;have f0:=oQ.frozen 0;have e0:=oQ.cell 0;simp only[gl]at e0;have oN:=qd (aar (u:= .slice A' (n+1) c') oQ oP.out jE (nH o0 oP.out.size) (own_below HV4.out jE (Nat.le_refl _)) Nw.out);clear oQ o0 hr;refine pK (i:=19) (o:=⟨some 67,_,_,_,_,_⟩) rfl (by kernel_rfl) (fun Kn hK=> ?_);go_simp;refine hK.out _ _ (fun _=>hC _ jE) ?_;clear hK Kn
  try simp only[pt]
  refine pK (i:=20) (o:=⟨some 68,_,_,_,_,_⟩) rfl (by kernel_rfl) (fun Kn hK=> ?_);go_simp;refine hK.out _ _ (fun _=>hC _ jE) ?_;clear hK Kn
  try simp only[pt]
  refine pK (i:=21) (o:=⟨none,_,_,_,_,_⟩) rfl (by kernel_rfl) (fun Kn hK=> ?_);go_simp;refine hK.out _ _ (fun h=>absurd (by decide) h) ?_;clear hK Kn
  try simp only[pt]
  refine aR (by kernel_rfl) ?_ _;go_upto_region 11 with fail;refine bV (F:=fun W=>aj W wb 37 #[.slice A' (n+1) c',.slice B n d,nI M]∧W.ownsRow w.heap.size 41 1 (.slice A' (n+1) c') (n+1) (L.map kC)∧W.ownsRow w.heap.size 38 1 (.slice A4 n c4) n (l.map fF)∧Mod [wb] w W) oN.out ?_;clear f0 e0 oN jE;rintro w5 ⟨sP,rM,Ad,Ae⟩;have p8:=qd sP;have HK5:=qd rM;have E5:=qd Ae;obtain⟨Y,hs3,hr4,hs4,hr3⟩:=xD (t:=35) Tryz.underlying35 Gc Ad (j:=p) HP.out;rw[←HZ.out]at hs3 hr4;have HT2:=qd hr3;have HD2:=qd hr4;clear sP rM Ad Ae hr3 hr4 hs1 hs2;refine rT (fun(_:World)=>True) [15] ?_;have hHeld:(fun(_:World)=>True) (World.drew w5):=trivial;refine vW 0 rfl ?_;refine vW 2 rfl ?_;refine vW 3 rfl ?_;refine vW 4 rfl ?_;refine vW 6 rfl ?_;refine vW 9 rfl ?_;refine vW 10 rfl ?_;refine vW 11 rfl ?_;have hr0:cu w5.heap.size 38 1 w5 w5.drew [none,none]:=Nt w5;clear hC;have hC:∀v:World,Below w5.heap.size w5 v→(fun(_:World)=>True) v:=fun _ _=>trivial;refine Mv fun WW fG=> ?_
  have Ny:∀(nS:Nat) (wM:Value) (qD:Nat) (Nz:Value) (x81:Value) (v:World),cu w5.heap.size 38 1 w5 v [some ⟨x81,(((0+p)+1)+z),((((#[]:Array Value).toList++(l.map fF).take (p*1))++(#[.float .f64 fl]:Array Value).toList)++(l.map fF).drop (p*1))⟩,none]→WW 3 #[true,true,true,true,true,true,true,true,true,true,true,true,true,false,false,false] ⟨qp wb n M c d c4 x fl key p w2.heap.size z A B A4 X Y ng vH (.slice A' (n+1) c') jD kE (.slice (some ⟨nS,0,none⟩) 0 0) wM (.slice (some ⟨qD,0,none⟩) 1 1) Nz x81,[]⟩ v:=by
   intro nS wM qD Nz x81 v hr;refine inT fG ?_;unfold qp;have o0:=hr.own 0 _ rfl;have jE:=hr.below;simp only at o0;rw[show(((0+p)+1)+z)=n+1 by omega,HXv.out]at o0;obtain⟨B',d',rfl⟩:=bA o0;have oQ:=p8.out.below jE p8.out.lt;have f0:=oQ.frozen 1;have e0:=oQ.cell 1;simp only[gl]at e0;have YK:=qd (aas (u:= .slice B' (n+1) d') oQ E5.out jE (own_below HK5.out jE (Nat.le_refl _)) (nH o0 E5.out.size) Nw.out);clear oQ o0 hr;refine pK (i:=13) (o:=⟨some 82,_,_,_,_,_⟩) rfl (by kernel_rfl) (fun Kn hK=> ?_);go_simp;refine hK.out _ _ (fun _=>hC _ jE) ?_;clear hK Kn
   try simp only[pt]
   refine pK (i:=14) (o:=⟨some 83,_,_,_,_,_⟩) rfl (by kernel_rfl) (fun Kn hK=> ?_);go_simp;refine hK.out _ _ (fun _=>hC _ jE) ?_;clear hK Kn
   try simp only[pt]
   refine pK (i:=15) (o:=⟨none,_,_,_,_,_⟩) rfl (by kernel_rfl) (fun Kn hK=> ?_);go_simp;refine hK.out _ _ (fun h=>absurd (by decide) h) ?_;clear hK Kn
   try simp only[pt]
   refine aR (by kernel_rfl) ?_ _;go_wp2;refine bodyPost_ret (v:= .int .i64 0) (by simp[results,Tryz.results11,go_sem]) rfl ⟨rfl,_,_,_,_,YK.out⟩
  have Vm:∀(nS:Nat) (wM:Value) (qD:Nat) (Nz:Value) (v:World),cu w5.heap.size 38 1 w5 v [some ⟨Nz,((0+p)+1),(((#[]:Array Value).toList++(l.map fF).take (p*1))++(#[.float .f64 fl]:Array Value).toList)⟩,none]→WW 4 #[true,true,true,true,true,true,true,true,true,true,true,true,false,false,false,false] ⟨qp wb n M c d c4 x fl key p w2.heap.size z A B A4 X Y ng vH (.slice A' (n+1) c') jD kE (.slice (some ⟨nS,0,none⟩) 0 0) wM (.slice (some ⟨qD,0,none⟩) 1 1) Nz undef,[]⟩ v:=by
   intro nS wM qD Nz v hr;refine inT fG ?_;unfold qp;refine jI (is:=[12]) (by kernel_rfl) (by simp) ⟨⟨⟨some 81,_,_,_,_,_⟩,rfl,fun Kn hK=> ?_⟩,trivial⟩
   ·refine eB (by rfl) (by rfl) oO (hr.own 0 _ rfl) (by rfl) (by rfl) (((HD2.out.below hr.below).more (Nat.le_trans hr.base hr.below.size))) (oo (List.drop_sublist _ _) (Br l)) (by first|omega|(simp;omega)) (Nat.le_trans hr.base hr.below.size) ?_;intro v9 w9 ni kZ;have hn:=hr.grow 0 rfl kZ ni;refine hK.out _ _ (fun _=>hC _ hn.below) ?_
    try simp only[pt]
    exact outT fG (Ny nS wM qD Nz _ _ hn)
  have QS:∀(nS:Nat) (wM:Value) (qD:Nat) (v:World),cu w5.heap.size 38 1 w5 v [some ⟨wM,(0+p),((#[]:Array Value).toList++(l.map fF).take (p*1))⟩,some ⟨.slice (some ⟨qD,0,none⟩) 1 1,1,(#[.float .f64 fl]:Array Value).toList⟩]→WW 5 #[true,true,true,true,true,true,true,true,false,true,true,true,false,false,false,false] ⟨qp wb n M c d c4 x fl key p w2.heap.size z A B A4 X Y ng vH (.slice A' (n+1) c') jD kE (.slice (some ⟨nS,0,none⟩) 0 0) wM (.slice (some ⟨qD,0,none⟩) 1 1) undef undef,[]⟩ v:=by
   intro nS wM qD v hr;refine inT fG ?_;unfold qp;refine jI (is:=[8]) (by kernel_rfl) (by simp) ⟨⟨⟨some 77,_,_,_,_,_⟩,rfl,fun Kn hK=> ?_⟩,trivial⟩
   ·refine eB (by rfl) (by rfl) oO (hr.own 0 _ rfl) (by rfl) (by rfl) (hr.reads 1 rfl rfl) (by rfl) (by first|omega|(simp;omega)) (Nat.le_trans hr.base hr.below.size) ?_;intro v9 w9 ni kZ;have hn:=hr.grow 0 rfl kZ ni;replace hn:=hn.drop 1;refine hK.out _ _ (fun _=>hC _ hn.below) ?_
    try simp only[pt]
    exact outT fG (Vm nS wM qD _ _ hn)
  have adz:∀(nS:Nat) (wM:Value) (v:World),cu w5.heap.size 38 1 w5 v [some ⟨wM,(0+p),((#[]:Array Value).toList++(l.map fF).take (p*1))⟩,none]→WW 6 #[true,true,true,true,true,true,true,false,false,true,true,true,false,false,false,false] ⟨qp wb n M c d c4 x fl key p w2.heap.size z A B A4 X Y ng vH (.slice A' (n+1) c') jD kE (.slice (some ⟨nS,0,none⟩) 0 0) wM undef undef undef,[]⟩ v:=by
   intro nS wM v hr;refine inT fG ?_;unfold qp;refine jI (is:=[7]) (by kernel_rfl) (by simp) ⟨⟨⟨some 76,_,_,_,_,_⟩,rfl,fun Kn hK=> ?_⟩,trivial⟩
   ·have hn:=hr.new 1 #[.float .f64 fl] 1 rfl (by decide);go_simp;refine hK.out _ _ (fun _=>hC _ hn.below) ?_
    try simp only[pt]
    exact outT fG (QS nS wM _ _ hn)
  have aat:∀(nS:Nat) (qD:Nat) (v:World),cu w5.heap.size 38 1 w5 v [some ⟨.slice (some ⟨nS,0,none⟩) 0 0,0,(#[]:Array Value).toList⟩,some ⟨.slice (some ⟨qD,0,none⟩) 1 1,1,(#[.float .f64 fl]:Array Value).toList⟩]→WW 6 #[true,true,true,true,true,false,true,true,false,true,true,true,false,false,false,false] ⟨qp wb n M c d c4 x fl key p w2.heap.size z A B A4 X Y ng vH (.slice A' (n+1) c') jD kE (.slice (some ⟨nS,0,none⟩) 0 0) undef (.slice (some ⟨qD,0,none⟩) 1 1) undef undef,[]⟩ v:=by
   intro nS qD v hr;refine inT fG ?_;unfold qp;refine jI (is:=[5]) (by kernel_rfl) (by simp) ⟨⟨⟨some 74,_,_,_,_,_⟩,rfl,fun Kn hK=> ?_⟩,trivial⟩
   ·refine eB (by rfl) (by rfl) oO (hr.own 0 _ rfl) (by rfl) (by rfl) (((HT2.out.below hr.below).more (Nat.le_trans hr.base hr.below.size))) (oo (List.take_sublist _ _) (Br l)) (by first|omega|(simp;omega)) (Nat.le_trans hr.base hr.below.size) ?_;intro v9 w9 ni kZ;have hn:=hr.grow 0 rfl kZ ni;refine hK.out _ _ (fun _=>hC _ hn.below) ?_
    try simp only[pt]
    exact outT fG (QS nS _ qD _ hn)
  have NA:∀(nS:Nat) (v:World),cu w5.heap.size 38 1 w5 v [some ⟨.slice (some ⟨nS,0,none⟩) 0 0,0,(#[]:Array Value).toList⟩,none]→WW 7 #[true,true,true,true,true,false,true,false,false,true,true,true,false,false,false,false] ⟨qp wb n M c d c4 x fl key p w2.heap.size z A B A4 X Y ng vH (.slice A' (n+1) c') jD kE (.slice (some ⟨nS,0,none⟩) 0 0) undef undef undef undef,[]⟩ v:=by
   intro nS v hr;refine inT fG ?_;unfold qp;refine jI (is:=[5,7]) (by kernel_rfl) (by simp) ⟨⟨⟨some 74,_,_,_,_,_⟩,rfl,fun Kn hK=> ?_⟩,⟨⟨some 76,_,_,_,_,_⟩,rfl,fun Kn hK=> ?_⟩,trivial⟩
   ·refine eB (by rfl) (by rfl) oO (hr.own 0 _ rfl) (by rfl) (by rfl) (((HT2.out.below hr.below).more (Nat.le_trans hr.base hr.below.size))) (oo (List.take_sublist _ _) (Br l)) (by first|omega|(simp;omega)) (Nat.le_trans hr.base hr.below.size) ?_;intro v9 w9 ni kZ;have hn:=hr.grow 0 rfl kZ ni;refine hK.out _ _ (fun _=>hC _ hn.below) ?_
    try simp only[pt]
    exact outT fG (adz nS _ _ hn)
   ·have hn:=hr.new 1 #[.float .f64 fl] 1 rfl (by decide);go_simp;refine hK.out _ _ (fun _=>hC _ hn.below) ?_
    try simp only[pt]
    exact outT fG (aat nS _ _ hn)
  have S_7:∀(qD:Nat) (v:World),cu w5.heap.size 38 1 w5 v [none,some ⟨.slice (some ⟨qD,0,none⟩) 1 1,1,(#[.float .f64 fl]:Array Value).toList⟩]→WW 7 #[true,false,true,true,true,false,true,true,false,true,true,true,false,false,false,false] ⟨qp wb n M c d c4 x fl key p w2.heap.size z A B A4 X Y ng vH (.slice A' (n+1) c') jD kE undef undef (.slice (some ⟨qD,0,none⟩) 1 1) undef undef,[]⟩ v:=by
   intro qD v hr;refine inT fG ?_;unfold qp;refine jI (is:=[1]) (by kernel_rfl) (by simp) ⟨⟨⟨some 70,_,_,_,_,_⟩,rfl,fun Kn hK=> ?_⟩,trivial⟩
   ·have hn:=hr.new 0 #[] 0 rfl (by decide);go_simp;refine hK.out _ _ (fun _=>hC _ hn.below) ?_
    try simp only[pt]
    exact outT fG (aat _ qD _ hn)
  have NC:∀(v:World),cu w5.heap.size 38 1 w5 v [none,none]→WW 8 #[true,false,true,true,true,false,true,false,false,true,true,true,false,false,false,false] ⟨qp wb n M c d c4 x fl key p w2.heap.size z A B A4 X Y ng vH (.slice A' (n+1) c') jD kE undef undef undef undef undef,[]⟩ v:=by
   intro v hr;refine inT fG ?_;unfold qp;refine jI (is:=[1,7]) (by kernel_rfl) (by simp) ⟨⟨⟨some 70,_,_,_,_,_⟩,rfl,fun Kn hK=> ?_⟩,⟨⟨some 76,_,_,_,_,_⟩,rfl,fun Kn hK=> ?_⟩,trivial⟩
   ·have hn:=hr.new 0 #[] 0 rfl (by decide);go_simp;refine hK.out _ _ (fun _=>hC _ hn.below) ?_
    try simp only[pt]
    exact outT fG (NA _ _ hn)
   ·have hn:=hr.new 1 #[.float .f64 fl] 1 rfl (by decide);go_simp;refine hK.out _ _ (fun _=>hC _ hn.below) ?_
    try simp only[pt]
    exact outT fG (S_7 _ _ hn)
  exact SG (NC _ hr0) (by kernel_rfl) (by kernel_rfl) (by rfl)
 have P6:∀(jD:Nat) (ng:Value) (kE:Nat) (vH:Value) (v:World),cu w4.heap.size 41 1 w4 v [some ⟨vH,((0+p)+1),(((#[]:Array Value).toList++(l.map kC).take (p*1))++(#[nU key]:Array Value).toList)⟩,none]→WW 4 #[true,true,true,true,true,true,true,true,true,true,true,true,true,true,true,true,true,true,false,false,false,false] ⟨qo wb n M c d c4 x fl key p w2.heap.size z A B A4 X (.slice (some ⟨jD,0,none⟩) 0 0) ng (.slice (some ⟨kE,0,none⟩) 1 1) vH undef,[]⟩ v:=by
  intro jD ng kE vH v hr;refine inT fG ?_;unfold qo;refine jI (is:=[18]) (by kernel_rfl) (by simp) ⟨⟨⟨some 66,_,_,_,_,_⟩,rfl,fun Kn hK=> ?_⟩,trivial⟩
  ·refine eB (by rfl) (by rfl) uH (hr.own 0 _ rfl) (by rfl) (by rfl) (((HD.out.below hr.below).more (Nat.le_trans hr.base hr.below.size))) (oo (List.drop_sublist _ _) (Dh l)) (by first|omega|(simp;omega)) (Nat.le_trans hr.base hr.below.size) ?_;intro v9 w9 ni kZ;have hn:=hr.grow 0 rfl kZ ni;refine hK.out _ _ (fun _=>hC _ hn.below) ?_
   try simp only[pt]
   exact outT fG (Jq jD ng kE vH _ _ hn)
 have ND:∀(jD:Nat) (ng:Value) (kE:Nat) (v:World),cu w4.heap.size 41 1 w4 v [some ⟨ng,(0+p),((#[]:Array Value).toList++(l.map kC).take (p*1))⟩,some ⟨.slice (some ⟨kE,0,none⟩) 1 1,1,(#[nU key]:Array Value).toList⟩]→WW 5 #[true,true,true,true,true,true,true,true,true,true,true,false,true,true,true,true,true,true,false,false,false,false] ⟨qo wb n M c d c4 x fl key p w2.heap.size z A B A4 X (.slice (some ⟨jD,0,none⟩) 0 0) ng (.slice (some ⟨kE,0,none⟩) 1 1) undef undef,[]⟩ v:=by
  intro jD ng kE v hr;refine inT fG ?_;unfold qo;refine jI (is:=[11]) (by kernel_rfl) (by simp) ⟨⟨⟨some 59,_,_,_,_,_⟩,rfl,fun Kn hK=> ?_⟩,trivial⟩
  ·refine eB (by rfl) (by rfl) uH (hr.own 0 _ rfl) (by rfl) (by rfl) (hr.reads 1 rfl rfl) (by rfl) (by first|omega|(simp;omega)) (Nat.le_trans hr.base hr.below.size) ?_;intro v9 w9 ni kZ;have hn:=hr.grow 0 rfl kZ ni;replace hn:=hn.drop 1;refine hK.out _ _ (fun _=>hC _ hn.below) ?_
   try simp only[pt]
   exact outT fG (P6 jD ng kE _ _ hn)
 have Il:∀(jD:Nat) (ng:Value) (v:World),cu w4.heap.size 41 1 w4 v [some ⟨ng,(0+p),((#[]:Array Value).toList++(l.map kC).take (p*1))⟩,none]→WW 6 #[true,true,true,true,true,true,true,true,true,true,false,false,true,true,true,true,true,true,false,false,false,false] ⟨qo wb n M c d c4 x fl key p w2.heap.size z A B A4 X (.slice (some ⟨jD,0,none⟩) 0 0) ng undef undef undef,[]⟩ v:=by
  intro jD ng v hr;refine inT fG ?_;unfold qo;refine jI (is:=[10]) (by kernel_rfl) (by simp) ⟨⟨⟨some 58,_,_,_,_,_⟩,rfl,fun Kn hK=> ?_⟩,trivial⟩
  ·have hn:=hr.new 1 #[nU key] 1 rfl (by decide);go_simp;refine hK.out _ _ (fun _=>hC _ hn.below) ?_
   try simp only[pt]
   exact outT fG (ND jD ng _ _ hn)
 have Vn:∀(jD:Nat) (kE:Nat) (v:World),cu w4.heap.size 41 1 w4 v [some ⟨.slice (some ⟨jD,0,none⟩) 0 0,0,(#[]:Array Value).toList⟩,some ⟨.slice (some ⟨kE,0,none⟩) 1 1,1,(#[nU key]:Array Value).toList⟩]→WW 6 #[true,true,true,true,true,true,true,true,false,true,true,false,true,true,true,true,true,true,false,false,false,false] ⟨qo wb n M c d c4 x fl key p w2.heap.size z A B A4 X (.slice (some ⟨jD,0,none⟩) 0 0) undef (.slice (some ⟨kE,0,none⟩) 1 1) undef undef,[]⟩ v:=by
  intro jD kE v hr;refine inT fG ?_;unfold qo;refine jI (is:=[8]) (by kernel_rfl) (by simp) ⟨⟨⟨some 56,_,_,_,_,_⟩,rfl,fun Kn hK=> ?_⟩,trivial⟩
  ·refine eB (by rfl) (by rfl) uH (hr.own 0 _ rfl) (by rfl) (by rfl) (((HT.out.below hr.below).more (Nat.le_trans hr.base hr.below.size))) (oo (List.take_sublist _ _) (Dh l)) (by first|omega|(simp;omega)) (Nat.le_trans hr.base hr.below.size) ?_;intro v9 w9 ni kZ;have hn:=hr.grow 0 rfl kZ ni;refine hK.out _ _ (fun _=>hC _ hn.below) ?_
   try simp only[pt]
   exact outT fG (ND jD _ kE _ hn)
 have NA:∀(jD:Nat) (v:World),cu w4.heap.size 41 1 w4 v [some ⟨.slice (some ⟨jD,0,none⟩) 0 0,0,(#[]:Array Value).toList⟩,none]→WW 7 #[true,true,true,true,true,true,true,true,false,true,false,false,true,true,true,true,true,true,false,false,false,false] ⟨qo wb n M c d c4 x fl key p w2.heap.size z A B A4 X (.slice (some ⟨jD,0,none⟩) 0 0) undef undef undef undef,[]⟩ v:=by
  intro jD v hr;refine inT fG ?_;unfold qo;refine jI (is:=[8,10]) (by kernel_rfl) (by simp) ⟨⟨⟨some 56,_,_,_,_,_⟩,rfl,fun Kn hK=> ?_⟩,⟨⟨some 58,_,_,_,_,_⟩,rfl,fun Kn hK=> ?_⟩,trivial⟩
  ·refine eB (by rfl) (by rfl) uH (hr.own 0 _ rfl) (by rfl) (by rfl) (((HT.out.below hr.below).more (Nat.le_trans hr.base hr.below.size))) (oo (List.take_sublist _ _) (Dh l)) (by first|omega|(simp;omega)) (Nat.le_trans hr.base hr.below.size) ?_;intro v9 w9 ni kZ;have hn:=hr.grow 0 rfl kZ ni;refine hK.out _ _ (fun _=>hC _ hn.below) ?_
   try simp only[pt]
   exact outT fG (Il jD _ _ hn)
  ·have hn:=hr.new 1 #[nU key] 1 rfl (by decide);go_simp;refine hK.out _ _ (fun _=>hC _ hn.below) ?_
   try simp only[pt]
   exact outT fG (Vn jD _ _ hn)
 have adX:∀(kE:Nat) (v:World),cu w4.heap.size 41 1 w4 v [none,some ⟨.slice (some ⟨kE,0,none⟩) 1 1,1,(#[nU key]:Array Value).toList⟩]→WW 7 #[true,false,true,true,true,true,true,true,false,true,true,false,true,true,true,true,true,true,false,false,false,false] ⟨qo wb n M c d c4 x fl key p w2.heap.size z A B A4 X undef undef (.slice (some ⟨kE,0,none⟩) 1 1) undef undef,[]⟩ v:=by
  intro kE v hr;refine inT fG ?_;unfold qo;refine jI (is:=[1]) (by kernel_rfl) (by simp) ⟨⟨⟨some 49,_,_,_,_,_⟩,rfl,fun Kn hK=> ?_⟩,trivial⟩
  ·have hn:=hr.new 0 #[] 0 rfl (by decide);go_simp;refine hK.out _ _ (fun _=>hC _ hn.below) ?_
   try simp only[pt]
   exact outT fG (Vn _ kE _ hn)
 have NC:∀(v:World),cu w4.heap.size 41 1 w4 v [none,none]→WW 8 #[true,false,true,true,true,true,true,true,false,true,false,false,true,true,true,true,true,true,false,false,false,false] ⟨qo wb n M c d c4 x fl key p w2.heap.size z A B A4 X undef undef undef undef undef,[]⟩ v:=by
  intro v hr;refine inT fG ?_;unfold qo;refine jI (is:=[1,10]) (by kernel_rfl) (by simp) ⟨⟨⟨some 49,_,_,_,_,_⟩,rfl,fun Kn hK=> ?_⟩,⟨⟨some 58,_,_,_,_,_⟩,rfl,fun Kn hK=> ?_⟩,trivial⟩
  ·have hn:=hr.new 0 #[] 0 rfl (by decide);go_simp;refine hK.out _ _ (fun _=>hC _ hn.below) ?_
   try simp only[pt]
   exact outT fG (NA _ _ hn)
  ·have hn:=hr.new 1 #[nU key] 1 rfl (by decide);go_simp;refine hK.out _ _ (fun _=>hC _ hn.below) ?_
   try simp only[pt]
   exact outT fG (adX _ _ hn)
 exact SG (NC _ hr0) (by kernel_rfl) (by kernel_rfl) (by rfl)
end Go.Proofs.YtnfjjbpmhcbelaaGreatDoor
