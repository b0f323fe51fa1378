/- A table in memory. -/
import Derived.Test.YtbfpfgfgfjhpfaaGreatDoorCoS
import Derived.BigRegion
import Derived.Test.YtbfpfgfgfjhpfaaGreatDoorPlA
import Derived.Test.YtbfpfgfgfjhpfaaGreatDoorSq
import Derived.Test.YtbfpfgfgfjhpfaaGreatDoorCoB
namespace Go.Proofs.YtbfpfgfgfjhpfaaGreatDoor
set_option maxRecDepth 100000
set_option maxHeartbeats 2000000
open Go.RowKit dP Go
variable {G : kW} {gs : Tab} {i : Nat} {S : List Nat}
structure aC where
 gs:Tab
 live:Int
 bW:Int
def xO (G:kW):List Value:=fP (G.map Slot.byte) (G.map Slot.ent)
def dz (gs:Tab):List Value:=gs.flatMap xO
structure TabAt (w:World)(tb gb:Nat)(T:aC):Prop where
 wide:qZ T.gs
 tab:aj w tb 235 #[.slice (some ⟨gb,0,none⟩) T.gs.length T.gs.length,.int .i64 T.live,.int .i64 T.bW]
 Im:aj w gb 239 (dz T.gs).toArray
 ne:tb≠gb
theorem Mc (h:G.length=8):(xO G).length=25:=by unfold xO fP;rw[List.length_cons,gV,List.length_map,h]
theorem Io (h:qZ gs):(dz gs).length=gs.length*25:=by
 induction gs with
 |nil=>rfl
 |cons G gs ih=>
  have h1:=Mc (h G (by simp));have h2:=ih (fun X hX=>h X (by simp[hX]));unfold dz at h2⊢;rw[List.flatMap_cons,List.length_append,h1,h2,List.length_cons];omega
theorem Qp (hi:i<gs.length):dz gs=dz (gs.take i)++(xO (gs.getD i [])++dz (gs.drop (i+1))):=by
 conv=>lhs;rw[xK (d:=[]) hi]
 simp[dz]
theorem NS (hi:i<gs.length)(G:kW):dz (gs.set i G)=dz (gs.take i)++(xO G++dz (gs.drop (i+1))):=by
 rw[oU hi];simp[dz]
theorem YD (h:qZ gs)(i:Nat)(hG:G.length=8):qZ (gs.set i G):=fun X hX=>by
 rcases List.mem_or_eq_of_mem_set hX with hX|rfl
 ·exact h X hX
 ·exact hG
section
variable {w w' : World} {tb gb : Nat} {T : aC}
theorem TabAt.aW (h:TabAt w tb gb T):tb<w.heap.size:=h.tab.lt
theorem TabAt.aX (h:TabAt w tb gb T):gb<w.heap.size:=h.Im.lt
theorem TabAt.mod (h:TabAt w tb gb T)(hm:Mod S w w')(h1:tb∉S)(h2:gb∉S):TabAt w' tb gb T:=⟨h.wide,h.tab.mod hm h1,h.Im.mod hm h2,h.ne⟩
instance {w w':World}{tb gb:Nat}{T:aC}:Md (TabAt w tb gb T) w w' (TabAt w' tb gb T) (fun S=>tb∉S∧gb∉S):=⟨fun h hm hs=>h.mod hm hs.1 hs.2⟩
theorem TabAt.below (h:TabAt w tb gb T)(hb:Below w.heap.size w w'):TabAt w' tb gb T:=h.mod (Mod.of_below hb []) (by simp) (by simp)
theorem TabAt.keep {n₀:Nat}(h:TabAt w tb gb T)(hm:aV n₀ S w w')(h1:tb<n₀)(h2:gb<n₀)(h3:tb∉S)(h4:gb∉S):TabAt w' tb gb T:=⟨h.wide,hm.blk h.tab h1 h3,hm.blk h.Im h2 h4,h.ne⟩
theorem TabAt.group (h:TabAt w tb gb T)(i:Nat)(hi:i<T.gs.length):mX w gb 239 (dz (T.gs.take i)) (dz (T.gs.drop (i+1))) (i*25) (T.gs.getD i []):=by
 have hw:qZ (T.gs.take i):=fun X hX=>h.wide X (List.mem_of_mem_take hX);have h8:=h.wide.at_ hi;refine⟨by rw[Io hw,List.length_take];congr 1;omega,by simpa using h8,U5 _,by simpa using h8, ?_⟩;have:=h.Im;rw[Qp hi]at this;exact this
theorem TabAt.o7 (h:TabAt w tb gb T)(i:Nat)(hi:i<T.gs.length)(hm:Mod [gb] w w')(hG:mX w' gb 239 (dz (T.gs.take i)) (dz (T.gs.drop (i+1))) (i*25) G):TabAt w' tb gb {T with gs:=T.gs.set i G}:=by
 refine⟨YD h.wide i hG.len8, ?_, ?_,h.ne⟩
 ·have:=h.tab.mod hm (by simpa using h.ne);simpa using this
 ·show aj w' gb _ (dz (T.gs.set i G)).toArray;rw[NS hi];exact hG.blk
theorem TabAt.cells (h:TabAt w tb gb T):w.cell? ⟨tb,0,none⟩=some (.slice (some ⟨gb,0,none⟩) T.gs.length T.gs.length)∧w.cell? ⟨tb,1,none⟩=some (.int .i64 T.live)∧w.cell? ⟨tb,2,none⟩=some (.int .i64 T.bW):=
 ⟨h.tab.cell 0,h.tab.cell 1,h.tab.cell 2⟩
theorem TabAt.BA (h:TabAt w tb gb T)(x:Int):TabAt (w.setCell ⟨tb,1,none⟩ (.int .i64 x)) tb gb {T with live:=x}:=
 ⟨h.wide,h.tab.ak 1 _,h.Im.far (p:=⟨tb,1,none⟩) (Ne.symm h.ne) _,h.ne⟩
theorem TabAt.Ky (h:TabAt w tb gb T)(x:Int):TabAt (w.setCell ⟨tb,2,none⟩ (.int .i64 x)) tb gb {T with bW:=x}:=
 ⟨h.wide,h.tab.ak 2 _,h.Im.far (p:=⟨tb,2,none⟩) (Ne.symm h.ne) _,h.ne⟩
end
def cZ (tb:Nat):Value:= .pointer (some ⟨tb,0,none⟩)
theorem sN (tb gb:Nat)(T:aC)(w:World)(h:TabAt w tb gb T):Calls Tryz.prog 146 #[cZ tb] w fun e w'=>e= .returned (.int .i64 (T.gs.length:Int))∧w=w':=by
 obtain⟨h0,h1,h2⟩:=h.cells;clear h;unfold cZ;go_in;go_wp2;go_ret;exact⟨rfl,rfl⟩
theorem Vw (tb gb:Nat)(T:aC)(w:World)(h:TabAt w tb gb T):Calls Tryz.prog 144 #[cZ tb] w fun e w'=>e= .returned (.int .i64 T.live)∧w=w':=by
 obtain⟨h0,h1,h2⟩:=h.cells;clear h;unfold cZ;go_in;go_wp2;go_ret;exact⟨rfl,rfl⟩
theorem Qq (tb gb:Nat)(T:aC)(w:World)(h:TabAt w tb gb T):Calls Tryz.prog 145 #[cZ tb] w fun e w'=>e= .returned (.int .i64 T.bW)∧w=w':=by
 obtain⟨h0,h1,h2⟩:=h.cells;clear h;unfold cZ;go_in;go_wp2;go_ret;exact⟨rfl,rfl⟩
theorem Tk (tb gb:Nat)(T:aC)(w:World)(h:TabAt w tb gb T)(hn:T.gs.length≤64)(hl:0≤T.live∧T.live≤1000)(ht:0≤T.bW∧T.bW≤1000):
  Calls Tryz.prog 142 #[cZ tb] w fun e w'=>e= .returned (.int .i64 (7*(T.gs.length:Int)-T.live-T.bW))∧w'=w.drew:=by
 obtain⟨h0,h1,h2⟩:=h.cells;obtain⟨l0,l1⟩:=hl;obtain⟨t0,t1⟩:=ht;clear h;generalize T.gs.length=n at*;generalize T.live=a at*;generalize T.bW=b at*;unfold cZ;go_in;go_upto_region 1 with fail;go_region;go_wp2;go_ret;exact⟨iG (by omega),rfl⟩
end Go.Proofs.YtbfpfgfgfjhpfaaGreatDoor

/-! A table's spots: what is found there, what is written. -/
namespace Go.Proofs.YtbfpfgfgfjhpfaaGreatDoor
set_option maxRecDepth 100000
set_option maxHeartbeats 2000000
open Go.RowKit dP Go
def NT (p:Option Addr)(s:Int):Value:= .agg #[.pointer p,.int .i64 s]
def dJ (tb key hash:Nat)(ap:Option Addr)(as_:Int)(fp:Option Addr)(fs:Int):Value:= .agg #[.pointer (some ⟨tb,0,none⟩),.int .u64 (key:Int),.int .u64 (hash:Int),.pointer ap,.int .i64 as_,.pointer fp,.int .i64 fs]
def lN (T:aC)(i s:Nat):aC:={gs:=putAt T.gs i s (if dQ (T.gs.getD i [])then .empty else .qp),live:=T.live-1,bW:=if dQ (T.gs.getD i [])then T.bW else T.bW+1}
def jM (T:aC)(i s:Nat)(e:av):aC:={gs:=putAt T.gs i s (.full e),live:=T.live+1,bW:=if(aF T.gs i s).iY then T.bW-1 else T.bW}
def replaceM (T:aC)(i s:Nat)(v:Nat)(e:av):aC:={T with gs:=putAt T.gs i s (.full {e with val:=v})}
structure Small (T:aC):Prop where
 l0:0≤T.live
 l1:T.live≤1000
 t0:0≤T.bW
 t1:T.bW≤1000
 n1:T.gs.length≤64
theorem Qr (tb gb:Nat)(T:aC)(i s:Nat)(hi:i<T.gs.length)(hs:s<8)(e:av)(he:aF T.gs i s= .full e)(hS:Small T)(w:World)(h:TabAt w tb gb T):
  Calls Tryz.prog 240 #[cZ tb,NT (some ⟨gb,i*25,none⟩) (s:Int)] w fun x w'=>x= .returned .nilIface∧TabAt w' tb gb (lN T i s)∧Mod [tb,gb] w w':=by
 have hB:=(Below.refl w.heap.size w).alloc (Nat.le_refl _) (.cells #[.pointer (some ⟨gb,i*25,none⟩),.int .i64 (s:Int)] 197);have hV:=aj.new w 197 #[.pointer (some ⟨gb,i*25,none⟩),.int .i64 (s:Int)];obtain⟨W,hW⟩:∃W,W=w.alloc (.cells #[.pointer (some ⟨gb,i*25,none⟩),.int .i64 (s:Int)] 197):=⟨_,rfl⟩;rw[←hW]at hB hV;have mM:=h.below hB;have hGW:=mM.group i hi;have HE:=qd (Vv gb 239 (dz (T.gs.take i)) (dz (T.gs.drop (i+1))) (i*25) (T.gs.getD i []) W hGW s hs e he);have HW:=qd hW;have HB:=qd hB;obtain⟨l0,l1,t0,t1,n1⟩:=hS
 have hi0:(0:Int)≤(i:Int):=by omega
 unfold bC at HE;unfold cZ NT;clear hW h hB hGW he n1
 cases ho:dQ (T.gs.getD i [])with
 |true=>
  rw[ho]at HE;simp only[Bool.not_true,if_true]at HE;have HO:=qd ho;clear ho;go_in;go_upto_region 1 with fail;rw[←HW.out];have v:=hV.c2;go_wp2_with fail;refine(HE.out).mono ?_;rintro x w1 ⟨rfl,hG1,hm1⟩;have hT1:=mM.o7 i hi hm1 hG1;obtain⟨c0,c1,c2⟩:=hT1.cells;have f1:=hT1.tab.frozen 1;have f2:=hT1.tab.frozen 2;have kD:=hT1.BA (T.live-1);have hM2:=((((Mod.of_below HB.out [tb,gb]).then (hm1.more (by simp))).sl 1 (.int .i64 (T.live-1))));have HP:=qd (And.intro kD hM2);clear kD hM2 hT1 mM hG1 hm1 hV;go_wp2;go_ret;refine⟨rfl, ?_,HP.out.2⟩;have:=HP.out.1;unfold lN putAt;rw[HO.out];exact this
 |false=>
  rw[ho]at HE;simp only[Bool.not_false,Bool.false_eq_true,if_false]at HE;have HO:=qd ho;clear ho;go_in;go_upto_region 1 with fail;rw[←HW.out];have v:=hV.c2;go_wp2_with fail;refine(HE.out).mono ?_;rintro x w1 ⟨rfl,hG1,hm1⟩;have hT1:=mM.o7 i hi hm1 hG1;obtain⟨c0,c1,c2⟩:=hT1.cells;have f1:=hT1.tab.frozen 1;have f2:=hT1.tab.frozen 2;have kD:=hT1.BA (T.live-1);have hM2:=((((Mod.of_below HB.out [tb,gb]).then (hm1.more (by simp))).sl 1 (.int .i64 (T.live-1))));have Cw:=kD.Ky (T.bW+1);have tO:=hM2.sl 2 (.int .i64 (T.bW+1));have HP:=qd (And.intro Cw tO);clear Cw tO kD hM2 hT1 mM hG1 hm1 hV;go_wp2;go_ret;refine⟨rfl, ?_,HP.out.2⟩;have:=HP.out.1;unfold lN putAt;rw[HO.out];exact this
theorem Ip (tb key hash:Nat)(ap fp:Option Addr)(fs:Int)(w:World):
  Calls Tryz.prog 100 #[dJ tb key hash ap (-1) fp fs] w fun x w'=>x= .returned (.tuple #[aR ⟨0,0,0⟩,.bool false])∧Below w.heap.size w w':=by
 obtain⟨W,hW,hB,hV,hD⟩:=oJ w 199 #[.pointer (some ⟨tb,0,none⟩),.int .u64 (key:Int),.int .u64 (hash:Int),.pointer ap,.int .i64 (-1),.pointer fp,.int .i64 fs] 76 #[.int .u64 0,.int .u64 0,.int .u64 0];obtain⟨d0,d1,d2⟩:=hD.c3;obtain⟨f0,f1,f2⟩:=hD.f3;obtain⟨v0,v1,v2,v3,v4,v5,v6⟩:=hV.c7;have HW:=qd hW;have HB:=qd hB;unfold dJ aR;clear hW hB hV hD;go_in;go_upto_region 1 with fail;rw[←HW.out];go_wp2;refine bodyPost_ret (v:= .tuple #[.agg #[.int .u64 0,.int .u64 0,.int .u64 0],.bool false]) ?_ rfl ⟨rfl, ?_⟩
 ·simp[results,Tryz.results100,go_sem,d0,d1,d2]
 ·repeat (with_reducible first|exact HB.out|refine Below.setCell ?_ ?_ _)
  all_goals (simp;try omega)
theorem Iq (tb key hash gb:Nat)(fp:Option Addr)(fs:Int)(T:aC)(i s:Nat)(hi:i<T.gs.length)(hs:s<8)(e:av)(he:aF T.gs i s= .full e)(w:World)(h:TabAt w tb gb T):
  Calls Tryz.prog 100 #[dJ tb key hash (some ⟨gb,i*25,none⟩) (s:Int) fp fs] w fun x w'=>x= .returned (.tuple #[aR e,.bool true])∧Below w.heap.size w w':=by
 obtain⟨W,hW,hB,hV,hD⟩:=oJ w 199 #[.pointer (some ⟨tb,0,none⟩),.int .u64 (key:Int),.int .u64 (hash:Int),.pointer (some ⟨gb,i*25,none⟩),.int .i64 (s:Int),.pointer fp,.int .i64 fs] 76 #[.int .u64 0,.int .u64 0,.int .u64 0];obtain⟨v0,v1,v2,v3,v4,v5,v6⟩:=hV.c7;have mM:=h.below hB;have HE:=qd (Fx gb 239 (dz (T.gs.take i)) (dz (T.gs.drop (i+1))) (i*25) (T.gs.getD i []) W (mM.group i hi) s hs e he);have HW:=qd hW;have HB:=qd hB
 have hs0:¬(s:Int)<0:=by omega
 unfold bC aR at HE;unfold dJ aR;clear hW hB hV h mM he;go_in;go_upto_region 1 with fail;rw[←HW.out];go_wp2_with fail;refine(HE.out).mono ?_;rintro x w1 ⟨rfl,hb⟩;have hD1:=hD.below hb hD.lt;obtain⟨d0,d1,d2⟩:=hD1.c3;obtain⟨f0,f1,f2⟩:=hD1.f3;have hB1:=qd (bX hb HB.out);clear hb hD;go_wp2;refine bodyPost_ret (v:= .tuple #[.agg #[.int .u64 (e.key:Int),.int .u64 (e.val:Int),.int .u64 (e.hash:Int)],.bool true]) ?_ rfl ⟨rfl, ?_⟩
 ·simp[results,Tryz.results100,go_sem,d0,d1,d2]
 ·repeat (with_reducible first|exact hB1.out|refine Below.setCell ?_ ?_ _)
  all_goals (simp;try omega)
theorem Dn (tb key hash gb:Nat)(fp:Option Addr)(fs:Int)(T:aC)(i s v:Nat)(hi:i<T.gs.length)(hs:s<8)(e:av)(he:aF T.gs i s= .full e)(w:World)(h:TabAt w tb gb T):
  Calls Tryz.prog 101 #[dJ tb key hash (some ⟨gb,i*25,none⟩) (s:Int) fp fs,.int .u64 (v:Int)] w fun x w'=>x= .returned .nilIface∧TabAt w' tb gb (replaceM T i s v e)∧Mod [tb,gb] w w':=by
 have hB:=(Below.refl w.heap.size w).alloc (Nat.le_refl _) (.cells #[.pointer (some ⟨tb,0,none⟩),.int .u64 (key:Int),.int .u64 (hash:Int),.pointer (some ⟨gb,i*25,none⟩),.int .i64 (s:Int),.pointer fp,.int .i64 fs] 199);have hV:=aj.new w 199 #[.pointer (some ⟨tb,0,none⟩),.int .u64 (key:Int),.int .u64 (hash:Int),.pointer (some ⟨gb,i*25,none⟩),.int .i64 (s:Int),.pointer fp,.int .i64 fs];obtain⟨W,hW⟩:∃W,W=w.alloc (.cells #[.pointer (some ⟨tb,0,none⟩),.int .u64 (key:Int),.int .u64 (hash:Int),.pointer (some ⟨gb,i*25,none⟩),.int .i64 (s:Int),.pointer fp,.int .i64 fs] 199):=⟨_,rfl⟩;rw[←hW]at hB hV;obtain⟨v0,v1,v2,v3,v4,v5,v6⟩:=hV.c7;have mM:=h.below hB;have HE:=qd (abj gb 239 (dz (T.gs.take i)) (dz (T.gs.drop (i+1))) (i*25) (T.gs.getD i []) W (mM.group i hi) s hs v e he);have HT:=qd mM;have HW:=qd hW;have HB:=qd hB
 have hs0:¬(s:Int)<0:=by omega
 unfold bC at HE;unfold dJ;clear hW hB hV h mM he;go_in;go_upto_region 1 with fail;rw[←HW.out];go_wp2_with fail;refine(HE.out).mono ?_;rintro x w1 ⟨rfl,hG1,hm1⟩;have HP:=qd (And.intro (HT.out.o7 i hi hm1 hG1) ((Mod.of_below HB.out [tb,gb]).then (hm1.more (by simp))));clear hG1 hm1;go_wp2;go_ret;exact⟨rfl,HP.out.1,HP.out.2⟩
theorem BD (tb gb:Nat)(ap:Option Addr)(T:aC)(i s:Nat)(e:av)(hi:i<T.gs.length)(hs:s<8)(h64:e.hash<18446744073709551616)(he:(aF T.gs i s).isFull=false)(hS:Small T)(hroom:T.live+T.bW+1≤7*(T.gs.length:Int))(w:World)(h:TabAt w tb gb T):
  Calls Tryz.prog 102 #[dJ tb e.key e.hash ap (-1) (some ⟨gb,i*25,none⟩) (s:Int),aR e] w fun x w'=>x= .returned .nilIface∧TabAt w' tb gb (jM T i s e)∧Mod [tb,gb] w w':=by
 obtain⟨W,hW,hB,hV,hE⟩:=oJ w 199 #[.pointer (some ⟨tb,0,none⟩),.int .u64 (e.key:Int),.int .u64 (e.hash:Int),.pointer ap,.int .i64 (-1),.pointer (some ⟨gb,i*25,none⟩),.int .i64 (s:Int)] 76 #[.int .u64 (e.key:Int),.int .u64 (e.val:Int),.int .u64 (e.hash:Int)];have v:=hV.c7;obtain⟨e0,e1,e2⟩:=hE.c3;have mM:=h.below hB;have htl:=h.aW;have hgl:=h.aX;have HT:=qd (mM.below (Below.refl _ _).drew);have HE:=qd (abh gb 239 (dz (T.gs.take i)) (dz (T.gs.drop (i+1))) (i*25) (T.gs.getD i []) W.drew (HT.out.group i hi) s hs e h64 he);have HL:=qd (Tk tb gb T W mM hS.n1 ⟨hS.l0,hS.l1⟩ ⟨hS.t0,hS.t1⟩);have HW:=qd hW;have HB:=qd hB
 have hs0:¬(s:Int)<0:=by omega
 have hlf:¬7*(T.gs.length:Int)-T.live-T.bW<1:=by omega
 have hne:w.heap.size≠gb:=by omega
 obtain⟨l0,l1,t0,t1,n1⟩:=hS;rw[show(T.gs.getD i []).getD s .empty=aF T.gs i s from rfl]at HE;unfold bC aR at HE;unfold cZ at HL;unfold dJ aR;clear hW hB h mM he n1 hroom h64 hE
 cases ho:(aF T.gs i s).iY with
 |true=>
  rw[ho]at HE;have HO:=qd ho;clear ho;go_in;go_upto_region 1 with fail;rw[←HW.out];go_wp2_with fail;refine(HL.out).mono ?_;rintro x w1 ⟨rfl,rfl⟩;go_wp2_with fail;refine(HE.out).mono ?_;rintro x w1 ⟨rfl,hG1,hm1⟩;have hT1:=HT.out.o7 i hi hm1 hG1;obtain⟨c0,c1,c2⟩:=hT1.cells;have f1:=hT1.tab.frozen 1;have f2:=hT1.tab.frozen 2;have Vx:=hV.drew.mod hm1 (by simpa using hne);have v:=Vx.c7;have kD:=hT1.BA (T.live+1);have hM2:=((((Mod.of_below HB.out.drew [tb,gb]).then (hm1.more (by simp))).sl 1 (.int .i64 (T.live+1))));have Cw:=kD.Ky (T.bW-1);have tO:=hM2.sl 2 (.int .i64 (T.bW-1));have HP:=qd (And.intro Cw tO);clear Cw tO kD hM2 hT1 hG1 hm1 Vx hV;go_wp2;go_ret;refine⟨rfl, ?_,HP.out.2⟩;have:=HP.out.1;unfold jM putAt;rw[HO.out];exact this
 |false=>
  rw[ho]at HE;have HO:=qd ho;clear ho;go_in;go_upto_region 1 with fail;rw[←HW.out];go_wp2_with fail;refine(HL.out).mono ?_;rintro x w1 ⟨rfl,rfl⟩;go_wp2_with fail;refine(HE.out).mono ?_;rintro x w1 ⟨rfl,hG1,hm1⟩;have hT1:=HT.out.o7 i hi hm1 hG1;obtain⟨c0,c1,c2⟩:=hT1.cells;have f1:=hT1.tab.frozen 1;have f2:=hT1.tab.frozen 2;have Vx:=hV.drew.mod hm1 (by simpa using hne);have v:=Vx.c7;have kD:=hT1.BA (T.live+1);have hM2:=((((Mod.of_below HB.out.drew [tb,gb]).then (hm1.more (by simp))).sl 1 (.int .i64 (T.live+1))));have HP:=qd (And.intro kD hM2);clear kD hM2 hT1 hG1 hm1 Vx hV;go_wp2;go_ret;refine⟨rfl, ?_,HP.out.2⟩;have:=HP.out.1;unfold jM putAt;rw[HO.out];exact this
end Go.Proofs.YtbfpfgfgfjhpfaaGreatDoor

/-! Seeking over a list of groups. No program in sight. -/
namespace Go.Proofs.YtbfpfgfgfjhpfaaGreatDoor.dP
set_option maxRecDepth 100000
set_option maxHeartbeats 2000000
open Go.RowKit dP Go
variable {gs : Tab} {hash i key : Nat} {pre rest : List Nat}
def ko (gs:Tab)(key hash:Nat):List Nat→Option (Nat×Nat)→Option (Nat×Nat)×Option (Nat×Nat)×Nat
 | [],fr=>(none,fr,0)
 |i::is,fr=>
  match iA (gs.getD i []) key hash with
  |some s=>(some (i,s),iV fr i (gs.getD i []),1)
  |none=>if dQ (gs.getD i [])then(none,iV fr i (gs.getD i []),1)else
   let r:=ko gs key hash is (iV fr i (gs.getD i []))
   (r.1,r.2.1,r.2.2+1)
theorem Cx (gs:Tab)(key hash:Nat):∀f j fr,jg gs key hash f j fr=ko gs key hash ((List.range f).map fun k=>bZ (hash/128) gs.length (j+k)) fr
 |0,_,_=>rfl
 |f+1,j,fr=>by
  rw[List.range_succ_eq_map,List.map_cons,List.map_map];have ih:=Cx gs key hash f (j+1);unfold jg ko;simp only[Nat.add_zero]
  have he:(List.range f).map ((fun k=>bZ (hash/128) gs.length (j+k))∘Nat.succ)=(List.range f).map fun k=>bZ (hash/128) gs.length (j+1+k):=by
   apply List.map_congr_left;intro k _;simp[Nat.succ_eq_add_one,Nat.add_assoc,Nat.add_comm 1 k]
  rw[he]
  cases hf:iA (gs.getD (bZ (hash/128) gs.length j) []) key hash with
  |some s=>rfl
  |none=>
   cases ho:dQ (gs.getD (bZ (hash/128) gs.length j) [])with
   |true=>rfl
   |false=>
    simp only[Bool.false_eq_true,if_false];rw[ih]
theorem y5 (gs:Tab)(key hash:Nat):aH gs key hash=ko gs key hash (walk (hash/128) gs.length) none:=by
 unfold aH walk;rw[Cx];congr 1;apply List.map_congr_left;intro k _;rw[Nat.zero_add]
def fV (gs:Tab)(pre:List Nat):Option (Nat×Nat):=pre.foldl (fun fr i=>iV fr i (gs.getD i [])) none
theorem uR (gs:Tab)(pre:List Nat)(i:Nat):fV gs (pre++[i])=iV (fV gs pre) i (gs.getD i []):=by simp[fV]
def Passed (gs:Tab)(key hash:Nat)(i:Nat):Prop:=iA (gs.getD i []) key hash=none∧dQ (gs.getD i [])=false
theorem uS (gs:Tab)(key hash:Nat):∀(pre rest:List Nat) (fr:Option (Nat×Nat)),(∀i∈pre,Passed gs key hash i)→
  ko gs key hash (pre++rest) fr=let r:=ko gs key hash rest (pre.foldl (fun fr i=>iV fr i (gs.getD i [])) fr);(r.1,r.2.1,r.2.2+pre.length)
 | [],rest,fr,_=>by simp
 |i::pre,rest,fr,h=>by
  obtain⟨h1,h2⟩:=h i (by simp);have ih:=uS gs key hash pre rest (iV fr i (gs.getD i [])) (fun x hx=>h x (by simp[hx]));rw[List.cons_append,ko,h1];simp only[h2,Bool.false_eq_true,if_false];rw[ih];simp only[List.foldl_cons,List.length_cons,Nat.add_assoc]
theorem YE (he:pre=walk (hash/128) gs.length)(h:∀i∈pre,Passed gs key hash i):aH gs key hash=(none,fV gs pre,pre.length):=by
 rw[y5,←he];have:=uS gs key hash pre [] none h;rw[List.append_nil]at this;rw[this];simp[ko,fV]
theorem YF {s:Nat}(he:pre++i::rest=walk (hash/128) gs.length)(h:∀i∈pre,Passed gs key hash i)(hf:iA (gs.getD i []) key hash=some s):aH gs key hash=(some (i,s),fV gs (pre++[i]),(pre++[i]).length):=by
 rw[y5,←he,uS gs key hash pre _ none h,uR];unfold ko;rw[hf];simp only[List.length_append,List.length_cons,List.length_nil,Nat.zero_add,Nat.add_comm 1];rfl
theorem Vy (he:pre++i::rest=walk (hash/128) gs.length)(h:∀i∈pre,Passed gs key hash i)(hf:iA (gs.getD i []) key hash=none)(ho:dQ (gs.getD i [])=true):aH gs key hash=(none,fV gs (pre++[i]),(pre++[i]).length):=by
 rw[y5,←he,uS gs key hash pre _ none h,uR];unfold ko;rw[hf];simp only[ho,if_true,List.length_append,List.length_cons,List.length_nil,Nat.zero_add,Nat.add_comm 1];rfl
end Go.Proofs.YtbfpfgfgfjhpfaaGreatDoor.dP
