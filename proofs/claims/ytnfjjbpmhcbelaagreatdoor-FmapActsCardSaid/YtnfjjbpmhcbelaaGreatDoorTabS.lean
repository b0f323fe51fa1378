/- A group as slots and as bytes: what the lanes tell of the slots. No program in sight. -/
import Derived.Test.YtnfjjbpmhcbelaaGreatDoorSqM
import Derived.Test.YtnfjjbpmhcbelaaGreatDoorTabP
import Derived.Test.YtnfjjbpmhcbelaaGreatDoorCoL
import Derived.Test.YtnfjjbpmhcbelaaGreatDoorGaugeA
import Derived.BigRegion
namespace Go.Proofs.YtnfjjbpmhcbelaaGreatDoor.dI
set_option maxRecDepth 100000
set_option maxHeartbeats 2000000
open Go Go.RowKit dI
def Slot.ent:Slot→av
 | .full e=>e
 |_=>⟨0,0,0⟩
theorem QG (h b:Nat):kU h b=128↔b=h:=by unfold kU;split<;>simp_all
theorem Yp (x:Slot)(h:Nat)(hh:h<128):x.byte=h↔∃e,x= .full e∧e.hash % 128=h:=by
 cases x with
 |empty=>simp[Slot.byte];omega
 |qm=>simp[Slot.byte];omega
 |full e=>simp[Slot.byte]
theorem H8 (key hash:Nat)(f:Nat→av):∀(G:kP) (s:Nat),(∀k x,G[k]?=some x→f (s+k)=x.ent)→
  (cZ s (G.map fun x=>kU (hash % 128) x.byte)).find? (fun i=>(f i).key==key)=(gT G key hash).map (s+·)
 | [],_,_=>rfl
 |x::G,s,hf=>by
  have ih:=H8 key hash f G (s+1) (fun k y hy=>by have:=hf (k+1) y (by simpa using hy);rwa [show s+(k+1)=s+1+k by omega]at this);have h0:f s=x.ent:=hf 0 x rfl
  have hm:(gT G key hash).map (s+1+·)=((gT G key hash).map (·+1)).map (s+·):=by
   cases gT G key hash with
   |none=>rfl
   |some k=>simp;omega
  rw[List.map_cons,cZ];unfold gT at ih hm⊢;rw[List.findIdx?_cons];by_cases hx:x.byte=hash % 128
  ·obtain⟨e,rfl,he⟩:=(Yp x _ (by omega)).1 hx;rw[if_pos ((QG _ _).2 hx),List.find?_cons,h0];by_cases hk:e.key=key
   ·have:Slot.isKey key hash (.full e)=true:=by simp[Slot.isKey,he,hk]
    rw[this];simp[Slot.ent,hk]
   ·have:Slot.isKey key hash (.full e)=false:=by simp[Slot.isKey,hk]
    rw[this]
    have h1:((Slot.ent (.full e)).key==key)=false:=by simpa[Slot.ent]using hk
    rw[h1];simp only[Bool.false_eq_true,if_false];rw[ih,hm]
  ·have:Slot.isKey key hash x=false:=by
    cases x with
    |empty=>rfl
    |qm=>rfl
    |full e=>simp[Slot.byte]at hx;simp[Slot.isKey,hx]
   rw[if_neg (fun h=>hx ((QG _ _).1 h)),this,ih,hm];simp
theorem U2 (x:Slot):eu x.byte=128↔x.isFull=false:=by
 cases x with
 |empty=>simp[Slot.byte,eu,Slot.isFull]
 |qm=>simp[Slot.byte,eu,Slot.isFull]
 |full e=>
  have:=Nat.mod_lt e.hash (show 0<128 by omega)
  have h1:eu (e.hash % 128)=0:=by unfold eu;rw[if_pos this]
  show eu (e.hash % 128)=128↔_;rw[h1];simp[Slot.isFull]
theorem Sy (G:kP):firstM ((G.map Slot.byte).map eu)=kW G:=by
 unfold firstM kW;rw[List.map_map,List.findIdx?_map];congr 1;funext x;rw[Bool.eq_iff_iff];simp[U2]
theorem Gb (G:kP):(G.map Slot.byte).any (·==128)=dH G:=by
 unfold dH;rw[List.any_map];congr 1;funext x
 cases x with
 |empty=>rfl
 |qm=>rfl
 |full e=>simp[Slot.byte,Slot.isEmpty];omega
theorem H9 (f:Nat→av):∀(G:kP) (s:Nat),(∀k x,G[k]?=some x→f (s+k)=x.ent)→(cZ s (G.map fun x=>eu (255-x.byte))).map f=bT G
 | [],_,_=>rfl
 |x::G,s,hf=>by
  have ih:=H9 f G (s+1) (fun k y hy=>by have:=hf (k+1) y (by simpa using hy);rwa [show s+(k+1)=s+1+k by omega]at this);have h0:f s=x.ent:=hf 0 x rfl
  have hg:bT (x::G)=x.ents++bT G:=by simp[bT]
  rw[List.map_cons,cZ,hg]
  cases x with
  |empty=>rw[if_neg (by simp[Slot.byte,eu]),ih];rfl
  |qm=>rw[if_neg (by simp[Slot.byte,eu]),ih];rfl
  |full e=>
   have h1:eu (255-e.hash % 128)=128:=by unfold eu;rw[if_neg (by omega)]
   rw[if_pos (show eu (255-(Slot.full e).byte)=128 from h1),List.map_cons,ih,h0];rfl
theorem yR (G:kP)(i:Nat)(x:Slot):(G.set i x).map Slot.byte=(G.map Slot.byte).set i x.byte:=List.map_set
theorem qL (G:kP)(i:Nat)(x:Slot):(G.set i x).map Slot.ent=(G.map Slot.ent).set i x.ent:=List.map_set
theorem Bn (G:kP)(i:Nat):(G.map Slot.ent).getD i ⟨0,0,0⟩=(G.getD i .empty).ent:=by
 rw[List.getD_eq_getElem?_getD,List.getD_eq_getElem?_getD,List.getElem?_map]
 cases G[i]?<;>rfl
theorem Ki (G:kP)(i:Nat)(hi:i<G.length):(G.map Slot.byte).getD i 0=(G.getD i .empty).byte:=by
 rw[List.getD_eq_getElem?_getD,List.getD_eq_getElem?_getD,List.getElem?_map,List.getElem?_eq_getElem hi];rfl
theorem U3 (x:Slot):x.byte<128↔x.isFull=true:=by
 cases x with
 |empty=>simp[Slot.byte,Slot.isFull]
 |qm=>simp[Slot.byte,Slot.isFull]
 |full e=>simp[Slot.byte,Slot.isFull];omega
theorem U4 (x:Slot)(h:x.isFull=false):(x.byte==254)=x.iL:=by
 cases x with
 |empty=>rfl
 |qm=>rfl
 |full e=>cases h
end Go.Proofs.YtnfjjbpmhcbelaaGreatDoor.dI

/-! A group of slots in memory: its view's functions, told of slots. -/
namespace Go.Proofs.YtnfjjbpmhcbelaaGreatDoor
set_option maxRecDepth 100000
set_option maxHeartbeats 2000000
open Go Go.RowKit dI
def mI (w:World)(gb:Nat)(t:TypeId)(pre post:List Value)(go:Nat)(G:kP):Prop:=cO w gb t pre post go (G.map Slot.byte) (G.map Slot.ent)
section
variable {w w' : World} {gb go : Nat} {t : TypeId} {pre post : List Value} {G : kP}
theorem mI.len8 (h:mI w gb t pre post go G):G.length=8:=by have:=h.l8;simpa using this
theorem mI.lt (h:mI w gb t pre post go G):gb<w.heap.size:=h.blk.lt
theorem mI.mod {S:List Nat}(h:mI w gb t pre post go G)(hm:Mod S w w')(hg:gb∉S):mI w' gb t pre post go G:=cO.mod h hm hg
instance {w w':World}{gb:Nat}{t:TypeId}{pre post:List Value}{go:Nat}{G:kP}:Md (mI w gb t pre post go G) w w' (mI w' gb t pre post go G) (fun S=>gb∉S):=⟨fun h hm hs=>mI.mod h hm hs⟩
theorem mI.below (h:mI w gb t pre post go G)(hb:Below w.heap.size w w'):mI w' gb t pre post go G:=cO.below h hb
theorem mI.keep {n₀:Nat}{S:List Nat}(h:mI w gb t pre post go G)(hm:aY n₀ S w w')(hn:gb<n₀)(hg:gb∉S):mI w' gb t pre post go G:=⟨h.len,h.l8,h.bytes,h.e8,hm.blk h.blk hn hg⟩
end
section
variable (gb : Nat) (t : TypeId) (pre post : List Value) (go : Nat) (G : kP) (w : World) (h : mI w gb t pre post go G)
include h
theorem Aa (i:Nat)(hi:i<8):(G.map Slot.byte).getD i 0<128↔(G.getD i .empty).isFull=true:=by
 rw[Ki G i (by rw[h.len8];exact hi),U3]
theorem Yq (key hash:Nat)(h64:hash<18446744073709551616)(hT:fP w):
  Calls Tryz.prog 154 #[bC ⟨gb,go,none⟩,nU key,nU hash] w fun e w'=>e= .returned (.int .i64 (uF (gT G key hash)))∧Below w.heap.size w w':=by
 have:=U0 gb t pre post go _ _ key hash h64 w h hT;unfold Eo at this;rw[List.map_map]at this
 have he:=H8 key hash (fun i=>(G.map Slot.ent).getD i ⟨0,0,0⟩) G 0 (fun k x hk=>by
  rw[Nat.zero_add,Bn,List.getD_eq_getElem?_getD,hk];rfl)
 have hm:(gT G key hash).map (0+·)=gT G key hash:=by cases gT G key hash<;>simp
 rw[hm]at he;rw[show(cZ 0 (List.map (kU (hash % 128)∘Slot.byte) G))=cZ 0 (G.map fun x=>kU (hash % 128) x.byte)from rfl,he]at this;exact this
theorem Yr (hT:fP w):Calls Tryz.prog 153 #[bC ⟨gb,go,none⟩] w fun e w'=>e= .returned (.int .i64 (uF (kW G)))∧Below w.heap.size w w':=by
 have:=UO gb t pre post go _ _ w h hT
 rwa [Sy]at this
theorem Yt:Calls Tryz.prog 155 #[bC ⟨gb,go,none⟩] w fun e w'=>e= .returned (.bool (dH G))∧Below w.heap.size w w':=by
 have:=CR gb t pre post go _ _ w h
 rwa [Gb]at this
theorem EW (i:Nat)(hi:i<8)(e:av)(he:G.getD i .empty= .full e):
  Calls Tryz.prog 156 #[bC ⟨gb,go,none⟩,nI i] w fun x w'=>x= .returned (.tuple #[aP e,.bool true])∧Below w.heap.size w w':=by
 have:=Nb gb t pre post go _ _ i hi w h ((Aa gb t pre post go G w h i hi).2 (by rw[he];rfl))
 rwa [Bn,he]at this
theorem Kj (i:Nat)(hi:i<8)(he:(G.getD i .empty).isFull=false)(E:Nat→Addr)(hE:fJ E w 5):
  Calls Tryz.prog 156 #[bC ⟨gb,go,none⟩,nI i] w fun x w'=>x= .returned (.tuple #[aP ⟨0,0,0⟩,.bool false])∧Below w.heap.size w w':=
 Sl gb t pre post go _ _ i hi w h (fun hl=>by rw[(Aa gb t pre post go G w h i hi).1 hl]at he;cases he) E hE
theorem aa9 (i:Nat)(hi:i<8)(e:av)(h64:e.hash<18446744073709551616)(he:(G.getD i .empty).isFull=false):
  Calls Tryz.prog 159 #[bC ⟨gb,go,none⟩,nI i,aP e] w fun x w'=>x= .returned (.tuple #[.bool (G.getD i .empty).iL,.nilIface])∧mI w' gb t pre post go (G.set i (.full e))∧Mod [gb] w w':=by
 have:=Yf gb t pre post go _ _ i hi e h64 w h (fun hl=>by rw[(Aa gb t pre post go G w h i hi).1 hl]at he;cases he);rw[Ki G i (by rw[h.len8];exact hi),U4 _ he]at this;refine this.mono fun x w' ⟨h1,h2,h3⟩=>⟨h1, ?_,h3⟩;unfold mI;rw[yR,qL];exact h2
theorem abb (i:Nat)(hi:i<8)(v:Nat)(e:av)(he:G.getD i .empty= .full e):
  Calls Tryz.prog 157 #[bC ⟨gb,go,none⟩,nI i,nU v] w fun x w'=>x= .returned .nilIface∧mI w' gb t pre post go (G.set i (.full {e with val:=v}))∧Mod [gb] w w':=by
 have Nj:i<G.length:=by rw[h.len8];exact hi
 have:=Yg gb t pre post go _ _ i hi v w h ((Aa gb t pre post go G w h i hi).2 (by rw[he];rfl));rw[Bn,he]at this;refine this.mono fun x w' ⟨h1,h2,h3⟩=>⟨h1, ?_,h3⟩;unfold mI;rw[yR,qL]
 have hb:(G.map Slot.byte).set i (Slot.full {e with val:=v}).byte=G.map Slot.byte:=by
  apply List.ext_getElem?;intro k;rw[List.getElem?_set];split
  ·next hk=>
   subst hk;rw[if_pos (by simpa using Nj),List.getElem?_map,List.getElem?_eq_getElem Nj]
   have:G[i]= .full e:=by rw[←he,dI.getD_in Nj]
   rw[this];rfl
  ·rfl
 rw[hb];exact h2
theorem U5 (i:Nat)(hi:i<8)(e:av)(he:G.getD i .empty= .full e):
  Calls Tryz.prog 264 #[bC ⟨gb,go,none⟩,nI i] w fun x w'=>x= .returned (.tuple #[.bool !(dH G),.nilIface])∧mI w' gb t pre post go (G.set i (if dH G then .empty else .qm))∧Mod [gb] w w':=by
 have hm:=(Aa gb t pre post go G w h i hi).2 (by rw[he];rfl)
 cases ho:dH G with
 |true=>
  refine(Hw gb t pre post go _ _ i hi w h hm (by rw[Gb];exact ho)).mono fun x w' ⟨h1,h2,h3⟩=>⟨h1, ?_,h3⟩;unfold mI;rw[yR,qL];exact h2
 |false=>
  refine(Hy gb t pre post go _ _ i hi w h hm (by rw[Gb];exact ho)).mono fun x w' ⟨h1,h2,h3⟩=>⟨h1, ?_,h3⟩;unfold mI;rw[yR,qL];exact h2
theorem Kl:Calls Tryz.prog 147 #[bC ⟨gb,go,none⟩] w fun x w'=>x= .returned undef∧mI w' gb t pre post go (List.replicate 8 .empty)∧Mod [gb] w w':=Sm gb t pre post go _ _ w h
theorem EX (hT:fP w):Calls Tryz.prog 266 #[bC ⟨gb,go,none⟩] w fun e w'=>∃A c,e= .returned (.slice A (bT G).length c)∧
  w'.ownsRow w.heap.size 166 3 (.slice A (bT G).length c) (bT G).length ((bT G).flatMap aV)∧Below w.heap.size w w':=by
 have:=Nl gb t pre post go _ _ w h hT
 have he:uR (G.map Slot.byte) (G.map Slot.ent)=bT G:=by
  unfold uR qI CJ;rw[List.map_map,List.map_map];exact H9 _ G 0 (fun k x hk=>by rw[Nat.zero_add,Bn,List.getD_eq_getElem?_getD,hk];rfl)
 rwa [he]at this
end
end Go.Proofs.YtnfjjbpmhcbelaaGreatDoor

/-! A table in memory. -/
namespace Go.Proofs.YtnfjjbpmhcbelaaGreatDoor
set_option maxRecDepth 100000
set_option maxHeartbeats 2000000
open Go Go.RowKit dI
variable {G : kP} {gs : Tab} {i : Nat} {S : List Nat}
structure aC where
 gs:Tab
 live:Int
 bW:Int
def xQ (G:kP):List Value:=eZ (G.map Slot.byte) (G.map Slot.ent)
def dw (gs:Tab):List Value:=gs.flatMap xQ
structure TabAt (w:World)(tb gb:Nat)(T:aC):Prop where
 wide:qP T.gs
 tab:aj w tb 242 #[.slice (some ⟨gb,0,none⟩) T.gs.length T.gs.length,.int .i64 T.live,.int .i64 T.bW]
 Ia:aj w gb 246 (dw T.gs).toArray
 ne:tb≠gb
theorem LD (h:G.length=8):(xQ G).length=25:=by unfold xQ eZ;rw[List.length_cons,gF,List.length_map,h]
theorem Ib (h:qP gs):(dw gs).length=gs.length*25:=by
 induction gs with
 |nil=>rfl
 |cons G gs ih=>
  have h1:=LD (h G (by simp));have h2:=ih (fun X hX=>h X (by simp[hX]));unfold dw at h2⊢;rw[List.flatMap_cons,List.length_append,h1,h2,List.length_cons];omega
theorem PX (hi:i<gs.length):dw gs=dw (gs.take i)++(xQ (gs.getD i [])++dw (gs.drop (i+1))):=by
 conv=>lhs;rw[xM (d:=[]) hi]
 simp[dw]
theorem Nn (hi:i<gs.length)(G:kP):dw (gs.set i G)=dw (gs.take i)++(xQ G++dw (gs.drop (i+1))):=by
 rw[oH hi];simp[dw]
theorem Yu (h:qP gs)(i:Nat)(hG:G.length=8):qP (gs.set i G):=fun X hX=>by
 rcases List.mem_or_eq_of_mem_set hX with hX|rfl
 ·exact h X hX
 ·exact hG
section
variable {w w' : World} {tb gb : Nat} {T : aC}
theorem TabAt.aT (h:TabAt w tb gb T):tb<w.heap.size:=h.tab.lt
theorem TabAt.aU (h:TabAt w tb gb T):gb<w.heap.size:=h.Ia.lt
theorem TabAt.mod (h:TabAt w tb gb T)(hm:Mod S w w')(h1:tb∉S)(h2:gb∉S):TabAt w' tb gb T:=⟨h.wide,h.tab.mod hm h1,h.Ia.mod hm h2,h.ne⟩
instance {w w':World}{tb gb:Nat}{T:aC}:Md (TabAt w tb gb T) w w' (TabAt w' tb gb T) (fun S=>tb∉S∧gb∉S):=⟨fun h hm hs=>h.mod hm hs.1 hs.2⟩
theorem TabAt.below (h:TabAt w tb gb T)(hb:Below w.heap.size w w'):TabAt w' tb gb T:=h.mod (Mod.of_below hb []) (by simp) (by simp)
theorem TabAt.keep {n₀:Nat}(h:TabAt w tb gb T)(hm:aY n₀ S w w')(h1:tb<n₀)(h2:gb<n₀)(h3:tb∉S)(h4:gb∉S):TabAt w' tb gb T:=⟨h.wide,hm.blk h.tab h1 h3,hm.blk h.Ia h2 h4,h.ne⟩
theorem TabAt.group (h:TabAt w tb gb T)(i:Nat)(hi:i<T.gs.length):mI w gb 246 (dw (T.gs.take i)) (dw (T.gs.drop (i+1))) (i*25) (T.gs.getD i []):=by
 have hw:qP (T.gs.take i):=fun X hX=>h.wide X (List.mem_of_mem_take hX);have h8:=h.wide.at_ hi;refine⟨by rw[Ib hw,List.length_take];congr 1;omega,by simpa using h8,UC _,by simpa using h8, ?_⟩;have:=h.Ia;rw[PX hi]at this;exact this
theorem TabAt.oL (h:TabAt w tb gb T)(i:Nat)(hi:i<T.gs.length)(hm:Mod [gb] w w')(hG:mI w' gb 246 (dw (T.gs.take i)) (dw (T.gs.drop (i+1))) (i*25) G):TabAt w' tb gb {T with gs:=T.gs.set i G}:=by
 refine⟨Yu h.wide i hG.len8, ?_, ?_,h.ne⟩
 ·have:=h.tab.mod hm (by simpa using h.ne);simpa using this
 ·show aj w' gb _ (dw (T.gs.set i G)).toArray;rw[Nn hi];exact hG.blk
theorem TabAt.cells (h:TabAt w tb gb T):w.cell? ⟨tb,0,none⟩=some (.slice (some ⟨gb,0,none⟩) T.gs.length T.gs.length)∧w.cell? ⟨tb,1,none⟩=some (.int .i64 T.live)∧w.cell? ⟨tb,2,none⟩=some (.int .i64 T.bW):=
 ⟨h.tab.cell 0,h.tab.cell 1,h.tab.cell 2⟩
theorem TabAt.Bo (h:TabAt w tb gb T)(x:Int):TabAt (w.setCell ⟨tb,1,none⟩ (.int .i64 x)) tb gb {T with live:=x}:=
 ⟨h.wide,h.tab.ak 1 _,h.Ia.far (p:=⟨tb,1,none⟩) (Ne.symm h.ne) _,h.ne⟩
theorem TabAt.Km (h:TabAt w tb gb T)(x:Int):TabAt (w.setCell ⟨tb,2,none⟩ (.int .i64 x)) tb gb {T with bW:=x}:=
 ⟨h.wide,h.tab.ak 2 _,h.Ia.far (p:=⟨tb,2,none⟩) (Ne.symm h.ne) _,h.ne⟩
end
def bU (tb:Nat):Value:=pQ tb
theorem sN (tb gb:Nat)(T:aC)(w:World)(h:TabAt w tb gb T):Calls Tryz.prog 162 #[bU tb] w fun e w'=>e= .returned (nI T.gs.length)∧w=w':=by
 obtain⟨h0,h1,h2⟩:=h.cells;clear h;unfold bU;go_in;go_wp2;go_ret;exact⟨rfl,rfl⟩
theorem U6 (tb gb:Nat)(T:aC)(w:World)(h:TabAt w tb gb T):Calls Tryz.prog 160 #[bU tb] w fun e w'=>e= .returned (.int .i64 T.live)∧w=w':=by
 obtain⟨h0,h1,h2⟩:=h.cells;clear h;unfold bU;go_in;go_wp2;go_ret;exact⟨rfl,rfl⟩
theorem PY (tb gb:Nat)(T:aC)(w:World)(h:TabAt w tb gb T):Calls Tryz.prog 161 #[bU tb] w fun e w'=>e= .returned (.int .i64 T.bW)∧w=w':=by
 obtain⟨h0,h1,h2⟩:=h.cells;clear h;unfold bU;go_in;go_wp2;go_ret;exact⟨rfl,rfl⟩
theorem Sz (tb gb:Nat)(T:aC)(w:World)(h:TabAt w tb gb T)(hn:T.gs.length≤64)(hl:0≤T.live∧T.live≤1000)(ht:0≤T.bW∧T.bW≤1000):
  Calls Tryz.prog 158 #[bU tb] w fun e w'=>e= .returned (.int .i64 (7*(T.gs.length:Int)-T.live-T.bW))∧w'=w.drew:=by
 obtain⟨h0,h1,h2⟩:=h.cells;obtain⟨l0,l1⟩:=hl;obtain⟨t0,t1⟩:=ht;clear h;generalize T.gs.length=n at*;generalize T.live=a at*;generalize T.bW=b at*;unfold bU;go_in;go_upto_region 1 with fail;go_region;go_wp2;go_ret;exact⟨gJ (by omega),rfl⟩
end Go.Proofs.YtnfjjbpmhcbelaaGreatDoor

/-! A table's spots: what is found there, what is written. -/
namespace Go.Proofs.YtnfjjbpmhcbelaaGreatDoor
set_option maxRecDepth 100000
set_option maxHeartbeats 2000000
open Go Go.RowKit dI
def Ic (p:Option Addr)(s:Int):Value:= .agg #[.pointer p,.int .i64 s]
def bK (tb key hash:Nat)(ap:Option Addr)(as_:Int)(fp:Option Addr)(fs:Int):Value:= .agg #[pQ tb,nU key,nU hash,.pointer ap,.int .i64 as_,.pointer fp,.int .i64 fs]
def iM (T:aC)(i s:Nat):aC:={gs:=putAt T.gs i s (if dH (T.gs.getD i [])then .empty else .qm),live:=T.live-1,bW:=if dH (T.gs.getD i [])then T.bW else T.bW+1}
def jC (T:aC)(i s:Nat)(e:av):aC:={gs:=putAt T.gs i s (.full e),live:=T.live+1,bW:=if(aF T.gs i s).iL then T.bW-1 else T.bW}
def replaceM (T:aC)(i s:Nat)(v:Nat)(e:av):aC:={T with gs:=putAt T.gs i s (.full {e with val:=v})}
structure Small (T:aC):Prop where
 l0:0≤T.live
 l1:T.live≤1000
 t0:0≤T.bW
 t1:T.bW≤1000
 n1:T.gs.length≤64
theorem EY (tb gb:Nat)(T:aC)(i s:Nat)(hi:i<T.gs.length)(hs:s<8)(e:av)(he:aF T.gs i s= .full e)(hS:Small T)(w:World)(h:TabAt w tb gb T):
  Calls Tryz.prog 237 #[bU tb,Ic (some ⟨gb,i*25,none⟩) (s:Int)] w fun x w'=>x= .returned .nilIface∧TabAt w' tb gb (iM T i s)∧Mod [tb,gb] w w':=by
 have hB:=(Below.refl w.heap.size w).alloc (Nat.le_refl _) (.cells #[.pointer (some ⟨gb,i*25,none⟩),nI s] 203);have hV:=aj.new w 203 #[.pointer (some ⟨gb,i*25,none⟩),nI s];obtain⟨W,hW⟩:∃W,W=w.alloc (.cells #[.pointer (some ⟨gb,i*25,none⟩),nI s] 203):=⟨_,rfl⟩;rw[←hW]at hB hV;have l7:=h.below hB;have hGW:=l7.group i hi;have HE:=qd (U5 gb 246 (dw (T.gs.take i)) (dw (T.gs.drop (i+1))) (i*25) (T.gs.getD i []) W hGW s hs e he);have HW:=qd hW;have HB:=qd hB;obtain⟨l0,l1,t0,t1,n1⟩:=hS
 have hi0:(0:Int)≤(i:Int):=by omega
 unfold bC at HE;unfold bU Ic;clear hW h hB hGW he n1
 cases ho:dH (T.gs.getD i [])with
 |true=>
  rw[ho]at HE;simp only[Bool.not_true,if_true]at HE;have HO:=qd ho;clear ho;go_in;go_upto_region 1 with fail;rw[←HW.out];have v:=hV.c2;go_wp2_with fail;refine(HE.out).mono ?_;rintro x w1 ⟨rfl,hG1,hm1⟩;have hT1:=l7.oL i hi hm1 hG1;obtain⟨c0,c1,c2⟩:=hT1.cells;have f1:=hT1.tab.frozen 1;have f2:=hT1.tab.frozen 2;have kD:=hT1.Bo (T.live-1);have hM2:=((((Mod.of_below HB.out [tb,gb]).then (hm1.more (by simp))).sl 1 (.int .i64 (T.live-1))));have HP:=qd (And.intro kD hM2);clear kD hM2 hT1 l7 hG1 hm1 hV;go_wp2;go_ret;refine⟨rfl, ?_,HP.out.2⟩;have:=HP.out.1;unfold iM putAt;rw[HO.out];exact this
 |false=>
  rw[ho]at HE;simp only[Bool.not_false,Bool.false_eq_true,if_false]at HE;have HO:=qd ho;clear ho;go_in;go_upto_region 1 with fail;rw[←HW.out];have v:=hV.c2;go_wp2_with fail;refine(HE.out).mono ?_;rintro x w1 ⟨rfl,hG1,hm1⟩;have hT1:=l7.oL i hi hm1 hG1;obtain⟨c0,c1,c2⟩:=hT1.cells;have f1:=hT1.tab.frozen 1;have f2:=hT1.tab.frozen 2;have kD:=hT1.Bo (T.live-1);have hM2:=((((Mod.of_below HB.out [tb,gb]).then (hm1.more (by simp))).sl 1 (.int .i64 (T.live-1))));have Cg:=kD.Km (T.bW+1);have yP:=hM2.sl 2 (.int .i64 (T.bW+1));have HP:=qd (And.intro Cg yP);clear Cg yP kD hM2 hT1 l7 hG1 hm1 hV;go_wp2;go_ret;refine⟨rfl, ?_,HP.out.2⟩;have:=HP.out.1;unfold iM putAt;rw[HO.out];exact this
theorem Ie (tb key hash:Nat)(ap fp:Option Addr)(fs:Int)(w:World):
  Calls Tryz.prog 106 #[bK tb key hash ap (-1) fp fs] w fun x w'=>x= .returned (.tuple #[aP ⟨0,0,0⟩,.bool false])∧Below w.heap.size w w':=by
 obtain⟨W,hW,hB,hV,hD⟩:=kN w 205 #[pQ tb,nU key,nU hash,.pointer ap,.int .i64 (-1),.pointer fp,.int .i64 fs] 166 #[.int .u64 0,.int .u64 0,.int .u64 0];obtain⟨d0,d1,d2⟩:=hD.c3;obtain⟨f0,f1,f2⟩:=hD.f3;obtain⟨v0,v1,v2,v3,v4,v5,v6⟩:=hV.c7;have HW:=qd hW;have HB:=qd hB;unfold bK aP;clear hW hB hV hD;go_in;go_upto_region 1 with fail;rw[←HW.out];go_wp2;refine bodyPost_ret (v:= .tuple #[.agg #[.int .u64 0,.int .u64 0,.int .u64 0],.bool false]) ?_ rfl ⟨rfl, ?_⟩
 ·simp[results,Tryz.results106,go_sem,d0,d1,d2]
 ·repeat (with_reducible first|exact HB.out|refine Below.setCell ?_ ?_ _)
  all_goals (simp;try omega)
theorem Ig (tb key hash gb:Nat)(fp:Option Addr)(fs:Int)(T:aC)(i s:Nat)(hi:i<T.gs.length)(hs:s<8)(e:av)(he:aF T.gs i s= .full e)(w:World)(h:TabAt w tb gb T):
  Calls Tryz.prog 106 #[bK tb key hash (some ⟨gb,i*25,none⟩) (s:Int) fp fs] w fun x w'=>x= .returned (.tuple #[aP e,.bool true])∧Below w.heap.size w w':=by
 obtain⟨W,hW,hB,hV,hD⟩:=kN w 205 #[pQ tb,nU key,nU hash,.pointer (some ⟨gb,i*25,none⟩),nI s,.pointer fp,.int .i64 fs] 166 #[.int .u64 0,.int .u64 0,.int .u64 0];obtain⟨v0,v1,v2,v3,v4,v5,v6⟩:=hV.c7;have l7:=h.below hB;have HE:=qd (EW gb 246 (dw (T.gs.take i)) (dw (T.gs.drop (i+1))) (i*25) (T.gs.getD i []) W (l7.group i hi) s hs e he);have HW:=qd hW;have HB:=qd hB
 have hs0:¬(s:Int)<0:=by omega
 unfold bC aP at HE;unfold bK aP;clear hW hB hV h l7 he;go_in;go_upto_region 1 with fail;rw[←HW.out];go_wp2_with fail;refine(HE.out).mono ?_;rintro x w1 ⟨rfl,hb⟩;have hD1:=hD.below hb hD.lt;obtain⟨d0,d1,d2⟩:=hD1.c3;obtain⟨f0,f1,f2⟩:=hD1.f3;have hB1:=qd (bP hb HB.out);clear hb hD;go_wp2;refine bodyPost_ret (v:= .tuple #[.agg #[nU e.key,nU e.val,nU e.hash],.bool true]) ?_ rfl ⟨rfl, ?_⟩
 ·simp[results,Tryz.results106,go_sem,d0,d1,d2]
 ·repeat (with_reducible first|exact hB1.out|refine Below.setCell ?_ ?_ _)
  all_goals (simp;try omega)
theorem CZ (tb key hash gb:Nat)(fp:Option Addr)(fs:Int)(T:aC)(i s v:Nat)(hi:i<T.gs.length)(hs:s<8)(e:av)(he:aF T.gs i s= .full e)(w:World)(h:TabAt w tb gb T):
  Calls Tryz.prog 107 #[bK tb key hash (some ⟨gb,i*25,none⟩) (s:Int) fp fs,nU v] w fun x w'=>x= .returned .nilIface∧TabAt w' tb gb (replaceM T i s v e)∧Mod [tb,gb] w w':=by
 have hB:=(Below.refl w.heap.size w).alloc (Nat.le_refl _) (.cells #[pQ tb,nU key,nU hash,.pointer (some ⟨gb,i*25,none⟩),nI s,.pointer fp,.int .i64 fs] 205);have hV:=aj.new w 205 #[pQ tb,nU key,nU hash,.pointer (some ⟨gb,i*25,none⟩),nI s,.pointer fp,.int .i64 fs];obtain⟨W,hW⟩:∃W,W=w.alloc (.cells #[pQ tb,nU key,nU hash,.pointer (some ⟨gb,i*25,none⟩),nI s,.pointer fp,.int .i64 fs] 205):=⟨_,rfl⟩;rw[←hW]at hB hV;obtain⟨v0,v1,v2,v3,v4,v5,v6⟩:=hV.c7;have l7:=h.below hB;have HE:=qd (abb gb 246 (dw (T.gs.take i)) (dw (T.gs.drop (i+1))) (i*25) (T.gs.getD i []) W (l7.group i hi) s hs v e he);have HT:=qd l7;have HW:=qd hW;have HB:=qd hB
 have hs0:¬(s:Int)<0:=by omega
 unfold bC at HE;unfold bK;clear hW hB hV h l7 he;go_in;go_upto_region 1 with fail;rw[←HW.out];go_wp2_with fail;refine(HE.out).mono ?_;rintro x w1 ⟨rfl,hG1,hm1⟩;have HP:=qd (And.intro (HT.out.oL i hi hm1 hG1) ((Mod.of_below HB.out [tb,gb]).then (hm1.more (by simp))));clear hG1 hm1;go_wp2;go_ret;exact⟨rfl,HP.out.1,HP.out.2⟩
theorem EZ (tb key hash gb:Nat)(fp:Option Addr)(fs:Int)(T:aC)(i s:Nat)(hi:i<T.gs.length)(hs:s<8)(e:av)(he:aF T.gs i s= .full e)(hS:Small T)(w:World)(h:TabAt w tb gb T):
  Calls Tryz.prog 185 #[bK tb key hash (some ⟨gb,i*25,none⟩) (s:Int) fp fs] w fun x w'=>x= .returned .nilIface∧TabAt w' tb gb (iM T i s)∧Mod [tb,gb] w w':=by
 have hB:=(Below.refl w.heap.size w).alloc (Nat.le_refl _) (.cells #[pQ tb,nU key,nU hash,.pointer (some ⟨gb,i*25,none⟩),nI s,.pointer fp,.int .i64 fs] 205);have hV:=aj.new w 205 #[pQ tb,nU key,nU hash,.pointer (some ⟨gb,i*25,none⟩),nI s,.pointer fp,.int .i64 fs];obtain⟨W,hW⟩:∃W,W=w.alloc (.cells #[pQ tb,nU key,nU hash,.pointer (some ⟨gb,i*25,none⟩),nI s,.pointer fp,.int .i64 fs] 205):=⟨_,rfl⟩;rw[←hW]at hB hV;obtain⟨v0,v1,v2,v3,v4,v5,v6⟩:=hV.c7;have HE:=qd (EY tb gb T i s hi hs e he hS W (h.below hB));have HW:=qd hW;have HB:=qd hB
 have hs0:¬(s:Int)<0:=by omega
 unfold bU Ic at HE;unfold bK;clear hW hB hV h he hS;go_in;go_upto_region 1 with fail;rw[←HW.out];go_wp2_with fail;refine(HE.out).mono ?_;rintro x w1 ⟨rfl,hG1,hm1⟩;have HP:=qd (And.intro hG1 ((Mod.of_below HB.out [tb,gb]).then hm1));clear hG1 hm1;go_wp2;go_ret;exact⟨rfl,HP.out.1,HP.out.2⟩
theorem Bp (tb gb:Nat)(ap:Option Addr)(T:aC)(i s:Nat)(e:av)(hi:i<T.gs.length)(hs:s<8)(h64:e.hash<18446744073709551616)(he:(aF T.gs i s).isFull=false)(hS:Small T)(hroom:T.live+T.bW+1≤7*(T.gs.length:Int))(w:World)(h:TabAt w tb gb T):
  Calls Tryz.prog 108 #[bK tb e.key e.hash ap (-1) (some ⟨gb,i*25,none⟩) (s:Int),aP e] w fun x w'=>x= .returned .nilIface∧TabAt w' tb gb (jC T i s e)∧Mod [tb,gb] w w':=by
 obtain⟨W,hW,hB,hV,hE⟩:=kN w 205 #[pQ tb,nU e.key,nU e.hash,.pointer ap,.int .i64 (-1),.pointer (some ⟨gb,i*25,none⟩),nI s] 166 #[nU e.key,nU e.val,nU e.hash];have v:=hV.c7;obtain⟨e0,e1,e2⟩:=hE.c3;have l7:=h.below hB;have htl:=h.aT;have hgl:=h.aU;have HT:=qd (l7.below (Below.refl _ _).drew);have HE:=qd (aa9 gb 246 (dw (T.gs.take i)) (dw (T.gs.drop (i+1))) (i*25) (T.gs.getD i []) W.drew (HT.out.group i hi) s hs e h64 he);have HL:=qd (Sz tb gb T W l7 hS.n1 ⟨hS.l0,hS.l1⟩ ⟨hS.t0,hS.t1⟩);have HW:=qd hW;have HB:=qd hB
 have hs0:¬(s:Int)<0:=by omega
 have hlf:¬7*(T.gs.length:Int)-T.live-T.bW<1:=by omega
 have hne:w.heap.size≠gb:=by omega
 obtain⟨l0,l1,t0,t1,n1⟩:=hS;rw[show(T.gs.getD i []).getD s .empty=aF T.gs i s from rfl]at HE;unfold bC aP at HE;unfold bU at HL;unfold bK aP;clear hW hB h l7 he n1 hroom h64 hE
 cases ho:(aF T.gs i s).iL with
 |true=>
  rw[ho]at HE;have HO:=qd ho;clear ho;go_in;go_upto_region 1 with fail;rw[←HW.out];go_wp2_with fail;refine(HL.out).mono ?_;rintro x w1 ⟨rfl,rfl⟩;go_wp2_with fail;refine(HE.out).mono ?_;rintro x w1 ⟨rfl,hG1,hm1⟩;have hT1:=HT.out.oL i hi hm1 hG1;obtain⟨c0,c1,c2⟩:=hT1.cells;have f1:=hT1.tab.frozen 1;have f2:=hT1.tab.frozen 2;have U7:=hV.drew.mod hm1 (by simpa using hne);have v:=U7.c7;have kD:=hT1.Bo (T.live+1);have hM2:=((((Mod.of_below HB.out.drew [tb,gb]).then (hm1.more (by simp))).sl 1 (.int .i64 (T.live+1))));have Cg:=kD.Km (T.bW-1);have yP:=hM2.sl 2 (.int .i64 (T.bW-1));have HP:=qd (And.intro Cg yP);clear Cg yP kD hM2 hT1 hG1 hm1 U7 hV;go_wp2;go_ret;refine⟨rfl, ?_,HP.out.2⟩;have:=HP.out.1;unfold jC putAt;rw[HO.out];exact this
 |false=>
  rw[ho]at HE;have HO:=qd ho;clear ho;go_in;go_upto_region 1 with fail;rw[←HW.out];go_wp2_with fail;refine(HL.out).mono ?_;rintro x w1 ⟨rfl,rfl⟩;go_wp2_with fail;refine(HE.out).mono ?_;rintro x w1 ⟨rfl,hG1,hm1⟩;have hT1:=HT.out.oL i hi hm1 hG1;obtain⟨c0,c1,c2⟩:=hT1.cells;have f1:=hT1.tab.frozen 1;have f2:=hT1.tab.frozen 2;have U7:=hV.drew.mod hm1 (by simpa using hne);have v:=U7.c7;have kD:=hT1.Bo (T.live+1);have hM2:=((((Mod.of_below HB.out.drew [tb,gb]).then (hm1.more (by simp))).sl 1 (.int .i64 (T.live+1))));have HP:=qd (And.intro kD hM2);clear kD hM2 hT1 hG1 hm1 U7 hV;go_wp2;go_ret;refine⟨rfl, ?_,HP.out.2⟩;have:=HP.out.1;unfold jC putAt;rw[HO.out];exact this
end Go.Proofs.YtnfjjbpmhcbelaaGreatDoor

/-! Seeking over a list of groups. No program in sight. -/
namespace Go.Proofs.YtnfjjbpmhcbelaaGreatDoor.dI
set_option maxRecDepth 100000
set_option maxHeartbeats 2000000
open Go Go.RowKit dI
variable {gs : Tab} {hash i key : Nat} {pre rest : List Nat}
def jO (gs:Tab)(key hash:Nat):List Nat→Option (Nat×Nat)→Option (Nat×Nat)×Option (Nat×Nat)×Nat
 | [],fr=>(none,fr,0)
 |i::is,fr=>
  match gT (gs.getD i []) key hash with
  |some s=>(some (i,s),iH fr i (gs.getD i []),1)
  |none=>if dH (gs.getD i [])then(none,iH fr i (gs.getD i []),1)else
   let r:=jO gs key hash is (iH fr i (gs.getD i []))
   (r.1,r.2.1,r.2.2+1)
theorem Ch (gs:Tab)(key hash:Nat):∀f j fr,iT gs key hash f j fr=jO gs key hash ((List.range f).map fun k=>bZ (hash/128) gs.length (j+k)) fr
 |0,_,_=>rfl
 |f+1,j,fr=>by
  rw[List.range_succ_eq_map,List.map_cons,List.map_map];have ih:=Ch gs key hash f (j+1);unfold iT jO;simp only[Nat.add_zero]
  have he:(List.range f).map ((fun k=>bZ (hash/128) gs.length (j+k))∘Nat.succ)=(List.range f).map fun k=>bZ (hash/128) gs.length (j+1+k):=by
   apply List.map_congr_left;intro k _;simp[Nat.succ_eq_add_one,Nat.add_assoc,Nat.add_comm 1 k]
  rw[he]
  cases hf:gT (gs.getD (bZ (hash/128) gs.length j) []) key hash with
  |some s=>rfl
  |none=>
   cases ho:dH (gs.getD (bZ (hash/128) gs.length j) [])with
   |true=>rfl
   |false=>
    simp only[Bool.false_eq_true,if_false];rw[ih]
theorem yS (gs:Tab)(key hash:Nat):aJ gs key hash=jO gs key hash (walk (hash/128) gs.length) none:=by
 unfold aJ walk;rw[Ch];congr 1;apply List.map_congr_left;intro k _;rw[Nat.zero_add]
def fE (gs:Tab)(pre:List Nat):Option (Nat×Nat):=pre.foldl (fun fr i=>iH fr i (gs.getD i [])) none
theorem uS (gs:Tab)(pre:List Nat)(i:Nat):fE gs (pre++[i])=iH (fE gs pre) i (gs.getD i []):=by simp[fE]
def Passed (gs:Tab)(key hash:Nat)(i:Nat):Prop:=gT (gs.getD i []) key hash=none∧dH (gs.getD i [])=false
theorem uT (gs:Tab)(key hash:Nat):∀(pre rest:List Nat) (fr:Option (Nat×Nat)),(∀i∈pre,Passed gs key hash i)→
  jO gs key hash (pre++rest) fr=let r:=jO gs key hash rest (pre.foldl (fun fr i=>iH fr i (gs.getD i [])) fr);(r.1,r.2.1,r.2.2+pre.length)
 | [],rest,fr,_=>by simp
 |i::pre,rest,fr,h=>by
  obtain⟨h1,h2⟩:=h i (by simp);have ih:=uT gs key hash pre rest (iH fr i (gs.getD i [])) (fun x hx=>h x (by simp[hx]));rw[List.cons_append,jO,h1];simp only[h2,Bool.false_eq_true,if_false];rw[ih];simp only[List.foldl_cons,List.length_cons,Nat.add_assoc]
theorem Yv (he:pre=walk (hash/128) gs.length)(h:∀i∈pre,Passed gs key hash i):aJ gs key hash=(none,fE gs pre,pre.length):=by
 rw[yS,←he];have:=uT gs key hash pre [] none h;rw[List.append_nil]at this;rw[this];simp[jO,fE]
theorem Yw {s:Nat}(he:pre++i::rest=walk (hash/128) gs.length)(h:∀i∈pre,Passed gs key hash i)(hf:gT (gs.getD i []) key hash=some s):aJ gs key hash=(some (i,s),fE gs (pre++[i]),(pre++[i]).length):=by
 rw[yS,←he,uT gs key hash pre _ none h,uS];unfold jO;rw[hf];simp only[List.length_append,List.length_cons,List.length_nil,Nat.zero_add,Nat.add_comm 1];rfl
theorem U8 (he:pre++i::rest=walk (hash/128) gs.length)(h:∀i∈pre,Passed gs key hash i)(hf:gT (gs.getD i []) key hash=none)(ho:dH (gs.getD i [])=true):aJ gs key hash=(none,fE gs (pre++[i]),(pre++[i]).length):=by
 rw[yS,←he,uT gs key hash pre _ none h,uS];unfold jO;rw[hf];simp only[ho,if_true,List.length_append,List.length_cons,List.length_nil,Nat.zero_add,Nat.add_comm 1];rfl
end Go.Proofs.YtnfjjbpmhcbelaaGreatDoor.dI
