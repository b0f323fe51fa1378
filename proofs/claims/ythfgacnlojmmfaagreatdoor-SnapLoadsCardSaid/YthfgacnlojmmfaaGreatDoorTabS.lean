/- A group as slots and as bytes: what the lanes tell of the slots. No program in sight. -/
import Derived.Test.YthfgacnlojmmfaaGreatDoorCoM
import Derived.Test.YthfgacnlojmmfaaGreatDoorTabP
import Derived.Test.YthfgacnlojmmfaaGreatDoorCoL
import Derived.BigRegion
import Derived.Test.YthfgacnlojmmfaaGreatDoorCoN
import Derived.Test.YthfgacnlojmmfaaGreatDoorLaneP
namespace Go.Proofs.YthfgacnlojmmfaaGreatDoor.AmC
set_option maxRecDepth 100000
set_option maxHeartbeats 2000000
open Go Go.RowKit AmC
def Slot.ent:Slot→Ent
 | .full e=>e
 |_=>⟨0,0,0⟩
theorem eqB_128 (h b:Nat):eqB h b=128↔b=h:=by unfold eqB;split<;>simp_all
theorem byte_key (x:Slot)(h:Nat)(hh:h<128):x.byte=h↔∃e,x= .full e∧e.hash % 128=h:=by
 cases x with
 |empty=>simp[Slot.byte];omega
 |tomb=>simp[Slot.byte];omega
 |full e=>simp[Slot.byte]
theorem lanes_find (key hash:Nat)(f:Nat→Ent):∀(G:Grp) (s:Nat),(∀k x,G[k]?=some x→f (s+k)=x.ent)→
  (lanesFrom s (G.map fun x=>eqB (hash % 128) x.byte)).find? (fun i=>(f i).key==key)=(findG G key hash).map (s+·)
 | [],_,_=>rfl
 |x::G,s,hf=>by
  have ih:=lanes_find key hash f G (s+1) (fun k y hy=>by have:=hf (k+1) y (by simpa using hy);rwa [show s+(k+1)=s+1+k by omega]at this);have h0:f s=x.ent:=hf 0 x rfl
  have hm:(findG G key hash).map (s+1+·)=((findG G key hash).map (·+1)).map (s+·):=by
   cases findG G key hash with
   |none=>rfl
   |some k=>simp;omega
  rw[List.map_cons,lanesFrom];unfold findG at ih hm⊢;rw[List.findIdx?_cons];by_cases hx:x.byte=hash % 128
  ·obtain⟨e,rfl,he⟩:=(byte_key x _ (by omega)).1 hx;rw[if_pos ((eqB_128 _ _).2 hx),List.find?_cons,h0];by_cases hk:e.key=key
   ·have:Slot.isKey key hash (.full e)=true:=by simp[Slot.isKey,he,hk]
    rw[this];simp[Slot.ent,hk]
   ·have:Slot.isKey key hash (.full e)=false:=by simp[Slot.isKey,hk]
    rw[this]
    have h1:((Slot.ent (.full e)).key==key)=false:=by simpa[Slot.ent]using hk
    rw[h1];simp only[Bool.false_eq_true,if_false];rw[ih,hm]
  ·have:Slot.isKey key hash x=false:=by
    cases x with
    |empty=>rfl
    |tomb=>rfl
    |full e=>simp[Slot.byte]at hx;simp[Slot.isKey,hx]
   rw[if_neg (fun h=>hx ((eqB_128 _ _).1 h)),this,ih,hm];simp
theorem free_lane (x:Slot):topB x.byte=128↔x.isFull=false:=by
 cases x with
 |empty=>simp[Slot.byte,topB,Slot.isFull]
 |tomb=>simp[Slot.byte,topB,Slot.isFull]
 |full e=>
  have:=Nat.mod_lt e.hash (show 0<128 by omega)
  have h1:topB (e.hash % 128)=0:=by unfold topB;rw[if_pos this]
  show topB (e.hash % 128)=128↔_;rw[h1];simp[Slot.isFull]
theorem first_free (G:Grp):firstM ((G.map Slot.byte).map topB)=freeG G:=by
 unfold firstM freeG;rw[List.map_map,List.findIdx?_map];congr 1;funext x;rw[Bool.eq_iff_iff];simp[free_lane]
theorem any_open (G:Grp):(G.map Slot.byte).any (·==128)=openG G:=by
 unfold openG;rw[List.any_map];congr 1;funext x
 cases x with
 |empty=>rfl
 |tomb=>rfl
 |full e=>simp[Slot.byte,Slot.isEmpty];omega
theorem lanes_ents (f:Nat→Ent):∀(G:Grp) (s:Nat),(∀k x,G[k]?=some x→f (s+k)=x.ent)→(lanesFrom s (G.map fun x=>topB (255-x.byte))).map f=entsG G
 | [],_,_=>rfl
 |x::G,s,hf=>by
  have ih:=lanes_ents f G (s+1) (fun k y hy=>by have:=hf (k+1) y (by simpa using hy);rwa [show s+(k+1)=s+1+k by omega]at this);have h0:f s=x.ent:=hf 0 x rfl
  have hg:entsG (x::G)=x.ents++entsG G:=by simp[entsG]
  rw[List.map_cons,lanesFrom,hg]
  cases x with
  |empty=>rw[if_neg (by simp[Slot.byte,topB]),ih];rfl
  |tomb=>rw[if_neg (by simp[Slot.byte,topB]),ih];rfl
  |full e=>
   have h1:topB (255-e.hash % 128)=128:=by unfold topB;rw[if_neg (by omega)]
   rw[if_pos (show topB (255-(Slot.full e).byte)=128 from h1),List.map_cons,ih,h0];rfl
theorem bytes_set (G:Grp)(i:Nat)(x:Slot):(G.set i x).map Slot.byte=(G.map Slot.byte).set i x.byte:=List.map_set
theorem ents_set_slot (G:Grp)(i:Nat)(x:Slot):(G.set i x).map Slot.ent=(G.map Slot.ent).set i x.ent:=List.map_set
theorem ent_getD (G:Grp)(i:Nat):(G.map Slot.ent).getD i ⟨0,0,0⟩=(G.getD i .empty).ent:=by
 rw[List.getD_eq_getElem?_getD,List.getD_eq_getElem?_getD,List.getElem?_map]
 cases G[i]?<;>rfl
theorem byte_getD (G:Grp)(i:Nat)(hi:i<G.length):(G.map Slot.byte).getD i 0=(G.getD i .empty).byte:=by
 rw[List.getD_eq_getElem?_getD,List.getD_eq_getElem?_getD,List.getElem?_map,List.getElem?_eq_getElem hi];rfl
theorem full_byte (x:Slot):x.byte<128↔x.isFull=true:=by
 cases x with
 |empty=>simp[Slot.byte,Slot.isFull]
 |tomb=>simp[Slot.byte,Slot.isFull]
 |full e=>simp[Slot.byte,Slot.isFull];omega
theorem tomb_byte (x:Slot)(h:x.isFull=false):(x.byte==254)=x.isTomb:=by
 cases x with
 |empty=>rfl
 |tomb=>rfl
 |full e=>cases h
end Go.Proofs.YthfgacnlojmmfaaGreatDoor.AmC

/-! A group of slots in memory: its view's functions, told of slots. -/
namespace Go.Proofs.YthfgacnlojmmfaaGreatDoor
set_option maxRecDepth 100000
set_option maxHeartbeats 2000000
open Go Go.RowKit AmC
def GAt (w:World)(gb:Nat)(t:TypeId)(pre post:List Value)(go:Nat)(G:Grp):Prop:=GRaw w gb t pre post go (G.map Slot.byte) (G.map Slot.ent)
section
variable {w w' : World} {gb go : Nat} {t : TypeId} {pre post : List Value} {G : Grp}
theorem GAt.len8 (h:GAt w gb t pre post go G):G.length=8:=by have:=h.l8;simpa using this
theorem GAt.lt (h:GAt w gb t pre post go G):gb<w.heap.size:=h.blk.lt
theorem GAt.mod {S:List Nat}(h:GAt w gb t pre post go G)(hm:Mod S w w')(hg:gb∉S):GAt w' gb t pre post go G:=GRaw.mod h hm hg
instance {w w':World}{gb:Nat}{t:TypeId}{pre post:List Value}{go:Nat}{G:Grp}:Md (GAt w gb t pre post go G) w w' (GAt w' gb t pre post go G) (fun S=>gb∉S):=⟨fun h hm hs=>GAt.mod h hm hs⟩
theorem GAt.below (h:GAt w gb t pre post go G)(hb:Below w.heap.size w w'):GAt w' gb t pre post go G:=GRaw.below h hb
theorem GAt.keep {n₀:Nat}{S:List Nat}(h:GAt w gb t pre post go G)(hm:KeepS n₀ S w w')(hn:gb<n₀)(hg:gb∉S):GAt w' gb t pre post go G:=⟨h.len,h.l8,h.bytes,h.e8,hm.blk h.blk hn hg⟩
end
section
variable (gb : Nat) (t : TypeId) (pre post : List Value) (go : Nat) (G : Grp) (w : World) (h : GAt w gb t pre post go G)
include h
theorem lane_lt (i:Nat)(hi:i<8):(G.map Slot.byte).getD i 0<128↔(G.getD i .empty).isFull=true:=by
 rw[byte_getD G i (by rw[h.len8];exact hi),full_byte]
theorem grp_Find (key hash:Nat)(h64:hash<18446744073709551616)(hT:TzIn w):
  Calls Tryz.prog 140 #[viewV ⟨gb,go,none⟩,.int .u64 (key:Int),.int .u64 (hash:Int)] w fun e w'=>e= .returned (.int .i64 (optI (findG G key hash)))∧Below w.heap.size w w':=by
 have:=view_Find gb t pre post go _ _ key hash h64 w h hT;unfold findR at this;rw[List.map_map]at this
 have he:=lanes_find key hash (fun i=>(G.map Slot.ent).getD i ⟨0,0,0⟩) G 0 (fun k x hk=>by
  rw[Nat.zero_add,ent_getD,List.getD_eq_getElem?_getD,hk];rfl)
 have hm:(findG G key hash).map (0+·)=findG G key hash:=by cases findG G key hash<;>simp
 rw[hm]at he;rw[show(lanesFrom 0 (List.map (eqB (hash % 128)∘Slot.byte) G))=lanesFrom 0 (G.map fun x=>eqB (hash % 128) x.byte)from rfl,he]at this;exact this
theorem grp_Free (hT:TzIn w):Calls Tryz.prog 139 #[viewV ⟨gb,go,none⟩] w fun e w'=>e= .returned (.int .i64 (optI (freeG G)))∧Below w.heap.size w w':=by
 have:=view_Free gb t pre post go _ _ w h hT
 rwa [first_free]at this
theorem grp_Open:Calls Tryz.prog 141 #[viewV ⟨gb,go,none⟩] w fun e w'=>e= .returned (.bool (openG G))∧Below w.heap.size w w':=by
 have:=view_Open gb t pre post go _ _ w h
 rwa [any_open]at this
theorem grp_At_full (i:Nat)(hi:i<8)(e:Ent)(he:G.getD i .empty= .full e):
  Calls Tryz.prog 142 #[viewV ⟨gb,go,none⟩,.int .i64 (i:Int)] w fun x w'=>x= .returned (.tuple #[entV e,.bool true])∧Below w.heap.size w w':=by
 have:=view_At_full gb t pre post go _ _ i hi w h ((lane_lt gb t pre post go G w h i hi).2 (by rw[he];rfl))
 rwa [ent_getD,he]at this
theorem grp_At_no (i:Nat)(hi:i<8)(he:(G.getD i .empty).isFull=false)(E:Nat→Addr)(hE:ErrAt E w 5):
  Calls Tryz.prog 142 #[viewV ⟨gb,go,none⟩,.int .i64 (i:Int)] w fun x w'=>x= .returned (.tuple #[entV ⟨0,0,0⟩,.bool false])∧Below w.heap.size w w':=
 view_At_no gb t pre post go _ _ i hi w h (fun hl=>by rw[(lane_lt gb t pre post go G w h i hi).1 hl]at he;cases he) E hE
theorem grp_Put (i:Nat)(hi:i<8)(e:Ent)(h64:e.hash<18446744073709551616)(he:(G.getD i .empty).isFull=false):
  Calls Tryz.prog 145 #[viewV ⟨gb,go,none⟩,.int .i64 (i:Int),entV e] w fun x w'=>x= .returned (.tuple #[.bool (G.getD i .empty).isTomb,.nilIface])∧GAt w' gb t pre post go (G.set i (.full e))∧Mod [gb] w w':=by
 have:=view_Put gb t pre post go _ _ i hi e h64 w h (fun hl=>by rw[(lane_lt gb t pre post go G w h i hi).1 hl]at he;cases he);rw[byte_getD G i (by rw[h.len8];exact hi),tomb_byte _ he]at this;refine this.mono fun x w' ⟨h1,h2,h3⟩=>⟨h1, ?_,h3⟩;unfold GAt;rw[bytes_set,ents_set_slot];exact h2
theorem grp_Set (i:Nat)(hi:i<8)(v:Nat)(e:Ent)(he:G.getD i .empty= .full e):
  Calls Tryz.prog 143 #[viewV ⟨gb,go,none⟩,.int .i64 (i:Int),.int .u64 (v:Int)] w fun x w'=>x= .returned .nilIface∧GAt w' gb t pre post go (G.set i (.full {e with val:=v}))∧Mod [gb] w w':=by
 have hl8:i<G.length:=by rw[h.len8];exact hi
 have:=view_Set gb t pre post go _ _ i hi v w h ((lane_lt gb t pre post go G w h i hi).2 (by rw[he];rfl));rw[ent_getD,he]at this;refine this.mono fun x w' ⟨h1,h2,h3⟩=>⟨h1, ?_,h3⟩;unfold GAt;rw[bytes_set,ents_set_slot]
 have hb:(G.map Slot.byte).set i (Slot.full {e with val:=v}).byte=G.map Slot.byte:=by
  apply List.ext_getElem?;intro k;rw[List.getElem?_set];split
  ·next hk=>
   subst hk;rw[if_pos (by simpa using hl8),List.getElem?_map,List.getElem?_eq_getElem hl8]
   have:G[i]= .full e:=by rw[←he,AmC.getD_in hl8]
   rw[this];rfl
  ·rfl
 rw[hb];exact h2
theorem grp_Erase (i:Nat)(hi:i<8)(e:Ent)(he:G.getD i .empty= .full e):
  Calls Tryz.prog 303 #[viewV ⟨gb,go,none⟩,.int .i64 (i:Int)] w fun x w'=>x= .returned (.tuple #[.bool !(openG G),.nilIface])∧GAt w' gb t pre post go (G.set i (if openG G then .empty else .tomb))∧Mod [gb] w w':=by
 have hm:=(lane_lt gb t pre post go G w h i hi).2 (by rw[he];rfl)
 cases ho:openG G with
 |true=>
  refine(view_Erase_open gb t pre post go _ _ i hi w h hm (by rw[any_open];exact ho)).mono fun x w' ⟨h1,h2,h3⟩=>⟨h1, ?_,h3⟩;unfold GAt;rw[bytes_set,ents_set_slot];exact h2
 |false=>
  refine(view_Erase_shut gb t pre post go _ _ i hi w h hm (by rw[any_open];exact ho)).mono fun x w' ⟨h1,h2,h3⟩=>⟨h1, ?_,h3⟩;unfold GAt;rw[bytes_set,ents_set_slot];exact h2
theorem grp_Clear:Calls Tryz.prog 133 #[viewV ⟨gb,go,none⟩] w fun x w'=>x= .returned undef∧GAt w' gb t pre post go (List.replicate 8 .empty)∧Mod [gb] w w':=view_Clear gb t pre post go _ _ w h
theorem grp_Entries (hT:TzIn w):Calls Tryz.prog 225 #[viewV ⟨gb,go,none⟩] w fun e w'=>∃A c,e= .returned (.slice A (entsG G).length c)∧
  w'.ownsRow w.heap.size 45 3 (.slice A (entsG G).length c) (entsG G).length ((entsG G).flatMap entCells)∧Below w.heap.size w w':=by
 have:=view_Entries gb t pre post go _ _ w h hT
 have he:entsR (G.map Slot.byte) (G.map Slot.ent)=entsG G:=by
  unfold entsR fullL notL;rw[List.map_map,List.map_map];exact lanes_ents _ G 0 (fun k x hk=>by rw[Nat.zero_add,ent_getD,List.getD_eq_getElem?_getD,hk];rfl)
 rwa [he]at this
end
end Go.Proofs.YthfgacnlojmmfaaGreatDoor

/-! A table in memory. -/
namespace Go.Proofs.YthfgacnlojmmfaaGreatDoor
set_option maxRecDepth 100000
set_option maxHeartbeats 2000000
open Go Go.RowKit AmC
variable {G : Grp} {gs : Tab} {i : Nat} {S : List Nat}
structure TabM where
 gs:Tab
 live:Int
 tombs:Int
def gCells (G:Grp):List Value:=rawCells (G.map Slot.byte) (G.map Slot.ent)
def tabCells (gs:Tab):List Value:=gs.flatMap gCells
structure TabAt (w:World)(tb gb:Nat)(T:TabM):Prop where
 wide:Wide T.gs
 tab:Blk w tb 238 #[.slice (some ⟨gb,0,none⟩) T.gs.length T.gs.length,.int .i64 T.live,.int .i64 T.tombs]
 grp:Blk w gb 242 (tabCells T.gs).toArray
 ne:tb≠gb
theorem gCells_length (h:G.length=8):(gCells G).length=25:=by unfold gCells rawCells;rw[List.length_cons,ents_length,List.length_map,h]
theorem tabCells_length (h:Wide gs):(tabCells gs).length=gs.length*25:=by
 induction gs with
 |nil=>rfl
 |cons G gs ih=>
  have h1:=gCells_length (h G (by simp));have h2:=ih (fun X hX=>h X (by simp[hX]));unfold tabCells at h2⊢;rw[List.flatMap_cons,List.length_append,h1,h2,List.length_cons];omega
theorem tabCells_at (hi:i<gs.length):tabCells gs=tabCells (gs.take i)++(gCells (gs.getD i [])++tabCells (gs.drop (i+1))):=by
 conv=>lhs;rw[split_at (d:=[]) hi]
 simp[tabCells]
theorem tabCells_set (hi:i<gs.length)(G:Grp):tabCells (gs.set i G)=tabCells (gs.take i)++(gCells G++tabCells (gs.drop (i+1))):=by
 rw[set_split hi];simp[tabCells]
theorem wide_set (h:Wide gs)(i:Nat)(hG:G.length=8):Wide (gs.set i G):=fun X hX=>by
 rcases List.mem_or_eq_of_mem_set hX with hX|rfl
 ·exact h X hX
 ·exact hG
section
variable {w w' : World} {tb gb : Nat} {T : TabM}
theorem TabAt.ltT (h:TabAt w tb gb T):tb<w.heap.size:=h.tab.lt
theorem TabAt.ltG (h:TabAt w tb gb T):gb<w.heap.size:=h.grp.lt
theorem TabAt.mod (h:TabAt w tb gb T)(hm:Mod S w w')(h1:tb∉S)(h2:gb∉S):TabAt w' tb gb T:=⟨h.wide,h.tab.mod hm h1,h.grp.mod hm h2,h.ne⟩
instance {w w':World}{tb gb:Nat}{T:TabM}:Md (TabAt w tb gb T) w w' (TabAt w' tb gb T) (fun S=>tb∉S∧gb∉S):=⟨fun h hm hs=>h.mod hm hs.1 hs.2⟩
theorem TabAt.below (h:TabAt w tb gb T)(hb:Below w.heap.size w w'):TabAt w' tb gb T:=h.mod (Mod.of_below hb []) (by simp) (by simp)
theorem TabAt.keep {n₀:Nat}(h:TabAt w tb gb T)(hm:KeepS n₀ S w w')(h1:tb<n₀)(h2:gb<n₀)(h3:tb∉S)(h4:gb∉S):TabAt w' tb gb T:=⟨h.wide,hm.blk h.tab h1 h3,hm.blk h.grp h2 h4,h.ne⟩
theorem TabAt.group (h:TabAt w tb gb T)(i:Nat)(hi:i<T.gs.length):GAt w gb 242 (tabCells (T.gs.take i)) (tabCells (T.gs.drop (i+1))) (i*25) (T.gs.getD i []):=by
 have hw:Wide (T.gs.take i):=fun X hX=>h.wide X (List.mem_of_mem_take hX);have h8:=h.wide.at_ hi;refine⟨by rw[tabCells_length hw,List.length_take];congr 1;omega,by simpa using h8,bytes_grp _,by simpa using h8, ?_⟩;have:=h.grp;rw[tabCells_at hi]at this;exact this
theorem TabAt.set_group (h:TabAt w tb gb T)(i:Nat)(hi:i<T.gs.length)(hm:Mod [gb] w w')(hG:GAt w' gb 242 (tabCells (T.gs.take i)) (tabCells (T.gs.drop (i+1))) (i*25) G):TabAt w' tb gb {T with gs:=T.gs.set i G}:=by
 refine⟨wide_set h.wide i hG.len8, ?_, ?_,h.ne⟩
 ·have:=h.tab.mod hm (by simpa using h.ne);simpa using this
 ·show Blk w' gb _ (tabCells (T.gs.set i G)).toArray;rw[tabCells_set hi];exact hG.blk
theorem TabAt.cells (h:TabAt w tb gb T):w.cell? ⟨tb,0,none⟩=some (.slice (some ⟨gb,0,none⟩) T.gs.length T.gs.length)∧w.cell? ⟨tb,1,none⟩=some (.int .i64 T.live)∧w.cell? ⟨tb,2,none⟩=some (.int .i64 T.tombs):=
 ⟨h.tab.cell 0,h.tab.cell 1,h.tab.cell 2⟩
theorem TabAt.set_live (h:TabAt w tb gb T)(x:Int):TabAt (w.setCell ⟨tb,1,none⟩ (.int .i64 x)) tb gb {T with live:=x}:=
 ⟨h.wide,h.tab.set_ 1 _,h.grp.far (p:=⟨tb,1,none⟩) (Ne.symm h.ne) _,h.ne⟩
theorem TabAt.set_tombs (h:TabAt w tb gb T)(x:Int):TabAt (w.setCell ⟨tb,2,none⟩ (.int .i64 x)) tb gb {T with tombs:=x}:=
 ⟨h.wide,h.tab.set_ 2 _,h.grp.far (p:=⟨tb,2,none⟩) (Ne.symm h.ne) _,h.ne⟩
end
def tabP (tb:Nat):Value:= .pointer (some ⟨tb,0,none⟩)
theorem table_Groups (tb gb:Nat)(T:TabM)(w:World)(h:TabAt w tb gb T):Calls Tryz.prog 148 #[tabP tb] w fun e w'=>e= .returned (.int .i64 (T.gs.length:Int))∧w=w':=by
 obtain⟨h0,h1,h2⟩:=h.cells;clear h;unfold tabP;go_in;go_wp2;go_ret;exact⟨rfl,rfl⟩
theorem table_Len (tb gb:Nat)(T:TabM)(w:World)(h:TabAt w tb gb T):Calls Tryz.prog 146 #[tabP tb] w fun e w'=>e= .returned (.int .i64 T.live)∧w=w':=by
 obtain⟨h0,h1,h2⟩:=h.cells;clear h;unfold tabP;go_in;go_wp2;go_ret;exact⟨rfl,rfl⟩
theorem table_Tombs (tb gb:Nat)(T:TabM)(w:World)(h:TabAt w tb gb T):Calls Tryz.prog 147 #[tabP tb] w fun e w'=>e= .returned (.int .i64 T.tombs)∧w=w':=by
 obtain⟨h0,h1,h2⟩:=h.cells;clear h;unfold tabP;go_in;go_wp2;go_ret;exact⟨rfl,rfl⟩
theorem table_Left (tb gb:Nat)(T:TabM)(w:World)(h:TabAt w tb gb T)(hn:T.gs.length≤64)(hl:0≤T.live∧T.live≤1000)(ht:0≤T.tombs∧T.tombs≤1000):
  Calls Tryz.prog 144 #[tabP tb] w fun e w'=>e= .returned (.int .i64 (7*(T.gs.length:Int)-T.live-T.tombs))∧w'=w.drew:=by
 obtain⟨h0,h1,h2⟩:=h.cells;obtain⟨l0,l1⟩:=hl;obtain⟨t0,t1⟩:=ht;clear h;generalize T.gs.length=n at*;generalize T.live=a at*;generalize T.tombs=b at*;unfold tabP;go_in;go_upto_region 1 with fail;go_region;go_wp2;go_ret;exact⟨ret_int (by omega),rfl⟩
end Go.Proofs.YthfgacnlojmmfaaGreatDoor

/-! A table's spots: what is found there, what is written. -/
namespace Go.Proofs.YthfgacnlojmmfaaGreatDoor
set_option maxRecDepth 100000
set_option maxHeartbeats 2000000
open Go Go.RowKit AmC
def placeV (p:Option Addr)(s:Int):Value:= .agg #[.pointer p,.int .i64 s]
def spotV (tb key hash:Nat)(ap:Option Addr)(as_:Int)(fp:Option Addr)(fs:Int):Value:= .agg #[.pointer (some ⟨tb,0,none⟩),.int .u64 (key:Int),.int .u64 (hash:Int),.pointer ap,.int .i64 as_,.pointer fp,.int .i64 fs]
def eraseM (T:TabM)(i s:Nat):TabM:={gs:=putAt T.gs i s (if openG (T.gs.getD i [])then .empty else .tomb),live:=T.live-1,tombs:=if openG (T.gs.getD i [])then T.tombs else T.tombs+1}
def placeM (T:TabM)(i s:Nat)(e:Ent):TabM:={gs:=putAt T.gs i s (.full e),live:=T.live+1,tombs:=if(slotAt T.gs i s).isTomb then T.tombs-1 else T.tombs}
def replaceM (T:TabM)(i s:Nat)(v:Nat)(e:Ent):TabM:={T with gs:=putAt T.gs i s (.full {e with val:=v})}
structure Small (T:TabM):Prop where
 l0:0≤T.live
 l1:T.live≤1000
 t0:0≤T.tombs
 t1:T.tombs≤1000
 n1:T.gs.length≤64
theorem table_erase (tb gb:Nat)(T:TabM)(i s:Nat)(hi:i<T.gs.length)(hs:s<8)(e:Ent)(he:slotAt T.gs i s= .full e)(hS:Small T)(w:World)(h:TabAt w tb gb T):
  Calls Tryz.prog 300 #[tabP tb,placeV (some ⟨gb,i*25,none⟩) (s:Int)] w fun x w'=>x= .returned .nilIface∧TabAt w' tb gb (eraseM T i s)∧Mod [tb,gb] w w':=by
 have hB:=(Below.refl w.heap.size w).alloc (Nat.le_refl _) (.cells #[.pointer (some ⟨gb,i*25,none⟩),.int .i64 (s:Int)] 204);have hV:=Blk.new w 204 #[.pointer (some ⟨gb,i*25,none⟩),.int .i64 (s:Int)];obtain⟨W,hW⟩:∃W,W=w.alloc (.cells #[.pointer (some ⟨gb,i*25,none⟩),.int .i64 (s:Int)] 204):=⟨_,rfl⟩;rw[←hW]at hB hV;have hTW:=h.below hB;have hGW:=hTW.group i hi;have HE:=qd (grp_Erase gb 242 (tabCells (T.gs.take i)) (tabCells (T.gs.drop (i+1))) (i*25) (T.gs.getD i []) W hGW s hs e he);have HW:=qd hW;have HB:=qd hB;obtain⟨l0,l1,t0,t1,n1⟩:=hS
 have hi0:(0:Int)≤(i:Int):=by omega
 unfold viewV at HE;unfold tabP placeV;clear hW h hB hGW he n1
 cases ho:openG (T.gs.getD i [])with
 |true=>
  rw[ho]at HE;simp only[Bool.not_true,if_true]at HE;have HO:=qd ho;clear ho;go_in;go_upto_region 1 with fail;rw[←HW.out];have v:=hV.c2;go_wp2_with fail;refine(HE.out).mono ?_;rintro x w1 ⟨rfl,hG1,hm1⟩;have hT1:=hTW.set_group i hi hm1 hG1;obtain⟨c0,c1,c2⟩:=hT1.cells;have f1:=hT1.tab.frozen 1;have f2:=hT1.tab.frozen 2;have hT2:=hT1.set_live (T.live-1);have hM2:=((((Mod.of_below HB.out [tb,gb]).then (hm1.more (by simp))).sl 1 (.int .i64 (T.live-1))));have HP:=qd (And.intro hT2 hM2);clear hT2 hM2 hT1 hTW hG1 hm1 hV;go_wp2;go_ret;refine⟨rfl, ?_,HP.out.2⟩;have:=HP.out.1;unfold eraseM putAt;rw[HO.out];exact this
 |false=>
  rw[ho]at HE;simp only[Bool.not_false,Bool.false_eq_true,if_false]at HE;have HO:=qd ho;clear ho;go_in;go_upto_region 1 with fail;rw[←HW.out];have v:=hV.c2;go_wp2_with fail;refine(HE.out).mono ?_;rintro x w1 ⟨rfl,hG1,hm1⟩;have hT1:=hTW.set_group i hi hm1 hG1;obtain⟨c0,c1,c2⟩:=hT1.cells;have f1:=hT1.tab.frozen 1;have f2:=hT1.tab.frozen 2;have hT2:=hT1.set_live (T.live-1);have hM2:=((((Mod.of_below HB.out [tb,gb]).then (hm1.more (by simp))).sl 1 (.int .i64 (T.live-1))));have hT3:=hT2.set_tombs (T.tombs+1);have hM3:=hM2.sl 2 (.int .i64 (T.tombs+1));have HP:=qd (And.intro hT3 hM3);clear hT3 hM3 hT2 hM2 hT1 hTW hG1 hm1 hV;go_wp2;go_ret;refine⟨rfl, ?_,HP.out.2⟩;have:=HP.out.1;unfold eraseM putAt;rw[HO.out];exact this
theorem spot_Entry_none (tb key hash:Nat)(ap fp:Option Addr)(fs:Int)(w:World):
  Calls Tryz.prog 100 #[spotV tb key hash ap (-1) fp fs] w fun x w'=>x= .returned (.tuple #[entV ⟨0,0,0⟩,.bool false])∧Below w.heap.size w w':=by
 obtain⟨W,hW,hB,hV,hD⟩:=qX2 w 206 #[.pointer (some ⟨tb,0,none⟩),.int .u64 (key:Int),.int .u64 (hash:Int),.pointer ap,.int .i64 (-1),.pointer fp,.int .i64 fs] 45 #[.int .u64 0,.int .u64 0,.int .u64 0];obtain⟨d0,d1,d2⟩:=hD.c3;obtain⟨f0,f1,f2⟩:=hD.f3;obtain⟨v0,v1,v2,v3,v4,v5,v6⟩:=hV.c7;have HW:=qd hW;have HB:=qd hB;unfold spotV entV;clear hW hB hV hD;go_in;go_upto_region 1 with fail;rw[←HW.out];go_wp2;refine bodyPost_ret (v:= .tuple #[.agg #[.int .u64 0,.int .u64 0,.int .u64 0],.bool false]) ?_ rfl ⟨rfl, ?_⟩
 ·simp[results,Tryz.results100,go_sem,d0,d1,d2]
 ·repeat (with_reducible first|exact HB.out|refine Below.setCell ?_ ?_ _)
  all_goals (simp;try omega)
theorem spot_Entry_some (tb key hash gb:Nat)(fp:Option Addr)(fs:Int)(T:TabM)(i s:Nat)(hi:i<T.gs.length)(hs:s<8)(e:Ent)(he:slotAt T.gs i s= .full e)(w:World)(h:TabAt w tb gb T):
  Calls Tryz.prog 100 #[spotV tb key hash (some ⟨gb,i*25,none⟩) (s:Int) fp fs] w fun x w'=>x= .returned (.tuple #[entV e,.bool true])∧Below w.heap.size w w':=by
 obtain⟨W,hW,hB,hV,hD⟩:=qX2 w 206 #[.pointer (some ⟨tb,0,none⟩),.int .u64 (key:Int),.int .u64 (hash:Int),.pointer (some ⟨gb,i*25,none⟩),.int .i64 (s:Int),.pointer fp,.int .i64 fs] 45 #[.int .u64 0,.int .u64 0,.int .u64 0];obtain⟨v0,v1,v2,v3,v4,v5,v6⟩:=hV.c7;have hTW:=h.below hB;have HE:=qd (grp_At_full gb 242 (tabCells (T.gs.take i)) (tabCells (T.gs.drop (i+1))) (i*25) (T.gs.getD i []) W (hTW.group i hi) s hs e he);have HW:=qd hW;have HB:=qd hB
 have hs0:¬(s:Int)<0:=by omega
 unfold viewV entV at HE;unfold spotV entV;clear hW hB hV h hTW he;go_in;go_upto_region 1 with fail;rw[←HW.out];go_wp2_with fail;refine(HE.out).mono ?_;rintro x w1 ⟨rfl,hb⟩;have hD1:=hD.below hb hD.lt;obtain⟨d0,d1,d2⟩:=hD1.c3;obtain⟨f0,f1,f2⟩:=hD1.f3;have hB1:=qd (below_nx hb HB.out);clear hb hD;go_wp2;refine bodyPost_ret (v:= .tuple #[.agg #[.int .u64 (e.key:Int),.int .u64 (e.val:Int),.int .u64 (e.hash:Int)],.bool true]) ?_ rfl ⟨rfl, ?_⟩
 ·simp[results,Tryz.results100,go_sem,d0,d1,d2]
 ·repeat (with_reducible first|exact hB1.out|refine Below.setCell ?_ ?_ _)
  all_goals (simp;try omega)
theorem spot_Replace (tb key hash gb:Nat)(fp:Option Addr)(fs:Int)(T:TabM)(i s v:Nat)(hi:i<T.gs.length)(hs:s<8)(e:Ent)(he:slotAt T.gs i s= .full e)(w:World)(h:TabAt w tb gb T):
  Calls Tryz.prog 101 #[spotV tb key hash (some ⟨gb,i*25,none⟩) (s:Int) fp fs,.int .u64 (v:Int)] w fun x w'=>x= .returned .nilIface∧TabAt w' tb gb (replaceM T i s v e)∧Mod [tb,gb] w w':=by
 have hB:=(Below.refl w.heap.size w).alloc (Nat.le_refl _) (.cells #[.pointer (some ⟨tb,0,none⟩),.int .u64 (key:Int),.int .u64 (hash:Int),.pointer (some ⟨gb,i*25,none⟩),.int .i64 (s:Int),.pointer fp,.int .i64 fs] 206);have hV:=Blk.new w 206 #[.pointer (some ⟨tb,0,none⟩),.int .u64 (key:Int),.int .u64 (hash:Int),.pointer (some ⟨gb,i*25,none⟩),.int .i64 (s:Int),.pointer fp,.int .i64 fs];obtain⟨W,hW⟩:∃W,W=w.alloc (.cells #[.pointer (some ⟨tb,0,none⟩),.int .u64 (key:Int),.int .u64 (hash:Int),.pointer (some ⟨gb,i*25,none⟩),.int .i64 (s:Int),.pointer fp,.int .i64 fs] 206):=⟨_,rfl⟩;rw[←hW]at hB hV;obtain⟨v0,v1,v2,v3,v4,v5,v6⟩:=hV.c7;have hTW:=h.below hB;have HE:=qd (grp_Set gb 242 (tabCells (T.gs.take i)) (tabCells (T.gs.drop (i+1))) (i*25) (T.gs.getD i []) W (hTW.group i hi) s hs v e he);have HT:=qd hTW;have HW:=qd hW;have HB:=qd hB
 have hs0:¬(s:Int)<0:=by omega
 unfold viewV at HE;unfold spotV;clear hW hB hV h hTW he;go_in;go_upto_region 1 with fail;rw[←HW.out];go_wp2_with fail;refine(HE.out).mono ?_;rintro x w1 ⟨rfl,hG1,hm1⟩;have HP:=qd (And.intro (HT.out.set_group i hi hm1 hG1) ((Mod.of_below HB.out [tb,gb]).then (hm1.more (by simp))));clear hG1 hm1;go_wp2;go_ret;exact⟨rfl,HP.out.1,HP.out.2⟩
theorem spot_Place (tb gb:Nat)(ap:Option Addr)(T:TabM)(i s:Nat)(e:Ent)(hi:i<T.gs.length)(hs:s<8)(h64:e.hash<18446744073709551616)(he:(slotAt T.gs i s).isFull=false)(hS:Small T)(hroom:T.live+T.tombs+1≤7*(T.gs.length:Int))(w:World)(h:TabAt w tb gb T):
  Calls Tryz.prog 102 #[spotV tb e.key e.hash ap (-1) (some ⟨gb,i*25,none⟩) (s:Int),entV e] w fun x w'=>x= .returned .nilIface∧TabAt w' tb gb (placeM T i s e)∧Mod [tb,gb] w w':=by
 obtain⟨W,hW,hB,hV,hE⟩:=qX2 w 206 #[.pointer (some ⟨tb,0,none⟩),.int .u64 (e.key:Int),.int .u64 (e.hash:Int),.pointer ap,.int .i64 (-1),.pointer (some ⟨gb,i*25,none⟩),.int .i64 (s:Int)] 45 #[.int .u64 (e.key:Int),.int .u64 (e.val:Int),.int .u64 (e.hash:Int)];have v:=hV.c7;obtain⟨e0,e1,e2⟩:=hE.c3;have hTW:=h.below hB;have htl:=h.ltT;have hgl:=h.ltG;have HT:=qd (hTW.below (Below.refl _ _).drew);have HE:=qd (grp_Put gb 242 (tabCells (T.gs.take i)) (tabCells (T.gs.drop (i+1))) (i*25) (T.gs.getD i []) W.drew (HT.out.group i hi) s hs e h64 he);have HL:=qd (table_Left tb gb T W hTW hS.n1 ⟨hS.l0,hS.l1⟩ ⟨hS.t0,hS.t1⟩);have HW:=qd hW;have HB:=qd hB
 have hs0:¬(s:Int)<0:=by omega
 have hlf:¬7*(T.gs.length:Int)-T.live-T.tombs<1:=by omega
 have hne:w.heap.size≠gb:=by omega
 obtain⟨l0,l1,t0,t1,n1⟩:=hS;rw[show(T.gs.getD i []).getD s .empty=slotAt T.gs i s from rfl]at HE;unfold viewV entV at HE;unfold tabP at HL;unfold spotV entV;clear hW hB h hTW he n1 hroom h64 hE
 cases ho:(slotAt T.gs i s).isTomb with
 |true=>
  rw[ho]at HE;have HO:=qd ho;clear ho;go_in;go_upto_region 1 with fail;rw[←HW.out];go_wp2_with fail;refine(HL.out).mono ?_;rintro x w1 ⟨rfl,rfl⟩;go_wp2_with fail;refine(HE.out).mono ?_;rintro x w1 ⟨rfl,hG1,hm1⟩;have hT1:=HT.out.set_group i hi hm1 hG1;obtain⟨c0,c1,c2⟩:=hT1.cells;have f1:=hT1.tab.frozen 1;have f2:=hT1.tab.frozen 2;have hVm:=hV.drew.mod hm1 (by simpa using hne);have v:=hVm.c7;have hT2:=hT1.set_live (T.live+1);have hM2:=((((Mod.of_below HB.out.drew [tb,gb]).then (hm1.more (by simp))).sl 1 (.int .i64 (T.live+1))));have hT3:=hT2.set_tombs (T.tombs-1);have hM3:=hM2.sl 2 (.int .i64 (T.tombs-1));have HP:=qd (And.intro hT3 hM3);clear hT3 hM3 hT2 hM2 hT1 hG1 hm1 hVm hV;go_wp2;go_ret;refine⟨rfl, ?_,HP.out.2⟩;have:=HP.out.1;unfold placeM putAt;rw[HO.out];exact this
 |false=>
  rw[ho]at HE;have HO:=qd ho;clear ho;go_in;go_upto_region 1 with fail;rw[←HW.out];go_wp2_with fail;refine(HL.out).mono ?_;rintro x w1 ⟨rfl,rfl⟩;go_wp2_with fail;refine(HE.out).mono ?_;rintro x w1 ⟨rfl,hG1,hm1⟩;have hT1:=HT.out.set_group i hi hm1 hG1;obtain⟨c0,c1,c2⟩:=hT1.cells;have f1:=hT1.tab.frozen 1;have f2:=hT1.tab.frozen 2;have hVm:=hV.drew.mod hm1 (by simpa using hne);have v:=hVm.c7;have hT2:=hT1.set_live (T.live+1);have hM2:=((((Mod.of_below HB.out.drew [tb,gb]).then (hm1.more (by simp))).sl 1 (.int .i64 (T.live+1))));have HP:=qd (And.intro hT2 hM2);clear hT2 hM2 hT1 hG1 hm1 hVm hV;go_wp2;go_ret;refine⟨rfl, ?_,HP.out.2⟩;have:=HP.out.1;unfold placeM putAt;rw[HO.out];exact this
end Go.Proofs.YthfgacnlojmmfaaGreatDoor

/-! Seeking over a list of groups. No program in sight. -/
namespace Go.Proofs.YthfgacnlojmmfaaGreatDoor.AmC
set_option maxRecDepth 100000
set_option maxHeartbeats 2000000
open Go Go.RowKit AmC
variable {gs : Tab} {hash i key : Nat} {pre rest : List Nat}
def seekOver (gs:Tab)(key hash:Nat):List Nat→Option (Nat×Nat)→Option (Nat×Nat)×Option (Nat×Nat)×Nat
 | [],fr=>(none,fr,0)
 |i::is,fr=>
  match findG (gs.getD i []) key hash with
  |some s=>(some (i,s),nextFree fr i (gs.getD i []),1)
  |none=>if openG (gs.getD i [])then(none,nextFree fr i (gs.getD i []),1)else
   let r:=seekOver gs key hash is (nextFree fr i (gs.getD i []))
   (r.1,r.2.1,r.2.2+1)
theorem seekFrom_over (gs:Tab)(key hash:Nat):∀f j fr,seekFrom gs key hash f j fr=seekOver gs key hash ((List.range f).map fun k=>walkAt (hash/128) gs.length (j+k)) fr
 |0,_,_=>rfl
 |f+1,j,fr=>by
  rw[List.range_succ_eq_map,List.map_cons,List.map_map];have ih:=seekFrom_over gs key hash f (j+1);unfold seekFrom seekOver;simp only[Nat.add_zero]
  have he:(List.range f).map ((fun k=>walkAt (hash/128) gs.length (j+k))∘Nat.succ)=(List.range f).map fun k=>walkAt (hash/128) gs.length (j+1+k):=by
   apply List.map_congr_left;intro k _;simp[Nat.succ_eq_add_one,Nat.add_assoc,Nat.add_comm 1 k]
  rw[he]
  cases hf:findG (gs.getD (walkAt (hash/128) gs.length j) []) key hash with
  |some s=>rfl
  |none=>
   cases ho:openG (gs.getD (walkAt (hash/128) gs.length j) [])with
   |true=>rfl
   |false=>
    simp only[Bool.false_eq_true,if_false];rw[ih]
theorem seek_over (gs:Tab)(key hash:Nat):seek gs key hash=seekOver gs key hash (walk (hash/128) gs.length) none:=by
 unfold seek walk;rw[seekFrom_over];congr 1;apply List.map_congr_left;intro k _;rw[Nat.zero_add]
def freeOf (gs:Tab)(pre:List Nat):Option (Nat×Nat):=pre.foldl (fun fr i=>nextFree fr i (gs.getD i [])) none
theorem freeOf_snoc (gs:Tab)(pre:List Nat)(i:Nat):freeOf gs (pre++[i])=nextFree (freeOf gs pre) i (gs.getD i []):=by simp[freeOf]
def Passed (gs:Tab)(key hash:Nat)(i:Nat):Prop:=findG (gs.getD i []) key hash=none∧openG (gs.getD i [])=false
theorem over_passed (gs:Tab)(key hash:Nat):∀(pre rest:List Nat) (fr:Option (Nat×Nat)),(∀i∈pre,Passed gs key hash i)→
  seekOver gs key hash (pre++rest) fr=let r:=seekOver gs key hash rest (pre.foldl (fun fr i=>nextFree fr i (gs.getD i [])) fr);(r.1,r.2.1,r.2.2+pre.length)
 | [],rest,fr,_=>by simp
 |i::pre,rest,fr,h=>by
  obtain⟨h1,h2⟩:=h i (by simp);have ih:=over_passed gs key hash pre rest (nextFree fr i (gs.getD i [])) (fun x hx=>h x (by simp[hx]));rw[List.cons_append,seekOver,h1];simp only[h2,Bool.false_eq_true,if_false];rw[ih];simp only[List.foldl_cons,List.length_cons,Nat.add_assoc]
theorem seek_all (he:pre=walk (hash/128) gs.length)(h:∀i∈pre,Passed gs key hash i):seek gs key hash=(none,freeOf gs pre,pre.length):=by
 rw[seek_over,←he];have:=over_passed gs key hash pre [] none h;rw[List.append_nil]at this;rw[this];simp[seekOver,freeOf]
theorem seek_hit {s:Nat}(he:pre++i::rest=walk (hash/128) gs.length)(h:∀i∈pre,Passed gs key hash i)(hf:findG (gs.getD i []) key hash=some s):seek gs key hash=(some (i,s),freeOf gs (pre++[i]),(pre++[i]).length):=by
 rw[seek_over,←he,over_passed gs key hash pre _ none h,freeOf_snoc];unfold seekOver;rw[hf];simp only[List.length_append,List.length_cons,List.length_nil,Nat.zero_add,Nat.add_comm 1];rfl
theorem seek_stop (he:pre++i::rest=walk (hash/128) gs.length)(h:∀i∈pre,Passed gs key hash i)(hf:findG (gs.getD i []) key hash=none)(ho:openG (gs.getD i [])=true):seek gs key hash=(none,freeOf gs (pre++[i]),(pre++[i]).length):=by
 rw[seek_over,←he,over_passed gs key hash pre _ none h,freeOf_snoc];unfold seekOver;rw[hf];simp only[ho,if_true,List.length_append,List.length_cons,List.length_nil,Nat.zero_add,Nat.add_comm 1];rfl
end Go.Proofs.YthfgacnlojmmfaaGreatDoor.AmC
