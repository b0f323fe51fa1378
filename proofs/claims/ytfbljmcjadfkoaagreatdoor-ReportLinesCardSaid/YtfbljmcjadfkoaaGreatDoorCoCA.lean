/- A node's Find, Delete, Least, whatever the dual or the table tells. -/
import Derived.Test.YtfbljmcjadfkoaaGreatDoorCoBA
import Derived.Test.YtfbljmcjadfkoaaGreatDoorSqT
import Derived.Test.YtfbljmcjadfkoaaGreatDoorSq
import Derived.Test.YtfbljmcjadfkoaaGreatDoorSqM
namespace Go.Proofs.YtfbljmcjadfkoaaGreatDoor
set_option maxRecDepth 100000
set_option maxHeartbeats 8000000
open Go.RowKit AmC Go
def nodeP (b:Nat):Value:= .pointer (some ⟨b,0,none⟩)
def Through (Post:World→World→Prop)(w w':World):Prop:=∃V V' rbk,Below w.heap.size w V∧Post V V'∧w.heap.size≤rbk∧rbk<V.heap.size∧Mod [rbk] V' w'
section
variable {W0 : World} {E : Nat → Addr}
end
theorem node_Groups_tab (nb tb gb:Nat)(pfx dpt job:Int)(T:TabM)(w:World)(h:Blk w nb 187 #[.int .i64 pfx,.int .i64 dpt,.pointer (some ⟨tb,0,none⟩),.int .i64 job,.pointer none])(ht:TabAt w tb gb T):
  Calls Tryz.prog 104 #[nodeP nb] w fun e w'=>e= .returned (.int .i64 (T.gs.length:Int))∧w=w':=by
 have HC:=qd (table_Groups tb gb T w ht);unfold tabP at HC;obtain⟨c0,c1,c2,c3,c4⟩:=h.c5;clear h;unfold nodeP;go_in;go_wp2_with fail;refine(HC.out).mono ?_;rintro y w1 ⟨rfl,rfl⟩;go_wp2;go_ret;exact⟨rfl,rfl⟩
theorem node_Groups_dual (nb tb db:Nat)(pfx dpt job:Int)(v:Int)(Post:World→World→Prop)(w:World)(h:Blk w nb 187 #[.int .i64 pfx,.int .i64 dpt,.pointer (some ⟨tb,0,none⟩),.int .i64 job,.pointer (some ⟨db,0,none⟩)])(hc:Calls Tryz.prog 144 #[dualP db] w fun e w'=>e= .returned (.int .i64 v)∧Post w w'):
  Calls Tryz.prog 104 #[nodeP nb] w fun e w'=>e= .returned (.int .i64 v)∧Post w w':=by
 have HC:=qd hc;unfold dualP at HC;clear hc;obtain⟨c0,c1,c2,c3,c4⟩:=h.c5;clear h;unfold nodeP;go_in;go_wp2_with fail;refine(HC.out).mono ?_;rintro y w1 ⟨rfl,hp⟩;have HP:=qd hp;clear hp;go_wp2;go_ret;exact⟨rfl,HP.out⟩
theorem node_Left_dual (nb tb db:Nat)(pfx dpt job:Int)(v:Int)(Post:World→World→Prop)(w:World)(h:Blk w nb 187 #[.int .i64 pfx,.int .i64 dpt,.pointer (some ⟨tb,0,none⟩),.int .i64 job,.pointer (some ⟨db,0,none⟩)])(hc:Calls Tryz.prog 286 #[dualP db] w fun e w'=>e= .returned (.int .i64 v)∧Post w w'):
  Calls Tryz.prog 326 #[nodeP nb] w fun e w'=>e= .returned (.int .i64 v)∧Post w w':=by
 have HC:=qd hc;unfold dualP at HC;clear hc;obtain⟨c0,c1,c2,c3,c4⟩:=h.c5;clear h;unfold nodeP;go_in;go_wp2_with fail;refine(HC.out).mono ?_;rintro y w1 ⟨rfl,hp⟩;have HP:=qd hp;clear hp;go_wp2;go_ret;exact⟨rfl,HP.out⟩
theorem node_Left_tab (nb tb:Nat)(pfx dpt job:Int)(w:World)(h:Blk w nb 187 #[.int .i64 pfx,.int .i64 dpt,.pointer (some ⟨tb,0,none⟩),.int .i64 job,.pointer none]):
  Calls Tryz.prog 326 #[nodeP nb] w fun e w'=>e= .returned (.int .i64 0)∧w=w':=by
 obtain⟨c0,c1,c2,c3,c4⟩:=h.c5;clear h;unfold nodeP;go_in;go_wp2;go_ret;exact⟨rfl,rfl⟩
theorem node_Step_dual (nb tb db:Nat)(pfx dpt job:Int)(P:MP)(Post:World→World→Prop)(w:World)(h:Blk w nb 187 #[.int .i64 pfx,.int .i64 dpt,.pointer (some ⟨tb,0,none⟩),.int .i64 job,.pointer (some ⟨db,0,none⟩)])(hc:Calls Tryz.prog 328 #[dualP db,.pointer (some ⟨P.mb,P.mo,none⟩)] w fun e w'=>e= .returned (.bool true)∧Post w w'):
  Calls Tryz.prog 327 #[nodeP nb,.pointer (some ⟨P.mb,P.mo,none⟩)] w fun e w'=>e= .returned (.bool true)∧Post w w':=by
 have HC:=qd hc;unfold dualP at HC;clear hc;obtain⟨c0,c1,c2,c3,c4⟩:=h.c5;clear h;unfold nodeP;go_in;go_wp2_with fail;refine(HC.out).mono ?_;rintro y w1 ⟨rfl,hp⟩;have HP:=qd hp;clear hp;go_wp2;go_ret;exact⟨rfl,HP.out⟩
theorem DuNew.mod {w w1 w2:World}{db ob og:Nat}{T:TabM}{n m depth:Nat}{S:List Nat}(h:DuNew w w1 db ob og T n m depth)(hm:Mod S w1 w2)(hS:∀k∈S,k<w.heap.size∧k≠ob∧k≠og):DuNew w w2 db ob og T n m depth:=by
 obtain⟨rb,cap,bl,h1,h2,h3,h4,h5⟩:=h;refine⟨rb,cap,bl,h1,h2,h3,h4,h5.mod hm fun q hq hk=> ?_⟩;have hh:=hS q hk;unfold footB at hq;simp only[List.mem_cons]at hq;rcases hq with e|e|e|e|e
 ·omega
 ·omega
 ·exact hh.2.1 e
 ·exact hh.2.2 e
 ·have:=h3 q e;omega
theorem node_New (w:World):
  Calls Tryz.prog 84 #[.int .i64 0,.int .i64 0] w fun e w'=>∃nb tb gb,e= .returned (.tuple #[nodeP nb,.nilIface])∧Blk w' nb 187 #[.int .i64 0,.int .i64 0,.pointer (some ⟨tb,0,none⟩),.int .i64 0,.pointer none]∧TabAt w' tb gb (prepT 1 1)∧(w.heap.size≤nb∧w.heap.size≤tb∧w.heap.size≤gb∧nb≠tb∧nb≠gb)∧Below w.heap.size w w':=by
 have HL:=qd (split_Low 0 0 (by omega) (by omega) w);have HN:=qd (table_New 1 (.inl rfl) w);unfold tabP at HN;unfold nodeP;go_in;go_wp2_with fail;refine(HL.out).mono ?_;rintro y w1 ⟨rfl,rfl⟩;go_wp2_with fail;refine(HN.out).mono ?_;rintro y w1 ⟨tb,gb,htb,hgb,rfl,hT,hb⟩;have HT:=qd hT;have Hb:=qd hb;clear hT hb;go_wp2;refine bodyPost_ret (v:= .tuple #[.pointer (some ⟨w1.heap.size,0,none⟩),.nilIface]) (by simp[results,Tryz.results84,go_sem]) rfl ?_;have hbs:=Hb.out.size;exact⟨w1.heap.size,tb,gb,rfl,Blk.new w1 _ _,HT.out.below ((Below.refl _ _).alloc (Nat.le_refl _) _),by have:=HT.out.ltT;have:=HT.out.ltG;omega,Hb.out.alloc hbs _⟩
theorem mem_footM_t {db rb fb eb vb ob og:Nat}{bbs:List Nat}{bs:List (Nat×Nat)}{b:Nat×Nat}(h:b∈bs):b.1∈footM db rb fb eb vb ob og bbs bs∧b.2∈footM db rb fb eb vb ob og bbs bs:=by
 have h1:b.1∈flatB bs:=mem_flatB.2 ⟨b,h,.inl rfl⟩;have h2:b.2∈flatB bs:=mem_flatB.2 ⟨b,h,.inr rfl⟩;unfold footM;simp only[List.mem_cons,List.mem_append];exact⟨.inr (.inr (.inr (.inr (.inr (.inr (.inr (.inr h1))))))),.inr (.inr (.inr (.inr (.inr (.inr (.inr (.inr h2)))))))⟩
section
variable {T : TabM} {add del l l' : List Ent} {e : Ent} {i s : Nat}
structure TG (T:TabM):Prop where
 inv:TInv T.gs
 ok:TOk T
def load (T:TabM):Nat:=(entsT T.gs).length+tombsT T.gs
theorem TG.loadI (h:TG T):T.live+T.tombs=(load T:Int):=by
 have h1:=h.ok.live;have h2:=h.ok.tombs;unfold load;omega
def Chg (del add l l':List Ent):Prop:=∃rest,l.Perm (del++rest)∧l'.Perm (add++rest)
theorem Chg.wrap (h:Chg del add l l')(A B:List Ent):Chg del add (A++(l++B)) (A++(l'++B)):=by
 obtain⟨r,h1,h2⟩:=h;refine⟨A++(r++B), ?_, ?_⟩
 ·exact((h1.append_right B).append_left A).trans (by rw[List.append_assoc,←List.append_assoc A,←List.append_assoc del];exact(List.perm_append_comm).append_right _)
 ·exact((h2.append_right B).append_left A).trans (by rw[List.append_assoc,←List.append_assoc A,←List.append_assoc add];exact(List.perm_append_comm).append_right _)
theorem Chg.len (h:Chg del add l l'):l'.length+del.length=l.length+add.length:=by
 obtain⟨r,h3,h4⟩:=h;have h5:=h3.length_eq;have h6:=h4.length_eq;rw[List.length_append]at h5 h6;omega
theorem Chg.mem (h:Chg del add l l')(he:e∈l'):e∈add∨e∈l:=by
 obtain⟨r,h3,h4⟩:=h;rcases List.mem_append.1 (h4.mem_iff.1 he)with h5|h5
 ·exact .inl h5
 ·exact .inr (h3.mem_iff.2 (by simp[h5]))
structure TChg (del add:List Ent)(T T':TabM):Prop where
 tg:TG T'
 len:T'.gs.length=T.gs.length
 chg:Chg del add (entsT T.gs) (entsT T'.gs)
 load_:load T'≤load T+(add.length-del.length)
 at_:∀i s e,slotAt T'.gs i s= .full e→del=[]∨∃e0,slotAt T.gs i s= .full e0
theorem tg_free (h:TG T)(hk:∀x∈entsT T.gs,x.key≠e.key)(ho:load T<8*T.gs.length):
  (seek T.gs e.key e.hash).1=none∧∃i s,(seek T.gs e.key e.hash).2.1=some (i,s)∧FreeAt T.gs e.hash i s:=
 ⟨seek_none hk,seek_free h.ok.pow (open_of_room h.ok.wide ho) (seek_none hk)⟩
theorem not_full_ents {x:Slot}(h:x.isFull=false):x.ents=[]:=by cases x<;>first|rfl|cases h
theorem tg_place (h:TG T)(hf:FreeAt T.gs e.hash i s)(hk:∀x∈entsT T.gs,x.key≠e.key):TChg [] [e] T (placeM T i s e):=by
 have hf':=hf;obtain⟨hi,hs,hn,_⟩:=hf';have h1:=entsT_put hi hs (.full e);have h2:=tombsT_put hi hs (.full e);rw[not_full_ents hn,List.nil_append]at h1;refine⟨⟨inv_put h.inv hf hk,h.ok.place hi hs hn e⟩,putAt_length _ _ _ _,⟨entsT T.gs,by simp,h1⟩, ?_,fun j k x hx=> .inl rfl⟩
 ·have h3:=h1.length_eq;have h4:(Slot.full e).tomb1=0:=rfl;rw[List.length_append]at h3;show(entsT (putAt T.gs i s (.full e))).length+tombsT (putAt T.gs i s (.full e))≤(entsT T.gs).length+tombsT T.gs+(1-0);rw[h4]at h2;have h5:(Slot.full e).ents.length=1:=rfl;omega
theorem tg_erase (h:TG T)(he:slotAt T.gs i s= .full e):TChg [e] [] T (eraseM T i s)∧(∀j k x,slotAt (eraseM T i s).gs j k= .full x↔slotAt T.gs j k= .full x∧¬(j=i∧k=s)):=by
 obtain⟨hi,hs⟩:=slotAt_lt (gs:=T.gs) (i:=i) (s:=s) (by rw[he];exact fun h=>by cases h)
 obtain⟨x,hx,hxe,hxf⟩:∃x:Slot,(eraseM T i s).gs=putAt T.gs i s x∧(x.isEmpty=true→openG (T.gs.getD i [])=true)∧x.isFull=false:=by
  refine⟨_,rfl, ?_, ?_⟩<;>cases openG (T.gs.getD i [])<;>simp[Slot.isEmpty,Slot.isFull]
 have hxf':∀y,x≠ .full y:=fun y hy=>by rw[hy]at hxf;cases hxf
 have h1:=entsT_put hi hs x;have h2:=tombsT_put hi hs x;rw[not_full_ents hxf,List.nil_append,he]at h1
 have hat:∀j k y,slotAt (eraseM T i s).gs j k= .full y↔slotAt T.gs j k= .full y∧¬(j=i∧k=s):=fun j k y=>by
  rw[hx,slotAt_put _ _ _ _ _ _ hi hs];by_cases hij:i=j∧s=k
  ·rw[if_pos hij];exact⟨fun hh=>absurd hh (hxf' y),fun hh=>absurd ⟨hij.1.symm,hij.2.symm⟩ hh.2⟩
  ·rw[if_neg hij];exact⟨fun hh=>⟨hh,fun hh'=>hij ⟨hh'.1.symm,hh'.2.symm⟩⟩,fun hh=>hh.1⟩
 refine⟨⟨⟨by rw[hx];exact inv_erase h.inv hi hs hxe hxf',h.ok.erase he⟩,eraseM_length _ _ _,⟨entsT (eraseM T i s).gs,by rw[hx];exact h1.symm,by simp⟩, ?_,fun j k y hy=> .inr ⟨y,((hat j k y).1 hy).1⟩⟩,hat⟩;have h3:=h1.length_eq;rw[List.length_append]at h3;have h5:(Slot.full e).ents.length=1:=rfl
 have h6:x.tomb1≤1:=by unfold Slot.tomb1;split<;>omega
 unfold load;rw[hx];omega
theorem tg_bare {n:Nat}(h:Pw n):TG (prepT n n)∧entsT (prepT n n).gs=[]∧load (prepT n n)=0:=by
 have h1:=prep_ok h;have h2:(prepT n n).gs=bare n:=prepG_all n
 have h3:entsT (prepT n n).gs=[]:=by
  have:=h1.live;exact List.length_eq_zero_iff.1 (by simp[prepT]at this;simpa[prepT]using this.symm)
 have h4:=h1.tombs;refine⟨⟨by rw[h2];exact inv_bare h,h1⟩,h3, ?_⟩;unfold load;rw[h3];simp[prepT]at h4⊢;omega
theorem tg_take (h:TG T)(hi:i<T.gs.length):∀k,k≤8→TG (takeN T i k)∧(∀j s e,slotAt (takeN T i k).gs j s= .full e↔slotAt T.gs j s= .full e∧¬(j=i∧s<k))∧
  (entsT T.gs).Perm (entsG ((T.gs.getD i []).take k)++entsT (takeN T i k).gs)∧load (takeN T i k)≤load T
 |0,_=>⟨h,fun j s e=>by simp[takeN],by simp[entsG,takeN],Nat.le_refl _⟩
 |k+1,hk=>by
  obtain⟨h1,h2,h3,h4⟩:=tg_take h hi k (by omega);have hw:=h.ok.wide.at_ hi;have hg:(T.gs.getD i [])[k]?=some (slotAt T.gs i k):=slotAt_get (by omega)
  have ht:entsG ((T.gs.getD i []).take (k+1))=entsG ((T.gs.getD i []).take k)++(slotAt T.gs i k).ents:=by
   rw[List.take_add_one,hg];unfold entsG;simp
  show TG (eraseIf _ _ _)∧(∀j s e,slotAt (eraseIf _ _ _).gs j s= .full e↔_)∧_∧load (eraseIf _ _ _)≤_
  cases hx:slotAt T.gs i k with
  |full e=>
   have he:slotAt (takeN T i k).gs i k= .full e:=(h2 i k e).2 ⟨hx,by omega⟩;obtain⟨h5,h6⟩:=tg_erase h1 he
   have hE:eraseIf (takeN T i k) i k=eraseM (takeN T i k) i k:=by unfold eraseIf;rw[he];rfl
   rw[hE];refine⟨h5.tg,fun j s x=> ?_, ?_,Nat.le_trans h5.load_ (by simpa using h4)⟩
   ·rw[h6,h2];constructor
    ·rintro⟨⟨a,b⟩,c⟩;refine⟨a,fun hh=> ?_⟩;by_cases hs:s=k
     ·exact c ⟨hh.1,hs⟩
     ·exact b ⟨hh.1,by omega⟩
    ·rintro⟨a,b⟩;exact⟨⟨a,fun hh=>b ⟨hh.1,by omega⟩⟩,fun hh=>b ⟨hh.1,by omega⟩⟩
   ·rw[takeN,hE,ht,hx,List.append_assoc];obtain⟨r,h7,h8⟩:=h5.chg;exact h3.trans ((h7.trans ((h8.symm).append_left _)).append_left _)
  |empty=>
   have hE:eraseIf (takeN T i k) i k=takeN T i k:=by
    unfold eraseIf
    cases hy:slotAt (takeN T i k).gs i k with
    |full y=>have:=((h2 i k y).1 hy).1;rw[hx]at this;cases this
    |_=>rfl
   rw[hE];refine⟨h1,fun j s x=> ?_,by rw[takeN,hE,ht,hx];simpa[Slot.ents]using h3,h4⟩;rw[h2]
   exact⟨fun⟨a,b⟩=>⟨a,fun hh=>by
    by_cases hs:s=k
    ·rw[hh.1,hs,hx]at a;cases a
    ·exact b ⟨hh.1,by omega⟩⟩,fun⟨a,b⟩=>⟨a,fun hh=>b ⟨hh.1,by omega⟩⟩⟩
  |tomb=>
   have hE:eraseIf (takeN T i k) i k=takeN T i k:=by
    unfold eraseIf
    cases hy:slotAt (takeN T i k).gs i k with
    |full y=>have:=((h2 i k y).1 hy).1;rw[hx]at this;cases this
    |_=>rfl
   rw[hE];refine⟨h1,fun j s x=> ?_,by rw[takeN,hE,ht,hx];simpa[Slot.ents]using h3,h4⟩;rw[h2]
   exact⟨fun⟨a,b⟩=>⟨a,fun hh=>by
    by_cases hs:s=k
    ·rw[hh.1,hs,hx]at a;cases a
    ·exact b ⟨hh.1,by omega⟩⟩,fun⟨a,b⟩=>⟨a,fun hh=>b ⟨hh.1,by omega⟩⟩⟩
theorem tg_take8 (h:TG T)(hi:i<T.gs.length):TG (takeN T i 8)∧(∀j s e,slotAt (takeN T i 8).gs j s= .full e↔slotAt T.gs j s= .full e∧j≠i)∧
  (entsT T.gs).Perm (entsG (T.gs.getD i [])++entsT (takeN T i 8).gs):=by
 obtain⟨h1,h2,h3,h4⟩:=tg_take h hi 8 (Nat.le_refl _);have hw:=h.ok.wide.at_ hi;rw[List.take_of_length_le (by omega)]at h3;refine⟨h1,fun j s e=> ?_,h3⟩;rw[h2];constructor
 ·rintro⟨a,b⟩;refine⟨a,fun hj=>b ⟨hj, ?_⟩⟩;subst hj;have:=(slotAt_lt (gs:=T.gs) (i:=j) (s:=s) (by rw[a];exact fun h=>by cases h)).2;omega
 ·rintro⟨a,b⟩;exact⟨a,fun hh=>b hh.1⟩
end
section
variable {d j m n : Nat} {Ts : List TabM} {T : TabM}
def loads (Ts:List TabM):Nat:=(Ts.map load).sum
def entsTs (Ts:List TabM):List Ent:=Ts.flatMap fun T=>entsT T.gs
theorem list_at {α:Type}{l:List α}{x:α}(h:l[j]?=some x):l=l.take j++x::l.drop (j+1)∧∀y,l.set j y=l.take j++y::l.drop (j+1):=by
 obtain⟨hj,rfl⟩:=List.getElem?_eq_some_iff.1 h;refine⟨?_,fun y=>set_split hj y⟩;have:=set_split hj l[j]
 rwa [List.set_getElem_self]at this
theorem loads_set (h:Ts[j]?=some T)(T':TabM):loads (Ts.set j T')+load T=loads Ts+load T':=by
 obtain⟨h1,h2⟩:=list_at h
 have h3:loads Ts=loads (Ts.take j++T::Ts.drop (j+1)):=by rw[←h1]
 rw[h2 T',h3];unfold loads;simp only[List.map_append,List.map_cons,List.sum_append,List.sum_cons];omega
theorem load_le (h:Ts[j]?=some T):load T≤loads Ts:=by
 obtain⟨h1,h2⟩:=list_at h
 have h3:loads Ts=loads (Ts.take j++T::Ts.drop (j+1)):=by rw[←h1]
 rw[h3];unfold loads;simp only[List.map_append,List.map_cons,List.sum_append,List.sum_cons];omega
theorem entsTs_split (h:Ts[j]?=some T):∃A B,entsTs Ts=A++(entsT T.gs++B)∧∀T',entsTs (Ts.set j T')=A++(entsT T'.gs++B):=by
 obtain⟨h1,h2⟩:=list_at h;refine⟨entsTs (Ts.take j),entsTs (Ts.drop (j+1)), ?_,fun T'=> ?_⟩
 ·have h3:entsTs Ts=entsTs (Ts.take j++T::Ts.drop (j+1)):=by rw[←h1]
  rw[h3];unfold entsTs;simp
 ·rw[h2 T'];unfold entsTs;simp
theorem mem_entsTs {e:Ent}:e∈entsTs Ts↔∃(j:Nat) (T:TabM),Ts[j]?=some T∧e∈entsT T.gs:=by
 unfold entsTs;rw[List.mem_flatMap];constructor
 ·rintro⟨T,h1,h2⟩;obtain⟨j,hj⟩:=List.getElem?_of_mem h1;exact⟨j,T,hj,h2⟩
 ·rintro⟨j,T,hj,h2⟩;exact⟨T,List.mem_of_getElem? hj,h2⟩
structure FrOk (m n d:Nat)(Ts:List TabM):Prop where
 len:Ts.length=m
 tg:∀(j:Nat) (T:TabM),Ts[j]?=some T→TG T∧T.gs.length=n
 side:∀(j:Nat) (T:TabM) (e:Ent),Ts[j]?=some T→e∈entsT T.gs→sideOf m d e.hash=j
theorem side_lt {h:Nat}(hm:m=1∨m=2):sideOf m d h<m:=by
 unfold sideOf bitOf;rcases hm with rfl|rfl
 ·simp
 ·simp;omega
theorem FrOk.set_ (h:FrOk m n d Ts){T':TabM}{del add:List Ent}(hj:Ts[j]?=some T)(hc:TChg del add T T')(ha:∀e∈add,sideOf m d e.hash=j):FrOk m n d (Ts.set j T'):=by
 have hset:∀(i:Nat) (X:TabM),(Ts.set j T')[i]?=some X→(i=j∧X=T')∨(i≠j∧Ts[i]?=some X):=fun i X hX=>by
  rw[List.getElem?_set]at hX;by_cases hij:j=i
  ·rw[if_pos hij]at hX;split at hX
   ·cases hX;exact .inl ⟨hij.symm,rfl⟩
   ·cases hX
  ·rw[if_neg hij]at hX;exact .inr ⟨fun hh=>hij hh.symm,hX⟩
 refine⟨by rw[List.length_set];exact h.len,fun i X hX=> ?_,fun i X e hX he=> ?_⟩
 ·rcases hset i X hX with⟨rfl,rfl⟩|⟨_,h2⟩
  ·exact⟨hc.tg,hc.len.trans (h.tg _ _ hj).2⟩
  ·exact h.tg _ _ h2
 ·rcases hset i X hX with⟨rfl,rfl⟩|⟨_,h2⟩
  ·rcases hc.chg.mem he with h3|h3
   ·exact ha e h3
   ·exact h.side _ _ _ hj h3
  ·exact h.side _ _ _ h2 he
theorem frOk_bare (hn:Pw n):FrOk m n d (List.replicate m (prepT n n))∧entsTs (List.replicate m (prepT n n))=[]∧loads (List.replicate m (prepT n n))=0:=by
 obtain⟨h1,h2,h3⟩:=tg_bare hn
 have hm:∀(j:Nat) (T:TabM),(List.replicate m (prepT n n))[j]?=some T→T=prepT n n:=fun j T hT=>by
  rw[List.getElem?_replicate]at hT;split at hT
  ·cases hT;rfl
  ·cases hT
 refine⟨⟨by simp,fun j T hT=> ?_,fun j T e hT he=> ?_⟩, ?_, ?_⟩
 ·rw[hm j T hT];exact⟨h1,prepG_length (Nat.le_refl _)⟩
 ·rw[hm j T hT,h2]at he;cases he
 ·exact List.eq_nil_iff_forall_not_mem.2 fun e he=>by
   obtain⟨j,T,hT,he⟩:=mem_entsTs.1 he;rw[hm j T hT,h2]at he;cases he
 ·unfold loads;simp[h3]
theorem moves {B:Nat}(hm:m=1∨m=2)(hB:B≤7*n):∀(es:List Ent) (Ts:List TabM) (x:Mtr),FrOk m n d Ts→((es++entsTs Ts).map Ent.key).Nodup→(∀e∈es,e.hash<18446744073709551616)→loads Ts+es.length≤B→
  Fits m d Ts es∧FrOk m n d (moveL m d (x,Ts) es).2∧(entsTs (moveL m d (x,Ts) es).2).Perm (es++entsTs Ts)∧loads (moveL m d (x,Ts) es).2≤loads Ts+es.length∧∃c,(moveL m d (x,Ts) es).1=x.add cV c
 | [],Ts,x,h,_,_,_=>⟨trivial,h,by exact List.Perm.refl _,Nat.le_refl _,0,rfl⟩
 |e::es,Ts,x,h,hk,h64,hl=>by
  obtain⟨T,hT⟩:∃T,Ts[sideOf m d e.hash]?=some T:=⟨_,List.getElem?_eq_getElem (by rw[h.len];exact side_lt hm)⟩;obtain⟨hg,hn⟩:=h.tg _ _ hT
  have hgd:Ts.getD (sideOf m d e.hash) noT=T:=by rw[List.getD_eq_getElem?_getD,hT];rfl
  have hlT:=load_le hT;simp only[List.length_cons]at hl
  have hkT:∀y∈entsT T.gs,y.key≠e.key:=fun y hy he=>by
   rw[List.cons_append,List.map_cons,List.nodup_cons]at hk;exact hk.1 (by rw[←he];exact List.mem_map_of_mem (List.mem_append_right _ (mem_entsTs.2 ⟨_,_,hT,hy⟩)))
  obtain⟨hs1,i,s,hs2,hf⟩:=tg_free hg hkT (by omega);have hc:=tg_place hg hf hkT
  have hpn:putNew T e=placeM T i s e:=by unfold putNew;rw[hs2]
  have hld:=hg.loadI;have hcp:CanPut T e:=⟨hg.ok,h64 e (by simp),hs1,⟨i,s,hs2⟩,by omega⟩;have hFr:=h.set_ hT hc (fun y hy=>by simp at hy;rw[hy]);have hls:=loads_set hT (placeM T i s e);have hlp:=hc.load_;simp only[List.length_cons,List.length_nil]at hlp;obtain⟨A,B',hsp1,hsp2⟩:=entsTs_split hT
  have hpe:(entsTs (Ts.set (sideOf m d e.hash) (placeM T i s e))).Perm (e::entsTs Ts):=by
   obtain⟨r,h7,h8⟩:=hc.chg.wrap A B';rw[hsp2,hsp1];exact h8.trans (by simpa using h7.symm)
  have ih:=moves (B:=B) hm hB es (Ts.set (sideOf m d e.hash) (placeM T i s e)) (x.add cV (seek (Ts.getD (sideOf m d e.hash) noT).gs e.key e.hash).2.2) hFr
   (((hpe.append_left es).trans List.perm_middle).map Ent.key|>.nodup_iff.2 (by simpa using hk)) (fun y hy=>h64 y (by simp[hy])) (by omega)
  obtain⟨ih1,ih2,ih3,ih4,c,ih5⟩:=ih
  have hst:moveL m d (x,Ts) (e::es)=moveL m d (x.add cV (seek (Ts.getD (sideOf m d e.hash) noT).gs e.key e.hash).2.2,Ts.set (sideOf m d e.hash) (placeM T i s e)) es:=by
   unfold moveL;rw[List.foldl_cons];congr 1;unfold moveOne;simp only;rw[hgd,hpn]
  rw[hst];refine⟨⟨⟨T,hT,hcp⟩,by rw[hgd,hpn];exact ih1⟩,ih2,ih3.trans ((hpe.append_left es).trans List.perm_middle),by simp only[List.length_cons];omega,_,ih5.trans (Mtr.add_add _ _ _ _)⟩
theorem moveL_any (k d:Nat)(x y:Mtr):∀(es:List Ent) (Ts:List TabM),(moveL k d (x,Ts) es).2=(moveL k d (y,Ts) es).2
 | [],_=>rfl
 |e::es,Ts=>by
  unfold moveL;rw[List.foldl_cons,List.foldl_cons];exact moveL_any k d _ _ es _
end
section
variable {H : Nat → Nat}
inductive Phase where
 |idle
 |bld (k:Nat)
 |mov (Ts:List TabM) (next:Nat)
structure Nd where
 pfx:Nat
 dpt:Nat
 kind:Nat
 sl:Nat
 T:TabM
 ph:Phase
def frs:Phase→List TabM
 | .mov Ts _=>Ts
 |_=> []
def Phase.busy:Phase→Bool
 | .idle=>false
 |_=>true
def Nd.len (N:Nd):Nat:=N.T.gs.length
def Nd.many (N:Nd):Nat:=if N.kind=3 then 2 else 1
def Nd.each (N:Nd):Nat:=if N.kind=2 then 2*N.len else N.len
def Nd.ents (N:Nd):List Ent:=entsTs (frs N.ph)++entsT N.T.gs
def Nd.left (N:Nd):Nat:=match N.ph with
 | .idle=>0
 | .bld k=>N.len+(N.each*N.many-k)
 | .mov _ next=>N.len-next
def Nd.groups (N:Nd):Nat:=if N.ph.busy then N.len+N.each*N.many else N.len
def mRoom (n d:Nat):Nat:=4*n-1+d*(3*n/8+1)
def rRoom (kind n d:Nat):Nat:=if kind=1 then(if n<64 then 2*n else 192)else mRoom n d+1
def KindOk (N:Nd):Prop:=N.kind=1∨(N.kind=2∧N.len<64)∨(N.kind=3∧8≤N.len∧N.dpt<5)
def PhOk (N:Nd):Prop:=match N.ph with
 | .idle=>N.kind=0∧load N.T≤mRoom N.len N.dpt+N.sl/8
 | .bld k=>KindOk N∧k<N.each*N.many∧load N.T≤mRoom N.len N.dpt+(k+N.sl)/8∧(entsT N.T.gs).length+1≤rRoom N.kind N.len N.dpt+(k+N.sl)/8
 | .mov Ts next=>KindOk N∧next≤N.len∧FrOk N.many N.each N.dpt Ts∧(∀i s e,slotAt N.T.gs i s= .full e→next≤i)∧loads Ts+(entsT N.T.gs).length+1≤rRoom N.kind N.len N.dpt+(N.each*N.many+next+N.sl)/8
structure EntOk (H:Nat→Nat)(e:Ent):Prop where
 hash:e.hash=H e.key
 h64:e.hash<18446744073709551616
 k64:e.key<18446744073709551616
 v64:e.val<18446744073709551616
structure NOk (H:Nat→Nat)(N:Nd):Prop where
 tg:TG N.T
 deep:N.dpt≤5
 big:N.dpt=0∨8≤N.len
 pfx:N.pfx<2^N.dpt
 sl:N.sl≤8
 keys:(N.ents.map Ent.key).Nodup
 hash:∀e∈N.ents,EntOk H e∧topOf e.hash N.dpt=N.pfx
 few:N.ents.length≤192
 ph:PhOk N
theorem NOk.pw {N:Nd}(h:NOk H N):Pw N.len:=h.tg.ok.pow
theorem kind_each {N:Nd}(h:Pw N.len)(hk:KindOk N):Pw N.each∧(N.many=1∨N.many=2)∧N.each*N.many≤2*N.len∧N.len≤N.each*N.many∧
  (N.kind=1∧N.each=N.len∧N.many=1∨N.kind=2∧N.each=2*N.len∧N.many=1∨N.kind=3∧N.each=N.len∧N.many=2):=by
 unfold Nd.each Nd.many
 rcases hk with h1|⟨h1,h2⟩|⟨h1,h2,h3⟩<;>rw[h1]<;>simp
 ·exact⟨h,by omega⟩
 ·refine⟨?_,by omega⟩;unfold Pw at h⊢;omega
 ·exact⟨h,by omega⟩
section
variable {n d k s L l kind : Nat}
theorem room_fresh {N:Nd}(hn:Pw N.len)(hd:N.dpt≤5)(hb:N.dpt=0∨8≤N.len)(hk:KindOk N)(hs:s≤3*N.len+8):rRoom N.kind N.len N.dpt+s/8≤7*N.each:=by
 unfold Nd.each;revert hk hb hn hd hs;unfold KindOk;generalize N.len=n;generalize N.dpt=d;intro hn hd hb hk hs
 rcases hk with h1|⟨h1,h2⟩|⟨h1,h2,h3⟩<;>rw[h1]<;>unfold rRoom mRoom<;>simp
 ·rcases hn with rfl|rfl|rfl|rfl|rfl|rfl|rfl<;>simp<;>omega
 ·rcases hb with rfl|hb<;>rcases hn with rfl|rfl|rfl|rfl|rfl|rfl|rfl<;>simp at* <;>omega
 ·rcases hn with rfl|rfl|rfl|rfl|rfl|rfl|rfl<;>simp at* <;>omega
end
def mtr0:Mtr:=⟨⟨0,0,0⟩,⟨0,0,0⟩⟩
def Nd.step (N:Nd):Nd:=match N.ph with
 | .idle=>N
 | .bld k=>{N with sl:=N.sl-1,ph:=if k+1=N.each*N.many then .mov (List.replicate N.many (prepT N.each N.each)) 0 else .bld (k+1)}
 | .mov Ts next=>{N with sl:=N.sl-1,T:=takeN N.T next 8,ph:= .mov (moveL N.many N.dpt (mtr0,Ts) (entsG (N.T.gs.getD next []))).2 (next+1)}
structure Like (N N':Nd):Prop where
 pfx:N'.pfx=N.pfx
 dpt:N'.dpt=N.dpt
 kind:N'.kind=N.kind
 len:N'.len=N.len
 busy:N'.ph.busy=N.ph.busy
theorem Like.each {N N':Nd}(h:Like N N'):N'.each=N.each:=by unfold Nd.each;rw[h.kind,h.len]
theorem Like.many {N N':Nd}(h:Like N N'):N'.many=N.many:=by unfold Nd.many;rw[h.kind]
theorem Like.groups {N N':Nd}(h:Like N N'):N'.groups=N.groups:=by unfold Nd.groups;rw[h.busy,h.each,h.many,h.len]
theorem Like.kindOk {N N':Nd}(h:Like N N')(hk:KindOk N):KindOk N':=by unfold KindOk at*;rw[h.kind,h.len,h.dpt];exact hk
theorem Like.refl (N:Nd):Like N N:=⟨rfl,rfl,rfl,rfl,rfl⟩
theorem Like.trans {N N' N2:Nd}(h:Like N N')(k:Like N' N2):Like N N2:=⟨k.pfx.trans h.pfx,k.dpt.trans h.dpt,k.kind.trans h.kind,k.len.trans h.len,k.busy.trans h.busy⟩
theorem step_like (N:Nd):Like N N.step:=by
 unfold Nd.step
 cases h:N.ph with
 |idle=>exact Like.refl N
 |bld k=>exact⟨rfl,rfl,rfl,rfl,by simp only;rw[h];split<;>rfl⟩
 |mov Ts next=>exact⟨rfl,rfl,rfl,takeN_length _ _ _,by rw[h];rfl⟩
theorem NOk.fits {N:Nd}(h:NOk H N){Ts:List TabM}{next:Nat}(hp:N.ph= .mov Ts next)(hn:next<N.len)(x:Mtr):
  Fits N.many N.dpt Ts (entsG (N.T.gs.getD next []))∧FrOk N.many N.each N.dpt (moveL N.many N.dpt (x,Ts) (entsG (N.T.gs.getD next []))).2∧(entsTs (moveL N.many N.dpt (x,Ts) (entsG (N.T.gs.getD next []))).2).Perm (entsG (N.T.gs.getD next [])++entsTs Ts)∧
   loads (moveL N.many N.dpt (x,Ts) (entsG (N.T.gs.getD next []))).2≤loads Ts+(entsG (N.T.gs.getD next [])).length∧∃c,(moveL N.many N.dpt (x,Ts) (entsG (N.T.gs.getD next []))).1=x.add cV c:=by
 have hph:=h.ph;unfold PhOk at hph;rw[hp]at hph;obtain⟨h1,h2,h3,h4,h5⟩:=hph;obtain⟨k1,k2,k3,k4,_⟩:=kind_each h.pw h1;obtain⟨t1,t2,t3⟩:=tg_take8 h.tg hn;have hsl:=h.sl;have hB:=room_fresh h.pw h.deep h.big h1 (s:=N.each*N.many+next+N.sl) (by omega);have hlen:=t3.length_eq;rw[List.length_append]at hlen
 have hents:N.ents=entsTs Ts++entsT N.T.gs:=by unfold Nd.ents;rw[hp];rfl
 have hpe:N.ents.Perm ((entsG (N.T.gs.getD next [])++entsTs Ts)++entsT (takeN N.T next 8).gs):=by
  rw[hents];refine(t3.append_left _).trans ?_;rw[←List.append_assoc];exact List.perm_append_comm.append_right _
 refine moves k2 hB _ Ts x h3 ?_ (fun e he=> ?_) (by omega)
 ·have:=(hpe.map Ent.key).nodup_iff.1 h.keys;rw[List.map_append]at this;exact(List.nodup_append.1 this).1
 ·exact(h.hash e (hpe.mem_iff.2 (List.mem_append_left _ (List.mem_append_left _ he)))).1.h64
theorem step_ents {N:Nd}(h:NOk H N)(hl:1≤N.left):N.step.ents.Perm N.ents:=by
 cases hp:N.ph with
 |idle=>unfold Nd.left at hl;rw[hp]at hl;simp at hl
 |bld k=>
  have hph:=h.ph;unfold PhOk at hph;rw[hp]at hph;unfold Nd.step Nd.ents;rw[hp];simp only;split
  ·rw[show frs (Phase.mov (List.replicate N.many (prepT N.each N.each)) 0)=List.replicate N.many (prepT N.each N.each)from rfl,(frOk_bare (m:=N.many) (d:=N.dpt) (kind_each h.pw hph.1).1).2.1];exact .refl _
  ·exact .refl _
 |mov Ts next=>
  have hn:next<N.len:=by unfold Nd.left at hl;rw[hp]at hl;simp only at hl;omega
  obtain⟨_,_,h3,_⟩:=h.fits hp hn mtr0;obtain⟨_,_,t3⟩:=tg_take8 h.tg hn;unfold Nd.step Nd.ents;rw[hp];show(entsTs (moveL N.many N.dpt (mtr0,Ts) (entsG (N.T.gs.getD next []))).2++entsT (takeN N.T next 8).gs).Perm (entsTs Ts++entsT N.T.gs);refine(h3.append_right _).trans (List.Perm.trans ?_ (t3.symm.append_left _));rw[←List.append_assoc];exact List.perm_append_comm.append_right _
theorem step_left {N:Nd}(h:NOk H N)(hl:1≤N.left):N.step.left+1=N.left:=by
 have hL:=step_like N;unfold Nd.left at hl⊢;rw[hL.len,hL.each,hL.many]
 cases hp:N.ph with
 |idle=>rw[hp]at hl;simp at hl
 |bld k=>
  have hph:=h.ph;unfold PhOk at hph;rw[hp]at hph;obtain⟨_,hk,_⟩:=hph;by_cases h1:k+1=N.each*N.many
  ·have hP:N.step.ph= .mov (List.replicate N.many (prepT N.each N.each)) 0:=by unfold Nd.step;rw[hp];simp only;rw[if_pos h1]
   rw[hP];show N.len-0+1=N.len+(N.each*N.many-k);omega
  ·have hP:N.step.ph= .bld (k+1):=by unfold Nd.step;rw[hp];simp only;rw[if_neg h1]
   rw[hP];show N.len+(N.each*N.many-(k+1))+1=N.len+(N.each*N.many-k);omega
 |mov Ts next=>
  rw[hp]at hl;unfold Nd.step;rw[hp];simp only at hl⊢;omega
theorem step_ok {N:Nd}(h:NOk H N)(hl:1≤N.left):NOk H N.step:=by
 have hL:=step_like N;have hE:=step_ents h hl
 have hsl:N.step.sl=N.sl-1:=by
  unfold Nd.step
  cases hp:N.ph with
  |idle=>unfold Nd.left at hl;rw[hp]at hl;simp at hl
  |_=>rfl
 refine⟨?_,by rw[hL.dpt];exact h.deep,by rw[hL.dpt,hL.len];exact h.big,by rw[hL.dpt,hL.pfx];exact h.pfx,by rw[hsl];have:=h.sl;omega,(hE.map Ent.key).nodup_iff.2 h.keys,fun e he=>by rw[hL.dpt,hL.pfx];exact h.hash e (hE.mem_iff.1 he),by rw[hE.length_eq];exact h.few, ?_⟩
 ·cases hp:N.ph with
  |idle=>unfold Nd.left at hl;rw[hp]at hl;simp at hl
  |bld k=>
   have hT:N.step.T=N.T:=by unfold Nd.step;rw[hp]
   rw[hT];exact h.tg
  |mov Ts next=>
   have hn:next<N.len:=by unfold Nd.left at hl;rw[hp]at hl;simp only at hl;omega
   have hT:N.step.T=takeN N.T next 8:=by unfold Nd.step;rw[hp]
   rw[hT];exact(tg_take8 h.tg hn).1
 ·have hph:=h.ph;have hs:=h.sl;unfold PhOk at hph⊢;rw[hL.len,hL.each,hL.many,hL.kind,hL.dpt,hsl]
  cases hp:N.ph with
  |idle=>unfold Nd.left at hl;rw[hp]at hl;simp at hl
  |bld k=>
   rw[hp]at hph;obtain⟨h1,h2,h3,h4⟩:=hph
   have hT:N.step.T=N.T:=by unfold Nd.step;rw[hp]
   rw[hT];by_cases hk:k+1=N.each*N.many
   ·have hP:N.step.ph= .mov (List.replicate N.many (prepT N.each N.each)) 0:=by unfold Nd.step;rw[hp];simp only;rw[if_pos hk]
    rw[hP];obtain⟨b1,b2,b3⟩:=frOk_bare (m:=N.many) (n:=N.each) (d:=N.dpt) (kind_each h.pw h1).1;refine⟨hL.kindOk h1,Nat.zero_le _,b1,fun _ _ _ _=>Nat.zero_le _, ?_⟩;rw[b3,←hk];omega
   ·have hP:N.step.ph= .bld (k+1):=by unfold Nd.step;rw[hp];simp only;rw[if_neg hk]
    rw[hP];exact⟨hL.kindOk h1,by omega,by omega,by omega⟩
  |mov Ts next=>
   rw[hp]at hph
   have hn:next<N.len:=by unfold Nd.left at hl;rw[hp]at hl;simp only at hl;omega
   obtain⟨h1,h2,h3,h4,h5⟩:=hph;obtain⟨_,f2,_,f4,_⟩:=h.fits hp hn mtr0;obtain⟨_,t2,t3⟩:=tg_take8 h.tg hn
   have hT:N.step.T=takeN N.T next 8:=by unfold Nd.step;rw[hp]
   have hP:N.step.ph= .mov (moveL N.many N.dpt (mtr0,Ts) (entsG (N.T.gs.getD next []))).2 (next+1):=by unfold Nd.step;rw[hp]
   rw[hT,hP];have hlen:=t3.length_eq;rw[List.length_append]at hlen;refine⟨hL.kindOk h1,by omega,f2,fun i s e he=> ?_,by omega⟩;obtain⟨a,b⟩:=(t2 i s e).1 he;have:=h4 i s e a;omega
end
section
variable {H : Nat → Nat} {add del l : List Ent} {X Y : TabM} {Ts : List TabM} {gl key next : Nat} {e : Ent}
def Nd.setT (N:Nd)(X:TabM)(s:Nat):Nd:={N with T:=X,sl:=s}
def Nd.setF (N:Nd)(Ts:List TabM)(next j:Nat)(X:TabM)(s:Nat):Nd:={N with ph:= .mov (Ts.set j X) next,sl:=s}
structure Wr (H:Nat→Nat)(del add:List Ent)(N N':Nd):Prop where
 like:Like N N'
 left:N'.left=N.left
 chg:Chg del add N.ents N'.ents
 ok:NOk H N'
 sl:add.length≤del.length→N'.sl=N.sl
 ld:N.ph= .idle→load N'.T≤load N.T+(add.length-del.length)
structure AddOk (H:Nat→Nat)(N:Nd)(del add:List Ent):Prop where
 hash:∀e∈add,EntOk H e∧topOf e.hash N.dpt=N.pfx
 keys:∀rest,N.ents.Perm (del++rest)→((add++rest).map Ent.key).Nodup
 few:N.ents.length+add.length≤192+del.length
 one:add.length≤del.length∨add.length=1∧del=[]∧N.sl=0
def slk (del add:List Ent)(s:Nat):Nat:=if del.length<add.length then 8 else s
theorem Wr.of {N N':Nd}(h:NOk H N)(ha:AddOk H N del add)(hL:Like N N')(hl:N'.left=N.left)(hc:Chg del add N.ents N'.ents)(ht:TG N'.T)(hs:N'.sl=slk del add N.sl)(hld:N.ph= .idle→load N'.T≤load N.T+(add.length-del.length))(hp:PhOk N'):Wr H del add N N':=by
 refine⟨hL,hl,hc,⟨ht,by rw[hL.dpt];exact h.deep,by rw[hL.dpt,hL.len];exact h.big,by rw[hL.dpt,hL.pfx];exact h.pfx, ?_, ?_,fun e he=> ?_, ?_,hp⟩,fun hh=>by rw[hs];unfold slk;rw[if_neg (by omega)],hld⟩
 ·rw[hs];unfold slk;have:=h.sl;split<;>omega
 ·obtain⟨r,h1,h2⟩:=hc;exact(h2.map Ent.key).nodup_iff.2 (ha.keys r h1)
 ·rw[hL.dpt,hL.pfx];rcases hc.mem he with h1|h1
  ·exact ha.hash e h1
  ·exact h.hash e h1
 ·have:=hc.len;have:=ha.few;omega
def Nd.start (N:Nd)(kind:Nat):Nd:={N with kind:=kind,sl:=8,ph:= .bld 0}
theorem ended {N:Nd}(h:NOk H N)(hb:N.ph.busy=true)(hl:N.left=0):∃Ts,N.ph= .mov Ts N.len∧entsT N.T.gs=[]:=by
 have hph:=h.ph;unfold PhOk at hph;have hpos:=h.pw.pos;unfold Nd.left at hl
 cases hp:N.ph with
 |idle=>rw[hp]at hb;cases hb
 |bld k=>rw[hp]at hl;simp only at hl;omega
 |mov Ts next=>
  rw[hp]at hl hph;simp only at hl;obtain⟨h1,h2,h3,h4,h5⟩:=hph
  obtain rfl:next=N.len:=by omega
  refine⟨Ts,rfl,List.eq_nil_iff_forall_not_mem.2 fun e he=> ?_⟩;obtain⟨i,s,hs⟩:=mem_entsT.1 he;have:=h4 i s e hs;have:=(slotAt_lt (gs:=N.T.gs) (i:=i) (s:=s) (by rw[hs];exact fun h=>by cases h)).1;unfold Nd.len at*;omega
def look (l:List Ent)(key:Nat):Option Ent:=l.find? fun e=>e.key==key
theorem look_some (hn:(l.map Ent.key).Nodup)(he:e∈l):look l e.key=some e:=by
 unfold look
 cases hf:l.find? (fun x=>x.key==e.key)with
 |none=>exact absurd (List.find?_eq_none.1 hf e he) (by simp)
 |some x=>
  have h1:=List.mem_of_find?_eq_some hf;have h2:=List.find?_some hf;simp at h2;congr 1;obtain⟨i,hi,rfl⟩:=List.getElem_of_mem h1;obtain⟨j,hj,rfl⟩:=List.getElem_of_mem he
  have h3:(l.map Ent.key)[i]'(by simpa using hi)=(l.map Ent.key)[j]'(by simpa using hj):=by simpa using h2
  have h4:=(List.getElem_inj hn).1 h3;subst h4;rfl
end
end Go.Proofs.YtfbljmcjadfkoaaGreatDoor
