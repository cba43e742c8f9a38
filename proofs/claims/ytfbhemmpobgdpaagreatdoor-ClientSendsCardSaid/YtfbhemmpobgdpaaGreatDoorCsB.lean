/- ClientSends: lemmas, from 'A machine of symbols: slots, the blocks of a call, what its ' on; what each asks for stands in it. -/
import Derived.Test.YtfbhemmpobgdpaaGreatDoorCsA
import Derived.Defers
import Derived.Scope
import Derived.Deep.MidRow
set_option linter.all false
set_option maxRecDepth 100000
set_option maxHeartbeats 64000000
namespace Go.Proofs.YtfbhemmpobgdpaaGreatDoor
inductive SC where
  | v (x : Value)
  | p (k off : Nat)
  | s (k off len cap : Nat)
inductive TV where
  | c (x : SC)
  | g (cs : List SC)
inductive SV where
  | c (x : SC)
  | g (cs : List SC)
  | t (vs : List TV)
def nm (β:List Nat) (k:Nat):Nat:=β.getD k 0
def SC.den (β:List Nat):SC->Value
 | .v x=>x
 | .p k o=>.pointer (some ⟨nm β k,o,none⟩)
 | .s k o l c=>.slice (some ⟨nm β k,o,none⟩) l c
def DG (β:List Nat) (cs:List SC):List Value:=cs.map (SC.den β)
def TV.den (β:List Nat):TV->Value
 | .c x=>x.den β
 | .g cs=>.agg (DG β cs).toArray
def SV.den (β:List Nat):SV->Value
 | .c x=>x.den β
 | .g cs=>.agg (DG β cs).toArray
 | .t vs=>.tuple (vs.map (TV.den β)).toArray
def SC.wf (m:Nat):SC->Bool
 | .v _=>true
 | .p k _=>Nat.blt k m
 | .s k _ _ _=>Nat.blt k m
def TV.wf (m:Nat):TV->Bool
 | .c x=>x.wf m
 | .g cs=>cs.all (SC.wf m)
def SV.wf (m:Nat):SV->Bool
 | .c x=>x.wf m
 | .g cs=>cs.all (SC.wf m)
 | .t vs=>vs.all (TV.wf m)
inductive Slots where
  | vals (f : Nat -> Value)
  | put (d : Nat) (v : SV) (l : Slots)
  | dfr (ds : List Deferred) (l : Slots)
def Slots.at:Slots->Nat->SV
 | .vals f,i=>.c (.v (f i))
 | .dfr _ l,i=>l.at i
 | .put d v l,i=>match Nat.beq i d with
  |true=>v
  |false=>l.at i
def Slots.ds:Slots->List Deferred
 | .vals _=>[]
 | .put _ _ l=>l.ds
 | .dfr ds _=>ds
def Slots.wf (m:Nat):Slots->Bool
 | .vals _=>true
 | .dfr _ l=>l.wf m
 | .put _ v l=>v.wf m&&l.wf m
def fr (n:Nat) (β:List Nat) (sl:Slots):Act:=⟨((List.range n).map fun i=>(sl.at i).den β).toArray,sl.ds⟩
def evS (n:Nat) (sl:Slots):Operand->SV
 | .tmp t=>match Nat.blt t n with
  |true=>sl.at t
  |false=>.c (.v undef)
 | .const v=>.c (.v v)
 | .global g=>.c (.v (.pointer (some ⟨g,0,none⟩)))
 | .func f=>.c (.v (.func (.func f) #[] #[]))
theorem DI {a b:Nat}:Nat.blt a b=true↔a<b:=by unfold Nat.blt;rw[Nat.ble_eq];exact Iff.rfl
theorem blt_false {a b:Nat}:Nat.blt a b=false↔¬a<b:=by rw[<-DI];cases Nat.blt a b<;>simp
theorem fr_get (n:Nat) (β:List Nat) (sl:Slots) (i:Nat) (h:i<n):(fr n β sl).tmps.getD i undef=(sl.at i).den β:=by
 simp[fr,Array.getD,h]
theorem fr_out (n:Nat) (β:List Nat) (sl:Slots) (i:Nat) (h: ¬i<n):(fr n β sl).tmps.getD i undef=undef:=by
 simp[fr,Array.getD,h]
theorem fF (n:Nat) (β:List Nat) (sl:Slots) (x:Operand):(fr n β sl).eval x=(evS n sl x).den β:=by
 cases x with
 |tmp t=>
  show(fr n β sl).tmps.getD t undef=_;by_cases h:t<n
  ·rw[fr_get _ _ _ _ h];simp[evS,DI.2 h]
  ·rw[fr_out _ _ _ _ h];simp[evS,blt_false.2 h,SV.den,SC.den]
 |const v=>rfl
 |global g=>rfl
 |func f=>rfl
theorem EO (n:Nat) (β:List Nat) (sl:Slots):(fr n β sl).eval=fun x=>(evS n sl x).den β:=funext (fF n β sl)
theorem NQ {a b:Nat}:Nat.beq a b=true↔a=b:=⟨Nat.eq_of_beq_eq_true,fun h=>by subst h;exact Nat.beq_refl a⟩
theorem ZX {a b:Nat}:Nat.beq a b=false↔¬a=b:=by rw[<-NQ];cases Nat.beq a b<;>simp
theorem Slots.at_put (d:Nat) (v:SV) (l:Slots) (i:Nat):(Slots.put d v l).at i=if i=d then v else l.at i:=by
 by_cases h:i=d
 ·simp[Slots.at,NQ.2 h,h]
 ·simp[Slots.at,ZX.2 h,h]
def TO (dst:Option Tmp) (v:SV) (sl:Slots):Slots:=match dst with
 |some d=>.put d v sl
 |none=>sl
theorem EZ (n:Nat) (β:List Nat) (sl:Slots) (dst:Option Tmp) (v:SV):(fr n β sl).put dst (v.den β)=fr n β (TO dst v sl):=by
 cases dst with
 |none=>rfl
 |some d=>
  show Act.mk _ _=Act.mk _ _;congr 1
  apply Array.ext;·simp[fr]
  ·intro i h1 h2;simp[fr] at h1;simp only[fr,TO,List.getElem_toArray,List.getElem_map,List.getElem_range,Slots.at_put,Array.getElem_setIfInBounds,List.setIfInBounds_toArray,List.getElem_set];by_cases hi:d=i
   ·subst hi;simp
   ·simp[hi,Ne.symm hi]
theorem DW {m:Nat} {dst:Option Tmp} {v:SV} {sl:Slots} (h:sl.wf m=true) (hv:v.wf m=true):(TO dst v sl).wf m=true:=by
 cases dst;·exact h
 ·simp[TO,Slots.wf,h,hv]
/-! More names. -/
theorem NV (β ν:List Nat) (k:Nat) (h:k<β.length):nm (β++ν) k=nm β k:=by
 simp[nm,List.getD,List.getElem?_append_left h]
theorem SC.den_app {β:List Nat} (ν:List Nat) {x:SC} (h:x.wf β.length=true):x.den (β++ν)=x.den β:=by
 cases x with
 |v x=>rfl
 |p k o=>simp only[SC.wf,DI] at h;simp[SC.den,NV β ν k h]
 |s k o l c=>simp only[SC.wf,DI] at h;simp[SC.den,NV β ν k h]
theorem RH {β:List Nat} (ν:List Nat) {cs:List SC} (h:cs.all (SC.wf β.length)=true):DG (β++ν) cs=DG β cs:=
 List.map_congr_left fun x hx=>SC.den_app ν (List.all_eq_true.1 h x hx)
theorem TV.den_app {β:List Nat} (ν:List Nat) {x:TV} (h:x.wf β.length=true):x.den (β++ν)=x.den β:=by
 cases x with
 |c x=>exact SC.den_app ν h
 |g cs=>simp only[TV.den,RH ν h]
theorem SV.den_app {β:List Nat} (ν:List Nat) {x:SV} (h:x.wf β.length=true):x.den (β++ν)=x.den β:=by
 cases x with
 |c x=>exact SC.den_app ν h
 |g cs=>simp only[SV.den,RH ν h]
 |t vs=>simp only[SV.den];rw[List.map_congr_left fun x hx=>TV.den_app ν (List.all_eq_true.1 h x hx)]
theorem Slots.wf_at {m:Nat}: ∀{sl:Slots},sl.wf m=true->∀i,(sl.at i).wf m=true
 | .vals f,_,i=>rfl
 | .dfr _ l,h,i=>Slots.wf_at (sl:=l) h i
 | .put d v l,h,i=>by
  simp only[Slots.wf,Bool.and_eq_true] at h;rw[Slots.at_put];split;·exact h.1
  ·exact Slots.wf_at h.2 i
theorem dD (n:Nat) {β:List Nat} (ν:List Nat) {sl:Slots} (h:sl.wf β.length=true):fr n (β++ν) sl=fr n β sl:=by
 unfold fr;congr 2
 exact List.map_congr_left fun i _=>SV.den_app ν (Slots.wf_at h i)
theorem SC.wf_mono {m m':Nat} (hm:m<=m') {x:SC} (h:x.wf m=true):x.wf m'=true:=by
 cases x with
 |v x=>rfl
 |p k o=>simp only[SC.wf,DI] at *;omega
 |s k o l c=>simp only[SC.wf,DI] at *;omega
theorem TV.wf_mono {m m':Nat} (hm:m<=m') {x:TV} (h:x.wf m=true):x.wf m'=true:=by
 cases x with
 |c x=>exact SC.wf_mono hm h
 |g cs=>exact List.all_eq_true.2 fun x hx=>SC.wf_mono hm (List.all_eq_true.1 h x hx)
theorem SV.wf_mono {m m':Nat} (hm:m<=m') {x:SV} (h:x.wf m=true):x.wf m'=true:=by
 cases x with
 |c x=>exact SC.wf_mono hm h
 |g cs=>exact List.all_eq_true.2 fun x hx=>SC.wf_mono hm (List.all_eq_true.1 h x hx)
 |t vs=>exact List.all_eq_true.2 fun x hx=>TV.wf_mono hm (List.all_eq_true.1 h x hx)
theorem Slots.wf_mono {m m':Nat} (hm:m<=m'): ∀{sl:Slots},sl.wf m=true->sl.wf m'=true
 | .vals _,_=>rfl
 | .dfr _ l,h=>Slots.wf_mono (sl:=l) hm h
 | .put d v l,h=>by
  simp only[Slots.wf,Bool.and_eq_true] at *;exact⟨SV.wf_mono hm h.1,Slots.wf_mono hm h.2⟩
/-! Blocks. -/
inductive HB where
  | no
  | b (wr : Bool) (T : TypeId) (cs : List SC)
  | r (wr : Bool) (T : TypeId) (vs : List Value)
  | s (A : Option Addr) (cap n E size : Nat) (vs : List Value)
  | q (wr : Bool) (A : Option Addr) (Q : World -> Prop) (st : ∀ w w' : World, (∀ a, A = some a -> w'.heap[a.block]? = w.heap[a.block]?) -> w.heap.size <= w'.heap.size -> Q w -> Q w')
def HB.cs:HB->List SC
 | .b _ _ cs=>cs
 | .r _ _ vs=>vs.map .v
 |_=>[]
def HB.wr:HB->Bool
 | .no=>false
 | .b w _ _=>w
 | .r w _ _=>w
 | .s .. =>true
 | .q w .. =>w
def HB.live:HB->Bool
 | .b .. =>true
 | .r .. =>true
 |_=>false
def HB.blk (b:Nat):HB->Option Nat
 | .no=>none
 | .b .. =>some b
 | .r .. =>some b
 | .s A .. =>A.map (·.block)
 | .q _ A .. =>A.map (·.block)
def HB.wf (m:Nat):HB->Bool
 | .b _ _ cs=>cs.all (SC.wf m)
 |_=>true
def HB.lies (w:World) (β:List Nat) (b:Nat):HB->Prop
 | .no=>True
 | .b _ T cs=>Blk w b T (DG β cs)
 | .r _ T vs=>Blk w b T vs
 | .s A cap n E size vs=>w.ownsRow 0 E size (.slice A n cap) n vs
 | .q _ A Q _=>Q w/\∀a,A=some a->a.block<w.heap.size
theorem cX (β:List Nat) (vs:List Value):DG β (vs.map .v)=vs:=by simp[DG,SC.den,Function.comp_def]
theorem HB.lies_blk {w:World} {β:List Nat} {b:Nat} {h:HB} (hl:h.lies w β b) (ha:h.live=true): ∃T,Blk w b T (DG β h.cs):=by
 cases h with
 |no=>cases ha
 |s=>cases ha
 |q=>cases ha
 |b w T cs=>exact⟨T,hl⟩
 |r w T vs=>refine⟨T,?_⟩;simp only[HB.cs,cX];exact hl
theorem HB.lies_app {w:World} {β:List Nat} (ν:List Nat) {b:Nat} {h:HB} (hw:h.wf β.length=true):h.lies w (β++ν) b↔h.lies w β b:=by
 cases h with
 |no=>exact Iff.rfl
 |s=>exact Iff.rfl
 |q=>exact Iff.rfl
 |b w T cs=>simp only[HB.lies,RH ν hw]
 |r w T vs=>exact Iff.rfl
theorem HB.lies_lt {w:World} {β:List Nat} {b x:Nat} {h:HB} (hl:h.lies w β b) (hx:h.blk b=some x):x<w.heap.size:=by
 cases h with
 |no=>cases hx
 |b _ T cs=>simp only[HB.blk,Option.some.injEq] at hx;subst hx;exact Blk.lt hl
 |r _ T vs=>simp only[HB.blk,Option.some.injEq] at hx;subst hx;exact Blk.lt hl
 |q wr A Q st=>
  cases A with
  |none=>cases hx
  |some a=>simp only[HB.blk,Option.map_some,Option.some.injEq] at hx;subst hx;exact hl.2 a rfl
 |s A cap n E size vs=>
  obtain⟨_,⟨e,_⟩|⟨g,c,cur,e,_,hg,_⟩⟩:=hl;·injection e with e1;subst e1;cases hx
  ·injection e with e1;subst e1;simp only[HB.blk,Option.map_some,Option.some.injEq] at hx;subst hx;exact(Array.getElem?_eq_some_iff.1 hg).1
theorem HB.lies_only {w w':World} {L' β:List Nat} {b:Nat} {h:HB} (hl:h.lies w β b) (O:Only L' w w') (hx: ∀x,h.blk b=some x->x∉L'):h.lies w' β b:=by
 cases h with
 |no=>trivial
 |b _ T cs=>exact Blk.only (L:=L') hl O (hx _ rfl)
 |r _ T vs=>exact Blk.only (L:=L') hl O (hx _ rfl)
 |q wr A Q st=>
  refine⟨st w w' (fun a ha=>O.block a.block (hl.2 a ha) (hx _ ?_)) O.size hl.1,fun a ha=>zT (hl.2 a ha) O.size⟩;subst ha;rfl
 |s A cap n E size vs=>
  obtain⟨h1,h2|⟨g,c,cur,e,h3,hg,h4⟩⟩:=hl;·exact⟨h1,.inl h2⟩
  ·have e':=e;injection e with e1;refine⟨h1,.inr ⟨g,c,cur,e',h3,(O.block g (Array.getElem?_eq_some_iff.1 hg).1 (hx g ?_)).trans hg,h4⟩⟩;subst e1;rfl
structure Mem (w0 : World) (L : List Nat) (β : List Nat) (hp : List HB) (w : World) : Prop where
  only : Only L w0 w
  len : β.length = hp.length
  lies : ∀ (k : Nat) (h : HB), hp[k]? = some h -> h.lies w β (nm β k)
  own : ∀ (k : Nat) (h : HB) (x : Nat), hp[k]? = some h -> h.wr = true -> h.blk (nm β k) = some x -> x ∈ L \/ w0.heap.size <= x
  inj : ∀ (i j : Nat) (hi hj : HB) (x : Nat), hp[i]? = some hi -> hp[j]? = some hj -> hi.blk (nm β i) = some x -> hj.blk (nm β j) = some x -> i = j
theorem RV (β:List Nat) (b:Nat):nm (β++[b]) β.length=b:=by simp[nm,List.getD]
theorem Mem.push {w0 w w':World} {L β:List Nat} {hp:List HB} (H:Mem w0 L β hp w) (hw:hp.all (HB.wf β.length)=true) (O:Only [] w w') {b:Nat} {h:HB} (hb: ∀x,h.blk b=some x->w.heap.size<=x) (hl:h.lies w' (β++[b]) b):Mem w0 L (β++[b]) (hp++[h]) w':=by
 have hget: ∀k x,(hp++[h])[k]? = some x->(k<hp.length/\hp[k]? = some x)\/(k=hp.length/\x=h):=by
  intro k x hk;rcases Nat.lt_or_ge k hp.length with hlt|hge;·rw[List.getElem?_append_left hlt] at hk;exact .inl ⟨hlt,hk⟩
  ·rw[List.getElem?_append_right hge] at hk;have h0:k-hp.length=0:=by
    rcases Nat.eq_zero_or_pos (k-hp.length) with h1|h1;·exact h1
    ·rw[List.getElem?_eq_none (by simp;omega)] at hk;cases hk
   rw[h0] at hk;exact .inr ⟨by omega,by simpa using hk.symm⟩
 have hsz:=O.size;have h0:=H.only.size;refine⟨H.only.trans O (by simp),by simp[H.len],fun k x hk=>?_,fun k x y hk hwr hy=>?_,fun i j hi hj x ei ej li lj=>?_⟩
 ·rcases hget k x hk with⟨hlt,hk⟩|⟨rfl,rfl⟩
  ·rw[NV _ _ _ (by rw[H.len];exact hlt)];rw[HB.lies_app _ (List.all_eq_true.1 hw x (qE hk))];exact HB.lies_only (H.lies k x hk) O (by simp)
  ·rw[<-H.len,RV];exact hl
 ·rcases hget k x hk with⟨hlt,hk⟩|⟨rfl,rfl⟩;·rw[NV _ _ _ (by rw[H.len];exact hlt)] at hy;exact H.own k x y hk hwr hy
  ·rw[<-H.len,RV] at hy;have:=hb y hy;exact .inr (by omega)
 ·rcases hget i hi ei with⟨hlt,ei'⟩|⟨rfl,rfl⟩
  ·rw[NV _ _ _ (by rw[H.len];exact hlt)] at li;rcases hget j hj ej with⟨hlt2,ej'⟩|⟨rfl,rfl⟩
   ·rw[NV _ _ _ (by rw[H.len];exact hlt2)] at lj;exact H.inj i j hi hj x ei' ej' li lj
   ·rw[<-H.len,RV] at lj;have h1:=HB.lies_lt (H.lies i hi ei') li;have h2:=hb x lj;omega
  ·rw[<-H.len,RV] at li;rcases hget j hj ej with⟨hlt2,ej'⟩|⟨rfl,rfl⟩
   ·rw[NV _ _ j (by rw[H.len];exact hlt2)] at lj;have h1:=HB.lies_lt (H.lies j hj ej') lj;have h2:=hb x li;omega
   ·rfl
theorem Mem.turn {w0 w w':World} {L L' β:List Nat} {hp hp':List HB} (H:Mem w0 L β hp w) (O:Only L' w w') (hL: ∀x∈L',x∈L\/w0.heap.size<=x) (hlen:hp'.length=hp.length)
  (hh: ∀(k:Nat) (h':HB),hp'[k]? = some h'->h' = .no\/(hp[k]? = some h'/\(∀x,h'.blk (nm β k)=some x->x∉L'))\/(∃h:HB,hp[k]? = some h/\h.blk (nm β k)=h'.blk (nm β k)/\h.wr=h'.wr/\h'.lies w' β (nm β k))):Mem w0 L β hp' w':=by
 refine⟨H.only.trans O hL,by rw[hlen,H.len],fun k x hk=>?_,fun k x y hk hwr hy=>?_,fun i j hi hj x ei ej li lj=>?_⟩
 ·rcases hh k x hk with rfl|⟨h1,h2⟩|⟨h,_,_,_,hl⟩;·trivial
  ·exact HB.lies_only (H.lies k x h1) O h2
  ·exact hl
 ·rcases hh k x hk with rfl|⟨h1,h2⟩|⟨h,h1,h2,h3,hl⟩;·cases hwr
  ·exact H.own k x y h1 hwr hy
  ·exact H.own k h y h1 (h3.trans hwr) (h2.trans hy)
 ·have key: ∀(k:Nat) (y:HB),hp'[k]? = some y->y.blk (nm β k)=some x->∃h:HB,hp[k]? = some h/\h.blk (nm β k)=some x:=fun k y hk hl=>by
   rcases hh k y hk with rfl|⟨h1,_⟩|⟨h,h1,h2,_⟩;·cases hl
   ·exact⟨y,h1,hl⟩
   ·exact⟨h,h1,h2.trans hl⟩
  obtain⟨a,ha,la⟩:=key i hi ei li;obtain⟨c,hc,lc⟩:=key j hj ej lj;exact H.inj i j a c x ha hc la lc
theorem Mem.swap {w0 w w':World} {L L' β:List Nat} {hp:List HB} (H:Mem w0 L β hp w) (k0:Nat) {h0 h1:HB} (hk0:hp[k0]? = some h0) (O:Only L' w w') (hL': ∀x∈L',h0.blk (nm β k0)=some x) (hw0:h0.wr=true) (hl:h1.lies w' β (nm β k0)) (hb: ∀x,h1.blk (nm β k0)=some x->h0.blk (nm β k0)=some x\/w.heap.size<=x):Mem w0 L β (hp.set k0 h1) w':=by
 have hkl:=(List.getElem?_eq_some_iff.1 hk0).1;have hsz:=O.size;have hsz0:=H.only.size;have hget: ∀(k:Nat) (x:HB),(hp.set k0 h1)[k]? = some x->(k=k0/\x=h1)\/(k≠k0/\hp[k]? = some x):=fun k x hk=>by
  rw[List.getElem?_set] at hk;split at hk
  ·rename_i e;subst e;simp only[hkl,if_true,Option.some.injEq] at hk;exact .inl ⟨rfl,hk.symm⟩
  ·rename_i e;exact .inr ⟨fun h=>e h.symm,hk⟩
 refine⟨H.only.trans O fun x hx=>H.own k0 h0 x hk0 hw0 (hL' x hx),by simp[H.len],fun k x hk=>?_,fun k x y hk hwr hy=>?_,fun i j hi hj x ei ej li lj=>?_⟩
 ·rcases hget k x hk with⟨rfl,rfl⟩|⟨hne,hk⟩;·exact hl
  ·refine HB.lies_only (H.lies k x hk) O fun y hy hm=>hne (H.inj k k0 x h0 y hk hk0 hy (hL' y hm))
 ·rcases hget k x hk with⟨rfl,rfl⟩|⟨hne,hk⟩
  ·rcases hb y hy with h2|h2;·exact H.own k h0 y hk0 hw0 h2
   ·exact .inr (by omega)
  ·exact H.own k x y hk hwr hy
 ·rcases hget i hi ei with⟨rfl,rfl⟩|⟨hne,hk⟩
  ·rcases hget j hj ej with⟨rfl,rfl⟩|⟨hne2,hk2⟩;·rfl
   ·rcases hb x li with h2|h2;·exact absurd (H.inj j i hj h0 x hk2 hk0 lj h2) hne2
    ·have:=HB.lies_lt (H.lies j hj hk2) lj;omega
  ·rcases hget j hj ej with⟨rfl,rfl⟩|⟨hne2,hk2⟩
   ·rcases hb x lj with h2|h2;·exact absurd (H.inj i j hi h0 x hk hk0 li h2) hne
    ·have:=HB.lies_lt (H.lies i hi hk) li;omega
   ·exact H.inj i j hi hj x hk hk2 li lj
theorem Mem.step {w0 w w':World} {L β:List Nat} {hp:List HB} (H:Mem w0 L β hp w) (O:Only [] w w'):Mem w0 L β hp w':=
 H.turn O (by simp) rfl fun k h' hk=>.inr (.inl ⟨hk,by simp⟩)
theorem Mem.start (L β:List Nat) (hp:List HB) (w:World) (len:β.length=hp.length) (lies: ∀(k:Nat) (h:HB),hp[k]? = some h->h.lies w β (nm β k)) (own: ∀(k:Nat) (h:HB) (x:Nat),hp[k]? = some h->h.wr=true->h.blk (nm β k)=some x->x∈L)
  (inj: ∀(i j:Nat) (hi hj:HB) (x:Nat),hp[i]? = some hi->hp[j]? = some hj->hi.blk (nm β i)=some x->hj.blk (nm β j)=some x->i=j):Mem w L β hp w:=
 ⟨zR _ _,len,lies,fun k h x hk hw hx=>.inl (own k h x hk hw hx),inj⟩
theorem Mem.start0 (w:World):Mem w [] [] [] w:=Mem.start _ _ _ _ rfl (by simp) (by simp) (by simp)
theorem Mem.at {w0 w:World} {L β:List Nat} {hp:List HB} (H:Mem w0 L β hp w) (k:Nat) {wr:Bool} {T:TypeId} {cs:List SC} (hk:hp[k]? = some (.b wr T cs)):Blk w (nm β k) T (DG β cs):=H.lies k _ hk
theorem Mem.atQ {w0 w:World} {L β:List Nat} {hp:List HB} (H:Mem w0 L β hp w) (k:Nat) {wr:Bool} {A:Option Addr} {Q:World->Prop} {st: ∀w w':World,(∀a,A=some a->w'.heap[a.block]? = w.heap[a.block]?)->w.heap.size<=w'.heap.size->Q w->Q w'} (hk:hp[k]? = some (.q wr A Q st)):Q w:=by
 have:HB.lies w β (nm β k) (.q wr A Q st):=H.lies k _ hk;exact this.1
/-! Into a block. -/
def EG {α:Type} (cs:List α) (o:Nat) (ds:List α):List α:=cs.take o++(ds++cs.drop (o+ds.length))
theorem kW {α:Type} (cs:List α) (o:Nat) (v:α) (r:List α) (h:o<cs.length):EG (cs.set o v) (o+1) r=EG cs o (v::r):=by
 unfold EG;have e:(cs.set o v).take (o+1)=cs.take o++[v]:=by
  rw[List.take_add_one,List.take_set_of_le (qL o)];simp[List.getElem?_set,h]
 rw[e,List.drop_set_of_lt (by omega)];simp[Nat.add_comm,Nat.add_assoc,Nat.add_left_comm]
theorem kV {α:Type} (cs:List α) (o:Nat):EG cs o []=cs:=by simp[EG]
theorem eP (β:List Nat) (cs:List SC) (o:Nat) (ds:List SC):DG β (EG cs o ds)=EG (DG β cs) o (DG β ds):=by simp[DG,EG,List.map_take,List.map_drop]
theorem JO {g T:Nat}: ∀(vs:List Value) (o:Nat) (w:World) (cs:List Value),Blk w g T cs->o+vs.length<=cs.length->Blk (w.setCells g o vs) g T (EG cs o vs)
 |[],o,w,cs,h,_=>by rw[kV];exact h
 |v::r,o,w,cs,h,hl=>by
  simp only[List.length_cons] at hl;have:=JO r (o+1) (w.setCell ⟨g,o,none⟩ v) (cs.set o v) (h.set_ o v) (by simp;omega);rw[kW cs o v r (by omega)] at this;exact this
theorem IP {g:Nat}: ∀(vs:List Value) (o:Nat) (w:World),Only [g] w (w.setCells g o vs)
 |[],o,w=>zR _ _
 |v::r,o,w=>by
  have h1:Only [g] w (w.setCell ⟨g,o,none⟩ v):=(zR _ _).setCell (.inl (by simp)) _;exact h1.trans (IP r (o+1) _) (by simp)
theorem JU {w:World} {g T:Nat} {cs:List Value} (h:Blk w g T cs) (o n:Nat) (hl:o+n<=cs.length):w.there g o n:=fun j hj=>by
 rw[h.cell,h.frozen];exact⟨by rw[List.getElem?_eq_getElem (by omega)];rfl,rfl⟩
theorem blk_range {w:World} {g T:Nat} {cs:List Value} (h:Blk w g T cs) (o n:Nat):w.rangeAt g o ((cs.drop o).take n):=fun j v hv=>by
 rw[h.cell];rw[List.getElem?_take] at hv;split at hv;·rwa[List.getElem?_drop] at hv
 ·cases hv
end Go.Proofs.YtfbhemmpobgdpaaGreatDoor
namespace Go.Proofs.YtfbhemmpobgdpaaGreatDoor
def JR {α:Type} (P:Program):Sem α->Option α
 | .pure a=>some a
 | .program k=>JR P (k P)
 | .mark _ k=>JR P k
 | .choose q k=>match q.forced with
  |true=>JR P (k 0)
  |false=>none
 |_=>none
theorem HF {α:Type} (P:Program) (a:α): ∀(s:Sem α),JR P s=some a->∀w,s.run P w = .ok a w:=by
 intro s;induction s with
 |pure b=>intro h w;simp only[JR,Option.some.injEq] at h;subst h;rfl
 |program k ih=>intro h w;exact ih _ h w
 |mark m k ih=>intro h w;exact ih h w
 |choose q k ih=>
  intro h w;simp only[JR] at h;split at h
  ·rename_i hq;simp only[Sem.run,hq,if_true];exact ih 0 h w
  ·cases h
 |_=>intro h;cases h
section
variable (P:Program)
def aggB (t:TypeId):Option Bool:=match P.underlying t with
 |some (.struct _)=>some true
 |some (.array _ _)=>some true
 |some _=>some false
 |none=>none
def szB (t:TypeId):Option Nat:=match P.info? t with
 |some i=>some i.size
 |none=>none
def NX (t:TypeId) (cs:List SC) (off:Nat):Option SV:=match aggB P t with
 |some true=>match szB P t with
  |some n=>match Nat.ble (off+n) cs.length with
   |true=>some (.g ((cs.drop off).take n))
   |false=>none
  |none=>none
 |some false=>match cs[off]? with
  |some c=>some (.c c)
  |none=>none
 |none=>none
def WV (S:TypeId) (f:Nat):Option Nat:=match P.underlying S with
 |some (.struct fs)=>match fs[f]? with
  |some fl=>match szB P fl.type with
   |some 0=>none
   |some (_+1)=>some fl.offset
   |none=>none
  |none=>none
 |_=>none
def fieldS (S:TypeId) (f:Nat) (cs:List SC):Option SV:=match P.underlying S with
 |some (.struct fs)=>match fs[f]? with
  |some fl=>NX P fl.type cs fl.offset
  |none=>none
 |_=>none
def zeroS (T:TypeId):Option (List SC):=match P.info? T with
 |some i=>match i.zero with
  |some v=>some (v.cells.toList.map .v)
  |none=>none
 |none=>none
def SV.cells:SV->Option (List SC)
 | .c (.v (.agg a))=>some (a.toList.map .v)
 | .c (.v (.tuple _))=>none
 | .c x=>some [x]
 | .g cs=>some cs
 | .t _=>none
def SC.one:SC->Bool
 | .v (.agg _)=>false
 | .v (.tuple _)=>false
 |_=>true
def TV.sv:TV->SV
 | .c x=>.c x
 | .g cs=>.g cs
variable (β:List Nat) (ρ:Operand -> SV)
def JI (o:Oper):Option SV:=match JR P (execOp (fun x=>(ρ x).den β) o) with
 |some (.value v)=>some (.c (.v v))
 |_=>none
def arrOff (t:TypeId) (i:SV):Option Nat:=match P.underlying t with
 |some (.array len e)=>match i with
  | .c (.v (.int _ (.ofNat j)))=>match Nat.blt j len with
   |true=>match szB P e with
    |some n=>some (j*n)
    |none=>none
   |false=>none
  |_=>none
 |_=>none
def rowOff (t:TypeId) (len:Nat) (i:SV):Option Nat:=match P.underlying t with
 |some (.slice e)=>match i with
  | .c (.v (.int _ (.ofNat j)))=>match Nat.blt j len with
   |true=>match szB P e with
    |some n=>some (j*n)
    |none=>none
   |false=>none
  |_=>none
 |_=>none
def sval (o:Oper):Option SV:=match o.op with
 | .move x=>some (ρ x)
 | .assign x=>some (ρ x)
 | .nilCheck x=>match ρ x with
  | .c (.p k f)=>some (.c (.p k f))
  | .c (.v _)=>JI P β ρ o
  |_=>none
 | .fieldAddr S x f=>match ρ x with
  | .c (.p k off)=>match WV P S f with
   |some d=>some (.c (.p k (off+d)))
   |none=>none
  | .c (.v _)=>JI P β ρ o
  |_=>none
 | .extract x i=>match ρ x with
  | .t vs=>match vs[i]? with
   |some t=>some t.sv
   |none=>none
  | .c (.v _)=>JI P β ρ o
  |_=>none
 | .field S x f=>match ρ x with
  | .g cs=>fieldS P S f cs
  | .c (.v _)=>JI P β ρ o
  |_=>none
 | .indexAddr t x i=>match ρ x with
  | .c (.p k off)=>match arrOff P t (ρ i) with
   |some d=>some (.c (.p k (off+d)))
   |none=>none
  | .c (.s k off len _)=>match rowOff P t len (ρ i) with
   |some d=>some (.c (.p k (off+d)))
   |none=>none
  |_=>none
 | .index t x i=>match ρ x with
  | .c (.v (.agg _))=>JI P β ρ o
  |_=>none
 | .binOp .. =>JI P β ρ o
 | .unOp .. =>JI P β ρ o
 | .convert .. =>JI P β ρ o
 | .makeFunc .. =>JI P β ρ o
 | .makeInterface .. =>JI P β ρ o
 | .build .. =>JI P β ρ o
 | .pick .. =>JI P β ρ o
 | .call c=>match c.callee with
  | .builtin .len=>JI P β ρ o
  | .builtin .cap=>JI P β ρ o
  | .builtin .min=>JI P β ρ o
  | .builtin .max=>JI P β ρ o
  |_=>none
 |_=>none
def bQ (hp:List HB) (o:Oper):Option (Nat×SV):=match o.op with
 | .load t x=>match ρ x with
  | .c (.p k off)=>match hp[k]? with
   |some h=>match NX P t h.cs off with
    |some v=>some (k,v)
    |none=>none
   |none=>none
  |_=>none
 |_=>none
def bslS (t:TypeId) (len:Nat) (parts:Array (Nat×Value)):Option (TypeId×Array Value):=match P.underlying t with
 |some (.slice e)=>match P.info? e with
  |some ie=>match ie.zero with
   |some z=>match Nat.ble (len*ie.size) (2 ^ 24) with
    |true=>match Nat.beq (len*ie.size) 0 with
     |true=>match parts.toList with
      |[]=>some (e,#[])
      |_=>none
     |false=>match Instr.fill (fun i=>some (i*ie.size,ie.size)) ((Array.range (len*ie.size)).map (z.cells[· % z.cells.size]!)) parts.toList with
      |some cells=>some (e,cells)
      |none=>none
    |false=>none
   |none=>none
  |none=>none
 |_=>none
def resC (sl:Option Nat) (k:Nat):SC:=match sl with
 |none=>.p k 0
 |some n=>.s k 0 n n
def resV (sl:Option Nat) (b:Nat):Value:=match sl with
 |none=>.pointer (some ⟨b,0,none⟩)
 |some n=>.slice (some ⟨b,0,none⟩) n n
inductive Eff where
  | alloc (T : TypeId) (cs : List SC) (sl : Option Nat)
  | store (k off : Nat) (T : TypeId) (cs ds : List SC)
def seff (hp:List HB) (o:Oper):Option Eff:=match o.op with
 | .alloc T=>match zeroS P T with
  |some cs=>some (.alloc T cs none)
  |none=>none
 | .box T x=>match(ρ x).cells with
  |some cs=>some (.alloc T cs none)
  |none=>none
 | .buildSlice t len ps=>match bslS P t len (ps.map fun(i,x)=>(i,(ρ x).den β)) with
  |some (e,cells)=>some (.alloc e (cells.toList.map .v) (some len))
  |none=>none
 | .store t x y=>match ρ x with
  | .c (.p k off)=>match hp[k]? with
   |some (.b true T cs)=>match(ρ y).cells with
    |some ds=>match szB P t with
     |some n=>match Nat.beq n ds.length&&(Nat.ble (off+n) cs.length&&ds.all SC.one) with
      |true=>some (.store k off T cs ds)
      |false=>none
     |none=>none
    |none=>none
   |_=>none
  |_=>none
 |_=>none
end
section
variable {P:Program} {β:List Nat} {ρ:Operand -> SV} {o:Oper}
theorem genS_run {v:SV} (h:JI P β ρ o=some v) (w:World):(execOp (fun x=>(ρ x).den β) o).run P w = .ok (.value (v.den β)) w:=by
 unfold JI at h;split at h
 ·rename_i x hx;injection h with h;subst h;exact HF P _ _ hx w
 ·cases h
theorem genS_wf {v:SV} (h:JI P β ρ o=some v) (m:Nat):v.wf m=true:=by
 unfold JI at h;split at h;·injection h with h;subst h;rfl
 ·cases h
theorem YP {t n:Nat} (h:szB P t=some n):(P.info? t).map (·.size)=some n:=by
 unfold szB at h;split at h;·rename_i i hi;rw[hi];exact h
 ·cases h
theorem JY {t n:Nat} (h:szB P t=some n) (w:World):(sizeOf t).run P w = .ok n w:=by
 unfold szB at h;split at h
 ·rename_i i hi;injection h with h;simp[sizeOf,typeInfo,hi,h]
 ·cases h
theorem SQ {t:Nat} {b:Bool} (h:aggB P t=some b) (w:World):(isAgg t).run P w = .ok b w:=by
 unfold aggB at h;unfold isAgg;split at h;·rename_i d hd;rw[Sem.run_bind,run_underlying hd w];simp at h;subst h;rfl
 ·rename_i d e hd;rw[Sem.run_bind,run_underlying hd w];simp at h;subst h;rfl
 ·rename_i d h1 h2 hd;rw[Sem.run_bind,run_underlying hd w];injection h with h;subst h;cases d<;>first|rfl|(rename_i fs;exact absurd rfl (h1 fs))|(rename_i a b;exact absurd rfl (h2 a b))
 ·cases h
theorem WG {t:Nat} (h:aggB P t=some true): ∃d,P.underlying t=some d/\d.isRow=true:=by
 unfold aggB at h;split at h;·rename_i d hd;exact⟨_,hd,rfl⟩
 ·rename_i d e hd;exact⟨_,hd,rfl⟩
 ·cases h
 ·cases h
theorem IY (cs:List SC):(DG β cs).length=cs.length:=by simp[DG]
theorem eO (cs:List SC) (i:Nat):(DG β cs)[i]? = (cs[i]?).map (SC.den β):=by simp[DG]
theorem QO {w:World} {b T off t:Nat} {cs:List SC} {v:SV} (hB:Blk w b T (DG β cs)) (h:NX P t cs off=some v):(loadVar t ⟨b,off,none⟩).run P w = .ok (v.den β) w:=by
 unfold NX at h;split at h
 ·rename_i ha;split at h
  ·rename_i n hn;split at h
   ·rename_i hle;injection h with h;subst h;obtain⟨d,hu,hd⟩:=WG ha;have hle':=Nat.le_of_ble_eq_true hle;have hr:=blk_range hB off n;have e:((DG β cs).drop off).take n=DG β ((cs.drop off).take n):=by simp[DG,List.map_take,List.map_drop]
    rw[e] at hr;exact run_loadVar_mid w b off t _ d hr hu hd (by rw[YP hn,IY];simp;omega)
   ·cases h
  ·cases h
 ·rename_i ha;split at h
  ·rename_i c hc;injection h with h;subst h;have hcell:w.cell? ⟨b,off,none⟩=some (c.den β):=by rw[hB.cell,eO,hc];rfl
   simp[loadVar,SQ ha w,hcell,SV.den]
  ·cases h
 ·cases h
theorem kP {w:World} {off t:Nat} {cs:List SC} {v:SV} (h:NX P t cs off=some v):(part t (DG β cs).toArray off).run P w = .ok (v.den β) w:=by
 unfold NX at h;split at h
 ·rename_i ha;split at h
  ·rename_i n hn;split at h
   ·rename_i hle;injection h with h;subst h;simp only[part,Sem.run_bind,SQ ha w,JY hn w,Result.andThen_ok,if_true,Sem.run_pure,SV.den];congr 2
    simp[DG,List.map_take,List.map_drop,List.extract_eq_drop_take]
   ·cases h
  ·cases h
 ·rename_i ha;split at h
  ·rename_i c hc;injection h with h;subst h;have hcell:(DG β cs).toArray[off]? = some (c.den β):=by rw[List.getElem?_toArray,eO,hc];rfl
   simp only[part,Sem.run_bind,SQ ha w,Result.andThen_ok,Bool.false_eq_true,if_false,hcell];rfl
  ·cases h
 ·cases h
theorem XU {t off m:Nat} {cs:List SC} {v:SV} (h:NX P t cs off=some v) (hw:cs.all (SC.wf m)=true):v.wf m=true:=by
 unfold NX at h;split at h
 ·split at h
  ·split at h
   ·injection h with h;subst h;exact List.all_eq_true.2 fun x hx=>List.all_eq_true.1 hw x (List.mem_of_mem_drop (List.mem_of_mem_take hx))
   ·cases h
  ·cases h
 ·split at h
  ·rename_i c hc;injection h with h;subst h;exact List.all_eq_true.1 hw c (qE hc)
  ·cases h
 ·cases h
theorem dW {S f d b off:Nat} (h:WV P S f=some d) (w:World):(Instr.fieldAt S (.pointer (some ⟨b,off,none⟩)) f).run P w = .ok (.pointer (some ⟨b,off+d,none⟩)) w:=by
 unfold WV at h;split at h
 ·rename_i fs hu;split at h
  ·rename_i fl hf;split at h;·cases h
   ·rename_i n hn;injection h with h;subst h;simp[Instr.fieldAt,run_underlying hu w,hf,Instr.sureAddr,fieldPlace,JY hn w,Addr.add_mid]
   ·cases h
  ·cases h
 ·cases h
theorem kO {t d b off:Nat} {i:SV} (h:arrOff P t i=some d) (w:World):(Instr.indexAt t (.pointer (some ⟨b,off,none⟩)) (i.den β)).run P w = .ok (.pointer (some ⟨b,off+d,none⟩)) w:=by
 unfold arrOff at h;split at h
 ·rename_i len e hu;split at h
  ·rename_i kd j;split at h
   ·rename_i hlt;split at h
    ·rename_i n hn;injection h with h;subst h;have hlt:=Nat.le_of_ble_eq_true hlt;have h1:(0:Int)<=Int.ofNat j/\Int.ofNat j<(len:Int):=⟨by exact Int.natCast_nonneg j,by show(j:Int)<(len:Int);exact_mod_cast hlt⟩;simp[Instr.indexAt,SV.den,SC.den,asIntOf,run_underlying hu w,Instr.sureAddr,JY hn w,hlt,Addr.add_mid];intro hh;omega
    ·cases h
   ·cases h
  ·cases h
 ·cases h
theorem kQ {t d b off len cap:Nat} {i:SV} (h:rowOff P t len i=some d) (w:World):(Instr.indexAt t (.slice (some ⟨b,off,none⟩) len cap) (i.den β)).run P w = .ok (.pointer (some ⟨b,off+d,none⟩)) w:=by
 unfold rowOff at h;split at h
 ·rename_i e hu;split at h
  ·rename_i kd j;split at h
   ·rename_i hlt;split at h
    ·rename_i n hn;injection h with h;subst h;have hlt:=Nat.le_of_ble_eq_true hlt;have h1:(0:Int)<=Int.ofNat j/\Int.ofNat j<(len:Int):=⟨by exact Int.natCast_nonneg j,by show(j:Int)<(len:Int);exact_mod_cast hlt⟩;simp[Instr.indexAt,SV.den,SC.den,asIntOf,run_underlying hu w,Instr.sureAddr,JY hn w,hlt,Addr.add_mid];intro hh;omega
    ·cases h
   ·cases h
  ·cases h
 ·cases h
theorem iE {v:SV} (h:sval P β ρ o=some v) (w:World):(execOp (fun x=>(ρ x).den β) o).run P w = .ok (.value (v.den β)) w:=by
 have hg:JI P β ρ o=some v->(execOp (fun x=>(ρ x).den β) o).run P w = .ok (.value (v.den β)) w:=fun h=>genS_run h w;unfold sval at h;split at h;·rename_i x ho;injection h with h;subst h;simp[execOp,ho]
 ·rename_i x ho;injection h with h;subst h;simp[execOp,ho]
 ·rename_i x ho;split at h;·rename_i k f hx;injection h with h;subst h;simp[execOp,ho,hx,SV.den,SC.den]
  ·exact hg h
  ·cases h
 ·rename_i S x f ho;split at h
  ·rename_i k off hx;split at h
   ·rename_i d hd;injection h with h;subst h;simp only[execOp,ho,hx,SV.den,SC.den,Sem.run_bind,dW hd w,Result.andThen_ok,Sem.run_pure]
   ·cases h
  ·exact hg h
  ·cases h
 ·rename_i x i ho;split at h
  ·rename_i vs hx;split at h
   ·rename_i t ht;injection h with h;subst h;have e:(vs.map (TV.den β)).toArray[i]? = some (t.den β):=by simp[ht]
    have e2:t.sv.den β=t.den β:=by cases t<;>rfl
    simp only[execOp,ho,hx,Sem.run_bind,e2];simp only[SV.den,Instr.extract,e,Sem.run_pure,Result.andThen_ok]
   ·cases h
  ·exact hg h
  ·cases h
 ·rename_i S x f ho;split at h
  ·rename_i cs hx;unfold fieldS at h;split at h
   ·rename_i fs hu;split at h
    ·rename_i fl hf;simp only[execOp,ho,hx,SV.den,Instr.field,Sem.run_bind,run_underlying hu w,Result.andThen_ok,hf,asAgg,Sem.run_pure,kP h]
    ·cases h
   ·cases h
  ·exact hg h
  ·cases h
 ·rename_i t x i ho;split at h
  ·rename_i k off hx;split at h
   ·rename_i d hd;injection h with h;subst h;have hr:=kO (β:=β) (b:=nm β k) (off:=off) hd w;simp only[execOp,ho,hx,Sem.run_bind];show((Instr.indexAt t (.pointer (some ⟨nm β k,off,none⟩)) ((ρ i).den β)).run P w).andThen _=_;rw[hr];rfl
   ·cases h
  ·rename_i k off len cap hx;split at h
   ·rename_i d hd;injection h with h;subst h;have hr:=kQ (β:=β) (b:=nm β k) (off:=off) (cap:=cap) hd w;simp only[execOp,ho,hx,Sem.run_bind];show((Instr.indexAt t (.slice (some ⟨nm β k,off,none⟩) len cap) ((ρ i).den β)).run P w).andThen _=_;rw[hr];rfl
   ·cases h
  ·cases h
 ·split at h;·exact hg h
  ·cases h
 ·exact hg h
 ·exact hg h
 ·exact hg h
 ·exact hg h
 ·exact hg h
 ·exact hg h
 ·exact hg h
 ·split at h;·exact hg h
  ·exact hg h
  ·exact hg h
  ·exact hg h
  ·cases h
 ·cases h
theorem sval_wf {v:SV} {m:Nat} (hρ: ∀x,(ρ x).wf m=true) (h:sval P β ρ o=some v):v.wf m=true:=by
 have hg:JI P β ρ o=some v->v.wf m=true:=fun h=>genS_wf h m;unfold sval at h;split at h;·rename_i x ho;injection h with h;subst h;exact hρ x
 ·rename_i x ho;injection h with h;subst h;exact hρ x
 ·rename_i x ho;split at h;·rename_i k f hx;injection h with h;subst h;have:=hρ x;rw[hx] at this;exact this
  ·exact hg h
  ·cases h
 ·rename_i S x f ho;split at h
  ·rename_i k off hx;split at h
   ·rename_i d hd;injection h with h;subst h;have:=hρ x;rw[hx] at this;exact this
   ·cases h
  ·exact hg h
  ·cases h
 ·rename_i x i ho;split at h
  ·rename_i vs hx;split at h
   ·rename_i t ht;injection h with h;subst h;have:=hρ x;rw[hx] at this;have:=List.all_eq_true.1 this t (qE ht);cases t<;>exact this
   ·cases h
  ·exact hg h
  ·cases h
 ·rename_i S x f ho;split at h
  ·rename_i cs hx;unfold fieldS at h;split at h
   ·split at h;·have:=hρ x;rw[hx] at this;exact XU h this
    ·cases h
   ·cases h
  ·exact hg h
  ·cases h
 ·rename_i t x i ho;split at h
  ·rename_i k off hx;split at h
   ·rename_i d hd;injection h with h;subst h;have:=hρ x;rw[hx] at this;exact this
   ·cases h
  ·rename_i k off len cap hx;split at h
   ·rename_i d hd;injection h with h;subst h;have:=hρ x;rw[hx] at this;exact this
   ·cases h
  ·cases h
 ·split at h;·exact hg h
  ·cases h
 ·exact hg h
 ·exact hg h
 ·exact hg h
 ·exact hg h
 ·exact hg h
 ·exact hg h
 ·exact hg h
 ·split at h;·exact hg h
  ·exact hg h
  ·exact hg h
  ·exact hg h
  ·cases h
 ·cases h
theorem QP {hp:List HB} {k:Nat} {v:SV} (h:bQ P ρ hp o=some (k,v)): ∃t x off b,o.op = .load t x/\ρ x = .c (.p k off)/\hp[k]? = some b/\NX P t b.cs off=some v:=by
 unfold bQ at h;split at h
 ·rename_i t x ho;split at h
  ·rename_i k' off hx;split at h
   ·rename_i b hb;split at h
    ·rename_i v' hv;injection h with h;injection h with h1 h2;subst h1;subst h2;exact⟨t,x,off,b,ho,hx,hb,hv⟩
    ·cases h
   ·cases h
  ·cases h
 ·cases h
theorem lies_load {w:World} {b t off:Nat} {h:HB} {v:SV} (hl:h.lies w β b) (ha:h.live=true) (hv:NX P t h.cs off=some v):(Instr.loadAt t (.pointer (some ⟨b,off,none⟩))).run P w = .ok (v.den β) w:=by
 obtain⟨T,hb⟩:=HB.lies_blk hl ha;simp only[Instr.loadAt,Instr.sureAddr,Sem.run_bind,Sem.run_pure,Result.andThen_ok,QO hb hv]
theorem bR {hp:List HB} {k:Nat} {v:SV} {w:World} (h:bQ P ρ hp o=some (k,v)) (hl: ∀b,hp[k]? = some b->b.live=true/\b.lies w β (nm β k)):(execOp (fun x=>(ρ x).den β) o).run P w = .ok (.value (v.den β)) w:=by
 obtain⟨t,x,off,b,ho,hx,hb,hv⟩:=QP h;obtain⟨h1,h2⟩:=hl b hb;simp only[execOp,ho,hx,SV.den,SC.den,Sem.run_bind,lies_load h2 h1 hv,Result.andThen_ok,Sem.run_pure]
theorem ZZ {x:SV} {cs:List SC} (h:x.cells=some cs):(x.den β).cells=(DG β cs).toArray:=by
 unfold SV.cells at h;split at h;·injection h with h;subst h;simp[SV.den,SC.den,Value.cells,cX]
 ·cases h
 ·rename_i y h1 h2;injection h with h;subst h;show(y.den β).cells=#[y.den β];cases y with
  |v x=>
   cases x<;>first|rfl|(rename_i a;exact absurd rfl (h1 a))|(rename_i a;exact absurd rfl (h2 a))
  |p k o=>rfl
  |s k o l c=>rfl
 ·injection h with h;subst h;rfl
 ·cases h
theorem eJ {x:SV} {cs:List SC} {m:Nat} (h:x.cells=some cs) (hx:x.wf m=true):cs.all (SC.wf m)=true:=by
 unfold SV.cells at h;split at h;·injection h with h;subst h;simp[SC.wf]
 ·cases h
 ·injection h with h;subst h;simpa[SV.wf] using hx
 ·injection h with h;subst h;exact hx
 ·cases h
theorem zeroS_wf {T m:Nat} {cs:List SC} (h:zeroS P T=some cs):cs.all (SC.wf m)=true:=by
 unfold zeroS at h;split at h
 ·split at h;·injection h with h;subst h;simp[SC.wf]
  ·cases h
 ·cases h
theorem run_bslS {t len e:Nat} {parts:Array (Nat×Value)} {cells:Array Value} (h:bslS P t len parts=some (e,cells)) (w:World):(Instr.buildSlice t len parts).run P w = .ok (.slice (some ⟨w.heap.size,0,none⟩) len len) (w.alloc (.cells cells e)):=by
 unfold bslS at h;split at h
 ·rename_i e' hu;split at h
  ·rename_i ie hie;split at h
   ·rename_i z hz;split at h
    ·rename_i hle;have hle':=Nat.le_of_ble_eq_true hle;have hsm: ¬len*ie.size>2 ^ 24:=by omega
     split at h
     ·rename_i h0;have h0':len*ie.size=0:=Nat.eq_of_beq_eq_true h0;split at h
      ·rename_i hp;injection h with h;injection h with h1 h2;subst h1;subst h2;simp[Instr.buildSlice,run_underlying hu,sizeOf,typeInfo,hie,h0',hp,Instr.fill,newRow];have e0:Array.map (fun _:Nat=>(default:Value)) (Array.range 0)=#[]:=by apply Array.ext<;>simp
       rw[e0]
      ·cases h
     ·rename_i h0;have h0': ¬len*ie.size=0:=ZX.1 h0;split at h
      ·rename_i cells' hf;injection h with h;injection h with h1 h2;subst h1;subst h2;simp[Instr.buildSlice,run_underlying hu,sizeOf,typeInfo,zeroValue,hie,hz,hsm,h0',hf,newRow]
      ·cases h
    ·cases h
   ·cases h
  ·cases h
 ·cases h
theorem resC_den (sl:Option Nat) (k:Nat):(resC sl k).den β=resV sl (nm β k):=by cases sl<;>rfl
theorem kT {hp:List HB} {T:Nat} {cs:List SC} {sl:Option Nat} (h:seff P β ρ hp o=some (.alloc T cs sl)) (w:World):(execOp (fun x=>(ρ x).den β) o).run P w = .ok (.value (resV sl w.heap.size)) (w.alloc (.cells (DG β cs).toArray T)):=by
 unfold seff at h;split at h
 ·rename_i T' ho;split at h
  ·rename_i cs' hz;injection h with h;injection h with h1 h2 h3;subst h1;subst h2;subst h3;unfold zeroS at hz;split at hz
   ·rename_i i hi;split at hz
    ·rename_i v hv;injection hz with hz;subst hz;simp[execOp,ho,Instr.alloc,zeroValue,typeInfo,hi,hv,newVar,newRow,cX,resV]
    ·cases hz
   ·cases hz
  ·cases h
 ·rename_i T' x ho;split at h
  ·rename_i cs' hz;injection h with h;injection h with h1 h2 h3;subst h1;subst h2;subst h3;simp[execOp,ho,Instr.box,newVar,newRow,ZZ hz,resV]
  ·cases h
 ·rename_i t len ps ho;split at h
  ·rename_i e cells hb;injection h with h;injection h with h1 h2 h3;subst h1;subst h2;subst h3;simp only[execOp,ho,Sem.run_bind,run_bslS hb w,Result.andThen_ok,Sem.run_pure,cX,Array.toArray_toList,resV]
  ·cases h
 ·split at h
  ·split at h
   ·split at h
    ·split at h
     ·split at h;·cases h
      ·cases h
     ·cases h
    ·cases h
   ·cases h
  ·cases h
 ·cases h
theorem ZO {hp:List HB} {T m:Nat} {cs:List SC} {sl:Option Nat} (h:seff P β ρ hp o=some (.alloc T cs sl)) (hρ: ∀x,(ρ x).wf m=true):cs.all (SC.wf m)=true:=by
 unfold seff at h;split at h
 ·split at h
  ·rename_i cs' hz;injection h with h;injection h with h1 h2 h3;subst h2;exact zeroS_wf hz
  ·cases h
 ·rename_i T' x ho;split at h
  ·rename_i cs' hz;injection h with h;injection h with h1 h2 h3;subst h2;exact eJ hz (hρ x)
  ·cases h
 ·split at h
  ·injection h with h;injection h with h1 h2 h3;subst h2;simp[SC.wf]
  ·cases h
 ·split at h
  ·split at h
   ·split at h
    ·split at h
     ·split at h;·cases h
      ·cases h
     ·cases h
    ·cases h
   ·cases h
  ·cases h
 ·cases h
theorem one_den {x:SC} (h:x.one=true):(x.den β).oneCell'=true:=by
 cases x with
 |v y=>cases y<;>first|rfl|cases h
 |p k o=>rfl
 |s k o l c=>rfl
theorem NL {hp:List HB} {k off T:Nat} {cs ds:List SC} (h:seff P β ρ hp o=some (.store k off T cs ds)): ∃t x y,o.op = .store t x y/\ρ x = .c (.p k off)/\hp[k]? = some (.b true T cs)/\(ρ y).cells=some ds/\szB P t=some ds.length/\off+ds.length<=cs.length/\ds.all SC.one=true:=by
 unfold seff at h;split at h
 ·split at h;·injection h with h;cases h
  ·cases h
 ·split at h;·injection h with h;cases h
  ·cases h
 ·split at h;·injection h with h;cases h
  ·cases h
 ·rename_i t x y ho;split at h
  ·rename_i k' off' hx;split at h
   ·rename_i T' cs' hk;split at h
    ·rename_i ds' hd;split at h
     ·rename_i n hn;split at h
      ·rename_i hc;injection h with h;injection h with h1 h2 h3 h4 h5;subst h1;subst h2;subst h3;subst h4;subst h5;simp only[Bool.and_eq_true,Nat.ble_eq] at hc;have e:=Nat.eq_of_beq_eq_true hc.1;subst e;exact⟨t,x,y,ho,hx,hk,hd,hn,hc.2.1,hc.2.2⟩
      ·cases h
     ·cases h
    ·cases h
   ·cases h
  ·cases h
 ·cases h
theorem kU {hp:List HB} {k off T:Nat} {cs ds:List SC} {w:World} (h:seff P β ρ hp o=some (.store k off T cs ds)) (hB:Blk w (nm β k) T (DG β cs)):(execOp (fun x=>(ρ x).den β) o).run P w = .ok .skip (w.setCells (nm β k) off (DG β ds)):=by
 obtain⟨t,x,y,ho,hx,hk,hd,hn,hle,h1⟩:=NL h;have hst:(storeVar t ⟨nm β k,off,none⟩ ((ρ y).den β)).run P w = .ok () (w.setCells (nm β k) off (DG β ds)):=by
  have hc:=run_storeCells_cells (P:=P) (nm β k) off (DG β ds) 0 w (fun j hj=>by
    simpa using(JU hB off ds.length (by rw[IY];exact hle) j (by simpa[IY] using hj)).1) (fun j hj=>by
    simpa using(JU hB off ds.length (by rw[IY];exact hle) j (by simpa[IY] using hj)).2)
   (fun v hv=>by
    obtain⟨c,hc,rfl⟩:=List.mem_map.1 hv;exact one_den (List.all_eq_true.1 h1 c hc))
  simp only[Nat.add_zero] at hc;unfold storeVar;simp only[Sem.run_bind,JY hn w,Result.andThen_ok,ZZ hd];rw[if_neg (by simp[IY])];simp[hc]
 have e1:(ρ x).den β = .pointer (some ⟨nm β k,off,none⟩):=by rw[hx];rfl
 simp only[execOp,ho,e1,Instr.storeAt,Instr.sureAddr,Sem.run_bind,Sem.run_pure,Result.andThen_ok,hst]
end
end Go.Proofs.YtfbhemmpobgdpaaGreatDoor
namespace Go.Proofs.YtfbhemmpobgdpaaGreatDoor
def fB (kd:CallKind) (f:FuncId):Frame:={ (default:Frame) with fn:=f,kind:=kd }
section
variable (P:Program) (f:FuncId) (R:Ending -> World -> Prop)
def GM (todo:List Item) (a:Act) (w:World):Prop:=
 ∀(kd:CallKind) (cs:List Frame),∃e w' fr',R e w'/\Comes P (lone ((fB kd f).at a todo) cs w) (lone fr' cs w') e/\fr'.fn=f/\fr'.kind=kd/\fr'.going P w' e
def QQ (todo:List Item):Exit->Act->World->Prop:=fun e a w=>e = .normal/\GM P f R todo a w
end
section
variable {P:Program} {f:FuncId} {R:Ending -> World -> Prop} {todo todo' k:List Item} {a a':Act} {w w':World}
theorem GM.step (h: ∀kd cs,step P (lone ((fB kd f).at a todo) cs w) = .next (lone ((fB kd f).at a' todo') cs w')) (g:GM P f R todo' a' w'):GM P f R todo a w:=fun kd cs=>by
 obtain⟨e,w2,fr',hR,hc,hf,hl⟩:=g kd cs;exact⟨e,w2,fr',hR,Comes.of_steps (.one (h kd cs)) hc,hf,hl⟩
theorem GM.code {c:Code} (h:c.wp P (QQ P f R k) a w):GM P f R (.code c::k) a w:=fun kd cs=>by
 obtain⟨e,a',w',⟨rfl,g⟩,harr⟩:=h (fB kd f) k cs;obtain⟨e,w2,fr',hR,hc,hf,hl⟩:=g kd cs;exact⟨e,w2,fr',hR,Comes.of_steps harr hc,hf,hl⟩
theorem ZF {fr:Frame} {w:World}: ∀{e:Ending},fr.kind = .normal->fr.going P w e->fr.leaving P w e
 | .returned _,hk,⟨h1,h2,h3⟩=>⟨h1,h2,hk,h3⟩
 | .panicked _,_,h=>h
 | .outgrown,_,h=>h
theorem GM.enter {fn:Func} {c:Code} {args:Array Value} (hf:P.funcs[f]? = some fn) (hb:fn.body=some c) (a:Act) (ha:a = { tmps:=args++Array.replicate (fn.ntmps-args.size) undef,defers:=[] }) (h:GM P f R [.code c] a w):Calls P f args w R:=by
 intro cs;have henter:Frame.enter P f args .normal=(fB .normal f).at a [.code c]:=by
  subst ha;simp[Frame.enter,Frame.at,hf,hb,fB]
 rw[henter];obtain⟨e,w',fr',hR,hc,hfn,hk,hg⟩:=h .normal cs;exact⟨e,w',fr',hR,hc,hfn,ZF hk hg⟩
theorem GM.ret {fn:Func} {v:Value} (hf:P.funcs[f]? = some fn) (ha:a.defers=[]) (hr:(results fn a.tmps).run P w = .ok v w) (hR:R (.returned v) w):GM P f R (.code .ret::k) a w:=fun kd cs=>
 ⟨.returned v,w,_,hR,Steps.one step_ret,rfl,rfl,rfl,ha,fn,hf,hr⟩
theorem GM.fin {fn:Func} {v:Value} (hf:P.funcs[f]? = some fn) (ha:a.defers=[]) (hr:(results fn a.tmps).run P w = .ok v w) (hR:R (.returned v) w):GM P f R [] a w:=fun kd cs=>
 ⟨.returned v,w,_,hR,Steps.one step_end,rfl,rfl,rfl,ha,fn,hf,hr⟩
end
/-! The order of a region, in bits. -/
def XH:List Edge->Nat
 |[]=>0
 |e::l=>match Region.binds .any e with
  |true=>Nat.lor (2 ^ e.on) (XH l)
  |false=>XH l
def MW (o:Oper):Nat:=XH o.after.toList
def VK (lm:Nat):List Oper->Nat->List Nat
 |[],_=>[]
 |o::l,j=>match Nat.testBit lm j with
  |true=>VK lm l (j+1)
  |false=>match Nat.beq (Nat.land (MW o) lm) (MW o) with
   |true=>j::VK lm l (j+1)
   |false=>VK lm l (j+1)
def AO (N lm:Nat):Array Bool:=((List.range N).map lm.testBit).toArray
theorem PC: ∀(l:List Edge) (j:Nat),(XH l).testBit j=true↔∃e∈l,Region.binds .any e=true/\e.on=j
 |[],j=>by simp[XH]
 |e::l,j=>by
  have ih:=PC l j;unfold XH;split
  ·rename_i hb;show(2 ^ e.on ||| XH l).testBit j=true↔_;rw[Nat.testBit_or,Bool.or_eq_true,ih,Nat.testBit_two_pow];simp[hb]
  ·rename_i hb;rw[ih];simp[hb]
theorem fS {o:Oper} {lm:Nat}:Nat.beq (Nat.land (MW o) lm) (MW o)=true↔∀e∈o.after,Region.binds .any e=true->lm.testBit e.on=true:=by
 rw[NQ];show MW o &&& lm=MW o↔_;constructor
 ·intro h e he hb;have h1:(MW o).testBit e.on=true:=(PC _ _).2 ⟨e,by simpa using he,hb,rfl⟩;rw[<-h,Nat.testBit_and,Bool.and_eq_true] at h1;exact h1.2
 ·intro h;apply Nat.eq_of_testBit_eq;intro j;rw[Nat.testBit_and];cases hm:(MW o).testBit j with
  |false=>rfl
  |true=>
   obtain⟨e,he,hb,rfl⟩:=(PC _ _).1 hm;simp[h e (by simpa using he) hb]
theorem gO {lm:Nat}: ∀(l:List Oper) (d i:Nat),i∈VK lm l d↔∃k o,i=d+k/\l[k]? = some o/\lm.testBit i=false/\∀e∈o.after,Region.binds .any e=true->lm.testBit e.on=true
 |[],d,i=>by simp[VK]
 |o::l,d,i=>by
  have ih:=gO (lm:=lm) l (d+1) i;have hex:(∃k o',i=d+k/\(o::l)[k]? = some o'/\lm.testBit i=false/\∀e∈o'.after,Region.binds .any e=true->lm.testBit e.on=true)↔(i=d/\lm.testBit i=false/\∀e∈o.after,Region.binds .any e=true->lm.testBit e.on=true)\/∃k o',i=d+1+k/\l[k]? = some o'/\lm.testBit i=false/\∀e∈o'.after,Region.binds .any e=true->lm.testBit e.on=true:=by
   constructor
   ·rintro⟨k,o',h1,h2,h3,h4⟩;cases k with
    |zero=>simp at h2;subst h2;exact .inl ⟨by simpa using h1,h3,h4⟩
    |succ k=>exact .inr ⟨k,o',by omega,by simpa using h2,h3,h4⟩
   ·rintro(⟨h1,h3,h4⟩|⟨k,o',h1,h2,h3,h4⟩);·exact⟨0,o,by simpa using h1,rfl,h3,h4⟩
    ·exact⟨k+1,o',by omega,by simpa using h2,h3,h4⟩
  rw[hex,<-ih];simp only[VK];split
  ·rename_i hb;constructor;·intro h;exact .inr h
   ·rintro(⟨rfl,h,_⟩|h);·rw[hb] at h;cases h
    ·exact h
  ·rename_i hb;split
   ·rename_i hm;rw[qC];constructor
    ·rintro(rfl|h);·exact .inl ⟨rfl,hb,fS.1 hm⟩
     ·exact .inr h
    ·rintro(⟨rfl,_⟩|h);·exact .inl rfl
     ·exact .inr h
   ·rename_i hm;constructor;·intro h;exact .inr h
    ·rintro(⟨rfl,_,h⟩|h);·rw[fS.2 h] at hm;cases hm
     ·exact h
def LmOk (N lm:Nat):Prop:=∀j,lm.testBit j=true->j<N
theorem NT {N lm j:Nat}:(AO N lm).getD j false=true↔j<N/\lm.testBit j=true:=by
 by_cases h:j<N<;>simp[AO,Array.getD,h]
theorem HL {N lm j:Nat}:(AO N lm).getD j true=false↔j<N/\lm.testBit j=false:=by
 by_cases h:j<N<;>simp[AO,Array.getD,h]
theorem FL {ops:Array Oper} {lm i:Nat} (hl:LmOk ops.size lm):i∈Region.ready .any ops (AO ops.size lm)↔i∈VK lm ops.toList 0:=by
 rw[mem_ready,gO,HL];constructor
 ·rintro⟨⟨_,h1⟩,o,h2,h3⟩;exact⟨i,o,by omega,by simpa using h2,h1,fun e he hb=>(NT.1 (h3 e he hb)).2⟩
 ·rintro⟨k,o,h0,h2,h1,h3⟩;have e:k=i:=by omega
  subst e;have h2':ops[k]? = some o:=by simpa using h2
  exact⟨⟨(Array.getElem?_eq_some_iff.1 h2').1,h1⟩,o,h2',fun e he hb=>NT.2 ⟨hl _ (h3 e he hb),h3 e he hb⟩⟩
def FU (lm i:Nat):Nat:=Nat.lor lm (2 ^ i)
theorem YL (lm i j:Nat):(FU lm i).testBit j=(lm.testBit j||decide (i=j)):=by
 show(lm ||| 2 ^ i).testBit j=_;rw[Nat.testBit_or,Nat.testBit_two_pow]
theorem EB {N lm i:Nat} (hi:i<N):(AO N lm).setIfInBounds i true=AO N (FU lm i):=by
 apply Array.ext;·simp[AO]
 ·intro j h1 h2;simp[AO] at h2;simp only[AO,Array.getElem_setIfInBounds,List.getElem_toArray,List.getElem_map,List.getElem_range,YL];by_cases h:i=j
  ·simp[h]
  ·simp[h]
theorem LmOk.set {N lm i:Nat} (h:LmOk N lm) (hi:i<N):LmOk N (FU lm i):=fun j hj=>by
 rw[YL] at hj;simp only[Bool.or_eq_true,decide_eq_true_eq] at hj;rcases hj with hj|rfl;·exact h j hj
 ·exact hi
def aK (ops:Array Oper) (lm i:Nat) (oi:Oper):List Oper->Nat->Bool
 |[],_=>true
 |oj::l,j=>(Nat.testBit lm j||(Nat.beq j i||(Nat.testBit (MW oj) i||oi.apart ops oj)))&&aK ops lm i oi l (j+1)
theorem QG {ops:Array Oper} {lm i:Nat} {oi:Oper}: ∀(l:List Oper) (d:Nat),aK ops lm i oi l d=true->∀k oj,l[k]? = some oj->lm.testBit (d+k)=false->d+k≠i->(∀e∈oj.after,Region.binds .any e=true->e.on≠i)->oi.apart ops oj=true
 |[],d,_,k,oj,h,_,_,_=>by simp at h
 |o::l,d,h,k,oj,hk,hl,hne,hno=>by
  simp only[aK,Bool.and_eq_true,Bool.or_eq_true,NQ] at h;cases k with
  |zero=>
   simp at hk;subst hk;rcases h.1 with h1|h1|h1|h1;·rw[Nat.add_zero] at hl;rw[hl] at h1;cases h1
   ·exact absurd h1 hne
   ·obtain⟨e,he,hb,h2⟩:=(PC _ _).1 h1;exact absurd h2 (hno e (by simpa using he) hb)
   ·exact h1
  |succ k=>exact QG l (d+1) h.2 k oj (by simpa using hk) (by rw[<-hl];congr 1;omega) (by omega) hno
/-! The machine. -/
inductive RM where
  | no
  | lst (ops : Array Oper) (is : List Nat)
  | any (ops : Array Oper) (fuel lm : Nat) (rd : List Nat)
  | sel (ops : Array Oper) (fuel lm : Nat) (rd : List Nat) (i : Nat)
  | lstN (ops : Array Oper) (i : Nat) (is : List Nat)
  | selN (ops : Array Oper) (fuel lm : Nat) (rd : List Nat) (i : Nat)
structure SM where
  r : RM
  todo : List Item
  sl : Slots
  hp : List HB
def SM.wf (m:SM):Bool:=m.sl.wf m.hp.length&&m.hp.all (HB.wf m.hp.length)
def IR (β:List Nat) (hp:List HB) (rd:List Nat) (w:World):Prop:=∀k∈rd,∀h,hp[k]? = some h->HB.lies w β (nm β k) h
def OH (rd:List Nat):List Nat:=rd.filter fun k=>Nat.blt k 1000
def VJ (rd:List Nat):List Nat:=(rd.filter fun k=>Nat.ble 1000 k).map fun k=>k-1000
def hitB (ops:Array Oper) (lm:Nat) (rd:List Nat):Bool:=(VJ rd).any fun e=>Nat.testBit lm e || !(Nat.blt e ops.size)
def rdE (ops:Array Oper) (lm:Nat) (rd:List Nat):List Nat:=match hitB ops lm rd with
 |true=>[]
 |false=>OH rd
def dR (ops:Array Oper) (lm:Nat) (rd:List Nat) (i:Nat):Bool:=hitB ops lm rd||(VJ rd).all fun e=>LT .any ops ops.size e i
theorem noE_of {ops:Array Oper} {lm:Nat} {rd:List Nat} (h:hitB ops lm rd=false):noE (VJ rd) (AO ops.size lm):=fun e he=>by
 have:=List.any_eq_false.1 h e he;simp only[Bool.or_eq_true,not_or,Bool.not_eq_true,Bool.not_eq_true',Bool.not_eq_false'] at this;exact HL.2 ⟨DI.1 (by simpa using this.2),by simpa using this.1⟩
theorem dL {ops:Array Oper} {lm:Nat} {rd:List Nat} (h:hitB ops lm rd=true): ¬noE (VJ rd) (AO ops.size lm):=fun hn=>by
 obtain⟨e,he,h2⟩:=List.any_eq_true.1 h;obtain⟨h3,h4⟩:=HL.1 (hn e he);rw[h4,DI.2 h3] at h2;cases h2
section
variable (P:Program) (f:FuncId) (R:Ending -> World -> Prop) (n:Nat)
def Gs (β:List Nat) (m:SM) (w:World):Prop:=match m.r with
 | .no=>GM P f R m.todo (fr n β m.sl) w
 | .lst ops is=>wpOps P ops (QQ P f R m.todo) is (fr n β m.sl) w
 | .any ops fuel lm rd=>FF .any ops (AO ops.size lm)->LmOk ops.size lm->Region.noSelect ops=true->BI P .any ops (QQ P f R m.todo) (IR β m.hp (OH rd)) (VJ rd) fuel (AO ops.size lm) (fr n β m.sl) w
 | .sel ops fuel lm rd i=>i∈VK lm ops.toList 0->FF .any ops (AO ops.size lm)->LmOk ops.size lm->Region.noSelect ops=true->wpOp P ops (QQ P f R m.todo) i (BI P .any ops (QQ P f R m.todo) (IR β m.hp (OH rd)) (VJ rd) fuel (AO ops.size (FU lm i))) (fr n β m.sl) w
 | .lstN ops i is=>match ops[i]? with
  |some o=>o.wp P (fr n β m.sl) w (wpOps P ops (QQ P f R m.todo) is) (QQ P f R m.todo)
  |none=>False
 | .selN ops fuel lm rd i=>i∈VK lm ops.toList 0->FF .any ops (AO ops.size lm)->LmOk ops.size lm->Region.noSelect ops=true->match ops[i]? with
  |some o=>o.wp P (fr n β m.sl) w (BI P .any ops (QQ P f R m.todo) (IR β m.hp (OH rd)) (VJ rd) fuel (AO ops.size (FU lm i))) (QQ P f R m.todo)
  |none=>False
def EH (m:SM):Option Oper:=match m.r with
 | .lstN ops i _=>ops[i]?
 | .selN ops _ _ _ i=>ops[i]?
 | .lst ops (i::_)=>ops[i]?
 | .sel ops _ _ _ i=>ops[i]?
 |_=>none
def XJ (m:SM):RM:=match m.r with
 | .lstN ops _ is=>.lst ops is
 | .selN ops fuel lm rd i=>.any ops fuel (FU lm i) rd
 | .lst ops (_::is)=>.lst ops is
 | .sel ops fuel lm rd i=>.any ops fuel (FU lm i) rd
 |r=>r
def gOk (m:SM) (o:Oper):Bool:=match m.r with
 | .lstN .. =>true
 | .selN .. =>true
 |_=>match o.guard with
  |none=>true
  |some _=>false
def HO (m:SM):List Nat:=match m.r with
 | .selN ops _ lm rd i=>rdE ops (FU lm i) rd
 | .sel ops _ lm rd i=>rdE ops (FU lm i) rd
 |_=>[]
def SM.put (m:SM) (dst:Option Tmp) (v:SV) (hp:List HB):SM:=⟨XJ m,m.todo,TO dst v m.sl,hp⟩
end
section
variable {P:Program} {f:FuncId} {R:Ending -> World -> Prop} {n:Nat} {β:List Nat} {m:SM} {w w0:World} {L:List Nat}
theorem VF {ops:Array Oper} {md:Region.Mode} {Q:Exit->Act->World->Prop} {I I':World->Prop} {es:List Nat} (h: ∀w,I w->I' w): ∀(f:Nat) (listed:Array Bool) (a:Act) (w:World),BI P md ops Q I es f listed a w->BI P md ops Q I' es f listed a w
 |0,_,_,_,g=>⟨fun hn=>h _ (g.1 hn),g.2⟩
 |f+1,_,_,_,g=>⟨fun hn=>h _ (g.1 hn),g.2.1,fun i hi=>wpOp_mono (fun a' w' h'=>VF h f _ a' w' h') (g.2.2 i hi)⟩
theorem LO {ops:Array Oper} {md:Region.Mode} {Q:Exit->Act->World->Prop} {I:World->Prop} {es:List Nat}: ∀(f:Nat) (listed:Array Bool) (a:Act) (w:World),BI P md ops Q I es f listed a w->BI P md ops Q (fun _=>True) [] f listed a w
 |0,_,_,_,g=>⟨fun _=>trivial,g.2⟩
 |f+1,_,_,_,g=>⟨fun _=>trivial,g.2.1,fun i hi=>wpOp_mono (fun a' w' h'=>LO f _ a' w' h') (g.2.2 i hi)⟩
theorem NI {ops:Array Oper} {md:Region.Mode} {Q:Exit->Act->World->Prop} {I:World->Prop} {es:List Nat}: ∀(f:Nat) (listed:Array Bool) (a:Act) (w:World),¬noE es listed->BI P md ops Q (fun _=>True) [] f listed a w->BI P md ops Q I es f listed a w
 |0,_,_,_,hn,g=>⟨fun h=>absurd h hn,g.2⟩
 |f+1,listed,_,_,hn,g=>⟨fun h=>absurd h hn,g.2.1,fun i hi=>wpOp_mono (fun a' w' h'=>NI f _ a' w' (fun h2=>hn fun e he=>by
  have h3:=h2 e he;by_cases hei:e=i
  ·subst hei;by_cases hlt:e<listed.size
   ·simp[Array.getD,hlt] at h3
   ·simp[Array.getD,hlt] at h3
  ·simp only[Array.getD,Array.size_setIfInBounds,Array.getInternal_eq_getElem] at h3⊢;split
   ·rename_i hlt;simpa[hlt,Ne.symm hei] using h3
   ·rename_i hlt;simp[hlt] at h3) h') (g.2.2 i hi)⟩
theorem VH {ops:Array Oper} {Q:Exit->Act->World->Prop} {β':List Nat} {hp hp':List HB} {lm fuel:Nat} {rd:List Nat} (hI: ∀w2,IR β' hp' (rdE ops lm rd) w2->IR β hp (rdE ops lm rd) w2) {a:Act} {w:World} (g:BI P .any ops Q (IR β' hp' (OH rd)) (VJ rd) fuel (AO ops.size lm) a w):BI P .any ops Q (IR β hp (OH rd)) (VJ rd) fuel (AO ops.size lm) a w:=by
 unfold rdE at hI;cases hb:hitB ops lm rd with
 |true=>exact NI _ _ _ _ (dL hb) (LO _ _ _ _ g)
 |false=>
  rw[hb] at hI;exact VF hI _ _ _ _ g
theorem Gs.op {o:Oper} (ho:EH m=some o) (hg:gOk m o=true)
  (h:o.wp P (fr n β m.sl) w (fun a' w'=>∃β' sl' hp',a'=fr n β' sl'/\(∀w2,IR β' hp' (HO m) w2->IR β m.hp (HO m) w2)/\Gs P f R n β' ⟨XJ m,m.todo,sl',hp'⟩ w') (fun _ _ _=>False)):Gs P f R n β m w:=by
 have hmono: ∀(K:Act->World->Prop) (Q:Exit->Act->World->Prop),(∀a' w',(∃β' sl' hp',a'=fr n β' sl'/\(∀w2,IR β' hp' (HO m) w2->IR β m.hp (HO m) w2)/\Gs P f R n β' ⟨XJ m,m.todo,sl',hp'⟩ w')->K a' w')->o.wp P (fr n β m.sl) w K Q:=by
  intro K Q hK;have h1:=Oper.wp_mono hK h;unfold Oper.wp at *;generalize (execOp (fr n β m.sl).eval o).run P w=r at *;cases r with
  |ok x w'=>
   cases x<;>simp only[Oper.upon] at h1⊢<;> first
    |exact h1
    |exact Calls.mono h1 (fun e w'' he=>by cases e<;>first|exact he|exact he.elim|(obtain⟨_,_,hx⟩:=he;exact hx.elim))
    |exact Rows.mono h1 (fun _ _ he=>he)
  |halt x w'=>cases x<;>simp only[Oper.upon] at h1⊢<;> first|exact h1.elim|exact h1
 obtain⟨r,todo,sl,hp⟩:=m;cases r with
 |no=>simp[EH] at ho
 |any ops fuel lm rd=>simp[EH] at ho
 |lst ops is=>
  cases is with
  |nil=>simp[EH] at ho
  |cons i is=>
   simp only[EH] at ho;show wpOps P ops (QQ P f R todo) (i::is) (fr n β sl) w;unfold wpOps;simp only[ho];rw[if_pos (by
    simp only[gOk] at hg;split at hg;·rename_i h1;simp[Region.wanted,h1]
    ·cases hg)]
   refine .inl (hmono _ _ ?_);rintro a' w' ⟨β',sl',hp',rfl,_,hG⟩;exact hG
 |lstN ops i is=>
  simp only[EH] at ho;show(match ops[i]? with|some o=>o.wp P (fr n β sl) w (wpOps P ops (QQ P f R todo) is) (QQ P f R todo)|none=>False);rw[ho];refine hmono _ _ ?_;rintro a' w' ⟨β',sl',hp',rfl,_,hG⟩;exact hG
 |selN ops fuel lm rd i=>
  simp only[EH] at ho;intro hr hcl hlm hns;dsimp only;rw[ho];refine hmono _ _ ?_;rintro a' w' ⟨β',sl',hp',rfl,hI,hG⟩;have hil:i<ops.size:=(Array.getElem?_eq_some_iff.1 ho).1;have hcl':FF .any ops (AO ops.size (FU lm i)):=by
   rw[<-EB hil];exact hcl.set ((FL hlm).2 hr)
  exact VH hI (hG hcl' (hlm.set hil) hns)
 |sel ops fuel lm rd i=>
  simp only[EH] at ho;intro hr hcl hlm hns;unfold wpOp;simp only[ho];rw[if_pos (by
   simp only[gOk] at hg;split at hg;·rename_i h1;simp[Region.wanted,h1]
   ·cases hg)]
  refine .inl (hmono _ _ ?_);rintro a' w' ⟨β',sl',hp',rfl,hI,hG⟩;have hil:i<ops.size:=(Array.getElem?_eq_some_iff.1 ho).1;have hcl':FF .any ops (AO ops.size (FU lm i)):=by
   rw[<-EB hil];exact hcl.set ((FL hlm).2 hr)
  exact VH hI (hG hcl' (hlm.set hil) hns)
theorem SM.wf_sl (h:m.wf=true):m.sl.wf m.hp.length=true:=by simp only[SM.wf,Bool.and_eq_true] at h;exact h.1
theorem SM.wf_hp (h:m.wf=true):m.hp.all (HB.wf m.hp.length)=true:=by simp only[SM.wf,Bool.and_eq_true] at h;exact h.2
theorem QC (h:m.wf=true) (x:Operand):(evS n m.sl x).wf m.hp.length=true:=by
 cases x with
 |tmp t=>
  simp only[evS];split;·exact Slots.wf_at (SM.wf_sl h) t
  ·rfl
 |const v=>rfl
 |global g=>rfl
 |func f=>rfl
theorem Gs.val {o:Oper} {v:SV} (ho:EH m=some o) (hg:gOk m o=true) (hv:(execOp (fun x=>(evS n m.sl x).den β) o).run P w = .ok (.value (v.den β)) w) (h:Gs P f R n β (m.put o.dst v m.hp) w):Gs P f R n β m w:=by
 refine Gs.op ho hg ?_;unfold Oper.wp;rw[EO,hv];exact⟨β,_,m.hp,EZ n β m.sl o.dst v,fun _ h=>h,h⟩
theorem IR.app {ν:List Nat} {rd:List Nat} {hp hp':List HB} (hlen:β.length=hp.length) (hw:hp.all (HB.wf hp.length)=true) (hk: ∀k∈rd,∀h,hp[k]? = some h->hp'[k]? = some h) {w2:World} (hI:IR (β++ν) hp' rd w2):IR β hp rd w2:=fun k hkr h hh=>by
 have h1:=hI k hkr h (hk k hkr h hh);have hwf:=List.all_eq_true.1 hw h (qE hh);rw[<-hlen] at hwf;rw[HB.lies_app _ hwf,NV _ _ _ (by rw[hlen];exact(List.getElem?_eq_some_iff.1 hh).1)] at h1;exact h1
theorem Gs.alloc {o:Oper} {T:TypeId} {cs:List SC} {sl:Option Nat} (H:Mem w0 L β m.hp w) (W:m.wf=true) (ho:EH m=some o) (hg:gOk m o=true) (hv:(execOp (fun x=>(evS n m.sl x).den β) o).run P w = .ok (.value (resV sl w.heap.size)) (w.alloc (.cells (DG β cs).toArray T))) (hcs:cs.all (SC.wf m.hp.length)=true)
  (h:Mem w0 L (β++[w.heap.size]) (m.hp++[.b true T cs]) (w.alloc (.cells (DG β cs).toArray T))->(m.put o.dst (.c (resC sl m.hp.length)) (m.hp++[.b true T cs])).wf=true->Gs P f R n (β++[w.heap.size]) (m.put o.dst (.c (resC sl m.hp.length)) (m.hp++[.b true T cs])) (w.alloc (.cells (DG β cs).toArray T))):Gs P f R n β m w:=by
 have hw:=SM.wf_hp W;have hcs':cs.all (SC.wf β.length)=true:=by rw[H.len];exact hcs
 have H2:Mem w0 L (β++[w.heap.size]) (m.hp++[.b true T cs]) (w.alloc (.cells (DG β cs).toArray T)):=
  H.push (by rw[H.len];exact hw) ((zR _ _).alloc _) (fun x hx=>by simp only[HB.blk,Option.some.injEq] at hx;omega) (by
   show Blk _ _ _ _;rw[RH _ hcs'];exact Blk.new _ _ _)
 refine Gs.op ho hg ?_;unfold Oper.wp;rw[EO,hv];refine⟨β++[w.heap.size],TO o.dst (.c (resC sl m.hp.length)) m.sl,(m.hp++[.b true T cs]:List HB),?_,fun w2 hI=>IR.app H.len hw (fun k _ h hh=>?_) hI,?_⟩
 ·rw[<-dD n [w.heap.size] (by rw[H.len];exact SM.wf_sl W),<-EZ];congr 1
  show _=(resC sl m.hp.length).den (β++[w.heap.size]);rw[resC_den,<-H.len,RV]
 ·rw[List.getElem?_append_left (List.getElem?_eq_some_iff.1 hh).1];exact hh
 ·refine h H2 ?_;simp only[SM.wf,SM.put,Bool.and_eq_true,zE,List.length_cons,List.length_nil,List.all_append,List.all_cons,List.all_nil,Bool.and_true];refine⟨DW (Slots.wf_mono (by omega) (SM.wf_sl W)) (by cases sl<;>exact DI.2 (by omega)),List.all_eq_true.2 fun x hx=>?_,List.all_eq_true.2 fun x hx=>SC.wf_mono (by omega) (List.all_eq_true.1 hcs x hx)⟩;have h1:=List.all_eq_true.1 hw x hx;cases x with
  |no=>rfl
  |s=>rfl
  |q=>rfl
  |r _ _ _=>rfl
  |b _ _ cs=>exact List.all_eq_true.2 fun y hy=>SC.wf_mono (by omega) (List.all_eq_true.1 h1 y hy)
theorem splice_wf {k:Nat} {cs ds:List SC} (o:Nat) (h1:cs.all (SC.wf k)=true) (h2:ds.all (SC.wf k)=true):(EG cs o ds).all (SC.wf k)=true:=List.all_eq_true.2 fun x hx=>by
 simp only[EG,List.mem_append] at hx;rcases hx with hx|hx|hx;·exact List.all_eq_true.1 h1 x (List.mem_of_mem_take hx)
 ·exact List.all_eq_true.1 h2 x hx
 ·exact List.all_eq_true.1 h1 x (List.mem_of_mem_drop hx)
theorem Mem.put {hp:List HB} {k T:Nat} {cs cs':List SC} {w':World} (H:Mem w0 L β hp w) (hk:hp[k]? = some (.b true T cs)) (O:Only [nm β k] w w') (hB:Blk w' (nm β k) T (DG β cs')):Mem w0 L β (hp.set k (.b true T cs')) w':=
 H.swap k hk O (fun x hx=>by simp only[qS] at hx;subst hx;rfl) rfl hB (fun x hx=>.inl hx)
theorem Mem.store {hp:List HB} {k off T:Nat} {cs ds:List SC} (H:Mem w0 L β hp w) (hk:hp[k]? = some (.b true T cs)) (hle:off+ds.length<=cs.length):Mem w0 L β (hp.set k (.b true T (EG cs off ds))) (w.setCells (nm β k) off (DG β ds)):=by
 have hB:Blk w (nm β k) T (DG β cs):=H.lies k _ hk;refine H.put hk (IP _ _ _) ?_;rw[eP];exact JO _ _ _ _ hB (by rw[IY,IY];exact hle)
theorem Gs.store {o:Oper} {k off T:Nat} {cs ds:List SC} (H:Mem w0 L β m.hp w) (W:m.wf=true) (ho:EH m=some o) (hg:gOk m o=true) (hk:m.hp[k]? = some (.b true T cs)) (hle:off+ds.length<=cs.length) (hds:ds.all (SC.wf m.hp.length)=true) (hrd:(HO m).contains k=false)
  (hv:(execOp (fun x=>(evS n m.sl x).den β) o).run P w = .ok .skip (w.setCells (nm β k) off (DG β ds)))
  (h:Mem w0 L β (m.hp.set k (.b true T (EG cs off ds))) (w.setCells (nm β k) off (DG β ds))->(m.put o.dst (.c (.v undef)) (m.hp.set k (.b true T (EG cs off ds)))).wf=true->Gs P f R n β (m.put o.dst (.c (.v undef)) (m.hp.set k (.b true T (EG cs off ds)))) (w.setCells (nm β k) off (DG β ds))):Gs P f R n β m w:=by
 have hw:=SM.wf_hp W;refine Gs.op ho hg ?_;unfold Oper.wp;rw[EO,hv];refine⟨β,_,m.hp.set k (.b true T (EG cs off ds)),EZ n β m.sl o.dst (.c (.v undef)),fun w2 hI i hi h hh=>?_,h (H.store hk hle) ?_⟩
 ·refine hI i hi h ?_;rw[List.getElem?_set,if_neg (fun e=>by
   subst e;simp at hrd;exact hrd hi)]
  exact hh
 ·simp only[SM.wf,SM.put,Bool.and_eq_true,List.length_set];refine⟨DW (SM.wf_sl W) rfl,List.all_eq_true.2 fun x hx=>?_⟩;rcases List.mem_or_eq_of_mem_set hx with hx|rfl;·exact List.all_eq_true.1 hw x hx
  ·exact splice_wf off (List.all_eq_true.1 hw _ (qE hk)) hds
theorem Gs.load {o:Oper} {k:Nat} {v:SV} (H:Mem w0 L β m.hp w) (ho:EH m=some o) (hg:gOk m o=true) (hs:bQ P (evS n m.sl) m.hp o=some (k,v)) (hl: ∀b,m.hp[k]? = some b->b.live=true) (h:Gs P f R n β (m.put o.dst v m.hp) w):Gs P f R n β m w:=
 Gs.val ho hg (bR hs fun b hb=>⟨hl b hb,H.lies k b hb⟩) h
end
end Go.Proofs.YtfbhemmpobgdpaaGreatDoor
namespace Go.Proofs.YtfbhemmpobgdpaaGreatDoor
def forceN {α:Type} (n:Nat) (f:Nat->α):α:=Nat.rec (f 0) (fun k _=>f (k+1)) n
theorem forceN_eq {α:Type} (n:Nat) (f:Nat->α):forceN n f=f n:=by cases n<;>rfl
section
variable (P:Program) (n:Nat) (β:List Nat)
def exOp (m:SM) (o:Oper):Option SM:=match gOk m o with
 |false=>none
 |true=>match sval P β (evS n m.sl) o with
  |some v=>some (m.put o.dst v m.hp)
  |none=>match bQ P (evS n m.sl) m.hp o with
   |some (k,v)=>match m.hp[k]? with
    |some h=>match h.live with
     |true=>some (m.put o.dst v m.hp)
     |false=>none
    |none=>none
   |none=>match seff P β (evS n m.sl) m.hp o with
    |some (.alloc T cs sl)=>forceN m.hp.length fun k=>some (m.put o.dst (.c (resC sl k)) (m.hp++[.b true T cs]))
    |some (.store k off T cs ds)=>match(HO m).contains k with
     |false=>some (m.put o.dst (.c (.v undef)) (m.hp.set k (.b true T (EG cs off ds))))
     |true=>none
    |none=>none
def UB (sl:Slots) (hp:List HB) (rd:List Nat) (o:Oper):Option SV:=match sval P β (evS n sl) o with
 |some v=>some v
 |none=>match bQ P (evS n sl) hp o with
  |some (k,v)=>match rd.contains k with
   |true=>match hp[k]? with
    |some h=>match h.live with
     |true=>some v
     |false=>none
    |none=>none
   |false=>none
  |none=>none
def litB:SV->Option Bool
 | .c (.v (.bool true))=>some true
 | .c (.v (.bool false))=>some false
 |_=>none
def notB:SV->Bool
 | .c (.v (.tuple _))=>true
 |_=>false
def gTake (ge:List Nat) (ops:Array Oper) (sl:Slots) (o:Oper):Option Bool:=match o.guard with
 |none=>some true
 |some (j,b)=>match ge.contains j with
  |true=>match ops[j]? with
   |some oj=>match oj.dst with
    |some d=>match Nat.blt d n with
     |true=>match litB (sl.at d) with
      |some x=>some (x==b)
      |none=>match notB (sl.at d) with
       |true=>some false
       |false=>none
     |false=>none
    |none=>none
   |none=>none
  |false=>none
def takeV (ge:List Nat) (ops:Array Oper) (sl:Slots) (hp:List HB) (rd:List Nat) (o:Oper):Option SV:=match gTake n ge ops sl o with
 |some true=>UB P n β sl hp rd o
 |some false=>some (.c (.v undef))
 |none=>none
def HI (ge:List Nat) (ops:Array Oper) (lm:Nat) (sl:Slots) (hp:List HB) (rd:List Nat):List Nat->Option (Nat×Oper×SV)
 |[]=>none
 |i::r=>match ops[i]? with
  |some o=>match takeV P n β ge ops sl hp rd o with
   |some v=>match aK ops lm i o ops.toList 0 with
    |true=>some (i,o,v)
    |false=>HI ge ops lm sl hp rd r
   |none=>HI ge ops lm sl hp rd r
  |none=>HI ge ops lm sl hp rd r
def ctl (m:SM):Option SM:=match m.todo with
 | .code .skip::k=>some ⟨.no,k,m.sl,m.hp⟩
 | .code (.label _)::k=>some ⟨.no,k,m.sl,m.hp⟩
 | .code (.seq a b)::k=>some ⟨.no,.code a :: .code b::k,m.sl,m.hp⟩
 | .code (.block id c)::k=>some ⟨.no,.code c :: .inBlock id::k,m.sl,m.hp⟩
 | .inBlock _::k=>some ⟨.no,k,m.sl,m.hp⟩
 | .code (.scope c)::k=>some ⟨.no,.code c :: .inScope c::k,m.sl,m.hp⟩
 | .inScope _::k=>some ⟨.no,k,m.sl,m.hp⟩
 | .code (.exit id)::k=>match exitTo id k with
  |some k'=>some ⟨.no,k',m.sl,m.hp⟩
  |none=>none
 | .code (.region _ ops false)::k=>some ⟨.lst ops (List.range ops.size),k,m.sl,m.hp⟩
 |_=>none
end
def BD (m:SM):Option Tmp:=match EH m with
 |some o=>o.dst
 |none=>none
def OV (n:Nat) (β:List Nat) (m:SM):Option (Value×Bool):=match m.r with
 | .lst ops (i::_)=>match ops[i]? with
  |some o=>match o.guard with
   |some (j,b)=>match ops[j]? with
    |some oj=>match oj.dst with
     |some d=>match Nat.blt d n with
      |true=>some ((m.sl.at d).den β,b)
      |false=>none
     |none=>none
    |none=>none
   |none=>none
  |none=>none
 | .sel ops _ _ _ i=>match ops[i]? with
  |some o=>match o.guard with
   |some (j,b)=>match ops[j]? with
    |some oj=>match oj.dst with
     |some d=>match Nat.blt d n with
      |true=>some ((m.sl.at d).den β,b)
      |false=>none
     |none=>none
    |none=>none
   |none=>none
  |none=>none
 |_=>none
def SS (m:SM):SM:=match m.r with
 | .lst ops (i::is)=>⟨.lstN ops i is,m.todo,m.sl,m.hp⟩
 | .sel ops fuel lm rd i=>⟨.selN ops fuel lm rd i,m.todo,m.sl,m.hp⟩
 |_=>m
section
variable (P:Program) (n:Nat) (β:List Nat)
def RA (m:SM):Option SM:=match OV n β m with
 |some (.bool true,true)=>some (SS m)
 |some (.bool false,false)=>some (SS m)
 |some (.bool true,false)=>some (m.put (BD m) (.c (.v undef)) m.hp)
 |some (.bool false,true)=>some (m.put (BD m) (.c (.v undef)) m.hp)
 |some (.tuple _,_)=>some (m.put (BD m) (.c (.v undef)) m.hp)
 |_=>none
def exG (ge:List Nat) (m:SM) (o:Oper):Option SM:=match o.guard with
 |none=>exOp P n β m o
 |some (j,_)=>match ge.contains j with
  |true=>RA n β m
  |false=>none
def GU (ge:List Nat) (m:SM):Option SM:=match m.r with
 | .no=>ctl m
 | .lst _ []=>some ⟨.no,m.todo,m.sl,m.hp⟩
 | .lst ops (i::_)=>match ops[i]? with
  |some o=>exG P n β ge m o
  |none=>none
 | .sel ops _ _ _ i=>match ops[i]? with
  |some o=>exG P n β ge m o
  |none=>none
 | .lstN ops i _=>match ops[i]? with
  |some o=>exOp P n β m o
  |none=>none
 | .selN ops _ _ _ i=>match ops[i]? with
  |some o=>exOp P n β m o
  |none=>none
 | .any ops fuel lm rd=>match VK lm ops.toList 0 with
  |[]=>some ⟨.no,m.todo,m.sl,m.hp⟩
  |i0::rs=>match fuel with
   |0=>none
   |fuel+1=>match HI P n β ge ops lm m.sl m.hp (rdE ops lm rd) ((i0::rs).filter (dR ops lm rd)) with
    |some (i,o,v)=>some ⟨.any ops fuel (FU lm i) rd,m.todo,TO o.dst v m.sl,m.hp⟩
    |none=>match rs with
     |[]=>some ⟨.sel ops fuel lm rd i0,m.todo,m.sl,m.hp⟩
     |_=>none
def run (ge:List Nat):Nat->SM->SM
 |0,m=>m
 |k+1,m=>match GU P n β ge m with
  |some m'=>run ge k m'
  |none=>m
end
section
variable {P:Program} {f:FuncId} {R:Ending -> World -> Prop} {n:Nat} {β ν:List Nat} {m m':SM} {w w0:World} {L:List Nat} {ge:List Nat}
theorem iD {ρ:Operand->SV} (hρ: ∀x,(ρ x).wf β.length=true) (o:Oper):sval P (β++ν) ρ o=sval P β ρ o:=by
 have hg:JI P (β++ν) ρ o=JI P β ρ o:=by
  have e:(fun x=>(ρ x).den (β++ν))=fun x=>(ρ x).den β:=funext fun x=>SV.den_app ν (hρ x);unfold JI;rw[e]
 unfold sval;rw[hg]
theorem seff_app {ρ:Operand->SV} (hρ: ∀x,(ρ x).wf β.length=true) (hp:List HB) (o:Oper):seff P (β++ν) ρ hp o=seff P β ρ hp o:=by
 have e: ∀x,(ρ x).den (β++ν)=(ρ x).den β:=fun x=>SV.den_app ν (hρ x);simp only[seff,e]
theorem exOp_app (hl:β.length=m.hp.length) (W:m.wf=true) (o:Oper):exOp P n (β++ν) m o=exOp P n β m o:=by
 unfold exOp;rw[iD (fun x=>by rw[hl];exact QC W x),seff_app (fun x=>by rw[hl];exact QC W x)]
theorem takeV_app (hl:β.length=m.hp.length) (W:m.wf=true) (ops:Array Oper) (rd:List Nat) (o:Oper):takeV P n (β++ν) ge ops m.sl m.hp rd o=takeV P n β ge ops m.sl m.hp rd o:=by
 unfold takeV UB;rw[iD (fun x=>by rw[hl];exact QC W x)]
theorem RJ (hl:β.length=m.hp.length) (W:m.wf=true) (ops:Array Oper) (lm:Nat) (rd:List Nat): ∀rs,HI P n (β++ν) ge ops lm m.sl m.hp rd rs=HI P n β ge ops lm m.sl m.hp rd rs
 |[]=>rfl
 |i::r=>by
  simp only[HI,takeV_app hl W,RJ hl W ops lm rd r]
theorem UR (hl:β.length=m.hp.length) (W:m.wf=true):GU P n (β++ν) ge m=GU P n β ge m:=by
 have hy:OV n (β++ν) m=OV n β m:=by
  have hd: ∀d,(m.sl.at d).den (β++ν)=(m.sl.at d).den β:=fun d=>SV.den_app ν (by rw[hl];exact Slots.wf_at (SM.wf_sl W) d);simp only[OV,hd]
 have hg:RA n (β++ν) m=RA n β m:=by simp only[RA,hy]
 simp only[GU,exG,hg,exOp_app hl W,RJ hl W]
theorem iF {rd:List Nat} {o:Oper} {v:SV} (h:UB P n β m.sl m.hp rd o=some v):(∀w',IR β m.hp rd w'->(execOp (fun x=>(evS n m.sl x).den β) o).run P w' = .ok (.value (v.den β)) w'):=by
 unfold UB at h
 ·intro w' hI;split at h
  ·rename_i v' hv;injection h with h;subst h;exact iE hv w'
  ·split at h
   ·rename_i k v' hs;split at h
    ·rename_i hc;split at h
     ·rename_i b hb;split at h
      ·rename_i hlive;injection h with h;subst h;refine bR hs fun b' hb'=>?_;rw[hb] at hb';injection hb' with hb';subst hb';exact⟨hlive,hI k (by simpa using hc) b hb⟩
      ·cases h
     ·cases h
    ·cases h
   ·cases h
theorem takeV0_wf {rd:List Nat} {o:Oper} {v:SV} (W:m.wf=true) (h:UB P n β m.sl m.hp rd o=some v):v.wf m.hp.length=true:=by
 unfold UB at h
 ·split at h
  ·rename_i v' hv;injection h with h;subst h;exact sval_wf (QC W) hv
  ·split at h
   ·rename_i k v' hs;split at h
    ·split at h
     ·split at h
      ·injection h with h;subst h;obtain⟨t,x,off,b,_,_,hb,hp⟩:=QP hs;refine XU hp ?_;have:=List.all_eq_true.1 (SM.wf_hp W) b (qE hb);cases b with
       |no=>rfl
       |s=>rfl
       |q=>rfl
       |b _ _ cs=>exact this
       |r _ _ vs=>simp[HB.cs,SC.wf]
      ·cases h
     ·cases h
    ·cases h
   ·cases h
theorem takeV_wf {ops:Array Oper} {rd:List Nat} {o:Oper} {v:SV} (W:m.wf=true) (h:takeV P n β ge ops m.sl m.hp rd o=some v):v.wf m.hp.length=true:=by
 unfold takeV at h;split at h;·exact takeV0_wf W h
 ·injection h with h;subst h;rfl
 ·cases h
theorem IN {ops:Array Oper} {lm:Nat} {rd:List Nat} {i:Nat} {o:Oper} {v:SV}: ∀{rs:List Nat},HI P n β ge ops lm m.sl m.hp rd rs=some (i,o,v)->i∈rs/\ops[i]? = some o/\takeV P n β ge ops m.sl m.hp rd o=some v/\aK ops lm i o ops.toList 0=true
 |[],h=>by cases h
 |j::r,h=>by
  simp only[HI] at h;split at h
  ·rename_i o' ho;split at h
   ·rename_i v' hv;split at h
    ·rename_i hf;injection h with h;injection h with h1 h2;injection h2 with h2 h3;subst h1;subst h2;subst h3;exact⟨by simp,ho,hv,hf⟩
    ·obtain⟨h1,h2⟩:=IN h;exact⟨List.mem_cons_of_mem _ h1,h2⟩
   ·obtain⟨h1,h2⟩:=IN h;exact⟨List.mem_cons_of_mem _ h1,h2⟩
  ·obtain⟨h1,h2⟩:=IN h;exact⟨List.mem_cons_of_mem _ h1,h2⟩
theorem QD {o:Oper} (H:Mem w0 L β m.hp w) (W:m.wf=true) (ho:EH m=some o) (h:exOp P n β m o=some m') (hk: ∀ν w',Mem w0 L (β++ν) m'.hp w'->m'.wf=true->Gs P f R n (β++ν) m' w'):Gs P f R n β m w:=by
 have k0: ∀w',Mem w0 L β m'.hp w'->m'.wf=true->Gs P f R n β m' w':=fun w' h1 h2=>by
  have:=hk [] w';simp only[qN] at this;exact this h1 h2
 unfold exOp at h;split at h;·cases h
 ·rename_i hg;split at h
  ·rename_i v hv;injection h with h;subst h;refine Gs.val ho hg (iE hv w) (k0 w H ?_);simp only[SM.wf,SM.put,Bool.and_eq_true];exact⟨DW (SM.wf_sl W) (sval_wf (QC W) hv),SM.wf_hp W⟩
  ·split at h
   ·rename_i k v hs;split at h
    ·rename_i b hb;split at h
     ·rename_i hlive;injection h with h;subst h;refine Gs.load H ho hg hs (fun b' hb'=>by rw[hb] at hb';injection hb' with hb';subst hb';exact hlive) (k0 w H ?_);obtain⟨t,x,off,b',_,_,hb',hp⟩:=QP hs;simp only[SM.wf,SM.put,Bool.and_eq_true];refine⟨DW (SM.wf_sl W) (XU hp ?_),SM.wf_hp W⟩;have:=List.all_eq_true.1 (SM.wf_hp W) b' (qE hb');cases b' with
      |no=>rfl
      |s=>rfl
      |q=>rfl
      |b _ _ cs=>exact this
      |r _ _ vs=>simp[HB.cs,SC.wf]
     ·cases h
    ·cases h
   ·split at h
    ·rename_i T cs sl he;rw[forceN_eq] at h;injection h with h;subst h;exact Gs.alloc H W ho hg (kT he w) (ZO he (QC W)) (fun h1 h2=>hk _ _ h1 h2)
    ·rename_i k off T cs ds he;obtain⟨t,x,y,h1,h2,h3,h4,h5,h6,h7⟩:=NL he;split at h
     ·rename_i hrd;injection h with h;subst h;exact Gs.store H W ho hg h3 h6 (eJ h4 (QC W y)) hrd (kU he (H.at k h3)) (fun h1 h2=>k0 _ h1 h2)
     ·cases h
    ·cases h
theorem QT {ops:Array Oper} {j d:Nat} {oj:Oper} {sl:Slots} {x:Bool} (h1:ops[j]? = some oj) (h2:oj.dst=some d) (h3:d<n) (h4:(sl.at d).den β = .bool x):yielded ops (fr n β sl).tmps j=some x:=by
 have h5:(fr n β sl).tmps[d]? = some (.bool x):=by
  have:=fr_get n β sl d h3;rw[h4] at this;have hs:d<(fr n β sl).tmps.size:=by simp[fr,h3]
  rw[Array.getElem?_eq_getElem hs];simp[Array.getD,hs] at this;rw[this]
 simp[yielded,h1,h2,h5]
theorem QU {ops:Array Oper} {j d:Nat} {oj:Oper} {sl:Slots} {x:Array Value} (h1:ops[j]? = some oj) (h2:oj.dst=some d) (h3:d<n) (h4:(sl.at d).den β = .tuple x):yielded ops (fr n β sl).tmps j=none:=by
 have h5:(fr n β sl).tmps[d]? = some (.tuple x):=by
  have:=fr_get n β sl d h3;rw[h4] at this;have hs:d<(fr n β sl).tmps.size:=by simp[fr,h3]
  rw[Array.getElem?_eq_getElem hs];simp[Array.getD,hs] at this;rw[this]
 simp[yielded,h1,h2,h5]
theorem Gs.guard {b:Bool} (x:Bool) (hc:OV n β m=some (.bool x,b)) (ht:x=b->Gs P f R n β (SS m) w) (hf:x≠b->Gs P f R n β (m.put (BD m) (.c (.v undef)) m.hp) w):Gs P f R n β m w:=by
 obtain⟨r,todo,sl,hp⟩:=m;unfold OV at hc;dsimp only at hc;split at hc
 ·rename_i ops i is;split at hc
  ·rename_i o ho;split at hc
   ·rename_i j b' hg;split at hc
    ·rename_i oj hj;split at hc
     ·rename_i d hd;split at hc
      ·rename_i hlt;injection hc with hc;injection hc with hc1 hc2;subst hc2;have hy:=QT (n:=n) (β:=β) (sl:=sl) hj hd (DI.1 hlt) hc1;show wpOps P ops (QQ P f R todo) (i::is) (fr n β sl) w;unfold wpOps;simp only[ho];by_cases hx:x=b'
       ·rw[if_pos (by simp[Region.wanted,hg,hy,hx])];have g:=ht hx;refine .inl ?_;simp only[SS,Gs] at g;rw[ho] at g;exact g
       ·rw[if_neg (by simp[Region.wanted,hg,hy,hx])];have g:=hf hx;simp only[SM.put,XJ,BD,EH,ho,Gs] at g;rw[<-EZ] at g;exact g
      ·cases hc
     ·cases hc
    ·cases hc
   ·cases hc
  ·cases hc
 ·rename_i ops fuel lm rd i;split at hc
  ·rename_i o ho;split at hc
   ·rename_i j b' hg;split at hc
    ·rename_i oj hj;split at hc
     ·rename_i d hd;split at hc
      ·rename_i hlt;injection hc with hc;injection hc with hc1 hc2;subst hc2;have hy:=QT (n:=n) (β:=β) (sl:=sl) hj hd (DI.1 hlt) hc1;intro hr hcl hlm hns;unfold wpOp;simp only[ho];by_cases hx:x=b'
       ·rw[if_pos (by simp[Region.wanted,hg,hy,hx])];have g:=ht hx;refine .inl ?_;simp only[SS,Gs] at g;have g:=g hr hcl hlm hns;rw[ho] at g;exact g
       ·rw[if_neg (by simp[Region.wanted,hg,hy,hx])];have g:=hf hx;have hil:i<ops.size:=(Array.getElem?_eq_some_iff.1 ho).1;have hcl':FF .any ops (AO ops.size (FU lm i)):=by
         rw[<-EB hil];exact hcl.set ((FL hlm).2 hr)
        simp only[SM.put,XJ,BD,EH,ho,Gs] at g;have g:=g hcl' (hlm.set hil) hns;rw[<-EZ] at g;exact g
      ·cases hc
     ·cases hc
    ·cases hc
   ·cases hc
  ·cases hc
 ·cases hc
theorem Gs.guardN {b:Bool} {x:Array Value} (hc:OV n β m=some (.tuple x,b)) (hf:Gs P f R n β (m.put (BD m) (.c (.v undef)) m.hp) w):Gs P f R n β m w:=by
 obtain⟨r,todo,sl,hp⟩:=m;unfold OV at hc;dsimp only at hc;split at hc
 ·rename_i ops i is;split at hc
  ·rename_i o ho;split at hc
   ·rename_i j b' hg;split at hc
    ·rename_i oj hj;split at hc
     ·rename_i d hd;split at hc
      ·rename_i hlt;injection hc with hc;injection hc with hc1 hc2;subst hc2;have hy:=QU (n:=n) (β:=β) (sl:=sl) hj hd (DI.1 hlt) hc1;show wpOps P ops (QQ P f R todo) (i::is) (fr n β sl) w;unfold wpOps;simp only[ho]
       ·rw[if_neg (by simp[Region.wanted,hg,hy])];have g:=hf;simp only[SM.put,XJ,BD,EH,ho,Gs] at g;rw[<-EZ] at g;exact g
      ·cases hc
     ·cases hc
    ·cases hc
   ·cases hc
  ·cases hc
 ·rename_i ops fuel lm rd i;split at hc
  ·rename_i o ho;split at hc
   ·rename_i j b' hg;split at hc
    ·rename_i oj hj;split at hc
     ·rename_i d hd;split at hc
      ·rename_i hlt;injection hc with hc;injection hc with hc1 hc2;subst hc2;have hy:=QU (n:=n) (β:=β) (sl:=sl) hj hd (DI.1 hlt) hc1;intro hr hcl hlm hns;unfold wpOp;simp only[ho]
       ·rw[if_neg (by simp[Region.wanted,hg,hy])];have g:=hf;have hil:i<ops.size:=(Array.getElem?_eq_some_iff.1 ho).1;have hcl':FF .any ops (AO ops.size (FU lm i)):=by
         rw[<-EB hil];exact hcl.set ((FL hlm).2 hr)
        simp only[SM.put,XJ,BD,EH,ho,Gs] at g;have g:=g hcl' (hlm.set hil) hns;rw[<-EZ] at g;exact g
      ·cases hc
     ·cases hc
    ·cases hc
   ·cases hc
  ·cases hc
 ·cases hc
theorem notB_spec {v:SV} (h:notB v=true): ∃x,v.den β = .tuple x:=by
 unfold notB at h;split at h;·rename_i a;exact⟨a,rfl⟩
 ·cases h
theorem litB_spec {v:SV} {x:Bool} (h:litB v=some x):v.den β = .bool x:=by
 unfold litB at h;split at h;·injection h with h;subst h;rfl
 ·injection h with h;subst h;rfl
 ·cases h
theorem WX {ops:Array Oper} {sl:Slots} {o:Oper} {x:Bool} (h:gTake n ge ops sl o=some x):Region.wanted o (yielded ops (fr n β sl).tmps)=x:=by
 unfold gTake at h;split at h;·rename_i hg;injection h with h;subst h;simp[Region.wanted,hg]
 ·rename_i j b hg;split at h
  ·split at h
   ·rename_i oj hj;split at h
    ·rename_i d hd;split at h
     ·rename_i hlt;split at h
      ·rename_i y hy;injection h with h;have:=QT (n:=n) (β:=β) (sl:=sl) hj hd (DI.1 hlt) (litB_spec hy);simp only[Region.wanted,hg,this];subst h;cases y<;>cases b<;>rfl
      ·split at h
       ·rename_i hy;injection h with h;subst h;obtain⟨a,ha⟩:=notB_spec (β:=β) hy;have:=QU (n:=n) (β:=β) (sl:=sl) hj hd (DI.1 hlt) ha;simp[Region.wanted,hg,this]
       ·cases h
     ·cases h
    ·cases h
   ·cases h
  ·cases h
theorem dZ {ops:Array Oper} {rd:List Nat} {o:Oper} {v:SV} (h:takeV P n β ge ops m.sl m.hp rd o=some v) {w':World} (hI:IR β m.hp rd w'):YieldsAt P ops w' o (v.den β) (fr n β m.sl):=by
 unfold takeV at h;split at h
 ·rename_i hg;exact .inl ⟨WX hg,.inl (by rw[EO];exact iF h w' hI)⟩
 ·rename_i hg;injection h with h;subst h;exact .inr ⟨WX hg,rfl⟩
 ·cases h
theorem iN:(SS m).hp=m.hp:=by
 unfold SS;split<;>rfl
theorem iO:(SS m).wf=m.wf:=by
 unfold SS;split<;>rfl
theorem put_wf (W:m.wf=true):(m.put (BD m) (.c (.v undef)) m.hp).wf=true:=by
 simp only[SM.wf,SM.put,Bool.and_eq_true];exact⟨DW (SM.wf_sl W) rfl,SM.wf_hp W⟩
theorem aD {o:Oper} (H:Mem w0 L β m.hp w) (W:m.wf=true) (ho:EH m=some o) (h:exG P n β ge m o=some m') (hk: ∀ν w',Mem w0 L (β++ν) m'.hp w'->m'.wf=true->Gs P f R n (β++ν) m' w'):Gs P f R n β m w:=by
 have k0: ∀w',Mem w0 L β m'.hp w'->m'.wf=true->Gs P f R n β m' w':=fun w' h1 h2=>by
  have:=hk [] w';simp only[qN] at this;exact this h1 h2
 unfold exG at h;split at h;·exact QD H W ho h hk
 ·split at h
  ·unfold RA at h;split at h
   ·rename_i hy;injection h with h;subst h;exact Gs.guard true hy (fun _=>k0 w (by rw[iN];exact H) (by rw[iO];exact W)) (fun hx=>absurd rfl hx)
   ·rename_i hy;injection h with h;subst h;exact Gs.guard false hy (fun _=>k0 w (by rw[iN];exact H) (by rw[iO];exact W)) (fun hx=>absurd rfl hx)
   ·rename_i hy;injection h with h;subst h;exact Gs.guard true hy (fun hx=>by cases hx) (fun _=>k0 w H (put_wf W))
   ·rename_i hy;injection h with h;subst h;exact Gs.guard false hy (fun hx=>by cases hx) (fun _=>k0 w H (put_wf W))
   ·rename_i hy;injection h with h;subst h;exact Gs.guardN hy (k0 w H (put_wf W))
   ·cases h
  ·cases h
theorem ctl_sound (W:m.wf=true) (hr:m.r = .no) (h:ctl m=some m'):m'.hp=m.hp/\m'.wf=true/\(Gs P f R n β m' w->Gs P f R n β m w):=by
 obtain⟨r,todo,sl,hp⟩:=m;cases hr;unfold ctl at h;dsimp only at h;split at h;·injection h with h;subst h;exact⟨rfl,W,GM.step fun _ cs=>step_skip⟩
 ·injection h with h;subst h;exact⟨rfl,W,GM.step fun _ cs=>step_label⟩
 ·injection h with h;subst h;exact⟨rfl,W,GM.step fun _ cs=>step_seq⟩
 ·injection h with h;subst h;exact⟨rfl,W,GM.step fun _ cs=>step_block⟩
 ·injection h with h;subst h;exact⟨rfl,W,GM.step fun _ cs=>step_inBlock⟩
 ·injection h with h;subst h;exact⟨rfl,W,GM.step fun _ cs=>step_scope⟩
 ·injection h with h;subst h;exact⟨rfl,W,GM.step fun _ cs=>step_inScope⟩
 ·split at h
  ·rename_i he;injection h with h;subst h;exact⟨rfl,W,GM.step fun _ cs=>step_exit he⟩
  ·cases h
 ·injection h with h;subst h;exact⟨rfl,W,fun g=>GM.code (wp_region g)⟩
 ·cases h
theorem PQ (H:Mem w0 L β m.hp w) (W:m.wf=true) (h:GU P n β ge m=some m') (hk: ∀ν w',Mem w0 L (β++ν) m'.hp w'->m'.wf=true->Gs P f R n (β++ν) m' w'):Gs P f R n β m w:=by
 have k0: ∀w',Mem w0 L β m'.hp w'->m'.wf=true->Gs P f R n β m' w':=fun w' h1 h2=>by
  have:=hk [] w';simp only[qN] at this;exact this h1 h2
 unfold GU at h;split at h
 ·rename_i hr;obtain⟨h1,h2,h3⟩:=ctl_sound (f:=f) (R:=R) (n:=n) (β:=β) (w:=w) W hr h;exact h3 (k0 w (by rw[h1];exact H) h2)
 ·rename_i ops hr;injection h with h;subst h;have g:=k0 w H W;obtain⟨r,todo,sl,hp⟩:=m;cases hr;show wpOps P ops (QQ P f R todo) [] (fr n β sl) w;unfold wpOps;exact⟨rfl,g⟩
 ·rename_i ops i is hr;split at h
  ·rename_i o ho;exact aD H W (by simp[EH,hr,ho]) h hk
  ·cases h
 ·rename_i ops fuel lm rd i hr;split at h
  ·rename_i o ho;exact aD H W (by simp[EH,hr,ho]) h hk
  ·cases h
 ·rename_i ops i is hr;split at h
  ·rename_i o ho;exact QD H W (by simp[EH,hr,ho]) h hk
  ·cases h
 ·rename_i ops fuel lm rd i hr;split at h
  ·rename_i o ho;exact QD H W (by simp[EH,hr,ho]) h hk
  ·cases h
 ·rename_i ops fuel lm rd hr;have hI:IR β m.hp (OH rd) w:=fun k _ h hh=>H.lies k h hh;split at h
  ·rename_i hrdy;injection h with h;subst h;have g:=k0 w H W;obtain⟨r,todo,sl,hp⟩:=m;cases hr;intro hcl hlm hns;have hno: ∀i,i∉Region.ready .any ops (AO ops.size lm):=fun i hi=>by
    rw[FL hlm,hrdy] at hi;cases hi
   have he:Region.ready .any ops (AO ops.size lm)=[]:=List.eq_nil_iff_forall_not_mem.2 hno;cases fuel with
   |zero=>exact⟨fun _=>hI,he,rfl,g⟩
   |succ f=>exact⟨fun _=>hI,fun _=>⟨rfl,g⟩,fun i hi=>absurd hi (hno i)⟩
  ·rename_i i0 rs hrdy;split at h;·cases h
   ·rename_i fuel;split at h
    ·rename_i i o v hft;injection h with h;subst h;obtain⟨hi,ho,hv,hfree⟩:=IN hft;obtain⟨hi,hrb⟩:=List.mem_filter.1 hi;have g:=k0 w H (by
      simp only[SM.wf,Bool.and_eq_true];exact⟨DW (SM.wf_sl W) (takeV_wf W hv),SM.wf_hp W⟩)
     obtain⟨r,todo,sl,hp⟩:=m;cases hr;intro hcl hlm hns;have hyld:=fun w' hI'=>dZ (m:=⟨.any ops (fuel+1) lm rd,todo,sl,hp⟩) hv (w':=w') hI';have hil:i<ops.size:=(Array.getElem?_eq_some_iff.1 ho).1;have hready:i∈Region.ready .any ops (AO ops.size lm):=by rw[FL hlm,hrdy];exact hi
     have hcl':FF .any ops (AO ops.size (FU lm i)):=by rw[<-EB hil];exact hcl.set hready
     have g2:=g hcl' (hlm.set hil) hns;have hap: ∀j oj,ops[j]? = some oj->j≠i->(AO ops.size lm).getD j true=false->(∀e∈oj.after,Region.binds .any e=true->e.on≠i)->o.apart ops oj=true:=fun j oj hj hne hun hno=>by
      refine QG ops.toList 0 hfree j oj (by simpa using hj) ?_ (by simpa using hne) hno;rw[Nat.zero_add];exact(HL.1 hun).2
     have g3:BI P .any ops (QQ P f R todo) (IR β hp (OH rd)) (VJ rd) fuel ((AO ops.size lm).setIfInBounds i true) ((fr n β sl).put o.dst (v.den β)) w:=by
      rw[EB hil,EZ];exact g2
     unfold rdE at hyld;cases hb:hitB ops lm rd with
     |true=>
      rw[hb] at hyld;refine NI _ _ _ _ (dL hb) ?_;exact takeE (v:=v.den β) ho (Region.noSelect_spec hns) (fun c a w hp=>by cases hp.1) 0 (fun e he=>by cases he) fuel _ _ w hcl (fun e he=>by cases he) trivial hap hready (fun w' _=>hyld w' (fun k hk=>by cases hk)) (LO _ _ _ _ g3)
     |false=>
      rw[hb] at hyld;unfold dR at hrb;rw[hb,Bool.false_or] at hrb;exact takeE (v:=v.den β) ho (Region.noSelect_spec hns) (fun c a w hp=>by cases hp.1) ops.size (fun e he=>List.all_eq_true.1 hrb e he) fuel _ _ w hcl (noE_of hb) hI hap hready (fun w' hI'=>hyld w' hI') g3
    ·split at h
     ·injection h with h;subst h;have g:=k0 w H W;obtain⟨r,todo,sl,hp⟩:=m;cases hr;intro hcl hlm hns;have hready:i0∈Region.ready .any ops (AO ops.size lm):=by rw[FL hlm,hrdy];simp
      have hil:i0<ops.size:=by
       obtain⟨_,o,ho,_⟩:=mem_ready.1 hready;exact(Array.getElem?_eq_some_iff.1 ho).1
      refine⟨fun _=>hI,fun he=>(by rw[he] at hready;cases hready),fun j hj=>?_⟩;rw[FL hlm,hrdy] at hj;obtain rfl:j=i0:=by simpa using hj
      rw[EB hil];exact g (by rw[hrdy];simp) hcl hlm hns
     ·cases h
theorem TR: ∀(k:Nat) (β:List Nat) (m:SM) (w:World),Mem w0 L β m.hp w->m.wf=true->(∀ν w',Mem w0 L (β++ν) (run P n (β++ν) ge k m).hp w'->(run P n (β++ν) ge k m).wf=true->Gs P f R n (β++ν) (run P n (β++ν) ge k m) w')->Gs P f R n β m w
 |0,β,m,w,H,W,h=>by
  have:=h [] w;simp only[qN] at this;exact this H W
 |k+1,β,m,w,H,W,h=>by
  cases hs:GU P n β ge m with
  |none=>
   have:=h [] w;simp only[qN,run,hs] at this;exact this H W
  |some m'=>
   refine PQ H W hs fun ν w' H' W'=>TR k (β++ν) m' w' H' W' fun ν' w2 H2 W2=>?_;have e:run P n (β++ν++ν') ge (k+1) m=run P n (β++ν++ν') ge k m':=by
    show(match GU P n (β++ν++ν') ge m with|some m'=>run P n (β++ν++ν') ge k m'|none=>m)=_;rw[List.append_assoc,UR H.len W,hs]
   have:=h (ν++ν') w2;rw[<-List.append_assoc,e] at this;exact this H2 W2
end
/-! What is said by hand. -/
section
variable (P:Program) (f:FuncId) (R:Ending -> World -> Prop) (n:Nat) (w0:World) (L:List Nat)
structure Hs (β : List Nat) (m : SM) : Prop where
  go : ∀ w, Mem w0 L β m.hp w -> m.wf = true -> Gs P f R n β m w
def NF:List SV->Nat->Slots
 |[],_=>.vals fun _=>undef
 |v::l,i=>.put i v (NF l (i+1))
def QA (fn:Func):Code:=match fn.body with
 |some c=>c
 |none=>.skip
def LV (fn:Func) (xs:List SV) (hp:List HB):SM:=⟨.no,[.code (QA fn)],NF xs 0,hp⟩
end
section
variable {P:Program} {f:FuncId} {R:Ending -> World -> Prop} {n:Nat} {w0:World} {L:List Nat} {β:List Nat} {m:SM} {ge:List Nat}
theorem YM: ∀(xs:List SV) (d i:Nat),d<=i->(NF xs d).at i=(xs[i-d]?).getD (.c (.v undef))
 |[],d,i,h=>by simp[NF,Slots.at]
 |v::l,d,i,h=>by
  rw[NF,Slots.at_put];split;·rename_i e;subst e;simp
  ·rename_i e;rw[YM l (d+1) i (by omega),show i-d=(i-(d+1))+1 by omega];simp
theorem YN: ∀(xs:List SV) (i:Nat),(NF xs i).ds=[]
 |[],_=>rfl
 |_::l,i=>YN l (i+1)
theorem fG (β:List Nat) (xs:List SV) (n:Nat) (h:xs.length<=n):fr n β (NF xs 0) = { tmps:=(xs.map (SV.den β)).toArray++Array.replicate (n-(xs.map (SV.den β)).toArray.size) undef,defers:=[] }:=by
 unfold fr;rw[YN];congr 1
 apply Array.ext;·simp;omega
 ·intro i h1 h2;simp at h1;simp only[List.getElem_toArray,List.getElem_map,List.getElem_range,YM xs 0 i (by omega),Nat.sub_zero,Array.getElem_append];split
  ·rename_i hlt;simp at hlt;simp[List.getElem?_eq_getElem hlt]
  ·rename_i hlt;simp at hlt;simp[List.getElem?_eq_none hlt,SV.den,SC.den]
theorem Hs.enter {fn:Func} {args:Array Value} {w:World} (hf:P.funcs[f]? = some fn) (L β:List Nat) (hp:List HB) (xs:List SV) (H:Mem w L β hp w) (hc:(Nat.ble xs.length fn.ntmps&&(fn.body.isSome&&(LV fn xs hp).wf))=true) (ha:args=(xs.map (SV.den β)).toArray) (h:Hs P f R fn.ntmps w L β (LV fn xs hp)):Calls P f args w R:=by
 simp only[Bool.and_eq_true,Nat.ble_eq] at hc;obtain⟨h2,h3,h4⟩:=hc;obtain⟨c,hb⟩:=Option.isSome_iff_exists.1 h3;have e:QA fn=c:=by unfold QA;rw[hb]
 have g:=h.go w H h4;unfold Gs LV at g;dsimp only at g;rw[e] at g;refine GM.enter hf hb _ ?_ g;rw[fG β xs _ h2,<-ha]
theorem Hs.runL (k j:Nat) (hj: ∀ν,Nat.beq (run P n (β++ν) [] k m).hp.length (β.length+j)=true) (h: ∀ν:List Nat,ν.length=j->Hs P f R n w0 L (β++ν) (run P n (β++ν) [] k m)):Hs P f R n w0 L β m:=
 ⟨fun w H W=>TR (ge:=[]) k β m w H W fun ν w' H' W'=>(h ν (by
  have h1:=H'.len;have h2:=Nat.eq_of_beq_eq_true (hj ν);rw[h2,zE] at h1;omega)).go w' H' W'⟩
theorem Hs.run0 (k:Nat) (hj: ∀ν,Nat.beq (run P n (β++ν) [] k m).hp.length (β.length+0)=true) (h:Hs P f R n w0 L β (run P n β [] k m)):Hs P f R n w0 L β m:=
 Hs.runL k 0 hj fun ν hν=>by
  have e:=List.length_eq_zero_iff.1 hν;subst e;rw[qN];exact h
theorem Hs.run1 (k:Nat) (hj: ∀ν,Nat.beq (run P n (β++ν) [] k m).hp.length (β.length+1)=true) (h: ∀b0:Nat,Hs P f R n w0 L (β++[b0]) (run P n (β++[b0]) [] k m)):Hs P f R n w0 L β m:=
 Hs.runL k 1 hj fun ν hν=>by
  match ν,hν with
  |[b0],_=>exact h b0
theorem Hs.run2 (k:Nat) (hj: ∀ν,Nat.beq (run P n (β++ν) [] k m).hp.length (β.length+2)=true) (h: ∀b0 b1:Nat,Hs P f R n w0 L (β++[b0,b1]) (run P n (β++[b0,b1]) [] k m)):Hs P f R n w0 L β m:=
 Hs.runL k 2 hj fun ν hν=>by
  match ν,hν with
  |[b0,b1],_=>exact h b0 b1
theorem Hs.run3 (k:Nat) (hj: ∀ν,Nat.beq (run P n (β++ν) [] k m).hp.length (β.length+3)=true) (h: ∀b0 b1 b2:Nat,Hs P f R n w0 L (β++[b0,b1,b2]) (run P n (β++[b0,b1,b2]) [] k m)):Hs P f R n w0 L β m:=
 Hs.runL k 3 hj fun ν hν=>by
  match ν,hν with
  |[b0,b1,b2],_=>exact h b0 b1 b2
theorem Hs.rungL (ge:List Nat) (k j:Nat) (hj: ∀ν,Nat.beq (run P n (β++ν) ge k m).hp.length (β.length+j)=true) (h: ∀ν:List Nat,ν.length=j->Hs P f R n w0 L (β++ν) (run P n (β++ν) ge k m)):Hs P f R n w0 L β m:=
 ⟨fun w H W=>TR (ge:=ge) k β m w H W fun ν w' H' W'=>(h ν (by
  have h1:=H'.len;have h2:=Nat.eq_of_beq_eq_true (hj ν);rw[h2,zE] at h1;omega)).go w' H' W'⟩
theorem Hs.rung0 (ge:List Nat) (k:Nat) (hj: ∀ν,Nat.beq (run P n (β++ν) ge k m).hp.length (β.length+0)=true) (h:Hs P f R n w0 L β (run P n β ge k m)):Hs P f R n w0 L β m:=
 Hs.rungL ge k 0 hj fun ν hν=>by
  have e:=List.length_eq_zero_iff.1 hν;subst e;rw[qN];exact h
def MS (n:Nat) (β:List Nat) (m:SM):Option Value:=match m.r with
 | .no=>match m.todo with
  | .code (.cond c _ _)::_=>some ((evS n m.sl c).den β)
  |_=>none
 |_=>none
def bV (m:SM):SM:=match m.todo with
 | .code (.cond _ x _)::k=>⟨.no,.code x::k,m.sl,m.hp⟩
 |_=>m
def aB (m:SM):SM:=match m.todo with
 | .code (.cond _ _ y)::k=>⟨.no,.code y::k,m.sl,m.hp⟩
 |_=>m
theorem Hs.cond (b:Bool) (hc:MS n β m=some (.bool b)) (ht:b=true->Hs P f R n w0 L β (bV m)) (hf:b=false->Hs P f R n w0 L β (aB m)):Hs P f R n w0 L β m:=by
 obtain⟨r,todo,sl,hp⟩:=m;unfold MS at hc;dsimp only at hc;split at hc
 ·split at hc
  ·rename_i c x y k;injection hc with hc;refine⟨fun w H W=>?_⟩;refine GM.step (a':=fr n β sl) (w':=w) (todo':=.code (if b then x else y)::k) (fun kd cs=>step_cond (by rw[EO];exact hc)) ?_;cases b;·exact(hf rfl).go w H W
   ·exact(ht rfl).go w H W
  ·cases hc
 ·cases hc
theorem Hs.condT (hc:MS n β m=some (.bool true)) (h:Hs P f R n w0 L β (bV m)):Hs P f R n w0 L β m:=Hs.cond true hc (fun _=>h) (fun h=>by cases h)
theorem Hs.condF (hc:MS n β m=some (.bool false)) (h:Hs P f R n w0 L β (aB m)):Hs P f R n w0 L β m:=Hs.cond false hc (fun h=>by cases h) (fun _=>h)
theorem Hs.condP (p:Prop) [Decidable p] (hc:MS n β m=some (.bool (decide p))) (ht:p->Hs P f R n w0 L β (bV m)) (hf: ¬p->Hs P f R n w0 L β (aB m)):Hs P f R n w0 L β m:=
 Hs.cond _ hc (fun h=>ht (of_decide_eq_true h)) (fun h=>hf (of_decide_eq_false h))
def anyOf (rd:List Nat) (m:SM):Option SM:=match m.r with
 | .no=>match m.todo with
  | .code (.region _ ops true)::k=>match Region.noSelect ops with
   |true=>some ⟨.any ops ops.size 0 rd,k,m.sl,m.hp⟩
   |false=>none
  |_=>none
 |_=>none
def anyM (rd:List Nat) (m:SM):SM:=(anyOf rd m).getD m
theorem Hs.any (rd:List Nat) (hc:(P.follows .mixedOrders&&(anyOf rd m).isSome)=true) (h:Hs P f R n w0 L β (anyM rd m)):Hs P f R n w0 L β m:=by
 simp only[Bool.and_eq_true] at hc;obtain⟨hmix,hs⟩:=hc;obtain⟨m',hm'⟩:=Option.isSome_iff_exists.1 hs;unfold anyM at h;rw[hm'] at h;simp only[Option.getD_some] at h;obtain⟨r,todo,sl,hp⟩:=m;unfold anyOf at hm';dsimp only at hm';split at hm'
 ·split at hm'
  ·rename_i id ops k;split at hm'
   ·rename_i hns;injection hm' with hm';subst hm';refine⟨fun w H W=>?_⟩;have e:AO ops.size 0=Array.replicate ops.size false:=by
     apply Array.ext;·simp[AO]
     ·intro i h1 h2;simp[AO]
    have hlm:LmOk ops.size 0:=fun j hj=>by simp at hj
    have hcl:FF .any ops (AO ops.size 0):=⟨by simp[AO],fun j oj hj hl=>by
     have:=(NT.1 hl).2;simp at this⟩
    have hM:Mem w0 L β hp { w with drawn:=w.drawn+1 }:=H.step ((Only.refl [] w).drew);have g:=h.go _ hM W hcl hlm hns;refine GM.code (AL (IR β hp (OH rd)) (VJ rd) hmix ?_);rw[<-e];exact g
   ·cases hm'
  ·cases hm'
 ·cases hm'
def selM (i:Nat) (m:SM):SM:=match m.r with
 | .any ops (fuel+1) lm rd=>⟨.sel ops fuel lm rd i,m.todo,m.sl,m.hp⟩
 |_=>m
def rdyOf (m:SM):Option (List Nat):=match m.r with
 | .any ops (_+1) lm _=>some (VK lm ops.toList 0)
 |_=>none
theorem Hs.branch (is:List Nat) (hc:rdyOf m=some is) (hn:is≠[]) (h: ∀i∈is,Hs P f R n w0 L β (selM i m)):Hs P f R n w0 L β m:=by
 refine⟨fun w H W=>?_⟩;obtain⟨r,todo,sl,hp⟩:=m;unfold rdyOf at hc;dsimp only at hc;split at hc
 ·rename_i ops fuel lm rd;injection hc with hc;have hI:IR β hp (OH rd) w:=fun k _ h hh=>H.lies k h hh;intro hcl hlm hns;refine⟨fun _=>hI,fun he=>?_,fun i hi=>?_⟩
  ·exfalso;obtain⟨i,r,rfl⟩:=List.exists_cons_of_ne_nil hn;have:i∈Region.ready .any ops (AO ops.size lm):=by rw[FL hlm,hc];simp
   rw[he] at this;cases this
  ·have hi':=hi;rw[FL hlm] at hi';have hil:i<ops.size:=by
    obtain⟨_,o,ho,_⟩:=mem_ready.1 hi;exact(Array.getElem?_eq_some_iff.1 ho).1
   have g:=(h i (by rw[<-hc];exact hi')).go w H W;rw[EB hil];exact g hi' hcl hlm hns
 ·cases hc
theorem Hs.branch2 (i j:Nat) (hc:rdyOf m=some [i,j]) (h1:Hs P f R n w0 L β (selM i m)) (h2:Hs P f R n w0 L β (selM j m)):Hs P f R n w0 L β m:=
 Hs.branch _ hc (by simp) fun k hk=>by
  simp at hk;rcases hk with rfl|rfl;·exact h1
  ·exact h2
theorem Mem.one (w:World) (g:Nat) {T:Nat} {cs:List SC} (hg:Blk w g T (DG [g] cs)):Mem w [g] [g] [.b true T cs] w:=
 Mem.start _ _ _ _ rfl (fun k h hk=>by
  cases k with
  |zero=>simp at hk;subst hk;exact hg
  |succ k=>simp at hk) (fun k h x hk _ hx=>by
  cases k with
  |zero=>simp at hk;subst hk;simp only[HB.blk,Option.some.injEq] at hx;subst hx;simp[nm]
  |succ k=>simp at hk) (fun i j hi hj x ei ej _ _=>by
  cases i with
  |zero=>cases j with
   |zero=>rfl
   |succ j=>simp at ej
  |succ i=>simp at ei)
/-! Calls. -/
def FG (P:Program) (n:Nat) (β:List Nat) (m:SM):Option (FuncId×Array Value):=match EH m with
 |some o=>match gOk m o with
  |true=>match JR P (execOp (fun x=>(evS n m.sl x).den β) o) with
   |some (.enter F args)=>some (F,args)
   |_=>none
  |false=>none
 |none=>none
theorem Hs.call {F:FuncId} {args:Array Value} (hc:FG P n β m=some (F,args))
  (h: ∀w,Mem w0 L β m.hp w->Calls P F args w fun e w'=>∃(ν:List Nat) (res:SV) (hp':List HB),e = .returned (res.den (β++ν))/\Mem w0 L (β++ν) hp' w'/\(res.wf hp'.length&&(Nat.ble m.hp.length hp'.length&&hp'.all (HB.wf hp'.length)))=true/\(∀k∈HO m,∀h,m.hp[k]? = some h->hp'[k]? = some h)/\Hs P f R n w0 L (β++ν) (m.put (BD m) res hp')):Hs P f R n w0 L β m:=by
 refine⟨fun w H W=>?_⟩;unfold FG at hc;split at hc
 ·rename_i o ho;split at hc
  ·rename_i hg;split at hc
   ·rename_i F' args' hp;injection hc with hc;injection hc with h1 h2;subst h1;subst h2;have hd:BD m=o.dst:=by unfold BD;rw[ho]
    rw[hd] at h;refine Gs.op ho hg ?_;unfold Oper.wp;rw[EO,HF P _ _ hp w];refine Calls.mono (h w H) ?_;rintro e w' ⟨ν,res,hp',rfl,H',hw,hrd,hG⟩;simp only[Bool.and_eq_true,Nat.ble_eq] at hw;refine⟨β++ν,TO o.dst res m.sl,hp',?_,fun w2 hI=>IR.app H.len (SM.wf_hp W) hrd hI,hG.go w' H' ?_⟩;·rw[<-dD n ν (by rw[H.len];exact SM.wf_sl W),<-EZ]
    ·simp only[SM.wf,SM.put,Bool.and_eq_true];exact⟨DW (Slots.wf_mono hw.2.1 (SM.wf_sl W)) hw.1,hw.2.2⟩
   ·cases hc
  ·cases hc
 ·cases hc
theorem Hs.callV {F:FuncId} {args:Array Value} {v:Value} (hC: ∀w,Mem w0 L β m.hp w->Calls P F args w fun e w'=>e = .returned v/\Only [] w w') (hc:FG P n β m=some (F,args)) (h:Hs P f R n w0 L β (m.put (BD m) (.c (.v v)) m.hp)):Hs P f R n w0 L β m:=by
 refine⟨fun w H W=>?_⟩;refine(Hs.call hc (fun w H=>?_)).go w H W;refine Calls.mono (hC w H) ?_;rintro e w' ⟨rfl,O⟩;refine⟨[],.c (.v v),m.hp,rfl,by rw[qN];exact H.step O,?_,fun k _ h hh=>hh,by rw[qN];exact h⟩;simp only[SV.wf,SC.wf,Bool.true_and,Bool.and_eq_true,Nat.ble_eq];exact⟨qL _,SM.wf_hp W⟩
theorem Hs.callP (k:Nat) (T:TypeId) (cs':List SC) {F:FuncId} {args:Array Value} {v:Value} (hC: ∀w,Mem w0 L β m.hp w->Calls P F args w fun e w'=>e = .returned v/\Only [nm β k] w w'/\Blk w' (nm β k) T (DG β cs')) (hc:FG P n β m=some (F,args)) (hk:(match m.hp[k]? with|some (.b true T' _)=>Nat.beq T' T&&(cs'.all (SC.wf m.hp.length) && !(HO m).contains k)|_=>false)=true)
  (h:Hs P f R n w0 L β (m.put (BD m) (.c (.v v)) (m.hp.set k (.b true T cs')))):Hs P f R n w0 L β m:=by
 refine⟨fun w H W=>?_⟩;split at hk
 ·rename_i T0 cs0 hk0;simp only[Bool.and_eq_true,Bool.not_eq_true',NQ] at hk;obtain⟨rfl,hk⟩:=hk;have hkl:=(List.getElem?_eq_some_iff.1 hk0).1;refine(Hs.call hc (fun w H=>?_)).go w H W;refine Calls.mono (hC w H) ?_;rintro e w' ⟨rfl,O,hB⟩;refine⟨[],.c (.v v),m.hp.set k (.b true _ cs'),rfl,?_,?_,fun i hi h hh=>?_,by rw[qN];exact h⟩
  ·rw[qN];exact H.put hk0 O hB
  ·simp only[SV.wf,SC.wf,Bool.true_and,Bool.and_eq_true,Nat.ble_eq,List.length_set];refine⟨qL _,List.all_eq_true.2 fun x hx=>?_⟩;rcases List.mem_or_eq_of_mem_set hx with hx|rfl;·exact List.all_eq_true.1 (SM.wf_hp W) x hx
   ·exact hk.1
  ·rw[List.getElem?_set,if_neg (fun e=>by
    subst e;have h2:=hk.2;simp at h2;exact h2 hi)]
   exact hh
 ·cases hk
/-! The end. -/
def retV (P:Program) (n:Nat) (m:SM):ResultVar->Option TV
 | .tmp t=>match evS n m.sl (.tmp t) with
  | .c x=>some (.c x)
  | .g cs=>some (.g cs)
  | .t _=>none
 | .cell a T=>match evS n m.sl (.tmp a) with
  | .c (.p k off)=>match m.hp[k]? with
   |some h=>match h.live with
    |true=>match NX P T h.cs off with
     |some (.c x)=>some (.c x)
     |some (.g cs)=>some (.g cs)
     |_=>none
    |false=>none
   |none=>none
  |_=>none
def retL (P:Program) (n:Nat) (m:SM):List ResultVar->Option (List TV)
 |[]=>some []
 |r::l=>match retV P n m r with
  |some v=>match retL P n m l with
   |some vs=>some (v::vs)
   |none=>none
  |none=>none
def retOf (P:Program) (fn:Func) (n:Nat) (β:List Nat) (m:SM):Option Value:=match m.r with
 | .no=>match(match m.todo with|[]=>m.sl.ds.isEmpty | .code .ret::_=>m.sl.ds.isEmpty|_=>false) with
  |true=>match retL P n m fn.results.toList with
   |some [v]=>some (v.den β)
   |some vs=>some (.tuple (vs.map (TV.den β)).toArray)
   |none=>none
  |false=>none
 |_=>none
theorem retV_run {w:World} {r:ResultVar} {v:TV} (H:Mem w0 L β m.hp w) (h:retV P n m r=some v):(match r with | .tmp t=>(pure ((fr n β m.sl).tmps.getD t undef):Sem Value) | .cell a t=>do loadVar t (<-asAddr ((fr n β m.sl).tmps.getD a undef))).run P w = .ok (v.den β) w:=by
 have he: ∀t,(fr n β m.sl).tmps.getD t undef=(evS n m.sl (.tmp t)).den β:=fun t=>fF n β m.sl (.tmp t);cases r with
 |tmp t=>
  simp only[he,Sem.run_pure];simp only[retV] at h;split at h;·rename_i x hx;injection h with h;subst h;rw[hx];rfl
  ·rename_i x hx;injection h with h;subst h;rw[hx];rfl
  ·cases h
 |cell a T=>
  simp only[retV] at h;split at h
  ·rename_i k off hx;split at h
   ·rename_i b hb;split at h
    ·rename_i hlive;obtain⟨T',hB⟩:=HB.lies_blk (H.lies k b hb) hlive;simp only[he,hx,SV.den,SC.den,asAddr,Sem.run_bind,Sem.run_pure,Result.andThen_ok];split at h;·rename_i x hp;injection h with h;subst h;rw[QO hB hp];rfl
     ·rename_i x hp;injection h with h;subst h;rw[QO hB hp];rfl
     ·cases h
    ·cases h
   ·cases h
  ·cases h
theorem gV {w:World} (H:Mem w0 L β m.hp w): ∀(rs:List ResultVar) (vs:List TV),retL P n m rs=some vs->(rs.mapM (m:=Sem) fun(r:ResultVar)=>match r with | .tmp t=>(pure ((fr n β m.sl).tmps.getD t undef):Sem Value) | .cell a t=>do loadVar t (<-asAddr ((fr n β m.sl).tmps.getD a undef))).run P w=Result.ok (vs.map (TV.den β)) w
 |[],vs,h=>by simp only[retL,Option.some.injEq] at h;subst h;simp
 |r::rs,vs,h=>by
  simp only[retL] at h;split at h
  ·rename_i v hv;split at h
   ·rename_i vs' hvs;injection h with h;subst h;rw[List.mapM_cons];simp only[Sem.run_bind,retV_run H hv,gV H rs vs' hvs,Result.andThen_ok,Sem.run_pure,List.map_cons]
   ·cases h
  ·cases h
theorem Hs.ret {fn:Func} {v:Value} (hf:P.funcs[f]? = some fn) (hr:retOf P fn n β m=some v) (h: ∀w,Mem w0 L β m.hp w->R (.returned v) w):Hs P f R n w0 L β m:=by
 refine⟨fun w H W=>?_⟩;unfold retOf at hr;split at hr
 ·rename_i hno;split at hr
  ·rename_i htodo;have key:(results fn (fr n β m.sl).tmps).run P w = .ok v w:=by
    have go: ∀vs,retL P n m fn.results.toList=some vs->(results fn (fr n β m.sl).tmps).run P w = .ok (if h:(vs.map (TV.den β)).toArray.size=1 then(vs.map (TV.den β)).toArray[0] else .tuple (vs.map (TV.den β)).toArray) w:=fun vs hvs=>by
     unfold results;rw[Array.mapM_eq_mapM_toList];have:=gV (P:=P) H fn.results.toList vs hvs;simp only[Sem.run_bind,Sem.run_map,Sem.run_pure];exact Eq.trans (congrArg (fun r=>Result.andThen (Result.andThen r (fun(a:List Value) w'=>Result.ok a.toArray w')) (fun(a:Array Value) w'=>Result.ok (if h:a.size=1 then a[0] else Value.tuple a) w')) this) rfl
    split at hr
    ·rename_i v1 hvs;injection hr with hr;subst hr;rw[go _ hvs];simp
    ·rename_i vs hne hvs;injection hr with hr;subst hr;rw[go _ hvs,dif_neg];simp only[List.size_toArray,List.length_map];intro h1;obtain⟨x,rfl⟩:=List.length_eq_one_iff.1 h1;exact hne x rfl
    ·cases hr
   obtain⟨r,todo,sl,hp⟩:=m;cases hno;show GM P f R todo (fr n β sl) w;dsimp only at htodo;split at htodo;·exact GM.fin hf (List.isEmpty_iff.1 htodo) key (h w H)
   ·exact GM.ret hf (List.isEmpty_iff.1 htodo) key (h w H)
   ·cases htodo
  ·cases hr
 ·cases hr
/-! Loops. -/
def loopM (m:SM):SM:=match m.todo with
 | .code (.loop c)::k=>⟨.no,.code c :: .inLoop c::k,m.sl,m.hp⟩
 | .inLoop c::k=>⟨.no,.code c :: .inLoop c::k,m.sl,m.hp⟩
 |_=>m
theorem Hs.loop (hc:(match m.r with | .no=>true|_=>false)=true) (h:Hs P f R n w0 L β (loopM m)):Hs P f R n w0 L β m:=by
 obtain⟨r,todo,sl,hp⟩:=m;unfold loopM at h;dsimp only at h hc;split at hc
 ·split at h;·exact⟨fun w H W=>GM.step (fun kd cs=>step_loop) (h.go w H W)⟩
  ·exact⟨fun w H W=>GM.step (fun kd cs=>step_inLoop) (h.go w H W)⟩
  ·exact h
 ·cases hc
end
theorem Hs.e0 {P:Program} {f:FuncId} {R:Ending->World->Prop} {n:Nat} {w0:World} {L β:List Nat} {m:SM} (h:Hs P f R n w0 L β (run P n β [] 300 m)) (hj: ∀ν,Nat.beq (run P n (β++ν) [] 300 m).hp.length (β.length+0)=true:=by intro _;kernel_rfl):Hs P f R n w0 L β m:=Hs.run0 300 hj h
theorem Hs.e1 {P:Program} {f:FuncId} {R:Ending->World->Prop} {n:Nat} {w0:World} {L β:List Nat} {m:SM} (h: ∀b0:Nat,Hs P f R n w0 L (β++[b0]) (run P n (β++[b0]) [] 300 m)) (hj: ∀ν,Nat.beq (run P n (β++ν) [] 300 m).hp.length (β.length+1)=true:=by intro _;kernel_rfl):Hs P f R n w0 L β m:=Hs.run1 300 hj h
theorem Hs.e2 {P:Program} {f:FuncId} {R:Ending->World->Prop} {n:Nat} {w0:World} {L β:List Nat} {m:SM} (h: ∀b0 b1:Nat,Hs P f R n w0 L (β++[b0,b1]) (run P n (β++[b0,b1]) [] 300 m)) (hj: ∀ν,Nat.beq (run P n (β++ν) [] 300 m).hp.length (β.length+2)=true:=by intro _;kernel_rfl):Hs P f R n w0 L β m:=Hs.run2 300 hj h
theorem Hs.eg {P:Program} {f:FuncId} {R:Ending->World->Prop} {n:Nat} {w0:World} {L β:List Nat} {m:SM} (ge:List Nat) (h:Hs P f R n w0 L β (run P n β ge 300 m)) (hj: ∀ν,Nat.beq (run P n (β++ν) ge 300 m).hp.length (β.length+0)=true:=by intro _;kernel_rfl):Hs P f R n w0 L β m:=Hs.rung0 ge 300 hj h
theorem Hs.en {P:Program} {f:FuncId} {R:Ending->World->Prop} {fn:Func} {args:Array Value} {w:World} (hf:P.funcs[f]? = some fn) (L β:List Nat) (hp:List HB) (xs:List SV) (H:Mem w L β hp w) (h:Hs P f R fn.ntmps w L β (LV fn xs hp)) (hc:(Nat.ble xs.length fn.ntmps&&(fn.body.isSome&&(LV fn xs hp).wf))=true:=by kernel_rfl) (ha:args=(xs.map (SV.den β)).toArray:=by kernel_rfl):Calls P f args w R:=Hs.enter hf L β hp xs H hc ha h
theorem Hs.rt {P:Program} {f:FuncId} {R:Ending->World->Prop} {n:Nat} {w0:World} {L β:List Nat} {m:SM} {fn:Func} {v:Value} (hf:P.funcs[f]? = some fn) (h: ∀w,Mem w0 L β m.hp w->R (.returned v) w) (hr:retOf P fn n β m=some v:=by kernel_rfl):Hs P f R n w0 L β m:=Hs.ret hf hr h
theorem Hs.cn {P:Program} {f:FuncId} {R:Ending->World->Prop} {n:Nat} {w0:World} {L β:List Nat} {m:SM} (b:Bool) (ht:b=true->Hs P f R n w0 L β (bV m)) (hf:b=false->Hs P f R n w0 L β (aB m)) (hc:MS n β m=some (.bool b):=by kernel_rfl):Hs P f R n w0 L β m:=Hs.cond b hc ht hf
theorem Hs.cT {P:Program} {f:FuncId} {R:Ending->World->Prop} {n:Nat} {w0:World} {L β:List Nat} {m:SM} (h:Hs P f R n w0 L β (bV m)) (hc:MS n β m=some (.bool true):=by kernel_rfl):Hs P f R n w0 L β m:=Hs.condT hc h
theorem Hs.cF {P:Program} {f:FuncId} {R:Ending->World->Prop} {n:Nat} {w0:World} {L β:List Nat} {m:SM} (h:Hs P f R n w0 L β (aB m)) (hc:MS n β m=some (.bool false):=by kernel_rfl):Hs P f R n w0 L β m:=Hs.condF hc h
theorem Hs.cP {P:Program} {f:FuncId} {R:Ending->World->Prop} {n:Nat} {w0:World} {L β:List Nat} {m:SM} (p:Prop) [Decidable p] (ht:p->Hs P f R n w0 L β (bV m)) (hf: ¬p->Hs P f R n w0 L β (aB m)) (hc:MS n β m=some (.bool (decide p)):=by kernel_rfl):Hs P f R n w0 L β m:=Hs.condP p hc ht hf
theorem Hs.lP {P:Program} {f:FuncId} {R:Ending->World->Prop} {n:Nat} {w0:World} {L β:List Nat} {m:SM} (h:Hs P f R n w0 L β (loopM m)) (hc:(match m.r with | .no=>true|_=>false)=true:=by kernel_rfl):Hs P f R n w0 L β m:=Hs.loop hc h
theorem Hs.cV {P:Program} {f:FuncId} {R:Ending->World->Prop} {n:Nat} {w0:World} {L β:List Nat} {m:SM} {F:FuncId} {args:Array Value} {v:Value} (hC: ∀w,Mem w0 L β m.hp w->Calls P F args w fun e w'=>e = .returned v/\Only [] w w') (h:Hs P f R n w0 L β (m.put (BD m) (.c (.v v)) m.hp)) (hc:FG P n β m=some (F,args):=by kernel_rfl):Hs P f R n w0 L β m:=Hs.callV hC hc h
end Go.Proofs.YtfbhemmpobgdpaaGreatDoor
