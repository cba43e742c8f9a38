/- SessionAsks: lemmas, from 'Slices whose elements take one cell, read' on; what each asks for stands in it. -/
import Derived.Test.YtdplnedpbkpgpaaGreatDoorSlA
import Derived.Test.YtdplnedpbkpgpaaGreatDoorSlB
import Derived.Lib.Overlaps
import Derived.Lib.AppendZerosOnto
import Derived.MapKept
set_option linter.all false
set_option maxRecDepth 100000
set_option maxHeartbeats 64000000
namespace Go.Proofs.YtdplnedpbkpgpaaGreatDoor
open Go.RowKit
def RdG {α:Type} (mk:α→Value) (w:World) (A:Option Addr) (l:List α):Prop:=
 0<l.length→∃b off,A=some ⟨b,off,none⟩∧b<w.heap.size∧∀i x,l[i]? = some x→w.cell? ⟨b,off+i,none⟩=some (mk x)
section
variable {α : Type} {mk : α → Value} {w w' : World} {A : Option Addr} {l : List α}
theorem RdG.onlyL {L:List Nat} (h:RdG mk w A l) (hb:Only L w w') (hL: ∀a,A=some a→0<l.length→a.block∉L):RdG mk w' A l:=by
 intro h0;obtain⟨b,off,rfl,hlt,hc⟩:=h h0;exact⟨b,off,rfl,Nat.lt_of_lt_of_le hlt hb.size,fun i v hi=>(World.cell?_of_block (w:=w) (hb.block b hlt (hL _ rfl h0))).trans (hc i v hi)⟩
theorem RdG.only (h:RdG mk w A l) (hb:Only [] w w'):RdG mk w' A l:=h.onlyL hb (fun _ _ _=>by simp)
theorem RdG.nil:RdG mk w A []:=fun h=>absurd h (Nat.lt_irrefl _)
theorem RdG.lt (h:RdG mk w A l) (h0:0<l.length): ∀a,A=some a→a.block<w.heap.size:=by
 intro a ha;obtain⟨b,off,e,hb,_⟩:=h h0;rw[ha] at e;injection e with e;rw[e];exact hb
theorem RdG.take (h:RdG mk w A l) (k:Nat):RdG mk w A (l.take k):=by
 intro h0;obtain⟨b,off,rfl,hlt,hc⟩:=h (by simp at h0;omega);refine⟨b,off,rfl,hlt,fun i v hi=>hc i v ?_⟩;rw[List.getElem?_take] at hi;split at hi;·exact hi
 ·cases hi
theorem RdG.drop (h:RdG mk w A l) (k:Nat):RdG mk w (Option.map (fun x=>x.add k) A) (l.drop k):=by
 intro h0;obtain⟨b,off,rfl,hlt,hc⟩:=h (by simp at h0;omega);refine⟨b,off+k,by simp[Addr.add_lit],hlt,fun i v hi=>?_⟩;rw[List.getElem?_drop] at hi;rw[Nat.add_assoc];exact hc _ _ hi
theorem RdG.at (h:RdG mk w A l) (k:Nat) (hk:k<l.length): ∃b off x,A=some ⟨b,off,none⟩∧b<w.heap.size∧l[k]? = some x∧w.cell? ⟨b,off+k,none⟩=some (mk x):=by
 obtain⟨b,off,rfl,hlt,hc⟩:=h (by omega);have hx:l[k]? = some (l[k]'hk):=List.getElem?_eq_getElem hk;exact⟨b,off,_,rfl,hlt,hx,hc k _ hx⟩
end
abbrev RdI:=RdG (Value.int .i64)
abbrev RdS:=RdG Value.string
theorem DA {α:Type} {l:List α} {k:Nat} {x:α} (h:l[k]? = some x):l.take (k+1)=l.take k++[x]:=by rw[List.take_add_one,h];rfl
structure ElemT (P : Program) (tS E : TypeId) (size bytes : Nat) : Prop where
  ht : P.underlying tS = some (.slice E)
  info : ∃ (i : TypeInfo) (z : Value), P.info? E = some i ∧ i.zero = some z ∧ i.size = size ∧ i.bytes = bytes ∧ z.cells.size = size
  pos : 0 < size
theorem FV {P:Program} {tS E:TypeId} {size bytes:Nat} {z:Value} (ht:P.underlying tS=some (.slice E)) (hi:(P.info? E).map (fun i=>(i.zero,i.size,i.bytes))=some (some z,size,bytes)) (hz:z.cells.size=size) (hp:0<size):ElemT P tS E size bytes:=by
 obtain⟨i0,h1,h2,h3,h4⟩:=info_parts hi;exact⟨ht,⟨i0,z,h1,h2,h3,h4,hz⟩,hp⟩
section
variable {α : Type}
def BM (cf:α→List Value) (E:TypeId) (size:Nat) (w:World) (base:Nat) (v:Value) (l:List α):Prop:=w.ownsRow base E size v l.length (l.flatMap cf)
def RdX (cf:α→List Value) (w:World) (A:Option Addr) (l:List α):Prop:=
 0<l.length→∃b off,A=some ⟨b,off,none⟩∧b<w.heap.size∧∀j u,(l.flatMap cf)[j]? = some u→w.cell? ⟨b,off+j,none⟩=some u
variable {cf : α → List Value} {E : TypeId} {size : Nat} {w w' : World} {base : Nat} {v : Value} {l : List α} {A : Option Addr}
theorem ownX_nil:BM cf E size w base (.slice none 0 0) []:=World.ownsRow_nil w base _ _
theorem BM.far {L:List Nat} (h:BM cf E size w base v l) (hb:Only L w w') (hL: ∀x∈L,some x≠v.ownBlock):BM cf E size w' base v l:=by
 rcases h with⟨h1,h2|⟨g,cap,cur,rfl,hg,hh,hr⟩⟩;·exact⟨h1,.inl h2⟩
 ·exact⟨h1,.inr ⟨g,cap,cur,rfl,hg,(hb.block g (Array.getElem?_eq_some_iff.1 hh).1 (fun hm=>hL g hm rfl)).trans hh,hr⟩⟩
theorem BM.only (h:BM cf E size w base v l) (hb:Only [] w w'):BM cf E size w' base v l:=h.far hb (fun x hx=>by simp at hx)
theorem BM.mono {base':Nat} (h:BM cf E size w base v l) (hb:base'≤base):BM cf E size w base' v l:=by
 rcases h with⟨h1,h2|⟨g,cap,cur,rfl,hg,hh⟩⟩;·exact⟨h1,.inl h2⟩
 ·exact⟨h1,.inr ⟨g,cap,cur,rfl,by omega,hh⟩⟩
theorem BM.block (h:BM cf E size w base v l): ∀k,v.ownBlock=some k→base≤k∧k<w.heap.size:=World.ownsRow.lt h
theorem BM.form (h:BM cf E size w base v l): ∃A cap,v = .slice A l.length cap∧l.length≤cap∧cap≤maxLen∧RdX cf w A l∧∀a,A=some a→base≤a.block∧a.block<w.heap.size∧v.ownBlock=some a.block:=by
 have hb:=h.block;rcases h with⟨h1,⟨rfl,hn⟩|⟨g,cap,cur,rfl,hg,hh,hc,hm,hs,ht⟩⟩;·exact⟨none,0,by rw[hn],by omega,by simp[maxLen],fun h0=>by omega,fun a ha=>by cases ha⟩
 ·refine⟨some ⟨g,0,none⟩,cap,rfl,hc,hm,fun _=>⟨g,0,rfl,(Array.getElem?_eq_some_iff.1 hh).1,fun j u hj=>?_⟩,fun a ha=>?_⟩
  ·have:=World.ownsRow.cells (w:=w) (base:=base) (e:=E) (size:=size) (n:=l.length) (xs:=l.flatMap cf) ⟨h1,.inr ⟨g,cap,cur,rfl,hg,hh,hc,hm,hs,ht⟩⟩ (g:=g) rfl j u hj;simpa[Addr.add_lit] using this
  ·injection ha with ha;subst ha;exact⟨(hb _ rfl).1,(hb _ rfl).2,rfl⟩
theorem RdX.only (h:RdX cf w A l) (hb:Only [] w w'):RdX cf w' A l:=fun h0=>by
 obtain⟨b,off,e,hlt,hc⟩:=h h0;exact⟨b,off,e,Nat.lt_of_lt_of_le hlt hb.size,fun j u hj=>(World.cell?_of_block (w:=w) (hb.block b hlt (by simp))).trans (hc j u hj)⟩
theorem RdX.far {L:List Nat} (h:RdX cf w A l) (hb:Only L w w') (hL: ∀a,A=some a→0<l.length→a.block∉L):RdX cf w' A l:=fun h0=>by
 obtain⟨b,off,e,hlt,hc⟩:=h h0;refine⟨b,off,e,Nat.lt_of_lt_of_le hlt hb.size,fun j u hj=>?_⟩;have hk:=hc j u hj;have hbk:=hb.block b hlt (hL _ e h0);exact(World.cell?_of_block (w:=w) hbk).trans hk
theorem rdX_nil:RdX cf w A []:=fun h=>absurd h (Nat.lt_irrefl _)
variable {P : Program} {tS : TypeId} {bytes : Nat}
theorem UX (ht:ElemT P tS E size bytes) (ty:TypeId) (hone: ∀x,∀u∈cf x,u.oneCell'=true) (hown:BM cf E size w base v l) (A:Option Addr) (c:Nat) (gs:List α) (hgl:(gs.flatMap cf).length=gs.length*size) (hr:RdX cf w A gs)
  (hlen:l.length+gs.length≤maxLen) (hby:(l.length+gs.length)*bytes≤140737488355328) (hbase:base≤w.heap.size) :
  ∃v' w',(Builtin.append_ #[tS,tS] ty #[v,.slice A gs.length c]).run P w = .ok v' w'∧BM cf E size w' base v' (l++gs)∧Only v.ownBlock.toList w w'∧KX v v' w.heap.size:=by
 obtain⟨hu,⟨i0,z,hi,hz0,hz1,hz2,hzs⟩,hpos⟩:=ht;by_cases h0:0<gs.length
 ·obtain⟨b,off,rfl,hb,hc⟩:=hr h0;have hn: ∀j u,(gs.flatMap cf)[j]? = some u→w.cell? ((⟨b,off,none⟩:Addr).add j)=some u:=fun j u hj=>by rw[Addr.add_lit];exact hc j u hj
  have h1c: ∀u∈gs.flatMap cf,u.oneCell'=true:=fun u hu=>by
   obtain⟨x,_,hx⟩:=List.mem_flatMap.1 hu;exact hone x u hx
  obtain⟨v',w',e,h1,h2,h3⟩:=run_append_own (P:=P) w base tS ty E i0 z size bytes hu hi hz0 hz1 hz2 hzs hpos v l.length (l.flatMap cf) hown ⟨b,off,none⟩ gs.length c (gs.flatMap cf) hgl hn h1c hlen hby hbase;have hwh:v'.ownBlock=v.ownBlock∨v'.ownBlock=some w.heap.size:=by
   have hle:(l.length+gs.length)*i0.bytes≤140737488355328:=by rw[hz2];exact hby
   have hlm:((l.length+gs.length:Nat):Int)≤9223372036854775807:=by unfold maxLen at hlen;omega
   rcases hown.2 with⟨rfl,hn0⟩|⟨g,cap,cur,rfl,hg,hh,hc2,hm,hs,htk⟩
   ·have:=run_append_nil (P:=P) w tS ty E i0 z hu hi hz0 ⟨b,off,none⟩ gs.length c (gs.flatMap cf) (by rw[hz1];exact hgl) hn h0 (by omega) (by rw[hn0,Nat.zero_add] at hle;omega);rw[this] at e;injection e with e1 e2;right;rw[←e1];rfl
   ·by_cases hroom:l.length+gs.length≤cap
    ·obtain⟨w2,e2,_⟩:=run_append_fits (P:=P) w base tS ty E i0 size hu hi hz1 g l.length cap (l.flatMap cf) hown ⟨b,off,none⟩ gs.length c (gs.flatMap cf) hgl hn h1c hroom;rw[e2] at e;injection e with e1 _;left;rw[←e1];rfl
    ·have holds: ∀j u,(l.flatMap cf)[j]? = some u→w.cell? ((⟨g,0,none⟩:Addr).add j)=some u:=World.ownsRow.cells hown (g:=g) rfl;have:=run_append_grow (P:=P) w tS ty E i0 z hu hi hz0 ⟨g,0,none⟩ l.length cap (l.flatMap cf) (by rw[hz1];exact hown.1) holds ⟨b,off,none⟩ gs.length c (gs.flatMap cf) (by rw[hz1];exact hgl) hn (by omega) (by omega) (growslice_fits (by omega) (by omega));rw[this] at e;injection e with e1 _;right;rw[←e1];rfl
  exact⟨v',w',e,by show World.ownsRow _ _ _ _ _ _ _;simpa[List.flatMap_append] using h1,FY h2,hwh⟩
 ·have e0:gs=[]:=List.eq_nil_of_length_eq_zero (by omega);subst e0;refine⟨v,w,?_,by rw[List.append_nil];exact hown,Only.refl _ _,.inl rfl⟩;have hf: ∀w':World,(Builtin.firstCells size 0 (.slice A 0 c)).run P w' = .ok #[] w':=by
   intro w';cases A<;>simp[Builtin.firstCells,loadCells,loadCellsFrom]
  rcases hown.2 with⟨rfl,hn⟩|⟨g,cap,cur,rfl,_,_,hnc,_⟩;·cases A<;>simp[Builtin.append_,run_underlying hu,sizeOf,typeInfo,hi,hz1,Builtin.lenOf,hf]
  ·cases A<;>simp[Builtin.append_,run_underlying hu,sizeOf,typeInfo,hi,hz1,Builtin.lenOf,hf,hnc,storeCells]
theorem BY {o:Oper} {a:Act} {K:Act→World→Prop} {Q:Exit→Act→World→Prop} (s x:Operand)
  (ht:ElemT P tS E size bytes) (ho:o.op = .call { callee:=.builtin .append,args:=#[s,x],argTypes:=#[tS,tS] })
  (hone: ∀x,∀u∈cf x,u.oneCell'=true) (hcl: ∀x,(cf x).length=size) (hs:a.eval s=v) (hown:BM cf E size w base v l) (A:Option Addr) (c:Nat) (gs:List α) (n:Nat) (hn:gs.length=n) (hx:a.eval x = .slice A n c) (hr:RdX cf w A gs)
  (hlen:l.length+gs.length≤maxLen) (hby:(l.length+gs.length)*bytes≤140737488355328) (hbase:base≤w.heap.size)
  (h: ∀v' w',Hid (BM cf E size w' base v' (l++gs))→Only v.ownBlock.toList w w'→Hid (KX v v' w.heap.size)→K (a.put o.dst v') w'):o.wp P a w K Q:=by
 subst hn;have hgl:(gs.flatMap cf).length=gs.length*size:=by
  clear hx hr hlen hby h;induction gs with
  |nil=>simp
  |cons a gs ih=>rw[List.flatMap_cons,List.length_append,ih,hcl,List.length_cons,Nat.succ_mul];omega
 obtain⟨v',w',hrun,h1,h2,h3⟩:=UX ht o.type hone hown A c gs hgl hr hlen hby hbase;unfold Oper.wp execOp;simp only[ho,resolve,invoke,builtin,Sem.run_bind,Sem.run_pure,Result.andThen_ok,List.map_toArray,List.map_cons,List.map_nil,hs,hx,hrun];exact h v' w' h1 h2 h3
end
end Go.Proofs.YtdplnedpbkpgpaaGreatDoor
namespace Go.Proofs.YtdplnedpbkpgpaaGreatDoor
section
variable {P : Program} {f : FuncId} {R : Ending → World → Prop} {n : Nat} {w0 : World} {L : List Nat} {β : List Nat} {m : SM}
def MU (s:Sem Value):Sem Next:=s >>= fun v=>pure (.value v)
def unitS (s:Sem Unit):Sem Next:=s >>= fun _=>pure .skip
def KT (n:Nat) (β:List Nat) (m:SM):Option (Sem Next):=match CQ m with
 |some o=>match gOk m o with
  |true=>some (execOp (fun x=>(evS n m.sl x).den β) o)
  |false=>none
 |none=>none
theorem LI {s:Sem Next} (h:KT n β m=some s): ∃o,CQ m=some o∧gOk m o=true∧execOp (fun x=>(evS n m.sl x).den β) o=s∧BL m=o.dst:=by
 unfold KT at h;split at h
 ·rename_i o ho;split at h
  ·rename_i hg;injection h with h;exact⟨o,ho,hg,h,by unfold BL;rw[ho]⟩
  ·cases h
 ·cases h
theorem Hs.opV {s:Sem Value} (v:SV) (hs:KT n β m=some (MU s)) (hv:v.wf m.hp.length=true) (h: ∀w,Mem w0 L β m.hp w→s.run P w = .ok (v.den β) w) (k:Hs P f R n w0 L β (m.put (BL m) v m.hp)):Hs P f R n w0 L β m:=by
 obtain⟨o,ho,hg,he,hd⟩:=LI hs;refine⟨fun w H W=>?_⟩;rw[hd] at k;refine Gs.val ho hg ?_ (k.go w H ?_);·rw[he];simp only[MU,Sem.run_bind,h w H,Result.andThen_ok,Sem.run_pure]
 ·simp only[SM.wf,SM.put,Bool.and_eq_true];exact⟨DN (SM.wf_sl W) hv,SM.wf_hp W⟩
theorem Hs.opW {s:Sem Value} (hs:KT n β m=some (MU s)) (h: ∀w,Mem w0 L β m.hp w→m.wf=true→∃(ν:List Nat) (res:SV) (hp':List HB) (w':World),s.run P w = .ok (res.den (β++ν)) w'∧Mem w0 L (β++ν) hp' w'∧(res.wf hp'.length&&(Nat.ble m.hp.length hp'.length&&hp'.all (HB.wf hp'.length)))=true∧(∀k∈HL m,∀h,m.hp[k]? = some h→hp'[k]? = some h)∧Hs P f R n w0 L (β++ν) (m.put (BL m) res hp')):Hs P f R n w0 L β m:=by
 obtain⟨o,ho,hg,he,hd⟩:=LI hs;refine⟨fun w H W=>?_⟩;rw[hd] at h;obtain⟨ν,res,hp',w',h1,H',hw,hrd,hG⟩:=h w H W;refine Gs.op ho hg ?_;unfold Oper.wp;rw[GB,he];simp only[MU,Sem.run_bind,h1,Result.andThen_ok,Sem.run_pure,Oper.upon_value];simp only[Bool.and_eq_true,Nat.ble_eq] at hw;refine⟨β++ν,QJ o.dst res m.sl,hp',?_,fun w2 hI=>IR.app H.len (SM.wf_hp W) hrd hI,hG.go w' H' ?_⟩;·rw[←YD n ν (by rw[H.len];exact SM.wf_sl W),←FR]
 ·simp only[SM.wf,SM.put,Bool.and_eq_true];exact⟨DN (Slots.wf_mono hw.2.1 (SM.wf_sl W)) hw.1,hw.2.2⟩
theorem Hs.opU {s:Sem Unit} (hs:KT n β m=some (unitS s)) (h: ∀w,Mem w0 L β m.hp w→m.wf=true→∃(hp':List HB) (w':World),s.run P w = .ok () w'∧Mem w0 L β hp' w'∧(Nat.ble m.hp.length hp'.length&&hp'.all (HB.wf hp'.length))=true∧(∀k∈HL m,∀h,m.hp[k]? = some h→hp'[k]? = some h)∧Hs P f R n w0 L β (m.put (BL m) (.c (.v undef)) hp')):Hs P f R n w0 L β m:=by
 obtain⟨o,ho,hg,he,hd⟩:=LI hs;refine⟨fun w H W=>?_⟩;rw[hd] at h;obtain⟨hp',w',h1,H',hw,hrd,hG⟩:=h w H W;refine Gs.op ho hg ?_;unfold Oper.wp;rw[GB,he];simp only[unitS,Sem.run_bind,h1,Result.andThen_ok,Sem.run_pure,Oper.upon_skip];simp only[Bool.and_eq_true,Nat.ble_eq] at hw;refine⟨β,_,hp',FR n β m.sl o.dst (.c (.v undef)),fun w2 hI=>?_,hG.go w' H' ?_⟩
 ·have:β=β++[]:=by simp
  rw[this] at hI;exact IR.app H.len (SM.wf_hp W) hrd hI
 ·simp only[SM.wf,SM.put,Bool.and_eq_true];exact⟨DN (Slots.wf_mono hw.1 (SM.wf_sl W)) rfl,hw.2⟩
theorem Hs.slot (d:Nat) (v:SV) (hv:v.wf m.hp.length=true) (h:(m.sl.at d).den β=v.den β) (k:Hs P f R n w0 L β ⟨m.r,m.todo,.put d v m.sl,m.hp⟩):Hs P f R n w0 L β m:=by
 have e:fr n β (.put d v m.sl)=fr n β m.sl:=by
  unfold fr;rw[show(Slots.put d v m.sl).ds=m.sl.ds from rfl];congr 2
  refine List.map_congr_left fun i _=>?_;rw[Slots.at_put];split;·rename_i hi;subst hi;exact h.symm
  ·rfl
 refine⟨fun w H W=>?_⟩;have g:=k.go w H (by
  simp only[SM.wf,Bool.and_eq_true,Slots.wf];exact⟨⟨hv,SM.wf_sl W⟩,SM.wf_hp W⟩)
 obtain⟨r,todo,sl,hp⟩:=m;unfold Gs at g⊢;dsimp only at g⊢;rw[e] at g;exact g
theorem Hs.bool (d:Nat) (b:Bool) (h:(m.sl.at d).den β = .bool b) (ht:b=true→Hs P f R n w0 L β ⟨m.r,m.todo,.put d (.c (.v (.bool true))) m.sl,m.hp⟩) (hf:b=false→Hs P f R n w0 L β ⟨m.r,m.todo,.put d (.c (.v (.bool false))) m.sl,m.hp⟩):Hs P f R n w0 L β m:=by
 cases b;·exact Hs.slot d (.c (.v (.bool false))) rfl h (hf rfl)
 ·exact Hs.slot d (.c (.v (.bool true))) rfl h (ht rfl)
def XS (i:Nat) (v:SV) (m:SM):SM:=match m.r with
 | .any ops (fuel+1) lm rd=>⟨.any ops fuel (ES lm i) rd,m.todo,QJ ((ops[i]?).bind (·.dst)) v m.sl,m.hp⟩
 |_=>m
def semAt (i:Nat) (n:Nat) (β:List Nat) (m:SM):Option (Sem Next×List Nat):=match m.r with
 | .any ops (_+1) lm rd=>match ops[i]? with
  |some o=>match o.guard with
   |none=>match(QM lm ops.toList 0).contains i&&(RC ops lm i o ops.toList 0&&QN ops lm rd i) with
    |true=>some (execOp (fun x=>(evS n m.sl x).den β) o,rdE ops lm rd)
    |false=>none
   |some _=>none
  |none=>none
 |_=>none
theorem Hs.takeV (i:Nat) {s:Sem Value} {rd:List Nat} (v:SV) (hs:semAt i n β m=some (MU s,rd)) (hv:v.wf m.hp.length=true) (h: ∀w,IR β m.hp rd w→s.run P w = .ok (v.den β) w) (k:Hs P f R n w0 L β (XS i v m)):Hs P f R n w0 L β m:=by
 refine⟨fun w H W=>?_⟩;have hI: ∀rd,IR β m.hp rd w:=fun _ k _ h hh=>H.lies k h hh;obtain⟨r,todo,sl,hp⟩:=m;unfold semAt at hs;dsimp only at hs;split at hs
 ·rename_i ops fuel lm rd';split at hs
  ·rename_i o ho;split at hs
   ·rename_i hg;split at hs
    ·rename_i hcond;injection hs with hs;injection hs with hs1 hs2;subst hs2;simp only[Bool.and_eq_true] at hcond;obtain⟨hmem,hfree,hrb⟩:=hcond;intro hcl hlm hns;have hil:i<ops.size:=(Array.getElem?_eq_some_iff.1 ho).1;have hready:i∈Region.ready .any ops (AN ops.size lm):=by rw[DU hlm];simpa using hmem
     have hcl':EW .any ops (AN ops.size (ES lm i)):=by rw[←CY hil];exact hcl.set hready
     have g:=k.go w H (by
      simp only[SM.wf,XS,Bool.and_eq_true];exact⟨DN (SM.wf_sl W) hv,SM.wf_hp W⟩)
     have g2:=g hcl' (hlm.set hil) hns;simp only[XS,ho,Option.bind_some] at g2;have hap: ∀j oj,ops[j]? = some oj→j≠i→(AN ops.size lm).getD j true=false→(∀e∈oj.after,Region.binds .any e=true→e.on≠i)→o.apart ops oj=true:=fun j oj hj hne hun hno=>by
      refine LD ops.toList 0 hfree j oj (by simpa using hj) ?_ (by simpa using hne) hno;rw[Nat.zero_add];exact(FN.1 hun).2
     have g3:AY P .any ops (QQ P f R todo) (IR β hp (KL rd')) (QD rd') fuel ((AN ops.size lm).setIfInBounds i true) ((fr n β sl).put o.dst (v.den β)) w:=by
      rw[CY hil,FR];exact g2
     have hyld: ∀w',IR β hp (rdE ops lm rd') w'→YieldsAt P ops w' o (v.den β) (fr n β sl):=fun w' hI'=>.inl ⟨by simp[Region.wanted,hg],.inl (by
      rw[GB,hs1];simp only[MU,Sem.run_bind,h w' hI',Result.andThen_ok,Sem.run_pure])⟩
     unfold rdE at hyld;cases hb:hitB ops lm rd' with
     |true=>
      rw[hb] at hyld;refine JI _ _ _ _ (SW hb) ?_;exact VF (v:=v.den β) ho (Region.noSelect_spec hns) (fun c a w hp=>by cases hp.1) 0 (fun e he=>by cases he) fuel _ _ w hcl (fun e he=>by cases he) trivial hap hready (fun w' _=>hyld w' (fun k hk=>by cases hk)) (IH _ _ _ _ g3)
     |false=>
      rw[hb] at hyld;unfold QN at hrb;rw[hb,Bool.false_or] at hrb;exact VF (v:=v.den β) ho (Region.noSelect_spec hns) (fun c a w hp=>by cases hp.1) ops.size (fun e he=>List.all_eq_true.1 hrb e he) fuel _ _ w hcl (noE_of hb) (hI _) hap hready (fun w' hI'=>hyld w' hI') g3
    ·cases hs
   ·cases hs
  ·cases hs
 ·cases hs
/-! Where a piece of code begins again. -/
inductive HV where
  | no
  | r (wr : Bool) (T : TypeId) (vs : List Value)
  | s (A : Option Addr) (cap n E size : Nat) (vs : List Value)
  | q (wr : Bool) (A : Option Addr) (Q : World → Prop)
def HB.val (β:List Nat):HB→HV
 | .no=>.no
 | .b wr T cs=>.r wr T (DE β cs)
 | .r wr T vs=>.r wr T vs
 | .s A cap n E size vs=>.s A cap n E size vs
 | .q wr A Q _=>.q wr A Q
def hpAt (β:List Nat) (hp:List HB) (k:Nat):HV:=match hp[k]? with
 |some h=>h.val β
 |none=>.no
def BI:List (Nat×SV)→Slots→Slots
 |[],l=>l
 |(d,v)::ps,l=>.put d v (BI ps l)
theorem HB.val_lies {w:World} {β β':List Nat} {b:Nat} {h h':HB} (e:h.val β=h'.val β'):h.lies w β b↔h'.lies w β' b:=by
 cases h<;>cases h'<;>simp only[HB.val,HV.r.injEq,HV.s.injEq,HV.q.injEq,reduceCtorEq] at e<;>simp only[HB.lies]<;>first
  |(obtain⟨rfl,rfl,rfl⟩:=e;exact Iff.rfl)
  |(obtain⟨_,rfl,e⟩:=e;rw[e])
  |(obtain⟨rfl,rfl,rfl,rfl,rfl,rfl⟩:=e;exact Iff.rfl)
theorem HB.val_wr {β β':List Nat} {h h':HB} (e:h.val β=h'.val β'):h.wr=h'.wr:=by
 cases h<;>cases h'<;>simp only[HB.val,HV.r.injEq,HV.s.injEq,HV.q.injEq,reduceCtorEq] at e<;>first|rfl|exact e.1
theorem HB.val_blk {β β':List Nat} {b:Nat} {h h':HB} (e:h.val β=h'.val β'):h.blk b=h'.blk b:=by
 cases h<;>cases h'<;>simp only[HB.val,HV.r.injEq,HV.s.injEq,HV.q.injEq,reduceCtorEq] at e<;>first|rfl|(obtain⟨rfl,_⟩:=e;rfl)|(obtain⟨_,rfl,_⟩:=e;rfl)
theorem Mem.sub {w:World} {hp hp':List HB} (H:Mem w0 L β hp w) (ks:List Nat) (hn:ks.Nodup) (he:hp'.map (HB.val (ks.map (nm β)))=ks.map (hpAt β hp)):Mem w0 L (ks.map (nm β)) hp' w:=by
 have hlen:hp'.length=ks.length:=by simpa using congrArg List.length he
 have key: ∀(k:Nat) (h':HB),hp'[k]? = some h'→h'.blk 0=h'.blk 0∧(h' = .no∨∃i h,ks[k]? = some i∧hp[i]? = some h∧h.val β=h'.val (ks.map (nm β))∧nm (ks.map (nm β)) k=nm β i):=fun k h' hk=>by
  refine⟨rfl,?_⟩;have hkl:k<ks.length:=by rw[←hlen];exact(List.getElem?_eq_some_iff.1 hk).1
  have h1:=congrArg (·[k]?) he;simp only[List.getElem?_map,hk,List.getElem?_eq_getElem hkl,Option.map_some,Option.some.injEq] at h1;cases hi:hp[ks[k]]? with
  |none=>
   simp only[hpAt,hi] at h1;cases h'<;>simp[HB.val] at h1
   exact .inl rfl
  |some h=>
   simp only[hpAt,hi] at h1;exact .inr ⟨ks[k],h,List.getElem?_eq_getElem hkl,hi,h1.symm,by simp[nm,List.getD,hkl]⟩
 refine⟨H.only,by simp[hlen],fun k h' hk=>?_,fun k h' x hk hw hx=>?_,fun i j hi hj x ei ej li lj=>?_⟩
 ·rcases(key k h' hk).2 with rfl|⟨i,h,_,h2,h3,h4⟩;·trivial
  ·rw[h4];exact(HB.val_lies h3).1 (H.lies i h h2)
 ·rcases(key k h' hk).2 with rfl|⟨i,h,_,h2,h3,h4⟩;·cases hw
  ·rw[h4,←HB.val_blk h3] at hx;exact H.own i h x h2 (by rw[HB.val_wr h3];exact hw) hx
 ·rcases(key i hi ei).2 with rfl|⟨a,h,h1,h2,h3,h4⟩;·cases li
  ·rcases(key j hj ej).2 with rfl|⟨a',h',h1',h2',h3',h4'⟩;·cases lj
   ·rw[h4,←HB.val_blk h3] at li;rw[h4',←HB.val_blk h3'] at lj;have e:=H.inj a a' h h' x h2 h2' li lj;subst e;exact(List.getElem?_inj (List.getElem?_eq_some_iff.1 h1).1 hn).1 (h1.trans h1'.symm)
theorem pins_at (ps:List (Nat×SV)) (l:Slots) (i:Nat):(BI ps l).at i=match ps.find? (fun p=>decide (i=p.1)) with|some p=>p.2|none=>l.at i:=by
 induction ps with
 |nil=>rfl
 |cons p ps ih=>
  obtain⟨d,v⟩:=p;show(Slots.put d v (BI ps l)).at i=_;rw[Slots.at_put];by_cases h:i=d
  ·simp[h]
  ·simp[h,ih]
theorem pins_ds: ∀(ps:List (Nat×SV)) (l:Slots),(BI ps l).ds=l.ds
 |[],_=>rfl
 |(_,_)::ps,l=>pins_ds ps l
theorem Hs.goto (T:List Item) (ks:List Nat) (hp':List HB) (ps:List (Nat×SV)) (hT:(match m.r with | .no=>(match m.sl.ds with|[]=>some m.todo|_=>none)|_=>none)=some T) (hn:ks.Nodup) (he:hp'.map (HB.val (ks.map (nm β)))=ks.map (hpAt β m.hp))
  (hs:ps.map (fun p=>p.2.den (ks.map (nm β)))=ps.map (fun p=>(m.sl.at p.1).den β)) (hw: ∀u,(SM.wf ⟨.no,T,BI ps (.vals u),hp'⟩)=true) (h: ∀u,Hs P f R n w0 L (ks.map (nm β)) ⟨.no,T,BI ps (.vals u),hp'⟩):Hs P f R n w0 L β m:=by
 refine⟨fun w H W=>?_⟩;have g:=(h fun i=>(m.sl.at i).den β).go w (H.sub ks hn he) (hw _);obtain⟨r,todo,sl,hp⟩:=m;dsimp only at hT;split at hT
 ·split at hT;rotate_left
  ·cases hT
  rename_i hds;injection hT with hT;subst hT;have e:fr n (ks.map (nm β)) (BI ps (.vals fun i=>(sl.at i).den β))=fr n β sl:=by
   unfold fr;rw[pins_ds,hds];show Act.mk _ _=Act.mk _ _;congr 2
   refine List.map_congr_left fun i _=>?_;rw[pins_at];split
   ·rename_i p hp;have h1:=List.mem_of_find?_eq_some hp;have h2:=List.find?_some hp;simp only[decide_eq_true_eq] at h2;have h3:=List.map_inj_left.1 hs p h1;rw[h2];exact h3
   ·rfl
  show FJ P f R todo (fr n β sl) w;unfold Gs at g;dsimp only at g;rw[e] at g;exact g
 ·cases hT
def JS:Code→List Item→List (List Item)
 | .seq a b,k=>JS a (.code b::k)++JS b k
 | .cond _ x y,k=>JS x k++JS y k
 | .block id c,k=>JS c (.inBlock id::k)
 | .scope c,k=>JS c (.inScope c::k)
 | .loop c,k=>(.code c :: .inLoop c::k)::JS c (.inLoop c::k)
 |_,_=>[]
def AE (fn:Func) (j:Nat):List Item:=match(JS (NK fn) [])[j]? with
 |some l=>l
 |none=>[]
theorem Hs.callQ {X:Type} (Ao:X→Option Addr) (v:X→Value) (Q:X→World→Prop) (st: ∀x (w w':World),(∀a,Ao x=some a→w'.heap[a.block]? = w.heap[a.block]?)→w.heap.size≤w'.heap.size→Q x w→Q x w') {F:FuncId} {args:Array Value}
  (hC: ∀w,Mem w0 L β m.hp w→Calls P F args w fun e w'=>∃x,e = .returned (v x)∧Only [] w w'∧Q x w'∧∀a,Ao x=some a→w.heap.size≤a.block∧a.block<w'.heap.size) (hc:EX P n β m=some (F,args)) (hrd:(HL m).all (fun k=>Nat.blt k m.hp.length)=true)
  (h: ∀x,Hs P f R n w0 L (β++[0]) (m.put (BL m) (.c (.v (v x))) (m.hp++[.q true (Ao x) (Q x) (st x)]))):Hs P f R n w0 L β m:=by
 refine⟨fun w H W=>?_⟩;refine(Hs.call hc (fun w H=>?_)).go w H W;refine Calls.mono (hC w H) ?_;rintro e w' ⟨x,rfl,O,hQ,hA⟩;have hw:=SM.wf_hp W;refine⟨[0],.c (.v (v x)),m.hp++[.q true (Ao x) (Q x) (st x)],rfl,H.push (h:=.q true (Ao x) (Q x) (st x)) (by rw[H.len];exact hw) O (fun y hy=>?_) (show Q x w'∧_ from⟨hQ,fun a ha=>(hA a ha).2⟩),?_,fun k hk h hh=>?_,h x⟩
 ·simp only[HB.blk,Option.map_eq_some_iff] at hy;obtain⟨a,hx,rfl⟩:=hy;exact(hA a hx).1
 ·simp only[SV.wf,SC.wf,Bool.true_and,Bool.and_eq_true,Nat.ble_eq,List.length_append,List.length_cons,List.length_nil,List.all_append,List.all_cons,List.all_nil,Bool.and_true];refine⟨by omega,List.all_eq_true.2 fun y hy=>?_,rfl⟩;have h1:=List.all_eq_true.1 hw y hy;cases y with
  |no=>rfl
  |s=>rfl
  |q=>rfl
  |r _ _ _=>rfl
  |b _ _ cs=>exact List.all_eq_true.2 fun z hz=>SC.wf_mono (by omega) (List.all_eq_true.1 h1 z hz)
 ·rw[List.getElem?_append_left (List.getElem?_eq_some_iff.1 hh).1];exact hh
/-! Slices of our own. -/
theorem Hs.nilS (E size:Nat) (hr:(HL m).all (fun k=>Nat.blt k m.hp.length)=true) (h:Hs P f R n w0 L (β++[0]) ⟨m.r,m.todo,m.sl,m.hp++[.s none 0 0 E size []]⟩) (hno:(match m.r with | .no=>true | .lst .. =>true | .lstN .. =>true|_=>false)=true):Hs P f R n w0 L β m:=by
 refine⟨fun w H W=>?_⟩;have hw:=SM.wf_hp W;have H2:Mem w0 L (β++[0]) (m.hp++[.s none 0 0 E size []]) w:=H.push (by rw[H.len];exact hw) (Only.refl _ _) (fun x hx=>by cases hx) ⟨by simp,.inl ⟨rfl,rfl⟩⟩;have g:=h.go w H2 (by
  simp only[SM.wf,Bool.and_eq_true,List.length_append,List.length_cons,List.length_nil,List.all_append,List.all_cons,List.all_nil,Bool.and_true];refine⟨Slots.wf_mono (by omega) (SM.wf_sl W),List.all_eq_true.2 fun x hx=>?_,rfl⟩;have h1:=List.all_eq_true.1 hw x hx;cases x with
  |no=>rfl
  |s=>rfl
  |q=>rfl
  |r _ _ _=>rfl
  |b _ _ cs=>exact List.all_eq_true.2 fun y hy=>SC.wf_mono (by omega) (List.all_eq_true.1 h1 y hy))
 have e:fr n (β++[0]) m.sl=fr n β m.sl:=YD n [0] (by rw[H.len];exact SM.wf_sl W);obtain⟨r,todo,sl,hp⟩:=m;unfold Gs at g⊢;dsimp only at g⊢e hno;rw[e] at g;split at hno<;>first|exact g|cases hno
section
variable {α : Type} {cf : α → List Value} {tS E size bytes : Nat}
theorem RA (hcl: ∀x,(cf x).length=size) (gs:List α):(gs.flatMap cf).length=gs.length*size:=by
 induction gs with
 |nil=>simp
 |cons a r ih=>rw[List.flatMap_cons,List.length_append,hcl,ih,List.length_cons,Nat.succ_mul];omega
theorem Hs.app (k:Nat) (ht:ElemT P tS E size bytes) (l gs:List α) (nl ng:Nat) (hl:l.length=nl) (hg:gs.length=ng) {A B:Option Addr} {cap c ty:Nat} (hone: ∀x,∀u∈cf x,u.oneCell'=true) (hcl: ∀x,(cf x).length=size)
  (hs:KT n β m=some (MU (Builtin.append_ #[tS,tS] ty #[.slice A nl cap,.slice B ng c]))) (hk:m.hp[k]? = some (.s A cap nl E size (l.flatMap cf))) (hrd:(HL m).contains k=false)
  (hr: ∀w,Mem w0 L β m.hp w→RdX cf w B gs) (hlen:nl+ng≤maxLen) (hby:(nl+ng)*bytes≤140737488355328)
  (h: ∀A' cap',cap'≤maxLen→Hs P f R n w0 L β (m.put (BL m) (.c (.v (.slice A' (nl+ng) cap'))) (m.hp.set k (.s A' cap' (nl+ng) E size ((l++gs).flatMap cf))))):Hs P f R n w0 L β m:=by
 obtain⟨o,ho,hgk,he,hd⟩:=LI hs;refine⟨fun w H W=>?_⟩;have hown:BM cf E size w 0 (.slice A nl cap) l:=by
  unfold BM;rw[hl];exact H.lies k _ hk
 subst hl;subst hg;obtain⟨v',w',h1,h2,h3,h4⟩:=UX (ty:=ty) ht hone hown B c gs (RA hcl gs) (hr w H) hlen hby (Nat.zero_le _);obtain⟨A',cap',rfl,_,hmax,_,hblk⟩:=h2.form;rw[hd] at h;have h:=h A' cap' hmax;have hlen2:(l++gs).length=l.length+gs.length:=by simp
 rw[hlen2] at h1 h4;have hkl:=(List.getElem?_eq_some_iff.1 hk).1;have H':Mem w0 L β (m.hp.set k (.s A' cap' (l.length+gs.length) E size ((l++gs).flatMap cf))) w':=by
  refine H.swap k hk h3 (fun x hx=>?_) rfl ?_ (fun x hx=>?_)
  ·cases A with
   |none=>simp[Value.ownBlock] at hx
   |some a=>simp only[Value.ownBlock,Option.toList_some,List.mem_singleton] at hx;subst hx;rfl
  ·have h5:=h2;unfold BM at h5;rw[hlen2] at h5;exact h5
  ·have hb:Value.ownBlock (.slice A' (l.length+gs.length) cap')=some x:=by
    cases A' with
    |none=>cases hx
    |some a=>simp only[HB.blk,Option.map_some] at hx;exact hx
   rcases h4 with h4|h4
   ·left;rw[h4] at hb;cases A with
    |none=>cases hb
    |some a=>exact hb
   ·right;rw[h4] at hb;injection hb with hb;omega
 refine Gs.op ho hgk ?_;unfold Oper.wp;rw[GB,he];simp only[MU,Sem.run_bind,h1,Result.andThen_ok,Sem.run_pure,Oper.upon_value];refine⟨β,_,_,FR n β m.sl o.dst (.c (.v (.slice A' (l.length+gs.length) cap'))),fun w2 hI=>?_,h.go w' H' ?_⟩
 ·intro i hi hb hh;refine hI i hi hb ?_;rw[List.getElem?_set,if_neg (fun e=>by
   subst e;simp at hrd;exact hrd hi)]
  exact hh
 ·simp only[SM.wf,SM.put,Bool.and_eq_true,List.length_set];refine⟨DN (SM.wf_sl W) rfl,List.all_eq_true.2 fun x hx=>?_⟩;rcases List.mem_or_eq_of_mem_set hx with hx|rfl;·exact List.all_eq_true.1 (SM.wf_hp W) x hx
  ·rfl
end
end
end Go.Proofs.YtdplnedpbkpgpaaGreatDoor
namespace Go.Proofs.YtdplnedpbkpgpaaGreatDoor
section
variable {P : Program} {f : FuncId} {R : Ending → World → Prop} {n : Nat} {w0 : World} {L : List Nat} {β : List Nat} {m : SM}
theorem run_idx {tS E size bytes:Nat} (ht:ElemT P tS E size bytes) {b off len c i:Nat} (hi:i<len) (w:World):(Instr.indexAt tS (.slice (some ⟨b,off,none⟩) len c) (.int .i64 i)).run P w = .ok (.pointer (some ⟨b,off+i*size,none⟩)) w:=by
 obtain⟨hu,⟨i0,z,hinfo,_,hsz,_⟩,_⟩:=ht;have h1:(0:Int)≤(i:Int)∧(i:Int)<(len:Int):=⟨by omega,by omega⟩;simp[Instr.indexAt,asIntOf,run_underlying hu,sizeOf,typeInfo,hinfo,hsz,h1,hi,Addr.add_mid]
theorem Hs.idx {tS E size bytes:Nat} (ht:ElemT P tS E size bytes) {b off len c i:Nat} (hi:i<len) (hs:KT n β m=some (MU (Instr.indexAt tS (.slice (some ⟨b,off,none⟩) len c) (.int .i64 i)))) (h:Hs P f R n w0 L β (m.put (BL m) (.c (.v (.pointer (some ⟨b,off+i*size,none⟩)))) m.hp)):Hs P f R n w0 L β m:=
 Hs.opV _ hs rfl (fun w _=>run_idx ht hi w) h
theorem QL {α:Type} {cf:α→List Value} {size:Nat} (hcl: ∀x,(cf x).length=size) {w:World} {b off:Nat} {l:List α} {i:Nat} {x:α} (hr:RdX cf w (some ⟨b,off,none⟩) l) (hx:l[i]? = some x):w.rangeAt b (off+i*size) (cf x):=fun j v hj=>by
 have hil:=(List.getElem?_eq_some_iff.1 hx).1;obtain⟨b',off',e,_,hc⟩:=hr (by omega);injection e with e;injection e with e1 e2;subst e1;subst e2;rw[Nat.add_assoc];refine hc _ v ?_;have key: ∀(l:List α) (i:Nat),l[i]? = some x→(l.flatMap cf)[i*size+j]? = some v:=by
  intro l;induction l with
  |nil=>intro i h;simp at h
  |cons a r ih=>
   intro i h;cases i with
   |zero=>
    simp at h;subst h;rw[List.flatMap_cons,List.getElem?_append_left (by have:=(List.getElem?_eq_some_iff.1 hj).1;omega),Nat.zero_mul,Nat.zero_add];exact hj
   |succ i=>
    simp at h;rw[List.flatMap_cons,List.getElem?_append_right (by rw[hcl,Nat.succ_mul];omega),hcl,show(i+1)*size+j-size=i*size+j by rw[Nat.succ_mul];omega];exact ih i h
 exact key l i hx
theorem Hs.ldx {α:Type} {cf:α→List Value} {size:Nat} (hcl: ∀x,(cf x).length=size) {E b off i:Nat} {l:List α} {x:α} (v:SV) (hs:KT n β m=some (MU (Instr.loadAt E (.pointer (some ⟨b,off+i*size,none⟩))))) (hr: ∀w,Mem w0 L β m.hp w→RdX cf w (some ⟨b,off,none⟩) l) (hx:l[i]? = some x) (ha:aggB P E=some true) (hz:szB P E=some size) (hv:v.den β = .agg (cf x).toArray) (hw:v.wf m.hp.length=true)
  (h:Hs P f R n w0 L β (m.put (BL m) v m.hp)):Hs P f R n w0 L β m:=
 Hs.opV v hs hw (fun w H=>by
  obtain⟨d,hu,hd⟩:=ZY ha;rw[hv];exact run_loadAt_mid w b _ E (cf x) d (QL hcl (hr w H) hx) hu hd (by rw[cJ hz,hcl])) h
theorem Hs.callX {X:Type} (v:X→Value) (Q:X→Prop) {F:FuncId} {args:Array Value} (hC: ∀w,Mem w0 L β m.hp w→Calls P F args w fun e w'=>∃x,e = .returned (v x)∧Only [] w w'∧Q x) (hc:EX P n β m=some (F,args)) (h: ∀x,Q x→Hs P f R n w0 L β (m.put (BL m) (.c (.v (v x))) m.hp)):Hs P f R n w0 L β m:=by
 refine⟨fun w H W=>?_⟩;refine(Hs.call hc (fun w H=>?_)).go w H W;refine Calls.mono (hC w H) ?_;rintro e w' ⟨x,rfl,O,hQ⟩;refine⟨[],.c (.v (v x)),m.hp,rfl,by rw[List.append_nil];exact H.step O,?_,fun k _ h hh=>hh,by rw[List.append_nil];exact h x hQ⟩;simp only[SV.wf,SC.wf,Bool.true_and,Bool.and_eq_true,Nat.ble_eq];exact⟨Nat.le_refl _,SM.wf_hp W⟩
end
theorem Hs.gt {P:Program} {f:FuncId} {R:Ending→World→Prop} {n:Nat} {w0:World} {L β:List Nat} {m:SM} (T:List Item) (ks:List Nat) (hp':List HB) (ps:List (Nat×SV)) (h: ∀u,Hs P f R n w0 L (ks.map (nm β)) ⟨.no,T,BI ps (.vals u),hp'⟩) (hT:(match m.r with | .no=>(match m.sl.ds with|[]=>some m.todo|_=>none)|_=>none)=some T:=by kernel_rfl) (hn:ks.Nodup:=by decide) (he:hp'.map (HB.val (ks.map (nm β)))=ks.map (hpAt β m.hp):=by kernel_rfl) (hs:ps.map (fun p=>p.2.den (ks.map (nm β)))=ps.map (fun p=>(m.sl.at p.1).den β):=by kernel_rfl) (hw: ∀u,(SM.wf ⟨.no,T,BI ps (.vals u),hp'⟩)=true:=by intro _;kernel_rfl):Hs P f R n w0 L β m:=Hs.goto T ks hp' ps hT hn he hs hw h
end Go.Proofs.YtdplnedpbkpgpaaGreatDoor
namespace Go.Proofs.YtdplnedpbkpgpaaGreatDoor
open Go.RowKit
section
variable {P : Program} {f : FuncId} {R : Ending → World → Prop} {n : Nat} {w0 : World} {L : List Nat} {β : List Nat} {m : SM}
/-! Into a call. -/
theorem Hs.enterM {fn:Func} {args:Array Value} {w:World} (hf:P.funcs[f]? = some fn) (hp:List HB) (xs:List SV) (H:Mem w0 L β hp w) (hc:(Nat.ble xs.length fn.ntmps&&(fn.body.isSome&&(HP fn xs hp).wf))=true) (ha:args=(xs.map (SV.den β)).toArray) (h:Hs P f R fn.ntmps w0 L β (HP fn xs hp)):Calls P f args w R:=by
 simp only[Bool.and_eq_true,Nat.ble_eq] at hc;obtain⟨h2,h3,h4⟩:=hc;obtain⟨c,hb⟩:=Option.isSome_iff_exists.1 h3;have e:NK fn=c:=by unfold NK;rw[hb]
 have g:=h.go w H h4;unfold Gs HP at g;dsimp only at g;rw[e] at g;refine FJ.enter hf hb _ ?_ g;subst ha;exact aS β xs fn.ntmps h2
def InR (P:Program) (f:FuncId) (R:Ending→World→Prop) (n:Nat) (w0:World) (L β:List Nat) (m:SM):Ending→World→Prop:=fun e w'=>
 ∃(ν:List Nat) (res:SV) (hp':List HB),e = .returned (res.den (β++ν))∧Mem w0 L (β++ν) hp' w'∧(res.wf hp'.length&&(Nat.ble m.hp.length hp'.length&&hp'.all (HB.wf hp'.length)))=true∧(∀k∈HL m,∀h,m.hp[k]? = some h→hp'[k]? = some h)∧Hs P f R n w0 L (β++ν) (m.put (BL m) res hp')
theorem Hs.inl {F:FuncId} {fn:Func} (hF:P.funcs[F]? = some fn) (xs:List SV) (hc:EX P n β m=some (F,(xs.map (SV.den β)).toArray)) (hs:(Nat.ble xs.length fn.ntmps&&(fn.body.isSome&&(HP fn xs m.hp).wf))=true)
  (h:Hs P F (InR P f R n w0 L β m) fn.ntmps w0 L β (HP fn xs m.hp)):Hs P f R n w0 L β m:=
 Hs.call hc fun w H=>Hs.enterM hF m.hp xs H hs rfl h
def retS (P:Program) (fn:Func) (n:Nat) (m:SM):Option SV:=match m.r with
 | .no=>match(match m.todo with|[]=>m.sl.ds.isEmpty | .code .ret::_=>m.sl.ds.isEmpty|_=>false) with
  |true=>match retL P n m fn.results.toList with
   |some [v]=>some v.sv
   |some vs=>some (.t vs)
   |none=>none
  |false=>none
 |_=>none
def MD (P:Program) (fn:Func) (n:Nat) (m:SM):SV:=(retS P fn n m).getD (.t [])
theorem retS_of {fn:Func} {v:SV} (h:retS P fn n m=some v):retOf P fn n β m=some (v.den β):=by
 unfold retS at h;unfold retOf;split at h
 ·rename_i hr;rw[hr];dsimp only;split at h
  ·rename_i ht;split;rotate_left
   ·rename_i h2;exact absurd (ht.symm.trans h2:true=false) (by decide)
   split at h
   ·rename_i v1 hv;injection h with h;subst h;rw[hv];cases v1<;>rfl
   ·rename_i vs hne hv;injection h with h;subst h;rw[hv];split
    ·rename_i v1 h1;injection h1 with h1;exact absurd h1 (hne v1)
    ·rename_i h2 h3 h1;injection h1 with h1;subst h1;rfl
    ·rename_i h1;cases h1
   ·cases h
  ·cases h
 ·cases h
theorem Hs.retI {F:FuncId} {fn:Func} {n0:Nat} {β0:List Nat} {m0:SM} (hf:P.funcs[F]? = some fn) (hr:((retS P fn n m).isSome&&((MD P fn n m).wf m.hp.length&&Nat.ble m0.hp.length m.hp.length))=true) (hβ:β=β0++β.drop β0.length)
  (hrd:(HL m0).map (fun k=>m.hp[k]?)=(HL m0).map (fun k=>m0.hp[k]?)) (h:Hs P f R n0 w0 L β (m0.put (BL m0) (MD P fn n m) m.hp)):Hs P F (InR P f R n0 w0 L β0 m0) n w0 L β m:=by
 simp only[Bool.and_eq_true] at hr;obtain⟨h1,h2,h3⟩:=hr;obtain⟨v,hv⟩:=Option.isSome_iff_exists.1 h1;have e:MD P fn n m=v:=by unfold MD;rw[hv];rfl
 rw[e] at h h2;refine⟨fun w H W=>?_⟩;refine(Hs.ret hf (retS_of hv) (fun w' H'=>?_)).go w H W;refine⟨β.drop β0.length,v,m.hp,by rw[←hβ],by rw[←hβ];exact H',?_,fun k hk b hb=>?_,by rw[←hβ];exact h⟩;·rw[h2,h3,SM.wf_hp W];rfl
 ·have:=List.map_inj_left.1 hrd k hk;rw[this];exact hb
/-! Another world to count from. -/
def wrN:List Nat→List HB→List Nat
 |b::β,h::hp=>(if h.wr then(h.blk b).toList else[])++wrN β hp
 |_,_=>[]
theorem MS: ∀{β:List Nat} {hp:List HB} {x:Nat},x∈wrN β hp↔∃(k:Nat) (h:HB) (b:Nat),hp[k]? = some h∧β[k]? = some b∧h.wr=true∧h.blk b=some x
 |[],hp,x=>by cases hp<;>simp[wrN]
 |b::β,[],x=>by simp[wrN]
 |b::β,h::hp,x=>by
  have ih:=MS (β:=β) (hp:=hp) (x:=x);simp only[wrN,List.mem_append,ih];constructor
  ·rintro(h1|⟨k,h',b',h1,h2,h3,h4⟩)
   ·split at h1
    ·rename_i hw;rw[Option.mem_toList] at h1;exact⟨0,h,b,rfl,rfl,hw,h1⟩
    ·cases h1
   ·exact⟨k+1,h',b',by simpa using h1,by simpa using h2,h3,h4⟩
  ·rintro⟨k,h',b',h1,h2,h3,h4⟩;cases k with
   |zero=>
    simp at h1 h2;subst h1;subst h2;left;rw[if_pos h3,Option.mem_toList];exact h4
   |succ k=>exact .inr ⟨k,h',b',by simpa using h1,by simpa using h2,h3,h4⟩
def Back (w0:World) (L:List Nat) (w1:World) (L1:List Nat):Prop:=∀w',Only L1 w1 w'→Only L w0 w'
theorem Back.refl:Back w0 L w0 L:=fun _ h=>h
theorem YL {β:List Nat} {k b:Nat} (h:β[k]? = some b):nm β k=b:=by simp[nm,List.getD,h]
theorem Mem.back {w1:World} {hp:List HB} (H:Mem w0 L β hp w1):Back w0 L w1 (wrN β hp):=fun w' O=>
 H.only.trans O fun x hx=>by
  obtain⟨k,h,b,h1,h2,h3,h4⟩:=MS.1 hx;exact H.own k h x h1 h3 (by rw[YL h2];exact h4)
theorem Mem.wrN_lt {w1:World} {hp:List HB} (H:Mem w0 L β hp w1): ∀x∈wrN β hp,x<w1.heap.size:=fun x hx=>by
 obtain⟨k,h,b,h1,h2,h3,h4⟩:=MS.1 hx;have:=H.lies k h h1;rw[YL h2] at this;exact HB.lies_lt this h4
theorem Mem.rebase {w1:World} {hp:List HB} (H:Mem w0 L β hp w1):Mem w1 (wrN β hp) β hp w1:=
 ⟨Only.refl _ _,H.len,H.lies,fun k h x hk hw hx=>.inl (MS.2 ⟨k,h,nm β k,hk,by
  have hk2:=(List.getElem?_eq_some_iff.1 hk).1;rw[←H.len] at hk2;rw[nm,List.getD,List.getElem?_eq_getElem hk2];rfl,hw,hx⟩),H.inj⟩
theorem Hs.callE {X:Type} (v:X→Value) (Q:X→World→World→Prop) {F:FuncId} {args:Array Value} (hC: ∀w,Mem w0 L β m.hp w→Calls P F args w fun e w'=>∃x,e = .returned (v x)∧Only [] w w'∧Q x w w') (hc:EX P n β m=some (F,args)) (hrd:HL m=[])
  (h: ∀x w w1,Mem w0 L β m.hp w→Only [] w w1→Q x w w1→Back w0 L w1 (wrN β m.hp)→(∀y∈wrN β m.hp,y<w.heap.size)→Hs P f R n w1 (wrN β m.hp) β (m.put (BL m) (.c (.v (v x))) m.hp)):Hs P f R n w0 L β m:=by
 refine⟨fun w H W=>?_⟩;unfold EX at hc;split at hc
 ·rename_i o ho;split at hc
  ·rename_i hg;split at hc
   ·rename_i F' args' hp;injection hc with hc;injection hc with h1 h2;subst h1;subst h2;have hd:BL m=o.dst:=by unfold BL;rw[ho]
    rw[hd] at h;refine Gs.op ho hg ?_;unfold Oper.wp;rw[GB,JU P _ _ hp w];refine Calls.mono (hC w H) ?_;rintro e w' ⟨x,rfl,O,hQ⟩;have H':=H.step O;refine⟨β,QJ o.dst (.c (.v (v x))) m.sl,m.hp,FR n β m.sl o.dst (.c (.v (v x))),fun w2 hI=>hI,(h x w w' H O hQ H'.back H.wrN_lt).go w' H'.rebase ?_⟩;simp only[SM.wf,SM.put,Bool.and_eq_true];exact⟨DN (SM.wf_sl W) rfl,SM.wf_hp W⟩
   ·cases hc
  ·cases hc
 ·cases hc
section
variable {α : Type} {cf : α → List Value} {tS E size bytes : Nat}
theorem Mem.ownX {w:World} {hp:List HB} (H:Mem w0 L β hp w) (k:Nat) {A:Option Addr} {cap n:Nat} {l:List α} (hl:l.length=n) (hk:hp[k]? = some (.s A cap n E size (l.flatMap cf))):BM cf E size w 0 (.slice A n cap) l:=by
 unfold BM;rw[hl];exact H.lies k _ hk
theorem Mem.rdX {w:World} {hp:List HB} (H:Mem w0 L β hp w) (k:Nat) {A:Option Addr} {cap n:Nat} {l:List α} (hl:l.length=n) (hk:hp[k]? = some (.s A cap n E size (l.flatMap cf))):RdX cf w A l:=by
 obtain⟨A',cap',e,_,_,hr,_⟩:=(H.ownX k hl hk).form;injection e with e1;subst e1;exact hr
theorem Mem.capS {w:World} {hp:List HB} (H:Mem w0 L β hp w) (k:Nat) {A:Option Addr} {cap n:Nat} {l:List α} (hl:l.length=n) (hk:hp[k]? = some (.s A cap n E size (l.flatMap cf))):n≤cap∧cap≤maxLen:=by
 obtain⟨A',cap',e,h1,h2,_,_⟩:=(H.ownX k hl hk).form;injection e with e1 e2 e3;subst e3;subst hl;exact⟨h1,h2⟩
theorem Hs.callS (v:Option Addr→Nat→Value) (l:List α) (nl:Nat) (hl:l.length=nl) {F:FuncId} {args:Array Value} (hC: ∀w,Mem w0 L β m.hp w→Calls P F args w fun e w'=>∃A cap,e = .returned (v A cap)∧Only [] w w'∧BM cf E size w' w.heap.size (.slice A nl cap) l)
  (hc:EX P n β m=some (F,args)) (hrd:(HL m).all (fun k=>Nat.blt k m.hp.length)=true)
  (h: ∀A cap,nl≤cap→cap≤maxLen→Hs P f R n w0 L (β++[0]) (m.put (BL m) (.c (.v (v A cap))) (m.hp++[.s A cap nl E size (l.flatMap cf)]))):Hs P f R n w0 L β m:=by
 subst hl;refine⟨fun w H W=>?_⟩;refine(Hs.call hc (fun w H=>?_)).go w H W;refine Calls.mono (hC w H) ?_;rintro e w' ⟨A,cap,rfl,O,hO⟩;have hw:=SM.wf_hp W;obtain⟨A1,cap1,e1,hc1,hc2,_,hA⟩:=hO.form;injection e1 with e1 e2 e3;subst e1;subst e3;refine⟨[0],.c (.v (v A cap)),m.hp++[.s A cap l.length E size (l.flatMap cf)],rfl,H.push (h:=.s A cap l.length E size (l.flatMap cf)) (by rw[H.len];exact hw) O (fun y hy=>?_) (BM.mono hO (Nat.zero_le _)),?_,fun k hk h hh=>?_,h A cap hc1 hc2⟩
 ·simp only[HB.blk,Option.map_eq_some_iff] at hy;obtain⟨a,hx,rfl⟩:=hy;exact(hA a hx).1
 ·simp only[SV.wf,SC.wf,Bool.true_and,Bool.and_eq_true,Nat.ble_eq,List.length_append,List.length_cons,List.length_nil,List.all_append,List.all_cons,List.all_nil,Bool.and_true];refine⟨by omega,List.all_eq_true.2 fun y hy=>?_,rfl⟩;have h1:=List.all_eq_true.1 hw y hy;cases y with
  |no=>rfl
  |s=>rfl
  |q=>rfl
  |r _ _ _=>rfl
  |b _ _ cs=>exact List.all_eq_true.2 fun z hz=>SC.wf_mono (by omega) (List.all_eq_true.1 h1 z hz)
 ·rw[List.getElem?_append_left (List.getElem?_eq_some_iff.1 hh).1];exact hh
end
end
/-! Guards without a list. -/
def litG (n:Nat) (ops:Array Oper) (sl:Slots) (j:Nat) (b:Bool):Option Bool:=match ops[j]? with
 |some oj=>match oj.dst with
  |some d=>match Nat.blt d n with
   |true=>match litB (sl.at d) with
    |some x=>some (x==b)
    |none=>match notB (sl.at d) with
     |true=>some false
     |false=>none
   |false=>none
  |none=>none
 |none=>none
def geO (o:Oper):List Nat:=match o.guard with
 |none=>[]
 |some (j,_)=>[j]
def gTakeA (n:Nat) (ops:Array Oper) (sl:Slots) (o:Oper):Option Bool:=match o.guard with
 |none=>some true
 |some (j,b)=>litG n ops sl j b
theorem gTakeA_eq {n:Nat} {ops:Array Oper} {sl:Slots} {o:Oper}:gTakeA n ops sl o=WT n (geO o) ops sl o:=by
 unfold gTakeA WT geO;split;·rename_i h;simp[h]
 ·rename_i j b h;simp only[h,List.contains_cons,BEq.rfl,Bool.true_or];rfl
section
variable (P : Program) (n : Nat) (β : List Nat)
def VG (ops:Array Oper) (sl:Slots) (hp:List HB) (rd:List Nat) (o:Oper):Option SV:=match gTakeA n ops sl o with
 |some true=>NU P n β sl hp rd o
 |some false=>some (.c (.v undef))
 |none=>none
def FM (ops:Array Oper) (lm:Nat) (sl:Slots) (hp:List HB) (rd:List Nat):List Nat→Option (Nat×Oper×SV)
 |[]=>none
 |i::r=>match ops[i]? with
  |some o=>match VG P n β ops sl hp rd o with
   |some v=>match RC ops lm i o ops.toList 0 with
    |true=>some (i,o,v)
    |false=>FM ops lm sl hp rd r
   |none=>FM ops lm sl hp rd r
  |none=>FM ops lm sl hp rd r
def exGA (m:SM) (o:Oper):Option SM:=match o.guard with
 |none=>NM P n β m o
 |some _=>GO n β m
def FX (m:SM):Option SM:=match m.r with
 | .no=>ctl m
 | .lst _ []=>some ⟨.no,m.todo,m.sl,m.hp⟩
 | .lst ops (i::_)=>match ops[i]? with
  |some o=>exGA P n β m o
  |none=>none
 | .sel ops _ _ _ i=>match ops[i]? with
  |some o=>exGA P n β m o
  |none=>none
 | .lstN ops i _=>match ops[i]? with
  |some o=>NM P n β m o
  |none=>none
 | .selN ops _ _ _ i=>match ops[i]? with
  |some o=>NM P n β m o
  |none=>none
 | .any ops fuel lm rd=>match QM lm ops.toList 0 with
  |[]=>some ⟨.no,m.todo,m.sl,m.hp⟩
  |i0::rs=>match fuel with
   |0=>none
   |fuel+1=>match FM P n β ops lm m.sl m.hp (rdE ops lm rd) ((i0::rs).filter (QN ops lm rd)) with
    |some (i,o,v)=>some ⟨.any ops fuel (ES lm i) rd,m.todo,QJ o.dst v m.sl,m.hp⟩
    |none=>match rs with
     |[]=>some ⟨.sel ops fuel lm rd i0,m.todo,m.sl,m.hp⟩
     |_=>none
end
section
variable {P : Program} {f : FuncId} {R : Ending → World → Prop} {n : Nat} {β ν : List Nat} {m m' : SM} {w w0 : World} {L : List Nat}
theorem QV {ops:Array Oper} {sl:Slots} {hp:List HB} {rd:List Nat} {o:Oper}:VG P n β ops sl hp rd o=takeV P n β (geO o) ops sl hp rd o:=by
 unfold VG takeV;rw[gTakeA_eq];generalize WT n (geO o) ops sl o=g;cases g with
 |none=>rfl
 |some b=>cases b<;>rfl
theorem GQ {ops:Array Oper} {lm:Nat} {rd:List Nat} {i:Nat} {o:Oper} {v:SV}: ∀{rs:List Nat},FM P n β ops lm m.sl m.hp rd rs=some (i,o,v)→i∈rs∧ops[i]? = some o∧takeV P n β (geO o) ops m.sl m.hp rd o=some v∧RC ops lm i o ops.toList 0=true
 |[],h=>by cases h
 |j::r,h=>by
  simp only[FM] at h;split at h
  ·rename_i o' ho;split at h
   ·rename_i v' hv;split at h
    ·rename_i hf;injection h with h;injection h with h1 h2;injection h2 with h2 h3;subst h1;subst h2;subst h3;exact⟨by simp,ho,by rw[←QV];exact hv,hf⟩
    ·obtain⟨h1,h2⟩:=GQ h;exact⟨List.mem_cons_of_mem _ h1,h2⟩
   ·obtain⟨h1,h2⟩:=GQ h;exact⟨List.mem_cons_of_mem _ h1,h2⟩
  ·obtain⟨h1,h2⟩:=GQ h;exact⟨List.mem_cons_of_mem _ h1,h2⟩
theorem exGA_eq {o:Oper}:exGA P n β m o=exG P n β (geO o) m o:=by
 unfold exGA exG geO;split;·rename_i h;simp[h]
 ·rename_i g h;obtain⟨j,b⟩:=g;simp only[h,List.contains_cons,BEq.rfl,Bool.true_or]
theorem UF (H:Mem w0 L β m.hp w) (W:m.wf=true) (h:FX P n β m=some m') (hk: ∀ν w',Mem w0 L (β++ν) m'.hp w'→m'.wf=true→Gs P f R n (β++ν) m' w'):Gs P f R n β m w:=by
 have k0: ∀w',Mem w0 L β m'.hp w'→m'.wf=true→Gs P f R n β m' w':=fun w' h1 h2=>by
  have:=hk [] w';simp only[List.append_nil] at this;exact this h1 h2
 unfold FX at h;split at h
 ·rename_i hr;obtain⟨h1,h2,h3⟩:=QA (f:=f) (R:=R) (n:=n) (β:=β) (w:=w) W hr h;exact h3 (k0 w (by rw[h1];exact H) h2)
 ·rename_i ops hr;injection h with h;subst h;have g:=k0 w H W;obtain⟨r,todo,sl,hp⟩:=m;cases hr;show wpOps P ops (QQ P f R todo) [] (fr n β sl) w;unfold wpOps;exact⟨rfl,g⟩
 ·rename_i ops i is hr;split at h
  ·rename_i o ho;rw[exGA_eq] at h;exact MN H W (by simp[CQ,hr,ho]) h hk
  ·cases h
 ·rename_i ops fuel lm rd i hr;split at h
  ·rename_i o ho;rw[exGA_eq] at h;exact MN H W (by simp[CQ,hr,ho]) h hk
  ·cases h
 ·rename_i ops i is hr;split at h
  ·rename_i o ho;exact JC H W (by simp[CQ,hr,ho]) h hk
  ·cases h
 ·rename_i ops fuel lm rd i hr;split at h
  ·rename_i o ho;exact JC H W (by simp[CQ,hr,ho]) h hk
  ·cases h
 ·rename_i ops fuel lm rd hr;have hI:IR β m.hp (KL rd) w:=fun k _ h hh=>H.lies k h hh;split at h
  ·rename_i hrdy;injection h with h;subst h;have g:=k0 w H W;obtain⟨r,todo,sl,hp⟩:=m;cases hr;intro hcl hlm hns;have hno: ∀i,i∉Region.ready .any ops (AN ops.size lm):=fun i hi=>by
    rw[DU hlm,hrdy] at hi;cases hi
   have he:Region.ready .any ops (AN ops.size lm)=[]:=List.eq_nil_iff_forall_not_mem.2 hno;cases fuel with
   |zero=>exact⟨fun _=>hI,he,rfl,g⟩
   |succ f=>exact⟨fun _=>hI,fun _=>⟨rfl,g⟩,fun i hi=>absurd hi (hno i)⟩
  ·rename_i i0 rs hrdy;split at h;·cases h
   ·rename_i fuel;split at h
    ·rename_i i o v hft;injection h with h;subst h;obtain⟨hi,ho,hv,hfree⟩:=GQ hft;obtain⟨hi,hrb⟩:=List.mem_filter.1 hi;have g:=k0 w H (by
      simp only[SM.wf,Bool.and_eq_true];exact⟨DN (SM.wf_sl W) (cL W hv),SM.wf_hp W⟩)
     obtain⟨r,todo,sl,hp⟩:=m;cases hr;intro hcl hlm hns;have hyld:=fun w' hI'=>PT (m:=⟨.any ops (fuel+1) lm rd,todo,sl,hp⟩) hv (w':=w') hI';have hil:i<ops.size:=(Array.getElem?_eq_some_iff.1 ho).1;have hready:i∈Region.ready .any ops (AN ops.size lm):=by rw[DU hlm,hrdy];exact hi
     have hcl':EW .any ops (AN ops.size (ES lm i)):=by rw[←CY hil];exact hcl.set hready
     have g2:=g hcl' (hlm.set hil) hns;have hap: ∀j oj,ops[j]? = some oj→j≠i→(AN ops.size lm).getD j true=false→(∀e∈oj.after,Region.binds .any e=true→e.on≠i)→o.apart ops oj=true:=fun j oj hj hne hun hno=>by
      refine LD ops.toList 0 hfree j oj (by simpa using hj) ?_ (by simpa using hne) hno;rw[Nat.zero_add];exact(FN.1 hun).2
     have g3:AY P .any ops (QQ P f R todo) (IR β hp (KL rd)) (QD rd) fuel ((AN ops.size lm).setIfInBounds i true) ((fr n β sl).put o.dst (v.den β)) w:=by
      rw[CY hil,FR];exact g2
     unfold rdE at hyld;cases hb:hitB ops lm rd with
     |true=>
      rw[hb] at hyld;refine JI _ _ _ _ (SW hb) ?_;exact VF (v:=v.den β) ho (Region.noSelect_spec hns) (fun c a w hp=>by cases hp.1) 0 (fun e he=>by cases he) fuel _ _ w hcl (fun e he=>by cases he) trivial hap hready (fun w' _=>hyld w' (fun k hk=>by cases hk)) (IH _ _ _ _ g3)
     |false=>
      rw[hb] at hyld;unfold QN at hrb;rw[hb,Bool.false_or] at hrb;exact VF (v:=v.den β) ho (Region.noSelect_spec hns) (fun c a w hp=>by cases hp.1) ops.size (fun e he=>List.all_eq_true.1 hrb e he) fuel _ _ w hcl (noE_of hb) hI hap hready (fun w' hI'=>hyld w' hI') g3
    ·split at h
     ·injection h with h;subst h;have g:=k0 w H W;obtain⟨r,todo,sl,hp⟩:=m;cases hr;intro hcl hlm hns;have hready:i0∈Region.ready .any ops (AN ops.size lm):=by rw[DU hlm,hrdy];simp
      have hil:i0<ops.size:=by
       obtain⟨_,o,ho,_⟩:=mem_ready.1 hready;exact(Array.getElem?_eq_some_iff.1 ho).1
      refine⟨fun _=>hI,fun he=>(by rw[he] at hready;cases hready),fun j hj=>?_⟩;rw[DU hlm,hrdy] at hj;obtain rfl:j=i0:=by simpa using hj
      rw[CY hil];exact g (by rw[hrdy];simp) hcl hlm hns
     ·cases h
end
section
variable {P : Program} {f : FuncId} {R : Ending → World → Prop} {n : Nat} {β ν : List Nat} {m m' : SM} {w w0 : World} {L : List Nat}
theorem dX (hl:β.length=m.hp.length) (W:m.wf=true) (ops:Array Oper) (rd:List Nat) (o:Oper):VG P n (β++ν) ops m.sl m.hp rd o=VG P n β ops m.sl m.hp rd o:=by
 rw[QV,QV,XT hl W]
theorem MW (hl:β.length=m.hp.length) (W:m.wf=true) (ops:Array Oper) (lm:Nat) (rd:List Nat): ∀rs,FM P n (β++ν) ops lm m.sl m.hp rd rs=FM P n β ops lm m.sl m.hp rd rs
 |[]=>rfl
 |i::r=>by
  simp only[FM,dX hl W,MW hl W ops lm rd r]
theorem YN (hl:β.length=m.hp.length) (W:m.wf=true):FX P n (β++ν) m=FX P n β m:=by
 have hy:JK n (β++ν) m=JK n β m:=by
  have hd: ∀d,(m.sl.at d).den (β++ν)=(m.sl.at d).den β:=fun d=>SV.den_app ν (by rw[hl];exact Slots.wf_at (SM.wf_sl W) d);simp only[JK,hd]
 have hg:GO n (β++ν) m=GO n β m:=by simp only[GO,hy]
 simp only[FX,exGA,hg,aN hl W,MW hl W]
theorem TF {o:Oper} (h:NM P n β m o=some m'):m.hp.length≤m'.hp.length:=by
 unfold NM at h;split at h;·cases h
 ·split at h;·injection h with h;subst h;exact Nat.le_refl _
  ·split at h
   ·split at h
    ·split at h;·injection h with h;subst h;exact Nat.le_refl _
     ·cases h
    ·cases h
   ·split at h
    ·rw[QG] at h;injection h with h;subst h;show m.hp.length≤(m.hp++_).length;rw[List.length_append];omega
    ·split at h
     ·injection h with h;subst h;show m.hp.length≤(m.hp.set _ _).length;rw[List.length_set];exact Nat.le_refl _
     ·cases h
    ·cases h
end
/-! Slots that have been written anew are forgotten. -/
def LQ (seen:Nat):Slots→Slots
 | .vals f=>.vals f
 | .dfr ds l=>.dfr ds (LQ seen l)
 | .put d v l=>match Nat.testBit seen d with
  |true=>LQ seen l
  |false=>.put d v (LQ (seen ||| 2 ^ d) l)
theorem OY: ∀(sl:Slots) (seen i:Nat),seen.testBit i=false→(LQ seen sl).at i=sl.at i
 | .vals f,_,_,_=>rfl
 | .dfr _ l,seen,i,h=>OY l seen i h
 | .put d v l,seen,i,h=>by
  unfold LQ;rw[Slots.at_put];split
  ·rename_i hd;rw[if_neg (fun e=>by subst e;rw[h] at hd;cases hd)];exact OY l seen i h
  ·rename_i hd;rw[Slots.at_put];split;·rfl
   ·rename_i hne;refine OY l _ i ?_;rw[Nat.testBit_or,h,Nat.testBit_two_pow];simp[Ne.symm hne]
theorem UL: ∀(sl:Slots) (seen:Nat),(LQ seen sl).ds=sl.ds
 | .vals _,_=>rfl
 | .dfr _ _,_=>rfl
 | .put d v l,seen=>by
  unfold LQ;split;·exact UL l seen
  ·exact UL l _
theorem PA {m:Nat}: ∀{sl:Slots} {seen:Nat},sl.wf m=true→(LQ seen sl).wf m=true
 | .vals _,_,_=>rfl
 | .dfr _ l,seen,h=>PA (sl:=l) h
 | .put d v l,seen,h=>by
  simp only[Slots.wf,Bool.and_eq_true] at h;unfold LQ;split;·exact PA h.2
  ·simp only[Slots.wf,Bool.and_eq_true];exact⟨h.1,PA h.2⟩
theorem fr_prune (n:Nat) (β:List Nat) (sl:Slots):fr n β (LQ 0 sl)=fr n β sl:=by
 unfold fr;rw[UL];congr 2
 exact List.map_congr_left fun i _=>by rw[OY sl 0 i (Nat.zero_testBit i)]
/-! With the calls. -/
structure FRm where
  f : FuncId
  fn : Func
  m : SM
  lock : List Nat
structure KS where
  st : List FRm
  f : FuncId
  fn : Func
  m : SM
  lock : List Nat
def KR (P:Program) (R0:Ending→World→Prop) (w0:World) (L β:List Nat):List FRm→Ending→World→Prop
 |[]=>R0
 |fr::st=>InR P fr.f (KR P R0 w0 L β st) fr.fn.ntmps w0 L (β.take fr.m.hp.length) fr.m
def OkSt (P:Program):List HB→List Nat→List FRm→Prop
 |_,_,[]=>True
 |hp,lock,fr::st=>P.funcs[fr.f]? = some fr.fn∧fr.m.hp.length≤hp.length∧(∀k∈HL fr.m++fr.lock,k∈lock∧∀h,fr.m.hp[k]? = some h→hp[k]? = some h)∧OkSt P fr.m.hp fr.lock st
theorem OkSt.mono {P:Program} {hp hp':List HB} {lock:List Nat} (h:hp.length≤hp'.length) (hk: ∀k∈lock,∀h,hp[k]? = some h→hp'[k]? = some h): ∀{st:List FRm},OkSt P hp lock st→OkSt P hp' lock st
 |[],_=>trivial
 |_::_,⟨h1,h2,h3,h4⟩=>⟨h1,Nat.le_trans h2 h,fun k hm=>⟨(h3 k hm).1,fun b hb=>hk k (h3 k hm).1 b ((h3 k hm).2 b hb)⟩,h4⟩
theorem KR_app {P:Program} {R0:Ending→World→Prop} {w0:World} {L β ν:List Nat}: ∀{st:List FRm} {hp:List HB} {lock:List Nat},OkSt P hp lock st→hp.length≤β.length→KR P R0 w0 L (β++ν) st=KR P R0 w0 L β st
 |[],_,_,_,_=>rfl
 |fr::st,hp,_,⟨_,h2,_,h4⟩,hl=>by
  unfold KR;rw[KR_app h4 (by omega),List.take_append_of_le_length (by omega)]
def HsK (P:Program) (R0:Ending→World→Prop) (w0:World) (L β:List Nat) (s:KS):Prop:=Hs P s.f (KR P R0 w0 L β s.st) s.fn.ntmps w0 L β s.m
def YJ (t:Nat):List Oper→Bool
 |[]=>false
 |o::l=>match o.op with
  | .alloc _=>match o.dst with
   |some d=>match Nat.beq d t with
    |true=>true
    |false=>YJ t l
   |none=>YJ t l
  |_=>YJ t l
def YK (all:List Oper):List Oper→Nat→List Nat
 |[],_=>[]
 |o::l,i=>match o.op with
  | .store _ (.tmp t) _=>match YJ t all with
   |true=>YK all l (i+1)
   |false=>(1000+i)::YK all l (i+1)
  |_=>YK all l (i+1)
def rdK' (ops:Array Oper) (n:Nat):List Nat:=List.range (min n 999)++YK ops.toList ops.toList 0
def condK (n:Nat) (m:SM):Option SM:=match m.r with
 | .no=>match m.todo with
  | .code (.cond c x y)::k=>match litB (evS n m.sl c) with
   |some true=>some ⟨.no,.code x::k,m.sl,m.hp⟩
   |some false=>some ⟨.no,.code y::k,m.sl,m.hp⟩
   |none=>none
  | .code (.loop c)::k=>some ⟨.no,.code c :: .inLoop c::k,m.sl,m.hp⟩
  | .inLoop c::k=>some ⟨.no,.code c :: .inLoop c::k,LQ 0 m.sl,m.hp⟩
  | .code (.region _ ops true)::k=>match Region.noSelect ops with
   |true=>some ⟨.any ops ops.size 0 (rdK' ops m.hp.length),k,m.sl,m.hp⟩
   |false=>none
  |_=>none
 |_=>none
def goK (P:Program) (inl:List FuncId) (m:SM) (n:Nat):Option (FuncId×Func×List SV):=match CQ m with
 |some o=>match gOk m o with
  |true=>match o.op with
   | .call c=>match c.callee with
    | .value (.func F)=>match inl.contains F with
     |true=>match P.funcs[F]? with
      |some fn=>some (F,fn,c.args.toList.map (evS n m.sl))
      |none=>none
     |false=>none
    |_=>none
   |_=>none
  |false=>none
 |none=>none
def okIn (P:Program) (inl:List FuncId):Bool:=inl.all fun F=>match P.funcs[F]? with
 |some fn=>fn.body.isSome && !(fn.name == "runtime.NumGoroutine")
 |none=>false
def eqL:List UInt8→List UInt8→Bool
 |[],[]=>true
 |a::l,b::r=>match Nat.beq a.toNat b.toNat with
  |true=>eqL l r
  |false=>false
 |_,_=>false
theorem YC: ∀(l r:List UInt8),eqL l r=(l==r)
 |[],[]=>rfl
 |[],_::_=>rfl
 |_::_,[]=>rfl
 |a::l,b::r=>by
  unfold eqL;rw[List.cons_beq_cons];by_cases h:a=b
  ·subst h;rw[show Nat.beq a.toNat a.toNat=true from Nat.beq_refl _];simp only[BEq.rfl,Bool.true_and];exact YC l r
  ·have h1:Nat.beq a.toNat b.toNat=false:=PY.2 fun e=>h (UInt8.toNat_inj.1 e);have h2:(a==b)=false:=by simpa using h
   rw[h1,h2];rfl
def rowAt (P:Program) (T:TypeId) (cs:List SC) (i:SV):Option SV:=match P.underlying T with
 |some (.array len e)=>match i with
  | .c (.v (.int _ (.ofNat j)))=>match Nat.blt j len with
   |true=>match szB P e with
    |some n=>HI P e cs (j*n)
    |none=>none
   |false=>none
  |_=>none
 |_=>none
def xV (P:Program) (n:Nat) (m:SM) (o:Oper):Option SV:=match o.op with
 | .binOp .eql _ x y _=>match evS n m.sl x with
  | .c (.v (.string a))=>match evS n m.sl y with
   | .c (.v (.string b))=>some (.c (.v (.bool (eqL a.data.toList b.data.toList))))
   |_=>none
  |_=>none
 | .binOp .neq _ x y _=>match evS n m.sl x with
  | .c (.v (.string a))=>match evS n m.sl y with
   | .c (.v (.string b))=>some (.c (.v (.bool (!eqL a.data.toList b.data.toList))))
   |_=>none
  |_=>none
 | .index T x i=>match evS n m.sl x with
  | .g cs=>rowAt P T cs (evS n m.sl i)
  |_=>none
 | .slice T x none none none=>match evS n m.sl x with
  | .c (.p k off)=>match P.underlying T with
   |some (.array len e)=>match szB P e with
    |some _=>some (.c (.s k off len len))
    |none=>none
   |_=>none
  |_=>none
 |_=>none
def strK (P:Program) (n:Nat) (m:SM):Option SM:=match CQ m with
 |some o=>match gOk m o with
  |true=>match xV P n m o with
   |some v=>some (m.put o.dst v m.hp)
   |none=>none
  |false=>none
 |none=>none
def freeK (m:SM) (n:Nat) (lock:List Nat):Bool:=match lock with
 |[]=>true
 |_=>match CQ m with
  |some o=>match o.op with
   | .store _ x _=>match evS n m.sl x with
    | .c (.p k _)=>!(lock.contains k)
    |_=>true
   |_=>true
  |none=>true
def RY (P:Program) (β:List Nat) (inl:List FuncId) (s:KS):Option KS:=match s.m.r with
 | .no=>match condK s.fn.ntmps s.m with
   |some m'=>some ⟨s.st,s.f,s.fn,m',s.lock⟩
   |none=>match ctl s.m with
    |some m'=>some ⟨s.st,s.f,s.fn,m',s.lock⟩
    |none=>match s.st with
     |[]=>none
     |fr::st=>match retS P s.fn s.fn.ntmps s.m with
      |some v=>match v.wf s.m.hp.length with
       |true=>some ⟨st,fr.f,fr.fn,fr.m.put (BL fr.m) v s.m.hp,fr.lock⟩
       |false=>none
      |none=>none
 |_=>match strK P s.fn.ntmps s.m with
  |some m'=>some ⟨s.st,s.f,s.fn,m',s.lock⟩
  |none=>match goK P inl s.m s.fn.ntmps with
   |some (F,fn,xs)=>match Nat.ble xs.length fn.ntmps with
    |true=>some ⟨⟨s.f,s.fn,s.m,s.lock⟩::s.st,F,fn,HP fn xs s.m.hp,HL s.m++s.lock⟩
    |false=>none
   |none=>match freeK s.m s.fn.ntmps s.lock with
    |true=>match FX P s.fn.ntmps β s.m with
     |some m'=>some ⟨s.st,s.f,s.fn,m',s.lock⟩
     |none=>none
    |false=>none
def runK (P:Program) (β:List Nat) (inl:List FuncId) (k:Nat):KS→KS:=
 Nat.rec (fun s=>s) (fun _ ih s=>match RY P β inl s with|some s'=>ih s'|none=>s) k
section
variable {P : Program} {f : FuncId} {R R0 : Ending → World → Prop} {n : Nat} {β ν : List Nat} {m m' : SM} {w w0 : World} {L : List Nat} {inl : List FuncId} {s s' : KS}
theorem YO (h:FX P n β m=some m'):m.hp.length≤m'.hp.length:=by
 have hg: ∀{o:Oper},exGA P n β m o=some m'→m.hp.length≤m'.hp.length:=fun {o} h=>by
  unfold exGA at h;split at h;·exact TF h
  ·unfold GO at h;split at h;·injection h with h;subst h;rw[KW];exact Nat.le_refl _
   ·injection h with h;subst h;rw[KW];exact Nat.le_refl _
   ·injection h with h;subst h;exact Nat.le_refl _
   ·injection h with h;subst h;exact Nat.le_refl _
   ·injection h with h;subst h;exact Nat.le_refl _
   ·cases h
 unfold FX at h;split at h
 ·rename_i hr;unfold ctl at h;split at h;·injection h with h;subst h;exact Nat.le_refl _
  ·injection h with h;subst h;exact Nat.le_refl _
  ·injection h with h;subst h;exact Nat.le_refl _
  ·injection h with h;subst h;exact Nat.le_refl _
  ·injection h with h;subst h;exact Nat.le_refl _
  ·injection h with h;subst h;exact Nat.le_refl _
  ·injection h with h;subst h;exact Nat.le_refl _
  ·split at h;·injection h with h;subst h;exact Nat.le_refl _
   ·cases h
  ·injection h with h;subst h;exact Nat.le_refl _
  ·cases h
 ·injection h with h;subst h;exact Nat.le_refl _
 ·split at h;·exact hg h
  ·cases h
 ·split at h;·exact hg h
  ·cases h
 ·split at h;·exact TF h
  ·cases h
 ·split at h;·exact TF h
  ·cases h
 ·split at h;·injection h with h;subst h;exact Nat.le_refl _
  ·split at h;·cases h
   ·split at h;·injection h with h;subst h;exact Nat.le_refl _
    ·split at h;·injection h with h;subst h;exact Nat.le_refl _
     ·cases h
theorem rowAt_run {T:TypeId} {cs:List SC} {i v:SV} (h:rowAt P T cs i=some v) (w:World):(Instr.index T (.agg (DE β cs).toArray) (i.den β)).run P w = .ok (v.den β) w:=by
 unfold rowAt at h;split at h
 ·rename_i len e hu;split at h
  ·rename_i kd j;split at h
   ·rename_i hlt;split at h
    ·rename_i n hn;have hlt:=Nat.le_of_ble_eq_true hlt;have h1:(0:Int)≤Int.ofNat j∧Int.ofNat j<(len:Int):=⟨by exact Int.natCast_nonneg j,by show(j:Int)<(len:Int);exact_mod_cast hlt⟩;have hp:=JF (β:=β) (w:=w) h;simp only[Instr.index,SV.den,SC.den,asIntOf,Sem.run_bind,Sem.run_pure,Result.andThen_ok,run_underlying hu w];rw[if_pos h1];simp only[Sem.run_bind,GK hn w,Result.andThen_ok];exact hp
    ·cases h
   ·cases h
  ·cases h
 ·cases h
theorem rowAt_wf {T:TypeId} {cs:List SC} {i v:SV} {k:Nat} (h:rowAt P T cs i=some v) (hw:cs.all (SC.wf k)=true):v.wf k=true:=by
 unfold rowAt at h;split at h
 ·split at h
  ·split at h
   ·split at h;·exact OX h hw
    ·cases h
   ·cases h
  ·cases h
 ·cases h
theorem xV_run {o:Oper} {v:SV} (W:m.wf=true) (h:xV P n m o=some v) (w:World):(execOp (fun x=>(evS n m.sl x).den β) o).run P w = .ok (.value (v.den β)) w∧v.wf m.hp.length=true:=by
 unfold xV at h;split at h
 ·rename_i T x y ci ho;split at h
  ·rename_i a ha;split at h
   ·rename_i b hb;injection h with h;subst h;refine⟨?_,rfl⟩;have e:eqL a.data.toList b.data.toList=(a.toList==b.toList):=by rw[YC,ByteArray.toList_eq,ByteArray.toList_eq]
    rw[e];unfold execOp;rw[ho];dsimp only;rw[show(evS n m.sl x).den β = .string a by rw[ha];rfl,show(evS n m.sl y).den β = .string b by rw[hb];rfl];rfl
   ·cases h
  ·cases h
 ·rename_i T x y ci ho;split at h
  ·rename_i a ha;split at h
   ·rename_i b hb;injection h with h;subst h;refine⟨?_,rfl⟩;have e:eqL a.data.toList b.data.toList=(a.toList==b.toList):=by rw[YC,ByteArray.toList_eq,ByteArray.toList_eq]
    rw[e];unfold execOp;rw[ho];dsimp only;rw[show(evS n m.sl x).den β = .string a by rw[ha];rfl,show(evS n m.sl y).den β = .string b by rw[hb];rfl];rfl
   ·cases h
  ·cases h
 ·rename_i T x i ho;split at h
  ·rename_i cs hx;refine⟨?_,rowAt_wf h ?_⟩
   ·unfold execOp;rw[ho];dsimp only;rw[show(evS n m.sl x).den β = .agg (DE β cs).toArray by rw[hx];rfl];simp only[Sem.run_bind,rowAt_run h w,Result.andThen_ok,Sem.run_pure]
   ·have:=JY W x (n:=n);rw[hx] at this;exact this
  ·cases h
 ·rename_i T x ho;split at h
  ·rename_i k off hx;split at h
   ·rename_i len e hu;split at h
    ·rename_i sz hsz;injection h with h;subst h;refine⟨?_,?_⟩
     ·unfold execOp;rw[ho];dsimp only;rw[show(evS n m.sl x).den β = .pointer (some ⟨nm β k,off,none⟩) by rw[hx];rfl];simp only[Option.map_none,Instr.sliceAt,Instr.sliceBounds,Instr.sureAddr,Sem.run_bind,run_underlying hu w,Result.andThen_ok,Sem.run_pure,GK hsz w,Nat.zero_mul,Nat.sub_zero];split<;>simp[Addr.add_mid,SV.den,SC.den]
     ·have:=JY W x (n:=n);rw[hx] at this;exact this
    ·cases h
   ·cases h
  ·cases h
 ·cases h
theorem dW (h:strK P n m=some m') (H:Mem w0 L β m.hp w) (W:m.wf=true):m'.hp=m.hp∧m'.wf=true∧(Gs P f R n β m' w→Gs P f R n β m w):=by
 unfold strK at h;split at h
 ·rename_i o ho;split at h
  ·rename_i hg;split at h
   ·rename_i v hv;injection h with h;subst h;obtain⟨hrun,hwf⟩:=xV_run (β:=β) (P:=P) W hv w;refine⟨rfl,?_,fun g=>Gs.val ho hg hrun g⟩;simp only[SM.wf,SM.put,Bool.and_eq_true];exact⟨DN (SM.wf_sl W) hwf,SM.wf_hp W⟩
   ·cases h
  ·cases h
 ·cases h
theorem QE {o:Oper} {lock:List Nat} (ho:CQ m=some o) (hfree:freeK m n lock=true) (h:NM P n β m o=some m'): ∀k∈lock,∀b,m.hp[k]? = some b→m'.hp[k]? = some b:=fun k hk b hb=>by
 unfold NM at h;split at h;·cases h
 ·split at h;·injection h with h;subst h;exact hb
  ·split at h
   ·split at h
    ·split at h;·injection h with h;subst h;exact hb
     ·cases h
    ·cases h
   ·split at h
    ·rw[QG] at h;injection h with h;subst h;show(m.hp++_)[k]? = some b;rw[List.getElem?_append_left (List.getElem?_eq_some_iff.1 hb).1];exact hb
    ·rename_i k0 off T cs ds he;split at h
     ·injection h with h;subst h;obtain⟨t,x,y,h1,h2,h3,h4,h5,h6,h7⟩:=IL he;have hne:k0≠k:=fun e=>by
       subst e;unfold freeK at hfree;split at hfree;·cases hk
       ·rw[ho] at hfree;dsimp only at hfree;rw[h1] at hfree;dsimp only at hfree;rw[h2] at hfree;simp only[Bool.not_eq_true'] at hfree;have:=List.contains_iff_mem.2 hk;rw[this] at hfree;cases hfree
      show(m.hp.set k0 _)[k]? = some b;rw[List.getElem?_set_ne hne];exact hb
     ·cases h
    ·cases h
theorem VV {lock:List Nat} (hfree:freeK m n lock=true) (h:FX P n β m=some m'): ∀k∈lock,∀b,m.hp[k]? = some b→m'.hp[k]? = some b:=fun k hk b hb=>by
 have hg: ∀{o:Oper},CQ m=some o→exGA P n β m o=some m'→m'.hp[k]? = some b:=fun {o} ho h=>by
  unfold exGA at h;split at h;·exact QE ho hfree h k hk b hb
  ·unfold GO at h;split at h;·injection h with h;subst h;rw[KW];exact hb
   ·injection h with h;subst h;rw[KW];exact hb
   ·injection h with h;subst h;exact hb
   ·injection h with h;subst h;exact hb
   ·injection h with h;subst h;exact hb
   ·cases h
 unfold FX at h;split at h
 ·rename_i hr;unfold ctl at h;split at h;·injection h with h;subst h;exact hb
  ·injection h with h;subst h;exact hb
  ·injection h with h;subst h;exact hb
  ·injection h with h;subst h;exact hb
  ·injection h with h;subst h;exact hb
  ·injection h with h;subst h;exact hb
  ·injection h with h;subst h;exact hb
  ·split at h;·injection h with h;subst h;exact hb
   ·cases h
  ·injection h with h;subst h;exact hb
  ·cases h
 ·injection h with h;subst h;exact hb
 ·rename_i hr;split at h
  ·rename_i o ho;exact hg (by simp[CQ,hr,ho]) h
  ·cases h
 ·rename_i hr;split at h
  ·rename_i o ho;exact hg (by simp[CQ,hr,ho]) h
  ·cases h
 ·rename_i hr;split at h
  ·rename_i o ho;exact QE (by simp[CQ,hr,ho]) hfree h k hk b hb
  ·cases h
 ·rename_i hr;split at h
  ·rename_i o ho;exact QE (by simp[CQ,hr,ho]) hfree h k hk b hb
  ·cases h
 ·split at h;·injection h with h;subst h;exact hb
  ·split at h;·cases h
   ·split at h;·injection h with h;subst h;exact hb
    ·split at h;·injection h with h;subst h;exact hb
     ·cases h
theorem Hs.retJ {F:FuncId} {fn:Func} {n0:Nat} {β0:List Nat} {m0:SM} (hf:P.funcs[F]? = some fn) (hr:((retS P fn n m).isSome&&((MD P fn n m).wf m.hp.length&&Nat.ble m0.hp.length m.hp.length))=true) (hβ:β=β0++β.drop β0.length)
  (hrd: ∀k∈HL m0,∀h,m0.hp[k]? = some h→m.hp[k]? = some h) (h:Hs P f R n0 w0 L β (m0.put (BL m0) (MD P fn n m) m.hp)):Hs P F (InR P f R n0 w0 L β0 m0) n w0 L β m:=by
 simp only[Bool.and_eq_true] at hr;obtain⟨h1,h2,h3⟩:=hr;obtain⟨v,hv⟩:=Option.isSome_iff_exists.1 h1;have e:MD P fn n m=v:=by unfold MD;rw[hv];rfl
 rw[e] at h h2;refine⟨fun w H W=>?_⟩;refine(Hs.ret hf (retS_of hv) (fun w' H'=>?_)).go w H W;refine⟨β.drop β0.length,v,m.hp,by rw[←hβ],by rw[←hβ];exact H',?_,hrd,by rw[←hβ];exact h⟩;rw[h2,h3,SM.wf_hp W];rfl
theorem VD {k:Nat}: ∀{xs:List SV} {i:Nat},(∀x∈xs,x.wf k=true)→(IX xs i).wf k=true
 |[],_,_=>rfl
 |x::l,i,h=>by
  simp only[IX,Slots.wf,Bool.and_eq_true];exact⟨h x List.mem_cons_self,VD fun y hy=>h y (List.mem_cons_of_mem _ hy)⟩
theorem goK_spec {F:FuncId} {fn:Func} {xs:List SV} (hin:okIn P inl=true) (h:goK P inl m n=some (F,fn,xs)):EX P n β m=some (F,(xs.map (SV.den β)).toArray)∧P.funcs[F]? = some fn∧fn.body.isSome=true∧(m.wf=true→∀x∈xs,x.wf m.hp.length=true):=by
 unfold goK at h;split at h
 ·rename_i o ho;split at h
  ·rename_i hg;split at h
   ·rename_i c hc;split at h
    ·rename_i F' hcal;split at h
     ·rename_i hcon;split at h
      ·rename_i fn' hF;injection h with h;injection h with h1 h2;injection h2 with h2 h3;subst h1;subst h2;subst h3;have hok:=List.all_eq_true.1 hin F' (by simpa using hcon);rw[hF] at hok;simp only[Bool.and_eq_true,Bool.not_eq_true'] at hok;refine⟨?_,hF,hok.1,fun W x hx=>?_⟩
       ·unfold EX;rw[ho];dsimp only;rw[hg];dsimp only;have hb:fn'.body.isNone=false:=by
         cases hbb:fn'.body with
         |none=>rw[hbb] at hok;cases hok.1
         |some _=>rfl
        have e:GD P (execOp (fun x=>(evS n m.sl x).den β) o)=some (.enter F' ((c.args.toList.map (evS n m.sl)).map (SV.den β)).toArray):=by
         unfold execOp;rw[hc];dsimp only;unfold resolve;rw[hcal];dsimp only;have ev:(evS n m.sl (.func F')).den β = .func (.func F') #[] #[]:=rfl;rw[ev];show GD P (invoke (.fn (.func F') #[]) (#[]++c.args.map fun x=>(evS n m.sl x).den β))=_;unfold invoke;dsimp only;have hprog: ∀(k:Program→Sem Next),GD P (program >>= k)=GD P (k P):=fun k=>rfl;unfold callFunc;rw[hprog];rw[hF];dsimp only;rw[hok.2,hb];simp only[Bool.false_eq_true,if_false];show some (Next.enter F' _)=_;congr 2
         apply Array.ext';simp[Function.comp_def]
        rw[e]
       ·obtain⟨y,_,rfl⟩:=List.mem_map.1 hx;exact JY W y
      ·cases h
     ·cases h
    ·cases h
   ·cases h
  ·cases h
 ·cases h
theorem condK_hp (h:condK n m=some m'):m'.hp=m.hp:=by
 unfold condK at h;split at h
 ·split at h
  ·split at h;·injection h with h;subst h;rfl
   ·injection h with h;subst h;rfl
   ·cases h
  ·injection h with h;subst h;rfl
  ·injection h with h;subst h;rfl
  ·split at h;·injection h with h;subst h;rfl
   ·cases h
  ·cases h
 ·cases h
theorem aH (hfol:P.follows .mixedOrders=true) (h:condK n m=some m') (k:Hs P f R n w0 L β m'):Hs P f R n w0 L β m:=by
 obtain⟨r,todo,sl,hp⟩:=m;unfold condK at h;dsimp only at h;split at h
 ·split at h
  ·rename_i c x y t;split at h
   ·rename_i hl;injection h with h;subst h;exact Hs.cond true (by show some ((evS n sl c).den β)=_;rw[QH hl]) (fun _=>k) (fun h=>by cases h)
   ·rename_i hl;injection h with h;subst h;exact Hs.cond false (by show some ((evS n sl c).den β)=_;rw[QH hl]) (fun h=>by cases h) (fun _=>k)
   ·cases h
  ·injection h with h;subst h;exact Hs.loop rfl k
  ·rename_i c t;injection h with h;subst h;refine Hs.loop rfl ⟨fun w H W=>?_⟩;have g:=k.go w H (by
    simp only[SM.wf,Bool.and_eq_true] at W⊢;exact⟨PA W.1,W.2⟩)
   show FJ P f R _ (fr n β sl) w;have g':FJ P f R (.code c :: .inLoop c::t) (fr n β (LQ 0 sl)) w:=g;rw[fr_prune] at g';exact g'
  ·rename_i id ops t;split at h
   ·rename_i hns;injection h with h;subst h;have e:anyOf (rdK' ops hp.length) ⟨.no,.code (.region id ops true)::t,sl,hp⟩=some ⟨.any ops ops.size 0 (rdK' ops hp.length),t,sl,hp⟩:=by
     unfold anyOf;dsimp only;rw[hns]
    refine Hs.any (rdK' ops hp.length) (by rw[hfol,e];rfl) ?_;unfold anyM;rw[e];exact k
   ·cases h
  ·cases h
 ·cases h
theorem stepK_app (hl:β.length=s.m.hp.length) (W:s.m.wf=true):RY P (β++ν) inl s=RY P β inl s:=by
 unfold RY;rw[YN hl W]
theorem UV (hfol:P.follows .mixedOrders=true) (hin:okIn P inl=true): ∀(k:Nat) (β:List Nat) (s:KS),P.funcs[s.f]? = some s.fn→OkSt P s.m.hp s.lock s.st→(∀ν,HsK P R0 w0 L (β++ν) (runK P (β++ν) inl k s))→HsK P R0 w0 L β s
 |0,β,s,_,_,h=>by
  have:=h [];rw[List.append_nil] at this;exact this
 |k+1,β,s,hf,O,h=>by
  refine⟨fun w H W=>?_⟩;have hl:=H.len;cases hs:RY P β inl s with
  |none=>
   have h0:=h [];rw[List.append_nil] at h0;have e:runK P β inl (k+1) s=s:=by
    show(match RY P β inl s with|some s'=>runK P β inl k s'|none=>s)=s;rw[hs]
   rw[e] at h0;exact h0.go w H W
  |some s'=>
   have h': ∀ν,HsK P R0 w0 L (β++ν) (runK P (β++ν) inl k s'):=fun ν=>by
    have h0:=h ν;have e:runK P (β++ν) inl (k+1) s=runK P (β++ν) inl k s':=by
     show(match RY P (β++ν) inl s with|some s'=>runK P (β++ν) inl k s'|none=>s)=_;rw[stepK_app hl W,hs]
    rw[e] at h0;exact h0
   have ih:=UV hfol hin k;unfold RY at hs;split at hs
   ·rename_i hr;split at hs
    ·rename_i m' hc;injection hs with hs;subst hs;refine(aH hfol hc ?_).go w H W;exact ih β ⟨s.st,s.f,s.fn,m',s.lock⟩ hf (by rw[condK_hp hc];exact O) h'
    ·split at hs
     ·rename_i m' hc;injection hs with hs;subst hs;obtain⟨h1,h2,h3⟩:=QA (f:=s.f) (R:=KR P R0 w0 L β s.st) (n:=s.fn.ntmps) (β:=β) (w:=w) W hr hc;exact h3 ((ih β ⟨s.st,s.f,s.fn,m',s.lock⟩ hf (by rw[h1];exact O) h').go w (by rw[h1];exact H) h2)
     ·split at hs;·cases hs
      ·rename_i fr st hst;split at hs
       ·rename_i v hv;split at hs
        ·rename_i hwf;injection hs with hs;subst hs;rw[hst] at O⊢;obtain⟨g1,g2,g3,g4⟩:=O;have er:MD P s.fn s.fn.ntmps s.m=v:=by unfold MD;rw[hv];rfl
         have key:Hs P fr.f (KR P R0 w0 L β st) fr.fn.ntmps w0 L β (fr.m.put (BL fr.m) (MD P s.fn s.fn.ntmps s.m) s.m.hp):=by
          rw[er];exact ih β ⟨st,fr.f,fr.fn,fr.m.put (BL fr.m) v s.m.hp,fr.lock⟩ g1 (g4.mono g2 fun k hk=>(g3 k (by simp[hk])).2) h'
         have hq:fr.m.hp.length≤β.length:=by omega
         refine(Hs.retJ (n:=s.fn.ntmps) (f:=fr.f) (R:=KR P R0 w0 L β st) (n0:=fr.fn.ntmps) (β0:=β.take fr.m.hp.length) (m0:=fr.m) hf ?_ ?_ ?_ key).go w H W
         ·rw[hv,er,hwf];simp only[Option.isSome_some,Bool.true_and,Nat.ble_eq];exact g2
         ·rw[List.length_take,Nat.min_eq_left hq,List.take_append_drop]
         ·exact fun k hk=>(g3 k (by simp[hk])).2
        ·cases hs
       ·cases hs
   ·split at hs
    ·rename_i m' hc;injection hs with hs;subst hs;obtain⟨h1,h2,h3⟩:=dW (P:=P) (f:=s.f) (R:=KR P R0 w0 L β s.st) hc H W;exact h3 ((ih β ⟨s.st,s.f,s.fn,m',s.lock⟩ hf (by rw[h1];exact O) h').go w (by rw[h1];exact H) h2)
    split at hs
    ·rename_i F fn xs hgo;split at hs
     ·rename_i hle;injection hs with hs;subst hs;obtain⟨c1,c2,c3,c4⟩:=goK_spec (β:=β) hin hgo;refine(Hs.inl c2 xs c1 ?_ ?_).go w H W
      ·simp only[hle,c3,Bool.true_and];simp only[HP,SM.wf,Bool.and_eq_true];exact⟨VD (c4 W),SM.wf_hp W⟩
      ·have:=ih β ⟨⟨s.f,s.fn,s.m,s.lock⟩::s.st,F,fn,HP fn xs s.m.hp,HL s.m++s.lock⟩ c2 ⟨hf,Nat.le_refl _,fun k hk=>⟨hk,fun b hb=>hb⟩,O⟩ h';unfold HsK KR at this;dsimp only at this;rw[List.take_of_length_le (by omega)] at this;exact this
     ·cases hs
    ·split at hs
     ·rename_i hfree;split at hs
      ·rename_i m' hstep;injection hs with hs;subst hs;have hlen:=YO hstep;have hkeep:=VV hfree hstep;refine UF H W hstep fun ν w' H' W'=>?_;have:=(ih (β++ν) ⟨s.st,s.f,s.fn,m',s.lock⟩ hf (O.mono hlen hkeep) (fun ν'=>by
        rw[List.append_assoc];exact h' (ν++ν'))).go w' H' W'
       rw[KR_app O (by omega)] at this;exact this
      ·cases hs
     ·cases hs
theorem Hs.runK (inl:List FuncId) (k j:Nat) {fn:Func} (hf:P.funcs[f]? = some fn) (hn:fn.ntmps=n) (hin:(P.follows .mixedOrders&&okIn P inl)=true) (hj: ∀ν,Nat.beq (Go.Proofs.YtdplnedpbkpgpaaGreatDoor.runK P (β++ν) inl k ⟨[],f,fn,m,[]⟩).m.hp.length (β.length+j)=true) (he: ∀ν,Go.Proofs.YtdplnedpbkpgpaaGreatDoor.runK P (β++ν) inl k ⟨[],f,fn,m,[]⟩=⟨[],f,fn,(Go.Proofs.YtdplnedpbkpgpaaGreatDoor.runK P (β++ν) inl k ⟨[],f,fn,m,[]⟩).m,[]⟩) (h: ∀ν:List Nat,ν.length=j→Hs P f R n w0 L (β++ν) (Go.Proofs.YtdplnedpbkpgpaaGreatDoor.runK P (β++ν) inl k ⟨[],f,fn,m,[]⟩).m):Hs P f R n w0 L β m:=by
 simp only[Bool.and_eq_true] at hin;subst hn;refine UV (R0:=R) (w0:=w0) (L:=L) hin.1 hin.2 k β ⟨[],f,fn,m,[]⟩ hf trivial fun ν=>?_;have hl:=Nat.eq_of_beq_eq_true (hj ν);rw[he ν];refine⟨fun w H W=>?_⟩;have e:ν.length=j:=by
  have:=H.len;dsimp only at this;rw[hl,List.length_append] at this;omega
 exact(h ν e).go w H W
end
section
variable {P : Program} {f : FuncId} {R : Ending → World → Prop} {n : Nat} {w0 : World} {L : List Nat} {β : List Nat} {m : SM}
end
section
variable {P : Program} {f : FuncId} {R : Ending → World → Prop} {n : Nat} {w0 : World} {L : List Nat} {β : List Nat} {m : SM}
variable {α : Type} {cf : α → List Value} {tS E size bytes : Nat}
theorem ElemT.elem (ht:ElemT P tS E size bytes):P.elem tS=E:=by unfold Program.elem;rw[ht.ht]
theorem ElemT.sizeOf (ht:ElemT P tS E size bytes) (w:World):(Go.sizeOf E).run P w = .ok size w:=by
 obtain⟨_,⟨i,z,h1,_,h3,_⟩,_⟩:=ht;simp[Go.sizeOf,typeInfo,h1,h3]
theorem run_ldc {E' b off:Nat} {v:Value} (ha:aggB P E'=some false) {w:World} (hc:w.cell? ⟨b,off,none⟩=some v):(Instr.loadAt E' (.pointer (some ⟨b,off,none⟩))).run P w = .ok v w:=by
 simp[Instr.loadAt,Instr.sureAddr,loadVar,PO ha w,hc]
theorem Hs.ldc {E' b off:Nat} (v:Value) (hs:KT n β m=some (MU (Instr.loadAt E' (.pointer (some ⟨b,off,none⟩))))) (hc: ∀w,Mem w0 L β m.hp w→w.cell? ⟨b,off,none⟩=some v) (ha:aggB P E'=some false) (h:Hs P f R n w0 L β (m.put (BL m) (.c (.v v)) m.hp)):Hs P f R n w0 L β m:=
 Hs.opV (.c (.v v)) hs rfl (fun w H=>run_ldc ha (hc w H)) h
theorem bP (hcl: ∀x,(cf x).length=size) {w:World} {b off:Nat} {l:List α} {i:Nat} {x:α} (hr:RdX cf w (some ⟨b,off,none⟩) l) (hx:l[i]? = some x) {j:Nat} {v:Value} (hj:(cf x)[j]? = some v):w.cell? ⟨b,off+i*size+j,none⟩=some v:=
 QL hcl hr hx j v hj
theorem Mem.rdB {w:World} {hp:List HB} (H:Mem w0 L β hp w) (k:Nat) {wr:Bool} {T:TypeId} {cs:List SC} {gs:List α} (hk:hp[k]? = some (.b wr T cs)) (hg:DE β cs=gs.flatMap cf):RdX cf w (some ⟨nm β k,0,none⟩) gs:=fun h0=>by
 have hB:=H.at k hk;refine⟨nm β k,0,rfl,hB.lt,fun j u hj=>?_⟩;rw[Nat.zero_add,hB.cell,hg];exact hj
theorem Mem.toS {w w':World} {hp:List HB} (H:Mem w0 L β hp w) (k:Nat) {h0:HB} {v:Value} {A':Option Addr} {cap' nl':Nat} {l':List α} (hl':l'.length=nl') (hk:hp[k]? = some h0) (hw0:h0.wr=true) (hb:h0.blk (nm β k)=v.ownBlock) (O:Only v.ownBlock.toList w w') (hO:BM cf E size w' 0 (.slice A' nl' cap') l') (hw:KX v (.slice A' nl' cap') w.heap.size):Mem w0 L β (hp.set k (.s A' cap' nl' E size (l'.flatMap cf))) w':=by
 refine H.swap k hk O (fun x hx=>?_) hw0 ?_ (fun x hx=>?_);·rw[hb];exact Option.mem_toList.1 hx
 ·have h5:=hO;unfold BM at h5;rw[hl'] at h5;exact h5
 ·have hb':Value.ownBlock (.slice A' nl' cap')=some x:=by
   cases A' with
   |none=>cases hx
   |some a=>simp only[HB.blk,Option.map_some] at hx;exact hx
  rcases hw with h4|h4;·left;rw[hb,←h4];exact hb'
  ·right;rw[h4] at hb';injection hb' with hb';omega
theorem set_wf {hp:List HB} {k:Nat} {b:HB} {N:Nat} (h:hp.all (HB.wf N)=true) (hb:b.wf N=true):(hp.set k b).all (HB.wf N)=true:=
 List.all_eq_true.2 fun x hx=>by
  rcases List.mem_or_eq_of_mem_set hx with hx|rfl;·exact List.all_eq_true.1 h x hx
  ·exact hb
theorem Hs.litX (k:Nat) (ht:ElemT P tS E size bytes) (gs:List α) (ng:Nat) (hg:gs.length=ng) {B:Option Addr} {c ty:Nat} (hone: ∀x,∀u∈cf x,u.oneCell'=true) (hcl: ∀x,(cf x).length=size)
  (hs:KT n β m=some (MU (Builtin.append_ #[tS,tS] ty #[.slice (some ⟨nm β k,0,none⟩) 0 0,.slice B ng c]))) (hk:m.hp[k]? = some (.b true E [])) (hrd:(HL m).contains k=false)
  (hr: ∀w,Mem w0 L β m.hp w→RdX cf w B gs) (hlen:ng≤maxLen) (hby:ng*bytes≤140737488355328)
  (h: ∀A' cap',ng≤cap'→cap'≤maxLen→Hs P f R n w0 L β (m.put (BL m) (.c (.v (.slice A' ng cap'))) (m.hp.set k (.s A' cap' ng E size (gs.flatMap cf))))):Hs P f R n w0 L β m:=by
 subst hg;refine Hs.opW hs fun w H W=>?_;have hB:Blk w (nm β k) E []:=by
  have:=H.lies k _ hk;simpa[HB.lies,DE] using this
 have hown:BM cf E size w 0 (.slice (some ⟨nm β k,0,none⟩) 0 0) []:=⟨by simp,.inr ⟨nm β k,0,#[],rfl,Nat.zero_le _,hB,Nat.le_refl _,by decide,by simp,by simp⟩⟩;obtain⟨v',w',h1,h2,h3,h4⟩:=UX (ty:=ty) ht hone hown B c gs (RA hcl gs) (hr w H) (by simpa using hlen) (by simpa using hby) (Nat.zero_le _);rw[List.nil_append] at h2;obtain⟨A',cap',rfl,hc1,hmax,_,hblk⟩:=h2.form;refine⟨[],.c (.v (.slice A' gs.length cap')),m.hp.set k (.s A' cap' gs.length E size (gs.flatMap cf)),w',h1,?_,?_,fun i hi b hh=>?_,by rw[List.append_nil];exact h A' cap' hc1 hmax⟩
 ·rw[List.append_nil];exact H.toS k rfl hk rfl rfl h3 h2 h4
 ·simp only[SV.wf,SC.wf,Bool.true_and,Bool.and_eq_true,Nat.ble_eq,List.length_set];exact⟨Nat.le_refl _,set_wf (SM.wf_hp W) rfl⟩
 ·rw[List.getElem?_set,if_neg (fun e=>by
   subst e;simp at hrd;exact hrd hi)]
  exact hh
theorem OP (hcl: ∀x,(cf x).length=size): ∀(l:List α) (i:Nat),i≤l.length→(l.flatMap cf).drop (i*size)=(l.drop i).flatMap cf
 |l,0,_=>by simp
 |[],i+1,h=>by simp at h
 |a::l,i+1,h=>by
  have ih:=OP hcl l i (by simpa using h);have e:(i+1)*size=(cf a).length+i*size:=by rw[hcl,Nat.succ_mul,Nat.add_comm]
  rw[List.flatMap_cons,e,List.drop_length_add_append,ih,List.drop_succ_cons]
theorem Hs.someS (k:Nat) {A:Option Addr} {cap nl:Nat} {vs:List Value} (hk:m.hp[k]? = some (.s A cap nl E size vs)) (hn:0<nl) (h: ∀g,A=some ⟨g,0,none⟩→Hs P f R n w0 L β m):Hs P f R n w0 L β m:=
 ⟨fun w H W=>by
  have hl:w.ownsRow 0 E size (.slice A nl cap) nl vs:=H.lies k _ hk;rcases hl.2 with⟨_,h0⟩|⟨g,c,cur,e,_⟩;·omega
  ·injection e with e1;exact(h g e1).go w H W⟩
theorem Mem.fresh {w:World} {hp:List HB} (H:Mem w0 [] β hp w) (k:Nat) {A:Option Addr} {cap nl:Nat} {l:List α} (hl:l.length=nl) (hk:hp[k]? = some (.s A cap nl E size (l.flatMap cf))):BM cf E size w w0.heap.size (.slice A nl cap) l:=by
 have hO:=H.ownX k hl hk;obtain⟨h1,h2|⟨g,c,cur,e,hg,rest⟩⟩:=hO;·exact⟨h1,.inl h2⟩
 ·refine⟨h1,.inr ⟨g,c,cur,e,?_,rest⟩⟩;injection e with e1;subst e1;exact(H.own k _ g hk rfl rfl).resolve_left (by simp)
end
section
variable {P : Program} {f : FuncId} {R : Ending → World → Prop} {n : Nat} {w0 : World} {L : List Nat} {β : List Nat} {m : SM}
variable {tS E size bytes : Nat}
theorem run_sloA (ht:ElemT P tS E size bytes) {A:Option Addr} {n cap i:Nat} (hn:i≤n) (w:World):(Instr.sliceAt tS (.slice A n cap) (some (.int .i64 i)) none none).run P w = .ok (sliced A i n cap size) w:=by
 have hu:P.underlying tS=some (.slice (P.elem tS)):=by rw[ht.elem];exact ht.ht
 rw[run_sliceAt_slice (h:=hu),run_slice_l (ht:=hu) (h0:=by omega) (h1:=by omega),ht.elem,ht.sizeOf];simp only[Result.andThen_ok,Int.toNat_natCast]
theorem Mem.reS {w w':World} {hp:List HB} (H:Mem w0 L β hp w) (k:Nat) {g cap nl nl':Nat} {vs vs':List Value} (hk:hp[k]? = some (.s (some ⟨g,0,none⟩) cap nl E size vs)) (O:Only [g] w w') (hO:w'.ownsRow 0 E size (.slice (some ⟨g,0,none⟩) nl' cap) nl' vs'):Mem w0 L β (hp.set k (.s (some ⟨g,0,none⟩) cap nl' E size vs')) w':=
 H.swap k hk O (fun x hx=>by simp only[List.mem_singleton] at hx;subst hx;rfl) rfl hO (fun x hx=>.inl hx)
theorem Hs.sel1 (i:Nat) (hc:rdyOf m=some [i]) (h:Hs P f R n w0 L β (selM i m)):Hs P f R n w0 L β m:=
 Hs.branch [i] hc (by simp) fun k hk=>by
  obtain rfl:=List.mem_singleton.1 hk;exact h
end
end Go.Proofs.YtdplnedpbkpgpaaGreatDoor
namespace Go.Proofs.YtdplnedpbkpgpaaGreatDoor
open Go.RowKit Go.MapKept
section
variable {P : Program} {f : FuncId} {R : Ending → World → Prop} {n : Nat} {w0 : World} {L : List Nat} {β : List Nat} {m : SM}
variable {κ : Type} [DecidableEq κ]
variable {T kt et : TypeId} {z : Value} {ke : κ → Value}
end
end Go.Proofs.YtdplnedpbkpgpaaGreatDoor
