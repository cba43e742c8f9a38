/- ClientSends: lemmas, from 'Slices whose elements take one cell, read' on; what each asks for stands in it. -/
import Derived.Test.YtfbhemmpobgdpaaGreatDoorCsA
import Derived.Test.YtfbhemmpobgdpaaGreatDoorCsB
import Derived.Lib.Overlaps
import Derived.Lib.AppendZerosOnto
import Derived.MapKept
import Derived.Laws.StructEq
set_option linter.all false
set_option maxRecDepth 100000
set_option maxHeartbeats 64000000
namespace Go.Proofs.YtfbhemmpobgdpaaGreatDoor
open Go.RowKit
def RdG {α:Type} (mk:α->Value) (w:World) (A:Option Addr) (l:List α):Prop:=
 0<l.length->∃b off,A=some ⟨b,off,none⟩/\b<w.heap.size/\∀i x,l[i]? = some x->w.cell? ⟨b,off+i,none⟩=some (mk x)
section
variable {α:Type} {mk:α -> Value} {w w':World} {A:Option Addr} {l:List α}
theorem RdG.onlyL {L:List Nat} (h:RdG mk w A l) (hb:Only L w w') (hL: ∀a,A=some a->0<l.length->a.block∉L):RdG mk w' A l:=by
 intro h0;obtain⟨b,off,rfl,hlt,hc⟩:=h h0;exact⟨b,off,rfl,zT hlt hb.size,fun i v hi=>(World.cell?_of_block (w:=w) (hb.block b hlt (hL _ rfl h0))).trans (hc i v hi)⟩
theorem RdG.only (h:RdG mk w A l) (hb:Only [] w w'):RdG mk w' A l:=h.onlyL hb (fun _ _ _=>by simp)
theorem RdG.nil:RdG mk w A []:=fun h=>absurd h (Nat.lt_irrefl _)
theorem RdG.lt (h:RdG mk w A l) (h0:0<l.length): ∀a,A=some a->a.block<w.heap.size:=by
 intro a ha;obtain⟨b,off,e,hb,_⟩:=h h0;rw[ha] at e;injection e with e;rw[e];exact hb
theorem RdG.take (h:RdG mk w A l) (k:Nat):RdG mk w A (l.take k):=by
 intro h0;obtain⟨b,off,rfl,hlt,hc⟩:=h (by simp at h0;omega);refine⟨b,off,rfl,hlt,fun i v hi=>hc i v ?_⟩;rw[List.getElem?_take] at hi;split at hi;·exact hi
 ·cases hi
theorem RdG.drop (h:RdG mk w A l) (k:Nat):RdG mk w (Option.map (fun x=>x.add k) A) (l.drop k):=by
 intro h0;obtain⟨b,off,rfl,hlt,hc⟩:=h (by simp at h0;omega);refine⟨b,off+k,by simp[Addr.add_lit],hlt,fun i v hi=>?_⟩;rw[List.getElem?_drop] at hi;rw[Nat.add_assoc];exact hc _ _ hi
theorem RdG.at (h:RdG mk w A l) (k:Nat) (hk:k<l.length): ∃b off x,A=some ⟨b,off,none⟩/\b<w.heap.size/\l[k]? = some x/\w.cell? ⟨b,off+k,none⟩=some (mk x):=by
 obtain⟨b,off,rfl,hlt,hc⟩:=h (by omega);have hx:l[k]? = some (l[k]'hk):=List.getElem?_eq_getElem hk;exact⟨b,off,_,rfl,hlt,hx,hc k _ hx⟩
end
abbrev RdI:=RdG (Value.int .i64)
abbrev RdS:=RdG Value.string
theorem DH {α:Type} {l:List α} {k:Nat} {x:α} (h:l[k]? = some x):l.take (k+1)=l.take k++[x]:=by rw[List.take_add_one,h];rfl
structure ElemT (P : Program) (tS E : TypeId) (size bytes : Nat) : Prop where
  ht : P.underlying tS = some (.slice E)
  info : ∃ (i : TypeInfo) (z : Value), P.info? E = some i /\ i.zero = some z /\ i.size = size /\ i.bytes = bytes /\ z.cells.size = size
  pos : 0 < size
theorem IZ {P:Program} {tS E:TypeId} {size bytes:Nat} {z:Value} (ht:P.underlying tS=some (.slice E)) (hi:(P.info? E).map (fun i=>(i.zero,i.size,i.bytes))=some (some z,size,bytes)) (hz:z.cells.size=size) (hp:0<size):ElemT P tS E size bytes:=by
 obtain⟨i0,h1,h2,h3,h4⟩:=info_parts hi;exact⟨ht,⟨i0,z,h1,h2,h3,h4,hz⟩,hp⟩
section
variable {α:Type}
def AN (cf:α->List Value) (E:TypeId) (size:Nat) (w:World) (base:Nat) (v:Value) (l:List α):Prop:=w.ownsRow base E size v l.length (l.flatMap cf)
def RdX (cf:α->List Value) (w:World) (A:Option Addr) (l:List α):Prop:=
 0<l.length->∃b off,A=some ⟨b,off,none⟩/\b<w.heap.size/\∀j u,(l.flatMap cf)[j]? = some u->w.cell? ⟨b,off+j,none⟩=some u
variable {cf:α -> List Value} {E:TypeId} {size:Nat} {w w':World} {base:Nat} {v:Value} {l:List α} {A:Option Addr}
theorem CN:AN cf E size w base (.slice none 0 0) []:=World.ownsRow_nil w base _ _
theorem AN.far {L:List Nat} (h:AN cf E size w base v l) (hb:Only L w w') (hL: ∀x∈L,some x≠v.ownBlock):AN cf E size w' base v l:=by
 rcases h with⟨h1,h2|⟨g,cap,cur,rfl,hg,hh,hr⟩⟩;·exact⟨h1,.inl h2⟩
 ·exact⟨h1,.inr ⟨g,cap,cur,rfl,hg,(hb.block g (Array.getElem?_eq_some_iff.1 hh).1 (fun hm=>hL g hm rfl)).trans hh,hr⟩⟩
theorem AN.only (h:AN cf E size w base v l) (hb:Only [] w w'):AN cf E size w' base v l:=h.far hb (fun x hx=>by simp at hx)
theorem AN.mono {base':Nat} (h:AN cf E size w base v l) (hb:base'<=base):AN cf E size w base' v l:=by
 rcases h with⟨h1,h2|⟨g,cap,cur,rfl,hg,hh⟩⟩;·exact⟨h1,.inl h2⟩
 ·exact⟨h1,.inr ⟨g,cap,cur,rfl,by omega,hh⟩⟩
theorem AN.block (h:AN cf E size w base v l): ∀k,v.ownBlock=some k->base<=k/\k<w.heap.size:=World.ownsRow.lt h
theorem AN.form (h:AN cf E size w base v l): ∃A cap,v = .slice A l.length cap/\l.length<=cap/\cap<=maxLen/\RdX cf w A l/\∀a,A=some a->base<=a.block/\a.block<w.heap.size/\v.ownBlock=some a.block:=by
 have hb:=h.block;rcases h with⟨h1,⟨rfl,hn⟩|⟨g,cap,cur,rfl,hg,hh,hc,hm,hs,ht⟩⟩;·exact⟨none,0,by rw[hn],by omega,by simp[maxLen],fun h0=>by omega,fun a ha=>by cases ha⟩
 ·refine⟨some ⟨g,0,none⟩,cap,rfl,hc,hm,fun _=>⟨g,0,rfl,(Array.getElem?_eq_some_iff.1 hh).1,fun j u hj=>?_⟩,fun a ha=>?_⟩
  ·have:=World.ownsRow.cells (w:=w) (base:=base) (e:=E) (size:=size) (n:=l.length) (xs:=l.flatMap cf) ⟨h1,.inr ⟨g,cap,cur,rfl,hg,hh,hc,hm,hs,ht⟩⟩ (g:=g) rfl j u hj;simpa[Addr.add_lit] using this
  ·injection ha with ha;subst ha;exact⟨(hb _ rfl).1,(hb _ rfl).2,rfl⟩
theorem RdX.only (h:RdX cf w A l) (hb:Only [] w w'):RdX cf w' A l:=fun h0=>by
 obtain⟨b,off,e,hlt,hc⟩:=h h0;exact⟨b,off,e,zT hlt hb.size,fun j u hj=>(World.cell?_of_block (w:=w) (hb.block b hlt (by simp))).trans (hc j u hj)⟩
theorem rdX_nil:RdX cf w A []:=fun h=>absurd h (Nat.lt_irrefl _)
variable {P:Program} {tS:TypeId} {bytes:Nat}
theorem OK (ht:ElemT P tS E size bytes) (ty:TypeId) (hone: ∀x,∀u∈cf x,u.oneCell'=true) (hown:AN cf E size w base v l) (A:Option Addr) (c:Nat) (gs:List α) (hgl:(gs.flatMap cf).length=gs.length*size) (hr:RdX cf w A gs)
  (hlen:l.length+gs.length<=maxLen) (hby:(l.length+gs.length)*bytes<=140737488355328) (hbase:base<=w.heap.size) :
  ∃v' w',(Builtin.append_ #[tS,tS] ty #[v,.slice A gs.length c]).run P w = .ok v' w'/\AN cf E size w' base v' (l++gs)/\Only v.ownBlock.toList w w'/\LR v v' w.heap.size:=by
 obtain⟨hu,⟨i0,z,hi,hz0,hz1,hz2,hzs⟩,hpos⟩:=ht;by_cases h0:0<gs.length
 ·obtain⟨b,off,rfl,hb,hc⟩:=hr h0;have hn: ∀j u,(gs.flatMap cf)[j]? = some u->w.cell? ((⟨b,off,none⟩:Addr).add j)=some u:=fun j u hj=>by rw[Addr.add_lit];exact hc j u hj
  have h1c: ∀u∈gs.flatMap cf,u.oneCell'=true:=fun u hu=>by
   obtain⟨x,_,hx⟩:=List.mem_flatMap.1 hu;exact hone x u hx
  obtain⟨v',w',e,h1,h2,h3⟩:=run_append_own (P:=P) w base tS ty E i0 z size bytes hu hi hz0 hz1 hz2 hzs hpos v l.length (l.flatMap cf) hown ⟨b,off,none⟩ gs.length c (gs.flatMap cf) hgl hn h1c hlen hby hbase;have hwh:v'.ownBlock=v.ownBlock\/v'.ownBlock=some w.heap.size:=by
   have hle:(l.length+gs.length)*i0.bytes<=140737488355328:=by rw[hz2];exact hby
   have hlm:((l.length+gs.length:Nat):Int)<=9223372036854775807:=by unfold maxLen at hlen;omega
   rcases hown.2 with⟨rfl,hn0⟩|⟨g,cap,cur,rfl,hg,hh,hc2,hm,hs,htk⟩
   ·have:=run_append_nil (P:=P) w tS ty E i0 z hu hi hz0 ⟨b,off,none⟩ gs.length c (gs.flatMap cf) (by rw[hz1];exact hgl) hn h0 (by omega) (by rw[hn0,Nat.zero_add] at hle;omega);rw[this] at e;injection e with e1 e2;right;rw[<-e1];rfl
   ·by_cases hroom:l.length+gs.length<=cap
    ·obtain⟨w2,e2,_⟩:=run_append_fits (P:=P) w base tS ty E i0 size hu hi hz1 g l.length cap (l.flatMap cf) hown ⟨b,off,none⟩ gs.length c (gs.flatMap cf) hgl hn h1c hroom;rw[e2] at e;injection e with e1 _;left;rw[<-e1];rfl
    ·have holds: ∀j u,(l.flatMap cf)[j]? = some u->w.cell? ((⟨g,0,none⟩:Addr).add j)=some u:=World.ownsRow.cells hown (g:=g) rfl;have:=run_append_grow (P:=P) w tS ty E i0 z hu hi hz0 ⟨g,0,none⟩ l.length cap (l.flatMap cf) (by rw[hz1];exact hown.1) holds ⟨b,off,none⟩ gs.length c (gs.flatMap cf) (by rw[hz1];exact hgl) hn (by omega) (by omega) (growslice_fits (by omega) (by omega));rw[this] at e;injection e with e1 _;right;rw[<-e1];rfl
  exact⟨v',w',e,by show World.ownsRow _ _ _ _ _ _ _;simpa[List.flatMap_append] using h1,GP h2,hwh⟩
 ·have e0:gs=[]:=List.eq_nil_of_length_eq_zero (by omega);subst e0;refine⟨v,w,?_,by rw[qN];exact hown,zR _ _,.inl rfl⟩;have hf: ∀w':World,(Builtin.firstCells size 0 (.slice A 0 c)).run P w' = .ok #[] w':=by
   intro w';cases A<;>simp[Builtin.firstCells,loadCells,loadCellsFrom]
  rcases hown.2 with⟨rfl,hn⟩|⟨g,cap,cur,rfl,_,_,hnc,_⟩;·cases A<;>simp[Builtin.append_,run_underlying hu,sizeOf,typeInfo,hi,hz1,Builtin.lenOf,hf]
  ·cases A<;>simp[Builtin.append_,run_underlying hu,sizeOf,typeInfo,hi,hz1,Builtin.lenOf,hf,hnc,storeCells]
theorem LP {o:Oper} {a:Act} {K:Act->World->Prop} {Q:Exit->Act->World->Prop} (s x:Operand)
  (ht:ElemT P tS E size bytes) (ho:o.op = .call { callee:=.builtin .append,args:=#[s,x],argTypes:=#[tS,tS] })
  (hone: ∀x,∀u∈cf x,u.oneCell'=true) (hcl: ∀x,(cf x).length=size) (hs:a.eval s=v) (hown:AN cf E size w base v l) (A:Option Addr) (c:Nat) (gs:List α) (n:Nat) (hn:gs.length=n) (hx:a.eval x = .slice A n c) (hr:RdX cf w A gs)
  (hlen:l.length+gs.length<=maxLen) (hby:(l.length+gs.length)*bytes<=140737488355328) (hbase:base<=w.heap.size)
  (h: ∀v' w',Hid (AN cf E size w' base v' (l++gs))->Only v.ownBlock.toList w w'->Hid (LR v v' w.heap.size)->K (a.put o.dst v') w'):o.wp P a w K Q:=by
 subst hn;have hgl:(gs.flatMap cf).length=gs.length*size:=by
  clear hx hr hlen hby h;induction gs with
  |nil=>simp
  |cons a gs ih=>rw[qG,zE,ih,hcl,List.length_cons,Nat.succ_mul];omega
 obtain⟨v',w',hrun,h1,h2,h3⟩:=OK ht o.type hone hown A c gs hgl hr hlen hby hbase;unfold Oper.wp execOp;simp only[ho,resolve,invoke,builtin,Sem.run_bind,Sem.run_pure,Result.andThen_ok,List.map_toArray,List.map_cons,List.map_nil,hs,hx,hrun];exact h v' w' h1 h2 h3
end
end Go.Proofs.YtfbhemmpobgdpaaGreatDoor
namespace Go.Proofs.YtfbhemmpobgdpaaGreatDoor
section
variable {P:Program} {f:FuncId} {R:Ending -> World -> Prop} {n:Nat} {w0:World} {L:List Nat} {β:List Nat} {m:SM}
def GK (s:Sem Value):Sem Next:=s >>= fun v=>pure (.value v)
def bY (s:Sem Unit):Sem Next:=s >>= fun _=>pure .skip
def DO (n:Nat) (β:List Nat) (m:SM):Option (Sem Next):=match EH m with
 |some o=>match gOk m o with
  |true=>some (execOp (fun x=>(evS n m.sl x).den β) o)
  |false=>none
 |none=>none
theorem II {s:Sem Next} (h:DO n β m=some s): ∃o,EH m=some o/\gOk m o=true/\execOp (fun x=>(evS n m.sl x).den β) o=s/\BD m=o.dst:=by
 unfold DO at h;split at h
 ·rename_i o ho;split at h
  ·rename_i hg;injection h with h;exact⟨o,ho,hg,h,by unfold BD;rw[ho]⟩
  ·cases h
 ·cases h
theorem Hs.opV {s:Sem Value} (v:SV) (hs:DO n β m=some (GK s)) (hv:v.wf m.hp.length=true) (h: ∀w,Mem w0 L β m.hp w->s.run P w = .ok (v.den β) w) (k:Hs P f R n w0 L β (m.put (BD m) v m.hp)):Hs P f R n w0 L β m:=by
 obtain⟨o,ho,hg,he,hd⟩:=II hs;refine⟨fun w H W=>?_⟩;rw[hd] at k;refine Gs.val ho hg ?_ (k.go w H ?_);·rw[he];simp only[GK,Sem.run_bind,h w H,Result.andThen_ok,Sem.run_pure]
 ·simp only[SM.wf,SM.put,Bool.and_eq_true];exact⟨DW (SM.wf_sl W) hv,SM.wf_hp W⟩
theorem Hs.opW {s:Sem Value} (hs:DO n β m=some (GK s)) (h: ∀w,Mem w0 L β m.hp w->m.wf=true->∃(ν:List Nat) (res:SV) (hp':List HB) (w':World),s.run P w = .ok (res.den (β++ν)) w'/\Mem w0 L (β++ν) hp' w'/\(res.wf hp'.length&&(Nat.ble m.hp.length hp'.length&&hp'.all (HB.wf hp'.length)))=true/\(∀k∈HO m,∀h,m.hp[k]? = some h->hp'[k]? = some h)/\Hs P f R n w0 L (β++ν) (m.put (BD m) res hp')):Hs P f R n w0 L β m:=by
 obtain⟨o,ho,hg,he,hd⟩:=II hs;refine⟨fun w H W=>?_⟩;rw[hd] at h;obtain⟨ν,res,hp',w',h1,H',hw,hrd,hG⟩:=h w H W;refine Gs.op ho hg ?_;unfold Oper.wp;rw[EO,he];simp only[GK,Sem.run_bind,h1,Result.andThen_ok,Sem.run_pure,Oper.upon_value];simp only[Bool.and_eq_true,Nat.ble_eq] at hw;refine⟨β++ν,TO o.dst res m.sl,hp',?_,fun w2 hI=>IR.app H.len (SM.wf_hp W) hrd hI,hG.go w' H' ?_⟩;·rw[<-dD n ν (by rw[H.len];exact SM.wf_sl W),<-EZ]
 ·simp only[SM.wf,SM.put,Bool.and_eq_true];exact⟨DW (Slots.wf_mono hw.2.1 (SM.wf_sl W)) hw.1,hw.2.2⟩
theorem Hs.opU {s:Sem Unit} (hs:DO n β m=some (bY s)) (h: ∀w,Mem w0 L β m.hp w->m.wf=true->∃(hp':List HB) (w':World),s.run P w = .ok () w'/\Mem w0 L β hp' w'/\(Nat.ble m.hp.length hp'.length&&hp'.all (HB.wf hp'.length))=true/\(∀k∈HO m,∀h,m.hp[k]? = some h->hp'[k]? = some h)/\Hs P f R n w0 L β (m.put (BD m) (.c (.v undef)) hp')):Hs P f R n w0 L β m:=by
 obtain⟨o,ho,hg,he,hd⟩:=II hs;refine⟨fun w H W=>?_⟩;rw[hd] at h;obtain⟨hp',w',h1,H',hw,hrd,hG⟩:=h w H W;refine Gs.op ho hg ?_;unfold Oper.wp;rw[EO,he];simp only[bY,Sem.run_bind,h1,Result.andThen_ok,Sem.run_pure,Oper.upon_skip];simp only[Bool.and_eq_true,Nat.ble_eq] at hw;refine⟨β,_,hp',EZ n β m.sl o.dst (.c (.v undef)),fun w2 hI=>?_,hG.go w' H' ?_⟩
 ·have:β=β++[]:=by simp
  rw[this] at hI;exact IR.app H.len (SM.wf_hp W) hrd hI
 ·simp only[SM.wf,SM.put,Bool.and_eq_true];exact⟨DW (Slots.wf_mono hw.1 (SM.wf_sl W)) rfl,hw.2⟩
theorem Hs.slot (d:Nat) (v:SV) (hv:v.wf m.hp.length=true) (h:(m.sl.at d).den β=v.den β) (k:Hs P f R n w0 L β ⟨m.r,m.todo,.put d v m.sl,m.hp⟩):Hs P f R n w0 L β m:=by
 have e:fr n β (.put d v m.sl)=fr n β m.sl:=by
  unfold fr;rw[show(Slots.put d v m.sl).ds=m.sl.ds from rfl];congr 2
  refine List.map_congr_left fun i _=>?_;rw[Slots.at_put];split;·rename_i hi;subst hi;exact h.symm
  ·rfl
 refine⟨fun w H W=>?_⟩;have g:=k.go w H (by
  simp only[SM.wf,Bool.and_eq_true,Slots.wf];exact⟨⟨hv,SM.wf_sl W⟩,SM.wf_hp W⟩)
 obtain⟨r,todo,sl,hp⟩:=m;unfold Gs at g⊢;dsimp only at g⊢;rw[e] at g;exact g
theorem Hs.bool (d:Nat) (b:Bool) (h:(m.sl.at d).den β = .bool b) (ht:b=true->Hs P f R n w0 L β ⟨m.r,m.todo,.put d (.c (.v (.bool true))) m.sl,m.hp⟩) (hf:b=false->Hs P f R n w0 L β ⟨m.r,m.todo,.put d (.c (.v (.bool false))) m.sl,m.hp⟩):Hs P f R n w0 L β m:=by
 cases b;·exact Hs.slot d (.c (.v (.bool false))) rfl h (hf rfl)
 ·exact Hs.slot d (.c (.v (.bool true))) rfl h (ht rfl)
def VD (i:Nat) (v:SV) (m:SM):SM:=match m.r with
 | .any ops (fuel+1) lm rd=>⟨.any ops fuel (FU lm i) rd,m.todo,TO ((ops[i]?).bind (·.dst)) v m.sl,m.hp⟩
 |_=>m
def YJ (i:Nat) (n:Nat) (β:List Nat) (m:SM):Option (Sem Next×List Nat):=match m.r with
 | .any ops (_+1) lm rd=>match ops[i]? with
  |some o=>match o.guard with
   |none=>match(VK lm ops.toList 0).contains i&&(aK ops lm i o ops.toList 0&&dR ops lm rd i) with
    |true=>some (execOp (fun x=>(evS n m.sl x).den β) o,rdE ops lm rd)
    |false=>none
   |some _=>none
  |none=>none
 |_=>none
theorem Hs.takeV (i:Nat) {s:Sem Value} {rd:List Nat} (v:SV) (hs:YJ i n β m=some (GK s,rd)) (hv:v.wf m.hp.length=true) (h: ∀w,IR β m.hp rd w->s.run P w = .ok (v.den β) w) (k:Hs P f R n w0 L β (VD i v m)):Hs P f R n w0 L β m:=by
 refine⟨fun w H W=>?_⟩;have hI: ∀rd,IR β m.hp rd w:=fun _ k _ h hh=>H.lies k h hh;obtain⟨r,todo,sl,hp⟩:=m;unfold YJ at hs;dsimp only at hs;split at hs
 ·rename_i ops fuel lm rd';split at hs
  ·rename_i o ho;split at hs
   ·rename_i hg;split at hs
    ·rename_i hcond;injection hs with hs;injection hs with hs1 hs2;subst hs2;simp only[Bool.and_eq_true] at hcond;obtain⟨hmem,hfree,hrb⟩:=hcond;intro hcl hlm hns;have hil:i<ops.size:=(Array.getElem?_eq_some_iff.1 ho).1;have hready:i∈Region.ready .any ops (AO ops.size lm):=by rw[FL hlm];simpa using hmem
     have hcl':FF .any ops (AO ops.size (FU lm i)):=by rw[<-EB hil];exact hcl.set hready
     have g:=k.go w H (by
      simp only[SM.wf,VD,Bool.and_eq_true];exact⟨DW (SM.wf_sl W) hv,SM.wf_hp W⟩)
     have g2:=g hcl' (hlm.set hil) hns;simp only[VD,ho,Option.bind_some] at g2;have hap: ∀j oj,ops[j]? = some oj->j≠i->(AO ops.size lm).getD j true=false->(∀e∈oj.after,Region.binds .any e=true->e.on≠i)->o.apart ops oj=true:=fun j oj hj hne hun hno=>by
      refine QG ops.toList 0 hfree j oj (by simpa using hj) ?_ (by simpa using hne) hno;rw[Nat.zero_add];exact(HL.1 hun).2
     have g3:BI P .any ops (QQ P f R todo) (IR β hp (OH rd')) (VJ rd') fuel ((AO ops.size lm).setIfInBounds i true) ((fr n β sl).put o.dst (v.den β)) w:=by
      rw[EB hil,EZ];exact g2
     have hyld: ∀w',IR β hp (rdE ops lm rd') w'->YieldsAt P ops w' o (v.den β) (fr n β sl):=fun w' hI'=>.inl ⟨by simp[Region.wanted,hg],.inl (by
      rw[EO,hs1];simp only[GK,Sem.run_bind,h w' hI',Result.andThen_ok,Sem.run_pure])⟩
     unfold rdE at hyld;cases hb:hitB ops lm rd' with
     |true=>
      rw[hb] at hyld;refine NI _ _ _ _ (dL hb) ?_;exact takeE (v:=v.den β) ho (Region.noSelect_spec hns) (fun c a w hp=>by cases hp.1) 0 (fun e he=>by cases he) fuel _ _ w hcl (fun e he=>by cases he) trivial hap hready (fun w' _=>hyld w' (fun k hk=>by cases hk)) (LO _ _ _ _ g3)
     |false=>
      rw[hb] at hyld;unfold dR at hrb;rw[hb,Bool.false_or] at hrb;exact takeE (v:=v.den β) ho (Region.noSelect_spec hns) (fun c a w hp=>by cases hp.1) ops.size (fun e he=>List.all_eq_true.1 hrb e he) fuel _ _ w hcl (noE_of hb) (hI _) hap hready (fun w' hI'=>hyld w' hI') g3
    ·cases hs
   ·cases hs
  ·cases hs
 ·cases hs
/-! Where a piece of code begins again. -/
inductive HV where
  | no
  | r (wr : Bool) (T : TypeId) (vs : List Value)
  | s (A : Option Addr) (cap n E size : Nat) (vs : List Value)
  | q (wr : Bool) (A : Option Addr) (Q : World -> Prop)
def HB.val (β:List Nat):HB->HV
 | .no=>.no
 | .b wr T cs=>.r wr T (DG β cs)
 | .r wr T vs=>.r wr T vs
 | .s A cap n E size vs=>.s A cap n E size vs
 | .q wr A Q _=>.q wr A Q
def hpAt (β:List Nat) (hp:List HB) (k:Nat):HV:=match hp[k]? with
 |some h=>h.val β
 |none=>.no
def KQ:List (Nat×SV)->Slots->Slots
 |[],l=>l
 |(d,v)::ps,l=>.put d v (KQ ps l)
theorem HB.val_lies {w:World} {β β':List Nat} {b:Nat} {h h':HB} (e:h.val β=h'.val β'):h.lies w β b↔h'.lies w β' b:=by
 cases h<;>cases h'<;>simp only[HB.val,HV.r.injEq,HV.s.injEq,HV.q.injEq,reduceCtorEq] at e<;>simp only[HB.lies]<;>first
  |(obtain⟨rfl,rfl,rfl⟩:=e;exact Iff.rfl)
  |(obtain⟨_,rfl,e⟩:=e;rw[e])
  |(obtain⟨rfl,rfl,rfl,rfl,rfl,rfl⟩:=e;exact Iff.rfl)
theorem HB.val_wr {β β':List Nat} {h h':HB} (e:h.val β=h'.val β'):h.wr=h'.wr:=by
 cases h<;>cases h'<;>simp only[HB.val,HV.r.injEq,HV.s.injEq,HV.q.injEq,reduceCtorEq] at e<;>first|rfl|exact e.1
theorem HB.val_blk {β β':List Nat} {b:Nat} {h h':HB} (e:h.val β=h'.val β'):h.blk b=h'.blk b:=by
 cases h<;>cases h'<;>simp only[HB.val,HV.r.injEq,HV.s.injEq,HV.q.injEq,reduceCtorEq] at e<;>first|rfl|(obtain⟨rfl,_⟩:=e;rfl)|(obtain⟨_,rfl,_⟩:=e;rfl)
theorem Mem.sub {w:World} {hp hp':List HB} (H:Mem w0 L β hp w) (ks:List Nat) (hn:ks.Nodup) (he:hp'.map (HB.val (ks.map (nm β)))=ks.map (hpAt β hp)):Mem w0 L (ks.map (nm β)) hp' w:=by
 have hlen:hp'.length=ks.length:=by simpa using congrArg List.length he
 have key: ∀(k:Nat) (h':HB),hp'[k]? = some h'->h'.blk 0=h'.blk 0/\(h' = .no\/∃i h,ks[k]? = some i/\hp[i]? = some h/\h.val β=h'.val (ks.map (nm β))/\nm (ks.map (nm β)) k=nm β i):=fun k h' hk=>by
  refine⟨rfl,?_⟩;have hkl:k<ks.length:=by rw[<-hlen];exact(List.getElem?_eq_some_iff.1 hk).1
  have h1:=congrArg (·[k]?) he;simp only[List.getElem?_map,hk,List.getElem?_eq_getElem hkl,Option.map_some,Option.some.injEq] at h1;cases hi:hp[ks[k]]? with
  |none=>
   simp only[hpAt,hi] at h1;cases h'<;>simp[HB.val] at h1
   exact .inl rfl
  |some h=>
   simp only[hpAt,hi] at h1;exact .inr ⟨ks[k],h,List.getElem?_eq_getElem hkl,hi,h1.symm,by simp[nm,List.getD,hkl]⟩
 refine⟨H.only,by simp[hlen],fun k h' hk=>?_,fun k h' x hk hw hx=>?_,fun i j hi hj x ei ej li lj=>?_⟩
 ·rcases(key k h' hk).2 with rfl|⟨i,h,_,h2,h3,h4⟩;·trivial
  ·rw[h4];exact(HB.val_lies h3).1 (H.lies i h h2)
 ·rcases(key k h' hk).2 with rfl|⟨i,h,_,h2,h3,h4⟩;·cases hw
  ·rw[h4,<-HB.val_blk h3] at hx;exact H.own i h x h2 (by rw[HB.val_wr h3];exact hw) hx
 ·rcases(key i hi ei).2 with rfl|⟨a,h,h1,h2,h3,h4⟩;·cases li
  ·rcases(key j hj ej).2 with rfl|⟨a',h',h1',h2',h3',h4'⟩;·cases lj
   ·rw[h4,<-HB.val_blk h3] at li;rw[h4',<-HB.val_blk h3'] at lj;have e:=H.inj a a' h h' x h2 h2' li lj;subst e;exact(List.getElem?_inj (List.getElem?_eq_some_iff.1 h1).1 hn).1 (h1.trans h1'.symm)
theorem pins_at (ps:List (Nat×SV)) (l:Slots) (i:Nat):(KQ ps l).at i=match ps.find? (fun p=>decide (i=p.1)) with|some p=>p.2|none=>l.at i:=by
 induction ps with
 |nil=>rfl
 |cons p ps ih=>
  obtain⟨d,v⟩:=p;show(Slots.put d v (KQ ps l)).at i=_;rw[Slots.at_put];by_cases h:i=d
  ·simp[h]
  ·simp[h,ih]
theorem pins_ds: ∀(ps:List (Nat×SV)) (l:Slots),(KQ ps l).ds=l.ds
 |[],_=>rfl
 |(_,_)::ps,l=>pins_ds ps l
theorem Hs.goto (T:List Item) (ks:List Nat) (hp':List HB) (ps:List (Nat×SV)) (hT:(match m.r with | .no=>(match m.sl.ds with|[]=>some m.todo|_=>none)|_=>none)=some T) (hn:ks.Nodup) (he:hp'.map (HB.val (ks.map (nm β)))=ks.map (hpAt β m.hp))
  (hs:ps.map (fun p=>p.2.den (ks.map (nm β)))=ps.map (fun p=>(m.sl.at p.1).den β)) (hw: ∀u,(SM.wf ⟨.no,T,KQ ps (.vals u),hp'⟩)=true) (h: ∀u,Hs P f R n w0 L (ks.map (nm β)) ⟨.no,T,KQ ps (.vals u),hp'⟩):Hs P f R n w0 L β m:=by
 refine⟨fun w H W=>?_⟩;have g:=(h fun i=>(m.sl.at i).den β).go w (H.sub ks hn he) (hw _);obtain⟨r,todo,sl,hp⟩:=m;dsimp only at hT;split at hT
 ·split at hT;rotate_left
  ·cases hT
  rename_i hds;injection hT with hT;subst hT;have e:fr n (ks.map (nm β)) (KQ ps (.vals fun i=>(sl.at i).den β))=fr n β sl:=by
   unfold fr;rw[pins_ds,hds];show Act.mk _ _=Act.mk _ _;congr 2
   refine List.map_congr_left fun i _=>?_;rw[pins_at];split
   ·rename_i p hp;have h1:=List.mem_of_find?_eq_some hp;have h2:=List.find?_some hp;simp only[decide_eq_true_eq] at h2;have h3:=List.map_inj_left.1 hs p h1;rw[h2];exact h3
   ·rfl
  show GM P f R todo (fr n β sl) w;unfold Gs at g;dsimp only at g;rw[e] at g;exact g
 ·cases hT
def LF:Code->List Item->List (List Item)
 | .seq a b,k=>LF a (.code b::k)++LF b k
 | .cond _ x y,k=>LF x k++LF y k
 | .block id c,k=>LF c (.inBlock id::k)
 | .scope c,k=>LF c (.inScope c::k)
 | .loop c,k=>(.code c :: .inLoop c::k)::LF c (.inLoop c::k)
 |_,_=>[]
def BE (fn:Func) (j:Nat):List Item:=match(LF (QA fn) [])[j]? with
 |some l=>l
 |none=>[]
theorem Hs.callQ {X:Type} (Ao:X->Option Addr) (v:X->Value) (Q:X->World->Prop) (st: ∀x (w w':World),(∀a,Ao x=some a->w'.heap[a.block]? = w.heap[a.block]?)->w.heap.size<=w'.heap.size->Q x w->Q x w') {F:FuncId} {args:Array Value}
  (hC: ∀w,Mem w0 L β m.hp w->Calls P F args w fun e w'=>∃x,e = .returned (v x)/\Only [] w w'/\Q x w'/\∀a,Ao x=some a->w.heap.size<=a.block/\a.block<w'.heap.size) (hc:FG P n β m=some (F,args)) (hrd:(HO m).all (fun k=>Nat.blt k m.hp.length)=true)
  (h: ∀x,Hs P f R n w0 L (β++[0]) (m.put (BD m) (.c (.v (v x))) (m.hp++[.q true (Ao x) (Q x) (st x)]))):Hs P f R n w0 L β m:=by
 refine⟨fun w H W=>?_⟩;refine(Hs.call hc (fun w H=>?_)).go w H W;refine Calls.mono (hC w H) ?_;rintro e w' ⟨x,rfl,O,hQ,hA⟩;have hw:=SM.wf_hp W;refine⟨[0],.c (.v (v x)),m.hp++[.q true (Ao x) (Q x) (st x)],rfl,H.push (h:=.q true (Ao x) (Q x) (st x)) (by rw[H.len];exact hw) O (fun y hy=>?_) (show Q x w'/\_ from⟨hQ,fun a ha=>(hA a ha).2⟩),?_,fun k hk h hh=>?_,h x⟩
 ·simp only[HB.blk,Option.map_eq_some_iff] at hy;obtain⟨a,hx,rfl⟩:=hy;exact(hA a hx).1
 ·simp only[SV.wf,SC.wf,Bool.true_and,Bool.and_eq_true,Nat.ble_eq,zE,List.length_cons,List.length_nil,List.all_append,List.all_cons,List.all_nil,Bool.and_true];refine⟨by omega,List.all_eq_true.2 fun y hy=>?_,rfl⟩;have h1:=List.all_eq_true.1 hw y hy;cases y with
  |no=>rfl
  |s=>rfl
  |q=>rfl
  |r _ _ _=>rfl
  |b _ _ cs=>exact List.all_eq_true.2 fun z hz=>SC.wf_mono (by omega) (List.all_eq_true.1 h1 z hz)
 ·rw[List.getElem?_append_left (List.getElem?_eq_some_iff.1 hh).1];exact hh
/-! Slices of our own. -/
theorem Hs.nilS (E size:Nat) (hr:(HO m).all (fun k=>Nat.blt k m.hp.length)=true) (h:Hs P f R n w0 L (β++[0]) ⟨m.r,m.todo,m.sl,m.hp++[.s none 0 0 E size []]⟩) (hno:(match m.r with | .no=>true | .lst .. =>true | .lstN .. =>true|_=>false)=true):Hs P f R n w0 L β m:=by
 refine⟨fun w H W=>?_⟩;have hw:=SM.wf_hp W;have H2:Mem w0 L (β++[0]) (m.hp++[.s none 0 0 E size []]) w:=H.push (by rw[H.len];exact hw) (zR _ _) (fun x hx=>by cases hx) ⟨by simp,.inl ⟨rfl,rfl⟩⟩;have g:=h.go w H2 (by
  simp only[SM.wf,Bool.and_eq_true,zE,List.length_cons,List.length_nil,List.all_append,List.all_cons,List.all_nil,Bool.and_true];refine⟨Slots.wf_mono (by omega) (SM.wf_sl W),List.all_eq_true.2 fun x hx=>?_,rfl⟩;have h1:=List.all_eq_true.1 hw x hx;cases x with
  |no=>rfl
  |s=>rfl
  |q=>rfl
  |r _ _ _=>rfl
  |b _ _ cs=>exact List.all_eq_true.2 fun y hy=>SC.wf_mono (by omega) (List.all_eq_true.1 h1 y hy))
 have e:fr n (β++[0]) m.sl=fr n β m.sl:=dD n [0] (by rw[H.len];exact SM.wf_sl W);obtain⟨r,todo,sl,hp⟩:=m;unfold Gs at g⊢;dsimp only at g⊢e hno;rw[e] at g;split at hno<;>first|exact g|cases hno
section
variable {α:Type} {cf:α -> List Value} {tS E size bytes:Nat}
theorem FJ (hcl: ∀x,(cf x).length=size) (gs:List α):(gs.flatMap cf).length=gs.length*size:=by
 induction gs with
 |nil=>simp
 |cons a r ih=>rw[qG,zE,hcl,ih,List.length_cons,Nat.succ_mul];omega
theorem Hs.app (k:Nat) (ht:ElemT P tS E size bytes) (l gs:List α) (nl ng:Nat) (hl:l.length=nl) (hg:gs.length=ng) {A B:Option Addr} {cap c ty:Nat} (hone: ∀x,∀u∈cf x,u.oneCell'=true) (hcl: ∀x,(cf x).length=size)
  (hs:DO n β m=some (GK (Builtin.append_ #[tS,tS] ty #[.slice A nl cap,.slice B ng c]))) (hk:m.hp[k]? = some (.s A cap nl E size (l.flatMap cf))) (hrd:(HO m).contains k=false)
  (hr: ∀w,Mem w0 L β m.hp w->RdX cf w B gs) (hlen:nl+ng<=maxLen) (hby:(nl+ng)*bytes<=140737488355328)
  (h: ∀A' cap',cap'<=maxLen->Hs P f R n w0 L β (m.put (BD m) (.c (.v (.slice A' (nl+ng) cap'))) (m.hp.set k (.s A' cap' (nl+ng) E size ((l++gs).flatMap cf))))):Hs P f R n w0 L β m:=by
 obtain⟨o,ho,hgk,he,hd⟩:=II hs;refine⟨fun w H W=>?_⟩;have hown:AN cf E size w 0 (.slice A nl cap) l:=by
  unfold AN;rw[hl];exact H.lies k _ hk
 subst hl;subst hg;obtain⟨v',w',h1,h2,h3,h4⟩:=OK (ty:=ty) ht hone hown B c gs (FJ hcl gs) (hr w H) hlen hby (qO _);obtain⟨A',cap',rfl,_,hmax,_,hblk⟩:=h2.form;rw[hd] at h;have h:=h A' cap' hmax;have hlen2:(l++gs).length=l.length+gs.length:=by simp
 rw[hlen2] at h1 h4;have hkl:=(List.getElem?_eq_some_iff.1 hk).1;have H':Mem w0 L β (m.hp.set k (.s A' cap' (l.length+gs.length) E size ((l++gs).flatMap cf))) w':=by
  refine H.swap k hk h3 (fun x hx=>?_) rfl ?_ (fun x hx=>?_)
  ·cases A with
   |none=>simp[Value.ownBlock] at hx
   |some a=>simp only[Value.ownBlock,Option.toList_some,qS] at hx;subst hx;rfl
  ·have h5:=h2;unfold AN at h5;rw[hlen2] at h5;exact h5
  ·have hb:Value.ownBlock (.slice A' (l.length+gs.length) cap')=some x:=by
    cases A' with
    |none=>cases hx
    |some a=>simp only[HB.blk,Option.map_some] at hx;exact hx
   rcases h4 with h4|h4
   ·left;rw[h4] at hb;cases A with
    |none=>cases hb
    |some a=>exact hb
   ·right;rw[h4] at hb;injection hb with hb;omega
 refine Gs.op ho hgk ?_;unfold Oper.wp;rw[EO,he];simp only[GK,Sem.run_bind,h1,Result.andThen_ok,Sem.run_pure,Oper.upon_value];refine⟨β,_,_,EZ n β m.sl o.dst (.c (.v (.slice A' (l.length+gs.length) cap'))),fun w2 hI=>?_,h.go w' H' ?_⟩
 ·intro i hi hb hh;refine hI i hi hb ?_;rw[List.getElem?_set,if_neg (fun e=>by
   subst e;simp at hrd;exact hrd hi)]
  exact hh
 ·simp only[SM.wf,SM.put,Bool.and_eq_true,List.length_set];refine⟨DW (SM.wf_sl W) rfl,List.all_eq_true.2 fun x hx=>?_⟩;rcases List.mem_or_eq_of_mem_set hx with hx|rfl;·exact List.all_eq_true.1 (SM.wf_hp W) x hx
  ·rfl
end
end
end Go.Proofs.YtfbhemmpobgdpaaGreatDoor
namespace Go.Proofs.YtfbhemmpobgdpaaGreatDoor
section
variable {P:Program} {f:FuncId} {R:Ending -> World -> Prop} {n:Nat} {w0:World} {L:List Nat} {β:List Nat} {m:SM}
theorem run_idx {tS E size bytes:Nat} (ht:ElemT P tS E size bytes) {b off len c i:Nat} (hi:i<len) (w:World):(Instr.indexAt tS (.slice (some ⟨b,off,none⟩) len c) (.int .i64 i)).run P w = .ok (.pointer (some ⟨b,off+i*size,none⟩)) w:=by
 obtain⟨hu,⟨i0,z,hinfo,_,hsz,_⟩,_⟩:=ht;have h1:(0:Int)<=(i:Int)/\(i:Int)<(len:Int):=⟨by omega,by omega⟩;simp[Instr.indexAt,asIntOf,run_underlying hu,sizeOf,typeInfo,hinfo,hsz,h1,hi,Addr.add_mid]
theorem Hs.idx {tS E size bytes:Nat} (ht:ElemT P tS E size bytes) {b off len c i:Nat} (hi:i<len) (hs:DO n β m=some (GK (Instr.indexAt tS (.slice (some ⟨b,off,none⟩) len c) (.int .i64 i)))) (h:Hs P f R n w0 L β (m.put (BD m) (.c (.v (.pointer (some ⟨b,off+i*size,none⟩)))) m.hp)):Hs P f R n w0 L β m:=
 Hs.opV _ hs rfl (fun w _=>run_idx ht hi w) h
theorem bI {α:Type} {cf:α->List Value} {size:Nat} (hcl: ∀x,(cf x).length=size) {w:World} {b off:Nat} {l:List α} {i:Nat} {x:α} (hr:RdX cf w (some ⟨b,off,none⟩) l) (hx:l[i]? = some x):w.rangeAt b (off+i*size) (cf x):=fun j v hj=>by
 have hil:=(List.getElem?_eq_some_iff.1 hx).1;obtain⟨b',off',e,_,hc⟩:=hr (by omega);injection e with e;injection e with e1 e2;subst e1;subst e2;rw[Nat.add_assoc];refine hc _ v ?_;have key: ∀(l:List α) (i:Nat),l[i]? = some x->(l.flatMap cf)[i*size+j]? = some v:=by
  intro l;induction l with
  |nil=>intro i h;simp at h
  |cons a r ih=>
   intro i h;cases i with
   |zero=>
    simp at h;subst h;rw[qG,List.getElem?_append_left (by have:=(List.getElem?_eq_some_iff.1 hj).1;omega),Nat.zero_mul,Nat.zero_add];exact hj
   |succ i=>
    simp at h;rw[qG,List.getElem?_append_right (by rw[hcl,Nat.succ_mul];omega),hcl,show(i+1)*size+j-size=i*size+j by rw[Nat.succ_mul];omega];exact ih i h
 exact key l i hx
theorem Hs.ldx {α:Type} {cf:α->List Value} {size:Nat} (hcl: ∀x,(cf x).length=size) {E b off i:Nat} {l:List α} {x:α} (v:SV) (hs:DO n β m=some (GK (Instr.loadAt E (.pointer (some ⟨b,off+i*size,none⟩))))) (hr: ∀w,Mem w0 L β m.hp w->RdX cf w (some ⟨b,off,none⟩) l) (hx:l[i]? = some x) (ha:aggB P E=some true) (hz:szB P E=some size) (hv:v.den β = .agg (cf x).toArray) (hw:v.wf m.hp.length=true)
  (h:Hs P f R n w0 L β (m.put (BD m) v m.hp)):Hs P f R n w0 L β m:=
 Hs.opV v hs hw (fun w H=>by
  obtain⟨d,hu,hd⟩:=WG ha;rw[hv];exact run_loadAt_mid w b _ E (cf x) d (bI hcl (hr w H) hx) hu hd (by rw[YP hz,hcl])) h
theorem Hs.callX {X:Type} (v:X->Value) (Q:X->Prop) {F:FuncId} {args:Array Value} (hC: ∀w,Mem w0 L β m.hp w->Calls P F args w fun e w'=>∃x,e = .returned (v x)/\Only [] w w'/\Q x) (hc:FG P n β m=some (F,args)) (h: ∀x,Q x->Hs P f R n w0 L β (m.put (BD m) (.c (.v (v x))) m.hp)):Hs P f R n w0 L β m:=by
 refine⟨fun w H W=>?_⟩;refine(Hs.call hc (fun w H=>?_)).go w H W;refine Calls.mono (hC w H) ?_;rintro e w' ⟨x,rfl,O,hQ⟩;refine⟨[],.c (.v (v x)),m.hp,rfl,by rw[qN];exact H.step O,?_,fun k _ h hh=>hh,by rw[qN];exact h x hQ⟩;simp only[SV.wf,SC.wf,Bool.true_and,Bool.and_eq_true,Nat.ble_eq];exact⟨qL _,SM.wf_hp W⟩
end
theorem Hs.gt {P:Program} {f:FuncId} {R:Ending->World->Prop} {n:Nat} {w0:World} {L β:List Nat} {m:SM} (T:List Item) (ks:List Nat) (hp':List HB) (ps:List (Nat×SV)) (h: ∀u,Hs P f R n w0 L (ks.map (nm β)) ⟨.no,T,KQ ps (.vals u),hp'⟩) (hT:(match m.r with | .no=>(match m.sl.ds with|[]=>some m.todo|_=>none)|_=>none)=some T:=by kernel_rfl) (hn:ks.Nodup:=by decide) (he:hp'.map (HB.val (ks.map (nm β)))=ks.map (hpAt β m.hp):=by kernel_rfl) (hs:ps.map (fun p=>p.2.den (ks.map (nm β)))=ps.map (fun p=>(m.sl.at p.1).den β):=by kernel_rfl) (hw: ∀u,(SM.wf ⟨.no,T,KQ ps (.vals u),hp'⟩)=true:=by intro _;kernel_rfl):Hs P f R n w0 L β m:=Hs.goto T ks hp' ps hT hn he hs hw h
end Go.Proofs.YtfbhemmpobgdpaaGreatDoor
namespace Go.Proofs.YtfbhemmpobgdpaaGreatDoor
open Go.RowKit
section
variable {P:Program} {f:FuncId} {R:Ending -> World -> Prop} {n:Nat} {w0:World} {L:List Nat} {β:List Nat} {m:SM}
/-! Into a call. -/
theorem Hs.enterM {fn:Func} {args:Array Value} {w:World} (hf:P.funcs[f]? = some fn) (hp:List HB) (xs:List SV) (H:Mem w0 L β hp w) (hc:(Nat.ble xs.length fn.ntmps&&(fn.body.isSome&&(LV fn xs hp).wf))=true) (ha:args=(xs.map (SV.den β)).toArray) (h:Hs P f R fn.ntmps w0 L β (LV fn xs hp)):Calls P f args w R:=by
 simp only[Bool.and_eq_true,Nat.ble_eq] at hc;obtain⟨h2,h3,h4⟩:=hc;obtain⟨c,hb⟩:=Option.isSome_iff_exists.1 h3;have e:QA fn=c:=by unfold QA;rw[hb]
 have g:=h.go w H h4;unfold Gs LV at g;dsimp only at g;rw[e] at g;refine GM.enter hf hb _ ?_ g;subst ha;exact fG β xs fn.ntmps h2
def InR (P:Program) (f:FuncId) (R:Ending->World->Prop) (n:Nat) (w0:World) (L β:List Nat) (m:SM):Ending->World->Prop:=fun e w'=>
 ∃(ν:List Nat) (res:SV) (hp':List HB),e = .returned (res.den (β++ν))/\Mem w0 L (β++ν) hp' w'/\(res.wf hp'.length&&(Nat.ble m.hp.length hp'.length&&hp'.all (HB.wf hp'.length)))=true/\(∀k∈HO m,∀h,m.hp[k]? = some h->hp'[k]? = some h)/\Hs P f R n w0 L (β++ν) (m.put (BD m) res hp')
theorem Hs.inl {F:FuncId} {fn:Func} (hF:P.funcs[F]? = some fn) (xs:List SV) (hc:FG P n β m=some (F,(xs.map (SV.den β)).toArray)) (hs:(Nat.ble xs.length fn.ntmps&&(fn.body.isSome&&(LV fn xs m.hp).wf))=true)
  (h:Hs P F (InR P f R n w0 L β m) fn.ntmps w0 L β (LV fn xs m.hp)):Hs P f R n w0 L β m:=
 Hs.call hc fun w H=>Hs.enterM hF m.hp xs H hs rfl h
def retS (P:Program) (fn:Func) (n:Nat) (m:SM):Option SV:=match m.r with
 | .no=>match(match m.todo with|[]=>m.sl.ds.isEmpty | .code .ret::_=>m.sl.ds.isEmpty|_=>false) with
  |true=>match retL P n m fn.results.toList with
   |some [v]=>some v.sv
   |some vs=>some (.t vs)
   |none=>none
  |false=>none
 |_=>none
def resOf (P:Program) (fn:Func) (n:Nat) (m:SM):SV:=(retS P fn n m).getD (.t [])
theorem retS_of {fn:Func} {v:SV} (h:retS P fn n m=some v):retOf P fn n β m=some (v.den β):=by
 unfold retS at h;unfold retOf;split at h
 ·rename_i hr;rw[hr];dsimp only;split at h
  ·rename_i ht;split;rotate_left
   ·rename_i h2;exact absurd (ht.symm.trans h2:true=false) (by decide)
   split at h
   ·rename_i v1 hv;injection h with h;subst h;rw[hv];cases v1<;>rfl
   ·rename_i vs hne hv;injection h with h;subst h;rw[hv];split
    ·rename_i v1 h1;injection h1 with h1;exact absurd h1 (hne v1)
    ·rename_i h2 h3 h1;injection h1 with h1;subst h1;rfl
    ·rename_i h1;cases h1
   ·cases h
  ·cases h
 ·cases h
theorem Hs.retI {F:FuncId} {fn:Func} {n0:Nat} {β0:List Nat} {m0:SM} (hf:P.funcs[F]? = some fn) (hr:((retS P fn n m).isSome&&((resOf P fn n m).wf m.hp.length&&Nat.ble m0.hp.length m.hp.length))=true) (hβ:β=β0++β.drop β0.length)
  (hrd:(HO m0).map (fun k=>m.hp[k]?)=(HO m0).map (fun k=>m0.hp[k]?)) (h:Hs P f R n0 w0 L β (m0.put (BD m0) (resOf P fn n m) m.hp)):Hs P F (InR P f R n0 w0 L β0 m0) n w0 L β m:=by
 simp only[Bool.and_eq_true] at hr;obtain⟨h1,h2,h3⟩:=hr;obtain⟨v,hv⟩:=Option.isSome_iff_exists.1 h1;have e:resOf P fn n m=v:=by unfold resOf;rw[hv];rfl
 rw[e] at h h2;refine⟨fun w H W=>?_⟩;refine(Hs.ret hf (retS_of hv) (fun w' H'=>?_)).go w H W;refine⟨β.drop β0.length,v,m.hp,by rw[<-hβ],by rw[<-hβ];exact H',?_,fun k hk b hb=>?_,by rw[<-hβ];exact h⟩;·rw[h2,h3,SM.wf_hp W];rfl
 ·have:=List.map_inj_left.1 hrd k hk;rw[this];exact hb
/-! Another world to count from. -/
def wrN:List Nat->List HB->List Nat
 |b::β,h::hp=>(if h.wr then(h.blk b).toList else[])++wrN β hp
 |_,_=>[]
theorem HW: ∀{β:List Nat} {hp:List HB} {x:Nat},x∈wrN β hp↔∃(k:Nat) (h:HB) (b:Nat),hp[k]? = some h/\β[k]? = some b/\h.wr=true/\h.blk b=some x
 |[],hp,x=>by cases hp<;>simp[wrN]
 |b::β,[],x=>by simp[wrN]
 |b::β,h::hp,x=>by
  have ih:=HW (β:=β) (hp:=hp) (x:=x);simp only[wrN,List.mem_append,ih];constructor
  ·rintro(h1|⟨k,h',b',h1,h2,h3,h4⟩)
   ·split at h1
    ·rename_i hw;rw[Option.mem_toList] at h1;exact⟨0,h,b,rfl,rfl,hw,h1⟩
    ·cases h1
   ·exact⟨k+1,h',b',by simpa using h1,by simpa using h2,h3,h4⟩
  ·rintro⟨k,h',b',h1,h2,h3,h4⟩;cases k with
   |zero=>
    simp at h1 h2;subst h1;subst h2;left;rw[if_pos h3,Option.mem_toList];exact h4
   |succ k=>exact .inr ⟨k,h',b',by simpa using h1,by simpa using h2,h3,h4⟩
def Back (w0:World) (L:List Nat) (w1:World) (L1:List Nat):Prop:=∀w',Only L1 w1 w'->Only L w0 w'
theorem TJ {β:List Nat} {k b:Nat} (h:β[k]? = some b):nm β k=b:=by simp[nm,List.getD,h]
theorem Mem.wrN_lt {w1:World} {hp:List HB} (H:Mem w0 L β hp w1): ∀x∈wrN β hp,x<w1.heap.size:=fun x hx=>by
 obtain⟨k,h,b,h1,h2,h3,h4⟩:=HW.1 hx;have:=H.lies k h h1;rw[TJ h2] at this;exact HB.lies_lt this h4
theorem Mem.rebase {w1:World} {hp:List HB} (H:Mem w0 L β hp w1):Mem w1 (wrN β hp) β hp w1:=
 ⟨zR _ _,H.len,H.lies,fun k h x hk hw hx=>.inl (HW.2 ⟨k,h,nm β k,hk,by
  have hk2:=(List.getElem?_eq_some_iff.1 hk).1;rw[<-H.len] at hk2;rw[nm,List.getD,List.getElem?_eq_getElem hk2];rfl,hw,hx⟩),H.inj⟩
section
variable {α:Type} {cf:α -> List Value} {tS E size bytes:Nat}
theorem Mem.ownX {w:World} {hp:List HB} (H:Mem w0 L β hp w) (k:Nat) {A:Option Addr} {cap n:Nat} {l:List α} (hl:l.length=n) (hk:hp[k]? = some (.s A cap n E size (l.flatMap cf))):AN cf E size w 0 (.slice A n cap) l:=by
 unfold AN;rw[hl];exact H.lies k _ hk
theorem Mem.rdX {w:World} {hp:List HB} (H:Mem w0 L β hp w) (k:Nat) {A:Option Addr} {cap n:Nat} {l:List α} (hl:l.length=n) (hk:hp[k]? = some (.s A cap n E size (l.flatMap cf))):RdX cf w A l:=by
 obtain⟨A',cap',e,_,_,hr,_⟩:=(H.ownX k hl hk).form;injection e with e1;subst e1;exact hr
theorem Hs.callS (v:Option Addr->Nat->Value) (l:List α) (nl:Nat) (hl:l.length=nl) {F:FuncId} {args:Array Value} (hC: ∀w,Mem w0 L β m.hp w->Calls P F args w fun e w'=>∃A cap,e = .returned (v A cap)/\Only [] w w'/\AN cf E size w' w.heap.size (.slice A nl cap) l)
  (hc:FG P n β m=some (F,args)) (hrd:(HO m).all (fun k=>Nat.blt k m.hp.length)=true)
  (h: ∀A cap,nl<=cap->cap<=maxLen->Hs P f R n w0 L (β++[0]) (m.put (BD m) (.c (.v (v A cap))) (m.hp++[.s A cap nl E size (l.flatMap cf)]))):Hs P f R n w0 L β m:=by
 subst hl;refine⟨fun w H W=>?_⟩;refine(Hs.call hc (fun w H=>?_)).go w H W;refine Calls.mono (hC w H) ?_;rintro e w' ⟨A,cap,rfl,O,hO⟩;have hw:=SM.wf_hp W;obtain⟨A1,cap1,e1,hc1,hc2,_,hA⟩:=hO.form;injection e1 with e1 e2 e3;subst e1;subst e3;refine⟨[0],.c (.v (v A cap)),m.hp++[.s A cap l.length E size (l.flatMap cf)],rfl,H.push (h:=.s A cap l.length E size (l.flatMap cf)) (by rw[H.len];exact hw) O (fun y hy=>?_) (AN.mono hO (qO _)),?_,fun k hk h hh=>?_,h A cap hc1 hc2⟩
 ·simp only[HB.blk,Option.map_eq_some_iff] at hy;obtain⟨a,hx,rfl⟩:=hy;exact(hA a hx).1
 ·simp only[SV.wf,SC.wf,Bool.true_and,Bool.and_eq_true,Nat.ble_eq,zE,List.length_cons,List.length_nil,List.all_append,List.all_cons,List.all_nil,Bool.and_true];refine⟨by omega,List.all_eq_true.2 fun y hy=>?_,rfl⟩;have h1:=List.all_eq_true.1 hw y hy;cases y with
  |no=>rfl
  |s=>rfl
  |q=>rfl
  |r _ _ _=>rfl
  |b _ _ cs=>exact List.all_eq_true.2 fun z hz=>SC.wf_mono (by omega) (List.all_eq_true.1 h1 z hz)
 ·rw[List.getElem?_append_left (List.getElem?_eq_some_iff.1 hh).1];exact hh
end
end
theorem bJ {A:Option Addr} {l:List Int} (w w':World) (h1: ∀a,A=some a->w'.heap[a.block]? = w.heap[a.block]?) (h2:w.heap.size<=w'.heap.size) (h:Rd w A l):Rd w' A l:=fun h0=>by
 obtain⟨b,off,rfl,hlt,hc⟩:=h h0;exact⟨b,off,rfl,by omega,fun i v hi=>(World.cell?_of_block (w:=w) (show w'.heap[b]? = w.heap[b]? from h1 _ rfl)).trans (hc i v hi)⟩
theorem run_mark {P:Program} {T E:TypeId} {w:World} {b n:Nat} {l:List Int} (hT:P.underlying T=some (.slice E)) (hE:P.underlying E=some (.int .u8)) (hB:Blk w b E (l.map (.int .u8))): ∃w',(convert T T (.slice (some ⟨b,0,none⟩) n n)).run P w = .ok (.slice (some ⟨b,0,none⟩) n n) w'/\Only [b] w w'/\Rd w' (some ⟨b,0,none⟩) l/\b<w'.heap.size:=by
 have hlt:=hB.lt;have hs:w.shape? b=some (E,(l.map (Value.int .u8)).length):=by
  unfold World.shape?;rw[show w.heap[b]? = _ from hB];simp
 refine⟨w.freeze ⟨b,(l.map (Value.int .u8)).length,none⟩ 1,?_,?_,?_,?_⟩;·simp[convert,run_underlying hT,run_underlying hE,markStringish,hs]
 ·refine⟨rfl,rfl,rfl,by simp[World.freeze],fun k hk hn=>?_⟩;simp only[qS] at hn;simp[World.freeze,Array.getElem?_modify,Ne.symm hn]
 ·intro _;refine⟨b,0,rfl,by simpa[World.freeze] using hlt,fun i v hi=>?_⟩;have h0:w.heap[b]? = some (.cells (l.map (Value.int .u8)).toArray E (0,0)):=hB;simp[World.freeze,World.cell?,Array.getElem?_modify,h0,hi]
 ·simpa[World.freeze] using hlt
section
variable {P:Program} {f:FuncId} {R:Ending -> World -> Prop} {n:Nat} {w0:World} {L:List Nat} {β:List Nat} {m:SM}
theorem Hs.mark (k:Nat) (T E:TypeId) (l:List Int) (nl:Nat) (hT:P.underlying T=some (.slice E)) (hE:P.underlying E=some (.int .u8)) (hs:DO n β m=some (GK (convert T T (.slice (some ⟨nm β k,0,none⟩) nl nl)))) (hk:m.hp[k]? = some (.b true E (l.map fun x=>.v (.int .u8 x)))) (hrd:(HO m).contains k=false)
  (h:Hs P f R n w0 L β (m.put (BD m) (.c (.v (.slice (some ⟨nm β k,0,none⟩) nl nl))) (m.hp.set k (.q true (some ⟨nm β k,0,none⟩) (fun w=>Rd w (some ⟨nm β k,0,none⟩) l) bJ)))):Hs P f R n w0 L β m:=by
 have hkl:=(List.getElem?_eq_some_iff.1 hk).1;refine Hs.opW hs fun w H W=>?_;have hB:Blk w (nm β k) E (l.map (.int .u8)):=by
  have:=H.at k hk;have e:DG β (l.map fun x=>SC.v (.int .u8 x))=l.map (.int .u8):=by simp[DG,SC.den,Function.comp_def]
  rw[e] at this;exact this
 obtain⟨w',h1,h2,h3,h4⟩:=run_mark (n:=nl) hT hE hB;refine⟨[],.c (.v (.slice (some ⟨nm β k,0,none⟩) nl nl)),_,w',h1,?_,?_,fun i hi b hb=>?_,by rw[qN];exact h⟩
 ·rw[qN];refine H.swap k hk h2 (fun x hx=>by simp only[qS] at hx;subst hx;rfl) rfl ?_ (fun x hx=>.inl hx);exact⟨h3,fun a ha=>(by injection ha with ha;subst ha;exact h4)⟩
 ·simp only[SV.wf,SC.wf,Bool.true_and,Bool.and_eq_true,Nat.ble_eq,List.length_set];refine⟨qL _,List.all_eq_true.2 fun x hx=>?_⟩;rcases List.mem_or_eq_of_mem_set hx with hx|rfl;·exact List.all_eq_true.1 (SM.wf_hp W) x hx
  ·rfl
 ·rw[List.getElem?_set,if_neg (fun e=>by
   subst e;simp at hrd;exact hrd hi)]
  exact hb
end
section
variable {P:Program} {f:FuncId} {R:Ending -> World -> Prop} {n:Nat} {w0:World} {L:List Nat} {β:List Nat} {m:SM}
variable {α:Type} {cf:α -> List Value} {tS E size bytes:Nat}
theorem ElemT.elem (ht:ElemT P tS E size bytes):P.elem tS=E:=by unfold Program.elem;rw[ht.ht]
theorem ElemT.sizeOf (ht:ElemT P tS E size bytes) (w:World):(Go.sizeOf E).run P w = .ok size w:=by
 obtain⟨_,⟨i,z,h1,_,h3,_⟩,_⟩:=ht;simp[Go.sizeOf,typeInfo,h1,h3]
theorem run_shi (ht:ElemT P tS E size bytes) {g off n cap i:Nat} (hi:i<=cap) (w:World):(Instr.sliceAt tS (.slice (some ⟨g,off,none⟩) n cap) none (some (.int .i64 i)) none).run P w = .ok (.slice (some ⟨g,off,none⟩) i cap) w:=by
 have hu:P.underlying tS=some (.slice (P.elem tS)):=by rw[ht.elem];exact ht.ht
 rw[run_sliceAt_slice (h:=hu),run_slice_h (ht:=hu) (h0:=by omega) (h2:=by omega),ht.elem,ht.sizeOf];simp only[Result.andThen_ok,sliced,Int.toNat_natCast];split<;>simp[Addr.add_mid]
theorem Hs.shi (ht:ElemT P tS E size bytes) {g off len cap i:Nat} (hi:i<=cap) (hs:DO n β m=some (GK (Instr.sliceAt tS (.slice (some ⟨g,off,none⟩) len cap) none (some (.int .i64 i)) none))) (h:Hs P f R n w0 L β (m.put (BD m) (.c (.v (.slice (some ⟨g,off,none⟩) i cap))) m.hp)):Hs P f R n w0 L β m:=
 Hs.opV (.c (.v (.slice (some ⟨g,off,none⟩) i cap))) hs rfl (fun w _=>run_shi ht hi w) h
theorem run_ldc {E' b off:Nat} {v:Value} (ha:aggB P E'=some false) {w:World} (hc:w.cell? ⟨b,off,none⟩=some v):(Instr.loadAt E' (.pointer (some ⟨b,off,none⟩))).run P w = .ok v w:=by
 simp[Instr.loadAt,Instr.sureAddr,loadVar,SQ ha w,hc]
theorem Hs.ldc {E' b off:Nat} (v:Value) (hs:DO n β m=some (GK (Instr.loadAt E' (.pointer (some ⟨b,off,none⟩))))) (hc: ∀w,Mem w0 L β m.hp w->w.cell? ⟨b,off,none⟩=some v) (ha:aggB P E'=some false) (h:Hs P f R n w0 L β (m.put (BD m) (.c (.v v)) m.hp)):Hs P f R n w0 L β m:=
 Hs.opV (.c (.v v)) hs rfl (fun w H=>run_ldc ha (hc w H)) h
theorem ES (hcl: ∀x,(cf x).length=size) {w:World} {b off:Nat} {l:List α} {i:Nat} {x:α} (hr:RdX cf w (some ⟨b,off,none⟩) l) (hx:l[i]? = some x) {j:Nat} {v:Value} (hj:(cf x)[j]? = some v):w.cell? ⟨b,off+i*size+j,none⟩=some v:=
 bI hcl hr hx j v hj
theorem Mem.rdB {w:World} {hp:List HB} (H:Mem w0 L β hp w) (k:Nat) {wr:Bool} {T:TypeId} {cs:List SC} {gs:List α} (hk:hp[k]? = some (.b wr T cs)) (hg:DG β cs=gs.flatMap cf):RdX cf w (some ⟨nm β k,0,none⟩) gs:=fun h0=>by
 have hB:=H.at k hk;refine⟨nm β k,0,rfl,hB.lt,fun j u hj=>?_⟩;rw[Nat.zero_add,hB.cell,hg];exact hj
theorem Mem.toS {w w':World} {hp:List HB} (H:Mem w0 L β hp w) (k:Nat) {h0:HB} {v:Value} {A':Option Addr} {cap' nl':Nat} {l':List α} (hl':l'.length=nl') (hk:hp[k]? = some h0) (hw0:h0.wr=true) (hb:h0.blk (nm β k)=v.ownBlock) (O:Only v.ownBlock.toList w w') (hO:AN cf E size w' 0 (.slice A' nl' cap') l') (hw:LR v (.slice A' nl' cap') w.heap.size):Mem w0 L β (hp.set k (.s A' cap' nl' E size (l'.flatMap cf))) w':=by
 refine H.swap k hk O (fun x hx=>?_) hw0 ?_ (fun x hx=>?_);·rw[hb];exact Option.mem_toList.1 hx
 ·have h5:=hO;unfold AN at h5;rw[hl'] at h5;exact h5
 ·have hb':Value.ownBlock (.slice A' nl' cap')=some x:=by
   cases A' with
   |none=>cases hx
   |some a=>simp only[HB.blk,Option.map_some] at hx;exact hx
  rcases hw with h4|h4;·left;rw[hb,<-h4];exact hb'
  ·right;rw[h4] at hb';injection hb' with hb';omega
theorem TW {hp:List HB} {k:Nat} {b:HB} {N:Nat} (h:hp.all (HB.wf N)=true) (hb:b.wf N=true):(hp.set k b).all (HB.wf N)=true:=
 List.all_eq_true.2 fun x hx=>by
  rcases List.mem_or_eq_of_mem_set hx with hx|rfl;·exact List.all_eq_true.1 h x hx
  ·exact hb
theorem Hs.litX (k:Nat) (ht:ElemT P tS E size bytes) (gs:List α) (ng:Nat) (hg:gs.length=ng) {B:Option Addr} {c ty:Nat} (hone: ∀x,∀u∈cf x,u.oneCell'=true) (hcl: ∀x,(cf x).length=size)
  (hs:DO n β m=some (GK (Builtin.append_ #[tS,tS] ty #[.slice (some ⟨nm β k,0,none⟩) 0 0,.slice B ng c]))) (hk:m.hp[k]? = some (.b true E [])) (hrd:(HO m).contains k=false)
  (hr: ∀w,Mem w0 L β m.hp w->RdX cf w B gs) (hlen:ng<=maxLen) (hby:ng*bytes<=140737488355328)
  (h: ∀A' cap',ng<=cap'->cap'<=maxLen->Hs P f R n w0 L β (m.put (BD m) (.c (.v (.slice A' ng cap'))) (m.hp.set k (.s A' cap' ng E size (gs.flatMap cf))))):Hs P f R n w0 L β m:=by
 subst hg;refine Hs.opW hs fun w H W=>?_;have hB:Blk w (nm β k) E []:=by
  have:=H.lies k _ hk;simpa[HB.lies,DG] using this
 have hown:AN cf E size w 0 (.slice (some ⟨nm β k,0,none⟩) 0 0) []:=⟨by simp,.inr ⟨nm β k,0,#[],rfl,qO _,hB,qL _,by decide,by simp,by simp⟩⟩;obtain⟨v',w',h1,h2,h3,h4⟩:=OK (ty:=ty) ht hone hown B c gs (FJ hcl gs) (hr w H) (by simpa using hlen) (by simpa using hby) (qO _);rw[List.nil_append] at h2;obtain⟨A',cap',rfl,hc1,hmax,_,hblk⟩:=h2.form;refine⟨[],.c (.v (.slice A' gs.length cap')),m.hp.set k (.s A' cap' gs.length E size (gs.flatMap cf)),w',h1,?_,?_,fun i hi b hh=>?_,by rw[qN];exact h A' cap' hc1 hmax⟩
 ·rw[qN];exact H.toS k rfl hk rfl rfl h3 h2 h4
 ·simp only[SV.wf,SC.wf,Bool.true_and,Bool.and_eq_true,Nat.ble_eq,List.length_set];exact⟨qL _,TW (SM.wf_hp W) rfl⟩
 ·rw[List.getElem?_set,if_neg (fun e=>by
   subst e;simp at hrd;exact hrd hi)]
  exact hh
theorem iS {z:Value} (n:Nat):(Builtin.zeroCells z.cells n).toList.length=n*z.cells.size:=by simp[Builtin.zeroCells]
theorem MU (hcl: ∀x,(cf x).length=size): ∀(l:List α) (i:Nat),i<=l.length->(l.flatMap cf).take (i*size)=(l.take i).flatMap cf
 |l,0,_=>by simp
 |[],i+1,h=>by simp at h
 |a::l,i+1,h=>by
  have ih:=MU hcl l i (by simpa using h);have e:(i+1)*size=(cf a).length+i*size:=by rw[hcl,Nat.succ_mul,Nat.add_comm]
  rw[qG,e,List.take_length_add_append,ih,List.take_succ_cons,qG]
theorem RN (hcl: ∀x,(cf x).length=size): ∀(l:List α) (i:Nat),i<=l.length->(l.flatMap cf).drop (i*size)=(l.drop i).flatMap cf
 |l,0,_=>by simp
 |[],i+1,h=>by simp at h
 |a::l,i+1,h=>by
  have ih:=RN hcl l i (by simpa using h);have e:(i+1)*size=(cf a).length+i*size:=by rw[hcl,Nat.succ_mul,Nat.add_comm]
  rw[qG,e,List.drop_length_add_append,ih,List.drop_succ_cons]
theorem Mem.fresh {w:World} {hp:List HB} (H:Mem w0 [] β hp w) (k:Nat) {A:Option Addr} {cap nl:Nat} {l:List α} (hl:l.length=nl) (hk:hp[k]? = some (.s A cap nl E size (l.flatMap cf))):AN cf E size w w0.heap.size (.slice A nl cap) l:=by
 have hO:=H.ownX k hl hk;obtain⟨h1,h2|⟨g,c,cur,e,hg,rest⟩⟩:=hO;·exact⟨h1,.inl h2⟩
 ·refine⟨h1,.inr ⟨g,c,cur,e,?_,rest⟩⟩;injection e with e1;subst e1;exact(H.own k _ g hk rfl rfl).resolve_left (by simp)
end
section
variable {P:Program} {f:FuncId} {R:Ending -> World -> Prop} {n:Nat} {w0:World} {L:List Nat} {β:List Nat} {m:SM}
variable {α:Type} {cf:α -> List Value} {tS E size bytes:Nat}
theorem Hs.litN (k:Nat) (ht:ElemT P tS E size bytes) (l gs:List α) (nl ng:Nat) (hl:l.length=nl) (hg:gs.length=ng) {B:Option Addr} {c ty:Nat} {cs:List SC} (hone: ∀x,∀u∈cf x,u.oneCell'=true) (hcl: ∀x,(cf x).length=size)
  (hs:DO n β m=some (GK (Builtin.append_ #[tS,tS] ty #[.slice (some ⟨nm β k,0,none⟩) nl nl,.slice B ng c]))) (hk:m.hp[k]? = some (.b true E cs)) (hd:DG β cs=l.flatMap cf) (hrd:(HO m).contains k=false)
  (hr: ∀w,Mem w0 L β m.hp w->RdX cf w B gs) (hlen:nl+ng<=maxLen) (hby:(nl+ng)*bytes<=140737488355328)
  (h: ∀A' cap',nl+ng<=cap'->cap'<=maxLen->Hs P f R n w0 L β (m.put (BD m) (.c (.v (.slice A' (nl+ng) cap'))) (m.hp.set k (.s A' cap' (nl+ng) E size ((l++gs).flatMap cf))))):Hs P f R n w0 L β m:=by
 subst hg;subst hl;refine Hs.opW hs fun w H W=>?_;have hB:Blk w (nm β k) E (l.flatMap cf):=by
  have:=H.lies k _ hk;rw[<-hd];exact this
 have hl2:=FJ hcl l;have hown:AN cf E size w 0 (.slice (some ⟨nm β k,0,none⟩) l.length l.length) l:=⟨hl2,.inr ⟨nm β k,l.length,(l.flatMap cf).toArray,rfl,qO _,hB,qL _,by omega,by simp only[List.size_toArray];exact hl2,by simp only;rw[<-hl2];exact List.take_length⟩⟩;obtain⟨v',w',h1,h2,h3,h4⟩:=OK (ty:=ty) ht hone hown B c gs (FJ hcl gs) (hr w H) hlen hby (qO _);obtain⟨A',cap',rfl,hc1,hmax,_,hblk⟩:=h2.form;have hlen2:(l++gs).length=l.length+gs.length:=by simp
 have hT:=H.toS k rfl hk rfl rfl h3 h2 h4;rw[hlen2] at h1 hT hc1;refine⟨[],.c (.v (.slice A' (l.length+gs.length) cap')),m.hp.set k (.s A' cap' (l.length+gs.length) E size ((l++gs).flatMap cf)),w',h1,?_,?_,fun i hi b hh=>?_,by rw[qN];exact h A' cap' hc1 hmax⟩
 ·rw[qN];exact hT
 ·simp only[SV.wf,SC.wf,Bool.true_and,Bool.and_eq_true,Nat.ble_eq,List.length_set];exact⟨qL _,TW (SM.wf_hp W) rfl⟩
 ·rw[List.getElem?_set,if_neg (fun e=>by
   subst e;simp at hrd;exact hrd hi)]
  exact hh
end
def StX (fp:List Nat) (Q:World->Prop):Prop:=∀w w':World,w.heap.size<=w'.heap.size->(∀x∈fp,w'.heap[x]? = w.heap[x]?)->Q w->Q w'
structure Fx (w00 : World) (G : List Nat) (w1 : World) (L1 fp : List Nat) (Q : World -> Prop) : Prop where
  only : Only G w00 w1
  mem : ∀ x ∈ L1, x ∈ G \/ w00.heap.size <= x
  now : Q w1
  own : ∀ x ∈ fp, x < w1.heap.size /\ x ∉ L1 /\ (x ∈ G \/ w00.heap.size <= x)
  st : StX fp Q
section
variable {w w00 w0 w1 w2 w':World} {G L L1 L' β fp fp':List Nat} {hp:List HB} {Q Q':World -> Prop}
theorem StX.true_:StX fp (fun _=>True):=fun _ _ _ _ _=>trivial
theorem StX.and {fq:List Nat} (h:StX fp Q) (h':StX fq Q'):StX (fp++fq) (fun w=>Q w/\Q' w):=fun w w' hs he hq=>⟨h w w' hs (fun x hx=>he x (by simp[hx])) hq.1,h' w w' hs (fun x hx=>he x (by simp[hx])) hq.2⟩
theorem Fx.start (hL: ∀x∈L,x∈G) (hQ:Q w) (hf: ∀x∈fp,x<w.heap.size/\x∉L/\x∈G) (st:StX fp Q):Fx w G w L fp Q:=
 ⟨zR _ _,fun x hx=>.inl (hL x hx),hQ,fun x hx=>⟨(hf x hx).1,(hf x hx).2.1,.inl (hf x hx).2.2⟩,st⟩
theorem Fx.start0:Fx w L w L [] (fun _=>True):=Fx.start (fun _ h=>h) trivial (by simp) StX.true_
theorem Fx.nil (C:Fx w00 G w1 L1 fp Q):Fx w00 G w1 L1 [] (fun _=>True):=⟨C.only,C.mem,trivial,by simp,StX.true_⟩
theorem Fx.two (C:Fx w00 G w1 L1 fp Q) (C':Fx w00 G w1 L1 fp' Q'):Fx w00 G w1 L1 (fp++fp') (fun w=>Q w/\Q' w):=⟨C.only,C.mem,⟨C.now,C'.now⟩,fun x hx=>by
 rcases qK hx with h|h;·exact C.own x h
 ·exact C'.own x h,C.st.and C'.st⟩
theorem Fx.goes (C:Fx w00 G w1 L1 fp Q) (O:Only L1 w1 w):Q w:=C.st w1 w O.size (fun x hx=>O.block x (C.own x hx).1 (C.own x hx).2.1) C.now
theorem Fx.at (C:Fx w00 G w1 L1 fp Q) (H:Mem w1 L1 β hp w):Q w:=C.goes H.only
theorem Fx.fin (C:Fx w00 G w1 L1 fp Q) (H:Mem w1 L1 β hp w):Only G w00 w:=C.only.trans H.only C.mem
theorem Fx.imp (C:Fx w00 G w1 L1 fp Q) (h:Q w1->Q' w1) (st:StX fp Q'):Fx w00 G w1 L1 fp Q':={ C with now:=h C.now,st:=st }
theorem Fx.sub (C:Fx w00 G w1 L1 fp Q) (hs: ∀x∈fp',x∈fp) (h:Q w1->Q' w1) (st:StX fp' Q'):Fx w00 G w1 L1 fp' Q':=⟨C.only,C.mem,h C.now,fun x hx=>C.own x (hs x hx),st⟩
theorem Fx.key (C:Fx w00 G w1 L1 fp Q) (H:Mem w1 L1 β hp w2): ∀x∈wrN β hp,(x∈L1\/w1.heap.size<=x)/\(x∈G\/w00.heap.size<=x):=fun x hx=>by
 obtain⟨k,h,b,h1,h2,h3,h4⟩:=HW.1 hx;have:=H.own k h x h1 h3 (by rw[TJ h2];exact h4);refine⟨this,?_⟩;rcases this with h|h;·exact C.mem x h
 ·exact .inr (Nat.le_trans C.only.size h)
theorem Fx.step (C:Fx w00 G w1 L1 fp Q) (H:Mem w1 L1 β hp w2) (O:Only L' w2 w') (hne: ∀x∈fp,x∉L') (hL: ∀x∈L',x∈G\/w00.heap.size<=x):Fx w00 G w' (wrN β hp) fp Q:=by
 have h2:=C.fin H;have hs1:=H.only.size;have hs2:=O.size;refine⟨h2.trans O hL,fun x hx=>(C.key H x hx).2,C.st w2 w' O.size (fun x hx=>O.block x (by have:=(C.own x hx).1;omega) (hne x hx)) (C.at H),fun x hx=>⟨by have:=(C.own x hx).1;omega,fun hm=>?_,(C.own x hx).2.2⟩,C.st⟩;rcases(C.key H x hm).1 with h|h;·exact(C.own x hx).2.1 h
 ·have:=(C.own x hx).1;omega
theorem Fx.turn (C:Fx w00 G w1 L1 fp Q) (H:Mem w1 L1 β hp w2) (O:Only fp w2 w') (hQ:Q' w') (hf: ∀y∈fp',y<w'.heap.size/\(y∈fp\/w2.heap.size<=y)) (st:StX fp' Q'):Fx w00 G w' (wrN β hp) fp' Q':=by
 have h2:=C.fin H;have hs1:=H.only.size;have hs2:=O.size;refine⟨h2.trans O fun x hx=>(C.own x hx).2.2,fun x hx=>(C.key H x hx).2,hQ,fun x hx=>⟨(hf x hx).1,fun hm=>?_,?_⟩,st⟩
 ·rcases(hf x hx).2 with h|h
  ·rcases(C.key H x hm).1 with h'|h';·exact(C.own x h).2.1 h'
   ·have:=(C.own x h).1;omega
  ·have:=H.wrN_lt x hm;omega
 ·rcases(hf x hx).2 with h|h;·exact(C.own x h).2.2
  ·exact .inr (by have:=h2.size;omega)
def WC (w00:World) (G:List Nat) (w0:World) (L fp:List Nat) (w1:World) (L1:List Nat):Prop:=∀(fp2:List Nat) (Q2:World->Prop),Fx w00 G w0 L fp2 Q2->(∀x∈fp2,x∉fp)->Fx w00 G w1 L1 fp2 Q2
end
def PJ (hp:List HB):Bool:=hp.all fun h=>match h with
 | .no=>true
 |h=>h.wr
section
variable {w w00 w0 w1 w2 w':World} {G L L1 L' β fp fp':List Nat} {hp:List HB} {Q Q':World -> Prop}
theorem Fx.apart (C:Fx w00 G w0 L fp Q) (H:Mem w0 L β hp w) (hro:PJ hp=true): ∀(k:Nat) (h:HB) (x:Nat),hp[k]? = some h->h.blk (nm β k)=some x->x∉fp:=fun k h x hk hx hm=>by
 have h1:=List.all_eq_true.1 hro h (qE hk);have hw:h.wr=true:=by
  cases h with
  |no=>cases hx
  |_=>exact h1
 rcases H.own k h x hk hw hx with h2|h2;·exact(C.own x hm).2.1 h2
 ·have:=(C.own x hm).1;omega
theorem Mem.rebaseF (H:Mem w0 L β hp w) (O:Only fp w w') (hne: ∀(k:Nat) (h:HB) (x:Nat),hp[k]? = some h->h.blk (nm β k)=some x->x∉fp):Mem w' (wrN β hp) β hp w':=
 ⟨zR _ _,H.len,fun k h hk=>HB.lies_only (H.lies k h hk) O fun x hx=>hne k h x hk hx,fun k h x hk hw hx=>.inl (HW.2 ⟨k,h,nm β k,hk,by
  have hk2:=(List.getElem?_eq_some_iff.1 hk).1;rw[<-H.len] at hk2;rw[nm,List.getD,List.getElem?_eq_getElem hk2];rfl,hw,hx⟩),H.inj⟩
end
section
variable {P:Program} {f:FuncId} {R:Ending -> World -> Prop} {n:Nat} {w0 w00:World} {G L fp:List Nat} {β:List Nat} {m:SM} {Q:World -> Prop}
theorem Hs.callFx {X:Type} (v:X->Value) (fp':X->List Nat) (Q':X->World->Prop) {F:FuncId} {args:Array Value} (C:Fx w00 G w0 L fp Q)
  (hC: ∀w,Mem w0 L β m.hp w->Q w->Calls P F args w fun e w'=>∃x,e = .returned (v x)/\Only fp w w'/\Q' x w'/\StX (fp' x) (Q' x)/\∀y∈fp' x,y<w'.heap.size/\(y∈fp\/w.heap.size<=y))
  (hc:FG P n β m=some (F,args)) (hrd:HO m=[]) (hro:PJ m.hp=true)
  (h: ∀x w1 L1,Fx w00 G w1 L1 (fp' x) (Q' x)->(∀y∈fp' x,y∈fp\/w0.heap.size<=y)->WC w00 G w0 L fp w1 L1->Hs P f R n w1 L1 β (m.put (BD m) (.c (.v (v x))) m.hp)):Hs P f R n w0 L β m:=by
 refine⟨fun w H W=>?_⟩;unfold FG at hc;split at hc
 ·rename_i o ho;split at hc
  ·rename_i hg;split at hc
   ·rename_i F' args' hp;injection hc with hc;injection hc with h1 h2;subst h1;subst h2;have hd:BD m=o.dst:=by unfold BD;rw[ho]
    rw[hd] at h;refine Gs.op ho hg ?_;unfold Oper.wp;rw[EO,HF P _ _ hp w];refine Calls.mono (hC w H (C.at H)) ?_;rintro e w' ⟨x,rfl,O,hQ,hst,hf⟩;refine⟨β,TO o.dst (.c (.v (v x))) m.sl,m.hp,EZ n β m.sl o.dst (.c (.v (v x))),fun w2 hI=>?_,(h x w' _ (C.turn H O hQ hf hst) (fun y hy=>(hf y hy).2.imp id fun h=>Nat.le_trans H.only.size h) fun fp2 Q2 C2 hne=>C2.step H O hne fun x hx=>(C.own x hx).2.2).go w' (H.rebaseF O (C.apart H hro)) ?_⟩;·rw[hrd];intro i hi;cases hi
    ·simp only[SM.wf,SM.put,Bool.and_eq_true];exact⟨DW (SM.wf_sl W) rfl,SM.wf_hp W⟩
   ·cases hc
  ·cases hc
 ·cases hc
def noAt:List Nat->List HB->List HB
 |[],hp=>hp
 |k::ks,hp=>noAt ks (hp.set k .no)
theorem RX: ∀(ks:List Nat) (hp:List HB) (j:Nat) (h:HB),(noAt ks hp)[j]? = some h->(h = .no\/(j∉ks/\hp[j]? = some h))
 |[],hp,j,h,hj=>.inr ⟨by simp,hj⟩
 |k::ks,hp,j,h,hj=>by
  rcases RX ks _ j h hj with h1|⟨h1,h2⟩;·exact .inl h1
  ·by_cases e:k=j
   ·subst e;rw[List.getElem?_set] at h2;simp only[if_true] at h2;split at h2;·injection h2 with h2;exact .inl h2.symm
    ·cases h2
   ·rw[List.getElem?_set_ne e] at h2;exact .inr ⟨by simp only[qC,not_or];exact⟨fun h=>e h.symm,h1⟩,h2⟩
theorem XM: ∀(ks:List Nat) (hp:List HB),(noAt ks hp).length=hp.length
 |[],_=>rfl
 |k::ks,hp=>by rw[noAt,XM ks,List.length_set]
theorem Hs.shutFx (ks:List Nat) (fp:List Nat) (Q:World->Prop) {fp0:List Nat} {Q0:World->Prop} (C:Fx w00 G w0 L fp0 Q0) (st:StX fp Q)
  (hQ: ∀w,Mem w0 L β m.hp w->Q w) (hfp: ∀x∈fp,∃k∈ks,∃h,m.hp[k]? = some h/\h.wr=true/\h.blk (nm β k)=some x)
  (hr:(match m.r with | .no=>true | .lst .. =>true | .lstN .. =>true|_=>false)=true)
  (h: ∀w1 L1,Fx w00 G w1 L1 fp Q->WC w00 G w0 L [] w1 L1->Hs P f R n w1 L1 β ⟨m.r,m.todo,m.sl,noAt ks m.hp⟩):Hs P f R n w0 L β m:=by
 refine⟨fun w H W=>?_⟩;have H':Mem w0 L β (noAt ks m.hp) w:=H.turn (Only.refl [] w) (by simp) (XM _ _) fun j h' hj=>by
  rcases RX ks _ j h' hj with h1|⟨_,h1⟩;·exact .inl h1
  ·exact .inr (.inl ⟨h1,by simp⟩)
 have key:=Fx.key C H';have C1:Fx w00 G w (wrN β (noAt ks m.hp)) fp Q:=⟨C.fin H,fun x hx=>(key x hx).2,hQ w H,fun x hx=>by
  obtain⟨k,hk,hb,h1,h2,h3⟩:=hfp x hx;refine⟨HB.lies_lt (H.lies k hb h1) h3,fun hm=>?_,?_⟩
  ·obtain⟨j,b,y,g1,g2,g3,g4⟩:=HW.1 hm;rcases RX ks _ j b g1 with e|⟨e,g5⟩;·subst e;cases g3
   ·have:=H.inj k j hb b x h1 g5 h3 (by rw[TJ g2];exact g4);subst this;exact e hk
  ·rcases H.own k hb x h1 h2 h3 with h4|h4;·exact C.mem x h4
   ·exact .inr (Nat.le_trans C.only.size h4),st⟩
 have g2:=(h w _ C1 fun fp2 Q2 C2 _=>C2.step H' (Only.refl [] w) (by simp) (by simp)).go w H'.rebase (by
  simp only[SM.wf,Bool.and_eq_true] at W⊢;rw[XM];refine⟨W.1,List.all_eq_true.2 fun y hy=>?_⟩;obtain⟨j,hj⟩:=List.mem_iff_getElem?.1 hy;rcases RX ks _ j y hj with e|⟨_,e⟩;·subst e;rfl
  ·exact List.all_eq_true.1 W.2 y (qE e))
 obtain⟨r,todo,sl,hp⟩:=m;cases r with
 |no=>exact g2
 |lst=>exact g2
 |lstN=>exact g2
 |_=>cases hr
end
section
variable {P:Program} {f:FuncId} {R:Ending -> World -> Prop} {n:Nat} {w0:World} {L:List Nat} {β:List Nat} {m:SM}
variable {tS E size bytes:Nat}
theorem Hs.opN {s:Sem Next} (v:SV) (hs:DO n β m=some s) (hv:v.wf m.hp.length=true) (h: ∀w,Mem w0 L β m.hp w->s.run P w = .ok (.value (v.den β)) w) (k:Hs P f R n w0 L β (m.put (BD m) v m.hp)):Hs P f R n w0 L β m:=by
 obtain⟨o,ho,hg,he,hd⟩:=II hs;refine⟨fun w H W=>?_⟩;rw[hd] at k;refine Gs.op ho hg ?_;unfold Oper.wp;rw[EO,he,h w H];refine⟨β,_,m.hp,EZ n β m.sl o.dst v,fun w2 hI=>hI,k.go w H ?_⟩;simp only[SM.wf,SM.put,Bool.and_eq_true];exact⟨DW (SM.wf_sl W) hv,SM.wf_hp W⟩
theorem run_sloA (ht:ElemT P tS E size bytes) {A:Option Addr} {n cap i:Nat} (hn:i<=n) (w:World):(Instr.sliceAt tS (.slice A n cap) (some (.int .i64 i)) none none).run P w = .ok (sliced A i n cap size) w:=by
 have hu:P.underlying tS=some (.slice (P.elem tS)):=by rw[ht.elem];exact ht.ht
 rw[run_sliceAt_slice (h:=hu),run_slice_l (ht:=hu) (h0:=by omega) (h1:=by omega),ht.elem,ht.sizeOf];simp only[Result.andThen_ok,Int.toNat_natCast]
theorem Mem.reS {w w':World} {hp:List HB} (H:Mem w0 L β hp w) (k:Nat) {g cap nl nl':Nat} {vs vs':List Value} (hk:hp[k]? = some (.s (some ⟨g,0,none⟩) cap nl E size vs)) (O:Only [g] w w') (hO:w'.ownsRow 0 E size (.slice (some ⟨g,0,none⟩) nl' cap) nl' vs'):Mem w0 L β (hp.set k (.s (some ⟨g,0,none⟩) cap nl' E size vs')) w':=
 H.swap k hk O (fun x hx=>by simp only[qS] at hx;subst hx;rfl) rfl hO (fun x hx=>.inl hx)
end
end Go.Proofs.YtfbhemmpobgdpaaGreatDoor
namespace Go.Proofs.YtfbhemmpobgdpaaGreatDoor
open Go.RowKit Go.MapKept
section
variable {P:Program} {f:FuncId} {R:Ending -> World -> Prop} {n:Nat} {w0:World} {L:List Nat} {β:List Nat} {m:SM}
variable {κ:Type} [DecidableEq κ]
structure KeyT (P : Program) (T kt et : TypeId) (z : Value) (ke : κ -> Value) : Prop where
  hm : P.underlying T = some (.map kt et)
  zero : ∀ w, (zeroValue et).run P w = .ok z w
  d : ∃ d, P.underlying kt = some d /\ ∀ a, IsKey d (ke a)
  inj : ∀ a b, ke a = ke b -> a = b
def BQ (ke:κ->Value) (w:World) (r:Nat) (es:List (κ×Value)):Prop:=∃(a:Array MapEntry) (clock:Nat),w.heap[r]? = some (.map a clock)/\a.toList.map (fun e=>(e.key,e.val))=es.map (fun p=>(ke p.1,p.2))/\Stamped a clock
def BU (k:κ):List (κ×Value)->Option Value
 |[]=>none
 |p::es=>if p.1=k then some p.2 else BU k es
variable {T kt et:TypeId} {z:Value} {ke:κ -> Value}
theorem TE {d:TypeDesc} (hk: ∀a,IsKey d (ke a)) (hi: ∀a b,ke a=ke b->a=b) (k:κ): ∀(l:List MapEntry) (es:List (κ×Value)) (i:Nat),l.map (fun e=>(e.key,e.val))=es.map (fun p=>(ke p.1,p.2))->∃o:Option (Nat×Value),Instr.findNow d (ke k) l i=some o/\o.map (·.2)=BU k es
 |[],[],i,_=>⟨none,rfl,rfl⟩
 |[],_::_,i,h=>by simp at h
 |_::_,[],i,h=>by simp at h
 |e::l,p::es,i,h=>by
  simp only[List.map_cons,List.cons.injEq,Prod.mk.injEq] at h;obtain⟨⟨h1,h2⟩,h3⟩:=h;obtain⟨r,hr,hiff⟩:=sameNow_of_keys (hk k) (show IsKey d e.key by rw[h1];exact hk _);cases r with
  |true=>
   have e1:p.1=k:=hi _ _ (by rw[<-h1];exact(hiff.1 rfl).symm);exact⟨some (i,e.val),by simp[Instr.findNow,hr],by simp[BU,e1,h2]⟩
  |false=>
   have e1: ¬p.1=k:=fun he=>by
    have:=hiff.2 (by rw[h1,he]);cases this
   obtain⟨o,ho1,ho2⟩:=TE hk hi k l es (i+1) h3;exact⟨o,by simp[Instr.findNow,hr,ho1],by simp[BU,e1,ho2]⟩
theorem bP (ht:KeyT P T kt et z ke) {w:World} {r:Nat} {es:List (κ×Value)} (hM:BQ ke w r es) (k:κ) (ok:Bool):(Instr.lookup T (.map (some r)) (ke k) ok).run P w = .ok (if ok then .tuple #[(BU k es).getD z,.bool (BU k es).isSome] else(BU k es).getD z) w:=by
 obtain⟨d,hd,hk⟩:=ht.d;obtain⟨a,clock,hb,he,hst⟩:=hM;obtain⟨o,ho1,ho2⟩:=TE hk ht.inj k a.toList es 0 he;have hck:=run_checkKey (w:=w) hd (hk k) a.isEmpty 9999;have hf:=run_findKey (w:=w) hd ho1;rw[<-ho2];cases o with
 |none=>simp[Instr.lookup,run_underlying ht.hm,MapKept.run_getObj_map hb,hck,hf,ht.zero w,Result.andThen]
 |some p=>simp[Instr.lookup,run_underlying ht.hm,MapKept.run_getObj_map hb,hck,hf,Result.andThen]
theorem XE {k:κ} (hi: ∀a b,ke a=ke b->a=b): ∀{l:List MapEntry} {es:List (κ×Value)},l.map (fun e=>(e.key,e.val))=es.map (fun p=>(ke p.1,p.2))->BU k es=none->∀x∈l,x.key≠ke k
 |[],es,_,_,x,hx=>by cases hx
 |e::l,[],h,_,x,hx=>by simp at h
 |e::l,p::es,h,hn,x,hx=>by
  simp only[List.map_cons,List.cons.injEq,Prod.mk.injEq] at h;obtain⟨⟨h1,_⟩,h3⟩:=h;unfold BU at hn;split at hn;·cases hn
  ·rename_i hne;rcases qC.1 hx with rfl|hx;·intro e2;exact hne (hi _ _ (h1.symm.trans e2))
   ·exact XE hi h3 hn x hx
theorem gZ (ht:KeyT P T kt et z ke) {w:World} {r:Nat} {es:List (κ×Value)} (hM:BQ ke w r es) (k:κ) (hn:BU k es=none) (v:Value): ∃w',(Instr.mapUpdate T (.map (some r)) (ke k) v).run P w = .ok () w'/\BQ ke w' r (es++[(k,v)])/\Only [r] w w':=by
 obtain⟨d,hd,hk⟩:=ht.d;obtain⟨a,clock,hb,he,hst⟩:=hM;obtain⟨o,ho1,ho2⟩:=TE hk ht.inj k a.toList es 0 he;rw[hn] at ho2;have ho:o=none:=by cases o with
  |none=>rfl
  |some p=>cases ho2
 subst ho;have hck:=run_checkKey (w:=w) hd (hk k) false 9999;have hf:=run_findKey (w:=w) hd ho1;have hs:=heap_set (o':=.map (a.push { key:=ke k,val:=v,born:=clock }) (clock+1)) hb;refine⟨{ w with heap:=w.heap.setIfInBounds r (.map (a.push { key:=ke k,val:=v,born:=clock }) (clock+1)) },?_,⟨_,_,hs.1,by simp[he],stamped_push hst (XE ht.inj he hn)⟩,⟨rfl,rfl,rfl,by simp,fun b _ hb=>hs.2 b (by simpa using hb)⟩⟩;simp[Instr.mapUpdate,run_underlying ht.hm,MapKept.run_getObj_map hb,hck,hf,MapKept.run_setObj_map _ hb,Result.andThen]
theorem BQ.st {r:Nat} {es:List (κ×Value)} (w w':World) (h1: ∀a,(some ⟨r,0,none⟩:Option Addr)=some a->w'.heap[a.block]? = w.heap[a.block]?) (h2:w.heap.size<=w'.heap.size) (h:BQ ke w r es):BQ ke w' r es:=by
 obtain⟨a,clock,hb,he,hst⟩:=h;exact⟨a,clock,(h1 _ rfl).trans hb,he,hst⟩
theorem BQ.only {r:Nat} {es:List (κ×Value)} {w w':World} (h:BQ ke w r es) (O:Only L w w') (hr:r∉L):BQ ke w' r es:=by
 obtain⟨a,clock,hb,he,hst⟩:=h;exact⟨a,clock,(O.block r (Array.getElem?_eq_some_iff.1 hb).1 hr).trans hb,he,hst⟩
theorem BQ.lt {r:Nat} {es:List (κ×Value)} {w:World} (h:BQ ke w r es):r<w.heap.size:=by
 obtain⟨a,clock,hb,he,hst⟩:=h;exact(Array.getElem?_eq_some_iff.1 hb).1
def HB.mp (ke:κ->Value) (r:Nat) (es:List (κ×Value)):HB:=.q true (some ⟨r,0,none⟩) (fun w=>BQ ke w r es) BQ.st
theorem Hs.mkM (ke:κ->Value) (hs:DO n β m=some (GK (Instr.makeMap T none))) (hrd:(HO m).all (fun k=>Nat.blt k m.hp.length)=true) (h: ∀r,Hs P f R n w0 L (β++[r]) (m.put (BD m) (.c (.v (.map (some r)))) (m.hp++[HB.mp ke r []]))):Hs P f R n w0 L β m:=by
 refine Hs.opW hs fun w H W=>?_;have hw:=SM.wf_hp W;refine⟨[w.heap.size],.c (.v (.map (some w.heap.size))),m.hp++[HB.mp ke w.heap.size []],_,rfl,H.push (by rw[H.len];exact hw) ((zR _ _).alloc _) (fun x hx=>?_) ⟨⟨#[],0,heap_alloc_new w _,rfl,stamped_empty 0⟩,fun a ha=>?_⟩,?_,fun k hk b hh=>?_,h _⟩;·simp only[HB.mp,HB.blk,Option.map_some,Option.some.injEq] at hx;omega
 ·injection ha with ha;subst ha;show w.heap.size<(w.heap.push _).size;rw[Array.size_push];exact Nat.lt_succ_self _
 ·simp only[SV.wf,SC.wf,Bool.true_and,Bool.and_eq_true,Nat.ble_eq,zE,List.length_cons,List.length_nil,List.all_append,List.all_cons,List.all_nil,Bool.and_true];refine⟨by omega,List.all_eq_true.2 fun y hy=>?_,rfl⟩;have h1:=List.all_eq_true.1 hw y hy;cases y with
  |no=>rfl
  |s=>rfl
  |q=>rfl
  |r _ _ _=>rfl
  |b _ _ cs=>exact List.all_eq_true.2 fun z hz=>SC.wf_mono (by omega) (List.all_eq_true.1 h1 z hz)
 ·rw[List.getElem?_append_left (List.getElem?_eq_some_iff.1 hh).1];exact hh
theorem Hs.putM (k:Nat) (ht:KeyT P T kt et z ke) {r:Nat} {es:List (κ×Value)} (key:κ) (v:Value) (hn:BU key es=none) (hs:DO n β m=some (bY (Instr.mapUpdate T (.map (some r)) (ke key) v))) (hk:m.hp[k]? = some (HB.mp ke r es)) (hrd:(HO m).contains k=false)
  (h:Hs P f R n w0 L β (m.put (BD m) (.c (.v undef)) (m.hp.set k (HB.mp ke r (es++[(key,v)]))))):Hs P f R n w0 L β m:=by
 refine Hs.opU hs fun w H W=>?_;have hM:BQ ke w r es:=H.atQ k (wr:=true) (A:=some ⟨r,0,none⟩) (Q:=fun w=>BQ ke w r es) (st:=BQ.st) hk;obtain⟨w',hr,hM',O⟩:=gZ ht hM key hn v;have hl:(HB.mp ke r (es++[(key,v)])).lies w' β (nm β k):=⟨hM',fun a ha=>by injection ha with ha;subst ha;exact hM'.lt⟩;refine⟨m.hp.set k (HB.mp ke r (es++[(key,v)])),w',hr,H.swap k hk O (fun x hx=>by simp only[qS] at hx;subst hx;rfl) rfl hl (fun x hx=>.inl hx),?_,fun j hj b hb=>?_,h⟩
 ·simp only[Bool.and_eq_true,Nat.ble_eq,List.length_set];exact⟨qL _,TW (SM.wf_hp W) rfl⟩
 ·rw[List.getElem?_set,if_neg (fun e=>by
   subst e;simp at hrd;exact hrd hj)]
  exact hb
theorem Mem.mapM {w:World} {hp:List HB} (H:Mem w0 L β hp w) (k:Nat) {r:Nat} {es:List (κ×Value)} (hk:hp[k]? = some (HB.mp ke r es)):BQ ke w r es:=
 H.atQ k (wr:=true) (A:=some ⟨r,0,none⟩) (Q:=fun w=>BQ ke w r es) (st:=BQ.st) hk
theorem Hs.getM (ht:KeyT P T kt et z ke) {r:Nat} {es:List (κ×Value)} (key:κ) (ok:Bool) (v:Value) (hv:(if ok then .tuple #[(BU key es).getD z,.bool (BU key es).isSome] else(BU key es).getD z)=v) (hs:DO n β m=some (GK (Instr.lookup T (.map (some r)) (ke key) ok))) (hM: ∀w,Mem w0 L β m.hp w->BQ ke w r es)
  (h:Hs P f R n w0 L β (m.put (BD m) (.c (.v v)) m.hp)):Hs P f R n w0 L β m:=
 Hs.opV (.c (.v v)) hs rfl (fun w H=>by rw[bP ht (hM w H) key ok,hv];rfl) h
def kI (q:IntKind) (k:Int):Value:=.int q k
theorem kI_inj {q:IntKind} (a b:Int) (h:kI q a=kI q b):a=b:=by injection h
end
end Go.Proofs.YtfbhemmpobgdpaaGreatDoor
namespace Go.Proofs.YtfbhemmpobgdpaaGreatDoor
open Go.RowKit
def stopAt (N:Nat) (m:SM):Bool:=match m.r with
 | .no=>Nat.beq m.todo.length N
 |_=>false
section
variable (P:Program) (n:Nat) (β:List Nat)
def runU (N:Nat) (ge:List Nat):Nat->SM->SM
 |0,m=>m
 |k+1,m=>match stopAt N m with
  |true=>m
  |false=>match GU P n β ge m with
   |some m'=>runU N ge k m'
   |none=>m
end
section
variable {P:Program} {f:FuncId} {R:Ending -> World -> Prop} {n:Nat} {w0:World} {L:List Nat} {β:List Nat} {m:SM} {ge:List Nat} {N:Nat}
end
/-! Up to a region. -/
def atL (id:Nat):Code->List Item->List (List Item)
 | .seq a b,k=>atL id a (.code b::k)++atL id b k
 | .cond _ x y,k=>atL id x k++atL id y k
 | .block i c,k=>atL id c (.inBlock i::k)
 | .scope c,k=>atL id c (.inScope c::k)
 | .loop c,k=>atL id c (.inLoop c::k)
 | .region j ops d,k=>match Nat.beq j id with
  |true=>[.code (.region j ops d)::k]
  |false=>[]
 |_,_=>[]
def atR (fn:Func) (id:Nat):List Item:=match atL id (QA fn) [] with
 |k::_=>k
 |[]=>[]
def stopR (id:Nat) (m:SM):Bool:=match m.r with
 | .no=>match m.todo with
  | .code (.region j _ _)::_=>Nat.beq j id
  |_=>false
 |_=>false
section
variable (P:Program) (n:Nat) (β:List Nat)
def runR (N:Nat) (ge:List Nat):Nat->SM->SM
 |0,m=>m
 |k+1,m=>match stopR N m with
  |true=>m
  |false=>match GU P n β ge m with
   |some m'=>runR N ge k m'
   |none=>m
end
section
variable {P:Program} {f:FuncId} {R:Ending -> World -> Prop} {n:Nat} {w0:World} {L:List Nat} {β:List Nat} {m:SM} {ge:List Nat} {N:Nat}
theorem YG: ∀(k:Nat) (β:List Nat) (m:SM) (w:World),Mem w0 L β m.hp w->m.wf=true->(∀ν w',Mem w0 L (β++ν) (runR P n (β++ν) N ge k m).hp w'->(runR P n (β++ν) N ge k m).wf=true->Gs P f R n (β++ν) (runR P n (β++ν) N ge k m) w')->Gs P f R n β m w
 |0,β,m,w,H,W,h=>by
  have:=h [] w;simp only[qN] at this;exact this H W
 |k+1,β,m,w,H,W,h=>by
  cases hst:stopR N m with
  |true=>
   have:=h [] w;simp only[qN,runR,hst] at this;exact this H W
  |false=>
   cases hs:GU P n β ge m with
   |none=>
    have:=h [] w;simp only[qN,runR,hst,hs] at this;exact this H W
   |some m'=>
    refine PQ H W hs fun ν w' H' W'=>?_;refine YG k (β++ν) m' w' H' W' fun ν' w'' H'' W''=>?_;have e:GU P n (β++ν++ν') ge m=some m':=by
     rw[List.append_assoc,UR H.len W];exact hs
    have:=h (ν++ν') w'';rw[<-List.append_assoc] at this;simp only[runR,hst,e] at this;exact this H'' W''
theorem Hs.runRL (N:Nat) (ge:List Nat) (k j:Nat) (hj: ∀ν,Nat.beq (runR P n (β++ν) N ge k m).hp.length (β.length+j)=true) (h: ∀ν:List Nat,ν.length=j->Hs P f R n w0 L (β++ν) (runR P n (β++ν) N ge k m)):Hs P f R n w0 L β m:=
 ⟨fun w H W=>YG (N:=N) (ge:=ge) k β m w H W fun ν w' H' W'=>(h ν (by
  have h1:=H'.len;have h2:=Nat.eq_of_beq_eq_true (hj ν);rw[h2,zE] at h1;omega)).go w' H' W'⟩
theorem Hs.runR0 (N:Nat) (ge:List Nat) (k:Nat) (hj: ∀ν,Nat.beq (runR P n (β++ν) N ge k m).hp.length (β.length+0)=true) (h:Hs P f R n w0 L β (runR P n β N ge k m)):Hs P f R n w0 L β m:=
 Hs.runRL N ge k 0 hj fun ν hν=>by
  have e:=List.length_eq_zero_iff.1 hν;subst e;rw[qN];exact h
section
variable {α:Type} {cf:α -> List Value} {tS E size bytes:Nat}
theorem Hs.takeIdx (j:Nat) (ht:ElemT P tS E size bytes) {rd:List Nat} {b off len c i:Nat} (hi:i<len) (hs:YJ j n β m=some (GK (Instr.indexAt tS (.slice (some ⟨b,off,none⟩) len c) (.int .i64 i)),rd)) (h:Hs P f R n w0 L β (VD j (.c (.v (.pointer (some ⟨b,off+i*size,none⟩)))) m)):Hs P f R n w0 L β m:=
 Hs.takeV j (.c (.v (.pointer (some ⟨b,off+i*size,none⟩)))) hs rfl (fun w _=>run_idx ht hi w) h
end
end
section
variable {P:Program} {f:FuncId} {R:Ending -> World -> Prop} {n:Nat} {w0:World} {L:List Nat} {β:List Nat} {m:SM}
variable {α:Type} {cf:α -> List Value} {tS E size bytes:Nat} {w w1:World} {A:Option Addr} {l:List α}
end
section
variable {P:Program} {f:FuncId} {R:Ending -> World -> Prop} {n:Nat} {w0:World} {L:List Nat} {β:List Nat} {m:SM}
end
section
variable (P:Program)
end
section
variable {P:Program}
variable {f:FuncId} {R:Ending -> World -> Prop} {n:Nat} {w0:World} {L:List Nat} {β:List Nat} {m:SM}
end
section
variable {P:Program} {f:FuncId} {R:Ending -> World -> Prop} {n:Nat} {w0:World} {L:List Nat} {β:List Nat} {m:SM}
def pureV (P:Program) (n:Nat) (β:List Nat) (m:SM):Option Value:=match DO n β m with
 |some s=>match JR P s with
  |some (.value v)=>some v
  |_=>none
 |none=>none
theorem Hs.pure (v:SV) (hs:pureV P n β m=some (v.den β)) (hv:v.wf m.hp.length=true) (k:Hs P f R n w0 L β (m.put (BD m) v m.hp)):Hs P f R n w0 L β m:=by
 unfold pureV at hs;split at hs
 ·rename_i s hm;split at hs
  ·rename_i x hx;injection hs with hs;subst hs;exact Hs.opN v hm hv (fun w _=>HF P _ _ hx w) k
  ·cases hs
 ·cases hs
end
theorem BY {i n:Nat} (hn:n<=maxLen) (h:i<n:=by assumption):Value.int .i64 (IntKind.i64.wrap ((i:Int)+1))=(SV.c (.v (.int .i64 (i+1:Nat)))).den []:=by
 show Value.int .i64 _=Value.int .i64 _;rw[IntWalk.i64_in _ (by unfold maxLen at hn;omega)];rfl
section
variable {P:Program} {f:FuncId} {R:Ending -> World -> Prop} {n:Nat} {w0:World} {L:List Nat} {β:List Nat} {m:SM}
variable {α:Type} {cf:α -> List Value} {E size:Nat}
end
def DE (w:World) (L:List Nat) (Q:World->Prop):Prop:=∀w',Only L w w'->Q w'
section
variable {w w0 w1 w2 w':World} {L L1 L' β:List Nat} {hp:List HB} {g:Nat} {Q Q' Q'' F:World -> Prop}
theorem DE.at (h:DE w L Q):Q w:=h w (Only.refl L w)
theorem DE.mono (h:DE w L Q) (hs: ∀x∈L',x∈L):DE w L' Q:=fun w' O=>h w' (O.mono hs)
theorem DE.go (h:DE w L Q) (O:Only L w w'):DE w' L Q:=fun w2 O2=>h w2 (O.trans O2 (fun x hx=>.inl hx))
structure Cx (w : World) (g : Nat) (D0 : World -> Prop) (w1 : World) (L1 : List Nat) (D1 : World -> Prop) : Prop where
  back : Back w [g] w1 L1
  mem : ∀ x ∈ L1, x = g \/ w.heap.size <= x
  has : g ∈ L1
  size : w.heap.size <= w1.heap.size
  old : g < w.heap.size
  k0 : DE w [g] D0
  keep : ∀ L : List Nat, (∀ x ∈ L, x < w.heap.size) -> g ∈ L -> DE w L D0 -> DE w1 (L ++ L1) D1
variable {D0 D1 D2:World -> Prop}
section
variable {α:Type} {cf:α -> List Value} {E size:Nat}
end
end
def cu8 (x:Int):List Value:=[.int .u8 x]
theorem BT (x:Int):(cu8 x).length=1:=rfl
theorem IL (x:Int): ∀u∈cu8 x,u.oneCell'=true:=by
 intro u hu;simp only[cu8,qS] at hu;subst hu;rfl
theorem CY:ElemT Tryz.prog 30 5 1 (Tryz.prog.bytesOf 5):=IZ (z:=.int .u8 0) (by kernel_rfl) (by kernel_rfl) (by decide) (by decide)
theorem by_u8:Tryz.prog.bytesOf 5=1:=by kernel_rfl
theorem u8_cell {w:World} {b off i:Nat} {l:List Int} {x:Int} (hr:RdX cu8 w (some ⟨b,off,none⟩) l) (hx:l[i]? = some x):w.cell? ⟨b,off+i*1,none⟩=some (.int .u8 x):=by
 have:=ES BT hr hx (j:=0) (v:=.int .u8 x) rfl;exact this
theorem NC {w:World} {A:Option Addr} {l:List Int} (h:Rd w A l):RdX cu8 w A l:=fun h0=>by
 obtain⟨b,off,e,hb,hc⟩:=h h0;refine⟨b,off,e,hb,fun j u hj=>?_⟩;have hl:l.flatMap cu8=l.map (.int .u8):=by
  clear h h0 hc hj;induction l with
  |nil=>rfl
  |cons x l ih=>simp only[qG,ih];rfl
 rw[hl,List.getElem?_map] at hj;cases hx:l[j]? with
 |none=>rw[hx] at hj;cases hj
 |some x=>rw[hx] at hj;injection hj with hj;subst hj;exact hc j x hx
theorem UI {n:Nat} (h:n<=140737488355328):n*Tryz.prog.bytesOf 5<=140737488355328:=by
 have e:Tryz.prog.bytesOf 5=1:=by kernel_rfl
 rw[e];omega
def EI (n:Int):Bool:=decide (n>=1)&&decide (n<=33792)
theorem aH (n:Int) (w:World):Calls Tryz.prog 58 #[.int .i64 n] w fun e w'=>e = .returned (.bool (EI n))/\Only [] w w':=by
 refine Hs.en Tryz.func58 [] [] [] [.c (.v (.int .i64 n))] (Mem.start0 w) ?_;refine Hs.e0 ?_;refine Hs.bool 5 (decide (n>=1)) (by kernel_rfl) (fun h=>?_) (fun h=>?_)
 ·refine Hs.eg [2] ?_;exact Hs.rt (v:=.bool (decide (n<=33792))) Tryz.func58 fun w' H=>⟨by unfold EI;rw[h];rfl,H.only⟩
 ·refine Hs.eg [2] ?_;exact Hs.rt (v:=.bool false) Tryz.func58 fun w' H=>⟨by unfold EI;rw[h];rfl,H.only⟩
def JQ (n:Nat):List Int:=[(n/16777216 % 256:Nat),(n/65536 % 256:Nat),(n/256 % 256:Nat),(n % 256:Nat)]
theorem len4_eq (N:Nat):[Value.int .u8 (IntKind.u8.wrap ((N:Int).fdiv (2 ^ min (Int.toNat 24) IntKind.i64.bits))),.int .u8 (IntKind.u8.wrap ((N:Int).fdiv (2 ^ min (Int.toNat 16) IntKind.i64.bits))),.int .u8 (IntKind.u8.wrap ((N:Int).fdiv (2 ^ min (Int.toNat 8) IntKind.i64.bits))),.int .u8 (IntKind.u8.wrap (N:Int))]=(JQ N).flatMap cu8:=by
 have k24:(2:Int) ^ min (Int.toNat 24) IntKind.i64.bits=16777216:=by decide
 have k16:(2:Int) ^ min (Int.toNat 16) IntKind.i64.bits=65536:=by decide
 have k8:(2:Int) ^ min (Int.toNat 8) IntKind.i64.bits=256:=by decide
 rw[k24,k16,k8,Int.fdiv_eq_ediv_of_nonneg _ (by decide),Int.fdiv_eq_ediv_of_nonneg _ (by decide),Int.fdiv_eq_ediv_of_nonneg _ (by decide),IntKind.wrap_u8,IntKind.wrap_u8,IntKind.wrap_u8,IntKind.wrap_u8];unfold JQ cu8;simp
theorem RO (l:List Int) (N:Nat) (hN:l.length=N) (A:Option Addr) (c:Nat) (w:World) (hr:RdX cu8 w A l):Calls Tryz.prog 32 #[.slice A N c] w fun e w'=>∃x:Option Addr×Nat,Only [] w w'/\if EI N then e = .returned (.tuple #[.slice x.1 (4+N) x.2,.int .i64 0])/\AN cu8 5 1 w' w.heap.size (.slice x.1 (4+N) x.2) (JQ N++l) else e = .returned (.tuple #[.slice none 0 0,.int .i64 5]):=by
 refine Hs.en Tryz.func32 [] [] [] [.c (.v (.slice A N c))] (Mem.start0 w) ?_;refine Hs.e0 ?_;refine Hs.cV (fun w' H=>aH N w') ?_;refine Hs.e0 ?_;refine Hs.cn (!EI N) (fun h=>?_) (fun h=>?_)
 ·have h:EI N=false:=by simpa using h
  refine Hs.e0 ?_;exact Hs.rt (v:=.tuple #[.slice none 0 0,.int .i64 5]) Tryz.func32 fun w' H=>⟨(none,0),H.only,by rw[h];rfl⟩
 have h:EI N=true:=by simpa using h
 refine Hs.e1 fun b0=>?_;have hNs:N<=33792:=by unfold EI at h;simp at h;omega
 refine Hs.litN (cf:=cu8) (ty:=30) (c:=c) (cs:=[.v (.int .u8 (IntKind.u8.wrap ((N:Int).fdiv (2 ^ min (Int.toNat 24) IntKind.i64.bits)))),.v (.int .u8 (IntKind.u8.wrap ((N:Int).fdiv (2 ^ min (Int.toNat 16) IntKind.i64.bits)))),.v (.int .u8 (IntKind.u8.wrap ((N:Int).fdiv (2 ^ min (Int.toNat 8) IntKind.i64.bits)))),.v (.int .u8 (IntKind.u8.wrap (N:Int)))]) 0 CY (JQ N) l 4 N rfl hN IL BT (B:=A) (by kernel_rfl) (by kernel_rfl) (len4_eq N) (by kernel_rfl) (fun w' H=>hr.only H.only) (by unfold maxLen;omega) (UI (by omega)) fun A' c' g1 g2=>?_;refine Hs.e0 ?_;exact Hs.rt (v:=.tuple #[.slice A' (4+N) c',.int .i64 0]) Tryz.func32 fun w' H=>⟨(A',c'),H.only,by rw[h];exact⟨rfl,H.fresh 0 (by rw[zE,hN];rfl) (by kernel_rfl)⟩⟩
section
variable {α:Type} {cf:α -> List Value} {size:Nat}
theorem rdX_stq {A:Option Addr} {l:List α} (w w':World) (h1: ∀a,A=some a->w'.heap[a.block]? = w.heap[a.block]?) (h2:w.heap.size<=w'.heap.size) (h:RdX cf w A l):RdX cf w' A l:=fun h0=>by
 obtain⟨b,off,e,hb,hc⟩:=h h0;refine⟨b,off,e,by omega,fun j u hj=>?_⟩;rw[<-hc j u hj];exact World.cell?_of_block (w:=w) (w':=w') (h1 ⟨b,off,none⟩ e)
def HB.rdx (cf:α->List Value) (A:Option Addr) (l:List α):HB:=.q false A (fun w=>RdX cf w A l) rdX_stq
variable {P:Program} {f:FuncId} {R:Ending -> World -> Prop} {n:Nat} {w0:World} {L:List Nat} {β:List Nat} {m:SM}
theorem Hs.takeLdR (j k:Nat) (hcl: ∀x,(cf x).length=size) {E':Nat} {rd:List Nat} {b off i q:Nat} {l:List α} {x:α} (u:Value) (hs:YJ j n β m=some (GK (Instr.loadAt E' (.pointer (some ⟨b,off+i*size+q,none⟩))),rd)) (hk:m.hp[k]? = some (HB.rdx cf (some ⟨b,off,none⟩) l)) (hkr:rd.contains k=true) (hx:l[i]? = some x) (hq:(cf x)[q]? = some u) (ha:aggB P E'=some false)
  (h:Hs P f R n w0 L β (VD j (.c (.v u)) m)):Hs P f R n w0 L β m:=
 Hs.takeV j (.c (.v u)) hs rfl (fun w hI=>by
  have hl:(HB.rdx cf (some ⟨b,off,none⟩) l).lies w β (nm β k):=hI k (by simpa using hkr) _ hk;have hr:RdX cf w (some ⟨b,off,none⟩) l:=hl.1;exact run_ldc ha (ES hcl hr hx hq)) h
theorem Mem.rdOneX {w:World} {b off:Nat} {l:List α} (h:RdX cf w (some ⟨b,off,none⟩) l) (hb:b<w.heap.size):Mem w [] [0] [HB.rdx cf (some ⟨b,off,none⟩) l] w:=
 Mem.start _ _ _ _ rfl (fun k x hk=>by
  cases k with
  |zero=>
   simp at hk;subst hk;exact⟨h,fun a ha=>by injection ha with ha;subst ha;exact hb⟩
  |succ k=>simp at hk) (fun k x y hk hw hx=>by
  cases k with
  |zero=>simp at hk;subst hk;cases hw
  |succ k=>simp at hk) (fun i j hi hj x ei ej _ _=>by
  cases i with
  |succ i=>simp at ei
  |zero=>
   cases j with
   |succ j=>simp at ej
   |zero=>rfl)
end
end Go.Proofs.YtfbhemmpobgdpaaGreatDoor
