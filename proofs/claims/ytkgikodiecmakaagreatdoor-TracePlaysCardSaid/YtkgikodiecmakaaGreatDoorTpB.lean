/- TracePlays: lemmas, from 'Slices whose elements take one cell, read' on; what each asks for stands in it. -/
import Derived.Test.YtkgikodiecmakaaGreatDoorTpA
import Derived.Deep.Fields
import Derived.Deep.Slices
import Derived.SizedLaws
import Derived.Deep.Strs
import Derived.OpenShut
import Derived.Lib.Walk
import Derived.Sort.Row
import Derived.Lib.Strings
import Derived.Sort.LotA
import Derived.WalkKit
import Derived.BigGuard
import Derived.BigCall
import Derived.CellFam
import Derived.Deep.Draws
import Derived.Deep.QuietTactic
import Derived.BigQuiet
import Derived.Deep.LoopGhost
import Derived.Test.YtkgikodiecmakaaGreatDoorShelf
import Derived.Lib.BitFns
import Derived.Sort.LotD3
import Derived.Deep.RegionWith
import Derived.RowKit
import Derived.Sort.WalkA6
set_option linter.all false
set_option maxRecDepth 100000
set_option maxHeartbeats 64000000
namespace Go.Proofs.YtkgikodiecmakaaGreatDoor
open Go.RowKit
def RdG {α:Type} (mk:α→Value) (w:World) (A:Option Addr) (l:List α):Prop:=
 0<l.length→∃b off,A=some ⟨b,off,none⟩∧b<w.heap.size∧∀i x,l[i]? = some x→w.cell? ⟨b,off+i,none⟩=some (mk x)
section
variable {α : Type} {mk : α → Value} {w w' : World} {A : Option Addr} {l : List α}
theorem RdG.onlyL {L:List Nat} (h:RdG mk w A l) (hb:Only L w w') (hL: ∀a,A=some a→0<l.length→a.block∉L):RdG mk w' A l:=by
 intro h0;obtain⟨b,off,rfl,hlt,hc⟩:=h h0;exact⟨b,off,rfl,Nat.lt_of_lt_of_le hlt hb.size,fun i v hi=>(World.cell?_of_block (w:=w) (hb.block b hlt (hL _ rfl h0))).trans (hc i v hi)⟩
theorem RdG.only (h:RdG mk w A l) (hb:Only [] w w'):RdG mk w' A l:=h.onlyL hb (fun _ _ _=>by simp)
theorem RdG.nil:RdG mk w A []:=fun h=>absurd h (Nat.lt_irrefl _)
theorem RdG.lt (h:RdG mk w A l) (h0:0<l.length): ∀a,A=some a→a.block<w.heap.size:=by
 intro a ha;obtain⟨b,off,e,hb,_⟩:=h h0;rw[ha] at e;injection e with e;rw[e];exact hb
theorem RdG.take (h:RdG mk w A l) (k:Nat):RdG mk w A (l.take k):=by
 intro h0;obtain⟨b,off,rfl,hlt,hc⟩:=h (by simp at h0;omega);refine⟨b,off,rfl,hlt,fun i v hi=>hc i v ?_⟩;rw[List.getElem?_take] at hi;split at hi;·exact hi
 ·cases hi
theorem RdG.drop (h:RdG mk w A l) (k:Nat):RdG mk w (Option.map (fun x=>x.add k) A) (l.drop k):=by
 intro h0;obtain⟨b,off,rfl,hlt,hc⟩:=h (by simp at h0;omega);refine⟨b,off+k,by simp[Addr.add_lit],hlt,fun i v hi=>?_⟩;rw[List.getElem?_drop] at hi;rw[Nat.add_assoc];exact hc _ _ hi
theorem RdG.at (h:RdG mk w A l) (k:Nat) (hk:k<l.length): ∃b off x,A=some ⟨b,off,none⟩∧b<w.heap.size∧l[k]? = some x∧w.cell? ⟨b,off+k,none⟩=some (mk x):=by
 obtain⟨b,off,rfl,hlt,hc⟩:=h (by omega);have hx:l[k]? = some (l[k]'hk):=List.getElem?_eq_getElem hk;exact⟨b,off,_,rfl,hlt,hx,hc k _ hx⟩
end
abbrev RdI:=RdG (Value.int .i64)
abbrev RdS:=RdG Value.string
theorem CX {α:Type} {l:List α} {k:Nat} {x:α} (h:l[k]? = some x):l.take (k+1)=l.take k++[x]:=by rw[List.take_add_one,h];rfl
structure ElemT (P : Program) (tS E : TypeId) (size bytes : Nat) : Prop where
  ht : P.underlying tS = some (.slice E)
  info : ∃ (i : TypeInfo) (z : Value), P.info? E = some i ∧ i.zero = some z ∧ i.size = size ∧ i.bytes = bytes ∧ z.cells.size = size
  pos : 0 < size
theorem IN {P:Program} {tS E:TypeId} {size bytes:Nat} {z:Value} (ht:P.underlying tS=some (.slice E)) (hi:(P.info? E).map (fun i=>(i.zero,i.size,i.bytes))=some (some z,size,bytes)) (hz:z.cells.size=size) (hp:0<size):ElemT P tS E size bytes:=by
 obtain⟨i0,h1,h2,h3,h4⟩:=info_parts hi;exact⟨ht,⟨i0,z,h1,h2,h3,h4,hz⟩,hp⟩
section
variable {α : Type}
def BK (cf:α→List Value) (E:TypeId) (size:Nat) (w:World) (base:Nat) (v:Value) (l:List α):Prop:=w.ownsRow base E size v l.length (l.flatMap cf)
def RdX (cf:α→List Value) (w:World) (A:Option Addr) (l:List α):Prop:=
 0<l.length→∃b off,A=some ⟨b,off,none⟩∧b<w.heap.size∧∀j u,(l.flatMap cf)[j]? = some u→w.cell? ⟨b,off+j,none⟩=some u
variable {cf : α → List Value} {E : TypeId} {size : Nat} {w w' : World} {base : Nat} {v : Value} {l : List α} {A : Option Addr}
theorem ownX_nil:BK cf E size w base (.slice none 0 0) []:=World.ownsRow_nil w base _ _
theorem BK.far {L:List Nat} (h:BK cf E size w base v l) (hb:Only L w w') (hL: ∀x∈L,some x≠v.ownBlock):BK cf E size w' base v l:=by
 rcases h with⟨h1,h2|⟨g,cap,cur,rfl,hg,hh,hr⟩⟩;·exact⟨h1,.inl h2⟩
 ·exact⟨h1,.inr ⟨g,cap,cur,rfl,hg,(hb.block g (Array.getElem?_eq_some_iff.1 hh).1 (fun hm=>hL g hm rfl)).trans hh,hr⟩⟩
theorem BK.only (h:BK cf E size w base v l) (hb:Only [] w w'):BK cf E size w' base v l:=h.far hb (fun x hx=>by simp at hx)
theorem BK.mono {base':Nat} (h:BK cf E size w base v l) (hb:base'≤base):BK cf E size w base' v l:=by
 rcases h with⟨h1,h2|⟨g,cap,cur,rfl,hg,hh⟩⟩;·exact⟨h1,.inl h2⟩
 ·exact⟨h1,.inr ⟨g,cap,cur,rfl,by omega,hh⟩⟩
theorem BK.block (h:BK cf E size w base v l): ∀k,v.ownBlock=some k→base≤k∧k<w.heap.size:=World.ownsRow.lt h
theorem BK.form (h:BK cf E size w base v l): ∃A cap,v = .slice A l.length cap∧l.length≤cap∧cap≤maxLen∧RdX cf w A l∧∀a,A=some a→base≤a.block∧a.block<w.heap.size∧v.ownBlock=some a.block:=by
 have hb:=h.block;rcases h with⟨h1,⟨rfl,hn⟩|⟨g,cap,cur,rfl,hg,hh,hc,hm,hs,ht⟩⟩;·exact⟨none,0,by rw[hn],by omega,by simp[maxLen],fun h0=>by omega,fun a ha=>by cases ha⟩
 ·refine⟨some ⟨g,0,none⟩,cap,rfl,hc,hm,fun _=>⟨g,0,rfl,(Array.getElem?_eq_some_iff.1 hh).1,fun j u hj=>?_⟩,fun a ha=>?_⟩
  ·have:=World.ownsRow.cells (w:=w) (base:=base) (e:=E) (size:=size) (n:=l.length) (xs:=l.flatMap cf) ⟨h1,.inr ⟨g,cap,cur,rfl,hg,hh,hc,hm,hs,ht⟩⟩ (g:=g) rfl j u hj;simpa[Addr.add_lit] using this
  ·injection ha with ha;subst ha;exact⟨(hb _ rfl).1,(hb _ rfl).2,rfl⟩
theorem RdX.only (h:RdX cf w A l) (hb:Only [] w w'):RdX cf w' A l:=fun h0=>by
 obtain⟨b,off,e,hlt,hc⟩:=h h0;exact⟨b,off,e,Nat.lt_of_lt_of_le hlt hb.size,fun j u hj=>(World.cell?_of_block (w:=w) (hb.block b hlt (by simp))).trans (hc j u hj)⟩
theorem rdX_nil:RdX cf w A []:=fun h=>absurd h (Nat.lt_irrefl _)
variable {P : Program} {tS : TypeId} {bytes : Nat}
theorem OG (ht:ElemT P tS E size bytes) (ty:TypeId) (hone: ∀x,∀u∈cf x,u.oneCell'=true) (hown:BK cf E size w base v l) (A:Option Addr) (c:Nat) (gs:List α) (hgl:(gs.flatMap cf).length=gs.length*size) (hr:RdX cf w A gs)
  (hlen:l.length+gs.length≤maxLen) (hby:(l.length+gs.length)*bytes≤140737488355328) (hbase:base≤w.heap.size) :
  ∃v' w',(Builtin.append_ #[tS,tS] ty #[v,.slice A gs.length c]).run P w = .ok v' w'∧BK cf E size w' base v' (l++gs)∧Only v.ownBlock.toList w w'∧MC v v' w.heap.size:=by
 obtain⟨hu,⟨i0,z,hi,hz0,hz1,hz2,hzs⟩,hpos⟩:=ht;by_cases h0:0<gs.length
 ·obtain⟨b,off,rfl,hb,hc⟩:=hr h0;have hn: ∀j u,(gs.flatMap cf)[j]? = some u→w.cell? ((⟨b,off,none⟩:Addr).add j)=some u:=fun j u hj=>by rw[Addr.add_lit];exact hc j u hj
  have h1c: ∀u∈gs.flatMap cf,u.oneCell'=true:=fun u hu=>by
   obtain⟨x,_,hx⟩:=List.mem_flatMap.1 hu;exact hone x u hx
  obtain⟨v',w',e,h1,h2,h3⟩:=run_append_own (P:=P) w base tS ty E i0 z size bytes hu hi hz0 hz1 hz2 hzs hpos v l.length (l.flatMap cf) hown ⟨b,off,none⟩ gs.length c (gs.flatMap cf) hgl hn h1c hlen hby hbase;have hwh:v'.ownBlock=v.ownBlock∨v'.ownBlock=some w.heap.size:=by
   have hle:(l.length+gs.length)*i0.bytes≤140737488355328:=by rw[hz2];exact hby
   have hlm:((l.length+gs.length:Nat):Int)≤9223372036854775807:=by unfold maxLen at hlen;omega
   rcases hown.2 with⟨rfl,hn0⟩|⟨g,cap,cur,rfl,hg,hh,hc2,hm,hs,htk⟩
   ·have:=run_append_nil (P:=P) w tS ty E i0 z hu hi hz0 ⟨b,off,none⟩ gs.length c (gs.flatMap cf) (by rw[hz1];exact hgl) hn h0 (by omega) (by rw[hn0,Nat.zero_add] at hle;omega);rw[this] at e;injection e with e1 e2;right;rw[←e1];rfl
   ·by_cases hroom:l.length+gs.length≤cap
    ·obtain⟨w2,e2,_⟩:=run_append_fits (P:=P) w base tS ty E i0 size hu hi hz1 g l.length cap (l.flatMap cf) hown ⟨b,off,none⟩ gs.length c (gs.flatMap cf) hgl hn h1c hroom;rw[e2] at e;injection e with e1 _;left;rw[←e1];rfl
    ·have holds: ∀j u,(l.flatMap cf)[j]? = some u→w.cell? ((⟨g,0,none⟩:Addr).add j)=some u:=World.ownsRow.cells hown (g:=g) rfl;have:=run_append_grow (P:=P) w tS ty E i0 z hu hi hz0 ⟨g,0,none⟩ l.length cap (l.flatMap cf) (by rw[hz1];exact hown.1) holds ⟨b,off,none⟩ gs.length c (gs.flatMap cf) (by rw[hz1];exact hgl) hn (by omega) (by omega) (growslice_fits (by omega) (by omega));rw[this] at e;injection e with e1 _;right;rw[←e1];rfl
  exact⟨v',w',e,by show World.ownsRow _ _ _ _ _ _ _;simpa[List.flatMap_append] using h1,FJ h2,hwh⟩
 ·have e0:gs=[]:=List.eq_nil_of_length_eq_zero (by omega);subst e0;refine⟨v,w,?_,by rw[List.append_nil];exact hown,Only.refl _ _,.inl rfl⟩;have hf: ∀w':World,(Builtin.firstCells size 0 (.slice A 0 c)).run P w' = .ok #[] w':=by
   intro w';cases A<;>simp[Builtin.firstCells,loadCells,loadCellsFrom]
  rcases hown.2 with⟨rfl,hn⟩|⟨g,cap,cur,rfl,_,_,hnc,_⟩;·cases A<;>simp[Builtin.append_,run_underlying hu,sizeOf,typeInfo,hi,hz1,Builtin.lenOf,hf]
  ·cases A<;>simp[Builtin.append_,run_underlying hu,sizeOf,typeInfo,hi,hz1,Builtin.lenOf,hf,hnc,storeCells]
theorem CU {o:Oper} {a:Act} {K:Act→World→Prop} {Q:Exit→Act→World→Prop} (s x:Operand)
  (ht:ElemT P tS E size bytes) (ho:o.op = .call { callee:=.builtin .append,args:=#[s,x],argTypes:=#[tS,tS] })
  (hone: ∀x,∀u∈cf x,u.oneCell'=true) (hcl: ∀x,(cf x).length=size) (hs:a.eval s=v) (hown:BK cf E size w base v l) (A:Option Addr) (c:Nat) (gs:List α) (n:Nat) (hn:gs.length=n) (hx:a.eval x = .slice A n c) (hr:RdX cf w A gs)
  (hlen:l.length+gs.length≤maxLen) (hby:(l.length+gs.length)*bytes≤140737488355328) (hbase:base≤w.heap.size)
  (h: ∀v' w',Hid (BK cf E size w' base v' (l++gs))→Only v.ownBlock.toList w w'→Hid (MC v v' w.heap.size)→K (a.put o.dst v') w'):o.wp P a w K Q:=by
 subst hn;have hgl:(gs.flatMap cf).length=gs.length*size:=by
  clear hx hr hlen hby h;induction gs with
  |nil=>simp
  |cons a gs ih=>rw[List.flatMap_cons,List.length_append,ih,hcl,List.length_cons,Nat.succ_mul];omega
 obtain⟨v',w',hrun,h1,h2,h3⟩:=OG ht o.type hone hown A c gs hgl hr hlen hby hbase;unfold Oper.wp execOp;simp only[ho,resolve,invoke,builtin,Sem.run_bind,Sem.run_pure,Result.andThen_ok,List.map_toArray,List.map_cons,List.map_nil,hs,hx,hrun];exact h v' w' h1 h2 h3
end
def U32 (n:Int):Prop:=0≤n∧n≤4294967295
end Go.Proofs.YtkgikodiecmakaaGreatDoor
namespace Go.Proofs.YtkgikodiecmakaaGreatDoor
open Go.ChangeShapes Go.WideShapes Go.ChangeAt Go.RowKit Go.Deep
section
variable {H : Type} {enc : TypeId × Value → H} {P : Program} {w : World} {base : Nat} {spare : Nat → Bool} {held : Bool}
theorem agg_int {k:IntKind} {n:Nat} {t:TypeId} {c:Value} {y:DataW H×List MemPlace} (ht:P.underlying t=some (.int k)) (h:DataW.trod enc P w base spare held n t [c]=some y): ∃a,c = .int k a∧(Lit.int k a).wf=true:=by
 obtain⟨a,e,_,wa⟩:=DataW.trod_int ht h;exact⟨a,by simpa using e,wa⟩
theorem agg_boolP {n:Nat} {t:TypeId} {c:Value} {y:DataW H×List MemPlace} (ht:P.underlying t=some .bool) (h:DataW.trod enc P w base spare held n t [c]=some y): ∃b:Bool,c = .bool b:=by
 obtain⟨b,h1,_⟩:=DataW.trod_bool ht h;exact⟨b,by simpa using h1⟩
theorem list_of {α:Type} {p:Nat→α→Prop}: ∀n,(∀i,i<n→∃x,p i x)→∃l:List α,l.length=n∧∀i x,l[i]? = some x→p i x
 |0,_=>⟨[],rfl,fun i x h=>by simp at h⟩
 |n+1,h=>by
  obtain⟨l,hl,hp⟩:=list_of n fun i hi=>h i (by omega);obtain⟨x,hx⟩:=h n (by omega);refine⟨l++[x],by simp[hl],fun i y hy=>?_⟩;rcases Nat.lt_or_ge i l.length with h1|h1;·rw[List.getElem?_append_left h1] at hy;exact hp i y hy
  ·rw[List.getElem?_append_right h1] at hy;have h2:i-l.length=0:=by
    rcases Nat.eq_zero_or_pos (i-l.length) with h2|h2;·exact h2
    ·rw[List.getElem?_eq_none (by simp;omega)] at hy;cases hy
   rw[h2] at hy;simp at hy;subst hy;have e:i=n:=by omega
   rw[e];exact hx
end
end Go.Proofs.YtkgikodiecmakaaGreatDoor
namespace Go.Proofs.YtkgikodiecmakaaGreatDoor
open Go.ChangeShapes Go.WideShapes Go.ChangeAt Go.RowKit Go.Deep
section
variable {H : Type} {enc : TypeId × Value → H} {P : Program} {w : World} {base : Nat} {spare : Nat → Bool} {held : Bool}
end
end Go.Proofs.YtkgikodiecmakaaGreatDoor
namespace Go.Proofs.YtkgikodiecmakaaGreatDoor
open Go.ChangeShapes Go.WideShapes Go.ChangeAt Go.RowKit Go.Deep
section
variable {H : Type} {enc : TypeId × Value → H} {P : Program} {w : World} {base : Nat} {spare : Nat → Bool} {held : Bool} {R : Nat}
def EA (enc:TypeId×Value→H) (P:Program) (w:World) (base:Nat) (spare:Nat→Bool) (held:Bool) (R n:Nat) (t:TypeId) (l:List Value):Prop:=
 ∃y,DataW.trod enc P w base spare held n t l=some y∧∀k∈y.1.weights P t,k≤R
theorem bU {e:TypeId}: ∀{ds:List (DataW H)} {d:DataW H},d∈ds→∀n∈d.weights P e,n∈DataW.weightsAll P e ds
 |[],_,h,_,_=>by cases h
 |x::r,d,h,n,hn=>by
  simp only[DataW.weightsAll,List.mem_append];rcases List.mem_cons.1 h with rfl|h;·exact .inl hn
  ·exact .inr (bU h n hn)
def XA (enc:TypeId×Value→H) (P:Program) (w:World) (base:Nat) (spare:Nat→Bool) (held:Bool) (R n:Nat) (fs:Array Field) (l:List Value):Prop:=
 ∀(j:Nat) (f:Field),fs[j]? = some f→EA enc P w base spare held R n f.type ((l.drop f.offset).take (P.cellsOf f.type))
theorem EA.fields {n:Nat} {t:TypeId} {fs:Array Field} {l:List Value} (hs:P.underlying t=some (.struct fs)) (h:EA enc P w base spare held R n t l): ∃n',XA enc P w base spare held R n' fs l:=by
 obtain⟨y,h,hW⟩:=h;obtain⟨ys,n',_,hx,_,hyl,hg⟩:=DataW.trod_struct hs h;refine⟨n',fun j f hj=>?_⟩;have hjl:j<fs.size:=(Array.getElem?_eq_some_iff.1 hj).1;have hjy:j<ys.length:=by omega
 refine⟨ys[j],(hg j f hj).trans (List.getElem?_eq_getElem hjy),fun q hq=>hW q ?_⟩;subst hx;simp only[DataW.weights,hs];exact DataW.weights_mem_each (j:=j) (t:=f.type) (d:=(ys[j]).1) (by simp[hj]) (by simp[hjy]) q hq
theorem XA.at_ {n:Nat} {fs:Array Field} {l l':List Value} (h:XA enc P w base spare held R n fs l) (j:Nat) (T:TypeId) (off k:Nat) (f:Field) (hj:fs[j]? = some f) (hT:f.type=T) (ho:f.offset=off) (hk:P.cellsOf T=k) (hl:(l.drop off).take k=l'):EA enc P w base spare held R n T l':=by
 have hy:=h j f hj;rw[hT,ho,hk,hl] at hy;exact hy
theorem EA.int {k:IntKind} {n:Nat} {t:TypeId} {c:Value} (ht:P.underlying t=some (.int k)) (h:EA enc P w base spare held R n t [c]): ∃a,c = .int k a∧(Lit.int k a).wf=true:=by
 obtain⟨y,h,_⟩:=h;exact agg_int ht h
theorem EA.bool {n:Nat} {t:TypeId} {c:Value} (ht:P.underlying t=some .bool) (h:EA enc P w base spare held R n t [c]): ∃b:Bool,c = .bool b:=by
 obtain⟨y,h,_⟩:=h;exact agg_boolP ht h
theorem EA.str {n:Nat} {t:TypeId} {c:Value} (ht:P.underlying t=some .string) (h:EA enc P w base spare held R n t [c]): ∃s:ByteArray,c = .string s∧s.size≤maxLen∧s.size≤R:=by
 obtain⟨y,h,hW⟩:=h;obtain⟨s,h1,h2,h3⟩:=DataW.trod_string ht h;refine⟨s,by simpa using h1,h3,?_⟩;subst h2;have:=hW s.data.toList.length (by simp[DataW.weights]);have e:s.data.toList.length=s.size:=by rw[Array.length_toList];rfl
 rw[e] at this;exact this
theorem EA.slice {α:Type} {cf:α→List Value} {ok:α→Prop} {t e:TypeId} {size:Nat} {n0:Nat} {v:Value} (ht:P.underlying t=some (.slice e)) (hC:P.cellsOf e=size) (h0:0<size) (hcl: ∀x,(cf x).length=size)
  (hel: ∀(n:Nat) (l:List Value),l.length=size→EA enc P w base spare held R n e l→∃x:α,l=cf x∧ok x)
  (h:EA enc P w base spare held R n0 t [v]): ∃(A:Option Addr) (l:List α) (cap:Nat),v = .slice A l.length cap∧l.length≤cap∧cap≤maxLen∧RdX cf w A l∧(∀x∈l,ok x)∧l.length*P.bytesOf e≤R:=by
 obtain⟨y0,h,hW⟩:=h;rcases open_slice ht h with⟨hcs,_⟩|⟨a,len,cap,m,n,D,Pl,hcs,_,hlc,hm,hmm,hx,hi⟩
 ·simp at hcs;subst hcs;exact⟨none,[],0,rfl,Nat.le_refl _,Nat.zero_le _,rdX_nil,(fun x hx=>by cases hx),by simp⟩
 ·simp at hcs;subst hcs;have hlm:len≤m:=by rw[hmm];split<;>omega
  subst hx;have hlw:len*P.bytesOf e≤R:=by
   have h1:=hW (((List.range len).map D).length*P.bytesOf e+((List.range (m-len)).map fun j=>D (len+j)).length*P.bytesOf e) (by
    simp only[DataW.weights,ht];rw[←Nat.add_mul];exact List.mem_cons_self)
   simp only[List.length_map,List.length_range] at h1;exact Nat.le_trans (Nat.le_add_right _ _) h1
  obtain⟨xs,hxl,hx⟩:=list_of (p:=fun i (x:α)=>ok x∧∀j u,(cf x)[j]? = some u→w.cell? (a.add (i*size+j))=some u) len (fun i hi1=>by
   obtain⟨cs',hc,ht'⟩:=hi i (by omega);obtain⟨_,hcl',hat⟩:=World.cells?_some hc;rw[hC] at hcl' hat;obtain⟨x,rfl,hok⟩:=hel _ _ hcl' ⟨_,ht',fun k hk=>hW k (by
    simp only[DataW.weights,ht,List.mem_cons,List.mem_append];exact .inr (.inl (bU (List.mem_map.2 ⟨i,List.mem_range.2 hi1,rfl⟩) k hk)))⟩
   refine⟨x,hok,fun j u hu=>?_⟩;have hj:j<size:=by have:=(List.getElem?_eq_some_iff.1 hu).1;omega
   rw[←Go.Deep.add_add];exact(hat j hj).trans hu)
  subst hxl;refine⟨some a,xs,cap,rfl,hlc,hm,fun hl0=>?_,fun x hx1=>?_,hlw⟩
  ·have h00: ∃u,w.cell? (a.add 0)=some u:=by
    have hx0:=hx 0 (xs[0]'hl0) (List.getElem?_eq_getElem hl0);have h1:(cf (xs[0]'hl0))[0]? = some ((cf (xs[0]'hl0))[0]'(by rw[hcl];exact h0)):=List.getElem?_eq_getElem _;exact⟨_,by simpa using hx0.2 0 _ h1⟩
   obtain⟨u0,hu0⟩:=h00;have hadd0:a.add 0=a:=by unfold Addr.add;simp
   rw[hadd0] at hu0;have hs:a.spot=none:=by
    unfold World.cell? at hu0;split at hu0
    ·split at hu0;·cases hu0
     ·rename_i h1;simpa using h1
    ·cases hu0
   obtain⟨b,off,sp⟩:=a;simp at hs;subst hs;refine⟨b,off,rfl,World.block_lt_of_cell? w _ hu0,fun j u hu=>?_⟩;have key: ∀(l:List α) (j:Nat) (u:Value),(l.flatMap cf)[j]? = some u→∃i x k,l[i]? = some x∧(cf x)[k]? = some u∧j=i*size+k:=by
    intro l;induction l with
    |nil=>intro j u h;simp at h
    |cons y ys ih=>
     intro j u h;rw[List.flatMap_cons] at h;rcases Nat.lt_or_ge j (cf y).length with h1|h1
     ·rw[List.getElem?_append_left h1] at h;exact⟨0,y,j,rfl,h,by simp⟩
     ·rw[List.getElem?_append_right h1] at h;obtain⟨i,x,k,h2,h3,h4⟩:=ih _ _ h;refine⟨i+1,x,k,by simpa using h2,h3,?_⟩;rw[hcl] at h1 h4;rw[Nat.succ_mul];omega
   obtain⟨i,x,k,h2,h3,rfl⟩:=key xs j u hu;have:=(hx i x h2).2 k u h3;rw[Addr.add_mid] at this;exact this
  ·obtain⟨i,hi1⟩:=List.mem_iff_getElem?.1 hx1;exact(hx i x hi1).1
end
end Go.Proofs.YtkgikodiecmakaaGreatDoor
namespace Go.Proofs.YtkgikodiecmakaaGreatDoor
abbrev AJ : Int → Value := fun x => Value.int .u32 x
theorem Su.bits_Len (x : Int) (w : World) (h0 : 0 ≤ x) (h1 : x ≤ 18446744073709551615) : Calls Tryz.prog 54 #[.int .u64 x] w fun e w' => e = .returned (.int .i64 (Lib.bitLen x.toNat)) ∧ w' = w := Tryz.bits_Len x w h0 h1
end Go.Proofs.YtkgikodiecmakaaGreatDoor
namespace Go.Proofs.YtkgikodiecmakaaGreatDoor
open Go.Sort Go.RowKit Go.Lib
theorem Su.cmp_isNaN_int (x : Int) (w : World) : Calls Tryz.prog 100 #[.int .u32 x] w fun e w' => e = .returned (.bool false) ∧ w' = w := by
  go_enter Tryz.func100, Tryz.ntmps100
  go_wp2
  go_ret
  exact ⟨by simp, rfl⟩
theorem Su.cmp_Less_int (x y : Int) (w : World) : Calls Tryz.prog 65 #[.int .u32 x, .int .u32 y] w fun e w' => e = .returned (.bool (Sort.ltInt x y)) ∧ w' = w := by
  go_enter Tryz.func65, Tryz.ntmps65
  go_wp2_with (go_at_call 100; refine (Su.cmp_isNaN_int _ _).mono ?_; rintro e w' ⟨rfl, rfl⟩)
  go_ret
  exact ⟨rfl, rfl⟩
end Go.Proofs.YtkgikodiecmakaaGreatDoor
namespace Go.Proofs.YtkgikodiecmakaaGreatDoor
open Go.Sort Go.RowKit Go.Lib
open Go.RowKit Go.Sort
def intOf : Value → Int | .int _ q => q | _ => 0
section
variable {α : Type} [Inhabited α] (lt : α → α → Bool)
theorem aI (a j : Nat) (d : Array α) (hj : a < j) (hl : lt d[j]! d[j - 1]! = true) : insInner lt a j d = insInner lt a (j - 1) (swp d j (j - 1)) := by
  obtain ⟨k, rfl⟩ : ∃ k, j = k + 1 := ⟨j - 1, by omega⟩
  rw [insInner]
  simp only [Nat.add_sub_cancel] at hl ⊢
  simp [hj, hl]
theorem UR (a j : Nat) (d : Array α) (h : j ≤ a ∨ lt d[j]! d[j - 1]! = false) : insInner lt a j d = d := by
  cases j with
  | zero => rw [insInner]
  | succ k =>
    rw [insInner]
    simp only [Nat.add_sub_cancel] at h
    rcases h with h | h
    · simp [show ¬ k + 1 > a by omega]
    · simp [h]
theorem aJ (a b i : Nat) (d : Array α) (h : i < b) : insOuter lt a b i d = insOuter lt a b (i + 1) (insInner lt a i d) := by rw [insOuter, if_pos h]
theorem US (a b i : Nat) (d : Array α) (h : ¬ i < b) : insOuter lt a b i d = d := by rw [insOuter, if_neg h]
end
section
variable {α : Type} [Inhabited α] (enc : α → Value)
theorem BA (w : World) (m q blk off : Nat) (d : Array α) : (putRow enc (Sort.ahead w m) blk off d).drewN q = putRow enc (Sort.ahead w (m + q)) blk off d := by
  show Sort.ahead (putRow enc (Sort.ahead w m) blk off d) q = _
  rw [putRow_ahead enc w m, ahead_ahead, ← putRow_ahead]
theorem GA (w : World) (m q blk off : Nat) (d : Array α) (j k : Nat) (hj : j < d.size) (hk : k < d.size) :
    (((putRow enc (Sort.ahead w m) blk off d).drewN q).setCell ⟨blk, off + j, none⟩ (enc d[k]!)).setCell ⟨blk, off + k, none⟩ (enc d[j]!) = putRow enc (Sort.ahead w (m + q)) blk off (swp d j k) := by
  rw [BA]
  exact putRow_swp enc _ blk off d j k hj hk
end
theorem Su.insertionSort_int (blk off cap a b : Nat) (d : Array Int) (w : World) (hH : Holds AJ w blk off d) (hab : a ≤ b) (hb : b ≤ d.size) (hsz : d.size < 4611686018427387904) :
    Calls Tryz.prog 59 #[.slice (some ⟨blk, off, none⟩) d.size cap, .int .i64 a, .int .i64 b] w fun e w' =>
      e = .returned (.tuple #[]) ∧ ∃ n, w' = putRow AJ (Sort.ahead w n) blk off (Sort.insertionSort ltInt d a b) := by
  go_enter Tryz.func59, Tryz.ntmps59
  go_wp2
  go_loopw [6] (fun vi wr => ∃ (i n : Nat) (dk : Array Int), vi = .int .i64 i ∧ a < i ∧ i ≤ b + 1 ∧ dk.size = d.size ∧ wr = putRow AJ (Sort.ahead w n) blk off dk ∧
      insOuter ltInt a b i dk = insOuter ltInt a b (a + 1) d) (fun vi _ => b + 1 - (intOf vi).toNat)
  case atStart => exact ⟨a + 1, 0, d, by go_num, by omega, by omega, rfl, (putRow_self _ _ _ _ _ hH).symm, rfl⟩
  case round =>
    obtain ⟨i, n, dk, rfl, hai, hib, hsk, hwr, hO⟩ := hrel
    have HO : Hid (insOuter ltInt a b i dk = insOuter ltInt a b (a + 1) d) := hO
    clear hO
    go_wp2
    · -- i < b: the inner loop
      go_loopw [7] (fun vj wr2 => ∃ (j m : Nat) (dj : Array Int), vj = .int .i64 j ∧ a ≤ j ∧ j ≤ i ∧ dj.size = d.size ∧ wr2 = putRow AJ (Sort.ahead w m) blk off dj ∧
          insInner ltInt a j dj = insInner ltInt a i dk) (fun vj _ => (intOf vj).toNat)
      case atStart => exact ⟨i, n, dk, rfl, by omega, Nat.le_refl _, hsk, rfl, rfl⟩
      case round =>
        obtain ⟨j, m, dj, rfl, haj, hji, hsj, hw2, hI⟩ := hrel
        have hlt : i < b := by assumption
        -- the row's contents under a name of their own (the authors' find: with 'j < d.size' at hand the walk's simp turns 'dj[j]!' into 'dj[j]'); its two families: Derived/CellFam.lean serves every load and store from them
        obtain ⟨G, hG⟩ : ∃ G : Nat → Int, ∀ t, G t = dj[t]! := ⟨fun t => dj[t]!, fun _ => rfl⟩
        have hcw : ∀ t, t < d.size → wr.cell? ⟨blk, off + t, none⟩ = some (.int .u32 (G t)) := fun t ht => by
          rw [hw2, hG]; exact cell?_putRow _ _ _ _ d dj (holds_ahead _ _ _ _ _ _ hH) hsj t (by omega)
        have hfw : ∀ t, t < d.size → wr.frozen? ⟨blk, off + t, none⟩ = false := fun t ht => by
          rw [hw2, frozen?_putRow]; exact ((holds_ahead _ _ m _ _ _ hH) t ht).2
        have HW : Hid (wr = putRow AJ (Sort.ahead w m) blk off dj) := hw2
        have HG : Hid (∀ t, G t = dj[t]!) := hG
        have HI : Hid (insInner ltInt a j dj = insInner ltInt a i dk) := hI
        clear hw2 hG hI hH
        -- out of the inner loop: dj is what the inner loop makes of dk: the outer round's end
        have out : (j ≤ a ∨ ltInt dj[j]! dj[j - 1]! = false) → ∀ q, ∃ i' n' dk', Value.int .i64 ((i : Int) + 1) = .int .i64 (i' : Nat) ∧ a < i' ∧ i' ≤ b + 1 ∧ dk'.size = d.size ∧
            wr.drewN q = putRow AJ (Sort.ahead w n') blk off dk' ∧ insOuter ltInt a b i' dk' = insOuter ltInt a b (a + 1) d := fun hs q =>
          ⟨i + 1, m + q, dj, by go_num, by omega, by omega, hsj, by rw [HW.out]; exact BA _ _ _ _ _ _ _,
            by rw [← HO.out, aJ _ _ _ _ _ hlt, ← HI.out, UR _ _ _ _ hs]⟩
        have OUT : Hid _ := out
        clear out
        go_wp2
        by_cases hja : a < j
        · go_quiet (first | (go_at_call 65; refine Calls.quiet_of_same (Su.cmp_Less_int _ _ _)))
          go_wp2
          · -- Less: the swap, j--
            have hl : ltInt (G j) (G (j - 1)) = true := by assumption
            go_region
            all_goals go_wp2
            go_roundw
            case rel =>
              refine ⟨j - 1, m + (nq + 1), swp dj j (j - 1), by congr 1; omega, by omega, by omega, by rw [size_swp]; exact hsj, ?_, ?_⟩
              · rw [HW.out, HG.out, HG.out]
                exact GA _ w m (nq + 1) blk off dj j (j - 1) (by omega) (by omega)
              · rw [← HI.out, aI ltInt a j dj hja (by rw [← HG.out, ← HG.out]; exact hl)]
            case measure => simp [intOf]; omega
          · -- not Less
            have hl : ltInt (G j) (G (j - 1)) = false := by assumption
            go_roundw
            case rel => exact OUT.out (Or.inr (by rw [← HG.out, ← HG.out]; exact hl)) nq
            case measure => simp [intOf]; omega
        · go_quiet (first | (go_at_call 65; refine Calls.quiet_of_same (Su.cmp_Less_int _ _ _)))
          go_wp2
          go_roundw
          case rel => exact OUT.out (Or.inl (by omega)) nq
          case measure => simp [intOf]; omega
    · -- the outer loop is at its end
      have hge : ¬ i < b := by assumption
      go_end0
      exact ⟨rfl, n, by unfold Sort.insertionSort; rw [← HO.out, US _ _ _ _ _ hge]⟩
end Go.Proofs.YtkgikodiecmakaaGreatDoor
namespace Go.Proofs.YtkgikodiecmakaaGreatDoor
open Go.Sort Go.RowKit Go.Lib
open Go.Sort Go.RowKit
theorem GZ {α : Type} [Inhabited α] (enc : α → Value) {w wr : World} {n blk off : Nat} {dk : Array α} {i j : Nat} (hi : i < dk.size) (hj : j < dk.size) (hwr : wr = putRow enc (Sort.ahead w n) blk off dk)
    {x y : Value} (hx : x = enc dk[j]!) (hy : y = enc dk[i]!) : ((wr.setCell ⟨blk, off + i, none⟩ x).setCell ⟨blk, off + j, none⟩ y).drew = putRow enc (Sort.ahead w (n + 1)) blk off (swp dk i j) := by
  subst hwr; subst hx; subst hy
  rw [putRow_swp enc _ blk off dk i j hi hj, ← ahead_drew]
  rfl
theorem Su.reverseRange_int (blk off cap : Nat) (d : Array Int) (a b : Nat) (w : World) (hH : Holds AJ w blk off d) (hab : a ≤ b) (hb : b ≤ d.size) (hsz : d.size < 4611686018427387904) :
    Calls Tryz.prog 63 #[.slice (some ⟨blk, off, none⟩) d.size cap, .int .i64 a, .int .i64 b] w fun e w' => e = .returned (.tuple #[]) ∧ ∃ n, w' = putRow AJ (Sort.ahead w n) blk off (reverseRange d a b) := by
  go_enter Tryz.func63, Tryz.ntmps63
  go_wp2
  go_loopg [6, 7] (b - a) (fun k s6 s7 wr => ∃ (i jn : Nat) (jz : Int) (dk : Array Int) (n : Nat), s6 = .int .i64 i ∧ s7 = .int .i64 jz ∧ ((i : Int) < jz → jz = jn ∧ jn < d.size) ∧ (¬ (i : Int) < jz → ¬ i < jn) ∧ jn - i ≤ k ∧
    dk.size = d.size ∧ wr = putRow AJ (Sort.ahead w n) blk off dk ∧ reverseLoop i jn dk = reverseLoop a (b - 1) d)
  case atStart => exact ⟨a, b - 1, (b : Int) - 1, d, 0, rfl, rfl, fun h => ⟨by omega, by omega⟩, fun h => by omega, by omega, rfl, (putRow_self AJ w blk off d hH).symm, rfl⟩
  case round =>
    obtain ⟨i, jn, jz, dk, n, rfl, rfl, h1, h2, hk, hds, hwr, heq⟩ := hrel
    by_cases hlt : (i : Int) < jz
    · obtain ⟨rfl, hjn⟩ := h1 hlt
      have hij : i < jn := by omega
      have hHk : Holds AJ wr blk off dk := by rw [hwr]; exact holds_putRow AJ _ blk off d dk (holds_ahead AJ w n blk off d hH) hds
      obtain ⟨ci, fi⟩ := hHk i (by omega)
      obtain ⟨cj, fj⟩ := hHk jn (by omega)
      have A : Aside (wr = putRow AJ (Sort.ahead w n) blk off dk) := hwr
      clear hwr hHk hH h1 h2
      go_wp2_with fail
      go_region
      go_wp2
      go_roundg (jn - 1 - (i + 1))
      case measure => omega
      case rel =>
        rw [reverseLoop, if_pos hij] at heq
        exact ⟨i + 1, jn - 1, (jn : Int) - 1, swp dk i jn, n + 1, by simp, rfl, fun h => ⟨by omega, by omega⟩, fun h => by omega, Nat.le_refl _, by rw [size_swp]; exact hds,
          GZ AJ (by omega) (by omega) A.out (by simp [AJ, getElem!_pos, show jn < dk.size by omega]) rfl, heq⟩
    · have hnot := h2 hlt
      go_wp2
      go_end0
      refine ⟨rfl, n, ?_⟩
      rw [reverseLoop, if_neg hnot] at heq
      rw [reverseRange, ← heq]
end Go.Proofs.YtkgikodiecmakaaGreatDoor
namespace Go.Proofs.YtkgikodiecmakaaGreatDoor
open Go.Sort Go.RowKit Go.Lib
variable {α : Type} [Inhabited α] (lt : α → α → Bool)
theorem sd_end {hi F root : Nat} (d : Array α) (h : hi ≤ 2 * root + 1) : siftDown lt hi F root d = d := by rw [siftDown, dif_pos h]
theorem VD {hi F root : Nat} (d : Array α) (h1 : 2 * root + 2 < hi) (h2 : lt d[F + (2 * root + 1)]! d[F + (2 * root + 2)]! = true) (h3 : lt d[F + root]! d[F + (2 * root + 2)]! = false) : siftDown lt hi F root d = d := by
  rw [siftDown, dif_neg (by omega), show F + (2 * root + 1) + 1 = F + (2 * root + 2) by omega, h2, h3]
  simp [show 2 * root + 1 + 1 < hi by omega]
theorem bI {hi F root : Nat} (d : Array α) (h1 : 2 * root + 2 < hi) (h2 : lt d[F + (2 * root + 1)]! d[F + (2 * root + 2)]! = true) (h3 : lt d[F + root]! d[F + (2 * root + 2)]! = true) :
    siftDown lt hi F root d = siftDown lt hi F (2 * root + 2) (swp d (F + root) (F + (2 * root + 2))) := by
  rw [siftDown, dif_neg (by omega), show F + (2 * root + 1) + 1 = F + (2 * root + 2) by omega, h2, h3]
  simp [show 2 * root + 1 + 1 < hi by omega]
theorem OH {hi F root : Nat} (d : Array α) (h0 : 2 * root + 1 < hi) (h1 : 2 * root + 2 < hi → lt d[F + (2 * root + 1)]! d[F + (2 * root + 2)]! = false) (h3 : lt d[F + root]! d[F + (2 * root + 1)]! = false) : siftDown lt hi F root d = d := by
  rw [siftDown, dif_neg (by omega), show F + (2 * root + 1) + 1 = F + (2 * root + 2) by omega, h3]
  by_cases h : 2 * root + 2 < hi
  · simp [h1 h]
  · simp [show ¬ 2 * root + 1 + 1 < hi by omega]
theorem TW {hi F root : Nat} (d : Array α) (h0 : 2 * root + 1 < hi) (h1 : 2 * root + 2 < hi → lt d[F + (2 * root + 1)]! d[F + (2 * root + 2)]! = false) (h3 : lt d[F + root]! d[F + (2 * root + 1)]! = true) :
    siftDown lt hi F root d = siftDown lt hi F (2 * root + 1) (swp d (F + root) (F + (2 * root + 1))) := by
  rw [siftDown, dif_neg (by omega), show F + (2 * root + 1) + 1 = F + (2 * root + 2) by omega, h3]
  by_cases h : 2 * root + 2 < hi
  · simp [h1 h]
  · simp [show ¬ 2 * root + 1 + 1 < hi by omega]
end Go.Proofs.YtkgikodiecmakaaGreatDoor
namespace Go.Proofs.YtkgikodiecmakaaGreatDoor
open Go.Sort Go.RowKit Go.Lib
open Go.Sort Go.RowKit
theorem DR {α : Type} [Inhabited α] (enc : α → Value) {w wr : World} {n blk off : Nat} {dk : Array α} (hwr : wr = putRow enc (Sort.ahead w n) blk off dk) (m : Nat) : wr.drewN m = putRow enc (Sort.ahead w (n + m)) blk off dk := by
  subst hwr
  rw [← ahead_ahead]
  rfl
theorem Su.siftDown_int (blk off len cap : Nat) (d : Array Int) (hlen : d.size = len) (lo hi first : Nat) (w : World) (hH : Holds AJ w blk off d) (hlo : lo ≤ hi) (hb : first + hi ≤ d.size) (hsz : d.size < 4611686018427387904) :
    Calls Tryz.prog 95 #[.slice (some ⟨blk, off, none⟩) len cap, .int .i64 lo, .int .i64 hi, .int .i64 first] w fun e w' => e = .returned (.tuple #[]) ∧ ∃ n, w' = putRow AJ (Sort.ahead w n) blk off (siftDown ltInt hi first lo d) := by
  subst hlen
  go_enter Tryz.func95, Tryz.ntmps95
  go_wp2
  go_loopg [8] (hi - lo) (fun k s8 wr => ∃ (root : Nat) (dk : Array Int) (n : Nat), s8 = .int .i64 root ∧ root ≤ hi ∧ hi - root ≤ k ∧ dk.size = d.size ∧ wr = putRow AJ (Sort.ahead w n) blk off dk ∧ siftDown ltInt hi first root dk = siftDown ltInt hi first lo d)
  case atStart => exact ⟨lo, d, 0, rfl, hlo, Nat.le_refl _, rfl, (putRow_self AJ w blk off d hH).symm, rfl⟩
  case round =>
    obtain ⟨root, dk, n, rfl, hr, hk, hds, hwr, heq⟩ := hrel
    have hHk : Holds AJ wr blk off dk := by rw [hwr]; exact holds_putRow AJ _ blk off d dk (holds_ahead AJ w n blk off d hH) hds
    -- THE ROW's TWO FAMILIES (the authors' Derived/CellFam.lean finds each cell in them)
    have hcw : ∀ t, t < d.size → wr.cell? ⟨blk, off + t, none⟩ = some (.int .u32 dk[t]!) := fun t ht => (hHk t (by omega)).1
    have hfw : ∀ t, t < d.size → wr.frozen? ⟨blk, off + t, none⟩ = false := fun t ht => (hHk t (by omega)).2
    have A : Aside (wr = putRow AJ (Sort.ahead w n) blk off dk) := hwr
    clear hwr hH hHk
    by_cases h0 : hi ≤ 2 * root + 1
    · -- no child: the loop is left
      have h0z : (hi : Int) ≤ 2 * (root : Int) + 1 := by omega
      go_wp2
      go_end0
      refine ⟨rfl, n, ?_⟩
      rw [A.out, ← heq, sd_end ltInt dk h0]
    · -- (the tests, AS THE WALK SPELLS THEM: LG Int: a guard that is not decided stops the quiet walk)
      have h0z : ¬ ((hi : Int) ≤ 2 * (root : Int) + 1) := by omega
      by_cases h1 : 2 * root + 2 < hi
      · have h1z : 2 * (root : Int) + 1 + 1 < (hi : Int) := by omega
        go_wp2_with fail
        go_big_quiet (first | (go_at_call 65; refine Calls.quiet_of_same (Su.cmp_Less_int _ _ _)))
        go_wp2_with fail
        · -- THE RIGHT CHILD IS THE GREATER
          have hL : ltInt dk[first + 2 * root + 1]! dk[first + 2 * root + 2]! = true := by assumption
          revert nq; intro nq1      -- (the next quiet region brings an 'nq' of its own)
          have hcw2 : ∀ t, t < d.size → (wr.drewN nq1).cell? ⟨blk, off + t, none⟩ = some (.int .u32 dk[t]!) := hcw
          have hfw2 : ∀ t, t < d.size → (wr.drewN nq1).frozen? ⟨blk, off + t, none⟩ = false := hfw
          have A2 : Aside (wr.drewN nq1 = putRow AJ (Sort.ahead w (n + nq1)) blk off dk) := DR AJ A.out nq1
          clear hcw hfw A
          generalize wr.drewN nq1 = wr2 at hcw2 hfw2 A2 ⊢
          go_big_quiet (first | (go_at_call 65; refine Calls.quiet_of_same (Su.cmp_Less_int _ _ _)))
          go_wp2_with fail
          · -- the hole is not less than the greater child: return
            have hS : ltInt dk[first + root]! dk[first + 2 * root + 2]! = false := by
              have : (!ltInt dk[first + root]! dk[first + 2 * root + 2]!) = true := by assumption
              simpa using this
            (try simp only [Exit.inBlock, Exit.then]); refine bodyPost_ret (results_none rfl _ _ _) rfl ?_      -- (an explicit 'return' of a function without results)
            refine ⟨rfl, n + nq1 + nq, ?_⟩
            rw [DR AJ A2.out nq, ← heq, VD ltInt dk h1 hL hS]
          · -- it is: they are swapped, and the hole goes down
            have hG : ltInt dk[first + root]! dk[first + 2 * root + 2]! = true := by
              have : (!ltInt dk[first + root]! dk[first + 2 * root + 2]!) = false := by assumption
              simpa using this
            have hcw3 : ∀ t, t < d.size → (wr2.drewN nq).cell? ⟨blk, off + t, none⟩ = some (.int .u32 dk[t]!) := hcw2
            have hfw3 : ∀ t, t < d.size → (wr2.drewN nq).frozen? ⟨blk, off + t, none⟩ = false := hfw2
            have A3 : Aside (wr2.drewN nq = putRow AJ (Sort.ahead w (n + nq1 + nq)) blk off dk) := DR AJ A2.out nq
            clear hcw2 hfw2 A2
            generalize wr2.drewN nq = wr3 at hcw3 hfw3 A3 ⊢
            go_region
            go_wp2
            go_roundg (hi - (2 * root + 2))
            case measure => omega
            case rel =>
              refine ⟨2 * root + 2, swp dk (first + root) (first + (2 * root + 1 + 1)), n + nq1 + nq + 1, by simp <;> omega, by omega, Nat.le_refl _, by rw [size_swp]; exact hds, GZ AJ (by omega) (by omega) A3.out rfl rfl, ?_⟩
              rw [← heq, bI ltInt dk h1 hL hG]
        · -- THE LEFT CHILD IS NOT LESS THAN THE RIGHT
          have hL : ltInt dk[first + 2 * root + 1]! dk[first + 2 * root + 2]! = false := by assumption
          revert nq; intro nq1      -- (the next quiet region brings an 'nq' of its own)
          have hcw2 : ∀ t, t < d.size → (wr.drewN nq1).cell? ⟨blk, off + t, none⟩ = some (.int .u32 dk[t]!) := hcw
          have hfw2 : ∀ t, t < d.size → (wr.drewN nq1).frozen? ⟨blk, off + t, none⟩ = false := hfw
          have A2 : Aside (wr.drewN nq1 = putRow AJ (Sort.ahead w (n + nq1)) blk off dk) := DR AJ A.out nq1
          clear hcw hfw A
          generalize wr.drewN nq1 = wr2 at hcw2 hfw2 A2 ⊢
          go_big_quiet (first | (go_at_call 65; refine Calls.quiet_of_same (Su.cmp_Less_int _ _ _)))
          go_wp2_with fail
          · -- the hole is not less than the greater child: return
            have hS : ltInt dk[first + root]! dk[first + 2 * root + 1]! = false := by
              have : (!ltInt dk[first + root]! dk[first + 2 * root + 1]!) = true := by assumption
              simpa using this
            (try simp only [Exit.inBlock, Exit.then]); refine bodyPost_ret (results_none rfl _ _ _) rfl ?_      -- (an explicit 'return' of a function without results)
            refine ⟨rfl, n + nq1 + nq, ?_⟩
            rw [DR AJ A2.out nq, ← heq, OH ltInt dk (by omega) (fun _ => hL) hS]
          · -- it is: they are swapped, and the hole goes down
            have hG : ltInt dk[first + root]! dk[first + 2 * root + 1]! = true := by
              have : (!ltInt dk[first + root]! dk[first + 2 * root + 1]!) = false := by assumption
              simpa using this
            have hcw3 : ∀ t, t < d.size → (wr2.drewN nq).cell? ⟨blk, off + t, none⟩ = some (.int .u32 dk[t]!) := hcw2
            have hfw3 : ∀ t, t < d.size → (wr2.drewN nq).frozen? ⟨blk, off + t, none⟩ = false := hfw2
            have A3 : Aside (wr2.drewN nq = putRow AJ (Sort.ahead w (n + nq1 + nq)) blk off dk) := DR AJ A2.out nq
            clear hcw2 hfw2 A2
            generalize wr2.drewN nq = wr3 at hcw3 hfw3 A3 ⊢
            go_region
            go_wp2
            go_roundg (hi - (2 * root + 1))
            case measure => omega
            case rel =>
              refine ⟨2 * root + 1, swp dk (first + root) (first + (2 * root + 1)), n + nq1 + nq + 1, by simp <;> omega, by omega, Nat.le_refl _, by rw [size_swp]; exact hds, GZ AJ (by omega) (by omega) A3.out rfl rfl, ?_⟩
              rw [← heq, TW ltInt dk (by omega) (fun _ => hL) hG]
      · -- THERE IS NO RIGHT CHILD
        have h1z : decide (2 * (root : Int) + 1 + 1 < (hi : Int)) = false := decide_eq_false (by omega)      -- (a guard that is FALSE: said so outright: from '¬ ..' the walk did not decide it)
        go_wp2_with fail
        go_big_quiet (first | (go_at_call 65; refine Calls.quiet_of_same (Su.cmp_Less_int _ _ _)))
        go_wp2_with fail
        revert nq; intro nq1      -- (the next quiet region brings an 'nq' of its own)
        have hcw2 : ∀ t, t < d.size → (wr.drewN nq1).cell? ⟨blk, off + t, none⟩ = some (.int .u32 dk[t]!) := hcw
        have hfw2 : ∀ t, t < d.size → (wr.drewN nq1).frozen? ⟨blk, off + t, none⟩ = false := hfw
        have A2 : Aside (wr.drewN nq1 = putRow AJ (Sort.ahead w (n + nq1)) blk off dk) := DR AJ A.out nq1
        clear hcw hfw A
        generalize wr.drewN nq1 = wr2 at hcw2 hfw2 A2 ⊢
        go_big_quiet (first | (go_at_call 65; refine Calls.quiet_of_same (Su.cmp_Less_int _ _ _)))
        go_wp2_with fail
        · -- the hole is not less than the greater child: return
          have hS : ltInt dk[first + root]! dk[first + 2 * root + 1]! = false := by
            have : (!ltInt dk[first + root]! dk[first + 2 * root + 1]!) = true := by assumption
            simpa using this
          (try simp only [Exit.inBlock, Exit.then]); refine bodyPost_ret (results_none rfl _ _ _) rfl ?_      -- (an explicit 'return' of a function without results)
          refine ⟨rfl, n + nq1 + nq, ?_⟩
          rw [DR AJ A2.out nq, ← heq, OH ltInt dk (by omega) (fun h => absurd h h1) hS]
        · -- it is: they are swapped, and the hole goes down
          have hG : ltInt dk[first + root]! dk[first + 2 * root + 1]! = true := by
            have : (!ltInt dk[first + root]! dk[first + 2 * root + 1]!) = false := by assumption
            simpa using this
          have hcw3 : ∀ t, t < d.size → (wr2.drewN nq).cell? ⟨blk, off + t, none⟩ = some (.int .u32 dk[t]!) := hcw2
          have hfw3 : ∀ t, t < d.size → (wr2.drewN nq).frozen? ⟨blk, off + t, none⟩ = false := hfw2
          have A3 : Aside (wr2.drewN nq = putRow AJ (Sort.ahead w (n + nq1 + nq)) blk off dk) := DR AJ A2.out nq
          clear hcw2 hfw2 A2
          generalize wr2.drewN nq = wr3 at hcw3 hfw3 A3 ⊢
          go_region
          go_wp2
          go_roundg (hi - (2 * root + 1))
          case measure => omega
          case rel =>
            refine ⟨2 * root + 1, swp dk (first + root) (first + (2 * root + 1)), n + nq1 + nq + 1, by simp <;> omega, by omega, Nat.le_refl _, by rw [size_swp]; exact hds, GZ AJ (by omega) (by omega) A3.out rfl rfl, ?_⟩
            rw [← heq, TW ltInt dk (by omega) (fun h => absurd h h1) hG]
end Go.Proofs.YtkgikodiecmakaaGreatDoor
namespace Go.Proofs.YtkgikodiecmakaaGreatDoor
open Go.Sort Go.RowKit Go.Lib
variable {α : Type} [Inhabited α] (lt : α → α → Bool)
theorem DH (hi F : Nat) : ∀ (n root : Nat) (d : Array α), hi - root ≤ n → (siftDown lt hi F root d).size = d.size := by
  intro n
  induction n with
  | zero => intro root d h; rw [siftDown, dif_pos (by omega)]
  | succ n ih =>
    intro root d h
    rw [siftDown]
    split
    · rfl
    · split
      · split
        · rfl
        · split
          · rw [ih _ _ (by omega), size_swp]
          · rfl
      · split
        · rfl
        · rw [ih _ _ (by omega), size_swp]
end Go.Proofs.YtkgikodiecmakaaGreatDoor
namespace Go.Proofs.YtkgikodiecmakaaGreatDoor
open Go.Sort Go.RowKit Go.Lib
open Go.Sort Go.RowKit
theorem cI {a b : Nat} (hab : a ≤ b) : ((b : Int) - (a : Int) - 1).tdiv 2 = (((b - a - 1) / 2 + 1 : Nat) : Int) - 1 := by
  by_cases h : a = b
  · subst h
    have : ((a : Int) - (a : Int) - 1) = -1 := by omega
    rw [this]
    simp
  · rw [Int.tdiv_eq_ediv_of_nonneg (by omega)]
    omega
theorem Su.heapSort_int (blk off len cap : Nat) (d : Array Int) (hlen : d.size = len) (a b : Nat) (w : World) (hH : Holds AJ w blk off d) (hab : a ≤ b) (hb : b ≤ d.size) (hsz : d.size < 4611686018427387904) :
    Calls Tryz.prog 60 #[.slice (some ⟨blk, off, none⟩) len cap, .int .i64 a, .int .i64 b] w fun e w' => e = .returned (.tuple #[]) ∧ ∃ n, w' = putRow AJ (Sort.ahead w n) blk off (heapSort ltInt d a b) := by
  subst hlen
  have ecast : ((b - a : Nat) : Int) = (b : Int) - (a : Int) := by omega
  go_enter Tryz.func60, Tryz.ntmps60
  go_wp2
  go_loopg [9] ((b - a - 1) / 2 + 1) (fun k s9 wr => s9 = .int .i64 ((k : Int) - 1) ∧ k ≤ (b - a - 1) / 2 + 1 ∧ ∃ (dk : Array Int) (n : Nat), dk.size = d.size ∧ wr = putRow AJ (Sort.ahead w n) blk off dk ∧
    heapBuild ltInt (b - a) a k dk = heapBuild ltInt (b - a) a ((b - a - 1) / 2 + 1) d)
  case atStart => exact ⟨by rw [cI hab], Nat.le_refl _, d, 0, rfl, (putRow_self AJ w blk off d hH).symm, rfl⟩
  case round =>
    obtain ⟨rfl, hkk, dk, n, hds, hwr, heq⟩ := hrel
    have hHk : Holds AJ wr blk off dk := by rw [hwr]; exact holds_putRow AJ _ blk off d dk (holds_ahead AJ w n blk off d hH) hds
    have A : Aside (wr = putRow AJ (Sort.ahead w n) blk off dk) := hwr
    clear hwr
    cases gk with
    | zero =>
      -- THE HEAP IS BUILT; NOW THE GREATEST IS TAKEN OFF, TIME AND AGAIN
      have hB : dk = heapBuild ltInt (b - a) a ((b - a - 1) / 2 + 1) d := heq
      clear heq hHk hkk
      go_wp2
      go_loopg [10] (b - a) (fun k s10 wr2 => s10 = .int .i64 ((k : Int) - 1) ∧ k ≤ b - a ∧ ∃ (dj : Array Int) (n2 : Nat), dj.size = d.size ∧ wr2 = putRow AJ (Sort.ahead w n2) blk off dj ∧ heapPop ltInt a k dj = heapPop ltInt a (b - a) dk)
      case atStart => exact ⟨by rw [ecast], Nat.le_refl _, dk, n, hds, A.out, rfl⟩
      case round =>
        obtain ⟨rfl, hkk, dj, n2, hdj, hwr2, heq2⟩ := hrel
        cases gk with
        | zero =>
          go_wp2
          go_end0
          refine ⟨rfl, n2, ?_⟩
          have e : dj = heapSort ltInt d a b := by rw [heapSort, ← hB, ← heq2]; rfl
          rw [← e]
        | succ k =>
          have hHj : Holds AJ wr blk off dj := by rw [hwr2]; exact holds_putRow AJ _ blk off d dj (holds_ahead AJ w n2 blk off d hH) hdj
          have hcw : ∀ t, t < d.size → wr.cell? ⟨blk, off + t, none⟩ = some (.int .u32 dj[t]!) := fun t ht => (hHj t (by omega)).1
          have hfw : ∀ t, t < d.size → wr.frozen? ⟨blk, off + t, none⟩ = false := fun t ht => (hHj t (by omega)).2
          have A2 : Aside (wr = putRow AJ (Sort.ahead w n2) blk off dj) := hwr2
          clear hwr2 hHj
          -- ✋ AT THE LAST ROUND (i = 0) 'data[first]' AND 'data[first+i]' ARE ONE CELL: the walk cannot tell whether the second store hits the cell just written: PART AHEAD OF THE REGION
          rcases Nat.eq_zero_or_pos k with hk0 | hkp
          · subst hk0
            go_wp2_with fail
            go_region
            go_wp2_with fail
            rw [GZ AJ (i := a) (j := a) (by omega) (by omega) A2.out rfl rfl]
            refine (Su.siftDown_int blk off d.size cap (swp dj a (a)) (by rw [size_swp]; exact hdj) 0 0 a _ (holds_putRow AJ _ blk off d _ (holds_ahead AJ w (n2 + 1) blk off d hH) (by rw [size_swp]; exact hdj)) (Nat.zero_le _) (by rw [size_swp]; omega) (by rw [size_swp]; omega)).mono ?_
            rintro e w1 ⟨rfl, m, hw1⟩
            go_wp2
            go_roundg 0
            case measure => omega
            case rel =>
              refine ⟨by simp, by omega, siftDown ltInt 0 a 0 (swp dj a (a)), n2 + 1 + m, by rw [DH ltInt _ _ _ _ _ (Nat.le_refl _), size_swp]; exact hdj, ?_, heq2⟩
              first
                | rw [hw1, putRow_ahead_putRow AJ w (n2 + 1) m blk off _ _ (DH ltInt _ _ _ _ _ (Nat.le_refl _))]
                | rw [putRow_ahead_putRow AJ w (n2 + 1) m blk off _ _ (DH ltInt _ _ _ _ _ (Nat.le_refl _))]
          · skip
            go_wp2_with fail
            go_region
            go_wp2_with fail
            rw [GZ AJ (i := a) (j := a + k) (by omega) (by omega) A2.out rfl rfl]
            refine (Su.siftDown_int blk off d.size cap (swp dj a (a + k)) (by rw [size_swp]; exact hdj) 0 k a _ (holds_putRow AJ _ blk off d _ (holds_ahead AJ w (n2 + 1) blk off d hH) (by rw [size_swp]; exact hdj)) (Nat.zero_le _) (by rw [size_swp]; omega) (by rw [size_swp]; omega)).mono ?_
            rintro e w1 ⟨rfl, m, hw1⟩
            go_wp2
            go_roundg k
            case measure => omega
            case rel =>
              refine ⟨by simp, by omega, siftDown ltInt k a 0 (swp dj a (a + k)), n2 + 1 + m, by rw [DH ltInt _ _ _ _ _ (Nat.le_refl _), size_swp]; exact hdj, ?_, heq2⟩
              first
                | rw [hw1, putRow_ahead_putRow AJ w (n2 + 1) m blk off _ _ (DH ltInt _ _ _ _ _ (Nat.le_refl _))]
                | rw [putRow_ahead_putRow AJ w (n2 + 1) m blk off _ _ (DH ltInt _ _ _ _ _ (Nat.le_refl _))]
    | succ k =>
      have hcall := Su.siftDown_int blk off d.size cap dk hds k (b - a) a wr hHk (by omega) (by omega) (by omega)
      rw [ecast] at hcall
      go_wp2_with (go_at_call 95; refine hcall.mono ?_; rintro e w1 ⟨rfl, m, hw1⟩)
      go_roundg k
      case measure => omega
      case rel =>
        refine ⟨by simp, by omega, siftDown ltInt (b - a) a k dk, n + m, by rw [DH ltInt _ _ _ _ _ (Nat.le_refl _)]; exact hds, ?_, heq⟩
        rw [A.out, putRow_ahead_putRow AJ w n m blk off dk _ (DH ltInt _ _ _ _ _ (Nat.le_refl _))]
end Go.Proofs.YtkgikodiecmakaaGreatDoor
namespace Go.Proofs.YtkgikodiecmakaaGreatDoor
open Go.Sort Go.RowKit Go.Lib
open Go.Sort Go.RowKit
abbrev one (s : Nat) : Array Int := #[(s : Int)]
theorem aO {w : World} {sb so s : Nat} (h : Holds (Value.int .i64) w sb so (one s)) : w.cell? ⟨sb, so, none⟩ = some (.int .i64 s) ∧ w.frozen? ⟨sb, so, none⟩ = false := by simpa using h 0 (by simp)
theorem one_set {w : World} {sb so s : Nat} (h : Holds (Value.int .i64) w sb so (one s)) (t : Nat) : w.setCell ⟨sb, so, none⟩ (.int .i64 t) = putRow (Value.int .i64) w sb so (one t) := by
  have := putRow_set (Value.int .i64) w sb so (one s) 0 (t : Int) (by simp)
  rw [putRow_self _ _ _ _ _ h] at this
  simpa using this
theorem HX {w : World} {blk off sb so n t : Nat} {d : Array Int} (h : Holds AJ w blk off d) (hne : sb ≠ blk) : Holds AJ (putRow (Value.int .i64) (Sort.ahead w n) sb so (one t)) blk off d := fun j hj =>
  ⟨by rw [cell?_putRow_other _ _ _ _ _ _ (Or.inl (Ne.symm hne))]; exact (h j hj).1, by rw [frozen?_putRow]; exact (h j hj).2⟩
theorem RG (w : World) (n m sb so s t : Nat) : putRow (Value.int .i64) (Sort.ahead (putRow (Value.int .i64) (Sort.ahead w n) sb so (one s)) m) sb so (one t) = putRow (Value.int .i64) (Sort.ahead w (n + m)) sb so (one t) :=
  putRow_ahead_putRow _ _ _ _ _ _ _ _ rfl
theorem Su.order2_int (d : Array Int) (len : Nat) (hlen : d.size = len) (blk off cap a b sb so s : Nat) (w : World) (hH : Holds AJ w blk off d) (ha : a < d.size) (hb : b < d.size)
    (hS : Holds (Value.int .i64) w sb so (one s)) (hs : s < 2 ^ 62) :
    Calls Tryz.prog 125 #[.slice (some ⟨blk, off, none⟩) len cap, .int .i64 a, .int .i64 b, .pointer (some ⟨sb, so, none⟩)] w fun e w' =>
      e = .returned (.tuple #[.int .i64 (order2 ltInt d a b s).1, .int .i64 (order2 ltInt d a b s).2.1]) ∧ ∃ n, w' = putRow (Value.int .i64) (Sort.ahead w n) sb so (one (order2 ltInt d a b s).2.2) := by
  subst hlen
  replace hs : s < 4611686018427387904 := by omega
  have ca := (hH a ha).1
  have cb := (hH b hb).1
  obtain ⟨cs, fs⟩ := aO hS
  have ea : d[a]! = d[a] := getElem!_pos d a ha
  have eb : d[b]! = d[b] := getElem!_pos d b hb
  go_enter Tryz.func125, Tryz.ntmps125
  go_wp2
  go_region_with (go_at_call 65; refine (Su.cmp_Less_int _ _ _).mono ?_; rintro e w' ⟨rfl, rfl⟩)
  all_goals (try go_wp2)
  all_goals first
    | (have hlt : ltInt d[b] d[a] = true := by assumption
       have e2 : order2 ltInt d a b s = (b, a, s + 1) := by simp [order2, ea, eb, hlt]
       go_ret2
       rw [e2]
       refine ⟨rfl, 1, ?_⟩
       rw [putRow_ahead, ← one_set hS (s + 1)]
       simp [drew_eq_ahead])
    | (have hlt : ltInt d[b] d[a] = false := by assumption
       have e2 : order2 ltInt d a b s = (a, b, s) := by simp [order2, ea, eb, hlt]
       go_ret2
       rw [e2]
       refine ⟨rfl, 1, ?_⟩
       rw [putRow_ahead, putRow_self _ _ _ _ _ hS]
       rfl)
theorem WJ (d : Array Int) {a b n : Nat} (s : Nat) (ha : a < n) (hb : b < n) : (order2 ltInt d a b s).1 < n ∧ (order2 ltInt d a b s).2.1 < n := by
  have := order2_mem ltInt d a b s
  omega
theorem NW (d : Array Int) (a b s : Nat) : (order2 ltInt d a b s).2.2 ≤ s + 1 := by
  unfold order2
  split <;> simp
theorem IK {w : World} {sb so s n t : Nat} (h : Holds (Value.int .i64) w sb so (one s)) : Holds (Value.int .i64) (putRow (Value.int .i64) (Sort.ahead w n) sb so (one t)) sb so (one t) :=
  holds_putRow _ _ _ _ (one s) (one t) (holds_ahead _ _ _ _ _ _ h) rfl
theorem Su.median_int (d : Array Int) (len : Nat) (hlen : d.size = len) (blk off cap a b c sb so s : Nat) (w : World) (hH : Holds AJ w blk off d) (ha : a < d.size) (hb : b < d.size) (hc : c < d.size) (hne : sb ≠ blk)
    (hS : Holds (Value.int .i64) w sb so (one s)) (hs : s + 3 < 2 ^ 62) :
    Calls Tryz.prog 99 #[.slice (some ⟨blk, off, none⟩) len cap, .int .i64 a, .int .i64 b, .int .i64 c, .pointer (some ⟨sb, so, none⟩)] w fun e w' =>
      e = .returned (.int .i64 (median ltInt d a b c s).1) ∧ ∃ n, w' = putRow (Value.int .i64) (Sort.ahead w n) sb so (one (median ltInt d a b c s).2) := by
  subst hlen
  have l1 := WJ d s ha hb
  have s1 := NW d a b s
  have l2 := WJ d (order2 ltInt d a b s).2.2 l1.2 hc
  have s2 := NW d (order2 ltInt d a b s).2.1 c (order2 ltInt d a b s).2.2
  go_enter Tryz.func99, Tryz.ntmps99
  -- WHICH OF THE THREE CALLS IT IS, IS TOLD BY AN ARGUMENT THAT THE OTHERS LACK ('go_at_call_of'): a contract that does not fit is not harmless: 'refine' lays both calls open
  go_wp2_with (go_at_call_of 125 (Value.int .i64 (b : Int)); refine (Su.order2_int d _ rfl blk off cap a b sb so s w hH ha hb hS (by omega)).mono ?_; rintro e w' ⟨rfl, n1, rfl⟩)
  go_wp2_with (go_at_call_of 125 (Value.int .i64 (c : Int)); refine (Su.order2_int d _ rfl blk off cap (order2 ltInt d a b s).2.1 c sb so (order2 ltInt d a b s).2.2 _ (HX hH hne) l1.2 hc (IK hS) (by omega)).mono ?_; rintro e w' ⟨rfl, n2, rfl⟩)
  go_wp2_with (go_at_call_of 125 (Value.int .i64 ((order2 ltInt d a b s).1 : Int)); refine (Su.order2_int d _ rfl blk off cap (order2 ltInt d a b s).1 (order2 ltInt d (order2 ltInt d a b s).2.1 c (order2 ltInt d a b s).2.2).1 sb so (order2 ltInt d (order2 ltInt d a b s).2.1 c (order2 ltInt d a b s).2.2).2.2 _
    (HX (HX hH hne) hne) l1.1 l2.1 (IK (IK hS)) (by omega)).mono ?_; rintro e w' ⟨rfl, n3, rfl⟩)
  go_ret
  refine ⟨rfl, n1 + (n2 + n3), ?_⟩
  rw [RG, RG]
  rfl
end Go.Proofs.YtkgikodiecmakaaGreatDoor
namespace Go.Proofs.YtkgikodiecmakaaGreatDoor
open Go.Sort Go.RowKit Go.Lib
open Go.Sort Go.RowKit
theorem Su.medianAdjacent_int (d : Array Int) (len : Nat) (hlen : d.size = len) (blk off cap a sb so s : Nat) (w : World) (hH : Holds AJ w blk off d) (ha0 : 1 ≤ a) (ha : a + 1 < d.size) (hsz : d.size < 2 ^ 62) (hne : sb ≠ blk)
    (hS : Holds (Value.int .i64) w sb so (one s)) (hs : s + 3 < 2 ^ 62) :
    Calls Tryz.prog 98 #[.slice (some ⟨blk, off, none⟩) len cap, .int .i64 a, .pointer (some ⟨sb, so, none⟩)] w fun e w' =>
      e = .returned (.int .i64 (medianAdjacent ltInt d a s).1) ∧ ∃ n, w' = putRow (Value.int .i64) (Sort.ahead w n) sb so (one (medianAdjacent ltInt d a s).2) := by
  subst hlen
  replace hsz : d.size < 4611686018427387904 := by omega
  go_enter Tryz.func98, Tryz.ntmps98
  go_wp2_with (go_at_call 99; rw [show ((a : Int) - 1) = ((a - 1 : Nat) : Int) by omega, show ((a : Int) + 1) = ((a + 1 : Nat) : Int) by omega]; refine (Su.median_int d _ rfl blk off cap (a - 1) a (a + 1) sb so s w hH (by omega) (by omega) ha hne hS hs).mono ?_; rintro e w' ⟨rfl, n1, rfl⟩)
  go_ret
  exact ⟨rfl, n1, rfl⟩
end Go.Proofs.YtkgikodiecmakaaGreatDoor
namespace Go.Proofs.YtkgikodiecmakaaGreatDoor
open Go.Sort Go.RowKit Go.Lib
open Go.RowKit Go.Sort
section
variable {α : Type} [Inhabited α] (lt : α → α → Bool)
end
section
variable {α : Type} [Inhabited α] (lt : α → α → Bool)
end
theorem Su.partialInsertionSort_int (blk off cap a b : Nat) (d : Array Int) (w : World) (hH : Holds AJ w blk off d) (hab : a < b) (hb : b ≤ d.size) (hsz : d.size < 4611686018427387904) :
    Calls Tryz.prog 64 #[.slice (some ⟨blk, off, none⟩) d.size cap, .int .i64 a, .int .i64 b] w fun e w' =>
      e = .returned (.bool (Sort.partialInsertionSort ltInt d a b).2) ∧ ∃ n, w' = putRow AJ (Sort.ahead w n) blk off (Sort.partialInsertionSort ltInt d a b).1 := by
  have HH : Hid (Holds AJ w blk off d) := hH
  have HST : Hid (w = putRow AJ (Sort.ahead w 0) blk off d) := (putRow_self _ _ _ _ _ hH).symm
  clear hH
  go_enter Tryz.func64, Tryz.ntmps64
  go_wp2
  go_loopw [7, 8] (fun vi vs wr => ∃ (i s n : Nat) (dk : Array Int), vi = .int .i64 i ∧ vs = .int .i64 s ∧ s ≤ 5 ∧ a < i ∧ i ≤ b ∧ dk.size = d.size ∧ wr = putRow AJ (Sort.ahead w n) blk off dk ∧
      partialIns ltInt a b (5 - s) i dk = partialIns ltInt a b 5 (a + 1) d) (fun _ vs _ => 5 - (intOf vs).toNat)
  case atStart => exact ⟨a + 1, 0, 0, d, by go_num, rfl, by omega, by omega, by omega, rfl, HST.out, rfl⟩
  case round =>
    obtain ⟨i, s, n, dk, rfl, rfl, hs5, hai, hib, hsk, hwr, hO⟩ := hrel
    have HO : Hid (partialIns ltInt a b (5 - s) i dk = partialIns ltInt a b 5 (a + 1) d) := hO
    clear hO
    go_wp2
    · -- s < 5: the scan
      have hs : s < 5 := by omega
      go_loopw [7] (fun vi wr2 => ∃ (k m : Nat), vi = .int .i64 k ∧ i ≤ k ∧ k ≤ b ∧ wr2 = putRow AJ (Sort.ahead w m) blk off dk ∧ scanSorted ltInt dk b k = scanSorted ltInt dk b i) (fun vi _ => b - (intOf vi).toNat)
      case atStart => exact ⟨i, n, rfl, Nat.le_refl _, hib, rfl, rfl⟩
      case round =>
        obtain ⟨k, m, rfl, hik, hkb, hw2, hS⟩ := hrel
        obtain ⟨G, hG⟩ : ∃ G : Nat → Int, ∀ t, G t = dk[t]! := ⟨fun t => dk[t]!, fun _ => rfl⟩
        have hcw : ∀ t, t < d.size → wr.cell? ⟨blk, off + t, none⟩ = some (.int .u32 (G t)) := fun t ht => by
          rw [hw2, hG]; exact cell?_putRow _ _ _ _ d dk (holds_ahead _ _ _ _ _ _ HH.out) hsk t (by omega)
        have hfw : ∀ t, t < d.size → wr.frozen? ⟨blk, off + t, none⟩ = false := fun t ht => by
          rw [hw2, frozen?_putRow]; exact ((holds_ahead _ _ m _ _ _ HH.out) t ht).2
        have HW : Hid (wr = putRow AJ (Sort.ahead w m) blk off dk) := hw2
        have HG : Hid (∀ t, G t = dk[t]!) := hG
        have HS : Hid (scanSorted ltInt dk b k = scanSorted ltInt dk b i) := hS
        clear hw2 hG hS
        go_wp2
        by_cases hkb' : k < b
        · go_quiet (first | (go_at_call 65; refine Calls.quiet_of_same (Su.cmp_Less_int _ _ _)))
          go_wp2
          all_goals first
            | (at_end
               have hl : ltInt (G k) (G (k - 1)) = false := by
                 have h : (!ltInt (G k) (G (k - 1))) = true := by assumption
                 simpa using h
               go_roundw
               case rel => exact ⟨k + 1, m + nq, by go_num, by omega, by omega, by rw [HW.out]; exact BA _ _ _ _ _ _ _, by rw [← HS.out, scanSorted_go ltInt dk b k hkb' (by rw [← HG.out, ← HG.out]; exact hl)]⟩
               case measure => simp [intOf]; omega)
            | (have hl : ltInt (G k) (G (k - 1)) = true := by
                 have h : (!ltInt (G k) (G (k - 1))) = false := by assumption
                 simpa using h
               have HK : Hid (scanSorted ltInt dk b i = k) := by
                 show scanSorted ltInt dk b i = k
                 rw [← HS.out, scanSorted_stop ltInt dk b k (Or.inr (by rw [← HG.out, ← HG.out]; exact hl))]
               first
                 | (at_ret
                    have hv : Sort.partialInsertionSort ltInt d a b = (dk, false) := by
                      unfold Sort.partialInsertionSort
                      rw [← HO.out, pi_short ltInt a b s i dk hs (by rw [HK.out]; omega) (by omega)]
                    rw [hv]
                    go_ret
                    exact ⟨rfl, m + nq, by rw [HW.out]; exact BA _ _ _ _ _ _ _⟩)
                 | (at_region 11
                    have h50 : ¬ b - a < 50 := by omega
                    go_region
                    have hsw : ((wr.drewN (nq + 1)).setCell ⟨blk, off + k, none⟩ (.int .u32 (G (k - 1)))).setCell ⟨blk, off + (k - 1), none⟩ (.int .u32 (G k)) = putRow AJ (Sort.ahead w (m + (nq + 1))) blk off (swp dk k (k - 1)) := by
                      rw [HW.out, HG.out, HG.out]
                      exact GA _ w m (nq + 1) blk off dk k (k - 1) (by omega) (by omega)
                    have hs1 : (swp dk k (k - 1)).size = d.size := by rw [size_swp]; exact hsk
                    go_wp2
                    all_goals first
                      | (at_loop
                         -- i - a >= 2: the smaller one goes down
                         have hka : k - a ≥ 2 := by omega
                         go_loopw [9] (fun vj wr2 => ∃ (j m2 : Nat) (dj : Array Int), vj = .int .i64 j ∧ j ≤ k - 1 ∧ dj.size = d.size ∧ wr2 = putRow AJ (Sort.ahead w m2) blk off dj ∧
                             shiftDown ltInt j dj = shiftDown ltInt (k - 1) (swp dk k (k - 1))) (fun vj _ => (intOf vj).toNat)
                         case atStart => exact ⟨k - 1, _, (swp dk k (k - 1)), by congr 1; omega, Nat.le_refl _, hs1, rfl, rfl⟩
                         case round =>
                           obtain ⟨j, m2, dj, rfl, hjk, hsj, hw2, hDn⟩ := hrel
                           obtain ⟨G, hG⟩ : ∃ G : Nat → Int, ∀ t, G t = dj[t]! := ⟨fun t => dj[t]!, fun _ => rfl⟩
                           have hcw : ∀ t, t < d.size → wr.cell? ⟨blk, off + t, none⟩ = some (.int .u32 (G t)) := fun t ht => by
                             rw [hw2, hG]; exact cell?_putRow _ _ _ _ d dj (holds_ahead _ _ _ _ _ _ HH.out) hsj t (by omega)
                           have hfw : ∀ t, t < d.size → wr.frozen? ⟨blk, off + t, none⟩ = false := fun t ht => by
                             rw [hw2, frozen?_putRow]; exact ((holds_ahead _ _ m2 _ _ _ HH.out) t ht).2
                           have HW : Hid (wr = putRow AJ (Sort.ahead w m2) blk off dj) := hw2
                           have HG : Hid (∀ t, G t = dj[t]!) := hG
                           have HDn : Hid (shiftDown ltInt j dj = shiftDown ltInt (k - 1) (swp dk k (k - 1))) := hDn
                           clear hw2 hG hDn hsw
                           go_wp2
                           all_goals first
                             | (at_region 16
                                go_quiet (first | (go_at_call 65; refine Calls.quiet_of_same (Su.cmp_Less_int _ _ _)))
                                go_wp2
                                all_goals first
                                  | (at_region 17
                                     have hl : ltInt (G j) (G (j - 1)) = true := by
                                       have h : (!ltInt (G j) (G (j - 1))) = false := by assumption
                                       simpa using h
                                     go_region
                                     all_goals go_wp2
                                     go_roundw
                                     case rel =>
                                       refine ⟨j - 1, m2 + (nq + 1), swp dj j (j - 1), by congr 1; omega, by omega, by rw [size_swp]; exact hsj, ?_, ?_⟩
                                       · rw [HW.out, HG.out, HG.out]
                                         exact GA _ w m2 (nq + 1) blk off dj j (j - 1) (by omega) (by omega)
                                       · rw [← HDn.out, shiftDown_go ltInt j dj (by omega) (by rw [← HG.out, ← HG.out]; exact hl)]
                                     case measure => simp [intOf]; omega)
                                  | (-- break
                                     have hl : ltInt (G j) (G (j - 1)) = false := by
                                       have h : (!ltInt (G j) (G (j - 1))) = true := by assumption
                                       simpa using h
                                     have HD : Hid (fixDown ltInt a k (swp dk k (k - 1)) = dj) := by
                                       show fixDown ltInt a k (swp dk k (k - 1)) = dj
                                       unfold fixDown; rw [if_pos hka, ← HDn.out, shiftDown_stop ltInt j dj (Or.inr (by rw [← HG.out, ← HG.out]; exact hl))]
                                     first
                                       | (at_end
                                          go_roundw
                                          case rel =>
                                            refine ⟨k, s + 1, _, dj, rfl, by go_num, by omega, by omega, by omega, hsj, (by first | rfl | exact HW.out | (rw [HW.out]; exact BA _ _ _ _ _ _ _)), ?_⟩
                                            rw [← HO.out, pi_go ltInt a b s i k dk hs HK.out (by omega) (by omega), HD.out, show fixUp ltInt b k dj = dj from by unfold fixUp; rw [if_neg (by omega)]]
                                          case measure => simp [intOf]; omega)
                                       | (at_loop
                                          go_loopw [10] (fun vj wr2 => ∃ (j m3 : Nat) (du : Array Int), vj = .int .i64 j ∧ k + 1 ≤ j ∧ j ≤ b ∧ du.size = d.size ∧ wr2 = putRow AJ (Sort.ahead w m3) blk off du ∧
                                              shiftUp ltInt b j du = shiftUp ltInt b (k + 1) dj) (fun vj _ => b - (intOf vj).toNat)
                                          case atStart => exact ⟨k + 1, _, dj, by go_num, Nat.le_refl _, by omega, hsj, (by first | rfl | exact HW.out | (rw [HW.out]; exact BA _ _ _ _ _ _ _)), rfl⟩
                                          case round =>
                                            obtain ⟨j, m3, du, rfl, hkj, hjb, hsu, hw3, hU⟩ := hrel
                                            obtain ⟨G, hG⟩ : ∃ G : Nat → Int, ∀ t, G t = du[t]! := ⟨fun t => du[t]!, fun _ => rfl⟩
                                            have hcw : ∀ t, t < d.size → wr.cell? ⟨blk, off + t, none⟩ = some (.int .u32 (G t)) := fun t ht => by
                                              rw [hw3, hG]; exact cell?_putRow _ _ _ _ d du (holds_ahead _ _ _ _ _ _ HH.out) hsu t (by omega)
                                            have hfw : ∀ t, t < d.size → wr.frozen? ⟨blk, off + t, none⟩ = false := fun t ht => by
                                              rw [hw3, frozen?_putRow]; exact ((holds_ahead _ _ m3 _ _ _ HH.out) t ht).2
                                            have HW : Hid (wr = putRow AJ (Sort.ahead w m3) blk off du) := hw3
                                            have HG : Hid (∀ t, G t = du[t]!) := hG
                                            have HU : Hid (shiftUp ltInt b j du = shiftUp ltInt b (k + 1) dj) := hU
                                            clear hw3 hG hU
                                            go_wp2
                                            all_goals first
                                              | (at_region 22
                                                 go_quiet (first | (go_at_call 65; refine Calls.quiet_of_same (Su.cmp_Less_int _ _ _)))
                                                 go_wp2
                                                 all_goals first
                                                   | (at_region 23
                                                      have hl : ltInt (G j) (G (j - 1)) = true := by
                                                        have h : (!ltInt (G j) (G (j - 1))) = false := by assumption
                                                        simpa using h
                                                      go_region
                                                      all_goals go_wp2
                                                      go_roundw
                                                      case rel =>
                                                        refine ⟨j + 1, m3 + (nq + 1), swp du j (j - 1), by go_num, by omega, by omega, by rw [size_swp]; exact hsu, ?_, ?_⟩
                                                        · rw [HW.out, HG.out, HG.out]
                                                          exact GA _ w m3 (nq + 1) blk off du j (j - 1) (by omega) (by omega)
                                                        · rw [← HU.out, shiftUp_go ltInt b j du (by omega) (by rw [← HG.out, ← HG.out]; exact hl)]
                                                      case measure => simp [intOf]; omega)
                                                   | (at_end
                                                      have hl : ltInt (G j) (G (j - 1)) = false := by
                                                        have h : (!ltInt (G j) (G (j - 1))) = true := by assumption
                                                        simpa using h
                                                      go_roundw
                                                      case rel =>
                                                        refine ⟨k, s + 1, _, du, rfl, by go_num, by omega, by omega, by omega, hsu, (by first | rfl | exact HW.out | (rw [HW.out]; exact BA _ _ _ _ _ _ _)), ?_⟩
                                                        rw [← HO.out, pi_go ltInt a b s i k dk hs HK.out (by omega) (by omega), HD.out, show fixUp ltInt b k dj = du from by unfold fixUp; rw [if_pos (by omega), ← HU.out, shiftUp_stop ltInt b j du (Or.inr (by rw [← HG.out, ← HG.out]; exact hl))]]
                                                      case measure => simp [intOf]; omega))
                                              | (at_end
                                                 go_roundw
                                                 case rel =>
                                                   refine ⟨k, s + 1, _, du, rfl, by go_num, by omega, by omega, by omega, hsu, (by first | rfl | exact HW.out | (rw [HW.out]; exact BA _ _ _ _ _ _ _)), ?_⟩
                                                   rw [← HO.out, pi_go ltInt a b s i k dk hs HK.out (by omega) (by omega), HD.out, show fixUp ltInt b k dj = du from by unfold fixUp; rw [if_pos (by omega), ← HU.out, shiftUp_stop ltInt b j du (Or.inl (by omega))]]
                                                 case measure => simp [intOf]; omega))))
                             | (-- j < 1
                                have HD : Hid (fixDown ltInt a k (swp dk k (k - 1)) = dj) := by
                                  show fixDown ltInt a k (swp dk k (k - 1)) = dj
                                  unfold fixDown; rw [if_pos hka, ← HDn.out, shiftDown_stop ltInt j dj (Or.inl (by omega))]
                                first
                                  | (at_end
                                     go_roundw
                                     case rel =>
                                       refine ⟨k, s + 1, _, dj, rfl, by go_num, by omega, by omega, by omega, hsj, (by first | rfl | exact HW.out | (rw [HW.out]; exact BA _ _ _ _ _ _ _)), ?_⟩
                                       rw [← HO.out, pi_go ltInt a b s i k dk hs HK.out (by omega) (by omega), HD.out, show fixUp ltInt b k dj = dj from by unfold fixUp; rw [if_neg (by omega)]]
                                     case measure => simp [intOf]; omega)
                                  | (at_loop
                                     go_loopw [10] (fun vj wr2 => ∃ (j m3 : Nat) (du : Array Int), vj = .int .i64 j ∧ k + 1 ≤ j ∧ j ≤ b ∧ du.size = d.size ∧ wr2 = putRow AJ (Sort.ahead w m3) blk off du ∧
                                         shiftUp ltInt b j du = shiftUp ltInt b (k + 1) dj) (fun vj _ => b - (intOf vj).toNat)
                                     case atStart => exact ⟨k + 1, _, dj, by go_num, Nat.le_refl _, by omega, hsj, (by first | rfl | exact HW.out | (rw [HW.out]; exact BA _ _ _ _ _ _ _)), rfl⟩
                                     case round =>
                                       obtain ⟨j, m3, du, rfl, hkj, hjb, hsu, hw3, hU⟩ := hrel
                                       obtain ⟨G, hG⟩ : ∃ G : Nat → Int, ∀ t, G t = du[t]! := ⟨fun t => du[t]!, fun _ => rfl⟩
                                       have hcw : ∀ t, t < d.size → wr.cell? ⟨blk, off + t, none⟩ = some (.int .u32 (G t)) := fun t ht => by
                                         rw [hw3, hG]; exact cell?_putRow _ _ _ _ d du (holds_ahead _ _ _ _ _ _ HH.out) hsu t (by omega)
                                       have hfw : ∀ t, t < d.size → wr.frozen? ⟨blk, off + t, none⟩ = false := fun t ht => by
                                         rw [hw3, frozen?_putRow]; exact ((holds_ahead _ _ m3 _ _ _ HH.out) t ht).2
                                       have HW : Hid (wr = putRow AJ (Sort.ahead w m3) blk off du) := hw3
                                       have HG : Hid (∀ t, G t = du[t]!) := hG
                                       have HU : Hid (shiftUp ltInt b j du = shiftUp ltInt b (k + 1) dj) := hU
                                       clear hw3 hG hU
                                       go_wp2
                                       all_goals first
                                         | (at_region 22
                                            go_quiet (first | (go_at_call 65; refine Calls.quiet_of_same (Su.cmp_Less_int _ _ _)))
                                            go_wp2
                                            all_goals first
                                              | (at_region 23
                                                 have hl : ltInt (G j) (G (j - 1)) = true := by
                                                   have h : (!ltInt (G j) (G (j - 1))) = false := by assumption
                                                   simpa using h
                                                 go_region
                                                 all_goals go_wp2
                                                 go_roundw
                                                 case rel =>
                                                   refine ⟨j + 1, m3 + (nq + 1), swp du j (j - 1), by go_num, by omega, by omega, by rw [size_swp]; exact hsu, ?_, ?_⟩
                                                   · rw [HW.out, HG.out, HG.out]
                                                     exact GA _ w m3 (nq + 1) blk off du j (j - 1) (by omega) (by omega)
                                                   · rw [← HU.out, shiftUp_go ltInt b j du (by omega) (by rw [← HG.out, ← HG.out]; exact hl)]
                                                 case measure => simp [intOf]; omega)
                                              | (at_end
                                                 have hl : ltInt (G j) (G (j - 1)) = false := by
                                                   have h : (!ltInt (G j) (G (j - 1))) = true := by assumption
                                                   simpa using h
                                                 go_roundw
                                                 case rel =>
                                                   refine ⟨k, s + 1, _, du, rfl, by go_num, by omega, by omega, by omega, hsu, (by first | rfl | exact HW.out | (rw [HW.out]; exact BA _ _ _ _ _ _ _)), ?_⟩
                                                   rw [← HO.out, pi_go ltInt a b s i k dk hs HK.out (by omega) (by omega), HD.out, show fixUp ltInt b k dj = du from by unfold fixUp; rw [if_pos (by omega), ← HU.out, shiftUp_stop ltInt b j du (Or.inr (by rw [← HG.out, ← HG.out]; exact hl))]]
                                                 case measure => simp [intOf]; omega))
                                         | (at_end
                                            go_roundw
                                            case rel =>
                                              refine ⟨k, s + 1, _, du, rfl, by go_num, by omega, by omega, by omega, hsu, (by first | rfl | exact HW.out | (rw [HW.out]; exact BA _ _ _ _ _ _ _)), ?_⟩
                                              rw [← HO.out, pi_go ltInt a b s i k dk hs HK.out (by omega) (by omega), HD.out, show fixUp ltInt b k dj = du from by unfold fixUp; rw [if_pos (by omega), ← HU.out, shiftUp_stop ltInt b j du (Or.inl (by omega))]]
                                            case measure => simp [intOf]; omega))))
                      | (-- i - a < 2
                         have HD : Hid (fixDown ltInt a k (swp dk k (k - 1)) = (swp dk k (k - 1))) := by
                           show fixDown ltInt a k (swp dk k (k - 1)) = (swp dk k (k - 1))
                           unfold fixDown; rw [if_neg (by omega)]
                         first
                           | (at_end
                              go_roundw
                              case rel =>
                                refine ⟨k, s + 1, _, (swp dk k (k - 1)), rfl, by go_num, by omega, by omega, by omega, hs1, (by first | rfl | exact HW.out | (rw [HW.out]; exact BA _ _ _ _ _ _ _)), ?_⟩
                                rw [← HO.out, pi_go ltInt a b s i k dk hs HK.out (by omega) (by omega), HD.out, show fixUp ltInt b k (swp dk k (k - 1)) = (swp dk k (k - 1)) from by unfold fixUp; rw [if_neg (by omega)]]
                              case measure => simp [intOf]; omega)
                           | (at_loop
                              go_loopw [10] (fun vj wr2 => ∃ (j m3 : Nat) (du : Array Int), vj = .int .i64 j ∧ k + 1 ≤ j ∧ j ≤ b ∧ du.size = d.size ∧ wr2 = putRow AJ (Sort.ahead w m3) blk off du ∧
                                  shiftUp ltInt b j du = shiftUp ltInt b (k + 1) (swp dk k (k - 1))) (fun vj _ => b - (intOf vj).toNat)
                              case atStart => exact ⟨k + 1, _, (swp dk k (k - 1)), by go_num, Nat.le_refl _, by omega, hs1, (by first | rfl | exact HW.out | (rw [HW.out]; exact BA _ _ _ _ _ _ _)), rfl⟩
                              case round =>
                                obtain ⟨j, m3, du, rfl, hkj, hjb, hsu, hw3, hU⟩ := hrel
                                obtain ⟨G, hG⟩ : ∃ G : Nat → Int, ∀ t, G t = du[t]! := ⟨fun t => du[t]!, fun _ => rfl⟩
                                have hcw : ∀ t, t < d.size → wr.cell? ⟨blk, off + t, none⟩ = some (.int .u32 (G t)) := fun t ht => by
                                  rw [hw3, hG]; exact cell?_putRow _ _ _ _ d du (holds_ahead _ _ _ _ _ _ HH.out) hsu t (by omega)
                                have hfw : ∀ t, t < d.size → wr.frozen? ⟨blk, off + t, none⟩ = false := fun t ht => by
                                  rw [hw3, frozen?_putRow]; exact ((holds_ahead _ _ m3 _ _ _ HH.out) t ht).2
                                have HW : Hid (wr = putRow AJ (Sort.ahead w m3) blk off du) := hw3
                                have HG : Hid (∀ t, G t = du[t]!) := hG
                                have HU : Hid (shiftUp ltInt b j du = shiftUp ltInt b (k + 1) (swp dk k (k - 1))) := hU
                                clear hw3 hG hU
                                go_wp2
                                all_goals first
                                  | (at_region 22
                                     go_quiet (first | (go_at_call 65; refine Calls.quiet_of_same (Su.cmp_Less_int _ _ _)))
                                     go_wp2
                                     all_goals first
                                       | (at_region 23
                                          have hl : ltInt (G j) (G (j - 1)) = true := by
                                            have h : (!ltInt (G j) (G (j - 1))) = false := by assumption
                                            simpa using h
                                          go_region
                                          all_goals go_wp2
                                          go_roundw
                                          case rel =>
                                            refine ⟨j + 1, m3 + (nq + 1), swp du j (j - 1), by go_num, by omega, by omega, by rw [size_swp]; exact hsu, ?_, ?_⟩
                                            · rw [HW.out, HG.out, HG.out]
                                              exact GA _ w m3 (nq + 1) blk off du j (j - 1) (by omega) (by omega)
                                            · rw [← HU.out, shiftUp_go ltInt b j du (by omega) (by rw [← HG.out, ← HG.out]; exact hl)]
                                          case measure => simp [intOf]; omega)
                                       | (at_end
                                          have hl : ltInt (G j) (G (j - 1)) = false := by
                                            have h : (!ltInt (G j) (G (j - 1))) = true := by assumption
                                            simpa using h
                                          go_roundw
                                          case rel =>
                                            refine ⟨k, s + 1, _, du, rfl, by go_num, by omega, by omega, by omega, hsu, (by first | rfl | exact HW.out | (rw [HW.out]; exact BA _ _ _ _ _ _ _)), ?_⟩
                                            rw [← HO.out, pi_go ltInt a b s i k dk hs HK.out (by omega) (by omega), HD.out, show fixUp ltInt b k (swp dk k (k - 1)) = du from by unfold fixUp; rw [if_pos (by omega), ← HU.out, shiftUp_stop ltInt b j du (Or.inr (by rw [← HG.out, ← HG.out]; exact hl))]]
                                          case measure => simp [intOf]; omega))
                                  | (at_end
                                     go_roundw
                                     case rel =>
                                       refine ⟨k, s + 1, _, du, rfl, by go_num, by omega, by omega, by omega, hsu, (by first | rfl | exact HW.out | (rw [HW.out]; exact BA _ _ _ _ _ _ _)), ?_⟩
                                       rw [← HO.out, pi_go ltInt a b s i k dk hs HK.out (by omega) (by omega), HD.out, show fixUp ltInt b k (swp dk k (k - 1)) = du from by unfold fixUp; rw [if_pos (by omega), ← HU.out, shiftUp_stop ltInt b j du (Or.inl (by omega))]]
                                     case measure => simp [intOf]; omega)))))
        · -- the scan has come to b: true
          go_quiet (first | (go_at_call 65; refine Calls.quiet_of_same (Su.cmp_Less_int _ _ _)))
          go_wp2
          obtain rfl : k = b := by omega
          have hv : Sort.partialInsertionSort ltInt d a k = (dk, true) := by
            unfold Sort.partialInsertionSort
            rw [← HO.out, pi_true ltInt a k s i dk hs (by rw [← HS.out, scanSorted_stop ltInt dk k k (Or.inl (by omega))])]
          rw [hv]
          go_ret
          exact ⟨rfl, m + nq, by rw [HW.out]; exact BA _ _ _ _ _ _ _⟩
    · -- five steps are done: false
      obtain rfl : s = 5 := by omega
      have hv : Sort.partialInsertionSort ltInt d a b = (dk, false) := by
        unfold Sort.partialInsertionSort
        rw [← HO.out, pi_end]
      rw [hv]
      go_ret
      exact ⟨rfl, n, rfl⟩
end Go.Proofs.YtkgikodiecmakaaGreatDoor
