/- TracePlays: lemmas, from 'Small lemmas for walks, over any program' on; what each asks for stands in it. -/
import Derived.WalkKit
import Derived.Below
import Derived.Handy
import Derived.Outline
import Derived.WalkLawsBesides
import Derived.WalkSpells
import Derived.BigQuiet
import Derived.Deep.QuietTactic
import Derived.Deep.RegionHeld3
import Derived.Lib.Hide
import Derived.ProofKit
import Derived.OpenShut
import Derived.Lib.SmallJoins
import Derived.Test.YtkgikodiecmakaaGreatDoorRows
import Derived.ChangeOld
import Derived.Laws.CopyOwn
import Derived.Laws.Rows
import Derived.Laws.OwnMore
import Derived.Laws.AppendOwn
import Derived.StillTailTactics
import Derived.Deep.AppendLies
import Derived.Laws.AppendOwnNone
import Derived.Deep.RegionLaw
set_option linter.all false
set_option maxRecDepth 100000
set_option maxHeartbeats 64000000
namespace Go.Proofs.YtkgikodiecmakaaGreatDoor
open Go.RowKit
theorem CR {k:IntKind} {a b:Int} (h:a=b):Ending.returned (.int k a) = .returned (.int k b):=by rw[h]
theorem GM {a b:Bool} (h:a=b):Ending.returned (.bool a) = .returned (.bool b):=by rw[h]
theorem UI {n:Int} (h:(Lit.int .u32 n).wf=true):0≤n∧n≤4294967295:=by
 simp[Lit.wf,IntKind.min,IntKind.max,IntKind.bits,IntKind.signed] at h;omega
theorem wf_u8 {n:Int} (h:(Lit.int .u8 n).wf=true):0≤n∧n≤255:=by
 simp[Lit.wf,IntKind.min,IntKind.max,IntKind.bits,IntKind.signed] at h;omega
theorem AB {p:Prop} (h:p):Hid p:=h
end Go.Proofs.YtkgikodiecmakaaGreatDoor
namespace Go.Proofs.YtkgikodiecmakaaGreatDoor
open Go.ChangeShapes Go.WideShapes Go.ChangeAt Go.RowKit
noncomputable def readsAll (P:Program) (ts:List TypeId):Bool:=ts.all fun t=>P.readableRec t&&decide (t<P.types.size)
section
variable {H : Type} {enc : TypeId × Value → H} {P : Program}
theorem bT {w:World} {base:Nat} {spare:Nat→Bool} {held:Bool}: ∀(ts:List TypeId) (vs:List Value) (ds:List (DataW H)) (ps:List MemPlace),DataW.TrodAll enc P w base spare held ts vs ds ps→ds.length=ts.length:=by
 intro ts;induction ts with
 |nil=>
  intro vs ds ps h;obtain⟨rfl,rfl,rfl⟩:=trodAll_nil h;rfl
 |cons t ts ih=>
  intro vs ds ps h;obtain⟨v,vs',d,ds',a,b,rfl,rfl,rfl,h1,h2⟩:=trodAll_cons h;simp[ih _ _ _ h2]
theorem VF (laidOut:laidOutB P=true) {W W':World} (hb:Below W.heap.size W W'): ∀(ts:List TypeId) (vs:List Value) (ds:List (DataW H)) (ps:List MemPlace),readsAll P ts=true→
  DataW.TrodAll enc P W 0 (fun _=>true) true ts vs ds ps→(∀x∈ps,x.block<W.heap.size)→DataW.TrodAll enc P W' 0 (fun b=>decide (b<W.heap.size)) true ts vs ds ps:=by
 intro ts;induction ts with
 |nil=>
  intro vs ds ps _ h _;obtain⟨rfl,rfl,rfl⟩:=trodAll_nil h;exact trodAll_mk0
 |cons t ts ih=>
  intro vs ds ps hr h hlt;obtain⟨v,vs',d,ds',a,b,rfl,rfl,rfl,h1,h2⟩:=trodAll_cons h;simp only[readsAll,List.all_cons,Bool.and_eq_true,decide_eq_true_eq] at hr;exact trodAll_cons_mk (Below.trod laidOut hr.1.1 hr.1.2 h1 hb (fun x hx=>hlt x (List.mem_append_left _ hx))) (ih _ _ _ (by simpa only[readsAll,List.all_eq_true,Bool.and_eq_true,decide_eq_true_eq] using hr.2) h2 (fun x hx=>hlt x (List.mem_append_right _ hx)))
end
theorem own:ownKnob Tryz.prog.godebug=none:=by kernel_rfl
theorem laidOut:laidOutB Tryz.prog=true:=by kernel_rfl
end Go.Proofs.YtkgikodiecmakaaGreatDoor
namespace Go.Proofs.YtkgikodiecmakaaGreatDoor
open Go.RowKit
def Blk (w:World) (g:Nat) (t:TypeId) (cs:List Value):Prop:=w.heap[g]? = some (.cells cs.toArray t (0,0))
structure Only (L : List Nat) (w w' : World) : Prop where
  os : w'.os = w.os
  tape : w'.tape = w.tape
  output : w'.output = w.output
  size : w.heap.size ≤ w'.heap.size
  block : ∀ k, k < w.heap.size → k ∉ L → w'.heap[k]? = w.heap[k]?
section
variable {w w' w1 w2 : World} {L L' : List Nat} {g : Nat} {t : TypeId} {cs : List Value}
theorem Only.refl (L:List Nat) (w:World):Only L w w:=⟨rfl,rfl,rfl,Nat.le_refl _,fun _ _ _=>rfl⟩
theorem Only.trans (h:Only L w w1) (k:Only L' w1 w2) (hL: ∀x∈L',x∈L∨w.heap.size≤x):Only L w w2:=
 ⟨k.os.trans h.os,k.tape.trans h.tape,k.output.trans h.output,Nat.le_trans h.size k.size,fun i hi hn=>
  (k.block i (Nat.lt_of_lt_of_le hi h.size) (fun hm=>by
   rcases hL i hm with h1|h1;·exact hn h1
   ·omega)).trans (h.block i hi hn)⟩
theorem Only.mono (h:Only L w w') (hL: ∀x∈L,x∈L'):Only L' w w':=⟨h.os,h.tape,h.output,h.size,fun i hi hn=>h.block i hi (fun hm=>hn (hL i hm))⟩
theorem Only.alloc (h:Only L w w') (o:Obj):Only L w (w'.alloc o):=
 ⟨h.os,h.tape,h.output,Nat.le_trans h.size (by simp),fun i hi hn=>(Below.heap_alloc w' o i (Nat.lt_of_lt_of_le hi h.size)).trans (h.block i hi hn)⟩
theorem Only.drew (h:Only L w w'):Only L w w'.drew:=⟨h.os,h.tape,h.output,h.size,h.block⟩
theorem Only.drewN (h:Only L w w') (n:Nat):Only L w (w'.drewN n):=⟨h.os,h.tape,h.output,h.size,h.block⟩
theorem Only.setCell (h:Only L w w') {p:Addr} (hp:p.block∈L∨w.heap.size≤p.block) (u:Value):Only L w (w'.setCell p u):=
 ⟨h.os,h.tape,h.output,by simpa[World.setCell] using h.size,fun i hi hn=>(Below.heap_setCell w' p u i (fun e=>by
  subst e;rcases hp with hp|hp;·exact hn hp
  ·omega)).trans (h.block i hi hn)⟩
theorem Only.below (h:Only L w w') {B:Nat} (hB:B≤w.heap.size) (hL: ∀x∈L,B≤x):Below B w w':=
 ⟨h.os,h.tape,h.output,h.size,fun k hk=>h.block k (by omega) (fun hm=>by have:=hL k hm;omega)⟩
theorem UT (h:Below w.heap.size w w'):Only [] w w':=⟨h.os,h.tape,h.output,h.size,fun i hi _=>h.block i hi⟩
theorem FJ {row:Option Nat} (h:w.grownBy w' row):Only row.toList w w':=⟨h.os,h.tape,h.output,h.size,fun i hi hn=>h.block i hi (fun e=>hn (by simp[←e]))⟩
theorem Blk.lt (h:Blk w g t cs):g<w.heap.size:=by
 rcases Nat.lt_or_ge g w.heap.size with hlt|hge;·exact hlt
 ·unfold Blk at h;rw[Array.getElem?_eq_none hge] at h;cases h
theorem Blk.cell (h:Blk w g t cs) (i:Nat):w.cell? ⟨g,i,none⟩=cs[i]? :=by
 have:=cell_of_row w g i cs.toArray t (0,0) h;simpa using this
theorem Blk.frozen (h:Blk w g t cs) (i:Nat):w.frozen? ⟨g,i,none⟩=false:=by
 unfold Blk at h;simp[World.frozen?,h]
theorem Blk.new (w:World) (t:TypeId) (cs:List Value):Blk (w.alloc (.cells cs.toArray t)) w.heap.size t cs:=heap_alloc_new w _
theorem Blk.drew (h:Blk w g t cs):Blk w.drew g t cs:=h
theorem Blk.alloc (h:Blk w g t cs) (o:Obj):Blk (w.alloc o) g t cs:=(Below.heap_alloc w o g h.lt).trans h
theorem Blk.set_ (h:Blk w g t cs) (i:Nat) (u:Value):Blk (w.setCell ⟨g,i,none⟩ u) g t (cs.set i u):=by
 unfold Blk at h⊢;simp[World.setCell,Array.getElem?_modify,h]
theorem Blk.far (h:Blk w g t cs) {p:Addr} (hp:g≠p.block) (u:Value):Blk (w.setCell p u) g t cs:=(Below.heap_setCell w p u g hp).trans h
theorem Blk.only (h:Blk w g t cs) (hb:Only L w w') (hg:g∉L):Blk w' g t cs:=(hb.block g h.lt hg).trans h
theorem MF (h:Blk w g t cs) (ds:List Value):Blk (w.setRow g ds.toArray) g t ds:=setRow_heap w g _ _ t _ h
theorem JB (w:World) (g:Nat) (ds:Array Value):Only [g] w (w.setRow g ds):=
 ⟨rfl,rfl,rfl,by simp[World.setRow],fun k _ hn=>setRow_other w g k ds (by simpa using hn)⟩
end
def u8s (l:List Int):List Value:=l.map (.int .u8)
theorem NP (l:List Int) (i:Nat):(u8s l)[i]? = (l[i]?).map (.int .u8):=by simp[u8s]
theorem u8s_one (l:List Int): ∀v∈u8s l,v.oneCell'=true:=by
 intro v hv;simp[u8s] at hv;obtain⟨a,_,rfl⟩:=hv;rfl
end Go.Proofs.YtkgikodiecmakaaGreatDoor
namespace Go.Proofs.YtkgikodiecmakaaGreatDoor
open Go.RowKit
def Rd (w:World) (A:Option Addr) (l:List Int):Prop:=
 0<l.length→∃b off,A=some ⟨b,off,none⟩∧b<w.heap.size∧∀i v,l[i]? = some v→w.cell? ⟨b,off+i,none⟩=some (.int .u8 v)
theorem Rd.only {w w':World} {A:Option Addr} {l:List Int} (h:Rd w A l) (hb:Only [] w w'):Rd w' A l:=by
 intro h0;obtain⟨b,off,rfl,hlt,hc⟩:=h h0;exact⟨b,off,rfl,Nat.lt_of_lt_of_le hlt hb.size,fun i v hi=>(World.cell?_of_block (w:=w) (hb.block b hlt (by simp))).trans (hc i v hi)⟩
end Go.Proofs.YtkgikodiecmakaaGreatDoor
namespace Go.Proofs.YtkgikodiecmakaaGreatDoor
open Go.RowKit
theorem u8infos:(Tryz.prog.info? 5).map (fun i=>(i.zero,i.size,i.bytes))=some (some (.int .u8 0),1,1):=by kernel_rfl
def JP (w:World) (base:Nat) (v:Value) (l:List Int):Prop:=w.ownsRow base 5 1 v l.length (u8s l)
section
variable {w w' : World} {base : Nat} {v : Value} {l : List Int} {L : List Nat}
theorem TA (w:World) (base:Nat) (l:List Int) (hb:base≤w.heap.size) (hl:l.length≤maxLen):JP (w.alloc (.cells (u8s l).toArray 5)) base (.slice (some ⟨w.heap.size,0,none⟩) l.length l.length) l:=by
 have:=World.ownsRow_lit (w:=w) (base:=base) (e:=5) (size:=1) (u8s l).toArray l.length hb hl (by simp[u8s]);simpa[JP] using this
theorem JP.rd (h:JP w base v l): ∃A cap,v = .slice A l.length cap∧Rd w A l∧l.length≤cap∧cap≤maxLen∧(∀a,A=some a→base≤a.block):=by
 rcases h.2 with⟨e,hn⟩|⟨g,cap,cur,e,hg,hh,hc,hm,hs,ht⟩;·exact⟨none,0,by rw[e,hn],fun h0=>absurd h0 (by omega),by omega,by simp[maxLen],fun a ha=>by cases ha⟩
 ·refine⟨some ⟨g,0,none⟩,cap,e,fun _=>⟨g,0,rfl,(Array.getElem?_eq_some_iff.1 hh).1,fun i x hx=>?_⟩,hc,hm,fun a ha=>by injection ha with ha;rw[←ha];exact hg⟩;subst e;have:=World.ownsRow.cells h (g:=g) rfl i (.int .u8 x) (by rw[NP,hx];rfl);simpa[Addr.add_lit] using this
end
theorem Rd.news {w:World} {A:Option Addr} {l:List Int} (h:Rd w A l) (h0:0<l.length): ∃ad,A=some ad∧∀j u,(u8s l)[j]? = some u→w.cell? (ad.add j)=some u:=by
 obtain⟨b,off,rfl,_,hc⟩:=h h0;refine⟨_,rfl,fun j u hu=>?_⟩;rw[NP] at hu;simp at hu;obtain⟨x,hx,rfl⟩:=hu;have:=hc j x hx;simpa[Addr.add_lit] using this
theorem run_app {w:World} (ty:TypeId) (base:Nat) (v:Value) (l:List Int) (hown:JP w base v l) (A:Option Addr) (c:Nat) (m:List Int) (hr:Rd w A m)
  (hlen:l.length+m.length≤140737488355328) (hbase:base≤w.heap.size) :
  ∃v' w',(Builtin.append_ #[34,34] ty #[v,.slice A m.length c]).run Tryz.prog w = .ok v' w'∧JP w' base v' (l++m)∧Only v.ownBlock.toList w w'∧(v' = .slice none 0 0↔v = .slice none 0 0∧m.length=0):=by
 obtain⟨i0,hi,hz0,hz1,hz2⟩:=info_parts u8infos;have hu:=Tryz.underlying34;by_cases h0:0<m.length
 ·obtain⟨ad,rfl,hn⟩:=hr.news h0;obtain⟨v',w',e,h1,h2,h3⟩:=run_append_own (P:=Tryz.prog) w base 34 ty 5 i0 (.int .u8 0) 1 1 hu hi hz0 hz1 hz2 rfl (by decide) v l.length (u8s l) hown ad m.length c (u8s m) (by simp[u8s]) hn (u8s_one m) (by simp only[maxLen];omega) (by omega) hbase;exact⟨v',w',e,by show World.ownsRow _ _ _ _ _ _ _;simpa[u8s] using h1,FJ h2,h3⟩
 ·have e0:m=[]:=List.eq_nil_of_length_eq_zero (by omega);subst e0;refine⟨v,w,?_,by rw[List.append_nil];exact hown,Only.refl _ _,by simp⟩;have hf: ∀w':World,(Builtin.firstCells 1 0 (.slice A 0 c)).run Tryz.prog w' = .ok #[] w':=by
   intro w';cases A<;>simp[Builtin.firstCells,loadCells,loadCellsFrom]
  rcases hown.2 with⟨rfl,hn⟩|⟨g,cap,cur,rfl,_,_,hnc,_⟩;·cases A<;>simp[Builtin.append_,run_underlying hu,sizeOf,typeInfo,hi,hz1,Builtin.lenOf,hf]
  ·cases A<;>simp[Builtin.append_,run_underlying hu,sizeOf,typeInfo,hi,hz1,Builtin.lenOf,hf,hnc,storeCells]
end Go.Proofs.YtkgikodiecmakaaGreatDoor
namespace Go.Proofs.YtkgikodiecmakaaGreatDoor
open Go.RowKit
theorem run_app2 {w:World} (ty:TypeId) (base:Nat) (v:Value) (l:List Int) (hown:JP w base v l) (A:Option Addr) (c:Nat) (m:List Int) (hr:Rd w A m)
  (hlen:l.length+m.length≤140737488355328) (hbase:base≤w.heap.size) :
  ∃v' w',(Builtin.append_ #[34,34] ty #[v,.slice A m.length c]).run Tryz.prog w = .ok v' w'∧JP w' base v' (l++m)∧Only v.ownBlock.toList w w'∧(v' = .slice none 0 0↔v = .slice none 0 0∧m.length=0)∧
   (v'.ownBlock=v.ownBlock∨v'.ownBlock=some w.heap.size):=by
 obtain⟨v',w',e,h1,h2,h3⟩:=run_app ty base v l hown A c m hr hlen hbase;refine⟨v',w',e,h1,h2,h3,?_⟩;obtain⟨i0,hi,hz0,hz1,hz2⟩:=info_parts u8infos;have hu:=Tryz.underlying34;have hsm:((u8s m).length=m.length*i0.size):=by rw[hz1];simp[u8s]
 by_cases h0:0<m.length
 ·obtain⟨ad,rfl,hn⟩:=hr.news h0;rcases hown.2 with⟨rfl,hn0⟩|⟨g,cap,cur,rfl,hg,hh,hc,hm,hs,ht⟩
  ·have:=run_append_nil (P:=Tryz.prog) w 34 ty 5 i0 (.int .u8 0) hu hi hz0 ad m.length c (u8s m) hsm hn h0 (by omega) (by rw[hz2];omega);rw[this] at e;injection e with e1 e2;right;rw[←e1];rfl
  ·by_cases hroom:l.length+m.length≤cap
   ·obtain⟨w2,e2,_⟩:=run_append_fits (P:=Tryz.prog) w base 34 ty 5 i0 1 hu hi hz1 g l.length cap (u8s l) hown ad m.length c (u8s m) (by simp[u8s]) hn (u8s_one m) hroom;rw[e2] at e;injection e with e1 _;left;rw[←e1];rfl
   ·have holds: ∀j u,(u8s l)[j]? = some u→w.cell? ((⟨g,0,none⟩:Addr).add j)=some u:=World.ownsRow.cells hown (g:=g) rfl;have:=run_append_grow (P:=Tryz.prog) w 34 ty 5 i0 (.int .u8 0) hu hi hz0 ⟨g,0,none⟩ l.length cap (u8s l) (by rw[hz1];simp[u8s]) holds ad m.length c (u8s m) hsm hn (by omega) (by omega) (growslice_fits (by omega) (by rw[hz2];omega));rw[this] at e;injection e with e1 _;right;rw[←e1];rfl
 ·have e0:m=[]:=List.eq_nil_of_length_eq_zero (by omega);subst e0;have hf: ∀w':World,(Builtin.firstCells 1 0 (.slice A 0 c)).run Tryz.prog w' = .ok #[] w':=by
   intro w';cases A<;>simp[Builtin.firstCells,loadCells,loadCellsFrom]
  have:(Builtin.append_ #[34,34] ty #[v,.slice A 0 c]).run Tryz.prog w = .ok v w:=by
   rcases hown.2 with⟨rfl,hn⟩|⟨g,cap,cur,rfl,_,_,hnc,_⟩;·cases A<;>simp[Builtin.append_,run_underlying hu,sizeOf,typeInfo,hi,hz1,Builtin.lenOf,hf]
   ·cases A<;>simp[Builtin.append_,run_underlying hu,sizeOf,typeInfo,hi,hz1,Builtin.lenOf,hf,hnc,storeCells]
  rw[show([]:List Int).length=0 from rfl,this] at e;injection e with e1 _;left;rw[e1]
theorem cA {w:World} {ops:Array Oper} {rest:List Oper} {o:Oper} {a:Act} {Q:Exit→Act→World→Prop} (hgd:o.guard=none) (s x:Operand)
  (ho:o.op = .call { callee:=.builtin .append,args:=#[s,x],argTypes:=#[34,34] })
  (base:Nat) (v:Value) (l:List Int) (hs:a.eval s=v) (hown:JP w base v l) (A:Option Addr) (c:Nat) (m:List Int) (hx:a.eval x = .slice A m.length c) (hr:Rd w A m)
  (hlen:l.length+m.length≤140737488355328) (hbase:base≤w.heap.size)
  (h: ∀v' w',Hid (JP w' base v' (l++m))→Only v.ownBlock.toList w w'→Hid (v'.ownBlock=v.ownBlock∨v'.ownBlock=some w.heap.size)→wpList Tryz.prog ops Q rest (a.put o.dst v') w'):wpList Tryz.prog ops Q (o::rest) a w:=by
 refine wpList_plain hgd fun K hK=>?_;obtain⟨v',w',hrun,h1,h2,_,h3⟩:=run_app2 o.type base v l hown A c m hr hlen hbase;unfold Oper.wp execOp;simp only[ho,resolve,invoke,builtin,Sem.run_bind,Sem.run_pure,Result.andThen_ok,List.map_toArray,List.map_cons,List.map_nil,hs,hx,hrun];exact hK _ _ (h v' w' h1 h2 h3)
end Go.Proofs.YtkgikodiecmakaaGreatDoor
namespace Go.Proofs.YtkgikodiecmakaaGreatDoor
open Go.RowKit
theorem LM {w:World} {ops:Array Oper} {rest:List Oper} {o:Oper} {a:Act} {Q:Exit→Act→World→Prop} (hgd:o.guard=none) (s x:Operand)
  (ho:o.op = .call { callee:=.builtin .append,args:=#[s,x],argTypes:=#[34,34] })
  (base:Nat) (v:Value) (l:List Int) (hs:a.eval s=v) (hown:JP w base v l) (A:Option Addr) (c:Nat) (m:List Int) (k:Nat) (hk:m.length=k) (hx:a.eval x = .slice A k c) (hr:Rd w A m)
  (hlen:l.length+m.length≤140737488355328) (hbase:base≤w.heap.size)
  (h: ∀v' w',Hid (JP w' base v' (l++m))→Only v.ownBlock.toList w w'→Hid (v'.ownBlock=v.ownBlock∨v'.ownBlock=some w.heap.size)→wpList Tryz.prog ops Q rest (a.put o.dst v') w'):wpList Tryz.prog ops Q (o::rest) a w:=by
 subst hk;exact cA hgd s x ho base v l hs hown A c m hx hr hlen hbase h
def MC (v v':Value) (H:Nat):Prop:=v'.ownBlock=v.ownBlock∨v'.ownBlock=some H
end Go.Proofs.YtkgikodiecmakaaGreatDoor
