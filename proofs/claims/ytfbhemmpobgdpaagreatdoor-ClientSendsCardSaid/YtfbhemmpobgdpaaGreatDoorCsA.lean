/- ClientSends: lemmas, from 'A region that draws its order: some operations that yield in' on; what each asks for stands in it. -/
import Derived.StillTailTactics
import Derived.Deep.QuietTactic
import Derived.WalkKit
import Derived.Below
import Derived.Handy
import Derived.Outline
import Derived.WalkLawsBesides
import Derived.WalkSpells
import Derived.BigQuiet
import Derived.Deep.RegionHeld3
import Derived.Lib.Hide
import Derived.ProofKit
import Derived.OpenShut
import Derived.Lib.SmallJoins
import Derived.Test.YtfbhemmpobgdpaaGreatDoorRows
import Derived.ChangeOld
import Derived.Laws.CopyOwn
import Derived.Laws.Rows
import Derived.Laws.OwnMore
import Derived.Laws.AppendOwn
import Derived.Deep.AppendLies
import Derived.Laws.AppendOwnNone
import Derived.Deep.RegionLaw
set_option linter.all false
set_option maxRecDepth 100000
set_option maxHeartbeats 64000000
namespace Go.Proofs.YtfbhemmpobgdpaaGreatDoor
section
variable {P:Program} {ops:Array Oper} {md:Region.Mode} {w:World}
def seqL (md:Region.Mode) (ops:Array Oper):List Nat->Array Bool->Bool
 |[],listed=>(Region.ready md ops listed).isEmpty
 |t::r,listed=>decide (Region.ready md ops listed=[t])&&seqL md ops r (listed.setIfInBounds t true)
def pick (ops:Array Oper) (is:List Nat):List Oper:=is.filterMap fun i=>ops[i]?
def closedL (md:Region.Mode) (ops:Array Oper) (listed:Array Bool):Bool:=
 (List.range ops.size).all fun j=>!listed.getD j false||match ops[j]? with
  |some oj=>oj.after.all fun e=>!Region.binds md e||listed.getD e.on false
  |none=>true
end
end Go.Proofs.YtfbhemmpobgdpaaGreatDoor
namespace Go.Proofs.YtfbhemmpobgdpaaGreatDoor
section
variable {P:Program} {ops:Array Oper} {md:Region.Mode} {Q:Exit -> Act -> World -> Prop} {I:World -> Prop} {es:List Nat}
def noE (es:List Nat) (listed:Array Bool):Prop:=∀e∈es,listed.getD e true=false
def BI (P:Program) (md:Region.Mode) (ops:Array Oper) (Q:Exit->Act->World->Prop) (I:World->Prop) (es:List Nat):Nat->Array Bool->Act->World->Prop
 |0,listed,a,w=>(noE es listed->I w)/\Region.ready md ops listed=[]/\Q .normal a w
 |f+1,listed,a,w=>(noE es listed->I w)/\(Region.ready md ops listed=[]->Q .normal a w)/\∀i∈Region.ready md ops listed,wpOp P ops Q i (BI P md ops Q I es f (listed.setIfInBounds i true)) a w
theorem BI.inv {f:Nat} {listed:Array Bool} {a:Act} {w:World} (h:BI P md ops Q I es f listed a w):noE es listed->I w:=by cases f<;>exact h.1
theorem YW: ∀(f:Nat) (listed:Array Bool) (a:Act) (w:World),BI P md ops Q I es f listed a w->wpAny P md ops Q f listed a w
 |0,_,_,_,h=>h.2
 |f+1,_,_,_,h=>⟨h.2.1,fun i hi=>wpOp_mono (fun a' w' h'=>YW f _ a' w' h') (h.2.2 i hi)⟩
theorem lF (Y:Act->Prop) {j:Nat} {oi oj:Oper} {v:Value} (hj:ops[j]? = some oj) (hap:oi.apart ops oj=true) (hsj: ∀cs b,oj.op≠.select cs b)
  (keep: ∀a,Y a->∀u,Y (a.put oj.dst u)) (keepD: ∀a,Y a->∀d,Y { a with defers:=d::a.defers })
  (hQ: ∀c a w,Q (.panic c) (a.put oi.dst v) w->Q (.panic c) a w) {K:Act->World->Prop} {a:Act} {w:World}
  (hy:Y a) (h:wpOp P ops Q j K (a.put oi.dst v) w):wpOp P ops Q j (fun a' w'=>Y a'/\K (a'.put oi.dst v) w') a w:=by
 obtain⟨h1,h2,_⟩:=Oper.apart_spec hap;unfold wpOp at *;simp only[hj] at *;rw[wanted_put oj a oi.dst v h1] at h;by_cases hw:Region.wanted oj (yielded ops a.tmps)=true
 ·simp only[hw,if_true] at h⊢;rcases h with h|⟨hasks,hlets⟩
  ·refine .inl ?_;unfold Oper.wp at *;rw[execOp_put oj hsj a oi.dst v h1] at h;generalize (execOp a.eval oj).run P w=r at *;cases r with
   |ok n w'=>
    cases n<;>simp only[Oper.upon] at h⊢
    case value u=>exact⟨keep a hy u,by rw[<-Act.put_comm a v u h2];exact h⟩
    case skip=>exact⟨keep a hy _,by rw[<-Act.put_comm a v undef h2];exact h⟩
    case defer d=>exact⟨keep _ (keepD a hy d) _,by rw[<-Act.put_comm _ v undef h2,<-Act.put_defers];exact h⟩
    case row row args=>exact Rows.mono h fun u w'' he=>⟨keep a hy u,by rw[<-Act.put_comm a v u h2];exact he⟩
    case enter f args=>
     refine Calls.mono h fun e w'' he=>?_;cases e with
     |returned u=>exact⟨keep a hy u,by rw[<-Act.put_comm a v u h2];exact he⟩
     |panicked c=>exact hQ _ _ _ he
     |outgrown=>exact he
   |halt x w'=>
    cases x<;>simp only[Oper.upon] at h⊢
    case panic u=>exact hQ _ _ _ h
  ·exact .inr ⟨by unfold Oper.asks at *;rw[execOp_put oj hsj a oi.dst v h1] at hasks;exact hasks,hlets⟩
 ·simp only[hw] at h⊢;exact⟨keep a hy _,by rw[<-Act.put_comm a v undef h2];exact h⟩
def LT (md:Region.Mode) (ops:Array Oper):Nat->Nat->Nat->Bool
 |0,_,_=>false
 |f+1,j,i=>match ops[j]? with
  |some oj=>oj.after.any fun e=>Region.binds md e&&(e.on==i||LT md ops f e.on i)
  |none=>false
def FF (md:Region.Mode) (ops:Array Oper) (listed:Array Bool):Prop:=
 listed.size=ops.size/\∀j oj,ops[j]? = some oj->listed.getD j false=true->∀e∈oj.after,Region.binds md e=true->listed.getD e.on false=true
theorem FF.set {i:Nat} {listed:Array Bool} (inv:FF md ops listed) (hi:i∈Region.ready md ops listed):FF md ops (listed.setIfInBounds i true):=by
 obtain⟨_,oi,hoi,hall⟩:=mem_ready.1 hi;refine⟨by simp[inv.1],fun j oj hj hl e he hb=>?_⟩;by_cases hij:i=j
 ·subst hij;obtain rfl:oj=oi:=Option.some.inj (hj.symm.trans hoi);exact getD_set_true (hall e he hb)
 ·rw[getD_set_ne false hij] at hl;exact getD_set_true (inv.2 j oj hj hl e he hb)
theorem PS {listed:Array Bool} (inv:FF md ops listed): ∀(f j i:Nat),LT md ops f j i=true->listed.getD j false=true->listed.getD i false=true
 |0,_,_,h,_=>by simp[LT] at h
 |f+1,j,i,h,hl=>by
  unfold LT at h;split at h
  ·rename_i oj hj;obtain⟨e,he,hb⟩:=Array.any_eq_true'.1 h;simp only[Bool.and_eq_true,Bool.or_eq_true,beq_iff_eq] at hb;have h1:=inv.2 j oj hj hl e he hb.1;rcases hb.2 with h2|h2;·rw[<-h2];exact h1
   ·exact PS inv f e.on i h2 h1
  ·cases h
theorem SJ {listed:Array Bool} (inv:FF md ops listed) {f j i:Nat} (h:LT md ops f j i=true) (hr:j∈Region.ready md ops listed):listed.getD i false=true:=by
 obtain⟨_,oj,hoj,hall⟩:=mem_ready.1 hr;cases f with
 |zero=>simp[LT] at h
 |succ f=>
  simp only[LT,hoj] at h;obtain⟨e,he,hb⟩:=Array.any_eq_true'.1 h;simp only[Bool.and_eq_true,Bool.or_eq_true,beq_iff_eq] at hb;have h1:=hall e he hb.1;rcases hb.2 with h2|h2;·rw[<-h2];exact h1
  ·exact PS inv f e.on i h2 h1
theorem ZR {w:World} {oi oj:Oper} {v:Value} {a:Act} (hap:oi.apart ops oj=true) (hsi: ∀cs b,oi.op≠.select cs b) (hy:YieldsAt P ops w oi v a) (u:Value):YieldsAt P ops w oi v (a.put oj.dst u):=by
 obtain⟨_,_,h3⟩:=Oper.apart_spec hap;exact hy.of_same (execOp_put oi hsi a oj.dst u h3) (wanted_put oi a oj.dst u h3)
theorem takeE {i:Nat} {oi:Oper} {v:Value} (hi:ops[i]? = some oi) (hsel: ∀(j:Nat) (o:Oper) cs b,ops[j]? = some o->o.op≠.select cs b)
  (hQ: ∀c a w,Q (.panic c) (a.put oi.dst v) w->Q (.panic c) a w) (F:Nat) (hb: ∀e∈es,LT md ops F e i=true) :
  ∀(f:Nat) (listed:Array Bool) (a:Act) (w:World),FF md ops listed->noE es listed->I w->
   (∀j oj,ops[j]? = some oj->j≠i->listed.getD j true=false->(∀e∈oj.after,Region.binds md e=true->e.on≠i)->oi.apart ops oj=true)->
   i∈Region.ready md ops listed->(∀w',I w'->YieldsAt P ops w' oi v a)->
   BI P md ops Q I es f (listed.setIfInBounds i true) (a.put oi.dst v) w->BI P md ops Q I es (f+1) listed a w:=by
 intro f;induction f with
 |zero=>
  intro listed a w inv hn hI _ hr hy H;refine⟨fun _=>hI,fun h=>(by rw[h] at hr;cases hr),fun j hj=>?_⟩;by_cases hji:j=i
  ·subst hji;exact wpOp_of_stOp (K:=fun a'=>BI P md ops Q I es 0 (listed.setIfInBounds j true) a' w) (fun _ h=>h) ((hy w hI).stOp hi H)
  ·have:=ready_mono hj hji;rw[H.2.1] at this;cases this
 |succ f ih=>
  intro listed a w inv hn hI hfree hr hy H;have hun:=(mem_ready.1 hr).1;refine⟨fun _=>hI,fun h=>(by rw[h] at hr;cases hr),fun j hj=>?_⟩;by_cases hji:j=i
  ·subst hji;exact wpOp_of_stOp (K:=fun a'=>BI P md ops Q I es (f+1) (listed.setIfInBounds j true) a' w) (fun _ h=>h) ((hy w hI).stOp hi H)
  ·have h1:=H.2.2 j (ready_mono hj hji);obtain⟨hjun,oj,hoj,hall⟩:=mem_ready.1 hj;have hjE:j∉es:=fun he=>by
    have:=SJ inv (hb j he) hj;rw[getD_both hun] at this;cases this
   have hnot: ∀e∈oj.after,Region.binds md e=true->e.on≠i:=fun e he hbb heq=>by
    have h1:=hall e he hbb;rw[heq,getD_both hun] at h1;cases h1
   have hap:=hfree j oj hoj hji hjun hnot;have h2:=lF (Y:=fun a'=>∀w',I w'->YieldsAt P ops w' oi v a') hoj hap (fun cs b=>hsel j oj cs b hoj) (fun a' h u w' hw'=>ZR hap (fun cs b=>hsel i oi cs b hi) (h w' hw') u)
    (fun a' h d w' hw'=>(h w' hw').of_same rfl rfl) hQ hy h1
   refine wpOp_mono (fun a' w' h3=>?_) h2;have hn2:noE es (listed.setIfInBounds j true):=fun e he=>by
    have:j≠e:=fun h=>hjE (h ▸ he);rw[getD_set_ne true this];exact hn e he
   have hI':I w':=h3.2.inv (fun e he=>by
    have h4:j≠e:=fun h=>hjE (h ▸ he);have h5:i≠e:=fun h=>by
     subst h;have:=hb i he;exact absurd (SJ inv this hr) (by rw[getD_both hun];simp)
    rw[getD_set_ne true h4,getD_set_ne true h5];exact hn e he)
   refine ih (listed.setIfInBounds j true) a' w' (inv.set hj) hn2 hI' (fun k ok hk hki hun' hno=>?_) (ready_mono hr (Ne.symm hji)) h3.1 ?_
   ·refine hfree k ok hk hki ?_ hno;by_cases hjk:j=k
    ·subst hjk;exact hjun
    ·rw[getD_set_ne true hjk] at hun';exact hun'
   ·rw[Array.setIfInBounds_comm _ _ hji];exact h3.2
def takeB (md:Region.Mode) (ops:Array Oper) (es:List Nat) (listed:Array Bool) (i:Nat):Bool:=
 Region.noSelect ops&&decide (listed.size=ops.size)&&closedL md ops listed&&(es.all fun e=>!listed.getD e true)&&(es.all fun e=>LT md ops ops.size e i)&&(Region.ready md ops listed).contains i&&Region.free md ops listed i
theorem cU {listed:Array Bool} (hsz:listed.size=ops.size) (hcl:closedL md ops listed=true):FF md ops listed:=by
 refine⟨hsz,fun j oj hj hl e he hb=>?_⟩;have hjl:j<ops.size:=(Array.getElem?_eq_some_iff.1 hj).1;have h1:=List.all_eq_true.1 hcl j (List.mem_range.2 hjl);simp only[hl,hj,Bool.not_true,Bool.false_or,Array.all_eq_true_iff_forall_mem,Bool.or_eq_true,Bool.not_eq_true'] at h1;rcases h1 e he with h2|h2;·rw[hb] at h2;cases h2
 ·exact h2
theorem AA {f:Nat} {listed:Array Bool} {a:Act} {w:World} (i:Nat) {oi:Oper} {v:Value} (hi:ops[i]? = some oi) (hB:takeB md ops es listed i=true) (hQ: ∀c a w,Q (.panic c) (a.put oi.dst v) w->Q (.panic c) a w) (hI:I w)
  (hy: ∀w',I w'->YieldsAt P ops w' oi v a) (h:BI P md ops Q I es f (listed.setIfInBounds i true) (a.put oi.dst v) w):BI P md ops Q I es (f+1) listed a w:=by
 simp only[takeB,Bool.and_eq_true,decide_eq_true_eq] at hB;obtain⟨⟨⟨⟨⟨⟨hsel,hsz⟩,hcl⟩,hn⟩,hb⟩,hr⟩,hf⟩:=hB;exact takeE hi (Region.noSelect_spec hsel) hQ ops.size (fun e he=>List.all_eq_true.1 hb e he) f listed a w (cU hsz hcl) (fun e he=>by simpa using List.all_eq_true.1 hn e he) hI (Region.free_spec hi hf) (by simpa using hr) hy h
def GW (P:Program) (ops:Array Oper) (Q:Exit->Act->World->Prop) (I:World->Prop):Nat->List Oper->Act->World->Prop
 |0,l,a,w=>wpList P ops Q l a w
 |_+1,[],a,w=>Q .normal a w
 |n+1,o::r,a,w=>if Region.wanted o (yielded ops a.tmps) then o.wp P a w (fun a' w'=>I w'/\GW P ops Q I n r a' w') Q else I w/\GW P ops Q I n r (a.put o.dst undef) w
theorem HU {n:Nat} {o:Oper} {r:List Oper} {a:Act} {w:World} (h: ∀K:Act->World->Prop,(∀a w,I w->GW P ops Q I n r a w->K a w)->if Region.wanted o (yielded ops a.tmps) then o.wp P a w K Q else K (a.put o.dst undef) w):GW P ops Q I (n+1) (o::r) a w:=by
 have:=h (fun a' w'=>I w'/\GW P ops Q I n r a' w') (fun a w h1 h2=>⟨h1,h2⟩);unfold GW;exact this
theorem EP {l:List Oper} {a:Act} {w:World} (h:wpList P ops Q l a w):GW P ops Q I 0 l a w:=h
theorem VG: ∀(ts:List Nat) (listed:Array Bool) (a:Act) (w:World),listed.size=ops.size->(noE es listed->I w)->(∀t∈ts,t∈es)->seqL md ops ts listed=true->wpList P ops Q (pick ops ts) a w->BI P md ops Q I es ts.length listed a w
 |[],listed,a,w,_,hI,_,hB,h=>⟨hI,by simpa[seqL] using hB,h⟩
 |t::r,listed,a,w,hsz,hI,hE,hB,h=>by
  simp only[seqL,Bool.and_eq_true,decide_eq_true_eq] at hB;refine⟨hI,fun h1=>(by rw[hB.1] at h1;cases h1),fun i hi=>?_⟩;rw[hB.1] at hi;obtain rfl:i=t:=by simpa using hi
  have hr:i∈Region.ready md ops listed:=by rw[hB.1];simp
  obtain⟨_,o,ho,_⟩:=mem_ready.1 hr;have hil:i<ops.size:=(Array.getElem?_eq_some_iff.1 ho).1;have hp:pick ops (i::r)=o::pick ops r:=by simp[pick,ho]
  rw[hp] at h;have hw:wpOp P ops Q i (wpList P ops Q (pick ops r)) a w:=by unfold wpOp;simp only[ho];exact h
  refine wpOp_mono (fun a' w' h'=>VG r _ a' w' (by simp[hsz]) (fun hn=>?_) (fun t ht=>hE t (List.mem_cons_of_mem _ ht)) hB.2 h') hw;have:=hn i (hE i List.mem_cons_self);simp[hsz,hil] at this
theorem YV (rest:List Nat) (hE: ∀t∈rest,t∈es): ∀(pre:List Nat) (listed:Array Bool) (a:Act) (w:World),listed.size=ops.size->I w->seqL md ops (pre++rest) listed=true->GW P ops Q I pre.length (pick ops (pre++rest)) a w->
  BI P md ops Q I es (pre.length+rest.length) listed a w
 |[],listed,a,w,hsz,hI,hB,h=>by
  have:=VG rest listed a w hsz (fun _=>hI) hE hB h;simpa using this
 |t::r,listed,a,w,hsz,hI,hB,h=>by
  simp only[List.cons_append,seqL,Bool.and_eq_true,decide_eq_true_eq] at hB;rw[show(t::r).length+rest.length=(r.length+rest.length)+1 by simp;omega];refine⟨fun _=>hI,fun h1=>(by rw[hB.1] at h1;cases h1),fun i hi=>?_⟩;rw[hB.1] at hi;obtain rfl:i=t:=by simpa using hi
  have hr:i∈Region.ready md ops listed:=by rw[hB.1];simp
  obtain⟨_,o,ho,_⟩:=mem_ready.1 hr;have hp:pick ops (i::r++rest)=o::pick ops (r++rest):=by simp[pick,ho]
  rw[hp] at h;have hw:wpOp P ops Q i (fun a' w'=>I w'/\GW P ops Q I r.length (pick ops (r++rest)) a' w') a w:=by
   unfold wpOp;simp only[ho];simp only[List.length_cons,GW] at h;split at h;·rename_i hw;simp only[hw,if_true];exact .inl h
   ·rename_i hw;simp only[hw];exact h
  exact wpOp_mono (fun a' w' h'=>YV rest hE r _ a' w' (by simp[hsz]) h'.1 hB.2 h'.2) hw
theorem eD {f:Nat} {listed:Array Bool} {a:Act} {w:World} (pre rest:List Nat) (hf:f=pre.length+rest.length) (hB:(decide (listed.size=ops.size)&&(rest.all fun t=>es.contains t)&&seqL md ops (pre++rest) listed)=true) (hI:I w)
  (h:GW P ops Q I pre.length (pick ops (pre++rest)) a w):BI P md ops Q I es f listed a w:=by
 subst hf;simp only[Bool.and_eq_true,decide_eq_true_eq] at hB;obtain⟨⟨h1,h2⟩,h3⟩:=hB;exact YV rest (fun t ht=>by simpa using List.all_eq_true.1 h2 t ht) pre listed a w h1 hI h3 h
theorem XV (l:List Oper) (d:Nat): ∀m,d+m<=l.length->pick l.toArray ((List.range m).map (d + ·))=(l.drop d).take m
 |0,_=>by simp[pick]
 |m+1,h=>by
  have hx:l[d+m]? = some (l[d+m]'(by omega)):=List.getElem?_eq_getElem (by omega);have ih:=XV l d m (by omega);unfold pick at ih⊢;rw[List.range_succ,List.map_append,List.filterMap_append,ih,List.take_add_one,List.getElem?_drop,hx];simp[hx]
theorem FV {l:List Oper} {f:Nat} {listed:Array Bool} {a:Act} {w:World} (d:Nat) (pre rest:List Nat) (hf:f=pre.length+rest.length) (hB:(decide (listed.size=l.toArray.size)&&(rest.all fun t=>es.contains t)&&seqL md l.toArray (pre++rest) listed)=true)
  (hd:pre++rest=(List.range (l.length-d)).map (d + ·)) (hI:I w) (h:GW P l.toArray Q I pre.length (l.drop d) a w):BI P md l.toArray Q I es f listed a w:=by
 refine eD pre rest hf hB hI ?_;have e:pick l.toArray (pre++rest)=l.drop d:=by
  rw[hd];by_cases hdl:d<=l.length
  ·rw[XV l d _ (by omega),List.take_of_length_le (by simp)]
  ·rw[show l.length-d=0 by omega,List.drop_of_length_le (by omega)];rfl
 rw[e];exact h
theorem AL {id:Nat} {a:Act} {w:World} (I:World->Prop) (es:List Nat) (hm:P.follows .mixedOrders=true) (h:BI P .any ops Q I es ops.size (Array.replicate ops.size false) a { w with drawn:=w.drawn+1 }):(Code.region id ops true).wp P Q a w:=
 wp_region_any hm (YW _ _ _ _ h)
end
theorem wpAnyE_tk {P:Program} {ops:Array Oper} {md:Region.Mode} {Q:Exit->Act->World->Prop} {I:World->Prop} {es:List Nat} {f:Nat} {listed:Array Bool} {a:Act} {w:World} (i:Nat) {oi:Oper} {v:Value} (hi:ops[i]? = some oi) (hI:I w) (hy: ∀w',I w'->(execOp a.eval oi).run P w' = .ok (.value v) w') (h:BI P md ops Q I es f (listed.setIfInBounds i true) (a.put oi.dst v) w) (hB:takeB md ops es listed i=true:=by kernel_rfl) (hQ: ∀c a w,Q (.panic c) (a.put oi.dst v) w->Q (.panic c) a w:=by exact fun _ _ _ h=>h) (hw:Region.wanted oi (yielded ops a.tmps)=true:=by kernel_rfl):BI P md ops Q I es (f+1) listed a w:=AA i hi hB hQ hI (fun w' hw'=>Or.inl ⟨hw,Or.inl (hy w' hw')⟩) h
theorem wpAnyE_tg {P:Program} {ops:Array Oper} {md:Region.Mode} {Q:Exit->Act->World->Prop} {I:World->Prop} {es:List Nat} {f:Nat} {listed:Array Bool} {a:Act} {w:World} (i:Nat) {oi:Oper} {v:Value} (hi:ops[i]? = some oi) (hI:I w) (h:BI P md ops Q I es f (listed.setIfInBounds i true) (a.put oi.dst v) w) (hB:takeB md ops es listed i=true:=by kernel_rfl) (hQ: ∀c a w,Q (.panic c) (a.put oi.dst v) w->Q (.panic c) a w:=by exact fun _ _ _ h=>h) (hw:Region.wanted oi (yielded ops a.tmps)=true:=by kernel_rfl) (hy: ∀w',I w'->(execOp a.eval oi).run P w' = .ok (.value v) w':=by intro _ _;go_simp):BI P md ops Q I es (f+1) listed a w:=AA i hi hB hQ hI (fun w' hw'=>Or.inl ⟨hw,Or.inl (hy w' hw')⟩) h
theorem qP {P:Program} {ops:Array Oper} {md:Region.Mode} {Q:Exit->Act->World->Prop} {I:World->Prop} {es:List Nat} {f:Nat} {listed:Array Bool} {a:Act} {w:World} (i:Nat) {oi:Oper} (g j:Nat) (hi:ops[i]? = some oi) (hI:I w) (h:BI P md ops Q I es f (listed.setIfInBounds i true) (a.put oi.dst (.pointer (some ⟨g,j,none⟩))) w) (hB:takeB md ops es listed i=true:=by kernel_rfl) (hQ: ∀c a w,Q (.panic c) (a.put oi.dst (.pointer (some ⟨g,j,none⟩))) w->Q (.panic c) a w:=by exact fun _ _ _ h=>h) (hw:Region.wanted oi (yielded ops a.tmps)=true:=by kernel_rfl) (hy: ∀w',I w'->(execOp a.eval oi).run P w' = .ok (.value (.pointer (some ⟨g,j,none⟩))) w':=by intro _ _;go_simp):BI P md ops Q I es (f+1) listed a w:=AA i hi hB hQ hI (fun w' hw'=>Or.inl ⟨hw,Or.inl (hy w' hw')⟩) h
end Go.Proofs.YtfbhemmpobgdpaaGreatDoor
namespace Go.Proofs.YtfbhemmpobgdpaaGreatDoor
open Go.RowKit
section
variable {P:Program} {ops:Array Oper} {md:Region.Mode} {Q:Exit -> Act -> World -> Prop} {I:World -> Prop} {es:List Nat}
theorem AC {f:Nat} {listed:Array Bool} {a:Act} {w:World} (i:Nat) {o:Oper} (ho:ops[i]? = some o) (hB:decide (Region.ready md ops listed=[i])=true) (hI:I w)
  (h: ∀K:Act->World->Prop,(∀a w,BI P md ops Q I es f (listed.setIfInBounds i true) a w->K a w)->if Region.wanted o (yielded ops a.tmps) then o.wp P a w K Q else K (a.put o.dst undef) w):BI P md ops Q I es (f+1) listed a w:=by
 have hB:=of_decide_eq_true hB;refine⟨fun _=>hI,fun h1=>(by rw[hB] at h1;cases h1),fun j hj=>?_⟩;rw[hB] at hj;obtain rfl:j=i:=by simpa using hj
 have h2:=h (fun a' w'=>BI P md ops Q I es f (listed.setIfInBounds j true) a' w') (fun a w h=>h);unfold wpOp;simp only[ho];split at h2;·rename_i hw;simp only[hw,if_true];exact .inl h2
 ·rename_i hw;simp only[hw];exact h2
theorem QS {f:Nat} {listed:Array Bool} {a:Act} {w:World} (i j:Nat) {o p:Oper} (ho:ops[i]? = some o) (hp:ops[j]? = some p) (hB:decide (Region.ready md ops listed=[i,j])=true) (hI:I w)
  (h: ∀K:Act->World->Prop,(∀a w,BI P md ops Q I es f (listed.setIfInBounds i true) a w->K a w)->if Region.wanted o (yielded ops a.tmps) then o.wp P a w K Q else K (a.put o.dst undef) w)
  (g: ∀K:Act->World->Prop,(∀a w,BI P md ops Q I es f (listed.setIfInBounds j true) a w->K a w)->if Region.wanted p (yielded ops a.tmps) then p.wp P a w K Q else K (a.put p.dst undef) w):BI P md ops Q I es (f+1) listed a w:=by
 have hB:=of_decide_eq_true hB;refine⟨fun _=>hI,fun h1=>(by rw[hB] at h1;cases h1),fun q hq=>?_⟩;rw[hB] at hq;rcases List.mem_cons.1 hq with rfl|hq
 ·have h2:=h (fun a' w'=>BI P md ops Q I es f (listed.setIfInBounds q true) a' w') (fun a w h=>h);unfold wpOp;simp only[ho];split at h2;·rename_i hw;simp only[hw,if_true];exact .inl h2
  ·rename_i hw;simp only[hw];exact h2
 ·obtain rfl:q=j:=by simpa using hq
  have h2:=g (fun a' w'=>BI P md ops Q I es f (listed.setIfInBounds q true) a' w') (fun a w h=>h);unfold wpOp;simp only[hp];split at h2;·rename_i hw;simp only[hw,if_true];exact .inl h2
  ·rename_i hw;simp only[hw];exact h2
theorem AT {listed:Array Bool} {a:Act} {w:World} (hB:decide (Region.ready md ops listed=[])=true) (hI:I w) (h:Q .normal a w):BI P md ops Q I es 0 listed a w:=
 ⟨fun _=>hI,of_decide_eq_true hB,h⟩
end
theorem NE {k:IntKind} {a b:Int} (h:a=b):Ending.returned (.int k a) = .returned (.int k b):=by rw[h]
theorem FM {a b:Bool} (h:a=b):Ending.returned (.bool a) = .returned (.bool b):=by rw[h]
theorem UE {n:Int} (h:(Lit.int .u32 n).wf=true):0<=n/\n<=4294967295:=by
 simp[Lit.wf,IntKind.min,IntKind.max,IntKind.bits,IntKind.signed] at h;omega
theorem wf_u8 {n:Int} (h:(Lit.int .u8 n).wf=true):0<=n/\n<=255:=by
 simp[Lit.wf,IntKind.min,IntKind.max,IntKind.bits,IntKind.signed] at h;omega
theorem AB {p:Prop} (h:p):Hid p:=h
def Ints (k:IntKind) (w:World) (A:Option Addr) (len:Nat) (zs:List Int):Prop:=
 zs.length=len/\len<=maxLen/\(∀n∈zs,(Lit.int k n).wf=true)/\
  (0<len->∃b off,A=some ⟨b,off,none⟩/\b<w.heap.size/\∀i,i<len->w.cell? ⟨b,off+i,none⟩=some (.int k (zs.getD i 0)))
theorem qX {α:Sort _} (a:α): ∃x,a=x:=⟨a,rfl⟩
theorem qY {α:Sort _} (a:α): ∃x,x=a:=⟨a,rfl⟩
theorem qJ {α:Type _} {a:α} {l k:List α} (h:a∈l\/a∈k):a∈l++k:=List.mem_append.2 h
theorem qK {α:Type _} {a:α} {l k:List α} (h:a∈l++k):a∈l\/a∈k:=List.mem_append.1 h
theorem zT {a b c:Nat} (h:a<b) (k:b<=c):a<c:=Nat.lt_of_lt_of_le h k
theorem qL (n:Nat):n<=n:=Nat.le_refl n
theorem qO (n:Nat):0<=n:=Nat.zero_le n
theorem qE {α:Type _} {l:List α} {i:Nat} {a:α} (h:l[i]? = some a):a∈l:=List.mem_of_getElem? h
theorem zE {α:Type _} {a b:List α}:(a++b).length=a.length+b.length:=List.length_append
theorem qS {α:Type _} {a b:α}:a∈[b]↔a=b:=List.mem_singleton
theorem qN {α:Type _} (l:List α):l++[]=l:=List.append_nil l
theorem qG {α β:Type _} {a:α} {l:List α} {f:α->List β}:(a::l).flatMap f=f a++l.flatMap f:=List.flatMap_cons
theorem qD {α:Type _} {a b:List α}:(a++b).Nodup↔a.Nodup/\b.Nodup/\∀x,x∈a->∀y,y∈b->x≠y:=List.nodup_append
theorem qC {α:Type _} {a b:α} {l:List α}:a∈b::l↔a=b\/a∈l:=List.mem_cons
end Go.Proofs.YtfbhemmpobgdpaaGreatDoor
namespace Go.Proofs.YtfbhemmpobgdpaaGreatDoor
open Go.ChangeShapes Go.WideShapes Go.ChangeAt Go.RowKit
noncomputable def readsAll (P:Program) (ts:List TypeId):Bool:=ts.all fun t=>P.readableRec t&&decide (t<P.types.size)
section
variable {H:Type} {enc:TypeId × Value -> H} {P:Program}
theorem iJ {w:World} {base:Nat} {spare:Nat->Bool} {held:Bool}: ∀(ts:List TypeId) (vs:List Value) (ds:List (DataW H)) (ps:List MemPlace),DataW.TrodAll enc P w base spare held ts vs ds ps->ds.length=ts.length:=by
 intro ts;induction ts with
 |nil=>
  intro vs ds ps h;obtain⟨rfl,rfl,rfl⟩:=trodAll_nil h;rfl
 |cons t ts ih=>
  intro vs ds ps h;obtain⟨v,vs',d,ds',a,b,rfl,rfl,rfl,h1,h2⟩:=trodAll_cons h;simp[ih _ _ _ h2]
theorem ZQ (laidOut:laidOutB P=true) {W W':World} (hb:Below W.heap.size W W'): ∀(ts:List TypeId) (vs:List Value) (ds:List (DataW H)) (ps:List MemPlace),readsAll P ts=true->
  DataW.TrodAll enc P W 0 (fun _=>true) true ts vs ds ps->(∀x∈ps,x.block<W.heap.size)->DataW.TrodAll enc P W' 0 (fun b=>decide (b<W.heap.size)) true ts vs ds ps:=by
 intro ts;induction ts with
 |nil=>
  intro vs ds ps _ h _;obtain⟨rfl,rfl,rfl⟩:=trodAll_nil h;exact trodAll_mk0
 |cons t ts ih=>
  intro vs ds ps hr h hlt;obtain⟨v,vs',d,ds',a,b,rfl,rfl,rfl,h1,h2⟩:=trodAll_cons h;simp only[readsAll,List.all_cons,Bool.and_eq_true,decide_eq_true_eq] at hr;exact trodAll_cons_mk (Below.trod laidOut hr.1.1 hr.1.2 h1 hb (fun x hx=>hlt x (List.mem_append_left _ hx))) (ih _ _ _ (by simpa only[readsAll,List.all_eq_true,Bool.and_eq_true,decide_eq_true_eq] using hr.2) h2 (fun x hx=>hlt x (List.mem_append_right _ hx)))
end
theorem own:ownKnob Tryz.prog.godebug=none:=by kernel_rfl
theorem laidOut:laidOutB Tryz.prog=true:=by kernel_rfl
end Go.Proofs.YtfbhemmpobgdpaaGreatDoor
namespace Go.Proofs.YtfbhemmpobgdpaaGreatDoor
open Go.RowKit
def Blk (w:World) (g:Nat) (t:TypeId) (cs:List Value):Prop:=w.heap[g]? = some (.cells cs.toArray t (0,0))
structure Only (L : List Nat) (w w' : World) : Prop where
  os : w'.os = w.os
  tape : w'.tape = w.tape
  output : w'.output = w.output
  size : w.heap.size <= w'.heap.size
  block : ∀ k, k < w.heap.size -> k ∉ L -> w'.heap[k]? = w.heap[k]?
section
variable {w w' w1 w2:World} {L L':List Nat} {g:Nat} {t:TypeId} {cs:List Value}
theorem Only.refl (L:List Nat) (w:World):Only L w w:=⟨rfl,rfl,rfl,qL _,fun _ _ _=>rfl⟩
theorem Only.trans (h:Only L w w1) (k:Only L' w1 w2) (hL: ∀x∈L',x∈L\/w.heap.size<=x):Only L w w2:=
 ⟨k.os.trans h.os,k.tape.trans h.tape,k.output.trans h.output,Nat.le_trans h.size k.size,fun i hi hn=>
  (k.block i (zT hi h.size) (fun hm=>by
   rcases hL i hm with h1|h1;·exact hn h1
   ·omega)).trans (h.block i hi hn)⟩
theorem Only.mono (h:Only L w w') (hL: ∀x∈L,x∈L'):Only L' w w':=⟨h.os,h.tape,h.output,h.size,fun i hi hn=>h.block i hi (fun hm=>hn (hL i hm))⟩
theorem Only.alloc (h:Only L w w') (o:Obj):Only L w (w'.alloc o):=
 ⟨h.os,h.tape,h.output,Nat.le_trans h.size (by simp),fun i hi hn=>(Below.heap_alloc w' o i (zT hi h.size)).trans (h.block i hi hn)⟩
theorem Only.drew (h:Only L w w'):Only L w w'.drew:=⟨h.os,h.tape,h.output,h.size,h.block⟩
theorem Only.drewN (h:Only L w w') (n:Nat):Only L w (w'.drewN n):=⟨h.os,h.tape,h.output,h.size,h.block⟩
theorem Only.setCell (h:Only L w w') {p:Addr} (hp:p.block∈L\/w.heap.size<=p.block) (u:Value):Only L w (w'.setCell p u):=
 ⟨h.os,h.tape,h.output,by simpa[World.setCell] using h.size,fun i hi hn=>(Below.heap_setCell w' p u i (fun e=>by
  subst e;rcases hp with hp|hp;·exact hn hp
  ·omega)).trans (h.block i hi hn)⟩
theorem Only.below (h:Only L w w') {B:Nat} (hB:B<=w.heap.size) (hL: ∀x∈L,B<=x):Below B w w':=
 ⟨h.os,h.tape,h.output,h.size,fun k hk=>h.block k (by omega) (fun hm=>by have:=hL k hm;omega)⟩
theorem ZH (h:Below w.heap.size w w'):Only [] w w':=⟨h.os,h.tape,h.output,h.size,fun i hi _=>h.block i hi⟩
theorem GP {row:Option Nat} (h:w.grownBy w' row):Only row.toList w w':=⟨h.os,h.tape,h.output,h.size,fun i hi hn=>h.block i hi (fun e=>hn (by simp[<-e]))⟩
theorem Blk.lt (h:Blk w g t cs):g<w.heap.size:=by
 rcases Nat.lt_or_ge g w.heap.size with hlt|hge;·exact hlt
 ·unfold Blk at h;rw[Array.getElem?_eq_none hge] at h;cases h
theorem Blk.cell (h:Blk w g t cs) (i:Nat):w.cell? ⟨g,i,none⟩=cs[i]? :=by
 have:=cell_of_row w g i cs.toArray t (0,0) h;simpa using this
theorem Blk.frozen (h:Blk w g t cs) (i:Nat):w.frozen? ⟨g,i,none⟩=false:=by
 unfold Blk at h;simp[World.frozen?,h]
theorem Blk.new (w:World) (t:TypeId) (cs:List Value):Blk (w.alloc (.cells cs.toArray t)) w.heap.size t cs:=heap_alloc_new w _
theorem Blk.drew (h:Blk w g t cs):Blk w.drew g t cs:=h
theorem Blk.alloc (h:Blk w g t cs) (o:Obj):Blk (w.alloc o) g t cs:=(Below.heap_alloc w o g h.lt).trans h
theorem Blk.set_ (h:Blk w g t cs) (i:Nat) (u:Value):Blk (w.setCell ⟨g,i,none⟩ u) g t (cs.set i u):=by
 unfold Blk at h⊢;simp[World.setCell,Array.getElem?_modify,h]
theorem Blk.far (h:Blk w g t cs) {p:Addr} (hp:g≠p.block) (u:Value):Blk (w.setCell p u) g t cs:=(Below.heap_setCell w p u g hp).trans h
theorem Blk.only (h:Blk w g t cs) (hb:Only L w w') (hg:g∉L):Blk w' g t cs:=(hb.block g h.lt hg).trans h
theorem MR (h:Blk w g t cs) (ds:List Value):Blk (w.setRow g ds.toArray) g t ds:=setRow_heap w g _ _ t _ h
theorem JC (w:World) (g:Nat) (ds:Array Value):Only [g] w (w.setRow g ds):=
 ⟨rfl,rfl,rfl,by simp[World.setRow],fun k _ hn=>setRow_other w g k ds (by simpa using hn)⟩
end
def u8s (l:List Int):List Value:=l.map (.int .u8)
theorem RP (l:List Int) (i:Nat):(u8s l)[i]? = (l[i]?).map (.int .u8):=by simp[u8s]
theorem u8s_one (l:List Int): ∀v∈u8s l,v.oneCell'=true:=by
 intro v hv;simp[u8s] at hv;obtain⟨a,_,rfl⟩:=hv;rfl
end Go.Proofs.YtfbhemmpobgdpaaGreatDoor
namespace Go.Proofs.YtfbhemmpobgdpaaGreatDoor
open Go.RowKit
def Rd (w:World) (A:Option Addr) (l:List Int):Prop:=
 0<l.length->∃b off,A=some ⟨b,off,none⟩/\b<w.heap.size/\∀i v,l[i]? = some v->w.cell? ⟨b,off+i,none⟩=some (.int .u8 v)
theorem Rd.only {w w':World} {A:Option Addr} {l:List Int} (h:Rd w A l) (hb:Only [] w w'):Rd w' A l:=by
 intro h0;obtain⟨b,off,rfl,hlt,hc⟩:=h h0;exact⟨b,off,rfl,zT hlt hb.size,fun i v hi=>(World.cell?_of_block (w:=w) (hb.block b hlt (by simp))).trans (hc i v hi)⟩
end Go.Proofs.YtfbhemmpobgdpaaGreatDoor
namespace Go.Proofs.YtfbhemmpobgdpaaGreatDoor
open Go.RowKit
theorem u8infos:(Tryz.prog.info? 5).map (fun i=>(i.zero,i.size,i.bytes))=some (some (.int .u8 0),1,1):=by kernel_rfl
def DR (w:World) (base:Nat) (v:Value) (l:List Int):Prop:=w.ownsRow base 5 1 v l.length (u8s l)
section
variable {w w':World} {base:Nat} {v:Value} {l:List Int} {L:List Nat}
theorem XS (w:World) (base:Nat):DR w base (.slice none 0 0) []:=World.ownsRow_nil w base _ _
theorem XR (w:World) (base:Nat) (l:List Int) (hb:base<=w.heap.size) (hl:l.length<=maxLen):DR (w.alloc (.cells (u8s l).toArray 5)) base (.slice (some ⟨w.heap.size,0,none⟩) l.length l.length) l:=by
 have:=World.ownsRow_lit (w:=w) (base:=base) (e:=5) (size:=1) (u8s l).toArray l.length hb hl (by simp[u8s]);simpa[DR] using this
theorem DR.mono {base':Nat} (h:DR w base v l) (hb:base'<=base):DR w base' v l:=by
 refine⟨h.1,?_⟩;rcases h.2 with h|⟨g,cap,cur,e,hg,r⟩;·exact .inl h
 ·exact .inr ⟨g,cap,cur,e,by omega,r⟩
theorem DR.only (h:DR w base v l) (hb:Only L w w') (hL: ∀x∈L,x<base):DR w' base v l:=by
 refine⟨h.1,?_⟩;rcases h.2 with h|⟨g,cap,cur,e,hg,hh,r⟩;·exact .inl h
 ·exact .inr ⟨g,cap,cur,e,hg,(hb.block g (Array.getElem?_eq_some_iff.1 hh).1 (fun hm=>by have:=hL g hm;omega)).trans hh,r⟩
theorem DR.far (h:DR w base v l) (hb:Only L w w') (hL: ∀x∈L,some x≠v.ownBlock):DR w' base v l:=by
 refine⟨h.1,?_⟩;rcases h.2 with h|⟨g,cap,cur,e,hg,hh,r⟩;·exact .inl h
 ·exact .inr ⟨g,cap,cur,e,hg,(hb.block g (Array.getElem?_eq_some_iff.1 hh).1 (fun hm=>hL g hm (by rw[e];rfl))).trans hh,r⟩
theorem DR.block (h:DR w base v l): ∀k,v.ownBlock=some k->base<=k/\k<w.heap.size:=World.ownsRow.lt h
theorem DR.rd (h:DR w base v l): ∃A cap,v = .slice A l.length cap/\Rd w A l/\l.length<=cap/\cap<=maxLen/\(∀a,A=some a->base<=a.block):=by
 rcases h.2 with⟨e,hn⟩|⟨g,cap,cur,e,hg,hh,hc,hm,hs,ht⟩;·exact⟨none,0,by rw[e,hn],fun h0=>absurd h0 (by omega),by omega,by simp[maxLen],fun a ha=>by cases ha⟩
 ·refine⟨some ⟨g,0,none⟩,cap,e,fun _=>⟨g,0,rfl,(Array.getElem?_eq_some_iff.1 hh).1,fun i x hx=>?_⟩,hc,hm,fun a ha=>by injection ha with ha;rw[<-ha];exact hg⟩;subst e;have:=World.ownsRow.cells h (g:=g) rfl i (.int .u8 x) (by rw[RP,hx];rfl);simpa[Addr.add_lit] using this
end
theorem Rd.news {w:World} {A:Option Addr} {l:List Int} (h:Rd w A l) (h0:0<l.length): ∃ad,A=some ad/\∀j u,(u8s l)[j]? = some u->w.cell? (ad.add j)=some u:=by
 obtain⟨b,off,rfl,_,hc⟩:=h h0;refine⟨_,rfl,fun j u hu=>?_⟩;rw[RP] at hu;simp at hu;obtain⟨x,hx,rfl⟩:=hu;have:=hc j x hx;simpa[Addr.add_lit] using this
theorem run_app {w:World} (ty:TypeId) (base:Nat) (v:Value) (l:List Int) (hown:DR w base v l) (A:Option Addr) (c:Nat) (m:List Int) (hr:Rd w A m)
  (hlen:l.length+m.length<=140737488355328) (hbase:base<=w.heap.size) :
  ∃v' w',(Builtin.append_ #[30,30] ty #[v,.slice A m.length c]).run Tryz.prog w = .ok v' w'/\DR w' base v' (l++m)/\Only v.ownBlock.toList w w'/\(v' = .slice none 0 0↔v = .slice none 0 0/\m.length=0):=by
 obtain⟨i0,hi,hz0,hz1,hz2⟩:=info_parts u8infos;have hu:=Tryz.underlying30;by_cases h0:0<m.length
 ·obtain⟨ad,rfl,hn⟩:=hr.news h0;obtain⟨v',w',e,h1,h2,h3⟩:=run_append_own (P:=Tryz.prog) w base 30 ty 5 i0 (.int .u8 0) 1 1 hu hi hz0 hz1 hz2 rfl (by decide) v l.length (u8s l) hown ad m.length c (u8s m) (by simp[u8s]) hn (u8s_one m) (by simp only[maxLen];omega) (by omega) hbase;exact⟨v',w',e,by show World.ownsRow _ _ _ _ _ _ _;simpa[u8s] using h1,GP h2,h3⟩
 ·have e0:m=[]:=List.eq_nil_of_length_eq_zero (by omega);subst e0;refine⟨v,w,?_,by rw[qN];exact hown,Only.refl _ _,by simp⟩;have hf: ∀w':World,(Builtin.firstCells 1 0 (.slice A 0 c)).run Tryz.prog w' = .ok #[] w':=by
   intro w';cases A<;>simp[Builtin.firstCells,loadCells,loadCellsFrom]
  rcases hown.2 with⟨rfl,hn⟩|⟨g,cap,cur,rfl,_,_,hnc,_⟩;·cases A<;>simp[Builtin.append_,run_underlying hu,sizeOf,typeInfo,hi,hz1,Builtin.lenOf,hf]
  ·cases A<;>simp[Builtin.append_,run_underlying hu,sizeOf,typeInfo,hi,hz1,Builtin.lenOf,hf,hnc,storeCells]
end Go.Proofs.YtfbhemmpobgdpaaGreatDoor
namespace Go.Proofs.YtfbhemmpobgdpaaGreatDoor
open Go.RowKit
theorem gY {w:World} (ty:TypeId) (base:Nat) (v:Value) (l:List Int) (hown:DR w base v l) (A:Option Addr) (c:Nat) (m:List Int) (hr:Rd w A m)
  (hlen:l.length+m.length<=140737488355328) (hbase:base<=w.heap.size) :
  ∃v' w',(Builtin.append_ #[30,30] ty #[v,.slice A m.length c]).run Tryz.prog w = .ok v' w'/\DR w' base v' (l++m)/\Only v.ownBlock.toList w w'/\(v' = .slice none 0 0↔v = .slice none 0 0/\m.length=0)/\
   (v'.ownBlock=v.ownBlock\/v'.ownBlock=some w.heap.size):=by
 obtain⟨v',w',e,h1,h2,h3⟩:=run_app ty base v l hown A c m hr hlen hbase;refine⟨v',w',e,h1,h2,h3,?_⟩;obtain⟨i0,hi,hz0,hz1,hz2⟩:=info_parts u8infos;have hu:=Tryz.underlying30;have hsm:((u8s m).length=m.length*i0.size):=by rw[hz1];simp[u8s]
 by_cases h0:0<m.length
 ·obtain⟨ad,rfl,hn⟩:=hr.news h0;rcases hown.2 with⟨rfl,hn0⟩|⟨g,cap,cur,rfl,hg,hh,hc,hm,hs,ht⟩
  ·have:=run_append_nil (P:=Tryz.prog) w 30 ty 5 i0 (.int .u8 0) hu hi hz0 ad m.length c (u8s m) hsm hn h0 (by omega) (by rw[hz2];omega);rw[this] at e;injection e with e1 e2;right;rw[<-e1];rfl
  ·by_cases hroom:l.length+m.length<=cap
   ·obtain⟨w2,e2,_⟩:=run_append_fits (P:=Tryz.prog) w base 30 ty 5 i0 1 hu hi hz1 g l.length cap (u8s l) hown ad m.length c (u8s m) (by simp[u8s]) hn (u8s_one m) hroom;rw[e2] at e;injection e with e1 _;left;rw[<-e1];rfl
   ·have holds: ∀j u,(u8s l)[j]? = some u->w.cell? ((⟨g,0,none⟩:Addr).add j)=some u:=World.ownsRow.cells hown (g:=g) rfl;have:=run_append_grow (P:=Tryz.prog) w 30 ty 5 i0 (.int .u8 0) hu hi hz0 ⟨g,0,none⟩ l.length cap (u8s l) (by rw[hz1];simp[u8s]) holds ad m.length c (u8s m) hsm hn (by omega) (by omega) (growslice_fits (by omega) (by rw[hz2];omega));rw[this] at e;injection e with e1 _;right;rw[<-e1];rfl
 ·have e0:m=[]:=List.eq_nil_of_length_eq_zero (by omega);subst e0;have hf: ∀w':World,(Builtin.firstCells 1 0 (.slice A 0 c)).run Tryz.prog w' = .ok #[] w':=by
   intro w';cases A<;>simp[Builtin.firstCells,loadCells,loadCellsFrom]
  have:(Builtin.append_ #[30,30] ty #[v,.slice A 0 c]).run Tryz.prog w = .ok v w:=by
   rcases hown.2 with⟨rfl,hn⟩|⟨g,cap,cur,rfl,_,_,hnc,_⟩;·cases A<;>simp[Builtin.append_,run_underlying hu,sizeOf,typeInfo,hi,hz1,Builtin.lenOf,hf]
   ·cases A<;>simp[Builtin.append_,run_underlying hu,sizeOf,typeInfo,hi,hz1,Builtin.lenOf,hf,hnc,storeCells]
  rw[show([]:List Int).length=0 from rfl,this] at e;injection e with e1 _;left;rw[e1]
theorem iP {w:World} {ops:Array Oper} {rest:List Oper} {o:Oper} {a:Act} {Q:Exit->Act->World->Prop} (hgd:o.guard=none) (s x:Operand)
  (ho:o.op = .call { callee:=.builtin .append,args:=#[s,x],argTypes:=#[30,30] })
  (base:Nat) (v:Value) (l:List Int) (hs:a.eval s=v) (hown:DR w base v l) (A:Option Addr) (c:Nat) (m:List Int) (hx:a.eval x = .slice A m.length c) (hr:Rd w A m)
  (hlen:l.length+m.length<=140737488355328) (hbase:base<=w.heap.size)
  (h: ∀v' w',Hid (DR w' base v' (l++m))->Only v.ownBlock.toList w w'->Hid (v'.ownBlock=v.ownBlock\/v'.ownBlock=some w.heap.size)->wpList Tryz.prog ops Q rest (a.put o.dst v') w'):wpList Tryz.prog ops Q (o::rest) a w:=by
 refine wpList_plain hgd fun K hK=>?_;obtain⟨v',w',hrun,h1,h2,_,h3⟩:=gY o.type base v l hown A c m hr hlen hbase;unfold Oper.wp execOp;simp only[ho,resolve,invoke,builtin,Sem.run_bind,Sem.run_pure,Result.andThen_ok,List.map_toArray,List.map_cons,List.map_nil,hs,hx,hrun];exact hK _ _ (h v' w' h1 h2 h3)
end Go.Proofs.YtfbhemmpobgdpaaGreatDoor
namespace Go.Proofs.YtfbhemmpobgdpaaGreatDoor
open Go.RowKit
theorem OQ {w:World} {ops:Array Oper} {rest:List Oper} {o:Oper} {a:Act} {Q:Exit->Act->World->Prop} (hgd:o.guard=none) (s x:Operand)
  (ho:o.op = .call { callee:=.builtin .append,args:=#[s,x],argTypes:=#[30,30] })
  (base:Nat) (v:Value) (l:List Int) (hs:a.eval s=v) (hown:DR w base v l) (A:Option Addr) (c:Nat) (m:List Int) (k:Nat) (hk:m.length=k) (hx:a.eval x = .slice A k c) (hr:Rd w A m)
  (hlen:l.length+m.length<=140737488355328) (hbase:base<=w.heap.size)
  (h: ∀v' w',Hid (DR w' base v' (l++m))->Only v.ownBlock.toList w w'->Hid (v'.ownBlock=v.ownBlock\/v'.ownBlock=some w.heap.size)->wpList Tryz.prog ops Q rest (a.put o.dst v') w'):wpList Tryz.prog ops Q (o::rest) a w:=by
 subst hk;exact iP hgd s x ho base v l hs hown A c m hx hr hlen hbase h
theorem rd_one (w:World) (x:Int):Rd (w.alloc (.cells #[.int .u8 x] 5)) (some ⟨w.heap.size,0,none⟩) [x]:=fun _=>⟨w.heap.size,0,rfl,by simp,fun i v hi=>by
 match i,hi with
 |0,hi=>simp at hi;subst hi;simp[World.cell?_alloc_mark]⟩
def LR (v v':Value) (H:Nat):Prop:=v'.ownBlock=v.ownBlock\/v'.ownBlock=some H
theorem UA {w:World} {ops:Array Oper} {o:Oper} {a:Act} {K:Act->World->Prop} {Q:Exit->Act->World->Prop} {E:Prop} (hgd:o.guard=none) (s x:Operand)
  (ho:o.op = .call { callee:=.builtin .append,args:=#[s,x],argTypes:=#[30,30] })
  (base:Nat) (v:Value) (l:List Int) (hs:a.eval s=v) (hown:DR w base v l) (A:Option Addr) (c:Nat) (m:List Int) (k:Nat) (hk:m.length=k) (hx:a.eval x = .slice A k c) (hr:Rd w A m)
  (hlen:l.length+m.length<=140737488355328) (hbase:base<=w.heap.size)
  (h: ∀A' cap w',Hid (DR w' base (.slice A' (l.length+k) cap) (l++m))->Only v.ownBlock.toList w w'->Hid (LR v (.slice A' (l.length+k) cap) w.heap.size)->K (a.put o.dst (.slice A' (l.length+k) cap)) w') :
  if Region.wanted o (yielded ops a.tmps)=true then Oper.wp Tryz.prog o a w K Q else E:=by
 have hw:Region.wanted o (yielded ops a.tmps)=true:=by simp[Region.wanted,hgd]
 rw[if_pos hw];subst hk;obtain⟨v',w',hrun,h1,h2,_,h3⟩:=gY o.type base v l hown A c m hr hlen hbase;obtain⟨A',cap,rfl,_⟩:=h1.rd;unfold Oper.wp execOp;simp only[ho,resolve,invoke,builtin,Sem.run_bind,Sem.run_pure,Result.andThen_ok,List.map_toArray,List.map_cons,List.map_nil,hs,hx,hrun];rw[zE] at h1 h3⊢;exact h A' cap w' h1 h2 h3
theorem qZ {w:World} {g:Nat} {t:TypeId} {cs:List Value} (h:Blk w g t cs) (e:cs=[.int .i64 0,.int .u32 0,.int .u32 0,.int .u32 0,.int .u32 0,.int .u32 0,.string ⟨#[]⟩,.string ⟨#[]⟩,.bool false,.slice none 0 0]:=by rfl):w.cell? ⟨g,0,none⟩=some (.int .i64 0)/\w.frozen? ⟨g,0,none⟩=false/\w.cell? ⟨g,1,none⟩=some (.int .u32 0)/\w.frozen? ⟨g,1,none⟩=false/\w.cell? ⟨g,2,none⟩=some (.int .u32 0)/\w.frozen? ⟨g,2,none⟩=false/\w.cell? ⟨g,3,none⟩=some (.int .u32 0)/\w.frozen? ⟨g,3,none⟩=false/\w.cell? ⟨g,4,none⟩=some (.int .u32 0)/\w.frozen? ⟨g,4,none⟩=false/\w.cell? ⟨g,5,none⟩=some (.int .u32 0)/\w.frozen? ⟨g,5,none⟩=false/\w.cell? ⟨g,6,none⟩=some (.string ⟨#[]⟩)/\w.frozen? ⟨g,6,none⟩=false/\w.cell? ⟨g,7,none⟩=some (.string ⟨#[]⟩)/\w.frozen? ⟨g,7,none⟩=false/\w.cell? ⟨g,8,none⟩=some (.bool false)/\w.frozen? ⟨g,8,none⟩=false/\w.cell? ⟨g,9,none⟩=some (.slice none 0 0)/\w.frozen? ⟨g,9,none⟩=false:=by subst e;exact⟨h.cell 0,h.frozen 0,h.cell 1,h.frozen 1,h.cell 2,h.frozen 2,h.cell 3,h.frozen 3,h.cell 4,h.frozen 4,h.cell 5,h.frozen 5,h.cell 6,h.frozen 6,h.cell 7,h.frozen 7,h.cell 8,h.frozen 8,h.cell 9,h.frozen 9⟩
theorem qU {w:World} {g:Nat} {t:TypeId} {cs:List Value} (h:Blk w g t cs) (e:cs=[.int .i64 0,.string ⟨#[]⟩,.string ⟨#[]⟩,.string ⟨#[]⟩,.int .u32 0,.int .u32 0,.int .u32 0,.int .u32 0,.slice none 0 0,.bool false]:=by rfl):w.cell? ⟨g,0,none⟩=some (.int .i64 0)/\w.frozen? ⟨g,0,none⟩=false/\w.cell? ⟨g,1,none⟩=some (.string ⟨#[]⟩)/\w.frozen? ⟨g,1,none⟩=false/\w.cell? ⟨g,2,none⟩=some (.string ⟨#[]⟩)/\w.frozen? ⟨g,2,none⟩=false/\w.cell? ⟨g,3,none⟩=some (.string ⟨#[]⟩)/\w.frozen? ⟨g,3,none⟩=false/\w.cell? ⟨g,4,none⟩=some (.int .u32 0)/\w.frozen? ⟨g,4,none⟩=false/\w.cell? ⟨g,5,none⟩=some (.int .u32 0)/\w.frozen? ⟨g,5,none⟩=false/\w.cell? ⟨g,6,none⟩=some (.int .u32 0)/\w.frozen? ⟨g,6,none⟩=false/\w.cell? ⟨g,7,none⟩=some (.int .u32 0)/\w.frozen? ⟨g,7,none⟩=false/\w.cell? ⟨g,8,none⟩=some (.slice none 0 0)/\w.frozen? ⟨g,8,none⟩=false/\w.cell? ⟨g,9,none⟩=some (.bool false)/\w.frozen? ⟨g,9,none⟩=false:=by subst e;exact⟨h.cell 0,h.frozen 0,h.cell 1,h.frozen 1,h.cell 2,h.frozen 2,h.cell 3,h.frozen 3,h.cell 4,h.frozen 4,h.cell 5,h.frozen 5,h.cell 6,h.frozen 6,h.cell 7,h.frozen 7,h.cell 8,h.frozen 8,h.cell 9,h.frozen 9⟩
theorem qF {w:World} {g:Nat} {t:TypeId} {cs:List Value} (h:Blk w g t cs) (k:Int) (e:cs=[.int .i64 k,.int .u32 0,.slice none 0 0,.slice none 0 0]:=by rfl):w.cell? ⟨g,0,none⟩=some (.int .i64 k)/\w.frozen? ⟨g,0,none⟩=false/\w.cell? ⟨g,1,none⟩=some (.int .u32 0)/\w.frozen? ⟨g,1,none⟩=false/\w.cell? ⟨g,2,none⟩=some (.slice none 0 0)/\w.frozen? ⟨g,2,none⟩=false/\w.cell? ⟨g,3,none⟩=some (.slice none 0 0)/\w.frozen? ⟨g,3,none⟩=false:=by subst e;exact⟨h.cell 0,h.frozen 0,h.cell 1,h.frozen 1,h.cell 2,h.frozen 2,h.cell 3,h.frozen 3⟩
theorem zR (L:List Nat) (w:World):Only L w w:=Only.refl L w
end Go.Proofs.YtfbhemmpobgdpaaGreatDoor
