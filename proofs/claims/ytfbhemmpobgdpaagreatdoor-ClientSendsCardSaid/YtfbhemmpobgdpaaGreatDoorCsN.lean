/- ClientSends: lemmas, from 'Layer 30: what comes of a message, seen from all of a client' on; what each asks for stands in it. -/
import Derived.Test.YtfbhemmpobgdpaaGreatDoorCsM
import Derived.Test.YtfbhemmpobgdpaaGreatDoorCsK
import Derived.Test.YtfbhemmpobgdpaaGreatDoorCsL
import Derived.Test.YtfbhemmpobgdpaaGreatDoorCsF
set_option linter.all false
set_option maxRecDepth 100000
set_option maxHeartbeats 64000000
namespace Go.Proofs.YtfbhemmpobgdpaaGreatDoor
open Go.RowKit Go.MapKept
def CoPost (p:Nat) (C:CL) (i:Nat) (x:HM) (m:MD) (w:World):Ending->World->Prop:=fun e w2=>∃(z:CL) (r:RQ) (e2:Int),e = .returned (.int .i64 (GB C.abs x.abs m r).2)/\Only (C.fp p) w w2/\(CAt p z w2/\z.abs=OM C.abs i (GB C.abs x.abs m r))/\(m.kind=98->LQ m.name m.data r e2)/\∀y∈z.fp p,y<w2.heap.size/\(y∈C.fp p\/w.heap.size<=y)
theorem CAt.cells {p:Nat} {C:CL} {w w':World} {i:Nat} {x:HM} {c':CC} (h:CAt p C w) (hx:C.R.xs[i]? = some x) (O:Only [x.b] w w') (hB:Blk w' x.b 94 c'.cells) (hs:OL x.c c'): ∃z:CL,Only (C.fp p) w w'/\(CAt p z w'/\z.abs = { C.abs with xs:=C.abs.xs.set i (x.set c').abs })/\∀y∈z.fp p,y<w'.heap.size/\(y∈C.fp p\/w.heap.size<=y):=by
 have hT:TQ p C.K C.sA C.sc C.said C.M C.M.abs w':=TQ.st w w' O.size (fun y hy=>O.block y (h.tq.lt y hy) (fun hm=>by
  rw[qS] at hm;subst hm;exact SU h hx hy)) h.tq
 obtain⟨o1,o2,o3⟩:=CAt.turn [] (by simp) h hx (by rw[qN];exact O.mono fun y hy=>qJ (.inr hy)) hT hB hs (fun y hy=>⟨fun e=>by subst e;exact SU h hx hy,zT (h.tq.lt y hy) O.size,.inl hy⟩);rw[qN] at o1;exact⟨_,o1,⟨o2.1,o2.2⟩,o3⟩
theorem ownX_of {α:Type} {cf:α->List Value} {E size n:Nat} (hcl: ∀x,(cf x).length=size) (hs:0<size) {w:World} {A:Option Addr} {c:Nat} {l:List α} (h:w.ownsRow 0 E size (.slice A n c) n (l.flatMap cf)):l.length=n/\AN cf E size w 0 (.slice A n c) l:=by
 have h1:(l.flatMap cf).length=n*size:=h.1;rw[FJ hcl] at h1;have h2:l.length=n:=Nat.eq_of_mul_eq_mul_right hs h1;refine⟨h2,?_⟩;unfold AN;rw[h2];exact h
theorem CAt.slice {p:Nat} {C:CL} {w w':World} {i:Nat} {x x':HM} {A:Option Addr} (h:CAt p C w) (hx:C.R.xs[i]? = some x) (hb:x'.b=x.b) (hA: ∀y∈bkO A,y∈x.fp) (O:Only (x.b::bkO A) w w') (hH:HAt x' w') (hnd:x'.fp.Nodup) (hf: ∀y∈x'.fp,y<w'.heap.size/\(y∈x.fp\/w.heap.size<=y)): ∃z:CL,Only (C.fp p) w w'/\(CAt p z w'/\z.abs = { C.abs with xs:=C.abs.xs.set i x'.abs })/\∀y∈z.fp p,y<w'.heap.size/\(y∈C.fp p\/w.heap.size<=y):=by
 obtain⟨nd,sub⟩:=h.parts hx;rw[qD] at nd;have hbx:x.b∈x.fp:=by simp[HM.fp]
 have hLx: ∀y∈x.b::bkO A,y∈x.fp:=fun y hy=>(qC.1 hy).elim (fun e=>by subst e;exact hbx) (hA y);have hT:TQ p C.K C.sA C.sc C.said C.M C.M.abs w':=TQ.st w w' O.size (fun y hy=>O.block y (h.tq.lt y hy) (fun hm=>nd.2.2 y hy y (hLx y hm) rfl)) h.tq;have:=CAt.put [] (by simp) h hx (x':=x') (by rw[qN];exact O.mono fun y hy=>qJ (.inr (hLx y hy))) hT hH hb (by
  rw[qD];refine⟨nd.1,hnd,fun a ha b hb e=>?_⟩;subst e;rcases(hf a hb).2 with h1|h1;·exact nd.2.2 a ha a h1 rfl
  ·have:=h.tq.lt a ha;omega) (fun y hy=>by
  rcases qK hy with hy|hy;·exact⟨zT (h.tq.lt y hy) O.size,.inl (qJ (.inl hy))⟩
  ·exact⟨(hf y hy).1,(hf y hy).2.imp (fun h=>qJ (.inr h)) id⟩)
 rw[qN] at this;exact⟨_,this.1,⟨this.2.1,VS⟩,this.2.2⟩
theorem PZ (A:Option Addr):(bkO A).Nodup:=FZ A
def LD (k:Int):Nat:=if k=91 then 91 else if k=92 then 92 else if k=93 then 93 else if k=94 then 94 else if k=95 then 94 else if k=97 then 95 else if k=98 then 96 else 97
theorem eL (k:Int):BU k comL=if comK k=true then some (fV (LD k)) else none:=by
 by_cases h91:k=91;· subst h91;rfl
 by_cases h92:k=92;· subst h92;rfl
 by_cases h93:k=93;· subst h93;rfl
 by_cases h94:k=94;· subst h94;rfl
 by_cases h95:k=95;· subst h95;rfl
 by_cases h97:k=97;· subst h97;rfl
 by_cases h98:k=98;· subst h98;rfl
 by_cases h99:k=99;· subst h99;rfl
 by_cases h100:k=100;· subst h100;rfl
 have e:comK k=false:=by unfold comK;simp[*]
 rw[e,if_neg (by decide)];unfold comL;simp only[BU];rw[if_neg (by omega),if_neg (by omega),if_neg (by omega),if_neg (by omega),if_neg (by omega),if_neg (by omega),if_neg (by omega),if_neg (by omega),if_neg (by omega)]
section
variable {C:CS} {x:HS} {m:MD} {r:RQ}
theorem com91 (e:m.kind=91):GB C x m r=((C,{ x with st:=2,server:=m.sender,oL:=m.window,oP:=m.packet }),0):=by unfold GB;rw[if_pos e]
theorem com92 (e:m.kind=92):GB C x m r=((C,{ x with st:=3 }),0):=by unfold GB;rw[if_neg (show¬m.kind=91 by omega),if_pos e]
theorem com93 (e:m.kind=93):GB C x m r=((C,{ x with oL:=(GX x.oL m.window).1 }),(GX x.oL m.window).2):=by unfold GB;rw[if_neg (show¬m.kind=91 by omega),if_neg (show¬m.kind=92 by omega),if_pos e]
theorem com94 (e:m.kind=94):GB C x m r=((C,{ x with iL:=(GC x.iL m.data.length).1,l0:=if(GC x.iL m.data.length).2=0 then x.l0++m.data else x.l0 }),(GC x.iL m.data.length).2):=by unfold GB;rw[if_neg (show¬m.kind=91 by omega),if_neg (show¬m.kind=92 by omega),if_neg (show¬m.kind=93 by omega),if_pos e]
theorem com95 (e:m.kind=95):GB C x m r=((C,{ x with iL:=(GC x.iL m.data.length).1,l1:=if(GC x.iL m.data.length).2=0 then x.l1++m.data else x.l1 }),(GC x.iL m.data.length).2):=by unfold GB;rw[if_neg (show¬m.kind=91 by omega),if_neg (show¬m.kind=92 by omega),if_neg (show¬m.kind=93 by omega),if_neg (show¬m.kind=94 by omega),if_pos e]
theorem com97 (e:m.kind=97):GB C x m r=((if x.clo then C else FP C (mK 97 x.server),{ x with clo:=true,st:=4 }),0):=by unfold GB;rw[if_neg (show¬m.kind=91 by omega),if_neg (show¬m.kind=92 by omega),if_neg (show¬m.kind=93 by omega),if_neg (show¬m.kind=94 by omega),if_neg (show¬m.kind=95 by omega),if_pos e]
theorem com98 (e:m.kind=98):GB C x m r=((C,{ x with ex:=r,told:=true }),0):=by unfold GB;rw[if_neg (show¬m.kind=91 by omega),if_neg (show¬m.kind=92 by omega),if_neg (show¬m.kind=93 by omega),if_neg (show¬m.kind=94 by omega),if_neg (show¬m.kind=95 by omega),if_neg (show¬m.kind=97 by omega),if_pos e]
theorem com99 (e:m.kind=99\/m.kind=100):GB C x m r=((C,{ x with al:=x.al++[decide (m.kind=99)] }),0):=by unfold GB;rw[if_neg (show¬m.kind=91 by omega),if_neg (show¬m.kind=92 by omega),if_neg (show¬m.kind=93 by omega),if_neg (show¬m.kind=94 by omega),if_neg (show¬m.kind=95 by omega),if_neg (show¬m.kind=97 by omega),if_neg (show¬m.kind=98 by omega)]
end
theorem com_any (p:Nat) (C:CL) (i:Nat) (x:HM) (m:MD) (i0:Int) (w:World) (h:CAt p C w) (hx:C.R.xs[i]? = some x) (hk:comK m.kind=true) (hm:DE w (C.fp p) (PO i0 m)) {N:Nat} (hok:COk N C.abs) (hN:N<=1000000) (hml:m.data.length<=1000000) (hsz:C.said.length<=100000000):Calls Tryz.prog (LD m.kind) #[AD p,AD x.b,m.val] w (CoPost p C i x m w):=by
 have hmem:=qE hx;have hxo:HOk N x.abs:=hok.xs _ (List.mem_map.2 ⟨x,hmem,rfl⟩);have hl0:x.l0.length<=N:=hxo.l.1;have hl1:x.l1.length<=N:=hxo.l.2.1;have hll:x.al.length<=N:=hxo.l.2.2;have hA:=h.rst.xs x hmem;obtain⟨nd,sub⟩:=h.parts hx;rw[qD] at nd;have ndx:=nd.2.1;unfold HM.fp at ndx;rw[List.nodup_cons,qD,qD] at ndx;obtain⟨nb,n0,⟨n1,n2,n12⟩,n01⟩:=ndx;have hbx:x.b∈x.fp:=by simp[HM.fp]
 have hg0: ∀y∈bkO x.c.g0,y∈x.fp:=fun y hy=>by simp[HM.fp,hy]
 have hg1: ∀y∈bkO x.c.g1,y∈x.fp:=fun y hy=>by simp[HM.fp,hy]
 have hga: ∀y∈bkO x.c.an,y∈x.fp:=fun y hy=>by simp[HM.fp,hy]
 have hlt:=hA.lt;have fin: ∀{e:Ending} {w2:World} {c':CC} {E:Int} (r:RQ) (e2:Int),cJ x.b c' E w e w2->OL x.c c'->(m.kind=98->LQ m.name m.data r e2)->GB C.abs x.abs m r=((C.abs,(x.set c').abs),E)->CoPost p C i x m w e w2:=by
  rintro e w2 c' E r e2 ⟨rfl,O,hB⟩ hs hD he;obtain⟨z,o1,o2,o3⟩:=CAt.cells h hx O hB hs;refine⟨z,r,e2,by rw[he],o1,⟨o2.1,?_⟩,hD,o3⟩;rw[o2.2,he];rfl
 have kind:m.kind=91\/m.kind=92\/m.kind=93\/m.kind=94\/m.kind=95\/m.kind=97\/m.kind=98\/m.kind=99\/m.kind=100:=by
  unfold comK at hk;simp only[Bool.or_eq_true,beq_iff_eq] at hk;omega
 rcases kind with e|e|e|e|e|e|e|e|e
 ·rw[e];exact(WN p x.b x.c m w hA.blk).mono fun e' w2 hh=>fin BV 0 hh ⟨⟨rfl,rfl,rfl⟩,⟨rfl,rfl,rfl⟩,rfl,rfl,rfl⟩ (fun h=>by omega) ((com91 e).trans rfl)
 ·rw[e];exact(eK p x.b x.c m w hA.blk).mono fun e' w2 hh=>fin BV 0 hh ⟨⟨rfl,rfl,rfl⟩,⟨rfl,rfl,rfl⟩,rfl,rfl,rfl⟩ (fun h=>by omega) ((com92 e).trans rfl)
 ·rw[e];exact(cS p x.b x.c m w hA.blk).mono fun e' w2 hh=>fin BV 0 hh ⟨⟨rfl,rfl,rfl⟩,⟨rfl,rfl,rfl⟩,rfl,rfl,rfl⟩ (fun h=>by omega) ((com93 e).trans rfl)
 ·rw[e];refine(iV p x.b x.c x.l0 m w (by omega) hA.blk hA.o0 hA.n0 (by have:=hA.n0;omega) hml (fun hy=>nb (by simp[hy])) (fun w' O=>NC (hm w' (O.mono fun y hy=>?_)).1.data)).mono ?_
  ·rcases qC.1 hy with e|hy;·subst e;exact sub _ (qJ (.inr hbx))
   ·exact sub _ (qJ (.inr (hg0 y hy)))
  rintro e' w2 ⟨z,rfl,O,hB,ho,hnb,hf⟩;obtain⟨hlen,hX⟩:=ownX_of BT (by decide) ho;refine Exists.elim (CAt.slice (x':=⟨x.b,{ x.c with iL:=(GC x.c.iL m.data.length).1,g0:=z.1,n0:=z.2.1,c0:=z.2.2 },if(GC x.c.iL m.data.length).2=0 then x.l0++m.data else x.l0,x.l1,x.al⟩) h hx rfl hg0 O ⟨hB,hX,AI w w2 O.size (fun y hy=>O.block y (hlt y (hg1 y hy)) (fun hm=>?_)) hA.o1,AI w w2 O.size (fun y hy=>O.block y (hlt y (hga y hy)) (fun hm=>?_)) hA.oa,hlen,hA.n1,hA.nn⟩ ?_ ?_) ?_
  ·rcases qC.1 hm with e|hm;·subst e;exact nb (by simp[hy])
   ·exact n01 y hm y (by simp[hy]) rfl
  ·rcases qC.1 hm with e|hm;·subst e;exact nb (by simp[hy])
   ·exact n01 y hm y (by simp[hy]) rfl
  ·show(x.b::(bkO z.1++(bkO x.c.g1++bkO x.c.an))).Nodup;rw[List.nodup_cons,qD,qD];refine⟨fun hm=>?_,PZ _,⟨n1,n2,n12⟩,fun a ha b hb e=>?_⟩
   ·rcases qK hm with hm|hm;·exact hnb hm
    ·exact nb (qJ (.inr hm))
   ·subst e;rcases(hf a ha).2 with h1|h1;·exact n01 a h1 a hb rfl
    ·have:=hlt a (by unfold HM.fp;exact List.mem_cons_of_mem _ (qJ (.inr hb)));omega
  ·intro y hy;have hy:y∈x.b::(bkO z.1++(bkO x.c.g1++bkO x.c.an)):=hy;rcases qC.1 hy with e|hy;·subst e;exact⟨zT (hlt _ hbx) O.size,.inl hbx⟩
   ·rcases qK hy with hy|hy;·exact⟨(hf y hy).1,(hf y hy).2.imp (hg0 y) id⟩
    ·have hm:y∈x.fp:=by unfold HM.fp;exact List.mem_cons_of_mem _ (qJ (.inr hy))
     exact⟨zT (hlt y hm) O.size,.inl hm⟩
  ·rintro zz ⟨o1,o2,o3⟩;refine⟨zz,BV,0,?_,o1,⟨o2.1,?_⟩,fun h=>by omega,o3⟩
   ·have e2:(GB C.abs x.abs m BV).2=(GC x.c.iL m.data.length).2:=by rw[com94 e];rfl
    rw[e2]
   ·rw[o2.2];rw[com94 e];try rfl
 ·rw[e];refine(iW p x.b x.c x.l1 m w e hA.blk hA.o1 hA.n1 (by have:=hA.n1;omega) hml (fun hy=>nb (by simp[hy])) (fun w' O=>NC (hm w' (O.mono fun y hy=>?_)).1.data)).mono ?_
  ·rcases qC.1 hy with e|hy;·subst e;exact sub _ (qJ (.inr hbx))
   ·exact sub _ (qJ (.inr (hg1 y hy)))
  rintro e' w2 ⟨z,rfl,O,hB,ho,hnb,hf⟩;obtain⟨hlen,hX⟩:=ownX_of BT (by decide) ho;refine Exists.elim (CAt.slice (x':=⟨x.b,{ x.c with iL:=(GC x.c.iL m.data.length).1,g1:=z.1,n1:=z.2.1,c1:=z.2.2 },x.l0,if(GC x.c.iL m.data.length).2=0 then x.l1++m.data else x.l1,x.al⟩) h hx rfl hg1 O ⟨hB,AI w w2 O.size (fun y hy=>O.block y (hlt y (hg0 y hy)) (fun hm=>?_)) hA.o0,hX,AI w w2 O.size (fun y hy=>O.block y (hlt y (hga y hy)) (fun hm=>?_)) hA.oa,hA.n0,hlen,hA.nn⟩ ?_ ?_) ?_
  ·rcases qC.1 hm with e|hm;·subst e;exact nb (by simp[hy])
   ·exact n01 y hy y (by simp[hm]) rfl
  ·rcases qC.1 hm with e|hm;·subst e;exact nb (by simp[hy])
   ·exact n12 y hm y hy rfl
  ·show(x.b::(bkO x.c.g0++(bkO z.1++bkO x.c.an))).Nodup;rw[List.nodup_cons,qD,qD];refine⟨fun hm=>?_,n0,⟨PZ _,n2,fun a ha b hb e=>?_⟩,fun a ha b hb e=>?_⟩
   ·rcases qK hm with hm|hm;·exact nb (qJ (.inl hm))
    ·rcases qK hm with hm|hm;·exact hnb hm
     ·exact nb (by simp[hm])
   ·subst e;rcases(hf a ha).2 with h1|h1;·exact n12 a h1 a hb rfl
    ·have:=hlt a (hga a hb);omega
   ·subst e;rcases qK hb with hb|hb
    ·rcases(hf a hb).2 with h1|h1;·exact n01 a ha a (by simp[h1]) rfl
     ·have:=hlt a (hg0 a ha);omega
    ·exact n01 a ha a (by simp[hb]) rfl
  ·intro y hy;have hy:y∈x.b::(bkO x.c.g0++(bkO z.1++bkO x.c.an)):=hy;rcases qC.1 hy with e|hy;·subst e;exact⟨zT (hlt _ hbx) O.size,.inl hbx⟩
   ·rcases qK hy with hy|hy;·exact⟨zT (hlt y (hg0 y hy)) O.size,.inl (hg0 y hy)⟩
    ·rcases qK hy with hy|hy;·exact⟨(hf y hy).1,(hf y hy).2.imp (hg1 y) id⟩
     ·exact⟨zT (hlt y (hga y hy)) O.size,.inl (hga y hy)⟩
  ·rintro zz ⟨o1,o2,o3⟩;refine⟨zz,BV,0,?_,o1,⟨o2.1,?_⟩,fun h=>by omega,o3⟩
   ·have e2:(GB C.abs x.abs m BV).2=(GC x.c.iL m.data.length).2:=by rw[com95 e];rfl
    rw[e2]
   ·rw[o2.2];rw[com95 e];try rfl
 ·rw[e];refine(eI p x.b C.K C.sA C.sc C.said C.M C.M.abs x.c m w h.tq hA.blk (SU h hx) hxo.n.1 (fun o ho=>Nat.le_trans (hok.w.op o ho).2 hN) hsz).mono ?_;rintro e' w2 ⟨z,rfl,O,hT,hB,hf⟩;obtain⟨o1,⟨o2,o3⟩,o4⟩:=CAt.turn (c':={ x.c with clo:=true,st:=4 }) [] (by simp) h hx (by
   rw[qN];exact O.mono fun y hy=>by
    rcases qC.1 hy with h|h;·subst h;simp
    ·exact qJ (.inl h)) hT hB ⟨⟨rfl,rfl,rfl⟩,⟨rfl,rfl,rfl⟩,rfl,rfl,rfl⟩ hf
  rw[qN] at o1;have e2:GB C.abs x.abs m BV=((if x.c.clo then C.abs else FP C.abs (mK 97 x.c.server),{ x.abs with clo:=true,st:=4 }),0):=com97 e;refine⟨_,BV,0,by rw[e2],o1,⟨o2,?_⟩,fun h=>by omega,o4⟩;rw[o3,e2];unfold SZ clWS;cases x.c.clo<;>kernel_rfl
 ·rw[e];refine(iX p x.b x.c m i0 w hA.blk (fun w' O=>hm w' (O.mono fun y hy=>?_))).mono ?_;·rw[qS] at hy;subst hy;exact sub _ (qJ (.inr hbx))
  rintro e' w2 ⟨r,E,rfl,O,hD,hB⟩;exact fin r E ⟨rfl,O,hB⟩ ⟨⟨rfl,rfl,rfl⟩,⟨rfl,rfl,rfl⟩,rfl,rfl,rfl⟩ (fun _=>hD) ((com98 e).trans rfl)
 all_goals (
  have e99:m.kind=99\/m.kind=100:=by omega
  have ef:LD m.kind=97:=by rcases e99 with e|e<;>rw[e]<;>rfl
  rw[ef];refine(YZ p x.b x.c x.al m w hA.blk hA.oa hA.nn (by have:=hA.nn;omega) (fun hy=>nb (by simp[hy]))).mono ?_;rintro e' w2 ⟨z,rfl,O,hB,ho,hnb,hf⟩;obtain⟨zz,o1,o2,o3⟩:=CAt.slice (x':=⟨x.b,{ x.c with an:=z.1,nn:=x.c.nn+1,nc:=z.2 },x.l0,x.l1,x.al++[decide (m.kind=99)]⟩) h hx rfl hga O ⟨hB,AI w w2 O.size (fun y hy=>O.block y (hlt y (hg0 y hy)) (fun hm=>by
    rcases qC.1 hm with e|hm;·subst e;exact nb (by simp[hy])
    ·exact n01 y hy y (by simp[hm]) rfl)) hA.o0,AI w w2 O.size (fun y hy=>O.block y (hlt y (hg1 y hy)) (fun hm=>by
    rcases qC.1 hm with e|hm;·subst e;exact nb (by simp[hy])
    ·exact n12 y hy y hm rfl)) hA.o1,ho,hA.n0,hA.n1,by rw[zE,List.length_singleton,hA.nn]⟩ (by
    show(x.b::(bkO x.c.g0++(bkO x.c.g1++bkO z.1))).Nodup;rw[List.nodup_cons,qD,qD];refine⟨fun hm=>?_,n0,⟨n1,PZ _,fun a ha b hb e=>?_⟩,fun a ha b hb e=>?_⟩
    ·rcases qK hm with hm|hm;·exact nb (qJ (.inl hm))
     ·rcases qK hm with hm|hm;·exact nb (by simp[hm])
      ·exact hnb hm
    ·subst e;rcases(hf a hb).2 with h1|h1;·exact n12 a ha a h1 rfl
     ·have:=hlt a (hg1 a ha);omega
    ·subst e;rcases qK hb with hb|hb;·exact n01 a ha a (by simp[hb]) rfl
     ·rcases(hf a hb).2 with h1|h1;·exact n01 a ha a (by simp[h1]) rfl
      ·have:=hlt a (hg0 a ha);omega) (by
    intro y hy;have hy:y∈x.b::(bkO x.c.g0++(bkO x.c.g1++bkO z.1)):=hy;rcases qC.1 hy with e|hy;·subst e;exact⟨zT (hlt _ hbx) O.size,.inl hbx⟩
    ·rcases qK hy with hy|hy;·exact⟨zT (hlt y (hg0 y hy)) O.size,.inl (hg0 y hy)⟩
     ·rcases qK hy with hy|hy;·exact⟨zT (hlt y (hg1 y hy)) O.size,.inl (hg1 y hy)⟩
      ·exact⟨(hf y hy).1,(hf y hy).2.imp (hga y) id⟩)
  have e2:GB C.abs x.abs m BV=((C.abs,{ x.abs with al:=x.abs.al++[decide (m.kind=99)] }),0):=com99 e99;refine⟨zz,BV,0,by rw[e2],o1,⟨o2.1,?_⟩,fun h=>by omega,o3⟩;rw[o2.2,e2];rfl)
def NotAll (k:Int):Prop:=k≠1/\k≠81/\k≠82/\k≠91/\k≠92
theorem jU (M:WM) (p:Nat) (m:MD) (w:World) (h:WAt w p M) (hd:M.dead=true) (ok:Bool):Calls Tryz.prog 60 #[AD p,m.val] w (DF M p (AJ M.abs m ok).1 (.int .i64 (AJ M.abs m ok).2) w):=by
 have eS:AJ M.abs m ok=(M.abs,9):=by unfold AJ;rw[if_pos (show M.abs.dead=true from hd)]
 rw[eS];have hb:=h.blk;obtain⟨ob,eb,nb,opens,glob,ends,nums,dead⟩:=M;dsimp only at hd;subst hd;refine Hs.en Tryz.func60 [] [p] [.b false 131 (wS ⟨ob,eb,nb,opens,glob,ends,nums,true⟩)] [.c (.p 0 0),.g (mdS m)] (Mem.rdOne w p hb) ?_;refine Hs.e1 fun b0=>?_;refine Hs.cF ?_;refine Hs.e0 ?_;refine Hs.cT ?_;refine Hs.e0 ?_;exact Hs.rt (v:=.int .i64 9) Tryz.func60 fun w' H=>h.keep H.only _
theorem hears_no (M:WM) (p:Nat) (m:MD) (w:World) (h:WAt w p M) (hd:M.dead=false) (hk:NotAll m.kind) (he:AH m.chan M.ends=none) (ok:Bool):Calls Tryz.prog 60 #[AD p,m.val] w (DF M p (AJ M.abs m ok).1 (.int .i64 (AJ M.abs m ok).2) w):=by
 have eS:AJ M.abs m ok=(M.abs,if m.kind<93\/m.kind>100 then 2 else 8):=by
  obtain⟨k1,k2,k3,k4,k5⟩:=hk;unfold AJ;rw[if_neg (show¬M.abs.dead=true by rw[show M.abs.dead=M.dead from rfl,hd];decide),if_neg k1,if_neg (fun e=>e.elim k2 k3),if_neg k4,if_neg k5];rw[show AH m.chan M.abs.ends=none by unfold WM.abs;dsimp only;rw[EV,he];rfl];split<;>rfl
 rw[eS];have hb:=h.blk;have hme:=h.me;have A:=HH h.nd;have h4:=A.four;simp only[List.nodup_cons,qC,List.not_mem_nil,or_false,not_or] at h4;have hlook:BU m.chan (AX (fun x=>AD x.1) M.ends)=none:=by rw[GD,he];rfl
 obtain⟨ob,eb,nb,opens,glob,ends,nums,dead⟩:=M;dsimp only at *;subst hd;have hnd:[p,eb].Nodup:=by simp only[List.nodup_cons,qC,List.not_mem_nil,or_false,not_or,List.nodup_nil,not_false_eq_true,and_true];exact h4.1.2.1
 refine Hs.en Tryz.func60 [] [p,eb] [.b false 131 (wS ⟨ob,eb,nb,opens,glob,ends,nums,false⟩),HB.mpr (kI .u32) eb (AX (fun x=>AD x.1) ends)] [.c (.p 0 0),.g (mdS m)] (Mem.startW [] (β:=[p,eb]) (hp:=[.b false 131 (wS ⟨ob,eb,nb,opens,glob,ends,nums,false⟩),HB.mpr (kI .u32) eb (AX (fun x=>AD x.1) ends)]) rfl hnd ⟨hb,⟨hme,fun a ha=>by injection ha with ha;subst ha;exact hme.lt⟩,trivial⟩ (by simp[wrN,HB.wr,HB.mpr])) ?_;refine Hs.e1 fun b0=>?_;refine Hs.cF ?_;refine Hs.e0 ?_;refine Hs.cF ?_;refine Hs.e0 ?_;refine Hs.any [0,2] (by kernel_rfl) ?_;refine Hs.e0 ?_;refine Hs.callQ (X:=Nat) (fun r=>some ⟨r,0,none⟩) (fun r=>.map (some r)) (fun r w'=>BQ (kI .i64) w' r (IF p)) (fun r=>BQ.st) (fun w' H=>GN p w') (by kernel_rfl) (by kernel_rfl) fun r=>?_;refine Hs.e0 ?_;refine Hs.getM (r:=r) (es:=IF p) IG m.kind true (.tuple #[.nilFunc,.bool false]) (by rw[UO m.kind p hk];rfl) (by kernel_rfl) (fun w' H=>H.mapM 3 (by kernel_rfl)) ?_;refine Hs.e0 ?_;refine Hs.cF ?_;refine Hs.e0 ?_;refine Hs.any [0,1,2] (by kernel_rfl) ?_;refine Hs.e0 ?_;refine Hs.getM (r:=eb) (es:=AX (fun x=>AD x.1) ends) RT m.chan true (.tuple #[.pointer none,.bool false]) (by rw[hlook];rfl) (by kernel_rfl) (fun w' H=>H.mapR 1 (by kernel_rfl)) ?_;refine Hs.e0 ?_;refine Hs.cT ?_;refine Hs.e1 fun q=>?_;refine Hs.any [2] (by kernel_rfl) ?_;refine Hs.e0 ?_;refine Hs.callQ (X:=Nat) (fun r=>some ⟨r,0,none⟩) (fun r=>.map (some r)) (fun r w'=>BQ (kI .i64) w' r (ofL q)) (fun r=>BQ.st) (fun w' H=>ofL_any q w') (by kernel_rfl) (by kernel_rfl) fun r2=>?_;refine Hs.e0 ?_;by_cases hr:m.kind<93\/m.kind>100
 ·rw[if_pos hr];refine Hs.getM (r:=r2) (es:=ofL q) IG m.kind true (.tuple #[.nilFunc,.bool false]) (by rw[XF m.kind q hr];rfl) (by kernel_rfl) (fun w' H=>H.mapM 5 (by kernel_rfl)) ?_;refine Hs.e0 ?_;refine Hs.cT ?_;refine Hs.e0 ?_;exact Hs.rt (v:=.int .i64 2) Tryz.func60 fun w' H=>h.keep H.only _
 ·rw[if_neg hr];refine Hs.getM (r:=r2) (es:=ofL q) IG m.kind true (.tuple #[mV (bU m.kind) q,.bool true]) (by rw[look_of m.kind q (by omega) (by omega)];rfl) (by kernel_rfl) (fun w' H=>H.mapM 5 (by kernel_rfl)) ?_;refine Hs.e0 ?_;refine Hs.cF ?_;refine Hs.e0 ?_;refine Hs.cT ?_;refine Hs.e0 ?_;exact Hs.rt (v:=.int .i64 8) Tryz.func60 fun w' H=>h.keep H.only _
theorem hears_end (M:WM) (p:Nat) (m:MD) (i0:Int) (w:World) (h:WAt w p M) (hd:M.dead=false) (hk:NotAll m.kind) {b:Nat} {x:EN} (he:AH m.chan M.ends=some (b,x)) (hx:U32 x.packet) (hm:DE w (M.fp p) (PO i0 m)):Calls Tryz.prog 60 #[AD p,m.val] w (DF M p (AJ M.abs m (okEx m)).1 (.int .i64 (AJ M.abs m (okEx m)).2) w):=by
 have hle:AH m.chan M.abs.ends=some x:=by unfold WM.abs;dsimp only;rw[EV,he];rfl
 have eS:AJ M.abs m (okEx m)=if m.kind<93\/m.kind>100 then(M.abs,2) else if x.closed then(M.abs,9) else({ M.abs with ends:=CG m.chan (endS x m (okEx m)).1 M.abs.ends },(endS x m (okEx m)).2):=by
  obtain⟨k1,k2,k3,k4,k5⟩:=hk;unfold AJ;rw[if_neg (show¬M.abs.dead=true by rw[show M.abs.dead=M.dead from rfl,hd];decide),if_neg k1,if_neg (fun e=>e.elim k2 k3),if_neg k4,if_neg k5,hle]
 rw[eS];have hb:=h.blk;have hme:=h.me;have A:=HH h.nd;have h4:=A.four;simp only[List.nodup_cons,qC,List.not_mem_nil,or_false,not_or] at h4;have hbm:b∈fpA eFp M.ends:=BH he (by simp[eFp]);have hb4:=A.fe b hbm;simp only[qC,List.not_mem_nil,or_false,not_or] at hb4;have hE:Blk w b 185 x.cells:=h.es _ (CD he);have hlook:BU m.chan (AX (fun x=>AD x.1) M.ends)=some (AD b):=by rw[GD,he];rfl
 have hmb:DE w [b] (PO i0 m):=hm.mono fun y hy=>by
  rw[qS] at hy;subst hy;simp only[WM.fp,List.mem_append];exact .inr (.inr hbm)
 have hput:=fun(w':World) (x':EN) (O:Only [p,b] w w') hp hb v=>h.putE (x':=x') O he hp hb v;have hkeep:=fun(w':World) (O:Only [b] w w') (hp:Blk w' b 185 x.cells) v=>h.putE (x':=x) (v:=v) (O.mono (by simp)) he (Blk.only (L:=[b]) h.blk O (by simp only[qS];exact fun e=>hb4.1 e.symm)) hp;have habs : { M.abs with ends:=CG m.chan x M.abs.ends }=M.abs:=by
  have e:CG m.chan x M.abs.ends=M.abs.ends:=by
   have:=TT (id:EN->EN) hle (v':=x) rfl;unfold AX at this;simpa using this
  rw[e]
 rw[habs] at hkeep;have hpne: ∀w',Only [b] w w'->Blk w' p 131 M.cells:=fun w' O=>Blk.only (L:=[b]) h.blk O (by simp only[qS];exact fun e=>hb4.1 e.symm);have hnd:[p,M.eb,b].Nodup:=by
  simp only[List.nodup_cons,qC,List.not_mem_nil,or_false,not_or,List.nodup_nil,not_false_eq_true,and_true];exact⟨⟨h4.1.2.1,fun e=>hb4.1 e.symm⟩,fun e=>hb4.2.2.1 e.symm⟩
 clear hle eS hbm;obtain⟨ob,eb,nb,opens,glob,ends,nums,dead⟩:=M;dsimp only at *;subst hd;refine Hs.en Tryz.func60 [b] [p,eb,b] [.b false 131 (wS ⟨ob,eb,nb,opens,glob,ends,nums,false⟩),HB.mpr (kI .u32) eb (AX (fun x=>AD x.1) ends),.b true 185 x.sc] [.c (.p 0 0),.g (mdS m)] (Mem.startW [b] (β:=[p,eb,b]) (hp:=[.b false 131 (wS ⟨ob,eb,nb,opens,glob,ends,nums,false⟩),HB.mpr (kI .u32) eb (AX (fun x=>AD x.1) ends),.b true 185 x.sc]) rfl hnd ⟨hb,⟨hme,fun a ha=>by injection ha with ha;subst ha;exact hme.lt⟩,hE,trivial⟩ (by simp[wrN,HB.wr,HB.mpr,HB.blk])) ?_;refine Hs.e1 fun b0=>?_;refine Hs.cF ?_;refine Hs.e0 ?_;refine Hs.cF ?_;refine Hs.e0 ?_;refine Hs.any [0,3] (by kernel_rfl) ?_;refine Hs.e0 ?_;refine Hs.callQ (X:=Nat) (fun r=>some ⟨r,0,none⟩) (fun r=>.map (some r)) (fun r w'=>BQ (kI .i64) w' r (IF p)) (fun r=>BQ.st) (fun w' H=>GN p w') (by kernel_rfl) (by kernel_rfl) fun r=>?_;refine Hs.e0 ?_;refine Hs.getM (r:=r) (es:=IF p) IG m.kind true (.tuple #[.nilFunc,.bool false]) (by rw[UO m.kind p hk];rfl) (by kernel_rfl) (fun w' H=>H.mapM 4 (by kernel_rfl)) ?_;refine Hs.e0 ?_;refine Hs.cF ?_;refine Hs.e0 ?_;refine Hs.any [0,1,3] (by kernel_rfl) ?_;refine Hs.e0 ?_;refine Hs.getM (r:=eb) (es:=AX (fun x=>AD x.1) ends) RT m.chan true (.tuple #[AD b,.bool true]) (by rw[hlook];rfl) (by kernel_rfl) (fun w' H=>H.mapR 1 (by kernel_rfl)) ?_;refine Hs.e0 ?_;refine Hs.cF ?_;refine Hs.slot 7 (.c (.p 2 0)) (by kernel_rfl) (by kernel_rfl) ?_;refine Hs.e0 ?_;refine Hs.any [3] (by kernel_rfl) ?_;refine Hs.e0 ?_;refine Hs.callQ (X:=Nat) (fun r=>some ⟨r,0,none⟩) (fun r=>.map (some r)) (fun r w'=>BQ (kI .i64) w' r (ofL b)) (fun r=>BQ.st) (fun w' H=>ofL_any b w') (by kernel_rfl) (by kernel_rfl) fun r2=>?_;refine Hs.e0 ?_;by_cases hr:m.kind<93\/m.kind>100
 ·rw[if_pos hr];refine Hs.getM (r:=r2) (es:=ofL b) IG m.kind true (.tuple #[.nilFunc,.bool false]) (by rw[XF m.kind b hr];rfl) (by kernel_rfl) (fun w' H=>H.mapM 5 (by kernel_rfl)) ?_;refine Hs.e0 ?_;refine Hs.cT ?_;refine Hs.e0 ?_;exact Hs.rt (v:=.int .i64 2) Tryz.func60 fun w' H=>hkeep w' H.only (H.at 2 (wr:=true) (T:=185) (cs:=x.sc) (by kernel_rfl)) _
 rw[if_neg hr];have hT: ∀w',Only [b] w w'->Blk w' b 185 x.cells->Calls Tryz.prog (bU m.kind) #[AD b,m.val] w' (NN b (endS x m (okEx m)) w'):=fun w' O hB=>kZ x b m i0 w' hB hx (hmb.go O) (by omega) (by omega);obtain⟨F,hF⟩:=qX (bU m.kind);have hFs:F=136\/F=137\/F=138\/F=139\/F=140\/F=141:=by
  rw[<-hF];unfold bU;repeat' split
  all_goals simp
 refine Hs.getM (r:=r2) (es:=ofL b) IG m.kind true (.tuple #[mV F b,.bool true]) (by rw[look_of m.kind b (by omega) (by omega),hF];rfl) (by kernel_rfl) (fun w' H=>H.mapM 5 (by kernel_rfl)) ?_;rw[hF] at hT;obtain⟨y,hy⟩:=qX (endS x m (okEx m));rw[hy] at hT⊢;clear hF hy;rcases hFs with rfl|rfl|rfl|rfl|rfl|rfl
 ·refine Hs.e0 ?_;refine Hs.cF ?_;refine Hs.e0 ?_;refine Hs.cF ?_;refine Hs.e0 ?_;refine Hs.cn x.closed (fun hc=>?_) (fun hc=>?_)
  ·rw[if_pos hc];refine Hs.e0 ?_;exact Hs.rt (v:=.int .i64 9) Tryz.func60 fun w' H=>hkeep w' H.only (H.at 2 (wr:=true) (T:=185) (cs:=x.sc) (by kernel_rfl)) _
  ·rw[if_neg (by rw[hc];simp)];refine Hs.e0 ?_;refine Hs.callP (v:=.int .i64 y.2) 2 185 y.1.sc (fun w' H=>hT w' H.only (H.at 2 (wr:=true) (T:=185) (cs:=x.sc) (by kernel_rfl))) (by kernel_rfl) (by kernel_rfl) ?_;refine Hs.e0 ?_;exact Hs.rt (v:=.int .i64 y.2) Tryz.func60 fun w' H=>hput w' y.1 (H.only.mono (by simp)) (hpne w' H.only) (H.at 2 (wr:=true) (T:=185) (cs:=y.1.sc) (by kernel_rfl)) _
 ·refine Hs.e0 ?_;refine Hs.cF ?_;refine Hs.e0 ?_;refine Hs.cF ?_;refine Hs.e0 ?_;refine Hs.cn x.closed (fun hc=>?_) (fun hc=>?_)
  ·rw[if_pos hc];refine Hs.e0 ?_;exact Hs.rt (v:=.int .i64 9) Tryz.func60 fun w' H=>hkeep w' H.only (H.at 2 (wr:=true) (T:=185) (cs:=x.sc) (by kernel_rfl)) _
  ·rw[if_neg (by rw[hc];simp)];refine Hs.e0 ?_;refine Hs.callP (v:=.int .i64 y.2) 2 185 y.1.sc (fun w' H=>hT w' H.only (H.at 2 (wr:=true) (T:=185) (cs:=x.sc) (by kernel_rfl))) (by kernel_rfl) (by kernel_rfl) ?_;refine Hs.e0 ?_;exact Hs.rt (v:=.int .i64 y.2) Tryz.func60 fun w' H=>hput w' y.1 (H.only.mono (by simp)) (hpne w' H.only) (H.at 2 (wr:=true) (T:=185) (cs:=y.1.sc) (by kernel_rfl)) _
 ·refine Hs.e0 ?_;refine Hs.cF ?_;refine Hs.e0 ?_;refine Hs.cF ?_;refine Hs.e0 ?_;refine Hs.cn x.closed (fun hc=>?_) (fun hc=>?_)
  ·rw[if_pos hc];refine Hs.e0 ?_;exact Hs.rt (v:=.int .i64 9) Tryz.func60 fun w' H=>hkeep w' H.only (H.at 2 (wr:=true) (T:=185) (cs:=x.sc) (by kernel_rfl)) _
  ·rw[if_neg (by rw[hc];simp)];refine Hs.e0 ?_;refine Hs.callP (v:=.int .i64 y.2) 2 185 y.1.sc (fun w' H=>hT w' H.only (H.at 2 (wr:=true) (T:=185) (cs:=x.sc) (by kernel_rfl))) (by kernel_rfl) (by kernel_rfl) ?_;refine Hs.e0 ?_;exact Hs.rt (v:=.int .i64 y.2) Tryz.func60 fun w' H=>hput w' y.1 (H.only.mono (by simp)) (hpne w' H.only) (H.at 2 (wr:=true) (T:=185) (cs:=y.1.sc) (by kernel_rfl)) _
 ·refine Hs.e0 ?_;refine Hs.cF ?_;refine Hs.e0 ?_;refine Hs.cF ?_;refine Hs.e0 ?_;refine Hs.cn x.closed (fun hc=>?_) (fun hc=>?_)
  ·rw[if_pos hc];refine Hs.e0 ?_;exact Hs.rt (v:=.int .i64 9) Tryz.func60 fun w' H=>hkeep w' H.only (H.at 2 (wr:=true) (T:=185) (cs:=x.sc) (by kernel_rfl)) _
  ·rw[if_neg (by rw[hc];simp)];refine Hs.e0 ?_;refine Hs.callP (v:=.int .i64 y.2) 2 185 y.1.sc (fun w' H=>hT w' H.only (H.at 2 (wr:=true) (T:=185) (cs:=x.sc) (by kernel_rfl))) (by kernel_rfl) (by kernel_rfl) ?_;refine Hs.e0 ?_;exact Hs.rt (v:=.int .i64 y.2) Tryz.func60 fun w' H=>hput w' y.1 (H.only.mono (by simp)) (hpne w' H.only) (H.at 2 (wr:=true) (T:=185) (cs:=y.1.sc) (by kernel_rfl)) _
 ·refine Hs.e0 ?_;refine Hs.cF ?_;refine Hs.e0 ?_;refine Hs.cF ?_;refine Hs.e0 ?_;refine Hs.cn x.closed (fun hc=>?_) (fun hc=>?_)
  ·rw[if_pos hc];refine Hs.e0 ?_;exact Hs.rt (v:=.int .i64 9) Tryz.func60 fun w' H=>hkeep w' H.only (H.at 2 (wr:=true) (T:=185) (cs:=x.sc) (by kernel_rfl)) _
  ·rw[if_neg (by rw[hc];simp)];refine Hs.e0 ?_;refine Hs.callP (v:=.int .i64 y.2) 2 185 y.1.sc (fun w' H=>hT w' H.only (H.at 2 (wr:=true) (T:=185) (cs:=x.sc) (by kernel_rfl))) (by kernel_rfl) (by kernel_rfl) ?_;refine Hs.e0 ?_;exact Hs.rt (v:=.int .i64 y.2) Tryz.func60 fun w' H=>hput w' y.1 (H.only.mono (by simp)) (hpne w' H.only) (H.at 2 (wr:=true) (T:=185) (cs:=y.1.sc) (by kernel_rfl)) _
 ·refine Hs.e0 ?_;refine Hs.cF ?_;refine Hs.e0 ?_;refine Hs.cF ?_;refine Hs.e0 ?_;refine Hs.cn x.closed (fun hc=>?_) (fun hc=>?_)
  ·rw[if_pos hc];refine Hs.e0 ?_;exact Hs.rt (v:=.int .i64 9) Tryz.func60 fun w' H=>hkeep w' H.only (H.at 2 (wr:=true) (T:=185) (cs:=x.sc) (by kernel_rfl)) _
  ·rw[if_neg (by rw[hc];simp)];refine Hs.e0 ?_;refine Hs.callP (v:=.int .i64 y.2) 2 185 y.1.sc (fun w' H=>hT w' H.only (H.at 2 (wr:=true) (T:=185) (cs:=x.sc) (by kernel_rfl))) (by kernel_rfl) (by kernel_rfl) ?_;refine Hs.e0 ?_;exact Hs.rt (v:=.int .i64 y.2) Tryz.func60 fun w' H=>hput w' y.1 (H.only.mono (by simp)) (hpne w' H.only) (H.at 2 (wr:=true) (T:=185) (cs:=y.1.sc) (by kernel_rfl)) _
theorem jV (M:WM) (p:Nat) (m:MD) (w:World) (h:WAt w p M) (hd:M.dead=false) (hk:m.kind=1) (ok:Bool):Calls Tryz.prog 60 #[AD p,m.val] w (DF M p (AJ M.abs m ok).1 (.int .i64 (AJ M.abs m ok).2) w):=by
 have eS:AJ M.abs m ok=({ M.abs with dead:=true },0):=by
  unfold AJ;rw[if_neg (show¬M.abs.dead=true by rw[show M.abs.dead=M.dead from rfl,hd];decide),if_pos hk]
 rw[eS];have hb:=h.blk;have hput:=fun(w':World) (O:Only [p] w w') hp v=>h.putP (g:=M.glob) (d:=true) O hp v;obtain⟨ob,eb,nb,opens,glob,ends,nums,dead⟩:=M;dsimp only at *;subst hd;refine Hs.en Tryz.func60 [p] [p] [.b true 131 (wS ⟨ob,eb,nb,opens,glob,ends,nums,false⟩)] [.c (.p 0 0),.g (mdS m)] (Mem.one w p hb) ?_;refine Hs.e1 fun b0=>?_;refine Hs.cF ?_;refine Hs.e0 ?_;refine Hs.cF ?_;refine Hs.e0 ?_;refine Hs.any [0,1] (by kernel_rfl) ?_;refine Hs.e0 ?_;refine Hs.callQ (X:=Nat) (fun r=>some ⟨r,0,none⟩) (fun r=>.map (some r)) (fun r w'=>BQ (kI .i64) w' r (IF p)) (fun r=>BQ.st) (fun w' H=>GN p w') (by kernel_rfl) (by kernel_rfl) fun r=>?_;refine Hs.e0 ?_;refine Hs.getM (r:=r) (es:=IF p) IG m.kind true (.tuple #[mV 132 p,.bool true]) (by rw[hk];rfl) (by kernel_rfl) (fun w' H=>H.mapM 2 (by kernel_rfl)) ?_;refine Hs.e0 ?_;refine Hs.cT ?_;refine Hs.e0 ?_;refine Hs.inl Tryz.func132 [.c (.p 0 0),.g (mdS m)] (by kernel_rfl) (by kernel_rfl) ?_;refine Hs.e1 fun b1=>?_;refine Hs.retI Tryz.func132 (by kernel_rfl) (by kernel_rfl) (by kernel_rfl) ?_;refine Hs.e0 ?_;exact Hs.rt (v:=.int .i64 0) Tryz.func60 fun w' H=>hput w' H.only (H.at 0 (wr:=true) (T:=131) (cs:=wS ⟨ob,eb,nb,opens,glob,ends,nums,true⟩) (by kernel_rfl)) _
theorem dH (M:WM) (p:Nat) (m:MD) (w:World) (h:WAt w p M) (hd:M.dead=false) (hk:m.kind=81\/m.kind=82) (ok:Bool):Calls Tryz.prog 60 #[AD p,m.val] w (DF M p (AJ M.abs m ok).1 (.int .i64 (AJ M.abs m ok).2) w):=by
 have eS:AJ M.abs m ok=if M.glob=0 then(M.abs,9) else({ M.abs with glob:=IntKind.i64.wrap (M.glob-1) },0):=by
  unfold AJ;rw[if_neg (show¬M.abs.dead=true by rw[show M.abs.dead=M.dead from rfl,hd];decide),if_neg (by rcases hk with hk|hk<;>rw[hk]<;>decide),if_pos hk];rfl
 rw[eS];have hb:=h.blk;have hput:=fun(w':World) (g:Int) (O:Only [p] w w') hp v=>h.putP (g:=g) (d:=M.dead) O hp v;have hlook:BU m.kind (IF p)=some (mV 133 p):=by rcases hk with hk|hk<;>rw[hk]<;>rfl
 obtain⟨ob,eb,nb,opens,glob,ends,nums,dead⟩:=M;dsimp only at *;subst hd;refine Hs.en Tryz.func60 [p] [p] [.b true 131 (wS ⟨ob,eb,nb,opens,glob,ends,nums,false⟩)] [.c (.p 0 0),.g (mdS m)] (Mem.one w p hb) ?_;refine Hs.e1 fun b0=>?_;refine Hs.cF ?_;refine Hs.e0 ?_;refine Hs.cF ?_;refine Hs.e0 ?_;refine Hs.any [0,1] (by kernel_rfl) ?_;refine Hs.e0 ?_;refine Hs.callQ (X:=Nat) (fun r=>some ⟨r,0,none⟩) (fun r=>.map (some r)) (fun r w'=>BQ (kI .i64) w' r (IF p)) (fun r=>BQ.st) (fun w' H=>GN p w') (by kernel_rfl) (by kernel_rfl) fun r=>?_;refine Hs.e0 ?_;refine Hs.getM (r:=r) (es:=IF p) IG m.kind true (.tuple #[mV 133 p,.bool true]) (by rw[hlook];rfl) (by kernel_rfl) (fun w' H=>H.mapM 2 (by kernel_rfl)) ?_;refine Hs.e0 ?_;refine Hs.cT ?_;refine Hs.e0 ?_;refine Hs.inl Tryz.func133 [.c (.p 0 0),.g (mdS m)] (by kernel_rfl) (by kernel_rfl) ?_;refine Hs.e1 fun b1=>?_;refine Hs.cP (glob=0) (fun hg=>?_) (fun hg=>?_)
 ·rw[if_pos hg];refine Hs.e0 ?_;refine Hs.retI Tryz.func133 (by kernel_rfl) (by kernel_rfl) (by kernel_rfl) ?_;refine Hs.e0 ?_;exact Hs.rt (v:=.int .i64 9) Tryz.func60 fun w' H=>hput w' glob H.only (H.at 0 (wr:=true) (T:=131) (cs:=wS ⟨ob,eb,nb,opens,glob,ends,nums,false⟩) (by kernel_rfl)) _
 ·rw[if_neg hg];refine Hs.e0 ?_;refine Hs.retI Tryz.func133 (by kernel_rfl) (by kernel_rfl) (by kernel_rfl) ?_;refine Hs.e0 ?_;exact Hs.rt (v:=.int .i64 0) Tryz.func60 fun w' H=>hput w' _ H.only (H.at 0 (wr:=true) (T:=131) (cs:=wS ⟨ob,eb,nb,opens,IntKind.i64.wrap (glob-1),ends,nums,false⟩) (by kernel_rfl)) _
theorem WAt.osel {w:World} {p:Nat} {M:WM} (h:WAt w p M) (s:Int): ∃o:OS,(AH s M.opens).getD ⟨none,0,[]⟩=o/\o.at w/\(∀y∈o.fp,∃o',AH s M.opens=some o'/\y∈o'.fp)/\(BU s (AX OS.val M.opens)).getD (.slice none 0 0)=o.val/\((AH s M.opens).map OS.l).getD []=o.l:=by
 cases e:AH s M.opens with
 |none=>exact⟨⟨none,0,[]⟩,rfl,DA.none_,fun y hy=>by simp[OS.fp,bkO] at hy,by rw[GD,e];rfl,rfl⟩
 |some o=>exact⟨o,rfl,h.os _ (CD e),fun y hy=>⟨_,rfl,hy⟩,by rw[GD,e];rfl,rfl⟩
theorem aJ {M:WM} {s:Int} (h:((AH s M.opens).map OS.l).getD []=[]):LS M.abs s=none:=by
 unfold LS WM.abs;dsimp only;rw[EV];cases e:(AH s M.opens).map OS.l with
 |none=>rfl
 |some l=>rw[e] at h;simp at h;subst h;rfl
theorem MT {M:WM} {s:Int} {x:Int×Int} {l:List (Int×Int)} (h:((AH s M.opens).map OS.l).getD []=x::l):LS M.abs s=some (x,l):=by
 unfold LS WM.abs;dsimp only;rw[EV];cases e:(AH s M.opens).map OS.l with
 |none=>rw[e] at h;cases h
 |some l'=>rw[e] at h;simp at h;subst h;rfl
theorem fP (M:WM) (p:Nat) (m:MD) (w:World) (h:WAt w p M) (hd:M.dead=false) (hk:m.kind=92) (hn:((AH m.chan M.opens).map OS.l).getD []=[]) (ok:Bool):Calls Tryz.prog 60 #[AD p,m.val] w (DF M p (AJ M.abs m ok).1 (.int .i64 (AJ M.abs m ok).2) w):=by
 have eS:AJ M.abs m ok=(M.abs,8):=by
  unfold AJ;rw[if_neg (show¬M.abs.dead=true by rw[show M.abs.dead=M.dead from rfl,hd];decide),if_neg (by rw[hk];decide),if_neg (by rw[hk];decide),if_neg (by rw[hk];decide),if_pos hk,aJ hn]
 rw[eS];have hb:=h.blk;have hmo:=h.mo;obtain⟨o,-,hoo,-,hlook,hol⟩:=h.osel m.chan;rw[hn] at hol;obtain⟨oA,oc,ol⟩:=o;dsimp only at hol;subst hol;have hl:(Value.slice oA ([]:List (Int×Int)).length oc) = .slice oA 0 oc:=rfl;obtain⟨ob,eb,nb,opens,glob,ends,nums,dead⟩:=M;dsimp only at *;subst hd;refine Hs.en Tryz.func60 [] [p] [.b false 131 (wS ⟨ob,eb,nb,opens,glob,ends,nums,false⟩)] [.c (.p 0 0),.g (mdS m)] (Mem.rdOne w p hb) ?_;refine Hs.e1 fun b0=>?_;refine Hs.cF ?_;refine Hs.e0 ?_;refine Hs.cF ?_;refine Hs.e0 ?_;refine Hs.any [0,1] (by kernel_rfl) ?_;refine Hs.e0 ?_;refine Hs.callQ (X:=Nat) (fun r=>some ⟨r,0,none⟩) (fun r=>.map (some r)) (fun r w'=>BQ (kI .i64) w' r (IF p)) (fun r=>BQ.st) (fun w' H=>GN p w') (by kernel_rfl) (by kernel_rfl) fun r=>?_;refine Hs.e0 ?_;refine Hs.getM (r:=r) (es:=IF p) IG m.kind true (.tuple #[mV 135 p,.bool true]) (by rw[hk];rfl) (by kernel_rfl) (fun w' H=>H.mapM 2 (by kernel_rfl)) ?_;refine Hs.e0 ?_;refine Hs.cT ?_;refine Hs.e0 ?_;refine Hs.inl Tryz.func135 [.c (.p 0 0),.g (mdS m)] (by kernel_rfl) (by kernel_rfl) ?_;refine Hs.e1 fun b1=>?_;refine Hs.inl Tryz.func191 [.c (.p 0 0),.c (.v (.int .u32 m.chan))] (by kernel_rfl) (by kernel_rfl) ?_;refine Hs.e1 fun b2=>?_;refine Hs.getM (r:=ob) (es:=AX OS.val opens) MA m.chan false (.slice oA 0 oc) hlook (by kernel_rfl) (fun w' H=>hmo.only H.only (by simp)) ?_;refine Hs.e0 ?_;refine Hs.cT ?_;refine Hs.e0 ?_;refine Hs.retI Tryz.func191 (by kernel_rfl) (by kernel_rfl) (by kernel_rfl) ?_;refine Hs.e1 fun b3=>?_;refine Hs.cT ?_;refine Hs.e0 ?_;refine Hs.retI Tryz.func135 (by kernel_rfl) (by kernel_rfl) (by kernel_rfl) ?_;refine Hs.e0 ?_;exact Hs.rt (v:=.int .i64 8) Tryz.func60 fun w' H=>h.keep H.only _
theorem WAt.putO {w w':World} {p:Nat} {M:WM} {L:List Nat} {s:Int} {o:OS} (h:WAt w p M) (O:Only L w w') (hL: ∀y∈L,y=p\/y=M.ob\/∃o',AH s M.opens=some o'/\y∈o'.fp) (hB:Blk w' p 131 M.cells) (hM:BQ (kI .u32) w' M.ob (setE s o.val (AX OS.val M.opens))) (hO:o.at w') (hnew: ∀y∈o.fp,(∃o',AH s M.opens=some o'/\y∈o'.fp)\/w.heap.size<=y) (v:Value):DF M p { M.abs with opens:=CG s o.l M.abs.opens } v w (.returned v) w':=by
 have A:=HH h.nd;have h4:=A.four;simp only[List.nodup_cons,qC,List.not_mem_nil,or_false,not_or] at h4;refine WAt.put (M':={ M with opens:=CG s o M.opens }) h O s s rfl rfl rfl hB (by dsimp only;rw[<-TU];exact hM) (h.me.only O fun hm=>?_) (h.mn.only O fun hm=>?_) h.kn (.inr ⟨_,rfl,hO,hnew⟩) (.inl ⟨rfl,fun x hx hm=>?_⟩) (fun y hy=>?_) _ _ ?_
 ·rcases hL _ hm with h1|h1|⟨o',h1,h2⟩;·exact h4.1.2.1 h1.symm
  ·exact h4.2.1.1 h1.symm
  ·exact A.fo _ (BH h1 h2) (by simp)
 ·rcases hL _ hm with h1|h1|⟨o',h1,h2⟩;·exact h4.1.2.2 h1.symm
  ·exact h4.2.1.2 h1.symm
  ·exact A.fo _ (BH h1 h2) (by simp)
 ·have hx2:x.1∈fpA eFp M.ends:=BH hx (by simp[eFp]);rcases hL _ hm with h1|h1|⟨o',h1,h2⟩;·exact A.fe _ hx2 (by simp[h1])
  ·exact A.fe _ hx2 (by simp[h1])
  ·exact A.oe _ (BH h1 h2) hx2
 ·rcases hL _ hy with h1|h1|h1;·exact .inl (by simp[h1])
  ·exact .inl (by simp[h1])
  ·exact .inr (.inl h1)
 ·unfold WM.abs;dsimp only;rw[<-MO]
theorem kB {w:World} {p:Nat} {M:WM} {s:Int} {oA:Option Addr} (h:WAt w p M) (hofp: ∀y∈bkO oA,∃o',AH s M.opens=some o'/\y∈o'.fp):(p::M.ob::bkO oA).Nodup:=by
 have A:=HH h.nd;have h4:=A.four;simp only[List.nodup_cons,qC,List.not_mem_nil,or_false,not_or] at h4⊢;refine⟨⟨h4.1.1,fun hm=>?_⟩,fun hm=>?_,FZ _⟩
 ·obtain⟨o',h1,h2⟩:=hofp p hm;exact A.fo p (BH h1 h2) (by simp)
 ·obtain⟨o',h1,h2⟩:=hofp M.ob hm;exact A.fo M.ob (BH h1 h2) (by simp)
theorem fQ (M:WM) (p:Nat) (m:MD) (w:World) (h:WAt w p M) (hd:M.dead=false) (hk:m.kind=92) {x:Int×Int} {l:List (Int×Int)} (hn:((AH m.chan M.opens).map OS.l).getD []=x::l) (ok:Bool):Calls Tryz.prog 60 #[AD p,m.val] w (DF M p (AJ M.abs m ok).1 (.int .i64 (AJ M.abs m ok).2) w):=by
 have eS:AJ M.abs m ok=({ M.abs with opens:=CG m.chan l M.abs.opens },0):=by
  unfold AJ;rw[if_neg (show¬M.abs.dead=true by rw[show M.abs.dead=M.dead from rfl,hd];decide),if_neg (by rw[hk];decide),if_neg (by rw[hk];decide),if_neg (by rw[hk];decide),if_pos hk,MT hn]
 rw[eS];have hb:=h.blk;have hmo:=h.mo;obtain⟨o,-,hoo,hofp,hlook,hol⟩:=h.osel m.chan;rw[hn] at hol;obtain⟨oA,oc,ol⟩:=o;dsimp only at hol;subst hol;obtain⟨ln,hln⟩:=qX ((x::l).length);have hl0:0<ln:=by rw[<-hln];simp
 obtain⟨g,off,hA,-,-⟩:=DA.rd hoo GA (by simp);dsimp only at hA;subst hA;have hval:OS.val ⟨some ⟨g,off,none⟩,oc,x::l⟩ = .slice (some ⟨g,off,none⟩) ln oc:=by rw[<-hln];rfl
 rw[hval] at hlook;have hnd:=kB h (oA:=some ⟨g,off,none⟩) hofp;have hput:=fun(w':World) (O:Only [p,M.ob,g] w w') hB hM hO=>h.putO (o:=⟨JG g off oc 10,oc-1,l⟩) (s:=m.chan) (v:=.int .i64 0) O (fun y hy=>by
  simp only[qC,List.not_mem_nil,or_false] at hy;exact hy.imp id (Or.imp id fun e=>hofp y (by rw[e];simp[OS.fp,bkO]))) hB hM hO (fun y hy=>.inl (hofp y (by
   unfold OS.fp at hy;rw[cW] at hy;simp only[qS] at hy;rw[hy];simp[OS.fp,bkO])))
 obtain⟨ob,eb,nb,opens,glob,ends,nums,dead⟩:=M;dsimp only at *;subst hd;refine Hs.en Tryz.func60 [p,ob,g] [p,ob,0] [.b true 131 (wS ⟨ob,eb,nb,opens,glob,ends,nums,false⟩),HB.mp (kI .u32) ob (AX OS.val opens),HB.oo cOp 37 10 (some ⟨g,off,none⟩) oc (x::l)] [.c (.p 0 0),.g (mdS m)] (Mem.startN (β:=[p,ob,0]) (hp:=[.b true 131 (wS ⟨ob,eb,nb,opens,glob,ends,nums,false⟩),HB.mp (kI .u32) ob (AX OS.val opens),HB.oo cOp 37 10 (some ⟨g,off,none⟩) oc (x::l)]) rfl hnd ⟨hb,⟨hmo,fun a ha=>by injection ha with ha;subst ha;exact hmo.lt⟩,⟨hoo,hoo.lt⟩,trivial⟩) ?_;refine Hs.e1 fun b0=>?_;refine Hs.cF ?_;refine Hs.e0 ?_;refine Hs.cF ?_;refine Hs.e0 ?_;refine Hs.any [0,3] (by kernel_rfl) ?_;refine Hs.e0 ?_;refine Hs.callQ (X:=Nat) (fun r=>some ⟨r,0,none⟩) (fun r=>.map (some r)) (fun r w'=>BQ (kI .i64) w' r (IF p)) (fun r=>BQ.st) (fun w' H=>GN p w') (by kernel_rfl) (by kernel_rfl) fun r=>?_;refine Hs.e0 ?_;refine Hs.getM (r:=r) (es:=IF p) IG m.kind true (.tuple #[mV 135 p,.bool true]) (by rw[hk];rfl) (by kernel_rfl) (fun w' H=>H.mapM 4 (by kernel_rfl)) ?_;refine Hs.e0 ?_;refine Hs.cT ?_;refine Hs.e0 ?_;refine Hs.inl Tryz.func135 [.c (.p 0 0),.g (mdS m)] (by kernel_rfl) (by kernel_rfl) ?_;refine Hs.e1 fun b1=>?_;refine Hs.inl Tryz.func191 [.c (.p 0 0),.c (.v (.int .u32 m.chan))] (by kernel_rfl) (by kernel_rfl) ?_;refine Hs.e1 fun b2=>?_;refine Hs.getM (r:=ob) (es:=AX OS.val opens) MA m.chan false (.slice (some ⟨g,off,none⟩) ln oc) hlook (by kernel_rfl) (fun w' H=>H.mapM 1 (by kernel_rfl)) ?_;refine Hs.e0 ?_;refine Hs.cP ((ln:Int)=0) (fun e=>by omega) (fun _=>?_);refine Hs.e0 ?_;refine Hs.any [0,1007] (by kernel_rfl) ?_;refine Hs.e0 ?_;refine Hs.cutN (g:=g) (off:=off) (len:=ln) (cap:=oc) JH hl0 (by kernel_rfl) ?_;refine Hs.e0 ?_;refine Hs.setM 1 MA (r:=ob) (es:=AX OS.val opens) m.chan (.slice (JG g off oc 10) (ln-1) (oc-1)) (by kernel_rfl) (by kernel_rfl) (by kernel_rfl) ?_;refine Hs.e0 ?_;refine Hs.idx (b:=g) (off:=off) (len:=ln) (c:=oc) (i:=0) JH hl0 (by kernel_rfl) ?_;refine Hs.e0 ?_;refine Hs.ldx (cf:=cOp) (size:=10) (E:=37) (b:=g) (off:=off) (i:=0) (l:=x::l) (x:=x) GA (.g ((cOp x).map SC.v)) (by kernel_rfl) (fun w' H=>(H.atQ 2 (wr:=true) (A:=some ⟨g,off,none⟩) (Q:=fun w=>DA cOp 37 10 w (some ⟨g,off,none⟩) oc (x::l)) (st:=DA.stq) (by kernel_rfl)).rd GA) rfl (by kernel_rfl) (by kernel_rfl) rfl (by kernel_rfl) ?_;refine Hs.e0 ?_;refine Hs.retI Tryz.func191 (by kernel_rfl) (by kernel_rfl) (by kernel_rfl) ?_;refine Hs.e1 fun b3=>?_;refine Hs.cF ?_;refine Hs.e0 ?_;refine Hs.retI Tryz.func135 (by kernel_rfl) (by kernel_rfl) (by kernel_rfl) ?_;refine Hs.e0 ?_;refine Hs.rt (v:=.int .i64 0) Tryz.func60 fun w' H=>?_;refine hput w' H.only (H.at 0 (wr:=true) (T:=131) (cs:=wS ⟨ob,eb,nb,opens,glob,ends,nums,false⟩) (by kernel_rfl)) ?_ ?_
 ·have:=H.mapM 1 (r:=ob) (ke:=kI .u32) (es:=setE m.chan (.slice (JG g off oc 10) (ln-1) (oc-1)) (AX OS.val opens)) (by kernel_rfl);rw[show OS.val ⟨JG g off oc 10,oc-1,l⟩ = .slice (JG g off oc 10) (ln-1) (oc-1) by rw[<-hln];rfl];exact this
 ·exact DA.cutS GA (H.atQ 2 (wr:=true) (A:=some ⟨g,off,none⟩) (Q:=fun w=>DA cOp 37 10 w (some ⟨g,off,none⟩) oc (x::l)) (st:=DA.stq) (by kernel_rfl))
theorem VP {M:WM} {m:MD} {ok:Bool} (hd:M.dead=false) (hk:m.kind=91):AJ M.abs m ok=match LS M.abs m.chan with
  |none=>(M.abs,8)
  |some (o,l)=>if openE M.abs m.chan=true then(M.abs,9)
   else({ M.abs with opens:=CG m.chan l M.abs.opens,ends:=CG m.chan (newE m.chan o) M.abs.ends,nums:=CG m.sender m.chan M.abs.nums },0):=by
 unfold AJ;rw[if_neg (show¬M.abs.dead=true by rw[show M.abs.dead=M.dead from rfl,hd];decide),if_neg (by rw[hk];decide),if_neg (by rw[hk];decide),if_pos hk];rfl
theorem WAt.putC {w w':World} {p b':Nat} {M:WM} {L:List Nat} {s n:Int} {o:OS} {e:EN} (h:WAt w p M) (O:Only L w w') (hL: ∀y∈L,y∈[p,M.ob,M.eb,M.nb]\/(∃o',AH s M.opens=some o'/\y∈o'.fp)\/∃x,AH s M.ends=some x/\y=x.1) (hB:Blk w' p 131 M.cells)
  (hM:BQ (kI .u32) w' M.ob (setE s o.val (AX OS.val M.opens))) (hE:BQ (kI .u32) w' M.eb (setE s (AD b') (AX (fun x=>AD x.1) M.ends))) (hN:BQ (kI .u32) w' M.nb (setE n (.int .u32 s) (AX PK M.nums))) (hO:o.at w') (hnew: ∀y∈o.fp,∃o',AH s M.opens=some o'/\y∈o'.fp) (hb:Blk w' b' 185 e.cells) (hbn:w.heap.size<=b') (v:Value) :
  DF M p { M.abs with opens:=CG s o.l M.abs.opens,ends:=CG s e M.abs.ends,nums:=CG n s M.abs.nums } v w (.returned v) w':=by
 have hlt:=h.lt;refine WAt.put (M':={ M with opens:=CG s o M.opens,ends:=CG s (b',e) M.ends,nums:=CG n s M.nums }) h O s s rfl rfl rfl hB (by dsimp only;rw[<-TU];exact hM) (by dsimp only;rw[<-TU];exact hE) (by dsimp only;rw[<-TU];exact hN) h.kn.set (.inr ⟨_,rfl,hO,fun y hy=>.inl (hnew y hy)⟩) (.inr (.inr ⟨(b',e),rfl,hb,hbn,fun y hy=>?_⟩)) hL _ _ ?_
 ·have hy2:y∈fpA OS.fp M.opens:=by
   rcases MV hy with h1|h1
   ·obtain⟨o',h2,h3⟩:=hnew y h1;exact BH h2 h3
   ·exact h1
  have:=hlt y (by simp only[WM.fp,List.mem_append];exact .inr (.inl hy2));show y≠b';omega
 ·unfold WM.abs;dsimp only;rw[<-MO,<-MO]
theorem WY (M:WM) (p:Nat) (m:MD) (w:World) (h:WAt w p M) (hd:M.dead=false) (hk:m.kind=91) (hn:((AH m.chan M.opens).map OS.l).getD []=[]) (ok:Bool):Calls Tryz.prog 60 #[AD p,m.val] w (DF M p (AJ M.abs m ok).1 (.int .i64 (AJ M.abs m ok).2) w):=by
 have eS:AJ M.abs m ok=(M.abs,8):=by rw[VP hd hk,aJ hn]
 rw[eS];have hb:=h.blk;have hmo:=h.mo;obtain⟨o,-,hoo,-,hlook,hol⟩:=h.osel m.chan;rw[hn] at hol;obtain⟨oA,oc,ol⟩:=o;dsimp only at hol;subst hol;obtain⟨ob,eb,nb,opens,glob,ends,nums,dead⟩:=M;dsimp only at *;subst hd;refine Hs.en Tryz.func60 [] [p] [.b false 131 (wS ⟨ob,eb,nb,opens,glob,ends,nums,false⟩)] [.c (.p 0 0),.g (mdS m)] (Mem.rdOne w p hb) ?_;refine Hs.e1 fun b0=>?_;refine Hs.cF ?_;refine Hs.e0 ?_;refine Hs.cF ?_;refine Hs.e0 ?_;refine Hs.any [0,1] (by kernel_rfl) ?_;refine Hs.e0 ?_;refine Hs.callQ (X:=Nat) (fun r=>some ⟨r,0,none⟩) (fun r=>.map (some r)) (fun r w'=>BQ (kI .i64) w' r (IF p)) (fun r=>BQ.st) (fun w' H=>GN p w') (by kernel_rfl) (by kernel_rfl) fun r=>?_;refine Hs.e0 ?_;refine Hs.getM (r:=r) (es:=IF p) IG m.kind true (.tuple #[mV 134 p,.bool true]) (by rw[hk];rfl) (by kernel_rfl) (fun w' H=>H.mapM 2 (by kernel_rfl)) ?_;refine Hs.e0 ?_;refine Hs.cT ?_;refine Hs.e0 ?_;refine Hs.inl Tryz.func134 [.c (.p 0 0),.g (mdS m)] (by kernel_rfl) (by kernel_rfl) ?_;refine Hs.e1 fun b1=>?_;refine Hs.any [0,1,3] (by kernel_rfl) ?_;refine Hs.e0 ?_;refine Hs.getM (r:=ob) (es:=AX OS.val opens) MA m.chan false (.slice oA 0 oc) hlook (by kernel_rfl) (fun w' H=>hmo.only H.only (by simp)) ?_;refine Hs.e0 ?_;refine Hs.cT ?_;refine Hs.e0 ?_;refine Hs.retI Tryz.func134 (by kernel_rfl) (by kernel_rfl) (by kernel_rfl) ?_;refine Hs.e0 ?_;exact Hs.rt (v:=.int .i64 8) Tryz.func60 fun w' H=>h.keep H.only _
theorem WZ (M:WM) (p:Nat) (m:MD) (w:World) (h:WAt w p M) (hd:M.dead=false) (hk:m.kind=91) (hn:((AH m.chan M.opens).map OS.l).getD []≠[]) {b:Nat} {x:EN} (he:AH m.chan M.ends=some (b,x)) (hc:x.closed=false) (ok:Bool):Calls Tryz.prog 60 #[AD p,m.val] w (DF M p (AJ M.abs m ok).1 (.int .i64 (AJ M.abs m ok).2) w):=by
 have eS:AJ M.abs m ok=(M.abs,9):=by
  rw[VP hd hk];cases e:((AH m.chan M.opens).map OS.l).getD [] with
  |nil=>exact absurd e hn
  |cons y l=>
   rw[MT e];dsimp only;rw[if_pos];unfold openE;rw[show AH m.chan M.abs.ends=some x by unfold WM.abs;dsimp only;rw[EV,he];rfl];dsimp only;rw[hc];rfl
 rw[eS];have hb:=h.blk;have hmo:=h.mo;have hme:=h.me;have A:=HH h.nd;have hbm:b∈fpA eFp M.ends:=BH he (by simp[eFp]);have hb4:=A.fe b hbm;simp only[qC,List.not_mem_nil,or_false,not_or] at hb4;have hE:Blk w b 185 x.cells:=h.es _ (CD he);have hlookE:BU m.chan (AX (fun x=>AD x.1) M.ends)=some (AD b):=by rw[GD,he];rfl
 obtain⟨o,-,hoo,-,hlook,hol⟩:=h.osel m.chan;obtain⟨oA,oc,ol⟩:=o;rw[hol] at hn;obtain⟨ln,hln⟩:=qX ol.length;have hl0:0<ln:=by
  rw[<-hln];cases ol with
  |nil=>exact absurd rfl hn
  |cons y l=>simp
 rw[show OS.val ⟨oA,oc,ol⟩ = .slice oA ln oc by rw[<-hln];rfl] at hlook;obtain⟨ob,eb,nb,opens,glob,ends,nums,dead⟩:=M;obtain⟨xc,xg,xs,xp,xe,xd,xt,xw⟩:=x;dsimp only at *;subst hd;subst hc;refine Hs.en Tryz.func60 [] [p,b] [.b false 131 (wS ⟨ob,eb,nb,opens,glob,ends,nums,false⟩),.b false 185 (EN.sc ⟨xc,xg,xs,xp,xe,false,xt,xw⟩)] [.c (.p 0 0),.g (mdS m)] (Mem.startW [] (β:=[p,b]) (hp:=[.b false 131 (wS ⟨ob,eb,nb,opens,glob,ends,nums,false⟩),.b false 185 (EN.sc ⟨xc,xg,xs,xp,xe,false,xt,xw⟩)]) rfl (by
  show[p,b].Nodup;simp only[List.nodup_cons,qC,List.not_mem_nil,or_false,not_or,List.nodup_nil,not_false_eq_true,and_true];exact fun e=>hb4.1 e.symm) ⟨hb,hE,trivial⟩ (by simp[wrN,HB.wr])) ?_
 refine Hs.e1 fun b0=>?_;refine Hs.cF ?_;refine Hs.e0 ?_;refine Hs.cF ?_;refine Hs.e0 ?_;refine Hs.any [0,2] (by kernel_rfl) ?_;refine Hs.e0 ?_;refine Hs.callQ (X:=Nat) (fun r=>some ⟨r,0,none⟩) (fun r=>.map (some r)) (fun r w'=>BQ (kI .i64) w' r (IF p)) (fun r=>BQ.st) (fun w' H=>GN p w') (by kernel_rfl) (by kernel_rfl) fun r=>?_;refine Hs.e0 ?_;refine Hs.getM (r:=r) (es:=IF p) IG m.kind true (.tuple #[mV 134 p,.bool true]) (by rw[hk];rfl) (by kernel_rfl) (fun w' H=>H.mapM 3 (by kernel_rfl)) ?_;refine Hs.e0 ?_;refine Hs.cT ?_;refine Hs.e0 ?_;refine Hs.inl Tryz.func134 [.c (.p 0 0),.g (mdS m)] (by kernel_rfl) (by kernel_rfl) ?_;refine Hs.e1 fun b1=>?_;refine Hs.any [0,2,4] (by kernel_rfl) ?_;refine Hs.e0 ?_;refine Hs.getM (r:=ob) (es:=AX OS.val opens) MA m.chan false (.slice oA ln oc) hlook (by kernel_rfl) (fun w' H=>hmo.only H.only (by simp)) ?_;refine Hs.e0 ?_;refine Hs.cP ((ln:Int)=0) (fun e=>by omega) (fun _=>?_);refine Hs.e0 ?_;refine Hs.any [0,2,4] (by kernel_rfl) ?_;refine Hs.e0 ?_;refine Hs.getM (r:=eb) (es:=AX (fun x=>AD x.1) ends) RT m.chan true (.tuple #[AD b,.bool true]) (by rw[hlookE];rfl) (by kernel_rfl) (fun w' H=>hme.only H.only (by simp)) ?_;refine Hs.e0 ?_;refine Hs.slot 5 (.c (.p 1 0)) (by kernel_rfl) (by kernel_rfl) ?_;refine Hs.eg [1] ?_;refine Hs.cT ?_;refine Hs.e0 ?_;refine Hs.retI Tryz.func134 (by kernel_rfl) (by kernel_rfl) (by kernel_rfl) ?_;refine Hs.e0 ?_;exact Hs.rt (v:=.int .i64 9) Tryz.func60 fun w' H=>h.keep H.only _
theorem XA (M:WM) (p:Nat) (m:MD) (w:World) (h:WAt w p M) (hd:M.dead=false) (hk:m.kind=91) {x:Int×Int} {l:List (Int×Int)} (hn:((AH m.chan M.opens).map OS.l).getD []=x::l) (he:AH m.chan M.ends=none) (hx:U32 x.1) (ok:Bool):Calls Tryz.prog 60 #[AD p,m.val] w (DF M p (AJ M.abs m ok).1 (.int .i64 (AJ M.abs m ok).2) w):=by
 have eS:AJ M.abs m ok=({ M.abs with opens:=CG m.chan l M.abs.opens,ends:=CG m.chan (newE m.chan x) M.abs.ends,nums:=CG m.sender m.chan M.abs.nums },0):=by
  rw[VP hd hk,MT hn];dsimp only;rw[if_neg];unfold openE;rw[show AH m.chan M.abs.ends=none by unfold WM.abs;dsimp only;rw[EV,he];rfl];simp
 rw[eS];clear eS;have hw:IntKind.u64.wrap x.1=x.1:=by rw[IntKind.wrap_u64];unfold U32 at hx;omega
 have hb:=h.blk;have hmo:=h.mo;have hme:=h.me;have hmn:=h.mn;have A:=HH h.nd;have h4:=A.four;obtain⟨o,-,hoo,hofp,hlook,hol⟩:=h.osel m.chan;rw[hn] at hol;obtain⟨oA,oc,ol⟩:=o;dsimp only at hol;subst hol;obtain⟨ln,hln⟩:=qX ((x::l).length);have hl0:0<ln:=by rw[<-hln];simp
 obtain⟨g,off,hA,-,-⟩:=DA.rd hoo GA (by simp);dsimp only at hA;subst hA;have hval:OS.val ⟨some ⟨g,off,none⟩,oc,x::l⟩ = .slice (some ⟨g,off,none⟩) ln oc:=by rw[<-hln];rfl
 rw[hval] at hlook;obtain⟨og,hg1,hg2⟩:=hofp g (by simp[OS.fp,bkO]);have hgm:g∈fpA OS.fp M.opens:=BH hg1 hg2;have hg4:=A.fo g hgm;have hlookE:(if true then Value.tuple #[(BU m.chan (AX (fun x=>AD x.1) M.ends)).getD (.pointer none),.bool (BU m.chan (AX (fun x=>AD x.1) M.ends)).isSome] else(BU m.chan (AX (fun x=>AD x.1) M.ends)).getD (.pointer none)) = .tuple #[.pointer none,.bool false]:=by rw[GD,he];rfl
 have hnd:[p,M.ob,M.eb,M.nb,g].Nodup:=by
  simp only[List.nodup_cons,qC,List.not_mem_nil,or_false,not_or,List.nodup_nil,not_false_eq_true,and_true] at h4 hg4⊢;exact⟨⟨h4.1.1,h4.1.2.1,h4.1.2.2,fun e=>hg4.1 e.symm⟩,⟨h4.2.1.1,h4.2.1.2,fun e=>hg4.2.1 e.symm⟩,⟨h4.2.2,fun e=>hg4.2.2.1 e.symm⟩,fun e=>hg4.2.2.2 e.symm⟩
 have hput:=fun(w':World) (b':Nat) (O:Only [p,M.ob,M.eb,M.nb,g] w w') hB hM hE hN hO hb hbn=>h.putC (b':=b') (o:=⟨JG g off oc 10,oc-1,l⟩) (s:=m.chan) (n:=m.sender) (e:=newE m.chan x) (v:=.int .i64 0) O (fun y hy=>by
  simp only[qC,List.not_mem_nil,or_false] at hy;rcases hy with rfl|rfl|rfl|rfl|rfl;·exact .inl (by simp)
  ·exact .inl (by simp)
  ·exact .inl (by simp)
  ·exact .inl (by simp)
  ·exact .inr (.inl ⟨og,hg1,hg2⟩)) hB hM hE hN hO (fun y hy=>by
   unfold OS.fp at hy;rw[cW] at hy;simp only[qS] at hy;rw[hy];exact⟨og,hg1,hg2⟩) hb hbn
 have hrdO: ∀w',DA cOp 37 10 w' (some ⟨g,off,none⟩) oc (x::l)->RdX cOp w' (some ⟨g,off,none⟩) (x::l):=fun w' h=>h.rd GA;obtain⟨ob,eb,nb,opens,glob,ends,nums,dead⟩:=M;dsimp only at *;subst hd;obtain⟨xw1,xp1⟩:=x;dsimp only at hw;refine Hs.en Tryz.func60 [p,ob,eb,nb,g] [p,ob,eb,nb,0] [.b true 131 (wS ⟨ob,eb,nb,opens,glob,ends,nums,false⟩),HB.mp (kI .u32) ob (AX OS.val opens),HB.mp (kI .u32) eb (AX (fun x:Nat×EN=>AD x.1) ends),HB.mp (kI .u32) nb (AX PK nums),HB.oo cOp 37 10 (some ⟨g,off,none⟩) oc ((xw1,xp1)::l)] [.c (.p 0 0),.g (mdS m)] (Mem.startN (β:=[p,ob,eb,nb,0]) (hp:=[.b true 131 (wS ⟨ob,eb,nb,opens,glob,ends,nums,false⟩),HB.mp (kI .u32) ob (AX OS.val opens),HB.mp (kI .u32) eb (AX (fun x:Nat×EN=>AD x.1) ends),HB.mp (kI .u32) nb (AX PK nums),HB.oo cOp 37 10 (some ⟨g,off,none⟩) oc ((xw1,xp1)::l)]) rfl hnd ⟨hb,⟨hmo,fun a ha=>by injection ha with ha;subst ha;exact hmo.lt⟩,⟨hme,fun a ha=>by injection ha with ha;subst ha;exact hme.lt⟩,⟨hmn,fun a ha=>by injection ha with ha;subst ha;exact hmn.lt⟩,⟨hoo,hoo.lt⟩,trivial⟩) ?_;refine Hs.e1 fun b0=>?_;refine Hs.cF ?_;refine Hs.e0 ?_;refine Hs.cF ?_;refine Hs.e0 ?_;refine Hs.any [0,5] (by kernel_rfl) ?_;refine Hs.e0 ?_;refine Hs.callQ (X:=Nat) (fun r=>some ⟨r,0,none⟩) (fun r=>.map (some r)) (fun r w'=>BQ (kI .i64) w' r (IF p)) (fun r=>BQ.st) (fun w' H=>GN p w') (by kernel_rfl) (by kernel_rfl) fun r=>?_;refine Hs.e0 ?_;refine Hs.getM (r:=r) (es:=IF p) IG m.kind true (.tuple #[mV 134 p,.bool true]) (by rw[hk];rfl) (by kernel_rfl) (fun w' H=>H.mapM 6 (by kernel_rfl)) ?_;refine Hs.e0 ?_;refine Hs.cT ?_;refine Hs.e0 ?_;refine Hs.inl Tryz.func134 [.c (.p 0 0),.g (mdS m)] (by kernel_rfl) (by kernel_rfl) ?_;refine Hs.e1 fun b1=>?_;refine Hs.any [0,5,7] (by kernel_rfl) ?_;refine Hs.e0 ?_;refine Hs.getM (r:=ob) (es:=AX OS.val opens) MA m.chan false (.slice (some ⟨g,off,none⟩) ln oc) hlook (by kernel_rfl) (fun w' H=>H.mapM 1 (by kernel_rfl)) ?_;refine Hs.e0 ?_;refine Hs.cP ((ln:Int)=0) (fun e=>by omega) (fun _=>?_);refine Hs.e0 ?_;refine Hs.any [0,5,7] (by kernel_rfl) ?_;refine Hs.e0 ?_;refine Hs.getM (r:=eb) (es:=AX (fun x=>AD x.1) ends) RT m.chan true (.tuple #[.pointer none,.bool false]) hlookE (by kernel_rfl) (fun w' H=>H.mapM 2 (by kernel_rfl)) ?_;refine Hs.e0 ?_;refine Hs.eg [1] ?_;refine Hs.cF ?_;refine Hs.e0 ?_;refine Hs.inl Tryz.func191 [.c (.p 0 0),.c (.v (.int .u32 m.chan))] (by kernel_rfl) (by kernel_rfl) ?_;refine Hs.e1 fun b2=>?_;refine Hs.getM (r:=ob) (es:=AX OS.val opens) MA m.chan false (.slice (some ⟨g,off,none⟩) ln oc) hlook (by kernel_rfl) (fun w' H=>H.mapM 1 (by kernel_rfl)) ?_;refine Hs.e0 ?_;refine Hs.cP ((ln:Int)=0) (fun e=>by omega) (fun _=>?_);refine Hs.e0 ?_;refine Hs.any [0,1007] (by kernel_rfl) ?_;refine Hs.e0 ?_;refine Hs.cutN (g:=g) (off:=off) (len:=ln) (cap:=oc) JH hl0 (by kernel_rfl) ?_;refine Hs.e0 ?_;refine Hs.setM 1 MA (r:=ob) (es:=AX OS.val opens) m.chan (.slice (JG g off oc 10) (ln-1) (oc-1)) (by kernel_rfl) (by kernel_rfl) (by kernel_rfl) ?_;refine Hs.e0 ?_;refine Hs.idx (b:=g) (off:=off) (len:=ln) (c:=oc) (i:=0) JH hl0 (by kernel_rfl) ?_;refine Hs.e0 ?_;refine Hs.ldx (cf:=cOp) (size:=10) (E:=37) (b:=g) (off:=off) (i:=0) (l:=(xw1,xp1)::l) (x:=(xw1,xp1)) GA (.g ((cOp (xw1,xp1)).map SC.v)) (by kernel_rfl) (fun w' H=>hrdO w' (H.atQ 4 (wr:=true) (A:=some ⟨g,off,none⟩) (Q:=fun w=>DA cOp 37 10 w (some ⟨g,off,none⟩) oc ((xw1,xp1)::l)) (st:=DA.stq) (by kernel_rfl))) rfl (by kernel_rfl) (by kernel_rfl) rfl (by kernel_rfl) ?_;refine Hs.e0 ?_;refine Hs.retI Tryz.func191 (by kernel_rfl) (by kernel_rfl) (by kernel_rfl) ?_;refine Hs.e1 fun b3=>?_;refine Hs.any [0,7,9,1015] (by kernel_rfl) ?_;refine Hs.e1 fun b4=>?_;refine Hs.setM 2 RT (r:=eb) (es:=AX (fun x:Nat×EN=>AD x.1) ends) m.chan (AD b4) (by kernel_rfl) (by kernel_rfl) (by kernel_rfl) ?_;refine Hs.e0 ?_;refine Hs.any [0,7,1008] (by kernel_rfl) ?_;refine Hs.e0 ?_;refine Hs.setM 3 keyNu (r:=nb) (es:=AX PK nums) m.sender (.int .u32 m.chan) (by kernel_rfl) (by kernel_rfl) (by kernel_rfl) ?_;refine Hs.e0 ?_;refine Hs.retI Tryz.func134 (by kernel_rfl) (by kernel_rfl) (by kernel_rfl) ?_;refine Hs.e0 ?_;refine Hs.rt (v:=.int .i64 0) Tryz.func60 fun w' H=>?_;refine hput w' b4 H.only (H.at 0 (wr:=true) (T:=131) (cs:=wS ⟨ob,eb,nb,opens,glob,ends,nums,false⟩) (by kernel_rfl)) ?_ (H.mapM 2 (r:=eb) (ke:=kI .u32) (es:=setE m.chan (AD b4) (AX (fun x:Nat×EN=>AD x.1) ends)) (by kernel_rfl)) (H.mapM 3 (r:=nb) (ke:=kI .u32) (es:=setE m.sender (.int .u32 m.chan) (AX PK nums)) (by kernel_rfl)) ?_ ?_ ?_
 ·have:=H.mapM 1 (r:=ob) (ke:=kI .u32) (es:=setE m.chan (.slice (JG g off oc 10) (ln-1) (oc-1)) (AX OS.val opens)) (by kernel_rfl);rw[show OS.val ⟨JG g off oc 10,oc-1,l⟩ = .slice (JG g off oc 10) (ln-1) (oc-1) by rw[<-hln];rfl];exact this
 ·exact DA.cutS GA (H.atQ 4 (wr:=true) (A:=some ⟨g,off,none⟩) (Q:=fun w=>DA cOp 37 10 w (some ⟨g,off,none⟩) oc ((xw1,xp1)::l)) (st:=DA.stq) (by kernel_rfl))
 ·have:=H.at 10 (wr:=true) (T:=185) (cs:=EN.sc ⟨m.chan,IntKind.u64.wrap xw1,0,xp1,false,false,false,0⟩) (by kernel_rfl);rw[hw] at this;exact this
 ·have hfr:=(H.sub [0,1,2,3,4,10] (by decide) (hp':=[.b true 131 (wS ⟨ob,eb,nb,opens,glob,ends,nums,false⟩),HB.mp (kI .u32) ob (setE m.chan (.slice (JG g off oc 10) (ln-1) (oc-1)) (AX OS.val opens)),HB.mp (kI .u32) eb (setE m.chan (AD b4) (AX (fun x:Nat×EN=>AD x.1) ends)),HB.mp (kI .u32) nb (setE m.sender (.int .u32 m.chan) (AX PK nums)),HB.oo cOp 37 10 (some ⟨g,off,none⟩) oc ((xw1,xp1)::l),.b true 185 (EN.sc ⟨m.chan,IntKind.u64.wrap xw1,0,xp1,false,false,false,0⟩)]) (by kernel_rfl)).bks rfl;have hnd2:[p,ob,eb,nb,g,b4].Nodup:=hfr.1;have h1:b4∈[p,ob,eb,nb,g]\/w.heap.size<=b4:=(hfr.2 b4 (show b4∈[p,ob,eb,nb,g,b4] by simp)).1;rcases h1 with h1|h1
  ·exfalso;rw[show[p,ob,eb,nb,g,b4]=[p,ob,eb,nb,g]++[b4] from rfl,qD] at hnd2;exact hnd2.2.2 b4 h1 b4 (by simp) rfl
  ·exact h1
theorem XB (M:WM) (p:Nat) (m:MD) (w:World) (h:WAt w p M) (hd:M.dead=false) (hk:m.kind=91) {x:Int×Int} {l:List (Int×Int)} (hn:((AH m.chan M.opens).map OS.l).getD []=x::l) {b:Nat} {z:EN} (he:AH m.chan M.ends=some (b,z)) (hc:z.closed=true) (hx:U32 x.1) (ok:Bool):Calls Tryz.prog 60 #[AD p,m.val] w (DF M p (AJ M.abs m ok).1 (.int .i64 (AJ M.abs m ok).2) w):=by
 have eS:AJ M.abs m ok=({ M.abs with opens:=CG m.chan l M.abs.opens,ends:=CG m.chan (newE m.chan x) M.abs.ends,nums:=CG m.sender m.chan M.abs.nums },0):=by
  rw[VP hd hk,MT hn];dsimp only;rw[if_neg];unfold openE;rw[show AH m.chan M.abs.ends=some z by unfold WM.abs;dsimp only;rw[EV,he];rfl];dsimp only;rw[hc];simp
 rw[eS];clear eS;have hw:IntKind.u64.wrap x.1=x.1:=by rw[IntKind.wrap_u64];unfold U32 at hx;omega
 have hb:=h.blk;have hmo:=h.mo;have hme:=h.me;have hmn:=h.mn;have A:=HH h.nd;have h4:=A.four;obtain⟨o,-,hoo,hofp,hlook,hol⟩:=h.osel m.chan;rw[hn] at hol;obtain⟨oA,oc,ol⟩:=o;dsimp only at hol;subst hol;obtain⟨ln,hln⟩:=qX ((x::l).length);have hl0:0<ln:=by rw[<-hln];simp
 obtain⟨g,off,hA,-,-⟩:=DA.rd hoo GA (by simp);dsimp only at hA;subst hA;have hval:OS.val ⟨some ⟨g,off,none⟩,oc,x::l⟩ = .slice (some ⟨g,off,none⟩) ln oc:=by rw[<-hln];rfl
 rw[hval] at hlook;obtain⟨og,hg1,hg2⟩:=hofp g (by simp[OS.fp,bkO]);have hgm:g∈fpA OS.fp M.opens:=BH hg1 hg2;have hg4:=A.fo g hgm;have hbm:b∈fpA eFp M.ends:=BH he (by simp[eFp]);have hb4:=A.fe b hbm;have hgb:g≠b:=fun e=>A.oe g hgm (by rw[e];exact hbm);have hE:Blk w b 185 z.cells:=h.es _ (CD he);have hlookE:(if true then Value.tuple #[(BU m.chan (AX (fun x=>AD x.1) M.ends)).getD (.pointer none),.bool (BU m.chan (AX (fun x=>AD x.1) M.ends)).isSome] else(BU m.chan (AX (fun x=>AD x.1) M.ends)).getD (.pointer none)) = .tuple #[AD b,.bool true]:=by rw[GD,he];rfl
 have hnd:[p,M.ob,M.eb,M.nb,g,b].Nodup:=by
  simp only[List.nodup_cons,qC,List.not_mem_nil,or_false,not_or,List.nodup_nil,not_false_eq_true,and_true] at h4 hg4 hb4⊢;exact⟨⟨h4.1.1,h4.1.2.1,h4.1.2.2,fun e=>hg4.1 e.symm,fun e=>hb4.1 e.symm⟩,⟨h4.2.1.1,h4.2.1.2,fun e=>hg4.2.1 e.symm,fun e=>hb4.2.1 e.symm⟩,⟨h4.2.2,fun e=>hg4.2.2.1 e.symm,fun e=>hb4.2.2.1 e.symm⟩,⟨fun e=>hg4.2.2.2 e.symm,fun e=>hb4.2.2.2 e.symm⟩,hgb⟩
 have hput:=fun(w':World) (b':Nat) (O:Only [p,M.ob,M.eb,M.nb,g,b] w w') hB hM hE hN hO hb hbn=>h.putC (b':=b') (o:=⟨JG g off oc 10,oc-1,l⟩) (s:=m.chan) (n:=m.sender) (e:=newE m.chan x) (v:=.int .i64 0) O (fun y hy=>by
  simp only[qC,List.not_mem_nil,or_false] at hy;rcases hy with rfl|rfl|rfl|rfl|rfl|rfl;·exact .inl (by simp)
  ·exact .inl (by simp)
  ·exact .inl (by simp)
  ·exact .inl (by simp)
  ·exact .inr (.inl ⟨og,hg1,hg2⟩)
  ·exact .inr (.inr ⟨_,he,rfl⟩)) hB hM hE hN hO (fun y hy=>by
   unfold OS.fp at hy;rw[cW] at hy;simp only[qS] at hy;rw[hy];exact⟨og,hg1,hg2⟩) hb hbn
 have hrdO: ∀w',DA cOp 37 10 w' (some ⟨g,off,none⟩) oc (x::l)->RdX cOp w' (some ⟨g,off,none⟩) (x::l):=fun w' h=>h.rd GA;obtain⟨ob,eb,nb,opens,glob,ends,nums,dead⟩:=M;obtain⟨xc,xg,xs,xp,xe,xd,xt,xw⟩:=z;dsimp only at *;subst hd;subst hc;obtain⟨xw1,xp1⟩:=x;dsimp only at hw;refine Hs.en Tryz.func60 [p,ob,eb,nb,g,b] [p,ob,eb,nb,0,b] [.b true 131 (wS ⟨ob,eb,nb,opens,glob,ends,nums,false⟩),HB.mp (kI .u32) ob (AX OS.val opens),HB.mp (kI .u32) eb (AX (fun x:Nat×EN=>AD x.1) ends),HB.mp (kI .u32) nb (AX PK nums),HB.oo cOp 37 10 (some ⟨g,off,none⟩) oc ((xw1,xp1)::l),.b true 185 (EN.sc ⟨xc,xg,xs,xp,xe,true,xt,xw⟩)] [.c (.p 0 0),.g (mdS m)] (Mem.startN (β:=[p,ob,eb,nb,0,b]) (hp:=[.b true 131 (wS ⟨ob,eb,nb,opens,glob,ends,nums,false⟩),HB.mp (kI .u32) ob (AX OS.val opens),HB.mp (kI .u32) eb (AX (fun x:Nat×EN=>AD x.1) ends),HB.mp (kI .u32) nb (AX PK nums),HB.oo cOp 37 10 (some ⟨g,off,none⟩) oc ((xw1,xp1)::l),.b true 185 (EN.sc ⟨xc,xg,xs,xp,xe,true,xt,xw⟩)]) rfl hnd ⟨hb,⟨hmo,fun a ha=>by injection ha with ha;subst ha;exact hmo.lt⟩,⟨hme,fun a ha=>by injection ha with ha;subst ha;exact hme.lt⟩,⟨hmn,fun a ha=>by injection ha with ha;subst ha;exact hmn.lt⟩,⟨hoo,hoo.lt⟩,hE,trivial⟩) ?_;refine Hs.e1 fun b0=>?_;refine Hs.cF ?_;refine Hs.e0 ?_;refine Hs.cF ?_;refine Hs.e0 ?_;refine Hs.any [0,6] (by kernel_rfl) ?_;refine Hs.e0 ?_;refine Hs.callQ (X:=Nat) (fun r=>some ⟨r,0,none⟩) (fun r=>.map (some r)) (fun r w'=>BQ (kI .i64) w' r (IF p)) (fun r=>BQ.st) (fun w' H=>GN p w') (by kernel_rfl) (by kernel_rfl) fun r=>?_;refine Hs.e0 ?_;refine Hs.getM (r:=r) (es:=IF p) IG m.kind true (.tuple #[mV 134 p,.bool true]) (by rw[hk];rfl) (by kernel_rfl) (fun w' H=>H.mapM 7 (by kernel_rfl)) ?_;refine Hs.e0 ?_;refine Hs.cT ?_;refine Hs.e0 ?_;refine Hs.inl Tryz.func134 [.c (.p 0 0),.g (mdS m)] (by kernel_rfl) (by kernel_rfl) ?_;refine Hs.e1 fun b1=>?_;refine Hs.any [0,6,8] (by kernel_rfl) ?_;refine Hs.e0 ?_;refine Hs.getM (r:=ob) (es:=AX OS.val opens) MA m.chan false (.slice (some ⟨g,off,none⟩) ln oc) hlook (by kernel_rfl) (fun w' H=>H.mapM 1 (by kernel_rfl)) ?_;refine Hs.e0 ?_;refine Hs.cP ((ln:Int)=0) (fun e=>by omega) (fun _=>?_);refine Hs.e0 ?_;refine Hs.any [0,6,8] (by kernel_rfl) ?_;refine Hs.e0 ?_;refine Hs.getM (r:=eb) (es:=AX (fun x=>AD x.1) ends) RT m.chan true (.tuple #[AD b,.bool true]) hlookE (by kernel_rfl) (fun w' H=>H.mapM 2 (by kernel_rfl)) ?_;refine Hs.e0 ?_;refine Hs.slot 5 (.c (.p 5 0)) (by kernel_rfl) (by kernel_rfl) ?_;refine Hs.eg [1] ?_;refine Hs.cF ?_;refine Hs.e0 ?_;refine Hs.inl Tryz.func191 [.c (.p 0 0),.c (.v (.int .u32 m.chan))] (by kernel_rfl) (by kernel_rfl) ?_;refine Hs.e1 fun b2=>?_;refine Hs.getM (r:=ob) (es:=AX OS.val opens) MA m.chan false (.slice (some ⟨g,off,none⟩) ln oc) hlook (by kernel_rfl) (fun w' H=>H.mapM 1 (by kernel_rfl)) ?_;refine Hs.e0 ?_;refine Hs.cP ((ln:Int)=0) (fun e=>by omega) (fun _=>?_);refine Hs.e0 ?_;refine Hs.any [0,1007] (by kernel_rfl) ?_;refine Hs.e0 ?_;refine Hs.cutN (g:=g) (off:=off) (len:=ln) (cap:=oc) JH hl0 (by kernel_rfl) ?_;refine Hs.e0 ?_;refine Hs.setM 1 MA (r:=ob) (es:=AX OS.val opens) m.chan (.slice (JG g off oc 10) (ln-1) (oc-1)) (by kernel_rfl) (by kernel_rfl) (by kernel_rfl) ?_;refine Hs.e0 ?_;refine Hs.idx (b:=g) (off:=off) (len:=ln) (c:=oc) (i:=0) JH hl0 (by kernel_rfl) ?_;refine Hs.e0 ?_;refine Hs.ldx (cf:=cOp) (size:=10) (E:=37) (b:=g) (off:=off) (i:=0) (l:=(xw1,xp1)::l) (x:=(xw1,xp1)) GA (.g ((cOp (xw1,xp1)).map SC.v)) (by kernel_rfl) (fun w' H=>hrdO w' (H.atQ 4 (wr:=true) (A:=some ⟨g,off,none⟩) (Q:=fun w=>DA cOp 37 10 w (some ⟨g,off,none⟩) oc ((xw1,xp1)::l)) (st:=DA.stq) (by kernel_rfl))) rfl (by kernel_rfl) (by kernel_rfl) rfl (by kernel_rfl) ?_;refine Hs.e0 ?_;refine Hs.retI Tryz.func191 (by kernel_rfl) (by kernel_rfl) (by kernel_rfl) ?_;refine Hs.e1 fun b3=>?_;refine Hs.any [0,8,10,1015] (by kernel_rfl) ?_;refine Hs.e1 fun b4=>?_;refine Hs.setM 2 RT (r:=eb) (es:=AX (fun x:Nat×EN=>AD x.1) ends) m.chan (AD b4) (by kernel_rfl) (by kernel_rfl) (by kernel_rfl) ?_;refine Hs.e0 ?_;refine Hs.any [0,8,1008] (by kernel_rfl) ?_;refine Hs.e0 ?_;refine Hs.setM 3 keyNu (r:=nb) (es:=AX PK nums) m.sender (.int .u32 m.chan) (by kernel_rfl) (by kernel_rfl) (by kernel_rfl) ?_;refine Hs.e0 ?_;refine Hs.retI Tryz.func134 (by kernel_rfl) (by kernel_rfl) (by kernel_rfl) ?_;refine Hs.e0 ?_;refine Hs.rt (v:=.int .i64 0) Tryz.func60 fun w' H=>?_;refine hput w' b4 H.only (H.at 0 (wr:=true) (T:=131) (cs:=wS ⟨ob,eb,nb,opens,glob,ends,nums,false⟩) (by kernel_rfl)) ?_ (H.mapM 2 (r:=eb) (ke:=kI .u32) (es:=setE m.chan (AD b4) (AX (fun x:Nat×EN=>AD x.1) ends)) (by kernel_rfl)) (H.mapM 3 (r:=nb) (ke:=kI .u32) (es:=setE m.sender (.int .u32 m.chan) (AX PK nums)) (by kernel_rfl)) ?_ ?_ ?_
 ·have:=H.mapM 1 (r:=ob) (ke:=kI .u32) (es:=setE m.chan (.slice (JG g off oc 10) (ln-1) (oc-1)) (AX OS.val opens)) (by kernel_rfl);rw[show OS.val ⟨JG g off oc 10,oc-1,l⟩ = .slice (JG g off oc 10) (ln-1) (oc-1) by rw[<-hln];rfl];exact this
 ·exact DA.cutS GA (H.atQ 4 (wr:=true) (A:=some ⟨g,off,none⟩) (Q:=fun w=>DA cOp 37 10 w (some ⟨g,off,none⟩) oc ((xw1,xp1)::l)) (st:=DA.stq) (by kernel_rfl))
 ·have:=H.at 11 (wr:=true) (T:=185) (cs:=EN.sc ⟨m.chan,IntKind.u64.wrap xw1,0,xp1,false,false,false,0⟩) (by kernel_rfl);rw[hw] at this;exact this
 ·have hfr:=(H.sub [0,1,2,3,4,5,11] (by decide) (hp':=[.b true 131 (wS ⟨ob,eb,nb,opens,glob,ends,nums,false⟩),HB.mp (kI .u32) ob (setE m.chan (.slice (JG g off oc 10) (ln-1) (oc-1)) (AX OS.val opens)),HB.mp (kI .u32) eb (setE m.chan (AD b4) (AX (fun x:Nat×EN=>AD x.1) ends)),HB.mp (kI .u32) nb (setE m.sender (.int .u32 m.chan) (AX PK nums)),HB.oo cOp 37 10 (some ⟨g,off,none⟩) oc ((xw1,xp1)::l),.b true 185 (EN.sc ⟨xc,xg,xs,xp,xe,true,xt,xw⟩),.b true 185 (EN.sc ⟨m.chan,IntKind.u64.wrap xw1,0,xp1,false,false,false,0⟩)]) (by kernel_rfl)).bks rfl;have hnd2:[p,ob,eb,nb,g,b,b4].Nodup:=hfr.1;have h1:b4∈[p,ob,eb,nb,g,b]\/w.heap.size<=b4:=(hfr.2 b4 (show b4∈[p,ob,eb,nb,g,b,b4] by simp)).1;rcases h1 with h1|h1
  ·exfalso;rw[show[p,ob,eb,nb,g,b,b4]=[p,ob,eb,nb,g,b]++[b4] from rfl,qD] at hnd2;exact hnd2.2.2 b4 h1 b4 (by simp) rfl
  ·exact h1
theorem ZG (M:WM) (p:Nat) (m:MD) (w:World) (h:WAt w p M) (hd:M.dead=false) (hk:m.kind=91) (hw: ∀x∈M.opens,∀y∈x.2.l,U32 y.1) (ok:Bool):Calls Tryz.prog 60 #[AD p,m.val] w (DF M p (AJ M.abs m ok).1 (.int .i64 (AJ M.abs m ok).2) w):=by
 cases hn:((AH m.chan M.opens).map OS.l).getD [] with
 |nil=>exact WY M p m w h hd hk hn ok
 |cons x l=>
  have hx:U32 x.1:=by
   cases e:AH m.chan M.opens with
   |none=>rw[e] at hn;cases hn
   |some o=>
    rw[e] at hn;have e2:o.l=x::l:=hn;exact hw _ (CD e) x (by rw[e2];simp)
  cases he:AH m.chan M.ends with
  |none=>exact XA M p m w h hd hk hn he hx ok
  |some z=>
   obtain⟨b,z⟩:=z;cases hc:z.closed with
   |true=>exact XB M p m w h hd hk hn he hc hx ok
   |false=>exact WZ M p m w h hd hk (by rw[hn];simp) he hc ok
theorem hears_any (M:WM) (p:Nat) (m:MD) (i0:Int) (w:World) (h:WAt w p M) (hw: ∀x∈M.opens,∀y∈x.2.l,U32 y.1) (hp: ∀x∈M.ends,U32 x.2.2.packet) (hm:DE w (M.fp p) (PO i0 m)):Calls Tryz.prog 60 #[AD p,m.val] w (DF M p (AJ M.abs m (okEx m)).1 (.int .i64 (AJ M.abs m (okEx m)).2) w):=by
 cases hd:M.dead with
 |true=>exact jU M p m w h hd _
 |false=>
  by_cases h1:m.kind=1
  ·exact jV M p m w h hd h1 _
  by_cases h2:m.kind=81\/m.kind=82
  ·exact dH M p m w h hd h2 _
  by_cases h3:m.kind=91
  ·exact ZG M p m w h hd h3 hw _
  by_cases h4:m.kind=92
  ·cases hn:((AH m.chan M.opens).map OS.l).getD [] with
   |nil=>exact fP M p m w h hd h4 hn _
   |cons x l=>exact fQ M p m w h hd h4 hn _
  have hk:NotAll m.kind:=⟨h1,fun e=>h2 (.inl e),fun e=>h2 (.inr e),h3,h4⟩;cases he:AH m.chan M.ends with
  |none=>exact hears_no M p m w h hd hk he _
  |some z=>
   obtain⟨b,z⟩:=z;exact hears_end M p m i0 w h hd hk he (hp _ (CD he)) hm
end Go.Proofs.YtfbhemmpobgdpaaGreatDoor
namespace Go.Proofs.YtfbhemmpobgdpaaGreatDoor
open Go.RowKit
theorem decode_is (A:Option Addr) (l:List Int) (c:Nat) (i0:Int) (w:World) (hm:w.cell? ⟨0,0,none⟩=some (.int .i64 i0)) (h:Rd w A l) (hl: ∀x∈l,0<=x/\x<256) (hln:l.length<=140737488355000) (hlc:l.length<=c) (hlm:c<=maxLen) (hal: ∀a,A=some a->a.block<w.heap.size) :
  Calls Tryz.prog 59 #[.slice A l.length c] w fun e w'=>Only [] w w'/\∃(m:MD) (E:Int),e = .returned (.tuple #[m.val,.int .i64 E])/\m.ok w'/\(∀a,m.dA=some a->w.heap.size<=a.block)/\IT l m E:=
 (jC A l c i0 w hm h hl hln hlc hlm hal).mono fun e w' ⟨h1,m,E,h2,h3,h4,_,h5⟩=>⟨h1,m,E,h2,h3,h4,h5⟩
end Go.Proofs.YtfbhemmpobgdpaaGreatDoor
