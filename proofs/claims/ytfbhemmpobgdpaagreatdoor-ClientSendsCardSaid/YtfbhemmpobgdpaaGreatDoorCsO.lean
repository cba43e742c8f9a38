/- ClientSends: lemmas, from 'Layer 30: a payload is taken' on; what each asks for stands in it. -/
import Derived.Test.YtfbhemmpobgdpaaGreatDoorCsN
import Derived.Test.YtfbhemmpobgdpaaGreatDoorCsD
import Derived.Test.YtfbhemmpobgdpaaGreatDoorCsK
import Derived.Test.YtfbhemmpobgdpaaGreatDoorCsC
set_option linter.all false
set_option maxRecDepth 100000
set_option maxHeartbeats 64000000
namespace Go.Proofs.YtfbhemmpobgdpaaGreatDoor
open Go.RowKit Go.MapKept
theorem QE {α β:Type} {f:α->List β}: ∀{l:List α} {p:α},p∈l->(f p).length<=(l.flatMap f).length
 |a::l,p,h=>by
  rw[qG,zE];rcases qC.1 h with e|h;·subst e;omega
  ·have:=QE (f:=f) h;omega
theorem cp_data (m:MD): ∀(js:List Nat) (x:MD),1∉js->5∉js->(js.foldl (cpM m) x).data=x.data
 |[],_,_,_=>rfl
 |j::js,x,h1,h5=>by
  have h1': ¬1=j/\1∉js:=by simpa using h1
  have h5': ¬5=j/\5∉js:=by simpa using h5
  rw[List.foldl_cons,cp_data m js _ h1'.2 h5'.2];unfold cpM;split<;>first|rfl|omega
theorem data_le {l:List Int} {m:MD} (hl:InB l) (hm:l.length<=33792) (h:IT l m 0):m.data.length<=l.length:=by
 obtain⟨h1,h2,_,h3⟩:=jZ hl hm h;obtain⟨js,hr,_,_,he⟩:=QB h1;rw[<-h2,he,List.length_cons];by_cases h1:1∈js
 ·have:=QE (f:=AM) (List.mem_map.2 ⟨1,h1,rfl⟩:AP m 1∈js.map (AP m));have e:AM (AP m 1)=four m.data.length++m.data:=by simp[AM,AP]
  rw[e,zE] at this;omega
 ·by_cases h5:5∈js
  ·have:=QE (f:=AM) (List.mem_map.2 ⟨5,h5,rfl⟩:AP m 5∈js.map (AP m));have e:AM (AP m 5)=m.data:=by simp[AM,AP]
   rw[e] at this;omega
  ·have e:(DV m).data=[]:=by
    unfold DV;rw[hr];dsimp only;rw[cp_data m js _ h1 h5];rfl
   have:=h3.data;rw[e] at this;rw[<-this];simp
def CL.wat (C:CL) (M':WM):CL:=⟨C.K,C.sA,C.sc,C.said,M',C.R⟩
theorem CAt.watch {p:Nat} {C:CL} {M':WM} {w w':World} (h:CAt p C w) (O:Only (C.M.fp C.K.wp) w w') (hW:WAt w' C.K.wp M') (hf: ∀y∈M'.fp C.K.wp,y<w'.heap.size/\(y∈C.M.fp C.K.wp\/w.heap.size<=y)):Only (C.fp p) w w'/\CAt p (C.wat M') w'/\∀y∈(C.wat M').fp p,y<w'.heap.size/\(y∈C.fp p\/w.heap.size<=y):=by
 have hlt:=h.lt;have nd:=h.nd;unfold CL.fp AG at nd;rw[qD,List.nodup_cons,qD] at nd;obtain⟨⟨p1,s1,m1,sm⟩,r1,tr⟩:=nd;have hp: ∀y∈p::bkO C.sA,y∉C.M.fp C.K.wp:=fun y hy hm=>by
  rcases qC.1 hy with e|hy;·subst e;exact p1 (qJ (.inr hm))
  ·exact sm y hy y hm rfl
 have hr: ∀y∈CB C.K C.R,y∉C.M.fp C.K.wp:=fun y hy hm=>tr y (List.mem_cons_of_mem _ (qJ (.inr hm))) y hy rfl;have inT: ∀y∈p::bkO C.sA,y∈C.fp p:=fun y hy=>by
  unfold CL.fp AG;rcases qC.1 hy with e|hy;·subst e;simp
  ·simp[hy]
 have inR: ∀y∈CB C.K C.R,y∈C.fp p:=fun y hy=>by unfold CL.fp;simp[hy]
 have inM: ∀y∈C.M.fp C.K.wp,y∈C.fp p:=fun y hy=>by unfold CL.fp AG;simp[hy]
 have keep: ∀y∈C.fp p,y∉C.M.fp C.K.wp->w'.heap[y]? = w.heap[y]? :=fun y hy hn=>O.block y (hlt y hy) hn;have off: ∀y∈C.fp p,y∉C.M.fp C.K.wp->y∉M'.fp C.K.wp:=fun y hy hn hm=>(hf y hm).2.elim hn (fun h=>by have:=hlt y hy;omega);refine⟨O.mono inM,⟨⟨(keep p (inT p (by simp)) (hp p (by simp))).trans h.tq.blk,AI w w' O.size (fun y hy=>keep y (inT y (List.mem_cons_of_mem _ hy)) (hp y (List.mem_cons_of_mem _ hy))) h.tq.own,hW,rfl,?_⟩,RstAt.st w w' O.size (fun y hy=>keep y (inR y hy) (hr y hy)) h.rst,?_⟩,fun y hy=>?_⟩
 ·show(p::(bkO C.sA++M'.fp C.K.wp)).Nodup;rw[List.nodup_cons,qD];refine⟨fun hm=>?_,s1,hW.nd,fun a ha b hb e=>?_⟩
  ·rcases qK hm with hm|hm;·exact p1 (qJ (.inl hm))
   ·exact off p (inT p (by simp)) (hp p (by simp)) hm
  ·subst e;exact off a (inT a (List.mem_cons_of_mem _ ha)) (hp a (List.mem_cons_of_mem _ ha)) hb
 ·show((p::(bkO C.sA++M'.fp C.K.wp))++CB C.K C.R).Nodup;rw[qD,List.nodup_cons,qD];refine⟨⟨fun hm=>?_,s1,hW.nd,fun a ha b hb e=>?_⟩,r1,fun a ha b hb e=>?_⟩
  ·rcases qK hm with hm|hm;·exact p1 (qJ (.inl hm))
   ·exact off p (inT p (by simp)) (hp p (by simp)) hm
  ·subst e;exact off a (inT a (List.mem_cons_of_mem _ ha)) (hp a (List.mem_cons_of_mem _ ha)) hb
  ·subst e;rcases qC.1 ha with e|ha;·subst e;exact tr a (by simp) a hb rfl
   ·rcases qK ha with ha|ha;·exact tr a (List.mem_cons_of_mem _ (qJ (.inl ha))) a hb rfl
    ·exact off a (inR a hb) (hr a hb) ha
 ·have hy:y∈(p::(bkO C.sA++M'.fp C.K.wp))++CB C.K C.R:=hy;have old:y∈C.fp p->y<w'.heap.size/\(y∈C.fp p\/w.heap.size<=y):=fun h2=>⟨zT (hlt y h2) O.size,.inl h2⟩;rcases qK hy with hy|hy
  ·rcases qC.1 hy with e|hy;·exact old (inT y (by simp[e]))
   ·rcases qK hy with hy|hy;·exact old (inT y (List.mem_cons_of_mem _ hy))
    ·exact⟨(hf y hy).1,(hf y hy).2.imp (inM y) id⟩
  ·exact old (inR y hy)
theorem hearsC (p:Nat) (C:CL) (m:MD) (i0:Int) (w:World) (h:CAt p C w) (hm:DE w (C.fp p) (PO i0 m)) {N:Nat} (hok:COk N C.abs):Calls Tryz.prog 60 #[AD C.K.wp,m.val] w fun e w'=>∃M':WM,e = .returned (.int .i64 (AJ C.M.abs m (okEx m)).2)/\Only (C.fp p) w w'/\(CAt p (C.wat M') w'/\M'.abs=(AJ C.M.abs m (okEx m)).1)/\StX ((C.wat M').fp p) (fun w=>CAt p (C.wat M') w/\M'.abs=(AJ C.M.abs m (okEx m)).1)/\∀y∈(C.wat M').fp p,y<w'.heap.size/\(y∈C.fp p\/w.heap.size<=y):=by
 have inM: ∀y∈C.M.fp C.K.wp,y∈C.fp p:=fun y hy=>by unfold CL.fp AG;simp[hy]
 refine(hears_any C.M C.K.wp m i0 w h.tq.wat (fun x hx y hy=>((hok.w.op (x.1,x.2.l) (List.mem_map.2 ⟨x,hx,rfl⟩)).1 y hy).1) (fun x hx=>hok.w.en (x.1,x.2.2) (List.mem_map.2 ⟨x,hx,rfl⟩)) (hm.mono inM)).mono ?_;rintro e w' ⟨M',rfl,O,hW,hA,hf⟩;obtain⟨o1,o2,o3⟩:=h.watch O hW hf;exact⟨M',rfl,o1,⟨o2,hA⟩,fun w w' hs he h=>⟨CAt.st w w' hs he h.1,h.2⟩,o3⟩
def dFp (m:MD):List Nat:=if m.data.length=0 then[] else bkO m.dA
theorem MD.ok_st {m:MD}:StX (dFp m) (fun w=>m.ok w):=fun w w' hs he h=>by
 refine { h with data:=?_ };by_cases h0:m.data.length=0
 ·have e:m.data=[]:=List.length_eq_zero_iff.1 h0;rw[e];exact RdG.nil
 ·have:RdX cu8 w' m.dA m.data:=DX w w' hs (fun y hy=>he y (by unfold dFp;rw[if_neg h0];exact hy)) (NC h.data);exact QL this
theorem WQ {m:MD} {w:World} (h:m.ok w): ∀y∈dFp m,y<w.heap.size:=fun y hy=>by
 unfold dFp at hy;split at hy;·simp at hy
 ·rename_i h0;obtain⟨b,off,e,hb,_⟩:=h.data (by omega);rw[e] at hy;simp only[bkO,Option.map_some,Option.toList_some,qS] at hy;subst hy;exact hb
def mdV (m:MD):Value:=.agg #[.int .i64 m.kind,.int .u32 m.chan,.int .u32 m.sender,.int .u32 m.window,.int .u32 m.packet,.int .u32 m.code,.string m.name,.string m.lang,.bool m.want,.slice m.dA m.data.length m.dc]
def TkIs (C:CS) (l:List Int) (C':CS) (E:Int):Prop:=∃(m:MD) (e:Int),IT l m e/\U5 m/\InB m.data/\m.data.length<=33792/\if e≠0 then C'=C/\E=e else∃(r:RQ) (e2:Int),(m.kind=98->(AJ C.S m (okEx m)).2=0->(C.xs[m.chan.toNat]?).isSome=true->LQ m.name m.data r e2)/\takesF C m r=(C',E)
def FdIs:CS->List (List Int)->CS->Nat->Prop
 |C,[],C',k=>C'=C/\k=0
 |C,p::ps,C',k=>∃(C1:CS) (E:Int),TkIs C p C1 E/\if E≠0 then C'=C1/\k=1 else if C1.S.dead=true then C'=C1/\k=2 else FdIs C1 ps C' k
def TkPost (p:Nat) (C:CL) (l:List Int) (w:World):Ending->World->Prop:=fun e w'=>∃(z:CL) (E:Int),e = .returned (.int .i64 E)/\Only (C.fp p) w w'/\(CAt p z w'/\TkIs C.abs l z.abs E)/\∀y∈z.fp p,y<w'.heap.size/\(y∈C.fp p\/w.heap.size<=y)
theorem lB (p:Nat) (C:CL) (A:Option Addr) (l:List Int) (cap:Nat) (i0:Int) (w:World) (h:CAt p C w) (hg:DE w (C.fp p) (fun w=>w.cell? ⟨0,0,none⟩=some (.int .i64 i0))) (hr:RdX cu8 w A l) (hln:l.length<=33792) (hlc:l.length<=cap) (hcm:cap<=maxLen) (hal: ∀a,A=some a->a.block<w.heap.size) (hinb:InB l) {N:Nat} (hok:COk N C.abs) (hN:N<=900000) (hsz:C.said.length<=10000000):Calls Tryz.prog 29 #[AD p,.slice A l.length cap] w (TkPost p C l w):=by
 have C0:=h.fx;have hlt:=h.lt;obtain⟨R,hR⟩:=qX (TkPost p C l w);rw[hR];refine Hs.en Tryz.func29 [] [] [] [.c (.v (AD p)),.c (.v (.slice A l.length cap))] (Mem.start0 w) ?_;refine Hs.e0 ?_;refine Hs.callFx (X:=MD×Int) (fun z=>.tuple #[mdV z.1,.int .i64 z.2]) (fun z=>C.fp p++dFp z.1) (fun z w2=>CAt p C w2/\(z.1.ok w2/\IT l z.1 z.2/\∀y∈dFp z.1,w.heap.size<=y)) C0 (fun w' H hq=>(decode_is A l cap i0 w' (hg w' (C0.fin H)) (QL (hr.only H.only)) hinb (by omega) hlc hcm (fun a ha=>zT (hal a ha) H.only.size)).mono ?_) (by kernel_rfl) (by kernel_rfl) (by kernel_rfl) fun z w1 L1 C1 _ _=>?_
 ·rintro e w2 ⟨O,m,E,rfl,ok,hnew,hD⟩;have hnew2: ∀y∈dFp m,w'.heap.size<=y:=fun y hy=>by
   unfold dFp at hy;split at hy;·simp at hy
   ·cases hA:m.dA with
    |none=>rw[hA] at hy;simp[bkO] at hy
    |some a=>
     rw[hA] at hy;simp only[bkO,Option.map_some,Option.toList_some,qS] at hy;rw[hy];exact hnew a hA
  exact⟨(m,E),rfl,O.mono (by simp),⟨CAt.st w' w2 O.size (fun y hy=>O.block y (hq.lt y hy) (by simp)) hq,ok,hD,fun y hy=>Nat.le_trans H.only.size (hnew2 y hy)⟩,StX.and CAt.st (fun w w' hs he h=>⟨MD.ok_st w w' hs he h.1,h.2⟩),fun y hy=>by
   rcases qK hy with hy|hy;·exact⟨zT (hq.lt y hy) O.size,.inl hy⟩
   ·exact⟨WQ ok y hy,.inr (hnew2 y hy)⟩⟩
 obtain⟨m,E⟩:=z;obtain⟨_,hok0,hD,hnew⟩:=C1.now;dsimp only at hok0 hD hnew;have hu5:U5 m:=hok0.nums;have hinb2:InB m.data:=hok0.bytes;have hdl:m.data.length<=33792:=by
  by_cases hE:E=0
  ·subst hE;have:=data_le hinb hln hD;omega
  ·have:=dec_bad hD hE;subst this;exact qO _
 have Cc:Fx w (C.fp p) w1 L1 (C.fp p) (CAt p C):=C1.sub (fun y hy=>qJ (.inl hy)) (fun h=>h.1) CAt.st;have Cm:Fx w (C.fp p) w1 L1 (dFp m) (fun w=>m.ok w):=C1.sub (fun y hy=>qJ (.inr hy)) (fun h=>h.2.1) MD.ok_st;have hap: ∀y∈dFp m,y∉C.fp p:=fun y hy hm=>by have:=hnew y hy;have:=hlt y hm;omega
 refine Hs.e1 fun bm=>?_;refine Hs.cn (E !=0) (fun hE=>?_) (fun hE=>?_)
 ·have hE:E≠0:=by simpa using hE
  refine Hs.e0 ?_;rw[<-hR];exact Hs.rt (v:=.int .i64 E) Tryz.func29 fun w' H=>⟨C,E,rfl,Cc.fin H,⟨Cc.at H,m,E,hD,hu5,hinb2,hdl,by rw[if_pos hE];exact⟨rfl,rfl⟩⟩,fun y hy=>⟨(Cc.at H).lt y hy,.inl hy⟩⟩
 have hE:E=0:=by simpa using hE
 subst hE;refine Hs.e0 ?_;refine Hs.any [0] (by kernel_rfl) ?_;refine Hs.e0 ?_;refine Hs.ldc (E':=84) (b:=p) (off:=4) (AD C.K.wp) (by kernel_rfl) (fun w' H=>by
  rw[(Cc.at H).tq.blk.cell];rfl) (by kernel_rfl) ?_
 refine Hs.e0 ?_;refine Hs.callFxB (X:=WM) (fun _=>.int .i64 (AJ C.M.abs m (okEx m)).2) (fun M'=>(C.wat M').fp p) (fun M' w2=>CAt p (C.wat M') w2/\M'.abs=(AJ C.M.abs m (okEx m)).1) Cc (fun w' H hq=>hearsC p C m i0 w' hq (fun w2 O=>?_) hok) (by kernel_rfl) (by kernel_rfl) fun M' w2 L2 C2 hf2 mv=>?_
 ·have hm2:=Cm.at H;refine⟨MD.ok_st w' w2 O.size (fun y hy=>O.block y (WQ hm2 y hy) (hap y hy)) hm2,hg w2 ((Cc.fin H).trans O (fun y hy=>.inl hy)),by omega,fun a ha h0=>?_⟩;obtain⟨b,off,e,hb,_⟩:=hm2.data h0;rw[e] at ha;injection ha with ha;subst ha;exact zT hb O.size
 have Cm2:=mv _ _ Cm (fun y hy=>hap y hy);obtain⟨_,hMa⟩:=C2.now;have hwabs:(C.wat M').abs = { C.abs with S:=(AJ C.M.abs m (okEx m)).1 }:=by rw[<-hMa];rfl
 have hok2:COk N (C.wat M').abs:=by
  rw[hwabs];exact⟨cE hok.w m _,hok.n,hok.xs,hok.m,hok.b⟩
 have fin: ∀{z:CL} {E:Int} {r:RQ} {e2:Int} {w2 w':World} {L2 β:List Nat} {hp:List HB} (C3:Fx w (C.fp p) w2 L2 (z.fp p) (CAt p z)) (H:Mem w2 L2 β hp w') (hf: ∀y∈z.fp p,y∈C.fp p\/w.heap.size<=y) (hDr:m.kind=98->(AJ C.M.abs m (okEx m)).2=0->(C.abs.xs[m.chan.toNat]?).isSome=true->LQ m.name m.data r e2) (ht:takesF C.abs m r=(z.abs,E)),R (.returned (.int .i64 E)) w':=by
  intro z E r e2 w2 w' L2 β hp C3 H hf hDr ht;rw[<-hR];exact⟨z,E,rfl,C3.fin H,⟨C3.at H,m,0,hD,hu5,hinb2,hdl,by rw[if_neg (by decide)];exact⟨r,e2,hDr,ht⟩⟩,fun y hy=>⟨(C3.at H).lt y hy,hf y hy⟩⟩
 have hfz: ∀y∈(C.wat M').fp p,y∈C.fp p\/w.heap.size<=y:=fun y hy=>(hf2 y hy).imp id fun h=>Nat.le_trans C1.only.size h;have C2':Fx w (C.fp p) w2 L2 ((C.wat M').fp p) (CAt p (C.wat M')):=C2.imp (fun h=>h.1) CAt.st;have hS:C.abs.S=C.M.abs:=rfl;have hap2: ∀y∈dFp m,y∉(C.wat M').fp p:=fun y hy hm=>by
  rcases hf2 y hm with h|h;·exact hap y hy h
  ·have:=WQ hok0 y hy;omega
 refine Hs.e0 ?_;refine Hs.cn ((AJ C.M.abs m (okEx m)).2!=0) (fun hh=>?_) (fun hh=>?_)
 ·have hh:(AJ C.M.abs m (okEx m)).2≠0:=by simpa using hh
  refine Hs.e0 ?_;exact Hs.rt (v:=.int .i64 (AJ C.M.abs m (okEx m)).2) Tryz.func29 fun w' H=>fin (r:=BV) (e2:=0) C2' H hfz (fun _ h=>absurd h hh) (by unfold takesF;rw[hS,if_pos hh,hwabs])
 have hh:(AJ C.M.abs m (okEx m)).2=0:=by simpa using hh
 obtain⟨i,hi⟩:=Int.eq_ofNat_of_zero_le (show 0<=m.chan from hu5.1.1);have hit:m.chan.toNat=i:=by omega
 have hxs:C.abs.xs[i]? = C.R.xs[i]?.map HM.abs:=List.getElem?_map ..;have hxm:C.R.xs.length<=64:=by have:=hok.m;rw[show C.abs.xs=C.R.xs.map HM.abs from rfl,List.length_map] at this;exact this
 have hfind: ∀w',CAt p (C.wat M') w'->Calls Tryz.prog 45 #[AD p,.int .u32 m.chan] w' fun e w3=>e = .returned (optV (C.R.xs[i]?.map HM.b))/\Only [] w' w3:=fun w' hq=>by
  rw[hi];exact findC p (C.wat M') i w' hq (by show C.R.xs.length<=1000;omega) (by have:=hu5.1.2;omega)
 refine Hs.e0 ?_;refine Hs.any [0] (by kernel_rfl) ?_;refine Hs.e0 ?_;refine Hs.callQ (X:=Nat) (fun r=>some ⟨r,0,none⟩) (fun r=>.map (some r)) (fun r w'=>BQ (kI .i64) w' r comL) (fun r=>BQ.st) (fun w' H=>eM w') (by kernel_rfl) (by kernel_rfl) fun rm=>?_;refine Hs.e0 ?_;by_cases hk:comK m.kind=true
 ·refine Hs.getM (r:=rm) (es:=comL) keyC m.kind true (.tuple #[fV (LD m.kind),.bool true]) (by rw[eL,if_pos hk];rfl) (by kernel_rfl) (fun w' H=>H.mapM 1 (by kernel_rfl)) ?_;refine Hs.e0 ?_;refine Hs.cV (fun w' H=>hfind w' (C2'.at H)) ?_;cases hx:C.R.xs[i]? with
  |none=>
   rw[hx] at hxs;refine Hs.e0 ?_;refine Hs.eg [2] ?_;refine Hs.cT ?_;refine Hs.e0 ?_;exact Hs.rt (v:=.int .i64 0) Tryz.func29 fun w' H=>fin (r:=BV) (e2:=0) C2' H hfz (fun _ _ h=>by rw[hit,hxs] at h;cases h) (by unfold takesF;rw[hS,if_neg (by simp[hh]),hit,hxs,hwabs];rfl)
  |some x=>
   rw[hx] at hxs;have hcom: ∀{F:Nat} (w':World),LD m.kind=F->CAt p (C.wat M') w'->DE w' ((C.wat M').fp p) (PO i0 m)->Calls Tryz.prog F #[AD p,AD x.b,m.val] w' (CoPost p (C.wat M') i x m w'):=fun {F} w' hF hq hm=>by
    rw[<-hF];exact com_any p (C.wat M') i x m i0 w' hq hx hk hm hok2 (by omega) (by omega) (by show C.said.length<=_;omega)
   have hF:LD m.kind=91\/LD m.kind=92\/LD m.kind=93\/LD m.kind=94\/LD m.kind=95\/LD m.kind=96\/LD m.kind=97:=by
    unfold LD;repeat' split
    all_goals simp
   have hts: ∀r,takesF C.abs m r=(OM (C.wat M').abs i (GB (C.wat M').abs x.abs m r),(GB (C.wat M').abs x.abs m r).2):=fun r=>by
    unfold takesF;rw[hS,if_neg (by simp[hh]),hit,hxs,hwabs];dsimp only[Option.map];rw[if_neg (by rw[hk];decide)];rfl
   have hmk: ∀{w':World},Only (C.fp p) w w'->m.ok w'->DE w' ((C.wat M').fp p) (PO i0 m):=fun {w'} O1 hm2 w3 O3=>by
    have O13:Only (C.fp p) w w3:=O1.trans O3 hfz;refine⟨MD.ok_st w' w3 O3.size (fun y hy=>O3.block y (WQ hm2 y hy) (hap2 y hy)) hm2,hg w3 O13,by omega,fun a ha h0=>?_⟩;obtain⟨b,off,e,hb,_⟩:=hm2.data h0;rw[e] at ha;injection ha with ha;subst ha;exact zT hb O3.size
   refine Hs.e0 ?_;refine Hs.eg [2] ?_;refine Hs.cF ?_;refine Hs.e0 ?_;rcases hF with hF|hF|hF|hF|hF|hF|hF;all_goals (
    refine Hs.slot 45 (.c (.v (fV _))) rfl ((by kernel_rfl:_=fV (LD m.kind)).trans (congrArg fV hF)) ?_;refine Hs.callFx (X:=CL×RQ×Int) (fun z=>.int .i64 (GB (C.wat M').abs x.abs m z.2.1).2) (fun z=>z.1.fp p) (fun z w2=>CAt p z.1 w2/\z.1.abs=OM (C.wat M').abs i (GB (C.wat M').abs x.abs m z.2.1)/\(m.kind=98->LQ m.name m.data z.2.1 z.2.2)) C2' (fun w' H hq=>(hcom w' hF hq (hmk (C2'.fin H) (Cm2.at H))).mono fun e w2 ⟨z,r,e2,h1,h2,h3,h4,h5⟩=>⟨(z,r,e2),h1,h2,⟨h3.1,h3.2,h4⟩,fun w w' hs he h=>⟨CAt.st w w' hs he h.1,h.2⟩,h5⟩) (by kernel_rfl) (by kernel_rfl) (by kernel_rfl) fun z w3 L3 C3 hf3 _=>?_;obtain⟨z,r,e2⟩:=z;obtain⟨_,hz1,hz2⟩:=C3.now;dsimp only at hz1 hz2;refine Hs.e0 ?_;exact Hs.rt (v:=.int .i64 (GB (C.wat M').abs x.abs m r).2) Tryz.func29 fun w' H=>fin (z:=z) (r:=r) (e2:=e2) (C3.imp (fun h=>h.1) CAt.st) H (fun y hy=>(hf3 y hy).elim (hfz y) fun h=>.inr (Nat.le_trans C2.only.size h)) (fun h _ _=>hz2 h) (by rw[hts,hz1]))
 ·refine Hs.getM (r:=rm) (es:=comL) keyC m.kind true (.tuple #[.nilFunc,.bool false]) (by rw[eL,if_neg hk];rfl) (by kernel_rfl) (fun w' H=>H.mapM 1 (by kernel_rfl)) ?_;have hk:comK m.kind=false:=by simpa using hk
  refine Hs.e0 ?_;refine Hs.cV (fun w' H=>hfind w' (C2'.at H)) ?_;refine Hs.e0 ?_;refine Hs.eg [2] ?_;refine Hs.cT ?_;refine Hs.e0 ?_;exact Hs.rt (v:=.int .i64 0) Tryz.func29 fun w' H=>fin (r:=BV) (e2:=0) C2' H hfz (fun h _ _=>by
   rw[h] at hk;cases hk) (by
   unfold takesF;rw[hS,if_neg (by simp[hh]),hit,hxs,hwabs];cases C.R.xs[i]? with
   |none=>rfl
   |some x=>
    dsimp only[Option.map];rw[if_pos hk])
end Go.Proofs.YtfbhemmpobgdpaaGreatDoor
namespace Go.Proofs.YtfbhemmpobgdpaaGreatDoor
open Go.RowKit
def MB (ps:List (List Int)):Nat:=(ps.map List.length).sum
theorem eV: ∀(k:Nat) (l:List Int),(∀p∈(BP k l).1,1<=p.length/\p.length<=33792/\(InB l->InB p))/\(∀r,(BP k l).2=some r->MB (BP k l).1+r.length<=l.length/\(InB l->InB r))/\MB (BP k l).1<=l.length
 |0,l=>by simp[BP,MB]
 |k+1,l=>by
  unfold BP;split;·simp[MB]
  ·split;·simp[MB]
   ·rename_i h4 hf;split;·simp[MB]
    ·rename_i hl;have hf:EI (be4 l)=true:=by simpa using hf
     unfold EI at hf;simp only[Bool.and_eq_true,decide_eq_true_eq] at hf;obtain⟨e,he⟩: ∃e:Nat,(be4 l).toNat=e:=⟨_,rfl⟩;have ih:=eV k (l.drop (4+(be4 l).toNat));rw[he] at ih⊢;have h1:((l.drop 4).take e).length=e:=by rw[List.length_take,List.length_drop];omega
     have h2:(l.drop (4+e)).length=l.length-(4+e):=List.length_drop ..;refine⟨fun p hp=>?_,fun r hr=>?_,?_⟩
     ·rcases qC.1 hp with rfl|hp;·exact⟨by omega,by omega,fun hb=>(hb.drop 4).take e⟩
      ·obtain⟨a,b,c⟩:=ih.1 p hp;exact⟨a,b,fun hb=>c (hb.drop _)⟩
     ·obtain⟨a,b⟩:=ih.2.1 r hr;refine⟨?_,fun hb=>b (hb.drop _)⟩;unfold MB at a⊢;rw[List.map_cons,List.sum_cons,h1];omega
     ·have:=ih.2.2;unfold MB at this⊢;rw[List.map_cons,List.sum_cons,h1];omega
theorem pkt_mK (k chan:Int) (hk:k=96\/k=97):(BB (mK k chan)).length<=9:=by
 by_cases hz:(BZ (mK k chan)).1=0
 ·rw[NZ hz,zE];obtain⟨js,hr,_,_,he⟩:=QB hz;have e:js=[9]:=by
   have h2:BX 96=some [9]:=by decide
   have h3:BX 97=some [9]:=by decide
   have h4:BX (mK k chan).kind=some [9]:=by
    show BX k=_;rcases hk with h|h<;>rw[h]<;>assumption
   rw[h4] at hr;injection hr with hr;exact hr.symm
  subst e;rw[he];have e2:([9].map (AP (mK k chan))).flatMap AM=four chan:=by simp[AP,AM,mK]
  rw[e2];simp[JQ,four]
 ·rw[SA hz];simp
theorem LE {N:Nat} {xs:List HS} (h: ∀x∈xs,HOk N x) {i:Nat} {x':HS} (hx:HOk N x'): ∀x∈xs.set i x',HOk N x:=fun x hm=>by
 rcases List.mem_or_eq_of_mem_set hm with hm|hm;·exact h x hm
 ·subst hm;exact hx
theorem com_ok {N n:Nat} {C:CS} {i:Nat} {x:HS} {m:MD} {r:RQ} (hC:COk N C) (hi:C.xs[i]? = some x) (hu:U5 m) (hd:m.data.length<=n) (hn:1<=n):COk (N+n) (OM C i (GB C x m r))/\(OM C i (GB C x m r)).said.length<=C.said.length+40*n:=by
 have hx:=hC.xs x (qE hi);have up:=hC.up (Nat.le_add_right N n);obtain⟨⟨u1,u2,u3,u4,u5⟩,l1,l2,l3⟩:=hx;have put: ∀(x':HS),HOk (N+n) x'->COk (N+n) { C with xs:=C.xs.set i x' }:=fun x' hx'=>⟨up.w,up.n,LE up.xs hx',by show(C.xs.set i x').length<=64;rw[List.length_set];exact hC.m,up.b⟩;have hg:U32 (GC x.iL m.data.length).1:=by
  unfold GC;split;·exact HQ _
  ·exact u4
 have hgr:U32 (GX x.oL m.window).1:=by
  unfold GX;split;·exact u2
  ·exact HQ _
 unfold GB;split;·exact⟨put _ ⟨⟨hu.2.1,hu.2.2.1,hu.2.2.2.1,u4,u5⟩,by show x.l0.length<=_/\x.l1.length<=_/\x.al.length<=_;omega⟩,Nat.le_add_right _ _⟩
 split;·exact⟨put _ ⟨⟨u1,u2,u3,u4,u5⟩,by show x.l0.length<=_/\x.l1.length<=_/\x.al.length<=_;omega⟩,Nat.le_add_right _ _⟩
 split;·exact⟨put _ ⟨⟨u1,hgr,u3,u4,u5⟩,by show x.l0.length<=_/\x.l1.length<=_/\x.al.length<=_;omega⟩,Nat.le_add_right _ _⟩
 split
 ·refine⟨put _ ⟨⟨u1,u2,u3,hg,u5⟩,?_,by show x.l1.length<=_;omega,by show x.al.length<=_;omega⟩,Nat.le_add_right _ _⟩;dsimp only;split;·rw[zE];omega
  ·omega
 split
 ·refine⟨put _ ⟨⟨u1,u2,u3,hg,u5⟩,by show x.l0.length<=_;omega,?_,by show x.al.length<=_;omega⟩,Nat.le_add_right _ _⟩;dsimp only;split;·rw[zE];omega
  ·omega
 split
 ·by_cases hc:x.clo=true
  ·rw[if_pos hc];exact⟨put _ ⟨⟨u1,u2,u3,u4,u5⟩,by show x.l0.length<=_/\x.l1.length<=_/\x.al.length<=_;omega⟩,Nat.le_add_right _ _⟩
  ·rw[if_neg hc];have e:OM C i ((FP C (mK 97 x.server),{ x with clo:=true,st:=4 }),0) = { C with said:=BN C.said (mK 97 x.server),S:=CW C.S (mK 97 x.server),xs:=C.xs.set i { x with clo:=true,st:=4 } }:=by kernel_rfl
   rw[e];have hk:(mK 97 x.server).kind≠90:=by show(97:Int)≠90;decide
   have hw:WOk (N+n) (CW C.S (mK 97 x.server)):=MP up.w hk;obtain⟨S',hS'⟩:=qX (CW C.S (mK 97 x.server));obtain⟨sd,hsd⟩:=qX (BN C.said (mK 97 x.server));rw[hS'] at hw⊢;rw[hsd];have hsl:sd.length<=C.said.length+40*n:=by
    rw[<-hsd];unfold BN;rw[zE];have:=pkt_mK 97 x.server (.inr rfl);omega
   refine⟨⟨hw,up.n,LE up.xs ⟨⟨u1,u2,u3,u4,u5⟩,by show x.l0.length<=_/\x.l1.length<=_/\x.al.length<=_;omega⟩,by show(C.xs.set i _).length<=64;rw[List.length_set];exact hC.m,up.b⟩,hsl⟩
 split;·exact⟨put _ ⟨⟨u1,u2,u3,u4,u5⟩,by show x.l0.length<=_/\x.l1.length<=_/\x.al.length<=_;omega⟩,Nat.le_add_right _ _⟩
 ·exact⟨put _ ⟨⟨u1,u2,u3,u4,u5⟩,by
   show x.l0.length<=_/\x.l1.length<=_/\(x.al++[decide (m.kind=99)]).length<=_;rw[zE,List.length_singleton];omega⟩,Nat.le_add_right _ _⟩
theorem iH {N:Nat} {C C':CS} {l:List Int} {E:Int} (hC:COk N C) (hl:InB l) (h1:1<=l.length) (h2:l.length<=33792) (h:TkIs C l C' E):COk (N+l.length) C'/\C'.said.length<=C.said.length+40*l.length:=by
 obtain⟨m,e,hD,hu,hb,hd,h⟩:=h;by_cases he:e≠0
 ·rw[if_pos he] at h;rw[h.1];exact⟨hC.up (Nat.le_add_right _ _),Nat.le_add_right _ _⟩
 ·rw[if_neg he] at h;have he:e=0:=by simpa using he
  subst he;have hdl:=data_le hl h2 hD;obtain⟨r,e2,_,ht⟩:=h;have hS:COk N { C with S:=(AJ C.S m (okEx m)).1 }:=⟨cE hC.w m _,hC.n,hC.xs,hC.m,hC.b⟩;unfold takesF at ht;split at ht
  ·injection ht with ht _;rw[<-ht];exact⟨hS.up (Nat.le_add_right _ _),Nat.le_add_right _ _⟩
  ·split at ht
   ·injection ht with ht _;rw[<-ht];exact⟨hS.up (Nat.le_add_right _ _),Nat.le_add_right _ _⟩
   ·rename_i x hx;split at ht
    ·injection ht with ht _;rw[<-ht];exact⟨hS.up (Nat.le_add_right _ _),Nat.le_add_right _ _⟩
    ·injection ht with ht _;have:=com_ok (r:=r) (i:=m.chan.toNat) hS hx hu hdl h1;rw[<-ht];exact this
section
variable {w w0 w1 w2 w':World} {L L1 L' β:List Nat} {hp:List HB} {Q D1 D2:World -> Prop}
end
section
variable {P:Program} {f:FuncId} {R:Ending -> World -> Prop} {n:Nat} {w0 w00:World} {L:List Nat} {β:List Nat} {m:SM} {D1:World -> Prop}
end
section
variable {P:Program} {f:FuncId} {R:Ending -> World -> Prop} {n:Nat} {w0:World} {L:List Nat} {β:List Nat} {m:SM} {E size:Nat}
end
section
variable {P:Program} {f:FuncId} {R:Ending -> World -> Prop} {n:Nat} {w0 w00:World} {G L fp:List Nat} {β:List Nat} {m:SM} {Q:World -> Prop}
theorem run_stBlk {w:World} {g T j:Nat} {cs vs:List Value} {E':TypeId} {v:Value} (hB:Blk w g T cs) (hv:v.cells=vs.toArray) (hone: ∀u∈vs,u.oneCell'=true) (hz:szB P E'=some vs.length) (hj:j+vs.length<=cs.length):(Instr.storeAt E' (.pointer (some ⟨g,j,none⟩)) v).run P w = .ok () (w.setCells g j vs):=by
 have hst:(storeVar E' ⟨g,j,none⟩ v).run P w = .ok () (w.setCells g j vs):=by
  have hc:=run_storeCells_cells (P:=P) g j vs 0 w (fun i hi=>by
   simpa using(JU hB j vs.length hj i (by simpa using hi)).1) (fun i hi=>by
   simpa using(JU hB j vs.length hj i (by simpa using hi)).2) (by simpa using hone)
  simp only[Nat.add_zero] at hc;unfold storeVar;simp only[Sem.run_bind,JY hz w,Result.andThen_ok,hv];rw[if_neg (by simp)];simp[hc]
 simp only[Instr.storeAt,Instr.sureAddr,Sem.run_bind,Sem.run_pure,Result.andThen_ok,hst]
theorem Hs.stFx (g j:Nat) (T E':TypeId) (cs vs:List Value) (v:Value) (fp':List Nat) (Q':World->Prop) (C:Fx w00 G w0 L fp Q) (hv:v.cells=vs.toArray) (hone: ∀u∈vs,u.oneCell'=true) (hz:szB P E'=some vs.length) (hj:j+vs.length<=cs.length)
  (hs:DO n β m=some (bY (Instr.storeAt E' (.pointer (some ⟨g,j,none⟩)) v))) (hB: ∀w,Q w->Blk w g T cs) (hg:g∈fp) (hQ: ∀w w',Q w->Only [g] w w'->Blk w' g T (EG cs j vs)->Q' w') (st:StX fp' Q') (hfp: ∀y∈fp',y∈fp) (hrd:HO m=[]) (hro:PJ m.hp=true)
  (h: ∀w1 L1,Fx w00 G w1 L1 fp' Q'->WC w00 G w0 L fp w1 L1->Hs P f R n w1 L1 β (m.put (BD m) (.c (.v undef)) m.hp)):Hs P f R n w0 L β m:=by
 obtain⟨o,ho,hgk,he,hd⟩:=II hs;refine⟨fun w H W=>?_⟩;rw[hd] at h;have hQw:=C.at H;have hBw:=hB w hQw;have hrun:=run_stBlk (P:=P) hBw hv hone hz hj;have O1:Only [g] w (w.setCells g j vs):=IP _ _ _;have hB':=JO vs j w cs hBw hj;have O:Only fp w (w.setCells g j vs):=O1.mono fun y hy=>by
  rw[qS] at hy;subst hy;exact hg
 refine Gs.op ho hgk ?_;unfold Oper.wp;rw[EO,he];simp only[bY,Sem.run_bind,hrun,Result.andThen_ok,Sem.run_pure,Oper.upon_skip];refine⟨β,_,m.hp,EZ n β m.sl o.dst (.c (.v undef)),fun w2 hI=>?_,(h (w.setCells g j vs) _ (C.turn H O (hQ _ _ hQw O1 hB') (fun y hy=>⟨zT (C.own y (hfp y hy)).1 (Nat.le_trans H.only.size O.size),.inl (hfp y hy)⟩) st) fun fp2 Q2 C2 hne=>C2.step H O hne fun x hx=>(C.own x hx).2.2).go _ (H.rebaseF O (C.apart H hro)) ?_⟩;·rw[hrd];intro i hi;cases hi
 ·simp only[SM.wf,SM.put,Bool.and_eq_true];exact⟨DW (SM.wf_sl W) rfl,SM.wf_hp W⟩
end
section
variable {P:Program} {f:FuncId} {R:Ending -> World -> Prop} {n:Nat} {w0:World} {L:List Nat} {β:List Nat} {m:SM}
theorem Hs.ldB {E b off:Nat} (vs:List Value) (v:SV) (hs:DO n β m=some (GK (Instr.loadAt E (.pointer (some ⟨b,off,none⟩))))) (hc: ∀w,Mem w0 L β m.hp w->∀j u,vs[j]? = some u->w.cell? ⟨b,off+j,none⟩=some u) (ha:aggB P E=some true) (hz:szB P E=some vs.length) (hv:v.den β = .agg vs.toArray) (hw:v.wf m.hp.length=true)
  (h:Hs P f R n w0 L β (m.put (BD m) v m.hp)):Hs P f R n w0 L β m:=
 Hs.opV v hs hw (fun w H=>by
  obtain⟨d,hu,hd⟩:=WG ha;rw[hv];exact run_loadAt_mid w b _ E vs d (hc w H) hu hd (by rw[YP hz])) h
end
end Go.Proofs.YtfbhemmpobgdpaaGreatDoor
namespace Go.Proofs.YtfbhemmpobgdpaaGreatDoor
open Go.RowKit Go.MapKept
section
variable {f:FuncId} {R:Ending -> World -> Prop} {n:Nat} {w0 w00:World} {G L:List Nat} {β:List Nat} {m:SM} {p:Nat}
theorem Hs.callSpoken (Z:CL) (C:Fx w00 G w0 L (Z.fp p) (CAt p Z)) (hc:FG Tryz.prog n β m=some (27,#[AD p])) (hrd:HO m=[]) (hro:PJ m.hp=true)
  (h: ∀w1 L1,Fx w00 G w1 L1 (Z.quiet.fp p++bkO Z.sA) (fun w2=>CAt p Z.quiet w2/\AN cu8 5 1 w2 0 (.slice Z.sA Z.said.length Z.sc) Z.said)->WC w00 G w0 L (Z.fp p) w1 L1->Hs Tryz.prog f R n w1 L1 β (m.put (BD m) (.c (.v (.slice Z.sA Z.said.length Z.sc))) m.hp)):Hs Tryz.prog f R n w0 L β m:=
 Hs.callFx (X:=Unit) (fun _=>.slice Z.sA Z.said.length Z.sc) (fun _=>Z.quiet.fp p++bkO Z.sA) (fun _ w2=>CAt p Z.quiet w2/\AN cu8 5 1 w2 0 (.slice Z.sA Z.said.length Z.sc) Z.said) C (fun w' H hq=>(spokenC p Z w' hq).mono fun e w2 ⟨h1,h2,h3,h4,h5,h6⟩=>⟨(),h1,h2,⟨h3,h4⟩,StX.and CAt.st AI,fun y hy=>by
  rcases qK hy with hy|hy;·exact⟨(h5 y hy).1,.inl (h5 y hy).2⟩
  ·exact⟨(h6 y hy).2.1,.inl (h6 y hy).2.2⟩⟩) hc hrd hro fun _ w1 L1 C1 _ mv=>h w1 L1 C1 mv
end
theorem NH {p:Nat} {C Z:CL} {w w3 w':World} {L3 β:List Nat} {hp:List HB} {v:Value->Value} {C':CS} (C3:Fx w (C.fp p) w3 L3 (Z.quiet.fp p++bkO Z.sA) (fun w2=>CAt p Z.quiet w2/\AN cu8 5 1 w2 0 (.slice Z.sA Z.said.length Z.sc) Z.said)) (H:Mem w3 L3 β hp w') (hf: ∀y∈Z.fp p,y∈C.fp p\/w.heap.size<=y) (hnd:(Z.fp p).Nodup) (hC:Z.quiet.abs=C'):LW p C C' Z.said v w (.returned (v (.slice Z.sA Z.said.length Z.sc))) w':=
 ⟨(Z.quiet,Z.sA,Z.sc),rfl,C3.fin H,⟨(C3.at H).1,hC,(C3.at H).2⟩,fun y hy=>⟨zT (C3.own y hy).1 H.only.size,by
  rcases qK hy with hy|hy;·exact hf y (SG y hy)
  ·exact hf y (by simp[CL.fp,AG,hy])⟩,(TP hnd).2⟩
def CL.fr (C:CL) (A:Option Addr) (rest:List Int) (c:Nat) (bad:Bool):CL:=⟨{ C.K with bA:=A,bn:=rest.length,bc:=c,bad:=bad },C.sA,C.sc,C.said,C.M,⟨rest,C.R.xs⟩⟩
theorem CAt.frame {p:Nat} {C:CL} {A:Option Addr} {rest:List Int} {c:Nat} {bad:Bool} {w w':World} (h:CAt p C w) (O:Only [p] w w') (hB:Blk w' p 89 (ckC { C.K with bA:=A,bn:=rest.length,bc:=c,bad:=bad } C.sA C.said.length C.sc)) (hr:RdX cu8 w' A rest) (hlt: ∀y∈bkO A,y<w'.heap.size) (hoff: ∀y∈bkO A,y∉C.fp p):CAt p (C.fr A rest c bad) w':=by
 have hl:=h.lt;have nd:=h.nd;unfold CL.fp AG CB at nd;rw[qD,qD] at nd;obtain⟨t1,⟨_,r1,br⟩,tr⟩:=nd;have t1':=t1;rw[List.nodup_cons] at t1';have inT: ∀y∈p::(bkO C.sA++C.M.fp C.K.wp),y∈C.fp p:=fun y hy=>qJ (.inl hy);have inR: ∀y∈bkO C.K.cA++C.R.xs.flatMap HM.fp,y∈C.fp p:=fun y hy=>qJ (.inr (qJ (.inr hy)));have keep: ∀y∈C.fp p,y≠p->w'.heap[y]? = w.heap[y]? :=fun y hy hn=>O.block y (hl y hy) (by simpa using hn);have neT: ∀y∈bkO C.sA++C.M.fp C.K.wp,y≠p:=fun y hy e=>by subst e;exact t1'.1 hy
 have neR: ∀y∈bkO C.K.cA++C.R.xs.flatMap HM.fp,y≠p:=fun y hy e=>by subst e;exact tr y (by simp) y (qJ (.inr hy)) rfl
 have kS: ∀y∈bkO C.sA,w'.heap[y]? = w.heap[y]? :=fun y hy=>keep y (inT y (by simp[hy])) (neT y (by simp[hy]));have kM: ∀y∈C.M.fp C.K.wp,w'.heap[y]? = w.heap[y]? :=fun y hy=>keep y (inT y (by simp[hy])) (neT y (by simp[hy]));have kC: ∀y∈bkO C.K.cA,w'.heap[y]? = w.heap[y]? :=fun y hy=>keep y (inR y (by simp[hy])) (neR y (by simp[hy]));refine⟨⟨hB,AI w w' O.size kS h.tq.own,WAt.st w w' O.size kM h.tq.wat,rfl,t1⟩,⟨hr,rfl,hlt,AI w w' O.size kC h.rst.ch,h.rst.cn,fun x hx=>HAt.st w w' O.size (fun y hy=>?_) (h.rst.xs x hx)⟩,?_⟩
 ·have hm:y∈bkO C.K.cA++C.R.xs.flatMap HM.fp:=qJ (.inr (List.mem_flatMap.2 ⟨x,hx,hy⟩));exact keep y (inR y hm) (neR y hm)
 ·show((p::(bkO C.sA++C.M.fp C.K.wp))++(bkO A++(bkO C.K.cA++C.R.xs.flatMap HM.fp))).Nodup;rw[qD,qD];refine⟨t1,⟨PZ _,r1,fun a ha b hb e=>?_⟩,fun a ha b hb e=>?_⟩;·subst e;exact hoff a ha (inR a hb)
  ·subst e;rcases qK hb with hb|hb;·exact hoff a hb (inT a ha)
   ·exact tr a ha a (qJ (.inr hb)) rfl
def CL.brk (C:CL):CL:=⟨{ C.K with broken:=true },C.sA,C.sc,C.said,C.M,C.R⟩
theorem CAt.brk {p:Nat} {C:CL} {w w':World} (h:CAt p C w) (O:Only [p] w w') (hB:Blk w' p 89 (ckC { C.K with broken:=true } C.sA C.said.length C.sc)):CAt p C.brk w':=by
 have hl:=h.lt;have nd:=h.nd;unfold CL.fp AG at nd;rw[qD] at nd;obtain⟨t1,r1,tr⟩:=nd;have t1':=t1;rw[List.nodup_cons] at t1';have keep: ∀y∈C.fp p,y≠p->w'.heap[y]? = w.heap[y]? :=fun y hy hn=>O.block y (hl y hy) (by simpa using hn);have inT: ∀y∈p::(bkO C.sA++C.M.fp C.K.wp),y∈C.fp p:=fun y hy=>qJ (.inl hy);have neT: ∀y∈bkO C.sA++C.M.fp C.K.wp,y≠p:=fun y hy e=>by subst e;exact t1'.1 hy
 have kS: ∀y∈bkO C.sA,w'.heap[y]? = w.heap[y]? :=fun y hy=>keep y (inT y (by simp[hy])) (neT y (by simp[hy]));have kM: ∀y∈C.M.fp C.K.wp,w'.heap[y]? = w.heap[y]? :=fun y hy=>keep y (inT y (by simp[hy])) (neT y (by simp[hy]));exact⟨⟨hB,AI w w' O.size kS h.tq.own,WAt.st w w' O.size kM h.tq.wat,rfl,t1⟩,RstAt.st (K:=C.K) w w' O.size (fun y hy=>keep y (qJ (.inr hy)) (fun e=>by subst e;exact tr y (by simp) y hy rfl)) h.rst |> fun r=>⟨r.buf,r.bn,r.blt,r.ch,r.cn,r.xs⟩,h.nd⟩
def IU (C:CS) (b:List Int) (C':CS) (send:List Int) (E:Int):Prop:=if BO C=true then C'=C/\send=[]/\E=9 else
 ∃(C1:CS) (k:Nat),FdIs (LZ C b).1 (LZ C b).2.1 C1 k/\send=C1.said/\
  if k=1 then C' = { C1 with broken:=true,said:=[] }/\E=4 else if k=2 then C' = { C1 with said:=[] }/\E=0 else
  if(LZ C b).2.2=true then C' = { C1 with said:=[] }/\E=0 else C' = { C1 with broken:=true,said:=[] }/\E=4
theorem FeedR_of0 {C C1 D:CS} {b:List Int} {pl:List (List Int)} (hs:BO C=false) (h1:(LZ C b).1=D) (h2:(LZ C b).2.1=pl) (h3:(LZ C b).2.2=true) (h:FdIs D pl C1 0):IU C b { C1 with said:=[] } C1.said 0:=by
 unfold IU;rw[if_neg (by rw[hs];decide),h1,h2];exact⟨C1,0,h,rfl,by rw[if_neg (by decide),if_neg (by decide),if_pos h3];exact⟨rfl,rfl⟩⟩
theorem FeedR_ofE {C C1 D:CS} {b:List Int} {pl:List (List Int)} (hs:BO C=false) (h1:(LZ C b).1=D) (h2:(LZ C b).2.1=pl) (h3:(LZ C b).2.2=false) (h:FdIs D pl C1 0):IU C b { C1 with broken:=true,said:=[] } C1.said 4:=by
 unfold IU;rw[if_neg (by rw[hs];decide),h1,h2];exact⟨C1,0,h,rfl,by rw[if_neg (by decide),if_neg (by decide),if_neg (by rw[h3];decide)];exact⟨rfl,rfl⟩⟩
theorem FeedR_of1 {C C1 D:CS} {b:List Int} {pl:List (List Int)} (hs:BO C=false) (h1:(LZ C b).1=D) (h2:(LZ C b).2.1=pl) (h:FdIs D pl C1 1):IU C b { C1 with broken:=true,said:=[] } C1.said 4:=by
 unfold IU;rw[if_neg (by rw[hs];decide),h1,h2];exact⟨C1,1,h,rfl,by rw[if_pos rfl];exact⟨rfl,rfl⟩⟩
theorem FeedR_of2 {C C1 D:CS} {b:List Int} {pl:List (List Int)} (hs:BO C=false) (h1:(LZ C b).1=D) (h2:(LZ C b).2.1=pl) (h:FdIs D pl C1 2):IU C b { C1 with said:=[] } C1.said 0:=by
 unfold IU;rw[if_neg (by rw[hs];decide),h1,h2];exact⟨C1,2,h,rfl,by rw[if_neg (by decide),if_pos rfl];exact⟨rfl,rfl⟩⟩
def cK (p:Nat) (C:CL) (b:List Int) (w:World):Ending->World->Prop:=fun e w'=>∃(C':CS) (send:List Int) (E:Int),IU C.abs b C' send E/\LW p C C' send (fun s=>.tuple #[s,.int .i64 E]) w e w'
def PT (oA:Option Addr) (ps:List (Pc Int)) (w:World):Prop:=RdX Pc.cs w oA ps/\∀q∈ps,RdX cu8 w q.A q.l
def PFp (oA:Option Addr) (ps:List (Pc Int)):List Nat:=bkO oA++ps.flatMap fun q=>bkO q.A
theorem PT.st {oA:Option Addr} {ps:List (Pc Int)}:StX (PFp oA ps) (PT oA ps):=DX.and VQ
theorem cdeadC (p:Nat) (C:CL) (w:World) (h:CAt p C w):Calls Tryz.prog 30 #[AD C.K.wp] w fun e w'=>e = .returned (.bool C.abs.S.dead)/\Only [] w w':=ZY C.M C.K.wp w h.tq.wat.blk
theorem KH (p:Nat) (C:CL) (B:Option Addr) (b:List Int) (nb cb:Nat) (hnb:b.length=nb) (i0:Int) (w:World) (h:CAt p C w) (hg:DE w (C.fp p) (fun w=>w.cell? ⟨0,0,none⟩=some (.int .i64 i0))) (hr:RdX cu8 w B b) (hinb:InB b) (hbd:C.abs.bad=true->BO C.abs=true) {N:Nat} (hok:COk N C.abs) (hN:N+nb<=200000) (hsz:C.said.length<=1000000):Calls Tryz.prog 9 #[AD p,.slice B nb cb] w (cK p C b w):=by
 have C0:=h.fx;have hlt:=h.lt;obtain⟨R,hR⟩:=qX (cK p C b w);rw[hR];have hF: ∀w',CAt p C w'->w.heap.size<=w'.heap.size->RdX cu8 w' B b->Calls Tryz.prog 28 #[.agg #[.slice C.K.bA C.K.bn C.K.bc,.bool false],.slice B nb cb] w' fun e w2=>∃x:FR,e = .returned x.val/\Only (C.fp p) w' w2/\(CAt p C w2/\(x.at w2/\x.is (C.R.buf++b)/\x.ap/\∀y∈x.fp,w.heap.size<=y/\y<w2.heap.size))/\StX (C.fp p++x.fp) (fun w2=>CAt p C w2/\(x.at w2/\x.is (C.R.buf++b)/\x.ap/\∀y∈x.fp,w.heap.size<=y/\y<w2.heap.size))/\∀y∈C.fp p++x.fp,y<w2.heap.size/\(y∈C.fp p\/w'.heap.size<=y):=fun w' hq hsz' hr'=>by
  have hf:=eW C.K.bA C.R.buf C.K.bc B b cb w' hq.rst.buf hr' (by have:C.R.buf.length<=N:=hok.b.1;omega) (fun x hx=>by
   rcases qK hx with hx|hx;·exact hok.b.2 x hx
   ·exact hinb x hx)
  rw[hq.rst.bn,hnb] at hf;refine hf.mono ?_;rintro e w2 ⟨x,rfl,O,hx,hf,hap⟩;exact⟨x,rfl,O.mono (by simp),⟨CAt.st w' w2 O.size (fun y hy=>O.block y (hq.lt y hy) (by simp)) hq,hx.1,hx.2,hap,fun y hy=>⟨Nat.le_trans hsz' (hf y hy).2,(hf y hy).1⟩⟩,StX.and CAt.st (fun w w' hs he h=>⟨FR.st w w' hs he h.1,h.2.1,h.2.2.1,fun y hy=>⟨(h.2.2.2 y hy).1,zT (h.2.2.2 y hy).2 hs⟩⟩),fun y hy=>by
   rcases qK hy with hy|hy;·exact⟨zT (hq.lt y hy) O.size,.inl hy⟩
   ·exact⟨(hf y hy).1,.inr (hf y hy).2⟩⟩
 refine Hs.en Tryz.func9 [] [] [] [.c (.v (AD p)),.c (.v (.slice B nb cb))] (Mem.start0 w) ?_;refine Hs.e0 ?_;refine Hs.cF ?_;refine Hs.e0 ?_;refine Hs.cV (fun w' H=>TY p C w' (C0.at H)) ?_;refine Hs.e0 ?_;refine Hs.cn (BO C.abs) (fun hs=>?_) (fun hs=>?_)
 ·refine Hs.e0 ?_;rw[<-hR];exact Hs.rt (v:=.tuple #[.slice none 0 0,.int .i64 9]) Tryz.func9 fun w' H=>⟨C.abs,[],9,by unfold IU;rw[if_pos hs];exact⟨rfl,rfl,rfl⟩,(C,none,0),rfl,C0.fin H,⟨C0.at H,rfl,CN⟩,fun y hy=>by
   have hy:y∈C.fp p:=by simpa[bkO] using hy
   exact⟨(C0.at H).lt y hy,.inl hy⟩,by simp[bkO]⟩
 have hbad:C.K.bad=false:=by
  cases hb:C.K.bad with
  |false=>rfl
  |true=>
   have:=hbd hb;rw[hs] at this;cases this
 refine Hs.e0 ?_;refine Hs.ldB (E:=86) (b:=p) (off:=2) [.slice C.K.bA C.K.bn C.K.bc,.bool false] (.g (frS C.K.bA C.K.bn C.K.bc false)) (by kernel_rfl) (fun w' H j u hj=>by
  have hB:=(C0.at H).tq.blk;rw[hB.cell];match j,hj with
  |0,hj=>exact hj
  |1,hj=>rw[<-hj,<-hbad];rfl) (by kernel_rfl) (by kernel_rfl) rfl (by kernel_rfl) ?_
 refine Hs.e0 ?_;refine Hs.callFx (X:=FR) FR.val (fun x=>C.fp p++x.fp) (fun x w2=>CAt p C w2/\(x.at w2/\x.is (C.R.buf++b)/\x.ap/\∀y∈x.fp,w.heap.size<=y/\y<w2.heap.size)) C0 (fun w' H hq=>hF w' hq H.only.size (hr.only H.only)) (by kernel_rfl) (by kernel_rfl) (by kernel_rfl) fun x w1 L1 C1 _ _=>?_;obtain⟨_,_,his,hap,hnew⟩:=C1.now;obtain⟨fA,rest,fc,bad,oA,oc,ps,E⟩:=x;have hapC: ∀y∈FR.fp ⟨fA,rest,fc,bad,oA,oc,ps,E⟩,y∉C.fp p:=fun y hy hm=>by have:=(hnew y hy).1;have:=hlt y hm;omega
 refine Hs.e1 fun bq=>?_;refine Hs.stFx p 2 89 86 (ckC C.K C.sA C.said.length C.sc) [.slice fA rest.length fc,.bool bad] (.agg #[.slice fA rest.length fc,.bool bad]) ((C.fr fA rest fc bad).fp p++PFp oA ps) (fun w2=>CAt p (C.fr fA rest fc bad) w2/\PT oA ps w2) C1 rfl (by simp[Value.oneCell']) (by kernel_rfl) (by show 2+2<=8;omega) (by kernel_rfl) (fun w2 hq=>hq.1.tq.blk) (by simp[CL.fp,AG]) (fun w2 w3 hq O hB=>?_) (StX.and CAt.st PT.st) (fun y hy=>?_) (by kernel_rfl) (by kernel_rfl) fun w2 L2 C2 _=>?_
 ·have pin:p∈C.fp p:=by simp[CL.fp,AG]
  have hat:FR.at ⟨fA,rest,fc,bad,oA,oc,ps,E⟩ w3:=FR.st w2 w3 O.size (fun y hy=>O.block y (hq.2.2.2.2 y hy).2 (fun hm=>by
   rw[qS] at hm;rw[hm] at hy;exact hapC p hy pin)) hq.2.1
  exact⟨CAt.frame hq.1 O hB hat.1 (fun y hy=>zT (hq.2.2.2.2 y (by simp[FR.fp,hy])).2 O.size) (fun y hy=>hapC y (by simp[FR.fp,hy])),hat.2⟩
 ·rcases qK hy with hy|hy
  ·have hy:y∈(p::(bkO C.sA++C.M.fp C.K.wp))++(bkO fA++(bkO C.K.cA++C.R.xs.flatMap HM.fp)):=hy;rcases qK hy with hy|hy;·exact qJ (.inl (qJ (.inl hy)))
   ·rcases qK hy with hy|hy;·exact qJ (.inr (qJ (.inl hy)))
    ·exact qJ (.inl (qJ (.inr (qJ (.inr hy)))))
  ·exact qJ (.inr (qJ (.inr hy)))
 obtain⟨n,hnp⟩:=qX ps.length;obtain⟨hp1,hp2,⟨_,_,hp3,hp4⟩,hp5⟩:=his;dsimp only at hp1 hp2 hp3 hp4 hp5;have hfo:=eV ((C.R.buf++b).length+1) (C.R.buf++b);have hcb:InB (C.R.buf++b):=fun x hx=>by
  rcases qK hx with hx|hx;·exact hok.b.2 x hx
  ·exact hinb x hx
 have hbl:C.R.buf.length<=N:=hok.b.1;obtain⟨pl,hpl⟩:=qX (ps.map Pc.l);have hfd:(LZ C.abs b).1=(C.fr fA rest fc bad).abs/\(LZ C.abs b).2.1=pl/\(((LZ C.abs b).2.2=true/\E=0)\/((LZ C.abs b).2.2=false/\E=5))/\rest.length<=N+nb/\InB rest:=by
  unfold LZ;have e0:C.abs.buf=C.R.buf:=rfl;rw[e0];rw[<-hpl,hp1];have hrl:=hfo.2.1;cases hff:BP ((C.R.buf++b).length+1) (C.R.buf++b) with
  |mk a o=>
   rw[hff] at hp5 hrl;cases o with
   |none=>
    obtain⟨rfl,rfl,rfl⟩:=hp5;exact⟨rfl,rfl,.inr ⟨rfl,rfl⟩,qO _,fun x hx=>by simp at hx⟩
   |some r=>
    obtain⟨rfl,rfl,rfl⟩:=hp5;have:=hrl rest rfl;refine⟨rfl,rfl,.inl ⟨rfl,rfl⟩,?_,this.2 hcb⟩;have h1:=this.1;rw[zE] at h1;omega
 obtain⟨hD0,hpl0,hE,hrl,hrb⟩:=hfd;have hpok: ∀q∈ps,1<=q.l.length/\q.l.length<=33792/\InB q.l:=fun q hq=>by
  have:=hfo.1 q.l (by rw[<-hp1];exact List.mem_map.2 ⟨q,hq,rfl⟩);exact⟨this.1,this.2.1,this.2.2 hcb⟩
 have hsum:MB pl<=N+nb:=by
  have:=hfo.2.2;rw[<-hp1,hpl,zE] at this;omega
 have hok1:COk (N+nb) (C.fr fA rest fc bad).abs:=⟨hok.w.up (Nat.le_add_right _ _),hok.n,fun x hx=>(hok.xs x hx).up (Nat.le_add_right _ _),hok.m,hrl,hrb⟩;have hff: ∀y∈(C.fr fA rest fc bad).fp p,y∈C.fp p\/w.heap.size<=y:=fun y hy=>by
  have hy:y∈(p::(bkO C.sA++C.M.fp C.K.wp))++(bkO fA++(bkO C.K.cA++C.R.xs.flatMap HM.fp)):=hy;rcases qK hy with hy|hy;·exact .inl (qJ (.inl hy))
  ·rcases qK hy with hy|hy;·exact .inr (hnew y (by simp[FR.fp,hy])).1
   ·exact .inl (qJ (.inr (qJ (.inr hy))))
 have hapf: ∀y∈PFp oA ps,y<w2.heap.size/\y∉(C.fr fA rest fc bad).fp p:=fun y hy=>⟨(C2.own y (qJ (.inr hy))).1,fun hm=>by
  have hyf:y∈FR.fp ⟨fA,rest,fc,bad,oA,oc,ps,E⟩:=qJ (.inr hy);have hy0:=hapC y hyf;have hm:y∈(p::(bkO C.sA++C.M.fp C.K.wp))++(bkO fA++(bkO C.K.cA++C.R.xs.flatMap HM.fp)):=hm;rcases qK hm with hm|hm;·exact hy0 (qJ (.inl hm))
  ·rcases qK hm with hm|hm;·exact hap y hm hy
   ·exact hy0 (qJ (.inr (qJ (.inr hm))))⟩
 have J: ∀(d i:Nat) (z:CL) (w1:World) (L1:List Nat),n-i=d->i<=n->Fx w (C.fp p) w1 L1 (z.fp p) (CAt p z)->Fx w (C.fp p) w1 L1 (PFp oA ps) (PT oA ps)->(∀y∈PFp oA ps,y<w1.heap.size/\y∉z.fp p)->COk (N+nb+MB (pl.take i)) z.abs->z.said.length<=C.said.length+40*MB (pl.take i)->(∀C1 k,FdIs z.abs (pl.drop i) C1 k->FdIs (C.fr fA rest fc bad).abs pl C1 k)->(∀y∈z.fp p,y∈C.fp p\/w.heap.size<=y)->∀u:Nat->Value,Hs Tryz.prog 9 R (Tryz.f9).ntmps w1 L1 [] ⟨.no,BE Tryz.f9 0,KQ [(0,.c (.v (AD p))),(8,.c (.v (.int .i64 E))),(31,.c (.v (.slice oA n oc))),(32,.c (.v (.int .i64 n))),(33,.c (.v (.int .i64 (i:Nat))))] (.vals u),[]⟩:=by
  intro d;induction d with
  |zero=>
   intro i z w1 L1 hd hi Cz Cp hapz hzok hzs hist hfz u;obtain rfl:i=n:=by omega
   have hznd:=Cz.now.nd;have hdn:pl.drop i=[]:=List.drop_eq_nil_of_le (by rw[<-hpl,List.length_map];omega);rw[hdn] at hist;refine Hs.e0 ?_;refine Hs.cP ((i:Int)<(i:Int)) (fun h=>by omega) (fun _=>?_);rcases hE with⟨hE1,hE2⟩|⟨hE1,hE2⟩
   ·subst hE2;refine Hs.e0 ?_;refine Hs.cF ?_;refine Hs.e0 ?_;refine Hs.callSpoken (z) Cz (by kernel_rfl) (by kernel_rfl) (by kernel_rfl) fun w3 L3 C3 _=>?_;refine Hs.e0 ?_;exact Hs.rt (v:=.tuple #[.slice z.sA z.said.length z.sc,.int .i64 0]) Tryz.func9 fun w' H=>by
     rw[<-hR];exact⟨_,_,0,FeedR_of0 hs hD0 hpl0 hE1 (hist _ _ ⟨rfl,rfl⟩),NH (Z:=z) (v:=fun s=>.tuple #[s,.int .i64 0]) C3 H hfz hznd rfl⟩
   ·subst hE2;refine Hs.e0 ?_;refine Hs.cT ?_;refine Hs.e0 ?_;refine Hs.stFx p 6 89 4 (ckC z.K z.sA z.said.length z.sc) [.bool true] (.bool true) (z.brk.fp p) (CAt p z.brk) Cz rfl (by simp[Value.oneCell']) (by kernel_rfl) (by show 6+1<=8;omega) (by kernel_rfl) (fun w2 hq=>hq.tq.blk) (by simp[CL.fp,AG]) (fun w2 w3 hq O hB=>hq.brk O hB) CAt.st (fun y hy=>hy) (by kernel_rfl) (by kernel_rfl) fun w4 L4 C4 _=>?_;refine Hs.e0 ?_;refine Hs.callSpoken (z.brk) C4 (by kernel_rfl) (by kernel_rfl) (by kernel_rfl) fun w3 L3 C3 _=>?_;refine Hs.e0 ?_;exact Hs.rt (v:=.tuple #[.slice z.sA z.said.length z.sc,.int .i64 4]) Tryz.func9 fun w' H=>by
     rw[<-hR];exact⟨_,_,4,FeedR_ofE hs hD0 hpl0 hE1 (hist _ _ ⟨rfl,rfl⟩),NH (Z:=z.brk) (v:=fun s=>.tuple #[s,.int .i64 4]) C3 H hfz hznd rfl⟩
  |succ d ih=>
   intro i z w1 L1 hd hi Cz Cp hapz hzok hzs hist hfz u;have hznd:=Cz.now.nd;have hil:i<n:=by omega
   obtain⟨q,hq⟩: ∃q,ps[i]? = some q:=⟨_,List.getElem?_eq_getElem (by omega)⟩;have hqm:=qE hq;obtain⟨q1,q2,q3⟩:=hpok q hqm;have hqp:pl[i]? = some q.l:=by rw[<-hpl,List.getElem?_map,hq];rfl
   have hpd:pl.drop i=q.l::pl.drop (i+1):=by
    obtain⟨h1,h2⟩:=List.getElem?_eq_some_iff.1 hqp;rw[<-h2];exact List.drop_eq_getElem_cons h1
   have hpt:MB (pl.take (i+1))=MB (pl.take i)+q.l.length:=by
    unfold MB;rw[List.take_add_one,hqp];simp
   have hps:MB (pl.take (i+1))<=MB pl:=by
    unfold MB;conv=>rhs;rw[<-List.take_append_drop (i+1) pl]
    rw[List.map_append,List.sum_append];omega
   rw[hpd] at hist;obtain⟨ob,ooff,hoA,_,_⟩:=Cp.now.1 (by omega);have htake: ∀w',CAt p z w'->DE w' (z.fp p) (fun w=>w.cell? ⟨0,0,none⟩=some (.int .i64 i0))->PT oA ps w'->(∀y∈PFp oA ps,y<w'.heap.size)->Calls Tryz.prog 29 #[AD p,.slice q.A q.l.length q.c] w' (TkPost p z q.l w'):=fun w' hz hg' hpt' hlt'=>lB p z q.A q.l q.c i0 w' hz hg' (hpt'.2 q hqm) q2 (hp2 q hqm).1 (hp2 q hqm).2 (fun a ha=>hlt' _ (qJ (.inr (List.mem_flatMap.2 ⟨q,hqm,by rw[ha];simp[bkO]⟩)))) q3 hzok (by omega) (by omega);subst hoA;refine Hs.e0 ?_;refine Hs.cP ((i:Int)<(n:Int)) (fun _=>?_) (fun h=>by omega);refine Hs.e0 ?_;refine Hs.idx (b:=ob) (off:=ooff) (len:=n) (c:=oc) (i:=i) TC hil (by kernel_rfl) ?_;refine Hs.ldc (E':=30) (b:=ob) (off:=ooff+i*1) (.slice q.A q.l.length q.c) (by kernel_rfl) (fun w' H=>ES TN (Cp.at H).1 hq (j:=0) rfl) (by kernel_rfl) ?_;refine Hs.e0 ?_;refine Hs.callFx (X:=CL×Int) (fun z'=>.int .i64 z'.2) (fun z'=>z'.1.fp p) (fun z' w2=>CAt p z'.1 w2/\TkIs z.abs q.l z'.1.abs z'.2) Cz (fun w' H hqz=>(htake w' hqz (fun w2 O=>hg w2 ((Cz.fin H).trans O hfz)) (Cp.at H) (fun y hy=>zT (hapz y hy).1 H.only.size)).mono fun e w2 ⟨z',E',h1,h2,h3,h4⟩=>⟨(z',E'),h1,h2,h3,(fun w w' hs he h=>⟨CAt.st w w' hs he h.1,h.2⟩),h4⟩) (by kernel_rfl) (by kernel_rfl) (by kernel_rfl) fun z' w2 L2 C2 hf2 mv=>?_;have hold:=z;obtain⟨z',E'⟩:=z';obtain⟨_,htk⟩:=C2.now;dsimp only at htk hf2;have Cp2:=mv _ _ Cp (fun y hy=>(hapz y hy).2);have Cz2:Fx w (C.fp p) w2 L2 (z'.fp p) (CAt p z'):=C2.imp (fun h=>h.1) CAt.st;have hfz2: ∀y∈z'.fp p,y∈C.fp p\/w.heap.size<=y:=fun y hy=>(hf2 y hy).elim (hfz y) fun h=>.inr (Nat.le_trans Cz.only.size h);have hapz2: ∀y∈PFp (some ⟨ob,ooff,none⟩) ps,y<w2.heap.size/\y∉z'.fp p:=fun y hy=>⟨(Cp2.own y hy).1,fun hm=>(hf2 y hm).elim (hapz y hy).2 fun h=>by have:=(hapz y hy).1;omega⟩;obtain⟨hzok2,hzs2⟩:=iH hzok q3 q1 q2 htk;have hzs3:z'.said.length<=C.said.length+40*MB (pl.take (i+1)):=by
    have h1:z'.abs.said=z'.said:=rfl;have h2:z.abs.said=z.said:=rfl;rw[h1,h2] at hzs2;omega
   have hzok3:COk (N+nb+MB (pl.take (i+1))) z'.abs:=by rw[hpt,<-Nat.add_assoc];exact hzok2
   have hnd2:=Cz2.now.nd;refine Hs.e0 ?_;refine Hs.cn (E' !=0) (fun he=>?_) (fun he=>?_)
   ·have he:E'≠0:=by simpa using he
    refine Hs.e0 ?_;refine Hs.stFx p 6 89 4 (ckC z'.K z'.sA z'.said.length z'.sc) [.bool true] (.bool true) (z'.brk.fp p) (CAt p z'.brk) Cz2 rfl (by simp[Value.oneCell']) (by kernel_rfl) (by show 6+1<=8;omega) (by kernel_rfl) (fun w2 hq=>hq.tq.blk) (by simp[CL.fp,AG]) (fun w2 w3 hq O hB=>hq.brk O hB) CAt.st (fun y hy=>hy) (by kernel_rfl) (by kernel_rfl) fun w4 L4 C4 _=>?_;refine Hs.e0 ?_;refine Hs.callSpoken (z'.brk) C4 (by kernel_rfl) (by kernel_rfl) (by kernel_rfl) fun w3 L3 C3 _=>?_;refine Hs.e0 ?_;exact Hs.rt (v:=.tuple #[.slice z'.sA z'.said.length z'.sc,.int .i64 4]) Tryz.func9 fun w' H=>by
     rw[<-hR];exact⟨_,_,4,FeedR_of1 hs hD0 hpl0 (hist _ _ ⟨_,_,htk,by rw[if_pos he];exact⟨rfl,rfl⟩⟩),NH (Z:=z'.brk) (v:=fun s=>.tuple #[s,.int .i64 4]) C3 H hfz2 hnd2 rfl⟩
   have he:E'=0:=by simpa using he
   refine Hs.e0 ?_;refine Hs.ldc (E':=84) (b:=p) (off:=4) (AD z'.K.wp) (by kernel_rfl) (fun w' H=>by
    rw[(Cz2.at H).tq.blk.cell];rfl) (by kernel_rfl) ?_
   refine Hs.e0 ?_;refine Hs.cV (fun w' H=>cdeadC p z' w' (Cz2.at H)) ?_;refine Hs.e0 ?_;refine Hs.cn z'.abs.S.dead (fun hdd=>?_) (fun hdd=>?_)
   ·refine Hs.e0 ?_;refine Hs.callSpoken (z') Cz2 (by kernel_rfl) (by kernel_rfl) (by kernel_rfl) fun w3 L3 C3 _=>?_;refine Hs.e0 ?_;exact Hs.rt (v:=.tuple #[.slice z'.sA z'.said.length z'.sc,.int .i64 0]) Tryz.func9 fun w' H=>by
     rw[<-hR];exact⟨_,_,0,FeedR_of2 hs hD0 hpl0 (hist _ _ ⟨_,_,htk,by rw[if_neg (by simp[he]),if_pos hdd];exact⟨rfl,rfl⟩⟩),NH (Z:=z') (v:=fun s=>.tuple #[s,.int .i64 0]) C3 H hfz2 hnd2 rfl⟩
   refine Hs.e0 ?_;refine Hs.slot 33 (.c (.v (.int .i64 (i+1:Nat)))) rfl ((by kernel_rfl:_=Value.int .i64 (IntKind.i64.wrap ((i:Int)+1))).trans (BY (n:=n) (by omega))) ?_;refine Hs.lP ?_;exact Hs.goto (BE Tryz.f9 0) [] [] [(0,.c (.v (AD p))),(8,.c (.v (.int .i64 E))),(31,.c (.v (.slice (some ⟨ob,ooff,none⟩) n oc))),(32,.c (.v (.int .i64 n))),(33,.c (.v (.int .i64 (i+1:Nat))))] (by kernel_rfl) (by decide) (by kernel_rfl) (by kernel_rfl) (fun _=>(by kernel_rfl)) (fun u=>ih (i+1) z' w2 L2 (by omega) (by omega) Cz2 Cp2 hapz2 hzok3 hzs3 (fun C1 k hk=>hist C1 k ⟨_,_,htk,by rw[if_neg (by simp[he]),if_neg (by rw[hdd];decide)];exact hk⟩) hfz2 u)
 have Cz:Fx w (C.fp p) w2 L2 ((C.fr fA rest fc bad).fp p) (CAt p (C.fr fA rest fc bad)):=C2.sub (fun y hy=>qJ (.inl hy)) (fun h=>h.1) CAt.st;have Cp:Fx w (C.fp p) w2 L2 (PFp oA ps) (PT oA ps):=C2.sub (fun y hy=>qJ (.inr hy)) (fun h=>h.2) PT.st;subst hnp;refine Hs.e0 ?_;refine Hs.lP ?_;exact Hs.goto (BE Tryz.f9 0) [] [] [(0,.c (.v (AD p))),(8,.c (.v (.int .i64 E))),(31,.c (.v (.slice oA ps.length oc))),(32,.c (.v (.int .i64 ps.length))),(33,.c (.v (.int .i64 (0:Nat))))] (by kernel_rfl) (by decide) (by kernel_rfl) (by kernel_rfl) (fun _=>(by kernel_rfl)) (fun u=>J ps.length 0 (C.fr fA rest fc bad) w2 L2 (by omega) (by omega) Cz Cp hapf (by simpa[MB] using hok1) (by show C.said.length<=_;omega) (fun C1 k hk=>by simpa using hk) hff u)
end Go.Proofs.YtfbhemmpobgdpaaGreatDoor
namespace Go.Proofs.YtfbhemmpobgdpaaGreatDoor
open Go.RowKit
section
variable {P:Program} {f:FuncId} {R:Ending -> World -> Prop} {n:Nat} {β:List Nat} {m:SM} {w0:World} {L:List Nat}
theorem Hs.share0 {S:SM} {β':List Nat} (h1:Hs P f R n w0 L β' S->Hs P f R n w0 L β m) (h2:Hs P f R n w0 L β' S):Hs P f R n w0 L β m:=h1 h2
theorem Hs.share1 {S:Nat->SM} {β':List Nat} (h1:(∀b,Hs P f R n w0 L (β'++[b]) (S b))->Hs P f R n w0 L β m) (h2: ∀b,Hs P f R n w0 L (β'++[b]) (S b)):Hs P f R n w0 L β m:=h1 h2
def keyM (n:Nat) (m:SM):RM×List Item×List HB×List SV×List Deferred:=⟨m.r,m.todo,m.hp,(List.range n).map m.sl.at,m.sl.ds⟩
theorem Hs.eqM {m':SM} (k:Hs P f R n w0 L β m') (h:keyM n m=keyM n m') (hw:m'.sl.wf m'.hp.length=true):Hs P f R n w0 L β m:=by
 obtain⟨r,td,sl,hp⟩:=m;obtain⟨r',td',sl',hp'⟩:=m';simp only[keyM,Prod.mk.injEq] at h;obtain⟨rfl,rfl,rfl,hs,hd⟩:=h;have e:fr n β sl=fr n β sl':=by
  unfold fr;rw[hd];congr 2
  refine List.map_congr_left fun i hi=>?_;have h1:=List.mem_range.1 hi;have h2:=congrArg (fun l=>l[i]?) hs;simp only[List.getElem?_map,List.getElem?_range h1,Option.map_some,Option.some.injEq] at h2;rw[h2]
 refine⟨fun w H W=>?_⟩;have W':SM.wf ⟨r,td,sl',hp⟩=true:=by
  unfold SM.wf at W⊢;simp only[Bool.and_eq_true] at W⊢;exact⟨hw,W.2⟩
 have g:=k.go w H W';unfold Gs at g⊢;dsimp only at g⊢;rw[e];exact g
end
end Go.Proofs.YtfbhemmpobgdpaaGreatDoor
namespace Go.Proofs.YtfbhemmpobgdpaaGreatDoor
open Go.RowKit Go.MapKept
def HG (p:Nat) (C:CL) (C':CS) (got send:List Int) (w:World):Ending->World->Prop:=fun e w'=>∃z:CL×(Option Addr×Nat)×Option Addr×Nat,e = .returned (.tuple #[.slice z.2.1.1 got.length z.2.1.2,.slice z.2.2.1 send.length z.2.2.2])/\Only (C.fp p) w w'/\(CAt p z.1 w'/\z.1.abs=C'/\AN cu8 5 1 w' 0 (.slice z.2.1.1 got.length z.2.1.2) got/\AN cu8 5 1 w' 0 (.slice z.2.2.1 send.length z.2.2.2) send)/\(∀y∈z.1.fp p++bkO z.2.2.1,y<w'.heap.size/\(y∈C.fp p\/w.heap.size<=y))/\(∀y∈bkO z.2.1.1,y<w'.heap.size/\(y∈C.fp p\/w.heap.size<=y)/\y∉z.1.fp p/\y∉bkO z.2.2.1)/\∀y∈bkO z.2.2.1,y∉z.1.fp p
theorem read_no (p:Nat) (C:CL) (i:Nat) (most:Int) (on:Bool) (w:World) (h:CAt p C w) (hx:C.R.xs[i]? = none) (hm:C.R.xs.length<=64) (hi:i<4294967296):Calls Tryz.prog 22 #[AD p,.int .u32 i,.int .i64 most,.bool on] w (HG p C C.abs [] [] w):=by
 have C0:=h.fx;refine Hs.en Tryz.func22 [] [] [] [.c (.v (AD p)),.c (.v (.int .u32 i)),.c (.v (.int .i64 most)),.c (.v (.bool on))] (Mem.start0 w) ?_;refine Hs.e0 ?_;refine Hs.cV (fun w' H=>findC p C i w' (C0.at H) (by omega) hi) ?_;rw[hx];refine Hs.e0 ?_;refine Hs.cT ?_;refine Hs.e0 ?_;exact Hs.rt (v:=.tuple #[.slice none 0 0,.slice none 0 0]) Tryz.func22 fun w' H=>⟨(C,(none,0),none,0),rfl,C0.fin H,⟨C0.at H,rfl,CN,CN⟩,fun y hy=>by
  have hy:y∈C.fp p:=by simpa[bkO] using hy
  exact⟨(C0.at H).lt y hy,.inl hy⟩,by simp[bkO],by simp[bkO]⟩
def JE (x:HM):List Nat:=bkO x.c.g0++(bkO x.c.g1++bkO x.c.an)
def SlAt (x:HM) (w:World):Prop:=AN cu8 5 1 w 0 (.slice x.c.g0 x.c.n0 x.c.c0) x.l0/\AN cu8 5 1 w 0 (.slice x.c.g1 x.c.n1 x.c.c1) x.l1/\AN cBo 4 1 w 0 (.slice x.c.an x.c.nn x.c.nc) x.al
theorem SlAt.st {x:HM}:StX (JE x) (SlAt x):=fun w w' hs he h=>⟨AI w w' hs (fun y hy=>he y (by simp[JE,hy])) h.1,AI w w' hs (fun y hy=>he y (by simp[JE,hy])) h.2.1,AI w w' hs (fun y hy=>he y (by simp[JE,hy])) h.2.2⟩
theorem DK {α:Type} {cf:α->List Value} {E size n c:Nat} {w:World} {A:Option Addr} {l:List α} (h:AN cf E size w 0 (.slice A n c) l):RdX cf w A l/\l.length<=c/\c<=maxLen:=by
 obtain⟨A',c',e,h1,h2,hr,_⟩:=h.form;injection e with e1 e2 e3;subst e1;subst e3;exact⟨hr,h1,h2⟩
theorem gQ (most:Int) (n:Nat):MJ most n<=n:=by
 unfold MJ ma0 mi;repeat' split
 all_goals omega
theorem gP (most:Int) (n:Nat):(if(if(n:Int)<most then(n:Int) else most)>0 then(if(n:Int)<most then(n:Int) else most) else 0)=(MJ most n:Int):=by
 unfold MJ ma0 mi;repeat' split
 all_goals omega
theorem SR (b:Nat) (x:CC) (w:World) (hB:Blk w b 94 x.cells):Calls Tryz.prog 53 #[AD b] w fun e w'=>e = .returned (.int .i64 (IntKind.i64.wrap ((x.n0:Int)+(x.n1:Int))))/\Only [] w w':=by
 refine Hs.en Tryz.func53 [] [b] [.b false 94 (ccS x)] [.c (.p 0 0)] (Mem.rdOne w b hB) ?_;refine Hs.e0 ?_;refine Hs.any [0] (by kernel_rfl) ?_;refine Hs.e0 ?_;exact Hs.rt (v:=.int .i64 (IntKind.i64.wrap ((x.n0:Int)+(x.n1:Int)))) Tryz.func53 fun w' H=>⟨rfl,H.only⟩
theorem mW_ok (chan win:Int) (hc:U32 chan) (hw:U32 win) (w:World):(mW chan win).ok w:=⟨RdG.nil,qL _,qO _,by simp[mW],⟨hc,z30,hw,z30,z30⟩,qO _,qO _⟩
theorem ND (l m n:Int):U32 (CU l m n).2:=by
 unfold CU;repeat' split
 all_goals first|exact z30|exact HQ _
theorem DZ {p:Nat} {K:CK} {sA:Option Addr} {M:WM}: ∀y∈AG p K none M,y∈AG p K sA M:=fun y hy=>by
 unfold AG at hy⊢;simp only[bkO,Option.map_none,Option.toList_none,List.nil_append,List.mem_append,qC] at hy⊢;rcases hy with h|h;·exact .inl h
 ·exact .inr (.inr h)
theorem YQ {p:Nat} {K:CK} {sA:Option Addr} {M:WM} (h:(AG p K sA M).Nodup): ∀y∈bkO sA,y∉AG p K none M:=fun y hy hm=>by
 unfold AG at h hm;rw[List.nodup_cons,qD] at h;rcases qC.1 hm with e|hm;·subst e;exact h.1 (qJ (.inl hy))
 ·exact h.2.2.2 y hy y (by simpa[bkO] using hm) rfl
theorem Fx.subO {w w1:World} {G L1 fp:List Nat} {Q:World->Prop} (C:Fx w G w1 L1 fp Q):Fx w G w1 L1 (bkO none) (fun w=>AN cu8 5 1 w 0 (.slice none ([]:List Int).length 0) ([]:List Int)):=C.sub (by simp[bkO]) (fun _=>CN) AI
theorem MK {p:Nat} {C:CL} {i:Nat} {x:HM} {w w1 w':World} {L1 β:List Nat} {hp:List HB} {sA' A1 A2 sO:Option Addr} {sc' c1 c2 k n2 cO:Nat} {said' l1 l2 send:List Int} {M':WM} {S':WS} {iL':Int} {C':CS} (h:CAt p C w) (hx:C.R.xs[i]? = some x)
  (CT:Fx w (AG p C.K C.sA C.M++x.fp) w1 L1 (AG p C.K sA' M') (TQ p C.K sA' sc' said' M' S')) (CS':Fx w (AG p C.K C.sA C.M++x.fp) w1 L1 (JE x) (SlAt x)) (CO:Fx w (AG p C.K C.sA C.M++x.fp) w1 L1 (bkO sO) (fun w=>AN cu8 5 1 w 0 (.slice sO send.length cO) send)) (H:Mem w1 L1 β hp w') (hro:PJ hp=true) (e0:nm β 0=x.b)
  (h0:hp[0]? = some (.b true 94 (ccS { x.c with iL:=iL',g0:=A2,n0:=n2,c0:=c2 }))) (h1:hp[1]? = some (.s A1 c1 k 5 1 (l1.flatMap cu8))) (h2:hp[2]? = some (.s A2 c2 n2 5 1 (l2.flatMap cu8))) (hl1:l1.length=k) (hl2:l2.length=n2)
  (hTS: ∀y∈AG p C.K sA' M',y∉JE x) (hTO: ∀y∈bkO sO,y∉AG p C.K sA' M'/\y∉JE x) (hT: ∀y∈AG p C.K sA' M',y∈AG p C.K C.sA C.M\/w.heap.size<=y) (hO: ∀y∈bkO sO,y∈AG p C.K C.sA C.M\/w.heap.size<=y)
  (hC : { C.abs with said:=said',S:=S',xs:=C.abs.xs.set i { x.abs with iL:=iL',l0:=l2 } }=C'):HG p C C' l1 send w (.returned (.tuple #[.slice A1 k c1,.slice sO send.length cO])) w':=by
 subst hl1;obtain⟨nd,sub⟩:=h.parts hx;have hA:=h.rst.xs x (qE hx);have hlt:=hA.lt;have hbx:x.b∈x.fp:=by simp[HM.fp]
 rw[qD] at nd;have ndx:=nd.2.1;unfold HM.fp at ndx;rw[List.nodup_cons,qD] at ndx;obtain⟨nb,n0,n1,n01⟩:=ndx;have hb2: ∀{A:Option Addr} {y:Nat} {c n:Nat} {vs:List Value},y∈bkO A->(HB.s A c n 5 1 vs).blk (nm β 0)=some y:=fun {A y c n vs} hy=>by
  unfold bkO at hy;rw[Option.mem_toList] at hy;exact hy
 have hB1: ∀{A:Option Addr} {y j:Nat} {c n:Nat} {vs:List Value},y∈bkO A->(HB.s A c n 5 1 vs).blk (nm β j)=some y:=fun {A y j c n vs} hy=>by
  unfold bkO at hy;rw[Option.mem_toList] at hy;exact hy
 have own: ∀{j:Nat} {z:HB} {y:Nat},hp[j]? = some z->z.wr=true->z.blk (nm β j)=some y->y<w'.heap.size/\(y∈AG p C.K C.sA C.M++x.fp\/w.heap.size<=y):=fun {j z y} hj hw hy=>by
  refine⟨HB.lies_lt (H.lies j z hj) hy,?_⟩;rcases H.own j z y hj hw hy with h4|h4;·exact CT.mem y h4
  ·exact .inr (Nat.le_trans CT.only.size h4)
 have blkb:Blk w' x.b 94 (CC.cells { x.c with iL:=iL',g0:=A2,n0:=n2,c0:=c2 }):=by rw[<-e0];exact H.lies 0 _ h0
 have b0:(HB.b true 94 (ccS { x.c with iL:=iL',g0:=A2,n0:=n2,c0:=c2 })).blk (nm β 0)=some x.b:=by rw[<-e0];rfl
 have a2b:x.b∉bkO A2:=fun hm=>by have:=H.inj 0 2 _ _ x.b h0 h2 b0 (hB1 hm);cases this
 have a1b:x.b∉bkO A1:=fun hm=>by have:=H.inj 0 1 _ _ x.b h0 h1 b0 (hB1 hm);cases this
 have a12: ∀y∈bkO A1,y∉bkO A2:=fun y hy hm=>by have:=H.inj 1 2 _ _ y h1 h2 (hB1 hy) (hB1 hm);cases this
 have apS: ∀{j:Nat} {z:HB} {y:Nat},hp[j]? = some z->z.blk (nm β j)=some y->y∉JE x:=fun hj hy=>CS'.apart H hro _ _ _ hj hy;have apT: ∀{j:Nat} {z:HB} {y:Nat},hp[j]? = some z->z.blk (nm β j)=some y->y∉AG p C.K sA' M':=fun hj hy=>CT.apart H hro _ _ _ hj hy;have apO: ∀{j:Nat} {z:HB} {y:Nat},hp[j]? = some z->z.blk (nm β j)=some y->y∉bkO sO:=fun hj hy=>CO.apart H hro _ _ _ hj hy;have sl:=CS'.at H;have hO2:=H.ownX (cf:=cu8) (l:=l2) 2 hl2 (A:=A2) (cap:=c2) (E:=5) (size:=1) h2;have hO1:=H.ownX (cf:=cu8) (l:=l1) 1 rfl (A:=A1) (cap:=c1) (E:=5) (size:=1) h1;have inS: ∀y∈JE x,y∈x.fp:=fun y hy=>by unfold HM.fp;exact List.mem_cons_of_mem _ hy
 have new2: ∀y∈bkO A2,y<w'.heap.size/\(y∈AG p C.K C.sA C.M++x.fp\/w.heap.size<=y):=fun y hy=>own h2 rfl (hB1 hy);have fpx:(⟨x.b,{ x.c with iL:=iL',g0:=A2,n0:=n2,c0:=c2 },l2,x.l1,x.al⟩:HM).fp=x.b::(bkO A2++(bkO x.c.g1++bkO x.c.an)):=rfl;have inS1: ∀y∈bkO x.c.g1++bkO x.c.an,y∈JE x:=fun y hy=>by unfold JE;exact qJ (.inr hy)
 have eS:=CT.at H |>.abs;subst eS;have:=CAt.put [] (by simp) h hx (x':=⟨x.b,{ x.c with iL:=iL',g0:=A2,n0:=n2,c0:=c2 },l2,x.l1,x.al⟩) (by rw[qN];exact CT.fin H) (CT.at H) ⟨blkb,by show AN cu8 5 1 w' 0 (.slice A2 n2 c2) l2;rw[<-hl2];rw[<-hl2] at hO2;exact hO2,sl.2.1,sl.2.2,hl2,hA.n1,hA.nn⟩ rfl (by
  rw[fpx,qD,List.nodup_cons,qD];refine⟨(CT.at H).nd,⟨fun hm=>?_,PZ _,n1,fun a ha b hb e=>?_⟩,fun a ha b hb e=>?_⟩
  ·rcases qK hm with hm|hm;·exact a2b hm
   ·exact nb (qJ (.inr hm))
  ·subst e;exact apS h2 (hB1 ha) (inS1 a hb)
  ·subst e;rcases qC.1 hb with e|hb;·exact apT h0 b0 (e ▸ ha)
   ·rcases qK hb with hb|hb;·exact apT h2 (hB1 hb) ha
    ·exact hTS a ha (inS1 a hb)) (fun y hy=>by
  rw[fpx] at hy;rcases qK hy with hy|hy;·exact⟨zT (CT.own y hy).1 H.only.size,(hT y hy).imp (fun h=>qJ (.inl h)) id⟩
  ·rcases qC.1 hy with e|hy;·rw[e];exact own h0 rfl b0
   ·rcases qK hy with hy|hy;·exact new2 y hy
    ·exact⟨zT (hlt y (inS y (inS1 y hy))) (CT.fin H).size,.inl (qJ (.inr (inS y (inS1 y hy))))⟩)
 rw[qN] at this;obtain⟨o1,o2,o3⟩:=this;have offz: ∀y:Nat,y∉AG p C.K sA' M'->y∉JE x->y≠x.b->y∉bkO A2->(y∉x.fp->y∉CB C.K C.R)->y∉(C.put i ⟨x.b,{ x.c with iL:=iL',g0:=A2,n0:=n2,c0:=c2 },l2,x.l1,x.al⟩ sA' sc' said' M').fp p:=fun y y1 y2 y3 y4 y5 hm=>by
  unfold CL.fp CL.put CB at hm;dsimp only at hm;have y6:=y5 (fun hm2=>by
   unfold HM.fp at hm2;rcases qC.1 hm2 with e|hm2;·exact y3 e
   ·exact y2 hm2)
  unfold CB at y6;rcases qK hm with hm|hm;·exact y1 hm
  ·rcases qK hm with hm|hm;·exact y6 (qJ (.inl hm))
   ·rcases qK hm with hm|hm;·exact y6 (qJ (.inr (qJ (.inl hm))))
    ·obtain⟨z,hz,hy⟩:=List.mem_flatMap.1 hm;rcases List.mem_or_eq_of_mem_set hz with hz|hz;·exact y6 (qJ (.inr (qJ (.inr (List.mem_flatMap.2 ⟨z,hz,hy⟩)))))
     ·subst hz;rw[fpx] at hy;rcases qC.1 hy with e|hy;·exact y3 e
      ·rcases qK hy with hy|hy;·exact y4 hy
       ·exact y2 (inS1 y hy)
 have rlt:=h.rst.lt;have tr: ∀y∈AG p C.K C.sA C.M,y∉CB C.K C.R:=fun y hy hm=>by
  have:=h.nd;unfold CL.fp at this;rw[qD] at this;exact this.2.2 y hy y hm rfl
 refine⟨(_,(A1,c1),sO,cO),rfl,o1,⟨o2,?_,hO1,CO.at H⟩,fun y hy=>?_,fun y hy=>?_,fun y hy=>?_⟩;·exact(VS (C:=C)).trans (Eq.trans rfl hC)
 ·rcases qK hy with hy|hy;·exact o3 y hy
  ·exact⟨zT (CO.own y hy).1 H.only.size,(hO y hy).imp (fun h=>sub y (qJ (.inl h))) id⟩
 ·have h4:=own h1 rfl (hB1 hy);refine⟨h4.1,h4.2.imp (sub y) id,offz y (apT h1 (hB1 hy)) (apS h1 (hB1 hy)) (fun e=>by subst e;exact a1b hy) (a12 y hy) (fun hn hm=>?_),apO h1 (hB1 hy)⟩;rcases h4.2 with h5|h5
  ·rcases qK h5 with h5|h5;·exact tr y h5 hm
   ·exact hn h5
  ·have:=rlt y hm;omega
 ·have h4:=hTO y hy;refine offz y h4.1 h4.2 (fun e=>by subst e;exact apO h0 b0 hy) (fun hm=>apO h2 (hB1 hm) hy) (fun _ hm=>?_);rcases hO y hy with h5|h5;·exact tr y h5 hm
  ·have:=rlt y hm;omega
theorem read_yes0 (p:Nat) (C:CL) (i:Nat) (most:Int) (x:HM) (w:World) (h:CAt p C w) (hx:C.R.xs[i]? = some x) (hi:i<4294967296) {N:Nat} (hok:COk N C.abs) (hN:N<=900000) (hsz:C.said.length<=10000000):Calls Tryz.prog 22 #[AD p,.int .u32 i,.int .i64 most,.bool false] w (HG p C (CH C.abs i most false).1 (CH C.abs i most false).2.1 (CH C.abs i most false).2.2 w):=by
 have hm:C.R.xs.length<=64:=by have:=hok.m;rw[show C.abs.xs=C.R.xs.map HM.abs from rfl,List.length_map] at this;exact this
 have hmem:=qE hx;have hxo:HOk N x.abs:=hok.xs _ (List.mem_map.2 ⟨x,hmem,rfl⟩);have hA:=h.rst.xs x hmem;obtain⟨nd,sub⟩:=h.parts hx;have nd':=nd;rw[qD] at nd';have hbx:x.b∈x.fp:=by simp[HM.fp]
 have ndx:=nd'.2.1;unfold HM.fp at ndx;rw[List.nodup_cons] at ndx;have hch:=h.rst.ch;have C0:Fx w (AG p C.K C.sA C.M++x.fp) w [x.b] (AG p C.K C.sA C.M) (TQ p C.K C.sA C.sc C.said C.M C.M.abs):=Fx.start (by simp[hbx]) h.tq (fun y hy=>⟨h.tq.lt y hy,fun hm=>by
  rw[qS] at hm;subst hm;exact SU h hx hy,qJ (.inl hy)⟩) TQ.st
 have S0:Fx w (AG p C.K C.sA C.M++x.fp) w [x.b] (JE x) (SlAt x):=Fx.start (by simp[hbx]) ⟨hA.o0,hA.o1,hA.oa⟩ (fun y hy=>by
  have hy2:y∈x.fp:=by unfold HM.fp;exact List.mem_cons_of_mem _ hy
  exact⟨hA.lt y hy2,fun hm=>by
   rw[qS] at hm;subst hm;exact ndx.1 hy,qJ (.inr hy2)⟩) SlAt.st
 have hB:=hA.blk;have hxl0:x.l0.length=x.c.n0:=hA.n0;have hxl1:x.l1.length=x.c.n1:=hA.n1;have hl0:x.l0.length<=N:=hxo.l.1;have hl1:x.l1.length<=N:=hxo.l.2.1;have hfind: ∀w',Only [x.b] w w'->TQ p C.K C.sA C.sc C.said C.M C.M.abs w'->Calls Tryz.prog 45 #[AD p,.int .u32 i] w' fun e w2=>e = .returned (AD x.b)/\Only [] w' w2:=fun w' O hT=>by
  have:=SY p C.K C.sA C.sc C.said.length (C.R.xs.map HM.b) i w' hT.blk (by
   have hr:=(DK hch).1;refine DX w w' O.size (fun y hy=>O.block y (PG hch y hy) fun hm=>?_) hr;rw[qS] at hm;subst hm;have:=h.nd;unfold CL.fp CB at this;rw[qD,qD,qD] at this;exact this.2.1.2.1.2.2 x.b hy x.b (List.mem_flatMap.2 ⟨x,hmem,hbx⟩) rfl) (by rw[List.length_map];exact h.rst.cn) (by have:=h.rst.cn;omega) hi
  rw[List.getElem?_map,hx] at this;exact this
 have hshut: ∀w',TQ p C.K C.sA C.sc C.said C.M C.M.abs w'->Calls Tryz.prog 25 #[AD p] w' fun e w2=>e = .returned (.bool (BO C.abs))/\Only [] w' w2:=fun w' hT=>OZ p C.K C.sA C.sc C.said.length C.M w' hT.blk hT.wat.blk;obtain⟨k,hk⟩:=qX (MJ most x.l0.length);have hkn:k<=x.c.n0:=by rw[<-hk,hxl0];exact gQ _ _
 have hkv:Value.int .i64 (if(if(x.c.n0:Int)<most then(x.c.n0:Int) else most)>0 then(if(x.c.n0:Int)<most then(x.c.n0:Int) else most) else 0)=Value.int .i64 (k:Int):=by rw[<-hk,hxl0,gP]
 have htk:(x.l0.take k).length=k:=by rw[List.length_take];omega
 have hdk:(x.l0.drop k).length=x.c.n0-k:=by rw[List.length_drop];omega
 have hrd: ∀w',SlAt x w'->RdX cu8 w' x.c.g0 x.l0:=fun w' hs=>(DK hs.1).1;have hcap:x.c.n0<=x.c.c0:=by have:=(DK hA.o0).2.1;omega
 have hxs:C.abs.xs[i]? = some x.abs:=by rw[show C.abs.xs=C.R.xs.map HM.abs from rfl,List.getElem?_map,hx];rfl
 have hsd:upC C.abs x.abs=false->CH C.abs i most false=({ C.abs with xs:=C.abs.xs.set i { x.abs with l0:=x.l0.drop k } },x.l0.take k,[]):=fun hu=>by
  unfold upC at hu;have hu:(BO C.abs || !decide (x.abs.st=2)||x.abs.clo)=true:=by
   cases hb:(BO C.abs || !decide (x.abs.st=2)||x.abs.clo) with
   |true=>rfl
   |false=>rw[hb] at hu;cases hu
  unfold CH;rw[hxs];dsimp only;rw[if_pos hu];show _=({ C.abs with xs:=C.abs.xs.set i { x.abs with l0:=x.l0.drop k } },x.l0.take k,[]);rw[<-hk];rfl
 obtain⟨fl,fm,hf⟩: ∃fl fm,CU x.c.iL x.c.iM (IntKind.i64.wrap (((x.c.n0-k:Nat):Int)+(x.c.n1:Int)))=(fl,fm):=⟨_,_,rfl⟩;have hrf: ∀w',Calls Tryz.prog 52 #[.agg #[.int .u32 x.c.iL,.int .u32 x.c.iM],.int .i64 (IntKind.i64.wrap (((x.c.n0-k:Nat):Int)+(x.c.n1:Int)))] w' fun e w2=>e = .returned (.tuple #[.agg #[.int .u32 fl,.int .u32 x.c.iM],.int .u32 fm])/\Only [] w' w2:=fun w'=>by
  have:=YB x.c.iL x.c.iM (IntKind.i64.wrap (((x.c.n0-k:Nat):Int)+(x.c.n1:Int))) w';rw[hf] at this;exact this
 have hfw:CU x.c.iL x.c.iM ((x.l0.drop k).length+x.l1.length)=(fl,fm):=by
  rw[<-hf,hdk,hxl1,IntWalk.i64_in _ (by omega)]
 have hup1:upC C.abs x.abs=true->fm>0->CH C.abs i most false=({ C.abs with said:=[],S:=CW C.M.abs (mW x.c.server fm),xs:=C.abs.xs.set i { x.abs with iL:=fl,l0:=x.l0.drop k } },x.l0.take k,BN C.said (mW x.c.server fm)):=fun hu hp=>by
  have hu:(BO C.abs || !decide (x.abs.st=2)||x.abs.clo)=false:=by
   unfold upC at hu;cases hb:(BO C.abs || !decide (x.abs.st=2)||x.abs.clo) with
   |true=>rw[hb] at hu;cases hu
   |false=>rfl
  unfold CH;rw[hxs];dsimp only;rw[if_neg (by rw[hu];decide)];simp only[Bool.false_eq_true,if_false];have e2:MJ most x.abs.l0.length=k:=hk;rw[e2];have e3:CU x.abs.iL x.abs.iM ((x.abs.l0.drop k).length+x.abs.l1.length)=(fl,fm):=hfw;rw[e3];rw[if_pos hp];show(_:CS×List Int×List Int)=_;kernel_rfl
 have hup0:upC C.abs x.abs=true->¬fm>0->CH C.abs i most false=({ C.abs with said:=[],xs:=C.abs.xs.set i { x.abs with l0:=x.l0.drop k } },x.l0.take k,C.said):=fun hu hp=>by
  have hu:(BO C.abs || !decide (x.abs.st=2)||x.abs.clo)=false:=by
   unfold upC at hu;cases hb:(BO C.abs || !decide (x.abs.st=2)||x.abs.clo) with
   |true=>rw[hb] at hu;cases hu
   |false=>rfl
  unfold CH;rw[hxs];dsimp only;rw[if_neg (by rw[hu];decide)];simp only[Bool.false_eq_true,if_false];have e2:MJ most x.abs.l0.length=k:=hk;rw[e2];have e3:CU x.abs.iL x.abs.iM ((x.abs.l0.drop k).length+x.abs.l1.length)=(fl,fm):=hfw;rw[e3];rw[if_neg hp];show(_:CS×List Int×List Int)=_;kernel_rfl
 have hTS0: ∀y∈AG p C.K C.sA C.M,y∉JE x:=fun y hy hm=>nd'.2.2 y hy y (by unfold HM.fp;exact List.mem_cons_of_mem _ hm) rfl;obtain⟨b,hb⟩:=qX x.b;rw[hb] at C0 S0 hB hfind;obtain⟨R,hR⟩:=qX (HG p C (CH C.abs i most false).1 (CH C.abs i most false).2.1 (CH C.abs i most false).2.2 w);rw[hR];refine Hs.en Tryz.func22 [b] [b] [.b true 94 (ccS x.c)] [.c (.v (AD p)),.c (.v (.int .u32 i)),.c (.v (.int .i64 most)),.c (.v (.bool false))] (Mem.one w b hB) ?_;refine Hs.e0 ?_;refine Hs.cV (fun w' H=>hfind w' H.only (C0.at H)) ?_;refine Hs.slot 17 (.c (.p 0 0)) (by kernel_rfl) (by kernel_rfl) ?_;refine Hs.e0 ?_;refine Hs.cF ?_;refine Hs.e0 ?_;refine Hs.cF ?_;refine Hs.e0 ?_;refine Hs.slot 12 (.c (.v (.int .i64 (k:Int)))) rfl ((by kernel_rfl:_=Value.int .i64 (if(if(x.c.n0:Int)<most then(x.c.n0:Int) else most)>0 then(if(x.c.n0:Int)<most then(x.c.n0:Int) else most) else 0)).trans hkv) ?_;refine Hs.any [0,1015] (by kernel_rfl) ?_;refine Hs.e0 ?_;refine Hs.takeHi 5 (rd:=[0]) (A:=x.c.g0) (len:=x.c.n0) (cap:=x.c.c0) (i:=k) CY (by omega) (by kernel_rfl) ?_;refine Hs.takeLo 11 (rd:=[0]) (A:=x.c.g0) (len:=x.c.n0) (cap:=x.c.c0) (i:=k) CY (by omega) (by kernel_rfl) ?_;refine Hs.e0 ?_;refine Hs.callS (cf:=cu8) (E:=5) (size:=1) (fun A cap=>.slice A k cap) (x.l0.take k) k htk (fun w' H=>by
  have:=FH (x.l0.take k) (hiA 1 x.c.g0 x.c.c0) x.c.c0 w' (rdX_hi BT (hrd w' (S0.at H)) (by omega)) (by omega);rw[htk] at this;exact this) (by kernel_rfl) (by kernel_rfl) fun A1 c1 g1 g2=>?_
 refine Hs.e0 ?_;refine Hs.callS (cf:=cu8) (E:=5) (size:=1) (fun A cap=>.slice A (x.c.n0-k) cap) (x.l0.drop k) (x.c.n0-k) hdk (fun w' H=>by
  have:=FH (x.l0.drop k) (loA 1 x.c.g0 k x.c.c0) (x.c.c0-k) w' (OG BT (hrd w' (S0.at H)) (by omega) (by omega)) (by omega);rw[hdk] at this;exact this) (by kernel_rfl) (by kernel_rfl) fun A2 c2 g3 g4=>?_
 refine Hs.e0 ?_;refine Hs.cV (fun w' H=>hshut w' (C0.at H)) ?_;refine Hs.e0 ?_;refine Hs.bool 52 (BO C.abs) (by kernel_rfl) (fun h1=>?_) (fun h1=>?_)
 ·refine Hs.eg [2,9] ?_;refine Hs.cT ?_;refine Hs.e0 ?_;exact Hs.rt (v:=.tuple #[.slice A1 k c1,.slice none 0 0]) Tryz.func22 fun w' H=>by
   rw[<-hR,hsd (by unfold upC;rw[h1];rfl)];exact MK (A2:=A2) (c2:=c2) (n2:=x.c.n0-k) (A1:=A1) (c1:=c1) (l1:=x.l0.take k) (send:=[]) (cO:=0) (sO:=none) (k:=k) (iL':=x.c.iL) (l2:=x.l0.drop k) h hx C0 S0 (Fx.subO C0) H (by kernel_rfl) hb.symm (by kernel_rfl) (by kernel_rfl) (by kernel_rfl) htk hdk hTS0 (by simp[bkO]) (fun y hy=>.inl hy) (by simp[bkO]) rfl
 refine Hs.eg [2] ?_;refine Hs.bool 59 (!decide (x.c.st=2)) (by kernel_rfl) (fun h2=>?_) (fun h2=>?_)
 ·refine Hs.eg [2,9] ?_;refine Hs.cT ?_;refine Hs.e0 ?_;exact Hs.rt (v:=.tuple #[.slice A1 k c1,.slice none 0 0]) Tryz.func22 fun w' H=>by
   rw[<-hR,hsd (by unfold upC;rw[h1];show(!(false || !decide (x.c.st=2)||x.c.clo))=false;rw[h2];rfl)];exact MK (A2:=A2) (c2:=c2) (n2:=x.c.n0-k) (A1:=A1) (c1:=c1) (l1:=x.l0.take k) (send:=[]) (cO:=0) (sO:=none) (k:=k) (iL':=x.c.iL) (l2:=x.l0.drop k) h hx C0 S0 (Fx.subO C0) H (by kernel_rfl) hb.symm (by kernel_rfl) (by kernel_rfl) (by kernel_rfl) htk hdk hTS0 (by simp[bkO]) (fun y hy=>.inl hy) (by simp[bkO]) rfl
 refine Hs.eg [2,9] ?_;refine Hs.cn x.c.clo (fun h3=>?_) (fun h3=>?_)
 ·refine Hs.e0 ?_;exact Hs.rt (v:=.tuple #[.slice A1 k c1,.slice none 0 0]) Tryz.func22 fun w' H=>by
   rw[<-hR,hsd (by unfold upC;rw[h1];show(!(false || !decide (x.c.st=2)||x.c.clo))=false;rw[h2,h3];rfl)];exact MK (A2:=A2) (c2:=c2) (n2:=x.c.n0-k) (A1:=A1) (c1:=c1) (l1:=x.l0.take k) (send:=[]) (cO:=0) (sO:=none) (k:=k) (iL':=x.c.iL) (l2:=x.l0.drop k) h hx C0 S0 (Fx.subO C0) H (by kernel_rfl) hb.symm (by kernel_rfl) (by kernel_rfl) (by kernel_rfl) htk hdk hTS0 (by simp[bkO]) (fun y hy=>.inl hy) (by simp[bkO]) rfl
 have hup:upC C.abs x.abs=true:=by unfold upC;rw[h1];show(!(false || !decide (x.c.st=2)||x.c.clo))=true;rw[h2,h3];rfl
 refine Hs.e0 ?_;refine Hs.any [0] (by kernel_rfl) ?_;refine Hs.e0 ?_;apply Hs.share1 (β':=[b]++[0]++[0])
 ·intro K;refine Hs.branch2 5 10 (by kernel_rfl) ?_ ?_
  ·refine Hs.cV (fun w' H=>SR b { x.c with g0:=A2,n0:=x.c.n0-k,c0:=c2 } w' (H.at 0 (wr:=true) (T:=94) (cs:=ccS { x.c with g0:=A2,n0:=x.c.n0-k,c0:=c2 }) (by kernel_rfl))) ?_;refine Hs.e0 ?_;refine Hs.branch2 6 10 (by kernel_rfl) ?_ ?_
   ·refine Hs.cV (fun w' H=>hrf w') ?_;refine Hs.e1 fun b13=>?_;exact K b13
   ·refine Hs.e1 fun b13=>?_;refine Hs.cV (fun w' H=>hrf w') ?_;refine Hs.e0 ?_;exact Hs.eqM (K b13) (by kernel_rfl) (by kernel_rfl)
  ·refine Hs.e1 fun b13=>?_;refine Hs.cV (fun w' H=>SR b { x.c with g0:=A2,n0:=x.c.n0-k,c0:=c2 } w' (H.at 0 (wr:=true) (T:=94) (cs:=ccS { x.c with g0:=A2,n0:=x.c.n0-k,c0:=c2 }) (by kernel_rfl))) ?_;refine Hs.e0 ?_;refine Hs.cV (fun w' H=>hrf w') ?_;refine Hs.e0 ?_;exact Hs.eqM (K b13) (by kernel_rfl) (by kernel_rfl)
 intro b13;refine Hs.cP (fm>0) (fun h4=>?_) (fun h4=>?_)
 ·have hfm:U32 fm:=by
   have:=ND x.c.iL x.c.iM (IntKind.i64.wrap (((x.c.n0-k:Nat):Int)+(x.c.n1:Int)));rw[hf] at this;exact this
  refine Hs.e0 ?_;refine Hs.callFxB (X:=(Option Addr×Nat)×WM) (fun _=>.tuple #[]) (fun z=>AG p C.K z.1.1 z.2) (fun z=>TQ p C.K z.1.1 z.1.2 (BN C.said (mW x.c.server fm)) z.2 (CW C.M.abs (mW x.c.server fm))) C0 (fun w' H hq=>KG p C.K C.sA C.sc C.said C.M C.M.abs (mW x.c.server fm) w' hq (fun w2 O2=>mW_ok x.c.server fm hxo.n.1 hfm w2) (qO _) (qO _) (fun o ho=>Nat.le_trans (hok.w.op o ho).2 (by omega)) (by omega)) (by kernel_rfl) (by kernel_rfl) fun z w3 L3 C3 hn3 mv3=>?_;obtain⟨⟨sA3,sc3⟩,M3⟩:=z;have S3:=mv3 _ _ S0 (fun y hy hm=>hTS0 y hm hy);dsimp only at C3 hn3;have hTS3: ∀y∈AG p C.K sA3 M3,y∉JE x:=fun y hy hm=>(hn3 y hy).elim (fun h=>hTS0 y h hm) (fun h=>by have:=hA.lt y (by unfold HM.fp;exact List.mem_cons_of_mem _ hm);omega);have hnd4:=C3.now.nd;have hin4: ∀y∈AG p C.K sA3 M3,y∈AG p C.K C.sA C.M\/w.heap.size<=y:=hn3;refine Hs.e0 ?_;refine Hs.callFx (X:=Unit) (fun _=>.slice sA3 (BN C.said (mW x.c.server fm)).length sc3) (fun _=>AG p C.K none M3++bkO sA3) (fun _ w2=>TQ p C.K none 0 [] M3 (CW C.M.abs (mW x.c.server fm)) w2/\AN cu8 5 1 w2 0 (.slice sA3 (BN C.said (mW x.c.server fm)).length sc3) (BN C.said (mW x.c.server fm))) C3 (fun w' H hq=>(HC p C.K sA3 sc3 (BN C.said (mW x.c.server fm)) M3 (CW C.M.abs (mW x.c.server fm)) w' hq).mono fun e w2 ⟨h1,h2,h3,h4⟩=>⟨(),h1,h2.mono (by simp[AG]),⟨h3,h4⟩,StX.and TQ.st AI,fun y hy=>by
   rcases qK hy with hy|hy
   ·have hy2:y∈AG p C.K sA3 M3:=DZ y hy;exact⟨zT (hq.lt y hy2) h2.size,.inl hy2⟩
   ·have hy2:y∈AG p C.K sA3 M3:=by simp[AG,hy]
    exact⟨zT (hq.lt y hy2) h2.size,.inl hy2⟩⟩) (by kernel_rfl) (by kernel_rfl) (by kernel_rfl) fun _ w4 L4 C4 _ mv4=>?_
  have S4:=mv4 _ _ S3 (fun y hy hm=>hTS3 y hm hy);refine Hs.e0 ?_;exact Hs.rt (v:=.tuple #[.slice A1 k c1,.slice sA3 (BN C.said (mW x.c.server fm)).length sc3]) Tryz.func22 fun w' H=>by
   rw[<-hR,hup1 hup h4];exact MK (A2:=A2) (c2:=c2) (n2:=x.c.n0-k) (A1:=A1) (c1:=c1) (l1:=x.l0.take k) (send:=(BN C.said (mW x.c.server fm))) (cO:=sc3) (sO:=sA3) (k:=k) (iL':=fl) (l2:=x.l0.drop k) h hx (C4.sub (fun y hy=>qJ (.inl hy)) (fun h=>h.1) TQ.st) S4 (C4.sub (fun y hy=>qJ (.inr hy)) (fun h=>h.2) AI) H (by kernel_rfl) hb.symm (by kernel_rfl) (by kernel_rfl) (by kernel_rfl) htk hdk (fun y hy=>hTS3 y (DZ y hy)) (fun y hy=>⟨YQ hnd4 y hy,hTS3 y (by simp[AG,hy])⟩) (fun y hy=>hin4 y (DZ y hy)) (fun y hy=>hin4 y (by simp[AG,hy])) rfl
 ·have hnd4:=h.tq.nd;have hin4: ∀y∈AG p C.K C.sA C.M,y∈AG p C.K C.sA C.M\/w.heap.size<=y:=fun y hy=>.inl hy;refine Hs.e0 ?_;refine Hs.callFx (X:=Unit) (fun _=>.slice C.sA C.said.length C.sc) (fun _=>AG p C.K none C.M++bkO C.sA) (fun _ w2=>TQ p C.K none 0 [] C.M C.M.abs w2/\AN cu8 5 1 w2 0 (.slice C.sA C.said.length C.sc) C.said) C0 (fun w' H hq=>(HC p C.K C.sA C.sc C.said C.M C.M.abs w' hq).mono fun e w2 ⟨h1,h2,h3,h4⟩=>⟨(),h1,h2.mono (by simp[AG]),⟨h3,h4⟩,StX.and TQ.st AI,fun y hy=>by
   rcases qK hy with hy|hy
   ·have hy2:y∈AG p C.K C.sA C.M:=DZ y hy;exact⟨zT (hq.lt y hy2) h2.size,.inl hy2⟩
   ·have hy2:y∈AG p C.K C.sA C.M:=by simp[AG,hy]
    exact⟨zT (hq.lt y hy2) h2.size,.inl hy2⟩⟩) (by kernel_rfl) (by kernel_rfl) (by kernel_rfl) fun _ w4 L4 C4 _ mv4=>?_
  have S4:=mv4 _ _ S0 (fun y hy hm=>hTS0 y hm hy);refine Hs.e0 ?_;exact Hs.rt (v:=.tuple #[.slice A1 k c1,.slice C.sA C.said.length C.sc]) Tryz.func22 fun w' H=>by
   rw[<-hR,hup0 hup h4];exact MK (A2:=A2) (c2:=c2) (n2:=x.c.n0-k) (A1:=A1) (c1:=c1) (l1:=x.l0.take k) (send:=C.said) (cO:=C.sc) (sO:=C.sA) (k:=k) (iL':=x.c.iL) (l2:=x.l0.drop k) h hx (C4.sub (fun y hy=>qJ (.inl hy)) (fun h=>h.1) TQ.st) S4 (C4.sub (fun y hy=>qJ (.inr hy)) (fun h=>h.2) AI) H (by kernel_rfl) hb.symm (by kernel_rfl) (by kernel_rfl) (by kernel_rfl) htk hdk (fun y hy=>hTS0 y (DZ y hy)) (fun y hy=>⟨YQ hnd4 y hy,hTS0 y (by simp[AG,hy])⟩) (fun y hy=>hin4 y (DZ y hy)) (fun y hy=>hin4 y (by simp[AG,hy])) rfl
end Go.Proofs.YtfbhemmpobgdpaaGreatDoor
