/- ClientSends: lemmas, from 'Layer 30: bytes are read that came beside (printed by cmC.py' on; what each asks for stands in it. -/
import Derived.Test.YtfbhemmpobgdpaaGreatDoorCsO
import Derived.Test.YtfbhemmpobgdpaaGreatDoorCsJ
import Derived.Test.YtfbhemmpobgdpaaGreatDoorCsN
set_option linter.all false
set_option maxRecDepth 100000
set_option maxHeartbeats 64000000
namespace Go.Proofs.YtfbhemmpobgdpaaGreatDoor
open Go.RowKit Go.MapKept
theorem ML {p:Nat} {C:CL} {i:Nat} {x:HM} {w w1 w':World} {L1 β:List Nat} {hp:List HB} {sA' A1 A2 sO:Option Addr} {sc' c1 c2 k n2 cO:Nat} {said' l1 l2 send:List Int} {M':WM} {S':WS} {iL':Int} {C':CS} (h:CAt p C w) (hx:C.R.xs[i]? = some x)
  (CT:Fx w (AG p C.K C.sA C.M++x.fp) w1 L1 (AG p C.K sA' M') (TQ p C.K sA' sc' said' M' S')) (CS':Fx w (AG p C.K C.sA C.M++x.fp) w1 L1 (JE x) (SlAt x)) (CO:Fx w (AG p C.K C.sA C.M++x.fp) w1 L1 (bkO sO) (fun w=>AN cu8 5 1 w 0 (.slice sO send.length cO) send)) (H:Mem w1 L1 β hp w') (hro:PJ hp=true) (e0:nm β 0=x.b)
  (h0:hp[0]? = some (.b true 94 (ccS { x.c with iL:=iL',g1:=A2,n1:=n2,c1:=c2 }))) (h1:hp[1]? = some (.s A1 c1 k 5 1 (l1.flatMap cu8))) (h2:hp[2]? = some (.s A2 c2 n2 5 1 (l2.flatMap cu8))) (hl1:l1.length=k) (hl2:l2.length=n2)
  (hTS: ∀y∈AG p C.K sA' M',y∉JE x) (hTO: ∀y∈bkO sO,y∉AG p C.K sA' M'/\y∉JE x) (hT: ∀y∈AG p C.K sA' M',y∈AG p C.K C.sA C.M\/w.heap.size<=y) (hO: ∀y∈bkO sO,y∈AG p C.K C.sA C.M\/w.heap.size<=y)
  (hC : { C.abs with said:=said',S:=S',xs:=C.abs.xs.set i { x.abs with iL:=iL',l1:=l2 } }=C'):HG p C C' l1 send w (.returned (.tuple #[.slice A1 k c1,.slice sO send.length cO])) w':=by
 subst hl1;obtain⟨nd,sub⟩:=h.parts hx;have hA:=h.rst.xs x (qE hx);have hlt:=hA.lt;have hbx:x.b∈x.fp:=by simp[HM.fp]
 rw[qD] at nd;have ndx:=nd.2.1;unfold HM.fp at ndx;rw[(List.Perm.cons x.b (List.perm_append_comm_assoc (bkO x.c.g0) (bkO x.c.g1) (bkO x.c.an))).nodup_iff,List.nodup_cons,qD] at ndx;obtain⟨nb,n0,n1,n01⟩:=ndx;have hb2: ∀{A:Option Addr} {y:Nat} {c n:Nat} {vs:List Value},y∈bkO A->(HB.s A c n 5 1 vs).blk (nm β 0)=some y:=fun {A y c n vs} hy=>by
  unfold bkO at hy;rw[Option.mem_toList] at hy;exact hy
 have hB1: ∀{A:Option Addr} {y j:Nat} {c n:Nat} {vs:List Value},y∈bkO A->(HB.s A c n 5 1 vs).blk (nm β j)=some y:=fun {A y j c n vs} hy=>by
  unfold bkO at hy;rw[Option.mem_toList] at hy;exact hy
 have own: ∀{j:Nat} {z:HB} {y:Nat},hp[j]? = some z->z.wr=true->z.blk (nm β j)=some y->y<w'.heap.size/\(y∈AG p C.K C.sA C.M++x.fp\/w.heap.size<=y):=fun {j z y} hj hw hy=>by
  refine⟨HB.lies_lt (H.lies j z hj) hy,?_⟩;rcases H.own j z y hj hw hy with h4|h4;·exact CT.mem y h4
  ·exact .inr (Nat.le_trans CT.only.size h4)
 have blkb:Blk w' x.b 94 (CC.cells { x.c with iL:=iL',g1:=A2,n1:=n2,c1:=c2 }):=by rw[<-e0];exact H.lies 0 _ h0
 have b0:(HB.b true 94 (ccS { x.c with iL:=iL',g1:=A2,n1:=n2,c1:=c2 })).blk (nm β 0)=some x.b:=by rw[<-e0];rfl
 have a2b:x.b∉bkO A2:=fun hm=>by have:=H.inj 0 2 _ _ x.b h0 h2 b0 (hB1 hm);cases this
 have a1b:x.b∉bkO A1:=fun hm=>by have:=H.inj 0 1 _ _ x.b h0 h1 b0 (hB1 hm);cases this
 have a12: ∀y∈bkO A1,y∉bkO A2:=fun y hy hm=>by have:=H.inj 1 2 _ _ y h1 h2 (hB1 hy) (hB1 hm);cases this
 have apS: ∀{j:Nat} {z:HB} {y:Nat},hp[j]? = some z->z.blk (nm β j)=some y->y∉JE x:=fun hj hy=>CS'.apart H hro _ _ _ hj hy;have apT: ∀{j:Nat} {z:HB} {y:Nat},hp[j]? = some z->z.blk (nm β j)=some y->y∉AG p C.K sA' M':=fun hj hy=>CT.apart H hro _ _ _ hj hy;have apO: ∀{j:Nat} {z:HB} {y:Nat},hp[j]? = some z->z.blk (nm β j)=some y->y∉bkO sO:=fun hj hy=>CO.apart H hro _ _ _ hj hy;have sl:=CS'.at H;have hO2:=H.ownX (cf:=cu8) (l:=l2) 2 hl2 (A:=A2) (cap:=c2) (E:=5) (size:=1) h2;have hO1:=H.ownX (cf:=cu8) (l:=l1) 1 rfl (A:=A1) (cap:=c1) (E:=5) (size:=1) h1;have inS: ∀y∈JE x,y∈x.fp:=fun y hy=>by unfold HM.fp;exact List.mem_cons_of_mem _ hy
 have new2: ∀y∈bkO A2,y<w'.heap.size/\(y∈AG p C.K C.sA C.M++x.fp\/w.heap.size<=y):=fun y hy=>own h2 rfl (hB1 hy);have fpx:(⟨x.b,{ x.c with iL:=iL',g1:=A2,n1:=n2,c1:=c2 },x.l0,l2,x.al⟩:HM).fp=x.b::(bkO x.c.g0++(bkO A2++bkO x.c.an)):=rfl;have hperm:(x.b::(bkO x.c.g0++(bkO A2++bkO x.c.an))).Perm (x.b::(bkO A2++(bkO x.c.g0++bkO x.c.an))):=List.Perm.cons _ (List.perm_append_comm_assoc ..);have inS1: ∀y∈bkO x.c.g0++bkO x.c.an,y∈JE x:=fun y hy=>by
  unfold JE;rcases qK hy with hy|hy;·exact qJ (.inl hy)
  ·exact qJ (.inr (qJ (.inr hy)))
 have eS:=CT.at H |>.abs;subst eS;have:=CAt.put [] (by simp) h hx (x':=⟨x.b,{ x.c with iL:=iL',g1:=A2,n1:=n2,c1:=c2 },x.l0,l2,x.al⟩) (by rw[qN];exact CT.fin H) (CT.at H) ⟨blkb,sl.1,by show AN cu8 5 1 w' 0 (.slice A2 n2 c2) l2;rw[<-hl2];rw[<-hl2] at hO2;exact hO2,sl.2.2,hA.n0,hl2,hA.nn⟩ rfl (by
  rw[fpx,qD,hperm.nodup_iff,List.nodup_cons,qD];refine⟨(CT.at H).nd,⟨fun hm=>?_,PZ _,n1,fun a ha b hb e=>?_⟩,fun a ha b hb e=>?_⟩
  ·rcases qK hm with hm|hm;·exact a2b hm
   ·exact nb (qJ (.inr hm))
  ·subst e;exact apS h2 (hB1 ha) (inS1 a hb)
  ·subst e;rw[hperm.mem_iff] at hb;rcases qC.1 hb with e|hb;·exact apT h0 b0 (e ▸ ha)
   ·rcases qK hb with hb|hb;·exact apT h2 (hB1 hb) ha
    ·exact hTS a ha (inS1 a hb)) (fun y hy=>by
  rw[fpx] at hy;rcases qK hy with hy|hy;·exact⟨zT (CT.own y hy).1 H.only.size,(hT y hy).imp (fun h=>qJ (.inl h)) id⟩
  ·rw[hperm.mem_iff] at hy;rcases qC.1 hy with e|hy;·rw[e];exact own h0 rfl b0
   ·rcases qK hy with hy|hy;·exact new2 y hy
    ·exact⟨zT (hlt y (inS y (inS1 y hy))) (CT.fin H).size,.inl (qJ (.inr (inS y (inS1 y hy))))⟩)
 rw[qN] at this;obtain⟨o1,o2,o3⟩:=this;have offz: ∀y:Nat,y∉AG p C.K sA' M'->y∉JE x->y≠x.b->y∉bkO A2->(y∉x.fp->y∉CB C.K C.R)->y∉(C.put i ⟨x.b,{ x.c with iL:=iL',g1:=A2,n1:=n2,c1:=c2 },x.l0,l2,x.al⟩ sA' sc' said' M').fp p:=fun y y1 y2 y3 y4 y5 hm=>by
  unfold CL.fp CL.put CB at hm;dsimp only at hm;have y6:=y5 (fun hm2=>by
   unfold HM.fp at hm2;rcases qC.1 hm2 with e|hm2;·exact y3 e
   ·exact y2 hm2)
  unfold CB at y6;rcases qK hm with hm|hm;·exact y1 hm
  ·rcases qK hm with hm|hm;·exact y6 (qJ (.inl hm))
   ·rcases qK hm with hm|hm;·exact y6 (qJ (.inr (qJ (.inl hm))))
    ·obtain⟨z,hz,hy⟩:=List.mem_flatMap.1 hm;rcases List.mem_or_eq_of_mem_set hz with hz|hz;·exact y6 (qJ (.inr (qJ (.inr (List.mem_flatMap.2 ⟨z,hz,hy⟩)))))
     ·subst hz;rw[fpx,hperm.mem_iff] at hy;rcases qC.1 hy with e|hy;·exact y3 e
      ·rcases qK hy with hy|hy;·exact y4 hy
       ·exact y2 (inS1 y hy)
 have rlt:=h.rst.lt;have tr: ∀y∈AG p C.K C.sA C.M,y∉CB C.K C.R:=fun y hy hm=>by
  have:=h.nd;unfold CL.fp at this;rw[qD] at this;exact this.2.2 y hy y hm rfl
 refine⟨(_,(A1,c1),sO,cO),rfl,o1,⟨o2,?_,hO1,CO.at H⟩,fun y hy=>?_,fun y hy=>?_,fun y hy=>?_⟩;·exact(VS (C:=C)).trans (Eq.trans rfl hC)
 ·rcases qK hy with hy|hy;·exact o3 y hy
  ·exact⟨zT (CO.own y hy).1 H.only.size,(hO y hy).imp (fun h=>sub y (qJ (.inl h))) id⟩
 ·have h4:=own h1 rfl (hB1 hy);refine⟨h4.1,h4.2.imp (sub y) id,offz y (apT h1 (hB1 hy)) (apS h1 (hB1 hy)) (fun e=>by subst e;exact a1b hy) (a12 y hy) (fun hn hm=>?_),apO h1 (hB1 hy)⟩;rcases h4.2 with h5|h5
  ·rcases qK h5 with h5|h5;·exact tr y h5 hm
   ·exact hn h5
  ·have:=rlt y hm;omega
 ·have h4:=hTO y hy;refine offz y h4.1 h4.2 (fun e=>by subst e;exact apO h0 b0 hy) (fun hm=>apO h2 (hB1 hm) hy) (fun _ hm=>?_);rcases hO y hy with h5|h5;·exact tr y h5 hm
  ·have:=rlt y hm;omega
theorem read_yes1 (p:Nat) (C:CL) (i:Nat) (most:Int) (x:HM) (w:World) (h:CAt p C w) (hx:C.R.xs[i]? = some x) (hi:i<4294967296) {N:Nat} (hok:COk N C.abs) (hN:N<=900000) (hsz:C.said.length<=10000000):Calls Tryz.prog 22 #[AD p,.int .u32 i,.int .i64 most,.bool true] w (HG p C (CH C.abs i most true).1 (CH C.abs i most true).2.1 (CH C.abs i most true).2.2 w):=by
 have hm:C.R.xs.length<=64:=by have:=hok.m;rw[show C.abs.xs=C.R.xs.map HM.abs from rfl,List.length_map] at this;exact this
 have hmem:=qE hx;have hxo:HOk N x.abs:=hok.xs _ (List.mem_map.2 ⟨x,hmem,rfl⟩);have hA:=h.rst.xs x hmem;obtain⟨nd,sub⟩:=h.parts hx;have nd':=nd;rw[qD] at nd';have hbx:x.b∈x.fp:=by simp[HM.fp]
 have ndx:=nd'.2.1;unfold HM.fp at ndx;rw[List.nodup_cons] at ndx;have hch:=h.rst.ch;have C0:Fx w (AG p C.K C.sA C.M++x.fp) w [x.b] (AG p C.K C.sA C.M) (TQ p C.K C.sA C.sc C.said C.M C.M.abs):=Fx.start (by simp[hbx]) h.tq (fun y hy=>⟨h.tq.lt y hy,fun hm=>by
  rw[qS] at hm;subst hm;exact SU h hx hy,qJ (.inl hy)⟩) TQ.st
 have S0:Fx w (AG p C.K C.sA C.M++x.fp) w [x.b] (JE x) (SlAt x):=Fx.start (by simp[hbx]) ⟨hA.o0,hA.o1,hA.oa⟩ (fun y hy=>by
  have hy2:y∈x.fp:=by unfold HM.fp;exact List.mem_cons_of_mem _ hy
  exact⟨hA.lt y hy2,fun hm=>by
   rw[qS] at hm;subst hm;exact ndx.1 hy,qJ (.inr hy2)⟩) SlAt.st
 have hB:=hA.blk;have hxl0:x.l1.length=x.c.n1:=hA.n1;have hxl1:x.l0.length=x.c.n0:=hA.n0;have hl0:x.l1.length<=N:=hxo.l.2.1;have hl1:x.l0.length<=N:=hxo.l.1;have hfind: ∀w',Only [x.b] w w'->TQ p C.K C.sA C.sc C.said C.M C.M.abs w'->Calls Tryz.prog 45 #[AD p,.int .u32 i] w' fun e w2=>e = .returned (AD x.b)/\Only [] w' w2:=fun w' O hT=>by
  have:=SY p C.K C.sA C.sc C.said.length (C.R.xs.map HM.b) i w' hT.blk (by
   have hr:=(DK hch).1;refine DX w w' O.size (fun y hy=>O.block y (PG hch y hy) fun hm=>?_) hr;rw[qS] at hm;subst hm;have:=h.nd;unfold CL.fp CB at this;rw[qD,qD,qD] at this;exact this.2.1.2.1.2.2 x.b hy x.b (List.mem_flatMap.2 ⟨x,hmem,hbx⟩) rfl) (by rw[List.length_map];exact h.rst.cn) (by have:=h.rst.cn;omega) hi
  rw[List.getElem?_map,hx] at this;exact this
 have hshut: ∀w',TQ p C.K C.sA C.sc C.said C.M C.M.abs w'->Calls Tryz.prog 25 #[AD p] w' fun e w2=>e = .returned (.bool (BO C.abs))/\Only [] w' w2:=fun w' hT=>OZ p C.K C.sA C.sc C.said.length C.M w' hT.blk hT.wat.blk;obtain⟨k,hk⟩:=qX (MJ most x.l1.length);have hkn:k<=x.c.n1:=by rw[<-hk,hxl0];exact gQ _ _
 have hkv:Value.int .i64 (if(if(x.c.n1:Int)<most then(x.c.n1:Int) else most)>0 then(if(x.c.n1:Int)<most then(x.c.n1:Int) else most) else 0)=Value.int .i64 (k:Int):=by rw[<-hk,hxl0,gP]
 have htk:(x.l1.take k).length=k:=by rw[List.length_take];omega
 have hdk:(x.l1.drop k).length=x.c.n1-k:=by rw[List.length_drop];omega
 have hrd: ∀w',SlAt x w'->RdX cu8 w' x.c.g1 x.l1:=fun w' hs=>(DK hs.2.1).1;have hcap:x.c.n1<=x.c.c1:=by have:=(DK hA.o1).2.1;omega
 have hxs:C.abs.xs[i]? = some x.abs:=by rw[show C.abs.xs=C.R.xs.map HM.abs from rfl,List.getElem?_map,hx];rfl
 have hsd:upC C.abs x.abs=false->CH C.abs i most true=({ C.abs with xs:=C.abs.xs.set i { x.abs with l1:=x.l1.drop k } },x.l1.take k,[]):=fun hu=>by
  unfold upC at hu;have hu:(BO C.abs || !decide (x.abs.st=2)||x.abs.clo)=true:=by
   cases hb:(BO C.abs || !decide (x.abs.st=2)||x.abs.clo) with
   |true=>rfl
   |false=>rw[hb] at hu;cases hu
  unfold CH;rw[hxs];dsimp only;rw[if_pos hu];show _=({ C.abs with xs:=C.abs.xs.set i { x.abs with l1:=x.l1.drop k } },x.l1.take k,[]);rw[<-hk];rfl
 obtain⟨fl,fm,hf⟩: ∃fl fm,CU x.c.iL x.c.iM (IntKind.i64.wrap ((x.c.n0:Int)+((x.c.n1-k:Nat):Int)))=(fl,fm):=⟨_,_,rfl⟩;have hrf: ∀w',Calls Tryz.prog 52 #[.agg #[.int .u32 x.c.iL,.int .u32 x.c.iM],.int .i64 (IntKind.i64.wrap ((x.c.n0:Int)+((x.c.n1-k:Nat):Int)))] w' fun e w2=>e = .returned (.tuple #[.agg #[.int .u32 fl,.int .u32 x.c.iM],.int .u32 fm])/\Only [] w' w2:=fun w'=>by
  have:=YB x.c.iL x.c.iM (IntKind.i64.wrap ((x.c.n0:Int)+((x.c.n1-k:Nat):Int))) w';rw[hf] at this;exact this
 have hfw:CU x.c.iL x.c.iM (x.l0.length+(x.l1.drop k).length)=(fl,fm):=by
  rw[<-hf,hdk,hxl1,IntWalk.i64_in _ (by omega)]
 have hup1:upC C.abs x.abs=true->fm>0->CH C.abs i most true=({ C.abs with said:=[],S:=CW C.M.abs (mW x.c.server fm),xs:=C.abs.xs.set i { x.abs with iL:=fl,l1:=x.l1.drop k } },x.l1.take k,BN C.said (mW x.c.server fm)):=fun hu hp=>by
  have hu:(BO C.abs || !decide (x.abs.st=2)||x.abs.clo)=false:=by
   unfold upC at hu;cases hb:(BO C.abs || !decide (x.abs.st=2)||x.abs.clo) with
   |true=>rw[hb] at hu;cases hu
   |false=>rfl
  unfold CH;rw[hxs];dsimp only;rw[if_neg (by rw[hu];decide)];simp only[if_true];have e2:MJ most x.abs.l1.length=k:=hk;rw[e2];have e3:CU x.abs.iL x.abs.iM (x.abs.l0.length+(x.abs.l1.drop k).length)=(fl,fm):=hfw;rw[e3];rw[if_pos hp];show(_:CS×List Int×List Int)=_;kernel_rfl
 have hup0:upC C.abs x.abs=true->¬fm>0->CH C.abs i most true=({ C.abs with said:=[],xs:=C.abs.xs.set i { x.abs with l1:=x.l1.drop k } },x.l1.take k,C.said):=fun hu hp=>by
  have hu:(BO C.abs || !decide (x.abs.st=2)||x.abs.clo)=false:=by
   unfold upC at hu;cases hb:(BO C.abs || !decide (x.abs.st=2)||x.abs.clo) with
   |true=>rw[hb] at hu;cases hu
   |false=>rfl
  unfold CH;rw[hxs];dsimp only;rw[if_neg (by rw[hu];decide)];simp only[if_true];have e2:MJ most x.abs.l1.length=k:=hk;rw[e2];have e3:CU x.abs.iL x.abs.iM (x.abs.l0.length+(x.abs.l1.drop k).length)=(fl,fm):=hfw;rw[e3];rw[if_neg hp];show(_:CS×List Int×List Int)=_;kernel_rfl
 have hTS0: ∀y∈AG p C.K C.sA C.M,y∉JE x:=fun y hy hm=>nd'.2.2 y hy y (by unfold HM.fp;exact List.mem_cons_of_mem _ hm) rfl;obtain⟨b,hb⟩:=qX x.b;rw[hb] at C0 S0 hB hfind;obtain⟨R,hR⟩:=qX (HG p C (CH C.abs i most true).1 (CH C.abs i most true).2.1 (CH C.abs i most true).2.2 w);rw[hR];refine Hs.en Tryz.func22 [b] [b] [.b true 94 (ccS x.c)] [.c (.v (AD p)),.c (.v (.int .u32 i)),.c (.v (.int .i64 most)),.c (.v (.bool true))] (Mem.one w b hB) ?_;refine Hs.e0 ?_;refine Hs.cV (fun w' H=>hfind w' H.only (C0.at H)) ?_;refine Hs.slot 17 (.c (.p 0 0)) (by kernel_rfl) (by kernel_rfl) ?_;refine Hs.e0 ?_;refine Hs.cF ?_;refine Hs.e0 ?_;refine Hs.cT ?_;refine Hs.e0 ?_;refine Hs.slot 12 (.c (.v (.int .i64 (k:Int)))) rfl ((by kernel_rfl:_=Value.int .i64 (if(if(x.c.n1:Int)<most then(x.c.n1:Int) else most)>0 then(if(x.c.n1:Int)<most then(x.c.n1:Int) else most) else 0)).trans hkv) ?_;refine Hs.any [0,1015] (by kernel_rfl) ?_;refine Hs.e0 ?_;refine Hs.takeHi 5 (rd:=[0]) (A:=x.c.g1) (len:=x.c.n1) (cap:=x.c.c1) (i:=k) CY (by omega) (by kernel_rfl) ?_;refine Hs.takeLo 11 (rd:=[0]) (A:=x.c.g1) (len:=x.c.n1) (cap:=x.c.c1) (i:=k) CY (by omega) (by kernel_rfl) ?_;refine Hs.e0 ?_;refine Hs.callS (cf:=cu8) (E:=5) (size:=1) (fun A cap=>.slice A k cap) (x.l1.take k) k htk (fun w' H=>by
  have:=FH (x.l1.take k) (hiA 1 x.c.g1 x.c.c1) x.c.c1 w' (rdX_hi BT (hrd w' (S0.at H)) (by omega)) (by omega);rw[htk] at this;exact this) (by kernel_rfl) (by kernel_rfl) fun A1 c1 g1 g2=>?_
 refine Hs.e0 ?_;refine Hs.callS (cf:=cu8) (E:=5) (size:=1) (fun A cap=>.slice A (x.c.n1-k) cap) (x.l1.drop k) (x.c.n1-k) hdk (fun w' H=>by
  have:=FH (x.l1.drop k) (loA 1 x.c.g1 k x.c.c1) (x.c.c1-k) w' (OG BT (hrd w' (S0.at H)) (by omega) (by omega)) (by omega);rw[hdk] at this;exact this) (by kernel_rfl) (by kernel_rfl) fun A2 c2 g3 g4=>?_
 refine Hs.e0 ?_;refine Hs.cV (fun w' H=>hshut w' (C0.at H)) ?_;refine Hs.e0 ?_;refine Hs.bool 52 (BO C.abs) (by kernel_rfl) (fun h1=>?_) (fun h1=>?_)
 ·refine Hs.eg [2,9] ?_;refine Hs.cT ?_;refine Hs.e0 ?_;exact Hs.rt (v:=.tuple #[.slice A1 k c1,.slice none 0 0]) Tryz.func22 fun w' H=>by
   rw[<-hR,hsd (by unfold upC;rw[h1];rfl)];exact ML (A2:=A2) (c2:=c2) (n2:=x.c.n1-k) (A1:=A1) (c1:=c1) (l1:=x.l1.take k) (send:=[]) (cO:=0) (sO:=none) (k:=k) (iL':=x.c.iL) (l2:=x.l1.drop k) h hx C0 S0 (Fx.subO C0) H (by kernel_rfl) hb.symm (by kernel_rfl) (by kernel_rfl) (by kernel_rfl) htk hdk hTS0 (by simp[bkO]) (fun y hy=>.inl hy) (by simp[bkO]) rfl
 refine Hs.eg [2] ?_;refine Hs.bool 59 (!decide (x.c.st=2)) (by kernel_rfl) (fun h2=>?_) (fun h2=>?_)
 ·refine Hs.eg [2,9] ?_;refine Hs.cT ?_;refine Hs.e0 ?_;exact Hs.rt (v:=.tuple #[.slice A1 k c1,.slice none 0 0]) Tryz.func22 fun w' H=>by
   rw[<-hR,hsd (by unfold upC;rw[h1];show(!(false || !decide (x.c.st=2)||x.c.clo))=false;rw[h2];rfl)];exact ML (A2:=A2) (c2:=c2) (n2:=x.c.n1-k) (A1:=A1) (c1:=c1) (l1:=x.l1.take k) (send:=[]) (cO:=0) (sO:=none) (k:=k) (iL':=x.c.iL) (l2:=x.l1.drop k) h hx C0 S0 (Fx.subO C0) H (by kernel_rfl) hb.symm (by kernel_rfl) (by kernel_rfl) (by kernel_rfl) htk hdk hTS0 (by simp[bkO]) (fun y hy=>.inl hy) (by simp[bkO]) rfl
 refine Hs.eg [2,9] ?_;refine Hs.cn x.c.clo (fun h3=>?_) (fun h3=>?_)
 ·refine Hs.e0 ?_;exact Hs.rt (v:=.tuple #[.slice A1 k c1,.slice none 0 0]) Tryz.func22 fun w' H=>by
   rw[<-hR,hsd (by unfold upC;rw[h1];show(!(false || !decide (x.c.st=2)||x.c.clo))=false;rw[h2,h3];rfl)];exact ML (A2:=A2) (c2:=c2) (n2:=x.c.n1-k) (A1:=A1) (c1:=c1) (l1:=x.l1.take k) (send:=[]) (cO:=0) (sO:=none) (k:=k) (iL':=x.c.iL) (l2:=x.l1.drop k) h hx C0 S0 (Fx.subO C0) H (by kernel_rfl) hb.symm (by kernel_rfl) (by kernel_rfl) (by kernel_rfl) htk hdk hTS0 (by simp[bkO]) (fun y hy=>.inl hy) (by simp[bkO]) rfl
 have hup:upC C.abs x.abs=true:=by unfold upC;rw[h1];show(!(false || !decide (x.c.st=2)||x.c.clo))=true;rw[h2,h3];rfl
 refine Hs.e0 ?_;refine Hs.any [0] (by kernel_rfl) ?_;refine Hs.e0 ?_;apply Hs.share1 (β':=[b]++[0]++[0])
 ·intro K;refine Hs.branch2 5 10 (by kernel_rfl) ?_ ?_
  ·refine Hs.cV (fun w' H=>SR b { x.c with g1:=A2,n1:=x.c.n1-k,c1:=c2 } w' (H.at 0 (wr:=true) (T:=94) (cs:=ccS { x.c with g1:=A2,n1:=x.c.n1-k,c1:=c2 }) (by kernel_rfl))) ?_;refine Hs.e0 ?_;refine Hs.branch2 6 10 (by kernel_rfl) ?_ ?_
   ·refine Hs.cV (fun w' H=>hrf w') ?_;refine Hs.e1 fun b13=>?_;exact K b13
   ·refine Hs.e1 fun b13=>?_;refine Hs.cV (fun w' H=>hrf w') ?_;refine Hs.e0 ?_;exact Hs.eqM (K b13) (by kernel_rfl) (by kernel_rfl)
  ·refine Hs.e1 fun b13=>?_;refine Hs.cV (fun w' H=>SR b { x.c with g1:=A2,n1:=x.c.n1-k,c1:=c2 } w' (H.at 0 (wr:=true) (T:=94) (cs:=ccS { x.c with g1:=A2,n1:=x.c.n1-k,c1:=c2 }) (by kernel_rfl))) ?_;refine Hs.e0 ?_;refine Hs.cV (fun w' H=>hrf w') ?_;refine Hs.e0 ?_;exact Hs.eqM (K b13) (by kernel_rfl) (by kernel_rfl)
 intro b13;refine Hs.cP (fm>0) (fun h4=>?_) (fun h4=>?_)
 ·have hfm:U32 fm:=by
   have:=ND x.c.iL x.c.iM (IntKind.i64.wrap ((x.c.n0:Int)+((x.c.n1-k:Nat):Int)));rw[hf] at this;exact this
  refine Hs.e0 ?_;refine Hs.callFxB (X:=(Option Addr×Nat)×WM) (fun _=>.tuple #[]) (fun z=>AG p C.K z.1.1 z.2) (fun z=>TQ p C.K z.1.1 z.1.2 (BN C.said (mW x.c.server fm)) z.2 (CW C.M.abs (mW x.c.server fm))) C0 (fun w' H hq=>KG p C.K C.sA C.sc C.said C.M C.M.abs (mW x.c.server fm) w' hq (fun w2 O2=>mW_ok x.c.server fm hxo.n.1 hfm w2) (qO _) (qO _) (fun o ho=>Nat.le_trans (hok.w.op o ho).2 (by omega)) (by omega)) (by kernel_rfl) (by kernel_rfl) fun z w3 L3 C3 hn3 mv3=>?_;obtain⟨⟨sA3,sc3⟩,M3⟩:=z;have S3:=mv3 _ _ S0 (fun y hy hm=>hTS0 y hm hy);dsimp only at C3 hn3;have hTS3: ∀y∈AG p C.K sA3 M3,y∉JE x:=fun y hy hm=>(hn3 y hy).elim (fun h=>hTS0 y h hm) (fun h=>by have:=hA.lt y (by unfold HM.fp;exact List.mem_cons_of_mem _ hm);omega);have hnd4:=C3.now.nd;have hin4: ∀y∈AG p C.K sA3 M3,y∈AG p C.K C.sA C.M\/w.heap.size<=y:=hn3;refine Hs.e0 ?_;refine Hs.callFx (X:=Unit) (fun _=>.slice sA3 (BN C.said (mW x.c.server fm)).length sc3) (fun _=>AG p C.K none M3++bkO sA3) (fun _ w2=>TQ p C.K none 0 [] M3 (CW C.M.abs (mW x.c.server fm)) w2/\AN cu8 5 1 w2 0 (.slice sA3 (BN C.said (mW x.c.server fm)).length sc3) (BN C.said (mW x.c.server fm))) C3 (fun w' H hq=>(HC p C.K sA3 sc3 (BN C.said (mW x.c.server fm)) M3 (CW C.M.abs (mW x.c.server fm)) w' hq).mono fun e w2 ⟨h1,h2,h3,h4⟩=>⟨(),h1,h2.mono (by simp[AG]),⟨h3,h4⟩,StX.and TQ.st AI,fun y hy=>by
   rcases qK hy with hy|hy
   ·have hy2:y∈AG p C.K sA3 M3:=DZ y hy;exact⟨zT (hq.lt y hy2) h2.size,.inl hy2⟩
   ·have hy2:y∈AG p C.K sA3 M3:=by simp[AG,hy]
    exact⟨zT (hq.lt y hy2) h2.size,.inl hy2⟩⟩) (by kernel_rfl) (by kernel_rfl) (by kernel_rfl) fun _ w4 L4 C4 _ mv4=>?_
  have S4:=mv4 _ _ S3 (fun y hy hm=>hTS3 y hm hy);refine Hs.e0 ?_;exact Hs.rt (v:=.tuple #[.slice A1 k c1,.slice sA3 (BN C.said (mW x.c.server fm)).length sc3]) Tryz.func22 fun w' H=>by
   rw[<-hR,hup1 hup h4];exact ML (A2:=A2) (c2:=c2) (n2:=x.c.n1-k) (A1:=A1) (c1:=c1) (l1:=x.l1.take k) (send:=(BN C.said (mW x.c.server fm))) (cO:=sc3) (sO:=sA3) (k:=k) (iL':=fl) (l2:=x.l1.drop k) h hx (C4.sub (fun y hy=>qJ (.inl hy)) (fun h=>h.1) TQ.st) S4 (C4.sub (fun y hy=>qJ (.inr hy)) (fun h=>h.2) AI) H (by kernel_rfl) hb.symm (by kernel_rfl) (by kernel_rfl) (by kernel_rfl) htk hdk (fun y hy=>hTS3 y (DZ y hy)) (fun y hy=>⟨YQ hnd4 y hy,hTS3 y (by simp[AG,hy])⟩) (fun y hy=>hin4 y (DZ y hy)) (fun y hy=>hin4 y (by simp[AG,hy])) rfl
 ·have hnd4:=h.tq.nd;have hin4: ∀y∈AG p C.K C.sA C.M,y∈AG p C.K C.sA C.M\/w.heap.size<=y:=fun y hy=>.inl hy;refine Hs.e0 ?_;refine Hs.callFx (X:=Unit) (fun _=>.slice C.sA C.said.length C.sc) (fun _=>AG p C.K none C.M++bkO C.sA) (fun _ w2=>TQ p C.K none 0 [] C.M C.M.abs w2/\AN cu8 5 1 w2 0 (.slice C.sA C.said.length C.sc) C.said) C0 (fun w' H hq=>(HC p C.K C.sA C.sc C.said C.M C.M.abs w' hq).mono fun e w2 ⟨h1,h2,h3,h4⟩=>⟨(),h1,h2.mono (by simp[AG]),⟨h3,h4⟩,StX.and TQ.st AI,fun y hy=>by
   rcases qK hy with hy|hy
   ·have hy2:y∈AG p C.K C.sA C.M:=DZ y hy;exact⟨zT (hq.lt y hy2) h2.size,.inl hy2⟩
   ·have hy2:y∈AG p C.K C.sA C.M:=by simp[AG,hy]
    exact⟨zT (hq.lt y hy2) h2.size,.inl hy2⟩⟩) (by kernel_rfl) (by kernel_rfl) (by kernel_rfl) fun _ w4 L4 C4 _ mv4=>?_
  have S4:=mv4 _ _ S0 (fun y hy hm=>hTS0 y hm hy);refine Hs.e0 ?_;exact Hs.rt (v:=.tuple #[.slice A1 k c1,.slice C.sA C.said.length C.sc]) Tryz.func22 fun w' H=>by
   rw[<-hR,hup0 hup h4];exact ML (A2:=A2) (c2:=c2) (n2:=x.c.n1-k) (A1:=A1) (c1:=c1) (l1:=x.l1.take k) (send:=C.said) (cO:=C.sc) (sO:=C.sA) (k:=k) (iL':=x.c.iL) (l2:=x.l1.drop k) h hx (C4.sub (fun y hy=>qJ (.inl hy)) (fun h=>h.1) TQ.st) S4 (C4.sub (fun y hy=>qJ (.inr hy)) (fun h=>h.2) AI) H (by kernel_rfl) hb.symm (by kernel_rfl) (by kernel_rfl) (by kernel_rfl) htk hdk (fun y hy=>hTS0 y (DZ y hy)) (fun y hy=>⟨YQ hnd4 y hy,hTS0 y (by simp[AG,hy])⟩) (fun y hy=>hin4 y (DZ y hy)) (fun y hy=>hin4 y (by simp[AG,hy])) rfl
theorem YA (p:Nat) (C:CL) (i:Nat) (most:Int) (on:Bool) (w:World) (h:CAt p C w) (hi:i<4294967296) {N:Nat} (hok:COk N C.abs) (hN:N<=900000) (hsz:C.said.length<=10000000):Calls Tryz.prog 22 #[AD p,.int .u32 i,.int .i64 most,.bool on] w (HG p C (CH C.abs i most on).1 (CH C.abs i most on).2.1 (CH C.abs i most on).2.2 w):=by
 have hm:C.R.xs.length<=64:=by have:=hok.m;rw[show C.abs.xs=C.R.xs.map HM.abs from rfl,List.length_map] at this;exact this
 cases hx:C.R.xs[i]? with
 |none=>
  have e:CH C.abs i most on=(C.abs,[],[]):=by
   unfold CH;rw[show C.abs.xs=C.R.xs.map HM.abs from rfl,List.getElem?_map,hx];rfl
  rw[e];exact read_no p C i most on w h hx hm hi
 |some x=>
  cases on with
  |false=>exact read_yes0 p C i most x w h hx hi hok hN hsz
  |true=>exact read_yes1 p C i most x w h hx hi hok hN hsz
theorem cPt_one (b:Nat): ∀u∈cPt b,u.oneCell'=true:=by
 intro u hu;simp only[cPt,qS] at hu;subst hu;rfl
theorem by_pt {n:Nat} (h:n<=1000000):(n+1)*Tryz.prog.bytesOf 90<=140737488355328:=by
 have e:Tryz.prog.bytesOf 90=8:=by kernel_rfl
 rw[e];omega
theorem mO_ok (n win pk:Int) (hn:U32 n) (hw:U32 win) (hp:U32 pk) (w:World):(mO n win pk).ok w:=⟨RdG.nil,qL _,qO _,by simp[mO],⟨z30,hn,hw,hp,z30⟩,by show(⟨#[115,101,115,115,105,111,110]⟩:ByteArray).size<=maxLen;decide,qO _⟩
theorem fX (p:Nat) (C:CL) (w:World) (h:CAt p C w) (hb:BO C.abs=true\/C.R.xs.length=64) (hm:C.R.xs.length<=64):Calls Tryz.prog 8 #[AD p] w (LW p C (DS C.abs).1 (DS C.abs).2.2.1 (fun s=>.tuple #[.int .u32 (DS C.abs).2.1,s,.int .i64 (DS C.abs).2.2.2]) w):=by
 have C0:=h.fx;have hl:C.abs.xs.length=C.R.xs.length:=List.length_map ..;have e1:BO C.abs=true->DS C.abs=(C.abs,0,[],9):=fun hs=>by unfold DS;rw[if_pos hs]
 have e2:BO C.abs=false->DS C.abs=(C.abs,0,[],6):=fun hs=>by
  have h64:C.R.xs.length=64:=hb.resolve_left (by rw[hs];decide);unfold DS;rw[if_neg (by rw[hs];decide),if_pos (by rw[hl];exact h64)]
 obtain⟨R,hR⟩: ∃R,LW p C (DS C.abs).1 (DS C.abs).2.2.1 (fun s=>.tuple #[.int .u32 (DS C.abs).2.1,s,.int .i64 (DS C.abs).2.2.2]) w=R:=⟨_,rfl⟩;rw[hR];refine Hs.en Tryz.func8 [] [] [] [.c (.v (AD p))] (Mem.start0 w) ?_;refine Hs.e0 ?_;refine Hs.cF ?_;refine Hs.e0 ?_;refine Hs.cV (fun w' H=>TY p C w' (C0.at H)) ?_;refine Hs.e0 ?_;refine Hs.cn (BO C.abs) (fun hs=>?_) (fun hs=>?_)
 ·refine Hs.e0 ?_;exact Hs.rt (v:=.tuple #[.int .u32 0,.slice none 0 0,.int .i64 9]) Tryz.func8 fun w' H=>by
   rw[<-hR,e1 hs];exact⟨(C,none,0),rfl,C0.fin H,⟨C0.at H,rfl,CN⟩,fun y hy=>by
    have hy:y∈C.fp p:=by simpa[bkO] using hy
    exact⟨(C0.at H).lt y hy,.inl hy⟩,by simp[bkO]⟩
 have h64:C.K.cn=64:=by
  have:=hb.resolve_left (by rw[hs];decide);rw[<-h.rst.cn];exact this
 refine Hs.e0 ?_;refine Hs.ldc (E':=87) (b:=p) (off:=5) (.slice C.K.cA 64 C.K.cc) (by kernel_rfl) (fun w' H=>by
  rw[(C0.at H).tq.blk.cell,<-h64];rfl) (by kernel_rfl) ?_
 refine Hs.e0 ?_;refine Hs.cT ?_;refine Hs.e0 ?_;exact Hs.rt (v:=.tuple #[.int .u32 0,.slice none 0 0,.int .i64 6]) Tryz.func8 fun w' H=>by
  rw[<-hR,e2 hs];exact⟨(C,none,0),rfl,C0.fin H,⟨C0.at H,rfl,CN⟩,fun y hy=>by
   have hy:y∈C.fp p:=by simpa[bkO] using hy
   exact⟨(C0.at H).lt y hy,.inl hy⟩,by simp[bkO]⟩
def TI (g:Int):CC:=⟨1,0,0,0,g,g,none,0,0,none,0,0,none,0,0,BV,false,false,false⟩
def VAt (K:CK) (sA:Option Addr) (sc:Nat) (said:List Int) (M:WM) (w:World):Prop:=AN cu8 5 1 w 0 (.slice sA said.length sc) said/\WAt w K.wp M
theorem VAt.st {K:CK} {sA:Option Addr} {sc:Nat} {said:List Int} {M:WM}:StX (bkO sA++M.fp K.wp) (VAt K sA sc said M):=StX.and AI WAt.st
def RrAt (K:CK) (R:RstM) (w:World):Prop:=RdX cu8 w K.bA R.buf/\(∀y∈bkO K.bA,y<w.heap.size)/\∀x∈R.xs,HAt x w
theorem RrAt.st {K:CK} {R:RstM}:StX (bkO K.bA++R.xs.flatMap HM.fp) (RrAt K R):=fun w w' hs he h=>⟨DX w w' hs (fun y hy=>he y (by simp[hy])) h.1,fun y hy=>zT (h.2.1 y hy) hs,fun x hx=>HAt.st w w' hs (fun y hy=>he y (qJ (.inr (List.mem_flatMap.2 ⟨x,hx,hy⟩)))) (h.2.2 x hx)⟩
theorem open_ok (p:Nat) (C:CL) (w:World) (h:CAt p C w) (hs:BO C.abs=false) (hl:C.R.xs.length≠64) {N:Nat} (hok:COk N C.abs) (hN:N<=900000) (hsz:C.said.length<=10000000):Calls Tryz.prog 8 #[AD p] w (LW p C (DS C.abs).1 (DS C.abs).2.2.1 (fun s=>.tuple #[.int .u32 (DS C.abs).2.1,s,.int .i64 (DS C.abs).2.2.2]) w):=by
 have hm:C.R.xs.length<=64:=by have:=hok.m;rw[show C.abs.xs=C.R.xs.map HM.abs from rfl,List.length_map] at this;exact this
 obtain⟨R,hR⟩: ∃R,LW p C (DS C.abs).1 (DS C.abs).2.2.1 (fun s=>.tuple #[.int .u32 (DS C.abs).2.1,s,.int .i64 (DS C.abs).2.2.2]) w=R:=⟨_,rfl⟩;rw[hR];have hlt:=h.lt;have nd:=h.nd;unfold CL.fp AG CB at nd;have hown:=h.rst.ch;unfold AN at hown;have hcn:(C.R.xs.map HM.b).length=C.K.cn:=by rw[List.length_map];exact h.rst.cn
 rw[hcn] at hown;have nd0:=nd;rw[qD,qD,qD,List.nodup_cons,qD] at nd;obtain⟨⟨np,ns,nm',nsm⟩,⟨nb,⟨nc,nx,ncx⟩,nbc⟩,ntr⟩:=nd;have inP:p∈C.fp p:=by simp[CL.fp,AG]
 have inV: ∀y∈bkO C.sA++C.M.fp C.K.wp,y∈C.fp p:=fun y hy=>qJ (.inl (List.mem_cons_of_mem _ hy));have inC: ∀y∈bkO C.K.cA,y∈C.fp p:=fun y hy=>qJ (.inr (qJ (.inr (qJ (.inl hy)))));have inB: ∀y∈bkO C.K.bA,y∈C.fp p:=fun y hy=>qJ (.inr (qJ (.inl hy)));have inX: ∀y∈C.R.xs.flatMap HM.fp,y∈C.fp p:=fun y hy=>qJ (.inr (qJ (.inr (qJ (.inr hy)))));have hnb:(bks [p,0] [.b true 89 (ckS C.K C.sA C.said.length C.sc),.s C.K.cA C.K.cc C.K.cn 90 1 ((C.R.xs.map HM.b).flatMap cPt)]).Nodup:=by
  show(p::(bkO C.K.cA++[])).Nodup;rw[qN,List.nodup_cons];exact⟨fun hy=>ntr p (by simp) p (by simp[hy]) rfl,nc⟩
 have hL: ∀y,y∈bks [p,0] [.b true 89 (ckS C.K C.sA C.said.length C.sc),.s C.K.cA C.K.cc C.K.cn 90 1 ((C.R.xs.map HM.b).flatMap cPt)]↔y=p\/y∈bkO C.K.cA:=fun y=>by
  show y∈p::(bkO C.K.cA++[])↔_;rw[qN,qC]
 have V0:Fx w (C.fp p) w (bks [p,0] [.b true 89 (ckS C.K C.sA C.said.length C.sc),.s C.K.cA C.K.cc C.K.cn 90 1 ((C.R.xs.map HM.b).flatMap cPt)]) (bkO C.sA++C.M.fp C.K.wp) (VAt C.K C.sA C.sc C.said C.M):=Fx.start (fun y hy=>((hL y).1 hy).elim (fun e=>e ▸ inP) (inC y)) ⟨h.tq.own,h.tq.wat⟩ (fun y hy=>⟨hlt y (inV y hy),fun hm2=>by
  rcases(hL y).1 hm2 with e|hm2;·subst e;exact np hy
  ·exact ntr y (List.mem_cons_of_mem _ hy) y (by simp[hm2]) rfl,inV y hy⟩) VAt.st
 have R0:Fx w (C.fp p) w (bks [p,0] [.b true 89 (ckS C.K C.sA C.said.length C.sc),.s C.K.cA C.K.cc C.K.cn 90 1 ((C.R.xs.map HM.b).flatMap cPt)]) (bkO C.K.bA++C.R.xs.flatMap HM.fp) (RrAt C.K C.R):=Fx.start (fun y hy=>((hL y).1 hy).elim (fun e=>e ▸ inP) (inC y)) ⟨h.rst.buf,h.rst.blt,h.rst.xs⟩ (fun y hy=>by
  rcases qK hy with hy|hy
  ·refine⟨hlt y (inB y hy),fun hm2=>?_,inB y hy⟩;rcases(hL y).1 hm2 with e|hm2;·subst e;exact ntr y (by simp) y (by simp[hy]) rfl
   ·exact nbc y hy y (by simp[hm2]) rfl
  ·refine⟨hlt y (inX y hy),fun hm2=>?_,inX y hy⟩;rcases(hL y).1 hm2 with e|hm2;·subst e;exact ntr y (by simp) y (qJ (.inr (qJ (.inr hy)))) rfl
   ·exact ncx y hm2 y hy rfl) RrAt.st
 have hblk:=h.tq.blk;obtain⟨bs,hbs⟩:=qX (C.R.xs.map HM.b);obtain⟨L,hLe⟩:=qX (bks [p,0] [.b true 89 (ckS C.K C.sA C.said.length C.sc),.s C.K.cA C.K.cc C.K.cn 90 1 ((C.R.xs.map HM.b).flatMap cPt)]);have hM0:Mem w L [p,0] [.b true 89 (ckS C.K C.sA C.said.length C.sc),.s C.K.cA C.K.cc C.K.cn 90 1 ((C.R.xs.map HM.b).flatMap cPt)] w:=by
  rw[<-hLe];exact Mem.startN rfl hnb ⟨hblk,hown,trivial⟩
 rw[hLe] at V0 R0;rw[hbs] at hM0 hcn;have h64: ¬(C.K.cn:Int)=64:=by rw[<-h.rst.cn];omega
 have hcn2:C.K.cn<=64:=by rw[<-h.rst.cn];exact hm
 have hw5:Value.int .u32 (IntKind.u32.wrap (C.K.cn:Int))=Value.int .u32 (C.K.cn:Int):=by rw[IntKind.wrap_u32];congr 1;omega
 refine Hs.en Tryz.func8 L [p,0] [.b true 89 (ckS C.K C.sA C.said.length C.sc),.s C.K.cA C.K.cc C.K.cn 90 1 (bs.flatMap cPt)] [.c (.p 0 0)] hM0 ?_;refine Hs.e0 ?_;refine Hs.cF ?_;refine Hs.e0 ?_;refine Hs.cV (fun w' H=>OZ p C.K C.sA C.sc C.said.length C.M w' (H.at 0 (wr:=true) (T:=89) (cs:=ckS C.K C.sA C.said.length C.sc) (by kernel_rfl)) (V0.at H).2.blk) ?_;refine Hs.e0 ?_;refine Hs.cn (C.K.broken||C.M.dead) (fun hs2=>?_) (fun _=>?_)
 ·have hs3:(C.K.broken||C.M.dead)=false:=hs;rw[hs3] at hs2;cases hs2
 refine Hs.e0 ?_;refine Hs.cP ((C.K.cn:Int)=64) (fun h=>absurd h h64) (fun _=>?_);refine Hs.e0 ?_;refine Hs.slot 5 (.c (.v (.int .u32 (C.K.cn:Int)))) rfl ((by kernel_rfl:_=Value.int .u32 (IntKind.u32.wrap (C.K.cn:Int))).trans hw5) ?_;refine Hs.any [0,1020] (by kernel_rfl) ?_;refine Hs.e2 fun q t=>?_;refine Hs.app (c:=1) (ty:=87) 1 elemPt bs [q] C.K.cn 1 hcn rfl cPt_one cPt_len (A:=C.K.cA) (B:=some ⟨t,0,none⟩) (cap:=C.K.cc) (by kernel_rfl) (by kernel_rfl) (by kernel_rfl) (fun w' H=>H.rdB (gs:=[q]) 3 (wr:=true) (T:=90) (cs:=[.v (AD q)]) (by kernel_rfl) rfl) (by unfold maxLen;omega) (by_pt (by omega)) fun A' c' g3=>?_;refine Hs.e0 ?_;refine Hs.shutFx [0] [p] (fun w=>Blk w p 89 (ckC { C.K with cA:=A',cn:=C.K.cn+1,cc:=c' } C.sA C.said.length C.sc)) V0 VN (fun w' H=>H.at 0 (wr:=true) (T:=89) (cs:=ckS { C.K with cA:=A',cn:=C.K.cn+1,cc:=c' } C.sA C.said.length C.sc) (by kernel_rfl)) (fun y hy=>by
  rw[qS] at hy;subst hy;exact⟨0,by simp,.b true 89 (ckS { C.K with cA:=A',cn:=C.K.cn+1,cc:=c' } C.sA C.said.length C.sc),(by kernel_rfl),rfl,rfl⟩) (by kernel_rfl) fun w1 L1 P1 mv=>?_
 have V1:=mv _ _ V0 (by simp);have R1:=mv _ _ R0 (by simp);have T1:Fx w (C.fp p) w1 L1 (AG p { C.K with cA:=A',cn:=C.K.cn+1,cc:=c' } C.sA C.M) (TQ p { C.K with cA:=A',cn:=C.K.cn+1,cc:=c' } C.sA C.sc C.said C.M C.M.abs):=(P1.two V1).sub (fun y hy=>hy) (fun hq=>⟨hq.1,hq.2.1,hq.2.2,rfl,h.tq.nd⟩) TQ.st;have hTR1: ∀y∈AG p { C.K with cA:=A',cn:=C.K.cn+1,cc:=c' } C.sA C.M,y∉bkO C.K.bA++C.R.xs.flatMap HM.fp:=fun y hy hm2=>ntr y hy y (by
  rcases qK hm2 with h5|h5;·exact qJ (.inl h5)
  ·exact qJ (.inr (qJ (.inr h5)))) rfl
 refine Hs.e0 ?_;refine Hs.any [1] (by kernel_rfl) ?_;refine Hs.e0 ?_;apply Hs.share0 (β':=[p,0]++[q,t])
 ·intro K;refine Hs.branch2 5 9 (by kernel_rfl) ?_ ?_
  ·refine Hs.ldc (E':=29) (b:=p) (off:=0) (.int .u32 C.K.grant) (by kernel_rfl) (fun w' H=>by
    rw[(T1.at H).blk.cell];rfl) (by kernel_rfl) ?_
   refine Hs.e0 ?_;refine Hs.ldc (E':=29) (b:=p) (off:=1) (.int .u32 C.K.packet) (by kernel_rfl) (fun w' H=>by
    rw[(T1.at H).blk.cell];rfl) (by kernel_rfl) ?_
   refine Hs.e0 ?_;exact K
  ·refine Hs.ldc (E':=29) (b:=p) (off:=1) (.int .u32 C.K.packet) (by kernel_rfl) (fun w' H=>by
    rw[(T1.at H).blk.cell];rfl) (by kernel_rfl) ?_
   refine Hs.e0 ?_;refine Hs.ldc (E':=29) (b:=p) (off:=0) (.int .u32 C.K.grant) (by kernel_rfl) (fun w' H=>by
    rw[(T1.at H).blk.cell];rfl) (by kernel_rfl) ?_
   refine Hs.e0 ?_;exact Hs.eqM K (by kernel_rfl) (by kernel_rfl)
 refine Hs.callFxB (X:=(Option Addr×Nat)×WM) (fun _=>.tuple #[]) (fun z=>AG p { C.K with cA:=A',cn:=C.K.cn+1,cc:=c' } z.1.1 z.2) (fun z=>TQ p { C.K with cA:=A',cn:=C.K.cn+1,cc:=c' } z.1.1 z.1.2 (BN C.said (mO C.K.cn C.K.grant C.K.packet)) z.2 (CW C.M.abs (mO C.K.cn C.K.grant C.K.packet))) T1 (fun w' H hq=>KG p { C.K with cA:=A',cn:=C.K.cn+1,cc:=c' } C.sA C.sc C.said C.M C.M.abs (mO C.K.cn C.K.grant C.K.packet) w' hq (fun w2 O2=>mO_ok C.K.cn C.K.grant C.K.packet ⟨by omega,by omega⟩ hok.n.1 hok.n.2 w2) (by show(⟨#[115,101,115,115,105,111,110]⟩:ByteArray).size<=140737488355328;decide) (qO _) (fun o ho=>Nat.le_trans (hok.w.op o ho).2 (by omega)) (by omega)) (by kernel_rfl) (by kernel_rfl) fun z w3 L3 T3 hn3 mv3=>?_;obtain⟨⟨sA3,sc3⟩,M3⟩:=z;dsimp only at T3 hn3;have R3:=mv3 _ _ R1 (fun y hy hm2=>hTR1 y hm2 hy);have hw1:w.heap.size<=w1.heap.size:=T1.only.size;have hRlt: ∀y∈bkO C.K.bA++C.R.xs.flatMap HM.fp,y<w.heap.size:=fun y hy=>hlt y ((qK hy).elim (inB y) (inX y));have hTR3: ∀y∈AG p { C.K with cA:=A',cn:=C.K.cn+1,cc:=c' } sA3 M3,y∉bkO C.K.bA++C.R.xs.flatMap HM.fp:=fun y hy hm2=>(hn3 y hy).elim (fun h5=>hTR1 y h5 hm2) (fun h5=>by have:=hRlt y hm2;omega);have hnd3:=T3.now.nd;refine Hs.e0 ?_;refine Hs.callFx (X:=Unit) (fun _=>.slice sA3 (BN C.said (mO C.K.cn C.K.grant C.K.packet)).length sc3) (fun _=>AG p { C.K with cA:=A',cn:=C.K.cn+1,cc:=c' } none M3++bkO sA3) (fun _ w2=>TQ p { C.K with cA:=A',cn:=C.K.cn+1,cc:=c' } none 0 [] M3 (CW C.M.abs (mO C.K.cn C.K.grant C.K.packet)) w2/\AN cu8 5 1 w2 0 (.slice sA3 (BN C.said (mO C.K.cn C.K.grant C.K.packet)).length sc3) (BN C.said (mO C.K.cn C.K.grant C.K.packet))) T3 (fun w' H hq=>(HC p { C.K with cA:=A',cn:=C.K.cn+1,cc:=c' } sA3 sc3 (BN C.said (mO C.K.cn C.K.grant C.K.packet)) M3 (CW C.M.abs (mO C.K.cn C.K.grant C.K.packet)) w' hq).mono fun e w2 ⟨h1,h2,h3,h4⟩=>⟨(),h1,h2.mono (by simp[AG]),⟨h3,h4⟩,StX.and TQ.st AI,fun y hy=>by
  rcases qK hy with hy|hy
  ·have hy2:=DZ (sA:=sA3) y hy;exact⟨zT (hq.lt y hy2) h2.size,.inl hy2⟩
  ·have hy2:y∈AG p { C.K with cA:=A',cn:=C.K.cn+1,cc:=c' } sA3 M3:=by simp[AG,hy]
   exact⟨zT (hq.lt y hy2) h2.size,.inl hy2⟩⟩) (by kernel_rfl) (by kernel_rfl) (by kernel_rfl) fun _ w4 L4 T4 _ mv4=>?_
 have R4:=mv4 _ _ R3 (fun y hy hm2=>hTR3 y hm2 hy);refine Hs.e0 ?_;exact Hs.rt (v:=.tuple #[.int .u32 C.K.cn,.slice sA3 (BN C.said (mO C.K.cn C.K.grant C.K.packet)).length sc3,.int .i64 0]) Tryz.func8 fun w' H=>by
  have el:C.abs.xs.length=C.K.cn:=by rw[<-h.rst.cn];exact List.length_map ..
  have eo:DS C.abs=(⟨C.K.grant,C.K.packet,C.R.buf,C.K.bad,C.K.broken,[],CW C.M.abs (mO C.K.cn C.K.grant C.K.packet),C.R.xs.map HM.abs++[HM.abs ⟨q,TI C.K.grant,[],[],[]⟩]⟩,(C.K.cn:Int),BN C.said (mO C.K.cn C.K.grant C.K.packet),0):=by
   unfold DS;rw[if_neg (by rw[hs];decide),if_neg (by rw[el];omega),el];kernel_rfl
  rw[<-hR,eo];have hT:=(T4.at H).1;have hO:=(T4.at H).2;have hRr:=R4.at H;have hch:=H.ownX (cf:=cPt) (l:=bs++[q]) 1 (by rw[zE,hcn,List.length_singleton]) (A:=A') (cap:=c') (E:=90) (size:=1) (by kernel_rfl);have hbq:Blk w' q 94 (TI C.K.grant).cells:=H.at 2 (wr:=true) (T:=94) (cs:=ccS (TI C.K.grant)) (by kernel_rfl);have hbA: ∀{y:Nat},y∈bkO A'->(HB.s A' c' (C.K.cn+1) 90 1 ((bs++[q]).flatMap cPt)).blk (nm ([p,0]++[q,t]) 1)=some y:=fun {y} hy=>by
   unfold bkO at hy;rw[Option.mem_toList] at hy;exact hy
  have aT: ∀y∈bkO A',y∉AG p { C.K with cA:=A',cn:=C.K.cn+1,cc:=c' } none M3++bkO sA3:=fun y hy=>T4.apart H (by kernel_rfl) 1 (.s A' c' (C.K.cn+1) 90 1 ((bs++[q]).flatMap cPt)) y (by kernel_rfl) (hbA hy);have aR: ∀y∈bkO A',y∉bkO C.K.bA++C.R.xs.flatMap HM.fp:=fun y hy=>R4.apart H (by kernel_rfl) 1 (.s A' c' (C.K.cn+1) 90 1 ((bs++[q]).flatMap cPt)) y (by kernel_rfl) (hbA hy);have qT:q∉AG p { C.K with cA:=A',cn:=C.K.cn+1,cc:=c' } none M3++bkO sA3:=T4.apart H (by kernel_rfl) 2 (.b true 94 (ccS (TI C.K.grant))) q (by kernel_rfl) rfl;have qR:q∉bkO C.K.bA++C.R.xs.flatMap HM.fp:=R4.apart H (by kernel_rfl) 2 (.b true 94 (ccS (TI C.K.grant))) q (by kernel_rfl) rfl;have qA:q∉bkO A':=fun hm2=>by
   have:=H.inj 1 2 (.s A' c' (C.K.cn+1) 90 1 ((bs++[q]).flatMap cPt)) (.b true 94 (ccS (TI C.K.grant))) q (by kernel_rfl) (by kernel_rfl) (hbA hm2) rfl;cases this
  have oA: ∀y∈bkO A',y<w'.heap.size/\(y∈C.fp p\/w.heap.size<=y):=fun y hy=>⟨HB.lies_lt (H.lies 1 (.s A' c' (C.K.cn+1) 90 1 ((bs++[q]).flatMap cPt)) (by kernel_rfl)) (hbA hy),(H.own 1 (.s A' c' (C.K.cn+1) 90 1 ((bs++[q]).flatMap cPt)) y (by kernel_rfl) rfl (hbA hy)).elim (fun h4=>T4.mem y h4) (fun h4=>.inr (Nat.le_trans T4.only.size h4))⟩;have oq:q<w'.heap.size/\(q∈C.fp p\/w.heap.size<=q):=⟨Blk.lt hbq,(H.own 2 (.b true 94 (ccS (TI C.K.grant))) q (by kernel_rfl) rfl rfl).elim (fun h4=>T4.mem q h4) (fun h4=>.inr (Nat.le_trans T4.only.size h4))⟩;have hcl:(bs++[q]).length=C.K.cn+1:=by rw[zE,hcn,List.length_singleton]
  refine⟨(⟨{ C.K with cA:=A',cn:=C.K.cn+1,cc:=c' },none,0,[],M3,⟨C.R.buf,C.R.xs++[⟨q,TI C.K.grant,[],[],[]⟩]⟩⟩,sA3,sc3),rfl,T4.fin H,⟨⟨?_,⟨hRr.1,h.rst.bn,hRr.2.1,?_,?_,fun x hx=>?_⟩,?_⟩,?_,hO⟩,fun y hy=>?_,fun y hy hm2=>?_⟩
  ·have e:=hT.abs;rw[<-e] at hT;exact hT
  ·show AN cPt 90 1 w' 0 (.slice A' (C.K.cn+1) c') ((C.R.xs++[(⟨q,TI C.K.grant,[],[],[]⟩:HM)]).map HM.b);rw[List.map_append,hbs,<-hcl];rw[<-hcl] at hch;exact hch
  ·show(C.R.xs++[_]).length=C.K.cn+1;rw[zE,h.rst.cn];rfl
  ·rcases qK hx with hx|hx;·exact hRr.2.2 x hx
   ·rw[qS] at hx;subst hx;exact⟨hbq,CN,CN,CN,rfl,rfl,rfl⟩
  ·show(AG p { C.K with cA:=A',cn:=C.K.cn+1,cc:=c' } none M3++(bkO C.K.bA++(bkO A'++(C.R.xs++[(⟨q,TI C.K.grant,[],[],[]⟩:HM)]).flatMap HM.fp))).Nodup;rw[List.flatMap_append,qD,qD,qD,qD];have eq1:[(⟨q,TI C.K.grant,[],[],[]⟩:HM)].flatMap HM.fp=[q]:=rfl;rw[eq1];refine⟨hT.nd,⟨nb,⟨PZ _,⟨nx,by simp,fun a ha b hb e=>?_⟩,fun a ha b hb e=>?_⟩,fun a ha b hb e=>?_⟩,fun a ha b hb e=>?_⟩
   ·rw[qS] at hb;rw[e,hb] at ha;exact qR (qJ (.inr ha))
   ·subst e;rcases qK hb with hb|hb;·exact aR a ha (qJ (.inr hb))
    ·rw[qS] at hb;rw[hb] at ha;exact qA ha
   ·subst e;rcases qK hb with hb|hb;·exact aR a hb (qJ (.inl ha))
    ·rcases qK hb with hb|hb;·exact nbc a ha a (qJ (.inr hb)) rfl
     ·rw[qS] at hb;rw[hb] at ha;exact qR (qJ (.inl ha))
   ·subst e;have ha3:=DZ (sA:=sA3) a ha;rcases qK hb with hb|hb;·exact hTR3 a ha3 (qJ (.inl hb))
    ·rcases qK hb with hb|hb;·exact aT a hb (qJ (.inl ha))
     ·rcases qK hb with hb|hb;·exact hTR3 a ha3 (qJ (.inr hb))
      ·rw[qS] at hb;rw[hb] at ha;exact qT (qJ (.inl ha))
  ·have e:=hT.abs;unfold CL.abs;dsimp only;rw[e,List.map_append];rfl
  ·have inT4: ∀y∈AG p { C.K with cA:=A',cn:=C.K.cn+1,cc:=c' } none M3++bkO sA3,y<w'.heap.size/\(y∈C.fp p\/w.heap.size<=y):=fun y hy=>⟨zT (T4.own y hy).1 H.only.size,(T4.own y hy).2.2⟩;rcases qK hy with hy|hy
   ·have hy:y∈AG p { C.K with cA:=A',cn:=C.K.cn+1,cc:=c' } none M3++(bkO C.K.bA++(bkO A'++(C.R.xs++[(⟨q,TI C.K.grant,[],[],[]⟩:HM)]).flatMap HM.fp)):=hy;have old: ∀y∈C.fp p,y<w'.heap.size/\(y∈C.fp p\/w.heap.size<=y):=fun y hy=>⟨zT (hlt y hy) (T4.fin H).size,.inl hy⟩;rcases qK hy with hy|hy;·exact inT4 y (qJ (.inl hy))
    ·rcases qK hy with hy|hy;·exact old y (inB y hy)
     ·rcases qK hy with hy|hy;·exact oA y hy
      ·rw[List.flatMap_append] at hy;rcases qK hy with hy|hy;·exact old y (inX y hy)
       ·have hy:y∈[q]:=hy;rw[qS] at hy;rw[hy];exact oq
   ·exact inT4 y (qJ (.inr hy))
  ·have hm2:y∈AG p { C.K with cA:=A',cn:=C.K.cn+1,cc:=c' } none M3++(bkO C.K.bA++(bkO A'++(C.R.xs++[(⟨q,TI C.K.grant,[],[],[]⟩:HM)]).flatMap HM.fp)):=hm2;have hy3:y∈AG p { C.K with cA:=A',cn:=C.K.cn+1,cc:=c' } sA3 M3:=by simp[AG,hy]
   rcases qK hm2 with hm2|hm2;·exact YQ hnd3 y hy hm2
   ·rcases qK hm2 with hm2|hm2;·exact hTR3 y hy3 (qJ (.inl hm2))
    ·rcases qK hm2 with hm2|hm2;·exact aT y hm2 (qJ (.inr hy))
     ·rw[List.flatMap_append] at hm2;rcases qK hm2 with hm2|hm2;·exact hTR3 y hy3 (qJ (.inr hm2))
      ·have hm2:y∈[q]:=hm2;rw[qS] at hm2;rw[hm2] at hy;exact qT (qJ (.inr hy))
theorem XP (p:Nat) (C:CL) (w:World) (h:CAt p C w) {N:Nat} (hok:COk N C.abs) (hN:N<=900000) (hsz:C.said.length<=10000000):Calls Tryz.prog 8 #[AD p] w (LW p C (DS C.abs).1 (DS C.abs).2.2.1 (fun s=>.tuple #[.int .u32 (DS C.abs).2.1,s,.int .i64 (DS C.abs).2.2.2]) w):=by
 have hm:C.R.xs.length<=64:=by have:=hok.m;rw[show C.abs.xs=C.R.xs.map HM.abs from rfl,List.length_map] at this;exact this
 cases hs:BO C.abs with
 |true=>exact fX p C w h (.inl hs) hm
 |false=>
  by_cases hl:C.R.xs.length=64
  ·exact fX p C w h (.inr hl) hm
  ·exact open_ok p C w h hs hl hok hN hsz
end Go.Proofs.YtfbhemmpobgdpaaGreatDoor
namespace Go.Proofs.YtfbhemmpobgdpaaGreatDoor
open Go.RowKit
def iT (m:RQ) (w:World):Ending->World->Prop:=fun e w'=>Only [] w w'/\∃b,e = .returned (.bool b)/\(b=false->m.text.size<=10000/\m.value.size<=10000/\m.lang.size<=10000/\m.modes.length<=10000)
theorem kL (m:RQ) (w:World):Calls Tryz.prog 23 #[m.val] w (iT m w):=by
 have O:Only [] w (w.alloc (.cells #[.int .i64 m.kind,.string m.text,.string m.value,.string m.lang,.int .u32 m.cols,.int .u32 m.rows,.int .u32 m.width,.int .u32 m.height,.slice m.mA m.modes.length m.mc,.bool m.on,.int .u32 m.code] 41)):=(zR _ _).alloc _;unfold RQ.val;by_cases h0:(10000:Int)<(m.text.size:Int)
 ·go_enter Tryz.func23,Tryz.ntmps23
  go_wp2_with fail
  go_ret
  exact⟨O,true,rfl,fun h=>by cases h⟩
 by_cases h1:(10000:Int)<(m.value.size:Int)
 ·go_enter Tryz.func23,Tryz.ntmps23
  go_wp2_with fail
  go_ret
  exact⟨O,true,rfl,fun h=>by cases h⟩
 by_cases h2:(10000:Int)<(m.lang.size:Int)
 ·go_enter Tryz.func23,Tryz.ntmps23
  go_wp2_with fail
  go_ret
  exact⟨O,true,rfl,fun h=>by cases h⟩
 by_cases h3:(10000:Int)<(m.modes.length:Int)
 ·go_enter Tryz.func23,Tryz.ntmps23
  go_wp2_with fail
  go_ret
  exact⟨O,true,rfl,fun h=>by cases h⟩
 have hfin:m.text.size<=10000/\m.value.size<=10000/\m.lang.size<=10000/\m.modes.length<=10000:=by omega
 replace hfin:=AB hfin;go_enter Tryz.func23,Tryz.ntmps23
 go_wp2_with fail
 go_ret
 exact⟨O,false,rfl,fun _=>hfin.out⟩
end Go.Proofs.YtfbhemmpobgdpaaGreatDoor
namespace Go.Proofs.YtfbhemmpobgdpaaGreatDoor
open Go.RowKit Go.MapKept
structure O3 where
  kind : Int
  most : Int
  n : Int
  A : Option Addr
  c : Nat
  b : List Int
  r : RQ
  on : Bool
def O3.cells (o:O3):List Value:=[.int .i64 o.kind,.int .i64 o.most,.int .u32 o.n,.slice o.A o.b.length o.c,.int .i64 o.r.kind,.string o.r.text,.string o.r.value,.string o.r.lang,.int .u32 o.r.cols,.int .u32 o.r.rows,.int .u32 o.r.width,.int .u32 o.r.height,.slice o.r.mA o.r.modes.length o.r.mc,.bool o.r.on,.int .u32 o.r.code,.bool o.on]
def O3.sc (o:O3):List SC:=[.v (.int .i64 o.kind),.v (.int .i64 o.most),.v (.int .u32 o.n),.v (.slice o.A o.b.length o.c),.v (.int .i64 o.r.kind),.v (.string o.r.text),.v (.string o.r.value),.v (.string o.r.lang),.v (.int .u32 o.r.cols),.v (.int .u32 o.r.rows),.v (.int .u32 o.r.width),.v (.int .u32 o.r.height),.v (.slice o.r.mA o.r.modes.length o.r.mc),.v (.bool o.r.on),.v (.int .u32 o.r.code),.v (.bool o.on)]
structure O3.ok (w : World) (o : O3) : Prop where
  n : U32 o.n
  r : o.r.ok w
  rd : RdG (.int .u8) w o.A o.b
  le : o.b.length <= o.c
  max : o.c <= maxLen
  inb : InB o.b
theorem O3.ok.only {w w':World} {o:O3} (h:o.ok w) (O:Only [] w w'):o.ok w':={ h with r:=h.r.only O,rd:=h.rd.only O }
theorem o3_len (o:O3):o.cells.length=16:=rfl
theorem elemO3:ElemT Tryz.prog 22 43 16 (Tryz.prog.bytesOf 43):=IZ (z:=.agg #[.int .i64 0,.int .i64 0,.int .u32 0,.slice none 0 0,.int .i64 0,.string ⟨#[]⟩,.string ⟨#[]⟩,.string ⟨#[]⟩,.int .u32 0,.int .u32 0,.int .u32 0,.int .u32 0,.slice none 0 0,.bool false,.int .u32 0,.bool false]) (by kernel_rfl) (by kernel_rfl) (by decide) (by decide)
def sumB (ops:List O3):Nat:=(ops.map fun o=>min o.b.length 100000).sum
def O3.small (o:O3):Prop:=o.r.text.size<=10000/\o.r.value.size<=10000/\o.r.lang.size<=10000/\o.r.modes.length<=10000
def Fit30 (ops:List O3):Prop:=ops.length<=100/\sumB ops<=20000/\∀o∈ops,o.small
theorem sumB_le {ops:List O3} {o:O3} (h:o∈ops):min o.b.length 100000<=sumB ops:=by
 have key: ∀l:List Nat,∀n∈l,n<=l.sum:=fun l=>by
  induction l with
  |nil=>simp
  |cons a l ih=>
   intro n hn;rw[List.sum_cons];rcases qC.1 hn with e|hn;·omega
   ·have:=ih n hn;omega
 exact key _ _ (List.mem_map.2 ⟨o,h,rfl⟩)
theorem Fit30.b {ops:List O3} (h:Fit30 ops) {o:O3} (ho:o∈ops):o.b.length<=20000:=by
 have:=sumB_le ho;have:=h.2.1;omega
theorem sumB_take {ops:List O3} {i:Nat} {o:O3} (h:ops[i]? = some o):sumB (ops.take (i+1))=sumB (ops.take i)+min o.b.length 100000:=by
 unfold sumB;rw[List.take_add_one,h];simp
theorem kY {ops:List O3} (i:Nat):sumB (ops.take i)<=100000*i:=by
 unfold sumB;have h: ∀l:List O3,(l.map fun o=>min o.b.length 100000).sum<=100000*l.length:=fun l=>by
  induction l with
  |nil=>simp
  |cons a l ih=>rw[List.map_cons,List.sum_cons,List.length_cons];omega
 have:=h (ops.take i);have h2:(ops.take i).length<=i:=by rw[List.length_take];omega
 calc _<=100000*(ops.take i).length:=this
  _<=100000*i:=Nat.mul_le_mul_left _ h2
theorem fO (ops:List O3) (A:Option Addr) (c:Nat) (w:World) (hr:RdX O3.cells w A ops) (hlen:ops.length<=maxLen):Calls Tryz.prog 6 #[.slice A ops.length c] w fun e w'=>∃b:Bool,e = .returned (.bool b)/\Only [] w w'/\(b=false->Fit30 ops):=by
 obtain⟨R,hR⟩: ∃R:Ending->World->Prop,(fun e w'=>∃b:Bool,e = .returned (.bool b)/\Only [] w w'/\(b=false->Fit30 ops))=R:=⟨_,rfl⟩;rw[hR];refine Hs.en Tryz.func6 [] [] [] [.c (.v (.slice A ops.length c))] (Mem.start0 w) ?_;have J: ∀(d i:Nat),ops.length-i=d->i<=ops.length->(∀(j:Nat) (o:O3),j<i->ops[j]? = some o->o.small)->∀(z:Int),(i<=100->z=(sumB (ops.take i):Nat))->∀(u:Nat->Value),Hs Tryz.prog 6 R (Tryz.f6).ntmps w [] [] ⟨.no,BE Tryz.f6 0,KQ [(0,.c (.v (.slice A ops.length c))),(3,.c (.v (.int .i64 z))),(6,.c (.v (.slice A ops.length c))),(7,.c (.v (.int .i64 ops.length))),(8,.c (.v (.int .i64 (i:Nat))))] (.vals u),[]⟩:=by
  intro d;induction d with
  |zero=>
   intro i hd hi hall z hz u;refine Hs.e0 ?_;refine Hs.cP ((i:Int)<(ops.length:Int)) (fun h=>by omega) (fun h=>?_);refine Hs.e0 ?_;refine Hs.bool 25 (decide ((ops.length:Int)>100)) (by kernel_rfl) (fun h1=>?_) (fun h1=>?_)
   ·refine Hs.eg [3] ?_;exact Hs.rt (v:=.bool true) Tryz.func6 fun w' H=>by rw[<-hR];exact⟨true,rfl,H.only,fun h=>by cases h⟩
   ·refine Hs.eg [3] ?_;refine Hs.rt (v:=.bool (decide (z>20000))) Tryz.func6 fun w' H=>by
     rw[<-hR];refine⟨_,rfl,H.only,fun hf=>⟨?_,?_,fun o ho=>?_⟩⟩
     ·have:=of_decide_eq_false h1;omega
     ·have h2:=of_decide_eq_false h1;have h3:=of_decide_eq_false hf;have h4:=hz (by omega);rw[List.take_of_length_le (by omega)] at h4;omega
     ·obtain⟨j,hj⟩:=List.mem_iff_getElem?.1 ho;exact hall j o (by have:=(List.getElem?_eq_some_iff.1 hj).1;omega) hj
  |succ d ih=>
   intro i hd hi hall z hz u;have hil:i<ops.length:=by omega
   obtain⟨o,hx⟩: ∃o,ops[i]? = some o:=⟨_,List.getElem?_eq_getElem hil⟩;obtain⟨b,off,hA,_,_⟩:=hr (by omega);subst hA;refine Hs.e0 ?_;refine Hs.cP ((i:Int)<(ops.length:Int)) (fun h=>?_) (fun h=>by omega);refine Hs.e0 ?_;refine Hs.idx (b:=b) (off:=off) (c:=c) elemO3 hil (by kernel_rfl) ?_;refine Hs.ldx (E:=43) (b:=b) (off:=off) (i:=i) o3_len (.g o.sc) (by kernel_rfl) (fun w' H=>hr.only H.only) hx (by kernel_rfl) (by kernel_rfl) (by kernel_rfl) (by kernel_rfl) ?_;refine Hs.e1 fun b0=>?_;refine Hs.callX (X:=Bool) (fun b=>.bool b) (fun b=>b=false->o.small) (fun w' H=>(kL o.r w').mono (by
    rintro e w2 ⟨O,b,rfl,hb⟩;exact⟨b,rfl,O,hb⟩)) (by kernel_rfl) fun g hg=>?_
   refine Hs.e0 ?_;refine Hs.cn g (fun h1=>?_) (fun h1=>?_)
   ·refine Hs.e0 ?_;exact Hs.rt (v:=.bool true) Tryz.func6 fun w' H=>by rw[<-hR];exact⟨true,rfl,H.only,fun h=>by cases h⟩
   ·refine Hs.e0 ?_;refine Hs.slot 8 (.c (.v (.int .i64 (i+1:Nat)))) rfl ((by kernel_rfl:_=Value.int .i64 (IntKind.i64.wrap ((i:Int)+1))).trans (BY (n:=ops.length) hlen)) ?_;refine Hs.lP ?_;exact Hs.goto (BE Tryz.f6 0) [] [] [(0,.c (.v (.slice (some ⟨b,off,none⟩) ops.length c))),(3,.c (.v (.int .i64 (IntKind.i64.wrap (z+(if(100000:Int)<(o.b.length:Int) then 100000 else(o.b.length:Int))))))),(6,.c (.v (.slice (some ⟨b,off,none⟩) ops.length c))),(7,.c (.v (.int .i64 ops.length))),(8,.c (.v (.int .i64 (i+1:Nat))))] (by kernel_rfl) List.nodup_nil (by kernel_rfl) (by kernel_rfl) (fun _=>rfl) (fun u=>ih (i+1) (by omega) (by omega) (fun j o' hj ho'=>by
     rcases Nat.lt_or_ge j i with h2|h2;·exact hall j o' h2 ho'
     ·have e:j=i:=by omega
      subst e;rw[hx] at ho';injection ho' with ho';subst ho';exact hg h1) _ (fun hi100=>by
     have h5:=hz (by omega);have h6:=kY (ops:=ops) i;have h7:=sumB_take hx;rw[h7,IntWalk.i64_in _ (by split<;>omega),h5];split<;>omega) u)
 refine Hs.e0 ?_;refine Hs.lP ?_;exact Hs.goto (BE Tryz.f6 0) [] [] [(0,.c (.v (.slice A ops.length c))),(3,.c (.v (.int .i64 0))),(6,.c (.v (.slice A ops.length c))),(7,.c (.v (.int .i64 ops.length))),(8,.c (.v (.int .i64 (0:Nat))))] (by kernel_rfl) List.nodup_nil (by kernel_rfl) (by kernel_rfl) (fun _=>rfl) (fun u=>J _ 0 rfl (by omega) (fun j o hj=>by omega) 0 (fun _=>by simp[sumB]) u)
def doF (C:CS) (o:O3):CS×Int×List Int×List Int×Int:=
 if o.kind=2 then((AW C o.n.toNat (IX (BL o.r).1 (BF o.r) (BL o.r).2)).1,0,[],(AW C o.n.toNat (IX (BL o.r).1 (BF o.r) (BL o.r).2)).2.1,(AW C o.n.toNat (IX (BL o.r).1 (BF o.r) (BL o.r).2)).2.2)
 else if o.kind=3 then((AW C o.n.toNat (ET o.b)).1,(GZ C o.n.toNat o.b:Nat),[],(AW C o.n.toNat (ET o.b)).2.1,(AW C o.n.toNat (ET o.b)).2.2)
 else if o.kind=4 then((AW C o.n.toNat JA).1,0,[],(AW C o.n.toNat JA).2.1,(AW C o.n.toNat JA).2.2)
 else if o.kind=5 then((AW C o.n.toNat EM).1,0,[],(AW C o.n.toNat EM).2.1,(AW C o.n.toNat EM).2.2)
 else if o.kind=7 then((CH C o.n.toNat o.most o.on).1,0,(CH C o.n.toNat o.most o.on).2.1,(CH C o.n.toNat o.most o.on).2.2,0)
 else(C,0,[],[],0)
def DQ (p:Nat) (C:CL) (C':CS) (got send:List Int) (w0:World) (z:CL×(Option Addr×Nat)×Option Addr×Nat) (w:World):Prop:=(CAt p z.1 w/\z.1.abs=C'/\AN cu8 5 1 w 0 (.slice z.2.1.1 got.length z.2.1.2) got/\AN cu8 5 1 w 0 (.slice z.2.2.1 send.length z.2.2.2) send)/\(∀y∈z.1.fp p++(bkO z.2.1.1++bkO z.2.2.1),y∈C.fp p\/w0.heap.size<=y)/\(∀y∈bkO z.2.1.1,y∉z.1.fp p/\y∉bkO z.2.2.1)/\∀y∈bkO z.2.2.1,y∉z.1.fp p
theorem DQ.st {p:Nat} {C:CL} {C':CS} {got send:List Int} {w0:World} {z:CL×(Option Addr×Nat)×Option Addr×Nat}:StX (z.1.fp p++(bkO z.2.1.1++bkO z.2.2.1)) (DQ p C C' got send w0 z):=fun w w' hs he h=>⟨⟨CAt.st w w' hs (fun y hy=>he y (qJ (.inl hy))) h.1.1,h.1.2.1,AI w w' hs (fun y hy=>he y (by simp[hy])) h.1.2.2.1,AI w w' hs (fun y hy=>he y (by simp[hy])) h.1.2.2.2⟩,h.2⟩
def D3Post (p:Nat) (C:CL) (D:CS×Int×List Int×List Int×Int) (w:World):Ending->World->Prop:=fun e w'=>∃z:CL×(Option Addr×Nat)×Option Addr×Nat,e = .returned (.agg #[.int .i64 D.2.1,.slice z.2.1.1 D.2.2.1.length z.2.1.2,.slice z.2.2.1 D.2.2.2.1.length z.2.2.2,.int .i64 D.2.2.2.2])/\Only (C.fp p) w w'/\DQ p C D.1 D.2.2.1 D.2.2.2.1 w z w'/\∀y∈z.1.fp p++(bkO z.2.1.1++bkO z.2.2.1),y<w'.heap.size
theorem JT {p:Nat} {C:CL} {C':CS} {send:List Int} {v:Value->Value} {w0 w:World} {e:Ending} {w':World} (hs:w0.heap.size<=w.heap.size) (h:LW p C C' send v w e w'): ∃z:CL×Option Addr×Nat,e = .returned (v (.slice z.2.1 send.length z.2.2))/\Only (C.fp p) w w'/\MQ p C C' send w0 z w'/\StX (z.1.fp p++bkO z.2.1) (MQ p C C' send w0 z)/\∀y∈z.1.fp p++bkO z.2.1,y<w'.heap.size/\(y∈C.fp p\/w.heap.size<=y):=by
 obtain⟨z,h1,h2,h3,h4,h5⟩:=h;exact⟨z,h1,h2,⟨h3,fun y hy=>(h4 y hy).2.imp id fun h=>Nat.le_trans hs h,h5⟩,MQ.st,h4⟩
theorem rpost_q {p:Nat} {C:CL} {C':CS} {got send:List Int} {w0 w:World} {e:Ending} {w':World} (hs:w0.heap.size<=w.heap.size) (h:HG p C C' got send w e w'): ∃z:CL×(Option Addr×Nat)×Option Addr×Nat,e = .returned (.tuple #[.slice z.2.1.1 got.length z.2.1.2,.slice z.2.2.1 send.length z.2.2.2])/\Only (C.fp p) w w'/\DQ p C C' got send w0 z w'/\StX (z.1.fp p++(bkO z.2.1.1++bkO z.2.2.1)) (DQ p C C' got send w0 z)/\∀y∈z.1.fp p++(bkO z.2.1.1++bkO z.2.2.1),y<w'.heap.size/\(y∈C.fp p\/w.heap.size<=y):=by
 obtain⟨z,h1,h2,h3,h4,h5,h6⟩:=h;have key: ∀y∈z.1.fp p++(bkO z.2.1.1++bkO z.2.2.1),y<w'.heap.size/\(y∈C.fp p\/w.heap.size<=y):=fun y hy=>by
  rcases qK hy with hy|hy;·exact h4 y (qJ (.inl hy))
  ·rcases qK hy with hy|hy;·exact⟨(h5 y hy).1,(h5 y hy).2.1⟩
   ·exact h4 y (qJ (.inr hy))
 exact⟨z,h1,h2,⟨h3,fun y hy=>(key y hy).2.imp id fun h=>Nat.le_trans hs h,fun y hy=>(h5 y hy).2.2,h6⟩,DQ.st,key⟩
theorem do30_any (p:Nat) (C:CL) (o:O3) (w:World) (h:CAt p C w) (ho:DE w (C.fp p) (fun w=>o.ok w)) (hsm:o.small) (hb:o.b.length<=1000000) (h16:o.kind≠1/\o.kind≠6) {N:Nat} (hok:COk N C.abs) (hN:N<=900000) (hsz:C.said.length<=1000000):Calls Tryz.prog 11 #[AD p,.agg #[.int .i64 o.kind,.int .i64 o.most,.int .u32 o.n,.slice o.A o.b.length o.c,.int .i64 o.r.kind,.string o.r.text,.string o.r.value,.string o.r.lang,.int .u32 o.r.cols,.int .u32 o.r.rows,.int .u32 o.r.width,.int .u32 o.r.height,.slice o.r.mA o.r.modes.length o.r.mc,.bool o.r.on,.int .u32 o.r.code,.bool o.on]] w (D3Post p C (doF C.abs o) w):=by
 have C0:=h.fx;have hn:=ho.at.n;obtain⟨i,hi⟩:=Int.eq_ofNat_of_zero_le (show 0<=o.n from hn.1);have hit:o.n.toNat=i:=by omega
 have hil:i<4294967296:=by have:=hn.2;omega
 obtain⟨R,hR⟩:=qX (D3Post p C (doF C.abs o) w);rw[hR];have fin: ∀{z:CL×Option Addr×Nat} {C':CS} {send:List Int} {N' E:Int} {w1 w':World} {L1 β:List Nat} {hp:List HB} (C1:Fx w (C.fp p) w1 L1 (z.1.fp p++bkO z.2.1) (MQ p C C' send w z)) (H:Mem w1 L1 β hp w') (hd:doF C.abs o=(C',N',[],send,E)),R (.returned (.agg #[.int .i64 N',.slice none 0 0,.slice z.2.1 send.length z.2.2,.int .i64 E])) w':=by
  intro z C' send N' E w1 w' L1 β hp C1 H hd;rw[<-hR,hd];have hq:=C1.at H;refine⟨(z.1,(none,0),z.2.1,z.2.2),rfl,C1.fin H,⟨⟨hq.1.1,hq.1.2.1,CN,hq.1.2.2⟩,fun y hy=>hq.2.1 y (by simpa[bkO] using hy),by simp[bkO],hq.2.2⟩,fun y hy=>zT (C1.own y (by simpa[bkO] using hy)).1 H.only.size⟩
 have hmx:maxLen=9223372036854775807:=rfl;refine Hs.en Tryz.func11 [] [] [] [.c (.v (AD p)),.g o.sc] (Mem.start0 w) ?_;refine Hs.run3 300 (fun _=>by kernel_rfl) fun b0 b1 b2=>?_;refine Hs.cP (o.kind=1) (fun h1=>absurd h1 h16.1) (fun h1=>?_);refine Hs.e0 ?_;refine Hs.cP (o.kind=2) (fun h2=>?_) (fun h2=>?_)
 ·obtain⟨z0,hz⟩:=qX (AW C.abs i (IX (BL o.r).1 (BF o.r) (BL o.r).2));obtain⟨C',send,E⟩:=z0;refine Hs.e0 ?_;refine Hs.callFx (X:=CL×Option Addr×Nat) (fun z=>.tuple #[.slice z.2.1 send.length z.2.2,.int .i64 E]) (fun z=>z.1.fp p++bkO z.2.1) (fun z=>MQ p C C' send w z) C0 (fun w' H hq=>by
   have hc:=ask_any30 p C i o.r w' hq (fun w2 O=>(ho w2 ((C0.fin H).trans O (fun y hy=>.inl hy))).r) (by have:=hsm.1;omega) (by have:=hsm.2.1;omega) (by have:=hsm.2.2.1;omega) hok (by omega) hsz hil;rw[hz,<-hi] at hc;exact hc.mono fun e w2 hd=>JT (v:=fun s=>.tuple #[s,.int .i64 E]) H.only.size hd) (by kernel_rfl) (by kernel_rfl) (by kernel_rfl) fun z w1 L1 C1 _ _=>?_
  refine Hs.e0 ?_;exact Hs.rt (v:=.agg #[.int .i64 0,.slice none 0 0,.slice z.2.1 send.length z.2.2,.int .i64 E]) Tryz.func11 fun w' H=>fin C1 H (by unfold doF;rw[if_pos h2,hit,hz])
 refine Hs.e0 ?_;refine Hs.cP (o.kind=3) (fun h3=>?_) (fun h3=>?_)
 ·obtain⟨z0,hz⟩:=qX (AW C.abs i (ET o.b));obtain⟨C',send,E⟩:=z0;refine Hs.e0 ?_;refine Hs.callFx (X:=CL×Option Addr×Nat) (fun z=>.tuple #[.int .i64 (GZ C.abs i o.b:Nat),.slice z.2.1 send.length z.2.2,.int .i64 E]) (fun z=>z.1.fp p++bkO z.2.1) (fun z=>MQ p C C' send w z) C0 (fun w' H hq=>by
   have hc:=YS p C i o.A o.c o.b o.b.length rfl w' hq (fun w2 O=>NC (ho w2 ((C0.fin H).trans O (fun y hy=>.inl hy))).rd) ho.at.inb ho.at.le ho.at.max hb hok (by omega) hsz hil;rw[hz,<-hi] at hc;exact hc.mono fun e w2 hd=>JT (v:=fun s=>.tuple #[.int .i64 (GZ C.abs i o.b:Nat),s,.int .i64 E]) H.only.size hd) (by kernel_rfl) (by kernel_rfl) (by kernel_rfl) fun z w1 L1 C1 _ _=>?_
  refine Hs.e0 ?_;exact Hs.rt (v:=.agg #[.int .i64 (GZ C.abs i o.b:Nat),.slice none 0 0,.slice z.2.1 send.length z.2.2,.int .i64 E]) Tryz.func11 fun w' H=>fin C1 H (by unfold doF;rw[if_neg (show¬o.kind=2 by omega)];rw[if_pos h3,hit,hz])
 refine Hs.e0 ?_;refine Hs.cP (o.kind=4) (fun h4=>?_) (fun h4=>?_)
 ·obtain⟨z0,hz⟩:=qX (AW C.abs i JA);obtain⟨C',send,E⟩:=z0;refine Hs.e0 ?_;refine Hs.callFx (X:=CL×Option Addr×Nat) (fun z=>.tuple #[.slice z.2.1 send.length z.2.2,.int .i64 E]) (fun z=>z.1.fp p++bkO z.2.1) (fun z=>MQ p C C' send w z) C0 (fun w' H hq=>by
   have hc:=eof_any p C i w' hq hok (by omega) hsz hil;rw[hz,<-hi] at hc;exact hc.mono fun e w2 hd=>JT (v:=fun s=>.tuple #[s,.int .i64 E]) H.only.size hd) (by kernel_rfl) (by kernel_rfl) (by kernel_rfl) fun z w1 L1 C1 _ _=>?_
  refine Hs.e0 ?_;exact Hs.rt (v:=.agg #[.int .i64 0,.slice none 0 0,.slice z.2.1 send.length z.2.2,.int .i64 E]) Tryz.func11 fun w' H=>fin C1 H (by unfold doF;rw[if_neg (show¬o.kind=2 by omega)];rw[if_neg (show¬o.kind=3 by omega)];rw[if_pos h4,hit,hz])
 refine Hs.e0 ?_;refine Hs.cP (o.kind=5) (fun h5=>?_) (fun h5=>?_)
 ·obtain⟨z0,hz⟩:=qX (AW C.abs i EM);obtain⟨C',send,E⟩:=z0;refine Hs.e0 ?_;refine Hs.callFx (X:=CL×Option Addr×Nat) (fun z=>.tuple #[.slice z.2.1 send.length z.2.2,.int .i64 E]) (fun z=>z.1.fp p++bkO z.2.1) (fun z=>MQ p C C' send w z) C0 (fun w' H hq=>by
   have hc:=close_any p C i w' hq hok (by omega) hsz hil;rw[hz,<-hi] at hc;exact hc.mono fun e w2 hd=>JT (v:=fun s=>.tuple #[s,.int .i64 E]) H.only.size hd) (by kernel_rfl) (by kernel_rfl) (by kernel_rfl) fun z w1 L1 C1 _ _=>?_
  refine Hs.e0 ?_;exact Hs.rt (v:=.agg #[.int .i64 0,.slice none 0 0,.slice z.2.1 send.length z.2.2,.int .i64 E]) Tryz.func11 fun w' H=>fin C1 H (by unfold doF;rw[if_neg (show¬o.kind=2 by omega)];rw[if_neg (show¬o.kind=3 by omega)];rw[if_neg (show¬o.kind=4 by omega)];rw[if_pos h5,hit,hz])
 refine Hs.e0 ?_;refine Hs.cP (o.kind=6) (fun h6=>absurd h6 h16.2) (fun h6=>?_);refine Hs.e0 ?_;refine Hs.cP (o.kind=7) (fun h7=>?_) (fun h7=>?_)
 ·obtain⟨z0,hz⟩:=qX (CH C.abs i o.most o.on);obtain⟨C',got,send⟩:=z0;refine Hs.e0 ?_;refine Hs.callFx (X:=CL×(Option Addr×Nat)×Option Addr×Nat) (fun z=>.tuple #[.slice z.2.1.1 got.length z.2.1.2,.slice z.2.2.1 send.length z.2.2.2]) (fun z=>z.1.fp p++(bkO z.2.1.1++bkO z.2.2.1)) (fun z=>DQ p C C' got send w z) C0 (fun w' H hq=>by
   have hc:=YA p C i o.most o.on w' hq hil hok (by omega) (by omega);rw[hz,<-hi] at hc;exact hc.mono fun e w2 hd=>rpost_q H.only.size hd) (by kernel_rfl) (by kernel_rfl) (by kernel_rfl) fun z w1 L1 C1 _ _=>?_
  refine Hs.e0 ?_;exact Hs.rt (v:=.agg #[.int .i64 0,.slice z.2.1.1 got.length z.2.1.2,.slice z.2.2.1 send.length z.2.2.2,.int .i64 0]) Tryz.func11 fun w' H=>by
   have hd:doF C.abs o=(C',0,got,send,0):=by unfold doF;rw[if_neg h2,if_neg h3,if_neg h4,if_neg h5,if_pos h7,hit,hz]
   rw[<-hR,hd];exact⟨z,rfl,C1.fin H,C1.at H,fun y hy=>zT (C1.own y hy).1 H.only.size⟩
 ·refine Hs.e0 ?_;exact Hs.rt (v:=.agg #[.int .i64 0,.slice none 0 0,.slice none 0 0,.int .i64 0]) Tryz.func11 fun w' H=>by
   have hd:doF C.abs o=(C.abs,0,[],[],0):=by unfold doF;rw[if_neg h2,if_neg h3,if_neg h4,if_neg h5,if_neg h7]
   rw[<-hR,hd];have hq:=C0.at H;exact⟨(C,(none,0),none,0),rfl,C0.fin H,⟨⟨hq,rfl,CN,CN⟩,fun y hy=>.inl (by simpa[bkO] using hy),by simp[bkO],by simp[bkO]⟩,fun y hy=>hq.lt y (by simpa[bkO] using hy)⟩
end Go.Proofs.YtfbhemmpobgdpaaGreatDoor
namespace Go.Proofs.YtfbhemmpobgdpaaGreatDoor
open Go.RowKit
theorem aE {C C':CS} {m0:MD} {send:List Int} {E:Int} (hz:(BZ m0).1=0) (hu:U5 m0) (hs:BO C=false) (hb:C.buf=[]) (hbad:C.bad=false) (h:IU C (BB m0) C' send E): ∃(m:MD) (r:RQ),SameM m (DV m0)/\TkIs C (BZ m0).2 (takesF C m r).1 (takesF C m r).2/\send=(takesF C m r).1.said/\if(takesF C m r).2≠0 then C' = { (takesF C m r).1 with broken:=true,said:=[] }/\E=4 else C' = { (takesF C m r).1 with said:=[] }/\E=0:=by
 have hfs:=aG [m0];have e1:[m0].flatMap BB=BB m0:=by simp
 have e2:CI [m0]=[m0]:=by simp[CI,hz]
 rw[e1,e2] at hfs;have e3:LZ C (BB m0)=(C,[(BZ m0).2],true):=by
  unfold LZ;rw[hb,List.nil_append,hfs];obtain⟨a1,a2,a3,a4,a5,a6,a7,a8⟩:=C;dsimp only at hb hbad;subst hb;subst hbad;rfl
 unfold IU at h;rw[if_neg (by rw[hs];decide),e3] at h;obtain⟨C1,k,h1,h2,h3⟩:=h;obtain⟨C2,E2,htk,h4⟩:=h1;obtain⟨m,e,hD,a1,a2,a3,h5⟩:=id htk;obtain⟨e0,hsm,_,_⟩:=aQ hu hz hD;subst e0;rw[if_neg (by decide)] at h5;obtain⟨r,e2',_,ht⟩:=h5;refine⟨m,r,hsm,by rw[ht];exact htk,?_,?_⟩
 ·rw[ht];dsimp only;split at h4;·rw[h2,h4.1]
  ·split at h4;·rw[h2,h4.1]
   ·rw[h2,h4.1]
 ·rw[ht];dsimp only;split at h4
  ·rename_i hE;obtain⟨rfl,rfl⟩:=h4;rw[if_pos rfl] at h3;rw[if_pos hE];exact h3
  ·rename_i hE;rw[if_neg hE];split at h4
   ·obtain⟨rfl,rfl⟩:=h4;rw[if_neg (by decide),if_pos rfl] at h3;exact h3
   ·obtain⟨rfl,rfl⟩:=h4;rw[if_neg (by decide),if_neg (by decide),if_pos rfl] at h3;exact h3
attribute [local irreducible] CW BN
theorem WO {N:Nat} {C C':CS} (hC:COk N C) (w:WOk N C'.S) (g:C'.grant=C.grant) (p:C'.packet=C.packet) (xs: ∀x∈C'.xs,HOk N x) (l:C'.xs.length<=64) (b:C'.buf=C.buf):COk N C':=⟨w,by rw[g,p];exact hC.n,xs,l,by rw[b];exact hC.b⟩
theorem cok_put {N:Nat} {C:CS} {i:Nat} {x':HS} (hC:COk N C) (hx:HOk N x'):COk N { C with xs:=C.xs.set i x' }:=⟨hC.w,hC.n,LE hC.xs hx,by show(C.xs.set i x').length<=64;rw[List.length_set];exact hC.m,hC.b⟩
theorem RE {N:Nat} {C:CS} {m:MD} (hC:COk N C) (hk:m.kind≠90):COk N (FP C m):=⟨MP hC.w hk,hC.n,hC.xs,hC.m,hC.b⟩
theorem aA {N:Nat} {C:CS} (hC:COk N C):COk N { C with said:=[] }:=⟨hC.w,hC.n,hC.xs,hC.m,hC.b⟩
theorem cok_brk {N:Nat} {C:CS} (hC:COk N C):COk N { C with broken:=true,said:=[] }:=⟨hC.w,hC.n,hC.xs,hC.m,hC.b⟩
theorem RI {N:Nat} {C:CS} {i:Nat} {f:CS->HS->(CS×HS)×Int} (hC:COk N C) (hf: ∀x,C.xs[i]? = some x->COk N { (f C x).1.1 with xs:=C.xs.set i (f C x).1.2 }):COk N (AW C i f).1:=by
 unfold AW;split;·exact hC
 ·rename_i x hx;split;·exact hC
  ·split;·exact hf x hx
   ·exact aA (hf x hx)
theorem iK {N:Nat}: ∀(f:Nat) (C:CS) (x:HS) (b:List Int),COk N C->HOk N x->COk N (DM f C x b).1.1/\HOk N (DM f C x b).1.2
 |0,C,x,b,hC,hx=>⟨hC,hx⟩
 |f+1,C,x,b,hC,hx=>by
  unfold DM;split
  ·refine iK f _ _ _ (RE hC (by show(94:Int)≠90;decide)) ⟨⟨hx.n.1,?_,hx.n.2.2⟩,hx.l⟩;show U32 (GT x.oL x.oP _).1;unfold GT;split;·exact HQ _
   ·exact hx.n.2.1
  ·exact⟨hC,hx⟩
theorem read_okC {N:Nat} {C:CS} {i:Nat} {most:Int} {on:Bool} (hC:COk N C):COk N (CH C i most on).1:=by
 unfold CH;split;·exact hC
 rename_i x hx;have hxo:=hC.xs x (qE hx);cases on
 ·simp only[Bool.false_eq_true,if_false];have hx1: ∀k,HOk N { x with l0:=x.l0.drop k }:=fun k=>⟨hxo.n,by show(x.l0.drop k).length<=N/\x.l1.length<=N/\x.al.length<=N;rw[List.length_drop];have:=hxo.l;omega⟩;split;·exact cok_put hC (hx1 _)
  ·split
   ·refine WO hC (MP hC.w ?_) rfl rfl (LE hC.xs ?_) (by show(C.xs.set i _).length<=64;rw[List.length_set];exact hC.m) rfl
    ·show(93:Int)≠90;decide
    ·have h2:=hx1 (MJ most x.l0.length);refine⟨⟨h2.n.1,h2.n.2.1,h2.n.2.2.1,?_,h2.n.2.2.2.2⟩,h2.l⟩;unfold CU;repeat' split
     all_goals first|exact h2.n.2.2.2.1|exact HQ _
   ·exact WO hC hC.w rfl rfl (LE hC.xs (hx1 _)) (by show(C.xs.set i _).length<=64;rw[List.length_set];exact hC.m) rfl
 ·simp only[if_true];have hx1: ∀k,HOk N { x with l1:=x.l1.drop k }:=fun k=>⟨hxo.n,by show x.l0.length<=N/\(x.l1.drop k).length<=N/\x.al.length<=N;rw[List.length_drop];have:=hxo.l;omega⟩;split;·exact cok_put hC (hx1 _)
  ·split
   ·refine WO hC (MP hC.w ?_) rfl rfl (LE hC.xs ?_) (by show(C.xs.set i _).length<=64;rw[List.length_set];exact hC.m) rfl
    ·show(93:Int)≠90;decide
    ·have h2:=hx1 (MJ most x.l1.length);refine⟨⟨h2.n.1,h2.n.2.1,h2.n.2.2.1,?_,h2.n.2.2.2.2⟩,h2.l⟩;unfold CU;repeat' split
     all_goals first|exact h2.n.2.2.2.1|exact HQ _
   ·exact WO hC hC.w rfl rfl (LE hC.xs (hx1 _)) (by show(C.xs.set i _).length<=64;rw[List.length_set];exact hC.m) rfl
theorem do_okC {N:Nat} {C:CS} {o:O3} (hC:COk N C):COk N (doF C o).1:=by
 have setxs: ∀(D:CS) (i:Nat) (x':HS),COk N D->HOk N x'->COk N { D with xs:=C.xs.set i x' }:=fun D i x' hD hx=>⟨hD.w,hD.n,LE hC.xs hx,by show(C.xs.set i x').length<=64;rw[List.length_set];exact hC.m,hD.b⟩;unfold doF;split
 ·refine RI hC fun x hx=>?_;have hxo:=hC.xs x (qE hx);unfold IX;split;·exact setxs _ _ _ (RE hC (by show(98:Int)≠90;decide)) hxo
  ·exact setxs _ _ _ hC hxo
 ·split
  ·refine RI hC fun x hx=>?_;have hxo:=hC.xs x (qE hx);unfold ET;split;·exact setxs _ _ _ hC hxo
   ·have:=iK (o.b.length+1) C x o.b hC hxo;exact setxs _ _ _ this.1 this.2
  ·split
   ·refine RI hC fun x hx=>?_;have hxo:=hC.xs x (qE hx);unfold JA;split;·exact setxs _ _ _ hC hxo
    ·exact setxs _ _ _ (RE hC (by show(96:Int)≠90;decide)) ⟨hxo.n,hxo.l⟩
   ·split
    ·refine RI hC fun x hx=>?_;have hxo:=hC.xs x (qE hx);unfold EM;exact setxs _ _ _ (RE hC (by show(97:Int)≠90;decide)) ⟨hxo.n,hxo.l⟩
    ·split;·exact read_okC hC
     ·exact hC
theorem fY {N:Nat} {C:CS} (hC:COk N C):COk (N+1) (DS C).1:=by
 unfold DS;split;·exact hC.up (Nat.le_add_right _ _)
 ·split;·exact hC.up (Nat.le_add_right _ _)
  ·rename_i h1 h2;have up:=hC.up (Nat.le_add_right N 1);have hw:WOk (N+1) (CW C.S (mO C.xs.length C.grant C.packet)):=wok_said (m:=mO C.xs.length C.grant C.packet) hC.w hC.n.1 hC.n.2;refine WO up ?_ rfl rfl (fun x hx=>?_) ?_ rfl;·exact hw
   ·rcases qK hx with hx|hx;·exact up.xs x hx
    ·rw[qS] at hx;subst hx;exact⟨⟨z30,z30,z30,hC.n.1,hC.n.1⟩,qO _,qO _,qO _⟩
   ·show(C.xs++[_]).length<=64;rw[zE,List.length_singleton];have:=hC.m;omega
def FPost (w:World) (p:PF):Ending->World->Prop:=fun e w'=>Only [] w w'/\∃f:FD,e = .returned f.val/\f.pf=p/\f.ok w'/\0<=f.n/\f.n<=4294967295
section
variable (w:World)
theorem AU (n:Int) (hn:U32 n):Calls Tryz.prog 112 #[.int .u32 n] w (FPost w ⟨3,n,[],[]⟩):=by
 go_enter Tryz.func112,Tryz.ntmps112
 go_wp2
 (try simp only[Exit.inBlock,Exit.then])
 refine AS (g:=w.heap.size) rfl (by rfl) (by rfl) (Blk.new w 153 [.int .i64 3,.int .u32 n,.slice none 0 0,.slice none 0 0]) ?_;exact⟨(zR _ _).alloc _,⟨3,n,none,0,[],none,0,[]⟩,rfl,rfl,FD.ok.plain _ _ _,hn.1,hn.2⟩
theorem LG (A:Option Addr) (l:List Int) (c:Nat) (h:RdG (.int .u8) w A l) (hlc:l.length<=c) (hcm:c<=maxLen):Calls Tryz.prog 113 #[.slice A l.length c] w (FPost w ⟨4,0,l,[]⟩):=by
 go_enter Tryz.func113,Tryz.ntmps113
 go_wp2
 (try simp only[Exit.inBlock,Exit.then])
 refine AS (g:=w.heap.size) rfl (by rfl) (by rfl) (Blk.new w 153 [.int .i64 4,.int .u32 0,.slice A l.length c,.slice none 0 0]) ?_;exact⟨(zR _ _).alloc _,⟨4,0,A,c,l,none,0,[]⟩,rfl,rfl,⟨RdG.only h ((zR _ _).alloc _),RdG.nil,hlc,hcm,by simp,by simp,by simp⟩,Int.le_refl 0,show(0:Int)<=4294967295 by decide⟩
theorem KI (A:Option Addr) (l:List Int) (c:Nat) (h:RdG (.int .u8) w A l) (hlc:l.length<=c) (hcm:c<=maxLen):Calls Tryz.prog 116 #[.slice A l.length c] w (FPost w ⟨6,0,l,[]⟩):=by
 go_enter Tryz.func116,Tryz.ntmps116
 go_wp2
 (try simp only[Exit.inBlock,Exit.then])
 refine AS (g:=w.heap.size) rfl (by rfl) (by rfl) (Blk.new w 153 [.int .i64 6,.int .u32 0,.slice A l.length c,.slice none 0 0]) ?_;exact⟨(zR _ _).alloc _,⟨6,0,A,c,l,none,0,[]⟩,rfl,rfl,⟨RdG.only h ((zR _ _).alloc _),RdG.nil,hlc,hcm,by simp,by simp,by simp⟩,Int.le_refl 0,show(0:Int)<=4294967295 by decide⟩
theorem XI (b:Bool):Calls Tryz.prog 115 #[.bool b] w (FPost w ⟨2,if b then 1 else 0,[],[]⟩):=by
 cases b with
 |true=>
  go_enter Tryz.func115,Tryz.ntmps115
  go_wp2
  (try simp only[Exit.inBlock,Exit.then])
  refine AS (g:=w.heap.size) rfl (by rfl) (by rfl) (Blk.new w 153 [.int .i64 2,.int .u32 1,.slice none 0 0,.slice none 0 0]) ?_;exact⟨(zR _ _).alloc _,⟨2,1,none,0,[],none,0,[]⟩,rfl,rfl,FD.ok.plain _ _ _,by decide,by decide⟩
 |false=>
  go_enter Tryz.func115,Tryz.ntmps115
  go_wp2
  (try simp only[Exit.inBlock,Exit.then])
  refine AS (g:=w.heap.size) rfl (by rfl) (by rfl) (Blk.new w 153 [.int .i64 2,.int .u32 0,.slice none 0 0,.slice none 0 0]) ?_;exact⟨(zR _ _).alloc _,⟨2,0,none,0,[],none,0,[]⟩,rfl,rfl,FD.ok.plain _ _ _,by decide,by decide⟩
theorem KK (s:ByteArray) (hs:s.size<=140737488355328):Calls Tryz.prog 114 #[.string s] w (FPost w ⟨4,0,LN s,[]⟩):=by
 obtain⟨w1,hw1⟩:=qY (w.alloc (.cells #[.int .i64 0,.int .u32 0,.slice none 0 0,.slice none 0 0] 153));have P1:Only [] w w1:=by rw[hw1];exact(zR _ _).alloc _
 have K1:Blk w1 w.heap.size 153 [.int .i64 0,.int .u32 0,.slice none 0 0,.slice none 0 0]:=by rw[hw1];exact Blk.new w _ _
 have hs1:w1.heap.size=w.heap.size+1:=by rw[hw1];simp
 obtain⟨cc,w3,hcv,hcc,hcm,P3,RS,hs3⟩:=FO w1 s.data.toList;have hul:s.data.toList.length=s.size:=by simp
 rw[hul] at hcv hcc hcm;have heta:(⟨s.data.toList.toArray⟩:ByteArray)=s:=Go.Joins.bytes_eta s;rw[heta] at hcv;have K3:=K1.only P3 (by simp);obtain⟨g0,f0,g1,f1,g2,f2,g3,f3⟩:=qF K3 0;rw[hw1] at hcv;have hcc2:(LN s).length<=cc:=by rw[JZ];exact hcc
 have hcm2:cc<=maxLen:=hcm (by unfold maxLen;omega);rw[hs1] at RS;rw[show(w.alloc (.cells #[.int .i64 0,.int .u32 0,.slice none 0 0,.slice none 0 0] 153)).heap.size=w.heap.size+1 by simp] at hcv;obtain⟨n,hn⟩:=qX s.size;rw[hn] at hcv;replace hcc:=AB hcc;replace hul:=AB hul;replace hn:=AB hn;replace hs1:=AB hs1;replace hw1:=AB hw1;replace heta:=AB heta;clear K1 hcm;go_enter Tryz.func114,Tryz.ntmps114
 go_wp2
 (try simp only[Exit.inBlock,Exit.then])
 have Y4:=W4.only w3 w.heap.size (.int .i64 4) (.int .u32 0) (.slice (some ⟨w.heap.size+1,0,none⟩) n cc) (.slice none 0 0);refine AS (g:=w.heap.size) rfl (by rfl) (by rfl) (W4.blk K3 (.int .i64 4) (.int .u32 0) (.slice (some ⟨w.heap.size+1,0,none⟩) n cc) (.slice none 0 0)) ?_;refine⟨(P1.trans P3 (by simp)).trans Y4 (fun x hx=>.inr (by simp at hx;omega)),⟨4,0,some ⟨w.heap.size+1,0,none⟩,cc,LN s,none,0,[]⟩,?_,rfl,⟨?_,RdG.nil,hcc2,hcm2,by simp,by simp,by simp⟩,Int.le_refl 0,show(0:Int)<=4294967295 by decide⟩
 ·unfold FD.val;dsimp only;rw[JZ,hn.out];rfl
 ·exact RdG.onlyL (mk:=.int .u8) RS Y4 (fun a ha _=>by injection ha with ha;subst ha;simp)
end
end Go.Proofs.YtfbhemmpobgdpaaGreatDoor
