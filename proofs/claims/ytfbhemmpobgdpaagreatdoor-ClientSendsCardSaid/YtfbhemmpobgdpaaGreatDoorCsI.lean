/- ClientSends: lemmas, from 'Layer 30: what a client says: its cells, what is to be sent,' on; what each asks for stands in it. -/
import Derived.Test.YtfbhemmpobgdpaaGreatDoorCsG
import Derived.Test.YtfbhemmpobgdpaaGreatDoorCsH
import Derived.Test.YtfbhemmpobgdpaaGreatDoorCsF
import Derived.Laws.EntriesVeiled
import Derived.Laws.Tables
import Derived.Test.YtfbhemmpobgdpaaGreatDoorCsA
set_option linter.all false
set_option maxRecDepth 100000
set_option maxHeartbeats 64000000
namespace Go.Proofs.YtfbhemmpobgdpaaGreatDoor
open Go.RowKit Go.MapKept
structure CK where
  grant : Int
  packet : Int
  bA : Option Addr
  bn : Nat
  bc : Nat
  bad : Bool
  wp : Nat
  cA : Option Addr
  cn : Nat
  cc : Nat
  broken : Bool
def ckS (K:CK) (sA:Option Addr) (sn sc:Nat):List SC:=[.v (.int .u32 K.grant),.v (.int .u32 K.packet),.v (.slice K.bA K.bn K.bc),.v (.bool K.bad),.v (AD K.wp),.v (.slice K.cA K.cn K.cc),.v (.bool K.broken),.v (.slice sA sn sc)]
def ckC (K:CK) (sA:Option Addr) (sn sc:Nat):List Value:=[.int .u32 K.grant,.int .u32 K.packet,.slice K.bA K.bn K.bc,.bool K.bad,AD K.wp,.slice K.cA K.cn K.cc,.bool K.broken,.slice sA sn sc]
structure TQ (p : Nat) (K : CK) (sA : Option Addr) (sc : Nat) (said : List Int) (M : WM) (S : WS) (w : World) : Prop where
  blk : Blk w p 89 (ckC K sA said.length sc)
  own : AN cu8 5 1 w 0 (.slice sA said.length sc) said
  wat : WAt w K.wp M
  abs : M.abs = S
  nd : (p :: (bkO sA ++ M.fp K.wp)).Nodup
def AG (p:Nat) (K:CK) (sA:Option Addr) (M:WM):List Nat:=p::(bkO sA++M.fp K.wp)
theorem AI {α:Type} {cf:α->List Value} {E size:Nat} {A:Option Addr} {c n:Nat} {l:List α}:StX (bkO A) (fun w=>AN cf E size w 0 (.slice A n c) l):=fun w w' hs he h=>by
 obtain⟨h1,h2|⟨g,cap,cur,e,hg,hh,hr⟩⟩:=h;·exact⟨h1,.inl h2⟩
 ·refine⟨h1,.inr ⟨g,cap,cur,e,hg,?_,hr⟩⟩;injection e with e1 e2 e3;exact(he g (by subst e1;simp[bkO])).trans hh
theorem TQ.st {p:Nat} {K:CK} {sA:Option Addr} {sc:Nat} {said:List Int} {M:WM} {S:WS}:StX (AG p K sA M) (TQ p K sA sc said M S):=fun w w' hs he h=>⟨(he p (by simp[AG])).trans h.blk,AI w w' hs (fun y hy=>he y (by simp[AG,hy])) h.own,WAt.st w w' hs (fun y hy=>he y (by unfold AG;simp only[qC,List.mem_append];exact .inr (.inr hy))) h.wat,h.abs,h.nd⟩
def TPost (p:Nat) (K:CK) (G:List Nat) (said:List Int) (S:WS) (v:Value) (w:World):Ending->World->Prop:=fun e w'=>∃x:(Option Addr×Nat)×WM,e = .returned v/\Only G w w'/\TQ p K x.1.1 x.1.2 said x.2 S w'/\StX (AG p K x.1.1 x.2) (TQ p K x.1.1 x.1.2 said x.2 S)/\∀y∈AG p K x.1.1 x.2,y<w'.heap.size/\(y∈G\/w.heap.size<=y)
def WQ0 (p:Nat) (M:WM) (S:WS) (w:World):Prop:=WAt w p M/\M.abs=S
theorem WQ0.st {p:Nat} {M:WM} {S:WS}:StX (M.fp p) (WQ0 p M S):=fun w w' hs he h=>⟨WAt.st w w' hs he h.1,h.2⟩
theorem tq_fin {p:Nat} {K:CK} {G:List Nat} {sA':Option Addr} {sc' n:Nat} {said':List Int} {M':WM} {S':WS} {w w1 w':World} {L1 β:List Nat} {hp:List HB} {v:Value} (C:Fx w G w1 L1 (M'.fp K.wp) (WQ0 K.wp M' S')) (H:Mem w1 L1 β hp w') (hβ:nm β 0=p) (h0:hp[0]? = some (.b true 89 (ckS K sA' n sc'))) (h1:hp[1]? = some (.s sA' sc' n 5 1 (said'.flatMap cu8))) (hn:said'.length=n) (hro:PJ hp=true):TPost p K G said' S' v w (.returned v) w':=by
 subst hn;subst hβ;have hW:=C.at H;have hb0:(HB.b true 89 (ckS K sA' said'.length sc')).blk (nm β 0)=some (nm β 0):=rfl;have hb1: ∀y∈bkO sA',(HB.s sA' sc' said'.length 5 1 (said'.flatMap cu8)).blk (nm β 1)=some y:=fun y hy=>by
  unfold bkO at hy;rw[Option.mem_toList] at hy;exact hy
 have key:=C.key H;have w0:nm β 0∈wrN β hp:=HW.2 ⟨0,_,nm β 0,h0,by
  have hl:=(List.getElem?_eq_some_iff.1 h0).1;rw[<-H.len] at hl;rw[nm,List.getD,List.getElem?_eq_getElem hl];rfl,rfl,hb0⟩
 have w1m: ∀y∈bkO sA',y∈wrN β hp:=fun y hy=>HW.2 ⟨1,_,nm β 1,h1,by
  have hl:=(List.getElem?_eq_some_iff.1 h1).1;rw[<-H.len] at hl;rw[nm,List.getD,List.getElem?_eq_getElem hl];rfl,rfl,hb1 y hy⟩
 have nd1:nm β 0∉bkO sA':=fun hy=>by
  have:=H.inj 0 1 _ _ (nm β 0) h0 h1 hb0 (hb1 _ hy);cases this
 have ap0:nm β 0∉M'.fp K.wp:=C.apart H hro 0 _ _ h0 hb0;have ap1: ∀y∈bkO sA',y∉M'.fp K.wp:=fun y hy=>C.apart H hro 1 _ y h1 (hb1 y hy);have T:TQ (nm β 0) K sA' sc' said' M' S' w':=⟨H.lies 0 _ h0,H.lies 1 _ h1,hW.1,hW.2,by
  rw[List.nodup_cons,qD];refine⟨fun h=>?_,FZ _,hW.1.nd,fun a ha b hb e=>?_⟩
  ·rcases qK h with h|h;·exact nd1 h
   ·exact ap0 h
  ·subst e;exact ap1 a ha hb⟩
 refine⟨((sA',sc'),M'),rfl,C.fin H,T,TQ.st,fun y hy=>?_⟩;unfold AG at hy;rcases qC.1 hy with rfl|hy;·exact⟨H.wrN_lt _ w0,(key _ w0).2⟩
 ·rcases qK hy with hy|hy;·exact⟨H.wrN_lt _ (w1m y hy),(key _ (w1m y hy)).2⟩
  ·have:=C.own y hy;exact⟨zT this.1 H.only.size,this.2.2⟩
section
variable {f:FuncId} {R:Ending -> World -> Prop} {n:Nat} {w0 w00:World} {G L:List Nat} {β:List Nat} {m:SM} {p:Nat} {M:WM} {S:WS}
theorem Hs.callSaysB (C:Fx w00 G w0 L (M.fp p) (WQ0 p M S)) (x:MD) (hf: ∀x∈S.opens,x.2.length<=1000000) (hw:U32 x.window) (hc:FG Tryz.prog n β m=some (54,#[AD p,x.val])) (hro:PJ m.hp=true)
  (h: ∀M' w1 L1,Fx w00 G w1 L1 (M'.fp p) (WQ0 p M' (FS S x))->Hs Tryz.prog f R n w1 L1 β (m.put (BD m) (.c (.v (.tuple #[]))) m.hp)):Hs Tryz.prog f R n w0 L β m:=
 Hs.callFxB (X:=WM) (fun _=>.tuple #[]) (fun M'=>M'.fp p) (fun M'=>WQ0 p M' (FS S x)) C (fun w H hq=>(says_any M p x w hq.1 (fun x hx=>by
  have:=hq.2;subst this;exact hf (x.1,x.2.l) (List.mem_map.2 ⟨x,hx,rfl⟩)) hw).mono fun e w' ⟨M',h1,h2,h3,h4,h5⟩=>⟨M',h1,h2,⟨h3,by rw[h4,hq.2]⟩,WQ0.st,h5⟩) hc hro fun M' w1 L1 C1 _ _=>h M' w1 L1 C1
end
def BN (said:List Int) (m:MD):List Int:=said++BB m
def CW (S:WS) (m:MD):WS:=if(BZ m).1≠0 then S else if EI (BZ m).2.length then FS S m else S
theorem KG (p:Nat) (K:CK) (sA:Option Addr) (sc:Nat) (said:List Int) (M:WM) (S:WS) (m:MD) (w:World) (h:TQ p K sA sc said M S w) (hm:DE w (AG p K sA M) (fun w=>m.ok w)) (hs:m.name.size<=140737488355328) (hl:m.lang.size<=140737488355328) (hf: ∀x∈S.opens,x.2.length<=1000000) (hsz:said.length<=100000000):Calls Tryz.prog 26 #[AD p,m.val] w (TPost p K (AG p K sA M) (BN said m) (CW S m) (.tuple #[]) w):=by
 have hwin:=hm.at.nums.2.2.1;obtain⟨r,hr⟩:=qX (BZ m);have hE:=fun w' (H:Only (AG p K sA M) w w')=>enc_x m w' (hm w' H) hs hl;rw[hr] at hE;obtain⟨e,l⟩:=r;obtain⟨N,hN⟩:=qX l.length;obtain⟨n,hn⟩:=qX said.length;dsimp only at hE;rw[hN] at hE;have hblk:=h.blk;have hown:=h.own;rw[hn] at hblk hown;unfold AN at hown;rw[hn] at hown;have hnd:=h.nd;have hnd2:=hnd;rw[List.nodup_cons,qD] at hnd2;have C:Fx w (AG p K sA M) w (bks [p,0] [.b true 89 (ckS K sA n sc),.s sA sc n 5 1 (said.flatMap cu8)]) (M.fp K.wp) (WQ0 K.wp M S):=Fx.start (fun x hx=>by
  have hx2:x∈p::(bkO sA++[]):=hx;unfold AG;rw[qN] at hx2;rcases qC.1 hx2 with h|h;·subst h;simp
  ·simp[h]) ⟨h.wat,h.abs⟩ (fun x hx=>⟨h.wat.lt x hx,fun hx2=>by
  have hx2:x∈p::(bkO sA++[]):=hx2;rw[qN] at hx2;rcases qC.1 hx2 with e|e;·subst e;exact hnd2.1 (qJ (.inr hx))
  ·exact hnd2.2.2.2 x e x hx rfl,by unfold AG;simp[hx]⟩) WQ0.st
 have hnb:(bks [p,0] [.b true 89 (ckS K sA n sc),.s sA sc n 5 1 (said.flatMap cu8)]).Nodup:=by
  show(p::(bkO sA++[])).Nodup;rw[qN,List.nodup_cons];exact⟨fun h=>hnd2.1 (qJ (.inl h)),FZ _⟩
 have hLG: ∀x∈bks [p,0] [.b true 89 (ckS K sA n sc),.s sA sc n 5 1 (said.flatMap cu8)],x∈AG p K sA M:=fun x hx=>(C.mem x hx).elim id fun h2=>by
  have:=(Mem.startN (w:=w) rfl hnb ⟨hblk,hown,trivial⟩).bks rfl;have:=(this.2 x hx).2;omega
 obtain⟨gr,pa,bA,bn,bc,bad,wp,cA,cn,cc,br⟩:=K;refine Hs.en Tryz.func26 _ [p,0] [.b true 89 (ckS ⟨gr,pa,bA,bn,bc,bad,wp,cA,cn,cc,br⟩ sA n sc),.s sA sc n 5 1 (said.flatMap cu8)] [.c (.p 0 0),.g (mdS' m)] (Mem.startN rfl hnb ⟨hblk,hown,trivial⟩) ?_;refine Hs.e1 fun b0=>?_;refine Hs.callS (cf:=cu8) (E:=5) (size:=1) (fun A cap=>.tuple #[.slice A N cap,.int .i64 e]) l N hN (fun w' H=>hE w' (H.only.mono hLG)) (by kernel_rfl) (by kernel_rfl) fun A c h1 h2=>?_;refine Hs.e0 ?_;refine Hs.cn (e !=0) (fun he=>?_) (fun he=>?_)
 ·have he:e≠0:=by simpa using he
  have e1:BN said m=said:=by unfold BN BB;rw[hr,if_pos he,qN]
  have e2:CW S m=S:=by unfold CW;rw[hr,if_pos he]
  rw[e1,e2];refine Hs.e0 ?_;exact Hs.rt (v:=.tuple #[]) Tryz.func26 fun w' H=>tq_fin (sA':=sA) (sc':=sc) (n:=n) C H rfl (by kernel_rfl) (by kernel_rfl) hn (by kernel_rfl)
 have he:e=0:=by simpa using he
 refine Hs.e0 ?_;by_cases hf2:EI N=true
 ·have ep:BB m=JQ N++l:=by unfold BB;rw[hr,if_neg (by simp[he])];dsimp only;rw[hN,if_pos hf2]
  have el:(JQ N++l).length=4+N:=by rw[zE,hN];rfl
  have hN3:N<=33792:=by unfold EI at hf2;simp at hf2;omega
  have e2:CW S m=FS S m:=by unfold CW;rw[hr,if_neg (by simp[he])];dsimp only;rw[hN,if_pos hf2]
  rw[e2,BN,ep];refine Hs.callS (cf:=cu8) (E:=5) (size:=1) (fun A cap=>.tuple #[.slice A (4+N) cap,.int .i64 0]) (JQ N++l) (4+N) el (fun w' H=>(RO l N hN A c w' (H.rdX (cf:=cu8) (l:=l) 3 hN (A:=A) (cap:=c) (E:=5) (size:=1) (by kernel_rfl))).mono fun e w2 ⟨x,O,hx⟩=>by
   rw[if_pos hf2] at hx;exact⟨x.1,x.2,hx.1,O,hx.2⟩) (by kernel_rfl) (by kernel_rfl) fun A2 c2 g1 g2=>?_
  refine Hs.e0 ?_;refine Hs.cT ?_;refine Hs.e0 ?_;refine Hs.app (c:=c2) (ty:=30) 1 CY said (JQ N++l) n (4+N) hn el IL BT (A:=sA) (B:=A2) (cap:=sc) (by kernel_rfl) (by kernel_rfl) (by kernel_rfl) (fun w' H=>H.rdX (cf:=cu8) (l:=JQ N++l) 4 el (A:=A2) (cap:=c2) (E:=5) (size:=1) (by kernel_rfl)) (by unfold maxLen;omega) (UI (by omega)) fun A3 c3 g3=>?_;refine Hs.e0 ?_;refine Hs.any [0,2] (by kernel_rfl) ?_;refine Hs.e0 ?_;refine Hs.callSaysB C m hf hwin (by kernel_rfl) (by kernel_rfl) fun M' w1 L1 C1=>?_;refine Hs.e0 ?_;exact Hs.rt (v:=.tuple #[]) Tryz.func26 fun w' H=>tq_fin (sA':=A3) (sc':=c3) (n:=n+(4+N)) C1 H rfl (by kernel_rfl) (by kernel_rfl) (by rw[zE,hn,el]) (by kernel_rfl)
 ·have ep:BB m=[]:=by unfold BB;rw[hr,if_neg (by simp[he])];dsimp only;rw[hN,if_neg hf2]
  have e2:CW S m=S:=by unfold CW;rw[hr,if_neg (by simp[he])];dsimp only;rw[hN,if_neg hf2]
  rw[e2,BN,ep,qN];refine Hs.cV (v:=.tuple #[.slice none 0 0,.int .i64 5]) (fun w' H=>(RO l N hN A c w' (H.rdX (cf:=cu8) (l:=l) 3 hN (A:=A) (cap:=c) (E:=5) (size:=1) (by kernel_rfl))).mono fun e w2 ⟨x,O,hx⟩=>by
   rw[if_neg hf2] at hx;exact⟨hx,O⟩) ?_
  refine Hs.e0 ?_;refine Hs.cF ?_;refine Hs.e0 ?_;exact Hs.rt (v:=.tuple #[]) Tryz.func26 fun w' H=>tq_fin (sA':=sA) (sc':=sc) (n:=n) C H rfl (by kernel_rfl) (by kernel_rfl) hn (by kernel_rfl)
theorem HC (p:Nat) (K:CK) (sA:Option Addr) (sc:Nat) (said:List Int) (M:WM) (S:WS) (w:World) (h:TQ p K sA sc said M S w):Calls Tryz.prog 27 #[AD p] w fun e w'=>e = .returned (.slice sA said.length sc)/\Only [p] w w'/\TQ p K none 0 [] M S w'/\AN cu8 5 1 w' 0 (.slice sA said.length sc) said:=by
 have hnd:=h.nd;rw[List.nodup_cons,qD] at hnd;have hb:=h.blk;refine Hs.en Tryz.func27 [p] [p] [.b true 89 (ckS K sA said.length sc)] [.c (.p 0 0)] (Mem.one w p hb) ?_;refine Hs.e0 ?_;refine Hs.rt (v:=.slice sA said.length sc) Tryz.func27 fun w' H=>?_;have O:=H.only;have hB:Blk w' p 89 (ckC K none 0 0):=H.at 0 (wr:=true) (T:=89) (cs:=ckS K none 0 0) (by kernel_rfl);have hW:WAt w' K.wp M:=WAt.st w w' O.size (fun x hx=>O.block x (h.wat.lt x hx) (fun e=>by
  rw[qS] at e;subst e;exact hnd.1 (qJ (.inr hx)))) h.wat
 refine⟨rfl,O,⟨hB,World.ownsRow_nil w' 0 _ _,hW,h.abs,?_⟩,?_⟩
 ·rw[List.nodup_cons];exact⟨fun e=>hnd.1 (qJ (.inr (by simpa[bkO] using e))),by simpa[bkO] using h.wat.nd⟩
 ·refine AI w w' O.size (fun x hx=>O.block x ?_ (fun e=>by
   rw[qS] at e;subst e;exact hnd.1 (qJ (.inl hx)))) h.own
  obtain⟨_,⟨h2,_⟩|⟨g,cap,cur,e,hg,hh,hr⟩⟩:=h.own;·injection h2 with h2;subst h2;simp[bkO] at hx
  ·injection e with e1;subst e1;simp only[bkO,Option.map_some,Option.toList_some,qS] at hx;subst hx;exact(Array.getElem?_eq_some_iff.1 hh).1
theorem ZY (M:WM) (p:Nat) (w:World) (hb:Blk w p 131 M.cells):Calls Tryz.prog 30 #[AD p] w fun e w'=>e = .returned (.bool M.dead)/\Only [] w w':=by
 refine Hs.en Tryz.func30 [] [p] [.b false 131 (wS M)] [.c (.p 0 0)] (Mem.rdOne w p hb) ?_;refine Hs.e0 ?_;refine Hs.eg [2] ?_;exact Hs.rt (v:=.bool M.dead) Tryz.func30 fun w' H=>⟨rfl,H.only⟩
theorem OZ (p:Nat) (K:CK) (sA:Option Addr) (sc n:Nat) (M:WM) (w:World) (hb:Blk w p 89 (ckC K sA n sc)) (hw:Blk w K.wp 131 M.cells):Calls Tryz.prog 25 #[AD p] w fun e w'=>e = .returned (.bool (K.broken||M.dead))/\Only [] w w':=by
 obtain⟨gr,pa,bA,bn,bc,bad,wp,cA,cn,cc,br⟩:=K;dsimp only at hw⊢;refine Hs.en Tryz.func25 [] [p] [.b false 89 (ckS ⟨gr,pa,bA,bn,bc,bad,wp,cA,cn,cc,br⟩ sA n sc)] [.c (.p 0 0)] (Mem.rdOne w p hb) ?_;refine Hs.e0 ?_;refine Hs.bool 7 br (by kernel_rfl) (fun h=>?_) (fun h=>?_)
 ·refine Hs.eg [4] ?_;exact Hs.rt (v:=.bool true) Tryz.func25 fun w' H=>⟨by rw[h];rfl,H.only⟩
 ·refine Hs.eg [4] ?_;refine Hs.cV (fun w' H=>ZY M wp w' ((H.only.block wp (Blk.lt hw) (by simp)).trans hw)) ?_;refine Hs.eg [4] ?_;exact Hs.rt (v:=.bool M.dead) Tryz.func25 fun w' H=>⟨by rw[h];rfl,H.only⟩
section
variable {P:Program} {f:FuncId} {R:Ending -> World -> Prop} {n:Nat} {w0:World} {L:List Nat} {β:List Nat} {m:SM}
theorem Hs.idxK {tS E size bytes:Nat} (ht:ElemT P tS E size bytes) (k:IntKind) {b off len c i:Nat} (hi:i<len) (hs:DO n β m=some (GK (Instr.indexAt tS (.slice (some ⟨b,off,none⟩) len c) (.int k i)))) (h:Hs P f R n w0 L β (m.put (BD m) (.c (.v (.pointer (some ⟨b,off+i*size,none⟩)))) m.hp)):Hs P f R n w0 L β m:=
 Hs.opV (.c (.v (.pointer (some ⟨b,off+i*size,none⟩)))) hs rfl (fun w _=>by
  obtain⟨hu,⟨i0,z,hinfo,_,hsz,_⟩,_⟩:=ht;have h1:(0:Int)<=(i:Int)/\(i:Int)<(len:Int):=⟨by omega,by omega⟩;simp[Instr.indexAt,asIntOf,run_underlying hu,sizeOf,typeInfo,hinfo,hsz,h1,hi,Addr.add_mid];rfl) h
end
def cPt (b:Nat):List Value:=[AD b]
theorem cPt_len (b:Nat):(cPt b).length=1:=rfl
theorem elemPt:ElemT Tryz.prog 87 90 1 (Tryz.prog.bytesOf 90):=IZ (z:=.pointer none) (by kernel_rfl) (by kernel_rfl) (by decide) (by decide)
theorem SY (p:Nat) (K:CK) (sA:Option Addr) (sc sn:Nat) (bs:List Nat) (i:Nat) (w:World) (hb:Blk w p 89 (ckC K sA sn sc)) (hr:RdX cPt w K.cA bs) (hn:bs.length=K.cn) (hm:K.cn<=1000) (hi:i<4294967296):Calls Tryz.prog 45 #[AD p,.int .u32 i] w fun e w'=>e = .returned (optV bs[i]?)/\Only [] w w':=by
 obtain⟨gr,pa,bA,bn,bc,bad,wp,cA,cn,cc,br⟩:=K;dsimp only at hr hn hm;have e1:IntKind.u64.wrap (i:Int)=(i:Int):=by rw[IntKind.wrap_u64];omega
 have e2:IntKind.u64.wrap (cn:Int)=(cn:Int):=by rw[IntKind.wrap_u64];omega
 refine Hs.en Tryz.func45 [] [p] [.b false 89 (ckS ⟨gr,pa,bA,bn,bc,bad,wp,cA,cn,cc,br⟩ sA sn sc)] [.c (.p 0 0),.c (.v (.int .u32 i))] (Mem.rdOne w p hb) ?_;refine Hs.e0 ?_;refine Hs.eg [2] ?_;refine Hs.cP (IntKind.u64.wrap (i:Int)>=IntKind.u64.wrap (cn:Int)) (fun h=>?_) (fun h=>?_)
 ·rw[e1,e2] at h;have e:bs[i]? = none:=List.getElem?_eq_none (by omega);refine Hs.e0 ?_;exact Hs.rt (v:=.pointer none) Tryz.func45 fun w' H=>⟨by rw[e];rfl,H.only⟩
 rw[e1,e2] at h;obtain⟨x,hx⟩: ∃x,bs[i]? = some x:=⟨_,List.getElem?_eq_getElem (by omega)⟩;obtain⟨b,off,hA,_,_⟩:=hr (by omega);subst hA;refine Hs.e0 ?_;refine Hs.idxK elemPt .u32 (b:=b) (off:=off) (len:=cn) (c:=cc) (i:=i) (by omega) (by kernel_rfl) ?_;refine Hs.e0 ?_;refine Hs.ldc (E':=90) (b:=b) (off:=off+i*1) (AD x) (by kernel_rfl) (fun w' H=>ES cPt_len (hr.only H.only) hx (j:=0) rfl) (by kernel_rfl) ?_;refine Hs.e0 ?_;exact Hs.rt (v:=AD x) Tryz.func45 fun w' H=>⟨by rw[hx];rfl,H.only⟩
theorem iZ (w:World):Calls Tryz.prog 24 #[] w fun e w'=>∃(p:Nat) (M:WM),e = .returned (AD p)/\Only [] w w'/\WAt w' p M/\M.abs=newW/\∀y∈M.fp p,y<w'.heap.size/\w.heap.size<=y:=by
 refine Hs.en Tryz.func24 [] [] [] [] (Mem.start0 w) ?_;refine Hs.e0 ?_;refine Hs.mkM (T:=127) (kI .u32) (by kernel_rfl) (by kernel_rfl) fun ob=>?_;refine Hs.mkM (T:=128) (kI .u32) (by kernel_rfl) (by kernel_rfl) fun eb=>?_;refine Hs.mkM (T:=129) (kI .u32) (by kernel_rfl) (by kernel_rfl) fun nb=>?_;refine Hs.e1 fun p=>?_;refine Hs.rt (v:=AD p) Tryz.func24 fun w' H=>?_;have H2:=H.sub [0,1,2,3] (by decide) (hp':=[HB.mp (kI .u32) ob [],HB.mp (kI .u32) eb [],HB.mp (kI .u32) nb [],.b true 131 [.v (.map (some ob)),.v (.int .i64 0),.v (.map (some eb)),.v (.map (some nb)),.v (.bool false)]]) (by kernel_rfl);obtain⟨hnd,hfr⟩:=H2.bks rfl;have hnd:[ob,eb,nb,p].Nodup:=hnd;refine⟨p,⟨ob,eb,nb,[],0,[],[],false⟩,rfl,H.only,⟨H2.at 3 (wr:=true) (T:=131) (cs:=[.v (.map (some ob)),.v (.int .i64 0),.v (.map (some eb)),.v (.map (some nb)),.v (.bool false)]) rfl,H2.mapM 0 (r:=ob) (ke:=kI .u32) (es:=([]:List (Int×Value))) rfl,H2.mapM 1 (r:=eb) (ke:=kI .u32) (es:=([]:List (Int×Value))) rfl,H2.mapM 2 (r:=nb) (ke:=kI .u32) (es:=([]:List (Int×Value))) rfl,by simp,by simp,?_,by simp[IV],by simp[IV],by simp[IV]⟩,rfl,fun y hy=>?_⟩
 ·simp only[WM.fp,fpA,List.flatMap_nil,qN];simp only[List.nodup_cons,qC,List.not_mem_nil,or_false,not_or,List.nodup_nil,not_false_eq_true,and_true] at hnd⊢;exact⟨⟨fun e=>hnd.1.2.2 e.symm,fun e=>hnd.2.1.2 e.symm,fun e=>hnd.2.2 e.symm⟩,⟨hnd.1.1,hnd.1.2.1⟩,hnd.2.1.1⟩
 ·simp only[WM.fp,fpA,List.flatMap_nil,qN] at hy;have h1:y∈[ob,eb,nb,p]:=by
   simp only[qC,List.not_mem_nil,or_false] at hy⊢;rcases hy with h|h|h|h;·exact .inr (.inr (.inr h))
   ·exact .inl h
   ·exact .inr (.inl h)
   ·exact .inr (.inr (.inl h))
  have:=hfr y h1;exact⟨this.2,this.1.resolve_left (by simp)⟩
def NK (g p:Int):Bool:=!(decide (g<1)) && !(decide (g>1048576)) && !(decide (p<1)) && !(decide (p>32768))
def QI (g pk:Int) (wp:Nat):CK:=⟨g,pk,none,0,0,false,wp,none,0,0,false⟩
theorem cnew_any (g pk:Int) (w:World):Calls Tryz.prog 7 #[.int .u32 g,.int .u32 pk] w fun e w'=>if NK g pk=true then∃(p wp:Nat) (M:WM),e = .returned (.tuple #[AD p,.int .i64 0])/\Only [] w w'/\TQ p (QI g pk wp) none 0 [] M newW w'/\∀y∈AG p (QI g pk wp) none M,y<w'.heap.size/\w.heap.size<=y else e = .returned (.tuple #[.pointer none,.int .i64 2])/\Only [] w w':=by
 refine Hs.en Tryz.func7 [] [] [] [.c (.v (.int .u32 g)),.c (.v (.int .u32 pk))] (Mem.start0 w) ?_;refine Hs.e0 ?_;refine Hs.bool 8 (decide (g<1)) (by kernel_rfl) (fun h1=>?_) (fun h1=>?_)
 ·have e:NK g pk=false:=by unfold NK;rw[h1];rfl
  refine Hs.eg [2,6,10] ?_;refine Hs.cT ?_;refine Hs.e0 ?_;exact Hs.rt (v:=.tuple #[.pointer none,.int .i64 2]) Tryz.func7 fun w' H=>by rw[if_neg (by rw[e];decide)];exact⟨rfl,H.only⟩
 refine Hs.eg [2] ?_;refine Hs.bool 12 (decide (g>1048576)) (by kernel_rfl) (fun h2=>?_) (fun h2=>?_)
 ·have e:NK g pk=false:=by unfold NK;rw[h1,h2];rfl
  refine Hs.eg [2,6,10] ?_;refine Hs.cT ?_;refine Hs.e0 ?_;exact Hs.rt (v:=.tuple #[.pointer none,.int .i64 2]) Tryz.func7 fun w' H=>by rw[if_neg (by rw[e];decide)];exact⟨rfl,H.only⟩
 refine Hs.eg [2,6] ?_;refine Hs.bool 16 (decide (pk<1)) (by kernel_rfl) (fun h3=>?_) (fun h3=>?_)
 ·have e:NK g pk=false:=by unfold NK;rw[h1,h2,h3];rfl
  refine Hs.eg [2,6,10] ?_;refine Hs.cT ?_;refine Hs.e0 ?_;exact Hs.rt (v:=.tuple #[.pointer none,.int .i64 2]) Tryz.func7 fun w' H=>by rw[if_neg (by rw[e];decide)];exact⟨rfl,H.only⟩
 refine Hs.eg [2,6,10] ?_;refine Hs.cn (decide (pk>32768)) (fun h4=>?_) (fun h4=>?_)
 ·have e:NK g pk=false:=by unfold NK;rw[h1,h2,h3,h4];rfl
  refine Hs.e0 ?_;exact Hs.rt (v:=.tuple #[.pointer none,.int .i64 2]) Tryz.func7 fun w' H=>by rw[if_neg (by rw[e];decide)];exact⟨rfl,H.only⟩
 have e:NK g pk=true:=by unfold NK;rw[h1,h2,h3,h4];rfl
 refine Hs.e0 ?_;have C0:Fx w [] w [] [] (fun _=>True):=Fx.start0;refine Hs.callFxB (X:=Nat×WM) (fun z=>AD z.1) (fun z=>z.2.fp z.1) (fun z=>WQ0 z.1 z.2 newW) C0 (fun w H _=>(iZ w).mono fun e w' ⟨p,M',h1,h2,h3,h4,h5⟩=>⟨(p,M'),h1,h2,⟨h3,h4⟩,WQ0.st,fun y hy=>⟨(h5 y hy).1,.inr (h5 y hy).2⟩⟩) (by kernel_rfl) (by kernel_rfl) fun z w1 L1 C1 _ _=>?_;obtain⟨wp,M⟩:=z;refine Hs.e1 fun b0=>?_;exact Hs.rt (v:=.tuple #[AD b0,.int .i64 0]) Tryz.func7 fun w' H=>by
  rw[if_pos e];have hq:=C1.at H;have hap:b0∉M.fp wp:=C1.apart H (by kernel_rfl) 0 (.b true 89 (ckS (QI g pk wp) none 0 0)) b0 (by kernel_rfl) rfl;have hb:Blk w' b0 89 (ckC (QI g pk wp) none 0 0):=H.at 0 (wr:=true) (T:=89) (cs:=ckS (QI g pk wp) none 0 0) (by kernel_rfl);refine⟨b0,wp,M,rfl,C1.fin H,⟨hb,World.ownsRow_nil w' 0 _ _,hq.1,hq.2,?_⟩,fun y hy=>?_⟩
  ·rw[List.nodup_cons];exact⟨fun h=>hap (by simpa[bkO,QI] using h),by simpa[bkO,QI] using hq.1.nd⟩
  ·unfold AG at hy;rcases qC.1 hy with rfl|hy
   ·refine⟨Blk.lt hb,?_⟩;rcases H.own 0 (.b true 89 (ckS (QI g pk wp) none 0 0)) y (by kernel_rfl) rfl rfl with h|h;·exact(C1.mem y h).resolve_left (by simp)
    ·exact Nat.le_trans C1.only.size h
   ·have hy:y∈M.fp wp:=by simpa[bkO,QI] using hy
    exact⟨zT (C1.own y hy).1 H.only.size,(C1.own y hy).2.2.resolve_left (by simp)⟩
theorem keyC:KeyT Tryz.prog 142 3 140 (.nilFunc) (kI .i64):=⟨(by kernel_rfl),fun w=>by kernel_rfl,⟨.int .i64,by kernel_rfl,fun a=>rfl⟩,kI_inj⟩
def fV (f:Nat):Value:=.func (.func f) #[] #[]
def comL:List (Int×Value):=[(91,fV 91),(92,fV 92),(93,fV 93),(94,fV 94),(95,fV 94),(97,fV 95),(98,fV 96),(99,fV 97),(100,fV 97)]
theorem eM (w:World):Calls Tryz.prog 61 #[] w fun e w'=>∃r:Nat,e = .returned (.map (some r))/\Only [] w w'/\BQ (kI .i64) w' r comL/\∀a,(some ⟨r,0,none⟩:Option Addr)=some a->w.heap.size<=a.block/\a.block<w'.heap.size:=by
 refine Hs.en Tryz.func61 [] [] [] [] (Mem.start0 w) ?_;refine Hs.e0 ?_;refine Hs.mkM (T:=142) (kI .i64) (by kernel_rfl) (by kernel_rfl) fun r=>?_;refine Hs.e0 ?_;refine Hs.putM (r:=r) (es:=[]) 0 keyC 91 (fV 91) (by kernel_rfl) (by kernel_rfl) (by kernel_rfl) (by kernel_rfl) ?_;refine Hs.e0 ?_;refine Hs.putM (r:=r) (es:=[(91,fV 91)]) 0 keyC 92 (fV 92) (by kernel_rfl) (by kernel_rfl) (by kernel_rfl) (by kernel_rfl) ?_;refine Hs.e0 ?_;refine Hs.putM (r:=r) (es:=[(91,fV 91),(92,fV 92)]) 0 keyC 93 (fV 93) (by kernel_rfl) (by kernel_rfl) (by kernel_rfl) (by kernel_rfl) ?_;refine Hs.e0 ?_;refine Hs.putM (r:=r) (es:=[(91,fV 91),(92,fV 92),(93,fV 93)]) 0 keyC 94 (fV 94) (by kernel_rfl) (by kernel_rfl) (by kernel_rfl) (by kernel_rfl) ?_;refine Hs.e0 ?_;refine Hs.putM (r:=r) (es:=[(91,fV 91),(92,fV 92),(93,fV 93),(94,fV 94)]) 0 keyC 95 (fV 94) (by kernel_rfl) (by kernel_rfl) (by kernel_rfl) (by kernel_rfl) ?_;refine Hs.e0 ?_;refine Hs.putM (r:=r) (es:=[(91,fV 91),(92,fV 92),(93,fV 93),(94,fV 94),(95,fV 94)]) 0 keyC 97 (fV 95) (by kernel_rfl) (by kernel_rfl) (by kernel_rfl) (by kernel_rfl) ?_;refine Hs.e0 ?_;refine Hs.putM (r:=r) (es:=[(91,fV 91),(92,fV 92),(93,fV 93),(94,fV 94),(95,fV 94),(97,fV 95)]) 0 keyC 98 (fV 96) (by kernel_rfl) (by kernel_rfl) (by kernel_rfl) (by kernel_rfl) ?_;refine Hs.e0 ?_;refine Hs.putM (r:=r) (es:=[(91,fV 91),(92,fV 92),(93,fV 93),(94,fV 94),(95,fV 94),(97,fV 95),(98,fV 96)]) 0 keyC 99 (fV 97) (by kernel_rfl) (by kernel_rfl) (by kernel_rfl) (by kernel_rfl) ?_;refine Hs.e0 ?_;refine Hs.putM (r:=r) (es:=[(91,fV 91),(92,fV 92),(93,fV 93),(94,fV 94),(95,fV 94),(97,fV 95),(98,fV 96),(99,fV 97)]) 0 keyC 100 (fV 97) (by kernel_rfl) (by kernel_rfl) (by kernel_rfl) (by kernel_rfl) ?_;refine Hs.e0 ?_;exact Hs.rt (v:=.map (some r)) Tryz.func61 fun w' H=>⟨r,rfl,H.only,H.mapM 0 (es:=comL) (by kernel_rfl),fun a ha=>by
  injection ha with ha;subst ha;exact⟨(H.own 0 (HB.mp (kI .i64) r comL) r (by kernel_rfl) rfl rfl).resolve_left (by simp),(H.mapM 0 (ke:=kI .i64) (r:=r) (es:=comL) (by kernel_rfl)).lt⟩⟩
end Go.Proofs.YtfbhemmpobgdpaaGreatDoor
namespace Go.Proofs.YtfbhemmpobgdpaaGreatDoor
open Go.RowKit
theorem putR_pf0 (k:Nat) (h1:1<=k) (h2:k<=10) {fs gs:List FD} (hk:fs.map (fun f=>f.pf.kind)=CQ k) (h:fs.map FD.pf=gs.map FD.pf):SameR (putR (IE k) k fs) (putR (IE k) k gs):=by
 have T: ∀{x y:FD},y.pf=x.pf->strOfNums y.text=strOfNums x.text:=fun {x y} e=>by rw[show y.text=x.text from congrArg PF.text e]
 have N: ∀{x y:FD},y.pf=x.pf->y.n=x.n:=fun e=>congrArg PF.n e;have B: ∀{x y:FD},y.pf=x.pf->decide (y.n=1)=decide (x.n=1):=fun {x y} e=>by rw[show y.n=x.n from congrArg PF.n e]
 rcases k10 h1 h2 with rfl|rfl|rfl|rfl|rfl|rfl|rfl|rfl|rfl|rfl
 ·obtain⟨a,b,c,d,e,f,rfl,_⟩:=ks6 hk;obtain⟨a',b',c',d',e',f',rfl,ha,hb,hc,hd,he,hf⟩:=fs6 h.symm;exact⟨rfl,T ha,rfl,rfl,N hb,N hc,N hd,N he,rfl,rfl,congrArg PF.text hf⟩
 ·obtain⟨a,b,rfl,_⟩:=ks2 hk;obtain⟨a',b',rfl,ha,hb⟩:=fs2 h.symm;exact⟨rfl,T ha,T hb,rfl,rfl,rfl,rfl,rfl,rfl,rfl,rfl⟩
 ·exact SameR.refl _
 ·obtain⟨a,rfl,_⟩:=ks1 hk;obtain⟨a',rfl,ha⟩:=fs1 h.symm;exact⟨rfl,T ha,rfl,rfl,rfl,rfl,rfl,rfl,rfl,rfl,rfl⟩
 ·obtain⟨a,rfl,_⟩:=ks1 hk;obtain⟨a',rfl,ha⟩:=fs1 h.symm;exact⟨rfl,T ha,rfl,rfl,rfl,rfl,rfl,rfl,rfl,rfl,rfl⟩
 ·obtain⟨b,c,d,e,rfl,_⟩:=ks4 hk;obtain⟨b',c',d',e',rfl,hb,hc,hd,he⟩:=fs4 h.symm;exact⟨rfl,rfl,rfl,rfl,N hb,N hc,N hd,N he,rfl,rfl,rfl⟩
 ·obtain⟨a,rfl,_⟩:=ks1 hk;obtain⟨a',rfl,ha⟩:=fs1 h.symm;exact⟨rfl,rfl,rfl,rfl,rfl,rfl,rfl,rfl,B ha,rfl,rfl⟩
 ·obtain⟨a,rfl,_⟩:=ks1 hk;obtain⟨a',rfl,ha⟩:=fs1 h.symm;exact⟨rfl,T ha,rfl,rfl,rfl,rfl,rfl,rfl,rfl,rfl,rfl⟩
 ·obtain⟨a,rfl,_⟩:=ks1 hk;obtain⟨a',rfl,ha⟩:=fs1 h.symm;exact⟨rfl,rfl,rfl,rfl,rfl,rfl,rfl,rfl,rfl,N ha,rfl⟩
 ·obtain⟨a,b,c,d,rfl,_⟩:=ks4 hk;obtain⟨a',b',c',d',rfl,ha,hb,hc,hd⟩:=fs4 h.symm;exact⟨rfl,T ha,T hc,T hd,rfl,rfl,rfl,rfl,B hb,rfl,rfl⟩
theorem jB {s:ByteArray} {l:List Int} (hl:InB l) {a b:RQ} {E F:Int} (h:LQ s l a E) (g:LQ s l b F):F=E/\SameR a b:=by
 unfold LQ at h g;cases hk:aN s.data.toList with
 |none=>
  rw[hk] at h g;exact⟨g.1.trans h.1.symm,by rw[h.2,g.2];exact SameR.refl _⟩
 |some k=>
  rw[hk] at h g;obtain⟨h1,h2,_⟩:=UN hk;dsimp only at h g;unfold DecK at h g;by_cases h0:(AR (CQ k) l).1≠0
  ·rw[if_pos h0] at h g;exact⟨g.1.trans h.1.symm,by rw[h.2,g.2];exact SameR.refl _⟩
  ·rw[if_neg h0] at h g;obtain⟨fs,e1,h⟩:=h;obtain⟨gs,e2,g⟩:=g;have hkk:fs.map (fun f=>f.pf.kind)=CQ k:=by
    have:=(XZ (CQ k) l hl (by simpa using h0)).1;rw[<-e1,List.map_map] at this;exact this
   have hs:=putR_pf0 k h1 h2 hkk (e1.trans e2.symm);have ha:=askR_same hs k h1 h2;rw[ha] at g;split at h
   ·rename_i hf;rw[if_pos hf] at g;exact⟨g.1.trans h.1.symm,by rw[h.2,g.2];exact hs⟩
   ·rename_i hf;rw[if_neg hf] at g;exact⟨g.1.trans h.1.symm,by rw[h.2,g.2];exact SameR.refl _⟩
theorem CX {P:Program} {ops:Array Oper} {rest:List Oper} {o:Oper} {a:Act} {w:World} {Q:Exit->Act->World->Prop} (d:Tmp) (hd:o.dst=some d) (hg:o.guard=none) (t:TypeId) (parts:Array (Nat×Operand)) (ho:o.op = .build t parts)
  (cells:Array Value) (hf:P.built t (parts.map fun(i,x)=>(i,a.eval x)).toList=some cells)
  (h:wpList P ops Q rest (a.put (some d) (.agg cells)) w):wpList P ops Q (o::rest) a w:=by
 refine wpList_build hg t parts ho (by rw[hf];rfl) ?_;rw[hf,hd];exact h
def kidx:Nat->Nat
 |1=>1
 |2=>2
 |4=>3
 |5=>4
 |6=>5
 |7=>6
 |8=>7
 |9=>8
 |10=>9
 |_=>0
def PP (q k:Nat):Option Addr:=match kidx k with
 |0=>none
 |i+1=>some ⟨q+(i+1),0,none⟩
def rget:Nat->FuncId
 |1=>200
 |2=>203
 |3=>206
 |4=>209
 |5=>209
 |6=>213
 |7=>215
 |8=>209
 |9=>217
 |_=>219
def rput:Nat->FuncId
 |1=>201
 |2=>204
 |3=>207
 |4=>210
 |5=>210
 |6=>214
 |7=>216
 |8=>210
 |9=>218
 |_=>220
def rask:Nat->FuncId
 |1=>202
 |2=>205
 |3=>208
 |4=>211
 |5=>212
 |6=>208
 |7=>208
 |8=>212
 |9=>208
 |_=>221
def rfn (f:FuncId):Value:=.func (Fn.func f) #[] #[]
def KR (q k:Nat):List Value:=[.string (JD k),.slice (PP q k) (CQ k).length (CQ k).length,rfn (rget k),rfn (rput k),rfn (rask k)]
def IQ (q k:Nat):Array Value:=(KR q k).toArray
def JK:List Value:=[.string ⟨#[]⟩,.slice none 0 0,.nilFunc,.nilFunc,.nilFunc]
def SO (q:Nat):Array Value:=(JK++(KR q 1++(KR q 2++(KR q 3++(KR q 4++(KR q 5++(KR q 6++(KR q 7++(KR q 8++(KR q 9++KR q 10)))))))))).toArray
def KY:Array Value:=(JK++(JK++(JK++(JK++(JK++(JK++(JK++(JK++(JK++(JK++JK)))))))))).toArray
def EF (w:World):World:=((((((((((w.alloc (.cells KY 251)).alloc (.cells #[.int .i64 4,.int .i64 3,.int .i64 3,.int .i64 3,.int .i64 3,.int .i64 4] 3)).alloc (.cells #[.int .i64 4,.int .i64 4] 3)).alloc (.cells #[.int .i64 4] 3)).alloc (.cells #[.int .i64 4] 3)).alloc (.cells #[.int .i64 3,.int .i64 3,.int .i64 3,.int .i64 3] 3)).alloc (.cells #[.int .i64 2] 3)).alloc (.cells #[.int .i64 4] 3)).alloc (.cells #[.int .i64 3] 3)).alloc (.cells #[.int .i64 4,.int .i64 2,.int .i64 4,.int .i64 4] 3))
theorem hU (w:World):(EF w).heap.size=w.heap.size+10:=by unfold EF;simp
theorem YH (w:World):Blk (EF w) w.heap.size 251 KY.toList:=(((((((((Blk.new w 251 KY.toList).alloc _).alloc _).alloc _).alloc _).alloc _).alloc _).alloc _).alloc _).alloc _
theorem hJ (w:World):Only [] w (EF w):=((((((((((Only.refl [] w).alloc _).alloc _).alloc _).alloc _).alloc _).alloc _).alloc _).alloc _).alloc _).alloc _
theorem rworld_1 (w:World):Blk (EF w) (w.heap.size+1) 3 [.int .i64 4,.int .i64 3,.int .i64 3,.int .i64 3,.int .i64 3,.int .i64 4]:=by
 have h:=Blk.new (w.alloc (.cells KY 251)) 3 [.int .i64 4,.int .i64 3,.int .i64 3,.int .i64 3,.int .i64 3,.int .i64 4];rw[show(w.alloc (.cells KY 251)).heap.size=w.heap.size+1 by simp] at h;exact((((((((h).alloc _).alloc _).alloc _).alloc _).alloc _).alloc _).alloc _).alloc _
theorem rworld_2 (w:World):Blk (EF w) (w.heap.size+2) 3 [.int .i64 4,.int .i64 4]:=by
 have h:=Blk.new ((w.alloc (.cells KY 251)).alloc (.cells #[.int .i64 4,.int .i64 3,.int .i64 3,.int .i64 3,.int .i64 3,.int .i64 4] 3)) 3 [.int .i64 4,.int .i64 4];rw[show((w.alloc (.cells KY 251)).alloc (.cells #[.int .i64 4,.int .i64 3,.int .i64 3,.int .i64 3,.int .i64 3,.int .i64 4] 3)).heap.size=w.heap.size+2 by simp] at h;exact(((((((h).alloc _).alloc _).alloc _).alloc _).alloc _).alloc _).alloc _
theorem rworld_4 (w:World):Blk (EF w) (w.heap.size+3) 3 [.int .i64 4]:=by
 have h:=Blk.new (((w.alloc (.cells KY 251)).alloc (.cells #[.int .i64 4,.int .i64 3,.int .i64 3,.int .i64 3,.int .i64 3,.int .i64 4] 3)).alloc (.cells #[.int .i64 4,.int .i64 4] 3)) 3 [.int .i64 4];rw[show(((w.alloc (.cells KY 251)).alloc (.cells #[.int .i64 4,.int .i64 3,.int .i64 3,.int .i64 3,.int .i64 3,.int .i64 4] 3)).alloc (.cells #[.int .i64 4,.int .i64 4] 3)).heap.size=w.heap.size+3 by simp] at h;exact((((((h).alloc _).alloc _).alloc _).alloc _).alloc _).alloc _
theorem rworld_5 (w:World):Blk (EF w) (w.heap.size+4) 3 [.int .i64 4]:=by
 have h:=Blk.new ((((w.alloc (.cells KY 251)).alloc (.cells #[.int .i64 4,.int .i64 3,.int .i64 3,.int .i64 3,.int .i64 3,.int .i64 4] 3)).alloc (.cells #[.int .i64 4,.int .i64 4] 3)).alloc (.cells #[.int .i64 4] 3)) 3 [.int .i64 4];rw[show((((w.alloc (.cells KY 251)).alloc (.cells #[.int .i64 4,.int .i64 3,.int .i64 3,.int .i64 3,.int .i64 3,.int .i64 4] 3)).alloc (.cells #[.int .i64 4,.int .i64 4] 3)).alloc (.cells #[.int .i64 4] 3)).heap.size=w.heap.size+4 by simp] at h;exact(((((h).alloc _).alloc _).alloc _).alloc _).alloc _
theorem rworld_6 (w:World):Blk (EF w) (w.heap.size+5) 3 [.int .i64 3,.int .i64 3,.int .i64 3,.int .i64 3]:=by
 have h:=Blk.new (((((w.alloc (.cells KY 251)).alloc (.cells #[.int .i64 4,.int .i64 3,.int .i64 3,.int .i64 3,.int .i64 3,.int .i64 4] 3)).alloc (.cells #[.int .i64 4,.int .i64 4] 3)).alloc (.cells #[.int .i64 4] 3)).alloc (.cells #[.int .i64 4] 3)) 3 [.int .i64 3,.int .i64 3,.int .i64 3,.int .i64 3];rw[show(((((w.alloc (.cells KY 251)).alloc (.cells #[.int .i64 4,.int .i64 3,.int .i64 3,.int .i64 3,.int .i64 3,.int .i64 4] 3)).alloc (.cells #[.int .i64 4,.int .i64 4] 3)).alloc (.cells #[.int .i64 4] 3)).alloc (.cells #[.int .i64 4] 3)).heap.size=w.heap.size+5 by simp] at h;exact((((h).alloc _).alloc _).alloc _).alloc _
theorem rworld_7 (w:World):Blk (EF w) (w.heap.size+6) 3 [.int .i64 2]:=by
 have h:=Blk.new ((((((w.alloc (.cells KY 251)).alloc (.cells #[.int .i64 4,.int .i64 3,.int .i64 3,.int .i64 3,.int .i64 3,.int .i64 4] 3)).alloc (.cells #[.int .i64 4,.int .i64 4] 3)).alloc (.cells #[.int .i64 4] 3)).alloc (.cells #[.int .i64 4] 3)).alloc (.cells #[.int .i64 3,.int .i64 3,.int .i64 3,.int .i64 3] 3)) 3 [.int .i64 2];rw[show((((((w.alloc (.cells KY 251)).alloc (.cells #[.int .i64 4,.int .i64 3,.int .i64 3,.int .i64 3,.int .i64 3,.int .i64 4] 3)).alloc (.cells #[.int .i64 4,.int .i64 4] 3)).alloc (.cells #[.int .i64 4] 3)).alloc (.cells #[.int .i64 4] 3)).alloc (.cells #[.int .i64 3,.int .i64 3,.int .i64 3,.int .i64 3] 3)).heap.size=w.heap.size+6 by simp] at h;exact(((h).alloc _).alloc _).alloc _
theorem rworld_8 (w:World):Blk (EF w) (w.heap.size+7) 3 [.int .i64 4]:=by
 have h:=Blk.new (((((((w.alloc (.cells KY 251)).alloc (.cells #[.int .i64 4,.int .i64 3,.int .i64 3,.int .i64 3,.int .i64 3,.int .i64 4] 3)).alloc (.cells #[.int .i64 4,.int .i64 4] 3)).alloc (.cells #[.int .i64 4] 3)).alloc (.cells #[.int .i64 4] 3)).alloc (.cells #[.int .i64 3,.int .i64 3,.int .i64 3,.int .i64 3] 3)).alloc (.cells #[.int .i64 2] 3)) 3 [.int .i64 4];rw[show(((((((w.alloc (.cells KY 251)).alloc (.cells #[.int .i64 4,.int .i64 3,.int .i64 3,.int .i64 3,.int .i64 3,.int .i64 4] 3)).alloc (.cells #[.int .i64 4,.int .i64 4] 3)).alloc (.cells #[.int .i64 4] 3)).alloc (.cells #[.int .i64 4] 3)).alloc (.cells #[.int .i64 3,.int .i64 3,.int .i64 3,.int .i64 3] 3)).alloc (.cells #[.int .i64 2] 3)).heap.size=w.heap.size+7 by simp] at h;exact((h).alloc _).alloc _
theorem rworld_9 (w:World):Blk (EF w) (w.heap.size+8) 3 [.int .i64 3]:=by
 have h:=Blk.new ((((((((w.alloc (.cells KY 251)).alloc (.cells #[.int .i64 4,.int .i64 3,.int .i64 3,.int .i64 3,.int .i64 3,.int .i64 4] 3)).alloc (.cells #[.int .i64 4,.int .i64 4] 3)).alloc (.cells #[.int .i64 4] 3)).alloc (.cells #[.int .i64 4] 3)).alloc (.cells #[.int .i64 3,.int .i64 3,.int .i64 3,.int .i64 3] 3)).alloc (.cells #[.int .i64 2] 3)).alloc (.cells #[.int .i64 4] 3)) 3 [.int .i64 3];rw[show((((((((w.alloc (.cells KY 251)).alloc (.cells #[.int .i64 4,.int .i64 3,.int .i64 3,.int .i64 3,.int .i64 3,.int .i64 4] 3)).alloc (.cells #[.int .i64 4,.int .i64 4] 3)).alloc (.cells #[.int .i64 4] 3)).alloc (.cells #[.int .i64 4] 3)).alloc (.cells #[.int .i64 3,.int .i64 3,.int .i64 3,.int .i64 3] 3)).alloc (.cells #[.int .i64 2] 3)).alloc (.cells #[.int .i64 4] 3)).heap.size=w.heap.size+8 by simp] at h;exact(h).alloc _
theorem rworld_10 (w:World):Blk (EF w) (w.heap.size+9) 3 [.int .i64 4,.int .i64 2,.int .i64 4,.int .i64 4]:=by
 have h:=Blk.new (((((((((w.alloc (.cells KY 251)).alloc (.cells #[.int .i64 4,.int .i64 3,.int .i64 3,.int .i64 3,.int .i64 3,.int .i64 4] 3)).alloc (.cells #[.int .i64 4,.int .i64 4] 3)).alloc (.cells #[.int .i64 4] 3)).alloc (.cells #[.int .i64 4] 3)).alloc (.cells #[.int .i64 3,.int .i64 3,.int .i64 3,.int .i64 3] 3)).alloc (.cells #[.int .i64 2] 3)).alloc (.cells #[.int .i64 4] 3)).alloc (.cells #[.int .i64 3] 3)) 3 [.int .i64 4,.int .i64 2,.int .i64 4,.int .i64 4];rw[show(((((((((w.alloc (.cells KY 251)).alloc (.cells #[.int .i64 4,.int .i64 3,.int .i64 3,.int .i64 3,.int .i64 3,.int .i64 4] 3)).alloc (.cells #[.int .i64 4,.int .i64 4] 3)).alloc (.cells #[.int .i64 4] 3)).alloc (.cells #[.int .i64 4] 3)).alloc (.cells #[.int .i64 3,.int .i64 3,.int .i64 3,.int .i64 3] 3)).alloc (.cells #[.int .i64 2] 3)).alloc (.cells #[.int .i64 4] 3)).alloc (.cells #[.int .i64 3] 3)).heap.size=w.heap.size+9 by simp] at h;exact h
theorem GV {w:World} {g:Nat} {t:TypeId} {ks:List Int} (h:Blk w g t (ks.map (.int .i64))):RdI w (some ⟨g,0,none⟩) ks:=fun _=>⟨g,0,rfl,h.lt,fun i v hi=>by
 have:w.cell? ⟨g,0+i,none⟩=(ks.map (Value.int .i64))[0+i]? :=h.cell _;rw[this,Nat.zero_add,List.getElem?_map,hi];rfl⟩
theorem dX (w:World) (k:Nat) (h1:1<=k) (h2:k<=10):RdI (EF w) (PP w.heap.size k) (CQ k):=by
 rcases k10 h1 h2 with rfl|rfl|rfl|rfl|rfl|rfl|rfl|rfl|rfl|rfl;·exact GV (rworld_1 w)
 ·exact GV (rworld_2 w)
 ·exact RdG.nil
 ·exact GV (rworld_4 w)
 ·exact GV (rworld_5 w)
 ·exact GV (rworld_6 w)
 ·exact GV (rworld_7 w)
 ·exact GV (rworld_8 w)
 ·exact GV (rworld_9 w)
 ·exact GV (rworld_10 w)
theorem bO (w:World):Calls Tryz.prog 181 #[] w fun e w'=>e = .returned (.agg (SO w.heap.size))/\Only [] w w'/\w'.heap.size=w.heap.size+10/\∀k,1<=k->k<=10->RdI w' (PP w.heap.size k) (CQ k):=by
 have hz:(EF w).heap[w.heap.size]? = some (.cells KY 251 (0,0)):=YH w;have hfin:Only [] w ((EF w).setRow w.heap.size (SO w.heap.size))/\((EF w).setRow w.heap.size (SO w.heap.size)).heap.size=w.heap.size+10/\∀k,1<=k->k<=10->RdI ((EF w).setRow w.heap.size (SO w.heap.size)) (PP w.heap.size k) (CQ k):=by
  refine⟨(hJ w).trans (JC _ _ _) (by simp),by rw[setRow_size,hU],fun k h1 h2=>?_⟩;refine RdG.onlyL (dX w k h1 h2) (JC _ _ _) (fun a ha h0=>?_);unfold PP at ha;split at ha;·cases ha
  ·injection ha with ha;rw[<-ha];simp
 have hbl:Blk ((EF w).setRow w.heap.size (SO w.heap.size)) w.heap.size 251 (SO w.heap.size).toList:=MR (YH w) (SO w.heap.size).toList;replace hfin:=AB hfin;replace hbl:=AB hbl;unfold EF at hz;replace hz:=AB hz;go_enter Tryz.func181,Tryz.ntmps181
 go_wp2_with (first|(refine CX 2 rfl rfl 212 _ rfl (IQ w.heap.size 1) (by kernel_rfl) ?_)|(refine CX 4 rfl rfl 212 _ rfl (IQ w.heap.size 2) (by kernel_rfl) ?_)|(refine CX 5 rfl rfl 212 _ rfl (IQ w.heap.size 3) (by kernel_rfl) ?_)|(refine CX 7 rfl rfl 212 _ rfl (IQ w.heap.size 4) (by kernel_rfl) ?_)|(refine CX 9 rfl rfl 212 _ rfl (IQ w.heap.size 5) (by kernel_rfl) ?_)|(refine CX 11 rfl rfl 212 _ rfl (IQ w.heap.size 6) (by kernel_rfl) ?_)|(refine CX 13 rfl rfl 212 _ rfl (IQ w.heap.size 7) (by kernel_rfl) ?_)|(refine CX 15 rfl rfl 212 _ rfl (IQ w.heap.size 8) (by kernel_rfl) ?_)|(refine CX 17 rfl rfl 212 _ rfl (IQ w.heap.size 9) (by kernel_rfl) ?_)|(refine CX 19 rfl rfl 212 _ rfl (IQ w.heap.size 10) (by kernel_rfl) ?_)|(refine CX 20 rfl rfl 251 _ rfl (SO w.heap.size) (by kernel_rfl) ?_)|(refine wpList_store_row rfl 251 (.tmp 0) (.tmp 20) rfl w.heap.size (SO w.heap.size) rfl rfl 251 KY hz.out (by kernel_rfl) (by kernel_rfl) (by kernel_rfl) ?_))
 (try simp only[Exit.inBlock,Exit.then])
 refine bodyPost_ret (results_cell_row rfl _ _ w.heap.size 251 (SO w.heap.size) (0,0) _ (by rfl) hbl.out Tryz.underlying251 rfl (by kernel_rfl)) (by rfl) ⟨rfl,hfin.out⟩
theorem MN (s:ByteArray) (least:Nat) (w:World) (hs:s.size<=maxLen):Calls Tryz.prog 230 #[.string s,.int .i64 (least:Int)] w fun e w'=>e = .returned (.int .i64 (CJ s least))/\w=w':=by
 unfold maxLen at hs;obtain⟨R,hR⟩:=qY (CJ s least);rw[<-hR];unfold CJ at hR;by_cases h1:s.size<least
 ·have hR0:R=4:=by rw[hR];unfold eC;rw[decide_eq_false (show¬least<=s.size by omega)];rfl
  have i1:(s.size:Int)<(least:Int):=by omega
  clear hR;replace hR0:=AB hR0;go_enter Tryz.func230,Tryz.ntmps230
  go_wp2
  go_ret
  exact⟨NE hR0.out.symm,rfl⟩
 have i1: ¬(s.size:Int)<(least:Int):=by omega
 by_cases h2:64<s.size
 ·have hR0:R=4:=by rw[hR];unfold eC;rw[decide_eq_false (show¬s.size<=64 by omega)];simp
  have i2:(64:Int)<(s.size:Int):=by omega
  clear hR;replace hR0:=AB hR0;go_enter Tryz.func230,Tryz.ntmps230
  go_wp2
  go_ret
  exact⟨NE hR0.out.symm,rfl⟩
 have i2: ¬(64:Int)<(s.size:Int):=by omega
 have hR1:R=if s.data.toList.all cC then 0 else 4:=by rw[hR];unfold eC;rw[decide_eq_true (show least<=s.size by omega),decide_eq_true (show s.size<=64 by omega)];rfl
 clear hR;obtain⟨n,hn⟩:=qX s.size;replace hR1:=AB hR1;replace hn:=AB hn;go_enter Tryz.func230,Tryz.ntmps230
 go_wp2
 go_loop [17] (fun i=>∃k:Nat,k<=s.size/\i = .int .i64 k/\Hid ((s.data.toList.take k).all cC=true)) (fun i=>s.size-(intOf i).toNat)
 case atStart=>exact⟨0,by omega,rfl,AB rfl⟩
 case round=>
  obtain⟨k,hk,rfl,hg⟩:=hrel;by_cases hlt:k<s.size
  ·have hts:=AB (KU s k hlt);by_cases hc:cC s[k]=true
   ·have hcc:=AB hc;unfold cC at hc;simp only[Bool.and_eq_true,decide_eq_true_eq] at hc;obtain⟨q1,q2⟩:=hc;go_wp2
    go_round
    case rel=>exact⟨k+1,by omega,by go_num,AB (by rw[hts.out,List.all_append,hg.out];simp[hcc.out])⟩
    case measure=>simp[intOf];omega
   ·have hf:R=4:=by
     rw[hR1.out,if_neg];intro h;have:=List.all_eq_true.1 h s[k] (by
      have:s[k]=s.data.toList[k]'(by simpa using hlt):=rfl;rw[this];exact List.getElem_mem _)
     exact hc this
    have hq:s[k].toNat<33\/126<s[k].toNat:=by
     unfold cC at hc;simp at hc;omega
    clear hR1 hc;replace hf:=AB hf;by_cases q1:s[k].toNat<33
    ·clear hq;go_wp2
     go_ret
     exact⟨NE hf.out.symm,rfl⟩
    ·have q2:126<s[k].toNat:=by omega
     clear hq;go_wp2
     go_ret
     exact⟨NE hf.out.symm,rfl⟩
  ·obtain rfl:k=s.size:=by omega
   have hf:R=0:=by
    rw[hR1.out,if_pos];have:=hg.out;rw[List.take_of_length_le (by simp)] at this;exact this
   replace hf:=AB hf;go_wp2
   go_ret
   exact⟨NE hf.out.symm,rfl⟩
theorem PI (n:Nat) (w:World):Calls Tryz.prog 231 #[.int .i64 (n:Int)] w fun e w'=>e = .returned (.int .i64 (DL n))/\w=w':=by
 by_cases h:1024<n
 ·have h1:DL n=6:=if_pos h;rw[h1];have i1:(1024:Int)<(n:Int):=by omega
  clear h1;go_enter Tryz.func231,Tryz.ntmps231
  go_wp2
  go_ret
  exact⟨rfl,rfl⟩
 ·have h1:DL n=0:=if_neg h;rw[h1];have i1: ¬(1024:Int)<(n:Int):=by omega
  clear h1;go_enter Tryz.func231,Tryz.ntmps231
  go_wp2
  go_ret
  exact⟨rfl,rfl⟩
theorem UK (l:List Int) (k:Nat) (h: ∀x∈l.take k,x=0):GI l=GI (l.drop k):=by
 induction k generalizing l with
 |zero=>rfl
 |succ k ih=>
  cases l with
  |nil=>rfl
  |cons a l=>
   have ha:a=0:=h a (by simp);show(if a≠0 then a else GI l)=GI (l.drop k);rw[if_neg (by simpa using ha)];exact ih l (fun x hx=>h x (by simp[hx]))
theorem QM (A:Option Addr) (l:List Int) (c:Nat) (w:World) (h:RdI w A l) (hl:l.length<=maxLen):Calls Tryz.prog 229 #[.slice A l.length c] w fun e w'=>e = .returned (.int .i64 (GI l))/\w=w':=by
 unfold maxLen at hl;obtain⟨R,hR⟩:=qY (GI l);rw[<-hR];obtain⟨n,hn⟩:=qX l.length;rw[hn] at hl⊢;replace hn:=AB hn;replace hR:=AB hR;go_enter Tryz.func229,Tryz.ntmps229
 go_wp2
 go_loop [7] (fun i=>∃k:Nat,k<=n/\i = .int .i64 k/\Hid (∀x∈l.take k,x=0)) (fun i=>n-(intOf i).toNat)
 case atStart=>exact⟨0,by omega,rfl,AB (fun x hx=>by simp at hx)⟩
 case round=>
  obtain⟨k,hk,rfl,hg⟩:=hrel;by_cases hlt:k<n
  ·obtain⟨b,off,x,rfl,hb,hx,cx⟩:=RdG.at h k (by have:=hn.out;omega);by_cases hz:x=0
   ·subst hz;have hg2: ∀y∈l.take (k+1),y=0:=by
     intro y hy;rw[List.take_succ,hx] at hy;rcases qK hy with hy|hy;·exact hg.out y hy
     ·simpa using hy
    replace hg2:=AB hg2;replace hx:=AB hx;go_wp2
    go_round
    case rel=>exact⟨k+1,by omega,by go_num,hg2⟩
    case measure=>simp[intOf];omega
   ·have hzb:(x !=0)=true:=by simpa using hz
    have hf:R=x:=by
     rw[hR.out,UK l k hg.out];have hd:l.drop k=x::l.drop (k+1):=by
      rw[List.drop_eq_getElem_cons (by have:=hn.out;omega)];congr 1
      rw[List.getElem?_eq_getElem (by have:=hn.out;omega)] at hx;exact Option.some.inj hx
     rw[hd];exact if_pos hz
    replace hf:=AB hf;replace hx:=AB hx;clear hz;go_wp2
    go_ret
    exact⟨NE hf.out.symm,rfl⟩
  ·obtain rfl:k=n:=by omega
   have hf:R=0:=by
    rw[hR.out,UK l k hg.out,List.drop_of_length_le (by have:=hn.out;omega)];rfl
   replace hf:=AB hf;go_wp2
   go_ret
   exact⟨NE hf.out.symm,rfl⟩
def FldPost (w:World) (p:PF):Ending->World->Prop:=fun e w'=>Only [] w w'/\∃f:FD,e = .returned f.val/\f.pf=p/\f.new w.heap.size/\f.ok w'/\U32 f.n
theorem JX (s:ByteArray) (w:World) (hs:s.size<=140737488355328):Calls Tryz.prog 232 #[.string s] w (FldPost w { pT s with kind:=0 }):=by
 obtain⟨w1,hw1⟩:=qY (w.alloc (.cells #[.int .i64 0,.int .u32 0,.slice none 0 0,.slice none 0 0] 153));have P1:Only [] w w1:=by rw[hw1];exact(zR _ _).alloc _
 have K1:Blk w1 w.heap.size 153 [.int .i64 0,.int .u32 0,.slice none 0 0,.slice none 0 0]:=by rw[hw1];exact Blk.new w _ _
 have hs1:w1.heap.size=w.heap.size+1:=by rw[hw1];simp
 obtain⟨cc,w3,hcv,hcc,hcm,P3,RS,hs3⟩:=FO w1 s.data.toList;have hul:s.data.toList.length=s.size:=by simp
 rw[hul] at hcv hcc hcm;have heta:(⟨s.data.toList.toArray⟩:ByteArray)=s:=Go.Joins.bytes_eta s;rw[heta] at hcv;have K3:=K1.only P3 (by simp);obtain⟨g0,f0,g1,f1,g2,f2,g3,f3⟩:=qF K3 0;rw[hw1] at hcv;have hcc2:(sOf s).length<=cc:=by rw[sOf_len];exact hcc
 have hcm2:cc<=maxLen:=hcm (by unfold maxLen;omega);rw[hs1] at RS;rw[show(w.alloc (.cells #[.int .i64 0,.int .u32 0,.slice none 0 0,.slice none 0 0] 153)).heap.size=w.heap.size+1 by simp] at hcv;obtain⟨n,hn⟩:=qX s.size;rw[hn] at hcv;replace hcc:=AB hcc;replace hul:=AB hul;replace hn:=AB hn;replace hs1:=AB hs1;replace hw1:=AB hw1;replace heta:=AB heta;clear K1 hcm;go_enter Tryz.func232,Tryz.ntmps232
 go_wp2
 (try simp only[Exit.inBlock,Exit.then])
 have Y4:=W4.only w3 w.heap.size (.int .i64 0) (.int .u32 0) (.slice (some ⟨w.heap.size+1,0,none⟩) n cc) (.slice none 0 0);refine AS (g:=w.heap.size) rfl (by rfl) (by rfl) (W4.blk K3 (.int .i64 0) (.int .u32 0) (.slice (some ⟨w.heap.size+1,0,none⟩) n cc) (.slice none 0 0)) ?_;refine⟨(P1.trans P3 (by simp)).trans Y4 (fun x hx=>.inr (by simp at hx;omega)),⟨0,0,some ⟨w.heap.size+1,0,none⟩,cc,sOf s,none,0,[]⟩,?_,rfl,⟨fun a ha=>by injection ha with ha;subst ha;exact Nat.le_succ _,fun a ha=>by simp at ha⟩,⟨?_,RdG.nil,hcc2,hcm2,by simp,by simp,by simp⟩,Int.le_refl 0,show(0:Int)<=4294967295 by decide⟩
 ·unfold FD.val;dsimp only;rw[sOf_len,hn.out];rfl
 ·exact RdG.onlyL (mk:=.int .u8) RS Y4 (fun a ha _=>by injection ha with ha;subst ha;simp)
theorem bL (b:Bool) (w:World):Calls Tryz.prog 234 #[.bool b] w (FldPost w { pB b with kind:=0 }):=by
 cases b with
 |true=>
  go_enter Tryz.func234,Tryz.ntmps234
  go_wp2
  (try simp only[Exit.inBlock,Exit.then])
  refine AS (g:=w.heap.size) rfl (by rfl) (by rfl) (Blk.new w 153 [.int .i64 0,.int .u32 1,.slice none 0 0,.slice none 0 0]) ?_;exact⟨(zR _ _).alloc _,⟨0,1,none,0,[],none,0,[]⟩,rfl,rfl,FD.new.plain _ _ _,FD.ok.plain _ _ _,by decide,by decide⟩
 |false=>
  go_enter Tryz.func234,Tryz.ntmps234
  go_wp2
  (try simp only[Exit.inBlock,Exit.then])
  refine AS (g:=w.heap.size) rfl (by rfl) (by rfl) (Blk.new w 153 [.int .i64 0,.int .u32 0,.slice none 0 0,.slice none 0 0]) ?_;exact⟨(zR _ _).alloc _,⟨0,0,none,0,[],none,0,[]⟩,rfl,rfl,FD.new.plain _ _ _,FD.ok.plain _ _ _,by decide,by decide⟩
theorem ME (w:World) (fs:List FD) (n:Nat) (hn:fs.length=n) (h1:n<=1000) (cs:Array Value) (h:cs=(AZ fs).toArray):FY (w.alloc (.cells cs 153)) w.heap.size (.slice (some ⟨w.heap.size,0,none⟩) n n) fs:=by
 subst h;subst hn;exact⟨by rw[IM],.inr ⟨w.heap.size,fs.length,(AZ fs).toArray,rfl,qL _,heap_alloc_new w (.cells (AZ fs).toArray 153),qL _,by unfold maxLen;omega,by simp[IM],by rw[<-IM];simp⟩⟩
def GL (w:World) (ps:List PF):Ending->World->Prop:=fun e w'=>Only [] w w'/\∃(v:Value) (fs:List FD),e = .returned v/\FY w' w.heap.size v fs/\fs.map FD.pf=ps.map (fun p=>{ p with kind:=0 })/\(∀f∈fs,FD.ok w' f/\f.off v)/\∀f∈fs,U32 f.n
theorem LH {w:World} {f:FD} (h:f.ok w) (n c:Nat):f.off (.slice (some ⟨w.heap.size,0,none⟩) n c):=
 ⟨fun a ha h0 hx=>by have:=h.tlt a ha h0;have hx2:w.heap.size=a.block:=Option.some.inj hx;omega,fun a ha h0 hx=>by have:=h.llt a ha h0;have hx2:w.heap.size=a.block:=Option.some.inj hx;omega⟩
theorem bG (k n:Int) (v:Value):FD.off ⟨k,n,none,0,[],none,0,[]⟩ v:=⟨fun a ha=>by simp at ha,fun a ha=>by simp at ha⟩
section
variable (m:RQ) (g:Nat) (w:World)
theorem dF (hg:Blk w g 217 m.cells):Calls Tryz.prog 206 #[.pointer (some ⟨g,0,none⟩)] w (GL w (BG m 3)):=by
 go_enter Tryz.func206,Tryz.ntmps206
 go_wp2
 go_ret
 exact⟨zR _ _,_,[],rfl,NW _ _,rfl,fun f hf=>by simp at hf,fun f hf=>by simp at hf⟩
theorem HJ (hg:Blk w g 217 m.cells) (hs:m.text.size<=140737488355328):Calls Tryz.prog 209 #[.pointer (some ⟨g,0,none⟩)] w (GL w (BG m 4)):=by
 have c1:w.cell? ⟨g,1,none⟩=some (.string m.text):=hg.cell 1;have hlt:=hg.lt;have TX:=JX m.text w hs;go_enter Tryz.func209,Tryz.ntmps209
 go_wp2_with fail
 go_call TX as e w1 ⟨P1,f,rfl,hp,hnew,okf,hn⟩
 have V:=ME w1 [f] 1 rfl (by decide) f.cells.toArray (by simp[AZ]);have P2:Only [] w1 (w1.alloc (.cells f.cells.toArray 153)):=(zR _ _).alloc _;have z1:=P1.size;unfold FD.val;go_wp2_with fail
 go_ret
 refine⟨P1.trans P2 (by simp),_,[f],rfl,V.mono z1,?_,fun x hx=>?_,fun x hx=>?_⟩;·rw[List.map_cons,hp];rfl
 ·rw[qS] at hx;subst hx;exact⟨okf.only P2,LH okf 1 1⟩
 ·rw[qS] at hx;subst hx;exact hn
theorem jT (hg:Blk w g 217 m.cells):Calls Tryz.prog 215 #[.pointer (some ⟨g,0,none⟩)] w (GL w (BG m 7)):=by
 have c9:w.cell? ⟨g,9,none⟩=some (.bool m.on):=hg.cell 9;have hlt:=hg.lt;have TX:=bL m.on w;go_enter Tryz.func215,Tryz.ntmps215
 go_wp2_with fail
 go_call TX as e w1 ⟨P1,f,rfl,hp,hnew,okf,hn⟩
 have V:=ME w1 [f] 1 rfl (by decide) f.cells.toArray (by simp[AZ]);have P2:Only [] w1 (w1.alloc (.cells f.cells.toArray 153)):=(zR _ _).alloc _;have z1:=P1.size;unfold FD.val;go_wp2_with fail
 go_ret
 refine⟨P1.trans P2 (by simp),_,[f],rfl,V.mono z1,?_,fun x hx=>?_,fun x hx=>?_⟩;·rw[List.map_cons,hp];rfl
 ·rw[qS] at hx;subst hx;exact⟨okf.only P2,LH okf 1 1⟩
 ·rw[qS] at hx;subst hx;exact hn
theorem dE (hg:Blk w g 217 m.cells) (hn:U32 m.code):Calls Tryz.prog 217 #[.pointer (some ⟨g,0,none⟩)] w (GL w (BG m 9)):=by
 have c10:w.cell? ⟨g,10,none⟩=some (.int .u32 m.code):=hg.cell 10;have hlt:=hg.lt;have V:=ME w [⟨0,m.code,none,0,[],none,0,[]⟩] 1 rfl (by decide) #[.int .i64 0,.int .u32 m.code,.slice none 0 0,.slice none 0 0] (by simp[AZ,FD.cells]);go_enter Tryz.func217,Tryz.ntmps217
 go_wp2
 go_ret
 refine⟨(zR _ _).alloc _,_,_,rfl,V,rfl,fun x hx=>?_,fun x hx=>?_⟩;·rw[qS] at hx;subst hx;exact⟨FD.ok.plain _ _ _,bG _ _ _⟩
 ·rw[qS] at hx;subst hx;exact hn
theorem JP (hg:Blk w g 217 m.cells) (hn:RNums m):Calls Tryz.prog 213 #[.pointer (some ⟨g,0,none⟩)] w (GL w (BG m 6)):=by
 have hlt:=hg.lt;have V:=ME w.drew [⟨0,m.cols,none,0,[],none,0,[]⟩,⟨0,m.rows,none,0,[],none,0,[]⟩,⟨0,m.width,none,0,[],none,0,[]⟩,⟨0,m.height,none,0,[],none,0,[]⟩] 4 rfl (by decide) #[.int .i64 0,.int .u32 m.cols,.slice none 0 0,.slice none 0 0,.int .i64 0,.int .u32 m.rows,.slice none 0 0,.slice none 0 0,.int .i64 0,.int .u32 m.width,.slice none 0 0,.slice none 0 0,.int .i64 0,.int .u32 m.height,.slice none 0 0,.slice none 0 0] (by simp[AZ,FD.cells]);go_enter Tryz.func213,Tryz.ntmps213
 go_wp2_with fail
 have hI:(fun w':World=>Blk w' g 217 m.cells) { w with drawn:=w.drawn+1 }:=hg;refine AL (fun w':World=>Blk w' g 217 m.cells) [] (by kernel_rfl) ?_;refine qP 0 g 0 rfl hI ?_;refine qP 1 g 0 rfl hI ?_;refine qP 2 g 0 rfl hI ?_;refine qP 3 g 4 rfl hI ?_;refine qP 4 g 4 rfl hI ?_;refine wpAnyE_tk 5 (v:=(.int .u32 m.cols)) rfl hI (fun w' hw'=>by have y0:w'.cell? ⟨g,4,none⟩=some (.int .u32 m.cols):=hw'.cell 4;go_simp) ?_;refine wpAnyE_tg 6 (v:=(.agg #[.int .i64 0,.int .u32 m.cols,.slice none 0 0,.slice none 0 0])) rfl hI ?_;refine qP 7 g 0 rfl hI ?_;refine qP 8 g 0 rfl hI ?_;refine qP 9 g 0 rfl hI ?_;refine qP 10 g 4 rfl hI ?_;refine qP 11 g 5 rfl hI ?_;refine wpAnyE_tk 12 (v:=(.int .u32 m.rows)) rfl hI (fun w' hw'=>by have y0:w'.cell? ⟨g,5,none⟩=some (.int .u32 m.rows):=hw'.cell 5;go_simp) ?_;refine wpAnyE_tg 13 (v:=(.agg #[.int .i64 0,.int .u32 m.rows,.slice none 0 0,.slice none 0 0])) rfl hI ?_;refine qP 14 g 0 rfl hI ?_;refine qP 15 g 0 rfl hI ?_;refine qP 16 g 0 rfl hI ?_;refine qP 17 g 4 rfl hI ?_;refine qP 18 g 6 rfl hI ?_;refine wpAnyE_tk 19 (v:=(.int .u32 m.width)) rfl hI (fun w' hw'=>by have y0:w'.cell? ⟨g,6,none⟩=some (.int .u32 m.width):=hw'.cell 6;go_simp) ?_;refine wpAnyE_tg 20 (v:=(.agg #[.int .i64 0,.int .u32 m.width,.slice none 0 0,.slice none 0 0])) rfl hI ?_;refine qP 21 g 0 rfl hI ?_;refine qP 22 g 0 rfl hI ?_;refine qP 23 g 0 rfl hI ?_;refine qP 24 g 4 rfl hI ?_;refine qP 25 g 7 rfl hI ?_;refine wpAnyE_tk 26 (v:=(.int .u32 m.height)) rfl hI (fun w' hw'=>by have y0:w'.cell? ⟨g,7,none⟩=some (.int .u32 m.height):=hw'.cell 7;go_simp) ?_;refine wpAnyE_tg 27 (v:=(.agg #[.int .i64 0,.int .u32 m.height,.slice none 0 0,.slice none 0 0])) rfl hI ?_;refine AC 28 rfl (by kernel_rfl) hI (fun K hK=>?_);rw[if_pos (by kernel_rfl)];go_simp
 refine hK _ _ ?_;clear hK K;have hI2:(fun w':World=>Blk w' g 217 m.cells) (w.drew.alloc (.cells #[.int .i64 0,.int .u32 m.cols,.slice none 0 0,.slice none 0 0,.int .i64 0,.int .u32 m.rows,.slice none 0 0,.slice none 0 0,.int .i64 0,.int .u32 m.width,.slice none 0 0,.slice none 0 0,.int .i64 0,.int .u32 m.height,.slice none 0 0,.slice none 0 0] 153)):=hg.alloc _;refine wpAnyE_tg 29 (v:=(.slice (some ⟨w.heap.size,0,none⟩) 4 4)) rfl hI2 ?_;refine AT (by kernel_rfl) hI2 ?_;clear hI hI2;simp only[Exit.then];go_wp2_with fail
 go_ret
 refine⟨((zR _ _).drew).alloc _,_,_,rfl,V,rfl,fun x hx=>?_,fun x hx=>?_⟩
 ·simp only[qC,List.not_mem_nil,or_false] at hx;rcases hx with rfl|rfl|rfl|rfl<;>exact⟨FD.ok.plain _ _ _,bG _ _ _⟩
 ·obtain⟨n1,n2,n3,n4,_⟩:=hn;simp only[qC,List.not_mem_nil,or_false] at hx;rcases hx with rfl|rfl|rfl|rfl;·exact n1
  ·exact n2
  ·exact n3
  ·exact n4
theorem fJ (hg:Blk w g 217 m.cells) (hs:m.text.size<=140737488355328) (hv:m.value.size<=140737488355328):Calls Tryz.prog 203 #[.pointer (some ⟨g,0,none⟩)] w (GL w (BG m 2)):=by
 have hlt:=hg.lt;go_enter Tryz.func203,Tryz.ntmps203
 go_wp2_with fail
 have hI:(fun w':World=>Blk w' g 217 m.cells) { w with drawn:=w.drawn+1 }:=hg;refine AL (fun w':World=>Blk w' g 217 m.cells) [] (by kernel_rfl) ?_;refine qP 0 g 0 rfl hI ?_;refine qP 1 g 0 rfl hI ?_;refine qP 2 g 0 rfl hI ?_;refine qP 3 g 1 rfl hI ?_;refine wpAnyE_tk 4 (v:=(.string m.text)) rfl hI (fun w' hw'=>by have y0:w'.cell? ⟨g,1,none⟩=some (.string m.text):=hw'.cell 1;go_simp) ?_;refine qP 6 g 0 rfl hI ?_;refine qP 7 g 0 rfl hI ?_;refine qP 8 g 0 rfl hI ?_;refine qP 9 g 2 rfl hI ?_;refine wpAnyE_tk 10 (v:=(.string m.value)) rfl hI (fun w' hw'=>by have y0:w'.cell? ⟨g,2,none⟩=some (.string m.value):=hw'.cell 2;go_simp) ?_;have P0:Only [] w w.drew:=(zR _ _).drew;have T0:=JX m.text w.drew hs;refine AC 5 rfl (by kernel_rfl) hI (fun K hK=>?_);rw[if_pos (by kernel_rfl)];go_simp
 go_call T0 as e w1 ⟨Q1,f1,rfl,hp1,hnew1,ok1,hn1⟩
 clear T0;have P1:Only [] w w1:=P0.trans Q1 (by simp);have hI1:(fun w':World=>Blk w' g 217 m.cells) w1:=hg.only P1 (by simp);refine hK _ _ ?_;clear hK K;unfold FD.val;have T1:=JX m.value w1 hv;refine AC 11 rfl (by kernel_rfl) hI1 (fun K hK=>?_);rw[if_pos (by kernel_rfl)];go_simp
 go_call T1 as e w2 ⟨Q2,f2,rfl,hp2,hnew2,ok2,hn2⟩
 clear T1;have P2:Only [] w w2:=P1.trans Q2 (by simp);have hI2:(fun w':World=>Blk w' g 217 m.cells) w2:=hg.only P2 (by simp);have ok1:=ok1.only Q2;refine hK _ _ ?_;clear hK K;unfold FD.val;have V:=ME w2 [f1,f2] 2 rfl (by decide) #[.int .i64 f1.kind,.int .u32 f1.n,.slice f1.tA f1.text.length f1.tc,.slice f1.lA f1.list.length f1.lc,.int .i64 f2.kind,.int .u32 f2.n,.slice f2.tA f2.text.length f2.tc,.slice f2.lA f2.list.length f2.lc] (by simp[AZ,FD.cells]);refine AC 12 rfl (by kernel_rfl) hI2 (fun K hK=>?_);rw[if_pos (by kernel_rfl)];go_simp
 refine hK _ _ ?_;clear hK K;have PL:Only [] w2 (w2.alloc (.cells #[.int .i64 f1.kind,.int .u32 f1.n,.slice f1.tA f1.text.length f1.tc,.slice f1.lA f1.list.length f1.lc,.int .i64 f2.kind,.int .u32 f2.n,.slice f2.tA f2.text.length f2.tc,.slice f2.lA f2.list.length f2.lc] 153)):=(zR _ _).alloc _;have hIL:(fun w':World=>Blk w' g 217 m.cells) (w2.alloc (.cells #[.int .i64 f1.kind,.int .u32 f1.n,.slice f1.tA f1.text.length f1.tc,.slice f1.lA f1.list.length f1.lc,.int .i64 f2.kind,.int .u32 f2.n,.slice f2.tA f2.text.length f2.tc,.slice f2.lA f2.list.length f2.lc] 153)):=hI2.alloc _;refine wpAnyE_tg 13 (v:=(.slice (some ⟨w2.heap.size,0,none⟩) 2 2)) rfl hIL ?_;refine AT (by kernel_rfl) hIL ?_;simp only[Exit.then];go_wp2_with fail
 go_ret
 refine⟨P2.trans PL (by simp),_,_,rfl,V.mono P2.size,?_,fun x hx=>?_,fun x hx=>?_⟩;·simp only[List.map_cons,List.map_nil,hp1,hp2];rfl
 ·simp only[qC,List.not_mem_nil,or_false] at hx;rcases hx with rfl|rfl;·exact⟨ok1.only PL,LH ok1 _ _⟩
  ·exact⟨ok2.only PL,LH ok2 _ _⟩
 ·simp only[qC,List.not_mem_nil,or_false] at hx;rcases hx with rfl|rfl;·exact hn1
  ·exact hn2
theorem ZB (hg:Blk w g 217 m.cells) (hs:m.text.size<=140737488355328) (hv:m.value.size<=140737488355328) (hl:m.lang.size<=140737488355328):Calls Tryz.prog 219 #[.pointer (some ⟨g,0,none⟩)] w (GL w (BG m 10)):=by
 have hlt:=hg.lt;go_enter Tryz.func219,Tryz.ntmps219
 go_wp2_with fail
 have hI:(fun w':World=>Blk w' g 217 m.cells) { w with drawn:=w.drawn+1 }:=hg;refine AL (fun w':World=>Blk w' g 217 m.cells) [] (by kernel_rfl) ?_;refine qP 0 g 0 rfl hI ?_;refine qP 1 g 0 rfl hI ?_;refine qP 2 g 0 rfl hI ?_;refine qP 3 g 1 rfl hI ?_;refine wpAnyE_tk 4 (v:=(.string m.text)) rfl hI (fun w' hw'=>by have y0:w'.cell? ⟨g,1,none⟩=some (.string m.text):=hw'.cell 1;go_simp) ?_;refine qP 6 g 0 rfl hI ?_;refine qP 7 g 0 rfl hI ?_;refine qP 8 g 0 rfl hI ?_;refine qP 9 g 9 rfl hI ?_;refine wpAnyE_tk 10 (v:=(.bool m.on)) rfl hI (fun w' hw'=>by have y0:w'.cell? ⟨g,9,none⟩=some (.bool m.on):=hw'.cell 9;go_simp) ?_;refine qP 12 g 0 rfl hI ?_;refine qP 13 g 0 rfl hI ?_;refine qP 14 g 0 rfl hI ?_;refine qP 15 g 2 rfl hI ?_;refine wpAnyE_tk 16 (v:=(.string m.value)) rfl hI (fun w' hw'=>by have y0:w'.cell? ⟨g,2,none⟩=some (.string m.value):=hw'.cell 2;go_simp) ?_;refine qP 18 g 0 rfl hI ?_;refine qP 19 g 0 rfl hI ?_;refine qP 20 g 0 rfl hI ?_;refine qP 21 g 3 rfl hI ?_;refine wpAnyE_tk 22 (v:=(.string m.lang)) rfl hI (fun w' hw'=>by have y0:w'.cell? ⟨g,3,none⟩=some (.string m.lang):=hw'.cell 3;go_simp) ?_;have P0:Only [] w w.drew:=(zR _ _).drew;have T0:=JX m.text w.drew hs;refine AC 5 rfl (by kernel_rfl) hI (fun K hK=>?_);rw[if_pos (by kernel_rfl)];go_simp
 go_call T0 as e w1 ⟨Q1,f1,rfl,hp1,hnew1,ok1,hn1⟩
 clear T0;have P1:Only [] w w1:=P0.trans Q1 (by simp);have hI1:(fun w':World=>Blk w' g 217 m.cells) w1:=hg.only P1 (by simp);refine hK _ _ ?_;clear hK K;unfold FD.val;have T1:=bL m.on w1;refine AC 11 rfl (by kernel_rfl) hI1 (fun K hK=>?_);rw[if_pos (by kernel_rfl)];go_simp
 go_call T1 as e w2 ⟨Q2,f2,rfl,hp2,hnew2,ok2,hn2⟩
 clear T1;have P2:Only [] w w2:=P1.trans Q2 (by simp);have hI2:(fun w':World=>Blk w' g 217 m.cells) w2:=hg.only P2 (by simp);have ok1:=ok1.only Q2;refine hK _ _ ?_;clear hK K;unfold FD.val;have T2:=JX m.value w2 hv;refine AC 17 rfl (by kernel_rfl) hI2 (fun K hK=>?_);rw[if_pos (by kernel_rfl)];go_simp
 go_call T2 as e w3 ⟨Q3,f3,rfl,hp3,hnew3,ok3,hn3⟩
 clear T2;have P3:Only [] w w3:=P2.trans Q3 (by simp);have hI3:(fun w':World=>Blk w' g 217 m.cells) w3:=hg.only P3 (by simp);have ok1:=ok1.only Q3;have ok2:=ok2.only Q3;refine hK _ _ ?_;clear hK K;unfold FD.val;have T3:=JX m.lang w3 hl;refine AC 23 rfl (by kernel_rfl) hI3 (fun K hK=>?_);rw[if_pos (by kernel_rfl)];go_simp
 go_call T3 as e w4 ⟨Q4,f4,rfl,hp4,hnew4,ok4,hn4⟩
 clear T3;have P4:Only [] w w4:=P3.trans Q4 (by simp);have hI4:(fun w':World=>Blk w' g 217 m.cells) w4:=hg.only P4 (by simp);have ok1:=ok1.only Q4;have ok2:=ok2.only Q4;have ok3:=ok3.only Q4;refine hK _ _ ?_;clear hK K;unfold FD.val;have V:=ME w4 [f1,f2,f3,f4] 4 rfl (by decide) #[.int .i64 f1.kind,.int .u32 f1.n,.slice f1.tA f1.text.length f1.tc,.slice f1.lA f1.list.length f1.lc,.int .i64 f2.kind,.int .u32 f2.n,.slice f2.tA f2.text.length f2.tc,.slice f2.lA f2.list.length f2.lc,.int .i64 f3.kind,.int .u32 f3.n,.slice f3.tA f3.text.length f3.tc,.slice f3.lA f3.list.length f3.lc,.int .i64 f4.kind,.int .u32 f4.n,.slice f4.tA f4.text.length f4.tc,.slice f4.lA f4.list.length f4.lc] (by simp[AZ,FD.cells]);refine AC 24 rfl (by kernel_rfl) hI4 (fun K hK=>?_);rw[if_pos (by kernel_rfl)];go_simp
 refine hK _ _ ?_;clear hK K;have PL:Only [] w4 (w4.alloc (.cells #[.int .i64 f1.kind,.int .u32 f1.n,.slice f1.tA f1.text.length f1.tc,.slice f1.lA f1.list.length f1.lc,.int .i64 f2.kind,.int .u32 f2.n,.slice f2.tA f2.text.length f2.tc,.slice f2.lA f2.list.length f2.lc,.int .i64 f3.kind,.int .u32 f3.n,.slice f3.tA f3.text.length f3.tc,.slice f3.lA f3.list.length f3.lc,.int .i64 f4.kind,.int .u32 f4.n,.slice f4.tA f4.text.length f4.tc,.slice f4.lA f4.list.length f4.lc] 153)):=(zR _ _).alloc _;have hIL:(fun w':World=>Blk w' g 217 m.cells) (w4.alloc (.cells #[.int .i64 f1.kind,.int .u32 f1.n,.slice f1.tA f1.text.length f1.tc,.slice f1.lA f1.list.length f1.lc,.int .i64 f2.kind,.int .u32 f2.n,.slice f2.tA f2.text.length f2.tc,.slice f2.lA f2.list.length f2.lc,.int .i64 f3.kind,.int .u32 f3.n,.slice f3.tA f3.text.length f3.tc,.slice f3.lA f3.list.length f3.lc,.int .i64 f4.kind,.int .u32 f4.n,.slice f4.tA f4.text.length f4.tc,.slice f4.lA f4.list.length f4.lc] 153)):=hI4.alloc _;refine wpAnyE_tg 25 (v:=(.slice (some ⟨w4.heap.size,0,none⟩) 4 4)) rfl hIL ?_;refine AT (by kernel_rfl) hIL ?_;simp only[Exit.then];go_wp2_with fail
 go_ret
 refine⟨P4.trans PL (by simp),_,_,rfl,V.mono P4.size,?_,fun x hx=>?_,fun x hx=>?_⟩;·simp only[List.map_cons,List.map_nil,hp1,hp2,hp3,hp4];rfl
 ·simp only[qC,List.not_mem_nil,or_false] at hx;rcases hx with rfl|rfl|rfl|rfl;·exact⟨ok1.only PL,LH ok1 _ _⟩
  ·exact⟨ok2.only PL,LH ok2 _ _⟩
  ·exact⟨ok3.only PL,LH ok3 _ _⟩
  ·exact⟨ok4.only PL,LH ok4 _ _⟩
 ·simp only[qC,List.not_mem_nil,or_false] at hx;rcases hx with rfl|rfl|rfl|rfl;·exact hn1
  ·exact hn2
  ·exact hn3
  ·exact hn4
end
end Go.Proofs.YtfbhemmpobgdpaaGreatDoor
