/- TracePlays: lemmas, from 'Layer 29: a watch in a call's machine' on; what each asks for stands in it. -/
import Derived.Test.YtkgikodiecmakaaGreatDoorTpK
import Derived.Test.YtkgikodiecmakaaGreatDoorTpF
import Derived.Test.YtkgikodiecmakaaGreatDoorTpB
import Derived.Test.YtkgikodiecmakaaGreatDoorTpG
import Derived.Test.YtkgikodiecmakaaGreatDoorTpJ
import Derived.Lib.MakeNoZero
import Derived.Laws.Externs
set_option linter.all false
set_option maxRecDepth 100000
set_option maxHeartbeats 64000000
namespace Go.Proofs.YtkgikodiecmakaaGreatDoor
open Go.RowKit Go.MapKept
def WQ (p:Nat) (M:WM) (S:WS) (w:World):Prop:=WAt w p M∧M.abs=S
theorem WQ.st {p:Nat} {M:WM} {S:WS}:StX (M.fp p) (WQ p M S):=fun w w' hs he h=>⟨WAt.st w w' hs he h.1,h.2⟩
theorem few_abs {M:WM} {S:WS} (e:M.abs=S) (h: ∀x∈S.opens,x.2.length≤1000000):FewW M:=fun x hx=>by
 subst e;exact h (x.1,x.2.l) (List.mem_map.2 ⟨x,hx,rfl⟩)
theorem win_abs {M:WM} {S:WS} (e:M.abs=S) (h: ∀x∈S.opens,∀y∈x.2,U32 y.1): ∀x∈M.opens,∀y∈x.2.l,U32 y.1:=fun x hx=>by
 subst e;exact h (x.1,x.2.l) (List.mem_map.2 ⟨x,hx,rfl⟩)
theorem pck_abs {M:WM} {S:WS} (e:M.abs=S) (h: ∀x∈S.ends,U32 x.2.packet): ∀x∈M.ends,U32 x.2.2.packet:=fun x hx=>by
 subst e;exact h (x.1,x.2.2) (List.mem_map.2 ⟨x,hx,rfl⟩)
theorem key_abs {M:WM} {S:WS} (e:M.abs=S) (h: ∀x∈S.ends,U32 x.1): ∀x∈M.ends,U32 x.1:=fun x hx=>by
 subst e;exact h (x.1,x.2.2) (List.mem_map.2 ⟨x,hx,rfl⟩)
theorem len_abs {M:WM} {S:WS} (e:M.abs=S):M.ends.length=S.ends.length:=by subst e;simp[WM.abs,AQ]
section
variable {f : FuncId} {R : Ending → World → Prop} {n : Nat} {w0 w00 : World} {G L : List Nat} {β : List Nat} {m : SM} {p : Nat} {M : WM} {S : WS}
theorem Hs.callSays (C:Fx w00 G w0 L (M.fp p) (WQ p M S)) (x:MD) (hf: ∀x∈S.opens,x.2.length≤1000000) (hw:U32 x.window) (hc:EO Tryz.prog n β m=some (8,#[AO p,x.val])) (hrd:FS m=[]) (hro:roOk m.hp=true) {S':WS} (he:CT S x=S')
  (h: ∀M' w1 L1,Fx w00 G w1 L1 (M'.fp p) (WQ p M' S')→(∀y∈M'.fp p,y∈M.fp p∨w0.heap.size≤y)→MB w00 G w0 L (M.fp p) w1 L1→Hs Tryz.prog f R n w1 L1 β (m.put (BF m) (.c (.v (.tuple #[]))) m.hp)):Hs Tryz.prog f R n w0 L β m:=by
 subst he;exact Hs.callFx (X:=WM) (fun _=>.tuple #[]) (fun M'=>M'.fp p) (fun M'=>WQ p M' (CT S x)) C (fun w H hq=>(says_any M p x w hq.1 (few_abs hq.2 hf) hw).mono fun e w' ⟨M',h1,h2,h3,h4,h5⟩=>⟨M',h1,h2,⟨h3,by rw[h4,hq.2]⟩,WQ.st,h5⟩) hc hrd hro h
theorem Hs.callHears (i0:Int) (C:Fx w00 G w0 L (M.fp p) (WQ p M S)) (x:MD) (hw: ∀x∈S.opens,∀y∈x.2,U32 y.1) (hp: ∀x∈S.ends,U32 x.2.packet) (hm: ∀w,Mem w0 L β m.hp w→GC w (M.fp p) (IZ i0 x)) (hc:EO Tryz.prog n β m=some (10,#[AO p,x.val])) (hrd:FS m=[]) (hro:roOk m.hp=true) {S':WS} {e':Int} (he:AM S x (okEx x)=(S',e'))
  (h: ∀M' w1 L1,Fx w00 G w1 L1 (M'.fp p) (WQ p M' S')→(∀y∈M'.fp p,y∈M.fp p∨w0.heap.size≤y)→MB w00 G w0 L (M.fp p) w1 L1→Hs Tryz.prog f R n w1 L1 β (m.put (BF m) (.c (.v (.int .i64 e'))) m.hp)):Hs Tryz.prog f R n w0 L β m:=by
 have e1:S'=(AM S x (okEx x)).1:=by rw[he]
 have e2:e'=(AM S x (okEx x)).2:=by rw[he]
 subst e1;subst e2;exact Hs.callFx (X:=WM) (fun _=>.int .i64 (AM S x (okEx x)).2) (fun M'=>M'.fp p) (fun M'=>WQ p M' (AM S x (okEx x)).1) C (fun w H hq=>(VU M p x i0 w hq.1 (win_abs hq.2 hw) (pck_abs hq.2 hp) (hm w H)).mono fun e w' ⟨M',h1,h2,h3,h4,h5⟩=>⟨M',by rw[h1,hq.2],h2,⟨h3,by rw[h4,hq.2]⟩,WQ.st,h5⟩) hc hrd hro h
theorem Hs.callNew29 (C:Fx w00 G w0 L [] (fun _=>True)) (hc:EO Tryz.prog n β m=some (7,#[])) (hrd:FS m=[]) (hro:roOk m.hp=true)
  (h: ∀p M' w1 L1,Fx w00 G w1 L1 (M'.fp p) (WQ p M' QV)→(∀y∈M'.fp p,w0.heap.size≤y)→MB w00 G w0 L [] w1 L1→Hs Tryz.prog f R n w1 L1 β (m.put (BF m) (.c (.v (AO p))) m.hp)):Hs Tryz.prog f R n w0 L β m:=
 Hs.callFx (X:=Nat×WM) (fun z=>AO z.1) (fun z=>z.2.fp z.1) (fun z=>WQ z.1 z.2 QV) C (fun w H _=>(new29_any w).mono fun e w' ⟨p,M',h1,h2,h3,h4,h5⟩=>⟨(p,M'),h1,h2,⟨h3,h4⟩,WQ.st,fun y hy=>⟨(h5 y hy).1,.inr (h5 y hy).2⟩⟩) hc hrd hro fun z w1 L1 C1 hn hM=>h z.1 z.2 w1 L1 C1 (fun y hy=>(hn y hy).resolve_left (by simp)) hM
theorem Hs.callEnds (C:Fx w00 G w0 L (M.fp p) (WQ p M S)) (hU: ∀x∈S.ends,U32 x.1) (hn:S.ends.length≤1000000) (N:Nat) (hN:S.ends.length=N) (hc:EO Tryz.prog n β m=some (12,#[AO p])) (hrd:(FS m).all (fun k=>Nat.blt k m.hp.length)=true)
  (h: ∀A cap,N≤cap→cap≤maxLen→Hs Tryz.prog f R n w0 L (β++[0]) (m.put (BF m) (.c (.v (.slice A N cap))) (m.hp++[.s A cap N 49 8 ((CY S).flatMap EN.cells)]))):Hs Tryz.prog f R n w0 L β m:=by
 subst hN;exact Hs.callS (cf:=EN.cells) (E:=49) (size:=8) (fun A cap=>.slice A S.ends.length cap) (CY S) S.ends.length (LP S) (fun w H=>by
  have hq:=C.at H;have:=ZZ M p w hq.1 (key_abs hq.2 hU) (by rw[len_abs hq.2];exact hn);rw[len_abs hq.2,hq.2] at this;exact this) hc hrd h
theorem Hs.callDead (C:Fx w00 G w0 L (M.fp p) (WQ p M S)) (hc:EO Tryz.prog n β m=some (15,#[AO p])) (h:Hs Tryz.prog f R n w0 L β (m.put (BF m) (.c (.v (.bool S.dead))) m.hp)):Hs Tryz.prog f R n w0 L β m:=
 Hs.callV (fun w H=>by
  have hq:=C.at H;have:=cG M p w hq.1.blk;rw[show M.dead=S.dead by rw[←hq.2];rfl] at this;exact this) hc h
theorem JQ {w:World} {hp:List HB} {Q:World→Prop} {fp:List Nat} (i0:Int) (C:Fx w00 [] w0 L fp Q) (H:Mem w0 L β hp w) (h00:w00.cell? ⟨0,0,none⟩=some (.int .i64 i0)) (x:MD) (hb: ∀v∈x.data,0≤v∧v<256) (hl:x.data.length≤1000) (hlc:x.data.length≤x.dc) (hcm:x.dc≤1000) (hn:U32 x.chan∧U32 x.sender∧U32 x.window∧U32 x.packet∧U32 x.code) (hs:x.name.size≤1000∧x.lang.size≤1000)
  (hd:x.data=[]∨∃(k:Nat) (b:Nat) (st: ∀w w':World,(∀a,(some ⟨b,0,none⟩:Option Addr)=some a→w'.heap[a.block]? = w.heap[a.block]?)→w.heap.size≤w'.heap.size→Rd w (some ⟨b,0,none⟩) x.data→Rd w' (some ⟨b,0,none⟩) x.data),hp[k]? = some (.q true (some ⟨b,0,none⟩) (fun w=>Rd w (some ⟨b,0,none⟩) x.data) st)∧x.dA=some ⟨b,0,none⟩):GC w fp (IZ i0 x):=fun w2 O=>by
 have hm1:x.dc≤maxLen:=by unfold maxLen;omega
 have h0:w2.cell? ⟨0,0,none⟩=some (.int .i64 i0):=by
  have hlt:=block_lt_of_cell h00;have O2:Only [] w00 w2:=(C.fin H).trans O fun y hy=>(C.own y hy).2.2;rw[←h00];exact World.cell?_of_block (w:=w00) (w':=w2) (O2.block 0 hlt (by simp))
 have hnm1:x.name.size≤maxLen:=by unfold maxLen;omega
 have hnm2:x.lang.size≤maxLen:=by unfold maxLen;omega
 rcases hd with hd|⟨k,b,st,hk,hA⟩;·exact⟨⟨fun h0=>by rw[hd] at h0;exact absurd h0 (Nat.lt_irrefl _),hlc,hm1,hb,hn,hnm1,hnm2⟩,h0,by omega,fun a _ h0=>by rw[hd] at h0;exact absurd h0 (Nat.lt_irrefl _)⟩
 ·have hq:=H.lies k _ hk;have hbl:b<w.heap.size:=hq.2 ⟨b,0,none⟩ rfl;have hnb:b∉fp:=fun hm=>by
   rcases H.own k _ b hk rfl rfl with h1|h1;·exact(C.own b hm).2.1 h1
   ·have:=(C.own b hm).1;omega
  have hr2:Rd w2 (some ⟨b,0,none⟩) x.data:=st w w2 (fun a ha=>by injection ha with ha;subst ha;exact O.block b hbl hnb) O.size hq.1;exact⟨⟨by rw[hA];exact hr2,hlc,hm1,hb,hn,hnm1,hnm2⟩,h0,by omega,fun a ha _=>by rw[hA] at ha;injection ha with ha;subst ha;exact Nat.lt_of_lt_of_le hbl O.size⟩
end
def mO (k c s w p:Int):MD:=⟨k,c,s,w,p,0,⟨#[]⟩,⟨#[]⟩,false,none,0,[]⟩
def mD (b:Nat) (l:List Int):MD:=⟨94,7,0,0,0,0,⟨#[]⟩,⟨#[]⟩,false,some ⟨b,0,none⟩,l.length,l⟩
def u1:WS:=⟨[(7,[(3,9)])],0,[],[],false⟩
def eA (sent:Int) (cl:Bool):EN:=⟨7,3,sent,9,false,cl,false,0⟩
def u2 (sent:Int) (cl:Bool):WS:=⟨[(7,[])],0,[(7,eA sent cl)],[(0,7)],false⟩
theorem un:U32 7∧U32 0∧U32 0∧U32 0∧U32 0:=⟨⟨by decide,by decide⟩,⟨by decide,by decide⟩,⟨by decide,by decide⟩,⟨by decide,by decide⟩,⟨by decide,by decide⟩⟩
theorem un8:U32 8∧U32 0∧U32 0∧U32 0∧U32 0:=⟨⟨by decide,by decide⟩,⟨by decide,by decide⟩,⟨by decide,by decide⟩,⟨by decide,by decide⟩,⟨by decide,by decide⟩⟩
theorem hu1:(∀x∈u1.opens,∀y∈x.2,U32 y.1)∧∀x∈u1.ends,U32 x.2.packet:=⟨by simp[u1,U32],by simp[u1]⟩
theorem hu2 (s:Int) (c:Bool):(∀x∈(u2 s c).opens,∀y∈x.2,U32 y.1)∧∀x∈(u2 s c).ends,U32 x.2.packet:=⟨by simp[u2],by simp[u2,eA,U32]⟩
theorem ev {S S':WS} {x:MD} {e:Int} (h: ∀ok,AM S x ok=(S',e)):AM S x (okEx x)=(S',e):=h _
theorem ZS (i0:Int) (w:World) (h00:w.cell? ⟨0,0,none⟩=some (.int .i64 i0)):Calls Tryz.prog 5 #[] w fun e w'=>e = .returned (.bool true)∧Only [] w w':=by
 refine Hs.en Tryz.func5 [] [] [] [] (Mem.start0 w) ?_;have C0:Fx w [] w [] [] (fun _=>True):=Fx.start0;refine Hs.e0 ?_;refine Hs.callNew29 C0 (by kernel_rfl) (by kernel_rfl) (by kernel_rfl) fun p M w1 L1 C1 _ _=>?_;refine Hs.e0 ?_;refine Hs.cF ?_;refine Hs.e0 ?_;refine Hs.callSays C1 (mO 90 0 7 3 9) (S':=u1) (by simp[QV]) ⟨by decide,by decide⟩ (by kernel_rfl) (by kernel_rfl) (by kernel_rfl) (by kernel_rfl) fun M2 w2 L2 C2 _ _=>?_;refine Hs.e0 ?_;refine Hs.callHears i0 C2 (mO 91 7 0 0 0) (S':=u2 0 false) (e':=0) hu1.1 hu1.2 (fun w' H=>JQ i0 C2 H h00 (mO 91 7 0 0 0) (by simp[mO]) (by simp[mO]) (by simp[mO]) (by simp[mO]) un ⟨by decide,by decide⟩ (.inl rfl)) (by kernel_rfl) (by kernel_rfl) (by kernel_rfl) (ev (fun ok=>by kernel_rfl)) fun M3 w3 L3 C3 _ _=>?_;refine Hs.e1 fun b1=>?_;refine Hs.mark 0 34 5 [97,98,99,100] 4 (by kernel_rfl) (by kernel_rfl) (by kernel_rfl) (by kernel_rfl) (by kernel_rfl) ?_;refine Hs.e0 ?_;refine Hs.callHears i0 C3 (mD b1 [97,98,99,100]) (S':=u2 0 false) (e':=5) (hu2 0 false).1 (hu2 0 false).2 (fun w' H=>JQ i0 C3 H h00 (mD b1 [97,98,99,100]) (by simp[mD]) (by simp[mD]) (by simp[mD]) (by simp[mD]) un ⟨by simp[mD,ByteArray.size],by simp[mD,ByteArray.size]⟩ (.inr ⟨0,b1,rd_st,(by kernel_rfl),rfl⟩)) (by kernel_rfl) (by kernel_rfl) (by kernel_rfl) (ev (fun ok=>by kernel_rfl)) fun M4 w4 L4 C4 _ _=>?_;refine Hs.e1 fun b2=>?_;refine Hs.mark 1 34 5 [97,98,99] 3 (by kernel_rfl) (by kernel_rfl) (by kernel_rfl) (by kernel_rfl) (by kernel_rfl) ?_;refine Hs.e0 ?_;refine Hs.callHears i0 C4 (mD b2 [97,98,99]) (S':=u2 3 false) (e':=0) (hu2 0 false).1 (hu2 0 false).2 (fun w' H=>JQ i0 C4 H h00 (mD b2 [97,98,99]) (by simp[mD]) (by simp[mD]) (by simp[mD]) (by simp[mD]) un ⟨by simp[mD,ByteArray.size],by simp[mD,ByteArray.size]⟩ (.inr ⟨1,b2,rd_st,(by kernel_rfl),rfl⟩)) (by kernel_rfl) (by kernel_rfl) (by kernel_rfl) (ev (fun ok=>by kernel_rfl)) fun M5 w5 L5 C5 _ _=>?_;refine Hs.e0 ?_;refine Hs.callHears i0 C5 (mO 97 7 0 0 0) (S':=u2 3 true) (e':=0) (hu2 3 false).1 (hu2 3 false).2 (fun w' H=>JQ i0 C5 H h00 (mO 97 7 0 0 0) (by simp[mO]) (by simp[mO]) (by simp[mO]) (by simp[mO]) un ⟨by decide,by decide⟩ (.inl rfl)) (by kernel_rfl) (by kernel_rfl) (by kernel_rfl) (ev (fun ok=>by kernel_rfl)) fun M6 w6 L6 C6 _ _=>?_;refine Hs.e0 ?_;refine Hs.callHears i0 C6 (mO 94 7 0 0 0) (S':=u2 3 true) (e':=9) (hu2 3 true).1 (hu2 3 true).2 (fun w' H=>JQ i0 C6 H h00 (mO 94 7 0 0 0) (by simp[mO]) (by simp[mO]) (by simp[mO]) (by simp[mO]) un ⟨by decide,by decide⟩ (.inl rfl)) (by kernel_rfl) (by kernel_rfl) (by kernel_rfl) (ev (fun ok=>by kernel_rfl)) fun M7 w7 L7 C7 _ _=>?_;refine Hs.e0 ?_;refine Hs.callHears i0 C7 (mO 94 8 0 0 0) (S':=u2 3 true) (e':=8) (hu2 3 true).1 (hu2 3 true).2 (fun w' H=>JQ i0 C7 H h00 (mO 94 8 0 0 0) (by simp[mO]) (by simp[mO]) (by simp[mO]) (by simp[mO]) un8 ⟨by decide,by decide⟩ (.inl rfl)) (by kernel_rfl) (by kernel_rfl) (by kernel_rfl) (ev (fun ok=>by kernel_rfl)) fun M8 w8 L8 C8 _ _=>?_;refine Hs.eg [2,6,10,14,18,22,28] ?_;refine Hs.cV (fun w' H=>hears_nil (mO 0 0 0 0 0) w') ?_;refine Hs.eg [2,6,10,14,18,22,28] ?_;refine Hs.callEnds C8 (by simp[u2,U32]) (by simp[u2]) 1 rfl (by kernel_rfl) (by kernel_rfl) fun A cap _ _=>?_;refine Hs.eg [2,6,10,14,18,22,28] ?_;exact Hs.rt (v:=.bool true) Tryz.func5 fun w' H=>⟨rfl,C8.fin H⟩
end Go.Proofs.YtkgikodiecmakaaGreatDoor
namespace Go.Proofs.YtkgikodiecmakaaGreatDoor
open Go.RowKit Go.MapKept
theorem msg_step {i0:Int} {m:MD} {w w':World} (h:IZ i0 m w) (O:Only [] w w'):IZ i0 m w':=
 ⟨h.1.only O,by rw[←h.2.1];exact World.cell?_of_block (w:=w) (w':=w') (O.block 0 (block_lt_of_cell h.2.1) (by simp)),h.2.2.1,fun a ha h0=>Nat.lt_of_lt_of_le (h.2.2.2 a ha h0) O.size⟩
theorem VY {i0:Int} {m:MD} {w00 w0 w:World} {L β fp:List Nat} {hp:List HB} {Q:World→Prop} (h:IZ i0 m w00) (C:Fx w00 [] w0 L fp Q) (H:Mem w0 L β hp w):GC w fp (IZ i0 m):=fun w2 O=>
 msg_step h ((C.fin H).trans O fun y hy=>(C.own y hy).2.2)
theorem Inv29.wins {c:Nat} {S:WS} (h:Inv29 c S): ∀x∈S.opens,∀y∈x.2,U32 y.1:=fun x hx y hy=>((h.op x hx).1 y hy).1
theorem Inv29.pcks {c:Nat} {S:WS} (h:Inv29 c S): ∀x∈S.ends,U32 x.2.packet:=fun x hx=>(h.en x hx).2.2.1
theorem Inv29.keys {c:Nat} {S:WS} (h:Inv29 c S): ∀x∈S.ends,U32 x.1:=fun x hx=>(h.en x hx).1
end Go.Proofs.YtkgikodiecmakaaGreatDoor
namespace Go.Proofs.YtkgikodiecmakaaGreatDoor
open Go.ChangeShapes Go.WideShapes Go.ChangeAt Go.RowKit Go.Deep
theorem wf_u8' {n:Int} (h:(Lit.int .u8 n).wf=true):0≤n∧n<256:=by
 have:=wf_u8 h;omega
def u8c (x:Int):List Value:=[.int .u8 x]
theorem u8c_len (x:Int):(u8c x).length=1:=rfl
theorem u8c_rdG {w:World} {A:Option Addr} {l:List Int} (h:RdX u8c w A l):RdG (.int .u8) w A l:=fun h0=>by
 obtain⟨b,off,e,hb,hc⟩:=h h0;refine⟨b,off,e,hb,fun i x hx=>hc i _ ?_⟩;have hl:l.flatMap u8c=l.map (.int .u8):=by
  clear h h0 hc hx;induction l with
  |nil=>rfl
  |cons x l ih=>rw[List.flatMap_cons,ih];rfl
 rw[hl,List.getElem?_map,hx];rfl
section
variable {H : Type} {enc : TypeId × Value → H} {w : World} {base : Nat} {spare : Nat → Bool} {held : Bool} {R : Nat}
theorem trod_octs {n:Nat} {v:Value} (h:EA enc Tryz.prog w base spare held R n 34 [v]): ∃(A:Option Addr) (l:List Int) (cap:Nat),v = .slice A l.length cap∧RdX u8c w A l∧l.length≤cap∧cap≤maxLen∧(∀x∈l,0≤x∧x<256)∧l.length≤R:=by
 obtain⟨A,l,cap,e,h1,h2,h3,h4,h5⟩:=h.slice (cf:=u8c) (ok:=fun x=>0≤x∧x<256) (size:=1) Tryz.underlying34 (by kernel_rfl) (by decide) u8c_len (fun n l hl h=>by
  match l,hl with
  |[c],_=>
   obtain⟨a,rfl,u⟩:=EA.int Tryz.underlying5 h;exact⟨a,rfl,wf_u8' u⟩)
 rw[(by kernel_rfl:Tryz.prog.bytesOf 5=1),Nat.mul_one] at h5;exact⟨A,l,cap,e,h3,h1,h2,h4,h5⟩
theorem arN11 {l:List Value} (h:l.length=11): ∃c0 c1 c2 c3 c4 c5 c6 c7 c8 c9 c10,l=[c0,c1,c2,c3,c4,c5,c6,c7,c8,c9,c10]:=by
 match l,h with
 |[c0,c1,c2,c3,c4,c5,c6,c7,c8,c9,c10],_=>exact⟨c0,c1,c2,c3,c4,c5,c6,c7,c8,c9,c10,rfl⟩
def OL (w:World) (m:MD):Prop:=m.ok w∧m.data.length≤140737488355000∧∀a,m.dA=some a→0<m.data.length→a.block<w.heap.size
theorem OL.inn {w:World} {m:MD} {i0:Int} (h:OL w m) (h0:w.cell? ⟨0,0,none⟩=some (.int .i64 i0)):IZ i0 m w:=⟨h.1,h0,h.2.1,h.2.2⟩
theorem msg_opn (hR:R≤140737488355000) {n:Nat} {c0 c1 c2 c3 c4 c5 c6 c7 c8 c9:Value} (h:EA enc Tryz.prog w base spare held R n 36 [c0,c1,c2,c3,c4,c5,c6,c7,c8,c9]): ∃m:MD,[c0,c1,c2,c3,c4,c5,c6,c7,c8,c9]=m.cells∧OL w m:=by
 obtain⟨n1,hf⟩:=h.fields Tryz.underlying36;have g0:=hf.at_ 0 3 0 1 _ rfl rfl rfl (by kernel_rfl) rfl;have g1:=hf.at_ 1 33 1 1 _ rfl rfl rfl (by kernel_rfl) rfl;have g2:=hf.at_ 2 33 2 1 _ rfl rfl rfl (by kernel_rfl) rfl;have g3:=hf.at_ 3 33 3 1 _ rfl rfl rfl (by kernel_rfl) rfl;have g4:=hf.at_ 4 33 4 1 _ rfl rfl rfl (by kernel_rfl) rfl;have g5:=hf.at_ 5 33 5 1 _ rfl rfl rfl (by kernel_rfl) rfl;have g6:=hf.at_ 6 9 6 1 _ rfl rfl rfl (by kernel_rfl) rfl;have g7:=hf.at_ 7 9 7 1 _ rfl rfl rfl (by kernel_rfl) rfl;have g8:=hf.at_ 8 4 8 1 _ rfl rfl rfl (by kernel_rfl) rfl;have g9:=hf.at_ 9 34 9 1 _ rfl rfl rfl (by kernel_rfl) rfl;obtain⟨x0,rfl,_⟩:=EA.int Tryz.underlying3 g0;obtain⟨x1,rfl,u1⟩:=EA.int Tryz.underlying33 g1;obtain⟨x2,rfl,u2⟩:=EA.int Tryz.underlying33 g2;obtain⟨x3,rfl,u3⟩:=EA.int Tryz.underlying33 g3;obtain⟨x4,rfl,u4⟩:=EA.int Tryz.underlying33 g4;obtain⟨x5,rfl,u5⟩:=EA.int Tryz.underlying33 g5;obtain⟨x6,rfl,u6,_⟩:=EA.str Tryz.underlying9 g6;obtain⟨x7,rfl,u7,_⟩:=EA.str Tryz.underlying9 g7;obtain⟨x8,rfl⟩:=EA.bool Tryz.underlying4 g8;obtain⟨A,b,cap,rfl,k1,k2,k3,k4,k5⟩:=trod_octs g9;refine⟨⟨x0,x1,x2,x3,x4,x5,x6,x7,x8,A,cap,b⟩,rfl,⟨u8c_rdG k1,k2,k3,k4,⟨UI u1,UI u2,UI u3,UI u4,UI u5⟩,u6,u7⟩,Nat.le_trans k5 hR,fun a ha h0=>?_⟩;obtain⟨b1,off,e,hb,_⟩:=k1 h0;dsimp only at ha;rw[ha] at e;injection e with e;subst e;exact hb
theorem cN (hR:R≤140737488355000) {n:Nat} {l:List Value} (hl:l.length=11) (h:EA enc Tryz.prog w base spare held R n 38 l): ∃x:LN,l=x.row∧OL w x.m:=by
 obtain⟨n1,hf⟩:=h.fields Tryz.underlying38;obtain⟨c0,c1,c2,c3,c4,c5,c6,c7,c8,c9,c10,rfl⟩:=arN11 hl;have g0:=hf.at_ 0 4 0 1 _ rfl rfl rfl (by kernel_rfl) rfl;have g1:=hf.at_ 1 36 1 10 _ rfl rfl rfl (by kernel_rfl) rfl;obtain⟨b,rfl⟩:=EA.bool Tryz.underlying4 g0;obtain⟨m,em,hm⟩:=msg_opn hR g1;refine⟨⟨b,m⟩,?_,hm⟩;show _::_=_::m.cells;rw[←em]
theorem open_lines (hR:R≤140737488355000) {r:Reach} {b0:Nat} {v:Value} {d:DataW H} {p:List MemPlace} (hW: ∀q∈d.weights Tryz.prog 22,q≤R) (hv:Value.okWide Tryz.prog w r b0 22 v) (h:DataW.Trod enc Tryz.prog w base spare held 22 v d p): ∃(l:List LN) (A:Option Addr) (cap:Nat),v = .slice A l.length cap∧RdX LN.row w A l∧l.length≤cap∧cap≤maxLen∧∀x∈l,OL w x.m:=by
 obtain⟨a0,len,c0,rfl⟩:=okWide_slice Tryz.underlying22 hv;obtain⟨fuel,hf⟩:=h;obtain⟨A,l,cap,e,h1,h2,h3,h4,_⟩:=EA.slice (R:=R) (cf:=LN.row) (ok:=fun x=>OL w x.m) (size:=11) Tryz.underlying22 (by kernel_rfl) (by decide) LN_len (fun n l hl h=>cN hR hl h) ⟨_,hf,hW⟩;exact⟨l,A,cap,e,h3,h1,h2,h4⟩
end
end Go.Proofs.YtkgikodiecmakaaGreatDoor
namespace Go.Proofs.YtkgikodiecmakaaGreatDoor
open Go.RowKit Go.MapKept
structure RS where
  opens : List MD
  glob : Int
  ends : List EN
  nums : List (Int × Int)
  dead : Bool
structure RP where
  oA : Option Addr
  oc : Nat
  eA : Option Addr
  ec : Nat
  nA : Option Addr
  nc : Nat
def cN2 (x:Int×Int):List Value:=[.int .u32 x.1,.int .u32 x.2]
theorem XI (x:Int×Int):(cN2 x).length=2:=rfl
theorem cN2_one (x:Int×Int): ∀u∈cN2 x,u.oneCell'=true:=by
 intro u hu;simp only[cN2,List.mem_cons,List.not_mem_nil,or_false] at hu;rcases hu with rfl|rfl<;>rfl
theorem KL (m:MD):m.cells.length=10:=rfl
theorem XY (m:MD): ∀u∈m.cells,u.oneCell'=true:=by
 intro u hu;simp only[MD.cells,List.mem_cons,List.not_mem_nil,or_false] at hu;rcases hu with rfl|rfl|rfl|rfl|rfl|rfl|rfl|rfl|rfl|rfl<;>rfl
theorem elemN2:ElemT Tryz.prog 30 59 2 (Tryz.prog.bytesOf 59):=IN (z:=.agg #[.int .u32 0,.int .u32 0]) (by kernel_rfl) (by kernel_rfl) (by decide) (by decide)
theorem by_n2 {n:Nat} (h:n≤1000000):(n+1)*Tryz.prog.bytesOf 59≤140737488355328:=by
 have e:Tryz.prog.bytesOf 59=8:=by kernel_rfl
 rw[e];omega
def rwS (P:RP) (no:Nat) (g:Int) (ne nn:Nat) (d:Bool):List SC:=[.v (.slice P.oA no P.oc),.v (.int .i64 g),.v (.slice P.eA ne P.ec),.v (.slice P.nA nn P.nc),.v (.bool d)]
def rwC (P:RP) (no:Nat) (g:Int) (ne nn:Nat) (d:Bool):List Value:=[.slice P.oA no P.oc,.int .i64 g,.slice P.eA ne P.ec,.slice P.nA nn P.nc,.bool d]
def RP.fp (P:RP) (q:Nat):List Nat:=q::(bkO P.oA++(bkO P.eA++(bkO P.nA++[])))
structure RAt (w : World) (q : Nat) (P : RP) (R : RS) : Prop where
  blk : Blk w q 32 (rwC P R.opens.length R.glob R.ends.length R.nums.length R.dead)
  os : BK MD.cells 36 10 w 0 (.slice P.oA R.opens.length P.oc) R.opens
  es : BK EN.cells 61 8 w 0 (.slice P.eA R.ends.length P.ec) R.ends
  ns : BK cN2 59 2 w 0 (.slice P.nA R.nums.length P.nc) R.nums
  nd : (P.fp q).Nodup
def RS.hp (P:RP) (R:RS) (no ne nn:Nat):List HB:=[.b true 32 (rwS P no R.glob ne nn R.dead),.s P.oA P.oc no 36 10 (R.opens.flatMap MD.cells),.s P.eA P.ec ne 61 8 (R.ends.flatMap EN.cells),.s P.nA P.nc nn 59 2 (R.nums.flatMap cN2)]
theorem RAt.start {w:World} {q:Nat} {P:RP} {R:RS} (h:RAt w q P R):Mem w (P.fp q) [q,0,0,0] (R.hp P R.opens.length R.ends.length R.nums.length) w:=by
 have hb:Blk w q 32 (rwC P R.opens.length R.glob R.ends.length R.nums.length R.dead):=h.blk;exact Mem.startN (β:=[q,0,0,0]) (hp:=R.hp P R.opens.length R.ends.length R.nums.length) rfl h.nd ⟨hb,h.os,h.es,h.ns,trivial⟩
theorem RAt.lt {w:World} {q:Nat} {P:RP} {R:RS} (h:RAt w q P R): ∀y∈P.fp q,y<w.heap.size:=fun y hy=>((h.start).bks rfl).2 y hy |>.2
theorem RAt.st {q:Nat} {P:RP} {R:RS}:StX (P.fp q) (fun w=>RAt w q P R):=fun w w' hs he h=>by
 have O: ∀A,(∀y∈bkO A,y∈P.fp q)→∀a,A=some a→w'.heap[a.block]? = w.heap[a.block]? :=fun A hA a ha=>he _ (hA _ (by subst ha;simp[bkO]));have hsx: ∀{α:Type} {cf:α→List Value} {E size:Nat} {A:Option Addr} {c:Nat} {l:List α},(∀y∈bkO A,y∈P.fp q)→BK cf E size w 0 (.slice A l.length c) l→BK cf E size w' 0 (.slice A l.length c) l:=fun {α cf E size A c l} hA ho=>by
  obtain⟨h1,h2|⟨g,cap,cur,e,hg,hh,hr⟩⟩:=ho;·exact⟨h1,.inl h2⟩
  ·refine⟨h1,.inr ⟨g,cap,cur,e,hg,?_,hr⟩⟩;injection e with e1 e2 e3;exact(O A hA _ e1).trans hh
 exact⟨(he q (by simp[RP.fp])).trans h.blk,hsx (fun y hy=>by simp[RP.fp,hy]) h.os,hsx (fun y hy=>by simp[RP.fp,hy]) h.es,hsx (fun y hy=>by simp[RP.fp,hy]) h.ns,h.nd⟩
def ET {X:Type} (q:Nat) (P:RP) (v:X→Value) (Rel:RS→X→Prop) (w:World):Ending→World→Prop:=fun e w'=>∃x:RP×RS×X,e = .returned (v x.2.2)∧Only (P.fp q) w w'∧(RAt w' q x.1 x.2.1∧Rel x.2.1 x.2.2)∧StX (x.1.fp q) (fun w=>RAt w q x.1 x.2.1∧Rel x.2.1 x.2.2)∧∀y∈x.1.fp q,y<w'.heap.size∧(y∈P.fp q∨w.heap.size≤y)
theorem RAt.post {X:Type} {w w':World} {q r1 r2 r3:Nat} {P P':RP} {R':RS} {v:X→Value} {Rel:RS→X→Prop} {no ne nn:Nat} (H:Mem w (P.fp q) [q,r1,r2,r3] (R'.hp P' no ne nn) w') (h1:R'.opens.length=no) (h2:R'.ends.length=ne) (h3:R'.nums.length=nn) (x:X) (hx:Rel R' x):ET q P v Rel w (.returned (v x)) w':=by
 subst h1;subst h2;subst h3;have hk:=H.bks rfl;have hb:Blk w' q 32 (rwC P' R'.opens.length R'.glob R'.ends.length R'.nums.length R'.dead):=H.lies 0 _ rfl;have A:RAt w' q P' R':=⟨hb,H.lies 1 _ rfl,H.lies 2 _ rfl,H.lies 3 _ rfl,hk.1⟩;exact⟨(P',R',x),rfl,H.only,⟨A,hx⟩,fun w1 w2 hs he h=>⟨RAt.st w1 w2 hs he h.1,h.2⟩,fun y hy=>⟨(hk.2 y hy).2,(hk.2 y hy).1⟩⟩
def VH (E:List EN) (n k:Int):Prop:=(k = -1∧∀x∈E,x.chan≠n)∨∃(j:Nat) (x:EN),k=j∧E[j]? = some x∧x.chan=n
theorem MO (q:Nat) (n:Int) (P:RP) (no:Nat) (g:Int) (E:List EN) (ne nn:Nat) (d:Bool) (w:World) (hb:Blk w q 32 (rwC P no g ne nn d)) (hr:RdX EN.cells w P.eA E) (hE:E.length=ne) (hm:ne≤maxLen):Calls Tryz.prog 19 #[AO q,.int .u32 n] w fun e w'=>∃k:Int,e = .returned (.int .i64 k)∧Only [] w w'∧VH E n k:=by
 obtain⟨oA,oc,eA,ec,nA,nc⟩:=P;dsimp only at hr;refine Hs.en Tryz.func19 [] [q] [.b false 32 (rwS ⟨oA,oc,eA,ec,nA,nc⟩ no g ne nn d)] [.c (.p 0 0),.c (.v (.int .u32 n))] (Mem.rdOne w q hb) ?_;have J: ∀(k i:Nat),ne-i=k→i≤ne→(∀(j:Nat) (x:EN),j<i→E[j]? = some x→x.chan≠n)→∀(u:Nat→Value),Hs Tryz.prog 19 (fun e w'=>∃k:Int,e = .returned (.int .i64 k)∧Only [] w w'∧VH E n k) (Tryz.f19).ntmps w [] [] ⟨.no,BP Tryz.f19 0,GV [(1,.c (.v (.int .u32 n))),(10,.c (.v (.slice eA ne ec))),(11,.c (.v (.int .i64 ne))),(12,.c (.v (.int .i64 (i:Nat))))] (.vals u),[]⟩:=by
  intro k;induction k with
  |zero=>
   intro i hd hi hall u;refine Hs.e0 ?_;refine Hs.cP ((i:Int)<(ne:Int)) (fun h=>by omega) (fun h=>?_);refine Hs.e0 ?_;exact Hs.rt (v:=.int .i64 (-1)) Tryz.func19 fun w' H=>⟨-1,rfl,H.only,.inl ⟨rfl,fun x hx=>by
    obtain⟨j,hj⟩:=List.mem_iff_getElem?.1 hx;exact hall j x (by have:=(List.getElem?_eq_some_iff.1 hj).1;omega) hj⟩⟩
  |succ k ih=>
   intro i hd hi hall u;have hil:i<E.length:=by omega
   have hil2:i<ne:=by omega
   obtain⟨x,hx⟩: ∃x,E[i]? = some x:=⟨_,List.getElem?_eq_getElem hil⟩;obtain⟨b,off,hA,_,_⟩:=hr (by omega);subst hA;have ih2:=fun h u=>ih (i+1) (by omega) (by omega) h u;clear ih;refine Hs.e0 ?_;refine Hs.cP ((i:Int)<(ne:Int)) (fun h=>?_) (fun h=>by omega);refine Hs.e0 ?_;refine Hs.idx (b:=b) (off:=off) (c:=ec) EC hil2 (by kernel_rfl) ?_;refine Hs.ldx (E:=61) (b:=b) (off:=off) (i:=i) AU (.g x.sc) (by kernel_rfl) (fun w' H=>hr.only H.only) hx (by kernel_rfl) (by kernel_rfl) (by kernel_rfl) (by kernel_rfl) ?_;refine Hs.e1 fun b1=>?_;refine Hs.cP (x.chan=n) (fun h1=>?_) (fun h1=>?_)
   ·refine Hs.e0 ?_;exact Hs.rt (v:=.int .i64 (i:Nat)) Tryz.func19 fun w' H=>⟨_,rfl,H.only,.inr ⟨i,x,rfl,hx,h1⟩⟩
   ·refine Hs.e0 ?_;refine Hs.slot 12 (.c (.v (.int .i64 (i+1:Nat)))) rfl ((by kernel_rfl:_=Value.int .i64 (IntKind.i64.wrap ((i:Int)+1))).trans (DV hm)) ?_;refine Hs.lP ?_;exact Hs.goto (BP Tryz.f19 0) [] [] [(1,.c (.v (.int .u32 n))),(10,.c (.v (.slice (some ⟨b,off,none⟩) ne ec))),(11,.c (.v (.int .i64 ne))),(12,.c (.v (.int .i64 (i+1:Nat))))] (by kernel_rfl) (by decide) (by kernel_rfl) (by kernel_rfl) (fun _=>(by kernel_rfl)) (fun u=>ih2 (fun j y hj hy=>by
     rcases Nat.lt_or_ge j i with h2|h2;·exact hall j y h2 hy
     ·obtain rfl:j=i:=by omega
      rw[hx] at hy;injection hy with hy;subst hy;exact h1) u)
 refine Hs.e0 ?_;refine Hs.lP ?_;exact Hs.goto (BP Tryz.f19 0) [] [] [(1,.c (.v (.int .u32 n))),(10,.c (.v (.slice eA ne ec))),(11,.c (.v (.int .i64 ne))),(12,.c (.v (.int .i64 (0:Nat))))] (by kernel_rfl) (by decide) (by kernel_rfl) (by kernel_rfl) (fun _=>(by kernel_rfl)) (fun u=>J _ 0 rfl (by omega) (fun j x hj=>by omega) u)
end Go.Proofs.YtkgikodiecmakaaGreatDoor
namespace Go.Proofs.YtkgikodiecmakaaGreatDoor
open Go.RowKit
section
variable {P : Program} {f : FuncId} {R : Ending → World → Prop} {n : Nat} {w0 : World} {L : List Nat} {β : List Nat} {m : SM}
end
section
variable {P : Program} {f : FuncId} {R : Ending → World → Prop} {n : Nat} {w0 : World} {L : List Nat} {β : List Nat} {m : SM}
variable {tS E size bytes : Nat}
end
section
variable {P : Program} {f : FuncId} {R : Ending → World → Prop} {n : Nat} {w0 : World} {L : List Nat} {β : List Nat} {m : SM}
end
def loA (size:Nat) (A:Option Addr) (i cap:Nat):Option Addr:=if cap=i then A else A.map (·.add (i*size))
def hiA (size:Nat) (A:Option Addr) (cap:Nat):Option Addr:=if cap=0 then A else A.map (·.add (0*size))
section
variable {P : Program} {tS E size bytes : Nat} {α : Type} {cf : α → List Value}
theorem run_loA (ht:ElemT P tS E size bytes) {A:Option Addr} {n cap i:Nat} (hn:i≤n) (w:World):(Instr.sliceAt tS (.slice A n cap) (some (.int .i64 i)) none none).run P w = .ok (.slice (loA size A i cap) (n-i) (cap-i)) w:=run_sloA ht hn w
theorem run_hiA (ht:ElemT P tS E size bytes) {A:Option Addr} {n cap i:Nat} (hi:i≤cap) (w:World):(Instr.sliceAt tS (.slice A n cap) none (some (.int .i64 i)) none).run P w = .ok (.slice (hiA size A cap) i cap) w:=by
 have hu:P.underlying tS=some (.slice (P.elem tS)):=by rw[ht.elem];exact ht.ht
 rw[run_sliceAt_slice (h:=hu),run_slice_h (ht:=hu) (h0:=by omega) (h2:=by omega),ht.elem,ht.sizeOf];simp only[Result.andThen_ok,sliced,Int.toNat_natCast];rfl
theorem YH (hcl: ∀x,(cf x).length=size) {w:World} {A:Option Addr} {l:List α} {i cap:Nat} (h:RdX cf w A l) (hi:i≤l.length) (hc:l.length≤cap):RdX cf w (loA size A i cap) (l.drop i):=fun h0=>by
 rw[List.length_drop] at h0;obtain⟨b,off,e,hb,hcell⟩:=h (by omega);subst e;refine⟨b,off+i*size,?_,hb,fun j u hj=>?_⟩
 ·unfold loA;rw[if_neg (by omega)];simp[Addr.add_lit]
 ·rw[←NM hcl l i hi,List.getElem?_drop] at hj;have:=hcell _ u hj;rw[Nat.add_assoc];exact this
theorem YG (hcl: ∀x,(cf x).length=size) {w:World} {A:Option Addr} {l:List α} {i cap:Nat} (h:RdX cf w A l) (hi:i≤l.length):RdX cf w (hiA size A cap) (l.take i):=fun h0=>by
 rw[List.length_take] at h0;obtain⟨b,off,e,hb,hcell⟩:=h (by omega);subst e;refine⟨b,off,?_,hb,fun j u hj=>?_⟩
 ·unfold hiA;split;·rfl
  ·simp[Addr.add_lit]
 ·rw[←NN hcl l i hi,List.getElem?_take] at hj;split at hj;·exact hcell _ u hj
  ·cases hj
variable {f : FuncId} {R : Ending → World → Prop} {n : Nat} {w0 : World} {L : List Nat} {β : List Nat} {m : SM}
theorem Hs.takeLo (j:Nat) (ht:ElemT P tS E size bytes) {rd:List Nat} {A:Option Addr} {len cap i:Nat} (hn:i≤len) (hs:WU j n β m=some (IY (Instr.sliceAt tS (.slice A len cap) (some (.int .i64 i)) none none),rd)) (h:Hs P f R n w0 L β (UG j (.c (.v (.slice (loA size A i cap) (len-i) (cap-i)))) m)):Hs P f R n w0 L β m:=
 Hs.takeV j (.c (.v (.slice (loA size A i cap) (len-i) (cap-i)))) hs rfl (fun w _=>run_loA ht hn w) h
theorem Hs.takeHi (j:Nat) (ht:ElemT P tS E size bytes) {rd:List Nat} {A:Option Addr} {len cap i:Nat} (hi:i≤cap) (hs:WU j n β m=some (IY (Instr.sliceAt tS (.slice A len cap) none (some (.int .i64 i)) none),rd)) (h:Hs P f R n w0 L β (UG j (.c (.v (.slice (hiA size A cap) i cap))) m)):Hs P f R n w0 L β m:=
 Hs.takeV j (.c (.v (.slice (hiA size A cap) i cap))) hs rfl (fun w _=>run_hiA ht hi w) h
end
section
variable {w w0 w1 w2 w' : World} {L L1 L' β : List Nat} {hp : List HB} {Q D1 D2 : World → Prop}
end
section
variable {P : Program} {f : FuncId} {R : Ending → World → Prop} {n : Nat} {w0 w00 : World} {L : List Nat} {β : List Nat} {m : SM} {D1 : World → Prop}
end
theorem QK {α:Type} (vs:List α) (j:Nat) (v:α) (h:j<vs.length):(BS vs j [v]).length=vs.length:=by
 simp only[BS,List.length_append,List.length_take,List.length_drop,List.length_cons,List.length_nil];omega
theorem ZH {α:Type} (cur:List α) (q j:Nat) (v:α) (h:j<q) (hq:q≤cur.length):(BS cur j [v]).take q=BS (cur.take q) j [v]:=by
 unfold BS;simp only[List.length_cons,List.length_nil,Nat.zero_add];rw[List.take_append,List.take_take,List.length_take,Nat.min_eq_right (by omega:j≤q),Nat.min_eq_left (by omega:j≤cur.length),List.take_take,Nat.min_eq_left (by omega:j≤q)];congr 1
 rw[List.singleton_append,List.singleton_append];obtain⟨d,hd⟩: ∃d,q-j=d+1:=⟨q-j-1,by omega⟩;rw[hd,List.take_succ_cons];congr 1
 rw[List.drop_take];congr 1
 omega
section
variable {P : Program} {f : FuncId} {R : Ending → World → Prop} {n : Nat} {w0 : World} {L : List Nat} {β : List Nat} {m : SM} {E size : Nat}
theorem Hs.stc (k:Nat) {g cap nl:Nat} {vs:List Value} (hk:m.hp[k]? = some (.s (some ⟨g,0,none⟩) cap nl E size vs)) (j:Nat) (hj:j<vs.length) {v:Value} (hv:v.cells=#[v]) (hone:v.oneCell'=true) {E':TypeId} (hz:szB P E'=some 1)
  (hs:FN n β m=some (UH (Instr.storeAt E' (.pointer (some ⟨g,j,none⟩)) v))) (hrd:(FS m).contains k=false)
  (h:Hs P f R n w0 L β (m.put (BF m) (.c (.v undef)) (m.hp.set k (.s (some ⟨g,0,none⟩) cap nl E size (BS vs j [v]))))):Hs P f R n w0 L β m:=by
 refine Hs.opU hs fun w H W=>?_;have hl:w.ownsRow 0 E size (.slice (some ⟨g,0,none⟩) nl cap) nl vs:=H.lies k _ hk;obtain⟨h1,⟨h2,_⟩|⟨g',c',cur,e,hg,hh,hc,hm,hsz,ht⟩⟩:=hl;·injection h2 with h2;cases h2
 injection e with e1 e2 e3;injection e1 with e1;injection e1 with e1;subst e1;subst e3;have hcl:cur.toList.length=cap*size:=by rw[Array.length_toList,hsz]
 have hnc:nl*size≤cap*size:=Nat.mul_le_mul_right _ hc;have hB:Blk w g E cur.toList:=by
  show w.heap[g]? = _;rw[hh]
 have hle:j+[v].length≤cur.toList.length:=by simp only[List.length_cons,List.length_nil];omega
 have hst:(storeVar E' ⟨g,j,none⟩ v).run P w = .ok () (w.setCells g j [v]):=by
  have hc:=run_storeCells_cells (P:=P) g j [v] 0 w (fun i hi=>by
    simpa using(FW hB j [v].length hle i (by simpa using hi)).1) (fun i hi=>by
    simpa using(FW hB j [v].length hle i (by simpa using hi)).2) (by simpa using hone)
  simp only[Nat.add_zero] at hc;unfold storeVar;simp only[Sem.run_bind,GX hz w,Result.andThen_ok,hv];rw[if_neg (by simp)];simp[hc]
 have hB':=GF [v] j w cur.toList hB hle;have hO:(w.setCells g j [v]).ownsRow 0 E size (.slice (some ⟨g,0,none⟩) nl cap) nl (BS vs j [v]):=by
  refine⟨by rw[QK _ _ _ hj,h1],.inr ⟨g,cap,(BS cur.toList j [v]).toArray,rfl,Nat.zero_le _,hB',hc,hm,?_,?_⟩⟩;·rw[List.size_toArray,QK _ _ _ (by omega),hcl]
  ·rw[ZH _ _ _ _ (by omega) (by omega),ht]
 refine⟨_,w.setCells g j [v],by simp only[Instr.storeAt,Instr.sureAddr,Sem.run_bind,Sem.run_pure,Result.andThen_ok,hst],H.reS k hk (FK _ _ _) hO,?_,fun i hi b hb=>?_,h⟩
 ·simp only[Bool.and_eq_true,Nat.ble_eq,List.length_set];refine⟨Nat.le_refl _,List.all_eq_true.2 fun x hx=>?_⟩;rcases List.mem_or_eq_of_mem_set hx with hx|rfl;·exact List.all_eq_true.1 (SM.wf_hp W) x hx
  ·rfl
 ·rw[List.getElem?_set,if_neg (fun e=>by subst e;simp at hrd;exact hrd hi)];exact hb
end
end Go.Proofs.YtkgikodiecmakaaGreatDoor
namespace Go.Proofs.YtkgikodiecmakaaGreatDoor
open Go.RowKit Go.MapKept
theorem QJ {α:Type} {cf:α→List Value} {size:Nat} (hcl: ∀x,(cf x).length=size): ∀(l:List α) (i:Nat) (x y:α) (q:Nat) (v:Value),l[i]? = some x→cf y=(cf x).set q v→q<size→BS (l.flatMap cf) (i*size+q) [v]=(l.set i y).flatMap cf
 |[],i,x,y,q,v,h,_,_=>by simp at h
 |a::l,0,x,y,q,v,h,hy,hq=>by
  simp only[List.getElem?_cons_zero,Option.some.injEq] at h;subst h;have hl:=hcl a;rw[List.set_cons_zero,List.flatMap_cons,List.flatMap_cons,hy,Nat.zero_mul,Nat.zero_add];unfold BS;rw[List.take_append_of_le_length (by omega),List.drop_append_of_le_length (by simp;omega)];rw[List.set_eq_take_append_cons_drop,if_pos (by omega)];simp
 |a::l,i+1,x,y,q,v,h,hy,hq=>by
  have ih:=QJ hcl l i x y q v (by simpa using h) hy hq;have hl:=hcl a;rw[List.set_cons_succ,List.flatMap_cons,List.flatMap_cons,←ih];unfold BS;have e:(i+1)*size+q=(cf a).length+(i*size+q):=by rw[hl,Nat.succ_mul];omega
  rw[e,Nat.add_assoc,List.take_length_add_append,List.drop_length_add_append];simp[List.append_assoc]
section
variable {P : Program} {f : FuncId} {R : Ending → World → Prop} {n : Nat} {w0 : World} {L : List Nat} {β : List Nat} {m : SM}
theorem Hs.aidx {t b off d:Nat} {i:SV} (ha:XD P t i=some d) (hs:FN n β m=some (IY (Instr.indexAt t (.pointer (some ⟨b,off,none⟩)) (i.den β)))) (h:Hs P f R n w0 L β (m.put (BF m) (.c (.v (.pointer (some ⟨b,off+d,none⟩)))) m.hp)):Hs P f R n w0 L β m:=
 Hs.opV (.c (.v (.pointer (some ⟨b,off+d,none⟩)))) hs rfl (fun w _=>TP ha w) h
variable {α : Type} {cf : α → List Value} {E size : Nat}
theorem Hs.stf (k:Nat) (hcl: ∀x,(cf x).length=size) (l:List α) (nl:Nat) (hl:l.length=nl) (i:Nat) (x y:α) (hx:l[i]? = some x) (q:Nat) (hq:q<size) {v:Value} (hv:v.cells=#[v]) (hone:v.oneCell'=true) {g cap:Nat} {E':TypeId} (hz:szB P E'=some 1) (hy:cf y=(cf x).set q v)
  (hs:FN n β m=some (UH (Instr.storeAt E' (.pointer (some ⟨g,0+i*size+q,none⟩)) v))) (hk:m.hp[k]? = some (.s (some ⟨g,0,none⟩) cap nl E size (l.flatMap cf))) (hrd:(FS m).contains k=false)
  (h:Hs P f R n w0 L β (m.put (BF m) (.c (.v undef)) (m.hp.set k (.s (some ⟨g,0,none⟩) cap nl E size ((l.set i y).flatMap cf))))):Hs P f R n w0 L β m:=by
 rw[Nat.zero_add] at hs;refine Hs.stc k hk (i*size+q) ?_ hv hone hz hs hrd ?_
 ·have h1:=(List.getElem?_eq_some_iff.1 hx).1;rw[FZ hcl];have:(i+1)*size≤l.length*size:=Nat.mul_le_mul_right _ h1;rw[Nat.succ_mul] at this;omega
 ·rw[QJ hcl l i x y q v hx hy hq];exact h
end
def NumAt (l:List (Int×Int)) (n:Int) (i:Nat) (p:Int×Int):Prop:=l[i]? = some p∧p.1=n∧∀j y,i<j→l[j]? = some y→y.1≠n
inductive SaysR (m : MD) (R : RS) : RS → Prop
  | opn (hk : m.kind = 90) : SaysR m R { R with opens := R.opens ++ [m] }
  | glo (hk : m.kind = 80) (hw : m.want = true) : SaysR m R { R with glob := IntKind.i64.wrap (R.glob + 1) }
  | glo0 (hk : m.kind = 80) (hw : m.want = false) : SaysR m R R
  | non (hk : m.kind = 93 ∨ m.kind = 98) (h : ∀ p ∈ R.nums, p.1 ≠ m.chan) : SaysR m R R
  | win (hk : m.kind = 93) {i j : Nat} {p : Int × Int} {x : EN} (h : NumAt R.nums m.chan i p) (hj : R.ends[j]? = some x) (hx : x.chan = p.2) : SaysR m R { R with ends := R.ends.set j { x with granted := IntKind.u64.wrap (x.granted + m.window) } }
  | req (hk : m.kind = 98) (hw : m.want = true) {i j : Nat} {p : Int × Int} {x : EN} (h : NumAt R.nums m.chan i p) (hj : R.ends[j]? = some x) (hx : x.chan = p.2) : SaysR m R { R with ends := R.ends.set j { x with wants := IntKind.i64.wrap (x.wants + 1) } }
  | req0 (hk : m.kind = 98) (hw : m.want = false) {i j : Nat} {p : Int × Int} {x : EN} (h : NumAt R.nums m.chan i p) (hj : R.ends[j]? = some x) (hx : x.chan = p.2) : SaysR m R R
  | oth (hk : m.kind ≠ 90 ∧ m.kind ≠ 80 ∧ m.kind ≠ 93 ∧ m.kind ≠ 98) : SaysR m R R
theorem by_m1 {n:Nat} (h:n≤1000):(n+1)*Tryz.prog.bytesOf 36≤140737488355328:=by
 have e:Tryz.prog.bytesOf 36=96:=by kernel_rfl
 rw[e];omega
theorem bB (q:Nat) (P:RP) (R:RS) (m:MD) (w:World) (h:RAt w q P R) (hno:R.opens.length≤1000) (hne:R.ends.length≤1000) (hnn:R.nums.length≤1000) (hwin:U32 m.window) (hcl: ∀p∈R.nums,∃x∈R.ends,x.chan=p.2):Calls Tryz.prog 9 #[AO q,m.val] w (ET q P (fun _:Unit=>.tuple #[]) (fun R' _=>SaysR m R R') w):=by
 have h0:=h.start;obtain⟨opens,glob,ends,nums,dead⟩:=R;obtain⟨no,e1⟩: ∃n,opens.length=n:=⟨_,rfl⟩;obtain⟨ne,e2⟩: ∃n,ends.length=n:=⟨_,rfl⟩;obtain⟨nn,e3⟩: ∃n,nums.length=n:=⟨_,rfl⟩;dsimp only at h0 hno hne hnn hcl;rw[e1,e2,e3] at h0;rw[e1] at hno;rw[e2] at hne;rw[e3] at hnn;obtain⟨oA,oc,eA,ec,nA,nc⟩:=P;have hx: ∀(P':RP) (R':RS) (no ne nn:Nat) (w':World),Mem w ((RP.mk oA oc eA ec nA nc).fp q) [q,0,0,0] (R'.hp P' no ne nn) w'→R'.opens.length=no→R'.ends.length=ne→R'.nums.length=nn→SaysR m ⟨opens,glob,ends,nums,dead⟩ R'→ET q ⟨oA,oc,eA,ec,nA,nc⟩ (fun _:Unit=>.tuple #[]) (fun R' _=>SaysR m ⟨opens,glob,ends,nums,dead⟩ R') w (.returned (.tuple #[])) w':=fun P' R' no ne nn w' H a b c d=>RAt.post (v:=fun _:Unit=>.tuple #[]) (Rel:=fun R' _=>SaysR m ⟨opens,glob,ends,nums,dead⟩ R') H a b c () d;obtain⟨Q,hQ⟩: ∃Q,ET q ⟨oA,oc,eA,ec,nA,nc⟩ (fun _:Unit=>.tuple #[]) (fun R' _=>SaysR m ⟨opens,glob,ends,nums,dead⟩ R') w=Q:=⟨_,rfl⟩;rw[hQ] at hx⊢;obtain⟨B,hB⟩: ∃B,(RP.mk oA oc eA ec nA nc).fp q=B:=⟨_,rfl⟩;rw[hB] at h0 hx;refine Hs.en Tryz.func9 B [q,0,0,0] [.b true 32 [.v (.slice oA no oc),.v (.int .i64 glob),.v (.slice eA ne ec),.v (.slice nA nn nc),.v (.bool dead)],.s oA oc no 36 10 (opens.flatMap MD.cells),.s eA ec ne 61 8 (ends.flatMap EN.cells),.s nA nc nn 59 2 (nums.flatMap cN2)] [.c (.p 0 0),.g (mdS m)] h0 ?_;refine Hs.e1 fun b0=>?_;refine Hs.cP (m.kind=90) (fun k1=>?_) (fun k1=>?_)
 ·refine Hs.any [0,4,1010] (by kernel_rfl) ?_;refine Hs.e1 fun q1=>?_;refine Hs.app (c:=1) (ty:=28) 1 GH opens [m] no 1 e1 rfl XY KL (A:=oA) (B:=some ⟨q1,0,none⟩) (cap:=oc) (by kernel_rfl) (by kernel_rfl) (by kernel_rfl) (fun w' H=>H.rdB (gs:=[m]) 5 (wr:=true) (T:=36) (cs:=mdS m) (by kernel_rfl) rfl) (by unfold maxLen;omega) (by_m1 hno) fun A' c' ho=>?_;refine Hs.e0 ?_;refine Hs.rt (v:=.tuple #[]) Tryz.func9 fun w' H=>?_;exact hx ⟨A',c',eA,ec,nA,nc⟩ ⟨opens++[m],glob,ends,nums,dead⟩ (no+1) ne nn w' (H.sub [0,1,2,3] (by decide) (hp':=RS.hp ⟨A',c',eA,ec,nA,nc⟩ ⟨opens++[m],glob,ends,nums,dead⟩ (no+1) ne nn) (by kernel_rfl)) (by rw[List.length_append,e1];rfl) e2 e3 (.opn k1)
 refine Hs.e0 ?_;refine Hs.cP (m.kind=80) (fun k2=>?_) (fun k2=>?_)
 ·refine Hs.e0 ?_;refine Hs.cn m.want (fun hw=>?_) (fun hw=>?_)
  ·refine Hs.e0 ?_;refine Hs.rt (v:=.tuple #[]) Tryz.func9 fun w' H=>?_;exact hx ⟨oA,oc,eA,ec,nA,nc⟩ ⟨opens,IntKind.i64.wrap (glob+1),ends,nums,dead⟩ no ne nn w' (H.sub [0,1,2,3] (by decide) (hp':=RS.hp ⟨oA,oc,eA,ec,nA,nc⟩ ⟨opens,IntKind.i64.wrap (glob+1),ends,nums,dead⟩ no ne nn) (by kernel_rfl)) e1 e2 e3 (.glo k2 hw)
  ·refine Hs.e0 ?_;refine Hs.rt (v:=.tuple #[]) Tryz.func9 fun w' H=>?_;exact hx ⟨oA,oc,eA,ec,nA,nc⟩ ⟨opens,glob,ends,nums,dead⟩ no ne nn w' (H.sub [0,1,2,3] (by decide) (hp':=RS.hp ⟨oA,oc,eA,ec,nA,nc⟩ ⟨opens,glob,ends,nums,dead⟩ no ne nn) (by kernel_rfl)) e1 e2 e3 (.glo0 k2 hw)
 have K: ∀(u:Nat→Value),(m.kind=93∨m.kind=98)→Hs Tryz.prog 9 Q (Tryz.f9).ntmps w B [q,0,0,0,b0] ⟨.no,BP Tryz.f9 0,GV [(0,.c (.p 0 0)),(3,.c (.p 4 0)),(4,.c (.v (.int .i64 (IntKind.i64.wrap ((nn:Int)-1)))))] (.vals u),[.b true 32 [.v (.slice oA no oc),.v (.int .i64 glob),.v (.slice eA ne ec),.v (.slice nA nn nc),.v (.bool dead)],.s oA oc no 36 10 (opens.flatMap MD.cells),.s eA ec ne 61 8 (ends.flatMap EN.cells),.s nA nc nn 59 2 (nums.flatMap cN2),.b true 36 (mdS m)]⟩:=by
  intro u0 hk;have e0:IntKind.i64.wrap ((nn:Int)-1)=(nn:Int)-1:=IntWalk.i64_in _ (by omega);rw[e0];clear e0;have J: ∀(k:Nat),k≤nn→(∀(j:Nat) (y:Int×Int),k≤j→nums[j]? = some y→y.1≠m.chan)→∀u:Nat→Value,Hs Tryz.prog 9 Q (Tryz.f9).ntmps w B [q,0,0,0,b0] ⟨.no,BP Tryz.f9 0,GV [(0,.c (.p 0 0)),(3,.c (.p 4 0)),(4,.c (.v (.int .i64 ((k:Int)-1))))] (.vals u),[.b true 32 [.v (.slice oA no oc),.v (.int .i64 glob),.v (.slice eA ne ec),.v (.slice nA nn nc),.v (.bool dead)],.s oA oc no 36 10 (opens.flatMap MD.cells),.s eA ec ne 61 8 (ends.flatMap EN.cells),.s nA nc nn 59 2 (nums.flatMap cN2),.b true 36 (mdS m)]⟩:=by
   intro k;induction k with
   |zero=>
    intro hk2 hall u;refine Hs.e0 ?_;refine Hs.cF ?_;refine Hs.e0 ?_;refine Hs.rt (v:=.tuple #[]) Tryz.func9 fun w' H=>?_;exact hx ⟨oA,oc,eA,ec,nA,nc⟩ ⟨opens,glob,ends,nums,dead⟩ no ne nn w' (H.sub [0,1,2,3] (by decide) (hp':=RS.hp ⟨oA,oc,eA,ec,nA,nc⟩ ⟨opens,glob,ends,nums,dead⟩ no ne nn) (by kernel_rfl)) e1 e2 e3 (.non hk fun p hp=>by
     obtain⟨j,hj⟩:=List.mem_iff_getElem?.1 hp;exact hall j p (Nat.zero_le _) hj)
   |succ k ih=>
    intro hk2 hall u;have hkl:k<nn:=by omega
    obtain⟨p,hp⟩: ∃p,nums[k]? = some p:=⟨_,List.getElem?_eq_getElem (by omega)⟩;have ih2:=fun h u=>ih (by omega) h u;clear ih;refine Hs.slot 4 (.c (.v (.int .i64 (k:Nat)))) rfl ((by kernel_rfl:_=Value.int .i64 (((k+1:Nat):Int)-1)).trans (congrArg (Value.int .i64) (by omega))) ?_;refine Hs.someS (A:=nA) (cap:=nc) (nl:=nn) (E:=59) (size:=2) (vs:=nums.flatMap cN2) 3 (by kernel_rfl) (by omega) fun g hA=>?_;subst hA;refine Hs.e0 ?_;refine Hs.cP ((k:Int)≥0) (fun h1=>?_) (fun h1=>by omega);refine Hs.e0 ?_;refine Hs.any [0,3,4] (by kernel_rfl) ?_;refine Hs.e0 ?_;refine Hs.idx elemN2 (b:=g) (off:=0) (c:=nc) (len:=nn) (i:=k) hkl (by kernel_rfl) ?_;refine Hs.e0 ?_;refine Hs.aidx (t:=59) (b:=g) (off:=0+k*2) (d:=0) (i:=.c (.v (.int .i64 0))) (by kernel_rfl) (by kernel_rfl) ?_;refine Hs.e0 ?_;refine Hs.ldc (E':=33) (b:=g) (off:=0+k*2+0) (.int .u32 p.1) (by kernel_rfl) (fun w' H=>BW XI (H.rdX (cf:=cN2) (l:=nums) 3 e3 (A:=some ⟨g,0,none⟩) (cap:=nc) (E:=59) (size:=2) (by kernel_rfl)) (i:=k) (x:=p) hp (j:=0) (v:=.int .u32 p.1) rfl) (by kernel_rfl) ?_;refine Hs.e0 ?_;refine Hs.cn (p.1 !=m.chan) (fun h2=>?_) (fun h2=>?_)
    ·have h2:p.1≠m.chan:=by simpa using h2
     refine Hs.e0 ?_;refine Hs.slot 4 (.c (.v (.int .i64 ((k:Int)-1)))) rfl ((by kernel_rfl:_=Value.int .i64 (IntKind.i64.wrap ((k:Int)-1))).trans (congrArg (Value.int .i64) (IntWalk.i64_in _ (by omega)))) ?_;refine Hs.lP ?_;exact Hs.goto (BP Tryz.f9 0) [0,1,2,3,4] [.b true 32 [.v (.slice oA no oc),.v (.int .i64 glob),.v (.slice eA ne ec),.v (.slice (some ⟨g,0,none⟩) nn nc),.v (.bool dead)],.s oA oc no 36 10 (opens.flatMap MD.cells),.s eA ec ne 61 8 (ends.flatMap EN.cells),.s (some ⟨g,0,none⟩) nc nn 59 2 (nums.flatMap cN2),.b true 36 (mdS m)] [(0,.c (.p 0 0)),(3,.c (.p 4 0)),(4,.c (.v (.int .i64 ((k:Int)-1))))] (by kernel_rfl) (by decide) (by kernel_rfl) (by kernel_rfl) (fun _=>(by kernel_rfl)) (fun u=>ih2 (fun j y hj hy=>by
      rcases Nat.lt_or_ge k j with h3|h3;·exact hall j y h3 hy
      ·obtain rfl:j=k:=by omega
       rw[hp] at hy;injection hy with hy;subst hy;exact h2) u)
    have h2:p.1=m.chan:=by simpa using h2
    have hN:NumAt nums m.chan k p:=⟨hp,h2,fun j y hj hy=>hall j y hj hy⟩;refine Hs.e0 ?_;refine Hs.any [0,2,3,4] (by kernel_rfl) ?_;refine Hs.e0 ?_;refine Hs.idx elemN2 (b:=g) (off:=0) (c:=nc) (len:=nn) (i:=k) hkl (by kernel_rfl) ?_;refine Hs.e0 ?_;refine Hs.aidx (t:=59) (b:=g) (off:=0+k*2) (d:=1) (i:=.c (.v (.int .i64 1))) (by kernel_rfl) (by kernel_rfl) ?_;refine Hs.e0 ?_;refine Hs.ldc (E':=33) (b:=g) (off:=0+k*2+1) (.int .u32 p.2) (by kernel_rfl) (fun w' H=>BW XI (H.rdX (cf:=cN2) (l:=nums) 3 e3 (A:=some ⟨g,0,none⟩) (cap:=nc) (E:=59) (size:=2) (by kernel_rfl)) (i:=k) (x:=p) hp (j:=1) (v:=.int .u32 p.2) rfl) (by kernel_rfl) ?_;refine Hs.e0 ?_;refine Hs.callX (X:=Int) (fun k=>.int .i64 k) (fun k=>VH ends p.2 k) (fun w' H=>(MO q p.2 ⟨oA,oc,eA,ec,some ⟨g,0,none⟩,nc⟩ no glob ends ne nn dead w' (H.at 0 (wr:=true) (T:=32) (cs:=[.v (.slice oA no oc),.v (.int .i64 glob),.v (.slice eA ne ec),.v (.slice (some ⟨g,0,none⟩) nn nc),.v (.bool dead)]) (by kernel_rfl)) (H.rdX (cf:=EN.cells) (l:=ends) 2 e2 (A:=eA) (cap:=ec) (E:=61) (size:=8) (by kernel_rfl)) e2 (by unfold maxLen;omega)).mono fun e w2 ⟨k,h1,h2,h3⟩=>⟨k,h1,h2,h3⟩) (by kernel_rfl) fun z hz=>?_;rcases hz with⟨_,hz⟩|⟨je,x,rfl,hxe,hxc⟩
    ·obtain⟨x,hx1,hx2⟩:=hcl p (List.mem_of_getElem? hp);exact absurd hx2 (hz x hx1)
    have hjl:je<ne:=by have:=(List.getElem?_eq_some_iff.1 hxe).1;omega
    refine Hs.someS (A:=eA) (cap:=ec) (nl:=ne) (E:=61) (size:=8) (vs:=ends.flatMap EN.cells) 2 (by kernel_rfl) (by omega) fun ge hA=>?_;subst hA;refine Hs.e0 ?_;refine Hs.idx EC (b:=ge) (off:=0) (c:=ec) (len:=ne) (i:=je) hjl (by kernel_rfl) ?_;refine Hs.e0 ?_;refine Hs.cP (m.kind=93) (fun h3=>?_) (fun h3=>?_)
    ·refine Hs.any [4,1010] (by kernel_rfl) ?_;refine Hs.e0 ?_;refine Hs.ldc (E':=47) (b:=ge) (off:=0+je*8+1) (.int .u64 x.granted) (by kernel_rfl) (fun w' H=>BW AU (H.rdX (cf:=EN.cells) (l:=ends) 2 e2 (A:=some ⟨ge,0,none⟩) (cap:=ec) (E:=61) (size:=8) (by kernel_rfl)) (i:=je) (x:=x) hxe (j:=1) (v:=.int .u64 x.granted) rfl) (by kernel_rfl) ?_;refine Hs.e0 ?_;refine Hs.stf (E:=61) (size:=8) (g:=ge) (cap:=ec) (E':=47) 2 AU ends ne e2 je x { x with granted:=IntKind.u64.wrap (x.granted+IntKind.u64.wrap m.window) } hxe 1 (by decide) (v:=.int .u64 (IntKind.u64.wrap (x.granted+IntKind.u64.wrap m.window))) rfl rfl (by kernel_rfl) rfl (by kernel_rfl) (by kernel_rfl) (by kernel_rfl) ?_;refine Hs.e0 ?_;refine Hs.rt (v:=.tuple #[]) Tryz.func9 fun w' H=>?_;exact hx ⟨oA,oc,some ⟨ge,0,none⟩,ec,some ⟨g,0,none⟩,nc⟩ ⟨opens,glob,ends.set je { x with granted:=IntKind.u64.wrap (x.granted+IntKind.u64.wrap m.window) },nums,dead⟩ no ne nn w' (H.sub [0,1,2,3] (by decide) (hp':=RS.hp ⟨oA,oc,some ⟨ge,0,none⟩,ec,some ⟨g,0,none⟩,nc⟩ ⟨opens,glob,ends.set je { x with granted:=IntKind.u64.wrap (x.granted+IntKind.u64.wrap m.window) },nums,dead⟩ no ne nn) (by kernel_rfl)) e1 (by rw[List.length_set,e2]) e3 (by
      have hw:IntKind.u64.wrap m.window=m.window:=by rw[IntKind.wrap_u64];unfold U32 at hwin;omega
      rw[hw];exact .win h3 hN hxe hxc)
    ·have h4:m.kind=98:=hk.resolve_left h3;refine Hs.e0 ?_;refine Hs.cn m.want (fun hw=>?_) (fun hw=>?_)
     ·refine Hs.e0 ?_;refine Hs.ldc (E':=3) (b:=ge) (off:=0+je*8+7) (.int .i64 x.wants) (by kernel_rfl) (fun w' H=>BW AU (H.rdX (cf:=EN.cells) (l:=ends) 2 e2 (A:=some ⟨ge,0,none⟩) (cap:=ec) (E:=61) (size:=8) (by kernel_rfl)) (i:=je) (x:=x) hxe (j:=7) (v:=.int .i64 x.wants) rfl) (by kernel_rfl) ?_;refine Hs.e0 ?_;refine Hs.stf (E:=61) (size:=8) (g:=ge) (cap:=ec) (E':=3) 2 AU ends ne e2 je x { x with wants:=IntKind.i64.wrap (x.wants+1) } hxe 7 (by decide) (v:=.int .i64 (IntKind.i64.wrap (x.wants+1))) rfl rfl (by kernel_rfl) rfl (by kernel_rfl) (by kernel_rfl) (by kernel_rfl) ?_;refine Hs.e0 ?_;refine Hs.rt (v:=.tuple #[]) Tryz.func9 fun w' H=>?_;exact hx ⟨oA,oc,some ⟨ge,0,none⟩,ec,some ⟨g,0,none⟩,nc⟩ ⟨opens,glob,ends.set je { x with wants:=IntKind.i64.wrap (x.wants+1) },nums,dead⟩ no ne nn w' (H.sub [0,1,2,3] (by decide) (hp':=RS.hp ⟨oA,oc,some ⟨ge,0,none⟩,ec,some ⟨g,0,none⟩,nc⟩ ⟨opens,glob,ends.set je { x with wants:=IntKind.i64.wrap (x.wants+1) },nums,dead⟩ no ne nn) (by kernel_rfl)) e1 (by rw[List.length_set,e2]) e3 (.req h4 hw hN hxe hxc)
     ·refine Hs.e0 ?_;refine Hs.rt (v:=.tuple #[]) Tryz.func9 fun w' H=>?_;exact hx ⟨oA,oc,some ⟨ge,0,none⟩,ec,some ⟨g,0,none⟩,nc⟩ ⟨opens,glob,ends,nums,dead⟩ no ne nn w' (H.sub [0,1,2,3] (by decide) (hp':=RS.hp ⟨oA,oc,some ⟨ge,0,none⟩,ec,some ⟨g,0,none⟩,nc⟩ ⟨opens,glob,ends,nums,dead⟩ no ne nn) (by kernel_rfl)) e1 e2 e3 (.req0 h4 hw hN hxe hxc)
  exact J nn (Nat.le_refl _) (fun j y hj hy=>by have:=(List.getElem?_eq_some_iff.1 hy).1;omega) u0
 refine Hs.e0 ?_;refine Hs.cP (m.kind=93) (fun k3=>?_) (fun k3=>?_)
 ·refine Hs.e0 ?_;refine Hs.cP (m.kind=93) (fun _=>?_) (fun h=>absurd k3 h);refine Hs.e0 ?_;refine Hs.lP ?_;exact Hs.goto (BP Tryz.f9 0) [0,1,2,3,4] [.b true 32 [.v (.slice oA no oc),.v (.int .i64 glob),.v (.slice eA ne ec),.v (.slice nA nn nc),.v (.bool dead)],.s oA oc no 36 10 (opens.flatMap MD.cells),.s eA ec ne 61 8 (ends.flatMap EN.cells),.s nA nc nn 59 2 (nums.flatMap cN2),.b true 36 (mdS m)] [(0,.c (.p 0 0)),(3,.c (.p 4 0)),(4,.c (.v (.int .i64 (IntKind.i64.wrap ((nn:Int)-1)))))] (by kernel_rfl) (by decide) (by kernel_rfl) (by kernel_rfl) (fun _=>(by kernel_rfl)) (fun u=>K u (.inl k3))
 refine Hs.e0 ?_;refine Hs.cP (m.kind=98) (fun k4=>?_) (fun k4=>?_)
 ·refine Hs.e0 ?_;refine Hs.lP ?_;exact Hs.goto (BP Tryz.f9 0) [0,1,2,3,4] [.b true 32 [.v (.slice oA no oc),.v (.int .i64 glob),.v (.slice eA ne ec),.v (.slice nA nn nc),.v (.bool dead)],.s oA oc no 36 10 (opens.flatMap MD.cells),.s eA ec ne 61 8 (ends.flatMap EN.cells),.s nA nc nn 59 2 (nums.flatMap cN2),.b true 36 (mdS m)] [(0,.c (.p 0 0)),(3,.c (.p 4 0)),(4,.c (.v (.int .i64 (IntKind.i64.wrap ((nn:Int)-1)))))] (by kernel_rfl) (by decide) (by kernel_rfl) (by kernel_rfl) (fun _=>(by kernel_rfl)) (fun u=>K u (.inr k4))
 refine Hs.e0 ?_;refine Hs.rt (v:=.tuple #[]) Tryz.func9 fun w' H=>?_;exact hx ⟨oA,oc,eA,ec,nA,nc⟩ ⟨opens,glob,ends,nums,dead⟩ no ne nn w' (H.sub [0,1,2,3] (by decide) (hp':=RS.hp ⟨oA,oc,eA,ec,nA,nc⟩ ⟨opens,glob,ends,nums,dead⟩ no ne nn) (by kernel_rfl)) e1 e2 e3 (.oth ⟨k1,k2,k3,k4⟩)
end Go.Proofs.YtkgikodiecmakaaGreatDoor
