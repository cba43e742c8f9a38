/- TracePlays: lemmas, from 'Layer 29: what each answers and all ends are the document's' on; what each asks for stands in it. -/
import Derived.Test.YtkgikodiecmakaaGreatDoorTpS
import Derived.Test.YtkgikodiecmakaaGreatDoorTpL
import Derived.Test.YtkgikodiecmakaaGreatDoorTpB
import Derived.HandedShaped
import Derived.Shelf.Vars
import Derived.Lay
import Derived.LaidLaws
import Derived.SevenTiedAt
set_option linter.all false
set_option maxRecDepth 100000
set_option maxHeartbeats 64000000
namespace Go.Proofs.YtkgikodiecmakaaGreatDoor
open Go.RowKit Go.MapKept
section
variable {P : Program} {f : FuncId} {R : Ending → World → Prop} {n : Nat} {w0 w00 : World} {G L fp : List Nat} {β : List Nat} {m : SM} {Q : World → Prop}
theorem Hs.callFxA {X:Type} (v:X→Value) (fp':X→List Nat) (Q':X→World→Prop) {F:FuncId} {args:Array Value} (C:Fx w00 G w0 L fp Q)
  (hC: ∀w,Mem w0 L β m.hp w→Q w→Calls P F args w fun e w'=>∃x,e = .returned (v x)∧Only fp w w'∧Q' x w'∧StX (fp' x) (Q' x)∧∀y∈fp' x,y<w'.heap.size∧(y∈fp∨w.heap.size≤y))
  (hc:EO P n β m=some (F,args)) (hro:roOk m.hp=true)
  (h: ∀x w1 L1,Fx w00 G w1 L1 (fp' x) (Q' x)→(∀y∈fp' x,y∈fp∨w0.heap.size≤y)→MB w00 G w0 L fp w1 L1→Hs P f R n w1 L1 β (m.put (BF m) (.c (.v (v x))) m.hp)):Hs P f R n w0 L β m:=by
 refine⟨fun w H W=>?_⟩;unfold EO at hc;split at hc
 ·rename_i o ho;split at hc
  ·rename_i hg;split at hc
   ·rename_i F' args' hp;injection hc with hc;injection hc with h1 h2;subst h1;subst h2;have hd:BF m=o.dst:=by unfold BF;rw[ho]
    rw[hd] at h;refine Gs.op ho hg ?_;unfold Oper.wp;rw[FO,JD P _ _ hp w];refine Calls.mono (hC w H (C.at H)) ?_;rintro e w' ⟨x,rfl,O,hQ,hst,hf⟩;refine⟨β,QX o.dst (.c (.v (v x))) m.sl,m.hp,FR n β m.sl o.dst (.c (.v (v x))),fun w2 hI=>hI,(h x w' _ (C.turn H O hQ hf hst) (fun y hy=>(hf y hy).2.imp id fun h=>Nat.le_trans H.only.size h) fun fp2 Q2 C2 hne=>C2.step H O hne fun x hx=>(C.own x hx).2.2).go w' (H.rebaseF O (C.apart H hro)) ?_⟩;simp only[SM.wf,SM.put,Bool.and_eq_true];exact⟨EQ (SM.wf_sl W) rfl,SM.wf_hp W⟩
   ·cases hc
  ·cases hc
 ·cases hc
end
section
variable {f : FuncId} {R : Ending → World → Prop} {n : Nat} {w0 w00 : World} {G L : List Nat} {β : List Nat} {m : SM} {p : Nat} {M : WM} {S : WS}
theorem Hs.callHearsA (i0:Int) (C:Fx w00 G w0 L (M.fp p) (WQ p M S)) (x:MD) (hw: ∀x∈S.opens,∀y∈x.2,U32 y.1) (hp: ∀x∈S.ends,U32 x.2.packet) (hm: ∀w,Mem w0 L β m.hp w→GC w (M.fp p) (IZ i0 x)) (hc:EO Tryz.prog n β m=some (10,#[AO p,x.val])) (hro:roOk m.hp=true) {S':WS} {e':Int} (he:AM S x (okEx x)=(S',e'))
  (h: ∀M' w1 L1,Fx w00 G w1 L1 (M'.fp p) (WQ p M' S')→(∀y∈M'.fp p,y∈M.fp p∨w0.heap.size≤y)→MB w00 G w0 L (M.fp p) w1 L1→Hs Tryz.prog f R n w1 L1 β (m.put (BF m) (.c (.v (.int .i64 e'))) m.hp)):Hs Tryz.prog f R n w0 L β m:=by
 have e1:S'=(AM S x (okEx x)).1:=by rw[he]
 have e2:e'=(AM S x (okEx x)).2:=by rw[he]
 subst e1;subst e2;exact Hs.callFxA (X:=WM) (fun _=>.int .i64 (AM S x (okEx x)).2) (fun M'=>M'.fp p) (fun M'=>WQ p M' (AM S x (okEx x)).1) C (fun w H hq=>(VU M p x i0 w hq.1 (win_abs hq.2 hw) (pck_abs hq.2 hp) (hm w H)).mono fun e w' ⟨M',h1,h2,h3,h4,h5⟩=>⟨M',by rw[h1,hq.2],h2,⟨h3,by rw[h4,hq.2]⟩,WQ.st,h5⟩) hc hro h
end
theorem Hs.fact29 {P:Program} {f:FuncId} {R:Ending→World→Prop} {n:Nat} {w0:World} {L:List Nat} {β:List Nat} {m:SM} {p:Prop} (hp: ∀w,Mem w0 L β m.hp w→p) (h:p→Hs P f R n w0 L β m):Hs P f R n w0 L β m:=⟨fun w H W=>(h (hp w H)).go w H W⟩
theorem Ok29.wins {c:Nat} {S:WS} {R:RS} (h:Ok29 c S R): ∀o∈R.opens,U32 o.window:=fun o ho=>(h.ow o ho).1
theorem NJ {w00 w0:World} {L fp fp' fq:List Nat} {Q:World→Prop} (D:Fx w00 [] w0 L fq Q) (dis: ∀x∈fq,x∉fp) (hn: ∀y∈fp',y∈fp∨w0.heap.size≤y): ∀x∈fq,x∉fp':=fun x hx hy=>by
 rcases hn x hy with h|h;·exact dis x hx h
 ·have:=(D.own x hx).1;omega
theorem plays_walk (l:List LN) (N:Nat) (hN:l.length=N) (A:Option Addr) (c:Nat) (i0:Int) (w:World) (hr:RdX LN.row w A l) (hl: ∀x∈l,IZ i0 x.m w) (hNm:N≤maxLen) (h00:w.cell? ⟨0,0,none⟩=some (.int .i64 i0)):Calls Tryz.prog 3 #[.slice A N c] w fun e w'=>e = .returned (.bool true)∧Only [] w w':=by
 refine Hs.en Tryz.func3 [] [] [] [.c (.v (.slice A N c))] (Mem.start0 w) ?_;refine Hs.e0 ?_;refine Hs.cV (fun w' H=>ZS i0 w' (by rw[←h00];exact World.cell?_of_block (w:=w) (w':=w') (H.only.block 0 (block_lt_of_cell h00) (by simp)))) ?_;refine Hs.e0 ?_;refine Hs.cF ?_;refine Hs.e0 ?_;refine Hs.callX (X:=Bool) (fun b=>.bool b) (fun b=>b=false→Few29 l) (fun w' H=>by
  have:=aE l A c w' (hr.only H.only) (by omega);rw[hN] at this;exact this) (by kernel_rfl) fun g hg=>?_
 refine Hs.e0 ?_;refine Hs.cn g (fun h1=>?_) (fun h1=>?_)
 ·refine Hs.e0 ?_;exact Hs.rt (v:=.bool true) Tryz.func3 fun w' H=>⟨rfl,H.only⟩
 have hfew:=hg h1;have hNc:N≤100:=by rw[←hN];exact hfew.len
 refine Hs.e0 ?_;have C0:Fx w [] w [] [] (fun _=>True):=Fx.start0;refine Hs.callNew29 C0 (by kernel_rfl) (by kernel_rfl) (by kernel_rfl) fun p M0 w0 L0 C1 _ _=>?_;refine Hs.e1 fun q=>?_;refine Hs.fact29 (p:=q∉M0.fp p) (fun w' H=>C1.apart H (by kernel_rfl) 0 (.b true 32 (rwS ⟨none,0,none,0,none,0⟩ 0 0 0 0 false)) q (by kernel_rfl) rfl) fun hq=>?_;refine Hs.shutFx [0] ((RP.mk none 0 none 0 none 0).fp q) (fun w=>RAt w q ⟨none,0,none,0,none,0⟩ ⟨[],0,[],[],false⟩) C1 RAt.st (fun w' H=>⟨H.at 0 (wr:=true) (T:=32) (cs:=rwS ⟨none,0,none,0,none,0⟩ 0 0 0 0 false) (by kernel_rfl),World.ownsRow_nil w' 0 _ _,World.ownsRow_nil w' 0 _ _,World.ownsRow_nil w' 0 _ _,by simp[RP.fp,bkO]⟩) (fun x hx=>⟨0,by simp,.b true 32 (rwS ⟨none,0,none,0,none,0⟩ 0 0 0 0 false),by kernel_rfl,rfl,by
  have hx:x=q:=by simpa[RP.fp,bkO] using hx
  subst hx;rfl⟩) (by kernel_rfl) fun w1 L1 D1 mv1=>?_
 replace C1:=mv1 _ _ C1 (fun _ _ h=>by simp at h);have J: ∀(d i:Nat),N-i=d→i≤N→∀(M:WM) (S:WS) (P:RP) (R:RS) (w1:World) (L1:List Nat),Fx w [] w1 L1 (M.fp p) (WQ p M S)→Fx w [] w1 L1 (P.fp q) (fun w=>RAt w q P R)→(∀x∈P.fp q,x∉M.fp p)→Ok29 i S R→∀u:Nat→Value,Hs Tryz.prog 3 (fun e w'=>e = .returned (.bool true)∧Only [] w w') (Tryz.f3).ntmps w1 L1 [] ⟨.no,BP Tryz.f3 0,GV [(3,.c (.v (AO p))),(4,.c (.v (AO q))),(16,.c (.v (.slice A N c))),(17,.c (.v (.int .i64 N))),(18,.c (.v (.int .i64 (i:Nat))))] (.vals u),[]⟩:=by
  intro d;induction d with
  |zero=>
   intro i hd hi M S P R w1 L1 C D dis I u;obtain rfl:i=N:=by omega
   refine Hs.e0 ?_;refine Hs.cP ((i:Int)<(i:Int)) (fun h=>by omega) (fun h=>?_);refine Hs.e0 ?_;exact Hs.rt (v:=.bool true) Tryz.func3 fun w' H=>⟨rfl,C.fin H⟩
  |succ d ih=>
   intro i hd hi M S P R w1 L1 C D dis I u;have hil:i<N:=by omega
   obtain⟨o,hx⟩: ∃o,l[i]? = some o:=⟨_,List.getElem?_eq_getElem (by omega)⟩;have ho:=hl o (List.mem_of_getElem? hx);obtain⟨b,off,hA,_,_⟩:=hr (by omega);have ih':=fun M S P R w1 L1 C D dis I u=>ih (i+1) (by omega) (by omega) M S P R w1 L1 C D dis I u;clear ih;subst hA;have J3: ∀(M2:WM) (S2:WS) (P2:RP) (R2:RS) (w2:World) (L2:List Nat),Fx w [] w2 L2 (M2.fp p) (WQ p M2 S2)→Fx w [] w2 L2 (P2.fp q) (fun w=>RAt w q P2 R2)→(∀x∈P2.fp q,x∉M2.fp p)→Ok29 (i+1) S2 R2→∀(A2:Option Addr) (c2 N2:Nat),N2≤1000→∀(d2 j:Nat) (E:List EN),E.length=N2→N2-j=d2→j≤N2→∀u:Nat→Value,Hs Tryz.prog 3 (fun e w'=>e = .returned (.bool true)∧Only [] w w') (Tryz.f3).ntmps w2 L2 [0] ⟨.no,BP Tryz.f3 1,GV [(7,.c (.v (.slice A2 N2 c2))),(3,.c (.v (AO p))),(4,.c (.v (AO q))),(16,.c (.v (.slice (some ⟨b,off,none⟩) N c))),(17,.c (.v (.int .i64 N))),(18,.c (.v (.int .i64 (i:Nat)))),(61,.c (.v (.int .i64 N2))),(62,.c (.v (.int .i64 (j:Nat))))] (.vals u),[.s A2 c2 N2 49 8 (E.flatMap EN.cells)]⟩:=by
    intro M2 S2 P2 R2 w2 L2 C2 D2 dis2 I2 A2 c2 N2 hN2 d2;induction d2 with
    |zero=>
     intro j E hE hd2 hj u;obtain rfl:j=N2:=by omega
     refine Hs.e0 ?_;refine Hs.cP ((j:Int)<(j:Int)) (fun h=>by omega) (fun h=>?_);refine Hs.e0 ?_;refine Hs.slot 18 (.c (.v (.int .i64 (i+1:Nat)))) rfl ((by kernel_rfl:_=Value.int .i64 (IntKind.i64.wrap ((i:Int)+1))).trans (DV hNm)) ?_;refine Hs.lP ?_;exact Hs.goto (BP Tryz.f3 0) [] [] [(3,.c (.v (AO p))),(4,.c (.v (AO q))),(16,.c (.v (.slice (some ⟨b,off,none⟩) N c))),(17,.c (.v (.int .i64 N))),(18,.c (.v (.int .i64 (i+1:Nat))))] (by kernel_rfl) (by decide) (by kernel_rfl) (by kernel_rfl) (fun _=>(by kernel_rfl)) (fun u=>ih' M2 S2 P2 R2 w2 L2 C2 D2 dis2 I2 u)
    |succ d2 ih2=>
     intro j E hE hd2 hj u;have hjl:j<N2:=by omega
     obtain⟨x,hxE⟩: ∃x,E[j]? = some x:=⟨_,List.getElem?_eq_getElem (by omega)⟩;have ih3:=fun E hE u=>ih2 (j+1) E hE (by omega) (by omega) u;clear ih2;refine Hs.someS (A:=A2) (cap:=c2) (nl:=N2) (E:=49) (size:=8) (vs:=E.flatMap EN.cells) 0 (by kernel_rfl) (by omega) fun g2 hA2=>?_;subst hA2;refine Hs.e0 ?_;refine Hs.cP ((j:Int)<(N2:Int)) (fun h=>?_) (fun h=>by omega);refine Hs.e0 ?_;refine Hs.idx (b:=g2) (off:=0) (len:=N2) (c:=c2) (i:=j) XM hjl (by kernel_rfl) ?_;refine Hs.e0 ?_;refine Hs.ldc (E':=47) (b:=g2) (off:=0+j*8+2) (.int .u64 x.sent) (by kernel_rfl) (fun w' H=>BW AU (H.rdX (cf:=EN.cells) (l:=E) 0 hE (A:=some ⟨g2,0,none⟩) (cap:=c2) (E:=49) (size:=8) (by kernel_rfl)) (i:=j) (x:=x) hxE (j:=2) (v:=.int .u64 x.sent) rfl) (by kernel_rfl) ?_;refine Hs.e0 ?_;refine Hs.idx (b:=g2) (off:=0) (len:=N2) (c:=c2) (i:=j) XM hjl (by kernel_rfl) ?_;refine Hs.e0 ?_;refine Hs.stf (E:=49) (size:=8) (g:=g2) (cap:=c2) (E':=47) 0 AU E N2 hE j x { x with sent:=IntKind.u64.wrap (x.sent+1) } hxE 2 (by decide) (v:=.int .u64 (IntKind.u64.wrap (x.sent+1))) rfl rfl (by kernel_rfl) rfl (by kernel_rfl) (by kernel_rfl) (by kernel_rfl) ?_;refine Hs.e0 ?_;refine Hs.slot 62 (.c (.v (.int .i64 (j+1:Nat)))) rfl ((by kernel_rfl:_=Value.int .i64 (IntKind.i64.wrap ((j:Int)+1))).trans (DV (n:=N2) (by unfold maxLen;omega))) ?_;refine Hs.lP ?_;exact Hs.goto (BP Tryz.f3 1) [0] [.s (some ⟨g2,0,none⟩) c2 N2 49 8 ((E.set j { x with sent:=IntKind.u64.wrap (x.sent+1) }).flatMap EN.cells)] [(7,.c (.v (.slice (some ⟨g2,0,none⟩) N2 c2))),(3,.c (.v (AO p))),(4,.c (.v (AO q))),(16,.c (.v (.slice (some ⟨b,off,none⟩) N c))),(17,.c (.v (.int .i64 N))),(18,.c (.v (.int .i64 (i:Nat)))),(61,.c (.v (.int .i64 N2))),(62,.c (.v (.int .i64 (j+1:Nat))))] (by kernel_rfl) (by decide) (by kernel_rfl) (by kernel_rfl) (fun _=>(by kernel_rfl)) (fun u=>ih3 (E.set j { x with sent:=IntKind.u64.wrap (x.sent+1) }) (by rw[List.length_set,hE]) u)
   have K: ∀(M2:WM) (S2:WS) (P2:RP) (R2:RS) (w2:World) (L2:List Nat),Fx w [] w2 L2 (M2.fp p) (WQ p M2 S2)→Fx w [] w2 L2 (P2.fp q) (fun w=>RAt w q P2 R2)→(∀x∈P2.fp q,x∉M2.fp p)→Ok29 (i+1) S2 R2→∀u:Nat→Value,Hs Tryz.prog 3 (fun e w'=>e = .returned (.bool true)∧Only [] w w') (Tryz.f3).ntmps w2 L2 [] ⟨.no,atR Tryz.f3 14,GV [(3,.c (.v (AO p))),(4,.c (.v (AO q))),(16,.c (.v (.slice (some ⟨b,off,none⟩) N c))),(17,.c (.v (.int .i64 N))),(18,.c (.v (.int .i64 (i:Nat))))] (.vals u),[]⟩:=by
    intro M2 S2 P2 R2 w2 L2 C2 D2 dis2 I2 u;obtain⟨N2,hN2⟩: ∃N2,S2.ends.length=N2:=⟨_,rfl⟩;have hlen:(CY S2).length=N2:=by rw[LP,hN2]
    have hR:R2.ends.length=N2:=by rw[I2.ends,hlen]
    have hle:N2≤101:=by have:=I2.inv.le;omega
    refine Hs.e0 ?_;refine Hs.callEnds C2 I2.inv.keys (by omega) N2 hN2 (by kernel_rfl) (by kernel_rfl) fun A2 c2 _ _=>?_;refine Hs.e0 ?_;refine Hs.any [0] (by kernel_rfl) ?_;refine Hs.e0 ?_;refine Hs.branch2 1 5 (by kernel_rfl) ?_ ?_
    ·refine Hs.callS (cf:=EN.cells) (E:=61) (size:=8) (fun A cap=>.slice A N2 cap) (CY S2) N2 hlen (fun w' H=>RK (CY S2) N2 hlen A2 c2 w' (H.rdX (cf:=EN.cells) (l:=CY S2) 0 hlen (A:=A2) (cap:=c2) (E:=49) (size:=8) (by kernel_rfl)) (by omega)) (by kernel_rfl) (by kernel_rfl) fun rA rc _ _=>?_;refine Hs.e0 ?_;refine Hs.ldc (E':=29) (b:=q) (off:=2) (.slice P2.eA N2 P2.ec) (by kernel_rfl) (fun w' H=>by rw[(D2.at H).blk.cell,←hR];rfl) (by kernel_rfl) ?_;refine Hs.e0 ?_;refine Hs.cV (fun w' H=>TU (CY S2) N2 hlen rA P2.eA rc P2.ec w' (H.rdX (cf:=EN.cells) (l:=CY S2) 1 hlen (A:=rA) (cap:=rc) (E:=61) (size:=8) (by kernel_rfl)) (by
      have h:=(D2.at H).es;have h2:=own_rd rfl h;rw[I2.ends] at h2;exact h2) (by unfold maxLen;omega)) ?_
     refine Hs.eg [8] ?_;refine Hs.branch2 10 14 (by kernel_rfl) ?_ ?_
     ·refine Hs.rung0 [8] 1 (fun _=>(by kernel_rfl)) ?_;refine Hs.callDead C2 (by kernel_rfl) ?_;refine Hs.eg [8] ?_;refine Hs.ldc (E':=4) (b:=q) (off:=4) (.bool R2.dead) (by kernel_rfl) (fun w' H=>by rw[(D2.at H).blk.cell];rfl) (by kernel_rfl) ?_;refine Hs.eg [8] ?_;refine Hs.cn (S2.dead !=R2.dead) (fun h=>by rw[I2.de] at h;simp at h) (fun _=>?_);refine Hs.e0 ?_;refine Hs.lP ?_;exact Hs.goto (BP Tryz.f3 1) [0] [.s A2 c2 N2 49 8 ((CY S2).flatMap EN.cells)] [(7,.c (.v (.slice A2 N2 c2))),(3,.c (.v (AO p))),(4,.c (.v (AO q))),(16,.c (.v (.slice (some ⟨b,off,none⟩) N c))),(17,.c (.v (.int .i64 N))),(18,.c (.v (.int .i64 (i:Nat)))),(61,.c (.v (.int .i64 N2))),(62,.c (.v (.int .i64 (0:Nat))))] (by kernel_rfl) (by decide) (by kernel_rfl) (by kernel_rfl) (fun _=>(by kernel_rfl)) (fun u=>J3 M2 S2 P2 R2 w2 L2 C2 D2 dis2 I2 A2 c2 N2 (by omega) N2 0 (CY S2) hlen rfl (by omega) u)
     ·refine Hs.rung0 [8] 1 (fun _=>(by kernel_rfl)) ?_;refine Hs.ldc (E':=4) (b:=q) (off:=4) (.bool R2.dead) (by kernel_rfl) (fun w' H=>by rw[(D2.at H).blk.cell];rfl) (by kernel_rfl) ?_;refine Hs.eg [8] ?_;refine Hs.callDead C2 (by kernel_rfl) ?_;refine Hs.eg [8] ?_;refine Hs.cn (S2.dead !=R2.dead) (fun h=>by rw[I2.de] at h;simp at h) (fun _=>?_);refine Hs.e0 ?_;refine Hs.lP ?_;exact Hs.goto (BP Tryz.f3 1) [0] [.s A2 c2 N2 49 8 ((CY S2).flatMap EN.cells)] [(7,.c (.v (.slice A2 N2 c2))),(3,.c (.v (AO p))),(4,.c (.v (AO q))),(16,.c (.v (.slice (some ⟨b,off,none⟩) N c))),(17,.c (.v (.int .i64 N))),(18,.c (.v (.int .i64 (i:Nat)))),(61,.c (.v (.int .i64 N2))),(62,.c (.v (.int .i64 (0:Nat))))] (by kernel_rfl) (by decide) (by kernel_rfl) (by kernel_rfl) (fun _=>(by kernel_rfl)) (fun u=>J3 M2 S2 P2 R2 w2 L2 C2 D2 dis2 I2 A2 c2 N2 (by omega) N2 0 (CY S2) hlen rfl (by omega) u)
    ·refine Hs.ldc (E':=29) (b:=q) (off:=2) (.slice P2.eA N2 P2.ec) (by kernel_rfl) (fun w' H=>by rw[(D2.at H).blk.cell,←hR];rfl) (by kernel_rfl) ?_;refine Hs.e0 ?_;refine Hs.callS (cf:=EN.cells) (E:=61) (size:=8) (fun A cap=>.slice A N2 cap) (CY S2) N2 hlen (fun w' H=>RK (CY S2) N2 hlen A2 c2 w' (H.rdX (cf:=EN.cells) (l:=CY S2) 0 hlen (A:=A2) (cap:=c2) (E:=49) (size:=8) (by kernel_rfl)) (by omega)) (by kernel_rfl) (by kernel_rfl) fun rA rc _ _=>?_;refine Hs.e0 ?_;refine Hs.cV (fun w' H=>TU (CY S2) N2 hlen rA P2.eA rc P2.ec w' (H.rdX (cf:=EN.cells) (l:=CY S2) 1 hlen (A:=rA) (cap:=rc) (E:=61) (size:=8) (by kernel_rfl)) (by
      have h:=(D2.at H).es;have h2:=own_rd rfl h;rw[I2.ends] at h2;exact h2) (by unfold maxLen;omega)) ?_
     refine Hs.eg [8] ?_;refine Hs.branch2 10 14 (by kernel_rfl) ?_ ?_
     ·refine Hs.rung0 [8] 1 (fun _=>(by kernel_rfl)) ?_;refine Hs.callDead C2 (by kernel_rfl) ?_;refine Hs.eg [8] ?_;refine Hs.ldc (E':=4) (b:=q) (off:=4) (.bool R2.dead) (by kernel_rfl) (fun w' H=>by rw[(D2.at H).blk.cell];rfl) (by kernel_rfl) ?_;refine Hs.eg [8] ?_;refine Hs.cn (S2.dead !=R2.dead) (fun h=>by rw[I2.de] at h;simp at h) (fun _=>?_);refine Hs.e0 ?_;refine Hs.lP ?_;exact Hs.goto (BP Tryz.f3 1) [0] [.s A2 c2 N2 49 8 ((CY S2).flatMap EN.cells)] [(7,.c (.v (.slice A2 N2 c2))),(3,.c (.v (AO p))),(4,.c (.v (AO q))),(16,.c (.v (.slice (some ⟨b,off,none⟩) N c))),(17,.c (.v (.int .i64 N))),(18,.c (.v (.int .i64 (i:Nat)))),(61,.c (.v (.int .i64 N2))),(62,.c (.v (.int .i64 (0:Nat))))] (by kernel_rfl) (by decide) (by kernel_rfl) (by kernel_rfl) (fun _=>(by kernel_rfl)) (fun u=>J3 M2 S2 P2 R2 w2 L2 C2 D2 dis2 I2 A2 c2 N2 (by omega) N2 0 (CY S2) hlen rfl (by omega) u)
     ·refine Hs.rung0 [8] 1 (fun _=>(by kernel_rfl)) ?_;refine Hs.ldc (E':=4) (b:=q) (off:=4) (.bool R2.dead) (by kernel_rfl) (fun w' H=>by rw[(D2.at H).blk.cell];rfl) (by kernel_rfl) ?_;refine Hs.eg [8] ?_;refine Hs.callDead C2 (by kernel_rfl) ?_;refine Hs.eg [8] ?_;refine Hs.cn (S2.dead !=R2.dead) (fun h=>by rw[I2.de] at h;simp at h) (fun _=>?_);refine Hs.e0 ?_;refine Hs.lP ?_;exact Hs.goto (BP Tryz.f3 1) [0] [.s A2 c2 N2 49 8 ((CY S2).flatMap EN.cells)] [(7,.c (.v (.slice A2 N2 c2))),(3,.c (.v (AO p))),(4,.c (.v (AO q))),(16,.c (.v (.slice (some ⟨b,off,none⟩) N c))),(17,.c (.v (.int .i64 N))),(18,.c (.v (.int .i64 (i:Nat)))),(61,.c (.v (.int .i64 N2))),(62,.c (.v (.int .i64 (0:Nat))))] (by kernel_rfl) (by decide) (by kernel_rfl) (by kernel_rfl) (fun _=>(by kernel_rfl)) (fun u=>J3 M2 S2 P2 R2 w2 L2 C2 D2 dis2 I2 A2 c2 N2 (by omega) N2 0 (CY S2) hlen rfl (by omega) u)
   refine Hs.e0 ?_;refine Hs.cP ((i:Int)<(N:Int)) (fun h=>?_) (fun h=>by omega);refine Hs.e0 ?_;refine Hs.idx (b:=b) (off:=off) (c:=c) elemLn hil (by kernel_rfl) ?_;refine Hs.ldx (E:=38) (b:=b) (off:=off) (i:=i) LN_len (.g o.sc) (by kernel_rfl) (fun w' H=>hr.only (C.fin H)) hx (by kernel_rfl) (by kernel_rfl) (by kernel_rfl) (by kernel_rfl) ?_;refine Hs.e1 fun b1=>?_;have hR:R.opens.length≤1000∧R.ends.length≤1000∧R.nums.length≤1000:=⟨by have:=I.lo;omega,by have:=I.le;omega,by have:=I.ln;omega⟩;refine Hs.cn o.mine (fun hm=>?_) (fun hm=>?_)
   ·refine Hs.e0 ?_;refine Hs.callSays C o.m (S':=CT S o.m) (fun x hx=>by have:=(I.inv.op x hx).2;omega) ho.1.nums.2.2.1 (by kernel_rfl) (by kernel_rfl) (by kernel_rfl) rfl fun M2 w2 L2 C2 hn2 mv2=>?_;have D2:=mv2 _ _ D dis;have dis2:=NJ D dis hn2;refine Hs.e0 ?_;refine Hs.callFx (X:=RP×RS×Unit) (fun _=>.tuple #[]) (fun x=>x.1.fp q) (fun x w=>RAt w q x.1 x.2.1∧SaysR o.m R x.2.1) D2 (fun w' H hq=>bB q P R o.m w' hq hR.1 hR.2.1 hR.2.2 ho.1.nums.2.2.1 (fun p hp=>by
     obtain⟨x,hx⟩:=I.cl p hp;exact⟨x,((I.en.look _ _).1 hx).1,((I.en.look _ _).1 hx).2⟩)) (by kernel_rfl) (by kernel_rfl) (by kernel_rfl) fun x w3 L3 D3 hn3 mv3=>?_
    obtain⟨P3,R3,_⟩:=x;have hS:=D3.now.2;have C3:=mv3 _ _ C2 (fun x hx hy=>dis2 x hy hx);have dis3: ∀x∈P3.fp q,x∉M2.fp p:=fun x hx hy=>NJ C2 (fun x hx hy=>dis2 x hy hx) hn3 x hy hx;have I3:=ZE I (by omega) ho.1.nums.2.2.1 ho.1.nums.2.2.2.1 hS;refine Hs.runR0 14 [] 300 (fun _=>(by kernel_rfl)) ?_;exact Hs.goto (atR Tryz.f3 14) [] [] [(3,.c (.v (AO p))),(4,.c (.v (AO q))),(16,.c (.v (.slice (some ⟨b,off,none⟩) N c))),(17,.c (.v (.int .i64 N))),(18,.c (.v (.int .i64 (i:Nat))))] (by kernel_rfl) (by decide) (by kernel_rfl) (by kernel_rfl) (fun _=>(by kernel_rfl)) (fun u=>K M2 (CT S o.m) P3 R3 w3 L3 C3 (D3.imp (fun h=>h.1) RAt.st) dis3 I3 u)
   ·obtain⟨S2,e,hS2⟩: ∃S2 e,AM S o.m (okEx o.m)=(S2,e):=⟨_,_,rfl⟩;refine Hs.e0 ?_;refine Hs.any [0] (by kernel_rfl) ?_;refine Hs.e0 ?_;refine Hs.callHearsA i0 C o.m (S':=S2) (e':=e) I.inv.wins I.inv.pcks (fun w' H=>VY ho C H) (by kernel_rfl) (by kernel_rfl) hS2 fun M2 w2 L2 C2 hn2 mv2=>?_;have D2:=mv2 _ _ D dis;have dis2:=NJ D dis hn2;refine Hs.e0 ?_;refine Hs.callFxA (X:=RP×RS×Int) (fun x=>.int .i64 x.2.2) (fun x=>x.1.fp q) (fun x w=>RAt w q x.1 x.2.1∧HearsR o.m R x.2.1 x.2.2) D2 (fun w' H hq=>ZA q P R o.m w' hq hR.1 hR.2.1 hR.2.2 I.wins (I.num (by omega)) (fun w4 O=>(VY ho D2 H w4 O).1) ho.2.2.1) (by kernel_rfl) (by kernel_rfl) fun x w3 L3 D3 hn3 mv3=>?_;obtain⟨P3,R3,z⟩:=x;have hS:=D3.now.2;have C3:=mv3 _ _ C2 (fun x hx hy=>dis2 x hy hx);have dis3: ∀x∈P3.fp q,x∉M2.fp p:=fun x hx hy=>NJ C2 (fun x hx hy=>dis2 x hy hx) hn3 x hy hx;have I3:=UP I (by omega) ho.1.nums.1 ho.2.2.1 hS;rw[hS2] at I3;dsimp only at I3;refine Hs.e0 ?_;refine Hs.cn (e !=z) (fun h=>by rw[I3.1] at h;simp at h) (fun _=>?_);refine Hs.runR0 14 [] 300 (fun _=>(by kernel_rfl)) ?_;exact Hs.goto (atR Tryz.f3 14) [] [] [(3,.c (.v (AO p))),(4,.c (.v (AO q))),(16,.c (.v (.slice (some ⟨b,off,none⟩) N c))),(17,.c (.v (.int .i64 N))),(18,.c (.v (.int .i64 (i:Nat))))] (by kernel_rfl) (by decide) (by kernel_rfl) (by kernel_rfl) (fun _=>(by kernel_rfl)) (fun u=>K M2 S2 P3 R3 w3 L3 C3 (D3.imp (fun h=>h.1) RAt.st) dis3 I3.2 u)
 refine Hs.lP ?_;exact Hs.goto (BP Tryz.f3 0) [] [] [(3,.c (.v (AO p))),(4,.c (.v (AO q))),(16,.c (.v (.slice A N c))),(17,.c (.v (.int .i64 N))),(18,.c (.v (.int .i64 (0:Nat))))] (by kernel_rfl) (by decide) (by kernel_rfl) (by kernel_rfl) (fun _=>(by kernel_rfl)) (fun u=>J _ 0 rfl (by omega) M0 QV ⟨none,0,none,0,none,0⟩ ⟨[],0,[],[],false⟩ w1 L1 C1 D1 (fun x hx hy=>by
  have:x=q:=by simpa[RP.fp,bkO] using hx
  subst this;exact hq hy) ok29_new u)
end Go.Proofs.YtkgikodiecmakaaGreatDoor
namespace Go.Proofs.YtkgikodiecmakaaGreatDoor
open Go.ChangeShapes Go.WideShapes Go.ChangeAt Go.RowKit Go.Deep
def LawWalkC (P:Program) (f:FuncId) (fn:Func):Prop:=
 ∀(H:Type) (enc:TypeId×Value→H) (W:World) (base:Nat) (args:Array Value) (ds:List (DataW H)) (ps:List MemPlace),
  (∀(j:Nat) t v,fn.params[j]? = some t→args[j]? = some v→Value.okWide P W .any base t v)→
  DataW.TrodAll enc P W 0 (fun _=>true) true fn.params.toList args.toList ds ps→
  (DataW.weightsEach P fn.params.toList ds).all (· ≤reachBytes)=true→
  W.ShapedOpen P→
  Calls P f args W fun e W'=>e = .returned (.bool true)∧Below W.heap.size W W'
theorem law_liftedC {C:Checked} {tb:TypeId} (own:ownKnob C.prog.godebug=none) (laidOut:laidOutB C.prog=true) (hb:C.prog.underlying tb=some .bool) (f:FuncId) (fn:Func) (s:ChangeSpec)
  (hfn:C.prog.funcs[f]? = some fn) (noInit:C.prog.inits.idxOf? f=none) (hres:fn.resultTypes=#[tb])
  (hread:readsAll C.prog fn.params.toList=true) (hv:s.vars=[])
  (hs: ∀(H:Type) (ds:List (DataW H)),ds.length=fn.params.size→s.fn H ds = { results:=[.lit (.bool true)],args:=ds })
  (X:World→Prop)
  (walk:LawWalkC C.prog f fn) (os:Os) (started:os.Started) (H:Type) (enc:TypeId×Value→H)
  (witness: ∃(w:World) (tape:Tape) (i:Input),w.os=os∧(w.forCall tape i).Shaped C.prog∧i.vars=[]∧Input.okWide C.prog (w.forCall tape i) .any w.heap.size f i∧
   ((s.pre enc C.prog fn [] false (w.forCall tape i).memory i.args∧X (w.forCall tape i).memory)∧sizedMet enc C.prog fn (OpenSpec.ofChange s) false (w.forCall tape i).memory i.args)∧Assume.holds {} C.prog (lone (Frame.enter C.prog f i.args .normal) [] (w.forCall tape i))) :
  ReturnsInHanded {} C os f .any (fun w args=>(s.pre enc C.prog fn [] false w args∧X w)∧sizedMet enc C.prog fn (OpenSpec.ofChange s) false w args) (s.post enc C.prog fn false true false false):=by
 refine returnsInHanded_of_calls own started noInit witness ?_;intro w tape i _ hsh _ hok hpre hholds;obtain⟨_,_,_,fn',hfn',_,_,_,_,hval⟩:=hok;have e:fn'=fn:=Option.some.inj (hfn'.symm.trans hfn);subst e;obtain⟨⟨⟨ds,gs,before,hw,hc⟩,_⟩,hz⟩:=hpre;have hW:=DataW.Whole.of_heap (w':=w.forCall tape i) (by rfl) hw;have hsz:=hz.weights hw;have hW':=hW;obtain⟨p,q,hA,hV,rfl,hfz,hnd⟩:=hW;have hty:(OpenSpec.ofChange s).bare.plain.varTypes C.prog=[]:=by simp[OpenSpec.ofChange,OpenSpec.bare,ChangeSpec.plain,hv,DataSpec.varTypes]
 have hV0:=hV;rw[hv] at hV0;obtain⟨rfl,rfl⟩:=trodVars_none hV0;rw[hty,List.append_nil,List.append_nil] at hsz;have hlt:=DataW.TrodAll.lt hA;have hlen:ds.length=fn'.params.size:=by have:=bT _ _ _ _ hA;simpa using this
 have hfnc:=hs H ds hlen;refine(walk H enc (w.forCall tape i) w.heap.size i.args ds p hval hA hsz hsh).mono fun e W' ⟨he,bel⟩=>?_;subst he;refine ChangeSpec.post_blind ⟨ds,[],p++[],[],p,[],hW',?_,?_,?_,bel.frame _,fun h=>by cases h⟩
 ·rw[hres,List.append_nil,hfnc];exact trodAll_mk1 (shut_bool hb _)
 ·rw[List.append_nil,hfnc];exact VF laidOut bel _ _ _ _ hread hA hlt
 ·rw[hv,List.append_nil,hfnc];rfl
end Go.Proofs.YtkgikodiecmakaaGreatDoor
