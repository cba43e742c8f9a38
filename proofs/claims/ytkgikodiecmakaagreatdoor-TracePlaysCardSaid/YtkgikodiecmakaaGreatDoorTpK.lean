/- TracePlays: lemmas, from 'Layer 29: what a watch hears: that an Open failed' on; what each asks for stands in it. -/
import Derived.Test.YtkgikodiecmakaaGreatDoorTpJ
import Derived.Test.YtkgikodiecmakaaGreatDoorTpD
import Derived.Test.YtkgikodiecmakaaGreatDoorTpF
set_option linter.all false
set_option maxRecDepth 100000
set_option maxHeartbeats 64000000
namespace Go.Proofs.YtkgikodiecmakaaGreatDoor
open Go.RowKit Go.MapKept
theorem WAt.osel {w:World} {p:Nat} {M:WM} (h:WAt w p M) (s:Int): ∃o:OS,(AK s M.opens).getD ⟨none,0,[]⟩=o∧o.at w∧(∀y∈o.fp,∃o',AK s M.opens=some o'∧y∈o'.fp)∧(BO s (AQ OS.val M.opens)).getD (.slice none 0 0)=o.val∧((AK s M.opens).map OS.l).getD []=o.l:=by
 cases e:AK s M.opens with
 |none=>exact⟨⟨none,0,[]⟩,rfl,CP.none_,fun y hy=>by simp[OS.fp,bkO] at hy,by rw[EV,e];rfl,rfl⟩
 |some o=>exact⟨o,rfl,h.os _ (BN e),fun y hy=>⟨_,rfl,hy⟩,by rw[EV,e];rfl,rfl⟩
theorem VS {M:WM} {s:Int} (h:((AK s M.opens).map OS.l).getD []=[]):GJ M.abs s=none:=by
 unfold GJ WM.abs;dsimp only;rw[EF];cases e:(AK s M.opens).map OS.l with
 |none=>rfl
 |some l=>rw[e] at h;simp at h;subst h;rfl
theorem KI {M:WM} {s:Int} {x:Int×Int} {l:List (Int×Int)} (h:((AK s M.opens).map OS.l).getD []=x::l):GJ M.abs s=some (x,l):=by
 unfold GJ WM.abs;dsimp only;rw[EF];cases e:(AK s M.opens).map OS.l with
 |none=>rw[e] at h;cases h
 |some l'=>rw[e] at h;simp at h;subst h;rfl
theorem aG (M:WM) (p:Nat) (m:MD) (w:World) (h:WAt w p M) (hd:M.dead=false) (hk:m.kind=92) (hn:((AK m.chan M.opens).map OS.l).getD []=[]) (ok:Bool):Calls Tryz.prog 10 #[AO p,m.val] w (CV M p (AM M.abs m ok).1 (.int .i64 (AM M.abs m ok).2) w):=by
 have eS:AM M.abs m ok=(M.abs,8):=by
  unfold AM;rw[if_neg (show¬M.abs.dead=true by rw[show M.abs.dead=M.dead from rfl,hd];decide),if_neg (by rw[hk];decide),if_neg (by rw[hk];decide),if_neg (by rw[hk];decide),if_pos hk,VS hn]
 rw[eS];have hb:=h.blk;have hmo:=h.mo;obtain⟨o,-,hoo,-,hlook,hol⟩:=h.osel m.chan;rw[hn] at hol;obtain⟨oA,oc,ol⟩:=o;dsimp only at hol;subst hol;have hl:(Value.slice oA ([]:List (Int×Int)).length oc) = .slice oA 0 oc:=rfl;obtain⟨ob,eb,nb,opens,glob,ends,nums,dead⟩:=M;dsimp only at *;subst hd;refine Hs.en Tryz.func10 [] [p] [.b false 55 (wS ⟨ob,eb,nb,opens,glob,ends,nums,false⟩)] [.c (.p 0 0),.g (mdS m)] (Mem.rdOne w p hb) ?_;refine Hs.e1 fun b0=>?_;refine Hs.cF ?_;refine Hs.e0 ?_;refine Hs.cF ?_;refine Hs.e0 ?_;refine Hs.any [0,1] (by kernel_rfl) ?_;refine Hs.e0 ?_;refine Hs.callQ (X:=Nat) (fun r=>some ⟨r,0,none⟩) (fun r=>.map (some r)) (fun r w'=>BM (kI .i64) w' r (GQ p)) (fun r=>BM.st) (fun w' H=>FH p w') (by kernel_rfl) (by kernel_rfl) fun r=>?_;refine Hs.e0 ?_;refine Hs.getM (r:=r) (es:=GQ p) GS m.kind true (.tuple #[mV 29 p,.bool true]) (by rw[hk];rfl) (by kernel_rfl) (fun w' H=>H.mapM 2 (by kernel_rfl)) ?_;refine Hs.e0 ?_;refine Hs.cT ?_;refine Hs.e0 ?_;refine Hs.inl Tryz.func29 [.c (.p 0 0),.g (mdS m)] (by kernel_rfl) (by kernel_rfl) ?_;refine Hs.e1 fun b1=>?_;refine Hs.inl Tryz.func43 [.c (.p 0 0),.c (.v (.int .u32 m.chan))] (by kernel_rfl) (by kernel_rfl) ?_;refine Hs.e1 fun b2=>?_;refine Hs.getM (r:=ob) (es:=AQ OS.val opens) JR m.chan false (.slice oA 0 oc) hlook (by kernel_rfl) (fun w' H=>hmo.only H.only (by simp)) ?_;refine Hs.e0 ?_;refine Hs.cT ?_;refine Hs.e0 ?_;refine Hs.retI Tryz.func43 (by kernel_rfl) (by kernel_rfl) (by kernel_rfl) ?_;refine Hs.e1 fun b3=>?_;refine Hs.cT ?_;refine Hs.e0 ?_;refine Hs.retI Tryz.func29 (by kernel_rfl) (by kernel_rfl) (by kernel_rfl) ?_;refine Hs.e0 ?_;exact Hs.rt (v:=.int .i64 8) Tryz.func10 fun w' H=>h.keep H.only _
theorem WAt.putO {w w':World} {p:Nat} {M:WM} {L:List Nat} {s:Int} {o:OS} (h:WAt w p M) (O:Only L w w') (hL: ∀y∈L,y=p∨y=M.ob∨∃o',AK s M.opens=some o'∧y∈o'.fp) (hB:Blk w' p 55 M.cells) (hM:BM (kI .u32) w' M.ob (setE s o.val (AQ OS.val M.opens))) (hO:o.at w') (hnew: ∀y∈o.fp,(∃o',AK s M.opens=some o'∧y∈o'.fp)∨w.heap.size≤y) (v:Value):CV M p { M.abs with opens:=BH s o.l M.abs.opens } v w (.returned v) w':=by
 have A:=GE h.nd;have h4:=A.four;simp only[List.nodup_cons,List.mem_cons,List.not_mem_nil,or_false,not_or] at h4;refine WAt.put (M':={ M with opens:=BH s o M.opens }) h O s s rfl rfl rfl hB (by dsimp only;rw[←PR];exact hM) (h.me.only O fun hm=>?_) (h.mn.only O fun hm=>?_) h.kn (.inr ⟨_,rfl,hO,hnew⟩) (.inl ⟨rfl,fun x hx hm=>?_⟩) (fun y hy=>?_) _ _ ?_
 ·rcases hL _ hm with h1|h1|⟨o',h1,h2⟩;·exact h4.1.2.1 h1.symm
  ·exact h4.2.1.1 h1.symm
  ·exact A.fo _ (BC h1 h2) (by simp)
 ·rcases hL _ hm with h1|h1|⟨o',h1,h2⟩;·exact h4.1.2.2 h1.symm
  ·exact h4.2.1.2 h1.symm
  ·exact A.fo _ (BC h1 h2) (by simp)
 ·have hx2:x.1∈fpA eFp M.ends:=BC hx (by simp[eFp]);rcases hL _ hm with h1|h1|⟨o',h1,h2⟩;·exact A.fe _ hx2 (by simp[h1])
  ·exact A.fe _ hx2 (by simp[h1])
  ·exact A.oe _ (BC h1 h2) hx2
 ·rcases hL _ hy with h1|h1|h1;·exact .inl (by simp[h1])
  ·exact .inl (by simp[h1])
  ·exact .inr (.inl h1)
 ·unfold WM.abs;dsimp only;rw[←JY]
theorem cO {w:World} {p:Nat} {M:WM} {s:Int} {oA:Option Addr} (h:WAt w p M) (hofp: ∀y∈bkO oA,∃o',AK s M.opens=some o'∧y∈o'.fp):(p::M.ob::bkO oA).Nodup:=by
 have A:=GE h.nd;have h4:=A.four;simp only[List.nodup_cons,List.mem_cons,List.not_mem_nil,or_false,not_or] at h4⊢;refine⟨⟨h4.1.1,fun hm=>?_⟩,fun hm=>?_,OT _⟩
 ·obtain⟨o',h1,h2⟩:=hofp p hm;exact A.fo p (BC h1 h2) (by simp)
 ·obtain⟨o',h1,h2⟩:=hofp M.ob hm;exact A.fo M.ob (BC h1 h2) (by simp)
theorem aH (M:WM) (p:Nat) (m:MD) (w:World) (h:WAt w p M) (hd:M.dead=false) (hk:m.kind=92) {x:Int×Int} {l:List (Int×Int)} (hn:((AK m.chan M.opens).map OS.l).getD []=x::l) (ok:Bool):Calls Tryz.prog 10 #[AO p,m.val] w (CV M p (AM M.abs m ok).1 (.int .i64 (AM M.abs m ok).2) w):=by
 have eS:AM M.abs m ok=({ M.abs with opens:=BH m.chan l M.abs.opens },0):=by
  unfold AM;rw[if_neg (show¬M.abs.dead=true by rw[show M.abs.dead=M.dead from rfl,hd];decide),if_neg (by rw[hk];decide),if_neg (by rw[hk];decide),if_neg (by rw[hk];decide),if_pos hk,KI hn]
 rw[eS];have hb:=h.blk;have hmo:=h.mo;obtain⟨o,-,hoo,hofp,hlook,hol⟩:=h.osel m.chan;rw[hn] at hol;obtain⟨oA,oc,ol⟩:=o;dsimp only at hol;subst hol;obtain⟨ln,hln⟩: ∃ln,(x::l).length=ln:=⟨_,rfl⟩;have hl0:0<ln:=by rw[←hln];simp
 obtain⟨g,off,hA,-,-⟩:=CP.rd hoo FB (by simp);dsimp only at hA;subst hA;have hval:OS.val ⟨some ⟨g,off,none⟩,oc,x::l⟩ = .slice (some ⟨g,off,none⟩) ln oc:=by rw[←hln];rfl
 rw[hval] at hlook;have hnd:=cO h (oA:=some ⟨g,off,none⟩) hofp;have hput:=fun(w':World) (O:Only [p,M.ob,g] w w') hB hM hO=>h.putO (o:=⟨IA g off oc 10,oc-1,l⟩) (s:=m.chan) (v:=.int .i64 0) O (fun y hy=>by
  simp only[List.mem_cons,List.not_mem_nil,or_false] at hy;exact hy.imp id (Or.imp id fun e=>hofp y (by rw[e];simp[OS.fp,bkO]))) hB hM hO (fun y hy=>.inl (hofp y (by
   unfold OS.fp at hy;rw[XL] at hy;simp only[List.mem_singleton] at hy;rw[hy];simp[OS.fp,bkO])))
 obtain⟨ob,eb,nb,opens,glob,ends,nums,dead⟩:=M;dsimp only at *;subst hd;refine Hs.en Tryz.func10 [p,ob,g] [p,ob,0] [.b true 55 (wS ⟨ob,eb,nb,opens,glob,ends,nums,false⟩),HB.mp (kI .u32) ob (AQ OS.val opens),HB.oo cOp 36 10 (some ⟨g,off,none⟩) oc (x::l)] [.c (.p 0 0),.g (mdS m)] (Mem.startN (β:=[p,ob,0]) (hp:=[.b true 55 (wS ⟨ob,eb,nb,opens,glob,ends,nums,false⟩),HB.mp (kI .u32) ob (AQ OS.val opens),HB.oo cOp 36 10 (some ⟨g,off,none⟩) oc (x::l)]) rfl hnd ⟨hb,⟨hmo,fun a ha=>by injection ha with ha;subst ha;exact hmo.lt⟩,⟨hoo,hoo.lt⟩,trivial⟩) ?_;refine Hs.e1 fun b0=>?_;refine Hs.cF ?_;refine Hs.e0 ?_;refine Hs.cF ?_;refine Hs.e0 ?_;refine Hs.any [0,3] (by kernel_rfl) ?_;refine Hs.e0 ?_;refine Hs.callQ (X:=Nat) (fun r=>some ⟨r,0,none⟩) (fun r=>.map (some r)) (fun r w'=>BM (kI .i64) w' r (GQ p)) (fun r=>BM.st) (fun w' H=>FH p w') (by kernel_rfl) (by kernel_rfl) fun r=>?_;refine Hs.e0 ?_;refine Hs.getM (r:=r) (es:=GQ p) GS m.kind true (.tuple #[mV 29 p,.bool true]) (by rw[hk];rfl) (by kernel_rfl) (fun w' H=>H.mapM 4 (by kernel_rfl)) ?_;refine Hs.e0 ?_;refine Hs.cT ?_;refine Hs.e0 ?_;refine Hs.inl Tryz.func29 [.c (.p 0 0),.g (mdS m)] (by kernel_rfl) (by kernel_rfl) ?_;refine Hs.e1 fun b1=>?_;refine Hs.inl Tryz.func43 [.c (.p 0 0),.c (.v (.int .u32 m.chan))] (by kernel_rfl) (by kernel_rfl) ?_;refine Hs.e1 fun b2=>?_;refine Hs.getM (r:=ob) (es:=AQ OS.val opens) JR m.chan false (.slice (some ⟨g,off,none⟩) ln oc) hlook (by kernel_rfl) (fun w' H=>H.mapM 1 (by kernel_rfl)) ?_;refine Hs.e0 ?_;refine Hs.cP ((ln:Int)=0) (fun e=>by omega) (fun _=>?_);refine Hs.e0 ?_;refine Hs.any [0,1007] (by kernel_rfl) ?_;refine Hs.e0 ?_;refine Hs.cutN (g:=g) (off:=off) (len:=ln) (cap:=oc) GH hl0 (by kernel_rfl) ?_;refine Hs.e0 ?_;refine Hs.setM 1 JR (r:=ob) (es:=AQ OS.val opens) m.chan (.slice (IA g off oc 10) (ln-1) (oc-1)) (by kernel_rfl) (by kernel_rfl) (by kernel_rfl) ?_;refine Hs.e0 ?_;refine Hs.idx (b:=g) (off:=off) (len:=ln) (c:=oc) (i:=0) GH hl0 (by kernel_rfl) ?_;refine Hs.e0 ?_;refine Hs.ldx (cf:=cOp) (size:=10) (E:=36) (b:=g) (off:=off) (i:=0) (l:=x::l) (x:=x) FB (.g ((cOp x).map SC.v)) (by kernel_rfl) (fun w' H=>(H.atQ 2 (wr:=true) (A:=some ⟨g,off,none⟩) (Q:=fun w=>CP cOp 36 10 w (some ⟨g,off,none⟩) oc (x::l)) (st:=CP.stq) (by kernel_rfl)).rd FB) rfl (by kernel_rfl) (by kernel_rfl) rfl (by kernel_rfl) ?_;refine Hs.e0 ?_;refine Hs.retI Tryz.func43 (by kernel_rfl) (by kernel_rfl) (by kernel_rfl) ?_;refine Hs.e1 fun b3=>?_;refine Hs.cF ?_;refine Hs.e0 ?_;refine Hs.retI Tryz.func29 (by kernel_rfl) (by kernel_rfl) (by kernel_rfl) ?_;refine Hs.e0 ?_;refine Hs.rt (v:=.int .i64 0) Tryz.func10 fun w' H=>?_;refine hput w' H.only (H.at 0 (wr:=true) (T:=55) (cs:=wS ⟨ob,eb,nb,opens,glob,ends,nums,false⟩) (by kernel_rfl)) ?_ ?_
 ·have:=H.mapM 1 (r:=ob) (ke:=kI .u32) (es:=setE m.chan (.slice (IA g off oc 10) (ln-1) (oc-1)) (AQ OS.val opens)) (by kernel_rfl);rw[show OS.val ⟨IA g off oc 10,oc-1,l⟩ = .slice (IA g off oc 10) (ln-1) (oc-1) by rw[←hln];rfl];exact this
 ·exact CP.cutS FB (H.atQ 2 (wr:=true) (A:=some ⟨g,off,none⟩) (Q:=fun w=>CP cOp 36 10 w (some ⟨g,off,none⟩) oc (x::l)) (st:=CP.stq) (by kernel_rfl))
end Go.Proofs.YtkgikodiecmakaaGreatDoor
namespace Go.Proofs.YtkgikodiecmakaaGreatDoor
open Go.RowKit Go.MapKept
theorem RE {M:WM} {m:MD} {ok:Bool} (hd:M.dead=false) (hk:m.kind=91):AM M.abs m ok=match GJ M.abs m.chan with
  |none=>(M.abs,8)
  |some (o,l)=>if WI M.abs m.chan=true then(M.abs,9)
   else({ M.abs with opens:=BH m.chan l M.abs.opens,ends:=BH m.chan (LU m.chan o) M.abs.ends,nums:=BH m.sender m.chan M.abs.nums },0):=by
 unfold AM;rw[if_neg (show¬M.abs.dead=true by rw[show M.abs.dead=M.dead from rfl,hd];decide),if_neg (by rw[hk];decide),if_neg (by rw[hk];decide),if_pos hk];rfl
theorem WAt.putC {w w':World} {p b':Nat} {M:WM} {L:List Nat} {s n:Int} {o:OS} {e:EN} (h:WAt w p M) (O:Only L w w') (hL: ∀y∈L,y∈[p,M.ob,M.eb,M.nb]∨(∃o',AK s M.opens=some o'∧y∈o'.fp)∨∃x,AK s M.ends=some x∧y=x.1) (hB:Blk w' p 55 M.cells)
  (hM:BM (kI .u32) w' M.ob (setE s o.val (AQ OS.val M.opens))) (hE:BM (kI .u32) w' M.eb (setE s (AO b') (AQ (fun x=>AO x.1) M.ends))) (hN:BM (kI .u32) w' M.nb (setE n (.int .u32 s) (AQ LV M.nums))) (hO:o.at w') (hnew: ∀y∈o.fp,∃o',AK s M.opens=some o'∧y∈o'.fp) (hb:Blk w' b' 49 e.cells) (hbn:w.heap.size≤b') (v:Value) :
  CV M p { M.abs with opens:=BH s o.l M.abs.opens,ends:=BH s e M.abs.ends,nums:=BH n s M.abs.nums } v w (.returned v) w':=by
 have hlt:=h.lt;refine WAt.put (M':={ M with opens:=BH s o M.opens,ends:=BH s (b',e) M.ends,nums:=BH n s M.nums }) h O s s rfl rfl rfl hB (by dsimp only;rw[←PR];exact hM) (by dsimp only;rw[←PR];exact hE) (by dsimp only;rw[←PR];exact hN) h.kn.set (.inr ⟨_,rfl,hO,fun y hy=>.inl (hnew y hy)⟩) (.inr (.inr ⟨(b',e),rfl,hb,hbn,fun y hy=>?_⟩)) hL _ _ ?_
 ·have hy2:y∈fpA OS.fp M.opens:=by
   rcases KJ hy with h1|h1
   ·obtain⟨o',h2,h3⟩:=hnew y h1;exact BC h2 h3
   ·exact h1
  have:=hlt y (by simp only[WM.fp,List.mem_append];exact .inr (.inl hy2));show y≠b';omega
 ·unfold WM.abs;dsimp only;rw[←JY,←JY]
theorem RZ (M:WM) (p:Nat) (m:MD) (w:World) (h:WAt w p M) (hd:M.dead=false) (hk:m.kind=91) (hn:((AK m.chan M.opens).map OS.l).getD []=[]) (ok:Bool):Calls Tryz.prog 10 #[AO p,m.val] w (CV M p (AM M.abs m ok).1 (.int .i64 (AM M.abs m ok).2) w):=by
 have eS:AM M.abs m ok=(M.abs,8):=by rw[RE hd hk,VS hn]
 rw[eS];have hb:=h.blk;have hmo:=h.mo;obtain⟨o,-,hoo,-,hlook,hol⟩:=h.osel m.chan;rw[hn] at hol;obtain⟨oA,oc,ol⟩:=o;dsimp only at hol;subst hol;obtain⟨ob,eb,nb,opens,glob,ends,nums,dead⟩:=M;dsimp only at *;subst hd;refine Hs.en Tryz.func10 [] [p] [.b false 55 (wS ⟨ob,eb,nb,opens,glob,ends,nums,false⟩)] [.c (.p 0 0),.g (mdS m)] (Mem.rdOne w p hb) ?_;refine Hs.e1 fun b0=>?_;refine Hs.cF ?_;refine Hs.e0 ?_;refine Hs.cF ?_;refine Hs.e0 ?_;refine Hs.any [0,1] (by kernel_rfl) ?_;refine Hs.e0 ?_;refine Hs.callQ (X:=Nat) (fun r=>some ⟨r,0,none⟩) (fun r=>.map (some r)) (fun r w'=>BM (kI .i64) w' r (GQ p)) (fun r=>BM.st) (fun w' H=>FH p w') (by kernel_rfl) (by kernel_rfl) fun r=>?_;refine Hs.e0 ?_;refine Hs.getM (r:=r) (es:=GQ p) GS m.kind true (.tuple #[mV 28 p,.bool true]) (by rw[hk];rfl) (by kernel_rfl) (fun w' H=>H.mapM 2 (by kernel_rfl)) ?_;refine Hs.e0 ?_;refine Hs.cT ?_;refine Hs.e0 ?_;refine Hs.inl Tryz.func28 [.c (.p 0 0),.g (mdS m)] (by kernel_rfl) (by kernel_rfl) ?_;refine Hs.e1 fun b1=>?_;refine Hs.any [0,1,3] (by kernel_rfl) ?_;refine Hs.e0 ?_;refine Hs.getM (r:=ob) (es:=AQ OS.val opens) JR m.chan false (.slice oA 0 oc) hlook (by kernel_rfl) (fun w' H=>hmo.only H.only (by simp)) ?_;refine Hs.e0 ?_;refine Hs.cT ?_;refine Hs.e0 ?_;refine Hs.retI Tryz.func28 (by kernel_rfl) (by kernel_rfl) (by kernel_rfl) ?_;refine Hs.e0 ?_;exact Hs.rt (v:=.int .i64 8) Tryz.func10 fun w' H=>h.keep H.only _
theorem SA (M:WM) (p:Nat) (m:MD) (w:World) (h:WAt w p M) (hd:M.dead=false) (hk:m.kind=91) (hn:((AK m.chan M.opens).map OS.l).getD []≠[]) {b:Nat} {x:EN} (he:AK m.chan M.ends=some (b,x)) (hc:x.closed=false) (ok:Bool):Calls Tryz.prog 10 #[AO p,m.val] w (CV M p (AM M.abs m ok).1 (.int .i64 (AM M.abs m ok).2) w):=by
 have eS:AM M.abs m ok=(M.abs,9):=by
  rw[RE hd hk];cases e:((AK m.chan M.opens).map OS.l).getD [] with
  |nil=>exact absurd e hn
  |cons y l=>
   rw[KI e];dsimp only;rw[if_pos];unfold WI;rw[show AK m.chan M.abs.ends=some x by unfold WM.abs;dsimp only;rw[EF,he];rfl];dsimp only;rw[hc];rfl
 rw[eS];have hb:=h.blk;have hmo:=h.mo;have hme:=h.me;have A:=GE h.nd;have hbm:b∈fpA eFp M.ends:=BC he (by simp[eFp]);have hb4:=A.fe b hbm;simp only[List.mem_cons,List.not_mem_nil,or_false,not_or] at hb4;have hE:Blk w b 49 x.cells:=h.es _ (BN he);have hlookE:BO m.chan (AQ (fun x=>AO x.1) M.ends)=some (AO b):=by rw[EV,he];rfl
 obtain⟨o,-,hoo,-,hlook,hol⟩:=h.osel m.chan;obtain⟨oA,oc,ol⟩:=o;rw[hol] at hn;obtain⟨ln,hln⟩: ∃ln,ol.length=ln:=⟨_,rfl⟩;have hl0:0<ln:=by
  rw[←hln];cases ol with
  |nil=>exact absurd rfl hn
  |cons y l=>simp
 rw[show OS.val ⟨oA,oc,ol⟩ = .slice oA ln oc by rw[←hln];rfl] at hlook;obtain⟨ob,eb,nb,opens,glob,ends,nums,dead⟩:=M;obtain⟨xc,xg,xs,xp,xe,xd,xt,xw⟩:=x;dsimp only at *;subst hd;subst hc;refine Hs.en Tryz.func10 [] [p,b] [.b false 55 (wS ⟨ob,eb,nb,opens,glob,ends,nums,false⟩),.b false 49 (EN.sc ⟨xc,xg,xs,xp,xe,false,xt,xw⟩)] [.c (.p 0 0),.g (mdS m)] (Mem.startW [] (β:=[p,b]) (hp:=[.b false 55 (wS ⟨ob,eb,nb,opens,glob,ends,nums,false⟩),.b false 49 (EN.sc ⟨xc,xg,xs,xp,xe,false,xt,xw⟩)]) rfl (by
  show[p,b].Nodup;simp only[List.nodup_cons,List.mem_cons,List.not_mem_nil,or_false,not_or,List.nodup_nil,not_false_eq_true,and_true];exact fun e=>hb4.1 e.symm) ⟨hb,hE,trivial⟩ (by simp[wrN,HB.wr])) ?_
 refine Hs.e1 fun b0=>?_;refine Hs.cF ?_;refine Hs.e0 ?_;refine Hs.cF ?_;refine Hs.e0 ?_;refine Hs.any [0,2] (by kernel_rfl) ?_;refine Hs.e0 ?_;refine Hs.callQ (X:=Nat) (fun r=>some ⟨r,0,none⟩) (fun r=>.map (some r)) (fun r w'=>BM (kI .i64) w' r (GQ p)) (fun r=>BM.st) (fun w' H=>FH p w') (by kernel_rfl) (by kernel_rfl) fun r=>?_;refine Hs.e0 ?_;refine Hs.getM (r:=r) (es:=GQ p) GS m.kind true (.tuple #[mV 28 p,.bool true]) (by rw[hk];rfl) (by kernel_rfl) (fun w' H=>H.mapM 3 (by kernel_rfl)) ?_;refine Hs.e0 ?_;refine Hs.cT ?_;refine Hs.e0 ?_;refine Hs.inl Tryz.func28 [.c (.p 0 0),.g (mdS m)] (by kernel_rfl) (by kernel_rfl) ?_;refine Hs.e1 fun b1=>?_;refine Hs.any [0,2,4] (by kernel_rfl) ?_;refine Hs.e0 ?_;refine Hs.getM (r:=ob) (es:=AQ OS.val opens) JR m.chan false (.slice oA ln oc) hlook (by kernel_rfl) (fun w' H=>hmo.only H.only (by simp)) ?_;refine Hs.e0 ?_;refine Hs.cP ((ln:Int)=0) (fun e=>by omega) (fun _=>?_);refine Hs.e0 ?_;refine Hs.any [0,2,4] (by kernel_rfl) ?_;refine Hs.e0 ?_;refine Hs.getM (r:=eb) (es:=AQ (fun x=>AO x.1) ends) LW m.chan true (.tuple #[AO b,.bool true]) (by rw[hlookE];rfl) (by kernel_rfl) (fun w' H=>hme.only H.only (by simp)) ?_;refine Hs.e0 ?_;refine Hs.slot 5 (.c (.p 1 0)) (by kernel_rfl) (by kernel_rfl) ?_;refine Hs.eg [1] ?_;refine Hs.cT ?_;refine Hs.e0 ?_;refine Hs.retI Tryz.func28 (by kernel_rfl) (by kernel_rfl) (by kernel_rfl) ?_;refine Hs.e0 ?_;exact Hs.rt (v:=.int .i64 9) Tryz.func10 fun w' H=>h.keep H.only _
theorem SB (M:WM) (p:Nat) (m:MD) (w:World) (h:WAt w p M) (hd:M.dead=false) (hk:m.kind=91) {x:Int×Int} {l:List (Int×Int)} (hn:((AK m.chan M.opens).map OS.l).getD []=x::l) (he:AK m.chan M.ends=none) (hx:U32 x.1) (ok:Bool):Calls Tryz.prog 10 #[AO p,m.val] w (CV M p (AM M.abs m ok).1 (.int .i64 (AM M.abs m ok).2) w):=by
 have eS:AM M.abs m ok=({ M.abs with opens:=BH m.chan l M.abs.opens,ends:=BH m.chan (LU m.chan x) M.abs.ends,nums:=BH m.sender m.chan M.abs.nums },0):=by
  rw[RE hd hk,KI hn];dsimp only;rw[if_neg];unfold WI;rw[show AK m.chan M.abs.ends=none by unfold WM.abs;dsimp only;rw[EF,he];rfl];simp
 rw[eS];clear eS;have hw:IntKind.u64.wrap x.1=x.1:=by rw[IntKind.wrap_u64];unfold U32 at hx;omega
 have hb:=h.blk;have hmo:=h.mo;have hme:=h.me;have hmn:=h.mn;have A:=GE h.nd;have h4:=A.four;obtain⟨o,-,hoo,hofp,hlook,hol⟩:=h.osel m.chan;rw[hn] at hol;obtain⟨oA,oc,ol⟩:=o;dsimp only at hol;subst hol;obtain⟨ln,hln⟩: ∃ln,(x::l).length=ln:=⟨_,rfl⟩;have hl0:0<ln:=by rw[←hln];simp
 obtain⟨g,off,hA,-,-⟩:=CP.rd hoo FB (by simp);dsimp only at hA;subst hA;have hval:OS.val ⟨some ⟨g,off,none⟩,oc,x::l⟩ = .slice (some ⟨g,off,none⟩) ln oc:=by rw[←hln];rfl
 rw[hval] at hlook;obtain⟨og,hg1,hg2⟩:=hofp g (by simp[OS.fp,bkO]);have hgm:g∈fpA OS.fp M.opens:=BC hg1 hg2;have hg4:=A.fo g hgm;have hlookE:(if true then Value.tuple #[(BO m.chan (AQ (fun x=>AO x.1) M.ends)).getD (.pointer none),.bool (BO m.chan (AQ (fun x=>AO x.1) M.ends)).isSome] else(BO m.chan (AQ (fun x=>AO x.1) M.ends)).getD (.pointer none)) = .tuple #[.pointer none,.bool false]:=by rw[EV,he];rfl
 have hnd:[p,M.ob,M.eb,M.nb,g].Nodup:=by
  simp only[List.nodup_cons,List.mem_cons,List.not_mem_nil,or_false,not_or,List.nodup_nil,not_false_eq_true,and_true] at h4 hg4⊢;exact⟨⟨h4.1.1,h4.1.2.1,h4.1.2.2,fun e=>hg4.1 e.symm⟩,⟨h4.2.1.1,h4.2.1.2,fun e=>hg4.2.1 e.symm⟩,⟨h4.2.2,fun e=>hg4.2.2.1 e.symm⟩,fun e=>hg4.2.2.2 e.symm⟩
 have hput:=fun(w':World) (b':Nat) (O:Only [p,M.ob,M.eb,M.nb,g] w w') hB hM hE hN hO hb hbn=>h.putC (b':=b') (o:=⟨IA g off oc 10,oc-1,l⟩) (s:=m.chan) (n:=m.sender) (e:=LU m.chan x) (v:=.int .i64 0) O (fun y hy=>by
  simp only[List.mem_cons,List.not_mem_nil,or_false] at hy;rcases hy with rfl|rfl|rfl|rfl|rfl;·exact .inl (by simp)
  ·exact .inl (by simp)
  ·exact .inl (by simp)
  ·exact .inl (by simp)
  ·exact .inr (.inl ⟨og,hg1,hg2⟩)) hB hM hE hN hO (fun y hy=>by
   unfold OS.fp at hy;rw[XL] at hy;simp only[List.mem_singleton] at hy;rw[hy];exact⟨og,hg1,hg2⟩) hb hbn
 have hrdO: ∀w',CP cOp 36 10 w' (some ⟨g,off,none⟩) oc (x::l)→RdX cOp w' (some ⟨g,off,none⟩) (x::l):=fun w' h=>h.rd FB;obtain⟨ob,eb,nb,opens,glob,ends,nums,dead⟩:=M;dsimp only at *;subst hd;obtain⟨xw1,xp1⟩:=x;dsimp only at hw;refine Hs.en Tryz.func10 [p,ob,eb,nb,g] [p,ob,eb,nb,0] [.b true 55 (wS ⟨ob,eb,nb,opens,glob,ends,nums,false⟩),HB.mp (kI .u32) ob (AQ OS.val opens),HB.mp (kI .u32) eb (AQ (fun x:Nat×EN=>AO x.1) ends),HB.mp (kI .u32) nb (AQ LV nums),HB.oo cOp 36 10 (some ⟨g,off,none⟩) oc ((xw1,xp1)::l)] [.c (.p 0 0),.g (mdS m)] (Mem.startN (β:=[p,ob,eb,nb,0]) (hp:=[.b true 55 (wS ⟨ob,eb,nb,opens,glob,ends,nums,false⟩),HB.mp (kI .u32) ob (AQ OS.val opens),HB.mp (kI .u32) eb (AQ (fun x:Nat×EN=>AO x.1) ends),HB.mp (kI .u32) nb (AQ LV nums),HB.oo cOp 36 10 (some ⟨g,off,none⟩) oc ((xw1,xp1)::l)]) rfl hnd ⟨hb,⟨hmo,fun a ha=>by injection ha with ha;subst ha;exact hmo.lt⟩,⟨hme,fun a ha=>by injection ha with ha;subst ha;exact hme.lt⟩,⟨hmn,fun a ha=>by injection ha with ha;subst ha;exact hmn.lt⟩,⟨hoo,hoo.lt⟩,trivial⟩) ?_;refine Hs.e1 fun b0=>?_;refine Hs.cF ?_;refine Hs.e0 ?_;refine Hs.cF ?_;refine Hs.e0 ?_;refine Hs.any [0,5] (by kernel_rfl) ?_;refine Hs.e0 ?_;refine Hs.callQ (X:=Nat) (fun r=>some ⟨r,0,none⟩) (fun r=>.map (some r)) (fun r w'=>BM (kI .i64) w' r (GQ p)) (fun r=>BM.st) (fun w' H=>FH p w') (by kernel_rfl) (by kernel_rfl) fun r=>?_;refine Hs.e0 ?_;refine Hs.getM (r:=r) (es:=GQ p) GS m.kind true (.tuple #[mV 28 p,.bool true]) (by rw[hk];rfl) (by kernel_rfl) (fun w' H=>H.mapM 6 (by kernel_rfl)) ?_;refine Hs.e0 ?_;refine Hs.cT ?_;refine Hs.e0 ?_;refine Hs.inl Tryz.func28 [.c (.p 0 0),.g (mdS m)] (by kernel_rfl) (by kernel_rfl) ?_;refine Hs.e1 fun b1=>?_;refine Hs.any [0,5,7] (by kernel_rfl) ?_;refine Hs.e0 ?_;refine Hs.getM (r:=ob) (es:=AQ OS.val opens) JR m.chan false (.slice (some ⟨g,off,none⟩) ln oc) hlook (by kernel_rfl) (fun w' H=>H.mapM 1 (by kernel_rfl)) ?_;refine Hs.e0 ?_;refine Hs.cP ((ln:Int)=0) (fun e=>by omega) (fun _=>?_);refine Hs.e0 ?_;refine Hs.any [0,5,7] (by kernel_rfl) ?_;refine Hs.e0 ?_;refine Hs.getM (r:=eb) (es:=AQ (fun x=>AO x.1) ends) LW m.chan true (.tuple #[.pointer none,.bool false]) hlookE (by kernel_rfl) (fun w' H=>H.mapM 2 (by kernel_rfl)) ?_;refine Hs.e0 ?_;refine Hs.eg [1] ?_;refine Hs.cF ?_;refine Hs.e0 ?_;refine Hs.inl Tryz.func43 [.c (.p 0 0),.c (.v (.int .u32 m.chan))] (by kernel_rfl) (by kernel_rfl) ?_;refine Hs.e1 fun b2=>?_;refine Hs.getM (r:=ob) (es:=AQ OS.val opens) JR m.chan false (.slice (some ⟨g,off,none⟩) ln oc) hlook (by kernel_rfl) (fun w' H=>H.mapM 1 (by kernel_rfl)) ?_;refine Hs.e0 ?_;refine Hs.cP ((ln:Int)=0) (fun e=>by omega) (fun _=>?_);refine Hs.e0 ?_;refine Hs.any [0,1007] (by kernel_rfl) ?_;refine Hs.e0 ?_;refine Hs.cutN (g:=g) (off:=off) (len:=ln) (cap:=oc) GH hl0 (by kernel_rfl) ?_;refine Hs.e0 ?_;refine Hs.setM 1 JR (r:=ob) (es:=AQ OS.val opens) m.chan (.slice (IA g off oc 10) (ln-1) (oc-1)) (by kernel_rfl) (by kernel_rfl) (by kernel_rfl) ?_;refine Hs.e0 ?_;refine Hs.idx (b:=g) (off:=off) (len:=ln) (c:=oc) (i:=0) GH hl0 (by kernel_rfl) ?_;refine Hs.e0 ?_;refine Hs.ldx (cf:=cOp) (size:=10) (E:=36) (b:=g) (off:=off) (i:=0) (l:=(xw1,xp1)::l) (x:=(xw1,xp1)) FB (.g ((cOp (xw1,xp1)).map SC.v)) (by kernel_rfl) (fun w' H=>hrdO w' (H.atQ 4 (wr:=true) (A:=some ⟨g,off,none⟩) (Q:=fun w=>CP cOp 36 10 w (some ⟨g,off,none⟩) oc ((xw1,xp1)::l)) (st:=CP.stq) (by kernel_rfl))) rfl (by kernel_rfl) (by kernel_rfl) rfl (by kernel_rfl) ?_;refine Hs.e0 ?_;refine Hs.retI Tryz.func43 (by kernel_rfl) (by kernel_rfl) (by kernel_rfl) ?_;refine Hs.e1 fun b3=>?_;refine Hs.any [0,7,9,1015] (by kernel_rfl) ?_;refine Hs.e1 fun b4=>?_;refine Hs.setM 2 LW (r:=eb) (es:=AQ (fun x:Nat×EN=>AO x.1) ends) m.chan (AO b4) (by kernel_rfl) (by kernel_rfl) (by kernel_rfl) ?_;refine Hs.e0 ?_;refine Hs.any [0,7,1008] (by kernel_rfl) ?_;refine Hs.e0 ?_;refine Hs.setM 3 keyNu (r:=nb) (es:=AQ LV nums) m.sender (.int .u32 m.chan) (by kernel_rfl) (by kernel_rfl) (by kernel_rfl) ?_;refine Hs.e0 ?_;refine Hs.retI Tryz.func28 (by kernel_rfl) (by kernel_rfl) (by kernel_rfl) ?_;refine Hs.e0 ?_;refine Hs.rt (v:=.int .i64 0) Tryz.func10 fun w' H=>?_;refine hput w' b4 H.only (H.at 0 (wr:=true) (T:=55) (cs:=wS ⟨ob,eb,nb,opens,glob,ends,nums,false⟩) (by kernel_rfl)) ?_ (H.mapM 2 (r:=eb) (ke:=kI .u32) (es:=setE m.chan (AO b4) (AQ (fun x:Nat×EN=>AO x.1) ends)) (by kernel_rfl)) (H.mapM 3 (r:=nb) (ke:=kI .u32) (es:=setE m.sender (.int .u32 m.chan) (AQ LV nums)) (by kernel_rfl)) ?_ ?_ ?_
 ·have:=H.mapM 1 (r:=ob) (ke:=kI .u32) (es:=setE m.chan (.slice (IA g off oc 10) (ln-1) (oc-1)) (AQ OS.val opens)) (by kernel_rfl);rw[show OS.val ⟨IA g off oc 10,oc-1,l⟩ = .slice (IA g off oc 10) (ln-1) (oc-1) by rw[←hln];rfl];exact this
 ·exact CP.cutS FB (H.atQ 4 (wr:=true) (A:=some ⟨g,off,none⟩) (Q:=fun w=>CP cOp 36 10 w (some ⟨g,off,none⟩) oc ((xw1,xp1)::l)) (st:=CP.stq) (by kernel_rfl))
 ·have:=H.at 10 (wr:=true) (T:=49) (cs:=EN.sc ⟨m.chan,IntKind.u64.wrap xw1,0,xp1,false,false,false,0⟩) (by kernel_rfl);rw[hw] at this;exact this
 ·have hfr:=(H.sub [0,1,2,3,4,10] (by decide) (hp':=[.b true 55 (wS ⟨ob,eb,nb,opens,glob,ends,nums,false⟩),HB.mp (kI .u32) ob (setE m.chan (.slice (IA g off oc 10) (ln-1) (oc-1)) (AQ OS.val opens)),HB.mp (kI .u32) eb (setE m.chan (AO b4) (AQ (fun x:Nat×EN=>AO x.1) ends)),HB.mp (kI .u32) nb (setE m.sender (.int .u32 m.chan) (AQ LV nums)),HB.oo cOp 36 10 (some ⟨g,off,none⟩) oc ((xw1,xp1)::l),.b true 49 (EN.sc ⟨m.chan,IntKind.u64.wrap xw1,0,xp1,false,false,false,0⟩)]) (by kernel_rfl)).bks rfl;have hnd2:[p,ob,eb,nb,g,b4].Nodup:=hfr.1;have h1:b4∈[p,ob,eb,nb,g]∨w.heap.size≤b4:=(hfr.2 b4 (show b4∈[p,ob,eb,nb,g,b4] by simp)).1;rcases h1 with h1|h1
  ·exfalso;rw[show[p,ob,eb,nb,g,b4]=[p,ob,eb,nb,g]++[b4] from rfl,List.nodup_append] at hnd2;exact hnd2.2.2 b4 h1 b4 (by simp) rfl
  ·exact h1
theorem SD (M:WM) (p:Nat) (m:MD) (w:World) (h:WAt w p M) (hd:M.dead=false) (hk:m.kind=91) {x:Int×Int} {l:List (Int×Int)} (hn:((AK m.chan M.opens).map OS.l).getD []=x::l) {b:Nat} {z:EN} (he:AK m.chan M.ends=some (b,z)) (hc:z.closed=true) (hx:U32 x.1) (ok:Bool):Calls Tryz.prog 10 #[AO p,m.val] w (CV M p (AM M.abs m ok).1 (.int .i64 (AM M.abs m ok).2) w):=by
 have eS:AM M.abs m ok=({ M.abs with opens:=BH m.chan l M.abs.opens,ends:=BH m.chan (LU m.chan x) M.abs.ends,nums:=BH m.sender m.chan M.abs.nums },0):=by
  rw[RE hd hk,KI hn];dsimp only;rw[if_neg];unfold WI;rw[show AK m.chan M.abs.ends=some z by unfold WM.abs;dsimp only;rw[EF,he];rfl];dsimp only;rw[hc];simp
 rw[eS];clear eS;have hw:IntKind.u64.wrap x.1=x.1:=by rw[IntKind.wrap_u64];unfold U32 at hx;omega
 have hb:=h.blk;have hmo:=h.mo;have hme:=h.me;have hmn:=h.mn;have A:=GE h.nd;have h4:=A.four;obtain⟨o,-,hoo,hofp,hlook,hol⟩:=h.osel m.chan;rw[hn] at hol;obtain⟨oA,oc,ol⟩:=o;dsimp only at hol;subst hol;obtain⟨ln,hln⟩: ∃ln,(x::l).length=ln:=⟨_,rfl⟩;have hl0:0<ln:=by rw[←hln];simp
 obtain⟨g,off,hA,-,-⟩:=CP.rd hoo FB (by simp);dsimp only at hA;subst hA;have hval:OS.val ⟨some ⟨g,off,none⟩,oc,x::l⟩ = .slice (some ⟨g,off,none⟩) ln oc:=by rw[←hln];rfl
 rw[hval] at hlook;obtain⟨og,hg1,hg2⟩:=hofp g (by simp[OS.fp,bkO]);have hgm:g∈fpA OS.fp M.opens:=BC hg1 hg2;have hg4:=A.fo g hgm;have hbm:b∈fpA eFp M.ends:=BC he (by simp[eFp]);have hb4:=A.fe b hbm;have hgb:g≠b:=fun e=>A.oe g hgm (by rw[e];exact hbm);have hE:Blk w b 49 z.cells:=h.es _ (BN he);have hlookE:(if true then Value.tuple #[(BO m.chan (AQ (fun x=>AO x.1) M.ends)).getD (.pointer none),.bool (BO m.chan (AQ (fun x=>AO x.1) M.ends)).isSome] else(BO m.chan (AQ (fun x=>AO x.1) M.ends)).getD (.pointer none)) = .tuple #[AO b,.bool true]:=by rw[EV,he];rfl
 have hnd:[p,M.ob,M.eb,M.nb,g,b].Nodup:=by
  simp only[List.nodup_cons,List.mem_cons,List.not_mem_nil,or_false,not_or,List.nodup_nil,not_false_eq_true,and_true] at h4 hg4 hb4⊢;exact⟨⟨h4.1.1,h4.1.2.1,h4.1.2.2,fun e=>hg4.1 e.symm,fun e=>hb4.1 e.symm⟩,⟨h4.2.1.1,h4.2.1.2,fun e=>hg4.2.1 e.symm,fun e=>hb4.2.1 e.symm⟩,⟨h4.2.2,fun e=>hg4.2.2.1 e.symm,fun e=>hb4.2.2.1 e.symm⟩,⟨fun e=>hg4.2.2.2 e.symm,fun e=>hb4.2.2.2 e.symm⟩,hgb⟩
 have hput:=fun(w':World) (b':Nat) (O:Only [p,M.ob,M.eb,M.nb,g,b] w w') hB hM hE hN hO hb hbn=>h.putC (b':=b') (o:=⟨IA g off oc 10,oc-1,l⟩) (s:=m.chan) (n:=m.sender) (e:=LU m.chan x) (v:=.int .i64 0) O (fun y hy=>by
  simp only[List.mem_cons,List.not_mem_nil,or_false] at hy;rcases hy with rfl|rfl|rfl|rfl|rfl|rfl;·exact .inl (by simp)
  ·exact .inl (by simp)
  ·exact .inl (by simp)
  ·exact .inl (by simp)
  ·exact .inr (.inl ⟨og,hg1,hg2⟩)
  ·exact .inr (.inr ⟨_,he,rfl⟩)) hB hM hE hN hO (fun y hy=>by
   unfold OS.fp at hy;rw[XL] at hy;simp only[List.mem_singleton] at hy;rw[hy];exact⟨og,hg1,hg2⟩) hb hbn
 have hrdO: ∀w',CP cOp 36 10 w' (some ⟨g,off,none⟩) oc (x::l)→RdX cOp w' (some ⟨g,off,none⟩) (x::l):=fun w' h=>h.rd FB;obtain⟨ob,eb,nb,opens,glob,ends,nums,dead⟩:=M;obtain⟨xc,xg,xs,xp,xe,xd,xt,xw⟩:=z;dsimp only at *;subst hd;subst hc;obtain⟨xw1,xp1⟩:=x;dsimp only at hw;refine Hs.en Tryz.func10 [p,ob,eb,nb,g,b] [p,ob,eb,nb,0,b] [.b true 55 (wS ⟨ob,eb,nb,opens,glob,ends,nums,false⟩),HB.mp (kI .u32) ob (AQ OS.val opens),HB.mp (kI .u32) eb (AQ (fun x:Nat×EN=>AO x.1) ends),HB.mp (kI .u32) nb (AQ LV nums),HB.oo cOp 36 10 (some ⟨g,off,none⟩) oc ((xw1,xp1)::l),.b true 49 (EN.sc ⟨xc,xg,xs,xp,xe,true,xt,xw⟩)] [.c (.p 0 0),.g (mdS m)] (Mem.startN (β:=[p,ob,eb,nb,0,b]) (hp:=[.b true 55 (wS ⟨ob,eb,nb,opens,glob,ends,nums,false⟩),HB.mp (kI .u32) ob (AQ OS.val opens),HB.mp (kI .u32) eb (AQ (fun x:Nat×EN=>AO x.1) ends),HB.mp (kI .u32) nb (AQ LV nums),HB.oo cOp 36 10 (some ⟨g,off,none⟩) oc ((xw1,xp1)::l),.b true 49 (EN.sc ⟨xc,xg,xs,xp,xe,true,xt,xw⟩)]) rfl hnd ⟨hb,⟨hmo,fun a ha=>by injection ha with ha;subst ha;exact hmo.lt⟩,⟨hme,fun a ha=>by injection ha with ha;subst ha;exact hme.lt⟩,⟨hmn,fun a ha=>by injection ha with ha;subst ha;exact hmn.lt⟩,⟨hoo,hoo.lt⟩,hE,trivial⟩) ?_;refine Hs.e1 fun b0=>?_;refine Hs.cF ?_;refine Hs.e0 ?_;refine Hs.cF ?_;refine Hs.e0 ?_;refine Hs.any [0,6] (by kernel_rfl) ?_;refine Hs.e0 ?_;refine Hs.callQ (X:=Nat) (fun r=>some ⟨r,0,none⟩) (fun r=>.map (some r)) (fun r w'=>BM (kI .i64) w' r (GQ p)) (fun r=>BM.st) (fun w' H=>FH p w') (by kernel_rfl) (by kernel_rfl) fun r=>?_;refine Hs.e0 ?_;refine Hs.getM (r:=r) (es:=GQ p) GS m.kind true (.tuple #[mV 28 p,.bool true]) (by rw[hk];rfl) (by kernel_rfl) (fun w' H=>H.mapM 7 (by kernel_rfl)) ?_;refine Hs.e0 ?_;refine Hs.cT ?_;refine Hs.e0 ?_;refine Hs.inl Tryz.func28 [.c (.p 0 0),.g (mdS m)] (by kernel_rfl) (by kernel_rfl) ?_;refine Hs.e1 fun b1=>?_;refine Hs.any [0,6,8] (by kernel_rfl) ?_;refine Hs.e0 ?_;refine Hs.getM (r:=ob) (es:=AQ OS.val opens) JR m.chan false (.slice (some ⟨g,off,none⟩) ln oc) hlook (by kernel_rfl) (fun w' H=>H.mapM 1 (by kernel_rfl)) ?_;refine Hs.e0 ?_;refine Hs.cP ((ln:Int)=0) (fun e=>by omega) (fun _=>?_);refine Hs.e0 ?_;refine Hs.any [0,6,8] (by kernel_rfl) ?_;refine Hs.e0 ?_;refine Hs.getM (r:=eb) (es:=AQ (fun x=>AO x.1) ends) LW m.chan true (.tuple #[AO b,.bool true]) hlookE (by kernel_rfl) (fun w' H=>H.mapM 2 (by kernel_rfl)) ?_;refine Hs.e0 ?_;refine Hs.slot 5 (.c (.p 5 0)) (by kernel_rfl) (by kernel_rfl) ?_;refine Hs.eg [1] ?_;refine Hs.cF ?_;refine Hs.e0 ?_;refine Hs.inl Tryz.func43 [.c (.p 0 0),.c (.v (.int .u32 m.chan))] (by kernel_rfl) (by kernel_rfl) ?_;refine Hs.e1 fun b2=>?_;refine Hs.getM (r:=ob) (es:=AQ OS.val opens) JR m.chan false (.slice (some ⟨g,off,none⟩) ln oc) hlook (by kernel_rfl) (fun w' H=>H.mapM 1 (by kernel_rfl)) ?_;refine Hs.e0 ?_;refine Hs.cP ((ln:Int)=0) (fun e=>by omega) (fun _=>?_);refine Hs.e0 ?_;refine Hs.any [0,1007] (by kernel_rfl) ?_;refine Hs.e0 ?_;refine Hs.cutN (g:=g) (off:=off) (len:=ln) (cap:=oc) GH hl0 (by kernel_rfl) ?_;refine Hs.e0 ?_;refine Hs.setM 1 JR (r:=ob) (es:=AQ OS.val opens) m.chan (.slice (IA g off oc 10) (ln-1) (oc-1)) (by kernel_rfl) (by kernel_rfl) (by kernel_rfl) ?_;refine Hs.e0 ?_;refine Hs.idx (b:=g) (off:=off) (len:=ln) (c:=oc) (i:=0) GH hl0 (by kernel_rfl) ?_;refine Hs.e0 ?_;refine Hs.ldx (cf:=cOp) (size:=10) (E:=36) (b:=g) (off:=off) (i:=0) (l:=(xw1,xp1)::l) (x:=(xw1,xp1)) FB (.g ((cOp (xw1,xp1)).map SC.v)) (by kernel_rfl) (fun w' H=>hrdO w' (H.atQ 4 (wr:=true) (A:=some ⟨g,off,none⟩) (Q:=fun w=>CP cOp 36 10 w (some ⟨g,off,none⟩) oc ((xw1,xp1)::l)) (st:=CP.stq) (by kernel_rfl))) rfl (by kernel_rfl) (by kernel_rfl) rfl (by kernel_rfl) ?_;refine Hs.e0 ?_;refine Hs.retI Tryz.func43 (by kernel_rfl) (by kernel_rfl) (by kernel_rfl) ?_;refine Hs.e1 fun b3=>?_;refine Hs.any [0,8,10,1015] (by kernel_rfl) ?_;refine Hs.e1 fun b4=>?_;refine Hs.setM 2 LW (r:=eb) (es:=AQ (fun x:Nat×EN=>AO x.1) ends) m.chan (AO b4) (by kernel_rfl) (by kernel_rfl) (by kernel_rfl) ?_;refine Hs.e0 ?_;refine Hs.any [0,8,1008] (by kernel_rfl) ?_;refine Hs.e0 ?_;refine Hs.setM 3 keyNu (r:=nb) (es:=AQ LV nums) m.sender (.int .u32 m.chan) (by kernel_rfl) (by kernel_rfl) (by kernel_rfl) ?_;refine Hs.e0 ?_;refine Hs.retI Tryz.func28 (by kernel_rfl) (by kernel_rfl) (by kernel_rfl) ?_;refine Hs.e0 ?_;refine Hs.rt (v:=.int .i64 0) Tryz.func10 fun w' H=>?_;refine hput w' b4 H.only (H.at 0 (wr:=true) (T:=55) (cs:=wS ⟨ob,eb,nb,opens,glob,ends,nums,false⟩) (by kernel_rfl)) ?_ (H.mapM 2 (r:=eb) (ke:=kI .u32) (es:=setE m.chan (AO b4) (AQ (fun x:Nat×EN=>AO x.1) ends)) (by kernel_rfl)) (H.mapM 3 (r:=nb) (ke:=kI .u32) (es:=setE m.sender (.int .u32 m.chan) (AQ LV nums)) (by kernel_rfl)) ?_ ?_ ?_
 ·have:=H.mapM 1 (r:=ob) (ke:=kI .u32) (es:=setE m.chan (.slice (IA g off oc 10) (ln-1) (oc-1)) (AQ OS.val opens)) (by kernel_rfl);rw[show OS.val ⟨IA g off oc 10,oc-1,l⟩ = .slice (IA g off oc 10) (ln-1) (oc-1) by rw[←hln];rfl];exact this
 ·exact CP.cutS FB (H.atQ 4 (wr:=true) (A:=some ⟨g,off,none⟩) (Q:=fun w=>CP cOp 36 10 w (some ⟨g,off,none⟩) oc ((xw1,xp1)::l)) (st:=CP.stq) (by kernel_rfl))
 ·have:=H.at 11 (wr:=true) (T:=49) (cs:=EN.sc ⟨m.chan,IntKind.u64.wrap xw1,0,xp1,false,false,false,0⟩) (by kernel_rfl);rw[hw] at this;exact this
 ·have hfr:=(H.sub [0,1,2,3,4,5,11] (by decide) (hp':=[.b true 55 (wS ⟨ob,eb,nb,opens,glob,ends,nums,false⟩),HB.mp (kI .u32) ob (setE m.chan (.slice (IA g off oc 10) (ln-1) (oc-1)) (AQ OS.val opens)),HB.mp (kI .u32) eb (setE m.chan (AO b4) (AQ (fun x:Nat×EN=>AO x.1) ends)),HB.mp (kI .u32) nb (setE m.sender (.int .u32 m.chan) (AQ LV nums)),HB.oo cOp 36 10 (some ⟨g,off,none⟩) oc ((xw1,xp1)::l),.b true 49 (EN.sc ⟨xc,xg,xs,xp,xe,true,xt,xw⟩),.b true 49 (EN.sc ⟨m.chan,IntKind.u64.wrap xw1,0,xp1,false,false,false,0⟩)]) (by kernel_rfl)).bks rfl;have hnd2:[p,ob,eb,nb,g,b,b4].Nodup:=hfr.1;have h1:b4∈[p,ob,eb,nb,g,b]∨w.heap.size≤b4:=(hfr.2 b4 (show b4∈[p,ob,eb,nb,g,b,b4] by simp)).1;rcases h1 with h1|h1
  ·exfalso;rw[show[p,ob,eb,nb,g,b,b4]=[p,ob,eb,nb,g,b]++[b4] from rfl,List.nodup_append] at hnd2;exact hnd2.2.2 b4 h1 b4 (by simp) rfl
  ·exact h1
theorem UQ (M:WM) (p:Nat) (m:MD) (w:World) (h:WAt w p M) (hd:M.dead=false) (hk:m.kind=91) (hw: ∀x∈M.opens,∀y∈x.2.l,U32 y.1) (ok:Bool):Calls Tryz.prog 10 #[AO p,m.val] w (CV M p (AM M.abs m ok).1 (.int .i64 (AM M.abs m ok).2) w):=by
 cases hn:((AK m.chan M.opens).map OS.l).getD [] with
 |nil=>exact RZ M p m w h hd hk hn ok
 |cons x l=>
  have hx:U32 x.1:=by
   cases e:AK m.chan M.opens with
   |none=>rw[e] at hn;cases hn
   |some o=>
    rw[e] at hn;have e2:o.l=x::l:=hn;exact hw _ (BN e) x (by rw[e2];simp)
  cases he:AK m.chan M.ends with
  |none=>exact SB M p m w h hd hk hn he hx ok
  |some z=>
   obtain⟨b,z⟩:=z;cases hc:z.closed with
   |true=>exact SD M p m w h hd hk hn he hc hx ok
   |false=>exact SA M p m w h hd hk (by rw[hn];simp) he hc ok
theorem VU (M:WM) (p:Nat) (m:MD) (i0:Int) (w:World) (h:WAt w p M) (hw: ∀x∈M.opens,∀y∈x.2.l,U32 y.1) (hp: ∀x∈M.ends,U32 x.2.2.packet) (hm:GC w (M.fp p) (IZ i0 m)):Calls Tryz.prog 10 #[AO p,m.val] w (CV M p (AM M.abs m (okEx m)).1 (.int .i64 (AM M.abs m (okEx m)).2) w):=by
 cases hd:M.dead with
 |true=>exact cJ M p m w h hd _
 |false=>
  by_cases h1:m.kind=1
  ·exact cK M p m w h hd h1 _
  by_cases h2:m.kind=81∨m.kind=82
  ·exact XP M p m w h hd h2 _
  by_cases h3:m.kind=91
  ·exact UQ M p m w h hd h3 hw _
  by_cases h4:m.kind=92
  ·cases hn:((AK m.chan M.opens).map OS.l).getD [] with
   |nil=>exact aG M p m w h hd h4 hn _
   |cons x l=>exact aH M p m w h hd h4 hn _
  have hk:OP m.kind:=⟨h1,fun e=>h2 (.inl e),fun e=>h2 (.inr e),h3,h4⟩;cases he:AK m.chan M.ends with
  |none=>exact hears_no M p m w h hd hk he _
  |some z=>
   obtain⟨b,z⟩:=z;exact hears_end M p m i0 w h hd hk he (hp _ (BN he)) hm
end Go.Proofs.YtkgikodiecmakaaGreatDoor
namespace Go.Proofs.YtkgikodiecmakaaGreatDoor
open Go.RowKit Go.MapKept Go.Maps Go.WideElems Go.WideShapes
def RN (v:Value):Option (DataW Unit×List MemPlace):=some (.nil,[])
def u32c (x:Int):List Value:=[.int .u32 x]
theorem keyOf_u (k:Int) (h:U32 k):keyOf Tryz.prog 33 (.int .u32 k)=some (.int .u32 k):=by
 have h1:Tryz.prog.underlying 33=some (.int .u32):=by kernel_rfl
 have h2:(Lit.int .u32 k).wf=true:=by
  unfold U32 at h;simp[Lit.wf,IntKind.min,IntKind.max,IntKind.signed,IntKind.bits];omega
 simp[keyOf,h1,mapKey,h2]
theorem own_map {w:World} {r:Nat} {es:List (Int×Value)} (hM:BM (kI .u32) w r es) (hU: ∀x∈es,U32 x.1) (hl:es.length≤1000000): ∃D:DataW Unit,w.ownsMap Tryz.prog 33 RN r es.length D∧(LT D).Perm (es.map (·.1))∧Maps.size D=es.length:=by
 obtain⟨a,clock,hb,he,hst⟩:=hM;have hsz:a.size=es.length:=by
  have:=congrArg List.length he;simpa using this
 have hin: ∀x∈a.toList,∃p∈es,x.key = .int .u32 p.1:=fun x hx=>by
  have h1:(x.key,x.val)∈a.toList.map (fun e=>(e.key,e.val)):=List.mem_map_of_mem hx;rw[he] at h1;obtain⟨p,hp,e⟩:=List.mem_map.1 h1;injection e with e1 e2;exact⟨p,hp,e1.symm⟩
 have hrd: ∀x∈a.toList,∃p∈es,x.key = .int .u32 p.1∧rd Tryz.prog 33 RN x=some (.int .u32 p.1,.nil):=fun x hx=>by
  obtain⟨p,hp,e⟩:=hin x hx;refine⟨p,hp,e,?_⟩;unfold rd;rw[e,keyOf_u p.1 (hU p hp)];rfl
 refine⟨_,⟨a,clock,hb,⟨by rw[hsz];unfold maxLen;omega,hst,fun x hx=>?_⟩,by omega,rfl⟩,?_,?_⟩
 ·obtain⟨p,_,_,h⟩:=hrd x hx;exact⟨_,h⟩
 ·show(((a.toList.map (rg Tryz.prog 33 RN)).foldr DataW.insert []).map fun p=>Go.intOf p.1).Perm _;refine((sorted_perm (a.toList.map (rg Tryz.prog 33 RN))).map _).trans ?_;rw[List.map_map];have e1:a.toList.map ((fun p:Lit×DataW Unit=>Go.intOf p.1) ∘ rg Tryz.prog 33 RN)=(a.toList.map fun e=>(e.key,e.val)).map fun v=>(match v.1 with | .int _ n=>n|_=>0):=by
   rw[List.map_map];refine List.map_congr_left fun x hx=>?_;obtain⟨p,_,e,h⟩:=hrd x hx;show Go.intOf (rg Tryz.prog 33 RN x).1=_;unfold rg;rw[h];show p.1=(match x.key with | .int _ n=>n|_=>0);rw[e]
  rw[e1,he,List.map_map];exact List.Perm.refl _
 ·show((a.toList.map (rg Tryz.prog 33 RN)).foldr DataW.insert []).length=_;rw[(sorted_perm (a.toList.map (rg Tryz.prog 33 RN))).length_eq,List.length_map];simpa using hsz
theorem keys_any (eb:Nat) (w:World):Calls Tryz.prog 25 #[.map (some eb)] w fun e w'=>e = .returned (.func (.func 42) #[] #[.pointer (some ⟨w.heap.size,0,none⟩)])∧w'=w.alloc (.cells #[.map (some eb)] 52):=
 (callsIn_wide (n:=1)).1 (Ku.keys_in Fence.wide 1 trivial rfl (some eb) w)
theorem dD (m:Nat):Ku.SortsIn Fence.wide m:=
 ⟨fun blk off cap ss W h1 h2 h3=>callsIn_wide.2 (Su.slices_Sort_int blk off cap ss W h1 h2 h3),fun p cap W=>callsIn_wide.2 (Su.Sort_int_nil p cap W)⟩
theorem dC (B eb:Nat) (es:List (Int×Value)) (w:World) (hB:w.cell? ⟨B,0,none⟩=some (.map (some eb))) (hM:BM (kI .u32) w eb es) (hU: ∀x∈es,U32 x.1) (hl:es.length≤1000000) :
  Calls Tryz.prog 24 #[.func (.func 42) #[] #[.pointer (some ⟨B,0,none⟩)]] w fun e w'=>∃(A:Option Addr) (cap:Nat),e = .returned (.slice A es.length cap)∧Only [] w w'∧BK u32c 33 1 w' w.heap.size (.slice A es.length cap) ((es.map (·.1)).mergeSort Go.leI):=by
 obtain⟨D,hown,hperm,hsize⟩:=own_map hM hU hl;have hBl:B<w.heap.size:=block_lt_of_cell hB;have hseq:=Ku.keys_gives (H:=Unit) Fence.wide 7 trivial rfl (by decide) B eb es.length D w hBl hB hown;have h:=Ku.sorted_in Fence.wide 10 trivial trivial trivial trivial rfl (by decide) (dD 9) (fun args w=>by kernel_rfl) 42 #[.pointer (some ⟨B,0,none⟩)] trivial (fun args w=>by kernel_rfl) (fun ss=>ss.Perm (LT D)) (Maps.size D) (by rw[hsize];unfold maxLen;omega) (by rw[hsize];omega) w hseq;refine((callsIn_wide (n:=10)).1 h).mono ?_;rintro e w' ⟨v,ss,rfl,hS,hrow,hnil,hb⟩;have hp2:ss.Perm (es.map (·.1)):=hS.trans hperm;have hlen:ss.length=es.length:=by have:=hp2.length_eq;simpa using this
 have hsort:=mergeSort_of_perm_i hp2;have hrow2:BK u32c 33 1 w' w.heap.size v ((es.map (·.1)).mergeSort Go.leI):=by
  unfold BK;rw[←hsort,List.length_mergeSort];have e:(ss.mergeSort Go.leI).flatMap u32c=(ss.mergeSort fun x y=>decide (x≤y)).map AJ:=by
   generalize (ss.mergeSort fun x y=>decide (x≤y))=l;induction l with
   |nil=>rfl
   |cons a l ih=>rw[List.flatMap_cons,ih];rfl
  rw[e];exact hrow
 obtain⟨A,cap,e,_,_,_,_⟩:=hrow2.form;rw[List.length_mergeSort,List.length_map] at e;subst e;exact⟨A,cap,rfl,UT hb,hrow2⟩
end Go.Proofs.YtkgikodiecmakaaGreatDoor
namespace Go.Proofs.YtkgikodiecmakaaGreatDoor
open Go.RowKit Go.MapKept
theorem AU (x:EN):x.cells.length=8:=rfl
theorem HZ (x:EN): ∀u∈x.cells,u.oneCell'=true:=by
 intro u hu;simp only[EN.cells,List.mem_cons,List.not_mem_nil,or_false] at hu;rcases hu with h|h|h|h|h|h|h|h<;>subst h<;>rfl
theorem XM:ElemT Tryz.prog 43 49 8 (Tryz.prog.bytesOf 49):=IN (z:=.agg #[.int .u32 0,.int .u64 0,.int .u64 0,.int .u32 0,.bool false,.bool false,.bool false,.int .i64 0]) (by kernel_rfl) (by kernel_rfl) (by decide) (by decide)
theorem elemU32:ElemT Tryz.prog 73 33 1 (Tryz.prog.bytesOf 33):=IN (z:=.int .u32 0) (by kernel_rfl) (by kernel_rfl) (by decide) (by decide)
theorem u32c_len (x:Int):(u32c x).length=1:=rfl
theorem by_te {n:Nat} (h:n≤1000000):(n+1)*Tryz.prog.bytesOf 49≤140737488355328:=by
 have e:Tryz.prog.bytesOf 49=40:=by kernel_rfl
 rw[e];omega
theorem new29_any (w:World):Calls Tryz.prog 7 #[] w fun e w'=>∃(p:Nat) (M:WM),e = .returned (AO p)∧Only [] w w'∧WAt w' p M∧M.abs=QV∧∀y∈M.fp p,y<w'.heap.size∧w.heap.size≤y:=by
 refine Hs.en Tryz.func7 [] [] [] [] (Mem.start0 w) ?_;refine Hs.e0 ?_;refine Hs.mkM (T:=51) (kI .u32) (by kernel_rfl) (by kernel_rfl) fun ob=>?_;refine Hs.mkM (T:=52) (kI .u32) (by kernel_rfl) (by kernel_rfl) fun eb=>?_;refine Hs.mkM (T:=53) (kI .u32) (by kernel_rfl) (by kernel_rfl) fun nb=>?_;refine Hs.e1 fun p=>?_;refine Hs.rt (v:=AO p) Tryz.func7 fun w' H=>?_;have H2:=H.sub [0,1,2,3] (by decide) (hp':=[HB.mp (kI .u32) ob [],HB.mp (kI .u32) eb [],HB.mp (kI .u32) nb [],.b true 55 [.v (.map (some ob)),.v (.int .i64 0),.v (.map (some eb)),.v (.map (some nb)),.v (.bool false)]]) (by kernel_rfl);obtain⟨hnd,hfr⟩:=H2.bks rfl;have hnd:[ob,eb,nb,p].Nodup:=hnd;refine⟨p,⟨ob,eb,nb,[],0,[],[],false⟩,rfl,H.only,⟨H2.at 3 (wr:=true) (T:=55) (cs:=[.v (.map (some ob)),.v (.int .i64 0),.v (.map (some eb)),.v (.map (some nb)),.v (.bool false)]) rfl,H2.mapM 0 (r:=ob) (ke:=kI .u32) (es:=([]:List (Int×Value))) rfl,H2.mapM 1 (r:=eb) (ke:=kI .u32) (es:=([]:List (Int×Value))) rfl,H2.mapM 2 (r:=nb) (ke:=kI .u32) (es:=([]:List (Int×Value))) rfl,by simp,by simp,?_,by simp[GD],by simp[GD],by simp[GD]⟩,rfl,fun y hy=>?_⟩
 ·simp only[WM.fp,fpA,List.flatMap_nil,List.append_nil];simp only[List.nodup_cons,List.mem_cons,List.not_mem_nil,or_false,not_or,List.nodup_nil,not_false_eq_true,and_true] at hnd⊢;exact⟨⟨fun e=>hnd.1.2.2 e.symm,fun e=>hnd.2.1.2 e.symm,fun e=>hnd.2.2 e.symm⟩,⟨hnd.1.1,hnd.1.2.1⟩,hnd.2.1.1⟩
 ·simp only[WM.fp,fpA,List.flatMap_nil,List.append_nil] at hy;have h1:y∈[ob,eb,nb,p]:=by
   simp only[List.mem_cons,List.not_mem_nil,or_false] at hy⊢;rcases hy with h|h|h|h;·exact .inr (.inr (.inr h))
   ·exact .inl h
   ·exact .inr (.inl h)
   ·exact .inr (.inr (.inl h))
  have:=hfr y h1;exact⟨this.2,this.1.resolve_left (by simp)⟩
theorem cG (M:WM) (p:Nat) (w:World) (hb:Blk w p 55 M.cells):Calls Tryz.prog 15 #[AO p] w fun e w'=>e = .returned (.bool M.dead)∧Only [] w w':=by
 refine Hs.en Tryz.func15 [] [p] [.b false 55 (wS M)] [.c (.p 0 0)] (Mem.rdOne w p hb) ?_;refine Hs.e0 ?_;refine Hs.eg [2] ?_;exact Hs.rt (v:=.bool M.dead) Tryz.func15 fun w' H=>⟨rfl,H.only⟩
theorem cell_box (w:World) (v:Value) (T:TypeId):(w.alloc (.cells #[v] T)).cell? ⟨w.heap.size,0,none⟩=some v:=by
 have h:Blk (w.alloc (.cells #[v] T)) w.heap.size T [v]:=heap_alloc_new w (.cells #[v] T);rw[h.cell];rfl
def KV (S:WS):List Int:=(S.ends.map (·.1)).mergeSort Go.leI
def zeroE:EN:=⟨0,0,0,0,false,false,false,0⟩
def CY (S:WS):List EN:=(KV S).map fun k=>(AK k S.ends).getD zeroE
theorem LP (S:WS):(CY S).length=S.ends.length:=by simp[CY,KV]
theorem MH {S:WS} {k:Int} (h:k∈KV S): ∃x,AK k S.ends=some x:=by
 have h2:k∈S.ends.map (·.1):=((List.mergeSort_perm _ _).mem_iff).1 h;cases e:AK k S.ends with
 |none=>exact absurd h2 (MN e)
 |some x=>exact⟨x,rfl⟩
theorem ZZ (M:WM) (p:Nat) (w:World) (h:WAt w p M) (hU: ∀x∈M.ends,U32 x.1) (hn:M.ends.length≤1000000):Calls Tryz.prog 12 #[AO p] w fun e w'=>∃A cap,e = .returned (.slice A M.ends.length cap)∧Only [] w w'∧BK EN.cells 49 8 w' w.heap.size (.slice A M.ends.length cap) (CY M.abs):=by
 have hb:=h.blk;have hme:=h.me;have hes:=h.es;have hlen:(CY M.abs).length=M.ends.length:=by rw[LP];simp[WM.abs,AQ]
 obtain⟨N,hN⟩: ∃N,M.ends.length=N:=⟨_,rfl⟩;have hKl:(KV M.abs).length=N:=by simp[KV,WM.abs,AQ,hN]
 have hsort: ∀(B:Nat) (w':World),w'.cell? ⟨B,0,none⟩=some (.map (some M.eb))→Only [] w w'→Calls Tryz.prog 24 #[.func (.func 42) #[] #[.pointer (some ⟨B,0,none⟩)]] w' fun e w2=>∃(A:Option Addr) (cap:Nat),e = .returned (.slice A N cap)∧Only [] w' w2∧BK u32c 33 1 w2 w'.heap.size (.slice A N cap) (KV M.abs):=fun B w' hB O=>by
  have:=dC B M.eb (AQ (fun x=>AO x.1) M.ends) w' hB (hme.only O (by simp)) (fun x hx=>by
   obtain⟨y,hy,rfl⟩:=List.mem_map.1 hx;exact hU y hy) (by simp[AQ];omega)
  have e1:(AQ (fun x=>AO x.1) M.ends).length=N:=by simp[AQ,hN]
  have e2:(AQ (fun x=>AO x.1) M.ends).map (·.1)=M.abs.ends.map (·.1):=by simp[WM.abs,AQ,Function.comp_def]
  rw[e1,e2] at this;exact this
 have hlook: ∀k∈KV M.abs,∃(b:Nat) (x:EN),BO k (AQ (fun x=>AO x.1) M.ends)=some (AO b)∧AK k M.abs.ends=some x∧Blk w b 49 x.cells:=fun k hk=>by
  obtain⟨x,hx⟩:=MH hk;have hx':=hx;unfold WM.abs at hx;dsimp only at hx;rw[EF] at hx;cases e:AK k M.ends with
  |none=>rw[e] at hx;cases hx
  |some z=>
   rw[e] at hx;injection hx with hx;refine⟨z.1,x,by rw[EV,e];rfl,hx',?_⟩;rw[←hx];exact hes _ (BN e)
 rw[hN] at hlen hn⊢;obtain⟨K,hK⟩: ∃K,KV M.abs=K:=⟨_,rfl⟩;obtain⟨E,hE⟩: ∃E,CY M.abs=E:=⟨_,rfl⟩;have hEK: ∀i k,K[i]? = some k→∃(b:Nat) (x:EN),BO k (AQ (fun x=>AO x.1) M.ends)=some (AO b)∧E[i]? = some x∧Blk w b 49 x.cells:=fun i k hk=>by
  obtain⟨b,x,h1,h2,h3⟩:=hlook k (by rw[hK];exact List.mem_of_getElem? hk);refine⟨b,x,h1,?_,h3⟩;rw[←hE];unfold CY;rw[hK,List.getElem?_map,hk];simp[h2]
 rw[hK] at hsort hKl;rw[hE] at hlen⊢;clear hlook hes hK hE h;obtain⟨ob,eb,nb,opens,glob,ends,nums,dead⟩:=M;dsimp only at *;refine Hs.en Tryz.func12 [] [p] [.b false 55 (wS ⟨ob,eb,nb,opens,glob,ends,nums,dead⟩)] [.c (.p 0 0)] (Mem.rdOne w p hb) ?_;refine Hs.e0 ?_;refine Hs.cF ?_;refine Hs.e0 ?_;refine Hs.callQ (X:=Nat) (fun r=>some ⟨r,0,none⟩) (fun r=>.func (.func 42) #[] #[.pointer (some ⟨r,0,none⟩)]) (fun r w'=>w'.cell? ⟨r,0,none⟩=some (.map (some eb))) (fun r w w' h1 h2 h=>(World.cell?_of_block (w:=w) (h1 _ rfl)).trans h) (fun w' H=>(keys_any eb w').mono fun e w2 ⟨h1,h2⟩=>⟨w'.heap.size,h1,by rw[h2];exact(Only.refl _ _).alloc _,by rw[h2];exact cell_box w' (.map (some eb)) 52,fun a ha=>by injection ha with ha;subst ha;rw[h2];exact⟨Nat.le_refl _,by simp⟩⟩) (by kernel_rfl) (by kernel_rfl) fun B=>?_;refine Hs.e0 ?_;refine Hs.callS (cf:=u32c) (E:=33) (size:=1) (fun A cap=>.slice A N cap) K N hKl (fun w' H=>hsort B w' (H.atQ 1 (wr:=true) (A:=some ⟨B,0,none⟩) (Q:=fun w'=>w'.cell? ⟨B,0,none⟩=some (.map (some eb))) (st:=fun w w' h1 h2 h=>(World.cell?_of_block (w:=w) (h1 _ rfl)).trans h) (by kernel_rfl)) H.only) (by kernel_rfl) (by kernel_rfl) fun kA kc hk1 hk2=>?_;refine Hs.e0 ?_;refine Hs.nilS 49 8 (by kernel_rfl) ?_ (by kernel_rfl);have J: ∀(d i:Nat) (pre rest:List EN),N-i=d→pre++rest=E→pre.length=i→∀(oA:Option Addr) (oc:Nat) (u:Nat→Value),Hs Tryz.prog 12 (fun e w'=>∃A cap,e = .returned (.slice A N cap)∧Only [] w w'∧BK EN.cells 49 8 w' w.heap.size (.slice A N cap) E) (Tryz.f12).ntmps w [] [p,0,0] ⟨.no,BP Tryz.f12 0,GV [(0,.c (.p 0 0)),(3,.c (.v (.slice oA i oc))),(13,.c (.v (.slice kA N kc))),(14,.c (.v (.int .i64 N))),(15,.c (.v (.int .i64 (i:Nat))))] (.vals u),[.b false 55 (wS ⟨ob,eb,nb,opens,glob,ends,nums,dead⟩),.s kA kc N 33 1 (K.flatMap u32c),.s oA oc i 49 8 (pre.flatMap EN.cells)]⟩:=by
  intro d;induction d with
  |zero=>
   intro i pre rest hd hE hp oA oc u;have hl:pre.length+rest.length=N:=by rw[←hlen,←hE,List.length_append]
   obtain rfl:i=N:=by omega
   have hr:rest=[]:=List.eq_nil_of_length_eq_zero (by omega);subst hr;rw[List.append_nil] at hE;subst hE;refine Hs.e0 ?_;refine Hs.cP ((i:Int)<(i:Int)) (fun h=>by omega) (fun _=>?_);refine Hs.e0 ?_;exact Hs.rt (v:=.slice oA i oc) Tryz.func12 fun w' H=>⟨oA,oc,rfl,H.only,H.fresh 2 hp (by kernel_rfl)⟩
  |succ d ih=>
   intro i pre rest hd hE hp oA oc u;have hl:pre.length+rest.length=N:=by rw[←hlen,←hE,List.length_append]
   have hi:i<N:=by omega
   cases rest with
   |nil=>simp at hl;omega
   |cons x rest=>
    obtain⟨k,hk⟩: ∃k,K[i]? = some k:=⟨_,List.getElem?_eq_getElem (by omega)⟩;obtain⟨b,x',hb1,hb2,hb3⟩:=hEK i k hk;have hx:x'=x:=by
     rw[←hE,List.getElem?_append_right (by omega),hp,Nat.sub_self] at hb2;simpa using hb2.symm
    subst hx;refine Hs.someS (A:=kA) (cap:=kc) (nl:=N) (E:=33) (size:=1) (vs:=K.flatMap u32c) 1 (by kernel_rfl) (by omega) fun g hA=>?_;have ih':=fun oA oc u=>ih (i+1) (pre++[x']) rest (by omega) (by simpa using hE) (by simp[hp]) oA oc u;clear ih;subst hA;refine Hs.e0 ?_;refine Hs.cP ((i:Int)<(N:Int)) (fun _=>?_) (fun h=>by omega);refine Hs.e0 ?_;refine Hs.idx (b:=g) (off:=0) (len:=N) (c:=kc) (i:=i) elemU32 hi (by kernel_rfl) ?_;refine Hs.e0 ?_;refine Hs.ldc (E':=33) (b:=g) (off:=0+i*1) (.int .u32 k) (by kernel_rfl) (fun w' H=>by
     have:=BW u32c_len (H.rdX (cf:=u32c) 1 hKl (A:=some ⟨g,0,none⟩) (cap:=kc) (E:=33) (size:=1) (by kernel_rfl)) (i:=i) (x:=k) hk (j:=0) (v:=.int .u32 k) rfl;simpa using this) (by kernel_rfl) ?_
    refine Hs.e0 ?_;refine Hs.getM (r:=eb) (es:=AQ (fun x=>AO x.1) ends) LW k false (AO b) (by rw[hb1];rfl) (by kernel_rfl) (fun w' H=>hme.only H.only (by simp)) ?_;refine Hs.e0 ?_;refine Hs.ldx (cf:=EN.cells) (size:=8) (E:=49) (b:=b) (off:=0) (i:=0) (l:=[x']) (x:=x') AU (.g x'.sc) (by kernel_rfl) (fun w' H _=>by
     have hB:Blk w' b 49 x'.cells:=Blk.only (L:=[]) hb3 H.only (by simp);exact⟨b,0,rfl,Blk.lt hB,fun j u hj=>by rw[hB.cell,Nat.zero_add];simpa using hj⟩) rfl (by kernel_rfl) (by kernel_rfl) rfl (by kernel_rfl) ?_
    refine Hs.e1 fun q=>?_;refine Hs.app (c:=1) (ty:=43) 2 XM pre [x'] i 1 hp rfl HZ AU (A:=oA) (B:=some ⟨q,0,none⟩) (cap:=oc) (by kernel_rfl) (by kernel_rfl) (by kernel_rfl) (fun w' H=>H.rdB (gs:=[x']) 3 (wr:=true) (T:=49) (cs:=x'.sc) (by kernel_rfl) rfl) (by unfold maxLen;omega) (by_te (by omega)) fun eA eC ho=>?_;refine Hs.e0 ?_;refine Hs.slot 15 (.c (.v (.int .i64 (i+1:Nat)))) rfl ((by kernel_rfl:_=Value.int .i64 (IntKind.i64.wrap ((i:Int)+1))).trans (congrArg (Value.int .i64) (by rw[IntWalk.i64_in _ (by omega)];rfl))) ?_;refine Hs.lP ?_;exact Hs.goto (BP Tryz.f12 0) [0,1,2] [.b false 55 (wS ⟨ob,eb,nb,opens,glob,ends,nums,dead⟩),.s (some ⟨g,0,none⟩) kc N 33 1 (K.flatMap u32c),.s eA eC (i+1) 49 8 ((pre++[x']).flatMap EN.cells)] [(0,.c (.p 0 0)),(3,.c (.v (.slice eA (i+1) eC))),(13,.c (.v (.slice (some ⟨g,0,none⟩) N kc))),(14,.c (.v (.int .i64 N))),(15,.c (.v (.int .i64 (i+1:Nat))))] (by kernel_rfl) (by decide) (by kernel_rfl) (by kernel_rfl) (fun _=>(by kernel_rfl)) (fun u=>ih' eA eC u)
 refine Hs.lP ?_;exact Hs.goto (BP Tryz.f12 0) [0,2,3] [.b false 55 (wS ⟨ob,eb,nb,opens,glob,ends,nums,dead⟩),.s kA kc N 33 1 (K.flatMap u32c),.s none 0 0 49 8 []] [(0,.c (.p 0 0)),(3,.c (.v (.slice none 0 0))),(13,.c (.v (.slice kA N kc))),(14,.c (.v (.int .i64 N))),(15,.c (.v (.int .i64 (0:Nat))))] (by kernel_rfl) (by decide) (by kernel_rfl) (by kernel_rfl) (fun _=>(by kernel_rfl)) (fun u=>J N 0 [] E (by omega) rfl rfl none 0 u)
end Go.Proofs.YtkgikodiecmakaaGreatDoor
namespace Go.Proofs.YtkgikodiecmakaaGreatDoor
open Go.RowKit Go.MapKept
structure LN where
  mine : Bool
  m : MD
def LN.row (x:LN):List Value:=.bool x.mine::x.m.cells
def LN.sc (x:LN):List SC:=.v (.bool x.mine)::mdS x.m
theorem LN_len (x:LN):x.row.length=11:=rfl
theorem elemLn:ElemT Tryz.prog 22 38 11 (Tryz.prog.bytesOf 38):=IN (z:=.agg #[.bool false,.int .i64 0,.int .u32 0,.int .u32 0,.int .u32 0,.int .u32 0,.int .u32 0,.string ⟨#[]⟩,.string ⟨#[]⟩,.bool false,.slice none 0 0]) (by kernel_rfl) (by kernel_rfl) (by decide) (by decide)
theorem EC:ElemT Tryz.prog 29 61 8 (Tryz.prog.bytesOf 61):=IN (z:=.agg #[.int .u32 0,.int .u64 0,.int .u64 0,.int .u32 0,.bool false,.bool false,.bool false,.int .i64 0]) (by kernel_rfl) (by kernel_rfl) (by decide) (by decide)
theorem by_re {n:Nat} (h:n≤1000000):(n+1)*Tryz.prog.bytesOf 61≤140737488355328:=by
 have e:Tryz.prog.bytesOf 61=40:=by kernel_rfl
 rw[e];omega
theorem DV {i n:Nat} (hn:n≤maxLen) (h:i<n:=by assumption):Value.int .i64 (IntKind.i64.wrap ((i:Int)+1))=(SV.c (.v (.int .i64 (i+1:Nat)))).den []:=by
 show Value.int .i64 _=Value.int .i64 _;rw[IntWalk.i64_in _ (by unfold maxLen at hn;omega)];rfl
theorem UW (m:MD) (w:World):Calls Tryz.prog 16 #[m.val] w fun e w'=>∃b:Bool,e = .returned (.bool b)∧Only [] w w'∧(b=false→m.data.length≤100000):=by
 refine Hs.en Tryz.func16 [] [] [] [.g (mdS m)] (Mem.start0 w) ?_;refine Hs.e1 fun b0=>?_;refine Hs.bool 7 (decide ((m.data.length:Int)>100000)) (by kernel_rfl) (fun h=>?_) (fun h=>?_)
 ·refine Hs.rung0 [4,10] 300 (fun _=>(by kernel_rfl)) ?_;exact Hs.rt (v:=.bool true) Tryz.func16 fun w' H=>⟨true,rfl,H.only,fun h=>by cases h⟩
 have h:=of_decide_eq_false h;refine Hs.rung0 [4] 300 (fun _=>(by kernel_rfl)) ?_;refine Hs.bool 13 (decide ((m.name.size:Int)>10000)) (by kernel_rfl) (fun h2=>?_) (fun h2=>?_)
 ·refine Hs.rung0 [10] 300 (fun _=>(by kernel_rfl)) ?_;exact Hs.rt (v:=.bool true) Tryz.func16 fun w' H=>⟨true,rfl,H.only,fun h=>by cases h⟩
 ·refine Hs.rung0 [10] 300 (fun _=>(by kernel_rfl)) ?_;exact Hs.rt (v:=.bool (decide ((m.lang.size:Int)>10000))) Tryz.func16 fun w' H=>⟨_,rfl,H.only,fun _=>by omega⟩
structure Few29 (l : List LN) : Prop where
  len : l.length ≤ 100
  each : ∀ x ∈ l, x.m.data.length ≤ 100000
theorem aE (l:List LN) (A:Option Addr) (c:Nat) (w:World) (hr:RdX LN.row w A l) (hlen:l.length≤maxLen):Calls Tryz.prog 6 #[.slice A l.length c] w fun e w'=>∃b:Bool,e = .returned (.bool b)∧Only [] w w'∧(b=false→Few29 l):=by
 refine Hs.en Tryz.func6 [] [] [] [.c (.v (.slice A l.length c))] (Mem.start0 w) ?_;have J: ∀(d i:Nat),l.length-i=d→i≤l.length→(∀(j:Nat) (o:LN),j<i→l[j]? = some o→o.m.data.length≤100000)→∀(z:Int) (u:Nat→Value),Hs Tryz.prog 6 (fun e w'=>∃b:Bool,e = .returned (.bool b)∧Only [] w w'∧(b=false→Few29 l)) (Tryz.f6).ntmps w [] [] ⟨.no,BP Tryz.f6 0,GV [(0,.c (.v (.slice A l.length c))),(3,.c (.v (.int .i64 z))),(6,.c (.v (.slice A l.length c))),(7,.c (.v (.int .i64 l.length))),(8,.c (.v (.int .i64 (i:Nat))))] (.vals u),[]⟩:=by
  intro d;induction d with
  |zero=>
   intro i hd hi hall z u;refine Hs.e0 ?_;refine Hs.cP ((i:Int)<(l.length:Int)) (fun h=>by omega) (fun h=>?_);refine Hs.e0 ?_;refine Hs.bool 26 (decide ((l.length:Int)>100)) (by kernel_rfl) (fun h1=>?_) (fun h1=>?_)
   ·refine Hs.rung0 [3] 300 (fun _=>(by kernel_rfl)) ?_;exact Hs.rt (v:=.bool true) Tryz.func6 fun w' H=>⟨true,rfl,H.only,fun h=>by cases h⟩
   have h1:=of_decide_eq_false h1;refine Hs.rung0 [3] 300 (fun _=>(by kernel_rfl)) ?_;exact Hs.rt (v:=.bool (decide (z>300000))) Tryz.func6 fun w' H=>⟨_,rfl,H.only,fun _=>⟨by omega,fun o ho=>by
    obtain⟨j,hj⟩:=List.mem_iff_getElem?.1 ho;exact hall j o (by have:=(List.getElem?_eq_some_iff.1 hj).1;omega) hj⟩⟩
  |succ d ih=>
   intro i hd hi hall z u;have hil:i<l.length:=by omega
   obtain⟨o,hx⟩: ∃o,l[i]? = some o:=⟨_,List.getElem?_eq_getElem hil⟩;obtain⟨b,off,hA,_,_⟩:=hr (by omega);subst hA;refine Hs.e0 ?_;refine Hs.cP ((i:Int)<(l.length:Int)) (fun h=>?_) (fun h=>by omega);refine Hs.e0 ?_;refine Hs.idx (b:=b) (off:=off) (c:=c) elemLn hil (by kernel_rfl) ?_;refine Hs.ldx (E:=38) (b:=b) (off:=off) (i:=i) LN_len (.g o.sc) (by kernel_rfl) (fun w' H=>hr.only H.only) hx (by kernel_rfl) (by kernel_rfl) (by kernel_rfl) (by kernel_rfl) ?_;refine Hs.e1 fun b1=>?_;refine Hs.callX (X:=Bool) (fun b=>.bool b) (fun b=>b=false→o.m.data.length≤100000) (fun w' H=>UW o.m w') (by kernel_rfl) fun g hg=>?_;refine Hs.e0 ?_;refine Hs.cn g (fun h1=>?_) (fun h1=>?_)
   ·refine Hs.e0 ?_;exact Hs.rt (v:=.bool true) Tryz.func6 fun w' H=>⟨true,rfl,H.only,fun h=>by cases h⟩
   ·refine Hs.e0 ?_;refine Hs.slot 8 (.c (.v (.int .i64 (i+1:Nat)))) rfl ((by kernel_rfl:_=Value.int .i64 (IntKind.i64.wrap ((i:Int)+1))).trans (DV hlen)) ?_;refine Hs.lP ?_;exact Hs.goto (BP Tryz.f6 0) [] [] [(0,.c (.v (.slice (some ⟨b,off,none⟩) l.length c))),(3,.c (.v (.int .i64 (IntKind.i64.wrap (z+(if(100000:Int)<(o.m.data.length:Int) then 100000 else(o.m.data.length:Int))))))),(6,.c (.v (.slice (some ⟨b,off,none⟩) l.length c))),(7,.c (.v (.int .i64 l.length))),(8,.c (.v (.int .i64 (i+1:Nat))))] (by kernel_rfl) (by decide) (by kernel_rfl) (by kernel_rfl) (fun _=>(by kernel_rfl)) (fun u=>ih (i+1) (by omega) (by omega) (fun j o' hj ho'=>by
     rcases Nat.lt_or_ge j i with h2|h2;·exact hall j o' h2 ho'
     ·obtain rfl:j=i:=by omega
      rw[hx] at ho';injection ho' with ho';subst ho';exact hg h1) _ u)
 refine Hs.e0 ?_;refine Hs.lP ?_;exact Hs.goto (BP Tryz.f6 0) [] [] [(0,.c (.v (.slice A l.length c))),(3,.c (.v (.int .i64 0))),(6,.c (.v (.slice A l.length c))),(7,.c (.v (.int .i64 l.length))),(8,.c (.v (.int .i64 (0:Nat))))] (by kernel_rfl) (by decide) (by kernel_rfl) (by kernel_rfl) (fun _=>(by kernel_rfl)) (fun u=>J _ 0 rfl (by omega) (fun j o hj=>by omega) 0 u)
theorem RK (l:List EN) (N:Nat) (hl:l.length=N) (A:Option Addr) (c:Nat) (w:World) (hr:RdX EN.cells w A l) (hlen:N≤1000000):Calls Tryz.prog 14 #[.slice A N c] w fun e w'=>∃A' c',e = .returned (.slice A' N c')∧Only [] w w'∧BK EN.cells 61 8 w' w.heap.size (.slice A' N c') l:=by
 refine Hs.en Tryz.func14 [] [] [] [.c (.v (.slice A N c))] (Mem.start0 w) ?_;refine Hs.e0 ?_;refine Hs.nilS 61 8 (by kernel_rfl) ?_ (by kernel_rfl);have J: ∀(d i:Nat) (pre rest:List EN),N-i=d→pre++rest=l→pre.length=i→∀(oA:Option Addr) (oc:Nat) (u:Nat→Value),Hs Tryz.prog 14 (fun e w'=>∃A' c',e = .returned (.slice A' N c')∧Only [] w w'∧BK EN.cells 61 8 w' w.heap.size (.slice A' N c') l) (Tryz.f14).ntmps w [] [0] ⟨.no,BP Tryz.f14 0,GV [(3,.c (.v (.slice oA i oc))),(6,.c (.v (.slice A N c))),(7,.c (.v (.int .i64 N))),(8,.c (.v (.int .i64 (i:Nat))))] (.vals u),[.s oA oc i 61 8 (pre.flatMap EN.cells)]⟩:=by
  intro d;induction d with
  |zero=>
   intro i pre rest hd hE hp oA oc u;have hl2:pre.length+rest.length=N:=by rw[←hl,←hE,List.length_append]
   obtain rfl:i=N:=by omega
   have hr0:rest=[]:=List.eq_nil_of_length_eq_zero (by omega);subst hr0;rw[List.append_nil] at hE;subst hE;refine Hs.e0 ?_;refine Hs.cP ((i:Int)<(i:Int)) (fun h=>by omega) (fun _=>?_);refine Hs.e0 ?_;exact Hs.rt (v:=.slice oA i oc) Tryz.func14 fun w' H=>⟨oA,oc,rfl,H.only,H.fresh 0 hp (by kernel_rfl)⟩
  |succ d ih=>
   intro i pre rest hd hE hp oA oc u;have hl2:pre.length+rest.length=N:=by rw[←hl,←hE,List.length_append]
   have hi:i<N:=by omega
   cases rest with
   |nil=>simp at hl2;omega
   |cons x rest=>
    have hx:l[i]? = some x:=by rw[←hE,List.getElem?_append_right (by omega),hp,Nat.sub_self];rfl
    obtain⟨b,off,hA,_,_⟩:=hr (by omega);have ih':=fun oA oc u=>ih (i+1) (pre++[x]) rest (by omega) (by simpa using hE) (by simp[hp]) oA oc u;clear ih;subst hA;refine Hs.e0 ?_;refine Hs.cP ((i:Int)<(N:Int)) (fun _=>?_) (fun h=>by omega);refine Hs.e0 ?_;refine Hs.idx (b:=b) (off:=off) (len:=N) (c:=c) (i:=i) XM hi (by kernel_rfl) ?_;refine Hs.ldx (E:=49) (b:=b) (off:=off) (i:=i) AU (.g x.sc) (by kernel_rfl) (fun w' H=>hr.only H.only) hx (by kernel_rfl) (by kernel_rfl) (by kernel_rfl) (by kernel_rfl) ?_;refine Hs.e2 fun b1 q=>?_;refine Hs.app (c:=1) (ty:=29) 0 EC pre [x] i 1 hp rfl HZ AU (A:=oA) (B:=some ⟨q,0,none⟩) (cap:=oc) (by kernel_rfl) (by kernel_rfl) (by kernel_rfl) (fun w' H=>H.rdB (gs:=[x]) 2 (wr:=true) (T:=61) (cs:=x.sc) (by kernel_rfl) rfl) (by unfold maxLen;omega) (by_re (by omega)) fun eA eC ho=>?_;refine Hs.e0 ?_;refine Hs.slot 8 (.c (.v (.int .i64 (i+1:Nat)))) rfl ((by kernel_rfl:_=Value.int .i64 (IntKind.i64.wrap ((i:Int)+1))).trans (DV (n:=N) (by unfold maxLen;omega))) ?_;refine Hs.lP ?_;exact Hs.goto (BP Tryz.f14 0) [0] [.s eA eC (i+1) 61 8 ((pre++[x]).flatMap EN.cells)] [(3,.c (.v (.slice eA (i+1) eC))),(6,.c (.v (.slice (some ⟨b,off,none⟩) N c))),(7,.c (.v (.int .i64 N))),(8,.c (.v (.int .i64 (i+1:Nat))))] (by kernel_rfl) (by decide) (by kernel_rfl) (by kernel_rfl) (fun _=>(by kernel_rfl)) (fun u=>ih' eA eC u)
 refine Hs.lP ?_;exact Hs.goto (BP Tryz.f14 0) [0] [.s none 0 0 61 8 []] [(3,.c (.v (.slice none 0 0))),(6,.c (.v (.slice A N c))),(7,.c (.v (.int .i64 N))),(8,.c (.v (.int .i64 (0:Nat))))] (by kernel_rfl) (by decide) (by kernel_rfl) (by kernel_rfl) (fun _=>(by kernel_rfl)) (fun u=>J N 0 [] l (by omega) rfl rfl none 0 u)
theorem TU (l:List EN) (N:Nat) (hl:l.length=N) (A B:Option Addr) (ca cb:Nat) (w:World) (ha:RdX EN.cells w A l) (hb:RdX EN.cells w B l) (hlen:N≤maxLen):Calls Tryz.prog 13 #[.slice A N ca,.slice B N cb] w fun e w'=>e = .returned (.bool true)∧Only [] w w':=by
 refine Hs.en Tryz.func13 [] [] [] [.c (.v (.slice A N ca)),.c (.v (.slice B N cb))] (Mem.start0 w) ?_;have J: ∀(d i:Nat),N-i=d→i≤N→∀(u:Nat→Value),Hs Tryz.prog 13 (fun e w'=>e = .returned (.bool true)∧Only [] w w') (Tryz.f13).ntmps w [] [] ⟨.no,BP Tryz.f13 0,GV [(0,.c (.v (.slice A N ca))),(1,.c (.v (.slice B N cb))),(12,.c (.v (.int .i64 N))),(13,.c (.v (.int .i64 (i:Nat))))] (.vals u),[]⟩:=by
  intro d;induction d with
  |zero=>
   intro i hd hi u;refine Hs.e0 ?_;refine Hs.cP ((i:Int)<(N:Int)) (fun h=>by omega) (fun h=>?_);refine Hs.e0 ?_;exact Hs.rt (v:=.bool true) Tryz.func13 fun w' H=>⟨rfl,H.only⟩
  |succ d ih=>
   intro i hd hi u;have hil:i<N:=by omega
   obtain⟨x,hx⟩: ∃x,l[i]? = some x:=⟨_,List.getElem?_eq_getElem (by omega)⟩;obtain⟨ab,aoff,hA,_,_⟩:=ha (by omega);obtain⟨bb,boff,hB,_,_⟩:=hb (by omega);subst hA;subst hB;obtain⟨xc,xg,xs,xp,xe,xd,xt,xw⟩:=x;refine Hs.e0 ?_;refine Hs.cP ((i:Int)<(N:Int)) (fun h=>?_) (fun h=>by omega);refine Hs.e0 ?_;refine Hs.any [] (by kernel_rfl) ?_;refine Hs.e0 ?_;refine Hs.takeIdx (rd:=[]) 2 EC (b:=ab) (off:=aoff) (c:=ca) (len:=N) (i:=i) hil (by kernel_rfl) ?_;refine Hs.takeIdx (rd:=[]) 6 EC (b:=bb) (off:=boff) (c:=cb) (len:=N) (i:=i) hil (by kernel_rfl) ?_;refine Hs.branch2 3 7 (by kernel_rfl) ?_ ?_
   ·refine Hs.ldx (E:=61) (b:=ab) (off:=aoff) (i:=i) (x:=⟨xc,xg,xs,xp,xe,xd,xt,xw⟩) AU (.g (EN.sc ⟨xc,xg,xs,xp,xe,xd,xt,xw⟩)) (by kernel_rfl) (fun w' H=>ha.only H.only) hx (by kernel_rfl) (by kernel_rfl) (by kernel_rfl) (by kernel_rfl) ?_;refine Hs.e0 ?_;refine Hs.ldx (E:=61) (b:=bb) (off:=boff) (i:=i) (x:=⟨xc,xg,xs,xp,xe,xd,xt,xw⟩) AU (.g (EN.sc ⟨xc,xg,xs,xp,xe,xd,xt,xw⟩)) (by kernel_rfl) (fun w' H=>hb.only H.only) hx (by kernel_rfl) (by kernel_rfl) (by kernel_rfl) (by kernel_rfl) ?_;refine Hs.branch [8] (by kernel_rfl) (by simp) fun k hk=>?_;obtain rfl:=List.mem_singleton.1 hk;clear hk;refine Hs.same (op:=.neq) (T:=61) #[.int .u32 xc,.int .u64 xg,.int .u64 xs,.int .u32 xp,.bool xe,.bool xd,.bool xt,.int .i64 xw] false (by kernel_rfl) (.inr ⟨rfl,rfl⟩) (by kernel_rfl) ?_;refine Hs.e0 ?_;refine Hs.cF ?_;refine Hs.e0 ?_;refine Hs.slot 13 (.c (.v (.int .i64 (i+1:Nat)))) rfl ((by kernel_rfl:_=Value.int .i64 (IntKind.i64.wrap ((i:Int)+1))).trans (DV hlen)) ?_;refine Hs.lP ?_;exact Hs.goto (BP Tryz.f13 0) [] [] [(0,.c (.v (.slice (some ⟨ab,aoff,none⟩) N ca))),(1,.c (.v (.slice (some ⟨bb,boff,none⟩) N cb))),(12,.c (.v (.int .i64 N))),(13,.c (.v (.int .i64 (i+1:Nat))))] (by kernel_rfl) (by decide) (by kernel_rfl) (by kernel_rfl) (fun _=>(by kernel_rfl)) (fun u=>ih (i+1) (by omega) (by omega) u)
   ·refine Hs.ldx (E:=61) (b:=bb) (off:=boff) (i:=i) (x:=⟨xc,xg,xs,xp,xe,xd,xt,xw⟩) AU (.g (EN.sc ⟨xc,xg,xs,xp,xe,xd,xt,xw⟩)) (by kernel_rfl) (fun w' H=>hb.only H.only) hx (by kernel_rfl) (by kernel_rfl) (by kernel_rfl) (by kernel_rfl) ?_;refine Hs.e0 ?_;refine Hs.ldx (E:=61) (b:=ab) (off:=aoff) (i:=i) (x:=⟨xc,xg,xs,xp,xe,xd,xt,xw⟩) AU (.g (EN.sc ⟨xc,xg,xs,xp,xe,xd,xt,xw⟩)) (by kernel_rfl) (fun w' H=>ha.only H.only) hx (by kernel_rfl) (by kernel_rfl) (by kernel_rfl) (by kernel_rfl) ?_;refine Hs.branch [8] (by kernel_rfl) (by simp) fun k hk=>?_;obtain rfl:=List.mem_singleton.1 hk;clear hk;refine Hs.same (op:=.neq) (T:=61) #[.int .u32 xc,.int .u64 xg,.int .u64 xs,.int .u32 xp,.bool xe,.bool xd,.bool xt,.int .i64 xw] false (by kernel_rfl) (.inr ⟨rfl,rfl⟩) (by kernel_rfl) ?_;refine Hs.e0 ?_;refine Hs.cF ?_;refine Hs.e0 ?_;refine Hs.slot 13 (.c (.v (.int .i64 (i+1:Nat)))) rfl ((by kernel_rfl:_=Value.int .i64 (IntKind.i64.wrap ((i:Int)+1))).trans (DV hlen)) ?_;refine Hs.lP ?_;exact Hs.goto (BP Tryz.f13 0) [] [] [(0,.c (.v (.slice (some ⟨ab,aoff,none⟩) N ca))),(1,.c (.v (.slice (some ⟨bb,boff,none⟩) N cb))),(12,.c (.v (.int .i64 N))),(13,.c (.v (.int .i64 (i+1:Nat))))] (by kernel_rfl) (by decide) (by kernel_rfl) (by kernel_rfl) (fun _=>(by kernel_rfl)) (fun u=>ih (i+1) (by omega) (by omega) u)
 refine Hs.e0 ?_;refine Hs.cn ((N:Int)!=(N:Int)) (fun h=>by simp at h) (fun _=>?_);refine Hs.e0 ?_;refine Hs.lP ?_;exact Hs.goto (BP Tryz.f13 0) [] [] [(0,.c (.v (.slice A N ca))),(1,.c (.v (.slice B N cb))),(12,.c (.v (.int .i64 N))),(13,.c (.v (.int .i64 (0:Nat))))] (by kernel_rfl) (by decide) (by kernel_rfl) (by kernel_rfl) (fun _=>(by kernel_rfl)) (fun u=>J _ 0 rfl (by omega) u)
theorem hears_nil (m:MD) (w:World):Calls Tryz.prog 10 #[.pointer none,m.val] w fun e w'=>e = .returned (.int .i64 1)∧Only [] w w':=by
 refine Hs.en Tryz.func10 [] [] [] [.c (.v (.pointer none)),.g (mdS m)] (Mem.start0 w) ?_;refine Hs.e1 fun b0=>?_;refine Hs.cT ?_;refine Hs.e0 ?_;exact Hs.rt (v:=.int .i64 1) Tryz.func10 fun w' H=>⟨rfl,H.only⟩
end Go.Proofs.YtkgikodiecmakaaGreatDoor
namespace Go.Proofs.YtkgikodiecmakaaGreatDoor
open Go.RowKit Go.MapKept
def OK (c:Nat) (k:Int) (x:EN):Prop:=U32 k∧x.chan=k∧U32 x.packet∧0≤x.sent∧x.sent≤x.granted∧x.granted≤(c:Int)*4294967295∧0≤x.wants∧x.wants≤c
structure Inv29 (c : Nat) (S : WS) : Prop where
  op : ∀ p ∈ S.opens, (∀ y ∈ p.2, U32 y.1 ∧ U32 y.2) ∧ p.2.length ≤ c
  en : ∀ p ∈ S.ends, OK c p.1 p.2
  ke : GD S.ends
  le : S.ends.length ≤ c
theorem inv29_new:Inv29 0 QV:=⟨by simp[QV],by simp[QV],by simp[QV,GD],by simp[QV]⟩
theorem OK.up {c:Nat} {k:Int} {x:EN} (h:OK c k x):OK (c+1) k x:=by
 unfold OK at *;push_cast
 obtain⟨h1,h2,h3,h4,h5,h6,h7,h8⟩:=h;exact⟨h1,h2,h3,h4,h5,by omega,h7,by omega⟩
theorem Inv29.up {c:Nat} {S:WS} (h:Inv29 c S):Inv29 (c+1) S:=⟨fun p hp=>⟨(h.op p hp).1,by have:=(h.op p hp).2;omega⟩,fun p hp=>(h.en p hp).up,h.ke,by have:=h.le;omega⟩
theorem TZ {α:Type} {k:Int} {v:α}: ∀{l:List (Int×α)},(BH k v l).length≤l.length+1∧((AK k l).isSome=true→(BH k v l).length=l.length)
 |[]=>by simp[BH,AK]
 |p::l=>by
  have ih:=TZ (k:=k) (v:=v) (l:=l);unfold BH AK;split;·simp
  ·simp only[List.length_cons];exact⟨by omega,fun h=>by rw[ih.2 h]⟩
theorem Inv29.setE {c:Nat} {S:WS} (h:Inv29 c S) {k:Int} {x x':EN} (hk:AK k S.ends=some x) (hx:OK (c+1) k x'):Inv29 (c+1) { S with ends:=BH k x' S.ends }:=
 ⟨fun p hp=>⟨(h.op p hp).1,by have:=(h.op p hp).2;omega⟩,fun p hp=>by
  rcases h.ke.other hp with rfl|⟨h1,_⟩;·exact hx
  ·exact(h.en p h1).up,h.ke.set,by have:=(TZ (k:=k) (v:=x') (l:=S.ends)).2 (by rw[hk];rfl);have:=h.le;show(BH k x' S.ends).length≤c+1;omega⟩
theorem ZV {S:WS} {n k:Int} {x:EN} (h:byS S n=some (k,x)):AK k S.ends=some x:=by
 unfold byS at h;split at h;·cases h
 ·rename_i k' _;cases e:AK k' S.ends with
  |none=>rw[e] at h;cases h
  |some y=>
   rw[e] at h;injection h with h;injection h with h1 h2;subst h1;subst h2;exact e
theorem b01_le (b:Bool):0≤b01 b∧b01 b≤1:=by cases b<;>decide
theorem cL {c:Nat} {S:WS} (h:Inv29 c S) (hc:c≤1000) {m:MD} (hw:U32 m.window) (hp:U32 m.packet):Inv29 (c+1) (CT S m):=by
 unfold CT;split
 ·refine⟨fun p hp2=>?_,fun p hp2=>(h.en p hp2).up,h.ke,by have:=h.le;show S.ends.length≤c+1;omega⟩;rcases NT hp2 with rfl|h1
  ·cases e:AK m.sender S.opens with
   |none=>exact⟨fun y hy=>by simp at hy;subst hy;exact⟨hw,hp⟩,by simp⟩
   |some l=>
    have h2:=h.op _ (BN e);refine⟨fun y hy=>?_,?_⟩
    ·simp only[Option.getD_some,List.mem_append,List.mem_singleton] at hy;rcases hy with hy|rfl;·exact h2.1 y hy
     ·exact⟨hw,hp⟩
    ·have:=h2.2;simp only[Option.getD_some,List.length_append,List.length_cons,List.length_nil];dsimp only at this;omega
  ·exact⟨(h.op p h1).1,by have:=(h.op p h1).2;omega⟩
 split;·exact⟨h.up.op,h.up.en,h.ke,h.up.le⟩
 split
 ·split;·exact h.up
  ·rename_i k x e;have hl:=ZV e;refine h.setE hl ?_;obtain⟨h1,h2,h3,h4,h5,h6,h7,h8⟩:=h.en _ (BN hl);dsimp only at *;unfold U32 at hw;have hwr:IntKind.u64.wrap (x.granted+m.window)=x.granted+m.window:=by rw[IntKind.wrap_u64];omega
   unfold OK;dsimp only;rw[hwr];push_cast
   exact⟨h1,h2,h3,h4,by omega,by omega,h7,by omega⟩
 split
 ·split;·exact h.up
  ·rename_i k x e;have hl:=ZV e;refine h.setE hl ?_;obtain⟨h1,h2,h3,h4,h5,h6,h7,h8⟩:=h.en _ (BN hl);dsimp only at *;have hb:=b01_le m.want;have hwr:IntKind.i64.wrap (x.wants+b01 m.want)=x.wants+b01 m.want:=IntWalk.i64_in _ (by omega);unfold OK;dsimp only;rw[hwr];push_cast
   exact⟨h1,h2,h3,h4,h5,by omega,by omega,by omega⟩
 ·exact h.up
theorem endS_ok {c:Nat} {k:Int} {x:EN} (h:OK c k x) (hc:c≤1000) (m:MD) (hl:m.data.length≤140737488355000) (ok:Bool):OK (c+1) k (GO x m ok).1:=by
 have hu:=h.up;unfold GO;split
 ·split;·exact hu
  split;·exact hu
  ·rename_i h1;obtain⟨g1,g2,g3,g4,g5,g6,g7,g8⟩:=h;have e1:IntKind.u64.wrap (x.granted-x.sent)=x.granted-x.sent:=by rw[IntKind.wrap_u64];omega
   rw[e1] at h1;have e2:IntKind.u64.wrap (x.sent+m.data.length)=x.sent+m.data.length:=by rw[IntKind.wrap_u64];omega
   unfold OK;dsimp only;rw[e2];push_cast
   exact⟨g1,g2,g3,by omega,by omega,by omega,g7,by omega⟩
 split;·exact hu
 split
 ·split;·exact hu
  ·exact hu
 split;·exact hu
 split
 ·split;·exact hu
  split;·exact hu
  ·exact hu
 split;·exact hu
 ·rename_i h1;obtain⟨g1,g2,g3,g4,g5,g6,g7,g8⟩:=h;have e1:IntKind.i64.wrap (x.wants-1)=x.wants-1:=IntWalk.i64_in _ (by omega);unfold OK;dsimp only;rw[e1];push_cast
  exact⟨g1,g2,g3,g4,g5,by omega,by omega,by omega⟩
theorem aK {c:Nat} {S:WS} (h:Inv29 c S) (hc:c≤1000) {m:MD} (hm:U32 m.chan) (hl:m.data.length≤140737488355000) (ok:Bool):Inv29 (c+1) (AM S m ok).1:=by
 have hop: ∀{o l},GJ S m.chan=some (o,l)→(U32 o.1∧U32 o.2)∧∀p∈BH m.chan l S.opens,(∀y∈p.2,U32 y.1∧U32 y.2)∧p.2.length≤c+1:=fun {o l} e=>by
  unfold GJ at e;split at e
  ·rename_i o' l' e2;injection e with e;injection e with h1 h2;subst h1;subst h2;have h2:=h.op _ (BN e2);refine⟨h2.1 _ (by simp),fun p hp=>?_⟩;rcases NT hp with rfl|h3;·exact⟨fun y hy=>h2.1 y (by simp[hy]),by have:=h2.2;simp only[List.length_cons] at this;dsimp only;omega⟩
   ·exact⟨(h.op p h3).1,by have:=(h.op p h3).2;omega⟩
  ·cases e
 unfold AM;split;·exact h.up
 split;·exact⟨h.up.op,h.up.en,h.ke,h.up.le⟩
 split
 ·split;·exact h.up
  ·exact⟨h.up.op,h.up.en,h.ke,h.up.le⟩
 split
 ·cases e:GJ S m.chan with
  |none=>exact h.up
  |some z=>
   obtain⟨o,l⟩:=z;show Inv29 (c+1) (if WI S m.chan=true then(S,9) else({ S with opens:=BH m.chan l S.opens,ends:=BH m.chan (LU m.chan o) S.ends,nums:=BH m.sender m.chan S.nums },0)).1;by_cases hq:WI S m.chan=true
   ·rw[if_pos hq];exact h.up
   ·rw[if_neg hq];obtain⟨h1,h2⟩:=hop e;refine⟨h2,fun p hp=>?_,h.ke.set,?_⟩
    ·rcases h.ke.other hp with rfl|⟨h3,_⟩
     ·obtain⟨u1,u2⟩:=h1;unfold OK LU;refine⟨hm,rfl,u2,by dsimp only;omega,?_,?_,by dsimp only;omega,?_⟩;·unfold U32 at u1;dsimp only;omega
      ·unfold U32 at u1;dsimp only;push_cast;omega
      ·dsimp only;omega
     ·exact(h.en p h3).up
    ·have:=(TZ (k:=m.chan) (v:=LU m.chan o) (l:=S.ends)).1;have:=h.le;show(BH m.chan (LU m.chan o) S.ends).length≤c+1;omega
 split
 ·split;·exact h.up
  ·rename_i o l e;exact⟨(hop e).2,h.up.en,h.ke,h.up.le⟩
 split;·exact h.up
 split;·exact h.up
 ·rename_i x e;split;·exact h.up
  ·exact h.setE e (endS_ok (h.en _ (BN e)) hc m hl ok)
theorem ZF {α:Type} {k:Int} {v:α}: ∀{l:List (Int×α)},AK k l=some v→BH k v l=l
 |[],h=>by cases h
 |p::l,h=>by
  unfold AK at h;unfold BH;split at h
  ·rename_i e;injection h with h;subst h;subst e;rw[if_pos rfl]
  ·rename_i e;rw[if_neg e,ZF h]
theorem aF {S:WS} (m:MD) (ok:Bool) (h:S.dead=true):AM S m ok=(S,9):=by unfold AM;rw[if_pos h]
end Go.Proofs.YtkgikodiecmakaaGreatDoor
