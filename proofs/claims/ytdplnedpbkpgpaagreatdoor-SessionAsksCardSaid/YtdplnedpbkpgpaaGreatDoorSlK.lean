/- SessionAsks: lemmas, from 'Layer 27: a session that is asked' on; what each asks for stands in it. -/
import Derived.Test.YtdplnedpbkpgpaaGreatDoorSlJ
import Derived.Test.YtdplnedpbkpgpaaGreatDoorSlI
set_option linter.all false
set_option maxRecDepth 100000
set_option maxHeartbeats 64000000
namespace Go.Proofs.YtdplnedpbkpgpaaGreatDoor
open Go.RowKit
def mAo (m:RQ):Option Addr:=if m.modes.length=0 then none else m.mA
theorem RQ.ok.stable2 {w w':World} {m:RQ} (h1: ∀a,mAo m=some a→w'.heap[a.block]? = w.heap[a.block]?) (h2:w.heap.size≤w'.heap.size) (h:m.ok w):m.ok w':=
 ⟨fun h0=>by
  obtain⟨b,off,e,hlt,hc⟩:=h.modes h0;exact⟨b,off,e,Nat.lt_of_lt_of_le hlt h2,fun i x hx=>(World.cell?_of_block (w:=w) (show w'.heap[b]? = w.heap[b]? from h1 ⟨b,off,none⟩ (by unfold mAo;rw[if_neg (by omega)];exact e))).trans (hc i x hx)⟩,h.mle,h.mmax,h.bytes,h.nums,h.text,h.value,h.lang⟩
theorem CN {w w':World} {v:Value} (O:Only [] w w') (h:w.cell? ⟨0,0,none⟩=some v):w'.cell? ⟨0,0,none⟩=some v:=by
 rw[←h];exact World.cell?_of_block (w:=w) (w':=w') (O.block 0 (block_lt_of_cell h) (by simp))
theorem dec_q {w w':World} {nm:ByteArray} {l:List Int} {e:Ending} (h:ZV w nm l e w'): ∃x:RQ×Int,e = .returned (.tuple #[x.1.val,.int .i64 x.2])∧Only [] w w'∧(x.1.ok w'∧BA nm l x.1 x.2)∧∀a,mAo x.1=some a→w.heap.size≤a.block∧a.block<w'.heap.size:=by
 obtain⟨O,m,E,he,hok,hnew,_,hD⟩:=h;refine⟨(m,E),he,O,⟨hok,hD⟩,fun a ha=>?_⟩;unfold mAo at ha;split at ha;·cases ha
 ·rename_i h0;have h0': ¬m.modes.length=0:=h0;obtain⟨b,off,e1,hlt,_⟩:=hok.modes (by omega);have ha':m.mA=some a:=ha;refine⟨hnew a ha',?_⟩;rw[ha'] at e1;injection e1 with e1;rw[e1];exact hlt
theorem WX {n:Nat} (h:CK n=0):n≤1024:=by
 unfold CK at h;split at h;·cases h
 ·omega
theorem aI {nm:ByteArray} {l:List Int} {m:RQ} (h:BA nm l m 0) (h4:m.kind=4):m.text.size≤1024:=by
 unfold BA at h;split at h;·exact absurd h.1 (by decide)
 ·rename_i k hk;obtain⟨h1,h2,_⟩:=IE hk;have hk4:=QB h1 h2 h;obtain rfl:k=4:=by omega
  unfold DJ at h;split at h;·rename_i hn;exact absurd h.1.symm hn
  ·obtain⟨fs,hf,h⟩:=h;split at h
   ·rename_i hq;rw[←h.2] at hq;exact WX hq
   ·rename_i hn;exact absurd h.1.symm hn
theorem YP {w w':World} {β:List Nat} {hp:List HB} {T:Nat} {cs:List SC} (H:Mem w [] β hp w') (k:Nat) (hk:hp[k]? = some (.b true T cs)):w.heap.size≤nm β k:=(H.own k _ _ hk rfl rfl).resolve_left (by simp)
theorem own_apart {w w':World} {β:List Nat} {hp:List HB} {T:Nat} {cs:List SC} {A:Option Addr} {Q:World→Prop} {st: ∀w w':World,(∀a,A=some a→w'.heap[a.block]? = w.heap[a.block]?)→w.heap.size≤w'.heap.size→Q w→Q w'} (H:Mem w [] β hp w') (i j:Nat) (hi:hp[i]? = some (.q true A Q st)) (hj:hp[j]? = some (.b true T cs)) (hij:i≠j) (a:Addr) (ha:A=some a):a.block≠nm β j:=fun he=>
 hij (H.inj i j _ _ a.block hi hj (by show Option.map Addr.block A=_;rw[ha];rfl) (by show some (nm β j)=_;rw[he]))
theorem HQ (s:SS) (nm:ByteArray) (ps:List PR):(CD s nm ps).1.env=s.env:=by
 unfold CD;split;·rfl
 ·split<;>rfl
theorem bG (s:SS) (m:RQ):(ptyM s m).1.env=s.env:=by
 unfold ptyM;repeat' split
 all_goals rfl
theorem XO (s:SS) (m:RQ):(MG s m).1.env=s.env:=by
 unfold MG;repeat' split
 all_goals rfl
theorem cC (s:SS) (m:RQ):(PQ s m).1.env=s.env:=by
 unfold PQ;repeat' split
 all_goals rfl
def SS.valL (s:SS) (A:Option Addr) (n cap:Nat):Value:=.agg (#[.bool s.pty,.string s.term,.int .u32 s.c0,.int .u32 s.c1,.int .u32 s.c2,.int .u32 s.c3,.int .u8 (s.t.ch 0),.int .u8 (s.t.ch 1),.int .u8 (s.t.ch 2),.int .u8 (s.t.ch 3),.int .u8 (s.t.ch 4),.int .u8 (s.t.ch 5),.int .u8 (s.t.ch 6),.int .u8 (s.t.ch 7),.int .u8 (s.t.ch 8),.int .u8 (s.t.ch 9),.int .u8 (s.t.ch 10),.int .u8 (s.t.ch 11),.int .u8 (s.t.ch 12),.int .u8 (s.t.ch 13),.int .u8 (s.t.ch 14),.int .u8 (s.t.ch 15),.int .u8 (s.t.ch 16),.int .u8 (s.t.ch 17),.int .u8 (s.t.ch 18),.int .u64 s.t.fl,.int .u32 s.t.inn,.int .u32 s.t.out,.int .i64 s.t.mn,.int .i64 s.t.tm,.slice A n cap,.bool s.st])
theorem ZQ (l:List VR):(l.flatMap AI).length=l.length*2:=by
 induction l with
 |nil=>rfl
 |cons x l ih=>rw[List.flatMap_cons,List.length_append,ih,DD,List.length_cons];omega
theorem LJ: ∀(l:List VR) (i:Nat),i<l.length→∀v:ByteArray,CU (l.flatMap AI) (i*2+1) [.string v]=(l.set i ⟨((l.map VR.n)[i]?).getD ⟨#[]⟩,v⟩).flatMap AI
 |x::l,0,_,v=>by simp[CU,AI]
 |x::l,i+1,h,v=>by
  have ih:=LJ l i (by simpa using h) v;have e:(i+1)*2+1=i*2+1+1+1:=by omega
  simp only[List.flatMap_cons,List.set_cons_succ,List.map_cons,List.getElem?_cons_succ];rw[←ih,e];simp[CU,AI]
theorem YG (nm:ByteArray): ∀(l:List ByteArray) (k:Int),0≤k→MT nm l k<k+l.length
 |[],k,h=>by
  show(-1:Int)<k+((0:Nat):Int);omega
 |s::l,k,h=>by
  have ih:=YG nm l (k+1) (by omega);unfold MT;rw[List.length_cons];split;·omega
  ·omega
theorem varI_lt {nm:ByteArray} {l:List VR} {i:Nat} (h:LO nm l=i):i<l.length:=by
 have:=YG nm (l.map VR.n) 0 (Int.le_refl _);unfold LO at h;rw[h,List.length_map] at this;omega
theorem SS.val_env (s:SS) (l:List VR) (n:Nat) (h:l.length=n) (A:Option Addr) (cap:Nat):s.valL A n cap=({ s with env:=l }:SS).val A cap:=by
 subst h;rfl
theorem own_ne {w w':World} {β:List Nat} {hp:List HB} {T T':Nat} {cs cs':List SC} (H:Mem w [] β hp w') (i j:Nat) (hi:hp[i]? = some (.b true T cs)) (hj:hp[j]? = some (.b true T' cs')) (hij:i≠j):nm β i≠nm β j:=fun he=>
 hij (H.inj i j _ _ (nm β j) hi hj (by show some (nm β i)=_;rw[he]) rfl)
section
variable {P : Program} {f : FuncId} {R : Ending → World → Prop} {n : Nat} {β : List Nat} {m : SM} {w0 : World} {L : List Nat} {E size : Nat}
theorem Hs.stc2 (k:Nat) {g cap nl:Nat} {vs vs':List Value} (hk:m.hp[k]? = some (.s (some ⟨g,0,none⟩) cap nl E size vs)) (j:Nat) (hj:j<vs.length) {v:Value} (hv:v.cells=#[v]) (hone:v.oneCell'=true) {E':TypeId} (hz:szB P E'=some 1)
  (hs:KT n β m=some (unitS (Instr.storeAt E' (.pointer (some ⟨g,j,none⟩)) v))) (hrd:(HL m).contains k=false) (e:CU vs j [v]=vs')
  (h:Hs P f R n w0 L β (m.put (BL m) (.c (.v undef)) (m.hp.set k (.s (some ⟨g,0,none⟩) cap nl E size vs')))):Hs P f R n w0 L β m:=by
 subst e;exact Hs.stc k hk j hj hv hone hz hs hrd h
end
def AskD (s:SS) (nam:ByteArray) (l:List Int) (ps:List PR) (w:World):Ending→World→Prop:=fun e w'=>Only [] w w'∧∃(m:RQ) (E:Int) (A':Option Addr) (cap':Nat),BA nam l m E∧e = .returned (.tuple #[(BZ s m E ps).1.val A' cap',(BZ s m E ps).2.val])∧BM AI 59 2 w' w.heap.size (.slice A' (BZ s m E ps).1.env.length cap') (BZ s m E ps).1.env
theorem FB {s:SS} {nam:ByteArray} {l:List Int} {ps:List PR} {w w':World} {m:RQ} {E:Int} {z:SS×AC} (hz:BZ s m E ps=z) (hD:BA nam l m E) {A':Option Addr} {cap':Nat} {β:List Nat} {hp:List HB} (H:Mem w [] β hp w') {vs:List Value} {nl:Nat} (hv:vs=z.1.env.flatMap AI) (hn:z.1.env.length=nl) (hk:hp[3]? = some (.s A' cap' nl 59 2 vs)) {v:Value} (he:v=z.1.val A' cap'):AskD s nam l ps w (.returned (.tuple #[v,z.2.val])) w':=by
 subst hz hv hn he;exact⟨H.only,m,E,A',cap',hD,rfl,H.fresh 3 rfl hk⟩
theorem PC {w:World} {m:RQ} (h:m.ok w):RdX cu8 w m.mA m.modes:=rd_rdX h.modes
theorem Hs.fact27 {P:Program} {f:FuncId} {R:Ending→World→Prop} {n:Nat} {w0:World} {L:List Nat} {β:List Nat} {m:SM} {p:Prop} (hp: ∀w,Mem w0 L β m.hp w→p) (h:p→Hs P f R n w0 L β m):Hs P f R n w0 L β m:=⟨fun w H W=>(h (hp w H)).go w H W⟩
theorem cW (s:SS) (A:Option Addr) (cap:Nat) (nam:ByteArray) (B:Option Addr) (c:Nat) (l:List Int) (pA:Option Addr) (pc:Nat) (ps:List PR) (w:World) (i0:Int) (h00:w.cell? ⟨0,0,none⟩=some (.int .i64 i0)) (hs:RdX AI w A s.env) (hse:s.env.length≤1000000) (hd:Rd w B l) (hl: ∀x∈l,0≤x∧x<256) (hln:l.length≤140737488355000) (hlc:l.length≤c) (hlm:c≤maxLen) (hal: ∀a,B=some a→0<l.length→a.block<w.heap.size) (hr:RdX cPr w pA ps) (hpl:ps.length≤maxLen) :
  Calls Tryz.prog 11 #[s.val A cap,.string nam,.slice B l.length c,.slice pA ps.length pc] w (AskD s nam l ps w):=by
 have hw0:0<w.heap.size:=block_lt_of_cell h00;refine Hs.en Tryz.func11 [] [] [] [.g (s.sc A cap),.c (.v (.string nam)),.c (.v (.slice B l.length c)),.c (.v (.slice pA ps.length pc))] (Mem.start0 w) ?_;refine Hs.run3 300 (fun _=>by kernel_rfl) fun b0 b1 b2=>?_;refine Hs.callS (cf:=AI) (E:=59) (size:=2) (fun A cap=>.slice A s.env.length cap) s.env s.env.length rfl (fun w' H=>cX s.env A cap w' (hs.only H.only) (by omega)) (by kernel_rfl) (by kernel_rfl) fun A' cap' h1 h2=>?_;refine Hs.e0 ?_;refine Hs.callQ (X:=RQ×Int) (fun x=>mAo x.1) (fun x=>.tuple #[x.1.val,.int .i64 x.2]) (fun x w=>x.1.ok w∧BA nam l x.1 x.2) (fun x w w' h1 h2 h=>⟨h.1.stable2 h1 h2,h.2⟩) (fun w' H=>(YV nam B l c i0 w' (CN H.only h00) (hd.only H.only) hl hln hlc hlm (fun a ha h0=>Nat.lt_of_lt_of_le (hal a ha h0) H.only.size)).mono fun e w1 h=>dec_q h) (by kernel_rfl) (by kernel_rfl) fun x=>?_;obtain⟨m,E⟩:=x;refine Hs.e1 fun b5=>?_;refine Hs.fact27 (fun w' H=>(H.atQ 4 (wr:=true) (A:=mAo m) (Q:=fun w=>m.ok w∧BA nam l m E) (st:=fun w w' h1 h2 h=>⟨h.1.stable2 h1 h2,h.2⟩) (by kernel_rfl)).2) fun hD=>?_;refine Hs.cn (E !=0) (fun h3=>?_) (fun h3=>?_)
 ·have hz:BZ s m E ps=(s,noA):=by unfold BZ;rw[if_pos (by simpa using h3)]
  refine Hs.e0 ?_;exact Hs.rt (v:=.tuple #[s.val A' cap',noA.val]) Tryz.func11 fun w' H=>FB hz hD H rfl rfl (by kernel_rfl) rfl
 obtain rfl:E=0:=by simpa using h3
 obtain⟨k,hk1,hk2,hk⟩:=LV hD;have hz:BZ s m 0 ps=kindM s m ps k:=by unfold BZ;rw[if_neg (by simp),hk];rfl
 refine Hs.e1 fun b6=>?_;refine Hs.any [5] (by kernel_rfl) ?_;refine Hs.e0 ?_;refine Hs.cV (fun w' H=>bA w') ?_;refine Hs.slot 34 (.c (.v (.int .i64 k))) rfl ((by kernel_rfl:_=Value.int .i64 m.kind).trans (by rw[hk];rfl)) ?_;rcases k10 hk1 hk2 with rfl|rfl|rfl|rfl|rfl|rfl|rfl|rfl|rfl|rfl
 ·replace hz:BZ s m 0 ps=ptyM s m:=hz;obtain⟨z,hzz⟩: ∃z,ptyM s m=z:=⟨_,rfl⟩;rw[hzz] at hz;have henv:z.1.env=s.env:=(congrArg (fun z:SS×AC=>z.1.env) hzz.symm).trans (bG s m);refine Hs.e0 ?_;refine Hs.callP 6 88 (BS z.1 A' cap' m pA ps.length pc z.2) (v:=.tuple #[]) (fun w' H=>by
   have hq:=(H.atQ 4 (wr:=true) (A:=mAo m) (Q:=fun w=>m.ok w∧BA nam l m 0) (st:=fun w w' h1 h2 h=>⟨h.1.stable2 h1 h2,h.2⟩) (by kernel_rfl)).1;have hB:=H.at (wr:=true) (T:=88) (cs:=BS s A' cap' m pA ps.length pc noA) 6 (by kernel_rfl);rw[BF] at hB;have hg: ∀a,m.mA=some a→0<m.modes.length→a.block≠b6:=fun a ha h0=>own_apart H (A:=mAo m) (Q:=fun w=>m.ok w∧BA nam l m 0) (st:=fun w w' h1 h2 h=>⟨h.1.stable2 h1 h2,h.2⟩) (T:=88) (cs:=BS s A' cap' m pA ps.length pc noA) 4 6 (by kernel_rfl) (by kernel_rfl) (by decide) a (by unfold mAo;rw[if_neg (by omega)];exact ha);exact(pty_any27 s A' cap' m pA pc ps w' b6 hB ⟨PC hq,hq.mle,hq.mmax⟩ hq.bytes hg).mono fun e w1 h=>by rw[hzz] at h;rw[BF];exact h) (by kernel_rfl) (by kernel_rfl) ?_
  refine Hs.e0 ?_;refine Hs.any [6] (by kernel_rfl) ?_;refine Hs.e0 ?_;exact Hs.rt (v:=.tuple #[z.1.val A' cap',z.2.val]) Tryz.func11 fun w' H=>FB hz hD H (vs:=s.env.flatMap AI) (nl:=s.env.length) (by rw[henv]) (by rw[henv]) (by kernel_rfl) rfl
 ·replace hz:BZ s m 0 ps=envM s m:=hz;unfold envM at hz;refine Hs.e0 ?_;refine Hs.inl Tryz.func53 [.c (.p 6 0)] (by kernel_rfl) (by kernel_rfl) ?_;refine Hs.e1 fun b7=>?_;refine Hs.cn s.st (fun h4=>?_) (fun h4=>?_)
  ·rw[if_pos h4] at hz;refine Hs.e0 ?_;refine Hs.retI Tryz.func53 (by kernel_rfl) (by kernel_rfl) (by kernel_rfl) ?_;refine Hs.e0 ?_;refine Hs.any [6] (by kernel_rfl) ?_;refine Hs.e0 ?_;exact Hs.rt (v:=.tuple #[s.val A' cap',noA.val]) Tryz.func11 fun w' H=>FB hz hD H rfl rfl (by kernel_rfl) rfl
  rw[if_neg (by rw[h4];decide)] at hz;refine Hs.e0 ?_;refine Hs.cV (v:=.int .i64 (LO m.text s.env)) (fun w' H=>by
   have hB:=H.at (wr:=true) (T:=88) (cs:=BS s A' cap' m pA ps.length pc noA) 6 (by kernel_rfl);rw[BF] at hB;have hne:b7≠b6:=own_ne H 7 6 (T:=86) (cs:=[.p 6 0]) (T':=88) (cs':=BS s A' cap' m pA ps.length pc noA) (by kernel_rfl) (by kernel_rfl) (by decide);have hR:RdX AI w' A' s.env:=H.rdX 3 (A:=A') (cap:=cap') (E:=59) (size:=2) rfl (by kernel_rfl);have hP:Blk w' b7 86 [.pointer (some ⟨b6,0,none⟩)]:=H.at (wr:=true) (T:=86) (cs:=[.p 6 0]) 7 (by kernel_rfl);exact dF s A' cap' m pA ps.length pc noA b7 b6 hne A' cap' s.env w' hP hB hR (by unfold maxLen;omega)) ?_
  refine Hs.e0 ?_;refine Hs.cP (LO m.text s.env≥0) (fun h5=>?_) (fun h5=>?_)
  ·rw[if_pos h5] at hz;obtain⟨i,hi⟩: ∃i:Nat,LO m.text s.env=i:=⟨_,(Int.toNat_of_nonneg h5).symm⟩;have hil:i<s.env.length:=varI_lt hi;rw[hi,Int.toNat_natCast] at hz;refine Hs.someS (A:=A') (cap:=cap') (nl:=s.env.length) (E:=59) (size:=2) (vs:=s.env.flatMap AI) 3 (by kernel_rfl) (by omega) fun g hA=>?_;subst hA;refine Hs.e0 ?_;refine Hs.any [6,7] (by kernel_rfl) ?_;refine Hs.e0 ?_;refine Hs.slot 45 (.c (.v (.int .i64 i))) rfl ((by kernel_rfl:_=Value.int .i64 (LO m.text s.env)).trans (congrArg (Value.int .i64) hi)) ?_;refine Hs.idx (b:=g) (off:=0) (c:=cap') (len:=s.env.length) (i:=i) LW hil (by kernel_rfl) ?_;refine Hs.e0 ?_;refine Hs.stc2 (E:=59) (size:=2) (g:=g) (cap:=cap') (nl:=s.env.length) (vs:=s.env.flatMap AI) (E':=9) 3 (by kernel_rfl) (0+i*2+1) (by rw[ZQ];omega) (v:=.string m.value) rfl rfl (by kernel_rfl) (by kernel_rfl) (by kernel_rfl) (vs':=(s.env.set i ⟨((s.env.map VR.n)[i]?).getD ⟨#[]⟩,m.value⟩).flatMap AI) (by rw[Nat.zero_add];exact LJ s.env i hil m.value) ?_;refine Hs.e0 ?_;refine Hs.callP 6 88 (BS s (some ⟨g,0,none⟩) cap' m pA ps.length pc okA) (v:=.tuple #[]) (fun w' H=>(UE s (some ⟨g,0,none⟩) cap' m pA pc ps w' b6 noA (by have:=H.at (wr:=true) (T:=88) (cs:=BS s (some ⟨g,0,none⟩) cap' m pA ps.length pc noA) 6 (by kernel_rfl);rw[BF] at this;exact this)).mono fun e w1 h=>by rw[BF];exact h) (by kernel_rfl) (by kernel_rfl) ?_;refine Hs.e0 ?_;refine Hs.retI Tryz.func53 (by kernel_rfl) (by kernel_rfl) (by kernel_rfl) ?_;refine Hs.e0 ?_;refine Hs.any [6] (by kernel_rfl) ?_;refine Hs.e0 ?_;exact Hs.rt (v:=.tuple #[s.val (some ⟨g,0,none⟩) cap',okA.val]) Tryz.func11 fun w' H=>FB hz hD H rfl List.length_set (by kernel_rfl) (SS.val_env s _ _ List.length_set _ _)
  rw[if_neg h5] at hz;refine Hs.e0 ?_;refine Hs.cP ((s.env.length:Int)≥16) (fun h6=>?_) (fun h6=>?_)
  ·rw[if_pos h6] at hz;refine Hs.e0 ?_;refine Hs.retI Tryz.func53 (by kernel_rfl) (by kernel_rfl) (by kernel_rfl) ?_;refine Hs.e0 ?_;refine Hs.any [6] (by kernel_rfl) ?_;refine Hs.e0 ?_;exact Hs.rt (v:=.tuple #[s.val A' cap',noA.val]) Tryz.func11 fun w' H=>FB hz hD H rfl rfl (by kernel_rfl) rfl
  rw[if_neg h6] at hz;refine Hs.e0 ?_;refine Hs.any [6,7,1022] (by kernel_rfl) ?_;refine Hs.e1 fun b8=>?_;refine Hs.app (cf:=AI) (c:=1) (ty:=39) 3 LW s.env [(⟨m.text,m.value⟩:VR)] s.env.length 1 rfl rfl KH DD (A:=A') (B:=some ⟨b8,0,none⟩) (cap:=cap') (by kernel_rfl) (by kernel_rfl) (by kernel_rfl) (fun w' H=>H.rdB (gs:=[(⟨m.text,m.value⟩:VR)]) 8 (wr:=true) (T:=59) (cs:=VR.sc ⟨m.text,m.value⟩) (by kernel_rfl) rfl) (by unfold maxLen;omega) (by rw[by_vr];omega) fun A2 cap2 h7=>?_;refine Hs.runK [95] 1000 0 Tryz.func53 rfl (by kernel_rfl) (fun ν=>by kernel_rfl) (fun ν=>by kernel_rfl) fun ν hν=>?_;obtain rfl:=List.length_eq_zero_iff.1 hν;refine Hs.retI Tryz.func53 (by kernel_rfl) (by kernel_rfl) (by kernel_rfl) ?_;refine Hs.e0 ?_;refine Hs.any [6] (by kernel_rfl) ?_;refine Hs.e0 ?_;exact Hs.rt (v:=.tuple #[s.valL A2 (s.env.length+1) cap2,okA.val]) Tryz.func11 fun w' H=>FB hz hD H (A':=A2) (cap':=cap2) (nl:=s.env.length+1) rfl (by show(s.env++[_]).length=_;rw[List.length_append];rfl) (by kernel_rfl) (SS.val_env s (s.env++[⟨m.text,m.value⟩]) (s.env.length+1) (by rw[List.length_append];rfl) A2 cap2)
 ·replace hz:BZ s m 0 ps=CD s IM ps:=hz;obtain⟨z,hzz⟩: ∃z,CD s IM ps=z:=⟨_,rfl⟩;rw[hzz] at hz;have henv:z.1.env=s.env:=(congrArg (fun z:SS×AC=>z.1.env) hzz.symm).trans (HQ s IM ps);refine Hs.e0 ?_;refine Hs.callP 6 88 (BS z.1 A' cap' m pA ps.length pc z.2) (v:=.tuple #[]) (fun w' H=>(cB s A' cap' m pA pc ps w' b6 (by have:=H.at (wr:=true) (T:=88) (cs:=BS s A' cap' m pA ps.length pc noA) 6 (by kernel_rfl);rw[BF] at this;exact this) (hr.only H.only) hpl (fun a ha h0=>by obtain⟨b,off,e,hlt,_⟩:=hr h0;rw[ha] at e;injection e with e;have:w.heap.size≤b6:=YP H 6 (T:=88) (cs:=BS s A' cap' m pA ps.length pc noA) (by kernel_rfl);rw[e];show b≠b6;omega)).mono fun e w1 h=>by rw[hzz] at h;rw[BF];exact h) (by kernel_rfl) (by kernel_rfl) ?_;refine Hs.e0 ?_;refine Hs.any [6] (by kernel_rfl) ?_;refine Hs.e0 ?_;exact Hs.rt (v:=.tuple #[z.1.val A' cap',z.2.val]) Tryz.func11 fun w' H=>FB hz hD H (vs:=s.env.flatMap AI) (nl:=s.env.length) (by rw[henv]) (by rw[henv]) (by kernel_rfl) rfl
 ·replace hz:BZ s m 0 ps=CD s (JX m.text) ps:=hz;obtain⟨z,hzz⟩: ∃z,CD s (JX m.text) ps=z:=⟨_,rfl⟩;rw[hzz] at hz;have henv:z.1.env=s.env:=(congrArg (fun z:SS×AC=>z.1.env) hzz.symm).trans (HQ s (JX m.text) ps);refine Hs.e0 ?_;refine Hs.callP 6 88 (BS z.1 A' cap' m pA ps.length pc z.2) (v:=.tuple #[]) (fun w' H=>(dA s A' cap' m pA pc ps w' b6 i0 (CN H.only h00) (by have:w.heap.size≤b6:=YP H 6 (T:=88) (cs:=BS s A' cap' m pA ps.length pc noA) (by kernel_rfl);omega) (by have:=aI hD hk;omega) (by have:=H.at (wr:=true) (T:=88) (cs:=BS s A' cap' m pA ps.length pc noA) 6 (by kernel_rfl);rw[BF] at this;exact this) (hr.only H.only) hpl (fun a ha h0=>by obtain⟨b,off,e,hlt,_⟩:=hr h0;rw[ha] at e;injection e with e;have:w.heap.size≤b6:=YP H 6 (T:=88) (cs:=BS s A' cap' m pA ps.length pc noA) (by kernel_rfl);rw[e];show b≠b6;omega)).mono fun e w1 h=>by rw[hzz] at h;rw[BF];exact h) (by kernel_rfl) (by kernel_rfl) ?_;refine Hs.e0 ?_;refine Hs.any [6] (by kernel_rfl) ?_;refine Hs.e0 ?_;exact Hs.rt (v:=.tuple #[z.1.val A' cap',z.2.val]) Tryz.func11 fun w' H=>FB hz hD H (vs:=s.env.flatMap AI) (nl:=s.env.length) (by rw[henv]) (by rw[henv]) (by kernel_rfl) rfl
 ·replace hz:BZ s m 0 ps=CD s m.text ps:=hz;obtain⟨z,hzz⟩: ∃z,CD s m.text ps=z:=⟨_,rfl⟩;rw[hzz] at hz;have henv:z.1.env=s.env:=(congrArg (fun z:SS×AC=>z.1.env) hzz.symm).trans (HQ s m.text ps);refine Hs.e0 ?_;refine Hs.callP 6 88 (BS z.1 A' cap' m pA ps.length pc z.2) (v:=.tuple #[]) (fun w' H=>(SK s A' cap' m pA pc ps w' b6 (by have:=H.at (wr:=true) (T:=88) (cs:=BS s A' cap' m pA ps.length pc noA) 6 (by kernel_rfl);rw[BF] at this;exact this) (hr.only H.only) hpl (fun a ha h0=>by obtain⟨b,off,e,hlt,_⟩:=hr h0;rw[ha] at e;injection e with e;have:w.heap.size≤b6:=YP H 6 (T:=88) (cs:=BS s A' cap' m pA ps.length pc noA) (by kernel_rfl);rw[e];show b≠b6;omega)).mono fun e w1 h=>by rw[hzz] at h;rw[BF];exact h) (by kernel_rfl) (by kernel_rfl) ?_;refine Hs.e0 ?_;refine Hs.any [6] (by kernel_rfl) ?_;refine Hs.e0 ?_;exact Hs.rt (v:=.tuple #[z.1.val A' cap',z.2.val]) Tryz.func11 fun w' H=>FB hz hD H (vs:=s.env.flatMap AI) (nl:=s.env.length) (by rw[henv]) (by rw[henv]) (by kernel_rfl) rfl
 ·replace hz:BZ s m 0 ps=MG s m:=hz;obtain⟨z,hzz⟩: ∃z,MG s m=z:=⟨_,rfl⟩;rw[hzz] at hz;have henv:z.1.env=s.env:=(congrArg (fun z:SS×AC=>z.1.env) hzz.symm).trans (XO s m);refine Hs.e0 ?_;refine Hs.callP 6 88 (BS z.1 A' cap' m pA ps.length pc z.2) (v:=.tuple #[]) (fun w' H=>(ZJ s A' cap' m pA pc ps w' b6 (by have:=H.at (wr:=true) (T:=88) (cs:=BS s A' cap' m pA ps.length pc noA) 6 (by kernel_rfl);rw[BF] at this;exact this)).mono fun e w1 h=>by rw[hzz] at h;rw[BF];exact h) (by kernel_rfl) (by kernel_rfl) ?_;refine Hs.e0 ?_;refine Hs.any [6] (by kernel_rfl) ?_;refine Hs.e0 ?_;exact Hs.rt (v:=.tuple #[z.1.val A' cap',z.2.val]) Tryz.func11 fun w' H=>FB hz hD H (vs:=s.env.flatMap AI) (nl:=s.env.length) (by rw[henv]) (by rw[henv]) (by kernel_rfl) rfl
 ·replace hz:BZ s m 0 ps=((s,noA):SS×AC):=hz;obtain⟨z,hzz⟩: ∃z,((s,noA):SS×AC)=z:=⟨_,rfl⟩;rw[hzz] at hz;have henv:z.1.env=s.env:=(congrArg (fun z:SS×AC=>z.1.env) hzz.symm).trans (rfl);refine Hs.e0 ?_;refine Hs.callP 6 88 (BS z.1 A' cap' m pA ps.length pc z.2) (v:=.tuple #[]) (fun w' H=>(JZ s A' cap' m pA pc ps w' b6 (by have:=H.at (wr:=true) (T:=88) (cs:=BS s A' cap' m pA ps.length pc noA) 6 (by kernel_rfl);rw[BF] at this;exact this)).mono fun e w1 h=>by rw[hzz] at h;rw[BF];exact h) (by kernel_rfl) (by kernel_rfl) ?_;refine Hs.e0 ?_;refine Hs.any [6] (by kernel_rfl) ?_;refine Hs.e0 ?_;exact Hs.rt (v:=.tuple #[z.1.val A' cap',z.2.val]) Tryz.func11 fun w' H=>FB hz hD H (vs:=s.env.flatMap AI) (nl:=s.env.length) (by rw[henv]) (by rw[henv]) (by kernel_rfl) rfl
 ·replace hz:BZ s m 0 ps=PQ s m:=hz;obtain⟨z,hzz⟩: ∃z,PQ s m=z:=⟨_,rfl⟩;rw[hzz] at hz;have henv:z.1.env=s.env:=(congrArg (fun z:SS×AC=>z.1.env) hzz.symm).trans (cC s m);refine Hs.e0 ?_;refine Hs.callP 6 88 (BS z.1 A' cap' m pA ps.length pc z.2) (v:=.tuple #[]) (fun w' H=>(ZN s A' cap' m pA pc ps w' b6 (by have:=H.at (wr:=true) (T:=88) (cs:=BS s A' cap' m pA ps.length pc noA) 6 (by kernel_rfl);rw[BF] at this;exact this)).mono fun e w1 h=>by rw[hzz] at h;rw[BF];exact h) (by kernel_rfl) (by kernel_rfl) ?_;refine Hs.e0 ?_;refine Hs.any [6] (by kernel_rfl) ?_;refine Hs.e0 ?_;exact Hs.rt (v:=.tuple #[z.1.val A' cap',z.2.val]) Tryz.func11 fun w' H=>FB hz hD H (vs:=s.env.flatMap AI) (nl:=s.env.length) (by rw[henv]) (by rw[henv]) (by kernel_rfl) rfl
 ·replace hz:BZ s m 0 ps=((s,noA):SS×AC):=hz;obtain⟨z,hzz⟩: ∃z,((s,noA):SS×AC)=z:=⟨_,rfl⟩;rw[hzz] at hz;have henv:z.1.env=s.env:=(congrArg (fun z:SS×AC=>z.1.env) hzz.symm).trans (rfl);refine Hs.e0 ?_;refine Hs.callP 6 88 (BS z.1 A' cap' m pA ps.length pc z.2) (v:=.tuple #[]) (fun w' H=>(JZ s A' cap' m pA pc ps w' b6 (by have:=H.at (wr:=true) (T:=88) (cs:=BS s A' cap' m pA ps.length pc noA) 6 (by kernel_rfl);rw[BF] at this;exact this)).mono fun e w1 h=>by rw[hzz] at h;rw[BF];exact h) (by kernel_rfl) (by kernel_rfl) ?_;refine Hs.e0 ?_;refine Hs.any [6] (by kernel_rfl) ?_;refine Hs.e0 ?_;exact Hs.rt (v:=.tuple #[z.1.val A' cap',z.2.val]) Tryz.func11 fun w' H=>FB hz hD H (vs:=s.env.flatMap AI) (nl:=s.env.length) (by rw[henv]) (by rw[henv]) (by kernel_rfl) rfl
 ·replace hz:BZ s m 0 ps=((s,noA):SS×AC):=hz;obtain⟨z,hzz⟩: ∃z,((s,noA):SS×AC)=z:=⟨_,rfl⟩;rw[hzz] at hz;have henv:z.1.env=s.env:=(congrArg (fun z:SS×AC=>z.1.env) hzz.symm).trans (rfl);refine Hs.e0 ?_;refine Hs.callP 6 88 (BS z.1 A' cap' m pA ps.length pc z.2) (v:=.tuple #[]) (fun w' H=>(JZ s A' cap' m pA pc ps w' b6 (by have:=H.at (wr:=true) (T:=88) (cs:=BS s A' cap' m pA ps.length pc noA) 6 (by kernel_rfl);rw[BF] at this;exact this)).mono fun e w1 h=>by rw[hzz] at h;rw[BF];exact h) (by kernel_rfl) (by kernel_rfl) ?_;refine Hs.e0 ?_;refine Hs.any [6] (by kernel_rfl) ?_;refine Hs.e0 ?_;exact Hs.rt (v:=.tuple #[z.1.val A' cap',z.2.val]) Tryz.func11 fun w' H=>FB hz hD H (vs:=s.env.flatMap AI) (nl:=s.env.length) (by rw[henv]) (by rw[henv]) (by kernel_rfl) rfl
theorem WM (s:SS) (A:Option Addr) (cap:Nat) (nam:ByteArray) (B:Option Addr) (c:Nat) (l:List Int) (pA:Option Addr) (pc:Nat) (ps:List PR) (w:World) (i0:Int) (h00:w.cell? ⟨0,0,none⟩=some (.int .i64 i0)) (hs:RdX AI w A s.env) (hse:s.env.length≤1000000) (hd:Rd w B l) (hl: ∀x∈l,0≤x∧x<256) (hln:l.length≤140737488355000) (hlc:l.length≤c) (hlm:c≤maxLen) (hal: ∀a,B=some a→a.block<w.heap.size) (hr:RdX cPr w pA ps) (hpl:ps.length≤maxLen) :
 Calls Tryz.prog 11 #[s.val A cap,.string nam,.slice B l.length c,.slice pA ps.length pc] w (AskD s nam l ps w):=cW s A cap nam B c l pA pc ps w i0 h00 hs hse hd hl hln hlc hlm (fun a ha _=>hal a ha) hr hpl
def JP (w:World) (m:RQ):Ending→World→Prop:=fun e w'=>Only [] w w'∧∃v,e = .returned (.tuple #[.string (FL m),v,.int .i64 (GG m).1])∧DW w' w.heap.size v (GG m).2
theorem TH: ∀(fs:List FD) (i:Nat) (f:FD) (x:Int),fs[i]? = some f→(BR fs).set (i*4) (.int .i64 x)=BR (fs.set i { f with kind:=x })
 |[],i,f,x,h=>by simp at h
 |g::fs,0,f,x,h=>by
  simp at h;subst h;rfl
 |g::fs,i+1,f,x,h=>by
  simp at h;have ih:=TH fs i f x h;unfold BR at ih⊢;rw[List.set_cons_succ,List.flatMap_cons,List.flatMap_cons,←ih];have e:(i+1)*4=g.cells.length+i*4:=by simp[FD.cells];omega
  rw[e,List.set_append_right _ _ (by omega)];congr 2
  omega
theorem ownF_set {w:World} {base g cap n:Nat} {fs:List FD} (hn:fs.length=n) (h:EJ w base (.slice (some ⟨g,0,none⟩) n cap) fs) (i:Nat) (f:FD) (x:Int) (hi:fs[i]? = some f) :
  EJ (w.setCell ⟨g,i*4,none⟩ (.int .i64 x)) base (.slice (some ⟨g,0,none⟩) n cap) (fs.set i { f with kind:=x }):=by
 subst hn;have:=(World.ownsRow.stored h (i*4) (.int .i64 x)).1;show World.ownsRow _ _ _ _ _ _ _;rw[List.length_set,←TH fs i f x hi];exact this
theorem ownF_at {w:World} {base g cap n:Nat} {fs:List FD} (hn:fs.length=n) (h:EJ w base (.slice (some ⟨g,0,none⟩) n cap) fs) (i:Nat) (f:FD) (hi:fs[i]? = some f) :
  w.cell? ⟨g,i*4,none⟩=some (.int .i64 f.kind)∧w.frozen? ⟨g,i*4,none⟩=false:=by
 subst hn;have hl:i<fs.length:=(List.getElem?_eq_some_iff.1 hi).1;refine⟨?_,World.ownsRow.frozenAt h _⟩;rw[World.ownsRow.cellAt h (i*4) (by omega),←Nat.add_zero (i*4),QF fs i f 0 hi (by decide)];rfl
theorem ok_setC {w:World} {f:FD} {g i n cap:Nat} {u:Value} (h:FD.ok w f) (ho:f.off (.slice (some ⟨g,0,none⟩) n cap)):FD.ok (w.setCell ⟨g,i,none⟩ u) f:=by
 have P:Only [g] w (w.setCell ⟨g,i,none⟩ u):=(Only.refl [g] w).setCell (p:=⟨g,i,none⟩) (.inl (by simp)) u;exact { h with text:=h.text.onlyL P (fun a ha h0 hx=>ho.1 a ha h0 (by simp at hx;rw[hx];rfl)),list:=h.list.onlyL P (fun a ha h0 hx=>ho.2 a ha h0 (by simp at hx;rw[hx];rfl)) }
theorem set_mid {α:Type} (l m:List α) (k:Nat) (x:α) (hl:l.length=m.length) (hx:l[k]? = some x):(l.take k++m.drop k).set k x=l.take (k+1)++m.drop (k+1):=by
 have hk:k<l.length:=(List.getElem?_eq_some_iff.1 hx).1;rw[List.set_append_right _ _ (by simp;omega)];have e:k-(l.take k).length=0:=by simp;omega
 rw[e,List.drop_eq_getElem_cons (by omega:k<m.length),List.set_cons_zero,List.take_succ,hx];simp
def MidP (m:RQ) (k i:Nat):List PF:=(AP m k).take i++((AP m k).map (fun p=>{ p with kind:=0 })).drop i
theorem mid_step (m:RQ) (k i:Nat) (p:PF) (hp:(AP m k)[i]? = some p) (fs:List FD) (f:FD) (hf:fs[i]? = some f) (h:fs.map FD.pf=MidP m k i):(fs.set i { f with kind:=p.kind }).map FD.pf=MidP m k (i+1):=by
 have hil:i<(AP m k).length:=(List.getElem?_eq_some_iff.1 hp).1;rw[List.map_set,h];unfold MidP;have hfp:FD.pf { f with kind:=p.kind }=p:=by
  have e1:(fs.map FD.pf)[i]? = some f.pf:=by rw[List.getElem?_map,hf];rfl
  rw[h] at e1;unfold MidP at e1;rw[List.getElem?_append_right (by simp;omega),List.getElem?_drop] at e1;have e2:i+(i-((AP m k).take i).length)=i:=by simp;omega
  rw[e2,List.getElem?_map,hp] at e1;have e3:f.pf = { p with kind:=0 }:=by simpa using e1.symm
  have n1:f.n=p.n:=congrArg PF.n e3;have n2:f.text=p.text:=congrArg PF.text e3;have n3:f.list=p.list:=congrArg PF.list e3;unfold FD.pf;dsimp only;rw[n1,n2,n3]
 rw[hfp];exact set_mid _ _ i p (by simp) hp
theorem mid0 {m:RQ} {k:Nat} {fs:List FD} (h:fs.map FD.pf=(AP m k).map (fun p=>{ p with kind:=0 })):fs.map FD.pf=MidP m k 0:=by
 rw[h];rfl
theorem mid_end (m:RQ) (k n:Nat) (h:(AP m k).length=n):MidP m k n=AP m k:=by
 unfold MidP;rw[List.take_of_length_le (by omega),List.drop_of_length_le (by simp;omega),List.append_nil]
theorem mem_set {α:Type} {l:List α} {i:Nat} {x:α} {P:α→Prop} (h: ∀y∈l,P y) (hx:P x): ∀y∈l.set i x,P y:=fun y hy=>by
 rcases List.mem_or_eq_of_mem_set hy with h1|rfl;·exact h y h1
 ·exact hx
theorem encR_none {m:RQ} (h: ¬(1≤m.kind∧m.kind≤10)):GG m=(8,[]):=if_neg h
theorem encR_ask {m:RQ} {k:Nat} (h1:1≤k) (h2:k≤10) (hk:m.kind=k) (h:CO m k≠0):GG m=(CO m k,[]):=by
 unfold GG;rw[hk,Int.toNat_natCast,if_pos (by omega),if_pos h]
theorem encR_go {m:RQ} {k:Nat} (h1:1≤k) (h2:k≤10) (hk:m.kind=k) (h:CO m k=0):GG m=IP (AP m k):=by
 unfold GG;rw[hk,Int.toNat_natCast,if_pos (by omega),if_neg (by simpa using h)]
theorem aL {m:RQ} (h:(GG m).1≠0):FL m=⟨#[]⟩:=if_neg h
theorem cZ {m:RQ} {k:Nat} (hk:m.kind=k) (h:(GG m).1=0):FL m=AU k:=by
 unfold FL;rw[if_pos h,hk,Int.toNat_natCast]
theorem LX (w w':World) (m:RQ) (E:Int) (h:GG m=(E,[])) (hE:E≠0) (P:Only [] w w'):JP w m (.returned (.tuple #[.string ⟨#[]⟩,.slice none 0 0,.int .i64 E])) w':=by
 unfold JP;rw[aL (by rw[h];exact hE),h];exact⟨P,_,rfl,UI _ _⟩
theorem bT (m:RQ) (w:World) (hm:m.ok w) (hs:m.text.size≤140737488355328) (hv:m.value.size≤140737488355328) (hl:m.lang.size≤140737488355328):Calls Tryz.prog 20 #[m.val] w (JP w m):=by
 obtain⟨w1,hw1⟩: ∃w1,w1=w.alloc (.cells #[.int .i64 m.kind,.string m.text,.string m.value,.string m.lang,.int .u32 m.cols,.int .u32 m.rows,.int .u32 m.width,.int .u32 m.height,.slice m.mA m.modes.length m.mc,.bool m.on,.int .u32 m.code] 63):=⟨_,rfl⟩;have P1:Only [] w w1:=by rw[hw1];exact(Only.refl _ _).alloc _
 have K1:Blk w1 w.heap.size 63 m.cells:=by rw[hw1];exact Blk.new w _ _
 unfold RQ.val;by_cases hk:1≤m.kind∧m.kind≤10
 ·obtain⟨k,hkk⟩:=Int.eq_ofNat_of_zero_le (show 0≤m.kind by omega);have h1:1≤k:=by omega
  have h2:k≤10:=by omega
  have OF:=rof_any k h1 h2 w1;rw[←hkk] at OF;obtain⟨F1,hF1,cF1,C1⟩:=rget_any k h1 h2;obtain⟨F3,hF3,cF3,C3⟩:=ask_any k h1 h2;have hen:CO m k=0→GG m=IP (AP m k):=encR_go h1 h2 hkk;have hea:CO m k≠0→GG m=(CO m k,[]):=encR_ask h1 h2 hkk;have hnk:(GG m).1=0→FL m=AU k:=cZ hkk;obtain⟨n,hn⟩: ∃n,(AH k).length=n:=⟨_,rfl⟩;obtain⟨nm,hnm⟩: ∃nm,AU k=nm:=⟨_,rfl⟩;obtain⟨F2,hF2⟩: ∃F,rput k=F:=⟨_,rfl⟩;obtain⟨E0,hE0⟩: ∃E,CO m k=E:=⟨_,rfl⟩;rw[hE0] at hen hea;have hpk:=CW m k h1 h2;have hn10:n≤10:=by rw[←hn];rcases k10 h1 h2 with rfl|rfl|rfl|rfl|rfl|rfl|rfl|rfl|rfl|rfl<;>decide
  have hpl:(AP m k).length=n:=by rw[←hn,←hpk,List.length_map]
  replace hen:=AB hen;replace hea:=AB hea;replace hnk:=AB hnk;replace hpl:=AB hpl;replace hpk:=AB hpk;replace hkk:=AB hkk;replace C1:=AB C1;replace C3:=AB C3;replace hk:=AB hk;go_enter Tryz.func20,Tryz.ntmps20
  go_wp2_with fail
  rw[←hw1];replace hw1:=AB hw1;go_call OF as e w2 ⟨P2,KA,rfl,R2⟩
  clear OF;unfold RP rfn;rw[hn,hF1,hF2,hF3,hnm];replace hn:=AB hn;replace hF1:=AB hF1;replace hF2:=AB hF2;replace hF3:=AB hF3;replace hnm:=AB hnm;have K2:=K1.only P2 (by simp);have Q2:Only [] w w2:=P1.trans P2 (by simp);have B3:Blk (w2.alloc (.cells #[.string nm,.slice KA n n,.func (Fn.func F1) #[] #[],.func (Fn.func F2) #[] #[],.func (Fn.func F3) #[] #[]] 114)) w2.heap.size 114 [.string nm,.slice KA n n,.func (Fn.func F1) #[] #[],.func (Fn.func F2) #[] #[],.func (Fn.func F3) #[] #[]]:=Blk.new _ _ _;have P3:Only [] w2 (w2.alloc (.cells #[.string nm,.slice KA n n,.func (Fn.func F1) #[] #[],.func (Fn.func F2) #[] #[],.func (Fn.func F3) #[] #[]] 114)):=(Only.refl _ _).alloc _;have z3:(w2.alloc (.cells #[.string nm,.slice KA n n,.func (Fn.func F1) #[] #[],.func (Fn.func F2) #[] #[],.func (Fn.func F3) #[] #[]] 114)).heap.size=w2.heap.size+1:=by simp
  obtain⟨w3,hw3⟩: ∃w3,w3=w2.alloc (.cells #[.string nm,.slice KA n n,.func (Fn.func F1) #[] #[],.func (Fn.func F2) #[] #[],.func (Fn.func F3) #[] #[]] 114):=⟨_,rfl⟩;rw[←hw3] at B3 P3 z3;have B4:=B3.alloc (.cells #[.int .i64 m.kind,.string m.text,.string m.value,.string m.lang,.int .u32 m.cols,.int .u32 m.rows,.int .u32 m.width,.int .u32 m.height,.slice m.mA m.modes.length m.mc,.bool m.on,.int .u32 m.code] 119);have P4:Only [] w3 (w3.alloc (.cells #[.int .i64 m.kind,.string m.text,.string m.value,.string m.lang,.int .u32 m.cols,.int .u32 m.rows,.int .u32 m.width,.int .u32 m.height,.slice m.mA m.modes.length m.mc,.bool m.on,.int .u32 m.code] 119)):=(Only.refl _ _).alloc _;have K4:Blk (w3.alloc (.cells #[.int .i64 m.kind,.string m.text,.string m.value,.string m.lang,.int .u32 m.cols,.int .u32 m.rows,.int .u32 m.width,.int .u32 m.height,.slice m.mA m.modes.length m.mc,.bool m.on,.int .u32 m.code] 119)) w3.heap.size 119 m.cells:=Blk.new _ _ _;have K3:=K2.only P3 (by simp);rw[z3] at K4;obtain⟨w4,hw4⟩: ∃w4,w4=w3.alloc (.cells #[.int .i64 m.kind,.string m.text,.string m.value,.string m.lang,.int .u32 m.cols,.int .u32 m.rows,.int .u32 m.width,.int .u32 m.height,.slice m.mA m.modes.length m.mc,.bool m.on,.int .u32 m.code] 119):=⟨_,rfl⟩;rw[←hw4] at B4 P4 K4;have Q4:Only [] w w4:=(Q2.trans P3 (by simp)).trans P4 (by simp);have A4:=C3.out w4 m _ K4 (hm.only Q4);rw[hE0] at A4;replace hE0:=AB hE0;have x0:=B4.cell 0;have x1:=B4.cell 1;have x2:=B4.cell 2;have x4:=B4.cell 4;simp only[List.getElem?_cons_zero,List.getElem?_cons_succ] at x0 x1 x2 x4;have hlt2:=K2.lt;have hne: ¬w.heap.size=w2.heap.size:=by omega
  have c0:w2.cell? ⟨w.heap.size,0,none⟩=some (.int .i64 m.kind):=K2.cell 0;have c1:w2.cell? ⟨w.heap.size,1,none⟩=some (.string m.text):=K2.cell 1;have c2:w2.cell? ⟨w.heap.size,2,none⟩=some (.string m.value):=K2.cell 2;have c3:w2.cell? ⟨w.heap.size,3,none⟩=some (.string m.lang):=K2.cell 3;have c4:w2.cell? ⟨w.heap.size,4,none⟩=some (.int .u32 m.cols):=K2.cell 4;have c5:w2.cell? ⟨w.heap.size,5,none⟩=some (.int .u32 m.rows):=K2.cell 5;have c6:w2.cell? ⟨w.heap.size,6,none⟩=some (.int .u32 m.width):=K2.cell 6;have c7:w2.cell? ⟨w.heap.size,7,none⟩=some (.int .u32 m.height):=K2.cell 7;have c8:w2.cell? ⟨w.heap.size,8,none⟩=some (.slice m.mA m.modes.length m.mc):=K2.cell 8;have c9:w2.cell? ⟨w.heap.size,9,none⟩=some (.bool m.on):=K2.cell 9;have c10:w2.cell? ⟨w.heap.size,10,none⟩=some (.int .u32 m.code):=K2.cell 10;replace z3:=AB z3;go_wp2_with fail
  rw[←hw3,←hw4];go_call A4 as e w5 ⟨rfl,P5⟩
  clear A4;clear c0 c1 c2 c3 c4 c5 c6 c7 c8 c9 c10;have B5:=B4.only P5 (by simp);have K5:=K4.only P5 (by simp);have Q5:Only [] w w5:=Q4.trans P5 (by simp);replace hw3:=AB hw3;replace hw4:=AB hw4;have hR2:RdI w5 KA (AH k):=((R2.only P3).only P4).only P5;clear x0 x1 x2 x4;have x0:=B5.cell 0;have x1:=B5.cell 1;have x2:=B5.cell 2;simp only[List.getElem?_cons_zero,List.getElem?_cons_succ] at x0 x1 x2;by_cases hE:E0=0
  ·have hew:=hen.out hE;replace hew:=AB hew;subst hE;have A5:=C1.out w5 m _ K5 (hm.only Q5) hs hv hl;go_wp2_with fail
   go_call A5 as e w6 ⟨P6,v,fs,rfl,V6,hp,M6,N6⟩
   clear A5;have B6:=B5.only P6 (by simp);have Q6:Only [] w w6:=Q5.trans P6 (by simp);have hR6:=hR2.only P6;have hfl:fs.length=n:=by
    have:=congrArg List.length hp;rw[List.length_map,List.length_map,hpl.out] at this;exact this
   obtain⟨A,cap,rfl,hc,hcm,_⟩:=V6.form;rw[hfl] at V6 hc M6⊢;have M0:=mid0 hp;have zq:=Q5.size;have hbk:=B5.lt;clear x0 x1 x2;go_wp2_with fail
   go_loopw [37] (fun ii wr=>∃(i:Nat) (gs:List FD),i≤n∧ii = .int .i64 i∧Hid (gs.length=n)∧Hid (gs.map FD.pf=MidP m k i)∧EJ wr w5.heap.size (.slice A n cap) gs∧(∀f∈gs,FD.ok wr f∧f.off (.slice A n cap))∧(∀f∈gs,U32 f.n)∧Only [] w5 wr) (fun ii _=>n-(intOf ii).toNat)
   case atStart=>exact⟨0,fs,by omega,rfl,AB hfl,AB M0,V6,M6,N6,P6⟩
   case round=>
    obtain⟨wo,rfl⟩: ∃wo:World,wo=wr:=⟨_,rfl⟩;obtain⟨i,gs,hin,rfl,hgl,hmp,V,M,N,O⟩:=hrel;have Bo:=B5.only O (by simp);have x0:=Bo.cell 0;have x1:=Bo.cell 1;simp only[List.getElem?_cons_zero,List.getElem?_cons_succ] at x0 x1;by_cases hlt:i<n
    ·obtain⟨kb,koff,x,rfl,hkb,hx,cx⟩:=RdG.at (hR2.only O) i (by have:=hn.out;omega);obtain⟨A',cap',e1,_,_,hA⟩:=V.form;obtain⟨ga,hga,hga1,hga2,_⟩:=hA (by have:=hgl.out;omega);obtain rfl:A=some ⟨ga,0,none⟩:=by rw[←hga];exact(Value.slice.inj e1).1
     obtain⟨f,hf⟩: ∃f,gs[i]? = some f:=⟨_,List.getElem?_eq_getElem (by have:=hgl.out;omega)⟩;obtain⟨p,hpp⟩: ∃p,(AP m k)[i]? = some p:=⟨_,List.getElem?_eq_getElem (by have:=hpl.out;omega)⟩;have hpx:p.kind=x:=by
      rw[←hpk.out,List.getElem?_map,hpp] at hx;simpa using hx
     obtain⟨cf,zf⟩:=ownF_at hgl.out V i f hf;have V':=ownF_set hgl.out V i f x hf;have hst:=mid_step m k i p hpp gs f hf hmp.out;rw[hpx] at hst;have hgl':(gs.set i { f with kind:=x }).length=n:=by rw[List.length_set];exact hgl.out
     have M': ∀y∈gs.set i { f with kind:=x },FD.ok (wo.setCell ⟨ga,i*4,none⟩ (.int .i64 x)) y∧y.off (.slice (some ⟨ga,0,none⟩) n cap):=by
      have hfm:=M f (List.mem_of_getElem? hf);refine mem_set (fun y hy=>⟨ok_setC (M y hy).1 (M y hy).2,(M y hy).2⟩) ⟨?_,hfm.2⟩;exact ok_setC (FD.ok.with hfm.1 x f.n) hfm.2
     have N': ∀y∈gs.set i { f with kind:=x },U32 y.n:=mem_set N (N f (List.mem_of_getElem? hf));have O':Only [] w5 (wo.setCell ⟨ga,i*4,none⟩ (.int .i64 x)):=O.setCell (p:=⟨ga,i*4,none⟩) (.inr hga1) _;replace hf:=AB hf;replace hpp:=AB hpp;replace hpx:=AB hpx;replace hx:=AB hx;replace hst:=AB hst;replace hgl':=AB hgl';replace M':=AB M';replace N':=AB N';clear M N hA e1 hga;go_wp2_with fail
     go_roundw
     case rel=>exact⟨i+1,_,by omega,by go_num,hgl',hst,V',M'.out,N'.out,O'⟩
     case measure=>simp[intOf];omega
    ·obtain rfl:i=n:=by omega
     have hmap:gs.map FD.pf=AP m k:=by
      rw[hmp.out];exact mid_end m k i hpl.out
     have RF:=V.rdF (fun f hf=>⟨(M f hf).1,N f hf⟩);have WR:=write_any wo A gs cap RF (by have:=hgl.out;omega);rw[hmap,←hew.out,hgl.out] at WR;obtain⟨E,hE⟩: ∃E,(GG m).1=E:=⟨_,rfl⟩;obtain⟨l,hl2⟩: ∃l,(GG m).2=l:=⟨_,rfl⟩;have hpair:GG m=(E,l):=by rw[←hE,←hl2]
     rw[hpair] at WR;have Qo:Only [] w wo:=Q5.trans O (by simp);have zo:=Qo.size;replace hmap:=AB hmap;replace hpair:=AB hpair;replace hE:=AB hE;replace hl2:=AB hl2;clear M N;go_wp2_with fail
     go_call WR as e w9 ⟨P9,v9,rfl,V9⟩
     clear WR;have Q9:Only [] w w9:=Qo.trans P9 (by simp);have B9:=Bo.only P9 (by simp);have x0:=B9.cell 0;simp only[List.getElem?_cons_zero,List.getElem?_cons_succ] at x0;dsimp only;by_cases hz:E=0
     ·have hfin:JP w m (.returned (.tuple #[.string nm,v9,.int .i64 0])) w9:=by
       unfold JP;rw[hE.out,hl2.out,hnk.out (by rw[hE.out];exact hz),hnm.out,hz];exact⟨Q9,v9,rfl,V9.mono zo⟩
      subst hz;replace hfin:=AB hfin;go_wp2_with fail
      go_ret3
      exact hfin.out
     ·have hzb:(E !=0)=true:=by simpa using hz
      have hl0:l=[]:=by rw[←hl2.out];exact encR_bad (by rw[hE.out];exact hz)
      have hfin:JP w m (.returned (.tuple #[.string ⟨#[]⟩,.slice none 0 0,.int .i64 E])) w9:=LX w w9 m E (by rw[hpair.out,hl0]) hz Q9;replace hfin:=AB hfin;replace hl0:=AB hl0;replace hz:=AB hz;go_wp2_with fail
      go_ret3
      exact hfin.out
  ·have hEb:(E0 !=0)=true:=by simpa using hE
   have hfin:JP w m (.returned (.tuple #[.string ⟨#[]⟩,.slice none 0 0,.int .i64 E0])) w5:=LX w w5 m E0 (hea.out hE) hE Q5;replace hfin:=AB hfin;replace hE:=AB hE;go_wp2_with fail
   go_ret3
   exact hfin.out
 ·have OF:=rof_none m.kind hk w1;have hfin: ∀w',Only [] w w'→JP w m (.returned (.tuple #[.string ⟨#[]⟩,.slice none 0 0,.int .i64 8])) w':=fun w' P=>LX w w' m 8 (encR_none hk) (by decide) P;replace hfin:=AB hfin;replace hk:=AB hk;go_enter Tryz.func20,Tryz.ntmps20
  go_wp2_with fail
  rw[←hw1];replace hw1:=AB hw1;go_call OF as e w2 ⟨P2,rfl⟩
  go_wp2_with fail
  go_ret3
  exact hfin.out _ ((P1.trans P2 (by simp)).alloc _)
theorem flat8 (l:List Int):l.flatMap cu8=l.map (.int .u8):=by
 induction l with
 |nil=>rfl
 |cons x l ih=>rw[List.flatMap_cons,ih];rfl
theorem YU {w:World} {A:Option Addr} {l:List Int} (h:RdX cu8 w A l):Rd w A l:=fun h0=>by
 obtain⟨b,off,e,hlt,hc⟩:=h h0;exact⟨b,off,e,hlt,fun i v hi=>hc i _ (by rw[flat8,List.getElem?_map,hi];rfl)⟩
theorem XH {m:RQ} (w:World) (hm:m.ok w) (hs:m.text.size≤140737488355328) (hv:m.value.size≤140737488355328) (hl:m.lang.size≤140737488355328) {l:List Int} {nm:ByteArray} (e1:GG m=(0,l)) (e2:FL m=nm):Calls Tryz.prog 20 #[m.val] w fun e w'=>∃A cap,e = .returned (.tuple #[.string nm,.slice A l.length cap,.int .i64 0])∧Only [] w w'∧BM cu8 5 1 w' w.heap.size (.slice A l.length cap) l:=by
 refine(bT m w hm hs hv hl).mono fun e w' h=>?_;obtain⟨O,v,he,hO⟩:=h;rw[e1,e2] at he;rw[e1] at hO;have hX:BM cu8 5 1 w' w.heap.size v l:=by
  unfold BM;rw[flat8];exact hO
 obtain⟨A,cap,e3,_⟩:=hX.form;subst e3;exact⟨A,cap,he,O,hX⟩
def exeR:RQ:={ AK with kind:=4,text:=⟨#[99,97,116,32,120]⟩ }
def sigR:RQ:={ AK with kind:=8,text:=⟨#[73,78,84]⟩ }
theorem OK:GG exeR=(0,[0,0,0,5,99,97,116,32,120]):=by decide +kernel
theorem PS:GG sigR=(0,[0,0,0,3,73,78,84]):=by decide +kernel
theorem WQ:FL exeR=⟨#[101,120,101,99]⟩:=by
 unfold FL;rw[OK];rfl
theorem XN:FL sigR=⟨#[115,105,103,110,97,108]⟩:=by
 unfold FL;rw[PS];rfl
theorem aO (w:World) (m:RQ) (hm:m=exeR∨m=sigR):m.ok w:=by
 rcases hm with rfl|rfl;·exact { BQ w with text:=by decide,nums:=by simp[exeR,AK,U32,OB] }
 ·exact { BQ w with text:=by decide,nums:=by simp[sigR,AK,U32,OB] }
theorem TG {x:RQ} {E:Int} (h:BA ⟨#[101,120,101,99]⟩ [0,0,0,5,99,97,116,32,120] x E):E=0∧x.kind=4∧x.text=⟨#[99,97,116,32,120]⟩:=by
 have:=XG (m:=exeR) (x:=x) (E:=E) (by simp[exeR,AK,U32,OB]) (by rw[OK]) (by rw[OK,WQ];exact h);obtain⟨e,hs,_⟩:=this;exact⟨e,hs.kind.symm.trans rfl,hs.text.symm.trans rfl⟩
theorem KU {x:RQ} {E:Int} (h:BA ⟨#[115,105,103,110,97,108]⟩ [0,0,0,3,73,78,84] x E):E=0∧x.kind=8∧x.text=⟨#[73,78,84]⟩:=by
 have:=XG (m:=sigR) (x:=x) (E:=E) (by simp[sigR,AK,U32,OB]) (by rw[PS]) (by rw[PS,XN];exact h);obtain⟨e,hs,_⟩:=this;exact⟨e,hs.kind.symm.trans rfl,hs.text.symm.trans rfl⟩
def zS:SS:=⟨false,⟨#[]⟩,0,0,0,0,AJ,[],false⟩
def zS1:SS:={ zS with st:=true }
def psC:List PR:=[⟨⟨#[99,97,116]⟩,none,0,0⟩,⟨⟨#[115,104]⟩,none,0,0⟩]
theorem exA27 {x:RQ} (hk:x.kind=4) (ht:x.text=⟨#[99,97,116,32,120]⟩):BZ zS x 0 psC=(zS1,⟨true,1,0,0,0,0,0,0⟩):=by
 unfold BZ;rw[if_neg (by simp),hk];show CD zS (JX x.text) psC=_;rw[ht];kernel_rfl
theorem exB27 {x:RQ} (hk:x.kind=8) (ht:x.text=⟨#[73,78,84]⟩):BZ zS x 0 psC=(zS,noA):=by
 unfold BZ;rw[if_neg (by simp),hk];show PQ zS x=_;rfl
theorem exC27 {x:RQ} (hk:x.kind=8) (ht:x.text=⟨#[73,78,84]⟩):BZ zS1 x 0 psC=(zS1,⟨true,3,0,2,0,0,0,0⟩):=by
 unfold BZ;rw[if_neg (by simp),hk];show PQ zS1 x=_;unfold PQ;rw[ht];kernel_rfl
def busT:ByteArray:=⟨#[66,85,83,64,112,97,114,108,111,117,114]⟩
theorem end2007:endR 2007 = { AK with kind:=10,text:=busT,on:=true }:=by kernel_rfl
theorem end3:endR 3 = { AK with kind:=9,code:=3 }:=by kernel_rfl
theorem end1002:endR 1002 = { AK with kind:=10,text:=⟨#[73,78,84]⟩ }:=by kernel_rfl
theorem argD_be4 {a b c d:Int} {r:List Int} (ha:0≤a∧a<256) (hb:0≤b∧b<256) (hc:0≤c∧c<256) (hd:0≤d∧d<256):be4 (a::b::c::d::r)=LR a b c d:=by
 have sh: ∀(x:Int) (k:Int) (y:Int),0≤x→x<256→y=x*2 ^ min k.toNat 32→0≤y→y<4294967296→shD x k=y:=fun x k y h1 h2 h3 h4 h5=>by
  unfold shD;rw[u32_wrap_id x h1 (by omega)];show IntKind.u32.wrap (x*2 ^ min k.toNat 32)=y;rw[←h3];exact u32_wrap_id y h4 h5
 have s0:=sh a 24 (a*16777216) ha.1 ha.2 rfl (by omega) (by omega);have s1:=sh b 16 (b*65536) hb.1 hb.2 rfl (by omega) (by omega);have s2:=sh c 8 (c*256) hc.1 hc.2 rfl (by omega) (by omega);have s3:IntKind.u32.wrap d=d:=u32_wrap_id d hd.1 (by omega);have od: ∀x y,orD x y=bits .or .u32 x y:=fun _ _=>rfl;have o1:bits .or .u32 (a*16777216) (b*65536)=a*16777216+b*65536:=by rw[MQ (a*16777216) (b*65536) (by omega) (by omega) (by omega) (by omega),u32_or24 _ _ (by omega) (by omega) (by omega) (by omega) (by omega)];omega
 have o2:bits .or .u32 (a*16777216+b*65536) (c*256)=a*16777216+b*65536+c*256:=by rw[MQ (a*16777216+b*65536) (c*256) (by omega) (by omega) (by omega) (by omega),u32_or16 _ _ (by omega) (by omega) (by omega) (by omega) (by omega)];omega
 have o3:bits .or .u32 (a*16777216+b*65536+c*256) d=a*16777216+b*65536+c*256+d:=by rw[MQ (a*16777216+b*65536+c*256) d (by omega) (by omega) (by omega) (by omega),u32_or8 _ _ (by omega) (by omega) (by omega) (by omega) (by omega)];omega
 unfold LR;rw[s0,s1,s2,s3,od,od,od,o1,o2,o3];rfl
theorem WZ {t:TM} {op n:Int} (ht:0≤t.fl∧t.fl<18446744073709551616):0≤(HH t op n).1.fl∧(HH t op n).1.fl<18446744073709551616:=by
 unfold HH;split
 ·split;·exact⟨Int.le_refl _,by decide⟩
  ·exact ht
 ·split;·exact ht
  ·split;·exact ht
   ·exact set_rng ht
theorem LH (t:TM) (ht:0≤t.fl∧t.fl<18446744073709551616) (A:Option Addr) (c:Nat) (l:List Int) (w:World) (hr:RdU w A c l) (hb: ∀x∈l,0≤x∧x<256):Calls Tryz.prog 32 #[.slice A l.length c,t.val] w fun e w'=>e = .returned (.tuple #[(AO t l).1.val,.int .i64 (AO t l).2])∧Only [] w w':=by
 obtain⟨T,hT⟩: ∃T,T=AO t l:=⟨_,rfl⟩;rw[←hT];have J: ∀(q:Nat) (r:List Int),r.length≤q→∀(t1:TM),(0≤t1.fl∧t1.fl<18446744073709551616)→∀(A1:Option Addr) (c1 n1:Nat),r.length=n1→RdU w A1 c1 r→(∀x∈r,0≤x∧x<256)→T=AO t1 r→∀(b0 b1:Nat) (u:Nat→Value),Hs Tryz.prog 32 (fun e w'=>e = .returned (.tuple #[T.1.val,.int .i64 T.2])∧Only [] w w') (Tryz.f32).ntmps w [] [b0,b1] ⟨.no,AE Tryz.f32 0,BI [(0,.c (.v (.slice A1 n1 c1))),(3,.c (.p 0 0)),(4,.c (.p 1 0))] (.vals u),[.b true 28 t1.sc,.b true 28 AJ.sc]⟩:=by
  intro q;induction q with
  |zero=>
   intro r hq t1 ht1 A1 c1 n1 hn1 hr1 hb1 hT1 b0 b1 u;have h0:r=[]:=List.length_eq_zero_iff.1 (by omega);subst h0;subst hn1;rw[show AO t1 []=(t1,0) from rfl] at hT1;clear hT;subst hT1;refine Hs.eg [3,9] ?_;refine Hs.cF ?_;refine Hs.e0 ?_;exact Hs.rt (v:=.tuple #[t1.val,.int .i64 0]) Tryz.func32 fun w' H=>⟨rfl,H.only⟩
  |succ q ih=>
   intro r hq t1 ht1 A1 c1 n1 hn1 hr1 hb1 hT1 b0 b1 u;cases r with
   |nil=>
    subst hn1;rw[show AO t1 []=(t1,0) from rfl] at hT1;clear hT;subst hT1;refine Hs.eg [3,9] ?_;refine Hs.cF ?_;refine Hs.e0 ?_;exact Hs.rt (v:=.tuple #[t1.val,.int .i64 0]) Tryz.func32 fun w' H=>⟨rfl,H.only⟩
   |cons op r=>
    have hop:=hb1 op List.mem_cons_self;obtain⟨ab,ao,hA,_,_⟩:=hr1.1 (by simp);subst hA;have hn0:0<n1:=by rw[←hn1];simp
    have hw:IntKind.i64.wrap op=op:=IntWalk.i64_in _ (by omega);refine Hs.e0 ?_;refine Hs.bool 11 (decide ((n1:Int)>0)) (by kernel_rfl) (fun _=>?_) (fun h=>by simp at h;omega);refine Hs.eg [3] ?_;refine Hs.idx (b:=ab) (off:=ao) (len:=n1) (c:=c1) (i:=0) DS hn0 (by kernel_rfl) ?_;refine Hs.eg [3] ?_;refine Hs.ldc (E':=5) (b:=ab) (off:=ao+0*1) (.int .u8 op) (by kernel_rfl) (fun w' H=>LN (hr1.1.only H.only) rfl) (by kernel_rfl) ?_;have out:(op=0∨160≤op)→T=(t1,0):=fun h=>by
     rw[hT1];by_cases h4:r.length<4
     ·rw[IU h4,if_pos h]
     ·match r,h4 with
      |_::_::_::_::_,_=>unfold AO;rw[if_pos h]
      |[],h4=>exact absurd (by simp) h4
      |[_],h4=>exact absurd (by simp) h4
      |[_,_],h4=>exact absurd (by simp) h4
      |[_,_,_],h4=>exact absurd (by simp) h4
    refine Hs.eg [3] ?_;refine Hs.bool 17 (op !=0) (by kernel_rfl) (fun h1=>?_) (fun h1=>?_);rotate_left
    ·have e:=out (.inl (by simpa using h1));clear hT hT1 out;subst e;refine Hs.eg [3,9] ?_;refine Hs.cF ?_;refine Hs.e0 ?_;exact Hs.rt (v:=.tuple #[t1.val,.int .i64 0]) Tryz.func32 fun w' H=>⟨rfl,H.only⟩
    replace h1: ¬op=0:=by simpa using h1
    refine Hs.eg [3,9] ?_;refine Hs.idx (b:=ab) (off:=ao) (len:=n1) (c:=c1) (i:=0) DS hn0 (by kernel_rfl) ?_;refine Hs.eg [3,9] ?_;refine Hs.ldc (E':=5) (b:=ab) (off:=ao+0*1) (.int .u8 op) (by kernel_rfl) (fun w' H=>LN (hr1.1.only H.only) rfl) (by kernel_rfl) ?_;refine Hs.eg [3,9] ?_;refine Hs.cP (op<160) (fun h2=>?_) (fun h2=>?_);rotate_left
    ·have e:=out (.inr (by omega));clear hT hT1 out;subst e;refine Hs.e0 ?_;exact Hs.rt (v:=.tuple #[t1.val,.int .i64 0]) Tryz.func32 fun w' H=>⟨rfl,H.only⟩
    have hno: ¬(op=0∨160≤op):=fun h=>h.elim h1 (fun h=>by omega);clear out;refine Hs.e0 ?_;refine Hs.cP ((n1:Int)<5) (fun h3=>?_) (fun h3=>?_)
    ·have e:T=(AJ,3):=by
      rw[hT1,IU (by rw[List.length_cons] at hn1;omega),if_neg hno]
     clear hT hT1;subst e;refine Hs.e0 ?_;exact Hs.rt (v:=.tuple #[AJ.val,.int .i64 3]) Tryz.func32 fun w' H=>⟨rfl,H.only⟩
    match r,hn1,hr1,hb1,hq,hT1 with
    |[],hn1,_,_,_,_=>rw[List.length_cons,List.length_nil] at hn1;omega
    |[_],hn1,_,_,_,_=>simp at hn1;omega
    |[_,_],hn1,_,_,_,_=>simp at hn1;omega
    |[_,_,_],hn1,_,_,_,_=>simp at hn1;omega
    |a::b::c::d::r,hn1,hr1,hb1,hq,hT1=>
    rw[show AO t1 (op::a::b::c::d::r)=if op=0∨160≤op then(t1,0) else if(HH t1 op (LR a b c d)).2≠0 then(AJ,(HH t1 op (LR a b c d)).2) else AO (HH t1 op (LR a b c d)).1 r from rfl,if_neg hno] at hT1;have hlen:5≤n1:=by omega
    have hcl:n1≤c1:=by rw[←hn1];exact hr1.2.1
    have hr5:=US (i:=5) DM hr1.1 (by simp) (by rw[hn1];exact hcl);have hr1':=US (i:=1) DM hr1.1 (by simp) (by rw[hn1];exact hcl);have hbe:be4 (a::b::c::d::r)=LR a b c d:=argD_be4 (hb1 a (by simp)) (hb1 b (by simp)) (hb1 c (by simp)) (hb1 d (by simp));have hnum:=fun w' (H:Only [] w w')=>HZ (loA 1 (some ⟨ab,ao,none⟩) 1 c1) (a::b::c::d::r) (c1-1) w' (YU (hr1'.only H)) (by simp) (fun x hx=>hb1 x (List.mem_cons_of_mem _ hx));rw[hbe,show(a::b::c::d::r).length=n1-1 by rw[←hn1];simp] at hnum;have hih:=fun t2 h2 hT2 b0 b1 u=>ih r (by simp only[List.length_cons] at hq;omega) t2 h2 _ (c1-5) (n1-5) (by simp only[List.length_cons] at hn1;omega) ⟨hr5,by simp only[List.length_cons] at hn1;omega,by have:=hr1.2.2;omega⟩ (fun x hx=>hb1 x (by simp[hx])) hT2 b0 b1 u;clear ih;have hrng:=WZ (op:=op) (n:=LR a b c d) ht1;generalize LR a b c d=n at hT1 hnum hrng;have K: ∀u:Nat→Value,Hs Tryz.prog 32 (fun e w'=>e = .returned (.tuple #[T.1.val,.int .i64 T.2])∧Only [] w w') (Tryz.f32).ntmps w [] [b0,b1] ⟨.no,atR Tryz.f32 5,BI [(0,.c (.v (.slice (some ⟨ab,ao,none⟩) n1 c1))),(3,.c (.p 0 0)),(4,.c (.p 1 0)),(6,.c (.v (.int .i64 op))),(7,.c (.v (.int .u32 n)))] (.vals u),[.b true 28 t1.sc,.b true 28 AJ.sc]⟩:=by
     intro u;refine Hs.e0 ?_;refine Hs.lo DS (A:=some ⟨ab,ao,none⟩) (len:=n1) (cap:=c1) (i:=5) (by omega) (by kernel_rfl) ?_;clear hnum;by_cases h18:op≤18
     ·rcases c18 (by omega) h18 with rfl|rfl|rfl|rfl|rfl|rfl|rfl|rfl|rfl|rfl|rfl|rfl|rfl|rfl|rfl|rfl|rfl|rfl
      ·replace hT1:T=if(if n>255 then(AJ,(5:Int)) else({ t1 with ch:=fun i=>if i=1 then IntKind.u8.wrap n else t1.ch i },0)).2≠0 then(AJ,(if n>255 then(AJ,(5:Int)) else({ t1 with ch:=fun i=>if i=1 then IntKind.u8.wrap n else t1.ch i },0)).2) else AO (if n>255 then(AJ,(5:Int)) else({ t1 with ch:=fun i=>if i=1 then IntKind.u8.wrap n else t1.ch i },0)).1 r:=hT1
       refine Hs.e0 ?_;refine Hs.eg [2] ?_;refine Hs.cP (n>255) (fun h3=>?_) (fun h3=>?_)
       ·simp only[if_pos h3] at hT1;replace hT1:T=(AJ,5):=hT1;clear hT;subst hT1;refine Hs.e0 ?_;exact Hs.rt (v:=.tuple #[AJ.val,.int .i64 5]) Tryz.func32 fun w' H=>⟨rfl,H.only⟩
       ·simp only[if_neg h3] at hT1;replace hT1:T=AO { t1 with ch:=fun i=>if i=1 then IntKind.u8.wrap n else t1.ch i } r:=hT1;refine Hs.e0 ?_;refine Hs.cT ?_;refine Hs.e0 ?_;refine Hs.lP ?_;exact Hs.goto (AE Tryz.f32 0) [0,1] [.b true 28 (TM.sc ({ t1 with ch:=fun i=>if i=1 then IntKind.u8.wrap n else t1.ch i })),.b true 28 AJ.sc] [(0,.c (.v (.slice (loA 1 (some ⟨ab,ao,none⟩) 5 c1) (n1-5) (c1-5)))),(3,.c (.p 0 0)),(4,.c (.p 1 0))] (by kernel_rfl) (by decide) (by kernel_rfl) (by kernel_rfl) (fun _=>(by kernel_rfl)) (fun u=>hih ({ t1 with ch:=fun i=>if i=1 then IntKind.u8.wrap n else t1.ch i }) ht1 hT1 b0 b1 u)
      ·replace hT1:T=if(if n>255 then(AJ,(5:Int)) else({ t1 with ch:=fun i=>if i=2 then IntKind.u8.wrap n else t1.ch i },0)).2≠0 then(AJ,(if n>255 then(AJ,(5:Int)) else({ t1 with ch:=fun i=>if i=2 then IntKind.u8.wrap n else t1.ch i },0)).2) else AO (if n>255 then(AJ,(5:Int)) else({ t1 with ch:=fun i=>if i=2 then IntKind.u8.wrap n else t1.ch i },0)).1 r:=hT1
       refine Hs.e0 ?_;refine Hs.eg [2] ?_;refine Hs.cP (n>255) (fun h3=>?_) (fun h3=>?_)
       ·simp only[if_pos h3] at hT1;replace hT1:T=(AJ,5):=hT1;clear hT;subst hT1;refine Hs.e0 ?_;exact Hs.rt (v:=.tuple #[AJ.val,.int .i64 5]) Tryz.func32 fun w' H=>⟨rfl,H.only⟩
       ·simp only[if_neg h3] at hT1;replace hT1:T=AO { t1 with ch:=fun i=>if i=2 then IntKind.u8.wrap n else t1.ch i } r:=hT1;refine Hs.e0 ?_;refine Hs.cT ?_;refine Hs.e0 ?_;refine Hs.lP ?_;exact Hs.goto (AE Tryz.f32 0) [0,1] [.b true 28 (TM.sc ({ t1 with ch:=fun i=>if i=2 then IntKind.u8.wrap n else t1.ch i })),.b true 28 AJ.sc] [(0,.c (.v (.slice (loA 1 (some ⟨ab,ao,none⟩) 5 c1) (n1-5) (c1-5)))),(3,.c (.p 0 0)),(4,.c (.p 1 0))] (by kernel_rfl) (by decide) (by kernel_rfl) (by kernel_rfl) (fun _=>(by kernel_rfl)) (fun u=>hih ({ t1 with ch:=fun i=>if i=2 then IntKind.u8.wrap n else t1.ch i }) ht1 hT1 b0 b1 u)
      ·replace hT1:T=if(if n>255 then(AJ,(5:Int)) else({ t1 with ch:=fun i=>if i=3 then IntKind.u8.wrap n else t1.ch i },0)).2≠0 then(AJ,(if n>255 then(AJ,(5:Int)) else({ t1 with ch:=fun i=>if i=3 then IntKind.u8.wrap n else t1.ch i },0)).2) else AO (if n>255 then(AJ,(5:Int)) else({ t1 with ch:=fun i=>if i=3 then IntKind.u8.wrap n else t1.ch i },0)).1 r:=hT1
       refine Hs.e0 ?_;refine Hs.eg [2] ?_;refine Hs.cP (n>255) (fun h3=>?_) (fun h3=>?_)
       ·simp only[if_pos h3] at hT1;replace hT1:T=(AJ,5):=hT1;clear hT;subst hT1;refine Hs.e0 ?_;exact Hs.rt (v:=.tuple #[AJ.val,.int .i64 5]) Tryz.func32 fun w' H=>⟨rfl,H.only⟩
       ·simp only[if_neg h3] at hT1;replace hT1:T=AO { t1 with ch:=fun i=>if i=3 then IntKind.u8.wrap n else t1.ch i } r:=hT1;refine Hs.e0 ?_;refine Hs.cT ?_;refine Hs.e0 ?_;refine Hs.lP ?_;exact Hs.goto (AE Tryz.f32 0) [0,1] [.b true 28 (TM.sc ({ t1 with ch:=fun i=>if i=3 then IntKind.u8.wrap n else t1.ch i })),.b true 28 AJ.sc] [(0,.c (.v (.slice (loA 1 (some ⟨ab,ao,none⟩) 5 c1) (n1-5) (c1-5)))),(3,.c (.p 0 0)),(4,.c (.p 1 0))] (by kernel_rfl) (by decide) (by kernel_rfl) (by kernel_rfl) (fun _=>(by kernel_rfl)) (fun u=>hih ({ t1 with ch:=fun i=>if i=3 then IntKind.u8.wrap n else t1.ch i }) ht1 hT1 b0 b1 u)
      ·replace hT1:T=if(if n>255 then(AJ,(5:Int)) else({ t1 with ch:=fun i=>if i=4 then IntKind.u8.wrap n else t1.ch i },0)).2≠0 then(AJ,(if n>255 then(AJ,(5:Int)) else({ t1 with ch:=fun i=>if i=4 then IntKind.u8.wrap n else t1.ch i },0)).2) else AO (if n>255 then(AJ,(5:Int)) else({ t1 with ch:=fun i=>if i=4 then IntKind.u8.wrap n else t1.ch i },0)).1 r:=hT1
       refine Hs.e0 ?_;refine Hs.eg [2] ?_;refine Hs.cP (n>255) (fun h3=>?_) (fun h3=>?_)
       ·simp only[if_pos h3] at hT1;replace hT1:T=(AJ,5):=hT1;clear hT;subst hT1;refine Hs.e0 ?_;exact Hs.rt (v:=.tuple #[AJ.val,.int .i64 5]) Tryz.func32 fun w' H=>⟨rfl,H.only⟩
       ·simp only[if_neg h3] at hT1;replace hT1:T=AO { t1 with ch:=fun i=>if i=4 then IntKind.u8.wrap n else t1.ch i } r:=hT1;refine Hs.e0 ?_;refine Hs.cT ?_;refine Hs.e0 ?_;refine Hs.lP ?_;exact Hs.goto (AE Tryz.f32 0) [0,1] [.b true 28 (TM.sc ({ t1 with ch:=fun i=>if i=4 then IntKind.u8.wrap n else t1.ch i })),.b true 28 AJ.sc] [(0,.c (.v (.slice (loA 1 (some ⟨ab,ao,none⟩) 5 c1) (n1-5) (c1-5)))),(3,.c (.p 0 0)),(4,.c (.p 1 0))] (by kernel_rfl) (by decide) (by kernel_rfl) (by kernel_rfl) (fun _=>(by kernel_rfl)) (fun u=>hih ({ t1 with ch:=fun i=>if i=4 then IntKind.u8.wrap n else t1.ch i }) ht1 hT1 b0 b1 u)
      ·replace hT1:T=if(if n>255 then(AJ,(5:Int)) else({ t1 with ch:=fun i=>if i=5 then IntKind.u8.wrap n else t1.ch i },0)).2≠0 then(AJ,(if n>255 then(AJ,(5:Int)) else({ t1 with ch:=fun i=>if i=5 then IntKind.u8.wrap n else t1.ch i },0)).2) else AO (if n>255 then(AJ,(5:Int)) else({ t1 with ch:=fun i=>if i=5 then IntKind.u8.wrap n else t1.ch i },0)).1 r:=hT1
       refine Hs.e0 ?_;refine Hs.eg [2] ?_;refine Hs.cP (n>255) (fun h3=>?_) (fun h3=>?_)
       ·simp only[if_pos h3] at hT1;replace hT1:T=(AJ,5):=hT1;clear hT;subst hT1;refine Hs.e0 ?_;exact Hs.rt (v:=.tuple #[AJ.val,.int .i64 5]) Tryz.func32 fun w' H=>⟨rfl,H.only⟩
       ·simp only[if_neg h3] at hT1;replace hT1:T=AO { t1 with ch:=fun i=>if i=5 then IntKind.u8.wrap n else t1.ch i } r:=hT1;refine Hs.e0 ?_;refine Hs.cT ?_;refine Hs.e0 ?_;refine Hs.lP ?_;exact Hs.goto (AE Tryz.f32 0) [0,1] [.b true 28 (TM.sc ({ t1 with ch:=fun i=>if i=5 then IntKind.u8.wrap n else t1.ch i })),.b true 28 AJ.sc] [(0,.c (.v (.slice (loA 1 (some ⟨ab,ao,none⟩) 5 c1) (n1-5) (c1-5)))),(3,.c (.p 0 0)),(4,.c (.p 1 0))] (by kernel_rfl) (by decide) (by kernel_rfl) (by kernel_rfl) (fun _=>(by kernel_rfl)) (fun u=>hih ({ t1 with ch:=fun i=>if i=5 then IntKind.u8.wrap n else t1.ch i }) ht1 hT1 b0 b1 u)
      ·replace hT1:T=if(if n>255 then(AJ,(5:Int)) else({ t1 with ch:=fun i=>if i=6 then IntKind.u8.wrap n else t1.ch i },0)).2≠0 then(AJ,(if n>255 then(AJ,(5:Int)) else({ t1 with ch:=fun i=>if i=6 then IntKind.u8.wrap n else t1.ch i },0)).2) else AO (if n>255 then(AJ,(5:Int)) else({ t1 with ch:=fun i=>if i=6 then IntKind.u8.wrap n else t1.ch i },0)).1 r:=hT1
       refine Hs.e0 ?_;refine Hs.eg [2] ?_;refine Hs.cP (n>255) (fun h3=>?_) (fun h3=>?_)
       ·simp only[if_pos h3] at hT1;replace hT1:T=(AJ,5):=hT1;clear hT;subst hT1;refine Hs.e0 ?_;exact Hs.rt (v:=.tuple #[AJ.val,.int .i64 5]) Tryz.func32 fun w' H=>⟨rfl,H.only⟩
       ·simp only[if_neg h3] at hT1;replace hT1:T=AO { t1 with ch:=fun i=>if i=6 then IntKind.u8.wrap n else t1.ch i } r:=hT1;refine Hs.e0 ?_;refine Hs.cT ?_;refine Hs.e0 ?_;refine Hs.lP ?_;exact Hs.goto (AE Tryz.f32 0) [0,1] [.b true 28 (TM.sc ({ t1 with ch:=fun i=>if i=6 then IntKind.u8.wrap n else t1.ch i })),.b true 28 AJ.sc] [(0,.c (.v (.slice (loA 1 (some ⟨ab,ao,none⟩) 5 c1) (n1-5) (c1-5)))),(3,.c (.p 0 0)),(4,.c (.p 1 0))] (by kernel_rfl) (by decide) (by kernel_rfl) (by kernel_rfl) (fun _=>(by kernel_rfl)) (fun u=>hih ({ t1 with ch:=fun i=>if i=6 then IntKind.u8.wrap n else t1.ch i }) ht1 hT1 b0 b1 u)
      ·replace hT1:T=if(if n>255 then(AJ,(5:Int)) else({ t1 with ch:=fun i=>if i=7 then IntKind.u8.wrap n else t1.ch i },0)).2≠0 then(AJ,(if n>255 then(AJ,(5:Int)) else({ t1 with ch:=fun i=>if i=7 then IntKind.u8.wrap n else t1.ch i },0)).2) else AO (if n>255 then(AJ,(5:Int)) else({ t1 with ch:=fun i=>if i=7 then IntKind.u8.wrap n else t1.ch i },0)).1 r:=hT1
       refine Hs.e0 ?_;refine Hs.eg [2] ?_;refine Hs.cP (n>255) (fun h3=>?_) (fun h3=>?_)
       ·simp only[if_pos h3] at hT1;replace hT1:T=(AJ,5):=hT1;clear hT;subst hT1;refine Hs.e0 ?_;exact Hs.rt (v:=.tuple #[AJ.val,.int .i64 5]) Tryz.func32 fun w' H=>⟨rfl,H.only⟩
       ·simp only[if_neg h3] at hT1;replace hT1:T=AO { t1 with ch:=fun i=>if i=7 then IntKind.u8.wrap n else t1.ch i } r:=hT1;refine Hs.e0 ?_;refine Hs.cT ?_;refine Hs.e0 ?_;refine Hs.lP ?_;exact Hs.goto (AE Tryz.f32 0) [0,1] [.b true 28 (TM.sc ({ t1 with ch:=fun i=>if i=7 then IntKind.u8.wrap n else t1.ch i })),.b true 28 AJ.sc] [(0,.c (.v (.slice (loA 1 (some ⟨ab,ao,none⟩) 5 c1) (n1-5) (c1-5)))),(3,.c (.p 0 0)),(4,.c (.p 1 0))] (by kernel_rfl) (by decide) (by kernel_rfl) (by kernel_rfl) (fun _=>(by kernel_rfl)) (fun u=>hih ({ t1 with ch:=fun i=>if i=7 then IntKind.u8.wrap n else t1.ch i }) ht1 hT1 b0 b1 u)
      ·replace hT1:T=if(if n>255 then(AJ,(5:Int)) else({ t1 with ch:=fun i=>if i=8 then IntKind.u8.wrap n else t1.ch i },0)).2≠0 then(AJ,(if n>255 then(AJ,(5:Int)) else({ t1 with ch:=fun i=>if i=8 then IntKind.u8.wrap n else t1.ch i },0)).2) else AO (if n>255 then(AJ,(5:Int)) else({ t1 with ch:=fun i=>if i=8 then IntKind.u8.wrap n else t1.ch i },0)).1 r:=hT1
       refine Hs.e0 ?_;refine Hs.eg [2] ?_;refine Hs.cP (n>255) (fun h3=>?_) (fun h3=>?_)
       ·simp only[if_pos h3] at hT1;replace hT1:T=(AJ,5):=hT1;clear hT;subst hT1;refine Hs.e0 ?_;exact Hs.rt (v:=.tuple #[AJ.val,.int .i64 5]) Tryz.func32 fun w' H=>⟨rfl,H.only⟩
       ·simp only[if_neg h3] at hT1;replace hT1:T=AO { t1 with ch:=fun i=>if i=8 then IntKind.u8.wrap n else t1.ch i } r:=hT1;refine Hs.e0 ?_;refine Hs.cT ?_;refine Hs.e0 ?_;refine Hs.lP ?_;exact Hs.goto (AE Tryz.f32 0) [0,1] [.b true 28 (TM.sc ({ t1 with ch:=fun i=>if i=8 then IntKind.u8.wrap n else t1.ch i })),.b true 28 AJ.sc] [(0,.c (.v (.slice (loA 1 (some ⟨ab,ao,none⟩) 5 c1) (n1-5) (c1-5)))),(3,.c (.p 0 0)),(4,.c (.p 1 0))] (by kernel_rfl) (by decide) (by kernel_rfl) (by kernel_rfl) (fun _=>(by kernel_rfl)) (fun u=>hih ({ t1 with ch:=fun i=>if i=8 then IntKind.u8.wrap n else t1.ch i }) ht1 hT1 b0 b1 u)
      ·replace hT1:T=if(if n>255 then(AJ,(5:Int)) else({ t1 with ch:=fun i=>if i=9 then IntKind.u8.wrap n else t1.ch i },0)).2≠0 then(AJ,(if n>255 then(AJ,(5:Int)) else({ t1 with ch:=fun i=>if i=9 then IntKind.u8.wrap n else t1.ch i },0)).2) else AO (if n>255 then(AJ,(5:Int)) else({ t1 with ch:=fun i=>if i=9 then IntKind.u8.wrap n else t1.ch i },0)).1 r:=hT1
       refine Hs.e0 ?_;refine Hs.eg [2] ?_;refine Hs.cP (n>255) (fun h3=>?_) (fun h3=>?_)
       ·simp only[if_pos h3] at hT1;replace hT1:T=(AJ,5):=hT1;clear hT;subst hT1;refine Hs.e0 ?_;exact Hs.rt (v:=.tuple #[AJ.val,.int .i64 5]) Tryz.func32 fun w' H=>⟨rfl,H.only⟩
       ·simp only[if_neg h3] at hT1;replace hT1:T=AO { t1 with ch:=fun i=>if i=9 then IntKind.u8.wrap n else t1.ch i } r:=hT1;refine Hs.e0 ?_;refine Hs.cT ?_;refine Hs.e0 ?_;refine Hs.lP ?_;exact Hs.goto (AE Tryz.f32 0) [0,1] [.b true 28 (TM.sc ({ t1 with ch:=fun i=>if i=9 then IntKind.u8.wrap n else t1.ch i })),.b true 28 AJ.sc] [(0,.c (.v (.slice (loA 1 (some ⟨ab,ao,none⟩) 5 c1) (n1-5) (c1-5)))),(3,.c (.p 0 0)),(4,.c (.p 1 0))] (by kernel_rfl) (by decide) (by kernel_rfl) (by kernel_rfl) (fun _=>(by kernel_rfl)) (fun u=>hih ({ t1 with ch:=fun i=>if i=9 then IntKind.u8.wrap n else t1.ch i }) ht1 hT1 b0 b1 u)
      ·replace hT1:T=if(if n>255 then(AJ,(5:Int)) else({ t1 with ch:=fun i=>if i=10 then IntKind.u8.wrap n else t1.ch i },0)).2≠0 then(AJ,(if n>255 then(AJ,(5:Int)) else({ t1 with ch:=fun i=>if i=10 then IntKind.u8.wrap n else t1.ch i },0)).2) else AO (if n>255 then(AJ,(5:Int)) else({ t1 with ch:=fun i=>if i=10 then IntKind.u8.wrap n else t1.ch i },0)).1 r:=hT1
       refine Hs.e0 ?_;refine Hs.eg [2] ?_;refine Hs.cP (n>255) (fun h3=>?_) (fun h3=>?_)
       ·simp only[if_pos h3] at hT1;replace hT1:T=(AJ,5):=hT1;clear hT;subst hT1;refine Hs.e0 ?_;exact Hs.rt (v:=.tuple #[AJ.val,.int .i64 5]) Tryz.func32 fun w' H=>⟨rfl,H.only⟩
       ·simp only[if_neg h3] at hT1;replace hT1:T=AO { t1 with ch:=fun i=>if i=10 then IntKind.u8.wrap n else t1.ch i } r:=hT1;refine Hs.e0 ?_;refine Hs.cT ?_;refine Hs.e0 ?_;refine Hs.lP ?_;exact Hs.goto (AE Tryz.f32 0) [0,1] [.b true 28 (TM.sc ({ t1 with ch:=fun i=>if i=10 then IntKind.u8.wrap n else t1.ch i })),.b true 28 AJ.sc] [(0,.c (.v (.slice (loA 1 (some ⟨ab,ao,none⟩) 5 c1) (n1-5) (c1-5)))),(3,.c (.p 0 0)),(4,.c (.p 1 0))] (by kernel_rfl) (by decide) (by kernel_rfl) (by kernel_rfl) (fun _=>(by kernel_rfl)) (fun u=>hih ({ t1 with ch:=fun i=>if i=10 then IntKind.u8.wrap n else t1.ch i }) ht1 hT1 b0 b1 u)
      ·replace hT1:T=if(if n>255 then(AJ,(5:Int)) else({ t1 with ch:=fun i=>if i=11 then IntKind.u8.wrap n else t1.ch i },0)).2≠0 then(AJ,(if n>255 then(AJ,(5:Int)) else({ t1 with ch:=fun i=>if i=11 then IntKind.u8.wrap n else t1.ch i },0)).2) else AO (if n>255 then(AJ,(5:Int)) else({ t1 with ch:=fun i=>if i=11 then IntKind.u8.wrap n else t1.ch i },0)).1 r:=hT1
       refine Hs.e0 ?_;refine Hs.eg [2] ?_;refine Hs.cP (n>255) (fun h3=>?_) (fun h3=>?_)
       ·simp only[if_pos h3] at hT1;replace hT1:T=(AJ,5):=hT1;clear hT;subst hT1;refine Hs.e0 ?_;exact Hs.rt (v:=.tuple #[AJ.val,.int .i64 5]) Tryz.func32 fun w' H=>⟨rfl,H.only⟩
       ·simp only[if_neg h3] at hT1;replace hT1:T=AO { t1 with ch:=fun i=>if i=11 then IntKind.u8.wrap n else t1.ch i } r:=hT1;refine Hs.e0 ?_;refine Hs.cT ?_;refine Hs.e0 ?_;refine Hs.lP ?_;exact Hs.goto (AE Tryz.f32 0) [0,1] [.b true 28 (TM.sc ({ t1 with ch:=fun i=>if i=11 then IntKind.u8.wrap n else t1.ch i })),.b true 28 AJ.sc] [(0,.c (.v (.slice (loA 1 (some ⟨ab,ao,none⟩) 5 c1) (n1-5) (c1-5)))),(3,.c (.p 0 0)),(4,.c (.p 1 0))] (by kernel_rfl) (by decide) (by kernel_rfl) (by kernel_rfl) (fun _=>(by kernel_rfl)) (fun u=>hih ({ t1 with ch:=fun i=>if i=11 then IntKind.u8.wrap n else t1.ch i }) ht1 hT1 b0 b1 u)
      ·replace hT1:T=if(if n>255 then(AJ,(5:Int)) else({ t1 with ch:=fun i=>if i=12 then IntKind.u8.wrap n else t1.ch i },0)).2≠0 then(AJ,(if n>255 then(AJ,(5:Int)) else({ t1 with ch:=fun i=>if i=12 then IntKind.u8.wrap n else t1.ch i },0)).2) else AO (if n>255 then(AJ,(5:Int)) else({ t1 with ch:=fun i=>if i=12 then IntKind.u8.wrap n else t1.ch i },0)).1 r:=hT1
       refine Hs.e0 ?_;refine Hs.eg [2] ?_;refine Hs.cP (n>255) (fun h3=>?_) (fun h3=>?_)
       ·simp only[if_pos h3] at hT1;replace hT1:T=(AJ,5):=hT1;clear hT;subst hT1;refine Hs.e0 ?_;exact Hs.rt (v:=.tuple #[AJ.val,.int .i64 5]) Tryz.func32 fun w' H=>⟨rfl,H.only⟩
       ·simp only[if_neg h3] at hT1;replace hT1:T=AO { t1 with ch:=fun i=>if i=12 then IntKind.u8.wrap n else t1.ch i } r:=hT1;refine Hs.e0 ?_;refine Hs.cT ?_;refine Hs.e0 ?_;refine Hs.lP ?_;exact Hs.goto (AE Tryz.f32 0) [0,1] [.b true 28 (TM.sc ({ t1 with ch:=fun i=>if i=12 then IntKind.u8.wrap n else t1.ch i })),.b true 28 AJ.sc] [(0,.c (.v (.slice (loA 1 (some ⟨ab,ao,none⟩) 5 c1) (n1-5) (c1-5)))),(3,.c (.p 0 0)),(4,.c (.p 1 0))] (by kernel_rfl) (by decide) (by kernel_rfl) (by kernel_rfl) (fun _=>(by kernel_rfl)) (fun u=>hih ({ t1 with ch:=fun i=>if i=12 then IntKind.u8.wrap n else t1.ch i }) ht1 hT1 b0 b1 u)
      ·replace hT1:T=if(if n>255 then(AJ,(5:Int)) else({ t1 with ch:=fun i=>if i=13 then IntKind.u8.wrap n else t1.ch i },0)).2≠0 then(AJ,(if n>255 then(AJ,(5:Int)) else({ t1 with ch:=fun i=>if i=13 then IntKind.u8.wrap n else t1.ch i },0)).2) else AO (if n>255 then(AJ,(5:Int)) else({ t1 with ch:=fun i=>if i=13 then IntKind.u8.wrap n else t1.ch i },0)).1 r:=hT1
       refine Hs.e0 ?_;refine Hs.eg [2] ?_;refine Hs.cP (n>255) (fun h3=>?_) (fun h3=>?_)
       ·simp only[if_pos h3] at hT1;replace hT1:T=(AJ,5):=hT1;clear hT;subst hT1;refine Hs.e0 ?_;exact Hs.rt (v:=.tuple #[AJ.val,.int .i64 5]) Tryz.func32 fun w' H=>⟨rfl,H.only⟩
       ·simp only[if_neg h3] at hT1;replace hT1:T=AO { t1 with ch:=fun i=>if i=13 then IntKind.u8.wrap n else t1.ch i } r:=hT1;refine Hs.e0 ?_;refine Hs.cT ?_;refine Hs.e0 ?_;refine Hs.lP ?_;exact Hs.goto (AE Tryz.f32 0) [0,1] [.b true 28 (TM.sc ({ t1 with ch:=fun i=>if i=13 then IntKind.u8.wrap n else t1.ch i })),.b true 28 AJ.sc] [(0,.c (.v (.slice (loA 1 (some ⟨ab,ao,none⟩) 5 c1) (n1-5) (c1-5)))),(3,.c (.p 0 0)),(4,.c (.p 1 0))] (by kernel_rfl) (by decide) (by kernel_rfl) (by kernel_rfl) (fun _=>(by kernel_rfl)) (fun u=>hih ({ t1 with ch:=fun i=>if i=13 then IntKind.u8.wrap n else t1.ch i }) ht1 hT1 b0 b1 u)
      ·replace hT1:T=if(if n>255 then(AJ,(5:Int)) else({ t1 with ch:=fun i=>if i=14 then IntKind.u8.wrap n else t1.ch i },0)).2≠0 then(AJ,(if n>255 then(AJ,(5:Int)) else({ t1 with ch:=fun i=>if i=14 then IntKind.u8.wrap n else t1.ch i },0)).2) else AO (if n>255 then(AJ,(5:Int)) else({ t1 with ch:=fun i=>if i=14 then IntKind.u8.wrap n else t1.ch i },0)).1 r:=hT1
       refine Hs.e0 ?_;refine Hs.eg [2] ?_;refine Hs.cP (n>255) (fun h3=>?_) (fun h3=>?_)
       ·simp only[if_pos h3] at hT1;replace hT1:T=(AJ,5):=hT1;clear hT;subst hT1;refine Hs.e0 ?_;exact Hs.rt (v:=.tuple #[AJ.val,.int .i64 5]) Tryz.func32 fun w' H=>⟨rfl,H.only⟩
       ·simp only[if_neg h3] at hT1;replace hT1:T=AO { t1 with ch:=fun i=>if i=14 then IntKind.u8.wrap n else t1.ch i } r:=hT1;refine Hs.e0 ?_;refine Hs.cT ?_;refine Hs.e0 ?_;refine Hs.lP ?_;exact Hs.goto (AE Tryz.f32 0) [0,1] [.b true 28 (TM.sc ({ t1 with ch:=fun i=>if i=14 then IntKind.u8.wrap n else t1.ch i })),.b true 28 AJ.sc] [(0,.c (.v (.slice (loA 1 (some ⟨ab,ao,none⟩) 5 c1) (n1-5) (c1-5)))),(3,.c (.p 0 0)),(4,.c (.p 1 0))] (by kernel_rfl) (by decide) (by kernel_rfl) (by kernel_rfl) (fun _=>(by kernel_rfl)) (fun u=>hih ({ t1 with ch:=fun i=>if i=14 then IntKind.u8.wrap n else t1.ch i }) ht1 hT1 b0 b1 u)
      ·replace hT1:T=if(if n>255 then(AJ,(5:Int)) else({ t1 with ch:=fun i=>if i=15 then IntKind.u8.wrap n else t1.ch i },0)).2≠0 then(AJ,(if n>255 then(AJ,(5:Int)) else({ t1 with ch:=fun i=>if i=15 then IntKind.u8.wrap n else t1.ch i },0)).2) else AO (if n>255 then(AJ,(5:Int)) else({ t1 with ch:=fun i=>if i=15 then IntKind.u8.wrap n else t1.ch i },0)).1 r:=hT1
       refine Hs.e0 ?_;refine Hs.eg [2] ?_;refine Hs.cP (n>255) (fun h3=>?_) (fun h3=>?_)
       ·simp only[if_pos h3] at hT1;replace hT1:T=(AJ,5):=hT1;clear hT;subst hT1;refine Hs.e0 ?_;exact Hs.rt (v:=.tuple #[AJ.val,.int .i64 5]) Tryz.func32 fun w' H=>⟨rfl,H.only⟩
       ·simp only[if_neg h3] at hT1;replace hT1:T=AO { t1 with ch:=fun i=>if i=15 then IntKind.u8.wrap n else t1.ch i } r:=hT1;refine Hs.e0 ?_;refine Hs.cT ?_;refine Hs.e0 ?_;refine Hs.lP ?_;exact Hs.goto (AE Tryz.f32 0) [0,1] [.b true 28 (TM.sc ({ t1 with ch:=fun i=>if i=15 then IntKind.u8.wrap n else t1.ch i })),.b true 28 AJ.sc] [(0,.c (.v (.slice (loA 1 (some ⟨ab,ao,none⟩) 5 c1) (n1-5) (c1-5)))),(3,.c (.p 0 0)),(4,.c (.p 1 0))] (by kernel_rfl) (by decide) (by kernel_rfl) (by kernel_rfl) (fun _=>(by kernel_rfl)) (fun u=>hih ({ t1 with ch:=fun i=>if i=15 then IntKind.u8.wrap n else t1.ch i }) ht1 hT1 b0 b1 u)
      ·replace hT1:T=if(if n>255 then(AJ,(5:Int)) else({ t1 with ch:=fun i=>if i=16 then IntKind.u8.wrap n else t1.ch i },0)).2≠0 then(AJ,(if n>255 then(AJ,(5:Int)) else({ t1 with ch:=fun i=>if i=16 then IntKind.u8.wrap n else t1.ch i },0)).2) else AO (if n>255 then(AJ,(5:Int)) else({ t1 with ch:=fun i=>if i=16 then IntKind.u8.wrap n else t1.ch i },0)).1 r:=hT1
       refine Hs.e0 ?_;refine Hs.eg [2] ?_;refine Hs.cP (n>255) (fun h3=>?_) (fun h3=>?_)
       ·simp only[if_pos h3] at hT1;replace hT1:T=(AJ,5):=hT1;clear hT;subst hT1;refine Hs.e0 ?_;exact Hs.rt (v:=.tuple #[AJ.val,.int .i64 5]) Tryz.func32 fun w' H=>⟨rfl,H.only⟩
       ·simp only[if_neg h3] at hT1;replace hT1:T=AO { t1 with ch:=fun i=>if i=16 then IntKind.u8.wrap n else t1.ch i } r:=hT1;refine Hs.e0 ?_;refine Hs.cT ?_;refine Hs.e0 ?_;refine Hs.lP ?_;exact Hs.goto (AE Tryz.f32 0) [0,1] [.b true 28 (TM.sc ({ t1 with ch:=fun i=>if i=16 then IntKind.u8.wrap n else t1.ch i })),.b true 28 AJ.sc] [(0,.c (.v (.slice (loA 1 (some ⟨ab,ao,none⟩) 5 c1) (n1-5) (c1-5)))),(3,.c (.p 0 0)),(4,.c (.p 1 0))] (by kernel_rfl) (by decide) (by kernel_rfl) (by kernel_rfl) (fun _=>(by kernel_rfl)) (fun u=>hih ({ t1 with ch:=fun i=>if i=16 then IntKind.u8.wrap n else t1.ch i }) ht1 hT1 b0 b1 u)
      ·replace hT1:T=if(if n>255 then(AJ,(5:Int)) else({ t1 with ch:=fun i=>if i=17 then IntKind.u8.wrap n else t1.ch i },0)).2≠0 then(AJ,(if n>255 then(AJ,(5:Int)) else({ t1 with ch:=fun i=>if i=17 then IntKind.u8.wrap n else t1.ch i },0)).2) else AO (if n>255 then(AJ,(5:Int)) else({ t1 with ch:=fun i=>if i=17 then IntKind.u8.wrap n else t1.ch i },0)).1 r:=hT1
       refine Hs.e0 ?_;refine Hs.eg [2] ?_;refine Hs.cP (n>255) (fun h3=>?_) (fun h3=>?_)
       ·simp only[if_pos h3] at hT1;replace hT1:T=(AJ,5):=hT1;clear hT;subst hT1;refine Hs.e0 ?_;exact Hs.rt (v:=.tuple #[AJ.val,.int .i64 5]) Tryz.func32 fun w' H=>⟨rfl,H.only⟩
       ·simp only[if_neg h3] at hT1;replace hT1:T=AO { t1 with ch:=fun i=>if i=17 then IntKind.u8.wrap n else t1.ch i } r:=hT1;refine Hs.e0 ?_;refine Hs.cT ?_;refine Hs.e0 ?_;refine Hs.lP ?_;exact Hs.goto (AE Tryz.f32 0) [0,1] [.b true 28 (TM.sc ({ t1 with ch:=fun i=>if i=17 then IntKind.u8.wrap n else t1.ch i })),.b true 28 AJ.sc] [(0,.c (.v (.slice (loA 1 (some ⟨ab,ao,none⟩) 5 c1) (n1-5) (c1-5)))),(3,.c (.p 0 0)),(4,.c (.p 1 0))] (by kernel_rfl) (by decide) (by kernel_rfl) (by kernel_rfl) (fun _=>(by kernel_rfl)) (fun u=>hih ({ t1 with ch:=fun i=>if i=17 then IntKind.u8.wrap n else t1.ch i }) ht1 hT1 b0 b1 u)
      ·replace hT1:T=if(if n>255 then(AJ,(5:Int)) else({ t1 with ch:=fun i=>if i=18 then IntKind.u8.wrap n else t1.ch i },0)).2≠0 then(AJ,(if n>255 then(AJ,(5:Int)) else({ t1 with ch:=fun i=>if i=18 then IntKind.u8.wrap n else t1.ch i },0)).2) else AO (if n>255 then(AJ,(5:Int)) else({ t1 with ch:=fun i=>if i=18 then IntKind.u8.wrap n else t1.ch i },0)).1 r:=hT1
       refine Hs.e0 ?_;refine Hs.eg [2] ?_;refine Hs.cP (n>255) (fun h3=>?_) (fun h3=>?_)
       ·simp only[if_pos h3] at hT1;replace hT1:T=(AJ,5):=hT1;clear hT;subst hT1;refine Hs.e0 ?_;exact Hs.rt (v:=.tuple #[AJ.val,.int .i64 5]) Tryz.func32 fun w' H=>⟨rfl,H.only⟩
       ·simp only[if_neg h3] at hT1;replace hT1:T=AO { t1 with ch:=fun i=>if i=18 then IntKind.u8.wrap n else t1.ch i } r:=hT1;refine Hs.e0 ?_;refine Hs.cT ?_;refine Hs.e0 ?_;refine Hs.lP ?_;exact Hs.goto (AE Tryz.f32 0) [0,1] [.b true 28 (TM.sc ({ t1 with ch:=fun i=>if i=18 then IntKind.u8.wrap n else t1.ch i })),.b true 28 AJ.sc] [(0,.c (.v (.slice (loA 1 (some ⟨ab,ao,none⟩) 5 c1) (n1-5) (c1-5)))),(3,.c (.p 0 0)),(4,.c (.p 1 0))] (by kernel_rfl) (by decide) (by kernel_rfl) (by kernel_rfl) (fun _=>(by kernel_rfl)) (fun u=>hih ({ t1 with ch:=fun i=>if i=18 then IntKind.u8.wrap n else t1.ch i }) ht1 hT1 b0 b1 u)
     ·have e:HH t1 op n=if op==128 then({ t1 with inn:=n },0) else if op==129 then({ t1 with out:=n },0) else(t1.set op (n !=0),0):=by unfold HH;rw[if_neg h18]
      rw[e] at hT1 hrng;refine Hs.e0 ?_;refine Hs.bool 44 (decide (op≤18)) (by kernel_rfl) (fun h=>absurd (of_decide_eq_true h) h18) (fun _=>?_);refine Hs.eg [2] ?_;refine Hs.cF ?_;refine Hs.e0 ?_;refine Hs.cP (op≤18) (fun h=>absurd h h18) (fun _=>?_);refine Hs.e0 ?_;refine Hs.cn (op==128) (fun h4=>?_) (fun h4=>?_)
      ·simp only[if_pos h4] at hT1 hrng;replace hT1:T=AO { t1 with inn:=n } r:=hT1;refine Hs.e0 ?_;refine Hs.lP ?_;exact Hs.goto (AE Tryz.f32 0) [0,1] [.b true 28 (TM.sc ({ t1 with inn:=n })),.b true 28 AJ.sc] [(0,.c (.v (.slice (loA 1 (some ⟨ab,ao,none⟩) 5 c1) (n1-5) (c1-5)))),(3,.c (.p 0 0)),(4,.c (.p 1 0))] (by kernel_rfl) (by decide) (by kernel_rfl) (by kernel_rfl) (fun _=>(by kernel_rfl)) (fun u=>hih ({ t1 with inn:=n }) hrng hT1 b0 b1 u)
      simp only[if_neg (show¬(op==128)=true by rw[h4];decide)] at hT1 hrng;refine Hs.e0 ?_;refine Hs.cn (op==129) (fun h5=>?_) (fun h5=>?_)
      ·simp only[if_pos h5] at hT1 hrng;replace hT1:T=AO { t1 with out:=n } r:=hT1;refine Hs.e0 ?_;refine Hs.lP ?_;exact Hs.goto (AE Tryz.f32 0) [0,1] [.b true 28 (TM.sc ({ t1 with out:=n })),.b true 28 AJ.sc] [(0,.c (.v (.slice (loA 1 (some ⟨ab,ao,none⟩) 5 c1) (n1-5) (c1-5)))),(3,.c (.p 0 0)),(4,.c (.p 1 0))] (by kernel_rfl) (by decide) (by kernel_rfl) (by kernel_rfl) (fun _=>(by kernel_rfl)) (fun u=>hih ({ t1 with out:=n }) hrng hT1 b0 b1 u)
      simp only[if_neg (show¬(op==129)=true by rw[h5];decide)] at hT1 hrng;replace hT1:T=AO (t1.set op (n !=0)) r:=hT1;refine Hs.e0 ?_;refine Hs.cV (v:=(t1.set op (n !=0)).val) (fun w' H=>CV t1 ht1 op (n !=0) w') ?_;refine Hs.e0 ?_;refine Hs.lP ?_;exact Hs.goto (AE Tryz.f32 0) [0,1] [.b true 28 (TM.sc (t1.set op (n !=0))),.b true 28 AJ.sc] [(0,.c (.v (.slice (loA 1 (some ⟨ab,ao,none⟩) 5 c1) (n1-5) (c1-5)))),(3,.c (.p 0 0)),(4,.c (.p 1 0))] (by kernel_rfl) (by decide) (by kernel_rfl) (by kernel_rfl) (fun _=>(by kernel_rfl)) (fun u=>hih (t1.set op (n !=0)) hrng hT1 b0 b1 u)
    refine Hs.e0 ?_;refine Hs.any [] (by kernel_rfl) ?_;refine Hs.e0 ?_;refine Hs.takeIdx (rd:=[]) 1 DS (b:=ab) (off:=ao) (c:=c1) (len:=n1) (i:=0) hn0 (by kernel_rfl) ?_;refine Hs.takeLo (rd:=[]) 5 DS (A:=some ⟨ab,ao,none⟩) (len:=n1) (cap:=c1) (i:=1) (by omega) (by kernel_rfl) ?_;refine Hs.branch2 2 6 (by kernel_rfl) ?_ ?_
    ·refine Hs.ldc (E':=5) (b:=ab) (off:=ao+0*1) (.int .u8 op) (by kernel_rfl) (fun w' H=>LN (hr1.1.only H.only) rfl) (by kernel_rfl) ?_;refine Hs.run0 1 (fun _=>by kernel_rfl) ?_;refine Hs.slot 30 (.c (.v (.int .i64 op))) rfl ((by kernel_rfl:_=Value.int .i64 (IntKind.i64.wrap op)).trans (by rw[hw];rfl)) ?_;refine Hs.e0 ?_;refine Hs.cV (fun w' H=>hnum w' H.only) ?_;refine Hs.runR0 5 [] 300 (fun _=>by kernel_rfl) ?_;exact Hs.goto (atR Tryz.f32 5) [0,1] [.b true 28 t1.sc,.b true 28 AJ.sc] [(0,.c (.v (.slice (some ⟨ab,ao,none⟩) n1 c1))),(3,.c (.p 0 0)),(4,.c (.p 1 0)),(6,.c (.v (.int .i64 op))),(7,.c (.v (.int .u32 n)))] (by kernel_rfl) (by decide) (by kernel_rfl) (by kernel_rfl) (fun _=>(by kernel_rfl)) K
    ·refine Hs.cV (fun w' H=>hnum w' H.only) ?_;refine Hs.e0 ?_;refine Hs.ldc (E':=5) (b:=ab) (off:=ao+0*1) (.int .u8 op) (by kernel_rfl) (fun w' H=>LN (hr1.1.only H.only) rfl) (by kernel_rfl) ?_;refine Hs.run0 1 (fun _=>by kernel_rfl) ?_;refine Hs.slot 30 (.c (.v (.int .i64 op))) rfl ((by kernel_rfl:_=Value.int .i64 (IntKind.i64.wrap op)).trans (by rw[hw];rfl)) ?_;refine Hs.runR0 5 [] 300 (fun _=>by kernel_rfl) ?_;exact Hs.goto (atR Tryz.f32 5) [0,1] [.b true 28 t1.sc,.b true 28 AJ.sc] [(0,.c (.v (.slice (some ⟨ab,ao,none⟩) n1 c1))),(3,.c (.p 0 0)),(4,.c (.p 1 0)),(6,.c (.v (.int .i64 op))),(7,.c (.v (.int .u32 n)))] (by kernel_rfl) (by decide) (by kernel_rfl) (by kernel_rfl) (fun _=>(by kernel_rfl)) K
 refine Hs.en Tryz.func32 [] [] [] [.c (.v (.slice A l.length c)),.g t.sc] (Mem.start0 w) ?_;refine Hs.e2 fun b0 b1=>?_;refine Hs.lP ?_;exact Hs.goto (AE Tryz.f32 0) [0,1] [.b true 28 t.sc,.b true 28 AJ.sc] [(0,.c (.v (.slice A l.length c))),(3,.c (.p 0 0)),(4,.c (.p 1 0))] (by kernel_rfl) (by decide) (by kernel_rfl) (by kernel_rfl) (fun _=>(by kernel_rfl)) (fun u=>J l.length l (Nat.le_refl _) t ht A c l.length rfl hr hb hT b0 b1 u)
end Go.Proofs.YtdplnedpbkpgpaaGreatDoor
