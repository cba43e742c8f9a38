/- TracePlays: lemmas, from 'Layer 29: what a client hears, in the document's answer' on; what each asks for stands in it. -/
import Derived.Test.YtkgikodiecmakaaGreatDoorTpM
import Derived.Test.YtkgikodiecmakaaGreatDoorTpJ
import Derived.Test.YtkgikodiecmakaaGreatDoorTpR
import Derived.Test.YtkgikodiecmakaaGreatDoorTpK
set_option linter.all false
set_option maxRecDepth 100000
set_option maxHeartbeats 64000000
namespace Go.Proofs.YtkgikodiecmakaaGreatDoor
open Go.RowKit Go.MapKept
def JH (k:Int):Prop:=93≤k∧k≤100
inductive HearsR (m : MD) (R : RS) : RS → Int → Prop
  | dead (hd : R.dead = true) : HearsR m R R 9
  | left (hd : R.dead = false) (hk : m.kind = 1) : HearsR m R { R with dead := true } 0
  | g0 (hd : R.dead = false) (hk : m.kind = 81 ∨ m.kind = 82) (hg : R.glob = 0) : HearsR m R R 9
  | g1 (hd : R.dead = false) (hk : m.kind = 81 ∨ m.kind = 82) (hg : R.glob ≠ 0) : HearsR m R { R with glob := IntKind.i64.wrap (R.glob - 1) } 0
  | ans (hd : R.dead = false) (hk : m.kind = 91 ∨ m.kind = 92) {R' : RS} {e : Int} (h : AnsR m R R' e) : HearsR m R R' e
  | kind (hd : R.dead = false) (hk : OP m.kind) (h : ¬ JH m.kind) : HearsR m R R 2
  | no (hd : R.dead = false) (hk : JH m.kind) (h : ∀ x ∈ R.ends, x.chan ≠ m.chan) : HearsR m R R 8
  | clo (hd : R.dead = false) (hk : JH m.kind) {j : Nat} {x : EN} (hj : R.ends[j]? = some x) (hx : x.chan = m.chan) (hc : x.closed = true) : HearsR m R R 9
  | same (hd : R.dead = false) (hk : JH m.kind) {j : Nat} {x : EN} {e : Int} (hj : R.ends[j]? = some x) (hx : x.chan = m.chan) (hc : x.closed = false) (h : GO x m (okEx m) = (x, e)) : HearsR m R R e
  | turn (hd : R.dead = false) (hk : JH m.kind) {j : Nat} {x y : EN} (hj : R.ends[j]? = some x) (hx : x.chan = m.chan) (hc : x.closed = false) (h : GO x m (okEx m) = (y, 0)) : HearsR m R { R with ends := R.ends.set j y } 0
def NumOk (x:EN):Prop:=U32 x.packet∧0≤x.sent∧x.sent≤x.granted∧x.granted≤4611686018427387904
theorem VC (q:Nat) (P:RP) (opens:List MD) (glob:Int) (ends:List EN) (nums:List (Int×Int)) (m:MD) (w:World) (h:RAt w q P ⟨opens,glob,ends,nums,false⟩) (hno:opens.length≤1000) (hne:ends.length≤1000) (hnn:nums.length≤1000) (hwin: ∀o∈opens,U32 o.window) (hnum: ∀x∈ends,NumOk x) (hm:GC w (P.fp q) (fun w=>m.ok w)) (hml:m.data.length≤140737488355000) (hal:OP m.kind):Calls Tryz.prog 11 #[AO q,m.val] w (ET q P (fun z:Int=>.int .i64 z) (fun R' z=>HearsR m ⟨opens,glob,ends,nums,false⟩ R' z) w):=by
 have h0:=h.start;have hbytes:InB m.data:=hm.at.bytes;obtain⟨n1,n2,n3,n4,n5⟩:=hal;have hal:OP m.kind:=⟨n1,n2,n3,n4,n5⟩;obtain⟨no,e1⟩: ∃n,opens.length=n:=⟨_,rfl⟩;obtain⟨ne,e2⟩: ∃n,ends.length=n:=⟨_,rfl⟩;obtain⟨nn,e3⟩: ∃n,nums.length=n:=⟨_,rfl⟩;dsimp only at h0;rw[e1,e2,e3] at h0;rw[e1] at hno;rw[e2] at hne;rw[e3] at hnn;obtain⟨oA,oc,eA,ec,nA,nc⟩:=P;have hx: ∀(P':RP) (R':RS) (no ne nn:Nat) (z:Int) (w':World),Mem w ((RP.mk oA oc eA ec nA nc).fp q) [q,0,0,0] (R'.hp P' no ne nn) w'→R'.opens.length=no→R'.ends.length=ne→R'.nums.length=nn→HearsR m ⟨opens,glob,ends,nums,false⟩ R' z→ET q ⟨oA,oc,eA,ec,nA,nc⟩ (fun z:Int=>.int .i64 z) (fun R' z=>HearsR m ⟨opens,glob,ends,nums,false⟩ R' z) w (.returned (.int .i64 z)) w':=fun P' R' no ne nn z w' H a b c d=>RAt.post (v:=fun z:Int=>.int .i64 z) (Rel:=fun R' z=>HearsR m ⟨opens,glob,ends,nums,false⟩ R' z) H a b c z d;obtain⟨Q,hQ⟩: ∃Q,ET q ⟨oA,oc,eA,ec,nA,nc⟩ (fun z:Int=>.int .i64 z) (fun R' z=>HearsR m ⟨opens,glob,ends,nums,false⟩ R' z) w=Q:=⟨_,rfl⟩;rw[hQ] at hx⊢;obtain⟨B,hB⟩: ∃B,(RP.mk oA oc eA ec nA nc).fp q=B:=⟨_,rfl⟩;rw[hB] at h0 hx hm;refine Hs.en Tryz.func11 B [q,0,0,0] [.b true 32 [.v (.slice oA no oc),.v (.int .i64 glob),.v (.slice eA ne ec),.v (.slice nA nn nc),.v (.bool false)],.s oA oc no 36 10 (opens.flatMap MD.cells),.s eA ec ne 61 8 (ends.flatMap EN.cells),.s nA nc nn 59 2 (nums.flatMap cN2)] [.c (.p 0 0),.g (mdS m)] h0 ?_;have K: ∀(b0:Nat),JH m.kind→∀u:Nat→Value,Hs Tryz.prog 11 Q (Tryz.f11).ntmps w B [q,0,0,0,b0] ⟨.no,atR Tryz.f11 25,GV [(0,.c (.p 0 0)),(3,.c (.p 4 0))] (.vals u),[.b true 32 [.v (.slice oA no oc),.v (.int .i64 glob),.v (.slice eA ne ec),.v (.slice nA nn nc),.v (.bool false)],.s oA oc no 36 10 (opens.flatMap MD.cells),.s eA ec ne 61 8 (ends.flatMap EN.cells),.s nA nc nn 59 2 (nums.flatMap cN2),.b true 36 (mdS m)]⟩:=by
  intro b0 hk2 u;refine Hs.e0 ?_;refine Hs.callX (X:=Int) (fun k=>.int .i64 k) (fun k=>VH ends m.chan k) (fun w' H=>(MO q m.chan ⟨oA,oc,eA,ec,nA,nc⟩ no glob ends ne nn false w' (H.at 0 (wr:=true) (T:=32) (cs:=[.v (.slice oA no oc),.v (.int .i64 glob),.v (.slice eA ne ec),.v (.slice nA nn nc),.v (.bool false)]) (by kernel_rfl)) (H.rdX (cf:=EN.cells) (l:=ends) 2 e2 (A:=eA) (cap:=ec) (E:=61) (size:=8) (by kernel_rfl)) e2 (by unfold maxLen;omega)).mono fun e w2 ⟨k,h1,h2,h3⟩=>⟨k,h1,h2,h3⟩) (by kernel_rfl) fun z hz=>?_;refine Hs.e0 ?_;rcases hz with⟨rfl,hz⟩|⟨je,x,rfl,hxe,hxc⟩
  ·refine Hs.cT ?_;refine Hs.e0 ?_;refine Hs.rt (v:=.int .i64 8) Tryz.func11 fun w' H=>?_;exact hx ⟨oA,oc,eA,ec,nA,nc⟩ ⟨opens,glob,ends,nums,false⟩ no ne nn 8 w' (H.sub [0,1,2,3] (by decide) (hp':=RS.hp ⟨oA,oc,eA,ec,nA,nc⟩ ⟨opens,glob,ends,nums,false⟩ no ne nn) (by kernel_rfl)) e1 e2 e3 (.no rfl hk2 hz)
  refine Hs.cP ((je:Int)<0) (fun h=>by omega) (fun _=>?_);have hjl:je<ne:=by have:=(List.getElem?_eq_some_iff.1 hxe).1;omega
  refine Hs.someS (A:=eA) (cap:=ec) (nl:=ne) (E:=61) (size:=8) (vs:=ends.flatMap EN.cells) 2 (by kernel_rfl) (by omega) fun ge hA=>?_;subst hA;obtain⟨p1,p2,p3,p4⟩:=hnum x (List.mem_of_getElem? hxe);refine Hs.e0 ?_;refine Hs.idx EC (b:=ge) (off:=0) (c:=ec) (len:=ne) (i:=je) hjl (by kernel_rfl) ?_;refine Hs.e0 ?_;refine Hs.ldc (E':=4) (b:=ge) (off:=0+je*8+5) (.bool x.closed) (by kernel_rfl) (fun w' H=>BW AU (H.rdX (cf:=EN.cells) (l:=ends) 2 e2 (A:=some ⟨ge,0,none⟩) (cap:=ec) (E:=61) (size:=8) (by kernel_rfl)) (i:=je) (x:=x) hxe (j:=5) (v:=.bool x.closed) rfl) (by kernel_rfl) ?_;refine Hs.e0 ?_;refine Hs.cn x.closed (fun hcl=>?_) (fun hcl=>?_)
  ·refine Hs.e0 ?_;refine Hs.rt (v:=.int .i64 9) Tryz.func11 fun w' H=>?_;exact hx ⟨oA,oc,some ⟨ge,0,none⟩,ec,nA,nc⟩ ⟨opens,glob,ends,nums,false⟩ no ne nn 9 w' (H.sub [0,1,2,3] (by decide) (hp':=RS.hp ⟨oA,oc,some ⟨ge,0,none⟩,ec,nA,nc⟩ ⟨opens,glob,ends,nums,false⟩ no ne nn) (by kernel_rfl)) e1 e2 e3 (.clo rfl hk2 hxe hxc hcl)
  have KD:(m.kind=94∨m.kind=95)→∀u:Nat→Value,Hs Tryz.prog 11 Q (Tryz.f11).ntmps w B [q,0,0,0,b0] ⟨.no,atR Tryz.f11 34,GV [(0,.c (.p 0 0)),(3,.c (.p 4 0)),(6,.c (.v (.pointer (some ⟨ge,0+je*8,none⟩))))] (.vals u),[.b true 32 [.v (.slice oA no oc),.v (.int .i64 glob),.v (.slice (some ⟨ge,0,none⟩) ne ec),.v (.slice nA nn nc),.v (.bool false)],.s oA oc no 36 10 (opens.flatMap MD.cells),.s (some ⟨ge,0,none⟩) ec ne 61 8 (ends.flatMap EN.cells),.s nA nc nn 59 2 (nums.flatMap cN2),.b true 36 (mdS m)]⟩:=by
   intro hd2 u;have hn:IntKind.u64.wrap (m.data.length:Int)=(m.data.length:Int):=by rw[IntKind.wrap_u64];omega
   have g2:IntKind.u64.wrap x.packet=x.packet:=by rw[IntKind.wrap_u64];unfold U32 at p1;omega
   have g3:IntKind.u64.wrap (x.granted-x.sent)=x.granted-x.sent:=by rw[IntKind.wrap_u64];omega
   have g4:IntKind.u64.wrap (x.sent+(m.data.length:Int))=x.sent+(m.data.length:Int):=by rw[IntKind.wrap_u64];omega
   refine Hs.e0 ?_;refine Hs.ldc (E':=4) (b:=ge) (off:=0+je*8+4) (.bool x.eof) (by kernel_rfl) (fun w' H=>BW AU (H.rdX (cf:=EN.cells) (l:=ends) 2 e2 (A:=some ⟨ge,0,none⟩) (cap:=ec) (E:=61) (size:=8) (by kernel_rfl)) (i:=je) (x:=x) hxe (j:=4) (v:=.bool x.eof) rfl) (by kernel_rfl) ?_;refine Hs.e0 ?_;refine Hs.cn x.eof (fun h3=>?_) (fun h3=>?_)
   ·refine Hs.e0 ?_;refine Hs.rt (v:=.int .i64 9) Tryz.func11 fun w' H=>?_;exact hx ⟨oA,oc,some ⟨ge,0,none⟩,ec,nA,nc⟩ ⟨opens,glob,ends,nums,false⟩ no ne nn 9 w' (H.sub [0,1,2,3] (by decide) (hp':=RS.hp ⟨oA,oc,some ⟨ge,0,none⟩,ec,nA,nc⟩ ⟨opens,glob,ends,nums,false⟩ no ne nn) (by kernel_rfl)) e1 e2 e3 (.same rfl hk2 hxe hxc hcl (by unfold GO;rw[if_pos hd2,if_pos h3]))
   refine Hs.e0 ?_;refine Hs.any [2] (by kernel_rfl) ?_;refine Hs.e0 ?_;refine Hs.ldc (E':=33) (b:=ge) (off:=0+je*8+3) (.int .u32 x.packet) (by kernel_rfl) (fun w' H=>BW AU (H.rdX (cf:=EN.cells) (l:=ends) 2 e2 (A:=some ⟨ge,0,none⟩) (cap:=ec) (E:=61) (size:=8) (by kernel_rfl)) (i:=je) (x:=x) hxe (j:=3) (v:=.int .u32 x.packet) rfl) (by kernel_rfl) ?_;refine Hs.e0 ?_;refine Hs.bool 87 (decide (IntKind.u64.wrap (m.data.length:Int)>IntKind.u64.wrap x.packet)) (by kernel_rfl) (fun h4=>?_) (fun h4=>?_)
   ·have h4:=of_decide_eq_true h4;refine Hs.eg [7] ?_;refine Hs.cT ?_;refine Hs.e0 ?_;refine Hs.rt (v:=.int .i64 5) Tryz.func11 fun w' H=>?_;exact hx ⟨oA,oc,some ⟨ge,0,none⟩,ec,nA,nc⟩ ⟨opens,glob,ends,nums,false⟩ no ne nn 5 w' (H.sub [0,1,2,3] (by decide) (hp':=RS.hp ⟨oA,oc,some ⟨ge,0,none⟩,ec,nA,nc⟩ ⟨opens,glob,ends,nums,false⟩ no ne nn) (by kernel_rfl)) e1 e2 e3 (.same rfl hk2 hxe hxc hcl (by
      unfold GO;rw[if_pos hd2,if_neg (by rw[h3];decide),if_pos (.inl (by rw[hn,g2] at h4;exact h4))]))
   have h4:=of_decide_eq_false h4;rw[hn,g2] at h4;refine Hs.eg [7] ?_;refine Hs.branch2 11 17 (by kernel_rfl) ?_ ?_
   ·refine Hs.rung0 [7] 1 (fun _=>(by kernel_rfl)) ?_;refine Hs.ldc (E':=47) (b:=ge) (off:=0+je*8+2) (.int .u64 x.sent) (by kernel_rfl) (fun w' H=>BW AU (H.rdX (cf:=EN.cells) (l:=ends) 2 e2 (A:=some ⟨ge,0,none⟩) (cap:=ec) (E:=61) (size:=8) (by kernel_rfl)) (i:=je) (x:=x) hxe (j:=2) (v:=.int .u64 x.sent) rfl) (by kernel_rfl) ?_;refine Hs.eg [7] ?_;refine Hs.ldc (E':=47) (b:=ge) (off:=0+je*8+1) (.int .u64 x.granted) (by kernel_rfl) (fun w' H=>BW AU (H.rdX (cf:=EN.cells) (l:=ends) 2 e2 (A:=some ⟨ge,0,none⟩) (cap:=ec) (E:=61) (size:=8) (by kernel_rfl)) (i:=je) (x:=x) hxe (j:=1) (v:=.int .u64 x.granted) rfl) (by kernel_rfl) ?_;refine Hs.eg [7] ?_;refine Hs.cP (IntKind.u64.wrap (x.sent+IntKind.u64.wrap (m.data.length:Int))>x.granted) (fun h5=>?_) (fun h5=>?_)
    ·refine Hs.e0 ?_;refine Hs.rt (v:=.int .i64 5) Tryz.func11 fun w' H=>?_;exact hx ⟨oA,oc,some ⟨ge,0,none⟩,ec,nA,nc⟩ ⟨opens,glob,ends,nums,false⟩ no ne nn 5 w' (H.sub [0,1,2,3] (by decide) (hp':=RS.hp ⟨oA,oc,some ⟨ge,0,none⟩,ec,nA,nc⟩ ⟨opens,glob,ends,nums,false⟩ no ne nn) (by kernel_rfl)) e1 e2 e3 (.same rfl hk2 hxe hxc hcl (by
       unfold GO;rw[if_pos hd2,if_neg (by rw[h3];decide),if_pos (.inr (by rw[g3];rw[hn,g4] at h5;omega))]))
    refine Hs.e0 ?_;refine Hs.ldc (E':=47) (b:=ge) (off:=0+je*8+2) (.int .u64 x.sent) (by kernel_rfl) (fun w' H=>BW AU (H.rdX (cf:=EN.cells) (l:=ends) 2 e2 (A:=some ⟨ge,0,none⟩) (cap:=ec) (E:=61) (size:=8) (by kernel_rfl)) (i:=je) (x:=x) hxe (j:=2) (v:=.int .u64 x.sent) rfl) (by kernel_rfl) ?_;refine Hs.e0 ?_;refine Hs.stf (E:=61) (size:=8) (g:=ge) (cap:=ec) (E':=47) 2 AU ends ne e2 je x { x with sent:=IntKind.u64.wrap (x.sent+IntKind.u64.wrap (m.data.length:Int)) } hxe 2 (by decide) (v:=.int .u64 (IntKind.u64.wrap (x.sent+IntKind.u64.wrap (m.data.length:Int)))) rfl rfl (by kernel_rfl) rfl (by kernel_rfl) (by kernel_rfl) (by kernel_rfl) ?_;refine Hs.e0 ?_;refine Hs.rt (v:=.int .i64 0) Tryz.func11 fun w' H=>?_;exact hx ⟨oA,oc,some ⟨ge,0,none⟩,ec,nA,nc⟩ ⟨opens,glob,ends.set je { x with sent:=IntKind.u64.wrap (x.sent+IntKind.u64.wrap (m.data.length:Int)) },nums,false⟩ no ne nn 0 w' (H.sub [0,1,2,3] (by decide) (hp':=RS.hp ⟨oA,oc,some ⟨ge,0,none⟩,ec,nA,nc⟩ ⟨opens,glob,ends.set je { x with sent:=IntKind.u64.wrap (x.sent+IntKind.u64.wrap (m.data.length:Int)) },nums,false⟩ no ne nn) (by kernel_rfl)) e1 (by rw[List.length_set,e2]) e3 (.turn rfl hk2 hxe hxc hcl (by
     unfold GO;rw[if_pos hd2,if_neg (by rw[h3];decide),if_neg (fun e=>e.elim (fun e=>by omega) (fun e=>by rw[g3] at e;rw[hn,g4] at h5;omega)),hn]))
   ·refine Hs.rung0 [7] 1 (fun _=>(by kernel_rfl)) ?_;refine Hs.ldc (E':=47) (b:=ge) (off:=0+je*8+1) (.int .u64 x.granted) (by kernel_rfl) (fun w' H=>BW AU (H.rdX (cf:=EN.cells) (l:=ends) 2 e2 (A:=some ⟨ge,0,none⟩) (cap:=ec) (E:=61) (size:=8) (by kernel_rfl)) (i:=je) (x:=x) hxe (j:=1) (v:=.int .u64 x.granted) rfl) (by kernel_rfl) ?_;refine Hs.eg [7] ?_;refine Hs.ldc (E':=47) (b:=ge) (off:=0+je*8+2) (.int .u64 x.sent) (by kernel_rfl) (fun w' H=>BW AU (H.rdX (cf:=EN.cells) (l:=ends) 2 e2 (A:=some ⟨ge,0,none⟩) (cap:=ec) (E:=61) (size:=8) (by kernel_rfl)) (i:=je) (x:=x) hxe (j:=2) (v:=.int .u64 x.sent) rfl) (by kernel_rfl) ?_;refine Hs.eg [7] ?_;refine Hs.cP (IntKind.u64.wrap (x.sent+IntKind.u64.wrap (m.data.length:Int))>x.granted) (fun h5=>?_) (fun h5=>?_)
    ·refine Hs.e0 ?_;refine Hs.rt (v:=.int .i64 5) Tryz.func11 fun w' H=>?_;exact hx ⟨oA,oc,some ⟨ge,0,none⟩,ec,nA,nc⟩ ⟨opens,glob,ends,nums,false⟩ no ne nn 5 w' (H.sub [0,1,2,3] (by decide) (hp':=RS.hp ⟨oA,oc,some ⟨ge,0,none⟩,ec,nA,nc⟩ ⟨opens,glob,ends,nums,false⟩ no ne nn) (by kernel_rfl)) e1 e2 e3 (.same rfl hk2 hxe hxc hcl (by
       unfold GO;rw[if_pos hd2,if_neg (by rw[h3];decide),if_pos (.inr (by rw[g3];rw[hn,g4] at h5;omega))]))
    refine Hs.e0 ?_;refine Hs.ldc (E':=47) (b:=ge) (off:=0+je*8+2) (.int .u64 x.sent) (by kernel_rfl) (fun w' H=>BW AU (H.rdX (cf:=EN.cells) (l:=ends) 2 e2 (A:=some ⟨ge,0,none⟩) (cap:=ec) (E:=61) (size:=8) (by kernel_rfl)) (i:=je) (x:=x) hxe (j:=2) (v:=.int .u64 x.sent) rfl) (by kernel_rfl) ?_;refine Hs.e0 ?_;refine Hs.stf (E:=61) (size:=8) (g:=ge) (cap:=ec) (E':=47) 2 AU ends ne e2 je x { x with sent:=IntKind.u64.wrap (x.sent+IntKind.u64.wrap (m.data.length:Int)) } hxe 2 (by decide) (v:=.int .u64 (IntKind.u64.wrap (x.sent+IntKind.u64.wrap (m.data.length:Int)))) rfl rfl (by kernel_rfl) rfl (by kernel_rfl) (by kernel_rfl) (by kernel_rfl) ?_;refine Hs.e0 ?_;refine Hs.rt (v:=.int .i64 0) Tryz.func11 fun w' H=>?_;exact hx ⟨oA,oc,some ⟨ge,0,none⟩,ec,nA,nc⟩ ⟨opens,glob,ends.set je { x with sent:=IntKind.u64.wrap (x.sent+IntKind.u64.wrap (m.data.length:Int)) },nums,false⟩ no ne nn 0 w' (H.sub [0,1,2,3] (by decide) (hp':=RS.hp ⟨oA,oc,some ⟨ge,0,none⟩,ec,nA,nc⟩ ⟨opens,glob,ends.set je { x with sent:=IntKind.u64.wrap (x.sent+IntKind.u64.wrap (m.data.length:Int)) },nums,false⟩ no ne nn) (by kernel_rfl)) e1 (by rw[List.length_set,e2]) e3 (.turn rfl hk2 hxe hxc hcl (by
     unfold GO;rw[if_pos hd2,if_neg (by rw[h3];decide),if_neg (fun e=>e.elim (fun e=>by omega) (fun e=>by rw[g3] at e;rw[hn,g4] at h5;omega)),hn]))
  have KR:(m.kind=99∨m.kind=100)→∀u:Nat→Value,Hs Tryz.prog 11 Q (Tryz.f11).ntmps w B [q,0,0,0,b0] ⟨.no,atR Tryz.f11 48,GV [(0,.c (.p 0 0)),(3,.c (.p 4 0)),(6,.c (.v (.pointer (some ⟨ge,0+je*8,none⟩))))] (.vals u),[.b true 32 [.v (.slice oA no oc),.v (.int .i64 glob),.v (.slice (some ⟨ge,0,none⟩) ne ec),.v (.slice nA nn nc),.v (.bool false)],.s oA oc no 36 10 (opens.flatMap MD.cells),.s (some ⟨ge,0,none⟩) ec ne 61 8 (ends.flatMap EN.cells),.s nA nc nn 59 2 (nums.flatMap cN2),.b true 36 (mdS m)]⟩:=by
   intro hd2 u;have hE:GO x m (okEx m)=if x.wants=0 then(x,9) else({ x with wants:=IntKind.i64.wrap (x.wants-1) },0):=by
    unfold GO;rw[if_neg (by omega),if_neg (by omega),if_neg (by omega),if_neg (by omega),if_neg (by omega)]
   refine Hs.e0 ?_;refine Hs.ldc (E':=3) (b:=ge) (off:=0+je*8+7) (.int .i64 x.wants) (by kernel_rfl) (fun w' H=>BW AU (H.rdX (cf:=EN.cells) (l:=ends) 2 e2 (A:=some ⟨ge,0,none⟩) (cap:=ec) (E:=61) (size:=8) (by kernel_rfl)) (i:=je) (x:=x) hxe (j:=7) (v:=.int .i64 x.wants) rfl) (by kernel_rfl) ?_;refine Hs.e0 ?_;refine Hs.cP (x.wants=0) (fun h3=>?_) (fun h3=>?_)
   ·refine Hs.e0 ?_;refine Hs.rt (v:=.int .i64 9) Tryz.func11 fun w' H=>?_;exact hx ⟨oA,oc,some ⟨ge,0,none⟩,ec,nA,nc⟩ ⟨opens,glob,ends,nums,false⟩ no ne nn 9 w' (H.sub [0,1,2,3] (by decide) (hp':=RS.hp ⟨oA,oc,some ⟨ge,0,none⟩,ec,nA,nc⟩ ⟨opens,glob,ends,nums,false⟩ no ne nn) (by kernel_rfl)) e1 e2 e3 (.same rfl hk2 hxe hxc hcl (by rw[hE,if_pos h3]))
   refine Hs.e0 ?_;refine Hs.ldc (E':=3) (b:=ge) (off:=0+je*8+7) (.int .i64 x.wants) (by kernel_rfl) (fun w' H=>BW AU (H.rdX (cf:=EN.cells) (l:=ends) 2 e2 (A:=some ⟨ge,0,none⟩) (cap:=ec) (E:=61) (size:=8) (by kernel_rfl)) (i:=je) (x:=x) hxe (j:=7) (v:=.int .i64 x.wants) rfl) (by kernel_rfl) ?_;refine Hs.e0 ?_;refine Hs.stf (E:=61) (size:=8) (g:=ge) (cap:=ec) (E':=3) 2 AU ends ne e2 je x { x with wants:=IntKind.i64.wrap (x.wants-1) } hxe 7 (by decide) (v:=.int .i64 (IntKind.i64.wrap (x.wants-1))) rfl rfl (by kernel_rfl) rfl (by kernel_rfl) (by kernel_rfl) (by kernel_rfl) ?_;refine Hs.e0 ?_;refine Hs.rt (v:=.int .i64 0) Tryz.func11 fun w' H=>?_;exact hx ⟨oA,oc,some ⟨ge,0,none⟩,ec,nA,nc⟩ ⟨opens,glob,ends.set je { x with wants:=IntKind.i64.wrap (x.wants-1) },nums,false⟩ no ne nn 0 w' (H.sub [0,1,2,3] (by decide) (hp':=RS.hp ⟨oA,oc,some ⟨ge,0,none⟩,ec,nA,nc⟩ ⟨opens,glob,ends.set je { x with wants:=IntKind.i64.wrap (x.wants-1) },nums,false⟩ no ne nn) (by kernel_rfl)) e1 (by rw[List.length_set,e2]) e3 (.turn rfl hk2 hxe hxc hcl (by rw[hE,if_neg h3]))
  refine Hs.e0 ?_;refine Hs.cP (m.kind=94) (fun k94=>?_) (fun k94=>?_)
  ·refine Hs.e0 ?_;refine Hs.cP (m.kind=94) (fun _=>?_) (fun h=>absurd k94 h);refine Hs.runR0 34 [] 300 (fun _=>(by kernel_rfl)) ?_;exact Hs.goto (atR Tryz.f11 34) [0,1,2,3,4] [.b true 32 [.v (.slice oA no oc),.v (.int .i64 glob),.v (.slice (some ⟨ge,0,none⟩) ne ec),.v (.slice nA nn nc),.v (.bool false)],.s oA oc no 36 10 (opens.flatMap MD.cells),.s (some ⟨ge,0,none⟩) ec ne 61 8 (ends.flatMap EN.cells),.s nA nc nn 59 2 (nums.flatMap cN2),.b true 36 (mdS m)] [(0,.c (.p 0 0)),(3,.c (.p 4 0)),(6,.c (.v (.pointer (some ⟨ge,0+je*8,none⟩))))] (by kernel_rfl) (by decide) (by kernel_rfl) (by kernel_rfl) (fun _=>(by kernel_rfl)) (fun u=>KD (.inl k94) u)
  refine Hs.e0 ?_;refine Hs.cP (m.kind=95) (fun k95=>?_) (fun k95=>?_)
  ·refine Hs.runR0 34 [] 300 (fun _=>(by kernel_rfl)) ?_;exact Hs.goto (atR Tryz.f11 34) [0,1,2,3,4] [.b true 32 [.v (.slice oA no oc),.v (.int .i64 glob),.v (.slice (some ⟨ge,0,none⟩) ne ec),.v (.slice nA nn nc),.v (.bool false)],.s oA oc no 36 10 (opens.flatMap MD.cells),.s (some ⟨ge,0,none⟩) ec ne 61 8 (ends.flatMap EN.cells),.s nA nc nn 59 2 (nums.flatMap cN2),.b true 36 (mdS m)] [(0,.c (.p 0 0)),(3,.c (.p 4 0)),(6,.c (.v (.pointer (some ⟨ge,0+je*8,none⟩))))] (by kernel_rfl) (by decide) (by kernel_rfl) (by kernel_rfl) (fun _=>(by kernel_rfl)) (fun u=>KD (.inr k95) u)
  refine Hs.e0 ?_;refine Hs.cP (m.kind=96) (fun k96=>?_) (fun k96=>?_)
  ·have hE:GO x m (okEx m)=if x.eof then(x,9) else({ x with eof:=true },0):=by
    unfold GO;rw[if_neg (by omega),if_neg (by omega),if_pos k96]
   refine Hs.e0 ?_;refine Hs.ldc (E':=4) (b:=ge) (off:=0+je*8+4) (.bool x.eof) (by kernel_rfl) (fun w' H=>BW AU (H.rdX (cf:=EN.cells) (l:=ends) 2 e2 (A:=some ⟨ge,0,none⟩) (cap:=ec) (E:=61) (size:=8) (by kernel_rfl)) (i:=je) (x:=x) hxe (j:=4) (v:=.bool x.eof) rfl) (by kernel_rfl) ?_;refine Hs.e0 ?_;refine Hs.cn x.eof (fun h3=>?_) (fun h3=>?_)
   ·refine Hs.e0 ?_;refine Hs.rt (v:=.int .i64 9) Tryz.func11 fun w' H=>?_;exact hx ⟨oA,oc,some ⟨ge,0,none⟩,ec,nA,nc⟩ ⟨opens,glob,ends,nums,false⟩ no ne nn 9 w' (H.sub [0,1,2,3] (by decide) (hp':=RS.hp ⟨oA,oc,some ⟨ge,0,none⟩,ec,nA,nc⟩ ⟨opens,glob,ends,nums,false⟩ no ne nn) (by kernel_rfl)) e1 e2 e3 (.same rfl hk2 hxe hxc hcl (by rw[hE,if_pos h3]))
   refine Hs.e0 ?_;refine Hs.stf (E:=61) (size:=8) (g:=ge) (cap:=ec) (E':=4) 2 AU ends ne e2 je x { x with eof:=true } hxe 4 (by decide) (v:=.bool true) rfl rfl (by kernel_rfl) rfl (by kernel_rfl) (by kernel_rfl) (by kernel_rfl) ?_;refine Hs.e0 ?_;refine Hs.rt (v:=.int .i64 0) Tryz.func11 fun w' H=>?_;exact hx ⟨oA,oc,some ⟨ge,0,none⟩,ec,nA,nc⟩ ⟨opens,glob,ends.set je { x with eof:=true },nums,false⟩ no ne nn 0 w' (H.sub [0,1,2,3] (by decide) (hp':=RS.hp ⟨oA,oc,some ⟨ge,0,none⟩,ec,nA,nc⟩ ⟨opens,glob,ends.set je { x with eof:=true },nums,false⟩ no ne nn) (by kernel_rfl)) e1 (by rw[List.length_set,e2]) e3 (.turn rfl hk2 hxe hxc hcl (by rw[hE,if_neg (by rw[h3];decide)]))
  refine Hs.e0 ?_;refine Hs.cP (m.kind=97) (fun k97=>?_) (fun k97=>?_)
  ·refine Hs.e0 ?_;refine Hs.stf (E:=61) (size:=8) (g:=ge) (cap:=ec) (E':=4) 2 AU ends ne e2 je x { x with closed:=true } hxe 5 (by decide) (v:=.bool true) rfl rfl (by kernel_rfl) rfl (by kernel_rfl) (by kernel_rfl) (by kernel_rfl) ?_;refine Hs.e0 ?_;refine Hs.rt (v:=.int .i64 0) Tryz.func11 fun w' H=>?_;exact hx ⟨oA,oc,some ⟨ge,0,none⟩,ec,nA,nc⟩ ⟨opens,glob,ends.set je { x with closed:=true },nums,false⟩ no ne nn 0 w' (H.sub [0,1,2,3] (by decide) (hp':=RS.hp ⟨oA,oc,some ⟨ge,0,none⟩,ec,nA,nc⟩ ⟨opens,glob,ends.set je { x with closed:=true },nums,false⟩ no ne nn) (by kernel_rfl)) e1 (by rw[List.length_set,e2]) e3 (.turn rfl hk2 hxe hxc hcl (by unfold GO;rw[if_neg (by omega),if_neg (by omega),if_neg (by omega),if_pos k97]))
  refine Hs.e0 ?_;refine Hs.cP (m.kind=99) (fun k99=>?_) (fun k99=>?_)
  ·refine Hs.e0 ?_;refine Hs.cP (m.kind=99) (fun _=>?_) (fun h=>absurd k99 h);refine Hs.runR0 48 [] 300 (fun _=>(by kernel_rfl)) ?_;exact Hs.goto (atR Tryz.f11 48) [0,1,2,3,4] [.b true 32 [.v (.slice oA no oc),.v (.int .i64 glob),.v (.slice (some ⟨ge,0,none⟩) ne ec),.v (.slice nA nn nc),.v (.bool false)],.s oA oc no 36 10 (opens.flatMap MD.cells),.s (some ⟨ge,0,none⟩) ec ne 61 8 (ends.flatMap EN.cells),.s nA nc nn 59 2 (nums.flatMap cN2),.b true 36 (mdS m)] [(0,.c (.p 0 0)),(3,.c (.p 4 0)),(6,.c (.v (.pointer (some ⟨ge,0+je*8,none⟩))))] (by kernel_rfl) (by decide) (by kernel_rfl) (by kernel_rfl) (fun _=>(by kernel_rfl)) (fun u=>KR (.inl k99) u)
  refine Hs.e0 ?_;refine Hs.cP (m.kind=100) (fun k100=>?_) (fun k100=>?_)
  ·refine Hs.runR0 48 [] 300 (fun _=>(by kernel_rfl)) ?_;exact Hs.goto (atR Tryz.f11 48) [0,1,2,3,4] [.b true 32 [.v (.slice oA no oc),.v (.int .i64 glob),.v (.slice (some ⟨ge,0,none⟩) ne ec),.v (.slice nA nn nc),.v (.bool false)],.s oA oc no 36 10 (opens.flatMap MD.cells),.s (some ⟨ge,0,none⟩) ec ne 61 8 (ends.flatMap EN.cells),.s nA nc nn 59 2 (nums.flatMap cN2),.b true 36 (mdS m)] [(0,.c (.p 0 0)),(3,.c (.p 4 0)),(6,.c (.v (.pointer (some ⟨ge,0+je*8,none⟩))))] (by kernel_rfl) (by decide) (by kernel_rfl) (by kernel_rfl) (fun _=>(by kernel_rfl)) (fun u=>KR (.inr k100) u)
  refine Hs.e0 ?_;refine Hs.cP (m.kind=98) (fun k98=>?_) (fun k98=>?_)
  ·have hE:GO x m (okEx m)=if¬okEx m then(x,4) else if x.told then(x,9) else({ x with told:=true },0):=by
    unfold GO;rw[if_neg (by omega),if_neg (by omega),if_neg (by omega),if_neg (by omega),if_pos k98]
   refine Hs.e0 ?_;refine Hs.callX (F:=23) (args:=#[.string m.name,.slice m.dA m.data.length m.dc]) (X:=RQ×Int) (fun z=>.tuple #[z.1.val,.int .i64 z.2]) (fun z=>CL m.name m.data z.1 z.2) (fun w' H=>?_) (by kernel_rfl) fun z hD=>?_
   ·have K:=hm w' H.only;exact(TM m.name m.dA m.data m.dc w' K.data K.bytes hml K.dle K.dmax).mono fun e w2 ⟨O,r,E,h1,_,h2⟩=>⟨(r,E),h1,O,h2⟩
   obtain⟨r,E⟩:=z;have hiff:okEx m=true↔m.want=false∧E=0∧(r.kind=9∨r.kind=10):=aN hbytes hD;rw[rqS_val];refine Hs.e1 fun b1=>?_;refine Hs.bool 149 m.want (by kernel_rfl) (fun h1=>?_) (fun h1=>?_)
   ·have hn: ¬okEx m=true:=fun h=>by rw[(hiff.1 h).1] at h1;cases h1
    refine Hs.eg [2,6,10] ?_;refine Hs.cT ?_;refine Hs.e0 ?_;refine Hs.rt (v:=.int .i64 4) Tryz.func11 fun w' H=>?_;exact hx ⟨oA,oc,some ⟨ge,0,none⟩,ec,nA,nc⟩ ⟨opens,glob,ends,nums,false⟩ no ne nn 4 w' (H.sub [0,1,2,3] (by decide) (hp':=RS.hp ⟨oA,oc,some ⟨ge,0,none⟩,ec,nA,nc⟩ ⟨opens,glob,ends,nums,false⟩ no ne nn) (by kernel_rfl)) e1 e2 e3 (.same rfl hk2 hxe hxc hcl (by rw[hE,if_pos hn]))
   refine Hs.eg [2] ?_;refine Hs.bool 153 (!decide (E=0)) (by kernel_rfl) (fun h2=>?_) (fun h2=>?_)
   ·have hn: ¬okEx m=true:=fun h=>by rw[(hiff.1 h).2.1] at h2;simp at h2
    refine Hs.eg [2,6,10] ?_;refine Hs.cT ?_;refine Hs.e0 ?_;refine Hs.rt (v:=.int .i64 4) Tryz.func11 fun w' H=>?_;exact hx ⟨oA,oc,some ⟨ge,0,none⟩,ec,nA,nc⟩ ⟨opens,glob,ends,nums,false⟩ no ne nn 4 w' (H.sub [0,1,2,3] (by decide) (hp':=RS.hp ⟨oA,oc,some ⟨ge,0,none⟩,ec,nA,nc⟩ ⟨opens,glob,ends,nums,false⟩ no ne nn) (by kernel_rfl)) e1 e2 e3 (.same rfl hk2 hxe hxc hcl (by rw[hE,if_pos hn]))
   have h2:E=0:=by simpa using h2
   refine Hs.eg [2,6] ?_;refine Hs.bool 157 (!decide (r.kind=9)) (by kernel_rfl) (fun h3=>?_) (fun h3=>?_)
   ·have h3:r.kind≠9:=by simpa using h3
    refine Hs.eg [2,6,10] ?_;refine Hs.cn (!decide (r.kind=10)) (fun h4=>?_) (fun h4=>?_)
    ·have h4:r.kind≠10:=by simpa using h4
     have hn: ¬okEx m=true:=fun h=>(hiff.1 h).2.2.elim h3 h4;refine Hs.e0 ?_;refine Hs.rt (v:=.int .i64 4) Tryz.func11 fun w' H=>?_;exact hx ⟨oA,oc,some ⟨ge,0,none⟩,ec,nA,nc⟩ ⟨opens,glob,ends,nums,false⟩ no ne nn 4 w' (H.sub [0,1,2,3] (by decide) (hp':=RS.hp ⟨oA,oc,some ⟨ge,0,none⟩,ec,nA,nc⟩ ⟨opens,glob,ends,nums,false⟩ no ne nn) (by kernel_rfl)) e1 e2 e3 (.same rfl hk2 hxe hxc hcl (by rw[hE,if_pos hn]))
    have h4:r.kind=10:=by simpa using h4
    have hn:okEx m=true:=hiff.2 ⟨h1,h2,.inr h4⟩;refine Hs.e0 ?_;refine Hs.ldc (E':=4) (b:=ge) (off:=0+je*8+6) (.bool x.told) (by kernel_rfl) (fun w' H=>BW AU (H.rdX (cf:=EN.cells) (l:=ends) 2 e2 (A:=some ⟨ge,0,none⟩) (cap:=ec) (E:=61) (size:=8) (by kernel_rfl)) (i:=je) (x:=x) hxe (j:=6) (v:=.bool x.told) rfl) (by kernel_rfl) ?_;refine Hs.e0 ?_;refine Hs.cn x.told (fun h5=>?_) (fun h5=>?_)
    ·refine Hs.e0 ?_;refine Hs.rt (v:=.int .i64 9) Tryz.func11 fun w' H=>?_;exact hx ⟨oA,oc,some ⟨ge,0,none⟩,ec,nA,nc⟩ ⟨opens,glob,ends,nums,false⟩ no ne nn 9 w' (H.sub [0,1,2,3] (by decide) (hp':=RS.hp ⟨oA,oc,some ⟨ge,0,none⟩,ec,nA,nc⟩ ⟨opens,glob,ends,nums,false⟩ no ne nn) (by kernel_rfl)) e1 e2 e3 (.same rfl hk2 hxe hxc hcl (by rw[hE,if_neg (by rw[hn];simp),if_pos h5]))
    refine Hs.e0 ?_;refine Hs.stf (E:=61) (size:=8) (g:=ge) (cap:=ec) (E':=4) 2 AU ends ne e2 je x { x with told:=true } hxe 6 (by decide) (v:=.bool true) rfl rfl (by kernel_rfl) rfl (by kernel_rfl) (by kernel_rfl) (by kernel_rfl) ?_;refine Hs.e0 ?_;refine Hs.rt (v:=.int .i64 0) Tryz.func11 fun w' H=>?_;exact hx ⟨oA,oc,some ⟨ge,0,none⟩,ec,nA,nc⟩ ⟨opens,glob,ends.set je { x with told:=true },nums,false⟩ no ne nn 0 w' (H.sub [0,1,2,3] (by decide) (hp':=RS.hp ⟨oA,oc,some ⟨ge,0,none⟩,ec,nA,nc⟩ ⟨opens,glob,ends.set je { x with told:=true },nums,false⟩ no ne nn) (by kernel_rfl)) e1 (by rw[List.length_set,e2]) e3 (.turn rfl hk2 hxe hxc hcl (by rw[hE,if_neg (by rw[hn];simp),if_neg (by rw[h5];decide)]))
   have h3:r.kind=9:=by simpa using h3
   have hn:okEx m=true:=hiff.2 ⟨h1,h2,.inl h3⟩;refine Hs.eg [2,6,10] ?_;refine Hs.cF ?_;refine Hs.e0 ?_;refine Hs.ldc (E':=4) (b:=ge) (off:=0+je*8+6) (.bool x.told) (by kernel_rfl) (fun w' H=>BW AU (H.rdX (cf:=EN.cells) (l:=ends) 2 e2 (A:=some ⟨ge,0,none⟩) (cap:=ec) (E:=61) (size:=8) (by kernel_rfl)) (i:=je) (x:=x) hxe (j:=6) (v:=.bool x.told) rfl) (by kernel_rfl) ?_;refine Hs.e0 ?_;refine Hs.cn x.told (fun h5=>?_) (fun h5=>?_)
   ·refine Hs.e0 ?_;refine Hs.rt (v:=.int .i64 9) Tryz.func11 fun w' H=>?_;exact hx ⟨oA,oc,some ⟨ge,0,none⟩,ec,nA,nc⟩ ⟨opens,glob,ends,nums,false⟩ no ne nn 9 w' (H.sub [0,1,2,3] (by decide) (hp':=RS.hp ⟨oA,oc,some ⟨ge,0,none⟩,ec,nA,nc⟩ ⟨opens,glob,ends,nums,false⟩ no ne nn) (by kernel_rfl)) e1 e2 e3 (.same rfl hk2 hxe hxc hcl (by rw[hE,if_neg (by rw[hn];simp),if_pos h5]))
   refine Hs.e0 ?_;refine Hs.stf (E:=61) (size:=8) (g:=ge) (cap:=ec) (E':=4) 2 AU ends ne e2 je x { x with told:=true } hxe 6 (by decide) (v:=.bool true) rfl rfl (by kernel_rfl) rfl (by kernel_rfl) (by kernel_rfl) (by kernel_rfl) ?_;refine Hs.e0 ?_;refine Hs.rt (v:=.int .i64 0) Tryz.func11 fun w' H=>?_;exact hx ⟨oA,oc,some ⟨ge,0,none⟩,ec,nA,nc⟩ ⟨opens,glob,ends.set je { x with told:=true },nums,false⟩ no ne nn 0 w' (H.sub [0,1,2,3] (by decide) (hp':=RS.hp ⟨oA,oc,some ⟨ge,0,none⟩,ec,nA,nc⟩ ⟨opens,glob,ends.set je { x with told:=true },nums,false⟩ no ne nn) (by kernel_rfl)) e1 (by rw[List.length_set,e2]) e3 (.turn rfl hk2 hxe hxc hcl (by rw[hE,if_neg (by rw[hn];simp),if_neg (by rw[h5];decide)]))
  refine Hs.e0 ?_;refine Hs.rt (v:=.int .i64 0) Tryz.func11 fun w' H=>?_;exact hx ⟨oA,oc,some ⟨ge,0,none⟩,ec,nA,nc⟩ ⟨opens,glob,ends,nums,false⟩ no ne nn 0 w' (H.sub [0,1,2,3] (by decide) (hp':=RS.hp ⟨oA,oc,some ⟨ge,0,none⟩,ec,nA,nc⟩ ⟨opens,glob,ends,nums,false⟩ no ne nn) (by kernel_rfl)) e1 e2 e3 (.same rfl hk2 hxe hxc hcl (by
   have h93:m.kind=93:=by unfold JH at hk2;omega
   unfold GO;rw[if_neg (by omega),if_pos h93]))
 refine Hs.e1 fun b0=>?_;refine Hs.cF ?_;refine Hs.e0 ?_;refine Hs.cP (m.kind=1) (fun h=>absurd h n1) (fun _=>?_);refine Hs.e0 ?_;refine Hs.cP (m.kind=81) (fun h=>absurd h n2) (fun _=>?_);refine Hs.e0 ?_;refine Hs.cP (m.kind=82) (fun h=>absurd h n3) (fun _=>?_);refine Hs.e0 ?_;refine Hs.cP (m.kind=91) (fun h=>absurd h n4) (fun _=>?_);refine Hs.e0 ?_;refine Hs.cP (m.kind=92) (fun h=>absurd h n5) (fun _=>?_);refine Hs.e0 ?_;refine Hs.cP (m.kind=93) (fun k93=>?_) (fun k93=>?_)
 ·refine Hs.e0 ?_;refine Hs.cP (m.kind=93) (fun _=>?_) (fun h=>absurd k93 h);refine Hs.runR0 25 [] 300 (fun _=>(by kernel_rfl)) ?_;exact Hs.goto (atR Tryz.f11 25) [0,1,2,3,4] [.b true 32 [.v (.slice oA no oc),.v (.int .i64 glob),.v (.slice eA ne ec),.v (.slice nA nn nc),.v (.bool false)],.s oA oc no 36 10 (opens.flatMap MD.cells),.s eA ec ne 61 8 (ends.flatMap EN.cells),.s nA nc nn 59 2 (nums.flatMap cN2),.b true 36 (mdS m)] [(0,.c (.p 0 0)),(3,.c (.p 4 0))] (by kernel_rfl) (by decide) (by kernel_rfl) (by kernel_rfl) (fun _=>(by kernel_rfl)) (fun u=>K b0 (by unfold JH;omega) u)
 refine Hs.e0 ?_;refine Hs.cP (m.kind=94) (fun k94=>?_) (fun k94=>?_)
 ·refine Hs.e0 ?_;refine Hs.cP (m.kind=94) (fun _=>?_) (fun h=>absurd k94 h);refine Hs.runR0 25 [] 300 (fun _=>(by kernel_rfl)) ?_;exact Hs.goto (atR Tryz.f11 25) [0,1,2,3,4] [.b true 32 [.v (.slice oA no oc),.v (.int .i64 glob),.v (.slice eA ne ec),.v (.slice nA nn nc),.v (.bool false)],.s oA oc no 36 10 (opens.flatMap MD.cells),.s eA ec ne 61 8 (ends.flatMap EN.cells),.s nA nc nn 59 2 (nums.flatMap cN2),.b true 36 (mdS m)] [(0,.c (.p 0 0)),(3,.c (.p 4 0))] (by kernel_rfl) (by decide) (by kernel_rfl) (by kernel_rfl) (fun _=>(by kernel_rfl)) (fun u=>K b0 (by unfold JH;omega) u)
 refine Hs.e0 ?_;refine Hs.cP (m.kind=95) (fun k95=>?_) (fun k95=>?_)
 ·refine Hs.e0 ?_;refine Hs.cP (m.kind=95) (fun _=>?_) (fun h=>absurd k95 h);refine Hs.runR0 25 [] 300 (fun _=>(by kernel_rfl)) ?_;exact Hs.goto (atR Tryz.f11 25) [0,1,2,3,4] [.b true 32 [.v (.slice oA no oc),.v (.int .i64 glob),.v (.slice eA ne ec),.v (.slice nA nn nc),.v (.bool false)],.s oA oc no 36 10 (opens.flatMap MD.cells),.s eA ec ne 61 8 (ends.flatMap EN.cells),.s nA nc nn 59 2 (nums.flatMap cN2),.b true 36 (mdS m)] [(0,.c (.p 0 0)),(3,.c (.p 4 0))] (by kernel_rfl) (by decide) (by kernel_rfl) (by kernel_rfl) (fun _=>(by kernel_rfl)) (fun u=>K b0 (by unfold JH;omega) u)
 refine Hs.e0 ?_;refine Hs.cP (m.kind=96) (fun k96=>?_) (fun k96=>?_)
 ·refine Hs.e0 ?_;refine Hs.cP (m.kind=96) (fun _=>?_) (fun h=>absurd k96 h);refine Hs.runR0 25 [] 300 (fun _=>(by kernel_rfl)) ?_;exact Hs.goto (atR Tryz.f11 25) [0,1,2,3,4] [.b true 32 [.v (.slice oA no oc),.v (.int .i64 glob),.v (.slice eA ne ec),.v (.slice nA nn nc),.v (.bool false)],.s oA oc no 36 10 (opens.flatMap MD.cells),.s eA ec ne 61 8 (ends.flatMap EN.cells),.s nA nc nn 59 2 (nums.flatMap cN2),.b true 36 (mdS m)] [(0,.c (.p 0 0)),(3,.c (.p 4 0))] (by kernel_rfl) (by decide) (by kernel_rfl) (by kernel_rfl) (fun _=>(by kernel_rfl)) (fun u=>K b0 (by unfold JH;omega) u)
 refine Hs.e0 ?_;refine Hs.cP (m.kind=97) (fun k97=>?_) (fun k97=>?_)
 ·refine Hs.e0 ?_;refine Hs.cP (m.kind=97) (fun _=>?_) (fun h=>absurd k97 h);refine Hs.runR0 25 [] 300 (fun _=>(by kernel_rfl)) ?_;exact Hs.goto (atR Tryz.f11 25) [0,1,2,3,4] [.b true 32 [.v (.slice oA no oc),.v (.int .i64 glob),.v (.slice eA ne ec),.v (.slice nA nn nc),.v (.bool false)],.s oA oc no 36 10 (opens.flatMap MD.cells),.s eA ec ne 61 8 (ends.flatMap EN.cells),.s nA nc nn 59 2 (nums.flatMap cN2),.b true 36 (mdS m)] [(0,.c (.p 0 0)),(3,.c (.p 4 0))] (by kernel_rfl) (by decide) (by kernel_rfl) (by kernel_rfl) (fun _=>(by kernel_rfl)) (fun u=>K b0 (by unfold JH;omega) u)
 refine Hs.e0 ?_;refine Hs.cP (m.kind=98) (fun k98=>?_) (fun k98=>?_)
 ·refine Hs.e0 ?_;refine Hs.cP (m.kind=98) (fun _=>?_) (fun h=>absurd k98 h);refine Hs.runR0 25 [] 300 (fun _=>(by kernel_rfl)) ?_;exact Hs.goto (atR Tryz.f11 25) [0,1,2,3,4] [.b true 32 [.v (.slice oA no oc),.v (.int .i64 glob),.v (.slice eA ne ec),.v (.slice nA nn nc),.v (.bool false)],.s oA oc no 36 10 (opens.flatMap MD.cells),.s eA ec ne 61 8 (ends.flatMap EN.cells),.s nA nc nn 59 2 (nums.flatMap cN2),.b true 36 (mdS m)] [(0,.c (.p 0 0)),(3,.c (.p 4 0))] (by kernel_rfl) (by decide) (by kernel_rfl) (by kernel_rfl) (fun _=>(by kernel_rfl)) (fun u=>K b0 (by unfold JH;omega) u)
 refine Hs.e0 ?_;refine Hs.cP (m.kind=99) (fun k99=>?_) (fun k99=>?_)
 ·refine Hs.e0 ?_;refine Hs.cP (m.kind=99) (fun _=>?_) (fun h=>absurd k99 h);refine Hs.runR0 25 [] 300 (fun _=>(by kernel_rfl)) ?_;exact Hs.goto (atR Tryz.f11 25) [0,1,2,3,4] [.b true 32 [.v (.slice oA no oc),.v (.int .i64 glob),.v (.slice eA ne ec),.v (.slice nA nn nc),.v (.bool false)],.s oA oc no 36 10 (opens.flatMap MD.cells),.s eA ec ne 61 8 (ends.flatMap EN.cells),.s nA nc nn 59 2 (nums.flatMap cN2),.b true 36 (mdS m)] [(0,.c (.p 0 0)),(3,.c (.p 4 0))] (by kernel_rfl) (by decide) (by kernel_rfl) (by kernel_rfl) (fun _=>(by kernel_rfl)) (fun u=>K b0 (by unfold JH;omega) u)
 refine Hs.e0 ?_;refine Hs.cP (m.kind=100) (fun k100=>?_) (fun k100=>?_)
 ·refine Hs.runR0 25 [] 300 (fun _=>(by kernel_rfl)) ?_;exact Hs.goto (atR Tryz.f11 25) [0,1,2,3,4] [.b true 32 [.v (.slice oA no oc),.v (.int .i64 glob),.v (.slice eA ne ec),.v (.slice nA nn nc),.v (.bool false)],.s oA oc no 36 10 (opens.flatMap MD.cells),.s eA ec ne 61 8 (ends.flatMap EN.cells),.s nA nc nn 59 2 (nums.flatMap cN2),.b true 36 (mdS m)] [(0,.c (.p 0 0)),(3,.c (.p 4 0))] (by kernel_rfl) (by decide) (by kernel_rfl) (by kernel_rfl) (fun _=>(by kernel_rfl)) (fun u=>K b0 (by unfold JH;omega) u)
 refine Hs.e0 ?_;refine Hs.rt (v:=.int .i64 2) Tryz.func11 fun w' H=>?_;exact hx ⟨oA,oc,eA,ec,nA,nc⟩ ⟨opens,glob,ends,nums,false⟩ no ne nn 2 w' (H.sub [0,1,2,3] (by decide) (hp':=RS.hp ⟨oA,oc,eA,ec,nA,nc⟩ ⟨opens,glob,ends,nums,false⟩ no ne nn) (by kernel_rfl)) e1 e2 e3 (.kind rfl hal (by unfold JH;omega))
end Go.Proofs.YtkgikodiecmakaaGreatDoor
namespace Go.Proofs.YtkgikodiecmakaaGreatDoor
open Go.RowKit Go.MapKept
theorem VB (q:Nat) (P:RP) (opens:List MD) (glob:Int) (ends:List EN) (nums:List (Int×Int)) (m:MD) (w:World) (h:RAt w q P ⟨opens,glob,ends,nums,true⟩):Calls Tryz.prog 11 #[AO q,m.val] w (ET q P (fun z:Int=>.int .i64 z) (fun R' z=>HearsR m ⟨opens,glob,ends,nums,true⟩ R' z) w):=by
 have h0:=h.start;obtain⟨no,e1⟩: ∃n,opens.length=n:=⟨_,rfl⟩;obtain⟨ne,e2⟩: ∃n,ends.length=n:=⟨_,rfl⟩;obtain⟨nn,e3⟩: ∃n,nums.length=n:=⟨_,rfl⟩;dsimp only at h0;rw[e1,e2,e3] at h0;obtain⟨oA,oc,eA,ec,nA,nc⟩:=P;have hx: ∀(P':RP) (R':RS) (no ne nn:Nat) (z:Int) (w':World),Mem w ((RP.mk oA oc eA ec nA nc).fp q) [q,0,0,0] (R'.hp P' no ne nn) w'→R'.opens.length=no→R'.ends.length=ne→R'.nums.length=nn→HearsR m ⟨opens,glob,ends,nums,true⟩ R' z→ET q ⟨oA,oc,eA,ec,nA,nc⟩ (fun z:Int=>.int .i64 z) (fun R' z=>HearsR m ⟨opens,glob,ends,nums,true⟩ R' z) w (.returned (.int .i64 z)) w':=fun P' R' no ne nn z w' H a b c d=>RAt.post (v:=fun z:Int=>.int .i64 z) (Rel:=fun R' z=>HearsR m ⟨opens,glob,ends,nums,_⟩ R' z) H a b c z d;obtain⟨Q,hQ⟩: ∃Q,ET q ⟨oA,oc,eA,ec,nA,nc⟩ (fun z:Int=>.int .i64 z) (fun R' z=>HearsR m ⟨opens,glob,ends,nums,true⟩ R' z) w=Q:=⟨_,rfl⟩;rw[hQ] at hx⊢;obtain⟨B,hB⟩: ∃B,(RP.mk oA oc eA ec nA nc).fp q=B:=⟨_,rfl⟩;rw[hB] at h0 hx;refine Hs.en Tryz.func11 B [q,0,0,0] [.b true 32 [.v (.slice oA no oc),.v (.int .i64 glob),.v (.slice eA ne ec),.v (.slice nA nn nc),.v (.bool true)],.s oA oc no 36 10 (opens.flatMap MD.cells),.s eA ec ne 61 8 (ends.flatMap EN.cells),.s nA nc nn 59 2 (nums.flatMap cN2)] [.c (.p 0 0),.g (mdS m)] h0 ?_;refine Hs.e1 fun b0=>?_;refine Hs.cT ?_;refine Hs.e0 ?_;refine Hs.rt (v:=.int .i64 9) Tryz.func11 fun w' H=>?_;exact hx ⟨oA,oc,eA,ec,nA,nc⟩ ⟨opens,glob,ends,nums,true⟩ no ne nn 9 w' (H.sub [0,1,2,3] (by decide) (hp':=RS.hp ⟨oA,oc,eA,ec,nA,nc⟩ ⟨opens,glob,ends,nums,true⟩ no ne nn) (by kernel_rfl)) e1 e2 e3 (.dead rfl)
theorem YY (q:Nat) (P:RP) (opens:List MD) (glob:Int) (ends:List EN) (nums:List (Int×Int)) (m:MD) (w:World) (h:RAt w q P ⟨opens,glob,ends,nums,false⟩) (hk:m.kind=1∨m.kind=81∨m.kind=82):Calls Tryz.prog 11 #[AO q,m.val] w (ET q P (fun z:Int=>.int .i64 z) (fun R' z=>HearsR m ⟨opens,glob,ends,nums,false⟩ R' z) w):=by
 have h0:=h.start;obtain⟨no,e1⟩: ∃n,opens.length=n:=⟨_,rfl⟩;obtain⟨ne,e2⟩: ∃n,ends.length=n:=⟨_,rfl⟩;obtain⟨nn,e3⟩: ∃n,nums.length=n:=⟨_,rfl⟩;dsimp only at h0;rw[e1,e2,e3] at h0;obtain⟨oA,oc,eA,ec,nA,nc⟩:=P;have hx: ∀(P':RP) (R':RS) (no ne nn:Nat) (z:Int) (w':World),Mem w ((RP.mk oA oc eA ec nA nc).fp q) [q,0,0,0] (R'.hp P' no ne nn) w'→R'.opens.length=no→R'.ends.length=ne→R'.nums.length=nn→HearsR m ⟨opens,glob,ends,nums,false⟩ R' z→ET q ⟨oA,oc,eA,ec,nA,nc⟩ (fun z:Int=>.int .i64 z) (fun R' z=>HearsR m ⟨opens,glob,ends,nums,false⟩ R' z) w (.returned (.int .i64 z)) w':=fun P' R' no ne nn z w' H a b c d=>RAt.post (v:=fun z:Int=>.int .i64 z) (Rel:=fun R' z=>HearsR m ⟨opens,glob,ends,nums,_⟩ R' z) H a b c z d;obtain⟨Q,hQ⟩: ∃Q,ET q ⟨oA,oc,eA,ec,nA,nc⟩ (fun z:Int=>.int .i64 z) (fun R' z=>HearsR m ⟨opens,glob,ends,nums,false⟩ R' z) w=Q:=⟨_,rfl⟩;rw[hQ] at hx⊢;obtain⟨B,hB⟩: ∃B,(RP.mk oA oc eA ec nA nc).fp q=B:=⟨_,rfl⟩;rw[hB] at h0 hx;refine Hs.en Tryz.func11 B [q,0,0,0] [.b true 32 [.v (.slice oA no oc),.v (.int .i64 glob),.v (.slice eA ne ec),.v (.slice nA nn nc),.v (.bool false)],.s oA oc no 36 10 (opens.flatMap MD.cells),.s eA ec ne 61 8 (ends.flatMap EN.cells),.s nA nc nn 59 2 (nums.flatMap cN2)] [.c (.p 0 0),.g (mdS m)] h0 ?_;refine Hs.e1 fun b0=>?_;refine Hs.cF ?_;refine Hs.e0 ?_;refine Hs.cP (m.kind=1) (fun k1=>?_) (fun k1=>?_)
 ·refine Hs.e0 ?_;refine Hs.rt (v:=.int .i64 0) Tryz.func11 fun w' H=>?_;exact hx ⟨oA,oc,eA,ec,nA,nc⟩ ⟨opens,glob,ends,nums,true⟩ no ne nn 0 w' (H.sub [0,1,2,3] (by decide) (hp':=RS.hp ⟨oA,oc,eA,ec,nA,nc⟩ ⟨opens,glob,ends,nums,true⟩ no ne nn) (by kernel_rfl)) e1 e2 e3 (.left rfl k1)
 refine Hs.e0 ?_;refine Hs.cP (m.kind=81) (fun k2=>?_) (fun k2=>?_)
 ·refine Hs.e0 ?_;refine Hs.cP (m.kind=81) (fun _=>?_) (fun h=>absurd k2 h);refine Hs.e0 ?_;refine Hs.cP (glob=0) (fun hg=>?_) (fun hg=>?_)
  ·refine Hs.e0 ?_;refine Hs.rt (v:=.int .i64 9) Tryz.func11 fun w' H=>?_;exact hx ⟨oA,oc,eA,ec,nA,nc⟩ ⟨opens,glob,ends,nums,false⟩ no ne nn 9 w' (H.sub [0,1,2,3] (by decide) (hp':=RS.hp ⟨oA,oc,eA,ec,nA,nc⟩ ⟨opens,glob,ends,nums,false⟩ no ne nn) (by kernel_rfl)) e1 e2 e3 (.g0 rfl (by omega) hg)
  refine Hs.e0 ?_;refine Hs.rt (v:=.int .i64 0) Tryz.func11 fun w' H=>?_;exact hx ⟨oA,oc,eA,ec,nA,nc⟩ ⟨opens,IntKind.i64.wrap (glob-1),ends,nums,false⟩ no ne nn 0 w' (H.sub [0,1,2,3] (by decide) (hp':=RS.hp ⟨oA,oc,eA,ec,nA,nc⟩ ⟨opens,IntKind.i64.wrap (glob-1),ends,nums,false⟩ no ne nn) (by kernel_rfl)) e1 e2 e3 (.g1 rfl (by omega) hg)
 refine Hs.e0 ?_;refine Hs.cP (m.kind=82) (fun k3=>?_) (fun k3=>absurd hk (by omega));refine Hs.e0 ?_;refine Hs.cP (glob=0) (fun hg=>?_) (fun hg=>?_)
 ·refine Hs.e0 ?_;refine Hs.rt (v:=.int .i64 9) Tryz.func11 fun w' H=>?_;exact hx ⟨oA,oc,eA,ec,nA,nc⟩ ⟨opens,glob,ends,nums,false⟩ no ne nn 9 w' (H.sub [0,1,2,3] (by decide) (hp':=RS.hp ⟨oA,oc,eA,ec,nA,nc⟩ ⟨opens,glob,ends,nums,false⟩ no ne nn) (by kernel_rfl)) e1 e2 e3 (.g0 rfl (by omega) hg)
 refine Hs.e0 ?_;refine Hs.rt (v:=.int .i64 0) Tryz.func11 fun w' H=>?_;exact hx ⟨oA,oc,eA,ec,nA,nc⟩ ⟨opens,IntKind.i64.wrap (glob-1),ends,nums,false⟩ no ne nn 0 w' (H.sub [0,1,2,3] (by decide) (hp':=RS.hp ⟨oA,oc,eA,ec,nA,nc⟩ ⟨opens,IntKind.i64.wrap (glob-1),ends,nums,false⟩ no ne nn) (by kernel_rfl)) e1 e2 e3 (.g1 rfl (by omega) hg)
theorem YZ (q:Nat) (P:RP) (opens:List MD) (glob:Int) (ends:List EN) (nums:List (Int×Int)) (m:MD) (w:World) (h:RAt w q P ⟨opens,glob,ends,nums,false⟩) (hno:opens.length≤1000) (hne:ends.length≤1000) (hnn:nums.length≤1000) (hwin: ∀o∈opens,U32 o.window) (hk:m.kind=91∨m.kind=92):Calls Tryz.prog 11 #[AO q,m.val] w (ET q P (fun z:Int=>.int .i64 z) (fun R' z=>HearsR m ⟨opens,glob,ends,nums,false⟩ R' z) w):=by
 have C:Fx w (P.fp q) w [] (P.fp q) (fun w=>RAt w q P ⟨opens,glob,ends,nums,false⟩):=Fx.start (by simp) h (fun x hx=>⟨h.lt x hx,by simp,hx⟩) RAt.st;refine Hs.en Tryz.func11 [] [] [] [.c (.v (AO q)),.g (mdS m)] (Mem.start0 w) ?_;refine Hs.e1 fun b0=>?_;refine Hs.ldc (E':=4) (b:=q) (off:=4) (.bool false) (by kernel_rfl) (fun w' H=>by rw[(C.at H).blk.cell];rfl) (by kernel_rfl) ?_;refine Hs.e0 ?_;refine Hs.cF ?_;refine Hs.e0 ?_;refine Hs.cP (m.kind=1) (fun h=>by omega) (fun _=>?_);refine Hs.e0 ?_;refine Hs.cP (m.kind=81) (fun h=>by omega) (fun _=>?_);refine Hs.e0 ?_;refine Hs.cP (m.kind=82) (fun h=>by omega) (fun _=>?_);refine Hs.e0 ?_;refine Hs.cP (m.kind=91) (fun k4=>?_) (fun k4=>?_)
 ·refine Hs.e0 ?_;refine Hs.cP (m.kind=91) (fun _=>?_) (fun h=>absurd k4 h);refine Hs.e0 ?_;refine Hs.callFx (X:=RP×RS×Int) (fun x=>.int .i64 x.2.2) (fun x=>x.1.fp q) (fun x w=>RAt w q x.1 x.2.1∧AnsR m ⟨opens,glob,ends,nums,false⟩ x.2.1 x.2.2) C (fun w H hq=>KX q P _ m w hq hno hne hnn hwin hk) (by kernel_rfl) (by kernel_rfl) (by kernel_rfl) fun x w1 L1 C1 hnew _=>?_;refine Hs.e0 ?_;exact Hs.rt (v:=.int .i64 x.2.2) Tryz.func11 fun w' H=>⟨x,rfl,C1.fin H,⟨(C1.at H).1,.ans rfl hk (C1.at H).2⟩,fun w1 w2 hs he h=>⟨RAt.st w1 w2 hs he h.1,h.2⟩,fun y hy=>⟨Nat.lt_of_lt_of_le (C1.own y hy).1 H.only.size,hnew y hy⟩⟩
 ·refine Hs.e0 ?_;refine Hs.cP (m.kind=92) (fun k5=>?_) (fun k5=>absurd hk (by omega));refine Hs.e0 ?_;refine Hs.callFx (X:=RP×RS×Int) (fun x=>.int .i64 x.2.2) (fun x=>x.1.fp q) (fun x w=>RAt w q x.1 x.2.1∧AnsR m ⟨opens,glob,ends,nums,false⟩ x.2.1 x.2.2) C (fun w H hq=>KX q P _ m w hq hno hne hnn hwin hk) (by kernel_rfl) (by kernel_rfl) (by kernel_rfl) fun x w1 L1 C1 hnew _=>?_;refine Hs.e0 ?_;exact Hs.rt (v:=.int .i64 x.2.2) Tryz.func11 fun w' H=>⟨x,rfl,C1.fin H,⟨(C1.at H).1,.ans rfl hk (C1.at H).2⟩,fun w1 w2 hs he h=>⟨RAt.st w1 w2 hs he h.1,h.2⟩,fun y hy=>⟨Nat.lt_of_lt_of_le (C1.own y hy).1 H.only.size,hnew y hy⟩⟩
theorem ZA (q:Nat) (P:RP) (R:RS) (m:MD) (w:World) (h:RAt w q P R) (hno:R.opens.length≤1000) (hne:R.ends.length≤1000) (hnn:R.nums.length≤1000) (hwin: ∀o∈R.opens,U32 o.window) (hnum: ∀x∈R.ends,NumOk x) (hm:GC w (P.fp q) (fun w=>m.ok w)) (hml:m.data.length≤140737488355000):Calls Tryz.prog 11 #[AO q,m.val] w (ET q P (fun z:Int=>.int .i64 z) (fun R' z=>HearsR m R R' z) w):=by
 obtain⟨opens,glob,ends,nums,dead⟩:=R;cases dead with
 |true=>exact VB q P opens glob ends nums m w h
 |false=>
  by_cases h1:m.kind=1∨m.kind=81∨m.kind=82
  ·exact YY q P opens glob ends nums m w h h1
  by_cases h2:m.kind=91∨m.kind=92
  ·exact YZ q P opens glob ends nums m w h hno hne hnn hwin h2
  ·exact VC q P opens glob ends nums m w h hno hne hnn hwin hnum hm hml ⟨by omega,by omega,by omega,by omega,by omega⟩
end Go.Proofs.YtkgikodiecmakaaGreatDoor
namespace Go.Proofs.YtkgikodiecmakaaGreatDoor
open Go.RowKit Go.MapKept
structure IsEnds (S : WS) (E : List EN) : Prop where
  inc : (E.map (·.chan)).Pairwise (· < ·)
  look : ∀ k x, AK k S.ends = some x ↔ (x ∈ E ∧ x.chan = k)
theorem IsEnds.lt {S:WS} {E:List EN} (h:IsEnds S E) {i j:Nat} {a b:EN} (hi:E[i]? = some a) (hj:E[j]? = some b) (hl:i<j):a.chan<b.chan:=by
 have h1:=(List.getElem?_eq_some_iff.1 hi);have h2:=(List.getElem?_eq_some_iff.1 hj);obtain⟨h1,e1⟩:=h1;obtain⟨h2,e2⟩:=h2;have:=List.pairwise_iff_getElem.1 h.inc i j (by simpa using h1) (by simpa using h2) hl;rw[List.getElem_map,List.getElem_map,e1,e2] at this;exact this
theorem IsEnds.inj {S:WS} {E:List EN} (h:IsEnds S E) {i j:Nat} {a b:EN} (hi:E[i]? = some a) (hj:E[j]? = some b) (he:a.chan=b.chan):i=j:=by
 rcases Nat.lt_trichotomy i j with hl|hl|hl;·have:=h.lt hi hj hl;omega
 ·exact hl
 ·have:=h.lt hj hi hl;omega
theorem UD: ∀{l l':List EN},(l.map (·.chan)).Pairwise (· < ·)→(l'.map (·.chan)).Pairwise (· < ·)→(∀x,x∈l↔x∈l')→l=l'
 |[],[],_,_,_=>rfl
 |[],b::t,_,_,h=>absurd ((h b).2 (by simp)) (by simp)
 |a::t,[],_,_,h=>absurd ((h a).1 (by simp)) (by simp)
 |a::t,b::t',h1,h2,h=>by
  rw[List.map_cons,List.pairwise_cons] at h1 h2;have ha: ∀x∈t,a.chan<x.chan:=fun x hx=>h1.1 _ (List.mem_map_of_mem hx);have hb: ∀x∈t',b.chan<x.chan:=fun x hx=>h2.1 _ (List.mem_map_of_mem hx);have e:a=b:=by
   rcases List.mem_cons.1 ((h a).1 (by simp)) with e|e;·exact e
   ·rcases List.mem_cons.1 ((h b).2 (by simp)) with e2|e2;·exact e2.symm
    ·have:=hb a e;have:=ha b e2;omega
  subst e;congr 1
  refine UD h1.2 h2.2 fun x=>⟨fun hx=>?_,fun hx=>?_⟩
  ·rcases List.mem_cons.1 ((h x).1 (by simp[hx])) with e|e;·subst e;have:=ha x hx;omega
   ·exact e
  ·rcases List.mem_cons.1 ((h x).2 (by simp[hx])) with e|e;·subst e;have:=hb x hx;omega
   ·exact e
theorem IsEnds.uniq {S:WS} {E E':List EN} (h:IsEnds S E) (h':IsEnds S E'):E=E':=
 UD h.inc h'.inc fun x=>⟨fun hx=>((h'.look x.chan x).1 ((h.look x.chan x).2 ⟨hx,rfl⟩)).1,fun hx=>((h.look x.chan x).1 ((h'.look x.chan x).2 ⟨hx,rfl⟩)).1⟩
theorem XS {c:Nat} {S:WS} (h:Inv29 c S):IsEnds S (CY S):=by
 have hch: ∀k x,AK k S.ends=some x→x.chan=k:=fun k x hx=>(h.en _ (BN hx)).2.1;have hs:(KV S).Pairwise fun a b=>Go.leI a b=true:=List.pairwise_mergeSort (fun a b c h1 h2=>by simp only[Go.leI,decide_eq_true_eq] at *;omega) (fun a b=>by simp only[Go.leI,Bool.or_eq_true,decide_eq_true_eq];omega) _;have hn:(KV S).Nodup:=((List.mergeSort_perm _ _).nodup_iff).2 h.ke;have hm:(CY S).map (·.chan)=KV S:=by
  unfold CY;rw[List.map_map];conv=>rhs;rw[←List.map_id (KV S)]
  apply List.map_congr_left;intro k hk;obtain⟨x,hx⟩:=MH hk;simp[hx,hch k x hx]
 refine⟨?_,fun k x=>⟨fun hx=>⟨?_,hch k x hx⟩,fun⟨hx,hk⟩=>?_⟩⟩
 ·rw[hm];exact(hs.and hn).imp fun {a b} h=>by
   have h1:=h.1;have h2:=h.2;simp only[Go.leI,decide_eq_true_eq] at h1;omega
 ·unfold CY;refine List.mem_map.2 ⟨k,?_,by rw[hx];rfl⟩;exact((List.mergeSort_perm _ _).mem_iff).2 (List.mem_map.2 ⟨_,BN hx,rfl⟩)
 ·unfold CY at hx;obtain⟨k',h1,h2⟩:=List.mem_map.1 hx;obtain⟨y,hy⟩:=MH h1;rw[hy] at h2;simp only[Option.getD_some] at h2;subst h2;rw[←hk,hch k' y hy];exact hy
theorem IsEnds.set {S:WS} {E:List EN} (h:IsEnds S E) {j:Nat} {x y:EN} (hj:E[j]? = some x) (hy:y.chan=x.chan):IsEnds { S with ends:=BH x.chan y S.ends } (E.set j y):=by
 have hjl:=(List.getElem?_eq_some_iff.1 hj).1;have hg: ∀i,(E.set j y)[i]? = if i=j then some y else E[i]? :=fun i=>by
  rw[List.getElem?_set];by_cases e:j=i
  ·subst e;simp[hjl]
  ·rw[if_neg e,if_neg (fun h=>e h.symm)]
 refine⟨?_,fun k z=>?_⟩
 ·have e:(E.set j y).map (·.chan)=E.map (·.chan):=by
   apply List.ext_getElem?;intro i;rw[List.getElem?_map,List.getElem?_map,hg];split;·rename_i e;subst e;rw[hj];simp[hy]
   ·rfl
  rw[e];exact h.inc
 ·dsimp only;rw[DY];split
  ·rename_i e;subst e;constructor
   ·intro e;injection e with e;subst e;exact⟨List.mem_iff_getElem?.2 ⟨j,by rw[hg,if_pos rfl]⟩,hy⟩
   ·rintro⟨hz,hc⟩;obtain⟨i,hi⟩:=List.mem_iff_getElem?.1 hz;rw[hg] at hi;split at hi;·exact hi
    ·exact absurd (h.inj hi hj hc) (by assumption)
  ·rename_i e;rw[h.look];constructor
   ·rintro⟨hz,hc⟩;obtain⟨i,hi⟩:=List.mem_iff_getElem?.1 hz;refine⟨List.mem_iff_getElem?.2 ⟨i,?_⟩,hc⟩;rw[hg,if_neg (fun e2=>by subst e2;rw[hj] at hi;injection hi with hi;subst hi;exact e hc)];exact hi
   ·rintro⟨hz,hc⟩;obtain⟨i,hi⟩:=List.mem_iff_getElem?.1 hz;rw[hg] at hi;split at hi;·injection hi with hi;subst hi;exact absurd (hy.symm.trans hc) e
    ·exact⟨List.mem_of_getElem? hi,hc⟩
theorem IsEnds.ins {S:WS} {E:List EN} (h:IsEnds S E) {n:Int} {i:Nat} {y:EN} (hn: ∀x∈E,x.chan≠n) (hi:InAt E n i) (hy:y.chan=n):IsEnds { S with ends:=BH n y S.ends } (E.take i++[y]++E.drop i):=by
 have hmem: ∀z,z∈E.take i++[y]++E.drop i↔z=y∨z∈E:=fun z=>by
  conv=>rhs;rw[←List.take_append_drop i E]
  simp only[List.mem_append,List.mem_singleton];constructor
  ·rintro((h|h)|h);·exact .inr (.inl h)
   ·exact .inl h
   ·exact .inr (.inr h)
  ·rintro(h|h|h);·exact .inl (.inr h)
   ·exact .inl (.inl h)
   ·exact .inr h
 refine⟨?_,fun k z=>?_⟩
 ·have hp:=h.inc;rw[←List.take_append_drop i E,List.map_append,List.pairwise_append] at hp;have h1: ∀x∈E.take i,x.chan<n:=fun x hx=>by
   obtain⟨j,hj⟩:=List.mem_iff_getElem?.1 hx;rw[List.getElem?_take] at hj;split at hj;·exact hi.2.1 j x (by assumption) hj
   ·cases hj
  have h2: ∀x∈E.drop i,n<x.chan:=fun x hx=>by
   obtain⟨j,hj⟩:=List.mem_iff_getElem?.1 hx;rw[List.getElem?_drop] at hj;have hxe:=hn x (List.mem_of_getElem? hj);rcases Nat.eq_zero_or_pos j with e|e
   ·subst e;have:=hi.2.2 x hj;omega
   ·have hil:i<E.length:=by have:=(List.getElem?_eq_some_iff.1 hj).1;omega
    have h3:=hi.2.2 E[i] (List.getElem?_eq_getElem hil);have h4:=h.lt (List.getElem?_eq_getElem hil) hj (by omega);omega
  rw[List.map_append,List.map_append,List.pairwise_append,List.pairwise_append];refine⟨⟨hp.1,by simp,fun a ha b hb=>?_⟩,hp.2.1,fun a ha b hb=>?_⟩
  ·obtain⟨x,hx,rfl⟩:=List.mem_map.1 ha;simp only[List.map_cons,List.map_nil,List.mem_singleton] at hb;subst hb;have:=h1 x hx;omega
  ·obtain⟨x,hx,rfl⟩:=List.mem_map.1 hb;have hx2:=h2 x hx;rcases List.mem_append.1 ha with ha|ha
   ·obtain⟨z,hz,rfl⟩:=List.mem_map.1 ha;have:=h1 z hz;omega
   ·simp only[List.map_cons,List.map_nil,List.mem_singleton] at ha;subst ha;omega
 ·rw[hmem];dsimp only;rw[DY];split
  ·rename_i e;subst e;constructor;·intro e;injection e with e;subst e;exact⟨.inl rfl,hy⟩
   ·rintro⟨rfl|hz,hc⟩;·rfl
    ·exact absurd hc (hn z hz)
  ·rename_i e;rw[h.look];constructor;·rintro⟨hz,hc⟩;exact⟨.inr hz,hc⟩
   ·rintro⟨rfl|hz,hc⟩;·exact absurd (hy.symm.trans hc) e
    ·exact⟨hz,hc⟩
def LC (n:Int):List (Int×Int)→Option Int
 |[]=>none
 |p::l=>match LC n l with
  |some k=>some k
  |none=>if p.1=n then some p.2 else none
theorem PH (n:Int) (p:Int×Int): ∀l:List (Int×Int),LC n (l++[p])=if p.1=n then some p.2 else LC n l
 |[]=>by simp[LC]
 |q::l=>by
  have ih:=PH n p l;rw[List.cons_append];unfold LC;rw[ih];by_cases h:p.1=n
  ·simp[h]
  ·simp only[h,if_false]
theorem MM {n:Int}: ∀{l:List (Int×Int)},(∀p∈l,p.1≠n)→LC n l=none
 |[],_=>rfl
 |q::l,h=>by
  unfold LC;rw[MM fun p hp=>h p (by simp[hp])];simp[h q (by simp)]
theorem NS {n:Int} {p:Int×Int}: ∀{l:List (Int×Int)} {i:Nat},NumAt l n i p→LC n l=some p.2
 |[],i,h=>by have:=h.1;simp at this
 |q::l,0,h=>by
  have e:=h.1;simp only[List.getElem?_cons_zero,Option.some.injEq] at e;subst e;unfold LC;rw[MM fun y hy=>by
   obtain⟨j,hj⟩:=List.mem_iff_getElem?.1 hy;exact h.2.2 (j+1) y (by omega) (by simpa using hj)]
  simp[h.2.1]
 |q::l,i+1,h=>by
  unfold LC;rw[NS (l:=l) (i:=i) ⟨by simpa using h.1,h.2.1,fun j y hj hy=>h.2.2 (j+1) y (by omega) (by simpa using hy)⟩]
end Go.Proofs.YtkgikodiecmakaaGreatDoor
namespace Go.Proofs.YtkgikodiecmakaaGreatDoor
open Go.RowKit Go.MapKept
def CD (n:Int) (l:List MD):List (Int×Int):=(l.filter fun o=>decide (o.sender=n)).map fun o=>(o.window,o.packet)
theorem SY {l:List MD} {n:Int} {a:Nat} {o:MD} (h:OQ l n a o):l=l.take a++o::l.drop (a+1):=by
 obtain⟨h1,h2⟩:=List.getElem?_eq_some_iff.1 h.1;conv=>lhs;rw[←List.take_append_drop a l]
 rw[List.drop_eq_getElem_cons h1,h2]
theorem GG (n:Int) (l l':List MD):CD n (l++l')=CD n l++CD n l':=by unfold CD;rw[List.filter_append,List.map_append]
theorem NF {n:Int} {l:List MD} (h: ∀o∈l,o.sender≠n):CD n l=[]:=by
 unfold CD;rw[List.filter_eq_nil_iff.2 fun o ho=>by simpa using h o ho];rfl
theorem JI (n:Int) (o:MD) (l:List MD):CD n (o::l)=if o.sender=n then(o.window,o.packet)::CD n l else CD n l:=by
 unfold CD;rw[List.filter_cons];by_cases h:o.sender=n<;>simp[h]
theorem XG {l:List MD} {n:Int} {a:Nat} {o:MD} (h:OQ l n a o):CD n l=(o.window,o.packet)::CD n (l.take a++l.drop (a+1)):=by
 have h0:CD n (l.take a)=[]:=NF fun y hy=>by
  obtain⟨j,hj⟩:=List.mem_iff_getElem?.1 hy;rw[List.getElem?_take] at hj;split at hj;·exact h.2.2 j y (by assumption) hj
  ·cases hj
 conv=>lhs;rw[SY h]
 rw[GG,GG,h0,JI,if_pos h.2.1];rfl
theorem RH {l:List MD} {n k:Int} {a:Nat} {o:MD} (h:OQ l n a o) (hk:n≠k):CD k (l.take a++l.drop (a+1))=CD k l:=by
 conv=>rhs;rw[SY h]
 rw[GG,GG,JI,if_neg (by rw[h.2.1];exact hk)]
structure Ok29 (c : Nat) (S : WS) (R : RS) : Prop where
  inv : Inv29 c S
  op : ∀ n, (AK n S.opens).getD [] = CD n R.opens
  gl : S.glob = R.glob
  gr : 0 ≤ R.glob ∧ R.glob ≤ c
  en : IsEnds S R.ends
  nu : ∀ n, AK n S.nums = LC n R.nums
  de : S.dead = R.dead
  cl : ∀ p ∈ R.nums, ∃ x, AK p.2 S.ends = some x
  ow : ∀ o ∈ R.opens, U32 o.window ∧ U32 o.packet
  lo : R.opens.length ≤ c
  ln : R.nums.length ≤ c
theorem ok29_new:Ok29 0 QV ⟨[],0,[],[],false⟩:=⟨inv29_new,fun n=>rfl,rfl,⟨by decide,by decide⟩,⟨by simp,fun k x=>by simp[QV,AK]⟩,fun n=>rfl,rfl,by simp,by simp,by simp,by simp⟩
theorem Ok29.ends {c:Nat} {S:WS} {R:RS} (h:Ok29 c S R):R.ends=CY S:=h.en.uniq (XS h.inv)
theorem Ok29.le {c:Nat} {S:WS} {R:RS} (h:Ok29 c S R):R.ends.length≤c:=by rw[h.ends,LP];exact h.inv.le
theorem Ok29.at {c:Nat} {S:WS} {R:RS} (h:Ok29 c S R) {j:Nat} {x:EN} (hj:R.ends[j]? = some x):AK x.chan S.ends=some x:=(h.en.look _ _).2 ⟨List.mem_of_getElem? hj,rfl⟩
theorem Ok29.num {c:Nat} {S:WS} {R:RS} (h:Ok29 c S R) (hc:c≤1000): ∀x∈R.ends,NumOk x:=fun x hx=>by
 have h1:=h.inv.en _ (BN ((h.en.look _ _).2 ⟨hx,rfl⟩));obtain⟨_,_,h2,h3,h4,h5,_⟩:=h1;refine⟨h2,h3,h4,?_⟩;dsimp only at h5;have:(c:Int)*4294967295≤1000*4294967295:=Int.mul_le_mul_of_nonneg_right (by omega) (by decide);omega
theorem wrapI {n:Int} (h0:0≤n) (h:n≤1001):IntKind.i64.wrap n=n:=IntWalk.i64_in _ (by omega)
theorem Ok29.turn {c:Nat} {S:WS} {R:RS} (h:Ok29 c S R) {j:Nat} {x y:EN} (hj:R.ends[j]? = some x) (hy:y.chan=x.chan) (hi:Inv29 (c+1) { S with ends:=BH x.chan y S.ends }):Ok29 (c+1) { S with ends:=BH x.chan y S.ends } { R with ends:=R.ends.set j y }:=
 ⟨hi,h.op,h.gl,⟨h.gr.1,by have:=h.gr.2;dsimp only;omega⟩,h.en.set hj hy,h.nu,h.de,fun p hp=>by
  obtain⟨z,hz⟩:=h.cl p hp;dsimp only;rw[DY];split;·exact⟨_,rfl⟩
  ·exact⟨z,hz⟩,h.ow,by have:=h.lo;dsimp only;omega,by have:=h.ln;dsimp only;omega⟩
theorem Ok29.up {c:Nat} {S:WS} {R:RS} (h:Ok29 c S R):Ok29 (c+1) S R:=⟨h.inv.up,h.op,h.gl,⟨h.gr.1,by have:=h.gr.2;omega⟩,h.en,h.nu,h.de,h.cl,h.ow,by have:=h.lo;omega,by have:=h.ln;omega⟩
theorem ZE {c:Nat} {S:WS} {R R':RS} {m:MD} (h:Ok29 c S R) (hc:c≤1000) (hw:U32 m.window) (hp:U32 m.packet) (hs:SaysR m R R'):Ok29 (c+1) (CT S m) R':=by
 have hI:=cL h.inv hc hw hp;cases hs with
 |opn hk=>
  unfold CT at hI⊢;rw[if_pos hk] at hI⊢;refine⟨hI,fun n=>?_,h.gl,⟨h.gr.1,by have:=h.gr.2;dsimp only;omega⟩,⟨h.en.inc,h.en.look⟩,h.nu,h.de,h.cl,fun o ho=>?_,?_,by have:=h.ln;dsimp only;omega⟩
  ·dsimp only;rw[DY,GG,JI];by_cases e:m.sender=n
   ·subst e;rw[if_pos rfl,if_pos rfl,h.op];rfl
   ·rw[if_neg e,if_neg e,h.op];simp[CD]
  ·rcases List.mem_append.1 ho with h1|h1;·exact h.ow o h1
   ·rw[List.mem_singleton] at h1;subst h1;exact⟨hw,hp⟩
  ·have:=h.lo;simp;omega
 |glo hk hw1=>
  unfold CT at hI⊢;rw[if_neg (by omega),if_pos hk] at hI⊢;have e:IntKind.i64.wrap (S.glob+b01 m.want)=IntKind.i64.wrap (R.glob+1):=by rw[h.gl,hw1];rfl
  have e2:IntKind.i64.wrap (R.glob+1)=R.glob+1:=wrapI (by have:=h.gr.1;omega) (by have:=h.gr.2;omega);exact⟨hI,h.op,e,by dsimp only;rw[e2];have:=h.gr;omega,⟨h.en.inc,h.en.look⟩,h.nu,h.de,h.cl,h.ow,by have:=h.lo;dsimp only;omega,by have:=h.ln;dsimp only;omega⟩
 |glo0 hk hw1=>
  have e:CT S m=S:=by
   unfold CT;rw[if_neg (by omega),if_pos hk,hw1];have:IntKind.i64.wrap (S.glob+b01 false)=S.glob:=by
    show IntKind.i64.wrap (S.glob+0)=S.glob;rw[Int.add_zero,h.gl];exact wrapI h.gr.1 (by have:=h.gr.2;omega)
   rw[this]
  rw[e];exact h.up
 |non hk hn=>
  have hb:byS S m.chan=none:=by unfold byS;rw[h.nu,MM hn]
  have e:CT S m=S:=by
   unfold CT;rw[if_neg (by omega),if_neg (by omega),hb];dsimp only;split;·rfl
   ·split<;>rfl
  rw[e];exact h.up
 |win hk hN hj hx=>
  rename_i i j p x;have hb:byS S m.chan=some (x.chan,x):=by unfold byS;rw[h.nu,NS hN];dsimp only;rw[←hx,h.at hj];rfl
  unfold CT at hI⊢;rw[if_neg (by omega),if_neg (by omega),if_pos hk,hb] at hI⊢;exact h.turn hj rfl hI
 |req hk hw1 hN hj hx=>
  rename_i i j p x;have hb:byS S m.chan=some (x.chan,x):=by unfold byS;rw[h.nu,NS hN];dsimp only;rw[←hx,h.at hj];rfl
  unfold CT at hI⊢;rw[if_neg (by omega),if_neg (by omega),if_neg (by omega),if_pos hk,hb,hw1] at hI⊢;exact h.turn hj rfl hI
 |req0 hk hw1 hN hj hx=>
  rename_i i j p x;have hb:byS S m.chan=some (x.chan,x):=by unfold byS;rw[h.nu,NS hN];dsimp only;rw[←hx,h.at hj];rfl
  have hn:=h.inv.en _ (BN (h.at hj));have e:CT S m=S:=by
   unfold CT;rw[if_neg (by omega),if_neg (by omega),if_neg (by omega),if_pos hk,hb,hw1];dsimp only;have:IntKind.i64.wrap (x.wants+b01 false)=x.wants:=by
    show IntKind.i64.wrap (x.wants+0)=x.wants;rw[Int.add_zero];obtain⟨_,_,_,_,_,_,h6,h7⟩:=hn;dsimp only at h6 h7;exact wrapI h6 (by omega)
   rw[this,show({ x with wants:=x.wants }:EN)=x from rfl,ZF (h.at hj)]
  rw[e];exact h.up
 |oth hk=>
  have e:CT S m=S:=by
   unfold CT;rw[if_neg hk.1,if_neg hk.2.1,if_neg hk.2.2.1,if_neg hk.2.2.2]
  rw[e];exact h.up
theorem endS_chan (x:EN) (m:MD) (ok:Bool):(GO x m ok).1.chan=x.chan:=by
 unfold GO;repeat' split
 all_goals rfl
theorem aA {c:Nat} {S:WS} {R:RS} (h:Ok29 c S R) {n:Int} (hn: ∀o∈R.opens,o.sender≠n):GJ S n=none:=by
 have:=h.op n;rw[NF hn] at this;unfold GJ;cases e:AK n S.opens with
 |none=>rfl
 |some l=>
  rw[e] at this;simp only[Option.getD_some] at this;subst this;rfl
theorem KH {c:Nat} {S:WS} {R:RS} (h:Ok29 c S R) {n:Int} {a:Nat} {o:MD} (ho:OQ R.opens n a o):GJ S n=some ((o.window,o.packet),CD n (R.opens.take a++R.opens.drop (a+1))):=by
 have:=h.op n;rw[XG ho] at this;unfold GJ;cases e:AK n S.opens with
 |none=>rw[e] at this;cases this
 |some l=>
  rw[e] at this;simp only[Option.getD_some] at this;subst this;rfl
theorem op_cut {c:Nat} {S:WS} {R:RS} (h:Ok29 c S R) {n:Int} {a:Nat} {o:MD} (ho:OQ R.opens n a o): ∀k,(AK k (BH n (CD n (R.opens.take a++R.opens.drop (a+1))) S.opens)).getD []=CD k (R.opens.take a++R.opens.drop (a+1)):=fun k=>by
 rw[DY];split;·rename_i e;subst e;rfl
 ·rename_i e;rw[h.op,RH ho e]
theorem XZ {l:List MD} {a:Nat} {o:MD} (h:o∈l.take a++l.drop (a+1)):o∈l:=by
 rcases List.mem_append.1 h with h|h;·exact List.mem_of_mem_take h
 ·exact List.mem_of_mem_drop h
theorem UP {c:Nat} {S:WS} {R R':RS} {m:MD} {e:Int} (h:Ok29 c S R) (hc:c≤1000) (hm:U32 m.chan) (hl:m.data.length≤140737488355000) (hs:HearsR m R R' e):(AM S m (okEx m)).2=e∧Ok29 (c+1) (AM S m (okEx m)).1 R':=by
 have hI:=aK h.inv hc hm hl (okEx m);cases hs with
 |dead hd=>
  rw[aF m _ (h.de.trans hd)];exact⟨rfl,h.up⟩
 |left hd hk=>
  have hd': ¬S.dead=true:=by rw[h.de,hd];decide
  unfold AM at hI⊢;rw[if_neg hd',if_pos hk] at hI⊢;exact⟨rfl,hI,h.op,h.gl,⟨h.gr.1,by have:=h.gr.2;dsimp only;omega⟩,⟨h.en.inc,h.en.look⟩,h.nu,rfl,h.cl,h.ow,by have:=h.lo;dsimp only;omega,by have:=h.ln;dsimp only;omega⟩
 |g0 hd hk hg=>
  have hd': ¬S.dead=true:=by rw[h.de,hd];decide
  unfold AM;rw[if_neg hd',if_neg (by omega),if_pos hk,if_pos (h.gl.trans hg)];exact⟨rfl,h.up⟩
 |g1 hd hk hg=>
  have hd': ¬S.dead=true:=by rw[h.de,hd];decide
  unfold AM at hI⊢;rw[if_neg hd',if_neg (by omega),if_pos hk,if_neg (by rw[h.gl];exact hg)] at hI⊢;have e2:IntKind.i64.wrap (R.glob-1)=R.glob-1:=wrapI (by have:=h.gr.1;omega) (by have:=h.gr.2;omega);exact⟨rfl,hI,h.op,by dsimp only;rw[h.gl],by dsimp only;rw[e2];have:=h.gr;omega,⟨h.en.inc,h.en.look⟩,h.nu,h.de,h.cl,h.ow,by have:=h.lo;dsimp only;omega,by have:=h.ln;dsimp only;omega⟩
 |kind hd hk hn=>
  have hd': ¬S.dead=true:=by rw[h.de,hd];decide
  obtain⟨k1,k2,k3,k4,k5⟩:=hk;unfold AM;rw[if_neg hd',if_neg k1,if_neg (by omega),if_neg k4,if_neg k5,if_pos (by unfold JH at hn;omega)];exact⟨rfl,h.up⟩
 |no hd hk hn=>
  have hd': ¬S.dead=true:=by rw[h.de,hd];decide
  have hl0:AK m.chan S.ends=none:=by
   cases e:AK m.chan S.ends with
   |none=>rfl
   |some x=>have:=(h.en.look _ _).1 e;exact absurd this.2 (hn x this.1)
  unfold JH at hk;unfold AM;rw[if_neg hd',if_neg (by omega),if_neg (by omega),if_neg (by omega),if_neg (by omega),if_neg (by omega),hl0];exact⟨rfl,h.up⟩
 |clo hd hk hj hx hcl=>
  have hd': ¬S.dead=true:=by rw[h.de,hd];decide
  have hl0:=h.at hj;rw[hx] at hl0;unfold JH at hk;unfold AM;rw[if_neg hd',if_neg (by omega),if_neg (by omega),if_neg (by omega),if_neg (by omega),if_neg (by omega),hl0];dsimp only;rw[if_pos hcl];exact⟨rfl,h.up⟩
 |same hd hk hj hx hcl hE=>
  have hd': ¬S.dead=true:=by rw[h.de,hd];decide
  have hl0:=h.at hj;rw[hx] at hl0;unfold JH at hk;unfold AM;rw[if_neg hd',if_neg (by omega),if_neg (by omega),if_neg (by omega),if_neg (by omega),if_neg (by omega),hl0];dsimp only;rw[if_neg (by rw[hcl];decide),hE];dsimp only;rw[ZF hl0];exact⟨rfl,h.up⟩
 |turn hd hk hj hx hcl hE=>
  rename_i j x y;have hd': ¬S.dead=true:=by rw[h.de,hd];decide
  have hl0:=h.at hj;rw[hx] at hl0;have hy:y.chan=x.chan:=by have:=endS_chan x m (okEx m);rw[hE] at this;exact this
  unfold JH at hk;unfold AM at hI⊢;rw[if_neg hd',if_neg (by omega),if_neg (by omega),if_neg (by omega),if_neg (by omega),if_neg (by omega),hl0] at hI⊢;dsimp only at hI⊢;rw[if_neg (by rw[hcl];decide),hE] at hI⊢;dsimp only at hI⊢;rw[←hx] at hI⊢;exact⟨rfl,h.turn hj hy hI⟩
 |ans hd hk hA=>
  have hd': ¬S.dead=true:=by rw[h.de,hd];decide
  cases hA with
  |no hn=>
   unfold AM;rw[if_neg hd',if_neg (by omega),if_neg (by omega),aA h hn];dsimp only;rcases hk with k|k;·rw[if_pos k];exact⟨rfl,h.up⟩
   ·rw[if_neg (by omega),if_pos k];exact⟨rfl,h.up⟩
  |busy k ho hj hx hcl=>
   have hl0:=h.at hj;rw[hx] at hl0;unfold AM;rw[if_neg hd',if_neg (by omega),if_neg (by omega),if_pos k,KH h ho];dsimp only;rw[hl0];dsimp only;rw[if_pos (by rw[hcl];rfl)];exact⟨rfl,h.up⟩
  |fail k ho=>
   unfold AM at hI⊢;rw[if_neg hd',if_neg (by omega),if_neg (by omega),if_neg (by omega),if_pos k,KH h ho] at hI⊢;exact⟨rfl,hI,op_cut h ho,h.gl,⟨h.gr.1,by have:=h.gr.2;dsimp only;omega⟩,⟨h.en.inc,h.en.look⟩,h.nu,h.de,h.cl,fun o ho=>h.ow o (XZ ho),by have:=h.lo;simp only[List.length_append,List.length_take,List.length_drop];omega,by have:=h.ln;dsimp only;omega⟩
  |again k ho hj hx hcl=>
   rename_i a j o x;have hl0:=h.at hj;rw[hx] at hl0;unfold AM at hI⊢;rw[if_neg hd',if_neg (by omega),if_neg (by omega),if_pos k,KH h ho] at hI⊢;dsimp only at hI⊢;rw[hl0] at hI⊢;dsimp only at hI⊢;rw[if_neg (by rw[hcl];decide)] at hI⊢;have hen:=h.en.set hj (y:=LU m.chan (o.window,o.packet)) hx.symm;rw[hx] at hen;refine⟨rfl,hI,op_cut h ho,h.gl,⟨h.gr.1,by have:=h.gr.2;dsimp only;omega⟩,⟨hen.inc,hen.look⟩,fun n=>?_,h.de,fun p hp=>?_,fun o ho=>h.ow o (XZ ho),by have:=h.lo;simp only[List.length_append,List.length_take,List.length_drop];omega,by have:=h.ln;simp only[List.length_append,List.length_singleton];omega⟩
   ·dsimp only;rw[DY,PH,h.nu]
   ·dsimp only;rw[DY];rcases List.mem_append.1 hp with hp|hp
    ·split;·exact⟨_,rfl⟩
     ·exact h.cl p hp
    ·rw[List.mem_singleton] at hp;subst hp;exact⟨_,if_pos rfl⟩
  |new k ho hn hi=>
   rename_i a i o;have hl0:AK m.chan S.ends=none:=by
    cases e:AK m.chan S.ends with
    |none=>rfl
    |some x=>have:=(h.en.look _ _).1 e;exact absurd this.2 (hn x this.1)
   unfold AM at hI⊢;rw[if_neg hd',if_neg (by omega),if_neg (by omega),if_pos k,KH h ho] at hI⊢;dsimp only at hI⊢;rw[hl0] at hI⊢;dsimp only at hI⊢;rw[if_neg (by decide)] at hI⊢;have hen:=h.en.ins (y:=LU m.chan (o.window,o.packet)) hn hi rfl;refine⟨rfl,hI,op_cut h ho,h.gl,⟨h.gr.1,by have:=h.gr.2;dsimp only;omega⟩,⟨hen.inc,hen.look⟩,fun n=>?_,h.de,fun p hp=>?_,fun o ho=>h.ow o (XZ ho),by have:=h.lo;simp only[List.length_append,List.length_take,List.length_drop];omega,by have:=h.ln;simp only[List.length_append,List.length_singleton];omega⟩
   ·dsimp only;rw[DY,PH,h.nu]
   ·dsimp only;rw[DY];rcases List.mem_append.1 hp with hp|hp
    ·split;·exact⟨_,rfl⟩
     ·exact h.cl p hp
    ·rw[List.mem_singleton] at hp;subst hp;exact⟨_,if_pos rfl⟩
end Go.Proofs.YtkgikodiecmakaaGreatDoor
