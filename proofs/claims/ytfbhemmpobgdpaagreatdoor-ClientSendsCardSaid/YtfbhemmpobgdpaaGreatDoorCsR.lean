/- ClientSends: lemmas, from 'The document's answer for layer 1: take' on; what each asks for stands in it. -/
import Derived.Test.YtfbhemmpobgdpaaGreatDoorCsQ
import Derived.Test.YtfbhemmpobgdpaaGreatDoorCsM
import Derived.Test.YtfbhemmpobgdpaaGreatDoorCsF
import Derived.Test.YtfbhemmpobgdpaaGreatDoorCsG
set_option linter.all false
set_option maxRecDepth 100000
set_option maxHeartbeats 64000000
namespace Go.Proofs.YtfbhemmpobgdpaaGreatDoor
open Go.RowKit
theorem dV {fn:Func} {p t u:Tmp} (h:fn.results=#[.cell p 153,.tmp t,.tmp u]) (tmps:Array Value) (w:World) (g:Nat) (cs:Array Value) (hs:cs.size=4)
  (hp:tmps.getD p undef = .pointer (some ⟨g,0,none⟩)) (hg:w.heap[g]? = some (.cells cs 153 (0,0))) :
  (results fn tmps).run Tryz.prog w = .ok (.tuple #[.agg cs,tmps.getD t undef,tmps.getD u undef]) w:=by
 have hp':tmps[p]?.getD undef = .pointer (some ⟨g,0,none⟩):=by simpa using hp
 simp[results,h,hp',asAddr,run_loadVar_row w g 153 153 cs (0,0) _ hg Tryz.underlying153 rfl (by rw[hs];kernel_rfl)]
theorem DJ {fn:Func} {p t u:Tmp} {R:Ending->World->Prop} {a:Act} {w:World} {g:Nat} {v0 v1 v2 v3:Value} (h:fn.results=#[.cell p 153,.tmp t,.tmp u]) (hp:a.tmps.getD p undef = .pointer (some ⟨g,0,none⟩)) (hd:a.defers=[])
  (hg:Blk w g 153 [v0,v1,v2,v3]) (hR:R (.returned (.tuple #[.agg #[v0,v1,v2,v3],a.tmps.getD t undef,a.tmps.getD u undef])) w):bodyPost Tryz.prog fn R .ret a w:=
 bodyPost_ret (dV h _ w g #[v0,v1,v2,v3] rfl hp hg) hd hR
theorem aS {w8 w':World} {B B' k8:Nat} {A8:Option Addr} {kd nn:Int} {l:List Int} {L:List Nat} (V8:DR w8 B (.slice A8 l.length k8) l) (Y:Only L w8 w') (hL: ∀x∈L,x<B) (hB:B'<=B):FD.mine w' ⟨kd,nn,A8,k8,l,none,0,[]⟩ B':=by
 obtain⟨A,k,e,R8,q8,m8,a8⟩:=V8.rd;injection e with e1 _ e3;subst e1;subst e3;have S8:=DR.soft V8;refine⟨⟨RdG.onlyL (mk:=.int .u8) R8 Y (fun a ha _ hm=>by have h1:=a8 a ha;have h2:=hL _ hm;omega),RdG.nil,q8,m8,by simp,by simp,by simp⟩,⟨fun a ha=>by have:=a8 a ha;omega,fun a ha=>by simp at ha⟩,fun a ha i hi=>?_⟩;have hlt:=RdG.lt (mk:=.int .u8) R8 (show 0<l.length by have:i<l.length:=hi;omega) a ha;refine(World.frozen?_of_block (w:=w8) ?_).trans (S8 a ha i hi);rw[IA];exact Y.block _ hlt (fun hm=>by have h1:=a8 a ha;have h2:=hL _ hm;omega)
theorem mine_list {w8 w':World} {B B' k8:Nat} {A8:Option Addr} {kd nn:Int} {ls:List ByteArray} {L:List Nat} (V8:HY w8 B (.slice A8 ls.length k8) ls) (Y:Only L w8 w') (hL: ∀x∈L,x<B) (hB:B'<=B) (hs: ∀s∈ls,s.size<=maxLen):FD.mine w' ⟨kd,nn,none,0,[],A8,k8,ls⟩ B':=by
 obtain⟨A,k,e,R8,q8,m8,a8⟩:=V8.rd;injection e with e1 _ e3;subst e1;subst e3;exact⟨⟨RdG.nil,RdG.onlyL (mk:=.string) R8 Y (fun a ha _ hm=>by have h1:=a8 a ha;have h2:=hL _ hm;omega),by simp,by simp,q8,m8,hs⟩,⟨fun a ha=>by simp at ha,fun a ha=>by have:=a8 a ha;omega⟩,fun a ha=>by simp at ha⟩
def KE (w:World) (k:Int) (l:List Int) (r:R):Ending->World->Prop:=fun E w'=>
 Only [] w w'/\∃(f:FD) (nn:Nat),E = .returned (.tuple #[f.val,.int .i64 nn,.int .i64 r.e])/\(r.e=0->f.pf=⟨k,r.n,r.text,r.list⟩/\nn<=l.length/\l.drop nn=r.rest/\FD.mine w' f w.heap.size)
theorem lC (k:Int) (hk:k=1\/k=2) (A:Option Addr) (l:List Int) (c:Nat) (w:World) (h:Rd w A l) (hl: ∀x∈l,0<=x/\x<256) (hlen:l.length<=140737488355000) :
  Calls Tryz.prog 118 #[.int .i64 k,.slice A l.length c] w (KE w k l (BC k.toNat l)):=by
 cases l with
 |nil=>
  rcases hk with rfl|rfl
  ·go_enter Tryz.func118,Tryz.ntmps118
   go_wp2_with fail
   (try simp only[Exit.inBlock,Exit.then])
   refine DJ (g:=w.heap.size) (v0:=.int .i64 1) (v1:=.int .u32 0) (v2:=.slice none 0 0) (v3:=.slice none 0 0) rfl (by rfl) (by rfl) (by exact(Blk.new w 153 [.int .i64 1,.int .u32 0,.slice none 0 0,.slice none 0 0]).alloc _) ?_;exact⟨((zR _ _).alloc _).alloc _,⟨1,0,none,0,[],none,0,[]⟩,0,rfl,fun h=>by cases h⟩
  ·go_enter Tryz.func118,Tryz.ntmps118
   go_wp2_with fail
   (try simp only[Exit.inBlock,Exit.then])
   refine DJ (g:=w.heap.size) (v0:=.int .i64 2) (v1:=.int .u32 0) (v2:=.slice none 0 0) (v3:=.slice none 0 0) rfl (by rfl) (by rfl) (by exact(Blk.new w 153 [.int .i64 2,.int .u32 0,.slice none 0 0,.slice none 0 0]).alloc _) ?_;exact⟨((zR _ _).alloc _).alloc _,⟨2,0,none,0,[],none,0,[]⟩,0,rfl,fun h=>by cases h⟩
 |cons x t=>
  obtain⟨b,off,y,rfl,hb,hy,cx⟩:=RdG.at (mk:=.int .u8) h 0 (by simp);simp at hy;subst hy;rw[Nat.add_zero] at cx;have hx:=hl x (by simp);obtain⟨n,hn⟩:=qX ((x::t).length);have hn1:1<=n:=by rw[<-hn];simp
  rw[hn] at hlen⊢;have i1: ¬(n:Int)<1:=by omega
  have i2:(0:Int)<(n:Int):=by omega
  replace hn:=AB hn;rcases hk with rfl|rfl
  ·go_enter Tryz.func118,Tryz.ntmps118
   go_wp2_with fail
   (try simp only[Exit.inBlock,Exit.then])
   refine DJ (g:=w.heap.size) (v0:=.int .i64 1) (v1:=.int .u32 x) (v2:=.slice none 0 0) (v3:=.slice none 0 0) rfl (by rfl) (by rfl) (by exact(Blk.new w 153 [.int .i64 1,.int .u32 x,.slice none 0 0,.slice none 0 0]).alloc _) ?_;exact⟨((zR _ _).alloc _).alloc _,⟨1,x,none,0,[],none,0,[]⟩,1,rfl,fun _=>⟨rfl,by have:=hn.out;omega,rfl,FD.mine.plain _ _ _ _⟩⟩
  ·go_enter Tryz.func118,Tryz.ntmps118
   go_wp2_with fail
   (try simp only[Exit.inBlock,Exit.then])
   refine DJ (g:=w.heap.size) (v0:=.int .i64 2) (v1:=.int .u32 (min x 1)) (v2:=.slice none 0 0) (v3:=.slice none 0 0) rfl (by rfl) (by rfl) (by exact(Blk.new w 153 [.int .i64 2,.int .u32 (min x 1),.slice none 0 0,.slice none 0 0]).alloc _) ?_;exact⟨((zR _ _).alloc _).alloc _,⟨2,min x 1,none,0,[],none,0,[]⟩,1,rfl,fun _=>⟨rfl,by have:=hn.out;omega,rfl,FD.mine.plain _ _ _ _⟩⟩
theorem take_rest (A:Option Addr) (l:List Int) (c:Nat) (w:World) (h:Rd w A l) (hlen:l.length<=140737488355000) :
  Calls Tryz.prog 118 #[.int .i64 6,.slice A l.length c] w (KE w 6 l (BC 6 l)):=by
 have e6:BC 6 l=⟨GQ l.length 33792 6,0,l,[],[]⟩:=rfl;rw[e6];by_cases hbig:33792<l.length
 ·rw[XQ (show(33792:Int)<(l.length:Int) by omega)];obtain⟨n,hn⟩:=qX l.length;rw[hn] at hbig⊢;have i1:(33792:Int)<(n:Int):=by omega
  go_enter Tryz.func118,Tryz.ntmps118
  go_wp2_with fail
  (try simp only[Exit.inBlock,Exit.then])
  refine DJ (g:=w.heap.size) (v0:=.int .i64 6) (v1:=.int .u32 0) (v2:=.slice none 0 0) (v3:=.slice none 0 0) rfl (by rfl) (by rfl) (by exact(Blk.new w 153 [.int .i64 6,.int .u32 0,.slice none 0 0,.slice none 0 0]).alloc _) ?_;exact⟨((zR _ _).alloc _).alloc _,⟨6,0,none,0,[],none,0,[]⟩,0,rfl,fun h=>by cases h⟩
 ·rw[RY (show¬(33792:Int)<(l.length:Int) by omega)];have i1: ¬(33792:Int)<(l.length:Int):=by omega
  have X2:Only [] w ((w.alloc (.cells #[.int .i64 0,.int .u32 0,.slice none 0 0,.slice none 0 0] 153)).alloc (.cells #[.int .i64 6,.int .u32 0,.slice none 0 0,.slice none 0 0] 153)):=((zR _ _).alloc _).alloc _;have hs2:((w.alloc (.cells #[.int .i64 0,.int .u32 0,.slice none 0 0,.slice none 0 0] 153)).alloc (.cells #[.int .i64 6,.int .u32 0,.slice none 0 0,.slice none 0 0] 153)).heap.size=w.heap.size+2:=by simp
  have K0:=((Blk.new w 153 [.int .i64 0,.int .u32 0,.slice none 0 0,.slice none 0 0]).alloc (.cells #[.int .i64 6,.int .u32 0,.slice none 0 0,.slice none 0 0] 153));have K1:=Blk.new (w.alloc (.cells #[.int .i64 0,.int .u32 0,.slice none 0 0,.slice none 0 0] 153)) 153 [.int .i64 6,.int .u32 0,.slice none 0 0,.slice none 0 0];rw[show(w.alloc (.cells #[.int .i64 0,.int .u32 0,.slice none 0 0,.slice none 0 0] 153)).heap.size=w.heap.size+1 by simp] at K1;obtain⟨wb,hwb⟩:=qY ((w.alloc (.cells #[.int .i64 0,.int .u32 0,.slice none 0 0,.slice none 0 0] 153)).alloc (.cells #[.int .i64 6,.int .u32 0,.slice none 0 0,.slice none 0 0] 153));have V6:DR (wb.alloc (.cells #[] 5)) (w.heap.size+2) (.slice (some ⟨w.heap.size+2,0,none⟩) 0 0) []:=by
   have:=XR wb (w.heap.size+2) [] (by rw[hwb,hs2];exact qL _) (by simp);rw[show wb.heap.size=w.heap.size+2 by rw[hwb,hs2]] at this;exact this
  have K0':Blk (wb.alloc (.cells #[] 5)) w.heap.size 153 [.int .i64 0,.int .u32 0,.slice none 0 0,.slice none 0 0]:=by rw[hwb];exact Blk.alloc K0 _
  have K1':Blk (wb.alloc (.cells #[] 5)) (w.heap.size+1) 153 [.int .i64 6,.int .u32 0,.slice none 0 0,.slice none 0 0]:=by rw[hwb];exact Blk.alloc K1 _
  have X3:Only [] w (wb.alloc (.cells #[] 5)):=by rw[hwb];exact X2.alloc _
  have R6:Rd (wb.alloc (.cells #[] 5)) A l:=h.only X3;rw[hwb] at V6 K0' K1' X3 R6;clear hwb K0 K1 X2 hs2;go_enter Tryz.func118,Tryz.ntmps118
  go_wp2_with (at_builtin;go_must (refine OQ rfl (.tmp 39) (.tmp 40) rfl (w.heap.size+2) (.slice (some ⟨w.heap.size+2,0,none⟩) 0 0) [] rfl V6 A c l _ rfl rfl R6 (by simp;omega) (by simp) ?_;intro v8 w8 V8 P8 G8;replace V8:=V8.out;rw[List.nil_append] at V8;obtain⟨A8,k8,rfl,R8,q8,m8,a8⟩:=V8.rd;have K0:=K0'.only P8 (by simp[Value.ownBlock]);have K1:=K1'.only P8 (by simp[Value.ownBlock]);obtain⟨g0,f0,g1,f1,g2,f2,g3,f3⟩:=qF K0 0;have d0:w8.cell? ⟨w.heap.size+1,0,none⟩=some (.int .i64 6):=K1.cell 0;have d1:w8.cell? ⟨w.heap.size+1,1,none⟩=some (.int .u32 0):=K1.cell 1;have d2:w8.cell? ⟨w.heap.size+1,2,none⟩=some (.slice none 0 0):=K1.cell 2;have d3:w8.cell? ⟨w.heap.size+1,3,none⟩=some (.slice none 0 0):=K1.cell 3;have e2:=K1.frozen 2))
  (try simp only[Exit.inBlock,Exit.then])
  have Y1:Only [w.heap.size+1] w8 (w8.setCell ⟨w.heap.size+1,2,none⟩ (.slice A8 l.length k8)):=(zR _ _).setCell (p:=⟨w.heap.size+1,2,none⟩) (.inl (by simp)) _;have Y4:=W4.only (w8.setCell ⟨w.heap.size+1,2,none⟩ (.slice A8 l.length k8)) w.heap.size (.int .i64 6) (.int .u32 0) (.slice A8 l.length k8) (.slice none 0 0);have B4:=W4.blk (K0.only Y1 (by simp)) (.int .i64 6) (.int .u32 0) (.slice A8 l.length k8) (.slice none 0 0);have Y:Only [w.heap.size,w.heap.size+1] w8 (W4 (w8.setCell ⟨w.heap.size+1,2,none⟩ (.slice A8 l.length k8)) w.heap.size (.int .i64 6) (.int .u32 0) (.slice A8 l.length k8) (.slice none 0 0)):=(Y1.mono (by simp)).trans Y4 (fun x hx=>.inl (by simp at hx;simp[hx]));refine DJ (g:=w.heap.size) (v0:=.int .i64 6) (v1:=.int .u32 0) (v2:=.slice A8 l.length k8) (v3:=.slice none 0 0) rfl (by rfl) (by rfl) B4 ?_;exact⟨(X3.trans P8 (fun x hx=>.inr (by simp[Value.ownBlock] at hx;omega))).trans Y (fun x hx=>.inr (by simp at hx;omega)),⟨6,0,A8,k8,l,none,0,[]⟩,l.length,rfl,fun _=>⟨rfl,qL _,by simp,aS V8 Y (fun x hx=>by simp at hx;omega) (by omega)⟩⟩
theorem ZN (k:Int) (hk:k=3\/k=4\/k=5) (A:Option Addr) (l:List Int) (c:Nat) (w:World) (h4:l.length<4) :
  Calls Tryz.prog 118 #[.int .i64 k,.slice A l.length c] w (KE w k l (BC k.toNat l)):=by
 have e3:(BC k.toNat l).e=3:=by
  rcases hk with rfl|rfl|rfl;·show(CR l).e=3;unfold CR;rw[if_pos h4];rfl
  ·show(CE l).e=3;unfold CE;rw[if_pos h4];rfl
  ·show(EC l).e=3;have:CE l=DN l:=by unfold CE;rw[if_pos h4]
   unfold EC;rw[this];rfl
 obtain⟨r,hr⟩:=qX (BC k.toNat l);rw[hr] at e3⊢;obtain⟨n,hn⟩:=qX l.length;rw[hn] at h4⊢;have i1:(n:Int)<4:=by omega
 replace hr:=AB hr;replace e3:=AB e3;rcases hk with rfl|rfl|rfl
 ·go_enter Tryz.func118,Tryz.ntmps118
  go_wp2_with fail
  (try simp only[Exit.inBlock,Exit.then])
  refine DJ (g:=w.heap.size) (v0:=.int .i64 3) (v1:=.int .u32 0) (v2:=.slice none 0 0) (v3:=.slice none 0 0) rfl (by rfl) (by rfl) (by exact(Blk.new w 153 [.int .i64 3,.int .u32 0,.slice none 0 0,.slice none 0 0]).alloc _) ?_;exact⟨((zR _ _).alloc _).alloc _,⟨3,0,none,0,[],none,0,[]⟩,0,by rw[e3.out];rfl,fun h=>by rw[e3.out] at h;cases h⟩
 ·go_enter Tryz.func118,Tryz.ntmps118
  go_wp2_with fail
  (try simp only[Exit.inBlock,Exit.then])
  refine DJ (g:=w.heap.size) (v0:=.int .i64 4) (v1:=.int .u32 0) (v2:=.slice none 0 0) (v3:=.slice none 0 0) rfl (by rfl) (by rfl) (by exact(Blk.new w 153 [.int .i64 4,.int .u32 0,.slice none 0 0,.slice none 0 0]).alloc _) ?_;exact⟨((zR _ _).alloc _).alloc _,⟨4,0,none,0,[],none,0,[]⟩,0,by rw[e3.out];rfl,fun h=>by rw[e3.out] at h;cases h⟩
 ·go_enter Tryz.func118,Tryz.ntmps118
  go_wp2_with fail
  (try simp only[Exit.inBlock,Exit.then])
  refine DJ (g:=w.heap.size) (v0:=.int .i64 5) (v1:=.int .u32 0) (v2:=.slice none 0 0) (v3:=.slice none 0 0) rfl (by rfl) (by rfl) (by exact(Blk.new w 153 [.int .i64 5,.int .u32 0,.slice none 0 0,.slice none 0 0]).alloc _) ?_;exact⟨((zR _ _).alloc _).alloc _,⟨5,0,none,0,[],none,0,[]⟩,0,by rw[e3.out];rfl,fun h=>by rw[e3.out] at h;cases h⟩
end Go.Proofs.YtfbhemmpobgdpaaGreatDoor
namespace Go.Proofs.YtfbhemmpobgdpaaGreatDoor
open Go.RowKit
theorem aZ {w:World} {A:Option Addr} {l:List Int} (c L:Nat) (h:Rd w A l) (hT:4+L<=l.length) (hc:l.length<=c) :
  ∃A9 c9,((c=4/\A9=A/\c9=0)\/(¬c=4/\A9=(A.map fun x=>x.add 4)/\c9=c-4))/\Rd w A9 ((l.drop 4).take L):=by
 by_cases hck:c=4
 ·refine⟨A,0,.inl ⟨hck,rfl,rfl⟩,?_⟩;obtain rfl:L=0:=by omega
  rw[List.take_zero];exact RdG.nil (mk:=.int .u8)
 ·exact⟨_,_,.inr ⟨hck,rfl,rfl⟩,RdG.take (mk:=.int .u8) (RdG.drop (mk:=.int .u8) h 4) L⟩
theorem map_four (A:Option Addr):(A.map fun x=>x.add 4)=A.map fun x=>{ block:=x.block,off:=x.off+4 }:=by
 congr 1
theorem gM (l:List Int) (h4:4<=l.length) (h1:be4 l<=32768) (h2:4+(be4 l).toNat<=l.length):CE l=⟨0,0,(l.drop 4).take (be4 l).toNat,[],l.drop (4+(be4 l).toNat)⟩:=by
 unfold CE;rw[if_neg (by omega)];unfold GJ;rw[if_neg (by omega),if_neg (by rw[List.length_drop];omega),List.drop_drop]
theorem bH (l:List Int) (h4:4<=l.length) (h1:32768<be4 l):(CE l).e=6:=by
 unfold CE;rw[if_neg (by omega)];unfold GJ;rw[if_pos (by omega)]
theorem UZ (l:List Int) (h4:4<=l.length) (h1:be4 l<=32768) (h2:l.length<4+(be4 l).toNat):(CE l).e=3:=by
 unfold CE;rw[if_neg (by omega)];unfold GJ;rw[if_neg (by omega),if_pos (by rw[List.length_drop];omega)]
theorem XW (l:List Int) (E:Int) (h:(CE l).e=E) (hE:E≠0):(EC l).e=E:=by
 unfold EC GE;rw[if_pos (by rw[h];exact hE),h]
theorem iG (A:Option Addr) (l:List Int) (c:Nat) (w:World) (h:Rd w A l) (hl: ∀x∈l,0<=x/\x<256) (h4:4<=l.length) :
  Calls Tryz.prog 118 #[.int .i64 3,.slice A l.length c] w (KE w 3 l (BC 3 l)):=by
 obtain⟨w1,hw1⟩:=qY ((w.alloc (.cells #[.int .i64 0,.int .u32 0,.slice none 0 0,.slice none 0 0] 153)).alloc (.cells #[.int .i64 3,.int .u32 0,.slice none 0 0,.slice none 0 0] 153));have X1:Only [] w w1:=by rw[hw1];exact((zR _ _).alloc _).alloc _
 have hs1:w1.heap.size=w.heap.size+2:=by rw[hw1];simp
 have KA:Blk w1 w.heap.size 153 [.int .i64 0,.int .u32 0,.slice none 0 0,.slice none 0 0]:=by
  rw[hw1];exact(Blk.new w 153 [.int .i64 0,.int .u32 0,.slice none 0 0,.slice none 0 0]).alloc _
 have KB:Blk w1 (w.heap.size+1) 153 [.int .i64 3,.int .u32 0,.slice none 0 0,.slice none 0 0]:=by
  have:=Blk.new (w.alloc (.cells #[.int .i64 0,.int .u32 0,.slice none 0 0,.slice none 0 0] 153)) 153 [.int .i64 3,.int .u32 0,.slice none 0 0,.slice none 0 0];rw[show(w.alloc (.cells #[.int .i64 0,.int .u32 0,.slice none 0 0,.slice none 0 0] 153)).heap.size=w.heap.size+1 by simp] at this;rw[hw1];exact this
 have NB:=IS A l c w1 (h.only X1) h4 hl;have hbe:=PY l hl;obtain⟨ln,hln⟩:=qX l.length;have i1: ¬(ln:Int)<4:=by omega
 rw[show BC 3 l=⟨0,be4 l,[],[],l.drop 4⟩ by show CR l=_;unfold CR;rw[if_neg (by omega)]];obtain⟨N,hN⟩:=qX (be4 l);rw[hN] at NB hbe⊢;rw[hln] at NB⊢;go_enter Tryz.func118,Tryz.ntmps118
 go_wp2_with fail
 rw[<-hw1];replace hw1:=AB hw1;go_call NB as e w2 ⟨rfl,P2⟩
 have K0:=KA.only P2 (by simp);have K1:=KB.only P2 (by simp);have z2:=P2.size;obtain⟨g0,f0,g1,f1,g2,f2,g3,f3⟩:=qF K0 0;obtain⟨d0,e0,d1,e1,d2,e2,d3,e3⟩:=qF K1 3;go_wp2_with fail
 (try simp only[Exit.inBlock,Exit.then])
 have Y1:Only [w.heap.size+1] w2 (w2.setCell ⟨w.heap.size+1,1,none⟩ (.int .u32 N)):=(zR _ _).setCell (p:=⟨w.heap.size+1,1,none⟩) (.inl (by simp)) _;have B4:=W4.blk (K0.only Y1 (by simp)) (.int .i64 3) (.int .u32 N) (.slice none 0 0) (.slice none 0 0);have Y4:=W4.only (w2.setCell ⟨w.heap.size+1,1,none⟩ (.int .u32 N)) w.heap.size (.int .i64 3) (.int .u32 N) (.slice none 0 0) (.slice none 0 0);refine DJ (g:=w.heap.size) (v0:=.int .i64 3) (v1:=.int .u32 N) (v2:=.slice none 0 0) (v3:=.slice none 0 0) rfl (by rfl) (by rfl) B4 ?_;exact⟨((X1.trans P2 (by simp)).trans Y1 (fun x hx=>.inr (by simp at hx;omega))).trans Y4 (fun x hx=>.inr (by simp at hx;omega)),⟨3,N,none,0,[],none,0,[]⟩,4,rfl,fun _=>⟨rfl,by omega,rfl,FD.mine.plain _ _ _ _⟩⟩
end Go.Proofs.YtfbhemmpobgdpaaGreatDoor
namespace Go.Proofs.YtfbhemmpobgdpaaGreatDoor
open Go.RowKit
theorem dU (A:Option Addr) (l:List Int) (c:Nat) (w:World) (h:Rd w A l) (hl: ∀x∈l,0<=x/\x<256) (h4:4<=l.length) (hlc:l.length<=c) (hlm:c<=maxLen) :
  Calls Tryz.prog 118 #[.int .i64 4,.slice A l.length c] w (KE w 4 l (BC 4 l)):=by
 unfold maxLen at hlm;obtain⟨w1,hw1⟩:=qY ((w.alloc (.cells #[.int .i64 0,.int .u32 0,.slice none 0 0,.slice none 0 0] 153)).alloc (.cells #[.int .i64 4,.int .u32 0,.slice none 0 0,.slice none 0 0] 153));have X1:Only [] w w1:=by rw[hw1];exact((zR _ _).alloc _).alloc _
 have hs1:w1.heap.size=w.heap.size+2:=by rw[hw1];simp
 have KA:Blk w1 w.heap.size 153 [.int .i64 0,.int .u32 0,.slice none 0 0,.slice none 0 0]:=by
  rw[hw1];exact(Blk.new w 153 [.int .i64 0,.int .u32 0,.slice none 0 0,.slice none 0 0]).alloc _
 have KB:Blk w1 (w.heap.size+1) 153 [.int .i64 4,.int .u32 0,.slice none 0 0,.slice none 0 0]:=by
  have:=Blk.new (w.alloc (.cells #[.int .i64 0,.int .u32 0,.slice none 0 0,.slice none 0 0] 153)) 153 [.int .i64 4,.int .u32 0,.slice none 0 0,.slice none 0 0];rw[show(w.alloc (.cells #[.int .i64 0,.int .u32 0,.slice none 0 0,.slice none 0 0] 153)).heap.size=w.heap.size+1 by simp] at this;rw[hw1];exact this
 have NB:=IS A l c w1 (h.only X1) h4 hl;have hbe:=PY l hl;obtain⟨ln,hln⟩:=qX l.length;have i1: ¬(ln:Int)<4:=by omega
 rw[show BC 4 l=CE l from rfl];have t6:=bH l h4;have t3:=UZ l h4;have t0:=gM l h4;obtain⟨N,hN⟩:=Int.eq_ofNat_of_zero_le hbe.1;rw[hN,Int.toNat_natCast] at t3 t0;rw[hN] at NB hbe t6;have hbe2:=hbe.2;rw[hln] at NB t3 t0 hlc;obtain⟨r,hr⟩:=qX (CE l);rw[hr,hln];replace hN:=AB hN;by_cases h6:(32768:Int)<(N:Int)
 ·have hre:r.e=6:=by rw[<-hr];exact t6 h6
  replace hre:=AB hre;replace hr:=AB hr;replace hln:=AB hln;clear t6 t3 t0;go_enter Tryz.func118,Tryz.ntmps118
  go_wp2_with fail
  rw[<-hw1];replace hw1:=AB hw1;go_call NB as e w2 ⟨rfl,P2⟩
  have K0:=KA.only P2 (by simp);have K1:=KB.only P2 (by simp);obtain⟨g0,f0,g1,f1,g2,f2,g3,f3⟩:=qF K0 0;obtain⟨d0,e0,d1,e1,d2,e2,d3,e3⟩:=qF K1 4;go_wp2_with fail
  (try simp only[Exit.inBlock,Exit.then])
  refine DJ (g:=w.heap.size) (v0:=.int .i64 4) (v1:=.int .u32 0) (v2:=.slice none 0 0) (v3:=.slice none 0 0) rfl (by rfl) (by rfl) (W4.blk K0 _ _ _ _) ?_;exact⟨(X1.trans P2 (by simp)).trans (W4.only _ _ _ _ _ _) (fun x hx=>.inr (by simp at hx;omega)),⟨4,0,none,0,[],none,0,[]⟩,0,by rw[hre.out];rfl,fun h=>by rw[hre.out] at h;cases h⟩
 have h6':(N:Int)<=32768:=by omega
 by_cases h3:ln<4+N
 ·have hre:r.e=3:=by rw[<-hr];exact t3 h6' h3
  have i2:(ln:Int)-4<(N:Int):=by omega
  replace hre:=AB hre;replace hr:=AB hr;replace hln:=AB hln;replace h3:=AB h3;replace h6':=AB h6';clear t6 t3 t0 hbe hbe2;go_enter Tryz.func118,Tryz.ntmps118
  go_wp2_with fail
  rw[<-hw1];replace hw1:=AB hw1;go_call NB as e w2 ⟨rfl,P2⟩
  have K0:=KA.only P2 (by simp);have K1:=KB.only P2 (by simp);obtain⟨g0,f0,g1,f1,g2,f2,g3,f3⟩:=qF K0 0;obtain⟨d0,e0,d1,e1,d2,e2,d3,e3⟩:=qF K1 4;go_wp2_with fail
  (try simp only[Exit.inBlock,Exit.then])
  refine DJ (g:=w.heap.size) (v0:=.int .i64 4) (v1:=.int .u32 0) (v2:=.slice none 0 0) (v3:=.slice none 0 0) rfl (by rfl) (by rfl) (W4.blk K0 _ _ _ _) ?_;exact⟨(X1.trans P2 (by simp)).trans (W4.only _ _ _ _ _ _) (fun x hx=>.inr (by simp at hx;omega)),⟨4,0,none,0,[],none,0,[]⟩,0,by rw[hre.out];rfl,fun h=>by rw[hre.out] at h;cases h⟩
 have i2: ¬(ln:Int)-4<(N:Int):=by omega
 have hT:=t0 h6' (by omega);obtain⟨tx,htx⟩:=qX ((l.drop 4).take N);have htn:tx.length=N:=by rw[<-htx,List.length_take,List.length_drop,hln];omega
 rw[htx] at hT;have hwr:IntKind.u32.wrap (4+(N:Int))=4+(N:Int):=by rw[IntKind.wrap_u32];omega
 have hmod:(4+(N:Int)) % 4294967296=4+(N:Int):=by omega
 have j0:(4:Int)<=4+(N:Int):=by omega
 have j1:4+(N:Int)<=(c:Int):=by omega
 have RDX:=fun(w':World) (P:Only [] w w')=>aZ (w:=w') (A:=A) (l:=l) c N (h.only P) (by rw[hln];omega) (by rw[hln];exact hlc);replace RDX:=AB RDX;have hlB: ∀x∈tx,0<=x/\x<256:=fun x hx=>hl x (by rw[<-htx] at hx;exact List.mem_of_mem_drop (List.mem_of_mem_take hx));replace hlB:=AB hlB;replace htx:=AB htx;replace htn:=AB htn;replace hT:=AB hT;replace hr:=AB hr;have hln2:4+N<=ln:=by omega
 replace hln2:=AB hln2;have hN5:N<=32768:=by omega
 replace hN5:=AB hN5;replace hln:=AB hln;clear t6 t3 t0 h3 h6' hbe hbe2;go_enter Tryz.func118,Tryz.ntmps118
 go_wp2_with fail
 rw[<-hw1];replace hw1:=AB hw1;go_call NB as e w2 ⟨rfl,P2⟩
 have K0:=KA.only P2 (by simp);have K1:=KB.only P2 (by simp);have z2:=P2.size;have X2:=X1.trans P2 (by simp);obtain⟨A9,c9,hc9,R9⟩:=RDX.out w2 X2;rw[htx.out] at R9;have V6:DR (w2.alloc (.cells #[] 5)) w2.heap.size (.slice (some ⟨w2.heap.size,0,none⟩) 0 0) []:=XR w2 w2.heap.size [] (qL _) (by simp);have R6:Rd (w2.alloc (.cells #[] 5)) A9 tx:=R9.only ((zR _ _).alloc _);rcases hc9 with⟨hc9,rfl,rfl⟩|⟨hc9,rfl,rfl⟩;all_goals (
  go_wp2_with (at_builtin;go_must (refine OQ rfl (.tmp 73) (.tmp 74) rfl w2.heap.size (.slice (some ⟨w2.heap.size,0,none⟩) 0 0) [] rfl V6 _ _ tx (4+N-4) (by rw[htn.out];omega) rfl R6 (by have:=htn.out;have:=hN5.out;simp;omega) (by simp) ?_;intro v8 w8 V8 P8 G8;replace V8:=V8.out;rw[List.nil_append] at V8;obtain⟨A8,k8,rfl,R8,q8,m8,a8⟩:=V8.rd;rw[htn.out];have KK0:=(K0.alloc (.cells #[] 5)).only P8 (by simp[Value.ownBlock];omega);have KK1:=(K1.alloc (.cells #[] 5)).only P8 (by simp[Value.ownBlock];omega);obtain⟨g0,f0,g1,f1,g2,f2,g3,f3⟩:=qF KK0 0;have d0:w8.cell? ⟨w.heap.size+1,0,none⟩=some (.int .i64 4):=KK1.cell 0;have e0:=KK1.frozen 0;have d1:w8.cell? ⟨w.heap.size+1,1,none⟩=some (.int .u32 0):=KK1.cell 1;have e1:=KK1.frozen 1;have d2:w8.cell? ⟨w.heap.size+1,2,none⟩=some (.slice none 0 0):=KK1.cell 2;have e2:=KK1.frozen 2;have d3:w8.cell? ⟨w.heap.size+1,3,none⟩=some (.slice none 0 0):=KK1.cell 3;have e3:=KK1.frozen 3))
  (try simp only[Exit.inBlock,Exit.then])
  have Y1:Only [w.heap.size+1] w8 (w8.setCell ⟨w.heap.size+1,2,none⟩ (.slice A8 N k8)):=(zR _ _).setCell (p:=⟨w.heap.size+1,2,none⟩) (.inl (by simp)) _;have Y4:=W4.only (w8.setCell ⟨w.heap.size+1,2,none⟩ (.slice A8 N k8)) w.heap.size (.int .i64 4) (.int .u32 0) (.slice A8 N k8) (.slice none 0 0);have B4:=W4.blk (KK0.only Y1 (by simp)) (.int .i64 4) (.int .u32 0) (.slice A8 N k8) (.slice none 0 0);have Y:Only [w.heap.size,w.heap.size+1] w8 (W4 (w8.setCell ⟨w.heap.size+1,2,none⟩ (.slice A8 N k8)) w.heap.size (.int .i64 4) (.int .u32 0) (.slice A8 N k8) (.slice none 0 0)):=(Y1.mono (by simp)).trans Y4 (fun x hx=>.inl (by simp at hx;simp[hx]));refine DJ (g:=w.heap.size) (v0:=.int .i64 4) (v1:=.int .u32 0) (v2:=.slice A8 N k8) (v3:=.slice none 0 0) rfl (by rfl) (by rfl) B4 ?_;have hrr:r=⟨0,0,tx,[],l.drop (4+N)⟩:=by rw[<-hr.out];exact hT.out
  refine⟨((X2.alloc _).trans P8 (fun x hx=>.inr (by simp[Value.ownBlock] at hx;omega))).trans Y (fun x hx=>.inr (by simp at hx;omega)),⟨4,0,A8,k8,tx,none,0,[]⟩,4+N,?_,fun _=>?_⟩
  ·show Ending.returned (.tuple #[.agg #[.int .i64 4,.int .u32 0,.slice A8 N k8,.slice none 0 0],.int .i64 (4+(N:Int)),.int .i64 0])=Ending.returned (.tuple #[.agg #[.int .i64 4,.int .u32 0,.slice A8 tx.length k8,.slice none 0 0],.int .i64 ((4+N:Nat):Int),.int .i64 r.e]);rw[hrr,htn.out,Int.natCast_add];rfl
  ·rw[hrr];exact⟨rfl,by have:=hln.out;have:=hln2.out;omega,rfl,aS V8 Y (fun x hx=>by simp at hx;omega) (by omega)⟩)
end Go.Proofs.YtfbhemmpobgdpaaGreatDoor
namespace Go.Proofs.YtfbhemmpobgdpaaGreatDoor
open Go.RowKit
theorem ZM (A:Option Addr) (l:List Int) (c:Nat) (w:World) (h:Rd w A l) (hl: ∀x∈l,0<=x/\x<256) (h4:4<=l.length) (hlc:l.length<=c) (hlm:c<=maxLen) :
  Calls Tryz.prog 118 #[.int .i64 5,.slice A l.length c] w (KE w 5 l (BC 5 l)):=by
 unfold maxLen at hlm;obtain⟨w1,hw1⟩:=qY ((w.alloc (.cells #[.int .i64 0,.int .u32 0,.slice none 0 0,.slice none 0 0] 153)).alloc (.cells #[.int .i64 5,.int .u32 0,.slice none 0 0,.slice none 0 0] 153));have X1:Only [] w w1:=by rw[hw1];exact((zR _ _).alloc _).alloc _
 have hs1:w1.heap.size=w.heap.size+2:=by rw[hw1];simp
 have KA:Blk w1 w.heap.size 153 [.int .i64 0,.int .u32 0,.slice none 0 0,.slice none 0 0]:=by
  rw[hw1];exact(Blk.new w 153 [.int .i64 0,.int .u32 0,.slice none 0 0,.slice none 0 0]).alloc _
 have KB:Blk w1 (w.heap.size+1) 153 [.int .i64 5,.int .u32 0,.slice none 0 0,.slice none 0 0]:=by
  have:=Blk.new (w.alloc (.cells #[.int .i64 0,.int .u32 0,.slice none 0 0,.slice none 0 0] 153)) 153 [.int .i64 5,.int .u32 0,.slice none 0 0,.slice none 0 0];rw[show(w.alloc (.cells #[.int .i64 0,.int .u32 0,.slice none 0 0,.slice none 0 0] 153)).heap.size=w.heap.size+1 by simp] at this;rw[hw1];exact this
 have NB:=IS A l c w1 (h.only X1) h4 hl;have hbe:=PY l hl;obtain⟨ln,hln⟩:=qX l.length;have i1: ¬(ln:Int)<4:=by omega
 rw[show BC 5 l=EC l from rfl];have t6:=bH l h4;have t3:=UZ l h4;have t0:=gM l h4;obtain⟨N,hN⟩:=Int.eq_ofNat_of_zero_le hbe.1;rw[hN,Int.toNat_natCast] at t3 t0;rw[hN] at NB hbe t6;have hbe2:=hbe.2;rw[hln] at NB t3 t0 hlc;obtain⟨r,hr⟩:=qX (EC l);rw[hr,hln];replace hN:=AB hN;by_cases h6:(32768:Int)<(N:Int)
 ·have hre:r.e=6:=by rw[<-hr];exact XW l 6 (t6 h6) (by decide)
  replace hre:=AB hre;replace hr:=AB hr;replace hln:=AB hln;clear t6 t3 t0;go_enter Tryz.func118,Tryz.ntmps118
  go_wp2_with fail
  rw[<-hw1];replace hw1:=AB hw1;go_call NB as e w2 ⟨rfl,P2⟩
  have K0:=KA.only P2 (by simp);have K1:=KB.only P2 (by simp);obtain⟨g0,f0,g1,f1,g2,f2,g3,f3⟩:=qF K0 0;obtain⟨d0,e0,d1,e1,d2,e2,d3,e3⟩:=qF K1 5;go_wp2_with fail
  (try simp only[Exit.inBlock,Exit.then])
  refine DJ (g:=w.heap.size) (v0:=.int .i64 5) (v1:=.int .u32 0) (v2:=.slice none 0 0) (v3:=.slice none 0 0) rfl (by rfl) (by rfl) (W4.blk K0 _ _ _ _) ?_;exact⟨(X1.trans P2 (by simp)).trans (W4.only _ _ _ _ _ _) (fun x hx=>.inr (by simp at hx;omega)),⟨5,0,none,0,[],none,0,[]⟩,0,by rw[hre.out];rfl,fun h=>by rw[hre.out] at h;cases h⟩
 have h6':(N:Int)<=32768:=by omega
 by_cases h3:ln<4+N
 ·have hre:r.e=3:=by rw[<-hr];exact XW l 3 (t3 h6' h3) (by decide)
  have i2:(ln:Int)-4<(N:Int):=by omega
  replace hre:=AB hre;replace hr:=AB hr;replace hln:=AB hln;replace h3:=AB h3;replace h6':=AB h6';clear t6 t3 t0 hbe hbe2;go_enter Tryz.func118,Tryz.ntmps118
  go_wp2_with fail
  rw[<-hw1];replace hw1:=AB hw1;go_call NB as e w2 ⟨rfl,P2⟩
  have K0:=KA.only P2 (by simp);have K1:=KB.only P2 (by simp);obtain⟨g0,f0,g1,f1,g2,f2,g3,f3⟩:=qF K0 0;obtain⟨d0,e0,d1,e1,d2,e2,d3,e3⟩:=qF K1 5;go_wp2_with fail
  (try simp only[Exit.inBlock,Exit.then])
  refine DJ (g:=w.heap.size) (v0:=.int .i64 5) (v1:=.int .u32 0) (v2:=.slice none 0 0) (v3:=.slice none 0 0) rfl (by rfl) (by rfl) (W4.blk K0 _ _ _ _) ?_;exact⟨(X1.trans P2 (by simp)).trans (W4.only _ _ _ _ _ _) (fun x hx=>.inr (by simp at hx;omega)),⟨5,0,none,0,[],none,0,[]⟩,0,by rw[hre.out];rfl,fun h=>by rw[hre.out] at h;cases h⟩
 have i2: ¬(ln:Int)-4<(N:Int):=by omega
 have hT:=t0 h6' (by omega);obtain⟨tx,htx⟩:=qX ((l.drop 4).take N);have htn:tx.length=N:=by rw[<-htx,List.length_take,List.length_drop,hln];omega
 rw[htx] at hT;have hwr:IntKind.u32.wrap (4+(N:Int))=4+(N:Int):=by rw[IntKind.wrap_u32];omega
 have hmod:(4+(N:Int)) % 4294967296=4+(N:Int):=by omega
 have j0:(4:Int)<=4+(N:Int):=by omega
 have j1:4+(N:Int)<=(c:Int):=by omega
 have RDX:=fun(w':World) (P:Only [] w w')=>aZ (w:=w') (A:=A) (l:=l) c N (h.only P) (by rw[hln];omega) (by rw[hln];exact hlc);replace RDX:=AB RDX;have hlB: ∀x∈tx,0<=x/\x<256:=fun x hx=>hl x (by rw[<-htx] at hx;exact List.mem_of_mem_drop (List.mem_of_mem_take hx));replace hlB:=AB hlB;replace htx:=AB htx;replace htn:=AB htn;replace hT:=AB hT;replace hr:=AB hr;have hln2:4+N<=ln:=by omega
 replace hln2:=AB hln2;have hN5:N<=32768:=by omega
 replace hN5:=AB hN5;replace hln:=AB hln;clear t6 t3 t0 h3 h6' hbe hbe2;go_enter Tryz.func118,Tryz.ntmps118
 go_wp2_with fail
 rw[<-hw1];replace hw1:=AB hw1;go_call NB as e w2 ⟨rfl,P2⟩
 have K0:=KA.only P2 (by simp);have K1:=KB.only P2 (by simp);have z2:=P2.size;have X2:=X1.trans P2 (by simp);obtain⟨A9,c9,hc9,R9⟩:=RDX.out w2 X2;rw[htx.out] at R9;have SP:=dT A9 tx c9 w2 R9 hlB.out (by have:=htn.out;have:=hN5.out;omega);rw[htn.out] at SP;obtain⟨sr,hsr⟩:=qX (TZ tx);rw[hsr] at SP;obtain⟨SE,SL⟩:=sr;have hee:r.e=SE/\(SE=0->r=⟨0,0,[],SL,l.drop (4+N)⟩):=by
  have h1:=hr.out;unfold EC at h1;rw[hT.out] at h1;unfold GE at h1;rw[if_neg (by simp)] at h1;dsimp only at h1;unfold TZ at hsr;by_cases hx:tx=[]
  ·rw[if_pos hx] at h1 hsr;injection hsr with e1 e2;subst e1;subst e2;rw[<-h1];exact⟨rfl,fun _=>rfl⟩
  ·rw[if_neg hx] at h1 hsr;by_cases hb:BS (CP (strOfNums tx))=0
   ·rw[if_pos hb] at hsr;injection hsr with e1 e2;subst e1;subst e2;rw[<-h1];exact⟨hb,fun _=>by rw[hb]⟩
   ·rw[if_neg hb] at hsr;injection hsr with e1 e2;subst e1;rw[<-h1];exact⟨rfl,fun h0=>absurd h0 hb⟩
 have hss: ∀s∈SL,s.size<=maxLen:=by
  intro s hs;have h1:s∈CP (strOfNums tx):=by
   unfold TZ at hsr;by_cases hx:tx=[]
   ·rw[if_pos hx] at hsr;injection hsr with e1 e2;rw[<-e2] at hs;simp at hs
   ·rw[if_neg hx] at hsr;by_cases hb:BS (CP (strOfNums tx))=0
    ·rw[if_pos hb] at hsr;injection hsr with e1 e2;rw[e2];exact hs
    ·rw[if_neg hb] at hsr;injection hsr with e1 e2;rw[<-e2] at hs;simp at hs
  have h2:s.data.toList∈EY (strOfNums tx).data.toList:=by rw[<-LJ];exact List.mem_map_of_mem h1
  have h3:=WP _ _ h2;have h4:=QZ tx;unfold QY at h4;have h5:s.size=s.data.toList.length:=by simp
  have:=htn.out;have:=hN5.out;unfold maxLen;omega
 replace hee:=AB hee;replace hss:=AB hss;replace hsr:=AB hsr;rcases hc9 with⟨hc9,rfl,rfl⟩|⟨hc9,rfl,rfl⟩;all_goals (
  (try rw[map_four] at SP)
  go_wp2_with fail
  go_call SP as e w8 ⟨P8,v8,rfl,V8⟩
  obtain⟨A8,k8,rfl,R8,q8,m8,a8⟩:=V8.rd;have KK0:=K0.only P8 (by simp);have KK1:=K1.only P8 (by simp);have z8:=P8.size;dsimp only at V8⊢;obtain⟨g0,f0,g1,f1,g2,f2,g3,f3⟩:=qF KK0 0;obtain⟨d0,e0,d1,e1,d2,e2,d3,e3⟩:=qF KK1 5;go_wp2_with fail
  (try simp only[Exit.inBlock,Exit.then])
  have Y1:Only [w.heap.size+1] w8 (w8.setCell ⟨w.heap.size+1,3,none⟩ (.slice A8 SL.length k8)):=(zR _ _).setCell (p:=⟨w.heap.size+1,3,none⟩) (.inl (by simp)) _;have Y4:=W4.only (w8.setCell ⟨w.heap.size+1,3,none⟩ (.slice A8 SL.length k8)) w.heap.size (.int .i64 5) (.int .u32 0) (.slice none 0 0) (.slice A8 SL.length k8);have B4:=W4.blk (KK0.only Y1 (by simp)) (.int .i64 5) (.int .u32 0) (.slice none 0 0) (.slice A8 SL.length k8);have Y:Only [w.heap.size,w.heap.size+1] w8 (W4 (w8.setCell ⟨w.heap.size+1,3,none⟩ (.slice A8 SL.length k8)) w.heap.size (.int .i64 5) (.int .u32 0) (.slice none 0 0) (.slice A8 SL.length k8)):=(Y1.mono (by simp)).trans Y4 (fun x hx=>.inl (by simp at hx;simp[hx]));refine DJ (g:=w.heap.size) (v0:=.int .i64 5) (v1:=.int .u32 0) (v2:=.slice none 0 0) (v3:=.slice A8 SL.length k8) rfl (by rfl) (by rfl) B4 ?_;refine⟨(X2.trans P8 (by simp)).trans Y (fun x hx=>.inr (by simp at hx;omega)),⟨5,0,none,0,[],A8,k8,SL⟩,4+N,?_,fun h0=>?_⟩
  ·show Ending.returned (.tuple #[.agg #[.int .i64 5,.int .u32 0,.slice none 0 0,.slice A8 SL.length k8],.int .i64 (4+(N:Int)),.int .i64 SE])=Ending.returned (.tuple #[.agg #[.int .i64 5,.int .u32 0,.slice none 0 0,.slice A8 SL.length k8],.int .i64 ((4+N:Nat):Int),.int .i64 r.e]);rw[hee.out.1,Int.natCast_add];rfl
  ·have hrr:=hee.out.2 (by rw[<-hee.out.1];exact h0);rw[hrr];exact⟨rfl,by have:=hln.out;have:=hln2.out;omega,rfl,mine_list V8 Y (fun x hx=>by simp at hx;omega) (by omega) hss.out⟩)
theorem take_any (k:Int) (h1:1<=k) (h6:k<=6) (A:Option Addr) (l:List Int) (c:Nat) (w:World) (h:Rd w A l) (hl: ∀x∈l,0<=x/\x<256) (hlen:l.length<=140737488355000) (hlc:l.length<=c) (hlm:c<=maxLen) :
  Calls Tryz.prog 118 #[.int .i64 k,.slice A l.length c] w (KE w k l (BC k.toNat l)):=by
 by_cases h12:k=1\/k=2
 ·exact lC k h12 A l c w h hl hlen
 by_cases h66:k=6
 ·subst h66;exact take_rest A l c w h hlen
 by_cases h4:l.length<4
 ·exact ZN k (by omega) A l c w h4
 have hk:k=3\/k=4\/k=5:=by omega
 rcases hk with rfl|rfl|rfl;·exact iG A l c w h hl (by omega)
 ·exact dU A l c w h hl (by omega) hlc hlm
 ·exact ZM A l c w h hl (by omega) hlc hlm
end Go.Proofs.YtfbhemmpobgdpaaGreatDoor
namespace Go.Proofs.YtfbhemmpobgdpaaGreatDoor
open Go.RowKit
theorem part_drop {w:World} {A:Option Addr} {l:List Int} (c T:Nat) (h:Rd w A l) (hT:T<=l.length) (hc:l.length<=c) (hm:c<=maxLen) :
  ∃A9 c9,((c=T/\A9=A/\c9=0)\/(¬c=T/\A9=(A.map fun x=>x.add T)/\c9=c-T))/\Rd w A9 (l.drop T)/\(l.drop T).length<=c9/\c9<=maxLen:=by
 by_cases hck:c=T
 ·refine⟨A,0,.inl ⟨hck,rfl,rfl⟩,?_,by rw[List.length_drop];omega,qO _⟩;rw[List.drop_eq_nil_of_le (by omega)];exact RdG.nil (mk:=.int .u8)
 ·exact⟨_,_,.inr ⟨hck,rfl,rfl⟩,RdG.drop (mk:=.int .u8) h T,by rw[List.length_drop];omega,by omega⟩
def DU (w:World) (res:Int×List PF):Ending->World->Prop:=fun E w'=>
 Only [] w w'/\∃A cap fs,E = .returned (.tuple #[.slice A fs.length cap,.int .i64 res.1])/\fs.map FD.pf=res.2/\FY w' w.heap.size (.slice A fs.length cap) fs/\∀f∈fs,FD.mine w' f w.heap.size
theorem IH (w w':World) (e:Int) (h:Only [] w w'):DU w (e,[]) (.returned (.tuple #[.slice none 0 0,.int .i64 e])) w':=
 ⟨h,none,0,[],rfl,rfl,NW _ _,fun f hf=>by simp at hf⟩
structure RRL (w wr : World) (ks : List Int) (res : Int × List PF) (k : Nat) (v : Value) (fs : List FD) (A : Option Addr) (cap : Nat) (rest : List Int) : Prop where
  res : res = AY (ks.drop k) rest (fs.map FD.pf)
  rd : Rd w A rest
  bytes : ∀ x ∈ rest, 0 <= x /\ x < 256
  few : rest.length <= 140737488355000
  le : rest.length <= cap
  max : cap <= maxLen
  own : FY wr w.heap.size v fs
  mine : ∀ f ∈ fs, FD.mine wr f w.heap.size /\ f.off v
  num : fs.length = k
  only : Only [] w wr
theorem GF (w:World) (kA lA:Option Addr) (ks l:List Int) (kc lc:Nat) (hk:RdI w kA ks) (h:Rd w lA l) (hl: ∀x∈l,0<=x/\x<256)
  (hkn:ks.length<1000000) (hln:l.length<=140737488355000) (hlc:l.length<=lc) (hlm:lc<=maxLen) :
  Calls Tryz.prog 71 #[.slice kA ks.length kc,.slice lA l.length lc] w (DU w (AR ks l)):=by
 have KN:=dS kA ks kc w hk (by unfold maxLen;omega);by_cases hr:GS ks=true
 ·rw[show AR ks l=AY ks l [] from if_pos hr];rw[hr] at KN;obtain⟨n,hn⟩:=qY ks.length;rw[<-hn] at KN hkn⊢;obtain⟨res,hres⟩:=qY (AY ks l []);rw[<-hres];replace hres:=AB hres;replace hn:=AB hn;have H0:RRL w w ks res 0 (.slice none 0 0) [] lA lc l:=⟨by simpa using hres.out,h,hl,hln,hlc,hlm,NW _ _,fun f hf=>by simp at hf,rfl,zR _ _⟩;obtain⟨ll,hll⟩:=qX l.length;rw[hll];replace hll:=AB hll;go_enter Tryz.func71,Tryz.ntmps71
  go_wp2_with fail
  go_call KN as e w1 ⟨rfl,rfl⟩
  clear KN;go_wp2_with fail
  go_loopw [17,6,1] (fun i o s wr=>∃(k:Nat) (v:Value) (fs:List FD) (A:Option Addr) (cap:Nat) (rest:List Int),k<=n/\i = .int .i64 k/\v=o/\s = .slice A rest.length cap/\RRL w wr ks res k v fs A cap rest) (fun i _ _ _=>n-(intOf i).toNat)
  case atStart=>exact⟨0,_,[],lA,lc,l,by omega,rfl,rfl,by rw[hll.out],H0⟩
  case round=>
   obtain⟨wo,rfl⟩: ∃wo:World,wo=wr:=⟨_,rfl⟩;obtain⟨k,v,fs,A,cap,rest,hkn2,rfl,rfl,rfl,H⟩:=hrel;have z0:=H.only.size;have hob:=H.own.block;have hmax:=H.max;have hle:=H.le;by_cases hlt:k<n
   ·obtain⟨b,off,x,rfl,hb,hx,cx⟩:=(hk.only H.only).at k (by have:=hn.out;omega);obtain⟨x1,x6⟩:=SN hr hx;have TK:=take_any x x1 x6 A rest cap wo (H.rd.only H.only) H.bytes H.few hle hmax;have hdrop:ks.drop k=x::ks.drop (k+1):=by
     have hki:k<ks.length:=by have:=hn.out;omega
     rw[List.drop_eq_getElem_cons hki];congr 1
     rw[List.getElem?_eq_getElem hki] at hx;injection hx
    have hres2:=H.res;rw[hdrop] at hres2;unfold AY at hres2;obtain⟨r,hrk⟩:=qX (BC x.toNat rest);rw[hrk] at TK hres2;obtain⟨rl,hrl⟩:=qX rest.length;rw[hrl] at TK hle⊢;unfold maxLen at hmax;replace hrk:=AB hrk;replace hrl:=AB hrl;replace hres2:=AB hres2;replace hx:=AB hx;replace hdrop:=AB hdrop;go_wp2_with fail
    go_call TK as e w4 ⟨P4,f,nn,rfl,hok⟩
    clear TK;have z4:=P4.size;obtain⟨E,N,tx,ls,rs⟩:=r;dsimp only at hok⊢;by_cases hE:E=0
    ·subst hE;have hE2:((0:Int)!=0)=false:=rfl;obtain⟨hpf,hnn,hrest,my⟩:=hok rfl;rw[hrl.out] at hnn;obtain⟨A9,c9,hc9,R9,l9,m9⟩:=part_drop cap nn H.rd (by rw[hrl.out];exact hnn) H.le H.max;have i1:(nn:Int)<=(rl:Int):=by omega
     have i2:(nn:Int)<=(cap:Int):=by omega
     have X5:Only [] wo ((w4.alloc (.cells #[.int .i64 f.kind,.int .u32 f.n,.slice f.tA f.text.length f.tc,.slice f.lA f.list.length f.lc] 153)).alloc (.cells #[.int .i64 f.kind,.int .u32 f.n,.slice f.tA f.text.length f.tc,.slice f.lA f.list.length f.lc] 153)):=(P4.alloc _).alloc _;have V5:=H.own.far X5 (fun x hx=>by simp at hx);have B5:Blk ((w4.alloc (.cells #[.int .i64 f.kind,.int .u32 f.n,.slice f.tA f.text.length f.tc,.slice f.lA f.list.length f.lc] 153)).alloc (.cells #[.int .i64 f.kind,.int .u32 f.n,.slice f.tA f.text.length f.tc,.slice f.lA f.list.length f.lc] 153)) (w4.heap.size+1) 153 f.cells:=by
      have:=Blk.new (w4.alloc (.cells #[.int .i64 f.kind,.int .u32 f.n,.slice f.tA f.text.length f.tc,.slice f.lA f.list.length f.lc] 153)) 153 [.int .i64 f.kind,.int .u32 f.n,.slice f.tA f.text.length f.tc,.slice f.lA f.list.length f.lc];rw[show(w4.alloc (.cells #[.int .i64 f.kind,.int .u32 f.n,.slice f.tA f.text.length f.tc,.slice f.lA f.list.length f.lc] 153)).heap.size=w4.heap.size+1 by simp] at this;exact this
     have mg:=my.only (((Only.refl [] w4).alloc (.cells #[.int .i64 f.kind,.int .u32 f.n,.slice f.tA f.text.length f.tc,.slice f.lA f.list.length f.lc] 153)).alloc (.cells #[.int .i64 f.kind,.int .u32 f.n,.slice f.tA f.text.length f.tc,.slice f.lA f.list.length f.lc] 153));have hfew:fs.length<1000000:=by rw[H.num];omega
     have hbase:w.heap.size<=((w4.alloc (.cells #[.int .i64 f.kind,.int .u32 f.n,.slice f.tA f.text.length f.tc,.slice f.lA f.list.length f.lc] 153)).alloc (.cells #[.int .i64 f.kind,.int .u32 f.n,.slice f.tA f.text.length f.tc,.slice f.lA f.list.length f.lc] 153)).heap.size:=Nat.le_trans z0 X5.size;have hres3:res=AY (ks.drop (k+1)) (rest.drop nn) ((fs++[f]).map FD.pf):=by
      have e1:=hres2.out;rw[if_neg (by simp)] at e1;rw[e1,List.map_append,List.map_cons,List.map_nil,hpf,hrest]
     replace hres3:=AB hres3;replace hpf:=AB hpf;replace hrest:=AB hrest;unfold FD.val;clear hres2 hok;rcases hc9 with⟨hc9,rfl,rfl⟩|⟨hc9,rfl,rfl⟩;all_goals (
      go_wp2_with (at_builtin;go_must (refine OT rfl (.tmp 31) (.tmp 33) rfl w.heap.size v fs rfl V5 (w4.heap.size+1) f rfl B5 hfew hbase ?_;intro A9' k9 w9 V9 P9 G9))
      go_roundw
      case rel=>
       refine⟨k+1,_,fs++[f],_,_,rest.drop nn,by omega,by go_num,rfl,?_,⟨hres3.out,R9,fun y hy=>H.bytes y (List.mem_of_mem_drop hy),by rw[List.length_drop];have:=H.few;omega,l9,m9,V9.out,mine_snoc X5 P9 G9.out hob H.mine mg z0,by rw[zE,H.num];rfl,(H.only.trans X5 (by simp)).trans P9 (fun x hx=>.inr (hob x (by simpa using hx)).1)⟩⟩;rw[List.length_drop,hrl.out]
      case measure=>simp[intOf];omega)
    ·have hE2:(E !=0)=true:=by simpa using hE
     have hfin:res=(E,[]):=by
      have e1:=hres2.out;rw[if_pos hE] at e1;exact e1
     replace hfin:=AB hfin;unfold FD.val;clear hres2 hok;go_wp2_with fail
     go_ret2
     rw[hfin.out];exact IH _ _ _ (H.only.trans (P4.alloc _) (by simp))
   ·obtain rfl:k=n:=by omega
    have hres2:=H.res;rw[List.drop_eq_nil_of_le (by have:=hn.out;omega)] at hres2;unfold AY at hres2;obtain⟨rl,hrl⟩:=qX rest.length;rw[hrl] at hres2⊢;by_cases h0:0<rl
    ·rw[if_pos h0] at hres2;have h0':(0:Int)<(rl:Int):=by omega
     replace hres2:=AB hres2;go_wp2_with fail
     go_ret2
     rw[hres2.out];exact IH _ _ _ H.only
    ·rw[if_neg h0] at hres2;have h0': ¬(0:Int)<(rl:Int):=by omega
     obtain⟨A',cap',rfl,_,_,_⟩:=H.own.form;have V:=H.own;have M:=H.mine;have OO:=H.only;replace hres2:=AB hres2;go_wp2_with fail
     go_ret2
     rw[hres2.out];exact⟨OO,A',cap',fs,rfl,rfl,V,fun f hf=>(M f hf).1⟩
 ·have hr':GS ks=false:=by simpa using hr
  rw[hr'] at KN;rw[show AR ks l=(2,[]) from if_neg hr];obtain⟨ll,hll⟩:=qX l.length;rw[hll];go_enter Tryz.func71,Tryz.ntmps71
  go_wp2_with fail
  go_call KN as e w1 ⟨rfl,rfl⟩
  go_wp2_with fail
  go_ret2
  exact IH _ _ _ (zR _ _)
def HX (B:Nat) (m:MD):Prop:=∀a,m.dA=some a->B<=a.block
def HZ (w:World) (l:List Int):Ending->World->Prop:=fun e w'=>Only [] w w'/\∃(m:MD) (E:Int),e = .returned (.tuple #[m.val,.int .i64 E])/\m.ok w'/\IT l m E/\HX w.heap.size m
theorem EU {B:Nat}:HX B AK:=fun a ha=>by cases ha
theorem putM_new {B:Nat} {m:MD} {f:FD} (j:Nat) (h:HX B m) (hf: ∀a,f.tA=some a->B<=a.block):HX B (putM m j f):=by
 unfold putM;split;·exact h
 ·exact hf
 ·exact h
 ·exact h
 ·exact h
 ·exact hf
 ·exact h
 ·exact h
 ·exact h
 ·exact h
theorem GY {B:Nat}: ∀(js:List Nat) (fs:List FD) (m:MD),HX B m->(∀f∈fs,∀a,f.tA=some a->B<=a.block)->HX B (AQ m js fs)
 |[],_,_,h,_=>by simpa[AQ] using h
 |j::js,[],_,h,_=>by simpa[AQ] using h
 |j::js,f::fs,m,h,hf=>GY js fs (putM m j f) (putM_new j h (hf f (by simp))) fun x hx=>hf x (by simp[hx])
theorem JV {B:Nat} (k:Int):HX B (AF k):=fun a ha=>by cases ha
theorem BM {w:World} {q:Nat} {m:MD} {A:Option Addr} {l:List Int} (K:Blk w q 37 m.cells) (h:RdG (.int .u8) w A l) (h0:0<l.length) (a:Addr) (ha:A=some a):a.block≠q:=by
 obtain⟨b,off,e,hb,hc⟩:=h h0;rw[e] at ha;injection ha with ha;subst ha;intro hbq;dsimp only at hbq;subst hbq;have hx:l[0]? = some (l[0]'h0):=List.getElem?_eq_getElem h0;have:=hc 0 _ hx;rw[Nat.add_zero,K.cell off] at this;have hm:=qE this;simp[MD.cells] at hm
theorem MD.ok.onlyN {w w':World} {q:Nat} {m:MD} (h:m.ok w) (hb:Only [q] w w') (hn: ∀a,m.dA=some a->0<m.data.length->a.block≠q):m.ok w':=
 { h with data:=h.data.onlyL hb (fun a ha h0=>by have:=hn a ha h0;simp;omega) }
theorem lH (k:Int) (A:Option Addr) (t:List Int) (c:Nat) (w:World) (h:Rd w A (k::t)) (hl:InB (k::t)) (hln:(k::t:List Int).length<=140737488355000) (hlc:(k::t:List Int).length<=c)
  (K: ∀(b off:Nat) (l:List Int) (ln:Nat) (w1 w2:World),b<w.heap.size->w.cell? ⟨b,off,none⟩=some (.int .u8 k)->(k::t)=l->l.head?=some k->l.length=ln->1<=ln->((ln:Int)==0)=false->ln≠0->w1=w.alloc (.cells #[.int .i64 0,.int .u32 0,.int .u32 0,.int .u32 0,.int .u32 0,.int .u32 0,.string ⟨#[]⟩,.string ⟨#[]⟩,.bool false,.slice none 0 0] 37)->w1.heap.size=w.heap.size+1->w2=w1.alloc (.cells #[.int .i64 k,.int .u32 0,.int .u32 0,.int .u32 0,.int .u32 0,.int .u32 0,.string ⟨#[]⟩,.string ⟨#[]⟩,.bool false,.slice none 0 0] 37)->Only [] w w1->Only [] w1 w2->Only [] w w2->Blk w2 w.heap.size 37 AK.cells->Blk w2 (w.heap.size+1) 37 (AF k).cells->Rd w (some ⟨b,off,none⟩) l->InB l->ln<=140737488355000->ln<=c->Calls Tryz.prog 70 #[.agg #[.int .i64 k,.int .u32 0,.int .u32 0,.int .u32 0,.int .u32 0,.int .u32 0,.string ⟨#[]⟩,.string ⟨#[]⟩,.bool false,.slice none 0 0]] w2 (AE w2 (AF k))->Calls Tryz.prog 37 #[.slice (some ⟨b,off,none⟩) ln c] w (HZ w l)) :
  Calls Tryz.prog 37 #[.slice A (k::t:List Int).length c] w (HZ w (k::t)):=by
 obtain⟨b,off,y,rfl,hb,hy,cx⟩:=RdG.at (mk:=.int .u8) h 0 (by simp);simp at hy;subst hy;rw[Nat.add_zero] at cx;obtain⟨l,hll⟩: ∃l:List Int,(k::t)=l:=⟨_,rfl⟩;have hk1:l.head?=some k:=by rw[<-hll];rfl
 rw[hll] at h hl hln hlc⊢;obtain⟨ln,hn⟩:=qX l.length;have hn1:1<=ln:=by rw[<-hn,<-hll];simp
 have hn0:((ln:Int)==0)=false:=by simp;omega
 have hn00:ln≠0:=by omega
 obtain⟨w1,hw1⟩:=qY (w.alloc (.cells #[.int .i64 0,.int .u32 0,.int .u32 0,.int .u32 0,.int .u32 0,.int .u32 0,.string ⟨#[]⟩,.string ⟨#[]⟩,.bool false,.slice none 0 0] 37));have hz1:w1.heap.size=w.heap.size+1:=by rw[hw1];simp
 obtain⟨w2,hw2⟩:=qY (w1.alloc (.cells #[.int .i64 k,.int .u32 0,.int .u32 0,.int .u32 0,.int .u32 0,.int .u32 0,.string ⟨#[]⟩,.string ⟨#[]⟩,.bool false,.slice none 0 0] 37));have O1:Only [] w w1:=by rw[hw1];exact(zR _ _).alloc _
 have P12:Only [] w1 w2:=by rw[hw2];exact(zR _ _).alloc _
 have O2:Only [] w w2:=O1.trans P12 (by simp);have Z2:Blk w2 w.heap.size 37 AK.cells:=by rw[hw2,hw1];exact(Blk.new w _ _).alloc _
 have M2:Blk w2 (w.heap.size+1) 37 (AF k).cells:=by
  rw[<-hz1,hw2];exact Blk.new w1 37 (AF k).cells
 have FA:Calls Tryz.prog 70 #[.agg #[.int .i64 k,.int .u32 0,.int .u32 0,.int .u32 0,.int .u32 0,.int .u32 0,.string ⟨#[]⟩,.string ⟨#[]⟩,.bool false,.slice none 0 0]] w2 (AE w2 (AF k)):=IC (AF k) w2 (EE _ _) (qO _) (qO _);rw[hn] at hln hlc⊢;exact K b off l ln w1 w2 hb cx hll hk1 hn hn1 hn0 hn00 hw1 hz1 hw2 O1 P12 O2 Z2 M2 h hl hln hlc FA
theorem lI (wo:World) (f:FD):Only [] wo ((wo.alloc (.cells #[.int .i64 f.kind,.int .u32 f.n,.slice f.tA f.text.length f.tc,.slice f.lA f.list.length f.lc] 153)).alloc (.cells #[.int .i64 f.kind] 3))/\RdI ((wo.alloc (.cells #[.int .i64 f.kind,.int .u32 f.n,.slice f.tA f.text.length f.tc,.slice f.lA f.list.length f.lc] 153)).alloc (.cells #[.int .i64 f.kind] 3)) (some ⟨wo.heap.size+1,0,none⟩) [f.kind]:=by
 refine⟨((zR _ _).alloc _).alloc _,?_⟩;have:=NA (wo.alloc (.cells #[.int .i64 f.kind,.int .u32 f.n,.slice f.tA f.text.length f.tc,.slice f.lA f.list.length f.lc] 153)) #[.int .i64 f.kind] [f.kind] rfl;rw[show(wo.alloc (.cells #[.int .i64 f.kind,.int .u32 f.n,.slice f.tA f.text.length f.tc,.slice f.lA f.list.length f.lc] 153)).heap.size=wo.heap.size+1 by simp] at this;exact this
theorem rdec_k93 (A:Option Addr) (t:List Int) (c:Nat) (w:World) (h:Rd w A (93::t)) (hl:InB (93::t)) (hln:(93::t:List Int).length<=140737488355000) (hlc:(93::t:List Int).length<=c) (hlm:c<=maxLen) :
  Calls Tryz.prog 37 #[.slice A (93::t:List Int).length c] w (HZ w (93::t)):=by
 refine lH 93 A t c w h hl hln hlc fun b off l ln w1 w2 hb cx hll hk1 hn hn1 hn0 hn00 hw1 hz1 hw2 O1 P12 O2 Z2 M2 h hl hln hlc FA=>?_;unfold AE at FA;rw[show BX (AF 93).kind=some [9,7] from rfl] at FA;replace hn:=AB hn;replace hll:=AB hll;replace hk1:=AB hk1;go_enter Tryz.func37,Tryz.ntmps37
 go_wp2_with fail
 rw[<-hw1,<-hw2];replace hw1:=AB hw1;replace hw2:=AB hw2;replace hz1:=AB hz1;go_call FA as e w3 ⟨P3,A0,c0,fs0,rfl,RF0,hfs0,hc0,hm0⟩
 clear FA;have O3:Only [] w w3:=O2.trans P3 (by simp);have Z3:=Z2.only P3 (by simp);have M3:=M2.only P3 (by simp);have hl0:fs0.length=2:=by have:=congrArg List.length hfs0;simpa using this
 have hkk0:fs0.map (·.kind)=[3,3]:=by
  have:=congrArg (List.map PF.kind) hfs0;rw[List.map_map,List.map_map] at this;exact this
 have V4:=KL w3 1;have X4:Only [] w3 (w3.alloc (.cells #[.int .i64 1] 3)):=(zR _ _).alloc _;rw[hl0] at hc0⊢;replace hl0:=AB hl0;replace hfs0:=AB hfs0;replace hkk0:=AB hkk0;go_wp2_with fail
 go_loopw [32,7] (fun i o wr=>∃(kk:Nat) (v:Value),kk<=2/\i = .int .i64 kk/\v=o/\IW wr w3.heap.size v (1::(fs0.take kk).map (·.kind))/\Only [] w3 wr) (fun i _ _=>2-(intOf i).toNat)
 case atStart=>exact⟨0,_,by omega,rfl,rfl,V4,X4⟩
 case round=>
  obtain⟨wo,rfl⟩: ∃wo:World,wo=wr:=⟨_,rfl⟩;obtain⟨kk,v,hkn,rfl,rfl,V,O⟩:=hrel;have hob:=V.block;have z0:=O.size;by_cases hlt:kk<2
  ·obtain⟨f,hf⟩: ∃f,fs0[kk]? = some f:=⟨_,List.getElem?_eq_getElem (by have:=hl0.out;omega)⟩;obtain⟨bF,oF,rfl,hbF,hcF⟩:=(RF0.only O).cells (by have:=hl0.out;omega);obtain⟨c0',c1,c2,c3⟩:=hcF kk f hf;have hks:(1::(fs0.take (kk+1)).map (·.kind))=(1::(fs0.take kk).map (·.kind))++[f.kind]:=by
    rw[DH hf,List.map_append];rfl
   have hlk:(1::(fs0.take kk).map (·.kind)).length=kk+1:=by rw[List.length_cons,List.length_map,List.length_take];have:=hl0.out;omega
   obtain⟨X5,R5⟩:=lI wo f;have V5:=V.far X5 (fun x hx=>by simp at hx);obtain⟨ks,hksv⟩:=qX ((1::(fs0.take kk).map (·.kind)));rw[hksv] at V5 hlk hks;replace hks:=AB hks;replace hksv:=AB hksv;replace hlk:=AB hlk;replace hf:=AB hf;clear hcF;go_wp2_with (at_builtin;go_must (refine FW rfl (.tmp 36) (.tmp 39) rfl w3.heap.size v ks rfl V5 (some ⟨wo.heap.size+1,0,none⟩) 1 [f.kind] _ rfl rfl R5 (by have:=hlk.out;rw[this];simp;omega) (by simp;omega) ?_;intro v9 w9 V9 P9))
   go_roundw
   case rel=>
    refine⟨kk+1,_,by omega,by go_num,rfl,?_,(O.trans X5 (by simp)).trans P9 (fun x hx=>.inr (hob x (by simpa using hx)).1)⟩;rw[hks.out];exact V9.out
   case measure=>simp[intOf];omega
  ·obtain rfl:kk=2:=by omega
   have V':IW wo w3.heap.size v [1,3,3]:=by
    have e:(1::(fs0.take 2).map (·.kind))=[1,3,3]:=by rw[List.take_of_length_le (by have:=hl0.out;omega),hkk0.out]
    rw[<-e];exact V
   obtain⟨kA,kc,rfl,RK,_,_,_⟩:=V'.rd;have Oo:Only [] w wo:=O3.trans O (by simp);have RR:=GF wo kA (some ⟨b,off,none⟩) [1,3,3] l kc c RK (h.only Oo) hl (by decide) (by have:=hn.out;omega) (by have:=hn.out;omega) hlm;rw[hn.out] at RR;have RR':Calls Tryz.prog 71 #[.slice kA 3 kc,.slice (some ⟨b,off,none⟩) ln c] wo (DU wo (AR [1,3,3] l)):=RR;obtain⟨E,hE⟩:=qX ((AR [1,3,3] l).1);have hgood:=DY [1,3,3] l hl;have hdec: ∀(M:MD) (E':Int),HX w.heap.size M->(if(AR [1,3,3] l).1≠0 then E'=(AR [1,3,3] l).1/\M=AK
     else∃fs:List FD,fs.map FD.pf=(AR [1,3,3] l).2/\if BW (AQ (AF 93) [9,7] fs.tail) then E'=0/\M=AQ (AF 93) [9,7] fs.tail else E'=4/\M=AK)->IT l M E'/\HX w.heap.size M:=fun M E' hnw hx=>by
    refine⟨?_,hnw⟩;rw[<-hll.out] at hx⊢;exact hx
   rw[hE] at hgood;replace hE:=AB hE;replace hgood:=AB hgood;replace hdec:=AB hdec;have Zo:=Z3.only O (by simp);have Mo:=M3.only O (by simp);clear V V' RR RK;go_wp2_with fail
   go_call RR' as e w5 ⟨P5,A5,k5,fs,rfl,hfs,V5,M5m⟩
   have M5: ∀f∈fs,FD.ok w5 f:=fun f hf=>(M5m f hf).ok;clear RR';have O5:Only [] w w5:=Oo.trans P5 (by simp);have Z5:=Zo.only P5 (by simp);have K5:=Mo.only P5 (by simp);rw[hE.out];by_cases hE0:E=0
   ·subst hE0;obtain⟨g1,g2⟩:=hgood.out rfl;rw[<-hfs] at g1 g2;have hfl:fs.length=3:=by have:=congrArg List.length g1;simpa using this
    obtain⟨f0,f1,f2,rfl⟩: ∃f0 f1 f2,fs=[f0,f1,f2]:=by
     match fs,hfl with
     |[f0,f1,f2],_=>exact⟨f0,f1,f2,rfl⟩
    obtain⟨A',cap,eA,hcle,hcmx,hF⟩:=V5.form;injection eA with eA1 eA2 eA3;subst eA1;subst eA3;obtain⟨bF,rfl,hbase,hbF,hcF⟩:=hF (by simp);have hcap:3<=k5:=hcle;have hbw:w.heap.size+1<bF:=by have:=Mo.lt;have:=P5.size;have:wo.heap.size<=bF:=hbase;omega
    have hne4: ¬w.heap.size+1=bF:=by omega
    have hne5: ¬bF=w.heap.size+1:=by omega
    have hne6: ¬w.heap.size=bF:=by omega
    have hne7: ¬bF=w.heap.size:=by omega
    have u1:U32 f1.n/\InB f1.text:=g2 f1.pf (by simp);have o1:f1.ok w5:=M5 f1 (by simp);have u2:U32 f2.n/\InB f2.text:=g2 f2.pf (by simp);have o2:f2.ok w5:=M5 f2 (by simp);obtain⟨M,hM⟩:=qX (AQ (AF 93) [9,7] [f1,f2]);have okM:M.ok w5:=by rw[<-hM];exact ED 7 (ED 9 (EE w5 93) o1 u1.1 u1.2) o2 u2.1 u2.2
    have newM:HX w.heap.size M:=by
     rw[<-hM];exact GY _ _ _ (JV _) fun f hf a ha=>Nat.le_trans (Oo.size) ((M5m f (List.mem_cons_of_mem _ hf)).new.1 a ha)
    clear M5m;replace newM:=AB newM;have s0:w5.cell? ⟨w.heap.size+1,0,none⟩=some (.int .i64 93):=K5.cell 0;have hc1: ¬k5=1:=by omega
    obtain⟨wd,hwd⟩:=qY w5.drew;have Kd0:Blk wd (w.heap.size+1) 37 (AF 93).cells:=by rw[hwd];exact K5.drew
    have Xd0:Only [w.heap.size+1] w5 wd:=by rw[hwd];exact(Only.refl _ w5).drew
    have hI0:(fun w':World=>(∀(j:Nat) (u:Value),(AZ [f0,f1,f2])[j]? = some u->w'.cell? ⟨bF,j,none⟩=some u)/\True) wd:=by
     rw[hwd];exact⟨hcF,trivial⟩
    go_wp2_with fail
    refine AL (fun w':World=>(∀(j:Nat) (u:Value),(AZ [f0,f1,f2])[j]? = some u->w'.cell? ⟨bF,j,none⟩=some u)/\True) [] (by kernel_rfl) ?_;rw[show({ w5 with drawn:=w5.drawn+1 }:World)=wd from hwd.symm];replace hwd:=AB hwd;refine wpAnyE_tg 0 (v:=(.slice (some ⟨bF,4,none⟩) 2 (k5-1))) rfl hI0 ?_;refine qP 1 bF 4 rfl hI0 ?_;refine qP 2 bF 5 rfl hI0 ?_;refine wpAnyE_tk 3 (v:=(.int .u32 f1.n)) rfl hI0 (fun w' hw'=>by have y:w'.cell? ⟨bF,5,none⟩=some (.int .u32 f1.n):=hw'.1 5 _ rfl;go_simp) ?_;refine wpAnyE_tg 4 (v:=(.slice (some ⟨bF,4,none⟩) 2 (k5-1))) rfl hI0 ?_;refine qP 5 bF 8 rfl hI0 ?_;refine qP 6 bF 9 rfl hI0 ?_;refine wpAnyE_tk 7 (v:=(.int .u32 f2.n)) rfl hI0 (fun w' hw'=>by have y:w'.cell? ⟨bF,9,none⟩=some (.int .u32 f2.n):=hw'.1 9 _ rfl;go_simp) ?_;refine qP 8 (w.heap.size+1) 1 rfl hI0 ?_;refine AC 9 rfl (by kernel_rfl) hI0 (fun K hK=>?_);rw[if_pos (by kernel_rfl)];have cc:=Kd0.cell 1;have ff:=Kd0.frozen 1;have cc':wd.cell? ⟨w.heap.size+1,1,none⟩=some (.int .u32 0):=cc;clear cc;go_simp
    refine hK _ _ ?_;clear hK K cc' ff;obtain⟨wd1,hwd1⟩:=qY (wd.setCell ⟨w.heap.size+1,1,none⟩ (.int .u32 f1.n));have Kd1:Blk wd1 (w.heap.size+1) 37 (putM (AF 93) 9 f1).cells:=by rw[hwd1];exact Kd0.set_ 1 (.int .u32 f1.n)
    have Xs1:Only [w.heap.size+1] wd wd1:=by rw[hwd1];exact(Only.refl _ wd).setCell (p:=⟨w.heap.size+1,1,none⟩) (.inl (by simp)) _
    have Xd1:Only [w.heap.size+1] w5 wd1:=Xd0.trans Xs1 (fun x hx=>.inl hx);have hI1:(fun w':World=>(∀(j:Nat) (u:Value),(AZ [f0,f1,f2])[j]? = some u->w'.cell? ⟨bF,j,none⟩=some u)/\True) wd1:=⟨fun j u hj=>BJ Xs1 (by have:=Xd0.size;show bF<_;omega) (by show bF∉[w.heap.size+1];simp;omega) (hI0.1 j u hj),trivial⟩;rw[<-hwd1];replace hwd1:=AB hwd1;refine qP 10 (w.heap.size+1) 3 rfl hI1 ?_;refine AC 11 rfl (by kernel_rfl) hI1 (fun K hK=>?_);rw[if_pos (by kernel_rfl)];have cc:=Kd1.cell 3;have ff:=Kd1.frozen 3;have cc':wd1.cell? ⟨w.heap.size+1,3,none⟩=some (.int .u32 0):=cc;clear cc;go_simp
    refine hK _ _ ?_;clear hK K cc' ff;obtain⟨w6,hw6⟩:=qY (wd1.setCell ⟨w.heap.size+1,3,none⟩ (.int .u32 f2.n));have Kd2:Blk w6 (w.heap.size+1) 37 (putM (putM (AF 93) 9 f1) 7 f2).cells:=by rw[hw6];exact Kd1.set_ 3 (.int .u32 f2.n)
    have Xs2:Only [w.heap.size+1] wd1 w6:=by rw[hw6];exact(Only.refl _ wd1).setCell (p:=⟨w.heap.size+1,3,none⟩) (.inl (by simp)) _
    have Xd2:Only [w.heap.size+1] w5 w6:=Xd1.trans Xs2 (fun x hx=>.inl hx);have hI2:(fun w':World=>(∀(j:Nat) (u:Value),(AZ [f0,f1,f2])[j]? = some u->w'.cell? ⟨bF,j,none⟩=some u)/\True) w6:=⟨fun j u hj=>BJ Xs2 (by have:=Xd1.size;show bF<_;omega) (by show bF∉[w.heap.size+1];simp;omega) (hI1.1 j u hj),trivial⟩;rw[<-hw6];replace hw6:=AB hw6;refine AT (by kernel_rfl) hI2 ?_;(try simp only[Exit.then])
    have K6:Blk w6 (w.heap.size+1) 37 M.cells:=by rw[<-hM];exact Kd2
    have Z6:Blk w6 w.heap.size 37 AK.cells:=Z5.only Xd2 (by simp);have O6:Only [] w w6:=O5.trans Xd2 (fun x hx=>.inr (by simp at hx;omega));have okM6:M.ok w6:=okM.onlyN Xd2 (fun a ha h0=>BM K5 okM.data h0 a ha);clear hI0 hI1 hI2 Kd0 Kd1 Kd2;have WD:=GG M w6 okM.name okM.lang;obtain⟨bf,hbf⟩:=qX (BW M);rw[hbf] at WD;unfold MD.val at WD;obtain⟨a0,a1,a2,a3,a4,a5,a6,a7,a8,a9⟩:=qM K6 M;replace hM:=AB hM;replace hfs:=AB hfs;replace hbf:=AB hbf;go_wp2_with fail
    go_call WD as e w7 ⟨rfl,P7⟩
    clear a0 a1 a2 a3 a4 a5 a6 a7 a8 a9;have K7:=K6.only P7 (by simp);have Z7:=Z6.only P7 (by simp);have O7:Only [] w w7:=O6.trans P7 (by simp);have okM7:M.ok w7:=okM6.only P7;have hlt7:=Z7.lt;have hlk7:=K7.lt;have hq1: ¬w.heap.size=w.heap.size+1:=by omega
    have hq2: ¬w.heap.size+1=w.heap.size:=by omega
    obtain⟨z0,y0,z1,y1,z2,y2,z3,y3,z4,y4,z5,y5,z6,y6,z7,y7,z8,y8,z9,y9⟩:=qZ Z7;cases bf with
    |false=>
     go_wp2_with fail
     (try simp only[Exit.inBlock,Exit.then])
     refine CV (g:=w.heap.size) (m:=AK) rfl (by rfl) (by rfl) (KW Z7) ?_;refine⟨KX (qL _) O7,AK,4,rfl,EA _,hdec.out _ _ EU ?_⟩;rw[hE.out,if_neg (by simp)];refine⟨_,hfs.out,?_⟩;show if BW (AQ (AF 93) [9,7] [f1,f2]) then _ else _
     rw[hM.out,hbf.out,if_neg (by simp)];exact⟨rfl,rfl⟩
    |true=>
     obtain⟨a0,a1,a2,a3,a4,a5,a6,a7,a8,a9⟩:=qM K7 M;go_wp2_with fail
     (try simp only[Exit.inBlock,Exit.then])
     refine CV (g:=w.heap.size) (m:=M) rfl (by rfl) (by rfl) (UP M Z7) ?_;refine⟨JL M (.inr (qL _)) O7,M,0,rfl,okM7.onlyN (q:=w.heap.size) (JL M (.inl (by simp)) (zR _ _)) (fun a ha h0=>BM Z7 okM7.data h0 a ha),hdec.out _ _ newM.out ?_⟩;rw[hE.out,if_neg (by simp)];refine⟨_,hfs.out,?_⟩;show if BW (AQ (AF 93) [9,7] [f1,f2]) then _ else _
     rw[hM.out,hbf.out,if_pos rfl];exact⟨rfl,hM.out.symm⟩
   ·replace hfs:=AB hfs;obtain⟨z0,y0,z1,y1,z2,y2,z3,y3,z4,y4,z5,y5,z6,y6,z7,y7,z8,y8,z9,y9⟩:=qZ Z5;go_wp2_with fail
    (try simp only[Exit.inBlock,Exit.then])
    refine CV (g:=w.heap.size) (m:=AK) rfl (by rfl) (by rfl) (KW Z5) ?_;exact⟨KX (qL _) O5,AK,E,rfl,EA _,hdec.out _ _ EU (by rw[hE.out,if_pos hE0];exact⟨rfl,rfl⟩)⟩
theorem rdec_k96 (A:Option Addr) (t:List Int) (c:Nat) (w:World) (h:Rd w A (96::t)) (hl:InB (96::t)) (hln:(96::t:List Int).length<=140737488355000) (hlc:(96::t:List Int).length<=c) (hlm:c<=maxLen) :
  Calls Tryz.prog 37 #[.slice A (96::t:List Int).length c] w (HZ w (96::t)):=by
 refine lH 96 A t c w h hl hln hlc fun b off l ln w1 w2 hb cx hll hk1 hn hn1 hn0 hn00 hw1 hz1 hw2 O1 P12 O2 Z2 M2 h hl hln hlc FA=>?_;unfold AE at FA;rw[show BX (AF 96).kind=some [9] from rfl] at FA;replace hn:=AB hn;replace hll:=AB hll;replace hk1:=AB hk1;go_enter Tryz.func37,Tryz.ntmps37
 go_wp2_with fail
 rw[<-hw1,<-hw2];replace hw1:=AB hw1;replace hw2:=AB hw2;replace hz1:=AB hz1;go_call FA as e w3 ⟨P3,A0,c0,fs0,rfl,RF0,hfs0,hc0,hm0⟩
 clear FA;have O3:Only [] w w3:=O2.trans P3 (by simp);have Z3:=Z2.only P3 (by simp);have M3:=M2.only P3 (by simp);have hl0:fs0.length=1:=by have:=congrArg List.length hfs0;simpa using this
 have hkk0:fs0.map (·.kind)=[3]:=by
  have:=congrArg (List.map PF.kind) hfs0;rw[List.map_map,List.map_map] at this;exact this
 have V4:=KL w3 1;have X4:Only [] w3 (w3.alloc (.cells #[.int .i64 1] 3)):=(zR _ _).alloc _;rw[hl0] at hc0⊢;replace hl0:=AB hl0;replace hfs0:=AB hfs0;replace hkk0:=AB hkk0;go_wp2_with fail
 go_loopw [32,7] (fun i o wr=>∃(kk:Nat) (v:Value),kk<=1/\i = .int .i64 kk/\v=o/\IW wr w3.heap.size v (1::(fs0.take kk).map (·.kind))/\Only [] w3 wr) (fun i _ _=>1-(intOf i).toNat)
 case atStart=>exact⟨0,_,by omega,rfl,rfl,V4,X4⟩
 case round=>
  obtain⟨wo,rfl⟩: ∃wo:World,wo=wr:=⟨_,rfl⟩;obtain⟨kk,v,hkn,rfl,rfl,V,O⟩:=hrel;have hob:=V.block;have z0:=O.size;by_cases hlt:kk<1
  ·obtain⟨f,hf⟩: ∃f,fs0[kk]? = some f:=⟨_,List.getElem?_eq_getElem (by have:=hl0.out;omega)⟩;obtain⟨bF,oF,rfl,hbF,hcF⟩:=(RF0.only O).cells (by have:=hl0.out;omega);obtain⟨c0',c1,c2,c3⟩:=hcF kk f hf;have hks:(1::(fs0.take (kk+1)).map (·.kind))=(1::(fs0.take kk).map (·.kind))++[f.kind]:=by
    rw[DH hf,List.map_append];rfl
   have hlk:(1::(fs0.take kk).map (·.kind)).length=kk+1:=by rw[List.length_cons,List.length_map,List.length_take];have:=hl0.out;omega
   obtain⟨X5,R5⟩:=lI wo f;have V5:=V.far X5 (fun x hx=>by simp at hx);obtain⟨ks,hksv⟩:=qX ((1::(fs0.take kk).map (·.kind)));rw[hksv] at V5 hlk hks;replace hks:=AB hks;replace hksv:=AB hksv;replace hlk:=AB hlk;replace hf:=AB hf;clear hcF;go_wp2_with (at_builtin;go_must (refine FW rfl (.tmp 36) (.tmp 39) rfl w3.heap.size v ks rfl V5 (some ⟨wo.heap.size+1,0,none⟩) 1 [f.kind] _ rfl rfl R5 (by have:=hlk.out;rw[this];simp;omega) (by simp;omega) ?_;intro v9 w9 V9 P9))
   go_roundw
   case rel=>
    refine⟨kk+1,_,by omega,by go_num,rfl,?_,(O.trans X5 (by simp)).trans P9 (fun x hx=>.inr (hob x (by simpa using hx)).1)⟩;rw[hks.out];exact V9.out
   case measure=>simp[intOf];omega
  ·obtain rfl:kk=1:=by omega
   have V':IW wo w3.heap.size v [1,3]:=by
    have e:(1::(fs0.take 1).map (·.kind))=[1,3]:=by rw[List.take_of_length_le (by have:=hl0.out;omega),hkk0.out]
    rw[<-e];exact V
   obtain⟨kA,kc,rfl,RK,_,_,_⟩:=V'.rd;have Oo:Only [] w wo:=O3.trans O (by simp);have RR:=GF wo kA (some ⟨b,off,none⟩) [1,3] l kc c RK (h.only Oo) hl (by decide) (by have:=hn.out;omega) (by have:=hn.out;omega) hlm;rw[hn.out] at RR;have RR':Calls Tryz.prog 71 #[.slice kA 2 kc,.slice (some ⟨b,off,none⟩) ln c] wo (DU wo (AR [1,3] l)):=RR;obtain⟨E,hE⟩:=qX ((AR [1,3] l).1);have hgood:=DY [1,3] l hl;have hdec: ∀(M:MD) (E':Int),HX w.heap.size M->(if(AR [1,3] l).1≠0 then E'=(AR [1,3] l).1/\M=AK
     else∃fs:List FD,fs.map FD.pf=(AR [1,3] l).2/\if BW (AQ (AF 96) [9] fs.tail) then E'=0/\M=AQ (AF 96) [9] fs.tail else E'=4/\M=AK)->IT l M E'/\HX w.heap.size M:=fun M E' hnw hx=>by
    refine⟨?_,hnw⟩;rw[<-hll.out] at hx⊢;exact hx
   rw[hE] at hgood;replace hE:=AB hE;replace hgood:=AB hgood;replace hdec:=AB hdec;have Zo:=Z3.only O (by simp);have Mo:=M3.only O (by simp);clear V V' RR RK;go_wp2_with fail
   go_call RR' as e w5 ⟨P5,A5,k5,fs,rfl,hfs,V5,M5m⟩
   have M5: ∀f∈fs,FD.ok w5 f:=fun f hf=>(M5m f hf).ok;clear RR';have O5:Only [] w w5:=Oo.trans P5 (by simp);have Z5:=Zo.only P5 (by simp);have K5:=Mo.only P5 (by simp);rw[hE.out];by_cases hE0:E=0
   ·subst hE0;obtain⟨g1,g2⟩:=hgood.out rfl;rw[<-hfs] at g1 g2;have hfl:fs.length=2:=by have:=congrArg List.length g1;simpa using this
    obtain⟨f0,f1,rfl⟩: ∃f0 f1,fs=[f0,f1]:=by
     match fs,hfl with
     |[f0,f1],_=>exact⟨f0,f1,rfl⟩
    obtain⟨A',cap,eA,hcle,hcmx,hF⟩:=V5.form;injection eA with eA1 eA2 eA3;subst eA1;subst eA3;obtain⟨bF,rfl,hbase,hbF,hcF⟩:=hF (by simp);have hcap:2<=k5:=hcle;have hbw:w.heap.size+1<bF:=by have:=Mo.lt;have:=P5.size;have:wo.heap.size<=bF:=hbase;omega
    have hne4: ¬w.heap.size+1=bF:=by omega
    have hne5: ¬bF=w.heap.size+1:=by omega
    have hne6: ¬w.heap.size=bF:=by omega
    have hne7: ¬bF=w.heap.size:=by omega
    have u1:U32 f1.n/\InB f1.text:=g2 f1.pf (by simp);have o1:f1.ok w5:=M5 f1 (by simp);obtain⟨M,hM⟩:=qX (AQ (AF 96) [9] [f1]);have okM:M.ok w5:=by rw[<-hM];exact ED 9 (EE w5 96) o1 u1.1 u1.2
    have newM:HX w.heap.size M:=by
     rw[<-hM];exact GY _ _ _ (JV _) fun f hf a ha=>Nat.le_trans (Oo.size) ((M5m f (List.mem_cons_of_mem _ hf)).new.1 a ha)
    clear M5m;replace newM:=AB newM;have s0:w5.cell? ⟨w.heap.size+1,0,none⟩=some (.int .i64 96):=K5.cell 0;have hc1: ¬k5=1:=by omega
    have x1:w5.cell? ⟨bF,5,none⟩=some (.int .u32 f1.n):=hcF 5 _ rfl;have s1:w5.cell? ⟨w.heap.size+1,1,none⟩=some (.int .u32 0):=K5.cell 1;have s2:w5.cell? ⟨w.heap.size+1,2,none⟩=some (.int .u32 0):=K5.cell 2;have s3:w5.cell? ⟨w.heap.size+1,3,none⟩=some (.int .u32 0):=K5.cell 3;have s4:w5.cell? ⟨w.heap.size+1,4,none⟩=some (.int .u32 0):=K5.cell 4;have s5:w5.cell? ⟨w.heap.size+1,5,none⟩=some (.int .u32 0):=K5.cell 5;have s6:w5.cell? ⟨w.heap.size+1,6,none⟩=some (.string ⟨#[]⟩):=K5.cell 6;have s7:w5.cell? ⟨w.heap.size+1,7,none⟩=some (.string ⟨#[]⟩):=K5.cell 7;have s8:w5.cell? ⟨w.heap.size+1,8,none⟩=some (.bool false):=K5.cell 8;have s9:w5.cell? ⟨w.heap.size+1,9,none⟩=some (.slice none 0 0):=K5.cell 9;have sf:=K5.frozen 1;obtain⟨w6,hw6⟩:=qY (w5.setCell ⟨w.heap.size+1,1,none⟩ (.int .u32 f1.n));have K6:Blk w6 (w.heap.size+1) 37 M.cells:=by rw[hw6,<-hM];exact K5.set_ 1 (.int .u32 f1.n)
    have Z6:Blk w6 w.heap.size 37 AK.cells:=by rw[hw6];exact Blk.far Z5 (p:=⟨w.heap.size+1,1,none⟩) (by show¬w.heap.size=w.heap.size+1;omega) _
    have X6:Only [w.heap.size+1] w5 w6:=by rw[hw6];exact(Only.refl _ w5).setCell (p:=⟨w.heap.size+1,1,none⟩) (.inl (by simp)) _
    have O6:Only [] w w6:=O5.trans X6 (fun x hx=>.inr (by simp at hx;omega));have okM6:M.ok w6:=okM.onlyN X6 (fun a ha h0=>BM K5 okM.data h0 a ha);have WD:=GG M w6 okM.name okM.lang;obtain⟨bf,hbf⟩:=qX (BW M);rw[hbf] at WD;unfold MD.val at WD;replace WD:Calls Tryz.prog 72 #[.agg #[.int .i64 96,.int .u32 f1.n,.int .u32 0,.int .u32 0,.int .u32 0,.int .u32 0,.string ⟨#[]⟩,.string ⟨#[]⟩,.bool false,.slice none 0 0]] w6 (fun e w'=>e = .returned (.bool bf)/\Only [] w6 w'):=by rw[<-hM] at WD;exact WD
    replace hM:=AB hM;replace hfs:=AB hfs;replace hbf:=AB hbf;go_wp2_with fail
    rw[<-hw6];replace hw6:=AB hw6;go_call WD as e w7 ⟨rfl,P7⟩
    clear s0;have K7:=K6.only P7 (by simp);have Z7:=Z6.only P7 (by simp);have O7:Only [] w w7:=O6.trans P7 (by simp);have okM7:M.ok w7:=okM6.only P7;have hlt7:=Z7.lt;have hlk7:=K7.lt;have hq1: ¬w.heap.size=w.heap.size+1:=by omega
    have hq2: ¬w.heap.size+1=w.heap.size:=by omega
    obtain⟨z0,y0,z1,y1,z2,y2,z3,y3,z4,y4,z5,y5,z6,y6,z7,y7,z8,y8,z9,y9⟩:=qZ Z7;cases bf with
    |false=>
     go_wp2_with fail
     (try simp only[Exit.inBlock,Exit.then])
     refine CV (g:=w.heap.size) (m:=AK) rfl (by rfl) (by rfl) (KW Z7) ?_;refine⟨KX (qL _) O7,AK,4,rfl,EA _,hdec.out _ _ EU ?_⟩;rw[hE.out,if_neg (by simp)];refine⟨_,hfs.out,?_⟩;show if BW (AQ (AF 96) [9] [f1]) then _ else _
     rw[hM.out,hbf.out,if_neg (by simp)];exact⟨rfl,rfl⟩
    |true=>
     obtain⟨a0,a1,a2,a3,a4,a5,a6,a7,a8,a9⟩:=qM K7 M;go_wp2_with fail
     (try simp only[Exit.inBlock,Exit.then])
     refine CV (g:=w.heap.size) (m:=M) rfl (by rfl) (by rfl) (UP M Z7) ?_;refine⟨JL M (.inr (qL _)) O7,M,0,rfl,okM7.onlyN (q:=w.heap.size) (JL M (.inl (by simp)) (zR _ _)) (fun a ha h0=>BM Z7 okM7.data h0 a ha),hdec.out _ _ newM.out ?_⟩;rw[hE.out,if_neg (by simp)];refine⟨_,hfs.out,?_⟩;show if BW (AQ (AF 96) [9] [f1]) then _ else _
     rw[hM.out,hbf.out,if_pos rfl];exact⟨rfl,hM.out.symm⟩
   ·replace hfs:=AB hfs;obtain⟨z0,y0,z1,y1,z2,y2,z3,y3,z4,y4,z5,y5,z6,y6,z7,y7,z8,y8,z9,y9⟩:=qZ Z5;go_wp2_with fail
    (try simp only[Exit.inBlock,Exit.then])
    refine CV (g:=w.heap.size) (m:=AK) rfl (by rfl) (by rfl) (KW Z5) ?_;exact⟨KX (qL _) O5,AK,E,rfl,EA _,hdec.out _ _ EU (by rw[hE.out,if_pos hE0];exact⟨rfl,rfl⟩)⟩
theorem rdec_k97 (A:Option Addr) (t:List Int) (c:Nat) (w:World) (h:Rd w A (97::t)) (hl:InB (97::t)) (hln:(97::t:List Int).length<=140737488355000) (hlc:(97::t:List Int).length<=c) (hlm:c<=maxLen) :
  Calls Tryz.prog 37 #[.slice A (97::t:List Int).length c] w (HZ w (97::t)):=by
 refine lH 97 A t c w h hl hln hlc fun b off l ln w1 w2 hb cx hll hk1 hn hn1 hn0 hn00 hw1 hz1 hw2 O1 P12 O2 Z2 M2 h hl hln hlc FA=>?_;unfold AE at FA;rw[show BX (AF 97).kind=some [9] from rfl] at FA;replace hn:=AB hn;replace hll:=AB hll;replace hk1:=AB hk1;go_enter Tryz.func37,Tryz.ntmps37
 go_wp2_with fail
 rw[<-hw1,<-hw2];replace hw1:=AB hw1;replace hw2:=AB hw2;replace hz1:=AB hz1;go_call FA as e w3 ⟨P3,A0,c0,fs0,rfl,RF0,hfs0,hc0,hm0⟩
 clear FA;have O3:Only [] w w3:=O2.trans P3 (by simp);have Z3:=Z2.only P3 (by simp);have M3:=M2.only P3 (by simp);have hl0:fs0.length=1:=by have:=congrArg List.length hfs0;simpa using this
 have hkk0:fs0.map (·.kind)=[3]:=by
  have:=congrArg (List.map PF.kind) hfs0;rw[List.map_map,List.map_map] at this;exact this
 have V4:=KL w3 1;have X4:Only [] w3 (w3.alloc (.cells #[.int .i64 1] 3)):=(zR _ _).alloc _;rw[hl0] at hc0⊢;replace hl0:=AB hl0;replace hfs0:=AB hfs0;replace hkk0:=AB hkk0;go_wp2_with fail
 go_loopw [32,7] (fun i o wr=>∃(kk:Nat) (v:Value),kk<=1/\i = .int .i64 kk/\v=o/\IW wr w3.heap.size v (1::(fs0.take kk).map (·.kind))/\Only [] w3 wr) (fun i _ _=>1-(intOf i).toNat)
 case atStart=>exact⟨0,_,by omega,rfl,rfl,V4,X4⟩
 case round=>
  obtain⟨wo,rfl⟩: ∃wo:World,wo=wr:=⟨_,rfl⟩;obtain⟨kk,v,hkn,rfl,rfl,V,O⟩:=hrel;have hob:=V.block;have z0:=O.size;by_cases hlt:kk<1
  ·obtain⟨f,hf⟩: ∃f,fs0[kk]? = some f:=⟨_,List.getElem?_eq_getElem (by have:=hl0.out;omega)⟩;obtain⟨bF,oF,rfl,hbF,hcF⟩:=(RF0.only O).cells (by have:=hl0.out;omega);obtain⟨c0',c1,c2,c3⟩:=hcF kk f hf;have hks:(1::(fs0.take (kk+1)).map (·.kind))=(1::(fs0.take kk).map (·.kind))++[f.kind]:=by
    rw[DH hf,List.map_append];rfl
   have hlk:(1::(fs0.take kk).map (·.kind)).length=kk+1:=by rw[List.length_cons,List.length_map,List.length_take];have:=hl0.out;omega
   obtain⟨X5,R5⟩:=lI wo f;have V5:=V.far X5 (fun x hx=>by simp at hx);obtain⟨ks,hksv⟩:=qX ((1::(fs0.take kk).map (·.kind)));rw[hksv] at V5 hlk hks;replace hks:=AB hks;replace hksv:=AB hksv;replace hlk:=AB hlk;replace hf:=AB hf;clear hcF;go_wp2_with (at_builtin;go_must (refine FW rfl (.tmp 36) (.tmp 39) rfl w3.heap.size v ks rfl V5 (some ⟨wo.heap.size+1,0,none⟩) 1 [f.kind] _ rfl rfl R5 (by have:=hlk.out;rw[this];simp;omega) (by simp;omega) ?_;intro v9 w9 V9 P9))
   go_roundw
   case rel=>
    refine⟨kk+1,_,by omega,by go_num,rfl,?_,(O.trans X5 (by simp)).trans P9 (fun x hx=>.inr (hob x (by simpa using hx)).1)⟩;rw[hks.out];exact V9.out
   case measure=>simp[intOf];omega
  ·obtain rfl:kk=1:=by omega
   have V':IW wo w3.heap.size v [1,3]:=by
    have e:(1::(fs0.take 1).map (·.kind))=[1,3]:=by rw[List.take_of_length_le (by have:=hl0.out;omega),hkk0.out]
    rw[<-e];exact V
   obtain⟨kA,kc,rfl,RK,_,_,_⟩:=V'.rd;have Oo:Only [] w wo:=O3.trans O (by simp);have RR:=GF wo kA (some ⟨b,off,none⟩) [1,3] l kc c RK (h.only Oo) hl (by decide) (by have:=hn.out;omega) (by have:=hn.out;omega) hlm;rw[hn.out] at RR;have RR':Calls Tryz.prog 71 #[.slice kA 2 kc,.slice (some ⟨b,off,none⟩) ln c] wo (DU wo (AR [1,3] l)):=RR;obtain⟨E,hE⟩:=qX ((AR [1,3] l).1);have hgood:=DY [1,3] l hl;have hdec: ∀(M:MD) (E':Int),HX w.heap.size M->(if(AR [1,3] l).1≠0 then E'=(AR [1,3] l).1/\M=AK
     else∃fs:List FD,fs.map FD.pf=(AR [1,3] l).2/\if BW (AQ (AF 97) [9] fs.tail) then E'=0/\M=AQ (AF 97) [9] fs.tail else E'=4/\M=AK)->IT l M E'/\HX w.heap.size M:=fun M E' hnw hx=>by
    refine⟨?_,hnw⟩;rw[<-hll.out] at hx⊢;exact hx
   rw[hE] at hgood;replace hE:=AB hE;replace hgood:=AB hgood;replace hdec:=AB hdec;have Zo:=Z3.only O (by simp);have Mo:=M3.only O (by simp);clear V V' RR RK;go_wp2_with fail
   go_call RR' as e w5 ⟨P5,A5,k5,fs,rfl,hfs,V5,M5m⟩
   have M5: ∀f∈fs,FD.ok w5 f:=fun f hf=>(M5m f hf).ok;clear RR';have O5:Only [] w w5:=Oo.trans P5 (by simp);have Z5:=Zo.only P5 (by simp);have K5:=Mo.only P5 (by simp);rw[hE.out];by_cases hE0:E=0
   ·subst hE0;obtain⟨g1,g2⟩:=hgood.out rfl;rw[<-hfs] at g1 g2;have hfl:fs.length=2:=by have:=congrArg List.length g1;simpa using this
    obtain⟨f0,f1,rfl⟩: ∃f0 f1,fs=[f0,f1]:=by
     match fs,hfl with
     |[f0,f1],_=>exact⟨f0,f1,rfl⟩
    obtain⟨A',cap,eA,hcle,hcmx,hF⟩:=V5.form;injection eA with eA1 eA2 eA3;subst eA1;subst eA3;obtain⟨bF,rfl,hbase,hbF,hcF⟩:=hF (by simp);have hcap:2<=k5:=hcle;have hbw:w.heap.size+1<bF:=by have:=Mo.lt;have:=P5.size;have:wo.heap.size<=bF:=hbase;omega
    have hne4: ¬w.heap.size+1=bF:=by omega
    have hne5: ¬bF=w.heap.size+1:=by omega
    have hne6: ¬w.heap.size=bF:=by omega
    have hne7: ¬bF=w.heap.size:=by omega
    have u1:U32 f1.n/\InB f1.text:=g2 f1.pf (by simp);have o1:f1.ok w5:=M5 f1 (by simp);obtain⟨M,hM⟩:=qX (AQ (AF 97) [9] [f1]);have okM:M.ok w5:=by rw[<-hM];exact ED 9 (EE w5 97) o1 u1.1 u1.2
    have newM:HX w.heap.size M:=by
     rw[<-hM];exact GY _ _ _ (JV _) fun f hf a ha=>Nat.le_trans (Oo.size) ((M5m f (List.mem_cons_of_mem _ hf)).new.1 a ha)
    clear M5m;replace newM:=AB newM;have s0:w5.cell? ⟨w.heap.size+1,0,none⟩=some (.int .i64 97):=K5.cell 0;have hc1: ¬k5=1:=by omega
    have x1:w5.cell? ⟨bF,5,none⟩=some (.int .u32 f1.n):=hcF 5 _ rfl;have s1:w5.cell? ⟨w.heap.size+1,1,none⟩=some (.int .u32 0):=K5.cell 1;have s2:w5.cell? ⟨w.heap.size+1,2,none⟩=some (.int .u32 0):=K5.cell 2;have s3:w5.cell? ⟨w.heap.size+1,3,none⟩=some (.int .u32 0):=K5.cell 3;have s4:w5.cell? ⟨w.heap.size+1,4,none⟩=some (.int .u32 0):=K5.cell 4;have s5:w5.cell? ⟨w.heap.size+1,5,none⟩=some (.int .u32 0):=K5.cell 5;have s6:w5.cell? ⟨w.heap.size+1,6,none⟩=some (.string ⟨#[]⟩):=K5.cell 6;have s7:w5.cell? ⟨w.heap.size+1,7,none⟩=some (.string ⟨#[]⟩):=K5.cell 7;have s8:w5.cell? ⟨w.heap.size+1,8,none⟩=some (.bool false):=K5.cell 8;have s9:w5.cell? ⟨w.heap.size+1,9,none⟩=some (.slice none 0 0):=K5.cell 9;have sf:=K5.frozen 1;obtain⟨w6,hw6⟩:=qY (w5.setCell ⟨w.heap.size+1,1,none⟩ (.int .u32 f1.n));have K6:Blk w6 (w.heap.size+1) 37 M.cells:=by rw[hw6,<-hM];exact K5.set_ 1 (.int .u32 f1.n)
    have Z6:Blk w6 w.heap.size 37 AK.cells:=by rw[hw6];exact Blk.far Z5 (p:=⟨w.heap.size+1,1,none⟩) (by show¬w.heap.size=w.heap.size+1;omega) _
    have X6:Only [w.heap.size+1] w5 w6:=by rw[hw6];exact(Only.refl _ w5).setCell (p:=⟨w.heap.size+1,1,none⟩) (.inl (by simp)) _
    have O6:Only [] w w6:=O5.trans X6 (fun x hx=>.inr (by simp at hx;omega));have okM6:M.ok w6:=okM.onlyN X6 (fun a ha h0=>BM K5 okM.data h0 a ha);have WD:=GG M w6 okM.name okM.lang;obtain⟨bf,hbf⟩:=qX (BW M);rw[hbf] at WD;unfold MD.val at WD;replace WD:Calls Tryz.prog 72 #[.agg #[.int .i64 97,.int .u32 f1.n,.int .u32 0,.int .u32 0,.int .u32 0,.int .u32 0,.string ⟨#[]⟩,.string ⟨#[]⟩,.bool false,.slice none 0 0]] w6 (fun e w'=>e = .returned (.bool bf)/\Only [] w6 w'):=by rw[<-hM] at WD;exact WD
    replace hM:=AB hM;replace hfs:=AB hfs;replace hbf:=AB hbf;go_wp2_with fail
    rw[<-hw6];replace hw6:=AB hw6;go_call WD as e w7 ⟨rfl,P7⟩
    clear s0;have K7:=K6.only P7 (by simp);have Z7:=Z6.only P7 (by simp);have O7:Only [] w w7:=O6.trans P7 (by simp);have okM7:M.ok w7:=okM6.only P7;have hlt7:=Z7.lt;have hlk7:=K7.lt;have hq1: ¬w.heap.size=w.heap.size+1:=by omega
    have hq2: ¬w.heap.size+1=w.heap.size:=by omega
    obtain⟨z0,y0,z1,y1,z2,y2,z3,y3,z4,y4,z5,y5,z6,y6,z7,y7,z8,y8,z9,y9⟩:=qZ Z7;cases bf with
    |false=>
     go_wp2_with fail
     (try simp only[Exit.inBlock,Exit.then])
     refine CV (g:=w.heap.size) (m:=AK) rfl (by rfl) (by rfl) (KW Z7) ?_;refine⟨KX (qL _) O7,AK,4,rfl,EA _,hdec.out _ _ EU ?_⟩;rw[hE.out,if_neg (by simp)];refine⟨_,hfs.out,?_⟩;show if BW (AQ (AF 97) [9] [f1]) then _ else _
     rw[hM.out,hbf.out,if_neg (by simp)];exact⟨rfl,rfl⟩
    |true=>
     obtain⟨a0,a1,a2,a3,a4,a5,a6,a7,a8,a9⟩:=qM K7 M;go_wp2_with fail
     (try simp only[Exit.inBlock,Exit.then])
     refine CV (g:=w.heap.size) (m:=M) rfl (by rfl) (by rfl) (UP M Z7) ?_;refine⟨JL M (.inr (qL _)) O7,M,0,rfl,okM7.onlyN (q:=w.heap.size) (JL M (.inl (by simp)) (zR _ _)) (fun a ha h0=>BM Z7 okM7.data h0 a ha),hdec.out _ _ newM.out ?_⟩;rw[hE.out,if_neg (by simp)];refine⟨_,hfs.out,?_⟩;show if BW (AQ (AF 97) [9] [f1]) then _ else _
     rw[hM.out,hbf.out,if_pos rfl];exact⟨rfl,hM.out.symm⟩
   ·replace hfs:=AB hfs;obtain⟨z0,y0,z1,y1,z2,y2,z3,y3,z4,y4,z5,y5,z6,y6,z7,y7,z8,y8,z9,y9⟩:=qZ Z5;go_wp2_with fail
    (try simp only[Exit.inBlock,Exit.then])
    refine CV (g:=w.heap.size) (m:=AK) rfl (by rfl) (by rfl) (KW Z5) ?_;exact⟨KX (qL _) O5,AK,E,rfl,EA _,hdec.out _ _ EU (by rw[hE.out,if_pos hE0];exact⟨rfl,rfl⟩)⟩
end Go.Proofs.YtfbhemmpobgdpaaGreatDoor
