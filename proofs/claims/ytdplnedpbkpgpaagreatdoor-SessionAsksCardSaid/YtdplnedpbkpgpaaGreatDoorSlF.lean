/- SessionAsks: lemmas, from 'Layer 1: the reader: a text' on; what each asks for stands in it. -/
import Derived.Test.YtdplnedpbkpgpaaGreatDoorSlE
import Derived.Laws.BytesArg
import Derived.Lib.SplitLaws
import Derived.Lib.ReplaceLaws
import Derived.Test.YtdplnedpbkpgpaaGreatDoorSlA
set_option linter.all false
set_option maxRecDepth 100000
set_option maxHeartbeats 64000000
namespace Go.Proofs.YtdplnedpbkpgpaaGreatDoor
open Go.RowKit
def GI (l:List Int) (n:Nat):R:=if 32768<n then⟨6,0,[],[],l⟩ else if l.length<n then⟨3,0,[],[],l⟩ else⟨0,0,l.take n,[],l.drop n⟩
def CI (l:List Int):R:=if l.length<4 then EZ l else GI (l.drop 4) (be4 l).toNat
theorem NJ (l:List Int) (hl: ∀x∈l,0≤x∧x<256):0≤be4 l∧be4 l<4294967296:=by
 have h: ∀k,0≤l.getD k 0∧l.getD k 0<256:=by
  intro k;by_cases hk:k<l.length
  ·have:=hl _ (List.getElem_mem hk);simpa[List.getD,List.getElem?_eq_getElem hk] using this
  ·simp[List.getD,List.getElem?_eq_none (Nat.le_of_not_lt hk)]
 have h0:=h 0;have h1:=h 1;have h2:=h 2;have h3:=h 3;unfold be4;omega
theorem RdrV.fault {w:World} {g:Nat} {A:Option Addr} {cap:Nat} {l:List Int} {e:Int} (h:RdrV w g A cap l e) (e':Int):RdrV (w.setCell ⟨g,1,none⟩ (.int .i64 e')) g A cap l e'∧Only [g] w (w.setCell ⟨g,1,none⟩ (.int .i64 e')):=by
 have P:Only [g] w (w.setCell ⟨g,1,none⟩ (.int .i64 e')):=(Only.refl [g] w).setCell (p:=⟨g,1,none⟩) (.inl (by simp)) _;exact⟨⟨h.blk.set_ 1 _,h.rd.onlyP P (fun a ha h0=>Nat.ne_of_lt (h.far a ha h0)),h.le,h.max,h.far⟩,P⟩
theorem NQ {w w':World} {g B:Nat} {e:Int} {text rest:List Int} {A A':Option Addr} {cap c:Nat} (h:Only [g] w w') (hr:RdrV w' g A cap rest e) (hb:Bs w' B A' text c) (hB:w.heap.size≤B):JA w g ⟨e,0,text,[],rest⟩ (.returned (.agg #[.int .i64 0,.int .u32 0,.slice A' text.length c,.slice none 0 0])) w':=
 ⟨h,A',c,none,0,rfl,⟨⟨hb.rd,RdG.nil,hb.le,hb.max,by simp,by simp,by simp⟩,⟨fun a ha=>Nat.le_trans hB (hb.new a ha),fun a ha=>by simp at ha⟩,hb.soft⟩,A,cap,hr⟩
theorem Bs.onlyG {w w':World} {B q:Nat} {A:Option Addr} {l:List Int} {c:Nat} (h:Bs w B A l c) (hb:Only [q] w w') (hq:q<B):Bs w' B A l c:=
 { h with
  rd:=h.rd.onlyG hb (fun a ha=>by have:=h.new a ha;omega)
  soft:=fun a ha i hi=>by
   obtain⟨b,off,e,hlt,_⟩:=h.rd (by omega);have hn:=h.new a ha;rw[ha] at e;injection e with e;refine(World.frozen?_of_block (w:=w) ?_).trans (h.soft a ha i hi);rw[IY];exact hb.block _ (by rw[e];exact hlt) (by simp;omega) }
theorem Bs.only {w w':World} {B:Nat} {A:Option Addr} {l:List Int} {c:Nat} (h:Bs w B A l c) (hb:Only [] w w'):Bs w' B A l c:=
 { h with
  rd:=h.rd.only hb
  soft:=fun a ha i hi=>by
   obtain⟨b,off,e,hlt,_⟩:=h.rd (by omega);rw[ha] at e;injection e with e;refine(World.frozen?_of_block (w:=w) ?_).trans (h.soft a ha i hi);rw[IY];exact hb.block _ (by rw[e];exact hlt) (by simp) }
theorem SQ (w:World) (k n:Int) (a b:Value):(Instr.field 123 (.agg #[.int .i64 k,.int .u32 n,a,b]) 1).run Tryz.prog w = .ok (.int .u32 n) w:=by kernel_rfl
theorem cN (w:World) (g:Nat) (A:Option Addr) (cap:Nat) (l:List Int) (h:RdrV w g A cap l 0) (hl: ∀x∈l,0≤x∧x<256) :
  Calls Tryz.prog 122 #[.pointer (some ⟨g,0,none⟩)] w (JA w g (CI l)):=by
 obtain⟨w1,hw1⟩: ∃w1,w1=w.alloc (.cells #[.int .i64 0,.int .u32 0,.slice none 0 0,.slice none 0 0] 123):=⟨_,rfl⟩;have P1:Only [] w w1:=by rw[hw1];exact(Only.refl _ _).alloc _
 have K:Blk w1 w.heap.size 123 [.int .i64 0,.int .u32 0,.slice none 0 0,.slice none 0 0]:=by rw[hw1];exact Blk.new w _ _
 have h1:=h.only P1;have hgl:=h.blk.lt;have hq1:=K.lt;have T:=UC w1 g A cap l h1 hl;by_cases hs:l.length<4
 ·rw[show DO l=EZ l from if_pos hs] at T;rw[show CI l=EZ l from if_pos hs];clear hs h h1;unfold EZ at T⊢;unfold JA FD.val at T;dsimp only[List.length_nil] at T;go_enter Tryz.func122,Tryz.ntmps122
  go_wp2_with fail
  rw[←hw1];replace hw1:=AB hw1;go_wp2_with fail
  go_call T as e w2 ⟨P2,tA,tc,lA,lc,rfl,my2,A2,cap2,R2⟩
  clear my2;have K2:=K.only P2 (by simp;omega);have hfd:=SQ;have O2:Only [g] w w2:=(P1.mono (by simp)).trans P2 (by simp);have g1:w2.cell? ⟨g,1,none⟩=some (.int .i64 3):=R2.blk.cell 1;have f0:=K2.frozen 0;have f1:=K2.frozen 1;have f2:=K2.frozen 2;have f3:=K2.frozen 3;have c0:w2.cell? ⟨w.heap.size,0,none⟩=some (.int .i64 0):=K2.cell 0;have c1:w2.cell? ⟨w.heap.size,1,none⟩=some (.int .u32 0):=K2.cell 1;have c2:w2.cell? ⟨w.heap.size,2,none⟩=some (.slice none 0 0):=K2.cell 2;have c3:w2.cell? ⟨w.heap.size,3,none⟩=some (.slice none 0 0):=K2.cell 3;go_wp2_with fail
  (try simp only[Exit.inBlock,Exit.then])
  refine BX (v0:=.int .i64 0) (v1:=.int .u32 0) (v2:=.slice none 0 0) (v3:=.slice none 0 0) rfl (by rfl) (by rfl) (W4.blk K2 _ _ _ _) (EP (O2.trans (W4.only w2 _ _ _ _ _) (by simp)) (R2.far4 (W4.only _ _ _ _ _ _) hgl))
 ·obtain⟨k,hk⟩:=Int.eq_ofNat_of_zero_le (NJ l hl).1;have hk2:k<4294967296:=by have:=(NJ l hl).2;omega
  rw[show DO l=⟨0,be4 l,[],[],l.drop 4⟩ from if_neg hs] at T;rw[show CI l=GI (l.drop 4) k from by unfold CI;rw[if_neg hs,hk];rfl];rw[hk] at T;clear hs h h1;obtain⟨m,hm⟩: ∃m,l.drop 4=m:=⟨_,rfl⟩;rw[hm] at T⊢;clear hm;unfold JA FD.val at T;dsimp only[List.length_nil] at T;by_cases hbig:32768<k
  ·rw[show GI m k=⟨6,0,[],[],m⟩ from if_pos hbig];have hb2:(32768:Int)<(k:Int):=by omega
   go_enter Tryz.func122,Tryz.ntmps122
   go_wp2_with fail
   rw[←hw1];replace hw1:=AB hw1;go_wp2_with fail
   go_call T as e w2 ⟨P2,tA,tc,lA,lc,rfl,my2,A2,cap2,R2⟩
   clear my2;have K2:=K.only P2 (by simp;omega);have hfd:=SQ;have O2:Only [g] w w2:=(P1.mono (by simp)).trans P2 (by simp);have g1:w2.cell? ⟨g,1,none⟩=some (.int .i64 0):=R2.blk.cell 1;have gf:=R2.blk.frozen 1;have f0:=K2.frozen 0;have f1:=K2.frozen 1;have f2:=K2.frozen 2;have f3:=K2.frozen 3;have c0:w2.cell? ⟨w.heap.size,0,none⟩=some (.int .i64 0):=K2.cell 0;have c1:w2.cell? ⟨w.heap.size,1,none⟩=some (.int .u32 0):=K2.cell 1;have c2:w2.cell? ⟨w.heap.size,2,none⟩=some (.slice none 0 0):=K2.cell 2;have c3:w2.cell? ⟨w.heap.size,3,none⟩=some (.slice none 0 0):=K2.cell 3;go_wp2_with fail
   (try simp only[Exit.inBlock,Exit.then])
   obtain⟨R3,P3⟩:=R2.fault 6;exact BX (v0:=.int .i64 0) (v1:=.int .u32 0) (v2:=.slice none 0 0) (v3:=.slice none 0 0) rfl (by rfl) (by rfl) (W4.blk (K2.far (p:=⟨g,1,none⟩) (by simp only;omega) _) _ _ _ _) (EP ((O2.trans P3 (by simp)).trans (W4.only _ _ _ _ _ _) (by simp)) (R3.far4 (W4.only _ _ _ _ _ _) hgl))
  ·have hcv:IntKind.i64.wrap (k:Int)=k:=by apply IntWalk.i64_in<;>omega
   have hb2: ¬(32768:Int)<(k:Int):=by omega
   by_cases hsh:m.length<k
   ·rw[show GI m k=⟨3,0,[],[],m⟩ from by unfold GI;rw[if_neg hbig,if_pos hsh]];go_enter Tryz.func122,Tryz.ntmps122
    go_wp2_with fail
    rw[←hw1];replace hw1:=AB hw1;go_wp2_with fail
    go_call T as e w2 ⟨P2,tA,tc,lA,lc,rfl,my2,A2,cap2,R2⟩
    clear my2;have K2:=K.only P2 (by simp;omega);have hfd:=SQ;have O2:Only [g] w w2:=(P1.mono (by simp)).trans P2 (by simp);have g1:w2.cell? ⟨g,1,none⟩=some (.int .i64 0):=R2.blk.cell 1;go_wp2_with fail
    go_call (NV w2 g A2 cap2 m k R2 hsh (by omega)) as e w3 ⟨rfl,R3,P3⟩
    go_wp2_with fail
    go_call (PZ w3 none [] 0 (fun h=>absurd h (by simp)) (by simp)) as e w4 ⟨P4,A4,c4,rfl,B4⟩
    have K4:=(K2.only P3 (by simp;omega)).only P4 (by simp);have f0:=K4.frozen 0;have f1:=K4.frozen 1;have f2:=K4.frozen 2;have f3:=K4.frozen 3;have c0:w4.cell? ⟨w.heap.size,0,none⟩=some (.int .i64 0):=K4.cell 0;have c1:w4.cell? ⟨w.heap.size,1,none⟩=some (.int .u32 0):=K4.cell 1;have c2:w4.cell? ⟨w.heap.size,2,none⟩=some (.slice none 0 0):=K4.cell 2;have c3:w4.cell? ⟨w.heap.size,3,none⟩=some (.slice none 0 0):=K4.cell 3;go_wp2_with fail
    (try simp only[Exit.inBlock,Exit.then])
    have z3:=P2.size;have z4:=P3.size;have Q4:=W4.only w4 w.heap.size (.int .i64 0) (.int .u32 0) (.slice A4 0 c4) (.slice none 0 0);have O4:=((O2.trans P3 (by simp)).trans P4 (by simp)).trans Q4 (by simp);exact BX (v0:=.int .i64 0) (v1:=.int .u32 0) (v2:=.slice A4 0 c4) (v3:=.slice none 0 0) rfl (by rfl) (by rfl) (W4.blk K4 _ _ _ _) (NQ (text:=[]) O4 ((R3.only P4).far4 Q4 hgl) (B4.onlyG Q4 (by omega)) (by omega))
   ·rw[show GI m k=⟨0,0,m.take k,[],m.drop k⟩ from by unfold GI;rw[if_neg hbig,if_neg hsh]];have hkl:(m.take k).length=k:=by simp;omega
    go_enter Tryz.func122,Tryz.ntmps122
    go_wp2_with fail
    rw[←hw1];replace hw1:=AB hw1;go_wp2_with fail
    go_call T as e w2 ⟨P2,tA,tc,lA,lc,rfl,my2,A2,cap2,R2⟩
    clear my2;have K2:=K.only P2 (by simp;omega);have hfd:=SQ;have O2:Only [g] w w2:=(P1.mono (by simp)).trans P2 (by simp);have g1:w2.cell? ⟨g,1,none⟩=some (.int .i64 0):=R2.blk.cell 1;go_wp2_with fail
    go_call (ZP w2 g A2 cap2 m k R2 (by omega)) as e w3 ⟨rfl,P3,D3,A3,cap3,R3⟩
    have C4:=PZ w3 A2 (m.take k) cap2 D3 (by omega);rw[hkl] at C4;go_wp2_with fail
    go_call C4 as e w4 ⟨P4,A4,c4,rfl,B4⟩
    have K4:=(K2.only P3 (by simp;omega)).only P4 (by simp);have f0:=K4.frozen 0;have f1:=K4.frozen 1;have f2:=K4.frozen 2;have f3:=K4.frozen 3;have c0:w4.cell? ⟨w.heap.size,0,none⟩=some (.int .i64 0):=K4.cell 0;have c1:w4.cell? ⟨w.heap.size,1,none⟩=some (.int .u32 0):=K4.cell 1;have c2:w4.cell? ⟨w.heap.size,2,none⟩=some (.slice none 0 0):=K4.cell 2;have c3:w4.cell? ⟨w.heap.size,3,none⟩=some (.slice none 0 0):=K4.cell 3;go_wp2_with fail
    (try simp only[Exit.inBlock,Exit.then])
    have z3:=P2.size;have z4:=P3.size;have Q4:=W4.only w4 w.heap.size (.int .i64 0) (.int .u32 0) (.slice A4 k c4) (.slice none 0 0);have O4:=((O2.trans P3 (by simp)).trans P4 (by simp)).trans Q4 (by simp);have RR:=NQ (text:=m.take k) O4 ((R3.only P4).far4 Q4 hgl) (B4.onlyG Q4 (by omega)) (by omega);rw[hkl] at RR;exact BX (v0:=.int .i64 0) (v1:=.int .u32 0) (v2:=.slice A4 k c4) (v3:=.slice none 0 0) rfl (by rfl) (by rfl) (W4.blk K4 _ _ _ _) RR
end Go.Proofs.YtdplnedpbkpgpaaGreatDoor
namespace Go.Proofs.YtdplnedpbkpgpaaGreatDoor
open Go.RowKit
def RJ (l:List Int):R:=⟨GM l.length 33792 6,0,l,[],[]⟩
theorem rest_any (w:World) (g:Nat) (A:Option Addr) (cap:Nat) (l:List Int) (h:RdrV w g A cap l 0) (hlen:l.length≤140737488355000) :
  Calls Tryz.prog 128 #[.pointer (some ⟨g,0,none⟩)] w (JA w g (RJ l)):=by
 obtain⟨w1,hw1⟩: ∃w1,w1=w.alloc (.cells #[.int .i64 0,.int .u32 0,.slice none 0 0,.slice none 0 0] 123):=⟨_,rfl⟩;have P1:Only [] w w1:=by rw[hw1];exact(Only.refl _ _).alloc _
 have K:Blk w1 w.heap.size 123 [.int .i64 0,.int .u32 0,.slice none 0 0,.slice none 0 0]:=by rw[hw1];exact Blk.new w _ _
 have h1:=h.only P1;have hgl:=h.blk.lt;have hq1:=K.lt;have C:=PZ w1 A l cap h1.rd hlen;have z1:=P1.size;obtain⟨E,hE⟩: ∃E,GM l.length 33792 6=E:=⟨_,rfl⟩;unfold RJ;rw[hE];replace hE:=AB hE;have g0:w.cell? ⟨g,0,none⟩=some (.slice A l.length cap):=h.blk.cell 0;go_enter Tryz.func128,Tryz.ntmps128
 go_wp2_with fail
 rw[←hw1];replace hw1:=AB hw1;go_call C as e w2 ⟨P2,A2,cc,rfl,B2⟩
 have K2:=K.only P2 (by simp);have R2:=h1.only P2;have O2:Only [] w w2:=P1.trans P2 (by simp);obtain⟨w3,hw3⟩: ∃w3,w3=w2.alloc (.cells #[.int .i64 0,.int .u32 0,.slice A2 l.length cc,.slice none 0 0] 123):=⟨_,rfl⟩;have P3:Only [] w2 w3:=by rw[hw3];exact(Only.refl _ _).alloc _
 have K3:=K2.only P3 (by simp);have F3:Blk w3 w2.heap.size 123 [.int .i64 0,.int .u32 0,.slice A2 l.length cc,.slice none 0 0]:=by rw[hw3];exact Blk.new w2 _ _
 have R3:=R2.only P3;have B3:Bs w3 w1.heap.size A2 l cc:=B2.only P3;have z2:=P2.size;have z3:=F3.lt;have Y:=NH (f:=⟨0,0,A2,cc,l,none,0,[]⟩) (w:=w3) ⟨B3.rd,RdG.nil,B3.le,B3.max,by simp,by simp,by simp⟩;unfold FD.val at Y;dsimp only[List.length_nil] at Y;rw[hE.out] at Y;clear hE C g0;go_wp2_with fail
 try rw[←hw3]
 replace hw3:=AB hw3;have d0:w3.cell? ⟨w2.heap.size,0,none⟩=some (.int .i64 0):=F3.cell 0;have d1:w3.cell? ⟨w2.heap.size,1,none⟩=some (.int .u32 0):=F3.cell 1;have d2:w3.cell? ⟨w2.heap.size,2,none⟩=some (.slice A2 l.length cc):=F3.cell 2;have d3:w3.cell? ⟨w2.heap.size,3,none⟩=some (.slice none 0 0):=F3.cell 3;go_wp2_with fail
 go_call Y as e w4 ⟨rfl,P4⟩
 have R4:=R3.only P4;have K4:=K3.only P4 (by simp);have F4:=F3.only P4 (by simp);have B4:Bs w4 w1.heap.size A2 l cc:=B3.only P4;clear d0 d1 d2 d3;have d0:w4.cell? ⟨w2.heap.size,0,none⟩=some (.int .i64 0):=F4.cell 0;have d1:w4.cell? ⟨w2.heap.size,1,none⟩=some (.int .u32 0):=F4.cell 1;have d2:w4.cell? ⟨w2.heap.size,2,none⟩=some (.slice A2 l.length cc):=F4.cell 2;have d3:w4.cell? ⟨w2.heap.size,3,none⟩=some (.slice none 0 0):=F4.cell 3;have g0:w4.cell? ⟨g,0,none⟩=some (.slice A l.length cap):=R4.blk.cell 0;have g1:w4.cell? ⟨g,1,none⟩=some (.int .i64 0):=R4.blk.cell 1;have h0:=R4.blk.frozen 0;have h2:=R4.blk.frozen 1;have hn1: ¬g=w2.heap.size:=by omega
 have hn2: ¬w2.heap.size=g:=by omega
 have hn3: ¬g=w.heap.size:=by omega
 have hn4: ¬w.heap.size=g:=by omega
 have f0:=K4.frozen 0;have f1:=K4.frozen 1;have f2:=K4.frozen 2;have f3:=K4.frozen 3;have c0:w4.cell? ⟨w.heap.size,0,none⟩=some (.int .i64 0):=K4.cell 0;have c1:w4.cell? ⟨w.heap.size,1,none⟩=some (.int .u32 0):=K4.cell 1;have c2:w4.cell? ⟨w.heap.size,2,none⟩=some (.slice none 0 0):=K4.cell 2;have c3:w4.cell? ⟨w.heap.size,3,none⟩=some (.slice none 0 0):=K4.cell 3;go_wp2_with fail
 (try simp only[Exit.inBlock,Exit.then])
 obtain⟨w5,hw5⟩: ∃w5,w5=(w4.setCell ⟨g,1,none⟩ (.int .i64 E)).setCell ⟨g,0,none⟩ (.slice none 0 0):=⟨_,rfl⟩;have P5:Only [g] w4 w5:=by rw[hw5];exact((Only.refl [g] w4).setCell (p:=⟨g,1,none⟩) (.inl (by simp)) _).setCell (p:=⟨g,0,none⟩) (.inl (by simp)) _
 have R5:RdrV w5 g none 0 [] E:=⟨by rw[hw5];exact(R4.blk.set_ 1 _).set_ 0 _,fun h=>absurd h (by simp),by simp,by simp,fun a ha=>by cases ha⟩;have K5:=K4.only P5 (by simp;omega);have Q5:=W4.only w5 w.heap.size (.int .i64 0) (.int .u32 0) (.slice A2 l.length cc) (.slice none 0 0);have O5:Only [g] w w5:=(((O2.trans P3 (by simp)).trans P4 (by simp)).mono (by simp)).trans P5 (by simp);rw[←hw5];exact BX (v0:=.int .i64 0) (v1:=.int .u32 0) (v2:=.slice A2 l.length cc) (v3:=.slice none 0 0) rfl (by rfl) (by rfl) (W4.blk K5 _ _ _ _) (NQ (text:=l) (O5.trans Q5 (by simp)) (R5.far4 Q5 hgl) ((B4.onlyG P5 (by omega)).onlyG Q5 (by omega)) (by omega))
end Go.Proofs.YtdplnedpbkpgpaaGreatDoor
namespace Go.Proofs.YtdplnedpbkpgpaaGreatDoor
open Go.RowKit
def CP (s:ByteArray):List ByteArray:=Lib.splitB ⟨#[44]⟩ 0 (Lib.countB s ⟨#[44]⟩) s
def GV (r:R):R:=if r.e≠0 then⟨r.e,0,[],[],r.rest⟩ else if r.text=[] then⟨0,0,[],[],r.rest⟩ else⟨BT (CP (strOfNums r.text)),0,[],CP (strOfNums r.text),r.rest⟩
def FG (l:List Int):R:=GV (CI l)
theorem UR (l:List Int):(CI l).text.length≤32768∧(CI l).list=[]∧(CI l).n=0:=by
 unfold CI GI EZ;split;·simp
 ·split;·simp
  ·split;·simp
   ·refine⟨?_,rfl,rfl⟩;simp;omega
theorem RV (sep:ByteArray): ∀(k:Nat) (s:ByteArray),∀p∈Lib.splitB sep 0 k s,p.size≤s.size
 |0,s=>by intro p hp;simp[Lib.splitB] at hp;subst hp;exact Nat.le_refl _
 |k+1,s=>by
  intro p hp;unfold Lib.splitB at hp;split at hp;·simp at hp;subst hp;exact Nat.le_refl _
  ·simp only[List.mem_cons] at hp;rcases hp with rfl|hp;·simp;omega
   ·have:=RV sep k _ p hp;simp at this;omega
theorem XD (s:ByteArray):(CP s).length=Lib.countB s ⟨#[44]⟩+1∧(CP s).length≤s.size+1∧∀p∈CP s,p.size≤s.size:=by
 have h1:=Lib.splitB_all ⟨#[44]⟩ (by decide) 0 _ s rfl;have h2:=Lib.countB_mul_le ⟨#[44]⟩ (by decide) _ s (Nat.le_refl _);have h3:(⟨#[44]⟩:ByteArray).size=1:=rfl;rw[h3,Nat.mul_one] at h2;refine⟨h1,by unfold CP;omega,RV _ _ _⟩
theorem split_any (s:ByteArray) (m:Int) (w:World) (hs:s.size≤32768) (hm:w.cell? ⟨0,0,none⟩=some (.int .i64 m)) :
  Calls Tryz.prog 148 #[.string s,.string ⟨#[44]⟩] w fun e w'=>e = .returned (.slice (some ⟨w.heap.size,0,none⟩) (CP s).length (CP s).length)∧Only [] w w'∧RdS w' (some ⟨w.heap.size,0,none⟩) (CP s):=by
 refine(Tryz.strings_Split s ⟨#[44]⟩ m w (by omega) hm (by decide)).mono fun e w' ⟨he,hw⟩=>⟨?_,?_,?_⟩;·rw[he,(XD s).1]
 ·rw[hw];exact(Only.refl _ _).alloc _
 ·intro _;refine⟨w.heap.size,0,rfl,by rw[hw];simp,fun i x hx=>?_⟩;rw[hw];have:=(Blk.new w 9 ((CP s).map Value.string)).cell (0+i);rw[Nat.zero_add] at this⊢;refine Eq.trans this ?_;simp[hx]
theorem names_any (w:World) (g:Nat) (A:Option Addr) (cap:Nat) (l:List Int) (m:Int) (hm:w.cell? ⟨0,0,none⟩=some (.int .i64 m)) (h:RdrV w g A cap l 0) (hl: ∀x∈l,0≤x∧x<256) :
  Calls Tryz.prog 125 #[.pointer (some ⟨g,0,none⟩)] w (JA w g (FG l)):=by
 obtain⟨w1,hw1⟩: ∃w1,w1=w.alloc (.cells #[.int .i64 0,.int .u32 0,.slice none 0 0,.slice none 0 0] 123):=⟨_,rfl⟩;have P1:Only [] w w1:=by rw[hw1];exact(Only.refl _ _).alloc _
 have K:Blk w1 w.heap.size 123 [.int .i64 0,.int .u32 0,.slice none 0 0,.slice none 0 0]:=by rw[hw1];exact Blk.new w _ _
 have h1:=h.only P1;have hgl:=h.blk.lt;have hq1:=K.lt;have T:=cN w1 g A cap l h1 hl;obtain⟨htx,hli,hn⟩:=UR l;unfold FG;obtain⟨r,hr⟩: ∃r,CI l=r:=⟨_,rfl⟩;rw[hr] at T htx hli hn⊢;clear hr;obtain⟨E,n,tx,ls,rest⟩:=r;dsimp only at htx hli hn;subst hli;subst hn;by_cases hE:E=0
 ·by_cases htx0:tx=[]
  ·subst hE;subst htx0;rw[show GV ⟨0,0,[],[],rest⟩=⟨0,0,[],[],rest⟩ from rfl];have hE2:((0:Int)!=0)=false:=rfl;obtain⟨E,hEE⟩: ∃E:Int,E=0:=⟨_,rfl⟩;unfold JA FD.val at T;dsimp only[List.length_nil] at T;subst hEE;go_enter Tryz.func125,Tryz.ntmps125
   go_wp2_with fail
   rw[←hw1];replace hw1:=AB hw1;go_wp2_with fail
   go_call T as e w2 ⟨P2,tA,tc,lA,lc,rfl,my2,A2,cap2,R2⟩
   have K2:=K.only P2 (by simp;omega);have O2:Only [g] w w2:=(P1.mono (by simp)).trans P2 (by simp);obtain⟨w3,hw3⟩: ∃w3,w3=w2.alloc (.cells #[.int .i64 0,.int .u32 0,.slice tA 0 tc,.slice lA 0 lc] 123):=⟨_,rfl⟩;have P3:Only [] w2 w3:=by rw[hw3];exact(Only.refl _ _).alloc _
   have K3:=K2.only P3 (by simp);have F3:Blk w3 w2.heap.size 123 [.int .i64 0,.int .u32 0,.slice tA 0 tc,.slice lA 0 lc]:=by rw[hw3];exact Blk.new w2 _ _
   have R3:=R2.only P3;have z1:=P1.size;have z2:=P2.size;have z3:=F3.lt;have O3:Only [g] w w3:=O2.trans P3 (by simp);have g1:w2.cell? ⟨g,1,none⟩=some (.int .i64 0):=R2.blk.cell 1;have hg2:g<w2.heap.size:=by omega
   have hq2:w.heap.size<w2.heap.size:=by omega
   have hn1: ¬g=w2.heap.size:=by omega
   have hn2: ¬w2.heap.size=g:=by omega
   have hn3: ¬g=w.heap.size:=by omega
   have hn4: ¬w.heap.size=g:=by omega
   have hn5: ¬w2.heap.size=w.heap.size:=by omega
   have hn6: ¬w.heap.size=w2.heap.size:=by omega
   have f0:=K2.frozen 0;have f1:=K2.frozen 1;have f2:=K2.frozen 2;have f3:=K2.frozen 3;have c0:w2.cell? ⟨w.heap.size,0,none⟩=some (.int .i64 0):=K2.cell 0;have c1:w2.cell? ⟨w.heap.size,1,none⟩=some (.int .u32 0):=K2.cell 1;have c2:w2.cell? ⟨w.heap.size,2,none⟩=some (.slice none 0 0):=K2.cell 2;have c3:w2.cell? ⟨w.heap.size,3,none⟩=some (.slice none 0 0):=K2.cell 3;go_wp2_with fail
   (try simp only[Exit.inBlock,Exit.then])
   have Q4:=W4.only w2 w.heap.size (.int .i64 0) (.int .u32 0) (.slice none 0 0) (.slice none 0 0);exact BX (v0:=.int .i64 0) (v1:=.int .u32 0) (v2:=.slice none 0 0) (v3:=.slice none 0 0) rfl (by rfl) (by rfl) ((W4.blk K2 _ _ _ _).alloc _) (EP ((O2.trans Q4 (by simp)).alloc _) ((R2.far4 Q4 hgl).only ((Only.refl _ _).alloc _)))
  ·subst hE;rw[show GV ⟨0,0,tx,[],rest⟩=⟨BT (CP (strOfNums tx)),0,[],CP (strOfNums tx),rest⟩ from by unfold GV;rw[if_neg (by simp),if_neg htx0]];have hE2:((0:Int)!=0)=false:=rfl;obtain⟨k,hkk⟩: ∃k,tx.length=k:=⟨_,rfl⟩;have hk0: ¬k=0:=by rw[←hkk];simpa using htx0
   have hk1:((k:Int)==0)=false:=beq_eq_false_iff_ne.2 (by omega);obtain⟨s,hs⟩: ∃s,strOfNums tx=s:=⟨_,rfl⟩;have hsz:s.size≤32768:=by rw[←hs,strOfNums_size];exact htx
   obtain⟨q1,q2,q3⟩:=XD s;unfold JA FD.val at T;dsimp only[List.length_nil] at T;rw[hkk] at T;obtain⟨ps,hps⟩: ∃ps,CP s=ps:=⟨_,rfl⟩;obtain⟨N,hN⟩: ∃N,ps.length=N:=⟨_,rfl⟩;obtain⟨E,hEn⟩: ∃E,BT ps=E:=⟨_,rfl⟩;rw[hs,hps,hEn];rw[hps] at q1 q2 q3;have hg0:g≠0:=by
    rintro rfl;have:=h.blk.cell 0;rw[hm] at this;simp at this
   replace hs:=AB hs;replace hps:=AB hps;replace hN:=AB hN;replace hEn:=AB hEn;replace hkk:=AB hkk;go_enter Tryz.func125,Tryz.ntmps125
   go_wp2_with fail
   rw[←hw1];replace hw1:=AB hw1;go_wp2_with fail
   go_call T as e w2 ⟨P2,tA,tc,lA,lc,rfl,my2,A2,cap2,R2⟩
   have K2:=K.only P2 (by simp;omega);have O2:Only [g] w w2:=(P1.mono (by simp)).trans P2 (by simp);obtain⟨w3,hw3⟩: ∃w3,w3=w2.alloc (.cells #[.int .i64 0,.int .u32 0,.slice tA k tc,.slice lA 0 lc] 123):=⟨_,rfl⟩;have P3:Only [] w2 w3:=by rw[hw3];exact(Only.refl _ _).alloc _
   have K3:=K2.only P3 (by simp);have F3:Blk w3 w2.heap.size 123 [.int .i64 0,.int .u32 0,.slice tA k tc,.slice lA 0 lc]:=by rw[hw3];exact Blk.new w2 _ _
   have R3:=R2.only P3;have z1:=P1.size;have z2:=P2.size;have z3:=F3.lt;have O3:Only [g] w w3:=O2.trans P3 (by simp);have g1:w2.cell? ⟨g,1,none⟩=some (.int .i64 0):=R2.blk.cell 1;have hg2:g<w2.heap.size:=by omega
   have hq2:w.heap.size<w2.heap.size:=by omega
   have hn1: ¬g=w2.heap.size:=by omega
   have hn2: ¬w2.heap.size=g:=by omega
   have hn3: ¬g=w.heap.size:=by omega
   have hn4: ¬w.heap.size=g:=by omega
   have hn5: ¬w2.heap.size=w.heap.size:=by omega
   have hn6: ¬w.heap.size=w2.heap.size:=by omega
   have f0:=K2.frozen 0;have f1:=K2.frozen 1;have f2:=K2.frozen 2;have f3:=K2.frozen 3;have c0:w2.cell? ⟨w.heap.size,0,none⟩=some (.int .i64 0):=K2.cell 0;have c1:w2.cell? ⟨w.heap.size,1,none⟩=some (.int .u32 0):=K2.cell 1;have c2:w2.cell? ⟨w.heap.size,2,none⟩=some (.slice none 0 0):=K2.cell 2;have c3:w2.cell? ⟨w.heap.size,3,none⟩=some (.slice none 0 0):=K2.cell 3;have tk:0<tx.length:=by rw[hkk.out];omega
   obtain⟨b,off,rfl,hb,hcb⟩:=(my2.ok.only P3).text tk;have hm1:w3.cell? ⟨0,0,none⟩=some (.int .i64 m):=AS O3 (by omega) (by simpa using Ne.symm hg0) hm;have kc:(convert 32 9 (.slice (some ⟨b,off,none⟩) k tc)).run Tryz.prog w3 = .ok (.string s) w3:=by
    rw[←hs.out];exact run_convert_bytes_arg (P:=Tryz.prog) w3 32 5 (by kernel_rfl) (by kernel_rfl) b off k tc tx hkk.out (fun i hi=>by
     have hx:tx[i]? = some (tx[i]'(by rw[hkk.out];omega)):=List.getElem?_eq_getElem _;have:=hcb i _ hx;rw[this];simp[List.getD,hx]) 9 (by kernel_rfl)
   rw[hw3] at kc;go_wp2_with fail
   rw[←hw3];rw[←hw3] at kc;replace hw3:=AB hw3;have SP:=split_any s m w3 hsz hm1;rw[hps.out,hN.out] at SP;go_call SP as e w4 ⟨rfl,P4,S4⟩
   have F4:=F3.only P4 (by simp);have K4:=K3.only P4 (by simp);have R4:=R3.only P4;clear c0 c1 c2 c3 f0 f1 f2 f3 g1;have d0:w4.cell? ⟨w2.heap.size,0,none⟩=some (.int .i64 0):=F4.cell 0;have d1:w4.cell? ⟨w2.heap.size,1,none⟩=some (.int .u32 0):=F4.cell 1;have d2:w4.cell? ⟨w2.heap.size,2,none⟩=some (.slice (some ⟨b,off,none⟩) k tc):=F4.cell 2;have d3:w4.cell? ⟨w2.heap.size,3,none⟩=some (.slice lA 0 lc):=F4.cell 3;have e0:=F4.frozen 0;have e1:=F4.frozen 1;have e2:=F4.frozen 2;have e3:=F4.frozen 3;obtain⟨w5,hw5⟩: ∃w5,w5=W4 w4 w2.heap.size (.int .i64 0) (.int .u32 0) (.slice none 0 0) (.slice (some ⟨w3.heap.size,0,none⟩) N N):=⟨_,rfl⟩;have P5:Only [w2.heap.size] w4 w5:=by rw[hw5];exact W4.only _ _ _ _ _ _
   have F5:Blk w5 w2.heap.size 123 [.int .i64 0,.int .u32 0,.slice none 0 0,.slice (some ⟨w3.heap.size,0,none⟩) N N]:=by rw[hw5];exact W4.blk F4 _ _ _ _
   have K5:=K4.only P5 (by simp;omega);have R5:=R4.far4 P5 hg2;have S5:RdS w5 (some ⟨w3.heap.size,0,none⟩) ps:=S4.onlyL P5 (fun a ha _=>by injection ha with ha;subst ha;simp;omega);have ok5:FD.ok w5 ⟨0,0,none,0,[],some ⟨w3.heap.size,0,none⟩,N,ps⟩:=⟨RdG.nil,S5,by simp,by simp,by rw[hN.out];exact Nat.le_refl _,by have:=hN.out;simp only;unfold maxLen;omega,fun p hp=>by have:=q3 p hp;unfold maxLen;omega⟩;have new5:FD.new ⟨0,0,none,0,[],some ⟨w3.heap.size,0,none⟩,N,ps⟩ w3.heap.size:=⟨fun a ha=>by simp at ha,fun a ha=>by injection ha with ha;subst ha;exact Nat.le_refl _⟩;have my5:FD.mine w5 ⟨0,0,none,0,[],some ⟨w3.heap.size,0,none⟩,N,ps⟩ w3.heap.size:=⟨ok5,new5,fun a ha=>by simp at ha⟩;have Y:=MA ⟨0,0,none,0,[],some ⟨w3.heap.size,0,none⟩,N,ps⟩ w5 ok5;unfold FD.val at Y;dsimp only[List.length_nil] at Y;rw[hEn.out,hN.out] at Y;have z4:=P4.size;have z5:=P5.size;unfold W4 at hw5;go_wp2_with fail
   rw[←hw5];replace hw5:=AB hw5;go_call Y as e w6 ⟨rfl,P6⟩
   have F6:=F5.only P6 (by simp);have K6:=K5.only P6 (by simp);have R6:=R5.only P6;have O6:Only [g] w w6:=((O3.trans P4 (by simp)).trans P5 (by simp;omega)).trans P6 (by simp);clear d0 d1 d2 d3 e0 e1 e2 e3;have g1:w6.cell? ⟨g,1,none⟩=some (.int .i64 0):=R6.blk.cell 1;have gf1:=R6.blk.frozen 1;have d0:w6.cell? ⟨w2.heap.size,0,none⟩=some (.int .i64 0):=F6.cell 0;have d1:w6.cell? ⟨w2.heap.size,1,none⟩=some (.int .u32 0):=F6.cell 1;have d2:w6.cell? ⟨w2.heap.size,2,none⟩=some (.slice none 0 0):=F6.cell 2;have d3:w6.cell? ⟨w2.heap.size,3,none⟩=some (.slice (some ⟨w3.heap.size,0,none⟩) N N):=F6.cell 3;have f0:=K6.frozen 0;have f1:=K6.frozen 1;have f2:=K6.frozen 2;have f3:=K6.frozen 3;have c0:w6.cell? ⟨w.heap.size,0,none⟩=some (.int .i64 0):=K6.cell 0;have c1:w6.cell? ⟨w.heap.size,1,none⟩=some (.int .u32 0):=K6.cell 1;have c2:w6.cell? ⟨w.heap.size,2,none⟩=some (.slice none 0 0):=K6.cell 2;have c3:w6.cell? ⟨w.heap.size,3,none⟩=some (.slice none 0 0):=K6.cell 3;go_wp2_with fail
   (try simp only[Exit.inBlock,Exit.then])
   obtain⟨R7,P7⟩:=R6.fault E;have K7:=K6.far (p:=⟨g,1,none⟩) (by simp only;omega) (.int .i64 E);have Q8:=W4.only (w6.setCell ⟨g,1,none⟩ (.int .i64 E)) w.heap.size (.int .i64 0) (.int .u32 0) (.slice none 0 0) (.slice (some ⟨w3.heap.size,0,none⟩) N N);have RR:JA w g ⟨E,0,[],ps,rest⟩ (.returned (.agg #[.int .i64 0,.int .u32 0,.slice none 0 0,.slice (some ⟨w3.heap.size,0,none⟩) N N])) (W4 (w6.setCell ⟨g,1,none⟩ (.int .i64 E)) w.heap.size (.int .i64 0) (.int .u32 0) (.slice none 0 0) (.slice (some ⟨w3.heap.size,0,none⟩) N N)):=
    ⟨(O6.trans P7 (by simp)).trans Q8 (by simp),none,0,some ⟨w3.heap.size,0,none⟩,N,by unfold FD.val;rw[hN.out];rfl,(((my5.only P6).onlyL P7 (by omega)).onlyL Q8 (by omega)).mono (by omega),A2,cap2,R7.far4 Q8 hgl⟩
   exact BX (v0:=.int .i64 0) (v1:=.int .u32 0) (v2:=.slice none 0 0) (v3:=.slice (some ⟨w3.heap.size,0,none⟩) N N) rfl (by rfl) (by rfl) (W4.blk K7 _ _ _ _) RR
 ·rw[show GV ⟨E,0,tx,[],rest⟩=⟨E,0,[],[],rest⟩ from if_pos hE];have hE2:(E !=0)=true:=by simpa using hE
  obtain⟨k,hkk⟩: ∃k,tx.length=k:=⟨_,rfl⟩;unfold JA FD.val at T;dsimp only[List.length_nil] at T;rw[hkk] at T;clear hkk;go_enter Tryz.func125,Tryz.ntmps125
  go_wp2_with fail
  rw[←hw1];replace hw1:=AB hw1;go_wp2_with fail
  go_call T as e w2 ⟨P2,tA,tc,lA,lc,rfl,my2,A2,cap2,R2⟩
  have K2:=K.only P2 (by simp;omega);have O2:Only [g] w w2:=(P1.mono (by simp)).trans P2 (by simp);obtain⟨w3,hw3⟩: ∃w3,w3=w2.alloc (.cells #[.int .i64 0,.int .u32 0,.slice tA k tc,.slice lA 0 lc] 123):=⟨_,rfl⟩;have P3:Only [] w2 w3:=by rw[hw3];exact(Only.refl _ _).alloc _
  have K3:=K2.only P3 (by simp);have F3:Blk w3 w2.heap.size 123 [.int .i64 0,.int .u32 0,.slice tA k tc,.slice lA 0 lc]:=by rw[hw3];exact Blk.new w2 _ _
  have R3:=R2.only P3;have z1:=P1.size;have z2:=P2.size;have z3:=F3.lt;have O3:Only [g] w w3:=O2.trans P3 (by simp);have g1:w2.cell? ⟨g,1,none⟩=some (.int .i64 E):=R2.blk.cell 1;have hg2:g<w2.heap.size:=by omega
  have hq2:w.heap.size<w2.heap.size:=by omega
  have hn1: ¬g=w2.heap.size:=by omega
  have hn2: ¬w2.heap.size=g:=by omega
  have hn3: ¬g=w.heap.size:=by omega
  have hn4: ¬w.heap.size=g:=by omega
  have hn5: ¬w2.heap.size=w.heap.size:=by omega
  have hn6: ¬w.heap.size=w2.heap.size:=by omega
  have f0:=K2.frozen 0;have f1:=K2.frozen 1;have f2:=K2.frozen 2;have f3:=K2.frozen 3;have c0:w2.cell? ⟨w.heap.size,0,none⟩=some (.int .i64 0):=K2.cell 0;have c1:w2.cell? ⟨w.heap.size,1,none⟩=some (.int .u32 0):=K2.cell 1;have c2:w2.cell? ⟨w.heap.size,2,none⟩=some (.slice none 0 0):=K2.cell 2;have c3:w2.cell? ⟨w.heap.size,3,none⟩=some (.slice none 0 0):=K2.cell 3;go_wp2_with fail
  (try simp only[Exit.inBlock,Exit.then])
  have Q4:=W4.only w2 w.heap.size (.int .i64 0) (.int .u32 0) (.slice none 0 0) (.slice none 0 0);exact BX (v0:=.int .i64 0) (v1:=.int .u32 0) (v2:=.slice none 0 0) (v3:=.slice none 0 0) rfl (by rfl) (by rfl) ((W4.blk K2 _ _ _ _).alloc _) (EP ((O2.trans Q4 (by simp)).alloc _) ((R2.far4 Q4 hgl).only ((Only.refl _ _).alloc _)))
end Go.Proofs.YtdplnedpbkpgpaaGreatDoor
namespace Go.Proofs.YtdplnedpbkpgpaaGreatDoor
open Go.RowKit
def tab:Array Value:=#[.nilFunc,.nilFunc,.nilFunc,
 .func (Fn.func 112) #[] #[],.func (Fn.func 113) #[] #[],.func (Fn.func 114) #[] #[],
 .func (Fn.func 115) #[] #[],.func (Fn.func 113) #[] #[],.func (Fn.func 116) #[] #[],
 .func (Fn.func 117) #[] #[],.func (Fn.func 118) #[] #[],.func (Fn.func 119) #[] #[],
 .func (Fn.func 120) #[] #[],.func (Fn.func 121) #[] #[],.func (Fn.func 122) #[] #[],
 .func (Fn.func 123) #[] #[],.func (Fn.func 124) #[] #[],.func (Fn.func 125) #[] #[],
 .func (Fn.func 126) #[] #[],.func (Fn.func 127) #[] #[],.func (Fn.func 128) #[] #[]]
theorem XR (w:World) :
  Calls Tryz.prog 68 #[] w (fun e w'=>e = .returned (.agg tab)∧Only [] w w'):=by
 have hz:=heap_alloc_new w (.cells (Array.replicate 21 Value.nilFunc) 158);go_enter Tryz.func68,Tryz.ntmps68
 go_wp2_with (refine wpList_store_row rfl 158 (.tmp 0) (.tmp 7) rfl w.heap.size tab rfl rfl 158 (Array.replicate 21 Value.nilFunc) hz (by kernel_rfl) (by kernel_rfl) (by kernel_rfl) ?_)
 (try simp only[Exit.inBlock,Exit.then])
 have hb:Blk ((w.alloc (.cells (Array.replicate 21 Value.nilFunc) 158)).setRow w.heap.size tab) w.heap.size 158 tab.toList:=by
  have:=LA (Blk.new w 158 (List.replicate 21 Value.nilFunc)) tab.toList;exact this
 refine bodyPost_ret (results_cell_row rfl _ _ w.heap.size 158 tab (0,0) _ (by rfl) hb Tryz.underlying158 rfl (by kernel_rfl)) (by rfl) ⟨rfl,?_⟩;exact((Only.refl [] w).alloc _).trans (IF _ _ _) (by simp)
theorem TI:(Tryz.prog.info? 123).map (fun i=>(i.zero,i.size,i.bytes))=some (some (.agg #[.int .i64 0,.int .u32 0,.slice none 0 0,.slice none 0 0]),4,64):=by kernel_rfl
def BR (fs:List FD):List Value:=fs.flatMap FD.cells
theorem HU (fs:List FD):(BR fs).length=fs.length*4:=by
 unfold BR;induction fs with
 |nil=>rfl
 |cons a r ih=>rw[List.flatMap_cons,List.length_append,ih,List.length_cons];simp[FD.cells];omega
def EJ (w:World) (base:Nat) (v:Value) (fs:List FD):Prop:=w.ownsRow base 123 4 v fs.length (BR fs)
theorem KK (w:World) (base:Nat):EJ w base (.slice none 0 0) []:=World.ownsRow_nil w base _ _
theorem EJ.far {w w':World} {base:Nat} {v:Value} {fs:List FD} {L:List Nat} (h:EJ w base v fs) (hb:Only L w w') (hL: ∀x∈L,some x≠v.ownBlock):EJ w' base v fs:=by
 refine⟨h.1,?_⟩;rcases h.2 with h|⟨g,cap,cur,e,hg,hh,r⟩;·exact .inl h
 ·exact .inr ⟨g,cap,cur,e,hg,(hb.block g (Array.getElem?_eq_some_iff.1 hh).1 (fun hm=>hL g hm (by rw[e];rfl))).trans hh,r⟩
theorem EJ.block {w:World} {base:Nat} {v:Value} {fs:List FD} (h:EJ w base v fs): ∀k,v.ownBlock=some k→base≤k∧k<w.heap.size:=World.ownsRow.lt h
theorem EJ.form {w:World} {base:Nat} {v:Value} {fs:List FD} (h:EJ w base v fs): ∃A cap,v = .slice A fs.length cap∧fs.length≤cap∧cap≤maxLen∧
  (0<fs.length→∃b,A=some ⟨b,0,none⟩∧base≤b∧b<w.heap.size∧∀j u,(BR fs)[j]? = some u→w.cell? ⟨b,j,none⟩=some u):=by
 rcases h.2 with⟨e,hn⟩|⟨g,cap,cur,e,hg,hh,hc,hm,hs,ht⟩;·exact⟨none,0,by rw[e,hn],by omega,by simp[maxLen],fun h0=>by omega⟩
 ·refine⟨some ⟨g,0,none⟩,cap,e,hc,hm,fun _=>⟨g,rfl,hg,(Array.getElem?_eq_some_iff.1 hh).1,fun j u hj=>?_⟩⟩;subst e;have:=World.ownsRow.cells h (g:=g) rfl j u hj;simpa[Addr.add_lit] using this
theorem run_appF {w:World} (ty:TypeId) (base:Nat) (v:Value) (fs:List FD) (hown:EJ w base v fs) (q:Nat) (f:FD) (hr:Blk w q 123 f.cells)
  (hlen:fs.length<1000000) (hbase:base≤w.heap.size) :
  ∃A' cap w',(Builtin.append_ #[120,120] ty #[v,.slice (some ⟨q,0,none⟩) 1 1]).run Tryz.prog w = .ok (.slice A' (fs.length+1) cap) w'∧EJ w' base (.slice A' (fs.length+1) cap) (fs++[f])∧Only v.ownBlock.toList w w'∧
   KX v (.slice A' (fs.length+1) cap) w.heap.size:=by
 obtain⟨i0,hi,hz0,hz1,hz2⟩:=info_parts TI;have hu:=Tryz.underlying120;have hn: ∀j u,f.cells[j]? = some u→w.cell? ((⟨q,0,none⟩:Addr).add j)=some u:=by
  intro j u hj;rw[Addr.add_lit,Nat.zero_add,hr.cell j];exact hj
 have h1c: ∀u∈f.cells,u.oneCell'=true:=by intro u hu;simp[FD.cells] at hu;rcases hu with rfl|rfl|rfl|rfl<;>rfl
 have hfl:f.cells.length=1*4:=rfl;obtain⟨v',w',e,h1,h2,h3⟩:=run_append_own (P:=Tryz.prog) w base 120 ty 123 i0 _ 4 64 hu hi hz0 hz1 hz2 rfl (by decide) v fs.length (BR fs) hown ⟨q,0,none⟩ 1 1 f.cells hfl hn h1c (by simp only[maxLen];omega) (by omega) hbase;have hh:EJ w' base v' (fs++[f]):=by
  show World.ownsRow _ _ _ _ _ _ _;simpa[BR,List.flatMap_append] using h1
 have hwh:v'.ownBlock=v.ownBlock∨v'.ownBlock=some w.heap.size:=by
  rcases hown.2 with⟨rfl,hn0⟩|⟨g,cap,cur,rfl,hg,hh,hc,hm,hs,ht⟩
  ·have:=run_append_nil (P:=Tryz.prog) w 120 ty 123 i0 _ hu hi hz0 ⟨q,0,none⟩ 1 1 f.cells (by rw[hz1];rfl) hn (by decide) (by omega) (by rw[hz2];omega);rw[this] at e;injection e with e1 e2;right;rw[←e1];rfl
  ·by_cases hroom:fs.length+1≤cap
   ·obtain⟨w2,e2,_⟩:=run_append_fits (P:=Tryz.prog) w base 120 ty 123 i0 4 hu hi hz1 g fs.length cap (BR fs) hown ⟨q,0,none⟩ 1 1 f.cells hfl hn h1c hroom;rw[e2] at e;injection e with e1 _;left;rw[←e1];rfl
   ·have holds: ∀j u,(BR fs)[j]? = some u→w.cell? ((⟨g,0,none⟩:Addr).add j)=some u:=World.ownsRow.cells hown (g:=g) rfl;have:=run_append_grow (P:=Tryz.prog) w 120 ty 123 i0 _ hu hi hz0 ⟨g,0,none⟩ fs.length cap (BR fs) (by rw[hz1];exact HU fs) holds ⟨q,0,none⟩ 1 1 f.cells (by rw[hz1];rfl) hn (by omega) (by omega) (growslice_fits (by omega) (by rw[hz2];omega));rw[this] at e;injection e with e1 _;right;rw[←e1];rfl
 obtain⟨A',cap,rfl,_⟩:=hh.form;rw[List.length_append] at *;exact⟨A',cap,w',e,hh,FY h2,hwh⟩
theorem SG {w:World} {ops:Array Oper} {rest:List Oper} {o:Oper} {a:Act} {Q:Exit→Act→World→Prop} (hgd:o.guard=none) (s x:Operand)
  (ho:o.op = .call { callee:=.builtin .append,args:=#[s,x],argTypes:=#[120,120] })
  (base:Nat) (v:Value) (fs:List FD) (hs:a.eval s=v) (hown:EJ w base v fs) (q:Nat) (f:FD) (hx:a.eval x = .slice (some ⟨q,0,none⟩) 1 1) (hr:Blk w q 123 f.cells)
  (hlen:fs.length<1000000) (hbase:base≤w.heap.size)
  (h: ∀A' cap w',Hid (EJ w' base (.slice A' (fs.length+1) cap) (fs++[f]))→Only v.ownBlock.toList w w'→Hid (KX v (.slice A' (fs.length+1) cap) w.heap.size)→wpList Tryz.prog ops Q rest (a.put o.dst (.slice A' (fs.length+1) cap)) w'):wpList Tryz.prog ops Q (o::rest) a w:=by
 refine wpList_plain hgd fun K hK=>?_;obtain⟨A',cap,w',hrun,h1,h2,h3⟩:=run_appF o.type base v fs hown q f hr hlen hbase;unfold Oper.wp execOp;simp only[ho,resolve,invoke,builtin,Sem.run_bind,Sem.run_pure,Result.andThen_ok,List.map_toArray,List.map_cons,List.map_nil,hs,hx,hrun];exact hK _ _ (h A' cap w' h1 h2 h3)
def BJ (k:Nat) (l:List Int):R:=if k=1 then DT l else if k=2 then RH l else if k=3 then DO l else if k=4 then CI l else if k=5 then FG l else RJ l
theorem RI (l:List Int): ∃n,(DT l).rest=l.drop n:=by
 unfold DT EZ;split;·exact⟨0,by simp⟩
 ·exact⟨1,rfl⟩
theorem YT (l:List Int): ∃n,(DO l).rest=l.drop n:=by
 unfold DO EZ;split;·exact⟨0,by simp⟩
 ·exact⟨4,rfl⟩
theorem UQ (l:List Int): ∃n,(CI l).rest=l.drop n:=by
 unfold CI GI EZ;split;·exact⟨0,by simp⟩
 ·split;·exact⟨4,rfl⟩
  ·split;·exact⟨4,rfl⟩
   ·exact⟨4+(be4 l).toNat,by simp⟩
theorem bL (l:List Int): ∃n,(FG l).rest=l.drop n:=by
 obtain⟨n,h⟩:=UQ l;refine⟨n,?_⟩;unfold FG GV;split;·exact h
 ·split;·exact h
  ·exact h
theorem UN (k:Nat) (l:List Int): ∃n,(BJ k l).rest=l.drop n:=by
 unfold BJ;split;·exact RI l
 split;·exact RI l
 split;·exact YT l
 split;·exact UQ l
 split;·exact bL l
 ·exact⟨l.length,by simp[RJ]⟩
theorem kind_any (k:Nat) (h1:1≤k) (h6:k≤6): ∃F:FuncId,tab[k*3+2]? = some (.func (Fn.func F) #[] #[])∧(∀(args:Array Value) (w:World),(callFunc F args).run Tryz.prog w = .ok (.enter F args) w)∧
  ∀(w:World) (g:Nat) (A:Option Addr) (cap:Nat) (l:List Int) (m:Int),w.cell? ⟨0,0,none⟩=some (.int .i64 m)→RdrV w g A cap l 0→(∀x∈l,0≤x∧x<256)→l.length≤140737488355000→
   Calls Tryz.prog F #[.pointer (some ⟨g,0,none⟩)] w (JA w g (BJ k l)):=by
 have hk:k=1∨k=2∨k=3∨k=4∨k=5∨k=6:=by omega
 rcases hk with rfl|rfl|rfl|rfl|rfl|rfl;·exact⟨114,rfl,fun args w=>by kernel_rfl,fun w g A cap l m _ h hl _=>XB w g A cap l h hl⟩
 ·exact⟨116,rfl,fun args w=>by kernel_rfl,fun w g A cap l m _ h hl _=>flag_any w g A cap l h hl⟩
 ·exact⟨119,rfl,fun args w=>by kernel_rfl,fun w g A cap l m _ h hl _=>UC w g A cap l h hl⟩
 ·exact⟨122,rfl,fun args w=>by kernel_rfl,fun w g A cap l m _ h hl _=>cN w g A cap l h hl⟩
 ·exact⟨125,rfl,fun args w=>by kernel_rfl,fun w g A cap l m hm h hl _=>names_any w g A cap l m hm h hl⟩
 ·exact⟨128,rfl,fun args w=>by kernel_rfl,fun w g A cap l m _ h _ hn=>rest_any w g A cap l h hn⟩
structure PF where
  kind : Int
  n : Int
  text : List Int
  list : List ByteArray
def FD.pf (f:FD):PF:=⟨f.kind,f.n,f.text,f.list⟩
def BP:List Int→List Int→List PF→Int×List PF
 |[],l,acc=>if 0<l.length then(4,[]) else(0,acc)
 |k::ks,l,acc=>if(BJ k.toNat l).e≠0 then((BJ k.toNat l).e,[]) else BP ks (BJ k.toNat l).rest (acc++[⟨k,(BJ k.toNat l).n,(BJ k.toNat l).text,(BJ k.toNat l).list⟩])
def EI (ks l:List Int):Int×List PF:=if GX ks then BP ks l [] else(2,[])
theorem YI {k:Int} (h:IJ k=true):1≤k∧k≤6:=by
 unfold IJ at h;simp at h;omega
theorem PK {ks:List Int} (h:GX ks=true) {i:Nat} {k:Int} (hk:ks[i]? = some k):1≤k∧k≤6:=by
 have hi:i<ks.length:=(List.getElem?_eq_some_iff.1 hk).1;have:=KP.1 h i hi;unfold GS at this;rw[Bool.and_eq_true] at this;have h2:=this.1;rw[show ks.getD i 0=k by simp[List.getD,hk]] at h2;exact YI h2
def ZW (w:World) (res:Int×List PF):Ending→World→Prop:=fun E w'=>
 Only [] w w'∧∃A cap fs,E = .returned (.tuple #[.slice A fs.length cap,.int .i64 res.1])∧fs.map FD.pf=res.2∧EJ w' w.heap.size (.slice A fs.length cap) fs∧
  ∀f∈fs,FD.mine w' f w.heap.size∧f.far w.heap.size (.slice A fs.length cap)
theorem KE (w w':World) (e:Int) (h:Only [] w w'):ZW w (e,[]) (.returned (.tuple #[.slice none 0 0,.int .i64 e])) w':=
 ⟨h,none,0,[],rfl,rfl,KK _ _,fun f hf=>by simp at hf⟩
theorem RdrV.farL {w w':World} {g:Nat} {L:List Nat} {A:Option Addr} {cap:Nat} {l:List Int} {e:Int} (h:RdrV w g A cap l e) (hb:Only L w w') (hq: ∀x∈L,g<x):RdrV w' g A cap l e:=
 { h with
  blk:=h.blk.only hb (fun hm=>by have:=hq _ hm;omega)
  rd:=RdG.onlyL (mk:=.int .u8) h.rd hb (fun a ha h0 hm=>by have h1:=h.far a ha h0;have h2:=hq _ hm;omega) }
theorem FD.mine.off {w w':World} {f:FD} {B:Nat} {L:List Nat} (h:FD.mine w f B) (hb:Only L w w') (h1: ∀a,f.tA=some a→0<f.text.length→a.block∉L) (h2: ∀a,f.lA=some a→0<f.list.length→a.block∉L):FD.mine w' f B:=
 { h with
  ok:={ h.ok with text:=h.ok.text.onlyL hb h1,list:=h.ok.list.onlyL hb h2 }
  soft:=fun a ha i hi=>by
   obtain⟨b,off,e,hlt,_⟩:=h.ok.text (by omega);rw[ha] at e;injection e with e;refine(World.frozen?_of_block (w:=w) ?_).trans (h.soft a ha i hi);rw[IY];exact hb.block _ (by rw[e];exact hlt) (h1 a ha (by omega)) }
theorem EJ.mono {w:World} {base base':Nat} {v:Value} {fs:List FD} (h:EJ w base v fs) (hb:base'≤base):EJ w base' v fs:=by
 refine⟨h.1,?_⟩;rcases h.2 with h|⟨g,cap,cur,e,hg,r⟩;·exact .inl h
 ·exact .inr ⟨g,cap,cur,e,by omega,r⟩
theorem FD.ok.tlt {w:World} {f:FD} (h:f.ok w): ∀a,f.tA=some a→0<f.text.length→a.block<w.heap.size:=fun a ha h0=>h.text.lt h0 a ha
theorem FD.ok.llt {w:World} {f:FD} (h:f.ok w): ∀a,f.lA=some a→0<f.list.length→a.block<w.heap.size:=fun a ha h0=>h.list.lt h0 a ha
structure RL (w wr : World) (q : Nat) (ks : List Int) (res : Int × List PF) (k : Nat) (v : Value) (fs : List FD) (A : Option Addr) (cap : Nat) (rest : List Int) : Prop where
  res : res = BP (ks.drop k) rest (fs.map FD.pf)
  rdr : RdrV wr (q + 1) A cap rest 0
  bytes : ∀ x ∈ rest, 0 ≤ x ∧ x < 256
  few : rest.length ≤ 140737488355000
  tab : Blk wr q 158 tab.toList
  own : EJ wr (q + 2) v fs
  mine : ∀ f ∈ fs, FD.mine wr f (q + 2) ∧ f.far (q + 1) v
  num : fs.length = k
  only : Only [] w wr
  low : w.heap.size ≤ q
theorem read_anyP (w:World) (kA lA:Option Addr) (ks l:List Int) (kc lc:Nat) (m:Int) (hm:w.cell? ⟨0,0,none⟩=some (.int .i64 m)) (hk:RdI w kA ks) (h:Rd w lA l) (hl: ∀x∈l,0≤x∧x<256)
  (hkn:ks.length<1000000) (hln:l.length≤140737488355000) (hlc:l.length≤lc) (hlm:lc≤maxLen) (hal: ∀a,lA=some a→0<l.length→a.block<w.heap.size) :
  Calls Tryz.prog 50 #[.slice kA ks.length kc,.slice lA l.length lc] w (ZW w (EI ks l)):=by
 have RW:=row_any kA ks kc w hk (by unfold maxLen;omega);by_cases hr:GX ks=true
 ·rw[show EI ks l=BP ks l [] from if_pos hr];rw[hr] at RW;obtain⟨n,hn⟩: ∃n,n=ks.length:=⟨_,rfl⟩;rw[←hn] at RW hkn⊢;obtain⟨ll,hll⟩: ∃ll,ll=l.length:=⟨_,rfl⟩;obtain⟨res,hres⟩: ∃res,res=BP ks l []:=⟨_,rfl⟩;rw[←hres];replace hres:=AB hres;replace hn:=AB hn;rw[←hll];replace hll:=AB hll;go_enter Tryz.func50,Tryz.ntmps50
  go_wp2_with fail
  go_call RW as e w1 ⟨rfl,rfl⟩
  clear RW;go_wp2_with fail
  go_call (XR w) as e w1 ⟨rfl,P1⟩
  have hz:=heap_alloc_new w1 (.cells (Array.replicate 21 Value.nilFunc) 158);go_wp2_with (refine wpList_store_row rfl 158 (.tmp 6) (.tmp 15) rfl w1.heap.size tab rfl rfl 158 (Array.replicate 21 Value.nilFunc) hz (by kernel_rfl) (by kernel_rfl) (by kernel_rfl) ?_)
  have z1:=P1.size;go_loopw [21,8] (fun i o wr=>∃(k:Nat) (v:Value) (fs:List FD) (A:Option Addr) (cap:Nat) (rest:List Int),k≤n∧i = .int .i64 k∧v=o∧RL w wr w1.heap.size ks res k v fs A cap rest) (fun i _ _=>n-(intOf i).toNat)
  case atStart=>
   have Z:=LA (Blk.new w1 158 (List.replicate 21 Value.nilFunc)) tab.toList;have O2:Only [] w1 ((w1.alloc (.cells (Array.replicate 21 Value.nilFunc) 158)).setRow w1.heap.size tab):=((Only.refl [] w1).alloc _).trans (IF _ _ _) (by simp);have O3:=O2.alloc (.cells #[.slice lA l.length lc,.int .i64 0] 171);have hs2:((w1.alloc (.cells (Array.replicate 21 Value.nilFunc) 158)).setRow w1.heap.size tab).heap.size=w1.heap.size+1:=by simp
   have B3:=Blk.new ((w1.alloc (.cells (Array.replicate 21 Value.nilFunc) 158)).setRow w1.heap.size tab) 171 [.slice lA l.length lc,.int .i64 0];rw[hs2] at B3;have O4:=P1.trans O3 (by simp);refine⟨0,_,[],lA,lc,l,by omega,rfl,rfl,⟨?_,?_,hl,hln,?_,KK _ _,fun f hf=>by simp at hf,rfl,?_,z1⟩⟩;·simpa using hres.out
   ·rw[hll.out];exact⟨B3,h.only O4,hlc,hlm,fun a ha h0=>by have:=hal a ha h0;omega⟩
   ·rw[hll.out];exact Blk.alloc Z _
   ·rw[hll.out];exact O4
  case round=>
   obtain⟨wo,rfl⟩: ∃wo:World,wo=wr:=⟨_,rfl⟩;obtain⟨k,v,fs,A,cap,rest,hkn2,rfl,rfl,H⟩:=hrel;have hnn:=hn.out;obtain⟨q,hq⟩: ∃q,q=w1.heap.size:=⟨_,rfl⟩;rw[←hq] at H⊢;have hqlow:=H.low;have hgl:=H.rdr.blk.lt;clear hz P1;by_cases hlt:k<n
   ·obtain⟨b,off,x,rfl,hb,hx,cx⟩:=(hk.only H.only).at k (by omega);obtain⟨x1,x6⟩:=PK hr hx;obtain⟨j,rfl⟩:=Int.eq_ofNat_of_zero_le (show 0≤x by omega);obtain⟨F,hF,hcf,hC⟩:=kind_any j (by omega) (by omega);have ct:wo.cell? ⟨q,j*3+2,none⟩=some (.func (Fn.func F) #[] #[]):=by
     rw[H.tab.cell];simpa using hF
    have hm':wo.cell? ⟨0,0,none⟩=some (.int .i64 m):=AS H.only (Nat.pos_of_ne_zero (fun e=>by
     have:=block_lt_of_cell hm;simp only at this;omega)) (by simp) hm
    have C:=hC wo (q+1) A cap rest m hm' H.rdr H.bytes H.few;have hj7:j<7:=by omega
    have hdrop:ks.drop k=(j:Int)::ks.drop (k+1):=by
     have hki:k<ks.length:=by omega
     rw[List.drop_eq_getElem_cons hki];congr 1
     rw[List.getElem?_eq_getElem hki] at hx;injection hx
    have hres2:=H.res;rw[hdrop] at hres2;obtain⟨r,hrk⟩: ∃r,BJ j rest=r:=⟨_,rfl⟩;obtain⟨dn,hrest⟩:=UN j rest;rw[hrk] at C hrest;replace hrk:=AB hrk;replace hrest:=AB hrest;replace hres2:=AB hres2;replace hx:=AB hx;replace hdrop:=AB hdrop;clear hF hC hm' hnn;replace hq:=AB hq;obtain⟨E,N,tx,ls,rs⟩:=r;dsimp only at hrest;go_wp2_with fail
    go_call C as e w4 ⟨P4,tA,tc,lA',lc',rfl,my4,A4,cap4,R4⟩
    clear C;have z4:=P4.size;have hg4:q+1<w4.heap.size:=by omega
    have hgne: ¬q+1=w4.heap.size:=by omega
    have hgne2: ¬w4.heap.size=q+1:=by omega
    have g1:w4.cell? ⟨q+1,1,none⟩=some (.int .i64 E):=R4.blk.cell 1;have O4:Only [q+1] wo w4:=P4;have O4':Only [] w w4:=H.only.trans P4 (by simp;omega);by_cases hE:E=0
    ·subst hE;have hE2:((0:Int)!=0)=false:=rfl;unfold FD.val;dsimp only at my4;obtain⟨f,hf⟩: ∃f:FD,f=⟨j,N,tA,tc,tx,lA',lc',ls⟩:=⟨_,rfl⟩;have my:FD.mine w4 f wo.heap.size:=by rw[hf];exact my4.with j N
     have hfc:f.cells=[.int .i64 j,.int .u32 N,.slice tA tx.length tc,.slice lA' ls.length lc']:=by rw[hf];rfl
     have hob:=H.own.block;have V4:=H.own.far O4 (fun x hx hv=>by simp at hx;have:=hob x hv.symm;omega);have Q5:Only [] w4 ((w4.alloc (.cells #[.int .i64 j,.int .u32 N,.slice tA tx.length tc,.slice lA' ls.length lc'] 123)).alloc (.cells #[.int .i64 j,.int .u32 N,.slice tA tx.length tc,.slice lA' ls.length lc'] 123)):=((Only.refl [] w4).alloc _).alloc _;have V5:=V4.far Q5 (fun x hx=>by simp at hx);have B5:Blk ((w4.alloc (.cells #[.int .i64 j,.int .u32 N,.slice tA tx.length tc,.slice lA' ls.length lc'] 123)).alloc (.cells #[.int .i64 j,.int .u32 N,.slice tA tx.length tc,.slice lA' ls.length lc'] 123)) (w4.heap.size+1) 123 f.cells:=by
      rw[hfc];have:=Blk.new (w4.alloc (.cells #[.int .i64 j,.int .u32 N,.slice tA tx.length tc,.slice lA' ls.length lc'] 123)) 123 [.int .i64 j,.int .u32 N,.slice tA tx.length tc,.slice lA' ls.length lc'];simpa using this
     have hfew:fs.length<1000000:=by rw[H.num];omega
     have hres3:res=BP (ks.drop (k+1)) rs ((fs++[f]).map FD.pf):=by
      have e1:=hres2.out;have e2:=hrk.out;unfold BP at e1;rw[Int.toNat_natCast,e2,if_neg (by simp)] at e1;rw[e1,hf];simp[FD.pf]
     replace hres3:=AB hres3;replace hf:=AB hf;clear hres2 hrk hfc;go_wp2_with (at_builtin;go_must (refine SG rfl (.tmp 42) (.tmp 44) rfl (q+2) v fs rfl V5 (w4.heap.size+1) f rfl B5 hfew (by simp;omega) ?_);intro A9 k9 w9 V9 P9 G9)
     go_roundw
     case rel=>
      have O5:Only [q+1] wo ((w4.alloc (.cells #[.int .i64 j,.int .u32 N,.slice tA tx.length tc,.slice lA' ls.length lc'] 123)).alloc (.cells #[.int .i64 j,.int .u32 N,.slice tA tx.length tc,.slice lA' ls.length lc'] 123)):=O4.trans Q5 (by simp);have hvl: ∀x∈v.ownBlock.toList,q+2≤x∧x<wo.heap.size:=fun x hx=>hob x (by simpa using hx);have P9':Only v.ownBlock.toList _ w9:=P9;have z5:w4.heap.size≤((w4.alloc (.cells #[.int .i64 j,.int .u32 N,.slice tA tx.length tc,.slice lA' ls.length lc'] 123)).alloc (.cells #[.int .i64 j,.int .u32 N,.slice tA tx.length tc,.slice lA' ls.length lc'] 123)).heap.size:=Q5.size;have hnw: ∀x,q+2≤x→some x=(Value.slice A9 (fs.length+1) k9).ownBlock→(x<wo.heap.size∧some x=v.ownBlock)∨w4.heap.size≤x:=by
       intro x hx hv;rcases G9.out with e|e
       ·left;rw[e] at hv;exact⟨(hvl x (by simp[←hv])).2,hv⟩
       ·right;rw[e] at hv;injection hv with hv;omega
      refine⟨k+1,_,fs++[f],A4,cap4,rs,by omega,by go_num,rfl,⟨hres3.out,?_,?_,?_,?_,V9.out,?_,?_,?_,hqlow⟩⟩;·exact((R4.only Q5).farL P9' (fun x hx=>by have:=hvl x hx;omega))
      ·intro y hy;have:=hrest.out;rw[this] at hy;exact H.bytes y (List.mem_of_mem_drop hy)
      ·have:=hrest.out;rw[this,List.length_drop];have:=H.few;omega
      ·refine((H.tab.only O4 (by simp)).only Q5 (by simp)).only P9' (fun hm=>?_);have:=hvl _ hm;omega
      ·intro f1 hf1;rw[List.mem_append] at hf1;rcases hf1 with hf1|hf1
       ·obtain⟨m1,fr1⟩:=H.mine f1 hf1;have t1:=m1.ok.tlt;have t2:=m1.ok.llt;refine⟨((m1.onlyL O4 (by omega)).only Q5).off P9' (fun a ha h0 hm=>(fr1.1 a ha h0).2 (by simpa using hm)) (fun a ha h0 hm=>(fr1.2 a ha h0).2 (by simpa using hm)),fun a ha h0=>⟨(fr1.1 a ha h0).1,fun hv=>?_⟩,fun a ha h0=>⟨(fr1.2 a ha h0).1,fun hv=>?_⟩⟩
        ·have h1:=t1 a ha h0;have h2:=m1.new.1 a ha;rcases hnw a.block h2 hv.symm with h3|h3;·exact(fr1.1 a ha h0).2 h3.2.symm
         ·omega
        ·have h1:=t2 a ha h0;have h2:=m1.new.2 a ha;rcases hnw a.block h2 hv.symm with h3|h3;·exact(fr1.2 a ha h0).2 h3.2.symm
         ·omega
       ·simp at hf1;subst hf1;have t1:=my.ok.tlt;have t2:=my.ok.llt;refine⟨((my.only Q5).off P9' (fun a ha h0 hm=>?_) (fun a ha h0 hm=>?_)).mono (by omega),fun a ha h0=>⟨?_,fun hv=>?_⟩,fun a ha h0=>⟨?_,fun hv=>?_⟩⟩;·have h1:=my.new.1 a ha;have h2:=hvl _ hm;omega
        ·have h1:=my.new.2 a ha;have h2:=hvl _ hm;omega
        ·have h1:=my.new.1 a ha;omega
        ·have h1:=t1 a ha h0;have h2:=my.new.1 a ha;rcases hnw a.block (by omega) hv.symm with h3|h3<;>omega
        ·have h1:=my.new.2 a ha;omega
        ·have h1:=t2 a ha h0;have h2:=my.new.2 a ha;rcases hnw a.block (by omega) hv.symm with h3|h3<;>omega
      ·rw[List.length_append,H.num];rfl
      ·exact(O4'.trans Q5 (by simp)).trans P9' (fun x hx=>.inr (by have:=hvl x hx;omega))
     case measure=>simp[intOf];omega
    ·have hE2:(E !=0)=true:=by simpa using hE
     have hfin:res=(E,[]):=by
      have e1:=hres2.out;have e2:=hrk.out;unfold BP at e1;rw[Int.toNat_natCast,e2,if_pos hE] at e1;exact e1
     replace hfin:=AB hfin;unfold FD.val;clear hres2 hrk;go_wp2_with fail
     go_quiet (fail)
     go_wp2_with fail
     go_ret2
     have e:=hfin.out;rw[e];exact KE _ _ _ ((O4'.alloc _).drewN _)
   ·have hkn3:k=n:=by omega
    subst hkn3;have hres2:=H.res;rw[List.drop_eq_nil_of_le (by omega)] at hres2;unfold BP at hres2;obtain⟨L,hL⟩: ∃L,rest.length=L:=⟨_,rfl⟩;have c0:wo.cell? ⟨q+1,0,none⟩=some (.slice A rest.length cap):=H.rdr.blk.cell 0;rw[hL] at hres2 c0;obtain⟨A',cap',hv,hle,hmx,hrow⟩:=H.own.form;have hrw:=H.own;replace hq:=AB hq;replace hL:=AB hL;by_cases hL0:0<L
    ·rw[if_pos hL0] at hres2;replace hres2:=AB hres2;go_wp2_with fail
     go_ret2
     rw[hres2.out];exact KE _ _ _ H.only
    ·rw[if_neg hL0] at hres2;replace hres2:=AB hres2;go_wp2_with fail
     go_ret2
     rw[hres2.out];clear hres2;subst hv;refine⟨H.only,A',cap',fs,rfl,rfl,H.own.mono (by omega),fun f hf=>?_⟩;obtain⟨m1,fr1⟩:=H.mine f hf;exact⟨m1.mono (by omega),fun a ha h0=>⟨by have:=m1.new.1 a ha;omega,(fr1.1 a ha h0).2⟩,fun a ha h0=>⟨by have:=m1.new.2 a ha;omega,(fr1.2 a ha h0).2⟩⟩
 ·rw[show EI ks l=(2,[]) from if_neg hr];rw[show GX ks=false by simpa using hr] at RW;clear hr;obtain⟨n,hn⟩: ∃n,n=ks.length:=⟨_,rfl⟩;rw[←hn] at RW⊢;obtain⟨ll,hll⟩: ∃ll,ll=l.length:=⟨_,rfl⟩;rw[←hll];replace hll:=AB hll;replace hn:=AB hn;go_enter Tryz.func50,Tryz.ntmps50
  go_wp2_with fail
  go_call RW as e w1 ⟨rfl,rfl⟩
  go_wp2_with fail
  go_ret2
  exact KE _ _ _ (Only.refl _ _)
def BD (p:PF):Int:=
 if p.kind=1 then GM p.n 255 5 else if p.kind=2 then GM p.n 1 5 else if p.kind=4 then GM p.text.length 32768 6
 else if p.kind=5 then BT p.list else if p.kind=6 then GM p.text.length 33792 6 else 0
def BK (p:PF):List Int:=
 if p.kind=1 then[p.n % 256] else if p.kind=2 then[p.n % 256] else if p.kind=3 then HA p.n else if p.kind=4 then HA p.text.length++p.text
 else if p.kind=5 then HA (EU p.list).length++u8i (EU p.list) else p.text
theorem RE {l:List ByteArray} (h:BT l=0):l.length≤64∧∀s∈l,s.size≤64:=by
 unfold BT at h;split at h;·cases h
 ·split at h
  ·refine⟨by omega,fun s hs=>?_⟩;rename_i h2;have:=List.all_eq_true.1 h2 s hs;unfold BN at this;simp at this;omega
  ·cases h
theorem OW {a b c:Int} (h:GM a b c=0) (hc:c≠0):a≤b:=by
 unfold GM at h;split at h;·exact absurd h hc
 ·omega
theorem kindW_any (k:Nat) (h1:1≤k) (h6:k≤6): ∃F G:FuncId,tab[k*3]? = some (.func (Fn.func F) #[] #[])∧tab[k*3+1]? = some (.func (Fn.func G) #[] #[])∧
  (∀(args:Array Value) (w:World),(callFunc F args).run Tryz.prog w = .ok (.enter F args) w)∧(∀(args:Array Value) (w:World),(callFunc G args).run Tryz.prog w = .ok (.enter G args) w)∧
  (∀(w:World) (f:FD),f.kind=k→f.ok w→Calls Tryz.prog F #[f.val] w fun e w'=>e = .returned (.int .i64 (BD f.pf))∧Only [] w w')∧
  ∀(w:World) (f:FD) (g base:Nat) (v:Value) (l:List Int),f.kind=k→f.ok w→BD f.pf=0→f.far g v→0≤f.n∧f.n≤4294967295→WrV w g base v l→l.length≤33792→
   Calls Tryz.prog G #[.pointer (some ⟨g,0,none⟩),f.val] w (TB w g base v (l++BK f.pf)):=by
 have hk:k=1∨k=2∨k=3∨k=4∨k=5∨k=6:=by omega
 rcases hk with rfl|rfl|rfl|rfl|rfl|rfl
 ·refine⟨112,113,rfl,rfl,fun args w=>by kernel_rfl,fun args w=>by kernel_rfl,fun w f hk hf=>?_,fun w f g base v l hk hf h0 hfar hn hw hl=>?_⟩;·rw[show BD f.pf=GM f.n 255 5 by unfold BD FD.pf;simp[hk]];exact UD f w
  ·rw[show BK f.pf=[f.n % 256] by unfold BK FD.pf;simp[hk]];exact VJ f g base v l w hw hn (by omega)
 ·refine⟨115,113,rfl,rfl,fun args w=>by kernel_rfl,fun args w=>by kernel_rfl,fun w f hk hf=>?_,fun w f g base v l hk hf h0 hfar hn hw hl=>?_⟩;·rw[show BD f.pf=GM f.n 1 5 by unfold BD FD.pf;simp[hk]];exact VS f w
  ·rw[show BK f.pf=[f.n % 256] by unfold BK FD.pf;simp[hk]];exact VJ f g base v l w hw hn (by omega)
 ·refine⟨117,118,rfl,rfl,fun args w=>by kernel_rfl,fun args w=>by kernel_rfl,fun w f hk hf=>?_,fun w f g base v l hk hf h0 hfar hn hw hl=>?_⟩;·rw[show BD f.pf=0 by unfold BD FD.pf;simp[hk]];exact bD f w
  ·rw[show BK f.pf=HA f.n by unfold BK FD.pf;simp[hk]];exact RZ f g base v l w hw hn (by omega)
 ·refine⟨120,121,rfl,rfl,fun args w=>by kernel_rfl,fun args w=>by kernel_rfl,fun w f hk hf=>?_,fun w f g base v l hk hf h0 hfar hn hw hl=>?_⟩;·rw[show BD f.pf=GM f.text.length 32768 6 by unfold BD FD.pf;simp[hk]];exact WE f w hf
  ·rw[show BD f.pf=GM f.text.length 32768 6 by unfold BD FD.pf;simp[hk]] at h0;have:=OW h0 (by decide);rw[show BK f.pf=HA f.text.length++f.text by unfold BK FD.pf;simp[hk]];exact XV f g base v l w hw hf hfar (by omega) (by omega)
 ·refine⟨123,124,rfl,rfl,fun args w=>by kernel_rfl,fun args w=>by kernel_rfl,fun w f hk hf=>?_,fun w f g base v l hk hf h0 hfar hn hw hl=>?_⟩;·rw[show BD f.pf=BT f.list by unfold BD FD.pf;simp[hk]];exact MA f w hf
  ·rw[show BD f.pf=BT f.list by unfold BD FD.pf;simp[hk]] at h0;obtain⟨h2,h3⟩:=RE h0;rw[show BK f.pf=HA (EU f.list).length++u8i (EU f.list) by unfold BK FD.pf;simp[hk]];exact eB f g base v l w hw hf h2 h3 (by omega)
 ·refine⟨126,127,rfl,rfl,fun args w=>by kernel_rfl,fun args w=>by kernel_rfl,fun w f hk hf=>?_,fun w f g base v l hk hf h0 hfar hn hw hl=>?_⟩;·rw[show BD f.pf=GM f.text.length 33792 6 by unfold BD FD.pf;simp[hk]];exact NH f w hf
  ·rw[show BD f.pf=GM f.text.length 33792 6 by unfold BD FD.pf;simp[hk]] at h0;have:=OW h0 (by decide);rw[show BK f.pf=f.text by unfold BK FD.pf;simp[hk]];exact XU f g base v l w hw hf (by omega)
def EB:List PF→List Int→Int×List Int
 |[],acc=>(0,acc)
 |p::ps,acc=>if BD p≠0 then(BD p,[]) else if 33792<(acc++BK p).length then(6,[]) else EB ps (acc++BK p)
def IP (ps:List PF):Int×List Int:=if GX (ps.map (·.kind)) then EB ps [] else(2,[])
end Go.Proofs.YtdplnedpbkpgpaaGreatDoor
namespace Go.Proofs.YtdplnedpbkpgpaaGreatDoor
open Go.RowKit
def OkP (ps:List PF):Prop:=GX (ps.map (·.kind))=true∧(∀p∈ps,BD p=0)∧(ps.flatMap BK).length≤33792
theorem PV: ∀(ps:List PF) (acc:List Int),(∀p∈ps,BD p=0)→(acc++ps.flatMap BK).length≤33792→EB ps acc=(0,acc++ps.flatMap BK)
 |[],acc,_,_=>by simp[EB]
 |p::ps,acc,h1,h2=>by
  have e:=h1 p (by simp);rw[List.flatMap_cons,←List.append_assoc] at h2⊢;have h3: ¬33792<(acc++BK p).length:=by
   rw[List.length_append] at h2;omega
  unfold EB;rw[if_neg (by simp[e]),if_neg h3];exact PV ps _ (fun q hq=>h1 q (by simp[hq])) h2
theorem NI: ∀(ps:List PF) (acc:List Int),¬((∀p∈ps,BD p=0)∧(acc++ps.flatMap BK).length≤33792)→acc.length≤33792→∃e,e≠0∧EB ps acc=(e,[])
 |[],acc,h,ha=>by
  refine absurd ⟨fun p hp=>by simp at hp,?_⟩ h;simpa using ha
 |p::ps,acc,h,ha=>by
  unfold EB;by_cases e:BD p=0
  ·rw[if_neg (by simp[e])];by_cases h3:33792<(acc++BK p).length
   ·rw[if_pos h3];exact⟨6,by decide,rfl⟩
   ·rw[if_neg h3];refine NI ps _ (fun⟨h4,h5⟩=>h ⟨fun q hq=>?_,?_⟩) (by omega)
    ·rcases List.mem_cons.1 hq with rfl|hq;·exact e
     ·exact h4 q hq
    ·rw[List.flatMap_cons,←List.append_assoc];exact h5
  ·rw[if_pos e];exact⟨_,e,rfl⟩
theorem XW {ps:List PF} (h:OkP ps):IP ps=(0,ps.flatMap BK):=by
 unfold IP;rw[if_pos h.1];have:=PV ps [] h.2.1 (by simpa using h.2.2);simpa using this
theorem VO {ps:List PF} (h: ¬OkP ps): ∃e,e≠0∧IP ps=(e,[]):=by
 unfold IP;by_cases hr:GX (ps.map (·.kind))=true
 ·rw[if_pos hr];exact NI ps [] (fun⟨h1,h2⟩=>h ⟨hr,h1,by simpa using h2⟩) (by simp)
 ·rw[if_neg hr];exact⟨2,by decide,rfl⟩
end Go.Proofs.YtdplnedpbkpgpaaGreatDoor
namespace Go.Proofs.YtdplnedpbkpgpaaGreatDoor
open Go.RowKit
def EY:List UInt8→List (List UInt8)
 |[]=>[[]]
 |c::s=>if c=44 then[]::EY s else(c::(EY s).headD [])::(EY s).tail
theorem OI (s:List UInt8): ∃h t,EY s=h::t:=by
 cases s with
 |nil=>exact⟨[],[],rfl⟩
 |cons c s=>
  unfold EY;split;·exact⟨_,_,rfl⟩
  ·exact⟨_,_,rfl⟩
theorem idx_cons (c:UInt8) (l:List UInt8) (h:c≠44):Lib.index (c::l) [44]=if Lib.index l [44] == -1 then -1 else Lib.index l [44]+1:=by
 have hp:([44]:List UInt8).isPrefixOf (c::l)=false:=by simp[List.isPrefixOf,Ne.symm h]
 rw[Lib.index,hp];simp
theorem VE: ∀s:List UInt8,Lib.splitK [44] 0 (Lib.count s [44]) s=EY s
 |[]=>by
  rw[Lib.count_miss (by simp[Lib.index])];rfl
 |c::l=>by
  have ih:=VE l;by_cases h:c=44
  ·subst h;rw[Lib.count_cons_eq,Nat.add_comm];have hix:Lib.index (44::l) [44]=0:=by rw[Lib.index];simp[List.isPrefixOf]
   unfold Lib.splitK EY;rw[hix];simp[ih]
  ·rw[Lib.count_cons_ne c 44 l h];have hix:=idx_cons c l h;unfold EY;rw[if_neg h];by_cases hm:Lib.index l [44] = -1
   ·rw[Lib.count_miss hm] at ih⊢;rw[←ih];rfl
   ·have hge:=Lib.index_ge l [44];obtain⟨j,hj⟩: ∃j:Nat,Lib.index l [44]=j:=⟨(Lib.index l [44]).toNat,by omega⟩;have hix':Lib.index (c::l) [44]=((j+1:Nat):Int):=by rw[hix,if_neg (fun e=>hm (beq_iff_eq.1 e)),hj];omega
    rw[Lib.count_hit (by simp) hj,Nat.add_comm 1] at ih⊢;rw[←ih];unfold Lib.splitK;rw[hj,hix',if_neg (fun e=>by have:=beq_iff_eq.1 e;omega),if_neg (fun e=>by have:=beq_iff_eq.1 e;omega)];simp
theorem join_cut (s:List UInt8):Lib.join (EY s) [44]=s:=by
 induction s with
 |nil=>exact Lib.join_one _ _
 |cons c s ih=>
  obtain⟨h,t,e⟩:=OI s;unfold EY;rw[e] at ih⊢;rw[Lib.join_cons] at ih;split
  ·rename_i hc;subst hc;rw[Lib.join_cons];simp[Lib.joinTail] at ih⊢;exact ih
  ·rw[Lib.join_cons];simp at ih⊢;exact ih
theorem cutL_one {x:List UInt8} (h: ∀c∈x,c≠44):EY x=[x]:=by
 induction x with
 |nil=>rfl
 |cons c x ih=>
  unfold EY;rw[if_neg (h c (by simp)),ih (fun d hd=>h d (by simp[hd]))];rfl
theorem cutL_app {x:List UInt8} (h: ∀c∈x,c≠44) (s:List UInt8):EY (x++44::s)=x::EY s:=by
 induction x with
 |nil=>
  rw[List.nil_append];conv=>lhs;unfold EY
  rw[if_pos rfl]
 |cons c x ih=>
  rw[List.cons_append];conv=>lhs;unfold EY
  rw[if_neg (h c (by simp)),ih (fun d hd=>h d (by simp[hd]))];rfl
theorem cut_join (x:List UInt8) (r:List (List UInt8)) (h: ∀y∈x::r,∀c∈y,c≠44):EY (Lib.join (x::r) [44])=x::r:=by
 induction r generalizing x with
 |nil=>rw[Lib.join_one];exact cutL_one (h x (by simp))
 |cons y r ih=>
  have e:Lib.join (x::y::r) [44]=x++44::Lib.join (y::r) [44]:=by
   rw[Lib.join_cons,Lib.join_cons];simp[Lib.joinTail]
  rw[e,cutL_app (h x (by simp)),ih y (fun z hz=>h z (by simp at hz⊢;exact .inr hz))]
theorem KG {x y:ByteArray} (h:x.data.toList=y.data.toList):x=y:=ByteArray.ext (Array.ext' h)
theorem JT (s:ByteArray):(CP s).map (·.data.toList)=EY s.data.toList:=by
 unfold CP;rw[Lib.splitB_data];exact VE _
theorem bE (s:ByteArray):EU (CP s)=s.data.toList:=by
 unfold EU;rw[JT];exact join_cut _
theorem XA {s:ByteArray} (h:BN s=true):1≤s.size∧s.size≤64∧∀c∈s.data.toList,c≠44:=by
 unfold BN at h;simp only[Bool.and_eq_true,decide_eq_true_eq] at h;refine⟨h.1.1,h.1.2,fun c hc e=>?_⟩;have:=List.all_eq_true.1 h.2 c hc;unfold LP at this;subst e;revert this;decide
theorem aZ (l:List ByteArray) (h0:l≠[]) (h: ∀s∈l,BN s=true) (s:ByteArray) (hs:s.data.toList=EU l):CP s=l:=by
 have e:(CP s).map (·.data.toList)=l.map (·.data.toList):=by
  rw[JT,hs];unfold EU;cases l with
  |nil=>exact absurd rfl h0
  |cons x r=>
   rw[List.map_cons];refine cut_join _ _ (fun y hy c hc=>?_);have hy:y∈(x::r).map (·.data.toList):=hy;obtain⟨z,hz,rfl⟩:=List.mem_map.1 hy;exact(XA (h z hz)).2.2 c hc
 exact(List.map_inj_right (fun x y hxy=>KG hxy)).1 e
theorem joinU_ne {l:List ByteArray} (h0:l≠[]) (h: ∀s∈l,BN s=true):EU l≠[]:=by
 cases l with
 |nil=>exact absurd rfl h0
 |cons x r=>
  unfold EU;rw[List.map_cons,Lib.join_cons];intro e;have h1:=(XA (h x (by simp))).1;have h2:x.data.toList=[]:=List.append_eq_nil_iff.1 e |>.1;have h3:x.size=x.data.toList.length:=by simp
  rw[h3,h2] at h1;simp at h1
theorem DV (xs:List Int):(strOfNums xs).data.toList=xs.map fun n=>UInt8.ofNat n.toNat:=rfl
theorem u8i_str {xs:List Int} (h: ∀x∈xs,0≤x∧x<256):u8i (strOfNums xs).data.toList=xs:=by
 rw[DV];unfold u8i;induction xs with
 |nil=>rfl
 |cons a r ih=>
  have ha:=h a (by simp);rw[List.map_cons,List.map_cons,ih (fun x hx=>h x (by simp[hx]))];congr 1
  rw[UInt8.toNat_ofNat'];omega
theorem str_u8i (l:List UInt8):(strOfNums (u8i l)).data.toList=l:=by
 rw[DV];unfold u8i;induction l with
 |nil=>rfl
 |cons c l ih=>
  rw[List.map_cons,List.map_cons,ih,Int.toNat_natCast,UInt8.ofNat_toNat]
theorem aD (n:Int) (t:List Int) (h0:0≤n) (h1:n≤4294967295):be4 (HA n++t)=n:=by
 unfold be4 HA;simp;omega
theorem aQ (l:List Int) (h4:4≤l.length) (hl: ∀x∈l,0≤x∧x<256):HA (be4 l)=l.take 4:=by
 match l,h4 with
 |a::b::c::d::t,_=>
  have ha:=hl a (by simp);have hb:=hl b (by simp);have hc:=hl c (by simp);have hd:=hl d (by simp);unfold be4 HA;simp;omega
theorem RB (n:Int):(HA n).length=4:=rfl
end Go.Proofs.YtdplnedpbkpgpaaGreatDoor
namespace Go.Proofs.YtdplnedpbkpgpaaGreatDoor
open Go.RowKit
def InB (l:List Int):Prop:=∀x∈l,0≤x∧x<256
theorem InB.right {a b:List Int} (h:InB (a++b)):InB b:=fun x hx=>h x (by simp[hx])
theorem InB.drop {a:List Int} (h:InB a) (n:Nat):InB (a.drop n):=fun x hx=>h x (List.mem_of_mem_drop hx)
theorem InB.take {a:List Int} (h:InB a) (n:Nat):InB (a.take n):=fun x hx=>h x (List.mem_of_mem_take hx)
def Match (p:PF) (pre:List Int):Prop:=if p.kind=2 then∃b,pre=[b]∧BK p=[if b=0 then 0 else 1] else BK p=pre
theorem bN {l:List Int} (hl:InB l) (h:(CI l).e=0):4≤l.length∧be4 l≤32768∧0≤be4 l∧4+(be4 l).toNat≤l.length∧(CI l).text=(l.drop 4).take (be4 l).toNat∧(CI l).rest=l.drop (4+(be4 l).toNat):=by
 have hb:=NJ l hl;unfold CI EZ at h⊢;split at h;·cases h
 ·rename_i h4;rw[if_neg h4];unfold GI at h⊢;split at h;·cases h
  ·rename_i h5;split at h;·cases h
   ·rename_i h6;rw[if_neg h5,if_neg h6];rw[List.length_drop] at h6;exact⟨by omega,by omega,hb.1,by omega,rfl,by rw[List.drop_drop]⟩
theorem QW {l:List Int} (hl:InB l) (h4:4≤l.length) (h5:4+(be4 l).toNat≤l.length) (h0:0≤be4 l) :
  HA ((l.drop 4).take (be4 l).toNat).length++(l.drop 4).take (be4 l).toNat=l.take (4+(be4 l).toNat):=by
 have e:((((l.drop 4).take (be4 l).toNat).length:Nat):Int)=be4 l:=by
  rw[List.length_take,List.length_drop];omega
 rw[e,aQ l h4 hl,List.take_add]
theorem dH (k:Nat) (h1:1≤k) (h6:k≤6) (l:List Int) (hl:InB l) (h:(BJ k l).e=0) :
  BD ⟨k,(BJ k l).n,(BJ k l).text,(BJ k l).list⟩=0∧(0≤(BJ k l).n∧(BJ k l).n≤4294967295)∧
  ∃pre,l=pre++(BJ k l).rest∧Match ⟨k,(BJ k l).n,(BJ k l).text,(BJ k l).list⟩ pre:=by
 have hk:k=1∨k=2∨k=3∨k=4∨k=5∨k=6:=by omega
 rcases hk with rfl|rfl|rfl|rfl|rfl|rfl
 ·have e:BJ 1 l=DT l:=rfl;rw[e] at h⊢;cases l with
  |nil=>cases h
  |cons a t=>
   have ha:=hl a (by simp);have e2:DT (a::t)=⟨0,a,[],[],t⟩:=by unfold DT;simp
   rw[e2];refine⟨by unfold BD GM;simp;omega,⟨ha.1,by dsimp;omega⟩,[a],rfl,?_⟩;unfold Match BK;simp;omega
 ·have e:BJ 2 l=RH l:=rfl;rw[e] at h⊢;cases l with
  |nil=>cases h
  |cons a t=>
   have ha:=hl a (by simp);have e2:RH (a::t)=⟨0,min a 1,[],[],t⟩:=by unfold RH DT;simp
   rw[e2];refine⟨by unfold BD GM;simp;omega,⟨by dsimp;omega,by dsimp;omega⟩,[a],rfl,?_⟩;unfold Match BK;simp;split<;>omega
 ·have e:BJ 3 l=DO l:=rfl;rw[e] at h⊢;by_cases h4:l.length<4
  ·unfold DO EZ at h;rw[if_pos h4] at h;cases h
  ·have e2:DO l=⟨0,be4 l,[],[],l.drop 4⟩:=by unfold DO;rw[if_neg h4]
   rw[e2];have hb:=NJ l hl;refine⟨rfl,⟨hb.1,by dsimp;omega⟩,l.take 4,(List.take_append_drop _ _).symm,?_⟩;exact aQ l (by omega) hl
 ·have e:BJ 4 l=CI l:=rfl;rw[e] at h⊢;obtain⟨a1,a2,a3,a4,a5,a6⟩:=bN hl h;obtain⟨b1,b2,b3⟩:=UR l;rw[b3,a5,a6];refine⟨?_,⟨Int.le_refl 0,show(0:Int)≤4294967295 by decide⟩,l.take (4+(be4 l).toNat),(List.take_append_drop _ _).symm,?_⟩
  ·rw[a5] at b1;show GM _ 32768 6=0;exact OV (by dsimp only;omega)
  ·exact QW hl a1 a4 a3
 ·have e:BJ 5 l=FG l:=rfl;rw[e] at h⊢;unfold FG GV at h⊢;split at h
  ·rename_i h7;exact absurd h h7
  ·rename_i h7;have h7:(CI l).e=0:=by simpa using h7
   obtain⟨a1,a2,a3,a4,a5,a6⟩:=bN hl h7;rw[if_neg (by simp[h7])];split at h
   ·rename_i h8;rw[if_pos h8];refine⟨rfl,⟨Int.le_refl 0,show(0:Int)≤4294967295 by decide⟩,l.take (4+(be4 l).toNat),?_,?_⟩
    ·dsimp only;rw[a6];exact(List.take_append_drop _ _).symm
    ·have:=QW hl a1 a4 a3;rw[←a5,h8] at this;exact this
   ·rename_i h8;rw[if_neg h8];have hp:=bE (strOfNums (CI l).text);have hr:InB (CI l).text:=by rw[a5];exact(hl.drop 4).take _
    have hu:=u8i_str hr;refine⟨h,⟨Int.le_refl 0,show(0:Int)≤4294967295 by decide⟩,l.take (4+(be4 l).toNat),?_,?_⟩
    ·dsimp only;rw[a6];exact(List.take_append_drop _ _).symm
    ·show HA (EU (CP (strOfNums (CI l).text))).length++u8i (EU (CP (strOfNums (CI l).text)))=_;rw[hp,hu];have e3:(strOfNums (CI l).text).data.toList.length=(CI l).text.length:=by rw[DV,List.length_map]
     rw[e3,a5];exact QW hl a1 a4 a3
 ·have e:BJ 6 l=RJ l:=rfl;rw[e] at h⊢;unfold RJ at h⊢;exact⟨h,⟨Int.le_refl 0,show(0:Int)≤4294967295 by decide⟩,l,by simp,rfl⟩
def Parts:List PF→List Int→Prop
 |[],l=>l=[]
 |p::ps,l=>∃pre rest,l=pre++rest∧Match p pre∧Parts ps rest
theorem MC: ∀(ks l:List Int) (acc:List PF),(∀k∈ks,1≤k∧k≤6)→InB l→
  ((BP ks l acc).1≠0∧(BP ks l acc).2=[])∨
  ((BP ks l acc).1=0∧∃ps,(BP ks l acc).2=acc++ps∧ps.map (·.kind)=ks∧(∀p∈ps,BD p=0∧0≤p.n∧p.n≤4294967295)∧Parts ps l)
 |[],l,acc,_,_=>by
  unfold BP;split;·exact .inl ⟨by decide,rfl⟩
  ·rename_i h;refine .inr ⟨rfl,[],by simp,rfl,fun p hp=>by simp at hp,?_⟩;exact List.eq_nil_of_length_eq_zero (by omega)
 |k::ks,l,acc,hk,hl=>by
  have h16:=hk k (by simp);obtain⟨j,rfl⟩:=Int.eq_ofNat_of_zero_le (show 0≤k by omega);unfold BP;rw[Int.toNat_natCast];by_cases he:(BJ j l).e=0
  ·rw[if_neg (by simp[he])];obtain⟨g1,g2,pre,g3,g4⟩:=dH j (by omega) (by omega) l hl he;have hr:InB (BJ j l).rest:=by
    rw[g3] at hl;exact hl.right
   rcases MC ks (BJ j l).rest (acc++[⟨j,(BJ j l).n,(BJ j l).text,(BJ j l).list⟩]) (fun k hk2=>hk k (by simp[hk2])) hr with h|⟨h0,ps,h1,h2,h3,h4⟩;·exact .inl h
   ·refine .inr ⟨h0,⟨j,(BJ j l).n,(BJ j l).text,(BJ j l).list⟩::ps,by rw[h1];simp,by rw[List.map_cons,h2],fun p hp=>?_,pre,_,g3,g4,h4⟩;rcases List.mem_cons.1 hp with rfl|hp;·exact⟨g1,g2⟩
    ·exact h3 p hp
  ·rw[if_pos he];exact .inl ⟨he,rfl⟩
theorem MF {ks:List Int} (h:GX ks=true): ∀k∈ks,1≤k∧k≤6:=fun k hk=>by
 obtain⟨i,hi⟩:=List.getElem?_of_mem hk;exact PK h hi
def SI (p:PF):PF:=⟨p.kind,if p.kind=4∨p.kind=5∨p.kind=6 then 0 else p.n,if p.kind=4∨p.kind=6 then p.text else[],if p.kind=5 then p.list else[]⟩
theorem UP (t tl:List Int) (h:t.length≤32768):CI (HA t.length++t++tl)=⟨0,0,t,[],tl⟩:=by
 have hb:be4 (HA t.length++t++tl)=(t.length:Int):=by
  rw[List.append_assoc];exact aD _ _ (by omega) (by omega)
 have hd:(HA t.length++t++tl).drop 4=t++tl:=by
  rw[List.append_assoc];exact List.drop_left' rfl
 unfold CI;rw[if_neg (by simp[RB]),hb,hd,Int.toNat_natCast];unfold GI;rw[if_neg (by omega),if_neg (by simp)];simp
section
variable (n : Int) (t : List Int) (ls : List ByteArray) (l : List Int)
theorem rKind_1:BJ 1 l=DT l:=rfl
theorem rKind_2:BJ 2 l=RH l:=rfl
theorem rKind_3:BJ 3 l=DO l:=rfl
theorem rKind_4:BJ 4 l=CI l:=rfl
theorem rKind_5:BJ 5 l=FG l:=rfl
theorem rKind_6:BJ 6 l=RJ l:=rfl
theorem bytesP_1:BK ⟨1,n,t,ls⟩=[n % 256]:=rfl
theorem bytesP_2:BK ⟨2,n,t,ls⟩=[n % 256]:=rfl
theorem bytesP_3:BK ⟨3,n,t,ls⟩=HA n:=rfl
theorem bytesP_4:BK ⟨4,n,t,ls⟩=HA t.length++t:=rfl
theorem bytesP_5:BK ⟨5,n,t,ls⟩=HA (EU ls).length++u8i (EU ls):=rfl
theorem bytesP_6:BK ⟨6,n,t,ls⟩=t:=rfl
theorem faultP_1:BD ⟨1,n,t,ls⟩=GM n 255 5:=rfl
theorem faultP_2:BD ⟨2,n,t,ls⟩=GM n 1 5:=rfl
theorem faultP_4:BD ⟨4,n,t,ls⟩=GM t.length 32768 6:=rfl
theorem faultP_5:BD ⟨5,n,t,ls⟩=BT ls:=rfl
theorem faultP_6:BD ⟨6,n,t,ls⟩=GM t.length 33792 6:=rfl
end
def JO (k:Nat) (p:PF) (tl:List Int):Prop:=BJ k (BK p++tl)=⟨0,(SI p).n,(SI p).text,(SI p).list,tl⟩
theorem back1 (n:Int) (t:List Int) (ls:List ByteArray) (tl:List Int) (hn:0≤n) (hf:BD ⟨1,n,t,ls⟩=0):JO 1 ⟨1,n,t,ls⟩ tl:=by
 rw[faultP_1] at hf;have:=OW hf (by decide);unfold JO;rw[rKind_1,bytesP_1,show SI ⟨1,n,t,ls⟩=⟨1,n,[],[]⟩ from rfl,show n % 256=n by omega];unfold DT;simp
theorem back2 (n:Int) (t:List Int) (ls:List ByteArray) (tl:List Int) (hn:0≤n) (hf:BD ⟨2,n,t,ls⟩=0):JO 2 ⟨2,n,t,ls⟩ tl:=by
 rw[faultP_2] at hf;have:=OW hf (by decide);unfold JO;rw[rKind_2,bytesP_2,show SI ⟨2,n,t,ls⟩=⟨2,n,[],[]⟩ from rfl,show n % 256=n by omega];unfold RH DT;simp;omega
theorem back3 (n:Int) (t:List Int) (ls:List ByteArray) (tl:List Int) (hn:0≤n∧n≤4294967295):JO 3 ⟨3,n,t,ls⟩ tl:=by
 unfold JO;rw[rKind_3,bytesP_3,show SI ⟨3,n,t,ls⟩=⟨3,n,[],[]⟩ from rfl];unfold DO;rw[if_neg (by simp[RB]),aD n tl hn.1 hn.2];congr 1
theorem back4 (n:Int) (t:List Int) (ls:List ByteArray) (tl:List Int) (hf:BD ⟨4,n,t,ls⟩=0):JO 4 ⟨4,n,t,ls⟩ tl:=by
 rw[faultP_4] at hf;have:=OW hf (by decide);unfold JO;rw[rKind_4,bytesP_4,show SI ⟨4,n,t,ls⟩=⟨4,0,t,[]⟩ from rfl];exact UP t tl (by omega)
theorem back5 (n:Int) (t:List Int) (ls:List ByteArray) (tl:List Int) (hf:BD ⟨5,n,t,ls⟩=0):JO 5 ⟨5,n,t,ls⟩ tl:=by
 rw[faultP_5] at hf;obtain⟨a1,a2⟩:=RE hf;have hj:=TT ls a2;unfold JO;rw[rKind_5,bytesP_5,show SI ⟨5,n,t,ls⟩=⟨5,0,[],ls⟩ from rfl];have hlen:(u8i (EU ls)).length=(EU ls).length:=by unfold u8i;rw[List.length_map]
 have hT:=UP (u8i (EU ls)) tl (by omega);rw[hlen] at hT;unfold FG;rw[hT];unfold GV;rw[if_neg (by simp)];dsimp only;by_cases h0:ls=[]
 ·subst h0;rw[if_pos (by rfl)]
 ·have hok: ∀s∈ls,BN s=true:=by
   unfold BT at hf;split at hf;·cases hf
   ·split at hf
    ·rename_i h8;exact List.all_eq_true.1 h8
    ·cases hf
  have hne:u8i (EU ls)≠[]:=fun e=>joinU_ne h0 hok (List.map_eq_nil_iff.1 e);rw[if_neg hne,aZ ls h0 hok _ (str_u8i _),hf]
theorem back6 (n:Int) (t:List Int) (ls:List ByteArray) (hf:BD ⟨6,n,t,ls⟩=0):JO 6 ⟨6,n,t,ls⟩ []:=by
 rw[faultP_6] at hf;unfold JO;rw[rKind_6,bytesP_6,show SI ⟨6,n,t,ls⟩=⟨6,0,t,[]⟩ from rfl,List.append_nil];unfold RJ;rw[hf]
theorem kind_back (p:PF) (tl:List Int) (h1:1≤p.kind) (h6:p.kind≤6) (hn:0≤p.n∧p.n≤4294967295) (hf:BD p=0) (hlast:p.kind=6→tl=[]):JO p.kind.toNat p tl:=by
 obtain⟨k,n,t,ls⟩:=p;dsimp only at h1 h6 hn hlast⊢;have hk:k=1∨k=2∨k=3∨k=4∨k=5∨k=6:=by omega
 rcases hk with rfl|rfl|rfl|rfl|rfl|rfl;·exact back1 n t ls tl hn.1 hf
 ·exact back2 n t ls tl hn.1 hf
 ·exact back3 n t ls tl hn
 ·exact back4 n t ls tl hf
 ·exact back5 n t ls tl hf
 ·obtain rfl:=hlast rfl;exact back6 n t ls hf
theorem NF: ∀(ps:List PF) (acc:List PF),(∀p∈ps,(1≤p.kind∧p.kind≤6)∧BD p=0∧0≤p.n∧p.n≤4294967295)→(∀i p,ps[i]? = some p→p.kind=6→i+1=ps.length)→
  BP (ps.map (·.kind)) (ps.flatMap BK) acc=(0,acc++ps.map SI)
 |[],acc,_,_=>by simp[BP]
 |p::ps,acc,h,hl=>by
  obtain⟨hk,hf,hn⟩:=h p (by simp);have hlast:p.kind=6→ps.flatMap BK=[]:=fun h6=>by
   have:=hl 0 p rfl h6;simp at this;rw[this];rfl
  have hb:=kind_back p (ps.flatMap BK) hk.1 hk.2 hn hf hlast;unfold JO at hb;rw[List.map_cons,List.flatMap_cons];unfold BP;rw[hb];rw[if_neg (by simp)];dsimp only;rw[NF ps _ (fun q hq=>h q (by simp[hq])) (fun i q hq h6=>by have:=hl (i+1) q (by simpa using hq) h6;simp at this;omega)];rw[List.map_cons,List.append_assoc];rfl
theorem back_law (ps:List PF) (h:OkP ps) (hn: ∀p∈ps,0≤p.n∧p.n≤4294967295):EI (ps.map (·.kind)) (ps.flatMap BK)=(0,ps.map SI):=by
 unfold EI;rw[if_pos h.1];refine NF ps [] (fun p hp=>⟨MF h.1 p.kind (List.mem_map_of_mem hp),h.2.1 p hp,hn p hp⟩) (fun i p hp h6=>?_);have hi:i<ps.length:=(List.getElem?_eq_some_iff.1 hp).1;have:=KP.1 h.1 i (by rw[List.length_map];exact hi);unfold GS at this;rw[show(ps.map (·.kind)).getD i 0=6 by simp[List.getD,hp,h6]] at this;simp at this;have:=this.2;omega
end Go.Proofs.YtdplnedpbkpgpaaGreatDoor
namespace Go.Proofs.YtdplnedpbkpgpaaGreatDoor
open Go.RowKit
def U32 (n:Int):Prop:=0≤n∧n≤4294967295
def sOf (s:ByteArray):List Int:=u8i s.data.toList
theorem SZ (s:ByteArray):(sOf s).length=s.size:=by unfold sOf u8i;simp
theorem rText_inb {l:List Int} (hl:InB l):InB (CI l).text:=by
 unfold CI GI EZ;split;·exact fun x hx=>by simp at hx
 ·split;·exact fun x hx=>by simp at hx
  ·split;·exact fun x hx=>by simp at hx
   ·exact(hl.drop 4).take _
theorem kind_inb (k:Nat) (h6:k≤6) (l:List Int) (hl:InB l):InB (BJ k l).text:=by
 have z:InB []:=fun x hx=>by simp at hx
 have ho:(DT l).text=[]:=by unfold DT EZ;split<;>rfl
 have hk:k=0∨k=1∨k=2∨k=3∨k=4∨k=5∨k=6:=by omega
 rcases hk with rfl|rfl|rfl|rfl|rfl|rfl|rfl;·exact hl
 ·rw[rKind_1,ho];exact z
 ·rw[rKind_2,show(RH l).text=(DT l).text from rfl,ho];exact z
 ·rw[rKind_3];unfold DO EZ;split<;>exact z
 ·rw[rKind_4];exact rText_inb hl
 ·rw[rKind_5];unfold FG GV;split;exact z;split<;>exact z
 ·rw[rKind_6];exact hl
theorem PH: ∀(ks l:List Int) (acc:List PF),(∀k∈ks,1≤k∧k≤6)→InB l→(∀p∈acc,InB p.text)→∀p∈(BP ks l acc).2,InB p.text
 |[],l,acc,_,_,ha=>by
  unfold BP;split;·exact fun p hp=>by simp at hp
  ·exact ha
 |k::ks,l,acc,hk,hl,ha=>by
  have h16:=hk k (by simp);unfold BP;split;·exact fun p hp=>by simp at hp
  ·obtain⟨n,hn⟩:=UN k.toNat l;refine PH ks _ _ (fun k hk2=>hk k (by simp[hk2])) (by rw[hn];exact hl.drop n) (fun p hp=>?_);rcases List.mem_append.1 hp with hp|hp;·exact ha p hp
   ·simp at hp;subst hp;exact kind_inb _ (by omega) l hl
theorem DK (ks l:List Int) (hl:InB l) (h:(EI ks l).1=0):(EI ks l).2.map (·.kind)=ks∧∀p∈(EI ks l).2,U32 p.n∧InB p.text:=by
 unfold EI at h⊢;split at h
 ·rename_i hr;rw[if_pos hr];have h2:=PH ks l [] (MF hr) hl (fun p hp=>by simp at hp);rcases MC ks l [] (MF hr) hl with e|⟨_,ps,e1,e2,e3,_⟩;·exact absurd h e.1
  ·rw[e1] at h2⊢;refine⟨by simpa using e2,fun p hp=>⟨(e3 p (by simpa using hp)).2,h2 p hp⟩⟩
 ·cases h
theorem cE (l:List Int):(strOfNums l).size=l.length:=by
 show(strOfNums l).data.size=_;rw[←Array.length_toList,DV,List.length_map]
theorem str_sOf (s:ByteArray):strOfNums (sOf s)=s:=KG (str_u8i _)
end Go.Proofs.YtdplnedpbkpgpaaGreatDoor
