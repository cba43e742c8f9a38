/- ClientSends: lemmas, from 'Layer 1: the reader: a text' on; what each asks for stands in it. -/
import Derived.Test.YtfbhemmpobgdpaaGreatDoorCsE
import Derived.Laws.BytesArg
import Derived.Lib.SplitLaws
import Derived.Lib.ReplaceLaws
import Derived.Deep.OwnRows
import Derived.Lib.SmallJoins
import Derived.Laws.IdiomStrings
import Derived.Laws.EntriesVeiled
set_option linter.all false
set_option maxRecDepth 100000
set_option maxHeartbeats 64000000
namespace Go.Proofs.YtfbhemmpobgdpaaGreatDoor
open Go.RowKit
def GJ (l:List Int) (n:Nat):R:=if 32768<n then⟨6,0,[],[],l⟩ else if l.length<n then⟨3,0,[],[],l⟩ else⟨0,0,l.take n,[],l.drop n⟩
def CE (l:List Int):R:=if l.length<4 then DN l else GJ (l.drop 4) (be4 l).toNat
theorem PY (l:List Int) (hl: ∀x∈l,0<=x/\x<256):0<=be4 l/\be4 l<4294967296:=by
 have h: ∀k,0<=l.getD k 0/\l.getD k 0<256:=by
  intro k;by_cases hk:k<l.length
  ·have:=hl _ (List.getElem_mem hk);simpa[List.getD,List.getElem?_eq_getElem hk] using this
  ·simp[List.getD,List.getElem?_eq_none (Nat.le_of_not_lt hk)]
 have h0:=h 0;have h1:=h 1;have h2:=h 2;have h3:=h 3;unfold be4;omega
theorem RdrV.fault {w:World} {g:Nat} {A:Option Addr} {cap:Nat} {l:List Int} {e:Int} (h:RdrV w g A cap l e) (e':Int):RdrV (w.setCell ⟨g,1,none⟩ (.int .i64 e')) g A cap l e'/\Only [g] w (w.setCell ⟨g,1,none⟩ (.int .i64 e')):=by
 have P:Only [g] w (w.setCell ⟨g,1,none⟩ (.int .i64 e')):=(Only.refl [g] w).setCell (p:=⟨g,1,none⟩) (.inl (by simp)) _;exact⟨⟨h.blk.set_ 1 _,h.rd.onlyP P (fun a ha h0=>Nat.ne_of_lt (h.far a ha h0)),h.le,h.max,h.far⟩,P⟩
theorem QN {w w':World} {g B:Nat} {e:Int} {text rest:List Int} {A A':Option Addr} {cap c:Nat} (h:Only [g] w w') (hr:RdrV w' g A cap rest e) (hb:Bs w' B A' text c) (hB:w.heap.size<=B):KD w g ⟨e,0,text,[],rest⟩ (.returned (.agg #[.int .i64 0,.int .u32 0,.slice A' text.length c,.slice none 0 0])) w':=
 ⟨h,A',c,none,0,rfl,⟨⟨hb.rd,RdG.nil,hb.le,hb.max,by simp,by simp,by simp⟩,⟨fun a ha=>Nat.le_trans hB (hb.new a ha),fun a ha=>by simp at ha⟩,hb.soft⟩,A,cap,hr⟩
theorem Bs.onlyG {w w':World} {B q:Nat} {A:Option Addr} {l:List Int} {c:Nat} (h:Bs w B A l c) (hb:Only [q] w w') (hq:q<B):Bs w' B A l c:=
 { h with
  rd:=h.rd.onlyG hb (fun a ha=>by have:=h.new a ha;omega)
  soft:=fun a ha i hi=>by
   obtain⟨b,off,e,hlt,_⟩:=h.rd (by omega);have hn:=h.new a ha;rw[ha] at e;injection e with e;refine(World.frozen?_of_block (w:=w) ?_).trans (h.soft a ha i hi);rw[IA];exact hb.block _ (by rw[e];exact hlt) (by simp;omega) }
theorem Bs.only {w w':World} {B:Nat} {A:Option Addr} {l:List Int} {c:Nat} (h:Bs w B A l c) (hb:Only [] w w'):Bs w' B A l c:=
 { h with
  rd:=h.rd.only hb
  soft:=fun a ha i hi=>by
   obtain⟨b,off,e,hlt,_⟩:=h.rd (by omega);rw[ha] at e;injection e with e;refine(World.frozen?_of_block (w:=w) ?_).trans (h.soft a ha i hi);rw[IA];exact hb.block _ (by rw[e];exact hlt) (by simp) }
theorem VO (w:World) (k n:Int) (a b:Value):(Instr.field 153 (.agg #[.int .i64 k,.int .u32 n,a,b]) 1).run Tryz.prog w = .ok (.int .u32 n) w:=by kernel_rfl
theorem iI (w:World) (g:Nat) (A:Option Addr) (cap:Nat) (l:List Int) (h:RdrV w g A cap l 0) (hl: ∀x∈l,0<=x/\x<256) :
  Calls Tryz.prog 174 #[.pointer (some ⟨g,0,none⟩)] w (KD w g (CE l)):=by
 obtain⟨w1,hw1⟩:=qY (w.alloc (.cells #[.int .i64 0,.int .u32 0,.slice none 0 0,.slice none 0 0] 153));have P1:Only [] w w1:=by rw[hw1];exact(zR _ _).alloc _
 have K:Blk w1 w.heap.size 153 [.int .i64 0,.int .u32 0,.slice none 0 0,.slice none 0 0]:=by rw[hw1];exact Blk.new w _ _
 have h1:=h.only P1;have hgl:=h.blk.lt;have hq1:=K.lt;have T:=XN w1 g A cap l h1 hl;by_cases hs:l.length<4
 ·rw[show CR l=DN l from if_pos hs] at T;rw[show CE l=DN l from if_pos hs];clear hs h h1;unfold DN at T⊢;unfold KD FD.val at T;dsimp only[List.length_nil] at T;go_enter Tryz.func174,Tryz.ntmps174
  go_wp2_with fail
  rw[<-hw1];replace hw1:=AB hw1;go_wp2_with fail
  go_call T as e w2 ⟨P2,tA,tc,lA,lc,rfl,my2,A2,cap2,R2⟩
  clear my2;have K2:=K.only P2 (by simp;omega);have hfd:=VO;have O2:Only [g] w w2:=(P1.mono (by simp)).trans P2 (by simp);have g1:w2.cell? ⟨g,1,none⟩=some (.int .i64 3):=R2.blk.cell 1;obtain⟨c0,f0,c1,f1,c2,f2,c3,f3⟩:=qF K2 0;go_wp2_with fail
  (try simp only[Exit.inBlock,Exit.then])
  refine AS (v0:=.int .i64 0) (v1:=.int .u32 0) (v2:=.slice none 0 0) (v3:=.slice none 0 0) rfl (by rfl) (by rfl) (W4.blk K2 _ _ _ _) (EK (O2.trans (W4.only w2 _ _ _ _ _) (by simp)) (R2.far4 (W4.only _ _ _ _ _ _) hgl))
 ·obtain⟨k,hk⟩:=Int.eq_ofNat_of_zero_le (PY l hl).1;have hk2:k<4294967296:=by have:=(PY l hl).2;omega
  rw[show CR l=⟨0,be4 l,[],[],l.drop 4⟩ from if_neg hs] at T;rw[show CE l=GJ (l.drop 4) k from by unfold CE;rw[if_neg hs,hk];rfl];rw[hk] at T;clear hs h h1;obtain⟨m,hm⟩:=qX (l.drop 4);rw[hm] at T⊢;clear hm;unfold KD FD.val at T;dsimp only[List.length_nil] at T;by_cases hbig:32768<k
  ·rw[show GJ m k=⟨6,0,[],[],m⟩ from if_pos hbig];have hb2:(32768:Int)<(k:Int):=by omega
   go_enter Tryz.func174,Tryz.ntmps174
   go_wp2_with fail
   rw[<-hw1];replace hw1:=AB hw1;go_wp2_with fail
   go_call T as e w2 ⟨P2,tA,tc,lA,lc,rfl,my2,A2,cap2,R2⟩
   clear my2;have K2:=K.only P2 (by simp;omega);have hfd:=VO;have O2:Only [g] w w2:=(P1.mono (by simp)).trans P2 (by simp);have g1:w2.cell? ⟨g,1,none⟩=some (.int .i64 0):=R2.blk.cell 1;have gf:=R2.blk.frozen 1;obtain⟨c0,f0,c1,f1,c2,f2,c3,f3⟩:=qF K2 0;go_wp2_with fail
   (try simp only[Exit.inBlock,Exit.then])
   obtain⟨R3,P3⟩:=R2.fault 6;exact AS (v0:=.int .i64 0) (v1:=.int .u32 0) (v2:=.slice none 0 0) (v3:=.slice none 0 0) rfl (by rfl) (by rfl) (W4.blk (K2.far (p:=⟨g,1,none⟩) (by simp only;omega) _) _ _ _ _) (EK ((O2.trans P3 (by simp)).trans (W4.only _ _ _ _ _ _) (by simp)) (R3.far4 (W4.only _ _ _ _ _ _) hgl))
  ·have hcv:IntKind.i64.wrap (k:Int)=k:=by apply IntWalk.i64_in<;>omega
   have hb2: ¬(32768:Int)<(k:Int):=by omega
   by_cases hsh:m.length<k
   ·rw[show GJ m k=⟨3,0,[],[],m⟩ from by unfold GJ;rw[if_neg hbig,if_pos hsh]];go_enter Tryz.func174,Tryz.ntmps174
    go_wp2_with fail
    rw[<-hw1];replace hw1:=AB hw1;go_wp2_with fail
    go_call T as e w2 ⟨P2,tA,tc,lA,lc,rfl,my2,A2,cap2,R2⟩
    clear my2;have K2:=K.only P2 (by simp;omega);have hfd:=VO;have O2:Only [g] w w2:=(P1.mono (by simp)).trans P2 (by simp);have g1:w2.cell? ⟨g,1,none⟩=some (.int .i64 0):=R2.blk.cell 1;go_wp2_with fail
    go_call (QR w2 g A2 cap2 m k R2 hsh (by omega)) as e w3 ⟨rfl,R3,P3⟩
    go_wp2_with fail
    go_call (TA w3 none [] 0 (fun h=>absurd h (by simp)) (by simp)) as e w4 ⟨P4,A4,c4,rfl,B4⟩
    have K4:=(K2.only P3 (by simp;omega)).only P4 (by simp);obtain⟨c0,f0,c1,f1,c2,f2,c3,f3⟩:=qF K4 0;go_wp2_with fail
    (try simp only[Exit.inBlock,Exit.then])
    have z3:=P2.size;have z4:=P3.size;have Q4:=W4.only w4 w.heap.size (.int .i64 0) (.int .u32 0) (.slice A4 0 c4) (.slice none 0 0);have O4:=((O2.trans P3 (by simp)).trans P4 (by simp)).trans Q4 (by simp);exact AS (v0:=.int .i64 0) (v1:=.int .u32 0) (v2:=.slice A4 0 c4) (v3:=.slice none 0 0) rfl (by rfl) (by rfl) (W4.blk K4 _ _ _ _) (QN (text:=[]) O4 ((R3.only P4).far4 Q4 hgl) (B4.onlyG Q4 (by omega)) (by omega))
   ·rw[show GJ m k=⟨0,0,m.take k,[],m.drop k⟩ from by unfold GJ;rw[if_neg hbig,if_neg hsh]];have hkl:(m.take k).length=k:=by simp;omega
    go_enter Tryz.func174,Tryz.ntmps174
    go_wp2_with fail
    rw[<-hw1];replace hw1:=AB hw1;go_wp2_with fail
    go_call T as e w2 ⟨P2,tA,tc,lA,lc,rfl,my2,A2,cap2,R2⟩
    clear my2;have K2:=K.only P2 (by simp;omega);have hfd:=VO;have O2:Only [g] w w2:=(P1.mono (by simp)).trans P2 (by simp);have g1:w2.cell? ⟨g,1,none⟩=some (.int .i64 0):=R2.blk.cell 1;go_wp2_with fail
    go_call (eB w2 g A2 cap2 m k R2 (by omega)) as e w3 ⟨rfl,P3,D3,A3,cap3,R3⟩
    have C4:=TA w3 A2 (m.take k) cap2 D3 (by omega);rw[hkl] at C4;go_wp2_with fail
    go_call C4 as e w4 ⟨P4,A4,c4,rfl,B4⟩
    have K4:=(K2.only P3 (by simp;omega)).only P4 (by simp);obtain⟨c0,f0,c1,f1,c2,f2,c3,f3⟩:=qF K4 0;go_wp2_with fail
    (try simp only[Exit.inBlock,Exit.then])
    have z3:=P2.size;have z4:=P3.size;have Q4:=W4.only w4 w.heap.size (.int .i64 0) (.int .u32 0) (.slice A4 k c4) (.slice none 0 0);have O4:=((O2.trans P3 (by simp)).trans P4 (by simp)).trans Q4 (by simp);have RR:=QN (text:=m.take k) O4 ((R3.only P4).far4 Q4 hgl) (B4.onlyG Q4 (by omega)) (by omega);rw[hkl] at RR;exact AS (v0:=.int .i64 0) (v1:=.int .u32 0) (v2:=.slice A4 k c4) (v3:=.slice none 0 0) rfl (by rfl) (by rfl) (W4.blk K4 _ _ _ _) RR
end Go.Proofs.YtfbhemmpobgdpaaGreatDoor
namespace Go.Proofs.YtfbhemmpobgdpaaGreatDoor
open Go.RowKit
def UY (l:List Int):R:=⟨GQ l.length 33792 6,0,l,[],[]⟩
theorem rest_any (w:World) (g:Nat) (A:Option Addr) (cap:Nat) (l:List Int) (h:RdrV w g A cap l 0) (hlen:l.length<=140737488355000) :
  Calls Tryz.prog 180 #[.pointer (some ⟨g,0,none⟩)] w (KD w g (UY l)):=by
 obtain⟨w1,hw1⟩:=qY (w.alloc (.cells #[.int .i64 0,.int .u32 0,.slice none 0 0,.slice none 0 0] 153));have P1:Only [] w w1:=by rw[hw1];exact(zR _ _).alloc _
 have K:Blk w1 w.heap.size 153 [.int .i64 0,.int .u32 0,.slice none 0 0,.slice none 0 0]:=by rw[hw1];exact Blk.new w _ _
 have h1:=h.only P1;have hgl:=h.blk.lt;have hq1:=K.lt;have C:=TA w1 A l cap h1.rd hlen;have z1:=P1.size;obtain⟨E,hE⟩:=qX (GQ l.length 33792 6);unfold UY;rw[hE];replace hE:=AB hE;have g0:w.cell? ⟨g,0,none⟩=some (.slice A l.length cap):=h.blk.cell 0;go_enter Tryz.func180,Tryz.ntmps180
 go_wp2_with fail
 rw[<-hw1];replace hw1:=AB hw1;go_call C as e w2 ⟨P2,A2,cc,rfl,B2⟩
 have K2:=K.only P2 (by simp);have R2:=h1.only P2;have O2:Only [] w w2:=P1.trans P2 (by simp);obtain⟨w3,hw3⟩:=qY (w2.alloc (.cells #[.int .i64 0,.int .u32 0,.slice A2 l.length cc,.slice none 0 0] 153));have P3:Only [] w2 w3:=by rw[hw3];exact(zR _ _).alloc _
 have K3:=K2.only P3 (by simp);have F3:Blk w3 w2.heap.size 153 [.int .i64 0,.int .u32 0,.slice A2 l.length cc,.slice none 0 0]:=by rw[hw3];exact Blk.new w2 _ _
 have R3:=R2.only P3;have B3:Bs w3 w1.heap.size A2 l cc:=B2.only P3;have z2:=P2.size;have z3:=F3.lt;have Y:=PV (f:=⟨0,0,A2,cc,l,none,0,[]⟩) (w:=w3) ⟨B3.rd,RdG.nil,B3.le,B3.max,by simp,by simp,by simp⟩;unfold FD.val at Y;dsimp only[List.length_nil] at Y;rw[hE.out] at Y;clear hE C g0;go_wp2_with fail
 try rw[<-hw3]
 replace hw3:=AB hw3;have d0:w3.cell? ⟨w2.heap.size,0,none⟩=some (.int .i64 0):=F3.cell 0;have d1:w3.cell? ⟨w2.heap.size,1,none⟩=some (.int .u32 0):=F3.cell 1;have d2:w3.cell? ⟨w2.heap.size,2,none⟩=some (.slice A2 l.length cc):=F3.cell 2;have d3:w3.cell? ⟨w2.heap.size,3,none⟩=some (.slice none 0 0):=F3.cell 3;go_wp2_with fail
 go_call Y as e w4 ⟨rfl,P4⟩
 have R4:=R3.only P4;have K4:=K3.only P4 (by simp);have F4:=F3.only P4 (by simp);have B4:Bs w4 w1.heap.size A2 l cc:=B3.only P4;clear d0 d1 d2 d3;have d0:w4.cell? ⟨w2.heap.size,0,none⟩=some (.int .i64 0):=F4.cell 0;have d1:w4.cell? ⟨w2.heap.size,1,none⟩=some (.int .u32 0):=F4.cell 1;have d2:w4.cell? ⟨w2.heap.size,2,none⟩=some (.slice A2 l.length cc):=F4.cell 2;have d3:w4.cell? ⟨w2.heap.size,3,none⟩=some (.slice none 0 0):=F4.cell 3;have g0:w4.cell? ⟨g,0,none⟩=some (.slice A l.length cap):=R4.blk.cell 0;have g1:w4.cell? ⟨g,1,none⟩=some (.int .i64 0):=R4.blk.cell 1;have h0:=R4.blk.frozen 0;have h2:=R4.blk.frozen 1;have hn1: ¬g=w2.heap.size:=by omega
 have hn2: ¬w2.heap.size=g:=by omega
 have hn3: ¬g=w.heap.size:=by omega
 have hn4: ¬w.heap.size=g:=by omega
 obtain⟨c0,f0,c1,f1,c2,f2,c3,f3⟩:=qF K4 0;go_wp2_with fail
 (try simp only[Exit.inBlock,Exit.then])
 obtain⟨w5,hw5⟩:=qY ((w4.setCell ⟨g,1,none⟩ (.int .i64 E)).setCell ⟨g,0,none⟩ (.slice none 0 0));have P5:Only [g] w4 w5:=by rw[hw5];exact((Only.refl [g] w4).setCell (p:=⟨g,1,none⟩) (.inl (by simp)) _).setCell (p:=⟨g,0,none⟩) (.inl (by simp)) _
 have R5:RdrV w5 g none 0 [] E:=⟨by rw[hw5];exact(R4.blk.set_ 1 _).set_ 0 _,fun h=>absurd h (by simp),by simp,by simp,fun a ha=>by cases ha⟩;have K5:=K4.only P5 (by simp;omega);have Q5:=W4.only w5 w.heap.size (.int .i64 0) (.int .u32 0) (.slice A2 l.length cc) (.slice none 0 0);have O5:Only [g] w w5:=(((O2.trans P3 (by simp)).trans P4 (by simp)).mono (by simp)).trans P5 (by simp);rw[<-hw5];exact AS (v0:=.int .i64 0) (v1:=.int .u32 0) (v2:=.slice A2 l.length cc) (v3:=.slice none 0 0) rfl (by rfl) (by rfl) (W4.blk K5 _ _ _ _) (QN (text:=l) (O5.trans Q5 (by simp)) (R5.far4 Q5 hgl) ((B4.onlyG P5 (by omega)).onlyG Q5 (by omega)) (by omega))
end Go.Proofs.YtfbhemmpobgdpaaGreatDoor
namespace Go.Proofs.YtfbhemmpobgdpaaGreatDoor
open Go.RowKit
def CP (s:ByteArray):List ByteArray:=Lib.splitB ⟨#[44]⟩ 0 (Lib.countB s ⟨#[44]⟩) s
def GE (r:R):R:=if r.e≠0 then⟨r.e,0,[],[],r.rest⟩ else if r.text=[] then⟨0,0,[],[],r.rest⟩ else⟨BS (CP (strOfNums r.text)),0,[],CP (strOfNums r.text),r.rest⟩
def EC (l:List Int):R:=GE (CE l)
theorem QK (l:List Int):(CE l).text.length<=32768/\(CE l).list=[]/\(CE l).n=0:=by
 unfold CE GJ DN;split;·simp
 ·split;·simp
  ·split;·simp
   ·refine⟨?_,rfl,rfl⟩;simp;omega
theorem VC (sep:ByteArray): ∀(k:Nat) (s:ByteArray),∀p∈Lib.splitB sep 0 k s,p.size<=s.size
 |0,s=>by intro p hp;simp[Lib.splitB] at hp;subst hp;exact qL _
 |k+1,s=>by
  intro p hp;unfold Lib.splitB at hp;split at hp;·simp at hp;subst hp;exact qL _
  ·simp only[qC] at hp;rcases hp with rfl|hp;·simp;omega
   ·have:=VC sep k _ p hp;simp at this;omega
theorem bD (s:ByteArray):(CP s).length=Lib.countB s ⟨#[44]⟩+1/\(CP s).length<=s.size+1/\∀p∈CP s,p.size<=s.size:=by
 have h1:=Lib.splitB_all ⟨#[44]⟩ (by decide) 0 _ s rfl;have h2:=Lib.countB_mul_le ⟨#[44]⟩ (by decide) _ s (qL _);have h3:(⟨#[44]⟩:ByteArray).size=1:=rfl;rw[h3,Nat.mul_one] at h2;refine⟨h1,by unfold CP;omega,VC _ _ _⟩
theorem split_any (s:ByteArray) (m:Int) (w:World) (hs:s.size<=32768) (hm:w.cell? ⟨0,0,none⟩=some (.int .i64 m)) :
  Calls Tryz.prog 199 #[.string s,.string ⟨#[44]⟩] w fun e w'=>e = .returned (.slice (some ⟨w.heap.size,0,none⟩) (CP s).length (CP s).length)/\Only [] w w'/\RdS w' (some ⟨w.heap.size,0,none⟩) (CP s):=by
 refine(Tryz.strings_Split s ⟨#[44]⟩ m w (by omega) hm (by decide)).mono fun e w' ⟨he,hw⟩=>⟨?_,?_,?_⟩;·rw[he,(bD s).1]
 ·rw[hw];exact(zR _ _).alloc _
 ·intro _;refine⟨w.heap.size,0,rfl,by rw[hw];simp,fun i x hx=>?_⟩;rw[hw];have:=(Blk.new w 9 ((CP s).map Value.string)).cell (0+i);rw[Nat.zero_add] at this⊢;refine Eq.trans this ?_;simp[hx]
theorem names_any (w:World) (g:Nat) (A:Option Addr) (cap:Nat) (l:List Int) (m:Int) (hm:w.cell? ⟨0,0,none⟩=some (.int .i64 m)) (h:RdrV w g A cap l 0) (hl: ∀x∈l,0<=x/\x<256) :
  Calls Tryz.prog 177 #[.pointer (some ⟨g,0,none⟩)] w (KD w g (EC l)):=by
 obtain⟨w1,hw1⟩:=qY (w.alloc (.cells #[.int .i64 0,.int .u32 0,.slice none 0 0,.slice none 0 0] 153));have P1:Only [] w w1:=by rw[hw1];exact(zR _ _).alloc _
 have K:Blk w1 w.heap.size 153 [.int .i64 0,.int .u32 0,.slice none 0 0,.slice none 0 0]:=by rw[hw1];exact Blk.new w _ _
 have h1:=h.only P1;have hgl:=h.blk.lt;have hq1:=K.lt;have T:=iI w1 g A cap l h1 hl;obtain⟨htx,hli,hn⟩:=QK l;unfold EC;obtain⟨r,hr⟩:=qX (CE l);rw[hr] at T htx hli hn⊢;clear hr;obtain⟨E,n,tx,ls,rest⟩:=r;dsimp only at htx hli hn;subst hli;subst hn;by_cases hE:E=0
 ·by_cases htx0:tx=[]
  ·subst hE;subst htx0;rw[show GE ⟨0,0,[],[],rest⟩=⟨0,0,[],[],rest⟩ from rfl];have hE2:((0:Int)!=0)=false:=rfl;obtain⟨E,hEE⟩: ∃E:Int,E=0:=⟨_,rfl⟩;unfold KD FD.val at T;dsimp only[List.length_nil] at T;subst hEE;go_enter Tryz.func177,Tryz.ntmps177
   go_wp2_with fail
   rw[<-hw1];replace hw1:=AB hw1;go_wp2_with fail
   go_call T as e w2 ⟨P2,tA,tc,lA,lc,rfl,my2,A2,cap2,R2⟩
   have K2:=K.only P2 (by simp;omega);have O2:Only [g] w w2:=(P1.mono (by simp)).trans P2 (by simp);obtain⟨w3,hw3⟩:=qY (w2.alloc (.cells #[.int .i64 0,.int .u32 0,.slice tA 0 tc,.slice lA 0 lc] 153));have P3:Only [] w2 w3:=by rw[hw3];exact(zR _ _).alloc _
   have K3:=K2.only P3 (by simp);have F3:Blk w3 w2.heap.size 153 [.int .i64 0,.int .u32 0,.slice tA 0 tc,.slice lA 0 lc]:=by rw[hw3];exact Blk.new w2 _ _
   have R3:=R2.only P3;have z1:=P1.size;have z2:=P2.size;have z3:=F3.lt;have O3:Only [g] w w3:=O2.trans P3 (by simp);have g1:w2.cell? ⟨g,1,none⟩=some (.int .i64 0):=R2.blk.cell 1;have hg2:g<w2.heap.size:=by omega
   have hq2:w.heap.size<w2.heap.size:=by omega
   have hn1: ¬g=w2.heap.size:=by omega
   have hn2: ¬w2.heap.size=g:=by omega
   have hn3: ¬g=w.heap.size:=by omega
   have hn4: ¬w.heap.size=g:=by omega
   have hn5: ¬w2.heap.size=w.heap.size:=by omega
   have hn6: ¬w.heap.size=w2.heap.size:=by omega
   obtain⟨c0,f0,c1,f1,c2,f2,c3,f3⟩:=qF K2 0;go_wp2_with fail
   (try simp only[Exit.inBlock,Exit.then])
   have Q4:=W4.only w2 w.heap.size (.int .i64 0) (.int .u32 0) (.slice none 0 0) (.slice none 0 0);exact AS (v0:=.int .i64 0) (v1:=.int .u32 0) (v2:=.slice none 0 0) (v3:=.slice none 0 0) rfl (by rfl) (by rfl) ((W4.blk K2 _ _ _ _).alloc _) (EK ((O2.trans Q4 (by simp)).alloc _) ((R2.far4 Q4 hgl).only ((zR _ _).alloc _)))
  ·subst hE;rw[show GE ⟨0,0,tx,[],rest⟩=⟨BS (CP (strOfNums tx)),0,[],CP (strOfNums tx),rest⟩ from by unfold GE;rw[if_neg (by simp),if_neg htx0]];have hE2:((0:Int)!=0)=false:=rfl;obtain⟨k,hkk⟩:=qX tx.length;have hk0: ¬k=0:=by rw[<-hkk];simpa using htx0
   have hk1:((k:Int)==0)=false:=beq_eq_false_iff_ne.2 (by omega);obtain⟨s,hs⟩:=qX (strOfNums tx);have hsz:s.size<=32768:=by rw[<-hs,strOfNums_size];exact htx
   obtain⟨q1,q2,q3⟩:=bD s;unfold KD FD.val at T;dsimp only[List.length_nil] at T;rw[hkk] at T;obtain⟨ps,hps⟩:=qX (CP s);obtain⟨N,hN⟩:=qX ps.length;obtain⟨E,hEn⟩:=qX (BS ps);rw[hs,hps,hEn];rw[hps] at q1 q2 q3;have hg0:g≠0:=by
    rintro rfl;have:=h.blk.cell 0;rw[hm] at this;simp at this
   replace hs:=AB hs;replace hps:=AB hps;replace hN:=AB hN;replace hEn:=AB hEn;replace hkk:=AB hkk;go_enter Tryz.func177,Tryz.ntmps177
   go_wp2_with fail
   rw[<-hw1];replace hw1:=AB hw1;go_wp2_with fail
   go_call T as e w2 ⟨P2,tA,tc,lA,lc,rfl,my2,A2,cap2,R2⟩
   have K2:=K.only P2 (by simp;omega);have O2:Only [g] w w2:=(P1.mono (by simp)).trans P2 (by simp);obtain⟨w3,hw3⟩:=qY (w2.alloc (.cells #[.int .i64 0,.int .u32 0,.slice tA k tc,.slice lA 0 lc] 153));have P3:Only [] w2 w3:=by rw[hw3];exact(zR _ _).alloc _
   have K3:=K2.only P3 (by simp);have F3:Blk w3 w2.heap.size 153 [.int .i64 0,.int .u32 0,.slice tA k tc,.slice lA 0 lc]:=by rw[hw3];exact Blk.new w2 _ _
   have R3:=R2.only P3;have z1:=P1.size;have z2:=P2.size;have z3:=F3.lt;have O3:Only [g] w w3:=O2.trans P3 (by simp);have g1:w2.cell? ⟨g,1,none⟩=some (.int .i64 0):=R2.blk.cell 1;have hg2:g<w2.heap.size:=by omega
   have hq2:w.heap.size<w2.heap.size:=by omega
   have hn1: ¬g=w2.heap.size:=by omega
   have hn2: ¬w2.heap.size=g:=by omega
   have hn3: ¬g=w.heap.size:=by omega
   have hn4: ¬w.heap.size=g:=by omega
   have hn5: ¬w2.heap.size=w.heap.size:=by omega
   have hn6: ¬w.heap.size=w2.heap.size:=by omega
   obtain⟨c0,f0,c1,f1,c2,f2,c3,f3⟩:=qF K2 0;have tk:0<tx.length:=by rw[hkk.out];omega
   obtain⟨b,off,rfl,hb,hcb⟩:=(my2.ok.only P3).text tk;have hm1:w3.cell? ⟨0,0,none⟩=some (.int .i64 m):=BJ O3 (by omega) (by simpa using Ne.symm hg0) hm;have kc:(convert 30 9 (.slice (some ⟨b,off,none⟩) k tc)).run Tryz.prog w3 = .ok (.string s) w3:=by
    rw[<-hs.out];exact run_convert_bytes_arg (P:=Tryz.prog) w3 30 5 (by kernel_rfl) (by kernel_rfl) b off k tc tx hkk.out (fun i hi=>by
     have hx:tx[i]? = some (tx[i]'(by rw[hkk.out];omega)):=List.getElem?_eq_getElem _;have:=hcb i _ hx;rw[this];simp[List.getD,hx]) 9 (by kernel_rfl)
   rw[hw3] at kc;go_wp2_with fail
   rw[<-hw3];rw[<-hw3] at kc;replace hw3:=AB hw3;have SP:=split_any s m w3 hsz hm1;rw[hps.out,hN.out] at SP;go_call SP as e w4 ⟨rfl,P4,S4⟩
   have F4:=F3.only P4 (by simp);have K4:=K3.only P4 (by simp);have R4:=R3.only P4;clear c0 c1 c2 c3 f0 f1 f2 f3 g1;have d0:w4.cell? ⟨w2.heap.size,0,none⟩=some (.int .i64 0):=F4.cell 0;have d1:w4.cell? ⟨w2.heap.size,1,none⟩=some (.int .u32 0):=F4.cell 1;have d2:w4.cell? ⟨w2.heap.size,2,none⟩=some (.slice (some ⟨b,off,none⟩) k tc):=F4.cell 2;have d3:w4.cell? ⟨w2.heap.size,3,none⟩=some (.slice lA 0 lc):=F4.cell 3;have e0:=F4.frozen 0;have e1:=F4.frozen 1;have e2:=F4.frozen 2;have e3:=F4.frozen 3;obtain⟨w5,hw5⟩:=qY (W4 w4 w2.heap.size (.int .i64 0) (.int .u32 0) (.slice none 0 0) (.slice (some ⟨w3.heap.size,0,none⟩) N N));have P5:Only [w2.heap.size] w4 w5:=by rw[hw5];exact W4.only _ _ _ _ _ _
   have F5:Blk w5 w2.heap.size 153 [.int .i64 0,.int .u32 0,.slice none 0 0,.slice (some ⟨w3.heap.size,0,none⟩) N N]:=by rw[hw5];exact W4.blk F4 _ _ _ _
   have K5:=K4.only P5 (by simp;omega);have R5:=R4.far4 P5 hg2;have S5:RdS w5 (some ⟨w3.heap.size,0,none⟩) ps:=S4.onlyL P5 (fun a ha _=>by injection ha with ha;subst ha;simp;omega);have ok5:FD.ok w5 ⟨0,0,none,0,[],some ⟨w3.heap.size,0,none⟩,N,ps⟩:=⟨RdG.nil,S5,by simp,by simp,by rw[hN.out];exact qL _,by have:=hN.out;simp only;unfold maxLen;omega,fun p hp=>by have:=q3 p hp;unfold maxLen;omega⟩;have new5:FD.new ⟨0,0,none,0,[],some ⟨w3.heap.size,0,none⟩,N,ps⟩ w3.heap.size:=⟨fun a ha=>by simp at ha,fun a ha=>by injection ha with ha;subst ha;exact qL _⟩;have my5:FD.mine w5 ⟨0,0,none,0,[],some ⟨w3.heap.size,0,none⟩,N,ps⟩ w3.heap.size:=⟨ok5,new5,fun a ha=>by simp at ha⟩;have Y:=NU ⟨0,0,none,0,[],some ⟨w3.heap.size,0,none⟩,N,ps⟩ w5 ok5;unfold FD.val at Y;dsimp only[List.length_nil] at Y;rw[hEn.out,hN.out] at Y;have z4:=P4.size;have z5:=P5.size;unfold W4 at hw5;go_wp2_with fail
   rw[<-hw5];replace hw5:=AB hw5;go_call Y as e w6 ⟨rfl,P6⟩
   have F6:=F5.only P6 (by simp);have K6:=K5.only P6 (by simp);have R6:=R5.only P6;have O6:Only [g] w w6:=((O3.trans P4 (by simp)).trans P5 (by simp;omega)).trans P6 (by simp);clear d0 d1 d2 d3 e0 e1 e2 e3;have g1:w6.cell? ⟨g,1,none⟩=some (.int .i64 0):=R6.blk.cell 1;have gf1:=R6.blk.frozen 1;have d0:w6.cell? ⟨w2.heap.size,0,none⟩=some (.int .i64 0):=F6.cell 0;have d1:w6.cell? ⟨w2.heap.size,1,none⟩=some (.int .u32 0):=F6.cell 1;have d2:w6.cell? ⟨w2.heap.size,2,none⟩=some (.slice none 0 0):=F6.cell 2;have d3:w6.cell? ⟨w2.heap.size,3,none⟩=some (.slice (some ⟨w3.heap.size,0,none⟩) N N):=F6.cell 3;obtain⟨c0,f0,c1,f1,c2,f2,c3,f3⟩:=qF K6 0;go_wp2_with fail
   (try simp only[Exit.inBlock,Exit.then])
   obtain⟨R7,P7⟩:=R6.fault E;have K7:=K6.far (p:=⟨g,1,none⟩) (by simp only;omega) (.int .i64 E);have Q8:=W4.only (w6.setCell ⟨g,1,none⟩ (.int .i64 E)) w.heap.size (.int .i64 0) (.int .u32 0) (.slice none 0 0) (.slice (some ⟨w3.heap.size,0,none⟩) N N);have RR:KD w g ⟨E,0,[],ps,rest⟩ (.returned (.agg #[.int .i64 0,.int .u32 0,.slice none 0 0,.slice (some ⟨w3.heap.size,0,none⟩) N N])) (W4 (w6.setCell ⟨g,1,none⟩ (.int .i64 E)) w.heap.size (.int .i64 0) (.int .u32 0) (.slice none 0 0) (.slice (some ⟨w3.heap.size,0,none⟩) N N)):=
    ⟨(O6.trans P7 (by simp)).trans Q8 (by simp),none,0,some ⟨w3.heap.size,0,none⟩,N,by unfold FD.val;rw[hN.out];rfl,(((my5.only P6).onlyL P7 (by omega)).onlyL Q8 (by omega)).mono (by omega),A2,cap2,R7.far4 Q8 hgl⟩
   exact AS (v0:=.int .i64 0) (v1:=.int .u32 0) (v2:=.slice none 0 0) (v3:=.slice (some ⟨w3.heap.size,0,none⟩) N N) rfl (by rfl) (by rfl) (W4.blk K7 _ _ _ _) RR
 ·rw[show GE ⟨E,0,tx,[],rest⟩=⟨E,0,[],[],rest⟩ from if_pos hE];have hE2:(E !=0)=true:=by simpa using hE
  obtain⟨k,hkk⟩:=qX tx.length;unfold KD FD.val at T;dsimp only[List.length_nil] at T;rw[hkk] at T;clear hkk;go_enter Tryz.func177,Tryz.ntmps177
  go_wp2_with fail
  rw[<-hw1];replace hw1:=AB hw1;go_wp2_with fail
  go_call T as e w2 ⟨P2,tA,tc,lA,lc,rfl,my2,A2,cap2,R2⟩
  have K2:=K.only P2 (by simp;omega);have O2:Only [g] w w2:=(P1.mono (by simp)).trans P2 (by simp);obtain⟨w3,hw3⟩:=qY (w2.alloc (.cells #[.int .i64 0,.int .u32 0,.slice tA k tc,.slice lA 0 lc] 153));have P3:Only [] w2 w3:=by rw[hw3];exact(zR _ _).alloc _
  have K3:=K2.only P3 (by simp);have F3:Blk w3 w2.heap.size 153 [.int .i64 0,.int .u32 0,.slice tA k tc,.slice lA 0 lc]:=by rw[hw3];exact Blk.new w2 _ _
  have R3:=R2.only P3;have z1:=P1.size;have z2:=P2.size;have z3:=F3.lt;have O3:Only [g] w w3:=O2.trans P3 (by simp);have g1:w2.cell? ⟨g,1,none⟩=some (.int .i64 E):=R2.blk.cell 1;have hg2:g<w2.heap.size:=by omega
  have hq2:w.heap.size<w2.heap.size:=by omega
  have hn1: ¬g=w2.heap.size:=by omega
  have hn2: ¬w2.heap.size=g:=by omega
  have hn3: ¬g=w.heap.size:=by omega
  have hn4: ¬w.heap.size=g:=by omega
  have hn5: ¬w2.heap.size=w.heap.size:=by omega
  have hn6: ¬w.heap.size=w2.heap.size:=by omega
  obtain⟨c0,f0,c1,f1,c2,f2,c3,f3⟩:=qF K2 0;go_wp2_with fail
  (try simp only[Exit.inBlock,Exit.then])
  have Q4:=W4.only w2 w.heap.size (.int .i64 0) (.int .u32 0) (.slice none 0 0) (.slice none 0 0);exact AS (v0:=.int .i64 0) (v1:=.int .u32 0) (v2:=.slice none 0 0) (v3:=.slice none 0 0) rfl (by rfl) (by rfl) ((W4.blk K2 _ _ _ _).alloc _) (EK ((O2.trans Q4 (by simp)).alloc _) ((R2.far4 Q4 hgl).only ((zR _ _).alloc _)))
end Go.Proofs.YtfbhemmpobgdpaaGreatDoor
namespace Go.Proofs.YtfbhemmpobgdpaaGreatDoor
open Go.RowKit
def tab:Array Value:=#[.nilFunc,.nilFunc,.nilFunc,
 .func (Fn.func 164) #[] #[],.func (Fn.func 165) #[] #[],.func (Fn.func 166) #[] #[],
 .func (Fn.func 167) #[] #[],.func (Fn.func 165) #[] #[],.func (Fn.func 168) #[] #[],
 .func (Fn.func 169) #[] #[],.func (Fn.func 170) #[] #[],.func (Fn.func 171) #[] #[],
 .func (Fn.func 172) #[] #[],.func (Fn.func 173) #[] #[],.func (Fn.func 174) #[] #[],
 .func (Fn.func 175) #[] #[],.func (Fn.func 176) #[] #[],.func (Fn.func 177) #[] #[],
 .func (Fn.func 178) #[] #[],.func (Fn.func 179) #[] #[],.func (Fn.func 180) #[] #[]]
theorem bS (w:World) :
  Calls Tryz.prog 110 #[] w (fun e w'=>e = .returned (.agg tab)/\Only [] w w'):=by
 have hz:=heap_alloc_new w (.cells (Array.replicate 21 Value.nilFunc) 203);go_enter Tryz.func110,Tryz.ntmps110
 go_wp2_with (refine wpList_store_row rfl 203 (.tmp 0) (.tmp 7) rfl w.heap.size tab rfl rfl 203 (Array.replicate 21 Value.nilFunc) hz (by kernel_rfl) (by kernel_rfl) (by kernel_rfl) ?_)
 (try simp only[Exit.inBlock,Exit.then])
 have hb:Blk ((w.alloc (.cells (Array.replicate 21 Value.nilFunc) 203)).setRow w.heap.size tab) w.heap.size 203 tab.toList:=by
  have:=MR (Blk.new w 203 (List.replicate 21 Value.nilFunc)) tab.toList;exact this
 refine bodyPost_ret (results_cell_row rfl _ _ w.heap.size 203 tab (0,0) _ (by rfl) hb Tryz.underlying203 rfl (by kernel_rfl)) (by rfl) ⟨rfl,?_⟩;exact((Only.refl [] w).alloc _).trans (JC _ _ _) (by simp)
theorem WU:(Tryz.prog.info? 153).map (fun i=>(i.zero,i.size,i.bytes))=some (some (.agg #[.int .i64 0,.int .u32 0,.slice none 0 0,.slice none 0 0]),4,64):=by kernel_rfl
def AZ (fs:List FD):List Value:=fs.flatMap FD.cells
theorem IM (fs:List FD):(AZ fs).length=fs.length*4:=by
 unfold AZ;induction fs with
 |nil=>rfl
 |cons a r ih=>rw[qG,zE,ih,List.length_cons];simp[FD.cells];omega
def FY (w:World) (base:Nat) (v:Value) (fs:List FD):Prop:=w.ownsRow base 153 4 v fs.length (AZ fs)
theorem NW (w:World) (base:Nat):FY w base (.slice none 0 0) []:=World.ownsRow_nil w base _ _
theorem FY.far {w w':World} {base:Nat} {v:Value} {fs:List FD} {L:List Nat} (h:FY w base v fs) (hb:Only L w w') (hL: ∀x∈L,some x≠v.ownBlock):FY w' base v fs:=by
 refine⟨h.1,?_⟩;rcases h.2 with h|⟨g,cap,cur,e,hg,hh,r⟩;·exact .inl h
 ·exact .inr ⟨g,cap,cur,e,hg,(hb.block g (Array.getElem?_eq_some_iff.1 hh).1 (fun hm=>hL g hm (by rw[e];rfl))).trans hh,r⟩
theorem FY.block {w:World} {base:Nat} {v:Value} {fs:List FD} (h:FY w base v fs): ∀k,v.ownBlock=some k->base<=k/\k<w.heap.size:=World.ownsRow.lt h
theorem FY.form {w:World} {base:Nat} {v:Value} {fs:List FD} (h:FY w base v fs): ∃A cap,v = .slice A fs.length cap/\fs.length<=cap/\cap<=maxLen/\
  (0<fs.length->∃b,A=some ⟨b,0,none⟩/\base<=b/\b<w.heap.size/\∀j u,(AZ fs)[j]? = some u->w.cell? ⟨b,j,none⟩=some u):=by
 rcases h.2 with⟨e,hn⟩|⟨g,cap,cur,e,hg,hh,hc,hm,hs,ht⟩;·exact⟨none,0,by rw[e,hn],by omega,by simp[maxLen],fun h0=>by omega⟩
 ·refine⟨some ⟨g,0,none⟩,cap,e,hc,hm,fun _=>⟨g,rfl,hg,(Array.getElem?_eq_some_iff.1 hh).1,fun j u hj=>?_⟩⟩;subst e;have:=World.ownsRow.cells h (g:=g) rfl j u hj;simpa[Addr.add_lit] using this
theorem run_appF {w:World} (ty:TypeId) (base:Nat) (v:Value) (fs:List FD) (hown:FY w base v fs) (q:Nat) (f:FD) (hr:Blk w q 153 f.cells)
  (hlen:fs.length<1000000) (hbase:base<=w.heap.size) :
  ∃A' cap w',(Builtin.append_ #[154,154] ty #[v,.slice (some ⟨q,0,none⟩) 1 1]).run Tryz.prog w = .ok (.slice A' (fs.length+1) cap) w'/\FY w' base (.slice A' (fs.length+1) cap) (fs++[f])/\Only v.ownBlock.toList w w'/\
   LR v (.slice A' (fs.length+1) cap) w.heap.size:=by
 obtain⟨i0,hi,hz0,hz1,hz2⟩:=info_parts WU;have hu:=Tryz.underlying154;have hn: ∀j u,f.cells[j]? = some u->w.cell? ((⟨q,0,none⟩:Addr).add j)=some u:=by
  intro j u hj;rw[Addr.add_lit,Nat.zero_add,hr.cell j];exact hj
 have h1c: ∀u∈f.cells,u.oneCell'=true:=by intro u hu;simp[FD.cells] at hu;rcases hu with rfl|rfl|rfl|rfl<;>rfl
 have hfl:f.cells.length=1*4:=rfl;obtain⟨v',w',e,h1,h2,h3⟩:=run_append_own (P:=Tryz.prog) w base 154 ty 153 i0 _ 4 64 hu hi hz0 hz1 hz2 rfl (by decide) v fs.length (AZ fs) hown ⟨q,0,none⟩ 1 1 f.cells hfl hn h1c (by simp only[maxLen];omega) (by omega) hbase;have hh:FY w' base v' (fs++[f]):=by
  show World.ownsRow _ _ _ _ _ _ _;simpa[AZ,List.flatMap_append] using h1
 have hwh:v'.ownBlock=v.ownBlock\/v'.ownBlock=some w.heap.size:=by
  rcases hown.2 with⟨rfl,hn0⟩|⟨g,cap,cur,rfl,hg,hh,hc,hm,hs,ht⟩
  ·have:=run_append_nil (P:=Tryz.prog) w 154 ty 153 i0 _ hu hi hz0 ⟨q,0,none⟩ 1 1 f.cells (by rw[hz1];rfl) hn (by decide) (by omega) (by rw[hz2];omega);rw[this] at e;injection e with e1 e2;right;rw[<-e1];rfl
  ·by_cases hroom:fs.length+1<=cap
   ·obtain⟨w2,e2,_⟩:=run_append_fits (P:=Tryz.prog) w base 154 ty 153 i0 4 hu hi hz1 g fs.length cap (AZ fs) hown ⟨q,0,none⟩ 1 1 f.cells hfl hn h1c hroom;rw[e2] at e;injection e with e1 _;left;rw[<-e1];rfl
   ·have holds: ∀j u,(AZ fs)[j]? = some u->w.cell? ((⟨g,0,none⟩:Addr).add j)=some u:=World.ownsRow.cells hown (g:=g) rfl;have:=run_append_grow (P:=Tryz.prog) w 154 ty 153 i0 _ hu hi hz0 ⟨g,0,none⟩ fs.length cap (AZ fs) (by rw[hz1];exact IM fs) holds ⟨q,0,none⟩ 1 1 f.cells (by rw[hz1];rfl) hn (by omega) (by omega) (growslice_fits (by omega) (by rw[hz2];omega));rw[this] at e;injection e with e1 _;right;rw[<-e1];rfl
 obtain⟨A',cap,rfl,_⟩:=hh.form;rw[zE] at *;exact⟨A',cap,w',e,hh,GP h2,hwh⟩
theorem OT {w:World} {ops:Array Oper} {rest:List Oper} {o:Oper} {a:Act} {Q:Exit->Act->World->Prop} (hgd:o.guard=none) (s x:Operand)
  (ho:o.op = .call { callee:=.builtin .append,args:=#[s,x],argTypes:=#[154,154] })
  (base:Nat) (v:Value) (fs:List FD) (hs:a.eval s=v) (hown:FY w base v fs) (q:Nat) (f:FD) (hx:a.eval x = .slice (some ⟨q,0,none⟩) 1 1) (hr:Blk w q 153 f.cells)
  (hlen:fs.length<1000000) (hbase:base<=w.heap.size)
  (h: ∀A' cap w',Hid (FY w' base (.slice A' (fs.length+1) cap) (fs++[f]))->Only v.ownBlock.toList w w'->Hid (LR v (.slice A' (fs.length+1) cap) w.heap.size)->wpList Tryz.prog ops Q rest (a.put o.dst (.slice A' (fs.length+1) cap)) w'):wpList Tryz.prog ops Q (o::rest) a w:=by
 refine wpList_plain hgd fun K hK=>?_;obtain⟨A',cap,w',hrun,h1,h2,h3⟩:=run_appF o.type base v fs hown q f hr hlen hbase;unfold Oper.wp execOp;simp only[ho,resolve,invoke,builtin,Sem.run_bind,Sem.run_pure,Result.andThen_ok,List.map_toArray,List.map_cons,List.map_nil,hs,hx,hrun];exact hK _ _ (h A' cap w' h1 h2 h3)
def BC (k:Nat) (l:List Int):R:=if k=1 then CM l else if k=2 then OE l else if k=3 then CR l else if k=4 then CE l else if k=5 then EC l else UY l
theorem UX (l:List Int): ∃n,(CM l).rest=l.drop n:=by
 unfold CM DN;split;·exact⟨0,by simp⟩
 ·exact⟨1,rfl⟩
theorem dP (l:List Int): ∃n,(CR l).rest=l.drop n:=by
 unfold CR DN;split;·exact⟨0,by simp⟩
 ·exact⟨4,rfl⟩
theorem XY (l:List Int): ∃n,(CE l).rest=l.drop n:=by
 unfold CE GJ DN;split;·exact⟨0,by simp⟩
 ·split;·exact⟨4,rfl⟩
  ·split;·exact⟨4,rfl⟩
   ·exact⟨4+(be4 l).toNat,by simp⟩
theorem gK (l:List Int): ∃n,(EC l).rest=l.drop n:=by
 obtain⟨n,h⟩:=XY l;refine⟨n,?_⟩;unfold EC GE;split;·exact h
 ·split;·exact h
  ·exact h
theorem QJ (k:Nat) (l:List Int): ∃n,(BC k l).rest=l.drop n:=by
 unfold BC;split;·exact UX l
 split;·exact UX l
 split;·exact dP l
 split;·exact XY l
 split;·exact gK l
 ·exact⟨l.length,by simp[UY]⟩
theorem kind_any (k:Nat) (h1:1<=k) (h6:k<=6): ∃F:FuncId,tab[k*3+2]? = some (.func (Fn.func F) #[] #[])/\(∀(args:Array Value) (w:World),(callFunc F args).run Tryz.prog w = .ok (.enter F args) w)/\
  ∀(w:World) (g:Nat) (A:Option Addr) (cap:Nat) (l:List Int) (m:Int),w.cell? ⟨0,0,none⟩=some (.int .i64 m)->RdrV w g A cap l 0->(∀x∈l,0<=x/\x<256)->l.length<=140737488355000->
   Calls Tryz.prog F #[.pointer (some ⟨g,0,none⟩)] w (KD w g (BC k l)):=by
 have hk:k=1\/k=2\/k=3\/k=4\/k=5\/k=6:=by omega
 rcases hk with rfl|rfl|rfl|rfl|rfl|rfl;·exact⟨166,rfl,fun args w=>by kernel_rfl,fun w g A cap l m _ h hl _=>aY w g A cap l h hl⟩
 ·exact⟨168,rfl,fun args w=>by kernel_rfl,fun w g A cap l m _ h hl _=>flag_any w g A cap l h hl⟩
 ·exact⟨171,rfl,fun args w=>by kernel_rfl,fun w g A cap l m _ h hl _=>XN w g A cap l h hl⟩
 ·exact⟨174,rfl,fun args w=>by kernel_rfl,fun w g A cap l m _ h hl _=>iI w g A cap l h hl⟩
 ·exact⟨177,rfl,fun args w=>by kernel_rfl,fun w g A cap l m hm h hl _=>names_any w g A cap l m hm h hl⟩
 ·exact⟨180,rfl,fun args w=>by kernel_rfl,fun w g A cap l m _ h _ hn=>rest_any w g A cap l h hn⟩
structure PF where
  kind : Int
  n : Int
  text : List Int
  list : List ByteArray
def FD.pf (f:FD):PF:=⟨f.kind,f.n,f.text,f.list⟩
def AY:List Int->List Int->List PF->Int×List PF
 |[],l,acc=>if 0<l.length then(4,[]) else(0,acc)
 |k::ks,l,acc=>if(BC k.toNat l).e≠0 then((BC k.toNat l).e,[]) else AY ks (BC k.toNat l).rest (acc++[⟨k,(BC k.toNat l).n,(BC k.toNat l).text,(BC k.toNat l).list⟩])
def AR (ks l:List Int):Int×List PF:=if GS ks then AY ks l [] else(2,[])
theorem dJ {k:Int} (h:JJ k=true):1<=k/\k<=6:=by
 unfold JJ at h;simp at h;omega
theorem SN {ks:List Int} (h:GS ks=true) {i:Nat} {k:Int} (hk:ks[i]? = some k):1<=k/\k<=6:=by
 have hi:i<ks.length:=(List.getElem?_eq_some_iff.1 hk).1;have:=MM.1 h i hi;unfold HK at this;rw[Bool.and_eq_true] at this;have h2:=this.1;rw[show ks.getD i 0=k by simp[List.getD,hk]] at h2;exact dJ h2
def WE (w:World) (res:Int×List PF):Ending->World->Prop:=fun E w'=>
 Only [] w w'/\∃A cap fs,E = .returned (.tuple #[.slice A fs.length cap,.int .i64 res.1])/\fs.map FD.pf=res.2/\FY w' w.heap.size (.slice A fs.length cap) fs/\
  ∀f∈fs,FD.mine w' f w.heap.size/\f.far w.heap.size (.slice A fs.length cap)
theorem LU (w w':World) (e:Int) (h:Only [] w w'):WE w (e,[]) (.returned (.tuple #[.slice none 0 0,.int .i64 e])) w':=
 ⟨h,none,0,[],rfl,rfl,NW _ _,fun f hf=>by simp at hf⟩
theorem RdrV.farL {w w':World} {g:Nat} {L:List Nat} {A:Option Addr} {cap:Nat} {l:List Int} {e:Int} (h:RdrV w g A cap l e) (hb:Only L w w') (hq: ∀x∈L,g<x):RdrV w' g A cap l e:=
 { h with
  blk:=h.blk.only hb (fun hm=>by have:=hq _ hm;omega)
  rd:=RdG.onlyL (mk:=.int .u8) h.rd hb (fun a ha h0 hm=>by have h1:=h.far a ha h0;have h2:=hq _ hm;omega) }
theorem FD.mine.off {w w':World} {f:FD} {B:Nat} {L:List Nat} (h:FD.mine w f B) (hb:Only L w w') (h1: ∀a,f.tA=some a->0<f.text.length->a.block∉L) (h2: ∀a,f.lA=some a->0<f.list.length->a.block∉L):FD.mine w' f B:=
 { h with
  ok:={ h.ok with text:=h.ok.text.onlyL hb h1,list:=h.ok.list.onlyL hb h2 }
  soft:=fun a ha i hi=>by
   obtain⟨b,off,e,hlt,_⟩:=h.ok.text (by omega);rw[ha] at e;injection e with e;refine(World.frozen?_of_block (w:=w) ?_).trans (h.soft a ha i hi);rw[IA];exact hb.block _ (by rw[e];exact hlt) (h1 a ha (by omega)) }
theorem FY.mono {w:World} {base base':Nat} {v:Value} {fs:List FD} (h:FY w base v fs) (hb:base'<=base):FY w base' v fs:=by
 refine⟨h.1,?_⟩;rcases h.2 with h|⟨g,cap,cur,e,hg,r⟩;·exact .inl h
 ·exact .inr ⟨g,cap,cur,e,by omega,r⟩
theorem FD.ok.tlt {w:World} {f:FD} (h:f.ok w): ∀a,f.tA=some a->0<f.text.length->a.block<w.heap.size:=fun a ha h0=>h.text.lt h0 a ha
theorem FD.ok.llt {w:World} {f:FD} (h:f.ok w): ∀a,f.lA=some a->0<f.list.length->a.block<w.heap.size:=fun a ha h0=>h.list.lt h0 a ha
structure RL (w wr : World) (q : Nat) (ks : List Int) (res : Int × List PF) (k : Nat) (v : Value) (fs : List FD) (A : Option Addr) (cap : Nat) (rest : List Int) : Prop where
  res : res = AY (ks.drop k) rest (fs.map FD.pf)
  rdr : RdrV wr (q + 1) A cap rest 0
  bytes : ∀ x ∈ rest, 0 <= x /\ x < 256
  few : rest.length <= 140737488355000
  tab : Blk wr q 203 tab.toList
  own : FY wr (q + 2) v fs
  mine : ∀ f ∈ fs, FD.mine wr f (q + 2) /\ f.far (q + 1) v
  num : fs.length = k
  only : Only [] w wr
  low : w.heap.size <= q
theorem bK (w:World) (kA lA:Option Addr) (ks l:List Int) (kc lc:Nat) (m:Int) (hm:w.cell? ⟨0,0,none⟩=some (.int .i64 m)) (hk:RdI w kA ks) (h:Rd w lA l) (hl: ∀x∈l,0<=x/\x<256)
  (hkn:ks.length<1000000) (hln:l.length<=140737488355000) (hlc:l.length<=lc) (hlm:lc<=maxLen) (hal: ∀a,lA=some a->0<l.length->a.block<w.heap.size) :
  Calls Tryz.prog 88 #[.slice kA ks.length kc,.slice lA l.length lc] w (WE w (AR ks l)):=by
 have RW:=row_any kA ks kc w hk (by unfold maxLen;omega);by_cases hr:GS ks=true
 ·rw[show AR ks l=AY ks l [] from if_pos hr];rw[hr] at RW;obtain⟨n,hn⟩:=qY ks.length;rw[<-hn] at RW hkn⊢;obtain⟨ll,hll⟩:=qY l.length;obtain⟨res,hres⟩:=qY (AY ks l []);rw[<-hres];replace hres:=AB hres;replace hn:=AB hn;rw[<-hll];replace hll:=AB hll;go_enter Tryz.func88,Tryz.ntmps88
  go_wp2_with fail
  go_call RW as e w1 ⟨rfl,rfl⟩
  clear RW;go_wp2_with fail
  go_call (bS w) as e w1 ⟨rfl,P1⟩
  have hz:=heap_alloc_new w1 (.cells (Array.replicate 21 Value.nilFunc) 203);go_wp2_with (refine wpList_store_row rfl 203 (.tmp 6) (.tmp 15) rfl w1.heap.size tab rfl rfl 203 (Array.replicate 21 Value.nilFunc) hz (by kernel_rfl) (by kernel_rfl) (by kernel_rfl) ?_)
  have z1:=P1.size;go_loopw [21,8] (fun i o wr=>∃(k:Nat) (v:Value) (fs:List FD) (A:Option Addr) (cap:Nat) (rest:List Int),k<=n/\i = .int .i64 k/\v=o/\RL w wr w1.heap.size ks res k v fs A cap rest) (fun i _ _=>n-(intOf i).toNat)
  case atStart=>
   have Z:=MR (Blk.new w1 203 (List.replicate 21 Value.nilFunc)) tab.toList;have O2:Only [] w1 ((w1.alloc (.cells (Array.replicate 21 Value.nilFunc) 203)).setRow w1.heap.size tab):=((Only.refl [] w1).alloc _).trans (JC _ _ _) (by simp);have O3:=O2.alloc (.cells #[.slice lA l.length lc,.int .i64 0] 243);have hs2:((w1.alloc (.cells (Array.replicate 21 Value.nilFunc) 203)).setRow w1.heap.size tab).heap.size=w1.heap.size+1:=by simp
   have B3:=Blk.new ((w1.alloc (.cells (Array.replicate 21 Value.nilFunc) 203)).setRow w1.heap.size tab) 243 [.slice lA l.length lc,.int .i64 0];rw[hs2] at B3;have O4:=P1.trans O3 (by simp);refine⟨0,_,[],lA,lc,l,by omega,rfl,rfl,⟨?_,?_,hl,hln,?_,NW _ _,fun f hf=>by simp at hf,rfl,?_,z1⟩⟩;·simpa using hres.out
   ·rw[hll.out];exact⟨B3,h.only O4,hlc,hlm,fun a ha h0=>by have:=hal a ha h0;omega⟩
   ·rw[hll.out];exact Blk.alloc Z _
   ·rw[hll.out];exact O4
  case round=>
   obtain⟨wo,rfl⟩: ∃wo:World,wo=wr:=⟨_,rfl⟩;obtain⟨k,v,fs,A,cap,rest,hkn2,rfl,rfl,H⟩:=hrel;have hnn:=hn.out;obtain⟨q,hq⟩:=qY w1.heap.size;rw[<-hq] at H⊢;have hqlow:=H.low;have hgl:=H.rdr.blk.lt;clear hz P1;by_cases hlt:k<n
   ·obtain⟨b,off,x,rfl,hb,hx,cx⟩:=(hk.only H.only).at k (by omega);obtain⟨x1,x6⟩:=SN hr hx;obtain⟨j,rfl⟩:=Int.eq_ofNat_of_zero_le (show 0<=x by omega);obtain⟨F,hF,hcf,hC⟩:=kind_any j (by omega) (by omega);have ct:wo.cell? ⟨q,j*3+2,none⟩=some (.func (Fn.func F) #[] #[]):=by
     rw[H.tab.cell];simpa using hF
    have hm':wo.cell? ⟨0,0,none⟩=some (.int .i64 m):=BJ H.only (Nat.pos_of_ne_zero (fun e=>by
     have:=block_lt_of_cell hm;simp only at this;omega)) (by simp) hm
    have C:=hC wo (q+1) A cap rest m hm' H.rdr H.bytes H.few;have hj7:j<7:=by omega
    have hdrop:ks.drop k=(j:Int)::ks.drop (k+1):=by
     have hki:k<ks.length:=by omega
     rw[List.drop_eq_getElem_cons hki];congr 1
     rw[List.getElem?_eq_getElem hki] at hx;injection hx
    have hres2:=H.res;rw[hdrop] at hres2;obtain⟨r,hrk⟩:=qX (BC j rest);obtain⟨dn,hrest⟩:=QJ j rest;rw[hrk] at C hrest;replace hrk:=AB hrk;replace hrest:=AB hrest;replace hres2:=AB hres2;replace hx:=AB hx;replace hdrop:=AB hdrop;clear hF hC hm' hnn;replace hq:=AB hq;obtain⟨E,N,tx,ls,rs⟩:=r;dsimp only at hrest;go_wp2_with fail
    go_call C as e w4 ⟨P4,tA,tc,lA',lc',rfl,my4,A4,cap4,R4⟩
    clear C;have z4:=P4.size;have hg4:q+1<w4.heap.size:=by omega
    have hgne: ¬q+1=w4.heap.size:=by omega
    have hgne2: ¬w4.heap.size=q+1:=by omega
    have g1:w4.cell? ⟨q+1,1,none⟩=some (.int .i64 E):=R4.blk.cell 1;have O4:Only [q+1] wo w4:=P4;have O4':Only [] w w4:=H.only.trans P4 (by simp;omega);by_cases hE:E=0
    ·subst hE;have hE2:((0:Int)!=0)=false:=rfl;unfold FD.val;dsimp only at my4;obtain⟨f,hf⟩: ∃f:FD,f=⟨j,N,tA,tc,tx,lA',lc',ls⟩:=⟨_,rfl⟩;have my:FD.mine w4 f wo.heap.size:=by rw[hf];exact my4.with j N
     have hfc:f.cells=[.int .i64 j,.int .u32 N,.slice tA tx.length tc,.slice lA' ls.length lc']:=by rw[hf];rfl
     have hob:=H.own.block;have V4:=H.own.far O4 (fun x hx hv=>by simp at hx;have:=hob x hv.symm;omega);have Q5:Only [] w4 ((w4.alloc (.cells #[.int .i64 j,.int .u32 N,.slice tA tx.length tc,.slice lA' ls.length lc'] 153)).alloc (.cells #[.int .i64 j,.int .u32 N,.slice tA tx.length tc,.slice lA' ls.length lc'] 153)):=((Only.refl [] w4).alloc _).alloc _;have V5:=V4.far Q5 (fun x hx=>by simp at hx);have B5:Blk ((w4.alloc (.cells #[.int .i64 j,.int .u32 N,.slice tA tx.length tc,.slice lA' ls.length lc'] 153)).alloc (.cells #[.int .i64 j,.int .u32 N,.slice tA tx.length tc,.slice lA' ls.length lc'] 153)) (w4.heap.size+1) 153 f.cells:=by
      rw[hfc];have:=Blk.new (w4.alloc (.cells #[.int .i64 j,.int .u32 N,.slice tA tx.length tc,.slice lA' ls.length lc'] 153)) 153 [.int .i64 j,.int .u32 N,.slice tA tx.length tc,.slice lA' ls.length lc'];simpa using this
     have hfew:fs.length<1000000:=by rw[H.num];omega
     have hres3:res=AY (ks.drop (k+1)) rs ((fs++[f]).map FD.pf):=by
      have e1:=hres2.out;have e2:=hrk.out;unfold AY at e1;rw[Int.toNat_natCast,e2,if_neg (by simp)] at e1;rw[e1,hf];simp[FD.pf]
     replace hres3:=AB hres3;replace hf:=AB hf;clear hres2 hrk hfc;go_wp2_with (at_builtin;go_must (refine OT rfl (.tmp 42) (.tmp 44) rfl (q+2) v fs rfl V5 (w4.heap.size+1) f rfl B5 hfew (by simp;omega) ?_);intro A9 k9 w9 V9 P9 G9)
     go_roundw
     case rel=>
      have O5:Only [q+1] wo ((w4.alloc (.cells #[.int .i64 j,.int .u32 N,.slice tA tx.length tc,.slice lA' ls.length lc'] 153)).alloc (.cells #[.int .i64 j,.int .u32 N,.slice tA tx.length tc,.slice lA' ls.length lc'] 153)):=O4.trans Q5 (by simp);have hvl: ∀x∈v.ownBlock.toList,q+2<=x/\x<wo.heap.size:=fun x hx=>hob x (by simpa using hx);have P9':Only v.ownBlock.toList _ w9:=P9;have z5:w4.heap.size<=((w4.alloc (.cells #[.int .i64 j,.int .u32 N,.slice tA tx.length tc,.slice lA' ls.length lc'] 153)).alloc (.cells #[.int .i64 j,.int .u32 N,.slice tA tx.length tc,.slice lA' ls.length lc'] 153)).heap.size:=Q5.size;have hnw: ∀x,q+2<=x->some x=(Value.slice A9 (fs.length+1) k9).ownBlock->(x<wo.heap.size/\some x=v.ownBlock)\/w4.heap.size<=x:=by
       intro x hx hv;rcases G9.out with e|e
       ·left;rw[e] at hv;exact⟨(hvl x (by simp[<-hv])).2,hv⟩
       ·right;rw[e] at hv;injection hv with hv;omega
      refine⟨k+1,_,fs++[f],A4,cap4,rs,by omega,by go_num,rfl,⟨hres3.out,?_,?_,?_,?_,V9.out,?_,?_,?_,hqlow⟩⟩;·exact((R4.only Q5).farL P9' (fun x hx=>by have:=hvl x hx;omega))
      ·intro y hy;have:=hrest.out;rw[this] at hy;exact H.bytes y (List.mem_of_mem_drop hy)
      ·have:=hrest.out;rw[this,List.length_drop];have:=H.few;omega
      ·refine((H.tab.only O4 (by simp)).only Q5 (by simp)).only P9' (fun hm=>?_);have:=hvl _ hm;omega
      ·intro f1 hf1;rw[List.mem_append] at hf1;rcases hf1 with hf1|hf1
       ·obtain⟨m1,fr1⟩:=H.mine f1 hf1;have t1:=m1.ok.tlt;have t2:=m1.ok.llt;refine⟨((m1.onlyL O4 (by omega)).only Q5).off P9' (fun a ha h0 hm=>(fr1.1 a ha h0).2 (by simpa using hm)) (fun a ha h0 hm=>(fr1.2 a ha h0).2 (by simpa using hm)),fun a ha h0=>⟨(fr1.1 a ha h0).1,fun hv=>?_⟩,fun a ha h0=>⟨(fr1.2 a ha h0).1,fun hv=>?_⟩⟩
        ·have h1:=t1 a ha h0;have h2:=m1.new.1 a ha;rcases hnw a.block h2 hv.symm with h3|h3;·exact(fr1.1 a ha h0).2 h3.2.symm
         ·omega
        ·have h1:=t2 a ha h0;have h2:=m1.new.2 a ha;rcases hnw a.block h2 hv.symm with h3|h3;·exact(fr1.2 a ha h0).2 h3.2.symm
         ·omega
       ·simp at hf1;subst hf1;have t1:=my.ok.tlt;have t2:=my.ok.llt;refine⟨((my.only Q5).off P9' (fun a ha h0 hm=>?_) (fun a ha h0 hm=>?_)).mono (by omega),fun a ha h0=>⟨?_,fun hv=>?_⟩,fun a ha h0=>⟨?_,fun hv=>?_⟩⟩;·have h1:=my.new.1 a ha;have h2:=hvl _ hm;omega
        ·have h1:=my.new.2 a ha;have h2:=hvl _ hm;omega
        ·have h1:=my.new.1 a ha;omega
        ·have h1:=t1 a ha h0;have h2:=my.new.1 a ha;rcases hnw a.block (by omega) hv.symm with h3|h3<;>omega
        ·have h1:=my.new.2 a ha;omega
        ·have h1:=t2 a ha h0;have h2:=my.new.2 a ha;rcases hnw a.block (by omega) hv.symm with h3|h3<;>omega
      ·rw[zE,H.num];rfl
      ·exact(O4'.trans Q5 (by simp)).trans P9' (fun x hx=>.inr (by have:=hvl x hx;omega))
     case measure=>simp[intOf];omega
    ·have hE2:(E !=0)=true:=by simpa using hE
     have hfin:res=(E,[]):=by
      have e1:=hres2.out;have e2:=hrk.out;unfold AY at e1;rw[Int.toNat_natCast,e2,if_pos hE] at e1;exact e1
     replace hfin:=AB hfin;unfold FD.val;clear hres2 hrk;go_wp2_with fail
     go_quiet (fail)
     go_wp2_with fail
     go_ret2
     have e:=hfin.out;rw[e];exact LU _ _ _ ((O4'.alloc _).drewN _)
   ·have hkn3:k=n:=by omega
    subst hkn3;have hres2:=H.res;rw[List.drop_eq_nil_of_le (by omega)] at hres2;unfold AY at hres2;obtain⟨L,hL⟩:=qX rest.length;have c0:wo.cell? ⟨q+1,0,none⟩=some (.slice A rest.length cap):=H.rdr.blk.cell 0;rw[hL] at hres2 c0;obtain⟨A',cap',hv,hle,hmx,hrow⟩:=H.own.form;have hrw:=H.own;replace hq:=AB hq;replace hL:=AB hL;by_cases hL0:0<L
    ·rw[if_pos hL0] at hres2;replace hres2:=AB hres2;go_wp2_with fail
     go_ret2
     rw[hres2.out];exact LU _ _ _ H.only
    ·rw[if_neg hL0] at hres2;replace hres2:=AB hres2;go_wp2_with fail
     go_ret2
     rw[hres2.out];clear hres2;subst hv;refine⟨H.only,A',cap',fs,rfl,rfl,H.own.mono (by omega),fun f hf=>?_⟩;obtain⟨m1,fr1⟩:=H.mine f hf;exact⟨m1.mono (by omega),fun a ha h0=>⟨by have:=m1.new.1 a ha;omega,(fr1.1 a ha h0).2⟩,fun a ha h0=>⟨by have:=m1.new.2 a ha;omega,(fr1.2 a ha h0).2⟩⟩
 ·rw[show AR ks l=(2,[]) from if_neg hr];rw[show GS ks=false by simpa using hr] at RW;clear hr;obtain⟨n,hn⟩:=qY ks.length;rw[<-hn] at RW⊢;obtain⟨ll,hll⟩:=qY l.length;rw[<-hll];replace hll:=AB hll;replace hn:=AB hn;go_enter Tryz.func88,Tryz.ntmps88
  go_wp2_with fail
  go_call RW as e w1 ⟨rfl,rfl⟩
  go_wp2_with fail
  go_ret2
  exact LU _ _ _ (zR _ _)
theorem read_any (w:World) (kA lA:Option Addr) (ks l:List Int) (kc lc:Nat) (m:Int) (hm:w.cell? ⟨0,0,none⟩=some (.int .i64 m)) (hk:RdI w kA ks) (h:Rd w lA l) (hl: ∀x∈l,0<=x/\x<256)
 (hkn:ks.length<1000000) (hln:l.length<=140737488355000) (hlc:l.length<=lc) (hlm:lc<=maxLen) (hal: ∀a,lA=some a->a.block<w.heap.size) :
 Calls Tryz.prog 88 #[.slice kA ks.length kc,.slice lA l.length lc] w (WE w (AR ks l)):=bK w kA lA ks l kc lc m hm hk h hl hkn hln hlc hlm (fun a ha _=>hal a ha)
def AV (p:PF):Int:=
 if p.kind=1 then GQ p.n 255 5 else if p.kind=2 then GQ p.n 1 5 else if p.kind=4 then GQ p.text.length 32768 6
 else if p.kind=5 then BS p.list else if p.kind=6 then GQ p.text.length 33792 6 else 0
def AM (p:PF):List Int:=
 if p.kind=1 then[p.n % 256] else if p.kind=2 then[p.n % 256] else if p.kind=3 then four p.n else if p.kind=4 then four p.text.length++p.text
 else if p.kind=5 then four (ER p.list).length++u8i (ER p.list) else p.text
theorem UQ {l:List ByteArray} (h:BS l=0):l.length<=64/\∀s∈l,s.size<=64:=by
 unfold BS at h;split at h;·cases h
 ·split at h
  ·refine⟨by omega,fun s hs=>?_⟩;rename_i h2;have:=List.all_eq_true.1 h2 s hs;unfold BK at this;simp at this;omega
  ·cases h
theorem MX {a b c:Int} (h:GQ a b c=0) (hc:c≠0):a<=b:=by
 unfold GQ at h;split at h;·exact absurd h hc
 ·omega
theorem kindW_any (k:Nat) (h1:1<=k) (h6:k<=6): ∃F G:FuncId,tab[k*3]? = some (.func (Fn.func F) #[] #[])/\tab[k*3+1]? = some (.func (Fn.func G) #[] #[])/\
  (∀(args:Array Value) (w:World),(callFunc F args).run Tryz.prog w = .ok (.enter F args) w)/\(∀(args:Array Value) (w:World),(callFunc G args).run Tryz.prog w = .ok (.enter G args) w)/\
  (∀(w:World) (f:FD),f.kind=k->f.ok w->Calls Tryz.prog F #[f.val] w fun e w'=>e = .returned (.int .i64 (AV f.pf))/\Only [] w w')/\
  ∀(w:World) (f:FD) (g base:Nat) (v:Value) (l:List Int),f.kind=k->f.ok w->AV f.pf=0->f.far g v->0<=f.n/\f.n<=4294967295->WrV w g base v l->l.length<=33792->
   Calls Tryz.prog G #[.pointer (some ⟨g,0,none⟩),f.val] w (WF w g base v (l++AM f.pf)):=by
 have hk:k=1\/k=2\/k=3\/k=4\/k=5\/k=6:=by omega
 rcases hk with rfl|rfl|rfl|rfl|rfl|rfl
 ·refine⟨164,165,rfl,rfl,fun args w=>by kernel_rfl,fun args w=>by kernel_rfl,fun w f hk hf=>?_,fun w f g base v l hk hf h0 hfar hn hw hl=>?_⟩;·rw[show AV f.pf=GQ f.n 255 5 by unfold AV FD.pf;simp[hk]];exact XO f w
  ·rw[show AM f.pf=[f.n % 256] by unfold AM FD.pf;simp[hk]];exact YT f g base v l w hw hn (by omega)
 ·refine⟨167,165,rfl,rfl,fun args w=>by kernel_rfl,fun args w=>by kernel_rfl,fun w f hk hf=>?_,fun w f g base v l hk hf h0 hfar hn hw hl=>?_⟩;·rw[show AV f.pf=GQ f.n 1 5 by unfold AV FD.pf;simp[hk]];exact ZA f w
  ·rw[show AM f.pf=[f.n % 256] by unfold AM FD.pf;simp[hk]];exact YT f g base v l w hw hn (by omega)
 ·refine⟨169,170,rfl,rfl,fun args w=>by kernel_rfl,fun args w=>by kernel_rfl,fun w f hk hf=>?_,fun w f g base v l hk hf h0 hfar hn hw hl=>?_⟩;·rw[show AV f.pf=0 by unfold AV FD.pf;simp[hk]];exact fU f w
  ·rw[show AM f.pf=four f.n by unfold AM FD.pf;simp[hk]];exact VE f g base v l w hw hn (by omega)
 ·refine⟨172,173,rfl,rfl,fun args w=>by kernel_rfl,fun args w=>by kernel_rfl,fun w f hk hf=>?_,fun w f g base v l hk hf h0 hfar hn hw hl=>?_⟩;·rw[show AV f.pf=GQ f.text.length 32768 6 by unfold AV FD.pf;simp[hk]];exact ZP f w hf
  ·rw[show AV f.pf=GQ f.text.length 32768 6 by unfold AV FD.pf;simp[hk]] at h0;have:=MX h0 (by decide);rw[show AM f.pf=four f.text.length++f.text by unfold AM FD.pf;simp[hk]];exact cD f g base v l w hw hf hfar (by omega) (by omega)
 ·refine⟨175,176,rfl,rfl,fun args w=>by kernel_rfl,fun args w=>by kernel_rfl,fun w f hk hf=>?_,fun w f g base v l hk hf h0 hfar hn hw hl=>?_⟩;·rw[show AV f.pf=BS f.list by unfold AV FD.pf;simp[hk]];exact NU f w hf
  ·rw[show AV f.pf=BS f.list by unfold AV FD.pf;simp[hk]] at h0;obtain⟨h2,h3⟩:=UQ h0;rw[show AM f.pf=four (ER f.list).length++u8i (ER f.list) by unfold AM FD.pf;simp[hk]];exact lE f g base v l w hw hf h2 h3 (by omega)
 ·refine⟨178,179,rfl,rfl,fun args w=>by kernel_rfl,fun args w=>by kernel_rfl,fun w f hk hf=>?_,fun w f g base v l hk hf h0 hfar hn hw hl=>?_⟩;·rw[show AV f.pf=GQ f.text.length 33792 6 by unfold AV FD.pf;simp[hk]];exact PV f w hf
  ·rw[show AV f.pf=GQ f.text.length 33792 6 by unfold AV FD.pf;simp[hk]] at h0;have:=MX h0 (by decide);rw[show AM f.pf=f.text by unfold AM FD.pf;simp[hk]];exact bZ f g base v l w hw hf (by omega)
def DT:List PF->List Int->Int×List Int
 |[],acc=>(0,acc)
 |p::ps,acc=>if AV p≠0 then(AV p,[]) else if 33792<(acc++AM p).length then(6,[]) else DT ps (acc++AM p)
def HA (ps:List PF):Int×List Int:=if GS (ps.map (·.kind)) then DT ps [] else(2,[])
structure RdF (w : World) (A : Option Addr) (fs : List FD) : Prop where
  cells : 0 < fs.length -> ∃ b off, A = some ⟨b, off, none⟩ /\ b < w.heap.size /\ ∀ i f, fs[i]? = some f ->
    w.cell? ⟨b, off + i * 4, none⟩ = some (.int .i64 f.kind) /\ w.cell? ⟨b, off + i * 4 + 1, none⟩ = some (.int .u32 f.n) /\ w.cell? ⟨b, off + i * 4 + 2, none⟩ = some (.slice f.tA f.text.length f.tc) /\ w.cell? ⟨b, off + i * 4 + 3, none⟩ = some (.slice f.lA f.list.length f.lc)
  ok : ∀ f ∈ fs, f.ok w /\ 0 <= f.n /\ f.n <= 4294967295
theorem RdF.only {w w':World} {A:Option Addr} {fs:List FD} (h:RdF w A fs) (hb:Only [] w w'):RdF w' A fs:=by
 refine⟨fun h0=>?_,fun f hf=>⟨(h.ok f hf).1.only hb,(h.ok f hf).2⟩⟩;obtain⟨b,off,rfl,hlt,hc⟩:=h.cells h0;refine⟨b,off,rfl,zT hlt hb.size,fun i f hi=>?_⟩;obtain⟨c0,c1,c2,c3⟩:=hc i f hi;exact⟨BJ hb hlt (by simp) c0,BJ hb hlt (by simp) c1,BJ hb hlt (by simp) c2,BJ hb hlt (by simp) c3⟩
def KZ (l:List Int):List Value:=l.map (.int .i64)
theorem intInfo:(Tryz.prog.info? 3).map (fun i=>(i.zero,i.size,i.bytes))=some (some (.int .i64 0),1,8):=by kernel_rfl
theorem make_ints (k:Nat) (hk:k<=1000) (W:World):(Instr.makeSlice 166 (.int .i64 (k:Int)) (.int .i64 (k:Int))).run Tryz.prog W = .ok (.slice (some ⟨W.heap.size,0,none⟩) k k) (W.alloc (.cells (KZ (List.replicate k 0)).toArray 3)):=by
 have h:=run_make_row' (P:=Tryz.prog) 166 3 (.int .i64 0) 8 Tryz.underlying166 intInfo rfl .i64 .i64 k (by omega) (by omega) W;have e:madeCells #[.int .i64 0] k=(KZ (List.replicate k 0)).toArray:=by
  apply Array.ext;·simp[madeCells,KZ]
  ·intro i h1 h2;simp[madeCells,KZ,Nat.mod_one]
 rw[e] at h;exact h
theorem take_set {cs:List Int} {k:Nat} (x:Int) (h:k<cs.length):(cs.set k x).take (k+1)=cs.take k++[x]:=by
 rw[List.take_add_one,List.getElem?_set_self h,List.take_set_of_le (qL _)];rfl
def SX (w:World) (res:Int×List Int):Ending->World->Prop:=fun E w'=>
 Only [] w w'/\∃v,E = .returned (.tuple #[v,.int .i64 res.1])/\DR w' w.heap.size v res.2
theorem FX (w w':World) (e:Int) (h:Only [] w w'):SX w (e,[]) (.returned (.tuple #[.slice none 0 0,.int .i64 e])) w':=⟨h,_,rfl,XS _ _⟩
structure WL (w wr : World) (q : Nat) (fs : List FD) (res : Int × List Int) (k : Nat) (v : Value) (acc : List Int) : Prop where
  res : res = DT ((fs.drop k).map FD.pf) acc
  own : WrV wr (q + 1) (q + 2) v acc
  few : acc.length <= 33792
  tab : Blk wr q 203 tab.toList
  only : Only [] w wr
  low : w.heap.size <= q
theorem cH (w:World) (A:Option Addr) (fs:List FD) (c:Nat) (h:RdF w A fs) (hn1:fs.length<=1000) :
  Calls Tryz.prog 64 #[.slice A fs.length c] w (SX w (HA (fs.map FD.pf))):=by
 obtain⟨n,hn⟩:=qY fs.length;rw[<-hn] at hn1⊢;obtain⟨res,hres⟩:=qX (HA (fs.map FD.pf));rw[hres];replace hres:=AB hres;replace hn:=AB hn;have hmk:=make_ints n hn1;go_enter Tryz.func64,Tryz.ntmps64
 go_wp2_with fail
 go_loopw [17] (fun i wr=>∃(k:Nat) (cs:List Int),k<=n/\i = .int .i64 k/\cs.length=n/\cs.take k=(fs.take k).map (·.kind)/\Blk wr w.heap.size 3 (KZ cs)/\Only [] w wr) (fun i _=>n-(intOf i).toNat)
 case atStart=>exact⟨0,List.replicate n 0,by omega,rfl,by simp,rfl,Blk.new w _ _,(zR _ _).alloc _⟩
 case round=>
  obtain⟨wo,rfl⟩: ∃wo:World,wo=wr:=⟨_,rfl⟩;obtain⟨k,cs,hk,rfl,hcs,htk,B,O⟩:=hrel;by_cases hlt:k<n
  ·obtain⟨f,hf⟩: ∃f,fs[k]? = some f:=⟨_,List.getElem?_eq_getElem (by have:=hn.out;omega)⟩;obtain⟨b,off,rfl,hb,hc⟩:=(h.only O).cells (by have:=hn.out;omega);obtain⟨c0,c1,c2,c3⟩:=hc k f hf;have hq:=B.lt;have hqk:wo.cell? ⟨w.heap.size,k,none⟩=some (.int .i64 (cs.getD k 0)):=by
    rw[B.cell k];simp[KZ,List.getElem?_eq_getElem (show k<cs.length by omega)]
   have hfk:=B.frozen k;obtain⟨kd,nn,tA,tc,tx,lA,lc,ls⟩:=f;dsimp only at c0 c1 c2 c3;replace htk:=AB htk;replace hcs:=AB hcs;replace hf:=AB hf;clear hc;go_wp2_with fail
   go_roundw
   case rel=>
    refine⟨k+1,cs.set k kd,by omega,by go_num,by rw[List.length_set];exact hcs.out,?_,?_,?_⟩
    ·rw[take_set _ (by rw[hcs.out];exact hlt),htk.out,DH hf.out,List.map_append];rfl
    ·have:=(B.set_ k (.int .i64 kd)).alloc (.cells #[.int .i64 kd,.int .u32 nn,.slice tA tx.length tc,.slice lA ls.length lc] 153);rw[KZ,List.map_set];exact this
    ·exact(O.setCell (p:=⟨w.heap.size,k,none⟩) (.inr (qL _)) _).alloc _
   case measure=>simp[intOf];omega
  ·obtain rfl:k=n:=by omega
   have hks:cs=(fs.map FD.pf).map (·.kind):=by
    rw[List.take_of_length_le (by omega),List.take_of_length_le (by have:=hn.out;omega)] at htk;rw[htk];simp[FD.pf]
   have RW:=row_any (some ⟨w.heap.size,0,none⟩) cs k wo (fun _=>⟨w.heap.size,0,rfl,B.lt,fun i x hx=>by
    rw[Nat.zero_add,B.cell i];simp[KZ,hx]⟩) (by unfold maxLen;omega)
   rw[hcs] at RW;have hB:=B.lt;replace hks:=AB hks;replace hcs:=AB hcs;clear htk;by_cases hr:GS cs=true
   ·rw[hr] at RW;have hres1:res=DT (fs.map FD.pf) []:=by
     rw[<-hres.out];unfold HA;rw[<-hks.out,if_pos hr]
    replace hr:=AB hr;replace hres1:=AB hres1;go_wp2_with fail
    go_call RW as e w1 ⟨rfl,rfl⟩
    clear RW;go_wp2_with fail
    go_call (bS wo) as e w1 ⟨rfl,P1⟩
    have hz:=heap_alloc_new w1 (.cells (Array.replicate 21 Value.nilFunc) 203);go_wp2_with (refine wpList_store_row rfl 203 (.tmp 7) (.tmp 31) rfl w1.heap.size tab rfl rfl 203 (Array.replicate 21 Value.nilFunc) hz (by kernel_rfl) (by kernel_rfl) (by kernel_rfl) ?_)
    have z1:=P1.size;go_loopw [36] (fun i wr=>∃(kk:Nat) (v:Value) (acc:List Int),kk<=k/\i = .int .i64 kk/\WL w wr w1.heap.size fs res kk v acc) (fun i _=>k-(intOf i).toNat)
    case atStart=>
     have Z:=MR (Blk.new w1 203 (List.replicate 21 Value.nilFunc)) tab.toList;have O2:Only [] w1 ((w1.alloc (.cells (Array.replicate 21 Value.nilFunc) 203)).setRow w1.heap.size tab):=((Only.refl [] w1).alloc _).trans (JC _ _ _) (by simp);have O3:=O2.alloc (.cells #[.slice none 0 0] 207);have hs2:((w1.alloc (.cells (Array.replicate 21 Value.nilFunc) 203)).setRow w1.heap.size tab).heap.size=w1.heap.size+1:=by simp
     have B3:=Blk.new ((w1.alloc (.cells (Array.replicate 21 Value.nilFunc) 203)).setRow w1.heap.size tab) 207 [.slice none 0 0];rw[hs2] at B3;have O4:=(O.trans P1 (by simp)).trans O3 (by simp);have zo:=O.size;refine⟨0,.slice none 0 0,[],by omega,rfl,⟨by simpa using hres1.out,⟨B3,XS _ _,by omega,by simp⟩,by simp,Blk.alloc Z _,O4,by omega⟩⟩
    case round=>
     clear hz P1;obtain⟨wb,rfl⟩: ∃wb:World,wb=wo:=⟨_,rfl⟩;obtain⟨wo,rfl⟩: ∃wo:World,wo=wr:=⟨_,rfl⟩;obtain⟨kk,v,acc,hkk,rfl,H⟩:=hrel;obtain⟨q,hq⟩:=qY w1.heap.size;rw[<-hq] at H⊢;replace hq:=AB hq;by_cases hlt2:kk<k
     ·obtain⟨f,hf⟩: ∃f,fs[kk]? = some f:=⟨_,List.getElem?_eq_getElem (by have:=hn.out;omega)⟩;have hfm:f∈fs:=qE hf;obtain⟨b,off,rfl,hb,hc⟩:=(h.only H.only).cells (by have:=hn.out;omega);obtain⟨e0,e1,e2,e3⟩:=hc kk f hf;obtain⟨fok,fn1⟩:=(h.only H.only).ok f hfm;obtain⟨x1,x6⟩:=SN (i:=kk) (k:=f.kind) hr.out (by rw[hks.out];simp[hf,FD.pf]);have fold:=(h.ok f hfm).1;have hqlow:=H.low;have hob:=H.own.own.block;have ffar:f.far (q+1) v:=⟨fun a ha h0=>⟨by have:=fold.tlt a ha h0;omega,fun hv=>by have h1:=fold.tlt a ha h0;have h2:=hob _ hv;omega⟩,fun a ha h0=>⟨by have:=fold.llt a ha h0;omega,fun hv=>by have h1:=fold.llt a ha h0;have h2:=hob _ hv;omega⟩⟩;have hdrop:fs.drop kk=f::fs.drop (kk+1):=by
       have hki:kk<fs.length:=by have:=hn.out;omega
       rw[List.drop_eq_getElem_cons hki];congr 1
       rw[List.getElem?_eq_getElem hki] at hf;injection hf
      have hres2:=H.res;rw[hdrop,List.map_cons] at hres2;unfold DT at hres2;obtain⟨j,hj⟩:=Int.eq_ofNat_of_zero_le (show 0<=f.kind by omega);obtain⟨F,G,hF,hG,hcF,hcG,hCF,hCG⟩:=kindW_any j (by omega) (by omega);have ctF:wo.cell? ⟨q,j*3,none⟩=some (.func (Fn.func F) #[] #[]):=by
       rw[H.tab.cell];simpa using hF
      have ctG:wo.cell? ⟨q,j*3+1,none⟩=some (.func (Fn.func G) #[] #[]):=by
       rw[H.tab.cell];simpa using hG
      have hj7:j<7:=by omega
      obtain⟨w5,hw5⟩:=qY (wo.alloc (.cells #[.int .i64 f.kind,.int .u32 f.n,.slice f.tA f.text.length f.tc,.slice f.lA f.list.length f.lc] 153));have P5:Only [] wo w5:=by rw[hw5];exact(zR _ _).alloc _
      have K5:Blk w5 wo.heap.size 153 f.cells:=by rw[hw5];exact Blk.new wo _ _
      have CF:=hCF w5.drew f hj (fok.only P5.drew);have hCG': ∀w6,Only [] w5 w6->AV f.pf=0->Calls Tryz.prog G #[.pointer (some ⟨q+1,0,none⟩),f.val] w6 (WF w6 (q+1) (q+2) v (acc++AM f.pf)):=fun w6 P6 h0=>
       hCG w6 f (q+1) (q+2) v acc hj ((fok.only P5).only P6) h0 ffar fn1 ((H.own.only P5 (by simp) (by simp)).only P6 (by simp) (by simp)) H.few
      have c0:w5.cell? ⟨wo.heap.size,0,none⟩=some (.int .i64 f.kind):=K5.cell 0;have c1:w5.cell? ⟨wo.heap.size,1,none⟩=some (.int .u32 f.n):=K5.cell 1;have c2:w5.cell? ⟨wo.heap.size,2,none⟩=some (.slice f.tA f.text.length f.tc):=K5.cell 2;have c3:w5.cell? ⟨wo.heap.size,3,none⟩=some (.slice f.lA f.list.length f.lc):=K5.cell 3;have hql:=H.tab.lt;have ctF5:w5.cell? ⟨q,j*3,none⟩=some (.func (Fn.func F) #[] #[]):=BJ P5 hql (by simp) ctF;rw[hj] at e0 hw5 c0;unfold FD.val at CF;rw[hj] at CF;have hI:(fun w':World=>w'.cell? ⟨wo.heap.size,0,none⟩=some (.int .i64 (j:Int))/\w'.cell? ⟨wo.heap.size,1,none⟩=some (.int .u32 f.n)/\w'.cell? ⟨wo.heap.size,2,none⟩=some (.slice f.tA f.text.length f.tc)/\w'.cell? ⟨wo.heap.size,3,none⟩=some (.slice f.lA f.list.length f.lc)/\w'.cell? ⟨q,j*3,none⟩=some (.func (Fn.func F) #[] #[])) { w5 with drawn:=w5.drawn+1 }:=⟨c0,c1,c2,c3,ctF5⟩;replace hj:=AB hj;replace hCG':=AB hCG';replace hres2:=AB hres2;replace hdrop:=AB hdrop;replace hf:=AB hf;clear hc hF hG hCF hCG;go_wp2_with fail
      rw[<-hw5];replace hw5:=AB hw5;refine AL (fun w':World=>w'.cell? ⟨wo.heap.size,0,none⟩=some (.int .i64 (j:Int))/\w'.cell? ⟨wo.heap.size,1,none⟩=some (.int .u32 f.n)/\w'.cell? ⟨wo.heap.size,2,none⟩=some (.slice f.tA f.text.length f.tc)/\w'.cell? ⟨wo.heap.size,3,none⟩=some (.slice f.lA f.list.length f.lc)/\w'.cell? ⟨q,j*3,none⟩=some (.func (Fn.func F) #[] #[])) [6,7] (by kernel_rfl) ?_;refine wpAnyE_tk 0 (v:=(.pointer (some ⟨wo.heap.size,0,none⟩))) rfl hI (fun w' hw'=>by obtain⟨i0,i1,i2,i3,i4⟩:=hw';go_simp) ?_;refine wpAnyE_tk 1 (v:=(.int .i64 (j:Int))) rfl hI (fun w' hw'=>by obtain⟨i0,i1,i2,i3,i4⟩:=hw';go_simp) ?_;refine wpAnyE_tk 2 (v:=(.pointer (some ⟨q,j*3,none⟩))) rfl hI (fun w' hw'=>by obtain⟨i0,i1,i2,i3,i4⟩:=hw';go_simp;try(intro h7;exact absurd h7 (by omega))) ?_;refine wpAnyE_tk 3 (v:=(.pointer (some ⟨q,j*3,none⟩))) rfl hI (fun w' hw'=>by obtain⟨i0,i1,i2,i3,i4⟩:=hw';go_simp) ?_;refine wpAnyE_tk 4 (v:=(.func (Fn.func F) #[] #[])) rfl hI (fun w' hw'=>by obtain⟨i0,i1,i2,i3,i4⟩:=hw';go_simp) ?_;refine wpAnyE_tk 5 (v:=(.agg #[.int .i64 (j:Int),.int .u32 f.n,.slice f.tA f.text.length f.tc,.slice f.lA f.list.length f.lc])) rfl hI (fun w' hw'=>by obtain⟨i0,i1,i2,i3,i4⟩:=hw';go_simp) ?_;refine FV 6 [] [6,7] rfl (by kernel_rfl) (by decide) hI ?_;simp only[List.drop_succ_cons,List.drop_zero];refine EP ?_;go_wp2_with fail
      go_call CF as e w6 ⟨rfl,P6⟩
      have ctG6:w6.cell? ⟨q,j*3+1,none⟩=some (.func (Fn.func G) #[] #[]):=BJ (P5.drew.trans P6 (by simp)) hql (by simp) ctG;have K6:=(K5.drew).only P6 (by simp);have d0:w6.cell? ⟨wo.heap.size,0,none⟩=some (.int .i64 (j:Int)):=by rw[<-hj.out];exact K6.cell 0
      have d1:w6.cell? ⟨wo.heap.size,1,none⟩=some (.int .u32 f.n):=K6.cell 1;have d2:w6.cell? ⟨wo.heap.size,2,none⟩=some (.slice f.tA f.text.length f.tc):=K6.cell 2;have d3:w6.cell? ⟨wo.heap.size,3,none⟩=some (.slice f.lA f.list.length f.lc):=K6.cell 3;have O6:Only [] w w6:=H.only.trans (P5.drew.trans P6 (by simp)) (by simp);by_cases hE:AV f.pf=0
      ·have hCG2:=hCG'.out w6.drew (((Only.refl [] w5).drew.trans P6 (by simp)).drew) hE;have hres3:res=if 33792<(acc++AM f.pf).length then(6,[]) else DT ((fs.drop (kk+1)).map FD.pf) (acc++AM f.pf):=by
        rw[hres2.out,if_neg (by simp[hE])]
       rw[hE];unfold FD.val at hCG2;rw[hj.out] at hCG2;have hE2:((0:Int)!=0)=false:=rfl;obtain⟨acc2,hacc⟩:=qX (acc++AM f.pf);rw[hacc] at hCG2 hres3;replace hres3:=AB hres3;have hI2:(fun w':World=>w'.cell? ⟨wo.heap.size,0,none⟩=some (.int .i64 (j:Int))/\w'.cell? ⟨wo.heap.size,1,none⟩=some (.int .u32 f.n)/\w'.cell? ⟨wo.heap.size,2,none⟩=some (.slice f.tA f.text.length f.tc)/\w'.cell? ⟨wo.heap.size,3,none⟩=some (.slice f.lA f.list.length f.lc)/\w'.cell? ⟨q,j*3+1,none⟩=some (.func (Fn.func G) #[] #[])) { w6 with drawn:=w6.drawn+1 }:=⟨d0,d1,d2,d3,ctG6⟩;clear hres2 hCG' hacc;go_wp2_with fail
       refine AL (fun w':World=>w'.cell? ⟨wo.heap.size,0,none⟩=some (.int .i64 (j:Int))/\w'.cell? ⟨wo.heap.size,1,none⟩=some (.int .u32 f.n)/\w'.cell? ⟨wo.heap.size,2,none⟩=some (.slice f.tA f.text.length f.tc)/\w'.cell? ⟨wo.heap.size,3,none⟩=some (.slice f.lA f.list.length f.lc)/\w'.cell? ⟨q,j*3+1,none⟩=some (.func (Fn.func G) #[] #[])) [7] (by kernel_rfl) ?_;refine wpAnyE_tk 0 (v:=(.pointer (some ⟨wo.heap.size,0,none⟩))) rfl hI2 (fun w' hw'=>by obtain⟨i0,i1,i2,i3,i4⟩:=hw';go_simp;try(intro h7;exact absurd h7 (by omega))) ?_;refine wpAnyE_tk 1 (v:=(.int .i64 (j:Int))) rfl hI2 (fun w' hw'=>by obtain⟨i0,i1,i2,i3,i4⟩:=hw';go_simp;try(intro h7;exact absurd h7 (by omega))) ?_;refine wpAnyE_tk 2 (v:=(.pointer (some ⟨q,j*3,none⟩))) rfl hI2 (fun w' hw'=>by obtain⟨i0,i1,i2,i3,i4⟩:=hw';go_simp;try(intro h7;exact absurd h7 (by omega))) ?_;refine wpAnyE_tk 3 (v:=(.pointer (some ⟨q,j*3+1,none⟩))) rfl hI2 (fun w' hw'=>by obtain⟨i0,i1,i2,i3,i4⟩:=hw';go_simp;try(intro h7;exact absurd h7 (by omega))) ?_;refine wpAnyE_tk 4 (v:=(.func (Fn.func G) #[] #[])) rfl hI2 (fun w' hw'=>by obtain⟨i0,i1,i2,i3,i4⟩:=hw';go_simp;try(intro h7;exact absurd h7 (by omega))) ?_;refine wpAnyE_tk 5 (v:=(.pointer (some ⟨q+1,0,none⟩))) rfl hI2 (fun w' hw'=>by obtain⟨i0,i1,i2,i3,i4⟩:=hw';go_simp;try(intro h7;exact absurd h7 (by omega))) ?_;refine wpAnyE_tk 6 (v:=(.agg #[.int .i64 (j:Int),.int .u32 f.n,.slice f.tA f.text.length f.tc,.slice f.lA f.list.length f.lc])) rfl hI2 (fun w' hw'=>by obtain⟨i0,i1,i2,i3,i4⟩:=hw';go_simp;try(intro h7;exact absurd h7 (by omega))) ?_;refine FV 7 [] [7] rfl (by kernel_rfl) (by decide) hI2 ?_;simp only[List.drop_succ_cons,List.drop_zero];refine EP ?_;go_wp2_with fail
       go_call hCG2 as e w7 ⟨rfl,v7,R7,M7⟩
       obtain⟨A9,k9,rfl,G9,q9,m9,a9⟩:=R7.own.rd;have O7:Only [] w w7:=(O6.drew).trans M7.1 (fun x hx=>by
        right;rcases qC.1 hx with rfl|hx;·omega
        ·have:=hob x (by simpa using hx);omega)
       have B7:Blk w7 q 203 tab.toList:=(((H.tab.only P5 (by simp)).drew.only P6 (by simp)).drew).only M7.1 (fun hm=>by
        rcases qC.1 hm with hm|hm;·omega
        ·have:=hob q (by simpa using hm);omega)
       have g0:w7.cell? ⟨q+1,0,none⟩=some (.slice A9 acc2.length k9):=R7.blk.cell 0;obtain⟨LL,hLL⟩:=qX acc2.length;rw[hLL] at g0 q9;by_cases hbig:33792<LL
       ·have hfin:res=(6,[]):=by rw[hres3.out,if_pos (by omega)]
        have hb3:(33792:Int)<(LL:Int):=by omega
        replace hfin:=AB hfin;replace hLL:=AB hLL;clear hres3;go_wp2_with fail
        go_ret2
        rw[hfin.out];exact FX _ _ _ O7
       ·have hfin:res=DT ((fs.drop (kk+1)).map FD.pf) acc2:=by rw[hres3.out,if_neg (by omega)]
        have hb3: ¬(33792:Int)<(LL:Int):=by omega
        replace hfin:=AB hfin;replace hLL:=AB hLL;clear hres3;go_wp2_with fail
        go_roundw
        case rel=>exact⟨kk+1,_,acc2,by omega,by go_num,⟨hfin.out,R7,by rw[hLL.out];omega,B7,O7,hqlow⟩⟩
        case measure=>simp[intOf];omega
      ·have hE2:(AV f.pf !=0)=true:=by simpa using hE
       have hfin:res=(AV f.pf,[]):=by rw[hres2.out,if_pos hE]
       replace hfin:=AB hfin;clear hres2 hCG';go_wp2_with fail
       go_ret2
       rw[hfin.out];exact FX _ _ _ O6
     ·have hkk3:kk=k:=by omega
      subst hkk3;have hres2:=H.res;rw[List.drop_eq_nil_of_le (by have:=hn.out;omega)] at hres2;have hres3:res=(0,acc):=hres2;replace hres3:=AB hres3;clear hres2;obtain⟨A9,k9,rfl,G9,q9,m9,a9⟩:=H.own.own.rd;have g0:wo.cell? ⟨q+1,0,none⟩=some (.slice A9 acc.length k9):=H.own.blk.cell 0;have hqlow:=H.low;go_wp2_with fail
      go_ret2
      rw[hres3.out];exact⟨H.only,_,rfl,H.own.own.mono (by omega)⟩
   ·have hr':GS cs=false:=by simpa using hr
    rw[hr'] at RW;have hres1:res=(2,[]):=by
     rw[<-hres.out];unfold HA;rw[<-hks.out,if_neg hr]
    clear hr hr';replace hres1:=AB hres1;go_wp2_with fail
    go_call RW as e w1 ⟨rfl,rfl⟩
    go_wp2_with fail
    go_ret2
    rw[hres1.out];exact FX _ _ _ O
theorem TD: ∀(fs:List FD) (i:Nat) (f:FD) (j:Nat),fs[i]? = some f->j<4->(AZ fs)[i*4+j]? = f.cells[j]?
 |[],i,f,j,h,_=>by simp at h
 |g::fs,0,f,j,h,hj=>by
  simp at h;subst h;unfold AZ;rw[qG,Nat.zero_mul,Nat.zero_add,List.getElem?_append_left (by simpa[FD.cells] using hj)]
 |g::fs,i+1,f,j,h,hj=>by
  simp at h;have:=TD fs i f j h hj;unfold AZ at this⊢;rw[qG,List.getElem?_append_right (by simp[FD.cells];omega),<-this];congr 1
  simp[FD.cells];omega
theorem rdF_of {w:World} {b off:Nat} {fs:List FD} (hb:b<w.heap.size) (hc: ∀j u,(AZ fs)[j]? = some u->w.cell? ⟨b,off+j,none⟩=some u) (ok: ∀f∈fs,f.ok w/\0<=f.n/\f.n<=4294967295):RdF w (some ⟨b,off,none⟩) fs:=by
 refine⟨fun _=>⟨b,off,rfl,hb,fun i f hi=>?_⟩,ok⟩;have h:=fun j hj=>TD fs i f j hi hj;have h0:=h 0 (by decide);have h1:=h 1 (by decide);have h2:=h 2 (by decide);have h3:=h 3 (by decide);refine⟨hc _ _ h0,?_,?_,?_⟩;·rw[Nat.add_assoc];exact hc _ _ h1
 ·rw[Nat.add_assoc];exact hc _ _ h2
 ·rw[Nat.add_assoc];exact hc _ _ h3
theorem FE (w:World) (fs:List FD) (cs:Array Value) (h:cs=(AZ fs).toArray) (ok: ∀f∈fs,f.ok w/\0<=f.n/\f.n<=4294967295):RdF (w.alloc (.cells cs 153)) (some ⟨w.heap.size,0,none⟩) fs:=
 rdF_of (by simp) (fun j u hj=>by rw[h,Nat.zero_add,World.cell?_alloc_mark];simpa using hj) (fun f hf=>⟨(ok f hf).1.only ((zR _ _).alloc _),(ok f hf).2⟩)
theorem FY.rdF {w:World} {base:Nat} {A:Option Addr} {n cap:Nat} {fs:List FD} (h:FY w base (.slice A n cap) fs) (ok: ∀f∈fs,f.ok w/\0<=f.n/\f.n<=4294967295):RdF w A fs:=by
 obtain⟨A',cap',e,_,_,hc⟩:=h.form;injection e with e1 e2 e3;subst e1;by_cases h0:0<fs.length
 ·obtain⟨b,rfl,_,hb,hcell⟩:=hc h0;exact rdF_of hb (fun j u hj=>by rw[Nat.zero_add];exact hcell j u hj) ok
 ·exact⟨fun h=>absurd h h0,ok⟩
theorem NA (w:World) (cs:Array Value) (l:List Int) (h:cs=(KZ l).toArray):RdI (w.alloc (.cells cs 3)) (some ⟨w.heap.size,0,none⟩) l:=fun _=>⟨w.heap.size,0,rfl,by simp,fun i v hi=>by
 rw[h,World.cell?_alloc_mark];simp[KZ,hi]⟩
theorem rdS_new (w:World) (cs:Array Value) (l:List ByteArray) (t:TypeId) (h:cs=(l.map Value.string).toArray):RdS (w.alloc (.cells cs t)) (some ⟨w.heap.size,0,none⟩) l:=fun _=>⟨w.heap.size,0,rfl,by simp,fun i v hi=>by
 rw[h,World.cell?_alloc_mark];simp[hi]⟩
def pk:Nat->Int
 |0=>3
 |1=>4
 |2=>4
 |3=>4
 |4=>2
 |5=>6
 |6=>3
 |7=>3
 |8=>3
 |_=>3
def pget:Nat->FuncId
 |0=>145
 |1=>147
 |2=>149
 |3=>151
 |4=>153
 |5=>147
 |6=>155
 |7=>157
 |8=>159
 |_=>161
def pput:Nat->FuncId
 |0=>146
 |1=>148
 |2=>150
 |3=>152
 |4=>154
 |5=>148
 |6=>156
 |7=>158
 |8=>160
 |_=>162
def MH (j:Nat):List Value:=[.int .i64 (pk j),.func (Fn.func (pget j)) #[] #[],.func (Fn.func (pput j)) #[] #[]]
theorem GR {fn:Func} {p:Tmp} {R:Ending->World->Prop} {a:Act} {w:World} {g:Nat} {v0 v1 v2:Value} (h:fn.results=#[.cell p 158]) (hp:a.tmps.getD p undef = .pointer (some ⟨g,0,none⟩)) (hd:a.defers=[])
  (hg:Blk w g 158 [v0,v1,v2]) (hR:R (.returned (.agg #[v0,v1,v2])) w):bodyPost Tryz.prog fn R .ret a w:=
 bodyPost_ret (results_cell_row h _ w g 158 _ (0,0) _ hp hg Tryz.underlying158 rfl (by kernel_rfl)) hd hR
theorem TL (w:World):Calls Tryz.prog 98 #[] w fun e w'=>e = .returned (.agg #[.int .i64 3,.func (Fn.func 145) #[] #[],.func (Fn.func 146) #[] #[]])/\Only [] w w':=by
 go_enter Tryz.func98,Tryz.ntmps98
 go_wp2
 (try simp only[Exit.inBlock,Exit.then])
 exact GR (g:=w.heap.size) rfl (by rfl) (by rfl) (Blk.new w 158 [.int .i64 3,.func (Fn.func 145) #[] #[],.func (Fn.func 146) #[] #[]]) ⟨rfl,(zR _ _).alloc _⟩
theorem MY (w:World):Calls Tryz.prog 99 #[] w fun e w'=>e = .returned (.agg #[.int .i64 4,.func (Fn.func 147) #[] #[],.func (Fn.func 148) #[] #[]])/\Only [] w w':=by
 go_enter Tryz.func99,Tryz.ntmps99
 go_wp2
 (try simp only[Exit.inBlock,Exit.then])
 exact GR (g:=w.heap.size) rfl (by rfl) (by rfl) (Blk.new w 158 [.int .i64 4,.func (Fn.func 147) #[] #[],.func (Fn.func 148) #[] #[]]) ⟨rfl,(zR _ _).alloc _⟩
theorem bB (w:World):Calls Tryz.prog 100 #[] w fun e w'=>e = .returned (.agg #[.int .i64 4,.func (Fn.func 149) #[] #[],.func (Fn.func 150) #[] #[]])/\Only [] w w':=by
 go_enter Tryz.func100,Tryz.ntmps100
 go_wp2
 (try simp only[Exit.inBlock,Exit.then])
 exact GR (g:=w.heap.size) rfl (by rfl) (by rfl) (Blk.new w 158 [.int .i64 4,.func (Fn.func 149) #[] #[],.func (Fn.func 150) #[] #[]]) ⟨rfl,(zR _ _).alloc _⟩
theorem TM (w:World):Calls Tryz.prog 101 #[] w fun e w'=>e = .returned (.agg #[.int .i64 4,.func (Fn.func 151) #[] #[],.func (Fn.func 152) #[] #[]])/\Only [] w w':=by
 go_enter Tryz.func101,Tryz.ntmps101
 go_wp2
 (try simp only[Exit.inBlock,Exit.then])
 exact GR (g:=w.heap.size) rfl (by rfl) (by rfl) (Blk.new w 158 [.int .i64 4,.func (Fn.func 151) #[] #[],.func (Fn.func 152) #[] #[]]) ⟨rfl,(zR _ _).alloc _⟩
theorem bC (w:World):Calls Tryz.prog 102 #[] w fun e w'=>e = .returned (.agg #[.int .i64 2,.func (Fn.func 153) #[] #[],.func (Fn.func 154) #[] #[]])/\Only [] w w':=by
 go_enter Tryz.func102,Tryz.ntmps102
 go_wp2
 (try simp only[Exit.inBlock,Exit.then])
 exact GR (g:=w.heap.size) rfl (by rfl) (by rfl) (Blk.new w 158 [.int .i64 2,.func (Fn.func 153) #[] #[],.func (Fn.func 154) #[] #[]]) ⟨rfl,(zR _ _).alloc _⟩
theorem MI (w:World):Calls Tryz.prog 103 #[] w fun e w'=>e = .returned (.agg #[.int .i64 6,.func (Fn.func 147) #[] #[],.func (Fn.func 148) #[] #[]])/\Only [] w w':=by
 go_enter Tryz.func103,Tryz.ntmps103
 go_wp2
 (try simp only[Exit.inBlock,Exit.then])
 exact GR (g:=w.heap.size) rfl (by rfl) (by rfl) (Blk.new w 158 [.int .i64 6,.func (Fn.func 147) #[] #[],.func (Fn.func 148) #[] #[]]) ⟨rfl,(zR _ _).alloc _⟩
theorem UT (w:World):Calls Tryz.prog 104 #[] w fun e w'=>e = .returned (.agg #[.int .i64 3,.func (Fn.func 155) #[] #[],.func (Fn.func 156) #[] #[]])/\Only [] w w':=by
 go_enter Tryz.func104,Tryz.ntmps104
 go_wp2
 (try simp only[Exit.inBlock,Exit.then])
 exact GR (g:=w.heap.size) rfl (by rfl) (by rfl) (Blk.new w 158 [.int .i64 3,.func (Fn.func 155) #[] #[],.func (Fn.func 156) #[] #[]]) ⟨rfl,(zR _ _).alloc _⟩
theorem NY (w:World):Calls Tryz.prog 105 #[] w fun e w'=>e = .returned (.agg #[.int .i64 3,.func (Fn.func 157) #[] #[],.func (Fn.func 158) #[] #[]])/\Only [] w w':=by
 go_enter Tryz.func105,Tryz.ntmps105
 go_wp2
 (try simp only[Exit.inBlock,Exit.then])
 exact GR (g:=w.heap.size) rfl (by rfl) (by rfl) (Blk.new w 158 [.int .i64 3,.func (Fn.func 157) #[] #[],.func (Fn.func 158) #[] #[]]) ⟨rfl,(zR _ _).alloc _⟩
theorem US (w:World):Calls Tryz.prog 106 #[] w fun e w'=>e = .returned (.agg #[.int .i64 3,.func (Fn.func 159) #[] #[],.func (Fn.func 160) #[] #[]])/\Only [] w w':=by
 go_enter Tryz.func106,Tryz.ntmps106
 go_wp2
 (try simp only[Exit.inBlock,Exit.then])
 exact GR (g:=w.heap.size) rfl (by rfl) (by rfl) (Blk.new w 158 [.int .i64 3,.func (Fn.func 159) #[] #[],.func (Fn.func 160) #[] #[]]) ⟨rfl,(zR _ _).alloc _⟩
theorem DC (w:World):Calls Tryz.prog 107 #[] w fun e w'=>e = .returned (.agg #[.int .i64 3,.func (Fn.func 161) #[] #[],.func (Fn.func 162) #[] #[]])/\Only [] w w':=by
 go_enter Tryz.func107,Tryz.ntmps107
 go_wp2
 (try simp only[Exit.inBlock,Exit.then])
 exact GR (g:=w.heap.size) rfl (by rfl) (by rfl) (Blk.new w 158 [.int .i64 3,.func (Fn.func 161) #[] #[],.func (Fn.func 162) #[] #[]]) ⟨rfl,(zR _ _).alloc _⟩
end Go.Proofs.YtfbhemmpobgdpaaGreatDoor
