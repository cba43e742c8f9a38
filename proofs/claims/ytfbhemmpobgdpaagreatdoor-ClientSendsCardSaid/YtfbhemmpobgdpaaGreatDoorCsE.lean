/- ClientSends: lemmas, from 'Layer 1: the reader: what is taken off' on; what each asks for stands in it. -/
import Derived.Test.YtfbhemmpobgdpaaGreatDoorCsD
import Derived.Lib.EndianBits
import Derived.Laws.BitsAllLaws
import Derived.Test.YtfbhemmpobgdpaaGreatDoorCsC
set_option linter.all false
set_option maxRecDepth 100000
set_option maxHeartbeats 64000000
namespace Go.Proofs.YtfbhemmpobgdpaaGreatDoor
open Go.RowKit
structure RdrV (w : World) (g : Nat) (A : Option Addr) (cap : Nat) (l : List Int) (e : Int) : Prop where
  blk : Blk w g 243 [.slice A l.length cap, .int .i64 e]
  rd : Rd w A l
  le : l.length <= cap
  max : cap <= maxLen
  far : ∀ a, A = some a -> 0 < l.length -> a.block < g
theorem RdrV.only {w w':World} {g:Nat} {A:Option Addr} {cap:Nat} {l:List Int} {e:Int} (h:RdrV w g A cap l e) (hb:Only [] w w'):RdrV w' g A cap l e:=
 { h with blk:=h.blk.only hb (by simp),rd:=h.rd.only hb }
theorem Rd.onlyG {w w':World} {g:Nat} {A:Option Addr} {l:List Int} (h:Rd w A l) (hb:Only [g] w w') (hf: ∀a,A=some a->a.block≠g):Rd w' A l:=
 RdG.onlyL (mk:=.int .u8) h hb (fun a ha _=>by simpa using hf a ha)
theorem Rd.onlyP {w w':World} {g:Nat} {A:Option Addr} {l:List Int} (h:Rd w A l) (hb:Only [g] w w') (hf: ∀a,A=some a->0<l.length->a.block≠g):Rd w' A l:=
 RdG.onlyL (mk:=.int .u8) h hb (fun a ha h0=>by simpa using hf a ha h0)
theorem rd_drop {w:World} {A:Option Addr} {l:List Int} (h:Rd w A l) (k:Nat):Rd w (Option.map (fun x=>x.add k) A) (l.drop k):=RdG.drop (mk:=.int .u8) h k
theorem Rd.take {w:World} {A:Option Addr} {l:List Int} (h:Rd w A l) (k:Nat):Rd w A (l.take k):=RdG.take (mk:=.int .u8) h k
theorem QR (w:World) (g:Nat) (A:Option Addr) (cap:Nat) (l:List Int) (n:Nat) (h:RdrV w g A cap l 0) (hn:l.length<n) (hn2:n<=4294967296) :
  Calls Tryz.prog 193 #[.pointer (some ⟨g,0,none⟩),.int .i64 n] w fun e w'=>e = .returned (.slice none 0 0)/\RdrV w' g A cap l 3/\Only [g] w w':=by
 have c0:=h.blk.cell 0;have c1:=h.blk.cell 1;have f1:=h.blk.frozen 1;have hl:=h.le;have hm:=h.max;have fin: ∀w',w'=w.setCell ⟨g,1,none⟩ (.int .i64 3)->RdrV w' g A cap l 3/\Only [g] w w':=by
  rintro w' rfl;have P:Only [g] w (w.setCell ⟨g,1,none⟩ (.int .i64 3)):=(Only.refl [g] w).setCell (p:=⟨g,1,none⟩) (.inl (by simp)) _;exact⟨⟨h.blk.set_ 1 _,h.rd.onlyP P (fun a ha h0=>Nat.ne_of_lt (h.far a ha h0)),h.le,h.max,h.far⟩,P⟩
 replace fin:=AB fin;obtain⟨k,hk⟩:=qX l.length;rw[hk] at c0 hn hl;clear h hk;go_enter Tryz.func193,Tryz.ntmps193
 go_wp2
 go_ret
 obtain⟨r1,r2⟩:=fin.out _ rfl;exact⟨rfl,r1,r2⟩
theorem eB (w:World) (g:Nat) (A:Option Addr) (cap:Nat) (l:List Int) (n:Nat) (h:RdrV w g A cap l 0) (hn:n<=l.length) :
  Calls Tryz.prog 193 #[.pointer (some ⟨g,0,none⟩),.int .i64 n] w fun e w'=>e = .returned (.slice A n cap)/\Only [g] w w'/\Rd w' A (l.take n)/\∃A' cap',RdrV w' g A' cap' (l.drop n) 0:=by
 have c0:=h.blk.cell 0;have c1:=h.blk.cell 1;have f0:=h.blk.frozen 0;have hl:=h.le;have hm:=h.max;have fin: ∀w' A',(A'=A/\cap=n\/A'=Option.map (fun x=>x.add n) A)->w'=w.setCell ⟨g,0,none⟩ (.slice A' (l.length-n) (cap-n))->Only [g] w w'/\Rd w' A (l.take n)/\∃A' cap',RdrV w' g A' cap' (l.drop n) 0:=by
  rintro w' A' hA' rfl;have P:Only [g] w (w.setCell ⟨g,0,none⟩ (.slice A' (l.length-n) (cap-n))):=(Only.refl [g] w).setCell (p:=⟨g,0,none⟩) (.inl (by simp)) _;have hfar: ∀a,A'=some a->0<(l.drop n).length->a.block<g:=by
   intro a ha h0;have h0:0<l.length:=by rw[List.length_drop] at h0;omega
   rcases hA' with⟨rfl,_⟩|rfl;·exact h.far a ha h0
   ·cases A with
    |none=>cases ha
    |some b=>simp at ha;subst ha;rw[show(b.add n).block=b.block by unfold Addr.add;split<;>rfl];exact h.far b rfl h0
  refine⟨P,(h.rd.onlyP P (fun a ha h0=>Nat.ne_of_lt (h.far a ha h0))).take n,A',cap-n,⟨?_,?_,by simp;omega,by omega,hfar⟩⟩
  ·have:=h.blk.set_ 0 (.slice A' (l.length-n) (cap-n));simpa using this
  ·rcases hA' with⟨rfl,hq⟩|rfl
   ·have:l.drop n=[]:=List.eq_nil_of_length_eq_zero (by simp;omega);rw[this];exact fun h0=>absurd h0 (by simp)
   ·exact(rd_drop h.rd n).onlyP P (fun a ha h0=>Nat.ne_of_lt (hfar a ha h0))
 replace fin:=AB fin;obtain⟨k,hk⟩:=qX l.length;rw[hk] at c0 hl fin hn;have hn': ¬k<n:=by omega
 clear h hk;by_cases hq:cap=n
 ·go_enter Tryz.func193,Tryz.ntmps193
  go_wp2
  go_ret
  exact⟨by rw[hq];rfl,fin.out _ A (.inl ⟨rfl,hq⟩) (by rw[hq,Nat.sub_self])⟩
 ·go_enter Tryz.func193,Tryz.ntmps193
  go_wp2
  go_ret
  exact⟨rfl,fin.out _ _ (.inr rfl) rfl⟩
end Go.Proofs.YtfbhemmpobgdpaaGreatDoor
namespace Go.Proofs.YtfbhemmpobgdpaaGreatDoor
open Go.RowKit
structure R where
  e : Int
  n : Int
  text : List Int
  list : List ByteArray
  rest : List Int
def DN (l:List Int):R:=⟨3,0,[],[],l⟩
def CM (l:List Int):R:=if l.length<1 then DN l else⟨0,l.getD 0 0,[],[],l.drop 1⟩
def FD.new (f:FD) (B:Nat):Prop:=(∀a,f.tA=some a->B<=a.block)/\(∀a,f.lA=some a->B<=a.block)
theorem FD.ok.onlyL {w w':World} {f:FD} {q:Nat} (h:f.ok w) (hb:Only [q] w w') {B:Nat} (hn:f.new B) (hq:q<B):f.ok w':=
 { h with
  text:=h.text.onlyL hb (fun a ha _=>by have:=hn.1 a ha;simp;omega)
  list:=h.list.onlyL hb (fun a ha _=>by have:=hn.2 a ha;simp;omega) }
theorem FD.new.mono {f:FD} {B B':Nat} (h:f.new B) (hb:B'<=B):f.new B':=⟨fun a ha=>Nat.le_trans hb (h.1 a ha),fun a ha=>Nat.le_trans hb (h.2 a ha)⟩
theorem FD.ok.with {w:World} {f:FD} (h:f.ok w) (k n:Int):FD.ok w { f with kind:=k,n:=n }:=⟨h.text,h.list,h.tle,h.tmax,h.lle,h.lmax,h.strs⟩
def FD.soft (f:FD) (w:World):Prop:=∀a,f.tA=some a->∀i,i<f.text.length->w.frozen? (a.add i)=false
structure FD.mine (w : World) (f : FD) (B : Nat) : Prop where
  ok : f.ok w
  new : f.new B
  soft : f.soft w
theorem IA (a:Addr) (n:Nat):(a.add n).block=a.block:=by unfold Addr.add;split<;>rfl
theorem FD.soft.onlyL {w w':World} {f:FD} {L:List Nat} (h:f.soft w) (ho:f.ok w) (hb:Only L w w') (hL: ∀a,f.tA=some a->a.block∉L):f.soft w':=by
 intro a ha i hi;obtain⟨b,off,e,hlt,_⟩:=ho.text (by omega);rw[ha] at e;injection e with e;refine(World.frozen?_of_block (w:=w) ?_).trans (h a ha i hi);rw[IA];exact hb.block _ (by rw[e];exact hlt) (hL a ha)
theorem FD.mine.only {w w':World} {f:FD} {B:Nat} (h:FD.mine w f B) (hb:Only [] w w'):FD.mine w' f B:=⟨h.ok.only hb,h.new,h.soft.onlyL h.ok hb (fun _ _=>by simp)⟩
theorem FD.mine.onlyL {w w':World} {f:FD} {B q:Nat} (h:FD.mine w f B) (hb:Only [q] w w') (hq:q<B):FD.mine w' f B:=⟨h.ok.onlyL hb h.new hq,h.new,h.soft.onlyL h.ok hb (fun a ha=>by have:=h.new.1 a ha;simp;omega)⟩
theorem FD.mine.mono {w:World} {f:FD} {B B':Nat} (h:FD.mine w f B) (hb:B'<=B):FD.mine w f B':=⟨h.ok,h.new.mono hb,h.soft⟩
theorem FD.mine.with {w:World} {f:FD} {B:Nat} (h:FD.mine w f B) (k n:Int):FD.mine w { f with kind:=k,n:=n } B:=⟨h.ok.with k n,h.new,h.soft⟩
def KD (w:World) (g:Nat) (r:R):Ending->World->Prop:=fun E w'=>
 Only [g] w w'/\∃tA tc lA lc,E = .returned (FD.val ⟨0,r.n,tA,tc,r.text,lA,lc,r.list⟩)/\FD.mine w' ⟨0,r.n,tA,tc,r.text,lA,lc,r.list⟩ w.heap.size/\∃A' cap',RdrV w' g A' cap' r.rest r.e
theorem FD.ok.plain (w:World) (k n:Int):FD.ok w ⟨k,n,none,0,[],none,0,[]⟩:=⟨RdG.nil,RdG.nil,by simp,by simp,by simp,by simp,by simp⟩
theorem FD.new.plain (k n:Int) (B:Nat):FD.new ⟨k,n,none,0,[],none,0,[]⟩ B:=⟨fun a ha=>by simp at ha,fun a ha=>by simp at ha⟩
theorem FD.mine.plain (w:World) (k n:Int) (B:Nat):FD.mine w ⟨k,n,none,0,[],none,0,[]⟩ B:=⟨FD.ok.plain _ _ _,FD.new.plain _ _ _,fun a ha=>by simp at ha⟩
theorem EK {w w':World} {g:Nat} {e n:Int} {rest:List Int} {A:Option Addr} {cap:Nat} (h:Only [g] w w') (hr:RdrV w' g A cap rest e):KD w g ⟨e,n,[],[],rest⟩ (.returned (.agg #[.int .i64 0,.int .u32 n,.slice none 0 0,.slice none 0 0])) w':=
 ⟨h,none,0,none,0,rfl,FD.mine.plain _ _ _ _,A,cap,hr⟩
def W4 (w:World) (q:Nat) (a b c d:Value):World:=(((w.setCell ⟨q,0,none⟩ a).setCell ⟨q,1,none⟩ b).setCell ⟨q,2,none⟩ c).setCell ⟨q,3,none⟩ d
theorem W4.blk {w:World} {q:Nat} {x0 x1 x2 x3:Value} (K:Blk w q 153 [x0,x1,x2,x3]) (a b c d:Value):Blk (W4 w q a b c d) q 153 [a,b,c,d]:=(((K.set_ 0 a).set_ 1 b).set_ 2 c).set_ 3 d
theorem W4.only (w:World) (q:Nat) (a b c d:Value):Only [q] w (W4 w q a b c d):=
 ((((Only.refl [q] w).setCell (p:=⟨q,0,none⟩) (.inl (by simp)) a).setCell (p:=⟨q,1,none⟩) (.inl (by simp)) b).setCell (p:=⟨q,2,none⟩) (.inl (by simp)) c).setCell (p:=⟨q,3,none⟩) (.inl (by simp)) d
theorem RdrV.far4 {w w':World} {g q:Nat} {A:Option Addr} {cap:Nat} {l:List Int} {e:Int} (h:RdrV w g A cap l e) (hb:Only [q] w w') (hq:g<q):RdrV w' g A cap l e:=
 { h with blk:=h.blk.only hb (by simp;omega),rd:=h.rd.onlyP hb (fun a ha h0=>by have:=h.far a ha h0;omega) }
theorem AS {fn:Func} {p:Tmp} {R:Ending->World->Prop} {a:Act} {w:World} {g:Nat} {v0 v1 v2 v3:Value} (h:fn.results=#[.cell p 153]) (hp:a.tmps.getD p undef = .pointer (some ⟨g,0,none⟩)) (hd:a.defers=[])
  (hg:Blk w g 153 [v0,v1,v2,v3]) (hR:R (.returned (.agg #[v0,v1,v2,v3])) w):bodyPost Tryz.prog fn R .ret a w:=
 bodyPost_ret (results_cell_row h _ w g 153 _ (0,0) _ hp hg Tryz.underlying153 rfl (by kernel_rfl)) hd hR
theorem aY (w:World) (g:Nat) (A:Option Addr) (cap:Nat) (l:List Int) (h:RdrV w g A cap l 0) (hl: ∀x∈l,0<=x/\x<256) :
  Calls Tryz.prog 166 #[.pointer (some ⟨g,0,none⟩)] w (KD w g (CM l)):=by
 obtain⟨w1,hw1⟩:=qY (w.alloc (.cells #[.int .i64 0,.int .u32 0,.slice none 0 0,.slice none 0 0] 153));have P1:Only [] w w1:=by rw[hw1];exact(zR _ _).alloc _
 have K:Blk w1 w.heap.size 153 [.int .i64 0,.int .u32 0,.slice none 0 0,.slice none 0 0]:=by rw[hw1];exact Blk.new w _ _
 have h1:=h.only P1;have hgl:=h.blk.lt;by_cases hs:l.length<1
 ·have hr:CM l=DN l:=if_pos hs;rw[hr];have T:=QR w1 g A cap l 1 h1 hs (by omega);clear hr hs;go_enter Tryz.func166,Tryz.ntmps166
  go_wp2_with fail
  rw[<-hw1];replace hw1:=AB hw1;go_wp2_with fail
  go_call T as e w2 ⟨rfl,R2,P2⟩
  have K2:=K.only P2 (by simp;omega);have kn:=XK;obtain⟨c0,f0,c1,f1,c2,f2,c3,f3⟩:=qF K2 0;go_wp2_with fail
  (try simp only[Exit.inBlock,Exit.then])
  refine AS (v0:=.int .i64 0) (v1:=.int .u32 0) (v2:=.slice none 0 0) (v3:=.slice none 0 0) rfl (by rfl) (by rfl) (W4.blk K2 _ _ _ _) (EK (((P1.mono (by simp)).trans P2 (by simp)).trans (W4.only w2 _ _ _ _ _) (by simp)) (R2.far4 (W4.only _ _ _ _ _ _) hgl))
 ·have hr:CM l=⟨0,l.getD 0 0,[],[],l.drop 1⟩:=if_neg hs;rw[hr];have T:=eB w1 g A cap l 1 h1 (by omega);have hx0: ∃x,l[0]? = some x/\l.getD 0 0=x/\0<=x/\x<256:=by
   refine⟨l[0]'(by omega),List.getElem?_eq_getElem (by omega),?_,hl _ (List.getElem_mem _)⟩;simp[List.getD,List.getElem?_eq_getElem (show 0<l.length by omega)]
  obtain⟨x,hx,hxd,hxa,hxb⟩:=hx0;rw[hxd];have hxt:(l.take 1)[0]? = some x:=by rw[List.getElem?_take];simpa using hx
  obtain⟨b,off,rfl,_⟩:=h.rd (by omega);replace hxt:=AB hxt;replace hx:=AB hx;replace hxd:=AB hxd;clear hr hs;go_enter Tryz.func166,Tryz.ntmps166
  go_wp2_with fail
  rw[<-hw1];replace hw1:=AB hw1;go_wp2_with fail
  go_call T as e w2 ⟨rfl,P2,D2,A2,cap2,R2⟩
  have K2:=K.only P2 (by simp;omega);have kn:=XL;obtain⟨c0,f0,c1,f1,c2,f2,c3,f3⟩:=qF K2 0;have cx:w2.cell? ⟨b,off,none⟩=some (.int .u8 x):=by
   obtain⟨b',off',e,_,hc⟩:=D2 (by simp;have:=hx.out;cases l<;>simp at this⊢);injection e with e;injection e with e1 e2;subst e1;subst e2;exact hc 0 x hxt.out
  go_wp2_with fail
  (try simp only[Exit.inBlock,Exit.then])
  refine AS (v0:=.int .i64 0) (v1:=.int .u32 x) (v2:=.slice none 0 0) (v3:=.slice none 0 0) rfl (by rfl) (by rfl) (W4.blk K2 _ _ _ _) (EK (((P1.mono (by simp)).trans P2 (by simp)).trans (W4.only w2 _ _ _ _ _) (by simp)) (by simpa[W4] using R2.far4 (W4.only _ _ _ _ _ _) hgl))
def OE (l:List Int):R:=let r:=CM l;⟨r.e,min r.n 1,r.text,r.list,r.rest⟩
theorem flag_any (w:World) (g:Nat) (A:Option Addr) (cap:Nat) (l:List Int) (h:RdrV w g A cap l 0) (hl: ∀x∈l,0<=x/\x<256) :
  Calls Tryz.prog 168 #[.pointer (some ⟨g,0,none⟩)] w (KD w g (OE l)):=by
 obtain⟨w1,hw1⟩:=qY (w.alloc (.cells #[.int .i64 0,.int .u32 0,.slice none 0 0,.slice none 0 0] 153));have P1:Only [] w w1:=by rw[hw1];exact(zR _ _).alloc _
 have K:Blk w1 w.heap.size 153 [.int .i64 0,.int .u32 0,.slice none 0 0,.slice none 0 0]:=by rw[hw1];exact Blk.new w _ _
 have h1:=h.only P1;have hgl:=h.blk.lt;have T:=aY w1 g A cap l h1 hl;have hz:w.heap.size<w1.heap.size:=K.lt;go_enter Tryz.func168,Tryz.ntmps168
 go_wp2_with fail
 rw[<-hw1];replace hw1:=AB hw1;go_wp2_with fail
 go_call T as e w2 ⟨P2,tA,tc,lA,lc,rfl,my2,A2,cap2,R2⟩
 unfold FD.val;have z2:=P2.size;have K2:=K.only P2 (by simp;omega);obtain⟨c0,f0,c1,f1,c2,f2,c3,f3⟩:=qF K2 0;have hlt:w.heap.size<w2.heap.size:=by omega
 have hn1: ¬w.heap.size=w2.heap.size:=by omega
 have hn2: ¬w2.heap.size=w.heap.size:=by omega
 go_wp2_with fail
 (try simp only[Exit.inBlock,Exit.then])
 have O4:Only [g] w w2:=(P1.mono (by simp)).trans P2 (by simp);refine AS (v0:=.int .i64 0) (v1:=.int .u32 (min (CM l).n 1)) (v2:=.slice tA (CM l).text.length tc) (v3:=.slice lA (CM l).list.length lc) rfl (by rfl) (by rfl) ((W4.blk K2 _ _ _ _).alloc _) ?_;have Q4:=W4.only w2 w.heap.size (.int .i64 0) (.int .u32 (min (CM l).n 1)) (.slice tA (CM l).text.length tc) (.slice lA (CM l).list.length lc);exact⟨(O4.trans Q4 (by simp)).alloc _,tA,tc,lA,lc,rfl,(((my2.with 0 _).onlyL Q4 hz).only ((zR _ _).alloc _)).mono (by omega),A2,cap2,(R2.far4 Q4 hgl).only ((zR _ _).alloc _)⟩
end Go.Proofs.YtfbhemmpobgdpaaGreatDoor
namespace Go.Proofs.YtfbhemmpobgdpaaGreatDoor
open Go.RowKit
def be4 (l:List Int):Int:=l.getD 0 0*16777216+l.getD 1 0*65536+l.getD 2 0*256+l.getD 3 0
def CR (l:List Int):R:=if l.length<4 then DN l else⟨0,be4 l,[],[],l.drop 4⟩
theorem dM (a b:Int) (h1:0<=a) (h2:a<4294967296) (h3:0<=b) (h4:b<4294967296):bits .or .u32 a b=bits .or .u32 b a:=by
 rw[u32_or a b h1 h2 h3 h4,u32_or b a h3 h4 h1 h2,Nat.or_comm]
theorem XN (w:World) (g:Nat) (A:Option Addr) (cap:Nat) (l:List Int) (h:RdrV w g A cap l 0) (hl: ∀x∈l,0<=x/\x<256) :
  Calls Tryz.prog 171 #[.pointer (some ⟨g,0,none⟩)] w (KD w g (CR l)):=by
 obtain⟨w1,hw1⟩:=qY (w.alloc (.cells #[.int .i64 0,.int .u32 0,.slice none 0 0,.slice none 0 0] 153));have P1:Only [] w w1:=by rw[hw1];exact(zR _ _).alloc _
 have K:Blk w1 w.heap.size 153 [.int .i64 0,.int .u32 0,.slice none 0 0,.slice none 0 0]:=by rw[hw1];exact Blk.new w _ _
 have h1:=h.only P1;have hgl:=h.blk.lt;by_cases hs:l.length<4
 ·have hr:CR l=DN l:=if_pos hs;rw[hr];have T:=QR w1 g A cap l 4 h1 hs (by omega);clear hr hs;go_enter Tryz.func171,Tryz.ntmps171
  go_wp2_with fail
  rw[<-hw1];replace hw1:=AB hw1;go_wp2_with fail
  go_call T as e w2 ⟨rfl,R2,P2⟩
  have K2:=K.only P2 (by simp;omega);have kn:=XK;obtain⟨c0,f0,c1,f1,c2,f2,c3,f3⟩:=qF K2 0;go_wp2_with fail
  (try simp only[Exit.inBlock,Exit.then])
  refine AS (v0:=.int .i64 0) (v1:=.int .u32 0) (v2:=.slice none 0 0) (v3:=.slice none 0 0) rfl (by rfl) (by rfl) (W4.blk K2 _ _ _ _) (EK (((P1.mono (by simp)).trans P2 (by simp)).trans (W4.only w2 _ _ _ _ _) (by simp)) (R2.far4 (W4.only _ _ _ _ _ _) hgl))
 ·have hr:CR l=⟨0,be4 l,[],[],l.drop 4⟩:=if_neg hs;rw[hr];have T:=eB w1 g A cap l 4 h1 (by omega);have hx: ∀k,k<4->∃x,l[k]? = some x/\l.getD k 0=x/\0<=x/\x<256:=by
   intro k hk;refine⟨l[k]'(by omega),List.getElem?_eq_getElem (by omega),?_,hl _ (List.getElem_mem _)⟩;simp[List.getD,List.getElem?_eq_getElem (show k<l.length by omega)]
  obtain⟨x0,hx0,hd0,a0,b0⟩:=hx 0 (by omega);obtain⟨x1,hx1,hd1,a1,b1⟩:=hx 1 (by omega);obtain⟨x2,hx2,hd2,a2,b2⟩:=hx 2 (by omega);obtain⟨x3,hx3,hd3,a3,b3⟩:=hx 3 (by omega);obtain⟨y0,hy0⟩: ∃y,y=x0*16777216:=⟨_,rfl⟩;obtain⟨y1,hy1⟩: ∃y,y=x1*65536:=⟨_,rfl⟩;obtain⟨y2,hy2⟩: ∃y,y=x2*256:=⟨_,rfl⟩;obtain⟨z1,hz1⟩: ∃y,y=y0+y1:=⟨_,rfl⟩;obtain⟨z2,hz2⟩: ∃y,y=z1+y2:=⟨_,rfl⟩;obtain⟨N,hN⟩: ∃y,y=z2+x3:=⟨_,rfl⟩;have s0:IntKind.u32.wrap (x0*16777216)=y0:=by rw[hy0];exact u32_wrap_id _ (by omega) (by omega)
  have s1:IntKind.u32.wrap (x1*65536)=y1:=by rw[hy1];exact u32_wrap_id _ (by omega) (by omega)
  have s2:IntKind.u32.wrap (x2*256)=y2:=by rw[hy2];exact u32_wrap_id _ (by omega) (by omega)
  have e0:IntKind.u32.wrap x0=x0:=u32_wrap_id _ a0 (by omega);have e1:IntKind.u32.wrap x1=x1:=u32_wrap_id _ a1 (by omega);have e2:IntKind.u32.wrap x2=x2:=u32_wrap_id _ a2 (by omega);have e3:IntKind.u32.wrap x3=x3:=u32_wrap_id _ a3 (by omega);have o1:bits .or .u32 y0 y1=z1:=by rw[dM y0 y1 (by omega) (by omega) (by omega) (by omega),u32_or24 _ _ (by omega) (by omega) (by omega) (by omega) (by omega)];omega
  have o2:bits .or .u32 z1 y2=z2:=by rw[dM z1 y2 (by omega) (by omega) (by omega) (by omega),u32_or16 _ _ (by omega) (by omega) (by omega) (by omega) (by omega)];omega
  have o3:bits .or .u32 z2 x3=N:=by rw[dM z2 x3 (by omega) (by omega) (by omega) (by omega),u32_or8 _ _ (by omega) (by omega) (by omega) (by omega) (by omega)];omega
  have hbe:be4 l=N:=by unfold be4;rw[hd0,hd1,hd2,hd3];omega
  rw[hbe];have hh: ∀w2,Rd w2 A (l.take 4)->∀b off,A=some ⟨b,off,none⟩->w2.cell? ⟨b,off,none⟩=some (.int .u8 x0)/\w2.cell? ⟨b,off+1,none⟩=some (.int .u8 x1)/\w2.cell? ⟨b,off+2,none⟩=some (.int .u8 x2)/\w2.cell? ⟨b,off+3,none⟩=some (.int .u8 x3):=by
   intro w2 D b off hA;obtain⟨b',off',e,_,hc⟩:=D (by simp;omega);rw[hA] at e;injection e with e;injection e with e1 e2;subst e1;subst e2;refine⟨hc 0 x0 ?_,hc 1 x1 ?_,hc 2 x2 ?_,hc 3 x3 ?_⟩<;>rw[List.getElem?_take]<;>simpa
  replace hh:=AB hh;clear hy0 hy1 hy2 hz1 hz2 hN hbe hd0 hd1 hd2 hd3 hx hx0 hx1 hx2 hx3 hr;obtain⟨b,off,rfl,_⟩:=h.rd (by omega);clear hs;go_enter Tryz.func171,Tryz.ntmps171
  go_wp2_with fail
  rw[<-hw1];replace hw1:=AB hw1;go_wp2_with fail
  go_call T as e w2 ⟨rfl,P2,D2,A2,cap2,R2⟩
  have K2:=K.only P2 (by simp;omega);have kn:=XL;have hI:(fun w':World=>w'.cell? ⟨b,off,none⟩=some (.int .u8 x0)/\w'.cell? ⟨b,off+1,none⟩=some (.int .u8 x1)/\w'.cell? ⟨b,off+2,none⟩=some (.int .u8 x2)/\w'.cell? ⟨b,off+3,none⟩=some (.int .u8 x3)) { w2 with drawn:=w2.drawn+1 }:=hh.out w2 D2 b off rfl;go_wp2_with fail
  refine AL (fun w':World=>w'.cell? ⟨b,off,none⟩=some (.int .u8 x0)/\w'.cell? ⟨b,off+1,none⟩=some (.int .u8 x1)/\w'.cell? ⟨b,off+2,none⟩=some (.int .u8 x2)/\w'.cell? ⟨b,off+3,none⟩=some (.int .u8 x3)) [23] (by kernel_rfl) ?_;refine wpAnyE_tk 0 (v:=(.slice (some ⟨b,off,none⟩) 4 cap)) rfl hI (fun w' hw'=>by obtain⟨i0,i1,i2,i3⟩:=hw';go_simp) ?_;refine wpAnyE_tk 1 (v:=(.pointer (some ⟨b,off,none⟩))) rfl hI (fun w' hw'=>by obtain⟨i0,i1,i2,i3⟩:=hw';go_simp) ?_;refine wpAnyE_tk 2 (v:=(.int .u8 x0)) rfl hI (fun w' hw'=>by obtain⟨i0,i1,i2,i3⟩:=hw';go_simp) ?_;refine wpAnyE_tk 3 (v:=(.int .u32 x0)) rfl hI (fun w' hw'=>by obtain⟨i0,i1,i2,i3⟩:=hw';go_simp) ?_;refine wpAnyE_tk 4 (v:=(.int .u32 y0)) rfl hI (fun w' hw'=>by obtain⟨i0,i1,i2,i3⟩:=hw';go_simp) ?_;refine wpAnyE_tk 5 (v:=(.slice (some ⟨b,off,none⟩) 4 cap)) rfl hI (fun w' hw'=>by obtain⟨i0,i1,i2,i3⟩:=hw';go_simp) ?_;refine wpAnyE_tk 6 (v:=(.pointer (some ⟨b,off+1,none⟩))) rfl hI (fun w' hw'=>by obtain⟨i0,i1,i2,i3⟩:=hw';go_simp) ?_;refine wpAnyE_tk 7 (v:=(.int .u8 x1)) rfl hI (fun w' hw'=>by obtain⟨i0,i1,i2,i3⟩:=hw';go_simp) ?_;refine wpAnyE_tk 8 (v:=(.int .u32 x1)) rfl hI (fun w' hw'=>by obtain⟨i0,i1,i2,i3⟩:=hw';go_simp) ?_;refine wpAnyE_tk 9 (v:=(.int .u32 y1)) rfl hI (fun w' hw'=>by obtain⟨i0,i1,i2,i3⟩:=hw';go_simp) ?_;refine wpAnyE_tk 10 (v:=(.int .u32 z1)) rfl hI (fun w' hw'=>by obtain⟨i0,i1,i2,i3⟩:=hw';go_simp) ?_;refine wpAnyE_tk 11 (v:=(.slice (some ⟨b,off,none⟩) 4 cap)) rfl hI (fun w' hw'=>by obtain⟨i0,i1,i2,i3⟩:=hw';go_simp) ?_;refine wpAnyE_tk 12 (v:=(.pointer (some ⟨b,off+2,none⟩))) rfl hI (fun w' hw'=>by obtain⟨i0,i1,i2,i3⟩:=hw';go_simp) ?_;refine wpAnyE_tk 13 (v:=(.int .u8 x2)) rfl hI (fun w' hw'=>by obtain⟨i0,i1,i2,i3⟩:=hw';go_simp) ?_;refine wpAnyE_tk 14 (v:=(.int .u32 x2)) rfl hI (fun w' hw'=>by obtain⟨i0,i1,i2,i3⟩:=hw';go_simp) ?_;refine wpAnyE_tk 15 (v:=(.int .u32 y2)) rfl hI (fun w' hw'=>by obtain⟨i0,i1,i2,i3⟩:=hw';go_simp) ?_;refine wpAnyE_tk 16 (v:=(.int .u32 z2)) rfl hI (fun w' hw'=>by obtain⟨i0,i1,i2,i3⟩:=hw';go_simp) ?_;refine wpAnyE_tk 17 (v:=(.slice (some ⟨b,off,none⟩) 4 cap)) rfl hI (fun w' hw'=>by obtain⟨i0,i1,i2,i3⟩:=hw';go_simp) ?_;refine wpAnyE_tk 18 (v:=(.pointer (some ⟨b,off+3,none⟩))) rfl hI (fun w' hw'=>by obtain⟨i0,i1,i2,i3⟩:=hw';go_simp) ?_;refine wpAnyE_tk 19 (v:=(.int .u8 x3)) rfl hI (fun w' hw'=>by obtain⟨i0,i1,i2,i3⟩:=hw';go_simp) ?_;refine wpAnyE_tk 20 (v:=(.int .u32 x3)) rfl hI (fun w' hw'=>by obtain⟨i0,i1,i2,i3⟩:=hw';go_simp) ?_;refine wpAnyE_tk 21 (v:=(.int .u32 N)) rfl hI (fun w' hw'=>by obtain⟨i0,i1,i2,i3⟩:=hw';go_simp) ?_;refine wpAnyE_tk 22 (v:=(.agg #[.int .i64 0,.int .u32 N,.slice none 0 0,.slice none 0 0])) rfl hI (fun w' hw'=>by obtain⟨i0,i1,i2,i3⟩:=hw';go_simp) ?_;refine FV 23 [] [23] rfl (by kernel_rfl) (by decide) hI ?_;simp only[List.drop_succ_cons,List.drop_zero];refine EP ?_;obtain⟨c0,f0,c1,f1,c2,f2,c3,f3⟩:=qF K2 0;go_wp2
  (try simp only[Exit.inBlock,Exit.then])
  refine AS (v0:=.int .i64 0) (v1:=.int .u32 N) (v2:=.slice none 0 0) (v3:=.slice none 0 0) rfl (by rfl) (by rfl) (W4.blk K2 _ _ _ _).drew (EK (((P1.mono (by simp)).trans P2 (by simp)).trans (W4.only w2 _ _ _ _ _) (by simp)).drew ((R2.far4 (W4.only _ _ _ _ _ _) hgl).only (zR _ _).drew))
end Go.Proofs.YtfbhemmpobgdpaaGreatDoor
namespace Go.Proofs.YtfbhemmpobgdpaaGreatDoor
open Go.RowKit
section
variable {α:Type} {cf:α -> List Value} {E size:Nat} {w w':World} {A:Option Addr} {cap:Nat} {l:List α}
def DA (cf:α->List Value) (E size:Nat) (w:World) (A:Option Addr) (cap:Nat) (l:List α):Prop:=l.length<=cap/\cap<=maxLen/\((A=none/\cap=0)\/∃g off vs,A=some ⟨g,off,none⟩/\Blk w g E vs/\off+cap*size<=vs.length/\(vs.drop off).take (l.length*size)=l.flatMap cf)
def bkO (A:Option Addr):List Nat:=(A.map (·.block)).toList
theorem DA.st:StX (bkO A) (fun w=>DA cf E size w A cap l):=fun w w' _ he h=>by
 refine⟨h.1,h.2.1,?_⟩;rcases h.2.2 with h|⟨g,off,vs,hA,hB,hr⟩;·exact .inl h
 ·refine .inr ⟨g,off,vs,hA,(he g ?_).trans hB,hr⟩;unfold bkO;rw[hA];simp
theorem DA.stq (w w':World) (h1: ∀a,A=some a->w'.heap[a.block]? = w.heap[a.block]?) (h2:w.heap.size<=w'.heap.size) (h:DA cf E size w A cap l):DA cf E size w' A cap l:=DA.st w w' h2 (fun x hx=>by
 unfold bkO at hx;rw[Option.mem_toList,Option.map_eq_some_iff] at hx;obtain⟨a,ha,rfl⟩:=hx;exact h1 a ha) h
theorem DA.lt (h:DA cf E size w A cap l): ∀a,A=some a->a.block<w.heap.size:=fun a ha=>by
 rcases h.2.2 with⟨h,_⟩|⟨g,off,vs,hA,hB,hr⟩;·rw[h] at ha;cases ha
 ·rw[hA] at ha;injection ha with ha;subst ha;exact Blk.lt hB
theorem DA.rd (h:DA cf E size w A cap l) (hcl: ∀x,(cf x).length=size):RdX cf w A l:=fun h0=>by
 rcases h.2.2 with⟨_,h1⟩|⟨g,off,vs,hA,hB,h1,h2⟩;·have:=h.1;omega
 ·refine⟨g,off,hA,Blk.lt hB,fun j u hj=>?_⟩;rw[<-h2,List.getElem?_take] at hj;split at hj
  ·rw[List.getElem?_drop] at hj;rw[hB.cell];exact hj
  ·cases hj
theorem DA.none_:DA cf E size w none 0 []:=⟨qL _,qO _,.inl ⟨rfl,rfl⟩⟩
theorem AN.toO (hcl: ∀x,(cf x).length=size) (h:AN cf E size w 0 (.slice A l.length cap) l):DA cf E size w A cap l:=by
 obtain⟨h1,⟨h2,h3⟩|⟨g,c,cur,e,_,hh,hc,hm,hs,ht⟩⟩:=h
 ·injection h2 with h4 h5 h6;subst h4;subst h6;exact⟨by omega,by unfold maxLen;omega,.inl ⟨rfl,rfl⟩⟩
 ·injection e with e1 e2 e3;subst e1;subst e3;refine⟨hc,hm,.inr ⟨g,0,cur.toList,rfl,hh,by simp[hs],?_⟩⟩;simpa using ht
theorem DA.cut (hcl: ∀x,(cf x).length=size) {x:α} {g off:Nat} (h:DA cf E size w (some ⟨g,off,none⟩) cap (x::l)):DA cf E size w (some ⟨g,off+1*size,none⟩) (cap-1) l:=by
 obtain⟨h1,h2,⟨h3,_⟩|⟨g',off',vs,e,hB,h3,h4⟩⟩:=h;·cases h3
 injection e with e;injection e with e1 e2;subst e1;subst e2;simp only[List.length_cons] at h1 h4;refine⟨by omega,by omega,.inr ⟨g,off+1*size,vs,rfl,hB,?_,?_⟩⟩
 ·have:1*size+(cap-1)*size=cap*size:=by rw[<-Nat.add_mul];congr 1;omega
  omega
 ·have e2:((vs.drop off).take ((l.length+1)*size)).drop size=((x::l).flatMap cf).drop size:=by rw[h4]
  rw[qG,List.drop_left' (hcl x),List.drop_take,List.drop_drop] at e2;rw[Nat.one_mul,<-e2];congr 1
  rw[Nat.succ_mul];omega
def JG (g off cap size:Nat):Option Addr:=if cap=1 then some ⟨g,off,none⟩ else some ⟨g,off+1*size,none⟩
theorem DA.cutS (hcl: ∀x,(cf x).length=size) {x:α} {g off:Nat} (h:DA cf E size w (some ⟨g,off,none⟩) cap (x::l)):DA cf E size w (JG g off cap size) (cap-1) l:=by
 unfold JG;split
 ·rename_i hc;obtain⟨h1,h2,⟨h3,_⟩|⟨g',off',vs,e,hB,h3,h4⟩⟩:=h;·cases h3
  subst hc;simp only[List.length_cons] at h1;have hl:l=[]:=List.eq_nil_of_length_eq_zero (by omega);subst hl;exact⟨qL _,qO _,.inr ⟨g',off',vs,e,hB,by omega,by simp⟩⟩
 ·exact h.cut hcl
theorem cW (g off cap size:Nat):bkO (JG g off cap size)=[g]:=by
 unfold JG;split<;>rfl
variable {P:Program} {tS bytes:Nat}
theorem run_appO (ht:ElemT P tS E size bytes) (ty:TypeId) (hone: ∀x,∀u∈cf x,u.oneCell'=true) (hcl: ∀x,(cf x).length=size) (h:DA cf E size w A cap l) {b o:Nat} (c:Nat) (gs:List α) (h0:0<gs.length) (hr:RdX cf w (some ⟨b,o,none⟩) gs)
  (hlen:l.length+gs.length<=maxLen) (hby:(l.length+gs.length)*bytes<=140737488355328) :
  ∃A' cap' w',(Builtin.append_ #[tS,tS] ty #[.slice A l.length cap,.slice (some ⟨b,o,none⟩) gs.length c]).run P w = .ok (.slice A' (l.length+gs.length) cap') w'/\DA cf E size w' A' cap' (l++gs)/\Only (bkO A) w w'/\(A'=A\/∀a,A'=some a->w.heap.size<=a.block):=by
 have hgl:=FJ hcl gs;have hll:=FJ hcl l;have ht0:=ht;obtain⟨hu,⟨i0,z,hi,hz0,hz1,hz2,hzs⟩,hpos⟩:=ht;obtain⟨b',o',e,hb,hc⟩:=hr h0;injection e with e;injection e with e1 e2;subst e1;subst e2;have hn: ∀j u,(gs.flatMap cf)[j]? = some u->w.cell? ((⟨b,o,none⟩:Addr).add j)=some u:=fun j u hj=>by rw[Addr.add_lit];exact hc j u hj
 have h1c: ∀u∈gs.flatMap cf,u.oneCell'=true:=fun u hu=>by
  obtain⟨x,_,hx⟩:=List.mem_flatMap.1 hu;exact hone x u hx
 rcases h.2.2 with⟨rfl,rfl⟩|⟨g,off,vs,rfl,hB,hcap,hl⟩
 ·have hl0:l=[]:=List.eq_nil_of_length_eq_zero (by have:=h.1;omega);subst hl0;obtain⟨v',w',e,h2,h3,h4⟩:=OK (P:=P) (base:=0) ht0 ty hone (CN (w:=w)) (some ⟨b,o,none⟩) c gs hgl hr (by simpa using hlen) (by simpa using hby) (qO _);obtain⟨A',cap',rfl,hle,hmax,_,hbl⟩:=h2.form;simp only[List.nil_append,List.length_nil,Nat.zero_add] at h2 h4 e⊢;refine⟨A',cap',w',e,h2.toO hcl,h3,?_⟩;rcases h4 with h4|h4
  ·left;cases A' with
   |none=>rfl
   |some a=>cases h4
  ·right;intro a ha;subst ha;injection h4 with h4;omega
 ·by_cases hroom:l.length+gs.length<=cap
  ·have hst:=run_storeCells_cells (P:=P) g (off+l.length*size) (gs.flatMap cf) 0 w (fun j hj=>by
    have:=JU hB (off+l.length*size) (gs.length*size) (by
     have:(l.length+gs.length)*size<=cap*size:=Nat.mul_le_mul_right _ hroom;rw[Nat.add_mul] at this;omega) j (by rw[<-hgl];exact hj)
    simpa using this.1) (fun j hj=>by
    have:=JU hB (off+l.length*size) (gs.length*size) (by
     have:(l.length+gs.length)*size<=cap*size:=Nat.mul_le_mul_right _ hroom;rw[Nat.add_mul] at this;omega) j (by rw[<-hgl];exact hj)
    simpa using this.2) h1c
   simp only[Nat.add_zero] at hst;have hf:=run_firstCells_some (P:=P) w i0.size gs.length ⟨b,o,none⟩ gs.length c (gs.flatMap cf) (by rw[hz1];exact hgl) (by simpa using hn);refine⟨some ⟨g,off,none⟩,cap,w.setCells g (off+l.length*size) (gs.flatMap cf),?_,?_,?_,.inl rfl⟩
   ·rw[hz1] at hf;simp[Builtin.append_,run_underlying hu,sizeOf,typeInfo,hi,hz1,Builtin.lenOf,hf,hroom,Addr.add_mid,hst]
   ·have hle:off+l.length*size+(gs.flatMap cf).length<=vs.length:=by
     have:(l.length+gs.length)*size<=cap*size:=Nat.mul_le_mul_right _ hroom;rw[Nat.add_mul] at this;omega
    refine⟨by rw[zE];exact hroom,h.2.1,.inr ⟨g,off,_,rfl,JO _ _ _ _ hB hle,?_,?_⟩⟩;·simp only[EG,zE,List.length_take,List.length_drop];omega
    ·rw[List.flatMap_append,<-hl];unfold EG;rw[List.drop_append_of_le_length (by rw[List.length_take];omega)];rw[List.drop_take,show off+l.length*size-off=l.length*size by omega];rw[zE,Nat.add_mul,List.take_append,List.length_take,List.length_drop];rw[show min (l.length*size) (vs.length-off)=l.length*size by omega];rw[show l.length*size+gs.length*size-l.length*size=gs.length*size by omega];rw[List.take_append_of_le_length (by omega),List.take_take,show min (l.length*size+gs.length*size) (l.length*size)=l.length*size by omega];congr 1
     exact List.take_of_length_le (by omega)
   ·exact(IP _ _ _).mono (by simp[bkO])
  ·have holds: ∀j u,(l.flatMap cf)[j]? = some u->w.cell? ((⟨g,off,none⟩:Addr).add j)=some u:=fun j u hj=>by
    rw[Addr.add_lit];have h0:0<l.length:=by
     rcases Nat.eq_zero_or_pos l.length with h0|h0
     ·have:l=[]:=List.eq_nil_of_length_eq_zero h0;subst this;simp at hj
     ·exact h0
    obtain⟨b2,o2,e2,_,hc2⟩:=h.rd hcl h0;injection e2 with e2;injection e2 with e3 e4;subst e3;subst e4;exact hc2 j u hj
   have hrun:=run_append_grow (P:=P) w tS ty E i0 z hu hi hz0 ⟨g,off,none⟩ l.length cap (l.flatMap cf) (by rw[hz1];exact hll) holds ⟨b,o,none⟩ gs.length c (gs.flatMap cf) (by rw[hz1];exact hgl) hn (by omega) (by unfold maxLen at hlen;omega) (growslice_fits (by omega) (by rw[hz2];exact hby));obtain⟨Z,hZ⟩:=qX (Builtin.zeroCells z.cells (grownCap w (l.length+gs.length) cap E-(l.length+gs.length)));have hZl:Z.toList.length=(grownCap w (l.length+gs.length) cap E-(l.length+gs.length))*size:=by rw[<-hZ,iS,hzs]
   rw[hZ] at hrun;have harr:(l.flatMap cf).toArray++(gs.flatMap cf).toArray++Z=((l.flatMap cf++gs.flatMap cf)++Z.toList).toArray:=by
    apply Array.ext';simp
   rw[harr] at hrun;refine⟨_,_,_,hrun,?_,(((Only.refl [] w).drew).alloc _).mono (by simp),.inr fun a ha=>by injection ha with ha;subst ha;exact qL _⟩;refine⟨by rw[zE];exact grownCap_ge _ _ _ _,grownCap_le_maxLen _ _ _ _ hlen,.inr ⟨w.heap.size,0,_,rfl,heap_alloc_new w.drew _,?_,?_⟩⟩
   ·have hge:=grownCap_ge w (l.length+gs.length) cap E;rw[zE,zE,hll,hgl,hZl,Nat.zero_add,<-Nat.add_mul,<-Nat.add_mul];exact Nat.mul_le_mul_right _ (by omega)
   ·rw[List.drop_zero,List.flatMap_append,zE,Nat.add_mul];have e3:l.length*size+gs.length*size=(l.flatMap cf++gs.flatMap cf).length:=by rw[zE,hll,hgl]
    rw[e3];exact List.take_left
theorem run_cut (ht:ElemT P tS E size bytes) {g off n cap:Nat} (hn:1<=n) (w:World):(Instr.sliceAt tS (.slice (some ⟨g,off,none⟩) n cap) (some (.int .i64 1)) none none).run P w = .ok (.slice (JG g off cap size) (n-1) (cap-1)) w:=by
 have hu:P.underlying tS=some (.slice (P.elem tS)):=by rw[ht.elem];exact ht.ht
 rw[run_sliceAt_slice (h:=hu),run_slice_l (ht:=hu) (h0:=by omega) (h1:=by omega),ht.elem,ht.sizeOf];simp only[Result.andThen_ok,sliced,JG];congr 2
 split;·rename_i h;simp at h;simp[h]
 ·rename_i h;simp at h;simp[h,Addr.add_lit]
def HB.oo (cf:α->List Value) (E size:Nat) (A:Option Addr) (cap:Nat) (l:List α):HB:=.q true A (fun w=>DA cf E size w A cap l) DA.stq
end
section
variable {P:Program} {f:FuncId} {R:Ending -> World -> Prop} {n:Nat} {w0:World} {L:List Nat} {β:List Nat} {m:SM}
variable {α:Type} {cf:α -> List Value} {E size tS bytes:Nat} {A:Option Addr} {cap:Nat} {l:List α}
theorem Hs.appO (k:Nat) (ht:ElemT P tS E size bytes) (l gs:List α) (nl ng:Nat) (hl:l.length=nl) (hg:gs.length=ng) {b o c ty:Nat} (hone: ∀x,∀u∈cf x,u.oneCell'=true) (hcl: ∀x,(cf x).length=size)
  (hs:DO n β m=some (GK (Builtin.append_ #[tS,tS] ty #[.slice A nl cap,.slice (some ⟨b,o,none⟩) ng c]))) (hk:m.hp[k]? = some (HB.oo cf E size A cap l)) (hrd:(HO m).contains k=false) (h0:0<ng)
  (hr: ∀w,Mem w0 L β m.hp w->RdX cf w (some ⟨b,o,none⟩) gs) (hlen:nl+ng<=maxLen) (hby:(nl+ng)*bytes<=140737488355328)
  (h: ∀A' cap',Hs P f R n w0 L β (m.put (BD m) (.c (.v (.slice A' (nl+ng) cap'))) (m.hp.set k (HB.oo cf E size A' cap' (l++gs))))):Hs P f R n w0 L β m:=by
 subst hl;subst hg;refine Hs.opW hs fun w H W=>?_;have ho:DA cf E size w A cap l:=H.atQ k (wr:=true) (A:=A) (Q:=fun w=>DA cf E size w A cap l) (st:=DA.stq) hk;obtain⟨A',cap',w',h1,h2,h3,h4⟩:=run_appO (P:=P) ht ty hone hcl ho c gs h0 (hr w H) hlen hby;have hq:(HB.oo cf E size A' cap' (l++gs)).lies w' β (nm β k):=⟨h2,h2.lt⟩;refine⟨[],.c (.v (.slice A' (l.length+gs.length) cap')),m.hp.set k (HB.oo cf E size A' cap' (l++gs)),w',h1,?_,?_,fun i hi b hh=>?_,by rw[qN];exact h A' cap'⟩
 ·rw[qN];refine H.swap k hk h3 (fun x hx=>?_) rfl hq (fun x hx=>?_)
  ·unfold bkO at hx;rw[Option.mem_toList] at hx;exact hx
  ·rcases h4 with h4|h4;·left;subst h4;exact hx
   ·right;simp only[HB.oo,HB.blk,Option.map_eq_some_iff] at hx;obtain⟨a,ha,rfl⟩:=hx;exact h4 a ha
 ·simp only[SV.wf,SC.wf,Bool.true_and,Bool.and_eq_true,Nat.ble_eq,List.length_set];exact⟨qL _,TW (SM.wf_hp W) rfl⟩
 ·rw[List.getElem?_set,if_neg (fun e=>by
   subst e;simp at hrd;exact hrd hi)]
  exact hh
theorem Hs.cutN (ht:ElemT P tS E size bytes) {g off len cap:Nat} (hn:1<=len) (hs:DO n β m=some (GK (Instr.sliceAt tS (.slice (some ⟨g,off,none⟩) len cap) (some (.int .i64 1)) none none))) (h:Hs P f R n w0 L β (m.put (BD m) (.c (.v (.slice (JG g off cap size) (len-1) (cap-1)))) m.hp)):Hs P f R n w0 L β m:=
 Hs.opV (.c (.v (.slice (JG g off cap size) (len-1) (cap-1)))) hs rfl (fun w _=>run_cut ht hn w) h
end
def BP:Nat->List Int->List (List Int)×Option (List Int)
 |0,l=>([],some l)
 |k+1,l=>if l.length<4 then([],some l) else if EI (be4 l)=false then([],none) else if(l.length:Int)<4+be4 l then([],some l) else
  ((l.drop 4).take (be4 l).toNat::(BP k (l.drop (4+(be4 l).toNat))).1,(BP k (l.drop (4+(be4 l).toNat))).2)
def frS (A:Option Addr) (n c:Nat) (bad:Bool):List SC:=[.v (.slice A n c),.v (.bool bad)]
structure FR where
  fA : Option Addr
  rest : List Int
  fc : Nat
  bad : Bool
  oA : Option Addr
  oc : Nat
  ps : List (Pc Int)
  e : Int
def FR.val (x:FR):Value:=.tuple #[.agg #[.slice x.fA x.rest.length x.fc,.bool x.bad],.slice x.oA x.ps.length x.oc,.int .i64 x.e]
def FR.fp (x:FR):List Nat:=bkO x.fA++(bkO x.oA++x.ps.flatMap fun p=>bkO p.A)
def FR.at (x:FR) (w:World):Prop:=RdX cu8 w x.fA x.rest/\RdX Pc.cs w x.oA x.ps/\∀p∈x.ps,RdX cu8 w p.A p.l
def FR.is (x:FR) (l:List Int):Prop:=x.ps.map Pc.l=(BP (l.length+1) l).1/\(∀p∈x.ps,p.l.length<=p.c/\p.c<=maxLen)/\(x.rest.length<=x.fc/\x.fc<=maxLen/\x.ps.length<=x.oc/\x.oc<=maxLen)/\match(BP (l.length+1) l).2 with
 |none=>x.bad=true/\x.rest=[]/\x.e=5
 |some r=>x.bad=false/\x.rest=r/\x.e=0
theorem DX {α:Type} {cf:α->List Value} {A:Option Addr} {l:List α}:StX (bkO A) (fun w=>RdX cf w A l):=fun w w' hs he h=>rdX_stq w w' (fun a ha=>he _ (by subst ha;simp[bkO])) hs h
theorem VQ: ∀{ps:List (Pc Int)},StX (ps.flatMap fun p=>bkO p.A) (fun w=>∀p∈ps,RdX cu8 w p.A p.l):=fun {ps} w w' hs he h p hp=>DX w w' hs (fun x hx=>he x (List.mem_flatMap.2 ⟨p,hp,hx⟩)) (h p hp)
theorem FR.st {x:FR}:StX x.fp x.at:=fun w w' hs he h=>⟨DX w w' hs (fun y hy=>he y (by simp[FR.fp,hy])) h.1,DX w w' hs (fun y hy=>he y (by simp[FR.fp,hy])) h.2.1,VQ w w' hs (fun y hy=>he y (by unfold FR.fp;simp only[List.mem_append];exact .inr (.inr hy))) h.2.2⟩
def FR.ap (x:FR):Prop:=∀y∈bkO x.fA,y∉bkO x.oA++x.ps.flatMap fun p=>bkO p.A
def cL (w:World) (l:List Int):Ending->World->Prop:=fun e w'=>∃x:FR,e = .returned x.val/\Only [] w w'/\(x.at w'/\x.is l)/\(∀y∈x.fp,y<w'.heap.size/\w.heap.size<=y)/\x.ap
def FrPost (w:World) (l:List Int):Ending->World->Prop:=fun e w'=>∃x:FR,e = .returned x.val/\Only [] w w'/\(x.at w'/\x.is l)/\∀y∈x.fp,y<w'.heap.size/\w.heap.size<=y
theorem DB {w w1 w':World} {L1 fp β:List Nat} {hp:List HB} {Q:World->Prop} (C:Fx w [] w1 L1 fp Q) (H:Mem w1 L1 β hp w') (k:Nat) {A:Option Addr} {c n E size:Nat} {vs:List Value} (hk:hp[k]? = some (.s A c n E size vs)): ∀y∈bkO A,y<w'.heap.size/\w.heap.size<=y:=fun y hy=>by
 have hb:(HB.s A c n E size vs).blk (nm β k)=some y:=by
  unfold bkO at hy;rw[Option.mem_toList] at hy;exact hy
 refine⟨HB.lies_lt (H.lies k _ hk) hb,?_⟩;rcases H.own k _ y hk rfl hb with h|h;·exact(C.mem y h).resolve_left (by simp)
 ·exact Nat.le_trans C.only.size h
theorem DP {w w1 w':World} {L1 fp β:List Nat} {hp:List HB} {Q:World->Prop} (C:Fx w [] w1 L1 fp Q) (H:Mem w1 L1 β hp w'): ∀y∈fp,y<w'.heap.size/\w.heap.size<=y:=fun y hy=>⟨zT (C.own y hy).1 H.only.size,(C.own y hy).2.2.resolve_left (by simp)⟩
theorem WI (x0 x1 x2 x3:Int) (l:List Int):be4 (x0::x1::x2::x3::l)=x0*16777216+x1*65536+x2*256+x3:=by simp[be4]
theorem flength_l (l:List Int) (N:Nat) (hN:l.length=N) (h4:4<=N) (A:Option Addr) (c:Nat) (w:World) (hr:RdX cu8 w A l) (hb: ∀x∈l,0<=x/\x<256):Calls Tryz.prog 57 #[.slice A N c] w fun e w'=>e = .returned (.int .i64 (be4 l))/\Only [] w w':=by
 match l,hN with
 |x0::x1::x2::x3::l,hN=>
  rw[WI];exact fD x0 x1 x2 x3 l N A c w hr h4 (hb x0 (by simp)) (hb x1 (by simp)) (hb x2 (by simp)) (hb x3 (by simp))
 |[],hN=>simp at hN;omega
 |[_],hN=>simp at hN;omega
 |[_,_],hN=>simp at hN;omega
 |[_,_,_],hN=>simp at hN;omega
theorem by_bs {n:Nat} (h:n<=1000000):(n+1)*Tryz.prog.bytesOf 30<=140737488355328:=by
 have e:Tryz.prog.bytesOf 30=24:=by kernel_rfl
 rw[e];omega
theorem pc_one {α:Type} (p:Pc α): ∀u∈p.cs,u.oneCell'=true:=by
 intro u hu;simp only[Pc.cs,qS] at hu;subst hu;rfl
section
variable {P:Program} {f:FuncId} {R:Ending -> World -> Prop} {n:Nat} {w0:World} {L:List Nat} {β:List Nat} {m:SM} {tS E size bytes:Nat}
theorem run_lhF (ht:ElemT P tS E size bytes) {A:Option Addr} {n cap i j:Nat} (hi:i<=j) (hj:j<=cap) (w:World):(Instr.sliceAt tS (.slice A n cap) (some (.int .i64 i)) (some (.int .i64 j)) none).run P w = .ok (.slice (loA size A i cap) (j-i) (cap-i)) w:=by
 have hu:P.underlying tS=some (.slice (P.elem tS)):=by rw[ht.elem];exact ht.ht
 rw[run_sliceAt_slice (h:=hu),run_slice_lh (ht:=hu) (h0:=by omega) (h1:=by omega) (h2:=by omega),ht.elem,ht.sizeOf];simp only[Result.andThen_ok,sliced,Int.toNat_natCast];rfl
theorem Hs.lhF (ht:ElemT P tS E size bytes) {A:Option Addr} {len cap i j:Nat} (hi:i<=j) (hj:j<=cap) (hs:DO n β m=some (GK (Instr.sliceAt tS (.slice A len cap) (some (.int .i64 i)) (some (.int .i64 j)) none))) (h:Hs P f R n w0 L β (m.put (BD m) (.c (.v (.slice (loA size A i cap) (j-i) (cap-i)))) m.hp)):Hs P f R n w0 L β m:=
 Hs.opV (.c (.v (.slice (loA size A i cap) (j-i) (cap-i)))) hs rfl (fun w _=>run_lhF ht hi hj w) h
end
theorem dQ {α:Type} {cf:α->List Value} {size:Nat} (hcl: ∀x,(cf x).length=size) {w:World} {A:Option Addr} {l:List α} (i:Nat) (h:RdX cf w A l):RdX cf w A (l.take i):=fun h0=>by
 rw[List.length_take] at h0;obtain⟨b,off,e,hb,hcell⟩:=h (by omega);refine⟨b,off,e,hb,fun j u hj=>?_⟩;rcases Nat.le_total i l.length with hi|hi
 ·rw[<-MU hcl l i hi,List.getElem?_take] at hj;split at hj;·exact hcell _ u hj
  ·cases hj
 ·rw[List.take_of_length_le hi] at hj;exact hcell _ u hj
theorem PA {w w1 w':World} {L1 fq β:List Nat} {hp:List HB} {Q:World->Prop} {A3 A4 oA:Option Addr} {c4 n4 E4 s4 c2 n2 E2 s2:Nat} {v4 v2:List Value} (C:Fx w [] w1 L1 (bkO A3++fq) Q) (H:Mem w1 L1 β hp w') (hro:PJ hp=true) (h3:hp[3]? = some (.s A4 c4 n4 E4 s4 v4)) (h2:hp[2]? = some (.s oA c2 n2 E2 s2 v2)): ∀y∈bkO A4,y∉bkO oA++fq:=fun y hy hm=>by
 have b3:(HB.s A4 c4 n4 E4 s4 v4).blk (nm β 3)=some y:=by
  unfold bkO at hy;rw[Option.mem_toList] at hy;exact hy
 rcases qK hm with hm|hm
 ·have b2:(HB.s oA c2 n2 E2 s2 v2).blk (nm β 2)=some y:=by
   unfold bkO at hm;rw[Option.mem_toList] at hm;exact hm
  have:=H.inj 2 3 _ _ y h2 h3 b2 b3;cases this
 ·exact C.apart H hro 3 _ y h3 b3 (qJ (.inr hm))
theorem eW (A:Option Addr) (buf:List Int) (c:Nat) (B:Option Addr) (b:List Int) (cb:Nat) (w:World) (hr:RdX cu8 w A buf) (hr2:RdX cu8 w B b) (hsz:buf.length+b.length<=1000000) (hby: ∀x∈buf++b,0<=x/\x<256):Calls Tryz.prog 28 #[.agg #[.slice A buf.length c,.bool false],.slice B b.length cb] w (cL w (buf++b)):=by
 have K: ∀(A3:Option Addr) (b1 b2:Nat) (w1:World) (L1:List Nat) (rest:List Int) (Ar:Option Addr) (nr cr:Nat) (ps:List (Pc Int)) (oA:Option Addr) (oc k:Nat),rest.length=nr->nr<=cr->cr<=maxLen->nr<=1000000->(∀w,RdX cu8 w A3 (buf++b)->RdX cu8 w Ar rest)->Fx w [] w1 L1 (bkO A3++ps.flatMap fun p=>bkO p.A) (fun w=>RdX cu8 w A3 (buf++b)/\∀p∈ps,RdX cu8 w p.A p.l)->ps.length=k->(∀p∈ps,p.l.length<=p.c/\p.c<=maxLen)->ps.map Pc.l=(BP ((buf++b).length+1) (buf++b)).1->(BP ((buf++b).length+1) (buf++b)).2=some rest->∀u:Nat->Value,Hs Tryz.prog 28 (cL w (buf++b)) (Tryz.f28).ntmps w1 L1 [b1,b2,0] ⟨.no,atR Tryz.f28 13,KQ [(4,.c (.p 0 0)),(7,.c (.p 1 0)),(8,.c (.v (.func (.func 55) #[.pointer (some ⟨b2,0,none⟩)] #[]))),(9,.c (.v (.slice Ar nr cr)))] (.vals u),[.b true 86 [.v (.slice none 0 0),.v (.bool false)],.b true 133 [.v (.slice oA k oc)],.s oA oc k 30 1 (ps.flatMap Pc.cs)]⟩:=by
  intro A3 b1 b2 w1 L1 rest Ar nr cr ps oA oc k hn hnc hcm hns himp C hk hpl hf1 hf2 u;refine Hs.any [1,1005] (by kernel_rfl) ?_;refine Hs.e0 ?_;refine Hs.branch2 1 3 (by kernel_rfl) ?_ ?_
  ·refine Hs.callS (cf:=cu8) (E:=5) (size:=1) (fun A cap=>.slice A nr cap) rest nr hn (fun w' H=>by
    have:=FH rest Ar cr w' (himp w' (C.at H).1) (by omega);rw[hn] at this;exact this) (by kernel_rfl) (by kernel_rfl) fun A4 c4 g1 g2=>?_
   refine Hs.e0 ?_;refine Hs.branch2 3 5 (by kernel_rfl) ?_ ?_
   ·refine Hs.rung0 [] 1 (fun _=>(by kernel_rfl)) ?_;refine Hs.branch2 4 5 (by kernel_rfl) ?_ ?_
    ·refine Hs.e0 ?_;exact Hs.rt (v:=.tuple #[.agg #[.slice A4 nr c4,.bool false],.slice oA k oc,.int .i64 0]) Tryz.func28 fun w' H=>by
      have ho:=(H.ownX (cf:=Pc.cs) (l:=ps) 2 hk (A:=oA) (cap:=oc) (E:=30) (size:=1) (by kernel_rfl)).form;obtain⟨A9,c9,ho,ho1,ho2,_⟩:=ho;injection ho with _ _ ho;rw[<-ho] at ho1 ho2;exact⟨⟨A4,rest,c4,false,oA,oc,ps,0⟩,by subst hk;subst hn;rfl,C.fin H,⟨⟨H.rdX (cf:=cu8) (l:=rest) 3 hn (A:=A4) (cap:=c4) (E:=5) (size:=1) (by kernel_rfl),H.rdX (cf:=Pc.cs) (l:=ps) 2 hk (A:=oA) (cap:=oc) (E:=30) (size:=1) (by kernel_rfl),(C.at H).2⟩,⟨hf1,hpl,⟨by dsimp only;omega,g2,ho1,ho2⟩,by rw[hf2];exact⟨rfl,rfl,rfl⟩⟩⟩,fun y hy=>by
       unfold FR.fp at hy;simp only[List.mem_append] at hy;rcases hy with hy|hy|hy;·exact DB (A:=A4) (c:=c4) (n:=nr) (E:=5) (size:=1) (vs:=rest.flatMap cu8) C H 3 (by kernel_rfl) y hy
       ·exact DB (A:=oA) (c:=oc) (n:=k) (E:=30) (size:=1) (vs:=ps.flatMap Pc.cs) C H 2 (by kernel_rfl) y hy
       ·exact DP C H y (qJ (.inr hy)),PA (c4:=c4) (n4:=nr) (E4:=5) (s4:=1) (v4:=rest.flatMap cu8) (c2:=oc) (n2:=k) (E2:=30) (s2:=1) (v2:=ps.flatMap Pc.cs) C H (by kernel_rfl) (by kernel_rfl) (by kernel_rfl)⟩
    ·refine Hs.e0 ?_;exact Hs.rt (v:=.tuple #[.agg #[.slice A4 nr c4,.bool false],.slice oA k oc,.int .i64 0]) Tryz.func28 fun w' H=>by
      have ho:=(H.ownX (cf:=Pc.cs) (l:=ps) 2 hk (A:=oA) (cap:=oc) (E:=30) (size:=1) (by kernel_rfl)).form;obtain⟨A9,c9,ho,ho1,ho2,_⟩:=ho;injection ho with _ _ ho;rw[<-ho] at ho1 ho2;exact⟨⟨A4,rest,c4,false,oA,oc,ps,0⟩,by subst hk;subst hn;rfl,C.fin H,⟨⟨H.rdX (cf:=cu8) (l:=rest) 3 hn (A:=A4) (cap:=c4) (E:=5) (size:=1) (by kernel_rfl),H.rdX (cf:=Pc.cs) (l:=ps) 2 hk (A:=oA) (cap:=oc) (E:=30) (size:=1) (by kernel_rfl),(C.at H).2⟩,⟨hf1,hpl,⟨by dsimp only;omega,g2,ho1,ho2⟩,by rw[hf2];exact⟨rfl,rfl,rfl⟩⟩⟩,fun y hy=>by
       unfold FR.fp at hy;simp only[List.mem_append] at hy;rcases hy with hy|hy|hy;·exact DB (A:=A4) (c:=c4) (n:=nr) (E:=5) (size:=1) (vs:=rest.flatMap cu8) C H 3 (by kernel_rfl) y hy
       ·exact DB (A:=oA) (c:=oc) (n:=k) (E:=30) (size:=1) (vs:=ps.flatMap Pc.cs) C H 2 (by kernel_rfl) y hy
       ·exact DP C H y (qJ (.inr hy)),PA (c4:=c4) (n4:=nr) (E4:=5) (s4:=1) (v4:=rest.flatMap cu8) (c2:=oc) (n2:=k) (E2:=30) (s2:=1) (v2:=ps.flatMap Pc.cs) C H (by kernel_rfl) (by kernel_rfl) (by kernel_rfl)⟩
   ·refine Hs.e0 ?_;exact Hs.rt (v:=.tuple #[.agg #[.slice A4 nr c4,.bool false],.slice oA k oc,.int .i64 0]) Tryz.func28 fun w' H=>by
     have ho:=(H.ownX (cf:=Pc.cs) (l:=ps) 2 hk (A:=oA) (cap:=oc) (E:=30) (size:=1) (by kernel_rfl)).form;obtain⟨A9,c9,ho,ho1,ho2,_⟩:=ho;injection ho with _ _ ho;rw[<-ho] at ho1 ho2;exact⟨⟨A4,rest,c4,false,oA,oc,ps,0⟩,by subst hk;subst hn;rfl,C.fin H,⟨⟨H.rdX (cf:=cu8) (l:=rest) 3 hn (A:=A4) (cap:=c4) (E:=5) (size:=1) (by kernel_rfl),H.rdX (cf:=Pc.cs) (l:=ps) 2 hk (A:=oA) (cap:=oc) (E:=30) (size:=1) (by kernel_rfl),(C.at H).2⟩,⟨hf1,hpl,⟨by dsimp only;omega,g2,ho1,ho2⟩,by rw[hf2];exact⟨rfl,rfl,rfl⟩⟩⟩,fun y hy=>by
      unfold FR.fp at hy;simp only[List.mem_append] at hy;rcases hy with hy|hy|hy;·exact DB (A:=A4) (c:=c4) (n:=nr) (E:=5) (size:=1) (vs:=rest.flatMap cu8) C H 3 (by kernel_rfl) y hy
      ·exact DB (A:=oA) (c:=oc) (n:=k) (E:=30) (size:=1) (vs:=ps.flatMap Pc.cs) C H 2 (by kernel_rfl) y hy
      ·exact DP C H y (qJ (.inr hy)),PA (c4:=c4) (n4:=nr) (E4:=5) (s4:=1) (v4:=rest.flatMap cu8) (c2:=oc) (n2:=k) (E2:=30) (s2:=1) (v2:=ps.flatMap Pc.cs) C H (by kernel_rfl) (by kernel_rfl) (by kernel_rfl)⟩
  ·refine Hs.rung0 [] 1 (fun _=>(by kernel_rfl)) ?_;refine Hs.branch2 1 4 (by kernel_rfl) ?_ ?_
   ·refine Hs.callS (cf:=cu8) (E:=5) (size:=1) (fun A cap=>.slice A nr cap) rest nr hn (fun w' H=>by
     have:=FH rest Ar cr w' (himp w' (C.at H).1) (by omega);rw[hn] at this;exact this) (by kernel_rfl) (by kernel_rfl) fun A4 c4 g1 g2=>?_
    refine Hs.e0 ?_;refine Hs.branch2 4 5 (by kernel_rfl) ?_ ?_
    ·refine Hs.e0 ?_;exact Hs.rt (v:=.tuple #[.agg #[.slice A4 nr c4,.bool false],.slice oA k oc,.int .i64 0]) Tryz.func28 fun w' H=>by
      have ho:=(H.ownX (cf:=Pc.cs) (l:=ps) 2 hk (A:=oA) (cap:=oc) (E:=30) (size:=1) (by kernel_rfl)).form;obtain⟨A9,c9,ho,ho1,ho2,_⟩:=ho;injection ho with _ _ ho;rw[<-ho] at ho1 ho2;exact⟨⟨A4,rest,c4,false,oA,oc,ps,0⟩,by subst hk;subst hn;rfl,C.fin H,⟨⟨H.rdX (cf:=cu8) (l:=rest) 3 hn (A:=A4) (cap:=c4) (E:=5) (size:=1) (by kernel_rfl),H.rdX (cf:=Pc.cs) (l:=ps) 2 hk (A:=oA) (cap:=oc) (E:=30) (size:=1) (by kernel_rfl),(C.at H).2⟩,⟨hf1,hpl,⟨by dsimp only;omega,g2,ho1,ho2⟩,by rw[hf2];exact⟨rfl,rfl,rfl⟩⟩⟩,fun y hy=>by
       unfold FR.fp at hy;simp only[List.mem_append] at hy;rcases hy with hy|hy|hy;·exact DB (A:=A4) (c:=c4) (n:=nr) (E:=5) (size:=1) (vs:=rest.flatMap cu8) C H 3 (by kernel_rfl) y hy
       ·exact DB (A:=oA) (c:=oc) (n:=k) (E:=30) (size:=1) (vs:=ps.flatMap Pc.cs) C H 2 (by kernel_rfl) y hy
       ·exact DP C H y (qJ (.inr hy)),PA (c4:=c4) (n4:=nr) (E4:=5) (s4:=1) (v4:=rest.flatMap cu8) (c2:=oc) (n2:=k) (E2:=30) (s2:=1) (v2:=ps.flatMap Pc.cs) C H (by kernel_rfl) (by kernel_rfl) (by kernel_rfl)⟩
    ·refine Hs.e0 ?_;exact Hs.rt (v:=.tuple #[.agg #[.slice A4 nr c4,.bool false],.slice oA k oc,.int .i64 0]) Tryz.func28 fun w' H=>by
      have ho:=(H.ownX (cf:=Pc.cs) (l:=ps) 2 hk (A:=oA) (cap:=oc) (E:=30) (size:=1) (by kernel_rfl)).form;obtain⟨A9,c9,ho,ho1,ho2,_⟩:=ho;injection ho with _ _ ho;rw[<-ho] at ho1 ho2;exact⟨⟨A4,rest,c4,false,oA,oc,ps,0⟩,by subst hk;subst hn;rfl,C.fin H,⟨⟨H.rdX (cf:=cu8) (l:=rest) 3 hn (A:=A4) (cap:=c4) (E:=5) (size:=1) (by kernel_rfl),H.rdX (cf:=Pc.cs) (l:=ps) 2 hk (A:=oA) (cap:=oc) (E:=30) (size:=1) (by kernel_rfl),(C.at H).2⟩,⟨hf1,hpl,⟨by dsimp only;omega,g2,ho1,ho2⟩,by rw[hf2];exact⟨rfl,rfl,rfl⟩⟩⟩,fun y hy=>by
       unfold FR.fp at hy;simp only[List.mem_append] at hy;rcases hy with hy|hy|hy;·exact DB (A:=A4) (c:=c4) (n:=nr) (E:=5) (size:=1) (vs:=rest.flatMap cu8) C H 3 (by kernel_rfl) y hy
       ·exact DB (A:=oA) (c:=oc) (n:=k) (E:=30) (size:=1) (vs:=ps.flatMap Pc.cs) C H 2 (by kernel_rfl) y hy
       ·exact DP C H y (qJ (.inr hy)),PA (c4:=c4) (n4:=nr) (E4:=5) (s4:=1) (v4:=rest.flatMap cu8) (c2:=oc) (n2:=k) (E2:=30) (s2:=1) (v2:=ps.flatMap Pc.cs) C H (by kernel_rfl) (by kernel_rfl) (by kernel_rfl)⟩
   ·refine Hs.e0 ?_;refine Hs.callS (cf:=cu8) (E:=5) (size:=1) (fun A cap=>.slice A nr cap) rest nr hn (fun w' H=>by
     have:=FH rest Ar cr w' (himp w' (C.at H).1) (by omega);rw[hn] at this;exact this) (by kernel_rfl) (by kernel_rfl) fun A4 c4 g1 g2=>?_
    refine Hs.e0 ?_;exact Hs.rt (v:=.tuple #[.agg #[.slice A4 nr c4,.bool false],.slice oA k oc,.int .i64 0]) Tryz.func28 fun w' H=>by
     have ho:=(H.ownX (cf:=Pc.cs) (l:=ps) 2 hk (A:=oA) (cap:=oc) (E:=30) (size:=1) (by kernel_rfl)).form;obtain⟨A9,c9,ho,ho1,ho2,_⟩:=ho;injection ho with _ _ ho;rw[<-ho] at ho1 ho2;exact⟨⟨A4,rest,c4,false,oA,oc,ps,0⟩,by subst hk;subst hn;rfl,C.fin H,⟨⟨H.rdX (cf:=cu8) (l:=rest) 3 hn (A:=A4) (cap:=c4) (E:=5) (size:=1) (by kernel_rfl),H.rdX (cf:=Pc.cs) (l:=ps) 2 hk (A:=oA) (cap:=oc) (E:=30) (size:=1) (by kernel_rfl),(C.at H).2⟩,⟨hf1,hpl,⟨by dsimp only;omega,g2,ho1,ho2⟩,by rw[hf2];exact⟨rfl,rfl,rfl⟩⟩⟩,fun y hy=>by
      unfold FR.fp at hy;simp only[List.mem_append] at hy;rcases hy with hy|hy|hy;·exact DB (A:=A4) (c:=c4) (n:=nr) (E:=5) (size:=1) (vs:=rest.flatMap cu8) C H 3 (by kernel_rfl) y hy
      ·exact DB (A:=oA) (c:=oc) (n:=k) (E:=30) (size:=1) (vs:=ps.flatMap Pc.cs) C H 2 (by kernel_rfl) y hy
      ·exact DP C H y (qJ (.inr hy)),PA (c4:=c4) (n4:=nr) (E4:=5) (s4:=1) (v4:=rest.flatMap cu8) (c2:=oc) (n2:=k) (E2:=30) (s2:=1) (v2:=ps.flatMap Pc.cs) C H (by kernel_rfl) (by kernel_rfl) (by kernel_rfl)⟩
 have J: ∀(A3:Option Addr) (b1 b2:Nat) (d:Nat) (w1:World) (L1:List Nat) (rest:List Int) (Ar:Option Addr) (nr cr:Nat) (ps:List (Pc Int)) (oA:Option Addr) (oc k:Nat),rest.length=nr->nr<=cr->cr<=maxLen->nr<=1000000->(∀w,RdX cu8 w A3 (buf++b)->RdX cu8 w Ar rest)->Fx w [] w1 L1 (bkO A3++ps.flatMap fun p=>bkO p.A) (fun w=>RdX cu8 w A3 (buf++b)/\∀p∈ps,RdX cu8 w p.A p.l)->ps.length=k->(∀p∈ps,p.l.length<=p.c/\p.c<=maxLen)->nr<=d->k+nr<=1000000->(∀x∈rest,0<=x/\x<256)->(BP ((buf++b).length+1) (buf++b)).1=ps.map Pc.l++(BP (d+1) rest).1->(BP ((buf++b).length+1) (buf++b)).2=(BP (d+1) rest).2->∀u:Nat->Value,Hs Tryz.prog 28 (cL w (buf++b)) (Tryz.f28).ntmps w1 L1 [b1,b2,0] ⟨.no,BE Tryz.f28 0,KQ [(4,.c (.p 0 0)),(7,.c (.p 1 0)),(8,.c (.v (.func (.func 55) #[.pointer (some ⟨b2,0,none⟩)] #[]))),(9,.c (.v (.slice Ar nr cr)))] (.vals u),[.b true 86 [.v (.slice none 0 0),.v (.bool false)],.b true 133 [.v (.slice oA k oc)],.s oA oc k 30 1 (ps.flatMap Pc.cs)]⟩:=by
  intro A3 b1 b2 d;induction d with
  |zero=>
   intro w1 L1 rest Ar nr cr ps oA oc k hn hnc hcm hns himp C hk hpl hd hkn hrb hf1 hf2 u;refine Hs.e0 ?_;refine Hs.cP ((nr:Int)>=4) (fun h=>by omega) (fun h=>?_);have e:BP (0+1) rest=([],some rest):=by unfold BP;rw[if_pos (by omega)]
   refine Hs.runR0 13 [] 300 (fun _=>(by kernel_rfl)) ?_;exact Hs.goto (atR Tryz.f28 13) [0,1,2] [.b true 86 [.v (.slice none 0 0),.v (.bool false)],.b true 133 [.v (.slice oA k oc)],.s oA oc k 30 1 (ps.flatMap Pc.cs)] [(4,.c (.p 0 0)),(7,.c (.p 1 0)),(8,.c (.v (.func (.func 55) #[.pointer (some ⟨b2,0,none⟩)] #[]))),(9,.c (.v (.slice Ar nr cr)))] (by kernel_rfl) (by decide) (by kernel_rfl) (by kernel_rfl) (fun _=>(by kernel_rfl)) (fun u=>K A3 b1 b2 w1 L1 rest Ar nr cr ps oA oc k hn hnc hcm hns himp C hk hpl (by rw[hf1];rw[e];simp) (by rw[hf2];rw[e]) u)
  |succ d ih=>
   intro w1 L1 rest Ar nr cr ps oA oc k hn hnc hcm hns himp C hk hpl hd hkn hrb hf1 hf2 u;refine Hs.e0 ?_;refine Hs.cP ((nr:Int)>=4) (fun h4=>?_) (fun h=>?_)
   case refine_2=>
    have e:BP (d+1+1) rest=([],some rest):=by unfold BP;rw[if_pos (by omega)]
    refine Hs.runR0 13 [] 300 (fun _=>(by kernel_rfl)) ?_;exact Hs.goto (atR Tryz.f28 13) [0,1,2] [.b true 86 [.v (.slice none 0 0),.v (.bool false)],.b true 133 [.v (.slice oA k oc)],.s oA oc k 30 1 (ps.flatMap Pc.cs)] [(4,.c (.p 0 0)),(7,.c (.p 1 0)),(8,.c (.v (.func (.func 55) #[.pointer (some ⟨b2,0,none⟩)] #[]))),(9,.c (.v (.slice Ar nr cr)))] (by kernel_rfl) (by decide) (by kernel_rfl) (by kernel_rfl) (fun _=>(by kernel_rfl)) (fun u=>K A3 b1 b2 w1 L1 rest Ar nr cr ps oA oc k hn hnc hcm hns himp C hk hpl (by rw[hf1];rw[e];simp) (by rw[hf2];rw[e]) u)
   have h4:4<=nr:=by omega
   obtain⟨n,hne⟩: ∃n:Int,be4 rest=n:=⟨_,rfl⟩;refine Hs.e0 ?_;refine Hs.cV (fun w' H=>flength_l rest nr hn h4 Ar cr w' (himp w' (C.at H).1) hrb) ?_;rw[hne];refine Hs.e0 ?_;refine Hs.cV (fun w' H=>aH n w') ?_;refine Hs.e0 ?_;refine Hs.cn (!EI n) (fun h5=>?_) (fun h5=>?_)
   ·have h5:EI n=false:=by simpa using h5
    have e:BP (d+1+1) rest=([],none):=by unfold BP;rw[if_neg (by omega),hne,if_pos h5]
    rw[e] at hf1 hf2;rw[qN] at hf1;refine Hs.e0 ?_;refine Hs.any [1,1003] (by kernel_rfl) ?_;refine Hs.e0 ?_;refine Hs.branch2 1 3 (by kernel_rfl) ?_ ?_
    ·refine Hs.rung0 [] 1 (fun _=>(by kernel_rfl)) ?_;refine Hs.branch2 2 3 (by kernel_rfl) ?_ ?_
     ·refine Hs.e0 ?_;exact Hs.rt (v:=.tuple #[.agg #[.slice none 0 0,.bool true],.slice oA k oc,.int .i64 5]) Tryz.func28 fun w' H=>by
       have ho:=(H.ownX (cf:=Pc.cs) (l:=ps) 2 hk (A:=oA) (cap:=oc) (E:=30) (size:=1) (by kernel_rfl)).form;obtain⟨A9,c9,ho,ho1,ho2,_⟩:=ho;injection ho with _ _ ho;rw[<-ho] at ho1 ho2;exact⟨⟨none,[],0,true,oA,oc,ps,5⟩,by subst hk;rfl,C.fin H,⟨⟨fun h=>absurd h (by simp),H.rdX (cf:=Pc.cs) (l:=ps) 2 hk (A:=oA) (cap:=oc) (E:=30) (size:=1) (by kernel_rfl),(C.at H).2⟩,⟨hf1.symm,hpl,⟨qL _,qO _,ho1,ho2⟩,by rw[hf2];exact⟨rfl,rfl,rfl⟩⟩⟩,fun y hy=>by
        unfold FR.fp at hy;simp only[List.mem_append] at hy;rcases hy with hy|hy|hy;·simp[bkO] at hy
        ·exact DB (A:=oA) (c:=oc) (n:=k) (E:=30) (size:=1) (vs:=ps.flatMap Pc.cs) C H 2 (by kernel_rfl) y hy
        ·exact DP C H y (qJ (.inr hy)),fun y hy=>by simp[bkO] at hy⟩
     ·refine Hs.e0 ?_;exact Hs.rt (v:=.tuple #[.agg #[.slice none 0 0,.bool true],.slice oA k oc,.int .i64 5]) Tryz.func28 fun w' H=>by
       have ho:=(H.ownX (cf:=Pc.cs) (l:=ps) 2 hk (A:=oA) (cap:=oc) (E:=30) (size:=1) (by kernel_rfl)).form;obtain⟨A9,c9,ho,ho1,ho2,_⟩:=ho;injection ho with _ _ ho;rw[<-ho] at ho1 ho2;exact⟨⟨none,[],0,true,oA,oc,ps,5⟩,by subst hk;rfl,C.fin H,⟨⟨fun h=>absurd h (by simp),H.rdX (cf:=Pc.cs) (l:=ps) 2 hk (A:=oA) (cap:=oc) (E:=30) (size:=1) (by kernel_rfl),(C.at H).2⟩,⟨hf1.symm,hpl,⟨qL _,qO _,ho1,ho2⟩,by rw[hf2];exact⟨rfl,rfl,rfl⟩⟩⟩,fun y hy=>by
        unfold FR.fp at hy;simp only[List.mem_append] at hy;rcases hy with hy|hy|hy;·simp[bkO] at hy
        ·exact DB (A:=oA) (c:=oc) (n:=k) (E:=30) (size:=1) (vs:=ps.flatMap Pc.cs) C H 2 (by kernel_rfl) y hy
        ·exact DP C H y (qJ (.inr hy)),fun y hy=>by simp[bkO] at hy⟩
    ·refine Hs.e0 ?_;exact Hs.rt (v:=.tuple #[.agg #[.slice none 0 0,.bool true],.slice oA k oc,.int .i64 5]) Tryz.func28 fun w' H=>by
      have ho:=(H.ownX (cf:=Pc.cs) (l:=ps) 2 hk (A:=oA) (cap:=oc) (E:=30) (size:=1) (by kernel_rfl)).form;obtain⟨A9,c9,ho,ho1,ho2,_⟩:=ho;injection ho with _ _ ho;rw[<-ho] at ho1 ho2;exact⟨⟨none,[],0,true,oA,oc,ps,5⟩,by subst hk;rfl,C.fin H,⟨⟨fun h=>absurd h (by simp),H.rdX (cf:=Pc.cs) (l:=ps) 2 hk (A:=oA) (cap:=oc) (E:=30) (size:=1) (by kernel_rfl),(C.at H).2⟩,⟨hf1.symm,hpl,⟨qL _,qO _,ho1,ho2⟩,by rw[hf2];exact⟨rfl,rfl,rfl⟩⟩⟩,fun y hy=>by
       unfold FR.fp at hy;simp only[List.mem_append] at hy;rcases hy with hy|hy|hy;·simp[bkO] at hy
       ·exact DB (A:=oA) (c:=oc) (n:=k) (E:=30) (size:=1) (vs:=ps.flatMap Pc.cs) C H 2 (by kernel_rfl) y hy
       ·exact DP C H y (qJ (.inr hy)),fun y hy=>by simp[bkO] at hy⟩
   have h5:EI n=true:=by simpa using h5
   have hn1:1<=n/\n<=33792:=by unfold EI at h5;simp at h5;omega
   obtain⟨m,rfl⟩: ∃m:Nat,n=m:=⟨n.toNat,by omega⟩;have ew:IntKind.i64.wrap (4+(m:Int))=((4+m:Nat):Int):=by rw[IntWalk.i64_in _ (by omega)];omega
   refine Hs.e0 ?_;refine Hs.cP ((nr:Int)<IntKind.i64.wrap (4+(m:Int))) (fun h6=>?_) (fun h6=>?_)
   ·rw[ew] at h6;have e:BP (d+1+1) rest=([],some rest):=by unfold BP;rw[if_neg (by omega),hne,if_neg (by rw[h5];decide),if_pos (by omega)]
    refine Hs.runR0 13 [] 300 (fun _=>(by kernel_rfl)) ?_;exact Hs.goto (atR Tryz.f28 13) [0,1,2] [.b true 86 [.v (.slice none 0 0),.v (.bool false)],.b true 133 [.v (.slice oA k oc)],.s oA oc k 30 1 (ps.flatMap Pc.cs)] [(4,.c (.p 0 0)),(7,.c (.p 1 0)),(8,.c (.v (.func (.func 55) #[.pointer (some ⟨b2,0,none⟩)] #[]))),(9,.c (.v (.slice Ar nr cr)))] (by kernel_rfl) (by decide) (by kernel_rfl) (by kernel_rfl) (fun _=>(by kernel_rfl)) (fun u=>K A3 b1 b2 w1 L1 rest Ar nr cr ps oA oc k hn hnc hcm hns himp C hk hpl (by rw[hf1];rw[e];simp) (by rw[hf2];rw[e]) u)
   rw[ew] at h6;have e:BP (d+1+1) rest=((rest.drop 4).take m::(BP (d+1) (rest.drop (4+m))).1,(BP (d+1) (rest.drop (4+m))).2):=by
    rw[BP,if_neg (by omega),hne,if_neg (by rw[h5];decide),if_neg (by omega),Int.toNat_natCast]
   rw[e] at hf1 hf2;obtain⟨pl,hpe⟩:=qX ((rest.drop 4).take m);have hplen:pl.length=m:=by rw[<-hpe,List.length_take,List.length_drop];omega
   rw[hpe] at hf1;subst hplen;have hsub:4+pl.length-4=pl.length:=by omega
   refine Hs.runR0 11 [] 300 (fun _=>(by kernel_rfl)) ?_;refine Hs.e0 ?_;refine Hs.slot 41 (.c (.v (.int .i64 (4+pl.length:Nat)))) rfl ((by kernel_rfl:_=Value.int .i64 (IntKind.i64.wrap (4+(pl.length:Int)))).trans (congrArg (Value.int .i64) ew)) ?_;refine Hs.lhF (A:=Ar) (len:=nr) (cap:=cr) (i:=4) (j:=4+pl.length) CY (by omega) (by omega) (by kernel_rfl) ?_;rw[hsub];refine Hs.e0 ?_;refine Hs.inl Tryz.func55 [.c (.p 1 0),.c (.v (.slice (loA 1 Ar 4 cr) pl.length (cr-4)))] (by kernel_rfl) (by kernel_rfl) ?_;refine Hs.any [1,1011] (by kernel_rfl) ?_;refine Hs.e0 ?_;refine Hs.callS (cf:=cu8) (E:=5) (size:=1) (fun A cap=>.slice A pl.length cap) pl pl.length rfl (fun w' H=>FH pl (loA 1 Ar 4 cr) (cr-4) w' (by
    have h8:RdX cu8 w' (loA 1 Ar 4 cr) (rest.drop 4):=OG BT (himp w' (C.at H).1) (by omega) (by omega);have h7:RdX cu8 w' (loA 1 Ar 4 cr) ((rest.drop 4).take pl.length):=dQ BT _ h8;rw[hpe] at h7;exact h7) (by omega)) (by kernel_rfl) (by kernel_rfl) fun A4 c4 g1 g2=>?_
   refine Hs.e1 fun q=>?_;refine Hs.app (c:=1) (ty:=97) 2 TC ps [⟨A4,c4,pl⟩] k 1 hk rfl pc_one TN (A:=oA) (B:=some ⟨q,0,none⟩) (cap:=oc) (by kernel_rfl) (by kernel_rfl) (by kernel_rfl) (fun w' H=>H.rdB (gs:=[(⟨A4,c4,pl⟩:Pc Int)]) 4 (wr:=true) (T:=30) (cs:=[.v (.slice A4 pl.length c4)]) (by kernel_rfl) rfl) (by unfold maxLen;omega) (by_bs (by omega)) fun oA2 oc2 g3=>?_;refine Hs.e0 ?_;refine Hs.retI Tryz.func55 (by kernel_rfl) (by kernel_rfl) (by kernel_rfl) ?_;refine Hs.e0 ?_;refine Hs.slot 46 (.c (.v (.int .i64 (4+pl.length:Nat)))) rfl ((by kernel_rfl:_=Value.int .i64 (IntKind.i64.wrap (4+(pl.length:Int)))).trans (congrArg (Value.int .i64) ew)) ?_;refine Hs.lo (A:=Ar) (len:=nr) (cap:=cr) (i:=4+pl.length) CY (by omega) (by kernel_rfl) ?_;refine Hs.e0 ?_;refine Hs.shutFx [3] (bkO A4) (fun w=>RdX cu8 w A4 pl) C DX (fun w' H=>H.rdX (cf:=cu8) (l:=pl) 3 rfl (A:=A4) (cap:=c4) (E:=5) (size:=1) (by kernel_rfl)) (fun x hx=>⟨3,by simp,.s A4 c4 pl.length 5 1 (pl.flatMap cu8),by kernel_rfl,rfl,by
    unfold bkO at hx;rw[Option.mem_toList] at hx;exact hx⟩) (by kernel_rfl) fun w2 L2 D mv=>?_
   have C2:=(mv _ _ C (fun _ _ h=>by simp at h)).two D;replace C2:Fx w [] w2 L2 (bkO A3++(ps++[(⟨A4,c4,pl⟩:Pc Int)]).flatMap fun p=>bkO p.A) (fun w=>RdX cu8 w A3 (buf++b)/\∀p∈ps++[(⟨A4,c4,pl⟩:Pc Int)],RdX cu8 w p.A p.l):=C2.sub (fun x hx=>by
    simp only[List.flatMap_append,qG,List.flatMap_nil,qN,List.mem_append] at hx⊢;rcases hx with h|h|h;·exact .inl (.inl h)
    ·exact .inl (.inr h)
    ·exact .inr h) (fun h=>⟨h.1.1,fun p hp=>by
     rcases qK hp with hp|hp;·exact h.1.2 p hp
     ·rw[qS] at hp;subst hp;exact h.2⟩) (DX.and VQ)
   refine Hs.lP ?_;exact Hs.goto (BE Tryz.f28 0) [0,1,2] [.b true 86 [.v (.slice none 0 0),.v (.bool false)],.b true 133 [.v (.slice oA2 (k+1) oc2)],.s oA2 oc2 (k+1) 30 1 ((ps++[(⟨A4,c4,pl⟩:Pc Int)]).flatMap Pc.cs)] [(4,.c (.p 0 0)),(7,.c (.p 1 0)),(8,.c (.v (.func (.func 55) #[.pointer (some ⟨b2,0,none⟩)] #[]))),(9,.c (.v (.slice (loA 1 Ar (4+pl.length) cr) (nr-(4+pl.length)) (cr-(4+pl.length)))))] (by kernel_rfl) (by decide) (by kernel_rfl) (by kernel_rfl) (fun _=>(by kernel_rfl)) (fun u=>ih w2 L2 (rest.drop (4+pl.length)) (loA 1 Ar (4+pl.length) cr) (nr-(4+pl.length)) (cr-(4+pl.length)) (ps++[(⟨A4,c4,pl⟩:Pc Int)]) oA2 oc2 (k+1) (by rw[List.length_drop,hn]) (by omega) (by omega) (by omega) (fun w h=>OG BT (himp w h) (by omega) (by omega)) C2 (by rw[zE,hk];rfl) (fun p hp=>by
    rcases qK hp with hp|hp;·exact hpl p hp
    ·rw[qS] at hp;subst hp;exact⟨g1,g2⟩) (by omega) (by omega) (fun x hx=>hrb x (List.mem_of_mem_drop hx)) (by rw[hf1];simp) hf2 u)
 refine Hs.en Tryz.func28 [] [] [] [.g (frS A buf.length c false),.c (.v (.slice B b.length cb))] (Mem.start0 w) ?_;refine Hs.e2 fun b0 b1=>?_;refine Hs.cF ?_;refine Hs.e2 fun b2 b3=>?_;obtain⟨N,hN⟩:=qX ((buf++b).length);refine Hs.callS (cf:=cu8) (E:=5) (size:=1) (fun A cap=>.slice A N cap) (buf++b) N hN (fun w' H=>by
  have e:JF [(⟨A,c,buf⟩:Pc Int),⟨B,cb,b⟩]=buf++b:=by simp[JF]
  have:=eN [⟨A,c,buf⟩,⟨B,cb,b⟩] (some ⟨b3,0,none⟩) 2 w' (H.rdB (cf:=Pc.cs) (wr:=true) (T:=30) (cs:=[.v (.slice A buf.length c),.v (.slice B b.length cb)]) 3 (by kernel_rfl) rfl) ⟨by simp,by unfold maxLen;omega⟩ (fun p hp=>by
   simp only[qC,List.not_mem_nil,or_false] at hp;rcases hp with rfl|rfl;·exact hr.only H.only
   ·exact hr2.only H.only) (by rw[e,zE];omega)
  rw[e,hN] at this;exact this) (by kernel_rfl) (by kernel_rfl) fun A3 c3 h3 h4=>?_
 have C0:Fx w [] w [] [] (fun _=>True):=Fx.start0;refine Hs.shutFx [4] (bkO A3) (fun w=>RdX cu8 w A3 (buf++b)) C0 DX (fun w' H=>H.rdX (cf:=cu8) (l:=buf++b) 4 hN (A:=A3) (cap:=c3) (E:=5) (size:=1) (by kernel_rfl)) (fun x hx=>⟨4,by simp,.s A3 c3 N 5 1 ((buf++b).flatMap cu8),by kernel_rfl,rfl,by
  unfold bkO at hx;rw[Option.mem_toList] at hx;exact hx⟩) (by kernel_rfl) fun w1 L1 C1 mv1=>?_
 refine Hs.e0 ?_;refine Hs.nilS 30 1 (by kernel_rfl) ?_ (by kernel_rfl);refine Hs.lP ?_;exact Hs.goto (BE Tryz.f28 0) [1,2,5] [.b true 86 [.v (.slice none 0 0),.v (.bool false)],.b true 133 [.v (.slice none 0 0)],.s none 0 0 30 1 (([]:List (Pc Int)).flatMap Pc.cs)] [(4,.c (.p 0 0)),(7,.c (.p 1 0)),(8,.c (.v (.func (.func 55) #[.pointer (some ⟨b2,0,none⟩)] #[]))),(9,.c (.v (.slice A3 N c3)))] (by kernel_rfl) (by decide) (by kernel_rfl) (by kernel_rfl) (fun _=>(by kernel_rfl)) (fun u=>J A3 b1 b2 N w1 L1 (buf++b) A3 N c3 [] none 0 0 hN h3 h4 (by rw[<-hN,zE];omega) (fun _ h=>h) (C1.sub (fun x hx=>by simpa using hx) (fun h=>⟨h,by simp⟩) (DX.and VQ)) rfl (by simp) (qL _) (by rw[<-hN,zE];omega) hby (by rw[hN];simp) (by rw[hN]) u)
end Go.Proofs.YtfbhemmpobgdpaaGreatDoor
