/- ClientSends: lemmas, from 'Layer 29: what is heard of a channel' on; what each asks for stands in it. -/
import Derived.Test.YtfbhemmpobgdpaaGreatDoorCsH
import Derived.Test.YtfbhemmpobgdpaaGreatDoorCsI
import Derived.Test.YtfbhemmpobgdpaaGreatDoorCsJ
import Derived.Test.YtfbhemmpobgdpaaGreatDoorCsC
import Derived.Test.YtfbhemmpobgdpaaGreatDoorCsG
import Derived.Test.YtfbhemmpobgdpaaGreatDoorCsD
set_option linter.all false
set_option maxRecDepth 100000
set_option maxHeartbeats 64000000
namespace Go.Proofs.YtfbhemmpobgdpaaGreatDoor
open Go.RowKit Go.MapKept
def NN (b:Nat) (y:EN×Int) (w:World):Ending->World->Prop:=fun e w'=>e = .returned (.int .i64 y.2)/\Only [b] w w'/\Blk w' b 185 y.1.cells
theorem xmore_any (x:EN) (b:Nat) (m:MD) (w:World) (hb:Blk w b 185 x.cells):Calls Tryz.prog 137 #[AD b,m.val] w (NN b (x,0) w):=by
 refine Hs.en Tryz.func137 [b] [b] [.b true 185 x.sc] [.c (.p 0 0),.g (mdS m)] (Mem.one w b hb) ?_;refine Hs.e1 fun b0=>?_;exact Hs.rt (v:=.int .i64 0) Tryz.func137 fun w' H=>⟨rfl,H.only,H.at 0 (wr:=true) (T:=185) (cs:=x.sc) (by kernel_rfl)⟩
theorem iR (x:EN) (b:Nat) (m:MD) (w:World) (hb:Blk w b 185 x.cells):Calls Tryz.prog 139 #[AD b,m.val] w (NN b ({ x with closed:=true },0) w):=by
 refine Hs.en Tryz.func139 [b] [b] [.b true 185 x.sc] [.c (.p 0 0),.g (mdS m)] (Mem.one w b hb) ?_;refine Hs.e1 fun b0=>?_;exact Hs.rt (v:=.int .i64 0) Tryz.func139 fun w' H=>⟨rfl,H.only,H.at 0 (wr:=true) (T:=185) (cs:=EN.sc { x with closed:=true }) (by kernel_rfl)⟩
theorem xeof_any (x:EN) (b:Nat) (m:MD) (w:World) (hb:Blk w b 185 x.cells):Calls Tryz.prog 138 #[AD b,m.val] w (NN b (if x.eof then(x,9) else({ x with eof:=true },0)) w):=by
 refine Hs.en Tryz.func138 [b] [b] [.b true 185 x.sc] [.c (.p 0 0),.g (mdS m)] (Mem.one w b hb) ?_;refine Hs.e1 fun b0=>?_;refine Hs.cn x.eof (fun h=>?_) (fun h=>?_)
 ·rw[if_pos h];refine Hs.e0 ?_;exact Hs.rt (v:=.int .i64 9) Tryz.func138 fun w' H=>⟨rfl,H.only,H.at 0 (wr:=true) (T:=185) (cs:=x.sc) (by kernel_rfl)⟩
 ·rw[if_neg (by rw[h];decide)];refine Hs.e0 ?_;exact Hs.rt (v:=.int .i64 0) Tryz.func138 fun w' H=>⟨rfl,H.only,H.at 0 (wr:=true) (T:=185) (cs:=EN.sc { x with eof:=true }) (by kernel_rfl)⟩
theorem YX (x:EN) (b:Nat) (m:MD) (w:World) (hb:Blk w b 185 x.cells):Calls Tryz.prog 141 #[AD b,m.val] w (NN b (if x.wants=0 then(x,9) else({ x with wants:=IntKind.i64.wrap (x.wants-1) },0)) w):=by
 refine Hs.en Tryz.func141 [b] [b] [.b true 185 x.sc] [.c (.p 0 0),.g (mdS m)] (Mem.one w b hb) ?_;refine Hs.e1 fun b0=>?_;refine Hs.cP (x.wants=0) (fun h=>?_) (fun h=>?_)
 ·rw[if_pos h];refine Hs.e0 ?_;exact Hs.rt (v:=.int .i64 9) Tryz.func141 fun w' H=>⟨rfl,H.only,H.at 0 (wr:=true) (T:=185) (cs:=x.sc) (by kernel_rfl)⟩
 ·rw[if_neg h];refine Hs.e0 ?_;exact Hs.rt (v:=.int .i64 0) Tryz.func141 fun w' H=>⟨rfl,H.only,H.at 0 (wr:=true) (T:=185) (cs:=EN.sc { x with wants:=IntKind.i64.wrap (x.wants-1) }) (by kernel_rfl)⟩
theorem cI (x:EN) (b:Nat) (m:MD) (w:World) (hb:Blk w b 185 x.cells) (hx:U32 x.packet) (hl:m.data.length<=maxLen):Calls Tryz.prog 136 #[AD b,m.val] w (NN b (if x.eof then(x,9) else if(m.data.length:Int)>x.packet\/(m.data.length:Int)>IntKind.u64.wrap (x.granted-x.sent) then(x,5) else({ x with sent:=IntKind.u64.wrap (x.sent+m.data.length) },0)) w):=by
 obtain⟨dl,hdl⟩:=qX m.data.length;have hw:IntKind.u64.wrap (dl:Int)=dl:=by rw[IntKind.wrap_u64];unfold maxLen at hl;omega
 have hp:IntKind.u64.wrap x.packet=x.packet:=by rw[IntKind.wrap_u64];unfold U32 at hx;omega
 have hmv:m.val = .agg (([.v (.int .i64 m.kind),.v (.int .u32 m.chan),.v (.int .u32 m.sender),.v (.int .u32 m.window),.v (.int .u32 m.packet),.v (.int .u32 m.code),.v (.string m.name),.v (.string m.lang),.v (.bool m.want),.v (.slice m.dA dl m.dc)]:List SC).map (SC.den [b])).toArray:=by rw[<-hdl];rfl
 rw[hdl,hmv];refine Hs.en Tryz.func136 [b] [b] [.b true 185 x.sc] [.c (.p 0 0),.g [.v (.int .i64 m.kind),.v (.int .u32 m.chan),.v (.int .u32 m.sender),.v (.int .u32 m.window),.v (.int .u32 m.packet),.v (.int .u32 m.code),.v (.string m.name),.v (.string m.lang),.v (.bool m.want),.v (.slice m.dA dl m.dc)]] (Mem.one w b hb) ?_;refine Hs.e1 fun b0=>?_;refine Hs.cn x.eof (fun h=>?_) (fun h=>?_)
 ·rw[if_pos h];refine Hs.e0 ?_;exact Hs.rt (v:=.int .i64 9) Tryz.func136 fun w' H=>⟨rfl,H.only,H.at 0 (wr:=true) (T:=185) (cs:=x.sc) (by kernel_rfl)⟩
 ·rw[if_neg (by rw[h];decide)];refine Hs.slot 5 (.c (.v (.int .u64 dl))) (by kernel_rfl) ((by kernel_rfl:_=Value.int .u64 (IntKind.u64.wrap (dl:Int))).trans (by rw[hw];rfl)) ?_;refine Hs.e0 ?_;refine Hs.any [0,1] (by kernel_rfl) ?_;refine Hs.e0 ?_;refine Hs.bool 23 (decide ((dl:Int)>IntKind.u64.wrap x.packet)) (by kernel_rfl) (fun h1=>?_) (fun h1=>?_)
  ·have h1:(dl:Int)>IntKind.u64.wrap x.packet:=of_decide_eq_true h1;rw[hp] at h1;rw[if_pos (.inl h1)];refine Hs.eg [7] ?_;refine Hs.cT ?_;refine Hs.e0 ?_;exact Hs.rt (v:=.int .i64 5) Tryz.func136 fun w' H=>⟨rfl,H.only,H.at 0 (wr:=true) (T:=185) (cs:=x.sc) (by kernel_rfl)⟩
  ·have h1: ¬(dl:Int)>IntKind.u64.wrap x.packet:=of_decide_eq_false h1;rw[hp] at h1;refine Hs.eg [7] ?_;refine Hs.cP ((dl:Int)>IntKind.u64.wrap (x.granted-x.sent)) (fun h2=>?_) (fun h2=>?_)
   ·rw[if_pos (.inr h2)];refine Hs.e0 ?_;exact Hs.rt (v:=.int .i64 5) Tryz.func136 fun w' H=>⟨rfl,H.only,H.at 0 (wr:=true) (T:=185) (cs:=x.sc) (by kernel_rfl)⟩
   ·rw[if_neg (fun e=>e.elim h1 h2)];refine Hs.e0 ?_;exact Hs.rt (v:=.int .i64 0) Tryz.func136 fun w' H=>⟨rfl,H.only,H.at 0 (wr:=true) (T:=185) (cs:=EN.sc { x with sent:=IntKind.u64.wrap (x.sent+dl) }) (by kernel_rfl)⟩
def PO (i0:Int) (m:MD) (w:World):Prop:=m.ok w/\w.cell? ⟨0,0,none⟩=some (.int .i64 i0)/\m.data.length<=140737488355000/\∀a,m.dA=some a->0<m.data.length->a.block<w.heap.size
theorem okEx_iff {m:MD} {r:RQ} {E:Int} (hl:InB m.data) (h:LQ m.name m.data r E):okEx m=true↔m.want=false/\E=0/\(r.kind=9\/r.kind=10):=by
 unfold okEx;rw[@decide_eq_true_iff _ (Classical.propDecidable _)];constructor
 ·rintro⟨h1,r',h2,h3⟩;obtain⟨e,hs⟩:=jB hl h h2;refine⟨h1,e.symm,?_⟩;rw[<-hs.kind];exact h3
 ·rintro⟨h1,h2,h3⟩;subst h2;exact⟨h1,r,h,h3⟩
theorem rqS_val (r:RQ):r.val = .agg #[.int .i64 r.kind,.string r.text,.string r.value,.string r.lang,.int .u32 r.cols,.int .u32 r.rows,.int .u32 r.width,.int .u32 r.height,.slice r.mA r.modes.length r.mc,.bool r.on,.int .u32 r.code]:=rfl
theorem xexit_any (x:EN) (b:Nat) (m:MD) (i0:Int) (w:World) (hb:Blk w b 185 x.cells) (hm:DE w [b] (PO i0 m)):Calls Tryz.prog 140 #[AD b,m.val] w (NN b (if¬okEx m then(x,4) else if x.told then(x,9) else({ x with told:=true },0)) w):=by
 have hbytes:InB m.data:=hm.at.1.bytes;refine Hs.en Tryz.func140 [b] [b] [.b true 185 x.sc] [.c (.p 0 0),.g (mdS m)] (Mem.one w b hb) ?_;refine Hs.e1 fun b0=>?_;refine Hs.callX (F:=144) (args:=#[.string m.name,.slice m.dA m.data.length m.dc]) (X:=RQ×Int) (fun z=>.tuple #[z.1.val,.int .i64 z.2]) (fun z=>LQ m.name m.data z.1 z.2) (fun w' H=>?_) (by kernel_rfl) fun z hD=>?_
 ·have K:=hm w' H.only;exact(SH m.name m.dA m.data m.dc i0 w' K.2.1 K.1.data K.1.bytes K.2.2.1 K.1.dle K.1.dmax K.2.2.2).mono fun e w2 ⟨O,r,E,h1,_,_,_,h2⟩=>⟨(r,E),h1,O,h2⟩
 obtain⟨r,E⟩:=z;have hiff:okEx m=true↔m.want=false/\E=0/\(r.kind=9\/r.kind=10):=okEx_iff hbytes hD;rw[rqS_val];refine Hs.e1 fun b1=>?_;refine Hs.bool 18 m.want (by kernel_rfl) (fun h1=>?_) (fun h1=>?_)
 ·have hn: ¬okEx m=true:=fun h=>by rw[(hiff.1 h).1] at h1;cases h1
  rw[if_pos hn];refine Hs.eg [2,6,10] ?_;refine Hs.cT ?_;refine Hs.e0 ?_;exact Hs.rt (v:=.int .i64 4) Tryz.func140 fun w' H=>⟨rfl,H.only,H.at 0 (wr:=true) (T:=185) (cs:=x.sc) (by kernel_rfl)⟩
 refine Hs.eg [2] ?_;refine Hs.bool 22 (!decide (E=0)) (by kernel_rfl) (fun h2=>?_) (fun h2=>?_)
 ·have hn: ¬okEx m=true:=fun h=>by rw[(hiff.1 h).2.1] at h2;simp at h2
  rw[if_pos hn];refine Hs.eg [2,6,10] ?_;refine Hs.cT ?_;refine Hs.e0 ?_;exact Hs.rt (v:=.int .i64 4) Tryz.func140 fun w' H=>⟨rfl,H.only,H.at 0 (wr:=true) (T:=185) (cs:=x.sc) (by kernel_rfl)⟩
 have h2:E=0:=by simpa using h2
 refine Hs.eg [2,6] ?_;refine Hs.bool 26 (!decide (r.kind=9)) (by kernel_rfl) (fun h3=>?_) (fun h3=>?_)
 ·have h3:r.kind≠9:=by simpa using h3
  refine Hs.eg [2,6,10] ?_;refine Hs.cn (!decide (r.kind=10)) (fun h4=>?_) (fun h4=>?_)
  ·have h4:r.kind≠10:=by simpa using h4
   have hn: ¬okEx m=true:=fun h=>(hiff.1 h).2.2.elim h3 h4;rw[if_pos hn];refine Hs.e0 ?_;exact Hs.rt (v:=.int .i64 4) Tryz.func140 fun w' H=>⟨rfl,H.only,H.at 0 (wr:=true) (T:=185) (cs:=x.sc) (by kernel_rfl)⟩
  ·have h4:r.kind=10:=by simpa using h4
   have hn:okEx m=true:=hiff.2 ⟨h1,h2,.inr h4⟩;rw[if_neg (by rw[hn];simp)];refine Hs.e0 ?_;refine Hs.cn x.told (fun h5=>?_) (fun h5=>?_)
   ·rw[if_pos h5];refine Hs.e0 ?_;exact Hs.rt (v:=.int .i64 9) Tryz.func140 fun w' H=>⟨rfl,H.only,H.at 0 (wr:=true) (T:=185) (cs:=x.sc) (by kernel_rfl)⟩
   ·rw[if_neg (by rw[h5];simp)];refine Hs.e0 ?_;exact Hs.rt (v:=.int .i64 0) Tryz.func140 fun w' H=>⟨rfl,H.only,H.at 0 (wr:=true) (T:=185) (cs:=EN.sc { x with told:=true }) (by kernel_rfl)⟩
 ·have h3:r.kind=9:=by simpa using h3
  have hn:okEx m=true:=hiff.2 ⟨h1,h2,.inl h3⟩;rw[if_neg (by rw[hn];simp)];refine Hs.eg [2,6,10] ?_;refine Hs.cF ?_;refine Hs.e0 ?_;refine Hs.cn x.told (fun h5=>?_) (fun h5=>?_)
  ·rw[if_pos h5];refine Hs.e0 ?_;exact Hs.rt (v:=.int .i64 9) Tryz.func140 fun w' H=>⟨rfl,H.only,H.at 0 (wr:=true) (T:=185) (cs:=x.sc) (by kernel_rfl)⟩
  ·rw[if_neg (by rw[h5];simp)];refine Hs.e0 ?_;exact Hs.rt (v:=.int .i64 0) Tryz.func140 fun w' H=>⟨rfl,H.only,H.at 0 (wr:=true) (T:=185) (cs:=EN.sc { x with told:=true }) (by kernel_rfl)⟩
theorem HD {x:EN} {m:MD} {ok:Bool} {y:EN×Int} {k:Int} (hk:m.kind=k) (h:(if k=94\/k=95 then
  if x.eof then(x,9) else if(m.data.length:Int)>x.packet\/(m.data.length:Int)>IntKind.u64.wrap (x.granted-x.sent) then(x,5) else({ x with sent:=IntKind.u64.wrap (x.sent+m.data.length) },0)
 else if k=93 then(x,0)
 else if k=96 then if x.eof then(x,9) else({ x with eof:=true },0)
 else if k=97 then({ x with closed:=true },0)
 else if k=98 then if¬ok then(x,4) else if x.told then(x,9) else({ x with told:=true },0)
 else if x.wants=0 then(x,9) else({ x with wants:=IntKind.i64.wrap (x.wants-1) },0))=y):endS x m ok=y:=by
 subst hk;exact h
def bU (k:Int):Nat:=if k=94\/k=95 then 136 else if k=93 then 137 else if k=96 then 138 else if k=97 then 139 else if k=98 then 140 else 141
theorem kZ (x:EN) (b:Nat) (m:MD) (i0:Int) (w:World) (hb:Blk w b 185 x.cells) (hx:U32 x.packet) (hm:DE w [b] (PO i0 m)) (h1:93<=m.kind) (h2:m.kind<=100):Calls Tryz.prog (bU m.kind) #[AD b,m.val] w (NN b (endS x m (okEx m)) w):=by
 have hl:m.data.length<=maxLen:=by have:=hm.at.2.2.1;unfold maxLen;omega
 have hk:m.kind=93\/m.kind=94\/m.kind=95\/m.kind=96\/m.kind=97\/m.kind=98\/m.kind=99\/m.kind=100:=by omega
 rcases hk with h|h|h|h|h|h|h|h;·rw[HD h rfl,h];exact xmore_any x b m w hb
 ·rw[HD h rfl,h];exact cI x b m w hb hx hl
 ·rw[HD h rfl,h];exact cI x b m w hb hx hl
 ·rw[HD h rfl,h];exact xeof_any x b m w hb
 ·rw[HD h rfl,h];exact iR x b m w hb
 ·rw[HD h rfl,h];exact xexit_any x b m i0 w hb hm
 ·rw[HD h rfl,h];exact YX x b m w hb
 ·rw[HD h rfl,h];exact YX x b m w hb
theorem look_of (k:Int) (b:Nat) (h1:93<=k) (h2:k<=100):BU k (ofL b)=some (mV (bU k) b):=by
 have hk:k=93\/k=94\/k=95\/k=96\/k=97\/k=98\/k=99\/k=100:=by omega
 rcases hk with h|h|h|h|h|h|h|h<;>subst h<;>rfl
theorem XF (k:Int) (b:Nat) (h:k<93\/k>100):BU k (ofL b)=none:=by
 unfold ofL;simp only[BU];repeat rw[if_neg (by omega)]
theorem UO (k:Int) (p:Nat) (h:k≠1/\k≠81/\k≠82/\k≠91/\k≠92):BU k (IF p)=none:=by
 unfold IF;simp only[BU];repeat rw[if_neg (by omega)]
end Go.Proofs.YtfbhemmpobgdpaaGreatDoor
namespace Go.Proofs.YtfbhemmpobgdpaaGreatDoor
open Go.RowKit
def mi (a b:Int):Int:=if b<a then b else a
def ma0 (a:Int):Int:=if a<0 then 0 else a
def cI64 (x:Int):List Value:=[.int .i64 x]
theorem WJ (x:Int):(cI64 x).length=1:=rfl
theorem dB:ElemT Tryz.prog 166 3 1 (Tryz.prog.bytesOf 3):=IZ (z:=.int .i64 0) (by kernel_rfl) (by kernel_rfl) (by decide) (by decide)
def QH (x:Int) (l:List Int):Int:=ma0 (l.foldl mi x)
theorem aP (x:Int) (l:List Int) (n:Nat) (hn:l.length=n) (A:Option Addr) (c:Nat) (hc:n+1<=c) (hm:c<=maxLen) (w:World) (hr:RdX cI64 w A (x::l)):Calls Tryz.prog 82 #[.slice A (n+1) c] w fun e w'=>e = .returned (.int .i64 (QH x l))/\Only [] w w':=by
 obtain⟨b,off,hA,_,_⟩:=hr (by simp);have hr2:RdX cI64 w (loA 1 A 1 c) l:=OG WJ hr (by simp) (by simp;omega);obtain⟨B,hB⟩:=qX (loA 1 A 1 c);rw[hB] at hr2;subst hA;refine Hs.en Tryz.func82 [] [] [] [.c (.v (.slice (some ⟨b,off,none⟩) (n+1) c))] (Mem.start0 w) ?_;have J: ∀(d i:Nat) (cur:Int),n-i=d->i<=n->cur=(l.take i).foldl mi x->∀u:Nat->Value,Hs Tryz.prog 82 (fun e w'=>e = .returned (.int .i64 (QH x l))/\Only [] w w') (Tryz.f82).ntmps w [] [] ⟨.no,BE Tryz.f82 0,KQ [(3,.c (.v (.int .i64 cur))),(10,.c (.v (.slice B n (c-1)))),(11,.c (.v (.int .i64 n))),(12,.c (.v (.int .i64 (i:Nat))))] (.vals u),[]⟩:=by
  intro d;induction d with
  |zero=>
   intro i cur hd hi hcur u;obtain rfl:i=n:=by omega
   have e:cur=l.foldl mi x:=by rw[hcur,List.take_of_length_le (by omega)]
   refine Hs.e0 ?_;refine Hs.cP ((i:Int)<(i:Int)) (fun h=>by omega) (fun h=>?_);refine Hs.e0 ?_;exact Hs.rt (v:=.int .i64 (ma0 cur)) Tryz.func82 fun w' H=>⟨by rw[e];rfl,H.only⟩
  |succ d ih=>
   intro i cur hd hi hcur u;have hil:i<n:=by omega
   obtain⟨y,hy⟩: ∃y,l[i]? = some y:=⟨_,List.getElem?_eq_getElem (by omega)⟩;have hs:(l.take (i+1)).foldl mi x=mi ((l.take i).foldl mi x) y:=by rw[List.take_add_one,hy];simp
   obtain⟨b2,off2,hA2,_,_⟩:=hr2 (by omega);subst hA2;refine Hs.e0 ?_;refine Hs.cP ((i:Int)<(n:Int)) (fun h=>?_) (fun h=>by omega);refine Hs.e0 ?_;refine Hs.idx (b:=b2) (off:=off2) (c:=c-1) dB hil (by kernel_rfl) ?_;refine Hs.ldc (E':=3) (b:=b2) (off:=off2+i*1) (.int .i64 y) (by kernel_rfl) (fun w' H=>ES WJ (hr2.only H.only) hy (j:=0) rfl) (by kernel_rfl) ?_;refine Hs.e0 ?_;refine Hs.slot 12 (.c (.v (.int .i64 (i+1:Nat)))) rfl ((by kernel_rfl:_=Value.int .i64 (IntKind.i64.wrap ((i:Int)+1))).trans (BY (n:=n) (by omega))) ?_;refine Hs.lP ?_;exact Hs.goto (BE Tryz.f82 0) [] [] [(3,.c (.v (.int .i64 (mi cur y)))),(10,.c (.v (.slice (some ⟨b2,off2,none⟩) n (c-1)))),(11,.c (.v (.int .i64 n))),(12,.c (.v (.int .i64 (i+1:Nat))))] (by kernel_rfl) (by decide) (by kernel_rfl) (by kernel_rfl) (fun _=>(by kernel_rfl)) (fun u=>ih (i+1) (mi cur y) (by omega) (by omega) (by rw[hs,hcur]) u)
 refine Hs.e0 ?_;refine Hs.idx (b:=b) (off:=off) (c:=c) (len:=n+1) (i:=0) dB (by omega) (by kernel_rfl) ?_;refine Hs.ldc (E':=3) (b:=b) (off:=off+0*1) (.int .i64 x) (by kernel_rfl) (fun w' H=>ES WJ (hr.only H.only) (i:=0) (x:=x) rfl (j:=0) rfl) (by kernel_rfl) ?_;refine Hs.e0 ?_;refine Hs.lo (A:=some ⟨b,off,none⟩) (len:=n+1) (cap:=c) (i:=1) dB (by omega) (by kernel_rfl) ?_;rw[hB,Nat.add_sub_cancel];refine Hs.e0 ?_;refine Hs.lP ?_;exact Hs.goto (BE Tryz.f82 0) [] [] [(3,.c (.v (.int .i64 x))),(10,.c (.v (.slice B n (c-1)))),(11,.c (.v (.int .i64 n))),(12,.c (.v (.int .i64 (0:Nat))))] (by kernel_rfl) (by decide) (by kernel_rfl) (by kernel_rfl) (fun _=>(by kernel_rfl)) (fun u=>J _ 0 x rfl (by omega) (by simp) u)
def outS (l p:Int):List SC:=[.v (.int .u32 l),.v (.int .u32 p)]
def LI (l p:Int):Int:=QH (IntKind.i64.wrap l) [IntKind.i64.wrap p,32768]
theorem fW (l p:Int) (w:World):Calls Tryz.prog 83 #[.agg #[.int .u32 l,.int .u32 p]] w fun e w'=>e = .returned (.int .i64 (LI l p))/\Only [] w w':=by
 refine Hs.en Tryz.func83 [] [] [] [.g (outS l p)] (Mem.start0 w) ?_;refine Hs.e2 fun b0 b1=>?_;refine Hs.cV (fun w' H=>aP (IntKind.i64.wrap l) [IntKind.i64.wrap p,32768] 2 rfl (some ⟨b1,0,none⟩) 3 (by omega) (by unfold maxLen;omega) w' (H.rdB (cf:=cI64) (gs:=[IntKind.i64.wrap l,IntKind.i64.wrap p,32768]) 1 (wr:=true) (T:=3) (cs:=[.v (.int .i64 (IntKind.i64.wrap l)),.v (.int .i64 (IntKind.i64.wrap p)),.v (.int .i64 32768)]) (by kernel_rfl) rfl)) ?_;refine Hs.e0 ?_;exact Hs.rt (v:=.int .i64 (LI l p)) Tryz.func83 fun w' H=>⟨rfl,H.only⟩
def JB (l p h:Int):Int:=QH h [LI l p]
theorem fit_any (l p h:Int) (w:World):Calls Tryz.prog 50 #[.agg #[.int .u32 l,.int .u32 p],.int .i64 h] w fun e w'=>e = .returned (.int .i64 (JB l p h))/\Only [] w w':=by
 refine Hs.en Tryz.func50 [] [] [] [.g (outS l p),.c (.v (.int .i64 h))] (Mem.start0 w) ?_;refine Hs.e1 fun b0=>?_;refine Hs.cV (fun w' H=>fW l p w') ?_;refine Hs.e1 fun b1=>?_;refine Hs.cV (fun w' H=>aP h [LI l p] 1 rfl (some ⟨b1,0,none⟩) 2 (by omega) (by unfold maxLen;omega) w' (H.rdB (cf:=cI64) (gs:=[h,LI l p]) 1 (wr:=true) (T:=3) (cs:=[.v (.int .i64 h),.v (.int .i64 (LI l p))]) (by kernel_rfl) rfl)) ?_;refine Hs.e0 ?_;exact Hs.rt (v:=.int .i64 (JB l p h)) Tryz.func50 fun w' H=>⟨rfl,H.only⟩
def HT (n h:Int):Bool:=decide (n>=0)&&decide (n<=h)
theorem OU (n h:Int) (w:World):Calls Tryz.prog 84 #[.int .i64 n,.int .i64 h] w fun e w'=>e = .returned (.bool (HT n h))/\Only [] w w':=by
 refine Hs.en Tryz.func84 [] [] [] [.c (.v (.int .i64 n)),.c (.v (.int .i64 h))] (Mem.start0 w) ?_;refine Hs.e0 ?_;refine Hs.bool 7 (decide (n>=0)) (by kernel_rfl) (fun h=>?_) (fun h=>?_)
 ·refine Hs.eg [2] ?_;exact Hs.rt Tryz.func84 (v:=.bool (decide (n<=_))) fun w' H=>⟨by unfold HT;rw[h];rfl,H.only⟩
 ·refine Hs.eg [2] ?_;exact Hs.rt (v:=.bool false) Tryz.func84 fun w' H=>⟨by unfold HT;rw[h];rfl,H.only⟩
def GT (l p n:Int):Int×Int:=if HT n (LI l p) then(IntKind.u32.wrap (l-IntKind.u32.wrap n),0) else(l,5)
theorem sent_any (l p n:Int) (w:World):Calls Tryz.prog 51 #[.agg #[.int .u32 l,.int .u32 p],.int .i64 n] w fun e w'=>e = .returned (.tuple #[.agg #[.int .u32 (GT l p n).1,.int .u32 p],.int .i64 (GT l p n).2])/\Only [] w w':=by
 refine Hs.en Tryz.func51 [] [] [] [.g (outS l p),.c (.v (.int .i64 n))] (Mem.start0 w) ?_;refine Hs.e2 fun b0 b1=>?_;refine Hs.cV (fun w' H=>fW l p w') ?_;refine Hs.e0 ?_;refine Hs.cV (fun w' H=>OU n (LI l p) w') ?_;refine Hs.e0 ?_;refine Hs.cn (!HT n (LI l p)) (fun h=>?_) (fun h=>?_)
 ·have e:GT l p n=(l,5):=by unfold GT;rw[if_neg (by simpa using h)]
  refine Hs.e0 ?_;exact Hs.rt (v:=.tuple #[.agg #[.int .u32 l,.int .u32 p],.int .i64 5]) Tryz.func51 fun w' H=>⟨by rw[e],H.only⟩
 ·have e:GT l p n=(IntKind.u32.wrap (l-IntKind.u32.wrap n),0):=by unfold GT;rw[if_pos (by simpa using h)]
  refine Hs.e0 ?_;exact Hs.rt (v:=.tuple #[.agg #[.int .u32 (IntKind.u32.wrap (l-IntKind.u32.wrap n)),.int .u32 p],.int .i64 0]) Tryz.func51 fun w' H=>⟨by rw[e],H.only⟩
def GX (l n:Int):Int×Int:=if n>IntKind.u32.wrap (4294967295-l) then(l,5) else(IntKind.u32.wrap (l+n),0)
theorem grant_any (l p n:Int) (w:World):Calls Tryz.prog 142 #[.agg #[.int .u32 l,.int .u32 p],.int .u32 n] w fun e w'=>e = .returned (.tuple #[.agg #[.int .u32 (GX l n).1,.int .u32 p],.int .i64 (GX l n).2])/\Only [] w w':=by
 refine Hs.en Tryz.func142 [] [] [] [.g (outS l p),.c (.v (.int .u32 n))] (Mem.start0 w) ?_;refine Hs.e2 fun b0 b1=>?_;refine Hs.cP (n>IntKind.u32.wrap (4294967295-l)) (fun h=>?_) (fun h=>?_)
 ·refine Hs.e0 ?_;exact Hs.rt (v:=.tuple #[.agg #[.int .u32 l,.int .u32 p],.int .i64 5]) Tryz.func142 fun w' H=>⟨by unfold GX;rw[if_pos h],H.only⟩
 ·refine Hs.e0 ?_;exact Hs.rt (v:=.tuple #[.agg #[.int .u32 (IntKind.u32.wrap (l+n)),.int .u32 p],.int .i64 0]) Tryz.func142 fun w' H=>⟨by unfold GX;rw[if_neg h],H.only⟩
def GC (l n:Int):Int×Int:=if HT n (IntKind.i64.wrap l) then(IntKind.u32.wrap (l-IntKind.u32.wrap n),0) else(l,5)
theorem got_any (l p n:Int) (w:World):Calls Tryz.prog 143 #[.agg #[.int .u32 l,.int .u32 p],.int .i64 n] w fun e w'=>e = .returned (.tuple #[.agg #[.int .u32 (GC l n).1,.int .u32 p],.int .i64 (GC l n).2])/\Only [] w w':=by
 refine Hs.en Tryz.func143 [] [] [] [.g (outS l p),.c (.v (.int .i64 n))] (Mem.start0 w) ?_;refine Hs.e2 fun b0 b1=>?_;refine Hs.cV (fun w' H=>OU n (IntKind.i64.wrap l) w') ?_;refine Hs.e0 ?_;refine Hs.cn (!HT n (IntKind.i64.wrap l)) (fun h=>?_) (fun h=>?_)
 ·have e:GC l n=(l,5):=by unfold GC;rw[if_neg (by simpa using h)]
  refine Hs.e0 ?_;exact Hs.rt (v:=.tuple #[.agg #[.int .u32 l,.int .u32 p],.int .i64 5]) Tryz.func143 fun w' H=>⟨by rw[e],H.only⟩
 ·have e:GC l n=(IntKind.u32.wrap (l-IntKind.u32.wrap n),0):=by unfold GC;rw[if_pos (by simpa using h)]
  refine Hs.e0 ?_;exact Hs.rt (v:=.tuple #[.agg #[.int .u32 (IntKind.u32.wrap (l-IntKind.u32.wrap n)),.int .u32 p],.int .i64 0]) Tryz.func143 fun w' H=>⟨by rw[e],H.only⟩
def PW (l p n:Int):Int:=IntKind.i64.wrap (IntKind.i64.wrap (IntKind.i64.wrap p-IntKind.i64.wrap l)-n)
def CU (l p n:Int):Int×Int:=if HT n (IntKind.i64.wrap p)=false then(l,0) else if PW l p n<=0 then(l,0) else if PW l p n<IntKind.i64.wrap (IntKind.u32.wrap (p.tdiv 2)) then(l,0) else(IntKind.u32.wrap (l+IntKind.u32.wrap (PW l p n)),IntKind.u32.wrap (PW l p n))
theorem YB (l p n:Int) (w:World):Calls Tryz.prog 52 #[.agg #[.int .u32 l,.int .u32 p],.int .i64 n] w fun e w'=>e = .returned (.tuple #[.agg #[.int .u32 (CU l p n).1,.int .u32 p],.int .u32 (CU l p n).2])/\Only [] w w':=by
 refine Hs.en Tryz.func52 [] [] [] [.g (outS l p),.c (.v (.int .i64 n))] (Mem.start0 w) ?_;refine Hs.e2 fun b0 b1=>?_;refine Hs.cV (fun w' H=>OU n (IntKind.i64.wrap p) w') ?_;refine Hs.e0 ?_;refine Hs.cn (!HT n (IntKind.i64.wrap p)) (fun h=>?_) (fun h=>?_)
 ·have e:CU l p n=(l,0):=by unfold CU;rw[if_pos (by simpa using h)]
  refine Hs.e0 ?_;exact Hs.rt (v:=.tuple #[.agg #[.int .u32 l,.int .u32 p],.int .u32 0]) Tryz.func52 fun w' H=>⟨by rw[e],H.only⟩
 ·have h0: ¬HT n (IntKind.i64.wrap p)=false:=by simpa using h
  refine Hs.e0 ?_;refine Hs.bool 25 (decide (PW l p n<=0)) (by kernel_rfl) (fun h1=>?_) (fun h1=>?_)
  ·have e:CU l p n=(l,0):=by unfold CU;rw[if_neg h0,if_pos (of_decide_eq_true h1)]
   refine Hs.eg [2] ?_;refine Hs.cT ?_;refine Hs.e0 ?_;exact Hs.rt (v:=.tuple #[.agg #[.int .u32 l,.int .u32 p],.int .u32 0]) Tryz.func52 fun w' H=>⟨by rw[e],H.only⟩
  have h1:=of_decide_eq_false h1;refine Hs.eg [2] ?_;refine Hs.cP (PW l p n<IntKind.i64.wrap (IntKind.u32.wrap (p.tdiv 2))) (fun h2=>?_) (fun h2=>?_)
  ·have e:CU l p n=(l,0):=by unfold CU;rw[if_neg h0,if_neg h1,if_pos h2]
   refine Hs.e0 ?_;exact Hs.rt (v:=.tuple #[.agg #[.int .u32 l,.int .u32 p],.int .u32 0]) Tryz.func52 fun w' H=>⟨by rw[e],H.only⟩
  have e:CU l p n=(IntKind.u32.wrap (l+IntKind.u32.wrap (PW l p n)),IntKind.u32.wrap (PW l p n)):=by unfold CU;rw[if_neg h0,if_neg h1,if_neg h2]
  refine Hs.e0 ?_;exact Hs.rt (v:=.tuple #[.agg #[.int .u32 (IntKind.u32.wrap (l+IntKind.u32.wrap (PW l p n))),.int .u32 p],.int .u32 (IntKind.u32.wrap (PW l p n))]) Tryz.func52 fun w' H=>⟨by rw[e],H.only⟩
end Go.Proofs.YtfbhemmpobgdpaaGreatDoor
namespace Go.Proofs.YtfbhemmpobgdpaaGreatDoor
open Go.RowKit Go.MapKept
structure CC where
  st : Int
  server : Int
  oL : Int
  oP : Int
  iL : Int
  iM : Int
  g0 : Option Addr
  n0 : Nat
  c0 : Nat
  g1 : Option Addr
  n1 : Nat
  c1 : Nat
  an : Option Addr
  nn : Nat
  nc : Nat
  ex : RQ
  told : Bool
  eof : Bool
  clo : Bool
def ccS (x:CC):List SC:=[.v (.int .i64 x.st),.v (.int .u32 x.server),.v (.int .u32 x.oL),.v (.int .u32 x.oP),.v (.int .u32 x.iL),.v (.int .u32 x.iM),.v (.slice x.g0 x.n0 x.c0),.v (.slice x.g1 x.n1 x.c1),.v (.slice x.an x.nn x.nc),.v (.int .i64 x.ex.kind),.v (.string x.ex.text),.v (.string x.ex.value),.v (.string x.ex.lang),.v (.int .u32 x.ex.cols),.v (.int .u32 x.ex.rows),.v (.int .u32 x.ex.width),.v (.int .u32 x.ex.height),.v (.slice x.ex.mA x.ex.modes.length x.ex.mc),.v (.bool x.ex.on),.v (.int .u32 x.ex.code),.v (.bool x.told),.v (.bool x.eof),.v (.bool x.clo)]
def CC.cells (x:CC):List Value:=DG [] (ccS x)
def cJ (b:Nat) (x:CC) (e0:Int) (w:World):Ending->World->Prop:=fun e w'=>e = .returned (.int .i64 e0)/\Only [b] w w'/\Blk w' b 94 x.cells
theorem eK (p b:Nat) (x:CC) (m:MD) (w:World) (hb:Blk w b 94 x.cells):Calls Tryz.prog 92 #[AD p,AD b,m.val] w (cJ b { x with st:=3 } 0 w):=by
 refine Hs.en Tryz.func92 [b] [b] [.b true 94 (ccS x)] [.c (.v (AD p)),.c (.p 0 0),.g (mdS' m)] (Mem.one w b hb) ?_;refine Hs.e1 fun b0=>?_;exact Hs.rt (v:=.int .i64 0) Tryz.func92 fun w' H=>⟨rfl,H.only,H.at 0 (wr:=true) (T:=94) (cs:=ccS { x with st:=3 }) (by kernel_rfl)⟩
theorem cS (p b:Nat) (x:CC) (m:MD) (w:World) (hb:Blk w b 94 x.cells):Calls Tryz.prog 93 #[AD p,AD b,m.val] w (cJ b { x with oL:=(GX x.oL m.window).1 } (GX x.oL m.window).2 w):=by
 obtain⟨g,hg⟩:=qX (GX x.oL m.window);have hG:=fun w'=>grant_any x.oL x.oP m.window w';rw[hg] at hG⊢;obtain⟨l,e⟩:=g;dsimp only at hG⊢;refine Hs.en Tryz.func93 [b] [b] [.b true 94 (ccS x)] [.c (.v (AD p)),.c (.p 0 0),.g (mdS' m)] (Mem.one w b hb) ?_;refine Hs.e1 fun b0=>?_;refine Hs.any [1,1013] (by kernel_rfl) ?_;refine Hs.e0 ?_;refine Hs.cV (fun w' H=>hG w') ?_;refine Hs.e0 ?_;refine Hs.branch2 10 13 (by kernel_rfl) ?_ ?_
 ·refine Hs.e0 ?_;exact Hs.rt (v:=.int .i64 e) Tryz.func93 fun w' H=>⟨rfl,H.only,H.at 0 (wr:=true) (T:=94) (cs:=ccS { x with oL:=l }) (by kernel_rfl)⟩
 ·refine Hs.e0 ?_;exact Hs.rt (v:=.int .i64 e) Tryz.func93 fun w' H=>⟨rfl,H.only,H.at 0 (wr:=true) (T:=94) (cs:=ccS { x with oL:=l }) (by kernel_rfl)⟩
def confC (x:CC) (m:MD):CC:={ x with st:=2,server:=m.sender,oL:=m.window,oP:=m.packet }
theorem WN (p b:Nat) (x:CC) (m:MD) (w:World) (hb:Blk w b 94 x.cells):Calls Tryz.prog 91 #[AD p,AD b,m.val] w (cJ b (confC x m) 0 w):=by
 refine Hs.en Tryz.func91 [b] [b] [.b true 94 (ccS x)] [.c (.v (AD p)),.c (.p 0 0),.g (mdS' m)] (Mem.one w b hb) ?_;refine Hs.e1 fun b0=>?_;refine Hs.any [1] (by kernel_rfl) ?_;refine Hs.e0 ?_;exact Hs.rt (v:=.int .i64 0) Tryz.func91 fun w' H=>⟨rfl,H.only,H.at 0 (wr:=true) (T:=94) (cs:=ccS (confC x m)) (by kernel_rfl)⟩
def cBo (x:Bool):List Value:=[.bool x]
theorem cBo_len (x:Bool):(cBo x).length=1:=rfl
theorem cBo_one (x:Bool): ∀u∈cBo x,u.oneCell'=true:=by
 intro u hu;simp only[cBo,qS] at hu;subst hu;rfl
theorem elemBo:ElemT Tryz.prog 70 4 1 (Tryz.prog.bytesOf 4):=IZ (z:=.bool false) (by kernel_rfl) (by kernel_rfl) (by decide) (by decide)
theorem by_bo {n:Nat} (h:n<=1000000):(n+1)*Tryz.prog.bytesOf 4<=140737488355328:=by
 have e:Tryz.prog.bytesOf 4=1:=by kernel_rfl
 rw[e];omega
theorem YZ (p b:Nat) (x:CC) (bl:List Bool) (m:MD) (w:World) (hb:Blk w b 94 x.cells) (ho:AN cBo 4 1 w 0 (.slice x.an x.nn x.nc) bl) (hn:bl.length=x.nn) (hm:x.nn<=1000000) (hnb:b∉bkO x.an):Calls Tryz.prog 97 #[AD p,AD b,m.val] w fun e w'=>∃z:Option Addr×Nat,e = .returned (.int .i64 0)/\Only (b::bkO x.an) w w'/\Blk w' b 94 (CC.cells { x with an:=z.1,nn:=x.nn+1,nc:=z.2 })/\AN cBo 4 1 w' 0 (.slice z.1 (x.nn+1) z.2) (bl++[decide (m.kind=99)])/\b∉bkO z.1/\∀y∈bkO z.1,y<w'.heap.size/\(y∈bkO x.an\/w.heap.size<=y):=by
 have ho2:w.ownsRow 0 4 1 (.slice x.an x.nn x.nc) x.nn (bl.flatMap cBo):=by
  unfold AN at ho;rw[hn] at ho;exact ho
 have hnd:(bks [b,0] [.b true 94 (ccS x),.s x.an x.nc x.nn 4 1 (bl.flatMap cBo)]).Nodup:=by
  show(b::(bkO x.an++[])).Nodup;rw[qN,List.nodup_cons];exact⟨hnb,FZ _⟩
 have hO: ∀{w':World},Only (bks [b,0] [.b true 94 (ccS x),.s x.an x.nc x.nn 4 1 (bl.flatMap cBo)]) w w'->Only (b::bkO x.an) w w':=fun O=>O.mono fun y hy=>by
  have hy:y∈b::(bkO x.an++[]):=hy;rw[qN] at hy;exact hy
 refine Hs.en Tryz.func97 _ [b,0] [.b true 94 (ccS x),.s x.an x.nc x.nn 4 1 (bl.flatMap cBo)] [.c (.v (AD p)),.c (.p 0 0),.g (mdS' m)] (Mem.startN rfl hnd ⟨hb,ho2,trivial⟩) ?_;refine Hs.e1 fun b0=>?_;refine Hs.any [0,2,1012] (by kernel_rfl) ?_;refine Hs.e1 fun q=>?_;refine Hs.app (c:=1) (ty:=70) 1 elemBo bl [decide (m.kind=99)] x.nn 1 hn rfl cBo_one cBo_len (A:=x.an) (B:=some ⟨q,0,none⟩) (cap:=x.nc) (by kernel_rfl) (by kernel_rfl) (by kernel_rfl) (fun w' H=>H.rdB (gs:=[decide (m.kind=99)]) 3 (wr:=true) (T:=4) (cs:=[.v (.bool (decide (m.kind=99)))]) (by kernel_rfl) rfl) (by unfold maxLen;omega) (by_bo hm) fun A' c' _=>?_;refine Hs.e0 ?_;exact Hs.rt (v:=.int .i64 0) Tryz.func97 fun w' H=>by
  have hB:Blk w' b 94 (CC.cells { x with an:=A',nn:=x.nn+1,nc:=c' }):=H.at 0 (wr:=true) (T:=94) (cs:=ccS { x with an:=A',nn:=x.nn+1,nc:=c' }) (by kernel_rfl);have hk1:=H.ownX (cf:=cBo) (l:=bl++[decide (m.kind=99)]) 1 (by rw[zE,hn,List.length_singleton]) (A:=A') (cap:=c') (E:=4) (size:=1) (by kernel_rfl);have hbk: ∀y∈bkO A',(HB.s A' c' (x.nn+1) 4 1 ((bl++[decide (m.kind=99)]).flatMap cBo)).blk 0=some y:=fun y hy=>by
   unfold bkO at hy;rw[Option.mem_toList] at hy;exact hy
  refine⟨(A',c'),rfl,hO H.only,hB,hk1,fun hy=>?_,fun y hy=>⟨HB.lies_lt (H.lies 1 (.s A' c' (x.nn+1) 4 1 ((bl++[decide (m.kind=99)]).flatMap cBo)) (by kernel_rfl)) (hbk y hy),?_⟩⟩
  ·have:=H.inj 0 1 (.b true 94 (ccS { x with an:=A',nn:=x.nn+1,nc:=c' })) (.s A' c' (x.nn+1) 4 1 ((bl++[decide (m.kind=99)]).flatMap cBo)) b (by kernel_rfl) (by kernel_rfl) rfl (hbk b hy);cases this
  ·rcases H.own 1 (.s A' c' (x.nn+1) 4 1 ((bl++[decide (m.kind=99)]).flatMap cBo)) y (by kernel_rfl) rfl (hbk y hy) with h|h
   ·have h:y∈b::(bkO x.an++[]):=h;rw[qN] at h;rcases qC.1 h with h|h
    ·subst h;have:=H.inj 0 1 (.b true 94 (ccS { x with an:=A',nn:=x.nn+1,nc:=c' })) (.s A' c' (x.nn+1) 4 1 ((bl++[decide (m.kind=99)]).flatMap cBo)) y (by kernel_rfl) (by kernel_rfl) rfl (hbk y hy);cases this
    ·exact .inl h
   ·exact .inr h
theorem RC {w w':World} {b:Nat} {A0 A':Option Addr} {c' n' E size:Nat} {vs:List Value} {x':CC} {β:List Nat} {hp:List HB} (H:Mem w (b::(bkO A0++[])) (b::β) hp w') (h0:hp[0]? = some (.b true 94 (ccS x'))) (h1:hp[1]? = some (.s A' c' n' E size vs)):Only (b::bkO A0) w w'/\Blk w' b 94 x'.cells/\w'.ownsRow 0 E size (.slice A' n' c') n' vs/\b∉bkO A'/\∀y∈bkO A',y<w'.heap.size/\(y∈bkO A0\/w.heap.size<=y):=by
 have hbk: ∀y∈bkO A',(HB.s A' c' n' E size vs).blk (nm (b::β) 1)=some y:=fun y hy=>by
  unfold bkO at hy;rw[Option.mem_toList] at hy;exact hy
 have hne: ∀y∈bkO A',y≠b:=fun y hy e=>by
  subst e;have:=H.inj 0 1 _ _ y h0 h1 rfl (hbk y hy);cases this
 refine⟨H.only.mono fun y hy=>by simpa using hy,H.lies 0 _ h0,H.lies 1 _ h1,fun hy=>hne b hy rfl,fun y hy=>⟨HB.lies_lt (H.lies 1 _ h1) (hbk y hy),?_⟩⟩;rcases H.own 1 _ y h1 rfl (hbk y hy) with h|h
 ·rw[qN] at h;rcases qC.1 h with h|h;·exact absurd h (hne y hy)
  ·exact .inl h
 ·exact .inr h
def DPost0 (b:Nat) (x:CC) (gl:List Int) (m:MD) (w:World):Ending->World->Prop:=fun e w'=>∃z:Option Addr×Nat×Nat,e = .returned (.int .i64 (GC x.iL m.data.length).2)/\Only (b::bkO x.g0) w w'/\Blk w' b 94 (CC.cells { x with iL:=(GC x.iL m.data.length).1,g0:=z.1,n0:=z.2.1,c0:=z.2.2 })/\w'.ownsRow 0 5 1 (.slice z.1 z.2.1 z.2.2) z.2.1 ((if(GC x.iL m.data.length).2=0 then gl++m.data else gl).flatMap cu8)/\b∉bkO z.1/\∀y∈bkO z.1,y<w'.heap.size/\(y∈bkO x.g0\/w.heap.size<=y)
theorem iV (p b:Nat) (x:CC) (gl:List Int) (m:MD) (w:World) (hk:m.kind≠95) (hb:Blk w b 94 x.cells) (ho:AN cu8 5 1 w 0 (.slice x.g0 x.n0 x.c0) gl) (hn:gl.length=x.n0) (hm:x.n0<=1000000) (hml:m.data.length<=1000000) (hnb:b∉bkO x.g0) (hd:DE w (b::bkO x.g0) (fun w=>RdX cu8 w m.dA m.data)):Calls Tryz.prog 94 #[AD p,AD b,m.val] w (DPost0 b x gl m w):=by
 obtain⟨g,hg⟩:=qX (GC x.iL m.data.length);have hG:=fun w'=>got_any x.iL x.iM m.data.length w';unfold DPost0;rw[hg] at hG⊢;obtain⟨l,e⟩:=g;dsimp only at hG⊢;have ho2:w.ownsRow 0 5 1 (.slice x.g0 x.n0 x.c0) x.n0 (gl.flatMap cu8):=by
  unfold AN at ho;rw[hn] at ho;exact ho
 have hnd:(bks [b,0] [.b true 94 (ccS x),.s x.g0 x.c0 x.n0 5 1 (gl.flatMap cu8)]).Nodup:=by
  show(b::(bkO x.g0++[])).Nodup;rw[qN,List.nodup_cons];exact⟨hnb,FZ _⟩
 refine Hs.en Tryz.func94 _ [b,0] [.b true 94 (ccS x),.s x.g0 x.c0 x.n0 5 1 (gl.flatMap cu8)] [.c (.v (AD p)),.c (.p 0 0),.g (mdS' m)] (Mem.startN rfl hnd ⟨hb,ho2,trivial⟩) ?_;refine Hs.e1 fun b0=>?_;refine Hs.cP (m.kind=95) (fun h=>absurd h hk) (fun _=>?_);refine Hs.e0 ?_;refine Hs.any [2] (by kernel_rfl) ?_;refine Hs.e0 ?_;refine Hs.cV (fun w' H=>hG w') ?_;refine Hs.e0 ?_;refine Hs.cP (e=0) (fun he=>?_) (fun he=>?_)
 ·refine Hs.e0 ?_;refine Hs.any [0,2,1014] (by kernel_rfl) ?_;refine Hs.e0 ?_;refine Hs.app (c:=m.dc) (ty:=30) 1 CY gl m.data x.n0 m.data.length hn rfl IL BT (A:=x.g0) (B:=m.dA) (cap:=x.c0) (by kernel_rfl) (by kernel_rfl) (by kernel_rfl) (fun w' H=>hd w' (H.only.mono fun y hy=>by
   have hy:y∈b::(bkO x.g0++[]):=hy;simpa using hy)) (by unfold maxLen;omega) (UI (by omega)) fun A' c' _=>?_
  refine Hs.e0 ?_;rw[if_pos he];exact Hs.rt (v:=.int .i64 e) Tryz.func94 fun w' H=>⟨(A',x.n0+m.data.length,c'),rfl,RC (A0:=x.g0) (x':={ x with iL:=l,g0:=A',n0:=x.n0+m.data.length,c0:=c' }) H (by kernel_rfl) (by kernel_rfl)⟩
 ·refine Hs.e0 ?_;rw[if_neg he];exact Hs.rt (v:=.int .i64 e) Tryz.func94 fun w' H=>⟨(x.g0,x.n0,x.c0),rfl,RC (A0:=x.g0) (x':={ x with iL:=l }) H (by kernel_rfl) (by kernel_rfl)⟩
def DPost1 (b:Nat) (x:CC) (gl:List Int) (m:MD) (w:World):Ending->World->Prop:=fun e w'=>∃z:Option Addr×Nat×Nat,e = .returned (.int .i64 (GC x.iL m.data.length).2)/\Only (b::bkO x.g1) w w'/\Blk w' b 94 (CC.cells { x with iL:=(GC x.iL m.data.length).1,g1:=z.1,n1:=z.2.1,c1:=z.2.2 })/\w'.ownsRow 0 5 1 (.slice z.1 z.2.1 z.2.2) z.2.1 ((if(GC x.iL m.data.length).2=0 then gl++m.data else gl).flatMap cu8)/\b∉bkO z.1/\∀y∈bkO z.1,y<w'.heap.size/\(y∈bkO x.g1\/w.heap.size<=y)
theorem iW (p b:Nat) (x:CC) (gl:List Int) (m:MD) (w:World) (hk:m.kind=95) (hb:Blk w b 94 x.cells) (ho:AN cu8 5 1 w 0 (.slice x.g1 x.n1 x.c1) gl) (hn:gl.length=x.n1) (hm:x.n1<=1000000) (hml:m.data.length<=1000000) (hnb:b∉bkO x.g1) (hd:DE w (b::bkO x.g1) (fun w=>RdX cu8 w m.dA m.data)):Calls Tryz.prog 94 #[AD p,AD b,m.val] w (DPost1 b x gl m w):=by
 obtain⟨g,hg⟩:=qX (GC x.iL m.data.length);have hG:=fun w'=>got_any x.iL x.iM m.data.length w';unfold DPost1;rw[hg] at hG⊢;obtain⟨l,e⟩:=g;dsimp only at hG⊢;have ho2:w.ownsRow 0 5 1 (.slice x.g1 x.n1 x.c1) x.n1 (gl.flatMap cu8):=by
  unfold AN at ho;rw[hn] at ho;exact ho
 have hnd:(bks [b,0] [.b true 94 (ccS x),.s x.g1 x.c1 x.n1 5 1 (gl.flatMap cu8)]).Nodup:=by
  show(b::(bkO x.g1++[])).Nodup;rw[qN,List.nodup_cons];exact⟨hnb,FZ _⟩
 refine Hs.en Tryz.func94 _ [b,0] [.b true 94 (ccS x),.s x.g1 x.c1 x.n1 5 1 (gl.flatMap cu8)] [.c (.v (AD p)),.c (.p 0 0),.g (mdS' m)] (Mem.startN rfl hnd ⟨hb,ho2,trivial⟩) ?_;refine Hs.e1 fun b0=>?_;refine Hs.cP (m.kind=95) (fun _=>?_) (fun h=>absurd hk h);refine Hs.e0 ?_;refine Hs.any [2] (by kernel_rfl) ?_;refine Hs.e0 ?_;refine Hs.cV (fun w' H=>hG w') ?_;refine Hs.e0 ?_;refine Hs.cP (e=0) (fun he=>?_) (fun he=>?_)
 ·refine Hs.e0 ?_;refine Hs.any [0,2,1014] (by kernel_rfl) ?_;refine Hs.e0 ?_;refine Hs.app (c:=m.dc) (ty:=30) 1 CY gl m.data x.n1 m.data.length hn rfl IL BT (A:=x.g1) (B:=m.dA) (cap:=x.c1) (by kernel_rfl) (by kernel_rfl) (by kernel_rfl) (fun w' H=>hd w' (H.only.mono fun y hy=>by
   have hy:y∈b::(bkO x.g1++[]):=hy;simpa using hy)) (by unfold maxLen;omega) (UI (by omega)) fun A' c' _=>?_
  refine Hs.e0 ?_;rw[if_pos he];exact Hs.rt (v:=.int .i64 e) Tryz.func94 fun w' H=>⟨(A',x.n1+m.data.length,c'),rfl,RC (A0:=x.g1) (x':={ x with iL:=l,g1:=A',n1:=x.n1+m.data.length,c1:=c' }) H (by kernel_rfl) (by kernel_rfl)⟩
 ·refine Hs.e0 ?_;rw[if_neg he];exact Hs.rt (v:=.int .i64 e) Tryz.func94 fun w' H=>⟨(x.g1,x.n1,x.c1),rfl,RC (A0:=x.g1) (x':={ x with iL:=l }) H (by kernel_rfl) (by kernel_rfl)⟩
def mK (kind chan:Int):MD:=⟨kind,chan,0,0,0,0,⟨#[]⟩,⟨#[]⟩,false,none,0,[]⟩
theorem z30:U32 0:=⟨by decide,by decide⟩
theorem mK_ok (kind chan:Int) (hc:U32 chan) (w:World):(mK kind chan).ok w:=⟨RdG.nil,qL _,qO _,by simp[mK],⟨hc,z30,z30,z30,z30⟩,qO _,qO _⟩
theorem TQ.lt {p:Nat} {K:CK} {sA:Option Addr} {sc:Nat} {said:List Int} {M:WM} {S:WS} {w:World} (h:TQ p K sA sc said M S w): ∀y∈AG p K sA M,y<w.heap.size:=fun y hy=>by
 unfold AG at hy;rcases qC.1 hy with rfl|hy;·exact Blk.lt h.blk
 ·rcases qK hy with hy|hy
  ·obtain⟨_,⟨h2,_⟩|⟨g,cap,cur,e,hg,hh,hr⟩⟩:=h.own;·injection h2 with h2;subst h2;simp[bkO] at hy
   ·injection e with e1;subst e1;simp only[bkO,Option.map_some,Option.toList_some,qS] at hy;subst hy;exact(Array.getElem?_eq_some_iff.1 hh).1
  ·exact h.wat.lt y hy
theorem WK (p b:Nat) (K:CK) (sA:Option Addr) (sc:Nat) (said:List Int) (M:WM) (S:WS) (x:CC) (w:World) (h:TQ p K sA sc said M S w) (hb:Blk w b 94 x.cells) (hnb:b∉AG p K sA M) (hc:U32 x.server) (hf: ∀x∈S.opens,x.2.length<=1000000) (hsz:said.length<=100000000):Calls Tryz.prog 68 #[AD p,AD b] w fun e w'=>∃z:(Option Addr×Nat)×WM,e = .returned (.int .i64 0)/\Only (b::AG p K sA M) w w'/\TQ p K z.1.1 z.1.2 (BN said (mK 97 x.server)) z.2 (CW S (mK 97 x.server)) w'/\Blk w' b 94 (CC.cells { x with clo:=true })/\∀y∈AG p K z.1.1 z.2,y≠b/\y<w'.heap.size/\(y∈AG p K sA M\/w.heap.size<=y):=by
 have C:Fx w (b::AG p K sA M) w [b] (AG p K sA M) (TQ p K sA sc said M S):=Fx.start (by simp) h (fun y hy=>⟨h.lt y hy,fun e=>by
  rw[qS] at e;subst e;exact hnb hy,by simp[hy]⟩) TQ.st
 refine Hs.en Tryz.func68 [b] [b] [.b true 94 (ccS x)] [.c (.v (AD p)),.c (.p 0 0)] (Mem.one w b hb) ?_;refine Hs.e0 ?_;refine Hs.callFxB (X:=(Option Addr×Nat)×WM) (fun _=>.tuple #[]) (fun z=>AG p K z.1.1 z.2) (fun z=>TQ p K z.1.1 z.1.2 (BN said (mK 97 x.server)) z.2 (CW S (mK 97 x.server))) C (fun w' H hq=>KG p K sA sc said M S (mK 97 x.server) w' hq (fun w2 _=>mK_ok 97 x.server hc w2) (qO _) (qO _) hf hsz) (by kernel_rfl) (by kernel_rfl) fun z w1 L1 C1 hn _=>?_;refine Hs.e0 ?_;exact Hs.rt (v:=.int .i64 0) Tryz.func68 fun w' H=>⟨z,rfl,C1.fin H,C1.at H,H.at 0 (wr:=true) (T:=94) (cs:=ccS { x with clo:=true }) (by kernel_rfl),fun y hy=>⟨fun e=>by
  subst e;exact C1.apart H (by kernel_rfl) 0 (.b true 94 (ccS { x with clo:=true })) y (by kernel_rfl) rfl hy,zT (C1.own y hy).1 H.only.size,hn y hy⟩⟩
theorem iX (p b:Nat) (x:CC) (m:MD) (i0:Int) (w:World) (hb:Blk w b 94 x.cells) (hm:DE w [b] (PO i0 m)):Calls Tryz.prog 96 #[AD p,AD b,m.val] w fun e w'=>∃(r:RQ) (E:Int),e = .returned (.int .i64 0)/\Only [b] w w'/\LQ m.name m.data r E/\Blk w' b 94 (CC.cells { x with ex:=r,told:=true }):=by
 refine Hs.en Tryz.func96 [b] [b] [.b true 94 (ccS x)] [.c (.v (AD p)),.c (.p 0 0),.g (mdS' m)] (Mem.one w b hb) ?_;refine Hs.e1 fun b0=>?_;refine Hs.callX (F:=144) (args:=#[.string m.name,.slice m.dA m.data.length m.dc]) (X:=RQ×Int) (fun z=>.tuple #[z.1.val,.int .i64 z.2]) (fun z=>LQ m.name m.data z.1 z.2) (fun w' H=>?_) (by kernel_rfl) fun z hD=>?_
 ·have K:=hm w' H.only;exact(SH m.name m.dA m.data m.dc i0 w' K.2.1 K.1.data K.1.bytes K.2.2.1 K.1.dle K.1.dmax K.2.2.2).mono fun e w2 ⟨O,r,E,h1,_,_,_,h2⟩=>⟨(r,E),h1,O,h2⟩
 obtain⟨r,E⟩:=z;rw[rqS_val];refine Hs.e0 ?_;exact Hs.rt (v:=.int .i64 0) Tryz.func96 fun w' H=>⟨r,E,rfl,H.only,hD,H.at 0 (wr:=true) (T:=94) (cs:=ccS { x with ex:=r,told:=true }) (by kernel_rfl)⟩
end Go.Proofs.YtfbhemmpobgdpaaGreatDoor
namespace Go.Proofs.YtfbhemmpobgdpaaGreatDoor
open Go.RowKit
section
variable {P:Program} {f:FuncId} {R:Ending -> World -> Prop} {n:Nat} {w0 w00:World} {G L fp:List Nat} {β:List Nat} {m:SM} {Q:World -> Prop}
theorem Hs.callFxP {X:Type} (k:Nat) (T:TypeId) (cs:List SC) (cs':X->List SC) (v:X->Value) (fp':X->List Nat) (Q':X->World->Prop) {F:FuncId} {args:Array Value} (C:Fx w00 G w0 L fp Q)
  (hC: ∀w,Mem w0 L β m.hp w->Q w->Calls P F args w fun e w'=>∃x,e = .returned (v x)/\Only (nm β k::fp) w w'/\Q' x w'/\Blk w' (nm β k) T (DG β (cs' x))/\StX (fp' x) (Q' x)/\∀y∈fp' x,y≠nm β k/\y<w'.heap.size/\(y∈fp\/w.heap.size<=y))
  (hk:m.hp[k]? = some (.b true T cs)) (hwf: ∀x,(cs' x).all (SC.wf m.hp.length)=true) (hc:FG P n β m=some (F,args)) (hrd:HO m=[]) (hro:PJ m.hp=true)
  (h: ∀x w1 L1,Fx w00 G w1 L1 (fp' x) (Q' x)->(∀y∈fp' x,y∈fp\/w0.heap.size<=y)->Hs P f R n w1 L1 β (m.put (BD m) (.c (.v (v x))) (m.hp.set k (.b true T (cs' x))))):Hs P f R n w0 L β m:=by
 refine⟨fun w H W=>?_⟩;unfold FG at hc;split at hc
 ·rename_i o ho;split at hc
  ·rename_i hg;split at hc
   ·rename_i F' args' hp;injection hc with hc;injection hc with h1 h2;subst h1;subst h2;have hd:BD m=o.dst:=by unfold BD;rw[ho]
    rw[hd] at h;refine Gs.op ho hg ?_;unfold Oper.wp;rw[EO,HF P _ _ hp w];refine Calls.mono (hC w H (C.at H)) ?_;rintro e w' ⟨x,rfl,O,hQ,hB,hst,hf⟩;have key:=C.key H;have hkl:=(List.getElem?_eq_some_iff.1 hk).1;have hbk:(HB.b true T cs).blk (nm β k)=some (nm β k):=rfl;have get: ∀j,j<m.hp.length->β[j]? = some (nm β j):=fun j hj=>by
     rw[<-H.len] at hj;rw[nm,List.getD,List.getElem?_eq_getElem hj];rfl
    have hkw:nm β k∈wrN β m.hp:=HW.2 ⟨k,_,nm β k,hk,get k hkl,rfl,hbk⟩;have hs1:=H.only.size;have hset: ∀(j:Nat) (z:HB),(m.hp.set k (.b true T (cs' x)))[j]? = some z->(j=k/\z = .b true T (cs' x))\/(j≠k/\m.hp[j]? = some z):=fun j z hj=>by
     rw[List.getElem?_set] at hj;by_cases e:k=j
     ·subst e;simp only[if_true] at hj;rw[if_pos hkl] at hj;injection hj with hj;exact .inl ⟨rfl,hj.symm⟩
     ·rw[if_neg e] at hj;exact .inr ⟨fun h=>e h.symm,hj⟩
    have C':Fx w00 G w' (wrN β m.hp) (fp' x) (Q' x):=⟨(C.fin H).trans O fun y hy=>by
     rcases qC.1 hy with rfl|hy;·exact(key _ hkw).2
     ·exact(C.own y hy).2.2,fun y hy=>(key y hy).2,hQ,fun y hy=>⟨(hf y hy).2.1,fun hm=>by
      rcases(hf y hy).2.2 with h3|h3
      ·rcases(key y hm).1 with h4|h4;·exact(C.own y h3).2.1 h4
       ·have:=(C.own y h3).1;omega
      ·have:=H.wrN_lt y hm;omega,by
      rcases(hf y hy).2.2 with h3|h3;·exact(C.own y h3).2.2
      ·exact .inr (by have:=(C.fin H).size;omega)⟩,hst⟩
    have H':Mem w' (wrN β m.hp) β (m.hp.set k (.b true T (cs' x))) w':=⟨zR _ _,by rw[List.length_set];exact H.len,fun j z hj=>by
     rcases hset j z hj with⟨rfl,rfl⟩|⟨hne,hj2⟩;·exact hB
     ·refine HB.lies_only (H.lies j z hj2) O fun y hy hm=>?_;rcases qC.1 hm with e|e
      ·subst e;exact hne (H.inj j k z _ _ hj2 hk hy hbk)
      ·exact C.apart H hro j z y hj2 hy e,fun j z y hj hw hy=>.inl (by
     rcases hset j z hj with⟨rfl,rfl⟩|⟨hne,hj2⟩
     ·injection hy with hy;subst hy;exact hkw
     ·exact HW.2 ⟨j,z,nm β j,hj2,get j (List.getElem?_eq_some_iff.1 hj2).1,hw,hy⟩),fun i j a b y hi hj ha hb=>by
     rcases hset i a hi with⟨rfl,rfl⟩|⟨hi1,hi2⟩<;>rcases hset j b hj with⟨rfl,rfl⟩|⟨hj1,hj2⟩
     ·rfl
     ·exact H.inj _ _ _ _ y hk hj2 ha hb
     ·exact H.inj _ _ _ _ y hi2 hk ha hb
     ·exact H.inj _ _ _ _ y hi2 hj2 ha hb⟩
    refine⟨β,TO o.dst (.c (.v (v x))) m.sl,m.hp.set k (.b true T (cs' x)),EZ n β m.sl o.dst (.c (.v (v x))),fun w2 hI=>?_,(h x w' _ C' (fun y hy=>(hf y hy).2.2.imp id fun h=>Nat.le_trans hs1 h)).go w' H' ?_⟩;·rw[hrd];intro i hi;cases hi
    ·simp only[SM.wf,SM.put,Bool.and_eq_true,List.length_set];exact⟨DW (SM.wf_sl W) rfl,TW (SM.wf_hp W) (hwf x)⟩
   ·cases hc
  ·cases hc
 ·cases hc
end
end Go.Proofs.YtfbhemmpobgdpaaGreatDoor
namespace Go.Proofs.YtfbhemmpobgdpaaGreatDoor
open Go.RowKit Go.MapKept
def SZ (x:CC) (said:List Int):List Int:=if x.clo then said else BN said (mK 97 x.server)
def clWS (x:CC) (S:WS):WS:=if x.clo then S else CW S (mK 97 x.server)
theorem eI (p b:Nat) (K:CK) (sA:Option Addr) (sc:Nat) (said:List Int) (M:WM) (S:WS) (x:CC) (m:MD) (w:World) (h:TQ p K sA sc said M S w) (hb:Blk w b 94 x.cells) (hnb:b∉AG p K sA M) (hc:U32 x.server) (hf: ∀x∈S.opens,x.2.length<=1000000) (hsz:said.length<=100000000):Calls Tryz.prog 95 #[AD p,AD b,m.val] w fun e w'=>∃z:(Option Addr×Nat)×WM,e = .returned (.int .i64 0)/\Only (b::AG p K sA M) w w'/\TQ p K z.1.1 z.1.2 (SZ x said) z.2 (clWS x S) w'/\Blk w' b 94 (CC.cells { x with clo:=true,st:=4 })/\∀y∈AG p K z.1.1 z.2,y≠b/\y<w'.heap.size/\(y∈AG p K sA M\/w.heap.size<=y):=by
 have C:Fx w (b::AG p K sA M) w [b] (AG p K sA M) (TQ p K sA sc said M S):=Fx.start (by simp) h (fun y hy=>⟨h.lt y hy,fun e=>by
  rw[qS] at e;subst e;exact hnb hy,by simp[hy]⟩) TQ.st
 refine Hs.en Tryz.func95 [b] [b] [.b true 94 (ccS x)] [.c (.v (AD p)),.c (.p 0 0),.g (mdS' m)] (Mem.one w b hb) ?_;refine Hs.e1 fun b0=>?_;refine Hs.cn (!x.clo) (fun hcl=>?_) (fun hcl=>?_)
 ·have hcl:x.clo=false:=by simpa using hcl
  have e1:SZ x said=BN said (mK 97 x.server):=by unfold SZ;rw[if_neg (by rw[hcl];decide)]
  have e2:clWS x S=CW S (mK 97 x.server):=by unfold clWS;rw[if_neg (by rw[hcl];decide)]
  rw[e1,e2];refine Hs.e0 ?_;refine Hs.callFxP (X:=(Option Addr×Nat)×WM) 0 94 (ccS x) (fun _=>ccS { x with clo:=true }) (fun _=>.int .i64 0) (fun z=>AG p K z.1.1 z.2) (fun z=>TQ p K z.1.1 z.1.2 (BN said (mK 97 x.server)) z.2 (CW S (mK 97 x.server))) C (fun w' H hq=>(WK p b K sA sc said M S x w' hq (H.at 0 (wr:=true) (T:=94) (cs:=ccS x) (by kernel_rfl)) hnb hc hf hsz).mono fun e w2 ⟨z,h1,h2,h3,h4,h5⟩=>⟨z,h1,h2,h3,h4,TQ.st,h5⟩) (by kernel_rfl) (fun _=>by kernel_rfl) (by kernel_rfl) (by kernel_rfl) (by kernel_rfl) fun z w1 L1 C1 hn=>?_;refine Hs.e0 ?_;exact Hs.rt (v:=.int .i64 0) Tryz.func95 fun w' H=>⟨z,rfl,C1.fin H,C1.at H,H.at 0 (wr:=true) (T:=94) (cs:=ccS { x with clo:=true,st:=4 }) (by kernel_rfl),fun y hy=>⟨fun e=>by
   subst e;exact C1.apart H (by kernel_rfl) 0 (.b true 94 (ccS { x with clo:=true,st:=4 })) y (by kernel_rfl) rfl hy,zT (C1.own y hy).1 H.only.size,hn y hy⟩⟩
 ·have hcl:x.clo=true:=by simpa using hcl
  have e1:SZ x said=said:=by unfold SZ;rw[if_pos hcl]
  have e2:clWS x S=S:=by unfold clWS;rw[if_pos hcl]
  rw[e1,e2];refine Hs.e0 ?_;exact Hs.rt (v:=.int .i64 0) Tryz.func95 fun w' H=>⟨((sA,sc),M),rfl,C.fin H,C.at H,by
   have hB:Blk w' b 94 (CC.cells { x with st:=4 }):=H.at 0 (wr:=true) (T:=94) (cs:=ccS { x with st:=4 }) (by kernel_rfl);have e3:({ x with clo:=true,st:=4 }:CC) = { x with st:=4 }:=by rw[<-hcl]
   rw[e3];exact hB,fun y hy=>⟨fun e=>by
   subst e;exact hnb hy,zT (C.own y hy).1 H.only.size,.inl hy⟩⟩
structure HM where
  b : Nat
  c : CC
  l0 : List Int
  l1 : List Int
  al : List Bool
def HM.fp (x:HM):List Nat:=x.b::(bkO x.c.g0++(bkO x.c.g1++bkO x.c.an))
structure HAt (x : HM) (w : World) : Prop where
  blk : Blk w x.b 94 x.c.cells
  o0 : AN cu8 5 1 w 0 (.slice x.c.g0 x.c.n0 x.c.c0) x.l0
  o1 : AN cu8 5 1 w 0 (.slice x.c.g1 x.c.n1 x.c.c1) x.l1
  oa : AN cBo 4 1 w 0 (.slice x.c.an x.c.nn x.c.nc) x.al
  n0 : x.l0.length = x.c.n0
  n1 : x.l1.length = x.c.n1
  nn : x.al.length = x.c.nn
theorem HAt.st {x:HM}:StX x.fp (HAt x):=fun w w' hs he h=>⟨(he _ (by simp[HM.fp])).trans h.blk,AI w w' hs (fun y hy=>he y (by simp[HM.fp,hy])) h.o0,AI w w' hs (fun y hy=>he y (by simp[HM.fp,hy])) h.o1,AI w w' hs (fun y hy=>he y (by simp[HM.fp,hy])) h.oa,h.n0,h.n1,h.nn⟩
theorem PG {α:Type} {cf:α->List Value} {E size:Nat} {A:Option Addr} {c n:Nat} {l:List α} {w:World} (h:AN cf E size w 0 (.slice A n c) l): ∀y∈bkO A,y<w.heap.size:=fun y hy=>by
 obtain⟨_,⟨h2,_⟩|⟨g,cap,cur,e,hg,hh,hr⟩⟩:=h;·injection h2 with h2;subst h2;simp[bkO] at hy
 ·injection e with e1;subst e1;simp only[bkO,Option.map_some,Option.toList_some,qS] at hy;subst hy;exact(Array.getElem?_eq_some_iff.1 hh).1
theorem HAt.lt {x:HM} {w:World} (h:HAt x w): ∀y∈x.fp,y<w.heap.size:=fun y hy=>by
 unfold HM.fp at hy;rcases qC.1 hy with rfl|hy;·exact Blk.lt h.blk
 ·rcases qK hy with hy|hy;·exact PG h.o0 y hy
  ·rcases qK hy with hy|hy;·exact PG h.o1 y hy
   ·exact PG h.oa y hy
structure RstM where
  buf : List Int
  xs : List HM
def CB (K:CK) (R:RstM):List Nat:=bkO K.bA++(bkO K.cA++R.xs.flatMap HM.fp)
structure RstAt (K : CK) (R : RstM) (w : World) : Prop where
  buf : RdX cu8 w K.bA R.buf
  bn : R.buf.length = K.bn
  blt : ∀ y ∈ bkO K.bA, y < w.heap.size
  ch : AN cPt 90 1 w 0 (.slice K.cA K.cn K.cc) (R.xs.map HM.b)
  cn : R.xs.length = K.cn
  xs : ∀ x ∈ R.xs, HAt x w
theorem RstAt.st {K:CK} {R:RstM}:StX (CB K R) (RstAt K R):=fun w w' hs he h=>⟨DX w w' hs (fun y hy=>he y (by simp[CB,hy])) h.buf,h.bn,fun y hy=>zT (h.blt y hy) hs,AI w w' hs (fun y hy=>he y (by simp[CB,hy])) h.ch,h.cn,fun x hx=>HAt.st w w' hs (fun y hy=>he y (by
 unfold CB;simp only[List.mem_append];exact .inr (.inr (List.mem_flatMap.2 ⟨x,hx,hy⟩)))) (h.xs x hx)⟩
theorem RstAt.lt {K:CK} {R:RstM} {w:World} (h:RstAt K R w): ∀y∈CB K R,y<w.heap.size:=fun y hy=>by
 unfold CB at hy;rcases qK hy with hy|hy;·exact h.blt y hy
 ·rcases qK hy with hy|hy;·exact PG h.ch y hy
  ·obtain⟨x,hx,hy⟩:=List.mem_flatMap.1 hy;exact(h.xs x hx).lt y hy
structure CL where
  K : CK
  sA : Option Addr
  sc : Nat
  said : List Int
  M : WM
  R : RstM
def CL.fp (p:Nat) (C:CL):List Nat:=AG p C.K C.sA C.M++CB C.K C.R
structure CAt (p : Nat) (C : CL) (w : World) : Prop where
  tq : TQ p C.K C.sA C.sc C.said C.M C.M.abs w
  rst : RstAt C.K C.R w
  nd : (C.fp p).Nodup
theorem CAt.st {p:Nat} {C:CL}:StX (C.fp p) (CAt p C):=fun w w' hs he h=>⟨TQ.st w w' hs (fun y hy=>he y (by simp[CL.fp,hy])) h.tq,RstAt.st w w' hs (fun y hy=>he y (by simp[CL.fp,hy])) h.rst,h.nd⟩
theorem CAt.lt {p:Nat} {C:CL} {w:World} (h:CAt p C w): ∀y∈C.fp p,y<w.heap.size:=fun y hy=>(qK hy).elim (h.tq.lt y) (h.rst.lt y)
/-! A client, wherever it lies. -/
structure HS where
  st : Int
  server : Int
  oL : Int
  oP : Int
  iL : Int
  iM : Int
  l0 : List Int
  l1 : List Int
  al : List Bool
  ex : RQ
  told : Bool
  eof : Bool
  clo : Bool
def HM.abs (x:HM):HS:=⟨x.c.st,x.c.server,x.c.oL,x.c.oP,x.c.iL,x.c.iM,x.l0,x.l1,x.al,x.c.ex,x.c.told,x.c.eof,x.c.clo⟩
structure CS where
  grant : Int
  packet : Int
  buf : List Int
  bad : Bool
  broken : Bool
  said : List Int
  S : WS
  xs : List HS
def CL.abs (C:CL):CS:=⟨C.K.grant,C.K.packet,C.R.buf,C.K.bad,C.K.broken,C.said,C.M.abs,C.R.xs.map HM.abs⟩
def BO (C:CS):Bool:=C.broken||C.S.dead
def FP (C:CS) (m:MD):CS:={ C with said:=BN C.said m,S:=CW C.S m }
/-! One channel has turned, and what talks. -/
theorem aX {α:Type} {f:α->List Nat}: ∀{l:List α} {i:Nat} {x x':α},(l.flatMap f).Nodup->l[i]? = some x->(f x').Nodup->(∀y∈f x',y∈f x\/y∉l.flatMap f)->((l.set i x').flatMap f).Nodup
 |[],i,x,x',_,hx,_,_=>by simp at hx
 |a::l,0,x,x',h,hx,hn,hf=>by
  simp at hx;subst hx;simp only[List.set_cons_zero,qG,qD] at h⊢;refine⟨hn,h.2.1,fun y hy z hz e=>?_⟩;subst e;rcases hf y hy with h1|h1;·exact h.2.2 y h1 y hz rfl
  ·exact h1 (by simp only[qG,List.mem_append];exact .inr hz)
 |a::l,i+1,x,x',h,hx,hn,hf=>by
  simp at hx;simp only[List.set_cons_succ,qG,qD] at h⊢;refine⟨h.1,aX h.2.1 hx hn fun y hy=>(hf y hy).imp id fun h1 h2=>h1 (by simp only[qG,List.mem_append];exact .inr h2),fun y hy z hz e=>?_⟩;subst e;obtain⟨t,ht,hy2⟩:=List.mem_flatMap.1 hz;rcases List.mem_or_eq_of_mem_set ht with h3|h3;·exact h.2.2 y hy y (List.mem_flatMap.2 ⟨t,h3,hy2⟩) rfl
  ·subst h3;rcases hf y hy2 with h1|h1;·exact h.2.2 y hy y (List.mem_flatMap.2 ⟨x,qE hx,h1⟩) rfl
   ·exact h1 (by simp only[qG,List.mem_append];exact .inl hy)
theorem map_set {α β:Type} (f:α->β): ∀(l:List α) (i:Nat) (x:α),(l.set i x).map f=(l.map f).set i (f x)
 |[],_,_=>rfl
 |_::_,0,_=>rfl
 |a::l,i+1,x=>by simp[map_set f l i x]
theorem set_same {α β:Type} (f:α->β) {l:List α} {i:Nat} {x x':α} (h:l[i]? = some x) (e:f x'=f x):(l.set i x').map f=l.map f:=by
 rw[map_set,e];apply List.ext_getElem?;intro j;rw[List.getElem?_set];split
 ·rename_i h2;subst h2;split;·rw[List.getElem?_map,h];rfl
  ·rename_i h3;rw[List.getElem?_map,h];exact absurd (by simpa using(List.getElem?_eq_some_iff.1 h).1) h3
 ·rfl
def CL.put (C:CL) (i:Nat) (x':HM) (sA':Option Addr) (sc':Nat) (said':List Int) (M':WM):CL:=⟨C.K,sA',sc',said',M',⟨C.R.buf,C.R.xs.set i x'⟩⟩
theorem LM {K:CK} {R:RstM} {i:Nat} {x:HM} (hx:R.xs[i]? = some x): ∀y∈x.fp,y∈CB K R:=fun y hy=>by
 unfold CB;simp only[List.mem_append];exact .inr (.inr (List.mem_flatMap.2 ⟨x,qE hx,hy⟩))
theorem WW {f:HM->List Nat}: ∀{l:List HM} {i j:Nat} {x z:HM} {y:Nat},(l.flatMap f).Nodup->l[i]? = some x->l[j]? = some z->i≠j->y∈f x->y∉f z
 |[],i,j,x,z,y,_,hx,_,_,_=>by simp at hx
 |a::l,0,0,x,z,y,_,_,_,hne,_=>absurd rfl hne
 |a::l,0,j+1,x,z,y,h,hx,hz,_,hy=>fun hy2=>by
  simp at hx hz;subst hx;simp only[qG,qD] at h;exact h.2.2 y hy y (List.mem_flatMap.2 ⟨z,qE hz,hy2⟩) rfl
 |a::l,i+1,0,x,z,y,h,hx,hz,_,hy=>fun hy2=>by
  simp at hx hz;subst hz;simp only[qG,qD] at h;exact h.2.2 y hy2 y (List.mem_flatMap.2 ⟨x,qE hx,hy⟩) rfl
 |a::l,i+1,j+1,x,z,y,h,hx,hz,hne,hy=>by
  simp at hx hz;simp only[qG,qD] at h;exact WW h.2.1 hx hz (fun e=>hne (by rw[e])) hy
theorem CAt.put {p:Nat} {C:CL} {w w':World} {i:Nat} {x x':HM} {sA':Option Addr} {sc':Nat} {said':List Int} {M':WM} (L:List Nat) (hL: ∀y∈L,y∉C.fp p) (h:CAt p C w) (hx:C.R.xs[i]? = some x) (O:Only ((AG p C.K C.sA C.M++x.fp)++L) w w') (hT:TQ p C.K sA' sc' said' M' M'.abs w') (hH:HAt x' w') (hb:x'.b=x.b) (hnd:(AG p C.K sA' M'++x'.fp).Nodup) (hf: ∀y∈AG p C.K sA' M'++x'.fp,y<w'.heap.size/\(y∈AG p C.K C.sA C.M++x.fp\/w.heap.size<=y)) :
  Only (C.fp p++L) w w'/\CAt p (C.put i x' sA' sc' said' M') w'/\∀y∈(C.put i x' sA' sc' said' M').fp p,y<w'.heap.size/\(y∈C.fp p\/w.heap.size<=y):=by
 obtain⟨K,sA,sc,said,M,⟨buf,xs⟩⟩:=C;dsimp only at hx O hT hH hnd hf;have hmO: ∀y∈CB K ⟨buf,xs⟩,y∈(AG p K sA M++x.fp)++L->y∈AG p K sA M++x.fp:=fun y hy hm=>(qK hm).elim id fun h2=>absurd (qJ (.inr hy)) (hL y h2);have hC:=h;obtain⟨tq,rst,nd⟩:=h;unfold CL.fp at nd;have rl:=rst.lt;dsimp only at tq rst nd rl;have hmem: ∀y∈x.fp,y∈CB K ⟨buf,xs⟩:=LM hx;have nd2:=nd;rw[qD] at nd2;obtain⟨nd_t,nd_r,nd_x⟩:=nd2;unfold CB at nd_r;dsimp only at nd_r;rw[qD,qD] at nd_r;obtain⟨nb,⟨nc,nx,ncx⟩,nbx⟩:=nd_r;have hx1: ∀y∈x.fp,y∈xs.flatMap HM.fp:=fun y hy=>List.mem_flatMap.2 ⟨x,qE hx,hy⟩;-- what is not of the channel stays
 have keepB: ∀y∈bkO K.bA,w'.heap[y]? = w.heap[y]? :=fun y hy=>O.block y (rl y (by simp[CB,hy])) fun hm=>by
  rcases qK (hmO y (by simp[CB,hy]) hm) with h1|h1;·exact nd_x y h1 y (by simp[CB,hy]) rfl
  ·exact nbx y hy y (qJ (.inr (hx1 y h1))) rfl
 have keepC: ∀y∈bkO K.cA,w'.heap[y]? = w.heap[y]? :=fun y hy=>O.block y (rl y (by simp[CB,hy])) fun hm=>by
  rcases qK (hmO y (by simp[CB,hy]) hm) with h1|h1;·exact nd_x y h1 y (by simp[CB,hy]) rfl
  ·exact ncx y hy y (hx1 y h1) rfl
 have keepX: ∀(j:Nat) (z:HM),xs[j]? = some z->j≠i->HAt z w':=fun j z hz hne=>HAt.st w w' O.size (fun y hy=>O.block y ((rst.xs z (qE hz)).lt y hy) fun hm=>by
  rcases qK (hmO y (LM hz y hy) hm) with h1|h1;·exact nd_x y h1 y (LM hz y hy) rfl
  ·exact WW nx hz hx hne hy h1) (rst.xs z (qE hz))
 have xl: ∀y∈x.fp,y<w.heap.size:=(rst.xs x (qE hx)).lt;have tl:=tq.lt;rw[qD] at hnd;have hfo: ∀y∈AG p K sA' M'++x'.fp,y∉bkO K.bA/\y∉bkO K.cA/\∀(j:Nat) (z:HM),xs[j]? = some z->j≠i->y∉z.fp:=fun y hy=>by
  rcases(hf y hy).2 with h1|h1
  ·rcases qK h1 with h1|h1;·exact⟨fun h2=>nd_x y h1 y (by simp[CB,h2]) rfl,fun h2=>nd_x y h1 y (by simp[CB,h2]) rfl,fun j z hz _ h2=>nd_x y h1 y (LM hz y h2) rfl⟩
   ·exact⟨fun h2=>nbx y h2 y (qJ (.inr (hx1 y h1))) rfl,fun h2=>ncx y h2 y (hx1 y h1) rfl,fun j z hz hne h2=>WW nx hz hx hne h2 h1⟩
  ·refine⟨fun h2=>?_,fun h2=>?_,fun j z hz _ h2=>?_⟩;·have:=rl y (by simp[CB,h2]);omega
   ·have:=rl y (by simp[CB,h2]);omega
   ·have:=(rst.xs z (qE hz)).lt y h2;omega
 have hset: ∀z∈xs.set i x',z=x'\/∃j,j≠i/\xs[j]? = some z:=fun z hz=>by
  obtain⟨j,hj⟩:=List.mem_iff_getElem?.1 hz;rw[List.getElem?_set] at hj;by_cases e:i=j
  ·rw[if_pos e] at hj;split at hj;·injection hj with hj;exact .inl hj.symm
   ·cases hj
  ·rw[if_neg e] at hj;exact .inr ⟨j,fun h=>e h.symm,hj⟩
 have hfl: ∀y∈(xs.set i x').flatMap HM.fp,y∈x'.fp\/∃(j:Nat) (z:HM),xs[j]? = some z/\j≠i/\y∈z.fp:=fun y hy=>by
  obtain⟨z,hz,hy2⟩:=List.mem_flatMap.1 hy;rcases hset z hz with e|⟨j,hne,hj⟩;·subst e;exact .inl hy2
  ·exact .inr ⟨j,z,hj,hne,hy2⟩
 refine⟨O.mono fun y hy=>?_,⟨hT,⟨DX w w' O.size keepB rst.buf,rst.bn,fun y hy=>zT (rst.blt y hy) O.size,?_,?_,fun z hz=>?_⟩,?_⟩,fun y hy=>?_⟩
 ·unfold CL.fp;dsimp only;rcases qK hy with h1|h1
  ·rcases qK h1 with h1|h1;·exact qJ (.inl (qJ (.inl h1)))
   ·exact qJ (.inl (qJ (.inr (hmem y h1))))
  ·exact qJ (.inr h1)
 ·show AN cPt 90 1 w' 0 (.slice K.cA K.cn K.cc) ((xs.set i x').map HM.b);rw[set_same HM.b hx hb];exact AI w w' O.size keepC rst.ch
 ·show(xs.set i x').length=K.cn;rw[List.length_set];exact rst.cn
 ·rcases hset z hz with rfl|⟨j,hne,hj⟩;·exact hH
  ·exact keepX j z hj hne
 ·unfold CL.fp CL.put CB;dsimp only;rw[qD,qD,qD];refine⟨hnd.1,⟨nb,⟨nc,aX nx hx hnd.2.1 fun y hy=>?_,fun y hy z hz e=>?_⟩,fun y hy z hz e=>?_⟩,fun y hy z hz e=>?_⟩
  ·rcases(hf y (qJ (.inr hy))).2 with h1|h1
   ·rcases qK h1 with h1|h1
    ·refine .inr fun h2=>?_;obtain⟨z,hz,h3⟩:=List.mem_flatMap.1 h2;obtain⟨j,hj⟩:=List.mem_iff_getElem?.1 hz;exact nd_x y h1 y (LM hj y h3) rfl
    ·exact .inl h1
   ·refine .inr fun h2=>?_;obtain⟨z,hz,h3⟩:=List.mem_flatMap.1 h2;have:=(rst.xs z hz).lt y h3;omega
  ·subst e;rcases hfl y hz with h1|⟨j,z,hj,hne,h1⟩;·exact(hfo y (qJ (.inr h1))).2.1 hy
   ·exact ncx y hy y (List.mem_flatMap.2 ⟨z,qE hj,h1⟩) rfl
  ·subst e;rcases qK hz with h0|h0;·exact nbx y hy y (qJ (.inl h0)) rfl
   ·rcases hfl y h0 with h1|⟨j,z,hj,hne,h1⟩;·exact(hfo y (qJ (.inr h1))).1 hy
    ·exact nbx y hy y (qJ (.inr (List.mem_flatMap.2 ⟨z,qE hj,h1⟩))) rfl
  ·subst e;rcases qK hz with h0|h0;·exact(hfo y (qJ (.inl hy))).1 h0
   ·rcases qK h0 with h0|h0;·exact(hfo y (qJ (.inl hy))).2.1 h0
    ·rcases hfl y h0 with h1|⟨j,z,hj,hne,h1⟩;·exact hnd.2.2 y hy y h1 rfl
     ·exact(hfo y (qJ (.inl hy))).2.2 j z hj hne h1
 ·unfold CL.fp CL.put CB at hy;dsimp only at hy;have old:y∈CB K ⟨buf,xs⟩->y<w'.heap.size/\(y∈CL.fp p ⟨K,sA,sc,said,M,⟨buf,xs⟩⟩\/w.heap.size<=y):=fun h2=>⟨zT (rl y h2) O.size,.inl (qJ (.inr h2))⟩;have new:y∈AG p K sA' M'++x'.fp->y<w'.heap.size/\(y∈CL.fp p ⟨K,sA,sc,said,M,⟨buf,xs⟩⟩\/w.heap.size<=y):=fun h2=>⟨(hf y h2).1,(hf y h2).2.imp (fun h3=>(qK h3).elim (fun h4=>qJ (.inl h4)) fun h4=>qJ (.inr (hmem y h4))) id⟩;rcases qK hy with h0|h0;·exact new (qJ (.inl h0))
  ·rcases qK h0 with h0|h0;·exact old (by simp[CB,h0])
   ·rcases qK h0 with h0|h0;·exact old (by simp[CB,h0])
    ·rcases hfl y h0 with h1|⟨j,z,hj,hne,h1⟩;·exact new (qJ (.inr h1))
     ·exact old (LM hj y h1)
def CL.quiet (C:CL):CL:=⟨C.K,none,0,[],C.M,C.R⟩
theorem SG {p:Nat} {C:CL}: ∀y∈C.quiet.fp p,y∈C.fp p:=fun y hy=>by
 unfold CL.fp CL.quiet AG at hy;unfold CL.fp AG;dsimp only at hy;simp only[bkO,Option.map_none,Option.toList_none,List.nil_append,List.mem_append,qC] at hy⊢;rcases hy with(h|h)|h;·exact .inl (.inl h)
 ·exact .inl (.inr (.inr h))
 ·exact .inr h
theorem TP {p:Nat} {C:CL} (h:(C.fp p).Nodup):(C.quiet.fp p).Nodup/\∀y∈bkO C.sA,y∉C.quiet.fp p:=by
 unfold CL.fp AG at h;rw[qD,List.nodup_cons,qD] at h;obtain⟨⟨h1,h2,h3,h4⟩,h5,h6⟩:=h;refine⟨?_,fun y hy hm=>?_⟩
 ·unfold CL.fp CL.quiet AG;dsimp only;rw[qD,List.nodup_cons];refine⟨⟨fun hm=>h1 (qJ (.inr (by simpa[bkO] using hm))),by simpa[bkO] using h3⟩,h5,fun a ha b hb e=>h6 a ?_ b hb e⟩;rcases qC.1 ha with rfl|ha;·simp
  ·exact List.mem_cons_of_mem _ (qJ (.inr (by simpa[bkO] using ha)))
 ·unfold CL.fp CL.quiet AG at hm;dsimp only at hm;rcases qK hm with hm|hm
  ·rcases qC.1 hm with rfl|hm;·exact h1 (qJ (.inl hy))
   ·exact h4 y hy y (by simpa[bkO] using hm) rfl
  ·exact h6 y (List.mem_cons_of_mem _ (qJ (.inl hy))) y hm rfl
theorem spokenC (p:Nat) (C:CL) (w:World) (h:CAt p C w):Calls Tryz.prog 27 #[AD p] w fun e w'=>e = .returned (.slice C.sA C.said.length C.sc)/\Only (C.fp p) w w'/\CAt p C.quiet w'/\AN cu8 5 1 w' 0 (.slice C.sA C.said.length C.sc) C.said/\(∀y∈C.quiet.fp p,y<w'.heap.size/\y∈C.fp p)/\∀y∈bkO C.sA,y∉C.quiet.fp p/\y<w'.heap.size/\y∈C.fp p:=by
 refine(HC p C.K C.sA C.sc C.said C.M C.M.abs w h.tq).mono ?_;rintro e w' ⟨rfl,O,hT,hO⟩;have hq:=TP h.nd;have hp:p∉CB C.K C.R:=fun hm=>by
  have:=h.nd;unfold CL.fp at this;rw[qD] at this;exact this.2.2 p (by simp[AG]) p hm rfl
 have hR:RstAt C.K C.R w':=RstAt.st w w' O.size (fun y hy=>O.block y (h.rst.lt y hy) fun hm=>by
  rw[qS] at hm;subst hm;exact hp hy) h.rst
 refine⟨rfl,O.mono fun y hy=>?_,⟨hT,hR,hq.1⟩,hO,fun y hy=>⟨zT (h.lt y (SG y hy)) O.size,SG y hy⟩,fun y hy=>⟨hq.2 y hy,?_,?_⟩⟩
 ·rw[qS] at hy;subst hy;simp[CL.fp,AG]
 ·exact zT (h.lt y (by simp[CL.fp,AG,hy])) O.size
 ·simp[CL.fp,AG,hy]
theorem findC (p:Nat) (C:CL) (i:Nat) (w:World) (h:CAt p C w) (hn:C.R.xs.length<=1000) (hi:i<4294967296):Calls Tryz.prog 45 #[AD p,.int .u32 i] w fun e w'=>e = .returned (optV (C.R.xs[i]?.map HM.b))/\Only [] w w':=by
 have hcn:=h.rst.cn;have:=SY p C.K C.sA C.sc C.said.length (C.R.xs.map HM.b) i w h.tq.blk (by
  obtain⟨A,c,e,_,_,hr,_⟩:=h.rst.ch.form;injection e with e1 e2 e3;subst e1;exact hr) (by rw[List.length_map];exact hcn) (by omega) hi
 rw[List.getElem?_map] at this;exact this
theorem TY (p:Nat) (C:CL) (w:World) (h:CAt p C w):Calls Tryz.prog 25 #[AD p] w fun e w'=>e = .returned (.bool (BO C.abs))/\Only [] w w':=OZ p C.K C.sA C.sc C.said.length C.M w h.tq.blk h.tq.wat.blk
def LW (p:Nat) (C:CL) (C':CS) (send:List Int) (v:Value->Value) (w:World):Ending->World->Prop:=fun e w'=>∃z:CL×Option Addr×Nat,e = .returned (v (.slice z.2.1 send.length z.2.2))/\Only (C.fp p) w w'/\(CAt p z.1 w'/\z.1.abs=C'/\AN cu8 5 1 w' 0 (.slice z.2.1 send.length z.2.2) send)/\(∀y∈z.1.fp p++bkO z.2.1,y<w'.heap.size/\(y∈C.fp p\/w.heap.size<=y))/\∀y∈bkO z.2.1,y∉z.1.fp p
def upC (C:CS) (x:HS):Bool:=!(BO C || !(decide (x.st=2))||x.clo)
def NM (p:Nat) (C:CL) (L:List Nat) (C':CS) (send:List Int) (E:Int) (Z:World->Prop) (w:World):Ending->World->Prop:=fun e w'=>∃z:CL×Option Addr×Nat,e = .returned (.tuple #[.slice z.2.1 send.length z.2.2,.int .i64 E])/\Only (C.fp p++L) w w'/\((CAt p z.1 w'/\z.1.abs=C'/\AN cu8 5 1 w' 0 (.slice z.2.1 send.length z.2.2) send)/\Z w')/\(∀y∈z.1.fp p++bkO z.2.1,y<w'.heap.size/\(y∈C.fp p\/w.heap.size<=y))/\∀y∈bkO z.2.1,y∉z.1.fp p
theorem eQ (R:Ending->World->Prop) (p:Nat) (C:CL) (i:Nat) (F:FuncId) (bnd cap:Array Value) (L:List Nat) (Ex Z:World->Prop) (C1:CS) (E:Int) (w:World) (hF:F=65\/F=49\/F=67\/F=68) (h:CAt p C w) (hex:Ex w) (stE:StX L Ex) (stZ:StX L Z) (hL: ∀y∈L,y<w.heap.size/\y∉C.fp p) (hn:C.R.xs.length<=64) (hi:i<4294967296)
  (hcall: ∀(x:HM) (w':World),Only [] w w'->C.R.xs[i]? = some x->upC C.abs x.abs=true->CAt p C w'->Ex w'->(∀y∈L,y<w'.heap.size)->Calls Tryz.prog F (bnd++#[AD x.b]++cap) w' fun e w2=>∃z:CL,e = .returned (.int .i64 E)/\Only (C.fp p++L) w' w2/\((CAt p z w2/\z.abs=C1)/\Z w2)/\∀y∈z.fp p,y<w2.heap.size/\(y∈C.fp p\/w'.heap.size<=y))
  (hZ:(C.R.xs[i]? = none\/∃x,C.R.xs[i]? = some x/\upC C.abs x.abs=false)->∀w,Ex w->Z w)
  (r0:C.R.xs[i]? = none->∀e w',NM p C L C.abs [] 8 Z w e w'->R e w')
  (r9: ∀x,C.R.xs[i]? = some x->upC C.abs x.abs=false->∀e w',NM p C L C.abs [] 9 Z w e w'->R e w')
  (rE: ∀x,C.R.xs[i]? = some x->upC C.abs x.abs=true->E≠0->∀e w',NM p C L C1 [] E Z w e w'->R e w')
  (r1: ∀x,C.R.xs[i]? = some x->upC C.abs x.abs=true->E=0->∀e w',NM p C L { C1 with said:=[] } C1.said 0 Z w e w'->R e w') :
  Calls Tryz.prog 48 #[AD p,.int .u32 i,.func (.func F) bnd cap] w R:=by
 have C0:Fx w (C.fp p++L) w [] (C.fp p++L) (fun w=>CAt p C w/\Ex w):=Fx.start (by simp) ⟨h,hex⟩ (fun y hy=>⟨(qK hy).elim (h.lt y) fun h2=>(hL y h2).1,by simp,hy⟩) (CAt.st.and stE);have fin0: ∀{E':Int} {w':World} {β:List Nat} {hp:List HB},Mem w [] β hp w'->((C.R.xs[i]? = none\/∃x,C.R.xs[i]? = some x/\upC C.abs x.abs=false))->NM p C L C.abs [] E' Z w (.returned (.tuple #[.slice none 0 0,.int .i64 E'])) w':=fun {E' w' β hp} H hc=>⟨(C,none,0),rfl,C0.fin H,⟨⟨(C0.at H).1,rfl,CN⟩,hZ hc _ (C0.at H).2⟩,fun y hy=>by
  have hy:y∈C.fp p:=by simpa[bkO] using hy
  exact⟨(C0.at H).1.lt y hy,.inl hy⟩,by simp[bkO]⟩
 refine Hs.en Tryz.func48 [] [] [] [.c (.v (AD p)),.c (.v (.int .u32 i)),.c (.v (.func (.func F) bnd cap))] (Mem.start0 w) ?_;refine Hs.e0 ?_;refine Hs.cF ?_;refine Hs.e0 ?_;refine Hs.cV (fun w' H=>findC p C i w' (C0.at H).1 (by omega) hi) ?_;cases hx:C.R.xs[i]? with
 |none=>
  refine Hs.e0 ?_;refine Hs.cT ?_;refine Hs.e0 ?_;exact Hs.rt (v:=.tuple #[.slice none 0 0,.int .i64 8]) Tryz.func48 fun w' H=>r0 hx _ _ (fin0 H (.inl hx))
 |some x=>
  have hm:=qE hx;refine Hs.e0 ?_;refine Hs.cF ?_;refine Hs.e0 ?_;refine Hs.cV (fun w' H=>TY p C w' (C0.at H).1) ?_;refine Hs.e0 ?_;refine Hs.bool 21 (BO C.abs) (by kernel_rfl) (fun h1=>?_) (fun h1=>?_)
  ·have hu:upC C.abs x.abs=false:=by unfold upC;rw[h1];rfl
   refine Hs.eg [2,9] ?_;refine Hs.cT ?_;refine Hs.e0 ?_;exact Hs.rt (v:=.tuple #[.slice none 0 0,.int .i64 9]) Tryz.func48 fun w' H=>r9 x hx hu _ _ (fin0 H (.inr ⟨x,hx,hu⟩))
  refine Hs.eg [2] ?_;refine Hs.ldc (E':=3) (b:=x.b) (off:=0) (.int .i64 x.c.st) (by kernel_rfl) (fun w' H=>by
   rw[((C0.at H).1.rst.xs x hm).blk.cell];rfl) (by kernel_rfl) ?_
  refine Hs.eg [2] ?_;refine Hs.bool 28 (!decide (x.c.st=2)) (by kernel_rfl) (fun h2=>?_) (fun h2=>?_)
  ·have hu:upC C.abs x.abs=false:=by unfold upC;rw[h1];show(!(false || !decide (x.c.st=2)||x.c.clo))=false;rw[h2];rfl
   refine Hs.eg [2,9] ?_;refine Hs.cT ?_;refine Hs.e0 ?_;exact Hs.rt (v:=.tuple #[.slice none 0 0,.int .i64 9]) Tryz.func48 fun w' H=>r9 x hx hu _ _ (fin0 H (.inr ⟨x,hx,hu⟩))
  refine Hs.eg [2,9] ?_;refine Hs.ldc (E':=4) (b:=x.b) (off:=22) (.bool x.c.clo) (by kernel_rfl) (fun w' H=>by
   rw[((C0.at H).1.rst.xs x hm).blk.cell];rfl) (by kernel_rfl) ?_
  refine Hs.eg [2,9] ?_;refine Hs.cn x.c.clo (fun h3=>?_) (fun h3=>?_)
  ·have hu:upC C.abs x.abs=false:=by unfold upC;rw[h1];show(!(false || !decide (x.c.st=2)||x.c.clo))=false;rw[h2,h3];rfl
   refine Hs.e0 ?_;exact Hs.rt (v:=.tuple #[.slice none 0 0,.int .i64 9]) Tryz.func48 fun w' H=>r9 x hx hu _ _ (fin0 H (.inr ⟨x,hx,hu⟩))
  have hu:upC C.abs x.abs=true:=by unfold upC;rw[h1];show(!(false || !decide (x.c.st=2)||x.c.clo))=true;rw[h2,h3];rfl
  refine Hs.e0 ?_;rcases hF with rfl|rfl|rfl|rfl;all_goals (
   refine Hs.callFx (X:=CL) (fun _=>.int .i64 E) (fun z=>z.fp p++L) (fun z w2=>(CAt p z w2/\z.abs=C1/\∀y∈z.fp p,y∈C.fp p\/w.heap.size<=y)/\Z w2) C0 (fun w' H hq=>(hcall x w' H.only hx hu hq.1 hq.2 (fun y hy=>zT (hL y hy).1 H.only.size)).mono fun e w2 ⟨z,h1,h2,h3,h4⟩=>⟨z,h1,h2,⟨⟨h3.1.1,h3.1.2,fun y hy=>(h4 y hy).2.imp id fun h=>Nat.le_trans H.only.size h⟩,h3.2⟩,(StX.and (fun w w' hs he h=>⟨CAt.st w w' hs he h.1,h.2⟩) stZ),fun y hy=>by
    rcases qK hy with hy|hy;·exact⟨(h4 y hy).1,(h4 y hy).2.imp (fun h=>qJ (.inl h)) id⟩
    ·exact⟨zT (hL y hy).1 (Nat.le_trans H.only.size h2.size),.inl (qJ (.inr hy))⟩⟩) (by kernel_rfl) (by kernel_rfl) (by kernel_rfl) fun z w1 L1 C1' hfz _=>?_
   obtain⟨⟨hz1,hz2,hz3⟩,_⟩:=C1'.now;subst hz2;have hap: ∀y∈L,y∉z.fp p:=fun y hy hm=>by
    rcases hz3 y hm with h4|h4;·exact(hL y hy).2 h4
    ·have:=(hL y hy).1;omega
   refine Hs.e0 ?_;refine Hs.cn (E !=0) (fun hE=>?_) (fun hE=>?_)
   ·have hE:E≠0:=by simpa using hE
    refine Hs.e0 ?_;exact Hs.rt (v:=.tuple #[.slice none 0 0,.int .i64 E]) Tryz.func48 fun w' H=>rE x hx hu hE _ _ ⟨(z,none,0),rfl,C1'.fin H,⟨⟨(C1'.at H).1.1,rfl,CN⟩,(C1'.at H).2⟩,fun y hy=>by
     have hy:y∈z.fp p:=by simpa[bkO] using hy
     exact⟨(C1'.at H).1.1.lt y hy,hz3 y hy⟩,by simp[bkO]⟩
   have hE:E=0:=by simpa using hE
   refine Hs.e0 ?_;refine Hs.callFx (X:=Unit) (fun _=>.slice z.sA z.said.length z.sc) (fun _=>(z.quiet.fp p++bkO z.sA)++L) (fun _ w2=>(CAt p z.quiet w2/\AN cu8 5 1 w2 0 (.slice z.sA z.said.length z.sc) z.said)/\Z w2) C1' (fun w' H hq=>(spokenC p z w' hq.1.1).mono fun e w2 ⟨h1,h2,h3,h4,h5,h6⟩=>⟨(),h1,h2.mono fun y hy=>qJ (.inl hy),⟨⟨h3,h4⟩,stZ w' w2 h2.size (fun y hy=>h2.block y (zT (C1'.own y (qJ (.inr hy))).1 H.only.size) (hap y hy)) hq.2⟩,StX.and (StX.and CAt.st AI) stZ,fun y hy=>by
    rcases qK hy with hy|hy
    ·rcases qK hy with hy|hy;·exact⟨(h5 y hy).1,.inl (qJ (.inl (h5 y hy).2))⟩
     ·exact⟨(h6 y hy).2.1,.inl (qJ (.inl (h6 y hy).2.2))⟩
    ·exact⟨zT (C1'.own y (qJ (.inr hy))).1 (Nat.le_trans H.only.size h2.size),.inl (qJ (.inr hy))⟩⟩) (by kernel_rfl) (by kernel_rfl) (by kernel_rfl) fun _ w2 L2 C2 _ _=>?_
   refine Hs.e0 ?_;exact Hs.rt (v:=.tuple #[.slice z.sA z.said.length z.sc,.int .i64 0]) Tryz.func48 fun w' H=>r1 x hx hu hE _ _ ⟨(z.quiet,z.sA,z.sc),rfl,C2.fin H,⟨⟨(C2.at H).1.1,rfl,(C2.at H).1.2⟩,(C2.at H).2⟩,fun y hy=>by
    refine⟨zT (C2.own y (qJ (.inl hy))).1 H.only.size,?_⟩;rcases qK hy with hy|hy;·exact hz3 y (SG y hy)
    ·exact hz3 y (by simp[CL.fp,AG,hy]),(TP hz1.nd).2⟩)
end Go.Proofs.YtfbhemmpobgdpaaGreatDoor
