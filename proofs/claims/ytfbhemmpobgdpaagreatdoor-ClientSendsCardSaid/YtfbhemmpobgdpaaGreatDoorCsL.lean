/- ClientSends: lemmas, from 'Layer 3: the fields put into a message' on; what each asks for stands in it. -/
import Derived.Test.YtfbhemmpobgdpaaGreatDoorCsG
import Derived.Test.YtfbhemmpobgdpaaGreatDoorCsF
import Derived.Test.YtfbhemmpobgdpaaGreatDoorCsH
import Derived.Test.YtfbhemmpobgdpaaGreatDoorCsE
import Derived.Test.YtfbhemmpobgdpaaGreatDoorCsK
set_option linter.all false
set_option maxRecDepth 100000
set_option maxHeartbeats 64000000
namespace Go.Proofs.YtfbhemmpobgdpaaGreatDoor
open Go.RowKit
theorem LY {w:World} {A:Option Addr} {l:List Int} {c:Nat} (h:RdG (.int .u8) w A l):(convert 30 9 (.slice A l.length c)).run Tryz.prog w = .ok (.string (strOfNums l)) w:=by
 by_cases h0:0<l.length
 ·obtain⟨b,off,rfl,_,hc⟩:=h h0;exact run_convert_bytes_arg (P:=Tryz.prog) (w:=w) 30 5 (by kernel_rfl) (by kernel_rfl) b off l.length c l rfl (fun i hi=>by
   have hx:l[i]? = some (l[i]'hi):=List.getElem?_eq_getElem hi;rw[hc i _ hx];simp[List.getD,hx]) 9 (by kernel_rfl)
 ·obtain rfl:l=[]:=List.eq_nil_of_length_eq_zero (by omega);cases A with
  |none=>
   have e:(convert 30 9 (.slice none 0 c)).run Tryz.prog w=(Conv.bytesToString (.slice none 0 c)).run Tryz.prog w:=by simp[convert,run_underlying Tryz.underlying30,run_underlying Tryz.underlying9,run_underlying Tryz.underlying5]
   rw[show([]:List Int).length=0 from rfl,e];first|rfl|(simp[Conv.bytesToString,loadCells,loadCellsFrom,strOfNums];try rfl)
  |some a=>
   have e:(convert 30 9 (.slice (some a) 0 c)).run Tryz.prog w=(Conv.bytesToString (.slice (some a) 0 c)).run Tryz.prog w:=by simp[convert,run_underlying Tryz.underlying30,run_underlying Tryz.underlying9,run_underlying Tryz.underlying5]
   rw[show([]:List Int).length=0 from rfl,e];first|rfl|(simp[Conv.bytesToString,loadCells,loadCellsFrom,strOfNums];try rfl)
def putM (m:MD) (j:Nat) (f:FD):MD:=match j with
 |0=>{ m with code:=f.n }
 |1=>{ m with dA:=f.tA,dc:=f.tc,data:=f.text }
 |2=>{ m with lang:=strOfNums f.text }
 |3=>{ m with name:=strOfNums f.text }
 |4=>{ m with want:=f.n==1 }
 |5=>{ m with dA:=f.tA,dc:=f.tc,data:=f.text }
 |6=>{ m with sender:=f.n }
 |7=>{ m with window:=f.n }
 |8=>{ m with packet:=f.n }
 |_=>{ m with chan:=f.n }
def IK (w:World) (g:Nat) (m:MD):Ending->World->Prop:=fun e w'=>e = .returned (.tuple #[])/\Only [g] w w'/\Blk w' g 150 m.cells
section
variable (m:MD) (f:FD) (g:Nat) (w:World)
theorem gD (hg:Blk w g 150 m.cells):Calls Tryz.prog 146 #[.pointer (some ⟨g,0,none⟩),f.val] w (IK w g (putM m 0 f)):=by
 have c:w.cell? ⟨g,5,none⟩=some (.int .u32 m.code):=hg.cell 5;have fz:=hg.frozen 5;have hlt:=hg.lt;have hne: ¬g=w.heap.size:=by omega
 have hne2: ¬w.heap.size=g:=by omega
 have hb:=(hg.alloc (.cells #[.int .i64 f.kind,.int .u32 f.n,.slice f.tA f.text.length f.tc,.slice f.lA f.list.length f.lc] 153)).set_ 5 (.int .u32 f.n);have hb2:=(hg.set_ 5 (.int .u32 f.n)).alloc (.cells #[.int .i64 f.kind,.int .u32 f.n,.slice f.tA f.text.length f.tc,.slice f.lA f.list.length f.lc] 153);have hO:Only [g] w ((w.setCell ⟨g,5,none⟩ (.int .u32 f.n)).alloc (.cells #[.int .i64 f.kind,.int .u32 f.n,.slice f.tA f.text.length f.tc,.slice f.lA f.list.length f.lc] 153)):=((Only.refl [g] w).setCell (p:=⟨g,5,none⟩) (.inl (by simp)) _).alloc _;unfold FD.val;go_enter Tryz.func146,Tryz.ntmps146
 go_wp2
 go_end0
 exact⟨rfl,hO,hb2⟩
theorem ZK (hg:Blk w g 150 m.cells):Calls Tryz.prog 156 #[.pointer (some ⟨g,0,none⟩),f.val] w (IK w g (putM m 6 f)):=by
 have c:w.cell? ⟨g,2,none⟩=some (.int .u32 m.sender):=hg.cell 2;have fz:=hg.frozen 2;have hlt:=hg.lt;have hne: ¬g=w.heap.size:=by omega
 have hne2: ¬w.heap.size=g:=by omega
 have hb:=(hg.alloc (.cells #[.int .i64 f.kind,.int .u32 f.n,.slice f.tA f.text.length f.tc,.slice f.lA f.list.length f.lc] 153)).set_ 2 (.int .u32 f.n);have hb2:=(hg.set_ 2 (.int .u32 f.n)).alloc (.cells #[.int .i64 f.kind,.int .u32 f.n,.slice f.tA f.text.length f.tc,.slice f.lA f.list.length f.lc] 153);have hO:Only [g] w ((w.setCell ⟨g,2,none⟩ (.int .u32 f.n)).alloc (.cells #[.int .i64 f.kind,.int .u32 f.n,.slice f.tA f.text.length f.tc,.slice f.lA f.list.length f.lc] 153)):=((Only.refl [g] w).setCell (p:=⟨g,2,none⟩) (.inl (by simp)) _).alloc _;unfold FD.val;go_enter Tryz.func156,Tryz.ntmps156
 go_wp2
 go_end0
 exact⟨rfl,hO,hb2⟩
theorem ZL (hg:Blk w g 150 m.cells):Calls Tryz.prog 158 #[.pointer (some ⟨g,0,none⟩),f.val] w (IK w g (putM m 7 f)):=by
 have c:w.cell? ⟨g,3,none⟩=some (.int .u32 m.window):=hg.cell 3;have fz:=hg.frozen 3;have hlt:=hg.lt;have hne: ¬g=w.heap.size:=by omega
 have hne2: ¬w.heap.size=g:=by omega
 have hb:=(hg.alloc (.cells #[.int .i64 f.kind,.int .u32 f.n,.slice f.tA f.text.length f.tc,.slice f.lA f.list.length f.lc] 153)).set_ 3 (.int .u32 f.n);have hb2:=(hg.set_ 3 (.int .u32 f.n)).alloc (.cells #[.int .i64 f.kind,.int .u32 f.n,.slice f.tA f.text.length f.tc,.slice f.lA f.list.length f.lc] 153);have hO:Only [g] w ((w.setCell ⟨g,3,none⟩ (.int .u32 f.n)).alloc (.cells #[.int .i64 f.kind,.int .u32 f.n,.slice f.tA f.text.length f.tc,.slice f.lA f.list.length f.lc] 153)):=((Only.refl [g] w).setCell (p:=⟨g,3,none⟩) (.inl (by simp)) _).alloc _;unfold FD.val;go_enter Tryz.func158,Tryz.ntmps158
 go_wp2
 go_end0
 exact⟨rfl,hO,hb2⟩
theorem ZJ (hg:Blk w g 150 m.cells):Calls Tryz.prog 160 #[.pointer (some ⟨g,0,none⟩),f.val] w (IK w g (putM m 8 f)):=by
 have c:w.cell? ⟨g,4,none⟩=some (.int .u32 m.packet):=hg.cell 4;have fz:=hg.frozen 4;have hlt:=hg.lt;have hne: ¬g=w.heap.size:=by omega
 have hne2: ¬w.heap.size=g:=by omega
 have hb:=(hg.alloc (.cells #[.int .i64 f.kind,.int .u32 f.n,.slice f.tA f.text.length f.tc,.slice f.lA f.list.length f.lc] 153)).set_ 4 (.int .u32 f.n);have hb2:=(hg.set_ 4 (.int .u32 f.n)).alloc (.cells #[.int .i64 f.kind,.int .u32 f.n,.slice f.tA f.text.length f.tc,.slice f.lA f.list.length f.lc] 153);have hO:Only [g] w ((w.setCell ⟨g,4,none⟩ (.int .u32 f.n)).alloc (.cells #[.int .i64 f.kind,.int .u32 f.n,.slice f.tA f.text.length f.tc,.slice f.lA f.list.length f.lc] 153)):=((Only.refl [g] w).setCell (p:=⟨g,4,none⟩) (.inl (by simp)) _).alloc _;unfold FD.val;go_enter Tryz.func160,Tryz.ntmps160
 go_wp2
 go_end0
 exact⟨rfl,hO,hb2⟩
theorem gC (hg:Blk w g 150 m.cells):Calls Tryz.prog 162 #[.pointer (some ⟨g,0,none⟩),f.val] w (IK w g (putM m 9 f)):=by
 have c:w.cell? ⟨g,1,none⟩=some (.int .u32 m.chan):=hg.cell 1;have fz:=hg.frozen 1;have hlt:=hg.lt;have hne: ¬g=w.heap.size:=by omega
 have hne2: ¬w.heap.size=g:=by omega
 have hb:=(hg.alloc (.cells #[.int .i64 f.kind,.int .u32 f.n,.slice f.tA f.text.length f.tc,.slice f.lA f.list.length f.lc] 153)).set_ 1 (.int .u32 f.n);have hb2:=(hg.set_ 1 (.int .u32 f.n)).alloc (.cells #[.int .i64 f.kind,.int .u32 f.n,.slice f.tA f.text.length f.tc,.slice f.lA f.list.length f.lc] 153);have hO:Only [g] w ((w.setCell ⟨g,1,none⟩ (.int .u32 f.n)).alloc (.cells #[.int .i64 f.kind,.int .u32 f.n,.slice f.tA f.text.length f.tc,.slice f.lA f.list.length f.lc] 153)):=((Only.refl [g] w).setCell (p:=⟨g,1,none⟩) (.inl (by simp)) _).alloc _;unfold FD.val;go_enter Tryz.func162,Tryz.ntmps162
 go_wp2
 go_end0
 exact⟨rfl,hO,hb2⟩
theorem gI (hg:Blk w g 150 m.cells):Calls Tryz.prog 154 #[.pointer (some ⟨g,0,none⟩),f.val] w (IK w g (putM m 4 f)):=by
 have c:w.cell? ⟨g,8,none⟩=some (.bool m.want):=hg.cell 8;have fz:=hg.frozen 8;have hlt:=hg.lt;have hne: ¬g=w.heap.size:=by omega
 have hne2: ¬w.heap.size=g:=by omega
 have hb:=(hg.alloc (.cells #[.int .i64 f.kind,.int .u32 f.n,.slice f.tA f.text.length f.tc,.slice f.lA f.list.length f.lc] 153)).set_ 8 (.bool (f.n==1));have hb2:=(hg.set_ 8 (.bool (f.n==1))).alloc (.cells #[.int .i64 f.kind,.int .u32 f.n,.slice f.tA f.text.length f.tc,.slice f.lA f.list.length f.lc] 153);have hO:Only [g] w ((w.setCell ⟨g,8,none⟩ (.bool (f.n==1))).alloc (.cells #[.int .i64 f.kind,.int .u32 f.n,.slice f.tA f.text.length f.tc,.slice f.lA f.list.length f.lc] 153)):=((Only.refl [g] w).setCell (p:=⟨g,8,none⟩) (.inl (by simp)) _).alloc _;unfold FD.val;go_enter Tryz.func154,Tryz.ntmps154
 go_wp2
 go_end0
 exact⟨rfl,hO,hb2⟩
theorem UW (hg:Blk w g 150 m.cells):Calls Tryz.prog 148 #[.pointer (some ⟨g,0,none⟩),f.val] w (IK w g (putM m 1 f)):=by
 have c:w.cell? ⟨g,9,none⟩=some (.slice m.dA m.data.length m.dc):=hg.cell 9;have fz:=hg.frozen 9;have hlt:=hg.lt;have hne: ¬g=w.heap.size:=by omega
 have hne2: ¬w.heap.size=g:=by omega
 have hb:=(hg.alloc (.cells #[.int .i64 f.kind,.int .u32 f.n,.slice f.tA f.text.length f.tc,.slice f.lA f.list.length f.lc] 153)).set_ 9 (.slice f.tA f.text.length f.tc);have hb2:=(hg.set_ 9 (.slice f.tA f.text.length f.tc)).alloc (.cells #[.int .i64 f.kind,.int .u32 f.n,.slice f.tA f.text.length f.tc,.slice f.lA f.list.length f.lc] 153);have hO:Only [g] w ((w.setCell ⟨g,9,none⟩ (.slice f.tA f.text.length f.tc)).alloc (.cells #[.int .i64 f.kind,.int .u32 f.n,.slice f.tA f.text.length f.tc,.slice f.lA f.list.length f.lc] 153)):=((Only.refl [g] w).setCell (p:=⟨g,9,none⟩) (.inl (by simp)) _).alloc _;unfold FD.val;go_enter Tryz.func148,Tryz.ntmps148
 go_wp2
 go_end0
 exact⟨rfl,hO,hb2⟩
theorem gG (hg:Blk w g 150 m.cells) (hf:f.ok w):Calls Tryz.prog 152 #[.pointer (some ⟨g,0,none⟩),f.val] w (IK w g (putM m 3 f)):=by
 have c:w.cell? ⟨g,6,none⟩=some (.string m.name):=hg.cell 6;have fz:=hg.frozen 6;have hlt:=hg.lt;have hne: ¬g=w.heap.size:=by omega
 have hne2: ¬w.heap.size=g:=by omega
 have hb2:=(hg.set_ 6 (.string (strOfNums f.text))).alloc (.cells #[.int .i64 f.kind,.int .u32 f.n,.slice f.tA f.text.length f.tc,.slice f.lA f.list.length f.lc] 153);have hO:Only [g] w ((w.setCell ⟨g,6,none⟩ (.string (strOfNums f.text))).alloc (.cells #[.int .i64 f.kind,.int .u32 f.n,.slice f.tA f.text.length f.tc,.slice f.lA f.list.length f.lc] 153)):=((Only.refl [g] w).setCell (p:=⟨g,6,none⟩) (.inl (by simp)) _).alloc _;have R:=hf.text.only ((Only.refl [] w).alloc (.cells #[.int .i64 f.kind,.int .u32 f.n,.slice f.tA f.text.length f.tc,.slice f.lA f.list.length f.lc] 153));have kc:(convert 30 9 (.slice f.tA f.text.length f.tc)).run Tryz.prog (w.alloc (.cells #[.int .i64 f.kind,.int .u32 f.n,.slice f.tA f.text.length f.tc,.slice f.lA f.list.length f.lc] 153)) = .ok (.string (strOfNums f.text)) (w.alloc (.cells #[.int .i64 f.kind,.int .u32 f.n,.slice f.tA f.text.length f.tc,.slice f.lA f.list.length f.lc] 153)):=LY R;unfold FD.val;go_enter Tryz.func152,Tryz.ntmps152
 go_wp2
 go_end0
 exact⟨rfl,hO,hb2⟩
theorem gF (hg:Blk w g 150 m.cells) (hf:f.ok w):Calls Tryz.prog 150 #[.pointer (some ⟨g,0,none⟩),f.val] w (IK w g (putM m 2 f)):=by
 have c:w.cell? ⟨g,7,none⟩=some (.string m.lang):=hg.cell 7;have fz:=hg.frozen 7;have hlt:=hg.lt;have hne: ¬g=w.heap.size:=by omega
 have hne2: ¬w.heap.size=g:=by omega
 have hb2:=(hg.set_ 7 (.string (strOfNums f.text))).alloc (.cells #[.int .i64 f.kind,.int .u32 f.n,.slice f.tA f.text.length f.tc,.slice f.lA f.list.length f.lc] 153);have hO:Only [g] w ((w.setCell ⟨g,7,none⟩ (.string (strOfNums f.text))).alloc (.cells #[.int .i64 f.kind,.int .u32 f.n,.slice f.tA f.text.length f.tc,.slice f.lA f.list.length f.lc] 153)):=((Only.refl [g] w).setCell (p:=⟨g,7,none⟩) (.inl (by simp)) _).alloc _;have R:=hf.text.only ((Only.refl [] w).alloc (.cells #[.int .i64 f.kind,.int .u32 f.n,.slice f.tA f.text.length f.tc,.slice f.lA f.list.length f.lc] 153));have kc:(convert 30 9 (.slice f.tA f.text.length f.tc)).run Tryz.prog (w.alloc (.cells #[.int .i64 f.kind,.int .u32 f.n,.slice f.tA f.text.length f.tc,.slice f.lA f.list.length f.lc] 153)) = .ok (.string (strOfNums f.text)) (w.alloc (.cells #[.int .i64 f.kind,.int .u32 f.n,.slice f.tA f.text.length f.tc,.slice f.lA f.list.length f.lc] 153)):=LY R;unfold FD.val;go_enter Tryz.func150,Tryz.ntmps150
 go_wp2
 go_end0
 exact⟨rfl,hO,hb2⟩
end
end Go.Proofs.YtfbhemmpobgdpaaGreatDoor
namespace Go.Proofs.YtfbhemmpobgdpaaGreatDoor
open Go.RowKit
theorem put_any (j:Nat) (hj:j<10): ∃F:FuncId,pput j=F/\(∀(args:Array Value) (w:World),(callFunc F args).run Tryz.prog w = .ok (.enter F args) w)/\
  ∀(w:World) (m:MD) (f:FD) (g:Nat),Blk w g 150 m.cells->f.ok w->Calls Tryz.prog F #[.pointer (some ⟨g,0,none⟩),f.val] w (IK w g (putM m j f)):=by
 have h:j=0\/j=1\/j=2\/j=3\/j=4\/j=5\/j=6\/j=7\/j=8\/j=9:=by omega
 rcases h with rfl|rfl|rfl|rfl|rfl|rfl|rfl|rfl|rfl|rfl;·exact⟨_,rfl,fun args w=>by kernel_rfl,fun w m f g hg hf=>gD m f g w hg⟩
 ·exact⟨_,rfl,fun args w=>by kernel_rfl,fun w m f g hg hf=>UW m f g w hg⟩
 ·exact⟨_,rfl,fun args w=>by kernel_rfl,fun w m f g hg hf=>gF m f g w hg hf⟩
 ·exact⟨_,rfl,fun args w=>by kernel_rfl,fun w m f g hg hf=>gG m f g w hg hf⟩
 ·exact⟨_,rfl,fun args w=>by kernel_rfl,fun w m f g hg hf=>gI m f g w hg⟩
 ·exact⟨_,rfl,fun args w=>by kernel_rfl,fun w m f g hg hf=>UW m f g w hg⟩
 ·exact⟨_,rfl,fun args w=>by kernel_rfl,fun w m f g hg hf=>ZK m f g w hg⟩
 ·exact⟨_,rfl,fun args w=>by kernel_rfl,fun w m f g hg hf=>ZL m f g w hg⟩
 ·exact⟨_,rfl,fun args w=>by kernel_rfl,fun w m f g hg hf=>ZJ m f g w hg⟩
 ·exact⟨_,rfl,fun args w=>by kernel_rfl,fun w m f g hg hf=>gC m f g w hg⟩
end Go.Proofs.YtfbhemmpobgdpaaGreatDoor
namespace Go.Proofs.YtfbhemmpobgdpaaGreatDoor
open Go.RowKit
end Go.Proofs.YtfbhemmpobgdpaaGreatDoor
namespace Go.Proofs.YtfbhemmpobgdpaaGreatDoor
open Go.RowKit
theorem gU {fn:Func} {p t:Tmp} (h:fn.results=#[.cell p 37,.tmp t]) (tmps:Array Value) (w:World) (g:Nat) (cs:Array Value) (hs:cs.size=10)
  (hp:tmps.getD p undef = .pointer (some ⟨g,0,none⟩)) (hg:w.heap[g]? = some (.cells cs 37 (0,0))) :
  (results fn tmps).run Tryz.prog w = .ok (.tuple #[.agg cs,tmps.getD t undef]) w:=by
 have hp':tmps[p]?.getD undef = .pointer (some ⟨g,0,none⟩):=by simpa using hp
 simp[results,h,hp',asAddr,run_loadVar_row w g 37 37 cs (0,0) _ hg Tryz.underlying37 rfl (by rw[hs];kernel_rfl)]
theorem CV {fn:Func} {p t:Tmp} {R:Ending->World->Prop} {a:Act} {w:World} {g:Nat} {m:MD} (h:fn.results=#[.cell p 37,.tmp t]) (hp:a.tmps.getD p undef = .pointer (some ⟨g,0,none⟩)) (hd:a.defers=[])
  (hg:Blk w g 37 m.cells) (hR:R (.returned (.tuple #[m.val,a.tmps.getD t undef])) w):bodyPost Tryz.prog fn R .ret a w:=
 bodyPost_ret (gU h _ w g m.cells.toArray rfl hp hg) hd hR
def AK:MD:=⟨0,0,0,0,0,0,⟨#[]⟩,⟨#[]⟩,false,none,0,[]⟩
def AF (k:Int):MD:={ AK with kind:=k }
def AQ (m:MD):List Nat->List FD->MD
 |j::js,f::fs=>AQ (putM m j f) js fs
 |_,_=>m
def UG (m:MD) (w:World):Prop:=∀a,m.dA=some a->∀i,i<m.data.length->w.frozen? (a.add i)=false
theorem UG.onlyL {w w':World} {m:MD} {L:List Nat} (h:UG m w) (ho:m.ok w) (hb:Only L w w') (hL: ∀a,m.dA=some a->0<m.data.length->a.block∉L):UG m w':=by
 intro a ha i hi;obtain⟨b,off,e,hlt,_⟩:=ho.data (by omega);rw[ha] at e;injection e with e;refine(World.frozen?_of_block (w:=w) ?_).trans (h a ha i hi);rw[IA];exact hb.block _ (by rw[e];exact hlt) (hL a ha (by omega))
theorem putM_soft {w:World} {m:MD} {f:FD} (j:Nat) (h:UG m w) (hf:f.soft w):UG (putM m j f) w:=by
 unfold putM;split;·exact h
 ·exact hf
 ·exact h
 ·exact h
 ·exact h
 ·exact hf
 ·exact h
 ·exact h
 ·exact h
 ·exact h
def DecPost (w:World) (l:List Int):Ending->World->Prop:=fun e w'=>Only [] w w'/\∃(m:MD) (E:Int),e = .returned (.tuple #[m.val,.int .i64 E])/\m.ok w'/\(∀a,m.dA=some a->w.heap.size<=a.block)/\UG m w'/\
 match l with
 |[]=>E=3/\m=AK
 |k::_=>match BX k with
  |none=>E=8/\m=AK
  |some js=>if(AR (1::js.map pk) l).1≠0 then E=(AR (1::js.map pk) l).1/\m=AK
   else∃fs:List FD,fs.map FD.pf=(AR (1::js.map pk) l).2/\if BW (AQ (AF k) js fs.tail) then E=0/\m=AQ (AF k) js fs.tail else E=4/\m=AK
theorem EA (w:World):AK.ok w:=⟨RdG.nil,by simp[AK],by simp[AK],by simp[AK],by simp[AK,U32],qO _,qO _⟩
theorem KL (w:World) (x:Int):IW (w.alloc (.cells #[.int .i64 x] 3)) w.heap.size (.slice (some ⟨w.heap.size,0,none⟩) 1 1) [x]:=by
 refine⟨by simp[KZ],.inr ⟨w.heap.size,1,#[.int .i64 x],rfl,qL _,heap_alloc_new w (.cells #[.int .i64 x] 3),by simp,by simp[maxLen],by simp,by simp[KZ]⟩⟩
def mset (w:World) (q:Nat) (m:MD):World:=((((((((((w.setCell ⟨q,0,none⟩ (.int .i64 m.kind)).setCell ⟨q,1,none⟩ (.int .u32 m.chan)).setCell ⟨q,2,none⟩ (.int .u32 m.sender)).setCell ⟨q,3,none⟩ (.int .u32 m.window)).setCell ⟨q,4,none⟩ (.int .u32 m.packet)).setCell ⟨q,5,none⟩ (.int .u32 m.code)).setCell ⟨q,6,none⟩ (.string m.name)).setCell ⟨q,7,none⟩ (.string m.lang)).setCell ⟨q,8,none⟩ (.bool m.want)).setCell ⟨q,9,none⟩ (.slice m.dA m.data.length m.dc))
theorem UP {w:World} {q:Nat} {m0:MD} (m:MD) (K:Blk w q 37 m0.cells):Blk (mset w q m) q 37 m.cells:=((((((((((K.set_ 0 _).set_ 1 _).set_ 2 _).set_ 3 _).set_ 4 _).set_ 5 _).set_ 6 _).set_ 7 _).set_ 8 _).set_ 9 _)
theorem JL {L:List Nat} {w0 w:World} {q:Nat} (m:MD) (hq:q∈L\/w0.heap.size<=q) (h:Only L w0 w):Only L w0 (mset w q m):=
 ((((((((((h.setCell (p:=⟨q,0,none⟩) hq _).setCell (p:=⟨q,1,none⟩) hq _).setCell (p:=⟨q,2,none⟩) hq _).setCell (p:=⟨q,3,none⟩) hq _).setCell (p:=⟨q,4,none⟩) hq _).setCell (p:=⟨q,5,none⟩) hq _).setCell (p:=⟨q,6,none⟩) hq _).setCell (p:=⟨q,7,none⟩) hq _).setCell (p:=⟨q,8,none⟩) hq _).setCell (p:=⟨q,9,none⟩) hq _)
theorem KW {w:World} {q:Nat} (K:Blk w q 37 AK.cells):Blk (mset w q AK) q 37 AK.cells:=UP AK K
theorem KX {w0 w:World} {q:Nat} (hq:w0.heap.size<=q) (h:Only [] w0 w):Only [] w0 (mset w q AK):=JL AK (.inr hq) h
theorem gL {l:List Int} (hl:InB l):InB (CE l).text:=by
 unfold CE GJ DN;split;·exact fun x hx=>by simp at hx
 ·split;·exact fun x hx=>by simp at hx
  ·split;·exact fun x hx=>by simp at hx
   ·exact(hl.drop 4).take _
theorem jY (k:Nat) (h6:k<=6) (l:List Int) (hl:InB l):InB (BC k l).text:=by
 have z:InB []:=fun x hx=>by simp at hx
 have ho:(CM l).text=[]:=by unfold CM DN;split<;>rfl
 have hk:k=0\/k=1\/k=2\/k=3\/k=4\/k=5\/k=6:=by omega
 rcases hk with rfl|rfl|rfl|rfl|rfl|rfl|rfl;·exact hl
 ·rw[VT,ho];exact z
 ·rw[VU,show(OE l).text=(CM l).text from rfl,ho];exact z
 ·rw[VV];unfold CR DN;split<;>exact z
 ·rw[VW];exact gL hl
 ·rw[VX];unfold EC GE;split;exact z;split<;>exact z
 ·rw[VY];exact hl
theorem OI: ∀(ks l:List Int) (acc:List PF),(∀k∈ks,1<=k/\k<=6)->InB l->(∀p∈acc,InB p.text)->∀p∈(AY ks l acc).2,InB p.text
 |[],l,acc,_,_,ha=>by
  unfold AY;split;·exact fun p hp=>by simp at hp
  ·exact ha
 |k::ks,l,acc,hk,hl,ha=>by
  have h16:=hk k (by simp);unfold AY;split;·exact fun p hp=>by simp at hp
  ·obtain⟨n,hn⟩:=QJ k.toNat l;refine OI ks _ _ (fun k hk2=>hk k (by simp[hk2])) (by rw[hn];exact hl.drop n) (fun p hp=>?_);rcases qK hp with hp|hp;·exact ha p hp
   ·simp at hp;subst hp;exact jY _ (by omega) l hl
theorem DY (ks l:List Int) (hl:InB l) (h:(AR ks l).1=0):(AR ks l).2.map (·.kind)=ks/\∀p∈(AR ks l).2,U32 p.n/\InB p.text:=by
 unfold AR at h⊢;split at h
 ·rename_i hr;rw[if_pos hr];have h2:=OI ks l [] (EJ hr) hl (fun p hp=>by simp at hp);rcases HP ks l [] (EJ hr) hl with e|⟨_,ps,e1,e2,e3,_⟩;·exact absurd h e.1
  ·rw[e1] at h2⊢;refine⟨by simpa using e2,fun p hp=>⟨(e3 p (by simpa using hp)).2,h2 p hp⟩⟩
 ·cases h
theorem MD.ok.onlyL {w w':World} {q:Nat} {m:MD} (h:m.ok w) (hb:Only [q] w w') (hn: ∀a,m.dA=some a->0<m.data.length->a.block<q):m.ok w':=
 { h with data:=h.data.onlyL hb (fun a ha h0=>by have:=hn a ha h0;simp;omega) }
theorem kX (l:List Int):(strOfNums l).size=l.length:=by
 show(strOfNums l).data.size=_;rw[<-Array.length_toList,DD,List.length_map]
theorem ED {w:World} {m:MD} {f:FD} (j:Nat) (h:m.ok w) (hf:f.ok w) (hn:U32 f.n) (hb:InB f.text):(putM m j f).ok w:=by
 obtain⟨n1,n2,n3,n4,n5⟩:=h.nums;have hs:(strOfNums f.text).size<=maxLen:=by rw[kX];exact Nat.le_trans hf.tle hf.tmax
 unfold putM;split;·exact { h with nums:=⟨n1,n2,n3,n4,hn⟩ }
 ·exact { h with data:=hf.text,dle:=hf.tle,dmax:=hf.tmax,bytes:=hb }
 ·exact { h with lang:=hs }
 ·exact { h with name:=hs }
 ·exact { h with }
 ·exact { h with data:=hf.text,dle:=hf.tle,dmax:=hf.tmax,bytes:=hb }
 ·exact { h with nums:=⟨n1,hn,n3,n4,n5⟩ }
 ·exact { h with nums:=⟨n1,n2,hn,n4,n5⟩ }
 ·exact { h with nums:=⟨n1,n2,n3,hn,n5⟩ }
 ·exact { h with nums:=⟨hn,n2,n3,n4,n5⟩ }
def MG (m:MD) (B q:Nat):Prop:=∀a,m.dA=some a->B<=a.block/\(0<m.data.length->a.block<q)
theorem putM_mg {m:MD} {f:FD} {B q:Nat} (j:Nat) (h:MG m B q) (hf: ∀a,f.tA=some a->B<=a.block) (hl: ∀a,f.tA=some a->0<f.text.length->a.block<q):MG (putM m j f) B q:=by
 have hx:MG { m with dA:=f.tA,dc:=f.tc,data:=f.text } B q:=fun a ha=>⟨hf a ha,hl a ha⟩;unfold putM;split;·exact h
 ·exact hx
 ·exact h
 ·exact h
 ·exact h
 ·exact hx
 ·exact h
 ·exact h
 ·exact h
 ·exact h
theorem EE (w:World) (k:Int):(AF k).ok w:={ EA w with }
theorem jC (A:Option Addr) (l:List Int) (c:Nat) (i0:Int) (w:World) (hm:w.cell? ⟨0,0,none⟩=some (.int .i64 i0)) (h:Rd w A l) (hl: ∀x∈l,0<=x/\x<256) (hln:l.length<=140737488355000) (hlc:l.length<=c) (hlm:c<=maxLen) (hal: ∀a,A=some a->a.block<w.heap.size) :
  Calls Tryz.prog 59 #[.slice A l.length c] w (DecPost w l):=by
 cases l with
 |nil=>
  go_enter Tryz.func59,Tryz.ntmps59
  go_wp2_with fail
  (try simp only[Exit.inBlock,Exit.then])
  refine CV (g:=w.heap.size) (m:=AK) rfl (by rfl) (by rfl) (Blk.new w 37 AK.cells) ?_;exact⟨(zR _ _).alloc _,AK,3,rfl,EA _,fun a ha=>by simp[AK] at ha,fun a ha=>by simp[AK] at ha,rfl,rfl⟩
 |cons k t=>
  obtain⟨b,off,y,rfl,hb,hy,cx⟩:=RdG.at (mk:=.int .u8) h 0 (by simp);simp at hy;subst hy;rw[Nat.add_zero] at cx;have hk:=hl k (by simp);obtain⟨ln,hn⟩:=qX ((k::t).length);have hn1:1<=ln:=by rw[<-hn];simp
  have hn0:((ln:Int)==0)=false:=by simp;omega
  have i2:(0:Int)<(ln:Int):=by omega
  obtain⟨w1,hw1⟩:=qY (w.alloc (.cells #[.int .i64 0,.int .u32 0,.int .u32 0,.int .u32 0,.int .u32 0,.int .u32 0,.string ⟨#[]⟩,.string ⟨#[]⟩,.bool false,.slice none 0 0] 37));have P1:Only [] w w1:=by rw[hw1];exact(zR _ _).alloc _
  have K1:Blk w1 w.heap.size 37 AK.cells:=by rw[hw1];exact Blk.new w _ _
  have RW:=fT k w1;rw[hn] at hln hlc⊢;replace hn:=AB hn;cases hr:BX k with
  |none=>
   rw[hr] at RW;replace hr:=AB hr;go_enter Tryz.func59,Tryz.ntmps59
   go_wp2_with fail
   rw[<-hw1];replace hw1:=AB hw1;go_call RW as e w2 ⟨P2,rfl⟩
   have K2:=K1.only P2 (by simp);obtain⟨g0,f0,g1,f1,g2,f2,g3,f3,g4,f4,g5,f5,g6,f6,g7,f7,g8,f8,g9,f9⟩:=qZ K2;go_wp2_with fail
   (try simp only[Exit.inBlock,Exit.then])
   refine CV (g:=w.heap.size) (m:=AK) rfl (by rfl) (by rfl) (KW K2) ?_;refine⟨KX (qL _) (P1.trans P2 (by simp)),AK,8,rfl,EA _,fun a ha=>by simp[AK] at ha,fun a ha=>by simp[AK] at ha,?_⟩;show(match BX k with|none=>_|some js=>_);rw[hr.out];exact⟨rfl,rfl⟩
  |some js=>
   rw[hr] at RW;obtain⟨_,_,hj5,hj10⟩:=YD hr;obtain⟨n,hnj⟩:=qX js.length;unfold cM at RW;dsimp only at RW;rw[hnj] at RW hj5;replace hnj:=AB hnj;replace hr:=AB hr;replace hj10:=AB hj10;go_enter Tryz.func59,Tryz.ntmps59
   go_wp2_with fail
   rw[<-hw1];replace hw1:=AB hw1;go_call RW as e w2 ⟨P2,A,rfl,hA⟩
   clear RW;have K2:=K1.only P2 (by simp);have V3:IW (w2.alloc (.cells #[.int .i64 1] 3)) w2.heap.size (.slice (some ⟨w2.heap.size,0,none⟩) 1 1) [1]:=KL w2 1;have P3:Only [] w2 (w2.alloc (.cells #[.int .i64 1] 3)):=(zR _ _).alloc _;replace hA:=AB hA;go_wp2_with fail
   go_loopw [32,6] (fun i o wr=>∃(k:Nat) (v:Value),k<=n/\i = .int .i64 k/\v=o/\IW wr w2.heap.size v (1::(js.take k).map pk)/\Only [] w2 wr) (fun i _ _=>n-(intOf i).toNat)
   case atStart=>exact⟨0,_,by omega,rfl,rfl,V3,P3⟩
   case round=>
    obtain⟨wo,rfl⟩: ∃wo:World,wo=wr:=⟨_,rfl⟩;obtain⟨kk,v,hkn,rfl,rfl,V,O⟩:=hrel;have hob:=V.block;have zo:=O.size;by_cases hlt:kk<n
    ·obtain⟨j,hj⟩: ∃j,js[kk]? = some j:=⟨_,List.getElem?_eq_getElem (by have:=hnj.out;omega)⟩;obtain⟨gA,hAe,BA⟩:=hA.out (by omega);have BAo:=BA.only O (by simp);obtain⟨F,hF,_⟩:=dG j (hj10.out j (qE hj));obtain⟨Z,hZ⟩:=qX (pput j);obtain⟨KJ,hKJ⟩:=qX (pk j);have e0:wo.cell? ⟨gA,kk*3,none⟩=some (.int .i64 KJ):=by
      rw[BAo.cell,<-Nat.add_zero (kk*3),EW js kk j 0 hj (by decide),<-hKJ];rfl
     have e1:wo.cell? ⟨gA,kk*3+1,none⟩=some (.func (Fn.func F) #[] #[]):=by
      rw[BAo.cell,EW js kk j 1 hj (by decide),<-hF];rfl
     have e2:wo.cell? ⟨gA,kk*3+2,none⟩=some (.func (Fn.func Z) #[] #[]):=by
      rw[BAo.cell,EW js kk j 2 hj (by decide),<-hZ];rfl
     have hks:(1::(js.take (kk+1)).map pk)=(1::(js.take kk).map pk)++[KJ]:=by rw[DH hj,List.map_append,<-hKJ];rfl
     have hll:(1::(js.take kk).map pk).length=kk+1:=by rw[List.length_cons,List.length_map,List.length_take];have:=hnj.out;omega
     subst hAe;have X5:Only [] wo ((wo.alloc (.cells #[.int .i64 KJ,.func (Fn.func F) #[] #[],.func (Fn.func Z) #[] #[]] 158)).alloc (.cells #[.int .i64 KJ] 3)):=((zR _ _).alloc _).alloc _;have R5:RdI ((wo.alloc (.cells #[.int .i64 KJ,.func (Fn.func F) #[] #[],.func (Fn.func Z) #[] #[]] 158)).alloc (.cells #[.int .i64 KJ] 3)) (some ⟨wo.heap.size+1,0,none⟩) [KJ]:=by
      have:=NA (wo.alloc (.cells #[.int .i64 KJ,.func (Fn.func F) #[] #[],.func (Fn.func Z) #[] #[]] 158)) #[.int .i64 KJ] [KJ] rfl;rw[show(wo.alloc (.cells #[.int .i64 KJ,.func (Fn.func F) #[] #[],.func (Fn.func Z) #[] #[]] 158)).heap.size=wo.heap.size+1 by simp] at this;exact this
     have V5:=V.far X5 (fun x hx=>by simp at hx);obtain⟨ks,hksv⟩:=qX ((1::(js.take kk).map pk));rw[hksv] at V5 hll hks;replace hks:=AB hks;replace hksv:=AB hksv;replace hll:=AB hll;replace hj:=AB hj;replace hF:=AB hF;replace hZ:=AB hZ;replace hKJ:=AB hKJ;clear BAo;go_wp2_with (at_builtin;go_must (refine FW rfl (.tmp 36) (.tmp 39) rfl w2.heap.size v ks rfl V5 (some ⟨wo.heap.size+1,0,none⟩) 1 [KJ] _ rfl rfl R5 (by have:=hll.out;rw[this];simp;omega) (by simp;omega) ?_;intro v9 w9 V9 P9))
     go_roundw
     case rel=>
      refine⟨kk+1,_,by omega,by go_num,rfl,?_,(O.trans X5 (by simp)).trans P9 (fun x hx=>.inr (hob x (by simpa using hx)).1)⟩;rw[hks.out];exact V9.out
     case measure=>simp[intOf];omega
    ·have hkn3:kk=n:=by omega
     subst hkn3;have hln2:=hln;have hkl:(1::(js.take kk).map pk).length=kk+1:=by rw[List.length_cons,List.length_map,List.length_take];have:=hnj.out;omega
     have htk:js.take kk=js:=List.take_of_length_le (by have:=hnj.out;omega);rw[htk] at V hkl;obtain⟨Ak,ck,rfl,Rk,hck,hcm,hAk⟩:=V.rd;have OA:Only [] w wo:=(P1.trans P2 (by simp)).trans O (by simp);have h0:0<w.heap.size:=Nat.pos_of_ne_zero (fun e=>by
      have:=block_lt_of_cell hm;simp only at this;omega)
     have hm':wo.cell? ⟨0,0,none⟩=some (.int .i64 i0):=BJ OA h0 (by simp) hm;have RD:=read_any wo Ak (some ⟨b,off,none⟩) (1::js.map pk) (k::t) ck c i0 hm' Rk (h.only OA) hl (by rw[hkl];omega) (by rw[hn.out];exact hln) (by rw[hn.out];exact hlc) hlm (fun a ha=>by have:=hal a ha;have:=OA.size;omega);obtain⟨res,hres⟩:=qX (AR (1::js.map pk) (k::t));obtain⟨E,ps⟩:=res;rw[hres,hn.out,hkl] at RD;rw[hkl];obtain⟨ks,hks⟩:=qX (1::js.map pk);rw[hks] at hres;have hgood:=DY ks (k::t) hl;replace hres:=AB hres;replace hgood:=AB hgood;replace hks:=AB hks;have KO:=K2.only O (by simp);have cxo:=BJ OA hb (by simp) cx;have zA:=OA.size;clear V3 P3 V Rk;go_wp2_with fail
     go_call RD as e w4 ⟨P4,Af,cf,fs,rfl,hfs,V4,H4⟩
     clear RD;have K4:=KO.only P4 (by simp);have OA4:=OA.trans P4 (by simp);by_cases hE:E=0
     ·subst hE;have hE2:((0:Int)!=0)=false:=rfl;dsimp only at hfs;obtain⟨hg1,hg2⟩:=hgood.out (by rw[hres.out]);rw[hres.out] at hg1 hg2;dsimp only at hg1 hg2;have hfl:fs.length=kk+1:=by
       have h1:=congrArg List.length hg1;rw[<-hks.out,<-hfs,List.length_map,List.length_map,hkl] at h1;exact h1
      have hff: ∀f∈fs,U32 f.n/\InB f.text:=fun f hf=>hg2 f.pf (by rw[<-hfs];exact List.mem_map_of_mem hf);have RF:RdF w4 Af fs:=V4.rdF (fun f hf=>⟨(H4 f hf).1.ok,(hff f hf).1⟩);obtain⟨bF,offF,rfl,hbF,hcF⟩:=RF.cells (by omega);have cx4:=BJ P4 (zT hb OA.size) (by simp) cxo;obtain⟨w5,hw5⟩:=qY (w4.alloc (.cells #[.int .i64 k,.int .u32 0,.int .u32 0,.int .u32 0,.int .u32 0,.int .u32 0,.string ⟨#[]⟩,.string ⟨#[]⟩,.bool false,.slice none 0 0] 150));have P5:Only [] w4 w5:=by rw[hw5];exact(zR _ _).alloc _
      have K5:Blk w5 w4.heap.size 150 (AF k).cells:=by rw[hw5];exact Blk.new w4 _ _
      have KR5:=K4.only P5 (by simp);have OA5:=OA4.trans P5 (by simp);obtain⟨RES,hRES⟩:=qX (AQ (AF k) js fs.tail);rw[hfl];replace hfl:=AB hfl;replace hfs:=AB hfs;replace hg1:=AB hg1;replace hRES:=AB hRES;clear V4 RF hg2;go_wp2_with fail
      rw[<-hw5];replace hw5:=AB hw5;go_loopw [61] (fun i wr=>∃(k2:Nat) (M:MD),k2<=kk/\i = .int .i64 k2/\Only [w4.heap.size] w5 wr/\Blk wr w4.heap.size 150 M.cells/\AQ M (js.drop k2) (fs.drop (k2+1))=RES/\M.ok wr/\MG M (w.heap.size+1) w4.heap.size/\UG M wr) (fun i _=>kk-(intOf i).toNat)
      case atStart=>
       refine⟨0,AF k,by omega,rfl,zR _ _,K5,?_,EE _ _,fun a ha=>by simp[AF,AK] at ha,fun a ha=>by simp[AF,AK] at ha⟩;rw[List.drop_zero,<-hRES.out,<-List.drop_one]
      case round=>
       obtain⟨wq,rfl⟩: ∃wq:World,wq=wr:=⟨_,rfl⟩;obtain⟨k2,M,hk2,rfl,O5,KM,hM,Mok,Mg,Ms⟩:=hrel;by_cases hlt2:k2<kk
       ·obtain⟨j,hj⟩: ∃j,js[k2]? = some j:=⟨_,List.getElem?_eq_getElem (by have:=hnj.out;omega)⟩;obtain⟨gA,hAe,BA⟩:=hA.out (by omega);obtain⟨f,hf⟩: ∃f,fs[k2+1]? = some f:=⟨_,List.getElem?_eq_getElem (by have:=hfl.out;omega)⟩;have hfm:f∈fs:=qE hf;have zP4:=P4.size;have zO:=O.size;have z5:=P5.size;have z5q:=O5.size;have hgA:=BA.lt;have hgq:=KM.lt;have BAq:=(((BA.only O (by simp)).only P4 (by simp)).only P5 (by simp)).only O5 (by simp;omega);obtain⟨F,hF,_⟩:=dG j (hj10.out j (qE hj));obtain⟨Z,hZ,hcZ,hCZ⟩:=put_any j (hj10.out j (qE hj));have e0:wq.cell? ⟨gA,k2*3,none⟩=some (.int .i64 (pk j)):=by
         rw[BAq.cell,<-Nat.add_zero (k2*3),EW js k2 j 0 hj (by decide)];rfl
        have e1:wq.cell? ⟨gA,k2*3+1,none⟩=some (.func (Fn.func F) #[] #[]):=by
         rw[BAq.cell,EW js k2 j 1 hj (by decide),<-hF];rfl
        have e2:wq.cell? ⟨gA,k2*3+2,none⟩=some (.func (Fn.func Z) #[] #[]):=by
         rw[BAq.cell,EW js k2 j 2 hj (by decide),<-hZ];rfl
        obtain⟨KJ,hKJ⟩:=qX (pk j);rw[hKJ] at e0;obtain⟨w6,hw6⟩:=qY (wq.alloc (.cells #[.int .i64 KJ,.func (Fn.func F) #[] #[],.func (Fn.func Z) #[] #[]] 158));have P6:Only [] wq w6:=by rw[hw6];exact(zR _ _).alloc _
        have K6:Blk w6 wq.heap.size 158 [.int .i64 KJ,.func (Fn.func F) #[] #[],.func (Fn.func Z) #[] #[]]:=by rw[hw6];exact Blk.new wq _ _
        have c2:w6.cell? ⟨wq.heap.size,2,none⟩=some (.func (Fn.func Z) #[] #[]):=K6.cell 2;obtain⟨x0,x1,x2,x3⟩:=hcF (k2+1) f hf;have OX:Only [w4.heap.size] w4 w6:=((P5.mono (by simp)).trans O5 (by simp)).trans P6 (by simp);have hbne:bF∉[w4.heap.size]:=by simp;omega
        have y0:=BJ OX hbF hbne x0;have y1:=BJ OX hbF hbne x1;have y2:=BJ OX hbF hbne x2;have y3:=BJ OX hbF hbne x3;clear x0 x1 x2 x3;have fm:=(H4 f hfm).1;have fm6m:=fm.off OX (fun a ha h0=>by have:=fm.ok.tlt a ha h0;simp;omega) (fun a ha h0=>by have:=fm.ok.llt a ha h0;simp;omega);have fm6:f.ok w6:=fm6m.ok;have KM6:=KM.only P6 (by simp);have CZ:=hCZ w6.drew M f w4.heap.size KM6.drew (fm6.only ((Only.refl [] w6).drew));obtain⟨M2,hM2⟩:=qX (putM M j f);have hM3:AQ M2 (js.drop (k2+1)) (fs.drop (k2+1+1))=RES:=by
         have hki:k2<js.length:=(List.getElem?_eq_some_iff.1 hj).1;have hki2:k2+1<fs.length:=(List.getElem?_eq_some_iff.1 hf).1;rw[<-hM,List.drop_eq_getElem_cons hki,List.drop_eq_getElem_cons hki2,(List.getElem?_eq_some_iff.1 hj).2,(List.getElem?_eq_some_iff.1 hf).2,<-hM2];rfl
        have Mok2:M2.ok w6:=by rw[<-hM2];exact ED j (Mok.only P6) fm6 (hff f hfm).1 (hff f hfm).2
        have Mg2:MG M2 (w.heap.size+1) w4.heap.size:=by
         rw[<-hM2];exact putM_mg j Mg (fun a ha=>by have:=fm.new.1 a ha;have:=K2.lt;omega) (fun a ha h0=>fm.ok.tlt a ha h0)
        have Ms2:UG M2 w6:=by rw[<-hM2];exact putM_soft j (Ms.onlyL Mok P6 (by simp)) fm6m.soft
        rw[hM2] at CZ;have hI:(fun w':World=>w'.cell? ⟨bF,offF+(k2+1)*4,none⟩=some (.int .i64 f.kind)/\w'.cell? ⟨bF,offF+(k2+1)*4+1,none⟩=some (.int .u32 f.n)/\w'.cell? ⟨bF,offF+(k2+1)*4+2,none⟩=some (.slice f.tA f.text.length f.tc)/\w'.cell? ⟨bF,offF+(k2+1)*4+3,none⟩=some (.slice f.lA f.list.length f.lc)/\w'.cell? ⟨wq.heap.size,2,none⟩=some (.func (Fn.func Z) #[] #[])) { w6 with drawn:=w6.drawn+1 }:=⟨y0,y1,y2,y3,c2⟩;have hwr:IntKind.i64.wrap ((k2:Int)+1)=(k2:Int)+1:=IntWalk.i64_in _ (by omega);subst hAe;unfold FD.val at CZ;replace hj:=AB hj;replace hF:=AB hF;replace hZ:=AB hZ;replace hKJ:=AB hKJ;replace hM:=AB hM;replace hM2:=AB hM2;replace hM3:=AB hM3;replace hf:=AB hf;clear BAq hCZ hcF H4 hff;go_wp2_with fail
        rw[<-hw6];replace hw6:=AB hw6;refine AL (fun w':World=>w'.cell? ⟨bF,offF+(k2+1)*4,none⟩=some (.int .i64 f.kind)/\w'.cell? ⟨bF,offF+(k2+1)*4+1,none⟩=some (.int .u32 f.n)/\w'.cell? ⟨bF,offF+(k2+1)*4+2,none⟩=some (.slice f.tA f.text.length f.tc)/\w'.cell? ⟨bF,offF+(k2+1)*4+3,none⟩=some (.slice f.lA f.list.length f.lc)/\w'.cell? ⟨wq.heap.size,2,none⟩=some (.func (Fn.func Z) #[] #[])) [8] (by kernel_rfl) ?_;refine wpAnyE_tk 0 (v:=(.pointer (some ⟨wq.heap.size,2,none⟩))) rfl hI (fun w' hw'=>by obtain⟨i0,i1,i2,i3,i4⟩:=hw';go_simp;(try exact hwr);try(intro h7;exact absurd h7 (by omega))) ?_;refine wpAnyE_tk 1 (v:=(.func (Fn.func Z) #[] #[])) rfl hI (fun w' hw'=>by obtain⟨i0,i1,i2,i3,i4⟩:=hw';go_simp;(try exact hwr);try(intro h7;exact absurd h7 (by omega))) ?_;refine wpAnyE_tk 2 (v:=(.pointer (some ⟨w4.heap.size,0,none⟩))) rfl hI (fun w' hw'=>by obtain⟨i0,i1,i2,i3,i4⟩:=hw';go_simp;(try exact hwr);try(intro h7;exact absurd h7 (by omega))) ?_;refine wpAnyE_tk 3 (v:=(.slice (some ⟨bF,offF,none⟩) (kk+1) cf)) rfl hI (fun w' hw'=>by obtain⟨i0,i1,i2,i3,i4⟩:=hw';go_simp;(try exact hwr);try(intro h7;exact absurd h7 (by omega))) ?_;refine wpAnyE_tk 4 (v:=(.int .i64 (k2:Int))) rfl hI (fun w' hw'=>by obtain⟨i0,i1,i2,i3,i4⟩:=hw';go_simp;(try exact hwr);try(intro h7;exact absurd h7 (by omega))) ?_;refine wpAnyE_tk 5 (v:=(.int .i64 ((k2+1:Nat):Int))) rfl hI (fun w' hw'=>by obtain⟨i0,i1,i2,i3,i4⟩:=hw';go_simp;(try exact hwr);try(intro h7;exact absurd h7 (by omega))) ?_;refine wpAnyE_tk 6 (v:=(.pointer (some ⟨bF,offF+(k2+1)*4,none⟩))) rfl hI (fun w' hw'=>by obtain⟨i0,i1,i2,i3,i4⟩:=hw';go_simp;(try exact hwr);try(intro h7;exact absurd h7 (by omega))) ?_;refine wpAnyE_tk 7 (v:=(.agg #[.int .i64 f.kind,.int .u32 f.n,.slice f.tA f.text.length f.tc,.slice f.lA f.list.length f.lc])) rfl hI (fun w' hw'=>by obtain⟨i0,i1,i2,i3,i4⟩:=hw';go_simp;(try exact hwr);try(intro h7;exact absurd h7 (by omega))) ?_;refine FV 8 [] [8] rfl (by kernel_rfl) (by decide) hI ?_;simp only[List.drop_succ_cons,List.drop_zero];refine EP ?_;go_wp2_with fail
        go_call CZ as e w7 ⟨rfl,P7,K7⟩
        clear CZ;dsimp only;go_wp2_with fail
        go_roundw
        case rel=>
         have P67:Only [w4.heap.size] w6 w7:=((Only.refl _ w6).drew).trans P7 (by simp);refine⟨k2+1,M2,by omega,by go_num,(O5.trans P6 (by simp)).trans P67 (by simp),K7,hM3.out,Mok2.onlyL P67 (fun a ha h0=>(Mg2 a ha).2 h0),Mg2,Ms2.onlyL Mok2 P67 (fun a ha h0=>by have:=(Mg2 a ha).2 h0;simp;omega)⟩
        case measure=>simp[intOf];omega
       ·have hkn4:k2=kk:=by omega
        subst hkn4;have hMR:M=RES:=by
         rw[<-hM,List.drop_eq_nil_of_le (by have:=hnj.out;omega)];unfold AQ;rfl
        have z5:=P5.size;have hgq:=KM.lt;have FT:=fC M wq Mok.name Mok.lang;have OAq:Only [] w wq:=(OA5.trans O5 (by simp;have:=OA4.size;omega));have KRq:=KR5.only O5 (by simp;have:=K4.lt;omega);obtain⟨bf,hbf⟩:=qX (BW M);rw[hbf] at FT;subst hMR;replace hbf:=AB hbf;replace hM:=AB hM;obtain⟨b0,b1,b2,b3,b4,b5,b6,b7,b8,b9⟩:=qM KM M;unfold MD.val at FT;go_wp2_with fail
        go_call FT as e w6 ⟨rfl,P6⟩
        clear FT;have KR6:=KRq.only P6 (by simp);have KM6:=KM.only P6 (by simp);have OA6:=OAq.trans P6 (by simp);have hfin: ∀(m2:MD) (E2:Int),(if bf=true then E2=0/\m2=M else E2=4/\m2=AK)->(match(k::t:List Int) with
          |[]=>E2=3/\m2=AK
          |k::_=>match BX k with
           |none=>E2=8/\m2=AK
           |some js=>if(AR (1::js.map pk) (k::t)).1≠0 then E2=(AR (1::js.map pk) (k::t)).1/\m2=AK
            else∃fs:List FD,fs.map FD.pf=(AR (1::js.map pk) (k::t)).2/\if BW (AQ (AF k) js fs.tail) then E2=0/\m2=AQ (AF k) js fs.tail else E2=4/\m2=AK):=by
         intro m2 E2 h2;show(match BX k with|none=>_|some js=>_);rw[hr.out];show if(AR (1::js.map pk) (k::t)).1≠0 then _ else _
         rw[hks.out,hres.out,if_neg (by simp)];refine⟨fs,hfs.out,?_⟩;rw[hRES.out,hbf.out];exact h2
        replace hfin:=AB hfin;cases bf with
        |true=>
         obtain⟨g0,f0,g1,f1,g2,f2,g3,f3,g4,f4,g5,f5,g6,f6,g7,f7,g8,f8,g9,f9⟩:=qZ KR6;obtain⟨a0,a1,a2,a3,a4,a5,a6,a7,a8,a9⟩:=qM KM6 M;go_wp2_with fail
         (try simp only[Exit.inBlock,Exit.then])
         refine CV (g:=w.heap.size) (m:=M) rfl (by rfl) (by rfl) (UP M KR6) ?_;refine⟨JL M (.inr (qL _)) OA6,M,0,rfl,?_,fun a ha=>by have:=(Mg a ha).1;omega,(Ms.onlyL Mok P6 (by simp)).onlyL (Mok.only P6) (JL M (L:=[w.heap.size]) (q:=w.heap.size) (.inl (by simp)) (Only.refl [w.heap.size] w6)) (fun a ha h0=>by have:=(Mg a ha).1;simp;omega),hfin.out M 0 (by simp)⟩;have hx:=JL M (L:=[w.heap.size]) (q:=w.heap.size) (.inl (by simp)) (Only.refl [w.heap.size] w6);exact { Mok.only P6 with data:=(Mok.only P6).data.onlyL hx (fun a ha h0=>by have:=(Mg a ha).1;simp;omega) }
        |false=>
         obtain⟨g0,f0,g1,f1,g2,f2,g3,f3,g4,f4,g5,f5,g6,f6,g7,f7,g8,f8,g9,f9⟩:=qZ KR6;go_wp2_with fail
         (try simp only[Exit.inBlock,Exit.then])
         refine CV (g:=w.heap.size) (m:=AK) rfl (by rfl) (by rfl) (KW KR6) ?_;exact⟨KX (qL _) OA6,AK,4,rfl,EA _,fun a ha=>by simp[AK] at ha,fun a ha=>by simp[AK] at ha,hfin.out AK 4 (by simp)⟩
     ·have hE2:(E !=0)=true:=by simpa using hE
      replace hfs:=AB hfs;obtain⟨g0,f0,g1,f1,g2,f2,g3,f3,g4,f4,g5,f5,g6,f6,g7,f7,g8,f8,g9,f9⟩:=qZ K4;go_wp2_with fail
      (try simp only[Exit.inBlock,Exit.then])
      refine CV (g:=w.heap.size) (m:=AK) rfl (by rfl) (by rfl) (KW K4) ?_;refine⟨KX (qL _) OA4,AK,E,rfl,EA _,fun a ha=>by simp[AK] at ha,fun a ha=>by simp[AK] at ha,?_⟩;show(match BX k with|none=>_|some js=>_);rw[hr.out];show if(AR (1::js.map pk) (k::t)).1≠0 then _ else _
      rw[hks.out,hres.out,if_pos hE];exact⟨rfl,rfl⟩
def cpM (m x:MD) (j:Nat):MD:=match j with
 |0=>{ x with code:=m.code }
 |1=>{ x with dA:=m.dA,dc:=m.dc,data:=m.data }
 |2=>{ x with lang:=m.lang }
 |3=>{ x with name:=m.name }
 |4=>{ x with want:=m.want }
 |5=>{ x with dA:=m.dA,dc:=m.dc,data:=m.data }
 |6=>{ x with sender:=m.sender }
 |7=>{ x with window:=m.window }
 |8=>{ x with packet:=m.packet }
 |_=>{ x with chan:=m.chan }
def DV (m:MD):MD:=match BX m.kind with
 |none=>AF m.kind
 |some js=>js.foldl (cpM m) (AF m.kind)
structure SameM (a b : MD) : Prop where
  kind : b.kind = a.kind
  chan : b.chan = a.chan
  sender : b.sender = a.sender
  window : b.window = a.window
  packet : b.packet = a.packet
  code : b.code = a.code
  name : b.name = a.name
  lang : b.lang = a.lang
  want : b.want = a.want
  data : b.data = a.data
theorem SameM.refl (a:MD):SameM a a:=⟨rfl,rfl,rfl,rfl,rfl,rfl,rfl,rfl,rfl,rfl⟩
theorem bT (s:ByteArray):strOfNums (LN s)=s:=LX (str_u8i _)
theorem put_cp {m x y:MD} {f:FD} (j:Nat) (h:SameM x y) (hp:f.pf=AP m j):SameM (putM x j f) (cpM m y j):=by
 have hn:f.n=(AP m j).n:=by rw[<-hp];rfl
 have ht:f.text=(AP m j).text:=by rw[<-hp];rfl
 clear hp;match j,hn,ht with
 |0,hn,_=>exact { h with code:=hn.symm }
 |1,_,ht=>exact { h with data:=ht.symm }
 |2,_,ht=>exact { h with lang:=by show m.lang=strOfNums f.text;rw[ht];exact(bT m.lang).symm }
 |3,_,ht=>exact { h with name:=by show m.name=strOfNums f.text;rw[ht];exact(bT m.name).symm }
 |4,hn,_=>exact { h with want:=by show m.want=(f.n==1);rw[hn];show m.want=((if m.want then(1:Int) else 0)==1);cases m.want<;>rfl }
 |5,_,ht=>exact { h with data:=ht.symm }
 |6,hn,_=>exact { h with sender:=hn.symm }
 |7,hn,_=>exact { h with window:=hn.symm }
 |8,hn,_=>exact { h with packet:=hn.symm }
 |n+9,hn,_=>exact { h with chan:=hn.symm }
theorem all_cp {m:MD}: ∀(js:List Nat) (fs:List FD) (x y:MD),SameM x y->fs.map FD.pf=js.map (AP m)->SameM (AQ x js fs) (js.foldl (cpM m) y)
 |[],[],x,y,h,_=>h
 |[],f::fs,x,y,_,hp=>by simp at hp
 |j::js,[],x,y,_,hp=>by simp at hp
 |j::js,f::fs,x,y,h,hp=>by
  rw[List.map_cons,List.map_cons] at hp;injection hp with h1 h2;exact all_cp js fs _ _ (put_cp j h h1) h2
theorem pk_part (m:MD) (j:Nat):(AP m j).kind=pk j:=by
 match j with
 |0|1|2|3|4|5|6|7|8=>rfl
 |n+9=>rfl
theorem own_part (m:MD) (j:Nat):MF (AP m j)=AP m j:=by
 match j with
 |0|1|2|3|4|5|6|7|8=>rfl
 |n+9=>rfl
theorem part_n {m:MD} (h:U32 m.chan/\U32 m.sender/\U32 m.window/\U32 m.packet/\U32 m.code) (j:Nat):0<=(AP m j).n/\(AP m j).n<=4294967295:=by
 obtain⟨n1,n2,n3,n4,n5⟩:=h;match j with
 |0=>exact n5
 |1|2|3|5=>exact⟨Int.le_refl 0,show(0:Int)<=4294967295 by decide⟩
 |4=>show 0<=(if m.want then(1:Int) else 0)/\(if m.want then(1:Int) else 0)<=4294967295;split<;>omega
 |6=>exact n2
 |7=>exact n3
 |8=>exact n4
 |n+9=>exact n1
def apart (i j:Nat):Bool:=decide (i≠j) && !(decide (i=1)&&decide (j=5)) && !(decide (i=5)&&decide (j=1))&&decide (i<=9)&&decide (j<=9)
theorem OD {s:ByteArray} {n:Nat} (h:FC s n=true):s.size<=64:=by
 unfold FC at h;simp only[Bool.and_eq_true,decide_eq_true_eq] at h;exact h.1.2
theorem BR {s:ByteArray} (h:(⟨#[]⟩:ByteArray)=s):s.size<=64:=by
 rw[<-h];exact qO _
structure RowIs (k : Int) (js : List Nat) : Prop where
  range : 1 <= k /\ k <= 100
  ok : GS (1 :: js.map pk) = true
  apart : js.Pairwise fun i j => apart i j = true
  short : (k = 80 \/ k = 81 \/ k = 90 \/ k = 91 \/ k = 98) \/ ∀ j ∈ js, pk j = 1 \/ pk j = 2 \/ pk j = 3 \/ pk j = 4
  one : (AR (1 :: js.map pk) [k]).1 ≠ 8
  fits : ∀ m : MD, m.kind = k -> BW (js.foldl (cpM m) (AF k)) = BW m
  known : k = 1 \/ (80 <= k /\ k <= 82) \/ (90 <= k /\ k <= 100)
  small : ∀ m : MD, m.kind = k -> BW m = true -> (js.foldl (cpM m) (AF k)).name = m.name -> (js.foldl (cpM m) (AF k)).lang = m.lang -> m.name.size <= 64 /\ m.lang.size <= 64
theorem YE {k:Int} {js:List Nat} (h:BX k=some js):RowIs k js:=by
 by_cases h1:k=1
 ·subst h1;obtain rfl:[0,1,2]=js:=Option.some.inj h;exact⟨by decide,by decide,by decide,.inr (by decide),by decide,fun m hm=>by obtain⟨kind,chan,sender,window,packet,code,name,lang,want,dA,dc,data⟩:=m;dsimp only at hm;subst hm;rfl,by decide,fun m hm hf hn hl=>by obtain⟨kind,chan,sender,window,packet,code,name,lang,want,dA,dc,data⟩:=m;dsimp only at hm;subst hm;exact⟨BR hn,OD (n:=0) hf⟩⟩
 by_cases h80:k=80
 ·subst h80;obtain rfl:[3,4,5]=js:=Option.some.inj h;exact⟨by decide,by decide,by decide,.inl (by decide),by decide,fun m hm=>by obtain⟨kind,chan,sender,window,packet,code,name,lang,want,dA,dc,data⟩:=m;dsimp only at hm;subst hm;rfl,by decide,fun m hm hf hn hl=>by obtain⟨kind,chan,sender,window,packet,code,name,lang,want,dA,dc,data⟩:=m;dsimp only at hm;subst hm;exact⟨OD (n:=1) hf,BR hl⟩⟩
 by_cases h81:k=81
 ·subst h81;obtain rfl:[5]=js:=Option.some.inj h;exact⟨by decide,by decide,by decide,.inl (by decide),by decide,fun m hm=>by obtain⟨kind,chan,sender,window,packet,code,name,lang,want,dA,dc,data⟩:=m;dsimp only at hm;subst hm;rfl,by decide,fun m hm hf hn hl=>by obtain⟨kind,chan,sender,window,packet,code,name,lang,want,dA,dc,data⟩:=m;dsimp only at hm;subst hm;exact⟨BR hn,BR hl⟩⟩
 by_cases h82:k=82
 ·subst h82;obtain rfl:([]:List Nat)=js:=Option.some.inj h;exact⟨by decide,by decide,by decide,.inr (by decide),by decide,fun m hm=>by obtain⟨kind,chan,sender,window,packet,code,name,lang,want,dA,dc,data⟩:=m;dsimp only at hm;subst hm;rfl,by decide,fun m hm hf hn hl=>by obtain⟨kind,chan,sender,window,packet,code,name,lang,want,dA,dc,data⟩:=m;dsimp only at hm;subst hm;exact⟨BR hn,BR hl⟩⟩
 by_cases h90:k=90
 ·subst h90;obtain rfl:[3,6,7,8,5]=js:=Option.some.inj h;exact⟨by decide,by decide,by decide,.inl (by decide),by decide,fun m hm=>by obtain⟨kind,chan,sender,window,packet,code,name,lang,want,dA,dc,data⟩:=m;dsimp only at hm;subst hm;rfl,by decide,fun m hm hf hn hl=>by obtain⟨kind,chan,sender,window,packet,code,name,lang,want,dA,dc,data⟩:=m;dsimp only at hm;subst hm;exact⟨OD (n:=1) hf,BR hl⟩⟩
 by_cases h91:k=91
 ·subst h91;obtain rfl:[9,6,7,8,5]=js:=Option.some.inj h;exact⟨by decide,by decide,by decide,.inl (by decide),by decide,fun m hm=>by obtain⟨kind,chan,sender,window,packet,code,name,lang,want,dA,dc,data⟩:=m;dsimp only at hm;subst hm;rfl,by decide,fun m hm hf hn hl=>by obtain⟨kind,chan,sender,window,packet,code,name,lang,want,dA,dc,data⟩:=m;dsimp only at hm;subst hm;exact⟨BR hn,BR hl⟩⟩
 by_cases h92:k=92
 ·subst h92;obtain rfl:[9,0,1,2]=js:=Option.some.inj h;exact⟨by decide,by decide,by decide,.inr (by decide),by decide,fun m hm=>by obtain⟨kind,chan,sender,window,packet,code,name,lang,want,dA,dc,data⟩:=m;dsimp only at hm;subst hm;rfl,by decide,fun m hm hf hn hl=>by obtain⟨kind,chan,sender,window,packet,code,name,lang,want,dA,dc,data⟩:=m;dsimp only at hm;subst hm;exact⟨BR hn,OD (n:=0) hf⟩⟩
 by_cases h93:k=93
 ·subst h93;obtain rfl:[9,7]=js:=Option.some.inj h;exact⟨by decide,by decide,by decide,.inr (by decide),by decide,fun m hm=>by obtain⟨kind,chan,sender,window,packet,code,name,lang,want,dA,dc,data⟩:=m;dsimp only at hm;subst hm;rfl,by decide,fun m hm hf hn hl=>by obtain⟨kind,chan,sender,window,packet,code,name,lang,want,dA,dc,data⟩:=m;dsimp only at hm;subst hm;exact⟨BR hn,BR hl⟩⟩
 by_cases h94:k=94
 ·subst h94;obtain rfl:[9,1]=js:=Option.some.inj h;exact⟨by decide,by decide,by decide,.inr (by decide),by decide,fun m hm=>by obtain⟨kind,chan,sender,window,packet,code,name,lang,want,dA,dc,data⟩:=m;dsimp only at hm;subst hm;rfl,by decide,fun m hm hf hn hl=>by obtain⟨kind,chan,sender,window,packet,code,name,lang,want,dA,dc,data⟩:=m;dsimp only at hm;subst hm;exact⟨BR hn,BR hl⟩⟩
 by_cases h95:k=95
 ·subst h95;obtain rfl:[9,0,1]=js:=Option.some.inj h;exact⟨by decide,by decide,by decide,.inr (by decide),by decide,fun m hm=>by obtain⟨kind,chan,sender,window,packet,code,name,lang,want,dA,dc,data⟩:=m;dsimp only at hm;subst hm;rfl,by decide,fun m hm hf hn hl=>by obtain⟨kind,chan,sender,window,packet,code,name,lang,want,dA,dc,data⟩:=m;dsimp only at hm;subst hm;exact⟨BR hn,BR hl⟩⟩
 by_cases h96:k=96
 ·subst h96;obtain rfl:[9]=js:=Option.some.inj h;exact⟨by decide,by decide,by decide,.inr (by decide),by decide,fun m hm=>by obtain⟨kind,chan,sender,window,packet,code,name,lang,want,dA,dc,data⟩:=m;dsimp only at hm;subst hm;rfl,by decide,fun m hm hf hn hl=>by obtain⟨kind,chan,sender,window,packet,code,name,lang,want,dA,dc,data⟩:=m;dsimp only at hm;subst hm;exact⟨BR hn,BR hl⟩⟩
 by_cases h97:k=97
 ·subst h97;obtain rfl:[9]=js:=Option.some.inj h;exact⟨by decide,by decide,by decide,.inr (by decide),by decide,fun m hm=>by obtain⟨kind,chan,sender,window,packet,code,name,lang,want,dA,dc,data⟩:=m;dsimp only at hm;subst hm;rfl,by decide,fun m hm hf hn hl=>by obtain⟨kind,chan,sender,window,packet,code,name,lang,want,dA,dc,data⟩:=m;dsimp only at hm;subst hm;exact⟨BR hn,BR hl⟩⟩
 by_cases h99:k=99
 ·subst h99;obtain rfl:[9]=js:=Option.some.inj h;exact⟨by decide,by decide,by decide,.inr (by decide),by decide,fun m hm=>by obtain⟨kind,chan,sender,window,packet,code,name,lang,want,dA,dc,data⟩:=m;dsimp only at hm;subst hm;rfl,by decide,fun m hm hf hn hl=>by obtain⟨kind,chan,sender,window,packet,code,name,lang,want,dA,dc,data⟩:=m;dsimp only at hm;subst hm;exact⟨BR hn,BR hl⟩⟩
 by_cases h100:k=100
 ·subst h100;obtain rfl:[9]=js:=Option.some.inj h;exact⟨by decide,by decide,by decide,.inr (by decide),by decide,fun m hm=>by obtain⟨kind,chan,sender,window,packet,code,name,lang,want,dA,dc,data⟩:=m;dsimp only at hm;subst hm;rfl,by decide,fun m hm hf hn hl=>by obtain⟨kind,chan,sender,window,packet,code,name,lang,want,dA,dc,data⟩:=m;dsimp only at hm;subst hm;exact⟨BR hn,BR hl⟩⟩
 by_cases h98:k=98
 ·subst h98;obtain rfl:[9,3,4,5]=js:=Option.some.inj h;exact⟨by decide,by decide,by decide,.inl (by decide),by decide,fun m hm=>by obtain⟨kind,chan,sender,window,packet,code,name,lang,want,dA,dc,data⟩:=m;dsimp only at hm;subst hm;rfl,by decide,fun m hm hf hn hl=>by obtain⟨kind,chan,sender,window,packet,code,name,lang,want,dA,dc,data⟩:=m;dsimp only at hm;subst hm;exact⟨OD (n:=1) hf,BR hl⟩⟩
 unfold BX at h;simp[*] at h
theorem fits_same {a b:MD} (h:SameM a b):BW b=BW a:=by
 unfold BW;rw[h.kind,h.name,h.lang]
theorem fits_own {m:MD} {js:List Nat} (h:BX m.kind=some js):BW (DV m)=BW m:=by
 unfold DV;rw[h];exact(YE h).fits m rfl
theorem QB {m:MD} (hz:(BZ m).1=0): ∃js,BX m.kind=some js/\BW m=true/\OkP (⟨1,m.kind,[],[]⟩::js.map (AP m))/\(BZ m).2=m.kind::(js.map (AP m)).flatMap AM:=by
 unfold BZ at hz⊢;cases hr:BX m.kind with
 |none=>rw[hr] at hz;cases hz
 |some js=>
  rw[hr] at hz;dsimp only at hz⊢;by_cases hf:BW m=true
  ·rw[if_pos hf] at hz⊢;by_cases h:OkP (⟨1,m.kind,[],[]⟩::js.map (AP m))
   ·refine⟨js,rfl,hf,h,?_⟩;rw[KC h,qG,KF];have:=(YE hr).range;rw[show m.kind % 256=m.kind by omega];rfl
   ·obtain⟨e,he,h2⟩:=KV h;rw[h2] at hz;exact absurd hz he
  ·rw[if_neg hf] at hz;cases hz
theorem enc_bad {m:MD} (hz:(BZ m).1≠0):(BZ m).2=[]:=by
 unfold BZ at hz⊢;cases hr:BX m.kind with
 |none=>rfl
 |some js=>
  rw[hr] at hz;dsimp only at hz⊢;split at hz
  ·rename_i hf;rw[if_pos hf];by_cases h:OkP (⟨1,m.kind,[],[]⟩::js.map (AP m))
   ·rw[KC h] at hz;exact absurd rfl hz
   ·obtain⟨e,he,h2⟩:=KV h;rw[h2]
  ·rename_i hf;rw[if_neg hf]
theorem kF (m:MD) (js:List Nat):(⟨1,m.kind,[],[]⟩::js.map (AP m):List PF).map (·.kind)=1::js.map pk:=by
 rw[List.map_cons,List.map_map];congr 1
 exact List.map_congr_left (fun j _=>pk_part m j)
theorem part_own (m:MD) (js:List Nat):(⟨1,m.kind,[],[]⟩::js.map (AP m):List PF).map MF=⟨1,m.kind,[],[]⟩::js.map (AP m):=by
 rw[List.map_cons,List.map_map];congr 1
 exact List.map_congr_left (fun j _=>own_part m j)
theorem enc_read {m:MD} {js:List Nat} (hr:BX m.kind=some js) (hn:U32 m.chan/\U32 m.sender/\U32 m.window/\U32 m.packet/\U32 m.code) (h:OkP (⟨1,m.kind,[],[]⟩::js.map (AP m))) :
  AR (1::js.map pk) (m.kind::(js.map (AP m)).flatMap AM)=(0,⟨1,m.kind,[],[]⟩::js.map (AP m)):=by
 have hk:=(YE hr).range;have hb:=back_law _ h (fun p hp=>by
  rcases qC.1 hp with rfl|hp;·exact⟨by dsimp only;omega,by dsimp only;omega⟩
  ·obtain⟨j,_,rfl⟩:=List.mem_map.1 hp;exact part_n hn j)
 rw[kF,part_own,qG,KF,show m.kind % 256=m.kind by omega] at hb;exact hb
def IT (l:List Int) (m:MD) (E:Int):Prop:=
 match l with
 |[]=>E=3/\m=AK
 |k::_=>match BX k with
  |none=>E=8/\m=AK
  |some js=>if(AR (1::js.map pk) l).1≠0 then E=(AR (1::js.map pk) l).1/\m=AK
   else∃fs:List FD,fs.map FD.pf=(AR (1::js.map pk) l).2/\if BW (AQ (AF k) js fs.tail) then E=0/\m=AQ (AF k) js fs.tail else E=4/\m=AK
theorem dec_bad {l:List Int} {m:MD} {E:Int} (h:IT l m E) (hE:E≠0):m=AK:=by
 unfold IT at h;split at h;·exact h.2
 ·split at h;·exact h.2
  ·split at h;·exact h.2
   ·obtain⟨fs,_,h⟩:=h;split at h;·exact absurd h.1 hE
    ·exact h.2
theorem aQ {m x:MD} {E:Int} (hn:U32 m.chan/\U32 m.sender/\U32 m.window/\U32 m.packet/\U32 m.code) (hz:(BZ m).1=0) (h:IT (BZ m).2 x E) :
  E=0/\SameM x (DV m)/\(BZ m).2.length<=33792/\∃t,(BZ m).2=m.kind::t:=by
 obtain⟨js,hr,hf,ho,he⟩:=QB hz;have hlen:(BZ m).2.length<=33792:=by
  have:=ho.2.2;rw[qG,KF,zE] at this;rw[he,List.length_cons];simp only[List.length_cons,List.length_nil] at this;omega
 rw[he] at h;unfold IT at h;dsimp only at h;rw[hr] at h;dsimp only at h;rw[enc_read hr hn ho,if_neg (by simp)] at h;obtain⟨fs,h1,h⟩:=h;have h2:fs.tail.map FD.pf=js.map (AP m):=by
  rw[List.map_tail,h1];rfl
 have hs:=all_cp (m:=m) js fs.tail (AF m.kind) (AF m.kind) (SameM.refl _) h2;have hs2:SameM (AQ (AF m.kind) js fs.tail) (DV m):=by
  unfold DV;rw[hr];exact hs
 rw[if_pos (by rw[<-fits_same hs2,fits_own hr];exact hf)] at h;refine⟨h.1,?_,hlen,_,he⟩;rw[h.2];exact hs2
theorem gJ (k:Nat) (h1:1<=k) (h6:k<=6) (l:List Int):MF ⟨k,(BC k l).n,(BC k l).text,(BC k l).list⟩=⟨k,(BC k l).n,(BC k l).text,(BC k l).list⟩:=by
 have ho:(CM l).text=[]/\(CM l).list=[]:=by unfold CM DN;split<;>exact⟨rfl,rfl⟩
 have hN:(CR l).text=[]/\(CR l).list=[]:=by unfold CR DN;split<;>exact⟨rfl,rfl⟩
 have hT:=QK l;have hL:(EC l).text=[]/\(EC l).n=0:=by unfold EC GE;split;exact⟨rfl,rfl⟩;split<;>exact⟨rfl,rfl⟩
 have hk:k=1\/k=2\/k=3\/k=4\/k=5\/k=6:=by omega
 rcases hk with rfl|rfl|rfl|rfl|rfl|rfl;·rw[VT,ho.1,ho.2];rfl
 ·rw[VU,show(OE l).text=(CM l).text from rfl,show(OE l).list=(CM l).list from rfl,ho.1,ho.2];rfl
 ·rw[VV,hN.1,hN.2];rfl
 ·rw[VW,hT.2.1,hT.2.2];rfl
 ·rw[VX,hL.1,hL.2];rfl
 ·rw[VY];rfl
theorem OJ: ∀(ks l:List Int) (acc:List PF),(∀k∈ks,1<=k/\k<=6)->(∀p∈acc,MF p=p)->∀p∈(AY ks l acc).2,MF p=p
 |[],l,acc,_,ha=>by
  unfold AY;split;·exact fun p hp=>by simp at hp
  ·exact ha
 |k::ks,l,acc,hk,ha=>by
  have h16:=hk k (by simp);obtain⟨j,rfl⟩:=Int.eq_ofNat_of_zero_le (show 0<=k by omega);unfold AY;split;·exact fun p hp=>by simp at hp
  ·refine OJ ks _ _ (fun k hk2=>hk k (by simp[hk2])) (fun p hp=>?_);rcases qK hp with hp|hp;·exact ha p hp
   ·simp only[qS] at hp;subst hp;rw[Int.toNat_natCast];exact gJ j (by omega) (by omega) l
theorem gR (ks l:List Int): ∀p∈(AR ks l).2,MF p=p:=by
 unfold AR;split
 ·rename_i hr;exact OJ ks l [] (EJ hr) (fun p hp=>by simp at hp)
 ·exact fun p hp=>by simp at hp
theorem put_self {x:MD} {f:FD} (j:Nat) (hk:f.pf.kind=pk j) (ho:MF f.pf=f.pf) (hf:AV f.pf=0) (hn:0<=f.n) (hb:InB f.text):AP (putM x j f) j=f.pf:=by
 obtain⟨fk,fn,fA,fc,ft,fB,fd,fl⟩:=f;have e:FD.pf ⟨fk,fn,fA,fc,ft,fB,fd,fl⟩=⟨fk,fn,ft,fl⟩:=rfl;rw[e] at ho hk hf⊢;dsimp only at hk hn hb;have hu:=u8i_str hb;clear e;match j,hk with
 |0,hk=>subst hk;rw[<-ho];rfl
 |1,hk=>subst hk;rw[<-ho];rfl
 |2,hk=>subst hk;rw[<-ho];show(⟨4,0,u8i (strOfNums ft).data.toList,[]⟩:PF)=_;rw[hu];rfl
 |3,hk=>subst hk;rw[<-ho];show(⟨4,0,u8i (strOfNums ft).data.toList,[]⟩:PF)=_;rw[hu];rfl
 |4,hk=>
  subst hk;rw[show AV ⟨pk 4,fn,ft,fl⟩=GQ fn 1 5 from rfl] at hf;have:=MX hf (by decide);have h01:fn=0\/fn=1:=by omega
  rw[<-ho];rcases h01 with rfl|rfl<;>rfl
 |5,hk=>subst hk;rw[<-ho];rfl
 |6,hk=>subst hk;rw[<-ho];rfl
 |7,hk=>subst hk;rw[<-ho];rfl
 |8,hk=>subst hk;rw[<-ho];rfl
 |n+9,hk=>subst hk;rw[<-ho];rfl
theorem put_stay {x:MD} {f:FD} (i j:Nat) (h:apart i j=true):AP (putM x i f) j=AP x j:=by
 unfold apart at h;simp only[Bool.and_eq_true,Bool.not_eq_true',Bool.and_eq_false_iff,decide_eq_true_eq,decide_eq_false_iff_not] at h;obtain⟨⟨⟨⟨h1,h2⟩,h3⟩,h4⟩,h5⟩:=h;have hi:i=0\/i=1\/i=2\/i=3\/i=4\/i=5\/i=6\/i=7\/i=8\/i=9:=by omega
 have hj:j=0\/j=1\/j=2\/j=3\/j=4\/j=5\/j=6\/j=7\/j=8\/j=9:=by omega
 rcases hi with rfl|rfl|rfl|rfl|rfl|rfl|rfl|rfl|rfl|rfl <;>
  rcases hj with rfl|rfl|rfl|rfl|rfl|rfl|rfl|rfl|rfl|rfl<;>first|rfl|(exfalso;omega)
theorem UV: ∀(js:List Nat) (fs:List FD) (x:MD) (j:Nat),(∀i∈js,apart i j=true)->AP (AQ x js fs) j=AP x j
 |[],fs,x,j,_=>by unfold AQ;rfl
 |i::js,[],x,j,_=>by unfold AQ;rfl
 |i::js,f::fs,x,j,h=>by
  show AP (AQ (putM x i f) js fs) j=_;rw[UV js fs _ j (fun i hi=>h i (by simp[hi])),put_stay i j (h i (by simp))]
theorem iU {i j:Nat} (h:apart i j=true):apart j i=true:=by
 unfold apart at h⊢;simp only[Bool.and_eq_true,Bool.not_eq_true',Bool.and_eq_false_iff,decide_eq_true_eq,decide_eq_false_iff_not] at h⊢;omega
theorem SB: ∀(js:List Nat) (fs:List FD) (x:MD),js.Pairwise (fun i j=>apart i j=true)->fs.map (fun f=>f.pf.kind)=js.map pk->
  (∀f∈fs,MF f.pf=f.pf/\AV f.pf=0/\0<=f.n/\InB f.text)->js.map (AP (AQ x js fs))=fs.map FD.pf
 |[],[],x,_,_,_=>rfl
 |[],f::fs,x,_,hp,_=>by simp at hp
 |j::js,[],x,_,hp,_=>by simp at hp
 |j::js,f::fs,x,ha,hp,hf=>by
  rw[List.map_cons,List.map_cons] at hp;injection hp with h1 h2;rw[List.pairwise_cons] at ha;obtain⟨f1,f2,f3,f4⟩:=hf f (by simp);show AP (AQ (putM x j f) js fs) j::js.map (AP (AQ (putM x j f) js fs))=_;rw[SB js fs _ ha.2 h2 (fun g hg=>hf g (by simp[hg])),UV js fs _ j (fun i hi=>iU (ha.1 i hi)),put_self j h1 f1 f2 f3 f4];rfl
theorem putM_kind (x:MD) (j:Nat) (f:FD):(putM x j f).kind=x.kind:=by
 unfold putM;split<;>rfl
theorem UU: ∀(js:List Nat) (fs:List FD) (x:MD),(AQ x js fs).kind=x.kind
 |[],fs,x=>by unfold AQ;rfl
 |i::js,[],x=>by unfold AQ;rfl
 |i::js,f::fs,x=>by
  show(AQ (putM x i f) js fs).kind=_;rw[UU js fs,putM_kind]
theorem jZ {l:List Int} {m:MD} (hl:InB l) (hm:l.length<=33792) (h:IT l m 0) :
  (BZ m).1=0/\(BZ m).2.length=l.length/\(∃k t u,l=k::t/\(BZ m).2=k::u)/\SameM m (DV m):=by
 unfold IT at h;split at h;·exact absurd h.1 (by decide)
 rename_i k t;split at h;·exact absurd h.1 (by decide)
 rename_i js hr;split at h
 ·rename_i h0;exact absurd h.1.symm h0
 rename_i h0;obtain⟨fs,h1,h⟩:=h;split at h
 case isFalse=>exact absurd h.1 (by decide)
 rename_i hf;have hm2:=h.2;have ri:=YE hr;have hq:=(DY (1::js.map pk) (k::t) hl (by omega)).2;have hown:=gR (1::js.map pk) (k::t);rcases again_law (1::js.map pk) (k::t) hl hm with g|⟨_,g1,g2,g3,g4⟩;·exact absurd g.1 h0
 rw[<-h1] at g1 g2 g3 g4 hq hown;cases fs with
 |nil=>simp at g1
 |cons f fs=>
  rw[List.tail_cons] at hm2 hf;rw[List.map_cons,List.map_cons] at g1;injection g1 with k1 k2;have gf: ∀g∈fs,MF g.pf=g.pf/\AV g.pf=0/\0<=g.n/\InB g.text:=fun g hg=>by
   have hy:g.pf∈List.map FD.pf (f::fs):=List.mem_map_of_mem (List.mem_cons_of_mem _ hg);exact⟨hown _ hy,(g3 _ hy).2.2.1,(g3 _ hy).2.2.2.1,(hq _ hy).2⟩
  have hparts:=SB js fs (AF k) ri.apart (by rw[List.map_map] at k2;exact k2) gf;rw[<-hm2] at hparts hf;have hkind:m.kind=k:=by rw[hm2,UU];rfl
  have hfirst:f.pf=⟨1,k,[],[]⟩:=by
   obtain⟨pre,rest,e1,e2,_⟩:=g4;have z:=hown f.pf (by simp);have q:=(g3 f.pf (by simp));obtain⟨fk,fn,fA,fc,ft,fB,fd,fl⟩:=f;have e:FD.pf ⟨fk,fn,fA,fc,ft,fB,fd,fl⟩=⟨fk,fn,ft,fl⟩:=rfl;rw[e] at z q k1 e2⊢;dsimp only at k1;subst k1;unfold UH at e2;rw[if_neg (show¬(1:Int)=2 by decide),KF] at e2;have hfa:=MX (show GQ fn 255 5=0 from q.2.2.1) (by decide);have h00:=q.2.2.2.1;dsimp only at h00;rw[<-e2] at e1;injection e1 with e1 _;rw[<-z];show(⟨1,fn,[],[]⟩:PF)=_;rw[show fn=k by omega]
  have he:BZ m=(0,(⟨1,k,[],[]⟩::js.map (AP m):List PF).flatMap AM):=by
   unfold BZ;rw[hkind,hr];dsimp only;rw[if_pos hf];refine KC ?_;rw[hparts,<-hfirst];exact g2
  have hs:SameM m (DV m):=by
   have:=all_cp (m:=m) js fs (AF k) (AF k) (SameM.refl _) hparts.symm;rw[<-hm2] at this;unfold DV;rw[hkind,hr];exact this
  refine⟨by rw[he],?_,⟨k,t,(js.map (AP m)).flatMap AM,rfl,?_⟩,hs⟩
  ·rw[he,hparts,<-hfirst];exact g4.len
  ·have:=ri.range;rw[he,qG,KF,show k % 256=k by omega];rfl
theorem part_inb {m:MD} (h: ∀x∈m.data,0<=x/\x<256) (j:Nat):InB (AP m j).text:=by
 have z:InB []:=fun x hx=>by simp at hx
 match j with
 |0|4|6|7|8=>exact z
 |1|5=>exact h
 |2|3=>exact UD _
 |n+9=>exact z
def U5 (m:MD):Prop:=U32 m.chan/\U32 m.sender/\U32 m.window/\U32 m.packet/\U32 m.code
theorem NS {m:MD} (hz:(BZ m).1=0):1<=(BZ m).2.length/\(BZ m).2.length<=33792/\∃t,(BZ m).2=m.kind::t:=by
 obtain⟨js,hr,hf,ho,he⟩:=QB hz;have:=ho.2.2;rw[qG,KF,zE] at this;refine⟨by rw[he,List.length_cons];omega,?_,_,he⟩;rw[he,List.length_cons];simp only[List.length_cons,List.length_nil] at this;omega
theorem fits_of {n:Nat} (h1:1<=n) (h2:n<=33792):EI (n:Int)=true:=by
 unfold EI;rw[decide_eq_true (by omega),decide_eq_true (by omega)];rfl
theorem NZ {m:MD} (hz:(BZ m).1=0):BB m=JQ (BZ m).2.length++(BZ m).2:=by
 obtain⟨h1,h2,_⟩:=NS hz;unfold BB;rw[if_neg (by simp[hz]),if_pos (fits_of h1 h2)]
theorem SA {m:MD} (hz:(BZ m).1≠0):BB m=[]:=by unfold BB;rw[if_pos hz]
theorem MZ (m:MD):(BB m).length<=33796:=by
 by_cases hz:(BZ m).1=0
 ·rw[NZ hz,zE];have:=(NS hz).2.1;simp only[JQ,List.length_cons,List.length_nil];omega
 ·rw[SA hz];simp
theorem be4_len4 {n:Nat} (h:n<4294967296) (l:List Int):be4 (JQ n++l)=n:=by
 show be4 ((n/16777216 % 256:Nat)::(n/65536 % 256:Nat)::(n/256 % 256:Nat)::((n % 256:Nat):Int)::l)=n;rw[WI];omega
def CI (l:List MD):List MD:=l.filter fun m=>decide ((BZ m).1=0)
theorem JW: ∀l:List MD,(CI l).flatMap BB=l.flatMap BB
 |[]=>rfl
 |m::l=>by
  unfold CI;rw[List.filter_cons];split
  ·rw[qG,qG];exact congrArg _ (JW l)
  ·rename_i h;rw[qG,SA (by simpa using h)];exact JW l
theorem aF: ∀(l:List MD) (k:Nat),l.length<k->(∀m∈l,(BZ m).1=0)->BP k (l.flatMap BB)=(l.map fun m=>(BZ m).2,some [])
 |[],k+1,_,_=>by simp[BP]
 |m::l,k+1,hk,hz=>by
  have h0:=hz m (by simp);obtain⟨h1,h2,_⟩:=NS h0;obtain⟨e,he⟩:=qX ((BZ m).2);have hp:=NZ h0;rw[he] at h1 h2 hp;rw[qG,hp,List.append_assoc];have hb:=be4_len4 (n:=e.length) (by omega) (e++l.flatMap BB);have hl:(JQ e.length++(e++l.flatMap BB)).length=4+(e.length+(l.flatMap BB).length):=by rw[zE,zE];rfl
  unfold BP;rw[hb,hl,if_neg (by omega),if_neg (by rw[fits_of h1 h2];decide),if_neg (by omega)];have d1:(JQ e.length++(e++l.flatMap BB)).drop 4=e++l.flatMap BB:=rfl;have d2:(JQ e.length++(e++l.flatMap BB)).drop (4+((e.length:Int)).toNat)=l.flatMap BB:=by
   rw[<-List.drop_drop,d1,Int.toNat_natCast,List.drop_left]
  rw[d1,d2,aF l k (by simp at hk;omega) (fun x hx=>hz x (by simp[hx])),Int.toNat_natCast,List.take_left,List.map_cons,he]
theorem OC: ∀l:List MD,(∀m∈l,(BZ m).1=0)->l.length<=(l.flatMap BB).length
 |[],_=>by simp
 |m::l,hz=>by
  have:=OC l fun x hx=>hz x (by simp[hx]);rw[qG,zE,NZ (hz m (by simp)),zE,List.length_cons];simp only[JQ,List.length_cons,List.length_nil];omega
theorem aG (l:List MD):BP ((l.flatMap BB).length+1) (l.flatMap BB)=((CI l).map fun m=>(BZ m).2,some []):=by
 have hg: ∀m∈CI l,(BZ m).1=0:=fun m hm=>by simpa[CI] using(List.mem_filter.1 hm).2
 have hl:=OC (CI l) hg;have:=aF (CI l) ((l.flatMap BB).length+1) (by rw[JW] at hl;omega) hg;rw[JW] at this;exact this
/-! What is done with a channel that is up. -/
def AW (C:CS) (i:Nat) (f:CS->HS->(CS×HS)×Int):CS×List Int×Int:=match C.xs[i]? with
 |none=>(C,[],8)
 |some x=>if(BO C || !(decide (x.st=2))||x.clo)=true then(C,[],9) else
  if(f C x).2≠0 then({ (f C x).1.1 with xs:=C.xs.set i (f C x).1.2 },[],(f C x).2) else({ (f C x).1.1 with xs:=C.xs.set i (f C x).1.2,said:=[] },(f C x).1.1.said,0)
def JA (C:CS) (x:HS):(CS×HS)×Int:=if x.eof then((C,x),9) else((FP C (mK 96 x.server),{ x with eof:=true }),0)
def EM (C:CS) (x:HS):(CS×HS)×Int:=((FP C (mK 97 x.server),{ x with clo:=true }),0)
def mA (chan:Int) (name:ByteArray) (A:Option Addr) (c:Nat) (d:List Int):MD:=⟨98,chan,0,0,0,0,name,⟨#[]⟩,true,A,c,d⟩
def mD (chan:Int) (A:Option Addr) (c:Nat) (d:List Int):MD:=⟨94,chan,0,0,0,0,⟨#[]⟩,⟨#[]⟩,false,A,c,d⟩
def mW (chan win:Int):MD:=⟨93,chan,0,win,0,0,⟨#[]⟩,⟨#[]⟩,false,none,0,[]⟩
def mO (n win pk:Int):MD:=⟨90,0,n,win,pk,0,⟨#[115,101,115,115,105,111,110]⟩,⟨#[]⟩,false,none,0,[]⟩
def IX (e:Int) (name:ByteArray) (d:List Int) (C:CS) (x:HS):(CS×HS)×Int:=if e=0 then((FP C (mA x.server name none 0 d),x),0) else((C,x),e)
def DM:Nat->CS->HS->List Int->(CS×HS)×List Int
 |0,C,x,b=>((C,x),b)
 |f+1,C,x,b=>if JB x.oL x.oP b.length>0 then DM f (FP C (mD x.server none 0 (b.take (JB x.oL x.oP b.length).toNat))) { x with oL:=(GT x.oL x.oP (JB x.oL x.oP b.length)).1 } (b.drop (JB x.oL x.oP b.length).toNat) else((C,x),b)
def ET (b:List Int) (C:CS) (x:HS):(CS×HS)×Int:=if x.eof then((C,x),9) else((DM (b.length+1) C x b).1,0)
def GZ (C:CS) (i:Nat) (b:List Int):Nat:=match C.xs[i]? with
 |none=>0
 |some x=>if(BO C || !(decide (x.st=2))||x.clo||x.eof)=true then 0 else b.length-(DM (b.length+1) C x b).2.length
def DS (C:CS):CS×Int×List Int×Int:=if BO C then(C,0,[],9) else if C.xs.length=64 then(C,0,[],6) else
 ({ FP C (mO C.xs.length C.grant C.packet) with xs:=C.xs++[⟨1,0,0,0,C.grant,C.grant,[],[],[],⟨0,⟨#[]⟩,⟨#[]⟩,⟨#[]⟩,0,0,0,0,none,0,[],false,0⟩,false,false,false⟩],said:=[] },C.xs.length,BN C.said (mO C.xs.length C.grant C.packet),0)
/-! What comes. -/
def comK (k:Int):Bool:=k==91||k==92||k==93||k==94||k==95||k==97||k==98||k==99||k==100
def GB (C:CS) (x:HS) (m:MD) (r:RQ):(CS×HS)×Int:=
 if m.kind=91 then((C,{ x with st:=2,server:=m.sender,oL:=m.window,oP:=m.packet }),0)
 else if m.kind=92 then((C,{ x with st:=3 }),0)
 else if m.kind=93 then((C,{ x with oL:=(GX x.oL m.window).1 }),(GX x.oL m.window).2)
 else if m.kind=94 then((C,{ x with iL:=(GC x.iL m.data.length).1,l0:=if(GC x.iL m.data.length).2=0 then x.l0++m.data else x.l0 }),(GC x.iL m.data.length).2)
 else if m.kind=95 then((C,{ x with iL:=(GC x.iL m.data.length).1,l1:=if(GC x.iL m.data.length).2=0 then x.l1++m.data else x.l1 }),(GC x.iL m.data.length).2)
 else if m.kind=97 then((if x.clo then C else FP C (mK 97 x.server),{ x with clo:=true,st:=4 }),0)
 else if m.kind=98 then((C,{ x with ex:=r,told:=true }),0)
 else((C,{ x with al:=x.al++[decide (m.kind=99)] }),0)
noncomputable def takesF (C:CS) (m:MD) (r:RQ):CS×Int:=if(AJ C.S m (okEx m)).2≠0 then({ C with S:=(AJ C.S m (okEx m)).1 },(AJ C.S m (okEx m)).2) else
 match C.xs[m.chan.toNat]? with
 |none=>({ C with S:=(AJ C.S m (okEx m)).1 },0)
 |some x=>if comK m.kind=false then({ C with S:=(AJ C.S m (okEx m)).1 },0) else
  ({ (GB { C with S:=(AJ C.S m (okEx m)).1 } x m r).1.1 with xs:=C.xs.set m.chan.toNat (GB { C with S:=(AJ C.S m (okEx m)).1 } x m r).1.2 },(GB { C with S:=(AJ C.S m (okEx m)).1 } x m r).2)
def LZ (C:CS) (b:List Int):CS×List (List Int)×Bool:=match BP ((C.buf++b).length+1) (C.buf++b) with
 |(ps,none)=>({ C with buf:=[],bad:=true },ps,false)
 |(ps,some r)=>({ C with buf:=r,bad:=false },ps,true)
def MJ (most:Int) (n:Nat):Nat:=(ma0 (mi (n:Int) most)).toNat
def CH (C:CS) (i:Nat) (most:Int) (on:Bool):CS×List Int×List Int:=match C.xs[i]? with
 |none=>(C,[],[])
 |some x=>
  let l:=if on then x.l1 else x.l0
  let k:=MJ most l.length
  let x1:HS:=if on then { x with l1:=l.drop k } else { x with l0:=l.drop k }
  if(BO C || !(decide (x.st=2))||x.clo)=true then({ C with xs:=C.xs.set i x1 },l.take k,[]) else
  let f:=CU x1.iL x1.iM (x1.l0.length+x1.l1.length)
  if f.2>0 then({ FP C (mW x1.server f.2) with xs:=C.xs.set i { x1 with iL:=f.1 },said:=[] },l.take k,BN C.said (mW x1.server f.2)) else({ C with xs:=C.xs.set i x1,said:=[] },l.take k,C.said)
/-! What stays in bounds. -/
structure WOk (N : Nat) (S : WS) : Prop where
  op : ∀ p ∈ S.opens, (∀ y ∈ p.2, U32 y.1 /\ U32 y.2) /\ p.2.length <= N
  en : ∀ p ∈ S.ends, U32 p.2.packet
structure HOk (N : Nat) (x : HS) : Prop where
  n : U32 x.server /\ U32 x.oL /\ U32 x.oP /\ U32 x.iL /\ U32 x.iM
  l : x.l0.length <= N /\ x.l1.length <= N /\ x.al.length <= N
structure COk (N : Nat) (C : CS) : Prop where
  w : WOk N C.S
  n : U32 C.grant /\ U32 C.packet
  xs : ∀ x ∈ C.xs, HOk N x
  m : C.xs.length <= 64
  b : C.buf.length <= N /\ InB C.buf
theorem OW {S:WS} {n k:Int} {x:EN} (h:byS S n=some (k,x)):AH k S.ends=some x:=by
 unfold byS at h;split at h;·cases h
 ·rename_i k' _;cases e:AH k' S.ends with
  |none=>rw[e] at h;cases h
  |some y=>
   rw[e] at h;injection h with h;injection h with h1 h2;subst h1;subst h2;exact e
theorem wok_says {N:Nat} {S:WS} (h:WOk N S) {m:MD} (hw:U32 m.window) (hp:U32 m.packet):WOk (N+1) (FS S m):=by
 have up:WOk (N+1) S:=⟨fun p hp=>⟨(h.op p hp).1,by have:=(h.op p hp).2;omega⟩,h.en⟩;unfold FS;split
 ·refine⟨fun p hp2=>?_,h.en⟩;rcases GO hp2 with rfl|hp2
  ·dsimp only;have hl: ∀y∈(AH m.sender S.opens).getD [],U32 y.1/\U32 y.2:=by
    cases hk:AH m.sender S.opens with
    |none=>simp
    |some l=>exact(h.op _ (CD hk)).1
   have hn:((AH m.sender S.opens).getD []).length<=N:=by
    cases hk:AH m.sender S.opens with
    |none=>simp
    |some l=>exact(h.op _ (CD hk)).2
   refine⟨fun y hy=>?_,by rw[zE,List.length_singleton];omega⟩;rcases qK hy with hy|hy;·exact hl y hy
   ·rw[qS] at hy;subst hy;exact⟨hw,hp⟩
  ·exact up.op p hp2
 ·split;·exact⟨up.op,up.en⟩
  ·split
   ·split;·exact up
    ·rename_i k x hk;refine⟨up.op,fun p hp2=>?_⟩;rcases GO hp2 with rfl|hp2;·exact(h.en (k,x) (CD (OW hk)) :)
     ·exact h.en p hp2
   ·split
    ·split;·exact up
     ·rename_i k x hk;refine⟨up.op,fun p hp2=>?_⟩;rcases GO hp2 with rfl|hp2;·exact(h.en (k,x) (CD (OW hk)) :)
      ·exact h.en p hp2
    ·exact up
theorem wok_says2 {N:Nat} {S:WS} (h:WOk N S) {m:MD} (hk:m.kind≠90):WOk N (FS S m):=by
 unfold FS;rw[if_neg hk];split;·exact⟨h.op,h.en⟩
 ·split
  ·split;·exact h
   ·rename_i k x hk;refine⟨h.op,fun p hp2=>?_⟩;rcases GO hp2 with rfl|hp2;·exact(h.en (k,x) (CD (OW hk)) :)
    ·exact h.en p hp2
  ·split
   ·split;·exact h
    ·rename_i k x hk;refine⟨h.op,fun p hp2=>?_⟩;rcases GO hp2 with rfl|hp2;·exact(h.en (k,x) (CD (OW hk)) :)
     ·exact h.en p hp2
   ·exact h
theorem MP {N:Nat} {S:WS} (h:WOk N S) {m:MD} (hk:m.kind≠90):WOk N (CW S m):=by
 unfold CW;split;·exact h
 ·split;·exact wok_says2 h hk
  ·exact h
theorem wok_said {N:Nat} {S:WS} (h:WOk N S) {m:MD} (hw:U32 m.window) (hp:U32 m.packet):WOk (N+1) (CW S m):=by
 have up:WOk (N+1) S:=⟨fun p hp=>⟨(h.op p hp).1,by have:=(h.op p hp).2;omega⟩,h.en⟩;unfold CW;split;·exact up
 ·split;·exact wok_says h hw hp
  ·exact up
theorem eU {x:EN} {m:MD} {ok:Bool}:(endS x m ok).1.packet=x.packet:=by
 unfold endS;repeat' split
 all_goals rfl
theorem cE {N:Nat} {S:WS} (h:WOk N S) (m:MD) (ok:Bool):WOk N (AJ S m ok).1:=by
 have hop: ∀{n:Int} {o:Int×Int} {l:List (Int×Int)},LS S n=some (o,l)->U32 o.2/\(∀y∈l,U32 y.1/\U32 y.2)/\l.length<=N:=fun {n o l} hf=>by
  unfold LS at hf;split at hf
  ·rename_i o' l' hk;injection hf with hf;injection hf with h1 h2;subst h1;subst h2;have:=h.op _ (CD hk);exact⟨(this.1 o' (by simp)).2,fun y hy=>this.1 y (by simp[hy]),by have:=this.2;simp at this;omega⟩
  ·cases hf
 have so: ∀{n:Int} {o:Int×Int} {l:List (Int×Int)},LS S n=some (o,l)->∀p∈CG n l S.opens,(∀y∈p.2,U32 y.1/\U32 y.2)/\p.2.length<=N:=fun {n o l} hf p hp=>by
  rcases GO hp with rfl|hp;·exact(hop hf).2
  ·exact h.op p hp
 unfold AJ;split;·exact h
 ·split;·exact⟨h.op,h.en⟩
  ·split
   ·split;·exact h
    ·exact⟨h.op,h.en⟩
   ·split
    ·split;·exact h
     ·rename_i o l hf;have new:WOk N { S with opens:=CG m.chan l S.opens,ends:=CG m.chan (newE m.chan o) S.ends,nums:=CG m.sender m.chan S.nums }:=by
       refine⟨so hf,fun p hp=>?_⟩;rcases GO hp with rfl|hp;·exact(hop hf).1
       ·exact h.en p hp
      repeat' split
      all_goals first|exact h|exact new
    ·split
     ·split;·exact h
      ·rename_i o l hf;exact⟨so hf,h.en⟩
     ·split;·exact h
      ·split;·exact h
       ·rename_i x hk;split;·exact h
        ·refine⟨h.op,fun p hp=>?_⟩;rcases GO hp with rfl|hp
         ·dsimp only;rw[eU];exact h.en _ (CD hk)
         ·exact h.en p hp
theorem HOk.up {N N':Nat} {x:HS} (h:HOk N x) (hn:N<=N'):HOk N' x:=⟨h.n,by have:=h.l;omega⟩
theorem WOk.up {N N':Nat} {S:WS} (h:WOk N S) (hn:N<=N'):WOk N' S:=⟨fun p hp=>⟨(h.op p hp).1,by have:=(h.op p hp).2;omega⟩,h.en⟩
theorem COk.up {N N':Nat} {C:CS} (h:COk N C) (hn:N<=N'):COk N' C:=⟨h.w.up hn,h.n,fun x hx=>(h.xs x hx).up hn,h.m,⟨by have:=h.b.1;omega,h.b.2⟩⟩
end Go.Proofs.YtfbhemmpobgdpaaGreatDoor
namespace Go.Proofs.YtfbhemmpobgdpaaGreatDoor
open Go.RowKit Go.MapKept
def OL (c c':CC):Prop:=(c'.g0=c.g0/\c'.n0=c.n0/\c'.c0=c.c0)/\(c'.g1=c.g1/\c'.n1=c.n1/\c'.c1=c.c1)/\c'.an=c.an/\c'.nn=c.nn/\c'.nc=c.nc
def HM.set (x:HM) (c':CC):HM:=⟨x.b,c',x.l0,x.l1,x.al⟩
theorem HM.set_fp {x:HM} {c':CC} (h:OL x.c c'):(x.set c').fp=x.fp:=by
 obtain⟨⟨h1,_,_⟩,⟨h2,_,_⟩,h3,_,_⟩:=h;unfold HM.fp HM.set;dsimp only;rw[h1,h2,h3]
theorem HAt.cells {x:HM} {c':CC} {w w':World} {L:List Nat} (h:HAt x w) (O:Only L w w') (hL: ∀y∈x.fp,y≠x.b->y∉L) (hnb: ∀y∈bkO x.c.g0++(bkO x.c.g1++bkO x.c.an),y≠x.b) (hb:Blk w' x.b 94 c'.cells) (hs:OL x.c c'):HAt (x.set c') w':=by
 obtain⟨⟨h1,h2,h3⟩,⟨h4,h5,h6⟩,h7,h8,h9⟩:=hs;have keep: ∀y∈bkO x.c.g0++(bkO x.c.g1++bkO x.c.an),w'.heap[y]? = w.heap[y]? :=fun y hy=>O.block y (h.lt y (by unfold HM.fp;exact List.mem_cons_of_mem _ hy)) (hL y (by unfold HM.fp;exact List.mem_cons_of_mem _ hy) (hnb y hy));refine⟨hb,?_,?_,?_,?_,?_,?_⟩
 ·show AN cu8 5 1 w' 0 (.slice c'.g0 c'.n0 c'.c0) x.l0;rw[h1,h2,h3];exact AI w w' O.size (fun y hy=>keep y (by simp[hy])) h.o0
 ·show AN cu8 5 1 w' 0 (.slice c'.g1 c'.n1 c'.c1) x.l1;rw[h4,h5,h6];exact AI w w' O.size (fun y hy=>keep y (by simp[hy])) h.o1
 ·show AN cBo 4 1 w' 0 (.slice c'.an c'.nn c'.nc) x.al;rw[h7,h8,h9];exact AI w w' O.size (fun y hy=>keep y (by simp[hy])) h.oa
 ·show x.l0.length=c'.n0;rw[h2];exact h.n0
 ·show x.l1.length=c'.n1;rw[h5];exact h.n1
 ·show x.al.length=c'.nn;rw[h8];exact h.nn
theorem aW {α:Type} {f:α->List Nat}: ∀{l:List α} {x:α},(l.flatMap f).Nodup->x∈l->(f x).Nodup
 |a::l,x,h,hx=>by
  simp only[qG,qD] at h;rcases qC.1 hx with e|hx;·subst e;exact h.1
  ·exact aW h.2.1 hx
theorem CAt.parts {p:Nat} {C:CL} {w:World} {i:Nat} {x:HM} (h:CAt p C w) (hx:C.R.xs[i]? = some x):(AG p C.K C.sA C.M++x.fp).Nodup/\∀y∈AG p C.K C.sA C.M++x.fp,y∈C.fp p:=by
 have nd:=h.nd;unfold CL.fp at nd;rw[qD] at nd;obtain⟨n1,n2,n3⟩:=nd;have hm:=qE hx;refine⟨?_,fun y hy=>?_⟩
 ·rw[qD];refine⟨n1,?_,fun a ha b hb e=>n3 a ha b (LM hx b hb) e⟩;unfold CB at n2;rw[qD,qD] at n2;exact aW n2.2.1.2.1 hm
 ·unfold CL.fp;rcases qK hy with hy|hy;·exact qJ (.inl hy)
  ·exact qJ (.inr (LM hx y hy))
theorem VS {C:CL} {i:Nat} {x':HM} {sA':Option Addr} {sc':Nat} {said':List Int} {M':WM}:(C.put i x' sA' sc' said' M').abs = { C.abs with said:=said',S:=M'.abs,xs:=C.abs.xs.set i x'.abs }:=by
 unfold CL.put CL.abs;simp only[map_set]
theorem CAt.turn {p:Nat} {C:CL} {w w':World} {i:Nat} {x:HM} {c':CC} {sA':Option Addr} {sc':Nat} {said':List Int} {M':WM} {S':WS} (L:List Nat) (hL: ∀y∈L,y∉C.fp p) (h:CAt p C w) (hx:C.R.xs[i]? = some x) (O:Only ((AG p C.K C.sA C.M++[x.b])++L) w w') (hT:TQ p C.K sA' sc' said' M' S' w') (hB:Blk w' x.b 94 c'.cells) (hs:OL x.c c') (hf: ∀y∈AG p C.K sA' M',y≠x.b/\y<w'.heap.size/\(y∈AG p C.K C.sA C.M\/w.heap.size<=y)) :
  Only (C.fp p++L) w w'/\(CAt p (C.put i (x.set c') sA' sc' said' M') w'/\(C.put i (x.set c') sA' sc' said' M').abs = { C.abs with said:=said',S:=S',xs:=C.abs.xs.set i (x.set c').abs })/\∀y∈(C.put i (x.set c') sA' sc' said' M').fp p,y<w'.heap.size/\(y∈C.fp p\/w.heap.size<=y):=by
 obtain⟨nd,sub⟩:=h.parts hx;have hA:=h.rst.xs x (qE hx);rw[qD] at nd;obtain⟨n1,n2,n3⟩:=nd;have n2':=n2;unfold HM.fp at n2';rw[List.nodup_cons] at n2';have hbx:x.b∈x.fp:=by simp[HM.fp]
 have hH:HAt (x.set c') w':=hA.cells O (fun y hy hne hm=>by
  rcases qK hm with hm|hm
  ·rcases qK hm with hm|hm;·exact n3 y hm y hy rfl
   ·exact hne (by simpa using hm)
  ·exact hL y hm (sub y (qJ (.inr hy)))) (fun y hy e=>by subst e;exact n2'.1 hy) hB hs
 have hfp:=HM.set_fp hs;have e:=hT.abs;subst e;have hnd:(AG p C.K sA' M'++(x.set c').fp).Nodup:=by
  rw[hfp,qD];refine⟨hT.nd,n2,fun a ha b hb e=>?_⟩;subst e;rcases(hf a ha).2.2 with h1|h1;·exact n3 a h1 a hb rfl
  ·have:=hA.lt a hb;omega
 have:=CAt.put L hL h hx (O.mono fun y hy=>by
  rcases qK hy with hy|hy
  ·rcases qK hy with hy|hy;·exact qJ (.inl (qJ (.inl hy)))
   ·rw[qS] at hy;subst hy;exact qJ (.inl (qJ (.inr hbx)))
  ·exact qJ (.inr hy)) hT hH rfl hnd (fun y hy=>by
  rcases qK hy with hy|hy;·exact⟨(hf y hy).2.1,(hf y hy).2.2.imp (fun h=>qJ (.inl h)) id⟩
  ·rw[hfp] at hy;exact⟨zT (hA.lt y hy) O.size,.inl (qJ (.inr hy))⟩)
 exact⟨this.1,⟨this.2.1,VS⟩,this.2.2⟩
theorem SU {p:Nat} {C:CL} {w:World} {i:Nat} {x:HM} (h:CAt p C w) (hx:C.R.xs[i]? = some x):x.b∉AG p C.K C.sA C.M:=fun hm=>by
 have:=(h.parts hx).1;rw[qD] at this;exact this.2.2 x.b hm x.b (by simp[HM.fp]) rfl
def QW (p:Nat) (C:CL) (L:List Nat) (C1:CS) (E:Int) (Z:World->Prop) (w:World):Ending->World->Prop:=fun e w2=>∃z:CL,e = .returned (.int .i64 E)/\Only (C.fp p++L) w w2/\((CAt p z w2/\z.abs=C1)/\Z w2)/\∀y∈z.fp p,y<w2.heap.size/\(y∈C.fp p\/w.heap.size<=y)
def OM (C:CS) (i:Nat) (z:(CS×HS)×Int):CS:={ z.1.1 with xs:=C.xs.set i z.1.2 }
theorem iY (p:Nat) (C:CL) (i:Nat) (x:HM) (L:List Nat) (Z:World->Prop) (w:World) (h:CAt p C w) (hx:C.R.xs[i]? = some x) (hL: ∀y∈L,y<w.heap.size/\y∉C.fp p) (hZ:Z w) (stZ:StX L Z) {N:Nat} (hok:COk N C.abs) (hN:N<=1000000) (hsz:C.said.length<=100000000):Calls Tryz.prog 68 #[AD p,AD x.b] w (QW p C L (OM C.abs i (EM C.abs x.abs)) 0 Z w):=by
 have hxo:HOk N x.abs:=hok.xs _ (List.mem_map.2 ⟨x,qE hx,rfl⟩);refine(WK p x.b C.K C.sA C.sc C.said C.M C.M.abs x.c w h.tq (h.rst.xs x (qE hx)).blk (SU h hx) hxo.n.1 (fun o ho=>Nat.le_trans (hok.w.op o ho).2 hN) hsz).mono ?_;rintro e w' ⟨z,rfl,O,hT,hB,hf⟩;have hO:Only (AG p C.K C.sA C.M++[x.b]) w w':=O.mono fun y hy=>by
  rcases qC.1 hy with h|h;·subst h;simp
  ·exact qJ (.inl h)
 obtain⟨o1,⟨o2,o3⟩,o4⟩:=CAt.turn (c':={ x.c with clo:=true }) [] (by simp) h hx (by rw[qN];exact hO) hT hB ⟨⟨rfl,rfl,rfl⟩,⟨rfl,rfl,rfl⟩,rfl,rfl,rfl⟩ hf;rw[qN] at o1;have e:OM C.abs i (EM C.abs x.abs) = { C.abs with said:=BN C.said (mK 97 x.c.server),S:=CW C.M.abs (mK 97 x.c.server),xs:=C.abs.xs.set i (x.set { x.c with clo:=true }).abs }:=by
  kernel_rfl
 rw[e];exact⟨_,rfl,o1.mono fun y hy=>qJ (.inl hy),⟨⟨o2,o3⟩,stZ w w' O.size (fun y hy=>o1.block y (hL y hy).1 (hL y hy).2) hZ⟩,o4⟩
theorem CAt.box {p:Nat} {C:CL} {w:World} {i:Nat} {x:HM} {q:Nat} (h:CAt p C w) (hx:C.R.xs[i]? = some x) (hq:q∉C.fp p):[x.b,q].Nodup/\∀(T:Nat) (v:Value),Fx w ((AG p C.K C.sA C.M++[x.b])++[q]) w [x.b,q] (AG p C.K C.sA C.M) (TQ p C.K C.sA C.sc C.said C.M C.M.abs):=by
 obtain⟨nd,sub⟩:=h.parts hx;have hbx:x.b∈x.fp:=by simp[HM.fp]
 have hne:x.b≠q:=fun e=>hq (by rw[<-e];exact sub _ (qJ (.inr hbx)));refine⟨by simp[hne],fun _ _=>Fx.start (fun y hy=>?_) h.tq (fun y hy=>⟨h.tq.lt y hy,fun hm=>?_,?_⟩) TQ.st⟩
 ·simp only[qC,List.not_mem_nil,or_false] at hy;rcases hy with h|h;·subst h;simp
  ·subst h;simp
 ·simp only[qC,List.not_mem_nil,or_false] at hm;rcases hm with e|e;·subst e;exact SU h hx hy
  ·subst e;exact hq (sub _ (qJ (.inl hy)))
 ·exact qJ (.inl (qJ (.inl hy)))
theorem eof1_any (p:Nat) (C:CL) (i:Nat) (x:HM) (q:Nat) (w:World) (h:CAt p C w) (hx:C.R.xs[i]? = some x) (hqn:q∉C.fp p) (hq:Blk w q 25 [AD p]) {N:Nat} (hok:COk N C.abs) (hN:N<=1000000) (hsz:C.said.length<=100000000):Calls Tryz.prog 67 #[AD x.b,AD q] w (QW p C [q] (OM C.abs i (JA C.abs x.abs)) (JA C.abs x.abs).2 (fun w=>Blk w q 25 [AD p]) w):=by
 have hxo:HOk N x.abs:=hok.xs _ (List.mem_map.2 ⟨x,qE hx,rfl⟩);obtain⟨hnd,hC⟩:=h.box hx hqn;have C0:=hC 0 undef;have hB:=(h.rst.xs x (qE hx)).blk;obtain⟨b,hb⟩:=qX x.b;rw[hb] at hnd C0 hB⊢;have fin: ∀{E:Int} {C1:CS} {c':CC} {sA':Option Addr} {sc':Nat} {said':List Int} {M':WM} {S':WS} {w1 w':World} {L1 β:List Nat} {hp:List HB} (C2:Fx w ((AG p C.K C.sA C.M++[b])++[q]) w1 L1 (AG p C.K sA' M') (TQ p C.K sA' sc' said' M' S')) (H:Mem w1 L1 β hp w') (hro:PJ hp=true) (h0:hp[0]? = some (.b true 94 (ccS c'))) (h1:hp[1]? = some (.b true 25 [.v (AD p)])) (e0:nm β 0=b) (e1:nm β 1=q) (hn: ∀y∈AG p C.K sA' M',y∈AG p C.K C.sA C.M\/w.heap.size<=y) (hs:OL x.c c') (hC1 : { C.abs with said:=said',S:=S',xs:=C.abs.xs.set i (x.set c').abs }=C1),QW p C [q] C1 E (fun w=>Blk w q 25 [AD p]) w (.returned (.int .i64 E)) w':=by
  intro E C1 c' sA' sc' said' M' S' w1 w' L1 β hp C2 H hro h0 h1 e0 e1 hn hs hC1;subst hb;have hb2:Blk w' x.b 94 c'.cells:=by rw[<-e0];exact H.lies 0 _ h0
  have hq2:Blk w' q 25 [AD p]:=by rw[<-e1];exact H.lies 1 _ h1
  obtain⟨o1,⟨o2,o3⟩,o4⟩:=CAt.turn [q] (by simpa using hqn) h hx (C2.fin H) (C2.at H) hb2 hs (fun y hy=>⟨fun e=>by
   subst e;exact C2.apart H hro 0 _ x.b h0 (by rw[e0];rfl) hy,zT (C2.own y hy).1 H.only.size,hn y hy⟩)
  exact⟨_,rfl,o1,⟨⟨o2,o3.trans hC1⟩,hq2⟩,o4⟩
 refine Hs.en Tryz.func67 _ [b,q] [.b true 94 (ccS x.c),.b true 25 [.v (AD p)]] [.c (.p 0 0),.c (.p 1 0)] (Mem.startN rfl hnd ⟨hB,hq,trivial⟩) ?_;refine Hs.e0 ?_;refine Hs.cn x.c.eof (fun he=>?_) (fun he=>?_)
 ·have e:JA C.abs x.abs=((C.abs,x.abs),9):=by unfold JA;exact if_pos he
  rw[e];refine Hs.e0 ?_;exact Hs.rt (v:=.int .i64 9) Tryz.func67 fun w' H=>fin (c':=x.c) C0 H (by kernel_rfl) (by kernel_rfl) (by kernel_rfl) (by kernel_rfl) (by kernel_rfl) (fun y hy=>.inl hy) ⟨⟨rfl,rfl,rfl⟩,⟨rfl,rfl,rfl⟩,rfl,rfl,rfl⟩ (by kernel_rfl)
 ·have e:JA C.abs x.abs=((FP C.abs (mK 96 x.c.server),{ x.abs with eof:=true }),0):=by unfold JA;rw[if_neg (by show¬x.c.eof=true;rw[he];decide)];kernel_rfl
  rw[e];refine Hs.e0 ?_;refine Hs.any [0,1] (by kernel_rfl) ?_;refine Hs.e0 ?_;refine Hs.callFxB (X:=(Option Addr×Nat)×WM) (fun _=>.tuple #[]) (fun z=>AG p C.K z.1.1 z.2) (fun z=>TQ p C.K z.1.1 z.1.2 (BN C.said (mK 96 x.c.server)) z.2 (CW C.M.abs (mK 96 x.c.server))) C0 (fun w' H hq=>KG p C.K C.sA C.sc C.said C.M C.M.abs (mK 96 x.c.server) w' hq (fun w2 _=>mK_ok 96 x.c.server hxo.n.1 w2) (qO _) (qO _) (fun o ho=>Nat.le_trans (hok.w.op o ho).2 hN) hsz) (by kernel_rfl) (by kernel_rfl) fun z w1 L1 C1 hn _=>?_;refine Hs.e0 ?_;exact Hs.rt (v:=.int .i64 0) Tryz.func67 fun w' H=>fin (c':={ x.c with eof:=true }) C1 H (by kernel_rfl) (by kernel_rfl) (by kernel_rfl) (by kernel_rfl) (by kernel_rfl) hn ⟨⟨rfl,rfl,rfl⟩,⟨rfl,rfl,rfl⟩,rfl,rfl,rfl⟩ (by kernel_rfl)
end Go.Proofs.YtfbhemmpobgdpaaGreatDoor
