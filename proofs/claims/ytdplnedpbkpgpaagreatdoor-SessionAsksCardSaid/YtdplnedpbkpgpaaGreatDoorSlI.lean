/- SessionAsks: lemmas, from 'Layer 4: the putters' on; what each asks for stands in it. -/
import Derived.Test.YtdplnedpbkpgpaaGreatDoorSlH
import Derived.Test.YtdplnedpbkpgpaaGreatDoorSlG
import Derived.Test.YtdplnedpbkpgpaaGreatDoorShelf
import Derived.RangeFuncNested
import Derived.RangeFuncBound
import Derived.RangeFuncCalls
import Derived.RangeFuncLeaves
import Derived.Shelf.Abstract
import Derived.Shelf.RegionOpen
import Derived.WalkKit
import Derived.OwnWalkIn
import Derived.TacticsInMore
import Derived.LoopNIn
import Derived.LoopIn
set_option linter.all false
set_option maxRecDepth 100000
set_option maxHeartbeats 64000000
namespace Go.Proofs.YtdplnedpbkpgpaaGreatDoor
open Go.RowKit
theorem IV (m:RQ) (g:Nat) (w0 w:World) (A:Option Addr) (a:FD) (r:List FD) (c:Nat) (hF:RdF w0 A (a::r)) (hO:Only [] w0 w) (hlt:w0.heap.size≤g) (hg:Blk w g 119 m.cells):Calls Tryz.prog 81 #[.pointer (some ⟨g,0,none⟩),.slice A (r.length+1) c] w fun e w'=>e = .returned (.tuple #[])∧Only [g] w w'∧Blk w' g 119 (RQ.cells { m with text:=strOfNums a.text }):=by
 obtain⟨b,off,rfl,hb,hc⟩:=hF.cells (by simp);have hbg: ¬b=g:=by omega
 have hgl:=hg.lt;obtain⟨_,n0,t0,_⟩:=hc 0 a rfl;simp only[Nat.zero_mul,Nat.one_mul,Nat.reduceMul,Nat.add_zero] at n0 t0;have n0:=AS hO hb (by simp) n0;have t0:=AS hO hb (by simp) t0;have g1:w.cell? ⟨g,1,none⟩=some (.string m.text):=hg.cell 1;have z1:=hg.frozen 1;have kc0:(convert 32 9 (.slice a.tA a.text.length a.tc)).run Tryz.prog w = .ok (.string (strOfNums a.text)) w:=ER ((hF.ok a (by simp)).1.text.only hO);have hsl:(0:Int)≤(r.length:Int):=Int.natCast_nonneg _;clear hc;have hb2:=hg.set_ 1 (.string (strOfNums a.text));have hO2:Only [g] w (w.setCell ⟨g,1,none⟩ (.string (strOfNums a.text))):=(Only.refl [g] w).setCell (p:=⟨g,1,none⟩) (.inl (by simp)) _;go_enter Tryz.func81,Tryz.ntmps81
 go_wp2
 go_end0
 exact⟨rfl,hO2,hb2⟩
theorem YR (m:RQ) (g:Nat) (w0 w:World) (A:Option Addr) (a:FD) (r:List FD) (c:Nat) (hF:RdF w0 A (a::r)) (hO:Only [] w0 w) (hlt:w0.heap.size≤g) (hg:Blk w g 119 m.cells):Calls Tryz.prog 89 #[.pointer (some ⟨g,0,none⟩),.slice A (r.length+1) c] w fun e w'=>e = .returned (.tuple #[])∧Only [g] w w'∧Blk w' g 119 (RQ.cells { m with code:=a.n }):=by
 obtain⟨b,off,rfl,hb,hc⟩:=hF.cells (by simp);have hbg: ¬b=g:=by omega
 have hgl:=hg.lt;obtain⟨_,n0,t0,_⟩:=hc 0 a rfl;simp only[Nat.zero_mul,Nat.one_mul,Nat.reduceMul,Nat.add_zero] at n0 t0;have n0:=AS hO hb (by simp) n0;have t0:=AS hO hb (by simp) t0;have g10:w.cell? ⟨g,10,none⟩=some (.int .u32 m.code):=hg.cell 10;have z10:=hg.frozen 10;have hsl:(0:Int)≤(r.length:Int):=Int.natCast_nonneg _;clear hc;have hb2:=hg.set_ 10 (.int .u32 a.n);have hO2:Only [g] w (w.setCell ⟨g,10,none⟩ (.int .u32 a.n)):=(Only.refl [g] w).setCell (p:=⟨g,10,none⟩) (.inl (by simp)) _;go_enter Tryz.func89,Tryz.ntmps89
 go_wp2
 go_end0
 exact⟨rfl,hO2,hb2⟩
theorem dL (m:RQ) (g:Nat) (w0 w:World) (A:Option Addr) (a:FD) (r:List FD) (c:Nat) (hF:RdF w0 A (a::r)) (hO:Only [] w0 w) (hlt:w0.heap.size≤g) (hg:Blk w g 119 m.cells):Calls Tryz.prog 87 #[.pointer (some ⟨g,0,none⟩),.slice A (r.length+1) c] w fun e w'=>e = .returned (.tuple #[])∧Only [g] w w'∧Blk w' g 119 (RQ.cells { m with on:=decide (a.n=1) }):=by
 obtain⟨on,hon⟩: ∃on,decide (a.n=1)=on:=⟨_,rfl⟩;rw[hon];have hon2:(a.n==1)=on:=hon;clear hon;obtain⟨b,off,rfl,hb,hc⟩:=hF.cells (by simp);have hbg: ¬b=g:=by omega
 have hgl:=hg.lt;obtain⟨_,n0,t0,_⟩:=hc 0 a rfl;simp only[Nat.zero_mul,Nat.one_mul,Nat.reduceMul,Nat.add_zero] at n0 t0;have n0:=AS hO hb (by simp) n0;have t0:=AS hO hb (by simp) t0;have g9:w.cell? ⟨g,9,none⟩=some (.bool m.on):=hg.cell 9;have z9:=hg.frozen 9;have hsl:(0:Int)≤(r.length:Int):=Int.natCast_nonneg _;clear hc;have hb2:=hg.set_ 9 (.bool on);have hO2:Only [g] w (w.setCell ⟨g,9,none⟩ (.bool on)):=(Only.refl [g] w).setCell (p:=⟨g,9,none⟩) (.inl (by simp)) _;go_enter Tryz.func87,Tryz.ntmps87
 go_wp2
 go_end0
 exact⟨rfl,hO2,hb2⟩
theorem YS (m:RQ) (g:Nat) (w:World) (v:Value) (hg:Blk w g 119 m.cells):Calls Tryz.prog 78 #[.pointer (some ⟨g,0,none⟩),v] w fun e w'=>e = .returned (.tuple #[])∧Only [g] w w'∧Blk w' g 119 m.cells:=by
 go_enter Tryz.func78,Tryz.ntmps78
 go_wp2
 go_end0
 exact⟨rfl,Only.refl _ _,hg⟩
theorem bH (m:RQ) (g:Nat) (w0 w:World) (A:Option Addr) (a d:FD) (r:List FD) (c:Nat) (hF:RdF w0 A (a::d::r)) (hO:Only [] w0 w) (hlt:w0.heap.size≤g) (hg:Blk w g 119 m.cells):Calls Tryz.prog 75 #[.pointer (some ⟨g,0,none⟩),.slice A (r.length+2) c] w fun e w'=>e = .returned (.tuple #[])∧Only [g] w w'∧Blk w' g 119 (RQ.cells { m with text:=strOfNums a.text,value:=strOfNums d.text }):=by
 obtain⟨b,off,rfl,hb,hc⟩:=hF.cells (by simp);have hbg: ¬b=g:=by omega
 have hgl:=hg.lt;obtain⟨_,n0,t0,_⟩:=hc 0 a rfl;simp only[Nat.zero_mul,Nat.one_mul,Nat.reduceMul,Nat.add_zero] at n0 t0;obtain⟨_,n1,t1,_⟩:=hc 1 d rfl;simp only[Nat.zero_mul,Nat.one_mul,Nat.reduceMul,Nat.add_zero] at n1 t1;have hI0:Only [] w0 { w with drawn:=w.drawn+1 }:=hO.drew;have g1:w.cell? ⟨g,1,none⟩=some (.string m.text):=hg.cell 1;have z1:=hg.frozen 1;have g2:w.cell? ⟨g,2,none⟩=some (.string m.value):=hg.cell 2;have z2:=hg.frozen 2;have hsl:(0:Int)≤(r.length:Int):=Int.natCast_nonneg _;clear hc;go_enter Tryz.func75,Tryz.ntmps75
 go_wp2_with fail
 have hI:(fun w':World=>Only [] w0 w') { w with drawn:=w.drawn+1 }:=hI0;refine AV (fun w':World=>Only [] w0 w') [] (by kernel_rfl) ?_;refine wpAnyE_tg 0 (v:=(.pointer (some ⟨g,0,none⟩))) rfl hI ?_;refine wpAnyE_tg 1 (v:=(.pointer (some ⟨g,0,none⟩))) rfl hI ?_;refine wpAnyE_tg 2 (v:=(.slice (some ⟨b,off,none⟩) (r.length+2) c)) rfl hI ?_;refine wpAnyE_tk 3 (v:=(.pointer (some ⟨b,off,none⟩))) rfl hI (fun w' hw'=>by go_simp;intro h7;exact absurd h7 (by omega)) ?_;refine wpAnyE_tg 4 (v:=(.pointer (some ⟨b,off+2,none⟩))) rfl hI ?_;refine wpAnyE_tk 5 (v:=(.slice a.tA a.text.length a.tc)) rfl hI (fun w' hw'=>by have y0:=AS hw' hb (by simp) t0;go_simp) ?_;refine wpAnyE_tk 6 (v:=(.string (strOfNums a.text))) rfl hI (fun w' hw'=>by have kc:=ER (c:=a.tc) ((hF.ok a (by simp)).1.text.only hw');go_simp) ?_;refine wpAnyE_tg 7 (v:=(.slice (some ⟨b,off,none⟩) (r.length+2) c)) rfl hI ?_;refine wpAnyE_tk 8 (v:=(.pointer (some ⟨b,off+4,none⟩))) rfl hI (fun w' hw'=>by go_simp;intro h7;exact absurd h7 (by omega)) ?_;refine wpAnyE_tg 9 (v:=(.pointer (some ⟨b,off+4+2,none⟩))) rfl hI ?_;refine wpAnyE_tk 10 (v:=(.slice d.tA d.text.length d.tc)) rfl hI (fun w' hw'=>by have y0:=AS hw' hb (by simp) t1;go_simp) ?_;refine wpAnyE_tk 11 (v:=(.string (strOfNums d.text))) rfl hI (fun w' hw'=>by have kc:=ER (c:=d.tc) ((hF.ok d (by simp)).1.text.only hw');go_simp) ?_;refine wpAnyE_tg 12 (v:=(.pointer (some ⟨g,0,none⟩))) rfl hI ?_;refine wpAnyE_tg 13 (v:=(.pointer (some ⟨g,0,none⟩))) rfl hI ?_;refine wpAnyE_tg 14 (v:=(.pointer (some ⟨g,1,none⟩))) rfl hI ?_;refine AG 15 rfl (by kernel_rfl) hI (fun K hK=>?_);rw[if_pos (by kernel_rfl)];go_simp
 refine hK _ _ ?_;clear hK K;have hI:=Only.setCell (p:=⟨g,1,none⟩) hI (.inr hlt) (.string (strOfNums a.text));refine wpAnyE_tg 16 (v:=(.pointer (some ⟨g,0,none⟩))) rfl hI ?_;refine wpAnyE_tg 17 (v:=(.pointer (some ⟨g,0,none⟩))) rfl hI ?_;refine wpAnyE_tg 18 (v:=(.pointer (some ⟨g,2,none⟩))) rfl hI ?_;refine AG 19 rfl (by kernel_rfl) hI (fun K hK=>?_);rw[if_pos (by kernel_rfl)];go_simp
 refine hK _ _ ?_;clear hK K;have hI:=Only.setCell (p:=⟨g,2,none⟩) hI (.inr hlt) (.string (strOfNums d.text));refine AT (by kernel_rfl) hI ?_;(try simp only[Exit.inBlock,Exit.then])
 (try go_wp2_with fail)
 go_end0
 exact⟨rfl,((((((Only.refl [g] w).drew)).setCell (p:=⟨g,1,none⟩) (.inl (by simp)) (.string (strOfNums a.text)))).setCell (p:=⟨g,2,none⟩) (.inl (by simp)) (.string (strOfNums d.text))),((hg.drew).set_ 1 (.string (strOfNums a.text))).set_ 2 (.string (strOfNums d.text))⟩
theorem PB (m:RQ) (g:Nat) (w0 w:World) (A:Option Addr) (a d u v:FD) (r:List FD) (c:Nat) (hF:RdF w0 A (a::d::u::v::r)) (hO:Only [] w0 w) (hlt:w0.heap.size≤g) (hg:Blk w g 119 m.cells):Calls Tryz.prog 85 #[.pointer (some ⟨g,0,none⟩),.slice A (r.length+4) c] w fun e w'=>e = .returned (.tuple #[])∧Only [g] w w'∧Blk w' g 119 (RQ.cells { m with cols:=a.n,rows:=d.n,width:=u.n,height:=v.n }):=by
 obtain⟨b,off,rfl,hb,hc⟩:=hF.cells (by simp);have hbg: ¬b=g:=by omega
 have hgl:=hg.lt;obtain⟨_,n0,t0,_⟩:=hc 0 a rfl;simp only[Nat.zero_mul,Nat.one_mul,Nat.reduceMul,Nat.add_zero] at n0 t0;obtain⟨_,n1,t1,_⟩:=hc 1 d rfl;simp only[Nat.zero_mul,Nat.one_mul,Nat.reduceMul,Nat.add_zero] at n1 t1;obtain⟨_,n2,t2,_⟩:=hc 2 u rfl;simp only[Nat.zero_mul,Nat.one_mul,Nat.reduceMul,Nat.add_zero] at n2 t2;obtain⟨_,n3,t3,_⟩:=hc 3 v rfl;simp only[Nat.zero_mul,Nat.one_mul,Nat.reduceMul,Nat.add_zero] at n3 t3;have hI0:Only [] w0 { w with drawn:=w.drawn+1 }:=hO.drew;have g4:w.cell? ⟨g,4,none⟩=some (.int .u32 m.cols):=hg.cell 4;have z4:=hg.frozen 4;have g5:w.cell? ⟨g,5,none⟩=some (.int .u32 m.rows):=hg.cell 5;have z5:=hg.frozen 5;have g6:w.cell? ⟨g,6,none⟩=some (.int .u32 m.width):=hg.cell 6;have z6:=hg.frozen 6;have g7:w.cell? ⟨g,7,none⟩=some (.int .u32 m.height):=hg.cell 7;have z7:=hg.frozen 7;have hsl:(0:Int)≤(r.length:Int):=Int.natCast_nonneg _;clear hc;go_enter Tryz.func85,Tryz.ntmps85
 go_wp2_with fail
 have hI:(fun w':World=>Only [] w0 w') { w with drawn:=w.drawn+1 }:=hI0;refine AV (fun w':World=>Only [] w0 w') [] (by kernel_rfl) ?_;refine wpAnyE_tg 0 (v:=(.pointer (some ⟨g,0,none⟩))) rfl hI ?_;refine wpAnyE_tg 1 (v:=(.slice (some ⟨b,off,none⟩) (r.length+4) c)) rfl hI ?_;refine wpAnyE_tk 2 (v:=(.pointer (some ⟨b,off,none⟩))) rfl hI (fun w' hw'=>by go_simp;intro h7;exact absurd h7 (by omega)) ?_;refine wpAnyE_tg 3 (v:=(.pointer (some ⟨b,off+1,none⟩))) rfl hI ?_;refine wpAnyE_tk 4 (v:=(.int .u32 a.n)) rfl hI (fun w' hw'=>by have y0:=AS hw' hb (by simp) n0;go_simp) ?_;refine wpAnyE_tg 5 (v:=(.slice (some ⟨b,off,none⟩) (r.length+4) c)) rfl hI ?_;refine wpAnyE_tk 6 (v:=(.pointer (some ⟨b,off+4,none⟩))) rfl hI (fun w' hw'=>by go_simp;intro h7;exact absurd h7 (by omega)) ?_;refine wpAnyE_tg 7 (v:=(.pointer (some ⟨b,off+4+1,none⟩))) rfl hI ?_;refine wpAnyE_tk 8 (v:=(.int .u32 d.n)) rfl hI (fun w' hw'=>by have y0:=AS hw' hb (by simp) n1;go_simp) ?_;refine wpAnyE_tg 9 (v:=(.slice (some ⟨b,off,none⟩) (r.length+4) c)) rfl hI ?_;refine wpAnyE_tk 10 (v:=(.pointer (some ⟨b,off+8,none⟩))) rfl hI (fun w' hw'=>by go_simp;intro h7;exact absurd h7 (by omega)) ?_;refine wpAnyE_tg 11 (v:=(.pointer (some ⟨b,off+8+1,none⟩))) rfl hI ?_;refine wpAnyE_tk 12 (v:=(.int .u32 u.n)) rfl hI (fun w' hw'=>by have y0:=AS hw' hb (by simp) n2;go_simp) ?_;refine wpAnyE_tg 13 (v:=(.slice (some ⟨b,off,none⟩) (r.length+4) c)) rfl hI ?_;refine wpAnyE_tk 14 (v:=(.pointer (some ⟨b,off+12,none⟩))) rfl hI (fun w' hw'=>by go_simp;intro h7;exact absurd h7 (by omega)) ?_;refine wpAnyE_tg 15 (v:=(.pointer (some ⟨b,off+12+1,none⟩))) rfl hI ?_;refine wpAnyE_tk 16 (v:=(.int .u32 v.n)) rfl hI (fun w' hw'=>by have y0:=AS hw' hb (by simp) n3;go_simp) ?_;refine wpAnyE_tg 17 (v:=(.agg #[.int .u32 a.n,.int .u32 d.n,.int .u32 u.n,.int .u32 v.n])) rfl hI ?_;refine wpAnyE_tg 18 (v:=(.pointer (some ⟨g,0,none⟩))) rfl hI ?_;refine wpAnyE_tg 19 (v:=(.pointer (some ⟨g,0,none⟩))) rfl hI ?_;refine wpAnyE_tg 20 (v:=(.pointer (some ⟨g,4,none⟩))) rfl hI ?_;refine AG 21 rfl (by kernel_rfl) hI (fun K hK=>?_);rw[if_pos (by kernel_rfl)];go_simp
 refine hK _ _ ?_;clear hK K;have hI:=Only.setCell (p:=⟨g,4,none⟩) hI (.inr hlt) (.int .u32 a.n);have hI:=Only.setCell (p:=⟨g,5,none⟩) hI (.inr hlt) (.int .u32 d.n);have hI:=Only.setCell (p:=⟨g,6,none⟩) hI (.inr hlt) (.int .u32 u.n);have hI:=Only.setCell (p:=⟨g,7,none⟩) hI (.inr hlt) (.int .u32 v.n);refine AT (by kernel_rfl) hI ?_;(try simp only[Exit.inBlock,Exit.then])
 (try go_wp2_with fail)
 go_end0
 exact⟨rfl,((((((((((Only.refl [g] w).drew)).setCell (p:=⟨g,4,none⟩) (.inl (by simp)) (.int .u32 a.n))).setCell (p:=⟨g,5,none⟩) (.inl (by simp)) (.int .u32 d.n))).setCell (p:=⟨g,6,none⟩) (.inl (by simp)) (.int .u32 u.n))).setCell (p:=⟨g,7,none⟩) (.inl (by simp)) (.int .u32 v.n)),((((hg.drew).set_ 4 (.int .u32 a.n)).set_ 5 (.int .u32 d.n)).set_ 6 (.int .u32 u.n)).set_ 7 (.int .u32 v.n)⟩
theorem VW (m:RQ) (g:Nat) (w0 w:World) (A:Option Addr) (a d u v:FD) (r:List FD) (c:Nat) (hF:RdF w0 A (a::d::u::v::r)) (hO:Only [] w0 w) (hlt:w0.heap.size≤g) (hg:Blk w g 119 m.cells):Calls Tryz.prog 91 #[.pointer (some ⟨g,0,none⟩),.slice A (r.length+4) c] w fun e w'=>e = .returned (.tuple #[])∧Only [g] w w'∧Blk w' g 119 (RQ.cells { m with text:=strOfNums a.text,on:=decide (d.n=1),value:=strOfNums u.text,lang:=strOfNums v.text }):=by
 obtain⟨on,hon⟩: ∃on,decide (d.n=1)=on:=⟨_,rfl⟩;rw[hon];have hon2:(d.n==1)=on:=hon;clear hon;obtain⟨b,off,rfl,hb,hc⟩:=hF.cells (by simp);have hbg: ¬b=g:=by omega
 have hgl:=hg.lt;obtain⟨_,n0,t0,_⟩:=hc 0 a rfl;simp only[Nat.zero_mul,Nat.one_mul,Nat.reduceMul,Nat.add_zero] at n0 t0;obtain⟨_,n1,t1,_⟩:=hc 1 d rfl;simp only[Nat.zero_mul,Nat.one_mul,Nat.reduceMul,Nat.add_zero] at n1 t1;obtain⟨_,n2,t2,_⟩:=hc 2 u rfl;simp only[Nat.zero_mul,Nat.one_mul,Nat.reduceMul,Nat.add_zero] at n2 t2;obtain⟨_,n3,t3,_⟩:=hc 3 v rfl;simp only[Nat.zero_mul,Nat.one_mul,Nat.reduceMul,Nat.add_zero] at n3 t3;have hI0:Only [] w0 { w with drawn:=w.drawn+1 }:=hO.drew;have g1:w.cell? ⟨g,1,none⟩=some (.string m.text):=hg.cell 1;have z1:=hg.frozen 1;have g9:w.cell? ⟨g,9,none⟩=some (.bool m.on):=hg.cell 9;have z9:=hg.frozen 9;have g2:w.cell? ⟨g,2,none⟩=some (.string m.value):=hg.cell 2;have z2:=hg.frozen 2;have g3:w.cell? ⟨g,3,none⟩=some (.string m.lang):=hg.cell 3;have z3:=hg.frozen 3;have hsl:(0:Int)≤(r.length:Int):=Int.natCast_nonneg _;clear hc;go_enter Tryz.func91,Tryz.ntmps91
 go_wp2_with fail
 have hI:(fun w':World=>Only [] w0 w') { w with drawn:=w.drawn+1 }:=hI0;refine AV (fun w':World=>Only [] w0 w') [] (by kernel_rfl) ?_;refine wpAnyE_tg 0 (v:=(.pointer (some ⟨g,0,none⟩))) rfl hI ?_;refine wpAnyE_tg 1 (v:=(.pointer (some ⟨g,0,none⟩))) rfl hI ?_;refine wpAnyE_tg 2 (v:=(.pointer (some ⟨g,0,none⟩))) rfl hI ?_;refine wpAnyE_tg 3 (v:=(.pointer (some ⟨g,0,none⟩))) rfl hI ?_;refine wpAnyE_tg 4 (v:=(.slice (some ⟨b,off,none⟩) (r.length+4) c)) rfl hI ?_;refine wpAnyE_tk 5 (v:=(.pointer (some ⟨b,off,none⟩))) rfl hI (fun w' hw'=>by go_simp;intro h7;exact absurd h7 (by omega)) ?_;refine wpAnyE_tg 6 (v:=(.pointer (some ⟨b,off+2,none⟩))) rfl hI ?_;refine wpAnyE_tk 7 (v:=(.slice a.tA a.text.length a.tc)) rfl hI (fun w' hw'=>by have y0:=AS hw' hb (by simp) t0;go_simp) ?_;refine wpAnyE_tk 8 (v:=(.string (strOfNums a.text))) rfl hI (fun w' hw'=>by have kc:=ER (c:=a.tc) ((hF.ok a (by simp)).1.text.only hw');go_simp) ?_;refine wpAnyE_tg 9 (v:=(.slice (some ⟨b,off,none⟩) (r.length+4) c)) rfl hI ?_;refine wpAnyE_tk 10 (v:=(.pointer (some ⟨b,off+4,none⟩))) rfl hI (fun w' hw'=>by go_simp;intro h7;exact absurd h7 (by omega)) ?_;refine wpAnyE_tg 11 (v:=(.pointer (some ⟨b,off+4+1,none⟩))) rfl hI ?_;refine wpAnyE_tk 12 (v:=(.int .u32 d.n)) rfl hI (fun w' hw'=>by have y0:=AS hw' hb (by simp) n1;go_simp) ?_;refine wpAnyE_tg 13 (v:=(.bool on)) rfl hI ?_;refine wpAnyE_tg 14 (v:=(.slice (some ⟨b,off,none⟩) (r.length+4) c)) rfl hI ?_;refine wpAnyE_tk 15 (v:=(.pointer (some ⟨b,off+8,none⟩))) rfl hI (fun w' hw'=>by go_simp;intro h7;exact absurd h7 (by omega)) ?_;refine wpAnyE_tg 16 (v:=(.pointer (some ⟨b,off+8+2,none⟩))) rfl hI ?_;refine wpAnyE_tk 17 (v:=(.slice u.tA u.text.length u.tc)) rfl hI (fun w' hw'=>by have y0:=AS hw' hb (by simp) t2;go_simp) ?_;refine wpAnyE_tk 18 (v:=(.string (strOfNums u.text))) rfl hI (fun w' hw'=>by have kc:=ER (c:=u.tc) ((hF.ok u (by simp)).1.text.only hw');go_simp) ?_;refine wpAnyE_tg 19 (v:=(.slice (some ⟨b,off,none⟩) (r.length+4) c)) rfl hI ?_;refine wpAnyE_tk 20 (v:=(.pointer (some ⟨b,off+12,none⟩))) rfl hI (fun w' hw'=>by go_simp;intro h7;exact absurd h7 (by omega)) ?_;refine wpAnyE_tg 21 (v:=(.pointer (some ⟨b,off+12+2,none⟩))) rfl hI ?_;refine wpAnyE_tk 22 (v:=(.slice v.tA v.text.length v.tc)) rfl hI (fun w' hw'=>by have y0:=AS hw' hb (by simp) t3;go_simp) ?_;refine wpAnyE_tk 23 (v:=(.string (strOfNums v.text))) rfl hI (fun w' hw'=>by have kc:=ER (c:=v.tc) ((hF.ok v (by simp)).1.text.only hw');go_simp) ?_;refine wpAnyE_tg 24 (v:=(.pointer (some ⟨g,0,none⟩))) rfl hI ?_;refine wpAnyE_tg 25 (v:=(.pointer (some ⟨g,0,none⟩))) rfl hI ?_;refine wpAnyE_tg 26 (v:=(.pointer (some ⟨g,1,none⟩))) rfl hI ?_;refine AG 27 rfl (by kernel_rfl) hI (fun K hK=>?_);rw[if_pos (by kernel_rfl)];go_simp
 refine hK _ _ ?_;clear hK K;have hI:=Only.setCell (p:=⟨g,1,none⟩) hI (.inr hlt) (.string (strOfNums a.text));refine wpAnyE_tg 28 (v:=(.pointer (some ⟨g,0,none⟩))) rfl hI ?_;refine wpAnyE_tg 29 (v:=(.pointer (some ⟨g,0,none⟩))) rfl hI ?_;refine wpAnyE_tg 30 (v:=(.pointer (some ⟨g,9,none⟩))) rfl hI ?_;refine AG 31 rfl (by kernel_rfl) hI (fun K hK=>?_);rw[if_pos (by kernel_rfl)];go_simp
 refine hK _ _ ?_;clear hK K;have hI:=Only.setCell (p:=⟨g,9,none⟩) hI (.inr hlt) (.bool on);refine wpAnyE_tg 32 (v:=(.pointer (some ⟨g,0,none⟩))) rfl hI ?_;refine wpAnyE_tg 33 (v:=(.pointer (some ⟨g,0,none⟩))) rfl hI ?_;refine wpAnyE_tg 34 (v:=(.pointer (some ⟨g,2,none⟩))) rfl hI ?_;refine AG 35 rfl (by kernel_rfl) hI (fun K hK=>?_);rw[if_pos (by kernel_rfl)];go_simp
 refine hK _ _ ?_;clear hK K;have hI:=Only.setCell (p:=⟨g,2,none⟩) hI (.inr hlt) (.string (strOfNums u.text));refine wpAnyE_tg 36 (v:=(.pointer (some ⟨g,0,none⟩))) rfl hI ?_;refine wpAnyE_tg 37 (v:=(.pointer (some ⟨g,0,none⟩))) rfl hI ?_;refine wpAnyE_tg 38 (v:=(.pointer (some ⟨g,3,none⟩))) rfl hI ?_;refine AG 39 rfl (by kernel_rfl) hI (fun K hK=>?_);rw[if_pos (by kernel_rfl)];go_simp
 refine hK _ _ ?_;clear hK K;have hI:=Only.setCell (p:=⟨g,3,none⟩) hI (.inr hlt) (.string (strOfNums v.text));refine AT (by kernel_rfl) hI ?_;(try simp only[Exit.inBlock,Exit.then])
 (try go_wp2_with fail)
 go_end0
 exact⟨rfl,((((((((((Only.refl [g] w).drew)).setCell (p:=⟨g,1,none⟩) (.inl (by simp)) (.string (strOfNums a.text)))).setCell (p:=⟨g,9,none⟩) (.inl (by simp)) (.bool on))).setCell (p:=⟨g,2,none⟩) (.inl (by simp)) (.string (strOfNums u.text)))).setCell (p:=⟨g,3,none⟩) (.inl (by simp)) (.string (strOfNums v.text))),((((hg.drew).set_ 1 (.string (strOfNums a.text))).set_ 9 (.bool on)).set_ 2 (.string (strOfNums u.text))).set_ 3 (.string (strOfNums v.text))⟩
theorem bI (m:RQ) (g:Nat) (w0 w:World) (A:Option Addr) (a b1 c1 d1 e1 f1:FD) (r:List FD) (c:Nat) (hF:RdF w0 A (a::b1::c1::d1::e1::f1::r)) (hO:Only [] w0 w) (hlt:w0.heap.size≤g) (hg:Blk w g 119 m.cells) (h6:r.length+6≤c) (hcm:c≤maxLen):Calls Tryz.prog 72 #[.pointer (some ⟨g,0,none⟩),.slice A (r.length+6) c] w fun e w'=>e = .returned (.tuple #[])∧Only [g] w w'∧Blk w' g 119 (RQ.cells { m with text:=strOfNums a.text,cols:=b1.n,rows:=c1.n,width:=d1.n,height:=e1.n,mA:=f1.tA,mc:=f1.tc,modes:=f1.text }):=by
 have TX:=IV m g w0 w A a (b1::c1::d1::e1::f1::r) c hF hO hlt hg;obtain⟨b,off,rfl,hb,hc⟩:=hF.cells (by simp);have hF2:RdF w0 (some ⟨b,off+4,none⟩) (b1::c1::d1::e1::f1::r):=⟨fun _=>⟨b,off+4,rfl,hb,fun i f hi=>by
  have:=hc (i+1) f (by simpa using hi);rw[show off+(i+1)*4=off+4+i*4 by omega] at this;exact this⟩,fun f hf=>hF.ok f (List.mem_cons_of_mem _ hf)⟩
 obtain⟨_,_,t5,_⟩:=hc 5 f1 rfl;simp only[Nat.reduceMul] at t5;rw[show(b1::c1::d1::e1::f1::r).length+1=r.length+6 by simp] at TX;have i1:(1:Int)≤(r.length:Int)+6:=by omega
 have i2:(1:Int)<(c:Int):=by omega
 have i3:((r.length:Int)+6)≤(c:Int):=by omega
 have i5:(5:Int)<(r.length:Int)+6:=by omega
 clear hc;go_enter Tryz.func72,Tryz.ntmps72
 go_wp2_with fail
 go_call TX as e w1 ⟨rfl,P1,K1⟩
 clear TX;have O1:Only [] w0 w1:=hO.trans P1 (fun x hx=>.inr (by simp at hx;omega));have TS:=PB _ g w0 w1 _ b1 c1 d1 e1 (f1::r) (c-1) hF2 O1 hlt K1;rw[show(f1::r).length+4=r.length+5 by simp] at TS;go_wp2_with fail
 go_call TS as e w2 ⟨rfl,P2,K2⟩
 clear TS;have O2:Only [] w0 w2:=O1.trans P2 (fun x hx=>.inr (by simp at hx;omega));have t5:=AS O2 hb (by simp) t5;have c8:=K2.cell 8;have z8:=K2.frozen 8;have hb2:=K2.set_ 8 (.slice f1.tA f1.text.length f1.tc);have hO2:Only [g] w (w2.setCell ⟨g,8,none⟩ (.slice f1.tA f1.text.length f1.tc)):=((P1.trans P2 (fun x hx=>.inl hx)).setCell (p:=⟨g,8,none⟩) (.inl (by simp)) _);go_wp2
 go_end0
 exact⟨rfl,hO2,hb2⟩
theorem rget_any (k:Nat) (h1:1≤k) (h2:k≤10): ∃F:FuncId,rget k=F∧(∀(args:Array Value) (w:World),(callFunc F args).run Tryz.prog w = .ok (.enter F args) w)∧
  ∀(w:World) (m:RQ) (g:Nat),Blk w g 119 m.cells→m.ok w→m.text.size≤140737488355328→m.value.size≤140737488355328→m.lang.size≤140737488355328→Calls Tryz.prog F #[.pointer (some ⟨g,0,none⟩)] w (FU w (AP m k)):=by
 rcases k10 h1 h2 with rfl|rfl|rfl|rfl|rfl|rfl|rfl|rfl|rfl|rfl;·exact⟨_,rfl,fun args w=>by kernel_rfl,fun w m g hg hm hs hv hl=>aU m g w hg hm hs⟩
 ·exact⟨_,rfl,fun args w=>by kernel_rfl,fun w m g hg hm hs hv hl=>aT m g w hg hs hv⟩
 ·exact⟨_,rfl,fun args w=>by kernel_rfl,fun w m g hg hm hs hv hl=>YF m g w hg⟩
 ·exact⟨_,rfl,fun args w=>by kernel_rfl,fun w m g hg hm hs hv hl=>GR m g w hg hs⟩
 ·exact⟨_,rfl,fun args w=>by kernel_rfl,fun w m g hg hm hs hv hl=>GR m g w hg hs⟩
 ·exact⟨_,rfl,fun args w=>by kernel_rfl,fun w m g hg hm hs hv hl=>IT m g w hg hm.nums⟩
 ·exact⟨_,rfl,fun args w=>by kernel_rfl,fun w m g hg hm hs hv hl=>dD m g w hg⟩
 ·exact⟨_,rfl,fun args w=>by kernel_rfl,fun w m g hg hm hs hv hl=>GR m g w hg hs⟩
 ·exact⟨_,rfl,fun args w=>by kernel_rfl,fun w m g hg hm hs hv hl=>YE m g w hg hm.nums.2.2.2.2⟩
 ·exact⟨_,rfl,fun args w=>by kernel_rfl,fun w m g hg hm hs hv hl=>VT m g w hg hs hv hl⟩
def PutsPost (g:Nat) (w:World) (m:RQ):Ending→World→Prop:=fun e w'=>e = .returned (.tuple #[])∧Only [g] w w'∧Blk w' g 119 m.cells
theorem DZ {fs:List FD} {k:Nat} (h:fs.map (fun f=>f.pf.kind)=AH k):fs.length=(AH k).length:=by rw[←h,List.length_map]
theorem rput_any (k:Nat) (h1:1≤k) (h2:k≤10): ∃F:FuncId,rput k=F∧(∀(args:Array Value) (w:World),(callFunc F args).run Tryz.prog w = .ok (.enter F args) w)∧
  ∀(m:RQ) (g:Nat) (w0 w:World) (A:Option Addr) (fs:List FD) (n c:Nat),fs.length=n→fs.map (fun f=>f.pf.kind)=AH k→n≤c→c≤maxLen→RdF w0 A fs→Only [] w0 w→w0.heap.size≤g→Blk w g 119 m.cells→Calls Tryz.prog F #[.pointer (some ⟨g,0,none⟩),.slice A n c] w (PutsPost g w (DH m k fs)):=by
 rcases k10 h1 h2 with rfl|rfl|rfl|rfl|rfl|rfl|rfl|rfl|rfl|rfl
 ·refine⟨_,rfl,fun args w=>by kernel_rfl,fun m g w0 w A fs n c hn hk hc hcm hF hO hlt hg=>?_⟩;obtain⟨x1,x2,x3,x4,x5,x6,rfl,_⟩:=ks6 hk;subst hn;exact bI m g w0 w A x1 x2 x3 x4 x5 x6 [] c hF hO hlt hg hc hcm
 ·refine⟨_,rfl,fun args w=>by kernel_rfl,fun m g w0 w A fs n c hn hk hc hcm hF hO hlt hg=>?_⟩;obtain⟨x1,x2,rfl,_⟩:=ks2 hk;subst hn;exact bH m g w0 w A x1 x2 [] c hF hO hlt hg
 ·refine⟨_,rfl,fun args w=>by kernel_rfl,fun m g w0 w A fs n c hn hk hc hcm hF hO hlt hg=>?_⟩;obtain rfl:fs=[]:=List.eq_nil_of_length_eq_zero (DZ hk);subst hn;exact YS m g w _ hg
 ·refine⟨_,rfl,fun args w=>by kernel_rfl,fun m g w0 w A fs n c hn hk hc hcm hF hO hlt hg=>?_⟩;obtain⟨x1,rfl,_⟩:=ks1 hk;subst hn;exact IV m g w0 w A x1 [] c hF hO hlt hg
 ·refine⟨_,rfl,fun args w=>by kernel_rfl,fun m g w0 w A fs n c hn hk hc hcm hF hO hlt hg=>?_⟩;obtain⟨x1,rfl,_⟩:=ks1 hk;subst hn;exact IV m g w0 w A x1 [] c hF hO hlt hg
 ·refine⟨_,rfl,fun args w=>by kernel_rfl,fun m g w0 w A fs n c hn hk hc hcm hF hO hlt hg=>?_⟩;obtain⟨x1,x2,x3,x4,rfl,_⟩:=ks4 hk;subst hn;exact PB m g w0 w A x1 x2 x3 x4 [] c hF hO hlt hg
 ·refine⟨_,rfl,fun args w=>by kernel_rfl,fun m g w0 w A fs n c hn hk hc hcm hF hO hlt hg=>?_⟩;obtain⟨x1,rfl,_⟩:=ks1 hk;subst hn;exact dL m g w0 w A x1 [] c hF hO hlt hg
 ·refine⟨_,rfl,fun args w=>by kernel_rfl,fun m g w0 w A fs n c hn hk hc hcm hF hO hlt hg=>?_⟩;obtain⟨x1,rfl,_⟩:=ks1 hk;subst hn;exact IV m g w0 w A x1 [] c hF hO hlt hg
 ·refine⟨_,rfl,fun args w=>by kernel_rfl,fun m g w0 w A fs n c hn hk hc hcm hF hO hlt hg=>?_⟩;obtain⟨x1,rfl,_⟩:=ks1 hk;subst hn;exact YR m g w0 w A x1 [] c hF hO hlt hg
 ·refine⟨_,rfl,fun args w=>by kernel_rfl,fun m g w0 w A fs n c hn hk hc hcm hF hO hlt hg=>?_⟩;obtain⟨x1,x2,x3,x4,rfl,_⟩:=ks4 hk;subst hn;exact VW m g w0 w A x1 x2 x3 x4 [] c hF hO hlt hg
theorem JV {P:Program} {fn:Func} {p t:Tmp} {T:TypeId} {R:Ending→World→Prop} {a:Act} {w:World} {g:Nat} {d:TypeDesc} (cs:Array Value) (h:fn.results=#[.cell p T,.tmp t]) (hp:a.tmps.getD p undef = .pointer (some ⟨g,0,none⟩)) (hd:a.defers=[])
  (hg:w.heap[g]? = some (.cells cs T (0,0))) (hu:P.underlying T=some d) (hk:(match d with | .struct _ | .array _ _=>true|_=>false)=true) (hs:(P.info? T).map (·.size)=some cs.size)
  (hR:R (.returned (.tuple #[.agg cs,a.tmps.getD t undef])) w):bodyPost P fn R .ret a w:=by
 refine bodyPost_ret (v:=.tuple #[.agg cs,a.tmps.getD t undef]) ?_ hd hR;have hp':a.tmps[p]?.getD undef = .pointer (some ⟨g,0,none⟩):=by simpa using hp
 simp[results,h,hp',asAddr,run_loadVar_row (P:=P) w g T T cs (0,0) d hg hu hk hs]
def RP (k:Nat) (KA:Option Addr):Value:=.agg #[.string (AU k),.slice KA (AH k).length (AH k).length,rfn (rget k),rfn (rput k),rfn (rask k)]
def RulePost (w:World) (k:Nat):Ending→World→Prop:=fun e w'=>Only [] w w'∧∃KA:Option Addr,e = .returned (.tuple #[RP k KA,.bool true])∧RdI w' KA (AH k)
theorem UU (q k:Nat) (h1:1≤k) (h2:k≤10) (w:World):(Instr.index 133 (.agg (PN q)) (.int .i64 (k:Int))).run Tryz.prog w = .ok (RP k (MY q k)) w:=by
 rcases k10 h1 h2 with rfl|rfl|rfl|rfl|rfl|rfl|rfl|rfl|rfl|rfl<;>kernel_rfl
theorem rule_row {w:World} {g:Nat} {t:TypeId} {a0 a1 a2 a3 a4 b0 b1 b2 b3 b4:Value} (h:Blk w g t [a0,a1,a2,a3,a4]):Blk (((((w.setCell ⟨g,0,none⟩ b0).setCell ⟨g,1,none⟩ b1).setCell ⟨g,2,none⟩ b2).setCell ⟨g,3,none⟩ b3).setCell ⟨g,4,none⟩ b4) g t [b0,b1,b2,b3,b4]:=(((((h.set_ 0 b0).set_ 1 b1).set_ 2 b2).set_ 3 b3).set_ 4 b4)
theorem XK {L:List Nat} {w0 w:World} {g:Nat} {b0 b1 b2 b3 b4:Value} (hg:g∈L∨w0.heap.size≤g) (h:Only L w0 w):Only L w0 (((((w.setCell ⟨g,0,none⟩ b0).setCell ⟨g,1,none⟩ b1).setCell ⟨g,2,none⟩ b2).setCell ⟨g,3,none⟩ b3).setCell ⟨g,4,none⟩ b4):=
 (((((h.setCell (p:=⟨g,0,none⟩) hg _).setCell (p:=⟨g,1,none⟩) hg _).setCell (p:=⟨g,2,none⟩) hg _).setCell (p:=⟨g,3,none⟩) hg _).setCell (p:=⟨g,4,none⟩) hg _)
theorem rof_any (k:Nat) (h1:1≤k) (h2:k≤10) (w:World):Calls Tryz.prog 41 #[.int .i64 (k:Int)] w (RulePost w k):=by
 have i1: ¬(k:Int)<1:=by omega
 have i2: ¬(10:Int)<(k:Int):=by omega
 obtain⟨w1,hw1⟩: ∃w1,w1=w.alloc (.cells #[.string ⟨#[]⟩,.slice none 0 0,.nilFunc,.nilFunc,.nilFunc] 114):=⟨_,rfl⟩;have P1:Only [] w w1:=by rw[hw1];exact(Only.refl _ _).alloc _
 have K1:Blk w1 w.heap.size 114 [.string ⟨#[]⟩,.slice none 0 0,.nilFunc,.nilFunc,.nilFunc]:=by rw[hw1];exact Blk.new w _ _
 have RU:=XL w1;have hix:=fun w'=>UU w1.heap.size k h1 h2 w';unfold RP rfn at hix;obtain⟨KA,hKA⟩: ∃KA,MY w1.heap.size k=KA:=⟨_,rfl⟩;obtain⟨tb,htb⟩: ∃tb,PN w1.heap.size=tb:=⟨_,rfl⟩;obtain⟨nm,hnm⟩: ∃nm,AU k=nm:=⟨_,rfl⟩;obtain⟨n,hn⟩: ∃n,(AH k).length=n:=⟨_,rfl⟩;obtain⟨F1,hF1⟩: ∃F,rget k=F:=⟨_,rfl⟩;obtain⟨F2,hF2⟩: ∃F,rput k=F:=⟨_,rfl⟩;obtain⟨F3,hF3⟩: ∃F,rask k=F:=⟨_,rfl⟩;rw[hKA,htb,hnm,hn,hF1,hF2,hF3] at hix;rw[htb] at RU;have hv:RP k KA = .agg #[.string nm,.slice KA n n,.func (Fn.func F1) #[] #[],.func (Fn.func F2) #[] #[],.func (Fn.func F3) #[] #[]]:=by unfold RP rfn;rw[hnm,hn,hF1,hF2,hF3]
 replace hv:=AB hv;replace hKA:=AB hKA;replace htb:=AB htb;replace hnm:=AB hnm;replace hn:=AB hn;replace hF1:=AB hF1;replace hF2:=AB hF2;replace hF3:=AB hF3;go_enter Tryz.func41,Tryz.ntmps41
 go_wp2_with fail
 rw[←hw1];replace hw1:=AB hw1;go_call RU as e w2 ⟨rfl,P2,z2,R2⟩
 clear RU;have R2:=R2 k h1 h2;rw[hKA.out] at R2;replace z2:=AB z2;have K2:=K1.only P2 (by simp);have c0:=K2.cell 0;have c1:=K2.cell 1;have c2:=K2.cell 2;have c3:=K2.cell 3;have c4:=K2.cell 4;have f0:=K2.frozen 0;have f1:=K2.frozen 1;have f2:=K2.frozen 2;have f3:=K2.frozen 3;have f4:=K2.frozen 4;simp only[List.getElem?_cons_zero,List.getElem?_cons_succ] at c0 c1 c2 c3 c4;go_wp2_with fail
 (try simp only[Exit.inBlock,Exit.then])
 refine JV #[.string nm,.slice KA n n,.func (Fn.func F1) #[] #[],.func (Fn.func F2) #[] #[],.func (Fn.func F3) #[] #[]] rfl (by rfl) (by rfl) (rule_row K2) Tryz.underlying114 rfl (by kernel_rfl) ?_;have O3:=XK (L:=[]) (w0:=w) (g:=w.heap.size) (b0:=.string nm) (b1:=.slice KA n n) (b2:=.func (Fn.func F1) #[] #[]) (b3:=.func (Fn.func F2) #[] #[]) (b4:=.func (Fn.func F3) #[] #[]) (.inr (Nat.le_refl _)) (P1.trans P2 (by simp));have O4:=XK (L:=[w.heap.size]) (w0:=w2) (w:=w2) (g:=w.heap.size) (b0:=.string nm) (b1:=.slice KA n n) (b2:=.func (Fn.func F1) #[] #[]) (b3:=.func (Fn.func F2) #[] #[]) (b4:=.func (Fn.func F3) #[] #[]) (.inl (by simp)) (Only.refl _ _);refine⟨O3,KA,by rw[hv.out];rfl,RdG.onlyL R2 O4 (fun a ha h0=>?_)⟩;rw[←hKA.out] at ha;have:=K1.lt;unfold MY at ha;split at ha;·cases ha
 ·injection ha with ha;rw[←ha];simp;omega
theorem rof_none (k:Int) (h: ¬(1≤k∧k≤10)) (w:World):Calls Tryz.prog 41 #[.int .i64 k] w fun e w'=>Only [] w w'∧e = .returned (.tuple #[.agg #[.string ⟨#[]⟩,.slice none 0 0,.nilFunc,.nilFunc,.nilFunc],.bool false]):=by
 have K1:Blk (w.alloc (.cells #[.string ⟨#[]⟩,.slice none 0 0,.nilFunc,.nilFunc,.nilFunc] 114)) w.heap.size 114 [.string ⟨#[]⟩,.slice none 0 0,.nilFunc,.nilFunc,.nilFunc]:=Blk.new w _ _;have O1:Only [] w (w.alloc (.cells #[.string ⟨#[]⟩,.slice none 0 0,.nilFunc,.nilFunc,.nilFunc] 114)):=(Only.refl _ _).alloc _;by_cases h1:k<1
 ·clear h;go_enter Tryz.func41,Tryz.ntmps41
  go_wp2_with fail
  (try simp only[Exit.inBlock,Exit.then])
  refine JV #[.string ⟨#[]⟩,.slice none 0 0,.nilFunc,.nilFunc,.nilFunc] rfl (by rfl) (by rfl) K1 Tryz.underlying114 rfl (by kernel_rfl) ?_;exact⟨O1,rfl⟩
 ·have h2:10<k:=by omega
  clear h;go_enter Tryz.func41,Tryz.ntmps41
  go_wp2_with fail
  (try simp only[Exit.inBlock,Exit.then])
  refine JV #[.string ⟨#[]⟩,.slice none 0 0,.nilFunc,.nilFunc,.nilFunc] rfl (by rfl) (by rfl) K1 Tryz.underlying114 rfl (by kernel_rfl) ?_;exact⟨O1,rfl⟩
theorem WU (c:UInt8): ∀l:List UInt8,decide (0≤Lib.indexByte l c)=decide (c∈l)
 |[]=>by simp[Lib.indexByte]
 |b::l=>by
  have ih:=WU c l;have hge:=Lib.indexByte_ge l c;unfold Lib.indexByte;by_cases hb:b=c
  ·subst hb;simp
  ·have hcb: ¬c=b:=fun e=>hb e.symm;rw[if_neg (by simpa using hb)];by_cases h1:Lib.indexByte l c = -1
   ·rw[h1] at ih⊢;simp[hcb] at ih⊢;exact ih
   ·rw[if_neg (by simpa using h1)];have h0:0≤Lib.indexByte l c:=by omega
    rw[decide_eq_true h0] at ih;rw[decide_eq_true (show 0≤Lib.indexByte l c+1 by omega)];have:=of_decide_eq_true ih.symm;simp[this]
theorem rhas_any (s:ByteArray) (w:World):Calls Tryz.prog 133 #[.string s,.string ⟨#[61]⟩] w fun e w'=>e = .returned (.bool (OS s))∧w=w':=
 (Tryz.strings_Contains_one s 61 w).mono fun e w' ⟨h1,h2⟩=>⟨by rw[h1,WU];rfl,h2.symm⟩
section
variable (m : RQ) (g : Nat) (w : World)
theorem IS:Calls Tryz.prog 79 #[.pointer (some ⟨g,0,none⟩)] w fun e w'=>e = .returned (.int .i64 0)∧Only [] w w':=by
 go_enter Tryz.func79,Tryz.ntmps79
 go_wp2
 go_ret
 exact⟨rfl,Only.refl _ _⟩
theorem OD (hg:Blk w g 119 m.cells) (hm:m.ok w):Calls Tryz.prog 83 #[.pointer (some ⟨g,0,none⟩)] w fun e w'=>e = .returned (.int .i64 (BV m.text 1))∧Only [] w w':=by
 have c1:w.cell? ⟨g,1,none⟩=some (.string m.text):=hg.cell 1;have T:=KQ m.text 1 w hm.text;go_enter Tryz.func83,Tryz.ntmps83
 go_wp2_with fail
 go_call T as e x ⟨rfl,rfl⟩
 clear T;go_wp2_with fail
 go_ret
 exact⟨rfl,Only.refl _ _⟩
theorem XZ (hg:Blk w g 119 m.cells) (hm:m.ok w):Calls Tryz.prog 82 #[.pointer (some ⟨g,0,none⟩)] w fun e w'=>e = .returned (.int .i64 (CK m.text.size))∧Only [] w w':=by
 have c1:w.cell? ⟨g,1,none⟩=some (.string m.text):=hg.cell 1;have T:=MR m.text.size w;go_enter Tryz.func82,Tryz.ntmps82
 go_wp2_with fail
 go_call T as e x ⟨rfl,rfl⟩
 clear T;go_wp2_with fail
 go_ret
 exact⟨rfl,Only.refl _ _⟩
theorem aB (hg:Blk w g 119 m.cells) (hm:m.ok w):Calls Tryz.prog 73 #[.pointer (some ⟨g,0,none⟩)] w fun e w'=>e = .returned (.int .i64 (DF [BV m.text 0,CK m.modes.length]))∧Only [] w w':=by
 have hlt:=hg.lt;go_enter Tryz.func73,Tryz.ntmps73
 go_wp2_with fail
 have hI:(fun w':World=>Blk w' g 119 m.cells) { w with drawn:=w.drawn+1 }:=hg;refine AV (fun w':World=>Blk w' g 119 m.cells) [] (by kernel_rfl) ?_;refine wpAnyE_tg 0 (v:=(.pointer (some ⟨g,0,none⟩))) rfl hI ?_;refine wpAnyE_tg 1 (v:=(.pointer (some ⟨g,0,none⟩))) rfl hI ?_;refine wpAnyE_tg 2 (v:=(.pointer (some ⟨g,0,none⟩))) rfl hI ?_;refine wpAnyE_tg 3 (v:=(.pointer (some ⟨g,1,none⟩))) rfl hI ?_;refine wpAnyE_tk 4 (v:=(.string m.text)) rfl hI (fun w' hw'=>by have y0:w'.cell? ⟨g,1,none⟩=some (.string m.text):=hw'.cell 1;go_simp) ?_;refine wpAnyE_tg 6 (v:=(.pointer (some ⟨g,0,none⟩))) rfl hI ?_;refine wpAnyE_tg 7 (v:=(.pointer (some ⟨g,0,none⟩))) rfl hI ?_;refine wpAnyE_tg 8 (v:=(.pointer (some ⟨g,0,none⟩))) rfl hI ?_;refine wpAnyE_tg 9 (v:=(.pointer (some ⟨g,8,none⟩))) rfl hI ?_;refine wpAnyE_tk 10 (v:=(.slice m.mA m.modes.length m.mc)) rfl hI (fun w' hw'=>by have y0:w'.cell? ⟨g,8,none⟩=some (.slice m.mA m.modes.length m.mc):=hw'.cell 8;go_simp) ?_;refine wpAnyE_tg 11 (v:=(.int .i64 (m.modes.length:Int))) rfl hI ?_;have T:=KQ m.text 0 w.drew hm.text;refine AG 5 rfl (by kernel_rfl) hI (fun K hK=>?_);rw[if_pos (by kernel_rfl)];go_simp
 go_call T as e x ⟨rfl,rfl⟩
 clear T;refine hK _ _ ?_;clear hK K;have T:=MR (m.modes.length) w.drew;refine AG 12 rfl (by kernel_rfl) hI (fun K hK=>?_);rw[if_pos (by kernel_rfl)];go_simp
 go_call T as e x ⟨rfl,rfl⟩
 clear T;refine hK _ _ ?_;clear hK K;refine AG 13 rfl (by kernel_rfl) hI (fun K hK=>?_);rw[if_pos (by kernel_rfl)];go_simp
 refine hK _ _ ?_;clear hK K;have PL:Only [] w ((w.alloc (.cells #[.int .i64 (BV m.text 0),.int .i64 (CK m.modes.length)] 65)).drew):=((Only.refl [] w).alloc _).drew;have hIL:(fun w':World=>Blk w' g 119 m.cells) ((w.alloc (.cells #[.int .i64 (BV m.text 0),.int .i64 (CK m.modes.length)] 65)).drew):=hg.only PL (by simp);have RL:RdI ((w.alloc (.cells #[.int .i64 (BV m.text 0),.int .i64 (CK m.modes.length)] 65)).drew) (some ⟨w.heap.size,0,none⟩) [(BV m.text 0),(CK m.modes.length)]:=GE (Blk.new w 65 ([(BV m.text 0),(CK m.modes.length)].map (.int .i64)));have T:=NO (some ⟨w.heap.size,0,none⟩) [(BV m.text 0),(CK m.modes.length)] 2 _ RL (by simp[maxLen]);refine AG 14 rfl (by kernel_rfl) hIL (fun K hK=>?_);rw[if_pos (by kernel_rfl)];go_simp
 go_call T as e x ⟨rfl,rfl⟩
 clear T;refine hK _ _ ?_;clear hK K;refine wpAnyE_tg 15 (v:=(.int .i64 (DF [(BV m.text 0),(CK m.modes.length)]))) rfl hIL ?_;refine AT (by kernel_rfl) hIL ?_;simp only[Exit.then];go_wp2_with fail
 go_ret
 exact⟨rfl,PL⟩
theorem VP (hg:Blk w g 119 m.cells) (hm:m.ok w):Calls Tryz.prog 92 #[.pointer (some ⟨g,0,none⟩)] w fun e w'=>e = .returned (.int .i64 (DF [BV m.text 1,BV m.lang 0,CK m.value.size]))∧Only [] w w':=by
 have hlt:=hg.lt;go_enter Tryz.func92,Tryz.ntmps92
 go_wp2_with fail
 have hI:(fun w':World=>Blk w' g 119 m.cells) { w with drawn:=w.drawn+1 }:=hg;refine AV (fun w':World=>Blk w' g 119 m.cells) [] (by kernel_rfl) ?_;refine wpAnyE_tg 0 (v:=(.pointer (some ⟨g,0,none⟩))) rfl hI ?_;refine wpAnyE_tg 1 (v:=(.pointer (some ⟨g,0,none⟩))) rfl hI ?_;refine wpAnyE_tg 2 (v:=(.pointer (some ⟨g,0,none⟩))) rfl hI ?_;refine wpAnyE_tg 3 (v:=(.pointer (some ⟨g,1,none⟩))) rfl hI ?_;refine wpAnyE_tk 4 (v:=(.string m.text)) rfl hI (fun w' hw'=>by have y0:w'.cell? ⟨g,1,none⟩=some (.string m.text):=hw'.cell 1;go_simp) ?_;refine wpAnyE_tg 6 (v:=(.pointer (some ⟨g,0,none⟩))) rfl hI ?_;refine wpAnyE_tg 7 (v:=(.pointer (some ⟨g,0,none⟩))) rfl hI ?_;refine wpAnyE_tg 8 (v:=(.pointer (some ⟨g,0,none⟩))) rfl hI ?_;refine wpAnyE_tg 9 (v:=(.pointer (some ⟨g,3,none⟩))) rfl hI ?_;refine wpAnyE_tk 10 (v:=(.string m.lang)) rfl hI (fun w' hw'=>by have y0:w'.cell? ⟨g,3,none⟩=some (.string m.lang):=hw'.cell 3;go_simp) ?_;refine wpAnyE_tg 12 (v:=(.pointer (some ⟨g,0,none⟩))) rfl hI ?_;refine wpAnyE_tg 13 (v:=(.pointer (some ⟨g,0,none⟩))) rfl hI ?_;refine wpAnyE_tg 14 (v:=(.pointer (some ⟨g,0,none⟩))) rfl hI ?_;refine wpAnyE_tg 15 (v:=(.pointer (some ⟨g,2,none⟩))) rfl hI ?_;refine wpAnyE_tk 16 (v:=(.string m.value)) rfl hI (fun w' hw'=>by have y0:w'.cell? ⟨g,2,none⟩=some (.string m.value):=hw'.cell 2;go_simp) ?_;refine wpAnyE_tg 17 (v:=(.int .i64 (m.value.size:Int))) rfl hI ?_;have T:=KQ m.text 1 w.drew hm.text;refine AG 5 rfl (by kernel_rfl) hI (fun K hK=>?_);rw[if_pos (by kernel_rfl)];go_simp
 go_call T as e x ⟨rfl,rfl⟩
 clear T;refine hK _ _ ?_;clear hK K;have T:=KQ m.lang 0 w.drew hm.lang;refine AG 11 rfl (by kernel_rfl) hI (fun K hK=>?_);rw[if_pos (by kernel_rfl)];go_simp
 go_call T as e x ⟨rfl,rfl⟩
 clear T;refine hK _ _ ?_;clear hK K;have T:=MR (m.value.size) w.drew;refine AG 18 rfl (by kernel_rfl) hI (fun K hK=>?_);rw[if_pos (by kernel_rfl)];go_simp
 go_call T as e x ⟨rfl,rfl⟩
 clear T;refine hK _ _ ?_;clear hK K;refine AG 19 rfl (by kernel_rfl) hI (fun K hK=>?_);rw[if_pos (by kernel_rfl)];go_simp
 refine hK _ _ ?_;clear hK K;have PL:Only [] w ((w.alloc (.cells #[.int .i64 (BV m.text 1),.int .i64 (BV m.lang 0),.int .i64 (CK m.value.size)] 65)).drew):=((Only.refl [] w).alloc _).drew;have hIL:(fun w':World=>Blk w' g 119 m.cells) ((w.alloc (.cells #[.int .i64 (BV m.text 1),.int .i64 (BV m.lang 0),.int .i64 (CK m.value.size)] 65)).drew):=hg.only PL (by simp);have RL:RdI ((w.alloc (.cells #[.int .i64 (BV m.text 1),.int .i64 (BV m.lang 0),.int .i64 (CK m.value.size)] 65)).drew) (some ⟨w.heap.size,0,none⟩) [(BV m.text 1),(BV m.lang 0),(CK m.value.size)]:=GE (Blk.new w 65 ([(BV m.text 1),(BV m.lang 0),(CK m.value.size)].map (.int .i64)));have T:=NO (some ⟨w.heap.size,0,none⟩) [(BV m.text 1),(BV m.lang 0),(CK m.value.size)] 3 _ RL (by simp[maxLen]);refine AG 20 rfl (by kernel_rfl) hIL (fun K hK=>?_);rw[if_pos (by kernel_rfl)];go_simp
 go_call T as e x ⟨rfl,rfl⟩
 clear T;refine hK _ _ ?_;clear hK K;refine wpAnyE_tg 21 (v:=(.int .i64 (DF [(BV m.text 1),(BV m.lang 0),(CK m.value.size)]))) rfl hIL ?_;refine AT (by kernel_rfl) hIL ?_;simp only[Exit.then];go_wp2_with fail
 go_ret
 exact⟨rfl,PL⟩
theorem aA (hg:Blk w g 119 m.cells) (hm:m.ok w):Calls Tryz.prog 76 #[.pointer (some ⟨g,0,none⟩)] w fun e w'=>e = .returned (.int .i64 (if OS m.text then 4 else DF [BV m.text 1,CK m.value.size]))∧Only [] w w':=by
 have c1:w.cell? ⟨g,1,none⟩=some (.string m.text):=hg.cell 1;have hlt:=hg.lt;have T:=rhas_any m.text w;obtain⟨b,hb⟩: ∃b,OS m.text=b:=⟨_,rfl⟩;rw[hb] at T⊢;replace hb:=AB hb;go_enter Tryz.func76,Tryz.ntmps76
 go_wp2_with fail
 go_call T as e x ⟨rfl,rfl⟩
 clear T;cases b with
 |true=>
  go_wp2_with fail
  go_ret
  exact⟨rfl,Only.refl _ _⟩
 |false=>
 go_wp2_with fail
 have hI:(fun w':World=>Blk w' g 119 m.cells) { w with drawn:=w.drawn+1 }:=hg;refine AV (fun w':World=>Blk w' g 119 m.cells) [] (by kernel_rfl) ?_;refine wpAnyE_tg 0 (v:=(.pointer (some ⟨g,0,none⟩))) rfl hI ?_;refine wpAnyE_tg 1 (v:=(.pointer (some ⟨g,0,none⟩))) rfl hI ?_;refine wpAnyE_tg 2 (v:=(.pointer (some ⟨g,0,none⟩))) rfl hI ?_;refine wpAnyE_tg 3 (v:=(.pointer (some ⟨g,1,none⟩))) rfl hI ?_;refine wpAnyE_tk 4 (v:=(.string m.text)) rfl hI (fun w' hw'=>by have y0:w'.cell? ⟨g,1,none⟩=some (.string m.text):=hw'.cell 1;go_simp) ?_;refine wpAnyE_tg 6 (v:=(.pointer (some ⟨g,0,none⟩))) rfl hI ?_;refine wpAnyE_tg 7 (v:=(.pointer (some ⟨g,0,none⟩))) rfl hI ?_;refine wpAnyE_tg 8 (v:=(.pointer (some ⟨g,0,none⟩))) rfl hI ?_;refine wpAnyE_tg 9 (v:=(.pointer (some ⟨g,2,none⟩))) rfl hI ?_;refine wpAnyE_tk 10 (v:=(.string m.value)) rfl hI (fun w' hw'=>by have y0:w'.cell? ⟨g,2,none⟩=some (.string m.value):=hw'.cell 2;go_simp) ?_;refine wpAnyE_tg 11 (v:=(.int .i64 (m.value.size:Int))) rfl hI ?_;have T:=KQ m.text 1 w.drew hm.text;refine AG 5 rfl (by kernel_rfl) hI (fun K hK=>?_);rw[if_pos (by kernel_rfl)];go_simp
 go_call T as e x ⟨rfl,rfl⟩
 clear T;refine hK _ _ ?_;clear hK K;have T:=MR (m.value.size) w.drew;refine AG 12 rfl (by kernel_rfl) hI (fun K hK=>?_);rw[if_pos (by kernel_rfl)];go_simp
 go_call T as e x ⟨rfl,rfl⟩
 clear T;refine hK _ _ ?_;clear hK K;refine AG 13 rfl (by kernel_rfl) hI (fun K hK=>?_);rw[if_pos (by kernel_rfl)];go_simp
 refine hK _ _ ?_;clear hK K;have PL:Only [] w ((w.alloc (.cells #[.int .i64 (BV m.text 1),.int .i64 (CK m.value.size)] 65)).drew):=((Only.refl [] w).alloc _).drew;have hIL:(fun w':World=>Blk w' g 119 m.cells) ((w.alloc (.cells #[.int .i64 (BV m.text 1),.int .i64 (CK m.value.size)] 65)).drew):=hg.only PL (by simp);have RL:RdI ((w.alloc (.cells #[.int .i64 (BV m.text 1),.int .i64 (CK m.value.size)] 65)).drew) (some ⟨w.heap.size,0,none⟩) [(BV m.text 1),(CK m.value.size)]:=GE (Blk.new w 65 ([(BV m.text 1),(CK m.value.size)].map (.int .i64)));have T:=NO (some ⟨w.heap.size,0,none⟩) [(BV m.text 1),(CK m.value.size)] 2 _ RL (by simp[maxLen]);refine AG 14 rfl (by kernel_rfl) hIL (fun K hK=>?_);rw[if_pos (by kernel_rfl)];go_simp
 go_call T as e x ⟨rfl,rfl⟩
 clear T;refine hK _ _ ?_;clear hK K;refine wpAnyE_tg 15 (v:=(.int .i64 (DF [(BV m.text 1),(CK m.value.size)]))) rfl hIL ?_;refine AT (by kernel_rfl) hIL ?_;simp only[Exit.then];go_wp2_with fail
 go_ret
 exact⟨rfl,PL⟩
end
theorem ask_any (k:Nat) (h1:1≤k) (h2:k≤10): ∃F:FuncId,rask k=F∧(∀(args:Array Value) (w:World),(callFunc F args).run Tryz.prog w = .ok (.enter F args) w)∧
  ∀(w:World) (m:RQ) (g:Nat),Blk w g 119 m.cells→m.ok w→Calls Tryz.prog F #[.pointer (some ⟨g,0,none⟩)] w (fun e w'=>e = .returned (.int .i64 (CO m k))∧Only [] w w'):=by
 rcases k10 h1 h2 with rfl|rfl|rfl|rfl|rfl|rfl|rfl|rfl|rfl|rfl;·exact⟨_,rfl,fun args w=>by kernel_rfl,fun w m g hg hm=>aB m g w hg hm⟩
 ·exact⟨_,rfl,fun args w=>by kernel_rfl,fun w m g hg hm=>aA m g w hg hm⟩
 ·exact⟨_,rfl,fun args w=>by kernel_rfl,fun w m g hg hm=>IS g w⟩
 ·exact⟨_,rfl,fun args w=>by kernel_rfl,fun w m g hg hm=>XZ m g w hg hm⟩
 ·exact⟨_,rfl,fun args w=>by kernel_rfl,fun w m g hg hm=>OD m g w hg hm⟩
 ·exact⟨_,rfl,fun args w=>by kernel_rfl,fun w m g hg hm=>IS g w⟩
 ·exact⟨_,rfl,fun args w=>by kernel_rfl,fun w m g hg hm=>IS g w⟩
 ·exact⟨_,rfl,fun args w=>by kernel_rfl,fun w m g hg hm=>OD m g w hg hm⟩
 ·exact⟨_,rfl,fun args w=>by kernel_rfl,fun w m g hg hm=>IS g w⟩
 ·exact⟨_,rfl,fun args w=>by kernel_rfl,fun w m g hg hm=>VP m g w hg hm⟩
def rset (w:World) (q:Nat) (m:RQ):World:=(((((((((((w.setCell ⟨q,0,none⟩ (.int .i64 m.kind)).setCell ⟨q,1,none⟩ (.string m.text)).setCell ⟨q,2,none⟩ (.string m.value)).setCell ⟨q,3,none⟩ (.string m.lang)).setCell ⟨q,4,none⟩ (.int .u32 m.cols)).setCell ⟨q,5,none⟩ (.int .u32 m.rows)).setCell ⟨q,6,none⟩ (.int .u32 m.width)).setCell ⟨q,7,none⟩ (.int .u32 m.height)).setCell ⟨q,8,none⟩ (.slice m.mA m.modes.length m.mc)).setCell ⟨q,9,none⟩ (.bool m.on)).setCell ⟨q,10,none⟩ (.int .u32 m.code))
theorem DG {w:World} {q:Nat} {m0:RQ} (m:RQ) (K:Blk w q 63 m0.cells):Blk (rset w q m) q 63 m.cells:=(((((((((((K.set_ 0 _).set_ 1 _).set_ 2 _).set_ 3 _).set_ 4 _).set_ 5 _).set_ 6 _).set_ 7 _).set_ 8 _).set_ 9 _).set_ 10 _)
theorem CC {L:List Nat} {w0 w:World} {q:Nat} (m:RQ) (hq:q∈L∨w0.heap.size≤q) (h:Only L w0 w):Only L w0 (rset w q m):=(((((((((((h.setCell (p:=⟨q,0,none⟩) hq _).setCell (p:=⟨q,1,none⟩) hq _).setCell (p:=⟨q,2,none⟩) hq _).setCell (p:=⟨q,3,none⟩) hq _).setCell (p:=⟨q,4,none⟩) hq _).setCell (p:=⟨q,5,none⟩) hq _).setCell (p:=⟨q,6,none⟩) hq _).setCell (p:=⟨q,7,none⟩) hq _).setCell (p:=⟨q,8,none⟩) hq _).setCell (p:=⟨q,9,none⟩) hq _).setCell (p:=⟨q,10,none⟩) hq _)
theorem BH {fn:Func} {p t:Tmp} {R:Ending→World→Prop} {a:Act} {w:World} {g:Nat} (m:RQ) (h:fn.results=#[.cell p 63,.tmp t]) (hp:a.tmps.getD p undef = .pointer (some ⟨g,0,none⟩)) (hd:a.defers=[])
  (hg:Blk w g 63 m.cells) (hR:R (.returned (.tuple #[m.val,a.tmps.getD t undef])) w):bodyPost Tryz.prog fn R .ret a w:=
 JV m.cells.toArray h hp hd hg Tryz.underlying63 rfl (by unfold RQ.cells;kernel_rfl) hR
def WH (m:RQ) (w:World):Prop:=∀a,m.mA=some a→∀i,i<m.modes.length→w.frozen? (a.add i)=false
theorem WH.onlyL {w w':World} {m:RQ} {L:List Nat} (h:WH m w) (ho:m.ok w) (hb:Only L w w') (hL: ∀a,m.mA=some a→0<m.modes.length→a.block∉L):WH m w':=by
 intro a ha i hi;obtain⟨b,off,e,hlt,_⟩:=ho.modes (by omega);rw[ha] at e;injection e with e;refine(World.frozen?_of_block (w:=w) ?_).trans (h a ha i hi);rw[IY];exact hb.block _ (by rw[e];exact hlt) (hL a ha (by omega))
theorem RQ.ok.onlyL {w w':World} {L:List Nat} {m:RQ} (h:m.ok w) (hb:Only L w w') (hn: ∀a,m.mA=some a→0<m.modes.length→a.block∉L):m.ok w':=
 { h with modes:=RdG.onlyL h.modes hb hn }
def ZV (w:World) (s:ByteArray) (l:List Int):Ending→World→Prop:=fun e w'=>Only [] w w'∧∃(m:RQ) (E:Int),e = .returned (.tuple #[m.val,.int .i64 E])∧m.ok w'∧(∀a,m.mA=some a→w.heap.size≤a.block)∧WH m w'∧BA s l m E
theorem QX (B:Nat): ∀a,AK.mA=some a→B≤a.block:=fun a ha=>by simp[AK] at ha
theorem NZ (w:World):WH AK w:=fun a ha=>by simp[AK] at ha
structure PutOk (w : World) (B : Nat) (m : RQ) : Prop where
  ok : m.ok w
  new : ∀ a, m.mA = some a → B ≤ a.block
  soft : WH m w
theorem put_ok {w:World} {B:Nat} {fs:List FD} (k:Nat) (h1:1≤k) (h2:k≤10) (hk:fs.map (fun f=>f.pf.kind)=AH k) (hm: ∀f∈fs,FD.mine w f B) (hn: ∀f∈fs,U32 f.n∧InB f.text):PutOk w B (DH (AL k) k fs):=by
 have z0:PutOk w B (AL k):=⟨DY w k,fun a ha=>by simp[AL,AK] at ha,fun a ha=>by simp[AL,AK] at ha⟩;have hs: ∀f∈fs,(strOfNums f.text).size≤maxLen:=fun f hf=>by rw[cE];exact Nat.le_trans (hm f hf).ok.tle (hm f hf).ok.tmax
 have z:U32 0:=⟨by decide,by decide⟩;rcases k10 h1 h2 with rfl|rfl|rfl|rfl|rfl|rfl|rfl|rfl|rfl|rfl
 ·obtain⟨x1,x2,x3,x4,x5,x6,rfl,_⟩:=ks6 hk;exact⟨{ z0.ok with text:=hs x1 (by simp),nums:=⟨(hn x2 (by simp)).1,(hn x3 (by simp)).1,(hn x4 (by simp)).1,(hn x5 (by simp)).1,z⟩,modes:=(hm x6 (by simp)).ok.text,mle:=(hm x6 (by simp)).ok.tle,mmax:=(hm x6 (by simp)).ok.tmax,bytes:=(hn x6 (by simp)).2 },(hm x6 (by simp)).new.1,(hm x6 (by simp)).soft⟩
 ·obtain⟨x1,x2,rfl,_⟩:=ks2 hk;exact⟨{ z0.ok with text:=hs x1 (by simp),value:=hs x2 (by simp) },z0.new,z0.soft⟩
 ·exact z0
 ·obtain⟨x1,rfl,_⟩:=ks1 hk;exact⟨{ z0.ok with text:=hs x1 (by simp) },z0.new,z0.soft⟩
 ·obtain⟨x1,rfl,_⟩:=ks1 hk;exact⟨{ z0.ok with text:=hs x1 (by simp) },z0.new,z0.soft⟩
 ·obtain⟨x1,x2,x3,x4,rfl,_⟩:=ks4 hk;exact⟨{ z0.ok with nums:=⟨(hn x1 (by simp)).1,(hn x2 (by simp)).1,(hn x3 (by simp)).1,(hn x4 (by simp)).1,z⟩ },z0.new,z0.soft⟩
 ·obtain⟨x1,rfl,_⟩:=ks1 hk;exact⟨{ z0.ok with },z0.new,z0.soft⟩
 ·obtain⟨x1,rfl,_⟩:=ks1 hk;exact⟨{ z0.ok with text:=hs x1 (by simp) },z0.new,z0.soft⟩
 ·obtain⟨x1,rfl,_⟩:=ks1 hk;exact⟨{ z0.ok with nums:=⟨z,z,z,z,(hn x1 (by simp)).1⟩ },z0.new,z0.soft⟩
 ·obtain⟨x1,x2,x3,x4,rfl,_⟩:=ks4 hk;exact⟨{ z0.ok with text:=hs x1 (by simp),value:=hs x3 (by simp),lang:=hs x4 (by simp) },z0.new,z0.soft⟩
theorem IN {x y:ByteArray} (h: ¬x=y):(x.toList==y.toList)=false:=by
 rw[beq_eq_false_iff_ne];intro e;rw[ByteArray.toList_eq,ByteArray.toList_eq] at e;exact h (KG e)
theorem bW (q:Nat) (w:World):(Instr.index 133 (.agg (PN q)) (.int .i64 ((0:Nat):Int))).run Tryz.prog w = .ok (.agg #[.string ⟨#[]⟩,.slice none 0 0,.nilFunc,.nilFunc,.nilFunc]) w:=by kernel_rfl
theorem kinds_len (k:Nat):(AH k).length≤6:=by unfold AH;split<;>decide
theorem WO {s:ByteArray} (l:List Int) (h: ∀j,1≤j→j<11→AU j≠s):BA s l AK 8:=by
 unfold BA;cases hk:WV s.data.toList with
 |none=>exact⟨rfl,rfl⟩
 |some k=>
  obtain⟨h1,h2,e⟩:=IE hk;exact absurd (KG (by rw[BC,e])) (h k h1 (by omega))
theorem DQ {k:Nat} (h1:1≤k) (h2:k≤10) {l:List Int} {m:RQ} {E:Int} (h:DJ k l m E):BA (AU k) l m E:=by
 unfold BA;rw[BC,LF k h1 h2];exact h
theorem YV (s:ByteArray) (A:Option Addr) (l:List Int) (c:Nat) (i0:Int) (w:World) (hm:w.cell? ⟨0,0,none⟩=some (.int .i64 i0)) (h:Rd w A l) (hl: ∀x∈l,0≤x∧x<256) (hln:l.length≤140737488355000) (hlc:l.length≤c) (hlm:c≤maxLen) (hal: ∀a,A=some a→0<l.length→a.block<w.heap.size) :
  Calls Tryz.prog 28 #[.string s,.slice A l.length c] w (ZV w s l):=by
 obtain⟨ln,hn⟩: ∃ln,l.length=ln:=⟨_,rfl⟩;have h0:0<w.heap.size:=Nat.pos_of_ne_zero (fun e=>by
  have:=block_lt_of_cell hm;simp only at this;omega)
 obtain⟨w1,hw1⟩: ∃w1,w1=w.alloc (.cells #[.int .i64 0,.string ⟨#[]⟩,.string ⟨#[]⟩,.string ⟨#[]⟩,.int .u32 0,.int .u32 0,.int .u32 0,.int .u32 0,.slice none 0 0,.bool false,.int .u32 0] 63):=⟨_,rfl⟩;have P1:Only [] w w1:=by rw[hw1];exact(Only.refl _ _).alloc _
 have K1:Blk w1 w.heap.size 63 AK.cells:=by rw[hw1];exact Blk.new w _ _
 have RU:=XL w1;obtain⟨tb,htb⟩: ∃tb,PN w1.heap.size=tb:=⟨_,rfl⟩;have hix:=fun k h1 h2 w'=>UU w1.heap.size k h1 h2 w';have hix0:=fun w'=>bW w1.heap.size w';rw[htb] at RU hix0;replace hix: ∀k:Nat,1≤k→k≤10→∀w',(Instr.index 133 (.agg tb) (.int .i64 (k:Int))).run Tryz.prog w' = .ok (RP k (MY w1.heap.size k)) w':=fun k h1 h2 w'=>by rw[←htb];exact hix k h1 h2 w'
 rw[hn] at hln hlc⊢;replace hn:=AB hn;replace htb:=AB htb;replace hix:=AB hix;replace hix0:=AB hix0;go_enter Tryz.func28,Tryz.ntmps28
 go_wp2_with fail
 rw[←hw1];replace hw1:=AB hw1;go_call RU as e w2 ⟨rfl,P2,z2,R2⟩
 clear RU;replace z2:=AB z2;have K2:=K1.only P2 (by simp);have O2:Only [] w w2:=P1.trans P2 (by simp);replace R2:=AB R2;go_wp2_with fail
 go_loopw [13] (fun ii wr=>∃i:Nat,i≤11∧ii = .int .i64 i∧Hid (∀j,1≤j→j<i→AU j≠s)∧Only [] w2 wr) (fun ii _=>11-(intOf ii).toNat)
 case atStart=>exact⟨0,by omega,rfl,AB (fun j h1 h2=>by omega),Only.refl _ _⟩
 case round=>
  obtain⟨wo,rfl⟩: ∃wo:World,wo=wr:=⟨_,rfl⟩;obtain⟨i,hi,rfl,hne,O⟩:=hrel;by_cases hlt:i<11
  ·by_cases hi0:i=0
   ·have hx: ∀w',(Instr.index 133 (.agg tb) (.int .i64 (i:Int))).run Tryz.prog w' = .ok (.agg #[.string ⟨#[]⟩,.slice none 0 0,.nilFunc,.nilFunc,.nilFunc]) w':=fun w'=>by rw[hi0];exact hix0.out w'
    have ib:((i:Int)==0)=true:=by simp[hi0]
    have hle:i≤0:=by omega
    clear hi0;go_wp2_with fail
    go_roundw
    case rel=>exact⟨i+1,by omega,by go_num,AB (fun j h1 h2=>by omega),O.alloc _⟩
    case measure=>simp[intOf];omega
   ·have h1:1≤i:=by omega
    have h2:i≤10:=by omega
    have hx:=hix.out i h1 h2;have RKi:=R2.out i h1 h2;obtain⟨KA,hKA⟩: ∃KA,MY w1.heap.size i=KA:=⟨_,rfl⟩;rw[hKA] at hx RKi;unfold RP rfn at hx;obtain⟨F2,hF2,cF2,C2⟩:=rput_any i h1 h2;obtain⟨F3,hF3,cF3,C3⟩:=ask_any i h1 h2;obtain⟨F1,hF1⟩: ∃F,rget i=F:=⟨_,rfl⟩;obtain⟨n,hnk⟩: ∃n,(AH i).length=n:=⟨_,rfl⟩;obtain⟨nm,hnm⟩: ∃nm,AU i=nm:=⟨_,rfl⟩;rw[hF1,hF2,hF3,hnk,hnm] at hx;have ib:((i:Int)==0)=false:=by simp;omega
    replace hKA:=AB hKA;replace hF1:=AB hF1;replace hF2:=AB hF2;replace hF3:=AB hF3;replace C2:=AB C2;replace C3:=AB C3;by_cases hnn:nm=s
    ·have s1:(nm.toList==s.toList)=true:=by rw[hnn];simp
     have hsn:s=AU i:=by rw[←hnn,←hnm]
     replace hsn:=AB hsn;replace hnn:=AB hnn;replace hnm:=AB hnm;have B3:Blk (wo.alloc (.cells #[.string nm,.slice KA n n,.func (Fn.func F1) #[] #[],.func (Fn.func F2) #[] #[],.func (Fn.func F3) #[] #[]] 114)) wo.heap.size 114 [.string nm,.slice KA n n,.func (Fn.func F1) #[] #[],.func (Fn.func F2) #[] #[],.func (Fn.func F3) #[] #[]]:=Blk.new _ _ _;have P3:Only [] wo (wo.alloc (.cells #[.string nm,.slice KA n n,.func (Fn.func F1) #[] #[],.func (Fn.func F2) #[] #[],.func (Fn.func F3) #[] #[]] 114)):=(Only.refl _ _).alloc _;obtain⟨w3,hw3⟩: ∃w3,w3=wo.alloc (.cells #[.string nm,.slice KA n n,.func (Fn.func F1) #[] #[],.func (Fn.func F2) #[] #[],.func (Fn.func F3) #[] #[]] 114):=⟨_,rfl⟩;rw[←hw3] at B3 P3;have OO:Only [] w wo:=O2.trans O (by simp);have O3:Only [] w w3:=OO.trans P3 (by simp);have z3:=O3.size;have RD:=read_anyP w3 KA A (AH i) l n c i0 (AS O3 h0 (by simp) hm) ((RKi.only O).only P3) (h.only O3) hl (by have:=kinds_len i;omega) (by have:=hn.out;omega) (by have:=hn.out;omega) hlm (fun a ha h0=>by have:=hal a ha h0;omega);obtain⟨⟨E,ps⟩,hres⟩: ∃r,EI (AH i) l=r:=⟨_,rfl⟩;rw[hnk,hn.out,hres] at RD;have hgood:=DK (AH i) l hl;rw[hres] at hgood;have K3:=(K2.only O (by simp)).only P3 (by simp);replace hnk:=AB hnk;replace hres:=AB hres;replace hgood:=AB hgood;go_wp2_with fail
     rw[←hw3];replace hw3:=AB hw3;go_call RD as e w4 ⟨P4,Af,cf,fs,rfl,hfs,V4,H4⟩
     clear RD;(try dsimp only at hfs)
     have K4:=K3.only P4 (by simp);have O4:=O3.trans P4 (by simp);have B4:=B3.only P4 (by simp);have x3:=B4.cell 3;simp only[List.getElem?_cons_zero,List.getElem?_cons_succ] at x3;(try dsimp only)
     by_cases hE:E=0
     ·obtain⟨hg1,hg2⟩:=hgood.out hE;(try dsimp only at hg1 hg2)
      have hk:fs.map (fun f=>f.pf.kind)=AH i:=by rw[←hg1,←hfs,List.map_map];rfl
      have hfl:fs.length=n:=by rw[←hnk.out,←hk,List.length_map]
      have hff: ∀f∈fs,U32 f.n∧InB f.text:=fun f hf=>hg2 f.pf (by rw[←hfs];exact List.mem_map_of_mem hf);have RF:RdF w4 Af fs:=V4.rdF (fun f hf=>⟨(H4 f hf).1.ok,(hff f hf).1⟩);obtain⟨_,_,e1,hcf,hcm,_⟩:=V4.form;have e2:=(Value.slice.inj e1).2.2;rw[←e2] at hcf hcm;clear e1 e2;have PM:=put_ok i h1 h2 hk (fun f hf=>(H4 f hf).1) hff;have P5:Only [] w4 (w4.alloc (.cells #[.int .i64 (i:Int),.string ⟨#[]⟩,.string ⟨#[]⟩,.string ⟨#[]⟩,.int .u32 0,.int .u32 0,.int .u32 0,.int .u32 0,.slice none 0 0,.bool false,.int .u32 0] 119)):=(Only.refl _ _).alloc _;have K5:Blk (w4.alloc (.cells #[.int .i64 (i:Int),.string ⟨#[]⟩,.string ⟨#[]⟩,.string ⟨#[]⟩,.int .u32 0,.int .u32 0,.int .u32 0,.int .u32 0,.slice none 0 0,.bool false,.int .u32 0] 119)) w4.heap.size 119 (AL i).cells:=Blk.new _ _ _;have B5:=B4.only P5 (by simp);obtain⟨w5,hw5⟩: ∃w5,w5=w4.alloc (.cells #[.int .i64 (i:Int),.string ⟨#[]⟩,.string ⟨#[]⟩,.string ⟨#[]⟩,.int .u32 0,.int .u32 0,.int .u32 0,.int .u32 0,.slice none 0 0,.bool false,.int .u32 0] 119):=⟨_,rfl⟩;rw[←hw5] at P5 K5 B5;have CZ:=C2.out (AL i) w4.heap.size w4 w5 Af fs n cf hfl hk (by omega) hcm RF P5 (Nat.le_refl _) K5;obtain⟨M,hM⟩: ∃M,DH (AL i) i fs=M:=⟨_,rfl⟩;rw[hM] at CZ PM;rw[hfl];have hE2:(E !=0)=false:=by simpa using hE
      have hB4l:=B4.lt;have hne4: ¬wo.heap.size=w4.heap.size:=by omega
      have x3':=B5.cell 3;simp only[List.getElem?_cons_zero,List.getElem?_cons_succ] at x3';replace hE:=AB hE;replace hfl:=AB hfl;replace hk:=AB hk;replace hfs:=AB hfs;replace hg1:=AB hg1;replace hM:=AB hM;clear hff hg2 V4 H4;go_wp2_with fail
      rw[←hw5];replace hw5:=AB hw5;go_call CZ as e w6 ⟨rfl,P6,K6⟩
      clear CZ x3 x3';have B6:=B5.only P6 (by simp;omega);have x4:=B6.cell 4;simp only[List.getElem?_cons_zero,List.getElem?_cons_succ] at x4;have P46:Only [w4.heap.size] w4 w6:=(P5.mono (fun x hx=>by simp at hx)).trans P6 (fun x hx=>.inl hx);have hMb: ∀a,M.mA=some a→0<M.modes.length→a.block∉[w4.heap.size]:=fun a ha h0=>by
       have:=RdG.lt (mk:=.int .u8) PM.ok.modes h0 a ha;simp;omega
      have Mok:=PM.ok.onlyL P46 hMb;have Mso:=PM.soft.onlyL PM.ok P46 hMb;have CA:=C3.out w6 M _ K6 Mok;obtain⟨E2,hE2x⟩: ∃E2,CO M i=E2:=⟨_,rfl⟩;rw[hE2x] at CA;replace hE2x:=AB hE2x;go_wp2_with fail
      go_call CA as e w7 ⟨rfl,P7⟩
      clear CA x4;have O7:Only [] w w7:=(O4.trans P46 (fun x hx=>.inr (by simp at hx;have:=O4.size;omega))).trans P7 (by simp);have K7:=(K4.only P46 (by have:=K4.lt;have:=K1.lt;simp;omega)).only P7 (by simp);have KM:=K6.only P7 (by simp);have Mok7:=Mok.only P7;have Mso7:=Mso.onlyL Mok P7 (by simp);have g0:w7.cell? ⟨w.heap.size,0,none⟩=some (.int .i64 0):=K7.cell 0;have f0:=K7.frozen 0;have g1:w7.cell? ⟨w.heap.size,1,none⟩=some (.string ⟨#[]⟩):=K7.cell 1;have f1:=K7.frozen 1;have g2:w7.cell? ⟨w.heap.size,2,none⟩=some (.string ⟨#[]⟩):=K7.cell 2;have f2:=K7.frozen 2;have g3:w7.cell? ⟨w.heap.size,3,none⟩=some (.string ⟨#[]⟩):=K7.cell 3;have f3:=K7.frozen 3;have g4:w7.cell? ⟨w.heap.size,4,none⟩=some (.int .u32 0):=K7.cell 4;have f4:=K7.frozen 4;have g5:w7.cell? ⟨w.heap.size,5,none⟩=some (.int .u32 0):=K7.cell 5;have f5:=K7.frozen 5;have g6:w7.cell? ⟨w.heap.size,6,none⟩=some (.int .u32 0):=K7.cell 6;have f6:=K7.frozen 6;have g7:w7.cell? ⟨w.heap.size,7,none⟩=some (.int .u32 0):=K7.cell 7;have f7:=K7.frozen 7;have g8:w7.cell? ⟨w.heap.size,8,none⟩=some (.slice none 0 0):=K7.cell 8;have f8:=K7.frozen 8;have g9:w7.cell? ⟨w.heap.size,9,none⟩=some (.bool false):=K7.cell 9;have f9:=K7.frozen 9;have g10:w7.cell? ⟨w.heap.size,10,none⟩=some (.int .u32 0):=K7.cell 10;have f10:=K7.frozen 10;by_cases hz:E2=0
      ·have hzb:(E2 !=0)=false:=by simpa using hz
       have hD:BA s l M 0:=by
        rw[hsn.out];refine DQ h1 h2 ?_;unfold DJ;rw[hres.out,if_neg (by simpa using hE.out)];refine⟨fs,hfs.out,?_⟩;rw[hM.out,hE2x.out,if_pos hz];exact⟨rfl,rfl⟩
       replace hz:=AB hz;have b0:w7.cell? ⟨w4.heap.size,0,none⟩=some (.int .i64 M.kind):=KM.cell 0;have b1:w7.cell? ⟨w4.heap.size,1,none⟩=some (.string M.text):=KM.cell 1;have b2:w7.cell? ⟨w4.heap.size,2,none⟩=some (.string M.value):=KM.cell 2;have b3:w7.cell? ⟨w4.heap.size,3,none⟩=some (.string M.lang):=KM.cell 3;have b4:w7.cell? ⟨w4.heap.size,4,none⟩=some (.int .u32 M.cols):=KM.cell 4;have b5:w7.cell? ⟨w4.heap.size,5,none⟩=some (.int .u32 M.rows):=KM.cell 5;have b6:w7.cell? ⟨w4.heap.size,6,none⟩=some (.int .u32 M.width):=KM.cell 6;have b7:w7.cell? ⟨w4.heap.size,7,none⟩=some (.int .u32 M.height):=KM.cell 7;have b8:w7.cell? ⟨w4.heap.size,8,none⟩=some (.slice M.mA M.modes.length M.mc):=KM.cell 8;have b9:w7.cell? ⟨w4.heap.size,9,none⟩=some (.bool M.on):=KM.cell 9;have b10:w7.cell? ⟨w4.heap.size,10,none⟩=some (.int .u32 M.code):=KM.cell 10;go_wp2_with fail
       (try simp only[Exit.inBlock,Exit.then])
       refine BH (g:=w.heap.size) M rfl (by rfl) (by rfl) (DG M K7) ?_;have hx:=CC M (L:=[w.heap.size]) (w0:=w7) (w:=w7) (q:=w.heap.size) (.inl (by simp)) (Only.refl _ _);have hno: ∀a,M.mA=some a→0<M.modes.length→a.block∉[w.heap.size]:=fun a ha h0=>by
        have:=PM.new a ha;have:=K3.lt;simp;omega
       exact⟨CC M (.inr (Nat.le_refl _)) O7,M,0,rfl,Mok7.onlyL hx hno,fun a ha=>by have:=PM.new a ha;omega,Mso7.onlyL Mok7 hx hno,hD⟩
      ·have hzb:(E2 !=0)=true:=by simpa using hz
       have hD:BA s l AK E2:=by
        rw[hsn.out];refine DQ h1 h2 ?_;unfold DJ;rw[hres.out,if_neg (by simpa using hE.out)];refine⟨fs,hfs.out,?_⟩;rw[hM.out,hE2x.out,if_neg hz];exact⟨rfl,rfl⟩
       replace hz:=AB hz;go_wp2_with fail
       (try simp only[Exit.inBlock,Exit.then])
       refine BH (g:=w.heap.size) AK rfl (by rfl) (by rfl) (DG AK K7) ?_;exact⟨CC AK (.inr (Nat.le_refl _)) O7,AK,E2,rfl,BQ _,QX _,NZ _,hD⟩
     ·have hzb:(E !=0)=true:=by simpa using hE
      have hD:BA s l AK E:=by
       rw[hsn.out];refine DQ h1 h2 ?_;unfold DJ;rw[hres.out,if_pos hE];exact⟨rfl,rfl⟩
      replace hE:=AB hE;replace hfs:=AB hfs;have g0:w4.cell? ⟨w.heap.size,0,none⟩=some (.int .i64 0):=K4.cell 0;have f0:=K4.frozen 0;have g1:w4.cell? ⟨w.heap.size,1,none⟩=some (.string ⟨#[]⟩):=K4.cell 1;have f1:=K4.frozen 1;have g2:w4.cell? ⟨w.heap.size,2,none⟩=some (.string ⟨#[]⟩):=K4.cell 2;have f2:=K4.frozen 2;have g3:w4.cell? ⟨w.heap.size,3,none⟩=some (.string ⟨#[]⟩):=K4.cell 3;have f3:=K4.frozen 3;have g4:w4.cell? ⟨w.heap.size,4,none⟩=some (.int .u32 0):=K4.cell 4;have f4:=K4.frozen 4;have g5:w4.cell? ⟨w.heap.size,5,none⟩=some (.int .u32 0):=K4.cell 5;have f5:=K4.frozen 5;have g6:w4.cell? ⟨w.heap.size,6,none⟩=some (.int .u32 0):=K4.cell 6;have f6:=K4.frozen 6;have g7:w4.cell? ⟨w.heap.size,7,none⟩=some (.int .u32 0):=K4.cell 7;have f7:=K4.frozen 7;have g8:w4.cell? ⟨w.heap.size,8,none⟩=some (.slice none 0 0):=K4.cell 8;have f8:=K4.frozen 8;have g9:w4.cell? ⟨w.heap.size,9,none⟩=some (.bool false):=K4.cell 9;have f9:=K4.frozen 9;have g10:w4.cell? ⟨w.heap.size,10,none⟩=some (.int .u32 0):=K4.cell 10;have f10:=K4.frozen 10;go_wp2_with fail
      (try simp only[Exit.inBlock,Exit.then])
      refine BH (g:=w.heap.size) AK rfl (by rfl) (by rfl) (DG AK K4) ?_;exact⟨CC AK (.inr (Nat.le_refl _)) O4,AK,E,rfl,BQ _,QX _,NZ _,hD⟩
    ·have s1:(nm.toList==s.toList)=false:=IN hnn;have hne2: ∀j,1≤j→j<i+1→AU j≠s:=fun j h1 h2=>by
      by_cases hj:j=i
      ·rw[hj,hnm];exact hnn
      ·exact hne.out j h1 (by omega)
     replace hne2:=AB hne2;replace hnm:=AB hnm;replace hnn:=AB hnn;go_wp2_with fail
     go_roundw
     case rel=>exact⟨i+1,by omega,by go_num,hne2,O.alloc _⟩
     case measure=>simp[intOf];omega
  ·obtain rfl:i=11:=by omega
   have hD:=WO l hne.out;have KO:=K2.only O (by simp);have g0:wo.cell? ⟨w.heap.size,0,none⟩=some (.int .i64 0):=KO.cell 0;have f0:=KO.frozen 0;have g1:wo.cell? ⟨w.heap.size,1,none⟩=some (.string ⟨#[]⟩):=KO.cell 1;have f1:=KO.frozen 1;have g2:wo.cell? ⟨w.heap.size,2,none⟩=some (.string ⟨#[]⟩):=KO.cell 2;have f2:=KO.frozen 2;have g3:wo.cell? ⟨w.heap.size,3,none⟩=some (.string ⟨#[]⟩):=KO.cell 3;have f3:=KO.frozen 3;have g4:wo.cell? ⟨w.heap.size,4,none⟩=some (.int .u32 0):=KO.cell 4;have f4:=KO.frozen 4;have g5:wo.cell? ⟨w.heap.size,5,none⟩=some (.int .u32 0):=KO.cell 5;have f5:=KO.frozen 5;have g6:wo.cell? ⟨w.heap.size,6,none⟩=some (.int .u32 0):=KO.cell 6;have f6:=KO.frozen 6;have g7:wo.cell? ⟨w.heap.size,7,none⟩=some (.int .u32 0):=KO.cell 7;have f7:=KO.frozen 7;have g8:wo.cell? ⟨w.heap.size,8,none⟩=some (.slice none 0 0):=KO.cell 8;have f8:=KO.frozen 8;have g9:wo.cell? ⟨w.heap.size,9,none⟩=some (.bool false):=KO.cell 9;have f9:=KO.frozen 9;have g10:wo.cell? ⟨w.heap.size,10,none⟩=some (.int .u32 0):=KO.cell 10;have f10:=KO.frozen 10;go_wp2_with fail
   (try simp only[Exit.inBlock,Exit.then])
   refine BH (g:=w.heap.size) AK rfl (by rfl) (by rfl) (DG AK KO) ?_;exact⟨CC AK (.inr (Nat.le_refl _)) (O2.trans O (by simp)),AK,8,rfl,BQ _,QX _,NZ _,hD⟩
end Go.Proofs.YtdplnedpbkpgpaaGreatDoor
namespace Go.Proofs.YtdplnedpbkpgpaaGreatDoor
open Go.RowKit Go.Shelf
attribute [local go_sem] Oper.semAt_some
theorem bit_in (F:Fence) (n:Nat) (hF:F.fn 45) (hro:F.round=none) (op:Int) (h1:30≤op) (h2:op≤93) (w:World):CallsIn F n Tryz.prog 45 #[.int .i64 op] w fun e w'=>e = .returned (.int .u64 (FK op))∧w'=w:=by
 have e2:IntKind.u64.wrap (2 ^ (op-30).toNat)=FK op:=by
  unfold FK;have h3:(2:Int) ^ (op-30).toNat=((2 ^ (op-30).toNat:Nat):Int):=(Int.natCast_pow 2 _).symm;have h6:(op-30).toNat<64:=by omega
  have h4:2 ^ (op-30).toNat<2 ^ 64:=Nat.pow_lt_pow_right (by decide) h6;rw[h3];generalize 2 ^ (op-30).toNat=q at h4;have h7:q<18446744073709551616:=h4;have h5:(q:Int)<18446744073709551616:=by omega
  show((q:Int) % (18446744073709551616:Int))=_;exact Int.emod_eq_of_lt (Int.natCast_nonneg q) h5
 refine callsIn_of_wp Tryz.func45 rfl hF ?_ hro;simp only[Tryz.ntmps45,List.size_toArray,List.length_cons,List.length_nil,Nat.reduceAdd,Nat.reduceSub,Array.replicate_succ,Array.replicate_zero,List.push_toArray,List.append_toArray,List.nil_append,List.cons_append];gi_wp2
 go_ret
 exact⟨rfl,rfl⟩
theorem dC (w:World):Calls Tryz.prog 44 #[] w fun e w'=>e = .returned (.func (.func 69) #[] #[])∧Only [] w w':=by
 refine Hs.en Tryz.func44 [] [] [] [] (Mem.start0 w) ?_;refine Hs.e0 ?_;exact Hs.rt (v:=.func (.func 69) #[] #[]) Tryz.func44 fun w' H=>⟨rfl,H.only⟩
abbrev FI:={ x:Int // 30≤x∧x≤93 }
def mkF (x:Int):FI:=if h:30≤x∧x≤93 then⟨x,h⟩ else⟨30,by decide⟩
theorem SU {x:Int} (h:30≤x∧x≤93):(mkF x).1=x:=by unfold mkF;rw[dif_pos h]
def rng (lo:Int) (n:Nat):List FI:=(List.range n).map fun j=>mkF (lo+(j:Nat))
theorem PJ (lo:Int) (n:Nat):rng lo (n+1)=rng lo n++[mkF (lo+(n:Nat))]:=by simp[rng,List.range_succ]
theorem SY (lo:Int) (n:Nat):(rng lo n).length=n:=by simp[rng]
def upG:Nat→List FI
 |0=>[]
 |1=>rng 30 13
 |2=>rng 30 13++rng 50 13
 |3=>rng 30 13++rng 50 13++rng 70 6
 |4=>rng 30 13++rng 50 13++rng 70 6++rng 90 4
 |_=>[]
theorem upG_1:upG 1=upG 0++rng 30 13:=by simp[upG]
theorem upG_2:upG 2=upG 1++rng 50 13:=by simp[upG]
theorem upG_3:upG 3=upG 2++rng 70 6:=by simp[upG]
theorem upG_4:upG 4=upG 3++rng 90 4:=by simp[upG]
def flagL:List FI:=upG 4
def KpB (B:Nat) (W W':World):Prop:=W.heap.size≤W'.heap.size∧∀(a:Addr) (v:Value),a.block≠B→W.cell? a=some v→W'.cell? a=some v
theorem KpB.trans {B:Nat} {W W' W'':World} (h:KpB B W W') (h':KpB B W' W''):KpB B W W'':=⟨Nat.le_trans h.1 h'.1,fun a v hb hc=>h'.2 a v hb (h.2 a v hb hc)⟩
theorem dJ {w w':World} (h:Only [] w w'):w.grownBy w' none:=⟨h.os,h.tape,h.output,h.size,fun k hk _=>h.block k hk (by simp)⟩
theorem aP (n B:Nat) (hn:1≤n) (w:World) (hB:B<w.heap.size):SeqStopsK Fence.wide n Tryz.prog 69 #[] (fun x:FI=>#[Value.int .i64 x.1]) (KpB B) (fun xs=>xs=flagL) (fun _=>True) 36 w:=fun l J Jx W hW hJ _ hY h0=>by
 refine callsIn_of_wp Tryz.func69 rfl trivial ?_ rfl;simp only[Tryz.ntmps69,List.size_toArray,List.length_cons,List.length_nil,Nat.reduceAdd,Nat.reduceSub,Array.replicate_succ,Array.replicate_zero,List.push_toArray,List.append_toArray,List.nil_append,List.cons_append];gi_wp2_with (refine⟨trivial,?_⟩;gi_at_call 70;refine(callsIn_wide.2 (TP _)).mono ?_;rintro e w1 ⟨rfl,hO⟩)
 have hJ0:J [] w1:=hJ [] W w1 none h0 (dJ hO) (fun r e=>by cases e);have hsz:W.heap.size≤w1.heap.size:=hO.size;have hB1:B<W.heap.size:=Nat.lt_of_lt_of_le hB hW.size;gi_loopw [6] (fun p wr=>∃k:Nat,k≤4∧p = .int .i64 (k:Nat)∧J (upG k) wr∧W.heap.size≤wr.heap.size)
  (fun p _=>4-(intOf p).toNat)
 case atStart=>exact⟨0,by omega,rfl,hJ0,hsz⟩
 case round=>
  obtain⟨k,hk,rfl,hJs,hsw⟩:=hrel;obtain⟨wo,rfl⟩: ∃wo:World,wo=wr:=⟨_,rfl⟩;have hk5:k=0∨k=1∨k=2∨k=3∨k=4:=by omega
  rcases hk5 with rfl|rfl|rfl|rfl|rfl
  ·gi_wp2
   have hix: ∀w,(Instr.index 164 (.agg #[.int .i64 30,.int .i64 42,.int .i64 50,.int .i64 62,.int .i64 70,.int .i64 75,.int .i64 90,.int .i64 93]) (.int .i64 0)).run Tryz.prog w = .ok (.agg #[.int .i64 30,.int .i64 42]) w:=fun w=>by kernel_rfl
   rw[hix];gi_wp2
   gi_loopw [4] (fun p wr2=>∃j:Nat,j≤13∧p = .int .i64 (30+(j:Nat))∧J (upG 0++rng 30 j) wr2∧wr2.cell? ⟨wo.heap.size,1,none⟩=some (.int .i64 42)∧wo.heap.size≤wr2.heap.size)
    (fun p _=>13-(intOf p-30).toNat)
   case atStart=>
    exact⟨0,by omega,by simp,by
     rw[show upG 0++rng 30 0=upG 0 by simp[rng]];exact hJ _ wo _ none hJs (World.grownBy_alloc wo _ none) (fun r e=>by cases e),(Blk.new wo 163 [.int .i64 30,.int .i64 42]).cell 1,by simp⟩
   case round=>
    obtain⟨j,hj,rfl,hJ2,hc2,hs2⟩:=hrel;by_cases hlt:j<13
    ·obtain⟨fn,tmps,assign,body,hy,hR⟩:=hY _ (mkF (30+(j:Nat))) _ hJ2 (by rw[List.length_append,SY];show 0+j<36;omega);have hmk:(mkF (30+(j:Nat))).1=30+(j:Nat):=SU ⟨by omega,by omega⟩;rw[hmk] at hy;gi_wp2
     refine hR.mono ?_;rintro e W3 (⟨rfl,hJ3,hk3⟩|⟨rfl,hJx3⟩)
     ·gi_wp2
      go_roundw
      case rel=>exact⟨j+1,by omega,by simp;omega,by rw[PJ,←List.append_assoc];exact hJ3,hk3.2 ⟨wo.heap.size,1,none⟩ _ (by show wo.heap.size≠B;omega) hc2,Nat.le_trans hs2 hk3.1⟩
      case measure=>simp[intOf];omega
     ·gi_wp2
      refine bodyPost_ret (results_none rfl _ _ _) rfl ?_;exact⟨⟨_,rfl⟩,.inr ⟨_,trivial,hJx3⟩⟩
    ·obtain rfl:j=13:=by omega
     gi_wp2
     go_roundw
     case rel=>exact⟨1,by omega,by simp,by rw[upG_1];exact hJ2,Nat.le_trans hsw hs2⟩
     case measure=>simp[intOf]
  ·gi_wp2
   have hix: ∀w,(Instr.index 164 (.agg #[.int .i64 30,.int .i64 42,.int .i64 50,.int .i64 62,.int .i64 70,.int .i64 75,.int .i64 90,.int .i64 93]) (.int .i64 1)).run Tryz.prog w = .ok (.agg #[.int .i64 50,.int .i64 62]) w:=fun w=>by kernel_rfl
   rw[hix];gi_wp2
   gi_loopw [4] (fun p wr2=>∃j:Nat,j≤13∧p = .int .i64 (50+(j:Nat))∧J (upG 1++rng 50 j) wr2∧wr2.cell? ⟨wo.heap.size,1,none⟩=some (.int .i64 62)∧wo.heap.size≤wr2.heap.size)
    (fun p _=>13-(intOf p-50).toNat)
   case atStart=>
    exact⟨0,by omega,by simp,by
     rw[show upG 1++rng 50 0=upG 1 by simp[rng]];exact hJ _ wo _ none hJs (World.grownBy_alloc wo _ none) (fun r e=>by cases e),(Blk.new wo 163 [.int .i64 50,.int .i64 62]).cell 1,by simp⟩
   case round=>
    obtain⟨j,hj,rfl,hJ2,hc2,hs2⟩:=hrel;by_cases hlt:j<13
    ·obtain⟨fn,tmps,assign,body,hy,hR⟩:=hY _ (mkF (50+(j:Nat))) _ hJ2 (by rw[List.length_append,SY];show 13+j<36;omega);have hmk:(mkF (50+(j:Nat))).1=50+(j:Nat):=SU ⟨by omega,by omega⟩;rw[hmk] at hy;gi_wp2
     refine hR.mono ?_;rintro e W3 (⟨rfl,hJ3,hk3⟩|⟨rfl,hJx3⟩)
     ·gi_wp2
      go_roundw
      case rel=>exact⟨j+1,by omega,by simp;omega,by rw[PJ,←List.append_assoc];exact hJ3,hk3.2 ⟨wo.heap.size,1,none⟩ _ (by show wo.heap.size≠B;omega) hc2,Nat.le_trans hs2 hk3.1⟩
      case measure=>simp[intOf];omega
     ·gi_wp2
      refine bodyPost_ret (results_none rfl _ _ _) rfl ?_;exact⟨⟨_,rfl⟩,.inr ⟨_,trivial,hJx3⟩⟩
    ·obtain rfl:j=13:=by omega
     gi_wp2
     go_roundw
     case rel=>exact⟨2,by omega,by simp,by rw[upG_2];exact hJ2,Nat.le_trans hsw hs2⟩
     case measure=>simp[intOf]
  ·gi_wp2
   have hix: ∀w,(Instr.index 164 (.agg #[.int .i64 30,.int .i64 42,.int .i64 50,.int .i64 62,.int .i64 70,.int .i64 75,.int .i64 90,.int .i64 93]) (.int .i64 2)).run Tryz.prog w = .ok (.agg #[.int .i64 70,.int .i64 75]) w:=fun w=>by kernel_rfl
   rw[hix];gi_wp2
   gi_loopw [4] (fun p wr2=>∃j:Nat,j≤6∧p = .int .i64 (70+(j:Nat))∧J (upG 2++rng 70 j) wr2∧wr2.cell? ⟨wo.heap.size,1,none⟩=some (.int .i64 75)∧wo.heap.size≤wr2.heap.size)
    (fun p _=>6-(intOf p-70).toNat)
   case atStart=>
    exact⟨0,by omega,by simp,by
     rw[show upG 2++rng 70 0=upG 2 by simp[rng]];exact hJ _ wo _ none hJs (World.grownBy_alloc wo _ none) (fun r e=>by cases e),(Blk.new wo 163 [.int .i64 70,.int .i64 75]).cell 1,by simp⟩
   case round=>
    obtain⟨j,hj,rfl,hJ2,hc2,hs2⟩:=hrel;by_cases hlt:j<6
    ·obtain⟨fn,tmps,assign,body,hy,hR⟩:=hY _ (mkF (70+(j:Nat))) _ hJ2 (by rw[List.length_append,SY];show 26+j<36;omega);have hmk:(mkF (70+(j:Nat))).1=70+(j:Nat):=SU ⟨by omega,by omega⟩;rw[hmk] at hy;gi_wp2
     refine hR.mono ?_;rintro e W3 (⟨rfl,hJ3,hk3⟩|⟨rfl,hJx3⟩)
     ·gi_wp2
      go_roundw
      case rel=>exact⟨j+1,by omega,by simp;omega,by rw[PJ,←List.append_assoc];exact hJ3,hk3.2 ⟨wo.heap.size,1,none⟩ _ (by show wo.heap.size≠B;omega) hc2,Nat.le_trans hs2 hk3.1⟩
      case measure=>simp[intOf];omega
     ·gi_wp2
      refine bodyPost_ret (results_none rfl _ _ _) rfl ?_;exact⟨⟨_,rfl⟩,.inr ⟨_,trivial,hJx3⟩⟩
    ·obtain rfl:j=6:=by omega
     gi_wp2
     go_roundw
     case rel=>exact⟨3,by omega,by simp,by rw[upG_3];exact hJ2,Nat.le_trans hsw hs2⟩
     case measure=>simp[intOf]
  ·gi_wp2
   have hix: ∀w,(Instr.index 164 (.agg #[.int .i64 30,.int .i64 42,.int .i64 50,.int .i64 62,.int .i64 70,.int .i64 75,.int .i64 90,.int .i64 93]) (.int .i64 3)).run Tryz.prog w = .ok (.agg #[.int .i64 90,.int .i64 93]) w:=fun w=>by kernel_rfl
   rw[hix];gi_wp2
   gi_loopw [4] (fun p wr2=>∃j:Nat,j≤4∧p = .int .i64 (90+(j:Nat))∧J (upG 3++rng 90 j) wr2∧wr2.cell? ⟨wo.heap.size,1,none⟩=some (.int .i64 93)∧wo.heap.size≤wr2.heap.size)
    (fun p _=>4-(intOf p-90).toNat)
   case atStart=>
    exact⟨0,by omega,by simp,by
     rw[show upG 3++rng 90 0=upG 3 by simp[rng]];exact hJ _ wo _ none hJs (World.grownBy_alloc wo _ none) (fun r e=>by cases e),(Blk.new wo 163 [.int .i64 90,.int .i64 93]).cell 1,by simp⟩
   case round=>
    obtain⟨j,hj,rfl,hJ2,hc2,hs2⟩:=hrel;by_cases hlt:j<4
    ·obtain⟨fn,tmps,assign,body,hy,hR⟩:=hY _ (mkF (90+(j:Nat))) _ hJ2 (by rw[List.length_append,SY];show 32+j<36;omega);have hmk:(mkF (90+(j:Nat))).1=90+(j:Nat):=SU ⟨by omega,by omega⟩;rw[hmk] at hy;gi_wp2
     refine hR.mono ?_;rintro e W3 (⟨rfl,hJ3,hk3⟩|⟨rfl,hJx3⟩)
     ·gi_wp2
      go_roundw
      case rel=>exact⟨j+1,by omega,by simp;omega,by rw[PJ,←List.append_assoc];exact hJ3,hk3.2 ⟨wo.heap.size,1,none⟩ _ (by show wo.heap.size≠B;omega) hc2,Nat.le_trans hs2 hk3.1⟩
      case measure=>simp[intOf];omega
     ·gi_wp2
      refine bodyPost_ret (results_none rfl _ _ _) rfl ?_;exact⟨⟨_,rfl⟩,.inr ⟨_,trivial,hJx3⟩⟩
    ·obtain rfl:j=4:=by omega
     gi_wp2
     go_roundw
     case rel=>exact⟨4,by omega,by simp,by rw[upG_4];exact hJ2,Nat.le_trans hsw hs2⟩
     case measure=>simp[intOf]
  ·gi_wp2
   go_end0
   exact⟨⟨_,rfl⟩,.inl ⟨_,rfl,hJs⟩⟩
def clrI (r op:Int):Int:=bits BinOp.andNot IntKind.u64 r (FK op)
def UT (fl:Int) (pre:List FI):Int:=pre.foldl (fun r x=>clrI r x.1) fl
theorem dP (fl:Int) (pre:List FI) (x:FI):UT fl (pre++[x])=clrI (UT fl pre) x.1:=by simp[UT]
def FH (t:TM):Bool:=UT t.fl flagL==0&&(t.ch 0==0&&(decide (t.mn≥0)&&(decide (t.mn≤255)&&(decide (t.tm≥0)&&decide (t.tm≤255)))))
theorem right_any (t:TM) (w:World):Calls Tryz.prog 23 #[t.val] w fun e w'=>e = .returned (.bool (FH t))∧Below w.heap.size w w':=by
 unfold TM.val;refine(callsIn_wide (n:=3)).1 ?_;refine callsIn_of_wp_marks Tryz.func23 rfl trivial ?_ rfl;simp only[Tryz.ntmps23,List.size_toArray,List.length_cons,List.length_nil,Nat.reduceAdd,Nat.reduceSub,Array.replicate_succ,Array.replicate_zero,List.push_toArray,List.append_toArray,List.nil_append,List.cons_append];gi_wp2_with (refine⟨trivial,?_⟩;gi_at_call 44;refine(callsIn_wide.2 (dC _)).mono ?_;rintro e w1 ⟨rfl,hO⟩)
 have b0:=(Blk.new w 28 (#[.int .u8 (t.ch 0),.int .u8 (t.ch 1),.int .u8 (t.ch 2),.int .u8 (t.ch 3),.int .u8 (t.ch 4),.int .u8 (t.ch 5),.int .u8 (t.ch 6),.int .u8 (t.ch 7),.int .u8 (t.ch 8),.int .u8 (t.ch 9),.int .u8 (t.ch 10),.int .u8 (t.ch 11),.int .u8 (t.ch 12),.int .u8 (t.ch 13),.int .u8 (t.ch 14),.int .u8 (t.ch 15),.int .u8 (t.ch 16),.int .u8 (t.ch 17),.int .u8 (t.ch 18),.int .u64 t.fl,.int .u32 t.inn,.int .u32 t.out,.int .i64 t.mn,.int .i64 t.tm]:Array Value).toList).alloc (.cells #[.int .u64 t.fl] 26);have b1:=Blk.new (w.alloc (.cells #[.int .u8 (t.ch 0),.int .u8 (t.ch 1),.int .u8 (t.ch 2),.int .u8 (t.ch 3),.int .u8 (t.ch 4),.int .u8 (t.ch 5),.int .u8 (t.ch 6),.int .u8 (t.ch 7),.int .u8 (t.ch 8),.int .u8 (t.ch 9),.int .u8 (t.ch 10),.int .u8 (t.ch 11),.int .u8 (t.ch 12),.int .u8 (t.ch 13),.int .u8 (t.ch 14),.int .u8 (t.ch 15),.int .u8 (t.ch 16),.int .u8 (t.ch 17),.int .u8 (t.ch 18),.int .u64 t.fl,.int .u32 t.inn,.int .u32 t.out,.int .i64 t.mn,.int .i64 t.tm] 28)) 26 [.int .u64 t.fl];have hs1:(w.alloc (.cells #[.int .u8 (t.ch 0),.int .u8 (t.ch 1),.int .u8 (t.ch 2),.int .u8 (t.ch 3),.int .u8 (t.ch 4),.int .u8 (t.ch 5),.int .u8 (t.ch 6),.int .u8 (t.ch 7),.int .u8 (t.ch 8),.int .u8 (t.ch 9),.int .u8 (t.ch 10),.int .u8 (t.ch 11),.int .u8 (t.ch 12),.int .u8 (t.ch 13),.int .u8 (t.ch 14),.int .u8 (t.ch 15),.int .u8 (t.ch 16),.int .u8 (t.ch 17),.int .u8 (t.ch 18),.int .u64 t.fl,.int .u32 t.inn,.int .u32 t.out,.int .i64 t.mn,.int .i64 t.tm] 28)).heap.size=w.heap.size+1:=by simp
 rw[hs1] at b1;have hB0:Below w.heap.size w ((w.alloc (.cells #[.int .u8 (t.ch 0),.int .u8 (t.ch 1),.int .u8 (t.ch 2),.int .u8 (t.ch 3),.int .u8 (t.ch 4),.int .u8 (t.ch 5),.int .u8 (t.ch 6),.int .u8 (t.ch 7),.int .u8 (t.ch 8),.int .u8 (t.ch 9),.int .u8 (t.ch 10),.int .u8 (t.ch 11),.int .u8 (t.ch 12),.int .u8 (t.ch 13),.int .u8 (t.ch 14),.int .u8 (t.ch 15),.int .u8 (t.ch 16),.int .u8 (t.ch 17),.int .u8 (t.ch 18),.int .u64 t.fl,.int .u32 t.inn,.int .u32 t.out,.int .i64 t.mn,.int .i64 t.tm] 28)).alloc (.cells #[.int .u64 t.fl] 26)):=((Below.refl _ w).alloc (Nat.le_refl _) _).alloc (by simp) _;have hB1:Below w.heap.size w w1:=hB0.trans (hO.below (by simp;omega) (by simp));have hz:w.heap.size+2≤w1.heap.size:=Nat.le_trans (by simp) hO.size;replace b0:=b0.only hO (by simp);replace b1:=b1.only hO (by simp);refine wpIn_rangeFunc_ownF rfl (by omega) (gf:=69) (lb:=#[]) rfl trivial (enters_of Tryz.func69 (by kernel_rfl) rfl)
  (aP _ (w.heap.size+1) (by omega) w1 (by omega)) KpB.trans (fun W l o o' hl ho hc _=>⟨by simp,fun a v hb hv=>cell_kept hv (grownBy_putObj' W l o') (fun r e=>by cases e;exact⟨o,ho,hc⟩)⟩) (Below.refl _ _) (fun _=>rfl)
  (fun pre W=>((∀i v,(TM.cells t)[i]? = some v→W.cell? ⟨w.heap.size,i,none⟩=some v)∧W.cell? ⟨w.heap.size+1,0,none⟩=some (.int .u64 (UT t.fl pre))∧W.frozen? ⟨w.heap.size+1,0,none⟩=false)∧Below w.heap.size w W)
  (fun _ _ _=>False)
  (OwnFrom.and (Own.from (fun s A B row hs hg hr=>⟨fun i v hv=>cell_kept (hs.1 i v hv) hg hr,cell_kept hs.2.1 hg hr,(frozen_kept hs.2.1 hg hr).trans hs.2.2⟩) _) (ownFrom_below (Nat.le_refl _) (by omega)))
  (fun _ _ _ _ _ hs _ _=>hs)
  ⟨⟨fun i v hv=>by rw[b0.cell];exact hv,b1.cell 0,b1.frozen 0⟩,hB1⟩
  (fun x=>{ tmps:=#[(.agg #[.int .u8 (t.ch 0),.int .u8 (t.ch 1),.int .u8 (t.ch 2),.int .u8 (t.ch 3),.int .u8 (t.ch 4),.int .u8 (t.ch 5),.int .u8 (t.ch 6),.int .u8 (t.ch 7),.int .u8 (t.ch 8),.int .u8 (t.ch 9),.int .u8 (t.ch 10),.int .u8 (t.ch 11),.int .u8 (t.ch 12),.int .u8 (t.ch 13),.int .u8 (t.ch 14),.int .u8 (t.ch 15),.int .u8 (t.ch 16),.int .u8 (t.ch 17),.int .u8 (t.ch 18),.int .u64 t.fl,.int .u32 t.inn,.int .u32 t.out,.int .i64 t.mn,.int .i64 t.tm]),.pointer (some ⟨w.heap.size,0,none⟩),.bool false,.pointer (some ⟨w.heap.size+1,0,none⟩),.int .i64 x.1,.pointer (some ⟨w.heap.size,19,none⟩),.int .u64 t.fl,.func (.func 69) #[] #[],.int .i64 x.1,undef,undef,undef,undef,undef,undef,undef,undef,undef,undef,undef,undef,undef,undef,undef,undef,undef,undef,undef,undef,undef,undef,undef,undef,undef,undef,undef,undef,undef,undef,undef,undef],defers:=[] }) ?assign ?body ?done ?stop
 case assign=>
  intro l x W K hK;gi_wp2
  exact hK
 case body=>
  rintro l pre x W ⟨⟨hbx,hc,hf⟩,hB⟩ _;have hd:1≤3-1-1:=by omega
  have hmx:Tryz.prog.follows .mixedOrders=true:=by kernel_rfl
  gi_wp2
  gi_region_with_o (refine⟨trivial,?_⟩;gi_at_call 45;refine(CallsIn.inRound l (bit_in Fence.wide _ trivial rfl x.1 x.2.1 x.2.2 _)).mono ?_;rintro e w' ⟨rfl,rfl⟩)
  all_goals gi_wp2
  all_goals (try go_bits)
  all_goals
   refine⟨(KeepsOthers.setCell _ _ _).trans (KeepsOthers.drew _),⟨by simp,fun a v hb hv=>by rw[World.cell?_drew,World.cell?_setCell_other (h:=fun e=>hb (by rw[←e]))];exact hv⟩,⟨⟨fun i v hv=>?_,?_,?_⟩,?_⟩⟩;·rw[World.cell?_drew,World.cell?_setCell_other (h:=fun e=>by have:=congrArg Addr.block e;simp at this)];exact hbx i v hv
   ·rw[World.cell?_drew,World.cell?_setCell_same (h:=hc),dP];rfl
   ·rw[World.frozen?_drew,World.frozen?_setCell];exact hf
   ·exact hB.trans (((Below.refl _ _).setCell (by show w.heap.size≤w.heap.size+1;omega) _).drew)
 case done=>
  rintro D ys W hD rfl ⟨⟨hbx,hc,hf⟩,hB⟩ hK;have c0:W.cell? ⟨w.heap.size,0,none⟩=some (.int .u8 (t.ch 0)):=hbx 0 _ rfl;have c22:W.cell? ⟨w.heap.size,22,none⟩=some (.int .i64 t.mn):=hbx 22 _ rfl;have c23:W.cell? ⟨w.heap.size,23,none⟩=some (.int .i64 t.tm):=hbx 23 _ rfl;gi_wp2
  all_goals
   refine⟨by simp,.inl ⟨_,_,rfl,run_takeDeferred hK,?_⟩⟩;refine⟨_,results_tmp rfl _ _ _,?_,hB.trans (belowK_b (w:=w) (Nat.le_refl _) W D _ _ (by omega) hK rfl rfl)⟩;refine congrArg Ending.returned ?_;simp_all [FH]
   try omega
 case stop=>
  rintro D c pre W _ _ h _;exact h.elim
end Go.Proofs.YtdplnedpbkpgpaaGreatDoor
