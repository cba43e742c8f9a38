/- TracePlays: lemmas, from 'Layer 4: what is asked of a request' on; what each asks for stands in it. -/
import Derived.Test.YtkgikodiecmakaaGreatDoorTpI
import Derived.Test.YtkgikodiecmakaaGreatDoorShelf
import Derived.Test.YtkgikodiecmakaaGreatDoorTpF
import Derived.Laws.StructEq
set_option linter.all false
set_option maxRecDepth 100000
set_option maxHeartbeats 64000000
namespace Go.Proofs.YtkgikodiecmakaaGreatDoor
open Go.RowKit
theorem VV (c:UInt8): ∀l:List UInt8,decide (0≤Lib.indexByte l c)=decide (c∈l)
 |[]=>by simp[Lib.indexByte]
 |b::l=>by
  have ih:=VV c l;have hge:=Lib.indexByte_ge l c;unfold Lib.indexByte;by_cases hb:b=c
  ·subst hb;simp
  ·have hcb: ¬c=b:=fun e=>hb e.symm;rw[if_neg (by simpa using hb)];by_cases h1:Lib.indexByte l c = -1
   ·rw[h1] at ih⊢;simp[hcb] at ih⊢;exact ih
   ·rw[if_neg (by simpa using h1)];have h0:0≤Lib.indexByte l c:=by omega
    rw[decide_eq_true h0] at ih;rw[decide_eq_true (show 0≤Lib.indexByte l c+1 by omega)];have:=of_decide_eq_true ih.symm;simp[this]
theorem rhas_any (s:ByteArray) (w:World):Calls Tryz.prog 105 #[.string s,.string ⟨#[61]⟩] w fun e w'=>e = .returned (.bool (PZ s))∧w=w':=
 (Tryz.strings_Contains_one s 61 w).mono fun e w' ⟨h1,h2⟩=>⟨by rw[h1,VV];rfl,h2.symm⟩
section
variable (m : RQ) (g : Nat) (w : World)
theorem IG:Calls Tryz.prog 78 #[.pointer (some ⟨g,0,none⟩)] w fun e w'=>e = .returned (.int .i64 0)∧Only [] w w':=by
 go_enter Tryz.func78,Tryz.ntmps78
 go_wp2
 go_ret
 exact⟨rfl,Only.refl _ _⟩
theorem MZ (hg:Blk w g 120 m.cells) (hm:m.ok w):Calls Tryz.prog 82 #[.pointer (some ⟨g,0,none⟩)] w fun e w'=>e = .returned (.int .i64 (BR m.text 1))∧Only [] w w':=by
 have c1:w.cell? ⟨g,1,none⟩=some (.string m.text):=hg.cell 1;have T:=JX m.text 1 w hm.text;go_enter Tryz.func82,Tryz.ntmps82
 go_wp2_with fail
 go_call T as e x ⟨rfl,rfl⟩
 clear T;go_wp2_with fail
 go_ret
 exact⟨rfl,Only.refl _ _⟩
theorem XE (hg:Blk w g 120 m.cells) (hm:m.ok w):Calls Tryz.prog 81 #[.pointer (some ⟨g,0,none⟩)] w fun e w'=>e = .returned (.int .i64 (CH m.text.size))∧Only [] w w':=by
 have c1:w.cell? ⟨g,1,none⟩=some (.string m.text):=hg.cell 1;have T:=LR m.text.size w;go_enter Tryz.func81,Tryz.ntmps81
 go_wp2_with fail
 go_call T as e x ⟨rfl,rfl⟩
 clear T;go_wp2_with fail
 go_ret
 exact⟨rfl,Only.refl _ _⟩
theorem ZU (hg:Blk w g 120 m.cells) (hm:m.ok w):Calls Tryz.prog 72 #[.pointer (some ⟨g,0,none⟩)] w fun e w'=>e = .returned (.int .i64 (DC [BR m.text 0,CH m.modes.length]))∧Only [] w w':=by
 have hlt:=hg.lt;go_enter Tryz.func72,Tryz.ntmps72
 go_wp2_with fail
 have hI:(fun w':World=>Blk w' g 120 m.cells) { w with drawn:=w.drawn+1 }:=hg;refine BJ (fun w':World=>Blk w' g 120 m.cells) [] (by kernel_rfl) ?_;refine wpAnyE_tg 0 (v:=(.pointer (some ⟨g,0,none⟩))) rfl hI ?_;refine wpAnyE_tg 1 (v:=(.pointer (some ⟨g,0,none⟩))) rfl hI ?_;refine wpAnyE_tg 2 (v:=(.pointer (some ⟨g,0,none⟩))) rfl hI ?_;refine wpAnyE_tg 3 (v:=(.pointer (some ⟨g,1,none⟩))) rfl hI ?_;refine wpAnyE_tk 4 (v:=(.string m.text)) rfl hI (fun w' hw'=>by have y0:w'.cell? ⟨g,1,none⟩=some (.string m.text):=hw'.cell 1;go_simp) ?_;refine wpAnyE_tg 6 (v:=(.pointer (some ⟨g,0,none⟩))) rfl hI ?_;refine wpAnyE_tg 7 (v:=(.pointer (some ⟨g,0,none⟩))) rfl hI ?_;refine wpAnyE_tg 8 (v:=(.pointer (some ⟨g,0,none⟩))) rfl hI ?_;refine wpAnyE_tg 9 (v:=(.pointer (some ⟨g,8,none⟩))) rfl hI ?_;refine wpAnyE_tk 10 (v:=(.slice m.mA m.modes.length m.mc)) rfl hI (fun w' hw'=>by have y0:w'.cell? ⟨g,8,none⟩=some (.slice m.mA m.modes.length m.mc):=hw'.cell 8;go_simp) ?_;refine wpAnyE_tg 11 (v:=(.int .i64 (m.modes.length:Int))) rfl hI ?_;have T:=JX m.text 0 w.drew hm.text;refine AD 5 rfl (by kernel_rfl) hI (fun K hK=>?_);rw[if_pos (by kernel_rfl)];go_simp
 go_call T as e x ⟨rfl,rfl⟩
 clear T;refine hK _ _ ?_;clear hK K;have T:=LR (m.modes.length) w.drew;refine AD 12 rfl (by kernel_rfl) hI (fun K hK=>?_);rw[if_pos (by kernel_rfl)];go_simp
 go_call T as e x ⟨rfl,rfl⟩
 clear T;refine hK _ _ ?_;clear hK K;refine AD 13 rfl (by kernel_rfl) hI (fun K hK=>?_);rw[if_pos (by kernel_rfl)];go_simp
 refine hK _ _ ?_;clear hK K;have PL:Only [] w ((w.alloc (.cells #[.int .i64 (BR m.text 0),.int .i64 (CH m.modes.length)] 40)).drew):=((Only.refl [] w).alloc _).drew;have hIL:(fun w':World=>Blk w' g 120 m.cells) ((w.alloc (.cells #[.int .i64 (BR m.text 0),.int .i64 (CH m.modes.length)] 40)).drew):=hg.only PL (by simp);have RL:RdI ((w.alloc (.cells #[.int .i64 (BR m.text 0),.int .i64 (CH m.modes.length)] 40)).drew) (some ⟨w.heap.size,0,none⟩) [(BR m.text 0),(CH m.modes.length)]:=FQ (Blk.new w 40 ([(BR m.text 0),(CH m.modes.length)].map (.int .i64)));have T:=MP (some ⟨w.heap.size,0,none⟩) [(BR m.text 0),(CH m.modes.length)] 2 _ RL (by simp[maxLen]);refine AD 14 rfl (by kernel_rfl) hIL (fun K hK=>?_);rw[if_pos (by kernel_rfl)];go_simp
 go_call T as e x ⟨rfl,rfl⟩
 clear T;refine hK _ _ ?_;clear hK K;refine wpAnyE_tg 15 (v:=(.int .i64 (DC [(BR m.text 0),(CH m.modes.length)]))) rfl hIL ?_;refine AX (by kernel_rfl) hIL ?_;simp only[Exit.then];go_wp2_with fail
 go_ret
 exact⟨rfl,PL⟩
theorem UM (hg:Blk w g 120 m.cells) (hm:m.ok w):Calls Tryz.prog 91 #[.pointer (some ⟨g,0,none⟩)] w fun e w'=>e = .returned (.int .i64 (DC [BR m.text 1,BR m.lang 0,CH m.value.size]))∧Only [] w w':=by
 have hlt:=hg.lt;go_enter Tryz.func91,Tryz.ntmps91
 go_wp2_with fail
 have hI:(fun w':World=>Blk w' g 120 m.cells) { w with drawn:=w.drawn+1 }:=hg;refine BJ (fun w':World=>Blk w' g 120 m.cells) [] (by kernel_rfl) ?_;refine wpAnyE_tg 0 (v:=(.pointer (some ⟨g,0,none⟩))) rfl hI ?_;refine wpAnyE_tg 1 (v:=(.pointer (some ⟨g,0,none⟩))) rfl hI ?_;refine wpAnyE_tg 2 (v:=(.pointer (some ⟨g,0,none⟩))) rfl hI ?_;refine wpAnyE_tg 3 (v:=(.pointer (some ⟨g,1,none⟩))) rfl hI ?_;refine wpAnyE_tk 4 (v:=(.string m.text)) rfl hI (fun w' hw'=>by have y0:w'.cell? ⟨g,1,none⟩=some (.string m.text):=hw'.cell 1;go_simp) ?_;refine wpAnyE_tg 6 (v:=(.pointer (some ⟨g,0,none⟩))) rfl hI ?_;refine wpAnyE_tg 7 (v:=(.pointer (some ⟨g,0,none⟩))) rfl hI ?_;refine wpAnyE_tg 8 (v:=(.pointer (some ⟨g,0,none⟩))) rfl hI ?_;refine wpAnyE_tg 9 (v:=(.pointer (some ⟨g,3,none⟩))) rfl hI ?_;refine wpAnyE_tk 10 (v:=(.string m.lang)) rfl hI (fun w' hw'=>by have y0:w'.cell? ⟨g,3,none⟩=some (.string m.lang):=hw'.cell 3;go_simp) ?_;refine wpAnyE_tg 12 (v:=(.pointer (some ⟨g,0,none⟩))) rfl hI ?_;refine wpAnyE_tg 13 (v:=(.pointer (some ⟨g,0,none⟩))) rfl hI ?_;refine wpAnyE_tg 14 (v:=(.pointer (some ⟨g,0,none⟩))) rfl hI ?_;refine wpAnyE_tg 15 (v:=(.pointer (some ⟨g,2,none⟩))) rfl hI ?_;refine wpAnyE_tk 16 (v:=(.string m.value)) rfl hI (fun w' hw'=>by have y0:w'.cell? ⟨g,2,none⟩=some (.string m.value):=hw'.cell 2;go_simp) ?_;refine wpAnyE_tg 17 (v:=(.int .i64 (m.value.size:Int))) rfl hI ?_;have T:=JX m.text 1 w.drew hm.text;refine AD 5 rfl (by kernel_rfl) hI (fun K hK=>?_);rw[if_pos (by kernel_rfl)];go_simp
 go_call T as e x ⟨rfl,rfl⟩
 clear T;refine hK _ _ ?_;clear hK K;have T:=JX m.lang 0 w.drew hm.lang;refine AD 11 rfl (by kernel_rfl) hI (fun K hK=>?_);rw[if_pos (by kernel_rfl)];go_simp
 go_call T as e x ⟨rfl,rfl⟩
 clear T;refine hK _ _ ?_;clear hK K;have T:=LR (m.value.size) w.drew;refine AD 18 rfl (by kernel_rfl) hI (fun K hK=>?_);rw[if_pos (by kernel_rfl)];go_simp
 go_call T as e x ⟨rfl,rfl⟩
 clear T;refine hK _ _ ?_;clear hK K;refine AD 19 rfl (by kernel_rfl) hI (fun K hK=>?_);rw[if_pos (by kernel_rfl)];go_simp
 refine hK _ _ ?_;clear hK K;have PL:Only [] w ((w.alloc (.cells #[.int .i64 (BR m.text 1),.int .i64 (BR m.lang 0),.int .i64 (CH m.value.size)] 40)).drew):=((Only.refl [] w).alloc _).drew;have hIL:(fun w':World=>Blk w' g 120 m.cells) ((w.alloc (.cells #[.int .i64 (BR m.text 1),.int .i64 (BR m.lang 0),.int .i64 (CH m.value.size)] 40)).drew):=hg.only PL (by simp);have RL:RdI ((w.alloc (.cells #[.int .i64 (BR m.text 1),.int .i64 (BR m.lang 0),.int .i64 (CH m.value.size)] 40)).drew) (some ⟨w.heap.size,0,none⟩) [(BR m.text 1),(BR m.lang 0),(CH m.value.size)]:=FQ (Blk.new w 40 ([(BR m.text 1),(BR m.lang 0),(CH m.value.size)].map (.int .i64)));have T:=MP (some ⟨w.heap.size,0,none⟩) [(BR m.text 1),(BR m.lang 0),(CH m.value.size)] 3 _ RL (by simp[maxLen]);refine AD 20 rfl (by kernel_rfl) hIL (fun K hK=>?_);rw[if_pos (by kernel_rfl)];go_simp
 go_call T as e x ⟨rfl,rfl⟩
 clear T;refine hK _ _ ?_;clear hK K;refine wpAnyE_tg 21 (v:=(.int .i64 (DC [(BR m.text 1),(BR m.lang 0),(CH m.value.size)]))) rfl hIL ?_;refine AX (by kernel_rfl) hIL ?_;simp only[Exit.then];go_wp2_with fail
 go_ret
 exact⟨rfl,PL⟩
theorem ZT (hg:Blk w g 120 m.cells) (hm:m.ok w):Calls Tryz.prog 75 #[.pointer (some ⟨g,0,none⟩)] w fun e w'=>e = .returned (.int .i64 (if PZ m.text then 4 else DC [BR m.text 1,CH m.value.size]))∧Only [] w w':=by
 have c1:w.cell? ⟨g,1,none⟩=some (.string m.text):=hg.cell 1;have hlt:=hg.lt;have T:=rhas_any m.text w;obtain⟨b,hb⟩: ∃b,PZ m.text=b:=⟨_,rfl⟩;rw[hb] at T⊢;replace hb:=AB hb;go_enter Tryz.func75,Tryz.ntmps75
 go_wp2_with fail
 go_call T as e x ⟨rfl,rfl⟩
 clear T;cases b with
 |true=>
  go_wp2_with fail
  go_ret
  exact⟨rfl,Only.refl _ _⟩
 |false=>
 go_wp2_with fail
 have hI:(fun w':World=>Blk w' g 120 m.cells) { w with drawn:=w.drawn+1 }:=hg;refine BJ (fun w':World=>Blk w' g 120 m.cells) [] (by kernel_rfl) ?_;refine wpAnyE_tg 0 (v:=(.pointer (some ⟨g,0,none⟩))) rfl hI ?_;refine wpAnyE_tg 1 (v:=(.pointer (some ⟨g,0,none⟩))) rfl hI ?_;refine wpAnyE_tg 2 (v:=(.pointer (some ⟨g,0,none⟩))) rfl hI ?_;refine wpAnyE_tg 3 (v:=(.pointer (some ⟨g,1,none⟩))) rfl hI ?_;refine wpAnyE_tk 4 (v:=(.string m.text)) rfl hI (fun w' hw'=>by have y0:w'.cell? ⟨g,1,none⟩=some (.string m.text):=hw'.cell 1;go_simp) ?_;refine wpAnyE_tg 6 (v:=(.pointer (some ⟨g,0,none⟩))) rfl hI ?_;refine wpAnyE_tg 7 (v:=(.pointer (some ⟨g,0,none⟩))) rfl hI ?_;refine wpAnyE_tg 8 (v:=(.pointer (some ⟨g,0,none⟩))) rfl hI ?_;refine wpAnyE_tg 9 (v:=(.pointer (some ⟨g,2,none⟩))) rfl hI ?_;refine wpAnyE_tk 10 (v:=(.string m.value)) rfl hI (fun w' hw'=>by have y0:w'.cell? ⟨g,2,none⟩=some (.string m.value):=hw'.cell 2;go_simp) ?_;refine wpAnyE_tg 11 (v:=(.int .i64 (m.value.size:Int))) rfl hI ?_;have T:=JX m.text 1 w.drew hm.text;refine AD 5 rfl (by kernel_rfl) hI (fun K hK=>?_);rw[if_pos (by kernel_rfl)];go_simp
 go_call T as e x ⟨rfl,rfl⟩
 clear T;refine hK _ _ ?_;clear hK K;have T:=LR (m.value.size) w.drew;refine AD 12 rfl (by kernel_rfl) hI (fun K hK=>?_);rw[if_pos (by kernel_rfl)];go_simp
 go_call T as e x ⟨rfl,rfl⟩
 clear T;refine hK _ _ ?_;clear hK K;refine AD 13 rfl (by kernel_rfl) hI (fun K hK=>?_);rw[if_pos (by kernel_rfl)];go_simp
 refine hK _ _ ?_;clear hK K;have PL:Only [] w ((w.alloc (.cells #[.int .i64 (BR m.text 1),.int .i64 (CH m.value.size)] 40)).drew):=((Only.refl [] w).alloc _).drew;have hIL:(fun w':World=>Blk w' g 120 m.cells) ((w.alloc (.cells #[.int .i64 (BR m.text 1),.int .i64 (CH m.value.size)] 40)).drew):=hg.only PL (by simp);have RL:RdI ((w.alloc (.cells #[.int .i64 (BR m.text 1),.int .i64 (CH m.value.size)] 40)).drew) (some ⟨w.heap.size,0,none⟩) [(BR m.text 1),(CH m.value.size)]:=FQ (Blk.new w 40 ([(BR m.text 1),(CH m.value.size)].map (.int .i64)));have T:=MP (some ⟨w.heap.size,0,none⟩) [(BR m.text 1),(CH m.value.size)] 2 _ RL (by simp[maxLen]);refine AD 14 rfl (by kernel_rfl) hIL (fun K hK=>?_);rw[if_pos (by kernel_rfl)];go_simp
 go_call T as e x ⟨rfl,rfl⟩
 clear T;refine hK _ _ ?_;clear hK K;refine wpAnyE_tg 15 (v:=(.int .i64 (DC [(BR m.text 1),(CH m.value.size)]))) rfl hIL ?_;refine AX (by kernel_rfl) hIL ?_;simp only[Exit.then];go_wp2_with fail
 go_ret
 exact⟨rfl,PL⟩
end
theorem ask_any (k:Nat) (h1:1≤k) (h2:k≤10): ∃F:FuncId,rask k=F∧(∀(args:Array Value) (w:World),(callFunc F args).run Tryz.prog w = .ok (.enter F args) w)∧
  ∀(w:World) (m:RQ) (g:Nat),Blk w g 120 m.cells→m.ok w→Calls Tryz.prog F #[.pointer (some ⟨g,0,none⟩)] w (fun e w'=>e = .returned (.int .i64 (DB m k))∧Only [] w w'):=by
 rcases k10 h1 h2 with rfl|rfl|rfl|rfl|rfl|rfl|rfl|rfl|rfl|rfl;·exact⟨_,rfl,fun args w=>by kernel_rfl,fun w m g hg hm=>ZU m g w hg hm⟩
 ·exact⟨_,rfl,fun args w=>by kernel_rfl,fun w m g hg hm=>ZT m g w hg hm⟩
 ·exact⟨_,rfl,fun args w=>by kernel_rfl,fun w m g hg hm=>IG g w⟩
 ·exact⟨_,rfl,fun args w=>by kernel_rfl,fun w m g hg hm=>XE m g w hg hm⟩
 ·exact⟨_,rfl,fun args w=>by kernel_rfl,fun w m g hg hm=>MZ m g w hg hm⟩
 ·exact⟨_,rfl,fun args w=>by kernel_rfl,fun w m g hg hm=>IG g w⟩
 ·exact⟨_,rfl,fun args w=>by kernel_rfl,fun w m g hg hm=>IG g w⟩
 ·exact⟨_,rfl,fun args w=>by kernel_rfl,fun w m g hg hm=>MZ m g w hg hm⟩
 ·exact⟨_,rfl,fun args w=>by kernel_rfl,fun w m g hg hm=>IG g w⟩
 ·exact⟨_,rfl,fun args w=>by kernel_rfl,fun w m g hg hm=>UM m g w hg hm⟩
def rset (w:World) (q:Nat) (m:RQ):World:=(((((((((((w.setCell ⟨q,0,none⟩ (.int .i64 m.kind)).setCell ⟨q,1,none⟩ (.string m.text)).setCell ⟨q,2,none⟩ (.string m.value)).setCell ⟨q,3,none⟩ (.string m.lang)).setCell ⟨q,4,none⟩ (.int .u32 m.cols)).setCell ⟨q,5,none⟩ (.int .u32 m.rows)).setCell ⟨q,6,none⟩ (.int .u32 m.width)).setCell ⟨q,7,none⟩ (.int .u32 m.height)).setCell ⟨q,8,none⟩ (.slice m.mA m.modes.length m.mc)).setCell ⟨q,9,none⟩ (.bool m.on)).setCell ⟨q,10,none⟩ (.int .u32 m.code))
theorem CS {w:World} {q:Nat} {m0:RQ} (m:RQ) (K:Blk w q 70 m0.cells):Blk (rset w q m) q 70 m.cells:=(((((((((((K.set_ 0 _).set_ 1 _).set_ 2 _).set_ 3 _).set_ 4 _).set_ 5 _).set_ 6 _).set_ 7 _).set_ 8 _).set_ 9 _).set_ 10 _)
theorem BX {L:List Nat} {w0 w:World} {q:Nat} (m:RQ) (hq:q∈L∨w0.heap.size≤q) (h:Only L w0 w):Only L w0 (rset w q m):=(((((((((((h.setCell (p:=⟨q,0,none⟩) hq _).setCell (p:=⟨q,1,none⟩) hq _).setCell (p:=⟨q,2,none⟩) hq _).setCell (p:=⟨q,3,none⟩) hq _).setCell (p:=⟨q,4,none⟩) hq _).setCell (p:=⟨q,5,none⟩) hq _).setCell (p:=⟨q,6,none⟩) hq _).setCell (p:=⟨q,7,none⟩) hq _).setCell (p:=⟨q,8,none⟩) hq _).setCell (p:=⟨q,9,none⟩) hq _).setCell (p:=⟨q,10,none⟩) hq _)
theorem BD {fn:Func} {p t:Tmp} {R:Ending→World→Prop} {a:Act} {w:World} {g:Nat} (m:RQ) (h:fn.results=#[.cell p 70,.tmp t]) (hp:a.tmps.getD p undef = .pointer (some ⟨g,0,none⟩)) (hd:a.defers=[])
  (hg:Blk w g 70 m.cells) (hR:R (.returned (.tuple #[m.val,a.tmps.getD t undef])) w):bodyPost Tryz.prog fn R .ret a w:=
 bA m.cells.toArray h hp hd hg Tryz.underlying70 rfl (by unfold RQ.cells;kernel_rfl) hR
def VI (m:RQ) (w:World):Prop:=∀a,m.mA=some a→∀i,i<m.modes.length→w.frozen? (a.add i)=false
theorem VI.onlyL {w w':World} {m:RQ} {L:List Nat} (h:VI m w) (ho:m.ok w) (hb:Only L w w') (hL: ∀a,m.mA=some a→0<m.modes.length→a.block∉L):VI m w':=by
 intro a ha i hi;obtain⟨b,off,e,hlt,_⟩:=ho.modes (by omega);rw[ha] at e;injection e with e;refine(World.frozen?_of_block (w:=w) ?_).trans (h a ha i hi);rw[IJ];exact hb.block _ (by rw[e];exact hlt) (hL a ha (by omega))
theorem RQ.ok.onlyL {w w':World} {L:List Nat} {m:RQ} (h:m.ok w) (hb:Only L w w') (hn: ∀a,m.mA=some a→0<m.modes.length→a.block∉L):m.ok w':=
 { h with modes:=RdG.onlyL h.modes hb hn }
def RDecPost (w:World) (s:ByteArray) (l:List Int):Ending→World→Prop:=fun e w'=>Only [] w w'∧∃(m:RQ) (E:Int),e = .returned (.tuple #[m.val,.int .i64 E])∧m.ok w'∧(∀a,m.mA=some a→w.heap.size≤a.block)∧VI m w'∧CL s l m E
theorem PW (B:Nat): ∀a,AI.mA=some a→B≤a.block:=fun a ha=>by simp[AI] at ha
theorem MW (w:World):VI AI w:=fun a ha=>by simp[AI] at ha
structure PutOk (w : World) (B : Nat) (m : RQ) : Prop where
  ok : m.ok w
  new : ∀ a, m.mA = some a → B ≤ a.block
  soft : VI m w
theorem put_ok {w:World} {B:Nat} {fs:List FD} (k:Nat) (h1:1≤k) (h2:k≤10) (hk:fs.map (fun f=>f.pf.kind)=AC k) (hm: ∀f∈fs,FD.mine w f B) (hn: ∀f∈fs,U32 f.n∧InB f.text):PutOk w B (DD (AL k) k fs):=by
 have z0:PutOk w B (AL k):=⟨DP w k,fun a ha=>by simp[AL,AI] at ha,fun a ha=>by simp[AL,AI] at ha⟩;have hs: ∀f∈fs,(strOfNums f.text).size≤maxLen:=fun f hf=>by rw[bM];exact Nat.le_trans (hm f hf).ok.tle (hm f hf).ok.tmax
 have z:U32 0:=⟨by decide,by decide⟩;rcases k10 h1 h2 with rfl|rfl|rfl|rfl|rfl|rfl|rfl|rfl|rfl|rfl
 ·obtain⟨x1,x2,x3,x4,x5,x6,rfl,_⟩:=ks6 hk;exact⟨{ z0.ok with text:=hs x1 (by simp),nums:=⟨(hn x2 (by simp)).1,(hn x3 (by simp)).1,(hn x4 (by simp)).1,(hn x5 (by simp)).1,z⟩,modes:=(hm x6 (by simp)).ok.text,mle:=(hm x6 (by simp)).ok.tle,mmax:=(hm x6 (by simp)).ok.tmax,bytes:=(hn x6 (by simp)).2 },(hm x6 (by simp)).new.1,(hm x6 (by simp)).soft⟩
 ·obtain⟨x1,x2,rfl,_⟩:=ks2 hk;exact⟨{ z0.ok with text:=hs x1 (by simp),value:=hs x2 (by simp) },z0.new,z0.soft⟩
 ·exact z0
 ·obtain⟨x1,rfl,_⟩:=ks1 hk;exact⟨{ z0.ok with text:=hs x1 (by simp) },z0.new,z0.soft⟩
 ·obtain⟨x1,rfl,_⟩:=ks1 hk;exact⟨{ z0.ok with text:=hs x1 (by simp) },z0.new,z0.soft⟩
 ·obtain⟨x1,x2,x3,x4,rfl,_⟩:=ks4 hk;exact⟨{ z0.ok with nums:=⟨(hn x1 (by simp)).1,(hn x2 (by simp)).1,(hn x3 (by simp)).1,(hn x4 (by simp)).1,z⟩ },z0.new,z0.soft⟩
 ·obtain⟨x1,rfl,_⟩:=ks1 hk;exact⟨{ z0.ok with },z0.new,z0.soft⟩
 ·obtain⟨x1,rfl,_⟩:=ks1 hk;exact⟨{ z0.ok with text:=hs x1 (by simp) },z0.new,z0.soft⟩
 ·obtain⟨x1,rfl,_⟩:=ks1 hk;exact⟨{ z0.ok with nums:=⟨z,z,z,z,(hn x1 (by simp)).1⟩ },z0.new,z0.soft⟩
 ·obtain⟨x1,x2,x3,x4,rfl,_⟩:=ks4 hk;exact⟨{ z0.ok with text:=hs x1 (by simp),value:=hs x3 (by simp),lang:=hs x4 (by simp) },z0.new,z0.soft⟩
theorem IE {x y:ByteArray} (h: ¬x=y):(x.toList==y.toList)=false:=by
 rw[beq_eq_false_iff_ne];intro e;rw[ByteArray.toList_eq,ByteArray.toList_eq] at e;exact h (OV e)
theorem bC (q:Nat) (w:World):(Instr.index 114 (.agg (PK q)) (.int .i64 ((0:Nat):Int))).run Tryz.prog w = .ok (.agg #[.string ⟨#[]⟩,.slice none 0 0,.nilFunc,.nilFunc,.nilFunc]) w:=by kernel_rfl
theorem kinds_len (k:Nat):(AC k).length≤6:=by unfold AC;split<;>decide
theorem VN {s:ByteArray} (l:List Int) (h: ∀j,1≤j→j<11→AR j≠s):CL s l AI 8:=by
 unfold CL;cases hk:WA s.data.toList with
 |none=>exact⟨rfl,rfl⟩
 |some k=>
  obtain⟨h1,h2,e⟩:=QB hk;exact absurd (OV (by rw[BB,e])) (h k h1 (by omega))
theorem DI {k:Nat} (h1:1≤k) (h2:k≤10) {l:List Int} {m:RQ} {E:Int} (h:DO k l m E):CL (AR k) l m E:=by
 unfold CL;rw[BB,ML k h1 h2];exact h
theorem YI (s:ByteArray) (A:Option Addr) (l:List Int) (c:Nat) (i0:Int) (w:World) (hm:w.cell? ⟨0,0,none⟩=some (.int .i64 i0)) (h:Rd w A l) (hl: ∀x∈l,0≤x∧x<256) (hln:l.length≤140737488355000) (hlc:l.length≤c) (hlm:c≤maxLen) (hal: ∀a,A=some a→0<l.length→a.block<w.heap.size) :
  Calls Tryz.prog 44 #[.string s,.slice A l.length c] w (RDecPost w s l):=by
 obtain⟨ln,hn⟩: ∃ln,l.length=ln:=⟨_,rfl⟩;have h0:0<w.heap.size:=Nat.pos_of_ne_zero (fun e=>by
  have:=block_lt_of_cell hm;simp only at this;omega)
 obtain⟨w1,hw1⟩: ∃w1,w1=w.alloc (.cells #[.int .i64 0,.string ⟨#[]⟩,.string ⟨#[]⟩,.string ⟨#[]⟩,.int .u32 0,.int .u32 0,.int .u32 0,.int .u32 0,.slice none 0 0,.bool false,.int .u32 0] 70):=⟨_,rfl⟩;have P1:Only [] w w1:=by rw[hw1];exact(Only.refl _ _).alloc _
 have K1:Blk w1 w.heap.size 70 AI.cells:=by rw[hw1];exact Blk.new w _ _
 have RU:=rules_any w1;obtain⟨tb,htb⟩: ∃tb,PK w1.heap.size=tb:=⟨_,rfl⟩;have hix:=fun k h1 h2 w'=>cW w1.heap.size k h1 h2 w';have hix0:=fun w'=>bC w1.heap.size w';rw[htb] at RU hix0;replace hix: ∀k:Nat,1≤k→k≤10→∀w',(Instr.index 114 (.agg tb) (.int .i64 (k:Int))).run Tryz.prog w' = .ok (ruleV k (QA w1.heap.size k)) w':=fun k h1 h2 w'=>by rw[←htb];exact hix k h1 h2 w'
 rw[hn] at hln hlc⊢;replace hn:=AB hn;replace htb:=AB htb;replace hix:=AB hix;replace hix0:=AB hix0;go_enter Tryz.func44,Tryz.ntmps44
 go_wp2_with fail
 rw[←hw1];replace hw1:=AB hw1;go_call RU as e w2 ⟨rfl,P2,z2,R2⟩
 clear RU;replace z2:=AB z2;have K2:=K1.only P2 (by simp);have O2:Only [] w w2:=P1.trans P2 (by simp);replace R2:=AB R2;go_wp2_with fail
 go_loopw [13] (fun ii wr=>∃i:Nat,i≤11∧ii = .int .i64 i∧Hid (∀j,1≤j→j<i→AR j≠s)∧Only [] w2 wr) (fun ii _=>11-(intOf ii).toNat)
 case atStart=>exact⟨0,by omega,rfl,AB (fun j h1 h2=>by omega),Only.refl _ _⟩
 case round=>
  obtain⟨wo,rfl⟩: ∃wo:World,wo=wr:=⟨_,rfl⟩;obtain⟨i,hi,rfl,hne,O⟩:=hrel;by_cases hlt:i<11
  ·by_cases hi0:i=0
   ·have hx: ∀w',(Instr.index 114 (.agg tb) (.int .i64 (i:Int))).run Tryz.prog w' = .ok (.agg #[.string ⟨#[]⟩,.slice none 0 0,.nilFunc,.nilFunc,.nilFunc]) w':=fun w'=>by rw[hi0];exact hix0.out w'
    have ib:((i:Int)==0)=true:=by simp[hi0]
    have hle:i≤0:=by omega
    clear hi0;go_wp2_with fail
    go_roundw
    case rel=>exact⟨i+1,by omega,by go_num,AB (fun j h1 h2=>by omega),O.alloc _⟩
    case measure=>simp[intOf];omega
   ·have h1:1≤i:=by omega
    have h2:i≤10:=by omega
    have hx:=hix.out i h1 h2;have RKi:=R2.out i h1 h2;obtain⟨KA,hKA⟩: ∃KA,QA w1.heap.size i=KA:=⟨_,rfl⟩;rw[hKA] at hx RKi;unfold ruleV rfn at hx;obtain⟨F2,hF2,cF2,C2⟩:=rput_any i h1 h2;obtain⟨F3,hF3,cF3,C3⟩:=ask_any i h1 h2;obtain⟨F1,hF1⟩: ∃F,rget i=F:=⟨_,rfl⟩;obtain⟨n,hnk⟩: ∃n,(AC i).length=n:=⟨_,rfl⟩;obtain⟨nm,hnm⟩: ∃nm,AR i=nm:=⟨_,rfl⟩;rw[hF1,hF2,hF3,hnk,hnm] at hx;have ib:((i:Int)==0)=false:=by simp;omega
    replace hKA:=AB hKA;replace hF1:=AB hF1;replace hF2:=AB hF2;replace hF3:=AB hF3;replace C2:=AB C2;replace C3:=AB C3;by_cases hnn:nm=s
    ·have s1:(nm.toList==s.toList)=true:=by rw[hnn];simp
     have hsn:s=AR i:=by rw[←hnn,←hnm]
     replace hsn:=AB hsn;replace hnn:=AB hnn;replace hnm:=AB hnm;have B3:Blk (wo.alloc (.cells #[.string nm,.slice KA n n,.func (Fn.func F1) #[] #[],.func (Fn.func F2) #[] #[],.func (Fn.func F3) #[] #[]] 113)) wo.heap.size 113 [.string nm,.slice KA n n,.func (Fn.func F1) #[] #[],.func (Fn.func F2) #[] #[],.func (Fn.func F3) #[] #[]]:=Blk.new _ _ _;have P3:Only [] wo (wo.alloc (.cells #[.string nm,.slice KA n n,.func (Fn.func F1) #[] #[],.func (Fn.func F2) #[] #[],.func (Fn.func F3) #[] #[]] 113)):=(Only.refl _ _).alloc _;obtain⟨w3,hw3⟩: ∃w3,w3=wo.alloc (.cells #[.string nm,.slice KA n n,.func (Fn.func F1) #[] #[],.func (Fn.func F2) #[] #[],.func (Fn.func F3) #[] #[]] 113):=⟨_,rfl⟩;rw[←hw3] at B3 P3;have OO:Only [] w wo:=O2.trans O (by simp);have O3:Only [] w w3:=OO.trans P3 (by simp);have z3:=O3.size;have RD:=read_anyP w3 KA A (AC i) l n c i0 (AV O3 h0 (by simp) hm) ((RKi.only O).only P3) (h.only O3) hl (by have:=kinds_len i;omega) (by have:=hn.out;omega) (by have:=hn.out;omega) hlm (fun a ha h0=>by have:=hal a ha h0;omega);obtain⟨⟨E,ps⟩,hres⟩: ∃r,EJ (AC i) l=r:=⟨_,rfl⟩;rw[hnk,hn.out,hres] at RD;have hgood:=CW (AC i) l hl;rw[hres] at hgood;have K3:=(K2.only O (by simp)).only P3 (by simp);replace hnk:=AB hnk;replace hres:=AB hres;replace hgood:=AB hgood;go_wp2_with fail
     rw[←hw3];replace hw3:=AB hw3;go_call RD as e w4 ⟨P4,Af,cf,fs,rfl,hfs,V4,H4⟩
     clear RD;(try dsimp only at hfs)
     have K4:=K3.only P4 (by simp);have O4:=O3.trans P4 (by simp);have B4:=B3.only P4 (by simp);have x3:=B4.cell 3;simp only[List.getElem?_cons_zero,List.getElem?_cons_succ] at x3;(try dsimp only)
     by_cases hE:E=0
     ·obtain⟨hg1,hg2⟩:=hgood.out hE;(try dsimp only at hg1 hg2)
      have hk:fs.map (fun f=>f.pf.kind)=AC i:=by rw[←hg1,←hfs,List.map_map];rfl
      have hfl:fs.length=n:=by rw[←hnk.out,←hk,List.length_map]
      have hff: ∀f∈fs,U32 f.n∧InB f.text:=fun f hf=>hg2 f.pf (by rw[←hfs];exact List.mem_map_of_mem hf);have RF:RdF w4 Af fs:=V4.rdF (fun f hf=>⟨(H4 f hf).1.ok,(hff f hf).1⟩);obtain⟨_,_,e1,hcf,hcm,_⟩:=V4.form;have e2:=(Value.slice.inj e1).2.2;rw[←e2] at hcf hcm;clear e1 e2;have PM:=put_ok i h1 h2 hk (fun f hf=>(H4 f hf).1) hff;have P5:Only [] w4 (w4.alloc (.cells #[.int .i64 (i:Int),.string ⟨#[]⟩,.string ⟨#[]⟩,.string ⟨#[]⟩,.int .u32 0,.int .u32 0,.int .u32 0,.int .u32 0,.slice none 0 0,.bool false,.int .u32 0] 120)):=(Only.refl _ _).alloc _;have K5:Blk (w4.alloc (.cells #[.int .i64 (i:Int),.string ⟨#[]⟩,.string ⟨#[]⟩,.string ⟨#[]⟩,.int .u32 0,.int .u32 0,.int .u32 0,.int .u32 0,.slice none 0 0,.bool false,.int .u32 0] 120)) w4.heap.size 120 (AL i).cells:=Blk.new _ _ _;have B5:=B4.only P5 (by simp);obtain⟨w5,hw5⟩: ∃w5,w5=w4.alloc (.cells #[.int .i64 (i:Int),.string ⟨#[]⟩,.string ⟨#[]⟩,.string ⟨#[]⟩,.int .u32 0,.int .u32 0,.int .u32 0,.int .u32 0,.slice none 0 0,.bool false,.int .u32 0] 120):=⟨_,rfl⟩;rw[←hw5] at P5 K5 B5;have CZ:=C2.out (AL i) w4.heap.size w4 w5 Af fs n cf hfl hk (by omega) hcm RF P5 (Nat.le_refl _) K5;obtain⟨M,hM⟩: ∃M,DD (AL i) i fs=M:=⟨_,rfl⟩;rw[hM] at CZ PM;rw[hfl];have hE2:(E !=0)=false:=by simpa using hE
      have hB4l:=B4.lt;have hne4: ¬wo.heap.size=w4.heap.size:=by omega
      have x3':=B5.cell 3;simp only[List.getElem?_cons_zero,List.getElem?_cons_succ] at x3';replace hE:=AB hE;replace hfl:=AB hfl;replace hk:=AB hk;replace hfs:=AB hfs;replace hg1:=AB hg1;replace hM:=AB hM;clear hff hg2 V4 H4;go_wp2_with fail
      rw[←hw5];replace hw5:=AB hw5;go_call CZ as e w6 ⟨rfl,P6,K6⟩
      clear CZ x3 x3';have B6:=B5.only P6 (by simp;omega);have x4:=B6.cell 4;simp only[List.getElem?_cons_zero,List.getElem?_cons_succ] at x4;have P46:Only [w4.heap.size] w4 w6:=(P5.mono (fun x hx=>by simp at hx)).trans P6 (fun x hx=>.inl hx);have hMb: ∀a,M.mA=some a→0<M.modes.length→a.block∉[w4.heap.size]:=fun a ha h0=>by
       have:=RdG.lt (mk:=.int .u8) PM.ok.modes h0 a ha;simp;omega
      have Mok:=PM.ok.onlyL P46 hMb;have Mso:=PM.soft.onlyL PM.ok P46 hMb;have CA:=C3.out w6 M _ K6 Mok;obtain⟨E2,hE2x⟩: ∃E2,DB M i=E2:=⟨_,rfl⟩;rw[hE2x] at CA;replace hE2x:=AB hE2x;go_wp2_with fail
      go_call CA as e w7 ⟨rfl,P7⟩
      clear CA x4;have O7:Only [] w w7:=(O4.trans P46 (fun x hx=>.inr (by simp at hx;have:=O4.size;omega))).trans P7 (by simp);have K7:=(K4.only P46 (by have:=K4.lt;have:=K1.lt;simp;omega)).only P7 (by simp);have KM:=K6.only P7 (by simp);have Mok7:=Mok.only P7;have Mso7:=Mso.onlyL Mok P7 (by simp);have g0:w7.cell? ⟨w.heap.size,0,none⟩=some (.int .i64 0):=K7.cell 0;have f0:=K7.frozen 0;have g1:w7.cell? ⟨w.heap.size,1,none⟩=some (.string ⟨#[]⟩):=K7.cell 1;have f1:=K7.frozen 1;have g2:w7.cell? ⟨w.heap.size,2,none⟩=some (.string ⟨#[]⟩):=K7.cell 2;have f2:=K7.frozen 2;have g3:w7.cell? ⟨w.heap.size,3,none⟩=some (.string ⟨#[]⟩):=K7.cell 3;have f3:=K7.frozen 3;have g4:w7.cell? ⟨w.heap.size,4,none⟩=some (.int .u32 0):=K7.cell 4;have f4:=K7.frozen 4;have g5:w7.cell? ⟨w.heap.size,5,none⟩=some (.int .u32 0):=K7.cell 5;have f5:=K7.frozen 5;have g6:w7.cell? ⟨w.heap.size,6,none⟩=some (.int .u32 0):=K7.cell 6;have f6:=K7.frozen 6;have g7:w7.cell? ⟨w.heap.size,7,none⟩=some (.int .u32 0):=K7.cell 7;have f7:=K7.frozen 7;have g8:w7.cell? ⟨w.heap.size,8,none⟩=some (.slice none 0 0):=K7.cell 8;have f8:=K7.frozen 8;have g9:w7.cell? ⟨w.heap.size,9,none⟩=some (.bool false):=K7.cell 9;have f9:=K7.frozen 9;have g10:w7.cell? ⟨w.heap.size,10,none⟩=some (.int .u32 0):=K7.cell 10;have f10:=K7.frozen 10;by_cases hz:E2=0
      ·have hzb:(E2 !=0)=false:=by simpa using hz
       have hD:CL s l M 0:=by
        rw[hsn.out];refine DI h1 h2 ?_;unfold DO;rw[hres.out,if_neg (by simpa using hE.out)];refine⟨fs,hfs.out,?_⟩;rw[hM.out,hE2x.out,if_pos hz];exact⟨rfl,rfl⟩
       replace hz:=AB hz;have b0:w7.cell? ⟨w4.heap.size,0,none⟩=some (.int .i64 M.kind):=KM.cell 0;have b1:w7.cell? ⟨w4.heap.size,1,none⟩=some (.string M.text):=KM.cell 1;have b2:w7.cell? ⟨w4.heap.size,2,none⟩=some (.string M.value):=KM.cell 2;have b3:w7.cell? ⟨w4.heap.size,3,none⟩=some (.string M.lang):=KM.cell 3;have b4:w7.cell? ⟨w4.heap.size,4,none⟩=some (.int .u32 M.cols):=KM.cell 4;have b5:w7.cell? ⟨w4.heap.size,5,none⟩=some (.int .u32 M.rows):=KM.cell 5;have b6:w7.cell? ⟨w4.heap.size,6,none⟩=some (.int .u32 M.width):=KM.cell 6;have b7:w7.cell? ⟨w4.heap.size,7,none⟩=some (.int .u32 M.height):=KM.cell 7;have b8:w7.cell? ⟨w4.heap.size,8,none⟩=some (.slice M.mA M.modes.length M.mc):=KM.cell 8;have b9:w7.cell? ⟨w4.heap.size,9,none⟩=some (.bool M.on):=KM.cell 9;have b10:w7.cell? ⟨w4.heap.size,10,none⟩=some (.int .u32 M.code):=KM.cell 10;go_wp2_with fail
       (try simp only[Exit.inBlock,Exit.then])
       refine BD (g:=w.heap.size) M rfl (by rfl) (by rfl) (CS M K7) ?_;have hx:=BX M (L:=[w.heap.size]) (w0:=w7) (w:=w7) (q:=w.heap.size) (.inl (by simp)) (Only.refl _ _);have hno: ∀a,M.mA=some a→0<M.modes.length→a.block∉[w.heap.size]:=fun a ha h0=>by
        have:=PM.new a ha;have:=K3.lt;simp;omega
       exact⟨BX M (.inr (Nat.le_refl _)) O7,M,0,rfl,Mok7.onlyL hx hno,fun a ha=>by have:=PM.new a ha;omega,Mso7.onlyL Mok7 hx hno,hD⟩
      ·have hzb:(E2 !=0)=true:=by simpa using hz
       have hD:CL s l AI E2:=by
        rw[hsn.out];refine DI h1 h2 ?_;unfold DO;rw[hres.out,if_neg (by simpa using hE.out)];refine⟨fs,hfs.out,?_⟩;rw[hM.out,hE2x.out,if_neg hz];exact⟨rfl,rfl⟩
       replace hz:=AB hz;go_wp2_with fail
       (try simp only[Exit.inBlock,Exit.then])
       refine BD (g:=w.heap.size) AI rfl (by rfl) (by rfl) (CS AI K7) ?_;exact⟨BX AI (.inr (Nat.le_refl _)) O7,AI,E2,rfl,BL _,PW _,MW _,hD⟩
     ·have hzb:(E !=0)=true:=by simpa using hE
      have hD:CL s l AI E:=by
       rw[hsn.out];refine DI h1 h2 ?_;unfold DO;rw[hres.out,if_pos hE];exact⟨rfl,rfl⟩
      replace hE:=AB hE;replace hfs:=AB hfs;have g0:w4.cell? ⟨w.heap.size,0,none⟩=some (.int .i64 0):=K4.cell 0;have f0:=K4.frozen 0;have g1:w4.cell? ⟨w.heap.size,1,none⟩=some (.string ⟨#[]⟩):=K4.cell 1;have f1:=K4.frozen 1;have g2:w4.cell? ⟨w.heap.size,2,none⟩=some (.string ⟨#[]⟩):=K4.cell 2;have f2:=K4.frozen 2;have g3:w4.cell? ⟨w.heap.size,3,none⟩=some (.string ⟨#[]⟩):=K4.cell 3;have f3:=K4.frozen 3;have g4:w4.cell? ⟨w.heap.size,4,none⟩=some (.int .u32 0):=K4.cell 4;have f4:=K4.frozen 4;have g5:w4.cell? ⟨w.heap.size,5,none⟩=some (.int .u32 0):=K4.cell 5;have f5:=K4.frozen 5;have g6:w4.cell? ⟨w.heap.size,6,none⟩=some (.int .u32 0):=K4.cell 6;have f6:=K4.frozen 6;have g7:w4.cell? ⟨w.heap.size,7,none⟩=some (.int .u32 0):=K4.cell 7;have f7:=K4.frozen 7;have g8:w4.cell? ⟨w.heap.size,8,none⟩=some (.slice none 0 0):=K4.cell 8;have f8:=K4.frozen 8;have g9:w4.cell? ⟨w.heap.size,9,none⟩=some (.bool false):=K4.cell 9;have f9:=K4.frozen 9;have g10:w4.cell? ⟨w.heap.size,10,none⟩=some (.int .u32 0):=K4.cell 10;have f10:=K4.frozen 10;go_wp2_with fail
      (try simp only[Exit.inBlock,Exit.then])
      refine BD (g:=w.heap.size) AI rfl (by rfl) (by rfl) (CS AI K4) ?_;exact⟨BX AI (.inr (Nat.le_refl _)) O4,AI,E,rfl,BL _,PW _,MW _,hD⟩
    ·have s1:(nm.toList==s.toList)=false:=IE hnn;have hne2: ∀j,1≤j→j<i+1→AR j≠s:=fun j h1 h2=>by
      by_cases hj:j=i
      ·rw[hj,hnm];exact hnn
      ·exact hne.out j h1 (by omega)
     replace hne2:=AB hne2;replace hnm:=AB hnm;replace hnn:=AB hnn;go_wp2_with fail
     go_roundw
     case rel=>exact⟨i+1,by omega,by go_num,hne2,O.alloc _⟩
     case measure=>simp[intOf];omega
  ·obtain rfl:i=11:=by omega
   have hD:=VN l hne.out;have KO:=K2.only O (by simp);have g0:wo.cell? ⟨w.heap.size,0,none⟩=some (.int .i64 0):=KO.cell 0;have f0:=KO.frozen 0;have g1:wo.cell? ⟨w.heap.size,1,none⟩=some (.string ⟨#[]⟩):=KO.cell 1;have f1:=KO.frozen 1;have g2:wo.cell? ⟨w.heap.size,2,none⟩=some (.string ⟨#[]⟩):=KO.cell 2;have f2:=KO.frozen 2;have g3:wo.cell? ⟨w.heap.size,3,none⟩=some (.string ⟨#[]⟩):=KO.cell 3;have f3:=KO.frozen 3;have g4:wo.cell? ⟨w.heap.size,4,none⟩=some (.int .u32 0):=KO.cell 4;have f4:=KO.frozen 4;have g5:wo.cell? ⟨w.heap.size,5,none⟩=some (.int .u32 0):=KO.cell 5;have f5:=KO.frozen 5;have g6:wo.cell? ⟨w.heap.size,6,none⟩=some (.int .u32 0):=KO.cell 6;have f6:=KO.frozen 6;have g7:wo.cell? ⟨w.heap.size,7,none⟩=some (.int .u32 0):=KO.cell 7;have f7:=KO.frozen 7;have g8:wo.cell? ⟨w.heap.size,8,none⟩=some (.slice none 0 0):=KO.cell 8;have f8:=KO.frozen 8;have g9:wo.cell? ⟨w.heap.size,9,none⟩=some (.bool false):=KO.cell 9;have f9:=KO.frozen 9;have g10:wo.cell? ⟨w.heap.size,10,none⟩=some (.int .u32 0):=KO.cell 10;have f10:=KO.frozen 10;go_wp2_with fail
   (try simp only[Exit.inBlock,Exit.then])
   refine BD (g:=w.heap.size) AI rfl (by rfl) (by rfl) (CS AI KO) ?_;exact⟨BX AI (.inr (Nat.le_refl _)) (O2.trans O (by simp)),AI,8,rfl,BL _,PW _,MW _,hD⟩
end Go.Proofs.YtkgikodiecmakaaGreatDoor
namespace Go.Proofs.YtkgikodiecmakaaGreatDoor
open Go.RowKit Go.MapKept
def LA (b:Nat) (y:EN×Int) (w:World):Ending→World→Prop:=fun e w'=>e = .returned (.int .i64 y.2)∧Only [b] w w'∧Blk w' b 49 y.1.cells
theorem xmore_any (x:EN) (b:Nat) (m:MD) (w:World) (hb:Blk w b 49 x.cells):Calls Tryz.prog 31 #[AO b,m.val] w (LA b (x,0) w):=by
 refine Hs.en Tryz.func31 [b] [b] [.b true 49 x.sc] [.c (.p 0 0),.g (mdS m)] (Mem.one w b hb) ?_;refine Hs.e1 fun b0=>?_;exact Hs.rt (v:=.int .i64 0) Tryz.func31 fun w' H=>⟨rfl,H.only,H.at 0 (wr:=true) (T:=49) (cs:=x.sc) (by kernel_rfl)⟩
theorem cC (x:EN) (b:Nat) (m:MD) (w:World) (hb:Blk w b 49 x.cells):Calls Tryz.prog 33 #[AO b,m.val] w (LA b ({ x with closed:=true },0) w):=by
 refine Hs.en Tryz.func33 [b] [b] [.b true 49 x.sc] [.c (.p 0 0),.g (mdS m)] (Mem.one w b hb) ?_;refine Hs.e1 fun b0=>?_;exact Hs.rt (v:=.int .i64 0) Tryz.func33 fun w' H=>⟨rfl,H.only,H.at 0 (wr:=true) (T:=49) (cs:=EN.sc { x with closed:=true }) (by kernel_rfl)⟩
theorem xeof_any (x:EN) (b:Nat) (m:MD) (w:World) (hb:Blk w b 49 x.cells):Calls Tryz.prog 32 #[AO b,m.val] w (LA b (if x.eof then(x,9) else({ x with eof:=true },0)) w):=by
 refine Hs.en Tryz.func32 [b] [b] [.b true 49 x.sc] [.c (.p 0 0),.g (mdS m)] (Mem.one w b hb) ?_;refine Hs.e1 fun b0=>?_;refine Hs.cn x.eof (fun h=>?_) (fun h=>?_)
 ·rw[if_pos h];refine Hs.e0 ?_;exact Hs.rt (v:=.int .i64 9) Tryz.func32 fun w' H=>⟨rfl,H.only,H.at 0 (wr:=true) (T:=49) (cs:=x.sc) (by kernel_rfl)⟩
 ·rw[if_neg (by rw[h];decide)];refine Hs.e0 ?_;exact Hs.rt (v:=.int .i64 0) Tryz.func32 fun w' H=>⟨rfl,H.only,H.at 0 (wr:=true) (T:=49) (cs:=EN.sc { x with eof:=true }) (by kernel_rfl)⟩
theorem UL (x:EN) (b:Nat) (m:MD) (w:World) (hb:Blk w b 49 x.cells):Calls Tryz.prog 35 #[AO b,m.val] w (LA b (if x.wants=0 then(x,9) else({ x with wants:=IntKind.i64.wrap (x.wants-1) },0)) w):=by
 refine Hs.en Tryz.func35 [b] [b] [.b true 49 x.sc] [.c (.p 0 0),.g (mdS m)] (Mem.one w b hb) ?_;refine Hs.e1 fun b0=>?_;refine Hs.cP (x.wants=0) (fun h=>?_) (fun h=>?_)
 ·rw[if_pos h];refine Hs.e0 ?_;exact Hs.rt (v:=.int .i64 9) Tryz.func35 fun w' H=>⟨rfl,H.only,H.at 0 (wr:=true) (T:=49) (cs:=x.sc) (by kernel_rfl)⟩
 ·rw[if_neg h];refine Hs.e0 ?_;exact Hs.rt (v:=.int .i64 0) Tryz.func35 fun w' H=>⟨rfl,H.only,H.at 0 (wr:=true) (T:=49) (cs:=EN.sc { x with wants:=IntKind.i64.wrap (x.wants-1) }) (by kernel_rfl)⟩
theorem WZ (x:EN) (b:Nat) (m:MD) (w:World) (hb:Blk w b 49 x.cells) (hx:U32 x.packet) (hl:m.data.length≤maxLen):Calls Tryz.prog 30 #[AO b,m.val] w (LA b (if x.eof then(x,9) else if(m.data.length:Int)>x.packet∨(m.data.length:Int)>IntKind.u64.wrap (x.granted-x.sent) then(x,5) else({ x with sent:=IntKind.u64.wrap (x.sent+m.data.length) },0)) w):=by
 obtain⟨dl,hdl⟩: ∃dl,m.data.length=dl:=⟨_,rfl⟩;have hw:IntKind.u64.wrap (dl:Int)=dl:=by rw[IntKind.wrap_u64];unfold maxLen at hl;omega
 have hp:IntKind.u64.wrap x.packet=x.packet:=by rw[IntKind.wrap_u64];unfold U32 at hx;omega
 have hmv:m.val = .agg (([.v (.int .i64 m.kind),.v (.int .u32 m.chan),.v (.int .u32 m.sender),.v (.int .u32 m.window),.v (.int .u32 m.packet),.v (.int .u32 m.code),.v (.string m.name),.v (.string m.lang),.v (.bool m.want),.v (.slice m.dA dl m.dc)]:List SC).map (SC.den [b])).toArray:=by rw[←hdl];rfl
 rw[hdl,hmv];refine Hs.en Tryz.func30 [b] [b] [.b true 49 x.sc] [.c (.p 0 0),.g [.v (.int .i64 m.kind),.v (.int .u32 m.chan),.v (.int .u32 m.sender),.v (.int .u32 m.window),.v (.int .u32 m.packet),.v (.int .u32 m.code),.v (.string m.name),.v (.string m.lang),.v (.bool m.want),.v (.slice m.dA dl m.dc)]] (Mem.one w b hb) ?_;refine Hs.e1 fun b0=>?_;refine Hs.cn x.eof (fun h=>?_) (fun h=>?_)
 ·rw[if_pos h];refine Hs.e0 ?_;exact Hs.rt (v:=.int .i64 9) Tryz.func30 fun w' H=>⟨rfl,H.only,H.at 0 (wr:=true) (T:=49) (cs:=x.sc) (by kernel_rfl)⟩
 ·rw[if_neg (by rw[h];decide)];refine Hs.slot 5 (.c (.v (.int .u64 dl))) (by kernel_rfl) ((by kernel_rfl:_=Value.int .u64 (IntKind.u64.wrap (dl:Int))).trans (by rw[hw];rfl)) ?_;refine Hs.e0 ?_;refine Hs.any [0,1] (by kernel_rfl) ?_;refine Hs.e0 ?_;refine Hs.bool 23 (decide ((dl:Int)>IntKind.u64.wrap x.packet)) (by kernel_rfl) (fun h1=>?_) (fun h1=>?_)
  ·have h1:(dl:Int)>IntKind.u64.wrap x.packet:=of_decide_eq_true h1;rw[hp] at h1;rw[if_pos (.inl h1)];refine Hs.eg [7] ?_;refine Hs.cT ?_;refine Hs.e0 ?_;exact Hs.rt (v:=.int .i64 5) Tryz.func30 fun w' H=>⟨rfl,H.only,H.at 0 (wr:=true) (T:=49) (cs:=x.sc) (by kernel_rfl)⟩
  ·have h1: ¬(dl:Int)>IntKind.u64.wrap x.packet:=of_decide_eq_false h1;rw[hp] at h1;refine Hs.eg [7] ?_;refine Hs.cP ((dl:Int)>IntKind.u64.wrap (x.granted-x.sent)) (fun h2=>?_) (fun h2=>?_)
   ·rw[if_pos (.inr h2)];refine Hs.e0 ?_;exact Hs.rt (v:=.int .i64 5) Tryz.func30 fun w' H=>⟨rfl,H.only,H.at 0 (wr:=true) (T:=49) (cs:=x.sc) (by kernel_rfl)⟩
   ·rw[if_neg (fun e=>e.elim h1 h2)];refine Hs.e0 ?_;exact Hs.rt (v:=.int .i64 0) Tryz.func30 fun w' H=>⟨rfl,H.only,H.at 0 (wr:=true) (T:=49) (cs:=EN.sc { x with sent:=IntKind.u64.wrap (x.sent+dl) }) (by kernel_rfl)⟩
end Go.Proofs.YtkgikodiecmakaaGreatDoor
namespace Go.Proofs.YtkgikodiecmakaaGreatDoor
open Go.RowKit
def stopAt (N:Nat) (m:SM):Bool:=match m.r with
 | .no=>Nat.beq m.todo.length N
 |_=>false
section
variable (P : Program) (n : Nat) (β : List Nat)
def runU (N:Nat) (ge:List Nat):Nat→SM→SM
 |0,m=>m
 |k+1,m=>match stopAt N m with
  |true=>m
  |false=>match FP P n β ge m with
   |some m'=>runU N ge k m'
   |none=>m
end
section
variable {P : Program} {f : FuncId} {R : Ending → World → Prop} {n : Nat} {w0 : World} {L : List Nat} {β : List Nat} {m : SM} {ge : List Nat} {N : Nat}
end
/-! Up to a region. -/
def atL (id:Nat):Code→List Item→List (List Item)
 | .seq a b,k=>atL id a (.code b::k)++atL id b k
 | .cond _ x y,k=>atL id x k++atL id y k
 | .block i c,k=>atL id c (.inBlock i::k)
 | .scope c,k=>atL id c (.inScope c::k)
 | .loop c,k=>atL id c (.inLoop c::k)
 | .region j ops d,k=>match Nat.beq j id with
  |true=>[.code (.region j ops d)::k]
  |false=>[]
 |_,_=>[]
def atR (fn:Func) (id:Nat):List Item:=match atL id (MG fn) [] with
 |k::_=>k
 |[]=>[]
def stopR (id:Nat) (m:SM):Bool:=match m.r with
 | .no=>match m.todo with
  | .code (.region j _ _)::_=>Nat.beq j id
  |_=>false
 |_=>false
section
variable (P : Program) (n : Nat) (β : List Nat)
def runR (N:Nat) (ge:List Nat):Nat→SM→SM
 |0,m=>m
 |k+1,m=>match stopR N m with
  |true=>m
  |false=>match FP P n β ge m with
   |some m'=>runR N ge k m'
   |none=>m
end
section
variable {P : Program} {f : FuncId} {R : Ending → World → Prop} {n : Nat} {w0 : World} {L : List Nat} {β : List Nat} {m : SM} {ge : List Nat} {N : Nat}
theorem TO: ∀(k:Nat) (β:List Nat) (m:SM) (w:World),Mem w0 L β m.hp w→m.wf=true→(∀ν w',Mem w0 L (β++ν) (runR P n (β++ν) N ge k m).hp w'→(runR P n (β++ν) N ge k m).wf=true→Gs P f R n (β++ν) (runR P n (β++ν) N ge k m) w')→Gs P f R n β m w
 |0,β,m,w,H,W,h=>by
  have:=h [] w;simp only[List.append_nil] at this;exact this H W
 |k+1,β,m,w,H,W,h=>by
  cases hst:stopR N m with
  |true=>
   have:=h [] w;simp only[List.append_nil,runR,hst] at this;exact this H W
  |false=>
   cases hs:FP P n β ge m with
   |none=>
    have:=h [] w;simp only[List.append_nil,runR,hst,hs] at this;exact this H W
   |some m'=>
    refine LX H W hs fun ν w' H' W'=>?_;refine TO k (β++ν) m' w' H' W' fun ν' w'' H'' W''=>?_;have e:FP P n (β++ν++ν') ge m=some m':=by
     rw[List.append_assoc,QD H.len W];exact hs
    have:=h (ν++ν') w'';rw[←List.append_assoc] at this;simp only[runR,hst,e] at this;exact this H'' W''
theorem Hs.runRL (N:Nat) (ge:List Nat) (k j:Nat) (hj: ∀ν,Nat.beq (runR P n (β++ν) N ge k m).hp.length (β.length+j)=true) (h: ∀ν:List Nat,ν.length=j→Hs P f R n w0 L (β++ν) (runR P n (β++ν) N ge k m)):Hs P f R n w0 L β m:=
 ⟨fun w H W=>TO (N:=N) (ge:=ge) k β m w H W fun ν w' H' W'=>(h ν (by
  have h1:=H'.len;have h2:=Nat.eq_of_beq_eq_true (hj ν);rw[h2,List.length_append] at h1;omega)).go w' H' W'⟩
theorem Hs.runR0 (N:Nat) (ge:List Nat) (k:Nat) (hj: ∀ν,Nat.beq (runR P n (β++ν) N ge k m).hp.length (β.length+0)=true) (h:Hs P f R n w0 L β (runR P n β N ge k m)):Hs P f R n w0 L β m:=
 Hs.runRL N ge k 0 hj fun ν hν=>by
  have e:=List.length_eq_zero_iff.1 hν;subst e;rw[List.append_nil];exact h
section
variable {α : Type} {cf : α → List Value} {tS E size bytes : Nat}
theorem Hs.takeIdx (j:Nat) (ht:ElemT P tS E size bytes) {rd:List Nat} {b off len c i:Nat} (hi:i<len) (hs:WU j n β m=some (IY (Instr.indexAt tS (.slice (some ⟨b,off,none⟩) len c) (.int .i64 i)),rd)) (h:Hs P f R n w0 L β (UG j (.c (.v (.pointer (some ⟨b,off+i*size,none⟩)))) m)):Hs P f R n w0 L β m:=
 Hs.takeV j (.c (.v (.pointer (some ⟨b,off+i*size,none⟩)))) hs rfl (fun w _=>run_idx ht hi w) h
theorem own_rd {w:World} {A:Option Addr} {cap nl:Nat} {l:List α} (hl:l.length=nl) (h:w.ownsRow 0 E size (.slice A nl cap) nl (l.flatMap cf)):RdX cf w A l:=by
 subst hl;obtain⟨A',cap',e,_,_,hr,_⟩:=(show BK cf E size w 0 (.slice A l.length cap) l from h).form;injection e with e1;subst e1;exact hr
end
end
section
variable {P : Program} {f : FuncId} {R : Ending → World → Prop} {n : Nat} {w0 : World} {L : List Nat} {β : List Nat} {m : SM}
variable {α : Type} {cf : α → List Value} {tS E size bytes : Nat} {w w1 : World} {A : Option Addr} {l : List α}
end
section
variable {P : Program} {f : FuncId} {R : Ending → World → Prop} {n : Nat} {w0 : World} {L : List Nat} {β : List Nat} {m : SM}
end
section
variable (P : Program)
def TY:Nat→TypeId→Value→Bool
 |0,_,_=>false
 |m+1,t,v=>match P.underlying t with
  |some .bool=>match v with
   | .bool _=>true
   |_=>false
  |some (.int _)=>match v with
   | .int _ _=>true
   |_=>false
  |some .string=>match v with
   | .string _=>true
   |_=>false
  |some (.struct fs)=>match v with
   | .agg xs=>!P.stoodInHeld t&&fs.toList.all fun f=>f.name != "_"&&(match JV P f.type (xs.toList.map .v) f.offset with
    |some u=>TY m f.type (u.den [])
    |none=>false)
   |_=>false
  |_=>false
end
section
variable {P : Program}
theorem WT: ∀(m:Nat) (t:TypeId) (v:Value),TY P m t v=true→∀(d:Nat) (w:World),(Op.equalIn (d+m) t v v).run P w = .ok true w
 |0,t,v,h,d,w=>by simp[TY] at h
 |m+1,t,v,h,d,w=>by
  rw[show d+(m+1)=(d+m)+1 by omega];unfold TY at h;split at h
  ·rename_i hu;split at h;·rename_i b;rw[run_equalIn_bool' w (d+m) t b b hu];simp
   ·cases h
  ·rename_i k hu;split at h;·rename_i k' a;rw[run_equalIn_int w (d+m) t k' k a a hu];simp
   ·cases h
  ·rename_i hu;split at h;·rename_i s;rw[run_equalIn_string w (d+m) t s s hu];simp
   ·cases h
  ·rename_i fs hu;split at h
   ·rename_i xs;simp only[Bool.and_eq_true,Bool.not_eq_true'] at h;have hf:P.fieldsOf t=fs:=by unfold Program.fieldsOf;rw[hu]
    rw[run_equalIn_struct w (d+m) t xs xs (by rw[hf];exact hu) h.1,hf];have key: ∀l:List Field,(l.all fun f=>f.name != "_"&&(match JV P f.type (xs.toList.map .v) f.offset with|some u=>TY P m f.type (u.den [])|none=>false))=true→(Op.eqFields (d+m) xs xs l).run P w = .ok true w:=by
     intro l;induction l with
     |nil=>intro _;simp[Op.eqFields]
     |cons f l ih=>
      intro hl;simp only[List.all_cons,Bool.and_eq_true] at hl;obtain⟨⟨h1,h2⟩,h3⟩:=hl;split at h2
      ·rename_i u hp;have hpart:(part f.type xs f.offset).run P w = .ok (u.den []) w:=by
        have:=TR (β:=[]) (w:=w) hp;rwa[RJ,Array.toArray_toList] at this
       have hself:=WT m f.type (u.den []) h2 d w;have hne:f.name≠ "_":=by simpa using h1
       simp only[Op.eqFields,hne,ne_eq,not_false_eq_true,if_true,Sem.run_bind,hpart,Result.andThen_ok,hself,Bool.not_true,Bool.false_eq_true,if_false];exact ih h3
      ·cases h2
    exact key fs.toList h.2
   ·cases h
  ·cases h
variable {f : FuncId} {R : Ending → World → Prop} {n : Nat} {w0 : World} {L : List Nat} {β : List Nat} {m : SM}
def sameOf (n:Nat) (β:List Nat) (m:SM):Option (BinOp×TypeId×Value×Value):=match EB m with
 |some o=>match gOk m o with
  |true=>match o.op with
   | .binOp op T x y _=>some (op,T,(evS n m.sl x).den β,(evS n m.sl y).den β)
   |_=>none
  |false=>none
 |none=>none
theorem run_same {op:BinOp} {T:TypeId} {xs:Array Value} {b:Bool} (ho:op = .eql∧b=true∨op = .neq∧b=false) (hm:P.eqGuardType P.depth T=false) (h:TY P 100 T (.agg xs)=true) (x y:Operand) (w:World):((do eqGuard op T x y (.agg xs) (.agg xs);binOp op T (.agg xs) (.agg xs)):Sem Value).run P w = .ok (.bool b) w:=by
 have hr:=WT 100 T (.agg xs) h 9900 w;rcases ho with⟨rfl,rfl⟩|⟨rfl,rfl⟩
 ·simp only[Sem.run_bind,run_eqGuard_agg w _ T x y xs xs hm,Result.andThen_ok,run_eql_struct];rw[show(10000:Nat)=9900+100 from rfl,hr];rfl
 ·simp only[Sem.run_bind,run_eqGuard_agg w _ T x y xs xs hm,Result.andThen_ok,run_neq_struct];rw[show(10000:Nat)=9900+100 from rfl,hr];rfl
theorem Hs.same {op:BinOp} {T:TypeId} (xs:Array Value) (b:Bool) (hc:sameOf n β m=some (op,T,.agg xs,.agg xs)) (ho:op = .eql∧b=true∨op = .neq∧b=false) (hm:(!P.eqGuardType P.depth T&&TY P 100 T (.agg xs))=true) (h:Hs P f R n w0 L β (m.put (BF m) (.c (.v (.bool b))) m.hp)):Hs P f R n w0 L β m:=by
 simp only[Bool.and_eq_true,Bool.not_eq_true'] at hm;refine⟨fun w H W=>?_⟩;unfold sameOf at hc;split at hc
 ·rename_i o hcur;split at hc
  ·rename_i hg;split at hc
   ·rename_i op' T' x y z hop;simp only[Option.some.injEq,Prod.mk.injEq] at hc;obtain⟨rfl,rfl,hx,hy⟩:=hc;have hd:BF m=o.dst:=by unfold BF;rw[hcur]
    rw[hd] at h;refine Gs.val (v:=.c (.v (.bool b))) hcur hg ?_ (h.go w H ?_)
    ·have hr:=run_same (P:=P) ho hm.1 hm.2 x y w;simp only[execOp,hop,hx,hy,Sem.run_bind] at hr⊢;simp only[hr,Result.andThen_ok,Sem.run_pure];rfl
    ·simp only[SM.wf,SM.put,Bool.and_eq_true];exact⟨EQ (SM.wf_sl W) rfl,SM.wf_hp W⟩
   ·cases hc
  ·cases hc
 ·cases hc
end
section
variable {P : Program} {f : FuncId} {R : Ending → World → Prop} {n : Nat} {w0 : World} {L : List Nat} {β : List Nat} {m : SM}
end
section
variable {P : Program} {f : FuncId} {R : Ending → World → Prop} {n : Nat} {w0 : World} {L : List Nat} {β : List Nat} {m : SM}
variable {α : Type} {cf : α → List Value} {E size : Nat}
end
def GC (w:World) (L:List Nat) (Q:World→Prop):Prop:=∀w',Only L w w'→Q w'
section
variable {w w0 w1 w2 w' : World} {L L1 L' β : List Nat} {hp : List HB} {g : Nat} {Q Q' Q'' F : World → Prop}
theorem GC.at (h:GC w L Q):Q w:=h w (Only.refl L w)
theorem GC.mono (h:GC w L Q) (hs: ∀x∈L',x∈L):GC w L' Q:=fun w' O=>h w' (O.mono hs)
theorem GC.go (h:GC w L Q) (O:Only L w w'):GC w' L Q:=fun w2 O2=>h w2 (O.trans O2 (fun x hx=>.inl hx))
variable {D0 D1 D2 : World → Prop}
section
variable {α : Type} {cf : α → List Value} {E size : Nat}
end
end
end Go.Proofs.YtkgikodiecmakaaGreatDoor
namespace Go.Proofs.YtkgikodiecmakaaGreatDoor
open Go.RowKit Go.MapKept
def IZ (i0:Int) (m:MD) (w:World):Prop:=m.ok w∧w.cell? ⟨0,0,none⟩=some (.int .i64 i0)∧m.data.length≤140737488355000∧∀a,m.dA=some a→0<m.data.length→a.block<w.heap.size
theorem aN {m:MD} {r:RQ} {E:Int} (hl:InB m.data) (h:CL m.name m.data r E):okEx m=true↔m.want=false∧E=0∧(r.kind=9∨r.kind=10):=by
 unfold okEx;rw[@decide_eq_true_iff _ (Classical.propDecidable _)];constructor
 ·rintro⟨h1,r',h2,h3⟩;obtain⟨e,hs⟩:=cH hl h h2;refine⟨h1,e.symm,?_⟩;rw[←hs.kind];exact h3
 ·rintro⟨h1,h2,h3⟩;subst h2;exact⟨h1,r,h,h3⟩
theorem rqS_val (r:RQ):r.val = .agg #[.int .i64 r.kind,.string r.text,.string r.value,.string r.lang,.int .u32 r.cols,.int .u32 r.rows,.int .u32 r.width,.int .u32 r.height,.slice r.mA r.modes.length r.mc,.bool r.on,.int .u32 r.code]:=rfl
theorem xexit_any (x:EN) (b:Nat) (m:MD) (i0:Int) (w:World) (hb:Blk w b 49 x.cells) (hm:GC w [b] (IZ i0 m)):Calls Tryz.prog 34 #[AO b,m.val] w (LA b (if¬okEx m then(x,4) else if x.told then(x,9) else({ x with told:=true },0)) w):=by
 have hbytes:InB m.data:=hm.at.1.bytes;refine Hs.en Tryz.func34 [b] [b] [.b true 49 x.sc] [.c (.p 0 0),.g (mdS m)] (Mem.one w b hb) ?_;refine Hs.e1 fun b0=>?_;refine Hs.callX (F:=44) (args:=#[.string m.name,.slice m.dA m.data.length m.dc]) (X:=RQ×Int) (fun z=>.tuple #[z.1.val,.int .i64 z.2]) (fun z=>CL m.name m.data z.1 z.2) (fun w' H=>?_) (by kernel_rfl) fun z hD=>?_
 ·have K:=hm w' H.only;exact(YI m.name m.dA m.data m.dc i0 w' K.2.1 K.1.data K.1.bytes K.2.2.1 K.1.dle K.1.dmax K.2.2.2).mono fun e w2 ⟨O,r,E,h1,_,_,_,h2⟩=>⟨(r,E),h1,O,h2⟩
 obtain⟨r,E⟩:=z;have hiff:okEx m=true↔m.want=false∧E=0∧(r.kind=9∨r.kind=10):=aN hbytes hD;rw[rqS_val];refine Hs.e1 fun b1=>?_;refine Hs.bool 18 m.want (by kernel_rfl) (fun h1=>?_) (fun h1=>?_)
 ·have hn: ¬okEx m=true:=fun h=>by rw[(hiff.1 h).1] at h1;cases h1
  rw[if_pos hn];refine Hs.eg [2,6,10] ?_;refine Hs.cT ?_;refine Hs.e0 ?_;exact Hs.rt (v:=.int .i64 4) Tryz.func34 fun w' H=>⟨rfl,H.only,H.at 0 (wr:=true) (T:=49) (cs:=x.sc) (by kernel_rfl)⟩
 refine Hs.eg [2] ?_;refine Hs.bool 22 (!decide (E=0)) (by kernel_rfl) (fun h2=>?_) (fun h2=>?_)
 ·have hn: ¬okEx m=true:=fun h=>by rw[(hiff.1 h).2.1] at h2;simp at h2
  rw[if_pos hn];refine Hs.eg [2,6,10] ?_;refine Hs.cT ?_;refine Hs.e0 ?_;exact Hs.rt (v:=.int .i64 4) Tryz.func34 fun w' H=>⟨rfl,H.only,H.at 0 (wr:=true) (T:=49) (cs:=x.sc) (by kernel_rfl)⟩
 have h2:E=0:=by simpa using h2
 refine Hs.eg [2,6] ?_;refine Hs.bool 26 (!decide (r.kind=9)) (by kernel_rfl) (fun h3=>?_) (fun h3=>?_)
 ·have h3:r.kind≠9:=by simpa using h3
  refine Hs.eg [2,6,10] ?_;refine Hs.cn (!decide (r.kind=10)) (fun h4=>?_) (fun h4=>?_)
  ·have h4:r.kind≠10:=by simpa using h4
   have hn: ¬okEx m=true:=fun h=>(hiff.1 h).2.2.elim h3 h4;rw[if_pos hn];refine Hs.e0 ?_;exact Hs.rt (v:=.int .i64 4) Tryz.func34 fun w' H=>⟨rfl,H.only,H.at 0 (wr:=true) (T:=49) (cs:=x.sc) (by kernel_rfl)⟩
  ·have h4:r.kind=10:=by simpa using h4
   have hn:okEx m=true:=hiff.2 ⟨h1,h2,.inr h4⟩;rw[if_neg (by rw[hn];simp)];refine Hs.e0 ?_;refine Hs.cn x.told (fun h5=>?_) (fun h5=>?_)
   ·rw[if_pos h5];refine Hs.e0 ?_;exact Hs.rt (v:=.int .i64 9) Tryz.func34 fun w' H=>⟨rfl,H.only,H.at 0 (wr:=true) (T:=49) (cs:=x.sc) (by kernel_rfl)⟩
   ·rw[if_neg (by rw[h5];simp)];refine Hs.e0 ?_;exact Hs.rt (v:=.int .i64 0) Tryz.func34 fun w' H=>⟨rfl,H.only,H.at 0 (wr:=true) (T:=49) (cs:=EN.sc { x with told:=true }) (by kernel_rfl)⟩
 ·have h3:r.kind=9:=by simpa using h3
  have hn:okEx m=true:=hiff.2 ⟨h1,h2,.inl h3⟩;rw[if_neg (by rw[hn];simp)];refine Hs.eg [2,6,10] ?_;refine Hs.cF ?_;refine Hs.e0 ?_;refine Hs.cn x.told (fun h5=>?_) (fun h5=>?_)
  ·rw[if_pos h5];refine Hs.e0 ?_;exact Hs.rt (v:=.int .i64 9) Tryz.func34 fun w' H=>⟨rfl,H.only,H.at 0 (wr:=true) (T:=49) (cs:=x.sc) (by kernel_rfl)⟩
  ·rw[if_neg (by rw[h5];simp)];refine Hs.e0 ?_;exact Hs.rt (v:=.int .i64 0) Tryz.func34 fun w' H=>⟨rfl,H.only,H.at 0 (wr:=true) (T:=49) (cs:=EN.sc { x with told:=true }) (by kernel_rfl)⟩
theorem FY {x:EN} {m:MD} {ok:Bool} {y:EN×Int} {k:Int} (hk:m.kind=k) (h:(if k=94∨k=95 then
  if x.eof then(x,9) else if(m.data.length:Int)>x.packet∨(m.data.length:Int)>IntKind.u64.wrap (x.granted-x.sent) then(x,5) else({ x with sent:=IntKind.u64.wrap (x.sent+m.data.length) },0)
 else if k=93 then(x,0)
 else if k=96 then if x.eof then(x,9) else({ x with eof:=true },0)
 else if k=97 then({ x with closed:=true },0)
 else if k=98 then if¬ok then(x,4) else if x.told then(x,9) else({ x with told:=true },0)
 else if x.wants=0 then(x,9) else({ x with wants:=IntKind.i64.wrap (x.wants-1) },0))=y):GO x m ok=y:=by
 subst hk;exact h
def WX (k:Int):Nat:=if k=94∨k=95 then 30 else if k=93 then 31 else if k=96 then 32 else if k=97 then 33 else if k=98 then 34 else 35
theorem dG (x:EN) (b:Nat) (m:MD) (i0:Int) (w:World) (hb:Blk w b 49 x.cells) (hx:U32 x.packet) (hm:GC w [b] (IZ i0 m)) (h1:93≤m.kind) (h2:m.kind≤100):Calls Tryz.prog (WX m.kind) #[AO b,m.val] w (LA b (GO x m (okEx m)) w):=by
 have hl:m.data.length≤maxLen:=by have:=hm.at.2.2.1;unfold maxLen;omega
 have hk:m.kind=93∨m.kind=94∨m.kind=95∨m.kind=96∨m.kind=97∨m.kind=98∨m.kind=99∨m.kind=100:=by omega
 rcases hk with h|h|h|h|h|h|h|h;·rw[FY h rfl,h];exact xmore_any x b m w hb
 ·rw[FY h rfl,h];exact WZ x b m w hb hx hl
 ·rw[FY h rfl,h];exact WZ x b m w hb hx hl
 ·rw[FY h rfl,h];exact xeof_any x b m w hb
 ·rw[FY h rfl,h];exact cC x b m w hb
 ·rw[FY h rfl,h];exact xexit_any x b m i0 w hb hm
 ·rw[FY h rfl,h];exact UL x b m w hb
 ·rw[FY h rfl,h];exact UL x b m w hb
theorem look_of (k:Int) (b:Nat) (h1:93≤k) (h2:k≤100):BO k (ofL b)=some (mV (WX k) b):=by
 have hk:k=93∨k=94∨k=95∨k=96∨k=97∨k=98∨k=99∨k=100:=by omega
 rcases hk with h|h|h|h|h|h|h|h<;>subst h<;>rfl
theorem SN (k:Int) (b:Nat) (h:k<93∨k>100):BO k (ofL b)=none:=by
 unfold ofL;simp only[BO];repeat rw[if_neg (by omega)]
theorem QC (k:Int) (p:Nat) (h:k≠1∧k≠81∧k≠82∧k≠91∧k≠92):BO k (GQ p)=none:=by
 unfold GQ;simp only[BO];repeat rw[if_neg (by omega)]
end Go.Proofs.YtkgikodiecmakaaGreatDoor
namespace Go.Proofs.YtkgikodiecmakaaGreatDoor
open Go.RowKit Go.MapKept
def OP (k:Int):Prop:=k≠1∧k≠81∧k≠82∧k≠91∧k≠92
theorem cJ (M:WM) (p:Nat) (m:MD) (w:World) (h:WAt w p M) (hd:M.dead=true) (ok:Bool):Calls Tryz.prog 10 #[AO p,m.val] w (CV M p (AM M.abs m ok).1 (.int .i64 (AM M.abs m ok).2) w):=by
 have eS:AM M.abs m ok=(M.abs,9):=by unfold AM;rw[if_pos (show M.abs.dead=true from hd)]
 rw[eS];have hb:=h.blk;obtain⟨ob,eb,nb,opens,glob,ends,nums,dead⟩:=M;dsimp only at hd;subst hd;refine Hs.en Tryz.func10 [] [p] [.b false 55 (wS ⟨ob,eb,nb,opens,glob,ends,nums,true⟩)] [.c (.p 0 0),.g (mdS m)] (Mem.rdOne w p hb) ?_;refine Hs.e1 fun b0=>?_;refine Hs.cF ?_;refine Hs.e0 ?_;refine Hs.cT ?_;refine Hs.e0 ?_;exact Hs.rt (v:=.int .i64 9) Tryz.func10 fun w' H=>h.keep H.only _
theorem hears_no (M:WM) (p:Nat) (m:MD) (w:World) (h:WAt w p M) (hd:M.dead=false) (hk:OP m.kind) (he:AK m.chan M.ends=none) (ok:Bool):Calls Tryz.prog 10 #[AO p,m.val] w (CV M p (AM M.abs m ok).1 (.int .i64 (AM M.abs m ok).2) w):=by
 have eS:AM M.abs m ok=(M.abs,if m.kind<93∨m.kind>100 then 2 else 8):=by
  obtain⟨k1,k2,k3,k4,k5⟩:=hk;unfold AM;rw[if_neg (show¬M.abs.dead=true by rw[show M.abs.dead=M.dead from rfl,hd];decide),if_neg k1,if_neg (fun e=>e.elim k2 k3),if_neg k4,if_neg k5];rw[show AK m.chan M.abs.ends=none by unfold WM.abs;dsimp only;rw[EF,he];rfl];split<;>rfl
 rw[eS];have hb:=h.blk;have hme:=h.me;have A:=GE h.nd;have h4:=A.four;simp only[List.nodup_cons,List.mem_cons,List.not_mem_nil,or_false,not_or] at h4;have hlook:BO m.chan (AQ (fun x=>AO x.1) M.ends)=none:=by rw[EV,he];rfl
 obtain⟨ob,eb,nb,opens,glob,ends,nums,dead⟩:=M;dsimp only at *;subst hd;have hnd:[p,eb].Nodup:=by simp only[List.nodup_cons,List.mem_cons,List.not_mem_nil,or_false,not_or,List.nodup_nil,not_false_eq_true,and_true];exact h4.1.2.1
 refine Hs.en Tryz.func10 [] [p,eb] [.b false 55 (wS ⟨ob,eb,nb,opens,glob,ends,nums,false⟩),HB.mpr (kI .u32) eb (AQ (fun x=>AO x.1) ends)] [.c (.p 0 0),.g (mdS m)] (Mem.startW [] (β:=[p,eb]) (hp:=[.b false 55 (wS ⟨ob,eb,nb,opens,glob,ends,nums,false⟩),HB.mpr (kI .u32) eb (AQ (fun x=>AO x.1) ends)]) rfl hnd ⟨hb,⟨hme,fun a ha=>by injection ha with ha;subst ha;exact hme.lt⟩,trivial⟩ (by simp[wrN,HB.wr,HB.mpr])) ?_;refine Hs.e1 fun b0=>?_;refine Hs.cF ?_;refine Hs.e0 ?_;refine Hs.cF ?_;refine Hs.e0 ?_;refine Hs.any [0,2] (by kernel_rfl) ?_;refine Hs.e0 ?_;refine Hs.callQ (X:=Nat) (fun r=>some ⟨r,0,none⟩) (fun r=>.map (some r)) (fun r w'=>BM (kI .i64) w' r (GQ p)) (fun r=>BM.st) (fun w' H=>FH p w') (by kernel_rfl) (by kernel_rfl) fun r=>?_;refine Hs.e0 ?_;refine Hs.getM (r:=r) (es:=GQ p) GS m.kind true (.tuple #[.nilFunc,.bool false]) (by rw[QC m.kind p hk];rfl) (by kernel_rfl) (fun w' H=>H.mapM 3 (by kernel_rfl)) ?_;refine Hs.e0 ?_;refine Hs.cF ?_;refine Hs.e0 ?_;refine Hs.any [0,1,2] (by kernel_rfl) ?_;refine Hs.e0 ?_;refine Hs.getM (r:=eb) (es:=AQ (fun x=>AO x.1) ends) LW m.chan true (.tuple #[.pointer none,.bool false]) (by rw[hlook];rfl) (by kernel_rfl) (fun w' H=>H.mapR 1 (by kernel_rfl)) ?_;refine Hs.e0 ?_;refine Hs.cT ?_;refine Hs.e1 fun q=>?_;refine Hs.any [2] (by kernel_rfl) ?_;refine Hs.e0 ?_;refine Hs.callQ (X:=Nat) (fun r=>some ⟨r,0,none⟩) (fun r=>.map (some r)) (fun r w'=>BM (kI .i64) w' r (ofL q)) (fun r=>BM.st) (fun w' H=>ofL_any q w') (by kernel_rfl) (by kernel_rfl) fun r2=>?_;refine Hs.e0 ?_;by_cases hr:m.kind<93∨m.kind>100
 ·rw[if_pos hr];refine Hs.getM (r:=r2) (es:=ofL q) GS m.kind true (.tuple #[.nilFunc,.bool false]) (by rw[SN m.kind q hr];rfl) (by kernel_rfl) (fun w' H=>H.mapM 5 (by kernel_rfl)) ?_;refine Hs.e0 ?_;refine Hs.cT ?_;refine Hs.e0 ?_;exact Hs.rt (v:=.int .i64 2) Tryz.func10 fun w' H=>h.keep H.only _
 ·rw[if_neg hr];refine Hs.getM (r:=r2) (es:=ofL q) GS m.kind true (.tuple #[mV (WX m.kind) q,.bool true]) (by rw[look_of m.kind q (by omega) (by omega)];rfl) (by kernel_rfl) (fun w' H=>H.mapM 5 (by kernel_rfl)) ?_;refine Hs.e0 ?_;refine Hs.cF ?_;refine Hs.e0 ?_;refine Hs.cT ?_;refine Hs.e0 ?_;exact Hs.rt (v:=.int .i64 8) Tryz.func10 fun w' H=>h.keep H.only _
theorem hears_end (M:WM) (p:Nat) (m:MD) (i0:Int) (w:World) (h:WAt w p M) (hd:M.dead=false) (hk:OP m.kind) {b:Nat} {x:EN} (he:AK m.chan M.ends=some (b,x)) (hx:U32 x.packet) (hm:GC w (M.fp p) (IZ i0 m)):Calls Tryz.prog 10 #[AO p,m.val] w (CV M p (AM M.abs m (okEx m)).1 (.int .i64 (AM M.abs m (okEx m)).2) w):=by
 have hle:AK m.chan M.abs.ends=some x:=by unfold WM.abs;dsimp only;rw[EF,he];rfl
 have eS:AM M.abs m (okEx m)=if m.kind<93∨m.kind>100 then(M.abs,2) else if x.closed then(M.abs,9) else({ M.abs with ends:=BH m.chan (GO x m (okEx m)).1 M.abs.ends },(GO x m (okEx m)).2):=by
  obtain⟨k1,k2,k3,k4,k5⟩:=hk;unfold AM;rw[if_neg (show¬M.abs.dead=true by rw[show M.abs.dead=M.dead from rfl,hd];decide),if_neg k1,if_neg (fun e=>e.elim k2 k3),if_neg k4,if_neg k5,hle]
 rw[eS];have hb:=h.blk;have hme:=h.me;have A:=GE h.nd;have h4:=A.four;simp only[List.nodup_cons,List.mem_cons,List.not_mem_nil,or_false,not_or] at h4;have hbm:b∈fpA eFp M.ends:=BC he (by simp[eFp]);have hb4:=A.fe b hbm;simp only[List.mem_cons,List.not_mem_nil,or_false,not_or] at hb4;have hE:Blk w b 49 x.cells:=h.es _ (BN he);have hlook:BO m.chan (AQ (fun x=>AO x.1) M.ends)=some (AO b):=by rw[EV,he];rfl
 have hmb:GC w [b] (IZ i0 m):=hm.mono fun y hy=>by
  rw[List.mem_singleton] at hy;subst hy;simp only[WM.fp,List.mem_append];exact .inr (.inr hbm)
 have hput:=fun(w':World) (x':EN) (O:Only [p,b] w w') hp hb v=>h.putE (x':=x') O he hp hb v;have hkeep:=fun(w':World) (O:Only [b] w w') (hp:Blk w' b 49 x.cells) v=>h.putE (x':=x) (v:=v) (O.mono (by simp)) he (Blk.only (L:=[b]) h.blk O (by simp only[List.mem_singleton];exact fun e=>hb4.1 e.symm)) hp;have habs : { M.abs with ends:=BH m.chan x M.abs.ends }=M.abs:=by
  have e:BH m.chan x M.abs.ends=M.abs.ends:=by
   have:=PP (id:EN→EN) hle (v':=x) rfl;unfold AQ at this;simpa using this
  rw[e]
 rw[habs] at hkeep;have hpne: ∀w',Only [b] w w'→Blk w' p 55 M.cells:=fun w' O=>Blk.only (L:=[b]) h.blk O (by simp only[List.mem_singleton];exact fun e=>hb4.1 e.symm);have hnd:[p,M.eb,b].Nodup:=by
  simp only[List.nodup_cons,List.mem_cons,List.not_mem_nil,or_false,not_or,List.nodup_nil,not_false_eq_true,and_true];exact⟨⟨h4.1.2.1,fun e=>hb4.1 e.symm⟩,fun e=>hb4.2.2.1 e.symm⟩
 clear hle eS hbm;obtain⟨ob,eb,nb,opens,glob,ends,nums,dead⟩:=M;dsimp only at *;subst hd;refine Hs.en Tryz.func10 [b] [p,eb,b] [.b false 55 (wS ⟨ob,eb,nb,opens,glob,ends,nums,false⟩),HB.mpr (kI .u32) eb (AQ (fun x=>AO x.1) ends),.b true 49 x.sc] [.c (.p 0 0),.g (mdS m)] (Mem.startW [b] (β:=[p,eb,b]) (hp:=[.b false 55 (wS ⟨ob,eb,nb,opens,glob,ends,nums,false⟩),HB.mpr (kI .u32) eb (AQ (fun x=>AO x.1) ends),.b true 49 x.sc]) rfl hnd ⟨hb,⟨hme,fun a ha=>by injection ha with ha;subst ha;exact hme.lt⟩,hE,trivial⟩ (by simp[wrN,HB.wr,HB.mpr,HB.blk])) ?_;refine Hs.e1 fun b0=>?_;refine Hs.cF ?_;refine Hs.e0 ?_;refine Hs.cF ?_;refine Hs.e0 ?_;refine Hs.any [0,3] (by kernel_rfl) ?_;refine Hs.e0 ?_;refine Hs.callQ (X:=Nat) (fun r=>some ⟨r,0,none⟩) (fun r=>.map (some r)) (fun r w'=>BM (kI .i64) w' r (GQ p)) (fun r=>BM.st) (fun w' H=>FH p w') (by kernel_rfl) (by kernel_rfl) fun r=>?_;refine Hs.e0 ?_;refine Hs.getM (r:=r) (es:=GQ p) GS m.kind true (.tuple #[.nilFunc,.bool false]) (by rw[QC m.kind p hk];rfl) (by kernel_rfl) (fun w' H=>H.mapM 4 (by kernel_rfl)) ?_;refine Hs.e0 ?_;refine Hs.cF ?_;refine Hs.e0 ?_;refine Hs.any [0,1,3] (by kernel_rfl) ?_;refine Hs.e0 ?_;refine Hs.getM (r:=eb) (es:=AQ (fun x=>AO x.1) ends) LW m.chan true (.tuple #[AO b,.bool true]) (by rw[hlook];rfl) (by kernel_rfl) (fun w' H=>H.mapR 1 (by kernel_rfl)) ?_;refine Hs.e0 ?_;refine Hs.cF ?_;refine Hs.slot 7 (.c (.p 2 0)) (by kernel_rfl) (by kernel_rfl) ?_;refine Hs.e0 ?_;refine Hs.any [3] (by kernel_rfl) ?_;refine Hs.e0 ?_;refine Hs.callQ (X:=Nat) (fun r=>some ⟨r,0,none⟩) (fun r=>.map (some r)) (fun r w'=>BM (kI .i64) w' r (ofL b)) (fun r=>BM.st) (fun w' H=>ofL_any b w') (by kernel_rfl) (by kernel_rfl) fun r2=>?_;refine Hs.e0 ?_;by_cases hr:m.kind<93∨m.kind>100
 ·rw[if_pos hr];refine Hs.getM (r:=r2) (es:=ofL b) GS m.kind true (.tuple #[.nilFunc,.bool false]) (by rw[SN m.kind b hr];rfl) (by kernel_rfl) (fun w' H=>H.mapM 5 (by kernel_rfl)) ?_;refine Hs.e0 ?_;refine Hs.cT ?_;refine Hs.e0 ?_;exact Hs.rt (v:=.int .i64 2) Tryz.func10 fun w' H=>hkeep w' H.only (H.at 2 (wr:=true) (T:=49) (cs:=x.sc) (by kernel_rfl)) _
 rw[if_neg hr];have hT: ∀w',Only [b] w w'→Blk w' b 49 x.cells→Calls Tryz.prog (WX m.kind) #[AO b,m.val] w' (LA b (GO x m (okEx m)) w'):=fun w' O hB=>dG x b m i0 w' hB hx (hmb.go O) (by omega) (by omega);obtain⟨F,hF⟩: ∃F,WX m.kind=F:=⟨_,rfl⟩;have hFs:F=30∨F=31∨F=32∨F=33∨F=34∨F=35:=by
  rw[←hF];unfold WX;repeat' split
  all_goals simp
 refine Hs.getM (r:=r2) (es:=ofL b) GS m.kind true (.tuple #[mV F b,.bool true]) (by rw[look_of m.kind b (by omega) (by omega),hF];rfl) (by kernel_rfl) (fun w' H=>H.mapM 5 (by kernel_rfl)) ?_;rw[hF] at hT;obtain⟨y,hy⟩: ∃y,GO x m (okEx m)=y:=⟨_,rfl⟩;rw[hy] at hT⊢;clear hF hy;rcases hFs with rfl|rfl|rfl|rfl|rfl|rfl
 ·refine Hs.e0 ?_;refine Hs.cF ?_;refine Hs.e0 ?_;refine Hs.cF ?_;refine Hs.e0 ?_;refine Hs.cn x.closed (fun hc=>?_) (fun hc=>?_)
  ·rw[if_pos hc];refine Hs.e0 ?_;exact Hs.rt (v:=.int .i64 9) Tryz.func10 fun w' H=>hkeep w' H.only (H.at 2 (wr:=true) (T:=49) (cs:=x.sc) (by kernel_rfl)) _
  ·rw[if_neg (by rw[hc];simp)];refine Hs.e0 ?_;refine Hs.callP (v:=.int .i64 y.2) 2 49 y.1.sc (fun w' H=>hT w' H.only (H.at 2 (wr:=true) (T:=49) (cs:=x.sc) (by kernel_rfl))) (by kernel_rfl) (by kernel_rfl) ?_;refine Hs.e0 ?_;exact Hs.rt (v:=.int .i64 y.2) Tryz.func10 fun w' H=>hput w' y.1 (H.only.mono (by simp)) (hpne w' H.only) (H.at 2 (wr:=true) (T:=49) (cs:=y.1.sc) (by kernel_rfl)) _
 ·refine Hs.e0 ?_;refine Hs.cF ?_;refine Hs.e0 ?_;refine Hs.cF ?_;refine Hs.e0 ?_;refine Hs.cn x.closed (fun hc=>?_) (fun hc=>?_)
  ·rw[if_pos hc];refine Hs.e0 ?_;exact Hs.rt (v:=.int .i64 9) Tryz.func10 fun w' H=>hkeep w' H.only (H.at 2 (wr:=true) (T:=49) (cs:=x.sc) (by kernel_rfl)) _
  ·rw[if_neg (by rw[hc];simp)];refine Hs.e0 ?_;refine Hs.callP (v:=.int .i64 y.2) 2 49 y.1.sc (fun w' H=>hT w' H.only (H.at 2 (wr:=true) (T:=49) (cs:=x.sc) (by kernel_rfl))) (by kernel_rfl) (by kernel_rfl) ?_;refine Hs.e0 ?_;exact Hs.rt (v:=.int .i64 y.2) Tryz.func10 fun w' H=>hput w' y.1 (H.only.mono (by simp)) (hpne w' H.only) (H.at 2 (wr:=true) (T:=49) (cs:=y.1.sc) (by kernel_rfl)) _
 ·refine Hs.e0 ?_;refine Hs.cF ?_;refine Hs.e0 ?_;refine Hs.cF ?_;refine Hs.e0 ?_;refine Hs.cn x.closed (fun hc=>?_) (fun hc=>?_)
  ·rw[if_pos hc];refine Hs.e0 ?_;exact Hs.rt (v:=.int .i64 9) Tryz.func10 fun w' H=>hkeep w' H.only (H.at 2 (wr:=true) (T:=49) (cs:=x.sc) (by kernel_rfl)) _
  ·rw[if_neg (by rw[hc];simp)];refine Hs.e0 ?_;refine Hs.callP (v:=.int .i64 y.2) 2 49 y.1.sc (fun w' H=>hT w' H.only (H.at 2 (wr:=true) (T:=49) (cs:=x.sc) (by kernel_rfl))) (by kernel_rfl) (by kernel_rfl) ?_;refine Hs.e0 ?_;exact Hs.rt (v:=.int .i64 y.2) Tryz.func10 fun w' H=>hput w' y.1 (H.only.mono (by simp)) (hpne w' H.only) (H.at 2 (wr:=true) (T:=49) (cs:=y.1.sc) (by kernel_rfl)) _
 ·refine Hs.e0 ?_;refine Hs.cF ?_;refine Hs.e0 ?_;refine Hs.cF ?_;refine Hs.e0 ?_;refine Hs.cn x.closed (fun hc=>?_) (fun hc=>?_)
  ·rw[if_pos hc];refine Hs.e0 ?_;exact Hs.rt (v:=.int .i64 9) Tryz.func10 fun w' H=>hkeep w' H.only (H.at 2 (wr:=true) (T:=49) (cs:=x.sc) (by kernel_rfl)) _
  ·rw[if_neg (by rw[hc];simp)];refine Hs.e0 ?_;refine Hs.callP (v:=.int .i64 y.2) 2 49 y.1.sc (fun w' H=>hT w' H.only (H.at 2 (wr:=true) (T:=49) (cs:=x.sc) (by kernel_rfl))) (by kernel_rfl) (by kernel_rfl) ?_;refine Hs.e0 ?_;exact Hs.rt (v:=.int .i64 y.2) Tryz.func10 fun w' H=>hput w' y.1 (H.only.mono (by simp)) (hpne w' H.only) (H.at 2 (wr:=true) (T:=49) (cs:=y.1.sc) (by kernel_rfl)) _
 ·refine Hs.e0 ?_;refine Hs.cF ?_;refine Hs.e0 ?_;refine Hs.cF ?_;refine Hs.e0 ?_;refine Hs.cn x.closed (fun hc=>?_) (fun hc=>?_)
  ·rw[if_pos hc];refine Hs.e0 ?_;exact Hs.rt (v:=.int .i64 9) Tryz.func10 fun w' H=>hkeep w' H.only (H.at 2 (wr:=true) (T:=49) (cs:=x.sc) (by kernel_rfl)) _
  ·rw[if_neg (by rw[hc];simp)];refine Hs.e0 ?_;refine Hs.callP (v:=.int .i64 y.2) 2 49 y.1.sc (fun w' H=>hT w' H.only (H.at 2 (wr:=true) (T:=49) (cs:=x.sc) (by kernel_rfl))) (by kernel_rfl) (by kernel_rfl) ?_;refine Hs.e0 ?_;exact Hs.rt (v:=.int .i64 y.2) Tryz.func10 fun w' H=>hput w' y.1 (H.only.mono (by simp)) (hpne w' H.only) (H.at 2 (wr:=true) (T:=49) (cs:=y.1.sc) (by kernel_rfl)) _
 ·refine Hs.e0 ?_;refine Hs.cF ?_;refine Hs.e0 ?_;refine Hs.cF ?_;refine Hs.e0 ?_;refine Hs.cn x.closed (fun hc=>?_) (fun hc=>?_)
  ·rw[if_pos hc];refine Hs.e0 ?_;exact Hs.rt (v:=.int .i64 9) Tryz.func10 fun w' H=>hkeep w' H.only (H.at 2 (wr:=true) (T:=49) (cs:=x.sc) (by kernel_rfl)) _
  ·rw[if_neg (by rw[hc];simp)];refine Hs.e0 ?_;refine Hs.callP (v:=.int .i64 y.2) 2 49 y.1.sc (fun w' H=>hT w' H.only (H.at 2 (wr:=true) (T:=49) (cs:=x.sc) (by kernel_rfl))) (by kernel_rfl) (by kernel_rfl) ?_;refine Hs.e0 ?_;exact Hs.rt (v:=.int .i64 y.2) Tryz.func10 fun w' H=>hput w' y.1 (H.only.mono (by simp)) (hpne w' H.only) (H.at 2 (wr:=true) (T:=49) (cs:=y.1.sc) (by kernel_rfl)) _
end Go.Proofs.YtkgikodiecmakaaGreatDoor
namespace Go.Proofs.YtkgikodiecmakaaGreatDoor
open Go.RowKit Go.MapKept
theorem cK (M:WM) (p:Nat) (m:MD) (w:World) (h:WAt w p M) (hd:M.dead=false) (hk:m.kind=1) (ok:Bool):Calls Tryz.prog 10 #[AO p,m.val] w (CV M p (AM M.abs m ok).1 (.int .i64 (AM M.abs m ok).2) w):=by
 have eS:AM M.abs m ok=({ M.abs with dead:=true },0):=by
  unfold AM;rw[if_neg (show¬M.abs.dead=true by rw[show M.abs.dead=M.dead from rfl,hd];decide),if_pos hk]
 rw[eS];have hb:=h.blk;have hput:=fun(w':World) (O:Only [p] w w') hp v=>h.putP (g:=M.glob) (d:=true) O hp v;obtain⟨ob,eb,nb,opens,glob,ends,nums,dead⟩:=M;dsimp only at *;subst hd;refine Hs.en Tryz.func10 [p] [p] [.b true 55 (wS ⟨ob,eb,nb,opens,glob,ends,nums,false⟩)] [.c (.p 0 0),.g (mdS m)] (Mem.one w p hb) ?_;refine Hs.e1 fun b0=>?_;refine Hs.cF ?_;refine Hs.e0 ?_;refine Hs.cF ?_;refine Hs.e0 ?_;refine Hs.any [0,1] (by kernel_rfl) ?_;refine Hs.e0 ?_;refine Hs.callQ (X:=Nat) (fun r=>some ⟨r,0,none⟩) (fun r=>.map (some r)) (fun r w'=>BM (kI .i64) w' r (GQ p)) (fun r=>BM.st) (fun w' H=>FH p w') (by kernel_rfl) (by kernel_rfl) fun r=>?_;refine Hs.e0 ?_;refine Hs.getM (r:=r) (es:=GQ p) GS m.kind true (.tuple #[mV 26 p,.bool true]) (by rw[hk];rfl) (by kernel_rfl) (fun w' H=>H.mapM 2 (by kernel_rfl)) ?_;refine Hs.e0 ?_;refine Hs.cT ?_;refine Hs.e0 ?_;refine Hs.inl Tryz.func26 [.c (.p 0 0),.g (mdS m)] (by kernel_rfl) (by kernel_rfl) ?_;refine Hs.e1 fun b1=>?_;refine Hs.retI Tryz.func26 (by kernel_rfl) (by kernel_rfl) (by kernel_rfl) ?_;refine Hs.e0 ?_;exact Hs.rt (v:=.int .i64 0) Tryz.func10 fun w' H=>hput w' H.only (H.at 0 (wr:=true) (T:=55) (cs:=wS ⟨ob,eb,nb,opens,glob,ends,nums,true⟩) (by kernel_rfl)) _
theorem XP (M:WM) (p:Nat) (m:MD) (w:World) (h:WAt w p M) (hd:M.dead=false) (hk:m.kind=81∨m.kind=82) (ok:Bool):Calls Tryz.prog 10 #[AO p,m.val] w (CV M p (AM M.abs m ok).1 (.int .i64 (AM M.abs m ok).2) w):=by
 have eS:AM M.abs m ok=if M.glob=0 then(M.abs,9) else({ M.abs with glob:=IntKind.i64.wrap (M.glob-1) },0):=by
  unfold AM;rw[if_neg (show¬M.abs.dead=true by rw[show M.abs.dead=M.dead from rfl,hd];decide),if_neg (by rcases hk with hk|hk<;>rw[hk]<;>decide),if_pos hk];rfl
 rw[eS];have hb:=h.blk;have hput:=fun(w':World) (g:Int) (O:Only [p] w w') hp v=>h.putP (g:=g) (d:=M.dead) O hp v;have hlook:BO m.kind (GQ p)=some (mV 27 p):=by rcases hk with hk|hk<;>rw[hk]<;>rfl
 obtain⟨ob,eb,nb,opens,glob,ends,nums,dead⟩:=M;dsimp only at *;subst hd;refine Hs.en Tryz.func10 [p] [p] [.b true 55 (wS ⟨ob,eb,nb,opens,glob,ends,nums,false⟩)] [.c (.p 0 0),.g (mdS m)] (Mem.one w p hb) ?_;refine Hs.e1 fun b0=>?_;refine Hs.cF ?_;refine Hs.e0 ?_;refine Hs.cF ?_;refine Hs.e0 ?_;refine Hs.any [0,1] (by kernel_rfl) ?_;refine Hs.e0 ?_;refine Hs.callQ (X:=Nat) (fun r=>some ⟨r,0,none⟩) (fun r=>.map (some r)) (fun r w'=>BM (kI .i64) w' r (GQ p)) (fun r=>BM.st) (fun w' H=>FH p w') (by kernel_rfl) (by kernel_rfl) fun r=>?_;refine Hs.e0 ?_;refine Hs.getM (r:=r) (es:=GQ p) GS m.kind true (.tuple #[mV 27 p,.bool true]) (by rw[hlook];rfl) (by kernel_rfl) (fun w' H=>H.mapM 2 (by kernel_rfl)) ?_;refine Hs.e0 ?_;refine Hs.cT ?_;refine Hs.e0 ?_;refine Hs.inl Tryz.func27 [.c (.p 0 0),.g (mdS m)] (by kernel_rfl) (by kernel_rfl) ?_;refine Hs.e1 fun b1=>?_;refine Hs.cP (glob=0) (fun hg=>?_) (fun hg=>?_)
 ·rw[if_pos hg];refine Hs.e0 ?_;refine Hs.retI Tryz.func27 (by kernel_rfl) (by kernel_rfl) (by kernel_rfl) ?_;refine Hs.e0 ?_;exact Hs.rt (v:=.int .i64 9) Tryz.func10 fun w' H=>hput w' glob H.only (H.at 0 (wr:=true) (T:=55) (cs:=wS ⟨ob,eb,nb,opens,glob,ends,nums,false⟩) (by kernel_rfl)) _
 ·rw[if_neg hg];refine Hs.e0 ?_;refine Hs.retI Tryz.func27 (by kernel_rfl) (by kernel_rfl) (by kernel_rfl) ?_;refine Hs.e0 ?_;exact Hs.rt (v:=.int .i64 0) Tryz.func10 fun w' H=>hput w' _ H.only (H.at 0 (wr:=true) (T:=55) (cs:=wS ⟨ob,eb,nb,opens,IntKind.i64.wrap (glob-1),ends,nums,false⟩) (by kernel_rfl)) _
end Go.Proofs.YtkgikodiecmakaaGreatDoor
