/- ClientSends: lemmas, from 'Layer 3: the row of a kind' on; what each asks for stands in it. -/
import Derived.Test.YtfbhemmpobgdpaaGreatDoorCsF
import Derived.Test.YtfbhemmpobgdpaaGreatDoorCsA
import Derived.Test.YtfbhemmpobgdpaaGreatDoorCsC
import Derived.Test.YtfbhemmpobgdpaaGreatDoorCsE
set_option linter.all false
set_option maxRecDepth 100000
set_option maxHeartbeats 64000000
namespace Go.Proofs.YtfbhemmpobgdpaaGreatDoor
open Go.RowKit
def BX (k:Int):Option (List Nat):=
 if k=1 then some [0,1,2] else if k=80 then some [3,4,5] else if k=81 then some [5] else if k=82 then some [] else if k=90 then some [3,6,7,8,5] else if k=91 then some [9,6,7,8,5] else if k=92 then some [9,0,1,2] else if k=93 then some [9,7] else if k=94 then some [9,1] else if k=95 then some [9,0,1] else if k=96 then some [9] else if k=97 then some [9] else if k=99 then some [9] else if k=100 then some [9] else if k=98 then some [9,3,4,5] else none
def FB (js:List Nat):List Value:=js.flatMap MH
def cM (w:World) (r:Option (List Nat)):Ending->World->Prop:=fun e w'=>Only [] w w'/\match r with
 |none=>e = .returned (.tuple #[.slice none 0 0,.bool false])
 |some js=>∃A,e = .returned (.tuple #[.slice A js.length js.length,.bool true])/\(0<js.length->∃g,A=some ⟨g,0,none⟩/\Blk w' g 158 (FB js))
theorem fT (k:Int) (w:World):Calls Tryz.prog 62 #[.int .i64 k] w (cM w (BX k)):=by
 by_cases h1:k=1
 ·subst h1;rw[show BX 1=some [0,1,2] from rfl];go_enter Tryz.func62,Tryz.ntmps62
  go_wp2_with fail
  go_call (TL w) as e w1 ⟨rfl,P1⟩
  go_wp2_with fail
  go_call (MY w1) as e w2 ⟨rfl,P2⟩
  go_wp2_with fail
  go_call (bB w2) as e w3 ⟨rfl,P3⟩
  go_wp2_with fail
  go_ret2
  exact⟨((((Only.refl [] w).trans P1 (by simp)).trans P2 (by simp)).trans P3 (by simp)).alloc _,some ⟨w3.heap.size,0,none⟩,rfl,fun _=>⟨_,rfl,Blk.new w3 158 (FB [0,1,2])⟩⟩
 by_cases h80:k=80
 ·subst h80;rw[show BX 80=some [3,4,5] from rfl];go_enter Tryz.func62,Tryz.ntmps62
  go_wp2_with fail
  go_call (TM w) as e w1 ⟨rfl,P1⟩
  go_wp2_with fail
  go_call (bC w1) as e w2 ⟨rfl,P2⟩
  go_wp2_with fail
  go_call (MI w2) as e w3 ⟨rfl,P3⟩
  go_wp2_with fail
  go_ret2
  exact⟨((((Only.refl [] w).trans P1 (by simp)).trans P2 (by simp)).trans P3 (by simp)).alloc _,some ⟨w3.heap.size,0,none⟩,rfl,fun _=>⟨_,rfl,Blk.new w3 158 (FB [3,4,5])⟩⟩
 by_cases h81:k=81
 ·subst h81;rw[show BX 81=some [5] from rfl];go_enter Tryz.func62,Tryz.ntmps62
  go_wp2_with fail
  go_call (MI w) as e w1 ⟨rfl,P1⟩
  go_wp2_with fail
  go_ret2
  exact⟨((Only.refl [] w).trans P1 (by simp)).alloc _,some ⟨w1.heap.size,0,none⟩,rfl,fun _=>⟨_,rfl,Blk.new w1 158 (FB [5])⟩⟩
 by_cases h82:k=82
 ·subst h82;rw[show BX 82=some [] from rfl];go_enter Tryz.func62,Tryz.ntmps62
  go_wp2_with fail
  go_ret2
  exact⟨zR _ _,none,rfl,fun h=>by simp at h⟩
 by_cases h90:k=90
 ·subst h90;rw[show BX 90=some [3,6,7,8,5] from rfl];go_enter Tryz.func62,Tryz.ntmps62
  go_wp2_with fail
  go_call (TM w) as e w1 ⟨rfl,P1⟩
  go_wp2_with fail
  go_call (UT w1) as e w2 ⟨rfl,P2⟩
  go_wp2_with fail
  go_call (NY w2) as e w3 ⟨rfl,P3⟩
  go_wp2_with fail
  go_call (US w3) as e w4 ⟨rfl,P4⟩
  go_wp2_with fail
  go_call (MI w4) as e w5 ⟨rfl,P5⟩
  go_wp2_with fail
  go_ret2
  exact⟨((((((Only.refl [] w).trans P1 (by simp)).trans P2 (by simp)).trans P3 (by simp)).trans P4 (by simp)).trans P5 (by simp)).alloc _,some ⟨w5.heap.size,0,none⟩,rfl,fun _=>⟨_,rfl,Blk.new w5 158 (FB [3,6,7,8,5])⟩⟩
 by_cases h91:k=91
 ·subst h91;rw[show BX 91=some [9,6,7,8,5] from rfl];go_enter Tryz.func62,Tryz.ntmps62
  go_wp2_with fail
  go_call (DC w) as e w1 ⟨rfl,P1⟩
  go_wp2_with fail
  go_call (UT w1) as e w2 ⟨rfl,P2⟩
  go_wp2_with fail
  go_call (NY w2) as e w3 ⟨rfl,P3⟩
  go_wp2_with fail
  go_call (US w3) as e w4 ⟨rfl,P4⟩
  go_wp2_with fail
  go_call (MI w4) as e w5 ⟨rfl,P5⟩
  go_wp2_with fail
  go_ret2
  exact⟨((((((Only.refl [] w).trans P1 (by simp)).trans P2 (by simp)).trans P3 (by simp)).trans P4 (by simp)).trans P5 (by simp)).alloc _,some ⟨w5.heap.size,0,none⟩,rfl,fun _=>⟨_,rfl,Blk.new w5 158 (FB [9,6,7,8,5])⟩⟩
 by_cases h92:k=92
 ·subst h92;rw[show BX 92=some [9,0,1,2] from rfl];go_enter Tryz.func62,Tryz.ntmps62
  go_wp2_with fail
  go_call (DC w) as e w1 ⟨rfl,P1⟩
  go_wp2_with fail
  go_call (TL w1) as e w2 ⟨rfl,P2⟩
  go_wp2_with fail
  go_call (MY w2) as e w3 ⟨rfl,P3⟩
  go_wp2_with fail
  go_call (bB w3) as e w4 ⟨rfl,P4⟩
  go_wp2_with fail
  go_ret2
  exact⟨(((((Only.refl [] w).trans P1 (by simp)).trans P2 (by simp)).trans P3 (by simp)).trans P4 (by simp)).alloc _,some ⟨w4.heap.size,0,none⟩,rfl,fun _=>⟨_,rfl,Blk.new w4 158 (FB [9,0,1,2])⟩⟩
 by_cases h93:k=93
 ·subst h93;rw[show BX 93=some [9,7] from rfl];go_enter Tryz.func62,Tryz.ntmps62
  go_wp2_with fail
  go_call (DC w) as e w1 ⟨rfl,P1⟩
  go_wp2_with fail
  go_call (NY w1) as e w2 ⟨rfl,P2⟩
  go_wp2_with fail
  go_ret2
  exact⟨(((Only.refl [] w).trans P1 (by simp)).trans P2 (by simp)).alloc _,some ⟨w2.heap.size,0,none⟩,rfl,fun _=>⟨_,rfl,Blk.new w2 158 (FB [9,7])⟩⟩
 by_cases h94:k=94
 ·subst h94;rw[show BX 94=some [9,1] from rfl];go_enter Tryz.func62,Tryz.ntmps62
  go_wp2_with fail
  go_call (DC w) as e w1 ⟨rfl,P1⟩
  go_wp2_with fail
  go_call (MY w1) as e w2 ⟨rfl,P2⟩
  go_wp2_with fail
  go_ret2
  exact⟨(((Only.refl [] w).trans P1 (by simp)).trans P2 (by simp)).alloc _,some ⟨w2.heap.size,0,none⟩,rfl,fun _=>⟨_,rfl,Blk.new w2 158 (FB [9,1])⟩⟩
 by_cases h95:k=95
 ·subst h95;rw[show BX 95=some [9,0,1] from rfl];go_enter Tryz.func62,Tryz.ntmps62
  go_wp2_with fail
  go_call (DC w) as e w1 ⟨rfl,P1⟩
  go_wp2_with fail
  go_call (TL w1) as e w2 ⟨rfl,P2⟩
  go_wp2_with fail
  go_call (MY w2) as e w3 ⟨rfl,P3⟩
  go_wp2_with fail
  go_ret2
  exact⟨((((Only.refl [] w).trans P1 (by simp)).trans P2 (by simp)).trans P3 (by simp)).alloc _,some ⟨w3.heap.size,0,none⟩,rfl,fun _=>⟨_,rfl,Blk.new w3 158 (FB [9,0,1])⟩⟩
 by_cases h96:k=96
 ·subst h96;rw[show BX 96=some [9] from rfl];go_enter Tryz.func62,Tryz.ntmps62
  go_wp2_with fail
  go_call (DC w) as e w1 ⟨rfl,P1⟩
  go_wp2_with fail
  go_ret2
  exact⟨((Only.refl [] w).trans P1 (by simp)).alloc _,some ⟨w1.heap.size,0,none⟩,rfl,fun _=>⟨_,rfl,Blk.new w1 158 (FB [9])⟩⟩
 by_cases h97:k=97
 ·subst h97;rw[show BX 97=some [9] from rfl];go_enter Tryz.func62,Tryz.ntmps62
  go_wp2_with fail
  go_call (DC w) as e w1 ⟨rfl,P1⟩
  go_wp2_with fail
  go_ret2
  exact⟨((Only.refl [] w).trans P1 (by simp)).alloc _,some ⟨w1.heap.size,0,none⟩,rfl,fun _=>⟨_,rfl,Blk.new w1 158 (FB [9])⟩⟩
 by_cases h99:k=99
 ·subst h99;rw[show BX 99=some [9] from rfl];go_enter Tryz.func62,Tryz.ntmps62
  go_wp2_with fail
  go_call (DC w) as e w1 ⟨rfl,P1⟩
  go_wp2_with fail
  go_ret2
  exact⟨((Only.refl [] w).trans P1 (by simp)).alloc _,some ⟨w1.heap.size,0,none⟩,rfl,fun _=>⟨_,rfl,Blk.new w1 158 (FB [9])⟩⟩
 by_cases h100:k=100
 ·subst h100;rw[show BX 100=some [9] from rfl];go_enter Tryz.func62,Tryz.ntmps62
  go_wp2_with fail
  go_call (DC w) as e w1 ⟨rfl,P1⟩
  go_wp2_with fail
  go_ret2
  exact⟨((Only.refl [] w).trans P1 (by simp)).alloc _,some ⟨w1.heap.size,0,none⟩,rfl,fun _=>⟨_,rfl,Blk.new w1 158 (FB [9])⟩⟩
 by_cases h98:k=98
 ·subst h98;rw[show BX 98=some [9,3,4,5] from rfl];go_enter Tryz.func62,Tryz.ntmps62
  go_wp2_with fail
  go_call (DC w) as e w1 ⟨rfl,P1⟩
  go_wp2_with fail
  go_call (TM w1) as e w2 ⟨rfl,P2⟩
  go_wp2_with fail
  go_call (bC w2) as e w3 ⟨rfl,P3⟩
  go_wp2_with fail
  go_call (MI w3) as e w4 ⟨rfl,P4⟩
  go_wp2_with fail
  go_ret2
  exact⟨(((((Only.refl [] w).trans P1 (by simp)).trans P2 (by simp)).trans P3 (by simp)).trans P4 (by simp)).alloc _,some ⟨w4.heap.size,0,none⟩,rfl,fun _=>⟨_,rfl,Blk.new w4 158 (FB [9,3,4,5])⟩⟩
 have hr:BX k=none:=by
  unfold BX;simp only[h1,h80,h81,h82,h90,h91,h92,h93,h94,h95,h96,h97,h99,h100,h98,if_false]
 rw[hr];have e1:(k==1)=false:=beq_eq_false_iff_ne.2 h1;have e80:(k==80)=false:=beq_eq_false_iff_ne.2 h80;have e81:(k==81)=false:=beq_eq_false_iff_ne.2 h81;have e82:(k==82)=false:=beq_eq_false_iff_ne.2 h82;have e90:(k==90)=false:=beq_eq_false_iff_ne.2 h90;have e91:(k==91)=false:=beq_eq_false_iff_ne.2 h91;have e92:(k==92)=false:=beq_eq_false_iff_ne.2 h92;have e93:(k==93)=false:=beq_eq_false_iff_ne.2 h93;have e94:(k==94)=false:=beq_eq_false_iff_ne.2 h94;have e95:(k==95)=false:=beq_eq_false_iff_ne.2 h95;have e96:(k==96)=false:=beq_eq_false_iff_ne.2 h96;have e97:(k==97)=false:=beq_eq_false_iff_ne.2 h97;have e99:(k==99)=false:=beq_eq_false_iff_ne.2 h99;have e100:(k==100)=false:=beq_eq_false_iff_ne.2 h100;have e98:(k==98)=false:=beq_eq_false_iff_ne.2 h98;go_enter Tryz.func62,Tryz.ntmps62
 go_wp2_with fail
 go_ret2
 exact⟨zR _ _,rfl⟩
def U32 (n:Int):Prop:=0<=n/\n<=4294967295
structure MD where
  kind : Int
  chan : Int
  sender : Int
  window : Int
  packet : Int
  code : Int
  name : ByteArray
  lang : ByteArray
  want : Bool
  dA : Option Addr
  dc : Nat
  data : List Int
def MD.cells (m:MD):List Value:=[.int .i64 m.kind,.int .u32 m.chan,.int .u32 m.sender,.int .u32 m.window,.int .u32 m.packet,.int .u32 m.code,.string m.name,.string m.lang,.bool m.want,.slice m.dA m.data.length m.dc]
def MD.val (m:MD):Value:=.agg #[.int .i64 m.kind,.int .u32 m.chan,.int .u32 m.sender,.int .u32 m.window,.int .u32 m.packet,.int .u32 m.code,.string m.name,.string m.lang,.bool m.want,.slice m.dA m.data.length m.dc]
structure MD.ok (w : World) (m : MD) : Prop where
  data : RdG (.int .u8) w m.dA m.data
  dle : m.data.length <= m.dc
  dmax : m.dc <= maxLen
  bytes : ∀ x ∈ m.data, 0 <= x /\ x < 256
  nums : U32 m.chan /\ U32 m.sender /\ U32 m.window /\ U32 m.packet /\ U32 m.code
  name : m.name.size <= maxLen
  lang : m.lang.size <= maxLen
theorem MD.ok.only {w w':World} {m:MD} (h:m.ok w) (hb:Only [] w w'):m.ok w':={ h with data:=h.data.only hb }
theorem qM {w:World} {g:Nat} {t:TypeId} {cs:List Value} (h:Blk w g t cs) (M:MD) (e:cs=M.cells:=by rfl):w.cell? ⟨g,0,none⟩=some (.int .i64 M.kind)/\w.cell? ⟨g,1,none⟩=some (.int .u32 M.chan)/\w.cell? ⟨g,2,none⟩=some (.int .u32 M.sender)/\w.cell? ⟨g,3,none⟩=some (.int .u32 M.window)/\w.cell? ⟨g,4,none⟩=some (.int .u32 M.packet)/\w.cell? ⟨g,5,none⟩=some (.int .u32 M.code)/\w.cell? ⟨g,6,none⟩=some (.string M.name)/\w.cell? ⟨g,7,none⟩=some (.string M.lang)/\w.cell? ⟨g,8,none⟩=some (.bool M.want)/\w.cell? ⟨g,9,none⟩=some (.slice M.dA M.data.length M.dc):=by subst e;exact⟨h.cell 0,h.cell 1,h.cell 2,h.cell 3,h.cell 4,h.cell 5,h.cell 6,h.cell 7,h.cell 8,h.cell 9⟩
end Go.Proofs.YtfbhemmpobgdpaaGreatDoor
namespace Go.Proofs.YtfbhemmpobgdpaaGreatDoor
open Go.RowKit
def LN (s:ByteArray):List Int:=u8i s.data.toList
theorem JZ (s:ByteArray):(LN s).length=s.size:=by unfold LN u8i;simp
def AP (m:MD) (j:Nat):PF:=match j with
 |0=>⟨3,m.code,[],[]⟩
 |1=>⟨4,0,m.data,[]⟩
 |2=>⟨4,0,LN m.lang,[]⟩
 |3=>⟨4,0,LN m.name,[]⟩
 |4=>⟨2,if m.want then 1 else 0,[],[]⟩
 |5=>⟨6,0,m.data,[]⟩
 |6=>⟨3,m.sender,[],[]⟩
 |7=>⟨3,m.window,[],[]⟩
 |8=>⟨3,m.packet,[],[]⟩
 |_=>⟨3,m.chan,[],[]⟩
def IJ (w:World) (dA:Option Addr) (d:List Int) (p:PF):Ending->World->Prop:=fun e w'=>Only [] w w'/\∃f:FD,e = .returned f.val/\f.pf = { p with kind:=0 }/\((f.tA=dA/\f.text=d)\/∀a,f.tA=some a->w.heap.size<=a.block)/\f.ok w'/\0<=f.n/\f.n<=4294967295
section
variable (m:MD) (g:Nat) (w:World)
theorem fI (hg:Blk w g 150 m.cells) (hn:U32 m.code):Calls Tryz.prog 145 #[.pointer (some ⟨g,0,none⟩)] w (IJ w m.dA m.data ⟨3,m.code,[],[]⟩):=by
 have c:w.cell? ⟨g,5,none⟩=some (.int .u32 m.code):=hg.cell 5;have hlt:=hg.lt;go_enter Tryz.func145,Tryz.ntmps145
 go_wp2
 (try simp only[Exit.inBlock,Exit.then])
 refine AS (g:=w.heap.size) rfl (by rfl) (by rfl) (Blk.new w 153 [.int .i64 0,.int .u32 m.code,.slice none 0 0,.slice none 0 0]) ?_;exact⟨(zR _ _).alloc _,⟨0,m.code,none,0,[],none,0,[]⟩,rfl,rfl,.inr (fun a ha=>by simp at ha),FD.ok.plain _ _ _,hn⟩
theorem ZD (hg:Blk w g 150 m.cells) (hn:U32 m.sender):Calls Tryz.prog 155 #[.pointer (some ⟨g,0,none⟩)] w (IJ w m.dA m.data ⟨3,m.sender,[],[]⟩):=by
 have c:w.cell? ⟨g,2,none⟩=some (.int .u32 m.sender):=hg.cell 2;have hlt:=hg.lt;go_enter Tryz.func155,Tryz.ntmps155
 go_wp2
 (try simp only[Exit.inBlock,Exit.then])
 refine AS (g:=w.heap.size) rfl (by rfl) (by rfl) (Blk.new w 153 [.int .i64 0,.int .u32 m.sender,.slice none 0 0,.slice none 0 0]) ?_;exact⟨(zR _ _).alloc _,⟨0,m.sender,none,0,[],none,0,[]⟩,rfl,rfl,.inr (fun a ha=>by simp at ha),FD.ok.plain _ _ _,hn⟩
theorem ZE (hg:Blk w g 150 m.cells) (hn:U32 m.window):Calls Tryz.prog 157 #[.pointer (some ⟨g,0,none⟩)] w (IJ w m.dA m.data ⟨3,m.window,[],[]⟩):=by
 have c:w.cell? ⟨g,3,none⟩=some (.int .u32 m.window):=hg.cell 3;have hlt:=hg.lt;go_enter Tryz.func157,Tryz.ntmps157
 go_wp2
 (try simp only[Exit.inBlock,Exit.then])
 refine AS (g:=w.heap.size) rfl (by rfl) (by rfl) (Blk.new w 153 [.int .i64 0,.int .u32 m.window,.slice none 0 0,.slice none 0 0]) ?_;exact⟨(zR _ _).alloc _,⟨0,m.window,none,0,[],none,0,[]⟩,rfl,rfl,.inr (fun a ha=>by simp at ha),FD.ok.plain _ _ _,hn⟩
theorem ZC (hg:Blk w g 150 m.cells) (hn:U32 m.packet):Calls Tryz.prog 159 #[.pointer (some ⟨g,0,none⟩)] w (IJ w m.dA m.data ⟨3,m.packet,[],[]⟩):=by
 have c:w.cell? ⟨g,4,none⟩=some (.int .u32 m.packet):=hg.cell 4;have hlt:=hg.lt;go_enter Tryz.func159,Tryz.ntmps159
 go_wp2
 (try simp only[Exit.inBlock,Exit.then])
 refine AS (g:=w.heap.size) rfl (by rfl) (by rfl) (Blk.new w 153 [.int .i64 0,.int .u32 m.packet,.slice none 0 0,.slice none 0 0]) ?_;exact⟨(zR _ _).alloc _,⟨0,m.packet,none,0,[],none,0,[]⟩,rfl,rfl,.inr (fun a ha=>by simp at ha),FD.ok.plain _ _ _,hn⟩
theorem fH (hg:Blk w g 150 m.cells) (hn:U32 m.chan):Calls Tryz.prog 161 #[.pointer (some ⟨g,0,none⟩)] w (IJ w m.dA m.data ⟨3,m.chan,[],[]⟩):=by
 have c:w.cell? ⟨g,1,none⟩=some (.int .u32 m.chan):=hg.cell 1;have hlt:=hg.lt;go_enter Tryz.func161,Tryz.ntmps161
 go_wp2
 (try simp only[Exit.inBlock,Exit.then])
 refine AS (g:=w.heap.size) rfl (by rfl) (by rfl) (Blk.new w 153 [.int .i64 0,.int .u32 m.chan,.slice none 0 0,.slice none 0 0]) ?_;exact⟨(zR _ _).alloc _,⟨0,m.chan,none,0,[],none,0,[]⟩,rfl,rfl,.inr (fun a ha=>by simp at ha),FD.ok.plain _ _ _,hn⟩
theorem fN (hg:Blk w g 150 m.cells):Calls Tryz.prog 153 #[.pointer (some ⟨g,0,none⟩)] w (IJ w m.dA m.data ⟨2,if m.want then 1 else 0,[],[]⟩):=by
 have c:w.cell? ⟨g,8,none⟩=some (.bool m.want):=hg.cell 8;have hlt:=hg.lt;cases hw:m.want with
 |true=>
  rw[hw] at c;go_enter Tryz.func153,Tryz.ntmps153
  go_wp2
  (try simp only[Exit.inBlock,Exit.then])
  refine AS (g:=w.heap.size) rfl (by rfl) (by rfl) (Blk.new w 153 [.int .i64 0,.int .u32 1,.slice none 0 0,.slice none 0 0]) ?_;exact⟨(zR _ _).alloc _,⟨0,1,none,0,[],none,0,[]⟩,rfl,rfl,.inr (fun a ha=>by simp at ha),FD.ok.plain _ _ _,by decide,by decide⟩
 |false=>
  rw[hw] at c;go_enter Tryz.func153,Tryz.ntmps153
  go_wp2
  (try simp only[Exit.inBlock,Exit.then])
  refine AS (g:=w.heap.size) rfl (by rfl) (by rfl) (Blk.new w 153 [.int .i64 0,.int .u32 0,.slice none 0 0,.slice none 0 0]) ?_;exact⟨(zR _ _).alloc _,⟨0,0,none,0,[],none,0,[]⟩,rfl,rfl,.inr (fun a ha=>by simp at ha),FD.ok.plain _ _ _,by decide,by decide⟩
theorem UM (k:Int) (hg:Blk w g 150 m.cells) (hm:m.ok w):Calls Tryz.prog 147 #[.pointer (some ⟨g,0,none⟩)] w (IJ w m.dA m.data ⟨k,0,m.data,[]⟩):=by
 have c:w.cell? ⟨g,9,none⟩=some (.slice m.dA m.data.length m.dc):=hg.cell 9;have hlt:=hg.lt;go_enter Tryz.func147,Tryz.ntmps147
 go_wp2
 (try simp only[Exit.inBlock,Exit.then])
 refine AS (g:=w.heap.size) rfl (by rfl) (by rfl) (Blk.new w 153 [.int .i64 0,.int .u32 0,.slice m.dA m.data.length m.dc,.slice none 0 0]) ?_;exact⟨(zR _ _).alloc _,⟨0,0,m.dA,m.dc,m.data,none,0,[]⟩,rfl,rfl,.inl ⟨rfl,rfl⟩,⟨RdG.only hm.data ((zR _ _).alloc _),RdG.nil,hm.dle,hm.dmax,by simp,by simp,by simp⟩,Int.le_refl 0,show(0:Int)<=4294967295 by decide⟩
end
end Go.Proofs.YtfbhemmpobgdpaaGreatDoor
namespace Go.Proofs.YtfbhemmpobgdpaaGreatDoor
open Go.RowKit
section
variable (m:MD) (g:Nat) (w:World)
theorem fL (hg:Blk w g 150 m.cells) (hs:m.name.size<=140737488355328):Calls Tryz.prog 151 #[.pointer (some ⟨g,0,none⟩)] w (IJ w m.dA m.data ⟨4,0,LN m.name,[]⟩):=by
 have c:w.cell? ⟨g,6,none⟩=some (.string m.name):=hg.cell 6;have hlt:=hg.lt;have hne: ¬g=w.heap.size:=by omega
 obtain⟨w1,hw1⟩:=qY (w.alloc (.cells #[.int .i64 0,.int .u32 0,.slice none 0 0,.slice none 0 0] 153));have P1:Only [] w w1:=by rw[hw1];exact(zR _ _).alloc _
 have K1:Blk w1 w.heap.size 153 [.int .i64 0,.int .u32 0,.slice none 0 0,.slice none 0 0]:=by rw[hw1];exact Blk.new w _ _
 have hs1:w1.heap.size=w.heap.size+1:=by rw[hw1];simp
 obtain⟨cc,w3,hcv,hcc,hcm,P3,RS,hs3⟩:=FO w1 m.name.data.toList;have hul:m.name.data.toList.length=m.name.size:=by simp
 rw[hul] at hcv hcc hcm;have heta:(⟨m.name.data.toList.toArray⟩:ByteArray)=m.name:=Go.Joins.bytes_eta m.name;rw[heta] at hcv;have K3:=K1.only P3 (by simp);obtain⟨g0,f0,g1,f1,g2,f2,g3,f3⟩:=qF K3 0;rw[hw1] at hcv;have hcc2:(LN m.name).length<=cc:=by rw[JZ];exact hcc
 have hcm2:cc<=maxLen:=hcm (by unfold maxLen;omega);rw[hs1] at RS;rw[show(w.alloc (.cells #[.int .i64 0,.int .u32 0,.slice none 0 0,.slice none 0 0] 153)).heap.size=w.heap.size+1 by simp] at hcv;obtain⟨n,hn⟩:=qX m.name.size;rw[hn] at hcv;replace hcc:=AB hcc;replace hul:=AB hul;replace hn:=AB hn;replace hs1:=AB hs1;replace hw1:=AB hw1;replace heta:=AB heta;clear K1 hcm;go_enter Tryz.func151,Tryz.ntmps151
 go_wp2
 (try simp only[Exit.inBlock,Exit.then])
 have Y4:=W4.only w3 w.heap.size (.int .i64 0) (.int .u32 0) (.slice (some ⟨w.heap.size+1,0,none⟩) n cc) (.slice none 0 0);refine AS (g:=w.heap.size) rfl (by rfl) (by rfl) (W4.blk K3 (.int .i64 0) (.int .u32 0) (.slice (some ⟨w.heap.size+1,0,none⟩) n cc) (.slice none 0 0)) ?_;refine⟨(P1.trans P3 (by simp)).trans Y4 (fun x hx=>.inr (by simp at hx;omega)),⟨0,0,some ⟨w.heap.size+1,0,none⟩,cc,LN m.name,none,0,[]⟩,?_,rfl,.inr (fun a ha=>by injection ha with ha;subst ha;exact Nat.le_succ _),⟨?_,RdG.nil,hcc2,hcm2,by simp,by simp,by simp⟩,Int.le_refl 0,show(0:Int)<=4294967295 by decide⟩
 ·unfold FD.val;dsimp only;rw[JZ,hn.out];rfl
 ·exact RdG.onlyL (mk:=.int .u8) RS Y4 (fun a ha _=>by injection ha with ha;subst ha;simp)
theorem fK (hg:Blk w g 150 m.cells) (hs:m.lang.size<=140737488355328):Calls Tryz.prog 149 #[.pointer (some ⟨g,0,none⟩)] w (IJ w m.dA m.data ⟨4,0,LN m.lang,[]⟩):=by
 have c:w.cell? ⟨g,7,none⟩=some (.string m.lang):=hg.cell 7;have hlt:=hg.lt;have hne: ¬g=w.heap.size:=by omega
 obtain⟨w1,hw1⟩:=qY (w.alloc (.cells #[.int .i64 0,.int .u32 0,.slice none 0 0,.slice none 0 0] 153));have P1:Only [] w w1:=by rw[hw1];exact(zR _ _).alloc _
 have K1:Blk w1 w.heap.size 153 [.int .i64 0,.int .u32 0,.slice none 0 0,.slice none 0 0]:=by rw[hw1];exact Blk.new w _ _
 have hs1:w1.heap.size=w.heap.size+1:=by rw[hw1];simp
 obtain⟨cc,w3,hcv,hcc,hcm,P3,RS,hs3⟩:=FO w1 m.lang.data.toList;have hul:m.lang.data.toList.length=m.lang.size:=by simp
 rw[hul] at hcv hcc hcm;have heta:(⟨m.lang.data.toList.toArray⟩:ByteArray)=m.lang:=Go.Joins.bytes_eta m.lang;rw[heta] at hcv;have K3:=K1.only P3 (by simp);obtain⟨g0,f0,g1,f1,g2,f2,g3,f3⟩:=qF K3 0;rw[hw1] at hcv;have hcc2:(LN m.lang).length<=cc:=by rw[JZ];exact hcc
 have hcm2:cc<=maxLen:=hcm (by unfold maxLen;omega);rw[hs1] at RS;rw[show(w.alloc (.cells #[.int .i64 0,.int .u32 0,.slice none 0 0,.slice none 0 0] 153)).heap.size=w.heap.size+1 by simp] at hcv;obtain⟨n,hn⟩:=qX m.lang.size;rw[hn] at hcv;replace hcc:=AB hcc;replace hul:=AB hul;replace hn:=AB hn;replace hs1:=AB hs1;replace hw1:=AB hw1;replace heta:=AB heta;clear K1 hcm;go_enter Tryz.func149,Tryz.ntmps149
 go_wp2
 (try simp only[Exit.inBlock,Exit.then])
 have Y4:=W4.only w3 w.heap.size (.int .i64 0) (.int .u32 0) (.slice (some ⟨w.heap.size+1,0,none⟩) n cc) (.slice none 0 0);refine AS (g:=w.heap.size) rfl (by rfl) (by rfl) (W4.blk K3 (.int .i64 0) (.int .u32 0) (.slice (some ⟨w.heap.size+1,0,none⟩) n cc) (.slice none 0 0)) ?_;refine⟨(P1.trans P3 (by simp)).trans Y4 (fun x hx=>.inr (by simp at hx;omega)),⟨0,0,some ⟨w.heap.size+1,0,none⟩,cc,LN m.lang,none,0,[]⟩,?_,rfl,.inr (fun a ha=>by injection ha with ha;subst ha;exact Nat.le_succ _),⟨?_,RdG.nil,hcc2,hcm2,by simp,by simp,by simp⟩,Int.le_refl 0,show(0:Int)<=4294967295 by decide⟩
 ·unfold FD.val;dsimp only;rw[JZ,hn.out];rfl
 ·exact RdG.onlyL (mk:=.int .u8) RS Y4 (fun a ha _=>by injection ha with ha;subst ha;simp)
end
theorem dG (j:Nat) (hj:j<10): ∃F:FuncId,pget j=F/\(∀(args:Array Value) (w:World),(callFunc F args).run Tryz.prog w = .ok (.enter F args) w)/\
  ∀(w:World) (m:MD) (g:Nat),Blk w g 150 m.cells->m.ok w->m.name.size<=140737488355328->m.lang.size<=140737488355328->Calls Tryz.prog F #[.pointer (some ⟨g,0,none⟩)] w (IJ w m.dA m.data (AP m j)):=by
 have h:j=0\/j=1\/j=2\/j=3\/j=4\/j=5\/j=6\/j=7\/j=8\/j=9:=by omega
 rcases h with rfl|rfl|rfl|rfl|rfl|rfl|rfl|rfl|rfl|rfl;·exact⟨_,rfl,fun args w=>by kernel_rfl,fun w m g hg hm hs hl=>fI m g w hg hm.nums.2.2.2.2⟩
 ·exact⟨_,rfl,fun args w=>by kernel_rfl,fun w m g hg hm hs hl=>UM m g w 4 hg hm⟩
 ·exact⟨_,rfl,fun args w=>by kernel_rfl,fun w m g hg hm hs hl=>fK m g w hg hl⟩
 ·exact⟨_,rfl,fun args w=>by kernel_rfl,fun w m g hg hm hs hl=>fL m g w hg hs⟩
 ·exact⟨_,rfl,fun args w=>by kernel_rfl,fun w m g hg hm hs hl=>fN m g w hg⟩
 ·exact⟨_,rfl,fun args w=>by kernel_rfl,fun w m g hg hm hs hl=>UM m g w 6 hg hm⟩
 ·exact⟨_,rfl,fun args w=>by kernel_rfl,fun w m g hg hm hs hl=>ZD m g w hg hm.nums.2.1⟩
 ·exact⟨_,rfl,fun args w=>by kernel_rfl,fun w m g hg hm hs hl=>ZE m g w hg hm.nums.2.2.1⟩
 ·exact⟨_,rfl,fun args w=>by kernel_rfl,fun w m g hg hm hs hl=>ZC m g w hg hm.nums.2.2.2.1⟩
 ·exact⟨_,rfl,fun args w=>by kernel_rfl,fun w m g hg hm hs hl=>fH m g w hg hm.nums.1⟩
end Go.Proofs.YtfbhemmpobgdpaaGreatDoor
namespace Go.Proofs.YtfbhemmpobgdpaaGreatDoor
open Go.RowKit
def ON (c:UInt8):Bool:=decide (33<=c.toNat)&&decide (c.toNat<=126)
def FC (s:ByteArray) (least:Nat):Bool:=decide (least<=s.size)&&decide (s.size<=64)&&s.data.toList.all ON
def BW (m:MD):Bool:=if m.kind=80\/m.kind=90\/m.kind=98 then FC m.name 1 else if m.kind=1\/m.kind=92 then FC m.lang 0 else true
theorem PR (s:ByteArray) (least:Nat) (w:World) (hs:s.size<=maxLen):Calls Tryz.prog 108 #[.string s,.int .i64 (least:Int)] w fun e w'=>e = .returned (.bool (FC s least))/\w=w':=by
 unfold maxLen at hs;obtain⟨R,hR⟩:=qY (FC s least);rw[<-hR];replace hR:=AB hR;by_cases h1:s.size<least
 ·have hR0:R=false:=by rw[hR.out];unfold FC;rw[decide_eq_false (show¬least<=s.size by omega)];rfl
  have i1:(s.size:Int)<(least:Int):=by omega
  replace hR0:=AB hR0;go_enter Tryz.func108,Tryz.ntmps108
  go_wp2
  go_ret
  exact⟨FM hR0.out.symm,rfl⟩
 have i1: ¬(s.size:Int)<(least:Int):=by omega
 by_cases h2:64<s.size
 ·have hR0:R=false:=by rw[hR.out];unfold FC;rw[decide_eq_false (show¬s.size<=64 by omega)];simp
  have i2:(64:Int)<(s.size:Int):=by omega
  replace hR0:=AB hR0;go_enter Tryz.func108,Tryz.ntmps108
  go_wp2
  go_ret
  exact⟨FM hR0.out.symm,rfl⟩
 have i2: ¬(64:Int)<(s.size:Int):=by omega
 have hR1:R=s.data.toList.all ON:=by rw[hR.out];unfold FC;rw[decide_eq_true (show least<=s.size by omega),decide_eq_true (show s.size<=64 by omega)];rfl
 obtain⟨n,hn⟩:=qX s.size;replace hR1:=AB hR1;replace hn:=AB hn;go_enter Tryz.func108,Tryz.ntmps108
 go_wp2
 go_loop [17] (fun i=>∃k:Nat,k<=s.size/\i = .int .i64 k/\Hid ((s.data.toList.take k).all ON=true)) (fun i=>s.size-(intOf i).toNat)
 case atStart=>exact⟨0,by omega,rfl,AB rfl⟩
 case round=>
  obtain⟨k,hk,rfl,hg⟩:=hrel;by_cases hlt:k<s.size
  ·have hts:=AB (KU s k hlt);by_cases hc:ON s[k]=true
   ·have hcc:=AB hc;unfold ON at hc;simp only[Bool.and_eq_true,decide_eq_true_eq] at hc;obtain⟨q1,q2⟩:=hc;go_wp2
    go_round
    case rel=>exact⟨k+1,by omega,by go_num,AB (by rw[hts.out,List.all_append,hg.out];simp[hcc.out])⟩
    case measure=>simp[intOf];omega
   ·have hf:R=false:=by
     rw[hR1.out,Bool.eq_false_iff];intro h;have:=List.all_eq_true.1 h s[k] (by
      have:s[k]=s.data.toList[k]'(by simpa using hlt):=rfl;rw[this];exact List.getElem_mem _)
     exact hc this
    subst hf;have hq:s[k].toNat<33\/126<s[k].toNat:=by
     unfold ON at hc;simp at hc;omega
    clear hR1 hc;by_cases q1:s[k].toNat<33
    ·clear hq;go_wp2
     go_ret
     exact⟨rfl,rfl⟩
    ·have q2:126<s[k].toNat:=by omega
     clear hq;go_wp2
     go_ret
     exact⟨rfl,rfl⟩
  ·obtain rfl:k=s.size:=by omega
   have hf:R=true:=by
    rw[hR1.out];have:=hg.out;rw[List.take_of_length_le (by simp)] at this;exact this
   replace hf:=AB hf;go_wp2
   go_ret
   exact⟨FM hf.out.symm,rfl⟩
theorem fC (m:MD) (w:World) (hn:m.name.size<=maxLen) (hl:m.lang.size<=maxLen):Calls Tryz.prog 63 #[m.val] w fun e w'=>e = .returned (.bool (BW m))/\Only [] w w':=by
 obtain⟨w1,hw1⟩:=qY (w.alloc (.cells #[.int .i64 m.kind,.int .u32 m.chan,.int .u32 m.sender,.int .u32 m.window,.int .u32 m.packet,.int .u32 m.code,.string m.name,.string m.lang,.bool m.want,.slice m.dA m.data.length m.dc] 37));have P1:Only [] w w1:=by rw[hw1];exact(zR _ _).alloc _
 have PN:=PR m.name 1 w1 hn;have PL:=PR m.lang 0 w1 hl;obtain⟨R,hR⟩:=qX (BW m);rw[hR];unfold BW at hR;unfold MD.val;by_cases h80:m.kind=80
 ·rw[if_pos (by omega)] at hR;rw[hR] at PN;rw[h80] at hw1⊢;replace hR:=AB hR;go_enter Tryz.func63,Tryz.ntmps63
  go_wp2_with fail
  rw[<-hw1];replace hw1:=AB hw1;go_call PN as e w2 ⟨rfl,rfl⟩
  go_wp2_with fail
  go_ret
  exact⟨rfl,P1⟩
 by_cases h90:m.kind=90
 ·rw[if_pos (by omega)] at hR;rw[hR] at PN;rw[h90] at hw1⊢;replace hR:=AB hR;go_enter Tryz.func63,Tryz.ntmps63
  go_wp2_with fail
  rw[<-hw1];replace hw1:=AB hw1;go_call PN as e w2 ⟨rfl,rfl⟩
  go_wp2_with fail
  go_ret
  exact⟨rfl,P1⟩
 by_cases h98:m.kind=98
 ·rw[if_pos (by omega)] at hR;rw[hR] at PN;rw[h98] at hw1⊢;replace hR:=AB hR;go_enter Tryz.func63,Tryz.ntmps63
  go_wp2_with fail
  rw[<-hw1];replace hw1:=AB hw1;go_call PN as e w2 ⟨rfl,rfl⟩
  go_wp2_with fail
  go_ret
  exact⟨rfl,P1⟩
 by_cases h1:m.kind=1
 ·rw[if_neg (by omega),if_pos (by omega)] at hR;rw[hR] at PL;rw[h1] at hw1⊢;replace hR:=AB hR;go_enter Tryz.func63,Tryz.ntmps63
  go_wp2_with fail
  rw[<-hw1];replace hw1:=AB hw1;go_call PL as e w2 ⟨rfl,rfl⟩
  go_wp2_with fail
  go_ret
  exact⟨rfl,P1⟩
 by_cases h92:m.kind=92
 ·rw[if_neg (by omega),if_pos (by omega)] at hR;rw[hR] at PL;rw[h92] at hw1⊢;replace hR:=AB hR;go_enter Tryz.func63,Tryz.ntmps63
  go_wp2_with fail
  rw[<-hw1];replace hw1:=AB hw1;go_call PL as e w2 ⟨rfl,rfl⟩
  go_wp2_with fail
  go_ret
  exact⟨rfl,P1⟩
 rw[if_neg (by omega),if_neg (by omega)] at hR;have e80:(m.kind==80)=false:=beq_eq_false_iff_ne.2 h80;have e90:(m.kind==90)=false:=beq_eq_false_iff_ne.2 h90;have e98:(m.kind==98)=false:=beq_eq_false_iff_ne.2 h98;have e1:(m.kind==1)=false:=beq_eq_false_iff_ne.2 h1;have e92:(m.kind==92)=false:=beq_eq_false_iff_ne.2 h92;replace hR:=AB hR;go_enter Tryz.func63,Tryz.ntmps63
 go_wp2_with fail
 rw[<-hw1];replace hw1:=AB hw1;go_ret
 exact⟨FM hR.out,P1⟩
end Go.Proofs.YtfbhemmpobgdpaaGreatDoor
namespace Go.Proofs.YtfbhemmpobgdpaaGreatDoor
open Go.RowKit
theorem strInfos:(Tryz.prog.info? 9).map (fun i=>(i.zero,i.size,i.bytes))=some (some (.string ByteArray.empty),1,16):=by kernel_rfl
def KT (l:List ByteArray):List Value:=l.map Value.string
def HY (w:World) (base:Nat) (v:Value) (l:List ByteArray):Prop:=w.ownsRow base 9 1 v l.length (KT l)
theorem XT (w:World) (base:Nat):HY w base (.slice none 0 0) []:=World.ownsRow_nil w base _ _
theorem HY.far {w w':World} {base:Nat} {v:Value} {l:List ByteArray} {L:List Nat} (h:HY w base v l) (hb:Only L w w') (hL: ∀x∈L,some x≠v.ownBlock):HY w' base v l:=by
 refine⟨h.1,?_⟩;rcases h.2 with h|⟨g,cap,cur,e,hg,hh,r⟩;·exact .inl h
 ·exact .inr ⟨g,cap,cur,e,hg,(hb.block g (Array.getElem?_eq_some_iff.1 hh).1 (fun hm=>hL g hm (by rw[e];rfl))).trans hh,r⟩
theorem HY.block {w:World} {base:Nat} {v:Value} {l:List ByteArray} (h:HY w base v l): ∀k,v.ownBlock=some k->base<=k/\k<w.heap.size:=World.ownsRow.lt h
theorem HY.rd {w:World} {base:Nat} {v:Value} {l:List ByteArray} (h:HY w base v l): ∃A cap,v = .slice A l.length cap/\RdS w A l/\l.length<=cap/\cap<=maxLen/\(∀a,A=some a->base<=a.block):=by
 rcases h.2 with⟨e,hn⟩|⟨g,cap,cur,e,hg,hh,hc,hm,hs,ht⟩
 ·refine⟨none,0,by rw[e,hn],?_,by omega,by simp[maxLen],by simp⟩;obtain rfl:=List.eq_nil_of_length_eq_zero hn;exact RdG.nil
 ·refine⟨some ⟨g,0,none⟩,cap,e,fun _=>⟨g,0,rfl,(Array.getElem?_eq_some_iff.1 hh).1,fun i v hi=>?_⟩,hc,hm,fun a ha=>by simp at ha;subst ha;exact hg⟩;subst e;have:=World.ownsRow.cells h (g:=g) rfl i (.string v) (by simp[KT,hi]);simpa[Addr.add_lit] using this
theorem run_appS {w:World} (ty:TypeId) (base:Nat) (v:Value) (l:List ByteArray) (hown:HY w base v l) (A:Option Addr) (c:Nat) (m:List ByteArray) (hr:RdS w A m)
  (hlen:l.length+m.length<=8796093022208) (hbase:base<=w.heap.size) :
  ∃v' w',(Builtin.append_ #[151,151] ty #[v,.slice A m.length c]).run Tryz.prog w = .ok v' w'/\HY w' base v' (l++m)/\Only v.ownBlock.toList w w':=by
 obtain⟨i0,hi,hz0,hz1,hz2⟩:=info_parts strInfos;have hu:=Tryz.underlying151;by_cases h0:0<m.length
 ·obtain⟨b,off,rfl,hb,hc⟩:=hr h0;have hn: ∀j u,(KT m)[j]? = some u->w.cell? ((⟨b,off,none⟩:Addr).add j)=some u:=by
   intro j u hj;unfold KT at hj;rw[List.getElem?_map] at hj;obtain⟨s,hs,rfl⟩:=Option.map_eq_some_iff.1 hj;rw[Addr.add_lit];exact hc j s hs
  have h1c: ∀u∈KT m,u.oneCell'=true:=by
   intro u hu;unfold KT at hu;obtain⟨s,_,rfl⟩:=List.mem_map.1 hu;rfl
  obtain⟨v',w',e,h1,h2,h3⟩:=run_append_own (P:=Tryz.prog) w base 151 ty 9 i0 _ 1 16 hu hi hz0 hz1 hz2 rfl (by decide) v l.length (KT l) hown ⟨b,off,none⟩ m.length c (KT m) (by simp[KT]) hn h1c (by simp only[maxLen];omega) (by omega) hbase;exact⟨v',w',e,by show World.ownsRow _ _ _ _ _ _ _;simpa[KT] using h1,GP h2⟩
 ·have e0:m=[]:=List.eq_nil_of_length_eq_zero (by omega);subst e0;refine⟨v,w,?_,by rw[qN];exact hown,zR _ _⟩;have hf: ∀w':World,(Builtin.firstCells 1 0 (.slice A 0 c)).run Tryz.prog w' = .ok #[] w':=by
   intro w';cases A<;>simp[Builtin.firstCells,loadCells,loadCellsFrom]
  rcases hown.2 with⟨rfl,hn⟩|⟨g,cap,cur,rfl,_,_,hnc,_⟩;·cases A<;>simp[Builtin.append_,run_underlying hu,sizeOf,typeInfo,hi,hz1,Builtin.lenOf,hf]
  ·cases A<;>simp[Builtin.append_,run_underlying hu,sizeOf,typeInfo,hi,hz1,Builtin.lenOf,hf,hnc,storeCells]
theorem iQ {w:World} {ops:Array Oper} {rest:List Oper} {o:Oper} {a:Act} {Q:Exit->Act->World->Prop} (hgd:o.guard=none) (s x:Operand)
  (ho:o.op = .call { callee:=.builtin .append,args:=#[s,x],argTypes:=#[151,151] })
  (base:Nat) (v:Value) (l:List ByteArray) (hs:a.eval s=v) (hown:HY w base v l) (A:Option Addr) (c:Nat) (m:List ByteArray) (k:Nat) (hk:m.length=k) (hx:a.eval x = .slice A k c) (hr:RdS w A m)
  (hlen:l.length+m.length<=8796093022208) (hbase:base<=w.heap.size)
  (h: ∀v' w',Hid (HY w' base v' (l++m))->Only v.ownBlock.toList w w'->wpList Tryz.prog ops Q rest (a.put o.dst v') w'):wpList Tryz.prog ops Q (o::rest) a w:=by
 subst hk;refine wpList_plain hgd fun K hK=>?_;obtain⟨v',w',hrun,h1,h2⟩:=run_appS o.type base v l hown A c m hr hlen hbase;unfold Oper.wp execOp;simp only[ho,resolve,invoke,builtin,Sem.run_bind,Sem.run_pure,Result.andThen_ok,List.map_toArray,List.map_cons,List.map_nil,hs,hx,hrun];exact hK _ _ (h v' w' h1 h2)
end Go.Proofs.YtfbhemmpobgdpaaGreatDoor
namespace Go.Proofs.YtfbhemmpobgdpaaGreatDoor
open Go.RowKit
theorem intInfos2:(Tryz.prog.info? 3).map (fun i=>(i.zero,i.size,i.bytes))=some (some (.int .i64 0),1,8):=by kernel_rfl
def IW (w:World) (base:Nat) (v:Value) (l:List Int):Prop:=w.ownsRow base 3 1 v l.length (KZ l)
theorem IW.far {w w':World} {base:Nat} {v:Value} {l:List Int} {L:List Nat} (h:IW w base v l) (hb:Only L w w') (hL: ∀x∈L,some x≠v.ownBlock):IW w' base v l:=by
 refine⟨h.1,?_⟩;rcases h.2 with h|⟨g,cap,cur,e,hg,hh,r⟩;·exact .inl h
 ·exact .inr ⟨g,cap,cur,e,hg,(hb.block g (Array.getElem?_eq_some_iff.1 hh).1 (fun hm=>hL g hm (by rw[e];rfl))).trans hh,r⟩
theorem IW.block {w:World} {base:Nat} {v:Value} {l:List Int} (h:IW w base v l): ∀k,v.ownBlock=some k->base<=k/\k<w.heap.size:=World.ownsRow.lt h
theorem IW.rd {w:World} {base:Nat} {v:Value} {l:List Int} (h:IW w base v l): ∃A cap,v = .slice A l.length cap/\RdI w A l/\l.length<=cap/\cap<=maxLen/\(∀a,A=some a->base<=a.block):=by
 rcases h.2 with⟨e,hn⟩|⟨g,cap,cur,e,hg,hh,hc,hm,hs,ht⟩
 ·refine⟨none,0,by rw[e,hn],?_,by omega,by simp[maxLen],by simp⟩;obtain rfl:=List.eq_nil_of_length_eq_zero hn;exact RdG.nil
 ·refine⟨some ⟨g,0,none⟩,cap,e,fun _=>⟨g,0,rfl,(Array.getElem?_eq_some_iff.1 hh).1,fun i v hi=>?_⟩,hc,hm,fun a ha=>by simp at ha;subst ha;exact hg⟩;subst e;have:=World.ownsRow.cells h (g:=g) rfl i (.int .i64 v) (by simp[KZ,hi]);simpa[Addr.add_lit] using this
theorem run_appI {w:World} (ty:TypeId) (base:Nat) (v:Value) (l:List Int) (hown:IW w base v l) (A:Option Addr) (c:Nat) (m:List Int) (hr:RdI w A m)
  (hlen:l.length+m.length<=8796093022208) (hbase:base<=w.heap.size) :
  ∃v' w',(Builtin.append_ #[166,166] ty #[v,.slice A m.length c]).run Tryz.prog w = .ok v' w'/\IW w' base v' (l++m)/\Only v.ownBlock.toList w w':=by
 obtain⟨i0,hi,hz0,hz1,hz2⟩:=info_parts intInfos2;have hu:=Tryz.underlying166;by_cases h0:0<m.length
 ·obtain⟨b,off,rfl,hb,hc⟩:=hr h0;have hn: ∀j u,(KZ m)[j]? = some u->w.cell? ((⟨b,off,none⟩:Addr).add j)=some u:=by
   intro j u hj;unfold KZ at hj;rw[List.getElem?_map] at hj;obtain⟨s,hs,rfl⟩:=Option.map_eq_some_iff.1 hj;rw[Addr.add_lit];exact hc j s hs
  have h1c: ∀u∈KZ m,u.oneCell'=true:=by
   intro u hu;unfold KZ at hu;obtain⟨s,_,rfl⟩:=List.mem_map.1 hu;rfl
  obtain⟨v',w',e,h1,h2,h3⟩:=run_append_own (P:=Tryz.prog) w base 166 ty 3 i0 _ 1 8 hu hi hz0 hz1 hz2 rfl (by decide) v l.length (KZ l) hown ⟨b,off,none⟩ m.length c (KZ m) (by simp[KZ]) hn h1c (by simp only[maxLen];omega) (by omega) hbase;exact⟨v',w',e,by show World.ownsRow _ _ _ _ _ _ _;simpa[KZ] using h1,GP h2⟩
 ·have e0:m=[]:=List.eq_nil_of_length_eq_zero (by omega);subst e0;refine⟨v,w,?_,by rw[qN];exact hown,zR _ _⟩;have hf: ∀w':World,(Builtin.firstCells 1 0 (.slice A 0 c)).run Tryz.prog w' = .ok #[] w':=by
   intro w';cases A<;>simp[Builtin.firstCells,loadCells,loadCellsFrom]
  rcases hown.2 with⟨rfl,hn⟩|⟨g,cap,cur,rfl,_,_,hnc,_⟩;·cases A<;>simp[Builtin.append_,run_underlying hu,sizeOf,typeInfo,hi,hz1,Builtin.lenOf,hf]
  ·cases A<;>simp[Builtin.append_,run_underlying hu,sizeOf,typeInfo,hi,hz1,Builtin.lenOf,hf,hnc,storeCells]
theorem FW {w:World} {ops:Array Oper} {rest:List Oper} {o:Oper} {a:Act} {Q:Exit->Act->World->Prop} (hgd:o.guard=none) (s x:Operand)
  (ho:o.op = .call { callee:=.builtin .append,args:=#[s,x],argTypes:=#[166,166] })
  (base:Nat) (v:Value) (l:List Int) (hs:a.eval s=v) (hown:IW w base v l) (A:Option Addr) (c:Nat) (m:List Int) (k:Nat) (hk:m.length=k) (hx:a.eval x = .slice A k c) (hr:RdI w A m)
  (hlen:l.length+m.length<=8796093022208) (hbase:base<=w.heap.size)
  (h: ∀v' w',Hid (IW w' base v' (l++m))->Only v.ownBlock.toList w w'->wpList Tryz.prog ops Q rest (a.put o.dst v') w'):wpList Tryz.prog ops Q (o::rest) a w:=by
 subst hk;refine wpList_plain hgd fun K hK=>?_;obtain⟨v',w',hrun,h1,h2⟩:=run_appI o.type base v l hown A c m hr hlen hbase;unfold Oper.wp execOp;simp only[ho,resolve,invoke,builtin,Sem.run_bind,Sem.run_pure,Result.andThen_ok,List.map_toArray,List.map_cons,List.map_nil,hs,hx,hrun];exact hK _ _ (h v' w' h1 h2)
end Go.Proofs.YtfbhemmpobgdpaaGreatDoor
namespace Go.Proofs.YtfbhemmpobgdpaaGreatDoor
open Go.RowKit
def FD.off (f:FD) (v:Value):Prop:=(∀a,f.tA=some a->0<f.text.length->v.ownBlock≠some a.block)/\(∀a,f.lA=some a->0<f.list.length->v.ownBlock≠some a.block)
theorem mine_snoc {wo w13 w14:World} {base k':Nat} {A':Option Addr} {v:Value} {gs:List FD} {g:FD} (X:Only [] wo w13) (P:Only v.ownBlock.toList w13 w14) (G:LR v (.slice A' (gs.length+1) k') w13.heap.size)
  (hv: ∀x,v.ownBlock=some x->base<=x/\x<wo.heap.size) (hm: ∀f∈gs,FD.mine wo f base/\f.off v) (mg:FD.mine w13 g wo.heap.size) (hb:base<=wo.heap.size) :
  ∀f∈gs++[g],FD.mine w14 f base/\f.off (.slice A' (gs.length+1) k'):=by
 have z:=X.size;have hnw: ∀x,some x=(Value.slice A' (gs.length+1) k').ownBlock->some x=v.ownBlock\/w13.heap.size<=x:=by
  intro x hx;rcases G with e|e;·left;rw[e] at hx;exact hx
  ·right;rw[e] at hx;injection hx with hx;omega
 intro f hf;rw[List.mem_append] at hf;rcases hf with hf|hf
 ·obtain⟨m1,fr⟩:=hm f hf;have t1:=m1.ok.tlt;have t2:=m1.ok.llt;refine⟨(m1.only X).off P (fun a ha h0 hx=>fr.1 a ha h0 (by simpa using hx)) (fun a ha h0 hx=>fr.2 a ha h0 (by simpa using hx)),fun a ha h0 hx=>?_,fun a ha h0 hx=>?_⟩
  ·rcases hnw _ hx.symm with h|h;·exact fr.1 a ha h0 h.symm
   ·have:=t1 a ha h0;omega
  ·rcases hnw _ hx.symm with h|h;·exact fr.2 a ha h0 h.symm
   ·have:=t2 a ha h0;omega
 ·simp at hf;subst hf;have t1:=mg.ok.tlt;have t2:=mg.ok.llt;refine⟨(mg.off P (fun a ha h0 hx=>?_) (fun a ha h0 hx=>?_)).mono hb,fun a ha h0 hx=>?_,fun a ha h0 hx=>?_⟩
  ·have h1:=mg.new.1 a ha;have h2:=hv _ (by simpa using hx);omega
  ·have h1:=mg.new.2 a ha;have h2:=hv _ (by simpa using hx);omega
  ·have h1:=mg.new.1 a ha;rcases hnw _ hx.symm with h|h;·have h2:=hv _ h.symm;omega
   ·have:=t1 a ha h0;omega
  ·have h1:=mg.new.2 a ha;rcases hnw _ hx.symm with h|h;·have h2:=hv _ h.symm;omega
   ·have:=t2 a ha h0;omega
theorem YD {k:Int} {js:List Nat} (h:BX k=some js):1<=k/\k<=100/\js.length<=5/\∀j∈js,j<10:=by
 by_cases h1:k=1
 ·subst h1;injection (show some [0,1,2]=some js from h) with h;subst h;exact⟨by decide,by decide,by decide,by decide⟩
 by_cases h80:k=80
 ·subst h80;injection (show some [3,4,5]=some js from h) with h;subst h;exact⟨by decide,by decide,by decide,by decide⟩
 by_cases h81:k=81
 ·subst h81;injection (show some [5]=some js from h) with h;subst h;exact⟨by decide,by decide,by decide,by decide⟩
 by_cases h82:k=82
 ·subst h82;injection (show some []=some js from h) with h;subst h;exact⟨by decide,by decide,by decide,by decide⟩
 by_cases h90:k=90
 ·subst h90;injection (show some [3,6,7,8,5]=some js from h) with h;subst h;exact⟨by decide,by decide,by decide,by decide⟩
 by_cases h91:k=91
 ·subst h91;injection (show some [9,6,7,8,5]=some js from h) with h;subst h;exact⟨by decide,by decide,by decide,by decide⟩
 by_cases h92:k=92
 ·subst h92;injection (show some [9,0,1,2]=some js from h) with h;subst h;exact⟨by decide,by decide,by decide,by decide⟩
 by_cases h93:k=93
 ·subst h93;injection (show some [9,7]=some js from h) with h;subst h;exact⟨by decide,by decide,by decide,by decide⟩
 by_cases h94:k=94
 ·subst h94;injection (show some [9,1]=some js from h) with h;subst h;exact⟨by decide,by decide,by decide,by decide⟩
 by_cases h95:k=95
 ·subst h95;injection (show some [9,0,1]=some js from h) with h;subst h;exact⟨by decide,by decide,by decide,by decide⟩
 by_cases h96:k=96
 ·subst h96;injection (show some [9]=some js from h) with h;subst h;exact⟨by decide,by decide,by decide,by decide⟩
 by_cases h97:k=97
 ·subst h97;injection (show some [9]=some js from h) with h;subst h;exact⟨by decide,by decide,by decide,by decide⟩
 by_cases h99:k=99
 ·subst h99;injection (show some [9]=some js from h) with h;subst h;exact⟨by decide,by decide,by decide,by decide⟩
 by_cases h100:k=100
 ·subst h100;injection (show some [9]=some js from h) with h;subst h;exact⟨by decide,by decide,by decide,by decide⟩
 by_cases h98:k=98
 ·subst h98;injection (show some [9,3,4,5]=some js from h) with h;subst h;exact⟨by decide,by decide,by decide,by decide⟩
 unfold BX at h;simp only[h1,h80,h81,h82,h90,h91,h92,h93,h94,h95,h96,h97,h99,h100,h98,if_false] at h;cases h
theorem kD (m:MD) (j:Nat) (hj:j<10):(AP m j).kind=pk j:=by
 have h:j=0\/j=1\/j=2\/j=3\/j=4\/j=5\/j=6\/j=7\/j=8\/j=9:=by omega
 rcases h with rfl|rfl|rfl|rfl|rfl|rfl|rfl|rfl|rfl|rfl<;>rfl
theorem kE (m:MD) (j:Nat) (hj:j<10):(AP m j).list=[]:=by
 have h:j=0\/j=1\/j=2\/j=3\/j=4\/j=5\/j=6\/j=7\/j=8\/j=9:=by omega
 rcases h with rfl|rfl|rfl|rfl|rfl|rfl|rfl|rfl|rfl|rfl<;>rfl
theorem EW: ∀(js:List Nat) (i j n:Nat),js[i]? = some j->n<3->(FB js)[i*3+n]? = (MH j)[n]?
 |[],i,j,n,h,_=>by simp at h
 |a::js,0,j,n,h,hn=>by
  simp at h;subst h;unfold FB;rw[qG,Nat.zero_mul,Nat.zero_add,List.getElem?_append_left (by simpa[MH] using hn)]
 |a::js,i+1,j,n,h,hn=>by
  simp at h;have:=EW js i j n h hn;unfold FB at this⊢;rw[qG,List.getElem?_append_right (by simp[MH];omega),<-this];congr 1
  simp[MH];omega
def BZ (m:MD):Int×List Int:=match BX m.kind with
 |none=>(8,[])
 |some js=>if BW m then HA (⟨1,m.kind,[],[]⟩::js.map (AP m)) else(4,[])
theorem ok_snoc {wo w13 w14:World} {k':Nat} {A':Option Addr} {v:Value} {gs:List FD} {g:FD} (X:Only [] wo w13) (P:Only v.ownBlock.toList w13 w14) (G:LR v (.slice A' (gs.length+1) k') w13.heap.size)
  (hm: ∀f∈gs,FD.ok wo f/\f.off v) (mg:FD.ok w13 g) (go:g.off v) :
  ∀f∈gs++[g],FD.ok w14 f/\f.off (.slice A' (gs.length+1) k'):=by
 have z:=X.size;have hnw: ∀x,some x=(Value.slice A' (gs.length+1) k').ownBlock->some x=v.ownBlock\/w13.heap.size<=x:=by
  intro x hx;rcases G with e|e;·left;rw[e] at hx;exact hx
  ·right;rw[e] at hx;injection hx with hx;omega
 have key: ∀f:FD,FD.ok w13 f->f.off v->FD.ok w14 f/\f.off (.slice A' (gs.length+1) k'):=fun f hf fo=>by
  have t1:=hf.tlt;have t2:=hf.llt;refine⟨{ hf with text:=hf.text.onlyL P (fun a ha h0 hx=>fo.1 a ha h0 (by simpa using hx)),list:=hf.list.onlyL P (fun a ha h0 hx=>fo.2 a ha h0 (by simpa using hx)) },fun a ha h0 hx=>?_,fun a ha h0 hx=>?_⟩
  ·rcases hnw _ hx.symm with h|h;·exact fo.1 a ha h0 h.symm
   ·have:=t1 a ha h0;omega
  ·rcases hnw _ hx.symm with h|h;·exact fo.2 a ha h0 h.symm
   ·have:=t2 a ha h0;omega
 intro f hf;rw[List.mem_append] at hf;rcases hf with hf|hf;·exact key f ((hm f hf).1.only X) (hm f hf).2
 ·simp at hf;subst hf;exact key f mg go
theorem ownF_one (w:World) (f:FD) (cs:Array Value) (h:cs=f.cells.toArray):FY (w.alloc (.cells cs 153)) w.heap.size (.slice (some ⟨w.heap.size,0,none⟩) 1 1) [f]:=by
 subst h;refine⟨by simp[AZ,FD.cells],.inr ⟨w.heap.size,1,f.cells.toArray,rfl,qL _,heap_alloc_new w (.cells f.cells.toArray 153),by simp,by simp[maxLen],by simp[FD.cells],by simp[AZ,FD.cells]⟩⟩
theorem jE (m:MD) (w:World) (hm:m.ok w) (hs:m.name.size<=140737488355328) (hl:m.lang.size<=140737488355328):Calls Tryz.prog 31 #[m.val] w (SX w (BZ m)):=by
 obtain⟨w1,hw1⟩:=qY (w.alloc (.cells #[.int .i64 m.kind,.int .u32 m.chan,.int .u32 m.sender,.int .u32 m.window,.int .u32 m.packet,.int .u32 m.code,.string m.name,.string m.lang,.bool m.want,.slice m.dA m.data.length m.dc] 37));have P1:Only [] w w1:=by rw[hw1];exact(zR _ _).alloc _
 have K1:Blk w1 w.heap.size 37 m.cells:=by rw[hw1];exact Blk.new w _ _
 have RW:=fT m.kind w1;obtain⟨R,hR⟩:=qX (BZ m);rw[hR];unfold BZ at hR;unfold MD.val;cases hr:BX m.kind with
 |none=>
  rw[hr] at RW hR;replace hR:=AB hR;replace hr:=AB hr;clear K1;go_enter Tryz.func31,Tryz.ntmps31
  go_wp2_with fail
  rw[<-hw1];replace hw1:=AB hw1;go_call RW as e w2 ⟨P2,rfl⟩
  go_wp2_with fail
  go_ret2
  rw[<-hR.out];exact FX _ _ _ (P1.trans P2 (by simp))
 |some js=>
  rw[hr] at RW hR;dsimp only at hR;obtain⟨x1,x2,hj5,hj10⟩:=YD hr;have FI:=fun(w2:World)=>fC m w2 (by unfold maxLen;omega) (by unfold maxLen;omega);obtain⟨n,hn⟩:=qX js.length;unfold cM at RW;dsimp only at RW;rw[hn] at RW hj5;replace hn:=AB hn;replace hr:=AB hr;replace hj10:=AB hj10;by_cases hf:BW m=true
  ·rw[if_pos hf] at hR;rw[hf] at FI;unfold MD.val at FI;replace hR:=AB hR;replace hf:=AB hf;replace FI:=AB FI;have hmod:m.kind % 4294967296=m.kind:=by omega
   go_enter Tryz.func31,Tryz.ntmps31
   go_wp2_with fail
   rw[<-hw1];replace hw1:=AB hw1;go_call RW as e w2 ⟨P2,A,rfl,hA⟩
   clear RW;have K2:=K1.only P2 (by simp);obtain⟨c0,c1,c2,c3,c4,c5,c6,c7,c8,c9⟩:=qM K2 m;replace hA:=AB hA;have FI2:=FI.out w2;go_wp2_with fail
   go_call FI2 as e w3 ⟨rfl,P3⟩
   clear FI FI2;have K3:=K2.only P3 (by simp);obtain⟨d0,d1,d2,d3,d4,d5,d6,d7,d8,d9⟩:=qM K3 m;have hlt3:=K3.lt;obtain⟨w4,hw4⟩:=qY (w3.alloc (.cells #[.int .i64 m.kind,.int .u32 m.chan,.int .u32 m.sender,.int .u32 m.window,.int .u32 m.packet,.int .u32 m.code,.string m.name,.string m.lang,.bool m.want,.slice m.dA m.data.length m.dc] 150));have P4:Only [] w3 w4:=by rw[hw4];exact(zR _ _).alloc _
   have K4:Blk w4 w3.heap.size 150 m.cells:=by rw[hw4];exact Blk.new w3 _ _
   have hs4:w4.heap.size=w3.heap.size+1:=by rw[hw4];simp
   have V5:FY (w4.alloc (.cells #[.int .i64 1,.int .u32 m.kind,.slice none 0 0,.slice none 0 0] 153)) w4.heap.size (.slice (some ⟨w4.heap.size,0,none⟩) 1 1) [⟨1,m.kind,none,0,[],none,0,[]⟩]:=ownF_one w4 _ _ rfl;have K5:=K4.alloc (.cells #[.int .i64 1,.int .u32 m.kind,.slice none 0 0,.slice none 0 0] 153);have P5:Only [] w3 (w4.alloc (.cells #[.int .i64 1,.int .u32 m.kind,.slice none 0 0,.slice none 0 0] 153)):=P4.alloc _;rw[hs4] at V5;obtain⟨w5,hw5⟩:=qY (w4.alloc (.cells #[.int .i64 1,.int .u32 m.kind,.slice none 0 0,.slice none 0 0] 153));rw[<-hw5] at V5 K5 P5;have Q2:Only [] w w2:=P1.trans P2 (by simp);have Q3:Only [] w w3:=Q2.trans P3 (by simp);have z3:=Q3.size;have z23:=P3.size;clear c0 c1 c2 c3 c4 c5 c6 c7 c8 c9 K1 K2 K4;go_wp2_with fail
   rw[<-hw4,<-hw5];replace hw4:=AB hw4;replace hw5:=AB hw5;clear d0 d1 d2 d3 d4 d5 d6 d7 d8 d9;go_loopw [34,7] (fun i o wr=>∃(k:Nat) (v:Value) (fs:List FD),k<=n/\i = .int .i64 k/\v=o/\Hid (fs.map FD.pf=⟨1,m.kind,[],[]⟩::(js.take k).map (AP m))/\FY wr (w3.heap.size+1) v fs/\(∀f∈fs,FD.ok wr f/\f.off v)/\(∀f∈fs,0<=f.n/\f.n<=4294967295)/\Only [] w3 wr/\Blk wr w3.heap.size 150 m.cells) (fun i _ _=>n-(intOf i).toNat)
   case atStart=>
    refine⟨0,_,[⟨1,m.kind,none,0,[],none,0,[]⟩],by omega,rfl,rfl,AB rfl,V5,fun f hf=>?_,fun f hf=>?_,P5,K5⟩
    ·simp only[qS] at hf;subst hf;exact⟨FD.ok.plain _ _ _,fun a ha=>by simp at ha,fun a ha=>by simp at ha⟩
    ·simp only[qS] at hf;subst hf;exact⟨by dsimp only;omega,by dsimp only;omega⟩
   case round=>
    obtain⟨wo,rfl⟩: ∃wo:World,wo=wr:=⟨_,rfl⟩;obtain⟨k,v,fs,hkn,rfl,rfl,hfs,V,M,N,O3,Ko⟩:=hrel;have hob:=V.block;have zo:=O3.size;have z5:=P5.size;have hfl:fs.length=k+1:=by
     have:=congrArg List.length hfs.out;rw[List.length_map,List.length_cons,List.length_map,List.length_take] at this;have:=hn.out;omega
    by_cases hlt:k<n
    ·obtain⟨j,hj⟩: ∃j,js[k]? = some j:=⟨_,List.getElem?_eq_getElem (by have:=hn.out;omega)⟩;have hj9:=hj10.out j (qE hj);obtain⟨gA,hAe,BA⟩:=hA.out (by omega);have BAo:=(BA.only P3 (by simp)).only O3 (by simp);obtain⟨F,hF,hcF,hC⟩:=dG j hj9;obtain⟨Z,hZ⟩:=qX (pput j);obtain⟨KJ,hKJ⟩:=qX (pk j);have e0:wo.cell? ⟨gA,k*3,none⟩=some (.int .i64 KJ):=by
      rw[BAo.cell,<-Nat.add_zero (k*3),EW js k j 0 hj (by decide),<-hKJ];rfl
     have e1:wo.cell? ⟨gA,k*3+1,none⟩=some (.func (Fn.func F) #[] #[]):=by
      rw[BAo.cell,EW js k j 1 hj (by decide),<-hF];rfl
     have e2:wo.cell? ⟨gA,k*3+2,none⟩=some (.func (Fn.func Z) #[] #[]):=by
      rw[BAo.cell,EW js k j 2 hj (by decide),<-hZ];rfl
     have hkind:=kD m j hj9;have hfs2:(js.take (k+1)).map (AP m)=(js.take k).map (AP m)++[AP m j]:=by rw[DH hj,List.map_append];rfl
     subst hAe;obtain⟨w6,hw6⟩:=qY (wo.alloc (.cells #[.int .i64 KJ,.func (Fn.func F) #[] #[],.func (Fn.func Z) #[] #[]] 158));have P6:Only [] wo w6:=by rw[hw6];exact(zR _ _).alloc _
     have K6:Blk w6 wo.heap.size 158 [.int .i64 KJ,.func (Fn.func F) #[] #[],.func (Fn.func Z) #[] #[]]:=by rw[hw6];exact Blk.new wo _ _
     have C:=hC w6 m w3.heap.size (Ko.only P6 (by simp)) (((hm.only Q3).only O3).only P6) hs hl;replace hfs:=AB hfs;replace hfs2:=AB hfs2;replace hkind:=AB hkind;replace hj:=AB hj;replace hKJ:=AB hKJ;replace hF:=AB hF;replace hZ:=AB hZ;replace hfl:=AB hfl;clear hC BAo;go_wp2_with fail
     rw[<-hw6];replace hw6:=AB hw6;go_call C as e w7 ⟨P7,f,rfl,hpf,hta,okf,hfn⟩
     clear C;have K7:=K6.only P7 (by simp);have z6:=P6.size;have z7:=P7.size;have k0:w7.cell? ⟨wo.heap.size,0,none⟩=some (.int .i64 KJ):=K7.cell 0;have k1:w7.cell? ⟨wo.heap.size,1,none⟩=some (.func (Fn.func F) #[] #[]):=K7.cell 1;have k2:w7.cell? ⟨wo.heap.size,2,none⟩=some (.func (Fn.func Z) #[] #[]):=K7.cell 2;have hq7:=K7.lt;have hq7': ¬wo.heap.size=w7.heap.size:=by omega
     have hpl:=kE m j hj9;obtain⟨fk,fn,ftA,ftc,ftx,flA,flc,fls⟩:=f;have hfk:fk=0:=congrArg PF.kind hpf;have hfls:fls=[]:=by
      have:fls=(AP m j).list:=congrArg PF.list hpf;rw[this,hpl]
     subst hfk;have hgpf:FD.pf ⟨KJ,fn,ftA,ftc,ftx,flA,flc,fls⟩=AP m j:=by
      have e1:fn=(AP m j).n:=congrArg PF.n hpf;have e2:ftx=(AP m j).text:=congrArg PF.text hpf;have e3:fls=(AP m j).list:=congrArg PF.list hpf;have e4:KJ=(AP m j).kind:=by rw[hkind.out,hKJ.out]
      unfold FD.pf;dsimp only;rw[e1,e2,e3,e4]
     have X13:Only [] wo ((w7.alloc (.cells #[.int .i64 KJ,.int .u32 fn,.slice ftA ftx.length ftc,.slice flA fls.length flc] 153)).alloc (.cells #[.int .i64 KJ,.int .u32 fn,.slice ftA ftx.length ftc,.slice flA fls.length flc] 153)):=((P6.trans P7 (by simp)).alloc _).alloc _;have V13:FY ((w7.alloc (.cells #[.int .i64 KJ,.int .u32 fn,.slice ftA ftx.length ftc,.slice flA fls.length flc] 153)).alloc (.cells #[.int .i64 KJ,.int .u32 fn,.slice ftA ftx.length ftc,.slice flA fls.length flc] 153)) (w3.heap.size+1) v fs:=V.far X13 (fun x hx=>by simp at hx);have B13:Blk ((w7.alloc (.cells #[.int .i64 KJ,.int .u32 fn,.slice ftA ftx.length ftc,.slice flA fls.length flc] 153)).alloc (.cells #[.int .i64 KJ,.int .u32 fn,.slice ftA ftx.length ftc,.slice flA fls.length flc] 153)) (w7.heap.size+1) 153 (FD.cells ⟨KJ,fn,ftA,ftc,ftx,flA,flc,fls⟩):=by
      have:=Blk.new (w7.alloc (.cells #[.int .i64 KJ,.int .u32 fn,.slice ftA ftx.length ftc,.slice flA fls.length flc] 153)) 153 [.int .i64 KJ,.int .u32 fn,.slice ftA ftx.length ftc,.slice flA fls.length flc];rw[show(w7.alloc (.cells #[.int .i64 KJ,.int .u32 fn,.slice ftA ftx.length ftc,.slice flA fls.length flc] 153)).heap.size=w7.heap.size+1 by simp] at this;exact this
     have hbase:w3.heap.size+1<=((w7.alloc (.cells #[.int .i64 KJ,.int .u32 fn,.slice ftA ftx.length ftc,.slice flA fls.length flc] 153)).alloc (.cells #[.int .i64 KJ,.int .u32 fn,.slice ftA ftx.length ftc,.slice flA fls.length flc] 153)).heap.size:=by have:=X13.size;have:=Ko.lt;omega
     have okg:FD.ok ((w7.alloc (.cells #[.int .i64 KJ,.int .u32 fn,.slice ftA ftx.length ftc,.slice flA fls.length flc] 153)).alloc (.cells #[.int .i64 KJ,.int .u32 fn,.slice ftA ftx.length ftc,.slice flA fls.length flc] 153)) ⟨KJ,fn,ftA,ftc,ftx,flA,flc,fls⟩:=(FD.ok.with okf KJ fn).only (((Only.refl [] w7).alloc _).alloc _);have offg:FD.off ⟨KJ,fn,ftA,ftc,ftx,flA,flc,fls⟩ v:=by
      refine⟨fun a ha h0 hv=>?_,fun a ha h0 hv=>?_⟩
      ·have h1:=hob _ hv;dsimp only at ha h0;rcases hta with h|h
       ·obtain⟨h1',h2'⟩:=h;dsimp only at h1' h2';rw[h1'] at ha;rw[h2'] at h0;have:=RdG.lt (mk:=.int .u8) hm.data h0 a ha;omega
       ·have:=h a ha;omega
      ·dsimp only at h0;rw[hfls] at h0;simp at h0
     have hfew:fs.length<1000000:=by have:=hfl.out;omega
     replace hpf:=AB hpf;replace hta:=AB hta;replace okf:=AB okf;replace hgpf:=AB hgpf;replace offg:=AB offg;replace hfls:=AB hfls;replace hpl:=AB hpl;unfold FD.val;dsimp only;go_wp2_with (at_builtin;go_must (refine OT rfl (.tmp 45) (.tmp 47) rfl (w3.heap.size+1) v fs rfl V13 (w7.heap.size+1) ⟨KJ,fn,ftA,ftc,ftx,flA,flc,fls⟩ rfl B13 hfew hbase ?_;intro A14 k14 w14 V14 P14 G14))
     go_roundw
     case rel=>
      have K14:=((Ko.only X13 (by simp)).only P14 (fun hx=>by have:=(hob _ (by simpa using hx)).1;omega));refine⟨k+1,_,fs++[⟨KJ,fn,ftA,ftc,ftx,flA,flc,fls⟩],by omega,by go_num,rfl,AB ?_,V14.out,ok_snoc X13 P14 G14.out M okg offg.out,fun f hf=>?_,(O3.trans X13 (by simp)).trans P14 (fun x hx=>.inr (by have:=(hob x (by simpa using hx)).1;omega)),K14⟩
      ·rw[List.map_append,List.map_cons,List.map_nil,hgpf.out,hfs.out.out,hfs2.out];rfl
      ·rcases qK hf with hf|hf;·exact N f hf
       ·simp only[qS] at hf;rw[hf];exact hfn
     case measure=>simp[intOf];omega
    ·obtain rfl:k=n:=by omega
     have hmap:fs.map FD.pf=⟨1,m.kind,[],[]⟩::js.map (AP m):=by
      rw[hfs.out,List.take_of_length_le (by have:=hn.out;omega)]
     obtain⟨A',cap,rfl,_,_,_⟩:=V.form;have RF:=V.rdF (fun f hf=>⟨(M f hf).1,N f hf⟩);have WR:=cH wo A' fs cap RF (by omega);rw[hmap,hR.out] at WR;have hz:w.heap.size<=wo.heap.size:=by omega
     replace hmap:=AB hmap;replace hfl:=AB hfl;go_wp2_with fail
     go_call WR as e w9 ⟨P9,v9,rfl,V9⟩
     go_wp2_with fail
     go_ret2
     exact⟨(Q3.trans O3 (by simp)).trans P9 (by simp),v9,rfl,V9.mono hz⟩
  ·have hf':BW m=false:=by simpa using hf
   rw[if_neg hf] at hR;rw[hf'] at FI;unfold MD.val at FI;replace hR:=AB hR;replace FI:=AB FI;clear hf hf';go_enter Tryz.func31,Tryz.ntmps31
   go_wp2_with fail
   rw[<-hw1];replace hw1:=AB hw1;go_call RW as e w2 ⟨P2,A,rfl,hA⟩
   clear RW;have K2:=K1.only P2 (by simp);obtain⟨c0,c1,c2,c3,c4,c5,c6,c7,c8,c9⟩:=qM K2 m;replace hA:=AB hA;have FI2:=FI.out w2;go_wp2_with fail
   go_call FI2 as e w3 ⟨rfl,P3⟩
   go_wp2_with fail
   go_ret2
   rw[<-hR.out];exact FX _ _ _ ((P1.trans P2 (by simp)).trans P3 (by simp))
theorem ownB_x {w:World} {base:Nat} {v:Value} {l:List Int} (h:DR w base v l):AN cu8 5 1 w base v l:=by
 have e:l.flatMap cu8=u8s l:=by
  have e2: ∀l:List Int,l.flatMap cu8=l.map (.int .u8):=fun l=>by
   induction l with
   |nil=>rfl
   |cons a r ih=>rw[qG,ih];rfl
  exact e2 l
 unfold AN;rw[e];exact h
def BB (m:MD):List Int:=if(BZ m).1≠0 then[] else if EI (BZ m).2.length then JQ (BZ m).2.length++(BZ m).2 else[]
theorem enc_x (m:MD) (w:World) (hm:m.ok w) (hs:m.name.size<=140737488355328) (hl:m.lang.size<=140737488355328):Calls Tryz.prog 31 #[m.val] w fun e w'=>∃A cap,e = .returned (.tuple #[.slice A (BZ m).2.length cap,.int .i64 (BZ m).1])/\Only [] w w'/\AN cu8 5 1 w' w.heap.size (.slice A (BZ m).2.length cap) (BZ m).2:=
 (jE m w hm hs hl).mono fun e w' ⟨O,v,he,ho⟩=>by
  obtain⟨A,cap,rfl,_⟩:=ho.rd;exact⟨A,cap,he,O,ownB_x ho⟩
def mdS' (m:MD):List SC:=[.v (.int .i64 m.kind),.v (.int .u32 m.chan),.v (.int .u32 m.sender),.v (.int .u32 m.window),.v (.int .u32 m.packet),.v (.int .u32 m.code),.v (.string m.name),.v (.string m.lang),.v (.bool m.want),.v (.slice m.dA m.data.length m.dc)]
theorem KP (m:MD) (w:World) (hm:m.ok w) (hs:m.name.size<=140737488355328) (hl:m.lang.size<=140737488355328):Calls Tryz.prog 10 #[m.val] w fun e w'=>∃A cap,e = .returned (.slice A (BB m).length cap)/\Only [] w w'/\AN cu8 5 1 w' w.heap.size (.slice A (BB m).length cap) (BB m):=by
 obtain⟨r,hr⟩:=qX (BZ m);have hE:=fun w' (H:Only [] w w')=>enc_x m w' (hm.only H) hs hl;rw[hr] at hE;obtain⟨e,l⟩:=r;obtain⟨N,hN⟩:=qX l.length;dsimp only at hE;rw[hN] at hE;refine Hs.en Tryz.func10 [] [] [] [.g (mdS' m)] (Mem.start0 w) ?_;refine Hs.e1 fun b0=>?_;refine Hs.callS (cf:=cu8) (E:=5) (size:=1) (fun A cap=>.tuple #[.slice A N cap,.int .i64 e]) l N hN (fun w' H=>hE w' H.only) (by kernel_rfl) (by kernel_rfl) fun A c h1 h2=>?_;refine Hs.e0 ?_;refine Hs.cn (e !=0) (fun h=>?_) (fun h=>?_)
 ·have h:e≠0:=by simpa using h
  have ep:BB m=[]:=by unfold BB;rw[hr,if_pos h]
  refine Hs.e0 ?_;exact Hs.rt (v:=.slice none 0 0) Tryz.func10 fun w' H=>⟨none,0,by rw[ep];rfl,H.only,by rw[ep];exact CN⟩
 have h:e=0:=by simpa using h
 refine Hs.e0 ?_;by_cases hf:EI N=true
 ·have ep:BB m=JQ N++l:=by unfold BB;rw[hr,if_neg (by simp[h])];dsimp only;rw[hN,if_pos hf]
  have el:(JQ N++l).length=4+N:=by rw[zE,hN];rfl
  refine Hs.callS (cf:=cu8) (E:=5) (size:=1) (fun A cap=>.tuple #[.slice A (4+N) cap,.int .i64 0]) (JQ N++l) (4+N) el (fun w' H=>(RO l N hN A c w' (H.rdX (cf:=cu8) (l:=l) 1 hN (A:=A) (cap:=c) (E:=5) (size:=1) (by kernel_rfl))).mono fun e w2 ⟨x,O,hx⟩=>by
   rw[if_pos hf] at hx;exact⟨x.1,x.2,hx.1,O,hx.2⟩) (by kernel_rfl) (by kernel_rfl) fun A2 c2 g1 g2=>?_
  refine Hs.e0 ?_;exact Hs.rt (v:=.slice A2 (4+N) c2) Tryz.func10 fun w' H=>⟨A2,c2,by rw[ep,el],H.only,by rw[ep,el];exact H.fresh 2 el (by kernel_rfl)⟩
 ·have ep:BB m=[]:=by unfold BB;rw[hr,if_neg (by simp[h])];dsimp only;rw[hN,if_neg hf]
  refine Hs.cV (v:=.tuple #[.slice none 0 0,.int .i64 5]) (fun w' H=>(RO l N hN A c w' (H.rdX (cf:=cu8) (l:=l) 1 hN (A:=A) (cap:=c) (E:=5) (size:=1) (by kernel_rfl))).mono fun e w2 ⟨x,O,hx⟩=>by
   rw[if_neg hf] at hx;exact⟨hx,O⟩) ?_
  refine Hs.e0 ?_;exact Hs.rt (v:=.slice none 0 0) Tryz.func10 fun w' H=>⟨none,0,by rw[ep];rfl,H.only,by rw[ep];exact CN⟩
section
variable {P:Program} {f:FuncId} {R:Ending -> World -> Prop} {n:Nat} {w0 w00:World} {G L fp:List Nat} {β:List Nat} {m:SM} {Q:World -> Prop}
theorem Hs.callFxB {X:Type} (v:X->Value) (fp':X->List Nat) (Q':X->World->Prop) {F:FuncId} {args:Array Value} (C:Fx w00 G w0 L fp Q)
  (hC: ∀w,Mem w0 L β m.hp w->Q w->Calls P F args w fun e w'=>∃x,e = .returned (v x)/\Only fp w w'/\Q' x w'/\StX (fp' x) (Q' x)/\∀y∈fp' x,y<w'.heap.size/\(y∈fp\/w.heap.size<=y))
  (hc:FG P n β m=some (F,args)) (hro:PJ m.hp=true)
  (h: ∀x w1 L1,Fx w00 G w1 L1 (fp' x) (Q' x)->(∀y∈fp' x,y∈fp\/w0.heap.size<=y)->WC w00 G w0 L fp w1 L1->Hs P f R n w1 L1 β (m.put (BD m) (.c (.v (v x))) m.hp)):Hs P f R n w0 L β m:=by
 refine⟨fun w H W=>?_⟩;unfold FG at hc;split at hc
 ·rename_i o ho;split at hc
  ·rename_i hg;split at hc
   ·rename_i F' args' hp;injection hc with hc;injection hc with h1 h2;subst h1;subst h2;have hd:BD m=o.dst:=by unfold BD;rw[ho]
    rw[hd] at h;refine Gs.op ho hg ?_;unfold Oper.wp;rw[EO,HF P _ _ hp w];refine Calls.mono (hC w H (C.at H)) ?_;rintro e w' ⟨x,rfl,O,hQ,hst,hf⟩;refine⟨β,TO o.dst (.c (.v (v x))) m.sl,m.hp,EZ n β m.sl o.dst (.c (.v (v x))),fun w2 hI=>hI,(h x w' _ (C.turn H O hQ hf hst) (fun y hy=>(hf y hy).2.imp id fun h=>Nat.le_trans H.only.size h) fun fp2 Q2 C2 hne=>C2.step H O hne fun x hx=>(C.own x hx).2.2).go w' (H.rebaseF O (C.apart H hro)) ?_⟩;simp only[SM.wf,SM.put,Bool.and_eq_true];exact⟨DW (SM.wf_sl W) rfl,SM.wf_hp W⟩
   ·cases hc
  ·cases hc
 ·cases hc
end
end Go.Proofs.YtfbhemmpobgdpaaGreatDoor
namespace Go.Proofs.YtfbhemmpobgdpaaGreatDoor
open Go.RowKit Go.MapKept
section
variable {κ:Type} [DecidableEq κ]
def setE (k:κ) (v:Value):List (κ×Value)->List (κ×Value)
 |[]=>[(k,v)]
 |p::es=>if p.1=k then(k,v)::es else p::setE k v es
def delE (k:κ):List (κ×Value)->List (κ×Value)
 |[]=>[]
 |p::es=>if p.1=k then es else p::delE k es
theorem iB {k:κ} (v:Value): ∀{es:List (κ×Value)},BU k es=none->setE k v es=es++[(k,v)]
 |[],_=>rfl
 |p::es,h=>by
  unfold BU at h;split at h;·cases h
  ·rename_i h1;unfold setE;rw[if_neg h1,iB v h];rfl
theorem XG {α γ:Type} (g:α->γ) (f:α->α) (c:γ) (hc: ∀e,g (f e)=c): ∀(l:List α) (q:Nat),(l.modify q f).map g=(l.map g).set q c
 |[],q=>by cases q<;>rfl
 |a::l,0=>by simp[hc]
 |a::l,q+1=>by simp[XG g f c hc l q]
end
section
variable {P:Program} {f:FuncId} {R:Ending -> World -> Prop} {n:Nat} {w0:World} {L:List Nat} {β:List Nat} {m:SM}
variable {κ:Type} [DecidableEq κ]
variable {T kt et:TypeId} {z:Value} {ke:κ -> Value}
theorem aI {d:TypeDesc} (hk: ∀a,IsKey d (ke a)) (hi: ∀a b,ke a=ke b->a=b) (k:κ): ∀(l:List MapEntry) (es:List (κ×Value)) (i:Nat),l.map (fun e=>(e.key,e.val))=es.map (fun p=>(ke p.1,p.2))->∃o:Option (Nat×Value),Instr.findNow d (ke k) l i=some o/\(match o with
  |none=>BU k es=none
  |some (j,v)=>∃q,j=i+q/\(∃e,l[q]? = some e/\e.key=ke k)/\BU k es=some v/\(∀v',setE k v' es=es.set q (k,v'))/\delE k es=es.eraseIdx q)
 |[],[],i,_=>⟨none,rfl,rfl⟩
 |[],_::_,i,h=>by simp at h
 |_::_,[],i,h=>by simp at h
 |e::l,p::es,i,h=>by
  simp only[List.map_cons,List.cons.injEq,Prod.mk.injEq] at h;obtain⟨⟨h1,h2⟩,h3⟩:=h;obtain⟨r,hr,hiff⟩:=sameNow_of_keys (hk k) (show IsKey d e.key by rw[h1];exact hk _);cases r with
  |true=>
   have e1:p.1=k:=hi _ _ (by rw[<-h1];exact(hiff.1 rfl).symm);exact⟨some (i,e.val),by simp[Instr.findNow,hr],0,rfl,⟨e,rfl,by rw[h1,e1]⟩,by simp[BU,e1,h2],fun v'=>by simp[setE,e1],by simp[delE,e1]⟩
  |false=>
   have e1: ¬p.1=k:=fun he=>by
    have:=hiff.2 (by rw[h1,he]);cases this
   obtain⟨o,ho1,ho2⟩:=aI hk hi k l es (i+1) h3;refine⟨o,by simp[Instr.findNow,hr,ho1],?_⟩;cases o with
   |none=>simpa[BU,e1] using ho2
   |some jv=>
    obtain⟨j,v⟩:=jv;obtain⟨q,h4,h5,h6,h7,h8⟩:=ho2;exact⟨q+1,by omega,by simpa using h5,by simpa[BU,e1] using h6,fun v'=>by simp[setE,e1,h7],by simp[delE,e1,h8]⟩
theorem dY {d:TypeDesc} {v:Value} (h:IsKey d v):Instr.sameBits 10000 v v=true:=by
 unfold IsKey at h;split at h;·simp[Instr.sameBits]
 ·simp[Instr.sameBits]
 ·rename_i s;unfold Instr.sameBits;rw[show(s==s)=(s.data==s.data) from rfl];exact beq_self_eq_true _
 ·exact h.elim
theorem run_setM (ht:KeyT P T kt et z ke) {w:World} {r:Nat} {es:List (κ×Value)} (hM:BQ ke w r es) (k:κ) (v:Value): ∃w',(Instr.mapUpdate T (.map (some r)) (ke k) v).run P w = .ok () w'/\BQ ke w' r (setE k v es)/\Only [r] w w':=by
 cases hn:BU k es with
 |none=>
  rw[iB v hn];exact gZ ht hM k hn v
 |some v0=>
  obtain⟨d,hd,hk⟩:=ht.d;obtain⟨a,clock,hb,he,hst⟩:=hM;obtain⟨o,ho1,ho2⟩:=aI hk ht.inj k a.toList es 0 he;cases o with
  |none=>rw[hn] at ho2;cases ho2
  |some jv=>
   obtain⟨j,v1⟩:=jv;obtain⟨q,rfl,⟨e,he1,he2⟩,_,h7,_⟩:=ho2;rw[Nat.zero_add] at ho1;have hck:=run_checkKey (w:=w) hd (hk k) false 9999;have hf:=run_findKey (w:=w) hd ho1;have hs:=heap_set (o':=.map (a.modify q fun e=>{ e with key:=ke k,val:=v }) clock) hb;have hkey:((a[q]?).map (·.key)).getD (ke k)=ke k:=by
    rw[<-Array.getElem?_toList,he1];exact he2
   have hkt:(Instr.keyThatStays (ke k) (ke k)).run P w = .ok (ke k) w:=by
    unfold Instr.keyThatStays;rw[if_pos (dY (hk k))];rfl
   refine⟨{ w with heap:=w.heap.setIfInBounds r (.map (a.modify q fun e=>{ e with key:=ke k,val:=v }) clock) },?_,⟨_,_,hs.1,?_,stamped_modify hst q _ (fun _ _=>rfl) (fun e' _ h'=>by rw[<-Array.getElem?_toList,he1] at h';injection h' with h';rw[<-h',he2])⟩,⟨rfl,rfl,rfl,by simp,fun b _ hb=>hs.2 b (by simpa using hb)⟩⟩
   ·have hset:=MapKept.run_setObj_map (P:=P) (.map (a.modify q fun e=>{ e with key:=ke k,val:=v }) clock) hb;simp only[Instr.mapUpdate,Sem.run_bind,run_underlying ht.hm,Result.andThen_ok,MapKept.run_getObj_map hb,hck,hf,hkey,hkt];exact hset
   ·rw[Array.toList_modify,XG (fun e:MapEntry=>(e.key,e.val)) (fun e=>{ e with key:=ke k,val:=v }) (ke k,v) (fun _=>rfl),he,h7,List.map_set]
theorem Hs.setM (k:Nat) (ht:KeyT P T kt et z ke) {r:Nat} {es:List (κ×Value)} (key:κ) (v:Value) (hs:DO n β m=some (bY (Instr.mapUpdate T (.map (some r)) (ke key) v))) (hk:m.hp[k]? = some (HB.mp ke r es)) (hrd:(HO m).contains k=false)
  (h:Hs P f R n w0 L β (m.put (BD m) (.c (.v undef)) (m.hp.set k (HB.mp ke r (setE key v es))))):Hs P f R n w0 L β m:=by
 refine Hs.opU hs fun w H W=>?_;have hM:BQ ke w r es:=H.atQ k (wr:=true) (A:=some ⟨r,0,none⟩) (Q:=fun w=>BQ ke w r es) (st:=BQ.st) hk;obtain⟨w',hr,hM',O⟩:=run_setM ht hM key v;have hl:(HB.mp ke r (setE key v es)).lies w' β (nm β k):=⟨hM',fun a ha=>by injection ha with ha;subst ha;exact hM'.lt⟩;refine⟨m.hp.set k (HB.mp ke r (setE key v es)),w',hr,H.swap k hk O (fun x hx=>by simp only[qS] at hx;subst hx;rfl) rfl hl (fun x hx=>.inl hx),?_,fun j hj b hb=>?_,h⟩
 ·simp only[Bool.and_eq_true,Nat.ble_eq,List.length_set];exact⟨qL _,TW (SM.wf_hp W) rfl⟩
 ·rw[List.getElem?_set,if_neg (fun e=>by
   subst e;simp at hrd;exact hrd hj)]
  exact hb
end
def bks:List Nat->List HB->List Nat
 |b::β,h::hp=>(h.blk b).toList++bks β hp
 |_,_=>[]
def liesL (w:World) (β0:List Nat):List Nat->List HB->Prop
 |b::β,h::hp=>h.lies w β0 b/\liesL w β0 β hp
 |_,_=>True
section
variable {w w0:World} {L β β0:List Nat} {hp:List HB}
theorem VM: ∀{β:List Nat} {hp:List HB} {i b:Nat} {h:HB} {x:Nat},hp[i]? = some h->β[i]? = some b->h.blk b=some x->x∈bks β hp
 |[],hp,i,b,h,x,_,hb,_=>by simp at hb
 |c::β,[],i,b,h,x,hh,_,_=>by simp at hh
 |c::β,a::hp,0,b,h,x,hh,hb,hx=>by
  simp at hh hb;subst hh;subst hb;simp[bks,hx]
 |c::β,a::hp,i+1,b,h,x,hh,hb,hx=>by
  simp at hh hb;simp only[bks,List.mem_append];exact .inr (VM hh hb hx)
theorem bks_of: ∀{β:List Nat} {hp:List HB} {x:Nat},x∈bks β hp->∃(i b:Nat) (h:HB),hp[i]? = some h/\β[i]? = some b/\h.blk b=some x
 |[],hp,x,h=>by simp[bks] at h
 |c::β,[],x,h=>by simp[bks] at h
 |c::β,a::hp,x,h=>by
  simp only[bks,List.mem_append,Option.mem_toList] at h;rcases h with h|h;·exact⟨0,c,a,rfl,rfl,h⟩
  ·obtain⟨i,b,h',h1,h2,h3⟩:=bks_of h;exact⟨i+1,b,h',by simpa using h1,by simpa using h2,h3⟩
theorem TH: ∀{β:List Nat} {hp:List HB} {i:Nat} {h:HB} {b:Nat},liesL w β0 β hp->hp[i]? = some h->β[i]? = some b->h.lies w β0 b
 |[],hp,i,h,b,_,_,hb=>by simp at hb
 |c::β,[],i,h,b,_,hh,_=>by simp at hh
 |c::β,a::hp,0,h,b,hl,hh,hb=>by simp at hh hb;subst hh;subst hb;exact hl.1
 |c::β,a::hp,i+1,h,b,hl,hh,hb=>TH hl.2 (by simpa using hh) (by simpa using hb)
theorem cQ: ∀{β:List Nat} {hp:List HB} {i j a b:Nat} {hi hj:HB} {x:Nat},(bks β hp).Nodup->hp[i]? = some hi->hp[j]? = some hj->β[i]? = some a->β[j]? = some b->hi.blk a=some x->hj.blk b=some x->i=j
 |[],hp,i,j,a,b,hi,hj,x,_,_,_,ha,_,_,_=>by simp at ha
 |c::β,[],i,j,a,b,hi,hj,x,_,hh,_,_,_,_,_=>by simp at hh
 |c::β,d::hp,0,0,a,b,hi,hj,x,_,_,_,_,_,_,_=>rfl
 |c::β,d::hp,0,j+1,a,b,hi,hj,x,nd,h1,h2,h3,h4,h5,h6=>by
  simp only[bks,qD] at nd;simp at h1 h2 h3 h4;subst h1;subst h3;exact absurd rfl (nd.2.2 x (by simp[h5]) x (VM h2 h4 h6))
 |c::β,d::hp,i+1,0,a,b,hi,hj,x,nd,h1,h2,h3,h4,h5,h6=>by
  simp only[bks,qD] at nd;simp at h1 h2 h3 h4;subst h2;subst h4;exact absurd rfl (nd.2.2 x (by simp[h6]) x (VM h1 h3 h5))
 |c::β,d::hp,i+1,j+1,a,b,hi,hj,x,nd,h1,h2,h3,h4,h5,h6=>by
  simp only[bks,qD] at nd;simp at h1 h2 h3 h4;rw[cQ nd.2.1 h1 h2 h3 h4 h5 h6]
theorem Mem.startN (len:β.length=hp.length) (nd:(bks β hp).Nodup) (lies:liesL w β β hp):Mem w (bks β hp) β hp w:=by
 have get: ∀k h,hp[k]? = some h->β[k]? = some (nm β k):=fun k h hk=>by
  have hl:=(List.getElem?_eq_some_iff.1 hk).1;rw[<-len] at hl;rw[nm,List.getD,List.getElem?_eq_getElem hl];rfl
 exact Mem.start _ _ _ _ len (fun k h hk=>TH lies hk (get k h hk)) (fun k h x hk _ hx=>VM hk (get k h hk) hx) (fun i j hi hj x ei ej xi xj=>cQ nd ei ej (get i hi ei) (get j hj ej) xi xj)
theorem Mem.startW (L:List Nat) (len:β.length=hp.length) (nd:(bks β hp).Nodup) (lies:liesL w β β hp) (own: ∀x∈wrN β hp,x∈L):Mem w L β hp w:=by
 have get: ∀k h,hp[k]? = some h->β[k]? = some (nm β k):=fun k h hk=>by
  have hl:=(List.getElem?_eq_some_iff.1 hk).1;rw[<-len] at hl;rw[nm,List.getD,List.getElem?_eq_getElem hl];rfl
 exact Mem.start _ _ _ _ len (fun k h hk=>TH lies hk (get k h hk)) (fun k h x hk hw hx=>own x (HW.2 ⟨k,h,nm β k,hk,get k h hk,hw,hx⟩)) (fun i j hi hj x ei ej xi xj=>cQ nd ei ej (get i hi ei) (get j hj ej) xi xj)
theorem aV: ∀{β:List Nat} {hp:List HB},(∀(i j a b:Nat) (hi hj:HB) (x:Nat),hp[i]? = some hi->hp[j]? = some hj->β[i]? = some a->β[j]? = some b->hi.blk a=some x->hj.blk b=some x->i=j)->(bks β hp).Nodup
 |[],hp,_=>by simp[bks]
 |c::β,[],_=>by simp[bks]
 |c::β,d::hp,h=>by
  simp only[bks,qD];refine⟨?_,aV fun i j a b hi hj x h1 h2 h3 h4 h5 h6=>Nat.succ.inj (h (i+1) (j+1) a b hi hj x (by simpa using h1) (by simpa using h2) (by simpa using h3) (by simpa using h4) h5 h6),fun x hx y hy e=>?_⟩;·cases d.blk c<;>simp
  ·subst e;obtain⟨i,b,h',h1,h2,h3⟩:=bks_of hy;rw[Option.mem_toList] at hx;have:=h 0 (i+1) c b d h' x rfl (by simpa using h1) rfl (by simpa using h2) hx h3;cases this
theorem Mem.bks (H:Mem w0 L β hp w) (hro:PJ hp=true):(bks β hp).Nodup/\∀x∈bks β hp,(x∈L\/w0.heap.size<=x)/\x<w.heap.size:=by
 refine⟨aV fun i j a b hi hj x h1 h2 h3 h4 h5 h6=>H.inj i j hi hj x h1 h2 (by rw[TJ h3];exact h5) (by rw[TJ h4];exact h6),fun x hx=>?_⟩;obtain⟨i,b,h,h1,h2,h3⟩:=bks_of hx;have h4:h.blk (nm β i)=some x:=by rw[TJ h2];exact h3
 have hw:h.wr=true:=by
  have h5:=List.all_eq_true.1 hro h (qE h1);cases h with
  |no=>cases h3
  |_=>exact h5
 exact⟨H.own i h x h1 hw h4,HB.lies_lt (H.lies i h h1) h4⟩
end
theorem Mem.rdOne (w:World) (g:Nat) {T:Nat} {cs:List SC} (hg:Blk w g T (DG [g] cs)):Mem w [] [g] [.b false T cs] w:=
 Mem.start _ _ _ _ rfl (fun k h hk=>by
  cases k with
  |zero=>simp at hk;subst hk;exact hg
  |succ k=>simp at hk) (fun k h x hk hw _=>by
  cases k with
  |zero=>simp at hk;subst hk;cases hw
  |succ k=>simp at hk) (fun i j hi hj x ei ej _ _=>by
  cases i with
  |succ i=>simp at ei
  |zero=>
   cases j with
   |succ j=>simp at ej
   |zero=>rfl)
section
variable {P:Program} {f:FuncId} {R:Ending -> World -> Prop} {n:Nat} {w0:World} {L:List Nat} {β:List Nat} {m:SM}
variable {κ:Type} [DecidableEq κ] {T kt et:TypeId} {z:Value} {ke:κ -> Value}
def HB.mpr (ke:κ->Value) (r:Nat) (es:List (κ×Value)):HB:=.q false (some ⟨r,0,none⟩) (fun w=>BQ ke w r es) BQ.st
theorem Mem.mapR {w:World} {hp:List HB} (H:Mem w0 L β hp w) (k:Nat) {r:Nat} {es:List (κ×Value)} (hk:hp[k]? = some (HB.mpr ke r es)):BQ ke w r es:=
 H.atQ k (wr:=false) (A:=some ⟨r,0,none⟩) (Q:=fun w=>BQ ke w r es) (st:=BQ.st) hk
theorem Hs.takeGet (i k:Nat) (ht:KeyT P T kt et z ke) {r:Nat} {es:List (κ×Value)} (key:κ) (ok:Bool) (v:Value) (hv:(if ok then .tuple #[(BU key es).getD z,.bool (BU key es).isSome] else(BU key es).getD z)=v) {rd:List Nat} (hs:YJ i n β m=some (GK (Instr.lookup T (.map (some r)) (ke key) ok),rd)) (hk:m.hp[k]? = some (HB.mp ke r es)) (hr:rd.contains k=true)
  (h:Hs P f R n w0 L β (VD i (.c (.v v)) m)):Hs P f R n w0 L β m:=
 Hs.takeV i (.c (.v v)) hs rfl (fun w hI=>by
  have hl:=hI k (by simpa using hr) _ hk;rw[bP ht (r:=r) (es:=es) hl.1 key ok,hv];rfl) h
end
end Go.Proofs.YtfbhemmpobgdpaaGreatDoor
