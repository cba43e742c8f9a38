/- ClientSends: lemmas, from 'The document's answer for layer 3: a message's fields' on; what each asks for stands in it. -/
import Derived.Test.YtfbhemmpobgdpaaGreatDoorCsP
import Derived.Test.YtfbhemmpobgdpaaGreatDoorCsA
import Derived.Test.YtfbhemmpobgdpaaGreatDoorCsN
import Derived.Test.YtfbhemmpobgdpaaGreatDoorCsH
import Derived.Test.YtfbhemmpobgdpaaGreatDoorCsG
import Derived.Test.YtfbhemmpobgdpaaGreatDoorCsM
import Derived.Laws.Concat
set_option linter.all false
set_option maxRecDepth 100000
set_option maxHeartbeats 64000000
namespace Go.Proofs.YtfbhemmpobgdpaaGreatDoor
open Go.RowKit
def AE (w:World) (m:MD):Ending->World->Prop:=fun e w'=>Only [] w w'/\match BX m.kind with
 |none=>e = .returned (.tuple #[.slice none 0 0,.bool false])
 |some js=>∃(A:Option Addr) (c:Nat) (fs:List FD),e = .returned (.tuple #[.slice A fs.length c,.bool true])/\RdF w' A fs/\fs.map FD.pf=js.map (AP m)/\fs.length<=c/\c<=maxLen
theorem fields_k1 (m:MD) (w:World) (hk:m.kind=1) (ok:m.ok w) (hs:m.name.size<=140737488355328) (hl:m.lang.size<=140737488355328):Calls Tryz.prog 70 #[m.val] w (AE w m):=by
 have hpost: ∀(w':World) (A:Option Addr) (c:Nat) (fs:List FD),Only [] w w'->RdF w' A fs->fs.map FD.pf=[0,1,2].map (AP m)->fs.length<=c->c<=maxLen->AE w m (.returned (.tuple #[.slice A fs.length c,.bool true])) w':=fun w' A c fs h1 h2 h3 h4 h5=>by
  refine⟨h1,?_⟩;rw[show BX m.kind=some [0,1,2] by rw[hk];rfl];exact⟨A,c,fs,rfl,h2,h3,h4,h5⟩
 have ok0:=ok;obtain⟨w1,hw1⟩:=qY (w.alloc (.cells #[.int .i64 m.kind,.int .u32 m.chan,.int .u32 m.sender,.int .u32 m.window,.int .u32 m.packet,.int .u32 m.code,.string m.name,.string m.lang,.bool m.want,.slice m.dA m.data.length m.dc] 37));have O1:Only [] w w1:=by rw[hw1];exact(zR _ _).alloc _
 have K1:Blk w1 w.heap.size 37 m.cells:=by rw[hw1];exact Blk.new w _ _
 have hkv:=hk;replace hpost:=AB hpost;unfold MD.val;rw[hk] at hw1⊢;replace hk:=AB hk;go_enter Tryz.func70,Tryz.ntmps70
 go_wp2_with fail
 rw[<-hw1];replace hw1:=AB hw1;have hI1:(fun w':World=>Blk w' w.heap.size 37 m.cells) { w1 with drawn:=w1.drawn+1 }:=K1;refine AL (fun w':World=>Blk w' w.heap.size 37 m.cells) [] (by kernel_rfl) ?_;refine qP 0 w.heap.size 5 rfl hI1 ?_;refine wpAnyE_tk 1 (v:=(.int .u32 m.code)) rfl hI1 (fun w' hw'=>by have y:w'.cell? ⟨w.heap.size,5,none⟩=some (.int .u32 m.code):=Blk.cell hw' 5;go_simp) ?_;refine qP 3 w.heap.size 9 rfl hI1 ?_;refine wpAnyE_tk 4 (v:=(.slice m.dA m.data.length m.dc)) rfl hI1 (fun w' hw'=>by have y:w'.cell? ⟨w.heap.size,9,none⟩=some (.slice m.dA m.data.length m.dc):=Blk.cell hw' 9;go_simp) ?_;refine qP 6 w.heap.size 7 rfl hI1 ?_;refine wpAnyE_tk 7 (v:=(.string m.lang)) rfl hI1 (fun w' hw'=>by have y:w'.cell? ⟨w.heap.size,7,none⟩=some (.string m.lang):=Blk.cell hw' 7;go_simp) ?_;refine AC 2 rfl (by kernel_rfl) hI1 (fun K hK=>?_);rw[if_pos (by kernel_rfl)];go_simp
 have C0:=AU w1.drew m.code (ok0.nums.2.2.2.2);go_call C0 as e w2 ⟨P2,f0,rfl,p0,g0,n0⟩
 have O2:Only [] w w2:=O1.drew.trans P2 (by simp);have hI2:(fun w':World=>Blk w' w.heap.size 37 m.cells) w2:=Blk.only K1.drew P2 (by simp);refine hK _ _ ?_;clear hK K C0;refine AC 5 rfl (by kernel_rfl) hI2 (fun K hK=>?_);rw[if_pos (by kernel_rfl)];go_simp
 have C1:=LG w2 m.dA m.data m.dc (ok.only O2).data ok0.dle ok0.dmax;go_call C1 as e w3 ⟨P3,f1,rfl,p1,g1,n1⟩
 have O3:Only [] w w3:=O2.trans P3 (by simp);have hI3:(fun w':World=>Blk w' w.heap.size 37 m.cells) w3:=Blk.only hI2 P3 (by simp);refine hK _ _ ?_;clear hK K C1;refine AC 8 rfl (by kernel_rfl) hI3 (fun K hK=>?_);rw[if_pos (by kernel_rfl)];go_simp
 have C2:=KK w3 m.lang hl;go_call C2 as e w4 ⟨P4,f2,rfl,p2,g2,n2⟩
 have O4:Only [] w w4:=O3.trans P4 (by simp);have hI4:(fun w':World=>Blk w' w.heap.size 37 m.cells) w4:=Blk.only hI3 P4 (by simp);refine hK _ _ ?_;clear hK K C2;unfold FD.val;refine AC 9 rfl (by kernel_rfl) hI4 (fun K hK=>?_);rw[if_pos (by kernel_rfl)];go_simp
 refine hK _ _ ?_;clear hK K;have hIZ:(fun w':World=>Blk w' w.heap.size 37 m.cells) (w4.alloc (.cells #[.int .i64 f0.kind,.int .u32 f0.n,.slice f0.tA f0.text.length f0.tc,.slice f0.lA f0.list.length f0.lc,.int .i64 f1.kind,.int .u32 f1.n,.slice f1.tA f1.text.length f1.tc,.slice f1.lA f1.list.length f1.lc,.int .i64 f2.kind,.int .u32 f2.n,.slice f2.tA f2.text.length f2.tc,.slice f2.lA f2.list.length f2.lc] 153)):=Blk.alloc hI4 _;refine wpAnyE_tg 10 (v:=(.slice (some ⟨w4.heap.size,0,none⟩) 3 3)) rfl hIZ ?_;refine wpAnyE_tg 11 (v:=(.bool true)) rfl hIZ ?_;refine AT (by kernel_rfl) hIZ ?_;simp only[Exit.then];go_wp2_with fail
 go_ret2
 have Z: ∀f∈[f0,f1,f2],f.ok w4/\0<=f.n/\f.n<=4294967295:=by
  intro f hf;simp only[qC,List.mem_nil_iff,or_false] at hf;rcases hf with rfl|rfl|rfl;·exact⟨((g0.only P3).only P4),n0⟩
  ·exact⟨(g1.only P4),n1⟩
  ·exact⟨g2,n2⟩
 have RZ:=FE w4 [f0,f1,f2] #[.int .i64 f0.kind,.int .u32 f0.n,.slice f0.tA f0.text.length f0.tc,.slice f0.lA f0.list.length f0.lc,.int .i64 f1.kind,.int .u32 f1.n,.slice f1.tA f1.text.length f1.tc,.slice f1.lA f1.list.length f1.lc,.int .i64 f2.kind,.int .u32 f2.n,.slice f2.tA f2.text.length f2.tc,.slice f2.lA f2.list.length f2.lc] rfl Z;exact hpost.out _ (some ⟨w4.heap.size,0,none⟩) 3 [f0,f1,f2] (O4.alloc _) RZ (by simp only[List.map_cons,List.map_nil,p0,p1,p2];rfl) (qL _) (by simp[maxLen])
theorem jG (m:MD) (w:World) (hk:m.kind=80) (ok:m.ok w) (hs:m.name.size<=140737488355328) (hl:m.lang.size<=140737488355328):Calls Tryz.prog 70 #[m.val] w (AE w m):=by
 have hpost: ∀(w':World) (A:Option Addr) (c:Nat) (fs:List FD),Only [] w w'->RdF w' A fs->fs.map FD.pf=[3,4,5].map (AP m)->fs.length<=c->c<=maxLen->AE w m (.returned (.tuple #[.slice A fs.length c,.bool true])) w':=fun w' A c fs h1 h2 h3 h4 h5=>by
  refine⟨h1,?_⟩;rw[show BX m.kind=some [3,4,5] by rw[hk];rfl];exact⟨A,c,fs,rfl,h2,h3,h4,h5⟩
 have ok0:=ok;obtain⟨w1,hw1⟩:=qY (w.alloc (.cells #[.int .i64 m.kind,.int .u32 m.chan,.int .u32 m.sender,.int .u32 m.window,.int .u32 m.packet,.int .u32 m.code,.string m.name,.string m.lang,.bool m.want,.slice m.dA m.data.length m.dc] 37));have O1:Only [] w w1:=by rw[hw1];exact(zR _ _).alloc _
 have K1:Blk w1 w.heap.size 37 m.cells:=by rw[hw1];exact Blk.new w _ _
 have hkv:=hk;replace hpost:=AB hpost;unfold MD.val;rw[hk] at hw1⊢;replace hk:=AB hk;go_enter Tryz.func70,Tryz.ntmps70
 go_wp2_with fail
 rw[<-hw1];replace hw1:=AB hw1;have hI1:(fun w':World=>Blk w' w.heap.size 37 m.cells) { w1 with drawn:=w1.drawn+1 }:=K1;refine AL (fun w':World=>Blk w' w.heap.size 37 m.cells) [] (by kernel_rfl) ?_;refine qP 0 w.heap.size 6 rfl hI1 ?_;refine wpAnyE_tk 1 (v:=(.string m.name)) rfl hI1 (fun w' hw'=>by have y:w'.cell? ⟨w.heap.size,6,none⟩=some (.string m.name):=Blk.cell hw' 6;go_simp) ?_;refine qP 3 w.heap.size 8 rfl hI1 ?_;refine wpAnyE_tk 4 (v:=(.bool m.want)) rfl hI1 (fun w' hw'=>by have y:w'.cell? ⟨w.heap.size,8,none⟩=some (.bool m.want):=Blk.cell hw' 8;go_simp) ?_;refine qP 6 w.heap.size 9 rfl hI1 ?_;refine wpAnyE_tk 7 (v:=(.slice m.dA m.data.length m.dc)) rfl hI1 (fun w' hw'=>by have y:w'.cell? ⟨w.heap.size,9,none⟩=some (.slice m.dA m.data.length m.dc):=Blk.cell hw' 9;go_simp) ?_;refine AC 2 rfl (by kernel_rfl) hI1 (fun K hK=>?_);rw[if_pos (by kernel_rfl)];go_simp
 have C0:=KK w1.drew m.name hs;go_call C0 as e w2 ⟨P2,f0,rfl,p0,g0,n0⟩
 have O2:Only [] w w2:=O1.drew.trans P2 (by simp);have hI2:(fun w':World=>Blk w' w.heap.size 37 m.cells) w2:=Blk.only K1.drew P2 (by simp);refine hK _ _ ?_;clear hK K C0;refine AC 5 rfl (by kernel_rfl) hI2 (fun K hK=>?_);rw[if_pos (by kernel_rfl)];go_simp
 have C1:=XI w2 m.want;go_call C1 as e w3 ⟨P3,f1,rfl,p1,g1,n1⟩
 have O3:Only [] w w3:=O2.trans P3 (by simp);have hI3:(fun w':World=>Blk w' w.heap.size 37 m.cells) w3:=Blk.only hI2 P3 (by simp);refine hK _ _ ?_;clear hK K C1;refine AC 8 rfl (by kernel_rfl) hI3 (fun K hK=>?_);rw[if_pos (by kernel_rfl)];go_simp
 have C2:=KI w3 m.dA m.data m.dc (ok.only O3).data ok0.dle ok0.dmax;go_call C2 as e w4 ⟨P4,f2,rfl,p2,g2,n2⟩
 have O4:Only [] w w4:=O3.trans P4 (by simp);have hI4:(fun w':World=>Blk w' w.heap.size 37 m.cells) w4:=Blk.only hI3 P4 (by simp);refine hK _ _ ?_;clear hK K C2;unfold FD.val;refine AC 9 rfl (by kernel_rfl) hI4 (fun K hK=>?_);rw[if_pos (by kernel_rfl)];go_simp
 refine hK _ _ ?_;clear hK K;have hIZ:(fun w':World=>Blk w' w.heap.size 37 m.cells) (w4.alloc (.cells #[.int .i64 f0.kind,.int .u32 f0.n,.slice f0.tA f0.text.length f0.tc,.slice f0.lA f0.list.length f0.lc,.int .i64 f1.kind,.int .u32 f1.n,.slice f1.tA f1.text.length f1.tc,.slice f1.lA f1.list.length f1.lc,.int .i64 f2.kind,.int .u32 f2.n,.slice f2.tA f2.text.length f2.tc,.slice f2.lA f2.list.length f2.lc] 153)):=Blk.alloc hI4 _;refine wpAnyE_tg 10 (v:=(.slice (some ⟨w4.heap.size,0,none⟩) 3 3)) rfl hIZ ?_;refine wpAnyE_tg 11 (v:=(.bool true)) rfl hIZ ?_;refine AT (by kernel_rfl) hIZ ?_;simp only[Exit.then];go_wp2_with fail
 go_ret2
 have Z: ∀f∈[f0,f1,f2],f.ok w4/\0<=f.n/\f.n<=4294967295:=by
  intro f hf;simp only[qC,List.mem_nil_iff,or_false] at hf;rcases hf with rfl|rfl|rfl;·exact⟨((g0.only P3).only P4),n0⟩
  ·exact⟨(g1.only P4),n1⟩
  ·exact⟨g2,n2⟩
 have RZ:=FE w4 [f0,f1,f2] #[.int .i64 f0.kind,.int .u32 f0.n,.slice f0.tA f0.text.length f0.tc,.slice f0.lA f0.list.length f0.lc,.int .i64 f1.kind,.int .u32 f1.n,.slice f1.tA f1.text.length f1.tc,.slice f1.lA f1.list.length f1.lc,.int .i64 f2.kind,.int .u32 f2.n,.slice f2.tA f2.text.length f2.tc,.slice f2.lA f2.list.length f2.lc] rfl Z;exact hpost.out _ (some ⟨w4.heap.size,0,none⟩) 3 [f0,f1,f2] (O4.alloc _) RZ (by simp only[List.map_cons,List.map_nil,p0,p1,p2];rfl) (qL _) (by simp[maxLen])
theorem jH (m:MD) (w:World) (hk:m.kind=81) (ok:m.ok w) (hs:m.name.size<=140737488355328) (hl:m.lang.size<=140737488355328):Calls Tryz.prog 70 #[m.val] w (AE w m):=by
 have hpost: ∀(w':World) (A:Option Addr) (c:Nat) (fs:List FD),Only [] w w'->RdF w' A fs->fs.map FD.pf=[5].map (AP m)->fs.length<=c->c<=maxLen->AE w m (.returned (.tuple #[.slice A fs.length c,.bool true])) w':=fun w' A c fs h1 h2 h3 h4 h5=>by
  refine⟨h1,?_⟩;rw[show BX m.kind=some [5] by rw[hk];rfl];exact⟨A,c,fs,rfl,h2,h3,h4,h5⟩
 have ok0:=ok;obtain⟨w1,hw1⟩:=qY (w.alloc (.cells #[.int .i64 m.kind,.int .u32 m.chan,.int .u32 m.sender,.int .u32 m.window,.int .u32 m.packet,.int .u32 m.code,.string m.name,.string m.lang,.bool m.want,.slice m.dA m.data.length m.dc] 37));have O1:Only [] w w1:=by rw[hw1];exact(zR _ _).alloc _
 have K1:Blk w1 w.heap.size 37 m.cells:=by rw[hw1];exact Blk.new w _ _
 have hkv:=hk;replace hpost:=AB hpost;unfold MD.val;rw[hk] at hw1⊢;replace hk:=AB hk;go_enter Tryz.func70,Tryz.ntmps70
 go_wp2_with fail
 rw[<-hw1];replace hw1:=AB hw1;have C0:=KI w1 m.dA m.data m.dc (ok.only O1).data ok0.dle ok0.dmax;go_call C0 as e w2 ⟨P2,f0,rfl,p0,g0,n0⟩
 have O2:Only [] w w2:=O1.trans P2 (by simp);clear C0;unfold FD.val;go_wp2_with fail
 go_ret2
 have Z: ∀f∈[f0],f.ok w2/\0<=f.n/\f.n<=4294967295:=by
  intro f hf;simp only[qC,List.mem_nil_iff,or_false] at hf;subst hf;exact⟨g0,n0⟩
 have RZ:=FE w2 [f0] #[.int .i64 f0.kind,.int .u32 f0.n,.slice f0.tA f0.text.length f0.tc,.slice f0.lA f0.list.length f0.lc] rfl Z;exact hpost.out _ (some ⟨w2.heap.size,0,none⟩) 1 [f0] (O2.alloc _) RZ (by simp only[List.map_cons,List.map_nil,p0];rfl) (qL _) (by simp[maxLen])
theorem jI (m:MD) (w:World) (hk:m.kind=82) (ok:m.ok w) (hs:m.name.size<=140737488355328) (hl:m.lang.size<=140737488355328):Calls Tryz.prog 70 #[m.val] w (AE w m):=by
 have hpost: ∀(w':World) (A:Option Addr) (c:Nat) (fs:List FD),Only [] w w'->RdF w' A fs->fs.map FD.pf=([]:List Nat).map (AP m)->fs.length<=c->c<=maxLen->AE w m (.returned (.tuple #[.slice A fs.length c,.bool true])) w':=fun w' A c fs h1 h2 h3 h4 h5=>by
  refine⟨h1,?_⟩;rw[show BX m.kind=some [] by rw[hk];rfl];exact⟨A,c,fs,rfl,h2,h3,h4,h5⟩
 have ok0:=ok;obtain⟨w1,hw1⟩:=qY (w.alloc (.cells #[.int .i64 m.kind,.int .u32 m.chan,.int .u32 m.sender,.int .u32 m.window,.int .u32 m.packet,.int .u32 m.code,.string m.name,.string m.lang,.bool m.want,.slice m.dA m.data.length m.dc] 37));have O1:Only [] w w1:=by rw[hw1];exact(zR _ _).alloc _
 have K1:Blk w1 w.heap.size 37 m.cells:=by rw[hw1];exact Blk.new w _ _
 have hkv:=hk;replace hpost:=AB hpost;unfold MD.val;rw[hk] at hw1⊢;replace hk:=AB hk;go_enter Tryz.func70,Tryz.ntmps70
 go_wp2_with fail
 (try simp only[Exit.inBlock,Exit.then])
 go_ret2
 rw[<-hw1];exact hpost.out w1 none 0 [] O1 ⟨fun h=>absurd h (Nat.lt_irrefl _),fun f hf=>by simp at hf⟩ rfl (qL _) (by simp[maxLen])
theorem jP (m:MD) (w:World) (hk:m.kind=96) (ok:m.ok w) (hs:m.name.size<=140737488355328) (hl:m.lang.size<=140737488355328):Calls Tryz.prog 70 #[m.val] w (AE w m):=by
 have hpost: ∀(w':World) (A:Option Addr) (c:Nat) (fs:List FD),Only [] w w'->RdF w' A fs->fs.map FD.pf=[9].map (AP m)->fs.length<=c->c<=maxLen->AE w m (.returned (.tuple #[.slice A fs.length c,.bool true])) w':=fun w' A c fs h1 h2 h3 h4 h5=>by
  refine⟨h1,?_⟩;rw[show BX m.kind=some [9] by rw[hk];rfl];exact⟨A,c,fs,rfl,h2,h3,h4,h5⟩
 have ok0:=ok;obtain⟨w1,hw1⟩:=qY (w.alloc (.cells #[.int .i64 m.kind,.int .u32 m.chan,.int .u32 m.sender,.int .u32 m.window,.int .u32 m.packet,.int .u32 m.code,.string m.name,.string m.lang,.bool m.want,.slice m.dA m.data.length m.dc] 37));have O1:Only [] w w1:=by rw[hw1];exact(zR _ _).alloc _
 have K1:Blk w1 w.heap.size 37 m.cells:=by rw[hw1];exact Blk.new w _ _
 have hkv:=hk;replace hpost:=AB hpost;unfold MD.val;rw[hk] at hw1⊢;replace hk:=AB hk;go_enter Tryz.func70,Tryz.ntmps70
 go_wp2_with fail
 rw[<-hw1];replace hw1:=AB hw1;have C0:=AU w1 m.chan (ok0.nums.1);go_call C0 as e w2 ⟨P2,f0,rfl,p0,g0,n0⟩
 have O2:Only [] w w2:=O1.trans P2 (by simp);clear C0;unfold FD.val;go_wp2_with fail
 go_ret2
 have Z: ∀f∈[f0],f.ok w2/\0<=f.n/\f.n<=4294967295:=by
  intro f hf;simp only[qC,List.mem_nil_iff,or_false] at hf;subst hf;exact⟨g0,n0⟩
 have RZ:=FE w2 [f0] #[.int .i64 f0.kind,.int .u32 f0.n,.slice f0.tA f0.text.length f0.tc,.slice f0.lA f0.list.length f0.lc] rfl Z;exact hpost.out _ (some ⟨w2.heap.size,0,none⟩) 1 [f0] (O2.alloc _) RZ (by simp only[List.map_cons,List.map_nil,p0];rfl) (qL _) (by simp[maxLen])
theorem jQ (m:MD) (w:World) (hk:m.kind=97) (ok:m.ok w) (hs:m.name.size<=140737488355328) (hl:m.lang.size<=140737488355328):Calls Tryz.prog 70 #[m.val] w (AE w m):=by
 have hpost: ∀(w':World) (A:Option Addr) (c:Nat) (fs:List FD),Only [] w w'->RdF w' A fs->fs.map FD.pf=[9].map (AP m)->fs.length<=c->c<=maxLen->AE w m (.returned (.tuple #[.slice A fs.length c,.bool true])) w':=fun w' A c fs h1 h2 h3 h4 h5=>by
  refine⟨h1,?_⟩;rw[show BX m.kind=some [9] by rw[hk];rfl];exact⟨A,c,fs,rfl,h2,h3,h4,h5⟩
 have ok0:=ok;obtain⟨w1,hw1⟩:=qY (w.alloc (.cells #[.int .i64 m.kind,.int .u32 m.chan,.int .u32 m.sender,.int .u32 m.window,.int .u32 m.packet,.int .u32 m.code,.string m.name,.string m.lang,.bool m.want,.slice m.dA m.data.length m.dc] 37));have O1:Only [] w w1:=by rw[hw1];exact(zR _ _).alloc _
 have K1:Blk w1 w.heap.size 37 m.cells:=by rw[hw1];exact Blk.new w _ _
 have hkv:=hk;replace hpost:=AB hpost;unfold MD.val;rw[hk] at hw1⊢;replace hk:=AB hk;go_enter Tryz.func70,Tryz.ntmps70
 go_wp2_with fail
 rw[<-hw1];replace hw1:=AB hw1;have C0:=AU w1 m.chan (ok0.nums.1);go_call C0 as e w2 ⟨P2,f0,rfl,p0,g0,n0⟩
 have O2:Only [] w w2:=O1.trans P2 (by simp);clear C0;unfold FD.val;go_wp2_with fail
 go_ret2
 have Z: ∀f∈[f0],f.ok w2/\0<=f.n/\f.n<=4294967295:=by
  intro f hf;simp only[qC,List.mem_nil_iff,or_false] at hf;subst hf;exact⟨g0,n0⟩
 have RZ:=FE w2 [f0] #[.int .i64 f0.kind,.int .u32 f0.n,.slice f0.tA f0.text.length f0.tc,.slice f0.lA f0.list.length f0.lc] rfl Z;exact hpost.out _ (some ⟨w2.heap.size,0,none⟩) 1 [f0] (O2.alloc _) RZ (by simp only[List.map_cons,List.map_nil,p0];rfl) (qL _) (by simp[maxLen])
theorem jS (m:MD) (w:World) (hk:m.kind=99) (ok:m.ok w) (hs:m.name.size<=140737488355328) (hl:m.lang.size<=140737488355328):Calls Tryz.prog 70 #[m.val] w (AE w m):=by
 have hpost: ∀(w':World) (A:Option Addr) (c:Nat) (fs:List FD),Only [] w w'->RdF w' A fs->fs.map FD.pf=[9].map (AP m)->fs.length<=c->c<=maxLen->AE w m (.returned (.tuple #[.slice A fs.length c,.bool true])) w':=fun w' A c fs h1 h2 h3 h4 h5=>by
  refine⟨h1,?_⟩;rw[show BX m.kind=some [9] by rw[hk];rfl];exact⟨A,c,fs,rfl,h2,h3,h4,h5⟩
 have ok0:=ok;obtain⟨w1,hw1⟩:=qY (w.alloc (.cells #[.int .i64 m.kind,.int .u32 m.chan,.int .u32 m.sender,.int .u32 m.window,.int .u32 m.packet,.int .u32 m.code,.string m.name,.string m.lang,.bool m.want,.slice m.dA m.data.length m.dc] 37));have O1:Only [] w w1:=by rw[hw1];exact(zR _ _).alloc _
 have K1:Blk w1 w.heap.size 37 m.cells:=by rw[hw1];exact Blk.new w _ _
 have hkv:=hk;replace hpost:=AB hpost;unfold MD.val;rw[hk] at hw1⊢;replace hk:=AB hk;go_enter Tryz.func70,Tryz.ntmps70
 go_wp2_with fail
 rw[<-hw1];replace hw1:=AB hw1;have C0:=AU w1 m.chan (ok0.nums.1);go_call C0 as e w2 ⟨P2,f0,rfl,p0,g0,n0⟩
 have O2:Only [] w w2:=O1.trans P2 (by simp);clear C0;unfold FD.val;go_wp2_with fail
 go_ret2
 have Z: ∀f∈[f0],f.ok w2/\0<=f.n/\f.n<=4294967295:=by
  intro f hf;simp only[qC,List.mem_nil_iff,or_false] at hf;subst hf;exact⟨g0,n0⟩
 have RZ:=FE w2 [f0] #[.int .i64 f0.kind,.int .u32 f0.n,.slice f0.tA f0.text.length f0.tc,.slice f0.lA f0.list.length f0.lc] rfl Z;exact hpost.out _ (some ⟨w2.heap.size,0,none⟩) 1 [f0] (O2.alloc _) RZ (by simp only[List.map_cons,List.map_nil,p0];rfl) (qL _) (by simp[maxLen])
theorem eX (m:MD) (w:World) (hk:m.kind=100) (ok:m.ok w) (hs:m.name.size<=140737488355328) (hl:m.lang.size<=140737488355328):Calls Tryz.prog 70 #[m.val] w (AE w m):=by
 have hpost: ∀(w':World) (A:Option Addr) (c:Nat) (fs:List FD),Only [] w w'->RdF w' A fs->fs.map FD.pf=[9].map (AP m)->fs.length<=c->c<=maxLen->AE w m (.returned (.tuple #[.slice A fs.length c,.bool true])) w':=fun w' A c fs h1 h2 h3 h4 h5=>by
  refine⟨h1,?_⟩;rw[show BX m.kind=some [9] by rw[hk];rfl];exact⟨A,c,fs,rfl,h2,h3,h4,h5⟩
 have ok0:=ok;obtain⟨w1,hw1⟩:=qY (w.alloc (.cells #[.int .i64 m.kind,.int .u32 m.chan,.int .u32 m.sender,.int .u32 m.window,.int .u32 m.packet,.int .u32 m.code,.string m.name,.string m.lang,.bool m.want,.slice m.dA m.data.length m.dc] 37));have O1:Only [] w w1:=by rw[hw1];exact(zR _ _).alloc _
 have K1:Blk w1 w.heap.size 37 m.cells:=by rw[hw1];exact Blk.new w _ _
 have hkv:=hk;replace hpost:=AB hpost;unfold MD.val;rw[hk] at hw1⊢;replace hk:=AB hk;go_enter Tryz.func70,Tryz.ntmps70
 go_wp2_with fail
 rw[<-hw1];replace hw1:=AB hw1;have C0:=AU w1 m.chan (ok0.nums.1);go_call C0 as e w2 ⟨P2,f0,rfl,p0,g0,n0⟩
 have O2:Only [] w w2:=O1.trans P2 (by simp);clear C0;unfold FD.val;go_wp2_with fail
 go_ret2
 have Z: ∀f∈[f0],f.ok w2/\0<=f.n/\f.n<=4294967295:=by
  intro f hf;simp only[qC,List.mem_nil_iff,or_false] at hf;subst hf;exact⟨g0,n0⟩
 have RZ:=FE w2 [f0] #[.int .i64 f0.kind,.int .u32 f0.n,.slice f0.tA f0.text.length f0.tc,.slice f0.lA f0.list.length f0.lc] rfl Z;exact hpost.out _ (some ⟨w2.heap.size,0,none⟩) 1 [f0] (O2.alloc _) RZ (by simp only[List.map_cons,List.map_nil,p0];rfl) (qL _) (by simp[maxLen])
theorem jJ (m:MD) (w:World) (hk:m.kind=90) (ok:m.ok w) (hs:m.name.size<=140737488355328) (hl:m.lang.size<=140737488355328):Calls Tryz.prog 70 #[m.val] w (AE w m):=by
 have hpost: ∀(w':World) (A:Option Addr) (c:Nat) (fs:List FD),Only [] w w'->RdF w' A fs->fs.map FD.pf=[3,6,7,8,5].map (AP m)->fs.length<=c->c<=maxLen->AE w m (.returned (.tuple #[.slice A fs.length c,.bool true])) w':=fun w' A c fs h1 h2 h3 h4 h5=>by
  refine⟨h1,?_⟩;rw[show BX m.kind=some [3,6,7,8,5] by rw[hk];rfl];exact⟨A,c,fs,rfl,h2,h3,h4,h5⟩
 have ok0:=ok;obtain⟨w1,hw1⟩:=qY (w.alloc (.cells #[.int .i64 m.kind,.int .u32 m.chan,.int .u32 m.sender,.int .u32 m.window,.int .u32 m.packet,.int .u32 m.code,.string m.name,.string m.lang,.bool m.want,.slice m.dA m.data.length m.dc] 37));have O1:Only [] w w1:=by rw[hw1];exact(zR _ _).alloc _
 have K1:Blk w1 w.heap.size 37 m.cells:=by rw[hw1];exact Blk.new w _ _
 have hkv:=hk;replace hpost:=AB hpost;unfold MD.val;rw[hk] at hw1⊢;replace hk:=AB hk;go_enter Tryz.func70,Tryz.ntmps70
 go_wp2_with fail
 rw[<-hw1];replace hw1:=AB hw1;have hI1:(fun w':World=>Blk w' w.heap.size 37 m.cells) { w1 with drawn:=w1.drawn+1 }:=K1;refine AL (fun w':World=>Blk w' w.heap.size 37 m.cells) [] (by kernel_rfl) ?_;refine qP 0 w.heap.size 6 rfl hI1 ?_;refine wpAnyE_tk 1 (v:=(.string m.name)) rfl hI1 (fun w' hw'=>by have y:w'.cell? ⟨w.heap.size,6,none⟩=some (.string m.name):=Blk.cell hw' 6;go_simp) ?_;refine qP 3 w.heap.size 2 rfl hI1 ?_;refine wpAnyE_tk 4 (v:=(.int .u32 m.sender)) rfl hI1 (fun w' hw'=>by have y:w'.cell? ⟨w.heap.size,2,none⟩=some (.int .u32 m.sender):=Blk.cell hw' 2;go_simp) ?_;refine qP 6 w.heap.size 3 rfl hI1 ?_;refine wpAnyE_tk 7 (v:=(.int .u32 m.window)) rfl hI1 (fun w' hw'=>by have y:w'.cell? ⟨w.heap.size,3,none⟩=some (.int .u32 m.window):=Blk.cell hw' 3;go_simp) ?_;refine qP 9 w.heap.size 4 rfl hI1 ?_;refine wpAnyE_tk 10 (v:=(.int .u32 m.packet)) rfl hI1 (fun w' hw'=>by have y:w'.cell? ⟨w.heap.size,4,none⟩=some (.int .u32 m.packet):=Blk.cell hw' 4;go_simp) ?_;refine qP 12 w.heap.size 9 rfl hI1 ?_;refine wpAnyE_tk 13 (v:=(.slice m.dA m.data.length m.dc)) rfl hI1 (fun w' hw'=>by have y:w'.cell? ⟨w.heap.size,9,none⟩=some (.slice m.dA m.data.length m.dc):=Blk.cell hw' 9;go_simp) ?_;refine AC 2 rfl (by kernel_rfl) hI1 (fun K hK=>?_);rw[if_pos (by kernel_rfl)];go_simp
 have C0:=KK w1.drew m.name hs;go_call C0 as e w2 ⟨P2,f0,rfl,p0,g0,n0⟩
 have O2:Only [] w w2:=O1.drew.trans P2 (by simp);have hI2:(fun w':World=>Blk w' w.heap.size 37 m.cells) w2:=Blk.only K1.drew P2 (by simp);refine hK _ _ ?_;clear hK K C0;refine AC 5 rfl (by kernel_rfl) hI2 (fun K hK=>?_);rw[if_pos (by kernel_rfl)];go_simp
 have C1:=AU w2 m.sender (ok0.nums.2.1);go_call C1 as e w3 ⟨P3,f1,rfl,p1,g1,n1⟩
 have O3:Only [] w w3:=O2.trans P3 (by simp);have hI3:(fun w':World=>Blk w' w.heap.size 37 m.cells) w3:=Blk.only hI2 P3 (by simp);refine hK _ _ ?_;clear hK K C1;refine AC 8 rfl (by kernel_rfl) hI3 (fun K hK=>?_);rw[if_pos (by kernel_rfl)];go_simp
 have C2:=AU w3 m.window (ok0.nums.2.2.1);go_call C2 as e w4 ⟨P4,f2,rfl,p2,g2,n2⟩
 have O4:Only [] w w4:=O3.trans P4 (by simp);have hI4:(fun w':World=>Blk w' w.heap.size 37 m.cells) w4:=Blk.only hI3 P4 (by simp);refine hK _ _ ?_;clear hK K C2;refine AC 11 rfl (by kernel_rfl) hI4 (fun K hK=>?_);rw[if_pos (by kernel_rfl)];go_simp
 have C3:=AU w4 m.packet (ok0.nums.2.2.2.1);go_call C3 as e w5 ⟨P5,f3,rfl,p3,g3,n3⟩
 have O5:Only [] w w5:=O4.trans P5 (by simp);have hI5:(fun w':World=>Blk w' w.heap.size 37 m.cells) w5:=Blk.only hI4 P5 (by simp);refine hK _ _ ?_;clear hK K C3;refine AC 14 rfl (by kernel_rfl) hI5 (fun K hK=>?_);rw[if_pos (by kernel_rfl)];go_simp
 have C4:=KI w5 m.dA m.data m.dc (ok.only O5).data ok0.dle ok0.dmax;go_call C4 as e w6 ⟨P6,f4,rfl,p4,g4,n4⟩
 have O6:Only [] w w6:=O5.trans P6 (by simp);have hI6:(fun w':World=>Blk w' w.heap.size 37 m.cells) w6:=Blk.only hI5 P6 (by simp);refine hK _ _ ?_;clear hK K C4;unfold FD.val;refine AC 15 rfl (by kernel_rfl) hI6 (fun K hK=>?_);rw[if_pos (by kernel_rfl)];go_simp
 refine hK _ _ ?_;clear hK K;have hIZ:(fun w':World=>Blk w' w.heap.size 37 m.cells) (w6.alloc (.cells #[.int .i64 f0.kind,.int .u32 f0.n,.slice f0.tA f0.text.length f0.tc,.slice f0.lA f0.list.length f0.lc,.int .i64 f1.kind,.int .u32 f1.n,.slice f1.tA f1.text.length f1.tc,.slice f1.lA f1.list.length f1.lc,.int .i64 f2.kind,.int .u32 f2.n,.slice f2.tA f2.text.length f2.tc,.slice f2.lA f2.list.length f2.lc,.int .i64 f3.kind,.int .u32 f3.n,.slice f3.tA f3.text.length f3.tc,.slice f3.lA f3.list.length f3.lc,.int .i64 f4.kind,.int .u32 f4.n,.slice f4.tA f4.text.length f4.tc,.slice f4.lA f4.list.length f4.lc] 153)):=Blk.alloc hI6 _;refine wpAnyE_tg 16 (v:=(.slice (some ⟨w6.heap.size,0,none⟩) 5 5)) rfl hIZ ?_;refine wpAnyE_tg 17 (v:=(.bool true)) rfl hIZ ?_;refine AT (by kernel_rfl) hIZ ?_;simp only[Exit.then];go_wp2_with fail
 go_ret2
 have Z: ∀f∈[f0,f1,f2,f3,f4],f.ok w6/\0<=f.n/\f.n<=4294967295:=by
  intro f hf;simp only[qC,List.mem_nil_iff,or_false] at hf;rcases hf with rfl|rfl|rfl|rfl|rfl;·exact⟨((((g0.only P3).only P4).only P5).only P6),n0⟩
  ·exact⟨(((g1.only P4).only P5).only P6),n1⟩
  ·exact⟨((g2.only P5).only P6),n2⟩
  ·exact⟨(g3.only P6),n3⟩
  ·exact⟨g4,n4⟩
 have RZ:=FE w6 [f0,f1,f2,f3,f4] #[.int .i64 f0.kind,.int .u32 f0.n,.slice f0.tA f0.text.length f0.tc,.slice f0.lA f0.list.length f0.lc,.int .i64 f1.kind,.int .u32 f1.n,.slice f1.tA f1.text.length f1.tc,.slice f1.lA f1.list.length f1.lc,.int .i64 f2.kind,.int .u32 f2.n,.slice f2.tA f2.text.length f2.tc,.slice f2.lA f2.list.length f2.lc,.int .i64 f3.kind,.int .u32 f3.n,.slice f3.tA f3.text.length f3.tc,.slice f3.lA f3.list.length f3.lc,.int .i64 f4.kind,.int .u32 f4.n,.slice f4.tA f4.text.length f4.tc,.slice f4.lA f4.list.length f4.lc] rfl Z;exact hpost.out _ (some ⟨w6.heap.size,0,none⟩) 5 [f0,f1,f2,f3,f4] (O6.alloc _) RZ (by simp only[List.map_cons,List.map_nil,p0,p1,p2,p3,p4];rfl) (qL _) (by simp[maxLen])
theorem jK (m:MD) (w:World) (hk:m.kind=91) (ok:m.ok w) (hs:m.name.size<=140737488355328) (hl:m.lang.size<=140737488355328):Calls Tryz.prog 70 #[m.val] w (AE w m):=by
 have hpost: ∀(w':World) (A:Option Addr) (c:Nat) (fs:List FD),Only [] w w'->RdF w' A fs->fs.map FD.pf=[9,6,7,8,5].map (AP m)->fs.length<=c->c<=maxLen->AE w m (.returned (.tuple #[.slice A fs.length c,.bool true])) w':=fun w' A c fs h1 h2 h3 h4 h5=>by
  refine⟨h1,?_⟩;rw[show BX m.kind=some [9,6,7,8,5] by rw[hk];rfl];exact⟨A,c,fs,rfl,h2,h3,h4,h5⟩
 have ok0:=ok;obtain⟨w1,hw1⟩:=qY (w.alloc (.cells #[.int .i64 m.kind,.int .u32 m.chan,.int .u32 m.sender,.int .u32 m.window,.int .u32 m.packet,.int .u32 m.code,.string m.name,.string m.lang,.bool m.want,.slice m.dA m.data.length m.dc] 37));have O1:Only [] w w1:=by rw[hw1];exact(zR _ _).alloc _
 have K1:Blk w1 w.heap.size 37 m.cells:=by rw[hw1];exact Blk.new w _ _
 have hkv:=hk;replace hpost:=AB hpost;unfold MD.val;rw[hk] at hw1⊢;replace hk:=AB hk;go_enter Tryz.func70,Tryz.ntmps70
 go_wp2_with fail
 rw[<-hw1];replace hw1:=AB hw1;have hI1:(fun w':World=>Blk w' w.heap.size 37 m.cells) { w1 with drawn:=w1.drawn+1 }:=K1;refine AL (fun w':World=>Blk w' w.heap.size 37 m.cells) [] (by kernel_rfl) ?_;refine qP 0 w.heap.size 1 rfl hI1 ?_;refine wpAnyE_tk 1 (v:=(.int .u32 m.chan)) rfl hI1 (fun w' hw'=>by have y:w'.cell? ⟨w.heap.size,1,none⟩=some (.int .u32 m.chan):=Blk.cell hw' 1;go_simp) ?_;refine qP 3 w.heap.size 2 rfl hI1 ?_;refine wpAnyE_tk 4 (v:=(.int .u32 m.sender)) rfl hI1 (fun w' hw'=>by have y:w'.cell? ⟨w.heap.size,2,none⟩=some (.int .u32 m.sender):=Blk.cell hw' 2;go_simp) ?_;refine qP 6 w.heap.size 3 rfl hI1 ?_;refine wpAnyE_tk 7 (v:=(.int .u32 m.window)) rfl hI1 (fun w' hw'=>by have y:w'.cell? ⟨w.heap.size,3,none⟩=some (.int .u32 m.window):=Blk.cell hw' 3;go_simp) ?_;refine qP 9 w.heap.size 4 rfl hI1 ?_;refine wpAnyE_tk 10 (v:=(.int .u32 m.packet)) rfl hI1 (fun w' hw'=>by have y:w'.cell? ⟨w.heap.size,4,none⟩=some (.int .u32 m.packet):=Blk.cell hw' 4;go_simp) ?_;refine qP 12 w.heap.size 9 rfl hI1 ?_;refine wpAnyE_tk 13 (v:=(.slice m.dA m.data.length m.dc)) rfl hI1 (fun w' hw'=>by have y:w'.cell? ⟨w.heap.size,9,none⟩=some (.slice m.dA m.data.length m.dc):=Blk.cell hw' 9;go_simp) ?_;refine AC 2 rfl (by kernel_rfl) hI1 (fun K hK=>?_);rw[if_pos (by kernel_rfl)];go_simp
 have C0:=AU w1.drew m.chan (ok0.nums.1);go_call C0 as e w2 ⟨P2,f0,rfl,p0,g0,n0⟩
 have O2:Only [] w w2:=O1.drew.trans P2 (by simp);have hI2:(fun w':World=>Blk w' w.heap.size 37 m.cells) w2:=Blk.only K1.drew P2 (by simp);refine hK _ _ ?_;clear hK K C0;refine AC 5 rfl (by kernel_rfl) hI2 (fun K hK=>?_);rw[if_pos (by kernel_rfl)];go_simp
 have C1:=AU w2 m.sender (ok0.nums.2.1);go_call C1 as e w3 ⟨P3,f1,rfl,p1,g1,n1⟩
 have O3:Only [] w w3:=O2.trans P3 (by simp);have hI3:(fun w':World=>Blk w' w.heap.size 37 m.cells) w3:=Blk.only hI2 P3 (by simp);refine hK _ _ ?_;clear hK K C1;refine AC 8 rfl (by kernel_rfl) hI3 (fun K hK=>?_);rw[if_pos (by kernel_rfl)];go_simp
 have C2:=AU w3 m.window (ok0.nums.2.2.1);go_call C2 as e w4 ⟨P4,f2,rfl,p2,g2,n2⟩
 have O4:Only [] w w4:=O3.trans P4 (by simp);have hI4:(fun w':World=>Blk w' w.heap.size 37 m.cells) w4:=Blk.only hI3 P4 (by simp);refine hK _ _ ?_;clear hK K C2;refine AC 11 rfl (by kernel_rfl) hI4 (fun K hK=>?_);rw[if_pos (by kernel_rfl)];go_simp
 have C3:=AU w4 m.packet (ok0.nums.2.2.2.1);go_call C3 as e w5 ⟨P5,f3,rfl,p3,g3,n3⟩
 have O5:Only [] w w5:=O4.trans P5 (by simp);have hI5:(fun w':World=>Blk w' w.heap.size 37 m.cells) w5:=Blk.only hI4 P5 (by simp);refine hK _ _ ?_;clear hK K C3;refine AC 14 rfl (by kernel_rfl) hI5 (fun K hK=>?_);rw[if_pos (by kernel_rfl)];go_simp
 have C4:=KI w5 m.dA m.data m.dc (ok.only O5).data ok0.dle ok0.dmax;go_call C4 as e w6 ⟨P6,f4,rfl,p4,g4,n4⟩
 have O6:Only [] w w6:=O5.trans P6 (by simp);have hI6:(fun w':World=>Blk w' w.heap.size 37 m.cells) w6:=Blk.only hI5 P6 (by simp);refine hK _ _ ?_;clear hK K C4;unfold FD.val;refine AC 15 rfl (by kernel_rfl) hI6 (fun K hK=>?_);rw[if_pos (by kernel_rfl)];go_simp
 refine hK _ _ ?_;clear hK K;have hIZ:(fun w':World=>Blk w' w.heap.size 37 m.cells) (w6.alloc (.cells #[.int .i64 f0.kind,.int .u32 f0.n,.slice f0.tA f0.text.length f0.tc,.slice f0.lA f0.list.length f0.lc,.int .i64 f1.kind,.int .u32 f1.n,.slice f1.tA f1.text.length f1.tc,.slice f1.lA f1.list.length f1.lc,.int .i64 f2.kind,.int .u32 f2.n,.slice f2.tA f2.text.length f2.tc,.slice f2.lA f2.list.length f2.lc,.int .i64 f3.kind,.int .u32 f3.n,.slice f3.tA f3.text.length f3.tc,.slice f3.lA f3.list.length f3.lc,.int .i64 f4.kind,.int .u32 f4.n,.slice f4.tA f4.text.length f4.tc,.slice f4.lA f4.list.length f4.lc] 153)):=Blk.alloc hI6 _;refine wpAnyE_tg 16 (v:=(.slice (some ⟨w6.heap.size,0,none⟩) 5 5)) rfl hIZ ?_;refine wpAnyE_tg 17 (v:=(.bool true)) rfl hIZ ?_;refine AT (by kernel_rfl) hIZ ?_;simp only[Exit.then];go_wp2_with fail
 go_ret2
 have Z: ∀f∈[f0,f1,f2,f3,f4],f.ok w6/\0<=f.n/\f.n<=4294967295:=by
  intro f hf;simp only[qC,List.mem_nil_iff,or_false] at hf;rcases hf with rfl|rfl|rfl|rfl|rfl;·exact⟨((((g0.only P3).only P4).only P5).only P6),n0⟩
  ·exact⟨(((g1.only P4).only P5).only P6),n1⟩
  ·exact⟨((g2.only P5).only P6),n2⟩
  ·exact⟨(g3.only P6),n3⟩
  ·exact⟨g4,n4⟩
 have RZ:=FE w6 [f0,f1,f2,f3,f4] #[.int .i64 f0.kind,.int .u32 f0.n,.slice f0.tA f0.text.length f0.tc,.slice f0.lA f0.list.length f0.lc,.int .i64 f1.kind,.int .u32 f1.n,.slice f1.tA f1.text.length f1.tc,.slice f1.lA f1.list.length f1.lc,.int .i64 f2.kind,.int .u32 f2.n,.slice f2.tA f2.text.length f2.tc,.slice f2.lA f2.list.length f2.lc,.int .i64 f3.kind,.int .u32 f3.n,.slice f3.tA f3.text.length f3.tc,.slice f3.lA f3.list.length f3.lc,.int .i64 f4.kind,.int .u32 f4.n,.slice f4.tA f4.text.length f4.tc,.slice f4.lA f4.list.length f4.lc] rfl Z;exact hpost.out _ (some ⟨w6.heap.size,0,none⟩) 5 [f0,f1,f2,f3,f4] (O6.alloc _) RZ (by simp only[List.map_cons,List.map_nil,p0,p1,p2,p3,p4];rfl) (qL _) (by simp[maxLen])
theorem jL (m:MD) (w:World) (hk:m.kind=92) (ok:m.ok w) (hs:m.name.size<=140737488355328) (hl:m.lang.size<=140737488355328):Calls Tryz.prog 70 #[m.val] w (AE w m):=by
 have hpost: ∀(w':World) (A:Option Addr) (c:Nat) (fs:List FD),Only [] w w'->RdF w' A fs->fs.map FD.pf=[9,0,1,2].map (AP m)->fs.length<=c->c<=maxLen->AE w m (.returned (.tuple #[.slice A fs.length c,.bool true])) w':=fun w' A c fs h1 h2 h3 h4 h5=>by
  refine⟨h1,?_⟩;rw[show BX m.kind=some [9,0,1,2] by rw[hk];rfl];exact⟨A,c,fs,rfl,h2,h3,h4,h5⟩
 have ok0:=ok;obtain⟨w1,hw1⟩:=qY (w.alloc (.cells #[.int .i64 m.kind,.int .u32 m.chan,.int .u32 m.sender,.int .u32 m.window,.int .u32 m.packet,.int .u32 m.code,.string m.name,.string m.lang,.bool m.want,.slice m.dA m.data.length m.dc] 37));have O1:Only [] w w1:=by rw[hw1];exact(zR _ _).alloc _
 have K1:Blk w1 w.heap.size 37 m.cells:=by rw[hw1];exact Blk.new w _ _
 have hkv:=hk;replace hpost:=AB hpost;unfold MD.val;rw[hk] at hw1⊢;replace hk:=AB hk;go_enter Tryz.func70,Tryz.ntmps70
 go_wp2_with fail
 rw[<-hw1];replace hw1:=AB hw1;have hI1:(fun w':World=>Blk w' w.heap.size 37 m.cells) { w1 with drawn:=w1.drawn+1 }:=K1;refine AL (fun w':World=>Blk w' w.heap.size 37 m.cells) [] (by kernel_rfl) ?_;refine qP 0 w.heap.size 1 rfl hI1 ?_;refine wpAnyE_tk 1 (v:=(.int .u32 m.chan)) rfl hI1 (fun w' hw'=>by have y:w'.cell? ⟨w.heap.size,1,none⟩=some (.int .u32 m.chan):=Blk.cell hw' 1;go_simp) ?_;refine qP 3 w.heap.size 5 rfl hI1 ?_;refine wpAnyE_tk 4 (v:=(.int .u32 m.code)) rfl hI1 (fun w' hw'=>by have y:w'.cell? ⟨w.heap.size,5,none⟩=some (.int .u32 m.code):=Blk.cell hw' 5;go_simp) ?_;refine qP 6 w.heap.size 9 rfl hI1 ?_;refine wpAnyE_tk 7 (v:=(.slice m.dA m.data.length m.dc)) rfl hI1 (fun w' hw'=>by have y:w'.cell? ⟨w.heap.size,9,none⟩=some (.slice m.dA m.data.length m.dc):=Blk.cell hw' 9;go_simp) ?_;refine qP 9 w.heap.size 7 rfl hI1 ?_;refine wpAnyE_tk 10 (v:=(.string m.lang)) rfl hI1 (fun w' hw'=>by have y:w'.cell? ⟨w.heap.size,7,none⟩=some (.string m.lang):=Blk.cell hw' 7;go_simp) ?_;refine AC 2 rfl (by kernel_rfl) hI1 (fun K hK=>?_);rw[if_pos (by kernel_rfl)];go_simp
 have C0:=AU w1.drew m.chan (ok0.nums.1);go_call C0 as e w2 ⟨P2,f0,rfl,p0,g0,n0⟩
 have O2:Only [] w w2:=O1.drew.trans P2 (by simp);have hI2:(fun w':World=>Blk w' w.heap.size 37 m.cells) w2:=Blk.only K1.drew P2 (by simp);refine hK _ _ ?_;clear hK K C0;refine AC 5 rfl (by kernel_rfl) hI2 (fun K hK=>?_);rw[if_pos (by kernel_rfl)];go_simp
 have C1:=AU w2 m.code (ok0.nums.2.2.2.2);go_call C1 as e w3 ⟨P3,f1,rfl,p1,g1,n1⟩
 have O3:Only [] w w3:=O2.trans P3 (by simp);have hI3:(fun w':World=>Blk w' w.heap.size 37 m.cells) w3:=Blk.only hI2 P3 (by simp);refine hK _ _ ?_;clear hK K C1;refine AC 8 rfl (by kernel_rfl) hI3 (fun K hK=>?_);rw[if_pos (by kernel_rfl)];go_simp
 have C2:=LG w3 m.dA m.data m.dc (ok.only O3).data ok0.dle ok0.dmax;go_call C2 as e w4 ⟨P4,f2,rfl,p2,g2,n2⟩
 have O4:Only [] w w4:=O3.trans P4 (by simp);have hI4:(fun w':World=>Blk w' w.heap.size 37 m.cells) w4:=Blk.only hI3 P4 (by simp);refine hK _ _ ?_;clear hK K C2;refine AC 11 rfl (by kernel_rfl) hI4 (fun K hK=>?_);rw[if_pos (by kernel_rfl)];go_simp
 have C3:=KK w4 m.lang hl;go_call C3 as e w5 ⟨P5,f3,rfl,p3,g3,n3⟩
 have O5:Only [] w w5:=O4.trans P5 (by simp);have hI5:(fun w':World=>Blk w' w.heap.size 37 m.cells) w5:=Blk.only hI4 P5 (by simp);refine hK _ _ ?_;clear hK K C3;unfold FD.val;refine AC 12 rfl (by kernel_rfl) hI5 (fun K hK=>?_);rw[if_pos (by kernel_rfl)];go_simp
 refine hK _ _ ?_;clear hK K;have hIZ:(fun w':World=>Blk w' w.heap.size 37 m.cells) (w5.alloc (.cells #[.int .i64 f0.kind,.int .u32 f0.n,.slice f0.tA f0.text.length f0.tc,.slice f0.lA f0.list.length f0.lc,.int .i64 f1.kind,.int .u32 f1.n,.slice f1.tA f1.text.length f1.tc,.slice f1.lA f1.list.length f1.lc,.int .i64 f2.kind,.int .u32 f2.n,.slice f2.tA f2.text.length f2.tc,.slice f2.lA f2.list.length f2.lc,.int .i64 f3.kind,.int .u32 f3.n,.slice f3.tA f3.text.length f3.tc,.slice f3.lA f3.list.length f3.lc] 153)):=Blk.alloc hI5 _;refine wpAnyE_tg 13 (v:=(.slice (some ⟨w5.heap.size,0,none⟩) 4 4)) rfl hIZ ?_;refine wpAnyE_tg 14 (v:=(.bool true)) rfl hIZ ?_;refine AT (by kernel_rfl) hIZ ?_;simp only[Exit.then];go_wp2_with fail
 go_ret2
 have Z: ∀f∈[f0,f1,f2,f3],f.ok w5/\0<=f.n/\f.n<=4294967295:=by
  intro f hf;simp only[qC,List.mem_nil_iff,or_false] at hf;rcases hf with rfl|rfl|rfl|rfl;·exact⟨(((g0.only P3).only P4).only P5),n0⟩
  ·exact⟨((g1.only P4).only P5),n1⟩
  ·exact⟨(g2.only P5),n2⟩
  ·exact⟨g3,n3⟩
 have RZ:=FE w5 [f0,f1,f2,f3] #[.int .i64 f0.kind,.int .u32 f0.n,.slice f0.tA f0.text.length f0.tc,.slice f0.lA f0.list.length f0.lc,.int .i64 f1.kind,.int .u32 f1.n,.slice f1.tA f1.text.length f1.tc,.slice f1.lA f1.list.length f1.lc,.int .i64 f2.kind,.int .u32 f2.n,.slice f2.tA f2.text.length f2.tc,.slice f2.lA f2.list.length f2.lc,.int .i64 f3.kind,.int .u32 f3.n,.slice f3.tA f3.text.length f3.tc,.slice f3.lA f3.list.length f3.lc] rfl Z;exact hpost.out _ (some ⟨w5.heap.size,0,none⟩) 4 [f0,f1,f2,f3] (O5.alloc _) RZ (by simp only[List.map_cons,List.map_nil,p0,p1,p2,p3];rfl) (qL _) (by simp[maxLen])
theorem jM (m:MD) (w:World) (hk:m.kind=93) (ok:m.ok w) (hs:m.name.size<=140737488355328) (hl:m.lang.size<=140737488355328):Calls Tryz.prog 70 #[m.val] w (AE w m):=by
 have hpost: ∀(w':World) (A:Option Addr) (c:Nat) (fs:List FD),Only [] w w'->RdF w' A fs->fs.map FD.pf=[9,7].map (AP m)->fs.length<=c->c<=maxLen->AE w m (.returned (.tuple #[.slice A fs.length c,.bool true])) w':=fun w' A c fs h1 h2 h3 h4 h5=>by
  refine⟨h1,?_⟩;rw[show BX m.kind=some [9,7] by rw[hk];rfl];exact⟨A,c,fs,rfl,h2,h3,h4,h5⟩
 have ok0:=ok;obtain⟨w1,hw1⟩:=qY (w.alloc (.cells #[.int .i64 m.kind,.int .u32 m.chan,.int .u32 m.sender,.int .u32 m.window,.int .u32 m.packet,.int .u32 m.code,.string m.name,.string m.lang,.bool m.want,.slice m.dA m.data.length m.dc] 37));have O1:Only [] w w1:=by rw[hw1];exact(zR _ _).alloc _
 have K1:Blk w1 w.heap.size 37 m.cells:=by rw[hw1];exact Blk.new w _ _
 have hkv:=hk;replace hpost:=AB hpost;unfold MD.val;rw[hk] at hw1⊢;replace hk:=AB hk;go_enter Tryz.func70,Tryz.ntmps70
 go_wp2_with fail
 rw[<-hw1];replace hw1:=AB hw1;have hI1:(fun w':World=>Blk w' w.heap.size 37 m.cells) { w1 with drawn:=w1.drawn+1 }:=K1;refine AL (fun w':World=>Blk w' w.heap.size 37 m.cells) [] (by kernel_rfl) ?_;refine qP 0 w.heap.size 1 rfl hI1 ?_;refine wpAnyE_tk 1 (v:=(.int .u32 m.chan)) rfl hI1 (fun w' hw'=>by have y:w'.cell? ⟨w.heap.size,1,none⟩=some (.int .u32 m.chan):=Blk.cell hw' 1;go_simp) ?_;refine qP 3 w.heap.size 3 rfl hI1 ?_;refine wpAnyE_tk 4 (v:=(.int .u32 m.window)) rfl hI1 (fun w' hw'=>by have y:w'.cell? ⟨w.heap.size,3,none⟩=some (.int .u32 m.window):=Blk.cell hw' 3;go_simp) ?_;refine AC 2 rfl (by kernel_rfl) hI1 (fun K hK=>?_);rw[if_pos (by kernel_rfl)];go_simp
 have C0:=AU w1.drew m.chan (ok0.nums.1);go_call C0 as e w2 ⟨P2,f0,rfl,p0,g0,n0⟩
 have O2:Only [] w w2:=O1.drew.trans P2 (by simp);have hI2:(fun w':World=>Blk w' w.heap.size 37 m.cells) w2:=Blk.only K1.drew P2 (by simp);refine hK _ _ ?_;clear hK K C0;refine AC 5 rfl (by kernel_rfl) hI2 (fun K hK=>?_);rw[if_pos (by kernel_rfl)];go_simp
 have C1:=AU w2 m.window (ok0.nums.2.2.1);go_call C1 as e w3 ⟨P3,f1,rfl,p1,g1,n1⟩
 have O3:Only [] w w3:=O2.trans P3 (by simp);have hI3:(fun w':World=>Blk w' w.heap.size 37 m.cells) w3:=Blk.only hI2 P3 (by simp);refine hK _ _ ?_;clear hK K C1;unfold FD.val;refine AC 6 rfl (by kernel_rfl) hI3 (fun K hK=>?_);rw[if_pos (by kernel_rfl)];go_simp
 refine hK _ _ ?_;clear hK K;have hIZ:(fun w':World=>Blk w' w.heap.size 37 m.cells) (w3.alloc (.cells #[.int .i64 f0.kind,.int .u32 f0.n,.slice f0.tA f0.text.length f0.tc,.slice f0.lA f0.list.length f0.lc,.int .i64 f1.kind,.int .u32 f1.n,.slice f1.tA f1.text.length f1.tc,.slice f1.lA f1.list.length f1.lc] 153)):=Blk.alloc hI3 _;refine wpAnyE_tg 7 (v:=(.slice (some ⟨w3.heap.size,0,none⟩) 2 2)) rfl hIZ ?_;refine wpAnyE_tg 8 (v:=(.bool true)) rfl hIZ ?_;refine AT (by kernel_rfl) hIZ ?_;simp only[Exit.then];go_wp2_with fail
 go_ret2
 have Z: ∀f∈[f0,f1],f.ok w3/\0<=f.n/\f.n<=4294967295:=by
  intro f hf;simp only[qC,List.mem_nil_iff,or_false] at hf;rcases hf with rfl|rfl;·exact⟨(g0.only P3),n0⟩
  ·exact⟨g1,n1⟩
 have RZ:=FE w3 [f0,f1] #[.int .i64 f0.kind,.int .u32 f0.n,.slice f0.tA f0.text.length f0.tc,.slice f0.lA f0.list.length f0.lc,.int .i64 f1.kind,.int .u32 f1.n,.slice f1.tA f1.text.length f1.tc,.slice f1.lA f1.list.length f1.lc] rfl Z;exact hpost.out _ (some ⟨w3.heap.size,0,none⟩) 2 [f0,f1] (O3.alloc _) RZ (by simp only[List.map_cons,List.map_nil,p0,p1];rfl) (qL _) (by simp[maxLen])
theorem jN (m:MD) (w:World) (hk:m.kind=94) (ok:m.ok w) (hs:m.name.size<=140737488355328) (hl:m.lang.size<=140737488355328):Calls Tryz.prog 70 #[m.val] w (AE w m):=by
 have hpost: ∀(w':World) (A:Option Addr) (c:Nat) (fs:List FD),Only [] w w'->RdF w' A fs->fs.map FD.pf=[9,1].map (AP m)->fs.length<=c->c<=maxLen->AE w m (.returned (.tuple #[.slice A fs.length c,.bool true])) w':=fun w' A c fs h1 h2 h3 h4 h5=>by
  refine⟨h1,?_⟩;rw[show BX m.kind=some [9,1] by rw[hk];rfl];exact⟨A,c,fs,rfl,h2,h3,h4,h5⟩
 have ok0:=ok;obtain⟨w1,hw1⟩:=qY (w.alloc (.cells #[.int .i64 m.kind,.int .u32 m.chan,.int .u32 m.sender,.int .u32 m.window,.int .u32 m.packet,.int .u32 m.code,.string m.name,.string m.lang,.bool m.want,.slice m.dA m.data.length m.dc] 37));have O1:Only [] w w1:=by rw[hw1];exact(zR _ _).alloc _
 have K1:Blk w1 w.heap.size 37 m.cells:=by rw[hw1];exact Blk.new w _ _
 have hkv:=hk;replace hpost:=AB hpost;unfold MD.val;rw[hk] at hw1⊢;replace hk:=AB hk;go_enter Tryz.func70,Tryz.ntmps70
 go_wp2_with fail
 rw[<-hw1];replace hw1:=AB hw1;have hI1:(fun w':World=>Blk w' w.heap.size 37 m.cells) { w1 with drawn:=w1.drawn+1 }:=K1;refine AL (fun w':World=>Blk w' w.heap.size 37 m.cells) [] (by kernel_rfl) ?_;refine qP 0 w.heap.size 1 rfl hI1 ?_;refine wpAnyE_tk 1 (v:=(.int .u32 m.chan)) rfl hI1 (fun w' hw'=>by have y:w'.cell? ⟨w.heap.size,1,none⟩=some (.int .u32 m.chan):=Blk.cell hw' 1;go_simp) ?_;refine qP 3 w.heap.size 9 rfl hI1 ?_;refine wpAnyE_tk 4 (v:=(.slice m.dA m.data.length m.dc)) rfl hI1 (fun w' hw'=>by have y:w'.cell? ⟨w.heap.size,9,none⟩=some (.slice m.dA m.data.length m.dc):=Blk.cell hw' 9;go_simp) ?_;refine AC 2 rfl (by kernel_rfl) hI1 (fun K hK=>?_);rw[if_pos (by kernel_rfl)];go_simp
 have C0:=AU w1.drew m.chan (ok0.nums.1);go_call C0 as e w2 ⟨P2,f0,rfl,p0,g0,n0⟩
 have O2:Only [] w w2:=O1.drew.trans P2 (by simp);have hI2:(fun w':World=>Blk w' w.heap.size 37 m.cells) w2:=Blk.only K1.drew P2 (by simp);refine hK _ _ ?_;clear hK K C0;refine AC 5 rfl (by kernel_rfl) hI2 (fun K hK=>?_);rw[if_pos (by kernel_rfl)];go_simp
 have C1:=LG w2 m.dA m.data m.dc (ok.only O2).data ok0.dle ok0.dmax;go_call C1 as e w3 ⟨P3,f1,rfl,p1,g1,n1⟩
 have O3:Only [] w w3:=O2.trans P3 (by simp);have hI3:(fun w':World=>Blk w' w.heap.size 37 m.cells) w3:=Blk.only hI2 P3 (by simp);refine hK _ _ ?_;clear hK K C1;unfold FD.val;refine AC 6 rfl (by kernel_rfl) hI3 (fun K hK=>?_);rw[if_pos (by kernel_rfl)];go_simp
 refine hK _ _ ?_;clear hK K;have hIZ:(fun w':World=>Blk w' w.heap.size 37 m.cells) (w3.alloc (.cells #[.int .i64 f0.kind,.int .u32 f0.n,.slice f0.tA f0.text.length f0.tc,.slice f0.lA f0.list.length f0.lc,.int .i64 f1.kind,.int .u32 f1.n,.slice f1.tA f1.text.length f1.tc,.slice f1.lA f1.list.length f1.lc] 153)):=Blk.alloc hI3 _;refine wpAnyE_tg 7 (v:=(.slice (some ⟨w3.heap.size,0,none⟩) 2 2)) rfl hIZ ?_;refine wpAnyE_tg 8 (v:=(.bool true)) rfl hIZ ?_;refine AT (by kernel_rfl) hIZ ?_;simp only[Exit.then];go_wp2_with fail
 go_ret2
 have Z: ∀f∈[f0,f1],f.ok w3/\0<=f.n/\f.n<=4294967295:=by
  intro f hf;simp only[qC,List.mem_nil_iff,or_false] at hf;rcases hf with rfl|rfl;·exact⟨(g0.only P3),n0⟩
  ·exact⟨g1,n1⟩
 have RZ:=FE w3 [f0,f1] #[.int .i64 f0.kind,.int .u32 f0.n,.slice f0.tA f0.text.length f0.tc,.slice f0.lA f0.list.length f0.lc,.int .i64 f1.kind,.int .u32 f1.n,.slice f1.tA f1.text.length f1.tc,.slice f1.lA f1.list.length f1.lc] rfl Z;exact hpost.out _ (some ⟨w3.heap.size,0,none⟩) 2 [f0,f1] (O3.alloc _) RZ (by simp only[List.map_cons,List.map_nil,p0,p1];rfl) (qL _) (by simp[maxLen])
theorem jO (m:MD) (w:World) (hk:m.kind=95) (ok:m.ok w) (hs:m.name.size<=140737488355328) (hl:m.lang.size<=140737488355328):Calls Tryz.prog 70 #[m.val] w (AE w m):=by
 have hpost: ∀(w':World) (A:Option Addr) (c:Nat) (fs:List FD),Only [] w w'->RdF w' A fs->fs.map FD.pf=[9,0,1].map (AP m)->fs.length<=c->c<=maxLen->AE w m (.returned (.tuple #[.slice A fs.length c,.bool true])) w':=fun w' A c fs h1 h2 h3 h4 h5=>by
  refine⟨h1,?_⟩;rw[show BX m.kind=some [9,0,1] by rw[hk];rfl];exact⟨A,c,fs,rfl,h2,h3,h4,h5⟩
 have ok0:=ok;obtain⟨w1,hw1⟩:=qY (w.alloc (.cells #[.int .i64 m.kind,.int .u32 m.chan,.int .u32 m.sender,.int .u32 m.window,.int .u32 m.packet,.int .u32 m.code,.string m.name,.string m.lang,.bool m.want,.slice m.dA m.data.length m.dc] 37));have O1:Only [] w w1:=by rw[hw1];exact(zR _ _).alloc _
 have K1:Blk w1 w.heap.size 37 m.cells:=by rw[hw1];exact Blk.new w _ _
 have hkv:=hk;replace hpost:=AB hpost;unfold MD.val;rw[hk] at hw1⊢;replace hk:=AB hk;go_enter Tryz.func70,Tryz.ntmps70
 go_wp2_with fail
 rw[<-hw1];replace hw1:=AB hw1;have hI1:(fun w':World=>Blk w' w.heap.size 37 m.cells) { w1 with drawn:=w1.drawn+1 }:=K1;refine AL (fun w':World=>Blk w' w.heap.size 37 m.cells) [] (by kernel_rfl) ?_;refine qP 0 w.heap.size 1 rfl hI1 ?_;refine wpAnyE_tk 1 (v:=(.int .u32 m.chan)) rfl hI1 (fun w' hw'=>by have y:w'.cell? ⟨w.heap.size,1,none⟩=some (.int .u32 m.chan):=Blk.cell hw' 1;go_simp) ?_;refine qP 3 w.heap.size 5 rfl hI1 ?_;refine wpAnyE_tk 4 (v:=(.int .u32 m.code)) rfl hI1 (fun w' hw'=>by have y:w'.cell? ⟨w.heap.size,5,none⟩=some (.int .u32 m.code):=Blk.cell hw' 5;go_simp) ?_;refine qP 6 w.heap.size 9 rfl hI1 ?_;refine wpAnyE_tk 7 (v:=(.slice m.dA m.data.length m.dc)) rfl hI1 (fun w' hw'=>by have y:w'.cell? ⟨w.heap.size,9,none⟩=some (.slice m.dA m.data.length m.dc):=Blk.cell hw' 9;go_simp) ?_;refine AC 2 rfl (by kernel_rfl) hI1 (fun K hK=>?_);rw[if_pos (by kernel_rfl)];go_simp
 have C0:=AU w1.drew m.chan (ok0.nums.1);go_call C0 as e w2 ⟨P2,f0,rfl,p0,g0,n0⟩
 have O2:Only [] w w2:=O1.drew.trans P2 (by simp);have hI2:(fun w':World=>Blk w' w.heap.size 37 m.cells) w2:=Blk.only K1.drew P2 (by simp);refine hK _ _ ?_;clear hK K C0;refine AC 5 rfl (by kernel_rfl) hI2 (fun K hK=>?_);rw[if_pos (by kernel_rfl)];go_simp
 have C1:=AU w2 m.code (ok0.nums.2.2.2.2);go_call C1 as e w3 ⟨P3,f1,rfl,p1,g1,n1⟩
 have O3:Only [] w w3:=O2.trans P3 (by simp);have hI3:(fun w':World=>Blk w' w.heap.size 37 m.cells) w3:=Blk.only hI2 P3 (by simp);refine hK _ _ ?_;clear hK K C1;refine AC 8 rfl (by kernel_rfl) hI3 (fun K hK=>?_);rw[if_pos (by kernel_rfl)];go_simp
 have C2:=LG w3 m.dA m.data m.dc (ok.only O3).data ok0.dle ok0.dmax;go_call C2 as e w4 ⟨P4,f2,rfl,p2,g2,n2⟩
 have O4:Only [] w w4:=O3.trans P4 (by simp);have hI4:(fun w':World=>Blk w' w.heap.size 37 m.cells) w4:=Blk.only hI3 P4 (by simp);refine hK _ _ ?_;clear hK K C2;unfold FD.val;refine AC 9 rfl (by kernel_rfl) hI4 (fun K hK=>?_);rw[if_pos (by kernel_rfl)];go_simp
 refine hK _ _ ?_;clear hK K;have hIZ:(fun w':World=>Blk w' w.heap.size 37 m.cells) (w4.alloc (.cells #[.int .i64 f0.kind,.int .u32 f0.n,.slice f0.tA f0.text.length f0.tc,.slice f0.lA f0.list.length f0.lc,.int .i64 f1.kind,.int .u32 f1.n,.slice f1.tA f1.text.length f1.tc,.slice f1.lA f1.list.length f1.lc,.int .i64 f2.kind,.int .u32 f2.n,.slice f2.tA f2.text.length f2.tc,.slice f2.lA f2.list.length f2.lc] 153)):=Blk.alloc hI4 _;refine wpAnyE_tg 10 (v:=(.slice (some ⟨w4.heap.size,0,none⟩) 3 3)) rfl hIZ ?_;refine wpAnyE_tg 11 (v:=(.bool true)) rfl hIZ ?_;refine AT (by kernel_rfl) hIZ ?_;simp only[Exit.then];go_wp2_with fail
 go_ret2
 have Z: ∀f∈[f0,f1,f2],f.ok w4/\0<=f.n/\f.n<=4294967295:=by
  intro f hf;simp only[qC,List.mem_nil_iff,or_false] at hf;rcases hf with rfl|rfl|rfl;·exact⟨((g0.only P3).only P4),n0⟩
  ·exact⟨(g1.only P4),n1⟩
  ·exact⟨g2,n2⟩
 have RZ:=FE w4 [f0,f1,f2] #[.int .i64 f0.kind,.int .u32 f0.n,.slice f0.tA f0.text.length f0.tc,.slice f0.lA f0.list.length f0.lc,.int .i64 f1.kind,.int .u32 f1.n,.slice f1.tA f1.text.length f1.tc,.slice f1.lA f1.list.length f1.lc,.int .i64 f2.kind,.int .u32 f2.n,.slice f2.tA f2.text.length f2.tc,.slice f2.lA f2.list.length f2.lc] rfl Z;exact hpost.out _ (some ⟨w4.heap.size,0,none⟩) 3 [f0,f1,f2] (O4.alloc _) RZ (by simp only[List.map_cons,List.map_nil,p0,p1,p2];rfl) (qL _) (by simp[maxLen])
theorem jR (m:MD) (w:World) (hk:m.kind=98) (ok:m.ok w) (hs:m.name.size<=140737488355328) (hl:m.lang.size<=140737488355328):Calls Tryz.prog 70 #[m.val] w (AE w m):=by
 have hpost: ∀(w':World) (A:Option Addr) (c:Nat) (fs:List FD),Only [] w w'->RdF w' A fs->fs.map FD.pf=[9,3,4,5].map (AP m)->fs.length<=c->c<=maxLen->AE w m (.returned (.tuple #[.slice A fs.length c,.bool true])) w':=fun w' A c fs h1 h2 h3 h4 h5=>by
  refine⟨h1,?_⟩;rw[show BX m.kind=some [9,3,4,5] by rw[hk];rfl];exact⟨A,c,fs,rfl,h2,h3,h4,h5⟩
 have ok0:=ok;obtain⟨w1,hw1⟩:=qY (w.alloc (.cells #[.int .i64 m.kind,.int .u32 m.chan,.int .u32 m.sender,.int .u32 m.window,.int .u32 m.packet,.int .u32 m.code,.string m.name,.string m.lang,.bool m.want,.slice m.dA m.data.length m.dc] 37));have O1:Only [] w w1:=by rw[hw1];exact(zR _ _).alloc _
 have K1:Blk w1 w.heap.size 37 m.cells:=by rw[hw1];exact Blk.new w _ _
 have hkv:=hk;replace hpost:=AB hpost;unfold MD.val;rw[hk] at hw1⊢;replace hk:=AB hk;go_enter Tryz.func70,Tryz.ntmps70
 go_wp2_with fail
 rw[<-hw1];replace hw1:=AB hw1;have hI1:(fun w':World=>Blk w' w.heap.size 37 m.cells) { w1 with drawn:=w1.drawn+1 }:=K1;refine AL (fun w':World=>Blk w' w.heap.size 37 m.cells) [] (by kernel_rfl) ?_;refine qP 0 w.heap.size 1 rfl hI1 ?_;refine wpAnyE_tk 1 (v:=(.int .u32 m.chan)) rfl hI1 (fun w' hw'=>by have y:w'.cell? ⟨w.heap.size,1,none⟩=some (.int .u32 m.chan):=Blk.cell hw' 1;go_simp) ?_;refine qP 3 w.heap.size 6 rfl hI1 ?_;refine wpAnyE_tk 4 (v:=(.string m.name)) rfl hI1 (fun w' hw'=>by have y:w'.cell? ⟨w.heap.size,6,none⟩=some (.string m.name):=Blk.cell hw' 6;go_simp) ?_;refine qP 6 w.heap.size 8 rfl hI1 ?_;refine wpAnyE_tk 7 (v:=(.bool m.want)) rfl hI1 (fun w' hw'=>by have y:w'.cell? ⟨w.heap.size,8,none⟩=some (.bool m.want):=Blk.cell hw' 8;go_simp) ?_;refine qP 9 w.heap.size 9 rfl hI1 ?_;refine wpAnyE_tk 10 (v:=(.slice m.dA m.data.length m.dc)) rfl hI1 (fun w' hw'=>by have y:w'.cell? ⟨w.heap.size,9,none⟩=some (.slice m.dA m.data.length m.dc):=Blk.cell hw' 9;go_simp) ?_;refine AC 2 rfl (by kernel_rfl) hI1 (fun K hK=>?_);rw[if_pos (by kernel_rfl)];go_simp
 have C0:=AU w1.drew m.chan (ok0.nums.1);go_call C0 as e w2 ⟨P2,f0,rfl,p0,g0,n0⟩
 have O2:Only [] w w2:=O1.drew.trans P2 (by simp);have hI2:(fun w':World=>Blk w' w.heap.size 37 m.cells) w2:=Blk.only K1.drew P2 (by simp);refine hK _ _ ?_;clear hK K C0;refine AC 5 rfl (by kernel_rfl) hI2 (fun K hK=>?_);rw[if_pos (by kernel_rfl)];go_simp
 have C1:=KK w2 m.name hs;go_call C1 as e w3 ⟨P3,f1,rfl,p1,g1,n1⟩
 have O3:Only [] w w3:=O2.trans P3 (by simp);have hI3:(fun w':World=>Blk w' w.heap.size 37 m.cells) w3:=Blk.only hI2 P3 (by simp);refine hK _ _ ?_;clear hK K C1;refine AC 8 rfl (by kernel_rfl) hI3 (fun K hK=>?_);rw[if_pos (by kernel_rfl)];go_simp
 have C2:=XI w3 m.want;go_call C2 as e w4 ⟨P4,f2,rfl,p2,g2,n2⟩
 have O4:Only [] w w4:=O3.trans P4 (by simp);have hI4:(fun w':World=>Blk w' w.heap.size 37 m.cells) w4:=Blk.only hI3 P4 (by simp);refine hK _ _ ?_;clear hK K C2;refine AC 11 rfl (by kernel_rfl) hI4 (fun K hK=>?_);rw[if_pos (by kernel_rfl)];go_simp
 have C3:=KI w4 m.dA m.data m.dc (ok.only O4).data ok0.dle ok0.dmax;go_call C3 as e w5 ⟨P5,f3,rfl,p3,g3,n3⟩
 have O5:Only [] w w5:=O4.trans P5 (by simp);have hI5:(fun w':World=>Blk w' w.heap.size 37 m.cells) w5:=Blk.only hI4 P5 (by simp);refine hK _ _ ?_;clear hK K C3;unfold FD.val;refine AC 12 rfl (by kernel_rfl) hI5 (fun K hK=>?_);rw[if_pos (by kernel_rfl)];go_simp
 refine hK _ _ ?_;clear hK K;have hIZ:(fun w':World=>Blk w' w.heap.size 37 m.cells) (w5.alloc (.cells #[.int .i64 f0.kind,.int .u32 f0.n,.slice f0.tA f0.text.length f0.tc,.slice f0.lA f0.list.length f0.lc,.int .i64 f1.kind,.int .u32 f1.n,.slice f1.tA f1.text.length f1.tc,.slice f1.lA f1.list.length f1.lc,.int .i64 f2.kind,.int .u32 f2.n,.slice f2.tA f2.text.length f2.tc,.slice f2.lA f2.list.length f2.lc,.int .i64 f3.kind,.int .u32 f3.n,.slice f3.tA f3.text.length f3.tc,.slice f3.lA f3.list.length f3.lc] 153)):=Blk.alloc hI5 _;refine wpAnyE_tg 13 (v:=(.slice (some ⟨w5.heap.size,0,none⟩) 4 4)) rfl hIZ ?_;refine wpAnyE_tg 14 (v:=(.bool true)) rfl hIZ ?_;refine AT (by kernel_rfl) hIZ ?_;simp only[Exit.then];go_wp2_with fail
 go_ret2
 have Z: ∀f∈[f0,f1,f2,f3],f.ok w5/\0<=f.n/\f.n<=4294967295:=by
  intro f hf;simp only[qC,List.mem_nil_iff,or_false] at hf;rcases hf with rfl|rfl|rfl|rfl;·exact⟨(((g0.only P3).only P4).only P5),n0⟩
  ·exact⟨((g1.only P4).only P5),n1⟩
  ·exact⟨(g2.only P5),n2⟩
  ·exact⟨g3,n3⟩
 have RZ:=FE w5 [f0,f1,f2,f3] #[.int .i64 f0.kind,.int .u32 f0.n,.slice f0.tA f0.text.length f0.tc,.slice f0.lA f0.list.length f0.lc,.int .i64 f1.kind,.int .u32 f1.n,.slice f1.tA f1.text.length f1.tc,.slice f1.lA f1.list.length f1.lc,.int .i64 f2.kind,.int .u32 f2.n,.slice f2.tA f2.text.length f2.tc,.slice f2.lA f2.list.length f2.lc,.int .i64 f3.kind,.int .u32 f3.n,.slice f3.tA f3.text.length f3.tc,.slice f3.lA f3.list.length f3.lc] rfl Z;exact hpost.out _ (some ⟨w5.heap.size,0,none⟩) 4 [f0,f1,f2,f3] (O5.alloc _) RZ (by simp only[List.map_cons,List.map_nil,p0,p1,p2,p3];rfl) (qL _) (by simp[maxLen])
theorem eY (m:MD) (w:World) (h1: ¬m.kind=1) (h80: ¬m.kind=80) (h81: ¬m.kind=81) (h82: ¬m.kind=82) (h90: ¬m.kind=90) (h91: ¬m.kind=91) (h92: ¬m.kind=92) (h93: ¬m.kind=93) (h94: ¬m.kind=94) (h95: ¬m.kind=95) (h96: ¬m.kind=96) (h97: ¬m.kind=97) (h99: ¬m.kind=99) (h100: ¬m.kind=100) (h98: ¬m.kind=98):Calls Tryz.prog 70 #[m.val] w (AE w m):=by
 have hpost: ∀(w':World),Only [] w w'->AE w m (.returned (.tuple #[.slice none 0 0,.bool false])) w':=fun w' h1=>by
  refine⟨h1,?_⟩;have hr:BX m.kind=none:=by unfold BX;simp[*]
  rw[hr]
 obtain⟨w1,hw1⟩:=qY (w.alloc (.cells #[.int .i64 m.kind,.int .u32 m.chan,.int .u32 m.sender,.int .u32 m.window,.int .u32 m.packet,.int .u32 m.code,.string m.name,.string m.lang,.bool m.want,.slice m.dA m.data.length m.dc] 37));have O1:Only [] w w1:=by rw[hw1];exact(zR _ _).alloc _
 have e1:(m.kind==1)=false:=by simpa using h1
 have e80:(m.kind==80)=false:=by simpa using h80
 have e81:(m.kind==81)=false:=by simpa using h81
 have e82:(m.kind==82)=false:=by simpa using h82
 have e90:(m.kind==90)=false:=by simpa using h90
 have e91:(m.kind==91)=false:=by simpa using h91
 have e92:(m.kind==92)=false:=by simpa using h92
 have e93:(m.kind==93)=false:=by simpa using h93
 have e94:(m.kind==94)=false:=by simpa using h94
 have e95:(m.kind==95)=false:=by simpa using h95
 have e96:(m.kind==96)=false:=by simpa using h96
 have e97:(m.kind==97)=false:=by simpa using h97
 have e99:(m.kind==99)=false:=by simpa using h99
 have e100:(m.kind==100)=false:=by simpa using h100
 have e98:(m.kind==98)=false:=by simpa using h98
 replace hpost:=AB hpost;replace hw1:=AB hw1;clear h1 h80 h81 h82 h90 h91 h92 h93 h94 h95 h96 h97 h99 h100 h98;unfold MD.val;go_enter Tryz.func70,Tryz.ntmps70
 go_wp2_with fail
 (try simp only[Exit.inBlock,Exit.then])
 go_ret2
 rw[<-hw1.out];exact hpost.out w1 O1
theorem IC (m:MD) (w:World) (ok:m.ok w) (hs:m.name.size<=140737488355328) (hl:m.lang.size<=140737488355328):Calls Tryz.prog 70 #[m.val] w (AE w m):=by
 by_cases h1:m.kind=1
 ·exact fields_k1 m w h1 ok hs hl
 by_cases h80:m.kind=80
 ·exact jG m w h80 ok hs hl
 by_cases h81:m.kind=81
 ·exact jH m w h81 ok hs hl
 by_cases h82:m.kind=82
 ·exact jI m w h82 ok hs hl
 by_cases h90:m.kind=90
 ·exact jJ m w h90 ok hs hl
 by_cases h91:m.kind=91
 ·exact jK m w h91 ok hs hl
 by_cases h92:m.kind=92
 ·exact jL m w h92 ok hs hl
 by_cases h93:m.kind=93
 ·exact jM m w h93 ok hs hl
 by_cases h94:m.kind=94
 ·exact jN m w h94 ok hs hl
 by_cases h95:m.kind=95
 ·exact jO m w h95 ok hs hl
 by_cases h96:m.kind=96
 ·exact jP m w h96 ok hs hl
 by_cases h97:m.kind=97
 ·exact jQ m w h97 ok hs hl
 by_cases h99:m.kind=99
 ·exact jS m w h99 ok hs hl
 by_cases h100:m.kind=100
 ·exact eX m w h100 ok hs hl
 by_cases h98:m.kind=98
 ·exact jR m w h98 ok hs hl
 exact eY m w h1 h80 h81 h82 h90 h91 h92 h93 h94 h95 h96 h97 h99 h100 h98
theorem VA (s:ByteArray) (least:Nat) (w:World) (hs:s.size<=maxLen):Calls Tryz.prog 119 #[.string s,.int .i64 (least:Int)] w fun e w'=>e = .returned (.bool (FC s least))/\w=w':=by
 unfold maxLen at hs;obtain⟨R,hR⟩:=qY (FC s least);rw[<-hR];replace hR:=AB hR;by_cases h1:s.size<least
 ·have hR0:R=false:=by rw[hR.out];unfold FC;rw[decide_eq_false (show¬least<=s.size by omega)];rfl
  have i1:(s.size:Int)<(least:Int):=by omega
  replace hR0:=AB hR0;go_enter Tryz.func119,Tryz.ntmps119
  go_wp2
  go_ret
  exact⟨FM hR0.out.symm,rfl⟩
 have i1: ¬(s.size:Int)<(least:Int):=by omega
 by_cases h2:64<s.size
 ·have hR0:R=false:=by rw[hR.out];unfold FC;rw[decide_eq_false (show¬s.size<=64 by omega)];simp
  have i2:(64:Int)<(s.size:Int):=by omega
  replace hR0:=AB hR0;go_enter Tryz.func119,Tryz.ntmps119
  go_wp2
  go_ret
  exact⟨FM hR0.out.symm,rfl⟩
 have i2: ¬(64:Int)<(s.size:Int):=by omega
 have hR1:R=s.data.toList.all ON:=by rw[hR.out];unfold FC;rw[decide_eq_true (show least<=s.size by omega),decide_eq_true (show s.size<=64 by omega)];rfl
 obtain⟨n,hn⟩:=qX s.size;replace hR1:=AB hR1;replace hn:=AB hn;go_enter Tryz.func119,Tryz.ntmps119
 go_wp2
 go_loop [5] (fun i=>∃k:Nat,k<=s.size/\i = .int .i64 k/\Hid ((s.data.toList.take k).all ON=true)) (fun i=>s.size-(intOf i).toNat)
 case atStart=>exact⟨0,by omega,rfl,AB rfl⟩
 case round=>
  obtain⟨k,hk,rfl,hg⟩:=hrel;by_cases hlt:k<s.size
  ·have hts:=AB (KU s k hlt);by_cases hc:ON s[k]=true
   ·have hcc:=AB hc;unfold ON at hc;simp only[Bool.and_eq_true,decide_eq_true_eq] at hc;obtain⟨q1,q2⟩:=hc;go_wp2
    go_round
    case rel=>exact⟨k+1,by omega,by go_num,AB (by rw[hts.out,List.all_append,hg.out];simp[hcc.out])⟩
    case measure=>simp[intOf];omega
   ·have hf:R=false:=by
     rw[hR1.out,Bool.eq_false_iff];intro h;have:=List.all_eq_true.1 h s[k] (by
      have:s[k]=s.data.toList[k]'(by simpa using hlt):=rfl;rw[this];exact List.getElem_mem _)
     exact hc this
    subst hf;have hq:s[k].toNat<33\/126<s[k].toNat:=by
     unfold ON at hc;simp at hc;omega
    clear hR1 hc;by_cases q1:s[k].toNat<33
    ·clear hq;go_wp2
     go_ret
     exact⟨rfl,rfl⟩
    ·have q2:126<s[k].toNat:=by omega
     clear hq;go_wp2
     go_ret
     exact⟨rfl,rfl⟩
  ·obtain rfl:k=s.size:=by omega
   have hf:R=true:=by
    rw[hR1.out];have:=hg.out;rw[List.take_of_length_le (by simp)] at this;exact this
   replace hf:=AB hf;go_wp2
   go_ret
   exact⟨FM hf.out.symm,rfl⟩
theorem GG (m:MD) (w:World) (hn:m.name.size<=maxLen) (hl:m.lang.size<=maxLen):Calls Tryz.prog 72 #[m.val] w fun e w'=>e = .returned (.bool (BW m))/\Only [] w w':=by
 obtain⟨w1,hw1⟩:=qY (w.alloc (.cells #[.int .i64 m.kind,.int .u32 m.chan,.int .u32 m.sender,.int .u32 m.window,.int .u32 m.packet,.int .u32 m.code,.string m.name,.string m.lang,.bool m.want,.slice m.dA m.data.length m.dc] 37));have P1:Only [] w w1:=by rw[hw1];exact(zR _ _).alloc _
 have PN:=VA m.name 1 w1 hn;have PL:=VA m.lang 0 w1 hl;obtain⟨R,hR⟩:=qX (BW m);rw[hR];unfold BW at hR;unfold MD.val;by_cases h80:m.kind=80
 ·rw[if_pos (by omega)] at hR;rw[hR] at PN;rw[h80] at hw1⊢;replace hR:=AB hR;go_enter Tryz.func72,Tryz.ntmps72
  go_wp2_with fail
  rw[<-hw1];replace hw1:=AB hw1;go_call PN as e w2 ⟨rfl,rfl⟩
  go_wp2_with fail
  go_ret
  exact⟨rfl,P1⟩
 by_cases h90:m.kind=90
 ·rw[if_pos (by omega)] at hR;rw[hR] at PN;rw[h90] at hw1⊢;replace hR:=AB hR;go_enter Tryz.func72,Tryz.ntmps72
  go_wp2_with fail
  rw[<-hw1];replace hw1:=AB hw1;go_call PN as e w2 ⟨rfl,rfl⟩
  go_wp2_with fail
  go_ret
  exact⟨rfl,P1⟩
 by_cases h98:m.kind=98
 ·rw[if_pos (by omega)] at hR;rw[hR] at PN;rw[h98] at hw1⊢;replace hR:=AB hR;go_enter Tryz.func72,Tryz.ntmps72
  go_wp2_with fail
  rw[<-hw1];replace hw1:=AB hw1;go_call PN as e w2 ⟨rfl,rfl⟩
  go_wp2_with fail
  go_ret
  exact⟨rfl,P1⟩
 by_cases h1:m.kind=1
 ·rw[if_neg (by omega),if_pos (by omega)] at hR;rw[hR] at PL;rw[h1] at hw1⊢;replace hR:=AB hR;go_enter Tryz.func72,Tryz.ntmps72
  go_wp2_with fail
  rw[<-hw1];replace hw1:=AB hw1;go_call PL as e w2 ⟨rfl,rfl⟩
  go_wp2_with fail
  go_ret
  exact⟨rfl,P1⟩
 by_cases h92:m.kind=92
 ·rw[if_neg (by omega),if_pos (by omega)] at hR;rw[hR] at PL;rw[h92] at hw1⊢;replace hR:=AB hR;go_enter Tryz.func72,Tryz.ntmps72
  go_wp2_with fail
  rw[<-hw1];replace hw1:=AB hw1;go_call PL as e w2 ⟨rfl,rfl⟩
  go_wp2_with fail
  go_ret
  exact⟨rfl,P1⟩
 rw[if_neg (by omega),if_neg (by omega)] at hR;have e80:(m.kind==80)=false:=beq_eq_false_iff_ne.2 h80;have e90:(m.kind==90)=false:=beq_eq_false_iff_ne.2 h90;have e98:(m.kind==98)=false:=beq_eq_false_iff_ne.2 h98;have e1:(m.kind==1)=false:=beq_eq_false_iff_ne.2 h1;have e92:(m.kind==92)=false:=beq_eq_false_iff_ne.2 h92;replace hR:=AB hR;go_enter Tryz.func72,Tryz.ntmps72
 go_wp2_with fail
 rw[<-hw1];replace hw1:=AB hw1;go_ret
 exact⟨FM hR.out,P1⟩
theorem cutL_snoc (x:List UInt8) (c:UInt8):EY (x++[c])=if c=44 then EY x++[[]] else(EY x).dropLast++[((EY x).getLast?.getD [])++[c]]:=by
 induction x with
 |nil=>
  show EY [c]=_;unfold EY;split<;>simp[EY]
 |cons d x ih=>
  obtain⟨h,t,e⟩:=RG x;rw[e] at ih;rw[List.cons_append];conv=>lhs;unfold EY
  conv=>rhs;unfold EY
  rw[ih,e];by_cases hd:d=44
  ·simp only[hd,if_true];split;·rfl
   ·simp
  ·simp only[hd,if_false];by_cases hc:c=44
   ·simp[hc]
   ·simp only[hc,if_false];cases t with
    |nil=>simp
    |cons t0 ts=>simp[List.dropLast]
theorem WP (s:List UInt8): ∀y∈EY s,y.length<=s.length:=by
 induction s with
 |nil=>intro y hy;simp[EY] at hy;subst hy;simp
 |cons c s ih=>
  obtain⟨h,t,e⟩:=RG s;rw[e] at ih;intro y hy;unfold EY at hy;rw[e] at hy;split at hy
  ·rcases qC.1 hy with rfl|hy;·simp
   ·have:=ih y hy;simp;omega
  ·rcases qC.1 hy with rfl|hy;·have:=ih h (by simp);simp;omega
   ·have:=ih y (by simp at hy⊢;exact .inr hy);simp;omega
theorem jA (s:List UInt8):(EY s).length<=s.length+1:=by
 induction s with
 |nil=>simp[EY]
 |cons c s ih=>
  obtain⟨h,t,e⟩:=RG s;unfold EY;rw[e] at ih⊢;split<;>simp at ih⊢<;> omega
def QY (l:List Int):List UInt8:=(strOfNums l).data.toList
theorem bsOf_snoc (l:List Int) (x:Int):QY (l++[x])=QY l++[UInt8.ofNat x.toNat]:=by
 unfold QY;rw[DD,DD,List.map_append];rfl
theorem QZ (l:List Int):(QY l).length=l.length:=by
 unfold QY;rw[DD,List.length_map]
def TZ (l:List Int):Int×List ByteArray:=if l=[] then(0,[]) else if BS (CP (strOfNums l))=0 then(0,CP (strOfNums l)) else(BS (CP (strOfNums l)),[])
def SplitPost (w:World) (r:Int×List ByteArray):Ending->World->Prop:=fun e w'=>Only [] w w'/\∃v,e = .returned (.tuple #[v,.int .i64 r.1])/\HY w' w.heap.size v r.2
theorem HY.wrote {w:World} {base g n cap:Nat} {l:List ByteArray} (h:HY w base (.slice (some ⟨g,0,none⟩) n cap) l) (i:Nat) (hi:i<l.length) (x:ByteArray):HY (w.setCell ⟨g,i,none⟩ (.string x)) base (.slice (some ⟨g,0,none⟩) n cap) (l.set i x):=by
 rcases h.2 with⟨h',_⟩|⟨g',cap',cur,h',hb,hg,hn,hc,hs,ht⟩;·simp at h'
 ·simp only[Value.slice.injEq,Option.some.injEq,Addr.mk.injEq,and_true,true_and] at h';obtain⟨rfl,rfl,rfl⟩:=h';refine⟨by simp[KT],.inr ⟨g,cap,cur.set! i (.string x),by simp,hb,?_,by simpa using hn,hc,by simpa using hs,?_⟩⟩;·simp[World.setCell,Array.getElem?_modify,hg]
  ·simp at ht hs⊢;rw[List.take_set,ht];simp[KT,List.map_set]
theorem HY.frozenAt {w:World} {base g n cap:Nat} {l:List ByteArray} (h:HY w base (.slice (some ⟨g,0,none⟩) n cap) l) (j:Nat):w.frozen? ⟨g,j,none⟩=false:=by
 rcases h.2 with⟨h',_⟩|⟨g',cap',cur,h',hb,hg,_⟩;·simp at h'
 ·simp only[Value.slice.injEq,Option.some.injEq,Addr.mk.injEq,and_true,true_and] at h';obtain⟨rfl,rfl,rfl⟩:=h';simp[World.frozen?,hg]
theorem HY.form {w:World} {base:Nat} {v:Value} {l:List ByteArray} (h:HY w base v l) (h0:0<l.length): ∃g cap,v = .slice (some ⟨g,0,none⟩) l.length cap/\base<=g/\g<w.heap.size/\∀j s,l[j]? = some s->w.cell? ⟨g,j,none⟩=some (.string s):=by
 rcases h.2 with⟨e,hn⟩|⟨g,cap,cur,e,hg,hh,_⟩;·omega
 ·refine⟨g,cap,e,hg,(Array.getElem?_eq_some_iff.1 hh).1,fun j s hj=>?_⟩;subst e;have:=World.ownsRow.cells h (g:=g) rfl j (.string s) (by simp[KT,hj]);simpa[Addr.add_lit] using this
theorem ownS_one (w:World) (s:ByteArray):HY (w.alloc (.cells #[.string s] 9)) w.heap.size (.slice (some ⟨w.heap.size,0,none⟩) 1 1) [s]:=by
 refine⟨by simp[KT],.inr ⟨w.heap.size,1,#[.string s],rfl,qL _,heap_alloc_new w (.cells #[.string s] 9),by simp,by simp[maxLen],by simp,by simp[KT]⟩⟩
theorem set_last {α:Type} (l:List α) (x:α) (h:0<l.length):l.set (l.length-1) x=l.dropLast++[x]:=by
 rcases List.eq_nil_or_concat l with rfl|⟨b,a,rfl⟩;·simp at h
 ·simp
theorem conv_one (w:World) (x:Int):(convert 30 9 (.slice (some ⟨w.heap.size,0,none⟩) 1 1)).run Tryz.prog (w.alloc (.cells #[.int .u8 x] 5)).drew = .ok (.string (strOfNums [x])) (w.alloc (.cells #[.int .u8 x] 5)).drew:=
 run_convert_bytes_arg (P:=Tryz.prog) (w:=(w.alloc (.cells #[.int .u8 x] 5)).drew) 30 5 (by kernel_rfl) (by kernel_rfl) w.heap.size 0 1 1 [x] rfl (fun i hi=>by
  obtain rfl:i=0:=by omega
  have:(w.alloc (.cells #[.int .u8 x] 5)).cell? ⟨w.heap.size,0,none⟩=some (.int .u8 x):=by rw[World.cell?_alloc_mark];rfl
  exact this) 9 (by kernel_rfl)
theorem map_ext {os ps:List ByteArray} (h:os.map (·.data.toList)=ps.map (·.data.toList)):os=ps:=(List.map_inj_right (fun x y hxy=>LX hxy)).1 h
theorem dT (A:Option Addr) (l:List Int) (c:Nat) (w:World) (h:Rd w A l) (hl: ∀x∈l,0<=x/\x<256) (hlen:l.length<=32768) :
  Calls Tryz.prog 182 #[.slice A l.length c] w (SplitPost w (TZ l)):=by
 by_cases hnil:l=[]
 ·subst hnil;rw[show TZ []=(0,[]) from if_pos rfl];go_enter Tryz.func182,Tryz.ntmps182
  go_wp2_with fail
  go_ret2
  exact⟨zR _ _,_,rfl,XT _ _⟩
 have h0:0<l.length:=Nat.pos_of_ne_zero (fun e=>hnil (List.eq_nil_of_length_eq_zero e));obtain⟨R,hR⟩:=qX (TZ l);rw[hR];have hR2:R=if BS (CP (strOfNums l))=0 then(0,CP (strOfNums l)) else(BS (CP (strOfNums l)),[]):=by
  rw[<-hR];exact if_neg hnil
 obtain⟨n,hn⟩:=qY l.length;rw[<-hn] at hlen h0⊢;have hn0:((n:Int)==0)=false:=by simp;omega
 replace hn:=AB hn;replace hR2:=AB hR2;clear hnil hR;go_enter Tryz.func182,Tryz.ntmps182
 go_wp2_with fail
 go_loopw [15,4] (fun i o wr=>∃(k:Nat) (v:Value) (os:List ByteArray),k<=n/\i = .int .i64 k/\v=o/\Hid (os.map (·.data.toList)=EY (QY (l.take k)))/\HY wr w.heap.size v os/\Only [] w wr) (fun i _ _=>n-(intOf i).toNat)
 case atStart=>exact⟨0,_,[⟨#[]⟩],by omega,rfl,rfl,AB rfl,ownS_one w _,(zR _ _).alloc _⟩
 case round=>
  obtain⟨wo,rfl⟩: ∃wo:World,wo=wr:=⟨_,rfl⟩;obtain⟨k,v,os,hkn,rfl,rfl,hos,V,O⟩:=hrel;have hob:=V.block;have z0:=O.size;have hcount:os.length<=k+1:=by
   have h1:=congrArg List.length hos.out;rw[List.length_map] at h1;have h2:=jA (QY (l.take k));rw[QZ,List.length_take] at h2;omega
  have hpos:0<os.length:=by
   obtain⟨a,b,e⟩:=RG (QY (l.take k));have h1:=congrArg List.length hos.out;rw[List.length_map,e] at h1;simp at h1;omega
  by_cases hlt:k<n
  ·obtain⟨b,off,x,rfl,hb,hx,cx⟩:=RdG.at (mk:=.int .u8) (h.only O) k (by have:=hn.out;omega);have hxr:=hl x (qE hx);have htk:QY (l.take (k+1))=QY (l.take k)++[UInt8.ofNat x.toNat]:=by
    rw[DH hx,bsOf_snoc]
   have hsn:=cutL_snoc (QY (l.take k)) (UInt8.ofNat x.toNat);rw[<-htk,<-hos.out] at hsn;obtain⟨g,cap,rfl,hg1,hg2,hgc⟩:=V.form hpos;by_cases h44:x=44
   ·subst h44;rw[if_pos (by decide)] at hsn;have V5:HY (wo.alloc (.cells #[.string ⟨#[]⟩] 9)) w.heap.size (.slice (some ⟨g,0,none⟩) os.length cap) os:=V.far ((Only.refl [] wo).alloc _) (fun x hx=>by simp at hx);have R5:RdS (wo.alloc (.cells #[.string ⟨#[]⟩] 9)) (some ⟨wo.heap.size,0,none⟩) [⟨#[]⟩]:=rdS_new wo _ [⟨#[]⟩] _ rfl;have hnew:(os++[(⟨#[]⟩:ByteArray)]).map (fun z:ByteArray=>z.data.toList)=EY (QY (l.take (k+1))):=by rw[hsn,List.map_append];rfl
    obtain⟨no,hno⟩:=qX os.length;rw[hno] at V5 hcount⊢;replace hno:=AB hno;replace hnew:=AB hnew;replace hx:=AB hx;replace htk:=AB htk;clear hsn hgc hos;go_wp2_with (at_builtin;go_must (refine iQ rfl (.tmp 21) (.tmp 22) rfl w.heap.size (.slice (some ⟨g,0,none⟩) no cap) os rfl V5 (some ⟨wo.heap.size,0,none⟩) 1 [⟨#[]⟩] _ rfl rfl R5 (by have:=hno.out;simp;omega) (by simp;omega) ?_;intro v9 w9 V9 P9))
    go_roundw
    case rel=>exact⟨k+1,_,os++[⟨#[]⟩],by omega,by go_num,rfl,hnew,V9.out,(O.alloc _).trans P9 (fun x hx=>.inr (by simp[Value.ownBlock] at hx;rw[hx];exact hg1))⟩
    case measure=>simp[intOf];omega
   ·rw[if_neg (fun e=>h44 (by
     have:=congrArg UInt8.toNat e;rw[UInt8.toNat_ofNat'] at this;have e2:x.toNat % 2 ^ 8=44:=this;omega))] at hsn
    obtain⟨s,hs⟩: ∃s,os[os.length-1]? = some s:=⟨_,List.getElem?_eq_getElem (by omega)⟩;have cs:=hgc _ s hs;have hlast:((os.map (·.data.toList)).getLast?.getD [])=s.data.toList:=by
     rw[List.getLast?_map,List.getLast?_eq_getElem?,hs];rfl
    rw[hlast] at hsn;have hss:s.size<=32768:=by
     have h1:s.data.toList∈os.map (·.data.toList):=List.mem_map_of_mem (qE hs);rw[hos.out] at h1;have h2:=WP _ _ h1;rw[QZ,List.length_take] at h2;have h3:s.size=s.data.toList.length:=by simp
     omega
    have fz:=HY.frozenAt V (os.length-1);have hset:=set_last os (s++strOfNums [x]) hpos;have hnew:(os.set (os.length-1) (s++strOfNums [x])).map (·.data.toList)=EY (QY (l.take (k+1))):=by
     rw[hset,List.map_append,hsn,List.map_dropLast];simp only[List.map_cons,List.map_nil];rw[Go.Joins.data_append];rfl
    have W:=fun y=>HY.wrote V (os.length-1) (by omega) y;obtain⟨no,hno⟩: ∃no,os.length=no+1:=⟨os.length-1,by omega⟩;rw[hno,Nat.add_sub_cancel] at cs fz hnew W;rw[hno] at hcount⊢;have x44:(x==44)=false:=beq_eq_false_iff_ne.2 h44;replace hno:=AB hno;replace hnew:=AB hnew;replace hx:=AB hx;replace htk:=AB htk;replace hs:=AB hs;replace W:=AB W;have hcv:=conv_one wo x;have hadd: ∀W:World,(Op.stringOp .add s (strOfNums [x])).run Tryz.prog W = .ok (.string (s++strOfNums [x])) W:=fun W=>run_string_add_sum (P:=Tryz.prog) (w:=W) _ _ (by rw[show(strOfNums [x]).size=1 by rfl];omega);have hwr:IntKind.i64.wrap (no:Int)=(no:Int):=IntWalk.i64_in _ (by omega);have hgne: ¬g=wo.heap.size:=by omega
    have hgne2: ¬wo.heap.size=g:=by omega
    clear hsn hgc hset hlast;go_wp2_with fail
    go_region
    go_wp2_with fail
    go_roundw
    case rel=>exact⟨k+1,_,os.set no (s++strOfNums [x]),by omega,by go_num,rfl,hnew,HY.far (W.out (s++strOfNums [x])) (((Only.refl [] _).alloc _).drew) (fun x hx=>by simp at hx),((O.setCell (p:=⟨g,no,none⟩) (.inr hg1) _).alloc _).drew⟩
    case measure=>simp[intOf];omega
  ·obtain rfl:k=n:=by omega
   have hos2:os=CP (strOfNums l):=map_ext (by
    rw[hos.out,LJ,List.take_of_length_le (by have:=hn.out;omega)];rfl)
   have hsz: ∀s∈os,s.size<=maxLen:=fun s hs=>by
    have h1:s.data.toList∈os.map (·.data.toList):=List.mem_map_of_mem hs;rw[hos.out] at h1;have h2:=WP _ _ h1;rw[QZ,List.length_take] at h2;have h3:s.size=s.data.toList.length:=by simp
    unfold maxLen;omega
   have hR3:=hR2.out;rw[<-hos2] at hR3;obtain⟨g,cap,rfl,hg1,hg2,hgc⟩:=V.form hpos;obtain⟨no,hno⟩:=qX os.length;rw[hno] at V⊢;have hno9:no<=32769:=by omega
   by_cases h64:64<no
   ·have hfin:R=(6,[]):=by
     have e:BS os=6:=by unfold BS;rw[if_pos (by omega)]
     rw[hR3,e];rfl
    have h64':(64:Int)<(no:Int):=by omega
    replace hfin:=AB hfin;clear hR3 hos2 hgc hsz hos;go_wp2_with fail
    go_ret2
    rw[hfin.out];exact⟨O,_,rfl,XT _ _⟩
   ·have h64': ¬(64:Int)<(no:Int):=by omega
    have e:BS os=if os.all BK then 0 else 4:=by unfold BS;rw[if_neg (by omega)]
    rw[e] at hR3;replace hR3:=AB hR3;replace hno:=AB hno;replace hsz:=AB hsz;clear e hos2 hos;go_wp2_with fail
    go_loop [41] (fun i=>∃j:Nat,j<=no/\i = .int .i64 j/\Hid ((os.take j).all BK=true)) (fun i=>no-(intOf i).toNat)
    case atStart=>exact⟨0,by omega,rfl,AB rfl⟩
    case round=>
     obtain⟨j,hj,rfl,hg⟩:=hrel;by_cases hlt2:j<no
     ·obtain⟨s,hs⟩: ∃s,os[j]? = some s:=⟨_,List.getElem?_eq_getElem (by have:=hno.out;omega)⟩;have cs:=hgc j s hs;have hmem:s∈os:=qE hs;have hts:=AB (DH hs);have K:=gS s wo (hsz.out s hmem);replace hs:=AB hs;by_cases ho:BK s=true
      ·rw[ho] at K;have ho:=AB ho;go_wp2_with fail
       go_call K as e w' ⟨rfl,rfl⟩
       clear K;go_wp2
       go_round
       case rel=>exact⟨j+1,by omega,by go_num,AB (by rw[hts.out,List.all_append,hg.out];simp[ho.out])⟩
       case measure=>simp[intOf];omega
      ·have ho':BK s=false:=by simpa using ho
       rw[ho'] at K;have hfin:R=(4,[]):=by
        have hb:os.all BK=false:=by
         rw[Bool.eq_false_iff];intro hall;exact ho (List.all_eq_true.1 hall s hmem)
        rw[hR3.out,hb];rfl
       replace hfin:=AB hfin;clear ho ho';go_wp2_with fail
       go_call K as e w' ⟨rfl,rfl⟩
       go_wp2_with fail
       go_ret2
       rw[hfin.out];exact⟨O,_,rfl,XT _ _⟩
     ·obtain rfl:j=no:=by omega
      have hfin:R=(0,os):=by
       have hall:os.all BK=true:=by have:=hg.out;rw[List.take_of_length_le (by have:=hno.out;omega)] at this;exact this
       rw[hR3.out,hall];rfl
      replace hfin:=AB hfin;clear hg;go_wp2_with fail
      go_ret2
      rw[hfin.out];exact⟨O,_,rfl,V⟩
end Go.Proofs.YtfbhemmpobgdpaaGreatDoor
