/- SessionAsks: lemmas, from 'The document's answer for layer 4: fields' on; what each asks for stands in it. -/
import Derived.Test.YtdplnedpbkpgpaaGreatDoorSlM
set_option linter.all false
set_option maxRecDepth 100000
set_option maxHeartbeats 64000000
namespace Go.Proofs.YtdplnedpbkpgpaaGreatDoor
open Go.RowKit
theorem DP (s:ByteArray) (w:World) (hs:s.size≤140737488355328):Calls Tryz.prog 101 #[.string s] w (OA w (pT s)):=by
 obtain⟨w1,hw1⟩: ∃w1,w1=w.alloc (.cells #[.int .i64 0,.int .u32 0,.slice none 0 0,.slice none 0 0] 123):=⟨_,rfl⟩;have P1:Only [] w w1:=by rw[hw1];exact(Only.refl _ _).alloc _
 have K1:Blk w1 w.heap.size 123 [.int .i64 0,.int .u32 0,.slice none 0 0,.slice none 0 0]:=by rw[hw1];exact Blk.new w _ _
 have hs1:w1.heap.size=w.heap.size+1:=by rw[hw1];simp
 obtain⟨cc,w3,hcv,hcc,hcm,P3,RS,hs3⟩:=JE w1 s.data.toList;have hul:s.data.toList.length=s.size:=by simp
 rw[hul] at hcv hcc hcm;have heta:(⟨s.data.toList.toArray⟩:ByteArray)=s:=Go.Joins.bytes_eta s;rw[heta] at hcv;have K3:=K1.only P3 (by simp);have g0:w3.cell? ⟨w.heap.size,0,none⟩=some (.int .i64 0):=K3.cell 0;have g1:w3.cell? ⟨w.heap.size,1,none⟩=some (.int .u32 0):=K3.cell 1;have g2:w3.cell? ⟨w.heap.size,2,none⟩=some (.slice none 0 0):=K3.cell 2;have g3:w3.cell? ⟨w.heap.size,3,none⟩=some (.slice none 0 0):=K3.cell 3;have f0:=K3.frozen 0;have f1:=K3.frozen 1;have f2:=K3.frozen 2;have f3:=K3.frozen 3;rw[hw1] at hcv;have hcc2:(sOf s).length≤cc:=by rw[SZ];exact hcc
 have hcm2:cc≤maxLen:=hcm (by unfold maxLen;omega);rw[hs1] at RS;rw[show(w.alloc (.cells #[.int .i64 0,.int .u32 0,.slice none 0 0,.slice none 0 0] 123)).heap.size=w.heap.size+1 by simp] at hcv;obtain⟨n,hn⟩: ∃n,s.size=n:=⟨_,rfl⟩;rw[hn] at hcv;replace hcc:=AB hcc;replace hul:=AB hul;replace hn:=AB hn;replace hs1:=AB hs1;replace hw1:=AB hw1;replace heta:=AB heta;clear K1 hcm;go_enter Tryz.func101,Tryz.ntmps101
 go_wp2
 (try simp only[Exit.inBlock,Exit.then])
 have Y4:=W4.only w3 w.heap.size (.int .i64 4) (.int .u32 0) (.slice (some ⟨w.heap.size+1,0,none⟩) n cc) (.slice none 0 0);refine BX (g:=w.heap.size) rfl (by rfl) (by rfl) (W4.blk K3 (.int .i64 4) (.int .u32 0) (.slice (some ⟨w.heap.size+1,0,none⟩) n cc) (.slice none 0 0)) ?_;refine⟨(P1.trans P3 (by simp)).trans Y4 (fun x hx=>.inr (by simp at hx;omega)),⟨4,0,some ⟨w.heap.size+1,0,none⟩,cc,sOf s,none,0,[]⟩,?_,rfl,⟨fun a ha=>by injection ha with ha;subst ha;exact Nat.le_succ _,fun a ha=>by simp at ha⟩,⟨?_,RdG.nil,hcc2,hcm2,by simp,by simp,by simp⟩,Int.le_refl 0,show(0:Int)≤4294967295 by decide⟩
 ·unfold FD.val;dsimp only;rw[SZ,hn.out];rfl
 ·exact RdG.onlyL (mk:=.int .u8) RS Y4 (fun a ha _=>by injection ha with ha;subst ha;simp)
theorem RN (b:Bool) (w:World):Calls Tryz.prog 103 #[.bool b] w (OA w (pB b)):=by
 cases b with
 |true=>
  go_enter Tryz.func103,Tryz.ntmps103
  go_wp2
  (try simp only[Exit.inBlock,Exit.then])
  refine BX (g:=w.heap.size) rfl (by rfl) (by rfl) (Blk.new w 123 [.int .i64 2,.int .u32 1,.slice none 0 0,.slice none 0 0]) ?_;exact⟨(Only.refl _ _).alloc _,⟨2,1,none,0,[],none,0,[]⟩,rfl,rfl,FD.new.plain _ _ _,FD.ok.plain _ _ _,by decide,by decide⟩
 |false=>
  go_enter Tryz.func103,Tryz.ntmps103
  go_wp2
  (try simp only[Exit.inBlock,Exit.then])
  refine BX (g:=w.heap.size) rfl (by rfl) (by rfl) (Blk.new w 123 [.int .i64 2,.int .u32 0,.slice none 0 0,.slice none 0 0]) ?_;exact⟨(Only.refl _ _).alloc _,⟨2,0,none,0,[],none,0,[]⟩,rfl,rfl,FD.new.plain _ _ _,FD.ok.plain _ _ _,by decide,by decide⟩
theorem GA (n:Int) (w:World) (hn:U32 n):Calls Tryz.prog 104 #[.int .u32 n] w (OA w (pN n)):=by
 go_enter Tryz.func104,Tryz.ntmps104
 go_wp2
 (try simp only[Exit.inBlock,Exit.then])
 refine BX (g:=w.heap.size) rfl (by rfl) (by rfl) (Blk.new w 123 [.int .i64 3,.int .u32 n,.slice none 0 0,.slice none 0 0]) ?_;exact⟨(Only.refl _ _).alloc _,⟨3,n,none,0,[],none,0,[]⟩,rfl,rfl,FD.new.plain _ _ _,FD.ok.plain _ _ _,hn⟩
end Go.Proofs.YtdplnedpbkpgpaaGreatDoor
namespace Go.Proofs.YtdplnedpbkpgpaaGreatDoor
open Go.RowKit
def BB (w:World) (ps:List PF):Ending→World→Prop:=fun e w'=>Only [] w w'∧∃(v:Value) (fs:List FD),e = .returned v∧EJ w' w.heap.size v fs∧fs.map FD.pf=ps∧(∀f∈fs,FD.ok w' f∧f.off v)∧∀f∈fs,U32 f.n
theorem EO (a b c d:Int) (w:World) (ha:U32 a) (hb:U32 b) (hc:U32 c) (hd:U32 d):Calls Tryz.prog 102 #[.agg #[.int .u32 a,.int .u32 b,.int .u32 c,.int .u32 d]] w (BB w [pN a,pN b,pN c,pN d]):=by
 obtain⟨w0,hw0⟩: ∃w0,w0=w.alloc (.cells #[.int .u32 a,.int .u32 b,.int .u32 c,.int .u32 d] 24):=⟨_,rfl⟩;have P0:Only [] w w0:=by rw[hw0];exact(Only.refl _ _).alloc _
 have K0:Blk w0 w.heap.size 24 [.int .u32 a,.int .u32 b,.int .u32 c,.int .u32 d]:=by rw[hw0];exact Blk.new w _ _
 go_enter Tryz.func102,Tryz.ntmps102
 go_wp2_with fail
 rw[←hw0];replace hw0:=AB hw0;have hI:(fun w':World=>Blk w' w.heap.size 24 [.int .u32 a,.int .u32 b,.int .u32 c,.int .u32 d]) { w0 with drawn:=w0.drawn+1 }:=K0;refine AV (fun w':World=>Blk w' w.heap.size 24 [.int .u32 a,.int .u32 b,.int .u32 c,.int .u32 d]) [] (by kernel_rfl) ?_;refine wpAnyE_tg 0 (v:=(.pointer (some ⟨w.heap.size,0,none⟩))) rfl hI ?_;refine wpAnyE_tk 1 (v:=(.int .u32 a)) rfl hI (fun w' hw'=>by have y0:w'.cell? ⟨w.heap.size,0,none⟩=some (.int .u32 a):=hw'.cell 0;go_simp) ?_;refine wpAnyE_tg 3 (v:=(.pointer (some ⟨w.heap.size,1,none⟩))) rfl hI ?_;refine wpAnyE_tk 4 (v:=(.int .u32 b)) rfl hI (fun w' hw'=>by have y0:w'.cell? ⟨w.heap.size,1,none⟩=some (.int .u32 b):=hw'.cell 1;go_simp) ?_;refine wpAnyE_tg 6 (v:=(.pointer (some ⟨w.heap.size,2,none⟩))) rfl hI ?_;refine wpAnyE_tk 7 (v:=(.int .u32 c)) rfl hI (fun w' hw'=>by have y0:w'.cell? ⟨w.heap.size,2,none⟩=some (.int .u32 c):=hw'.cell 2;go_simp) ?_;refine wpAnyE_tg 9 (v:=(.pointer (some ⟨w.heap.size,3,none⟩))) rfl hI ?_;refine wpAnyE_tk 10 (v:=(.int .u32 d)) rfl hI (fun w' hw'=>by have y0:w'.cell? ⟨w.heap.size,3,none⟩=some (.int .u32 d):=hw'.cell 3;go_simp) ?_;have R0:Only [] w w0.drew:=P0.drew;have T:=GA a w0.drew ha;refine AG 2 rfl (by kernel_rfl) hI (fun K hK=>?_);rw[if_pos (by kernel_rfl)];go_simp
 go_call T as e x1 ⟨Q1,f1,rfl,hp1,hnew1,ok1,hn1⟩
 clear T;have R1:Only [] w x1:=R0.trans Q1 (by simp);have hI1:(fun w':World=>Blk w' w.heap.size 24 [.int .u32 a,.int .u32 b,.int .u32 c,.int .u32 d]) x1:=Blk.only (Blk.drew K0) Q1 (by simp);refine hK _ _ ?_;clear hK K;unfold FD.val;have T:=GA b x1 hb;refine AG 5 rfl (by kernel_rfl) hI1 (fun K hK=>?_);rw[if_pos (by kernel_rfl)];go_simp
 go_call T as e x2 ⟨Q2,f2,rfl,hp2,hnew2,ok2,hn2⟩
 clear T;have R2:Only [] w x2:=R1.trans Q2 (by simp);have hI2:(fun w':World=>Blk w' w.heap.size 24 [.int .u32 a,.int .u32 b,.int .u32 c,.int .u32 d]) x2:=hI1.only Q2 (by simp);have ok1:=ok1.only Q2;refine hK _ _ ?_;clear hK K;unfold FD.val;have T:=GA c x2 hc;refine AG 8 rfl (by kernel_rfl) hI2 (fun K hK=>?_);rw[if_pos (by kernel_rfl)];go_simp
 go_call T as e x3 ⟨Q3,f3,rfl,hp3,hnew3,ok3,hn3⟩
 clear T;have R3:Only [] w x3:=R2.trans Q3 (by simp);have hI3:(fun w':World=>Blk w' w.heap.size 24 [.int .u32 a,.int .u32 b,.int .u32 c,.int .u32 d]) x3:=hI2.only Q3 (by simp);have ok1:=ok1.only Q3;have ok2:=ok2.only Q3;refine hK _ _ ?_;clear hK K;unfold FD.val;have T:=GA d x3 hd;refine AG 11 rfl (by kernel_rfl) hI3 (fun K hK=>?_);rw[if_pos (by kernel_rfl)];go_simp
 go_call T as e x4 ⟨Q4,f4,rfl,hp4,hnew4,ok4,hn4⟩
 clear T;have R4:Only [] w x4:=R3.trans Q4 (by simp);have hI4:(fun w':World=>Blk w' w.heap.size 24 [.int .u32 a,.int .u32 b,.int .u32 c,.int .u32 d]) x4:=hI3.only Q4 (by simp);have ok1:=ok1.only Q4;have ok2:=ok2.only Q4;have ok3:=ok3.only Q4;refine hK _ _ ?_;clear hK K;unfold FD.val;have V:=CH x4 [f1,f2,f3,f4] 4 rfl (by decide) #[.int .i64 f1.kind,.int .u32 f1.n,.slice f1.tA f1.text.length f1.tc,.slice f1.lA f1.list.length f1.lc,.int .i64 f2.kind,.int .u32 f2.n,.slice f2.tA f2.text.length f2.tc,.slice f2.lA f2.list.length f2.lc,.int .i64 f3.kind,.int .u32 f3.n,.slice f3.tA f3.text.length f3.tc,.slice f3.lA f3.list.length f3.lc,.int .i64 f4.kind,.int .u32 f4.n,.slice f4.tA f4.text.length f4.tc,.slice f4.lA f4.list.length f4.lc] (by simp[BR,FD.cells]);refine AG 12 rfl (by kernel_rfl) hI4 (fun K hK=>?_);rw[if_pos (by kernel_rfl)];go_simp
 refine hK _ _ ?_;clear hK K;have PL:Only [] x4 (x4.alloc (.cells #[.int .i64 f1.kind,.int .u32 f1.n,.slice f1.tA f1.text.length f1.tc,.slice f1.lA f1.list.length f1.lc,.int .i64 f2.kind,.int .u32 f2.n,.slice f2.tA f2.text.length f2.tc,.slice f2.lA f2.list.length f2.lc,.int .i64 f3.kind,.int .u32 f3.n,.slice f3.tA f3.text.length f3.tc,.slice f3.lA f3.list.length f3.lc,.int .i64 f4.kind,.int .u32 f4.n,.slice f4.tA f4.text.length f4.tc,.slice f4.lA f4.list.length f4.lc] 123)):=(Only.refl _ _).alloc _;have hIL:(fun w':World=>Blk w' w.heap.size 24 [.int .u32 a,.int .u32 b,.int .u32 c,.int .u32 d]) (x4.alloc (.cells #[.int .i64 f1.kind,.int .u32 f1.n,.slice f1.tA f1.text.length f1.tc,.slice f1.lA f1.list.length f1.lc,.int .i64 f2.kind,.int .u32 f2.n,.slice f2.tA f2.text.length f2.tc,.slice f2.lA f2.list.length f2.lc,.int .i64 f3.kind,.int .u32 f3.n,.slice f3.tA f3.text.length f3.tc,.slice f3.lA f3.list.length f3.lc,.int .i64 f4.kind,.int .u32 f4.n,.slice f4.tA f4.text.length f4.tc,.slice f4.lA f4.list.length f4.lc] 123)):=hI4.alloc _;refine wpAnyE_tg 13 (v:=(.slice (some ⟨x4.heap.size,0,none⟩) 4 4)) rfl hIL ?_;refine AT (by kernel_rfl) hIL ?_;(try simp only[Exit.then])
 go_wp2_with fail
 go_ret
 refine⟨R4.trans PL (by simp),_,_,rfl,V.mono R4.size,?_,fun x hx=>?_,fun x hx=>?_⟩;·simp only[List.map_cons,List.map_nil,hp1,hp2,hp3,hp4]<;>rfl
 ·simp only[List.mem_cons,List.not_mem_nil,or_false] at hx;rcases hx with rfl|rfl|rfl|rfl;·exact⟨ok1.only PL,BU ok1 _ _⟩
  ·exact⟨ok2.only PL,BU ok2 _ _⟩
  ·exact⟨ok3.only PL,BU ok3 _ _⟩
  ·exact⟨ok4.only PL,BU ok4 _ _⟩
 ·simp only[List.mem_cons,List.not_mem_nil,or_false] at hx;rcases hx with rfl|rfl|rfl|rfl;·exact hn1
  ·exact hn2
  ·exact hn3
  ·exact hn4
theorem YZ (m:RQ) (w:World) (hk:m.kind=4) (ok:m.ok w) (hs:m.text.size≤140737488355328) (hv:m.value.size≤140737488355328) (hl:m.lang.size≤140737488355328):Calls Tryz.prog 60 #[m.val] w (BB w (AP m 4)):=by
 obtain⟨w0,hw0⟩: ∃w0,w0=w.alloc (.cells #[.int .i64 m.kind,.string m.text,.string m.value,.string m.lang,.int .u32 m.cols,.int .u32 m.rows,.int .u32 m.width,.int .u32 m.height,.slice m.mA m.modes.length m.mc,.bool m.on,.int .u32 m.code] 63):=⟨_,rfl⟩;have P0:Only [] w w0:=by rw[hw0];exact(Only.refl _ _).alloc _
 have K0:Blk w0 w.heap.size 63 m.cells:=by rw[hw0];exact Blk.new w _ _
 unfold RQ.val;have a0:w0.cell? ⟨w.heap.size,0,none⟩=some (.int .i64 m.kind):=K0.cell 0;have a1:w0.cell? ⟨w.heap.size,1,none⟩=some (.string m.text):=K0.cell 1;have a2:w0.cell? ⟨w.heap.size,2,none⟩=some (.string m.value):=K0.cell 2;have a3:w0.cell? ⟨w.heap.size,3,none⟩=some (.string m.lang):=K0.cell 3;have a4:w0.cell? ⟨w.heap.size,4,none⟩=some (.int .u32 m.cols):=K0.cell 4;have a5:w0.cell? ⟨w.heap.size,5,none⟩=some (.int .u32 m.rows):=K0.cell 5;have a6:w0.cell? ⟨w.heap.size,6,none⟩=some (.int .u32 m.width):=K0.cell 6;have a7:w0.cell? ⟨w.heap.size,7,none⟩=some (.int .u32 m.height):=K0.cell 7;have a8:w0.cell? ⟨w.heap.size,8,none⟩=some (.slice m.mA m.modes.length m.mc):=K0.cell 8;have a9:w0.cell? ⟨w.heap.size,9,none⟩=some (.bool m.on):=K0.cell 9;have a10:w0.cell? ⟨w.heap.size,10,none⟩=some (.int .u32 m.code):=K0.cell 10;rw[hk] at hw0 a0⊢;replace hk:=AB hk;go_enter Tryz.func60,Tryz.ntmps60
 go_wp2_with fail
 rw[←hw0];replace hw0:=AB hw0;have TX:=DP m.text w0 hs;go_call TX as e w1 ⟨P1,f,rfl,hp,hnew,okf,hn⟩
 have V:=CH w1 [f] 1 rfl (by decide) f.cells.toArray (by simp[BR]);have P2:Only [] w1 (w1.alloc (.cells f.cells.toArray 123)):=(Only.refl _ _).alloc _;have R1:Only [] w w1:=P0.trans P1 (by simp);unfold FD.val;go_wp2_with fail
 go_ret
 refine⟨R1.trans P2 (by simp),_,[f],rfl,V.mono R1.size,?_,fun x hx=>?_,fun x hx=>?_⟩;·rw[List.map_cons,hp];rfl
 ·rw[List.mem_singleton] at hx;subst hx;exact⟨okf.only P2,BU okf 1 1⟩
 ·rw[List.mem_singleton] at hx;subst hx;exact hn
theorem ZA (m:RQ) (w:World) (hk:m.kind=5) (ok:m.ok w) (hs:m.text.size≤140737488355328) (hv:m.value.size≤140737488355328) (hl:m.lang.size≤140737488355328):Calls Tryz.prog 60 #[m.val] w (BB w (AP m 5)):=by
 obtain⟨w0,hw0⟩: ∃w0,w0=w.alloc (.cells #[.int .i64 m.kind,.string m.text,.string m.value,.string m.lang,.int .u32 m.cols,.int .u32 m.rows,.int .u32 m.width,.int .u32 m.height,.slice m.mA m.modes.length m.mc,.bool m.on,.int .u32 m.code] 63):=⟨_,rfl⟩;have P0:Only [] w w0:=by rw[hw0];exact(Only.refl _ _).alloc _
 have K0:Blk w0 w.heap.size 63 m.cells:=by rw[hw0];exact Blk.new w _ _
 unfold RQ.val;have a0:w0.cell? ⟨w.heap.size,0,none⟩=some (.int .i64 m.kind):=K0.cell 0;have a1:w0.cell? ⟨w.heap.size,1,none⟩=some (.string m.text):=K0.cell 1;have a2:w0.cell? ⟨w.heap.size,2,none⟩=some (.string m.value):=K0.cell 2;have a3:w0.cell? ⟨w.heap.size,3,none⟩=some (.string m.lang):=K0.cell 3;have a4:w0.cell? ⟨w.heap.size,4,none⟩=some (.int .u32 m.cols):=K0.cell 4;have a5:w0.cell? ⟨w.heap.size,5,none⟩=some (.int .u32 m.rows):=K0.cell 5;have a6:w0.cell? ⟨w.heap.size,6,none⟩=some (.int .u32 m.width):=K0.cell 6;have a7:w0.cell? ⟨w.heap.size,7,none⟩=some (.int .u32 m.height):=K0.cell 7;have a8:w0.cell? ⟨w.heap.size,8,none⟩=some (.slice m.mA m.modes.length m.mc):=K0.cell 8;have a9:w0.cell? ⟨w.heap.size,9,none⟩=some (.bool m.on):=K0.cell 9;have a10:w0.cell? ⟨w.heap.size,10,none⟩=some (.int .u32 m.code):=K0.cell 10;rw[hk] at hw0 a0⊢;replace hk:=AB hk;go_enter Tryz.func60,Tryz.ntmps60
 go_wp2_with fail
 rw[←hw0];replace hw0:=AB hw0;have TX:=DP m.text w0 hs;go_call TX as e w1 ⟨P1,f,rfl,hp,hnew,okf,hn⟩
 have V:=CH w1 [f] 1 rfl (by decide) f.cells.toArray (by simp[BR]);have P2:Only [] w1 (w1.alloc (.cells f.cells.toArray 123)):=(Only.refl _ _).alloc _;have R1:Only [] w w1:=P0.trans P1 (by simp);unfold FD.val;go_wp2_with fail
 go_ret
 refine⟨R1.trans P2 (by simp),_,[f],rfl,V.mono R1.size,?_,fun x hx=>?_,fun x hx=>?_⟩;·rw[List.map_cons,hp];rfl
 ·rw[List.mem_singleton] at hx;subst hx;exact⟨okf.only P2,BU okf 1 1⟩
 ·rw[List.mem_singleton] at hx;subst hx;exact hn
theorem ZD (m:RQ) (w:World) (hk:m.kind=8) (ok:m.ok w) (hs:m.text.size≤140737488355328) (hv:m.value.size≤140737488355328) (hl:m.lang.size≤140737488355328):Calls Tryz.prog 60 #[m.val] w (BB w (AP m 8)):=by
 obtain⟨w0,hw0⟩: ∃w0,w0=w.alloc (.cells #[.int .i64 m.kind,.string m.text,.string m.value,.string m.lang,.int .u32 m.cols,.int .u32 m.rows,.int .u32 m.width,.int .u32 m.height,.slice m.mA m.modes.length m.mc,.bool m.on,.int .u32 m.code] 63):=⟨_,rfl⟩;have P0:Only [] w w0:=by rw[hw0];exact(Only.refl _ _).alloc _
 have K0:Blk w0 w.heap.size 63 m.cells:=by rw[hw0];exact Blk.new w _ _
 unfold RQ.val;have a0:w0.cell? ⟨w.heap.size,0,none⟩=some (.int .i64 m.kind):=K0.cell 0;have a1:w0.cell? ⟨w.heap.size,1,none⟩=some (.string m.text):=K0.cell 1;have a2:w0.cell? ⟨w.heap.size,2,none⟩=some (.string m.value):=K0.cell 2;have a3:w0.cell? ⟨w.heap.size,3,none⟩=some (.string m.lang):=K0.cell 3;have a4:w0.cell? ⟨w.heap.size,4,none⟩=some (.int .u32 m.cols):=K0.cell 4;have a5:w0.cell? ⟨w.heap.size,5,none⟩=some (.int .u32 m.rows):=K0.cell 5;have a6:w0.cell? ⟨w.heap.size,6,none⟩=some (.int .u32 m.width):=K0.cell 6;have a7:w0.cell? ⟨w.heap.size,7,none⟩=some (.int .u32 m.height):=K0.cell 7;have a8:w0.cell? ⟨w.heap.size,8,none⟩=some (.slice m.mA m.modes.length m.mc):=K0.cell 8;have a9:w0.cell? ⟨w.heap.size,9,none⟩=some (.bool m.on):=K0.cell 9;have a10:w0.cell? ⟨w.heap.size,10,none⟩=some (.int .u32 m.code):=K0.cell 10;rw[hk] at hw0 a0⊢;replace hk:=AB hk;go_enter Tryz.func60,Tryz.ntmps60
 go_wp2_with fail
 rw[←hw0];replace hw0:=AB hw0;have TX:=DP m.text w0 hs;go_call TX as e w1 ⟨P1,f,rfl,hp,hnew,okf,hn⟩
 have V:=CH w1 [f] 1 rfl (by decide) f.cells.toArray (by simp[BR]);have P2:Only [] w1 (w1.alloc (.cells f.cells.toArray 123)):=(Only.refl _ _).alloc _;have R1:Only [] w w1:=P0.trans P1 (by simp);unfold FD.val;go_wp2_with fail
 go_ret
 refine⟨R1.trans P2 (by simp),_,[f],rfl,V.mono R1.size,?_,fun x hx=>?_,fun x hx=>?_⟩;·rw[List.map_cons,hp];rfl
 ·rw[List.mem_singleton] at hx;subst hx;exact⟨okf.only P2,BU okf 1 1⟩
 ·rw[List.mem_singleton] at hx;subst hx;exact hn
theorem ZB (m:RQ) (w:World) (hk:m.kind=6) (ok:m.ok w) (hs:m.text.size≤140737488355328) (hv:m.value.size≤140737488355328) (hl:m.lang.size≤140737488355328):Calls Tryz.prog 60 #[m.val] w (BB w (AP m 6)):=by
 obtain⟨w0,hw0⟩: ∃w0,w0=w.alloc (.cells #[.int .i64 m.kind,.string m.text,.string m.value,.string m.lang,.int .u32 m.cols,.int .u32 m.rows,.int .u32 m.width,.int .u32 m.height,.slice m.mA m.modes.length m.mc,.bool m.on,.int .u32 m.code] 63):=⟨_,rfl⟩;have P0:Only [] w w0:=by rw[hw0];exact(Only.refl _ _).alloc _
 have K0:Blk w0 w.heap.size 63 m.cells:=by rw[hw0];exact Blk.new w _ _
 unfold RQ.val;have a0:w0.cell? ⟨w.heap.size,0,none⟩=some (.int .i64 m.kind):=K0.cell 0;have a1:w0.cell? ⟨w.heap.size,1,none⟩=some (.string m.text):=K0.cell 1;have a2:w0.cell? ⟨w.heap.size,2,none⟩=some (.string m.value):=K0.cell 2;have a3:w0.cell? ⟨w.heap.size,3,none⟩=some (.string m.lang):=K0.cell 3;have a4:w0.cell? ⟨w.heap.size,4,none⟩=some (.int .u32 m.cols):=K0.cell 4;have a5:w0.cell? ⟨w.heap.size,5,none⟩=some (.int .u32 m.rows):=K0.cell 5;have a6:w0.cell? ⟨w.heap.size,6,none⟩=some (.int .u32 m.width):=K0.cell 6;have a7:w0.cell? ⟨w.heap.size,7,none⟩=some (.int .u32 m.height):=K0.cell 7;have a8:w0.cell? ⟨w.heap.size,8,none⟩=some (.slice m.mA m.modes.length m.mc):=K0.cell 8;have a9:w0.cell? ⟨w.heap.size,9,none⟩=some (.bool m.on):=K0.cell 9;have a10:w0.cell? ⟨w.heap.size,10,none⟩=some (.int .u32 m.code):=K0.cell 10;rw[hk] at hw0 a0⊢;replace hk:=AB hk;go_enter Tryz.func60,Tryz.ntmps60
 go_wp2_with fail
 rw[←hw0];replace hw0:=AB hw0;have TX:=EO m.cols m.rows m.width m.height w0 ok.nums.1 ok.nums.2.1 ok.nums.2.2.1 ok.nums.2.2.2.1;go_call TX as e w1 ⟨P1,v,fs,rfl,V,hp,M,N⟩
 have R1:Only [] w w1:=P0.trans P1 (by simp);go_wp2_with fail
 go_ret
 exact⟨R1,v,fs,rfl,V.mono P0.size,hp,M,N⟩
theorem ZC (m:RQ) (w:World) (hk:m.kind=7) (ok:m.ok w) (hs:m.text.size≤140737488355328) (hv:m.value.size≤140737488355328) (hl:m.lang.size≤140737488355328):Calls Tryz.prog 60 #[m.val] w (BB w (AP m 7)):=by
 obtain⟨w0,hw0⟩: ∃w0,w0=w.alloc (.cells #[.int .i64 m.kind,.string m.text,.string m.value,.string m.lang,.int .u32 m.cols,.int .u32 m.rows,.int .u32 m.width,.int .u32 m.height,.slice m.mA m.modes.length m.mc,.bool m.on,.int .u32 m.code] 63):=⟨_,rfl⟩;have P0:Only [] w w0:=by rw[hw0];exact(Only.refl _ _).alloc _
 have K0:Blk w0 w.heap.size 63 m.cells:=by rw[hw0];exact Blk.new w _ _
 unfold RQ.val;have a0:w0.cell? ⟨w.heap.size,0,none⟩=some (.int .i64 m.kind):=K0.cell 0;have a1:w0.cell? ⟨w.heap.size,1,none⟩=some (.string m.text):=K0.cell 1;have a2:w0.cell? ⟨w.heap.size,2,none⟩=some (.string m.value):=K0.cell 2;have a3:w0.cell? ⟨w.heap.size,3,none⟩=some (.string m.lang):=K0.cell 3;have a4:w0.cell? ⟨w.heap.size,4,none⟩=some (.int .u32 m.cols):=K0.cell 4;have a5:w0.cell? ⟨w.heap.size,5,none⟩=some (.int .u32 m.rows):=K0.cell 5;have a6:w0.cell? ⟨w.heap.size,6,none⟩=some (.int .u32 m.width):=K0.cell 6;have a7:w0.cell? ⟨w.heap.size,7,none⟩=some (.int .u32 m.height):=K0.cell 7;have a8:w0.cell? ⟨w.heap.size,8,none⟩=some (.slice m.mA m.modes.length m.mc):=K0.cell 8;have a9:w0.cell? ⟨w.heap.size,9,none⟩=some (.bool m.on):=K0.cell 9;have a10:w0.cell? ⟨w.heap.size,10,none⟩=some (.int .u32 m.code):=K0.cell 10;rw[hk] at hw0 a0⊢;replace hk:=AB hk;go_enter Tryz.func60,Tryz.ntmps60
 go_wp2_with fail
 rw[←hw0];replace hw0:=AB hw0;have TX:=RN m.on w0;go_call TX as e w1 ⟨P1,f,rfl,hp,hnew,okf,hn⟩
 have V:=CH w1 [f] 1 rfl (by decide) f.cells.toArray (by simp[BR]);have P2:Only [] w1 (w1.alloc (.cells f.cells.toArray 123)):=(Only.refl _ _).alloc _;have R1:Only [] w w1:=P0.trans P1 (by simp);unfold FD.val;go_wp2_with fail
 go_ret
 refine⟨R1.trans P2 (by simp),_,[f],rfl,V.mono R1.size,?_,fun x hx=>?_,fun x hx=>?_⟩;·rw[List.map_cons,hp];rfl
 ·rw[List.mem_singleton] at hx;subst hx;exact⟨okf.only P2,BU okf 1 1⟩
 ·rw[List.mem_singleton] at hx;subst hx;exact hn
theorem ZE (m:RQ) (w:World) (hk:m.kind=9) (ok:m.ok w) (hs:m.text.size≤140737488355328) (hv:m.value.size≤140737488355328) (hl:m.lang.size≤140737488355328):Calls Tryz.prog 60 #[m.val] w (BB w (AP m 9)):=by
 obtain⟨w0,hw0⟩: ∃w0,w0=w.alloc (.cells #[.int .i64 m.kind,.string m.text,.string m.value,.string m.lang,.int .u32 m.cols,.int .u32 m.rows,.int .u32 m.width,.int .u32 m.height,.slice m.mA m.modes.length m.mc,.bool m.on,.int .u32 m.code] 63):=⟨_,rfl⟩;have P0:Only [] w w0:=by rw[hw0];exact(Only.refl _ _).alloc _
 have K0:Blk w0 w.heap.size 63 m.cells:=by rw[hw0];exact Blk.new w _ _
 unfold RQ.val;have a0:w0.cell? ⟨w.heap.size,0,none⟩=some (.int .i64 m.kind):=K0.cell 0;have a1:w0.cell? ⟨w.heap.size,1,none⟩=some (.string m.text):=K0.cell 1;have a2:w0.cell? ⟨w.heap.size,2,none⟩=some (.string m.value):=K0.cell 2;have a3:w0.cell? ⟨w.heap.size,3,none⟩=some (.string m.lang):=K0.cell 3;have a4:w0.cell? ⟨w.heap.size,4,none⟩=some (.int .u32 m.cols):=K0.cell 4;have a5:w0.cell? ⟨w.heap.size,5,none⟩=some (.int .u32 m.rows):=K0.cell 5;have a6:w0.cell? ⟨w.heap.size,6,none⟩=some (.int .u32 m.width):=K0.cell 6;have a7:w0.cell? ⟨w.heap.size,7,none⟩=some (.int .u32 m.height):=K0.cell 7;have a8:w0.cell? ⟨w.heap.size,8,none⟩=some (.slice m.mA m.modes.length m.mc):=K0.cell 8;have a9:w0.cell? ⟨w.heap.size,9,none⟩=some (.bool m.on):=K0.cell 9;have a10:w0.cell? ⟨w.heap.size,10,none⟩=some (.int .u32 m.code):=K0.cell 10;rw[hk] at hw0 a0⊢;replace hk:=AB hk;go_enter Tryz.func60,Tryz.ntmps60
 go_wp2_with fail
 rw[←hw0];replace hw0:=AB hw0;have TX:=GA m.code w0 ok.nums.2.2.2.2;go_call TX as e w1 ⟨P1,f,rfl,hp,hnew,okf,hn⟩
 have V:=CH w1 [f] 1 rfl (by decide) f.cells.toArray (by simp[BR]);have P2:Only [] w1 (w1.alloc (.cells f.cells.toArray 123)):=(Only.refl _ _).alloc _;have R1:Only [] w w1:=P0.trans P1 (by simp);unfold FD.val;go_wp2_with fail
 go_ret
 refine⟨R1.trans P2 (by simp),_,[f],rfl,V.mono R1.size,?_,fun x hx=>?_,fun x hx=>?_⟩;·rw[List.map_cons,hp];rfl
 ·rw[List.mem_singleton] at hx;subst hx;exact⟨okf.only P2,BU okf 1 1⟩
 ·rw[List.mem_singleton] at hx;subst hx;exact hn
theorem YY (m:RQ) (w:World) (hk:m.kind=3) (ok:m.ok w) (hs:m.text.size≤140737488355328) (hv:m.value.size≤140737488355328) (hl:m.lang.size≤140737488355328):Calls Tryz.prog 60 #[m.val] w (BB w (AP m 3)):=by
 obtain⟨w0,hw0⟩: ∃w0,w0=w.alloc (.cells #[.int .i64 m.kind,.string m.text,.string m.value,.string m.lang,.int .u32 m.cols,.int .u32 m.rows,.int .u32 m.width,.int .u32 m.height,.slice m.mA m.modes.length m.mc,.bool m.on,.int .u32 m.code] 63):=⟨_,rfl⟩;have P0:Only [] w w0:=by rw[hw0];exact(Only.refl _ _).alloc _
 have K0:Blk w0 w.heap.size 63 m.cells:=by rw[hw0];exact Blk.new w _ _
 unfold RQ.val;have a0:w0.cell? ⟨w.heap.size,0,none⟩=some (.int .i64 m.kind):=K0.cell 0;have a1:w0.cell? ⟨w.heap.size,1,none⟩=some (.string m.text):=K0.cell 1;have a2:w0.cell? ⟨w.heap.size,2,none⟩=some (.string m.value):=K0.cell 2;have a3:w0.cell? ⟨w.heap.size,3,none⟩=some (.string m.lang):=K0.cell 3;have a4:w0.cell? ⟨w.heap.size,4,none⟩=some (.int .u32 m.cols):=K0.cell 4;have a5:w0.cell? ⟨w.heap.size,5,none⟩=some (.int .u32 m.rows):=K0.cell 5;have a6:w0.cell? ⟨w.heap.size,6,none⟩=some (.int .u32 m.width):=K0.cell 6;have a7:w0.cell? ⟨w.heap.size,7,none⟩=some (.int .u32 m.height):=K0.cell 7;have a8:w0.cell? ⟨w.heap.size,8,none⟩=some (.slice m.mA m.modes.length m.mc):=K0.cell 8;have a9:w0.cell? ⟨w.heap.size,9,none⟩=some (.bool m.on):=K0.cell 9;have a10:w0.cell? ⟨w.heap.size,10,none⟩=some (.int .u32 m.code):=K0.cell 10;rw[hk] at hw0 a0⊢;replace hk:=AB hk;go_enter Tryz.func60,Tryz.ntmps60
 go_wp2_with fail
 rw[←hw0];go_ret
 exact⟨P0,_,[],rfl,KK _ _,rfl,fun f hf=>by simp at hf,fun f hf=>by simp at hf⟩
end Go.Proofs.YtdplnedpbkpgpaaGreatDoor
namespace Go.Proofs.YtdplnedpbkpgpaaGreatDoor
open Go.RowKit
theorem YX (m:RQ) (w:World) (hk:m.kind=2) (ok:m.ok w) (hs:m.text.size≤140737488355328) (hv:m.value.size≤140737488355328) (hl:m.lang.size≤140737488355328):Calls Tryz.prog 60 #[m.val] w (BB w (AP m 2)):=by
 obtain⟨w0,hw0⟩: ∃w0,w0=w.alloc (.cells #[.int .i64 m.kind,.string m.text,.string m.value,.string m.lang,.int .u32 m.cols,.int .u32 m.rows,.int .u32 m.width,.int .u32 m.height,.slice m.mA m.modes.length m.mc,.bool m.on,.int .u32 m.code] 63):=⟨_,rfl⟩;have P0:Only [] w w0:=by rw[hw0];exact(Only.refl _ _).alloc _
 have K0:Blk w0 w.heap.size 63 m.cells:=by rw[hw0];exact Blk.new w _ _
 unfold RQ.val;have a0:w0.cell? ⟨w.heap.size,0,none⟩=some (.int .i64 m.kind):=K0.cell 0;have a1:w0.cell? ⟨w.heap.size,1,none⟩=some (.string m.text):=K0.cell 1;have a2:w0.cell? ⟨w.heap.size,2,none⟩=some (.string m.value):=K0.cell 2;have a3:w0.cell? ⟨w.heap.size,3,none⟩=some (.string m.lang):=K0.cell 3;have a4:w0.cell? ⟨w.heap.size,4,none⟩=some (.int .u32 m.cols):=K0.cell 4;have a5:w0.cell? ⟨w.heap.size,5,none⟩=some (.int .u32 m.rows):=K0.cell 5;have a6:w0.cell? ⟨w.heap.size,6,none⟩=some (.int .u32 m.width):=K0.cell 6;have a7:w0.cell? ⟨w.heap.size,7,none⟩=some (.int .u32 m.height):=K0.cell 7;have a8:w0.cell? ⟨w.heap.size,8,none⟩=some (.slice m.mA m.modes.length m.mc):=K0.cell 8;have a9:w0.cell? ⟨w.heap.size,9,none⟩=some (.bool m.on):=K0.cell 9;have a10:w0.cell? ⟨w.heap.size,10,none⟩=some (.int .u32 m.code):=K0.cell 10;rw[hk] at hw0 a0⊢;replace hk:=AB hk;go_enter Tryz.func60,Tryz.ntmps60
 go_wp2_with fail
 rw[←hw0];replace hw0:=AB hw0;have hI:(fun w':World=>Blk w' w.heap.size 63 m.cells) { w0 with drawn:=w0.drawn+1 }:=K0;refine AV (fun w':World=>Blk w' w.heap.size 63 m.cells) [] (by kernel_rfl) ?_;refine wpAnyE_tg 0 (v:=(.pointer (some ⟨w.heap.size,1,none⟩))) rfl hI ?_;refine wpAnyE_tk 1 (v:=(.string m.text)) rfl hI (fun w' hw'=>by have y0:w'.cell? ⟨w.heap.size,1,none⟩=some (.string m.text):=hw'.cell 1;go_simp) ?_;refine wpAnyE_tg 3 (v:=(.pointer (some ⟨w.heap.size,2,none⟩))) rfl hI ?_;refine wpAnyE_tk 4 (v:=(.string m.value)) rfl hI (fun w' hw'=>by have y0:w'.cell? ⟨w.heap.size,2,none⟩=some (.string m.value):=hw'.cell 2;go_simp) ?_;have R0:Only [] w w0.drew:=P0.drew;have T:=DP m.text w0.drew hs;refine AG 2 rfl (by kernel_rfl) hI (fun K hK=>?_);rw[if_pos (by kernel_rfl)];go_simp
 go_call T as e x1 ⟨Q1,f1,rfl,hp1,hnew1,ok1,hn1⟩
 clear T;have R1:Only [] w x1:=R0.trans Q1 (by simp);have hI1:(fun w':World=>Blk w' w.heap.size 63 m.cells) x1:=Blk.only (Blk.drew K0) Q1 (by simp);refine hK _ _ ?_;clear hK K;unfold FD.val;have T:=DP m.value x1 hv;refine AG 5 rfl (by kernel_rfl) hI1 (fun K hK=>?_);rw[if_pos (by kernel_rfl)];go_simp
 go_call T as e x2 ⟨Q2,f2,rfl,hp2,hnew2,ok2,hn2⟩
 clear T;have R2:Only [] w x2:=R1.trans Q2 (by simp);have hI2:(fun w':World=>Blk w' w.heap.size 63 m.cells) x2:=hI1.only Q2 (by simp);have ok1:=ok1.only Q2;refine hK _ _ ?_;clear hK K;unfold FD.val;have V:=CH x2 [f1,f2] 2 rfl (by decide) #[.int .i64 f1.kind,.int .u32 f1.n,.slice f1.tA f1.text.length f1.tc,.slice f1.lA f1.list.length f1.lc,.int .i64 f2.kind,.int .u32 f2.n,.slice f2.tA f2.text.length f2.tc,.slice f2.lA f2.list.length f2.lc] (by simp[BR,FD.cells]);refine AG 6 rfl (by kernel_rfl) hI2 (fun K hK=>?_);rw[if_pos (by kernel_rfl)];go_simp
 refine hK _ _ ?_;clear hK K;have PL:Only [] x2 (x2.alloc (.cells #[.int .i64 f1.kind,.int .u32 f1.n,.slice f1.tA f1.text.length f1.tc,.slice f1.lA f1.list.length f1.lc,.int .i64 f2.kind,.int .u32 f2.n,.slice f2.tA f2.text.length f2.tc,.slice f2.lA f2.list.length f2.lc] 123)):=(Only.refl _ _).alloc _;have hIL:(fun w':World=>Blk w' w.heap.size 63 m.cells) (x2.alloc (.cells #[.int .i64 f1.kind,.int .u32 f1.n,.slice f1.tA f1.text.length f1.tc,.slice f1.lA f1.list.length f1.lc,.int .i64 f2.kind,.int .u32 f2.n,.slice f2.tA f2.text.length f2.tc,.slice f2.lA f2.list.length f2.lc] 123)):=hI2.alloc _;refine wpAnyE_tg 7 (v:=(.slice (some ⟨x2.heap.size,0,none⟩) 2 2)) rfl hIL ?_;refine AT (by kernel_rfl) hIL ?_;(try simp only[Exit.then])
 go_wp2_with fail
 go_ret
 refine⟨R2.trans PL (by simp),_,_,rfl,V.mono R2.size,?_,fun x hx=>?_,fun x hx=>?_⟩;·simp only[List.map_cons,List.map_nil,hp1,hp2]<;>rfl
 ·simp only[List.mem_cons,List.not_mem_nil,or_false] at hx;rcases hx with rfl|rfl;·exact⟨ok1.only PL,BU ok1 _ _⟩
  ·exact⟨ok2.only PL,BU ok2 _ _⟩
 ·simp only[List.mem_cons,List.not_mem_nil,or_false] at hx;rcases hx with rfl|rfl;·exact hn1
  ·exact hn2
theorem VY (m:RQ) (w:World) (hk:m.kind=10) (ok:m.ok w) (hs:m.text.size≤140737488355328) (hv:m.value.size≤140737488355328) (hl:m.lang.size≤140737488355328):Calls Tryz.prog 60 #[m.val] w (BB w (AP m 10)):=by
 obtain⟨w0,hw0⟩: ∃w0,w0=w.alloc (.cells #[.int .i64 m.kind,.string m.text,.string m.value,.string m.lang,.int .u32 m.cols,.int .u32 m.rows,.int .u32 m.width,.int .u32 m.height,.slice m.mA m.modes.length m.mc,.bool m.on,.int .u32 m.code] 63):=⟨_,rfl⟩;have P0:Only [] w w0:=by rw[hw0];exact(Only.refl _ _).alloc _
 have K0:Blk w0 w.heap.size 63 m.cells:=by rw[hw0];exact Blk.new w _ _
 unfold RQ.val;have a0:w0.cell? ⟨w.heap.size,0,none⟩=some (.int .i64 m.kind):=K0.cell 0;have a1:w0.cell? ⟨w.heap.size,1,none⟩=some (.string m.text):=K0.cell 1;have a2:w0.cell? ⟨w.heap.size,2,none⟩=some (.string m.value):=K0.cell 2;have a3:w0.cell? ⟨w.heap.size,3,none⟩=some (.string m.lang):=K0.cell 3;have a4:w0.cell? ⟨w.heap.size,4,none⟩=some (.int .u32 m.cols):=K0.cell 4;have a5:w0.cell? ⟨w.heap.size,5,none⟩=some (.int .u32 m.rows):=K0.cell 5;have a6:w0.cell? ⟨w.heap.size,6,none⟩=some (.int .u32 m.width):=K0.cell 6;have a7:w0.cell? ⟨w.heap.size,7,none⟩=some (.int .u32 m.height):=K0.cell 7;have a8:w0.cell? ⟨w.heap.size,8,none⟩=some (.slice m.mA m.modes.length m.mc):=K0.cell 8;have a9:w0.cell? ⟨w.heap.size,9,none⟩=some (.bool m.on):=K0.cell 9;have a10:w0.cell? ⟨w.heap.size,10,none⟩=some (.int .u32 m.code):=K0.cell 10;rw[hk] at hw0 a0⊢;replace hk:=AB hk;go_enter Tryz.func60,Tryz.ntmps60
 go_wp2_with fail
 rw[←hw0];replace hw0:=AB hw0;have hI:(fun w':World=>Blk w' w.heap.size 63 m.cells) { w0 with drawn:=w0.drawn+1 }:=K0;refine AV (fun w':World=>Blk w' w.heap.size 63 m.cells) [] (by kernel_rfl) ?_;refine wpAnyE_tg 0 (v:=(.pointer (some ⟨w.heap.size,1,none⟩))) rfl hI ?_;refine wpAnyE_tk 1 (v:=(.string m.text)) rfl hI (fun w' hw'=>by have y0:w'.cell? ⟨w.heap.size,1,none⟩=some (.string m.text):=hw'.cell 1;go_simp) ?_;refine wpAnyE_tg 3 (v:=(.pointer (some ⟨w.heap.size,9,none⟩))) rfl hI ?_;refine wpAnyE_tk 4 (v:=(.bool m.on)) rfl hI (fun w' hw'=>by have y0:w'.cell? ⟨w.heap.size,9,none⟩=some (.bool m.on):=hw'.cell 9;go_simp) ?_;refine wpAnyE_tg 6 (v:=(.pointer (some ⟨w.heap.size,2,none⟩))) rfl hI ?_;refine wpAnyE_tk 7 (v:=(.string m.value)) rfl hI (fun w' hw'=>by have y0:w'.cell? ⟨w.heap.size,2,none⟩=some (.string m.value):=hw'.cell 2;go_simp) ?_;refine wpAnyE_tg 9 (v:=(.pointer (some ⟨w.heap.size,3,none⟩))) rfl hI ?_;refine wpAnyE_tk 10 (v:=(.string m.lang)) rfl hI (fun w' hw'=>by have y0:w'.cell? ⟨w.heap.size,3,none⟩=some (.string m.lang):=hw'.cell 3;go_simp) ?_;have R0:Only [] w w0.drew:=P0.drew;have T:=DP m.text w0.drew hs;refine AG 2 rfl (by kernel_rfl) hI (fun K hK=>?_);rw[if_pos (by kernel_rfl)];go_simp
 go_call T as e x1 ⟨Q1,f1,rfl,hp1,hnew1,ok1,hn1⟩
 clear T;have R1:Only [] w x1:=R0.trans Q1 (by simp);have hI1:(fun w':World=>Blk w' w.heap.size 63 m.cells) x1:=Blk.only (Blk.drew K0) Q1 (by simp);refine hK _ _ ?_;clear hK K;unfold FD.val;have T:=RN m.on x1;refine AG 5 rfl (by kernel_rfl) hI1 (fun K hK=>?_);rw[if_pos (by kernel_rfl)];go_simp
 go_call T as e x2 ⟨Q2,f2,rfl,hp2,hnew2,ok2,hn2⟩
 clear T;have R2:Only [] w x2:=R1.trans Q2 (by simp);have hI2:(fun w':World=>Blk w' w.heap.size 63 m.cells) x2:=hI1.only Q2 (by simp);have ok1:=ok1.only Q2;refine hK _ _ ?_;clear hK K;unfold FD.val;have T:=DP m.value x2 hv;refine AG 8 rfl (by kernel_rfl) hI2 (fun K hK=>?_);rw[if_pos (by kernel_rfl)];go_simp
 go_call T as e x3 ⟨Q3,f3,rfl,hp3,hnew3,ok3,hn3⟩
 clear T;have R3:Only [] w x3:=R2.trans Q3 (by simp);have hI3:(fun w':World=>Blk w' w.heap.size 63 m.cells) x3:=hI2.only Q3 (by simp);have ok1:=ok1.only Q3;have ok2:=ok2.only Q3;refine hK _ _ ?_;clear hK K;unfold FD.val;have T:=DP m.lang x3 hl;refine AG 11 rfl (by kernel_rfl) hI3 (fun K hK=>?_);rw[if_pos (by kernel_rfl)];go_simp
 go_call T as e x4 ⟨Q4,f4,rfl,hp4,hnew4,ok4,hn4⟩
 clear T;have R4:Only [] w x4:=R3.trans Q4 (by simp);have hI4:(fun w':World=>Blk w' w.heap.size 63 m.cells) x4:=hI3.only Q4 (by simp);have ok1:=ok1.only Q4;have ok2:=ok2.only Q4;have ok3:=ok3.only Q4;refine hK _ _ ?_;clear hK K;unfold FD.val;have V:=CH x4 [f1,f2,f3,f4] 4 rfl (by decide) #[.int .i64 f1.kind,.int .u32 f1.n,.slice f1.tA f1.text.length f1.tc,.slice f1.lA f1.list.length f1.lc,.int .i64 f2.kind,.int .u32 f2.n,.slice f2.tA f2.text.length f2.tc,.slice f2.lA f2.list.length f2.lc,.int .i64 f3.kind,.int .u32 f3.n,.slice f3.tA f3.text.length f3.tc,.slice f3.lA f3.list.length f3.lc,.int .i64 f4.kind,.int .u32 f4.n,.slice f4.tA f4.text.length f4.tc,.slice f4.lA f4.list.length f4.lc] (by simp[BR,FD.cells]);refine AG 12 rfl (by kernel_rfl) hI4 (fun K hK=>?_);rw[if_pos (by kernel_rfl)];go_simp
 refine hK _ _ ?_;clear hK K;have PL:Only [] x4 (x4.alloc (.cells #[.int .i64 f1.kind,.int .u32 f1.n,.slice f1.tA f1.text.length f1.tc,.slice f1.lA f1.list.length f1.lc,.int .i64 f2.kind,.int .u32 f2.n,.slice f2.tA f2.text.length f2.tc,.slice f2.lA f2.list.length f2.lc,.int .i64 f3.kind,.int .u32 f3.n,.slice f3.tA f3.text.length f3.tc,.slice f3.lA f3.list.length f3.lc,.int .i64 f4.kind,.int .u32 f4.n,.slice f4.tA f4.text.length f4.tc,.slice f4.lA f4.list.length f4.lc] 123)):=(Only.refl _ _).alloc _;have hIL:(fun w':World=>Blk w' w.heap.size 63 m.cells) (x4.alloc (.cells #[.int .i64 f1.kind,.int .u32 f1.n,.slice f1.tA f1.text.length f1.tc,.slice f1.lA f1.list.length f1.lc,.int .i64 f2.kind,.int .u32 f2.n,.slice f2.tA f2.text.length f2.tc,.slice f2.lA f2.list.length f2.lc,.int .i64 f3.kind,.int .u32 f3.n,.slice f3.tA f3.text.length f3.tc,.slice f3.lA f3.list.length f3.lc,.int .i64 f4.kind,.int .u32 f4.n,.slice f4.tA f4.text.length f4.tc,.slice f4.lA f4.list.length f4.lc] 123)):=hI4.alloc _;refine wpAnyE_tg 13 (v:=(.slice (some ⟨x4.heap.size,0,none⟩) 4 4)) rfl hIL ?_;refine AT (by kernel_rfl) hIL ?_;(try simp only[Exit.then])
 go_wp2_with fail
 go_ret
 refine⟨R4.trans PL (by simp),_,_,rfl,V.mono R4.size,?_,fun x hx=>?_,fun x hx=>?_⟩;·simp only[List.map_cons,List.map_nil,hp1,hp2,hp3,hp4]<;>rfl
 ·simp only[List.mem_cons,List.not_mem_nil,or_false] at hx;rcases hx with rfl|rfl|rfl|rfl;·exact⟨ok1.only PL,BU ok1 _ _⟩
  ·exact⟨ok2.only PL,BU ok2 _ _⟩
  ·exact⟨ok3.only PL,BU ok3 _ _⟩
  ·exact⟨ok4.only PL,BU ok4 _ _⟩
 ·simp only[List.mem_cons,List.not_mem_nil,or_false] at hx;rcases hx with rfl|rfl|rfl|rfl;·exact hn1
  ·exact hn2
  ·exact hn3
  ·exact hn4
end Go.Proofs.YtdplnedpbkpgpaaGreatDoor
