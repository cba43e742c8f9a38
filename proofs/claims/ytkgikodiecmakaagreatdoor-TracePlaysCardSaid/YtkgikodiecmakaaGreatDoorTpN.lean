/- TracePlays: lemmas, from 'A region that draws its order: where one of three operations' on; what each asks for stands in it. -/
import Derived.Test.YtkgikodiecmakaaGreatDoorTpD
import Derived.Test.YtkgikodiecmakaaGreatDoorTpM
import Derived.Test.YtkgikodiecmakaaGreatDoorTpI
set_option linter.all false
set_option maxRecDepth 100000
set_option maxHeartbeats 64000000
namespace Go.Proofs.YtkgikodiecmakaaGreatDoor
section
variable {P : Program} {ops : Array Oper} {md : Region.Mode} {Q : Exit → Act → World → Prop} {I : World → Prop} {es : List Nat}
theorem ZM {f:Nat} {listed:Array Bool} {a:Act} {w:World} (i j k:Nat) {o p r:Oper} (ho:ops[i]? = some o) (hp:ops[j]? = some p) (hr:ops[k]? = some r) (hB:decide (Region.ready md ops listed=[i,j,k])=true) (hI:I w)
  (h: ∀K:Act→World→Prop,(∀a w,AY P md ops Q I es f (listed.setIfInBounds i true) a w→K a w)→if Region.wanted o (yielded ops a.tmps) then o.wp P a w K Q else K (a.put o.dst undef) w)
  (g: ∀K:Act→World→Prop,(∀a w,AY P md ops Q I es f (listed.setIfInBounds j true) a w→K a w)→if Region.wanted p (yielded ops a.tmps) then p.wp P a w K Q else K (a.put p.dst undef) w)
  (u: ∀K:Act→World→Prop,(∀a w,AY P md ops Q I es f (listed.setIfInBounds k true) a w→K a w)→if Region.wanted r (yielded ops a.tmps) then r.wp P a w K Q else K (a.put r.dst undef) w):AY P md ops Q I es (f+1) listed a w:=by
 have hB:=of_decide_eq_true hB;refine⟨fun _=>hI,fun h1=>(by rw[hB] at h1;cases h1),fun q hq=>?_⟩;rw[hB] at hq;rcases List.mem_cons.1 hq with rfl|hq
 ·have h2:=h (fun a' w'=>AY P md ops Q I es f (listed.setIfInBounds q true) a' w') (fun a w h=>h);unfold wpOp;simp only[ho];split at h2;·rename_i hw;simp only[hw,if_true];exact .inl h2
  ·rename_i hw;simp only[hw];exact h2
 ·rcases List.mem_cons.1 hq with rfl|hq
  ·have h2:=g (fun a' w'=>AY P md ops Q I es f (listed.setIfInBounds q true) a' w') (fun a w h=>h);unfold wpOp;simp only[hp];split at h2;·rename_i hw;simp only[hw,if_true];exact .inl h2
   ·rename_i hw;simp only[hw];exact h2
  ·obtain rfl:q=k:=by simpa using hq
   have h2:=u (fun a' w'=>AY P md ops Q I es f (listed.setIfInBounds q true) a' w') (fun a w h=>h);unfold wpOp;simp only[hr];split at h2;·rename_i hw;simp only[hw,if_true];exact .inl h2
   ·rename_i hw;simp only[hw];exact h2
end
end Go.Proofs.YtkgikodiecmakaaGreatDoor
namespace Go.Proofs.YtkgikodiecmakaaGreatDoor
open Go.RowKit
theorem BI {a b c d:Int} {fs:List FD} (h:fs.map FD.pf=[pN a,pN b,pN c,pN d]): ∀f∈fs,f.text=[]∧f.list=[]:=by
 intro f hf;have:f.pf∈fs.map FD.pf:=List.mem_map_of_mem hf;rw[h] at this;simp only[List.mem_cons,List.not_mem_nil,or_false] at this;have e1:f.text=f.pf.text:=rfl;have e2:f.list=f.pf.list:=rfl;rw[e1,e2];rcases this with e|e|e|e<;>rw[e]<;>exact⟨rfl,rfl⟩
theorem FI {m:RQ} {w x:World} {v:Value} {f1:FD} {fs2:List FD} (hm:m.ok w) (PE:Only [] w x) (V:BK FD.cells 86 4 x w.heap.size v (([f1]++fs2)++[⟨4,0,m.mA,m.mc,m.modes,none,0,[]⟩])) (M: ∀f∈[f1]++fs2,FD.ok x f∧f.off v)
  (hp1:f1.pf=pT m.text) (hp2:fs2.map FD.pf=[pN m.cols,pN m.rows,pN m.width,pN m.height]) (hn1:U32 f1.n) (hn2: ∀f∈fs2,U32 f.n):AZ w (DM m 1) (.returned v) x:=by
 refine⟨PE,v,_,rfl,V,?_,fun f hf=>?_,fun f hf=>?_⟩;·rw[List.map_append,List.map_append,List.map_cons,hp1,hp2];rfl
 ·rcases List.mem_append.1 hf with hf|hf;·exact M f hf
  ·rw[List.mem_singleton] at hf;subst hf;refine⟨⟨hm.modes.only PE,RdG.nil,hm.mle,hm.mmax,by simp,by simp,by simp⟩,fun a ha h0 hx=>?_,fun a ha=>by simp at ha⟩;have h1:=(V.block _ hx).1;have h2:=RdG.lt (mk:=.int .u8) hm.modes h0 a ha;omega
 ·rcases List.mem_append.1 hf with hf|hf
  ·rcases List.mem_append.1 hf with hf|hf;·rw[List.mem_singleton] at hf;subst hf;exact hn1
   ·exact hn2 f hf
  ·rw[List.mem_singleton] at hf;subst hf;exact⟨Int.le_refl 0,show(0:Int)≤4294967295 by decide⟩
theorem YK (m:RQ) (w:World) (hk:m.kind=1) (ok:m.ok w) (hs:m.text.size≤140737488355328) (hv:m.value.size≤140737488355328) (hl:m.lang.size≤140737488355328):Calls Tryz.prog 37 #[m.val] w (AZ w (DM m 1)):=by
 obtain⟨w0,hw0⟩: ∃w0,w0=w.alloc (.cells #[.int .i64 m.kind,.string m.text,.string m.value,.string m.lang,.int .u32 m.cols,.int .u32 m.rows,.int .u32 m.width,.int .u32 m.height,.slice m.mA m.modes.length m.mc,.bool m.on,.int .u32 m.code] 70):=⟨_,rfl⟩;have P0:Only [] w w0:=by rw[hw0];exact(Only.refl _ _).alloc _
 have K0:Blk w0 w.heap.size 70 m.cells:=by rw[hw0];exact Blk.new w _ _
 unfold RQ.val;have a0:w0.cell? ⟨w.heap.size,0,none⟩=some (.int .i64 m.kind):=K0.cell 0;have a1:w0.cell? ⟨w.heap.size,1,none⟩=some (.string m.text):=K0.cell 1;have a2:w0.cell? ⟨w.heap.size,2,none⟩=some (.string m.value):=K0.cell 2;have a3:w0.cell? ⟨w.heap.size,3,none⟩=some (.string m.lang):=K0.cell 3;have a4:w0.cell? ⟨w.heap.size,4,none⟩=some (.int .u32 m.cols):=K0.cell 4;have a5:w0.cell? ⟨w.heap.size,5,none⟩=some (.int .u32 m.rows):=K0.cell 5;have a6:w0.cell? ⟨w.heap.size,6,none⟩=some (.int .u32 m.width):=K0.cell 6;have a7:w0.cell? ⟨w.heap.size,7,none⟩=some (.int .u32 m.height):=K0.cell 7;have a8:w0.cell? ⟨w.heap.size,8,none⟩=some (.slice m.mA m.modes.length m.mc):=K0.cell 8;have a9:w0.cell? ⟨w.heap.size,9,none⟩=some (.bool m.on):=K0.cell 9;have a10:w0.cell? ⟨w.heap.size,10,none⟩=some (.int .u32 m.code):=K0.cell 10;rw[hk] at hw0 a0⊢;replace hk:=AB hk;go_enter Tryz.func37,Tryz.ntmps37
 go_wp2_with fail
 rw[←hw0];replace hw0:=AB hw0;have hI:(fun w':World=>Blk w' w.heap.size 70 m.cells) { w0 with drawn:=w0.drawn+1 }:=K0;refine BJ (fun w':World=>Blk w' w.heap.size 70 m.cells) [] (by kernel_rfl) ?_;refine wpAnyE_tg 0 (v:=(.pointer (some ⟨w.heap.size,1,none⟩))) rfl hI ?_;refine wpAnyE_tk 1 (v:=(.string m.text)) rfl hI (fun w' hw'=>by have y0:w'.cell? ⟨w.heap.size,1,none⟩=some (.string m.text):=hw'.cell 1;go_simp) ?_;refine wpAnyE_tg 4 (v:=(.pointer (some ⟨w.heap.size,4,none⟩))) rfl hI ?_;refine wpAnyE_tk 5 (v:=(.agg #[.int .u32 m.cols,.int .u32 m.rows,.int .u32 m.width,.int .u32 m.height])) rfl hI (fun w' hw'=>by have y4:w'.cell? ⟨w.heap.size,4,none⟩=some (.int .u32 m.cols):=hw'.cell 4;have y5:w'.cell? ⟨w.heap.size,5,none⟩=some (.int .u32 m.rows):=hw'.cell 5;have y6:w'.cell? ⟨w.heap.size,6,none⟩=some (.int .u32 m.width):=hw'.cell 6;have y7:w'.cell? ⟨w.heap.size,7,none⟩=some (.int .u32 m.height):=hw'.cell 7;go_simp) ?_;refine wpAnyE_tg 8 (v:=(.pointer (some ⟨w.heap.size,8,none⟩))) rfl hI ?_;refine wpAnyE_tk 9 (v:=(.slice m.mA m.modes.length m.mc)) rfl hI (fun w' hw'=>by have y0:w'.cell? ⟨w.heap.size,8,none⟩=some (.slice m.mA m.modes.length m.mc):=hw'.cell 8;go_simp) ?_;refine wpAnyE_tg 10 (v:=(.agg #[.int .i64 4,.int .u32 0,.slice m.mA m.modes.length m.mc,.slice none 0 0])) rfl hI ?_;have P1:Only [] w0 w0.drew:=(Only.refl _ _).drew;refine FV 2 11 rfl rfl (by kernel_rfl) hI (fun K hK=>?_) (fun K hK=>?_)
 ·rw[if_pos (by kernel_rfl)];have T:=DG m.text w0.drew hs;go_simp
  go_call T as e x1 ⟨Q1,f1,rfl,hp1,hnew1,ok1,hn1⟩
  clear T;have P2:Only [] w0 x1:=P1.trans Q1 (by simp);have hI1:(fun w':World=>Blk w' w.heap.size 70 m.cells) x1:=Blk.only (Blk.drew K0) Q1 (by simp);refine hK _ _ ?_;clear hK K;unfold FD.val;refine ZM 3 6 11 rfl rfl rfl (by kernel_rfl) hI1 (fun K hK=>?_) (fun K hK=>?_) (fun K hK=>?_)
  ·rw[if_pos (by kernel_rfl)];have Q2:Only [] x1 (x1.alloc (.cells #[.int .i64 f1.kind,.int .u32 f1.n,.slice f1.tA f1.text.length f1.tc,.slice f1.lA f1.list.length f1.lc] 86)):=(Only.refl [] x1).alloc _;have V1:BK FD.cells 86 4 (x1.alloc (.cells #[.int .i64 f1.kind,.int .u32 f1.n,.slice f1.tA f1.text.length f1.tc,.slice f1.lA f1.list.length f1.lc] 86)) w0.heap.size (.slice (some ⟨x1.heap.size,0,none⟩) 1 1) [f1]:=BK.mono (cf:=FD.cells) (DL x1 [f1] 1 rfl (by decide) #[.int .i64 f1.kind,.int .u32 f1.n,.slice f1.tA f1.text.length f1.tc,.slice f1.lA f1.list.length f1.lc] (by simp[CC,FD.cells])) P2.size;have off1:f1.off (.slice (some ⟨x1.heap.size,0,none⟩) 1 1):=CN ok1 1 1;have lt1:x1.heap.size<(x1.alloc (.cells #[.int .i64 f1.kind,.int .u32 f1.n,.slice f1.tA f1.text.length f1.tc,.slice f1.lA f1.list.length f1.lc] 86)).heap.size:=by simp
   obtain⟨q1,hq1⟩: ∃q,q=x1.heap.size:=⟨_,rfl⟩;go_simp
   obtain⟨x2,hx2⟩: ∃x,x=x1.alloc (.cells #[.int .i64 f1.kind,.int .u32 f1.n,.slice f1.tA f1.text.length f1.tc,.slice f1.lA f1.list.length f1.lc] 86):=⟨_,rfl⟩;rw[←hx2] at Q2 V1 lt1⊢;rw[←hq1] at V1 off1 lt1⊢;have P3:Only [] w0 x2:=P2.trans Q2 (by simp);have hI2:(fun w':World=>Blk w' w.heap.size 70 m.cells) x2:=Blk.only hI1 Q2 (by simp);have ok1:=ok1.only Q2;replace hx2:=AB hx2;replace hq1:=AB hq1;refine hK _ _ ?_;clear hK K;refine FV 6 11 rfl rfl (by kernel_rfl) hI2 (fun K hK=>?_) (fun K hK=>?_)
   ·rw[if_pos (by kernel_rfl)];have T:=EK m.cols m.rows m.width m.height x2 ok.nums.1 ok.nums.2.1 ok.nums.2.2.1 ok.nums.2.2.2.1;go_simp
    go_call T as e x3 ⟨Q3,v2,fs2,rfl,V2,hp2,M2x,hn2⟩
    clear T;replace V2:BK FD.cells 86 4 x3 w0.heap.size v2 fs2:=BK.mono (cf:=FD.cells) V2 P3.size;have M2:=fun f hf=>(M2x f hf).1;clear M2x;have P4:Only [] w0 x3:=P3.trans Q3 (by simp);have hI3:(fun w':World=>Blk w' w.heap.size 70 m.cells) x3:=Blk.only hI2 Q3 (by simp);have ok1:=ok1.only Q3;have V1:=V1.only Q3;have lt1:q1<x3.heap.size:=Nat.lt_of_lt_of_le lt1 Q3.size;obtain⟨A2,c2,rfl,hc2,hm2,_,_⟩:=V2.form;refine hK _ _ ?_;clear hK K;refine FV 7 11 rfl rfl (by kernel_rfl) hI3 (fun K hK=>?_) (fun K hK=>?_)
    ·rw[if_pos (by kernel_rfl)];have R2':RdX FD.cells x3 A2 fs2:=by obtain⟨A2',c2',e2,_,_,R2',_⟩:=V2.form;rw[(Value.slice.inj e2).1];exact R2'
     have l2:fs2.length=4:=by have:=congrArg List.length hp2;simpa using this
     refine CU (.tmp 10) (.tmp 13) FX rfl JU JT (by kernel_rfl) V1 A2 c2 fs2 _ rfl (by kernel_rfl) R2' (by simp only[maxLen,List.length_singleton];omega) (by simp only[List.length_singleton];omega) P4.size ?_;intro v7 x4 V7 Q4 G4;have V7:=V7.out;have M12: ∀f∈[f1]++fs2,FD.ok x3 f∧f.off (.slice (some ⟨q1,0,none⟩) 1 1):=fun f hf=>by
      rcases List.mem_append.1 hf with hf|hf;·rw[List.mem_singleton] at hf;subst hf;exact⟨ok1,off1⟩
      ·exact⟨M2 f hf,ER (BI hp2 f hf).1 (BI hp2 f hf).2⟩
     have M7:=BT Q4 G4.out M12;have hq1w:=(V1.block q1 rfl).1;have P5:Only [] w0 x4:=P4.trans Q4 (fun x hx=>.inr (by have h9:x=q1:=(by simpa[Value.ownBlock] using hx);omega));have hI4:(fun w':World=>Blk w' w.heap.size 70 m.cells) x4:=Blk.only hI3 Q4 (fun hx=>by have h9:w.heap.size=q1:=(by simpa[Value.ownBlock] using hx);have:=K0.lt;omega);refine hK _ _ ?_;clear hK K;refine AD 11 rfl (by kernel_rfl) hI4 (fun K hK=>?_);rw[if_pos (by kernel_rfl)];have Q5:Only [] x4 (x4.alloc (.cells #[.int .i64 4,.int .u32 0,.slice m.mA m.modes.length m.mc,.slice none 0 0] 86)):=(Only.refl [] x4).alloc _;have B3:Blk (x4.alloc (.cells #[.int .i64 4,.int .u32 0,.slice m.mA m.modes.length m.mc,.slice none 0 0] 86)) x4.heap.size 86 [.int .i64 4,.int .u32 0,.slice m.mA m.modes.length m.mc,.slice none 0 0]:=Blk.new x4 _ _;have lt3:x4.heap.size<(x4.alloc (.cells #[.int .i64 4,.int .u32 0,.slice m.mA m.modes.length m.mc,.slice none 0 0] 86)).heap.size:=by simp
     obtain⟨q3,hq3⟩: ∃q,q=x4.heap.size:=⟨_,rfl⟩;go_simp
     obtain⟨x5,hx5⟩: ∃x,x=x4.alloc (.cells #[.int .i64 4,.int .u32 0,.slice m.mA m.modes.length m.mc,.slice none 0 0] 86):=⟨_,rfl⟩;rw[←hx5] at Q5 B3 lt3⊢;rw[←hq3] at B3 lt3⊢;have P6:Only [] w0 x5:=P5.trans Q5 (by simp);have hI5:(fun w':World=>Blk w' w.heap.size 70 m.cells) x5:=Blk.only hI4 Q5 (by simp);have V7:=V7.only Q5;have M7:=fun f hf=>(⟨(M7 f hf).1.only Q5,(M7 f hf).2⟩:FD.ok x5 f∧f.off v7);replace hx5:=AB hx5;replace hq3:=AB hq3;refine hK _ _ ?_;clear hK K;refine AD 12 rfl (by kernel_rfl) hI5 (fun K hK=>?_);rw[if_pos (by kernel_rfl)];refine CU (.tmp 14) (.tmp 18) FX rfl JU JT (by kernel_rfl) V7 (some ⟨q3,0,none⟩) 1 [⟨4,0,m.mA,m.mc,m.modes,none,0,[]⟩] 1 rfl (by kernel_rfl) (HM B3) (by simp only[maxLen,List.length_append,List.length_singleton];omega) (by simp only[List.length_append,List.length_singleton];omega) P6.size ?_;intro v12 x6 V12 Q6 G6;have V12:=V12.out;have M12':=BT Q6 G6.out M7;have PE:Only [] w0 x6:=P6.trans Q6 (fun x hx=>.inr (V7.block x (by simpa using hx)).1);have hIE:(fun w':World=>Blk w' w.heap.size 70 m.cells) x6:=Blk.only hI5 Q6 (fun hx=>by have:=(V7.block w.heap.size (by simpa using hx)).1;have:=K0.lt;omega);refine hK _ _ ?_;clear hK K;refine wpAnyE_tg 13 (v:=v12) rfl hIE ?_;refine AX (by kernel_rfl) hIE ?_;(try simp only[Exit.then])
     go_wp2_with fail
     go_ret
     exact FI ok (P0.trans PE (by simp)) (V12.mono P0.size) M12' hp1 hp2 hn1 hn2
    ·rw[if_pos (by kernel_rfl)];have Q4:Only [] x3 (x3.alloc (.cells #[.int .i64 4,.int .u32 0,.slice m.mA m.modes.length m.mc,.slice none 0 0] 86)):=(Only.refl [] x3).alloc _;have B3:Blk (x3.alloc (.cells #[.int .i64 4,.int .u32 0,.slice m.mA m.modes.length m.mc,.slice none 0 0] 86)) x3.heap.size 86 [.int .i64 4,.int .u32 0,.slice m.mA m.modes.length m.mc,.slice none 0 0]:=Blk.new x3 _ _;have lt3:x3.heap.size<(x3.alloc (.cells #[.int .i64 4,.int .u32 0,.slice m.mA m.modes.length m.mc,.slice none 0 0] 86)).heap.size:=by simp
     have g13: ¬q1=x3.heap.size:=by have:=lt1;omega
     obtain⟨q3,hq3⟩: ∃q,q=x3.heap.size:=⟨_,rfl⟩;go_simp
     obtain⟨x4,hx4⟩: ∃x,x=x3.alloc (.cells #[.int .i64 4,.int .u32 0,.slice m.mA m.modes.length m.mc,.slice none 0 0] 86):=⟨_,rfl⟩;rw[←hx4] at Q4 B3 lt3⊢;rw[←hq3] at B3 lt3 g13⊢;have P5:Only [] w0 x4:=P4.trans Q4 (by simp);have hI4:(fun w':World=>Blk w' w.heap.size 70 m.cells) x4:=Blk.only hI3 Q4 (by simp);have ok1:=ok1.only Q4;have V1:=V1.only Q4;have lt1:q1<x4.heap.size:=Nat.lt_of_lt_of_le lt1 Q4.size;have V2:=V2.only Q4;have M2:=fun f hf=>(M2 f hf).only Q4;replace hx4:=AB hx4;replace hq3:=AB hq3;refine hK _ _ ?_;clear hK K;refine AD 7 rfl (by kernel_rfl) hI4 (fun K hK=>?_);rw[if_pos (by kernel_rfl)];have R2':RdX FD.cells x4 A2 fs2:=by obtain⟨A2',c2',e2,_,_,R2',_⟩:=V2.form;rw[(Value.slice.inj e2).1];exact R2'
     have l2:fs2.length=4:=by have:=congrArg List.length hp2;simpa using this
     refine CU (.tmp 10) (.tmp 13) FX rfl JU JT (by kernel_rfl) V1 A2 c2 fs2 _ rfl (by kernel_rfl) R2' (by simp only[maxLen,List.length_singleton];omega) (by simp only[List.length_singleton];omega) P5.size ?_;intro v7 x5 V7 Q5 G5;have V7:=V7.out;have M12: ∀f∈[f1]++fs2,FD.ok x4 f∧f.off (.slice (some ⟨q1,0,none⟩) 1 1):=fun f hf=>by
      rcases List.mem_append.1 hf with hf|hf;·rw[List.mem_singleton] at hf;subst hf;exact⟨ok1,off1⟩
      ·exact⟨M2 f hf,ER (BI hp2 f hf).1 (BI hp2 f hf).2⟩
     have M7:=BT Q5 G5.out M12;have hq1w:=(V1.block q1 rfl).1;have P6:Only [] w0 x5:=P5.trans Q5 (fun x hx=>.inr (by have h9:x=q1:=(by simpa[Value.ownBlock] using hx);omega));have hI5:(fun w':World=>Blk w' w.heap.size 70 m.cells) x5:=Blk.only hI4 Q5 (fun hx=>by have h9:w.heap.size=q1:=(by simpa[Value.ownBlock] using hx);have:=K0.lt;omega);have B3:=B3.only Q5 (fun hx=>by have h9:q3=q1:=(by simpa[Value.ownBlock] using hx);omega);have lt3:q3<x5.heap.size:=Nat.lt_of_lt_of_le lt3 Q5.size;refine hK _ _ ?_;clear hK K;refine AD 12 rfl (by kernel_rfl) hI5 (fun K hK=>?_);rw[if_pos (by kernel_rfl)];refine CU (.tmp 14) (.tmp 18) FX rfl JU JT (by kernel_rfl) V7 (some ⟨q3,0,none⟩) 1 [⟨4,0,m.mA,m.mc,m.modes,none,0,[]⟩] 1 rfl (by kernel_rfl) (HM B3) (by simp only[maxLen,List.length_append,List.length_singleton];omega) (by simp only[List.length_append,List.length_singleton];omega) P6.size ?_;intro v12 x6 V12 Q6 G6;have V12:=V12.out;have M12':=BT Q6 G6.out M7;have PE:Only [] w0 x6:=P6.trans Q6 (fun x hx=>.inr (V7.block x (by simpa using hx)).1);have hIE:(fun w':World=>Blk w' w.heap.size 70 m.cells) x6:=Blk.only hI5 Q6 (fun hx=>by have:=(V7.block w.heap.size (by simpa using hx)).1;have:=K0.lt;omega);refine hK _ _ ?_;clear hK K;refine wpAnyE_tg 13 (v:=v12) rfl hIE ?_;refine AX (by kernel_rfl) hIE ?_;(try simp only[Exit.then])
     go_wp2_with fail
     go_ret
     exact FI ok (P0.trans PE (by simp)) (V12.mono P0.size) M12' hp1 hp2 hn1 hn2
   ·rw[if_pos (by kernel_rfl)];have Q3:Only [] x2 (x2.alloc (.cells #[.int .i64 4,.int .u32 0,.slice m.mA m.modes.length m.mc,.slice none 0 0] 86)):=(Only.refl [] x2).alloc _;have B3:Blk (x2.alloc (.cells #[.int .i64 4,.int .u32 0,.slice m.mA m.modes.length m.mc,.slice none 0 0] 86)) x2.heap.size 86 [.int .i64 4,.int .u32 0,.slice m.mA m.modes.length m.mc,.slice none 0 0]:=Blk.new x2 _ _;have lt3:x2.heap.size<(x2.alloc (.cells #[.int .i64 4,.int .u32 0,.slice m.mA m.modes.length m.mc,.slice none 0 0] 86)).heap.size:=by simp
    have g13: ¬q1=x2.heap.size:=by have:=lt1;omega
    obtain⟨q3,hq3⟩: ∃q,q=x2.heap.size:=⟨_,rfl⟩;go_simp
    obtain⟨x3,hx3⟩: ∃x,x=x2.alloc (.cells #[.int .i64 4,.int .u32 0,.slice m.mA m.modes.length m.mc,.slice none 0 0] 86):=⟨_,rfl⟩;rw[←hx3] at Q3 B3 lt3⊢;rw[←hq3] at B3 lt3 g13⊢;have P4:Only [] w0 x3:=P3.trans Q3 (by simp);have hI3:(fun w':World=>Blk w' w.heap.size 70 m.cells) x3:=Blk.only hI2 Q3 (by simp);have ok1:=ok1.only Q3;have V1:=V1.only Q3;have lt1:q1<x3.heap.size:=Nat.lt_of_lt_of_le lt1 Q3.size;replace hx3:=AB hx3;replace hq3:=AB hq3;refine hK _ _ ?_;clear hK K;refine AD 6 rfl (by kernel_rfl) hI3 (fun K hK=>?_);rw[if_pos (by kernel_rfl)];have T:=EK m.cols m.rows m.width m.height x3 ok.nums.1 ok.nums.2.1 ok.nums.2.2.1 ok.nums.2.2.2.1;go_simp
    go_call T as e x4 ⟨Q4,v2,fs2,rfl,V2,hp2,M2x,hn2⟩
    clear T;replace V2:BK FD.cells 86 4 x4 w0.heap.size v2 fs2:=BK.mono (cf:=FD.cells) V2 P4.size;have M2:=fun f hf=>(M2x f hf).1;clear M2x;have P5:Only [] w0 x4:=P4.trans Q4 (by simp);have hI4:(fun w':World=>Blk w' w.heap.size 70 m.cells) x4:=Blk.only hI3 Q4 (by simp);have ok1:=ok1.only Q4;have V1:=V1.only Q4;have lt1:q1<x4.heap.size:=Nat.lt_of_lt_of_le lt1 Q4.size;have B3:=B3.only Q4 (by simp);have lt3:q3<x4.heap.size:=Nat.lt_of_lt_of_le lt3 Q4.size;obtain⟨A2,c2,rfl,hc2,hm2,_,_⟩:=V2.form;refine hK _ _ ?_;clear hK K;refine AD 7 rfl (by kernel_rfl) hI4 (fun K hK=>?_);rw[if_pos (by kernel_rfl)];have R2':RdX FD.cells x4 A2 fs2:=by obtain⟨A2',c2',e2,_,_,R2',_⟩:=V2.form;rw[(Value.slice.inj e2).1];exact R2'
    have l2:fs2.length=4:=by have:=congrArg List.length hp2;simpa using this
    refine CU (.tmp 10) (.tmp 13) FX rfl JU JT (by kernel_rfl) V1 A2 c2 fs2 _ rfl (by kernel_rfl) R2' (by simp only[maxLen,List.length_singleton];omega) (by simp only[List.length_singleton];omega) P5.size ?_;intro v7 x5 V7 Q5 G5;have V7:=V7.out;have M12: ∀f∈[f1]++fs2,FD.ok x4 f∧f.off (.slice (some ⟨q1,0,none⟩) 1 1):=fun f hf=>by
     rcases List.mem_append.1 hf with hf|hf;·rw[List.mem_singleton] at hf;subst hf;exact⟨ok1,off1⟩
     ·exact⟨M2 f hf,ER (BI hp2 f hf).1 (BI hp2 f hf).2⟩
    have M7:=BT Q5 G5.out M12;have hq1w:=(V1.block q1 rfl).1;have P6:Only [] w0 x5:=P5.trans Q5 (fun x hx=>.inr (by have h9:x=q1:=(by simpa[Value.ownBlock] using hx);omega));have hI5:(fun w':World=>Blk w' w.heap.size 70 m.cells) x5:=Blk.only hI4 Q5 (fun hx=>by have h9:w.heap.size=q1:=(by simpa[Value.ownBlock] using hx);have:=K0.lt;omega);have B3:=B3.only Q5 (fun hx=>by have h9:q3=q1:=(by simpa[Value.ownBlock] using hx);omega);have lt3:q3<x5.heap.size:=Nat.lt_of_lt_of_le lt3 Q5.size;refine hK _ _ ?_;clear hK K;refine AD 12 rfl (by kernel_rfl) hI5 (fun K hK=>?_);rw[if_pos (by kernel_rfl)];refine CU (.tmp 14) (.tmp 18) FX rfl JU JT (by kernel_rfl) V7 (some ⟨q3,0,none⟩) 1 [⟨4,0,m.mA,m.mc,m.modes,none,0,[]⟩] 1 rfl (by kernel_rfl) (HM B3) (by simp only[maxLen,List.length_append,List.length_singleton];omega) (by simp only[List.length_append,List.length_singleton];omega) P6.size ?_;intro v12 x6 V12 Q6 G6;have V12:=V12.out;have M12':=BT Q6 G6.out M7;have PE:Only [] w0 x6:=P6.trans Q6 (fun x hx=>.inr (V7.block x (by simpa using hx)).1);have hIE:(fun w':World=>Blk w' w.heap.size 70 m.cells) x6:=Blk.only hI5 Q6 (fun hx=>by have:=(V7.block w.heap.size (by simpa using hx)).1;have:=K0.lt;omega);refine hK _ _ ?_;clear hK K;refine wpAnyE_tg 13 (v:=v12) rfl hIE ?_;refine AX (by kernel_rfl) hIE ?_;(try simp only[Exit.then])
    go_wp2_with fail
    go_ret
    exact FI ok (P0.trans PE (by simp)) (V12.mono P0.size) M12' hp1 hp2 hn1 hn2
  ·rw[if_pos (by kernel_rfl)];have T:=EK m.cols m.rows m.width m.height x1 ok.nums.1 ok.nums.2.1 ok.nums.2.2.1 ok.nums.2.2.2.1;go_simp
   go_call T as e x2 ⟨Q2,v2,fs2,rfl,V2,hp2,M2x,hn2⟩
   clear T;replace V2:BK FD.cells 86 4 x2 w0.heap.size v2 fs2:=BK.mono (cf:=FD.cells) V2 P2.size;have M2:=fun f hf=>(M2x f hf).1;clear M2x;have P3:Only [] w0 x2:=P2.trans Q2 (by simp);have hI2:(fun w':World=>Blk w' w.heap.size 70 m.cells) x2:=Blk.only hI1 Q2 (by simp);have ok1:=ok1.only Q2;obtain⟨A2,c2,rfl,hc2,hm2,_,_⟩:=V2.form;refine hK _ _ ?_;clear hK K;refine FV 3 11 rfl rfl (by kernel_rfl) hI2 (fun K hK=>?_) (fun K hK=>?_)
   ·rw[if_pos (by kernel_rfl)];have Q3:Only [] x2 (x2.alloc (.cells #[.int .i64 f1.kind,.int .u32 f1.n,.slice f1.tA f1.text.length f1.tc,.slice f1.lA f1.list.length f1.lc] 86)):=(Only.refl [] x2).alloc _;have V1:BK FD.cells 86 4 (x2.alloc (.cells #[.int .i64 f1.kind,.int .u32 f1.n,.slice f1.tA f1.text.length f1.tc,.slice f1.lA f1.list.length f1.lc] 86)) w0.heap.size (.slice (some ⟨x2.heap.size,0,none⟩) 1 1) [f1]:=BK.mono (cf:=FD.cells) (DL x2 [f1] 1 rfl (by decide) #[.int .i64 f1.kind,.int .u32 f1.n,.slice f1.tA f1.text.length f1.tc,.slice f1.lA f1.list.length f1.lc] (by simp[CC,FD.cells])) P3.size;have off1:f1.off (.slice (some ⟨x2.heap.size,0,none⟩) 1 1):=CN ok1 1 1;have lt1:x2.heap.size<(x2.alloc (.cells #[.int .i64 f1.kind,.int .u32 f1.n,.slice f1.tA f1.text.length f1.tc,.slice f1.lA f1.list.length f1.lc] 86)).heap.size:=by simp
    obtain⟨q1,hq1⟩: ∃q,q=x2.heap.size:=⟨_,rfl⟩;go_simp
    obtain⟨x3,hx3⟩: ∃x,x=x2.alloc (.cells #[.int .i64 f1.kind,.int .u32 f1.n,.slice f1.tA f1.text.length f1.tc,.slice f1.lA f1.list.length f1.lc] 86):=⟨_,rfl⟩;rw[←hx3] at Q3 V1 lt1⊢;rw[←hq1] at V1 off1 lt1⊢;have P4:Only [] w0 x3:=P3.trans Q3 (by simp);have hI3:(fun w':World=>Blk w' w.heap.size 70 m.cells) x3:=Blk.only hI2 Q3 (by simp);have ok1:=ok1.only Q3;have V2:=V2.only Q3;have M2:=fun f hf=>(M2 f hf).only Q3;replace hx3:=AB hx3;replace hq1:=AB hq1;refine hK _ _ ?_;clear hK K;refine FV 7 11 rfl rfl (by kernel_rfl) hI3 (fun K hK=>?_) (fun K hK=>?_)
    ·rw[if_pos (by kernel_rfl)];have R2':RdX FD.cells x3 A2 fs2:=by obtain⟨A2',c2',e2,_,_,R2',_⟩:=V2.form;rw[(Value.slice.inj e2).1];exact R2'
     have l2:fs2.length=4:=by have:=congrArg List.length hp2;simpa using this
     refine CU (.tmp 10) (.tmp 13) FX rfl JU JT (by kernel_rfl) V1 A2 c2 fs2 _ rfl (by kernel_rfl) R2' (by simp only[maxLen,List.length_singleton];omega) (by simp only[List.length_singleton];omega) P4.size ?_;intro v7 x4 V7 Q4 G4;have V7:=V7.out;have M12: ∀f∈[f1]++fs2,FD.ok x3 f∧f.off (.slice (some ⟨q1,0,none⟩) 1 1):=fun f hf=>by
      rcases List.mem_append.1 hf with hf|hf;·rw[List.mem_singleton] at hf;subst hf;exact⟨ok1,off1⟩
      ·exact⟨M2 f hf,ER (BI hp2 f hf).1 (BI hp2 f hf).2⟩
     have M7:=BT Q4 G4.out M12;have hq1w:=(V1.block q1 rfl).1;have P5:Only [] w0 x4:=P4.trans Q4 (fun x hx=>.inr (by have h9:x=q1:=(by simpa[Value.ownBlock] using hx);omega));have hI4:(fun w':World=>Blk w' w.heap.size 70 m.cells) x4:=Blk.only hI3 Q4 (fun hx=>by have h9:w.heap.size=q1:=(by simpa[Value.ownBlock] using hx);have:=K0.lt;omega);refine hK _ _ ?_;clear hK K;refine AD 11 rfl (by kernel_rfl) hI4 (fun K hK=>?_);rw[if_pos (by kernel_rfl)];have Q5:Only [] x4 (x4.alloc (.cells #[.int .i64 4,.int .u32 0,.slice m.mA m.modes.length m.mc,.slice none 0 0] 86)):=(Only.refl [] x4).alloc _;have B3:Blk (x4.alloc (.cells #[.int .i64 4,.int .u32 0,.slice m.mA m.modes.length m.mc,.slice none 0 0] 86)) x4.heap.size 86 [.int .i64 4,.int .u32 0,.slice m.mA m.modes.length m.mc,.slice none 0 0]:=Blk.new x4 _ _;have lt3:x4.heap.size<(x4.alloc (.cells #[.int .i64 4,.int .u32 0,.slice m.mA m.modes.length m.mc,.slice none 0 0] 86)).heap.size:=by simp
     obtain⟨q3,hq3⟩: ∃q,q=x4.heap.size:=⟨_,rfl⟩;go_simp
     obtain⟨x5,hx5⟩: ∃x,x=x4.alloc (.cells #[.int .i64 4,.int .u32 0,.slice m.mA m.modes.length m.mc,.slice none 0 0] 86):=⟨_,rfl⟩;rw[←hx5] at Q5 B3 lt3⊢;rw[←hq3] at B3 lt3⊢;have P6:Only [] w0 x5:=P5.trans Q5 (by simp);have hI5:(fun w':World=>Blk w' w.heap.size 70 m.cells) x5:=Blk.only hI4 Q5 (by simp);have V7:=V7.only Q5;have M7:=fun f hf=>(⟨(M7 f hf).1.only Q5,(M7 f hf).2⟩:FD.ok x5 f∧f.off v7);replace hx5:=AB hx5;replace hq3:=AB hq3;refine hK _ _ ?_;clear hK K;refine AD 12 rfl (by kernel_rfl) hI5 (fun K hK=>?_);rw[if_pos (by kernel_rfl)];refine CU (.tmp 14) (.tmp 18) FX rfl JU JT (by kernel_rfl) V7 (some ⟨q3,0,none⟩) 1 [⟨4,0,m.mA,m.mc,m.modes,none,0,[]⟩] 1 rfl (by kernel_rfl) (HM B3) (by simp only[maxLen,List.length_append,List.length_singleton];omega) (by simp only[List.length_append,List.length_singleton];omega) P6.size ?_;intro v12 x6 V12 Q6 G6;have V12:=V12.out;have M12':=BT Q6 G6.out M7;have PE:Only [] w0 x6:=P6.trans Q6 (fun x hx=>.inr (V7.block x (by simpa using hx)).1);have hIE:(fun w':World=>Blk w' w.heap.size 70 m.cells) x6:=Blk.only hI5 Q6 (fun hx=>by have:=(V7.block w.heap.size (by simpa using hx)).1;have:=K0.lt;omega);refine hK _ _ ?_;clear hK K;refine wpAnyE_tg 13 (v:=v12) rfl hIE ?_;refine AX (by kernel_rfl) hIE ?_;(try simp only[Exit.then])
     go_wp2_with fail
     go_ret
     exact FI ok (P0.trans PE (by simp)) (V12.mono P0.size) M12' hp1 hp2 hn1 hn2
    ·rw[if_pos (by kernel_rfl)];have Q4:Only [] x3 (x3.alloc (.cells #[.int .i64 4,.int .u32 0,.slice m.mA m.modes.length m.mc,.slice none 0 0] 86)):=(Only.refl [] x3).alloc _;have B3:Blk (x3.alloc (.cells #[.int .i64 4,.int .u32 0,.slice m.mA m.modes.length m.mc,.slice none 0 0] 86)) x3.heap.size 86 [.int .i64 4,.int .u32 0,.slice m.mA m.modes.length m.mc,.slice none 0 0]:=Blk.new x3 _ _;have lt3:x3.heap.size<(x3.alloc (.cells #[.int .i64 4,.int .u32 0,.slice m.mA m.modes.length m.mc,.slice none 0 0] 86)).heap.size:=by simp
     have g13: ¬q1=x3.heap.size:=by have:=lt1;omega
     obtain⟨q3,hq3⟩: ∃q,q=x3.heap.size:=⟨_,rfl⟩;go_simp
     obtain⟨x4,hx4⟩: ∃x,x=x3.alloc (.cells #[.int .i64 4,.int .u32 0,.slice m.mA m.modes.length m.mc,.slice none 0 0] 86):=⟨_,rfl⟩;rw[←hx4] at Q4 B3 lt3⊢;rw[←hq3] at B3 lt3 g13⊢;have P5:Only [] w0 x4:=P4.trans Q4 (by simp);have hI4:(fun w':World=>Blk w' w.heap.size 70 m.cells) x4:=Blk.only hI3 Q4 (by simp);have ok1:=ok1.only Q4;have V1:=V1.only Q4;have lt1:q1<x4.heap.size:=Nat.lt_of_lt_of_le lt1 Q4.size;have V2:=V2.only Q4;have M2:=fun f hf=>(M2 f hf).only Q4;replace hx4:=AB hx4;replace hq3:=AB hq3;refine hK _ _ ?_;clear hK K;refine AD 7 rfl (by kernel_rfl) hI4 (fun K hK=>?_);rw[if_pos (by kernel_rfl)];have R2':RdX FD.cells x4 A2 fs2:=by obtain⟨A2',c2',e2,_,_,R2',_⟩:=V2.form;rw[(Value.slice.inj e2).1];exact R2'
     have l2:fs2.length=4:=by have:=congrArg List.length hp2;simpa using this
     refine CU (.tmp 10) (.tmp 13) FX rfl JU JT (by kernel_rfl) V1 A2 c2 fs2 _ rfl (by kernel_rfl) R2' (by simp only[maxLen,List.length_singleton];omega) (by simp only[List.length_singleton];omega) P5.size ?_;intro v7 x5 V7 Q5 G5;have V7:=V7.out;have M12: ∀f∈[f1]++fs2,FD.ok x4 f∧f.off (.slice (some ⟨q1,0,none⟩) 1 1):=fun f hf=>by
      rcases List.mem_append.1 hf with hf|hf;·rw[List.mem_singleton] at hf;subst hf;exact⟨ok1,off1⟩
      ·exact⟨M2 f hf,ER (BI hp2 f hf).1 (BI hp2 f hf).2⟩
     have M7:=BT Q5 G5.out M12;have hq1w:=(V1.block q1 rfl).1;have P6:Only [] w0 x5:=P5.trans Q5 (fun x hx=>.inr (by have h9:x=q1:=(by simpa[Value.ownBlock] using hx);omega));have hI5:(fun w':World=>Blk w' w.heap.size 70 m.cells) x5:=Blk.only hI4 Q5 (fun hx=>by have h9:w.heap.size=q1:=(by simpa[Value.ownBlock] using hx);have:=K0.lt;omega);have B3:=B3.only Q5 (fun hx=>by have h9:q3=q1:=(by simpa[Value.ownBlock] using hx);omega);have lt3:q3<x5.heap.size:=Nat.lt_of_lt_of_le lt3 Q5.size;refine hK _ _ ?_;clear hK K;refine AD 12 rfl (by kernel_rfl) hI5 (fun K hK=>?_);rw[if_pos (by kernel_rfl)];refine CU (.tmp 14) (.tmp 18) FX rfl JU JT (by kernel_rfl) V7 (some ⟨q3,0,none⟩) 1 [⟨4,0,m.mA,m.mc,m.modes,none,0,[]⟩] 1 rfl (by kernel_rfl) (HM B3) (by simp only[maxLen,List.length_append,List.length_singleton];omega) (by simp only[List.length_append,List.length_singleton];omega) P6.size ?_;intro v12 x6 V12 Q6 G6;have V12:=V12.out;have M12':=BT Q6 G6.out M7;have PE:Only [] w0 x6:=P6.trans Q6 (fun x hx=>.inr (V7.block x (by simpa using hx)).1);have hIE:(fun w':World=>Blk w' w.heap.size 70 m.cells) x6:=Blk.only hI5 Q6 (fun hx=>by have:=(V7.block w.heap.size (by simpa using hx)).1;have:=K0.lt;omega);refine hK _ _ ?_;clear hK K;refine wpAnyE_tg 13 (v:=v12) rfl hIE ?_;refine AX (by kernel_rfl) hIE ?_;(try simp only[Exit.then])
     go_wp2_with fail
     go_ret
     exact FI ok (P0.trans PE (by simp)) (V12.mono P0.size) M12' hp1 hp2 hn1 hn2
   ·rw[if_pos (by kernel_rfl)];have Q3:Only [] x2 (x2.alloc (.cells #[.int .i64 4,.int .u32 0,.slice m.mA m.modes.length m.mc,.slice none 0 0] 86)):=(Only.refl [] x2).alloc _;have B3:Blk (x2.alloc (.cells #[.int .i64 4,.int .u32 0,.slice m.mA m.modes.length m.mc,.slice none 0 0] 86)) x2.heap.size 86 [.int .i64 4,.int .u32 0,.slice m.mA m.modes.length m.mc,.slice none 0 0]:=Blk.new x2 _ _;have lt3:x2.heap.size<(x2.alloc (.cells #[.int .i64 4,.int .u32 0,.slice m.mA m.modes.length m.mc,.slice none 0 0] 86)).heap.size:=by simp
    obtain⟨q3,hq3⟩: ∃q,q=x2.heap.size:=⟨_,rfl⟩;go_simp
    obtain⟨x3,hx3⟩: ∃x,x=x2.alloc (.cells #[.int .i64 4,.int .u32 0,.slice m.mA m.modes.length m.mc,.slice none 0 0] 86):=⟨_,rfl⟩;rw[←hx3] at Q3 B3 lt3⊢;rw[←hq3] at B3 lt3⊢;have P4:Only [] w0 x3:=P3.trans Q3 (by simp);have hI3:(fun w':World=>Blk w' w.heap.size 70 m.cells) x3:=Blk.only hI2 Q3 (by simp);have ok1:=ok1.only Q3;have V2:=V2.only Q3;have M2:=fun f hf=>(M2 f hf).only Q3;replace hx3:=AB hx3;replace hq3:=AB hq3;refine hK _ _ ?_;clear hK K;refine AD 3 rfl (by kernel_rfl) hI3 (fun K hK=>?_);rw[if_pos (by kernel_rfl)];have Q4:Only [] x3 (x3.alloc (.cells #[.int .i64 f1.kind,.int .u32 f1.n,.slice f1.tA f1.text.length f1.tc,.slice f1.lA f1.list.length f1.lc] 86)):=(Only.refl [] x3).alloc _;have V1:BK FD.cells 86 4 (x3.alloc (.cells #[.int .i64 f1.kind,.int .u32 f1.n,.slice f1.tA f1.text.length f1.tc,.slice f1.lA f1.list.length f1.lc] 86)) w0.heap.size (.slice (some ⟨x3.heap.size,0,none⟩) 1 1) [f1]:=BK.mono (cf:=FD.cells) (DL x3 [f1] 1 rfl (by decide) #[.int .i64 f1.kind,.int .u32 f1.n,.slice f1.tA f1.text.length f1.tc,.slice f1.lA f1.list.length f1.lc] (by simp[CC,FD.cells])) P4.size;have off1:f1.off (.slice (some ⟨x3.heap.size,0,none⟩) 1 1):=CN ok1 1 1;have lt1:x3.heap.size<(x3.alloc (.cells #[.int .i64 f1.kind,.int .u32 f1.n,.slice f1.tA f1.text.length f1.tc,.slice f1.lA f1.list.length f1.lc] 86)).heap.size:=by simp
    have g13: ¬x3.heap.size=q3:=by have:=lt3;omega
    obtain⟨q1,hq1⟩: ∃q,q=x3.heap.size:=⟨_,rfl⟩;go_simp
    obtain⟨x4,hx4⟩: ∃x,x=x3.alloc (.cells #[.int .i64 f1.kind,.int .u32 f1.n,.slice f1.tA f1.text.length f1.tc,.slice f1.lA f1.list.length f1.lc] 86):=⟨_,rfl⟩;rw[←hx4] at Q4 V1 lt1⊢;rw[←hq1] at V1 off1 lt1 g13⊢;have P5:Only [] w0 x4:=P4.trans Q4 (by simp);have hI4:(fun w':World=>Blk w' w.heap.size 70 m.cells) x4:=Blk.only hI3 Q4 (by simp);have ok1:=ok1.only Q4;have V2:=V2.only Q4;have M2:=fun f hf=>(M2 f hf).only Q4;have B3:=B3.only Q4 (by simp);have lt3:q3<x4.heap.size:=Nat.lt_of_lt_of_le lt3 Q4.size;replace hx4:=AB hx4;replace hq1:=AB hq1;refine hK _ _ ?_;clear hK K;refine AD 7 rfl (by kernel_rfl) hI4 (fun K hK=>?_);rw[if_pos (by kernel_rfl)];have R2':RdX FD.cells x4 A2 fs2:=by obtain⟨A2',c2',e2,_,_,R2',_⟩:=V2.form;rw[(Value.slice.inj e2).1];exact R2'
    have l2:fs2.length=4:=by have:=congrArg List.length hp2;simpa using this
    refine CU (.tmp 10) (.tmp 13) FX rfl JU JT (by kernel_rfl) V1 A2 c2 fs2 _ rfl (by kernel_rfl) R2' (by simp only[maxLen,List.length_singleton];omega) (by simp only[List.length_singleton];omega) P5.size ?_;intro v7 x5 V7 Q5 G5;have V7:=V7.out;have M12: ∀f∈[f1]++fs2,FD.ok x4 f∧f.off (.slice (some ⟨q1,0,none⟩) 1 1):=fun f hf=>by
     rcases List.mem_append.1 hf with hf|hf;·rw[List.mem_singleton] at hf;subst hf;exact⟨ok1,off1⟩
     ·exact⟨M2 f hf,ER (BI hp2 f hf).1 (BI hp2 f hf).2⟩
    have M7:=BT Q5 G5.out M12;have hq1w:=(V1.block q1 rfl).1;have P6:Only [] w0 x5:=P5.trans Q5 (fun x hx=>.inr (by have h9:x=q1:=(by simpa[Value.ownBlock] using hx);omega));have hI5:(fun w':World=>Blk w' w.heap.size 70 m.cells) x5:=Blk.only hI4 Q5 (fun hx=>by have h9:w.heap.size=q1:=(by simpa[Value.ownBlock] using hx);have:=K0.lt;omega);have B3:=B3.only Q5 (fun hx=>by have h9:q3=q1:=(by simpa[Value.ownBlock] using hx);omega);have lt3:q3<x5.heap.size:=Nat.lt_of_lt_of_le lt3 Q5.size;refine hK _ _ ?_;clear hK K;refine AD 12 rfl (by kernel_rfl) hI5 (fun K hK=>?_);rw[if_pos (by kernel_rfl)];refine CU (.tmp 14) (.tmp 18) FX rfl JU JT (by kernel_rfl) V7 (some ⟨q3,0,none⟩) 1 [⟨4,0,m.mA,m.mc,m.modes,none,0,[]⟩] 1 rfl (by kernel_rfl) (HM B3) (by simp only[maxLen,List.length_append,List.length_singleton];omega) (by simp only[List.length_append,List.length_singleton];omega) P6.size ?_;intro v12 x6 V12 Q6 G6;have V12:=V12.out;have M12':=BT Q6 G6.out M7;have PE:Only [] w0 x6:=P6.trans Q6 (fun x hx=>.inr (V7.block x (by simpa using hx)).1);have hIE:(fun w':World=>Blk w' w.heap.size 70 m.cells) x6:=Blk.only hI5 Q6 (fun hx=>by have:=(V7.block w.heap.size (by simpa using hx)).1;have:=K0.lt;omega);refine hK _ _ ?_;clear hK K;refine wpAnyE_tg 13 (v:=v12) rfl hIE ?_;refine AX (by kernel_rfl) hIE ?_;(try simp only[Exit.then])
    go_wp2_with fail
    go_ret
    exact FI ok (P0.trans PE (by simp)) (V12.mono P0.size) M12' hp1 hp2 hn1 hn2
  ·rw[if_pos (by kernel_rfl)];have Q2:Only [] x1 (x1.alloc (.cells #[.int .i64 4,.int .u32 0,.slice m.mA m.modes.length m.mc,.slice none 0 0] 86)):=(Only.refl [] x1).alloc _;have B3:Blk (x1.alloc (.cells #[.int .i64 4,.int .u32 0,.slice m.mA m.modes.length m.mc,.slice none 0 0] 86)) x1.heap.size 86 [.int .i64 4,.int .u32 0,.slice m.mA m.modes.length m.mc,.slice none 0 0]:=Blk.new x1 _ _;have lt3:x1.heap.size<(x1.alloc (.cells #[.int .i64 4,.int .u32 0,.slice m.mA m.modes.length m.mc,.slice none 0 0] 86)).heap.size:=by simp
   obtain⟨q3,hq3⟩: ∃q,q=x1.heap.size:=⟨_,rfl⟩;go_simp
   obtain⟨x2,hx2⟩: ∃x,x=x1.alloc (.cells #[.int .i64 4,.int .u32 0,.slice m.mA m.modes.length m.mc,.slice none 0 0] 86):=⟨_,rfl⟩;rw[←hx2] at Q2 B3 lt3⊢;rw[←hq3] at B3 lt3⊢;have P3:Only [] w0 x2:=P2.trans Q2 (by simp);have hI2:(fun w':World=>Blk w' w.heap.size 70 m.cells) x2:=Blk.only hI1 Q2 (by simp);have ok1:=ok1.only Q2;replace hx2:=AB hx2;replace hq3:=AB hq3;refine hK _ _ ?_;clear hK K;refine FV 3 6 rfl rfl (by kernel_rfl) hI2 (fun K hK=>?_) (fun K hK=>?_)
   ·rw[if_pos (by kernel_rfl)];have Q3:Only [] x2 (x2.alloc (.cells #[.int .i64 f1.kind,.int .u32 f1.n,.slice f1.tA f1.text.length f1.tc,.slice f1.lA f1.list.length f1.lc] 86)):=(Only.refl [] x2).alloc _;have V1:BK FD.cells 86 4 (x2.alloc (.cells #[.int .i64 f1.kind,.int .u32 f1.n,.slice f1.tA f1.text.length f1.tc,.slice f1.lA f1.list.length f1.lc] 86)) w0.heap.size (.slice (some ⟨x2.heap.size,0,none⟩) 1 1) [f1]:=BK.mono (cf:=FD.cells) (DL x2 [f1] 1 rfl (by decide) #[.int .i64 f1.kind,.int .u32 f1.n,.slice f1.tA f1.text.length f1.tc,.slice f1.lA f1.list.length f1.lc] (by simp[CC,FD.cells])) P3.size;have off1:f1.off (.slice (some ⟨x2.heap.size,0,none⟩) 1 1):=CN ok1 1 1;have lt1:x2.heap.size<(x2.alloc (.cells #[.int .i64 f1.kind,.int .u32 f1.n,.slice f1.tA f1.text.length f1.tc,.slice f1.lA f1.list.length f1.lc] 86)).heap.size:=by simp
    have g13: ¬x2.heap.size=q3:=by have:=lt3;omega
    obtain⟨q1,hq1⟩: ∃q,q=x2.heap.size:=⟨_,rfl⟩;go_simp
    obtain⟨x3,hx3⟩: ∃x,x=x2.alloc (.cells #[.int .i64 f1.kind,.int .u32 f1.n,.slice f1.tA f1.text.length f1.tc,.slice f1.lA f1.list.length f1.lc] 86):=⟨_,rfl⟩;rw[←hx3] at Q3 V1 lt1⊢;rw[←hq1] at V1 off1 lt1 g13⊢;have P4:Only [] w0 x3:=P3.trans Q3 (by simp);have hI3:(fun w':World=>Blk w' w.heap.size 70 m.cells) x3:=Blk.only hI2 Q3 (by simp);have ok1:=ok1.only Q3;have B3:=B3.only Q3 (by simp);have lt3:q3<x3.heap.size:=Nat.lt_of_lt_of_le lt3 Q3.size;replace hx3:=AB hx3;replace hq1:=AB hq1;refine hK _ _ ?_;clear hK K;refine AD 6 rfl (by kernel_rfl) hI3 (fun K hK=>?_);rw[if_pos (by kernel_rfl)];have T:=EK m.cols m.rows m.width m.height x3 ok.nums.1 ok.nums.2.1 ok.nums.2.2.1 ok.nums.2.2.2.1;go_simp
    go_call T as e x4 ⟨Q4,v2,fs2,rfl,V2,hp2,M2x,hn2⟩
    clear T;replace V2:BK FD.cells 86 4 x4 w0.heap.size v2 fs2:=BK.mono (cf:=FD.cells) V2 P4.size;have M2:=fun f hf=>(M2x f hf).1;clear M2x;have P5:Only [] w0 x4:=P4.trans Q4 (by simp);have hI4:(fun w':World=>Blk w' w.heap.size 70 m.cells) x4:=Blk.only hI3 Q4 (by simp);have ok1:=ok1.only Q4;have V1:=V1.only Q4;have lt1:q1<x4.heap.size:=Nat.lt_of_lt_of_le lt1 Q4.size;have B3:=B3.only Q4 (by simp);have lt3:q3<x4.heap.size:=Nat.lt_of_lt_of_le lt3 Q4.size;obtain⟨A2,c2,rfl,hc2,hm2,_,_⟩:=V2.form;refine hK _ _ ?_;clear hK K;refine AD 7 rfl (by kernel_rfl) hI4 (fun K hK=>?_);rw[if_pos (by kernel_rfl)];have R2':RdX FD.cells x4 A2 fs2:=by obtain⟨A2',c2',e2,_,_,R2',_⟩:=V2.form;rw[(Value.slice.inj e2).1];exact R2'
    have l2:fs2.length=4:=by have:=congrArg List.length hp2;simpa using this
    refine CU (.tmp 10) (.tmp 13) FX rfl JU JT (by kernel_rfl) V1 A2 c2 fs2 _ rfl (by kernel_rfl) R2' (by simp only[maxLen,List.length_singleton];omega) (by simp only[List.length_singleton];omega) P5.size ?_;intro v7 x5 V7 Q5 G5;have V7:=V7.out;have M12: ∀f∈[f1]++fs2,FD.ok x4 f∧f.off (.slice (some ⟨q1,0,none⟩) 1 1):=fun f hf=>by
     rcases List.mem_append.1 hf with hf|hf;·rw[List.mem_singleton] at hf;subst hf;exact⟨ok1,off1⟩
     ·exact⟨M2 f hf,ER (BI hp2 f hf).1 (BI hp2 f hf).2⟩
    have M7:=BT Q5 G5.out M12;have hq1w:=(V1.block q1 rfl).1;have P6:Only [] w0 x5:=P5.trans Q5 (fun x hx=>.inr (by have h9:x=q1:=(by simpa[Value.ownBlock] using hx);omega));have hI5:(fun w':World=>Blk w' w.heap.size 70 m.cells) x5:=Blk.only hI4 Q5 (fun hx=>by have h9:w.heap.size=q1:=(by simpa[Value.ownBlock] using hx);have:=K0.lt;omega);have B3:=B3.only Q5 (fun hx=>by have h9:q3=q1:=(by simpa[Value.ownBlock] using hx);omega);have lt3:q3<x5.heap.size:=Nat.lt_of_lt_of_le lt3 Q5.size;refine hK _ _ ?_;clear hK K;refine AD 12 rfl (by kernel_rfl) hI5 (fun K hK=>?_);rw[if_pos (by kernel_rfl)];refine CU (.tmp 14) (.tmp 18) FX rfl JU JT (by kernel_rfl) V7 (some ⟨q3,0,none⟩) 1 [⟨4,0,m.mA,m.mc,m.modes,none,0,[]⟩] 1 rfl (by kernel_rfl) (HM B3) (by simp only[maxLen,List.length_append,List.length_singleton];omega) (by simp only[List.length_append,List.length_singleton];omega) P6.size ?_;intro v12 x6 V12 Q6 G6;have V12:=V12.out;have M12':=BT Q6 G6.out M7;have PE:Only [] w0 x6:=P6.trans Q6 (fun x hx=>.inr (V7.block x (by simpa using hx)).1);have hIE:(fun w':World=>Blk w' w.heap.size 70 m.cells) x6:=Blk.only hI5 Q6 (fun hx=>by have:=(V7.block w.heap.size (by simpa using hx)).1;have:=K0.lt;omega);refine hK _ _ ?_;clear hK K;refine wpAnyE_tg 13 (v:=v12) rfl hIE ?_;refine AX (by kernel_rfl) hIE ?_;(try simp only[Exit.then])
    go_wp2_with fail
    go_ret
    exact FI ok (P0.trans PE (by simp)) (V12.mono P0.size) M12' hp1 hp2 hn1 hn2
   ·rw[if_pos (by kernel_rfl)];have T:=EK m.cols m.rows m.width m.height x2 ok.nums.1 ok.nums.2.1 ok.nums.2.2.1 ok.nums.2.2.2.1;go_simp
    go_call T as e x3 ⟨Q3,v2,fs2,rfl,V2,hp2,M2x,hn2⟩
    clear T;replace V2:BK FD.cells 86 4 x3 w0.heap.size v2 fs2:=BK.mono (cf:=FD.cells) V2 P3.size;have M2:=fun f hf=>(M2x f hf).1;clear M2x;have P4:Only [] w0 x3:=P3.trans Q3 (by simp);have hI3:(fun w':World=>Blk w' w.heap.size 70 m.cells) x3:=Blk.only hI2 Q3 (by simp);have ok1:=ok1.only Q3;have B3:=B3.only Q3 (by simp);have lt3:q3<x3.heap.size:=Nat.lt_of_lt_of_le lt3 Q3.size;obtain⟨A2,c2,rfl,hc2,hm2,_,_⟩:=V2.form;refine hK _ _ ?_;clear hK K;refine AD 3 rfl (by kernel_rfl) hI3 (fun K hK=>?_);rw[if_pos (by kernel_rfl)];have Q4:Only [] x3 (x3.alloc (.cells #[.int .i64 f1.kind,.int .u32 f1.n,.slice f1.tA f1.text.length f1.tc,.slice f1.lA f1.list.length f1.lc] 86)):=(Only.refl [] x3).alloc _;have V1:BK FD.cells 86 4 (x3.alloc (.cells #[.int .i64 f1.kind,.int .u32 f1.n,.slice f1.tA f1.text.length f1.tc,.slice f1.lA f1.list.length f1.lc] 86)) w0.heap.size (.slice (some ⟨x3.heap.size,0,none⟩) 1 1) [f1]:=BK.mono (cf:=FD.cells) (DL x3 [f1] 1 rfl (by decide) #[.int .i64 f1.kind,.int .u32 f1.n,.slice f1.tA f1.text.length f1.tc,.slice f1.lA f1.list.length f1.lc] (by simp[CC,FD.cells])) P4.size;have off1:f1.off (.slice (some ⟨x3.heap.size,0,none⟩) 1 1):=CN ok1 1 1;have lt1:x3.heap.size<(x3.alloc (.cells #[.int .i64 f1.kind,.int .u32 f1.n,.slice f1.tA f1.text.length f1.tc,.slice f1.lA f1.list.length f1.lc] 86)).heap.size:=by simp
    have g13: ¬x3.heap.size=q3:=by have:=lt3;omega
    obtain⟨q1,hq1⟩: ∃q,q=x3.heap.size:=⟨_,rfl⟩;go_simp
    obtain⟨x4,hx4⟩: ∃x,x=x3.alloc (.cells #[.int .i64 f1.kind,.int .u32 f1.n,.slice f1.tA f1.text.length f1.tc,.slice f1.lA f1.list.length f1.lc] 86):=⟨_,rfl⟩;rw[←hx4] at Q4 V1 lt1⊢;rw[←hq1] at V1 off1 lt1 g13⊢;have P5:Only [] w0 x4:=P4.trans Q4 (by simp);have hI4:(fun w':World=>Blk w' w.heap.size 70 m.cells) x4:=Blk.only hI3 Q4 (by simp);have ok1:=ok1.only Q4;have V2:=V2.only Q4;have M2:=fun f hf=>(M2 f hf).only Q4;have B3:=B3.only Q4 (by simp);have lt3:q3<x4.heap.size:=Nat.lt_of_lt_of_le lt3 Q4.size;replace hx4:=AB hx4;replace hq1:=AB hq1;refine hK _ _ ?_;clear hK K;refine AD 7 rfl (by kernel_rfl) hI4 (fun K hK=>?_);rw[if_pos (by kernel_rfl)];have R2':RdX FD.cells x4 A2 fs2:=by obtain⟨A2',c2',e2,_,_,R2',_⟩:=V2.form;rw[(Value.slice.inj e2).1];exact R2'
    have l2:fs2.length=4:=by have:=congrArg List.length hp2;simpa using this
    refine CU (.tmp 10) (.tmp 13) FX rfl JU JT (by kernel_rfl) V1 A2 c2 fs2 _ rfl (by kernel_rfl) R2' (by simp only[maxLen,List.length_singleton];omega) (by simp only[List.length_singleton];omega) P5.size ?_;intro v7 x5 V7 Q5 G5;have V7:=V7.out;have M12: ∀f∈[f1]++fs2,FD.ok x4 f∧f.off (.slice (some ⟨q1,0,none⟩) 1 1):=fun f hf=>by
     rcases List.mem_append.1 hf with hf|hf;·rw[List.mem_singleton] at hf;subst hf;exact⟨ok1,off1⟩
     ·exact⟨M2 f hf,ER (BI hp2 f hf).1 (BI hp2 f hf).2⟩
    have M7:=BT Q5 G5.out M12;have hq1w:=(V1.block q1 rfl).1;have P6:Only [] w0 x5:=P5.trans Q5 (fun x hx=>.inr (by have h9:x=q1:=(by simpa[Value.ownBlock] using hx);omega));have hI5:(fun w':World=>Blk w' w.heap.size 70 m.cells) x5:=Blk.only hI4 Q5 (fun hx=>by have h9:w.heap.size=q1:=(by simpa[Value.ownBlock] using hx);have:=K0.lt;omega);have B3:=B3.only Q5 (fun hx=>by have h9:q3=q1:=(by simpa[Value.ownBlock] using hx);omega);have lt3:q3<x5.heap.size:=Nat.lt_of_lt_of_le lt3 Q5.size;refine hK _ _ ?_;clear hK K;refine AD 12 rfl (by kernel_rfl) hI5 (fun K hK=>?_);rw[if_pos (by kernel_rfl)];refine CU (.tmp 14) (.tmp 18) FX rfl JU JT (by kernel_rfl) V7 (some ⟨q3,0,none⟩) 1 [⟨4,0,m.mA,m.mc,m.modes,none,0,[]⟩] 1 rfl (by kernel_rfl) (HM B3) (by simp only[maxLen,List.length_append,List.length_singleton];omega) (by simp only[List.length_append,List.length_singleton];omega) P6.size ?_;intro v12 x6 V12 Q6 G6;have V12:=V12.out;have M12':=BT Q6 G6.out M7;have PE:Only [] w0 x6:=P6.trans Q6 (fun x hx=>.inr (V7.block x (by simpa using hx)).1);have hIE:(fun w':World=>Blk w' w.heap.size 70 m.cells) x6:=Blk.only hI5 Q6 (fun hx=>by have:=(V7.block w.heap.size (by simpa using hx)).1;have:=K0.lt;omega);refine hK _ _ ?_;clear hK K;refine wpAnyE_tg 13 (v:=v12) rfl hIE ?_;refine AX (by kernel_rfl) hIE ?_;(try simp only[Exit.then])
    go_wp2_with fail
    go_ret
    exact FI ok (P0.trans PE (by simp)) (V12.mono P0.size) M12' hp1 hp2 hn1 hn2
 ·rw[if_pos (by kernel_rfl)];have Q1:Only [] w0.drew ((w0.alloc (.cells #[.int .i64 4,.int .u32 0,.slice m.mA m.modes.length m.mc,.slice none 0 0] 86)).drew):=(Only.refl [] w0.drew).alloc _;have B3:Blk ((w0.alloc (.cells #[.int .i64 4,.int .u32 0,.slice m.mA m.modes.length m.mc,.slice none 0 0] 86)).drew) w0.heap.size 86 [.int .i64 4,.int .u32 0,.slice m.mA m.modes.length m.mc,.slice none 0 0]:=Blk.new w0.drew _ _;have lt3:w0.heap.size<((w0.alloc (.cells #[.int .i64 4,.int .u32 0,.slice m.mA m.modes.length m.mc,.slice none 0 0] 86)).drew).heap.size:=by simp
  obtain⟨q3,hq3⟩: ∃q,q=w0.heap.size:=⟨_,rfl⟩;go_simp
  obtain⟨x1,hx1⟩: ∃x,x=(w0.alloc (.cells #[.int .i64 4,.int .u32 0,.slice m.mA m.modes.length m.mc,.slice none 0 0] 86)).drew:=⟨_,rfl⟩;rw[←hx1] at Q1 B3 lt3⊢;rw[←hq3] at B3 lt3;rw[show(Value.slice (some ⟨w0.heap.size,0,none⟩) 1 1)=Value.slice (some ⟨q3,0,none⟩) 1 1 by rw[hq3]];have P2:Only [] w0 x1:=P1.trans Q1 (by simp);have hI1:(fun w':World=>Blk w' w.heap.size 70 m.cells) x1:=Blk.only (Blk.drew K0) Q1 (by simp);replace hx1:=AB hx1;replace hq3:=AB hq3;refine hK _ _ ?_;clear hK K;refine AD 2 rfl (by kernel_rfl) hI1 (fun K hK=>?_);rw[if_pos (by kernel_rfl)];have T:=DG m.text x1 hs;go_simp
  go_call T as e x2 ⟨Q2,f1,rfl,hp1,hnew1,ok1,hn1⟩
  clear T;have P3:Only [] w0 x2:=P2.trans Q2 (by simp);have hI2:(fun w':World=>Blk w' w.heap.size 70 m.cells) x2:=Blk.only hI1 Q2 (by simp);have B3:=B3.only Q2 (by simp);have lt3:q3<x2.heap.size:=Nat.lt_of_lt_of_le lt3 Q2.size;refine hK _ _ ?_;clear hK K;unfold FD.val;refine FV 3 6 rfl rfl (by kernel_rfl) hI2 (fun K hK=>?_) (fun K hK=>?_)
  ·rw[if_pos (by kernel_rfl)];have Q3:Only [] x2 (x2.alloc (.cells #[.int .i64 f1.kind,.int .u32 f1.n,.slice f1.tA f1.text.length f1.tc,.slice f1.lA f1.list.length f1.lc] 86)):=(Only.refl [] x2).alloc _;have V1:BK FD.cells 86 4 (x2.alloc (.cells #[.int .i64 f1.kind,.int .u32 f1.n,.slice f1.tA f1.text.length f1.tc,.slice f1.lA f1.list.length f1.lc] 86)) w0.heap.size (.slice (some ⟨x2.heap.size,0,none⟩) 1 1) [f1]:=BK.mono (cf:=FD.cells) (DL x2 [f1] 1 rfl (by decide) #[.int .i64 f1.kind,.int .u32 f1.n,.slice f1.tA f1.text.length f1.tc,.slice f1.lA f1.list.length f1.lc] (by simp[CC,FD.cells])) P3.size;have off1:f1.off (.slice (some ⟨x2.heap.size,0,none⟩) 1 1):=CN ok1 1 1;have lt1:x2.heap.size<(x2.alloc (.cells #[.int .i64 f1.kind,.int .u32 f1.n,.slice f1.tA f1.text.length f1.tc,.slice f1.lA f1.list.length f1.lc] 86)).heap.size:=by simp
   have g13: ¬x2.heap.size=q3:=by have:=lt3;omega
   obtain⟨q1,hq1⟩: ∃q,q=x2.heap.size:=⟨_,rfl⟩;go_simp
   obtain⟨x3,hx3⟩: ∃x,x=x2.alloc (.cells #[.int .i64 f1.kind,.int .u32 f1.n,.slice f1.tA f1.text.length f1.tc,.slice f1.lA f1.list.length f1.lc] 86):=⟨_,rfl⟩;rw[←hx3] at Q3 V1 lt1⊢;rw[←hq1] at V1 off1 lt1 g13⊢;have P4:Only [] w0 x3:=P3.trans Q3 (by simp);have hI3:(fun w':World=>Blk w' w.heap.size 70 m.cells) x3:=Blk.only hI2 Q3 (by simp);have ok1:=ok1.only Q3;have B3:=B3.only Q3 (by simp);have lt3:q3<x3.heap.size:=Nat.lt_of_lt_of_le lt3 Q3.size;replace hx3:=AB hx3;replace hq1:=AB hq1;refine hK _ _ ?_;clear hK K;refine AD 6 rfl (by kernel_rfl) hI3 (fun K hK=>?_);rw[if_pos (by kernel_rfl)];have T:=EK m.cols m.rows m.width m.height x3 ok.nums.1 ok.nums.2.1 ok.nums.2.2.1 ok.nums.2.2.2.1;go_simp
   go_call T as e x4 ⟨Q4,v2,fs2,rfl,V2,hp2,M2x,hn2⟩
   clear T;replace V2:BK FD.cells 86 4 x4 w0.heap.size v2 fs2:=BK.mono (cf:=FD.cells) V2 P4.size;have M2:=fun f hf=>(M2x f hf).1;clear M2x;have P5:Only [] w0 x4:=P4.trans Q4 (by simp);have hI4:(fun w':World=>Blk w' w.heap.size 70 m.cells) x4:=Blk.only hI3 Q4 (by simp);have ok1:=ok1.only Q4;have V1:=V1.only Q4;have lt1:q1<x4.heap.size:=Nat.lt_of_lt_of_le lt1 Q4.size;have B3:=B3.only Q4 (by simp);have lt3:q3<x4.heap.size:=Nat.lt_of_lt_of_le lt3 Q4.size;obtain⟨A2,c2,rfl,hc2,hm2,_,_⟩:=V2.form;refine hK _ _ ?_;clear hK K;refine AD 7 rfl (by kernel_rfl) hI4 (fun K hK=>?_);rw[if_pos (by kernel_rfl)];have R2':RdX FD.cells x4 A2 fs2:=by obtain⟨A2',c2',e2,_,_,R2',_⟩:=V2.form;rw[(Value.slice.inj e2).1];exact R2'
   have l2:fs2.length=4:=by have:=congrArg List.length hp2;simpa using this
   refine CU (.tmp 10) (.tmp 13) FX rfl JU JT (by kernel_rfl) V1 A2 c2 fs2 _ rfl (by kernel_rfl) R2' (by simp only[maxLen,List.length_singleton];omega) (by simp only[List.length_singleton];omega) P5.size ?_;intro v7 x5 V7 Q5 G5;have V7:=V7.out;have M12: ∀f∈[f1]++fs2,FD.ok x4 f∧f.off (.slice (some ⟨q1,0,none⟩) 1 1):=fun f hf=>by
    rcases List.mem_append.1 hf with hf|hf;·rw[List.mem_singleton] at hf;subst hf;exact⟨ok1,off1⟩
    ·exact⟨M2 f hf,ER (BI hp2 f hf).1 (BI hp2 f hf).2⟩
   have M7:=BT Q5 G5.out M12;have hq1w:=(V1.block q1 rfl).1;have P6:Only [] w0 x5:=P5.trans Q5 (fun x hx=>.inr (by have h9:x=q1:=(by simpa[Value.ownBlock] using hx);omega));have hI5:(fun w':World=>Blk w' w.heap.size 70 m.cells) x5:=Blk.only hI4 Q5 (fun hx=>by have h9:w.heap.size=q1:=(by simpa[Value.ownBlock] using hx);have:=K0.lt;omega);have B3:=B3.only Q5 (fun hx=>by have h9:q3=q1:=(by simpa[Value.ownBlock] using hx);omega);have lt3:q3<x5.heap.size:=Nat.lt_of_lt_of_le lt3 Q5.size;refine hK _ _ ?_;clear hK K;refine AD 12 rfl (by kernel_rfl) hI5 (fun K hK=>?_);rw[if_pos (by kernel_rfl)];refine CU (.tmp 14) (.tmp 18) FX rfl JU JT (by kernel_rfl) V7 (some ⟨q3,0,none⟩) 1 [⟨4,0,m.mA,m.mc,m.modes,none,0,[]⟩] 1 rfl (by kernel_rfl) (HM B3) (by simp only[maxLen,List.length_append,List.length_singleton];omega) (by simp only[List.length_append,List.length_singleton];omega) P6.size ?_;intro v12 x6 V12 Q6 G6;have V12:=V12.out;have M12':=BT Q6 G6.out M7;have PE:Only [] w0 x6:=P6.trans Q6 (fun x hx=>.inr (V7.block x (by simpa using hx)).1);have hIE:(fun w':World=>Blk w' w.heap.size 70 m.cells) x6:=Blk.only hI5 Q6 (fun hx=>by have:=(V7.block w.heap.size (by simpa using hx)).1;have:=K0.lt;omega);refine hK _ _ ?_;clear hK K;refine wpAnyE_tg 13 (v:=v12) rfl hIE ?_;refine AX (by kernel_rfl) hIE ?_;(try simp only[Exit.then])
   go_wp2_with fail
   go_ret
   exact FI ok (P0.trans PE (by simp)) (V12.mono P0.size) M12' hp1 hp2 hn1 hn2
  ·rw[if_pos (by kernel_rfl)];have T:=EK m.cols m.rows m.width m.height x2 ok.nums.1 ok.nums.2.1 ok.nums.2.2.1 ok.nums.2.2.2.1;go_simp
   go_call T as e x3 ⟨Q3,v2,fs2,rfl,V2,hp2,M2x,hn2⟩
   clear T;replace V2:BK FD.cells 86 4 x3 w0.heap.size v2 fs2:=BK.mono (cf:=FD.cells) V2 P3.size;have M2:=fun f hf=>(M2x f hf).1;clear M2x;have P4:Only [] w0 x3:=P3.trans Q3 (by simp);have hI3:(fun w':World=>Blk w' w.heap.size 70 m.cells) x3:=Blk.only hI2 Q3 (by simp);have ok1:=ok1.only Q3;have B3:=B3.only Q3 (by simp);have lt3:q3<x3.heap.size:=Nat.lt_of_lt_of_le lt3 Q3.size;obtain⟨A2,c2,rfl,hc2,hm2,_,_⟩:=V2.form;refine hK _ _ ?_;clear hK K;refine AD 3 rfl (by kernel_rfl) hI3 (fun K hK=>?_);rw[if_pos (by kernel_rfl)];have Q4:Only [] x3 (x3.alloc (.cells #[.int .i64 f1.kind,.int .u32 f1.n,.slice f1.tA f1.text.length f1.tc,.slice f1.lA f1.list.length f1.lc] 86)):=(Only.refl [] x3).alloc _;have V1:BK FD.cells 86 4 (x3.alloc (.cells #[.int .i64 f1.kind,.int .u32 f1.n,.slice f1.tA f1.text.length f1.tc,.slice f1.lA f1.list.length f1.lc] 86)) w0.heap.size (.slice (some ⟨x3.heap.size,0,none⟩) 1 1) [f1]:=BK.mono (cf:=FD.cells) (DL x3 [f1] 1 rfl (by decide) #[.int .i64 f1.kind,.int .u32 f1.n,.slice f1.tA f1.text.length f1.tc,.slice f1.lA f1.list.length f1.lc] (by simp[CC,FD.cells])) P4.size;have off1:f1.off (.slice (some ⟨x3.heap.size,0,none⟩) 1 1):=CN ok1 1 1;have lt1:x3.heap.size<(x3.alloc (.cells #[.int .i64 f1.kind,.int .u32 f1.n,.slice f1.tA f1.text.length f1.tc,.slice f1.lA f1.list.length f1.lc] 86)).heap.size:=by simp
   have g13: ¬x3.heap.size=q3:=by have:=lt3;omega
   obtain⟨q1,hq1⟩: ∃q,q=x3.heap.size:=⟨_,rfl⟩;go_simp
   obtain⟨x4,hx4⟩: ∃x,x=x3.alloc (.cells #[.int .i64 f1.kind,.int .u32 f1.n,.slice f1.tA f1.text.length f1.tc,.slice f1.lA f1.list.length f1.lc] 86):=⟨_,rfl⟩;rw[←hx4] at Q4 V1 lt1⊢;rw[←hq1] at V1 off1 lt1 g13⊢;have P5:Only [] w0 x4:=P4.trans Q4 (by simp);have hI4:(fun w':World=>Blk w' w.heap.size 70 m.cells) x4:=Blk.only hI3 Q4 (by simp);have ok1:=ok1.only Q4;have V2:=V2.only Q4;have M2:=fun f hf=>(M2 f hf).only Q4;have B3:=B3.only Q4 (by simp);have lt3:q3<x4.heap.size:=Nat.lt_of_lt_of_le lt3 Q4.size;replace hx4:=AB hx4;replace hq1:=AB hq1;refine hK _ _ ?_;clear hK K;refine AD 7 rfl (by kernel_rfl) hI4 (fun K hK=>?_);rw[if_pos (by kernel_rfl)];have R2':RdX FD.cells x4 A2 fs2:=by obtain⟨A2',c2',e2,_,_,R2',_⟩:=V2.form;rw[(Value.slice.inj e2).1];exact R2'
   have l2:fs2.length=4:=by have:=congrArg List.length hp2;simpa using this
   refine CU (.tmp 10) (.tmp 13) FX rfl JU JT (by kernel_rfl) V1 A2 c2 fs2 _ rfl (by kernel_rfl) R2' (by simp only[maxLen,List.length_singleton];omega) (by simp only[List.length_singleton];omega) P5.size ?_;intro v7 x5 V7 Q5 G5;have V7:=V7.out;have M12: ∀f∈[f1]++fs2,FD.ok x4 f∧f.off (.slice (some ⟨q1,0,none⟩) 1 1):=fun f hf=>by
    rcases List.mem_append.1 hf with hf|hf;·rw[List.mem_singleton] at hf;subst hf;exact⟨ok1,off1⟩
    ·exact⟨M2 f hf,ER (BI hp2 f hf).1 (BI hp2 f hf).2⟩
   have M7:=BT Q5 G5.out M12;have hq1w:=(V1.block q1 rfl).1;have P6:Only [] w0 x5:=P5.trans Q5 (fun x hx=>.inr (by have h9:x=q1:=(by simpa[Value.ownBlock] using hx);omega));have hI5:(fun w':World=>Blk w' w.heap.size 70 m.cells) x5:=Blk.only hI4 Q5 (fun hx=>by have h9:w.heap.size=q1:=(by simpa[Value.ownBlock] using hx);have:=K0.lt;omega);have B3:=B3.only Q5 (fun hx=>by have h9:q3=q1:=(by simpa[Value.ownBlock] using hx);omega);have lt3:q3<x5.heap.size:=Nat.lt_of_lt_of_le lt3 Q5.size;refine hK _ _ ?_;clear hK K;refine AD 12 rfl (by kernel_rfl) hI5 (fun K hK=>?_);rw[if_pos (by kernel_rfl)];refine CU (.tmp 14) (.tmp 18) FX rfl JU JT (by kernel_rfl) V7 (some ⟨q3,0,none⟩) 1 [⟨4,0,m.mA,m.mc,m.modes,none,0,[]⟩] 1 rfl (by kernel_rfl) (HM B3) (by simp only[maxLen,List.length_append,List.length_singleton];omega) (by simp only[List.length_append,List.length_singleton];omega) P6.size ?_;intro v12 x6 V12 Q6 G6;have V12:=V12.out;have M12':=BT Q6 G6.out M7;have PE:Only [] w0 x6:=P6.trans Q6 (fun x hx=>.inr (V7.block x (by simpa using hx)).1);have hIE:(fun w':World=>Blk w' w.heap.size 70 m.cells) x6:=Blk.only hI5 Q6 (fun hx=>by have:=(V7.block w.heap.size (by simpa using hx)).1;have:=K0.lt;omega);refine hK _ _ ?_;clear hK K;refine wpAnyE_tg 13 (v:=v12) rfl hIE ?_;refine AX (by kernel_rfl) hIE ?_;(try simp only[Exit.then])
   go_wp2_with fail
   go_ret
   exact FI ok (P0.trans PE (by simp)) (V12.mono P0.size) M12' hp1 hp2 hn1 hn2
end Go.Proofs.YtkgikodiecmakaaGreatDoor
namespace Go.Proofs.YtkgikodiecmakaaGreatDoor
open Go.RowKit
theorem CG (m:RQ) (w:World) (k:Nat) (h1:1≤k) (h2:k≤10) (hk:m.kind=k) (ok:m.ok w) (hs:m.text.size≤140737488355328) (hv:m.value.size≤140737488355328) (hl:m.lang.size≤140737488355328):Calls Tryz.prog 37 #[m.val] w (AZ w (DM m k)):=by
 rcases k10 h1 h2 with rfl|rfl|rfl|rfl|rfl|rfl|rfl|rfl|rfl|rfl;·exact YK m w hk ok hs hv hl
 ·exact YL m w hk ok hs hv hl
 ·exact YM m w hk ok hs hv hl
 ·exact YN m w hk ok hs hv hl
 ·exact YO m w hk ok hs hv hl
 ·exact YP m w hk ok hs hv hl
 ·exact YQ m w hk ok hs hv hl
 ·exact YR m w hk ok hs hv hl
 ·exact YS m w hk ok hs hv hl
 ·exact UX m w hk ok hs hv hl
end Go.Proofs.YtkgikodiecmakaaGreatDoor
namespace Go.Proofs.YtkgikodiecmakaaGreatDoor
open Go.RowKit
theorem all_and {α:Type} (p q:α→Bool) (l:List α):(l.all fun c=>p c&&q c)=(l.all p&&l.all q):=by
 induction l with
 |nil=>rfl
 |cons a l ih=>rw[List.all_cons,List.all_cons,List.all_cons,ih];cases p a<;>cases q a<;>cases l.all p<;>rfl
def nmRow:List Value:=[.string (AR 0),.string (AR 1),.string (AR 2),.string (AR 3),.string (AR 4),.string (AR 5),.string (AR 6),.string (AR 7),.string (AR 8),.string (AR 9),.string (AR 10)]
def nmTab:Array Value:=nmRow.toArray
theorem nm_index (k:Nat) (h1:1≤k) (h2:k≤10) (w:World):(Instr.index 96 (.agg nmTab) (.int .i64 (k:Int))).run Tryz.prog w = .ok (.string (AR k)) w:=by
 rcases k10 h1 h2 with rfl|rfl|rfl|rfl|rfl|rfl|rfl|rfl|rfl|rfl<;>kernel_rfl
theorem CJ (k:Nat) (h1:1≤k) (h2:k≤10) (w:World):Calls Tryz.prog 36 #[.int .i64 (k:Int)] w fun e w'=>e = .returned (.tuple #[.string (AR k),.bool true])∧w=w':=by
 have i1: ¬(k:Int)<1:=by omega
 have i2: ¬(10:Int)<(k:Int):=by omega
 have hx:=fun w=>nm_index k h1 h2 w;obtain⟨nm,hnm⟩: ∃nm,AR k=nm:=⟨_,rfl⟩;rw[hnm];rw[hnm] at hx;replace hnm:=AB hnm;go_enter Tryz.func36,Tryz.ntmps36
 go_wp2_with (refine CB 10 rfl rfl 96 _ rfl nmTab (by kernel_rfl) ?_)
 go_ret2
 exact⟨rfl,rfl⟩
def HY (s:ByteArray) (least:Nat) (but:Int):Bool:=FU s least&&s.data.toList.all fun c=>decide ((c.toNat:Int)≠but)
theorem YU (s:ByteArray) (least:Nat) (but:Int) (w:World) (hs:s.size≤maxLen):Calls Tryz.prog 51 #[.string s,.int .i64 (least:Int),.int .u8 but] w fun e w'=>e = .returned (.bool (HY s least but))∧w=w':=by
 unfold maxLen at hs;obtain⟨R,hR⟩: ∃R,R=HY s least but:=⟨_,rfl⟩;rw[←hR];by_cases h1:s.size<least
 ·have hR0:R=false:=by rw[hR];unfold HY FU;rw[decide_eq_false (show¬least≤s.size by omega)];rfl
  have i1:(s.size:Int)<(least:Int):=by omega
  clear hR;replace hR0:=AB hR0;go_enter Tryz.func51,Tryz.ntmps51
  go_wp2
  go_ret
  exact⟨GM hR0.out.symm,rfl⟩
 have i1: ¬(s.size:Int)<(least:Int):=by omega
 by_cases h2:64<s.size
 ·have hR0:R=false:=by rw[hR];unfold HY FU;rw[decide_eq_false (show¬s.size≤64 by omega)];simp
  have i2:(64:Int)<(s.size:Int):=by omega
  clear hR;replace hR0:=AB hR0;go_enter Tryz.func51,Tryz.ntmps51
  go_wp2
  go_ret
  exact⟨GM hR0.out.symm,rfl⟩
 have i2: ¬(64:Int)<(s.size:Int):=by omega
 have hR1:R=s.data.toList.all fun c=>JZ c&&decide ((c.toNat:Int)≠but):=by
  rw[hR];unfold HY FU;rw[decide_eq_true (show least≤s.size by omega),decide_eq_true (show s.size≤64 by omega),Bool.true_and,Bool.true_and,←all_and]
 clear hR;obtain⟨n,hn⟩: ∃n,s.size=n:=⟨_,rfl⟩;replace hR1:=AB hR1;replace hn:=AB hn;go_enter Tryz.func51,Tryz.ntmps51
 go_wp2
 go_loop [7] (fun i=>∃k:Nat,k≤s.size∧i = .int .i64 k∧Hid ((s.data.toList.take k).all (fun c=>JZ c&&decide ((c.toNat:Int)≠but))=true)) (fun i=>s.size-(intOf i).toNat)
 case atStart=>exact⟨0,by omega,rfl,AB rfl⟩
 case round=>
  obtain⟨k,hk,rfl,hg⟩:=hrel;by_cases hlt:k<s.size
  ·have hts:=AB (KS s k hlt);have hmem:s[k]∈s.data.toList:=by
    have:s[k]=s.data.toList[k]'(by simpa using hlt):=rfl;rw[this];exact List.getElem_mem _
   replace hmem:=AB hmem;by_cases q1:s[k].toNat<33
   ·have hf:R=false:=by
     rw[hR1.out,Bool.eq_false_iff];intro h;have:=List.all_eq_true.1 h s[k] hmem.out;unfold JZ at this;simp at this;omega
    clear hR1;replace hf:=AB hf;go_wp2
    go_ret
    exact⟨GM hf.out.symm,rfl⟩
   by_cases q2:126<s[k].toNat
   ·have hf:R=false:=by
     rw[hR1.out,Bool.eq_false_iff];intro h;have:=List.all_eq_true.1 h s[k] hmem.out;unfold JZ at this;simp at this;omega
    clear hR1;replace hf:=AB hf;go_wp2
    go_ret
    exact⟨GM hf.out.symm,rfl⟩
   by_cases q3:(s[k].toNat:Int)=but
   ·have hf:R=false:=by
     rw[hR1.out,Bool.eq_false_iff];intro h;have:=List.all_eq_true.1 h s[k] hmem.out;simp[q3] at this
    have q3b:((s[k].toNat:Int)==but)=true:=by simpa using q3
    clear hR1;replace hf:=AB hf;replace q3:=AB q3;go_wp2
    go_ret
    exact⟨GM hf.out.symm,rfl⟩
   ·have q3b:((s[k].toNat:Int)==but)=false:=by simpa using q3
    have hcc:(JZ s[k]&&decide ((s[k].toNat:Int)≠but))=true:=by
     unfold JZ;simp[q3];omega
    replace hcc:=AB hcc;replace q3:=AB q3;go_wp2
    go_round
    case rel=>exact⟨k+1,by omega,by go_num,AB (by rw[hts.out,List.all_append,hg.out,List.all_cons,hcc.out];rfl)⟩
    case measure=>simp[intOf];omega
  ·obtain rfl:k=s.size:=by omega
   have hf:R=true:=by
    rw[hR1.out];have:=hg.out;rw[List.take_of_length_le (by simp)] at this;exact this
   replace hf:=AB hf;go_wp2
   go_ret
   exact⟨GM hf.out.symm,rfl⟩
theorem GN (s:ByteArray) (least:Nat):HY s least 0=FU s least:=by
 unfold HY;cases h:FU s least with
 |false=>rfl
 |true=>
  unfold FU at h;simp only[Bool.and_eq_true] at h;rw[Bool.true_and,List.all_eq_true];intro c hc;have:=List.all_eq_true.1 h.2 c hc;unfold JZ at this;simp at this;simp;omega
theorem bY (s:ByteArray) (least:Nat):HY s least 61=(FU s least && !PZ s):=by
 unfold HY;congr 1
 rw[Bool.eq_iff_iff,List.all_eq_true,Bool.not_eq_true'];unfold PZ;rw[decide_eq_false_iff_not];constructor
 ·intro h hc;have:=h 61 hc;rw[decide_eq_true_eq] at this;exact this rfl
 ·intro h c hc;rw[decide_eq_true_eq];intro e;have:c=61:=by
   apply UInt8.toNat_inj.1;show c.toNat=61;omega
  exact h (this ▸ hc)
end Go.Proofs.YtkgikodiecmakaaGreatDoor
namespace Go.Proofs.YtkgikodiecmakaaGreatDoor
open Go.RowKit
theorem ZK {s:ByteArray} {n:Nat} (h:FU s n=false):BR s n=4:=by unfold BR;rw[h];rfl
theorem HQ {s:ByteArray} {n:Nat} (h:FU s n=true):BR s n=0:=by unfold BR;rw[h];rfl
theorem NL {s:ByteArray} {n:Nat} {l:List Int} (h:FU s n=false):DC (BR s n::l)=4:=by
 rw[ZK h];rfl
theorem EI {a:Int} {l:List Int} {E:Int} (h:a=0) (h2:DC l=E):DC (a::l)=E:=by
 subst h;exact h2
theorem KG {n:Nat} (h:1024<n):DC [CH n]=6:=by rw[show CH n=6 from if_pos h];rfl
theorem KF {n:Nat} (h: ¬1024<n):DC [CH n]=0:=by rw[show CH n=0 from if_neg h];rfl
theorem ask2_bad {m:RQ} (h:HY m.text 1 61=false):DB m 2=4:=by
 rw[bY] at h;by_cases hq:PZ m.text=true
 ·exact if_pos hq
 ·have:PZ m.text=false:=by simpa using hq
  rw[this] at h;rw[show DB m 2=DC [BR m.text 1,CH m.value.size] from if_neg hq];exact NL (by simpa using h)
theorem VJ {m:RQ} {E:Int} (h:HY m.text 1 61=true) (h2:DC [CH m.value.size]=E):DB m 2=E:=by
 rw[bY] at h;simp only[Bool.and_eq_true,Bool.not_eq_true'] at h;rw[show DB m 2=DC [BR m.text 1,CH m.value.size] from if_neg (by rw[h.2];simp)];exact EI (HQ h.1) h2
theorem CQ (m:RQ) (w:World) (k:Nat) (h1:1≤k) (h2:k≤10) (hk:m.kind=k) (ok:m.ok w):Calls Tryz.prog 39 #[m.val] w fun e w'=>e = .returned (.int .i64 (DB m k))∧Only [] w w':=by
 have O:Only [] w (w.alloc (.cells #[.int .i64 m.kind,.string m.text,.string m.value,.string m.lang,.int .u32 m.cols,.int .u32 m.rows,.int .u32 m.width,.int .u32 m.height,.slice m.mA m.modes.length m.mc,.bool m.on,.int .u32 m.code] 70)):=(Only.refl _ _).alloc _;have W:=fun s n b hs=>YU s n b (w.alloc (.cells #[.int .i64 m.kind,.string m.text,.string m.value,.string m.lang,.int .u32 m.cols,.int .u32 m.rows,.int .u32 m.width,.int .u32 m.height,.slice m.mA m.modes.length m.mc,.bool m.on,.int .u32 m.code] 70)) hs;obtain⟨w1,hw1⟩: ∃w1,w1=w.alloc (.cells #[.int .i64 m.kind,.string m.text,.string m.value,.string m.lang,.int .u32 m.cols,.int .u32 m.rows,.int .u32 m.width,.int .u32 m.height,.slice m.mA m.modes.length m.mc,.bool m.on,.int .u32 m.code] 70):=⟨_,rfl⟩;rw[←hw1] at O W;have K1:Blk w1 w.heap.size 70 m.cells:=by rw[hw1];exact Blk.new w _ _
 unfold RQ.val;have c0:w1.cell? ⟨w.heap.size,0,none⟩=some (.int .i64 m.kind):=K1.cell 0;have c1:w1.cell? ⟨w.heap.size,1,none⟩=some (.string m.text):=K1.cell 1;have c2:w1.cell? ⟨w.heap.size,2,none⟩=some (.string m.value):=K1.cell 2;have c3:w1.cell? ⟨w.heap.size,3,none⟩=some (.string m.lang):=K1.cell 3;have c4:w1.cell? ⟨w.heap.size,4,none⟩=some (.int .u32 m.cols):=K1.cell 4;have c5:w1.cell? ⟨w.heap.size,5,none⟩=some (.int .u32 m.rows):=K1.cell 5;have c6:w1.cell? ⟨w.heap.size,6,none⟩=some (.int .u32 m.width):=K1.cell 6;have c7:w1.cell? ⟨w.heap.size,7,none⟩=some (.int .u32 m.height):=K1.cell 7;have c8:w1.cell? ⟨w.heap.size,8,none⟩=some (.slice m.mA m.modes.length m.mc):=K1.cell 8;have c9:w1.cell? ⟨w.heap.size,9,none⟩=some (.bool m.on):=K1.cell 9;have c10:w1.cell? ⟨w.heap.size,10,none⟩=some (.int .u32 m.code):=K1.cell 10;rcases k10 h1 h2 with rfl|rfl|rfl|rfl|rfl|rfl|rfl|rfl|rfl|rfl
 ·have hk:m.kind=1:=hk;rw[hk] at hw1 c0⊢;replace hk:=AB hk;have W1:=W m.text 0 0 ok.text;obtain⟨b,hb⟩: ∃b,HY m.text 0 0=b:=⟨_,rfl⟩;rw[hb] at W1;replace hb:=AB hb;obtain⟨E,hE⟩: ∃E,DB m 1=E:=⟨_,rfl⟩;rw[hE];replace hE:=AB hE;replace W:=AB W;go_enter Tryz.func39,Tryz.ntmps39
  go_wp2_with fail
  rw[←hw1];replace hw1:=AB hw1;go_call W1 as e w2 ⟨rfl,rfl⟩
  clear W1;cases b with
  |false=>
   have hq:E=4:=by
    rw[←hE.out];have:=hb.out;rw[GN] at this;exact NL this
   replace hq:=AB hq;go_wp2_with fail
   go_ret
   exact⟨CR hq.out.symm,O⟩
  |true=>
   by_cases hx:1024<m.modes.length
   ·have ix:(1024:Int)<(m.modes.length:Int):=by omega
    have hq:E=6:=by
     rw[←hE.out];have h1:=hb.out;rw[GN] at h1;exact EI (HQ h1) (KG hx)
    replace hq:=AB hq;go_wp2_with fail
    go_ret
    exact⟨CR hq.out.symm,O⟩
   ·have ix: ¬(1024:Int)<(m.modes.length:Int):=by omega
    have hq:E=0:=by
     rw[←hE.out];have h1:=hb.out;rw[GN] at h1;exact EI (HQ h1) (KF hx)
    replace hq:=AB hq;go_wp2_with fail
    go_ret
    exact⟨CR hq.out.symm,O⟩
 ·have hk:m.kind=2:=hk;rw[hk] at hw1 c0⊢;replace hk:=AB hk;have W1:=W m.text 1 61 ok.text;obtain⟨b,hb⟩: ∃b,HY m.text 1 61=b:=⟨_,rfl⟩;rw[hb] at W1;replace hb:=AB hb;obtain⟨E,hE⟩: ∃E,DB m 2=E:=⟨_,rfl⟩;rw[hE];replace hE:=AB hE;replace W:=AB W;go_enter Tryz.func39,Tryz.ntmps39
  go_wp2_with fail
  rw[←hw1];replace hw1:=AB hw1;go_call W1 as e w2 ⟨rfl,rfl⟩
  clear W1;cases b with
  |false=>
   have hq:E=4:=by
    rw[←hE.out];exact ask2_bad hb.out
   replace hq:=AB hq;go_wp2_with fail
   go_ret
   exact⟨CR hq.out.symm,O⟩
  |true=>
   by_cases hx:1024<m.value.size
   ·have ix:(1024:Int)<(m.value.size:Int):=by omega
    have hq:E=6:=by
     rw[←hE.out];exact VJ hb.out (KG hx)
    replace hq:=AB hq;go_wp2_with fail
    go_ret
    exact⟨CR hq.out.symm,O⟩
   ·have ix: ¬(1024:Int)<(m.value.size:Int):=by omega
    have hq:E=0:=by
     rw[←hE.out];exact VJ hb.out (KF hx)
    replace hq:=AB hq;go_wp2_with fail
    go_ret
    exact⟨CR hq.out.symm,O⟩
 ·have hk:m.kind=3:=hk;rw[hk] at hw1 c0⊢;replace hk:=AB hk;replace W:=AB W;go_enter Tryz.func39,Tryz.ntmps39
  go_wp2_with fail
  rw[←hw1];replace hw1:=AB hw1;go_ret
  exact⟨rfl,O⟩
 ·have hk:m.kind=4:=hk;rw[hk] at hw1 c0⊢;replace hk:=AB hk;replace W:=AB W;by_cases hx:1024<m.text.size
  ·have hE:DB m 4=6:=if_pos hx;have ix:(1024:Int)<(m.text.size:Int):=by omega
   rw[hE];clear hE;go_enter Tryz.func39,Tryz.ntmps39
   go_wp2_with fail
   rw[←hw1];replace hw1:=AB hw1;go_ret
   exact⟨rfl,O⟩
  ·have hE:DB m 4=0:=if_neg hx;have ix: ¬(1024:Int)<(m.text.size:Int):=by omega
   rw[hE];clear hE;go_enter Tryz.func39,Tryz.ntmps39
   go_wp2_with fail
   rw[←hw1];replace hw1:=AB hw1;go_ret
   exact⟨rfl,O⟩
 ·have hk:m.kind=5:=hk;rw[hk] at hw1 c0⊢;replace hk:=AB hk;have W1:=W m.text 1 0 ok.text;obtain⟨b,hb⟩: ∃b,HY m.text 1 0=b:=⟨_,rfl⟩;rw[hb] at W1;replace hb:=AB hb;obtain⟨E,hE⟩: ∃E,DB m 5=E:=⟨_,rfl⟩;rw[hE];replace hE:=AB hE;replace W:=AB W;go_enter Tryz.func39,Tryz.ntmps39
  go_wp2_with fail
  rw[←hw1];replace hw1:=AB hw1;go_call W1 as e w2 ⟨rfl,rfl⟩
  clear W1;cases b with
  |false=>
   have hq:E=4:=by
    rw[←hE.out];have:=hb.out;rw[GN] at this;exact ZK this
   replace hq:=AB hq;go_wp2_with fail
   go_ret
   exact⟨CR hq.out.symm,O⟩
  |true=>
   have hq:E=0:=by
    rw[←hE.out];have:=hb.out;rw[GN] at this;exact HQ this
   replace hq:=AB hq;go_wp2_with fail
   go_ret
   exact⟨CR hq.out.symm,O⟩
 ·have hk:m.kind=6:=hk;rw[hk] at hw1 c0⊢;replace hk:=AB hk;replace W:=AB W;go_enter Tryz.func39,Tryz.ntmps39
  go_wp2_with fail
  rw[←hw1];replace hw1:=AB hw1;go_ret
  exact⟨rfl,O⟩
 ·have hk:m.kind=7:=hk;rw[hk] at hw1 c0⊢;replace hk:=AB hk;replace W:=AB W;go_enter Tryz.func39,Tryz.ntmps39
  go_wp2_with fail
  rw[←hw1];replace hw1:=AB hw1;go_ret
  exact⟨rfl,O⟩
 ·have hk:m.kind=8:=hk;rw[hk] at hw1 c0⊢;replace hk:=AB hk;have W1:=W m.text 1 0 ok.text;obtain⟨b,hb⟩: ∃b,HY m.text 1 0=b:=⟨_,rfl⟩;rw[hb] at W1;replace hb:=AB hb;obtain⟨E,hE⟩: ∃E,DB m 8=E:=⟨_,rfl⟩;rw[hE];replace hE:=AB hE;replace W:=AB W;go_enter Tryz.func39,Tryz.ntmps39
  go_wp2_with fail
  rw[←hw1];replace hw1:=AB hw1;go_call W1 as e w2 ⟨rfl,rfl⟩
  clear W1;cases b with
  |false=>
   have hq:E=4:=by
    rw[←hE.out];have:=hb.out;rw[GN] at this;exact ZK this
   replace hq:=AB hq;go_wp2_with fail
   go_ret
   exact⟨CR hq.out.symm,O⟩
  |true=>
   have hq:E=0:=by
    rw[←hE.out];have:=hb.out;rw[GN] at this;exact HQ this
   replace hq:=AB hq;go_wp2_with fail
   go_ret
   exact⟨CR hq.out.symm,O⟩
 ·have hk:m.kind=9:=hk;rw[hk] at hw1 c0⊢;replace hk:=AB hk;replace W:=AB W;go_enter Tryz.func39,Tryz.ntmps39
  go_wp2_with fail
  rw[←hw1];replace hw1:=AB hw1;go_ret
  exact⟨rfl,O⟩
 ·have hk:m.kind=10:=hk;rw[hk] at hw1 c0⊢;replace hk:=AB hk;have W1:=W m.text 1 0 ok.text;obtain⟨b,hb⟩: ∃b,HY m.text 1 0=b:=⟨_,rfl⟩;rw[hb] at W1;replace hb:=AB hb;obtain⟨E,hE⟩: ∃E,DB m 10=E:=⟨_,rfl⟩;rw[hE];replace hE:=AB hE;have W2:=W m.lang 0 0 ok.lang;obtain⟨b2,hb2⟩: ∃b,HY m.lang 0 0=b:=⟨_,rfl⟩;rw[hb2] at W2;replace hb2:=AB hb2;replace W:=AB W;go_enter Tryz.func39,Tryz.ntmps39
  go_wp2_with fail
  rw[←hw1];replace hw1:=AB hw1;go_call W1 as e w2 ⟨rfl,rfl⟩
  clear W1;cases b with
  |false=>
   have hq:E=4:=by
    rw[←hE.out];have:=hb.out;rw[GN] at this;exact NL this
   replace hq:=AB hq;go_wp2_with fail
   go_ret
   exact⟨CR hq.out.symm,O⟩
  |true=>
   go_wp2_with fail
   go_call W2 as e w2 ⟨rfl,rfl⟩
   clear W2;cases b2 with
   |false=>
    have hq:E=4:=by
     rw[←hE.out];have h1:=hb.out;have h2:=hb2.out;rw[GN] at h1 h2;exact EI (HQ h1) (NL h2)
    replace hq:=AB hq;go_wp2_with fail
    go_ret
    exact⟨CR hq.out.symm,O⟩
   |true=>
    by_cases hx:1024<m.value.size
    ·have ix:(1024:Int)<(m.value.size:Int):=by omega
     have hq:E=6:=by
      rw[←hE.out];have h1:=hb.out;have h2:=hb2.out;rw[GN] at h1 h2;exact EI (HQ h1) (EI (HQ h2) (KG hx))
     replace hq:=AB hq;go_wp2_with fail
     go_ret
     exact⟨CR hq.out.symm,O⟩
    ·have ix: ¬(1024:Int)<(m.value.size:Int):=by omega
     have hq:E=0:=by
      rw[←hE.out];have h1:=hb.out;have h2:=hb2.out;rw[GN] at h1 h2;exact EI (HQ h1) (EI (HQ h2) (KF hx))
     replace hq:=AB hq;go_wp2_with fail
     go_ret
     exact⟨CR hq.out.symm,O⟩
end Go.Proofs.YtkgikodiecmakaaGreatDoor
namespace Go.Proofs.YtkgikodiecmakaaGreatDoor
open Go.RowKit
theorem YT (A:Option Addr) (ks:List Int) (cap:Nat) (w:World) (h:RdI w A ks) (hl:ks.length≤maxLen):Calls Tryz.prog 49 #[.slice A ks.length cap] w fun e w'=>e = .returned (.bool (JE ks))∧w=w':=by
 unfold maxLen at hl;obtain⟨n,hn⟩: ∃n,n=ks.length:=⟨_,rfl⟩;obtain⟨R,hR⟩: ∃R,R=JE ks:=⟨_,rfl⟩;rw[←hR];rw[←hn] at hl⊢;have HR:=AB hR;have HN:=AB hn;clear hR hn;go_enter Tryz.func49,Tryz.ntmps49
 go_wp2
 go_loop [7] (fun i=>∃k:Nat,k≤n∧i = .int .i64 k∧Good ks k) (fun i=>n-(intOf i).toNat)
 case atStart=>exact⟨0,by omega,rfl,fun i hi=>by omega⟩
 case round=>
  obtain⟨k,hk,rfl,hg⟩:=hrel;by_cases hlt:k<n
  ·obtain⟨b,off,x,rfl,hb,hx,hc⟩:=h.at k (by rw[←HN.out];exact hlt);have hga:GR ks k=(IC x && !(decide (x=6)&&decide (k+1<n))):=by
    unfold GR;rw[List.getD_eq_getElem?_getD,hx,HN.out];rfl
   have hg':GR ks k=true→Good ks (k+1):=fun h i hi=>by
    by_cases e:i=k
    ·rw[e];exact h
    ·exact hg i (by omega)
   have hnot:GR ks k=false→R=false:=fun h=>by rw[HR.out];exact WP (by rw[←HN.out];exact hlt) h
   rw[hga] at hg' hnot;replace hg':=AB hg';replace hnot:=AB hnot;clear hga hx;replace hg:=AB hg;have hk1:IC x=(decide (1≤x)&&decide (x≤6)):=rfl;by_cases h1:1≤x
   ·by_cases h2:x≤6
    ·have hok:IC x=true:=by rw[hk1];simp[h1,h2]
     have p1: ¬x<1:=by omega
     have p2: ¬(6:Int)<x:=by omega
     by_cases h6:x=6
     ·subst h6;by_cases hl2:k+1<n
      ·obtain rfl:R=false:=hnot.out (by simp[hok,hl2]);have hl3:((k:Int)!=(n:Int)-1)=true:=by simp;omega
       clear hg' hnot hok hk1;go_wp2
       go_ret
       exact⟨rfl,rfl⟩
      ·have hl3:((k:Int)!=(n:Int)-1)=false:=by simp;omega
       have hG:Good ks (k+1):=hg'.out (by simp[hok];omega);replace hG:=AB hG;clear hg' hnot hok hk1;go_wp2
       go_round
       case rel=>exact⟨k+1,by omega,by go_num,hG.out⟩
       case measure=>simp[intOf];omega
     ·have h6':(x==6)=false:=beq_eq_false_iff_ne.2 h6;have hG:Good ks (k+1):=hg'.out (by simp[hok,h6]);replace hG:=AB hG;clear hg' hnot hok hk1;go_wp2
      go_round
      case rel=>exact⟨k+1,by omega,by go_num,hG.out⟩
      case measure=>simp[intOf];omega
    ·have p1: ¬x<1:=by omega
     have p2:(6:Int)<x:=by omega
     obtain rfl:R=false:=hnot.out (by rw[hk1];simp[h2]);clear hg' hnot hk1;go_wp2
     go_ret
     exact⟨rfl,rfl⟩
   ·have p1:x<1:=by omega
    obtain rfl:R=false:=hnot.out (by rw[hk1];simp[h1]);clear hg' hnot hk1;go_wp2
    go_ret
    exact⟨rfl,rfl⟩
  ·obtain rfl:k=n:=by omega
   obtain rfl:R=true:=by rw[HR.out];exact LS.2 (fun i hi=>hg i (by rw[HN.out];exact hi))
   replace hg:=AB hg;go_wp2
   go_ret
   exact⟨rfl,rfl⟩
end Go.Proofs.YtkgikodiecmakaaGreatDoor
namespace Go.Proofs.YtkgikodiecmakaaGreatDoor
open Go.RowKit
theorem JM (A:Option Addr) (l:List Int) (c:Nat) (w:World) (h:Rd w A l) (h4:4≤l.length) (hb: ∀x∈l,0≤x∧x<256):Calls Tryz.prog 57 #[.slice A l.length c] w fun e w'=>e = .returned (.int .u32 (be4 l))∧Only [] w w':=by
 have hx: ∀k,k<4→∃x,l[k]? = some x∧l.getD k 0=x∧0≤x∧x<256:=by
  intro k hk;refine⟨l[k]'(by omega),List.getElem?_eq_getElem (by omega),?_,hb _ (List.getElem_mem _)⟩;simp[List.getD,List.getElem?_eq_getElem (show k<l.length by omega)]
 obtain⟨x0,hx0,hd0,a0,b0⟩:=hx 0 (by omega);obtain⟨x1,hx1,hd1,a1,b1⟩:=hx 1 (by omega);obtain⟨x2,hx2,hd2,a2,b2⟩:=hx 2 (by omega);obtain⟨x3,hx3,hd3,a3,b3⟩:=hx 3 (by omega);obtain⟨b,off,rfl,hlt,hc⟩:=h (by omega);have c0:w.cell? ⟨b,off,none⟩=some (.int .u8 x0):=hc 0 x0 hx0;have c1:=hc 1 x1 hx1;have c2:=hc 2 x2 hx2;have c3:=hc 3 x3 hx3;have hbe:be4 l=x0*16777216+x1*65536+x2*256+x3:=by unfold be4;rw[hd0,hd1,hd2,hd3]
 rw[hbe];obtain⟨L,hL⟩: ∃L,l.length=L:=⟨_,rfl⟩;rw[hL] at h4⊢;clear hL hbe hd0 hd1 hd2 hd3 hx hx0 hx1 hx2 hx3 hc hb;have l0:(0:Int)<L:=by omega
 have l1:(1:Int)<L:=by omega
 have l2:(2:Int)<L:=by omega
 have l3:(3:Int)<L:=by omega
 have m0:0<L:=by omega
 have m1:1<L:=by omega
 have m2:2<L:=by omega
 have m3:3<L:=by omega
 go_enter Tryz.func57,Tryz.ntmps57
 go_wp2
 go_quiet (fail)
 go_wp2
 go_ret
 exact⟨rfl,(Only.refl _ _).drewN _⟩
end Go.Proofs.YtkgikodiecmakaaGreatDoor
