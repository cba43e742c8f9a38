/- ClientSends: lemmas, from 'Layer 4: the getters' on; what each asks for stands in it. -/
import Derived.Test.YtfbhemmpobgdpaaGreatDoorCsI
import Derived.Test.YtfbhemmpobgdpaaGreatDoorCsC
import Derived.Test.YtfbhemmpobgdpaaGreatDoorShelf
set_option linter.all false
set_option maxRecDepth 100000
set_option maxHeartbeats 64000000
namespace Go.Proofs.YtfbhemmpobgdpaaGreatDoor
open Go.RowKit
theorem UJ:ElemT Tryz.prog 154 153 4 64:=IZ Tryz.underlying154 WU rfl (by decide)
theorem oneF: ∀f:FD,∀u∈f.cells,u.oneCell'=true:=by intro f u hu;simp[FD.cells] at hu;rcases hu with rfl|rfl|rfl|rfl<;>rfl
theorem lenF: ∀f:FD,f.cells.length=4:=fun _=>rfl
theorem HE {w w':World} {v v':Value} {fs:List FD} (P:Only v.ownBlock.toList w w') (G:LR v v' w.heap.size) (h: ∀f∈fs,FD.ok w f/\f.off v): ∀f∈fs,FD.ok w' f/\f.off v':=by
 intro f hf;obtain⟨ok,off⟩:=h f hf;have t1:=ok.tlt;have t2:=ok.llt;refine⟨{ ok with text:=ok.text.onlyL P (fun a ha h0 hx=>off.1 a ha h0 (by simpa using hx)),list:=ok.list.onlyL P (fun a ha h0 hx=>off.2 a ha h0 (by simpa using hx)) },fun a ha h0 hx=>?_,fun a ha h0 hx=>?_⟩
 ·rcases G with e|e;·rw[e] at hx;exact off.1 a ha h0 hx
  ·rw[e] at hx;injection hx with hx;have:=t1 a ha h0;omega
 ·rcases G with e|e;·rw[e] at hx;exact off.2 a ha h0 hx
  ·rw[e] at hx;injection hx with hx;have:=t2 a ha h0;omega
theorem PD {f:FD} {v:Value} (h1:f.text=[]) (h2:f.list=[]):f.off v:=⟨fun a ha h0=>by rw[h1] at h0;simp at h0,fun a ha h0=>by rw[h2] at h0;simp at h0⟩
theorem EL {m:RQ} {fs:List FD} (h:fs.map FD.pf=(BG m 6).map (fun p=>{ p with kind:=0 })): ∀f∈fs,f.text=[]/\f.list=[]:=by
 intro f hf;have:f.pf∈fs.map FD.pf:=List.mem_map_of_mem hf;rw[h] at this;simp only[BG,List.map_cons,List.map_nil,qC,List.not_mem_nil,or_false] at this;have e1:f.text=f.pf.text:=rfl;have e2:f.list=f.pf.list:=rfl;rw[e1,e2];rcases this with e|e|e|e<;>rw[e]<;>exact⟨rfl,rfl⟩
theorem VZ {w:World} {q:Nat} {f:FD} (h:Blk w q 153 f.cells):RdX FD.cells w (some ⟨q,0,none⟩) [f]:=fun _=>⟨q,0,rfl,h.lt,fun j u hj=>by
 rw[Nat.zero_add,h.cell];simpa using hj⟩
section
variable (m:RQ) (g:Nat) (w:World)
theorem VR {m:RQ} {w x:World} {v:Value} {fs1 fs2:List FD} (hm:m.ok w) (PE:Only [] w x) (V:AN FD.cells 153 4 x w.heap.size v ((fs1++fs2)++[⟨0,0,m.mA,m.mc,m.modes,none,0,[]⟩])) (M: ∀f∈fs1++fs2,FD.ok x f/\f.off v)
  (hp1:fs1.map FD.pf=(BG m 4).map (fun p=>{ p with kind:=0 })) (hp2:fs2.map FD.pf=(BG m 6).map (fun p=>{ p with kind:=0 })) (hn1: ∀f∈fs1,U32 f.n) (hn2: ∀f∈fs2,U32 f.n):GL w (BG m 1) (.returned v) x:=by
 refine⟨PE,v,_,rfl,V,?_,fun f hf=>?_,fun f hf=>?_⟩;·rw[List.map_append,List.map_append,hp1,hp2];rfl
 ·rcases qK hf with hf|hf;·exact M f hf
  ·rw[qS] at hf;subst hf;refine⟨⟨hm.modes.only PE,RdG.nil,hm.mle,hm.mmax,by simp,by simp,by simp⟩,fun a ha h0 hx=>?_,fun a ha=>by simp at ha⟩;have h1:=(V.block _ hx).1;have h2:=RdG.lt (mk:=.int .u8) hm.modes h0 a ha;omega
 ·rcases qK hf with hf|hf
  ·rcases qK hf with hf|hf;·exact hn1 f hf
   ·exact hn2 f hf
  ·rw[qS] at hf;subst hf;exact⟨Int.le_refl 0,show(0:Int)<=4294967295 by decide⟩
theorem fM (hg:Blk w g 217 m.cells) (hm:m.ok w) (hs:m.text.size<=140737488355328):Calls Tryz.prog 200 #[.pointer (some ⟨g,0,none⟩)] w (GL w (BG m 1)):=by
 have hlt:=hg.lt;go_enter Tryz.func200,Tryz.ntmps200
 go_wp2_with fail
 have hI:(fun w':World=>Blk w' g 217 m.cells) { w with drawn:=w.drawn+1 }:=hg;refine AL (fun w':World=>Blk w' g 217 m.cells) [] (by kernel_rfl) ?_;refine qP 0 g 0 rfl hI ?_;refine qP 2 g 0 rfl hI ?_;refine qP 5 g 0 rfl hI ?_;refine qP 6 g 0 rfl hI ?_;refine qP 7 g 0 rfl hI ?_;refine qP 8 g 8 rfl hI ?_;refine wpAnyE_tk 9 (v:=(.slice m.mA m.modes.length m.mc)) rfl hI (fun w' hw'=>by have y0:w'.cell? ⟨g,8,none⟩=some (.slice m.mA m.modes.length m.mc):=hw'.cell 8;go_simp) ?_;refine wpAnyE_tg 10 (v:=(.agg #[.int .i64 0,.int .u32 0,.slice m.mA m.modes.length m.mc,.slice none 0 0])) rfl hI ?_;have P0:Only [] w w.drew:=(zR _ _).drew;refine QS 1 11 rfl rfl (by kernel_rfl) hI (fun K hK=>?_) (fun K hK=>?_)
 ·rw[if_pos (by kernel_rfl)];have T:=HJ m g w.drew hI hs;go_simp
  go_call T as e x1 ⟨Q1,v1,fs1,rfl,V1,hp1,M1,hn1⟩
  clear T;have o1:=FY.block V1;replace V1:AN FD.cells 153 4 x1 w.heap.size v1 fs1:=AN.mono (cf:=FD.cells) V1 P0.size;have P1:Only [] w x1:=P0.trans Q1 (by simp);have hI1:(fun w':World=>Blk w' g 217 m.cells) x1:=hg.only P1 (by simp);have z1:=Q1.size;refine hK _ _ ?_;clear hK K;refine QS 3 11 rfl rfl (by kernel_rfl) hI1 (fun K hK=>?_) (fun K hK=>?_)
  ·rw[if_pos (by kernel_rfl)];have T:=JP m g x1 hI1 hm.nums;go_simp
   go_call T as e x2 ⟨Q2,v2,fs2,rfl,V2,hp2,M2x,hn2⟩
   clear T;replace V2:AN FD.cells 153 4 x2 w.heap.size v2 fs2:=AN.mono (cf:=FD.cells) V2 P1.size;have M2:=fun f hf=>(M2x f hf).1;clear M2x;have P2:Only [] w x2:=P1.trans Q2 (by simp);have hI2:(fun w':World=>Blk w' g 217 m.cells) x2:=hg.only P2 (by simp);have z2:=Q2.size;have V1:=V1.only Q2;have M1:=fun f hf=>(⟨(M1 f hf).1.only Q2,(M1 f hf).2⟩:FD.ok x2 f/\f.off v1);obtain⟨A2,c2,rfl,hc2,hm2,R2,_⟩:=V2.form;refine hK _ _ ?_;clear hK K;refine QS 4 11 rfl rfl (by kernel_rfl) hI2 (fun K hK=>?_) (fun K hK=>?_)
   ·rw[if_pos (by kernel_rfl)];have R2':RdX FD.cells x2 A2 fs2:=by obtain⟨A2',c2',e2,_,_,R2',_⟩:=V2.form;rw[(Value.slice.inj e2).1];exact R2'
    have l1:fs1.length=1:=by have:=congrArg List.length hp1;simpa[BG] using this
    have l2:fs2.length=4:=by have:=congrArg List.length hp2;simpa[BG] using this
    refine LP (.tmp 4) (.tmp 6) UJ rfl oneF lenF (by kernel_rfl) V1 A2 c2 fs2 _ rfl (by kernel_rfl) R2' (by simp only[maxLen];omega) (by omega) P2.size ?_;intro v7 x3 V7 Q3 G3;have V7:=V7.out;have M12: ∀f∈fs1++fs2,FD.ok x2 f/\f.off v1:=fun f hf=>by
     rcases qK hf with hf|hf;·exact M1 f hf
     ·exact⟨M2 f hf,PD (EL hp2 f hf).1 (EL hp2 f hf).2⟩
    have M7:=HE Q3 G3.out M12;have P3:Only [] w x3:=P2.trans Q3 (fun x hx=>.inr (V1.block x (by simpa using hx)).1);have hI3:(fun w':World=>Blk w' g 217 m.cells) x3:=hg.only P3 (by simp);refine hK _ _ ?_;clear hK K;refine AC 11 rfl (by kernel_rfl) hI3 (fun K hK=>?_);rw[if_pos (by kernel_rfl)];have Q4:Only [] x3 (x3.alloc (.cells #[.int .i64 0,.int .u32 0,.slice m.mA m.modes.length m.mc,.slice none 0 0] 153)):=(Only.refl [] x3).alloc _;have B3:Blk (x3.alloc (.cells #[.int .i64 0,.int .u32 0,.slice m.mA m.modes.length m.mc,.slice none 0 0] 153)) x3.heap.size 153 [.int .i64 0,.int .u32 0,.slice m.mA m.modes.length m.mc,.slice none 0 0]:=Blk.new x3 _ _;obtain⟨q3,hq3⟩: ∃q,q=x3.heap.size:=⟨_,rfl⟩;have hq3w:w.heap.size<=q3:=by have:=P3.size;omega
    have hq3':q3<=x3.heap.size/\x3.heap.size<=q3:=by omega
    go_simp
    obtain⟨x4,hx4⟩: ∃x,x=x3.alloc (.cells #[.int .i64 0,.int .u32 0,.slice m.mA m.modes.length m.mc,.slice none 0 0] 153):=⟨_,rfl⟩;rw[<-hx4] at Q4 B3⊢;rw[<-hq3] at B3⊢;have P4:Only [] w x4:=P3.trans Q4 (by simp);have hI4:(fun w':World=>Blk w' g 217 m.cells) x4:=hg.only P4 (by simp);have z4:=Q4.size;have V7:=V7.only Q4;have M7:=fun f hf=>(⟨(M7 f hf).1.only Q4,(M7 f hf).2⟩:FD.ok x4 f/\f.off v7);replace hx4:=AB hx4;replace hq3:=AB hq3;refine hK _ _ ?_;clear hK K;refine AC 12 rfl (by kernel_rfl) hI4 (fun K hK=>?_);rw[if_pos (by kernel_rfl)];refine LP (.tmp 7) (.tmp 14) UJ rfl oneF lenF (by kernel_rfl) V7 (some ⟨q3,0,none⟩) 1 [⟨0,0,m.mA,m.mc,m.modes,none,0,[]⟩] 1 rfl (by kernel_rfl) (VZ B3) (by simp only[maxLen,zE,List.length_singleton];omega) (by simp only[zE,List.length_singleton];omega) P4.size ?_;intro v12 x5 V12 Q5 G5;have V12:=V12.out;have M12':=HE Q5 G5.out M7;have PE:Only [] w x5:=P4.trans Q5 (fun x hx=>.inr (V7.block x (by simpa using hx)).1);have hIE:(fun w':World=>Blk w' g 217 m.cells) x5:=hg.only PE (by simp);refine hK _ _ ?_;clear hK K;refine wpAnyE_tg 13 (v:=v12) rfl hIE ?_;refine AT (by kernel_rfl) hIE ?_;simp only[Exit.then];go_wp2_with fail
    go_ret
    exact VR hm PE V12 M12' hp1 hp2 hn1 hn2
   ·rw[if_pos (by kernel_rfl)];have Q3:Only [] x2 (x2.alloc (.cells #[.int .i64 0,.int .u32 0,.slice m.mA m.modes.length m.mc,.slice none 0 0] 153)):=(Only.refl [] x2).alloc _;have B3:Blk (x2.alloc (.cells #[.int .i64 0,.int .u32 0,.slice m.mA m.modes.length m.mc,.slice none 0 0] 153)) x2.heap.size 153 [.int .i64 0,.int .u32 0,.slice m.mA m.modes.length m.mc,.slice none 0 0]:=Blk.new x2 _ _;obtain⟨q3,hq3⟩: ∃q,q=x2.heap.size:=⟨_,rfl⟩;have hq3w:w.heap.size<=q3:=by have:=P2.size;omega
    have hq3':q3<=x2.heap.size/\x2.heap.size<=q3:=by omega
    go_simp
    obtain⟨x3,hx3⟩: ∃x,x=x2.alloc (.cells #[.int .i64 0,.int .u32 0,.slice m.mA m.modes.length m.mc,.slice none 0 0] 153):=⟨_,rfl⟩;rw[<-hx3] at Q3 B3⊢;rw[<-hq3] at B3⊢;have P3:Only [] w x3:=P2.trans Q3 (by simp);have hI3:(fun w':World=>Blk w' g 217 m.cells) x3:=hg.only P3 (by simp);have z3:=Q3.size;have V1:=V1.only Q3;have M1:=fun f hf=>(⟨(M1 f hf).1.only Q3,(M1 f hf).2⟩:FD.ok x3 f/\f.off v1);have V2:=V2.only Q3;have M2:=fun f hf=>(M2 f hf).only Q3;replace hx3:=AB hx3;replace hq3:=AB hq3;refine hK _ _ ?_;clear hK K;refine AC 4 rfl (by kernel_rfl) hI3 (fun K hK=>?_);rw[if_pos (by kernel_rfl)];have R2':RdX FD.cells x3 A2 fs2:=by obtain⟨A2',c2',e2,_,_,R2',_⟩:=V2.form;rw[(Value.slice.inj e2).1];exact R2'
    have l1:fs1.length=1:=by have:=congrArg List.length hp1;simpa[BG] using this
    have l2:fs2.length=4:=by have:=congrArg List.length hp2;simpa[BG] using this
    refine LP (.tmp 4) (.tmp 6) UJ rfl oneF lenF (by kernel_rfl) V1 A2 c2 fs2 _ rfl (by kernel_rfl) R2' (by simp only[maxLen];omega) (by omega) P3.size ?_;intro v7 x4 V7 Q4 G4;have V7:=V7.out;have M12: ∀f∈fs1++fs2,FD.ok x3 f/\f.off v1:=fun f hf=>by
     rcases qK hf with hf|hf;·exact M1 f hf
     ·exact⟨M2 f hf,PD (EL hp2 f hf).1 (EL hp2 f hf).2⟩
    have M7:=HE Q4 G4.out M12;have P4:Only [] w x4:=P3.trans Q4 (fun x hx=>.inr (V1.block x (by simpa using hx)).1);have hI4:(fun w':World=>Blk w' g 217 m.cells) x4:=hg.only P4 (by simp);have B3:=B3.only Q4 (fun hx=>by have:=o1 q3 (by simpa using hx);omega);refine hK _ _ ?_;clear hK K;refine AC 12 rfl (by kernel_rfl) hI4 (fun K hK=>?_);rw[if_pos (by kernel_rfl)];refine LP (.tmp 7) (.tmp 14) UJ rfl oneF lenF (by kernel_rfl) V7 (some ⟨q3,0,none⟩) 1 [⟨0,0,m.mA,m.mc,m.modes,none,0,[]⟩] 1 rfl (by kernel_rfl) (VZ B3) (by simp only[maxLen,zE,List.length_singleton];omega) (by simp only[zE,List.length_singleton];omega) P4.size ?_;intro v12 x5 V12 Q5 G5;have V12:=V12.out;have M12':=HE Q5 G5.out M7;have PE:Only [] w x5:=P4.trans Q5 (fun x hx=>.inr (V7.block x (by simpa using hx)).1);have hIE:(fun w':World=>Blk w' g 217 m.cells) x5:=hg.only PE (by simp);refine hK _ _ ?_;clear hK K;refine wpAnyE_tg 13 (v:=v12) rfl hIE ?_;refine AT (by kernel_rfl) hIE ?_;simp only[Exit.then];go_wp2_with fail
    go_ret
    exact VR hm PE V12 M12' hp1 hp2 hn1 hn2
  ·rw[if_pos (by kernel_rfl)];have Q2:Only [] x1 (x1.alloc (.cells #[.int .i64 0,.int .u32 0,.slice m.mA m.modes.length m.mc,.slice none 0 0] 153)):=(Only.refl [] x1).alloc _;have B3:Blk (x1.alloc (.cells #[.int .i64 0,.int .u32 0,.slice m.mA m.modes.length m.mc,.slice none 0 0] 153)) x1.heap.size 153 [.int .i64 0,.int .u32 0,.slice m.mA m.modes.length m.mc,.slice none 0 0]:=Blk.new x1 _ _;obtain⟨q3,hq3⟩: ∃q,q=x1.heap.size:=⟨_,rfl⟩;have hq3w:w.heap.size<=q3:=by have:=P1.size;omega
   have hq3':q3<=x1.heap.size/\x1.heap.size<=q3:=by omega
   go_simp
   obtain⟨x2,hx2⟩: ∃x,x=x1.alloc (.cells #[.int .i64 0,.int .u32 0,.slice m.mA m.modes.length m.mc,.slice none 0 0] 153):=⟨_,rfl⟩;rw[<-hx2] at Q2 B3⊢;rw[<-hq3] at B3⊢;have P2:Only [] w x2:=P1.trans Q2 (by simp);have hI2:(fun w':World=>Blk w' g 217 m.cells) x2:=hg.only P2 (by simp);have z2:=Q2.size;have V1:=V1.only Q2;have M1:=fun f hf=>(⟨(M1 f hf).1.only Q2,(M1 f hf).2⟩:FD.ok x2 f/\f.off v1);replace hx2:=AB hx2;replace hq3:=AB hq3;refine hK _ _ ?_;clear hK K;refine AC 3 rfl (by kernel_rfl) hI2 (fun K hK=>?_);rw[if_pos (by kernel_rfl)];have T:=JP m g x2 hI2 hm.nums;go_simp
   go_call T as e x3 ⟨Q3,v2,fs2,rfl,V2,hp2,M2x,hn2⟩
   clear T;replace V2:AN FD.cells 153 4 x3 w.heap.size v2 fs2:=AN.mono (cf:=FD.cells) V2 P2.size;have M2:=fun f hf=>(M2x f hf).1;clear M2x;have P3:Only [] w x3:=P2.trans Q3 (by simp);have hI3:(fun w':World=>Blk w' g 217 m.cells) x3:=hg.only P3 (by simp);have z3:=Q3.size;have V1:=V1.only Q3;have M1:=fun f hf=>(⟨(M1 f hf).1.only Q3,(M1 f hf).2⟩:FD.ok x3 f/\f.off v1);have B3:=B3.only Q3 (by simp);obtain⟨A2,c2,rfl,hc2,hm2,R2,_⟩:=V2.form;refine hK _ _ ?_;clear hK K;refine AC 4 rfl (by kernel_rfl) hI3 (fun K hK=>?_);rw[if_pos (by kernel_rfl)];have R2':RdX FD.cells x3 A2 fs2:=by obtain⟨A2',c2',e2,_,_,R2',_⟩:=V2.form;rw[(Value.slice.inj e2).1];exact R2'
   have l1:fs1.length=1:=by have:=congrArg List.length hp1;simpa[BG] using this
   have l2:fs2.length=4:=by have:=congrArg List.length hp2;simpa[BG] using this
   refine LP (.tmp 4) (.tmp 6) UJ rfl oneF lenF (by kernel_rfl) V1 A2 c2 fs2 _ rfl (by kernel_rfl) R2' (by simp only[maxLen];omega) (by omega) P3.size ?_;intro v7 x4 V7 Q4 G4;have V7:=V7.out;have M12: ∀f∈fs1++fs2,FD.ok x3 f/\f.off v1:=fun f hf=>by
    rcases qK hf with hf|hf;·exact M1 f hf
    ·exact⟨M2 f hf,PD (EL hp2 f hf).1 (EL hp2 f hf).2⟩
   have M7:=HE Q4 G4.out M12;have P4:Only [] w x4:=P3.trans Q4 (fun x hx=>.inr (V1.block x (by simpa using hx)).1);have hI4:(fun w':World=>Blk w' g 217 m.cells) x4:=hg.only P4 (by simp);have B3:=B3.only Q4 (fun hx=>by have:=o1 q3 (by simpa using hx);omega);refine hK _ _ ?_;clear hK K;refine AC 12 rfl (by kernel_rfl) hI4 (fun K hK=>?_);rw[if_pos (by kernel_rfl)];refine LP (.tmp 7) (.tmp 14) UJ rfl oneF lenF (by kernel_rfl) V7 (some ⟨q3,0,none⟩) 1 [⟨0,0,m.mA,m.mc,m.modes,none,0,[]⟩] 1 rfl (by kernel_rfl) (VZ B3) (by simp only[maxLen,zE,List.length_singleton];omega) (by simp only[zE,List.length_singleton];omega) P4.size ?_;intro v12 x5 V12 Q5 G5;have V12:=V12.out;have M12':=HE Q5 G5.out M7;have PE:Only [] w x5:=P4.trans Q5 (fun x hx=>.inr (V7.block x (by simpa using hx)).1);have hIE:(fun w':World=>Blk w' g 217 m.cells) x5:=hg.only PE (by simp);refine hK _ _ ?_;clear hK K;refine wpAnyE_tg 13 (v:=v12) rfl hIE ?_;refine AT (by kernel_rfl) hIE ?_;simp only[Exit.then];go_wp2_with fail
   go_ret
   exact VR hm PE V12 M12' hp1 hp2 hn1 hn2
 ·rw[if_pos (by kernel_rfl)];have Q1:Only [] w.drew ((w.alloc (.cells #[.int .i64 0,.int .u32 0,.slice m.mA m.modes.length m.mc,.slice none 0 0] 153)).drew):=(Only.refl [] w.drew).alloc _;have B3:Blk ((w.alloc (.cells #[.int .i64 0,.int .u32 0,.slice m.mA m.modes.length m.mc,.slice none 0 0] 153)).drew) w.heap.size 153 [.int .i64 0,.int .u32 0,.slice m.mA m.modes.length m.mc,.slice none 0 0]:=Blk.new w.drew _ _;obtain⟨q3,hq3⟩: ∃q,q=w.heap.size:=⟨_,rfl⟩;have hq3w:w.heap.size<=q3:=by have:=P0.size;omega
  have hq3':q3<((w.alloc (.cells #[.int .i64 0,.int .u32 0,.slice m.mA m.modes.length m.mc,.slice none 0 0] 153)).drew).heap.size:=by rw[hq3];simp
  go_simp
  obtain⟨x1,hx1⟩: ∃x,x=(w.alloc (.cells #[.int .i64 0,.int .u32 0,.slice m.mA m.modes.length m.mc,.slice none 0 0] 153)).drew:=⟨_,rfl⟩;rw[<-hx1] at Q1 B3⊢;rw[<-hx1] at hq3';rw[<-hq3] at B3;rw[show(Value.slice (some ⟨w.heap.size,0,none⟩) 1 1)=Value.slice (some ⟨q3,0,none⟩) 1 1 by rw[hq3]];have P1:Only [] w x1:=P0.trans Q1 (by simp);have hI1:(fun w':World=>Blk w' g 217 m.cells) x1:=hg.only P1 (by simp);have z1:=Q1.size;replace hx1:=AB hx1;replace hq3:=AB hq3;refine hK _ _ ?_;clear hK K;refine AC 1 rfl (by kernel_rfl) hI1 (fun K hK=>?_);rw[if_pos (by kernel_rfl)];have T:=HJ m g x1 hI1 hs;go_simp
  go_call T as e x2 ⟨Q2,v1,fs1,rfl,V1,hp1,M1,hn1⟩
  clear T;have o1:=FY.block V1;replace V1:AN FD.cells 153 4 x2 w.heap.size v1 fs1:=AN.mono (cf:=FD.cells) V1 P1.size;have P2:Only [] w x2:=P1.trans Q2 (by simp);have hI2:(fun w':World=>Blk w' g 217 m.cells) x2:=hg.only P2 (by simp);have z2:=Q2.size;have B3:=B3.only Q2 (by simp);refine hK _ _ ?_;clear hK K;refine AC 3 rfl (by kernel_rfl) hI2 (fun K hK=>?_);rw[if_pos (by kernel_rfl)];have T:=JP m g x2 hI2 hm.nums;go_simp
  go_call T as e x3 ⟨Q3,v2,fs2,rfl,V2,hp2,M2x,hn2⟩
  clear T;replace V2:AN FD.cells 153 4 x3 w.heap.size v2 fs2:=AN.mono (cf:=FD.cells) V2 P2.size;have M2:=fun f hf=>(M2x f hf).1;clear M2x;have P3:Only [] w x3:=P2.trans Q3 (by simp);have hI3:(fun w':World=>Blk w' g 217 m.cells) x3:=hg.only P3 (by simp);have z3:=Q3.size;have V1:=V1.only Q3;have M1:=fun f hf=>(⟨(M1 f hf).1.only Q3,(M1 f hf).2⟩:FD.ok x3 f/\f.off v1);have B3:=B3.only Q3 (by simp);obtain⟨A2,c2,rfl,hc2,hm2,R2,_⟩:=V2.form;refine hK _ _ ?_;clear hK K;refine AC 4 rfl (by kernel_rfl) hI3 (fun K hK=>?_);rw[if_pos (by kernel_rfl)];have R2':RdX FD.cells x3 A2 fs2:=by obtain⟨A2',c2',e2,_,_,R2',_⟩:=V2.form;rw[(Value.slice.inj e2).1];exact R2'
  have l1:fs1.length=1:=by have:=congrArg List.length hp1;simpa[BG] using this
  have l2:fs2.length=4:=by have:=congrArg List.length hp2;simpa[BG] using this
  refine LP (.tmp 4) (.tmp 6) UJ rfl oneF lenF (by kernel_rfl) V1 A2 c2 fs2 _ rfl (by kernel_rfl) R2' (by simp only[maxLen];omega) (by omega) P3.size ?_;intro v7 x4 V7 Q4 G4;have V7:=V7.out;have M12: ∀f∈fs1++fs2,FD.ok x3 f/\f.off v1:=fun f hf=>by
   rcases qK hf with hf|hf;·exact M1 f hf
   ·exact⟨M2 f hf,PD (EL hp2 f hf).1 (EL hp2 f hf).2⟩
  have M7:=HE Q4 G4.out M12;have P4:Only [] w x4:=P3.trans Q4 (fun x hx=>.inr (V1.block x (by simpa using hx)).1);have hI4:(fun w':World=>Blk w' g 217 m.cells) x4:=hg.only P4 (by simp);have B3:=B3.only Q4 (fun hx=>by have:=o1 q3 (by simpa using hx);omega);refine hK _ _ ?_;clear hK K;refine AC 12 rfl (by kernel_rfl) hI4 (fun K hK=>?_);rw[if_pos (by kernel_rfl)];refine LP (.tmp 7) (.tmp 14) UJ rfl oneF lenF (by kernel_rfl) V7 (some ⟨q3,0,none⟩) 1 [⟨0,0,m.mA,m.mc,m.modes,none,0,[]⟩] 1 rfl (by kernel_rfl) (VZ B3) (by simp only[maxLen,zE,List.length_singleton];omega) (by simp only[zE,List.length_singleton];omega) P4.size ?_;intro v12 x5 V12 Q5 G5;have V12:=V12.out;have M12':=HE Q5 G5.out M7;have PE:Only [] w x5:=P4.trans Q5 (fun x hx=>.inr (V7.block x (by simpa using hx)).1);have hIE:(fun w':World=>Blk w' g 217 m.cells) x5:=hg.only PE (by simp);refine hK _ _ ?_;clear hK K;refine wpAnyE_tg 13 (v:=v12) rfl hIE ?_;refine AT (by kernel_rfl) hIE ?_;simp only[Exit.then];go_wp2_with fail
  go_ret
  exact VR hm PE V12 M12' hp1 hp2 hn1 hn2
end
theorem OY {w:World} {A:Option Addr} {l:List Int} {c:Nat} (h:RdG (.int .u8) w A l):(convert 30 9 (.slice A l.length c)).run Tryz.prog w = .ok (.string (strOfNums l)) w:=by
 by_cases h0:0<l.length
 ·obtain⟨b,off,rfl,_,hc⟩:=h h0;exact run_convert_bytes_arg (P:=Tryz.prog) (w:=w) 30 5 (by kernel_rfl) (by kernel_rfl) b off l.length c l rfl (fun i hi=>by
   have hx:l[i]? = some (l[i]'hi):=List.getElem?_eq_getElem hi;rw[hc i _ hx];simp[List.getD,hx]) 9 (by kernel_rfl)
 ·obtain rfl:l=[]:=List.eq_nil_of_length_eq_zero (by omega);cases A with
  |none=>
   have e:(convert 30 9 (.slice none 0 c)).run Tryz.prog w=(Conv.bytesToString (.slice none 0 c)).run Tryz.prog w:=by simp[convert,run_underlying Tryz.underlying30,run_underlying Tryz.underlying9,run_underlying Tryz.underlying5]
   rw[show([]:List Int).length=0 from rfl,e];first|rfl|(simp[Conv.bytesToString,loadCells,loadCellsFrom,strOfNums];try rfl)
  |some a=>
   have e:(convert 30 9 (.slice (some a) 0 c)).run Tryz.prog w=(Conv.bytesToString (.slice (some a) 0 c)).run Tryz.prog w:=by simp[convert,run_underlying Tryz.underlying30,run_underlying Tryz.underlying9,run_underlying Tryz.underlying5]
   rw[show([]:List Int).length=0 from rfl,e];first|rfl|(simp[Conv.bytesToString,loadCells,loadCellsFrom,strOfNums];try rfl)
theorem JS (m:RQ) (g:Nat) (w0 w:World) (A:Option Addr) (a:FD) (r:List FD) (c:Nat) (hF:RdF w0 A (a::r)) (hO:Only [] w0 w) (hlt:w0.heap.size<=g) (hg:Blk w g 217 m.cells):Calls Tryz.prog 210 #[.pointer (some ⟨g,0,none⟩),.slice A (r.length+1) c] w fun e w'=>e = .returned (.tuple #[])/\Only [g] w w'/\Blk w' g 217 (RQ.cells { m with text:=strOfNums a.text }):=by
 obtain⟨b,off,rfl,hb,hc⟩:=hF.cells (by simp);have hbg: ¬b=g:=by omega
 have hgl:=hg.lt;obtain⟨_,n0,t0,_⟩:=hc 0 a rfl;simp only[Nat.zero_mul,Nat.one_mul,Nat.reduceMul,Nat.add_zero] at n0 t0;have n0:=BJ hO hb (by simp) n0;have t0:=BJ hO hb (by simp) t0;have g1:w.cell? ⟨g,1,none⟩=some (.string m.text):=hg.cell 1;have z1:=hg.frozen 1;have kc0:(convert 30 9 (.slice a.tA a.text.length a.tc)).run Tryz.prog w = .ok (.string (strOfNums a.text)) w:=OY ((hF.ok a (by simp)).1.text.only hO);have hsl:(0:Int)<=(r.length:Int):=Int.natCast_nonneg _;clear hc;have hb2:=hg.set_ 1 (.string (strOfNums a.text));have hO2:Only [g] w (w.setCell ⟨g,1,none⟩ (.string (strOfNums a.text))):=(Only.refl [g] w).setCell (p:=⟨g,1,none⟩) (.inl (by simp)) _;go_enter Tryz.func210,Tryz.ntmps210
 go_wp2
 go_end0
 exact⟨rfl,hO2,hb2⟩
theorem dN (m:RQ) (g:Nat) (w0 w:World) (A:Option Addr) (a:FD) (r:List FD) (c:Nat) (hF:RdF w0 A (a::r)) (hO:Only [] w0 w) (hlt:w0.heap.size<=g) (hg:Blk w g 217 m.cells):Calls Tryz.prog 218 #[.pointer (some ⟨g,0,none⟩),.slice A (r.length+1) c] w fun e w'=>e = .returned (.tuple #[])/\Only [g] w w'/\Blk w' g 217 (RQ.cells { m with code:=a.n }):=by
 obtain⟨b,off,rfl,hb,hc⟩:=hF.cells (by simp);have hbg: ¬b=g:=by omega
 have hgl:=hg.lt;obtain⟨_,n0,t0,_⟩:=hc 0 a rfl;simp only[Nat.zero_mul,Nat.one_mul,Nat.reduceMul,Nat.add_zero] at n0 t0;have n0:=BJ hO hb (by simp) n0;have t0:=BJ hO hb (by simp) t0;have g10:w.cell? ⟨g,10,none⟩=some (.int .u32 m.code):=hg.cell 10;have z10:=hg.frozen 10;have hsl:(0:Int)<=(r.length:Int):=Int.natCast_nonneg _;clear hc;have hb2:=hg.set_ 10 (.int .u32 a.n);have hO2:Only [g] w (w.setCell ⟨g,10,none⟩ (.int .u32 a.n)):=(Only.refl [g] w).setCell (p:=⟨g,10,none⟩) (.inl (by simp)) _;go_enter Tryz.func218,Tryz.ntmps218
 go_wp2
 go_end0
 exact⟨rfl,hO2,hb2⟩
theorem kH (m:RQ) (g:Nat) (w0 w:World) (A:Option Addr) (a:FD) (r:List FD) (c:Nat) (hF:RdF w0 A (a::r)) (hO:Only [] w0 w) (hlt:w0.heap.size<=g) (hg:Blk w g 217 m.cells):Calls Tryz.prog 216 #[.pointer (some ⟨g,0,none⟩),.slice A (r.length+1) c] w fun e w'=>e = .returned (.tuple #[])/\Only [g] w w'/\Blk w' g 217 (RQ.cells { m with on:=decide (a.n=1) }):=by
 obtain⟨on,hon⟩: ∃on,decide (a.n=1)=on:=⟨_,rfl⟩;rw[hon];have hon2:(a.n==1)=on:=hon;clear hon;obtain⟨b,off,rfl,hb,hc⟩:=hF.cells (by simp);have hbg: ¬b=g:=by omega
 have hgl:=hg.lt;obtain⟨_,n0,t0,_⟩:=hc 0 a rfl;simp only[Nat.zero_mul,Nat.one_mul,Nat.reduceMul,Nat.add_zero] at n0 t0;have n0:=BJ hO hb (by simp) n0;have t0:=BJ hO hb (by simp) t0;have g9:w.cell? ⟨g,9,none⟩=some (.bool m.on):=hg.cell 9;have z9:=hg.frozen 9;have hsl:(0:Int)<=(r.length:Int):=Int.natCast_nonneg _;clear hc;have hb2:=hg.set_ 9 (.bool on);have hO2:Only [g] w (w.setCell ⟨g,9,none⟩ (.bool on)):=(Only.refl [g] w).setCell (p:=⟨g,9,none⟩) (.inl (by simp)) _;go_enter Tryz.func216,Tryz.ntmps216
 go_wp2
 go_end0
 exact⟨rfl,hO2,hb2⟩
theorem dO (m:RQ) (g:Nat) (w:World) (v:Value) (hg:Blk w g 217 m.cells):Calls Tryz.prog 207 #[.pointer (some ⟨g,0,none⟩),v] w fun e w'=>e = .returned (.tuple #[])/\Only [g] w w'/\Blk w' g 217 m.cells:=by
 go_enter Tryz.func207,Tryz.ntmps207
 go_wp2
 go_end0
 exact⟨rfl,zR _ _,hg⟩
theorem gE (m:RQ) (g:Nat) (w0 w:World) (A:Option Addr) (a d:FD) (r:List FD) (c:Nat) (hF:RdF w0 A (a::d::r)) (hO:Only [] w0 w) (hlt:w0.heap.size<=g) (hg:Blk w g 217 m.cells):Calls Tryz.prog 204 #[.pointer (some ⟨g,0,none⟩),.slice A (r.length+2) c] w fun e w'=>e = .returned (.tuple #[])/\Only [g] w w'/\Blk w' g 217 (RQ.cells { m with text:=strOfNums a.text,value:=strOfNums d.text }):=by
 obtain⟨b,off,rfl,hb,hc⟩:=hF.cells (by simp);have hbg: ¬b=g:=by omega
 have hgl:=hg.lt;obtain⟨_,n0,t0,_⟩:=hc 0 a rfl;simp only[Nat.zero_mul,Nat.one_mul,Nat.reduceMul,Nat.add_zero] at n0 t0;obtain⟨_,n1,t1,_⟩:=hc 1 d rfl;simp only[Nat.zero_mul,Nat.one_mul,Nat.reduceMul,Nat.add_zero] at n1 t1;have hI0:Only [] w0 { w with drawn:=w.drawn+1 }:=hO.drew;have g1:w.cell? ⟨g,1,none⟩=some (.string m.text):=hg.cell 1;have z1:=hg.frozen 1;have g2:w.cell? ⟨g,2,none⟩=some (.string m.value):=hg.cell 2;have z2:=hg.frozen 2;have hsl:(0:Int)<=(r.length:Int):=Int.natCast_nonneg _;clear hc;go_enter Tryz.func204,Tryz.ntmps204
 go_wp2_with fail
 have hI:(fun w':World=>Only [] w0 w') { w with drawn:=w.drawn+1 }:=hI0;refine AL (fun w':World=>Only [] w0 w') [] (by kernel_rfl) ?_;refine qP 0 g 0 rfl hI ?_;refine qP 1 g 0 rfl hI ?_;refine wpAnyE_tg 2 (v:=(.slice (some ⟨b,off,none⟩) (r.length+2) c)) rfl hI ?_;refine wpAnyE_tk 3 (v:=(.pointer (some ⟨b,off,none⟩))) rfl hI (fun w' hw'=>by go_simp;intro h7;exact absurd h7 (by omega)) ?_;refine wpAnyE_tg 4 (v:=(.pointer (some ⟨b,off+2,none⟩))) rfl hI ?_;refine wpAnyE_tk 5 (v:=(.slice a.tA a.text.length a.tc)) rfl hI (fun w' hw'=>by have y0:=BJ hw' hb (by simp) t0;go_simp) ?_;refine wpAnyE_tk 6 (v:=(.string (strOfNums a.text))) rfl hI (fun w' hw'=>by have kc:=OY (c:=a.tc) ((hF.ok a (by simp)).1.text.only hw');go_simp) ?_;refine wpAnyE_tg 7 (v:=(.slice (some ⟨b,off,none⟩) (r.length+2) c)) rfl hI ?_;refine wpAnyE_tk 8 (v:=(.pointer (some ⟨b,off+4,none⟩))) rfl hI (fun w' hw'=>by go_simp;intro h7;exact absurd h7 (by omega)) ?_;refine wpAnyE_tg 9 (v:=(.pointer (some ⟨b,off+4+2,none⟩))) rfl hI ?_;refine wpAnyE_tk 10 (v:=(.slice d.tA d.text.length d.tc)) rfl hI (fun w' hw'=>by have y0:=BJ hw' hb (by simp) t1;go_simp) ?_;refine wpAnyE_tk 11 (v:=(.string (strOfNums d.text))) rfl hI (fun w' hw'=>by have kc:=OY (c:=d.tc) ((hF.ok d (by simp)).1.text.only hw');go_simp) ?_;refine qP 12 g 0 rfl hI ?_;refine qP 13 g 0 rfl hI ?_;refine qP 14 g 1 rfl hI ?_;refine AC 15 rfl (by kernel_rfl) hI (fun K hK=>?_);rw[if_pos (by kernel_rfl)];go_simp
 refine hK _ _ ?_;clear hK K;have hI:=Only.setCell (p:=⟨g,1,none⟩) hI (.inr hlt) (.string (strOfNums a.text));refine qP 16 g 0 rfl hI ?_;refine qP 17 g 0 rfl hI ?_;refine qP 18 g 2 rfl hI ?_;refine AC 19 rfl (by kernel_rfl) hI (fun K hK=>?_);rw[if_pos (by kernel_rfl)];go_simp
 refine hK _ _ ?_;clear hK K;have hI:=Only.setCell (p:=⟨g,2,none⟩) hI (.inr hlt) (.string (strOfNums d.text));refine AT (by kernel_rfl) hI ?_;(try simp only[Exit.inBlock,Exit.then])
 (try go_wp2_with fail)
 go_end0
 exact⟨rfl,((((((Only.refl [g] w).drew)).setCell (p:=⟨g,1,none⟩) (.inl (by simp)) (.string (strOfNums a.text)))).setCell (p:=⟨g,2,none⟩) (.inl (by simp)) (.string (strOfNums d.text))),((hg.drew).set_ 1 (.string (strOfNums a.text))).set_ 2 (.string (strOfNums d.text))⟩
theorem SD (m:RQ) (g:Nat) (w0 w:World) (A:Option Addr) (a d u v:FD) (r:List FD) (c:Nat) (hF:RdF w0 A (a::d::u::v::r)) (hO:Only [] w0 w) (hlt:w0.heap.size<=g) (hg:Blk w g 217 m.cells):Calls Tryz.prog 214 #[.pointer (some ⟨g,0,none⟩),.slice A (r.length+4) c] w fun e w'=>e = .returned (.tuple #[])/\Only [g] w w'/\Blk w' g 217 (RQ.cells { m with cols:=a.n,rows:=d.n,width:=u.n,height:=v.n }):=by
 obtain⟨b,off,rfl,hb,hc⟩:=hF.cells (by simp);have hbg: ¬b=g:=by omega
 have hgl:=hg.lt;obtain⟨_,n0,t0,_⟩:=hc 0 a rfl;simp only[Nat.zero_mul,Nat.one_mul,Nat.reduceMul,Nat.add_zero] at n0 t0;obtain⟨_,n1,t1,_⟩:=hc 1 d rfl;simp only[Nat.zero_mul,Nat.one_mul,Nat.reduceMul,Nat.add_zero] at n1 t1;obtain⟨_,n2,t2,_⟩:=hc 2 u rfl;simp only[Nat.zero_mul,Nat.one_mul,Nat.reduceMul,Nat.add_zero] at n2 t2;obtain⟨_,n3,t3,_⟩:=hc 3 v rfl;simp only[Nat.zero_mul,Nat.one_mul,Nat.reduceMul,Nat.add_zero] at n3 t3;have hI0:Only [] w0 { w with drawn:=w.drawn+1 }:=hO.drew;have g4:w.cell? ⟨g,4,none⟩=some (.int .u32 m.cols):=hg.cell 4;have z4:=hg.frozen 4;have g5:w.cell? ⟨g,5,none⟩=some (.int .u32 m.rows):=hg.cell 5;have z5:=hg.frozen 5;have g6:w.cell? ⟨g,6,none⟩=some (.int .u32 m.width):=hg.cell 6;have z6:=hg.frozen 6;have g7:w.cell? ⟨g,7,none⟩=some (.int .u32 m.height):=hg.cell 7;have z7:=hg.frozen 7;have hsl:(0:Int)<=(r.length:Int):=Int.natCast_nonneg _;clear hc;go_enter Tryz.func214,Tryz.ntmps214
 go_wp2_with fail
 have hI:(fun w':World=>Only [] w0 w') { w with drawn:=w.drawn+1 }:=hI0;refine AL (fun w':World=>Only [] w0 w') [] (by kernel_rfl) ?_;refine qP 0 g 0 rfl hI ?_;refine wpAnyE_tg 1 (v:=(.slice (some ⟨b,off,none⟩) (r.length+4) c)) rfl hI ?_;refine wpAnyE_tk 2 (v:=(.pointer (some ⟨b,off,none⟩))) rfl hI (fun w' hw'=>by go_simp;intro h7;exact absurd h7 (by omega)) ?_;refine wpAnyE_tg 3 (v:=(.pointer (some ⟨b,off+1,none⟩))) rfl hI ?_;refine wpAnyE_tk 4 (v:=(.int .u32 a.n)) rfl hI (fun w' hw'=>by have y0:=BJ hw' hb (by simp) n0;go_simp) ?_;refine wpAnyE_tg 5 (v:=(.slice (some ⟨b,off,none⟩) (r.length+4) c)) rfl hI ?_;refine wpAnyE_tk 6 (v:=(.pointer (some ⟨b,off+4,none⟩))) rfl hI (fun w' hw'=>by go_simp;intro h7;exact absurd h7 (by omega)) ?_;refine wpAnyE_tg 7 (v:=(.pointer (some ⟨b,off+4+1,none⟩))) rfl hI ?_;refine wpAnyE_tk 8 (v:=(.int .u32 d.n)) rfl hI (fun w' hw'=>by have y0:=BJ hw' hb (by simp) n1;go_simp) ?_;refine wpAnyE_tg 9 (v:=(.slice (some ⟨b,off,none⟩) (r.length+4) c)) rfl hI ?_;refine wpAnyE_tk 10 (v:=(.pointer (some ⟨b,off+8,none⟩))) rfl hI (fun w' hw'=>by go_simp;intro h7;exact absurd h7 (by omega)) ?_;refine wpAnyE_tg 11 (v:=(.pointer (some ⟨b,off+8+1,none⟩))) rfl hI ?_;refine wpAnyE_tk 12 (v:=(.int .u32 u.n)) rfl hI (fun w' hw'=>by have y0:=BJ hw' hb (by simp) n2;go_simp) ?_;refine wpAnyE_tg 13 (v:=(.slice (some ⟨b,off,none⟩) (r.length+4) c)) rfl hI ?_;refine wpAnyE_tk 14 (v:=(.pointer (some ⟨b,off+12,none⟩))) rfl hI (fun w' hw'=>by go_simp;intro h7;exact absurd h7 (by omega)) ?_;refine wpAnyE_tg 15 (v:=(.pointer (some ⟨b,off+12+1,none⟩))) rfl hI ?_;refine wpAnyE_tk 16 (v:=(.int .u32 v.n)) rfl hI (fun w' hw'=>by have y0:=BJ hw' hb (by simp) n3;go_simp) ?_;refine wpAnyE_tg 17 (v:=(.agg #[.int .u32 a.n,.int .u32 d.n,.int .u32 u.n,.int .u32 v.n])) rfl hI ?_;refine qP 18 g 0 rfl hI ?_;refine qP 19 g 0 rfl hI ?_;refine qP 20 g 4 rfl hI ?_;refine AC 21 rfl (by kernel_rfl) hI (fun K hK=>?_);rw[if_pos (by kernel_rfl)];go_simp
 refine hK _ _ ?_;clear hK K;have hI:=Only.setCell (p:=⟨g,4,none⟩) hI (.inr hlt) (.int .u32 a.n);have hI:=Only.setCell (p:=⟨g,5,none⟩) hI (.inr hlt) (.int .u32 d.n);have hI:=Only.setCell (p:=⟨g,6,none⟩) hI (.inr hlt) (.int .u32 u.n);have hI:=Only.setCell (p:=⟨g,7,none⟩) hI (.inr hlt) (.int .u32 v.n);refine AT (by kernel_rfl) hI ?_;(try simp only[Exit.inBlock,Exit.then])
 (try go_wp2_with fail)
 go_end0
 exact⟨rfl,((((((((((Only.refl [g] w).drew)).setCell (p:=⟨g,4,none⟩) (.inl (by simp)) (.int .u32 a.n))).setCell (p:=⟨g,5,none⟩) (.inl (by simp)) (.int .u32 d.n))).setCell (p:=⟨g,6,none⟩) (.inl (by simp)) (.int .u32 u.n))).setCell (p:=⟨g,7,none⟩) (.inl (by simp)) (.int .u32 v.n)),((((hg.drew).set_ 4 (.int .u32 a.n)).set_ 5 (.int .u32 d.n)).set_ 6 (.int .u32 u.n)).set_ 7 (.int .u32 v.n)⟩
theorem ZI (m:RQ) (g:Nat) (w0 w:World) (A:Option Addr) (a d u v:FD) (r:List FD) (c:Nat) (hF:RdF w0 A (a::d::u::v::r)) (hO:Only [] w0 w) (hlt:w0.heap.size<=g) (hg:Blk w g 217 m.cells):Calls Tryz.prog 220 #[.pointer (some ⟨g,0,none⟩),.slice A (r.length+4) c] w fun e w'=>e = .returned (.tuple #[])/\Only [g] w w'/\Blk w' g 217 (RQ.cells { m with text:=strOfNums a.text,on:=decide (d.n=1),value:=strOfNums u.text,lang:=strOfNums v.text }):=by
 obtain⟨on,hon⟩: ∃on,decide (d.n=1)=on:=⟨_,rfl⟩;rw[hon];have hon2:(d.n==1)=on:=hon;clear hon;obtain⟨b,off,rfl,hb,hc⟩:=hF.cells (by simp);have hbg: ¬b=g:=by omega
 have hgl:=hg.lt;obtain⟨_,n0,t0,_⟩:=hc 0 a rfl;simp only[Nat.zero_mul,Nat.one_mul,Nat.reduceMul,Nat.add_zero] at n0 t0;obtain⟨_,n1,t1,_⟩:=hc 1 d rfl;simp only[Nat.zero_mul,Nat.one_mul,Nat.reduceMul,Nat.add_zero] at n1 t1;obtain⟨_,n2,t2,_⟩:=hc 2 u rfl;simp only[Nat.zero_mul,Nat.one_mul,Nat.reduceMul,Nat.add_zero] at n2 t2;obtain⟨_,n3,t3,_⟩:=hc 3 v rfl;simp only[Nat.zero_mul,Nat.one_mul,Nat.reduceMul,Nat.add_zero] at n3 t3;have hI0:Only [] w0 { w with drawn:=w.drawn+1 }:=hO.drew;have g1:w.cell? ⟨g,1,none⟩=some (.string m.text):=hg.cell 1;have z1:=hg.frozen 1;have g9:w.cell? ⟨g,9,none⟩=some (.bool m.on):=hg.cell 9;have z9:=hg.frozen 9;have g2:w.cell? ⟨g,2,none⟩=some (.string m.value):=hg.cell 2;have z2:=hg.frozen 2;have g3:w.cell? ⟨g,3,none⟩=some (.string m.lang):=hg.cell 3;have z3:=hg.frozen 3;have hsl:(0:Int)<=(r.length:Int):=Int.natCast_nonneg _;clear hc;go_enter Tryz.func220,Tryz.ntmps220
 go_wp2_with fail
 have hI:(fun w':World=>Only [] w0 w') { w with drawn:=w.drawn+1 }:=hI0;refine AL (fun w':World=>Only [] w0 w') [] (by kernel_rfl) ?_;refine qP 0 g 0 rfl hI ?_;refine qP 1 g 0 rfl hI ?_;refine qP 2 g 0 rfl hI ?_;refine qP 3 g 0 rfl hI ?_;refine wpAnyE_tg 4 (v:=(.slice (some ⟨b,off,none⟩) (r.length+4) c)) rfl hI ?_;refine wpAnyE_tk 5 (v:=(.pointer (some ⟨b,off,none⟩))) rfl hI (fun w' hw'=>by go_simp;intro h7;exact absurd h7 (by omega)) ?_;refine wpAnyE_tg 6 (v:=(.pointer (some ⟨b,off+2,none⟩))) rfl hI ?_;refine wpAnyE_tk 7 (v:=(.slice a.tA a.text.length a.tc)) rfl hI (fun w' hw'=>by have y0:=BJ hw' hb (by simp) t0;go_simp) ?_;refine wpAnyE_tk 8 (v:=(.string (strOfNums a.text))) rfl hI (fun w' hw'=>by have kc:=OY (c:=a.tc) ((hF.ok a (by simp)).1.text.only hw');go_simp) ?_;refine wpAnyE_tg 9 (v:=(.slice (some ⟨b,off,none⟩) (r.length+4) c)) rfl hI ?_;refine wpAnyE_tk 10 (v:=(.pointer (some ⟨b,off+4,none⟩))) rfl hI (fun w' hw'=>by go_simp;intro h7;exact absurd h7 (by omega)) ?_;refine wpAnyE_tg 11 (v:=(.pointer (some ⟨b,off+4+1,none⟩))) rfl hI ?_;refine wpAnyE_tk 12 (v:=(.int .u32 d.n)) rfl hI (fun w' hw'=>by have y0:=BJ hw' hb (by simp) n1;go_simp) ?_;refine wpAnyE_tg 13 (v:=(.bool on)) rfl hI ?_;refine wpAnyE_tg 14 (v:=(.slice (some ⟨b,off,none⟩) (r.length+4) c)) rfl hI ?_;refine wpAnyE_tk 15 (v:=(.pointer (some ⟨b,off+8,none⟩))) rfl hI (fun w' hw'=>by go_simp;intro h7;exact absurd h7 (by omega)) ?_;refine wpAnyE_tg 16 (v:=(.pointer (some ⟨b,off+8+2,none⟩))) rfl hI ?_;refine wpAnyE_tk 17 (v:=(.slice u.tA u.text.length u.tc)) rfl hI (fun w' hw'=>by have y0:=BJ hw' hb (by simp) t2;go_simp) ?_;refine wpAnyE_tk 18 (v:=(.string (strOfNums u.text))) rfl hI (fun w' hw'=>by have kc:=OY (c:=u.tc) ((hF.ok u (by simp)).1.text.only hw');go_simp) ?_;refine wpAnyE_tg 19 (v:=(.slice (some ⟨b,off,none⟩) (r.length+4) c)) rfl hI ?_;refine wpAnyE_tk 20 (v:=(.pointer (some ⟨b,off+12,none⟩))) rfl hI (fun w' hw'=>by go_simp;intro h7;exact absurd h7 (by omega)) ?_;refine wpAnyE_tg 21 (v:=(.pointer (some ⟨b,off+12+2,none⟩))) rfl hI ?_;refine wpAnyE_tk 22 (v:=(.slice v.tA v.text.length v.tc)) rfl hI (fun w' hw'=>by have y0:=BJ hw' hb (by simp) t3;go_simp) ?_;refine wpAnyE_tk 23 (v:=(.string (strOfNums v.text))) rfl hI (fun w' hw'=>by have kc:=OY (c:=v.tc) ((hF.ok v (by simp)).1.text.only hw');go_simp) ?_;refine qP 24 g 0 rfl hI ?_;refine qP 25 g 0 rfl hI ?_;refine qP 26 g 1 rfl hI ?_;refine AC 27 rfl (by kernel_rfl) hI (fun K hK=>?_);rw[if_pos (by kernel_rfl)];go_simp
 refine hK _ _ ?_;clear hK K;have hI:=Only.setCell (p:=⟨g,1,none⟩) hI (.inr hlt) (.string (strOfNums a.text));refine qP 28 g 0 rfl hI ?_;refine qP 29 g 0 rfl hI ?_;refine qP 30 g 9 rfl hI ?_;refine AC 31 rfl (by kernel_rfl) hI (fun K hK=>?_);rw[if_pos (by kernel_rfl)];go_simp
 refine hK _ _ ?_;clear hK K;have hI:=Only.setCell (p:=⟨g,9,none⟩) hI (.inr hlt) (.bool on);refine qP 32 g 0 rfl hI ?_;refine qP 33 g 0 rfl hI ?_;refine qP 34 g 2 rfl hI ?_;refine AC 35 rfl (by kernel_rfl) hI (fun K hK=>?_);rw[if_pos (by kernel_rfl)];go_simp
 refine hK _ _ ?_;clear hK K;have hI:=Only.setCell (p:=⟨g,2,none⟩) hI (.inr hlt) (.string (strOfNums u.text));refine qP 36 g 0 rfl hI ?_;refine qP 37 g 0 rfl hI ?_;refine qP 38 g 3 rfl hI ?_;refine AC 39 rfl (by kernel_rfl) hI (fun K hK=>?_);rw[if_pos (by kernel_rfl)];go_simp
 refine hK _ _ ?_;clear hK K;have hI:=Only.setCell (p:=⟨g,3,none⟩) hI (.inr hlt) (.string (strOfNums v.text));refine AT (by kernel_rfl) hI ?_;(try simp only[Exit.inBlock,Exit.then])
 (try go_wp2_with fail)
 go_end0
 exact⟨rfl,((((((((((Only.refl [g] w).drew)).setCell (p:=⟨g,1,none⟩) (.inl (by simp)) (.string (strOfNums a.text)))).setCell (p:=⟨g,9,none⟩) (.inl (by simp)) (.bool on))).setCell (p:=⟨g,2,none⟩) (.inl (by simp)) (.string (strOfNums u.text)))).setCell (p:=⟨g,3,none⟩) (.inl (by simp)) (.string (strOfNums v.text))),((((hg.drew).set_ 1 (.string (strOfNums a.text))).set_ 9 (.bool on)).set_ 2 (.string (strOfNums u.text))).set_ 3 (.string (strOfNums v.text))⟩
theorem gH (m:RQ) (g:Nat) (w0 w:World) (A:Option Addr) (a b1 c1 d1 e1 f1:FD) (r:List FD) (c:Nat) (hF:RdF w0 A (a::b1::c1::d1::e1::f1::r)) (hO:Only [] w0 w) (hlt:w0.heap.size<=g) (hg:Blk w g 217 m.cells) (h6:r.length+6<=c) (hcm:c<=maxLen):Calls Tryz.prog 201 #[.pointer (some ⟨g,0,none⟩),.slice A (r.length+6) c] w fun e w'=>e = .returned (.tuple #[])/\Only [g] w w'/\Blk w' g 217 (RQ.cells { m with text:=strOfNums a.text,cols:=b1.n,rows:=c1.n,width:=d1.n,height:=e1.n,mA:=f1.tA,mc:=f1.tc,modes:=f1.text }):=by
 have TX:=JS m g w0 w A a (b1::c1::d1::e1::f1::r) c hF hO hlt hg;obtain⟨b,off,rfl,hb,hc⟩:=hF.cells (by simp);have hF2:RdF w0 (some ⟨b,off+4,none⟩) (b1::c1::d1::e1::f1::r):=⟨fun _=>⟨b,off+4,rfl,hb,fun i f hi=>by
  have:=hc (i+1) f (by simpa using hi);rw[show off+(i+1)*4=off+4+i*4 by omega] at this;exact this⟩,fun f hf=>hF.ok f (List.mem_cons_of_mem _ hf)⟩
 obtain⟨_,_,t5,_⟩:=hc 5 f1 rfl;simp only[Nat.reduceMul] at t5;rw[show(b1::c1::d1::e1::f1::r).length+1=r.length+6 by simp] at TX;have i1:(1:Int)<=(r.length:Int)+6:=by omega
 have i2:(1:Int)<(c:Int):=by omega
 have i3:((r.length:Int)+6)<=(c:Int):=by omega
 have i5:(5:Int)<(r.length:Int)+6:=by omega
 clear hc;go_enter Tryz.func201,Tryz.ntmps201
 go_wp2_with fail
 go_call TX as e w1 ⟨rfl,P1,K1⟩
 clear TX;have O1:Only [] w0 w1:=hO.trans P1 (fun x hx=>.inr (by simp at hx;omega));have TS:=SD _ g w0 w1 _ b1 c1 d1 e1 (f1::r) (c-1) hF2 O1 hlt K1;rw[show(f1::r).length+4=r.length+5 by simp] at TS;go_wp2_with fail
 go_call TS as e w2 ⟨rfl,P2,K2⟩
 clear TS;have O2:Only [] w0 w2:=O1.trans P2 (fun x hx=>.inr (by simp at hx;omega));have t5:=BJ O2 hb (by simp) t5;have c8:=K2.cell 8;have z8:=K2.frozen 8;have hb2:=K2.set_ 8 (.slice f1.tA f1.text.length f1.tc);have hO2:Only [g] w (w2.setCell ⟨g,8,none⟩ (.slice f1.tA f1.text.length f1.tc)):=((P1.trans P2 (fun x hx=>.inl hx)).setCell (p:=⟨g,8,none⟩) (.inl (by simp)) _);go_wp2
 go_end0
 exact⟨rfl,hO2,hb2⟩
theorem rget_any (k:Nat) (h1:1<=k) (h2:k<=10): ∃F:FuncId,rget k=F/\(∀(args:Array Value) (w:World),(callFunc F args).run Tryz.prog w = .ok (.enter F args) w)/\
  ∀(w:World) (m:RQ) (g:Nat),Blk w g 217 m.cells->m.ok w->m.text.size<=140737488355328->m.value.size<=140737488355328->m.lang.size<=140737488355328->Calls Tryz.prog F #[.pointer (some ⟨g,0,none⟩)] w (GL w (BG m k)):=by
 rcases k10 h1 h2 with rfl|rfl|rfl|rfl|rfl|rfl|rfl|rfl|rfl|rfl;·exact⟨_,rfl,fun args w=>by kernel_rfl,fun w m g hg hm hs hv hl=>fM m g w hg hm hs⟩
 ·exact⟨_,rfl,fun args w=>by kernel_rfl,fun w m g hg hm hs hv hl=>fJ m g w hg hs hv⟩
 ·exact⟨_,rfl,fun args w=>by kernel_rfl,fun w m g hg hm hs hv hl=>dF m g w hg⟩
 ·exact⟨_,rfl,fun args w=>by kernel_rfl,fun w m g hg hm hs hv hl=>HJ m g w hg hs⟩
 ·exact⟨_,rfl,fun args w=>by kernel_rfl,fun w m g hg hm hs hv hl=>HJ m g w hg hs⟩
 ·exact⟨_,rfl,fun args w=>by kernel_rfl,fun w m g hg hm hs hv hl=>JP m g w hg hm.nums⟩
 ·exact⟨_,rfl,fun args w=>by kernel_rfl,fun w m g hg hm hs hv hl=>jT m g w hg⟩
 ·exact⟨_,rfl,fun args w=>by kernel_rfl,fun w m g hg hm hs hv hl=>HJ m g w hg hs⟩
 ·exact⟨_,rfl,fun args w=>by kernel_rfl,fun w m g hg hm hs hv hl=>dE m g w hg hm.nums.2.2.2.2⟩
 ·exact⟨_,rfl,fun args w=>by kernel_rfl,fun w m g hg hm hs hv hl=>ZB m g w hg hs hv hl⟩
def PutsPost (g:Nat) (w:World) (m:RQ):Ending->World->Prop:=fun e w'=>e = .returned (.tuple #[])/\Only [g] w w'/\Blk w' g 217 m.cells
theorem len_kinds {fs:List FD} {k:Nat} (h:fs.map (fun f=>f.pf.kind)=CQ k):fs.length=(CQ k).length:=by rw[<-h,List.length_map]
theorem rput_any (k:Nat) (h1:1<=k) (h2:k<=10): ∃F:FuncId,rput k=F/\(∀(args:Array Value) (w:World),(callFunc F args).run Tryz.prog w = .ok (.enter F args) w)/\
  ∀(m:RQ) (g:Nat) (w0 w:World) (A:Option Addr) (fs:List FD) (n c:Nat),fs.length=n->fs.map (fun f=>f.pf.kind)=CQ k->n<=c->c<=maxLen->RdF w0 A fs->Only [] w0 w->w0.heap.size<=g->Blk w g 217 m.cells->Calls Tryz.prog F #[.pointer (some ⟨g,0,none⟩),.slice A n c] w (PutsPost g w (putR m k fs)):=by
 rcases k10 h1 h2 with rfl|rfl|rfl|rfl|rfl|rfl|rfl|rfl|rfl|rfl
 ·refine⟨_,rfl,fun args w=>by kernel_rfl,fun m g w0 w A fs n c hn hk hc hcm hF hO hlt hg=>?_⟩;obtain⟨x1,x2,x3,x4,x5,x6,rfl,_⟩:=ks6 hk;subst hn;exact gH m g w0 w A x1 x2 x3 x4 x5 x6 [] c hF hO hlt hg hc hcm
 ·refine⟨_,rfl,fun args w=>by kernel_rfl,fun m g w0 w A fs n c hn hk hc hcm hF hO hlt hg=>?_⟩;obtain⟨x1,x2,rfl,_⟩:=ks2 hk;subst hn;exact gE m g w0 w A x1 x2 [] c hF hO hlt hg
 ·refine⟨_,rfl,fun args w=>by kernel_rfl,fun m g w0 w A fs n c hn hk hc hcm hF hO hlt hg=>?_⟩;obtain rfl:fs=[]:=List.eq_nil_of_length_eq_zero (len_kinds hk);subst hn;exact dO m g w _ hg
 ·refine⟨_,rfl,fun args w=>by kernel_rfl,fun m g w0 w A fs n c hn hk hc hcm hF hO hlt hg=>?_⟩;obtain⟨x1,rfl,_⟩:=ks1 hk;subst hn;exact JS m g w0 w A x1 [] c hF hO hlt hg
 ·refine⟨_,rfl,fun args w=>by kernel_rfl,fun m g w0 w A fs n c hn hk hc hcm hF hO hlt hg=>?_⟩;obtain⟨x1,rfl,_⟩:=ks1 hk;subst hn;exact JS m g w0 w A x1 [] c hF hO hlt hg
 ·refine⟨_,rfl,fun args w=>by kernel_rfl,fun m g w0 w A fs n c hn hk hc hcm hF hO hlt hg=>?_⟩;obtain⟨x1,x2,x3,x4,rfl,_⟩:=ks4 hk;subst hn;exact SD m g w0 w A x1 x2 x3 x4 [] c hF hO hlt hg
 ·refine⟨_,rfl,fun args w=>by kernel_rfl,fun m g w0 w A fs n c hn hk hc hcm hF hO hlt hg=>?_⟩;obtain⟨x1,rfl,_⟩:=ks1 hk;subst hn;exact kH m g w0 w A x1 [] c hF hO hlt hg
 ·refine⟨_,rfl,fun args w=>by kernel_rfl,fun m g w0 w A fs n c hn hk hc hcm hF hO hlt hg=>?_⟩;obtain⟨x1,rfl,_⟩:=ks1 hk;subst hn;exact JS m g w0 w A x1 [] c hF hO hlt hg
 ·refine⟨_,rfl,fun args w=>by kernel_rfl,fun m g w0 w A fs n c hn hk hc hcm hF hO hlt hg=>?_⟩;obtain⟨x1,rfl,_⟩:=ks1 hk;subst hn;exact dN m g w0 w A x1 [] c hF hO hlt hg
 ·refine⟨_,rfl,fun args w=>by kernel_rfl,fun m g w0 w A fs n c hn hk hc hcm hF hO hlt hg=>?_⟩;obtain⟨x1,x2,x3,x4,rfl,_⟩:=ks4 hk;subst hn;exact ZI m g w0 w A x1 x2 x3 x4 [] c hF hO hlt hg
theorem LK {P:Program} {fn:Func} {p t:Tmp} {T:TypeId} {R:Ending->World->Prop} {a:Act} {w:World} {g:Nat} {d:TypeDesc} (cs:Array Value) (h:fn.results=#[.cell p T,.tmp t]) (hp:a.tmps.getD p undef = .pointer (some ⟨g,0,none⟩)) (hd:a.defers=[])
  (hg:w.heap[g]? = some (.cells cs T (0,0))) (hu:P.underlying T=some d) (hk:(match d with | .struct _ | .array _ _=>true|_=>false)=true) (hs:(P.info? T).map (·.size)=some cs.size)
  (hR:R (.returned (.tuple #[.agg cs,a.tmps.getD t undef])) w):bodyPost P fn R .ret a w:=by
 refine bodyPost_ret (v:=.tuple #[.agg cs,a.tmps.getD t undef]) ?_ hd hR;have hp':a.tmps[p]?.getD undef = .pointer (some ⟨g,0,none⟩):=by simpa using hp
 simp[results,h,hp',asAddr,run_loadVar_row (P:=P) w g T T cs (0,0) d hg hu hk hs]
def VB (k:Nat) (KA:Option Addr):Value:=.agg #[.string (JD k),.slice KA (CQ k).length (CQ k).length,rfn (rget k),rfn (rput k),rfn (rask k)]
def RulePost (w:World) (k:Nat):Ending->World->Prop:=fun e w'=>Only [] w w'/\∃KA:Option Addr,e = .returned (.tuple #[VB k KA,.bool true])/\RdI w' KA (CQ k)
theorem YF (q k:Nat) (h1:1<=k) (h2:k<=10) (w:World):(Instr.index 251 (.agg (SO q)) (.int .i64 (k:Int))).run Tryz.prog w = .ok (VB k (PP q k)) w:=by
 rcases k10 h1 h2 with rfl|rfl|rfl|rfl|rfl|rfl|rfl|rfl|rfl|rfl<;>kernel_rfl
theorem rule_row {w:World} {g:Nat} {t:TypeId} {a0 a1 a2 a3 a4 b0 b1 b2 b3 b4:Value} (h:Blk w g t [a0,a1,a2,a3,a4]):Blk (((((w.setCell ⟨g,0,none⟩ b0).setCell ⟨g,1,none⟩ b1).setCell ⟨g,2,none⟩ b2).setCell ⟨g,3,none⟩ b3).setCell ⟨g,4,none⟩ b4) g t [b0,b1,b2,b3,b4]:=(((((h.set_ 0 b0).set_ 1 b1).set_ 2 b2).set_ 3 b3).set_ 4 b4)
theorem bN {L:List Nat} {w0 w:World} {g:Nat} {b0 b1 b2 b3 b4:Value} (hg:g∈L\/w0.heap.size<=g) (h:Only L w0 w):Only L w0 (((((w.setCell ⟨g,0,none⟩ b0).setCell ⟨g,1,none⟩ b1).setCell ⟨g,2,none⟩ b2).setCell ⟨g,3,none⟩ b3).setCell ⟨g,4,none⟩ b4):=
 (((((h.setCell (p:=⟨g,0,none⟩) hg _).setCell (p:=⟨g,1,none⟩) hg _).setCell (p:=⟨g,2,none⟩) hg _).setCell (p:=⟨g,3,none⟩) hg _).setCell (p:=⟨g,4,none⟩) hg _)
theorem rof_any (k:Nat) (h1:1<=k) (h2:k<=10) (w:World):Calls Tryz.prog 111 #[.int .i64 (k:Int)] w (RulePost w k):=by
 have i1: ¬(k:Int)<1:=by omega
 have i2: ¬(10:Int)<(k:Int):=by omega
 obtain⟨w1,hw1⟩:=qY (w.alloc (.cells #[.string ⟨#[]⟩,.slice none 0 0,.nilFunc,.nilFunc,.nilFunc] 212));have P1:Only [] w w1:=by rw[hw1];exact(zR _ _).alloc _
 have K1:Blk w1 w.heap.size 212 [.string ⟨#[]⟩,.slice none 0 0,.nilFunc,.nilFunc,.nilFunc]:=by rw[hw1];exact Blk.new w _ _
 have RU:=bO w1;have hix:=fun w'=>YF w1.heap.size k h1 h2 w';unfold VB rfn at hix;obtain⟨KA,hKA⟩:=qX (PP w1.heap.size k);obtain⟨tb,htb⟩:=qX (SO w1.heap.size);obtain⟨nm,hnm⟩:=qX (JD k);obtain⟨n,hn⟩:=qX ((CQ k).length);obtain⟨F1,hF1⟩: ∃F,rget k=F:=⟨_,rfl⟩;obtain⟨F2,hF2⟩: ∃F,rput k=F:=⟨_,rfl⟩;obtain⟨F3,hF3⟩: ∃F,rask k=F:=⟨_,rfl⟩;rw[hKA,htb,hnm,hn,hF1,hF2,hF3] at hix;rw[htb] at RU;have hv:VB k KA = .agg #[.string nm,.slice KA n n,.func (Fn.func F1) #[] #[],.func (Fn.func F2) #[] #[],.func (Fn.func F3) #[] #[]]:=by unfold VB rfn;rw[hnm,hn,hF1,hF2,hF3]
 replace hv:=AB hv;replace hKA:=AB hKA;replace htb:=AB htb;replace hnm:=AB hnm;replace hn:=AB hn;replace hF1:=AB hF1;replace hF2:=AB hF2;replace hF3:=AB hF3;go_enter Tryz.func111,Tryz.ntmps111
 go_wp2_with fail
 rw[<-hw1];replace hw1:=AB hw1;go_call RU as e w2 ⟨rfl,P2,z2,R2⟩
 clear RU;have R2:=R2 k h1 h2;rw[hKA.out] at R2;replace z2:=AB z2;have K2:=K1.only P2 (by simp);have c0:=K2.cell 0;have c1:=K2.cell 1;have c2:=K2.cell 2;have c3:=K2.cell 3;have c4:=K2.cell 4;have f0:=K2.frozen 0;have f1:=K2.frozen 1;have f2:=K2.frozen 2;have f3:=K2.frozen 3;have f4:=K2.frozen 4;simp only[List.getElem?_cons_zero,List.getElem?_cons_succ] at c0 c1 c2 c3 c4;go_wp2_with fail
 (try simp only[Exit.inBlock,Exit.then])
 refine LK #[.string nm,.slice KA n n,.func (Fn.func F1) #[] #[],.func (Fn.func F2) #[] #[],.func (Fn.func F3) #[] #[]] rfl (by rfl) (by rfl) (rule_row K2) Tryz.underlying212 rfl (by kernel_rfl) ?_;have O3:=bN (L:=[]) (w0:=w) (g:=w.heap.size) (b0:=.string nm) (b1:=.slice KA n n) (b2:=.func (Fn.func F1) #[] #[]) (b3:=.func (Fn.func F2) #[] #[]) (b4:=.func (Fn.func F3) #[] #[]) (.inr (qL _)) (P1.trans P2 (by simp));have O4:=bN (L:=[w.heap.size]) (w0:=w2) (w:=w2) (g:=w.heap.size) (b0:=.string nm) (b1:=.slice KA n n) (b2:=.func (Fn.func F1) #[] #[]) (b3:=.func (Fn.func F2) #[] #[]) (b4:=.func (Fn.func F3) #[] #[]) (.inl (by simp)) (zR _ _);refine⟨O3,KA,by rw[hv.out];rfl,RdG.onlyL R2 O4 (fun a ha h0=>?_)⟩;rw[<-hKA.out] at ha;have:=K1.lt;unfold PP at ha;split at ha;·cases ha
 ·injection ha with ha;rw[<-ha];simp;omega
theorem rof_none (k:Int) (h: ¬(1<=k/\k<=10)) (w:World):Calls Tryz.prog 111 #[.int .i64 k] w fun e w'=>Only [] w w'/\e = .returned (.tuple #[.agg #[.string ⟨#[]⟩,.slice none 0 0,.nilFunc,.nilFunc,.nilFunc],.bool false]):=by
 have K1:Blk (w.alloc (.cells #[.string ⟨#[]⟩,.slice none 0 0,.nilFunc,.nilFunc,.nilFunc] 212)) w.heap.size 212 [.string ⟨#[]⟩,.slice none 0 0,.nilFunc,.nilFunc,.nilFunc]:=Blk.new w _ _;have O1:Only [] w (w.alloc (.cells #[.string ⟨#[]⟩,.slice none 0 0,.nilFunc,.nilFunc,.nilFunc] 212)):=(zR _ _).alloc _;by_cases h1:k<1
 ·clear h;go_enter Tryz.func111,Tryz.ntmps111
  go_wp2_with fail
  (try simp only[Exit.inBlock,Exit.then])
  refine LK #[.string ⟨#[]⟩,.slice none 0 0,.nilFunc,.nilFunc,.nilFunc] rfl (by rfl) (by rfl) K1 Tryz.underlying212 rfl (by kernel_rfl) ?_;exact⟨O1,rfl⟩
 ·have h2:10<k:=by omega
  clear h;go_enter Tryz.func111,Tryz.ntmps111
  go_wp2_with fail
  (try simp only[Exit.inBlock,Exit.then])
  refine LK #[.string ⟨#[]⟩,.slice none 0 0,.nilFunc,.nilFunc,.nilFunc] rfl (by rfl) (by rfl) K1 Tryz.underlying212 rfl (by kernel_rfl) ?_;exact⟨O1,rfl⟩
theorem aL (c:UInt8): ∀l:List UInt8,decide (0<=Lib.indexByte l c)=decide (c∈l)
 |[]=>by simp[Lib.indexByte]
 |b::l=>by
  have ih:=aL c l;have hge:=Lib.indexByte_ge l c;unfold Lib.indexByte;by_cases hb:b=c
  ·subst hb;simp
  ·have hcb: ¬c=b:=fun e=>hb e.symm;rw[if_neg (by simpa using hb)];by_cases h1:Lib.indexByte l c = -1
   ·rw[h1] at ih⊢;simp[hcb] at ih⊢;exact ih
   ·rw[if_neg (by simpa using h1)];have h0:0<=Lib.indexByte l c:=by omega
    rw[decide_eq_true h0] at ih;rw[decide_eq_true (show 0<=Lib.indexByte l c+1 by omega)];have:=of_decide_eq_true ih.symm;simp[this]
theorem rhas_any (s:ByteArray) (w:World):Calls Tryz.prog 233 #[.string s,.string ⟨#[61]⟩] w fun e w'=>e = .returned (.bool (hasEq s))/\w=w':=
 (Tryz.strings_Contains_one s 61 w).mono fun e w' ⟨h1,h2⟩=>⟨by rw[h1,aL];rfl,h2.symm⟩
section
variable (m:RQ) (g:Nat) (w:World)
theorem JN:Calls Tryz.prog 208 #[.pointer (some ⟨g,0,none⟩)] w fun e w'=>e = .returned (.int .i64 0)/\Only [] w w':=by
 go_enter Tryz.func208,Tryz.ntmps208
 go_wp2
 go_ret
 exact⟨rfl,zR _ _⟩
theorem QX (hg:Blk w g 217 m.cells) (hm:m.ok w):Calls Tryz.prog 212 #[.pointer (some ⟨g,0,none⟩)] w fun e w'=>e = .returned (.int .i64 (CJ m.text 1))/\Only [] w w':=by
 have c1:w.cell? ⟨g,1,none⟩=some (.string m.text):=hg.cell 1;have T:=MN m.text 1 w hm.text;go_enter Tryz.func212,Tryz.ntmps212
 go_wp2_with fail
 go_call T as e x ⟨rfl,rfl⟩
 clear T;go_wp2_with fail
 go_ret
 exact⟨rfl,zR _ _⟩
theorem cN (hg:Blk w g 217 m.cells) (hm:m.ok w):Calls Tryz.prog 211 #[.pointer (some ⟨g,0,none⟩)] w fun e w'=>e = .returned (.int .i64 (DL m.text.size))/\Only [] w w':=by
 have c1:w.cell? ⟨g,1,none⟩=some (.string m.text):=hg.cell 1;have T:=PI m.text.size w;go_enter Tryz.func211,Tryz.ntmps211
 go_wp2_with fail
 go_call T as e x ⟨rfl,rfl⟩
 clear T;go_wp2_with fail
 go_ret
 exact⟨rfl,zR _ _⟩
theorem eG (hg:Blk w g 217 m.cells) (hm:m.ok w):Calls Tryz.prog 202 #[.pointer (some ⟨g,0,none⟩)] w fun e w'=>e = .returned (.int .i64 (GI [CJ m.text 0,DL m.modes.length]))/\Only [] w w':=by
 have hlt:=hg.lt;go_enter Tryz.func202,Tryz.ntmps202
 go_wp2_with fail
 have hI:(fun w':World=>Blk w' g 217 m.cells) { w with drawn:=w.drawn+1 }:=hg;refine AL (fun w':World=>Blk w' g 217 m.cells) [] (by kernel_rfl) ?_;refine qP 0 g 0 rfl hI ?_;refine qP 1 g 0 rfl hI ?_;refine qP 2 g 0 rfl hI ?_;refine qP 3 g 1 rfl hI ?_;refine wpAnyE_tk 4 (v:=(.string m.text)) rfl hI (fun w' hw'=>by have y0:w'.cell? ⟨g,1,none⟩=some (.string m.text):=hw'.cell 1;go_simp) ?_;refine qP 6 g 0 rfl hI ?_;refine qP 7 g 0 rfl hI ?_;refine qP 8 g 0 rfl hI ?_;refine qP 9 g 8 rfl hI ?_;refine wpAnyE_tk 10 (v:=(.slice m.mA m.modes.length m.mc)) rfl hI (fun w' hw'=>by have y0:w'.cell? ⟨g,8,none⟩=some (.slice m.mA m.modes.length m.mc):=hw'.cell 8;go_simp) ?_;refine wpAnyE_tg 11 (v:=(.int .i64 (m.modes.length:Int))) rfl hI ?_;have T:=MN m.text 0 w.drew hm.text;refine AC 5 rfl (by kernel_rfl) hI (fun K hK=>?_);rw[if_pos (by kernel_rfl)];go_simp
 go_call T as e x ⟨rfl,rfl⟩
 clear T;refine hK _ _ ?_;clear hK K;have T:=PI (m.modes.length) w.drew;refine AC 12 rfl (by kernel_rfl) hI (fun K hK=>?_);rw[if_pos (by kernel_rfl)];go_simp
 go_call T as e x ⟨rfl,rfl⟩
 clear T;refine hK _ _ ?_;clear hK K;refine AC 13 rfl (by kernel_rfl) hI (fun K hK=>?_);rw[if_pos (by kernel_rfl)];go_simp
 refine hK _ _ ?_;clear hK K;have PL:Only [] w ((w.alloc (.cells #[.int .i64 (CJ m.text 0),.int .i64 (DL m.modes.length)] 26)).drew):=((Only.refl [] w).alloc _).drew;have hIL:(fun w':World=>Blk w' g 217 m.cells) ((w.alloc (.cells #[.int .i64 (CJ m.text 0),.int .i64 (DL m.modes.length)] 26)).drew):=hg.only PL (by simp);have RL:RdI ((w.alloc (.cells #[.int .i64 (CJ m.text 0),.int .i64 (DL m.modes.length)] 26)).drew) (some ⟨w.heap.size,0,none⟩) [(CJ m.text 0),(DL m.modes.length)]:=GV (Blk.new w 26 ([(CJ m.text 0),(DL m.modes.length)].map (.int .i64)));have T:=QM (some ⟨w.heap.size,0,none⟩) [(CJ m.text 0),(DL m.modes.length)] 2 _ RL (by simp[maxLen]);refine AC 14 rfl (by kernel_rfl) hIL (fun K hK=>?_);rw[if_pos (by kernel_rfl)];go_simp
 go_call T as e x ⟨rfl,rfl⟩
 clear T;refine hK _ _ ?_;clear hK K;refine wpAnyE_tg 15 (v:=(.int .i64 (GI [(CJ m.text 0),(DL m.modes.length)]))) rfl hIL ?_;refine AT (by kernel_rfl) hIL ?_;simp only[Exit.then];go_wp2_with fail
 go_ret
 exact⟨rfl,PL⟩
theorem YY (hg:Blk w g 217 m.cells) (hm:m.ok w):Calls Tryz.prog 221 #[.pointer (some ⟨g,0,none⟩)] w fun e w'=>e = .returned (.int .i64 (GI [CJ m.text 1,CJ m.lang 0,DL m.value.size]))/\Only [] w w':=by
 have hlt:=hg.lt;go_enter Tryz.func221,Tryz.ntmps221
 go_wp2_with fail
 have hI:(fun w':World=>Blk w' g 217 m.cells) { w with drawn:=w.drawn+1 }:=hg;refine AL (fun w':World=>Blk w' g 217 m.cells) [] (by kernel_rfl) ?_;refine qP 0 g 0 rfl hI ?_;refine qP 1 g 0 rfl hI ?_;refine qP 2 g 0 rfl hI ?_;refine qP 3 g 1 rfl hI ?_;refine wpAnyE_tk 4 (v:=(.string m.text)) rfl hI (fun w' hw'=>by have y0:w'.cell? ⟨g,1,none⟩=some (.string m.text):=hw'.cell 1;go_simp) ?_;refine qP 6 g 0 rfl hI ?_;refine qP 7 g 0 rfl hI ?_;refine qP 8 g 0 rfl hI ?_;refine qP 9 g 3 rfl hI ?_;refine wpAnyE_tk 10 (v:=(.string m.lang)) rfl hI (fun w' hw'=>by have y0:w'.cell? ⟨g,3,none⟩=some (.string m.lang):=hw'.cell 3;go_simp) ?_;refine qP 12 g 0 rfl hI ?_;refine qP 13 g 0 rfl hI ?_;refine qP 14 g 0 rfl hI ?_;refine qP 15 g 2 rfl hI ?_;refine wpAnyE_tk 16 (v:=(.string m.value)) rfl hI (fun w' hw'=>by have y0:w'.cell? ⟨g,2,none⟩=some (.string m.value):=hw'.cell 2;go_simp) ?_;refine wpAnyE_tg 17 (v:=(.int .i64 (m.value.size:Int))) rfl hI ?_;have T:=MN m.text 1 w.drew hm.text;refine AC 5 rfl (by kernel_rfl) hI (fun K hK=>?_);rw[if_pos (by kernel_rfl)];go_simp
 go_call T as e x ⟨rfl,rfl⟩
 clear T;refine hK _ _ ?_;clear hK K;have T:=MN m.lang 0 w.drew hm.lang;refine AC 11 rfl (by kernel_rfl) hI (fun K hK=>?_);rw[if_pos (by kernel_rfl)];go_simp
 go_call T as e x ⟨rfl,rfl⟩
 clear T;refine hK _ _ ?_;clear hK K;have T:=PI (m.value.size) w.drew;refine AC 18 rfl (by kernel_rfl) hI (fun K hK=>?_);rw[if_pos (by kernel_rfl)];go_simp
 go_call T as e x ⟨rfl,rfl⟩
 clear T;refine hK _ _ ?_;clear hK K;refine AC 19 rfl (by kernel_rfl) hI (fun K hK=>?_);rw[if_pos (by kernel_rfl)];go_simp
 refine hK _ _ ?_;clear hK K;have PL:Only [] w ((w.alloc (.cells #[.int .i64 (CJ m.text 1),.int .i64 (CJ m.lang 0),.int .i64 (DL m.value.size)] 26)).drew):=((Only.refl [] w).alloc _).drew;have hIL:(fun w':World=>Blk w' g 217 m.cells) ((w.alloc (.cells #[.int .i64 (CJ m.text 1),.int .i64 (CJ m.lang 0),.int .i64 (DL m.value.size)] 26)).drew):=hg.only PL (by simp);have RL:RdI ((w.alloc (.cells #[.int .i64 (CJ m.text 1),.int .i64 (CJ m.lang 0),.int .i64 (DL m.value.size)] 26)).drew) (some ⟨w.heap.size,0,none⟩) [(CJ m.text 1),(CJ m.lang 0),(DL m.value.size)]:=GV (Blk.new w 26 ([(CJ m.text 1),(CJ m.lang 0),(DL m.value.size)].map (.int .i64)));have T:=QM (some ⟨w.heap.size,0,none⟩) [(CJ m.text 1),(CJ m.lang 0),(DL m.value.size)] 3 _ RL (by simp[maxLen]);refine AC 20 rfl (by kernel_rfl) hIL (fun K hK=>?_);rw[if_pos (by kernel_rfl)];go_simp
 go_call T as e x ⟨rfl,rfl⟩
 clear T;refine hK _ _ ?_;clear hK K;refine wpAnyE_tg 21 (v:=(.int .i64 (GI [(CJ m.text 1),(CJ m.lang 0),(DL m.value.size)]))) rfl hIL ?_;refine AT (by kernel_rfl) hIL ?_;simp only[Exit.then];go_wp2_with fail
 go_ret
 exact⟨rfl,PL⟩
theorem eF (hg:Blk w g 217 m.cells) (hm:m.ok w):Calls Tryz.prog 205 #[.pointer (some ⟨g,0,none⟩)] w fun e w'=>e = .returned (.int .i64 (if hasEq m.text then 4 else GI [CJ m.text 1,DL m.value.size]))/\Only [] w w':=by
 have c1:w.cell? ⟨g,1,none⟩=some (.string m.text):=hg.cell 1;have hlt:=hg.lt;have T:=rhas_any m.text w;obtain⟨b,hb⟩:=qX (hasEq m.text);rw[hb] at T⊢;replace hb:=AB hb;go_enter Tryz.func205,Tryz.ntmps205
 go_wp2_with fail
 go_call T as e x ⟨rfl,rfl⟩
 clear T;cases b with
 |true=>
  go_wp2_with fail
  go_ret
  exact⟨rfl,zR _ _⟩
 |false=>
 go_wp2_with fail
 have hI:(fun w':World=>Blk w' g 217 m.cells) { w with drawn:=w.drawn+1 }:=hg;refine AL (fun w':World=>Blk w' g 217 m.cells) [] (by kernel_rfl) ?_;refine qP 0 g 0 rfl hI ?_;refine qP 1 g 0 rfl hI ?_;refine qP 2 g 0 rfl hI ?_;refine qP 3 g 1 rfl hI ?_;refine wpAnyE_tk 4 (v:=(.string m.text)) rfl hI (fun w' hw'=>by have y0:w'.cell? ⟨g,1,none⟩=some (.string m.text):=hw'.cell 1;go_simp) ?_;refine qP 6 g 0 rfl hI ?_;refine qP 7 g 0 rfl hI ?_;refine qP 8 g 0 rfl hI ?_;refine qP 9 g 2 rfl hI ?_;refine wpAnyE_tk 10 (v:=(.string m.value)) rfl hI (fun w' hw'=>by have y0:w'.cell? ⟨g,2,none⟩=some (.string m.value):=hw'.cell 2;go_simp) ?_;refine wpAnyE_tg 11 (v:=(.int .i64 (m.value.size:Int))) rfl hI ?_;have T:=MN m.text 1 w.drew hm.text;refine AC 5 rfl (by kernel_rfl) hI (fun K hK=>?_);rw[if_pos (by kernel_rfl)];go_simp
 go_call T as e x ⟨rfl,rfl⟩
 clear T;refine hK _ _ ?_;clear hK K;have T:=PI (m.value.size) w.drew;refine AC 12 rfl (by kernel_rfl) hI (fun K hK=>?_);rw[if_pos (by kernel_rfl)];go_simp
 go_call T as e x ⟨rfl,rfl⟩
 clear T;refine hK _ _ ?_;clear hK K;refine AC 13 rfl (by kernel_rfl) hI (fun K hK=>?_);rw[if_pos (by kernel_rfl)];go_simp
 refine hK _ _ ?_;clear hK K;have PL:Only [] w ((w.alloc (.cells #[.int .i64 (CJ m.text 1),.int .i64 (DL m.value.size)] 26)).drew):=((Only.refl [] w).alloc _).drew;have hIL:(fun w':World=>Blk w' g 217 m.cells) ((w.alloc (.cells #[.int .i64 (CJ m.text 1),.int .i64 (DL m.value.size)] 26)).drew):=hg.only PL (by simp);have RL:RdI ((w.alloc (.cells #[.int .i64 (CJ m.text 1),.int .i64 (DL m.value.size)] 26)).drew) (some ⟨w.heap.size,0,none⟩) [(CJ m.text 1),(DL m.value.size)]:=GV (Blk.new w 26 ([(CJ m.text 1),(DL m.value.size)].map (.int .i64)));have T:=QM (some ⟨w.heap.size,0,none⟩) [(CJ m.text 1),(DL m.value.size)] 2 _ RL (by simp[maxLen]);refine AC 14 rfl (by kernel_rfl) hIL (fun K hK=>?_);rw[if_pos (by kernel_rfl)];go_simp
 go_call T as e x ⟨rfl,rfl⟩
 clear T;refine hK _ _ ?_;clear hK K;refine wpAnyE_tg 15 (v:=(.int .i64 (GI [(CJ m.text 1),(DL m.value.size)]))) rfl hIL ?_;refine AT (by kernel_rfl) hIL ?_;simp only[Exit.then];go_wp2_with fail
 go_ret
 exact⟨rfl,PL⟩
end
theorem ask_any (k:Nat) (h1:1<=k) (h2:k<=10): ∃F:FuncId,rask k=F/\(∀(args:Array Value) (w:World),(callFunc F args).run Tryz.prog w = .ok (.enter F args) w)/\
  ∀(w:World) (m:RQ) (g:Nat),Blk w g 217 m.cells->m.ok w->Calls Tryz.prog F #[.pointer (some ⟨g,0,none⟩)] w (fun e w'=>e = .returned (.int .i64 (NO m k))/\Only [] w w'):=by
 rcases k10 h1 h2 with rfl|rfl|rfl|rfl|rfl|rfl|rfl|rfl|rfl|rfl;·exact⟨_,rfl,fun args w=>by kernel_rfl,fun w m g hg hm=>eG m g w hg hm⟩
 ·exact⟨_,rfl,fun args w=>by kernel_rfl,fun w m g hg hm=>eF m g w hg hm⟩
 ·exact⟨_,rfl,fun args w=>by kernel_rfl,fun w m g hg hm=>JN g w⟩
 ·exact⟨_,rfl,fun args w=>by kernel_rfl,fun w m g hg hm=>cN m g w hg hm⟩
 ·exact⟨_,rfl,fun args w=>by kernel_rfl,fun w m g hg hm=>QX m g w hg hm⟩
 ·exact⟨_,rfl,fun args w=>by kernel_rfl,fun w m g hg hm=>JN g w⟩
 ·exact⟨_,rfl,fun args w=>by kernel_rfl,fun w m g hg hm=>JN g w⟩
 ·exact⟨_,rfl,fun args w=>by kernel_rfl,fun w m g hg hm=>QX m g w hg hm⟩
 ·exact⟨_,rfl,fun args w=>by kernel_rfl,fun w m g hg hm=>JN g w⟩
 ·exact⟨_,rfl,fun args w=>by kernel_rfl,fun w m g hg hm=>YY m g w hg hm⟩
def rset (w:World) (q:Nat) (m:RQ):World:=(((((((((((w.setCell ⟨q,0,none⟩ (.int .i64 m.kind)).setCell ⟨q,1,none⟩ (.string m.text)).setCell ⟨q,2,none⟩ (.string m.value)).setCell ⟨q,3,none⟩ (.string m.lang)).setCell ⟨q,4,none⟩ (.int .u32 m.cols)).setCell ⟨q,5,none⟩ (.int .u32 m.rows)).setCell ⟨q,6,none⟩ (.int .u32 m.width)).setCell ⟨q,7,none⟩ (.int .u32 m.height)).setCell ⟨q,8,none⟩ (.slice m.mA m.modes.length m.mc)).setCell ⟨q,9,none⟩ (.bool m.on)).setCell ⟨q,10,none⟩ (.int .u32 m.code))
theorem rsetB {w:World} {q:Nat} {m0:RQ} (m:RQ) (K:Blk w q 41 m0.cells):Blk (rset w q m) q 41 m.cells:=(((((((((((K.set_ 0 _).set_ 1 _).set_ 2 _).set_ 3 _).set_ 4 _).set_ 5 _).set_ 6 _).set_ 7 _).set_ 8 _).set_ 9 _).set_ 10 _)
theorem rsetO {L:List Nat} {w0 w:World} {q:Nat} (m:RQ) (hq:q∈L\/w0.heap.size<=q) (h:Only L w0 w):Only L w0 (rset w q m):=(((((((((((h.setCell (p:=⟨q,0,none⟩) hq _).setCell (p:=⟨q,1,none⟩) hq _).setCell (p:=⟨q,2,none⟩) hq _).setCell (p:=⟨q,3,none⟩) hq _).setCell (p:=⟨q,4,none⟩) hq _).setCell (p:=⟨q,5,none⟩) hq _).setCell (p:=⟨q,6,none⟩) hq _).setCell (p:=⟨q,7,none⟩) hq _).setCell (p:=⟨q,8,none⟩) hq _).setCell (p:=⟨q,9,none⟩) hq _).setCell (p:=⟨q,10,none⟩) hq _)
theorem WA {fn:Func} {p t:Tmp} {R:Ending->World->Prop} {a:Act} {w:World} {g:Nat} (m:RQ) (h:fn.results=#[.cell p 41,.tmp t]) (hp:a.tmps.getD p undef = .pointer (some ⟨g,0,none⟩)) (hd:a.defers=[])
  (hg:Blk w g 41 m.cells) (hR:R (.returned (.tuple #[m.val,a.tmps.getD t undef])) w):bodyPost Tryz.prog fn R .ret a w:=
 LK m.cells.toArray h hp hd hg Tryz.underlying41 rfl (by unfold RQ.cells;kernel_rfl) hR
def ZU (m:RQ) (w:World):Prop:=∀a,m.mA=some a->∀i,i<m.modes.length->w.frozen? (a.add i)=false
theorem ZU.onlyL {w w':World} {m:RQ} {L:List Nat} (h:ZU m w) (ho:m.ok w) (hb:Only L w w') (hL: ∀a,m.mA=some a->0<m.modes.length->a.block∉L):ZU m w':=by
 intro a ha i hi;obtain⟨b,off,e,hlt,_⟩:=ho.modes (by omega);rw[ha] at e;injection e with e;refine(World.frozen?_of_block (w:=w) ?_).trans (h a ha i hi);rw[IA];exact hb.block _ (by rw[e];exact hlt) (hL a ha (by omega))
theorem RQ.ok.onlyL {w w':World} {L:List Nat} {m:RQ} (h:m.ok w) (hb:Only L w w') (hn: ∀a,m.mA=some a->0<m.modes.length->a.block∉L):m.ok w':=
 { h with modes:=RdG.onlyL h.modes hb hn }
def RDecPost (w:World) (s:ByteArray) (l:List Int):Ending->World->Prop:=fun e w'=>Only [] w w'/\∃(m:RQ) (E:Int),e = .returned (.tuple #[m.val,.int .i64 E])/\m.ok w'/\(∀a,m.mA=some a->w.heap.size<=a.block)/\ZU m w'/\LQ s l m E
theorem UF (B:Nat): ∀a,BV.mA=some a->B<=a.block:=fun a ha=>by simp[BV] at ha
theorem QV (w:World):ZU BV w:=fun a ha=>by simp[BV] at ha
structure PutOk (w : World) (B : Nat) (m : RQ) : Prop where
  ok : m.ok w
  new : ∀ a, m.mA = some a -> B <= a.block
  soft : ZU m w
theorem put_ok {w:World} {B:Nat} {fs:List FD} (k:Nat) (h1:1<=k) (h2:k<=10) (hk:fs.map (fun f=>f.pf.kind)=CQ k) (hm: ∀f∈fs,FD.mine w f B) (hn: ∀f∈fs,U32 f.n/\InB f.text):PutOk w B (putR (IE k) k fs):=by
 have z0:PutOk w B (IE k):=⟨firstR_ok w k,fun a ha=>by simp[IE,BV] at ha,fun a ha=>by simp[IE,BV] at ha⟩;have hs: ∀f∈fs,(strOfNums f.text).size<=maxLen:=fun f hf=>by rw[str_size];exact Nat.le_trans (hm f hf).ok.tle (hm f hf).ok.tmax
 have z:U32 0:=⟨by decide,by decide⟩;rcases k10 h1 h2 with rfl|rfl|rfl|rfl|rfl|rfl|rfl|rfl|rfl|rfl
 ·obtain⟨x1,x2,x3,x4,x5,x6,rfl,_⟩:=ks6 hk;exact⟨{ z0.ok with text:=hs x1 (by simp),nums:=⟨(hn x2 (by simp)).1,(hn x3 (by simp)).1,(hn x4 (by simp)).1,(hn x5 (by simp)).1,z⟩,modes:=(hm x6 (by simp)).ok.text,mle:=(hm x6 (by simp)).ok.tle,mmax:=(hm x6 (by simp)).ok.tmax,bytes:=(hn x6 (by simp)).2 },(hm x6 (by simp)).new.1,(hm x6 (by simp)).soft⟩
 ·obtain⟨x1,x2,rfl,_⟩:=ks2 hk;exact⟨{ z0.ok with text:=hs x1 (by simp),value:=hs x2 (by simp) },z0.new,z0.soft⟩
 ·exact z0
 ·obtain⟨x1,rfl,_⟩:=ks1 hk;exact⟨{ z0.ok with text:=hs x1 (by simp) },z0.new,z0.soft⟩
 ·obtain⟨x1,rfl,_⟩:=ks1 hk;exact⟨{ z0.ok with text:=hs x1 (by simp) },z0.new,z0.soft⟩
 ·obtain⟨x1,x2,x3,x4,rfl,_⟩:=ks4 hk;exact⟨{ z0.ok with nums:=⟨(hn x1 (by simp)).1,(hn x2 (by simp)).1,(hn x3 (by simp)).1,(hn x4 (by simp)).1,z⟩ },z0.new,z0.soft⟩
 ·obtain⟨x1,rfl,_⟩:=ks1 hk;exact⟨{ z0.ok with },z0.new,z0.soft⟩
 ·obtain⟨x1,rfl,_⟩:=ks1 hk;exact⟨{ z0.ok with text:=hs x1 (by simp) },z0.new,z0.soft⟩
 ·obtain⟨x1,rfl,_⟩:=ks1 hk;exact⟨{ z0.ok with nums:=⟨z,z,z,z,(hn x1 (by simp)).1⟩ },z0.new,z0.soft⟩
 ·obtain⟨x1,x2,x3,x4,rfl,_⟩:=ks4 hk;exact⟨{ z0.ok with text:=hs x1 (by simp),value:=hs x3 (by simp),lang:=hs x4 (by simp) },z0.new,z0.soft⟩
theorem str_ne {x y:ByteArray} (h: ¬x=y):(x.toList==y.toList)=false:=by
 rw[beq_eq_false_iff_ne];intro e;rw[ByteArray.toList_eq,ByteArray.toList_eq] at e;exact h (LX e)
theorem gX (q:Nat) (w:World):(Instr.index 251 (.agg (SO q)) (.int .i64 ((0:Nat):Int))).run Tryz.prog w = .ok (.agg #[.string ⟨#[]⟩,.slice none 0 0,.nilFunc,.nilFunc,.nilFunc]) w:=by kernel_rfl
theorem kinds_len (k:Nat):(CQ k).length<=6:=by unfold CQ;split<;>decide
theorem decR_none {s:ByteArray} (l:List Int) (h: ∀j,1<=j->j<11->JD j≠s):LQ s l BV 8:=by
 unfold LQ;cases hk:aN s.data.toList with
 |none=>exact⟨rfl,rfl⟩
 |some k=>
  obtain⟨h1,h2,e⟩:=UN hk;exact absurd (LX (by rw[YC,e])) (h k h1 (by omega))
theorem TB {k:Nat} (h1:1<=k) (h2:k<=10) {l:List Int} {m:RQ} {E:Int} (h:DecK k l m E):LQ (JD k) l m E:=by
 unfold LQ;rw[YC,jW k h1 h2];exact h
theorem SH (s:ByteArray) (A:Option Addr) (l:List Int) (c:Nat) (i0:Int) (w:World) (hm:w.cell? ⟨0,0,none⟩=some (.int .i64 i0)) (h:Rd w A l) (hl: ∀x∈l,0<=x/\x<256) (hln:l.length<=140737488355000) (hlc:l.length<=c) (hlm:c<=maxLen) (hal: ∀a,A=some a->0<l.length->a.block<w.heap.size) :
  Calls Tryz.prog 144 #[.string s,.slice A l.length c] w (RDecPost w s l):=by
 obtain⟨ln,hn⟩:=qX l.length;have h0:0<w.heap.size:=Nat.pos_of_ne_zero (fun e=>by
  have:=block_lt_of_cell hm;simp only at this;omega)
 obtain⟨w1,hw1⟩:=qY (w.alloc (.cells #[.int .i64 0,.string ⟨#[]⟩,.string ⟨#[]⟩,.string ⟨#[]⟩,.int .u32 0,.int .u32 0,.int .u32 0,.int .u32 0,.slice none 0 0,.bool false,.int .u32 0] 41));have P1:Only [] w w1:=by rw[hw1];exact(zR _ _).alloc _
 have K1:Blk w1 w.heap.size 41 BV.cells:=by rw[hw1];exact Blk.new w _ _
 have RU:=bO w1;obtain⟨tb,htb⟩:=qX (SO w1.heap.size);have hix:=fun k h1 h2 w'=>YF w1.heap.size k h1 h2 w';have hix0:=fun w'=>gX w1.heap.size w';rw[htb] at RU hix0;replace hix: ∀k:Nat,1<=k->k<=10->∀w',(Instr.index 251 (.agg tb) (.int .i64 (k:Int))).run Tryz.prog w' = .ok (VB k (PP w1.heap.size k)) w':=fun k h1 h2 w'=>by rw[<-htb];exact hix k h1 h2 w'
 rw[hn] at hln hlc⊢;replace hn:=AB hn;replace htb:=AB htb;replace hix:=AB hix;replace hix0:=AB hix0;go_enter Tryz.func144,Tryz.ntmps144
 go_wp2_with fail
 rw[<-hw1];replace hw1:=AB hw1;go_call RU as e w2 ⟨rfl,P2,z2,R2⟩
 clear RU;replace z2:=AB z2;have K2:=K1.only P2 (by simp);have O2:Only [] w w2:=P1.trans P2 (by simp);replace R2:=AB R2;go_wp2_with fail
 go_loopw [13] (fun ii wr=>∃i:Nat,i<=11/\ii = .int .i64 i/\Hid (∀j,1<=j->j<i->JD j≠s)/\Only [] w2 wr) (fun ii _=>11-(intOf ii).toNat)
 case atStart=>exact⟨0,by omega,rfl,AB (fun j h1 h2=>by omega),zR _ _⟩
 case round=>
  obtain⟨wo,rfl⟩: ∃wo:World,wo=wr:=⟨_,rfl⟩;obtain⟨i,hi,rfl,hne,O⟩:=hrel;by_cases hlt:i<11
  ·by_cases hi0:i=0
   ·have hx: ∀w',(Instr.index 251 (.agg tb) (.int .i64 (i:Int))).run Tryz.prog w' = .ok (.agg #[.string ⟨#[]⟩,.slice none 0 0,.nilFunc,.nilFunc,.nilFunc]) w':=fun w'=>by rw[hi0];exact hix0.out w'
    have ib:((i:Int)==0)=true:=by simp[hi0]
    have hle:i<=0:=by omega
    clear hi0;go_wp2_with fail
    go_roundw
    case rel=>exact⟨i+1,by omega,by go_num,AB (fun j h1 h2=>by omega),O.alloc _⟩
    case measure=>simp[intOf];omega
   ·have h1:1<=i:=by omega
    have h2:i<=10:=by omega
    have hx:=hix.out i h1 h2;have RKi:=R2.out i h1 h2;obtain⟨KA,hKA⟩:=qX (PP w1.heap.size i);rw[hKA] at hx RKi;unfold VB rfn at hx;obtain⟨F2,hF2,cF2,C2⟩:=rput_any i h1 h2;obtain⟨F3,hF3,cF3,C3⟩:=ask_any i h1 h2;obtain⟨F1,hF1⟩: ∃F,rget i=F:=⟨_,rfl⟩;obtain⟨n,hnk⟩:=qX ((CQ i).length);obtain⟨nm,hnm⟩:=qX (JD i);rw[hF1,hF2,hF3,hnk,hnm] at hx;have ib:((i:Int)==0)=false:=by simp;omega
    replace hKA:=AB hKA;replace hF1:=AB hF1;replace hF2:=AB hF2;replace hF3:=AB hF3;replace C2:=AB C2;replace C3:=AB C3;by_cases hnn:nm=s
    ·have s1:(nm.toList==s.toList)=true:=by rw[hnn];simp
     have hsn:s=JD i:=by rw[<-hnn,<-hnm]
     replace hsn:=AB hsn;replace hnn:=AB hnn;replace hnm:=AB hnm;have B3:Blk (wo.alloc (.cells #[.string nm,.slice KA n n,.func (Fn.func F1) #[] #[],.func (Fn.func F2) #[] #[],.func (Fn.func F3) #[] #[]] 212)) wo.heap.size 212 [.string nm,.slice KA n n,.func (Fn.func F1) #[] #[],.func (Fn.func F2) #[] #[],.func (Fn.func F3) #[] #[]]:=Blk.new _ _ _;have P3:Only [] wo (wo.alloc (.cells #[.string nm,.slice KA n n,.func (Fn.func F1) #[] #[],.func (Fn.func F2) #[] #[],.func (Fn.func F3) #[] #[]] 212)):=(zR _ _).alloc _;obtain⟨w3,hw3⟩:=qY (wo.alloc (.cells #[.string nm,.slice KA n n,.func (Fn.func F1) #[] #[],.func (Fn.func F2) #[] #[],.func (Fn.func F3) #[] #[]] 212));rw[<-hw3] at B3 P3;have OO:Only [] w wo:=O2.trans O (by simp);have O3:Only [] w w3:=OO.trans P3 (by simp);have z3:=O3.size;have RD:=bK w3 KA A (CQ i) l n c i0 (BJ O3 h0 (by simp) hm) ((RKi.only O).only P3) (h.only O3) hl (by have:=kinds_len i;omega) (by have:=hn.out;omega) (by have:=hn.out;omega) hlm (fun a ha h0=>by have:=hal a ha h0;omega);obtain⟨⟨E,ps⟩,hres⟩: ∃r,AR (CQ i) l=r:=⟨_,rfl⟩;rw[hnk,hn.out,hres] at RD;have hgood:=XZ (CQ i) l hl;rw[hres] at hgood;have K3:=(K2.only O (by simp)).only P3 (by simp);replace hnk:=AB hnk;replace hres:=AB hres;replace hgood:=AB hgood;go_wp2_with fail
     rw[<-hw3];replace hw3:=AB hw3;go_call RD as e w4 ⟨P4,Af,cf,fs,rfl,hfs,V4,H4⟩
     clear RD;(try dsimp only at hfs)
     have K4:=K3.only P4 (by simp);have O4:=O3.trans P4 (by simp);have B4:=B3.only P4 (by simp);have x3:=B4.cell 3;simp only[List.getElem?_cons_zero,List.getElem?_cons_succ] at x3;(try dsimp only)
     by_cases hE:E=0
     ·obtain⟨hg1,hg2⟩:=hgood.out hE;(try dsimp only at hg1 hg2)
      have hk:fs.map (fun f=>f.pf.kind)=CQ i:=by rw[<-hg1,<-hfs,List.map_map];rfl
      have hfl:fs.length=n:=by rw[<-hnk.out,<-hk,List.length_map]
      have hff: ∀f∈fs,U32 f.n/\InB f.text:=fun f hf=>hg2 f.pf (by rw[<-hfs];exact List.mem_map_of_mem hf);have RF:RdF w4 Af fs:=V4.rdF (fun f hf=>⟨(H4 f hf).1.ok,(hff f hf).1⟩);obtain⟨_,_,e1,hcf,hcm,_⟩:=V4.form;have e2:=(Value.slice.inj e1).2.2;rw[<-e2] at hcf hcm;clear e1 e2;have PM:=put_ok i h1 h2 hk (fun f hf=>(H4 f hf).1) hff;have P5:Only [] w4 (w4.alloc (.cells #[.int .i64 (i:Int),.string ⟨#[]⟩,.string ⟨#[]⟩,.string ⟨#[]⟩,.int .u32 0,.int .u32 0,.int .u32 0,.int .u32 0,.slice none 0 0,.bool false,.int .u32 0] 217)):=(zR _ _).alloc _;have K5:Blk (w4.alloc (.cells #[.int .i64 (i:Int),.string ⟨#[]⟩,.string ⟨#[]⟩,.string ⟨#[]⟩,.int .u32 0,.int .u32 0,.int .u32 0,.int .u32 0,.slice none 0 0,.bool false,.int .u32 0] 217)) w4.heap.size 217 (IE i).cells:=Blk.new _ _ _;have B5:=B4.only P5 (by simp);obtain⟨w5,hw5⟩:=qY (w4.alloc (.cells #[.int .i64 (i:Int),.string ⟨#[]⟩,.string ⟨#[]⟩,.string ⟨#[]⟩,.int .u32 0,.int .u32 0,.int .u32 0,.int .u32 0,.slice none 0 0,.bool false,.int .u32 0] 217));rw[<-hw5] at P5 K5 B5;have CZ:=C2.out (IE i) w4.heap.size w4 w5 Af fs n cf hfl hk (by omega) hcm RF P5 (qL _) K5;obtain⟨M,hM⟩:=qX (putR (IE i) i fs);rw[hM] at CZ PM;rw[hfl];have hE2:(E !=0)=false:=by simpa using hE
      have hB4l:=B4.lt;have hne4: ¬wo.heap.size=w4.heap.size:=by omega
      have x3':=B5.cell 3;simp only[List.getElem?_cons_zero,List.getElem?_cons_succ] at x3';replace hE:=AB hE;replace hfl:=AB hfl;replace hk:=AB hk;replace hfs:=AB hfs;replace hg1:=AB hg1;replace hM:=AB hM;clear hff hg2 V4 H4;go_wp2_with fail
      rw[<-hw5];replace hw5:=AB hw5;go_call CZ as e w6 ⟨rfl,P6,K6⟩
      clear CZ x3 x3';have B6:=B5.only P6 (by simp;omega);have x4:=B6.cell 4;simp only[List.getElem?_cons_zero,List.getElem?_cons_succ] at x4;have P46:Only [w4.heap.size] w4 w6:=(P5.mono (fun x hx=>by simp at hx)).trans P6 (fun x hx=>.inl hx);have hMb: ∀a,M.mA=some a->0<M.modes.length->a.block∉[w4.heap.size]:=fun a ha h0=>by
       have:=RdG.lt (mk:=.int .u8) PM.ok.modes h0 a ha;simp;omega
      have Mok:=PM.ok.onlyL P46 hMb;have Mso:=PM.soft.onlyL PM.ok P46 hMb;have CA:=C3.out w6 M _ K6 Mok;obtain⟨E2,hE2x⟩:=qX (NO M i);rw[hE2x] at CA;replace hE2x:=AB hE2x;go_wp2_with fail
      go_call CA as e w7 ⟨rfl,P7⟩
      clear CA x4;have O7:Only [] w w7:=(O4.trans P46 (fun x hx=>.inr (by simp at hx;have:=O4.size;omega))).trans P7 (by simp);have K7:=(K4.only P46 (by have:=K4.lt;have:=K1.lt;simp;omega)).only P7 (by simp);have KM:=K6.only P7 (by simp);have Mok7:=Mok.only P7;have Mso7:=Mso.onlyL Mok P7 (by simp);have g0:w7.cell? ⟨w.heap.size,0,none⟩=some (.int .i64 0):=K7.cell 0;have f0:=K7.frozen 0;have g1:w7.cell? ⟨w.heap.size,1,none⟩=some (.string ⟨#[]⟩):=K7.cell 1;have f1:=K7.frozen 1;have g2:w7.cell? ⟨w.heap.size,2,none⟩=some (.string ⟨#[]⟩):=K7.cell 2;have f2:=K7.frozen 2;have g3:w7.cell? ⟨w.heap.size,3,none⟩=some (.string ⟨#[]⟩):=K7.cell 3;have f3:=K7.frozen 3;have g4:w7.cell? ⟨w.heap.size,4,none⟩=some (.int .u32 0):=K7.cell 4;have f4:=K7.frozen 4;have g5:w7.cell? ⟨w.heap.size,5,none⟩=some (.int .u32 0):=K7.cell 5;have f5:=K7.frozen 5;have g6:w7.cell? ⟨w.heap.size,6,none⟩=some (.int .u32 0):=K7.cell 6;have f6:=K7.frozen 6;have g7:w7.cell? ⟨w.heap.size,7,none⟩=some (.int .u32 0):=K7.cell 7;have f7:=K7.frozen 7;have g8:w7.cell? ⟨w.heap.size,8,none⟩=some (.slice none 0 0):=K7.cell 8;have f8:=K7.frozen 8;have g9:w7.cell? ⟨w.heap.size,9,none⟩=some (.bool false):=K7.cell 9;have f9:=K7.frozen 9;have g10:w7.cell? ⟨w.heap.size,10,none⟩=some (.int .u32 0):=K7.cell 10;have f10:=K7.frozen 10;by_cases hz:E2=0
      ·have hzb:(E2 !=0)=false:=by simpa using hz
       have hD:LQ s l M 0:=by
        rw[hsn.out];refine TB h1 h2 ?_;unfold DecK;rw[hres.out,if_neg (by simpa using hE.out)];refine⟨fs,hfs.out,?_⟩;rw[hM.out,hE2x.out,if_pos hz];exact⟨rfl,rfl⟩
       replace hz:=AB hz;have b0:w7.cell? ⟨w4.heap.size,0,none⟩=some (.int .i64 M.kind):=KM.cell 0;have b1:w7.cell? ⟨w4.heap.size,1,none⟩=some (.string M.text):=KM.cell 1;have b2:w7.cell? ⟨w4.heap.size,2,none⟩=some (.string M.value):=KM.cell 2;have b3:w7.cell? ⟨w4.heap.size,3,none⟩=some (.string M.lang):=KM.cell 3;have b4:w7.cell? ⟨w4.heap.size,4,none⟩=some (.int .u32 M.cols):=KM.cell 4;have b5:w7.cell? ⟨w4.heap.size,5,none⟩=some (.int .u32 M.rows):=KM.cell 5;have b6:w7.cell? ⟨w4.heap.size,6,none⟩=some (.int .u32 M.width):=KM.cell 6;have b7:w7.cell? ⟨w4.heap.size,7,none⟩=some (.int .u32 M.height):=KM.cell 7;have b8:w7.cell? ⟨w4.heap.size,8,none⟩=some (.slice M.mA M.modes.length M.mc):=KM.cell 8;have b9:w7.cell? ⟨w4.heap.size,9,none⟩=some (.bool M.on):=KM.cell 9;have b10:w7.cell? ⟨w4.heap.size,10,none⟩=some (.int .u32 M.code):=KM.cell 10;go_wp2_with fail
       (try simp only[Exit.inBlock,Exit.then])
       refine WA (g:=w.heap.size) M rfl (by rfl) (by rfl) (rsetB M K7) ?_;have hx:=rsetO M (L:=[w.heap.size]) (w0:=w7) (w:=w7) (q:=w.heap.size) (.inl (by simp)) (zR _ _);have hno: ∀a,M.mA=some a->0<M.modes.length->a.block∉[w.heap.size]:=fun a ha h0=>by
        have:=PM.new a ha;have:=K3.lt;simp;omega
       exact⟨rsetO M (.inr (qL _)) O7,M,0,rfl,Mok7.onlyL hx hno,fun a ha=>by have:=PM.new a ha;omega,Mso7.onlyL Mok7 hx hno,hD⟩
      ·have hzb:(E2 !=0)=true:=by simpa using hz
       have hD:LQ s l BV E2:=by
        rw[hsn.out];refine TB h1 h2 ?_;unfold DecK;rw[hres.out,if_neg (by simpa using hE.out)];refine⟨fs,hfs.out,?_⟩;rw[hM.out,hE2x.out,if_neg hz];exact⟨rfl,rfl⟩
       replace hz:=AB hz;go_wp2_with fail
       (try simp only[Exit.inBlock,Exit.then])
       refine WA (g:=w.heap.size) BV rfl (by rfl) (by rfl) (rsetB BV K7) ?_;exact⟨rsetO BV (.inr (qL _)) O7,BV,E2,rfl,SW _,UF _,QV _,hD⟩
     ·have hzb:(E !=0)=true:=by simpa using hE
      have hD:LQ s l BV E:=by
       rw[hsn.out];refine TB h1 h2 ?_;unfold DecK;rw[hres.out,if_pos hE];exact⟨rfl,rfl⟩
      replace hE:=AB hE;replace hfs:=AB hfs;have g0:w4.cell? ⟨w.heap.size,0,none⟩=some (.int .i64 0):=K4.cell 0;have f0:=K4.frozen 0;have g1:w4.cell? ⟨w.heap.size,1,none⟩=some (.string ⟨#[]⟩):=K4.cell 1;have f1:=K4.frozen 1;have g2:w4.cell? ⟨w.heap.size,2,none⟩=some (.string ⟨#[]⟩):=K4.cell 2;have f2:=K4.frozen 2;have g3:w4.cell? ⟨w.heap.size,3,none⟩=some (.string ⟨#[]⟩):=K4.cell 3;have f3:=K4.frozen 3;have g4:w4.cell? ⟨w.heap.size,4,none⟩=some (.int .u32 0):=K4.cell 4;have f4:=K4.frozen 4;have g5:w4.cell? ⟨w.heap.size,5,none⟩=some (.int .u32 0):=K4.cell 5;have f5:=K4.frozen 5;have g6:w4.cell? ⟨w.heap.size,6,none⟩=some (.int .u32 0):=K4.cell 6;have f6:=K4.frozen 6;have g7:w4.cell? ⟨w.heap.size,7,none⟩=some (.int .u32 0):=K4.cell 7;have f7:=K4.frozen 7;have g8:w4.cell? ⟨w.heap.size,8,none⟩=some (.slice none 0 0):=K4.cell 8;have f8:=K4.frozen 8;have g9:w4.cell? ⟨w.heap.size,9,none⟩=some (.bool false):=K4.cell 9;have f9:=K4.frozen 9;have g10:w4.cell? ⟨w.heap.size,10,none⟩=some (.int .u32 0):=K4.cell 10;have f10:=K4.frozen 10;go_wp2_with fail
      (try simp only[Exit.inBlock,Exit.then])
      refine WA (g:=w.heap.size) BV rfl (by rfl) (by rfl) (rsetB BV K4) ?_;exact⟨rsetO BV (.inr (qL _)) O4,BV,E,rfl,SW _,UF _,QV _,hD⟩
    ·have s1:(nm.toList==s.toList)=false:=str_ne hnn;have hne2: ∀j,1<=j->j<i+1->JD j≠s:=fun j h1 h2=>by
      by_cases hj:j=i
      ·rw[hj,hnm];exact hnn
      ·exact hne.out j h1 (by omega)
     replace hne2:=AB hne2;replace hnm:=AB hnm;replace hnn:=AB hnn;go_wp2_with fail
     go_roundw
     case rel=>exact⟨i+1,by omega,by go_num,hne2,O.alloc _⟩
     case measure=>simp[intOf];omega
  ·obtain rfl:i=11:=by omega
   have hD:=decR_none l hne.out;have KO:=K2.only O (by simp);have g0:wo.cell? ⟨w.heap.size,0,none⟩=some (.int .i64 0):=KO.cell 0;have f0:=KO.frozen 0;have g1:wo.cell? ⟨w.heap.size,1,none⟩=some (.string ⟨#[]⟩):=KO.cell 1;have f1:=KO.frozen 1;have g2:wo.cell? ⟨w.heap.size,2,none⟩=some (.string ⟨#[]⟩):=KO.cell 2;have f2:=KO.frozen 2;have g3:wo.cell? ⟨w.heap.size,3,none⟩=some (.string ⟨#[]⟩):=KO.cell 3;have f3:=KO.frozen 3;have g4:wo.cell? ⟨w.heap.size,4,none⟩=some (.int .u32 0):=KO.cell 4;have f4:=KO.frozen 4;have g5:wo.cell? ⟨w.heap.size,5,none⟩=some (.int .u32 0):=KO.cell 5;have f5:=KO.frozen 5;have g6:wo.cell? ⟨w.heap.size,6,none⟩=some (.int .u32 0):=KO.cell 6;have f6:=KO.frozen 6;have g7:wo.cell? ⟨w.heap.size,7,none⟩=some (.int .u32 0):=KO.cell 7;have f7:=KO.frozen 7;have g8:wo.cell? ⟨w.heap.size,8,none⟩=some (.slice none 0 0):=KO.cell 8;have f8:=KO.frozen 8;have g9:wo.cell? ⟨w.heap.size,9,none⟩=some (.bool false):=KO.cell 9;have f9:=KO.frozen 9;have g10:wo.cell? ⟨w.heap.size,10,none⟩=some (.int .u32 0):=KO.cell 10;have f10:=KO.frozen 10;go_wp2_with fail
   (try simp only[Exit.inBlock,Exit.then])
   refine WA (g:=w.heap.size) BV rfl (by rfl) (by rfl) (rsetB BV KO) ?_;exact⟨rsetO BV (.inr (qL _)) (O2.trans O (by simp)),BV,8,rfl,SW _,UF _,QV _,hD⟩
end Go.Proofs.YtfbhemmpobgdpaaGreatDoor
