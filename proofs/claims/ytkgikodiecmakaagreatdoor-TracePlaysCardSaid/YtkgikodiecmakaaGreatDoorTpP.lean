/- TracePlays: lemmas, from 'The document's answer for layer 4: Decode of kinds 3, 4, of ' on; what each asks for stands in it. -/
import Derived.Test.YtkgikodiecmakaaGreatDoorTpO
set_option linter.all false
set_option maxRecDepth 100000
set_option maxHeartbeats 64000000
namespace Go.Proofs.YtkgikodiecmakaaGreatDoor
open Go.RowKit
theorem aY (s:ByteArray) (hno: ∀j,1≤j→j<11→AR j≠s) (A:Option Addr) (l:List Int) (c:Nat) (w:World) (h:Rd w A l) (hl:InB l) (hln:l.length≤140737488355000) (hlc:l.length≤c) (hlm:c≤maxLen) :
  Calls Tryz.prog 23 #[.string s,.slice A l.length c] w (CK w s l):=by
 obtain⟨ln,hn⟩: ∃ln,l.length=ln:=⟨_,rfl⟩;rw[hn] at hln hlc⊢;replace hn:=AB hn;have hDz:=VN l hno;replace hDz:=AB hDz;replace hno:=AB hno;obtain⟨w2,hw2⟩: ∃w2,w2=(w.alloc (.cells #[.int .i64 0,.string ⟨#[]⟩,.string ⟨#[]⟩,.string ⟨#[]⟩,.int .u32 0,.int .u32 0,.int .u32 0,.int .u32 0,.slice none 0 0,.bool false,.int .u32 0] 70)).alloc (.cells #[.int .i64 0,.string ⟨#[]⟩,.string ⟨#[]⟩,.string ⟨#[]⟩,.int .u32 0,.int .u32 0,.int .u32 0,.int .u32 0,.slice none 0 0,.bool false,.int .u32 0] 70):=⟨_,rfl⟩;have P2:Only [] w w2:=by rw[hw2];exact((Only.refl _ _).alloc _).alloc _
 have G2:Blk w2 w.heap.size 70 AI.cells:=by rw[hw2];exact(Blk.new w _ _).alloc _
 have R2:Blk w2 (w.heap.size+1) 70 (BU (CO 11 1)):=by
  rw[hw2];have:=Blk.new (w.alloc (.cells #[.int .i64 0,.string ⟨#[]⟩,.string ⟨#[]⟩,.string ⟨#[]⟩,.int .u32 0,.int .u32 0,.int .u32 0,.int .u32 0,.slice none 0 0,.bool false,.int .u32 0] 70)) 70 [.int .i64 0,.string ⟨#[]⟩,.string ⟨#[]⟩,.string ⟨#[]⟩,.int .u32 0,.int .u32 0,.int .u32 0,.int .u32 0,.slice none 0 0,.bool false,.int .u32 0];rwa[show(w.alloc (.cells #[.int .i64 0,.string ⟨#[]⟩,.string ⟨#[]⟩,.string ⟨#[]⟩,.int .u32 0,.int .u32 0,.int .u32 0,.int .u32 0,.slice none 0 0,.bool false,.int .u32 0] 70)).heap.size=w.heap.size+1 by simp] at this
 go_enter Tryz.func23,Tryz.ntmps23
 go_wp2_with fail
 rw[←hw2];replace hw2:=AB hw2;go_loopw [7] (fun ii wr=>∃i:Nat,1≤i∧i≤11∧ii = .int .i64 i∧Blk wr (w.heap.size+1) 70 (BU (CO 11 i))∧Only [w.heap.size+1] w2 wr) (fun ii _=>11-(intOf ii).toNat)
 case atStart=>exact⟨1,by omega,by omega,rfl,R2,Only.refl _ _⟩
 case round=>
  obtain⟨wo,rfl⟩: ∃wo:World,wo=wr:=⟨_,rfl⟩;obtain⟨i,hi1,hi,rfl,R,O⟩:=hrel;by_cases hlt:i≤10
  ·have NA:=CJ i hi1 hlt wo;obtain⟨nm,hnm⟩: ∃nm,AR i=nm:=⟨_,rfl⟩;rw[hnm] at NA
   ·have s1:(nm.toList==s.toList)=false:=IE (fun e=>hno.out i hi1 (by omega) (hnm.trans e));have hkd:=ED (show i≠11 by omega);rw[←hkd] at R;replace hnm:=AB hnm;replace hkd:=AB hkd;go_wp2_with fail
    go_call NA as e w3 ⟨rfl,rfl⟩
    go_wp2_with fail
    go_roundw
    case rel=>exact⟨i+1,by omega,by omega,by go_num,R,O⟩
    case measure=>simp[intOf];omega
  ·obtain rfl:i=11:=by omega
   have G:=G2.only O (by simp);have OO:Only [] w wo:=P2.trans O (fun x hx=>.inr (by simp at hx;omega));replace R:Blk wo (w.heap.size+1) 70 (BU 0):=R;have b0:wo.cell? ⟨w.heap.size+1,0,none⟩=some (.int .i64 0):=R.cell 0;have g0:wo.cell? ⟨w.heap.size,0,none⟩=some (.int .i64 0):=G.cell 0;have f0:=G.frozen 0;have g1:wo.cell? ⟨w.heap.size,1,none⟩=some (.string ⟨#[]⟩):=G.cell 1;have f1:=G.frozen 1;have g2:wo.cell? ⟨w.heap.size,2,none⟩=some (.string ⟨#[]⟩):=G.cell 2;have f2:=G.frozen 2;have g3:wo.cell? ⟨w.heap.size,3,none⟩=some (.string ⟨#[]⟩):=G.cell 3;have f3:=G.frozen 3;have g4:wo.cell? ⟨w.heap.size,4,none⟩=some (.int .u32 0):=G.cell 4;have f4:=G.frozen 4;have g5:wo.cell? ⟨w.heap.size,5,none⟩=some (.int .u32 0):=G.cell 5;have f5:=G.frozen 5;have g6:wo.cell? ⟨w.heap.size,6,none⟩=some (.int .u32 0):=G.cell 6;have f6:=G.frozen 6;have g7:wo.cell? ⟨w.heap.size,7,none⟩=some (.int .u32 0):=G.cell 7;have f7:=G.frozen 7;have g8:wo.cell? ⟨w.heap.size,8,none⟩=some (.slice none 0 0):=G.cell 8;have f8:=G.frozen 8;have g9:wo.cell? ⟨w.heap.size,9,none⟩=some (.bool false):=G.cell 9;have f9:=G.frozen 9;have g10:wo.cell? ⟨w.heap.size,10,none⟩=some (.int .u32 0):=G.cell 10;have f10:=G.frozen 10;go_wp2_with fail
   (try simp only[Exit.inBlock,Exit.then])
   refine BD (g:=w.heap.size) AI rfl (by rfl) (by rfl) (CS AI G) ?_;exact⟨BX AI (.inr (Nat.le_refl _)) OO,AI,8,rfl,BL _,hDz.out,fun a ha=>by simp[AI] at ha⟩
theorem refdec_k3 (A:Option Addr) (l:List Int) (c:Nat) (w:World) (h:Rd w A l) (hl:InB l) (hln:l.length≤140737488355000) (hlc:l.length≤c) (hlm:c≤maxLen) :
  Calls Tryz.prog 23 #[.string (AR 3),.slice A l.length c] w (CK w (AR 3) l):=by
 obtain⟨ln,hn⟩: ∃ln,l.length=ln:=⟨_,rfl⟩;rw[hn] at hln hlc⊢;replace hn:=AB hn;obtain⟨s,hs⟩: ∃s,AR 3=s:=⟨_,rfl⟩;rw[hs];replace hs:=AB hs;obtain⟨w2,hw2⟩: ∃w2,w2=(w.alloc (.cells #[.int .i64 0,.string ⟨#[]⟩,.string ⟨#[]⟩,.string ⟨#[]⟩,.int .u32 0,.int .u32 0,.int .u32 0,.int .u32 0,.slice none 0 0,.bool false,.int .u32 0] 70)).alloc (.cells #[.int .i64 0,.string ⟨#[]⟩,.string ⟨#[]⟩,.string ⟨#[]⟩,.int .u32 0,.int .u32 0,.int .u32 0,.int .u32 0,.slice none 0 0,.bool false,.int .u32 0] 70):=⟨_,rfl⟩;have P2:Only [] w w2:=by rw[hw2];exact((Only.refl _ _).alloc _).alloc _
 have G2:Blk w2 w.heap.size 70 AI.cells:=by rw[hw2];exact(Blk.new w _ _).alloc _
 have R2:Blk w2 (w.heap.size+1) 70 (BU (CO 3 1)):=by
  rw[hw2];have:=Blk.new (w.alloc (.cells #[.int .i64 0,.string ⟨#[]⟩,.string ⟨#[]⟩,.string ⟨#[]⟩,.int .u32 0,.int .u32 0,.int .u32 0,.int .u32 0,.slice none 0 0,.bool false,.int .u32 0] 70)) 70 [.int .i64 0,.string ⟨#[]⟩,.string ⟨#[]⟩,.string ⟨#[]⟩,.int .u32 0,.int .u32 0,.int .u32 0,.int .u32 0,.slice none 0 0,.bool false,.int .u32 0];rwa[show(w.alloc (.cells #[.int .i64 0,.string ⟨#[]⟩,.string ⟨#[]⟩,.string ⟨#[]⟩,.int .u32 0,.int .u32 0,.int .u32 0,.int .u32 0,.slice none 0 0,.bool false,.int .u32 0] 70)).heap.size=w.heap.size+1 by simp] at this
 go_enter Tryz.func23,Tryz.ntmps23
 go_wp2_with fail
 rw[←hw2];replace hw2:=AB hw2;go_loopw [7] (fun ii wr=>∃i:Nat,1≤i∧i≤11∧ii = .int .i64 i∧Blk wr (w.heap.size+1) 70 (BU (CO 3 i))∧Only [w.heap.size+1] w2 wr) (fun ii _=>11-(intOf ii).toNat)
 case atStart=>exact⟨1,by omega,by omega,rfl,R2,Only.refl _ _⟩
 case round=>
  obtain⟨wo,rfl⟩: ∃wo:World,wo=wr:=⟨_,rfl⟩;obtain⟨i,hi1,hi,rfl,R,O⟩:=hrel;by_cases hlt:i≤10
  ·have NA:=CJ i hi1 hlt wo;obtain⟨nm,hnm⟩: ∃nm,AR i=nm:=⟨_,rfl⟩;rw[hnm] at NA;by_cases hik:i=3
   ·have s1:(nm.toList==s.toList)=true:=JO (by rw[←hnm,←hs.out,hik]);have c0:wo.cell? ⟨w.heap.size+1,0,none⟩=some (.int .i64 (CO 3 i)):=R.cell 0;have z0:=R.frozen 0;have R':Blk (wo.setCell ⟨w.heap.size+1,0,none⟩ (.int .i64 (i:Int))) (w.heap.size+1) 70 (BU (CO 3 (i+1))):=by
     have:=R.set_ 0 (.int .i64 (i:Int));rw[DW] at this;rw[show CO 3 (i+1)=(i:Int) by rw[hik];rfl];exact this
    have O':Only [w.heap.size+1] w2 (wo.setCell ⟨w.heap.size+1,0,none⟩ (.int .i64 (i:Int))):=O.setCell (p:=⟨w.heap.size+1,0,none⟩) (.inl (by simp)) _;replace hnm:=AB hnm;replace hik:=AB hik;go_wp2_with fail
    go_call NA as e w3 ⟨rfl,rfl⟩
    go_wp2_with fail
    go_roundw
    case rel=>exact⟨i+1,by omega,by omega,by go_num,R',O'⟩
    case measure=>simp[intOf];omega
   ·have s1:(nm.toList==s.toList)=false:=IE (fun e=>hik (ES hi1 hlt (by decide) (by decide) (by rw[←BB,←BB,hnm,hs.out,e])));have hkd:=ED hik;rw[←hkd] at R;replace hnm:=AB hnm;replace hkd:=AB hkd;go_wp2_with fail
    go_call NA as e w3 ⟨rfl,rfl⟩
    go_wp2_with fail
    go_roundw
    case rel=>exact⟨i+1,by omega,by omega,by go_num,R,O⟩
    case measure=>simp[intOf];omega
  ·obtain rfl:i=11:=by omega
   have G:=G2.only O (by simp);have OO:Only [] w wo:=P2.trans O (fun x hx=>.inr (by simp at hx;omega));replace R:Blk wo (w.heap.size+1) 70 (AL 3).cells:=R;have b0:wo.cell? ⟨w.heap.size+1,0,none⟩=some (.int .i64 3):=R.cell 0;have b1:wo.cell? ⟨w.heap.size+1,1,none⟩=some (.string ⟨#[]⟩):=R.cell 1;have b2:wo.cell? ⟨w.heap.size+1,2,none⟩=some (.string ⟨#[]⟩):=R.cell 2;have b3:wo.cell? ⟨w.heap.size+1,3,none⟩=some (.string ⟨#[]⟩):=R.cell 3;have b4:wo.cell? ⟨w.heap.size+1,4,none⟩=some (.int .u32 0):=R.cell 4;have b5:wo.cell? ⟨w.heap.size+1,5,none⟩=some (.int .u32 0):=R.cell 5;have b6:wo.cell? ⟨w.heap.size+1,6,none⟩=some (.int .u32 0):=R.cell 6;have b7:wo.cell? ⟨w.heap.size+1,7,none⟩=some (.int .u32 0):=R.cell 7;have b8:wo.cell? ⟨w.heap.size+1,8,none⟩=some (.slice none 0 0):=R.cell 8;have b9:wo.cell? ⟨w.heap.size+1,9,none⟩=some (.bool false):=R.cell 9;have b10:wo.cell? ⟨w.heap.size+1,10,none⟩=some (.int .u32 0):=R.cell 10;have FA:Calls Tryz.prog 37 #[.agg #[.int .i64 3,.string ⟨#[]⟩,.string ⟨#[]⟩,.string ⟨#[]⟩,.int .u32 0,.int .u32 0,.int .u32 0,.int .u32 0,.slice none 0 0,.bool false,.int .u32 0]] wo (AZ wo (DM (AL 3) 3)):=CG (AL 3) wo 3 (by decide) (by decide) rfl (DP _ _) (Nat.zero_le _) (Nat.zero_le _) (Nat.zero_le _);go_wp2_with fail
   go_call FA as e w4 ⟨P4,v0,fs,rfl,V4,hp,M4,N4⟩
   clear FA b0 b1 b2 b3 b4 b5 b6 b7 b8 b9 b10;have hkf:fs.map (fun f=>f.pf.kind)=AC 3:=by
    have:=congrArg (List.map PF.kind) hp;rw[List.map_map] at this;exact this.trans (DF _ 3 (by decide) (by decide))
   have hfl:fs.length=0:=DQ hkf;obtain⟨AF,cF,rfl,_,_,_⟩:=V4.form;have RF:=V4.rdF (fun f hf=>⟨(M4 f hf).1,N4 f hf⟩);rw[hfl];have O4:Only [] w w4:=OO.trans P4 (by simp);replace hfl:=AB hfl;replace hp:=AB hp;replace hkf:=AB hkf;clear M4 N4 V4;go_wp2_with fail
   go_loopw [38,10] (fun ii o wr=>∃(i:Nat) (v:Value),i≤0∧ii = .int .i64 i∧v=o∧IW wr w4.heap.size v ((AC 3).take i)∧Only [] w4 wr) (fun ii _ _=>0-(intOf ii).toNat)
   case atStart=>exact⟨0,_,by omega,rfl,rfl,FL _ _,Only.refl _ _⟩
   case round=>
    obtain⟨wp,rfl⟩: ∃wp:World,wp=wr:=⟨_,rfl⟩;obtain⟨j,v,hj,rfl,rfl,V,Op⟩:=hrel;have hob:=V.block;have zo:=Op.size;by_cases hlj:j<0
    ·exact absurd hlj (by omega)
    ·obtain rfl:j=0:=by omega
     rw[show(AC 3).take 0=AC 3 from rfl] at V;obtain⟨Ak,ck,rfl,Rk,hck,hcm,hAk⟩:=V.rd;have O5:Only [] w wp:=O4.trans Op (by simp);have RD:=DS wp Ak A (AC 3) l ck c Rk (h.only O5) hl (by decide) (by have:=hn.out;omega) (by have:=hn.out;omega) hlm;obtain⟨⟨E,ps⟩,hres⟩: ∃r,EJ (AC 3) l=r:=⟨_,rfl⟩;rw[hres,hn.out] at RD;have hgood:=CW (AC 3) l hl;rw[hres] at hgood;have hdk: ∀m E,DO 3 l m E→CL s l m E:=fun m E hd=>by rw[←hs.out];exact DI (by decide) (by decide) hd
     replace hres:=AB hres;replace hgood:=AB hgood;replace hdk:=AB hdk;rw[show(AC 3).length=0 from rfl] at RD⊢;clear V hck hcm hAk;go_wp2_with fail
     go_call RD as e w6 ⟨P6,Ax,cx,xs,rfl,hxs,VX,MX⟩
     clear RD;(try dsimp only at hxs)
     (try dsimp only)
     have O6:Only [] w w6:=O5.trans P6 (by simp);have G6:=((G.only P4 (by simp)).only Op (by simp)).only P6 (by simp);have R6:=((R.only P4 (by simp)).only Op (by simp)).only P6 (by simp);by_cases hE:E=0
     ·obtain⟨hg1,hg2⟩:=hgood.out hE;(try dsimp only at hg1 hg2)
      have hk:xs.map (fun f=>f.pf.kind)=AC 3:=by rw[←hg1,←hxs,List.map_map];rfl
      have hff: ∀f∈xs,U32 f.n∧InB f.text:=fun f hf=>hg2 f.pf (by rw[←hxs];exact List.mem_map_of_mem hf);have Mok:=HE 3 (by decide) (by decide) hk MX hff;have RX:=VX.rdF (fun f hf=>⟨MX f hf,(hff f hf).1⟩);have hdz: ∀(E2:Int),E2≠0→DB (DD (AL 3) 3 xs) 3=E2→CL s l AI E2:=fun E2 h2 ha=>hdk.out _ _ (by
       unfold DO;rw[hres.out,if_neg (by simpa using hE)];exact⟨xs,hxs,by rw[ha,if_neg h2];exact⟨rfl,rfl⟩⟩)
      have hd0:DB (DD (AL 3) 3 xs) 3=0→CL s l (DD (AL 3) 3 xs) 0:=fun ha=>hdk.out _ _ (by
       unfold DO;rw[hres.out,if_neg (by simpa using hE)];exact⟨xs,hxs,by rw[if_pos ha];exact⟨rfl,rfl⟩⟩)
      replace hdz:=AB hdz;replace hd0:=AB hd0;have hEb:(E !=0)=false:=by simpa using hE
      replace hE:=AB hE;replace hxs:=AB hxs;clear hg1 hg2;obtain rfl:xs=[]:=List.eq_nil_of_length_eq_zero (DQ hk);clear hk;clear VX;have r0:w6.cell? ⟨w.heap.size+1,0,none⟩=some (.int .i64 3):=R6.cell 0;have s0z:=R6.frozen 0;have r1:w6.cell? ⟨w.heap.size+1,1,none⟩=some (.string ⟨#[]⟩):=R6.cell 1;have s1z:=R6.frozen 1;have r2:w6.cell? ⟨w.heap.size+1,2,none⟩=some (.string ⟨#[]⟩):=R6.cell 2;have s2z:=R6.frozen 2;have r3:w6.cell? ⟨w.heap.size+1,3,none⟩=some (.string ⟨#[]⟩):=R6.cell 3;have s3z:=R6.frozen 3;have r4:w6.cell? ⟨w.heap.size+1,4,none⟩=some (.int .u32 0):=R6.cell 4;have s4z:=R6.frozen 4;have r5:w6.cell? ⟨w.heap.size+1,5,none⟩=some (.int .u32 0):=R6.cell 5;have s5z:=R6.frozen 5;have r6:w6.cell? ⟨w.heap.size+1,6,none⟩=some (.int .u32 0):=R6.cell 6;have s6z:=R6.frozen 6;have r7:w6.cell? ⟨w.heap.size+1,7,none⟩=some (.int .u32 0):=R6.cell 7;have s7z:=R6.frozen 7;have r8:w6.cell? ⟨w.heap.size+1,8,none⟩=some (.slice none 0 0):=R6.cell 8;have s8z:=R6.frozen 8;have r9:w6.cell? ⟨w.heap.size+1,9,none⟩=some (.bool false):=R6.cell 9;have s9z:=R6.frozen 9;have r10:w6.cell? ⟨w.heap.size+1,10,none⟩=some (.int .u32 0):=R6.cell 10;have s10z:=R6.frozen 10;have hML:DD (AL 3) 3 []=(⟨3,⟨#[]⟩,⟨#[]⟩,⟨#[]⟩,0,0,0,0,none,0,[],false,0⟩:RQ):=rfl;rw[hML] at Mok hdz hd0;clear hML;obtain⟨w7,hw7⟩: ∃w7,w7=w6:=⟨_,rfl⟩;have KM:Blk w7 (w.heap.size+1) 70 (RQ.cells (⟨3,⟨#[]⟩,⟨#[]⟩,⟨#[]⟩,0,0,0,0,none,0,[],false,0⟩:RQ)):=by rw[hw7];exact R6
      have OM:Only [w.heap.size+1] w6 w7:=by rw[hw7];exact(Only.refl [w.heap.size+1] w6)
      have hMb: ∀a,(RQ.mA (⟨3,⟨#[]⟩,⟨#[]⟩,⟨#[]⟩,0,0,0,0,none,0,[],false,0⟩:RQ))=some a→0<(RQ.modes (⟨3,⟨#[]⟩,⟨#[]⟩,⟨#[]⟩,0,0,0,0,none,0,[],false,0⟩:RQ)).length→a.block≠w.heap.size+1:=fun a ha h0=>BZ R6 Mok.modes h0 a ha;have Mok7:=Mok.onlyN OM hMb;have FT:=CQ (⟨3,⟨#[]⟩,⟨#[]⟩,⟨#[]⟩,0,0,0,0,none,0,[],false,0⟩:RQ) w7 3 (by decide) (by decide) rfl Mok7;obtain⟨E2,hE2⟩: ∃E2,DB (⟨3,⟨#[]⟩,⟨#[]⟩,⟨#[]⟩,0,0,0,0,none,0,[],false,0⟩:RQ) 3=E2:=⟨_,rfl⟩;rw[hE2] at FT;have O7:Only [] w w7:=O6.trans OM (fun x hx=>.inr (by simp at hx;omega));have G7:=G6.only OM (by simp);replace hE2:=AB hE2;replace KM:=AB KM;replace hMb:=AB hMb;replace Mok:=AB Mok;replace Mok7:=AB Mok7;unfold RQ.val at FT;dsimp only at FT;replace FT:=AB FT;replace FT:=FT.out;go_wp2_with fail
      rw[←hw7];replace hw7:=AB hw7;go_call FT as e w8 ⟨rfl,P8⟩
      clear FT;clear r0 s0z r1 s1z r2 s2z r3 s3z r4 s4z r5 s5z r6 s6z r7 s7z r8 s8z r9 s9z r10 s10z;have O8:=O7.trans P8 (by simp);have G8:=G7.only P8 (by simp);have K8:=KM.out.only P8 (by simp);have m0:w8.cell? ⟨w.heap.size+1,0,none⟩=some (.int .i64 3):=K8.cell 0;have m1:w8.cell? ⟨w.heap.size+1,1,none⟩=some (.string ⟨#[]⟩):=K8.cell 1;have m2:w8.cell? ⟨w.heap.size+1,2,none⟩=some (.string ⟨#[]⟩):=K8.cell 2;have m3:w8.cell? ⟨w.heap.size+1,3,none⟩=some (.string ⟨#[]⟩):=K8.cell 3;have m4:w8.cell? ⟨w.heap.size+1,4,none⟩=some (.int .u32 0):=K8.cell 4;have m5:w8.cell? ⟨w.heap.size+1,5,none⟩=some (.int .u32 0):=K8.cell 5;have m6:w8.cell? ⟨w.heap.size+1,6,none⟩=some (.int .u32 0):=K8.cell 6;have m7:w8.cell? ⟨w.heap.size+1,7,none⟩=some (.int .u32 0):=K8.cell 7;have m8:w8.cell? ⟨w.heap.size+1,8,none⟩=some (.slice none 0 0):=K8.cell 8;have m9:w8.cell? ⟨w.heap.size+1,9,none⟩=some (.bool false):=K8.cell 9;have m10:w8.cell? ⟨w.heap.size+1,10,none⟩=some (.int .u32 0):=K8.cell 10;have g0:w8.cell? ⟨w.heap.size,0,none⟩=some (.int .i64 0):=G8.cell 0;have f0:=G8.frozen 0;have g1:w8.cell? ⟨w.heap.size,1,none⟩=some (.string ⟨#[]⟩):=G8.cell 1;have f1:=G8.frozen 1;have g2:w8.cell? ⟨w.heap.size,2,none⟩=some (.string ⟨#[]⟩):=G8.cell 2;have f2:=G8.frozen 2;have g3:w8.cell? ⟨w.heap.size,3,none⟩=some (.string ⟨#[]⟩):=G8.cell 3;have f3:=G8.frozen 3;have g4:w8.cell? ⟨w.heap.size,4,none⟩=some (.int .u32 0):=G8.cell 4;have f4:=G8.frozen 4;have g5:w8.cell? ⟨w.heap.size,5,none⟩=some (.int .u32 0):=G8.cell 5;have f5:=G8.frozen 5;have g6:w8.cell? ⟨w.heap.size,6,none⟩=some (.int .u32 0):=G8.cell 6;have f6:=G8.frozen 6;have g7:w8.cell? ⟨w.heap.size,7,none⟩=some (.int .u32 0):=G8.cell 7;have f7:=G8.frozen 7;have g8:w8.cell? ⟨w.heap.size,8,none⟩=some (.slice none 0 0):=G8.cell 8;have f8:=G8.frozen 8;have g9:w8.cell? ⟨w.heap.size,9,none⟩=some (.bool false):=G8.cell 9;have f9:=G8.frozen 9;have g10:w8.cell? ⟨w.heap.size,10,none⟩=some (.int .u32 0):=G8.cell 10;have f10:=G8.frozen 10;by_cases hz:E2=0
      ·have hzb:(E2 !=0)=false:=by simpa using hz
       have hD:=hd0.out (by rw[hE2.out];exact hz);replace hz:=AB hz;replace hD:=AB hD;go_wp2_with fail
       (try simp only[Exit.inBlock,Exit.then])
       refine BD (g:=w.heap.size) (⟨3,⟨#[]⟩,⟨#[]⟩,⟨#[]⟩,0,0,0,0,none,0,[],false,0⟩:RQ) rfl (by rfl) (by rfl) (CS (⟨3,⟨#[]⟩,⟨#[]⟩,⟨#[]⟩,0,0,0,0,none,0,[],false,0⟩:RQ) G8) ?_;have hx:=BX (⟨3,⟨#[]⟩,⟨#[]⟩,⟨#[]⟩,0,0,0,0,none,0,[],false,0⟩:RQ) (L:=[w.heap.size]) (w0:=w8) (w:=w8) (q:=w.heap.size) (.inl (by simp)) (Only.refl _ _);have Mok8:=Mok7.out.only P8;exact⟨BX (⟨3,⟨#[]⟩,⟨#[]⟩,⟨#[]⟩,0,0,0,0,none,0,[],false,0⟩:RQ) (.inr (Nat.le_refl _)) O8,(⟨3,⟨#[]⟩,⟨#[]⟩,⟨#[]⟩,0,0,0,0,none,0,[],false,0⟩:RQ),0,rfl,Mok8.onlyN hx (fun a ha h0=>BZ G8 Mok8.modes h0 a ha),hD.out,fun a ha=>by simp at ha⟩
      ·have hzb:(E2 !=0)=true:=by simpa using hz
       have hD:=hdz.out E2 hz hE2.out;replace hz:=AB hz;replace hD:=AB hD;go_wp2_with fail
       (try simp only[Exit.inBlock,Exit.then])
       refine BD (g:=w.heap.size) AI rfl (by rfl) (by rfl) (CS AI G8) ?_;exact⟨BX AI (.inr (Nat.le_refl _)) O8,AI,E2,rfl,BL _,hD.out,fun a ha=>by simp[AI] at ha⟩
     ·have hEb:(E !=0)=true:=by simpa using hE
      have hD:CL s l AI E:=hdk.out _ _ (by
       unfold DO;rw[hres.out,if_pos (by simpa using hE)];exact⟨rfl,rfl⟩)
      replace hE:=AB hE;replace hD:=AB hD;replace hxs:=AB hxs;have g0:w6.cell? ⟨w.heap.size,0,none⟩=some (.int .i64 0):=G6.cell 0;have f0:=G6.frozen 0;have g1:w6.cell? ⟨w.heap.size,1,none⟩=some (.string ⟨#[]⟩):=G6.cell 1;have f1:=G6.frozen 1;have g2:w6.cell? ⟨w.heap.size,2,none⟩=some (.string ⟨#[]⟩):=G6.cell 2;have f2:=G6.frozen 2;have g3:w6.cell? ⟨w.heap.size,3,none⟩=some (.string ⟨#[]⟩):=G6.cell 3;have f3:=G6.frozen 3;have g4:w6.cell? ⟨w.heap.size,4,none⟩=some (.int .u32 0):=G6.cell 4;have f4:=G6.frozen 4;have g5:w6.cell? ⟨w.heap.size,5,none⟩=some (.int .u32 0):=G6.cell 5;have f5:=G6.frozen 5;have g6:w6.cell? ⟨w.heap.size,6,none⟩=some (.int .u32 0):=G6.cell 6;have f6:=G6.frozen 6;have g7:w6.cell? ⟨w.heap.size,7,none⟩=some (.int .u32 0):=G6.cell 7;have f7:=G6.frozen 7;have g8:w6.cell? ⟨w.heap.size,8,none⟩=some (.slice none 0 0):=G6.cell 8;have f8:=G6.frozen 8;have g9:w6.cell? ⟨w.heap.size,9,none⟩=some (.bool false):=G6.cell 9;have f9:=G6.frozen 9;have g10:w6.cell? ⟨w.heap.size,10,none⟩=some (.int .u32 0):=G6.cell 10;have f10:=G6.frozen 10;go_wp2_with fail
      (try simp only[Exit.inBlock,Exit.then])
      refine BD (g:=w.heap.size) AI rfl (by rfl) (by rfl) (CS AI G6) ?_;exact⟨BX AI (.inr (Nat.le_refl _)) O6,AI,E,rfl,BL _,hD.out,fun a ha=>by simp[AI] at ha⟩
theorem refdec_k4 (A:Option Addr) (l:List Int) (c:Nat) (w:World) (h:Rd w A l) (hl:InB l) (hln:l.length≤140737488355000) (hlc:l.length≤c) (hlm:c≤maxLen) :
  Calls Tryz.prog 23 #[.string (AR 4),.slice A l.length c] w (CK w (AR 4) l):=by
 obtain⟨ln,hn⟩: ∃ln,l.length=ln:=⟨_,rfl⟩;rw[hn] at hln hlc⊢;replace hn:=AB hn;obtain⟨s,hs⟩: ∃s,AR 4=s:=⟨_,rfl⟩;rw[hs];replace hs:=AB hs;obtain⟨w2,hw2⟩: ∃w2,w2=(w.alloc (.cells #[.int .i64 0,.string ⟨#[]⟩,.string ⟨#[]⟩,.string ⟨#[]⟩,.int .u32 0,.int .u32 0,.int .u32 0,.int .u32 0,.slice none 0 0,.bool false,.int .u32 0] 70)).alloc (.cells #[.int .i64 0,.string ⟨#[]⟩,.string ⟨#[]⟩,.string ⟨#[]⟩,.int .u32 0,.int .u32 0,.int .u32 0,.int .u32 0,.slice none 0 0,.bool false,.int .u32 0] 70):=⟨_,rfl⟩;have P2:Only [] w w2:=by rw[hw2];exact((Only.refl _ _).alloc _).alloc _
 have G2:Blk w2 w.heap.size 70 AI.cells:=by rw[hw2];exact(Blk.new w _ _).alloc _
 have R2:Blk w2 (w.heap.size+1) 70 (BU (CO 4 1)):=by
  rw[hw2];have:=Blk.new (w.alloc (.cells #[.int .i64 0,.string ⟨#[]⟩,.string ⟨#[]⟩,.string ⟨#[]⟩,.int .u32 0,.int .u32 0,.int .u32 0,.int .u32 0,.slice none 0 0,.bool false,.int .u32 0] 70)) 70 [.int .i64 0,.string ⟨#[]⟩,.string ⟨#[]⟩,.string ⟨#[]⟩,.int .u32 0,.int .u32 0,.int .u32 0,.int .u32 0,.slice none 0 0,.bool false,.int .u32 0];rwa[show(w.alloc (.cells #[.int .i64 0,.string ⟨#[]⟩,.string ⟨#[]⟩,.string ⟨#[]⟩,.int .u32 0,.int .u32 0,.int .u32 0,.int .u32 0,.slice none 0 0,.bool false,.int .u32 0] 70)).heap.size=w.heap.size+1 by simp] at this
 go_enter Tryz.func23,Tryz.ntmps23
 go_wp2_with fail
 rw[←hw2];replace hw2:=AB hw2;go_loopw [7] (fun ii wr=>∃i:Nat,1≤i∧i≤11∧ii = .int .i64 i∧Blk wr (w.heap.size+1) 70 (BU (CO 4 i))∧Only [w.heap.size+1] w2 wr) (fun ii _=>11-(intOf ii).toNat)
 case atStart=>exact⟨1,by omega,by omega,rfl,R2,Only.refl _ _⟩
 case round=>
  obtain⟨wo,rfl⟩: ∃wo:World,wo=wr:=⟨_,rfl⟩;obtain⟨i,hi1,hi,rfl,R,O⟩:=hrel;by_cases hlt:i≤10
  ·have NA:=CJ i hi1 hlt wo;obtain⟨nm,hnm⟩: ∃nm,AR i=nm:=⟨_,rfl⟩;rw[hnm] at NA;by_cases hik:i=4
   ·have s1:(nm.toList==s.toList)=true:=JO (by rw[←hnm,←hs.out,hik]);have c0:wo.cell? ⟨w.heap.size+1,0,none⟩=some (.int .i64 (CO 4 i)):=R.cell 0;have z0:=R.frozen 0;have R':Blk (wo.setCell ⟨w.heap.size+1,0,none⟩ (.int .i64 (i:Int))) (w.heap.size+1) 70 (BU (CO 4 (i+1))):=by
     have:=R.set_ 0 (.int .i64 (i:Int));rw[DW] at this;rw[show CO 4 (i+1)=(i:Int) by rw[hik];rfl];exact this
    have O':Only [w.heap.size+1] w2 (wo.setCell ⟨w.heap.size+1,0,none⟩ (.int .i64 (i:Int))):=O.setCell (p:=⟨w.heap.size+1,0,none⟩) (.inl (by simp)) _;replace hnm:=AB hnm;replace hik:=AB hik;go_wp2_with fail
    go_call NA as e w3 ⟨rfl,rfl⟩
    go_wp2_with fail
    go_roundw
    case rel=>exact⟨i+1,by omega,by omega,by go_num,R',O'⟩
    case measure=>simp[intOf];omega
   ·have s1:(nm.toList==s.toList)=false:=IE (fun e=>hik (ES hi1 hlt (by decide) (by decide) (by rw[←BB,←BB,hnm,hs.out,e])));have hkd:=ED hik;rw[←hkd] at R;replace hnm:=AB hnm;replace hkd:=AB hkd;go_wp2_with fail
    go_call NA as e w3 ⟨rfl,rfl⟩
    go_wp2_with fail
    go_roundw
    case rel=>exact⟨i+1,by omega,by omega,by go_num,R,O⟩
    case measure=>simp[intOf];omega
  ·obtain rfl:i=11:=by omega
   have G:=G2.only O (by simp);have OO:Only [] w wo:=P2.trans O (fun x hx=>.inr (by simp at hx;omega));replace R:Blk wo (w.heap.size+1) 70 (AL 4).cells:=R;have b0:wo.cell? ⟨w.heap.size+1,0,none⟩=some (.int .i64 4):=R.cell 0;have b1:wo.cell? ⟨w.heap.size+1,1,none⟩=some (.string ⟨#[]⟩):=R.cell 1;have b2:wo.cell? ⟨w.heap.size+1,2,none⟩=some (.string ⟨#[]⟩):=R.cell 2;have b3:wo.cell? ⟨w.heap.size+1,3,none⟩=some (.string ⟨#[]⟩):=R.cell 3;have b4:wo.cell? ⟨w.heap.size+1,4,none⟩=some (.int .u32 0):=R.cell 4;have b5:wo.cell? ⟨w.heap.size+1,5,none⟩=some (.int .u32 0):=R.cell 5;have b6:wo.cell? ⟨w.heap.size+1,6,none⟩=some (.int .u32 0):=R.cell 6;have b7:wo.cell? ⟨w.heap.size+1,7,none⟩=some (.int .u32 0):=R.cell 7;have b8:wo.cell? ⟨w.heap.size+1,8,none⟩=some (.slice none 0 0):=R.cell 8;have b9:wo.cell? ⟨w.heap.size+1,9,none⟩=some (.bool false):=R.cell 9;have b10:wo.cell? ⟨w.heap.size+1,10,none⟩=some (.int .u32 0):=R.cell 10;have FA:Calls Tryz.prog 37 #[.agg #[.int .i64 4,.string ⟨#[]⟩,.string ⟨#[]⟩,.string ⟨#[]⟩,.int .u32 0,.int .u32 0,.int .u32 0,.int .u32 0,.slice none 0 0,.bool false,.int .u32 0]] wo (AZ wo (DM (AL 4) 4)):=CG (AL 4) wo 4 (by decide) (by decide) rfl (DP _ _) (Nat.zero_le _) (Nat.zero_le _) (Nat.zero_le _);go_wp2_with fail
   go_call FA as e w4 ⟨P4,v0,fs,rfl,V4,hp,M4,N4⟩
   clear FA b0 b1 b2 b3 b4 b5 b6 b7 b8 b9 b10;have hkf:fs.map (fun f=>f.pf.kind)=AC 4:=by
    have:=congrArg (List.map PF.kind) hp;rw[List.map_map] at this;exact this.trans (DF _ 4 (by decide) (by decide))
   have hfl:fs.length=1:=DQ hkf;obtain⟨AF,cF,rfl,_,_,_⟩:=V4.form;have RF:=V4.rdF (fun f hf=>⟨(M4 f hf).1,N4 f hf⟩);rw[hfl];have O4:Only [] w w4:=OO.trans P4 (by simp);replace hfl:=AB hfl;replace hp:=AB hp;replace hkf:=AB hkf;clear M4 N4 V4;go_wp2_with fail
   go_loopw [38,10] (fun ii o wr=>∃(i:Nat) (v:Value),i≤1∧ii = .int .i64 i∧v=o∧IW wr w4.heap.size v ((AC 4).take i)∧Only [] w4 wr) (fun ii _ _=>1-(intOf ii).toNat)
   case atStart=>exact⟨0,_,by omega,rfl,rfl,FL _ _,Only.refl _ _⟩
   case round=>
    obtain⟨wp,rfl⟩: ∃wp:World,wp=wr:=⟨_,rfl⟩;obtain⟨j,v,hj,rfl,rfl,V,Op⟩:=hrel;have hob:=V.block;have zo:=Op.size;by_cases hlj:j<1
    ·skip;obtain⟨bF,offF,rfl,hbF,hcF⟩:=RF.cells (by have:=hfl.out;omega);obtain⟨f,hf⟩: ∃f,fs[j]? = some f:=⟨_,List.getElem?_eq_getElem (by have:=hfl.out;omega)⟩;obtain⟨e0,e1,e2,e3⟩:=hcF j f hf;have y0:=AV Op hbF (by simp) e0;have y1:=AV Op hbF (by simp) e1;have y2:=AV Op hbF (by simp) e2;have y3:=AV Op hbF (by simp) e3;have hkj:(AC 4)[j]? = some f.kind:=by rw[←hkf.out,List.getElem?_map,hf];rfl
     have hks:(AC 4).take (j+1)=(AC 4).take j++[f.kind]:=CX hkj;have hll:((AC 4).take j).length≤10:=by rw[List.length_take];omega
     have X5:Only [] wp ((wp.alloc (.cells #[.int .i64 f.kind,.int .u32 f.n,.slice f.tA f.text.length f.tc,.slice f.lA f.list.length f.lc] 86)).alloc (.cells #[.int .i64 f.kind] 3)):=((Only.refl _ _).alloc _).alloc _;have R5:RdI ((wp.alloc (.cells #[.int .i64 f.kind,.int .u32 f.n,.slice f.tA f.text.length f.tc,.slice f.lA f.list.length f.lc] 86)).alloc (.cells #[.int .i64 f.kind] 3)) (some ⟨wp.heap.size+1,0,none⟩) [f.kind]:=by
      have:=II (wp.alloc (.cells #[.int .i64 f.kind,.int .u32 f.n,.slice f.tA f.text.length f.tc,.slice f.lA f.list.length f.lc] 86)) #[.int .i64 f.kind] [f.kind] rfl;rwa[show(wp.alloc (.cells #[.int .i64 f.kind,.int .u32 f.n,.slice f.tA f.text.length f.tc,.slice f.lA f.list.length f.lc] 86)).heap.size=wp.heap.size+1 by simp] at this
     have V5:=V.far X5 (fun x hx=>by simp at hx);obtain⟨ks,hksv⟩: ∃ks,(AC 4).take j=ks:=⟨_,rfl⟩;rw[hksv] at V5 hll hks;replace hks:=AB hks;replace hksv:=AB hksv;replace hkj:=AB hkj;replace hf:=AB hf;clear e0 e1 e2 e3 hcF;go_wp2_with (at_builtin;go_must (refine DU rfl (.tmp 42) (.tmp 45) rfl w4.heap.size v ks rfl V5 (some ⟨wp.heap.size+1,0,none⟩) 1 [f.kind] _ rfl rfl R5 (by simp;omega) (by simp;omega) ?_;intro v9 w9 V9 P9))
     go_roundw
     case rel=>
      refine⟨j+1,_,by omega,by go_num,rfl,?_,(Op.trans X5 (by simp)).trans P9 (fun x hx=>.inr (hob x (by simpa using hx)).1)⟩;rw[hks.out];exact V9.out
     case measure=>simp[intOf];omega
    ·obtain rfl:j=1:=by omega
     rw[show(AC 4).take 1=AC 4 from rfl] at V;obtain⟨Ak,ck,rfl,Rk,hck,hcm,hAk⟩:=V.rd;have O5:Only [] w wp:=O4.trans Op (by simp);have RD:=DS wp Ak A (AC 4) l ck c Rk (h.only O5) hl (by decide) (by have:=hn.out;omega) (by have:=hn.out;omega) hlm;obtain⟨⟨E,ps⟩,hres⟩: ∃r,EJ (AC 4) l=r:=⟨_,rfl⟩;rw[hres,hn.out] at RD;have hgood:=CW (AC 4) l hl;rw[hres] at hgood;have hdk: ∀m E,DO 4 l m E→CL s l m E:=fun m E hd=>by rw[←hs.out];exact DI (by decide) (by decide) hd
     replace hres:=AB hres;replace hgood:=AB hgood;replace hdk:=AB hdk;rw[show(AC 4).length=1 from rfl] at RD⊢;clear V hck hcm hAk;go_wp2_with fail
     go_call RD as e w6 ⟨P6,Ax,cx,xs,rfl,hxs,VX,MX⟩
     clear RD;(try dsimp only at hxs)
     (try dsimp only)
     have O6:Only [] w w6:=O5.trans P6 (by simp);have G6:=((G.only P4 (by simp)).only Op (by simp)).only P6 (by simp);have R6:=((R.only P4 (by simp)).only Op (by simp)).only P6 (by simp);by_cases hE:E=0
     ·obtain⟨hg1,hg2⟩:=hgood.out hE;(try dsimp only at hg1 hg2)
      have hk:xs.map (fun f=>f.pf.kind)=AC 4:=by rw[←hg1,←hxs,List.map_map];rfl
      have hff: ∀f∈xs,U32 f.n∧InB f.text:=fun f hf=>hg2 f.pf (by rw[←hxs];exact List.mem_map_of_mem hf);have Mok:=HE 4 (by decide) (by decide) hk MX hff;have RX:=VX.rdF (fun f hf=>⟨MX f hf,(hff f hf).1⟩);have hdz: ∀(E2:Int),E2≠0→DB (DD (AL 4) 4 xs) 4=E2→CL s l AI E2:=fun E2 h2 ha=>hdk.out _ _ (by
       unfold DO;rw[hres.out,if_neg (by simpa using hE)];exact⟨xs,hxs,by rw[ha,if_neg h2];exact⟨rfl,rfl⟩⟩)
      have hd0:DB (DD (AL 4) 4 xs) 4=0→CL s l (DD (AL 4) 4 xs) 0:=fun ha=>hdk.out _ _ (by
       unfold DO;rw[hres.out,if_neg (by simpa using hE)];exact⟨xs,hxs,by rw[if_pos ha];exact⟨rfl,rfl⟩⟩)
      replace hdz:=AB hdz;replace hd0:=AB hd0;have hEb:(E !=0)=false:=by simpa using hE
      replace hE:=AB hE;replace hxs:=AB hxs;clear hg1 hg2;obtain⟨x1,rfl,_⟩:=ks1 hk;clear hk;have Rp:Blk wp (w.heap.size+1) 70 (AL 4).cells:=(R.only P4 (by simp)).only Op (by simp);obtain⟨bX,oX,rfl,hbX,hcX⟩:=RX.cells (by simp);have hbq: ¬bX=w.heap.size+1:=by have:=(EZ.block VX bX rfl).1;have:=Rp.lt;omega
      obtain⟨_,n0,t0,_⟩:=hcX 0 x1 rfl;simp only[Nat.zero_mul,Nat.one_mul,Nat.reduceMul,Nat.add_zero] at n0 t0;clear hcX Rp;clear VX;have r0:w6.cell? ⟨w.heap.size+1,0,none⟩=some (.int .i64 4):=R6.cell 0;have s0z:=R6.frozen 0;have r1:w6.cell? ⟨w.heap.size+1,1,none⟩=some (.string ⟨#[]⟩):=R6.cell 1;have s1z:=R6.frozen 1;have r2:w6.cell? ⟨w.heap.size+1,2,none⟩=some (.string ⟨#[]⟩):=R6.cell 2;have s2z:=R6.frozen 2;have r3:w6.cell? ⟨w.heap.size+1,3,none⟩=some (.string ⟨#[]⟩):=R6.cell 3;have s3z:=R6.frozen 3;have r4:w6.cell? ⟨w.heap.size+1,4,none⟩=some (.int .u32 0):=R6.cell 4;have s4z:=R6.frozen 4;have r5:w6.cell? ⟨w.heap.size+1,5,none⟩=some (.int .u32 0):=R6.cell 5;have s5z:=R6.frozen 5;have r6:w6.cell? ⟨w.heap.size+1,6,none⟩=some (.int .u32 0):=R6.cell 6;have s6z:=R6.frozen 6;have r7:w6.cell? ⟨w.heap.size+1,7,none⟩=some (.int .u32 0):=R6.cell 7;have s7z:=R6.frozen 7;have r8:w6.cell? ⟨w.heap.size+1,8,none⟩=some (.slice none 0 0):=R6.cell 8;have s8z:=R6.frozen 8;have r9:w6.cell? ⟨w.heap.size+1,9,none⟩=some (.bool false):=R6.cell 9;have s9z:=R6.frozen 9;have r10:w6.cell? ⟨w.heap.size+1,10,none⟩=some (.int .u32 0):=R6.cell 10;have s10z:=R6.frozen 10;have hML:DD (AL 4) 4 [x1]=(⟨4,(strOfNums x1.text),⟨#[]⟩,⟨#[]⟩,0,0,0,0,none,0,[],false,0⟩:RQ):=rfl;rw[hML] at Mok hdz hd0;clear hML;obtain⟨w7,hw7⟩: ∃w7,w7=(w6.setCell ⟨w.heap.size+1,1,none⟩ (.string (strOfNums x1.text))):=⟨_,rfl⟩;have KM:Blk w7 (w.heap.size+1) 70 (RQ.cells (⟨4,(strOfNums x1.text),⟨#[]⟩,⟨#[]⟩,0,0,0,0,none,0,[],false,0⟩:RQ)):=by rw[hw7];exact(R6.set_ 1 (.string (strOfNums x1.text)))
      have OM:Only [w.heap.size+1] w6 w7:=by rw[hw7];exact((Only.refl [w.heap.size+1] w6).setCell (p:=⟨w.heap.size+1,1,none⟩) (.inl (by simp)) (.string (strOfNums x1.text)))
      have hMb: ∀a,(RQ.mA (⟨4,(strOfNums x1.text),⟨#[]⟩,⟨#[]⟩,0,0,0,0,none,0,[],false,0⟩:RQ))=some a→0<(RQ.modes (⟨4,(strOfNums x1.text),⟨#[]⟩,⟨#[]⟩,0,0,0,0,none,0,[],false,0⟩:RQ)).length→a.block≠w.heap.size+1:=fun a ha h0=>BZ R6 Mok.modes h0 a ha;have Mok7:=Mok.onlyN OM hMb;have FT:=CQ (⟨4,(strOfNums x1.text),⟨#[]⟩,⟨#[]⟩,0,0,0,0,none,0,[],false,0⟩:RQ) w7 4 (by decide) (by decide) rfl Mok7;obtain⟨E2,hE2⟩: ∃E2,DB (⟨4,(strOfNums x1.text),⟨#[]⟩,⟨#[]⟩,0,0,0,0,none,0,[],false,0⟩:RQ) 4=E2:=⟨_,rfl⟩;rw[hE2] at FT;have O7:Only [] w w7:=O6.trans OM (fun x hx=>.inr (by simp at hx;omega));have G7:=G6.only OM (by simp);replace hE2:=AB hE2;replace KM:=AB KM;replace hMb:=AB hMb;replace Mok:=AB Mok;replace Mok7:=AB Mok7;unfold RQ.val at FT;dsimp only at FT;replace FT:=AB FT;have kc0:(convert 34 9 (.slice x1.tA x1.text.length x1.tc)).run Tryz.prog w6 = .ok (.string (strOfNums x1.text)) w6:=EP (MX x1 (by simp)).text;replace FT:=FT.out;go_wp2_with fail
      rw[←hw7];replace hw7:=AB hw7;go_call FT as e w8 ⟨rfl,P8⟩
      clear FT;clear r0 s0z r1 s1z r2 s2z r3 s3z r4 s4z r5 s5z r6 s6z r7 s7z r8 s8z r9 s9z r10 s10z n0 t0 kc0;have O8:=O7.trans P8 (by simp);have G8:=G7.only P8 (by simp);have K8:=KM.out.only P8 (by simp);have m0:w8.cell? ⟨w.heap.size+1,0,none⟩=some (.int .i64 4):=K8.cell 0;have m1:w8.cell? ⟨w.heap.size+1,1,none⟩=some (.string (strOfNums x1.text)):=K8.cell 1;have m2:w8.cell? ⟨w.heap.size+1,2,none⟩=some (.string ⟨#[]⟩):=K8.cell 2;have m3:w8.cell? ⟨w.heap.size+1,3,none⟩=some (.string ⟨#[]⟩):=K8.cell 3;have m4:w8.cell? ⟨w.heap.size+1,4,none⟩=some (.int .u32 0):=K8.cell 4;have m5:w8.cell? ⟨w.heap.size+1,5,none⟩=some (.int .u32 0):=K8.cell 5;have m6:w8.cell? ⟨w.heap.size+1,6,none⟩=some (.int .u32 0):=K8.cell 6;have m7:w8.cell? ⟨w.heap.size+1,7,none⟩=some (.int .u32 0):=K8.cell 7;have m8:w8.cell? ⟨w.heap.size+1,8,none⟩=some (.slice none 0 0):=K8.cell 8;have m9:w8.cell? ⟨w.heap.size+1,9,none⟩=some (.bool false):=K8.cell 9;have m10:w8.cell? ⟨w.heap.size+1,10,none⟩=some (.int .u32 0):=K8.cell 10;have g0:w8.cell? ⟨w.heap.size,0,none⟩=some (.int .i64 0):=G8.cell 0;have f0:=G8.frozen 0;have g1:w8.cell? ⟨w.heap.size,1,none⟩=some (.string ⟨#[]⟩):=G8.cell 1;have f1:=G8.frozen 1;have g2:w8.cell? ⟨w.heap.size,2,none⟩=some (.string ⟨#[]⟩):=G8.cell 2;have f2:=G8.frozen 2;have g3:w8.cell? ⟨w.heap.size,3,none⟩=some (.string ⟨#[]⟩):=G8.cell 3;have f3:=G8.frozen 3;have g4:w8.cell? ⟨w.heap.size,4,none⟩=some (.int .u32 0):=G8.cell 4;have f4:=G8.frozen 4;have g5:w8.cell? ⟨w.heap.size,5,none⟩=some (.int .u32 0):=G8.cell 5;have f5:=G8.frozen 5;have g6:w8.cell? ⟨w.heap.size,6,none⟩=some (.int .u32 0):=G8.cell 6;have f6:=G8.frozen 6;have g7:w8.cell? ⟨w.heap.size,7,none⟩=some (.int .u32 0):=G8.cell 7;have f7:=G8.frozen 7;have g8:w8.cell? ⟨w.heap.size,8,none⟩=some (.slice none 0 0):=G8.cell 8;have f8:=G8.frozen 8;have g9:w8.cell? ⟨w.heap.size,9,none⟩=some (.bool false):=G8.cell 9;have f9:=G8.frozen 9;have g10:w8.cell? ⟨w.heap.size,10,none⟩=some (.int .u32 0):=G8.cell 10;have f10:=G8.frozen 10;by_cases hz:E2=0
      ·have hzb:(E2 !=0)=false:=by simpa using hz
       have hD:=hd0.out (by rw[hE2.out];exact hz);replace hz:=AB hz;replace hD:=AB hD;go_wp2_with fail
       (try simp only[Exit.inBlock,Exit.then])
       refine BD (g:=w.heap.size) (⟨4,(strOfNums x1.text),⟨#[]⟩,⟨#[]⟩,0,0,0,0,none,0,[],false,0⟩:RQ) rfl (by rfl) (by rfl) (CS (⟨4,(strOfNums x1.text),⟨#[]⟩,⟨#[]⟩,0,0,0,0,none,0,[],false,0⟩:RQ) G8) ?_;have hx:=BX (⟨4,(strOfNums x1.text),⟨#[]⟩,⟨#[]⟩,0,0,0,0,none,0,[],false,0⟩:RQ) (L:=[w.heap.size]) (w0:=w8) (w:=w8) (q:=w.heap.size) (.inl (by simp)) (Only.refl _ _);have Mok8:=Mok7.out.only P8;exact⟨BX (⟨4,(strOfNums x1.text),⟨#[]⟩,⟨#[]⟩,0,0,0,0,none,0,[],false,0⟩:RQ) (.inr (Nat.le_refl _)) O8,(⟨4,(strOfNums x1.text),⟨#[]⟩,⟨#[]⟩,0,0,0,0,none,0,[],false,0⟩:RQ),0,rfl,Mok8.onlyN hx (fun a ha h0=>BZ G8 Mok8.modes h0 a ha),hD.out,fun a ha=>by simp at ha⟩
      ·have hzb:(E2 !=0)=true:=by simpa using hz
       have hD:=hdz.out E2 hz hE2.out;replace hz:=AB hz;replace hD:=AB hD;go_wp2_with fail
       (try simp only[Exit.inBlock,Exit.then])
       refine BD (g:=w.heap.size) AI rfl (by rfl) (by rfl) (CS AI G8) ?_;exact⟨BX AI (.inr (Nat.le_refl _)) O8,AI,E2,rfl,BL _,hD.out,fun a ha=>by simp[AI] at ha⟩
     ·have hEb:(E !=0)=true:=by simpa using hE
      have hD:CL s l AI E:=hdk.out _ _ (by
       unfold DO;rw[hres.out,if_pos (by simpa using hE)];exact⟨rfl,rfl⟩)
      replace hE:=AB hE;replace hD:=AB hD;replace hxs:=AB hxs;have g0:w6.cell? ⟨w.heap.size,0,none⟩=some (.int .i64 0):=G6.cell 0;have f0:=G6.frozen 0;have g1:w6.cell? ⟨w.heap.size,1,none⟩=some (.string ⟨#[]⟩):=G6.cell 1;have f1:=G6.frozen 1;have g2:w6.cell? ⟨w.heap.size,2,none⟩=some (.string ⟨#[]⟩):=G6.cell 2;have f2:=G6.frozen 2;have g3:w6.cell? ⟨w.heap.size,3,none⟩=some (.string ⟨#[]⟩):=G6.cell 3;have f3:=G6.frozen 3;have g4:w6.cell? ⟨w.heap.size,4,none⟩=some (.int .u32 0):=G6.cell 4;have f4:=G6.frozen 4;have g5:w6.cell? ⟨w.heap.size,5,none⟩=some (.int .u32 0):=G6.cell 5;have f5:=G6.frozen 5;have g6:w6.cell? ⟨w.heap.size,6,none⟩=some (.int .u32 0):=G6.cell 6;have f6:=G6.frozen 6;have g7:w6.cell? ⟨w.heap.size,7,none⟩=some (.int .u32 0):=G6.cell 7;have f7:=G6.frozen 7;have g8:w6.cell? ⟨w.heap.size,8,none⟩=some (.slice none 0 0):=G6.cell 8;have f8:=G6.frozen 8;have g9:w6.cell? ⟨w.heap.size,9,none⟩=some (.bool false):=G6.cell 9;have f9:=G6.frozen 9;have g10:w6.cell? ⟨w.heap.size,10,none⟩=some (.int .u32 0):=G6.cell 10;have f10:=G6.frozen 10;go_wp2_with fail
      (try simp only[Exit.inBlock,Exit.then])
      refine BD (g:=w.heap.size) AI rfl (by rfl) (by rfl) (CS AI G6) ?_;exact⟨BX AI (.inr (Nat.le_refl _)) O6,AI,E,rfl,BL _,hD.out,fun a ha=>by simp[AI] at ha⟩
theorem refdec_k5 (A:Option Addr) (l:List Int) (c:Nat) (w:World) (h:Rd w A l) (hl:InB l) (hln:l.length≤140737488355000) (hlc:l.length≤c) (hlm:c≤maxLen) :
  Calls Tryz.prog 23 #[.string (AR 5),.slice A l.length c] w (CK w (AR 5) l):=by
 obtain⟨ln,hn⟩: ∃ln,l.length=ln:=⟨_,rfl⟩;rw[hn] at hln hlc⊢;replace hn:=AB hn;obtain⟨s,hs⟩: ∃s,AR 5=s:=⟨_,rfl⟩;rw[hs];replace hs:=AB hs;obtain⟨w2,hw2⟩: ∃w2,w2=(w.alloc (.cells #[.int .i64 0,.string ⟨#[]⟩,.string ⟨#[]⟩,.string ⟨#[]⟩,.int .u32 0,.int .u32 0,.int .u32 0,.int .u32 0,.slice none 0 0,.bool false,.int .u32 0] 70)).alloc (.cells #[.int .i64 0,.string ⟨#[]⟩,.string ⟨#[]⟩,.string ⟨#[]⟩,.int .u32 0,.int .u32 0,.int .u32 0,.int .u32 0,.slice none 0 0,.bool false,.int .u32 0] 70):=⟨_,rfl⟩;have P2:Only [] w w2:=by rw[hw2];exact((Only.refl _ _).alloc _).alloc _
 have G2:Blk w2 w.heap.size 70 AI.cells:=by rw[hw2];exact(Blk.new w _ _).alloc _
 have R2:Blk w2 (w.heap.size+1) 70 (BU (CO 5 1)):=by
  rw[hw2];have:=Blk.new (w.alloc (.cells #[.int .i64 0,.string ⟨#[]⟩,.string ⟨#[]⟩,.string ⟨#[]⟩,.int .u32 0,.int .u32 0,.int .u32 0,.int .u32 0,.slice none 0 0,.bool false,.int .u32 0] 70)) 70 [.int .i64 0,.string ⟨#[]⟩,.string ⟨#[]⟩,.string ⟨#[]⟩,.int .u32 0,.int .u32 0,.int .u32 0,.int .u32 0,.slice none 0 0,.bool false,.int .u32 0];rwa[show(w.alloc (.cells #[.int .i64 0,.string ⟨#[]⟩,.string ⟨#[]⟩,.string ⟨#[]⟩,.int .u32 0,.int .u32 0,.int .u32 0,.int .u32 0,.slice none 0 0,.bool false,.int .u32 0] 70)).heap.size=w.heap.size+1 by simp] at this
 go_enter Tryz.func23,Tryz.ntmps23
 go_wp2_with fail
 rw[←hw2];replace hw2:=AB hw2;go_loopw [7] (fun ii wr=>∃i:Nat,1≤i∧i≤11∧ii = .int .i64 i∧Blk wr (w.heap.size+1) 70 (BU (CO 5 i))∧Only [w.heap.size+1] w2 wr) (fun ii _=>11-(intOf ii).toNat)
 case atStart=>exact⟨1,by omega,by omega,rfl,R2,Only.refl _ _⟩
 case round=>
  obtain⟨wo,rfl⟩: ∃wo:World,wo=wr:=⟨_,rfl⟩;obtain⟨i,hi1,hi,rfl,R,O⟩:=hrel;by_cases hlt:i≤10
  ·have NA:=CJ i hi1 hlt wo;obtain⟨nm,hnm⟩: ∃nm,AR i=nm:=⟨_,rfl⟩;rw[hnm] at NA;by_cases hik:i=5
   ·have s1:(nm.toList==s.toList)=true:=JO (by rw[←hnm,←hs.out,hik]);have c0:wo.cell? ⟨w.heap.size+1,0,none⟩=some (.int .i64 (CO 5 i)):=R.cell 0;have z0:=R.frozen 0;have R':Blk (wo.setCell ⟨w.heap.size+1,0,none⟩ (.int .i64 (i:Int))) (w.heap.size+1) 70 (BU (CO 5 (i+1))):=by
     have:=R.set_ 0 (.int .i64 (i:Int));rw[DW] at this;rw[show CO 5 (i+1)=(i:Int) by rw[hik];rfl];exact this
    have O':Only [w.heap.size+1] w2 (wo.setCell ⟨w.heap.size+1,0,none⟩ (.int .i64 (i:Int))):=O.setCell (p:=⟨w.heap.size+1,0,none⟩) (.inl (by simp)) _;replace hnm:=AB hnm;replace hik:=AB hik;go_wp2_with fail
    go_call NA as e w3 ⟨rfl,rfl⟩
    go_wp2_with fail
    go_roundw
    case rel=>exact⟨i+1,by omega,by omega,by go_num,R',O'⟩
    case measure=>simp[intOf];omega
   ·have s1:(nm.toList==s.toList)=false:=IE (fun e=>hik (ES hi1 hlt (by decide) (by decide) (by rw[←BB,←BB,hnm,hs.out,e])));have hkd:=ED hik;rw[←hkd] at R;replace hnm:=AB hnm;replace hkd:=AB hkd;go_wp2_with fail
    go_call NA as e w3 ⟨rfl,rfl⟩
    go_wp2_with fail
    go_roundw
    case rel=>exact⟨i+1,by omega,by omega,by go_num,R,O⟩
    case measure=>simp[intOf];omega
  ·obtain rfl:i=11:=by omega
   have G:=G2.only O (by simp);have OO:Only [] w wo:=P2.trans O (fun x hx=>.inr (by simp at hx;omega));replace R:Blk wo (w.heap.size+1) 70 (AL 5).cells:=R;have b0:wo.cell? ⟨w.heap.size+1,0,none⟩=some (.int .i64 5):=R.cell 0;have b1:wo.cell? ⟨w.heap.size+1,1,none⟩=some (.string ⟨#[]⟩):=R.cell 1;have b2:wo.cell? ⟨w.heap.size+1,2,none⟩=some (.string ⟨#[]⟩):=R.cell 2;have b3:wo.cell? ⟨w.heap.size+1,3,none⟩=some (.string ⟨#[]⟩):=R.cell 3;have b4:wo.cell? ⟨w.heap.size+1,4,none⟩=some (.int .u32 0):=R.cell 4;have b5:wo.cell? ⟨w.heap.size+1,5,none⟩=some (.int .u32 0):=R.cell 5;have b6:wo.cell? ⟨w.heap.size+1,6,none⟩=some (.int .u32 0):=R.cell 6;have b7:wo.cell? ⟨w.heap.size+1,7,none⟩=some (.int .u32 0):=R.cell 7;have b8:wo.cell? ⟨w.heap.size+1,8,none⟩=some (.slice none 0 0):=R.cell 8;have b9:wo.cell? ⟨w.heap.size+1,9,none⟩=some (.bool false):=R.cell 9;have b10:wo.cell? ⟨w.heap.size+1,10,none⟩=some (.int .u32 0):=R.cell 10;have FA:Calls Tryz.prog 37 #[.agg #[.int .i64 5,.string ⟨#[]⟩,.string ⟨#[]⟩,.string ⟨#[]⟩,.int .u32 0,.int .u32 0,.int .u32 0,.int .u32 0,.slice none 0 0,.bool false,.int .u32 0]] wo (AZ wo (DM (AL 5) 5)):=CG (AL 5) wo 5 (by decide) (by decide) rfl (DP _ _) (Nat.zero_le _) (Nat.zero_le _) (Nat.zero_le _);go_wp2_with fail
   go_call FA as e w4 ⟨P4,v0,fs,rfl,V4,hp,M4,N4⟩
   clear FA b0 b1 b2 b3 b4 b5 b6 b7 b8 b9 b10;have hkf:fs.map (fun f=>f.pf.kind)=AC 5:=by
    have:=congrArg (List.map PF.kind) hp;rw[List.map_map] at this;exact this.trans (DF _ 5 (by decide) (by decide))
   have hfl:fs.length=1:=DQ hkf;obtain⟨AF,cF,rfl,_,_,_⟩:=V4.form;have RF:=V4.rdF (fun f hf=>⟨(M4 f hf).1,N4 f hf⟩);rw[hfl];have O4:Only [] w w4:=OO.trans P4 (by simp);replace hfl:=AB hfl;replace hp:=AB hp;replace hkf:=AB hkf;clear M4 N4 V4;go_wp2_with fail
   go_loopw [38,10] (fun ii o wr=>∃(i:Nat) (v:Value),i≤1∧ii = .int .i64 i∧v=o∧IW wr w4.heap.size v ((AC 5).take i)∧Only [] w4 wr) (fun ii _ _=>1-(intOf ii).toNat)
   case atStart=>exact⟨0,_,by omega,rfl,rfl,FL _ _,Only.refl _ _⟩
   case round=>
    obtain⟨wp,rfl⟩: ∃wp:World,wp=wr:=⟨_,rfl⟩;obtain⟨j,v,hj,rfl,rfl,V,Op⟩:=hrel;have hob:=V.block;have zo:=Op.size;by_cases hlj:j<1
    ·skip;obtain⟨bF,offF,rfl,hbF,hcF⟩:=RF.cells (by have:=hfl.out;omega);obtain⟨f,hf⟩: ∃f,fs[j]? = some f:=⟨_,List.getElem?_eq_getElem (by have:=hfl.out;omega)⟩;obtain⟨e0,e1,e2,e3⟩:=hcF j f hf;have y0:=AV Op hbF (by simp) e0;have y1:=AV Op hbF (by simp) e1;have y2:=AV Op hbF (by simp) e2;have y3:=AV Op hbF (by simp) e3;have hkj:(AC 5)[j]? = some f.kind:=by rw[←hkf.out,List.getElem?_map,hf];rfl
     have hks:(AC 5).take (j+1)=(AC 5).take j++[f.kind]:=CX hkj;have hll:((AC 5).take j).length≤10:=by rw[List.length_take];omega
     have X5:Only [] wp ((wp.alloc (.cells #[.int .i64 f.kind,.int .u32 f.n,.slice f.tA f.text.length f.tc,.slice f.lA f.list.length f.lc] 86)).alloc (.cells #[.int .i64 f.kind] 3)):=((Only.refl _ _).alloc _).alloc _;have R5:RdI ((wp.alloc (.cells #[.int .i64 f.kind,.int .u32 f.n,.slice f.tA f.text.length f.tc,.slice f.lA f.list.length f.lc] 86)).alloc (.cells #[.int .i64 f.kind] 3)) (some ⟨wp.heap.size+1,0,none⟩) [f.kind]:=by
      have:=II (wp.alloc (.cells #[.int .i64 f.kind,.int .u32 f.n,.slice f.tA f.text.length f.tc,.slice f.lA f.list.length f.lc] 86)) #[.int .i64 f.kind] [f.kind] rfl;rwa[show(wp.alloc (.cells #[.int .i64 f.kind,.int .u32 f.n,.slice f.tA f.text.length f.tc,.slice f.lA f.list.length f.lc] 86)).heap.size=wp.heap.size+1 by simp] at this
     have V5:=V.far X5 (fun x hx=>by simp at hx);obtain⟨ks,hksv⟩: ∃ks,(AC 5).take j=ks:=⟨_,rfl⟩;rw[hksv] at V5 hll hks;replace hks:=AB hks;replace hksv:=AB hksv;replace hkj:=AB hkj;replace hf:=AB hf;clear e0 e1 e2 e3 hcF;go_wp2_with (at_builtin;go_must (refine DU rfl (.tmp 42) (.tmp 45) rfl w4.heap.size v ks rfl V5 (some ⟨wp.heap.size+1,0,none⟩) 1 [f.kind] _ rfl rfl R5 (by simp;omega) (by simp;omega) ?_;intro v9 w9 V9 P9))
     go_roundw
     case rel=>
      refine⟨j+1,_,by omega,by go_num,rfl,?_,(Op.trans X5 (by simp)).trans P9 (fun x hx=>.inr (hob x (by simpa using hx)).1)⟩;rw[hks.out];exact V9.out
     case measure=>simp[intOf];omega
    ·obtain rfl:j=1:=by omega
     rw[show(AC 5).take 1=AC 5 from rfl] at V;obtain⟨Ak,ck,rfl,Rk,hck,hcm,hAk⟩:=V.rd;have O5:Only [] w wp:=O4.trans Op (by simp);have RD:=DS wp Ak A (AC 5) l ck c Rk (h.only O5) hl (by decide) (by have:=hn.out;omega) (by have:=hn.out;omega) hlm;obtain⟨⟨E,ps⟩,hres⟩: ∃r,EJ (AC 5) l=r:=⟨_,rfl⟩;rw[hres,hn.out] at RD;have hgood:=CW (AC 5) l hl;rw[hres] at hgood;have hdk: ∀m E,DO 5 l m E→CL s l m E:=fun m E hd=>by rw[←hs.out];exact DI (by decide) (by decide) hd
     replace hres:=AB hres;replace hgood:=AB hgood;replace hdk:=AB hdk;rw[show(AC 5).length=1 from rfl] at RD⊢;clear V hck hcm hAk;go_wp2_with fail
     go_call RD as e w6 ⟨P6,Ax,cx,xs,rfl,hxs,VX,MX⟩
     clear RD;(try dsimp only at hxs)
     (try dsimp only)
     have O6:Only [] w w6:=O5.trans P6 (by simp);have G6:=((G.only P4 (by simp)).only Op (by simp)).only P6 (by simp);have R6:=((R.only P4 (by simp)).only Op (by simp)).only P6 (by simp);by_cases hE:E=0
     ·obtain⟨hg1,hg2⟩:=hgood.out hE;(try dsimp only at hg1 hg2)
      have hk:xs.map (fun f=>f.pf.kind)=AC 5:=by rw[←hg1,←hxs,List.map_map];rfl
      have hff: ∀f∈xs,U32 f.n∧InB f.text:=fun f hf=>hg2 f.pf (by rw[←hxs];exact List.mem_map_of_mem hf);have Mok:=HE 5 (by decide) (by decide) hk MX hff;have RX:=VX.rdF (fun f hf=>⟨MX f hf,(hff f hf).1⟩);have hdz: ∀(E2:Int),E2≠0→DB (DD (AL 5) 5 xs) 5=E2→CL s l AI E2:=fun E2 h2 ha=>hdk.out _ _ (by
       unfold DO;rw[hres.out,if_neg (by simpa using hE)];exact⟨xs,hxs,by rw[ha,if_neg h2];exact⟨rfl,rfl⟩⟩)
      have hd0:DB (DD (AL 5) 5 xs) 5=0→CL s l (DD (AL 5) 5 xs) 0:=fun ha=>hdk.out _ _ (by
       unfold DO;rw[hres.out,if_neg (by simpa using hE)];exact⟨xs,hxs,by rw[if_pos ha];exact⟨rfl,rfl⟩⟩)
      replace hdz:=AB hdz;replace hd0:=AB hd0;have hEb:(E !=0)=false:=by simpa using hE
      replace hE:=AB hE;replace hxs:=AB hxs;clear hg1 hg2;obtain⟨x1,rfl,_⟩:=ks1 hk;clear hk;have Rp:Blk wp (w.heap.size+1) 70 (AL 5).cells:=(R.only P4 (by simp)).only Op (by simp);obtain⟨bX,oX,rfl,hbX,hcX⟩:=RX.cells (by simp);have hbq: ¬bX=w.heap.size+1:=by have:=(EZ.block VX bX rfl).1;have:=Rp.lt;omega
      obtain⟨_,n0,t0,_⟩:=hcX 0 x1 rfl;simp only[Nat.zero_mul,Nat.one_mul,Nat.reduceMul,Nat.add_zero] at n0 t0;clear hcX Rp;clear VX;have r0:w6.cell? ⟨w.heap.size+1,0,none⟩=some (.int .i64 5):=R6.cell 0;have s0z:=R6.frozen 0;have r1:w6.cell? ⟨w.heap.size+1,1,none⟩=some (.string ⟨#[]⟩):=R6.cell 1;have s1z:=R6.frozen 1;have r2:w6.cell? ⟨w.heap.size+1,2,none⟩=some (.string ⟨#[]⟩):=R6.cell 2;have s2z:=R6.frozen 2;have r3:w6.cell? ⟨w.heap.size+1,3,none⟩=some (.string ⟨#[]⟩):=R6.cell 3;have s3z:=R6.frozen 3;have r4:w6.cell? ⟨w.heap.size+1,4,none⟩=some (.int .u32 0):=R6.cell 4;have s4z:=R6.frozen 4;have r5:w6.cell? ⟨w.heap.size+1,5,none⟩=some (.int .u32 0):=R6.cell 5;have s5z:=R6.frozen 5;have r6:w6.cell? ⟨w.heap.size+1,6,none⟩=some (.int .u32 0):=R6.cell 6;have s6z:=R6.frozen 6;have r7:w6.cell? ⟨w.heap.size+1,7,none⟩=some (.int .u32 0):=R6.cell 7;have s7z:=R6.frozen 7;have r8:w6.cell? ⟨w.heap.size+1,8,none⟩=some (.slice none 0 0):=R6.cell 8;have s8z:=R6.frozen 8;have r9:w6.cell? ⟨w.heap.size+1,9,none⟩=some (.bool false):=R6.cell 9;have s9z:=R6.frozen 9;have r10:w6.cell? ⟨w.heap.size+1,10,none⟩=some (.int .u32 0):=R6.cell 10;have s10z:=R6.frozen 10;have hML:DD (AL 5) 5 [x1]=(⟨5,(strOfNums x1.text),⟨#[]⟩,⟨#[]⟩,0,0,0,0,none,0,[],false,0⟩:RQ):=rfl;rw[hML] at Mok hdz hd0;clear hML;obtain⟨w7,hw7⟩: ∃w7,w7=(w6.setCell ⟨w.heap.size+1,1,none⟩ (.string (strOfNums x1.text))):=⟨_,rfl⟩;have KM:Blk w7 (w.heap.size+1) 70 (RQ.cells (⟨5,(strOfNums x1.text),⟨#[]⟩,⟨#[]⟩,0,0,0,0,none,0,[],false,0⟩:RQ)):=by rw[hw7];exact(R6.set_ 1 (.string (strOfNums x1.text)))
      have OM:Only [w.heap.size+1] w6 w7:=by rw[hw7];exact((Only.refl [w.heap.size+1] w6).setCell (p:=⟨w.heap.size+1,1,none⟩) (.inl (by simp)) (.string (strOfNums x1.text)))
      have hMb: ∀a,(RQ.mA (⟨5,(strOfNums x1.text),⟨#[]⟩,⟨#[]⟩,0,0,0,0,none,0,[],false,0⟩:RQ))=some a→0<(RQ.modes (⟨5,(strOfNums x1.text),⟨#[]⟩,⟨#[]⟩,0,0,0,0,none,0,[],false,0⟩:RQ)).length→a.block≠w.heap.size+1:=fun a ha h0=>BZ R6 Mok.modes h0 a ha;have Mok7:=Mok.onlyN OM hMb;have FT:=CQ (⟨5,(strOfNums x1.text),⟨#[]⟩,⟨#[]⟩,0,0,0,0,none,0,[],false,0⟩:RQ) w7 5 (by decide) (by decide) rfl Mok7;obtain⟨E2,hE2⟩: ∃E2,DB (⟨5,(strOfNums x1.text),⟨#[]⟩,⟨#[]⟩,0,0,0,0,none,0,[],false,0⟩:RQ) 5=E2:=⟨_,rfl⟩;rw[hE2] at FT;have O7:Only [] w w7:=O6.trans OM (fun x hx=>.inr (by simp at hx;omega));have G7:=G6.only OM (by simp);replace hE2:=AB hE2;replace KM:=AB KM;replace hMb:=AB hMb;replace Mok:=AB Mok;replace Mok7:=AB Mok7;unfold RQ.val at FT;dsimp only at FT;replace FT:=AB FT;have kc0:(convert 34 9 (.slice x1.tA x1.text.length x1.tc)).run Tryz.prog w6 = .ok (.string (strOfNums x1.text)) w6:=EP (MX x1 (by simp)).text;replace FT:=FT.out;go_wp2_with fail
      rw[←hw7];replace hw7:=AB hw7;go_call FT as e w8 ⟨rfl,P8⟩
      clear FT;clear r0 s0z r1 s1z r2 s2z r3 s3z r4 s4z r5 s5z r6 s6z r7 s7z r8 s8z r9 s9z r10 s10z n0 t0 kc0;have O8:=O7.trans P8 (by simp);have G8:=G7.only P8 (by simp);have K8:=KM.out.only P8 (by simp);have m0:w8.cell? ⟨w.heap.size+1,0,none⟩=some (.int .i64 5):=K8.cell 0;have m1:w8.cell? ⟨w.heap.size+1,1,none⟩=some (.string (strOfNums x1.text)):=K8.cell 1;have m2:w8.cell? ⟨w.heap.size+1,2,none⟩=some (.string ⟨#[]⟩):=K8.cell 2;have m3:w8.cell? ⟨w.heap.size+1,3,none⟩=some (.string ⟨#[]⟩):=K8.cell 3;have m4:w8.cell? ⟨w.heap.size+1,4,none⟩=some (.int .u32 0):=K8.cell 4;have m5:w8.cell? ⟨w.heap.size+1,5,none⟩=some (.int .u32 0):=K8.cell 5;have m6:w8.cell? ⟨w.heap.size+1,6,none⟩=some (.int .u32 0):=K8.cell 6;have m7:w8.cell? ⟨w.heap.size+1,7,none⟩=some (.int .u32 0):=K8.cell 7;have m8:w8.cell? ⟨w.heap.size+1,8,none⟩=some (.slice none 0 0):=K8.cell 8;have m9:w8.cell? ⟨w.heap.size+1,9,none⟩=some (.bool false):=K8.cell 9;have m10:w8.cell? ⟨w.heap.size+1,10,none⟩=some (.int .u32 0):=K8.cell 10;have g0:w8.cell? ⟨w.heap.size,0,none⟩=some (.int .i64 0):=G8.cell 0;have f0:=G8.frozen 0;have g1:w8.cell? ⟨w.heap.size,1,none⟩=some (.string ⟨#[]⟩):=G8.cell 1;have f1:=G8.frozen 1;have g2:w8.cell? ⟨w.heap.size,2,none⟩=some (.string ⟨#[]⟩):=G8.cell 2;have f2:=G8.frozen 2;have g3:w8.cell? ⟨w.heap.size,3,none⟩=some (.string ⟨#[]⟩):=G8.cell 3;have f3:=G8.frozen 3;have g4:w8.cell? ⟨w.heap.size,4,none⟩=some (.int .u32 0):=G8.cell 4;have f4:=G8.frozen 4;have g5:w8.cell? ⟨w.heap.size,5,none⟩=some (.int .u32 0):=G8.cell 5;have f5:=G8.frozen 5;have g6:w8.cell? ⟨w.heap.size,6,none⟩=some (.int .u32 0):=G8.cell 6;have f6:=G8.frozen 6;have g7:w8.cell? ⟨w.heap.size,7,none⟩=some (.int .u32 0):=G8.cell 7;have f7:=G8.frozen 7;have g8:w8.cell? ⟨w.heap.size,8,none⟩=some (.slice none 0 0):=G8.cell 8;have f8:=G8.frozen 8;have g9:w8.cell? ⟨w.heap.size,9,none⟩=some (.bool false):=G8.cell 9;have f9:=G8.frozen 9;have g10:w8.cell? ⟨w.heap.size,10,none⟩=some (.int .u32 0):=G8.cell 10;have f10:=G8.frozen 10;by_cases hz:E2=0
      ·have hzb:(E2 !=0)=false:=by simpa using hz
       have hD:=hd0.out (by rw[hE2.out];exact hz);replace hz:=AB hz;replace hD:=AB hD;go_wp2_with fail
       (try simp only[Exit.inBlock,Exit.then])
       refine BD (g:=w.heap.size) (⟨5,(strOfNums x1.text),⟨#[]⟩,⟨#[]⟩,0,0,0,0,none,0,[],false,0⟩:RQ) rfl (by rfl) (by rfl) (CS (⟨5,(strOfNums x1.text),⟨#[]⟩,⟨#[]⟩,0,0,0,0,none,0,[],false,0⟩:RQ) G8) ?_;have hx:=BX (⟨5,(strOfNums x1.text),⟨#[]⟩,⟨#[]⟩,0,0,0,0,none,0,[],false,0⟩:RQ) (L:=[w.heap.size]) (w0:=w8) (w:=w8) (q:=w.heap.size) (.inl (by simp)) (Only.refl _ _);have Mok8:=Mok7.out.only P8;exact⟨BX (⟨5,(strOfNums x1.text),⟨#[]⟩,⟨#[]⟩,0,0,0,0,none,0,[],false,0⟩:RQ) (.inr (Nat.le_refl _)) O8,(⟨5,(strOfNums x1.text),⟨#[]⟩,⟨#[]⟩,0,0,0,0,none,0,[],false,0⟩:RQ),0,rfl,Mok8.onlyN hx (fun a ha h0=>BZ G8 Mok8.modes h0 a ha),hD.out,fun a ha=>by simp at ha⟩
      ·have hzb:(E2 !=0)=true:=by simpa using hz
       have hD:=hdz.out E2 hz hE2.out;replace hz:=AB hz;replace hD:=AB hD;go_wp2_with fail
       (try simp only[Exit.inBlock,Exit.then])
       refine BD (g:=w.heap.size) AI rfl (by rfl) (by rfl) (CS AI G8) ?_;exact⟨BX AI (.inr (Nat.le_refl _)) O8,AI,E2,rfl,BL _,hD.out,fun a ha=>by simp[AI] at ha⟩
     ·have hEb:(E !=0)=true:=by simpa using hE
      have hD:CL s l AI E:=hdk.out _ _ (by
       unfold DO;rw[hres.out,if_pos (by simpa using hE)];exact⟨rfl,rfl⟩)
      replace hE:=AB hE;replace hD:=AB hD;replace hxs:=AB hxs;have g0:w6.cell? ⟨w.heap.size,0,none⟩=some (.int .i64 0):=G6.cell 0;have f0:=G6.frozen 0;have g1:w6.cell? ⟨w.heap.size,1,none⟩=some (.string ⟨#[]⟩):=G6.cell 1;have f1:=G6.frozen 1;have g2:w6.cell? ⟨w.heap.size,2,none⟩=some (.string ⟨#[]⟩):=G6.cell 2;have f2:=G6.frozen 2;have g3:w6.cell? ⟨w.heap.size,3,none⟩=some (.string ⟨#[]⟩):=G6.cell 3;have f3:=G6.frozen 3;have g4:w6.cell? ⟨w.heap.size,4,none⟩=some (.int .u32 0):=G6.cell 4;have f4:=G6.frozen 4;have g5:w6.cell? ⟨w.heap.size,5,none⟩=some (.int .u32 0):=G6.cell 5;have f5:=G6.frozen 5;have g6:w6.cell? ⟨w.heap.size,6,none⟩=some (.int .u32 0):=G6.cell 6;have f6:=G6.frozen 6;have g7:w6.cell? ⟨w.heap.size,7,none⟩=some (.int .u32 0):=G6.cell 7;have f7:=G6.frozen 7;have g8:w6.cell? ⟨w.heap.size,8,none⟩=some (.slice none 0 0):=G6.cell 8;have f8:=G6.frozen 8;have g9:w6.cell? ⟨w.heap.size,9,none⟩=some (.bool false):=G6.cell 9;have f9:=G6.frozen 9;have g10:w6.cell? ⟨w.heap.size,10,none⟩=some (.int .u32 0):=G6.cell 10;have f10:=G6.frozen 10;go_wp2_with fail
      (try simp only[Exit.inBlock,Exit.then])
      refine BD (g:=w.heap.size) AI rfl (by rfl) (by rfl) (CS AI G6) ?_;exact⟨BX AI (.inr (Nat.le_refl _)) O6,AI,E,rfl,BL _,hD.out,fun a ha=>by simp[AI] at ha⟩
theorem refdec_k8 (A:Option Addr) (l:List Int) (c:Nat) (w:World) (h:Rd w A l) (hl:InB l) (hln:l.length≤140737488355000) (hlc:l.length≤c) (hlm:c≤maxLen) :
  Calls Tryz.prog 23 #[.string (AR 8),.slice A l.length c] w (CK w (AR 8) l):=by
 obtain⟨ln,hn⟩: ∃ln,l.length=ln:=⟨_,rfl⟩;rw[hn] at hln hlc⊢;replace hn:=AB hn;obtain⟨s,hs⟩: ∃s,AR 8=s:=⟨_,rfl⟩;rw[hs];replace hs:=AB hs;obtain⟨w2,hw2⟩: ∃w2,w2=(w.alloc (.cells #[.int .i64 0,.string ⟨#[]⟩,.string ⟨#[]⟩,.string ⟨#[]⟩,.int .u32 0,.int .u32 0,.int .u32 0,.int .u32 0,.slice none 0 0,.bool false,.int .u32 0] 70)).alloc (.cells #[.int .i64 0,.string ⟨#[]⟩,.string ⟨#[]⟩,.string ⟨#[]⟩,.int .u32 0,.int .u32 0,.int .u32 0,.int .u32 0,.slice none 0 0,.bool false,.int .u32 0] 70):=⟨_,rfl⟩;have P2:Only [] w w2:=by rw[hw2];exact((Only.refl _ _).alloc _).alloc _
 have G2:Blk w2 w.heap.size 70 AI.cells:=by rw[hw2];exact(Blk.new w _ _).alloc _
 have R2:Blk w2 (w.heap.size+1) 70 (BU (CO 8 1)):=by
  rw[hw2];have:=Blk.new (w.alloc (.cells #[.int .i64 0,.string ⟨#[]⟩,.string ⟨#[]⟩,.string ⟨#[]⟩,.int .u32 0,.int .u32 0,.int .u32 0,.int .u32 0,.slice none 0 0,.bool false,.int .u32 0] 70)) 70 [.int .i64 0,.string ⟨#[]⟩,.string ⟨#[]⟩,.string ⟨#[]⟩,.int .u32 0,.int .u32 0,.int .u32 0,.int .u32 0,.slice none 0 0,.bool false,.int .u32 0];rwa[show(w.alloc (.cells #[.int .i64 0,.string ⟨#[]⟩,.string ⟨#[]⟩,.string ⟨#[]⟩,.int .u32 0,.int .u32 0,.int .u32 0,.int .u32 0,.slice none 0 0,.bool false,.int .u32 0] 70)).heap.size=w.heap.size+1 by simp] at this
 go_enter Tryz.func23,Tryz.ntmps23
 go_wp2_with fail
 rw[←hw2];replace hw2:=AB hw2;go_loopw [7] (fun ii wr=>∃i:Nat,1≤i∧i≤11∧ii = .int .i64 i∧Blk wr (w.heap.size+1) 70 (BU (CO 8 i))∧Only [w.heap.size+1] w2 wr) (fun ii _=>11-(intOf ii).toNat)
 case atStart=>exact⟨1,by omega,by omega,rfl,R2,Only.refl _ _⟩
 case round=>
  obtain⟨wo,rfl⟩: ∃wo:World,wo=wr:=⟨_,rfl⟩;obtain⟨i,hi1,hi,rfl,R,O⟩:=hrel;by_cases hlt:i≤10
  ·have NA:=CJ i hi1 hlt wo;obtain⟨nm,hnm⟩: ∃nm,AR i=nm:=⟨_,rfl⟩;rw[hnm] at NA;by_cases hik:i=8
   ·have s1:(nm.toList==s.toList)=true:=JO (by rw[←hnm,←hs.out,hik]);have c0:wo.cell? ⟨w.heap.size+1,0,none⟩=some (.int .i64 (CO 8 i)):=R.cell 0;have z0:=R.frozen 0;have R':Blk (wo.setCell ⟨w.heap.size+1,0,none⟩ (.int .i64 (i:Int))) (w.heap.size+1) 70 (BU (CO 8 (i+1))):=by
     have:=R.set_ 0 (.int .i64 (i:Int));rw[DW] at this;rw[show CO 8 (i+1)=(i:Int) by rw[hik];rfl];exact this
    have O':Only [w.heap.size+1] w2 (wo.setCell ⟨w.heap.size+1,0,none⟩ (.int .i64 (i:Int))):=O.setCell (p:=⟨w.heap.size+1,0,none⟩) (.inl (by simp)) _;replace hnm:=AB hnm;replace hik:=AB hik;go_wp2_with fail
    go_call NA as e w3 ⟨rfl,rfl⟩
    go_wp2_with fail
    go_roundw
    case rel=>exact⟨i+1,by omega,by omega,by go_num,R',O'⟩
    case measure=>simp[intOf];omega
   ·have s1:(nm.toList==s.toList)=false:=IE (fun e=>hik (ES hi1 hlt (by decide) (by decide) (by rw[←BB,←BB,hnm,hs.out,e])));have hkd:=ED hik;rw[←hkd] at R;replace hnm:=AB hnm;replace hkd:=AB hkd;go_wp2_with fail
    go_call NA as e w3 ⟨rfl,rfl⟩
    go_wp2_with fail
    go_roundw
    case rel=>exact⟨i+1,by omega,by omega,by go_num,R,O⟩
    case measure=>simp[intOf];omega
  ·obtain rfl:i=11:=by omega
   have G:=G2.only O (by simp);have OO:Only [] w wo:=P2.trans O (fun x hx=>.inr (by simp at hx;omega));replace R:Blk wo (w.heap.size+1) 70 (AL 8).cells:=R;have b0:wo.cell? ⟨w.heap.size+1,0,none⟩=some (.int .i64 8):=R.cell 0;have b1:wo.cell? ⟨w.heap.size+1,1,none⟩=some (.string ⟨#[]⟩):=R.cell 1;have b2:wo.cell? ⟨w.heap.size+1,2,none⟩=some (.string ⟨#[]⟩):=R.cell 2;have b3:wo.cell? ⟨w.heap.size+1,3,none⟩=some (.string ⟨#[]⟩):=R.cell 3;have b4:wo.cell? ⟨w.heap.size+1,4,none⟩=some (.int .u32 0):=R.cell 4;have b5:wo.cell? ⟨w.heap.size+1,5,none⟩=some (.int .u32 0):=R.cell 5;have b6:wo.cell? ⟨w.heap.size+1,6,none⟩=some (.int .u32 0):=R.cell 6;have b7:wo.cell? ⟨w.heap.size+1,7,none⟩=some (.int .u32 0):=R.cell 7;have b8:wo.cell? ⟨w.heap.size+1,8,none⟩=some (.slice none 0 0):=R.cell 8;have b9:wo.cell? ⟨w.heap.size+1,9,none⟩=some (.bool false):=R.cell 9;have b10:wo.cell? ⟨w.heap.size+1,10,none⟩=some (.int .u32 0):=R.cell 10;have FA:Calls Tryz.prog 37 #[.agg #[.int .i64 8,.string ⟨#[]⟩,.string ⟨#[]⟩,.string ⟨#[]⟩,.int .u32 0,.int .u32 0,.int .u32 0,.int .u32 0,.slice none 0 0,.bool false,.int .u32 0]] wo (AZ wo (DM (AL 8) 8)):=CG (AL 8) wo 8 (by decide) (by decide) rfl (DP _ _) (Nat.zero_le _) (Nat.zero_le _) (Nat.zero_le _);go_wp2_with fail
   go_call FA as e w4 ⟨P4,v0,fs,rfl,V4,hp,M4,N4⟩
   clear FA b0 b1 b2 b3 b4 b5 b6 b7 b8 b9 b10;have hkf:fs.map (fun f=>f.pf.kind)=AC 8:=by
    have:=congrArg (List.map PF.kind) hp;rw[List.map_map] at this;exact this.trans (DF _ 8 (by decide) (by decide))
   have hfl:fs.length=1:=DQ hkf;obtain⟨AF,cF,rfl,_,_,_⟩:=V4.form;have RF:=V4.rdF (fun f hf=>⟨(M4 f hf).1,N4 f hf⟩);rw[hfl];have O4:Only [] w w4:=OO.trans P4 (by simp);replace hfl:=AB hfl;replace hp:=AB hp;replace hkf:=AB hkf;clear M4 N4 V4;go_wp2_with fail
   go_loopw [38,10] (fun ii o wr=>∃(i:Nat) (v:Value),i≤1∧ii = .int .i64 i∧v=o∧IW wr w4.heap.size v ((AC 8).take i)∧Only [] w4 wr) (fun ii _ _=>1-(intOf ii).toNat)
   case atStart=>exact⟨0,_,by omega,rfl,rfl,FL _ _,Only.refl _ _⟩
   case round=>
    obtain⟨wp,rfl⟩: ∃wp:World,wp=wr:=⟨_,rfl⟩;obtain⟨j,v,hj,rfl,rfl,V,Op⟩:=hrel;have hob:=V.block;have zo:=Op.size;by_cases hlj:j<1
    ·skip;obtain⟨bF,offF,rfl,hbF,hcF⟩:=RF.cells (by have:=hfl.out;omega);obtain⟨f,hf⟩: ∃f,fs[j]? = some f:=⟨_,List.getElem?_eq_getElem (by have:=hfl.out;omega)⟩;obtain⟨e0,e1,e2,e3⟩:=hcF j f hf;have y0:=AV Op hbF (by simp) e0;have y1:=AV Op hbF (by simp) e1;have y2:=AV Op hbF (by simp) e2;have y3:=AV Op hbF (by simp) e3;have hkj:(AC 8)[j]? = some f.kind:=by rw[←hkf.out,List.getElem?_map,hf];rfl
     have hks:(AC 8).take (j+1)=(AC 8).take j++[f.kind]:=CX hkj;have hll:((AC 8).take j).length≤10:=by rw[List.length_take];omega
     have X5:Only [] wp ((wp.alloc (.cells #[.int .i64 f.kind,.int .u32 f.n,.slice f.tA f.text.length f.tc,.slice f.lA f.list.length f.lc] 86)).alloc (.cells #[.int .i64 f.kind] 3)):=((Only.refl _ _).alloc _).alloc _;have R5:RdI ((wp.alloc (.cells #[.int .i64 f.kind,.int .u32 f.n,.slice f.tA f.text.length f.tc,.slice f.lA f.list.length f.lc] 86)).alloc (.cells #[.int .i64 f.kind] 3)) (some ⟨wp.heap.size+1,0,none⟩) [f.kind]:=by
      have:=II (wp.alloc (.cells #[.int .i64 f.kind,.int .u32 f.n,.slice f.tA f.text.length f.tc,.slice f.lA f.list.length f.lc] 86)) #[.int .i64 f.kind] [f.kind] rfl;rwa[show(wp.alloc (.cells #[.int .i64 f.kind,.int .u32 f.n,.slice f.tA f.text.length f.tc,.slice f.lA f.list.length f.lc] 86)).heap.size=wp.heap.size+1 by simp] at this
     have V5:=V.far X5 (fun x hx=>by simp at hx);obtain⟨ks,hksv⟩: ∃ks,(AC 8).take j=ks:=⟨_,rfl⟩;rw[hksv] at V5 hll hks;replace hks:=AB hks;replace hksv:=AB hksv;replace hkj:=AB hkj;replace hf:=AB hf;clear e0 e1 e2 e3 hcF;go_wp2_with (at_builtin;go_must (refine DU rfl (.tmp 42) (.tmp 45) rfl w4.heap.size v ks rfl V5 (some ⟨wp.heap.size+1,0,none⟩) 1 [f.kind] _ rfl rfl R5 (by simp;omega) (by simp;omega) ?_;intro v9 w9 V9 P9))
     go_roundw
     case rel=>
      refine⟨j+1,_,by omega,by go_num,rfl,?_,(Op.trans X5 (by simp)).trans P9 (fun x hx=>.inr (hob x (by simpa using hx)).1)⟩;rw[hks.out];exact V9.out
     case measure=>simp[intOf];omega
    ·obtain rfl:j=1:=by omega
     rw[show(AC 8).take 1=AC 8 from rfl] at V;obtain⟨Ak,ck,rfl,Rk,hck,hcm,hAk⟩:=V.rd;have O5:Only [] w wp:=O4.trans Op (by simp);have RD:=DS wp Ak A (AC 8) l ck c Rk (h.only O5) hl (by decide) (by have:=hn.out;omega) (by have:=hn.out;omega) hlm;obtain⟨⟨E,ps⟩,hres⟩: ∃r,EJ (AC 8) l=r:=⟨_,rfl⟩;rw[hres,hn.out] at RD;have hgood:=CW (AC 8) l hl;rw[hres] at hgood;have hdk: ∀m E,DO 8 l m E→CL s l m E:=fun m E hd=>by rw[←hs.out];exact DI (by decide) (by decide) hd
     replace hres:=AB hres;replace hgood:=AB hgood;replace hdk:=AB hdk;rw[show(AC 8).length=1 from rfl] at RD⊢;clear V hck hcm hAk;go_wp2_with fail
     go_call RD as e w6 ⟨P6,Ax,cx,xs,rfl,hxs,VX,MX⟩
     clear RD;(try dsimp only at hxs)
     (try dsimp only)
     have O6:Only [] w w6:=O5.trans P6 (by simp);have G6:=((G.only P4 (by simp)).only Op (by simp)).only P6 (by simp);have R6:=((R.only P4 (by simp)).only Op (by simp)).only P6 (by simp);by_cases hE:E=0
     ·obtain⟨hg1,hg2⟩:=hgood.out hE;(try dsimp only at hg1 hg2)
      have hk:xs.map (fun f=>f.pf.kind)=AC 8:=by rw[←hg1,←hxs,List.map_map];rfl
      have hff: ∀f∈xs,U32 f.n∧InB f.text:=fun f hf=>hg2 f.pf (by rw[←hxs];exact List.mem_map_of_mem hf);have Mok:=HE 8 (by decide) (by decide) hk MX hff;have RX:=VX.rdF (fun f hf=>⟨MX f hf,(hff f hf).1⟩);have hdz: ∀(E2:Int),E2≠0→DB (DD (AL 8) 8 xs) 8=E2→CL s l AI E2:=fun E2 h2 ha=>hdk.out _ _ (by
       unfold DO;rw[hres.out,if_neg (by simpa using hE)];exact⟨xs,hxs,by rw[ha,if_neg h2];exact⟨rfl,rfl⟩⟩)
      have hd0:DB (DD (AL 8) 8 xs) 8=0→CL s l (DD (AL 8) 8 xs) 0:=fun ha=>hdk.out _ _ (by
       unfold DO;rw[hres.out,if_neg (by simpa using hE)];exact⟨xs,hxs,by rw[if_pos ha];exact⟨rfl,rfl⟩⟩)
      replace hdz:=AB hdz;replace hd0:=AB hd0;have hEb:(E !=0)=false:=by simpa using hE
      replace hE:=AB hE;replace hxs:=AB hxs;clear hg1 hg2;obtain⟨x1,rfl,_⟩:=ks1 hk;clear hk;have Rp:Blk wp (w.heap.size+1) 70 (AL 8).cells:=(R.only P4 (by simp)).only Op (by simp);obtain⟨bX,oX,rfl,hbX,hcX⟩:=RX.cells (by simp);have hbq: ¬bX=w.heap.size+1:=by have:=(EZ.block VX bX rfl).1;have:=Rp.lt;omega
      obtain⟨_,n0,t0,_⟩:=hcX 0 x1 rfl;simp only[Nat.zero_mul,Nat.one_mul,Nat.reduceMul,Nat.add_zero] at n0 t0;clear hcX Rp;clear VX;have r0:w6.cell? ⟨w.heap.size+1,0,none⟩=some (.int .i64 8):=R6.cell 0;have s0z:=R6.frozen 0;have r1:w6.cell? ⟨w.heap.size+1,1,none⟩=some (.string ⟨#[]⟩):=R6.cell 1;have s1z:=R6.frozen 1;have r2:w6.cell? ⟨w.heap.size+1,2,none⟩=some (.string ⟨#[]⟩):=R6.cell 2;have s2z:=R6.frozen 2;have r3:w6.cell? ⟨w.heap.size+1,3,none⟩=some (.string ⟨#[]⟩):=R6.cell 3;have s3z:=R6.frozen 3;have r4:w6.cell? ⟨w.heap.size+1,4,none⟩=some (.int .u32 0):=R6.cell 4;have s4z:=R6.frozen 4;have r5:w6.cell? ⟨w.heap.size+1,5,none⟩=some (.int .u32 0):=R6.cell 5;have s5z:=R6.frozen 5;have r6:w6.cell? ⟨w.heap.size+1,6,none⟩=some (.int .u32 0):=R6.cell 6;have s6z:=R6.frozen 6;have r7:w6.cell? ⟨w.heap.size+1,7,none⟩=some (.int .u32 0):=R6.cell 7;have s7z:=R6.frozen 7;have r8:w6.cell? ⟨w.heap.size+1,8,none⟩=some (.slice none 0 0):=R6.cell 8;have s8z:=R6.frozen 8;have r9:w6.cell? ⟨w.heap.size+1,9,none⟩=some (.bool false):=R6.cell 9;have s9z:=R6.frozen 9;have r10:w6.cell? ⟨w.heap.size+1,10,none⟩=some (.int .u32 0):=R6.cell 10;have s10z:=R6.frozen 10;have hML:DD (AL 8) 8 [x1]=(⟨8,(strOfNums x1.text),⟨#[]⟩,⟨#[]⟩,0,0,0,0,none,0,[],false,0⟩:RQ):=rfl;rw[hML] at Mok hdz hd0;clear hML;obtain⟨w7,hw7⟩: ∃w7,w7=(w6.setCell ⟨w.heap.size+1,1,none⟩ (.string (strOfNums x1.text))):=⟨_,rfl⟩;have KM:Blk w7 (w.heap.size+1) 70 (RQ.cells (⟨8,(strOfNums x1.text),⟨#[]⟩,⟨#[]⟩,0,0,0,0,none,0,[],false,0⟩:RQ)):=by rw[hw7];exact(R6.set_ 1 (.string (strOfNums x1.text)))
      have OM:Only [w.heap.size+1] w6 w7:=by rw[hw7];exact((Only.refl [w.heap.size+1] w6).setCell (p:=⟨w.heap.size+1,1,none⟩) (.inl (by simp)) (.string (strOfNums x1.text)))
      have hMb: ∀a,(RQ.mA (⟨8,(strOfNums x1.text),⟨#[]⟩,⟨#[]⟩,0,0,0,0,none,0,[],false,0⟩:RQ))=some a→0<(RQ.modes (⟨8,(strOfNums x1.text),⟨#[]⟩,⟨#[]⟩,0,0,0,0,none,0,[],false,0⟩:RQ)).length→a.block≠w.heap.size+1:=fun a ha h0=>BZ R6 Mok.modes h0 a ha;have Mok7:=Mok.onlyN OM hMb;have FT:=CQ (⟨8,(strOfNums x1.text),⟨#[]⟩,⟨#[]⟩,0,0,0,0,none,0,[],false,0⟩:RQ) w7 8 (by decide) (by decide) rfl Mok7;obtain⟨E2,hE2⟩: ∃E2,DB (⟨8,(strOfNums x1.text),⟨#[]⟩,⟨#[]⟩,0,0,0,0,none,0,[],false,0⟩:RQ) 8=E2:=⟨_,rfl⟩;rw[hE2] at FT;have O7:Only [] w w7:=O6.trans OM (fun x hx=>.inr (by simp at hx;omega));have G7:=G6.only OM (by simp);replace hE2:=AB hE2;replace KM:=AB KM;replace hMb:=AB hMb;replace Mok:=AB Mok;replace Mok7:=AB Mok7;unfold RQ.val at FT;dsimp only at FT;replace FT:=AB FT;have kc0:(convert 34 9 (.slice x1.tA x1.text.length x1.tc)).run Tryz.prog w6 = .ok (.string (strOfNums x1.text)) w6:=EP (MX x1 (by simp)).text;replace FT:=FT.out;go_wp2_with fail
      rw[←hw7];replace hw7:=AB hw7;go_call FT as e w8 ⟨rfl,P8⟩
      clear FT;clear r0 s0z r1 s1z r2 s2z r3 s3z r4 s4z r5 s5z r6 s6z r7 s7z r8 s8z r9 s9z r10 s10z n0 t0 kc0;have O8:=O7.trans P8 (by simp);have G8:=G7.only P8 (by simp);have K8:=KM.out.only P8 (by simp);have m0:w8.cell? ⟨w.heap.size+1,0,none⟩=some (.int .i64 8):=K8.cell 0;have m1:w8.cell? ⟨w.heap.size+1,1,none⟩=some (.string (strOfNums x1.text)):=K8.cell 1;have m2:w8.cell? ⟨w.heap.size+1,2,none⟩=some (.string ⟨#[]⟩):=K8.cell 2;have m3:w8.cell? ⟨w.heap.size+1,3,none⟩=some (.string ⟨#[]⟩):=K8.cell 3;have m4:w8.cell? ⟨w.heap.size+1,4,none⟩=some (.int .u32 0):=K8.cell 4;have m5:w8.cell? ⟨w.heap.size+1,5,none⟩=some (.int .u32 0):=K8.cell 5;have m6:w8.cell? ⟨w.heap.size+1,6,none⟩=some (.int .u32 0):=K8.cell 6;have m7:w8.cell? ⟨w.heap.size+1,7,none⟩=some (.int .u32 0):=K8.cell 7;have m8:w8.cell? ⟨w.heap.size+1,8,none⟩=some (.slice none 0 0):=K8.cell 8;have m9:w8.cell? ⟨w.heap.size+1,9,none⟩=some (.bool false):=K8.cell 9;have m10:w8.cell? ⟨w.heap.size+1,10,none⟩=some (.int .u32 0):=K8.cell 10;have g0:w8.cell? ⟨w.heap.size,0,none⟩=some (.int .i64 0):=G8.cell 0;have f0:=G8.frozen 0;have g1:w8.cell? ⟨w.heap.size,1,none⟩=some (.string ⟨#[]⟩):=G8.cell 1;have f1:=G8.frozen 1;have g2:w8.cell? ⟨w.heap.size,2,none⟩=some (.string ⟨#[]⟩):=G8.cell 2;have f2:=G8.frozen 2;have g3:w8.cell? ⟨w.heap.size,3,none⟩=some (.string ⟨#[]⟩):=G8.cell 3;have f3:=G8.frozen 3;have g4:w8.cell? ⟨w.heap.size,4,none⟩=some (.int .u32 0):=G8.cell 4;have f4:=G8.frozen 4;have g5:w8.cell? ⟨w.heap.size,5,none⟩=some (.int .u32 0):=G8.cell 5;have f5:=G8.frozen 5;have g6:w8.cell? ⟨w.heap.size,6,none⟩=some (.int .u32 0):=G8.cell 6;have f6:=G8.frozen 6;have g7:w8.cell? ⟨w.heap.size,7,none⟩=some (.int .u32 0):=G8.cell 7;have f7:=G8.frozen 7;have g8:w8.cell? ⟨w.heap.size,8,none⟩=some (.slice none 0 0):=G8.cell 8;have f8:=G8.frozen 8;have g9:w8.cell? ⟨w.heap.size,9,none⟩=some (.bool false):=G8.cell 9;have f9:=G8.frozen 9;have g10:w8.cell? ⟨w.heap.size,10,none⟩=some (.int .u32 0):=G8.cell 10;have f10:=G8.frozen 10;by_cases hz:E2=0
      ·have hzb:(E2 !=0)=false:=by simpa using hz
       have hD:=hd0.out (by rw[hE2.out];exact hz);replace hz:=AB hz;replace hD:=AB hD;go_wp2_with fail
       (try simp only[Exit.inBlock,Exit.then])
       refine BD (g:=w.heap.size) (⟨8,(strOfNums x1.text),⟨#[]⟩,⟨#[]⟩,0,0,0,0,none,0,[],false,0⟩:RQ) rfl (by rfl) (by rfl) (CS (⟨8,(strOfNums x1.text),⟨#[]⟩,⟨#[]⟩,0,0,0,0,none,0,[],false,0⟩:RQ) G8) ?_;have hx:=BX (⟨8,(strOfNums x1.text),⟨#[]⟩,⟨#[]⟩,0,0,0,0,none,0,[],false,0⟩:RQ) (L:=[w.heap.size]) (w0:=w8) (w:=w8) (q:=w.heap.size) (.inl (by simp)) (Only.refl _ _);have Mok8:=Mok7.out.only P8;exact⟨BX (⟨8,(strOfNums x1.text),⟨#[]⟩,⟨#[]⟩,0,0,0,0,none,0,[],false,0⟩:RQ) (.inr (Nat.le_refl _)) O8,(⟨8,(strOfNums x1.text),⟨#[]⟩,⟨#[]⟩,0,0,0,0,none,0,[],false,0⟩:RQ),0,rfl,Mok8.onlyN hx (fun a ha h0=>BZ G8 Mok8.modes h0 a ha),hD.out,fun a ha=>by simp at ha⟩
      ·have hzb:(E2 !=0)=true:=by simpa using hz
       have hD:=hdz.out E2 hz hE2.out;replace hz:=AB hz;replace hD:=AB hD;go_wp2_with fail
       (try simp only[Exit.inBlock,Exit.then])
       refine BD (g:=w.heap.size) AI rfl (by rfl) (by rfl) (CS AI G8) ?_;exact⟨BX AI (.inr (Nat.le_refl _)) O8,AI,E2,rfl,BL _,hD.out,fun a ha=>by simp[AI] at ha⟩
     ·have hEb:(E !=0)=true:=by simpa using hE
      have hD:CL s l AI E:=hdk.out _ _ (by
       unfold DO;rw[hres.out,if_pos (by simpa using hE)];exact⟨rfl,rfl⟩)
      replace hE:=AB hE;replace hD:=AB hD;replace hxs:=AB hxs;have g0:w6.cell? ⟨w.heap.size,0,none⟩=some (.int .i64 0):=G6.cell 0;have f0:=G6.frozen 0;have g1:w6.cell? ⟨w.heap.size,1,none⟩=some (.string ⟨#[]⟩):=G6.cell 1;have f1:=G6.frozen 1;have g2:w6.cell? ⟨w.heap.size,2,none⟩=some (.string ⟨#[]⟩):=G6.cell 2;have f2:=G6.frozen 2;have g3:w6.cell? ⟨w.heap.size,3,none⟩=some (.string ⟨#[]⟩):=G6.cell 3;have f3:=G6.frozen 3;have g4:w6.cell? ⟨w.heap.size,4,none⟩=some (.int .u32 0):=G6.cell 4;have f4:=G6.frozen 4;have g5:w6.cell? ⟨w.heap.size,5,none⟩=some (.int .u32 0):=G6.cell 5;have f5:=G6.frozen 5;have g6:w6.cell? ⟨w.heap.size,6,none⟩=some (.int .u32 0):=G6.cell 6;have f6:=G6.frozen 6;have g7:w6.cell? ⟨w.heap.size,7,none⟩=some (.int .u32 0):=G6.cell 7;have f7:=G6.frozen 7;have g8:w6.cell? ⟨w.heap.size,8,none⟩=some (.slice none 0 0):=G6.cell 8;have f8:=G6.frozen 8;have g9:w6.cell? ⟨w.heap.size,9,none⟩=some (.bool false):=G6.cell 9;have f9:=G6.frozen 9;have g10:w6.cell? ⟨w.heap.size,10,none⟩=some (.int .u32 0):=G6.cell 10;have f10:=G6.frozen 10;go_wp2_with fail
      (try simp only[Exit.inBlock,Exit.then])
      refine BD (g:=w.heap.size) AI rfl (by rfl) (by rfl) (CS AI G6) ?_;exact⟨BX AI (.inr (Nat.le_refl _)) O6,AI,E,rfl,BL _,hD.out,fun a ha=>by simp[AI] at ha⟩
end Go.Proofs.YtkgikodiecmakaaGreatDoor
