/- ClientSends: lemmas, from 'The document's answer for layer 3: Decode' on; what each asks for stands in it. -/
import Derived.Test.YtfbhemmpobgdpaaGreatDoorCsR
import Derived.Test.YtfbhemmpobgdpaaGreatDoorCsO
import Derived.Test.YtfbhemmpobgdpaaGreatDoorCsM
import Derived.Test.YtfbhemmpobgdpaaGreatDoorCsP
set_option linter.all false
set_option maxRecDepth 100000
set_option maxHeartbeats 64000000
namespace Go.Proofs.YtfbhemmpobgdpaaGreatDoor
open Go.RowKit
theorem rdec_k94 (A:Option Addr) (t:List Int) (c:Nat) (w:World) (h:Rd w A (94::t)) (hl:InB (94::t)) (hln:(94::t:List Int).length<=140737488355000) (hlc:(94::t:List Int).length<=c) (hlm:c<=maxLen) :
  Calls Tryz.prog 37 #[.slice A (94::t:List Int).length c] w (HZ w (94::t)):=by
 refine lH 94 A t c w h hl hln hlc fun b off l ln w1 w2 hb cx hll hk1 hn hn1 hn0 hn00 hw1 hz1 hw2 O1 P12 O2 Z2 M2 h hl hln hlc FA=>?_;unfold AE at FA;rw[show BX (AF 94).kind=some [9,1] from rfl] at FA;replace hn:=AB hn;replace hll:=AB hll;replace hk1:=AB hk1;go_enter Tryz.func37,Tryz.ntmps37
 go_wp2_with fail
 rw[<-hw1,<-hw2];replace hw1:=AB hw1;replace hw2:=AB hw2;replace hz1:=AB hz1;go_call FA as e w3 ⟨P3,A0,c0,fs0,rfl,RF0,hfs0,hc0,hm0⟩
 clear FA;have O3:Only [] w w3:=O2.trans P3 (by simp);have Z3:=Z2.only P3 (by simp);have M3:=M2.only P3 (by simp);have hl0:fs0.length=2:=by have:=congrArg List.length hfs0;simpa using this
 have hkk0:fs0.map (·.kind)=[3,4]:=by
  have:=congrArg (List.map PF.kind) hfs0;rw[List.map_map,List.map_map] at this;exact this
 have V4:=KL w3 1;have X4:Only [] w3 (w3.alloc (.cells #[.int .i64 1] 3)):=(zR _ _).alloc _;rw[hl0] at hc0⊢;replace hl0:=AB hl0;replace hfs0:=AB hfs0;replace hkk0:=AB hkk0;go_wp2_with fail
 go_loopw [32,7] (fun i o wr=>∃(kk:Nat) (v:Value),kk<=2/\i = .int .i64 kk/\v=o/\IW wr w3.heap.size v (1::(fs0.take kk).map (·.kind))/\Only [] w3 wr) (fun i _ _=>2-(intOf i).toNat)
 case atStart=>exact⟨0,_,by omega,rfl,rfl,V4,X4⟩
 case round=>
  obtain⟨wo,rfl⟩: ∃wo:World,wo=wr:=⟨_,rfl⟩;obtain⟨kk,v,hkn,rfl,rfl,V,O⟩:=hrel;have hob:=V.block;have z0:=O.size;by_cases hlt:kk<2
  ·obtain⟨f,hf⟩: ∃f,fs0[kk]? = some f:=⟨_,List.getElem?_eq_getElem (by have:=hl0.out;omega)⟩;obtain⟨bF,oF,rfl,hbF,hcF⟩:=(RF0.only O).cells (by have:=hl0.out;omega);obtain⟨c0',c1,c2,c3⟩:=hcF kk f hf;have hks:(1::(fs0.take (kk+1)).map (·.kind))=(1::(fs0.take kk).map (·.kind))++[f.kind]:=by
    rw[DH hf,List.map_append];rfl
   have hlk:(1::(fs0.take kk).map (·.kind)).length=kk+1:=by rw[List.length_cons,List.length_map,List.length_take];have:=hl0.out;omega
   obtain⟨X5,R5⟩:=lI wo f;have V5:=V.far X5 (fun x hx=>by simp at hx);obtain⟨ks,hksv⟩:=qX ((1::(fs0.take kk).map (·.kind)));rw[hksv] at V5 hlk hks;replace hks:=AB hks;replace hksv:=AB hksv;replace hlk:=AB hlk;replace hf:=AB hf;clear hcF;go_wp2_with (at_builtin;go_must (refine FW rfl (.tmp 36) (.tmp 39) rfl w3.heap.size v ks rfl V5 (some ⟨wo.heap.size+1,0,none⟩) 1 [f.kind] _ rfl rfl R5 (by have:=hlk.out;rw[this];simp;omega) (by simp;omega) ?_;intro v9 w9 V9 P9))
   go_roundw
   case rel=>
    refine⟨kk+1,_,by omega,by go_num,rfl,?_,(O.trans X5 (by simp)).trans P9 (fun x hx=>.inr (hob x (by simpa using hx)).1)⟩;rw[hks.out];exact V9.out
   case measure=>simp[intOf];omega
  ·obtain rfl:kk=2:=by omega
   have V':IW wo w3.heap.size v [1,3,4]:=by
    have e:(1::(fs0.take 2).map (·.kind))=[1,3,4]:=by rw[List.take_of_length_le (by have:=hl0.out;omega),hkk0.out]
    rw[<-e];exact V
   obtain⟨kA,kc,rfl,RK,_,_,_⟩:=V'.rd;have Oo:Only [] w wo:=O3.trans O (by simp);have RR:=GF wo kA (some ⟨b,off,none⟩) [1,3,4] l kc c RK (h.only Oo) hl (by decide) (by have:=hn.out;omega) (by have:=hn.out;omega) hlm;rw[hn.out] at RR;have RR':Calls Tryz.prog 71 #[.slice kA 3 kc,.slice (some ⟨b,off,none⟩) ln c] wo (DU wo (AR [1,3,4] l)):=RR;obtain⟨E,hE⟩:=qX ((AR [1,3,4] l).1);have hgood:=DY [1,3,4] l hl;have hdec: ∀(M:MD) (E':Int),HX w.heap.size M->(if(AR [1,3,4] l).1≠0 then E'=(AR [1,3,4] l).1/\M=AK
     else∃fs:List FD,fs.map FD.pf=(AR [1,3,4] l).2/\if BW (AQ (AF 94) [9,1] fs.tail) then E'=0/\M=AQ (AF 94) [9,1] fs.tail else E'=4/\M=AK)->IT l M E'/\HX w.heap.size M:=fun M E' hnw hx=>by
    refine⟨?_,hnw⟩;rw[<-hll.out] at hx⊢;exact hx
   rw[hE] at hgood;replace hE:=AB hE;replace hgood:=AB hgood;replace hdec:=AB hdec;have Zo:=Z3.only O (by simp);have Mo:=M3.only O (by simp);clear V V' RR RK;go_wp2_with fail
   go_call RR' as e w5 ⟨P5,A5,k5,fs,rfl,hfs,V5,M5m⟩
   have M5: ∀f∈fs,FD.ok w5 f:=fun f hf=>(M5m f hf).ok;clear RR';have O5:Only [] w w5:=Oo.trans P5 (by simp);have Z5:=Zo.only P5 (by simp);have K5:=Mo.only P5 (by simp);rw[hE.out];by_cases hE0:E=0
   ·subst hE0;obtain⟨g1,g2⟩:=hgood.out rfl;rw[<-hfs] at g1 g2;have hfl:fs.length=3:=by have:=congrArg List.length g1;simpa using this
    obtain⟨f0,f1,f2,rfl⟩: ∃f0 f1 f2,fs=[f0,f1,f2]:=by
     match fs,hfl with
     |[f0,f1,f2],_=>exact⟨f0,f1,f2,rfl⟩
    obtain⟨A',cap,eA,hcle,hcmx,hF⟩:=V5.form;injection eA with eA1 eA2 eA3;subst eA1;subst eA3;obtain⟨bF,rfl,hbase,hbF,hcF⟩:=hF (by simp);have hcap:3<=k5:=hcle;have hbw:w.heap.size+1<bF:=by have:=Mo.lt;have:=P5.size;have:wo.heap.size<=bF:=hbase;omega
    have hne4: ¬w.heap.size+1=bF:=by omega
    have hne5: ¬bF=w.heap.size+1:=by omega
    have hne6: ¬w.heap.size=bF:=by omega
    have hne7: ¬bF=w.heap.size:=by omega
    have u1:U32 f1.n/\InB f1.text:=g2 f1.pf (by simp);have o1:f1.ok w5:=M5 f1 (by simp);have u2:U32 f2.n/\InB f2.text:=g2 f2.pf (by simp);have o2:f2.ok w5:=M5 f2 (by simp);obtain⟨M,hM⟩:=qX (AQ (AF 94) [9,1] [f1,f2]);have okM:M.ok w5:=by rw[<-hM];exact ED 1 (ED 9 (EE w5 94) o1 u1.1 u1.2) o2 u2.1 u2.2
    have newM:HX w.heap.size M:=by
     rw[<-hM];exact GY _ _ _ (JV _) fun f hf a ha=>Nat.le_trans (Oo.size) ((M5m f (List.mem_cons_of_mem _ hf)).new.1 a ha)
    clear M5m;replace newM:=AB newM;have s0:w5.cell? ⟨w.heap.size+1,0,none⟩=some (.int .i64 94):=K5.cell 0;have hc1: ¬k5=1:=by omega
    obtain⟨wd,hwd⟩:=qY w5.drew;have Kd0:Blk wd (w.heap.size+1) 37 (AF 94).cells:=by rw[hwd];exact K5.drew
    have Xd0:Only [w.heap.size+1] w5 wd:=by rw[hwd];exact(Only.refl _ w5).drew
    have hI0:(fun w':World=>(∀(j:Nat) (u:Value),(AZ [f0,f1,f2])[j]? = some u->w'.cell? ⟨bF,j,none⟩=some u)/\RdG (.int .u8) w' f2.tA f2.text) wd:=by
     rw[hwd];exact⟨hcF,o2.text⟩
    go_wp2_with fail
    refine AL (fun w':World=>(∀(j:Nat) (u:Value),(AZ [f0,f1,f2])[j]? = some u->w'.cell? ⟨bF,j,none⟩=some u)/\RdG (.int .u8) w' f2.tA f2.text) [] (by kernel_rfl) ?_;rw[show({ w5 with drawn:=w5.drawn+1 }:World)=wd from hwd.symm];replace hwd:=AB hwd;refine wpAnyE_tg 0 (v:=(.slice (some ⟨bF,4,none⟩) 2 (k5-1))) rfl hI0 ?_;refine qP 1 bF 4 rfl hI0 ?_;refine qP 2 bF 5 rfl hI0 ?_;refine wpAnyE_tk 3 (v:=(.int .u32 f1.n)) rfl hI0 (fun w' hw'=>by have y:w'.cell? ⟨bF,5,none⟩=some (.int .u32 f1.n):=hw'.1 5 _ rfl;go_simp) ?_;refine wpAnyE_tg 4 (v:=(.slice (some ⟨bF,4,none⟩) 2 (k5-1))) rfl hI0 ?_;refine qP 5 bF 8 rfl hI0 ?_;refine qP 6 bF 10 rfl hI0 ?_;refine wpAnyE_tk 7 (v:=(.slice f2.tA f2.text.length f2.tc)) rfl hI0 (fun w' hw'=>by have y:w'.cell? ⟨bF,10,none⟩=some (.slice f2.tA f2.text.length f2.tc):=hw'.1 10 _ rfl;go_simp) ?_;refine qP 8 (w.heap.size+1) 1 rfl hI0 ?_;refine AC 9 rfl (by kernel_rfl) hI0 (fun K hK=>?_);rw[if_pos (by kernel_rfl)];have cc:=Kd0.cell 1;have ff:=Kd0.frozen 1;have cc':wd.cell? ⟨w.heap.size+1,1,none⟩=some (.int .u32 0):=cc;clear cc;go_simp
    refine hK _ _ ?_;clear hK K cc' ff;obtain⟨wd1,hwd1⟩:=qY (wd.setCell ⟨w.heap.size+1,1,none⟩ (.int .u32 f1.n));have Kd1:Blk wd1 (w.heap.size+1) 37 (putM (AF 94) 9 f1).cells:=by rw[hwd1];exact Kd0.set_ 1 (.int .u32 f1.n)
    have Xs1:Only [w.heap.size+1] wd wd1:=by rw[hwd1];exact(Only.refl _ wd).setCell (p:=⟨w.heap.size+1,1,none⟩) (.inl (by simp)) _
    have Xd1:Only [w.heap.size+1] w5 wd1:=Xd0.trans Xs1 (fun x hx=>.inl hx);have hI1:(fun w':World=>(∀(j:Nat) (u:Value),(AZ [f0,f1,f2])[j]? = some u->w'.cell? ⟨bF,j,none⟩=some u)/\RdG (.int .u8) w' f2.tA f2.text) wd1:=⟨fun j u hj=>BJ Xs1 (by have:=Xd0.size;show bF<_;omega) (by show bF∉[w.heap.size+1];simp;omega) (hI0.1 j u hj),RdG.onlyL (mk:=.int .u8) hI0.2 Xs1 (fun a ha h0=>by have:=BM Kd0 hI0.2 h0 a ha;simp;omega)⟩;rw[<-hwd1];replace hwd1:=AB hwd1;refine qP 10 (w.heap.size+1) 9 rfl hI1 ?_;refine AC 11 rfl (by kernel_rfl) hI1 (fun K hK=>?_);rw[if_pos (by kernel_rfl)];have cc:=Kd1.cell 9;have ff:=Kd1.frozen 9;have cc':wd1.cell? ⟨w.heap.size+1,9,none⟩=some (.slice none 0 0):=cc;clear cc;go_simp
    refine hK _ _ ?_;clear hK K cc' ff;obtain⟨w6,hw6⟩:=qY (wd1.setCell ⟨w.heap.size+1,9,none⟩ (.slice f2.tA f2.text.length f2.tc));have Kd2:Blk w6 (w.heap.size+1) 37 (putM (putM (AF 94) 9 f1) 1 f2).cells:=by rw[hw6];exact Kd1.set_ 9 (.slice f2.tA f2.text.length f2.tc)
    have Xs2:Only [w.heap.size+1] wd1 w6:=by rw[hw6];exact(Only.refl _ wd1).setCell (p:=⟨w.heap.size+1,9,none⟩) (.inl (by simp)) _
    have Xd2:Only [w.heap.size+1] w5 w6:=Xd1.trans Xs2 (fun x hx=>.inl hx);have hI2:(fun w':World=>(∀(j:Nat) (u:Value),(AZ [f0,f1,f2])[j]? = some u->w'.cell? ⟨bF,j,none⟩=some u)/\RdG (.int .u8) w' f2.tA f2.text) w6:=⟨fun j u hj=>BJ Xs2 (by have:=Xd1.size;show bF<_;omega) (by show bF∉[w.heap.size+1];simp;omega) (hI1.1 j u hj),RdG.onlyL (mk:=.int .u8) hI1.2 Xs2 (fun a ha h0=>by have:=BM Kd1 hI1.2 h0 a ha;simp;omega)⟩;rw[<-hw6];replace hw6:=AB hw6;refine AT (by kernel_rfl) hI2 ?_;(try simp only[Exit.then])
    have K6:Blk w6 (w.heap.size+1) 37 M.cells:=by rw[<-hM];exact Kd2
    have Z6:Blk w6 w.heap.size 37 AK.cells:=Z5.only Xd2 (by simp);have O6:Only [] w w6:=O5.trans Xd2 (fun x hx=>.inr (by simp at hx;omega));have okM6:M.ok w6:=okM.onlyN Xd2 (fun a ha h0=>BM K5 okM.data h0 a ha);clear hI0 hI1 hI2 Kd0 Kd1 Kd2;have WD:=GG M w6 okM.name okM.lang;obtain⟨bf,hbf⟩:=qX (BW M);rw[hbf] at WD;unfold MD.val at WD;obtain⟨a0,a1,a2,a3,a4,a5,a6,a7,a8,a9⟩:=qM K6 M;replace hM:=AB hM;replace hfs:=AB hfs;replace hbf:=AB hbf;go_wp2_with fail
    go_call WD as e w7 ⟨rfl,P7⟩
    clear a0 a1 a2 a3 a4 a5 a6 a7 a8 a9;have K7:=K6.only P7 (by simp);have Z7:=Z6.only P7 (by simp);have O7:Only [] w w7:=O6.trans P7 (by simp);have okM7:M.ok w7:=okM6.only P7;have hlt7:=Z7.lt;have hlk7:=K7.lt;have hq1: ¬w.heap.size=w.heap.size+1:=by omega
    have hq2: ¬w.heap.size+1=w.heap.size:=by omega
    obtain⟨z0,y0,z1,y1,z2,y2,z3,y3,z4,y4,z5,y5,z6,y6,z7,y7,z8,y8,z9,y9⟩:=qZ Z7;cases bf with
    |false=>
     go_wp2_with fail
     (try simp only[Exit.inBlock,Exit.then])
     refine CV (g:=w.heap.size) (m:=AK) rfl (by rfl) (by rfl) (KW Z7) ?_;refine⟨KX (qL _) O7,AK,4,rfl,EA _,hdec.out _ _ EU ?_⟩;rw[hE.out,if_neg (by simp)];refine⟨_,hfs.out,?_⟩;show if BW (AQ (AF 94) [9,1] [f1,f2]) then _ else _
     rw[hM.out,hbf.out,if_neg (by simp)];exact⟨rfl,rfl⟩
    |true=>
     obtain⟨a0,a1,a2,a3,a4,a5,a6,a7,a8,a9⟩:=qM K7 M;go_wp2_with fail
     (try simp only[Exit.inBlock,Exit.then])
     refine CV (g:=w.heap.size) (m:=M) rfl (by rfl) (by rfl) (UP M Z7) ?_;refine⟨JL M (.inr (qL _)) O7,M,0,rfl,okM7.onlyN (q:=w.heap.size) (JL M (.inl (by simp)) (zR _ _)) (fun a ha h0=>BM Z7 okM7.data h0 a ha),hdec.out _ _ newM.out ?_⟩;rw[hE.out,if_neg (by simp)];refine⟨_,hfs.out,?_⟩;show if BW (AQ (AF 94) [9,1] [f1,f2]) then _ else _
     rw[hM.out,hbf.out,if_pos rfl];exact⟨rfl,hM.out.symm⟩
   ·replace hfs:=AB hfs;obtain⟨z0,y0,z1,y1,z2,y2,z3,y3,z4,y4,z5,y5,z6,y6,z7,y7,z8,y8,z9,y9⟩:=qZ Z5;go_wp2_with fail
    (try simp only[Exit.inBlock,Exit.then])
    refine CV (g:=w.heap.size) (m:=AK) rfl (by rfl) (by rfl) (KW Z5) ?_;exact⟨KX (qL _) O5,AK,E,rfl,EA _,hdec.out _ _ EU (by rw[hE.out,if_pos hE0];exact⟨rfl,rfl⟩)⟩
theorem rdec_k90 (A:Option Addr) (t:List Int) (c:Nat) (w:World) (h:Rd w A (90::t)) (hl:InB (90::t)) (hln:(90::t:List Int).length<=140737488355000) (hlc:(90::t:List Int).length<=c) (hlm:c<=maxLen) :
  Calls Tryz.prog 37 #[.slice A (90::t:List Int).length c] w (HZ w (90::t)):=by
 refine lH 90 A t c w h hl hln hlc fun b off l ln w1 w2 hb cx hll hk1 hn hn1 hn0 hn00 hw1 hz1 hw2 O1 P12 O2 Z2 M2 h hl hln hlc FA=>?_;unfold AE at FA;rw[show BX (AF 90).kind=some [3,6,7,8,5] from rfl] at FA;replace hn:=AB hn;replace hll:=AB hll;replace hk1:=AB hk1;go_enter Tryz.func37,Tryz.ntmps37
 go_wp2_with fail
 rw[<-hw1,<-hw2];replace hw1:=AB hw1;replace hw2:=AB hw2;replace hz1:=AB hz1;go_call FA as e w3 ⟨P3,A0,c0,fs0,rfl,RF0,hfs0,hc0,hm0⟩
 clear FA;have O3:Only [] w w3:=O2.trans P3 (by simp);have Z3:=Z2.only P3 (by simp);have M3:=M2.only P3 (by simp);have hl0:fs0.length=5:=by have:=congrArg List.length hfs0;simpa using this
 have hkk0:fs0.map (·.kind)=[4,3,3,3,6]:=by
  have:=congrArg (List.map PF.kind) hfs0;rw[List.map_map,List.map_map] at this;exact this
 have V4:=KL w3 1;have X4:Only [] w3 (w3.alloc (.cells #[.int .i64 1] 3)):=(zR _ _).alloc _;rw[hl0] at hc0⊢;replace hl0:=AB hl0;replace hfs0:=AB hfs0;replace hkk0:=AB hkk0;go_wp2_with fail
 go_loopw [32,7] (fun i o wr=>∃(kk:Nat) (v:Value),kk<=5/\i = .int .i64 kk/\v=o/\IW wr w3.heap.size v (1::(fs0.take kk).map (·.kind))/\Only [] w3 wr) (fun i _ _=>5-(intOf i).toNat)
 case atStart=>exact⟨0,_,by omega,rfl,rfl,V4,X4⟩
 case round=>
  obtain⟨wo,rfl⟩: ∃wo:World,wo=wr:=⟨_,rfl⟩;obtain⟨kk,v,hkn,rfl,rfl,V,O⟩:=hrel;have hob:=V.block;have z0:=O.size;by_cases hlt:kk<5
  ·obtain⟨f,hf⟩: ∃f,fs0[kk]? = some f:=⟨_,List.getElem?_eq_getElem (by have:=hl0.out;omega)⟩;obtain⟨bF,oF,rfl,hbF,hcF⟩:=(RF0.only O).cells (by have:=hl0.out;omega);obtain⟨c0',c1,c2,c3⟩:=hcF kk f hf;have hks:(1::(fs0.take (kk+1)).map (·.kind))=(1::(fs0.take kk).map (·.kind))++[f.kind]:=by
    rw[DH hf,List.map_append];rfl
   have hlk:(1::(fs0.take kk).map (·.kind)).length=kk+1:=by rw[List.length_cons,List.length_map,List.length_take];have:=hl0.out;omega
   obtain⟨X5,R5⟩:=lI wo f;have V5:=V.far X5 (fun x hx=>by simp at hx);obtain⟨ks,hksv⟩:=qX ((1::(fs0.take kk).map (·.kind)));rw[hksv] at V5 hlk hks;replace hks:=AB hks;replace hksv:=AB hksv;replace hlk:=AB hlk;replace hf:=AB hf;clear hcF;go_wp2_with (at_builtin;go_must (refine FW rfl (.tmp 36) (.tmp 39) rfl w3.heap.size v ks rfl V5 (some ⟨wo.heap.size+1,0,none⟩) 1 [f.kind] _ rfl rfl R5 (by have:=hlk.out;rw[this];simp;omega) (by simp;omega) ?_;intro v9 w9 V9 P9))
   go_roundw
   case rel=>
    refine⟨kk+1,_,by omega,by go_num,rfl,?_,(O.trans X5 (by simp)).trans P9 (fun x hx=>.inr (hob x (by simpa using hx)).1)⟩;rw[hks.out];exact V9.out
   case measure=>simp[intOf];omega
  ·obtain rfl:kk=5:=by omega
   have V':IW wo w3.heap.size v [1,4,3,3,3,6]:=by
    have e:(1::(fs0.take 5).map (·.kind))=[1,4,3,3,3,6]:=by rw[List.take_of_length_le (by have:=hl0.out;omega),hkk0.out]
    rw[<-e];exact V
   obtain⟨kA,kc,rfl,RK,_,_,_⟩:=V'.rd;have Oo:Only [] w wo:=O3.trans O (by simp);have RR:=GF wo kA (some ⟨b,off,none⟩) [1,4,3,3,3,6] l kc c RK (h.only Oo) hl (by decide) (by have:=hn.out;omega) (by have:=hn.out;omega) hlm;rw[hn.out] at RR;have RR':Calls Tryz.prog 71 #[.slice kA 6 kc,.slice (some ⟨b,off,none⟩) ln c] wo (DU wo (AR [1,4,3,3,3,6] l)):=RR;obtain⟨E,hE⟩:=qX ((AR [1,4,3,3,3,6] l).1);have hgood:=DY [1,4,3,3,3,6] l hl;have hdec: ∀(M:MD) (E':Int),HX w.heap.size M->(if(AR [1,4,3,3,3,6] l).1≠0 then E'=(AR [1,4,3,3,3,6] l).1/\M=AK
     else∃fs:List FD,fs.map FD.pf=(AR [1,4,3,3,3,6] l).2/\if BW (AQ (AF 90) [3,6,7,8,5] fs.tail) then E'=0/\M=AQ (AF 90) [3,6,7,8,5] fs.tail else E'=4/\M=AK)->IT l M E'/\HX w.heap.size M:=fun M E' hnw hx=>by
    refine⟨?_,hnw⟩;rw[<-hll.out] at hx⊢;exact hx
   rw[hE] at hgood;replace hE:=AB hE;replace hgood:=AB hgood;replace hdec:=AB hdec;have Zo:=Z3.only O (by simp);have Mo:=M3.only O (by simp);clear V V' RR RK;go_wp2_with fail
   go_call RR' as e w5 ⟨P5,A5,k5,fs,rfl,hfs,V5,M5m⟩
   have M5: ∀f∈fs,FD.ok w5 f:=fun f hf=>(M5m f hf).ok;clear RR';have O5:Only [] w w5:=Oo.trans P5 (by simp);have Z5:=Zo.only P5 (by simp);have K5:=Mo.only P5 (by simp);rw[hE.out];by_cases hE0:E=0
   ·subst hE0;obtain⟨g1,g2⟩:=hgood.out rfl;rw[<-hfs] at g1 g2;have hfl:fs.length=6:=by have:=congrArg List.length g1;simpa using this
    obtain⟨f0,f1,f2,f3,f4,f5,rfl⟩: ∃f0 f1 f2 f3 f4 f5,fs=[f0,f1,f2,f3,f4,f5]:=by
     match fs,hfl with
     |[f0,f1,f2,f3,f4,f5],_=>exact⟨f0,f1,f2,f3,f4,f5,rfl⟩
    obtain⟨A',cap,eA,hcle,hcmx,hF⟩:=V5.form;injection eA with eA1 eA2 eA3;subst eA1;subst eA3;obtain⟨bF,rfl,hbase,hbF,hcF⟩:=hF (by simp);have hcap:6<=k5:=hcle;have hbw:w.heap.size+1<bF:=by have:=Mo.lt;have:=P5.size;have:wo.heap.size<=bF:=hbase;omega
    have hne4: ¬w.heap.size+1=bF:=by omega
    have hne5: ¬bF=w.heap.size+1:=by omega
    have hne6: ¬w.heap.size=bF:=by omega
    have hne7: ¬bF=w.heap.size:=by omega
    have u1:U32 f1.n/\InB f1.text:=g2 f1.pf (by simp);have o1:f1.ok w5:=M5 f1 (by simp);have u2:U32 f2.n/\InB f2.text:=g2 f2.pf (by simp);have o2:f2.ok w5:=M5 f2 (by simp);have u3:U32 f3.n/\InB f3.text:=g2 f3.pf (by simp);have o3:f3.ok w5:=M5 f3 (by simp);have u4:U32 f4.n/\InB f4.text:=g2 f4.pf (by simp);have o4:f4.ok w5:=M5 f4 (by simp);have u5:U32 f5.n/\InB f5.text:=g2 f5.pf (by simp);have o5:f5.ok w5:=M5 f5 (by simp);obtain⟨M,hM⟩:=qX (AQ (AF 90) [3,6,7,8,5] [f1,f2,f3,f4,f5]);have okM:M.ok w5:=by rw[<-hM];exact ED 5 (ED 8 (ED 7 (ED 6 (ED 3 (EE w5 90) o1 u1.1 u1.2) o2 u2.1 u2.2) o3 u3.1 u3.2) o4 u4.1 u4.2) o5 u5.1 u5.2
    have newM:HX w.heap.size M:=by
     rw[<-hM];exact GY _ _ _ (JV _) fun f hf a ha=>Nat.le_trans (Oo.size) ((M5m f (List.mem_cons_of_mem _ hf)).new.1 a ha)
    clear M5m;replace newM:=AB newM;have s0:w5.cell? ⟨w.heap.size+1,0,none⟩=some (.int .i64 90):=K5.cell 0;have hc1: ¬k5=1:=by omega
    obtain⟨wd,hwd⟩:=qY w5.drew;have Kd0:Blk wd (w.heap.size+1) 37 (AF 90).cells:=by rw[hwd];exact K5.drew
    have Xd0:Only [w.heap.size+1] w5 wd:=by rw[hwd];exact(Only.refl _ w5).drew
    have hI0:(fun w':World=>(∀(j:Nat) (u:Value),(AZ [f0,f1,f2,f3,f4,f5])[j]? = some u->w'.cell? ⟨bF,j,none⟩=some u)/\RdG (.int .u8) w' f1.tA f1.text/\RdG (.int .u8) w' f5.tA f5.text) wd:=by
     rw[hwd];exact⟨hcF,o1.text,o5.text⟩
    go_wp2_with fail
    refine AL (fun w':World=>(∀(j:Nat) (u:Value),(AZ [f0,f1,f2,f3,f4,f5])[j]? = some u->w'.cell? ⟨bF,j,none⟩=some u)/\RdG (.int .u8) w' f1.tA f1.text/\RdG (.int .u8) w' f5.tA f5.text) [] (by kernel_rfl) ?_;rw[show({ w5 with drawn:=w5.drawn+1 }:World)=wd from hwd.symm];replace hwd:=AB hwd;refine wpAnyE_tg 0 (v:=(.slice (some ⟨bF,4,none⟩) 5 (k5-1))) rfl hI0 ?_;refine qP 1 bF 4 rfl hI0 ?_;refine qP 2 bF 6 rfl hI0 ?_;refine wpAnyE_tk 3 (v:=(.slice f1.tA f1.text.length f1.tc)) rfl hI0 (fun w' hw'=>by have y:w'.cell? ⟨bF,6,none⟩=some (.slice f1.tA f1.text.length f1.tc):=hw'.1 6 _ rfl;go_simp) ?_;refine wpAnyE_tk 4 (v:=(.string (strOfNums f1.text))) rfl hI0 (fun w' hw'=>by have cv:=LY (w:=w') (A:=f1.tA) (l:=f1.text) (c:=f1.tc) (hw'.2.1);go_simp) ?_;refine wpAnyE_tg 5 (v:=(.slice (some ⟨bF,4,none⟩) 5 (k5-1))) rfl hI0 ?_;refine qP 6 bF 8 rfl hI0 ?_;refine qP 7 bF 9 rfl hI0 ?_;refine wpAnyE_tk 8 (v:=(.int .u32 f2.n)) rfl hI0 (fun w' hw'=>by have y:w'.cell? ⟨bF,9,none⟩=some (.int .u32 f2.n):=hw'.1 9 _ rfl;go_simp) ?_;refine wpAnyE_tg 9 (v:=(.slice (some ⟨bF,4,none⟩) 5 (k5-1))) rfl hI0 ?_;refine qP 10 bF 12 rfl hI0 ?_;refine qP 11 bF 13 rfl hI0 ?_;refine wpAnyE_tk 12 (v:=(.int .u32 f3.n)) rfl hI0 (fun w' hw'=>by have y:w'.cell? ⟨bF,13,none⟩=some (.int .u32 f3.n):=hw'.1 13 _ rfl;go_simp) ?_;refine wpAnyE_tg 13 (v:=(.slice (some ⟨bF,4,none⟩) 5 (k5-1))) rfl hI0 ?_;refine qP 14 bF 16 rfl hI0 ?_;refine qP 15 bF 17 rfl hI0 ?_;refine wpAnyE_tk 16 (v:=(.int .u32 f4.n)) rfl hI0 (fun w' hw'=>by have y:w'.cell? ⟨bF,17,none⟩=some (.int .u32 f4.n):=hw'.1 17 _ rfl;go_simp) ?_;refine wpAnyE_tg 17 (v:=(.slice (some ⟨bF,4,none⟩) 5 (k5-1))) rfl hI0 ?_;refine qP 18 bF 20 rfl hI0 ?_;refine qP 19 bF 22 rfl hI0 ?_;refine wpAnyE_tk 20 (v:=(.slice f5.tA f5.text.length f5.tc)) rfl hI0 (fun w' hw'=>by have y:w'.cell? ⟨bF,22,none⟩=some (.slice f5.tA f5.text.length f5.tc):=hw'.1 22 _ rfl;go_simp) ?_;refine qP 21 (w.heap.size+1) 6 rfl hI0 ?_;refine AC 22 rfl (by kernel_rfl) hI0 (fun K hK=>?_);rw[if_pos (by kernel_rfl)];have cc:=Kd0.cell 6;have ff:=Kd0.frozen 6;have cc':wd.cell? ⟨w.heap.size+1,6,none⟩=some (.string ⟨#[]⟩):=cc;clear cc;go_simp
    refine hK _ _ ?_;clear hK K cc' ff;obtain⟨wd1,hwd1⟩:=qY (wd.setCell ⟨w.heap.size+1,6,none⟩ (.string (strOfNums f1.text)));have Kd1:Blk wd1 (w.heap.size+1) 37 (putM (AF 90) 3 f1).cells:=by rw[hwd1];exact Kd0.set_ 6 (.string (strOfNums f1.text))
    have Xs1:Only [w.heap.size+1] wd wd1:=by rw[hwd1];exact(Only.refl _ wd).setCell (p:=⟨w.heap.size+1,6,none⟩) (.inl (by simp)) _
    have Xd1:Only [w.heap.size+1] w5 wd1:=Xd0.trans Xs1 (fun x hx=>.inl hx);have hI1:(fun w':World=>(∀(j:Nat) (u:Value),(AZ [f0,f1,f2,f3,f4,f5])[j]? = some u->w'.cell? ⟨bF,j,none⟩=some u)/\RdG (.int .u8) w' f1.tA f1.text/\RdG (.int .u8) w' f5.tA f5.text) wd1:=⟨fun j u hj=>BJ Xs1 (by have:=Xd0.size;show bF<_;omega) (by show bF∉[w.heap.size+1];simp;omega) (hI0.1 j u hj),RdG.onlyL (mk:=.int .u8) hI0.2.1 Xs1 (fun a ha h0=>by have:=BM Kd0 hI0.2.1 h0 a ha;simp;omega),RdG.onlyL (mk:=.int .u8) hI0.2.2 Xs1 (fun a ha h0=>by have:=BM Kd0 hI0.2.2 h0 a ha;simp;omega)⟩;rw[<-hwd1];replace hwd1:=AB hwd1;refine qP 23 (w.heap.size+1) 2 rfl hI1 ?_;refine AC 24 rfl (by kernel_rfl) hI1 (fun K hK=>?_);rw[if_pos (by kernel_rfl)];have cc:=Kd1.cell 2;have ff:=Kd1.frozen 2;have cc':wd1.cell? ⟨w.heap.size+1,2,none⟩=some (.int .u32 0):=cc;clear cc;go_simp
    refine hK _ _ ?_;clear hK K cc' ff;obtain⟨wd2,hwd2⟩:=qY (wd1.setCell ⟨w.heap.size+1,2,none⟩ (.int .u32 f2.n));have Kd2:Blk wd2 (w.heap.size+1) 37 (putM (putM (AF 90) 3 f1) 6 f2).cells:=by rw[hwd2];exact Kd1.set_ 2 (.int .u32 f2.n)
    have Xs2:Only [w.heap.size+1] wd1 wd2:=by rw[hwd2];exact(Only.refl _ wd1).setCell (p:=⟨w.heap.size+1,2,none⟩) (.inl (by simp)) _
    have Xd2:Only [w.heap.size+1] w5 wd2:=Xd1.trans Xs2 (fun x hx=>.inl hx);have hI2:(fun w':World=>(∀(j:Nat) (u:Value),(AZ [f0,f1,f2,f3,f4,f5])[j]? = some u->w'.cell? ⟨bF,j,none⟩=some u)/\RdG (.int .u8) w' f1.tA f1.text/\RdG (.int .u8) w' f5.tA f5.text) wd2:=⟨fun j u hj=>BJ Xs2 (by have:=Xd1.size;show bF<_;omega) (by show bF∉[w.heap.size+1];simp;omega) (hI1.1 j u hj),RdG.onlyL (mk:=.int .u8) hI1.2.1 Xs2 (fun a ha h0=>by have:=BM Kd1 hI1.2.1 h0 a ha;simp;omega),RdG.onlyL (mk:=.int .u8) hI1.2.2 Xs2 (fun a ha h0=>by have:=BM Kd1 hI1.2.2 h0 a ha;simp;omega)⟩;rw[<-hwd2];replace hwd2:=AB hwd2;refine qP 25 (w.heap.size+1) 3 rfl hI2 ?_;refine AC 26 rfl (by kernel_rfl) hI2 (fun K hK=>?_);rw[if_pos (by kernel_rfl)];have cc:=Kd2.cell 3;have ff:=Kd2.frozen 3;have cc':wd2.cell? ⟨w.heap.size+1,3,none⟩=some (.int .u32 0):=cc;clear cc;go_simp
    refine hK _ _ ?_;clear hK K cc' ff;obtain⟨wd3,hwd3⟩:=qY (wd2.setCell ⟨w.heap.size+1,3,none⟩ (.int .u32 f3.n));have Kd3:Blk wd3 (w.heap.size+1) 37 (putM (putM (putM (AF 90) 3 f1) 6 f2) 7 f3).cells:=by rw[hwd3];exact Kd2.set_ 3 (.int .u32 f3.n)
    have Xs3:Only [w.heap.size+1] wd2 wd3:=by rw[hwd3];exact(Only.refl _ wd2).setCell (p:=⟨w.heap.size+1,3,none⟩) (.inl (by simp)) _
    have Xd3:Only [w.heap.size+1] w5 wd3:=Xd2.trans Xs3 (fun x hx=>.inl hx);have hI3:(fun w':World=>(∀(j:Nat) (u:Value),(AZ [f0,f1,f2,f3,f4,f5])[j]? = some u->w'.cell? ⟨bF,j,none⟩=some u)/\RdG (.int .u8) w' f1.tA f1.text/\RdG (.int .u8) w' f5.tA f5.text) wd3:=⟨fun j u hj=>BJ Xs3 (by have:=Xd2.size;show bF<_;omega) (by show bF∉[w.heap.size+1];simp;omega) (hI2.1 j u hj),RdG.onlyL (mk:=.int .u8) hI2.2.1 Xs3 (fun a ha h0=>by have:=BM Kd2 hI2.2.1 h0 a ha;simp;omega),RdG.onlyL (mk:=.int .u8) hI2.2.2 Xs3 (fun a ha h0=>by have:=BM Kd2 hI2.2.2 h0 a ha;simp;omega)⟩;rw[<-hwd3];replace hwd3:=AB hwd3;refine qP 27 (w.heap.size+1) 4 rfl hI3 ?_;refine AC 28 rfl (by kernel_rfl) hI3 (fun K hK=>?_);rw[if_pos (by kernel_rfl)];have cc:=Kd3.cell 4;have ff:=Kd3.frozen 4;have cc':wd3.cell? ⟨w.heap.size+1,4,none⟩=some (.int .u32 0):=cc;clear cc;go_simp
    refine hK _ _ ?_;clear hK K cc' ff;obtain⟨wd4,hwd4⟩:=qY (wd3.setCell ⟨w.heap.size+1,4,none⟩ (.int .u32 f4.n));have Kd4:Blk wd4 (w.heap.size+1) 37 (putM (putM (putM (putM (AF 90) 3 f1) 6 f2) 7 f3) 8 f4).cells:=by rw[hwd4];exact Kd3.set_ 4 (.int .u32 f4.n)
    have Xs4:Only [w.heap.size+1] wd3 wd4:=by rw[hwd4];exact(Only.refl _ wd3).setCell (p:=⟨w.heap.size+1,4,none⟩) (.inl (by simp)) _
    have Xd4:Only [w.heap.size+1] w5 wd4:=Xd3.trans Xs4 (fun x hx=>.inl hx);have hI4:(fun w':World=>(∀(j:Nat) (u:Value),(AZ [f0,f1,f2,f3,f4,f5])[j]? = some u->w'.cell? ⟨bF,j,none⟩=some u)/\RdG (.int .u8) w' f1.tA f1.text/\RdG (.int .u8) w' f5.tA f5.text) wd4:=⟨fun j u hj=>BJ Xs4 (by have:=Xd3.size;show bF<_;omega) (by show bF∉[w.heap.size+1];simp;omega) (hI3.1 j u hj),RdG.onlyL (mk:=.int .u8) hI3.2.1 Xs4 (fun a ha h0=>by have:=BM Kd3 hI3.2.1 h0 a ha;simp;omega),RdG.onlyL (mk:=.int .u8) hI3.2.2 Xs4 (fun a ha h0=>by have:=BM Kd3 hI3.2.2 h0 a ha;simp;omega)⟩;rw[<-hwd4];replace hwd4:=AB hwd4;refine qP 29 (w.heap.size+1) 9 rfl hI4 ?_;refine AC 30 rfl (by kernel_rfl) hI4 (fun K hK=>?_);rw[if_pos (by kernel_rfl)];have cc:=Kd4.cell 9;have ff:=Kd4.frozen 9;have cc':wd4.cell? ⟨w.heap.size+1,9,none⟩=some (.slice none 0 0):=cc;clear cc;go_simp
    refine hK _ _ ?_;clear hK K cc' ff;obtain⟨w6,hw6⟩:=qY (wd4.setCell ⟨w.heap.size+1,9,none⟩ (.slice f5.tA f5.text.length f5.tc));have Kd5:Blk w6 (w.heap.size+1) 37 (putM (putM (putM (putM (putM (AF 90) 3 f1) 6 f2) 7 f3) 8 f4) 5 f5).cells:=by rw[hw6];exact Kd4.set_ 9 (.slice f5.tA f5.text.length f5.tc)
    have Xs5:Only [w.heap.size+1] wd4 w6:=by rw[hw6];exact(Only.refl _ wd4).setCell (p:=⟨w.heap.size+1,9,none⟩) (.inl (by simp)) _
    have Xd5:Only [w.heap.size+1] w5 w6:=Xd4.trans Xs5 (fun x hx=>.inl hx);have hI5:(fun w':World=>(∀(j:Nat) (u:Value),(AZ [f0,f1,f2,f3,f4,f5])[j]? = some u->w'.cell? ⟨bF,j,none⟩=some u)/\RdG (.int .u8) w' f1.tA f1.text/\RdG (.int .u8) w' f5.tA f5.text) w6:=⟨fun j u hj=>BJ Xs5 (by have:=Xd4.size;show bF<_;omega) (by show bF∉[w.heap.size+1];simp;omega) (hI4.1 j u hj),RdG.onlyL (mk:=.int .u8) hI4.2.1 Xs5 (fun a ha h0=>by have:=BM Kd4 hI4.2.1 h0 a ha;simp;omega),RdG.onlyL (mk:=.int .u8) hI4.2.2 Xs5 (fun a ha h0=>by have:=BM Kd4 hI4.2.2 h0 a ha;simp;omega)⟩;rw[<-hw6];replace hw6:=AB hw6;refine AT (by kernel_rfl) hI5 ?_;(try simp only[Exit.then])
    have K6:Blk w6 (w.heap.size+1) 37 M.cells:=by rw[<-hM];exact Kd5
    have Z6:Blk w6 w.heap.size 37 AK.cells:=Z5.only Xd5 (by simp);have O6:Only [] w w6:=O5.trans Xd5 (fun x hx=>.inr (by simp at hx;omega));have okM6:M.ok w6:=okM.onlyN Xd5 (fun a ha h0=>BM K5 okM.data h0 a ha);clear hI0 hI1 hI2 hI3 hI4 hI5 Kd0 Kd1 Kd2 Kd3 Kd4 Kd5;have WD:=GG M w6 okM.name okM.lang;obtain⟨bf,hbf⟩:=qX (BW M);rw[hbf] at WD;unfold MD.val at WD;obtain⟨a0,a1,a2,a3,a4,a5,a6,a7,a8,a9⟩:=qM K6 M;replace hM:=AB hM;replace hfs:=AB hfs;replace hbf:=AB hbf;go_wp2_with fail
    go_call WD as e w7 ⟨rfl,P7⟩
    clear a0 a1 a2 a3 a4 a5 a6 a7 a8 a9;have K7:=K6.only P7 (by simp);have Z7:=Z6.only P7 (by simp);have O7:Only [] w w7:=O6.trans P7 (by simp);have okM7:M.ok w7:=okM6.only P7;have hlt7:=Z7.lt;have hlk7:=K7.lt;have hq1: ¬w.heap.size=w.heap.size+1:=by omega
    have hq2: ¬w.heap.size+1=w.heap.size:=by omega
    obtain⟨z0,y0,z1,y1,z2,y2,z3,y3,z4,y4,z5,y5,z6,y6,z7,y7,z8,y8,z9,y9⟩:=qZ Z7;cases bf with
    |false=>
     go_wp2_with fail
     (try simp only[Exit.inBlock,Exit.then])
     refine CV (g:=w.heap.size) (m:=AK) rfl (by rfl) (by rfl) (KW Z7) ?_;refine⟨KX (qL _) O7,AK,4,rfl,EA _,hdec.out _ _ EU ?_⟩;rw[hE.out,if_neg (by simp)];refine⟨_,hfs.out,?_⟩;show if BW (AQ (AF 90) [3,6,7,8,5] [f1,f2,f3,f4,f5]) then _ else _
     rw[hM.out,hbf.out,if_neg (by simp)];exact⟨rfl,rfl⟩
    |true=>
     obtain⟨a0,a1,a2,a3,a4,a5,a6,a7,a8,a9⟩:=qM K7 M;go_wp2_with fail
     (try simp only[Exit.inBlock,Exit.then])
     refine CV (g:=w.heap.size) (m:=M) rfl (by rfl) (by rfl) (UP M Z7) ?_;refine⟨JL M (.inr (qL _)) O7,M,0,rfl,okM7.onlyN (q:=w.heap.size) (JL M (.inl (by simp)) (zR _ _)) (fun a ha h0=>BM Z7 okM7.data h0 a ha),hdec.out _ _ newM.out ?_⟩;rw[hE.out,if_neg (by simp)];refine⟨_,hfs.out,?_⟩;show if BW (AQ (AF 90) [3,6,7,8,5] [f1,f2,f3,f4,f5]) then _ else _
     rw[hM.out,hbf.out,if_pos rfl];exact⟨rfl,hM.out.symm⟩
   ·replace hfs:=AB hfs;obtain⟨z0,y0,z1,y1,z2,y2,z3,y3,z4,y4,z5,y5,z6,y6,z7,y7,z8,y8,z9,y9⟩:=qZ Z5;go_wp2_with fail
    (try simp only[Exit.inBlock,Exit.then])
    refine CV (g:=w.heap.size) (m:=AK) rfl (by rfl) (by rfl) (KW Z5) ?_;exact⟨KX (qL _) O5,AK,E,rfl,EA _,hdec.out _ _ EU (by rw[hE.out,if_pos hE0];exact⟨rfl,rfl⟩)⟩
theorem rdec_k98 (A:Option Addr) (t:List Int) (c:Nat) (w:World) (h:Rd w A (98::t)) (hl:InB (98::t)) (hln:(98::t:List Int).length<=140737488355000) (hlc:(98::t:List Int).length<=c) (hlm:c<=maxLen) :
  Calls Tryz.prog 37 #[.slice A (98::t:List Int).length c] w (HZ w (98::t)):=by
 refine lH 98 A t c w h hl hln hlc fun b off l ln w1 w2 hb cx hll hk1 hn hn1 hn0 hn00 hw1 hz1 hw2 O1 P12 O2 Z2 M2 h hl hln hlc FA=>?_;unfold AE at FA;rw[show BX (AF 98).kind=some [9,3,4,5] from rfl] at FA;replace hn:=AB hn;replace hll:=AB hll;replace hk1:=AB hk1;go_enter Tryz.func37,Tryz.ntmps37
 go_wp2_with fail
 rw[<-hw1,<-hw2];replace hw1:=AB hw1;replace hw2:=AB hw2;replace hz1:=AB hz1;go_call FA as e w3 ⟨P3,A0,c0,fs0,rfl,RF0,hfs0,hc0,hm0⟩
 clear FA;have O3:Only [] w w3:=O2.trans P3 (by simp);have Z3:=Z2.only P3 (by simp);have M3:=M2.only P3 (by simp);have hl0:fs0.length=4:=by have:=congrArg List.length hfs0;simpa using this
 have hkk0:fs0.map (·.kind)=[3,4,2,6]:=by
  have:=congrArg (List.map PF.kind) hfs0;rw[List.map_map,List.map_map] at this;exact this
 have V4:=KL w3 1;have X4:Only [] w3 (w3.alloc (.cells #[.int .i64 1] 3)):=(zR _ _).alloc _;rw[hl0] at hc0⊢;replace hl0:=AB hl0;replace hfs0:=AB hfs0;replace hkk0:=AB hkk0;go_wp2_with fail
 go_loopw [32,7] (fun i o wr=>∃(kk:Nat) (v:Value),kk<=4/\i = .int .i64 kk/\v=o/\IW wr w3.heap.size v (1::(fs0.take kk).map (·.kind))/\Only [] w3 wr) (fun i _ _=>4-(intOf i).toNat)
 case atStart=>exact⟨0,_,by omega,rfl,rfl,V4,X4⟩
 case round=>
  obtain⟨wo,rfl⟩: ∃wo:World,wo=wr:=⟨_,rfl⟩;obtain⟨kk,v,hkn,rfl,rfl,V,O⟩:=hrel;have hob:=V.block;have z0:=O.size;by_cases hlt:kk<4
  ·obtain⟨f,hf⟩: ∃f,fs0[kk]? = some f:=⟨_,List.getElem?_eq_getElem (by have:=hl0.out;omega)⟩;obtain⟨bF,oF,rfl,hbF,hcF⟩:=(RF0.only O).cells (by have:=hl0.out;omega);obtain⟨c0',c1,c2,c3⟩:=hcF kk f hf;have hks:(1::(fs0.take (kk+1)).map (·.kind))=(1::(fs0.take kk).map (·.kind))++[f.kind]:=by
    rw[DH hf,List.map_append];rfl
   have hlk:(1::(fs0.take kk).map (·.kind)).length=kk+1:=by rw[List.length_cons,List.length_map,List.length_take];have:=hl0.out;omega
   obtain⟨X5,R5⟩:=lI wo f;have V5:=V.far X5 (fun x hx=>by simp at hx);obtain⟨ks,hksv⟩:=qX ((1::(fs0.take kk).map (·.kind)));rw[hksv] at V5 hlk hks;replace hks:=AB hks;replace hksv:=AB hksv;replace hlk:=AB hlk;replace hf:=AB hf;clear hcF;go_wp2_with (at_builtin;go_must (refine FW rfl (.tmp 36) (.tmp 39) rfl w3.heap.size v ks rfl V5 (some ⟨wo.heap.size+1,0,none⟩) 1 [f.kind] _ rfl rfl R5 (by have:=hlk.out;rw[this];simp;omega) (by simp;omega) ?_;intro v9 w9 V9 P9))
   go_roundw
   case rel=>
    refine⟨kk+1,_,by omega,by go_num,rfl,?_,(O.trans X5 (by simp)).trans P9 (fun x hx=>.inr (hob x (by simpa using hx)).1)⟩;rw[hks.out];exact V9.out
   case measure=>simp[intOf];omega
  ·obtain rfl:kk=4:=by omega
   have V':IW wo w3.heap.size v [1,3,4,2,6]:=by
    have e:(1::(fs0.take 4).map (·.kind))=[1,3,4,2,6]:=by rw[List.take_of_length_le (by have:=hl0.out;omega),hkk0.out]
    rw[<-e];exact V
   obtain⟨kA,kc,rfl,RK,_,_,_⟩:=V'.rd;have Oo:Only [] w wo:=O3.trans O (by simp);have RR:=GF wo kA (some ⟨b,off,none⟩) [1,3,4,2,6] l kc c RK (h.only Oo) hl (by decide) (by have:=hn.out;omega) (by have:=hn.out;omega) hlm;rw[hn.out] at RR;have RR':Calls Tryz.prog 71 #[.slice kA 5 kc,.slice (some ⟨b,off,none⟩) ln c] wo (DU wo (AR [1,3,4,2,6] l)):=RR;obtain⟨E,hE⟩:=qX ((AR [1,3,4,2,6] l).1);have hgood:=DY [1,3,4,2,6] l hl;have hdec: ∀(M:MD) (E':Int),HX w.heap.size M->(if(AR [1,3,4,2,6] l).1≠0 then E'=(AR [1,3,4,2,6] l).1/\M=AK
     else∃fs:List FD,fs.map FD.pf=(AR [1,3,4,2,6] l).2/\if BW (AQ (AF 98) [9,3,4,5] fs.tail) then E'=0/\M=AQ (AF 98) [9,3,4,5] fs.tail else E'=4/\M=AK)->IT l M E'/\HX w.heap.size M:=fun M E' hnw hx=>by
    refine⟨?_,hnw⟩;rw[<-hll.out] at hx⊢;exact hx
   rw[hE] at hgood;replace hE:=AB hE;replace hgood:=AB hgood;replace hdec:=AB hdec;have Zo:=Z3.only O (by simp);have Mo:=M3.only O (by simp);clear V V' RR RK;go_wp2_with fail
   go_call RR' as e w5 ⟨P5,A5,k5,fs,rfl,hfs,V5,M5m⟩
   have M5: ∀f∈fs,FD.ok w5 f:=fun f hf=>(M5m f hf).ok;clear RR';have O5:Only [] w w5:=Oo.trans P5 (by simp);have Z5:=Zo.only P5 (by simp);have K5:=Mo.only P5 (by simp);rw[hE.out];by_cases hE0:E=0
   ·subst hE0;obtain⟨g1,g2⟩:=hgood.out rfl;rw[<-hfs] at g1 g2;have hfl:fs.length=5:=by have:=congrArg List.length g1;simpa using this
    obtain⟨f0,f1,f2,f3,f4,rfl⟩: ∃f0 f1 f2 f3 f4,fs=[f0,f1,f2,f3,f4]:=by
     match fs,hfl with
     |[f0,f1,f2,f3,f4],_=>exact⟨f0,f1,f2,f3,f4,rfl⟩
    obtain⟨A',cap,eA,hcle,hcmx,hF⟩:=V5.form;injection eA with eA1 eA2 eA3;subst eA1;subst eA3;obtain⟨bF,rfl,hbase,hbF,hcF⟩:=hF (by simp);have hcap:5<=k5:=hcle;have hbw:w.heap.size+1<bF:=by have:=Mo.lt;have:=P5.size;have:wo.heap.size<=bF:=hbase;omega
    have hne4: ¬w.heap.size+1=bF:=by omega
    have hne5: ¬bF=w.heap.size+1:=by omega
    have hne6: ¬w.heap.size=bF:=by omega
    have hne7: ¬bF=w.heap.size:=by omega
    have u1:U32 f1.n/\InB f1.text:=g2 f1.pf (by simp);have o1:f1.ok w5:=M5 f1 (by simp);have u2:U32 f2.n/\InB f2.text:=g2 f2.pf (by simp);have o2:f2.ok w5:=M5 f2 (by simp);have u3:U32 f3.n/\InB f3.text:=g2 f3.pf (by simp);have o3:f3.ok w5:=M5 f3 (by simp);have u4:U32 f4.n/\InB f4.text:=g2 f4.pf (by simp);have o4:f4.ok w5:=M5 f4 (by simp);obtain⟨M,hM⟩:=qX (AQ (AF 98) [9,3,4,5] [f1,f2,f3,f4]);have okM:M.ok w5:=by rw[<-hM];exact ED 5 (ED 4 (ED 3 (ED 9 (EE w5 98) o1 u1.1 u1.2) o2 u2.1 u2.2) o3 u3.1 u3.2) o4 u4.1 u4.2
    have newM:HX w.heap.size M:=by
     rw[<-hM];exact GY _ _ _ (JV _) fun f hf a ha=>Nat.le_trans (Oo.size) ((M5m f (List.mem_cons_of_mem _ hf)).new.1 a ha)
    clear M5m;replace newM:=AB newM;have s0:w5.cell? ⟨w.heap.size+1,0,none⟩=some (.int .i64 98):=K5.cell 0;have hc1: ¬k5=1:=by omega
    obtain⟨wd,hwd⟩:=qY w5.drew;have Kd0:Blk wd (w.heap.size+1) 37 (AF 98).cells:=by rw[hwd];exact K5.drew
    have Xd0:Only [w.heap.size+1] w5 wd:=by rw[hwd];exact(Only.refl _ w5).drew
    have hI0:(fun w':World=>(∀(j:Nat) (u:Value),(AZ [f0,f1,f2,f3,f4])[j]? = some u->w'.cell? ⟨bF,j,none⟩=some u)/\RdG (.int .u8) w' f2.tA f2.text/\RdG (.int .u8) w' f4.tA f4.text) wd:=by
     rw[hwd];exact⟨hcF,o2.text,o4.text⟩
    go_wp2_with fail
    refine AL (fun w':World=>(∀(j:Nat) (u:Value),(AZ [f0,f1,f2,f3,f4])[j]? = some u->w'.cell? ⟨bF,j,none⟩=some u)/\RdG (.int .u8) w' f2.tA f2.text/\RdG (.int .u8) w' f4.tA f4.text) [] (by kernel_rfl) ?_;rw[show({ w5 with drawn:=w5.drawn+1 }:World)=wd from hwd.symm];replace hwd:=AB hwd;refine wpAnyE_tg 0 (v:=(.slice (some ⟨bF,4,none⟩) 4 (k5-1))) rfl hI0 ?_;refine qP 1 bF 4 rfl hI0 ?_;refine qP 2 bF 5 rfl hI0 ?_;refine wpAnyE_tk 3 (v:=(.int .u32 f1.n)) rfl hI0 (fun w' hw'=>by have y:w'.cell? ⟨bF,5,none⟩=some (.int .u32 f1.n):=hw'.1 5 _ rfl;go_simp) ?_;refine wpAnyE_tg 4 (v:=(.slice (some ⟨bF,4,none⟩) 4 (k5-1))) rfl hI0 ?_;refine qP 5 bF 8 rfl hI0 ?_;refine qP 6 bF 10 rfl hI0 ?_;refine wpAnyE_tk 7 (v:=(.slice f2.tA f2.text.length f2.tc)) rfl hI0 (fun w' hw'=>by have y:w'.cell? ⟨bF,10,none⟩=some (.slice f2.tA f2.text.length f2.tc):=hw'.1 10 _ rfl;go_simp) ?_;refine wpAnyE_tk 8 (v:=(.string (strOfNums f2.text))) rfl hI0 (fun w' hw'=>by have cv:=LY (w:=w') (A:=f2.tA) (l:=f2.text) (c:=f2.tc) (hw'.2.1);go_simp) ?_;refine wpAnyE_tg 9 (v:=(.slice (some ⟨bF,4,none⟩) 4 (k5-1))) rfl hI0 ?_;refine qP 10 bF 12 rfl hI0 ?_;refine qP 11 bF 13 rfl hI0 ?_;refine wpAnyE_tk 12 (v:=(.int .u32 f3.n)) rfl hI0 (fun w' hw'=>by have y:w'.cell? ⟨bF,13,none⟩=some (.int .u32 f3.n):=hw'.1 13 _ rfl;go_simp) ?_;refine wpAnyE_tg 13 (v:=(.bool (f3.n==1))) rfl hI0 ?_;refine wpAnyE_tg 14 (v:=(.slice (some ⟨bF,4,none⟩) 4 (k5-1))) rfl hI0 ?_;refine qP 15 bF 16 rfl hI0 ?_;refine qP 16 bF 18 rfl hI0 ?_;refine wpAnyE_tk 17 (v:=(.slice f4.tA f4.text.length f4.tc)) rfl hI0 (fun w' hw'=>by have y:w'.cell? ⟨bF,18,none⟩=some (.slice f4.tA f4.text.length f4.tc):=hw'.1 18 _ rfl;go_simp) ?_;refine qP 18 (w.heap.size+1) 1 rfl hI0 ?_;refine AC 19 rfl (by kernel_rfl) hI0 (fun K hK=>?_);rw[if_pos (by kernel_rfl)];have cc:=Kd0.cell 1;have ff:=Kd0.frozen 1;have cc':wd.cell? ⟨w.heap.size+1,1,none⟩=some (.int .u32 0):=cc;clear cc;go_simp
    refine hK _ _ ?_;clear hK K cc' ff;obtain⟨wd1,hwd1⟩:=qY (wd.setCell ⟨w.heap.size+1,1,none⟩ (.int .u32 f1.n));have Kd1:Blk wd1 (w.heap.size+1) 37 (putM (AF 98) 9 f1).cells:=by rw[hwd1];exact Kd0.set_ 1 (.int .u32 f1.n)
    have Xs1:Only [w.heap.size+1] wd wd1:=by rw[hwd1];exact(Only.refl _ wd).setCell (p:=⟨w.heap.size+1,1,none⟩) (.inl (by simp)) _
    have Xd1:Only [w.heap.size+1] w5 wd1:=Xd0.trans Xs1 (fun x hx=>.inl hx);have hI1:(fun w':World=>(∀(j:Nat) (u:Value),(AZ [f0,f1,f2,f3,f4])[j]? = some u->w'.cell? ⟨bF,j,none⟩=some u)/\RdG (.int .u8) w' f2.tA f2.text/\RdG (.int .u8) w' f4.tA f4.text) wd1:=⟨fun j u hj=>BJ Xs1 (by have:=Xd0.size;show bF<_;omega) (by show bF∉[w.heap.size+1];simp;omega) (hI0.1 j u hj),RdG.onlyL (mk:=.int .u8) hI0.2.1 Xs1 (fun a ha h0=>by have:=BM Kd0 hI0.2.1 h0 a ha;simp;omega),RdG.onlyL (mk:=.int .u8) hI0.2.2 Xs1 (fun a ha h0=>by have:=BM Kd0 hI0.2.2 h0 a ha;simp;omega)⟩;rw[<-hwd1];replace hwd1:=AB hwd1;refine qP 20 (w.heap.size+1) 6 rfl hI1 ?_;refine AC 21 rfl (by kernel_rfl) hI1 (fun K hK=>?_);rw[if_pos (by kernel_rfl)];have cc:=Kd1.cell 6;have ff:=Kd1.frozen 6;have cc':wd1.cell? ⟨w.heap.size+1,6,none⟩=some (.string ⟨#[]⟩):=cc;clear cc;go_simp
    refine hK _ _ ?_;clear hK K cc' ff;obtain⟨wd2,hwd2⟩:=qY (wd1.setCell ⟨w.heap.size+1,6,none⟩ (.string (strOfNums f2.text)));have Kd2:Blk wd2 (w.heap.size+1) 37 (putM (putM (AF 98) 9 f1) 3 f2).cells:=by rw[hwd2];exact Kd1.set_ 6 (.string (strOfNums f2.text))
    have Xs2:Only [w.heap.size+1] wd1 wd2:=by rw[hwd2];exact(Only.refl _ wd1).setCell (p:=⟨w.heap.size+1,6,none⟩) (.inl (by simp)) _
    have Xd2:Only [w.heap.size+1] w5 wd2:=Xd1.trans Xs2 (fun x hx=>.inl hx);have hI2:(fun w':World=>(∀(j:Nat) (u:Value),(AZ [f0,f1,f2,f3,f4])[j]? = some u->w'.cell? ⟨bF,j,none⟩=some u)/\RdG (.int .u8) w' f2.tA f2.text/\RdG (.int .u8) w' f4.tA f4.text) wd2:=⟨fun j u hj=>BJ Xs2 (by have:=Xd1.size;show bF<_;omega) (by show bF∉[w.heap.size+1];simp;omega) (hI1.1 j u hj),RdG.onlyL (mk:=.int .u8) hI1.2.1 Xs2 (fun a ha h0=>by have:=BM Kd1 hI1.2.1 h0 a ha;simp;omega),RdG.onlyL (mk:=.int .u8) hI1.2.2 Xs2 (fun a ha h0=>by have:=BM Kd1 hI1.2.2 h0 a ha;simp;omega)⟩;rw[<-hwd2];replace hwd2:=AB hwd2;refine qP 22 (w.heap.size+1) 8 rfl hI2 ?_;refine AC 23 rfl (by kernel_rfl) hI2 (fun K hK=>?_);rw[if_pos (by kernel_rfl)];have cc:=Kd2.cell 8;have ff:=Kd2.frozen 8;have cc':wd2.cell? ⟨w.heap.size+1,8,none⟩=some (.bool false):=cc;clear cc;go_simp
    refine hK _ _ ?_;clear hK K cc' ff;obtain⟨wd3,hwd3⟩: ∃wd3,wd3=wd2.setCell ⟨w.heap.size+1,8,none⟩ (.bool (f3.n==1)):=⟨_,rfl⟩;have Kd3:Blk wd3 (w.heap.size+1) 37 (putM (putM (putM (AF 98) 9 f1) 3 f2) 4 f3).cells:=by rw[hwd3];exact Kd2.set_ 8 (.bool (f3.n==1))
    have Xs3:Only [w.heap.size+1] wd2 wd3:=by rw[hwd3];exact(Only.refl _ wd2).setCell (p:=⟨w.heap.size+1,8,none⟩) (.inl (by simp)) _
    have Xd3:Only [w.heap.size+1] w5 wd3:=Xd2.trans Xs3 (fun x hx=>.inl hx);have hI3:(fun w':World=>(∀(j:Nat) (u:Value),(AZ [f0,f1,f2,f3,f4])[j]? = some u->w'.cell? ⟨bF,j,none⟩=some u)/\RdG (.int .u8) w' f2.tA f2.text/\RdG (.int .u8) w' f4.tA f4.text) wd3:=⟨fun j u hj=>BJ Xs3 (by have:=Xd2.size;show bF<_;omega) (by show bF∉[w.heap.size+1];simp;omega) (hI2.1 j u hj),RdG.onlyL (mk:=.int .u8) hI2.2.1 Xs3 (fun a ha h0=>by have:=BM Kd2 hI2.2.1 h0 a ha;simp;omega),RdG.onlyL (mk:=.int .u8) hI2.2.2 Xs3 (fun a ha h0=>by have:=BM Kd2 hI2.2.2 h0 a ha;simp;omega)⟩;rw[<-hwd3];replace hwd3:=AB hwd3;refine qP 24 (w.heap.size+1) 9 rfl hI3 ?_;refine AC 25 rfl (by kernel_rfl) hI3 (fun K hK=>?_);rw[if_pos (by kernel_rfl)];have cc:=Kd3.cell 9;have ff:=Kd3.frozen 9;have cc':wd3.cell? ⟨w.heap.size+1,9,none⟩=some (.slice none 0 0):=cc;clear cc;go_simp
    refine hK _ _ ?_;clear hK K cc' ff;obtain⟨w6,hw6⟩:=qY (wd3.setCell ⟨w.heap.size+1,9,none⟩ (.slice f4.tA f4.text.length f4.tc));have Kd4:Blk w6 (w.heap.size+1) 37 (putM (putM (putM (putM (AF 98) 9 f1) 3 f2) 4 f3) 5 f4).cells:=by rw[hw6];exact Kd3.set_ 9 (.slice f4.tA f4.text.length f4.tc)
    have Xs4:Only [w.heap.size+1] wd3 w6:=by rw[hw6];exact(Only.refl _ wd3).setCell (p:=⟨w.heap.size+1,9,none⟩) (.inl (by simp)) _
    have Xd4:Only [w.heap.size+1] w5 w6:=Xd3.trans Xs4 (fun x hx=>.inl hx);have hI4:(fun w':World=>(∀(j:Nat) (u:Value),(AZ [f0,f1,f2,f3,f4])[j]? = some u->w'.cell? ⟨bF,j,none⟩=some u)/\RdG (.int .u8) w' f2.tA f2.text/\RdG (.int .u8) w' f4.tA f4.text) w6:=⟨fun j u hj=>BJ Xs4 (by have:=Xd3.size;show bF<_;omega) (by show bF∉[w.heap.size+1];simp;omega) (hI3.1 j u hj),RdG.onlyL (mk:=.int .u8) hI3.2.1 Xs4 (fun a ha h0=>by have:=BM Kd3 hI3.2.1 h0 a ha;simp;omega),RdG.onlyL (mk:=.int .u8) hI3.2.2 Xs4 (fun a ha h0=>by have:=BM Kd3 hI3.2.2 h0 a ha;simp;omega)⟩;rw[<-hw6];replace hw6:=AB hw6;refine AT (by kernel_rfl) hI4 ?_;(try simp only[Exit.then])
    have K6:Blk w6 (w.heap.size+1) 37 M.cells:=by rw[<-hM];exact Kd4
    have Z6:Blk w6 w.heap.size 37 AK.cells:=Z5.only Xd4 (by simp);have O6:Only [] w w6:=O5.trans Xd4 (fun x hx=>.inr (by simp at hx;omega));have okM6:M.ok w6:=okM.onlyN Xd4 (fun a ha h0=>BM K5 okM.data h0 a ha);clear hI0 hI1 hI2 hI3 hI4 Kd0 Kd1 Kd2 Kd3 Kd4;have WD:=GG M w6 okM.name okM.lang;obtain⟨bf,hbf⟩:=qX (BW M);rw[hbf] at WD;unfold MD.val at WD;obtain⟨a0,a1,a2,a3,a4,a5,a6,a7,a8,a9⟩:=qM K6 M;replace hM:=AB hM;replace hfs:=AB hfs;replace hbf:=AB hbf;go_wp2_with fail
    go_call WD as e w7 ⟨rfl,P7⟩
    clear a0 a1 a2 a3 a4 a5 a6 a7 a8 a9;have K7:=K6.only P7 (by simp);have Z7:=Z6.only P7 (by simp);have O7:Only [] w w7:=O6.trans P7 (by simp);have okM7:M.ok w7:=okM6.only P7;have hlt7:=Z7.lt;have hlk7:=K7.lt;have hq1: ¬w.heap.size=w.heap.size+1:=by omega
    have hq2: ¬w.heap.size+1=w.heap.size:=by omega
    obtain⟨z0,y0,z1,y1,z2,y2,z3,y3,z4,y4,z5,y5,z6,y6,z7,y7,z8,y8,z9,y9⟩:=qZ Z7;cases bf with
    |false=>
     go_wp2_with fail
     (try simp only[Exit.inBlock,Exit.then])
     refine CV (g:=w.heap.size) (m:=AK) rfl (by rfl) (by rfl) (KW Z7) ?_;refine⟨KX (qL _) O7,AK,4,rfl,EA _,hdec.out _ _ EU ?_⟩;rw[hE.out,if_neg (by simp)];refine⟨_,hfs.out,?_⟩;show if BW (AQ (AF 98) [9,3,4,5] [f1,f2,f3,f4]) then _ else _
     rw[hM.out,hbf.out,if_neg (by simp)];exact⟨rfl,rfl⟩
    |true=>
     obtain⟨a0,a1,a2,a3,a4,a5,a6,a7,a8,a9⟩:=qM K7 M;go_wp2_with fail
     (try simp only[Exit.inBlock,Exit.then])
     refine CV (g:=w.heap.size) (m:=M) rfl (by rfl) (by rfl) (UP M Z7) ?_;refine⟨JL M (.inr (qL _)) O7,M,0,rfl,okM7.onlyN (q:=w.heap.size) (JL M (.inl (by simp)) (zR _ _)) (fun a ha h0=>BM Z7 okM7.data h0 a ha),hdec.out _ _ newM.out ?_⟩;rw[hE.out,if_neg (by simp)];refine⟨_,hfs.out,?_⟩;show if BW (AQ (AF 98) [9,3,4,5] [f1,f2,f3,f4]) then _ else _
     rw[hM.out,hbf.out,if_pos rfl];exact⟨rfl,hM.out.symm⟩
   ·replace hfs:=AB hfs;obtain⟨z0,y0,z1,y1,z2,y2,z3,y3,z4,y4,z5,y5,z6,y6,z7,y7,z8,y8,z9,y9⟩:=qZ Z5;go_wp2_with fail
    (try simp only[Exit.inBlock,Exit.then])
    refine CV (g:=w.heap.size) (m:=AK) rfl (by rfl) (by rfl) (KW Z5) ?_;exact⟨KX (qL _) O5,AK,E,rfl,EA _,hdec.out _ _ EU (by rw[hE.out,if_pos hE0];exact⟨rfl,rfl⟩)⟩
def Kn (k:Int):Prop:=k=90\/k=93\/k=94\/k=96\/k=97\/k=98
theorem kn90:Kn 90:=.inl rfl
theorem kn93:Kn 93:=.inr (.inl rfl)
theorem kn94:Kn 94:=.inr (.inr (.inl rfl))
theorem kn96:Kn 96:=.inr (.inr (.inr (.inl rfl)))
theorem kn97:Kn 97:=.inr (.inr (.inr (.inr (.inl rfl))))
theorem kn98:Kn 98:=.inr (.inr (.inr (.inr (.inr rfl))))
theorem rdec_six (A:Option Addr) (l:List Int) (c:Nat) (w:World) (h:Rd w A l) (hl:InB l) (hln:l.length<=140737488355000) (hlc:l.length<=c) (hlm:c<=maxLen) (k:Int) (hk:Kn k) (ht: ∃t,l=k::t) :
  Calls Tryz.prog 37 #[.slice A l.length c] w (HZ w l):=by
 obtain⟨t,rfl⟩:=ht;rcases hk with rfl|rfl|rfl|rfl|rfl|rfl;·exact rdec_k90 A t c w h hl hln hlc hlm
 ·exact rdec_k93 A t c w h hl hln hlc hlm
 ·exact rdec_k94 A t c w h hl hln hlc hlm
 ·exact rdec_k96 A t c w h hl hln hlc hlm
 ·exact rdec_k97 A t c w h hl hln hlc hlm
 ·exact rdec_k98 A t c w h hl hln hlc hlm
end Go.Proofs.YtfbhemmpobgdpaaGreatDoor
namespace Go.Proofs.YtfbhemmpobgdpaaGreatDoor
open Go.RowKit Go.MapKept
theorem mdc30_one (m:MD): ∀u∈m.cells,u.oneCell'=true:=by
 intro u hu;simp only[MD.cells,qC,List.not_mem_nil,or_false] at hu;rcases hu with rfl|rfl|rfl|rfl|rfl|rfl|rfl|rfl|rfl|rfl<;>rfl
theorem MC (m:MD):m.cells.length=10:=rfl
def EQ:List MD->List MD->Prop
 |[],[]=>True
 |x::xs,m::ms=>SameM x (DV m)/\EQ xs ms
 |_,_=>False
theorem EQ.snoc: ∀{xs ms:List MD} {x m:MD},EQ xs ms->SameM x (DV m)->EQ (xs++[x]) (ms++[m])
 |[],[],x,m,_,h=>⟨h,trivial⟩
 |a::xs,b::ms,x,m,h,h2=>⟨h.1,EQ.snoc h.2 h2⟩
 |[],_::_,_,_,h,_=>h.elim
 |_::_,[],_,_,h,_=>h.elim
theorem EQ.len: ∀{xs ms:List MD},EQ xs ms->xs.length=ms.length
 |[],[],_=>rfl
 |a::xs,b::ms,h=>by simp[EQ.len h.2]
 |[],_::_,h=>h.elim
 |_::_,[],h=>h.elim
def EX (ms:List MD) (w:World):Prop:=∀m∈ms,m.ok w
def FK (ms:List MD):List Nat:=ms.flatMap dFp
theorem EX.st {ms:List MD}:StX (FK ms) (EX ms):=fun w w' hs he h m hm=>MD.ok_st w w' hs (fun y hy=>he y (List.mem_flatMap.2 ⟨m,hm,hy⟩)) (h m hm)
def VL (l:List MD) (w:World):Ending->World->Prop:=fun e w'=>∃z:List MD×Option Addr×Nat,e = .returned (.tuple #[.slice z.2.1 z.1.length z.2.2,.bool true])/\Only [] w w'/\(AN MD.cells 37 10 w' 0 (.slice z.2.1 z.1.length z.2.2) z.1/\EX z.1 w')/\EQ z.1 (CI l)/\∀y∈bkO z.2.1++FK z.1,y<w'.heap.size/\w.heap.size<=y
theorem HX.fp {B:Nat} {m:MD} (h:HX B m): ∀y∈dFp m,B<=y:=fun y hy=>by
 unfold dFp at hy;split at hy;·simp at hy
 ·cases hA:m.dA with
  |none=>rw[hA] at hy;simp[bkO] at hy
  |some a=>
   rw[hA] at hy;simp only[bkO,Option.map_some,Option.toList_some,qS] at hy;rw[hy];exact h a hA
theorem by_ms30 {n:Nat} (h:n<=1000000):(n+1)*Tryz.prog.bytesOf 37<=140737488355328:=by
 have e:Tryz.prog.bytesOf 37=96:=by kernel_rfl
 rw[e];omega
theorem KS (l:List MD) (hu: ∀m∈l,U5 m) (hkn: ∀m∈l,Kn m.kind) (A:Option Addr) (N c:Nat) (hN:(l.flatMap BB).length=N) (w:World) (hr:RdX cu8 w A (l.flatMap BB)) (hinb:InB (l.flatMap BB)) (hsz:N<=1000000):Calls Tryz.prog 12 #[.slice A N c] w (VL l w):=by
 have hfs:=aG l;have hg: ∀m∈CI l,(BZ m).1=0/\U5 m:=fun m hm=>⟨by simpa[CI] using(List.mem_filter.1 hm).2,hu m (List.mem_filter.1 hm).1⟩;have hgl:=OC (CI l) (fun m hm=>(hg m hm).1);rw[JW,hN] at hgl;have C0:Fx w [] w [] [] (fun _=>True):=Fx.start0;have hF: ∀w',Only [] w w'->Calls Tryz.prog 36 #[.agg #[.slice none 0 0,.bool false],.slice A N c] w' fun e w2=>∃x:FR,e = .returned x.val/\Only [] w' w2/\(PT x.oA x.ps w2/\(x.ps.map Pc.l=(CI l).map (fun m=>(BZ m).2)/\(∀p∈x.ps,p.l.length<=p.c/\p.c<=maxLen)/\x.rest=[]/\x.bad=false/\x.e=0))/\StX (PFp x.oA x.ps) (fun w2=>PT x.oA x.ps w2/\(x.ps.map Pc.l=(CI l).map (fun m=>(BZ m).2)/\(∀p∈x.ps,p.l.length<=p.c/\p.c<=maxLen)/\x.rest=[]/\x.bad=false/\x.e=0))/\∀y∈PFp x.oA x.ps,y<w2.heap.size/\(y∈([]:List Nat)\/w'.heap.size<=y):=fun w' O=>by
  have hf:=kK none [] 0 A (l.flatMap BB) c w' (fun h=>absurd h (by simp)) (hr.only O) (by rw[List.length_nil,hN];omega) (by rw[List.nil_append];exact hinb);rw[hN,List.nil_append] at hf;refine hf.mono ?_;rintro e w2 ⟨x,rfl,O2,⟨hat,h1,h2,h3,h4⟩,hf2⟩;rw[hfs] at h1 h4;exact⟨x,rfl,O2,⟨⟨hat.2.1,hat.2.2⟩,h1,h2,h4.2.1,h4.1,h4.2.2⟩,fun w w' hs he h=>⟨PT.st w w' hs he h.1,h.2⟩,fun y hy=>⟨(hf2 y (by unfold FR.fp;exact qJ (.inr hy))).1,.inr (hf2 y (by unfold FR.fp;exact qJ (.inr hy))).2⟩⟩
 refine Hs.en Tryz.func12 [] [] [] [.c (.v (.slice A N c))] (Mem.start0 w) ?_;refine Hs.e0 ?_;refine Hs.callFx (X:=FR) FR.val (fun x=>PFp x.oA x.ps) (fun x w2=>PT x.oA x.ps w2/\(x.ps.map Pc.l=(CI l).map (fun m=>(BZ m).2)/\(∀p∈x.ps,p.l.length<=p.c/\p.c<=maxLen)/\x.rest=[]/\x.bad=false/\x.e=0)) C0 (fun w' H _=>hF w' H.only) (by kernel_rfl) (by kernel_rfl) (by kernel_rfl) fun x w1 L1 C1 hnx _=>?_;obtain⟨_,hps,hpc,hrest,hbad,hxe⟩:=C1.now;obtain⟨fA,rest,fc,bad,oA,oc,ps,E⟩:=x;dsimp only at hps hpc hrest hbad hxe C1 hnx;subst hrest;subst hbad;subst hxe;have Cp:Fx w [] w1 L1 (PFp oA ps) (PT oA ps):=C1.imp (fun h=>h.1) PT.st;obtain⟨n,hnp⟩:=qX ps.length;have hng:(CI l).length=n:=by
  have:=congrArg List.length hps;rw[List.length_map,List.length_map] at this;omega
 have hfin: ∀{ms:List MD} {A2:Option Addr} {c2:Nat} {w1 w':World} {L1 β:List Nat} {hp:List HB} (Cm:Fx w [] w1 L1 (FK ms) (EX ms)) (H:Mem w1 L1 β hp w') (h0:hp[0]? = some (.s A2 c2 ms.length 37 10 (ms.flatMap MD.cells))) (hs:EQ ms (CI l)),VL l w (.returned (.tuple #[.slice A2 ms.length c2,.bool true])) w':=by
  intro ms A2 c2 w1 w' L1 β hp Cm H h0 hs;refine⟨(ms,A2,c2),rfl,Cm.fin H,⟨H.ownX (cf:=MD.cells) (l:=ms) 0 rfl (A:=A2) (cap:=c2) (E:=37) (size:=10) h0,Cm.at H⟩,hs,fun y hy=>?_⟩;rcases qK hy with hy|hy;·exact DB (A:=A2) (c:=c2) (n:=ms.length) (E:=37) (size:=10) (vs:=ms.flatMap MD.cells) Cm H 0 h0 y hy
  ·exact DP Cm H y hy
 obtain⟨R,hR⟩:=qX (VL l w);rw[hR] at hfin⊢;have J: ∀(d i:Nat) (ms:List MD) (A2:Option Addr) (c2:Nat) (w1:World) (L1:List Nat),n-i=d->i<=n->ms.length=i->EQ ms ((CI l).take i)->Fx w [] w1 L1 (PFp oA ps) (PT oA ps)->Fx w [] w1 L1 (FK ms) (EX ms)->(∀y∈PFp oA ps,y<w1.heap.size/\y∉FK ms)->∀u:Nat->Value,Hs Tryz.prog 12 R (Tryz.f12).ntmps w1 L1 [0] ⟨.no,BE Tryz.f12 0,KQ [(7,.c (.v (.slice A2 i c2))),(27,.c (.v (.slice oA n oc))),(28,.c (.v (.int .i64 n))),(29,.c (.v (.int .i64 (i:Nat))))] (.vals u),[.s A2 c2 i 37 10 (ms.flatMap MD.cells)]⟩:=by
  intro d;induction d with
  |zero=>
   intro i ms A2 c2 w1 L1 hd hi hml hs Cp Cm hap u;obtain rfl:i=n:=by omega
   rw[<-hng,List.take_length] at hs;refine Hs.e0 ?_;refine Hs.cP ((i:Int)<(i:Int)) (fun h=>by omega) (fun _=>?_);refine Hs.e0 ?_;subst hml;exact Hs.rt (v:=.tuple #[.slice A2 ms.length c2,.bool true]) Tryz.func12 fun w' H=>hfin Cm H (by kernel_rfl) hs
  |succ d ih=>
   intro i ms A2 c2 w1 L1 hd hi hml hs Cp Cm hap u;have hil:i<n:=by omega
   obtain⟨q,hq⟩: ∃q,ps[i]? = some q:=⟨_,List.getElem?_eq_getElem (by omega)⟩;have hqm:=qE hq;obtain⟨g,hgi⟩: ∃g,(CI l)[i]? = some g:=⟨_,List.getElem?_eq_getElem (by omega)⟩;have hql:q.l=(BZ g).2:=by
    have h1:=congrArg (fun z=>z[i]?) hps;simp only[List.getElem?_map,hq,hgi,Option.map_some] at h1;injection h1
   obtain⟨hz,hug⟩:=hg g (qE hgi);obtain⟨hl1,hl2,_⟩:=NS hz;obtain⟨ob,ooff,hoA,_,_⟩:=Cp.now.1 (by omega);have hqb:InB q.l:=by
    rw[hql];intro y hy;refine hinb y ?_;rw[<-JW];refine List.mem_flatMap.2 ⟨g,qE hgi,?_⟩;rw[NZ hz];exact qJ (.inr hy)
   have hdec: ∀w',PT oA ps w'->Calls Tryz.prog 37 #[.slice q.A q.l.length q.c] w' fun e w2=>∃z:MD×Int,e = .returned (.tuple #[mdV z.1,.int .i64 z.2])/\Only (FK ms) w' w2/\(EX ms w2->(EX ms w2/\(z.1.ok w2/\z.2=0/\SameM z.1 (DV g))))/\Only [] w' w2/\(z.1.ok w2/\z.2=0/\SameM z.1 (DV g))/\∀y∈dFp z.1,w'.heap.size<=y:=fun w' hpt=>by
    refine(rdec_six q.A q.l q.c w' (QL (hpt.2 q hqm)) hqb (by rw[hql];omega) (hpc q hqm).1 (hpc q hqm).2 g.kind (hkn g (List.mem_filter.1 (qE hgi)).1) (by rw[hql];exact(NS hz).2.2)).mono ?_;rintro e w2 ⟨O,m,E,rfl,hok,hD,hnw⟩;rw[hql] at hD;obtain⟨e0,hsm,_,_⟩:=aQ hug hz hD;exact⟨(m,E),rfl,O.mono (by simp),fun h=>⟨h,hok,e0,hsm⟩,O,⟨hok,e0,hsm⟩,hnw.fp⟩
   subst hoA;refine Hs.e0 ?_;refine Hs.cP ((i:Int)<(n:Int)) (fun _=>?_) (fun h=>by omega);refine Hs.e0 ?_;refine Hs.idx (b:=ob) (off:=ooff) (len:=n) (c:=oc) (i:=i) TC hil (by kernel_rfl) ?_;refine Hs.ldc (E':=30) (b:=ob) (off:=ooff+i*1) (.slice q.A q.l.length q.c) (by kernel_rfl) (fun w' H=>ES TN (Cp.at H).1 hq (j:=0) rfl) (by kernel_rfl) ?_;refine Hs.e0 ?_;refine Hs.callFx (X:=MD×Int) (fun z=>.tuple #[mdV z.1,.int .i64 z.2]) (fun z=>FK ms++dFp z.1) (fun z w2=>EX ms w2/\(z.1.ok w2/\z.2=0/\SameM z.1 (DV g))) Cm (fun w' H hq2=>(hdec w' (Cp.at H)).mono fun e w2 ⟨z,h1,h2,h3,h4,h5,h6⟩=>⟨z,h1,h2,⟨EX.st w' w2 h4.size (fun y hy=>h4.block y (zT (Cm.own y hy).1 H.only.size) (by simp)) hq2,h5⟩,StX.and EX.st (fun w w' hs he h=>⟨MD.ok_st w w' hs he h.1,h.2⟩),fun y hy=>by
    rcases qK hy with hy|hy;·exact⟨zT (Cm.own y hy).1 (Nat.le_trans H.only.size h4.size),.inl hy⟩
    ·exact⟨WQ h5.1 y hy,.inr (h6 y hy)⟩⟩) (by kernel_rfl) (by kernel_rfl) (by kernel_rfl) fun z w2 L2 C2 hf2 mv=>?_
   have Cp2:Fx w [] w2 L2 (PFp (some ⟨ob,ooff,none⟩) ps) (PT (some ⟨ob,ooff,none⟩) ps):=mv _ _ Cp (fun y hy=>(hap y hy).2);obtain⟨m,E⟩:=z;obtain⟨_,hmok,hE0,hsm⟩:=C2.now;dsimp only at hmok hE0 hsm hf2;subst hE0;have hms2:FK (ms++[m])=FK ms++dFp m:=by unfold FK;rw[List.flatMap_append];simp
   have Cm2:Fx w [] w2 L2 (FK (ms++[m])) (EX (ms++[m])):=by
    rw[hms2];exact C2.imp (fun h x hx=>(qK hx).elim (h.1 x) fun h2=>by rw[qS] at h2;subst h2;exact h.2.1) (by rw[<-hms2];exact EX.st)
   have hap2: ∀y∈PFp (some ⟨ob,ooff,none⟩) ps,y<w2.heap.size/\y∉FK (ms++[m]):=fun y hy=>⟨(Cp2.own y hy).1,fun hm=>by
    rw[hms2] at hm;rcases hf2 y hm with h5|h5;·exact(hap y hy).2 h5
    ·have:=(hap y hy).1;omega⟩
   have hs2:EQ (ms++[m]) ((CI l).take (i+1)):=by
    rw[List.take_add_one,hgi];exact hs.snoc hsm
   refine Hs.e1 fun bm=>?_;refine Hs.cF ?_;refine Hs.e1 fun bt=>?_;refine Hs.app (c:=1) (ty:=47) 0 JH ms [m] i 1 hml rfl mdc30_one MC (A:=A2) (B:=some ⟨bt,0,none⟩) (cap:=c2) (by kernel_rfl) (by kernel_rfl) (by kernel_rfl) (fun w' H=>H.rdB (gs:=[m]) 2 (wr:=true) (T:=37) (cs:=mdS' m) (by kernel_rfl) rfl) (by unfold maxLen;omega) (by_ms30 (by omega)) fun A3 c3 g3=>?_;refine Hs.e0 ?_;refine Hs.slot 29 (.c (.v (.int .i64 (i+1:Nat)))) rfl ((by kernel_rfl:_=Value.int .i64 (IntKind.i64.wrap ((i:Int)+1))).trans (BY (n:=n) (by unfold maxLen;omega))) ?_;refine Hs.lP ?_;exact Hs.goto (BE Tryz.f12 0) [0] [.s A3 c3 (i+1) 37 10 ((ms++[m]).flatMap MD.cells)] [(7,.c (.v (.slice A3 (i+1) c3))),(27,.c (.v (.slice (some ⟨ob,ooff,none⟩) n oc))),(28,.c (.v (.int .i64 n))),(29,.c (.v (.int .i64 (i+1:Nat))))] (by kernel_rfl) (by decide) (by kernel_rfl) (by kernel_rfl) (fun _=>(by kernel_rfl)) (fun u=>ih (i+1) (ms++[m]) A3 c3 w2 L2 (by omega) (by omega) (by rw[zE,hml];rfl) hs2 Cp2 Cm2 hap2 u)
 have Cm0:Fx w [] w1 L1 (FK []) (EX []):=C1.sub (by simp[FK]) (fun _ x hx=>by simp at hx) EX.st;have hap0: ∀y∈PFp oA ps,y<w1.heap.size/\y∉FK []:=fun y hy=>⟨(Cp.own y hy).1,by simp[FK]⟩;refine Hs.e1 fun b4=>?_;refine Hs.eg [2] ?_;refine Hs.cF ?_;refine Hs.e0 ?_;refine Hs.nilS 37 10 (by kernel_rfl) ?_ (by kernel_rfl);refine Hs.lP ?_;subst hnp;exact Hs.goto (BE Tryz.f12 0) [1] [.s none 0 0 37 10 (([]:List MD).flatMap MD.cells)] [(7,.c (.v (.slice none 0 0))),(27,.c (.v (.slice oA ps.length oc))),(28,.c (.v (.int .i64 ps.length))),(29,.c (.v (.int .i64 (0:Nat))))] (by kernel_rfl) (by decide) (by kernel_rfl) (by kernel_rfl) (fun _=>(by kernel_rfl)) (fun u=>J ps.length 0 [] none 0 w1 L1 (by omega) (by omega) rfl trivial Cp Cm0 hap0 u)
end Go.Proofs.YtfbhemmpobgdpaaGreatDoor
namespace Go.Proofs.YtfbhemmpobgdpaaGreatDoor
open Go.RowKit
def LwOk (g:Int):Int->Bool->Bool->List MD->Prop
 |_,_,_,[]=>True
 |s,eof,clo,m::ms=>clo=false/\m.chan=5/\(m.kind=94->eof=false/\m.data.length<=6/\s+m.data.length<=g)/\LwOk g (if m.kind=94 then s+m.data.length else s) (eof||decide (m.kind=96)) (clo||decide (m.kind=97)) ms
def lwS:Int->List MD->Int
 |s,[]=>s
 |s,m::ms=>lwS (if m.kind=94 then s+m.data.length else s) ms
def lwE (e:Bool) (ms:List MD):Bool:=e||ms.any fun m=>decide (m.kind=96)
def lwC (c:Bool) (ms:List MD):Bool:=c||ms.any fun m=>decide (m.kind=97)
def lwT (ms:List MD):List Int:=ms.flatMap fun m=>if m.kind=94 then m.data else[]
structure SI (C : CS) (g s : Int) (eof clo : Bool) : Prop where
  x : ∃ x, C.xs = [x] /\ x.server = 5 /\ x.oP = 6 /\ x.oL = g - s /\ (eof = true -> x.eof = true) /\ (clo = true -> x.clo = true)
  le : 0 <= s /\ s <= g /\ g <= 100000
  said : C.said = []
  buf : C.buf = [] /\ C.bad = false
theorem eZ (l p:Int) (hl:0<=l/\l<=100000) (hp:p=6) (h:Nat):JB l p h<=l/\JB l p h<=6/\JB l p h<=h/\0<=JB l p h/\LI l p>=JB l p h:=by
 subst hp;have e1:IntKind.i64.wrap l=l:=IntWalk.i64_in _ (by omega);have e2:IntKind.i64.wrap 6=6:=IntWalk.i64_in _ (by omega);unfold JB LI;rw[e1,e2];unfold QH;simp only[List.foldl_cons,List.foldl_nil];unfold ma0 mi;repeat' split
 all_goals omega
theorem sent_fit {l p:Int} (hl:0<=l/\l<=100000) (hp:p=6) (h:Nat):(GT l p (JB l p h)).1=l-JB l p h:=by
 obtain⟨h1,h2,h3,h4,h5⟩:=eZ l p hl hp h;unfold GT HT;rw[decide_eq_true h4,decide_eq_true h5];show IntKind.u32.wrap (l-IntKind.u32.wrap (JB l p h))=_;rw[IntKind.wrap_u32,IntKind.wrap_u32];omega
theorem enc_mD {d:List Int} {A:Option Addr} {c:Nat} (h:d.length<=6):(BZ (mD 5 A c d)).1=0:=by
 have hr:BX (mD 5 A c d).kind=some [9,1]:=by show BX 94=_;decide
 unfold BZ;rw[hr];dsimp only;have hf:BW (mD 5 A c d)=true:=by unfold BW;rfl
 rw[if_pos hf];have e:[(⟨1,(mD 5 A c d).kind,[],[]⟩:PF)]++[9,1].map (AP (mD 5 A c d))=[⟨1,94,[],[]⟩,⟨3,5,[],[]⟩,⟨4,0,d,[]⟩]:=rfl;show(HA ([(⟨1,(mD 5 A c d).kind,[],[]⟩:PF)]++[9,1].map (AP (mD 5 A c d)))).1=0;rw[e];match d,h with
 |[],_=>rfl
 |[_],_=>rfl
 |[_,_],_=>rfl
 |[_,_,_],_=>rfl
 |[_,_,_,_],_=>rfl
 |[_,_,_,_,_],_=>rfl
 |[_,_,_,_,_,_],_=>rfl
theorem eT {m:MD} (h:InB m.data):InB (BZ m).2:=by
 by_cases hz:(BZ m).1=0
 ·obtain⟨js,hr,_,_,he⟩:=QB hz;have:=(YE hr).range;rw[he];intro x hx;rcases qC.1 hx with rfl|hx;·omega
  ·obtain⟨p,hp,hx⟩:=List.mem_flatMap.1 hx;obtain⟨j,_,rfl⟩:=List.mem_map.1 hp;exact RB (part_inb h j) x hx
 ·rw[enc_bad hz];exact fun x hx=>by simp at hx
theorem PH {m:MD} (h:InB m.data):InB (BB m):=by
 by_cases hz:(BZ m).1=0
 ·rw[NZ hz];intro x hx;rcases qK hx with hx|hx
  ·unfold JQ at hx;simp only[qC,List.not_mem_nil,or_false] at hx;rcases hx with rfl|rfl|rfl|rfl<;>omega
  ·exact eT h x hx
 ·rw[SA hz];exact fun x hx=>by simp at hx
theorem OB {l:List MD} (h: ∀m∈l,InB m.data):InB (l.flatMap BB):=fun x hx=>by
 obtain⟨m,hm,hx⟩:=List.mem_flatMap.1 hx;exact PH (h m hm) x hx
def isD (m:MD):Prop:=∃d,m=mD 5 none 0 d/\d.length<=6/\InB d
def lenD (l:List MD):Nat:=(l.map fun m=>m.data.length).sum
theorem good_D: ∀{l:List MD},(∀m∈l,isD m)->CI l=l
 |[],_=>rfl
 |m::l,h=>by
  obtain⟨d,rfl,hd,_⟩:=h m (by simp);have h2:=good_D (l:=l) fun x hx=>h x (by simp[hx]);unfold CI at h2⊢;rw[List.filter_cons_of_pos (by rw[enc_mD hd];decide),h2]
theorem own_mD (A:Option Addr) (c:Nat) (d:List Int):(DV (mD 5 A c d)).kind=94/\(DV (mD 5 A c d)).chan=5/\(DV (mD 5 A c d)).data=d:=⟨by kernel_rfl,by kernel_rfl,by kernel_rfl⟩
theorem lw_data (g:Int): ∀{ms l:List MD} (s:Int),EQ ms l->(∀m∈l,isD m)->s+lenD l<=g->LwOk g s false false ms/\lwS s ms=s+lenD l/\lwE false ms=false/\lwC false ms=false/\lwT ms=lwT l
 |[],[],s,_,_,_=>⟨trivial,by simp[lwS,lenD],rfl,rfl,rfl⟩
 |x::ms,m::l,s,h,hl,hg=>by
  obtain⟨d,rfl,hd,_⟩:=hl m (by simp);obtain⟨o1,o2,o3⟩:=own_mD none 0 d;have k1:x.kind=94:=by rw[<-h.1.kind];exact o1
  have k2:x.chan=5:=by rw[<-h.1.chan];exact o2
  have k3:x.data=d:=by rw[<-h.1.data];exact o3
  have e:lenD (mD 5 none 0 d::l)=d.length+lenD l:=by unfold lenD;rw[List.map_cons,List.sum_cons];rfl
  rw[e] at hg;have ih:=lw_data g (s+d.length) h.2 (fun y hy=>hl y (by simp[hy])) (by omega);refine⟨⟨rfl,k2,fun _=>⟨rfl,by rw[k3];exact hd,by rw[k3];omega⟩,?_⟩,?_,?_,?_,?_⟩
  ·rw[if_pos k1,k3,k1];exact ih.1
  ·rw[lwS,if_pos k1,k3,ih.2.1,e];omega
  ·have:=ih.2.2.1;unfold lwE at this⊢;rw[List.any_cons,k1];exact this
  ·have:=ih.2.2.2.1;unfold lwC at this⊢;rw[List.any_cons,k1];exact this
  ·have:=ih.2.2.2.2;unfold lwT at this⊢;rw[qG,qG,if_pos k1,k3,this];rfl
 |[],_::_,_,h,_,_=>h.elim
 |_::_,[],_,h,_,_=>h.elim
theorem YR: ∀(f:Nat) (C:CS) (x:HS) (b:List Int),x.server=5->x.oP=6->0<=x.oL/\x.oL<=100000->InB b->∃(l:List MD) (k:Nat),
  (DM f C x b).1.1.said=C.said++l.flatMap BB/\(DM f C x b).1.1.buf=C.buf/\(DM f C x b).1.1.bad=C.bad/\(DM f C x b).1.2 = { x with oL:=x.oL-k }/\(DM f C x b).2=b.drop k/\k<=b.length/\(k:Int)<=x.oL/\(∀m∈l,isD m)/\lwT l=b.take k/\lenD l=k/\l.length<=k
 |0,C,x,b,_,_,h,_=>⟨[],0,by simp[DM],rfl,rfl,by simp[DM],by simp[DM],by omega,by omega,by simp,by simp[lwT],by simp[lenD],by simp⟩
 |f+1,C,x,b,h1,h2,h3,hb=>by
  obtain⟨a1,a2,a3,a4,_⟩:=eZ x.oL x.oP h3 h2 b.length;have hs:=sent_fit h3 h2 b.length;unfold DM;split
  ·rename_i hp;obtain⟨kk,hkk⟩:=Int.eq_ofNat_of_zero_le a4;rw[hs,hkk];rw[hkk] at a1 a2 a3 hp;have ek:((kk:Int)).toNat=kk:=Int.toNat_natCast kk;rw[ek];have hbl:kk<=b.length:=by omega
   have htl:(b.take kk).length=kk:=by rw[List.length_take];omega
   obtain⟨l,k,i1,i2,i3,i4,i5,i6,i7,i8,i9,i10,i11⟩:=YR f (FP C (mD x.server none 0 (b.take kk))) { x with oL:=x.oL-kk } (b.drop kk) h1 h2 ⟨by show 0<=x.oL-kk;omega,by show x.oL-kk<=100000;omega⟩ (hb.drop kk);refine⟨mD x.server none 0 (b.take kk)::l,kk+k,?_,?_,?_,?_,?_,?_,?_,?_,?_,?_,?_⟩;·rw[i1,qG,<-List.append_assoc];rfl
   ·rw[i2];rfl
   ·rw[i3];rfl
   ·rw[i4];show({ x with oL:=x.oL-(kk:Int)-(k:Int) }:HS) = { x with oL:=x.oL-((kk+k:Nat):Int) };congr 1;omega
   ·rw[i5,List.drop_drop]
   ·rw[List.length_drop] at i6;omega
   ·have i7:(k:Int)<=x.oL-kk:=i7;omega
   ·intro m hm;rcases qC.1 hm with rfl|hm;·exact⟨b.take kk,by rw[h1],by omega,hb.take kk⟩
    ·exact i8 m hm
   ·unfold lwT at i9⊢;rw[qG,i9];show(if(94:Int)=94 then b.take kk else[])++_=_;rw[if_pos rfl,<-List.take_add]
   ·unfold lenD at i10⊢;rw[List.map_cons,List.sum_cons,i10];show(b.take kk).length+k=kk+k;rw[htl]
   ·rw[List.length_cons];omega
  ·exact⟨[],0,by simp,rfl,rfl,by simp,by simp,by omega,by omega,by simp,by simp[lwT],by simp[lenD],by simp⟩
structure Sends (C : CS) (o : O3) (g s : Int) (eof clo : Bool) (l : List MD) : Prop where
  send : (doF C o).2.2.2.1 = l.flatMap BB
  ok : ∀ m ∈ l, U5 m /\ InB m.data /\ Kn m.kind
  law : ∀ ms, EQ ms (CI l) -> LwOk g s eof clo ms /\ SI (doF C o).1 g (lwS s ms) (lwE eof ms) (lwC clo ms) /\ lwT ms = if o.kind = 3 /\ (doF C o).2.2.2.2 = 0 then o.b.take (doF C o).2.1.toNat else []
  n : 0 <= (doF C o).2.1 /\ (doF C o).2.1 <= o.b.length
  len : l.length <= 1 \/ ((∀ m ∈ l, isD m) /\ l.length <= o.b.length)
theorem lw_nil {g s:Int} {eof clo:Bool} {ms:List MD} (h:EQ ms (CI [])):ms=[]:=by
 cases ms with
 |nil=>rfl
 |cons a l=>exact h.elim
theorem dK {g s:Int} {eof:Bool} {m:MD} {ms:List MD} (h:EQ ms (CI [m])) (hk:(DV m).kind≠94) (hc:(DV m).chan=5):LwOk g s eof false ms/\lwS s ms=s/\lwT ms=[]/\(lwE eof ms=true->eof=true\/(DV m).kind=96)/\(lwC false ms=true->(DV m).kind=97):=by
 unfold CI at h;rw[List.filter_cons] at h;split at h
 ·match ms,h with
  |[x],h=>
   have k1:x.kind=(DV m).kind:=by rw[h.1.kind]
   have k2:x.chan=5:=by rw[<-h.1.chan];exact hc
   have k3:x.kind≠94:=by rw[k1];exact hk
   refine⟨⟨rfl,k2,fun h=>absurd h k3,trivial⟩,by simp[lwS,if_neg k3],by simp[lwT,if_neg k3],fun he=>?_,fun he=>?_⟩
   ·unfold lwE at he;simp only[List.any_cons,List.any_nil,Bool.or_false,Bool.or_eq_true,decide_eq_true_eq] at he;rw[<-k1];exact he
   ·unfold lwC at he;simp only[List.any_cons,List.any_nil,Bool.or_false,Bool.false_or,decide_eq_true_eq] at he;rw[<-k1];exact he
  |[],h=>exact h.elim
  |_::_::_,h=>exact h.2.elim
 ·match ms,h with
  |[],_=>exact⟨trivial,rfl,rfl,fun he=>.inl (by simpa[lwE] using he),fun he=>by simp[lwC] at he⟩
  |_::_,h=>exact h.elim
theorem hY {C:CS} {x:HS} (h:C.said=[]) (h5:x.server=5) (n:Int):BN C.said (mW x.server n)=BB (mW 5 n):=by rw[h,h5];simp[BN]
theorem nine0: ¬(9:Int)=0:=by decide
theorem GH {C:CS} {o:O3} {g s:Int} {eof clo:Bool} (hd:(doF C o).2.2.2.1=[]) (hS:SI (doF C o).1 g s eof clo) (hN:0<=(doF C o).2.1/\(doF C o).2.1<=o.b.length) (hT: ¬(o.kind=3/\(doF C o).2.2.2.2=0)):Sends C o g s eof clo []:=
 ⟨by rw[hd];rfl,by simp,fun ms hms=>by
  have e:=lw_nil (g:=g) (s:=s) (eof:=eof) (clo:=clo) hms;subst e;refine⟨trivial,?_,by rw[if_neg hT];rfl⟩;have e1:lwE eof []=eof:=by simp[lwE]
  have e2:lwC clo []=clo:=by simp[lwC]
  rw[e1,e2];exact hS,hN,.inl (by simp)⟩
theorem u5_of {m:MD} (h1:m.chan=5) (h2:m.sender=0) (h3:U32 m.window) (h4:m.packet=0) (h5:m.code=0):U5 m:=⟨by rw[h1];exact⟨by decide,by decide⟩,by rw[h2];exact z30,h3,by rw[h4];exact z30,by rw[h5];exact z30⟩
theorem SI.xs {C C':CS} {g s s':Int} {eof clo eof' clo':Bool} (h:SI C g s eof clo) {x':HS} (hx:C'.xs=[x']) (h1:x'.server=5) (h2:x'.oP=6) (h3:x'.oL=g-s') (hs:0<=s'/\s'<=g) (h4:eof'=true->x'.eof=true) (h5:clo'=true->x'.clo=true) (h6:C'.said=[]) (h7:C'.buf=C.buf) (h8:C'.bad=C.bad):SI C' g s' eof' clo':=
 ⟨⟨x',hx,h1,h2,h3,h4,h5⟩,⟨hs.1,hs.2,h.le.2.2⟩,h6,by rw[h7,h8];exact h.buf⟩
attribute [local irreducible] CW BZ
theorem sends_do {C:CS} {o:O3} {g s:Int} {eof clo:Bool} (h:SI C g s eof clo) (hn:o.n=0) (hk:o.kind≠1/\o.kind≠6) (hb:InB o.b) (hr:(BL o.r).1=0->InB (BL o.r).2): ∃l,Sends C o g s eof clo l:=by
 obtain⟨x,hx,h5,h6,hoL,he,hc⟩:=h.x;have hi:o.n.toNat=0:=by rw[hn];rfl
 have hd: ∀f,AW C 0 f=if(BO C || !decide (x.st=2)||x.clo)=true then(C,[],9) else if(f C x).2≠0 then({ (f C x).1.1 with xs:=[(f C x).1.2] },[],(f C x).2) else({ (f C x).1.1 with xs:=[(f C x).1.2],said:=[] },(f C x).1.1.said,0):=fun f=>by
  unfold AW;rw[hx];rfl
 have same: ∀{C':CS},C'.xs=[x]->C'.said=[]->C'.buf=C.buf->C'.bad=C.bad->SI C' g s eof clo:=fun a b c d=>h.xs a h5 h6 hoL ⟨h.le.1,h.le.2.1⟩ he hc b c d;have z:U32 0:=z30;have n0:0<=(0:Int)/\(0:Int)<=o.b.length:=⟨Int.le_refl _,by omega⟩;by_cases k2:o.kind=2
 ·have e0:doF C o=((AW C 0 (IX (BL o.r).1 (BF o.r) (BL o.r).2)).1,0,[],(AW C 0 (IX (BL o.r).1 (BF o.r) (BL o.r).2)).2.1,(AW C 0 (IX (BL o.r).1 (BF o.r) (BL o.r).2)).2.2):=by unfold doF;rw[if_pos k2,hi]
  have nk: ¬(o.kind=3/\(doF C o).2.2.2.2=0):=fun h=>by omega
  rw[hd] at e0;by_cases hu:(BO C || !decide (x.st=2)||x.clo)=true
  ·rw[if_pos hu] at e0;exact⟨[],GH (by rw[e0]) (by rw[e0];exact h) (by rw[e0];exact n0) nk⟩
  ·rw[if_neg hu] at e0;have hclo:clo=false:=by
    cases hcc:clo with
    |false=>rfl
    |true=>rw[hc hcc,Bool.or_true] at hu;exact absurd rfl hu
   by_cases hE:(BL o.r).1=0
   ·have ea:IX (BL o.r).1 (BF o.r) (BL o.r).2 C x=((FP C (mA x.server (BF o.r) none 0 (BL o.r).2),x),0):=by unfold IX;exact if_pos hE
    rw[ea,if_neg (fun h=>h rfl)] at e0;have es:(doF C o).2.2.2.1=BN C.said (mA x.server (BF o.r) none 0 (BL o.r).2):=by rw[e0];rfl
    have e1:(doF C o).1 = { FP C (mA x.server (BF o.r) none 0 (BL o.r).2) with xs:=[x],said:=[] }:=by rw[e0]
    rw[h5] at es e1;refine⟨[mA 5 (BF o.r) none 0 (BL o.r).2],⟨by rw[es,h.said];simp[BN],fun m hm=>?_,fun ms hms=>?_,by rw[e0];exact n0,.inl (by simp)⟩⟩
    ·rw[qS] at hm;subst hm;exact⟨u5_of rfl rfl z rfl rfl,hr hE,kn98⟩
    ·obtain⟨l1,l2,l3,l4,l5⟩:=dK (g:=g) (s:=s) (eof:=eof) hms (by rw[show(DV (mA 5 (BF o.r) none 0 (BL o.r).2)).kind=98 from by kernel_rfl];decide) (by kernel_rfl);rw[hclo,if_neg nk,l2];refine⟨l1,?_,l3⟩;rw[e1];exact h.xs rfl h5 h6 hoL ⟨h.le.1,h.le.2.1⟩ (fun h7=>(l4 h7).elim he (fun h8=>by rw[show(DV (mA 5 (BF o.r) none 0 (BL o.r).2)).kind=98 from by kernel_rfl] at h8;cases h8)) (fun h7=>by have h8:=l5 h7;rw[show(DV (mA 5 (BF o.r) none 0 (BL o.r).2)).kind=98 from by kernel_rfl] at h8;cases h8) rfl rfl rfl
   ·have ea:IX (BL o.r).1 (BF o.r) (BL o.r).2 C x=((C,x),(BL o.r).1):=by unfold IX;exact if_neg hE
    rw[ea,if_pos hE] at e0;exact⟨[],GH (by rw[e0]) (by rw[e0];exact same rfl h.said rfl rfl) (by rw[e0];exact n0) nk⟩
 by_cases k3:o.kind=3
 ·have e0:doF C o=((AW C 0 (ET o.b)).1,((GZ C 0 o.b:Nat):Int),[],(AW C 0 (ET o.b)).2.1,(AW C 0 (ET o.b)).2.2):=by unfold doF;rw[if_neg k2,if_pos k3,hi]
  have et:GZ C 0 o.b=if(BO C || !decide (x.st=2)||x.clo||x.eof)=true then 0 else o.b.length-(DM (o.b.length+1) C x o.b).2.length:=by
   unfold GZ;rw[hx];rfl
  rw[hd] at e0;by_cases hu:(BO C || !decide (x.st=2)||x.clo)=true
  ·rw[if_pos hu] at e0;rw[hu,Bool.true_or,if_pos rfl] at et;exact⟨[],GH (by rw[e0]) (by rw[e0];exact h) (by rw[e0,et];exact⟨Int.le_refl _,by simp⟩) (by rw[e0];exact fun h=>nine0 h.2)⟩
  ·rw[if_neg hu] at e0;have hclo:clo=false:=by
    cases hcc:clo with
    |false=>rfl
    |true=>rw[hc hcc,Bool.or_true] at hu;exact absurd rfl hu
   have hu2:(BO C || !decide (x.st=2)||x.clo)=false:=by simpa using hu
   rw[hu2,Bool.false_or] at et;by_cases hxe:x.eof=true
   ·have ea:ET o.b C x=((C,x),9):=by unfold ET;exact if_pos hxe
    rw[ea,if_pos (fun h=>by cases h)] at e0;rw[if_pos hxe] at et;exact⟨[],GH (by rw[e0]) (by rw[e0];exact same rfl h.said rfl rfl) (by rw[e0,et];exact⟨Int.le_refl _,by simp⟩) (by rw[e0];exact fun h=>nine0 h.2)⟩
   ·have heof:eof=false:=by
     cases hcc:eof with
     |false=>rfl
     |true=>exact absurd (he hcc) hxe
    have ea:ET o.b C x=((DM (o.b.length+1) C x o.b).1,0):=by unfold ET;exact if_neg hxe
    rw[ea,if_neg (fun h=>h rfl)] at e0;rw[if_neg hxe] at et;have hle:=h.le;obtain⟨l,k,i1,i2,i3,i4,i5,i6,i7,i8,i9,i10,i11⟩:=YR (o.b.length+1) C x o.b h5 h6 ⟨by omega,by omega⟩ hb;rw[i5,List.length_drop] at et;have et:GZ C 0 o.b=k:=by omega
    have hsend:(doF C o).2.2.2.1=(DM (o.b.length+1) C x o.b).1.1.said:=by rw[e0]
    have hC:(doF C o).1 = { (DM (o.b.length+1) C x o.b).1.1 with xs:=[(DM (o.b.length+1) C x o.b).1.2],said:=[] }:=by rw[e0]
    have hN:(doF C o).2.1=(k:Int):=by rw[e0,et]
    have hE:(doF C o).2.2.2.2=0:=by rw[e0]
    refine⟨l,⟨by rw[hsend,i1,h.said];rfl,fun m hm=>?_,fun ms hms=>?_,by rw[hN];omega,.inr ⟨i8,by omega⟩⟩⟩
    ·obtain⟨d,rfl,_,hdb⟩:=i8 m hm;exact⟨u5_of rfl rfl z rfl rfl,hdb,kn94⟩
    ·rw[good_D i8] at hms;obtain⟨j1,j2,j3,j4,j5⟩:=lw_data g s hms i8 (by rw[i10];omega);rw[heof,hclo,if_pos ⟨k3,hE⟩,hN,j2,j3,j4,j5,i9,i10];refine⟨j1,?_,by rw[Int.toNat_natCast]⟩;rw[hC,i4];exact h.xs (x':={ x with oL:=x.oL-k }) rfl h5 h6 (by show x.oL-(k:Int)=g-(s+(k:Int));omega) ⟨by omega,by omega⟩ (fun h=>by cases h) (fun h=>by cases h) rfl i2 i3
 by_cases k4:o.kind=4
 ·have e0:doF C o=((AW C 0 JA).1,0,[],(AW C 0 JA).2.1,(AW C 0 JA).2.2):=by unfold doF;rw[if_neg k2,if_neg k3,if_pos k4,hi]
  have nk: ¬(o.kind=3/\(doF C o).2.2.2.2=0):=fun h=>by omega
  rw[hd] at e0;by_cases hu:(BO C || !decide (x.st=2)||x.clo)=true
  ·rw[if_pos hu] at e0;exact⟨[],GH (by rw[e0]) (by rw[e0];exact h) (by rw[e0];exact n0) nk⟩
  ·rw[if_neg hu] at e0;have hclo:clo=false:=by
    cases hcc:clo with
    |false=>rfl
    |true=>rw[hc hcc,Bool.or_true] at hu;exact absurd rfl hu
   by_cases hxe:x.eof=true
   ·have ea:JA C x=((C,x),9):=by unfold JA;exact if_pos hxe
    rw[ea,if_pos (fun h=>by cases h)] at e0;exact⟨[],GH (by rw[e0]) (by rw[e0];exact same rfl h.said rfl rfl) (by rw[e0];exact n0) nk⟩
   ·have ea:JA C x=((FP C (mK 96 x.server),{ x with eof:=true }),0):=by unfold JA;exact if_neg hxe
    rw[ea,if_neg (fun h=>h rfl)] at e0;have es:(doF C o).2.2.2.1=BN C.said (mK 96 x.server):=by rw[e0];rfl
    have e1:(doF C o).1 = { FP C (mK 96 x.server) with xs:=[{ x with eof:=true }],said:=[] }:=by rw[e0]
    rw[h5] at es;refine⟨[mK 96 5],⟨by rw[es,h.said];simp[BN],fun m hm=>?_,fun ms hms=>?_,by rw[e0];exact n0,.inl (by simp)⟩⟩
    ·rw[qS] at hm;subst hm;exact⟨u5_of rfl rfl z rfl rfl,by simp[mK,InB],kn96⟩
    ·obtain⟨l1,l2,l3,l4,l5⟩:=dK (g:=g) (s:=s) (eof:=eof) hms (by rw[show(DV (mK 96 5)).kind=96 from by kernel_rfl];decide) (by kernel_rfl);rw[hclo,if_neg nk,l2];refine⟨l1,?_,l3⟩;rw[e1];exact h.xs (x':={ x with eof:=true }) rfl h5 h6 hoL ⟨h.le.1,h.le.2.1⟩ (fun _=>rfl) (fun h7=>by have h8:=l5 h7;rw[show(DV (mK 96 5)).kind=96 from by kernel_rfl] at h8;cases h8) rfl rfl rfl
 by_cases k5:o.kind=5
 ·have e0:doF C o=((AW C 0 EM).1,0,[],(AW C 0 EM).2.1,(AW C 0 EM).2.2):=by unfold doF;rw[if_neg k2,if_neg k3,if_neg k4,if_pos k5,hi]
  have nk: ¬(o.kind=3/\(doF C o).2.2.2.2=0):=fun h=>by omega
  rw[hd] at e0;by_cases hu:(BO C || !decide (x.st=2)||x.clo)=true
  ·rw[if_pos hu] at e0;exact⟨[],GH (by rw[e0]) (by rw[e0];exact h) (by rw[e0];exact n0) nk⟩
  ·rw[if_neg hu] at e0;have hclo:clo=false:=by
    cases hcc:clo with
    |false=>rfl
    |true=>rw[hc hcc,Bool.or_true] at hu;exact absurd rfl hu
   have ea:EM C x=((FP C (mK 97 x.server),{ x with clo:=true }),0):=rfl;rw[ea,if_neg (fun h=>h rfl)] at e0;have es:(doF C o).2.2.2.1=BN C.said (mK 97 x.server):=by rw[e0];rfl
   have e1:(doF C o).1 = { FP C (mK 97 x.server) with xs:=[{ x with clo:=true }],said:=[] }:=by rw[e0]
   rw[h5] at es;refine⟨[mK 97 5],⟨by rw[es,h.said];simp[BN],fun m hm=>?_,fun ms hms=>?_,by rw[e0];exact n0,.inl (by simp)⟩⟩
   ·rw[qS] at hm;subst hm;exact⟨u5_of rfl rfl z rfl rfl,by simp[mK,InB],kn97⟩
   ·obtain⟨l1,l2,l3,l4,l5⟩:=dK (g:=g) (s:=s) (eof:=eof) hms (by rw[show(DV (mK 97 5)).kind=97 from by kernel_rfl];decide) (by kernel_rfl);rw[hclo,if_neg nk,l2];refine⟨l1,?_,l3⟩;rw[e1];exact h.xs (x':={ x with clo:=true }) rfl h5 h6 hoL ⟨h.le.1,h.le.2.1⟩ (fun h7=>(l4 h7).elim he (fun h8=>by rw[show(DV (mK 97 5)).kind=97 from by kernel_rfl] at h8;cases h8)) (fun _=>rfl) rfl rfl rfl
 by_cases k7:o.kind=7
 ·have e0:doF C o=((CH C 0 o.most o.on).1,0,(CH C 0 o.most o.on).2.1,(CH C 0 o.most o.on).2.2,0):=by unfold doF;rw[if_neg k2,if_neg k3,if_neg k4,if_neg k5,if_pos k7,hi]
  have nk: ¬(o.kind=3/\(doF C o).2.2.2.2=0):=fun h=>by omega
  have hrd: ∃(x1:HS) (C':CS) (send:List Int),(doF C o).1=C'/\(doF C o).2.2.2.1=send/\C'.xs=[x1]/\(x1.server=5/\x1.oP=6/\x1.oL=x.oL/\x1.eof=x.eof/\x1.clo=x.clo)/\C'.said=[]/\C'.buf=C.buf/\C'.bad=C.bad/\(send=[]\/(x.clo=false/\∃n,U32 n/\send=BB (mW 5 n))):=by
   rw[e0];unfold CH;rw[hx];dsimp only[List.getElem?_cons_zero,List.set];have hclo2: ¬(BO C || !decide (x.st=2)||x.clo)=true->x.clo=false:=fun hu=>by
    cases hcc:x.clo with
    |false=>rfl
    |true=>rw[hcc,Bool.or_true] at hu;exact absurd rfl hu
   cases o.on
   ·simp only[Bool.false_eq_true,if_false];split;·exact⟨_,_,_,rfl,rfl,rfl,⟨h5,h6,rfl,rfl,rfl⟩,h.said,rfl,rfl,.inl rfl⟩
    ·rename_i hu;split;·exact⟨_,_,_,rfl,rfl,rfl,⟨h5,h6,rfl,rfl,rfl⟩,rfl,rfl,rfl,.inr ⟨hclo2 hu,_,ND x.iL x.iM _,hY h.said h5 _⟩⟩
     ·exact⟨_,_,_,rfl,rfl,rfl,⟨h5,h6,rfl,rfl,rfl⟩,rfl,rfl,rfl,.inl h.said⟩
   ·simp only[if_true];split;·exact⟨_,_,_,rfl,rfl,rfl,⟨h5,h6,rfl,rfl,rfl⟩,h.said,rfl,rfl,.inl rfl⟩
    ·rename_i hu;split;·exact⟨_,_,_,rfl,rfl,rfl,⟨h5,h6,rfl,rfl,rfl⟩,rfl,rfl,rfl,.inr ⟨hclo2 hu,_,ND x.iL x.iM _,hY h.said h5 _⟩⟩
     ·exact⟨_,_,_,rfl,rfl,rfl,⟨h5,h6,rfl,rfl,rfl⟩,rfl,rfl,rfl,.inl h.said⟩
  obtain⟨x1,C',send,e1,e2,e3,⟨f1,f2,f3,f4,f5⟩,e4,e5,e6,e7⟩:=hrd;have hN:(doF C o).2.1=0:=by rw[e0]
  have hSI: ∀{eof' clo':Bool},(eof'=true->x.eof=true)->(clo'=true->x.clo=true)->SI (doF C o).1 g s eof' clo':=fun ha hb'=>by
   rw[e1];exact h.xs e3 f1 f2 (by rw[f3];exact hoL) ⟨h.le.1,h.le.2.1⟩ (by rw[f4];exact ha) (by rw[f5];exact hb') e4 e5 e6
  rcases e7 with e7|⟨hxc,n,hn2,e7⟩;·exact⟨[],GH (by rw[e2,e7]) (hSI he hc) (by rw[hN];exact n0) nk⟩
  ·have hclo:clo=false:=by
    cases hcc:clo with
    |false=>rfl
    |true=>rw[hc hcc] at hxc;cases hxc
   refine⟨[mW 5 n],⟨by rw[e2,e7];simp,fun m hm=>?_,fun ms hms=>?_,by rw[hN];exact n0,.inl (by simp)⟩⟩
   ·rw[qS] at hm;subst hm;exact⟨u5_of rfl rfl hn2 rfl rfl,by simp[mW,InB],kn93⟩
   ·obtain⟨l1,l2,l3,l4,l5⟩:=dK (g:=g) (s:=s) (eof:=eof) hms (by rw[show(DV (mW 5 n)).kind=93 from by kernel_rfl];decide) (by kernel_rfl);rw[hclo,if_neg nk,l2];exact⟨l1,hSI (fun h7=>(l4 h7).elim he (fun h8=>by rw[show(DV (mW 5 n)).kind=93 from by kernel_rfl] at h8;cases h8)) (fun h7=>by have h8:=l5 h7;rw[show(DV (mW 5 n)).kind=93 from by kernel_rfl] at h8;cases h8),l3⟩
 ·have e0:doF C o=(C,0,[],[],0):=by unfold doF;rw[if_neg k2,if_neg k3,if_neg k4,if_neg k5,if_neg k7]
  exact⟨[],GH (by rw[e0]) (by rw[e0];exact h) (by rw[e0];exact n0) (fun h=>k3 h.1)⟩
theorem enc_lenD {d:List Int} {A:Option Addr} {c:Nat} (h:d.length<=6):(BZ (mD 5 A c d)).2.length<=15:=by
 obtain⟨js,hr,_,_,he⟩:=QB (enc_mD (A:=A) (c:=c) h);have hr2:BX (mD 5 A c d).kind=some [9,1]:=by show BX 94=_;decide
 rw[hr2] at hr;injection hr with hr;subst hr;rw[he];show(94::(AM ⟨3,5,[],[]⟩++(AM ⟨4,0,d,[]⟩++[]))).length<=15;rw[List.length_cons,zE,qN];have h1:(AM ⟨3,5,[],[]⟩).length=4:=by kernel_rfl
 have h2:(AM ⟨4,0,d,[]⟩).length=4+d.length:=by
  match d,h with
  |[],_=>rfl
  |[_],_=>rfl
  |[_,_],_=>rfl
  |[_,_,_],_=>rfl
  |[_,_,_,_],_=>rfl
  |[_,_,_,_,_],_=>rfl
  |[_,_,_,_,_,_],_=>rfl
 omega
theorem bE: ∀{l:List MD},(∀m∈l,isD m)->(l.flatMap BB).length<=19*l.length
 |[],_=>by simp
 |m::l,h=>by
  obtain⟨d,rfl,hd,_⟩:=h m (by simp);have ih:=bE (l:=l) fun x hx=>h x (by simp[hx]);have:=enc_lenD (A:=none) (c:=0) hd;rw[qG,zE,NZ (enc_mD hd),zE,List.length_cons];simp only[JQ,List.length_cons,List.length_nil];omega
theorem Sends.size {C:CS} {o:O3} {g s:Int} {eof clo:Bool} {l:List MD} (h:Sends C o g s eof clo l) (hb:o.b.length<=20000):(l.flatMap BB).length<=400000/\l.length<=20001:=by
 rcases h.len with h1|⟨h1,h2⟩
 ·match l,h1 with
  |[],_=>simp
  |[m],_=>
   have:=MZ m;rw[qG,zE];simp only[List.flatMap_nil,List.length_nil,List.length_cons];omega
 ·have:=bE h1;omega
def m91 (s w p:Int):MD:=⟨91,0,s,w,p,0,⟨#[]⟩,⟨#[]⟩,false,none,0,[]⟩
def csN (g p:Int):CS:=⟨g,p,[],false,false,[],newW,[]⟩
def hsO (g:Int):HS:=⟨1,0,0,0,g,g,[],[],[],BV,false,false,false⟩
def csO (g p:Int):CS:=⟨g,p,[],false,false,[],⟨[(0,[(g,p)])],0,[],[],false⟩,[hsO g]⟩
def hsU (g s w p:Int):HS:=⟨2,s,w,p,g,g,[],[],[],BV,false,false,false⟩
def csU (g pk s w p:Int):CS:=⟨g,pk,[],false,false,[],⟨[(0,[])],0,[(0,newE 0 (g,pk))],[(s,0)],false⟩,[hsU g s w p]⟩
theorem YI {m a:MD} (h:SameM m a):m = { a with dA:=m.dA,dc:=m.dc }:=by
 obtain⟨k,c,s,w,p,co,nm,lg,wa,dA,dc,da⟩:=m;obtain⟨h1,h2,h3,h4,h5,h6,h7,h8,h9,h10⟩:=h;dsimp only at h1 h2 h3 h4 h5 h6 h7 h8 h9 h10;subst h1;subst h2;subst h3;subst h4;subst h5;subst h6;subst h7;subst h8;subst h9;subst h10;rfl
theorem open9:DS (csN 9 9)=(csO 9 9,0,BB (mO 0 9 9),0):=by kernel_rfl
theorem open100:DS (csN 100 100)=(csO 100 100,0,BB (mO 0 100 100),0):=by kernel_rfl
theorem conf9 {m:MD} {r:RQ} (h:SameM m (DV (m91 4 3 2))):takesF (csO 9 9) m r=(csU 9 9 4 3 2,0):=by
 rw[YI h];generalize m.dA=dA;generalize m.dc=dc;kernel_rfl
theorem conf100 {m:MD} {r:RQ} (h:SameM m (DV (m91 5 20 6))):takesF (csO 100 100) m r=(csU 100 100 5 20 6,0):=by
 rw[YI h];generalize m.dA=dA;generalize m.dc=dc;kernel_rfl
theorem enc91a:(BZ (m91 4 3 2)).1=0:=by kernel_rfl
theorem enc91b:(BZ (m91 5 20 6)).1=0:=by kernel_rfl
def abcd:List Int:=[97,98,99,100]
def hsT:HS:=⟨2,4,0,2,9,9,[],[],[],BV,false,false,false⟩
def csT:CS:=⟨9,9,[],false,false,[],(csU 9 9 4 3 2).S,[hsT]⟩
theorem type9:AW (csU 9 9 4 3 2) 0 (ET abcd)=(csT,[mD 4 none 0 [97,98],mD 4 none 0 [99]].flatMap BB,0):=by kernel_rfl
theorem typed9:GZ (csU 9 9 4 3 2) 0 abcd=3:=by kernel_rfl
def mHi (A:Option Addr) (c:Nat):MD:=⟨94,0,0,0,0,0,⟨#[]⟩,⟨#[]⟩,false,A,c,[104,105]⟩
theorem encHi (A:Option Addr) (c:Nat):(BZ (mHi A c)).1=0:=by kernel_rfl
def hsH:HS:=⟨2,4,0,2,7,9,[104,105],[],[],BV,false,false,false⟩
def csH:CS:=⟨9,9,[],false,false,[],⟨[(0,[])],0,[(0,⟨0,9,2,9,false,false,false,0⟩)],[(4,0)],false⟩,[hsH]⟩
theorem hi9 {A:Option Addr} {c:Nat} {m:MD} {r:RQ} (h:SameM m (DV (mHi A c))):takesF csT m r=(csH,0):=by
 rw[YI h];generalize m.dA=dA;generalize m.dc=dc;kernel_rfl
theorem read9:(CH csH 0 9 false).2.1=[104,105]/\((CH csH 0 9 false).1.xs.map HS.st)=[2]:=⟨by kernel_rfl,by kernel_rfl⟩
theorem fed_ok {C C' D:CS} {m0:MD} {send:List Int} {E:Int} (hz:(BZ m0).1=0) (hu:U5 m0) (hs:BO C=false) (hb:C.buf=[]) (hbad:C.bad=false) (h:IU C (BB m0) C' send E) (ht: ∀m r,SameM m (DV m0)->takesF C m r=(D,0)):C' = { D with said:=[] }/\E=0:=by
 obtain⟨m,r,hsm,_,_,h2⟩:=aE hz hu hs hb hbad h;rw[ht m r hsm,if_neg (fun h=>h rfl)] at h2;exact h2
theorem encW (n:Int):(BZ (mW 0 n)).1=0/\(BZ (mW 0 n)).2.length=9:=⟨by kernel_rfl,by kernel_rfl⟩
theorem ownW (n:Int):(DV (mW 0 n)).kind=93/\(DV (mW 0 n)).chan=0/\(DV (mW 0 n)).window=n:=⟨by kernel_rfl,by kernel_rfl,by kernel_rfl⟩
theorem si_feed {C C':CS} {g s n:Int} {eof clo:Bool} {send:List Int} {E:Int} {N:Nat} (h:SI C g s eof clo) (hn:0<=n/\n<=50) (hg:g+n<=100000) (hok:COk N C) (hF:IU C (BB (mW 0 n)) C' send E):((E=0/\SI C' (g+n) s eof clo)\/(E≠0/\SI C' g s eof clo))/\COk (N+9) C':=by
 cases hs:BO C with
 |true=>
  unfold IU at hF;rw[if_pos hs] at hF;obtain⟨rfl,_,rfl⟩:=hF;exact⟨.inr ⟨by decide,h⟩,hok.up (by omega)⟩
 |false=>
  have hu:U5 (mW 0 n):=⟨z30,z30,⟨hn.1,by show n<=4294967295;omega⟩,z30,z30⟩;obtain⟨m,r,hsm,htk,_,h2⟩:=aE (encW n).1 hu hs h.buf.1 h.buf.2 hF;have htok:=iH hok (eT (m:=mW 0 n) (by simp[mW,InB])) (by rw[(encW n).2];decide) (by rw[(encW n).2];decide) htk;rw[(encW n).2] at htok;have k1:m.kind=93:=by rw[<-hsm.kind];exact(ownW n).1
  have k2:m.chan=0:=by rw[<-hsm.chan];exact(ownW n).2.1
  have k3:m.window=n:=by rw[<-hsm.window];exact(ownW n).2.2
  obtain⟨x,hx,h5,h6,hoL,he,hc⟩:=h.x;have hle:=h.le;by_cases hh:(AJ C.S m (okEx m)).2≠0
  ·have et:takesF C m r=({ C with S:=(AJ C.S m (okEx m)).1 },(AJ C.S m (okEx m)).2):=by unfold takesF;rw[if_pos hh]
   rw[et] at h2 htok;rw[if_pos hh] at h2;obtain⟨rfl,rfl⟩:=h2;exact⟨.inr ⟨by decide,h.xs (x':=x) hx h5 h6 hoL ⟨h.le.1,h.le.2.1⟩ he hc rfl rfl rfl⟩,cok_brk htok.1⟩
  ·have et:takesF C m r=({ C with S:=(AJ C.S m (okEx m)).1,xs:=[{ x with oL:=x.oL+n }] },0):=by
    unfold takesF;rw[if_neg hh,k2];have hx0:C.xs[(0:Int).toNat]? = some x:=by rw[hx];rfl
    rw[hx0];dsimp only;rw[if_neg (by rw[k1];decide),com93 k1,k3];have hgr:GX x.oL n=(x.oL+n,0):=by
     unfold GX;rw[IntKind.wrap_u32,IntKind.wrap_u32,if_neg (by omega)];congr 1;omega
    rw[hgr,hx];rfl
   rw[et] at h2 htok;rw[if_neg (fun h=>h rfl)] at h2;obtain⟨rfl,rfl⟩:=h2;refine⟨.inl ⟨rfl,⟨⟨{ x with oL:=x.oL+n },rfl,h5,h6,by show x.oL+n=g+n-s;omega,he,hc⟩,⟨by omega,by omega,hg⟩,rfl,h.buf⟩⟩,aA htok.1⟩
end Go.Proofs.YtfbhemmpobgdpaaGreatDoor
