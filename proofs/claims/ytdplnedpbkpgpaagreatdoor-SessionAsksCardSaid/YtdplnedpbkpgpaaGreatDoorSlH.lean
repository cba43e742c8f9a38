/- SessionAsks: lemmas, from 'Layer 1: Write' on; what each asks for stands in it. -/
import Derived.Test.YtdplnedpbkpgpaaGreatDoorSlF
import Derived.Deep.OwnRows
import Derived.Lib.SmallJoins
import Derived.Laws.IdiomStrings
import Derived.Test.YtdplnedpbkpgpaaGreatDoorSlG
import Derived.Test.YtdplnedpbkpgpaaGreatDoorSlA
import Derived.Test.YtdplnedpbkpgpaaGreatDoorSlC
set_option linter.all false
set_option maxRecDepth 100000
set_option maxHeartbeats 64000000
namespace Go.Proofs.YtdplnedpbkpgpaaGreatDoor
open Go.RowKit
structure RdF (w : World) (A : Option Addr) (fs : List FD) : Prop where
  cells : 0 < fs.length → ∃ b off, A = some ⟨b, off, none⟩ ∧ b < w.heap.size ∧ ∀ i f, fs[i]? = some f →
    w.cell? ⟨b, off + i * 4, none⟩ = some (.int .i64 f.kind) ∧ w.cell? ⟨b, off + i * 4 + 1, none⟩ = some (.int .u32 f.n) ∧ w.cell? ⟨b, off + i * 4 + 2, none⟩ = some (.slice f.tA f.text.length f.tc) ∧ w.cell? ⟨b, off + i * 4 + 3, none⟩ = some (.slice f.lA f.list.length f.lc)
  ok : ∀ f ∈ fs, f.ok w ∧ 0 ≤ f.n ∧ f.n ≤ 4294967295
theorem RdF.only {w w':World} {A:Option Addr} {fs:List FD} (h:RdF w A fs) (hb:Only [] w w'):RdF w' A fs:=by
 refine⟨fun h0=>?_,fun f hf=>⟨(h.ok f hf).1.only hb,(h.ok f hf).2⟩⟩;obtain⟨b,off,rfl,hlt,hc⟩:=h.cells h0;refine⟨b,off,rfl,Nat.lt_of_lt_of_le hlt hb.size,fun i f hi=>?_⟩;obtain⟨c0,c1,c2,c3⟩:=hc i f hi;exact⟨AS hb hlt (by simp) c0,AS hb hlt (by simp) c1,AS hb hlt (by simp) c2,AS hb hlt (by simp) c3⟩
def KJ (l:List Int):List Value:=l.map (.int .i64)
theorem intInfo:(Tryz.prog.info? 3).map (fun i=>(i.zero,i.size,i.bytes))=some (some (.int .i64 0),1,8):=by kernel_rfl
theorem make_ints (k:Nat) (hk:k≤1000) (W:World):(Instr.makeSlice 109 (.int .i64 (k:Int)) (.int .i64 (k:Int))).run Tryz.prog W = .ok (.slice (some ⟨W.heap.size,0,none⟩) k k) (W.alloc (.cells (KJ (List.replicate k 0)).toArray 3)):=by
 have h:=run_make_row' (P:=Tryz.prog) 109 3 (.int .i64 0) 8 Tryz.underlying109 intInfo rfl .i64 .i64 k (by omega) (by omega) W;have e:madeCells #[.int .i64 0] k=(KJ (List.replicate k 0)).toArray:=by
  apply Array.ext;·simp[madeCells,KJ]
  ·intro i h1 h2;simp[madeCells,KJ,Nat.mod_one]
 rw[e] at h;exact h
theorem take_set {cs:List Int} {k:Nat} (x:Int) (h:k<cs.length):(cs.set k x).take (k+1)=cs.take k++[x]:=by
 rw[List.take_add_one,List.getElem?_set_self h,List.take_set_of_le (Nat.le_refl _)];rfl
def WI (w:World) (res:Int×List Int):Ending→World→Prop:=fun E w'=>
 Only [] w w'∧∃v,E = .returned (.tuple #[v,.int .i64 res.1])∧DW w' w.heap.size v res.2
theorem JJ (w w':World) (e:Int) (h:Only [] w w'):WI w (e,[]) (.returned (.tuple #[.slice none 0 0,.int .i64 e])) w':=⟨h,_,rfl,UI _ _⟩
structure WL (w wr : World) (q : Nat) (fs : List FD) (res : Int × List Int) (k : Nat) (v : Value) (acc : List Int) : Prop where
  res : res = EB ((fs.drop k).map FD.pf) acc
  own : WrV wr (q + 1) (q + 2) v acc
  few : acc.length ≤ 33792
  tab : Blk wr q 158 tab.toList
  only : Only [] w wr
  low : w.heap.size ≤ q
theorem write_any (w:World) (A:Option Addr) (fs:List FD) (c:Nat) (h:RdF w A fs) (hn1:fs.length≤1000) :
  Calls Tryz.prog 42 #[.slice A fs.length c] w (WI w (IP (fs.map FD.pf))):=by
 obtain⟨n,hn⟩: ∃n,n=fs.length:=⟨_,rfl⟩;rw[←hn] at hn1⊢;obtain⟨res,hres⟩: ∃res,IP (fs.map FD.pf)=res:=⟨_,rfl⟩;rw[hres];replace hres:=AB hres;replace hn:=AB hn;have hmk:=make_ints n hn1;go_enter Tryz.func42,Tryz.ntmps42
 go_wp2_with fail
 go_loopw [17] (fun i wr=>∃(k:Nat) (cs:List Int),k≤n∧i = .int .i64 k∧cs.length=n∧cs.take k=(fs.take k).map (·.kind)∧Blk wr w.heap.size 3 (KJ cs)∧Only [] w wr) (fun i _=>n-(intOf i).toNat)
 case atStart=>exact⟨0,List.replicate n 0,by omega,rfl,by simp,rfl,Blk.new w _ _,(Only.refl _ _).alloc _⟩
 case round=>
  obtain⟨wo,rfl⟩: ∃wo:World,wo=wr:=⟨_,rfl⟩;obtain⟨k,cs,hk,rfl,hcs,htk,B,O⟩:=hrel;by_cases hlt:k<n
  ·obtain⟨f,hf⟩: ∃f,fs[k]? = some f:=⟨_,List.getElem?_eq_getElem (by have:=hn.out;omega)⟩;obtain⟨b,off,rfl,hb,hc⟩:=(h.only O).cells (by have:=hn.out;omega);obtain⟨c0,c1,c2,c3⟩:=hc k f hf;have hq:=B.lt;have hqk:wo.cell? ⟨w.heap.size,k,none⟩=some (.int .i64 (cs.getD k 0)):=by
    rw[B.cell k];simp[KJ,List.getElem?_eq_getElem (show k<cs.length by omega)]
   have hfk:=B.frozen k;obtain⟨kd,nn,tA,tc,tx,lA,lc,ls⟩:=f;dsimp only at c0 c1 c2 c3;replace htk:=AB htk;replace hcs:=AB hcs;replace hf:=AB hf;clear hc;go_wp2_with fail
   go_roundw
   case rel=>
    refine⟨k+1,cs.set k kd,by omega,by go_num,by rw[List.length_set];exact hcs.out,?_,?_,?_⟩
    ·rw[take_set _ (by rw[hcs.out];exact hlt),htk.out,DA hf.out,List.map_append];rfl
    ·have:=(B.set_ k (.int .i64 kd)).alloc (.cells #[.int .i64 kd,.int .u32 nn,.slice tA tx.length tc,.slice lA ls.length lc] 123);rw[KJ,List.map_set];exact this
    ·exact(O.setCell (p:=⟨w.heap.size,k,none⟩) (.inr (Nat.le_refl _)) _).alloc _
   case measure=>simp[intOf];omega
  ·obtain rfl:k=n:=by omega
   have hks:cs=(fs.map FD.pf).map (·.kind):=by
    rw[List.take_of_length_le (by omega),List.take_of_length_le (by have:=hn.out;omega)] at htk;rw[htk];simp[FD.pf]
   have RW:=row_any (some ⟨w.heap.size,0,none⟩) cs k wo (fun _=>⟨w.heap.size,0,rfl,B.lt,fun i x hx=>by
    rw[Nat.zero_add,B.cell i];simp[KJ,hx]⟩) (by unfold maxLen;omega)
   rw[hcs] at RW;have hB:=B.lt;replace hks:=AB hks;replace hcs:=AB hcs;clear htk;by_cases hr:GX cs=true
   ·rw[hr] at RW;have hres1:res=EB (fs.map FD.pf) []:=by
     rw[←hres.out];unfold IP;rw[←hks.out,if_pos hr]
    replace hr:=AB hr;replace hres1:=AB hres1;go_wp2_with fail
    go_call RW as e w1 ⟨rfl,rfl⟩
    clear RW;go_wp2_with fail
    go_call (XR wo) as e w1 ⟨rfl,P1⟩
    have hz:=heap_alloc_new w1 (.cells (Array.replicate 21 Value.nilFunc) 158);go_wp2_with (refine wpList_store_row rfl 158 (.tmp 7) (.tmp 31) rfl w1.heap.size tab rfl rfl 158 (Array.replicate 21 Value.nilFunc) hz (by kernel_rfl) (by kernel_rfl) (by kernel_rfl) ?_)
    have z1:=P1.size;go_loopw [36] (fun i wr=>∃(kk:Nat) (v:Value) (acc:List Int),kk≤k∧i = .int .i64 kk∧WL w wr w1.heap.size fs res kk v acc) (fun i _=>k-(intOf i).toNat)
    case atStart=>
     have Z:=LA (Blk.new w1 158 (List.replicate 21 Value.nilFunc)) tab.toList;have O2:Only [] w1 ((w1.alloc (.cells (Array.replicate 21 Value.nilFunc) 158)).setRow w1.heap.size tab):=((Only.refl [] w1).alloc _).trans (IF _ _ _) (by simp);have O3:=O2.alloc (.cells #[.slice none 0 0] 162);have hs2:((w1.alloc (.cells (Array.replicate 21 Value.nilFunc) 158)).setRow w1.heap.size tab).heap.size=w1.heap.size+1:=by simp
     have B3:=Blk.new ((w1.alloc (.cells (Array.replicate 21 Value.nilFunc) 158)).setRow w1.heap.size tab) 162 [.slice none 0 0];rw[hs2] at B3;have O4:=(O.trans P1 (by simp)).trans O3 (by simp);have zo:=O.size;refine⟨0,.slice none 0 0,[],by omega,rfl,⟨by simpa using hres1.out,⟨B3,UI _ _,by omega,by simp⟩,by simp,Blk.alloc Z _,O4,by omega⟩⟩
    case round=>
     clear hz P1;obtain⟨wb,rfl⟩: ∃wb:World,wb=wo:=⟨_,rfl⟩;obtain⟨wo,rfl⟩: ∃wo:World,wo=wr:=⟨_,rfl⟩;obtain⟨kk,v,acc,hkk,rfl,H⟩:=hrel;obtain⟨q,hq⟩: ∃q,q=w1.heap.size:=⟨_,rfl⟩;rw[←hq] at H⊢;replace hq:=AB hq;by_cases hlt2:kk<k
     ·obtain⟨f,hf⟩: ∃f,fs[kk]? = some f:=⟨_,List.getElem?_eq_getElem (by have:=hn.out;omega)⟩;have hfm:f∈fs:=List.mem_of_getElem? hf;obtain⟨b,off,rfl,hb,hc⟩:=(h.only H.only).cells (by have:=hn.out;omega);obtain⟨e0,e1,e2,e3⟩:=hc kk f hf;obtain⟨fok,fn1⟩:=(h.only H.only).ok f hfm;obtain⟨x1,x6⟩:=PK (i:=kk) (k:=f.kind) hr.out (by rw[hks.out];simp[hf,FD.pf]);have fold:=(h.ok f hfm).1;have hqlow:=H.low;have hob:=H.own.own.block;have ffar:f.far (q+1) v:=⟨fun a ha h0=>⟨by have:=fold.tlt a ha h0;omega,fun hv=>by have h1:=fold.tlt a ha h0;have h2:=hob _ hv;omega⟩,fun a ha h0=>⟨by have:=fold.llt a ha h0;omega,fun hv=>by have h1:=fold.llt a ha h0;have h2:=hob _ hv;omega⟩⟩;have hdrop:fs.drop kk=f::fs.drop (kk+1):=by
       have hki:kk<fs.length:=by have:=hn.out;omega
       rw[List.drop_eq_getElem_cons hki];congr 1
       rw[List.getElem?_eq_getElem hki] at hf;injection hf
      have hres2:=H.res;rw[hdrop,List.map_cons] at hres2;unfold EB at hres2;obtain⟨j,hj⟩:=Int.eq_ofNat_of_zero_le (show 0≤f.kind by omega);obtain⟨F,G,hF,hG,hcF,hcG,hCF,hCG⟩:=kindW_any j (by omega) (by omega);have ctF:wo.cell? ⟨q,j*3,none⟩=some (.func (Fn.func F) #[] #[]):=by
       rw[H.tab.cell];simpa using hF
      have ctG:wo.cell? ⟨q,j*3+1,none⟩=some (.func (Fn.func G) #[] #[]):=by
       rw[H.tab.cell];simpa using hG
      have hj7:j<7:=by omega
      obtain⟨w5,hw5⟩: ∃w5,w5=wo.alloc (.cells #[.int .i64 f.kind,.int .u32 f.n,.slice f.tA f.text.length f.tc,.slice f.lA f.list.length f.lc] 123):=⟨_,rfl⟩;have P5:Only [] wo w5:=by rw[hw5];exact(Only.refl _ _).alloc _
      have K5:Blk w5 wo.heap.size 123 f.cells:=by rw[hw5];exact Blk.new wo _ _
      have CF:=hCF w5.drew f hj (fok.only P5.drew);have hCG': ∀w6,Only [] w5 w6→BD f.pf=0→Calls Tryz.prog G #[.pointer (some ⟨q+1,0,none⟩),f.val] w6 (TB w6 (q+1) (q+2) v (acc++BK f.pf)):=fun w6 P6 h0=>
       hCG w6 f (q+1) (q+2) v acc hj ((fok.only P5).only P6) h0 ffar fn1 ((H.own.only P5 (by simp) (by simp)).only P6 (by simp) (by simp)) H.few
      have c0:w5.cell? ⟨wo.heap.size,0,none⟩=some (.int .i64 f.kind):=K5.cell 0;have c1:w5.cell? ⟨wo.heap.size,1,none⟩=some (.int .u32 f.n):=K5.cell 1;have c2:w5.cell? ⟨wo.heap.size,2,none⟩=some (.slice f.tA f.text.length f.tc):=K5.cell 2;have c3:w5.cell? ⟨wo.heap.size,3,none⟩=some (.slice f.lA f.list.length f.lc):=K5.cell 3;have hql:=H.tab.lt;have ctF5:w5.cell? ⟨q,j*3,none⟩=some (.func (Fn.func F) #[] #[]):=AS P5 hql (by simp) ctF;rw[hj] at e0 hw5 c0;unfold FD.val at CF;rw[hj] at CF;have hI:(fun w':World=>w'.cell? ⟨wo.heap.size,0,none⟩=some (.int .i64 (j:Int))∧w'.cell? ⟨wo.heap.size,1,none⟩=some (.int .u32 f.n)∧w'.cell? ⟨wo.heap.size,2,none⟩=some (.slice f.tA f.text.length f.tc)∧w'.cell? ⟨wo.heap.size,3,none⟩=some (.slice f.lA f.list.length f.lc)∧w'.cell? ⟨q,j*3,none⟩=some (.func (Fn.func F) #[] #[])) { w5 with drawn:=w5.drawn+1 }:=⟨c0,c1,c2,c3,ctF5⟩;replace hj:=AB hj;replace hCG':=AB hCG';replace hres2:=AB hres2;replace hdrop:=AB hdrop;replace hf:=AB hf;clear hc hF hG hCF hCG;go_wp2_with fail
      rw[←hw5];replace hw5:=AB hw5;refine AV (fun w':World=>w'.cell? ⟨wo.heap.size,0,none⟩=some (.int .i64 (j:Int))∧w'.cell? ⟨wo.heap.size,1,none⟩=some (.int .u32 f.n)∧w'.cell? ⟨wo.heap.size,2,none⟩=some (.slice f.tA f.text.length f.tc)∧w'.cell? ⟨wo.heap.size,3,none⟩=some (.slice f.lA f.list.length f.lc)∧w'.cell? ⟨q,j*3,none⟩=some (.func (Fn.func F) #[] #[])) [6,7] (by kernel_rfl) ?_;refine wpAnyE_tk 0 (v:=(.pointer (some ⟨wo.heap.size,0,none⟩))) rfl hI (fun w' hw'=>by obtain⟨i0,i1,i2,i3,i4⟩:=hw';go_simp) ?_;refine wpAnyE_tk 1 (v:=(.int .i64 (j:Int))) rfl hI (fun w' hw'=>by obtain⟨i0,i1,i2,i3,i4⟩:=hw';go_simp) ?_;refine wpAnyE_tk 2 (v:=(.pointer (some ⟨q,j*3,none⟩))) rfl hI (fun w' hw'=>by obtain⟨i0,i1,i2,i3,i4⟩:=hw';go_simp;try(intro h7;exact absurd h7 (by omega))) ?_;refine wpAnyE_tk 3 (v:=(.pointer (some ⟨q,j*3,none⟩))) rfl hI (fun w' hw'=>by obtain⟨i0,i1,i2,i3,i4⟩:=hw';go_simp) ?_;refine wpAnyE_tk 4 (v:=(.func (Fn.func F) #[] #[])) rfl hI (fun w' hw'=>by obtain⟨i0,i1,i2,i3,i4⟩:=hw';go_simp) ?_;refine wpAnyE_tk 5 (v:=(.agg #[.int .i64 (j:Int),.int .u32 f.n,.slice f.tA f.text.length f.tc,.slice f.lA f.list.length f.lc])) rfl hI (fun w' hw'=>by obtain⟨i0,i1,i2,i3,i4⟩:=hw';go_simp) ?_;refine GL 6 [] [6,7] rfl (by kernel_rfl) (by decide) hI ?_;simp only[List.drop_succ_cons,List.drop_zero];refine FO ?_;go_wp2_with fail
      go_call CF as e w6 ⟨rfl,P6⟩
      have ctG6:w6.cell? ⟨q,j*3+1,none⟩=some (.func (Fn.func G) #[] #[]):=AS (P5.drew.trans P6 (by simp)) hql (by simp) ctG;have K6:=(K5.drew).only P6 (by simp);have d0:w6.cell? ⟨wo.heap.size,0,none⟩=some (.int .i64 (j:Int)):=by rw[←hj.out];exact K6.cell 0
      have d1:w6.cell? ⟨wo.heap.size,1,none⟩=some (.int .u32 f.n):=K6.cell 1;have d2:w6.cell? ⟨wo.heap.size,2,none⟩=some (.slice f.tA f.text.length f.tc):=K6.cell 2;have d3:w6.cell? ⟨wo.heap.size,3,none⟩=some (.slice f.lA f.list.length f.lc):=K6.cell 3;have O6:Only [] w w6:=H.only.trans (P5.drew.trans P6 (by simp)) (by simp);by_cases hE:BD f.pf=0
      ·have hCG2:=hCG'.out w6.drew (((Only.refl [] w5).drew.trans P6 (by simp)).drew) hE;have hres3:res=if 33792<(acc++BK f.pf).length then(6,[]) else EB ((fs.drop (kk+1)).map FD.pf) (acc++BK f.pf):=by
        rw[hres2.out,if_neg (by simp[hE])]
       rw[hE];unfold FD.val at hCG2;rw[hj.out] at hCG2;have hE2:((0:Int)!=0)=false:=rfl;obtain⟨acc2,hacc⟩: ∃acc2,acc++BK f.pf=acc2:=⟨_,rfl⟩;rw[hacc] at hCG2 hres3;replace hres3:=AB hres3;have hI2:(fun w':World=>w'.cell? ⟨wo.heap.size,0,none⟩=some (.int .i64 (j:Int))∧w'.cell? ⟨wo.heap.size,1,none⟩=some (.int .u32 f.n)∧w'.cell? ⟨wo.heap.size,2,none⟩=some (.slice f.tA f.text.length f.tc)∧w'.cell? ⟨wo.heap.size,3,none⟩=some (.slice f.lA f.list.length f.lc)∧w'.cell? ⟨q,j*3+1,none⟩=some (.func (Fn.func G) #[] #[])) { w6 with drawn:=w6.drawn+1 }:=⟨d0,d1,d2,d3,ctG6⟩;clear hres2 hCG' hacc;go_wp2_with fail
       refine AV (fun w':World=>w'.cell? ⟨wo.heap.size,0,none⟩=some (.int .i64 (j:Int))∧w'.cell? ⟨wo.heap.size,1,none⟩=some (.int .u32 f.n)∧w'.cell? ⟨wo.heap.size,2,none⟩=some (.slice f.tA f.text.length f.tc)∧w'.cell? ⟨wo.heap.size,3,none⟩=some (.slice f.lA f.list.length f.lc)∧w'.cell? ⟨q,j*3+1,none⟩=some (.func (Fn.func G) #[] #[])) [7] (by kernel_rfl) ?_;refine wpAnyE_tk 0 (v:=(.pointer (some ⟨wo.heap.size,0,none⟩))) rfl hI2 (fun w' hw'=>by obtain⟨i0,i1,i2,i3,i4⟩:=hw';go_simp;try(intro h7;exact absurd h7 (by omega))) ?_;refine wpAnyE_tk 1 (v:=(.int .i64 (j:Int))) rfl hI2 (fun w' hw'=>by obtain⟨i0,i1,i2,i3,i4⟩:=hw';go_simp;try(intro h7;exact absurd h7 (by omega))) ?_;refine wpAnyE_tk 2 (v:=(.pointer (some ⟨q,j*3,none⟩))) rfl hI2 (fun w' hw'=>by obtain⟨i0,i1,i2,i3,i4⟩:=hw';go_simp;try(intro h7;exact absurd h7 (by omega))) ?_;refine wpAnyE_tk 3 (v:=(.pointer (some ⟨q,j*3+1,none⟩))) rfl hI2 (fun w' hw'=>by obtain⟨i0,i1,i2,i3,i4⟩:=hw';go_simp;try(intro h7;exact absurd h7 (by omega))) ?_;refine wpAnyE_tk 4 (v:=(.func (Fn.func G) #[] #[])) rfl hI2 (fun w' hw'=>by obtain⟨i0,i1,i2,i3,i4⟩:=hw';go_simp;try(intro h7;exact absurd h7 (by omega))) ?_;refine wpAnyE_tk 5 (v:=(.pointer (some ⟨q+1,0,none⟩))) rfl hI2 (fun w' hw'=>by obtain⟨i0,i1,i2,i3,i4⟩:=hw';go_simp;try(intro h7;exact absurd h7 (by omega))) ?_;refine wpAnyE_tk 6 (v:=(.agg #[.int .i64 (j:Int),.int .u32 f.n,.slice f.tA f.text.length f.tc,.slice f.lA f.list.length f.lc])) rfl hI2 (fun w' hw'=>by obtain⟨i0,i1,i2,i3,i4⟩:=hw';go_simp;try(intro h7;exact absurd h7 (by omega))) ?_;refine GL 7 [] [7] rfl (by kernel_rfl) (by decide) hI2 ?_;simp only[List.drop_succ_cons,List.drop_zero];refine FO ?_;go_wp2_with fail
       go_call hCG2 as e w7 ⟨rfl,v7,R7,M7⟩
       obtain⟨A9,k9,rfl,G9,q9,m9,a9⟩:=R7.own.rd;have O7:Only [] w w7:=(O6.drew).trans M7.1 (fun x hx=>by
        right;rcases List.mem_cons.1 hx with rfl|hx;·omega
        ·have:=hob x (by simpa using hx);omega)
       have B7:Blk w7 q 158 tab.toList:=(((H.tab.only P5 (by simp)).drew.only P6 (by simp)).drew).only M7.1 (fun hm=>by
        rcases List.mem_cons.1 hm with hm|hm;·omega
        ·have:=hob q (by simpa using hm);omega)
       have g0:w7.cell? ⟨q+1,0,none⟩=some (.slice A9 acc2.length k9):=R7.blk.cell 0;obtain⟨LL,hLL⟩: ∃LL,acc2.length=LL:=⟨_,rfl⟩;rw[hLL] at g0 q9;by_cases hbig:33792<LL
       ·have hfin:res=(6,[]):=by rw[hres3.out,if_pos (by omega)]
        have hb3:(33792:Int)<(LL:Int):=by omega
        replace hfin:=AB hfin;replace hLL:=AB hLL;clear hres3;go_wp2_with fail
        go_ret2
        rw[hfin.out];exact JJ _ _ _ O7
       ·have hfin:res=EB ((fs.drop (kk+1)).map FD.pf) acc2:=by rw[hres3.out,if_neg (by omega)]
        have hb3: ¬(33792:Int)<(LL:Int):=by omega
        replace hfin:=AB hfin;replace hLL:=AB hLL;clear hres3;go_wp2_with fail
        go_roundw
        case rel=>exact⟨kk+1,_,acc2,by omega,by go_num,⟨hfin.out,R7,by rw[hLL.out];omega,B7,O7,hqlow⟩⟩
        case measure=>simp[intOf];omega
      ·have hE2:(BD f.pf !=0)=true:=by simpa using hE
       have hfin:res=(BD f.pf,[]):=by rw[hres2.out,if_pos hE]
       replace hfin:=AB hfin;clear hres2 hCG';go_wp2_with fail
       go_ret2
       rw[hfin.out];exact JJ _ _ _ O6
     ·have hkk3:kk=k:=by omega
      subst hkk3;have hres2:=H.res;rw[List.drop_eq_nil_of_le (by have:=hn.out;omega)] at hres2;have hres3:res=(0,acc):=hres2;replace hres3:=AB hres3;clear hres2;obtain⟨A9,k9,rfl,G9,q9,m9,a9⟩:=H.own.own.rd;have g0:wo.cell? ⟨q+1,0,none⟩=some (.slice A9 acc.length k9):=H.own.blk.cell 0;have hqlow:=H.low;go_wp2_with fail
      go_ret2
      rw[hres3.out];exact⟨H.only,_,rfl,H.own.own.mono (by omega)⟩
   ·have hr':GX cs=false:=by simpa using hr
    rw[hr'] at RW;have hres1:res=(2,[]):=by
     rw[←hres.out];unfold IP;rw[←hks.out,if_neg hr]
    clear hr hr';replace hres1:=AB hres1;go_wp2_with fail
    go_call RW as e w1 ⟨rfl,rfl⟩
    go_wp2_with fail
    go_ret2
    rw[hres1.out];exact JJ _ _ _ O
theorem QF: ∀(fs:List FD) (i:Nat) (f:FD) (j:Nat),fs[i]? = some f→j<4→(BR fs)[i*4+j]? = f.cells[j]?
 |[],i,f,j,h,_=>by simp at h
 |g::fs,0,f,j,h,hj=>by
  simp at h;subst h;unfold BR;rw[List.flatMap_cons,Nat.zero_mul,Nat.zero_add,List.getElem?_append_left (by simpa[FD.cells] using hj)]
 |g::fs,i+1,f,j,h,hj=>by
  simp at h;have:=QF fs i f j h hj;unfold BR at this⊢;rw[List.flatMap_cons,List.getElem?_append_right (by simp[FD.cells];omega),←this];congr 1
  simp[FD.cells];omega
theorem rdF_of {w:World} {b off:Nat} {fs:List FD} (hb:b<w.heap.size) (hc: ∀j u,(BR fs)[j]? = some u→w.cell? ⟨b,off+j,none⟩=some u) (ok: ∀f∈fs,f.ok w∧0≤f.n∧f.n≤4294967295):RdF w (some ⟨b,off,none⟩) fs:=by
 refine⟨fun _=>⟨b,off,rfl,hb,fun i f hi=>?_⟩,ok⟩;have h:=fun j hj=>QF fs i f j hi hj;have h0:=h 0 (by decide);have h1:=h 1 (by decide);have h2:=h 2 (by decide);have h3:=h 3 (by decide);refine⟨hc _ _ h0,?_,?_,?_⟩;·rw[Nat.add_assoc];exact hc _ _ h1
 ·rw[Nat.add_assoc];exact hc _ _ h2
 ·rw[Nat.add_assoc];exact hc _ _ h3
theorem EJ.rdF {w:World} {base:Nat} {A:Option Addr} {n cap:Nat} {fs:List FD} (h:EJ w base (.slice A n cap) fs) (ok: ∀f∈fs,f.ok w∧0≤f.n∧f.n≤4294967295):RdF w A fs:=by
 obtain⟨A',cap',e,_,_,hc⟩:=h.form;injection e with e1 e2 e3;subst e1;by_cases h0:0<fs.length
 ·obtain⟨b,rfl,_,hb,hcell⟩:=hc h0;exact rdF_of hb (fun j u hj=>by rw[Nat.zero_add];exact hcell j u hj) ok
 ·exact⟨fun h=>absurd h h0,ok⟩
theorem IW (w:World) (cs:Array Value) (l:List Int) (h:cs=(KJ l).toArray):RdI (w.alloc (.cells cs 3)) (some ⟨w.heap.size,0,none⟩) l:=fun _=>⟨w.heap.size,0,rfl,by simp,fun i v hi=>by
 rw[h,World.cell?_alloc_mark];simp[KJ,hi]⟩
theorem rdS_new (w:World) (cs:Array Value) (l:List ByteArray) (t:TypeId) (h:cs=(l.map Value.string).toArray):RdS (w.alloc (.cells cs t)) (some ⟨w.heap.size,0,none⟩) l:=fun _=>⟨w.heap.size,0,rfl,by simp,fun i v hi=>by
 rw[h,World.cell?_alloc_mark];simp[hi]⟩
end Go.Proofs.YtdplnedpbkpgpaaGreatDoor
namespace Go.Proofs.YtdplnedpbkpgpaaGreatDoor
open Go.RowKit
theorem strInfos:(Tryz.prog.info? 9).map (fun i=>(i.zero,i.size,i.bytes))=some (some (.string ByteArray.empty),1,16):=by kernel_rfl
def JH (l:List ByteArray):List Value:=l.map Value.string
def HJ (w:World) (base:Nat) (v:Value) (l:List ByteArray):Prop:=w.ownsRow base 9 1 v l.length (JH l)
theorem UJ (w:World) (base:Nat):HJ w base (.slice none 0 0) []:=World.ownsRow_nil w base _ _
theorem HJ.far {w w':World} {base:Nat} {v:Value} {l:List ByteArray} {L:List Nat} (h:HJ w base v l) (hb:Only L w w') (hL: ∀x∈L,some x≠v.ownBlock):HJ w' base v l:=by
 refine⟨h.1,?_⟩;rcases h.2 with h|⟨g,cap,cur,e,hg,hh,r⟩;·exact .inl h
 ·exact .inr ⟨g,cap,cur,e,hg,(hb.block g (Array.getElem?_eq_some_iff.1 hh).1 (fun hm=>hL g hm (by rw[e];rfl))).trans hh,r⟩
theorem HJ.block {w:World} {base:Nat} {v:Value} {l:List ByteArray} (h:HJ w base v l): ∀k,v.ownBlock=some k→base≤k∧k<w.heap.size:=World.ownsRow.lt h
theorem HJ.rd {w:World} {base:Nat} {v:Value} {l:List ByteArray} (h:HJ w base v l): ∃A cap,v = .slice A l.length cap∧RdS w A l∧l.length≤cap∧cap≤maxLen∧(∀a,A=some a→base≤a.block):=by
 rcases h.2 with⟨e,hn⟩|⟨g,cap,cur,e,hg,hh,hc,hm,hs,ht⟩
 ·refine⟨none,0,by rw[e,hn],?_,by omega,by simp[maxLen],by simp⟩;obtain rfl:=List.eq_nil_of_length_eq_zero hn;exact RdG.nil
 ·refine⟨some ⟨g,0,none⟩,cap,e,fun _=>⟨g,0,rfl,(Array.getElem?_eq_some_iff.1 hh).1,fun i v hi=>?_⟩,hc,hm,fun a ha=>by simp at ha;subst ha;exact hg⟩;subst e;have:=World.ownsRow.cells h (g:=g) rfl i (.string v) (by simp[JH,hi]);simpa[Addr.add_lit] using this
theorem run_appS {w:World} (ty:TypeId) (base:Nat) (v:Value) (l:List ByteArray) (hown:HJ w base v l) (A:Option Addr) (c:Nat) (m:List ByteArray) (hr:RdS w A m)
  (hlen:l.length+m.length≤8796093022208) (hbase:base≤w.heap.size) :
  ∃v' w',(Builtin.append_ #[121,121] ty #[v,.slice A m.length c]).run Tryz.prog w = .ok v' w'∧HJ w' base v' (l++m)∧Only v.ownBlock.toList w w':=by
 obtain⟨i0,hi,hz0,hz1,hz2⟩:=info_parts strInfos;have hu:=Tryz.underlying121;by_cases h0:0<m.length
 ·obtain⟨b,off,rfl,hb,hc⟩:=hr h0;have hn: ∀j u,(JH m)[j]? = some u→w.cell? ((⟨b,off,none⟩:Addr).add j)=some u:=by
   intro j u hj;unfold JH at hj;rw[List.getElem?_map] at hj;obtain⟨s,hs,rfl⟩:=Option.map_eq_some_iff.1 hj;rw[Addr.add_lit];exact hc j s hs
  have h1c: ∀u∈JH m,u.oneCell'=true:=by
   intro u hu;unfold JH at hu;obtain⟨s,_,rfl⟩:=List.mem_map.1 hu;rfl
  obtain⟨v',w',e,h1,h2,h3⟩:=run_append_own (P:=Tryz.prog) w base 121 ty 9 i0 _ 1 16 hu hi hz0 hz1 hz2 rfl (by decide) v l.length (JH l) hown ⟨b,off,none⟩ m.length c (JH m) (by simp[JH]) hn h1c (by simp only[maxLen];omega) (by omega) hbase;exact⟨v',w',e,by show World.ownsRow _ _ _ _ _ _ _;simpa[JH] using h1,FY h2⟩
 ·have e0:m=[]:=List.eq_nil_of_length_eq_zero (by omega);subst e0;refine⟨v,w,?_,by rw[List.append_nil];exact hown,Only.refl _ _⟩;have hf: ∀w':World,(Builtin.firstCells 1 0 (.slice A 0 c)).run Tryz.prog w' = .ok #[] w':=by
   intro w';cases A<;>simp[Builtin.firstCells,loadCells,loadCellsFrom]
  rcases hown.2 with⟨rfl,hn⟩|⟨g,cap,cur,rfl,_,_,hnc,_⟩;·cases A<;>simp[Builtin.append_,run_underlying hu,sizeOf,typeInfo,hi,hz1,Builtin.lenOf,hf]
  ·cases A<;>simp[Builtin.append_,run_underlying hu,sizeOf,typeInfo,hi,hz1,Builtin.lenOf,hf,hnc,storeCells]
theorem cU {w:World} {ops:Array Oper} {rest:List Oper} {o:Oper} {a:Act} {Q:Exit→Act→World→Prop} (hgd:o.guard=none) (s x:Operand)
  (ho:o.op = .call { callee:=.builtin .append,args:=#[s,x],argTypes:=#[121,121] })
  (base:Nat) (v:Value) (l:List ByteArray) (hs:a.eval s=v) (hown:HJ w base v l) (A:Option Addr) (c:Nat) (m:List ByteArray) (k:Nat) (hk:m.length=k) (hx:a.eval x = .slice A k c) (hr:RdS w A m)
  (hlen:l.length+m.length≤8796093022208) (hbase:base≤w.heap.size)
  (h: ∀v' w',Hid (HJ w' base v' (l++m))→Only v.ownBlock.toList w w'→wpList Tryz.prog ops Q rest (a.put o.dst v') w'):wpList Tryz.prog ops Q (o::rest) a w:=by
 subst hk;refine wpList_plain hgd fun K hK=>?_;obtain⟨v',w',hrun,h1,h2⟩:=run_appS o.type base v l hown A c m hr hlen hbase;unfold Oper.wp execOp;simp only[ho,resolve,invoke,builtin,Sem.run_bind,Sem.run_pure,Result.andThen_ok,List.map_toArray,List.map_cons,List.map_nil,hs,hx,hrun];exact hK _ _ (h v' w' h1 h2)
end Go.Proofs.YtdplnedpbkpgpaaGreatDoor
namespace Go.Proofs.YtdplnedpbkpgpaaGreatDoor
open Go.RowKit
theorem intInfos2:(Tryz.prog.info? 3).map (fun i=>(i.zero,i.size,i.bytes))=some (some (.int .i64 0),1,8):=by kernel_rfl
def JM (w:World) (base:Nat) (v:Value) (l:List Int):Prop:=w.ownsRow base 3 1 v l.length (KJ l)
theorem FZ (w:World) (base:Nat):JM w base (.slice none 0 0) []:=World.ownsRow_nil w base _ _
theorem JM.far {w w':World} {base:Nat} {v:Value} {l:List Int} {L:List Nat} (h:JM w base v l) (hb:Only L w w') (hL: ∀x∈L,some x≠v.ownBlock):JM w' base v l:=by
 refine⟨h.1,?_⟩;rcases h.2 with h|⟨g,cap,cur,e,hg,hh,r⟩;·exact .inl h
 ·exact .inr ⟨g,cap,cur,e,hg,(hb.block g (Array.getElem?_eq_some_iff.1 hh).1 (fun hm=>hL g hm (by rw[e];rfl))).trans hh,r⟩
theorem JM.block {w:World} {base:Nat} {v:Value} {l:List Int} (h:JM w base v l): ∀k,v.ownBlock=some k→base≤k∧k<w.heap.size:=World.ownsRow.lt h
theorem JM.rd {w:World} {base:Nat} {v:Value} {l:List Int} (h:JM w base v l): ∃A cap,v = .slice A l.length cap∧RdI w A l∧l.length≤cap∧cap≤maxLen∧(∀a,A=some a→base≤a.block):=by
 rcases h.2 with⟨e,hn⟩|⟨g,cap,cur,e,hg,hh,hc,hm,hs,ht⟩
 ·refine⟨none,0,by rw[e,hn],?_,by omega,by simp[maxLen],by simp⟩;obtain rfl:=List.eq_nil_of_length_eq_zero hn;exact RdG.nil
 ·refine⟨some ⟨g,0,none⟩,cap,e,fun _=>⟨g,0,rfl,(Array.getElem?_eq_some_iff.1 hh).1,fun i v hi=>?_⟩,hc,hm,fun a ha=>by simp at ha;subst ha;exact hg⟩;subst e;have:=World.ownsRow.cells h (g:=g) rfl i (.int .i64 v) (by simp[KJ,hi]);simpa[Addr.add_lit] using this
theorem run_appI {w:World} (ty:TypeId) (base:Nat) (v:Value) (l:List Int) (hown:JM w base v l) (A:Option Addr) (c:Nat) (m:List Int) (hr:RdI w A m)
  (hlen:l.length+m.length≤8796093022208) (hbase:base≤w.heap.size) :
  ∃v' w',(Builtin.append_ #[109,109] ty #[v,.slice A m.length c]).run Tryz.prog w = .ok v' w'∧JM w' base v' (l++m)∧Only v.ownBlock.toList w w':=by
 obtain⟨i0,hi,hz0,hz1,hz2⟩:=info_parts intInfos2;have hu:=Tryz.underlying109;by_cases h0:0<m.length
 ·obtain⟨b,off,rfl,hb,hc⟩:=hr h0;have hn: ∀j u,(KJ m)[j]? = some u→w.cell? ((⟨b,off,none⟩:Addr).add j)=some u:=by
   intro j u hj;unfold KJ at hj;rw[List.getElem?_map] at hj;obtain⟨s,hs,rfl⟩:=Option.map_eq_some_iff.1 hj;rw[Addr.add_lit];exact hc j s hs
  have h1c: ∀u∈KJ m,u.oneCell'=true:=by
   intro u hu;unfold KJ at hu;obtain⟨s,_,rfl⟩:=List.mem_map.1 hu;rfl
  obtain⟨v',w',e,h1,h2,h3⟩:=run_append_own (P:=Tryz.prog) w base 109 ty 3 i0 _ 1 8 hu hi hz0 hz1 hz2 rfl (by decide) v l.length (KJ l) hown ⟨b,off,none⟩ m.length c (KJ m) (by simp[KJ]) hn h1c (by simp only[maxLen];omega) (by omega) hbase;exact⟨v',w',e,by show World.ownsRow _ _ _ _ _ _ _;simpa[KJ] using h1,FY h2⟩
 ·have e0:m=[]:=List.eq_nil_of_length_eq_zero (by omega);subst e0;refine⟨v,w,?_,by rw[List.append_nil];exact hown,Only.refl _ _⟩;have hf: ∀w':World,(Builtin.firstCells 1 0 (.slice A 0 c)).run Tryz.prog w' = .ok #[] w':=by
   intro w';cases A<;>simp[Builtin.firstCells,loadCells,loadCellsFrom]
  rcases hown.2 with⟨rfl,hn⟩|⟨g,cap,cur,rfl,_,_,hnc,_⟩;·cases A<;>simp[Builtin.append_,run_underlying hu,sizeOf,typeInfo,hi,hz1,Builtin.lenOf,hf]
  ·cases A<;>simp[Builtin.append_,run_underlying hu,sizeOf,typeInfo,hi,hz1,Builtin.lenOf,hf,hnc,storeCells]
theorem ED {w:World} {ops:Array Oper} {rest:List Oper} {o:Oper} {a:Act} {Q:Exit→Act→World→Prop} (hgd:o.guard=none) (s x:Operand)
  (ho:o.op = .call { callee:=.builtin .append,args:=#[s,x],argTypes:=#[109,109] })
  (base:Nat) (v:Value) (l:List Int) (hs:a.eval s=v) (hown:JM w base v l) (A:Option Addr) (c:Nat) (m:List Int) (k:Nat) (hk:m.length=k) (hx:a.eval x = .slice A k c) (hr:RdI w A m)
  (hlen:l.length+m.length≤8796093022208) (hbase:base≤w.heap.size)
  (h: ∀v' w',Hid (JM w' base v' (l++m))→Only v.ownBlock.toList w w'→wpList Tryz.prog ops Q rest (a.put o.dst v') w'):wpList Tryz.prog ops Q (o::rest) a w:=by
 subst hk;refine wpList_plain hgd fun K hK=>?_;obtain⟨v',w',hrun,h1,h2⟩:=run_appI o.type base v l hown A c m hr hlen hbase;unfold Oper.wp execOp;simp only[ho,resolve,invoke,builtin,Sem.run_bind,Sem.run_pure,Result.andThen_ok,List.map_toArray,List.map_cons,List.map_nil,hs,hx,hrun];exact hK _ _ (h v' w' h1 h2)
end Go.Proofs.YtdplnedpbkpgpaaGreatDoor
namespace Go.Proofs.YtdplnedpbkpgpaaGreatDoor
open Go.RowKit
def FD.off (f:FD) (v:Value):Prop:=(∀a,f.tA=some a→0<f.text.length→v.ownBlock≠some a.block)∧(∀a,f.lA=some a→0<f.list.length→v.ownBlock≠some a.block)
theorem mine_snoc {wo w13 w14:World} {base k':Nat} {A':Option Addr} {v:Value} {gs:List FD} {g:FD} (X:Only [] wo w13) (P:Only v.ownBlock.toList w13 w14) (G:KX v (.slice A' (gs.length+1) k') w13.heap.size)
  (hv: ∀x,v.ownBlock=some x→base≤x∧x<wo.heap.size) (hm: ∀f∈gs,FD.mine wo f base∧f.off v) (mg:FD.mine w13 g wo.heap.size) (hb:base≤wo.heap.size) :
  ∀f∈gs++[g],FD.mine w14 f base∧f.off (.slice A' (gs.length+1) k'):=by
 have z:=X.size;have hnw: ∀x,some x=(Value.slice A' (gs.length+1) k').ownBlock→some x=v.ownBlock∨w13.heap.size≤x:=by
  intro x hx;rcases G with e|e;·left;rw[e] at hx;exact hx
  ·right;rw[e] at hx;injection hx with hx;omega
 intro f hf;rw[List.mem_append] at hf;rcases hf with hf|hf
 ·obtain⟨m1,fr⟩:=hm f hf;have t1:=m1.ok.tlt;have t2:=m1.ok.llt;refine⟨(m1.only X).off P (fun a ha h0 hx=>fr.1 a ha h0 (by simpa using hx)) (fun a ha h0 hx=>fr.2 a ha h0 (by simpa using hx)),fun a ha h0 hx=>?_,fun a ha h0 hx=>?_⟩
  ·rcases hnw _ hx.symm with h|h;·exact fr.1 a ha h0 h.symm
   ·have:=t1 a ha h0;omega
  ·rcases hnw _ hx.symm with h|h;·exact fr.2 a ha h0 h.symm
   ·have:=t2 a ha h0;omega
 ·simp at hf;subst hf;have t1:=mg.ok.tlt;have t2:=mg.ok.llt;refine⟨(mg.off P (fun a ha h0 hx=>?_) (fun a ha h0 hx=>?_)).mono hb,fun a ha h0 hx=>?_,fun a ha h0 hx=>?_⟩
  ·have h1:=mg.new.1 a ha;have h2:=hv _ (by simpa using hx);omega
  ·have h1:=mg.new.2 a ha;have h2:=hv _ (by simpa using hx);omega
  ·have h1:=mg.new.1 a ha;rcases hnw _ hx.symm with h|h;·have h2:=hv _ h.symm;omega
   ·have:=t1 a ha h0;omega
  ·have h1:=mg.new.2 a ha;rcases hnw _ hx.symm with h|h;·have h2:=hv _ h.symm;omega
   ·have:=t2 a ha h0;omega
theorem KQ (s:ByteArray) (least:Nat) (w:World) (hs:s.size≤maxLen):Calls Tryz.prog 130 #[.string s,.int .i64 (least:Int)] w fun e w'=>e = .returned (.int .i64 (BV s least))∧w=w':=by
 unfold maxLen at hs;obtain⟨R,hR⟩: ∃R,R=BV s least:=⟨_,rfl⟩;rw[←hR];unfold BV at hR;by_cases h1:s.size<least
 ·have hR0:R=4:=by rw[hR];unfold GJ;rw[decide_eq_false (show¬least≤s.size by omega)];rfl
  have i1:(s.size:Int)<(least:Int):=by omega
  clear hR;replace hR0:=AB hR0;go_enter Tryz.func130,Tryz.ntmps130
  go_wp2
  go_ret
  exact⟨DC hR0.out.symm,rfl⟩
 have i1: ¬(s.size:Int)<(least:Int):=by omega
 by_cases h2:64<s.size
 ·have hR0:R=4:=by rw[hR];unfold GJ;rw[decide_eq_false (show¬s.size≤64 by omega)];simp
  have i2:(64:Int)<(s.size:Int):=by omega
  clear hR;replace hR0:=AB hR0;go_enter Tryz.func130,Tryz.ntmps130
  go_wp2
  go_ret
  exact⟨DC hR0.out.symm,rfl⟩
 have i2: ¬(64:Int)<(s.size:Int):=by omega
 have hR1:R=if s.data.toList.all KV then 0 else 4:=by rw[hR];unfold GJ;rw[decide_eq_true (show least≤s.size by omega),decide_eq_true (show s.size≤64 by omega)];rfl
 clear hR;obtain⟨n,hn⟩: ∃n,s.size=n:=⟨_,rfl⟩;replace hR1:=AB hR1;replace hn:=AB hn;go_enter Tryz.func130,Tryz.ntmps130
 go_wp2
 go_loop [17] (fun i=>∃k:Nat,k≤s.size∧i = .int .i64 k∧Hid ((s.data.toList.take k).all KV=true)) (fun i=>s.size-(intOf i).toNat)
 case atStart=>exact⟨0,by omega,rfl,AB rfl⟩
 case round=>
  obtain⟨k,hk,rfl,hg⟩:=hrel;by_cases hlt:k<s.size
  ·have hts:=AB (LM s k hlt);by_cases hc:KV s[k]=true
   ·have hcc:=AB hc;unfold KV at hc;simp only[Bool.and_eq_true,decide_eq_true_eq] at hc;obtain⟨q1,q2⟩:=hc;go_wp2
    go_round
    case rel=>exact⟨k+1,by omega,by go_num,AB (by rw[hts.out,List.all_append,hg.out];simp[hcc.out])⟩
    case measure=>simp[intOf];omega
   ·have hf:R=4:=by
     rw[hR1.out,if_neg];intro h;have:=List.all_eq_true.1 h s[k] (by
      have:s[k]=s.data.toList[k]'(by simpa using hlt):=rfl;rw[this];exact List.getElem_mem _)
     exact hc this
    have hq:s[k].toNat<33∨126<s[k].toNat:=by
     unfold KV at hc;simp at hc;omega
    clear hR1 hc;replace hf:=AB hf;by_cases q1:s[k].toNat<33
    ·clear hq;go_wp2
     go_ret
     exact⟨DC hf.out.symm,rfl⟩
    ·have q2:126<s[k].toNat:=by omega
     clear hq;go_wp2
     go_ret
     exact⟨DC hf.out.symm,rfl⟩
  ·obtain rfl:k=s.size:=by omega
   have hf:R=0:=by
    rw[hR1.out,if_pos];have:=hg.out;rw[List.take_of_length_le (by simp)] at this;exact this
   replace hf:=AB hf;go_wp2
   go_ret
   exact⟨DC hf.out.symm,rfl⟩
theorem MR (n:Nat) (w:World):Calls Tryz.prog 131 #[.int .i64 (n:Int)] w fun e w'=>e = .returned (.int .i64 (CK n))∧w=w':=by
 by_cases h:1024<n
 ·have h1:CK n=6:=if_pos h;rw[h1];have i1:(1024:Int)<(n:Int):=by omega
  clear h1;go_enter Tryz.func131,Tryz.ntmps131
  go_wp2
  go_ret
  exact⟨rfl,rfl⟩
 ·have h1:CK n=0:=if_neg h;rw[h1];have i1: ¬(1024:Int)<(n:Int):=by omega
  clear h1;go_enter Tryz.func131,Tryz.ntmps131
  go_wp2
  go_ret
  exact⟨rfl,rfl⟩
theorem QZ (l:List Int) (k:Nat) (h: ∀x∈l.take k,x=0):DF l=DF (l.drop k):=by
 induction k generalizing l with
 |zero=>rfl
 |succ k ih=>
  cases l with
  |nil=>rfl
  |cons a l=>
   have ha:a=0:=h a (by simp);show(if a≠0 then a else DF l)=DF (l.drop k);rw[if_neg (by simpa using ha)];exact ih l (fun x hx=>h x (by simp[hx]))
theorem NO (A:Option Addr) (l:List Int) (c:Nat) (w:World) (h:RdI w A l) (hl:l.length≤maxLen):Calls Tryz.prog 129 #[.slice A l.length c] w fun e w'=>e = .returned (.int .i64 (DF l))∧w=w':=by
 unfold maxLen at hl;obtain⟨R,hR⟩: ∃R,R=DF l:=⟨_,rfl⟩;rw[←hR];obtain⟨n,hn⟩: ∃n,l.length=n:=⟨_,rfl⟩;rw[hn] at hl⊢;replace hn:=AB hn;replace hR:=AB hR;go_enter Tryz.func129,Tryz.ntmps129
 go_wp2
 go_loop [7] (fun i=>∃k:Nat,k≤n∧i = .int .i64 k∧Hid (∀x∈l.take k,x=0)) (fun i=>n-(intOf i).toNat)
 case atStart=>exact⟨0,by omega,rfl,AB (fun x hx=>by simp at hx)⟩
 case round=>
  obtain⟨k,hk,rfl,hg⟩:=hrel;by_cases hlt:k<n
  ·obtain⟨b,off,x,rfl,hb,hx,cx⟩:=RdG.at h k (by have:=hn.out;omega);by_cases hz:x=0
   ·subst hz;have hg2: ∀y∈l.take (k+1),y=0:=by
     intro y hy;rw[List.take_succ,hx] at hy;rcases List.mem_append.1 hy with hy|hy;·exact hg.out y hy
     ·simpa using hy
    replace hg2:=AB hg2;replace hx:=AB hx;go_wp2
    go_round
    case rel=>exact⟨k+1,by omega,by go_num,hg2⟩
    case measure=>simp[intOf];omega
   ·have hzb:(x !=0)=true:=by simpa using hz
    have hf:R=x:=by
     rw[hR.out,QZ l k hg.out];have hd:l.drop k=x::l.drop (k+1):=by
      rw[List.drop_eq_getElem_cons (by have:=hn.out;omega)];congr 1
      rw[List.getElem?_eq_getElem (by have:=hn.out;omega)] at hx;exact Option.some.inj hx
     rw[hd];exact if_pos hz
    replace hf:=AB hf;replace hx:=AB hx;clear hz;go_wp2
    go_ret
    exact⟨DC hf.out.symm,rfl⟩
  ·obtain rfl:k=n:=by omega
   have hf:R=0:=by
    rw[hR.out,QZ l k hg.out,List.drop_of_length_le (by have:=hn.out;omega)];rfl
   replace hf:=AB hf;go_wp2
   go_ret
   exact⟨DC hf.out.symm,rfl⟩
def OA (w:World) (p:PF):Ending→World→Prop:=fun e w'=>Only [] w w'∧∃f:FD,e = .returned f.val∧f.pf=p∧f.new w.heap.size∧f.ok w'∧U32 f.n
theorem IZ (s:ByteArray) (w:World) (hs:s.size≤140737488355328):Calls Tryz.prog 132 #[.string s] w (OA w { pT s with kind:=0 }):=by
 obtain⟨w1,hw1⟩: ∃w1,w1=w.alloc (.cells #[.int .i64 0,.int .u32 0,.slice none 0 0,.slice none 0 0] 123):=⟨_,rfl⟩;have P1:Only [] w w1:=by rw[hw1];exact(Only.refl _ _).alloc _
 have K1:Blk w1 w.heap.size 123 [.int .i64 0,.int .u32 0,.slice none 0 0,.slice none 0 0]:=by rw[hw1];exact Blk.new w _ _
 have hs1:w1.heap.size=w.heap.size+1:=by rw[hw1];simp
 obtain⟨cc,w3,hcv,hcc,hcm,P3,RS,hs3⟩:=JE w1 s.data.toList;have hul:s.data.toList.length=s.size:=by simp
 rw[hul] at hcv hcc hcm;have heta:(⟨s.data.toList.toArray⟩:ByteArray)=s:=Go.Joins.bytes_eta s;rw[heta] at hcv;have K3:=K1.only P3 (by simp);have g0:w3.cell? ⟨w.heap.size,0,none⟩=some (.int .i64 0):=K3.cell 0;have g1:w3.cell? ⟨w.heap.size,1,none⟩=some (.int .u32 0):=K3.cell 1;have g2:w3.cell? ⟨w.heap.size,2,none⟩=some (.slice none 0 0):=K3.cell 2;have g3:w3.cell? ⟨w.heap.size,3,none⟩=some (.slice none 0 0):=K3.cell 3;have f0:=K3.frozen 0;have f1:=K3.frozen 1;have f2:=K3.frozen 2;have f3:=K3.frozen 3;rw[hw1] at hcv;have hcc2:(sOf s).length≤cc:=by rw[SZ];exact hcc
 have hcm2:cc≤maxLen:=hcm (by unfold maxLen;omega);rw[hs1] at RS;rw[show(w.alloc (.cells #[.int .i64 0,.int .u32 0,.slice none 0 0,.slice none 0 0] 123)).heap.size=w.heap.size+1 by simp] at hcv;obtain⟨n,hn⟩: ∃n,s.size=n:=⟨_,rfl⟩;rw[hn] at hcv;replace hcc:=AB hcc;replace hul:=AB hul;replace hn:=AB hn;replace hs1:=AB hs1;replace hw1:=AB hw1;replace heta:=AB heta;clear K1 hcm;go_enter Tryz.func132,Tryz.ntmps132
 go_wp2
 (try simp only[Exit.inBlock,Exit.then])
 have Y4:=W4.only w3 w.heap.size (.int .i64 0) (.int .u32 0) (.slice (some ⟨w.heap.size+1,0,none⟩) n cc) (.slice none 0 0);refine BX (g:=w.heap.size) rfl (by rfl) (by rfl) (W4.blk K3 (.int .i64 0) (.int .u32 0) (.slice (some ⟨w.heap.size+1,0,none⟩) n cc) (.slice none 0 0)) ?_;refine⟨(P1.trans P3 (by simp)).trans Y4 (fun x hx=>.inr (by simp at hx;omega)),⟨0,0,some ⟨w.heap.size+1,0,none⟩,cc,sOf s,none,0,[]⟩,?_,rfl,⟨fun a ha=>by injection ha with ha;subst ha;exact Nat.le_succ _,fun a ha=>by simp at ha⟩,⟨?_,RdG.nil,hcc2,hcm2,by simp,by simp,by simp⟩,Int.le_refl 0,show(0:Int)≤4294967295 by decide⟩
 ·unfold FD.val;dsimp only;rw[SZ,hn.out];rfl
 ·exact RdG.onlyL (mk:=.int .u8) RS Y4 (fun a ha _=>by injection ha with ha;subst ha;simp)
theorem XI (b:Bool) (w:World):Calls Tryz.prog 134 #[.bool b] w (OA w { pB b with kind:=0 }):=by
 cases b with
 |true=>
  go_enter Tryz.func134,Tryz.ntmps134
  go_wp2
  (try simp only[Exit.inBlock,Exit.then])
  refine BX (g:=w.heap.size) rfl (by rfl) (by rfl) (Blk.new w 123 [.int .i64 0,.int .u32 1,.slice none 0 0,.slice none 0 0]) ?_;exact⟨(Only.refl _ _).alloc _,⟨0,1,none,0,[],none,0,[]⟩,rfl,rfl,FD.new.plain _ _ _,FD.ok.plain _ _ _,by decide,by decide⟩
 |false=>
  go_enter Tryz.func134,Tryz.ntmps134
  go_wp2
  (try simp only[Exit.inBlock,Exit.then])
  refine BX (g:=w.heap.size) rfl (by rfl) (by rfl) (Blk.new w 123 [.int .i64 0,.int .u32 0,.slice none 0 0,.slice none 0 0]) ?_;exact⟨(Only.refl _ _).alloc _,⟨0,0,none,0,[],none,0,[]⟩,rfl,rfl,FD.new.plain _ _ _,FD.ok.plain _ _ _,by decide,by decide⟩
theorem CH (w:World) (fs:List FD) (n:Nat) (hn:fs.length=n) (h1:n≤1000) (cs:Array Value) (h:cs=(BR fs).toArray):EJ (w.alloc (.cells cs 123)) w.heap.size (.slice (some ⟨w.heap.size,0,none⟩) n n) fs:=by
 subst h;subst hn;exact⟨by rw[HU],.inr ⟨w.heap.size,fs.length,(BR fs).toArray,rfl,Nat.le_refl _,heap_alloc_new w (.cells (BR fs).toArray 123),Nat.le_refl _,by unfold maxLen;omega,by simp[HU],by rw[←HU];simp⟩⟩
def FU (w:World) (ps:List PF):Ending→World→Prop:=fun e w'=>Only [] w w'∧∃(v:Value) (fs:List FD),e = .returned v∧EJ w' w.heap.size v fs∧fs.map FD.pf=ps.map (fun p=>{ p with kind:=0 })∧(∀f∈fs,FD.ok w' f∧f.off v)∧∀f∈fs,U32 f.n
theorem BU {w:World} {f:FD} (h:f.ok w) (n c:Nat):f.off (.slice (some ⟨w.heap.size,0,none⟩) n c):=
 ⟨fun a ha h0 hx=>by have:=h.tlt a ha h0;have hx2:w.heap.size=a.block:=Option.some.inj hx;omega,fun a ha h0 hx=>by have:=h.llt a ha h0;have hx2:w.heap.size=a.block:=Option.some.inj hx;omega⟩
theorem XE (k n:Int) (v:Value):FD.off ⟨k,n,none,0,[],none,0,[]⟩ v:=⟨fun a ha=>by simp at ha,fun a ha=>by simp at ha⟩
section
variable (m : RQ) (g : Nat) (w : World)
theorem YF (hg:Blk w g 119 m.cells):Calls Tryz.prog 77 #[.pointer (some ⟨g,0,none⟩)] w (FU w (AP m 3)):=by
 go_enter Tryz.func77,Tryz.ntmps77
 go_wp2
 go_ret
 exact⟨Only.refl _ _,_,[],rfl,KK _ _,rfl,fun f hf=>by simp at hf,fun f hf=>by simp at hf⟩
theorem GR (hg:Blk w g 119 m.cells) (hs:m.text.size≤140737488355328):Calls Tryz.prog 80 #[.pointer (some ⟨g,0,none⟩)] w (FU w (AP m 4)):=by
 have c1:w.cell? ⟨g,1,none⟩=some (.string m.text):=hg.cell 1;have hlt:=hg.lt;have TX:=IZ m.text w hs;go_enter Tryz.func80,Tryz.ntmps80
 go_wp2_with fail
 go_call TX as e w1 ⟨P1,f,rfl,hp,hnew,okf,hn⟩
 have V:=CH w1 [f] 1 rfl (by decide) f.cells.toArray (by simp[BR]);have P2:Only [] w1 (w1.alloc (.cells f.cells.toArray 123)):=(Only.refl _ _).alloc _;have z1:=P1.size;unfold FD.val;go_wp2_with fail
 go_ret
 refine⟨P1.trans P2 (by simp),_,[f],rfl,V.mono z1,?_,fun x hx=>?_,fun x hx=>?_⟩;·rw[List.map_cons,hp];rfl
 ·rw[List.mem_singleton] at hx;subst hx;exact⟨okf.only P2,BU okf 1 1⟩
 ·rw[List.mem_singleton] at hx;subst hx;exact hn
theorem dD (hg:Blk w g 119 m.cells):Calls Tryz.prog 86 #[.pointer (some ⟨g,0,none⟩)] w (FU w (AP m 7)):=by
 have c9:w.cell? ⟨g,9,none⟩=some (.bool m.on):=hg.cell 9;have hlt:=hg.lt;have TX:=XI m.on w;go_enter Tryz.func86,Tryz.ntmps86
 go_wp2_with fail
 go_call TX as e w1 ⟨P1,f,rfl,hp,hnew,okf,hn⟩
 have V:=CH w1 [f] 1 rfl (by decide) f.cells.toArray (by simp[BR]);have P2:Only [] w1 (w1.alloc (.cells f.cells.toArray 123)):=(Only.refl _ _).alloc _;have z1:=P1.size;unfold FD.val;go_wp2_with fail
 go_ret
 refine⟨P1.trans P2 (by simp),_,[f],rfl,V.mono z1,?_,fun x hx=>?_,fun x hx=>?_⟩;·rw[List.map_cons,hp];rfl
 ·rw[List.mem_singleton] at hx;subst hx;exact⟨okf.only P2,BU okf 1 1⟩
 ·rw[List.mem_singleton] at hx;subst hx;exact hn
theorem YE (hg:Blk w g 119 m.cells) (hn:U32 m.code):Calls Tryz.prog 88 #[.pointer (some ⟨g,0,none⟩)] w (FU w (AP m 9)):=by
 have c10:w.cell? ⟨g,10,none⟩=some (.int .u32 m.code):=hg.cell 10;have hlt:=hg.lt;have V:=CH w [⟨0,m.code,none,0,[],none,0,[]⟩] 1 rfl (by decide) #[.int .i64 0,.int .u32 m.code,.slice none 0 0,.slice none 0 0] (by simp[BR,FD.cells]);go_enter Tryz.func88,Tryz.ntmps88
 go_wp2
 go_ret
 refine⟨(Only.refl _ _).alloc _,_,_,rfl,V,rfl,fun x hx=>?_,fun x hx=>?_⟩;·rw[List.mem_singleton] at hx;subst hx;exact⟨FD.ok.plain _ _ _,XE _ _ _⟩
 ·rw[List.mem_singleton] at hx;subst hx;exact hn
theorem IT (hg:Blk w g 119 m.cells) (hn:OB m):Calls Tryz.prog 84 #[.pointer (some ⟨g,0,none⟩)] w (FU w (AP m 6)):=by
 have hlt:=hg.lt;have V:=CH w.drew [⟨0,m.cols,none,0,[],none,0,[]⟩,⟨0,m.rows,none,0,[],none,0,[]⟩,⟨0,m.width,none,0,[],none,0,[]⟩,⟨0,m.height,none,0,[],none,0,[]⟩] 4 rfl (by decide) #[.int .i64 0,.int .u32 m.cols,.slice none 0 0,.slice none 0 0,.int .i64 0,.int .u32 m.rows,.slice none 0 0,.slice none 0 0,.int .i64 0,.int .u32 m.width,.slice none 0 0,.slice none 0 0,.int .i64 0,.int .u32 m.height,.slice none 0 0,.slice none 0 0] (by simp[BR,FD.cells]);go_enter Tryz.func84,Tryz.ntmps84
 go_wp2_with fail
 have hI:(fun w':World=>Blk w' g 119 m.cells) { w with drawn:=w.drawn+1 }:=hg;refine AV (fun w':World=>Blk w' g 119 m.cells) [] (by kernel_rfl) ?_;refine wpAnyE_tg 0 (v:=(.pointer (some ⟨g,0,none⟩))) rfl hI ?_;refine wpAnyE_tg 1 (v:=(.pointer (some ⟨g,0,none⟩))) rfl hI ?_;refine wpAnyE_tg 2 (v:=(.pointer (some ⟨g,0,none⟩))) rfl hI ?_;refine wpAnyE_tg 3 (v:=(.pointer (some ⟨g,4,none⟩))) rfl hI ?_;refine wpAnyE_tg 4 (v:=(.pointer (some ⟨g,4,none⟩))) rfl hI ?_;refine wpAnyE_tk 5 (v:=(.int .u32 m.cols)) rfl hI (fun w' hw'=>by have y0:w'.cell? ⟨g,4,none⟩=some (.int .u32 m.cols):=hw'.cell 4;go_simp) ?_;refine wpAnyE_tg 6 (v:=(.agg #[.int .i64 0,.int .u32 m.cols,.slice none 0 0,.slice none 0 0])) rfl hI ?_;refine wpAnyE_tg 7 (v:=(.pointer (some ⟨g,0,none⟩))) rfl hI ?_;refine wpAnyE_tg 8 (v:=(.pointer (some ⟨g,0,none⟩))) rfl hI ?_;refine wpAnyE_tg 9 (v:=(.pointer (some ⟨g,0,none⟩))) rfl hI ?_;refine wpAnyE_tg 10 (v:=(.pointer (some ⟨g,4,none⟩))) rfl hI ?_;refine wpAnyE_tg 11 (v:=(.pointer (some ⟨g,5,none⟩))) rfl hI ?_;refine wpAnyE_tk 12 (v:=(.int .u32 m.rows)) rfl hI (fun w' hw'=>by have y0:w'.cell? ⟨g,5,none⟩=some (.int .u32 m.rows):=hw'.cell 5;go_simp) ?_;refine wpAnyE_tg 13 (v:=(.agg #[.int .i64 0,.int .u32 m.rows,.slice none 0 0,.slice none 0 0])) rfl hI ?_;refine wpAnyE_tg 14 (v:=(.pointer (some ⟨g,0,none⟩))) rfl hI ?_;refine wpAnyE_tg 15 (v:=(.pointer (some ⟨g,0,none⟩))) rfl hI ?_;refine wpAnyE_tg 16 (v:=(.pointer (some ⟨g,0,none⟩))) rfl hI ?_;refine wpAnyE_tg 17 (v:=(.pointer (some ⟨g,4,none⟩))) rfl hI ?_;refine wpAnyE_tg 18 (v:=(.pointer (some ⟨g,6,none⟩))) rfl hI ?_;refine wpAnyE_tk 19 (v:=(.int .u32 m.width)) rfl hI (fun w' hw'=>by have y0:w'.cell? ⟨g,6,none⟩=some (.int .u32 m.width):=hw'.cell 6;go_simp) ?_;refine wpAnyE_tg 20 (v:=(.agg #[.int .i64 0,.int .u32 m.width,.slice none 0 0,.slice none 0 0])) rfl hI ?_;refine wpAnyE_tg 21 (v:=(.pointer (some ⟨g,0,none⟩))) rfl hI ?_;refine wpAnyE_tg 22 (v:=(.pointer (some ⟨g,0,none⟩))) rfl hI ?_;refine wpAnyE_tg 23 (v:=(.pointer (some ⟨g,0,none⟩))) rfl hI ?_;refine wpAnyE_tg 24 (v:=(.pointer (some ⟨g,4,none⟩))) rfl hI ?_;refine wpAnyE_tg 25 (v:=(.pointer (some ⟨g,7,none⟩))) rfl hI ?_;refine wpAnyE_tk 26 (v:=(.int .u32 m.height)) rfl hI (fun w' hw'=>by have y0:w'.cell? ⟨g,7,none⟩=some (.int .u32 m.height):=hw'.cell 7;go_simp) ?_;refine wpAnyE_tg 27 (v:=(.agg #[.int .i64 0,.int .u32 m.height,.slice none 0 0,.slice none 0 0])) rfl hI ?_;refine AG 28 rfl (by kernel_rfl) hI (fun K hK=>?_);rw[if_pos (by kernel_rfl)];go_simp
 refine hK _ _ ?_;clear hK K;have hI2:(fun w':World=>Blk w' g 119 m.cells) (w.drew.alloc (.cells #[.int .i64 0,.int .u32 m.cols,.slice none 0 0,.slice none 0 0,.int .i64 0,.int .u32 m.rows,.slice none 0 0,.slice none 0 0,.int .i64 0,.int .u32 m.width,.slice none 0 0,.slice none 0 0,.int .i64 0,.int .u32 m.height,.slice none 0 0,.slice none 0 0] 123)):=hg.alloc _;refine wpAnyE_tg 29 (v:=(.slice (some ⟨w.heap.size,0,none⟩) 4 4)) rfl hI2 ?_;refine AT (by kernel_rfl) hI2 ?_;clear hI hI2;simp only[Exit.then];go_wp2_with fail
 go_ret
 refine⟨((Only.refl _ _).drew).alloc _,_,_,rfl,V,rfl,fun x hx=>?_,fun x hx=>?_⟩
 ·simp only[List.mem_cons,List.not_mem_nil,or_false] at hx;rcases hx with rfl|rfl|rfl|rfl<;>exact⟨FD.ok.plain _ _ _,XE _ _ _⟩
 ·obtain⟨n1,n2,n3,n4,_⟩:=hn;simp only[List.mem_cons,List.not_mem_nil,or_false] at hx;rcases hx with rfl|rfl|rfl|rfl;·exact n1
  ·exact n2
  ·exact n3
  ·exact n4
theorem aT (hg:Blk w g 119 m.cells) (hs:m.text.size≤140737488355328) (hv:m.value.size≤140737488355328):Calls Tryz.prog 74 #[.pointer (some ⟨g,0,none⟩)] w (FU w (AP m 2)):=by
 have hlt:=hg.lt;go_enter Tryz.func74,Tryz.ntmps74
 go_wp2_with fail
 have hI:(fun w':World=>Blk w' g 119 m.cells) { w with drawn:=w.drawn+1 }:=hg;refine AV (fun w':World=>Blk w' g 119 m.cells) [] (by kernel_rfl) ?_;refine wpAnyE_tg 0 (v:=(.pointer (some ⟨g,0,none⟩))) rfl hI ?_;refine wpAnyE_tg 1 (v:=(.pointer (some ⟨g,0,none⟩))) rfl hI ?_;refine wpAnyE_tg 2 (v:=(.pointer (some ⟨g,0,none⟩))) rfl hI ?_;refine wpAnyE_tg 3 (v:=(.pointer (some ⟨g,1,none⟩))) rfl hI ?_;refine wpAnyE_tk 4 (v:=(.string m.text)) rfl hI (fun w' hw'=>by have y0:w'.cell? ⟨g,1,none⟩=some (.string m.text):=hw'.cell 1;go_simp) ?_;refine wpAnyE_tg 6 (v:=(.pointer (some ⟨g,0,none⟩))) rfl hI ?_;refine wpAnyE_tg 7 (v:=(.pointer (some ⟨g,0,none⟩))) rfl hI ?_;refine wpAnyE_tg 8 (v:=(.pointer (some ⟨g,0,none⟩))) rfl hI ?_;refine wpAnyE_tg 9 (v:=(.pointer (some ⟨g,2,none⟩))) rfl hI ?_;refine wpAnyE_tk 10 (v:=(.string m.value)) rfl hI (fun w' hw'=>by have y0:w'.cell? ⟨g,2,none⟩=some (.string m.value):=hw'.cell 2;go_simp) ?_;have P0:Only [] w w.drew:=(Only.refl _ _).drew;have T0:=IZ m.text w.drew hs;refine AG 5 rfl (by kernel_rfl) hI (fun K hK=>?_);rw[if_pos (by kernel_rfl)];go_simp
 go_call T0 as e w1 ⟨Q1,f1,rfl,hp1,hnew1,ok1,hn1⟩
 clear T0;have P1:Only [] w w1:=P0.trans Q1 (by simp);have hI1:(fun w':World=>Blk w' g 119 m.cells) w1:=hg.only P1 (by simp);refine hK _ _ ?_;clear hK K;unfold FD.val;have T1:=IZ m.value w1 hv;refine AG 11 rfl (by kernel_rfl) hI1 (fun K hK=>?_);rw[if_pos (by kernel_rfl)];go_simp
 go_call T1 as e w2 ⟨Q2,f2,rfl,hp2,hnew2,ok2,hn2⟩
 clear T1;have P2:Only [] w w2:=P1.trans Q2 (by simp);have hI2:(fun w':World=>Blk w' g 119 m.cells) w2:=hg.only P2 (by simp);have ok1:=ok1.only Q2;refine hK _ _ ?_;clear hK K;unfold FD.val;have V:=CH w2 [f1,f2] 2 rfl (by decide) #[.int .i64 f1.kind,.int .u32 f1.n,.slice f1.tA f1.text.length f1.tc,.slice f1.lA f1.list.length f1.lc,.int .i64 f2.kind,.int .u32 f2.n,.slice f2.tA f2.text.length f2.tc,.slice f2.lA f2.list.length f2.lc] (by simp[BR,FD.cells]);refine AG 12 rfl (by kernel_rfl) hI2 (fun K hK=>?_);rw[if_pos (by kernel_rfl)];go_simp
 refine hK _ _ ?_;clear hK K;have PL:Only [] w2 (w2.alloc (.cells #[.int .i64 f1.kind,.int .u32 f1.n,.slice f1.tA f1.text.length f1.tc,.slice f1.lA f1.list.length f1.lc,.int .i64 f2.kind,.int .u32 f2.n,.slice f2.tA f2.text.length f2.tc,.slice f2.lA f2.list.length f2.lc] 123)):=(Only.refl _ _).alloc _;have hIL:(fun w':World=>Blk w' g 119 m.cells) (w2.alloc (.cells #[.int .i64 f1.kind,.int .u32 f1.n,.slice f1.tA f1.text.length f1.tc,.slice f1.lA f1.list.length f1.lc,.int .i64 f2.kind,.int .u32 f2.n,.slice f2.tA f2.text.length f2.tc,.slice f2.lA f2.list.length f2.lc] 123)):=hI2.alloc _;refine wpAnyE_tg 13 (v:=(.slice (some ⟨w2.heap.size,0,none⟩) 2 2)) rfl hIL ?_;refine AT (by kernel_rfl) hIL ?_;simp only[Exit.then];go_wp2_with fail
 go_ret
 refine⟨P2.trans PL (by simp),_,_,rfl,V.mono P2.size,?_,fun x hx=>?_,fun x hx=>?_⟩;·simp only[List.map_cons,List.map_nil,hp1,hp2];rfl
 ·simp only[List.mem_cons,List.not_mem_nil,or_false] at hx;rcases hx with rfl|rfl;·exact⟨ok1.only PL,BU ok1 _ _⟩
  ·exact⟨ok2.only PL,BU ok2 _ _⟩
 ·simp only[List.mem_cons,List.not_mem_nil,or_false] at hx;rcases hx with rfl|rfl;·exact hn1
  ·exact hn2
theorem VT (hg:Blk w g 119 m.cells) (hs:m.text.size≤140737488355328) (hv:m.value.size≤140737488355328) (hl:m.lang.size≤140737488355328):Calls Tryz.prog 90 #[.pointer (some ⟨g,0,none⟩)] w (FU w (AP m 10)):=by
 have hlt:=hg.lt;go_enter Tryz.func90,Tryz.ntmps90
 go_wp2_with fail
 have hI:(fun w':World=>Blk w' g 119 m.cells) { w with drawn:=w.drawn+1 }:=hg;refine AV (fun w':World=>Blk w' g 119 m.cells) [] (by kernel_rfl) ?_;refine wpAnyE_tg 0 (v:=(.pointer (some ⟨g,0,none⟩))) rfl hI ?_;refine wpAnyE_tg 1 (v:=(.pointer (some ⟨g,0,none⟩))) rfl hI ?_;refine wpAnyE_tg 2 (v:=(.pointer (some ⟨g,0,none⟩))) rfl hI ?_;refine wpAnyE_tg 3 (v:=(.pointer (some ⟨g,1,none⟩))) rfl hI ?_;refine wpAnyE_tk 4 (v:=(.string m.text)) rfl hI (fun w' hw'=>by have y0:w'.cell? ⟨g,1,none⟩=some (.string m.text):=hw'.cell 1;go_simp) ?_;refine wpAnyE_tg 6 (v:=(.pointer (some ⟨g,0,none⟩))) rfl hI ?_;refine wpAnyE_tg 7 (v:=(.pointer (some ⟨g,0,none⟩))) rfl hI ?_;refine wpAnyE_tg 8 (v:=(.pointer (some ⟨g,0,none⟩))) rfl hI ?_;refine wpAnyE_tg 9 (v:=(.pointer (some ⟨g,9,none⟩))) rfl hI ?_;refine wpAnyE_tk 10 (v:=(.bool m.on)) rfl hI (fun w' hw'=>by have y0:w'.cell? ⟨g,9,none⟩=some (.bool m.on):=hw'.cell 9;go_simp) ?_;refine wpAnyE_tg 12 (v:=(.pointer (some ⟨g,0,none⟩))) rfl hI ?_;refine wpAnyE_tg 13 (v:=(.pointer (some ⟨g,0,none⟩))) rfl hI ?_;refine wpAnyE_tg 14 (v:=(.pointer (some ⟨g,0,none⟩))) rfl hI ?_;refine wpAnyE_tg 15 (v:=(.pointer (some ⟨g,2,none⟩))) rfl hI ?_;refine wpAnyE_tk 16 (v:=(.string m.value)) rfl hI (fun w' hw'=>by have y0:w'.cell? ⟨g,2,none⟩=some (.string m.value):=hw'.cell 2;go_simp) ?_;refine wpAnyE_tg 18 (v:=(.pointer (some ⟨g,0,none⟩))) rfl hI ?_;refine wpAnyE_tg 19 (v:=(.pointer (some ⟨g,0,none⟩))) rfl hI ?_;refine wpAnyE_tg 20 (v:=(.pointer (some ⟨g,0,none⟩))) rfl hI ?_;refine wpAnyE_tg 21 (v:=(.pointer (some ⟨g,3,none⟩))) rfl hI ?_;refine wpAnyE_tk 22 (v:=(.string m.lang)) rfl hI (fun w' hw'=>by have y0:w'.cell? ⟨g,3,none⟩=some (.string m.lang):=hw'.cell 3;go_simp) ?_;have P0:Only [] w w.drew:=(Only.refl _ _).drew;have T0:=IZ m.text w.drew hs;refine AG 5 rfl (by kernel_rfl) hI (fun K hK=>?_);rw[if_pos (by kernel_rfl)];go_simp
 go_call T0 as e w1 ⟨Q1,f1,rfl,hp1,hnew1,ok1,hn1⟩
 clear T0;have P1:Only [] w w1:=P0.trans Q1 (by simp);have hI1:(fun w':World=>Blk w' g 119 m.cells) w1:=hg.only P1 (by simp);refine hK _ _ ?_;clear hK K;unfold FD.val;have T1:=XI m.on w1;refine AG 11 rfl (by kernel_rfl) hI1 (fun K hK=>?_);rw[if_pos (by kernel_rfl)];go_simp
 go_call T1 as e w2 ⟨Q2,f2,rfl,hp2,hnew2,ok2,hn2⟩
 clear T1;have P2:Only [] w w2:=P1.trans Q2 (by simp);have hI2:(fun w':World=>Blk w' g 119 m.cells) w2:=hg.only P2 (by simp);have ok1:=ok1.only Q2;refine hK _ _ ?_;clear hK K;unfold FD.val;have T2:=IZ m.value w2 hv;refine AG 17 rfl (by kernel_rfl) hI2 (fun K hK=>?_);rw[if_pos (by kernel_rfl)];go_simp
 go_call T2 as e w3 ⟨Q3,f3,rfl,hp3,hnew3,ok3,hn3⟩
 clear T2;have P3:Only [] w w3:=P2.trans Q3 (by simp);have hI3:(fun w':World=>Blk w' g 119 m.cells) w3:=hg.only P3 (by simp);have ok1:=ok1.only Q3;have ok2:=ok2.only Q3;refine hK _ _ ?_;clear hK K;unfold FD.val;have T3:=IZ m.lang w3 hl;refine AG 23 rfl (by kernel_rfl) hI3 (fun K hK=>?_);rw[if_pos (by kernel_rfl)];go_simp
 go_call T3 as e w4 ⟨Q4,f4,rfl,hp4,hnew4,ok4,hn4⟩
 clear T3;have P4:Only [] w w4:=P3.trans Q4 (by simp);have hI4:(fun w':World=>Blk w' g 119 m.cells) w4:=hg.only P4 (by simp);have ok1:=ok1.only Q4;have ok2:=ok2.only Q4;have ok3:=ok3.only Q4;refine hK _ _ ?_;clear hK K;unfold FD.val;have V:=CH w4 [f1,f2,f3,f4] 4 rfl (by decide) #[.int .i64 f1.kind,.int .u32 f1.n,.slice f1.tA f1.text.length f1.tc,.slice f1.lA f1.list.length f1.lc,.int .i64 f2.kind,.int .u32 f2.n,.slice f2.tA f2.text.length f2.tc,.slice f2.lA f2.list.length f2.lc,.int .i64 f3.kind,.int .u32 f3.n,.slice f3.tA f3.text.length f3.tc,.slice f3.lA f3.list.length f3.lc,.int .i64 f4.kind,.int .u32 f4.n,.slice f4.tA f4.text.length f4.tc,.slice f4.lA f4.list.length f4.lc] (by simp[BR,FD.cells]);refine AG 24 rfl (by kernel_rfl) hI4 (fun K hK=>?_);rw[if_pos (by kernel_rfl)];go_simp
 refine hK _ _ ?_;clear hK K;have PL:Only [] w4 (w4.alloc (.cells #[.int .i64 f1.kind,.int .u32 f1.n,.slice f1.tA f1.text.length f1.tc,.slice f1.lA f1.list.length f1.lc,.int .i64 f2.kind,.int .u32 f2.n,.slice f2.tA f2.text.length f2.tc,.slice f2.lA f2.list.length f2.lc,.int .i64 f3.kind,.int .u32 f3.n,.slice f3.tA f3.text.length f3.tc,.slice f3.lA f3.list.length f3.lc,.int .i64 f4.kind,.int .u32 f4.n,.slice f4.tA f4.text.length f4.tc,.slice f4.lA f4.list.length f4.lc] 123)):=(Only.refl _ _).alloc _;have hIL:(fun w':World=>Blk w' g 119 m.cells) (w4.alloc (.cells #[.int .i64 f1.kind,.int .u32 f1.n,.slice f1.tA f1.text.length f1.tc,.slice f1.lA f1.list.length f1.lc,.int .i64 f2.kind,.int .u32 f2.n,.slice f2.tA f2.text.length f2.tc,.slice f2.lA f2.list.length f2.lc,.int .i64 f3.kind,.int .u32 f3.n,.slice f3.tA f3.text.length f3.tc,.slice f3.lA f3.list.length f3.lc,.int .i64 f4.kind,.int .u32 f4.n,.slice f4.tA f4.text.length f4.tc,.slice f4.lA f4.list.length f4.lc] 123)):=hI4.alloc _;refine wpAnyE_tg 25 (v:=(.slice (some ⟨w4.heap.size,0,none⟩) 4 4)) rfl hIL ?_;refine AT (by kernel_rfl) hIL ?_;simp only[Exit.then];go_wp2_with fail
 go_ret
 refine⟨P4.trans PL (by simp),_,_,rfl,V.mono P4.size,?_,fun x hx=>?_,fun x hx=>?_⟩;·simp only[List.map_cons,List.map_nil,hp1,hp2,hp3,hp4];rfl
 ·simp only[List.mem_cons,List.not_mem_nil,or_false] at hx;rcases hx with rfl|rfl|rfl|rfl;·exact⟨ok1.only PL,BU ok1 _ _⟩
  ·exact⟨ok2.only PL,BU ok2 _ _⟩
  ·exact⟨ok3.only PL,BU ok3 _ _⟩
  ·exact⟨ok4.only PL,BU ok4 _ _⟩
 ·simp only[List.mem_cons,List.not_mem_nil,or_false] at hx;rcases hx with rfl|rfl|rfl|rfl;·exact hn1
  ·exact hn2
  ·exact hn3
  ·exact hn4
end
theorem EH:ElemT Tryz.prog 120 123 4 64:=FV Tryz.underlying120 TI rfl (by decide)
theorem HD: ∀f:FD,∀u∈f.cells,u.oneCell'=true:=by intro f u hu;simp[FD.cells] at hu;rcases hu with rfl|rfl|rfl|rfl<;>rfl
theorem HC: ∀f:FD,f.cells.length=4:=fun _=>rfl
theorem AX {w w':World} {v v':Value} {fs:List FD} (P:Only v.ownBlock.toList w w') (G:KX v v' w.heap.size) (h: ∀f∈fs,FD.ok w f∧f.off v): ∀f∈fs,FD.ok w' f∧f.off v':=by
 intro f hf;obtain⟨ok,off⟩:=h f hf;have t1:=ok.tlt;have t2:=ok.llt;refine⟨{ ok with text:=ok.text.onlyL P (fun a ha h0 hx=>off.1 a ha h0 (by simpa using hx)),list:=ok.list.onlyL P (fun a ha h0 hx=>off.2 a ha h0 (by simpa using hx)) },fun a ha h0 hx=>?_,fun a ha h0 hx=>?_⟩
 ·rcases G with e|e;·rw[e] at hx;exact off.1 a ha h0 hx
  ·rw[e] at hx;injection hx with hx;have:=t1 a ha h0;omega
 ·rcases G with e|e;·rw[e] at hx;exact off.2 a ha h0 hx
  ·rw[e] at hx;injection hx with hx;have:=t2 a ha h0;omega
theorem DI {f:FD} {v:Value} (h1:f.text=[]) (h2:f.list=[]):f.off v:=⟨fun a ha h0=>by rw[h1] at h0;simp at h0,fun a ha h0=>by rw[h2] at h0;simp at h0⟩
theorem EQ {m:RQ} {fs:List FD} (h:fs.map FD.pf=(AP m 6).map (fun p=>{ p with kind:=0 })): ∀f∈fs,f.text=[]∧f.list=[]:=by
 intro f hf;have:f.pf∈fs.map FD.pf:=List.mem_map_of_mem hf;rw[h] at this;simp only[AP,List.map_cons,List.map_nil,List.mem_cons,List.not_mem_nil,or_false] at this;have e1:f.text=f.pf.text:=rfl;have e2:f.list=f.pf.list:=rfl;rw[e1,e2];rcases this with e|e|e|e<;>rw[e]<;>exact⟨rfl,rfl⟩
theorem FC {w:World} {q:Nat} {f:FD} (h:Blk w q 123 f.cells):RdX FD.cells w (some ⟨q,0,none⟩) [f]:=fun _=>⟨q,0,rfl,h.lt,fun j u hj=>by
 rw[Nat.zero_add,h.cell];simpa using hj⟩
section
variable (m : RQ) (g : Nat) (w : World)
theorem SX {m:RQ} {w x:World} {v:Value} {fs1 fs2:List FD} (hm:m.ok w) (PE:Only [] w x) (V:BM FD.cells 123 4 x w.heap.size v ((fs1++fs2)++[⟨0,0,m.mA,m.mc,m.modes,none,0,[]⟩])) (M: ∀f∈fs1++fs2,FD.ok x f∧f.off v)
  (hp1:fs1.map FD.pf=(AP m 4).map (fun p=>{ p with kind:=0 })) (hp2:fs2.map FD.pf=(AP m 6).map (fun p=>{ p with kind:=0 })) (hn1: ∀f∈fs1,U32 f.n) (hn2: ∀f∈fs2,U32 f.n):FU w (AP m 1) (.returned v) x:=by
 refine⟨PE,v,_,rfl,V,?_,fun f hf=>?_,fun f hf=>?_⟩;·rw[List.map_append,List.map_append,hp1,hp2];rfl
 ·rcases List.mem_append.1 hf with hf|hf;·exact M f hf
  ·rw[List.mem_singleton] at hf;subst hf;refine⟨⟨hm.modes.only PE,RdG.nil,hm.mle,hm.mmax,by simp,by simp,by simp⟩,fun a ha h0 hx=>?_,fun a ha=>by simp at ha⟩;have h1:=(V.block _ hx).1;have h2:=RdG.lt (mk:=.int .u8) hm.modes h0 a ha;omega
 ·rcases List.mem_append.1 hf with hf|hf
  ·rcases List.mem_append.1 hf with hf|hf;·exact hn1 f hf
   ·exact hn2 f hf
  ·rw[List.mem_singleton] at hf;subst hf;exact⟨Int.le_refl 0,show(0:Int)≤4294967295 by decide⟩
theorem aU (hg:Blk w g 119 m.cells) (hm:m.ok w) (hs:m.text.size≤140737488355328):Calls Tryz.prog 71 #[.pointer (some ⟨g,0,none⟩)] w (FU w (AP m 1)):=by
 have hlt:=hg.lt;go_enter Tryz.func71,Tryz.ntmps71
 go_wp2_with fail
 have hI:(fun w':World=>Blk w' g 119 m.cells) { w with drawn:=w.drawn+1 }:=hg;refine AV (fun w':World=>Blk w' g 119 m.cells) [] (by kernel_rfl) ?_;refine wpAnyE_tg 0 (v:=(.pointer (some ⟨g,0,none⟩))) rfl hI ?_;refine wpAnyE_tg 2 (v:=(.pointer (some ⟨g,0,none⟩))) rfl hI ?_;refine wpAnyE_tg 5 (v:=(.pointer (some ⟨g,0,none⟩))) rfl hI ?_;refine wpAnyE_tg 6 (v:=(.pointer (some ⟨g,0,none⟩))) rfl hI ?_;refine wpAnyE_tg 7 (v:=(.pointer (some ⟨g,0,none⟩))) rfl hI ?_;refine wpAnyE_tg 8 (v:=(.pointer (some ⟨g,8,none⟩))) rfl hI ?_;refine wpAnyE_tk 9 (v:=(.slice m.mA m.modes.length m.mc)) rfl hI (fun w' hw'=>by have y0:w'.cell? ⟨g,8,none⟩=some (.slice m.mA m.modes.length m.mc):=hw'.cell 8;go_simp) ?_;refine wpAnyE_tg 10 (v:=(.agg #[.int .i64 0,.int .u32 0,.slice m.mA m.modes.length m.mc,.slice none 0 0])) rfl hI ?_;have P0:Only [] w w.drew:=(Only.refl _ _).drew;refine EF 1 11 rfl rfl (by kernel_rfl) hI (fun K hK=>?_) (fun K hK=>?_)
 ·rw[if_pos (by kernel_rfl)];have T:=GR m g w.drew hI hs;go_simp
  go_call T as e x1 ⟨Q1,v1,fs1,rfl,V1,hp1,M1,hn1⟩
  clear T;have o1:=EJ.block V1;replace V1:BM FD.cells 123 4 x1 w.heap.size v1 fs1:=BM.mono (cf:=FD.cells) V1 P0.size;have P1:Only [] w x1:=P0.trans Q1 (by simp);have hI1:(fun w':World=>Blk w' g 119 m.cells) x1:=hg.only P1 (by simp);have z1:=Q1.size;refine hK _ _ ?_;clear hK K;refine EF 3 11 rfl rfl (by kernel_rfl) hI1 (fun K hK=>?_) (fun K hK=>?_)
  ·rw[if_pos (by kernel_rfl)];have T:=IT m g x1 hI1 hm.nums;go_simp
   go_call T as e x2 ⟨Q2,v2,fs2,rfl,V2,hp2,M2x,hn2⟩
   clear T;replace V2:BM FD.cells 123 4 x2 w.heap.size v2 fs2:=BM.mono (cf:=FD.cells) V2 P1.size;have M2:=fun f hf=>(M2x f hf).1;clear M2x;have P2:Only [] w x2:=P1.trans Q2 (by simp);have hI2:(fun w':World=>Blk w' g 119 m.cells) x2:=hg.only P2 (by simp);have z2:=Q2.size;have V1:=V1.only Q2;have M1:=fun f hf=>(⟨(M1 f hf).1.only Q2,(M1 f hf).2⟩:FD.ok x2 f∧f.off v1);obtain⟨A2,c2,rfl,hc2,hm2,R2,_⟩:=V2.form;refine hK _ _ ?_;clear hK K;refine EF 4 11 rfl rfl (by kernel_rfl) hI2 (fun K hK=>?_) (fun K hK=>?_)
   ·rw[if_pos (by kernel_rfl)];have R2':RdX FD.cells x2 A2 fs2:=by obtain⟨A2',c2',e2,_,_,R2',_⟩:=V2.form;rw[(Value.slice.inj e2).1];exact R2'
    have l1:fs1.length=1:=by have:=congrArg List.length hp1;simpa[AP] using this
    have l2:fs2.length=4:=by have:=congrArg List.length hp2;simpa[AP] using this
    refine BY (.tmp 4) (.tmp 6) EH rfl HD HC (by kernel_rfl) V1 A2 c2 fs2 _ rfl (by kernel_rfl) R2' (by simp only[maxLen];omega) (by omega) P2.size ?_;intro v7 x3 V7 Q3 G3;have V7:=V7.out;have M12: ∀f∈fs1++fs2,FD.ok x2 f∧f.off v1:=fun f hf=>by
     rcases List.mem_append.1 hf with hf|hf;·exact M1 f hf
     ·exact⟨M2 f hf,DI (EQ hp2 f hf).1 (EQ hp2 f hf).2⟩
    have M7:=AX Q3 G3.out M12;have P3:Only [] w x3:=P2.trans Q3 (fun x hx=>.inr (V1.block x (by simpa using hx)).1);have hI3:(fun w':World=>Blk w' g 119 m.cells) x3:=hg.only P3 (by simp);refine hK _ _ ?_;clear hK K;refine AG 11 rfl (by kernel_rfl) hI3 (fun K hK=>?_);rw[if_pos (by kernel_rfl)];have Q4:Only [] x3 (x3.alloc (.cells #[.int .i64 0,.int .u32 0,.slice m.mA m.modes.length m.mc,.slice none 0 0] 123)):=(Only.refl [] x3).alloc _;have B3:Blk (x3.alloc (.cells #[.int .i64 0,.int .u32 0,.slice m.mA m.modes.length m.mc,.slice none 0 0] 123)) x3.heap.size 123 [.int .i64 0,.int .u32 0,.slice m.mA m.modes.length m.mc,.slice none 0 0]:=Blk.new x3 _ _;obtain⟨q3,hq3⟩: ∃q,q=x3.heap.size:=⟨_,rfl⟩;have hq3w:w.heap.size≤q3:=by have:=P3.size;omega
    have hq3':q3≤x3.heap.size∧x3.heap.size≤q3:=by omega
    go_simp
    obtain⟨x4,hx4⟩: ∃x,x=x3.alloc (.cells #[.int .i64 0,.int .u32 0,.slice m.mA m.modes.length m.mc,.slice none 0 0] 123):=⟨_,rfl⟩;rw[←hx4] at Q4 B3⊢;rw[←hq3] at B3⊢;have P4:Only [] w x4:=P3.trans Q4 (by simp);have hI4:(fun w':World=>Blk w' g 119 m.cells) x4:=hg.only P4 (by simp);have z4:=Q4.size;have V7:=V7.only Q4;have M7:=fun f hf=>(⟨(M7 f hf).1.only Q4,(M7 f hf).2⟩:FD.ok x4 f∧f.off v7);replace hx4:=AB hx4;replace hq3:=AB hq3;refine hK _ _ ?_;clear hK K;refine AG 12 rfl (by kernel_rfl) hI4 (fun K hK=>?_);rw[if_pos (by kernel_rfl)];refine BY (.tmp 7) (.tmp 14) EH rfl HD HC (by kernel_rfl) V7 (some ⟨q3,0,none⟩) 1 [⟨0,0,m.mA,m.mc,m.modes,none,0,[]⟩] 1 rfl (by kernel_rfl) (FC B3) (by simp only[maxLen,List.length_append,List.length_singleton];omega) (by simp only[List.length_append,List.length_singleton];omega) P4.size ?_;intro v12 x5 V12 Q5 G5;have V12:=V12.out;have M12':=AX Q5 G5.out M7;have PE:Only [] w x5:=P4.trans Q5 (fun x hx=>.inr (V7.block x (by simpa using hx)).1);have hIE:(fun w':World=>Blk w' g 119 m.cells) x5:=hg.only PE (by simp);refine hK _ _ ?_;clear hK K;refine wpAnyE_tg 13 (v:=v12) rfl hIE ?_;refine AT (by kernel_rfl) hIE ?_;simp only[Exit.then];go_wp2_with fail
    go_ret
    exact SX hm PE V12 M12' hp1 hp2 hn1 hn2
   ·rw[if_pos (by kernel_rfl)];have Q3:Only [] x2 (x2.alloc (.cells #[.int .i64 0,.int .u32 0,.slice m.mA m.modes.length m.mc,.slice none 0 0] 123)):=(Only.refl [] x2).alloc _;have B3:Blk (x2.alloc (.cells #[.int .i64 0,.int .u32 0,.slice m.mA m.modes.length m.mc,.slice none 0 0] 123)) x2.heap.size 123 [.int .i64 0,.int .u32 0,.slice m.mA m.modes.length m.mc,.slice none 0 0]:=Blk.new x2 _ _;obtain⟨q3,hq3⟩: ∃q,q=x2.heap.size:=⟨_,rfl⟩;have hq3w:w.heap.size≤q3:=by have:=P2.size;omega
    have hq3':q3≤x2.heap.size∧x2.heap.size≤q3:=by omega
    go_simp
    obtain⟨x3,hx3⟩: ∃x,x=x2.alloc (.cells #[.int .i64 0,.int .u32 0,.slice m.mA m.modes.length m.mc,.slice none 0 0] 123):=⟨_,rfl⟩;rw[←hx3] at Q3 B3⊢;rw[←hq3] at B3⊢;have P3:Only [] w x3:=P2.trans Q3 (by simp);have hI3:(fun w':World=>Blk w' g 119 m.cells) x3:=hg.only P3 (by simp);have z3:=Q3.size;have V1:=V1.only Q3;have M1:=fun f hf=>(⟨(M1 f hf).1.only Q3,(M1 f hf).2⟩:FD.ok x3 f∧f.off v1);have V2:=V2.only Q3;have M2:=fun f hf=>(M2 f hf).only Q3;replace hx3:=AB hx3;replace hq3:=AB hq3;refine hK _ _ ?_;clear hK K;refine AG 4 rfl (by kernel_rfl) hI3 (fun K hK=>?_);rw[if_pos (by kernel_rfl)];have R2':RdX FD.cells x3 A2 fs2:=by obtain⟨A2',c2',e2,_,_,R2',_⟩:=V2.form;rw[(Value.slice.inj e2).1];exact R2'
    have l1:fs1.length=1:=by have:=congrArg List.length hp1;simpa[AP] using this
    have l2:fs2.length=4:=by have:=congrArg List.length hp2;simpa[AP] using this
    refine BY (.tmp 4) (.tmp 6) EH rfl HD HC (by kernel_rfl) V1 A2 c2 fs2 _ rfl (by kernel_rfl) R2' (by simp only[maxLen];omega) (by omega) P3.size ?_;intro v7 x4 V7 Q4 G4;have V7:=V7.out;have M12: ∀f∈fs1++fs2,FD.ok x3 f∧f.off v1:=fun f hf=>by
     rcases List.mem_append.1 hf with hf|hf;·exact M1 f hf
     ·exact⟨M2 f hf,DI (EQ hp2 f hf).1 (EQ hp2 f hf).2⟩
    have M7:=AX Q4 G4.out M12;have P4:Only [] w x4:=P3.trans Q4 (fun x hx=>.inr (V1.block x (by simpa using hx)).1);have hI4:(fun w':World=>Blk w' g 119 m.cells) x4:=hg.only P4 (by simp);have B3:=B3.only Q4 (fun hx=>by have:=o1 q3 (by simpa using hx);omega);refine hK _ _ ?_;clear hK K;refine AG 12 rfl (by kernel_rfl) hI4 (fun K hK=>?_);rw[if_pos (by kernel_rfl)];refine BY (.tmp 7) (.tmp 14) EH rfl HD HC (by kernel_rfl) V7 (some ⟨q3,0,none⟩) 1 [⟨0,0,m.mA,m.mc,m.modes,none,0,[]⟩] 1 rfl (by kernel_rfl) (FC B3) (by simp only[maxLen,List.length_append,List.length_singleton];omega) (by simp only[List.length_append,List.length_singleton];omega) P4.size ?_;intro v12 x5 V12 Q5 G5;have V12:=V12.out;have M12':=AX Q5 G5.out M7;have PE:Only [] w x5:=P4.trans Q5 (fun x hx=>.inr (V7.block x (by simpa using hx)).1);have hIE:(fun w':World=>Blk w' g 119 m.cells) x5:=hg.only PE (by simp);refine hK _ _ ?_;clear hK K;refine wpAnyE_tg 13 (v:=v12) rfl hIE ?_;refine AT (by kernel_rfl) hIE ?_;simp only[Exit.then];go_wp2_with fail
    go_ret
    exact SX hm PE V12 M12' hp1 hp2 hn1 hn2
  ·rw[if_pos (by kernel_rfl)];have Q2:Only [] x1 (x1.alloc (.cells #[.int .i64 0,.int .u32 0,.slice m.mA m.modes.length m.mc,.slice none 0 0] 123)):=(Only.refl [] x1).alloc _;have B3:Blk (x1.alloc (.cells #[.int .i64 0,.int .u32 0,.slice m.mA m.modes.length m.mc,.slice none 0 0] 123)) x1.heap.size 123 [.int .i64 0,.int .u32 0,.slice m.mA m.modes.length m.mc,.slice none 0 0]:=Blk.new x1 _ _;obtain⟨q3,hq3⟩: ∃q,q=x1.heap.size:=⟨_,rfl⟩;have hq3w:w.heap.size≤q3:=by have:=P1.size;omega
   have hq3':q3≤x1.heap.size∧x1.heap.size≤q3:=by omega
   go_simp
   obtain⟨x2,hx2⟩: ∃x,x=x1.alloc (.cells #[.int .i64 0,.int .u32 0,.slice m.mA m.modes.length m.mc,.slice none 0 0] 123):=⟨_,rfl⟩;rw[←hx2] at Q2 B3⊢;rw[←hq3] at B3⊢;have P2:Only [] w x2:=P1.trans Q2 (by simp);have hI2:(fun w':World=>Blk w' g 119 m.cells) x2:=hg.only P2 (by simp);have z2:=Q2.size;have V1:=V1.only Q2;have M1:=fun f hf=>(⟨(M1 f hf).1.only Q2,(M1 f hf).2⟩:FD.ok x2 f∧f.off v1);replace hx2:=AB hx2;replace hq3:=AB hq3;refine hK _ _ ?_;clear hK K;refine AG 3 rfl (by kernel_rfl) hI2 (fun K hK=>?_);rw[if_pos (by kernel_rfl)];have T:=IT m g x2 hI2 hm.nums;go_simp
   go_call T as e x3 ⟨Q3,v2,fs2,rfl,V2,hp2,M2x,hn2⟩
   clear T;replace V2:BM FD.cells 123 4 x3 w.heap.size v2 fs2:=BM.mono (cf:=FD.cells) V2 P2.size;have M2:=fun f hf=>(M2x f hf).1;clear M2x;have P3:Only [] w x3:=P2.trans Q3 (by simp);have hI3:(fun w':World=>Blk w' g 119 m.cells) x3:=hg.only P3 (by simp);have z3:=Q3.size;have V1:=V1.only Q3;have M1:=fun f hf=>(⟨(M1 f hf).1.only Q3,(M1 f hf).2⟩:FD.ok x3 f∧f.off v1);have B3:=B3.only Q3 (by simp);obtain⟨A2,c2,rfl,hc2,hm2,R2,_⟩:=V2.form;refine hK _ _ ?_;clear hK K;refine AG 4 rfl (by kernel_rfl) hI3 (fun K hK=>?_);rw[if_pos (by kernel_rfl)];have R2':RdX FD.cells x3 A2 fs2:=by obtain⟨A2',c2',e2,_,_,R2',_⟩:=V2.form;rw[(Value.slice.inj e2).1];exact R2'
   have l1:fs1.length=1:=by have:=congrArg List.length hp1;simpa[AP] using this
   have l2:fs2.length=4:=by have:=congrArg List.length hp2;simpa[AP] using this
   refine BY (.tmp 4) (.tmp 6) EH rfl HD HC (by kernel_rfl) V1 A2 c2 fs2 _ rfl (by kernel_rfl) R2' (by simp only[maxLen];omega) (by omega) P3.size ?_;intro v7 x4 V7 Q4 G4;have V7:=V7.out;have M12: ∀f∈fs1++fs2,FD.ok x3 f∧f.off v1:=fun f hf=>by
    rcases List.mem_append.1 hf with hf|hf;·exact M1 f hf
    ·exact⟨M2 f hf,DI (EQ hp2 f hf).1 (EQ hp2 f hf).2⟩
   have M7:=AX Q4 G4.out M12;have P4:Only [] w x4:=P3.trans Q4 (fun x hx=>.inr (V1.block x (by simpa using hx)).1);have hI4:(fun w':World=>Blk w' g 119 m.cells) x4:=hg.only P4 (by simp);have B3:=B3.only Q4 (fun hx=>by have:=o1 q3 (by simpa using hx);omega);refine hK _ _ ?_;clear hK K;refine AG 12 rfl (by kernel_rfl) hI4 (fun K hK=>?_);rw[if_pos (by kernel_rfl)];refine BY (.tmp 7) (.tmp 14) EH rfl HD HC (by kernel_rfl) V7 (some ⟨q3,0,none⟩) 1 [⟨0,0,m.mA,m.mc,m.modes,none,0,[]⟩] 1 rfl (by kernel_rfl) (FC B3) (by simp only[maxLen,List.length_append,List.length_singleton];omega) (by simp only[List.length_append,List.length_singleton];omega) P4.size ?_;intro v12 x5 V12 Q5 G5;have V12:=V12.out;have M12':=AX Q5 G5.out M7;have PE:Only [] w x5:=P4.trans Q5 (fun x hx=>.inr (V7.block x (by simpa using hx)).1);have hIE:(fun w':World=>Blk w' g 119 m.cells) x5:=hg.only PE (by simp);refine hK _ _ ?_;clear hK K;refine wpAnyE_tg 13 (v:=v12) rfl hIE ?_;refine AT (by kernel_rfl) hIE ?_;simp only[Exit.then];go_wp2_with fail
   go_ret
   exact SX hm PE V12 M12' hp1 hp2 hn1 hn2
 ·rw[if_pos (by kernel_rfl)];have Q1:Only [] w.drew ((w.alloc (.cells #[.int .i64 0,.int .u32 0,.slice m.mA m.modes.length m.mc,.slice none 0 0] 123)).drew):=(Only.refl [] w.drew).alloc _;have B3:Blk ((w.alloc (.cells #[.int .i64 0,.int .u32 0,.slice m.mA m.modes.length m.mc,.slice none 0 0] 123)).drew) w.heap.size 123 [.int .i64 0,.int .u32 0,.slice m.mA m.modes.length m.mc,.slice none 0 0]:=Blk.new w.drew _ _;obtain⟨q3,hq3⟩: ∃q,q=w.heap.size:=⟨_,rfl⟩;have hq3w:w.heap.size≤q3:=by have:=P0.size;omega
  have hq3':q3<((w.alloc (.cells #[.int .i64 0,.int .u32 0,.slice m.mA m.modes.length m.mc,.slice none 0 0] 123)).drew).heap.size:=by rw[hq3];simp
  go_simp
  obtain⟨x1,hx1⟩: ∃x,x=(w.alloc (.cells #[.int .i64 0,.int .u32 0,.slice m.mA m.modes.length m.mc,.slice none 0 0] 123)).drew:=⟨_,rfl⟩;rw[←hx1] at Q1 B3⊢;rw[←hx1] at hq3';rw[←hq3] at B3;rw[show(Value.slice (some ⟨w.heap.size,0,none⟩) 1 1)=Value.slice (some ⟨q3,0,none⟩) 1 1 by rw[hq3]];have P1:Only [] w x1:=P0.trans Q1 (by simp);have hI1:(fun w':World=>Blk w' g 119 m.cells) x1:=hg.only P1 (by simp);have z1:=Q1.size;replace hx1:=AB hx1;replace hq3:=AB hq3;refine hK _ _ ?_;clear hK K;refine AG 1 rfl (by kernel_rfl) hI1 (fun K hK=>?_);rw[if_pos (by kernel_rfl)];have T:=GR m g x1 hI1 hs;go_simp
  go_call T as e x2 ⟨Q2,v1,fs1,rfl,V1,hp1,M1,hn1⟩
  clear T;have o1:=EJ.block V1;replace V1:BM FD.cells 123 4 x2 w.heap.size v1 fs1:=BM.mono (cf:=FD.cells) V1 P1.size;have P2:Only [] w x2:=P1.trans Q2 (by simp);have hI2:(fun w':World=>Blk w' g 119 m.cells) x2:=hg.only P2 (by simp);have z2:=Q2.size;have B3:=B3.only Q2 (by simp);refine hK _ _ ?_;clear hK K;refine AG 3 rfl (by kernel_rfl) hI2 (fun K hK=>?_);rw[if_pos (by kernel_rfl)];have T:=IT m g x2 hI2 hm.nums;go_simp
  go_call T as e x3 ⟨Q3,v2,fs2,rfl,V2,hp2,M2x,hn2⟩
  clear T;replace V2:BM FD.cells 123 4 x3 w.heap.size v2 fs2:=BM.mono (cf:=FD.cells) V2 P2.size;have M2:=fun f hf=>(M2x f hf).1;clear M2x;have P3:Only [] w x3:=P2.trans Q3 (by simp);have hI3:(fun w':World=>Blk w' g 119 m.cells) x3:=hg.only P3 (by simp);have z3:=Q3.size;have V1:=V1.only Q3;have M1:=fun f hf=>(⟨(M1 f hf).1.only Q3,(M1 f hf).2⟩:FD.ok x3 f∧f.off v1);have B3:=B3.only Q3 (by simp);obtain⟨A2,c2,rfl,hc2,hm2,R2,_⟩:=V2.form;refine hK _ _ ?_;clear hK K;refine AG 4 rfl (by kernel_rfl) hI3 (fun K hK=>?_);rw[if_pos (by kernel_rfl)];have R2':RdX FD.cells x3 A2 fs2:=by obtain⟨A2',c2',e2,_,_,R2',_⟩:=V2.form;rw[(Value.slice.inj e2).1];exact R2'
  have l1:fs1.length=1:=by have:=congrArg List.length hp1;simpa[AP] using this
  have l2:fs2.length=4:=by have:=congrArg List.length hp2;simpa[AP] using this
  refine BY (.tmp 4) (.tmp 6) EH rfl HD HC (by kernel_rfl) V1 A2 c2 fs2 _ rfl (by kernel_rfl) R2' (by simp only[maxLen];omega) (by omega) P3.size ?_;intro v7 x4 V7 Q4 G4;have V7:=V7.out;have M12: ∀f∈fs1++fs2,FD.ok x3 f∧f.off v1:=fun f hf=>by
   rcases List.mem_append.1 hf with hf|hf;·exact M1 f hf
   ·exact⟨M2 f hf,DI (EQ hp2 f hf).1 (EQ hp2 f hf).2⟩
  have M7:=AX Q4 G4.out M12;have P4:Only [] w x4:=P3.trans Q4 (fun x hx=>.inr (V1.block x (by simpa using hx)).1);have hI4:(fun w':World=>Blk w' g 119 m.cells) x4:=hg.only P4 (by simp);have B3:=B3.only Q4 (fun hx=>by have:=o1 q3 (by simpa using hx);omega);refine hK _ _ ?_;clear hK K;refine AG 12 rfl (by kernel_rfl) hI4 (fun K hK=>?_);rw[if_pos (by kernel_rfl)];refine BY (.tmp 7) (.tmp 14) EH rfl HD HC (by kernel_rfl) V7 (some ⟨q3,0,none⟩) 1 [⟨0,0,m.mA,m.mc,m.modes,none,0,[]⟩] 1 rfl (by kernel_rfl) (FC B3) (by simp only[maxLen,List.length_append,List.length_singleton];omega) (by simp only[List.length_append,List.length_singleton];omega) P4.size ?_;intro v12 x5 V12 Q5 G5;have V12:=V12.out;have M12':=AX Q5 G5.out M7;have PE:Only [] w x5:=P4.trans Q5 (fun x hx=>.inr (V7.block x (by simpa using hx)).1);have hIE:(fun w':World=>Blk w' g 119 m.cells) x5:=hg.only PE (by simp);refine hK _ _ ?_;clear hK K;refine wpAnyE_tg 13 (v:=v12) rfl hIE ?_;refine AT (by kernel_rfl) hIE ?_;simp only[Exit.then];go_wp2_with fail
  go_ret
  exact SX hm PE V12 M12' hp1 hp2 hn1 hn2
end
theorem ER {w:World} {A:Option Addr} {l:List Int} {c:Nat} (h:RdG (.int .u8) w A l):(convert 32 9 (.slice A l.length c)).run Tryz.prog w = .ok (.string (strOfNums l)) w:=by
 by_cases h0:0<l.length
 ·obtain⟨b,off,rfl,_,hc⟩:=h h0;exact run_convert_bytes_arg (P:=Tryz.prog) (w:=w) 32 5 (by kernel_rfl) (by kernel_rfl) b off l.length c l rfl (fun i hi=>by
   have hx:l[i]? = some (l[i]'hi):=List.getElem?_eq_getElem hi;rw[hc i _ hx];simp[List.getD,hx]) 9 (by kernel_rfl)
 ·obtain rfl:l=[]:=List.eq_nil_of_length_eq_zero (by omega);cases A with
  |none=>
   have e:(convert 32 9 (.slice none 0 c)).run Tryz.prog w=(Conv.bytesToString (.slice none 0 c)).run Tryz.prog w:=by simp[convert,run_underlying Tryz.underlying32,run_underlying Tryz.underlying9,run_underlying Tryz.underlying5]
   rw[show([]:List Int).length=0 from rfl,e];first|rfl|(simp[Conv.bytesToString,loadCells,loadCellsFrom,strOfNums];try rfl)
  |some a=>
   have e:(convert 32 9 (.slice (some a) 0 c)).run Tryz.prog w=(Conv.bytesToString (.slice (some a) 0 c)).run Tryz.prog w:=by simp[convert,run_underlying Tryz.underlying32,run_underlying Tryz.underlying9,run_underlying Tryz.underlying5]
   rw[show([]:List Int).length=0 from rfl,e];first|rfl|(simp[Conv.bytesToString,loadCells,loadCellsFrom,strOfNums];try rfl)
end Go.Proofs.YtdplnedpbkpgpaaGreatDoor
