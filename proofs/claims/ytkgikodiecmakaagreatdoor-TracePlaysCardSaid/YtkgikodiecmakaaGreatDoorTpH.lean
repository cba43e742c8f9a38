/- TracePlays: lemmas, from 'Layer 1: a slice of fields of the call's own' on; what each asks for stands in it. -/
import Derived.Test.YtkgikodiecmakaaGreatDoorTpG
import Derived.Lib.SplitLaws
import Derived.Test.YtkgikodiecmakaaGreatDoorTpB
import Derived.Test.YtkgikodiecmakaaGreatDoorTpA
import Derived.Test.YtkgikodiecmakaaGreatDoorTpF
set_option linter.all false
set_option maxRecDepth 100000
set_option maxHeartbeats 64000000
namespace Go.Proofs.YtkgikodiecmakaaGreatDoor
open Go.RowKit
theorem RO:(Tryz.prog.info? 86).map (fun i=>(i.zero,i.size,i.bytes))=some (some (.agg #[.int .i64 0,.int .u32 0,.slice none 0 0,.slice none 0 0]),4,64):=by kernel_rfl
def CC (fs:List FD):List Value:=fs.flatMap FD.cells
theorem HA (fs:List FD):(CC fs).length=fs.length*4:=by
 unfold CC;induction fs with
 |nil=>rfl
 |cons a r ih=>rw[List.flatMap_cons,List.length_append,ih,List.length_cons];simp[FD.cells];omega
def EZ (w:World) (base:Nat) (v:Value) (fs:List FD):Prop:=w.ownsRow base 86 4 v fs.length (CC fs)
theorem LH (w:World) (base:Nat):EZ w base (.slice none 0 0) []:=World.ownsRow_nil w base _ _
theorem EZ.far {w w':World} {base:Nat} {v:Value} {fs:List FD} {L:List Nat} (h:EZ w base v fs) (hb:Only L w w') (hL: ∀x∈L,some x≠v.ownBlock):EZ w' base v fs:=by
 refine⟨h.1,?_⟩;rcases h.2 with h|⟨g,cap,cur,e,hg,hh,r⟩;·exact .inl h
 ·exact .inr ⟨g,cap,cur,e,hg,(hb.block g (Array.getElem?_eq_some_iff.1 hh).1 (fun hm=>hL g hm (by rw[e];rfl))).trans hh,r⟩
theorem EZ.block {w:World} {base:Nat} {v:Value} {fs:List FD} (h:EZ w base v fs): ∀k,v.ownBlock=some k→base≤k∧k<w.heap.size:=World.ownsRow.lt h
theorem EZ.form {w:World} {base:Nat} {v:Value} {fs:List FD} (h:EZ w base v fs): ∃A cap,v = .slice A fs.length cap∧fs.length≤cap∧cap≤maxLen∧
  (0<fs.length→∃b,A=some ⟨b,0,none⟩∧base≤b∧b<w.heap.size∧∀j u,(CC fs)[j]? = some u→w.cell? ⟨b,j,none⟩=some u):=by
 rcases h.2 with⟨e,hn⟩|⟨g,cap,cur,e,hg,hh,hc,hm,hs,ht⟩;·exact⟨none,0,by rw[e,hn],by omega,by simp[maxLen],fun h0=>by omega⟩
 ·refine⟨some ⟨g,0,none⟩,cap,e,hc,hm,fun _=>⟨g,rfl,hg,(Array.getElem?_eq_some_iff.1 hh).1,fun j u hj=>?_⟩⟩;subst e;have:=World.ownsRow.cells h (g:=g) rfl j u hj;simpa[Addr.add_lit] using this
theorem run_appF {w:World} (ty:TypeId) (base:Nat) (v:Value) (fs:List FD) (hown:EZ w base v fs) (q:Nat) (f:FD) (hr:Blk w q 86 f.cells)
  (hlen:fs.length<1000000) (hbase:base≤w.heap.size) :
  ∃A' cap w',(Builtin.append_ #[82,82] ty #[v,.slice (some ⟨q,0,none⟩) 1 1]).run Tryz.prog w = .ok (.slice A' (fs.length+1) cap) w'∧EZ w' base (.slice A' (fs.length+1) cap) (fs++[f])∧Only v.ownBlock.toList w w'∧
   MC v (.slice A' (fs.length+1) cap) w.heap.size:=by
 obtain⟨i0,hi,hz0,hz1,hz2⟩:=info_parts RO;have hu:=Tryz.underlying82;have hn: ∀j u,f.cells[j]? = some u→w.cell? ((⟨q,0,none⟩:Addr).add j)=some u:=by
  intro j u hj;rw[Addr.add_lit,Nat.zero_add,hr.cell j];exact hj
 have h1c: ∀u∈f.cells,u.oneCell'=true:=by intro u hu;simp[FD.cells] at hu;rcases hu with rfl|rfl|rfl|rfl<;>rfl
 have hfl:f.cells.length=1*4:=rfl;obtain⟨v',w',e,h1,h2,h3⟩:=run_append_own (P:=Tryz.prog) w base 82 ty 86 i0 _ 4 64 hu hi hz0 hz1 hz2 rfl (by decide) v fs.length (CC fs) hown ⟨q,0,none⟩ 1 1 f.cells hfl hn h1c (by simp only[maxLen];omega) (by omega) hbase;have hh:EZ w' base v' (fs++[f]):=by
  show World.ownsRow _ _ _ _ _ _ _;simpa[CC,List.flatMap_append] using h1
 have hwh:v'.ownBlock=v.ownBlock∨v'.ownBlock=some w.heap.size:=by
  rcases hown.2 with⟨rfl,hn0⟩|⟨g,cap,cur,rfl,hg,hh,hc,hm,hs,ht⟩
  ·have:=run_append_nil (P:=Tryz.prog) w 82 ty 86 i0 _ hu hi hz0 ⟨q,0,none⟩ 1 1 f.cells (by rw[hz1];rfl) hn (by decide) (by omega) (by rw[hz2];omega);rw[this] at e;injection e with e1 e2;right;rw[←e1];rfl
  ·by_cases hroom:fs.length+1≤cap
   ·obtain⟨w2,e2,_⟩:=run_append_fits (P:=Tryz.prog) w base 82 ty 86 i0 4 hu hi hz1 g fs.length cap (CC fs) hown ⟨q,0,none⟩ 1 1 f.cells hfl hn h1c hroom;rw[e2] at e;injection e with e1 _;left;rw[←e1];rfl
   ·have holds: ∀j u,(CC fs)[j]? = some u→w.cell? ((⟨g,0,none⟩:Addr).add j)=some u:=World.ownsRow.cells hown (g:=g) rfl;have:=run_append_grow (P:=Tryz.prog) w 82 ty 86 i0 _ hu hi hz0 ⟨g,0,none⟩ fs.length cap (CC fs) (by rw[hz1];exact HA fs) holds ⟨q,0,none⟩ 1 1 f.cells (by rw[hz1];rfl) hn (by omega) (by omega) (growslice_fits (by omega) (by rw[hz2];omega));rw[this] at e;injection e with e1 _;right;rw[←e1];rfl
 obtain⟨A',cap,rfl,_⟩:=hh.form;rw[List.length_append] at *;exact⟨A',cap,w',e,hh,FJ h2,hwh⟩
theorem QP {w:World} {ops:Array Oper} {rest:List Oper} {o:Oper} {a:Act} {Q:Exit→Act→World→Prop} (hgd:o.guard=none) (s x:Operand)
  (ho:o.op = .call { callee:=.builtin .append,args:=#[s,x],argTypes:=#[82,82] })
  (base:Nat) (v:Value) (fs:List FD) (hs:a.eval s=v) (hown:EZ w base v fs) (q:Nat) (f:FD) (hx:a.eval x = .slice (some ⟨q,0,none⟩) 1 1) (hr:Blk w q 86 f.cells)
  (hlen:fs.length<1000000) (hbase:base≤w.heap.size)
  (h: ∀A' cap w',Hid (EZ w' base (.slice A' (fs.length+1) cap) (fs++[f]))→Only v.ownBlock.toList w w'→Hid (MC v (.slice A' (fs.length+1) cap) w.heap.size)→wpList Tryz.prog ops Q rest (a.put o.dst (.slice A' (fs.length+1) cap)) w'):wpList Tryz.prog ops Q (o::rest) a w:=by
 refine wpList_plain hgd fun K hK=>?_;obtain⟨A',cap,w',hrun,h1,h2,h3⟩:=run_appF o.type base v fs hown q f hr hlen hbase;unfold Oper.wp execOp;simp only[ho,resolve,invoke,builtin,Sem.run_bind,Sem.run_pure,Result.andThen_ok,List.map_toArray,List.map_cons,List.map_nil,hs,hx,hrun];exact hK _ _ (h A' cap w' h1 h2 h3)
def BG (k:Nat) (l:List Int):R:=if k=1 then DZ l else if k=2 then TF l else if k=3 then DN l else if k=4 then CE l else if k=5 then FC l else TI l
theorem QF (l:List Int): ∃n,(DZ l).rest=l.drop n:=by
 unfold DZ EU;split;·exact⟨0,by simp⟩
 ·exact⟨1,rfl⟩
theorem YF (l:List Int): ∃n,(DN l).rest=l.drop n:=by
 unfold DN EU;split;·exact⟨0,by simp⟩
 ·exact⟨4,rfl⟩
theorem TJ (l:List Int): ∃n,(CE l).rest=l.drop n:=by
 unfold CE GL EU;split;·exact⟨0,by simp⟩
 ·split;·exact⟨4,rfl⟩
  ·split;·exact⟨4,rfl⟩
   ·exact⟨4+(be4 l).toNat,by simp⟩
theorem aT (l:List Int): ∃n,(FC l).rest=l.drop n:=by
 obtain⟨n,h⟩:=TJ l;refine⟨n,?_⟩;unfold FC HF;split;·exact h
 ·split;·exact h
  ·exact h
theorem TG (k:Nat) (l:List Int): ∃n,(BG k l).rest=l.drop n:=by
 unfold BG;split;·exact QF l
 split;·exact QF l
 split;·exact YF l
 split;·exact TJ l
 split;·exact aT l
 ·exact⟨l.length,by simp[TI]⟩
theorem kind_any (k:Nat) (h1:1≤k) (h6:k≤6): ∃F:FuncId,tab[k*3+2]? = some (.func (Fn.func F) #[] #[])∧(∀(args:Array Value) (w:World),(callFunc F args).run Tryz.prog w = .ok (.enter F args) w)∧
  ∀(w:World) (g:Nat) (A:Option Addr) (cap:Nat) (l:List Int) (m:Int),w.cell? ⟨0,0,none⟩=some (.int .i64 m)→RdrV w g A cap l 0→(∀x∈l,0≤x∧x<256)→l.length≤140737488355000→
   Calls Tryz.prog F #[.pointer (some ⟨g,0,none⟩)] w (IL w g (BG k l)):=by
 have hk:k=1∨k=2∨k=3∨k=4∨k=5∨k=6:=by omega
 rcases hk with rfl|rfl|rfl|rfl|rfl|rfl;·exact⟨110,rfl,fun args w=>by kernel_rfl,fun w g A cap l m _ h hl _=>WH w g A cap l h hl⟩
 ·exact⟨112,rfl,fun args w=>by kernel_rfl,fun w g A cap l m _ h hl _=>flag_any w g A cap l h hl⟩
 ·exact⟨115,rfl,fun args w=>by kernel_rfl,fun w g A cap l m _ h hl _=>SX w g A cap l h hl⟩
 ·exact⟨118,rfl,fun args w=>by kernel_rfl,fun w g A cap l m _ h hl _=>bS w g A cap l h hl⟩
 ·exact⟨121,rfl,fun args w=>by kernel_rfl,fun w g A cap l m hm h hl _=>names_any w g A cap l m hm h hl⟩
 ·exact⟨124,rfl,fun args w=>by kernel_rfl,fun w g A cap l m _ h _ hn=>rest_any w g A cap l h hn⟩
structure PF where
  kind : Int
  n : Int
  text : List Int
  list : List ByteArray
def FD.pf (f:FD):PF:=⟨f.kind,f.n,f.text,f.list⟩
def BQ:List Int→List Int→List PF→Int×List PF
 |[],l,acc=>if 0<l.length then(4,[]) else(0,acc)
 |k::ks,l,acc=>if(BG k.toNat l).e≠0 then((BG k.toNat l).e,[]) else BQ ks (BG k.toNat l).rest (acc++[⟨k,(BG k.toNat l).n,(BG k.toNat l).text,(BG k.toNat l).list⟩])
def EJ (ks l:List Int):Int×List PF:=if JE ks then BQ ks l [] else(2,[])
theorem XT {k:Int} (h:IC k=true):1≤k∧k≤6:=by
 unfold IC at h;simp at h;omega
theorem TN {ks:List Int} (h:JE ks=true) {i:Nat} {k:Int} (hk:ks[i]? = some k):1≤k∧k≤6:=by
 have hi:i<ks.length:=(List.getElem?_eq_some_iff.1 hk).1;have:=LS.1 h i hi;unfold GR at this;rw[Bool.and_eq_true] at this;have h2:=this.1;rw[show ks.getD i 0=k by simp[List.getD,hk]] at h2;exact XT h2
def ZP (w:World) (res:Int×List PF):Ending→World→Prop:=fun E w'=>
 Only [] w w'∧∃A cap fs,E = .returned (.tuple #[.slice A fs.length cap,.int .i64 res.1])∧fs.map FD.pf=res.2∧EZ w' w.heap.size (.slice A fs.length cap) fs∧
  ∀f∈fs,FD.mine w' f w.heap.size∧f.far w.heap.size (.slice A fs.length cap)
theorem JL (w w':World) (e:Int) (h:Only [] w w'):ZP w (e,[]) (.returned (.tuple #[.slice none 0 0,.int .i64 e])) w':=
 ⟨h,none,0,[],rfl,rfl,LH _ _,fun f hf=>by simp at hf⟩
theorem RdrV.farL {w w':World} {g:Nat} {L:List Nat} {A:Option Addr} {cap:Nat} {l:List Int} {e:Int} (h:RdrV w g A cap l e) (hb:Only L w w') (hq: ∀x∈L,g<x):RdrV w' g A cap l e:=
 { h with
  blk:=h.blk.only hb (fun hm=>by have:=hq _ hm;omega)
  rd:=RdG.onlyL (mk:=.int .u8) h.rd hb (fun a ha h0 hm=>by have h1:=h.far a ha h0;have h2:=hq _ hm;omega) }
theorem FD.mine.off {w w':World} {f:FD} {B:Nat} {L:List Nat} (h:FD.mine w f B) (hb:Only L w w') (h1: ∀a,f.tA=some a→0<f.text.length→a.block∉L) (h2: ∀a,f.lA=some a→0<f.list.length→a.block∉L):FD.mine w' f B:=
 { h with
  ok:={ h.ok with text:=h.ok.text.onlyL hb h1,list:=h.ok.list.onlyL hb h2 }
  soft:=fun a ha i hi=>by
   obtain⟨b,off,e,hlt,_⟩:=h.ok.text (by omega);rw[ha] at e;injection e with e;refine(World.frozen?_of_block (w:=w) ?_).trans (h.soft a ha i hi);rw[IJ];exact hb.block _ (by rw[e];exact hlt) (h1 a ha (by omega)) }
theorem EZ.mono {w:World} {base base':Nat} {v:Value} {fs:List FD} (h:EZ w base v fs) (hb:base'≤base):EZ w base' v fs:=by
 refine⟨h.1,?_⟩;rcases h.2 with h|⟨g,cap,cur,e,hg,r⟩;·exact .inl h
 ·exact .inr ⟨g,cap,cur,e,by omega,r⟩
theorem FD.ok.tlt {w:World} {f:FD} (h:f.ok w): ∀a,f.tA=some a→0<f.text.length→a.block<w.heap.size:=fun a ha h0=>h.text.lt h0 a ha
theorem FD.ok.llt {w:World} {f:FD} (h:f.ok w): ∀a,f.lA=some a→0<f.list.length→a.block<w.heap.size:=fun a ha h0=>h.list.lt h0 a ha
structure RL (w wr : World) (q : Nat) (ks : List Int) (res : Int × List PF) (k : Nat) (v : Value) (fs : List FD) (A : Option Addr) (cap : Nat) (rest : List Int) : Prop where
  res : res = BQ (ks.drop k) rest (fs.map FD.pf)
  rdr : RdrV wr (q + 1) A cap rest 0
  bytes : ∀ x ∈ rest, 0 ≤ x ∧ x < 256
  few : rest.length ≤ 140737488355000
  tab : Blk wr q 142 tab.toList
  own : EZ wr (q + 2) v fs
  mine : ∀ f ∈ fs, FD.mine wr f (q + 2) ∧ f.far (q + 1) v
  num : fs.length = k
  only : Only [] w wr
  low : w.heap.size ≤ q
theorem read_anyP (w:World) (kA lA:Option Addr) (ks l:List Int) (kc lc:Nat) (m:Int) (hm:w.cell? ⟨0,0,none⟩=some (.int .i64 m)) (hk:RdI w kA ks) (h:Rd w lA l) (hl: ∀x∈l,0≤x∧x<256)
  (hkn:ks.length<1000000) (hln:l.length≤140737488355000) (hlc:l.length≤lc) (hlm:lc≤maxLen) (hal: ∀a,lA=some a→0<l.length→a.block<w.heap.size) :
  Calls Tryz.prog 56 #[.slice kA ks.length kc,.slice lA l.length lc] w (ZP w (EJ ks l)):=by
 have RW:=row_any kA ks kc w hk (by unfold maxLen;omega);by_cases hr:JE ks=true
 ·rw[show EJ ks l=BQ ks l [] from if_pos hr];rw[hr] at RW;obtain⟨n,hn⟩: ∃n,n=ks.length:=⟨_,rfl⟩;rw[←hn] at RW hkn⊢;obtain⟨ll,hll⟩: ∃ll,ll=l.length:=⟨_,rfl⟩;obtain⟨res,hres⟩: ∃res,res=BQ ks l []:=⟨_,rfl⟩;rw[←hres];replace hres:=AB hres;replace hn:=AB hn;rw[←hll];replace hll:=AB hll;go_enter Tryz.func56,Tryz.ntmps56
  go_wp2_with fail
  go_call RW as e w1 ⟨rfl,rfl⟩
  clear RW;go_wp2_with fail
  go_call (sorts_any w) as e w1 ⟨rfl,P1⟩
  have hz:=heap_alloc_new w1 (.cells (Array.replicate 21 Value.nilFunc) 142);go_wp2_with (refine wpList_store_row rfl 142 (.tmp 6) (.tmp 15) rfl w1.heap.size tab rfl rfl 142 (Array.replicate 21 Value.nilFunc) hz (by kernel_rfl) (by kernel_rfl) (by kernel_rfl) ?_)
  have z1:=P1.size;go_loopw [21,8] (fun i o wr=>∃(k:Nat) (v:Value) (fs:List FD) (A:Option Addr) (cap:Nat) (rest:List Int),k≤n∧i = .int .i64 k∧v=o∧RL w wr w1.heap.size ks res k v fs A cap rest) (fun i _ _=>n-(intOf i).toNat)
  case atStart=>
   have Z:=MF (Blk.new w1 142 (List.replicate 21 Value.nilFunc)) tab.toList;have O2:Only [] w1 ((w1.alloc (.cells (Array.replicate 21 Value.nilFunc) 142)).setRow w1.heap.size tab):=((Only.refl [] w1).alloc _).trans (JB _ _ _) (by simp);have O3:=O2.alloc (.cells #[.slice lA l.length lc,.int .i64 0] 146);have hs2:((w1.alloc (.cells (Array.replicate 21 Value.nilFunc) 142)).setRow w1.heap.size tab).heap.size=w1.heap.size+1:=by simp
   have B3:=Blk.new ((w1.alloc (.cells (Array.replicate 21 Value.nilFunc) 142)).setRow w1.heap.size tab) 146 [.slice lA l.length lc,.int .i64 0];rw[hs2] at B3;have O4:=P1.trans O3 (by simp);refine⟨0,_,[],lA,lc,l,by omega,rfl,rfl,⟨?_,?_,hl,hln,?_,LH _ _,fun f hf=>by simp at hf,rfl,?_,z1⟩⟩;·simpa using hres.out
   ·rw[hll.out];exact⟨B3,h.only O4,hlc,hlm,fun a ha h0=>by have:=hal a ha h0;omega⟩
   ·rw[hll.out];exact Blk.alloc Z _
   ·rw[hll.out];exact O4
  case round=>
   obtain⟨wo,rfl⟩: ∃wo:World,wo=wr:=⟨_,rfl⟩;obtain⟨k,v,fs,A,cap,rest,hkn2,rfl,rfl,H⟩:=hrel;have hnn:=hn.out;obtain⟨q,hq⟩: ∃q,q=w1.heap.size:=⟨_,rfl⟩;rw[←hq] at H⊢;have hqlow:=H.low;have hgl:=H.rdr.blk.lt;clear hz P1;by_cases hlt:k<n
   ·obtain⟨b,off,x,rfl,hb,hx,cx⟩:=(hk.only H.only).at k (by omega);obtain⟨x1,x6⟩:=TN hr hx;obtain⟨j,rfl⟩:=Int.eq_ofNat_of_zero_le (show 0≤x by omega);obtain⟨F,hF,hcf,hC⟩:=kind_any j (by omega) (by omega);have ct:wo.cell? ⟨q,j*3+2,none⟩=some (.func (Fn.func F) #[] #[]):=by
     rw[H.tab.cell];simpa using hF
    have hm':wo.cell? ⟨0,0,none⟩=some (.int .i64 m):=AV H.only (Nat.pos_of_ne_zero (fun e=>by
     have:=block_lt_of_cell hm;simp only at this;omega)) (by simp) hm
    have C:=hC wo (q+1) A cap rest m hm' H.rdr H.bytes H.few;have hj7:j<7:=by omega
    have hdrop:ks.drop k=(j:Int)::ks.drop (k+1):=by
     have hki:k<ks.length:=by omega
     rw[List.drop_eq_getElem_cons hki];congr 1
     rw[List.getElem?_eq_getElem hki] at hx;injection hx
    have hres2:=H.res;rw[hdrop] at hres2;obtain⟨r,hrk⟩: ∃r,BG j rest=r:=⟨_,rfl⟩;obtain⟨dn,hrest⟩:=TG j rest;rw[hrk] at C hrest;replace hrk:=AB hrk;replace hrest:=AB hrest;replace hres2:=AB hres2;replace hx:=AB hx;replace hdrop:=AB hdrop;clear hF hC hm' hnn;replace hq:=AB hq;obtain⟨E,N,tx,ls,rs⟩:=r;dsimp only at hrest;go_wp2_with fail
    go_call C as e w4 ⟨P4,tA,tc,lA',lc',rfl,my4,A4,cap4,R4⟩
    clear C;have z4:=P4.size;have hg4:q+1<w4.heap.size:=by omega
    have hgne: ¬q+1=w4.heap.size:=by omega
    have hgne2: ¬w4.heap.size=q+1:=by omega
    have g1:w4.cell? ⟨q+1,1,none⟩=some (.int .i64 E):=R4.blk.cell 1;have O4:Only [q+1] wo w4:=P4;have O4':Only [] w w4:=H.only.trans P4 (by simp;omega);by_cases hE:E=0
    ·subst hE;have hE2:((0:Int)!=0)=false:=rfl;unfold FD.val;dsimp only at my4;obtain⟨f,hf⟩: ∃f:FD,f=⟨j,N,tA,tc,tx,lA',lc',ls⟩:=⟨_,rfl⟩;have my:FD.mine w4 f wo.heap.size:=by rw[hf];exact my4.with j N
     have hfc:f.cells=[.int .i64 j,.int .u32 N,.slice tA tx.length tc,.slice lA' ls.length lc']:=by rw[hf];rfl
     have hob:=H.own.block;have V4:=H.own.far O4 (fun x hx hv=>by simp at hx;have:=hob x hv.symm;omega);have Q5:Only [] w4 ((w4.alloc (.cells #[.int .i64 j,.int .u32 N,.slice tA tx.length tc,.slice lA' ls.length lc'] 86)).alloc (.cells #[.int .i64 j,.int .u32 N,.slice tA tx.length tc,.slice lA' ls.length lc'] 86)):=((Only.refl [] w4).alloc _).alloc _;have V5:=V4.far Q5 (fun x hx=>by simp at hx);have B5:Blk ((w4.alloc (.cells #[.int .i64 j,.int .u32 N,.slice tA tx.length tc,.slice lA' ls.length lc'] 86)).alloc (.cells #[.int .i64 j,.int .u32 N,.slice tA tx.length tc,.slice lA' ls.length lc'] 86)) (w4.heap.size+1) 86 f.cells:=by
      rw[hfc];have:=Blk.new (w4.alloc (.cells #[.int .i64 j,.int .u32 N,.slice tA tx.length tc,.slice lA' ls.length lc'] 86)) 86 [.int .i64 j,.int .u32 N,.slice tA tx.length tc,.slice lA' ls.length lc'];simpa using this
     have hfew:fs.length<1000000:=by rw[H.num];omega
     have hres3:res=BQ (ks.drop (k+1)) rs ((fs++[f]).map FD.pf):=by
      have e1:=hres2.out;have e2:=hrk.out;unfold BQ at e1;rw[Int.toNat_natCast,e2,if_neg (by simp)] at e1;rw[e1,hf];simp[FD.pf]
     replace hres3:=AB hres3;replace hf:=AB hf;clear hres2 hrk hfc;go_wp2_with (at_builtin;go_must (refine QP rfl (.tmp 42) (.tmp 44) rfl (q+2) v fs rfl V5 (w4.heap.size+1) f rfl B5 hfew (by simp;omega) ?_);intro A9 k9 w9 V9 P9 G9)
     go_roundw
     case rel=>
      have O5:Only [q+1] wo ((w4.alloc (.cells #[.int .i64 j,.int .u32 N,.slice tA tx.length tc,.slice lA' ls.length lc'] 86)).alloc (.cells #[.int .i64 j,.int .u32 N,.slice tA tx.length tc,.slice lA' ls.length lc'] 86)):=O4.trans Q5 (by simp);have hvl: ∀x∈v.ownBlock.toList,q+2≤x∧x<wo.heap.size:=fun x hx=>hob x (by simpa using hx);have P9':Only v.ownBlock.toList _ w9:=P9;have z5:w4.heap.size≤((w4.alloc (.cells #[.int .i64 j,.int .u32 N,.slice tA tx.length tc,.slice lA' ls.length lc'] 86)).alloc (.cells #[.int .i64 j,.int .u32 N,.slice tA tx.length tc,.slice lA' ls.length lc'] 86)).heap.size:=Q5.size;have hnw: ∀x,q+2≤x→some x=(Value.slice A9 (fs.length+1) k9).ownBlock→(x<wo.heap.size∧some x=v.ownBlock)∨w4.heap.size≤x:=by
       intro x hx hv;rcases G9.out with e|e
       ·left;rw[e] at hv;exact⟨(hvl x (by simp[←hv])).2,hv⟩
       ·right;rw[e] at hv;injection hv with hv;omega
      refine⟨k+1,_,fs++[f],A4,cap4,rs,by omega,by go_num,rfl,⟨hres3.out,?_,?_,?_,?_,V9.out,?_,?_,?_,hqlow⟩⟩;·exact((R4.only Q5).farL P9' (fun x hx=>by have:=hvl x hx;omega))
      ·intro y hy;have:=hrest.out;rw[this] at hy;exact H.bytes y (List.mem_of_mem_drop hy)
      ·have:=hrest.out;rw[this,List.length_drop];have:=H.few;omega
      ·refine((H.tab.only O4 (by simp)).only Q5 (by simp)).only P9' (fun hm=>?_);have:=hvl _ hm;omega
      ·intro f1 hf1;rw[List.mem_append] at hf1;rcases hf1 with hf1|hf1
       ·obtain⟨m1,fr1⟩:=H.mine f1 hf1;have t1:=m1.ok.tlt;have t2:=m1.ok.llt;refine⟨((m1.onlyL O4 (by omega)).only Q5).off P9' (fun a ha h0 hm=>(fr1.1 a ha h0).2 (by simpa using hm)) (fun a ha h0 hm=>(fr1.2 a ha h0).2 (by simpa using hm)),fun a ha h0=>⟨(fr1.1 a ha h0).1,fun hv=>?_⟩,fun a ha h0=>⟨(fr1.2 a ha h0).1,fun hv=>?_⟩⟩
        ·have h1:=t1 a ha h0;have h2:=m1.new.1 a ha;rcases hnw a.block h2 hv.symm with h3|h3;·exact(fr1.1 a ha h0).2 h3.2.symm
         ·omega
        ·have h1:=t2 a ha h0;have h2:=m1.new.2 a ha;rcases hnw a.block h2 hv.symm with h3|h3;·exact(fr1.2 a ha h0).2 h3.2.symm
         ·omega
       ·simp at hf1;subst hf1;have t1:=my.ok.tlt;have t2:=my.ok.llt;refine⟨((my.only Q5).off P9' (fun a ha h0 hm=>?_) (fun a ha h0 hm=>?_)).mono (by omega),fun a ha h0=>⟨?_,fun hv=>?_⟩,fun a ha h0=>⟨?_,fun hv=>?_⟩⟩;·have h1:=my.new.1 a ha;have h2:=hvl _ hm;omega
        ·have h1:=my.new.2 a ha;have h2:=hvl _ hm;omega
        ·have h1:=my.new.1 a ha;omega
        ·have h1:=t1 a ha h0;have h2:=my.new.1 a ha;rcases hnw a.block (by omega) hv.symm with h3|h3<;>omega
        ·have h1:=my.new.2 a ha;omega
        ·have h1:=t2 a ha h0;have h2:=my.new.2 a ha;rcases hnw a.block (by omega) hv.symm with h3|h3<;>omega
      ·rw[List.length_append,H.num];rfl
      ·exact(O4'.trans Q5 (by simp)).trans P9' (fun x hx=>.inr (by have:=hvl x hx;omega))
     case measure=>simp[intOf];omega
    ·have hE2:(E !=0)=true:=by simpa using hE
     have hfin:res=(E,[]):=by
      have e1:=hres2.out;have e2:=hrk.out;unfold BQ at e1;rw[Int.toNat_natCast,e2,if_pos hE] at e1;exact e1
     replace hfin:=AB hfin;unfold FD.val;clear hres2 hrk;go_wp2_with fail
     go_quiet (fail)
     go_wp2_with fail
     go_ret2
     have e:=hfin.out;rw[e];exact JL _ _ _ ((O4'.alloc _).drewN _)
   ·have hkn3:k=n:=by omega
    subst hkn3;have hres2:=H.res;rw[List.drop_eq_nil_of_le (by omega)] at hres2;unfold BQ at hres2;obtain⟨L,hL⟩: ∃L,rest.length=L:=⟨_,rfl⟩;have c0:wo.cell? ⟨q+1,0,none⟩=some (.slice A rest.length cap):=H.rdr.blk.cell 0;rw[hL] at hres2 c0;obtain⟨A',cap',hv,hle,hmx,hrow⟩:=H.own.form;have hrw:=H.own;replace hq:=AB hq;replace hL:=AB hL;by_cases hL0:0<L
    ·rw[if_pos hL0] at hres2;replace hres2:=AB hres2;go_wp2_with fail
     go_ret2
     rw[hres2.out];exact JL _ _ _ H.only
    ·rw[if_neg hL0] at hres2;replace hres2:=AB hres2;go_wp2_with fail
     go_ret2
     rw[hres2.out];clear hres2;subst hv;refine⟨H.only,A',cap',fs,rfl,rfl,H.own.mono (by omega),fun f hf=>?_⟩;obtain⟨m1,fr1⟩:=H.mine f hf;exact⟨m1.mono (by omega),fun a ha h0=>⟨by have:=m1.new.1 a ha;omega,(fr1.1 a ha h0).2⟩,fun a ha h0=>⟨by have:=m1.new.2 a ha;omega,(fr1.2 a ha h0).2⟩⟩
 ·rw[show EJ ks l=(2,[]) from if_neg hr];rw[show JE ks=false by simpa using hr] at RW;clear hr;obtain⟨n,hn⟩: ∃n,n=ks.length:=⟨_,rfl⟩;rw[←hn] at RW⊢;obtain⟨ll,hll⟩: ∃ll,ll=l.length:=⟨_,rfl⟩;rw[←hll];replace hll:=AB hll;replace hn:=AB hn;go_enter Tryz.func56,Tryz.ntmps56
  go_wp2_with fail
  go_call RW as e w1 ⟨rfl,rfl⟩
  go_wp2_with fail
  go_ret2
  exact JL _ _ _ (Only.refl _ _)
def XN (p:PF):Int:=
 if p.kind=1 then LG p.n 255 5 else if p.kind=2 then LG p.n 1 5 else if p.kind=4 then LG p.text.length 32768 6
 else if p.kind=5 then CI p.list else if p.kind=6 then LG p.text.length 33792 6 else 0
def XH (p:PF):List Int:=
 if p.kind=1 then[p.n % 256] else if p.kind=2 then[p.n % 256] else if p.kind=3 then four p.n else if p.kind=4 then four p.text.length++p.text
 else if p.kind=5 then four (VW p.list).length++u8i (VW p.list) else p.text
end Go.Proofs.YtkgikodiecmakaaGreatDoor
namespace Go.Proofs.YtkgikodiecmakaaGreatDoor
open Go.RowKit
end Go.Proofs.YtkgikodiecmakaaGreatDoor
namespace Go.Proofs.YtkgikodiecmakaaGreatDoor
open Go.RowKit
def GB:List UInt8→List (List UInt8)
 |[]=>[[]]
 |c::s=>if c=44 then[]::GB s else(c::(GB s).headD [])::(GB s).tail
theorem NH (s:List UInt8): ∃h t,GB s=h::t:=by
 cases s with
 |nil=>exact⟨[],[],rfl⟩
 |cons c s=>
  unfold GB;split;·exact⟨_,_,rfl⟩
  ·exact⟨_,_,rfl⟩
theorem idx_cons (c:UInt8) (l:List UInt8) (h:c≠44):Lib.index (c::l) [44]=if Lib.index l [44] == -1 then -1 else Lib.index l [44]+1:=by
 have hp:([44]:List UInt8).isPrefixOf (c::l)=false:=by simp[List.isPrefixOf,Ne.symm h]
 rw[Lib.index,hp];simp
theorem UE: ∀s:List UInt8,Lib.splitK [44] 0 (Lib.count s [44]) s=GB s
 |[]=>by
  rw[Lib.count_miss (by simp[Lib.index])];rfl
 |c::l=>by
  have ih:=UE l;by_cases h:c=44
  ·subst h;rw[Lib.count_cons_eq,Nat.add_comm];have hix:Lib.index (44::l) [44]=0:=by rw[Lib.index];simp[List.isPrefixOf]
   unfold Lib.splitK GB;rw[hix];simp[ih]
  ·rw[Lib.count_cons_ne c 44 l h];have hix:=idx_cons c l h;unfold GB;rw[if_neg h];by_cases hm:Lib.index l [44] = -1
   ·rw[Lib.count_miss hm] at ih⊢;rw[←ih];rfl
   ·have hge:=Lib.index_ge l [44];obtain⟨j,hj⟩: ∃j:Nat,Lib.index l [44]=j:=⟨(Lib.index l [44]).toNat,by omega⟩;have hix':Lib.index (c::l) [44]=((j+1:Nat):Int):=by rw[hix,if_neg (fun e=>hm (beq_iff_eq.1 e)),hj];omega
    rw[Lib.count_hit (by simp) hj,Nat.add_comm 1] at ih⊢;rw[←ih];unfold Lib.splitK;rw[hj,hix',if_neg (fun e=>by have:=beq_iff_eq.1 e;omega),if_neg (fun e=>by have:=beq_iff_eq.1 e;omega)];simp
theorem join_cut (s:List UInt8):Lib.join (GB s) [44]=s:=by
 induction s with
 |nil=>exact Lib.join_one _ _
 |cons c s ih=>
  obtain⟨h,t,e⟩:=NH s;unfold GB;rw[e] at ih⊢;rw[Lib.join_cons] at ih;split
  ·rename_i hc;subst hc;rw[Lib.join_cons];simp[Lib.joinTail] at ih⊢;exact ih
  ·rw[Lib.join_cons];simp at ih⊢;exact ih
theorem OV {x y:ByteArray} (h:x.data.toList=y.data.toList):x=y:=ByteArray.ext (Array.ext' h)
theorem LI (s:ByteArray):(CM s).map (·.data.toList)=GB s.data.toList:=by
 unfold CM;rw[Lib.splitB_data];exact UE _
theorem aQ (s:ByteArray):VW (CM s)=s.data.toList:=by
 unfold VW;rw[LI];exact join_cut _
theorem EH (xs:List Int):(strOfNums xs).data.toList=xs.map fun n=>UInt8.ofNat n.toNat:=rfl
theorem u8i_str {xs:List Int} (h: ∀x∈xs,0≤x∧x<256):u8i (strOfNums xs).data.toList=xs:=by
 rw[EH];unfold u8i;induction xs with
 |nil=>rfl
 |cons a r ih=>
  have ha:=h a (by simp);rw[List.map_cons,List.map_cons,ih (fun x hx=>h x (by simp[hx]))];congr 1
  rw[UInt8.toNat_ofNat'];omega
theorem aB (l:List Int) (h4:4≤l.length) (hl: ∀x∈l,0≤x∧x<256):four (be4 l)=l.take 4:=by
 match l,h4 with
 |a::b::c::d::t,_=>
  have ha:=hl a (by simp);have hb:=hl b (by simp);have hc:=hl c (by simp);have hd:=hl d (by simp);unfold be4 four;simp;omega
end Go.Proofs.YtkgikodiecmakaaGreatDoor
namespace Go.Proofs.YtkgikodiecmakaaGreatDoor
open Go.RowKit
def InB (l:List Int):Prop:=∀x∈l,0≤x∧x<256
theorem InB.right {a b:List Int} (h:InB (a++b)):InB b:=fun x hx=>h x (by simp[hx])
theorem InB.drop {a:List Int} (h:InB a) (n:Nat):InB (a.drop n):=fun x hx=>h x (List.mem_of_mem_drop hx)
theorem InB.take {a:List Int} (h:InB a) (n:Nat):InB (a.take n):=fun x hx=>h x (List.mem_of_mem_take hx)
def Match (p:PF) (pre:List Int):Prop:=if p.kind=2 then∃b,pre=[b]∧XH p=[if b=0 then 0 else 1] else XH p=pre
theorem aV {l:List Int} (hl:InB l) (h:(CE l).e=0):4≤l.length∧be4 l≤32768∧0≤be4 l∧4+(be4 l).toNat≤l.length∧(CE l).text=(l.drop 4).take (be4 l).toNat∧(CE l).rest=l.drop (4+(be4 l).toNat):=by
 have hb:=ME l hl;unfold CE EU at h⊢;split at h;·cases h
 ·rename_i h4;rw[if_neg h4];unfold GL at h⊢;split at h;·cases h
  ·rename_i h5;split at h;·cases h
   ·rename_i h6;rw[if_neg h5,if_neg h6];rw[List.length_drop] at h6;exact⟨by omega,by omega,hb.1,by omega,rfl,by rw[List.drop_drop]⟩
theorem PV {l:List Int} (hl:InB l) (h4:4≤l.length) (h5:4+(be4 l).toNat≤l.length) (h0:0≤be4 l) :
  four ((l.drop 4).take (be4 l).toNat).length++(l.drop 4).take (be4 l).toNat=l.take (4+(be4 l).toNat):=by
 have e:((((l.drop 4).take (be4 l).toNat).length:Nat):Int)=be4 l:=by
  rw[List.length_take,List.length_drop];omega
 rw[e,aB l h4 hl,List.take_add]
theorem cM (k:Nat) (h1:1≤k) (h6:k≤6) (l:List Int) (hl:InB l) (h:(BG k l).e=0) :
  XN ⟨k,(BG k l).n,(BG k l).text,(BG k l).list⟩=0∧(0≤(BG k l).n∧(BG k l).n≤4294967295)∧
  ∃pre,l=pre++(BG k l).rest∧Match ⟨k,(BG k l).n,(BG k l).text,(BG k l).list⟩ pre:=by
 have hk:k=1∨k=2∨k=3∨k=4∨k=5∨k=6:=by omega
 rcases hk with rfl|rfl|rfl|rfl|rfl|rfl
 ·have e:BG 1 l=DZ l:=rfl;rw[e] at h⊢;cases l with
  |nil=>cases h
  |cons a t=>
   have ha:=hl a (by simp);have e2:DZ (a::t)=⟨0,a,[],[],t⟩:=by unfold DZ;simp
   rw[e2];refine⟨by unfold XN LG;simp;omega,⟨ha.1,by dsimp;omega⟩,[a],rfl,?_⟩;unfold Match XH;simp;omega
 ·have e:BG 2 l=TF l:=rfl;rw[e] at h⊢;cases l with
  |nil=>cases h
  |cons a t=>
   have ha:=hl a (by simp);have e2:TF (a::t)=⟨0,min a 1,[],[],t⟩:=by unfold TF DZ;simp
   rw[e2];refine⟨by unfold XN LG;simp;omega,⟨by dsimp;omega,by dsimp;omega⟩,[a],rfl,?_⟩;unfold Match XH;simp;split<;>omega
 ·have e:BG 3 l=DN l:=rfl;rw[e] at h⊢;by_cases h4:l.length<4
  ·unfold DN EU at h;rw[if_pos h4] at h;cases h
  ·have e2:DN l=⟨0,be4 l,[],[],l.drop 4⟩:=by unfold DN;rw[if_neg h4]
   rw[e2];have hb:=ME l hl;refine⟨rfl,⟨hb.1,by dsimp;omega⟩,l.take 4,(List.take_append_drop _ _).symm,?_⟩;exact aB l (by omega) hl
 ·have e:BG 4 l=CE l:=rfl;rw[e] at h⊢;obtain⟨a1,a2,a3,a4,a5,a6⟩:=aV hl h;obtain⟨b1,b2,b3⟩:=TL l;rw[b3,a5,a6];refine⟨?_,⟨Int.le_refl 0,show(0:Int)≤4294967295 by decide⟩,l.take (4+(be4 l).toNat),(List.take_append_drop _ _).symm,?_⟩
  ·rw[a5] at b1;show LG _ 32768 6=0;exact SZ (by dsimp only;omega)
  ·exact PV hl a1 a4 a3
 ·have e:BG 5 l=FC l:=rfl;rw[e] at h⊢;unfold FC HF at h⊢;split at h
  ·rename_i h7;exact absurd h h7
  ·rename_i h7;have h7:(CE l).e=0:=by simpa using h7
   obtain⟨a1,a2,a3,a4,a5,a6⟩:=aV hl h7;rw[if_neg (by simp[h7])];split at h
   ·rename_i h8;rw[if_pos h8];refine⟨rfl,⟨Int.le_refl 0,show(0:Int)≤4294967295 by decide⟩,l.take (4+(be4 l).toNat),?_,?_⟩
    ·dsimp only;rw[a6];exact(List.take_append_drop _ _).symm
    ·have:=PV hl a1 a4 a3;rw[←a5,h8] at this;exact this
   ·rename_i h8;rw[if_neg h8];have hp:=aQ (strOfNums (CE l).text);have hr:InB (CE l).text:=by rw[a5];exact(hl.drop 4).take _
    have hu:=u8i_str hr;refine⟨h,⟨Int.le_refl 0,show(0:Int)≤4294967295 by decide⟩,l.take (4+(be4 l).toNat),?_,?_⟩
    ·dsimp only;rw[a6];exact(List.take_append_drop _ _).symm
    ·show four (VW (CM (strOfNums (CE l).text))).length++u8i (VW (CM (strOfNums (CE l).text)))=_;rw[hp,hu];have e3:(strOfNums (CE l).text).data.toList.length=(CE l).text.length:=by rw[EH,List.length_map]
     rw[e3,a5];exact PV hl a1 a4 a3
 ·have e:BG 6 l=TI l:=rfl;rw[e] at h⊢;unfold TI at h⊢;exact⟨h,⟨Int.le_refl 0,show(0:Int)≤4294967295 by decide⟩,l,by simp,rfl⟩
def Parts:List PF→List Int→Prop
 |[],l=>l=[]
 |p::ps,l=>∃pre rest,l=pre++rest∧Match p pre∧Parts ps rest
theorem LK: ∀(ks l:List Int) (acc:List PF),(∀k∈ks,1≤k∧k≤6)→InB l→
  ((BQ ks l acc).1≠0∧(BQ ks l acc).2=[])∨
  ((BQ ks l acc).1=0∧∃ps,(BQ ks l acc).2=acc++ps∧ps.map (·.kind)=ks∧(∀p∈ps,XN p=0∧0≤p.n∧p.n≤4294967295)∧Parts ps l)
 |[],l,acc,_,_=>by
  unfold BQ;split;·exact .inl ⟨by decide,rfl⟩
  ·rename_i h;refine .inr ⟨rfl,[],by simp,rfl,fun p hp=>by simp at hp,?_⟩;exact List.eq_nil_of_length_eq_zero (by omega)
 |k::ks,l,acc,hk,hl=>by
  have h16:=hk k (by simp);obtain⟨j,rfl⟩:=Int.eq_ofNat_of_zero_le (show 0≤k by omega);unfold BQ;rw[Int.toNat_natCast];by_cases he:(BG j l).e=0
  ·rw[if_neg (by simp[he])];obtain⟨g1,g2,pre,g3,g4⟩:=cM j (by omega) (by omega) l hl he;have hr:InB (BG j l).rest:=by
    rw[g3] at hl;exact hl.right
   rcases LK ks (BG j l).rest (acc++[⟨j,(BG j l).n,(BG j l).text,(BG j l).list⟩]) (fun k hk2=>hk k (by simp[hk2])) hr with h|⟨h0,ps,h1,h2,h3,h4⟩;·exact .inl h
   ·refine .inr ⟨h0,⟨j,(BG j l).n,(BG j l).text,(BG j l).list⟩::ps,by rw[h1];simp,by rw[List.map_cons,h2],fun p hp=>?_,pre,_,g3,g4,h4⟩;rcases List.mem_cons.1 hp with rfl|hp;·exact⟨g1,g2⟩
    ·exact h3 p hp
  ·rw[if_pos he];exact .inl ⟨he,rfl⟩
theorem QI {ks:List Int} (h:JE ks=true): ∀k∈ks,1≤k∧k≤6:=fun k hk=>by
 obtain⟨i,hi⟩:=List.getElem?_of_mem hk;exact TN h hi
section
variable (n : Int) (t : List Int) (ls : List ByteArray) (l : List Int)
theorem rKind_1:BG 1 l=DZ l:=rfl
theorem rKind_2:BG 2 l=TF l:=rfl
theorem rKind_3:BG 3 l=DN l:=rfl
theorem rKind_4:BG 4 l=CE l:=rfl
theorem rKind_5:BG 5 l=FC l:=rfl
theorem rKind_6:BG 6 l=TI l:=rfl
end
end Go.Proofs.YtkgikodiecmakaaGreatDoor
namespace Go.Proofs.YtkgikodiecmakaaGreatDoor
open Go.RowKit
def sOf (s:ByteArray):List Int:=u8i s.data.toList
theorem sOf_len (s:ByteArray):(sOf s).length=s.size:=by unfold sOf u8i;simp
theorem rText_inb {l:List Int} (hl:InB l):InB (CE l).text:=by
 unfold CE GL EU;split;·exact fun x hx=>by simp at hx
 ·split;·exact fun x hx=>by simp at hx
  ·split;·exact fun x hx=>by simp at hx
   ·exact(hl.drop 4).take _
theorem kind_inb (k:Nat) (h6:k≤6) (l:List Int) (hl:InB l):InB (BG k l).text:=by
 have z:InB []:=fun x hx=>by simp at hx
 have ho:(DZ l).text=[]:=by unfold DZ EU;split<;>rfl
 have hk:k=0∨k=1∨k=2∨k=3∨k=4∨k=5∨k=6:=by omega
 rcases hk with rfl|rfl|rfl|rfl|rfl|rfl|rfl;·exact hl
 ·rw[rKind_1,ho];exact z
 ·rw[rKind_2,show(TF l).text=(DZ l).text from rfl,ho];exact z
 ·rw[rKind_3];unfold DN EU;split<;>exact z
 ·rw[rKind_4];exact rText_inb hl
 ·rw[rKind_5];unfold FC HF;split;exact z;split<;>exact z
 ·rw[rKind_6];exact hl
theorem OC: ∀(ks l:List Int) (acc:List PF),(∀k∈ks,1≤k∧k≤6)→InB l→(∀p∈acc,InB p.text)→∀p∈(BQ ks l acc).2,InB p.text
 |[],l,acc,_,_,ha=>by
  unfold BQ;split;·exact fun p hp=>by simp at hp
  ·exact ha
 |k::ks,l,acc,hk,hl,ha=>by
  have h16:=hk k (by simp);unfold BQ;split;·exact fun p hp=>by simp at hp
  ·obtain⟨n,hn⟩:=TG k.toNat l;refine OC ks _ _ (fun k hk2=>hk k (by simp[hk2])) (by rw[hn];exact hl.drop n) (fun p hp=>?_);rcases List.mem_append.1 hp with hp|hp;·exact ha p hp
   ·simp at hp;subst hp;exact kind_inb _ (by omega) l hl
theorem CW (ks l:List Int) (hl:InB l) (h:(EJ ks l).1=0):(EJ ks l).2.map (·.kind)=ks∧∀p∈(EJ ks l).2,U32 p.n∧InB p.text:=by
 unfold EJ at h⊢;split at h
 ·rename_i hr;rw[if_pos hr];have h2:=OC ks l [] (QI hr) hl (fun p hp=>by simp at hp);rcases LK ks l [] (QI hr) hl with e|⟨_,ps,e1,e2,e3,_⟩;·exact absurd h e.1
  ·rw[e1] at h2⊢;refine⟨by simpa using e2,fun p hp=>⟨(e3 p (by simpa using hp)).2,h2 p hp⟩⟩
 ·cases h
theorem bM (l:List Int):(strOfNums l).size=l.length:=by
 show(strOfNums l).data.size=_;rw[←Array.length_toList,EH,List.length_map]
structure RQ where
  kind : Int
  text : ByteArray
  value : ByteArray
  lang : ByteArray
  cols : Int
  rows : Int
  width : Int
  height : Int
  mA : Option Addr
  mc : Nat
  modes : List Int
  on : Bool
  code : Int
def RQ.cells (m:RQ):List Value:=[.int .i64 m.kind,.string m.text,.string m.value,.string m.lang,.int .u32 m.cols,.int .u32 m.rows,.int .u32 m.width,.int .u32 m.height,.slice m.mA m.modes.length m.mc,.bool m.on,.int .u32 m.code]
def RQ.val (m:RQ):Value:=.agg #[.int .i64 m.kind,.string m.text,.string m.value,.string m.lang,.int .u32 m.cols,.int .u32 m.rows,.int .u32 m.width,.int .u32 m.height,.slice m.mA m.modes.length m.mc,.bool m.on,.int .u32 m.code]
def RNums (m:RQ):Prop:=U32 m.cols∧U32 m.rows∧U32 m.width∧U32 m.height∧U32 m.code
structure RQ.ok (w : World) (m : RQ) : Prop where
  modes : RdG (.int .u8) w m.mA m.modes
  mle : m.modes.length ≤ m.mc
  mmax : m.mc ≤ maxLen
  bytes : ∀ x ∈ m.modes, 0 ≤ x ∧ x < 256
  nums : RNums m
  text : m.text.size ≤ maxLen
  value : m.value.size ≤ maxLen
  lang : m.lang.size ≤ maxLen
theorem RQ.ok.only {w w':World} {m:RQ} (h:m.ok w) (hb:Only [] w w'):m.ok w':={ h with modes:=h.modes.only hb }
def AI:RQ:=⟨0,⟨#[]⟩,⟨#[]⟩,⟨#[]⟩,0,0,0,0,none,0,[],false,0⟩
def AL (k:Nat):RQ:={ AI with kind:=(k:Int) }
theorem BL (w:World):AI.ok w:=⟨RdG.nil,by simp[AI],by simp[AI],by simp[AI],by simp[AI,U32,RNums],Nat.zero_le _,Nat.zero_le _,Nat.zero_le _⟩
theorem DP (w:World) (k:Nat):(AL k).ok w:={ BL w with }
def FE:Nat→List UInt8
 |1=>[112,116,121,45,114,101,113]
 |2=>[101,110,118]
 |3=>[115,104,101,108,108]
 |4=>[101,120,101,99]
 |5=>[115,117,98,115,121,115,116,101,109]
 |6=>[119,105,110,100,111,119,45,99,104,97,110,103,101]
 |7=>[120,111,110,45,120,111,102,102]
 |8=>[115,105,103,110,97,108]
 |9=>[101,120,105,116,45,115,116,97,116,117,115]
 |10=>[101,120,105,116,45,115,105,103,110,97,108]
 |_=>[]
def AR (k:Nat):ByteArray:=⟨(FE k).toArray⟩
def AC:Nat→List Int
 |1=>[4,3,3,3,3,4]
 |2=>[4,4]
 |4=>[4]
 |5=>[4]
 |6=>[3,3,3,3]
 |7=>[2]
 |8=>[4]
 |9=>[3]
 |10=>[4,2,4,4]
 |_=>[]
def pT (s:ByteArray):PF:=⟨4,0,sOf s,[]⟩
def pN (n:Int):PF:=⟨3,n,[],[]⟩
def pB (b:Bool):PF:=⟨2,if b then 1 else 0,[],[]⟩
def DM (m:RQ):Nat→List PF
 |1=>[pT m.text,pN m.cols,pN m.rows,pN m.width,pN m.height,⟨4,0,m.modes,[]⟩]
 |2=>[pT m.text,pT m.value]
 |4=>[pT m.text]
 |5=>[pT m.text]
 |6=>[pN m.cols,pN m.rows,pN m.width,pN m.height]
 |7=>[pB m.on]
 |8=>[pT m.text]
 |9=>[pN m.code]
 |10=>[pT m.text,pB m.on,pT m.value,pT m.lang]
 |_=>[]
def JZ (c:UInt8):Bool:=decide (33≤c.toNat)&&decide (c.toNat≤126)
def FU (s:ByteArray) (least:Nat):Bool:=decide (least≤s.size)&&decide (s.size≤64)&&s.data.toList.all JZ
def BR (s:ByteArray) (least:Nat):Int:=if FU s least then 0 else 4
def CH (n:Nat):Int:=if 1024<n then 6 else 0
def DC:List Int→Int
 |[]=>0
 |e::l=>if e≠0 then e else DC l
def PZ (s:ByteArray):Bool:=decide ((61:UInt8)∈s.data.toList)
def DB (m:RQ):Nat→Int
 |1=>DC [BR m.text 0,CH m.modes.length]
 |2=>if PZ m.text then 4 else DC [BR m.text 1,CH m.value.size]
 |4=>CH m.text.size
 |5=>BR m.text 1
 |8=>BR m.text 1
 |10=>DC [BR m.text 1,BR m.lang 0,CH m.value.size]
 |_=>0
def DD (m:RQ):Nat→List FD→RQ
 |1,[a,b,c,d,e,f]=>{ m with text:=strOfNums a.text,cols:=b.n,rows:=c.n,width:=d.n,height:=e.n,mA:=f.tA,mc:=f.tc,modes:=f.text }
 |2,[a,b]=>{ m with text:=strOfNums a.text,value:=strOfNums b.text }
 |4,[a]=>{ m with text:=strOfNums a.text }
 |5,[a]=>{ m with text:=strOfNums a.text }
 |6,[b,c,d,e]=>{ m with cols:=b.n,rows:=c.n,width:=d.n,height:=e.n }
 |7,[a]=>{ m with on:=decide (a.n=1) }
 |8,[a]=>{ m with text:=strOfNums a.text }
 |9,[a]=>{ m with code:=a.n }
 |10,[a,b,c,d]=>{ m with text:=strOfNums a.text,on:=decide (b.n=1),value:=strOfNums c.text,lang:=strOfNums d.text }
 |_,_=>m
structure SameR (a b : RQ) : Prop where
  kind : b.kind = a.kind
  text : b.text = a.text
  value : b.value = a.value
  lang : b.lang = a.lang
  cols : b.cols = a.cols
  rows : b.rows = a.rows
  width : b.width = a.width
  height : b.height = a.height
  on : b.on = a.on
  code : b.code = a.code
  modes : b.modes = a.modes
theorem SameR.refl (a:RQ):SameR a a:=⟨rfl,rfl,rfl,rfl,rfl,rfl,rfl,rfl,rfl,rfl,rfl⟩
theorem k10 {k:Nat} (h1:1≤k) (h2:k≤10):k=1∨k=2∨k=3∨k=4∨k=5∨k=6∨k=7∨k=8∨k=9∨k=10:=by omega
theorem askR_same {a b:RQ} (h:SameR a b) (k:Nat) (h1:1≤k) (h2:k≤10):DB b k=DB a k:=by
 rcases k10 h1 h2 with rfl|rfl|rfl|rfl|rfl|rfl|rfl|rfl|rfl|rfl<;>simp only[DB,h.text,h.value,h.lang,h.modes]
theorem DF (m:RQ) (k:Nat) (h1:1≤k) (h2:k≤10):(DM m k).map (·.kind)=AC k:=by
 rcases k10 h1 h2 with rfl|rfl|rfl|rfl|rfl|rfl|rfl|rfl|rfl|rfl<;>rfl
theorem fs1 {fs:List FD} {a:PF} (h:fs.map FD.pf=[a]): ∃x,fs=[x]∧x.pf=a:=by
 match fs,h with
 |[x],h=>simp at h;exact⟨x,rfl,h⟩
theorem fs2 {fs:List FD} {a b:PF} (h:fs.map FD.pf=[a,b]): ∃x y,fs=[x,y]∧x.pf=a∧y.pf=b:=by
 match fs,h with
 |[x,y],h=>simp at h;exact⟨x,y,rfl,h⟩
theorem fs4 {fs:List FD} {a b c d:PF} (h:fs.map FD.pf=[a,b,c,d]): ∃x y z u,fs=[x,y,z,u]∧x.pf=a∧y.pf=b∧z.pf=c∧u.pf=d:=by
 match fs,h with
 |[x,y,z,u],h=>simp at h;exact⟨x,y,z,u,rfl,h⟩
theorem fs6 {fs:List FD} {a b c d e f:PF} (h:fs.map FD.pf=[a,b,c,d,e,f]): ∃x y z u v s,fs=[x,y,z,u,v,s]∧x.pf=a∧y.pf=b∧z.pf=c∧u.pf=d∧v.pf=e∧s.pf=f:=by
 match fs,h with
 |[x,y,z,u,v,s],h=>simp at h;exact⟨x,y,z,u,v,s,rfl,h⟩
theorem ks1 {fs:List FD} {a:Int} (h:fs.map (fun f=>f.pf.kind)=[a]): ∃x,fs=[x]∧x.pf.kind=a:=by
 match fs,h with
 |[x],h=>simp at h;exact⟨x,rfl,h⟩
theorem ks2 {fs:List FD} {a b:Int} (h:fs.map (fun f=>f.pf.kind)=[a,b]): ∃x y,fs=[x,y]∧x.pf.kind=a∧y.pf.kind=b:=by
 match fs,h with
 |[x,y],h=>simp at h;exact⟨x,y,rfl,h⟩
theorem ks4 {fs:List FD} {a b c d:Int} (h:fs.map (fun f=>f.pf.kind)=[a,b,c,d]): ∃x y z u,fs=[x,y,z,u]∧x.pf.kind=a∧y.pf.kind=b∧z.pf.kind=c∧u.pf.kind=d:=by
 match fs,h with
 |[x,y,z,u],h=>simp at h;exact⟨x,y,z,u,rfl,h⟩
theorem ks6 {fs:List FD} {a b c d e f:Int} (h:fs.map (fun f=>f.pf.kind)=[a,b,c,d,e,f]): ∃x y z u v s,fs=[x,y,z,u,v,s]∧x.pf.kind=a∧y.pf.kind=b∧z.pf.kind=c∧u.pf.kind=d∧v.pf.kind=e∧s.pf.kind=f:=by
 match fs,h with
 |[x,y,z,u,v,s],h=>simp at h;exact⟨x,y,z,u,v,s,rfl,h⟩
def WA (l:List UInt8):Option Nat:=
 if l=FE 1 then some 1 else if l=FE 2 then some 2 else if l=FE 3 then some 3 else if l=FE 4 then some 4 else if l=FE 5 then some 5 else
 if l=FE 6 then some 6 else if l=FE 7 then some 7 else if l=FE 8 then some 8 else if l=FE 9 then some 9 else if l=FE 10 then some 10 else none
def DO (k:Nat) (l:List Int) (m:RQ) (E:Int):Prop:=
 if(EJ (AC k) l).1≠0 then E=(EJ (AC k) l).1∧m=AI
 else∃fs:List FD,fs.map FD.pf=(EJ (AC k) l).2∧if DB (DD (AL k) k fs) k=0 then E=0∧m=DD (AL k) k fs else E=DB (DD (AL k) k fs) k∧m=AI
def CL (name:ByteArray) (l:List Int) (m:RQ) (E:Int):Prop:=
 match WA name.data.toList with
 |none=>E=8∧m=AI
 |some k=>DO k l m E
theorem ML (k:Nat) (h1:1≤k) (h2:k≤10):WA (FE k)=some k:=by
 rcases k10 h1 h2 with rfl|rfl|rfl|rfl|rfl|rfl|rfl|rfl|rfl|rfl<;>decide
theorem QB {l:List UInt8} {k:Nat} (h:WA l=some k):1≤k∧k≤10∧l=FE k:=by
 unfold WA at h;repeat' (split at h)
 all_goals first
  |(injection h with h;subst h;exact⟨by decide,by decide,by assumption⟩)
  |cases h
theorem ES {i j:Nat} (h1:1≤i) (h2:i≤10) (g1:1≤j) (g2:j≤10) (h:FE i=FE j):i=j:=by
 have:=ML i h1 h2;rw[h,ML j g1 g2] at this;injection this with this;exact this.symm
theorem BB (k:Nat):(AR k).data.toList=FE k:=rfl
structure MD where
  kind : Int
  chan : Int
  sender : Int
  window : Int
  packet : Int
  code : Int
  name : ByteArray
  lang : ByteArray
  want : Bool
  dA : Option Addr
  dc : Nat
  data : List Int
def MD.cells (m:MD):List Value:=[.int .i64 m.kind,.int .u32 m.chan,.int .u32 m.sender,.int .u32 m.window,.int .u32 m.packet,.int .u32 m.code,.string m.name,.string m.lang,.bool m.want,.slice m.dA m.data.length m.dc]
def MD.val (m:MD):Value:=.agg #[.int .i64 m.kind,.int .u32 m.chan,.int .u32 m.sender,.int .u32 m.window,.int .u32 m.packet,.int .u32 m.code,.string m.name,.string m.lang,.bool m.want,.slice m.dA m.data.length m.dc]
structure MD.ok (w : World) (m : MD) : Prop where
  data : RdG (.int .u8) w m.dA m.data
  dle : m.data.length ≤ m.dc
  dmax : m.dc ≤ maxLen
  bytes : ∀ x ∈ m.data, 0 ≤ x ∧ x < 256
  nums : U32 m.chan ∧ U32 m.sender ∧ U32 m.window ∧ U32 m.packet ∧ U32 m.code
  name : m.name.size ≤ maxLen
  lang : m.lang.size ≤ maxLen
theorem MD.ok.only {w w':World} {m:MD} (h:m.ok w) (hb:Only [] w w'):m.ok w':={ h with data:=h.data.only hb }
end Go.Proofs.YtkgikodiecmakaaGreatDoor
namespace Go.Proofs.YtkgikodiecmakaaGreatDoor
open Go.RowKit Go.MapKept
/-! Lists by keys. -/
section
variable {κ α γ : Type} [DecidableEq κ]
def AK (k:κ):List (κ×α)→Option α
 |[]=>none
 |p::l=>if p.1=k then some p.2 else AK k l
def BH (k:κ) (v:α):List (κ×α)→List (κ×α)
 |[]=>[(k,v)]
 |p::l=>if p.1=k then(k,v)::l else p::BH k v l
def AQ (f:α→γ) (l:List (κ×α)):List (κ×γ):=l.map fun p=>(p.1,f p.2)
theorem EF (f:α→γ) (k:κ): ∀l:List (κ×α),AK k (AQ f l)=(AK k l).map f
 |[]=>rfl
 |p::l=>by
  have ih:=EF f k l;unfold AQ at ih⊢;rw[List.map_cons];unfold AK;by_cases h:p.1=k
  ·simp[h]
  ·simp only[h,if_false];exact ih
theorem JY (f:α→γ) (k:κ) (v:α): ∀l:List (κ×α),BH k (f v) (AQ f l)=AQ f (BH k v l)
 |[]=>rfl
 |p::l=>by
  have ih:=JY f k v l;unfold AQ at ih⊢;rw[List.map_cons];unfold BH;by_cases h:p.1=k
  ·simp[h]
  ·simp only[h,if_false];rw[ih];rfl
theorem EV (f:α→Value) (k:κ): ∀l:List (κ×α),BO k (AQ f l)=(AK k l).map f
 |[]=>rfl
 |p::l=>by
  have ih:=EV f k l;unfold AQ at ih⊢;rw[List.map_cons];unfold AK BO;by_cases h:p.1=k
  ·simp[h]
  ·simp only[h,if_false];exact ih
theorem PR (f:α→Value) (k:κ) (v:α): ∀l:List (κ×α),setE k (f v) (AQ f l)=AQ f (BH k v l)
 |[]=>rfl
 |p::l=>by
  have ih:=PR f k v l;unfold AQ at ih⊢;rw[List.map_cons];unfold BH setE;by_cases h:p.1=k
  ·simp[h]
  ·simp only[h,if_false];rw[ih];rfl
theorem DY (k j:κ) (v:α): ∀l:List (κ×α),AK j (BH k v l)=if k=j then some v else AK j l
 |[]=>rfl
 |p::l=>by
  have ih:=DY k j v l;unfold BH;by_cases h:p.1=k
  ·rw[if_pos h];by_cases e:k=j
   ·rw[if_pos e];unfold AK;rw[if_pos e]
   ·rw[if_neg e];unfold AK;rw[if_neg e,if_neg (by rw[h];exact e)]
  ·rw[if_neg h];by_cases e:p.1=j
   ·unfold AK;rw[if_pos e,if_pos e,if_neg (by rw[←e];exact fun x=>h x.symm)]
   ·unfold AK;rw[if_neg e,if_neg e,ih]
theorem BN {k:κ} {v:α}: ∀{l:List (κ×α)},AK k l=some v→(k,v)∈l
 |[],h=>by cases h
 |p::l,h=>by
  unfold AK at h;split at h;·rename_i e;injection h with h;subst h;subst e;exact List.mem_cons_self
  ·exact List.mem_cons_of_mem _ (BN h)
theorem NT {k:κ} {v:α} {p:κ×α}: ∀{l:List (κ×α)},p∈BH k v l→p=(k,v)∨p∈l
 |[],h=>by simp[BH] at h;exact .inl h
 |q::l,h=>by
  unfold BH at h;split at h
  ·rcases List.mem_cons.1 h with h|h;·exact .inl h
   ·exact .inr (List.mem_cons_of_mem _ h)
  ·rcases List.mem_cons.1 h with h|h;·exact .inr (by rw[h];exact List.mem_cons_self)
   ·exact(NT h).imp id (List.mem_cons_of_mem _)
theorem VZ {k:κ} {v:α}: ∀{l:List (κ×α)},(BH k v l).map (·.1)=if(AK k l).isSome then l.map (·.1) else l.map (·.1)++[k]
 |[]=>rfl
 |q::l=>by
  have ih:=VZ (k:=k) (v:=v) (l:=l);unfold BH AK;by_cases h:q.1=k
  ·simp[h]
  ·simp only[h,if_false,List.map_cons,ih];split<;>rfl
def GD (l:List (κ×α)):Prop:=(l.map (·.1)).Nodup
theorem MN {k:κ}: ∀{l:List (κ×α)},AK k l=none→k∉l.map (·.1)
 |[],_=>by simp
 |q::l,h=>by
  unfold AK at h;split at h;·cases h
  ·rename_i e;have:=MN h;simp only[List.map_cons,List.mem_cons,not_or];exact⟨fun x=>e x.symm,this⟩
theorem GD.set {k:κ} {v:α} {l:List (κ×α)} (h:GD l):GD (BH k v l):=by
 unfold GD at *;rw[VZ];split;·exact h
 ·rename_i e;have:AK k l=none:=by simpa using e
  rw[List.nodup_append];refine⟨h,by simp,fun a ha b hb=>?_⟩;simp only[List.mem_singleton] at hb;subst hb;intro e2;subst e2;exact MN this ha
theorem GD.other {k:κ} {v:α} {p:κ×α}: ∀{l:List (κ×α)},GD l→p∈BH k v l→p=(k,v)∨(p∈l∧p.1≠k)
 |[],_,h=>by simp[BH] at h;exact .inl h
 |q::l,hk,h=>by
  unfold GD at hk;rw[List.map_cons,List.nodup_cons] at hk;unfold BH at h;split at h
  ·rename_i e;rcases List.mem_cons.1 h with h|h;·exact .inl h
   ·refine .inr ⟨List.mem_cons_of_mem _ h,fun e2=>hk.1 ?_⟩;rw[e,←e2];exact List.mem_map_of_mem h
  ·rename_i e;rcases List.mem_cons.1 h with h|h;·exact .inr ⟨by rw[h];exact List.mem_cons_self,by rw[h];exact e⟩
   ·exact(GD.other hk.2 h).imp id fun h=>⟨List.mem_cons_of_mem _ h.1,h.2⟩
def fpA (f:α→List Nat) (l:List (κ×α)):List Nat:=l.flatMap fun p=>f p.2
theorem BC {f:α→List Nat} {k:κ} {v:α} {y:Nat} {l:List (κ×α)} (h:AK k l=some v) (hy:y∈f v):y∈fpA f l:=List.mem_flatMap.2 ⟨_,BN h,hy⟩
theorem KJ {f:α→List Nat} {k:κ} {v:α} {y:Nat} {l:List (κ×α)} (h:y∈fpA f (BH k v l)):y∈f v∨y∈fpA f l:=by
 obtain⟨p,hp,hy⟩:=List.mem_flatMap.1 h;rcases NT hp with e|e;·subst e;exact .inl hy
 ·exact .inr (List.mem_flatMap.2 ⟨p,e,hy⟩)
theorem PA {f:α→List Nat} {k:κ} {v:α}: ∀{l:List (κ×α)},(fpA f l).Nodup→(f v).Nodup→(∀y∈f v,y∉fpA f l∨∃o,AK k l=some o∧y∈f o)→(fpA f (BH k v l)).Nodup
 |[],_,h,_=>by simpa[fpA,BH] using h
 |p::l,hn,hf,hv=>by
  have e:fpA f (p::l)=f p.2++fpA f l:=by simp[fpA]
  rw[e,List.nodup_append] at hn;unfold BH;by_cases hk:p.1=k
  ·rw[if_pos hk];have e2:fpA f ((k,v)::l)=f v++fpA f l:=by simp[fpA]
   rw[e2,List.nodup_append];refine⟨hf,hn.2.1,fun a ha b hb e3=>?_⟩;subst e3;rcases hv a ha with h|⟨o,h1,h2⟩;·rw[e] at h;exact h (List.mem_append.2 (.inr hb))
   ·unfold AK at h1;rw[if_pos hk] at h1;injection h1 with h1;subst h1;exact hn.2.2 a h2 a hb rfl
  ·rw[if_neg hk];have e2:fpA f (p::BH k v l)=f p.2++fpA f (BH k v l):=by simp[fpA]
   rw[e2,List.nodup_append];have hv': ∀y∈f v,y∉fpA f l∨∃o,AK k l=some o∧y∈f o:=fun y hy=>by
    rcases hv y hy with h|⟨o,h1,h2⟩;·rw[e] at h;exact .inl fun h3=>h (List.mem_append.2 (.inr h3))
    ·unfold AK at h1;rw[if_neg hk] at h1;exact .inr ⟨o,h1,h2⟩
   refine⟨hn.1,PA hn.2.1 hf hv',fun a ha b hb e3=>?_⟩;subst e3;rcases KJ hb with h|h
   ·rcases hv a h with h4|⟨o,h1,h2⟩;·rw[e] at h4;exact h4 (List.mem_append.2 (.inl ha))
    ·unfold AK at h1;rw[if_neg hk] at h1;exact hn.2.2 a ha a (BC h1 h2) rfl
   ·exact hn.2.2 a ha a h rfl
end
/-! The watch. -/
structure EN where
  chan : Int
  granted : Int
  sent : Int
  packet : Int
  eof : Bool
  closed : Bool
  told : Bool
  wants : Int
def EN.sc (x:EN):List SC:=[.v (.int .u32 x.chan),.v (.int .u64 x.granted),.v (.int .u64 x.sent),.v (.int .u32 x.packet),.v (.bool x.eof),.v (.bool x.closed),.v (.bool x.told),.v (.int .i64 x.wants)]
def EN.cells (x:EN):List Value:=[.int .u32 x.chan,.int .u64 x.granted,.int .u64 x.sent,.int .u32 x.packet,.bool x.eof,.bool x.closed,.bool x.told,.int .i64 x.wants]
structure OS where
  A : Option Addr
  cap : Nat
  l : List (Int × Int)
def cOp (x:Int×Int):List Value:=[.int .i64 0,.int .u32 0,.int .u32 0,.int .u32 x.1,.int .u32 x.2,.int .u32 0,.string ⟨#[]⟩,.string ⟨#[]⟩,.bool false,.slice none 0 0]
def OS.val (o:OS):Value:=.slice o.A o.l.length o.cap
def OS.fp (o:OS):List Nat:=bkO o.A
def OS.at (w:World) (o:OS):Prop:=CP cOp 36 10 w o.A o.cap o.l
structure WM where
  ob : Nat
  eb : Nat
  nb : Nat
  opens : List (Int × OS)
  glob : Int
  ends : List (Int × (Nat × EN))
  nums : List (Int × Int)
  dead : Bool
def WM.cells (M:WM):List Value:=[.map (some M.ob),.int .i64 M.glob,.map (some M.eb),.map (some M.nb),.bool M.dead]
def eFp (x:Nat×EN):List Nat:=[x.1]
def AO (b:Nat):Value:=.pointer (some ⟨b,0,none⟩)
def LV (x:Int):Value:=.int .u32 x
def WM.fp (M:WM) (p:Nat):List Nat:=[p,M.ob,M.eb,M.nb]++(fpA OS.fp M.opens++fpA eFp M.ends)
structure WAt (w : World) (p : Nat) (M : WM) : Prop where
  blk : Blk w p 55 M.cells
  mo : BM (kI .u32) w M.ob (AQ OS.val M.opens)
  me : BM (kI .u32) w M.eb (AQ (fun x => AO x.1) M.ends)
  mn : BM (kI .u32) w M.nb (AQ LV M.nums)
  os : ∀ x ∈ M.opens, x.2.at w
  es : ∀ x ∈ M.ends, Blk w x.2.1 49 x.2.2.cells
  nd : (M.fp p).Nodup
  ko : GD M.opens
  ke : GD M.ends
  kn : GD M.nums
theorem OS.at_st {o:OS}:StX o.fp (fun w=>o.at w):=CP.st
theorem BM.stb {κ:Type} {ke:κ→Value} {w w':World} {r:Nat} {es:List (κ×Value)} (he:w'.heap[r]? = w.heap[r]?) (h:BM ke w r es):BM ke w' r es:=by
 obtain⟨a,clock,hb,hl⟩:=h;exact⟨a,clock,he.trans hb,hl⟩
theorem WAt.st {p:Nat} {M:WM}:StX (M.fp p) (fun w=>WAt w p M):=fun w w' hs he h=>
 ⟨(he p (by simp[WM.fp])).trans h.blk,BM.stb (he _ (by simp[WM.fp])) h.mo,BM.stb (he _ (by simp[WM.fp])) h.me,BM.stb (he _ (by simp[WM.fp])) h.mn,
  fun x hx=>OS.at_st w w' hs (fun y hy=>he y (by
   simp only[WM.fp,List.mem_append];exact .inr (.inl (List.mem_flatMap.2 ⟨x,hx,hy⟩)))) (h.os x hx),
  fun x hx=>(he x.2.1 (by
   simp only[WM.fp,List.mem_append];exact .inr (.inr (List.mem_flatMap.2 ⟨x,hx,by simp[eFp]⟩)))).trans (h.es x hx),h.nd,h.ko,h.ke,h.kn⟩
/-! What a watch is, wherever it lies. -/
structure WS where
  opens : List (Int × List (Int × Int))
  glob : Int
  ends : List (Int × EN)
  nums : List (Int × Int)
  dead : Bool
def WM.abs (M:WM):WS:=⟨AQ OS.l M.opens,M.glob,AQ Prod.snd M.ends,M.nums,M.dead⟩
def QV:WS:=⟨[],0,[],[],false⟩
def byS (S:WS) (n:Int):Option (Int×EN):=match AK n S.nums with
 |none=>none
 |some k=>(AK k S.ends).map fun x=>(k,x)
def b01 (b:Bool):Int:=if b then 1 else 0
def CT (S:WS) (m:MD):WS:=
 if m.kind=90 then { S with opens:=BH m.sender ((AK m.sender S.opens).getD []++[(m.window,m.packet)]) S.opens }
 else if m.kind=80 then { S with glob:=IntKind.i64.wrap (S.glob+b01 m.want) }
 else if m.kind=93 then match byS S m.chan with
  |none=>S
  |some (k,x)=>{ S with ends:=BH k { x with granted:=IntKind.u64.wrap (x.granted+m.window) } S.ends }
 else if m.kind=98 then match byS S m.chan with
  |none=>S
  |some (k,x)=>{ S with ends:=BH k { x with wants:=IntKind.i64.wrap (x.wants+b01 m.want) } S.ends }
 else S
def GO (x:EN) (m:MD) (ok:Bool):EN×Int:=
 if m.kind=94∨m.kind=95 then
  if x.eof then(x,9) else if(m.data.length:Int)>x.packet∨(m.data.length:Int)>IntKind.u64.wrap (x.granted-x.sent) then(x,5) else({ x with sent:=IntKind.u64.wrap (x.sent+m.data.length) },0)
 else if m.kind=93 then(x,0)
 else if m.kind=96 then if x.eof then(x,9) else({ x with eof:=true },0)
 else if m.kind=97 then({ x with closed:=true },0)
 else if m.kind=98 then if¬ok then(x,4) else if x.told then(x,9) else({ x with told:=true },0)
 else if x.wants=0 then(x,9) else({ x with wants:=IntKind.i64.wrap (x.wants-1) },0)
def GJ (S:WS) (n:Int):Option ((Int×Int)×List (Int×Int)):=match AK n S.opens with
 |some (o::l)=>some (o,l)
 |_=>none
def LU (n:Int) (o:Int×Int):EN:=⟨n,o.1,0,o.2,false,false,false,0⟩
def AM (S:WS) (m:MD) (ok:Bool):WS×Int:=
 if S.dead then(S,9)
 else if m.kind=1 then({ S with dead:=true },0)
 else if m.kind=81∨m.kind=82 then if S.glob=0 then(S,9) else({ S with glob:=IntKind.i64.wrap (S.glob-1) },0)
 else if m.kind=91 then match GJ S m.chan with
  |none=>(S,8)
  |some (o,l)=>if(match AK m.chan S.ends with|some x=>!x.closed|none=>false)=true then(S,9)
   else({ S with opens:=BH m.chan l S.opens,ends:=BH m.chan (LU m.chan o) S.ends,nums:=BH m.sender m.chan S.nums },0)
 else if m.kind=92 then match GJ S m.chan with
  |none=>(S,8)
  |some (o,l)=>({ S with opens:=BH m.chan l S.opens },0)
 else if m.kind<93∨m.kind>100 then(S,2)
 else match AK m.chan S.ends with
  |none=>(S,8)
  |some x=>if x.closed then(S,9) else({ S with ends:=BH m.chan (GO x m ok).1 S.ends },(GO x m ok).2)
noncomputable def okEx (m:MD):Bool:=@decide (m.want=false∧∃r,CL m.name m.data r 0∧(r.kind=9∨r.kind=10)) (Classical.propDecidable _)
def WI (S:WS) (n:Int):Bool:=match AK n S.ends with
 |some x=>!x.closed
 |none=>false
end Go.Proofs.YtkgikodiecmakaaGreatDoor
namespace Go.Proofs.YtkgikodiecmakaaGreatDoor
open Go.RowKit Go.MapKept
theorem GS:KeyT Tryz.prog 64 3 41 (.nilFunc) (kI .i64):=⟨(by kernel_rfl),fun w=>by kernel_rfl,⟨.int .i64,by kernel_rfl,fun a=>rfl⟩,kI_inj⟩
def mV (f p:Nat):Value:=.func (.func f) #[AO p] #[]
def GQ (p:Nat):List (Int×Value):=[(1,mV 26 p),(81,mV 27 p),(82,mV 27 p),(91,mV 28 p),(92,mV 29 p)]
theorem FH (p:Nat) (w:World):Calls Tryz.prog 20 #[AO p] w fun e w'=>∃r:Nat,e = .returned (.map (some r))∧Only [] w w'∧BM (kI .i64) w' r (GQ p)∧∀a,(some ⟨r,0,none⟩:Option Addr)=some a→w.heap.size≤a.block∧a.block<w'.heap.size:=by
 refine Hs.en Tryz.func20 [] [] [] [.c (.v (AO p))] (Mem.start0 w) ?_;refine Hs.e0 ?_;refine Hs.mkM (T:=64) (kI .i64) (by kernel_rfl) (by kernel_rfl) fun r=>?_;refine Hs.e0 ?_;refine Hs.putM (r:=r) (es:=[]) 0 GS 1 (mV 26 p) (by kernel_rfl) (by kernel_rfl) (by kernel_rfl) (by kernel_rfl) ?_;refine Hs.e0 ?_;refine Hs.putM (r:=r) (es:=[(1,mV 26 p)]) 0 GS 81 (mV 27 p) (by kernel_rfl) (by kernel_rfl) (by kernel_rfl) (by kernel_rfl) ?_;refine Hs.e0 ?_;refine Hs.putM (r:=r) (es:=[(1,mV 26 p),(81,mV 27 p)]) 0 GS 82 (mV 27 p) (by kernel_rfl) (by kernel_rfl) (by kernel_rfl) (by kernel_rfl) ?_;refine Hs.e0 ?_;refine Hs.putM (r:=r) (es:=[(1,mV 26 p),(81,mV 27 p),(82,mV 27 p)]) 0 GS 91 (mV 28 p) (by kernel_rfl) (by kernel_rfl) (by kernel_rfl) (by kernel_rfl) ?_;refine Hs.e0 ?_;refine Hs.putM (r:=r) (es:=[(1,mV 26 p),(81,mV 27 p),(82,mV 27 p),(91,mV 28 p)]) 0 GS 92 (mV 29 p) (by kernel_rfl) (by kernel_rfl) (by kernel_rfl) (by kernel_rfl) ?_;refine Hs.e0 ?_;exact Hs.rt (v:=.map (some r)) Tryz.func20 fun w' H=>⟨r,rfl,H.only,H.mapM 0 (es:=GQ p) (by kernel_rfl),fun a ha=>by
  injection ha with ha;subst ha;exact⟨(H.own 0 (HB.mp (kI .i64) r (GQ p)) r (by kernel_rfl) rfl rfl).resolve_left (by simp),(H.mapM 0 (ke:=kI .i64) (r:=r) (es:=GQ p) (by kernel_rfl)).lt⟩⟩
def ofL (p:Nat):List (Int×Value):=[(94,mV 30 p),(95,mV 30 p),(93,mV 31 p),(96,mV 32 p),(97,mV 33 p),(98,mV 34 p),(99,mV 35 p),(100,mV 35 p)]
theorem ofL_any (p:Nat) (w:World):Calls Tryz.prog 21 #[AO p] w fun e w'=>∃r:Nat,e = .returned (.map (some r))∧Only [] w w'∧BM (kI .i64) w' r (ofL p)∧∀a,(some ⟨r,0,none⟩:Option Addr)=some a→w.heap.size≤a.block∧a.block<w'.heap.size:=by
 refine Hs.en Tryz.func21 [] [] [] [.c (.v (AO p))] (Mem.start0 w) ?_;refine Hs.e0 ?_;refine Hs.mkM (T:=64) (kI .i64) (by kernel_rfl) (by kernel_rfl) fun r=>?_;refine Hs.e0 ?_;refine Hs.putM (r:=r) (es:=[]) 0 GS 94 (mV 30 p) (by kernel_rfl) (by kernel_rfl) (by kernel_rfl) (by kernel_rfl) ?_;refine Hs.e0 ?_;refine Hs.putM (r:=r) (es:=[(94,mV 30 p)]) 0 GS 95 (mV 30 p) (by kernel_rfl) (by kernel_rfl) (by kernel_rfl) (by kernel_rfl) ?_;refine Hs.e0 ?_;refine Hs.putM (r:=r) (es:=[(94,mV 30 p),(95,mV 30 p)]) 0 GS 93 (mV 31 p) (by kernel_rfl) (by kernel_rfl) (by kernel_rfl) (by kernel_rfl) ?_;refine Hs.e0 ?_;refine Hs.putM (r:=r) (es:=[(94,mV 30 p),(95,mV 30 p),(93,mV 31 p)]) 0 GS 96 (mV 32 p) (by kernel_rfl) (by kernel_rfl) (by kernel_rfl) (by kernel_rfl) ?_;refine Hs.e0 ?_;refine Hs.putM (r:=r) (es:=[(94,mV 30 p),(95,mV 30 p),(93,mV 31 p),(96,mV 32 p)]) 0 GS 97 (mV 33 p) (by kernel_rfl) (by kernel_rfl) (by kernel_rfl) (by kernel_rfl) ?_;refine Hs.e0 ?_;refine Hs.putM (r:=r) (es:=[(94,mV 30 p),(95,mV 30 p),(93,mV 31 p),(96,mV 32 p),(97,mV 33 p)]) 0 GS 98 (mV 34 p) (by kernel_rfl) (by kernel_rfl) (by kernel_rfl) (by kernel_rfl) ?_;refine Hs.e0 ?_;refine Hs.putM (r:=r) (es:=[(94,mV 30 p),(95,mV 30 p),(93,mV 31 p),(96,mV 32 p),(97,mV 33 p),(98,mV 34 p)]) 0 GS 99 (mV 35 p) (by kernel_rfl) (by kernel_rfl) (by kernel_rfl) (by kernel_rfl) ?_;refine Hs.e0 ?_;refine Hs.putM (r:=r) (es:=[(94,mV 30 p),(95,mV 30 p),(93,mV 31 p),(96,mV 32 p),(97,mV 33 p),(98,mV 34 p),(99,mV 35 p)]) 0 GS 100 (mV 35 p) (by kernel_rfl) (by kernel_rfl) (by kernel_rfl) (by kernel_rfl) ?_;refine Hs.e0 ?_;exact Hs.rt (v:=.map (some r)) Tryz.func21 fun w' H=>⟨r,rfl,H.only,H.mapM 0 (es:=ofL p) (by kernel_rfl),fun a ha=>by
  injection ha with ha;subst ha;exact⟨(H.own 0 (HB.mp (kI .i64) r (ofL p)) r (by kernel_rfl) rfl rfl).resolve_left (by simp),(H.mapM 0 (ke:=kI .i64) (r:=r) (es:=ofL p) (by kernel_rfl)).lt⟩⟩
end Go.Proofs.YtkgikodiecmakaaGreatDoor
namespace Go.Proofs.YtkgikodiecmakaaGreatDoor
open Go.RowKit Go.MapKept
theorem keyU {et:TypeId} {T:TypeId} {z:Value} (h1:Tryz.prog.underlying T=some (.map 33 et)) (h2: ∀w,(zeroValue et).run Tryz.prog w = .ok z w):KeyT Tryz.prog T 33 et z (kI .u32):=⟨h1,h2,⟨.int .u32,by kernel_rfl,fun a=>rfl⟩,kI_inj⟩
theorem JR:KeyT Tryz.prog 51 33 28 (.slice none 0 0) (kI .u32):=keyU (by kernel_rfl) (fun w=>by kernel_rfl)
theorem LW:KeyT Tryz.prog 52 33 57 (.pointer none) (kI .u32):=keyU (by kernel_rfl) (fun w=>by kernel_rfl)
theorem keyNu:KeyT Tryz.prog 53 33 33 (.int .u32 0) (kI .u32):=keyU (by kernel_rfl) (fun w=>by kernel_rfl)
theorem one_any (b:Bool) (w:World):Calls Tryz.prog 17 #[.bool b] w fun e w'=>e = .returned (.int .i64 (b01 b))∧Only [] w w':=by
 refine Hs.en Tryz.func17 [] [] [] [.c (.v (.bool b))] (Mem.start0 w) ?_;refine Hs.e0 ?_;refine Hs.cn b (fun h=>?_) (fun h=>?_)
 ·subst h;refine Hs.e0 ?_;exact Hs.rt (v:=.int .i64 1) Tryz.func17 fun w' H=>⟨rfl,H.only⟩
 ·subst h;refine Hs.e0 ?_;exact Hs.rt (v:=.int .i64 0) Tryz.func17 fun w' H=>⟨rfl,H.only⟩
def WM.by (M:WM) (n:Int):Option (Int×(Nat×EN)):=match AK n M.nums with
 |none=>none
 |some k=>(AK k M.ends).map fun x=>(k,x)
def optV (x:Option Nat):Value:=.pointer (x.map fun b=>⟨b,0,none⟩)
theorem by_any (M:WM) (p:Nat) (n:Int) (w:World) (hb:Blk w p 55 M.cells) (hn:BM (kI .u32) w M.nb (AQ LV M.nums)) (he:BM (kI .u32) w M.eb (AQ (fun x=>AO x.1) M.ends)):Calls Tryz.prog 18 #[AO p,.int .u32 n] w fun e w'=>e = .returned (optV ((M.by n).map fun x=>x.2.1))∧Only [] w w':=by
 obtain⟨ob,eb,nb,opens,glob,ends,nums,dead⟩:=M;refine Hs.en Tryz.func18 [] [p] [.b false 55 [.v (.map (some ob)),.v (.int .i64 glob),.v (.map (some eb)),.v (.map (some nb)),.v (.bool dead)]] [.c (.p 0 0),.c (.v (.int .u32 n))] (Mem.rdOne w p hb) ?_;refine Hs.e0 ?_;cases e1:AK n nums with
 |none=>
  have hl:BO n (AQ LV nums)=none:=by rw[EV,e1];rfl
  refine Hs.getM keyNu n true (.tuple #[.int .u32 0,.bool false]) (by rw[hl];rfl) (by kernel_rfl) (fun w' H=>hn.only H.only (by simp)) ?_;refine Hs.e0 ?_;refine Hs.cT ?_;refine Hs.e0 ?_;have e:(WM.by ⟨ob,eb,nb,opens,glob,ends,nums,dead⟩ n).map (fun x=>x.2.1)=none:=by unfold WM.by;rw[e1];rfl
  exact Hs.rt (v:=.pointer none) Tryz.func18 fun w' H=>⟨by rw[e];rfl,H.only⟩
 |some k=>
  have hl:BO n (AQ LV nums)=some (.int .u32 k):=by rw[EV,e1];rfl
  refine Hs.getM keyNu n true (.tuple #[.int .u32 k,.bool true]) (by rw[hl];rfl) (by kernel_rfl) (fun w' H=>hn.only H.only (by simp)) ?_;refine Hs.e0 ?_;refine Hs.cF ?_;refine Hs.e0 ?_;cases e2:AK k ends with
  |none=>
   have hl2:BO k (AQ (fun x=>AO x.1) ends)=none:=by rw[EV,e2];rfl
   refine Hs.getM LW k false (.pointer none) (by rw[hl2];rfl) (by kernel_rfl) (fun w' H=>he.only H.only (by simp)) ?_;refine Hs.e0 ?_;have e:(WM.by ⟨ob,eb,nb,opens,glob,ends,nums,dead⟩ n).map (fun x=>x.2.1)=none:=by unfold WM.by;rw[e1];dsimp only;rw[e2];rfl
   exact Hs.rt (v:=.pointer none) Tryz.func18 fun w' H=>⟨by rw[e];rfl,H.only⟩
  |some x=>
   have hl2:BO k (AQ (fun x=>AO x.1) ends)=some (AO x.1):=by rw[EV,e2];rfl
   refine Hs.getM LW k false (AO x.1) (by rw[hl2];rfl) (by kernel_rfl) (fun w' H=>he.only H.only (by simp)) ?_;refine Hs.e0 ?_;have e:(WM.by ⟨ob,eb,nb,opens,glob,ends,nums,dead⟩ n).map (fun x=>x.2.1)=some x.1:=by unfold WM.by;rw[e1];dsimp only;rw[e2];rfl
   exact Hs.rt (v:=AO x.1) Tryz.func18 fun w' H=>⟨by rw[e];rfl,H.only⟩
end Go.Proofs.YtkgikodiecmakaaGreatDoor
namespace Go.Proofs.YtkgikodiecmakaaGreatDoor
open Go.RowKit Go.MapKept
def mdS (m:MD):List SC:=[.v (.int .i64 m.kind),.v (.int .u32 m.chan),.v (.int .u32 m.sender),.v (.int .u32 m.window),.v (.int .u32 m.packet),.v (.int .u32 m.code),.v (.string m.name),.v (.string m.lang),.v (.bool m.want),.v (.slice m.dA m.data.length m.dc)]
theorem GH:ElemT Tryz.prog 28 36 10 (Tryz.prog.bytesOf 36):=IN (z:=.agg #[.int .i64 0,.int .u32 0,.int .u32 0,.int .u32 0,.int .u32 0,.int .u32 0,.string ⟨#[]⟩,.string ⟨#[]⟩,.bool false,.slice none 0 0]) (by kernel_rfl) (by kernel_rfl) (by decide) (by decide)
theorem FB (x:Int×Int):(cOp x).length=10:=rfl
theorem cOp_one (x:Int×Int): ∀u∈cOp x,u.oneCell'=true:=by
 intro u hu;simp only[cOp,List.mem_cons,List.not_mem_nil,or_false] at hu;rcases hu with h|h|h|h|h|h|h|h|h|h<;>subst h<;>rfl
section
variable {w w' : World} {p : Nat} {M : WM} {L : List Nat} {s : Int}
theorem OS.lt {o:OS} (h:o.at w): ∀y∈o.fp,y<w.heap.size:=fun y hy=>by
 unfold OS.fp bkO at hy;rw[Option.mem_toList,Option.map_eq_some_iff] at hy;obtain⟨a,ha,rfl⟩:=hy;exact CP.lt h a ha
theorem WAt.lt (h:WAt w p M): ∀y∈M.fp p,y<w.heap.size:=fun y hy=>by
 simp only[WM.fp,List.mem_append,List.mem_cons,List.not_mem_nil,or_false] at hy;rcases hy with(rfl|rfl|rfl|rfl)|hy|hy;·exact Blk.lt h.blk
 ·exact h.mo.lt
 ·exact h.me.lt
 ·exact h.mn.lt
 ·obtain⟨x,hx,hy⟩:=List.mem_flatMap.1 hy;exact OS.lt (h.os x hx) y hy
 ·obtain⟨x,hx,hy⟩:=List.mem_flatMap.1 hy;simp only[eFp,List.mem_singleton] at hy;subst hy;exact Blk.lt (h.es x hx)
structure ApartW (M : WM) (p : Nat) : Prop where
  four : [p, M.ob, M.eb, M.nb].Nodup
  o : (fpA OS.fp M.opens).Nodup
  e : (fpA eFp M.ends).Nodup
  fo : ∀ y ∈ fpA OS.fp M.opens, y ∉ [p, M.ob, M.eb, M.nb]
  fe : ∀ y ∈ fpA eFp M.ends, y ∉ [p, M.ob, M.eb, M.nb]
  oe : ∀ y ∈ fpA OS.fp M.opens, y ∉ fpA eFp M.ends
theorem GE (h:(M.fp p).Nodup):ApartW M p:=by
 unfold WM.fp at h;rw[List.nodup_append] at h;obtain⟨h1,h2,h3⟩:=h;rw[List.nodup_append] at h2;exact⟨h1,h2.1,h2.2.1,fun y hy hm=>h3 y hm y (List.mem_append.2 (.inl hy)) rfl,fun y hy hm=>h3 y hm y (List.mem_append.2 (.inr hy)) rfl,fun y hy hm=>h2.2.2 y hy y hm rfl⟩
theorem ApartW.nd (h:ApartW M p):(M.fp p).Nodup:=by
 unfold WM.fp;rw[List.nodup_append];refine⟨h.four,?_,fun a ha b hb e=>?_⟩
 ·rw[List.nodup_append];exact⟨h.o,h.e,fun a ha b hb e=>h.oe a ha (by rw[e];exact hb)⟩
 ·subst e;rcases List.mem_append.1 hb with h1|h1;·exact h.fo a h1 ha
  ·exact h.fe a h1 ha
theorem OT (A:Option Addr):(bkO A).Nodup:=by cases A<;>simp[bkO]
theorem OY {α:Type} {f:α→List Nat} {k:Int} {o:α} {y:Nat}: ∀{l:List (Int×α)},(fpA f l).Nodup→AK k l=some o→∀x∈l,x.1≠k→y∈f x.2→y∉f o
 |[],_,h,_,_,_,_=>by cases h
 |q::l,hn,h,x,hx,hk,hy=>by
  have e:fpA f (q::l)=f q.2++fpA f l:=by simp[fpA]
  rw[e,List.nodup_append] at hn;unfold AK at h;split at h
  ·rename_i e1;injection h with h;subst h;rcases List.mem_cons.1 hx with rfl|hx;·exact absurd e1 hk
   ·exact fun hm=>hn.2.2 y hm y (List.mem_flatMap.2 ⟨x,hx,hy⟩) rfl
  ·rcases List.mem_cons.1 hx with rfl|hx;·exact fun hm=>hn.2.2 y hy y (BC h hm) rfl
   ·exact OY hn.2.1 h x hx hk hy
theorem ApartW.setO (h:ApartW M p) (s:Int) (o:OS) (hf: ∀y∈o.fp,(∃o',AK s M.opens=some o'∧y∈o'.fp)∨y∉M.fp p):ApartW { M with opens:=BH s o M.opens } p:=by
 have hin: ∀y∈fpA OS.fp (BH s o M.opens),y∈fpA OS.fp M.opens∨y∉M.fp p:=fun y hy=>by
  rcases KJ hy with h1|h1
  ·rcases hf y h1 with⟨o',h2,h3⟩|h2;·exact .inl (BC h2 h3)
   ·exact .inr h2
  ·exact .inl h1
 refine⟨h.four,PA h.o (OT _) fun y hy=>?_,h.e,fun y hy hm=>?_,h.fe,fun y hy hm=>?_⟩
 ·rcases hf y hy with h1|h1;·exact .inr h1
  ·exact .inl fun hm=>h1 (by simp only[WM.fp,List.mem_append];exact .inr (.inl hm))
 ·rcases hin y hy with h1|h1;·exact h.fo y h1 hm
  ·exact h1 (by simp only[WM.fp,List.mem_append];exact .inl hm)
 ·rcases hin y hy with h1|h1;·exact h.oe y h1 hm
  ·exact h1 (by simp only[WM.fp,List.mem_append];exact .inr (.inr hm))
theorem ApartW.setE (h:ApartW M p) (k:Int) (x:Nat×EN) (hf:(∃x',AK k M.ends=some x'∧x.1=x'.1)∨x.1∉M.fp p):ApartW { M with ends:=BH k x M.ends } p:=by
 have hin: ∀y∈fpA eFp (BH k x M.ends),y∈fpA eFp M.ends∨y∉M.fp p:=fun y hy=>by
  rcases KJ hy with h1|h1
  ·simp only[eFp,List.mem_singleton] at h1;subst h1;rcases hf with⟨x',h2,h3⟩|h2;·exact .inl (BC h2 (by rw[h3];simp[eFp]))
   ·exact .inr h2
  ·exact .inl h1
 refine⟨h.four,h.o,PA h.e (by simp[eFp]) fun y hy=>?_,h.fo,fun y hy hm=>?_,fun y hy hm=>?_⟩
 ·simp only[eFp,List.mem_singleton] at hy;subst hy;rcases hf with⟨x',h2,h3⟩|h2;·exact .inr ⟨x',h2,by rw[h3];simp[eFp]⟩
  ·exact .inl fun hm=>h2 (by simp only[WM.fp,List.mem_append];exact .inr (.inr hm))
 ·rcases hin y hy with h1|h1;·exact h.fe y h1 hm
  ·exact h1 (by simp only[WM.fp,List.mem_append];exact .inl hm)
 ·rcases hin y hm with h1|h1;·exact h.oe y hy h1
  ·exact h1 (by simp only[WM.fp,List.mem_append];exact .inr (.inl hy))
theorem WAt.osOnly (h:WAt w p M) (O:Only L w w') (hL: ∀y∈L,y∈[p,M.ob,M.eb,M.nb]∨(∃o,AK s M.opens=some o∧y∈o.fp)∨y∈fpA eFp M.ends): ∀x∈M.opens,x.1≠s→x.2.at w':=fun x hx hk=>by
 have A:=GE h.nd;refine OS.at_st w w' O.size (fun y hy=>O.block y (OS.lt (h.os x hx) y hy) fun hm=>?_) (h.os x hx);have hy2:y∈fpA OS.fp M.opens:=List.mem_flatMap.2 ⟨x,hx,hy⟩;rcases hL y hm with h1|⟨o,h1,h2⟩|h1;·exact A.fo y hy2 h1
 ·exact OY A.o h1 x hx hk hy h2
 ·exact A.oe y hy2 h1
theorem WAt.esOnly (h:WAt w p M) (O:Only L w w') (hL: ∀y∈L,y∈[p,M.ob,M.eb,M.nb]∨y∈fpA OS.fp M.opens∨∃x,AK s M.ends=some x∧y=x.1): ∀x∈M.ends,x.1≠s→Blk w' x.2.1 49 x.2.2.cells:=fun x hx hk=>by
 have A:=GE h.nd;refine Blk.only (L:=L) (h.es x hx) O fun hm=>?_;have hy2:x.2.1∈fpA eFp M.ends:=List.mem_flatMap.2 ⟨x,hx,by simp[eFp]⟩;rcases hL _ hm with h1|h1|⟨o,h1,h2⟩;·exact A.fe _ hy2 h1
 ·exact A.oe _ h1 hy2
 ·exact OY (y:=x.2.1) A.e h1 x hx hk (by simp[eFp]) (by rw[h2];simp[eFp])
end
def CV (M:WM) (p:Nat) (S:WS) (v:Value) (w:World):Ending→World→Prop:=fun e w'=>∃M':WM,e = .returned v∧Only (M.fp p) w w'∧WAt w' p M'∧M'.abs=S∧∀y∈M'.fp p,y<w'.heap.size∧(y∈M.fp p∨w.heap.size≤y)
def FewW (M:WM):Prop:=∀x∈M.opens,x.2.l.length≤1000000
theorem FewW.at {M:WM} (h:FewW M) (s:Int):((AK s M.opens).getD ⟨none,0,[]⟩).l.length≤1000000:=by
 cases e:AK s M.opens with
 |none=>simp
 |some o=>exact h _ (BN e)
theorem by_ms {n:Nat} (h:n≤1000000):(n+1)*Tryz.prog.bytesOf 36≤140737488355328:=by
 have e:Tryz.prog.bytesOf 36=96:=by kernel_rfl
 rw[e];omega
theorem WAt.put {w w':World} {p:Nat} {M M':WM} {L:List Nat} (h:WAt w p M) (O:Only L w w') (s k:Int) (e1:M'.ob=M.ob) (e2:M'.eb=M.eb) (e3:M'.nb=M.nb)
  (blk:Blk w' p 55 M'.cells) (mo:BM (kI .u32) w' M.ob (AQ OS.val M'.opens)) (me:BM (kI .u32) w' M.eb (AQ (fun x=>AO x.1) M'.ends)) (mn:BM (kI .u32) w' M.nb (AQ LV M'.nums)) (kn:GD M'.nums)
  (ho:(M'.opens=M.opens∧∀o,AK s M.opens=some o→∀y∈o.fp,y∉L)∨∃o,M'.opens=BH s o M.opens∧o.at w'∧∀y∈o.fp,(∃o',AK s M.opens=some o'∧y∈o'.fp)∨w.heap.size≤y)
  (he:(M'.ends=M.ends∧∀x,AK k M.ends=some x→x.1∉L)∨(∃x,M'.ends=BH k x M.ends∧Blk w' x.1 49 x.2.cells∧∃x',AK k M.ends=some x'∧x.1=x'.1)∨∃x,M'.ends=BH k x M.ends∧Blk w' x.1 49 x.2.cells∧w.heap.size≤x.1∧∀y∈fpA OS.fp M'.opens,y≠x.1)
  (hL: ∀y∈L,y∈[p,M.ob,M.eb,M.nb]∨(∃o,AK s M.opens=some o∧y∈o.fp)∨∃x,AK k M.ends=some x∧y=x.1) (v:Value) (S:WS) (hS:M'.abs=S):CV M p S v w (.returned v) w':=by
 have A:=GE h.nd;have hlt:=h.lt;have hos:=h.osOnly O (s:=s) (fun y hy=>by
  rcases hL y hy with h1|h1|⟨x,h1,h2⟩;·exact .inl h1
  ·exact .inr (.inl h1)
  ·exact .inr (.inr (BC h1 (by rw[h2];simp[eFp]))))
 have hes:=h.esOnly O (s:=k) (fun y hy=>by
  rcases hL y hy with h1|⟨o,h1,h2⟩|h1;·exact .inl h1
  ·exact .inr (.inl (BC h1 h2))
  ·exact .inr (.inr h1))
 have hLf: ∀y∈L,y∈M.fp p:=fun y hy=>by
  simp only[WM.fp,List.mem_append];rcases hL y hy with h1|⟨o,h1,h2⟩|⟨x,h1,h2⟩;·exact .inl h1
  ·exact .inr (.inl (BC h1 h2))
  ·exact .inr (.inr (BC h1 (by rw[h2];simp[eFp])))
 obtain⟨ob,eb,nb,opens,glob,ends,nums,dead⟩:=M;obtain⟨ob',eb',nb',opens',glob',ends',nums',dead'⟩:=M';dsimp only at *;subst e1;subst e2;subst e3;-- the opens
 obtain⟨hos',ko',A1,hfo⟩:(∀x∈opens',x.2.at w')∧GD opens'∧ApartW ⟨ob',eb',nb',opens',glob',ends,nums',dead'⟩ p∧∀y∈fpA OS.fp opens',y<w'.heap.size∧(y∈fpA OS.fp opens∨w.heap.size≤y):=by
  rcases ho with⟨rfl,hno⟩|⟨o,rfl,hoa,hof⟩
  ·refine⟨fun x hx=>?_,h.ko,⟨A.four,A.o,A.e,A.fo,A.fe,A.oe⟩,fun y hy=>⟨Nat.lt_of_lt_of_le (hlt y (by simp only[WM.fp,List.mem_append];exact .inr (.inl hy))) O.size,.inl hy⟩⟩;by_cases hk:x.1=s
   ·have hx2:=h.os x hx;refine OS.at_st w w' O.size (fun y hy=>O.block y (OS.lt hx2 y hy) fun hm=>?_) hx2;have hy2:y∈fpA OS.fp opens':=List.mem_flatMap.2 ⟨x,hx,hy⟩;rcases hL y hm with h1|⟨o,h1,h2⟩|⟨x',h1,h2⟩;·exact A.fo y hy2 h1
    ·exact hno o h1 y h2 hm
    ·exact A.oe y hy2 (BC h1 (by rw[h2];simp[eFp]))
   ·exact hos x hx hk
  ·have hin: ∀y∈fpA OS.fp (BH s o opens),y<w'.heap.size∧(y∈fpA OS.fp opens∨w.heap.size≤y):=fun y hy=>by
    rcases KJ hy with h1|h1
    ·refine⟨OS.lt hoa y h1,?_⟩;rcases hof y h1 with⟨o',h2,h3⟩|h2;·exact .inl (BC h2 h3)
     ·exact .inr h2
    ·exact⟨Nat.lt_of_lt_of_le (hlt y (by simp only[WM.fp,List.mem_append];exact .inr (.inl h1))) O.size,.inl h1⟩
   refine⟨fun x hx=>?_,h.ko.set,?_,hin⟩
   ·rcases h.ko.other hx with rfl|⟨h1,h2⟩;·exact hoa
    ·exact hos x h1 h2
   ·have:=A.setO s o (fun y hy=>by
     rcases hof y hy with h1|h1;·exact .inl h1
     ·exact .inr fun hm=>by have:=hlt y hm;omega)
    exact⟨this.four,this.o,this.e,this.fo,this.fe,this.oe⟩
 have hA2:ApartW ⟨ob',eb',nb',opens',glob',ends',nums',dead'⟩ p∧(∀x∈ends',Blk w' x.2.1 49 x.2.2.cells)∧GD ends'∧∀y∈fpA eFp ends',y<w'.heap.size∧(y∈fpA eFp ends∨w.heap.size≤y):=by
  rcases he with⟨rfl,hno⟩|⟨x,rfl,hxb,x',hx1,hx2⟩|⟨x,rfl,hxb,hxn,hxo⟩
  ·refine⟨A1,fun x hx=>?_,h.ke,fun y hy=>⟨Nat.lt_of_lt_of_le (hlt y (by simp only[WM.fp,List.mem_append];exact .inr (.inr hy))) O.size,.inl hy⟩⟩;by_cases hk:x.1=k
   ·refine Blk.only (L:=L) (h.es x hx) O fun hm=>?_;have hy2:x.2.1∈fpA eFp ends':=List.mem_flatMap.2 ⟨x,hx,by simp[eFp]⟩;rcases hL _ hm with h1|⟨o,h1,h2⟩|⟨x',h1,h2⟩;·exact A.fe _ hy2 h1
    ·exact A.oe _ (BC h1 h2) hy2
    ·exact hno x' h1 (by rw[←h2];exact hm)
   ·exact hes x hx hk
  ·refine⟨?_,fun z hz=>?_,h.ke.set,fun y hy=>?_⟩
   ·have:=A1.setE k x (.inl ⟨x',hx1,hx2⟩);exact⟨this.four,this.o,this.e,this.fo,this.fe,this.oe⟩
   ·rcases h.ke.other hz with rfl|⟨h1,h2⟩;·exact hxb
    ·exact hes z h1 h2
   ·rcases KJ hy with h1|h1
    ·simp only[eFp,List.mem_singleton] at h1;subst h1;exact⟨Blk.lt hxb,.inl (BC hx1 (by rw[hx2];simp[eFp]))⟩
    ·exact⟨Nat.lt_of_lt_of_le (hlt y (by simp only[WM.fp,List.mem_append];exact .inr (.inr h1))) O.size,.inl h1⟩
  ·refine⟨?_,fun z hz=>?_,h.ke.set,fun y hy=>?_⟩
   ·have:=A1.setE k x (.inr fun hm=>by
     simp only[WM.fp,List.mem_append] at hm;rcases hm with h1|h1|h1;·have:=hlt x.1 (by simp only[WM.fp,List.mem_append];exact .inl h1);omega
     ·exact hxo _ h1 rfl
     ·have:=hlt x.1 (by simp only[WM.fp,List.mem_append];exact .inr (.inr h1));omega)
    exact⟨this.four,this.o,this.e,this.fo,this.fe,this.oe⟩
   ·rcases h.ke.other hz with rfl|⟨h1,h2⟩;·exact hxb
    ·exact hes z h1 h2
   ·rcases KJ hy with h1|h1
    ·simp only[eFp,List.mem_singleton] at h1;subst h1;exact⟨Blk.lt hxb,.inr hxn⟩
    ·exact⟨Nat.lt_of_lt_of_le (hlt y (by simp only[WM.fp,List.mem_append];exact .inr (.inr h1))) O.size,.inl h1⟩
 obtain⟨A2,hes',ke',hfe⟩:=hA2;refine⟨⟨ob',eb',nb',opens',glob',ends',nums',dead'⟩,rfl,O.mono hLf,⟨blk,mo,me,mn,hos',hes',A2.nd,ko',ke',kn⟩,hS,fun y hy=>?_⟩;simp only[WM.fp,List.mem_append] at hy⊢;rcases hy with h1|h1|h1;·exact⟨Nat.lt_of_lt_of_le (hlt y (by simp only[WM.fp,List.mem_append];exact .inl h1)) O.size,.inl (.inl h1)⟩
 ·exact⟨(hfo y h1).1,(hfo y h1).2.imp (fun h=>.inr (.inl h)) id⟩
 ·exact⟨(hfe y h1).1,(hfe y h1).2.imp (fun h=>.inr (.inr h)) id⟩
theorem says_open (M:WM) (p:Nat) (m:MD) (w:World) (h:WAt w p M) (hf:FewW M) (hk:m.kind=90):Calls Tryz.prog 8 #[AO p,m.val] w (CV M p (CT M.abs m) (.tuple #[]) w):=by
 obtain⟨o,ho⟩: ∃o,(AK m.sender M.opens).getD ⟨none,0,[]⟩=o:=⟨_,rfl⟩;have hfo:=hf.at m.sender;rw[ho] at hfo;have hoo:o.at w:=by
  cases e:AK m.sender M.opens with
  |none=>rw[e] at ho;subst ho;exact CP.none_
  |some o'=>rw[e] at ho;subst ho;exact h.os _ (BN e)
 have hofp: ∀y∈o.fp,∃o',AK m.sender M.opens=some o'∧y∈o'.fp:=fun y hy=>by
  cases e:AK m.sender M.opens with
  |none=>rw[e] at ho;subst ho;simp[OS.fp,bkO] at hy
  |some o'=>rw[e] at ho;subst ho;exact⟨_,rfl,hy⟩
 have hlook:(BO m.sender (AQ OS.val M.opens)).getD (.slice none 0 0)=o.val:=by
  rw[EV];cases e:AK m.sender M.opens with
  |none=>rw[e] at ho;subst ho;rfl
  |some o'=>rw[e] at ho;subst ho;rfl
 have hA:=GE h.nd;have hmo:=h.mo;have hb:=h.blk;obtain⟨ob,eb,nb,opens,glob,ends,nums,dead⟩:=M;obtain⟨oA,oc,ol⟩:=o;obtain⟨k,chan,sender,window,packet,code,name,lang,want,dA,dc,data⟩:=m;dsimp only at *;subst hk;have key:sender=sender:=rfl;have hnd:(bks [p,ob,0] [.b true 55 [.v (.map (some ob)),.v (.int .i64 glob),.v (.map (some eb)),.v (.map (some nb)),.v (.bool dead)],HB.mp (kI .u32) ob (AQ OS.val opens),HB.oo cOp 36 10 oA oc ol]).Nodup:=by
  have h4:=hA.four;show(p::ob::((bkO oA)++[])).Nodup;rw[List.append_nil];simp only[List.nodup_cons,List.mem_cons,List.not_mem_nil,or_false,not_or] at h4⊢;refine⟨⟨h4.1.1,fun hm=>?_⟩,fun hm=>?_,OT _⟩
  ·obtain⟨o',h1,h2⟩:=hofp p hm;exact hA.fo p (BC h1 h2) (by simp)
  ·obtain⟨o',h1,h2⟩:=hofp ob hm;exact hA.fo ob (BC h1 h2) (by simp)
 refine Hs.en Tryz.func8 _ [p,ob,0] [.b true 55 [.v (.map (some ob)),.v (.int .i64 glob),.v (.map (some eb)),.v (.map (some nb)),.v (.bool dead)],HB.mp (kI .u32) ob (AQ OS.val opens),HB.oo cOp 36 10 oA oc ol] [.c (.p 0 0),.g (mdS ⟨90,chan,sender,window,packet,code,name,lang,want,dA,dc,data⟩)] (Mem.startN rfl hnd ⟨hb,⟨hmo,fun a ha=>by injection ha with ha;subst ha;exact hmo.lt⟩,⟨hoo,hoo.lt⟩,trivial⟩) ?_;refine Hs.e1 fun b0=>?_;refine Hs.cF ?_;refine Hs.e0 ?_;refine Hs.cT ?_;refine Hs.any [0,1,3,1020] (by kernel_rfl) ?_;refine Hs.e0 ?_;refine Hs.takeGet (rd:=[0,1,3]) 12 1 JR (r:=ob) (es:=AQ OS.val opens) sender false (OS.val ⟨oA,oc,ol⟩) hlook (by kernel_rfl) (by kernel_rfl) (by kernel_rfl) ?_;refine Hs.e1 fun q1=>?_;refine Hs.appO (c:=1) (ty:=28) (b:=q1) (o:=0) (A:=oA) (cap:=oc) 2 GH ol [(window,packet)] ol.length 1 rfl rfl cOp_one FB (by kernel_rfl) (by kernel_rfl) (by kernel_rfl) (by decide) (fun w' H=>H.rdB (gs:=[(window,packet)]) 4 (wr:=true) (T:=36) (cs:=(cOp (window,packet)).map SC.v) (by kernel_rfl) rfl) (by unfold maxLen;omega) (by_ms hfo) fun A' c'=>?_;refine Hs.e0 ?_;refine Hs.setM 1 JR (r:=ob) (es:=AQ OS.val opens) sender (OS.val ⟨A',c',ol++[(window,packet)]⟩) (by rw[show OS.val ⟨A',c',ol++[(window,packet)]⟩ = .slice A' (ol.length+1) c' by simp[OS.val]];kernel_rfl) (by kernel_rfl) (by kernel_rfl) ?_;refine Hs.e0 ?_;refine Hs.rt (v:=.tuple #[]) Tryz.func8 fun w' H=>?_;have hB:Blk w' p 55 _:=H.at 0 (wr:=true) (T:=55) (cs:=[.v (.map (some ob)),.v (.int .i64 glob),.v (.map (some eb)),.v (.map (some nb)),.v (.bool dead)]) (by kernel_rfl);have hM:=H.mapM 1 (r:=ob) (ke:=kI .u32) (es:=setE sender (OS.val ⟨A',c',ol++[(window,packet)]⟩) (AQ OS.val opens)) (by kernel_rfl);have hO:CP cOp 36 10 w' A' c' (ol++[(window,packet)]):=H.atQ 2 (wr:=true) (A:=A') (Q:=fun w=>CP cOp 36 10 w A' c' (ol++[(window,packet)])) (st:=CP.stq) (by kernel_rfl);have hfr:=(H.sub [0,1,2] (by decide) (hp':=[.b true 55 [.v (.map (some ob)),.v (.int .i64 glob),.v (.map (some eb)),.v (.map (some nb)),.v (.bool dead)],HB.mp (kI .u32) ob (setE sender (OS.val ⟨A',c',ol++[(window,packet)]⟩) (AQ OS.val opens)),HB.oo cOp 36 10 A' c' (ol++[(window,packet)])]) (by kernel_rfl)).bks rfl;obtain⟨hnd2,hfr⟩:=hfr;have hnew: ∀y∈bkO A',(∃o',AK sender opens=some o'∧y∈o'.fp)∨w.heap.size≤y:=fun y hy=>by
  have hnd3:(p::ob::(bkO A'++[])).Nodup:=hnd2;rw[List.append_nil] at hnd3;simp only[List.nodup_cons,List.mem_cons,not_or] at hnd3;have h1:=(hfr y (show y∈p::ob::(bkO A'++[]) by simp[hy])).1;rcases h1 with h1|h1
  ·have h2:y∈p::ob::(bkO oA++[]):=h1;rw[List.append_nil] at h2;simp only[List.mem_cons] at h2;rcases h2 with rfl|rfl|h2;·exact absurd hy hnd3.1.2
   ·exact absurd hy hnd3.2.1
   ·exact .inl (hofp y h2)
  ·exact .inr h1
 have hL: ∀y∈bks [p,ob,0] [.b true 55 [.v (.map (some ob)),.v (.int .i64 glob),.v (.map (some eb)),.v (.map (some nb)),.v (.bool dead)],HB.mp (kI .u32) ob (AQ OS.val opens),HB.oo cOp 36 10 oA oc ol],y=p∨y=ob∨∃o',AK sender opens=some o'∧y∈o'.fp:=fun y hy=>by
  have h2:y∈p::ob::(bkO oA++[]):=hy;rw[List.append_nil] at h2;simp only[List.mem_cons] at h2;exact h2.imp id (Or.imp id (hofp y))
 refine WAt.put (M':=⟨ob,eb,nb,BH sender ⟨A',c',ol++[(window,packet)]⟩ opens,glob,ends,nums,dead⟩) h H.only sender sender rfl rfl rfl hB (by rw[←PR];exact hM) (h.me.only H.only fun hm=>?_) (h.mn.only H.only fun hm=>?_) h.kn (.inr ⟨_,rfl,hO,hnew⟩) (.inl ⟨rfl,fun x hx hm=>?_⟩) (fun y hy=>?_) _ _ ?_
 ·rcases hL _ hm with h1|h1|⟨o',h1,h2⟩;·exact absurd h1 (by have:=hA.four;simp at this;intro e;exact this.1.2.1 e.symm)
  ·exact absurd h1 (by have:=hA.four;simp at this;intro e;exact this.2.1.1 e.symm)
  ·exact hA.fo _ (BC h1 h2) (by simp)
 ·rcases hL _ hm with h1|h1|⟨o',h1,h2⟩;·exact absurd h1 (by have:=hA.four;simp at this;intro e;exact this.1.2.2 e.symm)
  ·exact absurd h1 (by have:=hA.four;simp at this;intro e;exact this.2.1.2 e.symm)
  ·exact hA.fo _ (BC h1 h2) (by simp)
 ·have hx2:x.1∈fpA eFp ends:=BC hx (by simp[eFp]);rcases hL _ hm with h1|h1|⟨o',h1,h2⟩;·exact hA.fe _ hx2 (by simp[h1])
  ·exact hA.fe _ hx2 (by simp[h1])
  ·exact hA.oe _ (BC h1 h2) hx2
 ·rcases hL _ hy with h1|h1|h1;·exact .inl (by simp[h1])
  ·exact .inl (by simp[h1])
  ·exact .inr (.inl h1)
 ·unfold CT WM.abs;rw[if_pos rfl];dsimp only;rw[EF,←JY];have e:((AK sender opens).map OS.l).getD []=ol:=by
   have this:OS.l ((AK sender opens).getD ⟨none,0,[]⟩)=ol:=congrArg OS.l ho;rw[←this];cases AK sender opens<;>rfl
  rw[e]
end Go.Proofs.YtkgikodiecmakaaGreatDoor
