/- TracePlays: lemmas, from 'The document's answer for layer 1: a text cut at its commas' on; what each asks for stands in it. -/
import Derived.Test.YtkgikodiecmakaaGreatDoorTpH
import Derived.Test.YtkgikodiecmakaaGreatDoorTpI
import Derived.Test.YtkgikodiecmakaaGreatDoorTpN
import Derived.Laws.Concat
set_option linter.all false
set_option maxRecDepth 100000
set_option maxHeartbeats 64000000
namespace Go.Proofs.YtkgikodiecmakaaGreatDoor
open Go.RowKit
theorem cutL_snoc (x:List UInt8) (c:UInt8):GB (x++[c])=if c=44 then GB x++[[]] else(GB x).dropLast++[((GB x).getLast?.getD [])++[c]]:=by
 induction x with
 |nil=>
  show GB [c]=_;unfold GB;split<;>simp[GB]
 |cons d x ih=>
  obtain⟨h,t,e⟩:=NH x;rw[e] at ih;rw[List.cons_append];conv=>lhs;unfold GB
  conv=>rhs;unfold GB
  rw[ih,e];by_cases hd:d=44
  ·simp only[hd,if_true];split;·rfl
   ·simp
  ·simp only[hd,if_false];by_cases hc:c=44
   ·simp[hc]
   ·simp only[hc,if_false];cases t with
    |nil=>simp
    |cons t0 ts=>simp[List.dropLast]
theorem RI (s:List UInt8): ∀y∈GB s,y.length≤s.length:=by
 induction s with
 |nil=>intro y hy;simp[GB] at hy;subst hy;simp
 |cons c s ih=>
  obtain⟨h,t,e⟩:=NH s;rw[e] at ih;intro y hy;unfold GB at hy;rw[e] at hy;split at hy
  ·rcases List.mem_cons.1 hy with rfl|hy;·simp
   ·have:=ih y hy;simp;omega
  ·rcases List.mem_cons.1 hy with rfl|hy;·have:=ih h (by simp);simp;omega
   ·have:=ih y (by simp at hy⊢;exact .inr hy);simp;omega
theorem cE (s:List UInt8):(GB s).length≤s.length+1:=by
 induction s with
 |nil=>simp[GB]
 |cons c s ih=>
  obtain⟨h,t,e⟩:=NH s;unfold GB;rw[e] at ih⊢;split<;>simp at ih⊢<;> omega
def NC (l:List Int):List UInt8:=(strOfNums l).data.toList
theorem bsOf_snoc (l:List Int) (x:Int):NC (l++[x])=NC l++[UInt8.ofNat x.toNat]:=by
 unfold NC;rw[EH,EH,List.map_append];rfl
theorem ND (l:List Int):(NC l).length=l.length:=by
 unfold NC;rw[EH,List.length_map]
def PS (l:List Int):Int×List ByteArray:=if l=[] then(0,[]) else if CI (CM (strOfNums l))=0 then(0,CM (strOfNums l)) else(CI (CM (strOfNums l)),[])
def SplitPost (w:World) (r:Int×List ByteArray):Ending→World→Prop:=fun e w'=>Only [] w w'∧∃v,e = .returned (.tuple #[v,.int .i64 r.1])∧GP w' w.heap.size v r.2
theorem GP.wrote {w:World} {base g n cap:Nat} {l:List ByteArray} (h:GP w base (.slice (some ⟨g,0,none⟩) n cap) l) (i:Nat) (hi:i<l.length) (x:ByteArray):GP (w.setCell ⟨g,i,none⟩ (.string x)) base (.slice (some ⟨g,0,none⟩) n cap) (l.set i x):=by
 rcases h.2 with⟨h',_⟩|⟨g',cap',cur,h',hb,hg,hn,hc,hs,ht⟩;·simp at h'
 ·simp only[Value.slice.injEq,Option.some.injEq,Addr.mk.injEq,and_true,true_and] at h';obtain⟨rfl,rfl,rfl⟩:=h';refine⟨by simp[IU],.inr ⟨g,cap,cur.set! i (.string x),by simp,hb,?_,by simpa using hn,hc,by simpa using hs,?_⟩⟩;·simp[World.setCell,Array.getElem?_modify,hg]
  ·simp at ht hs⊢;rw[List.take_set,ht];simp[IU,List.map_set]
theorem GP.frozenAt {w:World} {base g n cap:Nat} {l:List ByteArray} (h:GP w base (.slice (some ⟨g,0,none⟩) n cap) l) (j:Nat):w.frozen? ⟨g,j,none⟩=false:=by
 rcases h.2 with⟨h',_⟩|⟨g',cap',cur,h',hb,hg,_⟩;·simp at h'
 ·simp only[Value.slice.injEq,Option.some.injEq,Addr.mk.injEq,and_true,true_and] at h';obtain⟨rfl,rfl,rfl⟩:=h';simp[World.frozen?,hg]
theorem GP.form {w:World} {base:Nat} {v:Value} {l:List ByteArray} (h:GP w base v l) (h0:0<l.length): ∃g cap,v = .slice (some ⟨g,0,none⟩) l.length cap∧base≤g∧g<w.heap.size∧∀j s,l[j]? = some s→w.cell? ⟨g,j,none⟩=some (.string s):=by
 rcases h.2 with⟨e,hn⟩|⟨g,cap,cur,e,hg,hh,_⟩;·omega
 ·refine⟨g,cap,e,hg,(Array.getElem?_eq_some_iff.1 hh).1,fun j s hj=>?_⟩;subst e;have:=World.ownsRow.cells h (g:=g) rfl j (.string s) (by simp[IU,hj]);simpa[Addr.add_lit] using this
theorem ownS_one (w:World) (s:ByteArray):GP (w.alloc (.cells #[.string s] 9)) w.heap.size (.slice (some ⟨w.heap.size,0,none⟩) 1 1) [s]:=by
 refine⟨by simp[IU],.inr ⟨w.heap.size,1,#[.string s],rfl,Nat.le_refl _,heap_alloc_new w (.cells #[.string s] 9),by simp,by simp[maxLen],by simp,by simp[IU]⟩⟩
theorem set_last {α:Type} (l:List α) (x:α) (h:0<l.length):l.set (l.length-1) x=l.dropLast++[x]:=by
 rcases List.eq_nil_or_concat l with rfl|⟨b,a,rfl⟩;·simp at h
 ·simp
theorem conv_one (w:World) (x:Int):(convert 34 9 (.slice (some ⟨w.heap.size,0,none⟩) 1 1)).run Tryz.prog (w.alloc (.cells #[.int .u8 x] 5)).drew = .ok (.string (strOfNums [x])) (w.alloc (.cells #[.int .u8 x] 5)).drew:=
 run_convert_bytes_arg (P:=Tryz.prog) (w:=(w.alloc (.cells #[.int .u8 x] 5)).drew) 34 5 (by kernel_rfl) (by kernel_rfl) w.heap.size 0 1 1 [x] rfl (fun i hi=>by
  obtain rfl:i=0:=by omega
  have:(w.alloc (.cells #[.int .u8 x] 5)).cell? ⟨w.heap.size,0,none⟩=some (.int .u8 x):=by rw[World.cell?_alloc_mark];rfl
  exact this) 9 (by kernel_rfl)
theorem map_ext {os ps:List ByteArray} (h:os.map (·.data.toList)=ps.map (·.data.toList)):os=ps:=(List.map_inj_right (fun x y hxy=>OV hxy)).1 h
theorem YV (A:Option Addr) (l:List Int) (c:Nat) (w:World) (h:Rd w A l) (hl: ∀x∈l,0≤x∧x<256) (hlen:l.length≤32768) :
  Calls Tryz.prog 58 #[.slice A l.length c] w (SplitPost w (PS l)):=by
 by_cases hnil:l=[]
 ·subst hnil;rw[show PS []=(0,[]) from if_pos rfl];go_enter Tryz.func58,Tryz.ntmps58
  go_wp2_with fail
  go_ret2
  exact⟨Only.refl _ _,_,rfl,TB _ _⟩
 have h0:0<l.length:=Nat.pos_of_ne_zero (fun e=>hnil (List.eq_nil_of_length_eq_zero e));obtain⟨R,hR⟩: ∃R,PS l=R:=⟨_,rfl⟩;rw[hR];have hR2:R=if CI (CM (strOfNums l))=0 then(0,CM (strOfNums l)) else(CI (CM (strOfNums l)),[]):=by
  rw[←hR];exact if_neg hnil
 obtain⟨n,hn⟩: ∃n,n=l.length:=⟨_,rfl⟩;rw[←hn] at hlen h0⊢;have hn0:((n:Int)==0)=false:=by simp;omega
 replace hn:=AB hn;replace hR2:=AB hR2;clear hnil hR;go_enter Tryz.func58,Tryz.ntmps58
 go_wp2_with fail
 go_loopw [15,4] (fun i o wr=>∃(k:Nat) (v:Value) (os:List ByteArray),k≤n∧i = .int .i64 k∧v=o∧Hid (os.map (·.data.toList)=GB (NC (l.take k)))∧GP wr w.heap.size v os∧Only [] w wr) (fun i _ _=>n-(intOf i).toNat)
 case atStart=>exact⟨0,_,[⟨#[]⟩],by omega,rfl,rfl,AB rfl,ownS_one w _,(Only.refl _ _).alloc _⟩
 case round=>
  obtain⟨wo,rfl⟩: ∃wo:World,wo=wr:=⟨_,rfl⟩;obtain⟨k,v,os,hkn,rfl,rfl,hos,V,O⟩:=hrel;have hob:=V.block;have z0:=O.size;have hcount:os.length≤k+1:=by
   have h1:=congrArg List.length hos.out;rw[List.length_map] at h1;have h2:=cE (NC (l.take k));rw[ND,List.length_take] at h2;omega
  have hpos:0<os.length:=by
   obtain⟨a,b,e⟩:=NH (NC (l.take k));have h1:=congrArg List.length hos.out;rw[List.length_map,e] at h1;simp at h1;omega
  by_cases hlt:k<n
  ·obtain⟨b,off,x,rfl,hb,hx,cx⟩:=RdG.at (mk:=.int .u8) (h.only O) k (by have:=hn.out;omega);have hxr:=hl x (List.mem_of_getElem? hx);have htk:NC (l.take (k+1))=NC (l.take k)++[UInt8.ofNat x.toNat]:=by
    rw[CX hx,bsOf_snoc]
   have hsn:=cutL_snoc (NC (l.take k)) (UInt8.ofNat x.toNat);rw[←htk,←hos.out] at hsn;obtain⟨g,cap,rfl,hg1,hg2,hgc⟩:=V.form hpos;by_cases h44:x=44
   ·subst h44;rw[if_pos (by decide)] at hsn;have V5:GP (wo.alloc (.cells #[.string ⟨#[]⟩] 9)) w.heap.size (.slice (some ⟨g,0,none⟩) os.length cap) os:=V.far ((Only.refl [] wo).alloc _) (fun x hx=>by simp at hx);have R5:RdS (wo.alloc (.cells #[.string ⟨#[]⟩] 9)) (some ⟨wo.heap.size,0,none⟩) [⟨#[]⟩]:=rdS_new wo _ [⟨#[]⟩] _ rfl;have hnew:(os++[(⟨#[]⟩:ByteArray)]).map (fun z:ByteArray=>z.data.toList)=GB (NC (l.take (k+1))):=by rw[hsn,List.map_append];rfl
    obtain⟨no,hno⟩: ∃no,os.length=no:=⟨_,rfl⟩;rw[hno] at V5 hcount⊢;replace hno:=AB hno;replace hnew:=AB hnew;replace hx:=AB hx;replace htk:=AB htk;clear hsn hgc hos;go_wp2_with (at_builtin;go_must (refine cB rfl (.tmp 21) (.tmp 22) rfl w.heap.size (.slice (some ⟨g,0,none⟩) no cap) os rfl V5 (some ⟨wo.heap.size,0,none⟩) 1 [⟨#[]⟩] _ rfl rfl R5 (by have:=hno.out;simp;omega) (by simp;omega) ?_;intro v9 w9 V9 P9))
    go_roundw
    case rel=>exact⟨k+1,_,os++[⟨#[]⟩],by omega,by go_num,rfl,hnew,V9.out,(O.alloc _).trans P9 (fun x hx=>.inr (by simp[Value.ownBlock] at hx;rw[hx];exact hg1))⟩
    case measure=>simp[intOf];omega
   ·rw[if_neg (fun e=>h44 (by
     have:=congrArg UInt8.toNat e;rw[UInt8.toNat_ofNat'] at this;have e2:x.toNat % 2 ^ 8=44:=this;omega))] at hsn
    obtain⟨s,hs⟩: ∃s,os[os.length-1]? = some s:=⟨_,List.getElem?_eq_getElem (by omega)⟩;have cs:=hgc _ s hs;have hlast:((os.map (·.data.toList)).getLast?.getD [])=s.data.toList:=by
     rw[List.getLast?_map,List.getLast?_eq_getElem?,hs];rfl
    rw[hlast] at hsn;have hss:s.size≤32768:=by
     have h1:s.data.toList∈os.map (·.data.toList):=List.mem_map_of_mem (List.mem_of_getElem? hs);rw[hos.out] at h1;have h2:=RI _ _ h1;rw[ND,List.length_take] at h2;have h3:s.size=s.data.toList.length:=by simp
     omega
    have fz:=GP.frozenAt V (os.length-1);have hset:=set_last os (s++strOfNums [x]) hpos;have hnew:(os.set (os.length-1) (s++strOfNums [x])).map (·.data.toList)=GB (NC (l.take (k+1))):=by
     rw[hset,List.map_append,hsn,List.map_dropLast];simp only[List.map_cons,List.map_nil];rw[Go.Joins.data_append];rfl
    have W:=fun y=>GP.wrote V (os.length-1) (by omega) y;obtain⟨no,hno⟩: ∃no,os.length=no+1:=⟨os.length-1,by omega⟩;rw[hno,Nat.add_sub_cancel] at cs fz hnew W;rw[hno] at hcount⊢;have x44:(x==44)=false:=beq_eq_false_iff_ne.2 h44;replace hno:=AB hno;replace hnew:=AB hnew;replace hx:=AB hx;replace htk:=AB htk;replace hs:=AB hs;replace W:=AB W;have hcv:=conv_one wo x;have hadd: ∀W:World,(Op.stringOp .add s (strOfNums [x])).run Tryz.prog W = .ok (.string (s++strOfNums [x])) W:=fun W=>run_string_add_sum (P:=Tryz.prog) (w:=W) _ _ (by rw[show(strOfNums [x]).size=1 by rfl];omega);have hwr:IntKind.i64.wrap (no:Int)=(no:Int):=IntWalk.i64_in _ (by omega);have hgne: ¬g=wo.heap.size:=by omega
    have hgne2: ¬wo.heap.size=g:=by omega
    clear hsn hgc hset hlast;go_wp2_with fail
    go_region
    go_wp2_with fail
    go_roundw
    case rel=>exact⟨k+1,_,os.set no (s++strOfNums [x]),by omega,by go_num,rfl,hnew,GP.far (W.out (s++strOfNums [x])) (((Only.refl [] _).alloc _).drew) (fun x hx=>by simp at hx),((O.setCell (p:=⟨g,no,none⟩) (.inr hg1) _).alloc _).drew⟩
    case measure=>simp[intOf];omega
  ·obtain rfl:k=n:=by omega
   have hos2:os=CM (strOfNums l):=map_ext (by
    rw[hos.out,LI,List.take_of_length_le (by have:=hn.out;omega)];rfl)
   have hsz: ∀s∈os,s.size≤maxLen:=fun s hs=>by
    have h1:s.data.toList∈os.map (·.data.toList):=List.mem_map_of_mem hs;rw[hos.out] at h1;have h2:=RI _ _ h1;rw[ND,List.length_take] at h2;have h3:s.size=s.data.toList.length:=by simp
    unfold maxLen;omega
   have hR3:=hR2.out;rw[←hos2] at hR3;obtain⟨g,cap,rfl,hg1,hg2,hgc⟩:=V.form hpos;obtain⟨no,hno⟩: ∃no,os.length=no:=⟨_,rfl⟩;rw[hno] at V⊢;have hno9:no≤32769:=by omega
   by_cases h64:64<no
   ·have hfin:R=(6,[]):=by
     have e:CI os=6:=by unfold CI;rw[if_pos (by omega)]
     rw[hR3,e];rfl
    have h64':(64:Int)<(no:Int):=by omega
    replace hfin:=AB hfin;clear hR3 hos2 hgc hsz hos;go_wp2_with fail
    go_ret2
    rw[hfin.out];exact⟨O,_,rfl,TB _ _⟩
   ·have h64': ¬(64:Int)<(no:Int):=by omega
    have e:CI os=if os.all BV then 0 else 4:=by unfold CI;rw[if_neg (by omega)]
    rw[e] at hR3;replace hR3:=AB hR3;replace hno:=AB hno;replace hsz:=AB hsz;clear e hos2 hos;go_wp2_with fail
    go_loop [41] (fun i=>∃j:Nat,j≤no∧i = .int .i64 j∧Hid ((os.take j).all BV=true)) (fun i=>no-(intOf i).toNat)
    case atStart=>exact⟨0,by omega,rfl,AB rfl⟩
    case round=>
     obtain⟨j,hj,rfl,hg⟩:=hrel;by_cases hlt2:j<no
     ·obtain⟨s,hs⟩: ∃s,os[j]? = some s:=⟨_,List.getElem?_eq_getElem (by have:=hno.out;omega)⟩;have cs:=hgc j s hs;have hmem:s∈os:=List.mem_of_getElem? hs;have hts:=AB (CX hs);have K:=aX s wo (hsz.out s hmem);replace hs:=AB hs;by_cases ho:BV s=true
      ·rw[ho] at K;have ho:=AB ho;go_wp2_with fail
       go_call K as e w' ⟨rfl,rfl⟩
       clear K;go_wp2
       go_round
       case rel=>exact⟨j+1,by omega,by go_num,AB (by rw[hts.out,List.all_append,hg.out];simp[ho.out])⟩
       case measure=>simp[intOf];omega
      ·have ho':BV s=false:=by simpa using ho
       rw[ho'] at K;have hfin:R=(4,[]):=by
        have hb:os.all BV=false:=by
         rw[Bool.eq_false_iff];intro hall;exact ho (List.all_eq_true.1 hall s hmem)
        rw[hR3.out,hb];rfl
       replace hfin:=AB hfin;clear ho ho';go_wp2_with fail
       go_call K as e w' ⟨rfl,rfl⟩
       go_wp2_with fail
       go_ret2
       rw[hfin.out];exact⟨O,_,rfl,TB _ _⟩
     ·obtain rfl:j=no:=by omega
      have hfin:R=(0,os):=by
       have hall:os.all BV=true:=by have:=hg.out;rw[List.take_of_length_le (by have:=hno.out;omega)] at this;exact this
       rw[hR3.out,hall];rfl
      replace hfin:=AB hfin;clear hg;go_wp2_with fail
      go_ret2
      rw[hfin.out];exact⟨O,_,rfl,V⟩
end Go.Proofs.YtkgikodiecmakaaGreatDoor
namespace Go.Proofs.YtkgikodiecmakaaGreatDoor
open Go.RowKit
theorem YX {fn:Func} {p t u:Tmp} (h:fn.results=#[.cell p 86,.tmp t,.tmp u]) (tmps:Array Value) (w:World) (g:Nat) (cs:Array Value) (hs:cs.size=4)
  (hp:tmps.getD p undef = .pointer (some ⟨g,0,none⟩)) (hg:w.heap[g]? = some (.cells cs 86 (0,0))) :
  (results fn tmps).run Tryz.prog w = .ok (.tuple #[.agg cs,tmps.getD t undef,tmps.getD u undef]) w:=by
 have hp':tmps[p]?.getD undef = .pointer (some ⟨g,0,none⟩):=by simpa using hp
 simp[results,h,hp',asAddr,run_loadVar_row w g 86 86 cs (0,0) _ hg Tryz.underlying86 rfl (by rw[hs];kernel_rfl)]
theorem DA {fn:Func} {p t u:Tmp} {R:Ending→World→Prop} {a:Act} {w:World} {g:Nat} {v0 v1 v2 v3:Value} (h:fn.results=#[.cell p 86,.tmp t,.tmp u]) (hp:a.tmps.getD p undef = .pointer (some ⟨g,0,none⟩)) (hd:a.defers=[])
  (hg:Blk w g 86 [v0,v1,v2,v3]) (hR:R (.returned (.tuple #[.agg #[v0,v1,v2,v3],a.tmps.getD t undef,a.tmps.getD u undef])) w):bodyPost Tryz.prog fn R .ret a w:=
 bodyPost_ret (YX h _ w g #[v0,v1,v2,v3] rfl hp hg) hd hR
theorem WF {w8 w':World} {B B' k8:Nat} {A8:Option Addr} {kd nn:Int} {l:List Int} {L:List Nat} (V8:JP w8 B (.slice A8 l.length k8) l) (Y:Only L w8 w') (hL: ∀x∈L,x<B) (hB:B'≤B):FD.mine w' ⟨kd,nn,A8,k8,l,none,0,[]⟩ B':=by
 obtain⟨A,k,e,R8,q8,m8,a8⟩:=V8.rd;injection e with e1 _ e3;subst e1;subst e3;have S8:=JP.soft V8;refine⟨⟨RdG.onlyL (mk:=.int .u8) R8 Y (fun a ha _ hm=>by have h1:=a8 a ha;have h2:=hL _ hm;omega),RdG.nil,q8,m8,by simp,by simp,by simp⟩,⟨fun a ha=>by have:=a8 a ha;omega,fun a ha=>by simp at ha⟩,fun a ha i hi=>?_⟩;have hlt:=RdG.lt (mk:=.int .u8) R8 (show 0<l.length by have:i<l.length:=hi;omega) a ha;refine(World.frozen?_of_block (w:=w8) ?_).trans (S8 a ha i hi);rw[IJ];exact Y.block _ hlt (fun hm=>by have h1:=a8 a ha;have h2:=hL _ hm;omega)
theorem mine_list {w8 w':World} {B B' k8:Nat} {A8:Option Addr} {kd nn:Int} {ls:List ByteArray} {L:List Nat} (V8:GP w8 B (.slice A8 ls.length k8) ls) (Y:Only L w8 w') (hL: ∀x∈L,x<B) (hB:B'≤B) (hs: ∀s∈ls,s.size≤maxLen):FD.mine w' ⟨kd,nn,none,0,[],A8,k8,ls⟩ B':=by
 obtain⟨A,k,e,R8,q8,m8,a8⟩:=V8.rd;injection e with e1 _ e3;subst e1;subst e3;exact⟨⟨RdG.nil,RdG.onlyL (mk:=.string) R8 Y (fun a ha _ hm=>by have h1:=a8 a ha;have h2:=hL _ hm;omega),by simp,by simp,q8,m8,hs⟩,⟨fun a ha=>by simp at ha,fun a ha=>by have:=a8 a ha;omega⟩,fun a ha=>by simp at ha⟩
def IM (w:World) (k:Int) (l:List Int) (r:R):Ending→World→Prop:=fun E w'=>
 Only [] w w'∧∃(f:FD) (nn:Nat),E = .returned (.tuple #[f.val,.int .i64 nn,.int .i64 r.e])∧(r.e=0→f.pf=⟨k,r.n,r.text,r.list⟩∧nn≤l.length∧l.drop nn=r.rest∧FD.mine w' f w.heap.size)
theorem dH (k:Int) (hk:k=1∨k=2) (A:Option Addr) (l:List Int) (c:Nat) (w:World) (h:Rd w A l) (hl: ∀x∈l,0≤x∧x<256) (hlen:l.length≤140737488355000) :
  Calls Tryz.prog 50 #[.int .i64 k,.slice A l.length c] w (IM w k l (BG k.toNat l)):=by
 cases l with
 |nil=>
  rcases hk with rfl|rfl
  ·go_enter Tryz.func50,Tryz.ntmps50
   go_wp2_with fail
   (try simp only[Exit.inBlock,Exit.then])
   refine DA (g:=w.heap.size) (v0:=.int .i64 1) (v1:=.int .u32 0) (v2:=.slice none 0 0) (v3:=.slice none 0 0) rfl (by rfl) (by rfl) (by exact(Blk.new w 86 [.int .i64 1,.int .u32 0,.slice none 0 0,.slice none 0 0]).alloc _) ?_;exact⟨((Only.refl _ _).alloc _).alloc _,⟨1,0,none,0,[],none,0,[]⟩,0,rfl,fun h=>by cases h⟩
  ·go_enter Tryz.func50,Tryz.ntmps50
   go_wp2_with fail
   (try simp only[Exit.inBlock,Exit.then])
   refine DA (g:=w.heap.size) (v0:=.int .i64 2) (v1:=.int .u32 0) (v2:=.slice none 0 0) (v3:=.slice none 0 0) rfl (by rfl) (by rfl) (by exact(Blk.new w 86 [.int .i64 2,.int .u32 0,.slice none 0 0,.slice none 0 0]).alloc _) ?_;exact⟨((Only.refl _ _).alloc _).alloc _,⟨2,0,none,0,[],none,0,[]⟩,0,rfl,fun h=>by cases h⟩
 |cons x t=>
  obtain⟨b,off,y,rfl,hb,hy,cx⟩:=RdG.at (mk:=.int .u8) h 0 (by simp);simp at hy;subst hy;rw[Nat.add_zero] at cx;have hx:=hl x (by simp);obtain⟨n,hn⟩: ∃n,(x::t).length=n:=⟨_,rfl⟩;have hn1:1≤n:=by rw[←hn];simp
  rw[hn] at hlen⊢;have i1: ¬(n:Int)<1:=by omega
  have i2:(0:Int)<(n:Int):=by omega
  replace hn:=AB hn;rcases hk with rfl|rfl
  ·go_enter Tryz.func50,Tryz.ntmps50
   go_wp2_with fail
   (try simp only[Exit.inBlock,Exit.then])
   refine DA (g:=w.heap.size) (v0:=.int .i64 1) (v1:=.int .u32 x) (v2:=.slice none 0 0) (v3:=.slice none 0 0) rfl (by rfl) (by rfl) (by exact(Blk.new w 86 [.int .i64 1,.int .u32 x,.slice none 0 0,.slice none 0 0]).alloc _) ?_;exact⟨((Only.refl _ _).alloc _).alloc _,⟨1,x,none,0,[],none,0,[]⟩,1,rfl,fun _=>⟨rfl,by have:=hn.out;omega,rfl,FD.mine.plain _ _ _ _⟩⟩
  ·go_enter Tryz.func50,Tryz.ntmps50
   go_wp2_with fail
   (try simp only[Exit.inBlock,Exit.then])
   refine DA (g:=w.heap.size) (v0:=.int .i64 2) (v1:=.int .u32 (min x 1)) (v2:=.slice none 0 0) (v3:=.slice none 0 0) rfl (by rfl) (by rfl) (by exact(Blk.new w 86 [.int .i64 2,.int .u32 (min x 1),.slice none 0 0,.slice none 0 0]).alloc _) ?_;exact⟨((Only.refl _ _).alloc _).alloc _,⟨2,min x 1,none,0,[],none,0,[]⟩,1,rfl,fun _=>⟨rfl,by have:=hn.out;omega,rfl,FD.mine.plain _ _ _ _⟩⟩
theorem take_rest (A:Option Addr) (l:List Int) (c:Nat) (w:World) (h:Rd w A l) (hlen:l.length≤140737488355000) :
  Calls Tryz.prog 50 #[.int .i64 6,.slice A l.length c] w (IM w 6 l (BG 6 l)):=by
 have e6:BG 6 l=⟨LG l.length 33792 6,0,l,[],[]⟩:=rfl;rw[e6];by_cases hbig:33792<l.length
 ·rw[aP (show(33792:Int)<(l.length:Int) by omega)];obtain⟨n,hn⟩: ∃n,l.length=n:=⟨_,rfl⟩;rw[hn] at hbig⊢;have i1:(33792:Int)<(n:Int):=by omega
  go_enter Tryz.func50,Tryz.ntmps50
  go_wp2_with fail
  (try simp only[Exit.inBlock,Exit.then])
  refine DA (g:=w.heap.size) (v0:=.int .i64 6) (v1:=.int .u32 0) (v2:=.slice none 0 0) (v3:=.slice none 0 0) rfl (by rfl) (by rfl) (by exact(Blk.new w 86 [.int .i64 6,.int .u32 0,.slice none 0 0,.slice none 0 0]).alloc _) ?_;exact⟨((Only.refl _ _).alloc _).alloc _,⟨6,0,none,0,[],none,0,[]⟩,0,rfl,fun h=>by cases h⟩
 ·rw[SZ (show¬(33792:Int)<(l.length:Int) by omega)];have i1: ¬(33792:Int)<(l.length:Int):=by omega
  have X2:Only [] w ((w.alloc (.cells #[.int .i64 0,.int .u32 0,.slice none 0 0,.slice none 0 0] 86)).alloc (.cells #[.int .i64 6,.int .u32 0,.slice none 0 0,.slice none 0 0] 86)):=((Only.refl _ _).alloc _).alloc _;have hs2:((w.alloc (.cells #[.int .i64 0,.int .u32 0,.slice none 0 0,.slice none 0 0] 86)).alloc (.cells #[.int .i64 6,.int .u32 0,.slice none 0 0,.slice none 0 0] 86)).heap.size=w.heap.size+2:=by simp
  have K0:=((Blk.new w 86 [.int .i64 0,.int .u32 0,.slice none 0 0,.slice none 0 0]).alloc (.cells #[.int .i64 6,.int .u32 0,.slice none 0 0,.slice none 0 0] 86));have K1:=Blk.new (w.alloc (.cells #[.int .i64 0,.int .u32 0,.slice none 0 0,.slice none 0 0] 86)) 86 [.int .i64 6,.int .u32 0,.slice none 0 0,.slice none 0 0];rw[show(w.alloc (.cells #[.int .i64 0,.int .u32 0,.slice none 0 0,.slice none 0 0] 86)).heap.size=w.heap.size+1 by simp] at K1;obtain⟨wb,hwb⟩: ∃wb,wb=(w.alloc (.cells #[.int .i64 0,.int .u32 0,.slice none 0 0,.slice none 0 0] 86)).alloc (.cells #[.int .i64 6,.int .u32 0,.slice none 0 0,.slice none 0 0] 86):=⟨_,rfl⟩;have V6:JP (wb.alloc (.cells #[] 5)) (w.heap.size+2) (.slice (some ⟨w.heap.size+2,0,none⟩) 0 0) []:=by
   have:=TA wb (w.heap.size+2) [] (by rw[hwb,hs2];exact Nat.le_refl _) (by simp);rw[show wb.heap.size=w.heap.size+2 by rw[hwb,hs2]] at this;exact this
  have K0':Blk (wb.alloc (.cells #[] 5)) w.heap.size 86 [.int .i64 0,.int .u32 0,.slice none 0 0,.slice none 0 0]:=by rw[hwb];exact Blk.alloc K0 _
  have K1':Blk (wb.alloc (.cells #[] 5)) (w.heap.size+1) 86 [.int .i64 6,.int .u32 0,.slice none 0 0,.slice none 0 0]:=by rw[hwb];exact Blk.alloc K1 _
  have X3:Only [] w (wb.alloc (.cells #[] 5)):=by rw[hwb];exact X2.alloc _
  have R6:Rd (wb.alloc (.cells #[] 5)) A l:=h.only X3;rw[hwb] at V6 K0' K1' X3 R6;clear hwb K0 K1 X2 hs2;go_enter Tryz.func50,Tryz.ntmps50
  go_wp2_with (at_builtin;go_must (refine LM rfl (.tmp 39) (.tmp 40) rfl (w.heap.size+2) (.slice (some ⟨w.heap.size+2,0,none⟩) 0 0) [] rfl V6 A c l _ rfl rfl R6 (by simp;omega) (by simp) ?_;intro v8 w8 V8 P8 G8;replace V8:=V8.out;rw[List.nil_append] at V8;obtain⟨A8,k8,rfl,R8,q8,m8,a8⟩:=V8.rd;have K0:=K0'.only P8 (by simp[Value.ownBlock]);have K1:=K1'.only P8 (by simp[Value.ownBlock]);have g0:w8.cell? ⟨w.heap.size,0,none⟩=some (.int .i64 0):=K0.cell 0;have g1:w8.cell? ⟨w.heap.size,1,none⟩=some (.int .u32 0):=K0.cell 1;have g2:w8.cell? ⟨w.heap.size,2,none⟩=some (.slice none 0 0):=K0.cell 2;have g3:w8.cell? ⟨w.heap.size,3,none⟩=some (.slice none 0 0):=K0.cell 3;have f0:=K0.frozen 0;have f1:=K0.frozen 1;have f2:=K0.frozen 2;have f3:=K0.frozen 3;have d0:w8.cell? ⟨w.heap.size+1,0,none⟩=some (.int .i64 6):=K1.cell 0;have d1:w8.cell? ⟨w.heap.size+1,1,none⟩=some (.int .u32 0):=K1.cell 1;have d2:w8.cell? ⟨w.heap.size+1,2,none⟩=some (.slice none 0 0):=K1.cell 2;have d3:w8.cell? ⟨w.heap.size+1,3,none⟩=some (.slice none 0 0):=K1.cell 3;have e2:=K1.frozen 2))
  (try simp only[Exit.inBlock,Exit.then])
  have Y1:Only [w.heap.size+1] w8 (w8.setCell ⟨w.heap.size+1,2,none⟩ (.slice A8 l.length k8)):=(Only.refl _ _).setCell (p:=⟨w.heap.size+1,2,none⟩) (.inl (by simp)) _;have Y4:=W4.only (w8.setCell ⟨w.heap.size+1,2,none⟩ (.slice A8 l.length k8)) w.heap.size (.int .i64 6) (.int .u32 0) (.slice A8 l.length k8) (.slice none 0 0);have B4:=W4.blk (K0.only Y1 (by simp)) (.int .i64 6) (.int .u32 0) (.slice A8 l.length k8) (.slice none 0 0);have Y:Only [w.heap.size,w.heap.size+1] w8 (W4 (w8.setCell ⟨w.heap.size+1,2,none⟩ (.slice A8 l.length k8)) w.heap.size (.int .i64 6) (.int .u32 0) (.slice A8 l.length k8) (.slice none 0 0)):=(Y1.mono (by simp)).trans Y4 (fun x hx=>.inl (by simp at hx;simp[hx]));refine DA (g:=w.heap.size) (v0:=.int .i64 6) (v1:=.int .u32 0) (v2:=.slice A8 l.length k8) (v3:=.slice none 0 0) rfl (by rfl) (by rfl) B4 ?_;exact⟨(X3.trans P8 (fun x hx=>.inr (by simp[Value.ownBlock] at hx;omega))).trans Y (fun x hx=>.inr (by simp at hx;omega)),⟨6,0,A8,k8,l,none,0,[]⟩,l.length,rfl,fun _=>⟨rfl,Nat.le_refl _,by simp,WF V8 Y (fun x hx=>by simp at hx;omega) (by omega)⟩⟩
theorem UZ (k:Int) (hk:k=3∨k=4∨k=5) (A:Option Addr) (l:List Int) (c:Nat) (w:World) (h4:l.length<4) :
  Calls Tryz.prog 50 #[.int .i64 k,.slice A l.length c] w (IM w k l (BG k.toNat l)):=by
 have e3:(BG k.toNat l).e=3:=by
  rcases hk with rfl|rfl|rfl;·show(DN l).e=3;unfold DN;rw[if_pos h4];rfl
  ·show(CE l).e=3;unfold CE;rw[if_pos h4];rfl
  ·show(FC l).e=3;have:CE l=EU l:=by unfold CE;rw[if_pos h4]
   unfold FC;rw[this];rfl
 obtain⟨r,hr⟩: ∃r,BG k.toNat l=r:=⟨_,rfl⟩;rw[hr] at e3⊢;obtain⟨n,hn⟩: ∃n,l.length=n:=⟨_,rfl⟩;rw[hn] at h4⊢;have i1:(n:Int)<4:=by omega
 replace hr:=AB hr;replace e3:=AB e3;rcases hk with rfl|rfl|rfl
 ·go_enter Tryz.func50,Tryz.ntmps50
  go_wp2_with fail
  (try simp only[Exit.inBlock,Exit.then])
  refine DA (g:=w.heap.size) (v0:=.int .i64 3) (v1:=.int .u32 0) (v2:=.slice none 0 0) (v3:=.slice none 0 0) rfl (by rfl) (by rfl) (by exact(Blk.new w 86 [.int .i64 3,.int .u32 0,.slice none 0 0,.slice none 0 0]).alloc _) ?_;exact⟨((Only.refl _ _).alloc _).alloc _,⟨3,0,none,0,[],none,0,[]⟩,0,by rw[e3.out];rfl,fun h=>by rw[e3.out] at h;cases h⟩
 ·go_enter Tryz.func50,Tryz.ntmps50
  go_wp2_with fail
  (try simp only[Exit.inBlock,Exit.then])
  refine DA (g:=w.heap.size) (v0:=.int .i64 4) (v1:=.int .u32 0) (v2:=.slice none 0 0) (v3:=.slice none 0 0) rfl (by rfl) (by rfl) (by exact(Blk.new w 86 [.int .i64 4,.int .u32 0,.slice none 0 0,.slice none 0 0]).alloc _) ?_;exact⟨((Only.refl _ _).alloc _).alloc _,⟨4,0,none,0,[],none,0,[]⟩,0,by rw[e3.out];rfl,fun h=>by rw[e3.out] at h;cases h⟩
 ·go_enter Tryz.func50,Tryz.ntmps50
  go_wp2_with fail
  (try simp only[Exit.inBlock,Exit.then])
  refine DA (g:=w.heap.size) (v0:=.int .i64 5) (v1:=.int .u32 0) (v2:=.slice none 0 0) (v3:=.slice none 0 0) rfl (by rfl) (by rfl) (by exact(Blk.new w 86 [.int .i64 5,.int .u32 0,.slice none 0 0,.slice none 0 0]).alloc _) ?_;exact⟨((Only.refl _ _).alloc _).alloc _,⟨5,0,none,0,[],none,0,[]⟩,0,by rw[e3.out];rfl,fun h=>by rw[e3.out] at h;cases h⟩
end Go.Proofs.YtkgikodiecmakaaGreatDoor
namespace Go.Proofs.YtkgikodiecmakaaGreatDoor
open Go.RowKit
theorem WK {w:World} {A:Option Addr} {l:List Int} (c L:Nat) (h:Rd w A l) (hT:4+L≤l.length) (hc:l.length≤c) :
  ∃A9 c9,((c=4∧A9=A∧c9=0)∨(¬c=4∧A9=(A.map fun x=>x.add 4)∧c9=c-4))∧Rd w A9 ((l.drop 4).take L):=by
 by_cases hck:c=4
 ·refine⟨A,0,.inl ⟨hck,rfl,rfl⟩,?_⟩;obtain rfl:L=0:=by omega
  rw[List.take_zero];exact RdG.nil (mk:=.int .u8)
 ·exact⟨_,_,.inr ⟨hck,rfl,rfl⟩,RdG.take (mk:=.int .u8) (RdG.drop (mk:=.int .u8) h 4) L⟩
theorem map_four (A:Option Addr):(A.map fun x=>x.add 4)=A.map fun x=>{ block:=x.block,off:=x.off+4 }:=by
 congr 1
theorem aU (l:List Int) (h4:4≤l.length) (h1:be4 l≤32768) (h2:4+(be4 l).toNat≤l.length):CE l=⟨0,0,(l.drop 4).take (be4 l).toNat,[],l.drop (4+(be4 l).toNat)⟩:=by
 unfold CE;rw[if_neg (by omega)];unfold GL;rw[if_neg (by omega),if_neg (by rw[List.length_drop];omega),List.drop_drop]
theorem WN (l:List Int) (h4:4≤l.length) (h1:32768<be4 l):(CE l).e=6:=by
 unfold CE;rw[if_neg (by omega)];unfold GL;rw[if_pos (by omega)]
theorem QG (l:List Int) (h4:4≤l.length) (h1:be4 l≤32768) (h2:l.length<4+(be4 l).toNat):(CE l).e=3:=by
 unfold CE;rw[if_neg (by omega)];unfold GL;rw[if_neg (by omega),if_pos (by rw[List.length_drop];omega)]
theorem TH (l:List Int) (E:Int) (h:(CE l).e=E) (hE:E≠0):(FC l).e=E:=by
 unfold FC HF;rw[if_pos (by rw[h];exact hE),h]
theorem bR (A:Option Addr) (l:List Int) (c:Nat) (w:World) (h:Rd w A l) (hl: ∀x∈l,0≤x∧x<256) (h4:4≤l.length) :
  Calls Tryz.prog 50 #[.int .i64 3,.slice A l.length c] w (IM w 3 l (BG 3 l)):=by
 obtain⟨w1,hw1⟩: ∃w1,w1=(w.alloc (.cells #[.int .i64 0,.int .u32 0,.slice none 0 0,.slice none 0 0] 86)).alloc (.cells #[.int .i64 3,.int .u32 0,.slice none 0 0,.slice none 0 0] 86):=⟨_,rfl⟩;have X1:Only [] w w1:=by rw[hw1];exact((Only.refl _ _).alloc _).alloc _
 have hs1:w1.heap.size=w.heap.size+2:=by rw[hw1];simp
 have KA:Blk w1 w.heap.size 86 [.int .i64 0,.int .u32 0,.slice none 0 0,.slice none 0 0]:=by
  rw[hw1];exact(Blk.new w 86 [.int .i64 0,.int .u32 0,.slice none 0 0,.slice none 0 0]).alloc _
 have KB:Blk w1 (w.heap.size+1) 86 [.int .i64 3,.int .u32 0,.slice none 0 0,.slice none 0 0]:=by
  have:=Blk.new (w.alloc (.cells #[.int .i64 0,.int .u32 0,.slice none 0 0,.slice none 0 0] 86)) 86 [.int .i64 3,.int .u32 0,.slice none 0 0,.slice none 0 0];rw[show(w.alloc (.cells #[.int .i64 0,.int .u32 0,.slice none 0 0,.slice none 0 0] 86)).heap.size=w.heap.size+1 by simp] at this;rw[hw1];exact this
 have NB:=JM A l c w1 (h.only X1) h4 hl;have hbe:=ME l hl;obtain⟨ln,hln⟩: ∃ln,l.length=ln:=⟨_,rfl⟩;have i1: ¬(ln:Int)<4:=by omega
 rw[show BG 3 l=⟨0,be4 l,[],[],l.drop 4⟩ by show DN l=_;unfold DN;rw[if_neg (by omega)]];obtain⟨N,hN⟩: ∃N,be4 l=N:=⟨_,rfl⟩;rw[hN] at NB hbe⊢;rw[hln] at NB⊢;go_enter Tryz.func50,Tryz.ntmps50
 go_wp2_with fail
 rw[←hw1];replace hw1:=AB hw1;go_call NB as e w2 ⟨rfl,P2⟩
 have K0:=KA.only P2 (by simp);have K1:=KB.only P2 (by simp);have z2:=P2.size;have g0:w2.cell? ⟨w.heap.size,0,none⟩=some (.int .i64 0):=K0.cell 0;have f0:=K0.frozen 0;have g1:w2.cell? ⟨w.heap.size,1,none⟩=some (.int .u32 0):=K0.cell 1;have f1:=K0.frozen 1;have g2:w2.cell? ⟨w.heap.size,2,none⟩=some (.slice none 0 0):=K0.cell 2;have f2:=K0.frozen 2;have g3:w2.cell? ⟨w.heap.size,3,none⟩=some (.slice none 0 0):=K0.cell 3;have f3:=K0.frozen 3;have d0:w2.cell? ⟨w.heap.size+1,0,none⟩=some (.int .i64 3):=K1.cell 0;have e0:=K1.frozen 0;have d1:w2.cell? ⟨w.heap.size+1,1,none⟩=some (.int .u32 0):=K1.cell 1;have e1:=K1.frozen 1;have d2:w2.cell? ⟨w.heap.size+1,2,none⟩=some (.slice none 0 0):=K1.cell 2;have e2:=K1.frozen 2;have d3:w2.cell? ⟨w.heap.size+1,3,none⟩=some (.slice none 0 0):=K1.cell 3;have e3:=K1.frozen 3;go_wp2_with fail
 (try simp only[Exit.inBlock,Exit.then])
 have Y1:Only [w.heap.size+1] w2 (w2.setCell ⟨w.heap.size+1,1,none⟩ (.int .u32 N)):=(Only.refl _ _).setCell (p:=⟨w.heap.size+1,1,none⟩) (.inl (by simp)) _;have B4:=W4.blk (K0.only Y1 (by simp)) (.int .i64 3) (.int .u32 N) (.slice none 0 0) (.slice none 0 0);have Y4:=W4.only (w2.setCell ⟨w.heap.size+1,1,none⟩ (.int .u32 N)) w.heap.size (.int .i64 3) (.int .u32 N) (.slice none 0 0) (.slice none 0 0);refine DA (g:=w.heap.size) (v0:=.int .i64 3) (v1:=.int .u32 N) (v2:=.slice none 0 0) (v3:=.slice none 0 0) rfl (by rfl) (by rfl) B4 ?_;exact⟨((X1.trans P2 (by simp)).trans Y1 (fun x hx=>.inr (by simp at hx;omega))).trans Y4 (fun x hx=>.inr (by simp at hx;omega)),⟨3,N,none,0,[],none,0,[]⟩,4,rfl,fun _=>⟨rfl,by omega,rfl,FD.mine.plain _ _ _ _⟩⟩
end Go.Proofs.YtkgikodiecmakaaGreatDoor
namespace Go.Proofs.YtkgikodiecmakaaGreatDoor
open Go.RowKit
theorem YW (A:Option Addr) (l:List Int) (c:Nat) (w:World) (h:Rd w A l) (hl: ∀x∈l,0≤x∧x<256) (h4:4≤l.length) (hlc:l.length≤c) (hlm:c≤maxLen) :
  Calls Tryz.prog 50 #[.int .i64 4,.slice A l.length c] w (IM w 4 l (BG 4 l)):=by
 unfold maxLen at hlm;obtain⟨w1,hw1⟩: ∃w1,w1=(w.alloc (.cells #[.int .i64 0,.int .u32 0,.slice none 0 0,.slice none 0 0] 86)).alloc (.cells #[.int .i64 4,.int .u32 0,.slice none 0 0,.slice none 0 0] 86):=⟨_,rfl⟩;have X1:Only [] w w1:=by rw[hw1];exact((Only.refl _ _).alloc _).alloc _
 have hs1:w1.heap.size=w.heap.size+2:=by rw[hw1];simp
 have KA:Blk w1 w.heap.size 86 [.int .i64 0,.int .u32 0,.slice none 0 0,.slice none 0 0]:=by
  rw[hw1];exact(Blk.new w 86 [.int .i64 0,.int .u32 0,.slice none 0 0,.slice none 0 0]).alloc _
 have KB:Blk w1 (w.heap.size+1) 86 [.int .i64 4,.int .u32 0,.slice none 0 0,.slice none 0 0]:=by
  have:=Blk.new (w.alloc (.cells #[.int .i64 0,.int .u32 0,.slice none 0 0,.slice none 0 0] 86)) 86 [.int .i64 4,.int .u32 0,.slice none 0 0,.slice none 0 0];rw[show(w.alloc (.cells #[.int .i64 0,.int .u32 0,.slice none 0 0,.slice none 0 0] 86)).heap.size=w.heap.size+1 by simp] at this;rw[hw1];exact this
 have NB:=JM A l c w1 (h.only X1) h4 hl;have hbe:=ME l hl;obtain⟨ln,hln⟩: ∃ln,l.length=ln:=⟨_,rfl⟩;have i1: ¬(ln:Int)<4:=by omega
 rw[show BG 4 l=CE l from rfl];have t6:=WN l h4;have t3:=QG l h4;have t0:=aU l h4;obtain⟨N,hN⟩:=Int.eq_ofNat_of_zero_le hbe.1;rw[hN,Int.toNat_natCast] at t3 t0;rw[hN] at NB hbe t6;have hbe2:=hbe.2;rw[hln] at NB t3 t0 hlc;obtain⟨r,hr⟩: ∃r,CE l=r:=⟨_,rfl⟩;rw[hr,hln];replace hN:=AB hN;by_cases h6:(32768:Int)<(N:Int)
 ·have hre:r.e=6:=by rw[←hr];exact t6 h6
  replace hre:=AB hre;replace hr:=AB hr;replace hln:=AB hln;clear t6 t3 t0;go_enter Tryz.func50,Tryz.ntmps50
  go_wp2_with fail
  rw[←hw1];replace hw1:=AB hw1;go_call NB as e w2 ⟨rfl,P2⟩
  have K0:=KA.only P2 (by simp);have K1:=KB.only P2 (by simp);have g0:w2.cell? ⟨w.heap.size,0,none⟩=some (.int .i64 0):=K0.cell 0;have f0:=K0.frozen 0;have g1:w2.cell? ⟨w.heap.size,1,none⟩=some (.int .u32 0):=K0.cell 1;have f1:=K0.frozen 1;have g2:w2.cell? ⟨w.heap.size,2,none⟩=some (.slice none 0 0):=K0.cell 2;have f2:=K0.frozen 2;have g3:w2.cell? ⟨w.heap.size,3,none⟩=some (.slice none 0 0):=K0.cell 3;have f3:=K0.frozen 3;have d0:w2.cell? ⟨w.heap.size+1,0,none⟩=some (.int .i64 4):=K1.cell 0;have e0:=K1.frozen 0;have d1:w2.cell? ⟨w.heap.size+1,1,none⟩=some (.int .u32 0):=K1.cell 1;have e1:=K1.frozen 1;have d2:w2.cell? ⟨w.heap.size+1,2,none⟩=some (.slice none 0 0):=K1.cell 2;have e2:=K1.frozen 2;have d3:w2.cell? ⟨w.heap.size+1,3,none⟩=some (.slice none 0 0):=K1.cell 3;have e3:=K1.frozen 3;go_wp2_with fail
  (try simp only[Exit.inBlock,Exit.then])
  refine DA (g:=w.heap.size) (v0:=.int .i64 4) (v1:=.int .u32 0) (v2:=.slice none 0 0) (v3:=.slice none 0 0) rfl (by rfl) (by rfl) (W4.blk K0 _ _ _ _) ?_;exact⟨(X1.trans P2 (by simp)).trans (W4.only _ _ _ _ _ _) (fun x hx=>.inr (by simp at hx;omega)),⟨4,0,none,0,[],none,0,[]⟩,0,by rw[hre.out];rfl,fun h=>by rw[hre.out] at h;cases h⟩
 have h6':(N:Int)≤32768:=by omega
 by_cases h3:ln<4+N
 ·have hre:r.e=3:=by rw[←hr];exact t3 h6' h3
  have i2:(ln:Int)-4<(N:Int):=by omega
  replace hre:=AB hre;replace hr:=AB hr;replace hln:=AB hln;replace h3:=AB h3;replace h6':=AB h6';clear t6 t3 t0 hbe hbe2;go_enter Tryz.func50,Tryz.ntmps50
  go_wp2_with fail
  rw[←hw1];replace hw1:=AB hw1;go_call NB as e w2 ⟨rfl,P2⟩
  have K0:=KA.only P2 (by simp);have K1:=KB.only P2 (by simp);have g0:w2.cell? ⟨w.heap.size,0,none⟩=some (.int .i64 0):=K0.cell 0;have f0:=K0.frozen 0;have g1:w2.cell? ⟨w.heap.size,1,none⟩=some (.int .u32 0):=K0.cell 1;have f1:=K0.frozen 1;have g2:w2.cell? ⟨w.heap.size,2,none⟩=some (.slice none 0 0):=K0.cell 2;have f2:=K0.frozen 2;have g3:w2.cell? ⟨w.heap.size,3,none⟩=some (.slice none 0 0):=K0.cell 3;have f3:=K0.frozen 3;have d0:w2.cell? ⟨w.heap.size+1,0,none⟩=some (.int .i64 4):=K1.cell 0;have e0:=K1.frozen 0;have d1:w2.cell? ⟨w.heap.size+1,1,none⟩=some (.int .u32 0):=K1.cell 1;have e1:=K1.frozen 1;have d2:w2.cell? ⟨w.heap.size+1,2,none⟩=some (.slice none 0 0):=K1.cell 2;have e2:=K1.frozen 2;have d3:w2.cell? ⟨w.heap.size+1,3,none⟩=some (.slice none 0 0):=K1.cell 3;have e3:=K1.frozen 3;go_wp2_with fail
  (try simp only[Exit.inBlock,Exit.then])
  refine DA (g:=w.heap.size) (v0:=.int .i64 4) (v1:=.int .u32 0) (v2:=.slice none 0 0) (v3:=.slice none 0 0) rfl (by rfl) (by rfl) (W4.blk K0 _ _ _ _) ?_;exact⟨(X1.trans P2 (by simp)).trans (W4.only _ _ _ _ _ _) (fun x hx=>.inr (by simp at hx;omega)),⟨4,0,none,0,[],none,0,[]⟩,0,by rw[hre.out];rfl,fun h=>by rw[hre.out] at h;cases h⟩
 have i2: ¬(ln:Int)-4<(N:Int):=by omega
 have hT:=t0 h6' (by omega);obtain⟨tx,htx⟩: ∃tx,(l.drop 4).take N=tx:=⟨_,rfl⟩;have htn:tx.length=N:=by rw[←htx,List.length_take,List.length_drop,hln];omega
 rw[htx] at hT;have hwr:IntKind.u32.wrap (4+(N:Int))=4+(N:Int):=by rw[IntKind.wrap_u32];omega
 have hmod:(4+(N:Int)) % 4294967296=4+(N:Int):=by omega
 have j0:(4:Int)≤4+(N:Int):=by omega
 have j1:4+(N:Int)≤(c:Int):=by omega
 have RDX:=fun(w':World) (P:Only [] w w')=>WK (w:=w') (A:=A) (l:=l) c N (h.only P) (by rw[hln];omega) (by rw[hln];exact hlc);replace RDX:=AB RDX;have hlB: ∀x∈tx,0≤x∧x<256:=fun x hx=>hl x (by rw[←htx] at hx;exact List.mem_of_mem_drop (List.mem_of_mem_take hx));replace hlB:=AB hlB;replace htx:=AB htx;replace htn:=AB htn;replace hT:=AB hT;replace hr:=AB hr;have hln2:4+N≤ln:=by omega
 replace hln2:=AB hln2;have hN5:N≤32768:=by omega
 replace hN5:=AB hN5;replace hln:=AB hln;clear t6 t3 t0 h3 h6' hbe hbe2;go_enter Tryz.func50,Tryz.ntmps50
 go_wp2_with fail
 rw[←hw1];replace hw1:=AB hw1;go_call NB as e w2 ⟨rfl,P2⟩
 have K0:=KA.only P2 (by simp);have K1:=KB.only P2 (by simp);have z2:=P2.size;have X2:=X1.trans P2 (by simp);obtain⟨A9,c9,hc9,R9⟩:=RDX.out w2 X2;rw[htx.out] at R9;have V6:JP (w2.alloc (.cells #[] 5)) w2.heap.size (.slice (some ⟨w2.heap.size,0,none⟩) 0 0) []:=TA w2 w2.heap.size [] (Nat.le_refl _) (by simp);have R6:Rd (w2.alloc (.cells #[] 5)) A9 tx:=R9.only ((Only.refl _ _).alloc _);rcases hc9 with⟨hc9,rfl,rfl⟩|⟨hc9,rfl,rfl⟩;all_goals (
  go_wp2_with (at_builtin;go_must (refine LM rfl (.tmp 73) (.tmp 74) rfl w2.heap.size (.slice (some ⟨w2.heap.size,0,none⟩) 0 0) [] rfl V6 _ _ tx (4+N-4) (by rw[htn.out];omega) rfl R6 (by have:=htn.out;have:=hN5.out;simp;omega) (by simp) ?_;intro v8 w8 V8 P8 G8;replace V8:=V8.out;rw[List.nil_append] at V8;obtain⟨A8,k8,rfl,R8,q8,m8,a8⟩:=V8.rd;rw[htn.out];have KK0:=(K0.alloc (.cells #[] 5)).only P8 (by simp[Value.ownBlock];omega);have KK1:=(K1.alloc (.cells #[] 5)).only P8 (by simp[Value.ownBlock];omega);have g0:w8.cell? ⟨w.heap.size,0,none⟩=some (.int .i64 0):=KK0.cell 0;have f0:=KK0.frozen 0;have g1:w8.cell? ⟨w.heap.size,1,none⟩=some (.int .u32 0):=KK0.cell 1;have f1:=KK0.frozen 1;have g2:w8.cell? ⟨w.heap.size,2,none⟩=some (.slice none 0 0):=KK0.cell 2;have f2:=KK0.frozen 2;have g3:w8.cell? ⟨w.heap.size,3,none⟩=some (.slice none 0 0):=KK0.cell 3;have f3:=KK0.frozen 3;have d0:w8.cell? ⟨w.heap.size+1,0,none⟩=some (.int .i64 4):=KK1.cell 0;have e0:=KK1.frozen 0;have d1:w8.cell? ⟨w.heap.size+1,1,none⟩=some (.int .u32 0):=KK1.cell 1;have e1:=KK1.frozen 1;have d2:w8.cell? ⟨w.heap.size+1,2,none⟩=some (.slice none 0 0):=KK1.cell 2;have e2:=KK1.frozen 2;have d3:w8.cell? ⟨w.heap.size+1,3,none⟩=some (.slice none 0 0):=KK1.cell 3;have e3:=KK1.frozen 3))
  (try simp only[Exit.inBlock,Exit.then])
  have Y1:Only [w.heap.size+1] w8 (w8.setCell ⟨w.heap.size+1,2,none⟩ (.slice A8 N k8)):=(Only.refl _ _).setCell (p:=⟨w.heap.size+1,2,none⟩) (.inl (by simp)) _;have Y4:=W4.only (w8.setCell ⟨w.heap.size+1,2,none⟩ (.slice A8 N k8)) w.heap.size (.int .i64 4) (.int .u32 0) (.slice A8 N k8) (.slice none 0 0);have B4:=W4.blk (KK0.only Y1 (by simp)) (.int .i64 4) (.int .u32 0) (.slice A8 N k8) (.slice none 0 0);have Y:Only [w.heap.size,w.heap.size+1] w8 (W4 (w8.setCell ⟨w.heap.size+1,2,none⟩ (.slice A8 N k8)) w.heap.size (.int .i64 4) (.int .u32 0) (.slice A8 N k8) (.slice none 0 0)):=(Y1.mono (by simp)).trans Y4 (fun x hx=>.inl (by simp at hx;simp[hx]));refine DA (g:=w.heap.size) (v0:=.int .i64 4) (v1:=.int .u32 0) (v2:=.slice A8 N k8) (v3:=.slice none 0 0) rfl (by rfl) (by rfl) B4 ?_;have hrr:r=⟨0,0,tx,[],l.drop (4+N)⟩:=by rw[←hr.out];exact hT.out
  refine⟨((X2.alloc _).trans P8 (fun x hx=>.inr (by simp[Value.ownBlock] at hx;omega))).trans Y (fun x hx=>.inr (by simp at hx;omega)),⟨4,0,A8,k8,tx,none,0,[]⟩,4+N,?_,fun _=>?_⟩
  ·show Ending.returned (.tuple #[.agg #[.int .i64 4,.int .u32 0,.slice A8 N k8,.slice none 0 0],.int .i64 (4+(N:Int)),.int .i64 0])=Ending.returned (.tuple #[.agg #[.int .i64 4,.int .u32 0,.slice A8 tx.length k8,.slice none 0 0],.int .i64 ((4+N:Nat):Int),.int .i64 r.e]);rw[hrr,htn.out,Int.natCast_add];rfl
  ·rw[hrr];exact⟨rfl,by have:=hln.out;have:=hln2.out;omega,rfl,WF V8 Y (fun x hx=>by simp at hx;omega) (by omega)⟩)
end Go.Proofs.YtkgikodiecmakaaGreatDoor
namespace Go.Proofs.YtkgikodiecmakaaGreatDoor
open Go.RowKit
theorem UY (A:Option Addr) (l:List Int) (c:Nat) (w:World) (h:Rd w A l) (hl: ∀x∈l,0≤x∧x<256) (h4:4≤l.length) (hlc:l.length≤c) (hlm:c≤maxLen) :
  Calls Tryz.prog 50 #[.int .i64 5,.slice A l.length c] w (IM w 5 l (BG 5 l)):=by
 unfold maxLen at hlm;obtain⟨w1,hw1⟩: ∃w1,w1=(w.alloc (.cells #[.int .i64 0,.int .u32 0,.slice none 0 0,.slice none 0 0] 86)).alloc (.cells #[.int .i64 5,.int .u32 0,.slice none 0 0,.slice none 0 0] 86):=⟨_,rfl⟩;have X1:Only [] w w1:=by rw[hw1];exact((Only.refl _ _).alloc _).alloc _
 have hs1:w1.heap.size=w.heap.size+2:=by rw[hw1];simp
 have KA:Blk w1 w.heap.size 86 [.int .i64 0,.int .u32 0,.slice none 0 0,.slice none 0 0]:=by
  rw[hw1];exact(Blk.new w 86 [.int .i64 0,.int .u32 0,.slice none 0 0,.slice none 0 0]).alloc _
 have KB:Blk w1 (w.heap.size+1) 86 [.int .i64 5,.int .u32 0,.slice none 0 0,.slice none 0 0]:=by
  have:=Blk.new (w.alloc (.cells #[.int .i64 0,.int .u32 0,.slice none 0 0,.slice none 0 0] 86)) 86 [.int .i64 5,.int .u32 0,.slice none 0 0,.slice none 0 0];rw[show(w.alloc (.cells #[.int .i64 0,.int .u32 0,.slice none 0 0,.slice none 0 0] 86)).heap.size=w.heap.size+1 by simp] at this;rw[hw1];exact this
 have NB:=JM A l c w1 (h.only X1) h4 hl;have hbe:=ME l hl;obtain⟨ln,hln⟩: ∃ln,l.length=ln:=⟨_,rfl⟩;have i1: ¬(ln:Int)<4:=by omega
 rw[show BG 5 l=FC l from rfl];have t6:=WN l h4;have t3:=QG l h4;have t0:=aU l h4;obtain⟨N,hN⟩:=Int.eq_ofNat_of_zero_le hbe.1;rw[hN,Int.toNat_natCast] at t3 t0;rw[hN] at NB hbe t6;have hbe2:=hbe.2;rw[hln] at NB t3 t0 hlc;obtain⟨r,hr⟩: ∃r,FC l=r:=⟨_,rfl⟩;rw[hr,hln];replace hN:=AB hN;by_cases h6:(32768:Int)<(N:Int)
 ·have hre:r.e=6:=by rw[←hr];exact TH l 6 (t6 h6) (by decide)
  replace hre:=AB hre;replace hr:=AB hr;replace hln:=AB hln;clear t6 t3 t0;go_enter Tryz.func50,Tryz.ntmps50
  go_wp2_with fail
  rw[←hw1];replace hw1:=AB hw1;go_call NB as e w2 ⟨rfl,P2⟩
  have K0:=KA.only P2 (by simp);have K1:=KB.only P2 (by simp);have g0:w2.cell? ⟨w.heap.size,0,none⟩=some (.int .i64 0):=K0.cell 0;have f0:=K0.frozen 0;have g1:w2.cell? ⟨w.heap.size,1,none⟩=some (.int .u32 0):=K0.cell 1;have f1:=K0.frozen 1;have g2:w2.cell? ⟨w.heap.size,2,none⟩=some (.slice none 0 0):=K0.cell 2;have f2:=K0.frozen 2;have g3:w2.cell? ⟨w.heap.size,3,none⟩=some (.slice none 0 0):=K0.cell 3;have f3:=K0.frozen 3;have d0:w2.cell? ⟨w.heap.size+1,0,none⟩=some (.int .i64 5):=K1.cell 0;have e0:=K1.frozen 0;have d1:w2.cell? ⟨w.heap.size+1,1,none⟩=some (.int .u32 0):=K1.cell 1;have e1:=K1.frozen 1;have d2:w2.cell? ⟨w.heap.size+1,2,none⟩=some (.slice none 0 0):=K1.cell 2;have e2:=K1.frozen 2;have d3:w2.cell? ⟨w.heap.size+1,3,none⟩=some (.slice none 0 0):=K1.cell 3;have e3:=K1.frozen 3;go_wp2_with fail
  (try simp only[Exit.inBlock,Exit.then])
  refine DA (g:=w.heap.size) (v0:=.int .i64 5) (v1:=.int .u32 0) (v2:=.slice none 0 0) (v3:=.slice none 0 0) rfl (by rfl) (by rfl) (W4.blk K0 _ _ _ _) ?_;exact⟨(X1.trans P2 (by simp)).trans (W4.only _ _ _ _ _ _) (fun x hx=>.inr (by simp at hx;omega)),⟨5,0,none,0,[],none,0,[]⟩,0,by rw[hre.out];rfl,fun h=>by rw[hre.out] at h;cases h⟩
 have h6':(N:Int)≤32768:=by omega
 by_cases h3:ln<4+N
 ·have hre:r.e=3:=by rw[←hr];exact TH l 3 (t3 h6' h3) (by decide)
  have i2:(ln:Int)-4<(N:Int):=by omega
  replace hre:=AB hre;replace hr:=AB hr;replace hln:=AB hln;replace h3:=AB h3;replace h6':=AB h6';clear t6 t3 t0 hbe hbe2;go_enter Tryz.func50,Tryz.ntmps50
  go_wp2_with fail
  rw[←hw1];replace hw1:=AB hw1;go_call NB as e w2 ⟨rfl,P2⟩
  have K0:=KA.only P2 (by simp);have K1:=KB.only P2 (by simp);have g0:w2.cell? ⟨w.heap.size,0,none⟩=some (.int .i64 0):=K0.cell 0;have f0:=K0.frozen 0;have g1:w2.cell? ⟨w.heap.size,1,none⟩=some (.int .u32 0):=K0.cell 1;have f1:=K0.frozen 1;have g2:w2.cell? ⟨w.heap.size,2,none⟩=some (.slice none 0 0):=K0.cell 2;have f2:=K0.frozen 2;have g3:w2.cell? ⟨w.heap.size,3,none⟩=some (.slice none 0 0):=K0.cell 3;have f3:=K0.frozen 3;have d0:w2.cell? ⟨w.heap.size+1,0,none⟩=some (.int .i64 5):=K1.cell 0;have e0:=K1.frozen 0;have d1:w2.cell? ⟨w.heap.size+1,1,none⟩=some (.int .u32 0):=K1.cell 1;have e1:=K1.frozen 1;have d2:w2.cell? ⟨w.heap.size+1,2,none⟩=some (.slice none 0 0):=K1.cell 2;have e2:=K1.frozen 2;have d3:w2.cell? ⟨w.heap.size+1,3,none⟩=some (.slice none 0 0):=K1.cell 3;have e3:=K1.frozen 3;go_wp2_with fail
  (try simp only[Exit.inBlock,Exit.then])
  refine DA (g:=w.heap.size) (v0:=.int .i64 5) (v1:=.int .u32 0) (v2:=.slice none 0 0) (v3:=.slice none 0 0) rfl (by rfl) (by rfl) (W4.blk K0 _ _ _ _) ?_;exact⟨(X1.trans P2 (by simp)).trans (W4.only _ _ _ _ _ _) (fun x hx=>.inr (by simp at hx;omega)),⟨5,0,none,0,[],none,0,[]⟩,0,by rw[hre.out];rfl,fun h=>by rw[hre.out] at h;cases h⟩
 have i2: ¬(ln:Int)-4<(N:Int):=by omega
 have hT:=t0 h6' (by omega);obtain⟨tx,htx⟩: ∃tx,(l.drop 4).take N=tx:=⟨_,rfl⟩;have htn:tx.length=N:=by rw[←htx,List.length_take,List.length_drop,hln];omega
 rw[htx] at hT;have hwr:IntKind.u32.wrap (4+(N:Int))=4+(N:Int):=by rw[IntKind.wrap_u32];omega
 have hmod:(4+(N:Int)) % 4294967296=4+(N:Int):=by omega
 have j0:(4:Int)≤4+(N:Int):=by omega
 have j1:4+(N:Int)≤(c:Int):=by omega
 have RDX:=fun(w':World) (P:Only [] w w')=>WK (w:=w') (A:=A) (l:=l) c N (h.only P) (by rw[hln];omega) (by rw[hln];exact hlc);replace RDX:=AB RDX;have hlB: ∀x∈tx,0≤x∧x<256:=fun x hx=>hl x (by rw[←htx] at hx;exact List.mem_of_mem_drop (List.mem_of_mem_take hx));replace hlB:=AB hlB;replace htx:=AB htx;replace htn:=AB htn;replace hT:=AB hT;replace hr:=AB hr;have hln2:4+N≤ln:=by omega
 replace hln2:=AB hln2;have hN5:N≤32768:=by omega
 replace hN5:=AB hN5;replace hln:=AB hln;clear t6 t3 t0 h3 h6' hbe hbe2;go_enter Tryz.func50,Tryz.ntmps50
 go_wp2_with fail
 rw[←hw1];replace hw1:=AB hw1;go_call NB as e w2 ⟨rfl,P2⟩
 have K0:=KA.only P2 (by simp);have K1:=KB.only P2 (by simp);have z2:=P2.size;have X2:=X1.trans P2 (by simp);obtain⟨A9,c9,hc9,R9⟩:=RDX.out w2 X2;rw[htx.out] at R9;have SP:=YV A9 tx c9 w2 R9 hlB.out (by have:=htn.out;have:=hN5.out;omega);rw[htn.out] at SP;obtain⟨sr,hsr⟩: ∃sr,PS tx=sr:=⟨_,rfl⟩;rw[hsr] at SP;obtain⟨SE,SL⟩:=sr;have hee:r.e=SE∧(SE=0→r=⟨0,0,[],SL,l.drop (4+N)⟩):=by
  have h1:=hr.out;unfold FC at h1;rw[hT.out] at h1;unfold HF at h1;rw[if_neg (by simp)] at h1;dsimp only at h1;unfold PS at hsr;by_cases hx:tx=[]
  ·rw[if_pos hx] at h1 hsr;injection hsr with e1 e2;subst e1;subst e2;rw[←h1];exact⟨rfl,fun _=>rfl⟩
  ·rw[if_neg hx] at h1 hsr;by_cases hb:CI (CM (strOfNums tx))=0
   ·rw[if_pos hb] at hsr;injection hsr with e1 e2;subst e1;subst e2;rw[←h1];exact⟨hb,fun _=>by rw[hb]⟩
   ·rw[if_neg hb] at hsr;injection hsr with e1 e2;subst e1;rw[←h1];exact⟨rfl,fun h0=>absurd h0 hb⟩
 have hss: ∀s∈SL,s.size≤maxLen:=by
  intro s hs;have h1:s∈CM (strOfNums tx):=by
   unfold PS at hsr;by_cases hx:tx=[]
   ·rw[if_pos hx] at hsr;injection hsr with e1 e2;rw[←e2] at hs;simp at hs
   ·rw[if_neg hx] at hsr;by_cases hb:CI (CM (strOfNums tx))=0
    ·rw[if_pos hb] at hsr;injection hsr with e1 e2;rw[e2];exact hs
    ·rw[if_neg hb] at hsr;injection hsr with e1 e2;rw[←e2] at hs;simp at hs
  have h2:s.data.toList∈GB (strOfNums tx).data.toList:=by rw[←LI];exact List.mem_map_of_mem h1
  have h3:=RI _ _ h2;have h4:=ND tx;unfold NC at h4;have h5:s.size=s.data.toList.length:=by simp
  have:=htn.out;have:=hN5.out;unfold maxLen;omega
 replace hee:=AB hee;replace hss:=AB hss;replace hsr:=AB hsr;rcases hc9 with⟨hc9,rfl,rfl⟩|⟨hc9,rfl,rfl⟩;all_goals (
  (try rw[map_four] at SP)
  go_wp2_with fail
  go_call SP as e w8 ⟨P8,v8,rfl,V8⟩
  obtain⟨A8,k8,rfl,R8,q8,m8,a8⟩:=V8.rd;have KK0:=K0.only P8 (by simp);have KK1:=K1.only P8 (by simp);have z8:=P8.size;dsimp only at V8⊢;have g0:w8.cell? ⟨w.heap.size,0,none⟩=some (.int .i64 0):=KK0.cell 0;have f0:=KK0.frozen 0;have g1:w8.cell? ⟨w.heap.size,1,none⟩=some (.int .u32 0):=KK0.cell 1;have f1:=KK0.frozen 1;have g2:w8.cell? ⟨w.heap.size,2,none⟩=some (.slice none 0 0):=KK0.cell 2;have f2:=KK0.frozen 2;have g3:w8.cell? ⟨w.heap.size,3,none⟩=some (.slice none 0 0):=KK0.cell 3;have f3:=KK0.frozen 3;have d0:w8.cell? ⟨w.heap.size+1,0,none⟩=some (.int .i64 5):=KK1.cell 0;have e0:=KK1.frozen 0;have d1:w8.cell? ⟨w.heap.size+1,1,none⟩=some (.int .u32 0):=KK1.cell 1;have e1:=KK1.frozen 1;have d2:w8.cell? ⟨w.heap.size+1,2,none⟩=some (.slice none 0 0):=KK1.cell 2;have e2:=KK1.frozen 2;have d3:w8.cell? ⟨w.heap.size+1,3,none⟩=some (.slice none 0 0):=KK1.cell 3;have e3:=KK1.frozen 3;go_wp2_with fail
  (try simp only[Exit.inBlock,Exit.then])
  have Y1:Only [w.heap.size+1] w8 (w8.setCell ⟨w.heap.size+1,3,none⟩ (.slice A8 SL.length k8)):=(Only.refl _ _).setCell (p:=⟨w.heap.size+1,3,none⟩) (.inl (by simp)) _;have Y4:=W4.only (w8.setCell ⟨w.heap.size+1,3,none⟩ (.slice A8 SL.length k8)) w.heap.size (.int .i64 5) (.int .u32 0) (.slice none 0 0) (.slice A8 SL.length k8);have B4:=W4.blk (KK0.only Y1 (by simp)) (.int .i64 5) (.int .u32 0) (.slice none 0 0) (.slice A8 SL.length k8);have Y:Only [w.heap.size,w.heap.size+1] w8 (W4 (w8.setCell ⟨w.heap.size+1,3,none⟩ (.slice A8 SL.length k8)) w.heap.size (.int .i64 5) (.int .u32 0) (.slice none 0 0) (.slice A8 SL.length k8)):=(Y1.mono (by simp)).trans Y4 (fun x hx=>.inl (by simp at hx;simp[hx]));refine DA (g:=w.heap.size) (v0:=.int .i64 5) (v1:=.int .u32 0) (v2:=.slice none 0 0) (v3:=.slice A8 SL.length k8) rfl (by rfl) (by rfl) B4 ?_;refine⟨(X2.trans P8 (by simp)).trans Y (fun x hx=>.inr (by simp at hx;omega)),⟨5,0,none,0,[],A8,k8,SL⟩,4+N,?_,fun h0=>?_⟩
  ·show Ending.returned (.tuple #[.agg #[.int .i64 5,.int .u32 0,.slice none 0 0,.slice A8 SL.length k8],.int .i64 (4+(N:Int)),.int .i64 SE])=Ending.returned (.tuple #[.agg #[.int .i64 5,.int .u32 0,.slice none 0 0,.slice A8 SL.length k8],.int .i64 ((4+N:Nat):Int),.int .i64 r.e]);rw[hee.out.1,Int.natCast_add];rfl
  ·have hrr:=hee.out.2 (by rw[←hee.out.1];exact h0);rw[hrr];exact⟨rfl,by have:=hln.out;have:=hln2.out;omega,rfl,mine_list V8 Y (fun x hx=>by simp at hx;omega) (by omega) hss.out⟩)
theorem take_any (k:Int) (h1:1≤k) (h6:k≤6) (A:Option Addr) (l:List Int) (c:Nat) (w:World) (h:Rd w A l) (hl: ∀x∈l,0≤x∧x<256) (hlen:l.length≤140737488355000) (hlc:l.length≤c) (hlm:c≤maxLen) :
  Calls Tryz.prog 50 #[.int .i64 k,.slice A l.length c] w (IM w k l (BG k.toNat l)):=by
 by_cases h12:k=1∨k=2
 ·exact dH k h12 A l c w h hl hlen
 by_cases h66:k=6
 ·subst h66;exact take_rest A l c w h hlen
 by_cases h4:l.length<4
 ·exact UZ k (by omega) A l c w h4
 have hk:k=3∨k=4∨k=5:=by omega
 rcases hk with rfl|rfl|rfl;·exact bR A l c w h hl (by omega)
 ·exact YW A l c w h hl (by omega) hlc hlm
 ·exact UY A l c w h hl (by omega) hlc hlm
end Go.Proofs.YtkgikodiecmakaaGreatDoor
namespace Go.Proofs.YtkgikodiecmakaaGreatDoor
open Go.RowKit
theorem part_drop {w:World} {A:Option Addr} {l:List Int} (c T:Nat) (h:Rd w A l) (hT:T≤l.length) (hc:l.length≤c) (hm:c≤maxLen) :
  ∃A9 c9,((c=T∧A9=A∧c9=0)∨(¬c=T∧A9=(A.map fun x=>x.add T)∧c9=c-T))∧Rd w A9 (l.drop T)∧(l.drop T).length≤c9∧c9≤maxLen:=by
 by_cases hck:c=T
 ·refine⟨A,0,.inl ⟨hck,rfl,rfl⟩,?_,by rw[List.length_drop];omega,Nat.zero_le _⟩;rw[List.drop_eq_nil_of_le (by omega)];exact RdG.nil (mk:=.int .u8)
 ·exact⟨_,_,.inr ⟨hck,rfl,rfl⟩,RdG.drop (mk:=.int .u8) h T,by rw[List.length_drop];omega,by omega⟩
def ZQ (w:World) (res:Int×List PF):Ending→World→Prop:=fun E w'=>
 Only [] w w'∧∃A cap fs,E = .returned (.tuple #[.slice A fs.length cap,.int .i64 res.1])∧fs.map FD.pf=res.2∧EZ w' w.heap.size (.slice A fs.length cap) fs∧∀f∈fs,FD.ok w' f
def MY (w:World) (res:Int×List PF):Ending→World→Prop:=fun E w'=>
 Only [] w w'∧∃A cap fs,E = .returned (.tuple #[.slice A fs.length cap,.int .i64 res.1])∧fs.map FD.pf=res.2∧EZ w' w.heap.size (.slice A fs.length cap) fs∧∀f∈fs,FD.mine w' f w.heap.size
theorem GW (w w':World) (e:Int) (h:Only [] w w'):MY w (e,[]) (.returned (.tuple #[.slice none 0 0,.int .i64 e])) w':=
 ⟨h,none,0,[],rfl,rfl,LH _ _,fun f hf=>by simp at hf⟩
structure RRL (w wr : World) (ks : List Int) (res : Int × List PF) (k : Nat) (v : Value) (fs : List FD) (A : Option Addr) (cap : Nat) (rest : List Int) : Prop where
  res : res = BQ (ks.drop k) rest (fs.map FD.pf)
  rd : Rd w A rest
  bytes : ∀ x ∈ rest, 0 ≤ x ∧ x < 256
  few : rest.length ≤ 140737488355000
  le : rest.length ≤ cap
  max : cap ≤ maxLen
  own : EZ wr w.heap.size v fs
  mine : ∀ f ∈ fs, FD.mine wr f w.heap.size ∧ f.off v
  num : fs.length = k
  only : Only [] w wr
theorem OD (w:World) (kA lA:Option Addr) (ks l:List Int) (kc lc:Nat) (hk:RdI w kA ks) (h:Rd w lA l) (hl: ∀x∈l,0≤x∧x<256)
  (hkn:ks.length<1000000) (hln:l.length≤140737488355000) (hlc:l.length≤lc) (hlm:lc≤maxLen) :
  Calls Tryz.prog 38 #[.slice kA ks.length kc,.slice lA l.length lc] w (MY w (EJ ks l)):=by
 have KN:=YT kA ks kc w hk (by unfold maxLen;omega);by_cases hr:JE ks=true
 ·rw[show EJ ks l=BQ ks l [] from if_pos hr];rw[hr] at KN;obtain⟨n,hn⟩: ∃n,n=ks.length:=⟨_,rfl⟩;rw[←hn] at KN hkn⊢;obtain⟨res,hres⟩: ∃res,res=BQ ks l []:=⟨_,rfl⟩;rw[←hres];replace hres:=AB hres;replace hn:=AB hn;have H0:RRL w w ks res 0 (.slice none 0 0) [] lA lc l:=⟨by simpa using hres.out,h,hl,hln,hlc,hlm,LH _ _,fun f hf=>by simp at hf,rfl,Only.refl _ _⟩;obtain⟨ll,hll⟩: ∃ll,l.length=ll:=⟨_,rfl⟩;rw[hll];replace hll:=AB hll;go_enter Tryz.func38,Tryz.ntmps38
  go_wp2_with fail
  go_call KN as e w1 ⟨rfl,rfl⟩
  clear KN;go_wp2_with fail
  go_loopw [17,6,1] (fun i o s wr=>∃(k:Nat) (v:Value) (fs:List FD) (A:Option Addr) (cap:Nat) (rest:List Int),k≤n∧i = .int .i64 k∧v=o∧s = .slice A rest.length cap∧RRL w wr ks res k v fs A cap rest) (fun i _ _ _=>n-(intOf i).toNat)
  case atStart=>exact⟨0,_,[],lA,lc,l,by omega,rfl,rfl,by rw[hll.out],H0⟩
  case round=>
   obtain⟨wo,rfl⟩: ∃wo:World,wo=wr:=⟨_,rfl⟩;obtain⟨k,v,fs,A,cap,rest,hkn2,rfl,rfl,rfl,H⟩:=hrel;have z0:=H.only.size;have hob:=H.own.block;have hmax:=H.max;have hle:=H.le;by_cases hlt:k<n
   ·obtain⟨b,off,x,rfl,hb,hx,cx⟩:=(hk.only H.only).at k (by have:=hn.out;omega);obtain⟨x1,x6⟩:=TN hr hx;have TK:=take_any x x1 x6 A rest cap wo (H.rd.only H.only) H.bytes H.few hle hmax;have hdrop:ks.drop k=x::ks.drop (k+1):=by
     have hki:k<ks.length:=by have:=hn.out;omega
     rw[List.drop_eq_getElem_cons hki];congr 1
     rw[List.getElem?_eq_getElem hki] at hx;injection hx
    have hres2:=H.res;rw[hdrop] at hres2;unfold BQ at hres2;obtain⟨r,hrk⟩: ∃r,BG x.toNat rest=r:=⟨_,rfl⟩;rw[hrk] at TK hres2;obtain⟨rl,hrl⟩: ∃rl,rest.length=rl:=⟨_,rfl⟩;rw[hrl] at TK hle⊢;unfold maxLen at hmax;replace hrk:=AB hrk;replace hrl:=AB hrl;replace hres2:=AB hres2;replace hx:=AB hx;replace hdrop:=AB hdrop;go_wp2_with fail
    go_call TK as e w4 ⟨P4,f,nn,rfl,hok⟩
    clear TK;have z4:=P4.size;obtain⟨E,N,tx,ls,rs⟩:=r;dsimp only at hok⊢;by_cases hE:E=0
    ·subst hE;have hE2:((0:Int)!=0)=false:=rfl;obtain⟨hpf,hnn,hrest,my⟩:=hok rfl;rw[hrl.out] at hnn;obtain⟨A9,c9,hc9,R9,l9,m9⟩:=part_drop cap nn H.rd (by rw[hrl.out];exact hnn) H.le H.max;have i1:(nn:Int)≤(rl:Int):=by omega
     have i2:(nn:Int)≤(cap:Int):=by omega
     have X5:Only [] wo ((w4.alloc (.cells #[.int .i64 f.kind,.int .u32 f.n,.slice f.tA f.text.length f.tc,.slice f.lA f.list.length f.lc] 86)).alloc (.cells #[.int .i64 f.kind,.int .u32 f.n,.slice f.tA f.text.length f.tc,.slice f.lA f.list.length f.lc] 86)):=(P4.alloc _).alloc _;have V5:=H.own.far X5 (fun x hx=>by simp at hx);have B5:Blk ((w4.alloc (.cells #[.int .i64 f.kind,.int .u32 f.n,.slice f.tA f.text.length f.tc,.slice f.lA f.list.length f.lc] 86)).alloc (.cells #[.int .i64 f.kind,.int .u32 f.n,.slice f.tA f.text.length f.tc,.slice f.lA f.list.length f.lc] 86)) (w4.heap.size+1) 86 f.cells:=by
      have:=Blk.new (w4.alloc (.cells #[.int .i64 f.kind,.int .u32 f.n,.slice f.tA f.text.length f.tc,.slice f.lA f.list.length f.lc] 86)) 86 [.int .i64 f.kind,.int .u32 f.n,.slice f.tA f.text.length f.tc,.slice f.lA f.list.length f.lc];rw[show(w4.alloc (.cells #[.int .i64 f.kind,.int .u32 f.n,.slice f.tA f.text.length f.tc,.slice f.lA f.list.length f.lc] 86)).heap.size=w4.heap.size+1 by simp] at this;exact this
     have mg:=my.only (((Only.refl [] w4).alloc (.cells #[.int .i64 f.kind,.int .u32 f.n,.slice f.tA f.text.length f.tc,.slice f.lA f.list.length f.lc] 86)).alloc (.cells #[.int .i64 f.kind,.int .u32 f.n,.slice f.tA f.text.length f.tc,.slice f.lA f.list.length f.lc] 86));have hfew:fs.length<1000000:=by rw[H.num];omega
     have hbase:w.heap.size≤((w4.alloc (.cells #[.int .i64 f.kind,.int .u32 f.n,.slice f.tA f.text.length f.tc,.slice f.lA f.list.length f.lc] 86)).alloc (.cells #[.int .i64 f.kind,.int .u32 f.n,.slice f.tA f.text.length f.tc,.slice f.lA f.list.length f.lc] 86)).heap.size:=Nat.le_trans z0 X5.size;have hres3:res=BQ (ks.drop (k+1)) (rest.drop nn) ((fs++[f]).map FD.pf):=by
      have e1:=hres2.out;rw[if_neg (by simp)] at e1;rw[e1,List.map_append,List.map_cons,List.map_nil,hpf,hrest]
     replace hres3:=AB hres3;replace hpf:=AB hpf;replace hrest:=AB hrest;unfold FD.val;clear hres2 hok;rcases hc9 with⟨hc9,rfl,rfl⟩|⟨hc9,rfl,rfl⟩;all_goals (
      go_wp2_with (at_builtin;go_must (refine QP rfl (.tmp 31) (.tmp 33) rfl w.heap.size v fs rfl V5 (w4.heap.size+1) f rfl B5 hfew hbase ?_;intro A9' k9 w9 V9 P9 G9))
      go_roundw
      case rel=>
       refine⟨k+1,_,fs++[f],_,_,rest.drop nn,by omega,by go_num,rfl,?_,⟨hres3.out,R9,fun y hy=>H.bytes y (List.mem_of_mem_drop hy),by rw[List.length_drop];have:=H.few;omega,l9,m9,V9.out,mine_snoc X5 P9 G9.out hob H.mine mg z0,by rw[List.length_append,H.num];rfl,(H.only.trans X5 (by simp)).trans P9 (fun x hx=>.inr (hob x (by simpa using hx)).1)⟩⟩;rw[List.length_drop,hrl.out]
      case measure=>simp[intOf];omega)
    ·have hE2:(E !=0)=true:=by simpa using hE
     have hfin:res=(E,[]):=by
      have e1:=hres2.out;rw[if_pos hE] at e1;exact e1
     replace hfin:=AB hfin;unfold FD.val;clear hres2 hok;go_wp2_with fail
     go_ret2
     rw[hfin.out];exact GW _ _ _ (H.only.trans (P4.alloc _) (by simp))
   ·obtain rfl:k=n:=by omega
    have hres2:=H.res;rw[List.drop_eq_nil_of_le (by have:=hn.out;omega)] at hres2;unfold BQ at hres2;obtain⟨rl,hrl⟩: ∃rl,rest.length=rl:=⟨_,rfl⟩;rw[hrl] at hres2⊢;by_cases h0:0<rl
    ·rw[if_pos h0] at hres2;have h0':(0:Int)<(rl:Int):=by omega
     replace hres2:=AB hres2;go_wp2_with fail
     go_ret2
     rw[hres2.out];exact GW _ _ _ H.only
    ·rw[if_neg h0] at hres2;have h0': ¬(0:Int)<(rl:Int):=by omega
     obtain⟨A',cap',rfl,_,_,_⟩:=H.own.form;have V:=H.own;have M:=H.mine;have OO:=H.only;replace hres2:=AB hres2;go_wp2_with fail
     go_ret2
     rw[hres2.out];exact⟨OO,A',cap',fs,rfl,rfl,V,fun f hf=>(M f hf).1⟩
 ·have hr':JE ks=false:=by simpa using hr
  rw[hr'] at KN;rw[show EJ ks l=(2,[]) from if_neg hr];obtain⟨ll,hll⟩: ∃ll,l.length=ll:=⟨_,rfl⟩;rw[hll];go_enter Tryz.func38,Tryz.ntmps38
  go_wp2_with fail
  go_call KN as e w1 ⟨rfl,rfl⟩
  go_wp2_with fail
  go_ret2
  exact GW _ _ _ (Only.refl _ _)
theorem DS (w:World) (kA lA:Option Addr) (ks l:List Int) (kc lc:Nat) (hk:RdI w kA ks) (h:Rd w lA l) (hl: ∀x∈l,0≤x∧x<256)
  (hkn:ks.length<1000000) (hln:l.length≤140737488355000) (hlc:l.length≤lc) (hlm:lc≤maxLen) :
  Calls Tryz.prog 38 #[.slice kA ks.length kc,.slice lA l.length lc] w (ZQ w (EJ ks l)):=
 (OD w kA lA ks l kc lc hk h hl hkn hln hlc hlm).mono fun _ _ ⟨h1,A,cap,fs,h2,h3,h4,h5⟩=>⟨h1,A,cap,fs,h2,h3,h4,fun f hf=>(h5 f hf).ok⟩
def cD (w:World) (s:ByteArray) (l:List Int):Ending→World→Prop:=fun e w'=>Only [] w w'∧∃(m:RQ) (E:Int),e = .returned (.tuple #[m.val,.int .i64 E])∧m.ok w'∧CL s l m E
def CK (w:World) (s:ByteArray) (l:List Int):Ending→World→Prop:=fun e w'=>Only [] w w'∧∃(m:RQ) (E:Int),e = .returned (.tuple #[m.val,.int .i64 E])∧m.ok w'∧CL s l m E∧∀a,m.mA=some a→0<m.modes.length→w.heap.size≤a.block
theorem BZ {w:World} {q:Nat} {m:RQ} {A:Option Addr} {l:List Int} (K:Blk w q 70 m.cells) (h:RdG (.int .u8) w A l) (h0:0<l.length) (a:Addr) (ha:A=some a):a.block≠q:=by
 obtain⟨b,off,e,hb,hc⟩:=h h0;rw[e] at ha;injection ha with ha;subst ha;intro hbq;dsimp only at hbq;subst hbq;have hx:l[0]? = some (l[0]'h0):=List.getElem?_eq_getElem h0;have:=hc 0 _ hx;rw[Nat.add_zero,K.cell off] at this;have hm:=List.mem_of_getElem? this;simp[RQ.cells] at hm
theorem RQ.ok.onlyN {w w':World} {q:Nat} {m:RQ} (h:m.ok w) (hb:Only [q] w w') (hn: ∀a,m.mA=some a→0<m.modes.length→a.block≠q):m.ok w':=
 { h with modes:=RdG.onlyL h.modes hb (fun a ha h0=>by have:=hn a ha h0;simp;omega) }
def CO (k i:Nat):Int:=if k<i then(k:Int) else 0
theorem ED {k i:Nat} (h:i≠k):CO k (i+1)=CO k i:=by
 unfold CO;by_cases h1:k<i
 ·rw[if_pos h1,if_pos (by omega)]
 ·rw[if_neg h1,if_neg (by omega)]
def BU (x:Int):List Value:=[.int .i64 x,.string ⟨#[]⟩,.string ⟨#[]⟩,.string ⟨#[]⟩,.int .u32 0,.int .u32 0,.int .u32 0,.int .u32 0,.slice none 0 0,.bool false,.int .u32 0]
theorem DW (x y:Int):(BU x).set 0 (.int .i64 y)=BU y:=rfl
theorem HE {w:World} {fs:List FD} (k:Nat) (h1:1≤k) (h2:k≤10) (hk:fs.map (fun f=>f.pf.kind)=AC k) (hm: ∀f∈fs,FD.ok w f) (hn: ∀f∈fs,U32 f.n∧InB f.text):(DD (AL k) k fs).ok w:=by
 have z0:(AL k).ok w:=DP w k;have hs: ∀f∈fs,(strOfNums f.text).size≤maxLen:=fun f hf=>by rw[bM];exact Nat.le_trans (hm f hf).tle (hm f hf).tmax
 have z:U32 0:=⟨by decide,by decide⟩;rcases k10 h1 h2 with rfl|rfl|rfl|rfl|rfl|rfl|rfl|rfl|rfl|rfl
 ·obtain⟨x1,x2,x3,x4,x5,x6,rfl,_⟩:=ks6 hk;exact { z0 with text:=hs x1 (by simp),nums:=⟨(hn x2 (by simp)).1,(hn x3 (by simp)).1,(hn x4 (by simp)).1,(hn x5 (by simp)).1,z⟩,modes:=(hm x6 (by simp)).text,mle:=(hm x6 (by simp)).tle,mmax:=(hm x6 (by simp)).tmax,bytes:=(hn x6 (by simp)).2 }
 ·obtain⟨x1,x2,rfl,_⟩:=ks2 hk;exact { z0 with text:=hs x1 (by simp),value:=hs x2 (by simp) }
 ·exact z0
 ·obtain⟨x1,rfl,_⟩:=ks1 hk;exact { z0 with text:=hs x1 (by simp) }
 ·obtain⟨x1,rfl,_⟩:=ks1 hk;exact { z0 with text:=hs x1 (by simp) }
 ·obtain⟨x1,x2,x3,x4,rfl,_⟩:=ks4 hk;exact { z0 with nums:=⟨(hn x1 (by simp)).1,(hn x2 (by simp)).1,(hn x3 (by simp)).1,(hn x4 (by simp)).1,z⟩ }
 ·obtain⟨x1,rfl,_⟩:=ks1 hk;exact { z0 with }
 ·obtain⟨x1,rfl,_⟩:=ks1 hk;exact { z0 with text:=hs x1 (by simp) }
 ·obtain⟨x1,rfl,_⟩:=ks1 hk;exact { z0 with nums:=⟨z,z,z,z,(hn x1 (by simp)).1⟩ }
 ·obtain⟨x1,x2,x3,x4,rfl,_⟩:=ks4 hk;exact { z0 with text:=hs x1 (by simp),value:=hs x3 (by simp),lang:=hs x4 (by simp) }
theorem JO {x y:ByteArray} (h:x=y):(x.toList==y.toList)=true:=by rw[h];simp
end Go.Proofs.YtkgikodiecmakaaGreatDoor
