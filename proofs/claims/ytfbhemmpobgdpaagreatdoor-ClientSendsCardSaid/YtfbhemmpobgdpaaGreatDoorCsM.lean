/- ClientSends: lemmas, from 'Layer 4: Encode' on; what each asks for stands in it. -/
import Derived.Test.YtfbhemmpobgdpaaGreatDoorCsJ
import Derived.Test.YtfbhemmpobgdpaaGreatDoorCsF
import Derived.Test.YtfbhemmpobgdpaaGreatDoorCsE
import Derived.Test.YtfbhemmpobgdpaaGreatDoorCsL
set_option linter.all false
set_option maxRecDepth 100000
set_option maxHeartbeats 64000000
namespace Go.Proofs.YtfbhemmpobgdpaaGreatDoor
open Go.RowKit
def LB (w:World) (m:RQ):Ending->World->Prop:=fun e w'=>Only [] w w'/\∃v,e = .returned (.tuple #[.string (BF m),v,.int .i64 (BL m).1])/\DR w' w.heap.size v (BL m).2
theorem WT: ∀(fs:List FD) (i:Nat) (f:FD) (x:Int),fs[i]? = some f->(AZ fs).set (i*4) (.int .i64 x)=AZ (fs.set i { f with kind:=x })
 |[],i,f,x,h=>by simp at h
 |g::fs,0,f,x,h=>by
  simp at h;subst h;rfl
 |g::fs,i+1,f,x,h=>by
  simp at h;have ih:=WT fs i f x h;unfold AZ at ih⊢;rw[List.set_cons_succ,qG,qG,<-ih];have e:(i+1)*4=g.cells.length+i*4:=by simp[FD.cells];omega
  rw[e,List.set_append_right _ _ (by omega)];congr 2
  omega
theorem ownF_set {w:World} {base g cap n:Nat} {fs:List FD} (hn:fs.length=n) (h:FY w base (.slice (some ⟨g,0,none⟩) n cap) fs) (i:Nat) (f:FD) (x:Int) (hi:fs[i]? = some f) :
  FY (w.setCell ⟨g,i*4,none⟩ (.int .i64 x)) base (.slice (some ⟨g,0,none⟩) n cap) (fs.set i { f with kind:=x }):=by
 subst hn;have:=(World.ownsRow.stored h (i*4) (.int .i64 x)).1;show World.ownsRow _ _ _ _ _ _ _;rw[List.length_set,<-WT fs i f x hi];exact this
theorem ownF_at {w:World} {base g cap n:Nat} {fs:List FD} (hn:fs.length=n) (h:FY w base (.slice (some ⟨g,0,none⟩) n cap) fs) (i:Nat) (f:FD) (hi:fs[i]? = some f) :
  w.cell? ⟨g,i*4,none⟩=some (.int .i64 f.kind)/\w.frozen? ⟨g,i*4,none⟩=false:=by
 subst hn;have hl:i<fs.length:=(List.getElem?_eq_some_iff.1 hi).1;refine⟨?_,World.ownsRow.frozenAt h _⟩;rw[World.ownsRow.cellAt h (i*4) (by omega),<-Nat.add_zero (i*4),TD fs i f 0 hi (by decide)];rfl
theorem ok_setC {w:World} {f:FD} {g i n cap:Nat} {u:Value} (h:FD.ok w f) (ho:f.off (.slice (some ⟨g,0,none⟩) n cap)):FD.ok (w.setCell ⟨g,i,none⟩ u) f:=by
 have P:Only [g] w (w.setCell ⟨g,i,none⟩ u):=(Only.refl [g] w).setCell (p:=⟨g,i,none⟩) (.inl (by simp)) u;exact { h with text:=h.text.onlyL P (fun a ha h0 hx=>ho.1 a ha h0 (by simp at hx;rw[hx];rfl)),list:=h.list.onlyL P (fun a ha h0 hx=>ho.2 a ha h0 (by simp at hx;rw[hx];rfl)) }
theorem set_mid {α:Type} (l m:List α) (k:Nat) (x:α) (hl:l.length=m.length) (hx:l[k]? = some x):(l.take k++m.drop k).set k x=l.take (k+1)++m.drop (k+1):=by
 have hk:k<l.length:=(List.getElem?_eq_some_iff.1 hx).1;rw[List.set_append_right _ _ (by simp;omega)];have e:k-(l.take k).length=0:=by simp;omega
 rw[e,List.drop_eq_getElem_cons (by omega:k<m.length),List.set_cons_zero,List.take_succ,hx];simp
def MidP (m:RQ) (k i:Nat):List PF:=(BG m k).take i++((BG m k).map (fun p=>{ p with kind:=0 })).drop i
theorem mid_step (m:RQ) (k i:Nat) (p:PF) (hp:(BG m k)[i]? = some p) (fs:List FD) (f:FD) (hf:fs[i]? = some f) (h:fs.map FD.pf=MidP m k i):(fs.set i { f with kind:=p.kind }).map FD.pf=MidP m k (i+1):=by
 have hil:i<(BG m k).length:=(List.getElem?_eq_some_iff.1 hp).1;rw[List.map_set,h];unfold MidP;have hfp:FD.pf { f with kind:=p.kind }=p:=by
  have e1:(fs.map FD.pf)[i]? = some f.pf:=by rw[List.getElem?_map,hf];rfl
  rw[h] at e1;unfold MidP at e1;rw[List.getElem?_append_right (by simp;omega),List.getElem?_drop] at e1;have e2:i+(i-((BG m k).take i).length)=i:=by simp;omega
  rw[e2,List.getElem?_map,hp] at e1;have e3:f.pf = { p with kind:=0 }:=by simpa using e1.symm
  have n1:f.n=p.n:=congrArg PF.n e3;have n2:f.text=p.text:=congrArg PF.text e3;have n3:f.list=p.list:=congrArg PF.list e3;unfold FD.pf;dsimp only;rw[n1,n2,n3]
 rw[hfp];exact set_mid _ _ i p (by simp) hp
theorem mid0 {m:RQ} {k:Nat} {fs:List FD} (h:fs.map FD.pf=(BG m k).map (fun p=>{ p with kind:=0 })):fs.map FD.pf=MidP m k 0:=by
 rw[h];rfl
theorem mid_end (m:RQ) (k n:Nat) (h:(BG m k).length=n):MidP m k n=BG m k:=by
 unfold MidP;rw[List.take_of_length_le (by omega),List.drop_of_length_le (by simp;omega),qN]
theorem mem_set {α:Type} {l:List α} {i:Nat} {x:α} {P:α->Prop} (h: ∀y∈l,P y) (hx:P x): ∀y∈l.set i x,P y:=fun y hy=>by
 rcases List.mem_or_eq_of_mem_set hy with h1|rfl;·exact h y h1
 ·exact hx
theorem encR_none {m:RQ} (h: ¬(1<=m.kind/\m.kind<=10)):BL m=(8,[]):=if_neg h
theorem encR_ask {m:RQ} {k:Nat} (h1:1<=k) (h2:k<=10) (hk:m.kind=k) (h:NO m k≠0):BL m=(NO m k,[]):=by
 unfold BL;rw[hk,Int.toNat_natCast,if_pos (by omega),if_pos h]
theorem encR_go {m:RQ} {k:Nat} (h1:1<=k) (h2:k<=10) (hk:m.kind=k) (h:NO m k=0):BL m=HA (BG m k):=by
 unfold BL;rw[hk,Int.toNat_natCast,if_pos (by omega),if_neg (by simpa using h)]
theorem eR {m:RQ} (h:(BL m).1≠0):BF m=⟨#[]⟩:=if_neg h
theorem jD {m:RQ} {k:Nat} (hk:m.kind=k) (h:(BL m).1=0):BF m=JD k:=by
 unfold BF;rw[if_pos h,hk,Int.toNat_natCast]
theorem NR (w w':World) (m:RQ) (E:Int) (h:BL m=(E,[])) (hE:E≠0) (P:Only [] w w'):LB w m (.returned (.tuple #[.string ⟨#[]⟩,.slice none 0 0,.int .i64 E])) w':=by
 unfold LB;rw[eR (by rw[h];exact hE),h];exact⟨P,_,rfl,XS _ _⟩
theorem gT (m:RQ) (w:World) (hm:m.ok w) (hs:m.text.size<=140737488355328) (hv:m.value.size<=140737488355328) (hl:m.lang.size<=140737488355328):Calls Tryz.prog 66 #[m.val] w (LB w m):=by
 obtain⟨w1,hw1⟩:=qY (w.alloc (.cells #[.int .i64 m.kind,.string m.text,.string m.value,.string m.lang,.int .u32 m.cols,.int .u32 m.rows,.int .u32 m.width,.int .u32 m.height,.slice m.mA m.modes.length m.mc,.bool m.on,.int .u32 m.code] 41));have P1:Only [] w w1:=by rw[hw1];exact(zR _ _).alloc _
 have K1:Blk w1 w.heap.size 41 m.cells:=by rw[hw1];exact Blk.new w _ _
 unfold RQ.val;by_cases hk:1<=m.kind/\m.kind<=10
 ·obtain⟨k,hkk⟩:=Int.eq_ofNat_of_zero_le (show 0<=m.kind by omega);have h1:1<=k:=by omega
  have h2:k<=10:=by omega
  have OF:=rof_any k h1 h2 w1;rw[<-hkk] at OF;obtain⟨F1,hF1,cF1,C1⟩:=rget_any k h1 h2;obtain⟨F3,hF3,cF3,C3⟩:=ask_any k h1 h2;have hen:NO m k=0->BL m=HA (BG m k):=encR_go h1 h2 hkk;have hea:NO m k≠0->BL m=(NO m k,[]):=encR_ask h1 h2 hkk;have hnk:(BL m).1=0->BF m=JD k:=jD hkk;obtain⟨n,hn⟩:=qX ((CQ k).length);obtain⟨nm,hnm⟩:=qX (JD k);obtain⟨F2,hF2⟩: ∃F,rput k=F:=⟨_,rfl⟩;obtain⟨E0,hE0⟩: ∃E,NO m k=E:=⟨_,rfl⟩;rw[hE0] at hen hea;have hpk:=fZ m k h1 h2;have hn10:n<=10:=by rw[<-hn];rcases k10 h1 h2 with rfl|rfl|rfl|rfl|rfl|rfl|rfl|rfl|rfl|rfl<;>decide
  have hpl:(BG m k).length=n:=by rw[<-hn,<-hpk,List.length_map]
  replace hen:=AB hen;replace hea:=AB hea;replace hnk:=AB hnk;replace hpl:=AB hpl;replace hpk:=AB hpk;replace hkk:=AB hkk;replace C1:=AB C1;replace C3:=AB C3;replace hk:=AB hk;go_enter Tryz.func66,Tryz.ntmps66
  go_wp2_with fail
  rw[<-hw1];replace hw1:=AB hw1;go_call OF as e w2 ⟨P2,KA,rfl,R2⟩
  clear OF;unfold VB rfn;rw[hn,hF1,hF2,hF3,hnm];replace hn:=AB hn;replace hF1:=AB hF1;replace hF2:=AB hF2;replace hF3:=AB hF3;replace hnm:=AB hnm;have K2:=K1.only P2 (by simp);have Q2:Only [] w w2:=P1.trans P2 (by simp);have B3:Blk (w2.alloc (.cells #[.string nm,.slice KA n n,.func (Fn.func F1) #[] #[],.func (Fn.func F2) #[] #[],.func (Fn.func F3) #[] #[]] 212)) w2.heap.size 212 [.string nm,.slice KA n n,.func (Fn.func F1) #[] #[],.func (Fn.func F2) #[] #[],.func (Fn.func F3) #[] #[]]:=Blk.new _ _ _;have P3:Only [] w2 (w2.alloc (.cells #[.string nm,.slice KA n n,.func (Fn.func F1) #[] #[],.func (Fn.func F2) #[] #[],.func (Fn.func F3) #[] #[]] 212)):=(zR _ _).alloc _;have z3:(w2.alloc (.cells #[.string nm,.slice KA n n,.func (Fn.func F1) #[] #[],.func (Fn.func F2) #[] #[],.func (Fn.func F3) #[] #[]] 212)).heap.size=w2.heap.size+1:=by simp
  obtain⟨w3,hw3⟩:=qY (w2.alloc (.cells #[.string nm,.slice KA n n,.func (Fn.func F1) #[] #[],.func (Fn.func F2) #[] #[],.func (Fn.func F3) #[] #[]] 212));rw[<-hw3] at B3 P3 z3;have B4:=B3.alloc (.cells #[.int .i64 m.kind,.string m.text,.string m.value,.string m.lang,.int .u32 m.cols,.int .u32 m.rows,.int .u32 m.width,.int .u32 m.height,.slice m.mA m.modes.length m.mc,.bool m.on,.int .u32 m.code] 217);have P4:Only [] w3 (w3.alloc (.cells #[.int .i64 m.kind,.string m.text,.string m.value,.string m.lang,.int .u32 m.cols,.int .u32 m.rows,.int .u32 m.width,.int .u32 m.height,.slice m.mA m.modes.length m.mc,.bool m.on,.int .u32 m.code] 217)):=(zR _ _).alloc _;have K4:Blk (w3.alloc (.cells #[.int .i64 m.kind,.string m.text,.string m.value,.string m.lang,.int .u32 m.cols,.int .u32 m.rows,.int .u32 m.width,.int .u32 m.height,.slice m.mA m.modes.length m.mc,.bool m.on,.int .u32 m.code] 217)) w3.heap.size 217 m.cells:=Blk.new _ _ _;have K3:=K2.only P3 (by simp);rw[z3] at K4;obtain⟨w4,hw4⟩:=qY (w3.alloc (.cells #[.int .i64 m.kind,.string m.text,.string m.value,.string m.lang,.int .u32 m.cols,.int .u32 m.rows,.int .u32 m.width,.int .u32 m.height,.slice m.mA m.modes.length m.mc,.bool m.on,.int .u32 m.code] 217));rw[<-hw4] at B4 P4 K4;have Q4:Only [] w w4:=(Q2.trans P3 (by simp)).trans P4 (by simp);have A4:=C3.out w4 m _ K4 (hm.only Q4);rw[hE0] at A4;replace hE0:=AB hE0;have x0:=B4.cell 0;have x1:=B4.cell 1;have x2:=B4.cell 2;have x4:=B4.cell 4;simp only[List.getElem?_cons_zero,List.getElem?_cons_succ] at x0 x1 x2 x4;have hlt2:=K2.lt;have hne: ¬w.heap.size=w2.heap.size:=by omega
  have c0:w2.cell? ⟨w.heap.size,0,none⟩=some (.int .i64 m.kind):=K2.cell 0;have c1:w2.cell? ⟨w.heap.size,1,none⟩=some (.string m.text):=K2.cell 1;have c2:w2.cell? ⟨w.heap.size,2,none⟩=some (.string m.value):=K2.cell 2;have c3:w2.cell? ⟨w.heap.size,3,none⟩=some (.string m.lang):=K2.cell 3;have c4:w2.cell? ⟨w.heap.size,4,none⟩=some (.int .u32 m.cols):=K2.cell 4;have c5:w2.cell? ⟨w.heap.size,5,none⟩=some (.int .u32 m.rows):=K2.cell 5;have c6:w2.cell? ⟨w.heap.size,6,none⟩=some (.int .u32 m.width):=K2.cell 6;have c7:w2.cell? ⟨w.heap.size,7,none⟩=some (.int .u32 m.height):=K2.cell 7;have c8:w2.cell? ⟨w.heap.size,8,none⟩=some (.slice m.mA m.modes.length m.mc):=K2.cell 8;have c9:w2.cell? ⟨w.heap.size,9,none⟩=some (.bool m.on):=K2.cell 9;have c10:w2.cell? ⟨w.heap.size,10,none⟩=some (.int .u32 m.code):=K2.cell 10;replace z3:=AB z3;go_wp2_with fail
  rw[<-hw3,<-hw4];go_call A4 as e w5 ⟨rfl,P5⟩
  clear A4;clear c0 c1 c2 c3 c4 c5 c6 c7 c8 c9 c10;have B5:=B4.only P5 (by simp);have K5:=K4.only P5 (by simp);have Q5:Only [] w w5:=Q4.trans P5 (by simp);replace hw3:=AB hw3;replace hw4:=AB hw4;have hR2:RdI w5 KA (CQ k):=((R2.only P3).only P4).only P5;clear x0 x1 x2 x4;have x0:=B5.cell 0;have x1:=B5.cell 1;have x2:=B5.cell 2;simp only[List.getElem?_cons_zero,List.getElem?_cons_succ] at x0 x1 x2;by_cases hE:E0=0
  ·have hew:=hen.out hE;replace hew:=AB hew;subst hE;have A5:=C1.out w5 m _ K5 (hm.only Q5) hs hv hl;go_wp2_with fail
   go_call A5 as e w6 ⟨P6,v,fs,rfl,V6,hp,M6,N6⟩
   clear A5;have B6:=B5.only P6 (by simp);have Q6:Only [] w w6:=Q5.trans P6 (by simp);have hR6:=hR2.only P6;have hfl:fs.length=n:=by
    have:=congrArg List.length hp;rw[List.length_map,List.length_map,hpl.out] at this;exact this
   obtain⟨A,cap,rfl,hc,hcm,_⟩:=V6.form;rw[hfl] at V6 hc M6⊢;have M0:=mid0 hp;have zq:=Q5.size;have hbk:=B5.lt;clear x0 x1 x2;go_wp2_with fail
   go_loopw [37] (fun ii wr=>∃(i:Nat) (gs:List FD),i<=n/\ii = .int .i64 i/\Hid (gs.length=n)/\Hid (gs.map FD.pf=MidP m k i)/\FY wr w5.heap.size (.slice A n cap) gs/\(∀f∈gs,FD.ok wr f/\f.off (.slice A n cap))/\(∀f∈gs,U32 f.n)/\Only [] w5 wr) (fun ii _=>n-(intOf ii).toNat)
   case atStart=>exact⟨0,fs,by omega,rfl,AB hfl,AB M0,V6,M6,N6,P6⟩
   case round=>
    obtain⟨wo,rfl⟩: ∃wo:World,wo=wr:=⟨_,rfl⟩;obtain⟨i,gs,hin,rfl,hgl,hmp,V,M,N,O⟩:=hrel;have Bo:=B5.only O (by simp);have x0:=Bo.cell 0;have x1:=Bo.cell 1;simp only[List.getElem?_cons_zero,List.getElem?_cons_succ] at x0 x1;by_cases hlt:i<n
    ·obtain⟨kb,koff,x,rfl,hkb,hx,cx⟩:=RdG.at (hR2.only O) i (by have:=hn.out;omega);obtain⟨A',cap',e1,_,_,hA⟩:=V.form;obtain⟨ga,hga,hga1,hga2,_⟩:=hA (by have:=hgl.out;omega);obtain rfl:A=some ⟨ga,0,none⟩:=by rw[<-hga];exact(Value.slice.inj e1).1
     obtain⟨f,hf⟩: ∃f,gs[i]? = some f:=⟨_,List.getElem?_eq_getElem (by have:=hgl.out;omega)⟩;obtain⟨p,hpp⟩: ∃p,(BG m k)[i]? = some p:=⟨_,List.getElem?_eq_getElem (by have:=hpl.out;omega)⟩;have hpx:p.kind=x:=by
      rw[<-hpk.out,List.getElem?_map,hpp] at hx;simpa using hx
     obtain⟨cf,zf⟩:=ownF_at hgl.out V i f hf;have V':=ownF_set hgl.out V i f x hf;have hst:=mid_step m k i p hpp gs f hf hmp.out;rw[hpx] at hst;have hgl':(gs.set i { f with kind:=x }).length=n:=by rw[List.length_set];exact hgl.out
     have M': ∀y∈gs.set i { f with kind:=x },FD.ok (wo.setCell ⟨ga,i*4,none⟩ (.int .i64 x)) y/\y.off (.slice (some ⟨ga,0,none⟩) n cap):=by
      have hfm:=M f (qE hf);refine mem_set (fun y hy=>⟨ok_setC (M y hy).1 (M y hy).2,(M y hy).2⟩) ⟨?_,hfm.2⟩;exact ok_setC (FD.ok.with hfm.1 x f.n) hfm.2
     have N': ∀y∈gs.set i { f with kind:=x },U32 y.n:=mem_set N (N f (qE hf));have O':Only [] w5 (wo.setCell ⟨ga,i*4,none⟩ (.int .i64 x)):=O.setCell (p:=⟨ga,i*4,none⟩) (.inr hga1) _;replace hf:=AB hf;replace hpp:=AB hpp;replace hpx:=AB hpx;replace hx:=AB hx;replace hst:=AB hst;replace hgl':=AB hgl';replace M':=AB M';replace N':=AB N';clear M N hA e1 hga;go_wp2_with fail
     go_roundw
     case rel=>exact⟨i+1,_,by omega,by go_num,hgl',hst,V',M'.out,N'.out,O'⟩
     case measure=>simp[intOf];omega
    ·obtain rfl:i=n:=by omega
     have hmap:gs.map FD.pf=BG m k:=by
      rw[hmp.out];exact mid_end m k i hpl.out
     have RF:=V.rdF (fun f hf=>⟨(M f hf).1,N f hf⟩);have WR:=cH wo A gs cap RF (by have:=hgl.out;omega);rw[hmap,<-hew.out,hgl.out] at WR;obtain⟨E,hE⟩:=qX ((BL m).1);obtain⟨l,hl2⟩:=qX ((BL m).2);have hpair:BL m=(E,l):=by rw[<-hE,<-hl2]
     rw[hpair] at WR;have Qo:Only [] w wo:=Q5.trans O (by simp);have zo:=Qo.size;replace hmap:=AB hmap;replace hpair:=AB hpair;replace hE:=AB hE;replace hl2:=AB hl2;clear M N;go_wp2_with fail
     go_call WR as e w9 ⟨P9,v9,rfl,V9⟩
     clear WR;have Q9:Only [] w w9:=Qo.trans P9 (by simp);have B9:=Bo.only P9 (by simp);have x0:=B9.cell 0;simp only[List.getElem?_cons_zero,List.getElem?_cons_succ] at x0;dsimp only;by_cases hz:E=0
     ·have hfin:LB w m (.returned (.tuple #[.string nm,v9,.int .i64 0])) w9:=by
       unfold LB;rw[hE.out,hl2.out,hnk.out (by rw[hE.out];exact hz),hnm.out,hz];exact⟨Q9,v9,rfl,V9.mono zo⟩
      subst hz;replace hfin:=AB hfin;go_wp2_with fail
      go_ret3
      exact hfin.out
     ·have hzb:(E !=0)=true:=by simpa using hz
      have hl0:l=[]:=by rw[<-hl2.out];exact encR_bad (by rw[hE.out];exact hz)
      have hfin:LB w m (.returned (.tuple #[.string ⟨#[]⟩,.slice none 0 0,.int .i64 E])) w9:=NR w w9 m E (by rw[hpair.out,hl0]) hz Q9;replace hfin:=AB hfin;replace hl0:=AB hl0;replace hz:=AB hz;go_wp2_with fail
      go_ret3
      exact hfin.out
  ·have hEb:(E0 !=0)=true:=by simpa using hE
   have hfin:LB w m (.returned (.tuple #[.string ⟨#[]⟩,.slice none 0 0,.int .i64 E0])) w5:=NR w w5 m E0 (hea.out hE) hE Q5;replace hfin:=AB hfin;replace hE:=AB hE;go_wp2_with fail
   go_ret3
   exact hfin.out
 ·have OF:=rof_none m.kind hk w1;have hfin: ∀w',Only [] w w'->LB w m (.returned (.tuple #[.string ⟨#[]⟩,.slice none 0 0,.int .i64 8])) w':=fun w' P=>NR w w' m 8 (encR_none hk) (by decide) P;replace hfin:=AB hfin;replace hk:=AB hk;go_enter Tryz.func66,Tryz.ntmps66
  go_wp2_with fail
  rw[<-hw1];replace hw1:=AB hw1;go_call OF as e w2 ⟨P2,rfl⟩
  go_wp2_with fail
  go_ret3
  exact hfin.out _ ((P1.trans P2 (by simp)).alloc _)
end Go.Proofs.YtfbhemmpobgdpaaGreatDoor
namespace Go.Proofs.YtfbhemmpobgdpaaGreatDoor
open Go.RowKit
theorem dS (A:Option Addr) (ks:List Int) (cap:Nat) (w:World) (h:RdI w A ks) (hl:ks.length<=maxLen):Calls Tryz.prog 117 #[.slice A ks.length cap] w fun e w'=>e = .returned (.bool (GS ks))/\w=w':=by
 unfold maxLen at hl;obtain⟨n,hn⟩:=qY ks.length;obtain⟨R,hR⟩:=qY (GS ks);rw[<-hR];rw[<-hn] at hl⊢;have HR:=AB hR;have HN:=AB hn;clear hR hn;go_enter Tryz.func117,Tryz.ntmps117
 go_wp2
 go_loop [7] (fun i=>∃k:Nat,k<=n/\i = .int .i64 k/\Good ks k) (fun i=>n-(intOf i).toNat)
 case atStart=>exact⟨0,by omega,rfl,fun i hi=>by omega⟩
 case round=>
  obtain⟨k,hk,rfl,hg⟩:=hrel;by_cases hlt:k<n
  ·obtain⟨b,off,x,rfl,hb,hx,hc⟩:=h.at k (by rw[<-HN.out];exact hlt);have hga:HK ks k=(JJ x && !(decide (x=6)&&decide (k+1<n))):=by
    unfold HK;rw[List.getD_eq_getElem?_getD,hx,HN.out];rfl
   have hg':HK ks k=true->Good ks (k+1):=fun h i hi=>by
    by_cases e:i=k
    ·rw[e];exact h
    ·exact hg i (by omega)
   have hnot:HK ks k=false->R=false:=fun h=>by rw[HR.out];exact bM (by rw[<-HN.out];exact hlt) h
   rw[hga] at hg' hnot;replace hg':=AB hg';replace hnot:=AB hnot;clear hga hx;replace hg:=AB hg;have hk1:JJ x=(decide (1<=x)&&decide (x<=6)):=rfl;by_cases h1:1<=x
   ·by_cases h2:x<=6
    ·have hok:JJ x=true:=by rw[hk1];simp[h1,h2]
     have p1: ¬x<1:=by omega
     have p2: ¬(6:Int)<x:=by omega
     by_cases h6:x=6
     ·subst h6;by_cases hl2:k+1<n
      ·obtain rfl:R=false:=hnot.out (by simp[hok,hl2]);have hl3:((k:Int)!=(n:Int)-1)=true:=by simp;omega
       clear hg' hnot hok hk1;go_wp2
       go_ret
       exact⟨rfl,rfl⟩
      ·have hl3:((k:Int)!=(n:Int)-1)=false:=by simp;omega
       have hG:Good ks (k+1):=hg'.out (by simp[hok];omega);replace hG:=AB hG;clear hg' hnot hok hk1;go_wp2
       go_round
       case rel=>exact⟨k+1,by omega,by go_num,hG.out⟩
       case measure=>simp[intOf];omega
     ·have h6':(x==6)=false:=beq_eq_false_iff_ne.2 h6;have hG:Good ks (k+1):=hg'.out (by simp[hok,h6]);replace hG:=AB hG;clear hg' hnot hok hk1;go_wp2
      go_round
      case rel=>exact⟨k+1,by omega,by go_num,hG.out⟩
      case measure=>simp[intOf];omega
    ·have p1: ¬x<1:=by omega
     have p2:(6:Int)<x:=by omega
     obtain rfl:R=false:=hnot.out (by rw[hk1];simp[h2]);clear hg' hnot hk1;go_wp2
     go_ret
     exact⟨rfl,rfl⟩
   ·have p1:x<1:=by omega
    obtain rfl:R=false:=hnot.out (by rw[hk1];simp[h1]);clear hg' hnot hk1;go_wp2
    go_ret
    exact⟨rfl,rfl⟩
  ·obtain rfl:k=n:=by omega
   obtain rfl:R=true:=by rw[HR.out];exact MM.2 (fun i hi=>hg i (by rw[HN.out];exact hi))
   replace hg:=AB hg;go_wp2
   go_ret
   exact⟨rfl,rfl⟩
end Go.Proofs.YtfbhemmpobgdpaaGreatDoor
namespace Go.Proofs.YtfbhemmpobgdpaaGreatDoor
open Go.RowKit
theorem IS (A:Option Addr) (l:List Int) (c:Nat) (w:World) (h:Rd w A l) (h4:4<=l.length) (hb: ∀x∈l,0<=x/\x<256):Calls Tryz.prog 69 #[.slice A l.length c] w fun e w'=>e = .returned (.int .u32 (be4 l))/\Only [] w w':=by
 have hx: ∀k,k<4->∃x,l[k]? = some x/\l.getD k 0=x/\0<=x/\x<256:=by
  intro k hk;refine⟨l[k]'(by omega),List.getElem?_eq_getElem (by omega),?_,hb _ (List.getElem_mem _)⟩;simp[List.getD,List.getElem?_eq_getElem (show k<l.length by omega)]
 obtain⟨x0,hx0,hd0,a0,b0⟩:=hx 0 (by omega);obtain⟨x1,hx1,hd1,a1,b1⟩:=hx 1 (by omega);obtain⟨x2,hx2,hd2,a2,b2⟩:=hx 2 (by omega);obtain⟨x3,hx3,hd3,a3,b3⟩:=hx 3 (by omega);obtain⟨b,off,rfl,hlt,hc⟩:=h (by omega);have c0:w.cell? ⟨b,off,none⟩=some (.int .u8 x0):=hc 0 x0 hx0;have c1:=hc 1 x1 hx1;have c2:=hc 2 x2 hx2;have c3:=hc 3 x3 hx3;have hbe:be4 l=x0*16777216+x1*65536+x2*256+x3:=by unfold be4;rw[hd0,hd1,hd2,hd3]
 rw[hbe];obtain⟨L,hL⟩:=qX l.length;rw[hL] at h4⊢;clear hL hbe hd0 hd1 hd2 hd3 hx hx0 hx1 hx2 hx3 hc hb;have l0:(0:Int)<L:=by omega
 have l1:(1:Int)<L:=by omega
 have l2:(2:Int)<L:=by omega
 have l3:(3:Int)<L:=by omega
 have m0:0<L:=by omega
 have m1:1<L:=by omega
 have m2:2<L:=by omega
 have m3:3<L:=by omega
 go_enter Tryz.func69,Tryz.ntmps69
 go_wp2
 go_quiet (fail)
 go_wp2
 go_ret
 exact⟨rfl,(zR _ _).drewN _⟩
end Go.Proofs.YtfbhemmpobgdpaaGreatDoor
namespace Go.Proofs.YtfbhemmpobgdpaaGreatDoor
open Go.RowKit
section
variable {P:Program} {f:FuncId} {R:Ending -> World -> Prop} {n:Nat} {w0:World} {L:List Nat} {β:List Nat} {m:SM} {tS E size bytes:Nat}
theorem Hs.lhK (ht:ElemT P tS E size bytes) {A:Option Addr} {len cap i j:Nat} (kl kh:IntKind) (hi:i<=j) (hj:j<=cap) (hs:DO n β m=some (GK (Instr.sliceAt tS (.slice A len cap) (some (.int kl i)) (some (.int kh j)) none))) (h:Hs P f R n w0 L β (m.put (BD m) (.c (.v (.slice (loA size A i cap) (j-i) (cap-i)))) m.hp)):Hs P f R n w0 L β m:=
 Hs.opV (.c (.v (.slice (loA size A i cap) (j-i) (cap-i)))) hs rfl (fun w _=>by
  have hu:P.underlying tS=some (.slice (P.elem tS)):=by rw[ht.elem];exact ht.ht
  rw[run_sliceAt_slice (h:=hu),run_slice_lh (ht:=hu) (h0:=by omega) (h1:=by omega) (h2:=by omega),ht.elem,ht.sizeOf];simp only[Result.andThen_ok,sliced,Int.toNat_natCast];rfl) h
theorem Hs.loK (ht:ElemT P tS E size bytes) {A:Option Addr} {len cap i:Nat} (kl:IntKind) (hn:i<=len) (hs:DO n β m=some (GK (Instr.sliceAt tS (.slice A len cap) (some (.int kl i)) none none))) (h:Hs P f R n w0 L β (m.put (BD m) (.c (.v (.slice (loA size A i cap) (len-i) (cap-i)))) m.hp)):Hs P f R n w0 L β m:=
 Hs.opV (.c (.v (.slice (loA size A i cap) (len-i) (cap-i)))) hs rfl (fun w _=>by
  have hu:P.underlying tS=some (.slice (P.elem tS)):=by rw[ht.elem];exact ht.ht
  rw[run_sliceAt_slice (h:=hu),run_slice_l (ht:=hu) (h0:=by omega) (h1:=by omega),ht.elem,ht.sizeOf];simp only[Result.andThen_ok,sliced,Int.toNat_natCast];rfl) h
end
theorem Hs.factF {P:Program} {f:FuncId} {R:Ending->World->Prop} {n:Nat} {w0:World} {L:List Nat} {β:List Nat} {m:SM} {p:Prop} (hp: ∀w,Mem w0 L β m.hp w->p) (h:p->Hs P f R n w0 L β m):Hs P f R n w0 L β m:=⟨fun w H W=>(h (hp w H)).go w H W⟩
theorem loA_bk (s:Nat) (A:Option Addr) (i c:Nat):bkO (loA s A i c)=bkO A:=by
 unfold loA;split;·rfl
 ·cases A with
  |none=>rfl
  |some a=>
   obtain⟨b,o,d⟩:=a;cases d<;>simp[bkO,Addr.add]<;>split<;>rfl
theorem QL {w:World} {A:Option Addr} {l:List Int} (h:RdX cu8 w A l):Rd w A l:=fun h0=>by
 obtain⟨b,off,e,hb,hc⟩:=h h0;refine⟨b,off,e,hb,fun i x hx=>hc i _ ?_⟩;have hl:l.flatMap cu8=l.map (.int .u8):=by
  clear h h0 hc hx;induction l with
  |nil=>rfl
  |cons x l ih=>rw[qG,ih];rfl
 rw[hl,List.getElem?_map,hx];rfl
theorem kK (A:Option Addr) (buf:List Int) (c:Nat) (B:Option Addr) (b:List Int) (cb:Nat) (w:World) (hr:RdX cu8 w A buf) (hr2:RdX cu8 w B b) (hsz:buf.length+b.length<=1000000) (hby: ∀x∈buf++b,0<=x/\x<256):Calls Tryz.prog 36 #[.agg #[.slice A buf.length c,.bool false],.slice B b.length cb] w (FrPost w (buf++b)):=by
 have J: ∀(A3:Option Addr) (b1:Nat) (w1:World) (L1:List Nat),Fx w [] w1 L1 (bkO A3) (fun w=>RdX cu8 w A3 (buf++b))->∀(d:Nat) (rest:List Int) (Ar:Option Addr) (nr cr:Nat) (ps:List (Pc Int)) (oA:Option Addr) (oc k:Nat),rest.length=nr->nr<=cr->cr<=maxLen->nr<=1000000->(∀w,RdX cu8 w A3 (buf++b)->RdX cu8 w Ar rest)->(∀y∈bkO Ar,y∈bkO A3)->ps.length=k->(∀p∈ps,p.l.length<=p.c/\p.c<=maxLen)->(∀p∈ps,(∀w,RdX cu8 w A3 (buf++b)->RdX cu8 w p.A p.l)/\∀y∈bkO p.A,y∈bkO A3)->nr<=d->k+nr<=1000000->(∀x∈rest,0<=x/\x<256)->(BP ((buf++b).length+1) (buf++b)).1=ps.map Pc.l++(BP (d+1) rest).1->(BP ((buf++b).length+1) (buf++b)).2=(BP (d+1) rest).2->∀u:Nat->Value,Hs Tryz.prog 36 (FrPost w (buf++b)) (Tryz.f36).ntmps w1 L1 [b1,0] ⟨.no,BE Tryz.f36 0,KQ [(4,.c (.p 0 0)),(7,.c (.v (.slice Ar nr cr))),(8,.c (.v (.slice oA k oc)))] (.vals u),[.b true 57 [.v (.slice none 0 0),.v (.bool false)],.s oA oc k 30 1 (ps.flatMap Pc.cs)]⟩:=by
  intro A3 b1 w1 L1 C d;induction d with
  |zero=>
   intro rest Ar nr cr ps oA oc k hn hnc hcm hns himp hbk hk hpl hpi hd hkn hrb hf1 hf2 u;refine Hs.e0 ?_;refine Hs.cP ((nr:Int)>=4) (fun h=>by omega) (fun h=>?_);have e:BP (0+1) rest=([],some rest):=by unfold BP;rw[if_pos (by omega)]
   rw[e] at hf1 hf2;rw[qN] at hf1;refine Hs.e0 ?_;exact Hs.rt (v:=.tuple #[.agg #[.slice Ar nr cr,.bool false],.slice oA k oc,.int .i64 0]) Tryz.func36 fun w' H=>by
    have ho:=(H.ownX (cf:=Pc.cs) (l:=ps) 1 hk (A:=oA) (cap:=oc) (E:=30) (size:=1) (by kernel_rfl)).form;obtain⟨A9,c9,ho,ho1,ho2,_⟩:=ho;injection ho with _ _ ho;rw[<-ho] at ho1 ho2;exact⟨⟨Ar,rest,cr,false,oA,oc,ps,0⟩,by subst hk;subst hn;rfl,C.fin H,⟨⟨himp w' (C.at H),H.rdX (cf:=Pc.cs) (l:=ps) 1 hk (A:=oA) (cap:=oc) (E:=30) (size:=1) (by kernel_rfl),fun p hp=>(hpi p hp).1 w' (C.at H)⟩,⟨hf1.symm,hpl,⟨by dsimp only;omega,hcm,ho1,ho2⟩,by rw[hf2];exact⟨rfl,rfl,rfl⟩⟩⟩,fun y hy=>by
     unfold FR.fp at hy;simp only[List.mem_append] at hy;rcases hy with hy|hy|hy;·exact DP C H y (hbk y hy)
     ·exact DB (A:=oA) (c:=oc) (n:=k) (E:=30) (size:=1) (vs:=ps.flatMap Pc.cs) C H 1 (by kernel_rfl) y hy
     ·obtain⟨p,hp,hy⟩:=List.mem_flatMap.1 hy;exact DP C H y ((hpi p hp).2 y hy)⟩
  |succ d ih=>
   intro rest Ar nr cr ps oA oc k hn hnc hcm hns himp hbk hk hpl hpi hd hkn hrb hf1 hf2 u;refine Hs.e0 ?_;refine Hs.cP ((nr:Int)>=4) (fun h4=>?_) (fun h=>?_)
   case refine_2=>
    have e:BP (d+1+1) rest=([],some rest):=by unfold BP;rw[if_pos (by omega)]
    rw[e] at hf1 hf2;rw[qN] at hf1;refine Hs.e0 ?_;exact Hs.rt (v:=.tuple #[.agg #[.slice Ar nr cr,.bool false],.slice oA k oc,.int .i64 0]) Tryz.func36 fun w' H=>by
     have ho:=(H.ownX (cf:=Pc.cs) (l:=ps) 1 hk (A:=oA) (cap:=oc) (E:=30) (size:=1) (by kernel_rfl)).form;obtain⟨A9,c9,ho,ho1,ho2,_⟩:=ho;injection ho with _ _ ho;rw[<-ho] at ho1 ho2;exact⟨⟨Ar,rest,cr,false,oA,oc,ps,0⟩,by subst hk;subst hn;rfl,C.fin H,⟨⟨himp w' (C.at H),H.rdX (cf:=Pc.cs) (l:=ps) 1 hk (A:=oA) (cap:=oc) (E:=30) (size:=1) (by kernel_rfl),fun p hp=>(hpi p hp).1 w' (C.at H)⟩,⟨hf1.symm,hpl,⟨by dsimp only;omega,hcm,ho1,ho2⟩,by rw[hf2];exact⟨rfl,rfl,rfl⟩⟩⟩,fun y hy=>by
      unfold FR.fp at hy;simp only[List.mem_append] at hy;rcases hy with hy|hy|hy;·exact DP C H y (hbk y hy)
      ·exact DB (A:=oA) (c:=oc) (n:=k) (E:=30) (size:=1) (vs:=ps.flatMap Pc.cs) C H 1 (by kernel_rfl) y hy
      ·obtain⟨p,hp,hy⟩:=List.mem_flatMap.1 hy;exact DP C H y ((hpi p hp).2 y hy)⟩
   have h4:4<=nr:=by omega
   obtain⟨n,hne⟩: ∃n:Int,be4 rest=n:=⟨_,rfl⟩;have hnr:0<=n/\n<4294967296:=by
    rw[<-hne];match rest,hn with
    |x0::x1::x2::x3::l,_=>
     rw[WI];have g0:=hrb x0 (by simp);have g1:=hrb x1 (by simp);have g2:=hrb x2 (by simp);have g3:=hrb x3 (by simp);omega
    |[],hn=>simp at hn;omega
    |[_],hn=>simp at hn;omega
    |[_,_],hn=>simp at hn;omega
    |[_,_,_],hn=>simp at hn;omega
   refine Hs.e0 ?_;refine Hs.cV (fun w' H=>by
    have:=IS Ar rest cr w' (QL (himp w' (C.at H))) (by omega) hrb;rw[hn,hne] at this;exact this) ?_
   refine Hs.e0 ?_;refine Hs.bool 26 (decide (n=0)) (by kernel_rfl) (fun h0=>?_) (fun h0=>?_)
   ·have h0:n=0:=of_decide_eq_true h0;have e:BP (d+1+1) rest=([],none):=by unfold BP;rw[if_neg (by omega),hne,if_pos (by rw[h0];rfl)]
    rw[e] at hf1 hf2;rw[qN] at hf1;refine Hs.eg [2] ?_;refine Hs.cT ?_;refine Hs.e0 ?_;exact Hs.rt (v:=.tuple #[.agg #[.slice none 0 0,.bool true],.slice oA k oc,.int .i64 5]) Tryz.func36 fun w' H=>by
     have ho:=(H.ownX (cf:=Pc.cs) (l:=ps) 1 hk (A:=oA) (cap:=oc) (E:=30) (size:=1) (by kernel_rfl)).form;obtain⟨A9,c9,ho,ho1,ho2,_⟩:=ho;injection ho with _ _ ho;rw[<-ho] at ho1 ho2;exact⟨⟨none,[],0,true,oA,oc,ps,5⟩,by subst hk;rfl,C.fin H,⟨⟨fun h=>absurd h (by simp),H.rdX (cf:=Pc.cs) (l:=ps) 1 hk (A:=oA) (cap:=oc) (E:=30) (size:=1) (by kernel_rfl),fun p hp=>(hpi p hp).1 w' (C.at H)⟩,⟨hf1.symm,hpl,⟨qL _,qO _,ho1,ho2⟩,by rw[hf2];exact⟨rfl,rfl,rfl⟩⟩⟩,fun y hy=>by
      unfold FR.fp at hy;simp only[List.mem_append] at hy;rcases hy with hy|hy|hy;·simp[bkO] at hy
      ·exact DB (A:=oA) (c:=oc) (n:=k) (E:=30) (size:=1) (vs:=ps.flatMap Pc.cs) C H 1 (by kernel_rfl) y hy
      ·obtain⟨p,hp,hy⟩:=List.mem_flatMap.1 hy;exact DP C H y ((hpi p hp).2 y hy)⟩
   have h0:n≠0:=of_decide_eq_false h0;refine Hs.eg [2] ?_;refine Hs.cP (n>33792) (fun h5=>?_) (fun h5=>?_)
   ·have e:BP (d+1+1) rest=([],none):=by unfold BP;rw[if_neg (by omega),hne,if_pos (by unfold EI;simp;omega)]
    rw[e] at hf1 hf2;rw[qN] at hf1;refine Hs.e0 ?_;exact Hs.rt (v:=.tuple #[.agg #[.slice none 0 0,.bool true],.slice oA k oc,.int .i64 5]) Tryz.func36 fun w' H=>by
     have ho:=(H.ownX (cf:=Pc.cs) (l:=ps) 1 hk (A:=oA) (cap:=oc) (E:=30) (size:=1) (by kernel_rfl)).form;obtain⟨A9,c9,ho,ho1,ho2,_⟩:=ho;injection ho with _ _ ho;rw[<-ho] at ho1 ho2;exact⟨⟨none,[],0,true,oA,oc,ps,5⟩,by subst hk;rfl,C.fin H,⟨⟨fun h=>absurd h (by simp),H.rdX (cf:=Pc.cs) (l:=ps) 1 hk (A:=oA) (cap:=oc) (E:=30) (size:=1) (by kernel_rfl),fun p hp=>(hpi p hp).1 w' (C.at H)⟩,⟨hf1.symm,hpl,⟨qL _,qO _,ho1,ho2⟩,by rw[hf2];exact⟨rfl,rfl,rfl⟩⟩⟩,fun y hy=>by
      unfold FR.fp at hy;simp only[List.mem_append] at hy;rcases hy with hy|hy|hy;·simp[bkO] at hy
      ·exact DB (A:=oA) (c:=oc) (n:=k) (E:=30) (size:=1) (vs:=ps.flatMap Pc.cs) C H 1 (by kernel_rfl) y hy
      ·obtain⟨p,hp,hy⟩:=List.mem_flatMap.1 hy;exact DP C H y ((hpi p hp).2 y hy)⟩
   have h5:EI n=true:=by unfold EI;simp;omega
   have hn1:1<=n/\n<=33792:=by unfold EI at h5;simp at h5;omega
   obtain⟨m,rfl⟩: ∃m:Nat,n=m:=⟨n.toNat,by omega⟩;have e1:IntKind.i64.wrap ((nr:Int)-4)=(nr:Int)-4:=IntWalk.i64_in _ (by omega);have e2:IntKind.i64.wrap (m:Int)=(m:Int):=IntWalk.i64_in _ (by omega);have e3:IntKind.u32.wrap (4+(m:Int))=((4+m:Nat):Int):=by rw[IntKind.wrap_u32];omega
   refine Hs.e0 ?_;refine Hs.cP (IntKind.i64.wrap ((nr:Int)-4)<IntKind.i64.wrap (m:Int)) (fun h6=>?_) (fun h6=>?_)
   ·rw[e1,e2] at h6;have e:BP (d+1+1) rest=([],some rest):=by unfold BP;rw[if_neg (by omega),hne,if_neg (by rw[h5];decide),if_pos (by omega)]
    rw[e] at hf1 hf2;rw[qN] at hf1;refine Hs.e0 ?_;exact Hs.rt (v:=.tuple #[.agg #[.slice Ar nr cr,.bool false],.slice oA k oc,.int .i64 0]) Tryz.func36 fun w' H=>by
     have ho:=(H.ownX (cf:=Pc.cs) (l:=ps) 1 hk (A:=oA) (cap:=oc) (E:=30) (size:=1) (by kernel_rfl)).form;obtain⟨A9,c9,ho,ho1,ho2,_⟩:=ho;injection ho with _ _ ho;rw[<-ho] at ho1 ho2;exact⟨⟨Ar,rest,cr,false,oA,oc,ps,0⟩,by subst hk;subst hn;rfl,C.fin H,⟨⟨himp w' (C.at H),H.rdX (cf:=Pc.cs) (l:=ps) 1 hk (A:=oA) (cap:=oc) (E:=30) (size:=1) (by kernel_rfl),fun p hp=>(hpi p hp).1 w' (C.at H)⟩,⟨hf1.symm,hpl,⟨by dsimp only;omega,hcm,ho1,ho2⟩,by rw[hf2];exact⟨rfl,rfl,rfl⟩⟩⟩,fun y hy=>by
      unfold FR.fp at hy;simp only[List.mem_append] at hy;rcases hy with hy|hy|hy;·exact DP C H y (hbk y hy)
      ·exact DB (A:=oA) (c:=oc) (n:=k) (E:=30) (size:=1) (vs:=ps.flatMap Pc.cs) C H 1 (by kernel_rfl) y hy
      ·obtain⟨p,hp,hy⟩:=List.mem_flatMap.1 hy;exact DP C H y ((hpi p hp).2 y hy)⟩
   rw[e1,e2] at h6;have e:BP (d+1+1) rest=((rest.drop 4).take m::(BP (d+1) (rest.drop (4+m))).1,(BP (d+1) (rest.drop (4+m))).2):=by
    rw[BP,if_neg (by omega),hne,if_neg (by rw[h5];decide),if_neg (by omega),Int.toNat_natCast]
   rw[e] at hf1 hf2;obtain⟨pl,hpe⟩:=qX ((rest.drop 4).take m);have hplen:pl.length=m:=by rw[<-hpe,List.length_take,List.length_drop];omega
   rw[hpe] at hf1;subst hplen;have hsub:4+pl.length-4=pl.length:=by omega
   refine Hs.e0 ?_;refine Hs.slot 41 (.c (.v (.int .u32 (4+pl.length:Nat)))) rfl ((by kernel_rfl:_=Value.int .u32 (IntKind.u32.wrap (4+(pl.length:Int)))).trans (congrArg (Value.int .u32) e3)) ?_;refine Hs.lhK (A:=Ar) (len:=nr) (cap:=cr) (i:=4) (j:=4+pl.length) CY .i64 .u32 (by omega) (by omega) (by kernel_rfl) ?_;rw[hsub];refine Hs.e1 fun q=>?_;refine Hs.app (c:=1) (ty:=97) 1 TC ps [⟨loA 1 Ar 4 cr,cr-4,pl⟩] k 1 hk rfl pc_one TN (A:=oA) (B:=some ⟨q,0,none⟩) (cap:=oc) (by kernel_rfl) (by kernel_rfl) (by kernel_rfl) (fun w' H=>H.rdB (gs:=[(⟨loA 1 Ar 4 cr,cr-4,pl⟩:Pc Int)]) 2 (wr:=true) (T:=30) (cs:=[.v (.slice (loA 1 Ar 4 cr) pl.length (cr-4))]) (by kernel_rfl) rfl) (by unfold maxLen;omega) (by_bs (by omega)) fun oA2 oc2 g3=>?_;refine Hs.e0 ?_;refine Hs.slot 47 (.c (.v (.int .u32 (4+pl.length:Nat)))) rfl ((by kernel_rfl:_=Value.int .u32 (IntKind.u32.wrap (4+(pl.length:Int)))).trans (congrArg (Value.int .u32) e3)) ?_;refine Hs.loK (A:=Ar) (len:=nr) (cap:=cr) (i:=4+pl.length) CY .u32 (by omega) (by kernel_rfl) ?_;refine Hs.e0 ?_;refine Hs.lP ?_;exact Hs.goto (BE Tryz.f36 0) [0,1] [.b true 57 [.v (.slice none 0 0),.v (.bool false)],.s oA2 oc2 (k+1) 30 1 ((ps++[(⟨loA 1 Ar 4 cr,cr-4,pl⟩:Pc Int)]).flatMap Pc.cs)] [(4,.c (.p 0 0)),(7,.c (.v (.slice (loA 1 Ar (4+pl.length) cr) (nr-(4+pl.length)) (cr-(4+pl.length))))),(8,.c (.v (.slice oA2 (k+1) oc2)))] (by kernel_rfl) (by decide) (by kernel_rfl) (by kernel_rfl) (fun _=>(by kernel_rfl)) (fun u=>ih (rest.drop (4+pl.length)) (loA 1 Ar (4+pl.length) cr) (nr-(4+pl.length)) (cr-(4+pl.length)) (ps++[(⟨loA 1 Ar 4 cr,cr-4,pl⟩:Pc Int)]) oA2 oc2 (k+1) (by rw[List.length_drop,hn]) (by omega) (by omega) (by omega) (fun w h=>OG BT (himp w h) (by omega) (by omega)) (fun y hy=>hbk y (by rw[loA_bk] at hy;exact hy)) (by rw[zE,hk];rfl) (fun p hp=>by
    rcases qK hp with hp|hp;·exact hpl p hp
    ·rw[qS] at hp;subst hp;exact⟨by dsimp only;omega,by dsimp only;omega⟩) (fun p hp=>by
    rcases qK hp with hp|hp;·exact hpi p hp
    ·rw[qS] at hp;subst hp;refine⟨fun w h=>?_,fun y hy=>hbk y (by rw[loA_bk] at hy;exact hy)⟩;have h8:RdX cu8 w (loA 1 Ar 4 cr) (rest.drop 4):=OG BT (himp w h) (by omega) (by omega);have h7:RdX cu8 w (loA 1 Ar 4 cr) ((rest.drop 4).take pl.length):=dQ BT _ h8;rw[hpe] at h7;exact h7) (by omega) (by omega) (fun x hx=>hrb x (List.mem_of_mem_drop hx)) (by rw[hf1];simp) hf2 u)
 refine Hs.en Tryz.func36 [] [] [] [.g (frS A buf.length c false),.c (.v (.slice B b.length cb))] (Mem.start0 w) ?_;refine Hs.e2 fun b0 b1=>?_;refine Hs.cF ?_;refine Hs.e1 fun b2=>?_;refine Hs.litX (cf:=cu8) (B:=A) (ty:=30) (c:=c) 2 CY buf buf.length rfl IL BT (by kernel_rfl) (by kernel_rfl) (by kernel_rfl) (fun w' H=>hr.only H.only) (by unfold maxLen;omega) (UI (by omega)) fun A2 c2 g1 g2=>?_;refine Hs.e0 ?_;refine Hs.app (c:=cb) (ty:=30) 2 CY buf b buf.length b.length rfl rfl IL BT (A:=A2) (B:=B) (cap:=c2) (by kernel_rfl) (by kernel_rfl) (by kernel_rfl) (fun w' H=>hr2.only H.only) (by unfold maxLen;omega) (UI (by omega)) fun A3 c3 h4=>?_;obtain⟨N,hN⟩:=qX (buf.length+b.length);have hN2:(buf++b).length=N:=by rw[zE,hN]
 rw[hN];refine Hs.factF (p:=N<=c3) (fun w' H=>by
  have ho:=(H.ownX (cf:=cu8) (l:=buf++b) 2 hN2 (A:=A3) (cap:=c3) (E:=5) (size:=1) (by kernel_rfl)).form;obtain⟨A9,c9,ho,ho1,_⟩:=ho;injection ho with _ _ ho;omega) fun h3=>?_
 refine Hs.e0 ?_;refine Hs.nilS 30 1 (by kernel_rfl) ?_ (by kernel_rfl);have C0:Fx w [] w [] [] (fun _=>True):=Fx.start0;refine Hs.shutFx [2] (bkO A3) (fun w=>RdX cu8 w A3 (buf++b)) C0 DX (fun w' H=>H.rdX (cf:=cu8) (l:=buf++b) 2 hN2 (A:=A3) (cap:=c3) (E:=5) (size:=1) (by kernel_rfl)) (fun x hx=>⟨2,by simp,.s A3 c3 N 5 1 ((buf++b).flatMap cu8),by kernel_rfl,rfl,by
  unfold bkO at hx;rw[Option.mem_toList] at hx;exact hx⟩) (by kernel_rfl) fun w1 L1 C1 mv1=>?_
 refine Hs.lP ?_;exact Hs.goto (BE Tryz.f36 0) [1,3] [.b true 57 [.v (.slice none 0 0),.v (.bool false)],.s none 0 0 30 1 (([]:List (Pc Int)).flatMap Pc.cs)] [(4,.c (.p 0 0)),(7,.c (.v (.slice A3 N c3))),(8,.c (.v (.slice none 0 0)))] (by kernel_rfl) (by decide) (by kernel_rfl) (by kernel_rfl) (fun _=>(by kernel_rfl)) (fun u=>J A3 b1 w1 L1 C1 N (buf++b) A3 N c3 [] none 0 0 hN2 h3 h4 (by omega) (fun _ h=>h) (fun _ h=>h) rfl (by simp) (by simp) (qL _) (by omega) hby (by rw[hN2];simp) (by rw[hN2]) u)
end Go.Proofs.YtfbhemmpobgdpaaGreatDoor
namespace Go.Proofs.YtfbhemmpobgdpaaGreatDoor
open Go.RowKit Go.MapKept
theorem kG {w:World} {m:RQ} (ok:m.ok w) (k:Nat) (h1:1<=k) (h2:k<=10):InB ((BG m k).flatMap AM):=by
 have hT: ∀s,InB (pT s).text:=fun s=>UD _;have hN:InB ([]:List Int):=fun x hx=>by simp at hx
 have hp: ∀p∈BG m k,InB p.text:=by
  rcases k10 h1 h2 with rfl|rfl|rfl|rfl|rfl|rfl|rfl|rfl|rfl|rfl<;>intro p hp<;>simp only[BG,qC,List.not_mem_nil,or_false] at hp
  ·rcases hp with rfl|rfl|rfl|rfl|rfl|rfl;·exact hT _
   ·exact hN
   ·exact hN
   ·exact hN
   ·exact hN
   ·exact ok.bytes
  ·rcases hp with rfl|rfl;·exact hT _
   ·exact hT _
  ·subst hp;exact hT _
  ·subst hp;exact hT _
  ·rcases hp with rfl|rfl|rfl|rfl<;>exact hN
  ·subst hp;exact hN
  ·subst hp;exact hT _
  ·subst hp;exact hN
  ·rcases hp with rfl|rfl|rfl|rfl;·exact hT _
   ·exact hN
   ·exact hT _
   ·exact hT _
 intro x hx;obtain⟨p,hpm,hxp⟩:=List.mem_flatMap.1 hx;exact RB (hp p hpm) x hxp
theorem aC {w:World} {m:RQ} (ok:m.ok w) (hz:(BL m).1=0):InB (BL m).2:=by
 obtain⟨k,h1,h2,hk,ha,ho,he,hnm⟩:=encR_ok hz;rw[he];exact kG ok k h1 h2
theorem encR_lenE (m:RQ):(BL m).2.length<=33792:=by
 unfold BL;split
 ·split;·simp
  ·exact lG
 ·simp
theorem kJ {m:RQ} (w:World) (hm:m.ok w) (hs:m.text.size<=140737488355328) (hv:m.value.size<=140737488355328) (hl:m.lang.size<=140737488355328) {E:Int} {l:List Int} {nm:ByteArray} (e1:BL m=(E,l)) (e2:BF m=nm):Calls Tryz.prog 66 #[m.val] w fun e w'=>∃A cap,e = .returned (.tuple #[.string nm,.slice A l.length cap,.int .i64 E])/\Only [] w w'/\AN cu8 5 1 w' w.heap.size (.slice A l.length cap) l:=by
 refine(gT m w hm hs hv hl).mono fun e w' h=>?_;obtain⟨O,v,he,hO⟩:=h;rw[e1,e2] at he;rw[e1] at hO;have hX:=ownB_x hO;obtain⟨A,cap,e3,_⟩:=hX.form;subst e3;exact⟨A,cap,he,O,hX⟩
theorem kN (k:Nat):(JD k).size<=1000:=by
 have h: ∀k:Nat,(FN k).length<=1000:=fun k=>by
  unfold FN;split<;>decide
 show(FN k).toArray.size<=1000;simpa using h k
theorem dC (m:RQ):(BF m).size<=1000:=by
 unfold BF;split;·exact kN _
 ·decide
def rqS' (r:RQ):List SC:=[.v (.int .i64 r.kind),.v (.string r.text),.v (.string r.value),.v (.string r.lang),.v (.int .u32 r.cols),.v (.int .u32 r.rows),.v (.int .u32 r.width),.v (.int .u32 r.height),.v (.slice r.mA r.modes.length r.mc),.v (.bool r.on),.v (.int .u32 r.code)]
theorem mA_ok (chan:Int) (name:ByteArray) (A:Option Addr) (c:Nat) (d:List Int) (hc:U32 chan) (hn:name.size<=maxLen) (h1:d.length<=c) (h2:c<=maxLen) (hb:InB d) {w:World} (hr:RdX cu8 w A d):(mA chan name A c d).ok w:=⟨QL hr,h1,h2,hb,⟨hc,z30,z30,z30,z30⟩,hn,qO _⟩
theorem own_keeps {α:Type} {cf:α->List Value} {E size:Nat} {w00 w1 w' w2:World} {G L1 β fp:List Nat} {hp:List HB} {Q:World->Prop} {A:Option Addr} {c n:Nat} {l:List α} (C:Fx w00 G w1 L1 fp Q) (H:Mem w1 L1 β hp w') (hro:PJ hp=true) (k:Nat) (hl:l.length=n) (hk:hp[k]? = some (.s A c n E size (l.flatMap cf))) (O:Only fp w' w2):RdX cf w2 A l:=
 DX w' w2 O.size (fun y hy=>by
  have hb:(HB.s A c n E size (l.flatMap cf)).blk (nm β k)=some y:=by
   unfold bkO at hy;rw[Option.mem_toList] at hy;exact hy
  exact O.block y (HB.lies_lt (H.lies k _ hk) hb) (C.apart H hro k _ y hk hb)) (H.rdX (cf:=cf) (l:=l) k hl hk)
theorem CAt.box2 {p:Nat} {C:CL} {w:World} {i:Nat} {x:HM} {q q2:Nat} (h:CAt p C w) (hx:C.R.xs[i]? = some x) (hq:q∉C.fp p) (hq2:q2∉C.fp p) (hqq:q≠q2):[x.b,q,q2].Nodup/\∀(T:Nat) (v:Value),Fx w ((AG p C.K C.sA C.M++[x.b])++[q,q2]) w [x.b,q,q2] (AG p C.K C.sA C.M) (TQ p C.K C.sA C.sc C.said C.M C.M.abs):=by
 obtain⟨nd,sub⟩:=h.parts hx;have hbx:x.b∈x.fp:=by simp[HM.fp]
 have hne: ∀q,q∉C.fp p->x.b≠q:=fun q hq e=>hq (by rw[<-e];exact sub _ (qJ (.inr hbx)));refine⟨by simp[hne q hq,hne q2 hq2,hqq],fun _ _=>Fx.start (fun y hy=>?_) h.tq (fun y hy=>⟨h.tq.lt y hy,fun hm=>?_,?_⟩) TQ.st⟩
 ·simp only[qC,List.not_mem_nil,or_false] at hy;rcases hy with h|h|h<;>subst h<;>simp
 ·simp only[qC,List.not_mem_nil,or_false] at hm;rcases hm with e|e|e;·subst e;exact SU h hx hy
  ·subst e;exact hq (sub _ (qJ (.inl hy)))
  ·subst e;exact hq2 (sub _ (qJ (.inl hy)))
 ·exact qJ (.inl (qJ (.inl hy)))
theorem ask1_any (p:Nat) (C:CL) (i:Nat) (x:HM) (q q2:Nat) (r:RQ) (w:World) (h:CAt p C w) (hx:C.R.xs[i]? = some x) (hqn:q∉C.fp p) (hqn2:q2∉C.fp p) (hqq:q≠q2) (hq:Blk w q 41 r.cells) (hq2:Blk w q2 25 [AD p]) (hr:DE w (C.fp p++[q,q2]) (fun w=>r.ok w)) (hs:r.text.size<=140737488355328) (hv:r.value.size<=140737488355328) (hl:r.lang.size<=140737488355328) {N:Nat} (hok:COk N C.abs) (hN:N<=1000000) (hsz:C.said.length<=100000000):Calls Tryz.prog 65 #[AD x.b,AD q,AD q2] w (QW p C [q,q2] (OM C.abs i (IX (BL r).1 (BF r) (BL r).2 C.abs x.abs)) (IX (BL r).1 (BF r) (BL r).2 C.abs x.abs).2 (fun w=>Blk w q 41 r.cells/\Blk w q2 25 [AD p]) w):=by
 have hxo:HOk N x.abs:=hok.xs _ (List.mem_map.2 ⟨x,qE hx,rfl⟩);have hinb:(BL r).1=0->InB (BL r).2:=fun h0=>aC (hr.at) h0;have hnm:=dC r;obtain⟨nam,hnam⟩: ∃n,BF r=n:=⟨_,rfl⟩;obtain⟨E,l,hE⟩: ∃E l,BL r=(E,l):=⟨_,_,rfl⟩;have hlen:=encR_lenE r;rw[hnam] at hnm⊢;rw[hE] at hinb hlen⊢;dsimp only at hinb hlen⊢;have hn:l.length=l.length:=rfl;obtain⟨hnd,hC⟩:=h.box2 hx hqn hqn2 hqq;obtain⟨nd,sub⟩:=h.parts hx;have hbx:x.b∈x.fp:=by simp[HM.fp]
 have hsub: ∀y∈[x.b,q,q2],y∈C.fp p++[q,q2]:=fun y hy=>by
  simp only[qC,List.not_mem_nil,or_false] at hy;rcases hy with h|h|h;·subst h;exact qJ (.inl (sub _ (qJ (.inr hbx))))
  ·subst h;simp
  ·subst h;simp
 have C0:=hC 0 undef;have hB:=(h.rst.xs x (qE hx)).blk;obtain⟨b,hb⟩:=qX x.b;rw[hb] at hnd C0 hB hsub⊢;have fin: ∀{E:Int} {C1:CS} {c':CC} {sA':Option Addr} {sc':Nat} {said':List Int} {M':WM} {S':WS} {w1 w':World} {L1 β:List Nat} {hp:List HB} (C2:Fx w ((AG p C.K C.sA C.M++[b])++[q,q2]) w1 L1 (AG p C.K sA' M') (TQ p C.K sA' sc' said' M' S')) (H:Mem w1 L1 β hp w') (hro:PJ hp=true) (h0:hp[0]? = some (.b true 94 (ccS c'))) (h1:hp[1]? = some (.b true 41 (rqS' r))) (h2:hp[2]? = some (.b true 25 [.v (AD p)])) (e0:nm β 0=b) (e1:nm β 1=q) (e2:nm β 2=q2) (hn: ∀y∈AG p C.K sA' M',y∈AG p C.K C.sA C.M\/w.heap.size<=y) (hs:OL x.c c') (hC1 : { C.abs with said:=said',S:=S',xs:=C.abs.xs.set i (x.set c').abs }=C1),QW p C [q,q2] C1 E (fun w=>Blk w q 41 r.cells/\Blk w q2 25 [AD p]) w (.returned (.int .i64 E)) w':=by
  intro E C1 c' sA' sc' said' M' S' w1 w' L1 β hp C2 H hro h0 h1 h2 e0 e1 e2 hn hs hC1;subst hb;have hb2:Blk w' x.b 94 c'.cells:=by rw[<-e0];exact H.lies 0 _ h0
  have hq2':Blk w' q 41 r.cells:=by rw[<-e1];exact H.lies 1 _ h1
  have hq3':Blk w' q2 25 [AD p]:=by rw[<-e2];exact H.lies 2 _ h2
  obtain⟨o1,⟨o2,o3⟩,o4⟩:=CAt.turn [q,q2] (by simp[hqn,hqn2]) h hx (C2.fin H) (C2.at H) hb2 hs (fun y hy=>⟨fun e=>by
   subst e;exact C2.apart H hro 0 _ x.b h0 (by rw[e0];rfl) hy,zT (C2.own y hy).1 H.only.size,hn y hy⟩)
  exact⟨_,rfl,o1,⟨⟨o2,o3.trans hC1⟩,hq2',hq3'⟩,o4⟩
 refine Hs.en Tryz.func65 _ [b,q,q2] [.b true 94 (ccS x.c),.b true 41 (rqS' r),.b true 25 [.v (AD p)]] [.c (.p 0 0),.c (.p 1 0),.c (.p 2 0)] (Mem.startN rfl hnd ⟨hB,hq,hq2,trivial⟩) ?_;refine Hs.e0 ?_;refine Hs.callS (cf:=cu8) (E:=5) (size:=1) (fun A cap=>.tuple #[.string nam,.slice A l.length cap,.int .i64 E]) l l.length hn (fun w' H=>kJ w' (hr w' (H.only.mono hsub)) hs hv hl hE hnam) (by kernel_rfl) (by kernel_rfl) fun A c h1 h2=>?_;refine Hs.e0 ?_;refine Hs.cn (E==0) (fun he=>?_) (fun he=>?_)
 ·have he:E=0:=by simpa using he
  have e:IX E nam l C.abs x.abs=((FP C.abs (mA x.c.server nam none 0 l),x.abs),0):=by unfold IX;exact if_pos he
  rw[e];refine Hs.e0 ?_;refine Hs.any [0,2] (by kernel_rfl) ?_;refine Hs.e0 ?_;refine Hs.callFxB (X:=(Option Addr×Nat)×WM) (fun _=>.tuple #[]) (fun z=>AG p C.K z.1.1 z.2) (fun z=>TQ p C.K z.1.1 z.1.2 (BN C.said (mA x.c.server nam none 0 l)) z.2 (CW C.M.abs (mA x.c.server nam none 0 l))) C0 (fun w' H hq=>KG p C.K C.sA C.sc C.said C.M C.M.abs (mA x.c.server nam A c l) w' hq (fun w2 O2=>mA_ok x.c.server nam A c l hxo.n.1 (by unfold maxLen;omega) (by omega) h2 (hinb he) (own_keeps (cf:=cu8) (E:=5) (size:=1) (c:=c) (A:=A) (l:=l) C0 H (by kernel_rfl) 3 hn (by kernel_rfl) O2)) (by show nam.size<=_;omega) (qO _) (fun o ho=>Nat.le_trans (hok.w.op o ho).2 hN) hsz) (by kernel_rfl) (by kernel_rfl) fun z w1 L1 C1 hnw _=>?_;subst he;refine Hs.e0 ?_;exact Hs.rt (v:=.int .i64 0) Tryz.func65 fun w' H=>fin (c':=x.c) C1 H (by kernel_rfl) (by kernel_rfl) (by kernel_rfl) (by kernel_rfl) (by kernel_rfl) (by kernel_rfl) (by kernel_rfl) hnw ⟨⟨rfl,rfl,rfl⟩,⟨rfl,rfl,rfl⟩,rfl,rfl,rfl⟩ (by kernel_rfl)
 ·have he:E≠0:=by simpa using he
  have e:IX E nam l C.abs x.abs=((C.abs,x.abs),E):=by unfold IX;exact if_neg he
  rw[e];refine Hs.e0 ?_;exact Hs.rt (v:=.int .i64 E) Tryz.func65 fun w' H=>fin (c':=x.c) C0 H (by kernel_rfl) (by kernel_rfl) (by kernel_rfl) (by kernel_rfl) (by kernel_rfl) (by kernel_rfl) (by kernel_rfl) (fun y hy=>.inl hy) ⟨⟨rfl,rfl,rfl⟩,⟨rfl,rfl,rfl⟩,rfl,rfl,rfl⟩ (by kernel_rfl)
theorem fit_le (l p:Int) (h:Nat):JB l p h<=h/\0<=JB l p h/\JB l p h<=32768:=by
 have e:LI l p<=32768/\0<=LI l p:=by
  unfold LI QH;simp only[List.foldl_cons,List.foldl_nil];unfold ma0 mi;repeat' split
  all_goals omega
 unfold JB QH;simp only[List.foldl_cons,List.foldl_nil];unfold ma0 mi;repeat' split
 all_goals omega
theorem lD {f k:Nat} {C:CS} {x:HS} {b:List Int} {fv:Int} (hl:b.length=k) (hfv:fv=JB x.oL x.oP (k:Nat)) (hp:fv>0):DM (f+1) C x b=DM f (FP C (mD x.server none 0 (b.take fv.toNat))) { x with oL:=(GT x.oL x.oP fv).1 } (b.drop fv.toNat):=by
 subst hl;subst hfv;rw[DM,if_pos hp]
theorem typeL_end {f k:Nat} {C:CS} {x:HS} {b:List Int} {fv:Int} (hl:b.length=k) (hfv:fv=JB x.oL x.oP (k:Nat)) (hp: ¬fv>0):DM (f+1) C x b=((C,x),b):=by
 subst hl;subst hfv;rw[DM,if_neg hp]
theorem pkt_mD (chan:Int) (A:Option Addr) (c:Nat) (d:List Int):(BB (mD chan A c d)).length<=13+d.length:=by
 by_cases hz:(BZ (mD chan A c d)).1=0
 ·rw[NZ hz,zE];obtain⟨js,hr,_,_,he⟩:=QB hz;have e:js=[9,1]:=by
   have h2:BX 94=some [9,1]:=by decide
   have h3:BX (mD chan A c d).kind=BX 94:=rfl;rw[h3,h2] at hr;injection hr with hr;exact hr.symm
  subst e;rw[he];have e2:([9,1].map (AP (mD chan A c d))).flatMap AM=four chan++(four d.length++d):=by
   simp[AP,AM,mD]
  rw[e2];simp only[List.length_cons,zE,JQ,four,List.length_nil];omega
 ·rw[SA hz];simp
theorem HQ (n:Int):U32 (IntKind.u32.wrap n):=by
 rw[IntKind.wrap_u32];unfold U32;omega
theorem mD_ok (chan:Int) (A:Option Addr) (c:Nat) (d:List Int) (hc:U32 chan) (h1:d.length<=c) (h2:c<=maxLen) (hb:InB d) {w:World} (hr:RdX cu8 w A d):(mD chan A c d).ok w:=⟨QL hr,h1,h2,hb,⟨hc,z30,z30,z30,z30⟩,qO _,qO _⟩
theorem CAt.box3 {p:Nat} {C:CL} {w:World} {i:Nat} {x:HM} {q q2 q3:Nat} (h:CAt p C w) (hx:C.R.xs[i]? = some x) (hq:q∉C.fp p) (hq2:q2∉C.fp p) (hq3:q3∉C.fp p) (hqq:[q,q2,q3].Nodup):[x.b,q,q2,q3].Nodup/\∀(T:Nat) (v:Value),Fx w ((AG p C.K C.sA C.M++[x.b])++[q,q2,q3]) w [x.b,q,q2,q3] (AG p C.K C.sA C.M) (TQ p C.K C.sA C.sc C.said C.M C.M.abs):=by
 obtain⟨nd,sub⟩:=h.parts hx;have hbx:x.b∈x.fp:=by simp[HM.fp]
 have hne: ∀q,q∉C.fp p->x.b≠q:=fun q hq e=>hq (by rw[<-e];exact sub _ (qJ (.inr hbx)));refine⟨List.nodup_cons.2 ⟨by simp[hne q hq,hne q2 hq2,hne q3 hq3],hqq⟩,fun _ _=>Fx.start (fun y hy=>?_) h.tq (fun y hy=>⟨h.tq.lt y hy,fun hm=>?_,?_⟩) TQ.st⟩
 ·simp only[qC,List.not_mem_nil,or_false] at hy;rcases hy with h|h|h|h<;>subst h<;>simp
 ·simp only[qC,List.not_mem_nil,or_false] at hm;rcases hm with e|e|e|e;·subst e;exact SU h hx hy
  ·subst e;exact hq (sub _ (qJ (.inl hy)))
  ·subst e;exact hq2 (sub _ (qJ (.inl hy)))
  ·subst e;exact hq3 (sub _ (qJ (.inl hy)))
 ·exact qJ (.inl (qJ (.inl hy)))
def ZT (p q q2 q3:Nat) (A:Option Addr) (n cap k:Nat) (w:World):Prop:=Blk w q 30 [.slice A n cap]/\Blk w q2 3 [.int .i64 (k:Int)]/\Blk w q3 25 [AD p]
theorem type1_any (R:Ending->World->Prop) (p:Nat) (C:CL) (i:Nat) (x:HM) (q q2 q3:Nat) (A:Option Addr) (cap:Nat) (bl:List Int) (n:Nat) (hn:bl.length=n) (w:World) (h:CAt p C w) (hx:C.R.xs[i]? = some x) (hqn:q∉C.fp p) (hqn2:q2∉C.fp p) (hqn3:q3∉C.fp p) (hqq:[q,q2,q3].Nodup) (hq:Blk w q 30 [.slice A n cap]) (hq2:Blk w q2 3 [.int .i64 0]) (hq3:Blk w q3 25 [AD p]) (hr:DE w (C.fp p++[q,q2,q3]) (fun w=>RdX cu8 w A bl)) (hinb:InB bl) (hnc:n<=cap) (hcm:cap<=maxLen) (hnm:n<=1000000) {N:Nat} (hok:COk N C.abs) (hN:N<=1000000) (hsz:C.said.length<=1000000) (T:(CS×HS)×List Int) (hT:DM (n+1) C.abs x.abs bl=T) (r9:x.c.eof=true->∀e w',QW p C [q,q2,q3] (OM C.abs i ((C.abs,x.abs),9)) 9 (ZT p q q2 q3 A n cap 0) w e w'->R e w') (r0:x.c.eof=false->∀e w',QW p C [q,q2,q3] (OM C.abs i (T.1,0)) 0 (ZT p q q2 q3 A n cap (n-T.2.length)) w e w'->R e w'):Calls Tryz.prog 49 #[AD x.b,AD q,AD q2,AD q3] w R:=by
 have hxo:HOk N x.abs:=hok.xs _ (List.mem_map.2 ⟨x,qE hx,rfl⟩);obtain⟨hnd,hC⟩:=h.box3 hx hqn hqn2 hqn3 hqq;obtain⟨nd,sub⟩:=h.parts hx;have C0:=hC 0 undef;have hB:=(h.rst.xs x (qE hx)).blk;have hbx:x.b∈x.fp:=by simp[HM.fp]
 obtain⟨b,hb⟩:=qX x.b;rw[hb] at hnd C0 hB hbx⊢;have fin: ∀{E:Int} {k:Nat} {C1:CS} {c':CC} {sA':Option Addr} {sc':Nat} {said':List Int} {M':WM} {S':WS} {w1 w':World} {L1 β:List Nat} {hp:List HB} (C2:Fx w ((AG p C.K C.sA C.M++[b])++[q,q2,q3]) w1 L1 (AG p C.K sA' M') (TQ p C.K sA' sc' said' M' S')) (H:Mem w1 L1 β hp w') (hro:PJ hp=true) (h0:hp[0]? = some (.b true 94 (ccS c'))) (h1:hp[1]? = some (.b true 30 [.v (.slice A n cap)])) (h2:hp[2]? = some (.b true 3 [.v (.int .i64 (k:Int))])) (h3:hp[3]? = some (.b true 25 [.v (AD p)])) (e0:nm β 0=b) (e1:nm β 1=q) (e2:nm β 2=q2) (e3:nm β 3=q3) (hn: ∀y∈AG p C.K sA' M',y∈AG p C.K C.sA C.M\/w.heap.size<=y) (hs:OL x.c c') (hC1 : { C.abs with said:=said',S:=S',xs:=C.abs.xs.set i (x.set c').abs }=C1),QW p C [q,q2,q3] C1 E (ZT p q q2 q3 A n cap k) w (.returned (.int .i64 E)) w':=by
  intro E k C1 c' sA' sc' said' M' S' w1 w' L1 β hp C2 H hro h0 h1 h2 h3 e0 e1 e2 e3 hn hs hC1;subst hb;have hb2:Blk w' x.b 94 c'.cells:=by rw[<-e0];exact H.lies 0 _ h0
  have hq1':Blk w' q 30 [.slice A n cap]:=by rw[<-e1];exact H.lies 1 _ h1
  have hq2':Blk w' q2 3 [.int .i64 (k:Int)]:=by rw[<-e2];exact H.lies 2 _ h2
  have hq3':Blk w' q3 25 [AD p]:=by rw[<-e3];exact H.lies 3 _ h3
  obtain⟨o1,⟨o2,o3⟩,o4⟩:=CAt.turn [q,q2,q3] (by simp[hqn,hqn2,hqn3]) h hx (C2.fin H) (C2.at H) hb2 hs (fun y hy=>⟨fun e=>by
   subst e;exact C2.apart H hro 0 _ x.b h0 (by rw[e0];rfl) hy,zT (C2.own y hy).1 H.only.size,hn y hy⟩)
  exact⟨_,rfl,o1,⟨⟨o2,o3.trans hC1⟩,hq1',hq2',hq3'⟩,o4⟩
 have J:x.c.eof=false->∀(f:Nat) (oL fv a:Int) (k:Nat) (D:CS) (sA':Option Addr) (sc':Nat) (said':List Int) (M':WM) (S':WS) (w1:World) (L1:List Nat),n-k<f->k<=n->a=(k:Int)->fv=JB oL x.c.oP (n-k:Nat)->U32 oL->D.said=said'->D.S=S'->WOk N S'->said'.length<=C.said.length+40*k->D = { C.abs with said:=said',S:=S' }->DM f D { x.abs with oL:=oL } (bl.drop k)=T->Fx w ((AG p C.K C.sA C.M++[b])++[q,q2,q3]) w1 L1 (AG p C.K sA' M') (TQ p C.K sA' sc' said' M' S')->(∀y∈AG p C.K sA' M',y∈AG p C.K C.sA C.M\/w.heap.size<=y)->∀u:Nat->Value,Hs Tryz.prog 49 R (Tryz.f49).ntmps w1 L1 [b,q,q2,q3] ⟨.no,BE Tryz.f49 0,KQ [(0,.c (.p 0 0)),(1,.c (.p 1 0)),(2,.c (.p 2 0)),(3,.c (.p 3 0)),(6,.c (.v (.int .i64 fv)))] (.vals u),[.b true 94 (ccS { x.c with oL:=oL }),.b true 30 [.v (.slice A n cap)],.b true 3 [.v (.int .i64 a)],.b true 25 [.v (AD p)]]⟩:=by
  intro he f;induction f with
  |zero=>intro oL fv a k D sA' sc' said' M' S' w1 L1 h1;omega
  |succ f ih=>
   intro oL fv a k D sA' sc' said' M' S' w1 L1 h1 hk ha hfv hoL hD1 hD2 hW hsl hD hTT C1 hnw u;subst ha;have hfl:=fit_le oL x.c.oP (n-k);rw[<-hfv] at hfl;obtain⟨kk,hkk⟩:=Int.eq_ofNat_of_zero_le hfl.2.1;have hkn:kk<=n-k:=by omega
   have hw38:Value.int .i64 (IntKind.i64.wrap ((k:Int)+fv))=Value.int .i64 ((k+kk:Nat):Int):=by
    rw[IntWalk.i64_in _ (by omega)];congr 1;omega
   obtain⟨dd,hdd⟩:=qX ((bl.drop k).take fv.toNat);have hdl:dd.length=kk:=by rw[<-hdd,List.length_take,List.length_drop,hn];omega
   have hw39:Value.slice (loA 1 A k cap) (k+kk-k) (cap-k)=Value.slice (loA 1 A k cap) dd.length (cap-k):=by rw[hdl];congr 1;omega
   have hmd: ∀{w':World} (w2:World),Only ((AG p C.K C.sA C.M++[b])++[q,q2,q3]) w w'->Only (AG p C.K sA' M') w' w2->(mD x.c.server (loA 1 A k cap) (cap-k) dd).ok w2:=fun {w'} w2 O1 O2=>by
    have hr2:=hr w2 ((O1.trans O2 (L:=(AG p C.K C.sA C.M++[b])++[q,q2,q3]) fun y hy=>(hnw y hy).imp (fun h=>qJ (.inl (qJ (.inl h)))) id).mono fun y hy=>?_);refine mD_ok x.c.server _ _ dd hxo.n.1 (by omega) (by omega) ?_ ?_;·rw[<-hdd];exact(hinb.drop k).take _
    ·rw[<-hdd];exact dQ BT _ (OG BT hr2 (by omega) (by omega))
    ·rcases qK hy with hy|hy
     ·rcases qK hy with hy|hy;·exact qJ (.inl (sub y (qJ (.inl hy))))
      ·rw[qS] at hy;rw[hy];exact qJ (.inl (sub b (qJ (.inr hbx))))
     ·exact qJ (.inr hy)
   have hwk:IntKind.i64.wrap ((k:Int)+fv)=((k+kk:Nat):Int):=by
    rw[IntWalk.i64_in _ (by omega)];omega
   have hfk:JB (GT oL x.c.oP fv).1 x.c.oP (IntKind.i64.wrap ((n:Int)-IntKind.i64.wrap ((k:Int)+fv)))=JB (GT oL x.c.oP fv).1 x.c.oP ((n-(k+kk):Nat):Int):=by
    rw[hwk,IntWalk.i64_in _ (by omega)];congr 1;omega
   have hsent:U32 (GT oL x.c.oP fv).1:=by
    unfold GT;split;·exact HQ _
    ·exact hoL
   have hsl2:(BN said' (mD x.c.server none 0 dd)).length<=C.said.length+40*(k+kk)\/¬fv>0:=by
    by_cases hp:fv>0
    ·have:=pkt_mD x.c.server none 0 dd;unfold BN;rw[zE];omega
    ·exact .inr hp
   have hll:(bl.drop k).length=n-k:=by rw[List.length_drop,hn]
   refine Hs.e0 ?_;refine Hs.cP (fv>0) (fun hp=>?_) (fun hp=>?_)
   ·have hstep:=(lD (f:=f) (C:=D) (x:={ x.abs with oL:=oL }) hll hfv hp).symm.trans hTT;have hsl2:=hsl2.resolve_right (fun h=>h hp);have hstep2:DM f (FP D (mD x.c.server none 0 dd)) { x.abs with oL:=(GT oL x.c.oP fv).1 } (bl.drop (k+kk))=T:=by
     rw[<-hstep,<-List.drop_drop,hdd];have ekk:fv.toNat=kk:=by omega
     rw[ekk];rfl
    refine Hs.e0 ?_;refine Hs.any [0,1,2,3] (by kernel_rfl) ?_;refine Hs.e0 ?_;refine Hs.slot 38 (.c (.v (.int .i64 ((k+kk:Nat):Int)))) rfl ((by kernel_rfl:_=Value.int .i64 (IntKind.i64.wrap ((k:Int)+fv))).trans hw38) ?_;refine Hs.lhF (A:=A) (len:=n) (cap:=cap) (i:=k) (j:=k+kk) CY (by omega) (by omega) (by kernel_rfl) ?_;refine Hs.slot 39 (.c (.v (.slice (loA 1 A k cap) dd.length (cap-k)))) rfl ((by kernel_rfl:_=Value.slice (loA 1 A k cap) (k+kk-k) (cap-k)).trans hw39) ?_;refine Hs.e0 ?_;refine Hs.callFxB (X:=(Option Addr×Nat)×WM) (fun _=>.tuple #[]) (fun z=>AG p C.K z.1.1 z.2) (fun z=>TQ p C.K z.1.1 z.1.2 (BN said' (mD x.c.server none 0 dd)) z.2 (CW S' (mD x.c.server none 0 dd))) C1 (fun w' H hq=>KG p C.K sA' sc' said' M' S' (mD x.c.server (loA 1 A k cap) (cap-k) dd) w' hq (fun w2 O2=>hmd w2 (C1.fin H) O2) (qO _) (qO _) (fun o ho=>Nat.le_trans (hW.op o ho).2 hN) (by omega)) (by kernel_rfl) (by kernel_rfl) fun z w2 L2 C2 hn2 _=>?_;refine Hs.e0 ?_;refine Hs.cV (fun w' H=>sent_any oL x.c.oP fv w') ?_;refine Hs.e0 ?_;refine Hs.any [0,1,2] (by kernel_rfl) ?_;refine Hs.e0 ?_;refine Hs.cV (fun w' H=>fit_any (GT oL x.c.oP fv).1 x.c.oP (IntKind.i64.wrap ((n:Int)-IntKind.i64.wrap ((k:Int)+fv))) w') ?_;refine Hs.e0 ?_;refine Hs.lP ?_;exact Hs.goto (BE Tryz.f49 0) [0,1,2,3] [.b true 94 (ccS { x.c with oL:=(GT oL x.c.oP fv).1 }),.b true 30 [.v (.slice A n cap)],.b true 3 [.v (.int .i64 (IntKind.i64.wrap ((k:Int)+fv)))],.b true 25 [.v (AD p)]] [(0,.c (.p 0 0)),(1,.c (.p 1 0)),(2,.c (.p 2 0)),(3,.c (.p 3 0)),(6,.c (.v (.int .i64 (JB (GT oL x.c.oP fv).1 x.c.oP (IntKind.i64.wrap ((n:Int)-IntKind.i64.wrap ((k:Int)+fv)))))))] (by kernel_rfl) (by decide) (by kernel_rfl) (by kernel_rfl) (fun _=>(by kernel_rfl)) (fun u=>ih (GT oL x.c.oP fv).1 _ _ (k+kk) (FP D (mD x.c.server none 0 dd)) z.1.1 z.1.2 _ z.2 _ w2 L2 (by omega) (by omega) hwk hfk hsent (by rw[<-hD1];rfl) (by rw[<-hD2];rfl) (MP hW (by show(94:Int)≠90;decide)) hsl2 (by rw[hD];rfl) hstep2 C2 (fun y hy=>(hn2 y hy).elim (hnw y) (fun h=>.inr (Nat.le_trans C1.only.size h))) u)
   ·have hend:=(typeL_end (f:=f) (C:=D) (x:={ x.abs with oL:=oL }) hll hfv hp).symm.trans hTT;refine Hs.e0 ?_;exact Hs.rt (v:=.int .i64 0) Tryz.func49 fun w' H=>r0 he _ _ (by
     subst hend;have ek:n-(bl.drop k).length=k:=by omega
     dsimp only;rw[ek];exact fin (c':={ x.c with oL:=oL }) C1 H (by kernel_rfl) (by kernel_rfl) (by kernel_rfl) (by kernel_rfl) (by kernel_rfl) (by kernel_rfl) (by kernel_rfl) (by kernel_rfl) (by kernel_rfl) hnw ⟨⟨rfl,rfl,rfl⟩,⟨rfl,rfl,rfl⟩,rfl,rfl,rfl⟩ (by rw[hD];kernel_rfl))
 refine Hs.en Tryz.func49 _ [b,q,q2,q3] [.b true 94 (ccS x.c),.b true 30 [.v (.slice A n cap)],.b true 3 [.v (.int .i64 0)],.b true 25 [.v (AD p)]] [.c (.p 0 0),.c (.p 1 0),.c (.p 2 0),.c (.p 3 0)] (Mem.startN rfl hnd ⟨hB,hq,hq2,hq3,trivial⟩) ?_;refine Hs.e0 ?_;refine Hs.cn x.c.eof (fun he=>?_) (fun he=>?_)
 ·refine Hs.e0 ?_;exact Hs.rt (v:=.int .i64 9) Tryz.func49 fun w' H=>r9 he _ _ (fin (k:=0) (c':=x.c) C0 H (by kernel_rfl) (by kernel_rfl) (by kernel_rfl) (by kernel_rfl) (by kernel_rfl) (by kernel_rfl) (by kernel_rfl) (by kernel_rfl) (by kernel_rfl) (fun y hy=>.inl hy) ⟨⟨rfl,rfl,rfl⟩,⟨rfl,rfl,rfl⟩,rfl,rfl,rfl⟩ (by kernel_rfl))
 have J:=J he;refine Hs.e0 ?_;refine Hs.any [0,1] (by kernel_rfl) ?_;refine Hs.e0 ?_;refine Hs.cV (fun w' H=>fit_any x.c.oL x.c.oP n w') ?_;refine Hs.e0 ?_;refine Hs.lP ?_;exact Hs.goto (BE Tryz.f49 0) [0,1,2,3] [.b true 94 (ccS { x.c with oL:=x.c.oL }),.b true 30 [.v (.slice A n cap)],.b true 3 [.v (.int .i64 0)],.b true 25 [.v (AD p)]] [(0,.c (.p 0 0)),(1,.c (.p 1 0)),(2,.c (.p 2 0)),(3,.c (.p 3 0)),(6,.c (.v (.int .i64 (JB x.c.oL x.c.oP n))))] (by kernel_rfl) (by decide) (by kernel_rfl) (by kernel_rfl) (fun _=>(by kernel_rfl)) (fun u=>J (n+1) x.c.oL _ _ 0 C.abs C.sA C.sc C.said C.M C.M.abs w _ (by omega) (by omega) rfl rfl hxo.n.2.1 rfl rfl hok.w (by omega) rfl hT C0 (fun y hy=>.inl hy) u)
theorem cY (f:CS->HS->(CS×HS)×Int) (p:Nat) (C:CL) (i:Nat) (F:FuncId) (bnd cap:Array Value) (L:List Nat) (Ex Z:World->Prop) (w:World) (hF:F=65\/F=49\/F=67\/F=68) (h:CAt p C w) (hex:Ex w) (stE:StX L Ex) (stZ:StX L Z) (hL: ∀y∈L,y<w.heap.size/\y∉C.fp p) (hn:C.R.xs.length<=64) (hi:i<4294967296)
  (hcall: ∀(x:HM) (w':World),Only [] w w'->C.R.xs[i]? = some x->upC C.abs x.abs=true->CAt p C w'->Ex w'->(∀y∈L,y<w'.heap.size)->Calls Tryz.prog F (bnd++#[AD x.b]++cap) w' (QW p C L (OM C.abs i (f C.abs x.abs)) (f C.abs x.abs).2 Z w'))
  (hZ:(C.R.xs[i]? = none\/∃x,C.R.xs[i]? = some x/\upC C.abs x.abs=false)->∀w,Ex w->Z w) :
  Calls Tryz.prog 48 #[AD p,.int .u32 i,.func (.func F) bnd cap] w (NM p C L (AW C.abs i f).1 (AW C.abs i f).2.1 (AW C.abs i f).2.2 Z w):=by
 have hxs:C.abs.xs[i]? = C.R.xs[i]?.map HM.abs:=List.getElem?_map ..;cases hx:C.R.xs[i]? with
 |none=>
  have e:AW C.abs i f=(C.abs,[],8):=by unfold AW;rw[hxs,hx];rfl
  rw[e];exact eQ _ p C i F bnd cap L Ex Z C.abs 0 w hF h hex stE stZ hL hn hi (fun x w' _ hx2=>by rw[hx] at hx2;cases hx2) hZ (fun _ e w' h=>h) (fun x hx2=>by rw[hx] at hx2;cases hx2) (fun x hx2=>by rw[hx] at hx2;cases hx2) (fun x hx2=>by rw[hx] at hx2;cases hx2)
 |some x=>
  have hone: ∀x',C.R.xs[i]? = some x'->x'=x:=fun x' hx2=>by rw[hx] at hx2;injection hx2 with hx2;exact hx2.symm
  have e:AW C.abs i f=if upC C.abs x.abs=true then(if(f C.abs x.abs).2≠0 then(OM C.abs i (f C.abs x.abs),[],(f C.abs x.abs).2) else({ OM C.abs i (f C.abs x.abs) with said:=[] },(OM C.abs i (f C.abs x.abs)).said,0)) else(C.abs,[],9):=by
   unfold AW;rw[hxs,hx];dsimp only[Option.map];unfold upC;by_cases hb:(BO C.abs || !decide (x.abs.st=2)||x.abs.clo)=true
   ·rw[if_pos hb,hb];rfl
   ·rw[if_neg hb];have hb:(BO C.abs || !decide (x.abs.st=2)||x.abs.clo)=false:=by simpa using hb
    rw[hb];rfl
  rw[e];refine eQ _ p C i F bnd cap L Ex Z (OM C.abs i (f C.abs x.abs)) (f C.abs x.abs).2 w hF h hex stE stZ hL hn hi (fun x' w' hO hx2=>by
   have:=hone x' hx2;subst this;exact hcall x' w' hO hx2) hZ (fun h=>by rw[hx] at h;cases h) (fun x' hx2 hu e w' h=>?_) (fun x' hx2 hu hE e w' h=>?_) (fun x' hx2 hu hE e w' h=>?_)
  ·have:=hone x' hx2;subst this;rw[hu,if_neg (by decide)];exact h
  ·have:=hone x' hx2;subst this;rw[if_pos hu,if_pos hE];exact h
  ·have:=hone x' hx2;subst this;rw[if_pos hu,if_neg (by simp[hE])];exact h
theorem CAt.fx {p:Nat} {C:CL} {w:World} (h:CAt p C w):Fx w (C.fp p) w [] (C.fp p) (CAt p C):=Fx.start (by simp) h (fun y hy=>⟨h.lt y hy,by simp,hy⟩) CAt.st
theorem VN {q T:Nat} {cs:List Value}:StX [q] (fun w=>Blk w q T cs):=fun w w' _ he h=>(he q (by simp)).trans h
def MQ (p:Nat) (C:CL) (C':CS) (send:List Int) (w0:World) (z:CL×Option Addr×Nat) (w:World):Prop:=(CAt p z.1 w/\z.1.abs=C'/\AN cu8 5 1 w 0 (.slice z.2.1 send.length z.2.2) send)/\(∀y∈z.1.fp p++bkO z.2.1,y∈C.fp p\/w0.heap.size<=y)/\∀y∈bkO z.2.1,y∉z.1.fp p
theorem MQ.st {p:Nat} {C:CL} {C':CS} {send:List Int} {w0:World} {z:CL×Option Addr×Nat}:StX (z.1.fp p++bkO z.2.1) (MQ p C C' send w0 z):=fun w w' hs he h=>⟨⟨CAt.st w w' hs (fun y hy=>he y (qJ (.inl hy))) h.1.1,h.1.2.1,AI w w' hs (fun y hy=>he y (qJ (.inr hy))) h.1.2.2⟩,h.2⟩
theorem MQ.fin {p:Nat} {C:CL} {C':CS} {send:List Int} {w0 w1 w':World} {z:CL×Option Addr×Nat} {L1 β fq:List Nat} {hp:List HB} {Z:World->Prop} {v:Value->Value} (C1:Fx w0 (C.fp p) w1 L1 ((z.1.fp p++bkO z.2.1)++fq) (fun w=>MQ p C C' send w0 z w/\Z w)) (H:Mem w1 L1 β hp w'):LW p C C' send v w0 (.returned (v (.slice z.2.1 send.length z.2.2))) w':=
 have K:=(C1.at H).1;⟨z,rfl,C1.fin H,K.1,fun y hy=>⟨zT (C1.own y (qJ (.inl hy))).1 H.only.size,K.2.1 y hy⟩,K.2.2⟩
theorem cZ {p:Nat} {C:CL} {L:List Nat} {C':CS} {send:List Int} {E:Int} {Z:World->Prop} {w0 w:World} {e:Ending} {w':World} (hs:w0.heap.size<=w.heap.size) (stZ:StX L Z) (hl: ∀y∈L,y<w.heap.size) (h:NM p C L C' send E Z w e w'): ∃z:CL×Option Addr×Nat,e = .returned (.tuple #[.slice z.2.1 send.length z.2.2,.int .i64 E])/\Only (C.fp p++L) w w'/\(MQ p C C' send w0 z w'/\Z w')/\StX ((z.1.fp p++bkO z.2.1)++L) (fun w=>MQ p C C' send w0 z w/\Z w)/\∀y∈(z.1.fp p++bkO z.2.1)++L,y<w'.heap.size/\(y∈C.fp p++L\/w.heap.size<=y):=by
 obtain⟨z,h1,h2,h3,h4,h5⟩:=h;refine⟨z,h1,h2,⟨⟨h3.1,fun y hy=>(h4 y hy).2.imp id fun h=>Nat.le_trans hs h,h5⟩,h3.2⟩,StX.and MQ.st stZ,fun y hy=>?_⟩;rcases qK hy with hy|hy;·exact⟨(h4 y hy).1,(h4 y hy).2.imp (fun h=>qJ (.inl h)) id⟩
 ·exact⟨zT (hl y hy) h2.size,.inl (qJ (.inr hy))⟩
theorem close_any (p:Nat) (C:CL) (i:Nat) (w:World) (h:CAt p C w) {N:Nat} (hok:COk N C.abs) (hN:N<=1000000) (hsz:C.said.length<=1000000) (hi:i<4294967296):Calls Tryz.prog 35 #[AD p,.int .u32 i] w (LW p C (AW C.abs i EM).1 (AW C.abs i EM).2.1 (fun s=>.tuple #[s,.int .i64 (AW C.abs i EM).2.2]) w):=by
 have hm:C.R.xs.length<=64:=by have:=hok.m;rw[show C.abs.xs=C.R.xs.map HM.abs from rfl,List.length_map] at this;exact this
 have hD: ∀w',CAt p C w'->Calls Tryz.prog 48 #[AD p,.int .u32 i,.func (.func 68) #[AD p] #[]] w' (NM p C [] (AW C.abs i EM).1 (AW C.abs i EM).2.1 (AW C.abs i EM).2.2 (fun _=>True) w'):=fun w' h'=>cY EM p C i 68 #[AD p] #[] [] (fun _=>True) (fun _=>True) w' (by simp) h' trivial StX.true_ StX.true_ (by simp) hm hi (fun x w2 _ hx hu h2 _ _=>iY p C i x [] (fun _=>True) w2 h2 hx (by simp) trivial StX.true_ hok hN (by omega)) (fun _ _ h=>h);obtain⟨r,hr⟩:=qX (AW C.abs i EM);rw[hr] at hD⊢;obtain⟨C',send,E⟩:=r;dsimp only at hD⊢;have C0:=h.fx;refine Hs.en Tryz.func35 [] [] [] [.c (.v (AD p)),.c (.v (.int .u32 i))] (Mem.start0 w) ?_;refine Hs.e0 ?_;refine Hs.callFx (X:=CL×Option Addr×Nat) (fun z=>.tuple #[.slice z.2.1 send.length z.2.2,.int .i64 E]) (fun z=>(z.1.fp p++bkO z.2.1)++[]) (fun z w2=>MQ p C C' send w z w2/\True) C0 (fun w' H hq=>(hD w' hq).mono fun e w2 hd=>by
  have:=cZ (w0:=w) H.only.size StX.true_ (by simp) hd;rw[qN] at this;exact this) (by kernel_rfl) (by kernel_rfl) (by kernel_rfl) fun z w1 L1 C1 _ _=>?_
 refine Hs.e0 ?_;exact Hs.rt (v:=.tuple #[.slice z.2.1 send.length z.2.2,.int .i64 E]) Tryz.func35 fun w' H=>MQ.fin (v:=fun s=>.tuple #[s,.int .i64 E]) C1 H
theorem eof_any (p:Nat) (C:CL) (i:Nat) (w:World) (h:CAt p C w) {N:Nat} (hok:COk N C.abs) (hN:N<=1000000) (hsz:C.said.length<=1000000) (hi:i<4294967296):Calls Tryz.prog 34 #[AD p,.int .u32 i] w (LW p C (AW C.abs i JA).1 (AW C.abs i JA).2.1 (fun s=>.tuple #[s,.int .i64 (AW C.abs i JA).2.2]) w):=by
 have hm:C.R.xs.length<=64:=by have:=hok.m;rw[show C.abs.xs=C.R.xs.map HM.abs from rfl,List.length_map] at this;exact this
 have hD: ∀(q:Nat) w',CAt p C w'->Blk w' q 25 [AD p]->q∉C.fp p->Calls Tryz.prog 48 #[AD p,.int .u32 i,.func (.func 67) #[] #[AD q]] w' (NM p C [q] (AW C.abs i JA).1 (AW C.abs i JA).2.1 (AW C.abs i JA).2.2 (fun w=>Blk w q 25 [AD p]) w'):=fun q w' h' hq hqn=>cY JA p C i 67 #[] #[AD q] [q] (fun w=>Blk w q 25 [AD p]) (fun w=>Blk w q 25 [AD p]) w' (by simp) h' hq VN VN (fun y hy=>by rw[qS] at hy;subst hy;exact⟨Blk.lt hq,hqn⟩) hm hi (fun x w2 _ hx hu h2 hq2 _=>eof1_any p C i x q w2 h2 hx hqn hq2 hok hN (by omega)) (fun _ _ h=>h);obtain⟨r,hr⟩:=qX (AW C.abs i JA);rw[hr] at hD⊢;obtain⟨C',send,E⟩:=r;dsimp only at hD⊢;have C0:=h.fx;refine Hs.en Tryz.func34 [] [] [] [.c (.v (AD p)),.c (.v (.int .u32 i))] (Mem.start0 w) ?_;refine Hs.e1 fun q=>?_;refine Hs.shutFx [0] [q] (fun w=>Blk w q 25 [AD p]/\q∉C.fp p) C0 (fun w w' hs he hq=>⟨(he q (by simp)).trans hq.1,hq.2⟩) (fun w' H=>⟨H.at 0 (wr:=true) (T:=25) (cs:=[.v (AD p)]) (by kernel_rfl),C0.apart H (by kernel_rfl) 0 (.b true 25 [.v (AD p)]) q (by kernel_rfl) rfl⟩) (fun y hy=>by
  rw[qS] at hy;subst hy;exact⟨0,by simp,.b true 25 [.v (AD p)],(by kernel_rfl),rfl,rfl⟩) (by kernel_rfl) fun w1 L1 Cq mv=>?_
 have hqn:=Cq.now.2;have C1:=(mv _ _ C0 (by simp)).two Cq;refine Hs.e0 ?_;refine Hs.callFx (X:=CL×Option Addr×Nat) (fun z=>.tuple #[.slice z.2.1 send.length z.2.2,.int .i64 E]) (fun z=>(z.1.fp p++bkO z.2.1)++[q]) (fun z w2=>MQ p C C' send w z w2/\Blk w2 q 25 [AD p]) C1 (fun w' H hq=>(hD q w' hq.1 hq.2.1 hqn).mono fun e w2 hd=>cZ (Nat.le_trans Cq.only.size H.only.size) VN (fun y hy=>by rw[qS] at hy;subst hy;exact Blk.lt hq.2.1) hd) (by kernel_rfl) (by kernel_rfl) (by kernel_rfl) fun z w2 L2 C2 _ _=>?_;refine Hs.e0 ?_;exact Hs.rt (v:=.tuple #[.slice z.2.1 send.length z.2.2,.int .i64 E]) Tryz.func34 fun w' H=>MQ.fin (v:=fun s=>.tuple #[s,.int .i64 E]) C2 H
theorem ask_any30 (p:Nat) (C:CL) (i:Nat) (r:RQ) (w:World) (h:CAt p C w) (hr:DE w (C.fp p) (fun w=>r.ok w)) (hs:r.text.size<=140737488355328) (hv:r.value.size<=140737488355328) (hl:r.lang.size<=140737488355328) {N:Nat} (hok:COk N C.abs) (hN:N<=1000000) (hsz:C.said.length<=1000000) (hi:i<4294967296):Calls Tryz.prog 33 #[AD p,.int .u32 i,r.val] w (LW p C (AW C.abs i (IX (BL r).1 (BF r) (BL r).2)).1 (AW C.abs i (IX (BL r).1 (BF r) (BL r).2)).2.1 (fun s=>.tuple #[s,.int .i64 (AW C.abs i (IX (BL r).1 (BF r) (BL r).2)).2.2]) w):=by
 have hm:C.R.xs.length<=64:=by have:=hok.m;rw[show C.abs.xs=C.R.xs.map HM.abs from rfl,List.length_map] at this;exact this
 have stZ: ∀q q2:Nat,StX [q,q2] (fun w=>Blk w q 41 r.cells/\Blk w q2 25 [AD p]):=fun q q2 w w' hs he hq=>⟨(he q (by simp)).trans hq.1,(he q2 (by simp)).trans hq.2⟩;have hD: ∀(q q2:Nat) w',CAt p C w'->Blk w' q 41 r.cells->Blk w' q2 25 [AD p]->q∉C.fp p->q2∉C.fp p->q≠q2->DE w' (C.fp p++[q,q2]) (fun w=>r.ok w)->Calls Tryz.prog 48 #[AD p,.int .u32 i,.func (.func 65) #[] #[AD q,AD q2]] w' (NM p C [q,q2] (AW C.abs i (IX (BL r).1 (BF r) (BL r).2)).1 (AW C.abs i (IX (BL r).1 (BF r) (BL r).2)).2.1 (AW C.abs i (IX (BL r).1 (BF r) (BL r).2)).2.2 (fun w=>Blk w q 41 r.cells/\Blk w q2 25 [AD p]) w'):=fun q q2 w' h' hq hq2 hqn hqn2 hqq hr'=>cY (IX (BL r).1 (BF r) (BL r).2) p C i 65 #[] #[AD q,AD q2] [q,q2] (fun w=>Blk w q 41 r.cells/\Blk w q2 25 [AD p]) (fun w=>Blk w q 41 r.cells/\Blk w q2 25 [AD p]) w' (by simp) h' ⟨hq,hq2⟩ (stZ q q2) (stZ q q2) (fun y hy=>by
  simp only[qC,List.not_mem_nil,or_false] at hy;rcases hy with e|e;·subst e;exact⟨Blk.lt hq,hqn⟩
  ·subst e;exact⟨Blk.lt hq2,hqn2⟩) hm hi (fun x w2 hO hx hu h2 hq2 _=>ask1_any p C i x q q2 r w2 h2 hx hqn hqn2 hqq hq2.1 hq2.2 (fun w3 O3=>hr' w3 ((hO.mono (by simp)).trans O3 (fun y hy=>.inl hy))) hs hv hl hok hN (by omega)) (fun _ _ h=>h)
 obtain⟨z,hz⟩:=qX (AW C.abs i (IX (BL r).1 (BF r) (BL r).2));rw[hz] at hD⊢;obtain⟨C',send,E⟩:=z;dsimp only at hD⊢;have C0:=h.fx;refine Hs.en Tryz.func33 [] [] [] [.c (.v (AD p)),.c (.v (.int .u32 i)),.g (rqS' r)] (Mem.start0 w) ?_;refine Hs.e2 fun q2 q=>?_;refine Hs.shutFx [0,1] [q,q2] (fun w=>(Blk w q 41 r.cells/\Blk w q2 25 [AD p])/\q∉C.fp p/\q2∉C.fp p/\q≠q2) C0 (fun w w' hs he hq=>⟨stZ q q2 w w' hs he hq.1,hq.2⟩) (fun w' H=>⟨⟨H.at 1 (wr:=true) (T:=41) (cs:=rqS' r) (by kernel_rfl),H.at 0 (wr:=true) (T:=25) (cs:=[.v (AD p)]) (by kernel_rfl)⟩,C0.apart H (by kernel_rfl) 1 (.b true 41 (rqS' r)) q (by kernel_rfl) rfl,C0.apart H (by kernel_rfl) 0 (.b true 25 [.v (AD p)]) q2 (by kernel_rfl) rfl,fun e=>by
  have:=H.inj 0 1 (.b true 25 [.v (AD p)]) (.b true 41 (rqS' r)) q2 (by kernel_rfl) (by kernel_rfl) rfl (by rw[<-e];rfl);cases this⟩) (fun y hy=>by
  simp only[qC,List.not_mem_nil,or_false] at hy;rcases hy with e|e;·subst e;exact⟨1,by simp,.b true 41 (rqS' r),(by kernel_rfl),rfl,rfl⟩
  ·subst e;exact⟨0,by simp,.b true 25 [.v (AD p)],(by kernel_rfl),rfl,rfl⟩) (by kernel_rfl) fun w1 L1 Cq mv=>?_
 obtain⟨_,hqn,hqn2,hqq⟩:=Cq.now;have hqo:=fun y hy=>(Cq.own y hy).2.2;have C1:=(mv _ _ C0 (by simp)).two Cq;refine Hs.e0 ?_;refine Hs.callFx (X:=CL×Option Addr×Nat) (fun z=>.tuple #[.slice z.2.1 send.length z.2.2,.int .i64 E]) (fun z=>(z.1.fp p++bkO z.2.1)++[q,q2]) (fun z w2=>MQ p C C' send w z w2/\(Blk w2 q 41 r.cells/\Blk w2 q2 25 [AD p])) C1 (fun w' H hq=>(hD q q2 w' hq.1 hq.2.1.1 hq.2.1.2 hqn hqn2 hqq (fun w3 O3=>hr w3 ((C1.fin H).trans O3 fun y hy=>(qK hy).elim .inl (hqo y)))).mono fun e w2 hd=>cZ (Nat.le_trans Cq.only.size H.only.size) (stZ q q2) (fun y hy=>by
  simp only[qC,List.not_mem_nil,or_false] at hy;rcases hy with e|e;·subst e;exact Blk.lt hq.2.1.1
  ·subst e;exact Blk.lt hq.2.1.2) hd) (by kernel_rfl) (by kernel_rfl) (by kernel_rfl) fun z w2 L2 C2 _ _=>?_
 refine Hs.e0 ?_;exact Hs.rt (v:=.tuple #[.slice z.2.1 send.length z.2.2,.int .i64 E]) Tryz.func33 fun w' H=>MQ.fin (v:=fun s=>.tuple #[s,.int .i64 E]) C2 H
theorem typed_no {C:CL} {i:Nat} {b:List Int} (h:C.R.xs[i]? = none\/∃x,C.R.xs[i]? = some x/\upC C.abs x.abs=false):GZ C.abs i b=0:=by
 have hxs:C.abs.xs[i]? = C.R.xs[i]?.map HM.abs:=List.getElem?_map ..;unfold GZ;rw[hxs];rcases h with h|⟨x,h,hu⟩;·rw[h];rfl
 ·rw[h];dsimp only[Option.map];unfold upC at hu;rw[if_pos];have hu:(BO C.abs || !decide (x.abs.st=2)||x.abs.clo)=true:=by
   cases hb:(BO C.abs || !decide (x.abs.st=2)||x.abs.clo) with
   |true=>rfl
   |false=>rw[hb] at hu;cases hu
  rw[hu];rfl
theorem bX {C:CL} {i:Nat} {b:List Int} {x:HM} (hx:C.R.xs[i]? = some x) (hu:upC C.abs x.abs=true):GZ C.abs i b=if x.c.eof=true then 0 else b.length-(DM (b.length+1) C.abs x.abs b).2.length:=by
 have hxs:C.abs.xs[i]? = C.R.xs[i]?.map HM.abs:=List.getElem?_map ..;unfold GZ;rw[hxs,hx];dsimp only[Option.map];unfold upC at hu;have hu:(BO C.abs || !decide (x.abs.st=2)||x.abs.clo)=false:=by
  cases hb:(BO C.abs || !decide (x.abs.st=2)||x.abs.clo) with
  |true=>rw[hb] at hu;cases hu
  |false=>rfl
 rw[hu,Bool.false_or];rfl
theorem YS (p:Nat) (C:CL) (i:Nat) (A:Option Addr) (cap:Nat) (bl:List Int) (n:Nat) (hn:bl.length=n) (w:World) (h:CAt p C w) (hr:DE w (C.fp p) (fun w=>RdX cu8 w A bl)) (hinb:InB bl) (hnc:n<=cap) (hcm:cap<=maxLen) (hnm:n<=1000000) {N:Nat} (hok:COk N C.abs) (hN:N<=1000000) (hsz:C.said.length<=1000000) (hi:i<4294967296):Calls Tryz.prog 21 #[AD p,.int .u32 i,.slice A n cap] w (LW p C (AW C.abs i (ET bl)).1 (AW C.abs i (ET bl)).2.1 (fun s=>.tuple #[.int .i64 (GZ C.abs i bl),s,.int .i64 (AW C.abs i (ET bl)).2.2]) w):=by
 have hm:C.R.xs.length<=64:=by have:=hok.m;rw[show C.abs.xs=C.R.xs.map HM.abs from rfl,List.length_map] at this;exact this
 have stZ: ∀q q2 q3 k:Nat,StX [q,q2,q3] (ZT p q q2 q3 A n cap k):=fun q q2 q3 k w w' hs he hq=>⟨(he q (by simp)).trans hq.1,(he q2 (by simp)).trans hq.2.1,(he q3 (by simp)).trans hq.2.2⟩;obtain⟨K,hK⟩:=qX (GZ C.abs i bl);have hD: ∀(q q2 q3:Nat) w',CAt p C w'->ZT p q q2 q3 A n cap 0 w'->q∉C.fp p->q2∉C.fp p->q3∉C.fp p->[q,q2,q3].Nodup->DE w' (C.fp p++[q,q2,q3]) (fun w=>RdX cu8 w A bl)->Calls Tryz.prog 48 #[AD p,.int .u32 i,.func (.func 49) #[] #[AD q,AD q2,AD q3]] w' (NM p C [q,q2,q3] (AW C.abs i (ET bl)).1 (AW C.abs i (ET bl)).2.1 (AW C.abs i (ET bl)).2.2 (ZT p q q2 q3 A n cap K) w'):=fun q q2 q3 w' h' hq hqn hqn2 hqn3 hqq hr'=>cY (ET bl) p C i 49 #[] #[AD q,AD q2,AD q3] [q,q2,q3] (ZT p q q2 q3 A n cap 0) (ZT p q q2 q3 A n cap K) w' (by simp) h' hq (stZ q q2 q3 0) (stZ q q2 q3 K) (fun y hy=>by
  simp only[qC,List.not_mem_nil,or_false] at hy;rcases hy with e|e|e;·subst e;exact⟨Blk.lt hq.1,hqn⟩
  ·subst e;exact⟨Blk.lt hq.2.1,hqn2⟩
  ·subst e;exact⟨Blk.lt hq.2.2,hqn3⟩) hm hi (fun x w2 hO hx hu h2 hq2 _=>type1_any _ p C i x q q2 q3 A cap bl n hn w2 h2 hx hqn hqn2 hqn3 hqq hq2.1 hq2.2.1 hq2.2.2 (fun w3 O3=>hr' w3 ((hO.mono (by simp)).trans O3 (fun y hy=>.inl hy))) hinb hnc hcm hnm hok hN (by omega) (DM (n+1) C.abs x.abs bl) rfl (fun he e w3 hy=>by
   have e1:ET bl C.abs x.abs=((C.abs,x.abs),9):=by unfold ET;exact if_pos he
   have e2:K=0:=by rw[<-hK,bX hx hu,if_pos he]
   rw[e1,e2];exact hy) (fun he e w3 hy=>by
   have e1:ET bl C.abs x.abs=((DM (n+1) C.abs x.abs bl).1,0):=by unfold ET;rw[if_neg (by show¬x.c.eof=true;rw[he];decide),hn]
   have e2:K=n-(DM (n+1) C.abs x.abs bl).2.length:=by rw[<-hK,bX hx hu,if_neg (by rw[he];decide),hn]
   rw[e1,e2];exact hy)) (fun hc w hz=>by
   have e2:K=0:=by rw[<-hK,typed_no hc]
   rw[e2];exact hz)
 obtain⟨z,hz⟩:=qX (AW C.abs i (ET bl));rw[hz] at hD⊢;rw[hK];obtain⟨C',send,E⟩:=z;dsimp only at hD⊢;have C0:=h.fx;refine Hs.en Tryz.func21 [] [] [] [.c (.v (AD p)),.c (.v (.int .u32 i)),.c (.v (.slice A n cap))] (Mem.start0 w) ?_;refine Hs.run3 300 (fun _=>by kernel_rfl) fun q3 q q2=>?_;refine Hs.shutFx [0,1,2] [q,q2,q3] (fun w=>ZT p q q2 q3 A n cap 0 w/\q∉C.fp p/\q2∉C.fp p/\q3∉C.fp p/\[q,q2,q3].Nodup) C0 (fun w w' hs he hq=>⟨stZ q q2 q3 0 w w' hs he hq.1,hq.2⟩) (fun w' H=>⟨⟨H.at 1 (wr:=true) (T:=30) (cs:=[.v (.slice A n cap)]) (by kernel_rfl),H.at 2 (wr:=true) (T:=3) (cs:=[.v (.int .i64 0)]) (by kernel_rfl),H.at 0 (wr:=true) (T:=25) (cs:=[.v (AD p)]) (by kernel_rfl)⟩,C0.apart H (by kernel_rfl) 1 (.b true 30 [.v (.slice A n cap)]) q (by kernel_rfl) rfl,C0.apart H (by kernel_rfl) 2 (.b true 3 [.v (.int .i64 0)]) q2 (by kernel_rfl) rfl,C0.apart H (by kernel_rfl) 0 (.b true 25 [.v (AD p)]) q3 (by kernel_rfl) rfl,by
  have i1:q≠q2:=fun e=>by
   have:=H.inj 1 2 (.b true 30 [.v (.slice A n cap)]) (.b true 3 [.v (.int .i64 0)]) q (by kernel_rfl) (by kernel_rfl) rfl (by rw[e];rfl);cases this
  have i2:q≠q3:=fun e=>by
   have:=H.inj 1 0 (.b true 30 [.v (.slice A n cap)]) (.b true 25 [.v (AD p)]) q (by kernel_rfl) (by kernel_rfl) rfl (by rw[e];rfl);cases this
  have i3:q2≠q3:=fun e=>by
   have:=H.inj 2 0 (.b true 3 [.v (.int .i64 0)]) (.b true 25 [.v (AD p)]) q2 (by kernel_rfl) (by kernel_rfl) rfl (by rw[e];rfl);cases this
  simp[i1,i2,i3]⟩) (fun y hy=>by
  simp only[qC,List.not_mem_nil,or_false] at hy;rcases hy with e|e|e;·subst e;exact⟨1,by simp,.b true 30 [.v (.slice A n cap)],(by kernel_rfl),rfl,rfl⟩
  ·subst e;exact⟨2,by simp,.b true 3 [.v (.int .i64 0)],(by kernel_rfl),rfl,rfl⟩
  ·subst e;exact⟨0,by simp,.b true 25 [.v (AD p)],(by kernel_rfl),rfl,rfl⟩) (by kernel_rfl) fun w1 L1 Cq mv=>?_
 obtain⟨_,hqn,hqn2,hqn3,hqq⟩:=Cq.now;have hqo:=fun y hy=>(Cq.own y hy).2.2;have C1:=(mv _ _ C0 (by simp)).two Cq;refine Hs.e0 ?_;refine Hs.callFx (X:=CL×Option Addr×Nat) (fun z=>.tuple #[.slice z.2.1 send.length z.2.2,.int .i64 E]) (fun z=>(z.1.fp p++bkO z.2.1)++[q,q2,q3]) (fun z w2=>MQ p C C' send w z w2/\ZT p q q2 q3 A n cap K w2) C1 (fun w' H hq=>(hD q q2 q3 w' hq.1 hq.2.1 hqn hqn2 hqn3 hqq (fun w3 O3=>hr w3 ((C1.fin H).trans O3 fun y hy=>(qK hy).elim .inl (hqo y)))).mono fun e w2 hd=>cZ (Nat.le_trans Cq.only.size H.only.size) (stZ q q2 q3 K) (fun y hy=>by
  simp only[qC,List.not_mem_nil,or_false] at hy;rcases hy with e|e|e;·subst e;exact Blk.lt hq.2.1.1
  ·subst e;exact Blk.lt hq.2.1.2.1
  ·subst e;exact Blk.lt hq.2.1.2.2) hd) (by kernel_rfl) (by kernel_rfl) (by kernel_rfl) fun z w2 L2 C2 _ _=>?_
 refine Hs.e0 ?_;refine Hs.ldc (E':=3) (b:=q2) (off:=0) (.int .i64 (K:Int)) (by kernel_rfl) (fun w' H=>by
  rw[(C2.at H).2.2.1.cell];rfl) (by kernel_rfl) ?_
 refine Hs.e0 ?_;exact Hs.rt (v:=.tuple #[.int .i64 (K:Int),.slice z.2.1 send.length z.2.2,.int .i64 E]) Tryz.func21 fun w' H=>MQ.fin (v:=fun s=>.tuple #[.int .i64 (K:Int),s,.int .i64 E]) C2 H
end Go.Proofs.YtfbhemmpobgdpaaGreatDoor
