/- SessionAsks: lemmas, from 'Layer 19: are programs more than are looked at' on; what each asks for stands in it. -/
import Derived.Test.YtdplnedpbkpgpaaGreatDoorSlL
import Derived.Test.YtdplnedpbkpgpaaGreatDoorSlS
import Derived.Test.YtdplnedpbkpgpaaGreatDoorSlD
import Derived.Test.YtdplnedpbkpgpaaGreatDoorSlG
set_option linter.all false
set_option maxRecDepth 100000
set_option maxHeartbeats 64000000
namespace Go.Proofs.YtdplnedpbkpgpaaGreatDoor
open Go.RowKit
section
variable {P : Program} {f : FuncId} {R : Ending → World → Prop} {n : Nat} {w0 : World} {L : List Nat} {β : List Nat} {m : SM}
def isI64:Value→Bool
 | .int .i64 _=>true
 |_=>false
def isBoo:Value→Bool
 | .bool _=>true
 |_=>false
def isBoo?:Option Value→Bool
 |some (.bool _)=>true
 |_=>false
theorem isI64_ex {v:Value} (h:isI64 v=true): ∃N,v = .int .i64 N:=by
 unfold isI64 at h;split at h;·exact⟨_,rfl⟩
 ·cases h
theorem isBoo_ex {v:Value} (h:isBoo v=true): ∃b,v = .bool b:=by
 unfold isBoo at h;split at h;·exact⟨_,rfl⟩
 ·cases h
theorem Hs.anyI (d:Nat) (h:isI64 ((m.sl.at d).den β)=true) (k: ∀N:Int,Hs P f R n w0 L β ⟨m.r,m.todo,.put d (.c (.v (.int .i64 N))) m.sl,m.hp⟩):Hs P f R n w0 L β m:=by
 obtain⟨N,hN⟩:=isI64_ex h;exact Hs.slot d (.c (.v (.int .i64 N))) rfl hN (k N)
theorem Hs.anyB (d:Nat) (h:isBoo ((m.sl.at d).den β)=true) (ht:Hs P f R n w0 L β ⟨m.r,m.todo,.put d (.c (.v (.bool true))) m.sl,m.hp⟩) (hf:Hs P f R n w0 L β ⟨m.r,m.todo,.put d (.c (.v (.bool false))) m.sl,m.hp⟩):Hs P f R n w0 L β m:=by
 obtain⟨b,hb⟩:=isBoo_ex h;exact Hs.bool d b hb (fun _=>ht) (fun _=>hf)
theorem Hs.condX (h:isBoo? (JW n β m)=true) (ht:Hs P f R n w0 L β (VH m)) (hf:Hs P f R n w0 L β (TE m)):Hs P f R n w0 L β m:=by
 unfold isBoo? at h;split at h;·rename_i b hb;exact Hs.cond b hb (fun _=>ht) (fun _=>hf)
 ·cases h
end
structure PgSmall (ps : List PG) : Prop where
  len : ps.length ≤ 61
  ops : ∀ x ∈ ps, x.ops.length ≤ 101
abbrev GrPost (ps:List PG) (w:World):Ending→World→Prop:=fun e w'=>∃b:Bool,e = .returned (.bool b)∧Only [] w w'∧(b=false→PgSmall ps)
theorem aV (ps:List PG) (A:Option Addr) (c:Nat) (w:World) (h:Pgs w A c ps):Calls Tryz.prog 26 #[.slice A ps.length c] w (GrPost ps w):=by
 have hlen:ps.length≤maxLen:=Nat.le_trans h.le h.max;have J: ∀(d i:Nat),ps.length-i=d→i≤ps.length→i≤61→(∀x∈ps.take i,x.ops.length≤101)→∀(N:Int) (u:Nat→Value),Hs Tryz.prog 26 (GrPost ps w) (Tryz.f26).ntmps w [] [] ⟨.no,AE Tryz.f26 0,BI [(3,.c (.v (.int .i64 N))),(8,.c (.v (.slice A ps.length c))),(9,.c (.v (.int .i64 ps.length))),(10,.c (.v (.int .i64 i)))] (.vals u),[]⟩:=by
  intro d;induction d with
  |zero=>
   intro i hd hi hi2 hq N u;obtain rfl:i=ps.length:=by omega
   rw[List.take_length] at hq;refine Hs.e0 ?_;refine Hs.cP ((ps.length:Int)<(ps.length:Int)) (fun h=>by omega) (fun _=>?_);refine Hs.e0 ?_;exact Hs.rt (v:=.bool false) Tryz.func26 fun w' H=>⟨false,rfl,H.only,fun _=>⟨hi2,hq⟩⟩
  |succ d ih=>
   intro i hd hi hi2 hq N u;have hil:i<ps.length:=by omega
   obtain⟨x,hx⟩: ∃x,ps[i]? = some x:=⟨_,List.getElem?_eq_getElem hil⟩;have hxo:=h.all x (List.mem_of_getElem? hx);obtain⟨ab,aoff,hA,_,_⟩:=h.rd (by omega);have hih:=fun h1 h2 N u=>ih (i+1) (by omega) (by omega) h1 h2 N u;clear ih;have hrd:=h.rd;rw[hA] at hih hrd⊢;have K: ∀(e j:Nat),x.ops.length-j=e→j≤x.ops.length→j≤101→∀(g:Nat) (N:Int) (u:Nat→Value),Hs Tryz.prog 26 (GrPost ps w) (Tryz.f26).ntmps w [] [g] ⟨.no,AE Tryz.f26 1,BI [(3,.c (.v (.int .i64 N))),(4,.c (.v (.int .i64 i))),(5,.c (.p 0 0)),(8,.c (.v (.slice (some ⟨ab,aoff,none⟩) ps.length c))),(9,.c (.v (.int .i64 ps.length))),(10,.c (.v (.int .i64 i))),(28,.c (.v (.slice x.A x.ops.length x.c))),(29,.c (.v (.int .i64 x.ops.length))),(30,.c (.v (.int .i64 j)))] (.vals u),[.b true 106 x.sc]⟩:=by
    intro e;induction e with
    |zero=>
     intro j he hj hj2 g N u;obtain rfl:j=x.ops.length:=by omega
     refine Hs.e0 ?_;refine Hs.cP ((x.ops.length:Int)<(x.ops.length:Int)) (fun h=>by omega) (fun _=>?_);refine Hs.e0 ?_;refine Hs.bool 51 (decide ((i:Int)>60)) (by kernel_rfl) (fun _=>?_) (fun h1=>?_)
     ·refine Hs.eg [2] ?_;refine Hs.cT ?_;refine Hs.e0 ?_;exact Hs.rt (v:=.bool true) Tryz.func26 fun w' H=>⟨true,rfl,H.only,fun h=>by cases h⟩
     replace h1:i≤60:=by simp at h1;omega
     refine Hs.eg [2] ?_;refine Hs.condX (by kernel_rfl) ?_ ?_
     ·refine Hs.e0 ?_;exact Hs.rt (v:=.bool true) Tryz.func26 fun w' H=>⟨true,rfl,H.only,fun h=>by cases h⟩
     refine Hs.e0 ?_;refine Hs.slot 10 (.c (.v (.int .i64 (i+1:Nat)))) rfl ((by kernel_rfl:_=Value.int .i64 (IntKind.i64.wrap ((i:Int)+1))).trans (BW hlen)) ?_;refine Hs.lP ?_;exact Hs.goto (AE Tryz.f26 0) [] [] [(3,.c (.v (.int .i64 N))),(8,.c (.v (.slice (some ⟨ab,aoff,none⟩) ps.length c))),(9,.c (.v (.int .i64 ps.length))),(10,.c (.v (.int .i64 (i+1:Nat))))] (by kernel_rfl) (by decide) (by kernel_rfl) (by kernel_rfl) (fun _=>(by kernel_rfl)) (fun u=>hih (by omega) (fun y hy=>by
      rw[List.take_add_one,hx] at hy;rcases List.mem_append.1 hy with h2|h2;·exact hq y h2
      ·rw[Option.mem_toList] at h2;injection h2 with h2;rw[←h2];exact hj2) N u)
    |succ e ihk=>
     intro j he hj hj2 g N u;have hjl:j<x.ops.length:=by omega
     obtain⟨y,hy⟩: ∃y,x.ops[j]? = some y:=⟨_,List.getElem?_eq_getElem hjl⟩;obtain⟨ob,ooff,hO,_,_⟩:=hxo.1 (by omega);have hihk:=fun h1 g N u=>ihk (j+1) (by omega) (by omega) h1 g N u;clear ihk;have hor:=hxo.1;have hsc:x.sc=[.v (.string x.n),.v (.slice x.A x.ops.length x.c)]:=rfl;rw[hsc] at hihk⊢;rw[hO] at hihk hor⊢;refine Hs.e0 ?_;refine Hs.cP ((j:Int)<(x.ops.length:Int)) (fun _=>?_) (fun h=>by omega);refine Hs.e0 ?_;refine Hs.idx (b:=ob) (off:=ooff) (len:=x.ops.length) (c:=x.c) (i:=j) elemRo hjl (by kernel_rfl) ?_;refine Hs.ldx (cf:=cOP) (size:=4) (E:=96) (b:=ob) (off:=ooff) (i:=j) (l:=x.ops) (x:=y) OH (.g y.sc) (by kernel_rfl) (fun w' H=>hor.only H.only) hy (by kernel_rfl) (by kernel_rfl) rfl (by kernel_rfl) ?_;refine Hs.e1 fun b1=>?_;refine Hs.anyI 3 (by kernel_rfl) fun N2=>?_;refine Hs.bool 44 (decide ((j:Int)>100)) (by kernel_rfl) (fun _=>?_) (fun h1=>?_)
     ·refine Hs.eg [2] ?_;refine Hs.cT ?_;refine Hs.e0 ?_;exact Hs.rt (v:=.bool true) Tryz.func26 fun w' H=>⟨true,rfl,H.only,fun h=>by cases h⟩
     replace h1:j≤100:=by simp at h1;omega
     refine Hs.eg [2] ?_;refine Hs.condX (by kernel_rfl) ?_ ?_
     ·refine Hs.e0 ?_;exact Hs.rt (v:=.bool true) Tryz.func26 fun w' H=>⟨true,rfl,H.only,fun h=>by cases h⟩
     refine Hs.e0 ?_;refine Hs.slot 30 (.c (.v (.int .i64 (j+1:Nat)))) rfl ((by kernel_rfl:_=Value.int .i64 (IntKind.i64.wrap ((j:Int)+1))).trans (BW (Nat.le_trans hxo.2.1 hxo.2.2))) ?_;refine Hs.lP ?_;exact Hs.goto (AE Tryz.f26 1) [0] [.b true 106 [.v (.string x.n),.v (.slice (some ⟨ob,ooff,none⟩) x.ops.length x.c)]] [(3,.c (.v (.int .i64 N2))),(4,.c (.v (.int .i64 i))),(5,.c (.p 0 0)),(8,.c (.v (.slice (some ⟨ab,aoff,none⟩) ps.length c))),(9,.c (.v (.int .i64 ps.length))),(10,.c (.v (.int .i64 i))),(28,.c (.v (.slice (some ⟨ob,ooff,none⟩) x.ops.length x.c))),(29,.c (.v (.int .i64 x.ops.length))),(30,.c (.v (.int .i64 (j+1:Nat))))] (by kernel_rfl) (by decide) (by kernel_rfl) (by kernel_rfl) (fun _=>(by kernel_rfl)) (fun u=>hihk (by omega) g N2 u)
   refine Hs.e0 ?_;refine Hs.cP ((i:Int)<(ps.length:Int)) (fun _=>?_) (fun h=>by omega);refine Hs.e0 ?_;refine Hs.idx (b:=ab) (off:=aoff) (len:=ps.length) (c:=c) (i:=i) elemRp hil (by kernel_rfl) ?_;refine Hs.ldx (cf:=cPG) (size:=2) (E:=106) (b:=ab) (off:=aoff) (i:=i) (l:=ps) (x:=x) MM (.g x.sc) (by kernel_rfl) (fun w' H=>hrd.only H.only) hx (by kernel_rfl) (by kernel_rfl) rfl (by kernel_rfl) ?_;refine Hs.e1 fun b1=>?_;refine Hs.anyI 3 (by kernel_rfl) fun N2=>?_;refine Hs.lP ?_;exact Hs.goto (AE Tryz.f26 1) [0] [.b true 106 x.sc] [(3,.c (.v (.int .i64 N2))),(4,.c (.v (.int .i64 i))),(5,.c (.p 0 0)),(8,.c (.v (.slice (some ⟨ab,aoff,none⟩) ps.length c))),(9,.c (.v (.int .i64 ps.length))),(10,.c (.v (.int .i64 i))),(28,.c (.v (.slice x.A x.ops.length x.c))),(29,.c (.v (.int .i64 x.ops.length))),(30,.c (.v (.int .i64 (0:Nat))))] (by kernel_rfl) (by decide) (by kernel_rfl) (by kernel_rfl) (fun _=>(by kernel_rfl)) (fun u=>K x.ops.length 0 (by omega) (by omega) (by omega) b1 N2 u)
 refine Hs.en Tryz.func26 [] [] [] [.c (.v (.slice A ps.length c))] (Mem.start0 w) ?_;refine Hs.e0 ?_;refine Hs.lP ?_;exact Hs.goto (AE Tryz.f26 0) [] [] [(3,.c (.v (.int .i64 0))),(8,.c (.v (.slice A ps.length c))),(9,.c (.v (.int .i64 ps.length))),(10,.c (.v (.int .i64 (0:Nat))))] (by kernel_rfl) (by decide) (by kernel_rfl) (by kernel_rfl) (fun _=>(by kernel_rfl)) (fun u=>J ps.length 0 (by omega) (by omega) (by omega) (by simp) 0 u)
section
variable {P : Program} {f : FuncId} {R : Ending → World → Prop} {n : Nat} {w0 : World} {L : List Nat} {β : List Nat} {m : SM} {α : Type} {cf : α → List Value} {E size : Nat}
theorem Hs.callSX {X:Type} (v:X→Option Addr→Nat→Value) (l:X→List α) (nl:X→Nat) (Q:X→Prop) {F:FuncId} {args:Array Value} (hl: ∀x,Q x→(l x).length=nl x) (hC: ∀w,Mem w0 L β m.hp w→Calls P F args w fun e w'=>∃x A cap,e = .returned (v x A cap)∧Only [] w w'∧BM cf E size w' w.heap.size (.slice A (nl x) cap) (l x)∧Q x)
  (hc:EX P n β m=some (F,args)) (hrd:(HL m).all (fun k=>Nat.blt k m.hp.length)=true)
  (h: ∀x,Q x→∀A cap,nl x≤cap→cap≤maxLen→Hs P f R n w0 L (β++[0]) (m.put (BL m) (.c (.v (v x A cap))) (m.hp++[.s A cap (nl x) E size ((l x).flatMap cf)]))):Hs P f R n w0 L β m:=by
 refine⟨fun w H W=>?_⟩;refine(Hs.call hc (fun w H=>?_)).go w H W;refine Calls.mono (hC w H) ?_;rintro e w' ⟨x,A,cap,rfl,O,hO,hQ⟩;have hw:=SM.wf_hp W;have hlx:=hl x hQ;obtain⟨A1,cap1,e1,hc1,hc2,_,hA⟩:=hO.form;injection e1 with e1 e2 e3;subst e1;subst e3;rw[hlx] at hc1;refine⟨[0],.c (.v (v x A cap)),m.hp++[.s A cap (nl x) E size ((l x).flatMap cf)],rfl,H.push (h:=.s A cap (nl x) E size ((l x).flatMap cf)) (by rw[H.len];exact hw) O (fun y hy=>?_) (by
  have h5:=BM.mono hO (Nat.zero_le _);unfold BM at h5;rw[hlx] at h5;exact h5),?_,fun k hk h hh=>?_,h x hQ A cap hc1 hc2⟩
 ·simp only[HB.blk,Option.map_eq_some_iff] at hy;obtain⟨a,hx,rfl⟩:=hy;exact(hA a hx).1
 ·simp only[SV.wf,SC.wf,Bool.true_and,Bool.and_eq_true,Nat.ble_eq,List.length_append,List.length_cons,List.length_nil,List.all_append,List.all_cons,List.all_nil,Bool.and_true];refine⟨by omega,List.all_eq_true.2 fun y hy=>?_,rfl⟩;have h1:=List.all_eq_true.1 hw y hy;cases y with
  |no=>rfl
  |s=>rfl
  |q=>rfl
  |r _ _ _=>rfl
  |b _ _ cs=>exact List.all_eq_true.2 fun z hz=>SC.wf_mono (by omega) (List.all_eq_true.1 h1 z hz)
 ·rw[List.getElem?_append_left (List.getElem?_eq_some_iff.1 hh).1];exact hh
end
structure AQ where
  n : ByteArray
  A : Option Addr
  c : Nat
  b : List Int
def cAQ (x:AQ):List Value:=[.string x.n,.slice x.A x.b.length x.c]
def AQ.sc (x:AQ):List SC:=[.v (.string x.n),.v (.slice x.A x.b.length x.c)]
theorem cAQ_len (x:AQ):(cAQ x).length=2:=rfl
theorem elemAQ:ElemT Tryz.prog 38 34 2 (Tryz.prog.bytesOf 34):=FV (z:=.agg #[.string ⟨#[]⟩,.slice none 0 0]) (by kernel_rfl) (by kernel_rfl) (by decide) (by decide)
structure AqOk (w : World) (x : AQ) : Prop where
  rd : RdX cu8 w x.A x.b
  rng : ∀ y ∈ x.b, 0 ≤ y ∧ y < 256
  le : x.b.length ≤ x.c
  max : x.c ≤ maxLen
  few : x.b.length ≤ 140737488355000
theorem AqOk.only {w w':World} {x:AQ} (h:AqOk w x) (O:Only [] w w'):AqOk w' x:=⟨h.rd.only O,h.rng,h.le,h.max,h.few⟩
structure Aqs (w : World) (A : Option Addr) (c : Nat) (l : List AQ) : Prop where
  rd : RdX cAQ w A l
  le : l.length ≤ c
  max : c ≤ maxLen
  all : ∀ x ∈ l, AqOk w x
structure Gr27 (s : SS) (l : List AQ) (ps : List PG) : Prop where
  env : s.env.length ≤ 100
  len : l.length ≤ 60
  small : PgSmall ps
abbrev GrP27 (s:SS) (l:List AQ) (ps:List PG) (w:World):Ending→World→Prop:=fun e w'=>∃b:Bool,e = .returned (.bool b)∧Only [] w w'∧(b=false→Gr27 s l ps)
theorem PgSmall.of {ps qs:List PG} (h:PgSmall qs) (e:qs.map PG.m=ps.map PG.m):PgSmall ps:=by
 have hl:qs.length=ps.length:=by simpa using congrArg List.length e
 refine⟨by rw[←hl];exact h.len,fun x hx=>?_⟩;have h1:PG.m x∈qs.map PG.m:=by rw[e];exact List.mem_map.2 ⟨x,hx,rfl⟩
 obtain⟨y,hy,e2⟩:=List.mem_map.1 h1;have:=h.ops y hy;unfold PG.m at e2;injection e2 with e3 e4;rw[←e4];exact this
theorem aW (s:SS) (A0:Option Addr) (c0:Nat) (l:List AQ) (A:Option Addr) (c:Nat) (ps:List PG) (B:Option Addr) (cb:Nat) (w:World) (hl:Aqs w A c l) (hp:Pgs w B cb ps) (hf:PgFew ps):Calls Tryz.prog 9 #[s.val A0 c0,.slice A l.length c,.slice B ps.length cb] w (GrP27 s l ps w):=by
 have hlen:l.length≤maxLen:=Nat.le_trans hl.le hl.max;have J: ∀(d i:Nat),l.length-i=d→i≤l.length→∀(b0:Nat) (N:Int) (u:Nat→Value),Hs Tryz.prog 9 (GrP27 s l ps w) (Tryz.f9).ntmps w [] [b0] ⟨.no,AE Tryz.f9 0,BI [(1,.c (.v (.slice A l.length c))),(2,.c (.v (.slice B ps.length cb))),(3,.c (.p 0 0)),(7,.c (.v (.int .i64 N))),(10,.c (.v (.slice A l.length c))),(11,.c (.v (.int .i64 l.length))),(12,.c (.v (.int .i64 i)))] (.vals u),[.b true 31 (s.sc A0 c0)]⟩:=by
  intro d;induction d with
  |zero=>
   intro i hd hi b0 N u;obtain rfl:i=l.length:=by omega
   refine Hs.e0 ?_;refine Hs.cP ((l.length:Int)<(l.length:Int)) (fun h=>by omega) (fun _=>?_);refine Hs.e0 ?_;refine Hs.bool 32 (decide ((s.env.length:Int)>100)) (by kernel_rfl) (fun _=>?_) (fun h1=>?_)
   ·refine Hs.eg [4,9,13] ?_;exact Hs.rt (v:=.bool true) Tryz.func9 fun w' H=>⟨true,rfl,H.only,fun h=>by cases h⟩
   refine Hs.eg [4] ?_;refine Hs.bool 37 (decide ((l.length:Int)>60)) (by kernel_rfl) (fun _=>?_) (fun h2=>?_)
   ·refine Hs.eg [4,9,13] ?_;exact Hs.rt (v:=.bool true) Tryz.func9 fun w' H=>⟨true,rfl,H.only,fun h=>by cases h⟩
   refine Hs.eg [4,9] ?_;refine Hs.anyB 41 (by kernel_rfl) ?_ ?_
   ·refine Hs.eg [4,9,13] ?_;exact Hs.rt (v:=.bool true) Tryz.func9 fun w' H=>⟨true,rfl,H.only,fun h=>by cases h⟩
   refine Hs.eg [4,9,13] ?_;refine Hs.callM (Nx.start w) (fun w' H=>EA ps B cb w' (hp.only H.only) hf) (by kernel_rfl) (by kernel_rfl) fun z w1 L1 N1=>?_;refine Hs.eg [4,9,13] ?_;refine Hs.fact27 (fun w' H=>(N1.now H).1.len) fun hz=>?_;refine Hs.callX (v:=fun b:Bool=>.bool b) (Q:=fun b=>b=false→PgSmall z.2.2) (fun w' H=>by
    have:=aV z.2.2 z.1 z.2.1 w' (N1.now H).1.1;rw[hz] at this;exact this) (by kernel_rfl) fun b hb=>?_
   refine Hs.fact27 (fun w' H=>(N1.now H).1.2) fun hz2=>?_;refine Hs.eg [4,9,13] ?_;exact Hs.rt (v:=.bool b) Tryz.func9 fun w' H=>⟨b,rfl,N1.only H,fun h=>⟨by simp at h1;omega,by simp at h2;omega,(hb h).of hz2⟩⟩
  |succ d ih=>
   intro i hd hi b0 N u;have hil:i<l.length:=by omega
   obtain⟨x,hx⟩: ∃x,l[i]? = some x:=⟨_,List.getElem?_eq_getElem hil⟩;obtain⟨ab,aoff,hA,_,_⟩:=hl.rd (by omega);have hih:=fun b0 N u=>ih (i+1) (by omega) (by omega) b0 N u;clear ih;have hrd:=hl.rd;rw[hA] at hih hrd⊢;refine Hs.e0 ?_;refine Hs.cP ((i:Int)<(l.length:Int)) (fun _=>?_) (fun h=>by omega);refine Hs.e0 ?_;refine Hs.idx (b:=ab) (off:=aoff) (len:=l.length) (c:=c) (i:=i) elemAQ hil (by kernel_rfl) ?_;refine Hs.ldx (cf:=cAQ) (size:=2) (E:=34) (b:=ab) (off:=aoff) (i:=i) (l:=l) (x:=x) cAQ_len (.g x.sc) (by kernel_rfl) (fun w' H=>hrd.only H.only) hx (by kernel_rfl) (by kernel_rfl) rfl (by kernel_rfl) ?_;refine Hs.e1 fun b1=>?_;refine Hs.anyI 7 (by kernel_rfl) fun N2=>?_;refine Hs.slot 12 (.c (.v (.int .i64 (i+1:Nat)))) rfl ((by kernel_rfl:_=Value.int .i64 (IntKind.i64.wrap ((i:Int)+1))).trans (BW hlen)) ?_;refine Hs.lP ?_;exact Hs.goto (AE Tryz.f9 0) [0] [.b true 31 (s.sc A0 c0)] [(1,.c (.v (.slice (some ⟨ab,aoff,none⟩) l.length c))),(2,.c (.v (.slice B ps.length cb))),(3,.c (.p 0 0)),(7,.c (.v (.int .i64 N2))),(10,.c (.v (.slice (some ⟨ab,aoff,none⟩) l.length c))),(11,.c (.v (.int .i64 l.length))),(12,.c (.v (.int .i64 (i+1:Nat))))] (by kernel_rfl) (by decide) (by kernel_rfl) (by kernel_rfl) (fun _=>(by kernel_rfl)) (fun u=>hih b0 N2 u)
 refine Hs.en Tryz.func9 [] [] [] [.g (s.sc A0 c0),.c (.v (.slice A l.length c)),.c (.v (.slice B ps.length cb))] (Mem.start0 w) ?_;refine Hs.e1 fun b0=>?_;refine Hs.lP ?_;exact Hs.goto (AE Tryz.f9 0) [0] [.b true 31 (s.sc A0 c0)] [(1,.c (.v (.slice A l.length c))),(2,.c (.v (.slice B ps.length cb))),(3,.c (.p 0 0)),(7,.c (.v (.int .i64 0))),(10,.c (.v (.slice A l.length c))),(11,.c (.v (.int .i64 l.length))),(12,.c (.v (.int .i64 (0:Nat))))] (by kernel_rfl) (by decide) (by kernel_rfl) (by kernel_rfl) (fun _=>(by kernel_rfl)) (fun u=>J l.length 0 (by omega) (by omega) b0 0 u)
def OnceC (n:Nat) (s:SS) (z:SS×AC):Prop:=
 z=(s,noA)∨
 (s.pty=false∧s.st=false∧∃(tm:ByteArray) (c0 c1 c2 c3:Int) (t:TM),FH t=true∧z=({ s with pty:=true,term:=tm,c0:=c0,c1:=c1,c2:=c2,c3:=c3,t:=t },okA))∨
 (s.st=false∧∃env':List VR,(env'.length=s.env.length∨env'.length≤16)∧z=({ s with env:=env' },okA))∨
 (s.st=false∧∃k:Int,0≤k∧k<n∧z=({ s with st:=true },⟨true,1,k,0,0,0,0,0⟩))∨
 (s.pty=true∧s.st=true∧∃c0 c1 c2 c3:Int,z=({ s with c0:=c0,c1:=c1,c2:=c2,c3:=c3 },⟨true,2,0,0,c0,c1,c2,c3⟩))∨
 (s.pty=true∧s.st=false∧∃c0 c1 c2 c3:Int,z=({ s with c0:=c0,c1:=c1,c2:=c2,c3:=c3 },okA))∨
 (s.st=true∧∃k:Int,z=(s,⟨true,3,0,k,0,0,0,0⟩))
theorem WS {nm:ByteArray} {ps:List PR} (h:HE nm ps=true):0≤HG nm ps∧HG nm ps<ps.length:=by
 unfold HE at h;have h1:HF nm ps≥0:=by simpa using h
 unfold HG;rw[if_neg (by omega)];have:=YG nm (FP ps) 0 (Int.le_refl _);unfold HF at h1⊢;unfold FP at this h1⊢;rw[List.length_map] at this;omega
theorem NT (s:SS) (nm:ByteArray) (ps:List PR):OnceC ps.length s (CD s nm ps):=by
 unfold CD;split;·exact .inl rfl
 ·rename_i h1;split
  ·rename_i h2;exact .inr (.inr (.inr (.inl ⟨by simpa using h1,_,(WS h2).1,(WS h2).2,rfl⟩)))
  ·exact .inl rfl
theorem once_any (s:SS) (m:RQ) (E:Int) (ps:List PR):OnceC ps.length s (BZ s m E ps):=by
 unfold BZ;split;·exact .inl rfl
 unfold kindM;split
 ·unfold ptyM;split;·exact .inl rfl
  ·split;·exact .inl rfl
   ·split;·exact .inl rfl
    ·split
     ·rename_i h1 h2 _ h4;exact .inr (.inl ⟨by simpa using h1,by simpa using h2,_,_,_,_,_,_,h4,rfl⟩)
     ·exact .inl rfl
 ·unfold envM;split;·exact .inl rfl
  ·rename_i h1;split;·exact .inr (.inr (.inl ⟨by simpa using h1,_,.inl (by rw[List.length_set]),rfl⟩))
   ·split;·exact .inl rfl
    ·rename_i h3;exact .inr (.inr (.inl ⟨by simpa using h1,_,.inr (by rw[List.length_append,List.length_singleton];omega),rfl⟩))
 ·exact NT s _ ps
 ·exact NT s _ ps
 ·exact NT s _ ps
 ·unfold MG;split
  ·rename_i h1;split
   ·rename_i h2;exact .inr (.inr (.inr (.inr (.inl ⟨h1,h2,_,_,_,_,rfl⟩))))
   ·rename_i h2;exact .inr (.inr (.inr (.inr (.inr (.inl ⟨h1,by simpa using h2,_,_,_,_,rfl⟩)))))
  ·exact .inl rfl
 ·unfold PQ;split
  ·rename_i h1;split
   ·split;·exact .inr (.inr (.inr (.inr (.inr (.inr ⟨h1,_,rfl⟩)))))
    ·exact .inl rfl
   ·exact .inl rfl
  ·exact .inl rfl
 ·exact .inl rfl
theorem putR_pf (k:Nat) (h1:1≤k) (h2:k≤10) {fs gs:List FD} (hk:fs.map (fun f=>f.pf.kind)=AH k) (h:fs.map FD.pf=gs.map FD.pf):SameR (DH (AL k) k fs) (DH (AL k) k gs):=by
 have T: ∀{x y:FD},y.pf=x.pf→strOfNums y.text=strOfNums x.text:=fun {x y} e=>by rw[show y.text=x.text from congrArg PF.text e]
 have N: ∀{x y:FD},y.pf=x.pf→y.n=x.n:=fun e=>congrArg PF.n e;have B: ∀{x y:FD},y.pf=x.pf→decide (y.n=1)=decide (x.n=1):=fun {x y} e=>by rw[show y.n=x.n from congrArg PF.n e]
 rcases k10 h1 h2 with rfl|rfl|rfl|rfl|rfl|rfl|rfl|rfl|rfl|rfl
 ·obtain⟨a,b,c,d,e,f,rfl,_⟩:=ks6 hk;obtain⟨a',b',c',d',e',f',rfl,ha,hb,hc,hd,he,hf⟩:=fs6 h.symm;exact⟨rfl,T ha,rfl,rfl,N hb,N hc,N hd,N he,rfl,rfl,congrArg PF.text hf⟩
 ·obtain⟨a,b,rfl,_⟩:=ks2 hk;obtain⟨a',b',rfl,ha,hb⟩:=fs2 h.symm;exact⟨rfl,T ha,T hb,rfl,rfl,rfl,rfl,rfl,rfl,rfl,rfl⟩
 ·exact SameR.refl _
 ·obtain⟨a,rfl,_⟩:=ks1 hk;obtain⟨a',rfl,ha⟩:=fs1 h.symm;exact⟨rfl,T ha,rfl,rfl,rfl,rfl,rfl,rfl,rfl,rfl,rfl⟩
 ·obtain⟨a,rfl,_⟩:=ks1 hk;obtain⟨a',rfl,ha⟩:=fs1 h.symm;exact⟨rfl,T ha,rfl,rfl,rfl,rfl,rfl,rfl,rfl,rfl,rfl⟩
 ·obtain⟨b,c,d,e,rfl,_⟩:=ks4 hk;obtain⟨b',c',d',e',rfl,hb,hc,hd,he⟩:=fs4 h.symm;exact⟨rfl,rfl,rfl,rfl,N hb,N hc,N hd,N he,rfl,rfl,rfl⟩
 ·obtain⟨a,rfl,_⟩:=ks1 hk;obtain⟨a',rfl,ha⟩:=fs1 h.symm;exact⟨rfl,rfl,rfl,rfl,rfl,rfl,rfl,rfl,B ha,rfl,rfl⟩
 ·obtain⟨a,rfl,_⟩:=ks1 hk;obtain⟨a',rfl,ha⟩:=fs1 h.symm;exact⟨rfl,T ha,rfl,rfl,rfl,rfl,rfl,rfl,rfl,rfl,rfl⟩
 ·obtain⟨a,rfl,_⟩:=ks1 hk;obtain⟨a',rfl,ha⟩:=fs1 h.symm;exact⟨rfl,rfl,rfl,rfl,rfl,rfl,rfl,rfl,rfl,N ha,rfl⟩
 ·obtain⟨a,b,c,d,rfl,_⟩:=ks4 hk;obtain⟨a',b',c',d',rfl,ha,hb,hc,hd⟩:=fs4 h.symm;exact⟨rfl,T ha,T hc,T hd,rfl,rfl,rfl,rfl,B hb,rfl,rfl⟩
theorem decR_same {s:ByteArray} {l:List Int} (hl:InB l) {a b:RQ} {E F:Int} (h:BA s l a E) (g:BA s l b F):F=E∧SameR a b:=by
 unfold BA at h g;cases hk:WV s.data.toList with
 |none=>
  rw[hk] at h g;exact⟨g.1.trans h.1.symm,by rw[h.2,g.2];exact SameR.refl _⟩
 |some k=>
  rw[hk] at h g;obtain⟨h1,h2,_⟩:=IE hk;dsimp only at h g;unfold DJ at h g;by_cases h0:(EI (AH k) l).1≠0
  ·rw[if_pos h0] at h g;exact⟨g.1.trans h.1.symm,by rw[h.2,g.2];exact SameR.refl _⟩
  ·rw[if_neg h0] at h g;obtain⟨fs,e1,h⟩:=h;obtain⟨gs,e2,g⟩:=g;have hkk:fs.map (fun f=>f.pf.kind)=AH k:=by
    have:=(DK (AH k) l hl (by simpa using h0)).1;rw[←e1,List.map_map] at this;exact this
   have hs:=putR_pf k h1 h2 hkk (e1.trans e2.symm);have ha:=WK hs k h1 h2;rw[ha] at g;split at h
   ·rename_i hf;rw[if_pos hf] at g;exact⟨g.1.trans h.1.symm,by rw[h.2,g.2];exact hs⟩
   ·rename_i hf;rw[if_neg hf] at g;exact⟨g.1.trans h.1.symm,by rw[h.2,g.2];exact SameR.refl _⟩
theorem askM_same {s:SS} {a b:RQ} {E:Int} {ps:List PR} (h:SameR a b):BZ s b E ps=BZ s a E ps:=by
 obtain⟨k,tx,va,la,c0,c1,c2,c3,mA,mc,md,on,cd⟩:=a;obtain⟨k',tx',va',la',c0',c1',c2',c3',mA',mc',md',on',cd'⟩:=b;obtain⟨e1,e2,e3,e4,e5,e6,e7,e8,e9,e10,e11⟩:=h;dsimp only at e1 e2 e3 e4 e5 e6 e7 e8 e9 e10 e11;subst e1 e2 e3 e4 e5 e6 e7 e8 e9 e10 e11;rfl
theorem TC {s:SS} {a:RQ} {E:Int} {ps qs:List PR} (h:FP ps=FP qs):BZ s a E ps=BZ s a E qs:=by
 have h1: ∀nm,HF nm ps=HF nm qs:=fun nm=>by unfold HF;rw[h]
 have h2: ∀nm,HG nm ps=HG nm qs:=fun nm=>by unfold HG;rw[h1]
 have h3: ∀nm,HE nm ps=HE nm qs:=fun nm=>by unfold HE;rw[h1]
 have h4: ∀nm,CD s nm ps=CD s nm qs:=fun nm=>by unfold CD;rw[h2,h3]
 unfold BZ;split;·rfl
 ·unfold kindM;split<;>first|rfl|exact h4 _
theorem bC {ps qs:List PG} (h:ps.map PG.m=qs.map PG.m):FP (ps.map PG.pr)=FP (qs.map PG.pr):=by
 have: ∀l:List PG,FP (l.map PG.pr)=(l.map PG.m).map (·.1):=fun l=>by
  unfold FP;rw[List.map_map,List.map_map];rfl
 rw[this,this,h]
theorem env_vals {s:SS} {nm:ByteArray} {l:List Int} {m:RQ} {E:Int} {ps:List PR} {B:Nat} (hD:BA nm l m E) (hs: ∀x∈s.env,x.v.size≤B): ∀x∈(BZ s m E ps).1.env,x.v.size≤B+1024:=by
 have hss: ∀x∈s.env,x.v.size≤B+1024:=fun x hx=>by have:=hs x hx;omega
 unfold BZ;split;·exact hss
 rename_i hE;have hE:E=0:=by simpa using hE
 subst hE;obtain⟨k,hk1,hk2,hk⟩:=LV hD;rw[hk,Int.toNat_natCast];rcases k10 hk1 hk2 with rfl|rfl|rfl|rfl|rfl|rfl|rfl|rfl|rfl|rfl
 ·show∀x∈(ptyM s m).1.env,_;rw[bG];exact hss
 ·have hv:m.value.size≤1024:=by
   unfold BA at hD;split at hD;·exact absurd hD.1 (by decide)
   ·rename_i k hkk;obtain⟨h1,h2,_⟩:=IE hkk;have hk4:=QB h1 h2 hD;obtain rfl:k=2:=by omega
    unfold DJ at hD;split at hD;·rename_i hn;exact absurd hD.1.symm hn
    ·obtain⟨fs,hf,h⟩:=hD;split at h
     ·rename_i hq;rw[←h.2] at hq;replace hq:(if OS m.text=true then(4:Int) else DF [BV m.text 1,CK m.value.size])=0:=hq;split at hq;·cases hq
      ·simp only[DF] at hq;split at hq;·contradiction
       ·split at hq;·contradiction
        ·rename_i h9;exact WX (by simpa using h9)
     ·rename_i hn;exact absurd h.1.symm hn
  show∀x∈(envM s m).1.env,_;unfold envM;split;·exact hss
  ·split
   ·intro x hx;rcases List.mem_or_eq_of_mem_set hx with h|h;·exact hss x h
    ·rw[h];show m.value.size≤_;omega
   ·split;·exact hss
    ·intro x hx;rcases List.mem_append.1 hx with h|h;·exact hss x h
     ·rw[List.mem_singleton.1 h];show m.value.size≤_;omega
 ·show∀x∈(CD s IM ps).1.env,_;rw[HQ];exact hss
 ·show∀x∈(CD s (JX m.text) ps).1.env,_;rw[HQ];exact hss
 ·show∀x∈(CD s m.text ps).1.env,_;rw[HQ];exact hss
 ·show∀x∈(MG s m).1.env,_;rw[XO];exact hss
 ·exact hss
 ·show∀x∈(PQ s m).1.env,_;rw[cC];exact hss
 ·exact hss
 ·exact hss
theorem YA (A B:Option Addr) (ca cb:Nat) (l:List Int) (n1 n2:Nat) (hn1:l.length=n1) (hn2:l.length=n2) (w:World) (ha:RdX cu8 w A l) (hb:RdX cu8 w B l) (hlen:l.length≤maxLen):Calls Tryz.prog 18 #[.slice A n1 ca,.slice B n2 cb] w fun e w'=>e = .returned (.bool true)∧Only [] w w':=by
 subst hn1;subst hn2;refine Hs.en Tryz.func18 [] [] [] [.c (.v (.slice A l.length ca)),.c (.v (.slice B l.length cb))] (Mem.start0 w) ?_;have J: ∀(d i:Nat),l.length-i=d→i≤l.length→∀(u:Nat→Value),Hs Tryz.prog 18 (fun e w'=>e = .returned (.bool true)∧Only [] w w') (Tryz.f18).ntmps w [] [] ⟨.no,AE Tryz.f18 0,BI [(0,.c (.v (.slice A l.length ca))),(1,.c (.v (.slice B l.length cb))),(12,.c (.v (.int .i64 l.length))),(13,.c (.v (.int .i64 (i:Nat))))] (.vals u),[]⟩:=by
  intro d;induction d with
  |zero=>
   intro i hd hi u;refine Hs.e0 ?_;refine Hs.cP ((i:Int)<(l.length:Int)) (fun h=>by omega) (fun h=>?_);refine Hs.e0 ?_;exact Hs.rt (v:=.bool true) Tryz.func18 fun w' H=>⟨rfl,H.only⟩
  |succ d ih=>
   intro i hd hi u;have hil:i<l.length:=by omega
   obtain⟨x,hx⟩: ∃x,l[i]? = some x:=⟨_,List.getElem?_eq_getElem hil⟩;obtain⟨ab,aoff,hA,_,_⟩:=ha (by omega);obtain⟨bb,boff,hB,_,_⟩:=hb (by omega);subst hA;subst hB;have c1:=fun w' (O:Only [] w w')=>LN (ha.only O) hx;have c2:=fun w' (O:Only [] w w')=>LN (hb.only O) hx;refine Hs.e0 ?_;refine Hs.cP ((i:Int)<(l.length:Int)) (fun h=>?_) (fun h=>by omega);refine Hs.e0 ?_;refine Hs.any [] (by kernel_rfl) ?_;refine Hs.e0 ?_;refine Hs.takeIdx (rd:=[]) 2 DS (b:=ab) (off:=aoff) (c:=ca) (len:=l.length) (i:=i) hil (by kernel_rfl) ?_;refine Hs.takeIdx (rd:=[]) 6 DS (b:=bb) (off:=boff) (c:=cb) (len:=l.length) (i:=i) hil (by kernel_rfl) ?_;refine Hs.branch2 3 7 (by kernel_rfl) ?_ ?_
   ·refine Hs.ldc (E':=5) (b:=ab) (off:=aoff+i*1) (.int .u8 x) (by kernel_rfl) (fun w' H=>c1 w' H.only) (by kernel_rfl) ?_;refine Hs.e0 ?_;refine Hs.ldc (E':=5) (b:=bb) (off:=boff+i*1) (.int .u8 x) (by kernel_rfl) (fun w' H=>c2 w' H.only) (by kernel_rfl) ?_;refine Hs.e0 ?_;refine Hs.cn (x !=x) (fun h=>by simp at h) (fun _=>?_);refine Hs.e0 ?_;refine Hs.slot 13 (.c (.v (.int .i64 (i+1:Nat)))) rfl ((by kernel_rfl:_=Value.int .i64 (IntKind.i64.wrap ((i:Int)+1))).trans (BW hlen)) ?_;refine Hs.lP ?_;exact Hs.goto (AE Tryz.f18 0) [] [] [(0,.c (.v (.slice (some ⟨ab,aoff,none⟩) l.length ca))),(1,.c (.v (.slice (some ⟨bb,boff,none⟩) l.length cb))),(12,.c (.v (.int .i64 l.length))),(13,.c (.v (.int .i64 (i+1:Nat))))] (by kernel_rfl) (by decide) (by kernel_rfl) (by kernel_rfl) (fun _=>(by kernel_rfl)) (fun u=>ih (i+1) (by omega) (by omega) u)
   ·refine Hs.ldc (E':=5) (b:=bb) (off:=boff+i*1) (.int .u8 x) (by kernel_rfl) (fun w' H=>c2 w' H.only) (by kernel_rfl) ?_;refine Hs.e0 ?_;refine Hs.ldc (E':=5) (b:=ab) (off:=aoff+i*1) (.int .u8 x) (by kernel_rfl) (fun w' H=>c1 w' H.only) (by kernel_rfl) ?_;refine Hs.e0 ?_;refine Hs.cn (x !=x) (fun h=>by simp at h) (fun _=>?_);refine Hs.e0 ?_;refine Hs.slot 13 (.c (.v (.int .i64 (i+1:Nat)))) rfl ((by kernel_rfl:_=Value.int .i64 (IntKind.i64.wrap ((i:Int)+1))).trans (BW hlen)) ?_;refine Hs.lP ?_;exact Hs.goto (AE Tryz.f18 0) [] [] [(0,.c (.v (.slice (some ⟨ab,aoff,none⟩) l.length ca))),(1,.c (.v (.slice (some ⟨bb,boff,none⟩) l.length cb))),(12,.c (.v (.int .i64 l.length))),(13,.c (.v (.int .i64 (i+1:Nat))))] (by kernel_rfl) (by decide) (by kernel_rfl) (by kernel_rfl) (fun _=>(by kernel_rfl)) (fun u=>ih (i+1) (by omega) (by omega) u)
 refine Hs.e0 ?_;refine Hs.cn ((l.length:Int)!=(l.length:Int)) (fun h=>by simp at h) (fun _=>?_);refine Hs.e0 ?_;refine Hs.lP ?_;exact Hs.goto (AE Tryz.f18 0) [] [] [(0,.c (.v (.slice A l.length ca))),(1,.c (.v (.slice B l.length cb))),(12,.c (.v (.int .i64 l.length))),(13,.c (.v (.int .i64 (0:Nat))))] (by kernel_rfl) (by decide) (by kernel_rfl) (by kernel_rfl) (fun _=>(by kernel_rfl)) (fun u=>J _ 0 rfl (by omega) u)
end Go.Proofs.YtdplnedpbkpgpaaGreatDoor
