/- SessionAsks: lemmas, from 'The machine: a struct with arrays is equal to itself' on; what each asks for stands in it. -/
import Derived.Test.YtdplnedpbkpgpaaGreatDoorSlG
import Derived.ChangeKeysEq
import Derived.Test.YtdplnedpbkpgpaaGreatDoorSlD
import Derived.Test.YtdplnedpbkpgpaaGreatDoorSlK
import Derived.Test.YtdplnedpbkpgpaaGreatDoorSlC
set_option linter.all false
set_option maxRecDepth 100000
set_option maxHeartbeats 64000000
namespace Go.Proofs.YtdplnedpbkpgpaaGreatDoor
open Go.RowKit
section
variable (P : Program)
def PP:Nat→TypeId→Value→Bool
 |0,_,_=>false
 |m+1,t,v=>match P.underlying t with
  |some .bool=>match v with
   | .bool _=>true
   |_=>false
  |some (.int _)=>match v with
   | .int _ _=>true
   |_=>false
  |some .string=>match v with
   | .string _=>true
   |_=>false
  |some (.struct fs)=>match v with
   | .agg xs=>!P.stoodInHeld t&&fs.toList.all fun f=>f.name != "_"&&(match HI P f.type (xs.toList.map .v) f.offset with
    |some u=>PP m f.type (u.den [])
    |none=>false)
   |_=>false
  |some (.array len e)=>match v with
   | .agg xs=>(P.info? e).isSome&&(List.range len).all fun i=>(match HI P e (xs.toList.map .v) (i*P.cellsOf e) with
    |some u=>PP m e (u.den [])
    |none=>false)
   |_=>false
  |_=>false
end
section
variable {P : Program}
theorem QR: ∀(m:Nat) (t:TypeId) (v:Value),PP P m t v=true→∀(d:Nat) (w:World),(Op.equalIn (d+m) t v v).run P w = .ok true w
 |0,t,v,h,d,w=>by simp[PP] at h
 |m+1,t,v,h,d,w=>by
  rw[show d+(m+1)=(d+m)+1 by omega];unfold PP at h;split at h
  ·rename_i hu;split at h;·rename_i b;rw[run_equalIn_bool' w (d+m) t b b hu];simp
   ·cases h
  ·rename_i k hu;split at h;·rename_i k' a;rw[run_equalIn_int w (d+m) t k' k a a hu];simp
   ·cases h
  ·rename_i hu;split at h;·rename_i s;rw[run_equalIn_string w (d+m) t s s hu];simp
   ·cases h
  ·rename_i fs hu;split at h
   ·rename_i xs;simp only[Bool.and_eq_true,Bool.not_eq_true'] at h;have hf:P.fieldsOf t=fs:=by unfold Program.fieldsOf;rw[hu]
    rw[run_equalIn_struct w (d+m) t xs xs (by rw[hf];exact hu) h.1,hf];have key: ∀l:List Field,(l.all fun f=>f.name != "_"&&(match HI P f.type (xs.toList.map .v) f.offset with|some u=>PP P m f.type (u.den [])|none=>false))=true→(Op.eqFields (d+m) xs xs l).run P w = .ok true w:=by
     intro l;induction l with
     |nil=>intro _;simp[Op.eqFields]
     |cons f l ih=>
      intro hl;simp only[List.all_cons,Bool.and_eq_true] at hl;obtain⟨⟨h1,h2⟩,h3⟩:=hl;split at h2
      ·rename_i u hp;have hpart:(part f.type xs f.offset).run P w = .ok (u.den []) w:=by
        have:=JF (β:=[]) (w:=w) hp;rwa[NL,Array.toArray_toList] at this
       have hself:=QR m f.type (u.den []) h2 d w;have hne:f.name≠ "_":=by simpa using h1
       simp only[Op.eqFields,hne,ne_eq,not_false_eq_true,if_true,Sem.run_bind,hpart,Result.andThen_ok,hself,Bool.not_true,Bool.false_eq_true,if_false];exact ih h3
      ·cases h2
    exact key fs.toList h.2
   ·cases h
  ·rename_i len e hu;split at h
   ·rename_i xs;simp only[Bool.and_eq_true] at h;obtain⟨i,hi⟩:=Option.isSome_iff_exists.1 h.1;rw[run_equalIn_array w (d+m) xs xs hu hi];have key: ∀l:List Nat,(l.all fun i=>(match HI P e (xs.toList.map .v) (i*P.cellsOf e) with|some u=>PP P m e (u.den [])|none=>false))=true→(Op.eqItems (d+m) e (P.cellsOf e) xs xs l).run P w = .ok true w:=by
     intro l;induction l with
     |nil=>intro _;simp[Op.eqItems]
     |cons f l ih=>
      intro hl;simp only[List.all_cons,Bool.and_eq_true] at hl;obtain⟨h2,h3⟩:=hl;split at h2
      ·rename_i u hp;have hpart:(part e xs (f*P.cellsOf e)).run P w = .ok (u.den []) w:=by
        have:=JF (β:=[]) (w:=w) hp;rwa[NL,Array.toArray_toList] at this
       have hself:=QR m e (u.den []) h2 d w;simp only[Op.eqItems,Sem.run_bind,hpart,Result.andThen_ok,hself,Bool.not_true,Bool.false_eq_true,if_false];exact ih h3
      ·cases h2
    exact key (List.range len) h.2
   ·cases h
  ·cases h
variable {f : FuncId} {R : Ending → World → Prop} {n : Nat} {w0 : World} {L : List Nat} {β : List Nat} {m : SM}
theorem run_sameA {op:BinOp} {T:TypeId} {xs:Array Value} {b:Bool} (ho:op = .eql∧b=true∨op = .neq∧b=false) (hm:P.eqGuardType P.depth T=false) (h:PP P 100 T (.agg xs)=true) (x y:Operand) (w:World):((do eqGuard op T x y (.agg xs) (.agg xs);binOp op T (.agg xs) (.agg xs)):Sem Value).run P w = .ok (.bool b) w:=by
 have hr:=QR 100 T (.agg xs) h 9900 w;rcases ho with⟨rfl,rfl⟩|⟨rfl,rfl⟩
 ·simp only[Sem.run_bind,run_eqGuard_agg w _ T x y xs xs hm,Result.andThen_ok,run_eql_struct];rw[show(10000:Nat)=9900+100 from rfl,hr];rfl
 ·simp only[Sem.run_bind,run_eqGuard_agg w _ T x y xs xs hm,Result.andThen_ok,run_neq_struct];rw[show(10000:Nat)=9900+100 from rfl,hr];rfl
theorem Hs.sameA {op:BinOp} {T:TypeId} (xs:Array Value) (b:Bool) (hc:QP n β m=some (op,T,.agg xs,.agg xs)) (ho:op = .eql∧b=true∨op = .neq∧b=false) (hm:(!P.eqGuardType P.depth T&&PP P 100 T (.agg xs))=true) (h:Hs P f R n w0 L β (m.put (BL m) (.c (.v (.bool b))) m.hp)):Hs P f R n w0 L β m:=by
 simp only[Bool.and_eq_true,Bool.not_eq_true'] at hm;refine⟨fun w H W=>?_⟩;unfold QP at hc;split at hc
 ·rename_i o hcur;split at hc
  ·rename_i hg;split at hc
   ·rename_i op' T' x y z hop;simp only[Option.some.injEq,Prod.mk.injEq] at hc;obtain⟨rfl,rfl,hx,hy⟩:=hc;have hd:BL m=o.dst:=by unfold BL;rw[hcur]
    rw[hd] at h;refine Gs.val (v:=.c (.v (.bool b))) hcur hg ?_ (h.go w H ?_)
    ·have hr:=run_sameA (P:=P) ho hm.1 hm.2 x y w;simp only[execOp,hop,hx,hy,Sem.run_bind] at hr⊢;simp only[hr,Result.andThen_ok,Sem.run_pure];rfl
    ·simp only[SM.wf,SM.put,Bool.and_eq_true];exact⟨DN (SM.wf_sl W) rfl,SM.wf_hp W⟩
   ·cases hc
  ·cases hc
 ·cases hc
end
section
variable (P : Program)
end
section
variable {P : Program}
variable {f : FuncId} {R : Ending → World → Prop} {n : Nat} {w0 : World} {L : List Nat} {β : List Nat} {m : SM}
end
def JG (s:SS) (A:Option Addr) (n cap:Nat):List SC:=[.v (.bool s.pty),.v (.string s.term),.v (.int .u32 s.c0),.v (.int .u32 s.c1),.v (.int .u32 s.c2),.v (.int .u32 s.c3),.v (.int .u8 (s.t.ch 0)),.v (.int .u8 (s.t.ch 1)),.v (.int .u8 (s.t.ch 2)),.v (.int .u8 (s.t.ch 3)),.v (.int .u8 (s.t.ch 4)),.v (.int .u8 (s.t.ch 5)),.v (.int .u8 (s.t.ch 6)),.v (.int .u8 (s.t.ch 7)),.v (.int .u8 (s.t.ch 8)),.v (.int .u8 (s.t.ch 9)),.v (.int .u8 (s.t.ch 10)),.v (.int .u8 (s.t.ch 11)),.v (.int .u8 (s.t.ch 12)),.v (.int .u8 (s.t.ch 13)),.v (.int .u8 (s.t.ch 14)),.v (.int .u8 (s.t.ch 15)),.v (.int .u8 (s.t.ch 16)),.v (.int .u8 (s.t.ch 17)),.v (.int .u8 (s.t.ch 18)),.v (.int .u64 s.t.fl),.v (.int .u32 s.t.inn),.v (.int .u32 s.t.out),.v (.int .i64 s.t.mn),.v (.int .i64 s.t.tm),.v (.slice A n cap),.v (.bool s.st)]
theorem IC:ElemT Tryz.prog 29 76 2 (Tryz.prog.bytesOf 76):=FV (z:=.agg #[.string ⟨#[]⟩,.string ⟨#[]⟩]) (by kernel_rfl) (by kernel_rfl) (by decide) (by decide)
theorem SO:Tryz.prog.bytesOf 76=32:=by kernel_rfl
def MK (E:Nat) (s:SS) (w:World):Ending→World→Prop:=fun e w'=>∃A' cap',e = .returned (s.val A' cap')∧Only [] w w'∧BM AI E 2 w' w.heap.size (.slice A' s.env.length cap') s.env
def zS27:SS:=⟨false,⟨#[]⟩,0,0,0,0,AJ,[],false⟩
theorem HS (s:SS) (A:Option Addr) (cap:Nat) (w:World) (hr:RdX AI w A s.env) (hle:s.env.length≤1000000):Calls Tryz.prog 10 #[s.val A cap] w (MK 59 s w):=by
 have J: ∀(d i:Nat),s.env.length-i=d→i≤s.env.length→∀(b0 b1 b2:Nat) (A4:Option Addr) (c4:Nat) (u:Nat→Value),Hs Tryz.prog 10 (MK 59 s w) (Tryz.f10).ntmps w [] [b0,b1,b2,0] ⟨.no,AE Tryz.f10 0,BI [(2,.c (.p 1 0)),(3,.c (.p 2 0)),(18,.c (.v (.slice A s.env.length cap))),(19,.c (.v (.int .i64 s.env.length))),(20,.c (.v (.int .i64 i)))] (.vals u),[.b true 31 (s.sc A cap),.b true 41 (JG zS27 none 0 0),.b true 41 (JG s A4 i c4),.s A4 c4 i 59 2 ((s.env.take i).flatMap AI)]⟩:=by
  intro d;induction d with
  |zero=>
   intro i hd hi b0 b1 b2 A4 c4 u;obtain rfl:i=s.env.length:=by omega
   refine Hs.e0 ?_;refine Hs.cP ((s.env.length:Int)<(s.env.length:Int)) (fun h=>by omega) (fun _=>?_);refine Hs.e0 ?_;exact Hs.rt (v:=s.val A4 c4) Tryz.func10 fun w' H=>⟨A4,c4,rfl,H.only,H.fresh (l:=s.env) (cf:=AI) 3 rfl (by rw[List.take_length];rfl)⟩
  |succ d ih=>
   intro i hd hi b0 b1 b2 A4 c4 u;have hil:i<s.env.length:=by omega
   obtain⟨x,hx⟩: ∃x,s.env[i]? = some x:=⟨_,List.getElem?_eq_getElem hil⟩;have hti:(s.env.take i).length=i:=by rw[List.length_take];omega
   obtain⟨ab,aoff,hA,_,_⟩:=hr (by omega);have hih:=fun b0 b1 b2 A4 c4 u=>ih (i+1) (by omega) (by omega) b0 b1 b2 A4 c4 u;clear ih;rw[hA] at hih hr⊢;refine Hs.e0 ?_;refine Hs.cP ((i:Int)<(s.env.length:Int)) (fun _=>?_) (fun h=>by omega);refine Hs.e0 ?_;refine Hs.idx (b:=ab) (off:=aoff) (len:=s.env.length) (c:=cap) (i:=i) IC hil (by kernel_rfl) ?_;refine Hs.ldx (cf:=AI) (size:=2) (E:=76) (b:=ab) (off:=aoff) (i:=i) (l:=s.env) (x:=x) DD (.g x.sc) (by kernel_rfl) (fun w' H=>hr.only H.only) hx (by kernel_rfl) (by kernel_rfl) rfl (by kernel_rfl) ?_;refine Hs.e2 fun b4 b5=>?_;refine Hs.app (cf:=AI) (c:=1) (ty:=39) 3 LW (s.env.take i) [x] i 1 hti rfl KH DD (A:=A4) (B:=some ⟨b5,0,none⟩) (cap:=c4) (by kernel_rfl) (by kernel_rfl) (by kernel_rfl) (fun w' H=>H.rdB (cf:=AI) (wr:=true) (T:=59) (cs:=x.sc) (gs:=[x]) 5 (by kernel_rfl) rfl) (by unfold maxLen;omega) (by rw[by_vr];omega) fun A6 c6 h6=>?_;refine Hs.e0 ?_;refine Hs.slot 20 (.c (.v (.int .i64 (i+1:Nat)))) rfl ((by kernel_rfl:_=Value.int .i64 (IntKind.i64.wrap ((i:Int)+1))).trans (BW (Nat.le_trans hle (by unfold maxLen;omega)))) ?_;refine Hs.lP ?_;have e1:s.env.take i++[x]=s.env.take (i+1):=by rw[List.take_add_one,hx];rfl
   rw[e1];exact Hs.goto (AE Tryz.f10 0) [0,1,2,3] [.b true 31 (s.sc (some ⟨ab,aoff,none⟩) cap),.b true 41 (JG zS27 none 0 0),.b true 41 (JG s A6 (i+1) c6),.s A6 c6 (i+1) 59 2 ((s.env.take (i+1)).flatMap AI)] [(2,.c (.p 1 0)),(3,.c (.p 2 0)),(18,.c (.v (.slice (some ⟨ab,aoff,none⟩) s.env.length cap))),(19,.c (.v (.int .i64 s.env.length))),(20,.c (.v (.int .i64 (i+1:Nat))))] (by kernel_rfl) (by decide) (by kernel_rfl) (by kernel_rfl) (fun _=>(by kernel_rfl)) (fun u=>hih b0 b1 b2 A6 c6 u)
 refine Hs.en Tryz.func10 [] [] [] [.g (s.sc A cap)] (Mem.start0 w) ?_;refine Hs.run3 300 (fun _=>by kernel_rfl) fun b0 b1 b2=>?_;refine Hs.nilS 59 2 (by kernel_rfl) ?_ (by kernel_rfl);refine Hs.lP ?_;exact Hs.goto (AE Tryz.f10 0) [0,1,2,3] [.b true 31 (s.sc A cap),.b true 41 (JG zS27 none 0 0),.b true 41 (JG s none 0 0),.s none 0 0 59 2 ((s.env.take 0).flatMap AI)] [(2,.c (.p 1 0)),(3,.c (.p 2 0)),(18,.c (.v (.slice A s.env.length cap))),(19,.c (.v (.int .i64 s.env.length))),(20,.c (.v (.int .i64 (0:Nat))))] (by kernel_rfl) (by decide) (by kernel_rfl) (by kernel_rfl) (fun _=>(by kernel_rfl)) (fun u=>J s.env.length 0 (by omega) (by omega) b0 b1 b2 none 0 u)
theorem LE (s:SS) (A:Option Addr) (cap:Nat) (w:World) (hr:RdX AI w A s.env) (hle:s.env.length≤1000000):Calls Tryz.prog 17 #[s.val A cap] w (MK 76 s w):=by
 have J: ∀(d i:Nat),s.env.length-i=d→i≤s.env.length→∀(b0 b1 b2:Nat) (A4:Option Addr) (c4:Nat) (u:Nat→Value),Hs Tryz.prog 17 (MK 76 s w) (Tryz.f17).ntmps w [] [b0,b1,b2,0] ⟨.no,AE Tryz.f17 0,BI [(2,.c (.p 1 0)),(3,.c (.p 2 0)),(18,.c (.v (.slice A s.env.length cap))),(19,.c (.v (.int .i64 s.env.length))),(20,.c (.v (.int .i64 i)))] (.vals u),[.b true 41 (s.sc A cap),.b true 49 (JG zS27 none 0 0),.b true 49 (JG s A4 i c4),.s A4 c4 i 76 2 ((s.env.take i).flatMap AI)]⟩:=by
  intro d;induction d with
  |zero=>
   intro i hd hi b0 b1 b2 A4 c4 u;obtain rfl:i=s.env.length:=by omega
   refine Hs.e0 ?_;refine Hs.cP ((s.env.length:Int)<(s.env.length:Int)) (fun h=>by omega) (fun _=>?_);refine Hs.e0 ?_;exact Hs.rt (v:=s.val A4 c4) Tryz.func17 fun w' H=>⟨A4,c4,rfl,H.only,H.fresh (l:=s.env) (cf:=AI) 3 rfl (by rw[List.take_length];rfl)⟩
  |succ d ih=>
   intro i hd hi b0 b1 b2 A4 c4 u;have hil:i<s.env.length:=by omega
   obtain⟨x,hx⟩: ∃x,s.env[i]? = some x:=⟨_,List.getElem?_eq_getElem hil⟩;have hti:(s.env.take i).length=i:=by rw[List.length_take];omega
   obtain⟨ab,aoff,hA,_,_⟩:=hr (by omega);have hih:=fun b0 b1 b2 A4 c4 u=>ih (i+1) (by omega) (by omega) b0 b1 b2 A4 c4 u;clear ih;rw[hA] at hih hr⊢;refine Hs.e0 ?_;refine Hs.cP ((i:Int)<(s.env.length:Int)) (fun _=>?_) (fun h=>by omega);refine Hs.e0 ?_;refine Hs.idx (b:=ab) (off:=aoff) (len:=s.env.length) (c:=cap) (i:=i) LW hil (by kernel_rfl) ?_;refine Hs.ldx (cf:=AI) (size:=2) (E:=59) (b:=ab) (off:=aoff) (i:=i) (l:=s.env) (x:=x) DD (.g x.sc) (by kernel_rfl) (fun w' H=>hr.only H.only) hx (by kernel_rfl) (by kernel_rfl) rfl (by kernel_rfl) ?_;refine Hs.e2 fun b4 b5=>?_;refine Hs.app (cf:=AI) (c:=1) (ty:=29) 3 IC (s.env.take i) [x] i 1 hti rfl KH DD (A:=A4) (B:=some ⟨b5,0,none⟩) (cap:=c4) (by kernel_rfl) (by kernel_rfl) (by kernel_rfl) (fun w' H=>H.rdB (cf:=AI) (wr:=true) (T:=76) (cs:=x.sc) (gs:=[x]) 5 (by kernel_rfl) rfl) (by unfold maxLen;omega) (by rw[SO];omega) fun A6 c6 h6=>?_;refine Hs.e0 ?_;refine Hs.slot 20 (.c (.v (.int .i64 (i+1:Nat)))) rfl ((by kernel_rfl:_=Value.int .i64 (IntKind.i64.wrap ((i:Int)+1))).trans (BW (Nat.le_trans hle (by unfold maxLen;omega)))) ?_;refine Hs.lP ?_;have e1:s.env.take i++[x]=s.env.take (i+1):=by rw[List.take_add_one,hx];rfl
   rw[e1];exact Hs.goto (AE Tryz.f17 0) [0,1,2,3] [.b true 41 (s.sc (some ⟨ab,aoff,none⟩) cap),.b true 49 (JG zS27 none 0 0),.b true 49 (JG s A6 (i+1) c6),.s A6 c6 (i+1) 76 2 ((s.env.take (i+1)).flatMap AI)] [(2,.c (.p 1 0)),(3,.c (.p 2 0)),(18,.c (.v (.slice (some ⟨ab,aoff,none⟩) s.env.length cap))),(19,.c (.v (.int .i64 s.env.length))),(20,.c (.v (.int .i64 (i+1:Nat))))] (by kernel_rfl) (by decide) (by kernel_rfl) (by kernel_rfl) (fun _=>(by kernel_rfl)) (fun u=>hih b0 b1 b2 A6 c6 u)
 refine Hs.en Tryz.func17 [] [] [] [.g (s.sc A cap)] (Mem.start0 w) ?_;refine Hs.run3 300 (fun _=>by kernel_rfl) fun b0 b1 b2=>?_;refine Hs.nilS 76 2 (by kernel_rfl) ?_ (by kernel_rfl);refine Hs.lP ?_;exact Hs.goto (AE Tryz.f17 0) [0,1,2,3] [.b true 41 (s.sc A cap),.b true 49 (JG zS27 none 0 0),.b true 49 (JG s none 0 0),.s none 0 0 76 2 ((s.env.take 0).flatMap AI)] [(2,.c (.p 1 0)),(3,.c (.p 2 0)),(18,.c (.v (.slice A s.env.length cap))),(19,.c (.v (.int .i64 s.env.length))),(20,.c (.v (.int .i64 (0:Nat))))] (by kernel_rfl) (by decide) (by kernel_rfl) (by kernel_rfl) (fun _=>(by kernel_rfl)) (fun u=>J s.env.length 0 (by omega) (by omega) b0 b1 b2 none 0 u)
theorem RO (s:SS) (A B:Option Addr) (cap cb:Nat) (w:World) (hr:RdX AI w A s.env) (hq:RdX AI w B s.env) (hle:s.env.length≤1000000):Calls Tryz.prog 16 #[s.val A cap,s.val B cb] w fun e w'=>e = .returned (.bool true)∧Only [] w w':=by
 have J: ∀(d i:Nat),s.env.length-i=d→i≤s.env.length→∀(b0 b1:Nat) (u:Nat→Value),Hs Tryz.prog 16 (fun e w'=>e = .returned (.bool true)∧Only [] w w') (Tryz.f16).ntmps w [] [b0,b1] ⟨.no,AE Tryz.f16 0,BI [(2,.c (.p 0 0)),(3,.c (.p 1 0)),(50,.c (.v (.int .i64 s.env.length))),(51,.c (.v (.int .i64 i)))] (.vals u),[.b true 49 (s.sc A cap),.b true 49 (s.sc B cb)]⟩:=by
  intro d;induction d with
  |zero=>
   intro i hd hi b0 b1 u;obtain rfl:i=s.env.length:=by omega
   refine Hs.e0 ?_;refine Hs.cP ((s.env.length:Int)<(s.env.length:Int)) (fun h=>by omega) (fun _=>?_);refine Hs.e0 ?_;exact Hs.rt (v:=.bool true) Tryz.func16 fun w' H=>⟨rfl,H.only⟩
  |succ d ih=>
   intro i hd hi b0 b1 u;have hil:i<s.env.length:=by omega
   obtain⟨x,hx⟩: ∃x,s.env[i]? = some x:=⟨_,List.getElem?_eq_getElem hil⟩;obtain⟨ab,aoff,hA,_,_⟩:=hr (by omega);obtain⟨bb,boff,hB,_,_⟩:=hq (by omega);have hih:=fun b0 b1 u=>ih (i+1) (by omega) (by omega) b0 b1 u;clear ih;rw[hA,hB] at hih;rw[hA] at hr⊢;rw[hB] at hq⊢;refine Hs.e0 ?_;refine Hs.cP ((i:Int)<(s.env.length:Int)) (fun _=>?_) (fun h=>by omega);refine Hs.e0 ?_;refine Hs.any [0,1] (by kernel_rfl) ?_;refine Hs.e0 ?_;refine Hs.takeIdx (rd:=[0,1]) 3 IC (b:=ab) (off:=aoff) (c:=cap) (len:=s.env.length) (i:=i) hil (by kernel_rfl) ?_;refine Hs.takeIdx (rd:=[0,1]) 8 IC (b:=bb) (off:=boff) (c:=cb) (len:=s.env.length) (i:=i) hil (by kernel_rfl) ?_;refine Hs.branch2 4 9 (by kernel_rfl) ?_ ?_
   ·refine Hs.ldx (cf:=AI) (size:=2) (E:=76) (b:=ab) (off:=aoff) (i:=i) (l:=s.env) (x:=x) DD (.g x.sc) (by kernel_rfl) (fun w' H=>hr.only H.only) hx (by kernel_rfl) (by kernel_rfl) rfl (by kernel_rfl) ?_;refine Hs.e0 ?_;refine Hs.ldx (cf:=AI) (size:=2) (E:=76) (b:=bb) (off:=boff) (i:=i) (l:=s.env) (x:=x) DD (.g x.sc) (by kernel_rfl) (fun w' H=>hq.only H.only) hx (by kernel_rfl) (by kernel_rfl) rfl (by kernel_rfl) ?_;refine Hs.sel1 10 (by kernel_rfl) ?_;refine Hs.same (op:=.neq) (T:=76) #[.string x.n,.string x.v] false (by kernel_rfl) (.inr ⟨rfl,rfl⟩) (by kernel_rfl) ?_;refine Hs.e0 ?_;refine Hs.cF ?_;refine Hs.e0 ?_;refine Hs.slot 51 (.c (.v (.int .i64 (i+1:Nat)))) rfl ((by kernel_rfl:_=Value.int .i64 (IntKind.i64.wrap ((i:Int)+1))).trans (BW (Nat.le_trans hle (by unfold maxLen;omega)))) ?_;refine Hs.lP ?_;exact Hs.goto (AE Tryz.f16 0) [0,1] [.b true 49 (s.sc (some ⟨ab,aoff,none⟩) cap),.b true 49 (s.sc (some ⟨bb,boff,none⟩) cb)] [(2,.c (.p 0 0)),(3,.c (.p 1 0)),(50,.c (.v (.int .i64 s.env.length))),(51,.c (.v (.int .i64 (i+1:Nat))))] (by kernel_rfl) (by decide) (by kernel_rfl) (by kernel_rfl) (fun _=>(by kernel_rfl)) (fun u=>hih b0 b1 u)
   ·refine Hs.ldx (cf:=AI) (size:=2) (E:=76) (b:=bb) (off:=boff) (i:=i) (l:=s.env) (x:=x) DD (.g x.sc) (by kernel_rfl) (fun w' H=>hq.only H.only) hx (by kernel_rfl) (by kernel_rfl) rfl (by kernel_rfl) ?_;refine Hs.e0 ?_;refine Hs.ldx (cf:=AI) (size:=2) (E:=76) (b:=ab) (off:=aoff) (i:=i) (l:=s.env) (x:=x) DD (.g x.sc) (by kernel_rfl) (fun w' H=>hr.only H.only) hx (by kernel_rfl) (by kernel_rfl) rfl (by kernel_rfl) ?_;refine Hs.sel1 10 (by kernel_rfl) ?_;refine Hs.same (op:=.neq) (T:=76) #[.string x.n,.string x.v] false (by kernel_rfl) (.inr ⟨rfl,rfl⟩) (by kernel_rfl) ?_;refine Hs.e0 ?_;refine Hs.cF ?_;refine Hs.e0 ?_;refine Hs.slot 51 (.c (.v (.int .i64 (i+1:Nat)))) rfl ((by kernel_rfl:_=Value.int .i64 (IntKind.i64.wrap ((i:Int)+1))).trans (BW (Nat.le_trans hle (by unfold maxLen;omega)))) ?_;refine Hs.lP ?_;exact Hs.goto (AE Tryz.f16 0) [0,1] [.b true 49 (s.sc (some ⟨ab,aoff,none⟩) cap),.b true 49 (s.sc (some ⟨bb,boff,none⟩) cb)] [(2,.c (.p 0 0)),(3,.c (.p 1 0)),(50,.c (.v (.int .i64 s.env.length))),(51,.c (.v (.int .i64 (i+1:Nat))))] (by kernel_rfl) (by decide) (by kernel_rfl) (by kernel_rfl) (fun _=>(by kernel_rfl)) (fun u=>hih b0 b1 u)
 refine Hs.en Tryz.func16 [] [] [] [.g (s.sc A cap),.g (s.sc B cb)] (Mem.start0 w) ?_;refine Hs.e2 fun b0 b1=>?_;refine Hs.bool 11 (s.pty !=s.pty) (by kernel_rfl) (fun h=>by simp at h) (fun _=>?_);refine Hs.eg [5] ?_;refine Hs.bool 18 (!(s.term.toList==s.term.toList)) (by kernel_rfl) (fun h=>by simp at h) (fun _=>?_);refine Hs.rung0 [5,12] 9 (fun _=>by kernel_rfl) ?_;refine Hs.same (op:=.neq) (T:=24) #[.int .u32 s.c0,.int .u32 s.c1,.int .u32 s.c2,.int .u32 s.c3] false (by kernel_rfl) (.inr ⟨rfl,rfl⟩) (by kernel_rfl) ?_;refine Hs.rung0 [12,19] 11 (fun _=>by kernel_rfl) ?_;refine Hs.sameA (op:=.neq) (T:=28) (TM.cells s.t).toArray false (by kernel_rfl) (.inr ⟨rfl,rfl⟩) (by kernel_rfl) ?_;refine Hs.eg [19,26] ?_;refine Hs.bool 39 (s.st !=s.st) (by kernel_rfl) (fun h=>by simp at h) (fun _=>?_);refine Hs.eg [26,33] ?_;refine Hs.cn ((s.env.length:Int)!=(s.env.length:Int)) (fun h=>by simp at h) (fun _=>?_);refine Hs.e0 ?_;refine Hs.lP ?_;exact Hs.goto (AE Tryz.f16 0) [0,1] [.b true 49 (s.sc A cap),.b true 49 (s.sc B cb)] [(2,.c (.p 0 0)),(3,.c (.p 1 0)),(50,.c (.v (.int .i64 s.env.length))),(51,.c (.v (.int .i64 (0:Nat))))] (by kernel_rfl) (by decide) (by kernel_rfl) (by kernel_rfl) (fun _=>(by kernel_rfl)) (fun u=>J s.env.length 0 (by omega) (by omega) b0 b1 u)
def doesS (n:Int):Int:=([0,1,1,2,2,2,2,2,2,1,1,2,1,1,1,1,0,3,5,4,4,4,4,0,0,0,0,0,3]:List Int).getD n.toNat 0
def HO (n:Int):Value:=if isS n then .agg #[.int .i64 n,.string (AD n),.int .i64 (doesS n),.bool (CL n)] else .agg #[.int .i64 0,.string ⟨#[]⟩,.int .i64 0,.bool false]
def IK (n:Int):Value:=.agg #[.int .i64 (if isS n then n else 0),.string (if isS n then AD n else⟨#[]⟩),.int .i64 (if isS n then doesS n else 0),.bool (CL n)]
theorem CT (n:Int):HO n=IK n:=by
 unfold HO IK;by_cases h:isS n=true
 ·rw[if_pos h,if_pos h,if_pos h,if_pos h]
 ·rw[if_neg h,if_neg h,if_neg h,if_neg h];unfold CL;rw[show isS n=false by simpa using h];rfl
theorem sIs {n:Int} (h:n≠1∧n≠2∧n≠3∧n≠4∧n≠5∧n≠6∧n≠7∧n≠8∧n≠9∧n≠10∧n≠11∧n≠12∧n≠13∧n≠14∧n≠15∧n≠17∧n≠18∧n≠19∧n≠20∧n≠21∧n≠22∧n≠28):isS n=false:=by
 unfold isS;simp only[Bool.or_eq_false_iff,Bool.and_eq_false_iff,decide_eq_false_iff_not];omega
def rowSC (n:Int):List SC:=[.v (.int .i64 n),.v (.string (AD n)),.v (.int .i64 (doesS n)),.v (.bool (CL n))]
def AM:List SC:=[1,2,3,4,5,6,7,8,9,10,11,12,13,14,15,17,18,19,20,21,22,28].flatMap rowSC
theorem ofJ22 (n:Int) (w:World) (h1:n≠1) (h2:n≠2) (h3:n≠3) (h4:n≠4) (h5:n≠5) (h6:n≠6) (h7:n≠7) (h8:n≠8) (h9:n≠9) (h10:n≠10) (h11:n≠11) (h12:n≠12) (h13:n≠13) (h14:n≠14) (h15:n≠15) (h17:n≠17) (h18:n≠18) (h19:n≠19) (h20:n≠20) (h21:n≠21) (h22:n≠22) (h28:n≠28) (b0 b1:Nat) (u:Nat→Value):Hs Tryz.prog 66 (fun e w'=>e = .returned (.tuple #[HO n,.bool (isS n)])∧Only [] w w') (Tryz.f66).ntmps w [] [b0,b1] ⟨.no,AE Tryz.f66 0,BI [(0,.c (.v (.int .i64 n))),(2,.c (.p 0 0)),(6,.c (.s 1 0 22 22)),(7,.c (.v (.int .i64 22))),(8,.c (.v (.int .i64 22)))] (.vals u),[.b true 149 [.v (.int .i64 0),.v (.string ⟨#[]⟩),.v (.int .i64 0),.v (.bool false)],.b true 149 AM]⟩:=by
 have h:=sIs (n:=n) ⟨h1,h2,h3,h4,h5,h6,h7,h8,h9,h10,h11,h12,h13,h14,h15,h17,h18,h19,h20,h21,h22,h28⟩;refine Hs.e0 ?_;refine Hs.cF ?_;refine Hs.e0 ?_;exact Hs.rt (v:=.tuple #[.agg #[.int .i64 0,.string ⟨#[]⟩,.int .i64 0,.bool false],.bool false]) Tryz.func66 fun w' H=>⟨by unfold HO;rw[h];rfl,H.only⟩
theorem ofJ21 (n:Int) (w:World) (h1:n≠1) (h2:n≠2) (h3:n≠3) (h4:n≠4) (h5:n≠5) (h6:n≠6) (h7:n≠7) (h8:n≠8) (h9:n≠9) (h10:n≠10) (h11:n≠11) (h12:n≠12) (h13:n≠13) (h14:n≠14) (h15:n≠15) (h17:n≠17) (h18:n≠18) (h19:n≠19) (h20:n≠20) (h21:n≠21) (h22:n≠22) (b0 b1:Nat) (u:Nat→Value):Hs Tryz.prog 66 (fun e w'=>e = .returned (.tuple #[HO n,.bool (isS n)])∧Only [] w w') (Tryz.f66).ntmps w [] [b0,b1] ⟨.no,AE Tryz.f66 0,BI [(0,.c (.v (.int .i64 n))),(2,.c (.p 0 0)),(6,.c (.s 1 0 22 22)),(7,.c (.v (.int .i64 22))),(8,.c (.v (.int .i64 21)))] (.vals u),[.b true 149 [.v (.int .i64 0),.v (.string ⟨#[]⟩),.v (.int .i64 0),.v (.bool false)],.b true 149 AM]⟩:=by
 refine Hs.e0 ?_;refine Hs.cT ?_;refine Hs.e1 fun b2=>?_;refine Hs.cn ((28:Int)==n) (fun h=>?_) (fun h=>?_)
 ·obtain rfl:n=28:=(by simpa using h:(28:Int)=n).symm;refine Hs.e0 ?_;exact Hs.rt (v:=.tuple #[IK 28,.bool true]) Tryz.func66 fun w' H=>⟨by rw[CT];rfl,H.only⟩
 have h28:n≠28:=fun e=>by rw[e] at h;simp at h
 refine Hs.e0 ?_;refine Hs.lP ?_;exact Hs.goto (AE Tryz.f66 0) [0,1] [.b true 149 [.v (.int .i64 0),.v (.string ⟨#[]⟩),.v (.int .i64 0),.v (.bool false)],.b true 149 AM] [(0,.c (.v (.int .i64 n))),(2,.c (.p 0 0)),(6,.c (.s 1 0 22 22)),(7,.c (.v (.int .i64 22))),(8,.c (.v (.int .i64 22)))] (by kernel_rfl) (by decide) (by kernel_rfl) (by kernel_rfl) (fun _=>(by kernel_rfl)) (fun u=>ofJ22 n w h1 h2 h3 h4 h5 h6 h7 h8 h9 h10 h11 h12 h13 h14 h15 h17 h18 h19 h20 h21 h22 h28 b0 b1 u)
theorem ofJ20 (n:Int) (w:World) (h1:n≠1) (h2:n≠2) (h3:n≠3) (h4:n≠4) (h5:n≠5) (h6:n≠6) (h7:n≠7) (h8:n≠8) (h9:n≠9) (h10:n≠10) (h11:n≠11) (h12:n≠12) (h13:n≠13) (h14:n≠14) (h15:n≠15) (h17:n≠17) (h18:n≠18) (h19:n≠19) (h20:n≠20) (h21:n≠21) (b0 b1:Nat) (u:Nat→Value):Hs Tryz.prog 66 (fun e w'=>e = .returned (.tuple #[HO n,.bool (isS n)])∧Only [] w w') (Tryz.f66).ntmps w [] [b0,b1] ⟨.no,AE Tryz.f66 0,BI [(0,.c (.v (.int .i64 n))),(2,.c (.p 0 0)),(6,.c (.s 1 0 22 22)),(7,.c (.v (.int .i64 22))),(8,.c (.v (.int .i64 20)))] (.vals u),[.b true 149 [.v (.int .i64 0),.v (.string ⟨#[]⟩),.v (.int .i64 0),.v (.bool false)],.b true 149 AM]⟩:=by
 refine Hs.e0 ?_;refine Hs.cT ?_;refine Hs.e1 fun b2=>?_;refine Hs.cn ((22:Int)==n) (fun h=>?_) (fun h=>?_)
 ·obtain rfl:n=22:=(by simpa using h:(22:Int)=n).symm;refine Hs.e0 ?_;exact Hs.rt (v:=.tuple #[IK 22,.bool true]) Tryz.func66 fun w' H=>⟨by rw[CT];rfl,H.only⟩
 have h22:n≠22:=fun e=>by rw[e] at h;simp at h
 refine Hs.e0 ?_;refine Hs.lP ?_;exact Hs.goto (AE Tryz.f66 0) [0,1] [.b true 149 [.v (.int .i64 0),.v (.string ⟨#[]⟩),.v (.int .i64 0),.v (.bool false)],.b true 149 AM] [(0,.c (.v (.int .i64 n))),(2,.c (.p 0 0)),(6,.c (.s 1 0 22 22)),(7,.c (.v (.int .i64 22))),(8,.c (.v (.int .i64 21)))] (by kernel_rfl) (by decide) (by kernel_rfl) (by kernel_rfl) (fun _=>(by kernel_rfl)) (fun u=>ofJ21 n w h1 h2 h3 h4 h5 h6 h7 h8 h9 h10 h11 h12 h13 h14 h15 h17 h18 h19 h20 h21 h22 b0 b1 u)
theorem ofJ19 (n:Int) (w:World) (h1:n≠1) (h2:n≠2) (h3:n≠3) (h4:n≠4) (h5:n≠5) (h6:n≠6) (h7:n≠7) (h8:n≠8) (h9:n≠9) (h10:n≠10) (h11:n≠11) (h12:n≠12) (h13:n≠13) (h14:n≠14) (h15:n≠15) (h17:n≠17) (h18:n≠18) (h19:n≠19) (h20:n≠20) (b0 b1:Nat) (u:Nat→Value):Hs Tryz.prog 66 (fun e w'=>e = .returned (.tuple #[HO n,.bool (isS n)])∧Only [] w w') (Tryz.f66).ntmps w [] [b0,b1] ⟨.no,AE Tryz.f66 0,BI [(0,.c (.v (.int .i64 n))),(2,.c (.p 0 0)),(6,.c (.s 1 0 22 22)),(7,.c (.v (.int .i64 22))),(8,.c (.v (.int .i64 19)))] (.vals u),[.b true 149 [.v (.int .i64 0),.v (.string ⟨#[]⟩),.v (.int .i64 0),.v (.bool false)],.b true 149 AM]⟩:=by
 refine Hs.e0 ?_;refine Hs.cT ?_;refine Hs.e1 fun b2=>?_;refine Hs.cn ((21:Int)==n) (fun h=>?_) (fun h=>?_)
 ·obtain rfl:n=21:=(by simpa using h:(21:Int)=n).symm;refine Hs.e0 ?_;exact Hs.rt (v:=.tuple #[IK 21,.bool true]) Tryz.func66 fun w' H=>⟨by rw[CT];rfl,H.only⟩
 have h21:n≠21:=fun e=>by rw[e] at h;simp at h
 refine Hs.e0 ?_;refine Hs.lP ?_;exact Hs.goto (AE Tryz.f66 0) [0,1] [.b true 149 [.v (.int .i64 0),.v (.string ⟨#[]⟩),.v (.int .i64 0),.v (.bool false)],.b true 149 AM] [(0,.c (.v (.int .i64 n))),(2,.c (.p 0 0)),(6,.c (.s 1 0 22 22)),(7,.c (.v (.int .i64 22))),(8,.c (.v (.int .i64 20)))] (by kernel_rfl) (by decide) (by kernel_rfl) (by kernel_rfl) (fun _=>(by kernel_rfl)) (fun u=>ofJ20 n w h1 h2 h3 h4 h5 h6 h7 h8 h9 h10 h11 h12 h13 h14 h15 h17 h18 h19 h20 h21 b0 b1 u)
theorem ofJ18 (n:Int) (w:World) (h1:n≠1) (h2:n≠2) (h3:n≠3) (h4:n≠4) (h5:n≠5) (h6:n≠6) (h7:n≠7) (h8:n≠8) (h9:n≠9) (h10:n≠10) (h11:n≠11) (h12:n≠12) (h13:n≠13) (h14:n≠14) (h15:n≠15) (h17:n≠17) (h18:n≠18) (h19:n≠19) (b0 b1:Nat) (u:Nat→Value):Hs Tryz.prog 66 (fun e w'=>e = .returned (.tuple #[HO n,.bool (isS n)])∧Only [] w w') (Tryz.f66).ntmps w [] [b0,b1] ⟨.no,AE Tryz.f66 0,BI [(0,.c (.v (.int .i64 n))),(2,.c (.p 0 0)),(6,.c (.s 1 0 22 22)),(7,.c (.v (.int .i64 22))),(8,.c (.v (.int .i64 18)))] (.vals u),[.b true 149 [.v (.int .i64 0),.v (.string ⟨#[]⟩),.v (.int .i64 0),.v (.bool false)],.b true 149 AM]⟩:=by
 refine Hs.e0 ?_;refine Hs.cT ?_;refine Hs.e1 fun b2=>?_;refine Hs.cn ((20:Int)==n) (fun h=>?_) (fun h=>?_)
 ·obtain rfl:n=20:=(by simpa using h:(20:Int)=n).symm;refine Hs.e0 ?_;exact Hs.rt (v:=.tuple #[IK 20,.bool true]) Tryz.func66 fun w' H=>⟨by rw[CT];rfl,H.only⟩
 have h20:n≠20:=fun e=>by rw[e] at h;simp at h
 refine Hs.e0 ?_;refine Hs.lP ?_;exact Hs.goto (AE Tryz.f66 0) [0,1] [.b true 149 [.v (.int .i64 0),.v (.string ⟨#[]⟩),.v (.int .i64 0),.v (.bool false)],.b true 149 AM] [(0,.c (.v (.int .i64 n))),(2,.c (.p 0 0)),(6,.c (.s 1 0 22 22)),(7,.c (.v (.int .i64 22))),(8,.c (.v (.int .i64 19)))] (by kernel_rfl) (by decide) (by kernel_rfl) (by kernel_rfl) (fun _=>(by kernel_rfl)) (fun u=>ofJ19 n w h1 h2 h3 h4 h5 h6 h7 h8 h9 h10 h11 h12 h13 h14 h15 h17 h18 h19 h20 b0 b1 u)
theorem ofJ17 (n:Int) (w:World) (h1:n≠1) (h2:n≠2) (h3:n≠3) (h4:n≠4) (h5:n≠5) (h6:n≠6) (h7:n≠7) (h8:n≠8) (h9:n≠9) (h10:n≠10) (h11:n≠11) (h12:n≠12) (h13:n≠13) (h14:n≠14) (h15:n≠15) (h17:n≠17) (h18:n≠18) (b0 b1:Nat) (u:Nat→Value):Hs Tryz.prog 66 (fun e w'=>e = .returned (.tuple #[HO n,.bool (isS n)])∧Only [] w w') (Tryz.f66).ntmps w [] [b0,b1] ⟨.no,AE Tryz.f66 0,BI [(0,.c (.v (.int .i64 n))),(2,.c (.p 0 0)),(6,.c (.s 1 0 22 22)),(7,.c (.v (.int .i64 22))),(8,.c (.v (.int .i64 17)))] (.vals u),[.b true 149 [.v (.int .i64 0),.v (.string ⟨#[]⟩),.v (.int .i64 0),.v (.bool false)],.b true 149 AM]⟩:=by
 refine Hs.e0 ?_;refine Hs.cT ?_;refine Hs.e1 fun b2=>?_;refine Hs.cn ((19:Int)==n) (fun h=>?_) (fun h=>?_)
 ·obtain rfl:n=19:=(by simpa using h:(19:Int)=n).symm;refine Hs.e0 ?_;exact Hs.rt (v:=.tuple #[IK 19,.bool true]) Tryz.func66 fun w' H=>⟨by rw[CT];rfl,H.only⟩
 have h19:n≠19:=fun e=>by rw[e] at h;simp at h
 refine Hs.e0 ?_;refine Hs.lP ?_;exact Hs.goto (AE Tryz.f66 0) [0,1] [.b true 149 [.v (.int .i64 0),.v (.string ⟨#[]⟩),.v (.int .i64 0),.v (.bool false)],.b true 149 AM] [(0,.c (.v (.int .i64 n))),(2,.c (.p 0 0)),(6,.c (.s 1 0 22 22)),(7,.c (.v (.int .i64 22))),(8,.c (.v (.int .i64 18)))] (by kernel_rfl) (by decide) (by kernel_rfl) (by kernel_rfl) (fun _=>(by kernel_rfl)) (fun u=>ofJ18 n w h1 h2 h3 h4 h5 h6 h7 h8 h9 h10 h11 h12 h13 h14 h15 h17 h18 h19 b0 b1 u)
theorem ofJ16 (n:Int) (w:World) (h1:n≠1) (h2:n≠2) (h3:n≠3) (h4:n≠4) (h5:n≠5) (h6:n≠6) (h7:n≠7) (h8:n≠8) (h9:n≠9) (h10:n≠10) (h11:n≠11) (h12:n≠12) (h13:n≠13) (h14:n≠14) (h15:n≠15) (h17:n≠17) (b0 b1:Nat) (u:Nat→Value):Hs Tryz.prog 66 (fun e w'=>e = .returned (.tuple #[HO n,.bool (isS n)])∧Only [] w w') (Tryz.f66).ntmps w [] [b0,b1] ⟨.no,AE Tryz.f66 0,BI [(0,.c (.v (.int .i64 n))),(2,.c (.p 0 0)),(6,.c (.s 1 0 22 22)),(7,.c (.v (.int .i64 22))),(8,.c (.v (.int .i64 16)))] (.vals u),[.b true 149 [.v (.int .i64 0),.v (.string ⟨#[]⟩),.v (.int .i64 0),.v (.bool false)],.b true 149 AM]⟩:=by
 refine Hs.e0 ?_;refine Hs.cT ?_;refine Hs.e1 fun b2=>?_;refine Hs.cn ((18:Int)==n) (fun h=>?_) (fun h=>?_)
 ·obtain rfl:n=18:=(by simpa using h:(18:Int)=n).symm;refine Hs.e0 ?_;exact Hs.rt (v:=.tuple #[IK 18,.bool true]) Tryz.func66 fun w' H=>⟨by rw[CT];rfl,H.only⟩
 have h18:n≠18:=fun e=>by rw[e] at h;simp at h
 refine Hs.e0 ?_;refine Hs.lP ?_;exact Hs.goto (AE Tryz.f66 0) [0,1] [.b true 149 [.v (.int .i64 0),.v (.string ⟨#[]⟩),.v (.int .i64 0),.v (.bool false)],.b true 149 AM] [(0,.c (.v (.int .i64 n))),(2,.c (.p 0 0)),(6,.c (.s 1 0 22 22)),(7,.c (.v (.int .i64 22))),(8,.c (.v (.int .i64 17)))] (by kernel_rfl) (by decide) (by kernel_rfl) (by kernel_rfl) (fun _=>(by kernel_rfl)) (fun u=>ofJ17 n w h1 h2 h3 h4 h5 h6 h7 h8 h9 h10 h11 h12 h13 h14 h15 h17 h18 b0 b1 u)
theorem ofJ15 (n:Int) (w:World) (h1:n≠1) (h2:n≠2) (h3:n≠3) (h4:n≠4) (h5:n≠5) (h6:n≠6) (h7:n≠7) (h8:n≠8) (h9:n≠9) (h10:n≠10) (h11:n≠11) (h12:n≠12) (h13:n≠13) (h14:n≠14) (h15:n≠15) (b0 b1:Nat) (u:Nat→Value):Hs Tryz.prog 66 (fun e w'=>e = .returned (.tuple #[HO n,.bool (isS n)])∧Only [] w w') (Tryz.f66).ntmps w [] [b0,b1] ⟨.no,AE Tryz.f66 0,BI [(0,.c (.v (.int .i64 n))),(2,.c (.p 0 0)),(6,.c (.s 1 0 22 22)),(7,.c (.v (.int .i64 22))),(8,.c (.v (.int .i64 15)))] (.vals u),[.b true 149 [.v (.int .i64 0),.v (.string ⟨#[]⟩),.v (.int .i64 0),.v (.bool false)],.b true 149 AM]⟩:=by
 refine Hs.e0 ?_;refine Hs.cT ?_;refine Hs.e1 fun b2=>?_;refine Hs.cn ((17:Int)==n) (fun h=>?_) (fun h=>?_)
 ·obtain rfl:n=17:=(by simpa using h:(17:Int)=n).symm;refine Hs.e0 ?_;exact Hs.rt (v:=.tuple #[IK 17,.bool true]) Tryz.func66 fun w' H=>⟨by rw[CT];rfl,H.only⟩
 have h17:n≠17:=fun e=>by rw[e] at h;simp at h
 refine Hs.e0 ?_;refine Hs.lP ?_;exact Hs.goto (AE Tryz.f66 0) [0,1] [.b true 149 [.v (.int .i64 0),.v (.string ⟨#[]⟩),.v (.int .i64 0),.v (.bool false)],.b true 149 AM] [(0,.c (.v (.int .i64 n))),(2,.c (.p 0 0)),(6,.c (.s 1 0 22 22)),(7,.c (.v (.int .i64 22))),(8,.c (.v (.int .i64 16)))] (by kernel_rfl) (by decide) (by kernel_rfl) (by kernel_rfl) (fun _=>(by kernel_rfl)) (fun u=>ofJ16 n w h1 h2 h3 h4 h5 h6 h7 h8 h9 h10 h11 h12 h13 h14 h15 h17 b0 b1 u)
theorem ofJ14 (n:Int) (w:World) (h1:n≠1) (h2:n≠2) (h3:n≠3) (h4:n≠4) (h5:n≠5) (h6:n≠6) (h7:n≠7) (h8:n≠8) (h9:n≠9) (h10:n≠10) (h11:n≠11) (h12:n≠12) (h13:n≠13) (h14:n≠14) (b0 b1:Nat) (u:Nat→Value):Hs Tryz.prog 66 (fun e w'=>e = .returned (.tuple #[HO n,.bool (isS n)])∧Only [] w w') (Tryz.f66).ntmps w [] [b0,b1] ⟨.no,AE Tryz.f66 0,BI [(0,.c (.v (.int .i64 n))),(2,.c (.p 0 0)),(6,.c (.s 1 0 22 22)),(7,.c (.v (.int .i64 22))),(8,.c (.v (.int .i64 14)))] (.vals u),[.b true 149 [.v (.int .i64 0),.v (.string ⟨#[]⟩),.v (.int .i64 0),.v (.bool false)],.b true 149 AM]⟩:=by
 refine Hs.e0 ?_;refine Hs.cT ?_;refine Hs.e1 fun b2=>?_;refine Hs.cn ((15:Int)==n) (fun h=>?_) (fun h=>?_)
 ·obtain rfl:n=15:=(by simpa using h:(15:Int)=n).symm;refine Hs.e0 ?_;exact Hs.rt (v:=.tuple #[IK 15,.bool true]) Tryz.func66 fun w' H=>⟨by rw[CT];rfl,H.only⟩
 have h15:n≠15:=fun e=>by rw[e] at h;simp at h
 refine Hs.e0 ?_;refine Hs.lP ?_;exact Hs.goto (AE Tryz.f66 0) [0,1] [.b true 149 [.v (.int .i64 0),.v (.string ⟨#[]⟩),.v (.int .i64 0),.v (.bool false)],.b true 149 AM] [(0,.c (.v (.int .i64 n))),(2,.c (.p 0 0)),(6,.c (.s 1 0 22 22)),(7,.c (.v (.int .i64 22))),(8,.c (.v (.int .i64 15)))] (by kernel_rfl) (by decide) (by kernel_rfl) (by kernel_rfl) (fun _=>(by kernel_rfl)) (fun u=>ofJ15 n w h1 h2 h3 h4 h5 h6 h7 h8 h9 h10 h11 h12 h13 h14 h15 b0 b1 u)
theorem ofJ13 (n:Int) (w:World) (h1:n≠1) (h2:n≠2) (h3:n≠3) (h4:n≠4) (h5:n≠5) (h6:n≠6) (h7:n≠7) (h8:n≠8) (h9:n≠9) (h10:n≠10) (h11:n≠11) (h12:n≠12) (h13:n≠13) (b0 b1:Nat) (u:Nat→Value):Hs Tryz.prog 66 (fun e w'=>e = .returned (.tuple #[HO n,.bool (isS n)])∧Only [] w w') (Tryz.f66).ntmps w [] [b0,b1] ⟨.no,AE Tryz.f66 0,BI [(0,.c (.v (.int .i64 n))),(2,.c (.p 0 0)),(6,.c (.s 1 0 22 22)),(7,.c (.v (.int .i64 22))),(8,.c (.v (.int .i64 13)))] (.vals u),[.b true 149 [.v (.int .i64 0),.v (.string ⟨#[]⟩),.v (.int .i64 0),.v (.bool false)],.b true 149 AM]⟩:=by
 refine Hs.e0 ?_;refine Hs.cT ?_;refine Hs.e1 fun b2=>?_;refine Hs.cn ((14:Int)==n) (fun h=>?_) (fun h=>?_)
 ·obtain rfl:n=14:=(by simpa using h:(14:Int)=n).symm;refine Hs.e0 ?_;exact Hs.rt (v:=.tuple #[IK 14,.bool true]) Tryz.func66 fun w' H=>⟨by rw[CT];rfl,H.only⟩
 have h14:n≠14:=fun e=>by rw[e] at h;simp at h
 refine Hs.e0 ?_;refine Hs.lP ?_;exact Hs.goto (AE Tryz.f66 0) [0,1] [.b true 149 [.v (.int .i64 0),.v (.string ⟨#[]⟩),.v (.int .i64 0),.v (.bool false)],.b true 149 AM] [(0,.c (.v (.int .i64 n))),(2,.c (.p 0 0)),(6,.c (.s 1 0 22 22)),(7,.c (.v (.int .i64 22))),(8,.c (.v (.int .i64 14)))] (by kernel_rfl) (by decide) (by kernel_rfl) (by kernel_rfl) (fun _=>(by kernel_rfl)) (fun u=>ofJ14 n w h1 h2 h3 h4 h5 h6 h7 h8 h9 h10 h11 h12 h13 h14 b0 b1 u)
theorem ofJ12 (n:Int) (w:World) (h1:n≠1) (h2:n≠2) (h3:n≠3) (h4:n≠4) (h5:n≠5) (h6:n≠6) (h7:n≠7) (h8:n≠8) (h9:n≠9) (h10:n≠10) (h11:n≠11) (h12:n≠12) (b0 b1:Nat) (u:Nat→Value):Hs Tryz.prog 66 (fun e w'=>e = .returned (.tuple #[HO n,.bool (isS n)])∧Only [] w w') (Tryz.f66).ntmps w [] [b0,b1] ⟨.no,AE Tryz.f66 0,BI [(0,.c (.v (.int .i64 n))),(2,.c (.p 0 0)),(6,.c (.s 1 0 22 22)),(7,.c (.v (.int .i64 22))),(8,.c (.v (.int .i64 12)))] (.vals u),[.b true 149 [.v (.int .i64 0),.v (.string ⟨#[]⟩),.v (.int .i64 0),.v (.bool false)],.b true 149 AM]⟩:=by
 refine Hs.e0 ?_;refine Hs.cT ?_;refine Hs.e1 fun b2=>?_;refine Hs.cn ((13:Int)==n) (fun h=>?_) (fun h=>?_)
 ·obtain rfl:n=13:=(by simpa using h:(13:Int)=n).symm;refine Hs.e0 ?_;exact Hs.rt (v:=.tuple #[IK 13,.bool true]) Tryz.func66 fun w' H=>⟨by rw[CT];rfl,H.only⟩
 have h13:n≠13:=fun e=>by rw[e] at h;simp at h
 refine Hs.e0 ?_;refine Hs.lP ?_;exact Hs.goto (AE Tryz.f66 0) [0,1] [.b true 149 [.v (.int .i64 0),.v (.string ⟨#[]⟩),.v (.int .i64 0),.v (.bool false)],.b true 149 AM] [(0,.c (.v (.int .i64 n))),(2,.c (.p 0 0)),(6,.c (.s 1 0 22 22)),(7,.c (.v (.int .i64 22))),(8,.c (.v (.int .i64 13)))] (by kernel_rfl) (by decide) (by kernel_rfl) (by kernel_rfl) (fun _=>(by kernel_rfl)) (fun u=>ofJ13 n w h1 h2 h3 h4 h5 h6 h7 h8 h9 h10 h11 h12 h13 b0 b1 u)
theorem ofJ11 (n:Int) (w:World) (h1:n≠1) (h2:n≠2) (h3:n≠3) (h4:n≠4) (h5:n≠5) (h6:n≠6) (h7:n≠7) (h8:n≠8) (h9:n≠9) (h10:n≠10) (h11:n≠11) (b0 b1:Nat) (u:Nat→Value):Hs Tryz.prog 66 (fun e w'=>e = .returned (.tuple #[HO n,.bool (isS n)])∧Only [] w w') (Tryz.f66).ntmps w [] [b0,b1] ⟨.no,AE Tryz.f66 0,BI [(0,.c (.v (.int .i64 n))),(2,.c (.p 0 0)),(6,.c (.s 1 0 22 22)),(7,.c (.v (.int .i64 22))),(8,.c (.v (.int .i64 11)))] (.vals u),[.b true 149 [.v (.int .i64 0),.v (.string ⟨#[]⟩),.v (.int .i64 0),.v (.bool false)],.b true 149 AM]⟩:=by
 refine Hs.e0 ?_;refine Hs.cT ?_;refine Hs.e1 fun b2=>?_;refine Hs.cn ((12:Int)==n) (fun h=>?_) (fun h=>?_)
 ·obtain rfl:n=12:=(by simpa using h:(12:Int)=n).symm;refine Hs.e0 ?_;exact Hs.rt (v:=.tuple #[IK 12,.bool true]) Tryz.func66 fun w' H=>⟨by rw[CT];rfl,H.only⟩
 have h12:n≠12:=fun e=>by rw[e] at h;simp at h
 refine Hs.e0 ?_;refine Hs.lP ?_;exact Hs.goto (AE Tryz.f66 0) [0,1] [.b true 149 [.v (.int .i64 0),.v (.string ⟨#[]⟩),.v (.int .i64 0),.v (.bool false)],.b true 149 AM] [(0,.c (.v (.int .i64 n))),(2,.c (.p 0 0)),(6,.c (.s 1 0 22 22)),(7,.c (.v (.int .i64 22))),(8,.c (.v (.int .i64 12)))] (by kernel_rfl) (by decide) (by kernel_rfl) (by kernel_rfl) (fun _=>(by kernel_rfl)) (fun u=>ofJ12 n w h1 h2 h3 h4 h5 h6 h7 h8 h9 h10 h11 h12 b0 b1 u)
theorem ofJ10 (n:Int) (w:World) (h1:n≠1) (h2:n≠2) (h3:n≠3) (h4:n≠4) (h5:n≠5) (h6:n≠6) (h7:n≠7) (h8:n≠8) (h9:n≠9) (h10:n≠10) (b0 b1:Nat) (u:Nat→Value):Hs Tryz.prog 66 (fun e w'=>e = .returned (.tuple #[HO n,.bool (isS n)])∧Only [] w w') (Tryz.f66).ntmps w [] [b0,b1] ⟨.no,AE Tryz.f66 0,BI [(0,.c (.v (.int .i64 n))),(2,.c (.p 0 0)),(6,.c (.s 1 0 22 22)),(7,.c (.v (.int .i64 22))),(8,.c (.v (.int .i64 10)))] (.vals u),[.b true 149 [.v (.int .i64 0),.v (.string ⟨#[]⟩),.v (.int .i64 0),.v (.bool false)],.b true 149 AM]⟩:=by
 refine Hs.e0 ?_;refine Hs.cT ?_;refine Hs.e1 fun b2=>?_;refine Hs.cn ((11:Int)==n) (fun h=>?_) (fun h=>?_)
 ·obtain rfl:n=11:=(by simpa using h:(11:Int)=n).symm;refine Hs.e0 ?_;exact Hs.rt (v:=.tuple #[IK 11,.bool true]) Tryz.func66 fun w' H=>⟨by rw[CT];rfl,H.only⟩
 have h11:n≠11:=fun e=>by rw[e] at h;simp at h
 refine Hs.e0 ?_;refine Hs.lP ?_;exact Hs.goto (AE Tryz.f66 0) [0,1] [.b true 149 [.v (.int .i64 0),.v (.string ⟨#[]⟩),.v (.int .i64 0),.v (.bool false)],.b true 149 AM] [(0,.c (.v (.int .i64 n))),(2,.c (.p 0 0)),(6,.c (.s 1 0 22 22)),(7,.c (.v (.int .i64 22))),(8,.c (.v (.int .i64 11)))] (by kernel_rfl) (by decide) (by kernel_rfl) (by kernel_rfl) (fun _=>(by kernel_rfl)) (fun u=>ofJ11 n w h1 h2 h3 h4 h5 h6 h7 h8 h9 h10 h11 b0 b1 u)
theorem ofJ9 (n:Int) (w:World) (h1:n≠1) (h2:n≠2) (h3:n≠3) (h4:n≠4) (h5:n≠5) (h6:n≠6) (h7:n≠7) (h8:n≠8) (h9:n≠9) (b0 b1:Nat) (u:Nat→Value):Hs Tryz.prog 66 (fun e w'=>e = .returned (.tuple #[HO n,.bool (isS n)])∧Only [] w w') (Tryz.f66).ntmps w [] [b0,b1] ⟨.no,AE Tryz.f66 0,BI [(0,.c (.v (.int .i64 n))),(2,.c (.p 0 0)),(6,.c (.s 1 0 22 22)),(7,.c (.v (.int .i64 22))),(8,.c (.v (.int .i64 9)))] (.vals u),[.b true 149 [.v (.int .i64 0),.v (.string ⟨#[]⟩),.v (.int .i64 0),.v (.bool false)],.b true 149 AM]⟩:=by
 refine Hs.e0 ?_;refine Hs.cT ?_;refine Hs.e1 fun b2=>?_;refine Hs.cn ((10:Int)==n) (fun h=>?_) (fun h=>?_)
 ·obtain rfl:n=10:=(by simpa using h:(10:Int)=n).symm;refine Hs.e0 ?_;exact Hs.rt (v:=.tuple #[IK 10,.bool true]) Tryz.func66 fun w' H=>⟨by rw[CT];rfl,H.only⟩
 have h10:n≠10:=fun e=>by rw[e] at h;simp at h
 refine Hs.e0 ?_;refine Hs.lP ?_;exact Hs.goto (AE Tryz.f66 0) [0,1] [.b true 149 [.v (.int .i64 0),.v (.string ⟨#[]⟩),.v (.int .i64 0),.v (.bool false)],.b true 149 AM] [(0,.c (.v (.int .i64 n))),(2,.c (.p 0 0)),(6,.c (.s 1 0 22 22)),(7,.c (.v (.int .i64 22))),(8,.c (.v (.int .i64 10)))] (by kernel_rfl) (by decide) (by kernel_rfl) (by kernel_rfl) (fun _=>(by kernel_rfl)) (fun u=>ofJ10 n w h1 h2 h3 h4 h5 h6 h7 h8 h9 h10 b0 b1 u)
theorem ofJ8 (n:Int) (w:World) (h1:n≠1) (h2:n≠2) (h3:n≠3) (h4:n≠4) (h5:n≠5) (h6:n≠6) (h7:n≠7) (h8:n≠8) (b0 b1:Nat) (u:Nat→Value):Hs Tryz.prog 66 (fun e w'=>e = .returned (.tuple #[HO n,.bool (isS n)])∧Only [] w w') (Tryz.f66).ntmps w [] [b0,b1] ⟨.no,AE Tryz.f66 0,BI [(0,.c (.v (.int .i64 n))),(2,.c (.p 0 0)),(6,.c (.s 1 0 22 22)),(7,.c (.v (.int .i64 22))),(8,.c (.v (.int .i64 8)))] (.vals u),[.b true 149 [.v (.int .i64 0),.v (.string ⟨#[]⟩),.v (.int .i64 0),.v (.bool false)],.b true 149 AM]⟩:=by
 refine Hs.e0 ?_;refine Hs.cT ?_;refine Hs.e1 fun b2=>?_;refine Hs.cn ((9:Int)==n) (fun h=>?_) (fun h=>?_)
 ·obtain rfl:n=9:=(by simpa using h:(9:Int)=n).symm;refine Hs.e0 ?_;exact Hs.rt (v:=.tuple #[IK 9,.bool true]) Tryz.func66 fun w' H=>⟨by rw[CT];rfl,H.only⟩
 have h9:n≠9:=fun e=>by rw[e] at h;simp at h
 refine Hs.e0 ?_;refine Hs.lP ?_;exact Hs.goto (AE Tryz.f66 0) [0,1] [.b true 149 [.v (.int .i64 0),.v (.string ⟨#[]⟩),.v (.int .i64 0),.v (.bool false)],.b true 149 AM] [(0,.c (.v (.int .i64 n))),(2,.c (.p 0 0)),(6,.c (.s 1 0 22 22)),(7,.c (.v (.int .i64 22))),(8,.c (.v (.int .i64 9)))] (by kernel_rfl) (by decide) (by kernel_rfl) (by kernel_rfl) (fun _=>(by kernel_rfl)) (fun u=>ofJ9 n w h1 h2 h3 h4 h5 h6 h7 h8 h9 b0 b1 u)
theorem ofJ7 (n:Int) (w:World) (h1:n≠1) (h2:n≠2) (h3:n≠3) (h4:n≠4) (h5:n≠5) (h6:n≠6) (h7:n≠7) (b0 b1:Nat) (u:Nat→Value):Hs Tryz.prog 66 (fun e w'=>e = .returned (.tuple #[HO n,.bool (isS n)])∧Only [] w w') (Tryz.f66).ntmps w [] [b0,b1] ⟨.no,AE Tryz.f66 0,BI [(0,.c (.v (.int .i64 n))),(2,.c (.p 0 0)),(6,.c (.s 1 0 22 22)),(7,.c (.v (.int .i64 22))),(8,.c (.v (.int .i64 7)))] (.vals u),[.b true 149 [.v (.int .i64 0),.v (.string ⟨#[]⟩),.v (.int .i64 0),.v (.bool false)],.b true 149 AM]⟩:=by
 refine Hs.e0 ?_;refine Hs.cT ?_;refine Hs.e1 fun b2=>?_;refine Hs.cn ((8:Int)==n) (fun h=>?_) (fun h=>?_)
 ·obtain rfl:n=8:=(by simpa using h:(8:Int)=n).symm;refine Hs.e0 ?_;exact Hs.rt (v:=.tuple #[IK 8,.bool true]) Tryz.func66 fun w' H=>⟨by rw[CT];rfl,H.only⟩
 have h8:n≠8:=fun e=>by rw[e] at h;simp at h
 refine Hs.e0 ?_;refine Hs.lP ?_;exact Hs.goto (AE Tryz.f66 0) [0,1] [.b true 149 [.v (.int .i64 0),.v (.string ⟨#[]⟩),.v (.int .i64 0),.v (.bool false)],.b true 149 AM] [(0,.c (.v (.int .i64 n))),(2,.c (.p 0 0)),(6,.c (.s 1 0 22 22)),(7,.c (.v (.int .i64 22))),(8,.c (.v (.int .i64 8)))] (by kernel_rfl) (by decide) (by kernel_rfl) (by kernel_rfl) (fun _=>(by kernel_rfl)) (fun u=>ofJ8 n w h1 h2 h3 h4 h5 h6 h7 h8 b0 b1 u)
theorem ofJ6 (n:Int) (w:World) (h1:n≠1) (h2:n≠2) (h3:n≠3) (h4:n≠4) (h5:n≠5) (h6:n≠6) (b0 b1:Nat) (u:Nat→Value):Hs Tryz.prog 66 (fun e w'=>e = .returned (.tuple #[HO n,.bool (isS n)])∧Only [] w w') (Tryz.f66).ntmps w [] [b0,b1] ⟨.no,AE Tryz.f66 0,BI [(0,.c (.v (.int .i64 n))),(2,.c (.p 0 0)),(6,.c (.s 1 0 22 22)),(7,.c (.v (.int .i64 22))),(8,.c (.v (.int .i64 6)))] (.vals u),[.b true 149 [.v (.int .i64 0),.v (.string ⟨#[]⟩),.v (.int .i64 0),.v (.bool false)],.b true 149 AM]⟩:=by
 refine Hs.e0 ?_;refine Hs.cT ?_;refine Hs.e1 fun b2=>?_;refine Hs.cn ((7:Int)==n) (fun h=>?_) (fun h=>?_)
 ·obtain rfl:n=7:=(by simpa using h:(7:Int)=n).symm;refine Hs.e0 ?_;exact Hs.rt (v:=.tuple #[IK 7,.bool true]) Tryz.func66 fun w' H=>⟨by rw[CT];rfl,H.only⟩
 have h7:n≠7:=fun e=>by rw[e] at h;simp at h
 refine Hs.e0 ?_;refine Hs.lP ?_;exact Hs.goto (AE Tryz.f66 0) [0,1] [.b true 149 [.v (.int .i64 0),.v (.string ⟨#[]⟩),.v (.int .i64 0),.v (.bool false)],.b true 149 AM] [(0,.c (.v (.int .i64 n))),(2,.c (.p 0 0)),(6,.c (.s 1 0 22 22)),(7,.c (.v (.int .i64 22))),(8,.c (.v (.int .i64 7)))] (by kernel_rfl) (by decide) (by kernel_rfl) (by kernel_rfl) (fun _=>(by kernel_rfl)) (fun u=>ofJ7 n w h1 h2 h3 h4 h5 h6 h7 b0 b1 u)
theorem ofJ5 (n:Int) (w:World) (h1:n≠1) (h2:n≠2) (h3:n≠3) (h4:n≠4) (h5:n≠5) (b0 b1:Nat) (u:Nat→Value):Hs Tryz.prog 66 (fun e w'=>e = .returned (.tuple #[HO n,.bool (isS n)])∧Only [] w w') (Tryz.f66).ntmps w [] [b0,b1] ⟨.no,AE Tryz.f66 0,BI [(0,.c (.v (.int .i64 n))),(2,.c (.p 0 0)),(6,.c (.s 1 0 22 22)),(7,.c (.v (.int .i64 22))),(8,.c (.v (.int .i64 5)))] (.vals u),[.b true 149 [.v (.int .i64 0),.v (.string ⟨#[]⟩),.v (.int .i64 0),.v (.bool false)],.b true 149 AM]⟩:=by
 refine Hs.e0 ?_;refine Hs.cT ?_;refine Hs.e1 fun b2=>?_;refine Hs.cn ((6:Int)==n) (fun h=>?_) (fun h=>?_)
 ·obtain rfl:n=6:=(by simpa using h:(6:Int)=n).symm;refine Hs.e0 ?_;exact Hs.rt (v:=.tuple #[IK 6,.bool true]) Tryz.func66 fun w' H=>⟨by rw[CT];rfl,H.only⟩
 have h6:n≠6:=fun e=>by rw[e] at h;simp at h
 refine Hs.e0 ?_;refine Hs.lP ?_;exact Hs.goto (AE Tryz.f66 0) [0,1] [.b true 149 [.v (.int .i64 0),.v (.string ⟨#[]⟩),.v (.int .i64 0),.v (.bool false)],.b true 149 AM] [(0,.c (.v (.int .i64 n))),(2,.c (.p 0 0)),(6,.c (.s 1 0 22 22)),(7,.c (.v (.int .i64 22))),(8,.c (.v (.int .i64 6)))] (by kernel_rfl) (by decide) (by kernel_rfl) (by kernel_rfl) (fun _=>(by kernel_rfl)) (fun u=>ofJ6 n w h1 h2 h3 h4 h5 h6 b0 b1 u)
theorem ofJ4 (n:Int) (w:World) (h1:n≠1) (h2:n≠2) (h3:n≠3) (h4:n≠4) (b0 b1:Nat) (u:Nat→Value):Hs Tryz.prog 66 (fun e w'=>e = .returned (.tuple #[HO n,.bool (isS n)])∧Only [] w w') (Tryz.f66).ntmps w [] [b0,b1] ⟨.no,AE Tryz.f66 0,BI [(0,.c (.v (.int .i64 n))),(2,.c (.p 0 0)),(6,.c (.s 1 0 22 22)),(7,.c (.v (.int .i64 22))),(8,.c (.v (.int .i64 4)))] (.vals u),[.b true 149 [.v (.int .i64 0),.v (.string ⟨#[]⟩),.v (.int .i64 0),.v (.bool false)],.b true 149 AM]⟩:=by
 refine Hs.e0 ?_;refine Hs.cT ?_;refine Hs.e1 fun b2=>?_;refine Hs.cn ((5:Int)==n) (fun h=>?_) (fun h=>?_)
 ·obtain rfl:n=5:=(by simpa using h:(5:Int)=n).symm;refine Hs.e0 ?_;exact Hs.rt (v:=.tuple #[IK 5,.bool true]) Tryz.func66 fun w' H=>⟨by rw[CT];rfl,H.only⟩
 have h5:n≠5:=fun e=>by rw[e] at h;simp at h
 refine Hs.e0 ?_;refine Hs.lP ?_;exact Hs.goto (AE Tryz.f66 0) [0,1] [.b true 149 [.v (.int .i64 0),.v (.string ⟨#[]⟩),.v (.int .i64 0),.v (.bool false)],.b true 149 AM] [(0,.c (.v (.int .i64 n))),(2,.c (.p 0 0)),(6,.c (.s 1 0 22 22)),(7,.c (.v (.int .i64 22))),(8,.c (.v (.int .i64 5)))] (by kernel_rfl) (by decide) (by kernel_rfl) (by kernel_rfl) (fun _=>(by kernel_rfl)) (fun u=>ofJ5 n w h1 h2 h3 h4 h5 b0 b1 u)
theorem ofJ3 (n:Int) (w:World) (h1:n≠1) (h2:n≠2) (h3:n≠3) (b0 b1:Nat) (u:Nat→Value):Hs Tryz.prog 66 (fun e w'=>e = .returned (.tuple #[HO n,.bool (isS n)])∧Only [] w w') (Tryz.f66).ntmps w [] [b0,b1] ⟨.no,AE Tryz.f66 0,BI [(0,.c (.v (.int .i64 n))),(2,.c (.p 0 0)),(6,.c (.s 1 0 22 22)),(7,.c (.v (.int .i64 22))),(8,.c (.v (.int .i64 3)))] (.vals u),[.b true 149 [.v (.int .i64 0),.v (.string ⟨#[]⟩),.v (.int .i64 0),.v (.bool false)],.b true 149 AM]⟩:=by
 refine Hs.e0 ?_;refine Hs.cT ?_;refine Hs.e1 fun b2=>?_;refine Hs.cn ((4:Int)==n) (fun h=>?_) (fun h=>?_)
 ·obtain rfl:n=4:=(by simpa using h:(4:Int)=n).symm;refine Hs.e0 ?_;exact Hs.rt (v:=.tuple #[IK 4,.bool true]) Tryz.func66 fun w' H=>⟨by rw[CT];rfl,H.only⟩
 have h4:n≠4:=fun e=>by rw[e] at h;simp at h
 refine Hs.e0 ?_;refine Hs.lP ?_;exact Hs.goto (AE Tryz.f66 0) [0,1] [.b true 149 [.v (.int .i64 0),.v (.string ⟨#[]⟩),.v (.int .i64 0),.v (.bool false)],.b true 149 AM] [(0,.c (.v (.int .i64 n))),(2,.c (.p 0 0)),(6,.c (.s 1 0 22 22)),(7,.c (.v (.int .i64 22))),(8,.c (.v (.int .i64 4)))] (by kernel_rfl) (by decide) (by kernel_rfl) (by kernel_rfl) (fun _=>(by kernel_rfl)) (fun u=>ofJ4 n w h1 h2 h3 h4 b0 b1 u)
theorem ofJ2 (n:Int) (w:World) (h1:n≠1) (h2:n≠2) (b0 b1:Nat) (u:Nat→Value):Hs Tryz.prog 66 (fun e w'=>e = .returned (.tuple #[HO n,.bool (isS n)])∧Only [] w w') (Tryz.f66).ntmps w [] [b0,b1] ⟨.no,AE Tryz.f66 0,BI [(0,.c (.v (.int .i64 n))),(2,.c (.p 0 0)),(6,.c (.s 1 0 22 22)),(7,.c (.v (.int .i64 22))),(8,.c (.v (.int .i64 2)))] (.vals u),[.b true 149 [.v (.int .i64 0),.v (.string ⟨#[]⟩),.v (.int .i64 0),.v (.bool false)],.b true 149 AM]⟩:=by
 refine Hs.e0 ?_;refine Hs.cT ?_;refine Hs.e1 fun b2=>?_;refine Hs.cn ((3:Int)==n) (fun h=>?_) (fun h=>?_)
 ·obtain rfl:n=3:=(by simpa using h:(3:Int)=n).symm;refine Hs.e0 ?_;exact Hs.rt (v:=.tuple #[IK 3,.bool true]) Tryz.func66 fun w' H=>⟨by rw[CT];rfl,H.only⟩
 have h3:n≠3:=fun e=>by rw[e] at h;simp at h
 refine Hs.e0 ?_;refine Hs.lP ?_;exact Hs.goto (AE Tryz.f66 0) [0,1] [.b true 149 [.v (.int .i64 0),.v (.string ⟨#[]⟩),.v (.int .i64 0),.v (.bool false)],.b true 149 AM] [(0,.c (.v (.int .i64 n))),(2,.c (.p 0 0)),(6,.c (.s 1 0 22 22)),(7,.c (.v (.int .i64 22))),(8,.c (.v (.int .i64 3)))] (by kernel_rfl) (by decide) (by kernel_rfl) (by kernel_rfl) (fun _=>(by kernel_rfl)) (fun u=>ofJ3 n w h1 h2 h3 b0 b1 u)
theorem ofJ1 (n:Int) (w:World) (h1:n≠1) (b0 b1:Nat) (u:Nat→Value):Hs Tryz.prog 66 (fun e w'=>e = .returned (.tuple #[HO n,.bool (isS n)])∧Only [] w w') (Tryz.f66).ntmps w [] [b0,b1] ⟨.no,AE Tryz.f66 0,BI [(0,.c (.v (.int .i64 n))),(2,.c (.p 0 0)),(6,.c (.s 1 0 22 22)),(7,.c (.v (.int .i64 22))),(8,.c (.v (.int .i64 1)))] (.vals u),[.b true 149 [.v (.int .i64 0),.v (.string ⟨#[]⟩),.v (.int .i64 0),.v (.bool false)],.b true 149 AM]⟩:=by
 refine Hs.e0 ?_;refine Hs.cT ?_;refine Hs.e1 fun b2=>?_;refine Hs.cn ((2:Int)==n) (fun h=>?_) (fun h=>?_)
 ·obtain rfl:n=2:=(by simpa using h:(2:Int)=n).symm;refine Hs.e0 ?_;exact Hs.rt (v:=.tuple #[IK 2,.bool true]) Tryz.func66 fun w' H=>⟨by rw[CT];rfl,H.only⟩
 have h2:n≠2:=fun e=>by rw[e] at h;simp at h
 refine Hs.e0 ?_;refine Hs.lP ?_;exact Hs.goto (AE Tryz.f66 0) [0,1] [.b true 149 [.v (.int .i64 0),.v (.string ⟨#[]⟩),.v (.int .i64 0),.v (.bool false)],.b true 149 AM] [(0,.c (.v (.int .i64 n))),(2,.c (.p 0 0)),(6,.c (.s 1 0 22 22)),(7,.c (.v (.int .i64 22))),(8,.c (.v (.int .i64 2)))] (by kernel_rfl) (by decide) (by kernel_rfl) (by kernel_rfl) (fun _=>(by kernel_rfl)) (fun u=>ofJ2 n w h1 h2 b0 b1 u)
theorem ofJ0 (n:Int) (w:World) (b0 b1:Nat) (u:Nat→Value):Hs Tryz.prog 66 (fun e w'=>e = .returned (.tuple #[HO n,.bool (isS n)])∧Only [] w w') (Tryz.f66).ntmps w [] [b0,b1] ⟨.no,AE Tryz.f66 0,BI [(0,.c (.v (.int .i64 n))),(2,.c (.p 0 0)),(6,.c (.s 1 0 22 22)),(7,.c (.v (.int .i64 22))),(8,.c (.v (.int .i64 0)))] (.vals u),[.b true 149 [.v (.int .i64 0),.v (.string ⟨#[]⟩),.v (.int .i64 0),.v (.bool false)],.b true 149 AM]⟩:=by
 refine Hs.e0 ?_;refine Hs.cT ?_;refine Hs.e1 fun b2=>?_;refine Hs.cn ((1:Int)==n) (fun h=>?_) (fun h=>?_)
 ·obtain rfl:n=1:=(by simpa using h:(1:Int)=n).symm;refine Hs.e0 ?_;exact Hs.rt (v:=.tuple #[IK 1,.bool true]) Tryz.func66 fun w' H=>⟨by rw[CT];rfl,H.only⟩
 have h1:n≠1:=fun e=>by rw[e] at h;simp at h
 refine Hs.e0 ?_;refine Hs.lP ?_;exact Hs.goto (AE Tryz.f66 0) [0,1] [.b true 149 [.v (.int .i64 0),.v (.string ⟨#[]⟩),.v (.int .i64 0),.v (.bool false)],.b true 149 AM] [(0,.c (.v (.int .i64 n))),(2,.c (.p 0 0)),(6,.c (.s 1 0 22 22)),(7,.c (.v (.int .i64 22))),(8,.c (.v (.int .i64 1)))] (by kernel_rfl) (by decide) (by kernel_rfl) (by kernel_rfl) (fun _=>(by kernel_rfl)) (fun u=>ofJ1 n w h1 b0 b1 u)
theorem of_any18 (n:Int) (w:World):Calls Tryz.prog 66 #[.int .i64 n] w fun e w'=>e = .returned (.tuple #[HO n,.bool (isS n)])∧Only [] w w':=by
 refine Hs.en Tryz.func66 [] [] [] [.c (.v (.int .i64 n))] (Mem.start0 w) ?_;refine Hs.e1 fun b0=>?_;refine Hs.inl Tryz.func65 [] (by kernel_rfl) (by kernel_rfl) ?_;refine Hs.e1 fun b1=>?_;refine Hs.retI Tryz.func65 (by kernel_rfl) (by kernel_rfl) (by kernel_rfl) ?_;refine Hs.e0 ?_;refine Hs.lP ?_;exact Hs.goto (AE Tryz.f66 0) [0,1] [.b true 149 [.v (.int .i64 0),.v (.string ⟨#[]⟩),.v (.int .i64 0),.v (.bool false)],.b true 149 AM] [(0,.c (.v (.int .i64 n))),(2,.c (.p 0 0)),(6,.c (.s 1 0 22 22)),(7,.c (.v (.int .i64 22))),(8,.c (.v (.int .i64 0)))] (by kernel_rfl) (by decide) (by kernel_rfl) (by kernel_rfl) (fun _=>(by kernel_rfl)) (fun u=>ofJ0 n w b0 b1 u)
theorem bJ (n:Int) (w:World):Calls Tryz.prog 38 #[.int .i64 n] w fun e w'=>e = .returned (.bool (CL n))∧Only [] w w':=by
 refine Hs.en Tryz.func38 [] [] [] [.c (.v (.int .i64 n))] (Mem.start0 w) ?_;refine Hs.e0 ?_;refine Hs.cV (v:=.tuple #[IK n,.bool (isS n)]) (fun w' H=>by rw[←CT];exact of_any18 n w') ?_;refine Hs.e1 fun b0=>?_;exact Hs.rt (v:=.bool (CL n)) Tryz.func38 fun w' H=>⟨rfl,H.only⟩
theorem askX {s:SS} {z:SS×AC} {nam:ByteArray} {l:List Int} (hs:s.env=[]) (hz:z.1.env=[]) (hl: ∀x∈l,0≤x∧x<256) (h0:0<l.length) (hn:l.length≤100) (hdec: ∀x E,BA nam l x E→E=0∧BZ s x 0 psC=z) (A:Option Addr) (cap:Nat) (B:Option Addr) (c:Nat) (pb:Nat) (w:World) (i0:Int) (h00:w.cell? ⟨0,0,none⟩=some (.int .i64 i0)) (hB:RdX cu8 w B l) (hc1:l.length≤c) (hc2:c≤maxLen) (hp:RdX cPr w (some ⟨pb,0,none⟩) psC) :
  Calls Tryz.prog 11 #[s.val A cap,.string nam,.slice B l.length c,.slice (some ⟨pb,0,none⟩) 2 2] w fun e w'=>∃x:Option Addr×Nat,e = .returned (.tuple #[z.1.val x.1 x.2,z.2.val])∧Only [] w w'∧True:=by
 refine(WM s A cap nam B c l (some ⟨pb,0,none⟩) 2 psC w i0 h00 (fun h=>by rw[hs] at h;exact absurd h (by simp)) (by rw[hs];exact Nat.zero_le _) (YU hB) hl (by omega) hc1 hc2 (fun a ha=>by
  obtain⟨b,off,e,hlt,_⟩:=hB h0;rw[ha] at e;injection e with e;rw[e];exact hlt) hp (by decide)).mono fun e w' h=>?_
 obtain⟨O,m,E,A',cap',hD,he,_⟩:=h;obtain⟨rfl,hm⟩:=hdec m E hD;rw[hm] at he;exact⟨(A',cap'),he,O,trivial⟩
theorem ZZ (w:World) (i0:Int) (h00:w.cell? ⟨0,0,none⟩=some (.int .i64 i0)):Calls Tryz.prog 8 #[] w fun e w'=>e = .returned (.bool true)∧Only [] w w':=by
 refine Hs.en Tryz.func8 [] [] [] [] (Mem.start0 w) ?_;refine Hs.e1 fun b0=>?_;refine Hs.callS (cf:=cu8) (E:=5) (size:=1) (fun A cap=>.tuple #[.string ⟨#[101,120,101,99]⟩,.slice A 9 cap,.int .i64 0]) [0,0,0,5,99,97,116,32,120] 9 rfl (fun w' H=>XH w' (aO w' exeR (.inl rfl)) (by decide) (by decide) (by decide) OK WQ) (by kernel_rfl) (by kernel_rfl) fun B1 c1 h1 h2=>?_;refine Hs.e0 ?_;refine Hs.callS (cf:=cu8) (E:=5) (size:=1) (fun A cap=>.tuple #[.string ⟨#[115,105,103,110,97,108]⟩,.slice A 7 cap,.int .i64 0]) [0,0,0,3,73,78,84] 7 rfl (fun w' H=>XH w' (aO w' sigR (.inr rfl)) (by decide) (by decide) (by decide) PS XN) (by kernel_rfl) (by kernel_rfl) fun B2 c2 h3 h4=>?_;refine Hs.e0 ?_;refine Hs.callX (v:=fun x:Option Addr×Nat=>.tuple #[SS.val zS1 x.1 x.2,AC.val ⟨true,1,0,0,0,0,0,0⟩]) (Q:=fun _=>True) (fun w' H=>askX (s:=zS) (z:=(zS1,⟨true,1,0,0,0,0,0,0⟩)) rfl rfl (by decide) (by decide) (by decide) (fun x E h=>⟨(TG h).1,exA27 (TG h).2.1 (TG h).2.2⟩) none 0 B1 c1 b0 w' i0 (CN H.only h00) (H.rdX 1 (A:=B1) (cap:=c1) (E:=5) (size:=1) (l:=[0,0,0,5,99,97,116,32,120]) rfl (by kernel_rfl)) h1 h2 (H.rdB (gs:=psC) 0 (wr:=true) (T:=81) (cs:=psC.flatMap PR.sc) (by kernel_rfl) rfl)) (by kernel_rfl) fun x1 _=>?_;obtain⟨A1,p1⟩:=x1;refine Hs.e2 fun b3 b4=>?_;refine Hs.callX (v:=fun x:Option Addr×Nat=>.tuple #[SS.val zS x.1 x.2,AC.val noA]) (Q:=fun _=>True) (fun w' H=>askX (s:=zS) (z:=(zS,noA)) rfl rfl (by decide) (by decide) (by decide) (fun x E h=>⟨(KU h).1,exB27 (KU h).2.1 (KU h).2.2⟩) none 0 B2 c2 b0 w' i0 (CN H.only h00) (H.rdX 2 (A:=B2) (cap:=c2) (E:=5) (size:=1) (l:=[0,0,0,3,73,78,84]) rfl (by kernel_rfl)) h3 h4 (H.rdB (gs:=psC) 0 (wr:=true) (T:=81) (cs:=psC.flatMap PR.sc) (by kernel_rfl) rfl)) (by kernel_rfl) fun x2 _=>?_;obtain⟨A2,p2⟩:=x2;refine Hs.e2 fun b5 b6=>?_;refine Hs.callX (v:=fun x:Option Addr×Nat=>.tuple #[SS.val zS1 x.1 x.2,AC.val ⟨true,3,0,2,0,0,0,0⟩]) (Q:=fun _=>True) (fun w' H=>askX (s:=zS1) (z:=(zS1,⟨true,3,0,2,0,0,0,0⟩)) rfl rfl (by decide) (by decide) (by decide) (fun x E h=>⟨(KU h).1,exC27 (KU h).2.1 (KU h).2.2⟩) A1 p1 B2 c2 b0 w' i0 (CN H.only h00) (H.rdX 2 (A:=B2) (cap:=c2) (E:=5) (size:=1) (l:=[0,0,0,3,73,78,84]) rfl (by kernel_rfl)) h3 h4 (H.rdB (gs:=psC) 0 (wr:=true) (T:=81) (cs:=psC.flatMap PR.sc) (by kernel_rfl) rfl)) (by kernel_rfl) fun x3 _=>?_;obtain⟨A3,p3⟩:=x3;refine Hs.e2 fun b7 b8=>?_;refine Hs.cV (v:=RQ.val { AK with kind:=10,text:=busT,on:=true }) (fun w' H=>by have:=QC 2007 w';rw[end2007] at this;exact this) ?_;refine Hs.e1 fun b9=>?_;refine Hs.eg [2,7,12,16,21,26,31,36,41,46] ?_;refine Hs.cV (v:=RQ.val { AK with kind:=9,code:=3 }) (fun w' H=>by have:=QC 3 w';rw[end3] at this;exact this) ?_;refine Hs.eg [2,7,12,16,21,26,31,36,41,46] ?_;refine Hs.cV (v:=RQ.val { AK with kind:=10,text:=⟨#[73,78,84]⟩ }) (fun w' H=>by have:=QC 1002 w';rw[end1002] at this;exact this) ?_;refine Hs.eg [2,7,12,16,21,26,31,36,41,46] ?_;exact Hs.rt (v:=.bool true) Tryz.func8 fun w' H=>⟨rfl,H.only⟩
theorem GU {w w0:World} {L β:List Nat} {hp:List HB} {E size:Nat} (H:Mem w0 L β hp w) (k:Nat) {A:Option Addr} {cap n:Nat} {vs:List Value} (hk:hp[k]? = some (.s A cap n E size vs)): ∀a,A=some a→a.block<w.heap.size:=fun a ha=>by
 subst ha;exact HB.lies_lt (H.lies k _ hk) rfl
end Go.Proofs.YtdplnedpbkpgpaaGreatDoor
namespace Go.Proofs.YtdplnedpbkpgpaaGreatDoor
open Go.RowKit Go.MapKept
section
variable {κ : Type} [DecidableEq κ]
end
section
variable {P : Program} {f : FuncId} {R : Ending → World → Prop} {n : Nat} {w0 : World} {L : List Nat} {β : List Nat} {m : SM}
variable {κ : Type} [DecidableEq κ]
variable {T kt et : TypeId} {z : Value} {ke : κ → Value}
end
end Go.Proofs.YtdplnedpbkpgpaaGreatDoor
namespace Go.Proofs.YtdplnedpbkpgpaaGreatDoor
open Go.RowKit Go.MapKept
theorem AR {a b:ByteArray}:(a.toList==b.toList)=true↔a=b:=by
 rw[ByteArray.toList_eq,ByteArray.toList_eq];constructor
 ·intro h;have h1:=eq_of_beq h;obtain⟨x⟩:=a;obtain⟨y⟩:=b;have h2:x.toList=y.toList:=h1;rw[Array.toList_inj] at h2;rw[h2]
 ·intro h;subst h;exact beq_self_eq_true _
end Go.Proofs.YtdplnedpbkpgpaaGreatDoor
namespace Go.Proofs.YtdplnedpbkpgpaaGreatDoor
open Go.RowKit
structure OP9 where
  k : Int
  a : Int
  b : Int
  t : ByteArray
def cOP (x:OP9):List Value:=[.int .i64 x.k,.int .i64 x.a,.int .i64 x.b,.string x.t]
def OP9.sc (x:OP9):List SC:=[.v (.int .i64 x.k),.v (.int .i64 x.a),.v (.int .i64 x.b),.v (.string x.t)]
structure PG where
  n : ByteArray
  A : Option Addr
  c : Nat
  ops : List OP9
def cPG (x:PG):List Value:=[.string x.n,.slice x.A x.ops.length x.c]
def PG.sc (x:PG):List SC:=[.v (.string x.n),.v (.slice x.A x.ops.length x.c)]
def PG.m (x:PG):ByteArray×List OP9:=(x.n,x.ops)
def PG.pr (x:PG):PR:=⟨x.n,x.A,x.c,x.ops.length⟩
theorem cPG_pr (x:PG):cPr x.pr=cPG x:=rfl
theorem flat_pr (l:List PG):(l.map PG.pr).flatMap cPr=l.flatMap cPG:=by
 induction l with
 |nil=>rfl
 |cons x l ih=>rw[List.map_cons,List.flatMap_cons,List.flatMap_cons,ih,cPG_pr]
theorem rdX_pr {w:World} {A:Option Addr} {l:List PG} (h:RdX cPG w A l):RdX cPr w A (l.map PG.pr):=fun h0=>by
 obtain⟨b,off,e,h1,h2⟩:=h (by rw[List.length_map] at h0;exact h0);exact⟨b,off,e,h1,by rw[flat_pr];exact h2⟩
theorem OH (x:OP9):(cOP x).length=4:=rfl
theorem MM (x:PG):(cPG x).length=2:=rfl
theorem cOP_one (x:OP9): ∀u∈cOP x,u.oneCell'=true:=by
 intro u hu;simp only[cOP,List.mem_cons,List.not_mem_nil,or_false] at hu;rcases hu with rfl|rfl|rfl|rfl<;>rfl
theorem cPG_one (x:PG): ∀u∈cPG x,u.oneCell'=true:=by
 intro u hu;simp only[cPG,List.mem_cons,List.not_mem_nil,or_false] at hu;rcases hu with rfl|rfl<;>rfl
def PgOk (w:World) (x:PG):Prop:=RdX cOP w x.A x.ops∧x.ops.length≤x.c∧x.c≤maxLen
theorem PgOk.only {w w':World} {x:PG} (h:PgOk w x) (O:Only [] w w'):PgOk w' x:=⟨h.1.only O,h.2⟩
structure Pgs (w : World) (A : Option Addr) (c : Nat) (l : List PG) : Prop where
  rd : RdX cPG w A l
  le : l.length ≤ c
  max : c ≤ maxLen
  all : ∀ x ∈ l, PgOk w x
theorem Pgs.only {w w':World} {A:Option Addr} {c:Nat} {l:List PG} (h:Pgs w A c l) (O:Only [] w w'):Pgs w' A c l:=⟨h.rd.only O,h.le,h.max,fun x hx=>(h.all x hx).only O⟩
structure PgFew (l : List PG) : Prop where
  len : l.length ≤ 3518437208875
  ops : ∀ x ∈ l, x.ops.length ≤ 3518437208875
abbrev PX:=Option Addr×Nat×List PG
def PgsP (ps:List PG) (z:PX) (w:World):Prop:=Pgs w z.1 z.2.1 z.2.2∧z.2.2.map PG.m=ps.map PG.m
theorem PgsP.len {ps:List PG} {z:PX} {w:World} (h:PgsP ps z w):z.2.2.length=ps.length:=by simpa using congrArg List.length h.2
abbrev PW (ps:List PG) (w:World):Ending→World→Prop:=NewX w (fun z:PX=>.slice z.1 ps.length z.2.1) (PgsP ps)
theorem Nx.pgs {ps:List PG} {w w1 w':World} {L1 β:List Nat} {hp:List HB} {D1:World→Prop} {A:Option Addr} {c:Nat} {outs:List PG} (C:Nx w w1 L1 D1) (H:Mem w1 L1 β hp w') (q: ∀w,D1 w→PgsP ps (A,c,outs) w):PW ps w (.returned (.slice A ps.length c)) w':=
 ⟨(A,c,outs),rfl,C.only H,fun L hL=>(C.fin H L fun x hx=>.inl (hL x hx)).imp fun w h=>q w h⟩
theorem elemLp:ElemT Tryz.prog 35 94 2 (Tryz.prog.bytesOf 94):=FV (z:=.agg #[.string ⟨#[]⟩,.slice none 0 0]) (by kernel_rfl) (by kernel_rfl) (by decide) (by decide)
theorem elemLp_by:Tryz.prog.bytesOf 94=40:=by kernel_rfl
theorem elemRo:ElemT Tryz.prog 92 96 4 (Tryz.prog.bytesOf 96):=FV (z:=.agg #[.int .i64 0,.int .i64 0,.int .i64 0,.string ⟨#[]⟩]) (by kernel_rfl) (by kernel_rfl) (by decide) (by decide)
theorem WP:Tryz.prog.bytesOf 96=40:=by kernel_rfl
theorem elemPo:ElemT Tryz.prog 79 97 4 (Tryz.prog.bytesOf 97):=FV (z:=.agg #[.int .i64 0,.int .i64 0,.int .i64 0,.string ⟨#[]⟩]) (by kernel_rfl) (by kernel_rfl) (by decide) (by decide)
theorem elemPo_by:Tryz.prog.bytesOf 97=40:=by kernel_rfl
theorem elemRp:ElemT Tryz.prog 54 106 2 (Tryz.prog.bytesOf 106):=FV (z:=.agg #[.string ⟨#[]⟩,.slice none 0 0]) (by kernel_rfl) (by kernel_rfl) (by decide) (by decide)
theorem elemRp_by:Tryz.prog.bytesOf 106=40:=by kernel_rfl
theorem elemPr_by:Tryz.prog.bytesOf 81=40:=by kernel_rfl
theorem MI (ps:List PG) (A:Option Addr) (c:Nat) (w:World) (h:Pgs w A c ps) (hf:PgFew ps):Calls Tryz.prog 12 #[.slice A ps.length c] w (PW ps w):=by
 have hlen:ps.length≤maxLen:=Nat.le_trans h.le h.max;have hps:=hf.len;have J: ∀(d i:Nat),ps.length-i=d→i≤ps.length→∀(outs:List PG) (A4:Option Addr) (c4:Nat) (w1:World) (L1:List Nat),Nx w w1 L1 (fun w=>∀z∈outs,PgOk w z)→outs.map PG.m=(ps.take i).map PG.m→outs.length=i→∀(u:Nat→Value),Hs Tryz.prog 12 (PW ps w) (Tryz.f12).ntmps w1 L1 [0] ⟨.no,AE Tryz.f12 0,BI [(3,.c (.v (.slice A4 i c4))),(9,.c (.v (.slice A ps.length c))),(10,.c (.v (.int .i64 ps.length))),(11,.c (.v (.int .i64 i)))] (.vals u),[.s A4 c4 i 81 2 (outs.flatMap cPG)]⟩:=by
  intro d;induction d with
  |zero=>
   intro i hd hi outs A4 c4 w1 L1 N ho hol u;obtain rfl:i=ps.length:=by omega
   rw[List.take_length] at ho;refine Hs.e0 ?_;refine Hs.cP ((ps.length:Int)<(ps.length:Int)) (fun h=>by omega) (fun _=>?_);refine Hs.runR0 13 [] 300 (fun _=>by kernel_rfl) ?_;refine Hs.freezeN 0 (cf:=cPG) (size:=2) (A:=A4) (cap:=c4) (nl:=ps.length) (E:=81) N hol (by kernel_rfl) (by kernel_rfl) fun w3 L3 N3=>?_;refine Hs.e0 ?_;exact Hs.rt (v:=.slice A4 ps.length c4) Tryz.func12 fun w' H=>N3.pgs (outs:=outs) H fun w h=>⟨⟨h.1.1,h.1.2.1,h.1.2.2,h.2⟩,ho⟩
  |succ d ih=>
   intro i hd hi outs A4 c4 w1 L1 N ho hol u;have hil:i<ps.length:=by omega
   obtain⟨x,hx⟩: ∃x,ps[i]? = some x:=⟨_,List.getElem?_eq_getElem hil⟩;have hxm:x∈ps:=List.mem_of_getElem? hx;have hxo:=h.all x hxm;have hxl:=hf.ops x hxm;obtain⟨ab,aoff,hA,_,_⟩:=h.rd (by omega);have hih:=fun outs A4 c4 w1 L1 N e1 e2 u=>ih (i+1) (by omega) (by omega) outs A4 c4 w1 L1 N e1 e2 u;clear ih;have hrd:=h.rd;rw[hA] at hih hrd⊢;have K: ∀(e j:Nat),x.ops.length-j=e→j≤x.ops.length→∀(g0 g:Nat) (A5:Option Addr) (c5:Nat) (u:Nat→Value),Hs Tryz.prog 12 (PW ps w) (Tryz.f12).ntmps w1 L1 [0,g,0] ⟨.no,AE Tryz.f12 1,BI [(3,.c (.v (.slice A4 i c4))),(6,.c (.p 1 0)),(9,.c (.v (.slice (some ⟨ab,aoff,none⟩) ps.length c))),(10,.c (.v (.int .i64 ps.length))),(11,.c (.v (.int .i64 i))),(19,.c (.v (.slice x.A x.ops.length x.c))),(20,.c (.v (.int .i64 x.ops.length))),(21,.c (.v (.int .i64 j)))] (.vals u),[.s A4 c4 i 81 2 (outs.flatMap cPG),.b true 81 [.v (.string x.n),.v (.slice A5 j c5)],.s A5 c5 j 97 4 ((x.ops.take j).flatMap cOP)]⟩:=by
    intro e;induction e with
    |zero=>
     intro j he hj g0 g A5 c5 u;obtain rfl:j=x.ops.length:=by omega
     rw[List.take_length];refine Hs.e0 ?_;refine Hs.cP ((x.ops.length:Int)<(x.ops.length:Int)) (fun h=>by omega) (fun _=>?_);refine Hs.e1 fun b3=>?_;refine Hs.app (cf:=cPG) (c:=1) (ty:=47) 0 elemPr outs [(⟨x.n,A5,c5,x.ops⟩:PG)] i 1 hol rfl cPG_one MM (A:=A4) (B:=some ⟨b3,0,none⟩) (cap:=c4) (by kernel_rfl) (by kernel_rfl) (by kernel_rfl) (fun w' H=>H.rdB (cf:=cPG) (wr:=true) (T:=81) (cs:=PG.sc ⟨x.n,A5,c5,x.ops⟩) (gs:=[(⟨x.n,A5,c5,x.ops⟩:PG)]) 3 (by kernel_rfl) rfl) (by unfold maxLen;omega) (by rw[elemPr_by];omega) fun A6 c6 h6=>?_;refine Hs.e0 ?_;refine Hs.freezeN 2 (cf:=cOP) (size:=4) (A:=A5) (cap:=c5) (nl:=x.ops.length) (E:=97) N rfl (by kernel_rfl) (by kernel_rfl) fun w3 L3 N3=>?_;refine Hs.slot 11 (.c (.v (.int .i64 (i+1:Nat)))) rfl ((by kernel_rfl:_=Value.int .i64 (IntKind.i64.wrap ((i:Int)+1))).trans (BW hlen)) ?_;refine Hs.lP ?_;exact Hs.goto (AE Tryz.f12 0) [0] [.s A6 c6 (i+1) 81 2 ((outs++[(⟨x.n,A5,c5,x.ops⟩:PG)]).flatMap cPG)] [(3,.c (.v (.slice A6 (i+1) c6))),(9,.c (.v (.slice (some ⟨ab,aoff,none⟩) ps.length c))),(10,.c (.v (.int .i64 ps.length))),(11,.c (.v (.int .i64 (i+1:Nat))))] (by kernel_rfl) (by decide) (by kernel_rfl) (by kernel_rfl) (fun _=>(by kernel_rfl)) (fun u=>hih (outs++[(⟨x.n,A5,c5,x.ops⟩:PG)]) A6 c6 w3 L3 (N3.imp fun w h=>fun y hy=>by
      rcases List.mem_append.1 hy with h1|h1;·exact h.2 y h1
      ·rw[List.mem_singleton.1 h1];exact h.1) (by rw[List.map_append,ho,List.take_add_one,hx,List.map_append];rfl) (by rw[List.length_append,hol];rfl) u)
    |succ e ihk=>
     intro j he hj g0 g A5 c5 u;have hjl:j<x.ops.length:=by omega
     obtain⟨y,hy⟩: ∃y,x.ops[j]? = some y:=⟨_,List.getElem?_eq_getElem hjl⟩;have htj:(x.ops.take j).length=j:=by rw[List.length_take];omega
     obtain⟨ob,ooff,hO,_,_⟩:=hxo.1 (by omega);have hihk:=fun g0 g A5 c5 u=>ihk (j+1) (by omega) (by omega) g0 g A5 c5 u;clear ihk;have hor:=hxo.1;rw[hO] at hihk hor⊢;refine Hs.e0 ?_;refine Hs.cP ((j:Int)<(x.ops.length:Int)) (fun _=>?_) (fun h=>by omega);refine Hs.e0 ?_;refine Hs.idx (b:=ob) (off:=ooff) (len:=x.ops.length) (c:=x.c) (i:=j) elemRo hjl (by kernel_rfl) ?_;refine Hs.ldx (cf:=cOP) (size:=4) (E:=96) (b:=ob) (off:=ooff) (i:=j) (l:=x.ops) (x:=y) OH (.g y.sc) (by kernel_rfl) (fun w' H=>hor.only (N.only H)) hy (by kernel_rfl) (by kernel_rfl) rfl (by kernel_rfl) ?_;refine Hs.e2 fun b4 b5=>?_;refine Hs.app (cf:=cOP) (c:=1) (ty:=79) 2 elemPo (x.ops.take j) [y] j 1 htj rfl cOP_one OH (A:=A5) (B:=some ⟨b5,0,none⟩) (cap:=c5) (by kernel_rfl) (by kernel_rfl) (by kernel_rfl) (fun w' H=>H.rdB (cf:=cOP) (wr:=true) (T:=97) (cs:=y.sc) (gs:=[y]) 4 (by kernel_rfl) rfl) (by unfold maxLen;omega) (by rw[elemPo_by];omega) fun A6 c6 h6=>?_;refine Hs.e0 ?_;refine Hs.slot 21 (.c (.v (.int .i64 (j+1:Nat)))) rfl ((by kernel_rfl:_=Value.int .i64 (IntKind.i64.wrap ((j:Int)+1))).trans (BW (Nat.le_trans hxo.2.1 hxo.2.2))) ?_;refine Hs.lP ?_;have e1:x.ops.take j++[y]=x.ops.take (j+1):=by rw[List.take_add_one,hy];rfl
     rw[e1];exact Hs.goto (AE Tryz.f12 1) [0,1,2] [.s A4 c4 i 81 2 (outs.flatMap cPG),.b true 81 [.v (.string x.n),.v (.slice A6 (j+1) c6)],.s A6 c6 (j+1) 97 4 ((x.ops.take (j+1)).flatMap cOP)] [(3,.c (.v (.slice A4 i c4))),(6,.c (.p 1 0)),(9,.c (.v (.slice (some ⟨ab,aoff,none⟩) ps.length c))),(10,.c (.v (.int .i64 ps.length))),(11,.c (.v (.int .i64 i))),(19,.c (.v (.slice (some ⟨ob,ooff,none⟩) x.ops.length x.c))),(20,.c (.v (.int .i64 x.ops.length))),(21,.c (.v (.int .i64 (j+1:Nat))))] (by kernel_rfl) (by decide) (by kernel_rfl) (by kernel_rfl) (fun _=>(by kernel_rfl)) (fun u=>hihk g0 g A6 c6 u)
   refine Hs.e0 ?_;refine Hs.cP ((i:Int)<(ps.length:Int)) (fun _=>?_) (fun h=>by omega);refine Hs.e0 ?_;refine Hs.idx (b:=ab) (off:=aoff) (len:=ps.length) (c:=c) (i:=i) elemLp hil (by kernel_rfl) ?_;refine Hs.ldx (cf:=cPG) (size:=2) (E:=94) (b:=ab) (off:=aoff) (i:=i) (l:=ps) (x:=x) MM (.g x.sc) (by kernel_rfl) (fun w' H=>hrd.only (N.only H)) hx (by kernel_rfl) (by kernel_rfl) rfl (by kernel_rfl) ?_;refine Hs.e2 fun b1 b2=>?_;refine Hs.nilS 97 4 (by kernel_rfl) ?_ (by kernel_rfl);refine Hs.lP ?_;exact Hs.goto (AE Tryz.f12 1) [0,2,3] [.s A4 c4 i 81 2 (outs.flatMap cPG),.b true 81 [.v (.string x.n),.v (.slice none 0 0)],.s none 0 0 97 4 ((x.ops.take 0).flatMap cOP)] [(3,.c (.v (.slice A4 i c4))),(6,.c (.p 1 0)),(9,.c (.v (.slice (some ⟨ab,aoff,none⟩) ps.length c))),(10,.c (.v (.int .i64 ps.length))),(11,.c (.v (.int .i64 i))),(19,.c (.v (.slice x.A x.ops.length x.c))),(20,.c (.v (.int .i64 x.ops.length))),(21,.c (.v (.int .i64 (0:Nat))))] (by kernel_rfl) (by decide) (by kernel_rfl) (by kernel_rfl) (fun _=>(by kernel_rfl)) (fun u=>K x.ops.length 0 (by omega) (by omega) 0 b2 none 0 u)
 refine Hs.en Tryz.func12 [] [] [] [.c (.v (.slice A ps.length c))] (Mem.start0 w) ?_;refine Hs.e0 ?_;refine Hs.nilS 81 2 (by kernel_rfl) ?_ (by kernel_rfl);refine Hs.lP ?_;exact Hs.goto (AE Tryz.f12 0) [0] [.s none 0 0 81 2 (([]:List PG).flatMap cPG)] [(3,.c (.v (.slice none 0 0))),(9,.c (.v (.slice A ps.length c))),(10,.c (.v (.int .i64 ps.length))),(11,.c (.v (.int .i64 (0:Nat))))] (by kernel_rfl) (by decide) (by kernel_rfl) (by kernel_rfl) (fun _=>(by kernel_rfl)) (fun u=>J ps.length 0 (by omega) (by omega) [] none 0 w [] ((Nx.start w).imp fun w h=>fun y hy=>by cases hy) rfl rfl u)
theorem EA (ps:List PG) (A:Option Addr) (c:Nat) (w:World) (h:Pgs w A c ps) (hf:PgFew ps):Calls Tryz.prog 15 #[.slice A ps.length c] w (PW ps w):=by
 have hlen:ps.length≤maxLen:=Nat.le_trans h.le h.max;have hps:=hf.len;have J: ∀(d i:Nat),ps.length-i=d→i≤ps.length→∀(outs:List PG) (A4:Option Addr) (c4:Nat) (w1:World) (L1:List Nat),Nx w w1 L1 (fun w=>∀z∈outs,PgOk w z)→outs.map PG.m=(ps.take i).map PG.m→outs.length=i→∀(u:Nat→Value),Hs Tryz.prog 15 (PW ps w) (Tryz.f15).ntmps w1 L1 [0] ⟨.no,AE Tryz.f15 0,BI [(3,.c (.v (.slice A4 i c4))),(6,.c (.v (.slice A ps.length c))),(7,.c (.v (.int .i64 ps.length))),(8,.c (.v (.int .i64 i)))] (.vals u),[.s A4 c4 i 106 2 (outs.flatMap cPG)]⟩:=by
  intro d;induction d with
  |zero=>
   intro i hd hi outs A4 c4 w1 L1 N ho hol u;obtain rfl:i=ps.length:=by omega
   rw[List.take_length] at ho;refine Hs.e0 ?_;refine Hs.cP ((ps.length:Int)<(ps.length:Int)) (fun h=>by omega) (fun _=>?_);refine Hs.runR0 7 [] 300 (fun _=>by kernel_rfl) ?_;refine Hs.freezeN 0 (cf:=cPG) (size:=2) (A:=A4) (cap:=c4) (nl:=ps.length) (E:=106) N hol (by kernel_rfl) (by kernel_rfl) fun w3 L3 N3=>?_;refine Hs.e0 ?_;exact Hs.rt (v:=.slice A4 ps.length c4) Tryz.func15 fun w' H=>N3.pgs (outs:=outs) H fun w h=>⟨⟨h.1.1,h.1.2.1,h.1.2.2,h.2⟩,ho⟩
  |succ d ih=>
   intro i hd hi outs A4 c4 w1 L1 N ho hol u;have hil:i<ps.length:=by omega
   obtain⟨x,hx⟩: ∃x,ps[i]? = some x:=⟨_,List.getElem?_eq_getElem hil⟩;have hxm:x∈ps:=List.mem_of_getElem? hx;have hxo:=h.all x hxm;have hxl:=hf.ops x hxm;obtain⟨ab,aoff,hA,_,_⟩:=h.rd (by omega);have hih:=fun outs A4 c4 w1 L1 N e1 e2 u=>ih (i+1) (by omega) (by omega) outs A4 c4 w1 L1 N e1 e2 u;clear ih;have hrd:=h.rd;rw[hA] at hih hrd⊢;refine Hs.e0 ?_;refine Hs.cP ((i:Int)<(ps.length:Int)) (fun _=>?_) (fun h=>by omega);refine Hs.e0 ?_;refine Hs.idx (b:=ab) (off:=aoff) (len:=ps.length) (c:=c) (i:=i) elemLp hil (by kernel_rfl) ?_;refine Hs.ldx (cf:=cPG) (size:=2) (E:=94) (b:=ab) (off:=aoff) (i:=i) (l:=ps) (x:=x) MM (.g x.sc) (by kernel_rfl) (fun w' H=>hrd.only (N.only H)) hx (by kernel_rfl) (by kernel_rfl) rfl (by kernel_rfl) ?_;refine Hs.e1 fun b1=>?_;refine Hs.any [1] (by kernel_rfl) ?_;refine Hs.e1 fun b2=>?_;refine Hs.litX (cf:=cOP) (ty:=92) (c:=x.c) 2 elemRo x.ops x.ops.length rfl cOP_one OH (by kernel_rfl) (by kernel_rfl) (by kernel_rfl) (fun w' H=>hxo.1.only (N.only H)) (Nat.le_trans hxo.2.1 hxo.2.2) (by rw[WP];omega) fun A5 c5 h5 h5'=>?_;refine Hs.e1 fun b3=>?_;refine Hs.app (cf:=cPG) (c:=1) (ty:=54) 0 elemRp outs [(⟨x.n,A5,c5,x.ops⟩:PG)] i 1 hol rfl cPG_one MM (A:=A4) (B:=some ⟨b3,0,none⟩) (cap:=c4) (by kernel_rfl) (by kernel_rfl) (by kernel_rfl) (fun w' H=>H.rdB (cf:=cPG) (wr:=true) (T:=106) (cs:=PG.sc ⟨x.n,A5,c5,x.ops⟩) (gs:=[(⟨x.n,A5,c5,x.ops⟩:PG)]) 3 (by kernel_rfl) rfl) (by unfold maxLen;omega) (by rw[elemRp_by];omega) fun A6 c6 h6=>?_;refine Hs.e0 ?_;refine Hs.freezeN 2 (cf:=cOP) (size:=4) (A:=A5) (cap:=c5) (nl:=x.ops.length) (E:=96) N rfl (by kernel_rfl) (by kernel_rfl) fun w3 L3 N3=>?_;refine Hs.slot 8 (.c (.v (.int .i64 (i+1:Nat)))) rfl ((by kernel_rfl:_=Value.int .i64 (IntKind.i64.wrap ((i:Int)+1))).trans (BW hlen)) ?_;refine Hs.lP ?_;exact Hs.goto (AE Tryz.f15 0) [0] [.s A6 c6 (i+1) 106 2 ((outs++[(⟨x.n,A5,c5,x.ops⟩:PG)]).flatMap cPG)] [(3,.c (.v (.slice A6 (i+1) c6))),(6,.c (.v (.slice (some ⟨ab,aoff,none⟩) ps.length c))),(7,.c (.v (.int .i64 ps.length))),(8,.c (.v (.int .i64 (i+1:Nat))))] (by kernel_rfl) (by decide) (by kernel_rfl) (by kernel_rfl) (fun _=>(by kernel_rfl)) (fun u=>hih (outs++[(⟨x.n,A5,c5,x.ops⟩:PG)]) A6 c6 w3 L3 (N3.imp fun w h=>fun y hy=>by
    rcases List.mem_append.1 hy with h1|h1;·exact h.2 y h1
    ·rw[List.mem_singleton.1 h1];exact h.1) (by rw[List.map_append,ho,List.take_add_one,hx,List.map_append];rfl) (by rw[List.length_append,hol];rfl) u)
 refine Hs.en Tryz.func15 [] [] [] [.c (.v (.slice A ps.length c))] (Mem.start0 w) ?_;refine Hs.e0 ?_;refine Hs.nilS 106 2 (by kernel_rfl) ?_ (by kernel_rfl);refine Hs.lP ?_;exact Hs.goto (AE Tryz.f15 0) [0] [.s none 0 0 106 2 (([]:List PG).flatMap cPG)] [(3,.c (.v (.slice none 0 0))),(6,.c (.v (.slice A ps.length c))),(7,.c (.v (.int .i64 ps.length))),(8,.c (.v (.int .i64 (0:Nat))))] (by kernel_rfl) (by decide) (by kernel_rfl) (by kernel_rfl) (fun _=>(by kernel_rfl)) (fun u=>J ps.length 0 (by omega) (by omega) [] none 0 w [] ((Nx.start w).imp fun w h=>fun y hy=>by cases hy) rfl rfl u)
end Go.Proofs.YtdplnedpbkpgpaaGreatDoor
