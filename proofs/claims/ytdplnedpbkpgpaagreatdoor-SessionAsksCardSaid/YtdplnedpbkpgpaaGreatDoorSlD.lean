/- SessionAsks: lemmas, from 'The machine: a run up to the end of a region, several ways b' on; what each asks for stands in it. -/
import Derived.Test.YtdplnedpbkpgpaaGreatDoorSlC
import Derived.Laws.StructEq
import Derived.Lib.MakeNoZero
import Derived.Laws.Externs
import Derived.Laws.IdiomStrings
set_option linter.all false
set_option maxRecDepth 100000
set_option maxHeartbeats 64000000
namespace Go.Proofs.YtdplnedpbkpgpaaGreatDoor
open Go.RowKit
def stopAt (N:Nat) (m:SM):Bool:=match m.r with
 | .no=>Nat.beq m.todo.length N
 |_=>false
section
variable (P : Program) (n : Nat) (β : List Nat)
def runU (N:Nat) (ge:List Nat):Nat→SM→SM
 |0,m=>m
 |k+1,m=>match stopAt N m with
  |true=>m
  |false=>match GC P n β ge m with
   |some m'=>runU N ge k m'
   |none=>m
end
section
variable {P : Program} {f : FuncId} {R : Ending → World → Prop} {n : Nat} {w0 : World} {L : List Nat} {β : List Nat} {m : SM} {ge : List Nat} {N : Nat}
end
/-! Up to a region. -/
def atL (id:Nat):Code→List Item→List (List Item)
 | .seq a b,k=>atL id a (.code b::k)++atL id b k
 | .cond _ x y,k=>atL id x k++atL id y k
 | .block i c,k=>atL id c (.inBlock i::k)
 | .scope c,k=>atL id c (.inScope c::k)
 | .loop c,k=>atL id c (.inLoop c::k)
 | .region j ops d,k=>match Nat.beq j id with
  |true=>[.code (.region j ops d)::k]
  |false=>[]
 |_,_=>[]
def atR (fn:Func) (id:Nat):List Item:=match atL id (NK fn) [] with
 |k::_=>k
 |[]=>[]
def stopR (id:Nat) (m:SM):Bool:=match m.r with
 | .no=>match m.todo with
  | .code (.region j _ _)::_=>Nat.beq j id
  |_=>false
 |_=>false
section
variable (P : Program) (n : Nat) (β : List Nat)
def runR (N:Nat) (ge:List Nat):Nat→SM→SM
 |0,m=>m
 |k+1,m=>match stopR N m with
  |true=>m
  |false=>match GC P n β ge m with
   |some m'=>runR N ge k m'
   |none=>m
end
section
variable {P : Program} {f : FuncId} {R : Ending → World → Prop} {n : Nat} {w0 : World} {L : List Nat} {β : List Nat} {m : SM} {ge : List Nat} {N : Nat}
theorem UW: ∀(k:Nat) (β:List Nat) (m:SM) (w:World),Mem w0 L β m.hp w→m.wf=true→(∀ν w',Mem w0 L (β++ν) (runR P n (β++ν) N ge k m).hp w'→(runR P n (β++ν) N ge k m).wf=true→Gs P f R n (β++ν) (runR P n (β++ν) N ge k m) w')→Gs P f R n β m w
 |0,β,m,w,H,W,h=>by
  have:=h [] w;simp only[List.append_nil] at this;exact this H W
 |k+1,β,m,w,H,W,h=>by
  cases hst:stopR N m with
  |true=>
   have:=h [] w;simp only[List.append_nil,runR,hst] at this;exact this H W
  |false=>
   cases hs:GC P n β ge m with
   |none=>
    have:=h [] w;simp only[List.append_nil,runR,hst,hs] at this;exact this H W
   |some m'=>
    refine MZ H W hs fun ν w' H' W'=>?_;refine UW k (β++ν) m' w' H' W' fun ν' w'' H'' W''=>?_;have e:GC P n (β++ν++ν') ge m=some m':=by
     rw[List.append_assoc,RG H.len W];exact hs
    have:=h (ν++ν') w'';rw[←List.append_assoc] at this;simp only[runR,hst,e] at this;exact this H'' W''
theorem Hs.runRL (N:Nat) (ge:List Nat) (k j:Nat) (hj: ∀ν,Nat.beq (runR P n (β++ν) N ge k m).hp.length (β.length+j)=true) (h: ∀ν:List Nat,ν.length=j→Hs P f R n w0 L (β++ν) (runR P n (β++ν) N ge k m)):Hs P f R n w0 L β m:=
 ⟨fun w H W=>UW (N:=N) (ge:=ge) k β m w H W fun ν w' H' W'=>(h ν (by
  have h1:=H'.len;have h2:=Nat.eq_of_beq_eq_true (hj ν);rw[h2,List.length_append] at h1;omega)).go w' H' W'⟩
theorem Hs.runR0 (N:Nat) (ge:List Nat) (k:Nat) (hj: ∀ν,Nat.beq (runR P n (β++ν) N ge k m).hp.length (β.length+0)=true) (h:Hs P f R n w0 L β (runR P n β N ge k m)):Hs P f R n w0 L β m:=
 Hs.runRL N ge k 0 hj fun ν hν=>by
  have e:=List.length_eq_zero_iff.1 hν;subst e;rw[List.append_nil];exact h
section
variable {α : Type} {cf : α → List Value} {tS E size bytes : Nat}
theorem Hs.takeIdx (j:Nat) (ht:ElemT P tS E size bytes) {rd:List Nat} {b off len c i:Nat} (hi:i<len) (hs:semAt j n β m=some (MU (Instr.indexAt tS (.slice (some ⟨b,off,none⟩) len c) (.int .i64 i)),rd)) (h:Hs P f R n w0 L β (XS j (.c (.v (.pointer (some ⟨b,off+i*size,none⟩)))) m)):Hs P f R n w0 L β m:=
 Hs.takeV j (.c (.v (.pointer (some ⟨b,off+i*size,none⟩)))) hs rfl (fun w _=>run_idx ht hi w) h
end
end
section
variable {P : Program} {f : FuncId} {R : Ending → World → Prop} {n : Nat} {w0 : World} {L : List Nat} {β : List Nat} {m : SM}
variable {α : Type} {cf : α → List Value} {tS E size bytes : Nat} {w w1 : World} {A : Option Addr} {l : List α}
end
section
variable {P : Program} {f : FuncId} {R : Ending → World → Prop} {n : Nat} {w0 : World} {L : List Nat} {β : List Nat} {m : SM}
theorem Hs.branch3 (i j k:Nat) (hc:rdyOf m=some [i,j,k]) (h1:Hs P f R n w0 L β (selM i m)) (h2:Hs P f R n w0 L β (selM j m)) (h3:Hs P f R n w0 L β (selM k m)):Hs P f R n w0 L β m:=
 Hs.branch _ hc (by simp) fun q hq=>by
  simp at hq;rcases hq with rfl|rfl|rfl;·exact h1
  ·exact h2
  ·exact h3
end
section
variable (P : Program)
def UZ:Nat→TypeId→Value→Bool
 |0,_,_=>false
 |m+1,t,v=>match P.underlying t with
  |some .bool=>match v with
   | .bool _=>true
   |_=>false
  |some (.int _)=>match v with
   | .int _ _=>true
   |_=>false
  |some .string=>match v with
   | .string _=>true
   |_=>false
  |some (.struct fs)=>match v with
   | .agg xs=>!P.stoodInHeld t&&fs.toList.all fun f=>f.name != "_"&&(match HI P f.type (xs.toList.map .v) f.offset with
    |some u=>UZ m f.type (u.den [])
    |none=>false)
   |_=>false
  |_=>false
end
section
variable {P : Program}
theorem XM: ∀(m:Nat) (t:TypeId) (v:Value),UZ P m t v=true→∀(d:Nat) (w:World),(Op.equalIn (d+m) t v v).run P w = .ok true w
 |0,t,v,h,d,w=>by simp[UZ] at h
 |m+1,t,v,h,d,w=>by
  rw[show d+(m+1)=(d+m)+1 by omega];unfold UZ at h;split at h
  ·rename_i hu;split at h;·rename_i b;rw[run_equalIn_bool' w (d+m) t b b hu];simp
   ·cases h
  ·rename_i k hu;split at h;·rename_i k' a;rw[run_equalIn_int w (d+m) t k' k a a hu];simp
   ·cases h
  ·rename_i hu;split at h;·rename_i s;rw[run_equalIn_string w (d+m) t s s hu];simp
   ·cases h
  ·rename_i fs hu;split at h
   ·rename_i xs;simp only[Bool.and_eq_true,Bool.not_eq_true'] at h;have hf:P.fieldsOf t=fs:=by unfold Program.fieldsOf;rw[hu]
    rw[run_equalIn_struct w (d+m) t xs xs (by rw[hf];exact hu) h.1,hf];have key: ∀l:List Field,(l.all fun f=>f.name != "_"&&(match HI P f.type (xs.toList.map .v) f.offset with|some u=>UZ P m f.type (u.den [])|none=>false))=true→(Op.eqFields (d+m) xs xs l).run P w = .ok true w:=by
     intro l;induction l with
     |nil=>intro _;simp[Op.eqFields]
     |cons f l ih=>
      intro hl;simp only[List.all_cons,Bool.and_eq_true] at hl;obtain⟨⟨h1,h2⟩,h3⟩:=hl;split at h2
      ·rename_i u hp;have hpart:(part f.type xs f.offset).run P w = .ok (u.den []) w:=by
        have:=JF (β:=[]) (w:=w) hp;rwa[NL,Array.toArray_toList] at this
       have hself:=XM m f.type (u.den []) h2 d w;have hne:f.name≠ "_":=by simpa using h1
       simp only[Op.eqFields,hne,ne_eq,not_false_eq_true,if_true,Sem.run_bind,hpart,Result.andThen_ok,hself,Bool.not_true,Bool.false_eq_true,if_false];exact ih h3
      ·cases h2
    exact key fs.toList h.2
   ·cases h
  ·cases h
variable {f : FuncId} {R : Ending → World → Prop} {n : Nat} {w0 : World} {L : List Nat} {β : List Nat} {m : SM}
def QP (n:Nat) (β:List Nat) (m:SM):Option (BinOp×TypeId×Value×Value):=match CQ m with
 |some o=>match gOk m o with
  |true=>match o.op with
   | .binOp op T x y _=>some (op,T,(evS n m.sl x).den β,(evS n m.sl y).den β)
   |_=>none
  |false=>none
 |none=>none
theorem run_same {op:BinOp} {T:TypeId} {xs:Array Value} {b:Bool} (ho:op = .eql∧b=true∨op = .neq∧b=false) (hm:P.eqGuardType P.depth T=false) (h:UZ P 100 T (.agg xs)=true) (x y:Operand) (w:World):((do eqGuard op T x y (.agg xs) (.agg xs);binOp op T (.agg xs) (.agg xs)):Sem Value).run P w = .ok (.bool b) w:=by
 have hr:=XM 100 T (.agg xs) h 9900 w;rcases ho with⟨rfl,rfl⟩|⟨rfl,rfl⟩
 ·simp only[Sem.run_bind,run_eqGuard_agg w _ T x y xs xs hm,Result.andThen_ok,run_eql_struct];rw[show(10000:Nat)=9900+100 from rfl,hr];rfl
 ·simp only[Sem.run_bind,run_eqGuard_agg w _ T x y xs xs hm,Result.andThen_ok,run_neq_struct];rw[show(10000:Nat)=9900+100 from rfl,hr];rfl
theorem Hs.same {op:BinOp} {T:TypeId} (xs:Array Value) (b:Bool) (hc:QP n β m=some (op,T,.agg xs,.agg xs)) (ho:op = .eql∧b=true∨op = .neq∧b=false) (hm:(!P.eqGuardType P.depth T&&UZ P 100 T (.agg xs))=true) (h:Hs P f R n w0 L β (m.put (BL m) (.c (.v (.bool b))) m.hp)):Hs P f R n w0 L β m:=by
 simp only[Bool.and_eq_true,Bool.not_eq_true'] at hm;refine⟨fun w H W=>?_⟩;unfold QP at hc;split at hc
 ·rename_i o hcur;split at hc
  ·rename_i hg;split at hc
   ·rename_i op' T' x y z hop;simp only[Option.some.injEq,Prod.mk.injEq] at hc;obtain⟨rfl,rfl,hx,hy⟩:=hc;have hd:BL m=o.dst:=by unfold BL;rw[hcur]
    rw[hd] at h;refine Gs.val (v:=.c (.v (.bool b))) hcur hg ?_ (h.go w H ?_)
    ·have hr:=run_same (P:=P) ho hm.1 hm.2 x y w;simp only[execOp,hop,hx,hy,Sem.run_bind] at hr⊢;simp only[hr,Result.andThen_ok,Sem.run_pure];rfl
    ·simp only[SM.wf,SM.put,Bool.and_eq_true];exact⟨DN (SM.wf_sl W) rfl,SM.wf_hp W⟩
   ·cases hc
  ·cases hc
 ·cases hc
end
section
variable {P : Program} {f : FuncId} {R : Ending → World → Prop} {n : Nat} {w0 : World} {L : List Nat} {β : List Nat} {m : SM}
theorem aM {op:BinOp} {T:TypeId} {x y:Operand} {k k':IntKind} {a b:Int} (w:World):(eqGuard op T x y (.int k a) (.int k' b)).run P w = .ok () w:=by
 cases op<;>rfl
theorem Hs.bin {op:BinOp} {T:TypeId} {k k':IntKind} {a b:Int} (v:Value) (hc:QP n β m=some (op,T,.int k a,.int k' b)) (hr: ∀w,(binOp op T (.int k a) (.int k' b)).run P w = .ok v w) (h:Hs P f R n w0 L β (m.put (BL m) (.c (.v v)) m.hp)):Hs P f R n w0 L β m:=by
 refine⟨fun w H W=>?_⟩;unfold QP at hc;split at hc
 ·rename_i o hcur;split at hc
  ·rename_i hg;split at hc
   ·rename_i op' T' x y z hop;simp only[Option.some.injEq,Prod.mk.injEq] at hc;obtain⟨rfl,rfl,hx,hy⟩:=hc;have hd:BL m=o.dst:=by unfold BL;rw[hcur]
    rw[hd] at h;refine Gs.val (v:=.c (.v v)) hcur hg ?_ (h.go w H ?_)
    ·have hr:=hr w;simp only[execOp,hop,hx,hy,Sem.run_bind,aM w,Result.andThen_ok,hr,Sem.run_pure];rfl
    ·simp only[SM.wf,SM.put,Bool.and_eq_true];exact⟨DN (SM.wf_sl W) rfl,SM.wf_hp W⟩
   ·cases hc
  ·cases hc
 ·cases hc
theorem run_shl {T:TypeId} {k yk:IntKind} {a b:Int} (hb:0≤b) (w:World):(binOp .shl T (.int k a) (.int yk b)).run P w = .ok (.int k (k.wrap (a*2 ^ (min b.toNat k.bits)))) w:=by
 show(Op.shift .shl k a yk b).run P w=_;unfold Op.shift;rw[if_neg (by omega)];rfl
end
theorem BW {i n:Nat} (hn:n≤maxLen) (h:i<n:=by assumption):Value.int .i64 (IntKind.i64.wrap ((i:Int)+1))=(SV.c (.v (.int .i64 (i+1:Nat)))).den []:=by
 show Value.int .i64 _=Value.int .i64 _;rw[IntWalk.i64_in _ (by unfold maxLen at hn;omega)];rfl
theorem Mem.rdB1 (w:World) (g:Nat) {T:Nat} {cs:List SC} (hg:Blk w g T (DE [g] cs)):Mem w [] [g] [.b false T cs] w:=
 Mem.start _ _ _ _ rfl (fun k h hk=>by
  cases k with
  |zero=>simp at hk;subst hk;exact hg
  |succ k=>simp at hk) (fun k h x hk hw _=>by
  cases k with
  |zero=>simp at hk;subst hk;cases hw
  |succ k=>simp at hk) (fun i j hi hj x ei ej _ _=>by
  cases i with
  |succ i=>simp at ei
  |zero=>
   cases j with
   |succ j=>simp at ej
   |zero=>rfl)
section
variable {P : Program} {f : FuncId} {R : Ending → World → Prop} {n : Nat} {w0 : World} {L : List Nat} {β : List Nat} {m : SM}
variable {α : Type} {cf : α → List Value} {E size : Nat}
end
def EG (w:World) (L:List Nat) (Q:World→Prop):Prop:=∀w',Only L w w'→Q w'
section
variable {w w0 w1 w2 w' : World} {L L1 L' β : List Nat} {hp : List HB} {g : Nat} {Q Q' Q'' F : World → Prop}
theorem EG.now (h:EG w0 L Q) (H:Mem w0 L β hp w):Q w:=h w H.only
theorem EG.mono (h:EG w L Q) (hs: ∀x∈L',x∈L):EG w L' Q:=fun w' O=>h w' (O.mono hs)
theorem EG.imp (h:EG w L Q) (f: ∀w,Q w→Q' w):EG w L Q':=fun w' O=>f w' (h w' O)
theorem EG.go (h:EG w L Q) (O:Only L w w'):EG w' L Q:=fun w2 O2=>h w2 (O.trans O2 (fun x hx=>.inl hx))
theorem EG.goN (h:EG w L Q) (O:Only L' w w') (h1: ∀x∈L',x∈L∨w.heap.size≤x) (h2: ∀x∈L1,x∈L∨w.heap.size≤x):EG w' L1 Q:=fun w2 O2=>by
 have O1:Only L w w':=(Only.refl L w).trans O h1;exact h w2 (O1.trans O2 h2)
theorem EG.and (h:EG w L Q) (h':EG w L Q'):EG w L (fun w=>Q w∧Q' w):=fun w' O=>⟨h w' O,h' w' O⟩
variable {D0 D1 D2 : World → Prop}
theorem rdX_keeps {α:Type} {cf:α→List Value} {A:Option Addr} {l:List α} (h:RdX cf w' A l) (hA: ∀a,A=some a→a.block∉L):EG w' L (fun w=>RdX cf w A l):=fun w2 O=>h.far O fun a ha _=>hA a ha
section
variable {α : Type} {cf : α → List Value} {E size : Nat}
end
end
section
variable {P : Program} {f : FuncId} {R : Ending → World → Prop} {n : Nat} {w0 : World} {L : List Nat} {β : List Nat} {m : SM}
end
section
variable {P : Program} {f : FuncId} {R : Ending → World → Prop} {n : Nat} {w0 : World} {L : List Nat} {β : List Nat} {m : SM}
variable {tS E size bytes : Nat}
end
section
variable {P : Program} {f : FuncId} {R : Ending → World → Prop} {n : Nat} {w0 : World} {L : List Nat} {β : List Nat} {m : SM}
end
def loA (size:Nat) (A:Option Addr) (i cap:Nat):Option Addr:=if cap=i then A else A.map (·.add (i*size))
section
variable {P : Program} {tS E size bytes : Nat} {α : Type} {cf : α → List Value}
theorem run_loA (ht:ElemT P tS E size bytes) {A:Option Addr} {n cap i:Nat} (hn:i≤n) (w:World):(Instr.sliceAt tS (.slice A n cap) (some (.int .i64 i)) none none).run P w = .ok (.slice (loA size A i cap) (n-i) (cap-i)) w:=run_sloA ht hn w
theorem US (hcl: ∀x,(cf x).length=size) {w:World} {A:Option Addr} {l:List α} {i cap:Nat} (h:RdX cf w A l) (hi:i≤l.length) (hc:l.length≤cap):RdX cf w (loA size A i cap) (l.drop i):=fun h0=>by
 rw[List.length_drop] at h0;obtain⟨b,off,e,hb,hcell⟩:=h (by omega);subst e;refine⟨b,off+i*size,?_,hb,fun j u hj=>?_⟩
 ·unfold loA;rw[if_neg (by omega)];simp[Addr.add_lit]
 ·rw[←OP hcl l i hi,List.getElem?_drop] at hj;have:=hcell _ u hj;rw[Nat.add_assoc];exact this
variable {f : FuncId} {R : Ending → World → Prop} {n : Nat} {w0 : World} {L : List Nat} {β : List Nat} {m : SM}
theorem Hs.lo (ht:ElemT P tS E size bytes) {A:Option Addr} {len cap i:Nat} (hn:i≤len) (hs:KT n β m=some (MU (Instr.sliceAt tS (.slice A len cap) (some (.int .i64 i)) none none))) (h:Hs P f R n w0 L β (m.put (BL m) (.c (.v (.slice (loA size A i cap) (len-i) (cap-i)))) m.hp)):Hs P f R n w0 L β m:=
 Hs.opV (.c (.v (.slice (loA size A i cap) (len-i) (cap-i)))) hs rfl (fun w _=>run_loA ht hn w) h
theorem Hs.takeLo (j:Nat) (ht:ElemT P tS E size bytes) {rd:List Nat} {A:Option Addr} {len cap i:Nat} (hn:i≤len) (hs:semAt j n β m=some (MU (Instr.sliceAt tS (.slice A len cap) (some (.int .i64 i)) none none),rd)) (h:Hs P f R n w0 L β (XS j (.c (.v (.slice (loA size A i cap) (len-i) (cap-i)))) m)):Hs P f R n w0 L β m:=
 Hs.takeV j (.c (.v (.slice (loA size A i cap) (len-i) (cap-i)))) hs rfl (fun w _=>run_loA ht hn w) h
end
def NewX {X:Type} (w:World) (v:X→Value) (Q:X→World→Prop):Ending→World→Prop:=fun e w'=>∃x,e = .returned (v x)∧Only [] w w'∧∀L:List Nat,(∀y∈L,y<w.heap.size)→EG w' L (Q x)
section
variable {w w0 w1 w2 w' : World} {L L1 L' β : List Nat} {hp : List HB} {Q D1 D2 : World → Prop}
structure Nx (w w1 : World) (L1 : List Nat) (D1 : World → Prop) : Prop where
  back : Back w [] w1 L1
  mem : ∀ x ∈ L1, w.heap.size ≤ x
  size : w.heap.size ≤ w1.heap.size
  keep : ∀ L : List Nat, (∀ x ∈ L, x < w.heap.size) → EG w1 (L ++ L1) D1
theorem Nx.start (w:World):Nx w w [] (fun _=>True):=⟨Back.refl,by simp,Nat.le_refl _,fun _ _ _ _=>trivial⟩
theorem Nx.imp (C:Nx w w1 L1 D1) (f: ∀w,D1 w→D2 w):Nx w w1 L1 D2:=⟨C.back,C.mem,C.size,fun L hL=>(C.keep L hL).imp f⟩
theorem Nx.only (C:Nx w w1 L1 D1) (H:Mem w1 L1 β hp w'):Only [] w w':=C.back w' H.only
theorem Nx.keeps (C:Nx w w1 L1 D1):EG w1 L1 D1:=(C.keep [] (by simp)).mono fun x hx=>by simp[hx]
theorem Nx.now (C:Nx w w1 L1 D1) (H:Mem w1 L1 β hp w'):D1 w':=C.keeps.now H
theorem Nx.key (H:Mem w1 L1 β hp w2): ∀x∈wrN β hp,x∈L1∨w1.heap.size≤x:=fun x hx=>by
 obtain⟨k,h,b,h1,h2,h3,h4⟩:=MS.1 hx;exact H.own k h x h1 h3 (by rw[YL h2];exact h4)
theorem Nx.fin (C:Nx w w1 L1 D1) (H:Mem w1 L1 β hp w'): ∀L:List Nat,(∀x∈L,x<w.heap.size∨x∈wrN β hp)→EG w' L D1:=fun L hL=>by
 have h1:=C.keep (L.filter fun x=>decide (x<w.heap.size)) (fun x hx=>by simpa using(List.mem_filter.1 hx).2);refine h1.goN H.only (fun x hx=>.inl (by simp[hx])) (fun x hx=>?_);rcases hL x hx with h|h;·exact .inl (by simp[hx,h])
 ·rcases Nx.key H x h with h|h;·exact .inl (by simp[h])
  ·exact .inr h
theorem Nx.move (C:Nx w w1 L1 D1) (H:Mem w1 L1 β hp w2) (O:Only [] w2 w') (q: ∀L:List Nat,(∀y∈L,y<w2.heap.size)→EG w' L Q):Nx w w' (wrN β hp) (fun w=>Q w∧D1 w):=by
 have hO:=H.only;have key:=Nx.key H;refine⟨fun w3 O3=>C.back w3 ?_,fun x hx=>?_,Nat.le_trans C.size (Nat.le_trans hO.size O.size),fun L hL=>?_⟩;·exact(hO.trans (O.mono (L':=L1) (by simp)) (fun x hx=>.inl hx)).trans O3 key
 ·rcases key x hx with h|h;·exact C.mem x h
  ·have:=C.size;omega
 ·refine(q _ fun x hx=>?_).and ?_
  ·rcases List.mem_append.1 hx with h|h;·have:=hL x h;have:=C.size;have:=hO.size;omega
   ·exact H.wrN_lt x h
  ·have h2:EG w2 (L++wrN β hp) D1:=(C.keep L hL).goN hO (fun x hx=>.inl (by simp[hx])) (fun x hx=>by
    rcases List.mem_append.1 hx with h|h;·exact .inl (by simp[h])
    ·rcases key x h with h|h;·exact .inl (by simp[h])
     ·exact .inr h)
   exact h2.go (O.mono (by simp))
theorem Nx.ownX {α:Type} {cf:α→List Value} {E size:Nat} (C:Nx w w1 L1 D1) (H:Mem w1 L1 β hp w') (k:Nat) {A:Option Addr} {cap nl:Nat} {l:List α} (hl:l.length=nl) (hk:hp[k]? = some (.s A cap nl E size (l.flatMap cf))):BM cf E size w' w.heap.size (.slice A nl cap) l:=by
 have h5:=H.ownX k hl hk;obtain⟨A1,cap1,e1,hc1,hc2,hr,hA⟩:=h5.form;injection e1 with e1 e2 e3;subst e1;subst e3;subst hl;unfold BM at h5⊢;obtain⟨h1,h2|⟨g,c,cur,e,_,hg,h4⟩⟩:=h5;·exact⟨h1,.inl h2⟩
 ·refine⟨h1,.inr ⟨g,c,cur,e,?_,hg,h4⟩⟩;injection e with e1;subst e1;rcases H.own k _ g hk rfl rfl with h|h;·exact C.mem g h
  ·have:=C.size;omega
end
section
variable {P : Program} {f : FuncId} {R : Ending → World → Prop} {n : Nat} {w0 w00 : World} {L : List Nat} {β : List Nat} {m : SM} {D1 : World → Prop}
theorem Hs.callM {X:Type} {v:X→Value} {Q:X→World→Prop} {F:FuncId} {args:Array Value} (C:Nx w00 w0 L D1) (hC: ∀w,Mem w0 L β m.hp w→Calls P F args w (NewX w v Q)) (hc:EX P n β m=some (F,args)) (hrd:HL m=[])
  (h: ∀x w1 L1,Nx w00 w1 L1 (fun w=>Q x w∧D1 w)→Hs P f R n w1 L1 β (m.put (BL m) (.c (.v (v x))) m.hp)):Hs P f R n w0 L β m:=
 Hs.callE v (fun x w w'=>∀L:List Nat,(∀y∈L,y<w.heap.size)→EG w' L (Q x)) hC hc hrd fun x w w1 H O q B hL=>h x w1 _ (C.move H O q)
end
theorem RT {α:Type} (vs:List α) (j:Nat) (v:α) (h:j<vs.length):(CU vs j [v]).length=vs.length:=by
 simp only[CU,List.length_append,List.length_take,List.length_drop,List.length_cons,List.length_nil];omega
theorem ZO {α:Type} (cur:List α) (q j:Nat) (v:α) (h:j<q) (hq:q≤cur.length):(CU cur j [v]).take q=CU (cur.take q) j [v]:=by
 unfold CU;simp only[List.length_cons,List.length_nil,Nat.zero_add];rw[List.take_append,List.take_take,List.length_take,Nat.min_eq_right (by omega:j≤q),Nat.min_eq_left (by omega:j≤cur.length),List.take_take,Nat.min_eq_left (by omega:j≤q)];congr 1
 rw[List.singleton_append,List.singleton_append];obtain⟨d,hd⟩: ∃d,q-j=d+1:=⟨q-j-1,by omega⟩;rw[hd,List.take_succ_cons];congr 1
 rw[List.drop_take];congr 1
 omega
section
variable {P : Program} {f : FuncId} {R : Ending → World → Prop} {n : Nat} {w0 : World} {L : List Nat} {β : List Nat} {m : SM} {E size : Nat}
theorem Hs.stc (k:Nat) {g cap nl:Nat} {vs:List Value} (hk:m.hp[k]? = some (.s (some ⟨g,0,none⟩) cap nl E size vs)) (j:Nat) (hj:j<vs.length) {v:Value} (hv:v.cells=#[v]) (hone:v.oneCell'=true) {E':TypeId} (hz:szB P E'=some 1)
  (hs:KT n β m=some (unitS (Instr.storeAt E' (.pointer (some ⟨g,j,none⟩)) v))) (hrd:(HL m).contains k=false)
  (h:Hs P f R n w0 L β (m.put (BL m) (.c (.v undef)) (m.hp.set k (.s (some ⟨g,0,none⟩) cap nl E size (CU vs j [v]))))):Hs P f R n w0 L β m:=by
 refine Hs.opU hs fun w H W=>?_;have hl:w.ownsRow 0 E size (.slice (some ⟨g,0,none⟩) nl cap) nl vs:=H.lies k _ hk;obtain⟨h1,⟨h2,_⟩|⟨g',c',cur,e,hg,hh,hc,hm,hsz,ht⟩⟩:=hl;·injection h2 with h2;cases h2
 injection e with e1 e2 e3;injection e1 with e1;injection e1 with e1;subst e1;subst e3;have hcl:cur.toList.length=cap*size:=by rw[Array.length_toList,hsz]
 have hnc:nl*size≤cap*size:=Nat.mul_le_mul_right _ hc;have hB:Blk w g E cur.toList:=by
  show w.heap[g]? = _;rw[hh]
 have hle:j+[v].length≤cur.toList.length:=by simp only[List.length_cons,List.length_nil];omega
 have hst:(storeVar E' ⟨g,j,none⟩ v).run P w = .ok () (w.setCells g j [v]):=by
  have hc:=run_storeCells_cells (P:=P) g j [v] 0 w (fun i hi=>by
    simpa using(ML hB j [v].length hle i (by simpa using hi)).1) (fun i hi=>by
    simpa using(ML hB j [v].length hle i (by simpa using hi)).2) (by simpa using hone)
  simp only[Nat.add_zero] at hc;unfold storeVar;simp only[Sem.run_bind,GK hz w,Result.andThen_ok,hv];rw[if_neg (by simp)];simp[hc]
 have hB':=KY [v] j w cur.toList hB hle;have hO:(w.setCells g j [v]).ownsRow 0 E size (.slice (some ⟨g,0,none⟩) nl cap) nl (CU vs j [v]):=by
  refine⟨by rw[RT _ _ _ hj,h1],.inr ⟨g,cap,(CU cur.toList j [v]).toArray,rfl,Nat.zero_le _,hB',hc,hm,?_,?_⟩⟩;·rw[List.size_toArray,RT _ _ _ (by omega),hcl]
  ·rw[ZO _ _ _ _ (by omega) (by omega),ht]
 refine⟨_,w.setCells g j [v],by simp only[Instr.storeAt,Instr.sureAddr,Sem.run_bind,Sem.run_pure,Result.andThen_ok,hst],H.reS k hk (KC _ _ _) hO,?_,fun i hi b hb=>?_,h⟩
 ·simp only[Bool.and_eq_true,Nat.ble_eq,List.length_set];refine⟨Nat.le_refl _,List.all_eq_true.2 fun x hx=>?_⟩;rcases List.mem_or_eq_of_mem_set hx with hx|rfl;·exact List.all_eq_true.1 (SM.wf_hp W) x hx
  ·rfl
 ·rw[List.getElem?_set,if_neg (fun e=>by subst e;simp at hrd;exact hrd hi)];exact hb
end
section
variable {P : Program} {f : FuncId} {R : Ending → World → Prop} {n : Nat} {w0 w00 : World} {L : List Nat} {β : List Nat} {m : SM} {D1 : World → Prop} {α : Type} {cf : α → List Value} {E size : Nat}
end
section
variable {P : Program} {f : FuncId} {R : Ending → World → Prop} {n : Nat} {w0 : World} {L : List Nat} {β : List Nat} {m : SM}
end
section
variable {P : Program} {f : FuncId} {R : Ending → World → Prop} {n : Nat} {w0 : World} {L : List Nat} {β : List Nat} {m : SM}
theorem Hs.callE0 {X:Type} (v:X→Value) (Q:X→World→World→Prop) {F:FuncId} {args:Array Value} (hC: ∀w,Mem w0 L β m.hp w→Calls P F args w fun e w'=>∃x,e = .returned (v x)∧Only [] w w'∧Q x w w') (hc:EX P n β m=some (F,args))
  (h: ∀x w w1,Mem w0 L β m.hp w→Only [] w w1→Q x w w1→Back w0 L w1 (wrN β m.hp)→(∀y∈wrN β m.hp,y<w.heap.size)→Hs P f R n w1 (wrN β m.hp) β (m.put (BL m) (.c (.v (v x))) m.hp)):Hs P f R n w0 L β m:=by
 refine⟨fun w H W=>?_⟩;unfold EX at hc;split at hc
 ·rename_i o ho;split at hc
  ·rename_i hg;split at hc
   ·rename_i F' args' hp;injection hc with hc;injection hc with h1 h2;subst h1;subst h2;have hd:BL m=o.dst:=by unfold BL;rw[ho]
    rw[hd] at h;refine Gs.op ho hg ?_;unfold Oper.wp;rw[GB,JU P _ _ hp w];refine Calls.mono (hC w H) ?_;rintro e w' ⟨x,rfl,O,hQ⟩;have H':=H.step O;refine⟨β,QJ o.dst (.c (.v (v x))) m.sl,m.hp,FR n β m.sl o.dst (.c (.v (v x))),fun w2 hI=>hI,(h x w w' H O hQ H'.back H.wrN_lt).go w' H'.rebase ?_⟩;simp only[SM.wf,SM.put,Bool.and_eq_true];exact⟨DN (SM.wf_sl W) rfl,SM.wf_hp W⟩
   ·cases hc
  ·cases hc
 ·cases hc
end
def cu8 (x:Int):List Value:=[.int .u8 x]
theorem DM (x:Int):(cu8 x).length=1:=rfl
theorem JR (x:Int): ∀u∈cu8 x,u.oneCell'=true:=by
 intro u hu;simp only[cu8,List.mem_singleton] at hu;subst hu;rfl
theorem DS:ElemT Tryz.prog 32 5 1 (Tryz.prog.bytesOf 5):=FV (z:=.int .u8 0) (by kernel_rfl) (by kernel_rfl) (by decide) (by decide)
theorem QY:Tryz.prog.bytesOf 5=1:=by kernel_rfl
theorem LN {w:World} {b off i:Nat} {l:List Int} {x:Int} (hr:RdX cu8 w (some ⟨b,off,none⟩) l) (hx:l[i]? = some x):w.cell? ⟨b,off+i*1,none⟩=some (.int .u8 x):=by
 have:=bP DM hr hx (j:=0) (v:=.int .u8 x) rfl;exact this
def RdU (w:World) (A:Option Addr) (c:Nat) (l:List Int):Prop:=RdX cu8 w A l∧l.length≤c∧c≤maxLen
theorem rd_rdX {w:World} {A:Option Addr} {l:List Int} (h:Rd w A l):RdX cu8 w A l:=fun h0=>by
 obtain⟨b,off,e,hb,hc⟩:=h h0;refine⟨b,off,e,hb,fun j u hj=>?_⟩;have hl:l.flatMap cu8=l.map (.int .u8):=by
  clear h h0 hc hj;induction l with
  |nil=>rfl
  |cons x l ih=>simp only[List.flatMap_cons,ih];rfl
 rw[hl,List.getElem?_map] at hj;cases hx:l[j]? with
 |none=>rw[hx] at hj;cases hj
 |some x=>rw[hx] at hj;injection hj with hj;subst hj;exact hc j x hx
section
variable {w w0 w1 w2 w' : World} {L L1 L' β : List Nat} {hp : List HB} {Q D1 D2 : World → Prop} {g : Nat}
end
section
variable {P : Program} {f : FuncId} {R : Ending → World → Prop} {n : Nat} {w0 w00 : World} {L : List Nat} {β : List Nat} {m : SM} {D1 : World → Prop}
theorem Hs.freezeN {α:Type} {cf:α→List Value} {size:Nat} (k:Nat) {A:Option Addr} {cap nl:Nat} {l:List α} {E:Nat} (C:Nx w00 w0 L D1) (hl:l.length=nl) (ek:m.hp[k]? = some (.s A cap nl E size (l.flatMap cf))) (hr:(match m.r with | .no=>true | .lst .. =>true | .lstN .. =>true|_=>false)=true)
  (h: ∀w1 L1,Nx w00 w1 L1 (fun w=>(RdX cf w A l∧l.length≤cap∧cap≤maxLen)∧D1 w)→Hs P f R n w1 L1 β ⟨m.r,m.todo,m.sl,m.hp.set k .no⟩):Hs P f R n w0 L β m:=by
 refine⟨fun w H W=>?_⟩;have H':Mem w0 L β (m.hp.set k .no) w:=H.turn (Only.refl [] w) (by simp) (by simp) fun j h' hj=>by
  rw[List.getElem?_set] at hj;split at hj
  ·split at hj;·injection hj with hj;exact .inl hj.symm
   ·cases hj
  ·exact .inr (.inl ⟨hj,by simp⟩)
 have key: ∀x∈wrN β (m.hp.set k .no),x∈L∨w0.heap.size≤x:=Nx.key H';have hown:=C.ownX H k hl ek;have hA: ∀a,A=some a→∀L':List Nat,(∀x∈L',x<w00.heap.size)→a.block∉L'++wrN β (m.hp.set k .no):=fun a ha L' hL' hx=>by
  rcases List.mem_append.1 hx with hx|hx
  ·subst ha;rcases H.own k _ a.block ek rfl rfl with h1|h1
   ·have:=C.mem _ h1;have:=hL' _ hx;omega
   ·have:=C.size;have:=hL' _ hx;omega
  ·obtain⟨j,hb,b,h1,h2,h3,h4⟩:=MS.1 hx;rw[List.getElem?_set] at h1;split at h1
   ·split at h1;·injection h1 with h1;subst h1;cases h3
    ·cases h1
   ·rename_i hjk;exact hjk (H.inj k j _ _ a.block ek h1 (by subst ha;rfl) (by rw[YL h2];exact h4))
 have hcap:=H.capS k hl ek;have C':Nx w00 w (wrN β (m.hp.set k .no)) (fun w=>(RdX cf w A l∧l.length≤cap∧cap≤maxLen)∧D1 w):=by
  refine⟨fun w3 O3=>C.back w3 (H'.back w3 O3),fun x hx=>?_,Nat.le_trans C.size H.only.size,fun L' hL'=>?_⟩
  ·rcases key x hx with h|h;·exact C.mem x h
   ·have:=C.size;omega
  ·refine EG.and ?_ ((C.keep L' hL').goN H.only (fun x hx=>.inl (by simp[hx])) (fun x hx=>?_));·refine(rdX_keeps (H.rdX k hl ek) fun a ha=>hA a ha L' hL').and fun _ _=>⟨by rw[hl];exact hcap.1,hcap.2⟩
   ·rcases List.mem_append.1 hx with h|h;·exact .inl (by simp[h])
    ·rcases key x h with h|h;·exact .inl (by simp[h])
     ·exact .inr h
 have g2:=(h w _ C').go w H'.rebase (by
  simp only[SM.wf,Bool.and_eq_true] at W⊢;rw[List.length_set];refine⟨W.1,List.all_eq_true.2 fun y hy=>?_⟩;rcases List.mem_or_eq_of_mem_set hy with hy|rfl;·exact List.all_eq_true.1 W.2 y hy
  ·rfl)
 obtain⟨r,todo,sl,hp⟩:=m;cases r with
 |no=>exact g2
 |lst=>exact g2
 |lstN=>exact g2
 |_=>cases hr
end
def sigL:List ByteArray:=[⟨#[]⟩,⟨#[72,85,80]⟩,⟨#[73,78,84]⟩,⟨#[81,85,73,84]⟩,⟨#[73,76,76]⟩,⟨#[84,82,65,80]⟩,⟨#[65,66,82,84]⟩,⟨#[66,85,83]⟩,⟨#[70,80,69]⟩,⟨#[75,73,76,76]⟩,⟨#[85,83,82,49]⟩,⟨#[83,69,71,86]⟩,⟨#[85,83,82,50]⟩,⟨#[80,73,80,69]⟩,⟨#[65,76,82,77]⟩,⟨#[84,69,82,77]⟩,⟨#[]⟩,⟨#[67,72,76,68]⟩,⟨#[67,79,78,84]⟩,⟨#[83,84,79,80]⟩,⟨#[84,83,84,80]⟩,⟨#[84,84,73,78]⟩,⟨#[84,84,79,85]⟩,⟨#[]⟩,⟨#[]⟩,⟨#[]⟩,⟨#[]⟩,⟨#[]⟩,⟨#[87,73,78,67,72]⟩]
def AD (n:Int):ByteArray:=(sigL[n.toNat]?).getD ⟨#[]⟩
def isS (n:Int):Bool:=(decide (1≤n)&&decide (n≤15))||((decide (17≤n)&&decide (n≤22))||decide (n=28))
def CL (n:Int):Bool:=isS n&&(decide (n≤15)&&(decide (n≠5)&&decide (n≠7)))
theorem c28 {n:Int} (h1:1≤n) (h2:n≤28):n=1∨n=2∨n=3∨n=4∨n=5∨n=6∨n=7∨n=8∨n=9∨n=10∨n=11∨n=12∨n=13∨n=14∨n=15∨n=16∨n=17∨n=18∨n=19∨n=20∨n=21∨n=22∨n=23∨n=24∨n=25∨n=26∨n=27∨n=28:=by omega
theorem ST {n:Int} (h: ¬(1≤n∧n≤28)):isS n=false:=by
 unfold isS;simp only[Bool.or_eq_false_iff,Bool.and_eq_false_iff,decide_eq_false_iff_not];omega
theorem aY (n:Int) (w:World):Calls Tryz.prog 48 #[.int .i64 n] w fun e w'=>e = .returned (.bool (isS n))∧Only [] w w':=by
 by_cases h:1≤n∧n≤28
 ·rcases c28 h.1 h.2 with rfl|rfl|rfl|rfl|rfl|rfl|rfl|rfl|rfl|rfl|rfl|rfl|rfl|rfl|rfl|rfl|rfl|rfl|rfl|rfl|rfl|rfl|rfl|rfl|rfl|rfl|rfl|rfl
  ·refine Hs.en Tryz.func48 [] [] [] [.c (.v (.int .i64 1))] (Mem.start0 w) ?_;refine Hs.runK [46] 1000 1 Tryz.func48 rfl (by kernel_rfl) (fun ν=>by kernel_rfl) (fun ν=>by kernel_rfl) fun ν hν=>?_;exact Hs.rt (v:=(.bool (isS 1))) Tryz.func48 fun w' H=>⟨rfl,H.only⟩
  ·refine Hs.en Tryz.func48 [] [] [] [.c (.v (.int .i64 2))] (Mem.start0 w) ?_;refine Hs.runK [46] 1000 1 Tryz.func48 rfl (by kernel_rfl) (fun ν=>by kernel_rfl) (fun ν=>by kernel_rfl) fun ν hν=>?_;exact Hs.rt (v:=(.bool (isS 2))) Tryz.func48 fun w' H=>⟨rfl,H.only⟩
  ·refine Hs.en Tryz.func48 [] [] [] [.c (.v (.int .i64 3))] (Mem.start0 w) ?_;refine Hs.runK [46] 1000 1 Tryz.func48 rfl (by kernel_rfl) (fun ν=>by kernel_rfl) (fun ν=>by kernel_rfl) fun ν hν=>?_;exact Hs.rt (v:=(.bool (isS 3))) Tryz.func48 fun w' H=>⟨rfl,H.only⟩
  ·refine Hs.en Tryz.func48 [] [] [] [.c (.v (.int .i64 4))] (Mem.start0 w) ?_;refine Hs.runK [46] 1000 1 Tryz.func48 rfl (by kernel_rfl) (fun ν=>by kernel_rfl) (fun ν=>by kernel_rfl) fun ν hν=>?_;exact Hs.rt (v:=(.bool (isS 4))) Tryz.func48 fun w' H=>⟨rfl,H.only⟩
  ·refine Hs.en Tryz.func48 [] [] [] [.c (.v (.int .i64 5))] (Mem.start0 w) ?_;refine Hs.runK [46] 1000 1 Tryz.func48 rfl (by kernel_rfl) (fun ν=>by kernel_rfl) (fun ν=>by kernel_rfl) fun ν hν=>?_;exact Hs.rt (v:=(.bool (isS 5))) Tryz.func48 fun w' H=>⟨rfl,H.only⟩
  ·refine Hs.en Tryz.func48 [] [] [] [.c (.v (.int .i64 6))] (Mem.start0 w) ?_;refine Hs.runK [46] 1000 1 Tryz.func48 rfl (by kernel_rfl) (fun ν=>by kernel_rfl) (fun ν=>by kernel_rfl) fun ν hν=>?_;exact Hs.rt (v:=(.bool (isS 6))) Tryz.func48 fun w' H=>⟨rfl,H.only⟩
  ·refine Hs.en Tryz.func48 [] [] [] [.c (.v (.int .i64 7))] (Mem.start0 w) ?_;refine Hs.runK [46] 1000 1 Tryz.func48 rfl (by kernel_rfl) (fun ν=>by kernel_rfl) (fun ν=>by kernel_rfl) fun ν hν=>?_;exact Hs.rt (v:=(.bool (isS 7))) Tryz.func48 fun w' H=>⟨rfl,H.only⟩
  ·refine Hs.en Tryz.func48 [] [] [] [.c (.v (.int .i64 8))] (Mem.start0 w) ?_;refine Hs.runK [46] 1000 1 Tryz.func48 rfl (by kernel_rfl) (fun ν=>by kernel_rfl) (fun ν=>by kernel_rfl) fun ν hν=>?_;exact Hs.rt (v:=(.bool (isS 8))) Tryz.func48 fun w' H=>⟨rfl,H.only⟩
  ·refine Hs.en Tryz.func48 [] [] [] [.c (.v (.int .i64 9))] (Mem.start0 w) ?_;refine Hs.runK [46] 1000 1 Tryz.func48 rfl (by kernel_rfl) (fun ν=>by kernel_rfl) (fun ν=>by kernel_rfl) fun ν hν=>?_;exact Hs.rt (v:=(.bool (isS 9))) Tryz.func48 fun w' H=>⟨rfl,H.only⟩
  ·refine Hs.en Tryz.func48 [] [] [] [.c (.v (.int .i64 10))] (Mem.start0 w) ?_;refine Hs.runK [46] 1000 1 Tryz.func48 rfl (by kernel_rfl) (fun ν=>by kernel_rfl) (fun ν=>by kernel_rfl) fun ν hν=>?_;exact Hs.rt (v:=(.bool (isS 10))) Tryz.func48 fun w' H=>⟨rfl,H.only⟩
  ·refine Hs.en Tryz.func48 [] [] [] [.c (.v (.int .i64 11))] (Mem.start0 w) ?_;refine Hs.runK [46] 1000 1 Tryz.func48 rfl (by kernel_rfl) (fun ν=>by kernel_rfl) (fun ν=>by kernel_rfl) fun ν hν=>?_;exact Hs.rt (v:=(.bool (isS 11))) Tryz.func48 fun w' H=>⟨rfl,H.only⟩
  ·refine Hs.en Tryz.func48 [] [] [] [.c (.v (.int .i64 12))] (Mem.start0 w) ?_;refine Hs.runK [46] 1000 1 Tryz.func48 rfl (by kernel_rfl) (fun ν=>by kernel_rfl) (fun ν=>by kernel_rfl) fun ν hν=>?_;exact Hs.rt (v:=(.bool (isS 12))) Tryz.func48 fun w' H=>⟨rfl,H.only⟩
  ·refine Hs.en Tryz.func48 [] [] [] [.c (.v (.int .i64 13))] (Mem.start0 w) ?_;refine Hs.runK [46] 1000 1 Tryz.func48 rfl (by kernel_rfl) (fun ν=>by kernel_rfl) (fun ν=>by kernel_rfl) fun ν hν=>?_;exact Hs.rt (v:=(.bool (isS 13))) Tryz.func48 fun w' H=>⟨rfl,H.only⟩
  ·refine Hs.en Tryz.func48 [] [] [] [.c (.v (.int .i64 14))] (Mem.start0 w) ?_;refine Hs.runK [46] 1000 1 Tryz.func48 rfl (by kernel_rfl) (fun ν=>by kernel_rfl) (fun ν=>by kernel_rfl) fun ν hν=>?_;exact Hs.rt (v:=(.bool (isS 14))) Tryz.func48 fun w' H=>⟨rfl,H.only⟩
  ·refine Hs.en Tryz.func48 [] [] [] [.c (.v (.int .i64 15))] (Mem.start0 w) ?_;refine Hs.runK [46] 1000 1 Tryz.func48 rfl (by kernel_rfl) (fun ν=>by kernel_rfl) (fun ν=>by kernel_rfl) fun ν hν=>?_;exact Hs.rt (v:=(.bool (isS 15))) Tryz.func48 fun w' H=>⟨rfl,H.only⟩
  ·refine Hs.en Tryz.func48 [] [] [] [.c (.v (.int .i64 16))] (Mem.start0 w) ?_;refine Hs.runK [46] 1000 1 Tryz.func48 rfl (by kernel_rfl) (fun ν=>by kernel_rfl) (fun ν=>by kernel_rfl) fun ν hν=>?_;exact Hs.rt (v:=(.bool (isS 16))) Tryz.func48 fun w' H=>⟨rfl,H.only⟩
  ·refine Hs.en Tryz.func48 [] [] [] [.c (.v (.int .i64 17))] (Mem.start0 w) ?_;refine Hs.runK [46] 1000 1 Tryz.func48 rfl (by kernel_rfl) (fun ν=>by kernel_rfl) (fun ν=>by kernel_rfl) fun ν hν=>?_;exact Hs.rt (v:=(.bool (isS 17))) Tryz.func48 fun w' H=>⟨rfl,H.only⟩
  ·refine Hs.en Tryz.func48 [] [] [] [.c (.v (.int .i64 18))] (Mem.start0 w) ?_;refine Hs.runK [46] 1000 1 Tryz.func48 rfl (by kernel_rfl) (fun ν=>by kernel_rfl) (fun ν=>by kernel_rfl) fun ν hν=>?_;exact Hs.rt (v:=(.bool (isS 18))) Tryz.func48 fun w' H=>⟨rfl,H.only⟩
  ·refine Hs.en Tryz.func48 [] [] [] [.c (.v (.int .i64 19))] (Mem.start0 w) ?_;refine Hs.runK [46] 1000 1 Tryz.func48 rfl (by kernel_rfl) (fun ν=>by kernel_rfl) (fun ν=>by kernel_rfl) fun ν hν=>?_;exact Hs.rt (v:=(.bool (isS 19))) Tryz.func48 fun w' H=>⟨rfl,H.only⟩
  ·refine Hs.en Tryz.func48 [] [] [] [.c (.v (.int .i64 20))] (Mem.start0 w) ?_;refine Hs.runK [46] 1000 1 Tryz.func48 rfl (by kernel_rfl) (fun ν=>by kernel_rfl) (fun ν=>by kernel_rfl) fun ν hν=>?_;exact Hs.rt (v:=(.bool (isS 20))) Tryz.func48 fun w' H=>⟨rfl,H.only⟩
  ·refine Hs.en Tryz.func48 [] [] [] [.c (.v (.int .i64 21))] (Mem.start0 w) ?_;refine Hs.runK [46] 1000 1 Tryz.func48 rfl (by kernel_rfl) (fun ν=>by kernel_rfl) (fun ν=>by kernel_rfl) fun ν hν=>?_;exact Hs.rt (v:=(.bool (isS 21))) Tryz.func48 fun w' H=>⟨rfl,H.only⟩
  ·refine Hs.en Tryz.func48 [] [] [] [.c (.v (.int .i64 22))] (Mem.start0 w) ?_;refine Hs.runK [46] 1000 1 Tryz.func48 rfl (by kernel_rfl) (fun ν=>by kernel_rfl) (fun ν=>by kernel_rfl) fun ν hν=>?_;exact Hs.rt (v:=(.bool (isS 22))) Tryz.func48 fun w' H=>⟨rfl,H.only⟩
  ·refine Hs.en Tryz.func48 [] [] [] [.c (.v (.int .i64 23))] (Mem.start0 w) ?_;refine Hs.runK [46] 1000 1 Tryz.func48 rfl (by kernel_rfl) (fun ν=>by kernel_rfl) (fun ν=>by kernel_rfl) fun ν hν=>?_;exact Hs.rt (v:=(.bool (isS 23))) Tryz.func48 fun w' H=>⟨rfl,H.only⟩
  ·refine Hs.en Tryz.func48 [] [] [] [.c (.v (.int .i64 24))] (Mem.start0 w) ?_;refine Hs.runK [46] 1000 1 Tryz.func48 rfl (by kernel_rfl) (fun ν=>by kernel_rfl) (fun ν=>by kernel_rfl) fun ν hν=>?_;exact Hs.rt (v:=(.bool (isS 24))) Tryz.func48 fun w' H=>⟨rfl,H.only⟩
  ·refine Hs.en Tryz.func48 [] [] [] [.c (.v (.int .i64 25))] (Mem.start0 w) ?_;refine Hs.runK [46] 1000 1 Tryz.func48 rfl (by kernel_rfl) (fun ν=>by kernel_rfl) (fun ν=>by kernel_rfl) fun ν hν=>?_;exact Hs.rt (v:=(.bool (isS 25))) Tryz.func48 fun w' H=>⟨rfl,H.only⟩
  ·refine Hs.en Tryz.func48 [] [] [] [.c (.v (.int .i64 26))] (Mem.start0 w) ?_;refine Hs.runK [46] 1000 1 Tryz.func48 rfl (by kernel_rfl) (fun ν=>by kernel_rfl) (fun ν=>by kernel_rfl) fun ν hν=>?_;exact Hs.rt (v:=(.bool (isS 26))) Tryz.func48 fun w' H=>⟨rfl,H.only⟩
  ·refine Hs.en Tryz.func48 [] [] [] [.c (.v (.int .i64 27))] (Mem.start0 w) ?_;refine Hs.runK [46] 1000 1 Tryz.func48 rfl (by kernel_rfl) (fun ν=>by kernel_rfl) (fun ν=>by kernel_rfl) fun ν hν=>?_;exact Hs.rt (v:=(.bool (isS 27))) Tryz.func48 fun w' H=>⟨rfl,H.only⟩
  ·refine Hs.en Tryz.func48 [] [] [] [.c (.v (.int .i64 28))] (Mem.start0 w) ?_;refine Hs.runK [46] 1000 1 Tryz.func48 rfl (by kernel_rfl) (fun ν=>by kernel_rfl) (fun ν=>by kernel_rfl) fun ν hν=>?_;exact Hs.rt (v:=(.bool (isS 28))) Tryz.func48 fun w' H=>⟨rfl,H.only⟩
 ·have e:isS n=false:=ST h;rw[e];refine Hs.en Tryz.func48 [] [] [] [.c (.v (.int .i64 n))] (Mem.start0 w) ?_;refine Hs.e0 ?_;refine Hs.bool 5 (decide (n>0)) (by kernel_rfl) (fun h1=>?_) (fun h1=>?_)
  ·replace h1:n>0:=by simpa using h1
   refine Hs.eg [2] ?_;refine Hs.bool 9 (decide (n≤28)) (by kernel_rfl) (fun h2=>absurd ⟨h1,by simpa using h2⟩ h) (fun h2=>?_);refine Hs.eg [2,6] ?_;exact Hs.rt (v:=.bool false) Tryz.func48 fun w' H=>⟨rfl,H.only⟩
  ·refine Hs.eg [2,6] ?_;exact Hs.rt (v:=.bool false) Tryz.func48 fun w' H=>⟨rfl,H.only⟩
theorem TY (n:Int) (w:World):Calls Tryz.prog 40 #[.int .i64 n] w fun e w'=>e = .returned (.tuple #[.string (if isS n then AD n else⟨#[]⟩),.bool (isS n)])∧Only [] w w':=by
 by_cases h:1≤n∧n≤28
 ·rcases c28 h.1 h.2 with rfl|rfl|rfl|rfl|rfl|rfl|rfl|rfl|rfl|rfl|rfl|rfl|rfl|rfl|rfl|rfl|rfl|rfl|rfl|rfl|rfl|rfl|rfl|rfl|rfl|rfl|rfl|rfl
  ·refine Hs.en Tryz.func40 [] [] [] [.c (.v (.int .i64 1))] (Mem.start0 w) ?_;refine Hs.runK [46,48] 1000 2 Tryz.func40 rfl (by kernel_rfl) (fun ν=>by kernel_rfl) (fun ν=>by kernel_rfl) fun ν hν=>?_;exact Hs.rt (v:=(.tuple #[.string (if isS 1 then AD 1 else⟨#[]⟩),.bool (isS 1)])) Tryz.func40 fun w' H=>⟨rfl,H.only⟩
  ·refine Hs.en Tryz.func40 [] [] [] [.c (.v (.int .i64 2))] (Mem.start0 w) ?_;refine Hs.runK [46,48] 1000 2 Tryz.func40 rfl (by kernel_rfl) (fun ν=>by kernel_rfl) (fun ν=>by kernel_rfl) fun ν hν=>?_;exact Hs.rt (v:=(.tuple #[.string (if isS 2 then AD 2 else⟨#[]⟩),.bool (isS 2)])) Tryz.func40 fun w' H=>⟨rfl,H.only⟩
  ·refine Hs.en Tryz.func40 [] [] [] [.c (.v (.int .i64 3))] (Mem.start0 w) ?_;refine Hs.runK [46,48] 1000 2 Tryz.func40 rfl (by kernel_rfl) (fun ν=>by kernel_rfl) (fun ν=>by kernel_rfl) fun ν hν=>?_;exact Hs.rt (v:=(.tuple #[.string (if isS 3 then AD 3 else⟨#[]⟩),.bool (isS 3)])) Tryz.func40 fun w' H=>⟨rfl,H.only⟩
  ·refine Hs.en Tryz.func40 [] [] [] [.c (.v (.int .i64 4))] (Mem.start0 w) ?_;refine Hs.runK [46,48] 1000 2 Tryz.func40 rfl (by kernel_rfl) (fun ν=>by kernel_rfl) (fun ν=>by kernel_rfl) fun ν hν=>?_;exact Hs.rt (v:=(.tuple #[.string (if isS 4 then AD 4 else⟨#[]⟩),.bool (isS 4)])) Tryz.func40 fun w' H=>⟨rfl,H.only⟩
  ·refine Hs.en Tryz.func40 [] [] [] [.c (.v (.int .i64 5))] (Mem.start0 w) ?_;refine Hs.runK [46,48] 1000 2 Tryz.func40 rfl (by kernel_rfl) (fun ν=>by kernel_rfl) (fun ν=>by kernel_rfl) fun ν hν=>?_;exact Hs.rt (v:=(.tuple #[.string (if isS 5 then AD 5 else⟨#[]⟩),.bool (isS 5)])) Tryz.func40 fun w' H=>⟨rfl,H.only⟩
  ·refine Hs.en Tryz.func40 [] [] [] [.c (.v (.int .i64 6))] (Mem.start0 w) ?_;refine Hs.runK [46,48] 1000 2 Tryz.func40 rfl (by kernel_rfl) (fun ν=>by kernel_rfl) (fun ν=>by kernel_rfl) fun ν hν=>?_;exact Hs.rt (v:=(.tuple #[.string (if isS 6 then AD 6 else⟨#[]⟩),.bool (isS 6)])) Tryz.func40 fun w' H=>⟨rfl,H.only⟩
  ·refine Hs.en Tryz.func40 [] [] [] [.c (.v (.int .i64 7))] (Mem.start0 w) ?_;refine Hs.runK [46,48] 1000 2 Tryz.func40 rfl (by kernel_rfl) (fun ν=>by kernel_rfl) (fun ν=>by kernel_rfl) fun ν hν=>?_;exact Hs.rt (v:=(.tuple #[.string (if isS 7 then AD 7 else⟨#[]⟩),.bool (isS 7)])) Tryz.func40 fun w' H=>⟨rfl,H.only⟩
  ·refine Hs.en Tryz.func40 [] [] [] [.c (.v (.int .i64 8))] (Mem.start0 w) ?_;refine Hs.runK [46,48] 1000 2 Tryz.func40 rfl (by kernel_rfl) (fun ν=>by kernel_rfl) (fun ν=>by kernel_rfl) fun ν hν=>?_;exact Hs.rt (v:=(.tuple #[.string (if isS 8 then AD 8 else⟨#[]⟩),.bool (isS 8)])) Tryz.func40 fun w' H=>⟨rfl,H.only⟩
  ·refine Hs.en Tryz.func40 [] [] [] [.c (.v (.int .i64 9))] (Mem.start0 w) ?_;refine Hs.runK [46,48] 1000 2 Tryz.func40 rfl (by kernel_rfl) (fun ν=>by kernel_rfl) (fun ν=>by kernel_rfl) fun ν hν=>?_;exact Hs.rt (v:=(.tuple #[.string (if isS 9 then AD 9 else⟨#[]⟩),.bool (isS 9)])) Tryz.func40 fun w' H=>⟨rfl,H.only⟩
  ·refine Hs.en Tryz.func40 [] [] [] [.c (.v (.int .i64 10))] (Mem.start0 w) ?_;refine Hs.runK [46,48] 1000 2 Tryz.func40 rfl (by kernel_rfl) (fun ν=>by kernel_rfl) (fun ν=>by kernel_rfl) fun ν hν=>?_;exact Hs.rt (v:=(.tuple #[.string (if isS 10 then AD 10 else⟨#[]⟩),.bool (isS 10)])) Tryz.func40 fun w' H=>⟨rfl,H.only⟩
  ·refine Hs.en Tryz.func40 [] [] [] [.c (.v (.int .i64 11))] (Mem.start0 w) ?_;refine Hs.runK [46,48] 1000 2 Tryz.func40 rfl (by kernel_rfl) (fun ν=>by kernel_rfl) (fun ν=>by kernel_rfl) fun ν hν=>?_;exact Hs.rt (v:=(.tuple #[.string (if isS 11 then AD 11 else⟨#[]⟩),.bool (isS 11)])) Tryz.func40 fun w' H=>⟨rfl,H.only⟩
  ·refine Hs.en Tryz.func40 [] [] [] [.c (.v (.int .i64 12))] (Mem.start0 w) ?_;refine Hs.runK [46,48] 1000 2 Tryz.func40 rfl (by kernel_rfl) (fun ν=>by kernel_rfl) (fun ν=>by kernel_rfl) fun ν hν=>?_;exact Hs.rt (v:=(.tuple #[.string (if isS 12 then AD 12 else⟨#[]⟩),.bool (isS 12)])) Tryz.func40 fun w' H=>⟨rfl,H.only⟩
  ·refine Hs.en Tryz.func40 [] [] [] [.c (.v (.int .i64 13))] (Mem.start0 w) ?_;refine Hs.runK [46,48] 1000 2 Tryz.func40 rfl (by kernel_rfl) (fun ν=>by kernel_rfl) (fun ν=>by kernel_rfl) fun ν hν=>?_;exact Hs.rt (v:=(.tuple #[.string (if isS 13 then AD 13 else⟨#[]⟩),.bool (isS 13)])) Tryz.func40 fun w' H=>⟨rfl,H.only⟩
  ·refine Hs.en Tryz.func40 [] [] [] [.c (.v (.int .i64 14))] (Mem.start0 w) ?_;refine Hs.runK [46,48] 1000 2 Tryz.func40 rfl (by kernel_rfl) (fun ν=>by kernel_rfl) (fun ν=>by kernel_rfl) fun ν hν=>?_;exact Hs.rt (v:=(.tuple #[.string (if isS 14 then AD 14 else⟨#[]⟩),.bool (isS 14)])) Tryz.func40 fun w' H=>⟨rfl,H.only⟩
  ·refine Hs.en Tryz.func40 [] [] [] [.c (.v (.int .i64 15))] (Mem.start0 w) ?_;refine Hs.runK [46,48] 1000 2 Tryz.func40 rfl (by kernel_rfl) (fun ν=>by kernel_rfl) (fun ν=>by kernel_rfl) fun ν hν=>?_;exact Hs.rt (v:=(.tuple #[.string (if isS 15 then AD 15 else⟨#[]⟩),.bool (isS 15)])) Tryz.func40 fun w' H=>⟨rfl,H.only⟩
  ·refine Hs.en Tryz.func40 [] [] [] [.c (.v (.int .i64 16))] (Mem.start0 w) ?_;refine Hs.runK [46,48] 1000 1 Tryz.func40 rfl (by kernel_rfl) (fun ν=>by kernel_rfl) (fun ν=>by kernel_rfl) fun ν hν=>?_;exact Hs.rt (v:=(.tuple #[.string (if isS 16 then AD 16 else⟨#[]⟩),.bool (isS 16)])) Tryz.func40 fun w' H=>⟨rfl,H.only⟩
  ·refine Hs.en Tryz.func40 [] [] [] [.c (.v (.int .i64 17))] (Mem.start0 w) ?_;refine Hs.runK [46,48] 1000 2 Tryz.func40 rfl (by kernel_rfl) (fun ν=>by kernel_rfl) (fun ν=>by kernel_rfl) fun ν hν=>?_;exact Hs.rt (v:=(.tuple #[.string (if isS 17 then AD 17 else⟨#[]⟩),.bool (isS 17)])) Tryz.func40 fun w' H=>⟨rfl,H.only⟩
  ·refine Hs.en Tryz.func40 [] [] [] [.c (.v (.int .i64 18))] (Mem.start0 w) ?_;refine Hs.runK [46,48] 1000 2 Tryz.func40 rfl (by kernel_rfl) (fun ν=>by kernel_rfl) (fun ν=>by kernel_rfl) fun ν hν=>?_;exact Hs.rt (v:=(.tuple #[.string (if isS 18 then AD 18 else⟨#[]⟩),.bool (isS 18)])) Tryz.func40 fun w' H=>⟨rfl,H.only⟩
  ·refine Hs.en Tryz.func40 [] [] [] [.c (.v (.int .i64 19))] (Mem.start0 w) ?_;refine Hs.runK [46,48] 1000 2 Tryz.func40 rfl (by kernel_rfl) (fun ν=>by kernel_rfl) (fun ν=>by kernel_rfl) fun ν hν=>?_;exact Hs.rt (v:=(.tuple #[.string (if isS 19 then AD 19 else⟨#[]⟩),.bool (isS 19)])) Tryz.func40 fun w' H=>⟨rfl,H.only⟩
  ·refine Hs.en Tryz.func40 [] [] [] [.c (.v (.int .i64 20))] (Mem.start0 w) ?_;refine Hs.runK [46,48] 1000 2 Tryz.func40 rfl (by kernel_rfl) (fun ν=>by kernel_rfl) (fun ν=>by kernel_rfl) fun ν hν=>?_;exact Hs.rt (v:=(.tuple #[.string (if isS 20 then AD 20 else⟨#[]⟩),.bool (isS 20)])) Tryz.func40 fun w' H=>⟨rfl,H.only⟩
  ·refine Hs.en Tryz.func40 [] [] [] [.c (.v (.int .i64 21))] (Mem.start0 w) ?_;refine Hs.runK [46,48] 1000 2 Tryz.func40 rfl (by kernel_rfl) (fun ν=>by kernel_rfl) (fun ν=>by kernel_rfl) fun ν hν=>?_;exact Hs.rt (v:=(.tuple #[.string (if isS 21 then AD 21 else⟨#[]⟩),.bool (isS 21)])) Tryz.func40 fun w' H=>⟨rfl,H.only⟩
  ·refine Hs.en Tryz.func40 [] [] [] [.c (.v (.int .i64 22))] (Mem.start0 w) ?_;refine Hs.runK [46,48] 1000 2 Tryz.func40 rfl (by kernel_rfl) (fun ν=>by kernel_rfl) (fun ν=>by kernel_rfl) fun ν hν=>?_;exact Hs.rt (v:=(.tuple #[.string (if isS 22 then AD 22 else⟨#[]⟩),.bool (isS 22)])) Tryz.func40 fun w' H=>⟨rfl,H.only⟩
  ·refine Hs.en Tryz.func40 [] [] [] [.c (.v (.int .i64 23))] (Mem.start0 w) ?_;refine Hs.runK [46,48] 1000 1 Tryz.func40 rfl (by kernel_rfl) (fun ν=>by kernel_rfl) (fun ν=>by kernel_rfl) fun ν hν=>?_;exact Hs.rt (v:=(.tuple #[.string (if isS 23 then AD 23 else⟨#[]⟩),.bool (isS 23)])) Tryz.func40 fun w' H=>⟨rfl,H.only⟩
  ·refine Hs.en Tryz.func40 [] [] [] [.c (.v (.int .i64 24))] (Mem.start0 w) ?_;refine Hs.runK [46,48] 1000 1 Tryz.func40 rfl (by kernel_rfl) (fun ν=>by kernel_rfl) (fun ν=>by kernel_rfl) fun ν hν=>?_;exact Hs.rt (v:=(.tuple #[.string (if isS 24 then AD 24 else⟨#[]⟩),.bool (isS 24)])) Tryz.func40 fun w' H=>⟨rfl,H.only⟩
  ·refine Hs.en Tryz.func40 [] [] [] [.c (.v (.int .i64 25))] (Mem.start0 w) ?_;refine Hs.runK [46,48] 1000 1 Tryz.func40 rfl (by kernel_rfl) (fun ν=>by kernel_rfl) (fun ν=>by kernel_rfl) fun ν hν=>?_;exact Hs.rt (v:=(.tuple #[.string (if isS 25 then AD 25 else⟨#[]⟩),.bool (isS 25)])) Tryz.func40 fun w' H=>⟨rfl,H.only⟩
  ·refine Hs.en Tryz.func40 [] [] [] [.c (.v (.int .i64 26))] (Mem.start0 w) ?_;refine Hs.runK [46,48] 1000 1 Tryz.func40 rfl (by kernel_rfl) (fun ν=>by kernel_rfl) (fun ν=>by kernel_rfl) fun ν hν=>?_;exact Hs.rt (v:=(.tuple #[.string (if isS 26 then AD 26 else⟨#[]⟩),.bool (isS 26)])) Tryz.func40 fun w' H=>⟨rfl,H.only⟩
  ·refine Hs.en Tryz.func40 [] [] [] [.c (.v (.int .i64 27))] (Mem.start0 w) ?_;refine Hs.runK [46,48] 1000 1 Tryz.func40 rfl (by kernel_rfl) (fun ν=>by kernel_rfl) (fun ν=>by kernel_rfl) fun ν hν=>?_;exact Hs.rt (v:=(.tuple #[.string (if isS 27 then AD 27 else⟨#[]⟩),.bool (isS 27)])) Tryz.func40 fun w' H=>⟨rfl,H.only⟩
  ·refine Hs.en Tryz.func40 [] [] [] [.c (.v (.int .i64 28))] (Mem.start0 w) ?_;refine Hs.runK [46,48] 1000 2 Tryz.func40 rfl (by kernel_rfl) (fun ν=>by kernel_rfl) (fun ν=>by kernel_rfl) fun ν hν=>?_;exact Hs.rt (v:=(.tuple #[.string (if isS 28 then AD 28 else⟨#[]⟩),.bool (isS 28)])) Tryz.func40 fun w' H=>⟨rfl,H.only⟩
 ·have e:isS n=false:=ST h;rw[e];refine Hs.en Tryz.func40 [] [] [] [.c (.v (.int .i64 n))] (Mem.start0 w) ?_;refine Hs.e0 ?_;refine Hs.cV (fun w' H=>by have:=aY n w';rw[e] at this;exact this) ?_;refine Hs.e0 ?_;refine Hs.cT ?_;refine Hs.e0 ?_;exact Hs.rt (v:=.tuple #[.string ⟨#[]⟩,.bool false]) Tryz.func40 fun w' H=>⟨rfl,H.only⟩
theorem VK (n:Int) (w:World):Calls Tryz.prog 25 #[.int .i64 n] w fun e w'=>e = .returned (.bool (CL n))∧Only [] w w':=by
 by_cases h:1≤n∧n≤28
 ·rcases c28 h.1 h.2 with rfl|rfl|rfl|rfl|rfl|rfl|rfl|rfl|rfl|rfl|rfl|rfl|rfl|rfl|rfl|rfl|rfl|rfl|rfl|rfl|rfl|rfl|rfl|rfl|rfl|rfl|rfl|rfl
  ·refine Hs.en Tryz.func25 [] [] [] [.c (.v (.int .i64 1))] (Mem.start0 w) ?_;refine Hs.runK [46,48] 1000 1 Tryz.func25 rfl (by kernel_rfl) (fun ν=>by kernel_rfl) (fun ν=>by kernel_rfl) fun ν hν=>?_;exact Hs.rt (v:=(.bool (CL 1))) Tryz.func25 fun w' H=>⟨rfl,H.only⟩
  ·refine Hs.en Tryz.func25 [] [] [] [.c (.v (.int .i64 2))] (Mem.start0 w) ?_;refine Hs.runK [46,48] 1000 1 Tryz.func25 rfl (by kernel_rfl) (fun ν=>by kernel_rfl) (fun ν=>by kernel_rfl) fun ν hν=>?_;exact Hs.rt (v:=(.bool (CL 2))) Tryz.func25 fun w' H=>⟨rfl,H.only⟩
  ·refine Hs.en Tryz.func25 [] [] [] [.c (.v (.int .i64 3))] (Mem.start0 w) ?_;refine Hs.runK [46,48] 1000 1 Tryz.func25 rfl (by kernel_rfl) (fun ν=>by kernel_rfl) (fun ν=>by kernel_rfl) fun ν hν=>?_;exact Hs.rt (v:=(.bool (CL 3))) Tryz.func25 fun w' H=>⟨rfl,H.only⟩
  ·refine Hs.en Tryz.func25 [] [] [] [.c (.v (.int .i64 4))] (Mem.start0 w) ?_;refine Hs.runK [46,48] 1000 1 Tryz.func25 rfl (by kernel_rfl) (fun ν=>by kernel_rfl) (fun ν=>by kernel_rfl) fun ν hν=>?_;exact Hs.rt (v:=(.bool (CL 4))) Tryz.func25 fun w' H=>⟨rfl,H.only⟩
  ·refine Hs.en Tryz.func25 [] [] [] [.c (.v (.int .i64 5))] (Mem.start0 w) ?_;refine Hs.runK [46,48] 1000 0 Tryz.func25 rfl (by kernel_rfl) (fun ν=>by kernel_rfl) (fun ν=>by kernel_rfl) fun ν hν=>?_;exact Hs.rt (v:=(.bool (CL 5))) Tryz.func25 fun w' H=>⟨rfl,H.only⟩
  ·refine Hs.en Tryz.func25 [] [] [] [.c (.v (.int .i64 6))] (Mem.start0 w) ?_;refine Hs.runK [46,48] 1000 1 Tryz.func25 rfl (by kernel_rfl) (fun ν=>by kernel_rfl) (fun ν=>by kernel_rfl) fun ν hν=>?_;exact Hs.rt (v:=(.bool (CL 6))) Tryz.func25 fun w' H=>⟨rfl,H.only⟩
  ·refine Hs.en Tryz.func25 [] [] [] [.c (.v (.int .i64 7))] (Mem.start0 w) ?_;refine Hs.runK [46,48] 1000 0 Tryz.func25 rfl (by kernel_rfl) (fun ν=>by kernel_rfl) (fun ν=>by kernel_rfl) fun ν hν=>?_;exact Hs.rt (v:=(.bool (CL 7))) Tryz.func25 fun w' H=>⟨rfl,H.only⟩
  ·refine Hs.en Tryz.func25 [] [] [] [.c (.v (.int .i64 8))] (Mem.start0 w) ?_;refine Hs.runK [46,48] 1000 1 Tryz.func25 rfl (by kernel_rfl) (fun ν=>by kernel_rfl) (fun ν=>by kernel_rfl) fun ν hν=>?_;exact Hs.rt (v:=(.bool (CL 8))) Tryz.func25 fun w' H=>⟨rfl,H.only⟩
  ·refine Hs.en Tryz.func25 [] [] [] [.c (.v (.int .i64 9))] (Mem.start0 w) ?_;refine Hs.runK [46,48] 1000 1 Tryz.func25 rfl (by kernel_rfl) (fun ν=>by kernel_rfl) (fun ν=>by kernel_rfl) fun ν hν=>?_;exact Hs.rt (v:=(.bool (CL 9))) Tryz.func25 fun w' H=>⟨rfl,H.only⟩
  ·refine Hs.en Tryz.func25 [] [] [] [.c (.v (.int .i64 10))] (Mem.start0 w) ?_;refine Hs.runK [46,48] 1000 1 Tryz.func25 rfl (by kernel_rfl) (fun ν=>by kernel_rfl) (fun ν=>by kernel_rfl) fun ν hν=>?_;exact Hs.rt (v:=(.bool (CL 10))) Tryz.func25 fun w' H=>⟨rfl,H.only⟩
  ·refine Hs.en Tryz.func25 [] [] [] [.c (.v (.int .i64 11))] (Mem.start0 w) ?_;refine Hs.runK [46,48] 1000 1 Tryz.func25 rfl (by kernel_rfl) (fun ν=>by kernel_rfl) (fun ν=>by kernel_rfl) fun ν hν=>?_;exact Hs.rt (v:=(.bool (CL 11))) Tryz.func25 fun w' H=>⟨rfl,H.only⟩
  ·refine Hs.en Tryz.func25 [] [] [] [.c (.v (.int .i64 12))] (Mem.start0 w) ?_;refine Hs.runK [46,48] 1000 1 Tryz.func25 rfl (by kernel_rfl) (fun ν=>by kernel_rfl) (fun ν=>by kernel_rfl) fun ν hν=>?_;exact Hs.rt (v:=(.bool (CL 12))) Tryz.func25 fun w' H=>⟨rfl,H.only⟩
  ·refine Hs.en Tryz.func25 [] [] [] [.c (.v (.int .i64 13))] (Mem.start0 w) ?_;refine Hs.runK [46,48] 1000 1 Tryz.func25 rfl (by kernel_rfl) (fun ν=>by kernel_rfl) (fun ν=>by kernel_rfl) fun ν hν=>?_;exact Hs.rt (v:=(.bool (CL 13))) Tryz.func25 fun w' H=>⟨rfl,H.only⟩
  ·refine Hs.en Tryz.func25 [] [] [] [.c (.v (.int .i64 14))] (Mem.start0 w) ?_;refine Hs.runK [46,48] 1000 1 Tryz.func25 rfl (by kernel_rfl) (fun ν=>by kernel_rfl) (fun ν=>by kernel_rfl) fun ν hν=>?_;exact Hs.rt (v:=(.bool (CL 14))) Tryz.func25 fun w' H=>⟨rfl,H.only⟩
  ·refine Hs.en Tryz.func25 [] [] [] [.c (.v (.int .i64 15))] (Mem.start0 w) ?_;refine Hs.runK [46,48] 1000 1 Tryz.func25 rfl (by kernel_rfl) (fun ν=>by kernel_rfl) (fun ν=>by kernel_rfl) fun ν hν=>?_;exact Hs.rt (v:=(.bool (CL 15))) Tryz.func25 fun w' H=>⟨rfl,H.only⟩
  ·refine Hs.en Tryz.func25 [] [] [] [.c (.v (.int .i64 16))] (Mem.start0 w) ?_;refine Hs.runK [46,48] 1000 1 Tryz.func25 rfl (by kernel_rfl) (fun ν=>by kernel_rfl) (fun ν=>by kernel_rfl) fun ν hν=>?_;exact Hs.rt (v:=(.bool (CL 16))) Tryz.func25 fun w' H=>⟨rfl,H.only⟩
  ·refine Hs.en Tryz.func25 [] [] [] [.c (.v (.int .i64 17))] (Mem.start0 w) ?_;refine Hs.runK [46,48] 1000 1 Tryz.func25 rfl (by kernel_rfl) (fun ν=>by kernel_rfl) (fun ν=>by kernel_rfl) fun ν hν=>?_;exact Hs.rt (v:=(.bool (CL 17))) Tryz.func25 fun w' H=>⟨rfl,H.only⟩
  ·refine Hs.en Tryz.func25 [] [] [] [.c (.v (.int .i64 18))] (Mem.start0 w) ?_;refine Hs.runK [46,48] 1000 1 Tryz.func25 rfl (by kernel_rfl) (fun ν=>by kernel_rfl) (fun ν=>by kernel_rfl) fun ν hν=>?_;exact Hs.rt (v:=(.bool (CL 18))) Tryz.func25 fun w' H=>⟨rfl,H.only⟩
  ·refine Hs.en Tryz.func25 [] [] [] [.c (.v (.int .i64 19))] (Mem.start0 w) ?_;refine Hs.runK [46,48] 1000 1 Tryz.func25 rfl (by kernel_rfl) (fun ν=>by kernel_rfl) (fun ν=>by kernel_rfl) fun ν hν=>?_;exact Hs.rt (v:=(.bool (CL 19))) Tryz.func25 fun w' H=>⟨rfl,H.only⟩
  ·refine Hs.en Tryz.func25 [] [] [] [.c (.v (.int .i64 20))] (Mem.start0 w) ?_;refine Hs.runK [46,48] 1000 1 Tryz.func25 rfl (by kernel_rfl) (fun ν=>by kernel_rfl) (fun ν=>by kernel_rfl) fun ν hν=>?_;exact Hs.rt (v:=(.bool (CL 20))) Tryz.func25 fun w' H=>⟨rfl,H.only⟩
  ·refine Hs.en Tryz.func25 [] [] [] [.c (.v (.int .i64 21))] (Mem.start0 w) ?_;refine Hs.runK [46,48] 1000 1 Tryz.func25 rfl (by kernel_rfl) (fun ν=>by kernel_rfl) (fun ν=>by kernel_rfl) fun ν hν=>?_;exact Hs.rt (v:=(.bool (CL 21))) Tryz.func25 fun w' H=>⟨rfl,H.only⟩
  ·refine Hs.en Tryz.func25 [] [] [] [.c (.v (.int .i64 22))] (Mem.start0 w) ?_;refine Hs.runK [46,48] 1000 1 Tryz.func25 rfl (by kernel_rfl) (fun ν=>by kernel_rfl) (fun ν=>by kernel_rfl) fun ν hν=>?_;exact Hs.rt (v:=(.bool (CL 22))) Tryz.func25 fun w' H=>⟨rfl,H.only⟩
  ·refine Hs.en Tryz.func25 [] [] [] [.c (.v (.int .i64 23))] (Mem.start0 w) ?_;refine Hs.runK [46,48] 1000 1 Tryz.func25 rfl (by kernel_rfl) (fun ν=>by kernel_rfl) (fun ν=>by kernel_rfl) fun ν hν=>?_;exact Hs.rt (v:=(.bool (CL 23))) Tryz.func25 fun w' H=>⟨rfl,H.only⟩
  ·refine Hs.en Tryz.func25 [] [] [] [.c (.v (.int .i64 24))] (Mem.start0 w) ?_;refine Hs.runK [46,48] 1000 1 Tryz.func25 rfl (by kernel_rfl) (fun ν=>by kernel_rfl) (fun ν=>by kernel_rfl) fun ν hν=>?_;exact Hs.rt (v:=(.bool (CL 24))) Tryz.func25 fun w' H=>⟨rfl,H.only⟩
  ·refine Hs.en Tryz.func25 [] [] [] [.c (.v (.int .i64 25))] (Mem.start0 w) ?_;refine Hs.runK [46,48] 1000 1 Tryz.func25 rfl (by kernel_rfl) (fun ν=>by kernel_rfl) (fun ν=>by kernel_rfl) fun ν hν=>?_;exact Hs.rt (v:=(.bool (CL 25))) Tryz.func25 fun w' H=>⟨rfl,H.only⟩
  ·refine Hs.en Tryz.func25 [] [] [] [.c (.v (.int .i64 26))] (Mem.start0 w) ?_;refine Hs.runK [46,48] 1000 1 Tryz.func25 rfl (by kernel_rfl) (fun ν=>by kernel_rfl) (fun ν=>by kernel_rfl) fun ν hν=>?_;exact Hs.rt (v:=(.bool (CL 26))) Tryz.func25 fun w' H=>⟨rfl,H.only⟩
  ·refine Hs.en Tryz.func25 [] [] [] [.c (.v (.int .i64 27))] (Mem.start0 w) ?_;refine Hs.runK [46,48] 1000 1 Tryz.func25 rfl (by kernel_rfl) (fun ν=>by kernel_rfl) (fun ν=>by kernel_rfl) fun ν hν=>?_;exact Hs.rt (v:=(.bool (CL 27))) Tryz.func25 fun w' H=>⟨rfl,H.only⟩
  ·refine Hs.en Tryz.func25 [] [] [] [.c (.v (.int .i64 28))] (Mem.start0 w) ?_;refine Hs.runK [46,48] 1000 1 Tryz.func25 rfl (by kernel_rfl) (fun ν=>by kernel_rfl) (fun ν=>by kernel_rfl) fun ν hν=>?_;exact Hs.rt (v:=(.bool (CL 28))) Tryz.func25 fun w' H=>⟨rfl,H.only⟩
 ·have e:CL n=false:=by unfold CL;rw[ST h];rfl
  rw[e];have n5: ¬n=5:=fun e=>h (by omega);have n7: ¬n=7:=fun e=>h (by omega);refine Hs.en Tryz.func25 [] [] [] [.c (.v (.int .i64 n))] (Mem.start0 w) ?_;refine Hs.e0 ?_;refine Hs.cn (n==5) (fun h1=>absurd (by simpa using h1) n5) (fun _=>?_);refine Hs.e0 ?_;refine Hs.cn (n==7) (fun h1=>absurd (by simpa using h1) n7) (fun _=>?_);refine Hs.e0 ?_;refine Hs.cV (fun w' H=>by have:=aY n w';rw[ST h] at this;exact this) ?_;refine Hs.eg [2] ?_;exact Hs.rt (v:=.bool false) Tryz.func25 fun w' H=>⟨rfl,H.only⟩
def MT (nm:ByteArray):List ByteArray→Int→Int
 |[],_=>-1
 |s::l,i=>if eqL nm.data.toList s.data.toList then i else MT nm l (i+1)
def numI (nm:ByteArray):Int:=MT nm sigL 0
def FE (nm:ByteArray):Int:=if numI nm>0 then numI nm else 0
def FF (nm:ByteArray):Bool:=decide (numI nm>0)
theorem eqT (a b:ByteArray):eqL a.data.toList b.data.toList=(a.toList==b.toList):=by rw[YC,ByteArray.toList_eq,ByteArray.toList_eq]
theorem CG {nm s:ByteArray} {l:List ByteArray} {i:Int} (h:(nm.toList==s.toList)=false):MT nm (s::l) i=MT nm l (i+1):=by
 unfold MT;rw[if_neg (by rw[eqT,h];decide)];cases l<;>rfl
theorem BG {nm s:ByteArray} {l:List ByteArray} {i:Int} (h:(nm.toList==s.toList)=true):MT nm (s::l) i=i:=by
 unfold MT;rw[if_pos (by rw[eqT,h])]
theorem YM (nm:ByteArray) (w:World):Calls Tryz.prog 24 #[.string nm] w fun e w'=>e = .returned (.tuple #[.int .i64 (FE nm),.bool (FF nm)])∧Only [] w w':=by
 have e0:numI nm=MT nm sigL 0:=rfl;have fin: ∀{k:Int},numI nm=k→∀{e:Ending} {w1:World},e = .returned (.tuple #[.int .i64 (if k>0 then k else 0),.bool (decide (k>0))])∧Only [] w w1→e = .returned (.tuple #[.int .i64 (FE nm),.bool (FF nm)])∧Only [] w w1:=fun {k} hk {e w1} h=>by
  unfold FE FF;rw[hk];exact h
 refine Hs.en Tryz.func24 [] [] [] [.c (.v (.string nm))] (Mem.start0 w) ?_;refine Hs.e0 ?_;refine Hs.cn (nm.toList==ByteArray.toList ⟨#[]⟩) (fun h=>?_) (fun h0=>?_)
 ·refine Hs.e0 ?_;exact Hs.rt (v:=.tuple #[.int .i64 0,.bool false]) Tryz.func24 fun w' H=>fin (k:=0) (e0.trans (BG h)) ⟨rfl,H.only⟩
 refine Hs.runK [46] 60 2 Tryz.func24 rfl (by kernel_rfl) (fun ν=>by kernel_rfl) (fun ν=>by kernel_rfl) fun ν hν=>?_;obtain⟨b0,b1,rfl⟩: ∃b0 b1,ν=[b0,b1]:=by
  match ν,hν with
  |[b0,b1],_=>exact⟨b0,b1,rfl⟩
 refine Hs.inl Tryz.func47 [.c (.s 1 0 29 29),.c (.v (.string nm))] (by kernel_rfl) (by kernel_rfl) ?_;refine Hs.e0 ?_;refine Hs.lP ?_;refine Hs.e0 ?_;refine Hs.cT ?_;refine Hs.e0 ?_;refine Hs.cn (nm.toList==ByteArray.toList ⟨#[]⟩) (fun h=>?_) (fun h1=>?_)
 ·refine Hs.e0 ?_;refine Hs.retI Tryz.func47 (by kernel_rfl) (by kernel_rfl) (by kernel_rfl) ?_;refine Hs.e0 ?_;exact Hs.rt (v:=.tuple #[.int .i64 0,.bool false]) Tryz.func24 fun w' H=>fin (k:=0) (e0.trans (BG h)) ⟨rfl,H.only⟩
 have e1:=e0.trans (CG h1);refine Hs.e0 ?_;refine Hs.lP ?_;refine Hs.e0 ?_;refine Hs.cT ?_;refine Hs.e0 ?_;refine Hs.cn (nm.toList==ByteArray.toList ⟨#[72,85,80]⟩) (fun h=>?_) (fun h2=>?_)
 ·refine Hs.e0 ?_;refine Hs.retI Tryz.func47 (by kernel_rfl) (by kernel_rfl) (by kernel_rfl) ?_;refine Hs.e0 ?_;exact Hs.rt (v:=.tuple #[.int .i64 1,.bool true]) Tryz.func24 fun w' H=>fin (k:=1) (e1.trans (BG h)) ⟨rfl,H.only⟩
 have e2:=e1.trans (CG h2);refine Hs.e0 ?_;refine Hs.lP ?_;refine Hs.e0 ?_;refine Hs.cT ?_;refine Hs.e0 ?_;refine Hs.cn (nm.toList==ByteArray.toList ⟨#[73,78,84]⟩) (fun h=>?_) (fun h3=>?_)
 ·refine Hs.e0 ?_;refine Hs.retI Tryz.func47 (by kernel_rfl) (by kernel_rfl) (by kernel_rfl) ?_;refine Hs.e0 ?_;exact Hs.rt (v:=.tuple #[.int .i64 2,.bool true]) Tryz.func24 fun w' H=>fin (k:=2) (e2.trans (BG h)) ⟨rfl,H.only⟩
 have e3:=e2.trans (CG h3);refine Hs.e0 ?_;refine Hs.lP ?_;refine Hs.e0 ?_;refine Hs.cT ?_;refine Hs.e0 ?_;refine Hs.cn (nm.toList==ByteArray.toList ⟨#[81,85,73,84]⟩) (fun h=>?_) (fun h4=>?_)
 ·refine Hs.e0 ?_;refine Hs.retI Tryz.func47 (by kernel_rfl) (by kernel_rfl) (by kernel_rfl) ?_;refine Hs.e0 ?_;exact Hs.rt (v:=.tuple #[.int .i64 3,.bool true]) Tryz.func24 fun w' H=>fin (k:=3) (e3.trans (BG h)) ⟨rfl,H.only⟩
 have e4:=e3.trans (CG h4);refine Hs.e0 ?_;refine Hs.lP ?_;refine Hs.e0 ?_;refine Hs.cT ?_;refine Hs.e0 ?_;refine Hs.cn (nm.toList==ByteArray.toList ⟨#[73,76,76]⟩) (fun h=>?_) (fun h5=>?_)
 ·refine Hs.e0 ?_;refine Hs.retI Tryz.func47 (by kernel_rfl) (by kernel_rfl) (by kernel_rfl) ?_;refine Hs.e0 ?_;exact Hs.rt (v:=.tuple #[.int .i64 4,.bool true]) Tryz.func24 fun w' H=>fin (k:=4) (e4.trans (BG h)) ⟨rfl,H.only⟩
 have e5:=e4.trans (CG h5);refine Hs.e0 ?_;refine Hs.lP ?_;refine Hs.e0 ?_;refine Hs.cT ?_;refine Hs.e0 ?_;refine Hs.cn (nm.toList==ByteArray.toList ⟨#[84,82,65,80]⟩) (fun h=>?_) (fun h6=>?_)
 ·refine Hs.e0 ?_;refine Hs.retI Tryz.func47 (by kernel_rfl) (by kernel_rfl) (by kernel_rfl) ?_;refine Hs.e0 ?_;exact Hs.rt (v:=.tuple #[.int .i64 5,.bool true]) Tryz.func24 fun w' H=>fin (k:=5) (e5.trans (BG h)) ⟨rfl,H.only⟩
 have e6:=e5.trans (CG h6);refine Hs.e0 ?_;refine Hs.lP ?_;refine Hs.e0 ?_;refine Hs.cT ?_;refine Hs.e0 ?_;refine Hs.cn (nm.toList==ByteArray.toList ⟨#[65,66,82,84]⟩) (fun h=>?_) (fun h7=>?_)
 ·refine Hs.e0 ?_;refine Hs.retI Tryz.func47 (by kernel_rfl) (by kernel_rfl) (by kernel_rfl) ?_;refine Hs.e0 ?_;exact Hs.rt (v:=.tuple #[.int .i64 6,.bool true]) Tryz.func24 fun w' H=>fin (k:=6) (e6.trans (BG h)) ⟨rfl,H.only⟩
 have e7:=e6.trans (CG h7);refine Hs.e0 ?_;refine Hs.lP ?_;refine Hs.e0 ?_;refine Hs.cT ?_;refine Hs.e0 ?_;refine Hs.cn (nm.toList==ByteArray.toList ⟨#[66,85,83]⟩) (fun h=>?_) (fun h8=>?_)
 ·refine Hs.e0 ?_;refine Hs.retI Tryz.func47 (by kernel_rfl) (by kernel_rfl) (by kernel_rfl) ?_;refine Hs.e0 ?_;exact Hs.rt (v:=.tuple #[.int .i64 7,.bool true]) Tryz.func24 fun w' H=>fin (k:=7) (e7.trans (BG h)) ⟨rfl,H.only⟩
 have e8:=e7.trans (CG h8);refine Hs.e0 ?_;refine Hs.lP ?_;refine Hs.e0 ?_;refine Hs.cT ?_;refine Hs.e0 ?_;refine Hs.cn (nm.toList==ByteArray.toList ⟨#[70,80,69]⟩) (fun h=>?_) (fun h9=>?_)
 ·refine Hs.e0 ?_;refine Hs.retI Tryz.func47 (by kernel_rfl) (by kernel_rfl) (by kernel_rfl) ?_;refine Hs.e0 ?_;exact Hs.rt (v:=.tuple #[.int .i64 8,.bool true]) Tryz.func24 fun w' H=>fin (k:=8) (e8.trans (BG h)) ⟨rfl,H.only⟩
 have e9:=e8.trans (CG h9);refine Hs.e0 ?_;refine Hs.lP ?_;refine Hs.e0 ?_;refine Hs.cT ?_;refine Hs.e0 ?_;refine Hs.cn (nm.toList==ByteArray.toList ⟨#[75,73,76,76]⟩) (fun h=>?_) (fun h10=>?_)
 ·refine Hs.e0 ?_;refine Hs.retI Tryz.func47 (by kernel_rfl) (by kernel_rfl) (by kernel_rfl) ?_;refine Hs.e0 ?_;exact Hs.rt (v:=.tuple #[.int .i64 9,.bool true]) Tryz.func24 fun w' H=>fin (k:=9) (e9.trans (BG h)) ⟨rfl,H.only⟩
 have e10:=e9.trans (CG h10);refine Hs.e0 ?_;refine Hs.lP ?_;refine Hs.e0 ?_;refine Hs.cT ?_;refine Hs.e0 ?_;refine Hs.cn (nm.toList==ByteArray.toList ⟨#[85,83,82,49]⟩) (fun h=>?_) (fun h11=>?_)
 ·refine Hs.e0 ?_;refine Hs.retI Tryz.func47 (by kernel_rfl) (by kernel_rfl) (by kernel_rfl) ?_;refine Hs.e0 ?_;exact Hs.rt (v:=.tuple #[.int .i64 10,.bool true]) Tryz.func24 fun w' H=>fin (k:=10) (e10.trans (BG h)) ⟨rfl,H.only⟩
 have e11:=e10.trans (CG h11);refine Hs.e0 ?_;refine Hs.lP ?_;refine Hs.e0 ?_;refine Hs.cT ?_;refine Hs.e0 ?_;refine Hs.cn (nm.toList==ByteArray.toList ⟨#[83,69,71,86]⟩) (fun h=>?_) (fun h12=>?_)
 ·refine Hs.e0 ?_;refine Hs.retI Tryz.func47 (by kernel_rfl) (by kernel_rfl) (by kernel_rfl) ?_;refine Hs.e0 ?_;exact Hs.rt (v:=.tuple #[.int .i64 11,.bool true]) Tryz.func24 fun w' H=>fin (k:=11) (e11.trans (BG h)) ⟨rfl,H.only⟩
 have e12:=e11.trans (CG h12);refine Hs.e0 ?_;refine Hs.lP ?_;refine Hs.e0 ?_;refine Hs.cT ?_;refine Hs.e0 ?_;refine Hs.cn (nm.toList==ByteArray.toList ⟨#[85,83,82,50]⟩) (fun h=>?_) (fun h13=>?_)
 ·refine Hs.e0 ?_;refine Hs.retI Tryz.func47 (by kernel_rfl) (by kernel_rfl) (by kernel_rfl) ?_;refine Hs.e0 ?_;exact Hs.rt (v:=.tuple #[.int .i64 12,.bool true]) Tryz.func24 fun w' H=>fin (k:=12) (e12.trans (BG h)) ⟨rfl,H.only⟩
 have e13:=e12.trans (CG h13);refine Hs.e0 ?_;refine Hs.lP ?_;refine Hs.e0 ?_;refine Hs.cT ?_;refine Hs.e0 ?_;refine Hs.cn (nm.toList==ByteArray.toList ⟨#[80,73,80,69]⟩) (fun h=>?_) (fun h14=>?_)
 ·refine Hs.e0 ?_;refine Hs.retI Tryz.func47 (by kernel_rfl) (by kernel_rfl) (by kernel_rfl) ?_;refine Hs.e0 ?_;exact Hs.rt (v:=.tuple #[.int .i64 13,.bool true]) Tryz.func24 fun w' H=>fin (k:=13) (e13.trans (BG h)) ⟨rfl,H.only⟩
 have e14:=e13.trans (CG h14);refine Hs.e0 ?_;refine Hs.lP ?_;refine Hs.e0 ?_;refine Hs.cT ?_;refine Hs.e0 ?_;refine Hs.cn (nm.toList==ByteArray.toList ⟨#[65,76,82,77]⟩) (fun h=>?_) (fun h15=>?_)
 ·refine Hs.e0 ?_;refine Hs.retI Tryz.func47 (by kernel_rfl) (by kernel_rfl) (by kernel_rfl) ?_;refine Hs.e0 ?_;exact Hs.rt (v:=.tuple #[.int .i64 14,.bool true]) Tryz.func24 fun w' H=>fin (k:=14) (e14.trans (BG h)) ⟨rfl,H.only⟩
 have e15:=e14.trans (CG h15);refine Hs.e0 ?_;refine Hs.lP ?_;refine Hs.e0 ?_;refine Hs.cT ?_;refine Hs.e0 ?_;refine Hs.cn (nm.toList==ByteArray.toList ⟨#[84,69,82,77]⟩) (fun h=>?_) (fun h16=>?_)
 ·refine Hs.e0 ?_;refine Hs.retI Tryz.func47 (by kernel_rfl) (by kernel_rfl) (by kernel_rfl) ?_;refine Hs.e0 ?_;exact Hs.rt (v:=.tuple #[.int .i64 15,.bool true]) Tryz.func24 fun w' H=>fin (k:=15) (e15.trans (BG h)) ⟨rfl,H.only⟩
 have e16:=e15.trans (CG h16);refine Hs.e0 ?_;refine Hs.lP ?_;refine Hs.e0 ?_;refine Hs.cT ?_;refine Hs.e0 ?_;refine Hs.cn (nm.toList==ByteArray.toList ⟨#[]⟩) (fun h=>?_) (fun h17=>?_)
 ·refine Hs.e0 ?_;refine Hs.retI Tryz.func47 (by kernel_rfl) (by kernel_rfl) (by kernel_rfl) ?_;refine Hs.e0 ?_;exact Hs.rt (v:=.tuple #[.int .i64 16,.bool true]) Tryz.func24 fun w' H=>fin (k:=16) (e16.trans (BG h)) ⟨rfl,H.only⟩
 have e17:=e16.trans (CG h17);refine Hs.e0 ?_;refine Hs.lP ?_;refine Hs.e0 ?_;refine Hs.cT ?_;refine Hs.e0 ?_;refine Hs.cn (nm.toList==ByteArray.toList ⟨#[67,72,76,68]⟩) (fun h=>?_) (fun h18=>?_)
 ·refine Hs.e0 ?_;refine Hs.retI Tryz.func47 (by kernel_rfl) (by kernel_rfl) (by kernel_rfl) ?_;refine Hs.e0 ?_;exact Hs.rt (v:=.tuple #[.int .i64 17,.bool true]) Tryz.func24 fun w' H=>fin (k:=17) (e17.trans (BG h)) ⟨rfl,H.only⟩
 have e18:=e17.trans (CG h18);refine Hs.e0 ?_;refine Hs.lP ?_;refine Hs.e0 ?_;refine Hs.cT ?_;refine Hs.e0 ?_;refine Hs.cn (nm.toList==ByteArray.toList ⟨#[67,79,78,84]⟩) (fun h=>?_) (fun h19=>?_)
 ·refine Hs.e0 ?_;refine Hs.retI Tryz.func47 (by kernel_rfl) (by kernel_rfl) (by kernel_rfl) ?_;refine Hs.e0 ?_;exact Hs.rt (v:=.tuple #[.int .i64 18,.bool true]) Tryz.func24 fun w' H=>fin (k:=18) (e18.trans (BG h)) ⟨rfl,H.only⟩
 have e19:=e18.trans (CG h19);refine Hs.e0 ?_;refine Hs.lP ?_;refine Hs.e0 ?_;refine Hs.cT ?_;refine Hs.e0 ?_;refine Hs.cn (nm.toList==ByteArray.toList ⟨#[83,84,79,80]⟩) (fun h=>?_) (fun h20=>?_)
 ·refine Hs.e0 ?_;refine Hs.retI Tryz.func47 (by kernel_rfl) (by kernel_rfl) (by kernel_rfl) ?_;refine Hs.e0 ?_;exact Hs.rt (v:=.tuple #[.int .i64 19,.bool true]) Tryz.func24 fun w' H=>fin (k:=19) (e19.trans (BG h)) ⟨rfl,H.only⟩
 have e20:=e19.trans (CG h20);refine Hs.e0 ?_;refine Hs.lP ?_;refine Hs.e0 ?_;refine Hs.cT ?_;refine Hs.e0 ?_;refine Hs.cn (nm.toList==ByteArray.toList ⟨#[84,83,84,80]⟩) (fun h=>?_) (fun h21=>?_)
 ·refine Hs.e0 ?_;refine Hs.retI Tryz.func47 (by kernel_rfl) (by kernel_rfl) (by kernel_rfl) ?_;refine Hs.e0 ?_;exact Hs.rt (v:=.tuple #[.int .i64 20,.bool true]) Tryz.func24 fun w' H=>fin (k:=20) (e20.trans (BG h)) ⟨rfl,H.only⟩
 have e21:=e20.trans (CG h21);refine Hs.e0 ?_;refine Hs.lP ?_;refine Hs.e0 ?_;refine Hs.cT ?_;refine Hs.e0 ?_;refine Hs.cn (nm.toList==ByteArray.toList ⟨#[84,84,73,78]⟩) (fun h=>?_) (fun h22=>?_)
 ·refine Hs.e0 ?_;refine Hs.retI Tryz.func47 (by kernel_rfl) (by kernel_rfl) (by kernel_rfl) ?_;refine Hs.e0 ?_;exact Hs.rt (v:=.tuple #[.int .i64 21,.bool true]) Tryz.func24 fun w' H=>fin (k:=21) (e21.trans (BG h)) ⟨rfl,H.only⟩
 have e22:=e21.trans (CG h22);refine Hs.e0 ?_;refine Hs.lP ?_;refine Hs.e0 ?_;refine Hs.cT ?_;refine Hs.e0 ?_;refine Hs.cn (nm.toList==ByteArray.toList ⟨#[84,84,79,85]⟩) (fun h=>?_) (fun h23=>?_)
 ·refine Hs.e0 ?_;refine Hs.retI Tryz.func47 (by kernel_rfl) (by kernel_rfl) (by kernel_rfl) ?_;refine Hs.e0 ?_;exact Hs.rt (v:=.tuple #[.int .i64 22,.bool true]) Tryz.func24 fun w' H=>fin (k:=22) (e22.trans (BG h)) ⟨rfl,H.only⟩
 have e23:=e22.trans (CG h23);refine Hs.e0 ?_;refine Hs.lP ?_;refine Hs.e0 ?_;refine Hs.cT ?_;refine Hs.e0 ?_;refine Hs.cn (nm.toList==ByteArray.toList ⟨#[]⟩) (fun h=>?_) (fun h24=>?_)
 ·refine Hs.e0 ?_;refine Hs.retI Tryz.func47 (by kernel_rfl) (by kernel_rfl) (by kernel_rfl) ?_;refine Hs.e0 ?_;exact Hs.rt (v:=.tuple #[.int .i64 23,.bool true]) Tryz.func24 fun w' H=>fin (k:=23) (e23.trans (BG h)) ⟨rfl,H.only⟩
 have e24:=e23.trans (CG h24);refine Hs.e0 ?_;refine Hs.lP ?_;refine Hs.e0 ?_;refine Hs.cT ?_;refine Hs.e0 ?_;refine Hs.cn (nm.toList==ByteArray.toList ⟨#[]⟩) (fun h=>?_) (fun h25=>?_)
 ·refine Hs.e0 ?_;refine Hs.retI Tryz.func47 (by kernel_rfl) (by kernel_rfl) (by kernel_rfl) ?_;refine Hs.e0 ?_;exact Hs.rt (v:=.tuple #[.int .i64 24,.bool true]) Tryz.func24 fun w' H=>fin (k:=24) (e24.trans (BG h)) ⟨rfl,H.only⟩
 have e25:=e24.trans (CG h25);refine Hs.e0 ?_;refine Hs.lP ?_;refine Hs.e0 ?_;refine Hs.cT ?_;refine Hs.e0 ?_;refine Hs.cn (nm.toList==ByteArray.toList ⟨#[]⟩) (fun h=>?_) (fun h26=>?_)
 ·refine Hs.e0 ?_;refine Hs.retI Tryz.func47 (by kernel_rfl) (by kernel_rfl) (by kernel_rfl) ?_;refine Hs.e0 ?_;exact Hs.rt (v:=.tuple #[.int .i64 25,.bool true]) Tryz.func24 fun w' H=>fin (k:=25) (e25.trans (BG h)) ⟨rfl,H.only⟩
 have e26:=e25.trans (CG h26);refine Hs.e0 ?_;refine Hs.lP ?_;refine Hs.e0 ?_;refine Hs.cT ?_;refine Hs.e0 ?_;refine Hs.cn (nm.toList==ByteArray.toList ⟨#[]⟩) (fun h=>?_) (fun h27=>?_)
 ·refine Hs.e0 ?_;refine Hs.retI Tryz.func47 (by kernel_rfl) (by kernel_rfl) (by kernel_rfl) ?_;refine Hs.e0 ?_;exact Hs.rt (v:=.tuple #[.int .i64 26,.bool true]) Tryz.func24 fun w' H=>fin (k:=26) (e26.trans (BG h)) ⟨rfl,H.only⟩
 have e27:=e26.trans (CG h27);refine Hs.e0 ?_;refine Hs.lP ?_;refine Hs.e0 ?_;refine Hs.cT ?_;refine Hs.e0 ?_;refine Hs.cn (nm.toList==ByteArray.toList ⟨#[]⟩) (fun h=>?_) (fun h28=>?_)
 ·refine Hs.e0 ?_;refine Hs.retI Tryz.func47 (by kernel_rfl) (by kernel_rfl) (by kernel_rfl) ?_;refine Hs.e0 ?_;exact Hs.rt (v:=.tuple #[.int .i64 27,.bool true]) Tryz.func24 fun w' H=>fin (k:=27) (e27.trans (BG h)) ⟨rfl,H.only⟩
 have e28:=e27.trans (CG h28);refine Hs.e0 ?_;refine Hs.lP ?_;refine Hs.e0 ?_;refine Hs.cT ?_;refine Hs.e0 ?_;refine Hs.cn (nm.toList==ByteArray.toList ⟨#[87,73,78,67,72]⟩) (fun h=>?_) (fun h29=>?_)
 ·refine Hs.e0 ?_;refine Hs.retI Tryz.func47 (by kernel_rfl) (by kernel_rfl) (by kernel_rfl) ?_;refine Hs.e0 ?_;exact Hs.rt (v:=.tuple #[.int .i64 28,.bool true]) Tryz.func24 fun w' H=>fin (k:=28) (e28.trans (BG h)) ⟨rfl,H.only⟩
 have e29:=e28.trans (CG h29);refine Hs.e0 ?_;refine Hs.lP ?_;refine Hs.e0 ?_;refine Hs.cF ?_;refine Hs.e0 ?_;refine Hs.retI Tryz.func47 (by kernel_rfl) (by kernel_rfl) (by kernel_rfl) ?_;refine Hs.e0 ?_;exact Hs.rt (v:=.tuple #[.int .i64 0,.bool false]) Tryz.func24 fun w' H=>fin (k:=-1) e29 ⟨rfl,H.only⟩
end Go.Proofs.YtdplnedpbkpgpaaGreatDoor
