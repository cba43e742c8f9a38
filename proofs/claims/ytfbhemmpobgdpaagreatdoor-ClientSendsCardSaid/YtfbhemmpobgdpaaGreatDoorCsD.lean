/- ClientSends: lemmas, from 'Layer 2: a packet's length' on; what each asks for stands in it. -/
import Derived.Test.YtfbhemmpobgdpaaGreatDoorCsC
import Derived.Lib.MakeNoZero
import Derived.Laws.Externs
import Derived.Test.YtfbhemmpobgdpaaGreatDoorCsA
import Derived.WalkSpells
import Derived.IntWalk
import Derived.Test.YtfbhemmpobgdpaaGreatDoorShelf
import Derived.Lib.ConvBytes
import Derived.Lib.SliceRun
set_option linter.all false
set_option maxRecDepth 100000
set_option maxHeartbeats 64000000
namespace Go.Proofs.YtfbhemmpobgdpaaGreatDoor
open Go.RowKit
theorem or_add (k p b:Nat) (hb:b<2 ^ k) (h:2 ^ k*p+b<4611686018427387904):IntKind.i64.wrap ((BitVec.ofInt IntKind.i64.bits ((2 ^ k*p:Nat):Int) ||| BitVec.ofInt IntKind.i64.bits (b:Int)).toNat:Int)=((2 ^ k*p+b:Nat):Int):=by
 have hbits:IntKind.i64.bits=64:=rfl;rw[hbits,BitVec.ofInt_natCast,BitVec.ofInt_natCast,BitVec.toNat_or,BitVec.toNat_ofNat,BitVec.toNat_ofNat,Nat.mod_eq_of_lt (by omega),Nat.mod_eq_of_lt (by omega),<-Nat.two_pow_add_eq_or_of_lt hb,IntWalk.i64_in _ (by omega)]
theorem num4_eq (x0 x1 x2 x3:Int) (h0:0<=x0/\x0<256) (h1:0<=x1/\x1<256) (h2:0<=x2/\x2<256) (h3:0<=x3/\x3<256):IntKind.i64.wrap ((BitVec.ofInt IntKind.i64.bits (IntKind.i64.wrap ((BitVec.ofInt IntKind.i64.bits (IntKind.i64.wrap ((BitVec.ofInt IntKind.i64.bits (IntKind.i64.wrap (IntKind.i64.wrap x0*2 ^ min (Int.toNat 24) IntKind.i64.bits)) ||| BitVec.ofInt IntKind.i64.bits (IntKind.i64.wrap (IntKind.i64.wrap x1*2 ^ min (Int.toNat 16) IntKind.i64.bits))).toNat:Int)) ||| BitVec.ofInt IntKind.i64.bits (IntKind.i64.wrap (IntKind.i64.wrap x2*2 ^ min (Int.toNat 8) IntKind.i64.bits))).toNat:Int)) ||| BitVec.ofInt IntKind.i64.bits (IntKind.i64.wrap x3)).toNat:Int)=x0*16777216+x1*65536+x2*256+x3:=by
 obtain⟨n0,rfl⟩:=Int.eq_ofNat_of_zero_le h0.1;obtain⟨n1,rfl⟩:=Int.eq_ofNat_of_zero_le h1.1;obtain⟨n2,rfl⟩:=Int.eq_ofNat_of_zero_le h2.1;obtain⟨n3,rfl⟩:=Int.eq_ofNat_of_zero_le h3.1;have k24:(2:Int) ^ min (Int.toNat 24) IntKind.i64.bits=16777216:=by decide
 have k16:(2:Int) ^ min (Int.toNat 16) IntKind.i64.bits=65536:=by decide
 have k8:(2:Int) ^ min (Int.toNat 8) IntKind.i64.bits=256:=by decide
 rw[k24,k16,k8,IntWalk.i64_in (n0:Int) (by omega),IntWalk.i64_in (n1:Int) (by omega),IntWalk.i64_in (n2:Int) (by omega),IntWalk.i64_in (n3:Int) (by omega),IntWalk.i64_in ((n0:Int)*16777216) (by omega),IntWalk.i64_in ((n1:Int)*65536) (by omega),IntWalk.i64_in ((n2:Int)*256) (by omega)];rw[show(n0:Int)*16777216=((2 ^ 24*n0:Nat):Int) by omega,show(n1:Int)*65536=((2 ^ 16*n1:Nat):Int) by omega,show(n2:Int)*256=((2 ^ 8*n2:Nat):Int) by omega];rw[or_add 24 n0 (2 ^ 16*n1) (by omega) (by omega)];rw[show 2 ^ 24*n0+2 ^ 16*n1=2 ^ 16*(256*n0+n1) by omega,or_add 16 (256*n0+n1) (2 ^ 8*n2) (by omega) (by omega)];rw[show 2 ^ 16*(256*n0+n1)+2 ^ 8*n2=2 ^ 8*(65536*n0+256*n1+n2) by omega,or_add 8 (65536*n0+256*n1+n2) n3 (by omega) (by omega)];omega
theorem fD (x0 x1 x2 x3:Int) (l:List Int) (N:Nat) (A:Option Addr) (c:Nat) (w:World) (hr:RdX cu8 w A (x0::x1::x2::x3::l)) (hN:4<=N) (h0:0<=x0/\x0<256) (h1:0<=x1/\x1<256) (h2:0<=x2/\x2<256) (h3:0<=x3/\x3<256):Calls Tryz.prog 57 #[.slice A N c] w fun e w'=>e = .returned (.int .i64 (x0*16777216+x1*65536+x2*256+x3))/\Only [] w w':=by
 obtain⟨b,off,hA,hb,_⟩:=hr (by simp);subst hA;refine Hs.en Tryz.func57 [] [0] [HB.rdx cu8 (some ⟨b,off,none⟩) (x0::x1::x2::x3::l)] [.c (.v (.slice (some ⟨b,off,none⟩) N c))] (Mem.rdOneX hr hb) ?_;refine Hs.e0 ?_;refine Hs.any [0] (by kernel_rfl) ?_;refine Hs.e0 ?_;refine Hs.takeIdx (rd:=[0]) 1 CY (b:=b) (off:=off) (c:=c) (len:=N) (i:=0) (by omega) (by kernel_rfl) ?_;refine Hs.takeIdx (rd:=[0]) 6 CY (b:=b) (off:=off) (c:=c) (len:=N) (i:=1) (by omega) (by kernel_rfl) ?_;refine Hs.takeIdx (rd:=[0]) 12 CY (b:=b) (off:=off) (c:=c) (len:=N) (i:=2) (by omega) (by kernel_rfl) ?_;refine Hs.takeIdx (rd:=[0]) 18 CY (b:=b) (off:=off) (c:=c) (len:=N) (i:=3) (by omega) (by kernel_rfl) ?_;refine Hs.takeLdR (rd:=[0]) 2 0 BT (E':=5) (b:=b) (off:=off) (i:=0) (q:=0) (l:=x0::x1::x2::x3::l) (x:=x0) (.int .u8 x0) (by kernel_rfl) (by kernel_rfl) (by kernel_rfl) rfl rfl (by kernel_rfl) ?_;refine Hs.takeLdR (rd:=[0]) 7 0 BT (E':=5) (b:=b) (off:=off) (i:=1) (q:=0) (l:=x0::x1::x2::x3::l) (x:=x1) (.int .u8 x1) (by kernel_rfl) (by kernel_rfl) (by kernel_rfl) rfl rfl (by kernel_rfl) ?_;refine Hs.takeLdR (rd:=[0]) 13 0 BT (E':=5) (b:=b) (off:=off) (i:=2) (q:=0) (l:=x0::x1::x2::x3::l) (x:=x2) (.int .u8 x2) (by kernel_rfl) (by kernel_rfl) (by kernel_rfl) rfl rfl (by kernel_rfl) ?_;refine Hs.takeLdR (rd:=[0]) 19 0 BT (E':=5) (b:=b) (off:=off) (i:=3) (q:=0) (l:=x0::x1::x2::x3::l) (x:=x3) (.int .u8 x3) (by kernel_rfl) (by kernel_rfl) (by kernel_rfl) rfl rfl (by kernel_rfl) ?_;refine Hs.e0 ?_;exact Hs.rt (v:=.int .i64 (IntKind.i64.wrap ((BitVec.ofInt IntKind.i64.bits (IntKind.i64.wrap ((BitVec.ofInt IntKind.i64.bits (IntKind.i64.wrap ((BitVec.ofInt IntKind.i64.bits (IntKind.i64.wrap (IntKind.i64.wrap x0*2 ^ min (Int.toNat 24) IntKind.i64.bits)) ||| BitVec.ofInt IntKind.i64.bits (IntKind.i64.wrap (IntKind.i64.wrap x1*2 ^ min (Int.toNat 16) IntKind.i64.bits))).toNat:Int)) ||| BitVec.ofInt IntKind.i64.bits (IntKind.i64.wrap (IntKind.i64.wrap x2*2 ^ min (Int.toNat 8) IntKind.i64.bits))).toNat:Int)) ||| BitVec.ofInt IntKind.i64.bits (IntKind.i64.wrap x3)).toNat:Int))) Tryz.func57 fun w' H=>⟨by rw[num4_eq x0 x1 x2 x3 h0 h1 h2 h3],H.only⟩
section
variable {P:Program} {f:FuncId} {R:Ending -> World -> Prop} {n:Nat} {w0:World} {L:List Nat} {β:List Nat} {m:SM}
end
section
variable {P:Program} {f:FuncId} {R:Ending -> World -> Prop} {n:Nat} {w0:World} {L:List Nat} {β:List Nat} {m:SM}
variable {tS E size bytes:Nat}
theorem Hs.growN (ht:ElemT P tS E size bytes) {tn ty:Nat} (htn:P.underlying tn=some (.int .i64)) {q:Nat} (hq:0<q) (hm:q<=maxLen) (hb:q*bytes<=140737488355328)
  (hs:DO n β m=some (GK (Builtin.append_ #[tS,tn] ty #[.slice none 0 0,.int .i64 q]))) (hrd:(HO m).all (fun k=>Nat.blt k m.hp.length)=true)
  (h: ∀g2 cap2 zs,zs.length=q*size->q<=cap2->cap2<=maxLen->Hs P f R n w0 L (β++[0]) (m.put (BD m) (.c (.v (.slice (some ⟨g2,0,none⟩) q cap2))) (m.hp++[.s (some ⟨g2,0,none⟩) cap2 q E size zs]))):Hs P f R n w0 L β m:=by
 refine Hs.opW hs fun w H W=>?_;obtain⟨hu,⟨i0,z,hi,hz,hsz,hby,hzs⟩,hpos⟩:=ht;subst hsz;subst hby;have hf:(Builtin.firstCells i0.size 0 (.slice none 0 0)).run P w.drew = .ok ([]:List Value).toArray w.drew:=by
  simp[Builtin.firstCells]
 have hrun:=Lib.run_append_grow_zeros (P:=P) w tS tn ty E i0 z .i64 .i64 hu htn hi hz none 0 0 [] hf q hq hpos (by omega) (by unfold maxLen at hm;omega) (by omega) (growslice_fits (by omega) (by rw[Nat.zero_add];exact hb));simp only[Nat.zero_add] at hrun;have hge:=grownCap_ge w q 0 E;have hcm:grownCap w q 0 E<=maxLen:=grownCap_le_maxLen w q 0 E hm;have hw:=SM.wf_hp W;have hzl:(Builtin.zeroCells z.cells q).toList.length=q*i0.size:=by rw[iS,hzs]
 refine⟨[0],.c (.v (.slice (some ⟨w.heap.size,0,none⟩) q (grownCap w q 0 E))),m.hp++[.s (some ⟨w.heap.size,0,none⟩) (grownCap w q 0 E) q E i0.size (Builtin.zeroCells z.cells q).toList],_,hrun,?_,?_,fun k hk b hh=>?_,h w.heap.size _ _ hzl hge hcm⟩
 ·refine H.push (h:=.s _ _ _ _ _ _) (by rw[H.len];exact hw) ?_ (fun y hy=>?_) ?_;·exact⟨rfl,rfl,rfl,by simp,fun k hk _=>heap_alloc_old _ _ hk⟩
  ·simp only[HB.blk,Option.map_some,Option.some.injEq] at hy;subst hy;exact qL _
  ·refine⟨hzl,.inr ⟨w.heap.size,_,_,rfl,qO _,heap_alloc_new w.drew _,hge,hcm,?_,?_⟩⟩
   ·simp only[Array.size_append,List.size_toArray,List.length_nil,size_zeroCells,hzs,Nat.zero_add,<-Nat.add_mul];congr 1
    omega
   ·simp only[Array.toList_append,List.nil_append];exact List.take_left' hzl
 ·simp only[SV.wf,SC.wf,Bool.true_and,Bool.and_eq_true,Nat.ble_eq,zE,List.length_cons,List.length_nil,List.all_append,List.all_cons,List.all_nil,Bool.and_true];refine⟨by omega,List.all_eq_true.2 fun y hy=>?_,rfl⟩;have h1:=List.all_eq_true.1 hw y hy;cases y with
  |b _ _ cs=>exact List.all_eq_true.2 fun u hu=>SC.wf_mono (by omega) (List.all_eq_true.1 h1 u hu)
  |_=>rfl
 ·have:=List.all_eq_true.1 hrd k hk;rw[List.getElem?_append_left (DI.1 this)];exact hh
theorem Hs.cutS (k:Nat) {g cap nl i:Nat} {vs:List Value} (hk:m.hp[k]? = some (.s (some ⟨g,0,none⟩) cap nl E size vs)) (hi:i<=nl) (hrd:(match m.r with | .no=>true | .lst .. =>true | .lstN .. =>true|_=>false)=true) (h:Hs P f R n w0 L β ⟨m.r,m.todo,m.sl,m.hp.set k (.s (some ⟨g,0,none⟩) cap i E size (vs.take (i*size)))⟩):Hs P f R n w0 L β m:=by
 have hno:m.r=m.r:=rfl;refine⟨fun w H W=>?_⟩;have hl:=H.lies k _ hk;obtain⟨h1,h2⟩:=hl;have key:w.ownsRow 0 E size (.slice (some ⟨g,0,none⟩) i cap) i (vs.take (i*size)):=by
  have hle:i*size<=nl*size:=Nat.mul_le_mul_right _ hi;refine⟨by rw[List.length_take,h1];exact Nat.min_eq_left hle,?_⟩;rcases h2 with⟨e,_⟩|⟨g',c',cur,e,h3,h4,h5,h6,h7,h8⟩;·cases e
  ·injection e with e1 e2 e3;injection e1 with e1;injection e1 with e1;subst e1;subst e3;refine .inr ⟨g,cap,cur,rfl,h3,h4,by omega,h6,h7,?_⟩;rw[<-h8,List.take_take,Nat.min_eq_left hle]
 have H':=H.reS k hk (Only.refl [g] w) key;have g2:=h.go w H' (by
  simp only[SM.wf,Bool.and_eq_true] at W⊢;rw[List.length_set];refine⟨W.1,List.all_eq_true.2 fun y hy=>?_⟩;rcases List.mem_or_eq_of_mem_set hy with hy|rfl;·exact List.all_eq_true.1 W.2 y hy
  ·rfl)
 obtain⟨r,todo,sl,hp⟩:=m;cases r with
 |no=>exact g2
 |lst=>exact g2
 |lstN=>exact g2
 |_=>cases hrd
end
section
variable {P:Program} {f:FuncId} {R:Ending -> World -> Prop} {n:Nat} {w0:World} {L:List Nat} {β:List Nat} {m:SM}
end
def loA (size:Nat) (A:Option Addr) (i cap:Nat):Option Addr:=if cap=i then A else A.map (·.add (i*size))
def hiA (size:Nat) (A:Option Addr) (cap:Nat):Option Addr:=if cap=0 then A else A.map (·.add (0*size))
section
variable {P:Program} {tS E size bytes:Nat} {α:Type} {cf:α -> List Value}
theorem run_loA (ht:ElemT P tS E size bytes) {A:Option Addr} {n cap i:Nat} (hn:i<=n) (w:World):(Instr.sliceAt tS (.slice A n cap) (some (.int .i64 i)) none none).run P w = .ok (.slice (loA size A i cap) (n-i) (cap-i)) w:=run_sloA ht hn w
theorem run_hiA (ht:ElemT P tS E size bytes) {A:Option Addr} {n cap i:Nat} (hi:i<=cap) (w:World):(Instr.sliceAt tS (.slice A n cap) none (some (.int .i64 i)) none).run P w = .ok (.slice (hiA size A cap) i cap) w:=by
 have hu:P.underlying tS=some (.slice (P.elem tS)):=by rw[ht.elem];exact ht.ht
 rw[run_sliceAt_slice (h:=hu),run_slice_h (ht:=hu) (h0:=by omega) (h2:=by omega),ht.elem,ht.sizeOf];simp only[Result.andThen_ok,sliced,Int.toNat_natCast];rfl
theorem OG (hcl: ∀x,(cf x).length=size) {w:World} {A:Option Addr} {l:List α} {i cap:Nat} (h:RdX cf w A l) (hi:i<=l.length) (hc:l.length<=cap):RdX cf w (loA size A i cap) (l.drop i):=fun h0=>by
 rw[List.length_drop] at h0;obtain⟨b,off,e,hb,hcell⟩:=h (by omega);subst e;refine⟨b,off+i*size,?_,hb,fun j u hj=>?_⟩
 ·unfold loA;rw[if_neg (by omega)];simp[Addr.add_lit]
 ·rw[<-RN hcl l i hi,List.getElem?_drop] at hj;have:=hcell _ u hj;rw[Nat.add_assoc];exact this
theorem rdX_hi (hcl: ∀x,(cf x).length=size) {w:World} {A:Option Addr} {l:List α} {i cap:Nat} (h:RdX cf w A l) (hi:i<=l.length):RdX cf w (hiA size A cap) (l.take i):=fun h0=>by
 rw[List.length_take] at h0;obtain⟨b,off,e,hb,hcell⟩:=h (by omega);subst e;refine⟨b,off,?_,hb,fun j u hj=>?_⟩
 ·unfold hiA;split;·rfl
  ·simp[Addr.add_lit]
 ·rw[<-MU hcl l i hi,List.getElem?_take] at hj;split at hj;·exact hcell _ u hj
  ·cases hj
variable {f:FuncId} {R:Ending -> World -> Prop} {n:Nat} {w0:World} {L:List Nat} {β:List Nat} {m:SM}
theorem Hs.lo (ht:ElemT P tS E size bytes) {A:Option Addr} {len cap i:Nat} (hn:i<=len) (hs:DO n β m=some (GK (Instr.sliceAt tS (.slice A len cap) (some (.int .i64 i)) none none))) (h:Hs P f R n w0 L β (m.put (BD m) (.c (.v (.slice (loA size A i cap) (len-i) (cap-i)))) m.hp)):Hs P f R n w0 L β m:=
 Hs.opV (.c (.v (.slice (loA size A i cap) (len-i) (cap-i)))) hs rfl (fun w _=>run_loA ht hn w) h
theorem Hs.hi (ht:ElemT P tS E size bytes) {A:Option Addr} {len cap i:Nat} (hi:i<=cap) (hs:DO n β m=some (GK (Instr.sliceAt tS (.slice A len cap) none (some (.int .i64 i)) none))) (h:Hs P f R n w0 L β (m.put (BD m) (.c (.v (.slice (hiA size A cap) i cap))) m.hp)):Hs P f R n w0 L β m:=
 Hs.opV (.c (.v (.slice (hiA size A cap) i cap))) hs rfl (fun w _=>run_hiA ht hi w) h
theorem Hs.takeLo (j:Nat) (ht:ElemT P tS E size bytes) {rd:List Nat} {A:Option Addr} {len cap i:Nat} (hn:i<=len) (hs:YJ j n β m=some (GK (Instr.sliceAt tS (.slice A len cap) (some (.int .i64 i)) none none),rd)) (h:Hs P f R n w0 L β (VD j (.c (.v (.slice (loA size A i cap) (len-i) (cap-i)))) m)):Hs P f R n w0 L β m:=
 Hs.takeV j (.c (.v (.slice (loA size A i cap) (len-i) (cap-i)))) hs rfl (fun w _=>run_loA ht hn w) h
theorem Hs.takeHi (j:Nat) (ht:ElemT P tS E size bytes) {rd:List Nat} {A:Option Addr} {len cap i:Nat} (hi:i<=cap) (hs:YJ j n β m=some (GK (Instr.sliceAt tS (.slice A len cap) none (some (.int .i64 i)) none),rd)) (h:Hs P f R n w0 L β (VD j (.c (.v (.slice (hiA size A cap) i cap))) m)):Hs P f R n w0 L β m:=
 Hs.takeV j (.c (.v (.slice (hiA size A cap) i cap))) hs rfl (fun w _=>run_hiA ht hi w) h
end
theorem TC:ElemT Tryz.prog 97 30 1 (Tryz.prog.bytesOf 30):=IZ (z:=.slice none 0 0) (by kernel_rfl) (by kernel_rfl) (by decide) (by decide)
structure Pc (α : Type) where
  A : Option Addr
  c : Nat
  l : List α
def Pc.cs {α:Type} (p:Pc α):List Value:=[.slice p.A p.l.length p.c]
theorem TN {α:Type} (p:Pc α):p.cs.length=1:=rfl
def JF {α:Type} (ps:List (Pc α)):List α:=ps.flatMap Pc.l
theorem totP_snoc {α:Type} (ps:List (Pc α)) (p:Pc α):JF (ps++[p])=JF ps++p.l:=by simp[JF]
theorem bW {α:Type} (ps:List (Pc α)) (i:Nat):(JF (ps.take i)).length<=(JF ps).length:=by
 have h:JF ps=JF (ps.take i)++JF (ps.drop i):=by
  unfold JF;rw[<-List.flatMap_append,List.take_append_drop]
 rw[h,zE];omega
theorem growB_any (q:Nat) (hq:q<=1000000) (w:World):Calls Tryz.prog 87 #[.slice none 0 0,.int .i64 q] w fun e w'=>∃A cap,e = .returned (.slice A 0 cap)/\Only [] w w'/\AN cu8 5 1 w' w.heap.size (.slice A 0 cap) []:=by
 refine Hs.en Tryz.func87 [] [] [] [.c (.v (.slice none 0 0)),.c (.v (.int .i64 q))] (Mem.start0 w) ?_;refine Hs.e0 ?_;refine Hs.cP ((q:Int)<0) (fun h=>by omega) (fun h=>?_);refine Hs.e0 ?_;have eq:IntKind.i64.wrap ((q:Int)-IntKind.i64.wrap (((0:Nat):Int)-((0:Nat):Int)))=q:=by
  rw[IntWalk.i64_in (((0:Nat):Int)-((0:Nat):Int)) (by omega),IntWalk.i64_in _ (by omega)];omega
 refine Hs.slot 1 (.c (.v (.int .i64 q))) rfl ((by kernel_rfl:_=Value.int .i64 (IntKind.i64.wrap ((q:Int)-IntKind.i64.wrap (((0:Nat):Int)-((0:Nat):Int))))).trans (congrArg (Value.int .i64) eq)) ?_;refine Hs.cP (IntKind.i64.wrap ((q:Int)-IntKind.i64.wrap (((0:Nat):Int)-((0:Nat):Int)))>0) (fun h=>?_) (fun h=>?_);all_goals rw[eq] at h
 ·have hb:=by_u8;refine Hs.e0 ?_;refine Hs.pure (.c (.v (.slice none 0 0))) (by kernel_rfl) (by kernel_rfl) ?_;refine Hs.e0 ?_;refine Hs.growN (q:=q) (tn:=3) (ty:=30) CY (by kernel_rfl) (by omega) (by unfold maxLen;omega) (by rw[hb];omega) (by kernel_rfl) (by kernel_rfl) fun g2 c2 zs hz h1 h2=>?_;refine Hs.e0 ?_;refine Hs.shi (g:=g2) (off:=0) (len:=q) (cap:=c2) (i:=0) CY (qO _) (by kernel_rfl) ?_;refine Hs.e0 ?_;refine Hs.cutS (g:=g2) (cap:=c2) (nl:=q) (vs:=zs) (E:=5) (size:=1) 0 (i:=0) (by kernel_rfl) (qO _) (by kernel_rfl) ?_;exact Hs.rt (v:=.slice (some ⟨g2,0,none⟩) 0 c2) Tryz.func87 fun w' H=>⟨some ⟨g2,0,none⟩,c2,rfl,H.only,H.fresh 0 (l:=[]) rfl (by kernel_rfl)⟩
 ·refine Hs.e0 ?_;exact Hs.rt (v:=.slice none 0 0) Tryz.func87 fun w' H=>⟨none,0,rfl,H.only,CN⟩
theorem eN (ps:List (Pc Int)) (As:Option Addr) (capS:Nat) (w:World) (hr:RdX Pc.cs w As ps) (hcs:ps.length<=capS/\capS<=maxLen) (hp: ∀p∈ps,RdX cu8 w p.A p.l) (ht:(JF ps).length<=1000000):Calls Tryz.prog 56 #[.slice As ps.length capS] w fun e w'=>∃A cap,e = .returned (.slice A (JF ps).length cap)/\Only [] w w'/\AN cu8 5 1 w' w.heap.size (.slice A (JF ps).length cap) (JF ps):=by
 have hm:ps.length<=maxLen:=Nat.le_trans hcs.1 hcs.2;have hb:=by_u8;have step: ∀i p,ps[i]? = some p->JF (ps.take (i+1))=JF (ps.take i)++p.l:=fun i p h=>by
  rw[List.take_add_one,h];exact totP_snoc _ _
 have J2: ∀(d i:Nat),ps.length-i=d->i<=ps.length->∀(A:Option Addr) (c nt:Nat) (l:List Int),l=JF (ps.take i)->l.length=nt->∀(u:Nat->Value),Hs Tryz.prog 56 (fun e w'=>∃A cap,e = .returned (.slice A (JF ps).length cap)/\Only [] w w'/\AN cu8 5 1 w' w.heap.size (.slice A (JF ps).length cap) (JF ps)) (Tryz.f56).ntmps w [] [0] ⟨.no,BE Tryz.f56 1,KQ [(6,.c (.v (.slice A nt c))),(25,.c (.v (.slice As ps.length capS))),(26,.c (.v (.int .i64 ps.length))),(27,.c (.v (.int .i64 i)))] (.vals u),[.s A c nt 5 1 (l.flatMap cu8)]⟩:=by
  intro d;induction d with
  |zero=>
   intro i hd hi A c nt l hl hnt u;obtain rfl:i=ps.length:=by omega
   rw[List.take_length] at hl;subst hl;subst hnt;refine Hs.e0 ?_;refine Hs.cP ((ps.length:Int)<(ps.length:Int)) (fun h=>by omega) (fun h=>?_);refine Hs.e0 ?_;exact Hs.rt (v:=.slice A (JF ps).length c) Tryz.func56 fun w' H=>⟨A,c,rfl,H.only,H.fresh 0 rfl (by kernel_rfl)⟩
  |succ d ih=>
   intro i hd hi A c nt l hl hnt u;have hil:i<ps.length:=by omega
   obtain⟨p,hx⟩: ∃p,ps[i]? = some p:=⟨_,List.getElem?_eq_getElem hil⟩;obtain⟨ab,aoff,hA,_,_⟩:=hr (by omega);subst hA;have hpm:=hp p (qE hx);have hs:=step i p hx;have hle:=bW ps (i+1);rw[hs,<-hl,zE,hnt] at hle;refine Hs.e0 ?_;refine Hs.cP ((i:Int)<(ps.length:Int)) (fun h=>?_) (fun h=>by omega);refine Hs.e0 ?_;refine Hs.idx (b:=ab) (off:=aoff) (c:=capS) TC hil (by kernel_rfl) ?_;refine Hs.ldc (E':=30) (b:=ab) (off:=aoff+i*1) (.slice p.A p.l.length p.c) (by kernel_rfl) (fun w' H=>ES TN (hr.only H.only) hx (j:=0) rfl) (by kernel_rfl) ?_;refine Hs.e0 ?_;refine Hs.app (c:=p.c) (ty:=30) 0 CY l p.l nt p.l.length hnt rfl IL BT (A:=A) (B:=p.A) (cap:=c) (by kernel_rfl) (by kernel_rfl) (by kernel_rfl) (fun w' H=>hpm.only H.only) (by unfold maxLen;omega) (by rw[hb];omega) fun A3 c3 h3=>?_;refine Hs.e0 ?_;refine Hs.slot 27 (.c (.v (.int .i64 (i+1:Nat)))) rfl ((by kernel_rfl:_=Value.int .i64 (IntKind.i64.wrap ((i:Int)+1))).trans (BY hm)) ?_;refine Hs.lP ?_;exact Hs.goto (BE Tryz.f56 1) [0] [.s A3 c3 (nt+p.l.length) 5 1 ((l++p.l).flatMap cu8)] [(6,.c (.v (.slice A3 (nt+p.l.length) c3))),(25,.c (.v (.slice (some ⟨ab,aoff,none⟩) ps.length capS))),(26,.c (.v (.int .i64 ps.length))),(27,.c (.v (.int .i64 (i+1:Nat))))] (by kernel_rfl) (by decide) (by kernel_rfl) (by kernel_rfl) (fun _=>(by kernel_rfl)) (fun u=>ih (i+1) (by omega) (by omega) A3 c3 _ _ (by rw[hs,hl]) (by rw[zE,hnt]) u)
 have J1: ∀(d i:Nat),ps.length-i=d->i<=ps.length->∀(nt:Nat),nt=(JF (ps.take i)).length->∀(u:Nat->Value),Hs Tryz.prog 56 (fun e w'=>∃A cap,e = .returned (.slice A (JF ps).length cap)/\Only [] w w'/\AN cu8 5 1 w' w.heap.size (.slice A (JF ps).length cap) (JF ps)) (Tryz.f56).ntmps w [] [] ⟨.no,BE Tryz.f56 0,KQ [(0,.c (.v (.slice As ps.length capS))),(3,.c (.v (.int .i64 nt))),(9,.c (.v (.slice As ps.length capS))),(10,.c (.v (.int .i64 ps.length))),(11,.c (.v (.int .i64 i)))] (.vals u),[]⟩:=by
  intro d;induction d with
  |zero=>
   intro i hd hi nt hnt u;obtain rfl:i=ps.length:=by omega
   rw[List.take_length] at hnt;refine Hs.e0 ?_;refine Hs.cP ((ps.length:Int)<(ps.length:Int)) (fun h=>by omega) (fun h=>?_);refine Hs.e0 ?_;refine Hs.callS (cf:=cu8) (E:=5) (size:=1) (fun A cap=>.slice A 0 cap) [] 0 rfl (fun w' H=>growB_any nt (by omega) w') (by kernel_rfl) (by kernel_rfl) fun A c h1 h2=>?_;refine Hs.e0 ?_;refine Hs.lP ?_;exact Hs.goto (BE Tryz.f56 1) [0] [.s A c 0 5 1 (([]:List Int).flatMap cu8)] [(6,.c (.v (.slice A 0 c))),(25,.c (.v (.slice As ps.length capS))),(26,.c (.v (.int .i64 ps.length))),(27,.c (.v (.int .i64 (0:Nat))))] (by kernel_rfl) (by decide) (by kernel_rfl) (by kernel_rfl) (fun _=>(by kernel_rfl)) (fun u=>J2 ps.length 0 (by omega) (by omega) A c 0 [] rfl rfl u)
  |succ d ih=>
   intro i hd hi nt hnt u;have hil:i<ps.length:=by omega
   obtain⟨p,hx⟩: ∃p,ps[i]? = some p:=⟨_,List.getElem?_eq_getElem hil⟩;obtain⟨ab,aoff,hA,_,_⟩:=hr (by omega);subst hA;have hs:=step i p hx;have hle:=bW ps (i+1);rw[hs,zE,<-hnt] at hle;refine Hs.e0 ?_;refine Hs.cP ((i:Int)<(ps.length:Int)) (fun h=>?_) (fun h=>by omega);refine Hs.e0 ?_;refine Hs.idx (b:=ab) (off:=aoff) (c:=capS) TC hil (by kernel_rfl) ?_;refine Hs.ldc (E':=30) (b:=ab) (off:=aoff+i*1) (.slice p.A p.l.length p.c) (by kernel_rfl) (fun w' H=>ES TN (hr.only H.only) hx (j:=0) rfl) (by kernel_rfl) ?_;refine Hs.e0 ?_;have e3:IntKind.i64.wrap ((nt:Int)+(p.l.length:Int))=((nt+p.l.length:Nat):Int):=by rw[IntWalk.i64_in _ (by omega)];omega
   refine Hs.slot 3 (.c (.v (.int .i64 (nt+p.l.length:Nat)))) rfl ((by kernel_rfl:_=Value.int .i64 (IntKind.i64.wrap ((nt:Int)+(p.l.length:Int)))).trans (congrArg (Value.int .i64) e3)) ?_;refine Hs.cP (IntKind.i64.wrap ((nt:Int)+(p.l.length:Int))<0) (fun h=>by rw[e3] at h;omega) (fun h=>?_);refine Hs.e0 ?_;refine Hs.slot 11 (.c (.v (.int .i64 (i+1:Nat)))) rfl ((by kernel_rfl:_=Value.int .i64 (IntKind.i64.wrap ((i:Int)+1))).trans (BY hm)) ?_;refine Hs.lP ?_;exact Hs.goto (BE Tryz.f56 0) [] [] [(0,.c (.v (.slice (some ⟨ab,aoff,none⟩) ps.length capS))),(3,.c (.v (.int .i64 (nt+p.l.length:Nat)))),(9,.c (.v (.slice (some ⟨ab,aoff,none⟩) ps.length capS))),(10,.c (.v (.int .i64 ps.length))),(11,.c (.v (.int .i64 (i+1:Nat))))] (by kernel_rfl) (by decide) (by kernel_rfl) (by kernel_rfl) (fun _=>(by kernel_rfl)) (fun u=>ih (i+1) (by omega) (by omega) _ (by rw[hs,zE,hnt]) u)
 refine Hs.en Tryz.func56 [] [] [] [.c (.v (.slice As ps.length capS))] (Mem.start0 w) ?_;refine Hs.e0 ?_;refine Hs.lP ?_;exact Hs.goto (BE Tryz.f56 0) [] [] [(0,.c (.v (.slice As ps.length capS))),(3,.c (.v (.int .i64 (0:Nat)))),(9,.c (.v (.slice As ps.length capS))),(10,.c (.v (.int .i64 ps.length))),(11,.c (.v (.int .i64 (0:Nat))))] (by kernel_rfl) (by decide) (by kernel_rfl) (by kernel_rfl) (fun _=>(by kernel_rfl)) (fun u=>J1 ps.length 0 (by omega) (by omega) 0 rfl u)
theorem FH (l:List Int) (A:Option Addr) (cap:Nat) (w:World) (hr:RdX cu8 w A l) (hf:l.length<=1000000):Calls Tryz.prog 47 #[.slice A l.length cap] w fun e w'=>∃A' cap',e = .returned (.slice A' l.length cap')/\Only [] w w'/\AN cu8 5 1 w' w.heap.size (.slice A' l.length cap') l:=by
 have hb:=by_u8;cases A with
 |none=>
  have hl0:l=[]:=by
   cases l with
   |nil=>rfl
   |cons a r=>obtain⟨b,off,e,_⟩:=hr (by simp);cases e
  subst hl0;refine Hs.en Tryz.func47 [] [] [] [.c (.v (.slice none 0 cap))] (Mem.start0 w) ?_;refine Hs.e0 ?_;refine Hs.cT ?_;refine Hs.e0 ?_;exact Hs.rt (v:=.slice none 0 0) Tryz.func47 fun w' H=>⟨none,0,rfl,H.only,CN⟩
 |some a=>
  refine Hs.en Tryz.func47 [] [] [] [.c (.v (.slice (some a) l.length cap))] (Mem.start0 w) ?_;refine Hs.e0 ?_;refine Hs.cF ?_;refine Hs.e1 fun b0=>?_;refine Hs.litX (cf:=cu8) (ty:=30) (c:=cap) 0 CY l l.length rfl IL BT (by kernel_rfl) (by kernel_rfl) (by kernel_rfl) (fun w' H=>hr.only H.only) (by unfold maxLen;omega) (by rw[hb];omega) fun A' cap' h1 h2=>?_;refine Hs.e0 ?_;exact Hs.rt (v:=.slice A' l.length cap') Tryz.func47 fun w' H=>⟨A',cap',rfl,H.only,H.fresh 0 rfl (by kernel_rfl)⟩
end Go.Proofs.YtfbhemmpobgdpaaGreatDoor
namespace Go.Proofs.YtfbhemmpobgdpaaGreatDoor
open Go.RowKit
def NJ (c:UInt8):Bool:=decide (33<=c.toNat)&&decide (c.toNat<=126)&&decide (c.toNat≠44)
def BK (s:ByteArray):Bool:=decide (1<=s.size)&&decide (s.size<=64)&&s.data.toList.all NJ
theorem KU (s:ByteArray) (k:Nat) (h:k<s.size):s.data.toList.take (k+1)=s.data.toList.take k++[s[k]]:=by
 rw[List.take_succ_eq_append_getElem (by simpa using h)];rfl
theorem iC (s:ByteArray):s.toList.isEmpty=decide (s.size=0):=by
 rw[ByteArray.toList_eq];have e:s.size=s.data.toList.length:=by simp
 rw[e];cases s.data.toList<;>simp
def JJ (k:Int):Bool:=decide (1<=k)&&decide (k<=6)
theorem aO (k:Int) (w:World):Calls Tryz.prog 163 #[.int .i64 k] w fun e w'=>e = .returned (.bool (JJ k))/\w=w':=by
 by_cases h1:1<=k
 ·go_enter Tryz.func163,Tryz.ntmps163
  go_wp2
  go_ret
  exact⟨FM (by unfold JJ;simp[h1]<;>omega),rfl⟩
 ·go_enter Tryz.func163,Tryz.ntmps163
  go_wp2
  go_ret
  exact⟨FM (by unfold JJ;simp[h1]<;>omega),rfl⟩
def GQ (a b c:Int):Int:=if b<a then c else 0
theorem XQ {a b c:Int} (h:b<a):GQ a b c=c:=if_pos h
theorem RY {a b c:Int} (h: ¬b<a):GQ a b c=0:=if_neg h
theorem YU (a b:Int) (w:World):Calls Tryz.prog 192 #[.int .u32 a,.int .u32 b] w fun e w'=>e = .returned (.int .i64 (GQ a b 5))/\w=w':=by
 by_cases h1:b<a
 ·rw[XQ h1];go_enter Tryz.func192,Tryz.ntmps192
  go_wp2
  go_ret
  exact⟨rfl,rfl⟩
 ·rw[RY h1];go_enter Tryz.func192,Tryz.ntmps192
  go_wp2
  go_ret
  exact⟨rfl,rfl⟩
theorem gW (a b:Int) (w:World):Calls Tryz.prog 194 #[.int .i64 a,.int .i64 b] w fun e w'=>e = .returned (.int .i64 (GQ a b 6))/\w=w':=by
 by_cases h1:b<a
 ·rw[XQ h1];go_enter Tryz.func194,Tryz.ntmps194
  go_wp2
  go_ret
  exact⟨rfl,rfl⟩
 ·rw[RY h1];go_enter Tryz.func194,Tryz.ntmps194
  go_wp2
  go_ret
  exact⟨rfl,rfl⟩
theorem named_any (s:ByteArray) (w:World) (hs:s.size<=maxLen):Calls Tryz.prog 197 #[.string s] w fun e w'=>e = .returned (.bool (BK s))/\w=w':=by
 unfold maxLen at hs;by_cases h0:s.size=0
 ·have e:BK s=false:=by unfold BK;simp[h0]
  rw[e];clear e;have hl2:s.toList.isEmpty=true:=by rw[iC];simp[h0]
  go_enter Tryz.func197,Tryz.ntmps197
  go_wp2
  go_ret
  exact⟨rfl,rfl⟩
 ·have hl2:s.toList.isEmpty=false:=by rw[iC];simp[h0]
  by_cases h64:64<s.size
  ·have e:BK s=false:=by unfold BK;simp;omega
   rw[e];clear e;go_enter Tryz.func197,Tryz.ntmps197
   go_wp2
   go_ret
   exact⟨rfl,rfl⟩
  ·obtain⟨N,hN⟩:=qY (BK s);have hN2:N=s.data.toList.all NJ:=by rw[hN];unfold BK;simp;omega
   rw[<-hN];replace hN2:=AB hN2;clear hN h0;go_enter Tryz.func197,Tryz.ntmps197
   go_wp2
   go_loop [14] (fun i=>∃k:Nat,k<=s.size/\i = .int .i64 k/\Hid ((s.data.toList.take k).all NJ=true)) (fun i=>s.size-(intOf i).toNat)
   case atStart=>exact⟨0,by omega,rfl,AB rfl⟩
   case round=>
    obtain⟨k,hk,rfl,hall⟩:=hrel;by_cases hlt:k<s.size
    ·have hts:=AB (KU s k hlt);by_cases hc:NJ s[k]=true
     ·have hcc:=AB hc;unfold NJ at hc;simp only[Bool.and_eq_true,decide_eq_true_eq] at hc;obtain⟨⟨q1,q2⟩,q3⟩:=hc;have q4:((s[k].toNat:Int)==44)=false:=beq_eq_false_iff_ne.2 (by omega);replace q3:=AB q3;go_wp2
      go_round
      case rel=>exact⟨k+1,by omega,by go_num,AB (by rw[hts.out,List.all_append,hall.out];simp[hcc.out])⟩
      case measure=>simp[intOf];omega
     ·have hf:N=false:=by
       rw[hN2.out,Bool.eq_false_iff];intro h;have:=List.all_eq_true.1 h s[k] (by
        have:s[k]=s.data.toList[k]'(by simpa using hlt):=rfl;rw[this];exact List.getElem_mem _)
       exact hc this
      subst hf;have hq:s[k].toNat<33\/126<s[k].toNat\/s[k].toNat=44:=by
       unfold NJ at hc;simp at hc;omega
      clear hN2 hc;by_cases q1:s[k].toNat<33
      ·clear hq;go_wp2
       go_ret
       exact⟨rfl,rfl⟩
      ·by_cases q2:126<s[k].toNat
       ·clear hq;go_wp2
        go_ret
        exact⟨rfl,rfl⟩
       ·have q3:((s[k].toNat:Int)==44)=true:=beq_iff_eq.2 (by omega);clear hq;go_wp2
        go_ret
        exact⟨rfl,rfl⟩
    ·have hf:N=true:=by
      have h:=hall.out;rw[List.take_of_length_le (by simp;omega)] at h;rw[hN2.out,h]
     subst hf;clear hN2;go_wp2
     go_ret
     exact⟨rfl,rfl⟩
end Go.Proofs.YtfbhemmpobgdpaaGreatDoor
namespace Go.Proofs.YtfbhemmpobgdpaaGreatDoor
open Go.RowKit
theorem gS (s:ByteArray) (w:World) (hs:s.size<=maxLen):Calls Tryz.prog 222 #[.string s] w fun e w'=>e = .returned (.bool (BK s))/\w=w':=by
 unfold maxLen at hs;by_cases h0:s.size<1
 ·have e:BK s=false:=by unfold BK;simp;omega
  rw[e];clear e;go_enter Tryz.func222,Tryz.ntmps222
  go_wp2
  go_ret
  exact⟨rfl,rfl⟩
 ·by_cases h64:64<s.size
  ·have e:BK s=false:=by unfold BK;simp;omega
   rw[e];clear e;go_enter Tryz.func222,Tryz.ntmps222
   go_wp2
   go_ret
   exact⟨rfl,rfl⟩
  ·obtain⟨N,hN⟩:=qY (BK s);have hN2:N=s.data.toList.all NJ:=by rw[hN];unfold BK;simp;omega
   rw[<-hN];replace hN2:=AB hN2;clear hN;go_enter Tryz.func222,Tryz.ntmps222
   go_wp2
   go_loop [3] (fun i=>∃k:Nat,k<=s.size/\i = .int .i64 k/\Hid ((s.data.toList.take k).all NJ=true)) (fun i=>s.size-(intOf i).toNat)
   case atStart=>exact⟨0,by omega,rfl,AB rfl⟩
   case round=>
    obtain⟨k,hk,rfl,hall⟩:=hrel;by_cases hlt:k<s.size
    ·have hts:=AB (KU s k hlt);by_cases hc:NJ s[k]=true
     ·have hcc:=AB hc;unfold NJ at hc;simp only[Bool.and_eq_true,decide_eq_true_eq] at hc;obtain⟨⟨q1,q2⟩,q3⟩:=hc;have q4:((s[k].toNat:Int)==44)=false:=beq_eq_false_iff_ne.2 (by omega);replace q3:=AB q3;go_wp2
      go_round
      case rel=>exact⟨k+1,by omega,by go_num,AB (by rw[hts.out,List.all_append,hall.out];simp[hcc.out])⟩
      case measure=>simp[intOf];omega
     ·have hf:N=false:=by
       rw[hN2.out,Bool.eq_false_iff];intro h;have:=List.all_eq_true.1 h s[k] (by
        have:s[k]=s.data.toList[k]'(by simpa using hlt):=rfl;rw[this];exact List.getElem_mem _)
       exact hc this
      subst hf;have hq:s[k].toNat<33\/126<s[k].toNat\/s[k].toNat=44:=by
       unfold NJ at hc;simp at hc;omega
      clear hN2 hc;by_cases q1:s[k].toNat<33
      ·clear hq;go_wp2
       go_ret
       exact⟨rfl,rfl⟩
      ·by_cases q2:126<s[k].toNat
       ·clear hq;go_wp2
        go_ret
        exact⟨rfl,rfl⟩
       ·have q3:((s[k].toNat:Int)==44)=true:=beq_iff_eq.2 (by omega);clear hq;go_wp2
        go_ret
        exact⟨rfl,rfl⟩
    ·have hf:N=true:=by
      have h:=hall.out;rw[List.take_of_length_le (by simp;omega)] at h;rw[hN2.out,h]
     subst hf;clear hN2;go_wp2
     go_ret
     exact⟨rfl,rfl⟩
/-! Rows of kinds. -/
def HK (ks:List Int) (i:Nat):Bool:=JJ (ks.getD i 0) && !(decide (ks.getD i 0=6)&&decide (i+1<ks.length))
def GS (ks:List Int):Bool:=(List.range ks.length).all (HK ks)
theorem MM {ks:List Int}:GS ks=true↔∀i,i<ks.length->HK ks i=true:=by
 unfold GS;rw[List.all_eq_true];simp
theorem bM {ks:List Int} {i:Nat} (hi:i<ks.length) (h:HK ks i=false):GS ks=false:=by
 rw[Bool.eq_false_iff];intro hr;rw[MM.1 hr i hi] at h;cases h
def Good (ks:List Int) (k:Nat):Prop:=∀i,i<k->HK ks i=true
theorem row_any (A:Option Addr) (ks:List Int) (cap:Nat) (w:World) (h:RdI w A ks) (hl:ks.length<=maxLen):Calls Tryz.prog 109 #[.slice A ks.length cap] w fun e w'=>e = .returned (.bool (GS ks))/\w=w':=by
 unfold maxLen at hl;obtain⟨n,hn⟩:=qY ks.length;obtain⟨R,hR⟩:=qY (GS ks);rw[<-hR];rw[<-hn] at hl⊢;have HR:=AB hR;have HN:=AB hn;clear hR hn;go_enter Tryz.func109,Tryz.ntmps109
 go_wp2
 go_loop [7] (fun i=>∃k:Nat,k<=n/\i = .int .i64 k/\Good ks k) (fun i=>n-(intOf i).toNat)
 case atStart=>exact⟨0,by omega,rfl,fun i hi=>by omega⟩
 case round=>
  obtain⟨k,hk,rfl,hg⟩:=hrel;by_cases hlt:k<n
  ·obtain⟨b,off,x,rfl,hb,hx,hc⟩:=h.at k (by rw[<-HN.out];exact hlt);have hga:HK ks k=(JJ x && !(decide (x=6)&&decide (k+1<n))):=by
    unfold HK;rw[List.getD_eq_getElem?_getD,hx,HN.out];rfl
   have hg':HK ks k=true->Good ks (k+1):=fun h i hi=>by
    by_cases e:i=k
    ·rw[e];exact h
    ·exact hg i (by omega)
   have hnot:HK ks k=false->R=false:=fun h=>by rw[HR.out];exact bM (by rw[<-HN.out];exact hlt) h
   rw[hga] at hg' hnot;replace hg':=AB hg';replace hnot:=AB hnot;clear hga hx;replace hg:=AB hg;by_cases h1:JJ x=true
   ·have K:Calls Tryz.prog 163 #[.int .i64 x] w fun e w'=>e = .returned (.bool true)/\w=w':=by rw[<-h1];exact aO x w
    by_cases h6:x=6
    ·subst h6;by_cases hl2:k+1<n
     ·obtain rfl:R=false:=hnot.out (by simp[h1,hl2]);have hl3:(k:Int)<(n:Int)-1:=by omega
      clear hg' hnot h1;go_wp2_with fail
      go_call K as e w' ⟨rfl,rfl⟩
      clear K;go_wp2
      go_ret
      exact⟨rfl,rfl⟩
     ·have hl3: ¬(k:Int)<(n:Int)-1:=by omega
      have hG:Good ks (k+1):=hg'.out (by simp[h1];omega);replace hG:=AB hG;clear hg' hnot h1;go_wp2_with fail
      go_call K as e w' ⟨rfl,rfl⟩
      clear K;go_wp2
      go_round
      case rel=>exact⟨k+1,by omega,by go_num,hG.out⟩
      case measure=>simp[intOf];omega
    ·have h6':(x==6)=false:=beq_eq_false_iff_ne.2 h6;have hG:Good ks (k+1):=hg'.out (by simp[h1,h6]);replace hG:=AB hG;clear hg' hnot h1;go_wp2_with fail
     go_call K as e w' ⟨rfl,rfl⟩
     clear K;go_wp2
     go_round
     case rel=>exact⟨k+1,by omega,by go_num,hG.out⟩
     case measure=>simp[intOf];omega
   ·have h1:JJ x=false:=by simpa using h1
    obtain rfl:R=false:=hnot.out (by simp[h1]);have K:Calls Tryz.prog 163 #[.int .i64 x] w fun e w'=>e = .returned (.bool false)/\w=w':=by rw[<-h1];exact aO x w
    clear hg' hnot h1;go_wp2_with fail
    go_call K as e w' ⟨rfl,rfl⟩
    clear K;go_wp2
    go_ret
    exact⟨rfl,rfl⟩
  ·obtain rfl:k=n:=by omega
   obtain rfl:R=true:=by rw[HR.out];exact MM.2 (fun i hi=>hg i (by rw[HN.out];exact hi))
   replace hg:=AB hg;go_wp2
   go_ret
   exact⟨rfl,rfl⟩
end Go.Proofs.YtfbhemmpobgdpaaGreatDoor
namespace Go.Proofs.YtfbhemmpobgdpaaGreatDoor
open Go.RowKit
structure FD where
  kind : Int
  n : Int
  tA : Option Addr
  tc : Nat
  text : List Int
  lA : Option Addr
  lc : Nat
  list : List ByteArray
def FD.cells (f:FD):List Value:=[.int .i64 f.kind,.int .u32 f.n,.slice f.tA f.text.length f.tc,.slice f.lA f.list.length f.lc]
def FD.val (f:FD):Value:=.agg #[.int .i64 f.kind,.int .u32 f.n,.slice f.tA f.text.length f.tc,.slice f.lA f.list.length f.lc]
structure FD.ok (w : World) (f : FD) : Prop where
  text : RdG (.int .u8) w f.tA f.text
  list : RdS w f.lA f.list
  tle : f.text.length <= f.tc
  tmax : f.tc <= maxLen
  lle : f.list.length <= f.lc
  lmax : f.lc <= maxLen
  strs : ∀ s ∈ f.list, s.size <= maxLen
theorem FD.ok.only {w w':World} {f:FD} (h:f.ok w) (hb:Only [] w w'):f.ok w':={ h with text:=h.text.only hb,list:=h.list.only hb }
def BS (l:List ByteArray):Int:=if 64<l.length then 6 else if l.all BK then 0 else 4
theorem bad1_any (s:ByteArray) (w:World) (hs:s.size<=maxLen):Calls Tryz.prog 196 #[.string s] w fun e w'=>e = .returned (.bool (!BK s))/\w=w':=by
 have h:=named_any s w hs;obtain⟨N,hN⟩:=qY (BK s);rw[<-hN] at h⊢;clear hN;go_enter Tryz.func196,Tryz.ntmps196
 go_wp2_with fail
 go_call h as e w' ⟨rfl,rfl⟩
 clear h;go_wp2
 go_ret
 exact⟨rfl,rfl⟩
def FirstBad (l:List ByteArray) (e:Ending):Prop:=(l.all BK=true/\e = .returned (.int .i64 (-1)))\/(l.all BK=false/\∃k:Nat,k<l.length/\e = .returned (.int .i64 k))
theorem dI (A:Option Addr) (l:List ByteArray) (cap:Nat) (w:World) (h:RdS w A l) (hl:l.length<=maxLen) (hs: ∀s∈l,s.size<=maxLen) :
  Calls Tryz.prog 224 #[.slice A l.length cap,.func (.func 196) #[] #[]] w fun e w'=>FirstBad l e/\w=w':=by
 unfold maxLen at hl;obtain⟨n,hn⟩:=qY l.length;rw[<-hn] at hl⊢;have HN:=AB hn;replace hs:=AB hs;clear hn;go_enter Tryz.func224,Tryz.ntmps224
 go_wp2
 go_loop [8] (fun i=>∃k:Nat,k<=n/\i = .int .i64 k/\Hid ((l.take k).all BK=true)) (fun i=>n-(intOf i).toNat)
 case atStart=>exact⟨0,by omega,rfl,AB rfl⟩
 case round=>
  obtain⟨k,hk,rfl,hg⟩:=hrel;by_cases hlt:k<n
  ·obtain⟨b,off,s,rfl,hb,hx,hc⟩:=h.at k (by rw[<-HN.out];exact hlt);have hts:=AB (DH hx);have hmem:s∈l:=qE hx;have K:=bad1_any s w (hs.out s hmem);have hfin:BK s=false->l.all BK=false:=fun hb=>by
    rw[Bool.eq_false_iff];intro h;rw[List.all_eq_true.1 h s hmem] at hb;cases hb
   replace hfin:=AB hfin;clear hx hmem;by_cases ho:BK s=true
   ·rw[ho] at K;have ho:=AB ho;clear hfin;go_wp2_with fail
    go_call K as e w' ⟨rfl,rfl⟩
    clear K;go_wp2
    go_round
    case rel=>exact⟨k+1,by omega,by go_num,AB (by rw[hts.out,List.all_append,hg.out];simp[ho.out])⟩
    case measure=>simp[intOf];omega
   ·have ho:BK s=false:=by simpa using ho
    rw[ho] at K;have hf:=AB (hfin.out ho);clear hfin ho;go_wp2_with fail
    go_call K as e w' ⟨rfl,rfl⟩
    clear K;go_wp2
    go_ret
    exact⟨.inr ⟨hf.out,k,by rw[<-HN.out];exact hlt,rfl⟩,rfl⟩
  ·obtain rfl:k=n:=by omega
   have hf:l.all BK=true:=by have:=hg.out;rw[List.take_of_length_le (by rw[<-HN.out];exact qL _)] at this;exact this
   replace hf:=AB hf;clear hg;go_wp2
   go_ret
   exact⟨.inl ⟨hf.out,rfl⟩,rfl⟩
theorem VI (A:Option Addr) (l:List ByteArray) (cap:Nat) (w:World) (h:RdS w A l) (hl:l.length<=maxLen) (hs: ∀s∈l,s.size<=maxLen) :
  Calls Tryz.prog 195 #[.slice A l.length cap,.func (.func 196) #[] #[]] w fun e w'=>e = .returned (.bool (!l.all BK))/\w=w':=by
 have K:=dI A l cap w h hl hs;obtain⟨B,hB⟩:=qY (l.all BK);have K2:Calls Tryz.prog 224 #[.slice A l.length cap,.func (.func 196) #[] #[]] w fun e w'=>∃i:Int,e = .returned (.int .i64 i)/\(0<=i↔B=false)/\w=w':=by
  refine K.mono fun e w' ⟨hf,hw⟩=>?_;rcases hf with⟨h1,h2⟩|⟨h1,k,_,h2⟩;·exact⟨-1,h2,by rw[hB,h1];simp,hw⟩
  ·exact⟨k,h2,by rw[hB,h1];simp,hw⟩
 rw[<-hB];clear K hB;go_enter Tryz.func195,Tryz.ntmps195
 go_wp2_with fail
 go_call K2 as e w' ⟨i,rfl,hi,rfl⟩
 clear K2;cases B with
 |true=>
  have h0: ¬(0<=i):=fun h=>by have:=hi.1 h;cases this
  clear hi;go_wp2
  go_ret
  exact⟨FM (by simp;omega),rfl⟩
 |false=>
  have h0:0<=i:=hi.2 rfl;clear hi;go_wp2
  go_ret
  exact⟨rfl,rfl⟩
theorem NU (f:FD) (w:World) (h:f.ok w):Calls Tryz.prog 175 #[f.val] w fun e w'=>e = .returned (.int .i64 (BS f.list))/\Only [] w w':=by
 obtain⟨kind,n,tA,tc,text,lA,lc,list⟩:=f;have hmax:list.length<=9223372036854775807:=by have:=h.lle;have:=h.lmax;unfold maxLen at *;dsimp at *;omega
 unfold FD.val;dsimp only;by_cases h64:64<list.length
 ·have e:BS list=6:=by unfold BS;rw[if_pos h64]
  rw[e];clear e;obtain⟨N,hN⟩:=qY list.length;rw[<-hN] at h64 hmax⊢;clear hN h;go_enter Tryz.func175,Tryz.ntmps175
  go_wp2
  go_ret
  exact⟨rfl,(zR _ _).alloc _⟩
 ·have K:=VI lA list lc (w.alloc (.cells #[.int .i64 kind,.int .u32 n,.slice tA text.length tc,.slice lA list.length lc] 153)) (h.list.only ((zR _ _).alloc _)) (by unfold maxLen;omega) h.strs;have e:BS list=if list.all BK then 0 else 4:=by unfold BS;rw[if_neg h64]
  rw[e];clear e;cases hB:list.all BK with
  |true=>
   rw[hB] at K;replace hB:=AB hB;go_enter Tryz.func175,Tryz.ntmps175
   go_wp2_with fail
   go_call K as e w' ⟨rfl,rfl⟩
   clear K;go_wp2
   go_ret
   exact⟨rfl,(zR _ _).alloc _⟩
  |false=>
   rw[hB] at K;replace hB:=AB hB;go_enter Tryz.func175,Tryz.ntmps175
   go_wp2_with fail
   go_call K as e w' ⟨rfl,rfl⟩
   clear K;go_wp2
   go_ret
   exact⟨rfl,(zR _ _).alloc _⟩
section
variable (f:FD) (w:World)
theorem XO:Calls Tryz.prog 164 #[f.val] w fun e w'=>e = .returned (.int .i64 (GQ f.n 255 5))/\Only [] w w':=by
 obtain⟨kind,n,tA,tc,text,lA,lc,list⟩:=f;unfold FD.val;go_enter Tryz.func164,Tryz.ntmps164
 go_wp2_with fail
 go_call (YU n 255 _) as e w' ⟨rfl,rfl⟩
 go_wp2
 go_ret
 exact⟨rfl,(zR _ _).alloc _⟩
theorem ZA:Calls Tryz.prog 167 #[f.val] w fun e w'=>e = .returned (.int .i64 (GQ f.n 1 5))/\Only [] w w':=by
 obtain⟨kind,n,tA,tc,text,lA,lc,list⟩:=f;unfold FD.val;go_enter Tryz.func167,Tryz.ntmps167
 go_wp2_with fail
 go_call (YU n 1 _) as e w' ⟨rfl,rfl⟩
 go_wp2
 go_ret
 exact⟨rfl,(zR _ _).alloc _⟩
theorem fU:Calls Tryz.prog 169 #[f.val] w fun e w'=>e = .returned (.int .i64 0)/\Only [] w w':=by
 obtain⟨kind,n,tA,tc,text,lA,lc,list⟩:=f;unfold FD.val;go_enter Tryz.func169,Tryz.ntmps169
 go_wp2
 go_ret
 exact⟨rfl,(zR _ _).alloc _⟩
theorem ZP (h:f.ok w):Calls Tryz.prog 172 #[f.val] w fun e w'=>e = .returned (.int .i64 (GQ f.text.length 32768 6))/\Only [] w w':=by
 obtain⟨kind,n,tA,tc,text,lA,lc,list⟩:=f;have hmax:text.length<=9223372036854775807:=by have:=h.tle;have:=h.tmax;unfold maxLen at *;dsimp at *;omega
 unfold FD.val;dsimp only;obtain⟨N,hN⟩:=qY text.length;rw[<-hN] at hmax⊢;clear hN h;go_enter Tryz.func172,Tryz.ntmps172
 go_wp2_with fail
 go_call (gW N 32768 _) as e w' ⟨rfl,rfl⟩
 go_wp2
 go_ret
 exact⟨rfl,(zR _ _).alloc _⟩
theorem PV (h:f.ok w):Calls Tryz.prog 178 #[f.val] w fun e w'=>e = .returned (.int .i64 (GQ f.text.length 33792 6))/\Only [] w w':=by
 obtain⟨kind,n,tA,tc,text,lA,lc,list⟩:=f;have hmax:text.length<=9223372036854775807:=by have:=h.tle;have:=h.tmax;unfold maxLen at *;dsimp at *;omega
 unfold FD.val;dsimp only;obtain⟨N,hN⟩:=qY text.length;rw[<-hN] at hmax⊢;clear hN h;go_enter Tryz.func178,Tryz.ntmps178
 go_wp2_with fail
 go_call (gW N 33792 _) as e w' ⟨rfl,rfl⟩
 go_wp2
 go_ret
 exact⟨rfl,(zR _ _).alloc _⟩
end
end Go.Proofs.YtfbhemmpobgdpaaGreatDoor
namespace Go.Proofs.YtfbhemmpobgdpaaGreatDoor
open Go.RowKit
theorem BJ {L:List Nat} {w w':World} (h:Only L w w') {b o:Nat} {v:Value} (hb:b<w.heap.size) (hn:b∉L) (hc:w.cell? ⟨b,o,none⟩=some v):w'.cell? ⟨b,o,none⟩=some v:=(World.cell?_of_block (w:=w) (h.block b hb hn)).trans hc
theorem PB {L:List Nat} {w w':World} (h:Only L w w') {b o:Nat} {v:Bool} (hb:b<w.heap.size) (hn:b∉L) (hc:w.frozen? ⟨b,o,none⟩=v):w'.frozen? ⟨b,o,none⟩=v:=(World.frozen?_of_block (w:=w) (h.block b hb hn)).trans hc
theorem DR.low {w:World} {base:Nat} {v:Value} {l:List Int} (h:DR w base v l): ∀x,x<base->x∉v.ownBlock.toList:=fun x hx hm=>by
 have:=h.block x (by simpa using hm);omega
theorem DR.high {w:World} {base:Nat} {v:Value} {l:List Int} (h:DR w base v l): ∀x,w.heap.size<=x->x∉v.ownBlock.toList:=fun x hx hm=>by
 have:=h.block x (by simpa using hm);omega
structure WrV (w : World) (g base : Nat) (v : Value) (l : List Int) : Prop where
  blk : Blk w g 207 [v]
  own : DR w base v l
  low : g < base
  top : base <= w.heap.size
theorem WrV.only {w w':World} {g base:Nat} {v:Value} {l:List Int} {L:List Nat} (h:WrV w g base v l) (hb:Only L w w') (h1:g∉L) (h2: ∀x∈L,some x≠v.ownBlock):WrV w' g base v l:=
 ⟨h.blk.only hb h1,h.own.far hb h2,h.low,Nat.le_trans h.top hb.size⟩
def LC (w w':World) (g:Nat) (v v':Value):Prop:=Only (g::v.ownBlock.toList) w w'/\(v'.ownBlock=v.ownBlock\/∀x,v'.ownBlock=some x->w.heap.size<=x)
theorem LC.trans {w w1 w2:World} {g:Nat} {v v1 v2:Value} (h:LC w w1 g v v1) (k:LC w1 w2 g v1 v2):LC w w2 g v v2:=by
 refine⟨h.1.trans k.1 (fun x hx=>?_),?_⟩
 ·rcases qC.1 hx with rfl|hx;·exact .inl (List.mem_cons_self)
  ·rcases h.2 with e|e;·rw[e] at hx;exact .inl (List.mem_cons_of_mem _ hx)
   ·exact .inr (e x (by simpa using hx))
 ·rcases k.2 with e|e
  ·rcases h.2 with e1|e1;·exact .inl (e.trans e1)
   ·exact .inr (fun x hx=>e1 x (by rw[<-e];exact hx))
  ·exact .inr (fun x hx=>Nat.le_trans h.1.size (e x hx))
theorem LC.from {w w0 w1:World} {g:Nat} {v v1:Value} (h:LC w0 w1 g v v1) (k:Only [] w w0):LC w w1 g v v1:=
 ⟨(k.mono (by simp)).trans h.1 (fun x hx=>.inl hx),h.2.imp id (fun hh x hx=>Nat.le_trans k.size (hh x hx))⟩
def four (n:Int):List Int:=[n/16777216 % 256,n/65536 % 256,n/256 % 256,n % 256]
theorem rd_lit (w:World) (cs:Array Value) (l:List Int) (h:cs=(u8s l).toArray):Rd (w.alloc (.cells cs 5)) (some ⟨w.heap.size,0,none⟩) l:=fun _=>⟨w.heap.size,0,rfl,by simp,fun i v hi=>by
 rw[h,World.cell?_alloc_mark];simp[u8s,hi]⟩
def WF (w:World) (g base:Nat) (v:Value) (l:List Int) (e:Ending) (w':World):Prop:=e = .returned (.tuple #[])/\∃v',WrV w' g base v' l/\LC w w' g v v'
theorem wr_put {w w2 w9:World} {g base n k9:Nat} {A9:Option Addr} {v:Value} {c c1:List Int} (R:WrV w g base v c) (Q:Only [] w w2) (P:Only v.ownBlock.toList w2 w9)
  (V9:DR w9 base (.slice A9 n k9) c1) (G:LR v (.slice A9 n k9) w2.heap.size) :
  WrV (w9.setCell ⟨g,0,none⟩ (.slice A9 n k9)) g base (.slice A9 n k9) c1/\LC w (w9.setCell ⟨g,0,none⟩ (.slice A9 n k9)) g v (.slice A9 n k9):=by
 have hlow:=R.low;have K9:=(R.blk.only Q (by simp)).only P ((R.own.only Q (by simp)).low g hlow);refine⟨⟨?_,?_,hlow,?_⟩,?_,?_⟩
 ·have:=K9.set_ 0 (.slice A9 n k9);simpa using this
 ·refine V9.far ((Only.refl [g] w9).setCell (p:=⟨g,0,none⟩) (.inl (by simp)) _) (fun x hx hv=>?_);simp at hx;have:=V9.block x hv.symm;omega
 ·have:=R.top;have:=Q.size;have:=P.size;simp[World.setCell];omega
 ·have P':Only (g::v.ownBlock.toList) w w9:=(Q.mono (by simp)).trans P (fun x hx=>.inl (List.mem_cons_of_mem _ hx));exact P'.setCell (p:=⟨g,0,none⟩) (.inl (by simp)) _
 ·rcases G with G|G;·exact .inl G
  ·right;intro x hx;rw[G] at hx;injection hx with hx;have:=Q.size;omega
/-! The walks -/
theorem YT (f:FD) (g base:Nat) (v:Value) (l:List Int) (w:World) (h:WrV w g base v l) (hn:0<=f.n/\f.n<=4294967295) (hl:l.length<=140737488355000) :
  Calls Tryz.prog 165 #[.pointer (some ⟨g,0,none⟩),f.val] w (WF w g base v (l++[f.n % 256])):=by
 obtain⟨kind,n,tA,tc,text,lA,lc,list⟩:=f;unfold FD.val;dsimp only at *;obtain⟨w1,hw1⟩:=qY (w.alloc (.cells #[.int .i64 kind,.int .u32 n,.slice tA text.length tc,.slice lA list.length lc] 153));have P1:Only [] w w1:=by rw[hw1];exact(zR _ _).alloc _
 have R:=h.only P1 (by simp) (by simp);have K:Blk w1 w.heap.size 153 [.int .i64 kind,.int .u32 n,.slice tA text.length tc,.slice lA list.length lc]:=by rw[hw1];exact Blk.new w _ _
 have c1:w1.cell? ⟨w.heap.size,1,none⟩=some (.int .u32 n):=K.cell 1;have c2:w1.cell? ⟨w.heap.size,2,none⟩=some (.slice tA text.length tc):=K.cell 2;have c0:=R.blk.cell 0;have f0:=R.blk.frozen 0;have hgl:=R.blk.lt;have hpl:=K.lt;have hlow:=R.low;have htop:=R.top;obtain⟨A9,k9,rfl,_,q9,m9,_⟩:=h.own.rd;have c0:w1.cell? ⟨g,0,none⟩=some (.slice A9 l.length k9):=c0;go_enter Tryz.func165,Tryz.ntmps165
 go_wp2_with fail
 rw[<-hw1];have NP:w.heap.size∉(Value.slice A9 l.length k9).ownBlock.toList:=h.own.high _ (qL _);have NG:g∉(Value.slice A9 l.length k9).ownBlock.toList:=h.own.low _ hlow;have hV: ∀w2,Only [] w1 w2->DR w2 base (.slice A9 l.length k9) l/\base<=w2.heap.size:=fun w2 P=>⟨R.own.only P (by simp),by have:=P.size;omega⟩;replace hV:=AB hV;replace hw1:=AB hw1;have cG: ∀w2 w9,Only [] w1 w2->Only (Value.slice A9 l.length k9).ownBlock.toList w2 w9->w9.cell? ⟨g,0,none⟩=some (.slice A9 l.length k9)/\w9.frozen? ⟨g,0,none⟩=false:=fun w2 w9 P Q=>
  ⟨BJ Q (by have:=P.size;omega) NG (BJ P hgl (by simp) c0),PB Q (by have:=P.size;omega) NG (PB P hgl (by simp) f0)⟩
 replace cG:=AB cG;have hI:(fun w':World=>w'.cell? ⟨g,0,none⟩=some (.slice A9 l.length k9)/\w'.cell? ⟨w.heap.size,1,none⟩=some (.int .u32 n)) { w1 with drawn:=w1.drawn+1 }:=⟨c0,c1⟩;refine AL (fun w':World=>w'.cell? ⟨g,0,none⟩=some (.slice A9 l.length k9)/\w'.cell? ⟨w.heap.size,1,none⟩=some (.int .u32 n)) [10,11,12] (by kernel_rfl) ?_;refine wpAnyE_tk 0 (v:=(.pointer (some ⟨g,0,none⟩))) rfl hI (fun w' hw'=>by obtain⟨i0,i1⟩:=hw';go_simp) ?_;refine wpAnyE_tk 1 (v:=(.pointer (some ⟨g,0,none⟩))) rfl hI (fun w' hw'=>by obtain⟨i0,i1⟩:=hw';go_simp) ?_;refine wpAnyE_tk 2 (v:=(.pointer (some ⟨g,0,none⟩))) rfl hI (fun w' hw'=>by obtain⟨i0,i1⟩:=hw';go_simp) ?_;refine wpAnyE_tk 3 (v:=(.pointer (some ⟨g,0,none⟩))) rfl hI (fun w' hw'=>by obtain⟨i0,i1⟩:=hw';go_simp) ?_;refine wpAnyE_tk 4 (v:=(.slice A9 l.length k9)) rfl hI (fun w' hw'=>by obtain⟨i0,i1⟩:=hw';go_simp) ?_;refine wpAnyE_tk 5 (v:=(.pointer (some ⟨w.heap.size,1,none⟩))) rfl hI (fun w' hw'=>by obtain⟨i0,i1⟩:=hw';go_simp) ?_;refine wpAnyE_tk 6 (v:=(.int .u32 n)) rfl hI (fun w' hw'=>by obtain⟨i0,i1⟩:=hw';go_simp) ?_;refine wpAnyE_tk 7 (v:=(.int .u8 (IntKind.u8.wrap n))) rfl hI (fun w' hw'=>by obtain⟨i0,i1⟩:=hw';go_simp) ?_;refine FV 8 [8,9] [10,11,12] rfl (by kernel_rfl) (by decide) hI ?_;simp only[List.drop_succ_cons,List.drop_zero];refine HU (fun K hK=>?_);go_simp
 refine hK _ _ ⟨by go_simp,by go_simp⟩ ?_;clear hK K;refine HU (fun K hK=>?_);refine UA (by rfl) _ _ (by rfl) base (.slice A9 l.length k9) l (by rfl) (hV.out _ (by repeat (first|exact zR _ _|apply Only.alloc|apply Only.drew))).1 (some ⟨w1.heap.size,0,none⟩) 1 [n % 256] 1 rfl (by rfl) (rd_one _ _) (by simp;omega) (hV.out _ (by repeat (first|exact zR _ _|apply Only.alloc|apply Only.drew))).2 ?_;intro g9 k9' w9 V9 P9 G9;obtain⟨cc,ff⟩:=cG.out _ w9 (by repeat (first|exact zR _ _|apply Only.alloc|apply Only.drew)) P9;have cn:=BJ P9 (b:=w.heap.size) (o:=1) (v:=(.int .u32 n)) (by simp;omega) NP (by go_simp);refine hK _ _ ⟨cc,cn⟩ ?_;clear hK K;refine EP ?_;go_wp2
 go_end0
 obtain⟨r1,r2⟩:=wr_put R (by repeat (first|exact zR _ _|apply Only.alloc|apply Only.drew)) P9 V9.out G9.out;exact⟨rfl,_,r1,r2.from P1⟩
theorem VE (f:FD) (g base:Nat) (v:Value) (l:List Int) (w:World) (h:WrV w g base v l) (hn:0<=f.n/\f.n<=4294967295) (hl:l.length<=140737488355000) :
  Calls Tryz.prog 170 #[.pointer (some ⟨g,0,none⟩),f.val] w (WF w g base v (l++four f.n)):=by
 obtain⟨kind,n,tA,tc,text,lA,lc,list⟩:=f;unfold FD.val;dsimp only at *;obtain⟨w1,hw1⟩:=qY (w.alloc (.cells #[.int .i64 kind,.int .u32 n,.slice tA text.length tc,.slice lA list.length lc] 153));have P1:Only [] w w1:=by rw[hw1];exact(zR _ _).alloc _
 have R:=h.only P1 (by simp) (by simp);have K:Blk w1 w.heap.size 153 [.int .i64 kind,.int .u32 n,.slice tA text.length tc,.slice lA list.length lc]:=by rw[hw1];exact Blk.new w _ _
 have c1:w1.cell? ⟨w.heap.size,1,none⟩=some (.int .u32 n):=K.cell 1;have c2:w1.cell? ⟨w.heap.size,2,none⟩=some (.slice tA text.length tc):=K.cell 2;have c0:=R.blk.cell 0;have f0:=R.blk.frozen 0;have hgl:=R.blk.lt;have hpl:=K.lt;have hlow:=R.low;have htop:=R.top;obtain⟨A9,k9,rfl,_,q9,m9,_⟩:=h.own.rd;have c0:w1.cell? ⟨g,0,none⟩=some (.slice A9 l.length k9):=c0;go_enter Tryz.func170,Tryz.ntmps170
 go_wp2_with fail
 rw[<-hw1];have NP:w.heap.size∉(Value.slice A9 l.length k9).ownBlock.toList:=h.own.high _ (qL _);have NG:g∉(Value.slice A9 l.length k9).ownBlock.toList:=h.own.low _ hlow;have hV: ∀w2,Only [] w1 w2->DR w2 base (.slice A9 l.length k9) l/\base<=w2.heap.size:=fun w2 P=>⟨R.own.only P (by simp),by have:=P.size;omega⟩;replace hV:=AB hV;replace hw1:=AB hw1;have cG: ∀w2 w9,Only [] w1 w2->Only (Value.slice A9 l.length k9).ownBlock.toList w2 w9->w9.cell? ⟨g,0,none⟩=some (.slice A9 l.length k9)/\w9.frozen? ⟨g,0,none⟩=false:=fun w2 w9 P Q=>
  ⟨BJ Q (by have:=P.size;omega) NG (BJ P hgl (by simp) c0),PB Q (by have:=P.size;omega) NG (PB P hgl (by simp) f0)⟩
 replace cG:=AB cG;have hI:(fun w':World=>w'.cell? ⟨g,0,none⟩=some (.slice A9 l.length k9)/\w'.cell? ⟨w.heap.size,1,none⟩=some (.int .u32 n)) { w1 with drawn:=w1.drawn+1 }:=⟨c0,c1⟩;refine AL (fun w':World=>w'.cell? ⟨g,0,none⟩=some (.slice A9 l.length k9)/\w'.cell? ⟨w.heap.size,1,none⟩=some (.int .u32 n)) [22,23,24] (by kernel_rfl) ?_;refine wpAnyE_tk 0 (v:=(.pointer (some ⟨g,0,none⟩))) rfl hI (fun w' hw'=>by obtain⟨i0,i1⟩:=hw';go_simp) ?_;refine wpAnyE_tk 1 (v:=(.pointer (some ⟨g,0,none⟩))) rfl hI (fun w' hw'=>by obtain⟨i0,i1⟩:=hw';go_simp) ?_;refine wpAnyE_tk 2 (v:=(.pointer (some ⟨g,0,none⟩))) rfl hI (fun w' hw'=>by obtain⟨i0,i1⟩:=hw';go_simp) ?_;refine wpAnyE_tk 3 (v:=(.pointer (some ⟨g,0,none⟩))) rfl hI (fun w' hw'=>by obtain⟨i0,i1⟩:=hw';go_simp) ?_;refine wpAnyE_tk 4 (v:=(.slice A9 l.length k9)) rfl hI (fun w' hw'=>by obtain⟨i0,i1⟩:=hw';go_simp) ?_;refine wpAnyE_tk 5 (v:=(.pointer (some ⟨w.heap.size,1,none⟩))) rfl hI (fun w' hw'=>by obtain⟨i0,i1⟩:=hw';go_simp) ?_;refine wpAnyE_tk 6 (v:=(.int .u32 n)) rfl hI (fun w' hw'=>by obtain⟨i0,i1⟩:=hw';go_simp) ?_;refine wpAnyE_tk 7 (v:=(.int .u32 (n/16777216))) rfl hI (fun w' hw'=>by obtain⟨i0,i1⟩:=hw';go_simp) ?_;refine wpAnyE_tk 8 (v:=(.int .u8 (IntKind.u8.wrap (n/16777216)))) rfl hI (fun w' hw'=>by obtain⟨i0,i1⟩:=hw';go_simp) ?_;refine wpAnyE_tk 9 (v:=(.pointer (some ⟨w.heap.size,1,none⟩))) rfl hI (fun w' hw'=>by obtain⟨i0,i1⟩:=hw';go_simp) ?_;refine wpAnyE_tk 10 (v:=(.int .u32 n)) rfl hI (fun w' hw'=>by obtain⟨i0,i1⟩:=hw';go_simp) ?_;refine wpAnyE_tk 11 (v:=(.int .u32 (n/65536))) rfl hI (fun w' hw'=>by obtain⟨i0,i1⟩:=hw';go_simp) ?_;refine wpAnyE_tk 12 (v:=(.int .u8 (IntKind.u8.wrap (n/65536)))) rfl hI (fun w' hw'=>by obtain⟨i0,i1⟩:=hw';go_simp) ?_;refine wpAnyE_tk 13 (v:=(.pointer (some ⟨w.heap.size,1,none⟩))) rfl hI (fun w' hw'=>by obtain⟨i0,i1⟩:=hw';go_simp) ?_;refine wpAnyE_tk 14 (v:=(.int .u32 n)) rfl hI (fun w' hw'=>by obtain⟨i0,i1⟩:=hw';go_simp) ?_;refine wpAnyE_tk 15 (v:=(.int .u32 (n/256))) rfl hI (fun w' hw'=>by obtain⟨i0,i1⟩:=hw';go_simp) ?_;refine wpAnyE_tk 16 (v:=(.int .u8 (IntKind.u8.wrap (n/256)))) rfl hI (fun w' hw'=>by obtain⟨i0,i1⟩:=hw';go_simp) ?_;refine wpAnyE_tk 17 (v:=(.pointer (some ⟨w.heap.size,1,none⟩))) rfl hI (fun w' hw'=>by obtain⟨i0,i1⟩:=hw';go_simp) ?_;refine wpAnyE_tk 18 (v:=(.int .u32 n)) rfl hI (fun w' hw'=>by obtain⟨i0,i1⟩:=hw';go_simp) ?_;refine wpAnyE_tk 19 (v:=(.int .u8 (IntKind.u8.wrap n))) rfl hI (fun w' hw'=>by obtain⟨i0,i1⟩:=hw';go_simp) ?_;refine FV 20 [20,21] [22,23,24] rfl (by kernel_rfl) (by decide) hI ?_;simp only[List.drop_succ_cons,List.drop_zero];refine HU (fun K hK=>?_);go_simp
 refine hK _ _ ⟨by go_simp,by go_simp⟩ ?_;clear hK K;refine HU (fun K hK=>?_);refine UA (by rfl) _ _ (by rfl) base (.slice A9 l.length k9) l (by rfl) (hV.out _ (by repeat (first|exact zR _ _|apply Only.alloc|apply Only.drew))).1 (some ⟨w1.heap.size,0,none⟩) 4 (four n) 4 rfl (by rfl) (rd_lit _ _ _ (by simp[u8s,four,IntKind.wrap_u8])) (by show l.length+4<=_;omega) (hV.out _ (by repeat (first|exact zR _ _|apply Only.alloc|apply Only.drew))).2 ?_;intro g9 k9' w9 V9 P9 G9;obtain⟨cc,ff⟩:=cG.out _ w9 (by repeat (first|exact zR _ _|apply Only.alloc|apply Only.drew)) P9;have cn:=BJ P9 (b:=w.heap.size) (o:=1) (v:=(.int .u32 n)) (by simp;omega) NP (by go_simp);refine hK _ _ ⟨cc,cn⟩ ?_;clear hK K;refine EP ?_;go_wp2
 go_end0
 obtain⟨r1,r2⟩:=wr_put R (by repeat (first|exact zR _ _|apply Only.alloc|apply Only.drew)) P9 V9.out G9.out;exact⟨rfl,_,r1,r2.from P1⟩
theorem bZ (f:FD) (g base:Nat) (v:Value) (l:List Int) (w:World) (h:WrV w g base v l) (hf:f.ok w) (hl:l.length+f.text.length<=140737488355000) :
  Calls Tryz.prog 179 #[.pointer (some ⟨g,0,none⟩),f.val] w (WF w g base v (l++f.text)):=by
 obtain⟨kind,n,tA,tc,text,lA,lc,list⟩:=f;unfold FD.val;dsimp only at *;obtain⟨w1,hw1⟩:=qY (w.alloc (.cells #[.int .i64 kind,.int .u32 n,.slice tA text.length tc,.slice lA list.length lc] 153));have hT:=hf.text;dsimp only at hT;have P1:Only [] w w1:=by rw[hw1];exact(zR _ _).alloc _
 have R:=h.only P1 (by simp) (by simp);have K:Blk w1 w.heap.size 153 [.int .i64 kind,.int .u32 n,.slice tA text.length tc,.slice lA list.length lc]:=by rw[hw1];exact Blk.new w _ _
 have c1:w1.cell? ⟨w.heap.size,1,none⟩=some (.int .u32 n):=K.cell 1;have c2:w1.cell? ⟨w.heap.size,2,none⟩=some (.slice tA text.length tc):=K.cell 2;have c0:=R.blk.cell 0;have f0:=R.blk.frozen 0;have hgl:=R.blk.lt;have hpl:=K.lt;have hlow:=R.low;have htop:=R.top;obtain⟨A9,k9,rfl,_,q9,m9,_⟩:=h.own.rd;have c0:w1.cell? ⟨g,0,none⟩=some (.slice A9 l.length k9):=c0;go_enter Tryz.func179,Tryz.ntmps179
 go_wp2_with fail
 rw[<-hw1];have NP:w.heap.size∉(Value.slice A9 l.length k9).ownBlock.toList:=h.own.high _ (qL _);have NG:g∉(Value.slice A9 l.length k9).ownBlock.toList:=h.own.low _ hlow;have hV: ∀w2,Only [] w1 w2->DR w2 base (.slice A9 l.length k9) l/\base<=w2.heap.size:=fun w2 P=>⟨R.own.only P (by simp),by have:=P.size;omega⟩;replace hV:=AB hV;replace hw1:=AB hw1;have cG: ∀w2 w9,Only [] w1 w2->Only (Value.slice A9 l.length k9).ownBlock.toList w2 w9->w9.cell? ⟨g,0,none⟩=some (.slice A9 l.length k9)/\w9.frozen? ⟨g,0,none⟩=false:=fun w2 w9 P Q=>
  ⟨BJ Q (by have:=P.size;omega) NG (BJ P hgl (by simp) c0),PB Q (by have:=P.size;omega) NG (PB P hgl (by simp) f0)⟩
 replace cG:=AB cG;have hI:(fun w':World=>w'.cell? ⟨g,0,none⟩=some (.slice A9 l.length k9)/\w'.cell? ⟨w.heap.size,2,none⟩=some (.slice tA text.length tc)) { w1 with drawn:=w1.drawn+1 }:=⟨c0,c2⟩;refine AL (fun w':World=>w'.cell? ⟨g,0,none⟩=some (.slice A9 l.length k9)/\w'.cell? ⟨w.heap.size,2,none⟩=some (.slice tA text.length tc)) [8,9,10] (by kernel_rfl) ?_;refine wpAnyE_tk 0 (v:=(.pointer (some ⟨g,0,none⟩))) rfl hI (fun w' hw'=>by obtain⟨i0,i1⟩:=hw';go_simp) ?_;refine wpAnyE_tk 1 (v:=(.pointer (some ⟨g,0,none⟩))) rfl hI (fun w' hw'=>by obtain⟨i0,i1⟩:=hw';go_simp) ?_;refine wpAnyE_tk 2 (v:=(.pointer (some ⟨g,0,none⟩))) rfl hI (fun w' hw'=>by obtain⟨i0,i1⟩:=hw';go_simp) ?_;refine wpAnyE_tk 3 (v:=(.pointer (some ⟨g,0,none⟩))) rfl hI (fun w' hw'=>by obtain⟨i0,i1⟩:=hw';go_simp) ?_;refine wpAnyE_tk 4 (v:=(.slice A9 l.length k9)) rfl hI (fun w' hw'=>by obtain⟨i0,i1⟩:=hw';go_simp) ?_;refine wpAnyE_tk 5 (v:=(.pointer (some ⟨w.heap.size,2,none⟩))) rfl hI (fun w' hw'=>by obtain⟨i0,i1⟩:=hw';go_simp) ?_;refine wpAnyE_tk 6 (v:=(.slice tA text.length tc)) rfl hI (fun w' hw'=>by obtain⟨i0,i1⟩:=hw';go_simp) ?_;refine FV 7 [7] [8,9,10] rfl (by kernel_rfl) (by decide) hI ?_;simp only[List.drop_succ_cons,List.drop_zero];refine HU (fun K hK=>?_);refine UA (by rfl) _ _ (by rfl) base (.slice A9 l.length k9) l (by rfl) (hV.out _ (by repeat (first|exact zR _ _|apply Only.alloc|apply Only.drew))).1 tA tc text text.length rfl (by rfl) (hT.only (P1.trans (w2:=_) (by repeat (first|exact Only.refl [] _|apply Only.alloc|apply Only.drew)) (by simp))) (by omega) (hV.out _ (by repeat (first|exact zR _ _|apply Only.alloc|apply Only.drew))).2 ?_;intro g9 k9' w9 V9 P9 G9;obtain⟨cc,ff⟩:=cG.out _ w9 (by repeat (first|exact zR _ _|apply Only.alloc|apply Only.drew)) P9;have cn:=BJ P9 (b:=w.heap.size) (o:=2) (v:=(.slice tA text.length tc)) (by simp;omega) NP (by go_simp);refine hK _ _ ⟨cc,cn⟩ ?_;clear hK K;refine EP ?_;go_wp2
 go_end0
 obtain⟨r1,r2⟩:=wr_put R (by repeat (first|exact zR _ _|apply Only.alloc|apply Only.drew)) P9 V9.out G9.out;exact⟨rfl,_,r1,r2.from P1⟩
end Go.Proofs.YtfbhemmpobgdpaaGreatDoor
namespace Go.Proofs.YtfbhemmpobgdpaaGreatDoor
open Go.RowKit
def numF (n:Int):FD:=⟨0,n,none,0,[],none,0,[]⟩
theorem Blk.moved {w w':World} {g q:Nat} {v v':Value} {t:TypeId} {cs:List Value} (h:Blk w q t cs) (m:LC w w' g v v') (h1:q≠g) (h2:v.ownBlock≠some q):Blk w' q t cs:=
 h.only m.1 (by simp[h1];exact h2)
theorem RdG.moved {α:Type} {mk:α->Value} {w w':World} {g base:Nat} {v v':Value} {A:Option Addr} {l:List α} (h:RdG mk w A l) (m:LC w w' g v v') (h1: ∀a,A=some a->0<l.length->a.block≠g/\v.ownBlock≠some a.block):RdG mk w' A l:=
 h.onlyL m.1 (fun a ha h0 hm=>by
  have:=h1 a ha h0;simp at hm;rcases hm with hm|hm;·exact this.1 hm
  ·exact this.2 hm)
def FD.far (f:FD) (g:Nat) (v:Value):Prop:=(∀a,f.tA=some a->0<f.text.length->a.block≠g/\v.ownBlock≠some a.block)/\(∀a,f.lA=some a->0<f.list.length->a.block≠g/\v.ownBlock≠some a.block)
theorem FD.ok.moved {w w':World} {g:Nat} {v v':Value} {f:FD} (h:f.ok w) (m:LC w w' g v v') (hf:f.far g v):f.ok w':=
 { h with text:=h.text.moved (base:=0) m hf.1,list:=h.list.moved (base:=0) m hf.2 }
theorem cD (f:FD) (g base:Nat) (v:Value) (l:List Int) (w:World) (h:WrV w g base v l) (hf:f.ok w) (hfar:f.far g v) (hl:l.length+f.text.length<=140737488354000) (h32:f.text.length<=4294967295) :
  Calls Tryz.prog 173 #[.pointer (some ⟨g,0,none⟩),f.val] w (WF w g base v (l++(four f.text.length++f.text))):=by
 obtain⟨w1,hw1⟩:=qY (w.alloc (.cells #[.int .i64 f.kind,.int .u32 f.n,.slice f.tA f.text.length f.tc,.slice f.lA f.list.length f.lc] 153));have P1:Only [] w w1:=by rw[hw1];exact(zR _ _).alloc _
 have R:=h.only P1 (by simp) (by simp);have K:Blk w1 w.heap.size 153 [.int .i64 f.kind,.int .u32 f.n,.slice f.tA f.text.length f.tc,.slice f.lA f.list.length f.lc]:=by rw[hw1];exact Blk.new w _ _
 have hf1:=hf.only P1;have hgl:=h.blk.lt;have hN:=VE (numF f.text.length) g base v l w1 R ⟨by simp[numF],by simp only[numF];omega⟩ (by omega);have hR: ∀v2 w2,WrV w2 g base v2 (l++four f.text.length)->LC w1 w2 g v v2->Blk w2 w.heap.size 153 [.int .i64 f.kind,.int .u32 f.n,.slice f.tA f.text.length f.tc,.slice f.lA f.list.length f.lc]/\
   Calls Tryz.prog 179 #[.pointer (some ⟨g,0,none⟩),f.val] w2 (fun e w'=>e = .returned (.tuple #[])/\∃v',WrV w' g base v' (l++(four f.text.length++f.text))/\LC w w' g v v'):=by
  intro v2 w2 R2 M2;refine⟨K.moved M2 (by omega) (fun hv=>by have:=h.own.block _ hv;omega),?_⟩;have:=bZ f g base v2 (l++four f.text.length) w2 R2 (hf1.moved M2 hfar) (by simp[four];omega);refine this.mono fun e w' ⟨he,v',R3,M3⟩=>⟨he,v',by rw[<-List.append_assoc];exact R3,(M2.trans M3).from P1⟩
 replace hR:=AB hR;unfold FD.val numF at hN;dsimp only at hN;unfold FD.val;simp only[List.length_nil] at hN;have c2:w1.cell? ⟨w.heap.size,2,none⟩=some (.slice f.tA f.text.length f.tc):=K.cell 2;have hlen:(f.text.length:Int)<=4294967295:=by omega
 have hp:w.heap.size<w1.heap.size:=K.lt;clear hf hf1 hfar K;go_enter Tryz.func173,Tryz.ntmps173
 go_wp2_with fail
 rw[<-hw1];replace hw1:=AB hw1;go_wp2_with fail
 go_call hN as e w2 ⟨rfl,v2,R2,M2⟩
 clear hN c2;obtain⟨K2,hR2⟩:=hR.out v2 w2 R2 M2;have c0:=K2.cell 0;have c1:=K2.cell 1;have c2:=K2.cell 2;have c3:=K2.cell 3;unfold FD.val at hR2;replace hR2:=AB hR2;go_wp2_with fail
 go_call hR2.out as e w3 ⟨rfl,v3,R3,M3⟩
 go_wp2_with fail
 go_end0
 exact⟨rfl,v3,R3,M3⟩
end Go.Proofs.YtfbhemmpobgdpaaGreatDoor
namespace Go.Proofs.YtfbhemmpobgdpaaGreatDoor
open Go.RowKit
def ER (l:List ByteArray):List UInt8:=Lib.join (l.map (·.data.toList)) [44]
def u8i (l:List UInt8):List Int:=l.map fun c=>(c.toNat:Int)
theorem XC (l:List ByteArray) (hs: ∀s∈l,s.size<=64):(ER l).length<=l.length*65:=by
 unfold ER Lib.join;induction l with
 |nil=>simp
 |cons a r ih=>
  have ha:a.data.toList.length<=64:=by simpa using hs a List.mem_cons_self
  have hr:=ih (fun s h=>hs s (List.mem_cons_of_mem _ h));cases r with
  |nil=>simp at ha⊢;omega
  |cons b r=>
   simp only[List.map_cons,List.intercalate,List.intersperse,List.flatten_cons,zE,List.length_cons] at hr⊢;simp at ha hr⊢;omega
theorem join_any (A:Option Addr) (l:List ByteArray) (cap:Nat) (w:World) (h:RdS w A l) (hc:l.length<=cap) (h64:l.length<=64) (hs: ∀s∈l,s.size<=64) :
  Calls Tryz.prog 198 #[.slice A l.length cap,.string ⟨#[44]⟩] w fun e w'=>e = .returned (.string ⟨(ER l).toArray⟩)/\Only [] w w':=by
 have hj:=XC l hs;by_cases h0:0<l.length
 ·obtain⟨b,off,rfl,hb,hcell⟩:=h h0;refine(Tryz.strings_Join b off cap l ⟨#[44]⟩ w (fun j x hx=>hcell j x hx) hb (by omega) hc ?_).mono fun e w' ⟨h1,h2⟩=>⟨h1,ZH h2⟩;show(ER l).length<=_;omega
 ·obtain rfl:l=[]:=List.eq_nil_of_length_eq_zero (by omega);refine(Tryz.strings_Join_none A cap ⟨#[44]⟩ w).mono fun e w' ⟨h1,h2⟩=>⟨h1,by rw[h2];exact zR _ _⟩
theorem bytesW (w:World) (e:TypeId) (S:List UInt8) :
  Only [] w (Lib.bytesWorld w e ⟨S.toArray⟩)/\RdG (.int .u8) (Lib.bytesWorld w e ⟨S.toArray⟩) (some ⟨w.heap.size,0,none⟩) (u8i S)/\(Lib.bytesWorld w e ⟨S.toArray⟩).heap.size=w.heap.size+1:=by
 refine⟨⟨rfl,rfl,rfl,?_,fun k hk _=>Lib.bytesWorld_at_old _ _ _ k hk⟩,fun _=>⟨w.heap.size,0,rfl,?_,fun i x hx=>?_⟩,Lib.bytesWorld_size _ _ _⟩;·rw[Lib.bytesWorld_size];omega
 ·rw[Lib.bytesWorld_size];omega
 ·have hi:i<S.length:=by
   have:=(List.getElem?_eq_some_iff.mp hx).1;simpa[u8i] using this
  have hx':(S[i].toNat:Int)=x:=by simpa[u8i,hi] using hx
  have h:=Lib.bytesWorld_cell w e ⟨S.toArray⟩ i (by simpa[ByteArray.size] using hi);rw[Nat.zero_add,h];simp[List.getD,hi,hx']
theorem FO (w:World) (S:List UInt8): ∃c w',(Go.Sem.run Tryz.prog (convert 9 30 (.string ⟨S.toArray⟩)) w) = .ok (.slice (some ⟨w.heap.size,0,none⟩) S.length c) w'/\S.length<=c/\(S.length<=maxLen->c<=maxLen)/\Only [] w w'/\RdG (.int .u8) w' (some ⟨w.heap.size,0,none⟩) (u8i S)/\w'.heap.size=w.heap.size+1:=by
 have h:=Lib.run_convert_string_bytes (P:=Tryz.prog) w 9 30 5 ⟨S.toArray⟩ (u:=.string) (by kernel_rfl) (by kernel_rfl) (by kernel_rfl);obtain⟨a,b,c⟩:=bytesW w 5 S;refine⟨_,_,h,?_,?_,a,b,c⟩
 ·have:=grownCap_ge w S.length 0 5;simpa[ByteArray.size] using this
 ·intro hm;have:=grownCap_le_maxLen w S.length 0 5 hm;simpa[ByteArray.size] using this
theorem lE (f:FD) (g base:Nat) (v:Value) (l:List Int) (w:World) (h:WrV w g base v l) (hf:f.ok w) (h64:f.list.length<=64) (hs: ∀s∈f.list,s.size<=64) (hl:l.length<=140737488340000) :
  Calls Tryz.prog 176 #[.pointer (some ⟨g,0,none⟩),f.val] w (WF w g base v (l++(four (ER f.list).length++u8i (ER f.list)))):=by
 have hj:=XC f.list hs;obtain⟨w1,hw1⟩:=qY (w.alloc (.cells #[.int .i64 f.kind,.int .u32 f.n,.slice f.tA f.text.length f.tc,.slice f.lA f.list.length f.lc] 153));have P1:Only [] w w1:=by rw[hw1];exact(zR _ _).alloc _
 have K:Blk w1 w.heap.size 153 [.int .i64 f.kind,.int .u32 f.n,.slice f.tA f.text.length f.tc,.slice f.lA f.list.length f.lc]:=by rw[hw1];exact Blk.new w _ _
 have c3:w1.cell? ⟨w.heap.size,3,none⟩=some (.slice f.lA f.list.length f.lc):=K.cell 3;have J:=join_any f.lA f.list f.lc w1 (hf.list.only P1) hf.lle h64 hs;obtain⟨S,hS⟩:=qY (ER f.list);rw[<-hS] at J hj⊢;have hSl:S.length<=4160:=by omega
 replace hS:=AB hS;unfold FD.val;go_enter Tryz.func176,Tryz.ntmps176
 go_wp2_with fail
 rw[<-hw1];replace hw1:=AB hw1;go_wp2_with fail
 go_call J as e w2 ⟨rfl,P2⟩
 clear J c3 K;obtain⟨cc,w3,hcv,hcc,hcm,P3,RS,hs3⟩:=FO w2 S;have P13:Only [] w w3:=(P1.trans P2 (by simp)).trans P3 (by simp);have R3:=h.only P13 (by simp) (by simp);have hb2:w2.heap.size>=w1.heap.size:=P2.size;have hb1:w1.heap.size>=w.heap.size:=P1.size;have hgl:=h.blk.lt;have hSm:S.length<=maxLen:=by unfold maxLen;omega
 have hu:(u8i S).length=S.length:=by simp[u8i]
 have T:=cD ⟨0,0,some ⟨w2.heap.size,0,none⟩,cc,u8i S,none,0,[]⟩ g base v l w3 R3
  ⟨RS,RdG.nil,by simp only[hu];exact hcc,hcm hSm,by simp,by simp,by simp⟩
  ⟨fun a ha _=>by injection ha with ha;subst ha;exact⟨by simp only;omega,fun hv=>by have:=h.own.block _ hv;simp only at this;omega⟩,fun a ha=>by cases ha⟩
  (by simp only[hu];omega) (by simp only[hu];omega)
 unfold FD.val at T;simp only[hu,List.length_nil] at T;go_wp2_with fail
 go_call T as e w4 ⟨rfl,v4,R4,M4⟩
 go_wp2_with fail
 go_end0
 exact⟨rfl,v4,R4,M4.from P13⟩
end Go.Proofs.YtfbhemmpobgdpaaGreatDoor
namespace Go.Proofs.YtfbhemmpobgdpaaGreatDoor
open Go.RowKit
theorem XK (w:World) (n c:Nat):(binOp .eql 30 (.slice none n c) (.slice none 0 0)).run Tryz.prog w = .ok (.bool true) w:=Lib.run_eql_slice_nil (P:=Tryz.prog) w 30 5 none n c 0 0 (by kernel_rfl)
theorem XL (w:World) (a:Addr) (n c:Nat):(binOp .eql 30 (.slice (some a) n c) (.slice none 0 0)).run Tryz.prog w = .ok (.bool false) w:=Lib.run_eql_slice_nil (P:=Tryz.prog) w 30 5 (some a) n c 0 0 (by kernel_rfl)
structure Bs (w : World) (B : Nat) (A : Option Addr) (l : List Int) (c : Nat) : Prop where
  rd : Rd w A l
  le : l.length <= c
  max : c <= maxLen
  new : ∀ a, A = some a -> B <= a.block
  soft : ∀ a, A = some a -> ∀ i, i < l.length -> w.frozen? (a.add i) = false
theorem DR.soft {w:World} {base:Nat} {A:Option Addr} {n cap:Nat} {l:List Int} (h:DR w base (.slice A n cap) l): ∀a,A=some a->∀i,i<l.length->w.frozen? (a.add i)=false:=by
 intro a ha i hi;rcases h.2 with⟨e,hn⟩|⟨g,cap',cur,e,hg,hh,r⟩;·omega
 ·injection e with e1;rw[ha] at e1;injection e1 with e1;subst e1;rw[Addr.add_lit];exact frozen_of_row w g _ _ _ hh
theorem TA (w:World) (A:Option Addr) (l:List Int) (c:Nat) (h:Rd w A l) (hl:l.length<=140737488355000) :
  Calls Tryz.prog 47 #[.slice A l.length c] w fun e w'=>Only [] w w'/\∃A' c',e = .returned (.slice A' l.length c')/\Bs w' w.heap.size A' l c':=by
 cases A with
 |none=>
  have h0:l.length=0:=by
   rcases Nat.eq_zero_or_pos l.length with h0|h0;·exact h0
   ·obtain⟨b,off,e,_⟩:=h h0;cases e
  obtain rfl:l=[]:=List.eq_nil_of_length_eq_zero h0;go_enter Tryz.func47,Tryz.ntmps47
  have kn:=XK;go_wp2
  go_ret
  exact⟨zR _ _,none,0,rfl,⟨fun h=>absurd h (by simp),by simp,by simp,(fun a ha=>by cases ha),(fun a ha=>by cases ha)⟩⟩
 |some ad=>
  obtain⟨k,hgl⟩:=qX l.length;rw[hgl] at hl⊢;have V0:DR (w.alloc (.cells #[] 5)) w.heap.size (.slice (some ⟨w.heap.size,0,none⟩) 0 0) []:=by
   have:=XR w w.heap.size [] (qL _) (by decide);simpa[u8s] using this
  have P1:Only [] w (w.alloc (.cells #[] 5)):=(zR _ _).alloc _;have okr:=h.only P1;replace hgl:=AB hgl;have kn:=XL;go_enter Tryz.func47,Tryz.ntmps47
  go_wp2_with (at_builtin;go_must (refine OQ rfl (.tmp 5) (.tmp 6) rfl w.heap.size (.slice (some ⟨w.heap.size,0,none⟩) 0 0) [] rfl V0 (some ad) c l k hgl.out rfl okr (by rw[hgl.out];simp;omega) (by simp) ?_);intro v9 w9 V9 P9 _;obtain⟨A9,k9,rfl,G9,q9,m9,a9⟩:=V9.out.rd)
  go_ret
  rw[List.nil_append] at G9 q9;have SF:DR w9 w.heap.size (.slice A9 ([]++l).length k9) ([]++l):=V9.out;rw[List.nil_append] at SF;have P9':Only [w.heap.size] _ w9:=P9;refine⟨P1.trans P9' (by simp),A9,k9,?_,⟨G9,q9,m9,a9,SF.soft⟩⟩;simp[hgl.out]
end Go.Proofs.YtfbhemmpobgdpaaGreatDoor
