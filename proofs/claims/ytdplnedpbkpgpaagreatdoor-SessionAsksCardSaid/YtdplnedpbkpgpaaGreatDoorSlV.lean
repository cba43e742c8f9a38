/- SessionAsks: lemmas, from 'Arguments opened with what each of their slices weighs: stru' on; what each asks for stands in it. -/
import Derived.Test.YtdplnedpbkpgpaaGreatDoorSlU
import Derived.OpenShut
import Derived.Test.YtdplnedpbkpgpaaGreatDoorSlL
import Derived.Test.YtdplnedpbkpgpaaGreatDoorSlT
import Derived.HandedShaped
import Derived.Shelf.Vars
import Derived.Lay
import Derived.LaidLaws
import Derived.SevenTiedAt
set_option linter.all false
set_option maxRecDepth 100000
set_option maxHeartbeats 64000000
namespace Go.Proofs.YtdplnedpbkpgpaaGreatDoor
open Go.ChangeShapes Go.WideShapes Go.ChangeAt Go.RowKit Go.Deep
section
variable {H : Type} {enc : TypeId × Value → H} {P : Program} {w : World} {base : Nat} {spare : Nat → Bool} {held : Bool} {R : Nat}
def AZ (enc:TypeId×Value→H) (P:Program) (w:World) (base:Nat) (spare:Nat→Bool) (held:Bool) (R n:Nat) (t:TypeId) (l:List Value):Prop:=
 ∃y,DataW.trod enc P w base spare held n t l=some y∧∀k∈y.1.weights P t,k≤R
theorem VI {e:TypeId}: ∀{ds:List (DataW H)} {d:DataW H},d∈ds→∀n∈d.weights P e,n∈DataW.weightsAll P e ds
 |[],_,h,_,_=>by cases h
 |x::r,d,h,n,hn=>by
  simp only[DataW.weightsAll,List.mem_append];rcases List.mem_cons.1 h with rfl|h;·exact .inl hn
  ·exact .inr (VI h n hn)
def XX (enc:TypeId×Value→H) (P:Program) (w:World) (base:Nat) (spare:Nat→Bool) (held:Bool) (R n:Nat) (fs:Array Field) (l:List Value):Prop:=
 ∀(j:Nat) (f:Field),fs[j]? = some f→AZ enc P w base spare held R n f.type ((l.drop f.offset).take (P.cellsOf f.type))
theorem AZ.fields {n:Nat} {t:TypeId} {fs:Array Field} {l:List Value} (hs:P.underlying t=some (.struct fs)) (h:AZ enc P w base spare held R n t l): ∃n',XX enc P w base spare held R n' fs l:=by
 obtain⟨y,h,hW⟩:=h;obtain⟨ys,n',_,hx,_,hyl,hg⟩:=DataW.trod_struct hs h;refine⟨n',fun j f hj=>?_⟩;have hjl:j<fs.size:=(Array.getElem?_eq_some_iff.1 hj).1;have hjy:j<ys.length:=by omega
 refine⟨ys[j],(hg j f hj).trans (List.getElem?_eq_getElem hjy),fun q hq=>hW q ?_⟩;subst hx;simp only[DataW.weights,hs];exact DataW.weights_mem_each (j:=j) (t:=f.type) (d:=(ys[j]).1) (by simp[hj]) (by simp[hjy]) q hq
theorem XX.at_ {n:Nat} {fs:Array Field} {l l':List Value} (h:XX enc P w base spare held R n fs l) (j:Nat) (T:TypeId) (off k:Nat) (f:Field) (hj:fs[j]? = some f) (hT:f.type=T) (ho:f.offset=off) (hk:P.cellsOf T=k) (hl:(l.drop off).take k=l'):AZ enc P w base spare held R n T l':=by
 have hy:=h j f hj;rw[hT,ho,hk,hl] at hy;exact hy
theorem AZ.int {k:IntKind} {n:Nat} {t:TypeId} {c:Value} (ht:P.underlying t=some (.int k)) (h:AZ enc P w base spare held R n t [c]): ∃a,c = .int k a∧(Lit.int k a).wf=true:=by
 obtain⟨y,h,_⟩:=h;exact agg_int ht h
theorem AZ.bool {n:Nat} {t:TypeId} {c:Value} (ht:P.underlying t=some .bool) (h:AZ enc P w base spare held R n t [c]): ∃b:Bool,c = .bool b:=by
 obtain⟨y,h,_⟩:=h;exact agg_boolP ht h
theorem AZ.str {n:Nat} {t:TypeId} {c:Value} (ht:P.underlying t=some .string) (h:AZ enc P w base spare held R n t [c]): ∃s:ByteArray,c = .string s∧s.size≤maxLen∧s.size≤R:=by
 obtain⟨y,h,hW⟩:=h;obtain⟨s,h1,h2,h3⟩:=DataW.trod_string ht h;refine⟨s,by simpa using h1,h3,?_⟩;subst h2;have:=hW s.data.toList.length (by simp[DataW.weights]);have e:s.data.toList.length=s.size:=by rw[Array.length_toList];rfl
 rw[e] at this;exact this
theorem AZ.arr {n m:Nat} {t e:TypeId} {l:List Value} (ht:P.underlying t=some (.array m e)) (h:AZ enc P w base spare held R n t l): ∃n',∀i,i<m→AZ enc P w base spare held R n' e ((l.drop (i*P.cellsOf e)).take (P.cellsOf e)):=by
 obtain⟨y,h,hW⟩:=h;obtain⟨xs,n',_,hx,_,hxl,hg⟩:=DataW.trod_array ht h;refine⟨n',fun i hi=>?_⟩;have hil:i<xs.length:=by omega
 refine⟨xs[i],(hg i hi).trans (List.getElem?_eq_getElem hil),fun q hq=>hW q ?_⟩;subst hx;simp only[DataW.weights,ht];exact VI (List.mem_map.2 ⟨xs[i],List.getElem_mem hil,rfl⟩) q hq
theorem AZ.slice {α:Type} {cf:α→List Value} {ok:α→Prop} {t e:TypeId} {size:Nat} {n0:Nat} {v:Value} (ht:P.underlying t=some (.slice e)) (hC:P.cellsOf e=size) (h0:0<size) (hcl: ∀x,(cf x).length=size)
  (hel: ∀(n:Nat) (l:List Value),l.length=size→AZ enc P w base spare held R n e l→∃x:α,l=cf x∧ok x)
  (h:AZ enc P w base spare held R n0 t [v]): ∃(A:Option Addr) (l:List α) (cap:Nat),v = .slice A l.length cap∧l.length≤cap∧cap≤maxLen∧RdX cf w A l∧(∀x∈l,ok x)∧l.length*P.bytesOf e≤R:=by
 obtain⟨y0,h,hW⟩:=h;rcases open_slice ht h with⟨hcs,_⟩|⟨a,len,cap,m,n,D,Pl,hcs,_,hlc,hm,hmm,hx,hi⟩
 ·simp at hcs;subst hcs;exact⟨none,[],0,rfl,Nat.le_refl _,Nat.zero_le _,rdX_nil,(fun x hx=>by cases hx),by simp⟩
 ·simp at hcs;subst hcs;have hlm:len≤m:=by rw[hmm];split<;>omega
  subst hx;have hlw:len*P.bytesOf e≤R:=by
   have h1:=hW (((List.range len).map D).length*P.bytesOf e+((List.range (m-len)).map fun j=>D (len+j)).length*P.bytesOf e) (by
    simp only[DataW.weights,ht];rw[←Nat.add_mul];exact List.mem_cons_self)
   simp only[List.length_map,List.length_range] at h1;exact Nat.le_trans (Nat.le_add_right _ _) h1
  obtain⟨xs,hxl,hx⟩:=list_of (p:=fun i (x:α)=>ok x∧∀j u,(cf x)[j]? = some u→w.cell? (a.add (i*size+j))=some u) len (fun i hi1=>by
   obtain⟨cs',hc,ht'⟩:=hi i (by omega);obtain⟨_,hcl',hat⟩:=World.cells?_some hc;rw[hC] at hcl' hat;obtain⟨x,rfl,hok⟩:=hel _ _ hcl' ⟨_,ht',fun k hk=>hW k (by
    simp only[DataW.weights,ht,List.mem_cons,List.mem_append];exact .inr (.inl (VI (List.mem_map.2 ⟨i,List.mem_range.2 hi1,rfl⟩) k hk)))⟩
   refine⟨x,hok,fun j u hu=>?_⟩;have hj:j<size:=by have:=(List.getElem?_eq_some_iff.1 hu).1;omega
   rw[←Go.Deep.add_add];exact(hat j hj).trans hu)
  subst hxl;refine⟨some a,xs,cap,rfl,hlc,hm,fun hl0=>?_,fun x hx1=>?_,hlw⟩
  ·have h00: ∃u,w.cell? (a.add 0)=some u:=by
    have hx0:=hx 0 (xs[0]'hl0) (List.getElem?_eq_getElem hl0);have h1:(cf (xs[0]'hl0))[0]? = some ((cf (xs[0]'hl0))[0]'(by rw[hcl];exact h0)):=List.getElem?_eq_getElem _;exact⟨_,by simpa using hx0.2 0 _ h1⟩
   obtain⟨u0,hu0⟩:=h00;have hadd0:a.add 0=a:=by unfold Addr.add;simp
   rw[hadd0] at hu0;have hs:a.spot=none:=by
    unfold World.cell? at hu0;split at hu0
    ·split at hu0;·cases hu0
     ·rename_i h1;simpa using h1
    ·cases hu0
   obtain⟨b,off,sp⟩:=a;simp at hs;subst hs;refine⟨b,off,rfl,World.block_lt_of_cell? w _ hu0,fun j u hu=>?_⟩;have key: ∀(l:List α) (j:Nat) (u:Value),(l.flatMap cf)[j]? = some u→∃i x k,l[i]? = some x∧(cf x)[k]? = some u∧j=i*size+k:=by
    intro l;induction l with
    |nil=>intro j u h;simp at h
    |cons y ys ih=>
     intro j u h;rw[List.flatMap_cons] at h;rcases Nat.lt_or_ge j (cf y).length with h1|h1
     ·rw[List.getElem?_append_left h1] at h;exact⟨0,y,j,rfl,h,by simp⟩
     ·rw[List.getElem?_append_right h1] at h;obtain⟨i,x,k,h2,h3,h4⟩:=ih _ _ h;refine⟨i+1,x,k,by simpa using h2,h3,?_⟩;rw[hcl] at h1 h4;rw[Nat.succ_mul];omega
   obtain⟨i,x,k,h2,h3,rfl⟩:=key xs j u hu;have:=(hx i x h2).2 k u h3;rw[Addr.add_mid] at this;exact this
  ·obtain⟨i,hi1⟩:=List.mem_iff_getElem?.1 hx1;exact(hx i x hi1).1
theorem OU {r:Reach} {b0:Nat} {t:TypeId} {fs:Array Field} {v:Value} {d:DataW H} {p:List MemPlace} {k:Nat} (hs:P.underlying t=some (.struct fs)) (hC:P.cellsOf t=k) (hW: ∀q∈d.weights P t,q≤R)
  (hv:Value.okWide P w r b0 t v) (h:DataW.Trod enc P w base spare held t v d p): ∃(l:List Value) (n:Nat),v = .agg l.toArray∧l.length=k∧AZ enc P w base spare held R n t l:=by
 obtain⟨cs,rfl,hsz⟩:=okWide_struct hs hv;obtain⟨l⟩:=cs;obtain⟨fuel,hf⟩:=h;have hcs:(Value.agg ⟨l⟩).cells.toList=l:=by simp[Value.cells]
 rw[hcs] at hf;exact⟨l,fuel,rfl,by simpa using hsz.trans hC,⟨_,hf,hW⟩⟩
end
end Go.Proofs.YtdplnedpbkpgpaaGreatDoor
namespace Go.Proofs.YtdplnedpbkpgpaaGreatDoor
open Go.ChangeShapes Go.WideShapes Go.ChangeAt Go.RowKit Go.Deep
theorem arN24 {l:List Value} (h:l.length=24): ∃c0 c1 c2 c3 c4 c5 c6 c7 c8 c9 c10 c11 c12 c13 c14 c15 c16 c17 c18 c19 c20 c21 c22 c23,l=[c0,c1,c2,c3,c4,c5,c6,c7,c8,c9,c10,c11,c12,c13,c14,c15,c16,c17,c18,c19,c20,c21,c22,c23]:=by
 match l,h with
 |[c0,c1,c2,c3,c4,c5,c6,c7,c8,c9,c10,c11,c12,c13,c14,c15,c16,c17,c18,c19,c20,c21,c22,c23],_=>exact⟨c0,c1,c2,c3,c4,c5,c6,c7,c8,c9,c10,c11,c12,c13,c14,c15,c16,c17,c18,c19,c20,c21,c22,c23,rfl⟩
theorem arN32 {l:List Value} (h:l.length=32): ∃c0 c1 c2 c3 c4 c5 c6 c7 c8 c9 c10 c11 c12 c13 c14 c15 c16 c17 c18 c19 c20 c21 c22 c23 c24 c25 c26 c27 c28 c29 c30 c31,l=[c0,c1,c2,c3,c4,c5,c6,c7,c8,c9,c10,c11,c12,c13,c14,c15,c16,c17,c18,c19,c20,c21,c22,c23,c24,c25,c26,c27,c28,c29,c30,c31]:=by
 match l,h with
 |[c0,c1,c2,c3,c4,c5,c6,c7,c8,c9,c10,c11,c12,c13,c14,c15,c16,c17,c18,c19,c20,c21,c22,c23,c24,c25,c26,c27,c28,c29,c30,c31],_=>exact⟨c0,c1,c2,c3,c4,c5,c6,c7,c8,c9,c10,c11,c12,c13,c14,c15,c16,c17,c18,c19,c20,c21,c22,c23,c24,c25,c26,c27,c28,c29,c30,c31,rfl⟩
structure TOk (t : TM) : Prop where
  ch : ∀ i, i < 19 → 0 ≤ t.ch i ∧ t.ch i < 256
  fl : 0 ≤ t.fl ∧ t.fl < 18446744073709551616
  mn : -9223372036854775808 ≤ t.mn ∧ t.mn ≤ 9223372036854775807
  tm : -9223372036854775808 ≤ t.tm ∧ t.tm ≤ 9223372036854775807
theorem wf_u64 {n:Int} (h:(Lit.int .u64 n).wf=true):0≤n∧n<18446744073709551616:=by
 simp[Lit.wf,IntKind.min,IntKind.max,IntKind.bits,IntKind.signed] at h;omega
theorem EM {n:Int} (h:(Lit.int .u8 n).wf=true):0≤n∧n<256:=by
 have:=wf_u8 h;omega
section
variable {H : Type} {enc : TypeId × Value → H} {w : World} {base : Nat} {spare : Nat → Bool} {held : Bool} {R : Nat}
theorem WD {n:Nat} {l:List Value} (hl:l.length=24) (h:AZ enc Tryz.prog w base spare held R n 28 l): ∃t:TM,l=t.cells∧TOk t:=by
 obtain⟨n1,hf⟩:=h.fields Tryz.underlying28;obtain⟨c0,c1,c2,c3,c4,c5,c6,c7,c8,c9,c10,c11,c12,c13,c14,c15,c16,c17,c18,c19,c20,c21,c22,c23,rfl⟩:=arN24 hl;have g0:=hf.at_ 0 25 0 19 _ rfl rfl rfl (by kernel_rfl) rfl;have g1:=hf.at_ 1 26 19 1 _ rfl rfl rfl (by kernel_rfl) rfl;have g2:=hf.at_ 2 22 20 1 _ rfl rfl rfl (by kernel_rfl) rfl;have g3:=hf.at_ 3 22 21 1 _ rfl rfl rfl (by kernel_rfl) rfl;have g4:=hf.at_ 4 3 22 1 _ rfl rfl rfl (by kernel_rfl) rfl;have g5:=hf.at_ 5 3 23 1 _ rfl rfl rfl (by kernel_rfl) rfl;obtain⟨n2,ha⟩:=g0.arr Tryz.underlying25;rw[(by kernel_rfl:Tryz.prog.cellsOf 5=1)] at ha;obtain⟨x0,rfl,u0⟩:=AZ.int (c:=c0) Tryz.underlying5 (ha 0 (by decide));obtain⟨x1,rfl,u1⟩:=AZ.int (c:=c1) Tryz.underlying5 (ha 1 (by decide));obtain⟨x2,rfl,u2⟩:=AZ.int (c:=c2) Tryz.underlying5 (ha 2 (by decide));obtain⟨x3,rfl,u3⟩:=AZ.int (c:=c3) Tryz.underlying5 (ha 3 (by decide));obtain⟨x4,rfl,u4⟩:=AZ.int (c:=c4) Tryz.underlying5 (ha 4 (by decide));obtain⟨x5,rfl,u5⟩:=AZ.int (c:=c5) Tryz.underlying5 (ha 5 (by decide));obtain⟨x6,rfl,u6⟩:=AZ.int (c:=c6) Tryz.underlying5 (ha 6 (by decide));obtain⟨x7,rfl,u7⟩:=AZ.int (c:=c7) Tryz.underlying5 (ha 7 (by decide));obtain⟨x8,rfl,u8⟩:=AZ.int (c:=c8) Tryz.underlying5 (ha 8 (by decide));obtain⟨x9,rfl,u9⟩:=AZ.int (c:=c9) Tryz.underlying5 (ha 9 (by decide));obtain⟨x10,rfl,u10⟩:=AZ.int (c:=c10) Tryz.underlying5 (ha 10 (by decide));obtain⟨x11,rfl,u11⟩:=AZ.int (c:=c11) Tryz.underlying5 (ha 11 (by decide));obtain⟨x12,rfl,u12⟩:=AZ.int (c:=c12) Tryz.underlying5 (ha 12 (by decide));obtain⟨x13,rfl,u13⟩:=AZ.int (c:=c13) Tryz.underlying5 (ha 13 (by decide));obtain⟨x14,rfl,u14⟩:=AZ.int (c:=c14) Tryz.underlying5 (ha 14 (by decide));obtain⟨x15,rfl,u15⟩:=AZ.int (c:=c15) Tryz.underlying5 (ha 15 (by decide));obtain⟨x16,rfl,u16⟩:=AZ.int (c:=c16) Tryz.underlying5 (ha 16 (by decide));obtain⟨x17,rfl,u17⟩:=AZ.int (c:=c17) Tryz.underlying5 (ha 17 (by decide));obtain⟨x18,rfl,u18⟩:=AZ.int (c:=c18) Tryz.underlying5 (ha 18 (by decide));obtain⟨fl,rfl,v1⟩:=AZ.int Tryz.underlying26 g1;obtain⟨inn,rfl,v2⟩:=AZ.int Tryz.underlying22 g2;obtain⟨out,rfl,v3⟩:=AZ.int Tryz.underlying22 g3;obtain⟨mn,rfl,v4⟩:=AZ.int Tryz.underlying3 g4;obtain⟨tm,rfl,v5⟩:=AZ.int Tryz.underlying3 g5;refine⟨⟨fun k=>[x0,x1,x2,x3,x4,x5,x6,x7,x8,x9,x10,x11,x12,x13,x14,x15,x16,x17,x18].getD k 0,fl,inn,out,mn,tm⟩,rfl,⟨fun i hi=>?_,wf_u64 v1,wf_i64 v4,wf_i64 v5⟩⟩;match i,hi with
 |0,_=>exact EM u0
 |1,_=>exact EM u1
 |2,_=>exact EM u2
 |3,_=>exact EM u3
 |4,_=>exact EM u4
 |5,_=>exact EM u5
 |6,_=>exact EM u6
 |7,_=>exact EM u7
 |8,_=>exact EM u8
 |9,_=>exact EM u9
 |10,_=>exact EM u10
 |11,_=>exact EM u11
 |12,_=>exact EM u12
 |13,_=>exact EM u13
 |14,_=>exact EM u14
 |15,_=>exact EM u15
 |16,_=>exact EM u16
 |17,_=>exact EM u17
 |18,_=>exact EM u18
 |k+19,hi=>exact absurd hi (by omega)
theorem var_cells {n:Nat} {l:List Value} (hl:l.length=2) (h:AZ enc Tryz.prog w base spare held R n 76 l): ∃x:VR,l=AI x∧(x.n.size≤maxLen∧x.v.size≤maxLen∧x.n.size≤R∧x.v.size≤R):=by
 obtain⟨n1,hf⟩:=h.fields Tryz.underlying76;match l,hl with
 |[c0,c1],_=>
 have g0:=hf.at_ 0 9 0 1 _ rfl rfl rfl (by kernel_rfl) rfl;have g1:=hf.at_ 1 9 1 1 _ rfl rfl rfl (by kernel_rfl) rfl;obtain⟨a,rfl,a1,a2⟩:=AZ.str Tryz.underlying9 g0;obtain⟨b,rfl,b1,b2⟩:=AZ.str Tryz.underlying9 g1;exact⟨⟨a,b⟩,rfl,a1,b1,a2,b2⟩
structure SesIn (w : World) (R : Nat) (s : SS) (A : Option Addr) (cap : Nat) : Prop where
  rd : RdX AI w A s.env
  le : s.env.length ≤ cap
  max : cap ≤ maxLen
  few : s.env.length * 32 ≤ R
  term : s.term.size ≤ maxLen ∧ s.term.size ≤ R
  size : (0 ≤ s.c0 ∧ s.c0 < 4294967296) ∧ (0 ≤ s.c1 ∧ s.c1 < 4294967296) ∧ (0 ≤ s.c2 ∧ s.c2 < 4294967296) ∧ (0 ≤ s.c3 ∧ s.c3 < 4294967296)
  t : TOk s.t
  strs : ∀ x ∈ s.env, x.n.size ≤ maxLen ∧ x.v.size ≤ maxLen ∧ x.n.size ≤ R ∧ x.v.size ≤ R
theorem TA {n:Int} (h:(Lit.int .u32 n).wf=true):0≤n∧n<4294967296:=by
 simp[Lit.wf,IntKind.min,IntKind.max,IntKind.bits,IntKind.signed] at h;omega
theorem open_sess {r:Reach} {b0:Nat} {v:Value} {d:DataW H} {p:List MemPlace} (hW: ∀q∈d.weights Tryz.prog 31,q≤R) (hv:Value.okWide Tryz.prog w r b0 31 v) (h:DataW.Trod enc Tryz.prog w base spare held 31 v d p): ∃(s:SS) (A:Option Addr) (cap:Nat),v=s.val A cap∧SesIn w R s A cap:=by
 obtain⟨l,n,rfl,hl,hf⟩:=OU Tryz.underlying31 (by kernel_rfl:Tryz.prog.cellsOf 31=32) hW hv h;obtain⟨n1,hf⟩:=hf.fields Tryz.underlying31;obtain⟨c0,c1,c2,c3,c4,c5,c6,c7,c8,c9,c10,c11,c12,c13,c14,c15,c16,c17,c18,c19,c20,c21,c22,c23,c24,c25,c26,c27,c28,c29,c30,c31,rfl⟩:=arN32 hl;have g0:=hf.at_ 0 4 0 1 _ rfl rfl rfl (by kernel_rfl) rfl;have g1:=hf.at_ 1 9 1 1 _ rfl rfl rfl (by kernel_rfl) rfl;have g2:=hf.at_ 2 24 2 4 _ rfl rfl rfl (by kernel_rfl) rfl;have g3:=hf.at_ (l':=[c6,c7,c8,c9,c10,c11,c12,c13,c14,c15,c16,c17,c18,c19,c20,c21,c22,c23,c24,c25,c26,c27,c28,c29]) 3 28 6 24 _ rfl rfl rfl (by kernel_rfl) rfl;have g4:=hf.at_ 4 29 30 1 _ rfl rfl rfl (by kernel_rfl) rfl;have g5:=hf.at_ 5 4 31 1 _ rfl rfl rfl (by kernel_rfl) rfl;obtain⟨n2,hs⟩:=g2.fields Tryz.underlying24;have s0:=hs.at_ 0 22 0 1 _ rfl rfl rfl (by kernel_rfl) rfl;have s1:=hs.at_ 1 22 1 1 _ rfl rfl rfl (by kernel_rfl) rfl;have s2:=hs.at_ 2 22 2 1 _ rfl rfl rfl (by kernel_rfl) rfl;have s3:=hs.at_ 3 22 3 1 _ rfl rfl rfl (by kernel_rfl) rfl;obtain⟨pt,rfl⟩:=AZ.bool Tryz.underlying4 g0;obtain⟨tm,rfl,a1,a2⟩:=AZ.str Tryz.underlying9 g1;obtain⟨z0,rfl,u0⟩:=AZ.int Tryz.underlying22 s0;obtain⟨z1,rfl,u1⟩:=AZ.int Tryz.underlying22 s1;obtain⟨z2,rfl,u2⟩:=AZ.int Tryz.underlying22 s2;obtain⟨z3,rfl,u3⟩:=AZ.int Tryz.underlying22 s3;obtain⟨t,et,ht⟩:=WD rfl g3;obtain⟨A,env,cap,rfl,e1,e2,e3,e4,e5⟩:=AZ.slice (cf:=AI) (ok:=fun x=>x.n.size≤maxLen∧x.v.size≤maxLen∧x.n.size≤R∧x.v.size≤R) (size:=2) Tryz.underlying29 (by kernel_rfl) (by decide) DD (fun n l hl h=>var_cells hl h) g4;obtain⟨st,rfl⟩:=AZ.bool Tryz.underlying4 g5;refine⟨⟨pt,tm,z0,z1,z2,z3,t,env,st⟩,A,cap,?_,⟨e3,e1,e2,by rw[SO] at e5;exact e5,⟨a1,a2⟩,⟨TA u0,TA u1,TA u2,TA u3⟩,ht,e4⟩⟩;have e: ∀(l:List Value),l=t.cells→(Value.agg (.bool pt :: .string tm :: .int .u32 z0 :: .int .u32 z1 :: .int .u32 z2 :: .int .u32 z3::(l++[.slice A env.length cap,.bool st])).toArray)=SS.val ⟨pt,tm,z0,z1,z2,z3,t,env,st⟩ A cap:=fun l h=>by subst h;rfl
 exact e _ et
end
end Go.Proofs.YtdplnedpbkpgpaaGreatDoor
namespace Go.Proofs.YtdplnedpbkpgpaaGreatDoor
open Go.ChangeShapes Go.WideShapes Go.ChangeAt Go.RowKit Go.Deep
section
variable {H : Type} {enc : TypeId × Value → H} {w : World} {base : Nat} {spare : Nat → Bool} {held : Bool} {R : Nat}
theorem eA {n:Nat} {v:Value} (h:AZ enc Tryz.prog w base spare held R n 32 [v]): ∃(A:Option Addr) (l:List Int) (cap:Nat),v = .slice A l.length cap∧RdX cu8 w A l∧l.length≤cap∧cap≤maxLen∧(∀x∈l,0≤x∧x<256)∧l.length≤R:=by
 obtain⟨A,l,cap,e,h1,h2,h3,h4,h5⟩:=h.slice (cf:=cu8) (ok:=fun x=>0≤x∧x<256) (size:=1) Tryz.underlying32 (by kernel_rfl) (by decide) DM (fun n l hl h=>by
  match l,hl with
  |[c],_=>
   obtain⟨a,rfl,u⟩:=AZ.int Tryz.underlying5 h;exact⟨a,rfl,EM u⟩)
 rw[(by kernel_rfl:Tryz.prog.bytesOf 5=1),Nat.mul_one] at h5;exact⟨A,l,cap,e,h3,h1,h2,h4,h5⟩
theorem aC (hR:R≤140737488355000) {n:Nat} {l:List Value} (hl:l.length=2) (h:AZ enc Tryz.prog w base spare held R n 34 l): ∃x:AQ,l=cAQ x∧(AqOk w x∧x.n.size≤maxLen∧x.n.size≤R∧x.b.length≤R):=by
 obtain⟨n1,hf⟩:=h.fields Tryz.underlying34;match l,hl with
 |[c0,c1],_=>
 have g0:=hf.at_ 0 9 0 1 _ rfl rfl rfl (by kernel_rfl) rfl;have g1:=hf.at_ 1 32 1 1 _ rfl rfl rfl (by kernel_rfl) rfl;obtain⟨a,rfl,a1,a2⟩:=AZ.str Tryz.underlying9 g0;obtain⟨A,b,cap,rfl,k1,k2,k3,k4,k5⟩:=eA g1;exact⟨⟨a,A,cap,b⟩,rfl,⟨k1,k4,k2,k3,Nat.le_trans k5 hR⟩,a1,a2,k5⟩
theorem open_asked (hR:R≤140737488355000) {r:Reach} {b0:Nat} {v:Value} {d:DataW H} {p:List MemPlace} (hW: ∀q∈d.weights Tryz.prog 34,q≤R) (hv:Value.okWide Tryz.prog w r b0 34 v) (h:DataW.Trod enc Tryz.prog w base spare held 34 v d p): ∃x:AQ,v = .agg (cAQ x).toArray∧(AqOk w x∧x.n.size≤maxLen∧x.n.size≤R∧x.b.length≤R):=by
 obtain⟨l,n,rfl,hl,hf⟩:=OU Tryz.underlying34 (by kernel_rfl:Tryz.prog.cellsOf 34=2) hW hv h;obtain⟨x,rfl,hx⟩:=aC hR hl hf;exact⟨x,rfl,hx⟩
def I64' (x:Int):Prop:=-9223372036854775808≤x∧x≤9223372036854775807
theorem ZR {n:Int} (h:(Lit.int .i64 n).wf=true):I64' n:=by
 simp[Lit.wf,IntKind.min,IntKind.max,IntKind.bits,IntKind.signed] at h;unfold I64';omega
structure OpIn (R : Nat) (x : OP9) : Prop where
  k : I64' x.k
  a : I64' x.a
  b : I64' x.b
  t : x.t.size ≤ maxLen ∧ x.t.size ≤ R
theorem dK {n:Nat} {l:List Value} (hl:l.length=4) (h:AZ enc Tryz.prog w base spare held R n 96 l): ∃x:OP9,l=cOP x∧OpIn R x:=by
 obtain⟨n1,hf⟩:=h.fields Tryz.underlying96;match l,hl with
 |[c0,c1,c2,c3],_=>
 have g0:=hf.at_ 0 3 0 1 _ rfl rfl rfl (by kernel_rfl) rfl;have g1:=hf.at_ 1 3 1 1 _ rfl rfl rfl (by kernel_rfl) rfl;have g2:=hf.at_ 2 3 2 1 _ rfl rfl rfl (by kernel_rfl) rfl;have g3:=hf.at_ 3 9 3 1 _ rfl rfl rfl (by kernel_rfl) rfl;obtain⟨k,rfl,u0⟩:=AZ.int Tryz.underlying3 g0;obtain⟨a,rfl,u1⟩:=AZ.int Tryz.underlying3 g1;obtain⟨b,rfl,u2⟩:=AZ.int Tryz.underlying3 g2;obtain⟨t,rfl,t1,t2⟩:=AZ.str Tryz.underlying9 g3;exact⟨⟨k,a,b,t⟩,rfl,ZR u0,ZR u1,ZR u2,t1,t2⟩
theorem YQ {n:Nat} {l:List Value} (hl:l.length=2) (h:AZ enc Tryz.prog w base spare held R n 94 l): ∃x:PG,l=cPG x∧(PgOk w x∧(x.n.size≤maxLen∧x.n.size≤R)∧(∀o∈x.ops,OpIn R o)∧x.ops.length*40≤R):=by
 obtain⟨n1,hf⟩:=h.fields Tryz.underlying94;match l,hl with
 |[c0,c1],_=>
 have g0:=hf.at_ 0 9 0 1 _ rfl rfl rfl (by kernel_rfl) rfl;have g1:=hf.at_ 1 92 1 1 _ rfl rfl rfl (by kernel_rfl) rfl;obtain⟨a,rfl,a1,a2⟩:=AZ.str Tryz.underlying9 g0;obtain⟨A,ops,cap,rfl,k1,k2,k3,k4,k5⟩:=g1.slice (cf:=cOP) (ok:=OpIn R) (size:=4) Tryz.underlying92 (by kernel_rfl) (by decide) OH (fun n l hl h=>dK hl h);rw[WP] at k5;exact⟨⟨a,A,cap,ops⟩,rfl,⟨k3,k1,k2⟩,⟨a1,a2⟩,k4,k5⟩
structure PgIn (w : World) (R : Nat) (A : Option Addr) (c : Nat) (l : List PG) : Prop where
  pgs : Pgs w A c l
  few : PgFew l
  FP : ∀ x ∈ l, x.n.size ≤ maxLen ∧ x.n.size ≤ R
  ops : ∀ x ∈ l, ∀ o ∈ x.ops, OpIn R o
theorem open_progs (hR:R≤140737488355000) {r:Reach} {b0:Nat} {v:Value} {d:DataW H} {p:List MemPlace} (hW: ∀q∈d.weights Tryz.prog 35,q≤R) (hv:Value.okWide Tryz.prog w r b0 35 v) (h:DataW.Trod enc Tryz.prog w base spare held 35 v d p): ∃(l:List PG) (A:Option Addr) (cap:Nat),v = .slice A l.length cap∧PgIn w R A cap l:=by
 obtain⟨a0,len,c0,rfl⟩:=okWide_slice Tryz.underlying35 hv;obtain⟨fuel,hf⟩:=h;obtain⟨A,l,cap,e,h1,h2,h3,h4,h5⟩:=AZ.slice (R:=R) (cf:=cPG) (ok:=fun x=>PgOk w x∧(x.n.size≤maxLen∧x.n.size≤R)∧(∀o∈x.ops,OpIn R o)∧x.ops.length*40≤R) (size:=2) Tryz.underlying35 (by kernel_rfl) (by decide) MM (fun n l hl h=>YQ hl h) ⟨_,hf,hW⟩;rw[elemLp_by] at h5;exact⟨l,A,cap,e,⟨h3,h1,h2,fun x hx=>(h4 x hx).1⟩,⟨by omega,fun x hx=>by have:=(h4 x hx).2.2.2;omega⟩,fun x hx=>(h4 x hx).2.1,fun x hx=>(h4 x hx).2.2.1⟩
end
end Go.Proofs.YtdplnedpbkpgpaaGreatDoor
namespace Go.Proofs.YtdplnedpbkpgpaaGreatDoor
open Go.ChangeShapes Go.WideShapes Go.ChangeAt Go.RowKit Go.Deep
def LawWalkC (P:Program) (f:FuncId) (fn:Func):Prop:=
 ∀(H:Type) (enc:TypeId×Value→H) (W:World) (base:Nat) (args:Array Value) (ds:List (DataW H)) (ps:List MemPlace),
  (∀(j:Nat) t v,fn.params[j]? = some t→args[j]? = some v→Value.okWide P W .any base t v)→
  DataW.TrodAll enc P W 0 (fun _=>true) true fn.params.toList args.toList ds ps→
  (DataW.weightsEach P fn.params.toList ds).all (· ≤reachBytes)=true→
  W.ShapedOpen P→
  Calls P f args W fun e W'=>e = .returned (.bool true)∧Below W.heap.size W W'
theorem law_liftedC {C:Checked} {tb:TypeId} (own:ownKnob C.prog.godebug=none) (laidOut:laidOutB C.prog=true) (hb:C.prog.underlying tb=some .bool) (f:FuncId) (fn:Func) (s:ChangeSpec)
  (hfn:C.prog.funcs[f]? = some fn) (noInit:C.prog.inits.idxOf? f=none) (hres:fn.resultTypes=#[tb])
  (hread:readsAll C.prog fn.params.toList=true) (hv:s.vars=[])
  (hs: ∀(H:Type) (ds:List (DataW H)),ds.length=fn.params.size→s.fn H ds = { results:=[.lit (.bool true)],args:=ds })
  (X:World→Prop)
  (walk:LawWalkC C.prog f fn) (os:Os) (started:os.Started) (H:Type) (enc:TypeId×Value→H)
  (witness: ∃(w:World) (tape:Tape) (i:Input),w.os=os∧(w.forCall tape i).Shaped C.prog∧i.vars=[]∧Input.okWide C.prog (w.forCall tape i) .any w.heap.size f i∧
   ((s.pre enc C.prog fn [] false (w.forCall tape i).memory i.args∧X (w.forCall tape i).memory)∧sizedMet enc C.prog fn (OpenSpec.ofChange s) false (w.forCall tape i).memory i.args)∧Assume.holds {} C.prog (lone (Frame.enter C.prog f i.args .normal) [] (w.forCall tape i))) :
  ReturnsInHanded {} C os f .any (fun w args=>(s.pre enc C.prog fn [] false w args∧X w)∧sizedMet enc C.prog fn (OpenSpec.ofChange s) false w args) (s.post enc C.prog fn false true false false):=by
 refine returnsInHanded_of_calls own started noInit witness ?_;intro w tape i _ hsh _ hok hpre hholds;obtain⟨_,_,_,fn',hfn',_,_,_,_,hval⟩:=hok;have e:fn'=fn:=Option.some.inj (hfn'.symm.trans hfn);subst e;obtain⟨⟨⟨ds,gs,before,hw,hc⟩,_⟩,hz⟩:=hpre;have hW:=DataW.Whole.of_heap (w':=w.forCall tape i) (by rfl) hw;have hsz:=hz.weights hw;have hW':=hW;obtain⟨p,q,hA,hV,rfl,hfz,hnd⟩:=hW;have hty:(OpenSpec.ofChange s).bare.plain.varTypes C.prog=[]:=by simp[OpenSpec.ofChange,OpenSpec.bare,ChangeSpec.plain,hv,DataSpec.varTypes]
 have hV0:=hV;rw[hv] at hV0;obtain⟨rfl,rfl⟩:=trodVars_none hV0;rw[hty,List.append_nil,List.append_nil] at hsz;have hlt:=DataW.TrodAll.lt hA;have hlen:ds.length=fn'.params.size:=by have:=cO _ _ _ _ hA;simpa using this
 have hfnc:=hs H ds hlen;refine(walk H enc (w.forCall tape i) w.heap.size i.args ds p hval hA hsz hsh).mono fun e W' ⟨he,bel⟩=>?_;subst he;refine ChangeSpec.post_blind ⟨ds,[],p++[],[],p,[],hW',?_,?_,?_,bel.frame _,fun h=>by cases h⟩
 ·rw[hres,List.append_nil,hfnc];exact trodAll_mk1 (shut_bool hb _)
 ·rw[List.append_nil,hfnc];exact WF laidOut bel _ _ _ _ hread hA hlt
 ·rw[hv,List.append_nil,hfnc];rfl
end Go.Proofs.YtdplnedpbkpgpaaGreatDoor
