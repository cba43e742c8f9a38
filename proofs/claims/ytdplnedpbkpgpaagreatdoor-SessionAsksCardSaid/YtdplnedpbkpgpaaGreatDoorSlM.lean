/- SessionAsks: lemmas, from 'Layers 18, 19, 27, the document's: what stands ahead of a bl' on; what each asks for stands in it. -/
import Derived.Test.YtdplnedpbkpgpaaGreatDoorSlL
import Derived.Laws.Strings3
import Derived.Test.YtdplnedpbkpgpaaGreatDoorSlI
import Derived.Test.YtdplnedpbkpgpaaGreatDoorSlA
import Derived.Test.YtdplnedpbkpgpaaGreatDoorSlK
import Derived.Test.YtdplnedpbkpgpaaGreatDoorSlH
set_option linter.all false
set_option maxRecDepth 100000
set_option maxHeartbeats 64000000
namespace Go.Proofs.YtdplnedpbkpgpaaGreatDoor
open Go.RowKit
theorem ext_take (s:ByteArray) (i:Nat):s.extract 0 i=⟨(s.data.toList.take i).toArray⟩:=by
 apply ByteArray.ext;simp[ByteArray.data_extract];apply Array.ext';simp
theorem TQ: ∀(l:List UInt8) (i:Nat),(∀j:Nat,j<i→l[j]?≠some 32)→l[i]? = some 32→Lib.index l [32]=i
 |[],i,_,h=>by simp at h
 |b::l,0,_,h=>by
  simp at h;subst h;unfold Lib.index;rfl
 |b::l,i+1,hn,h=>by
  have hb:b≠32:=fun e=>hn 0 (by omega) (by simp[e]);have ih:=TQ l i (fun j hj=>by have:=hn (j+1) (by omega);simpa using this) (by simpa using h);unfold Lib.index;rw[if_neg (by simp[List.isPrefixOf,Ne.symm hb]),ih,if_neg (by simp)];omega
theorem TR: ∀(l:List UInt8),(∀j:Nat,l[j]?≠some 32)→Lib.index l [32] = -1
 |[],_=>rfl
 |b::l,hn=>by
  have hb:b≠32:=fun e=>hn 0 (by simp[e]);have ih:=TR l (fun j=>by have:=hn (j+1);simpa using this);unfold Lib.index;rw[if_neg (by simp[List.isPrefixOf,Ne.symm hb]),ih];rfl
theorem lenB (s:ByteArray):s.data.toList.length=s.size:=Array.length_toList
theorem cut_at {s:ByteArray} {i:Nat} (hn: ∀j:Nat,j<i→s.data.toList[j]?≠some 32) (h:s.data.toList[i]? = some 32):JX s=s.extract 0 i:=by
 unfold JX Lib.cut;rw[TQ _ i hn h,if_pos (by omega),ext_take];rfl
theorem cut_no {s:ByteArray} (hn: ∀j:Nat,s.data.toList[j]?≠some 32):JX s=s:=by
 unfold JX Lib.cut;rw[TR _ hn,if_neg (by decide)]
theorem byte_at {s:ByteArray} {i:Nat} {b:UInt8} (h:s.data.toList[i]? = some b) (T:TypeId) {P:Program} (hT:P.underlying T=some .string) (w:World):(Instr.index T (.string s) (.int .i64 i)).run P w = .ok (.int .u8 b.toNat) w:=by
 have hl:i<s.size:=by
  have:=(List.getElem?_eq_some_iff.1 h).1;rw[lenB] at this;exact this
 rw[run_index_string w T s .i64 i hT,dif_pos ⟨by omega,by omega⟩];congr 2
 have:s[(i:Int).toNat]'(by omega)=b:=by
  simp only[Int.toNat_natCast];have h2:=(List.getElem?_eq_some_iff.1 h).2;rw[←h2];rfl
 rw[this]
theorem VQ (s:ByteArray) (hs:s.size≤maxLen) (w:World):Calls Tryz.prog 35 #[.string s] w fun e w'=>e = .returned (.string (JX s))∧Only [] w w':=by
 have J: ∀(d i:Nat),s.size-i=d→i≤s.size→(∀j:Nat,j<i→s.data.toList[j]?≠some 32)→∀(u:Nat→Value),Hs Tryz.prog 35 (fun e w'=>e = .returned (.string (JX s))∧Only [] w w') (Tryz.f35).ntmps w [] [] ⟨.no,AE Tryz.f35 0,BI [(0,.c (.v (.string s))),(3,.c (.v (.int .i64 i)))] (.vals u),[]⟩:=by
  intro d;induction d with
  |zero=>
   intro i hd hi hn u;obtain rfl:i=s.size:=by omega
   have e:JX s=s:=cut_no fun j=>by
    rcases Nat.lt_or_ge j s.size with h|h;·exact hn j h
    ·rw[List.getElem?_eq_none (by rw[lenB];exact h)];simp
   rw[e];refine Hs.e0 ?_;refine Hs.cP ((s.size:Int)<(s.size:Int)) (fun h=>by omega) (fun _=>?_);refine Hs.e0 ?_;exact Hs.rt (v:=.string s) Tryz.func35 fun w' H=>⟨rfl,H.only⟩
  |succ d ih=>
   intro i hd hi hn u;have hil:i<s.size:=by omega
   obtain⟨b,hb⟩: ∃b,s.data.toList[i]? = some b:=⟨_,List.getElem?_eq_getElem (by rw[lenB];exact hil)⟩;have hih:=fun h u=>ih (i+1) (by omega) (by omega) h u;clear ih;refine Hs.e0 ?_;refine Hs.cP ((i:Int)<(s.size:Int)) (fun _=>?_) (fun h=>by omega);refine Hs.e0 ?_;refine Hs.opV (s:=Instr.index 9 (.string s) (.int .i64 i)) (.c (.v (.int .u8 b.toNat))) (by kernel_rfl) rfl (fun w' H=>byte_at hb 9 Tryz.underlying9 w') ?_;refine Hs.e0 ?_;refine Hs.cn (((b.toNat:Nat):Int)==32) (fun h1=>?_) (fun h1=>?_)
   ·have hb32:b=32:=by
     have:b.toNat=32:=by simp at h1;omega
     exact UInt8.toNat_inj.1 this
    subst hb32;rw[cut_at hn hb];refine Hs.e0 ?_;refine Hs.opV (s:=Instr.sliceAt 9 (.string s) none (some (.int .i64 i)) none) (.c (.v (.string (s.extract 0 i)))) (by kernel_rfl) rfl (fun w' H=>by
     rw[run_sliceAt_string _ _ _ _ _ _ Tryz.underlying9,run_slice_string_to_if _ _ _ _ _ Tryz.underlying9,if_pos ⟨by omega,by omega⟩];rfl) ?_
    refine Hs.e0 ?_;exact Hs.rt (v:=.string (s.extract 0 i)) Tryz.func35 fun w' H=>⟨rfl,H.only⟩
   ·refine Hs.e0 ?_;refine Hs.slot 3 (.c (.v (.int .i64 (i+1:Nat)))) rfl ((by kernel_rfl:_=Value.int .i64 (IntKind.i64.wrap ((i:Int)+1))).trans (BW hs)) ?_;refine Hs.lP ?_;exact Hs.goto (AE Tryz.f35 0) [] [] [(0,.c (.v (.string s))),(3,.c (.v (.int .i64 (i+1:Nat))))] (by kernel_rfl) (by decide) (by kernel_rfl) (by kernel_rfl) (fun _=>(by kernel_rfl)) (fun u=>hih (fun j hj=>by
     rcases Nat.lt_or_ge j i with h|h;·exact hn j h
     ·obtain rfl:j=i:=by omega
      rw[hb];intro e;injection e with e;subst e;simp at h1) u)
 refine Hs.en Tryz.func35 [] [] [] [.c (.v (.string s))] (Mem.start0 w) ?_;refine Hs.e0 ?_;refine Hs.lP ?_;exact Hs.goto (AE Tryz.f35 0) [] [] [(0,.c (.v (.string s))),(3,.c (.v (.int .i64 (0:Nat))))] (by kernel_rfl) (by decide) (by kernel_rfl) (by kernel_rfl) (fun _=>(by kernel_rfl)) (fun u=>J s.size 0 (by omega) (by omega) (fun j hj=>by omega) u)
theorem ME (nm:ByteArray) (A:Option Addr) (c:Nat) (ps:List PR) (w:World) (hr:RdX cPr w A ps) (hl:ps.length≤maxLen):Calls Tryz.prog 36 #[.slice A ps.length c,.string nm] w fun e w'=>e = .returned (.tuple #[.int .i64 (HG nm ps),.bool (HE nm ps)])∧Only [] w w':=by
 have J: ∀(d i:Nat),ps.length-i=d→i≤ps.length→(∀x∈ps.take i,(x.n.toList==nm.toList)=false)→∀(u:Nat→Value),Hs Tryz.prog 36 (fun e w'=>e = .returned (.tuple #[.int .i64 (HG nm ps),.bool (HE nm ps)])∧Only [] w w') (Tryz.f36).ntmps w [] [] ⟨.no,AE Tryz.f36 0,BI [(1,.c (.v (.string nm))),(8,.c (.v (.slice A ps.length c))),(9,.c (.v (.int .i64 ps.length))),(10,.c (.v (.int .i64 i)))] (.vals u),[]⟩:=by
  intro d;induction d with
  |zero=>
   intro i hd hi hno u;obtain rfl:i=ps.length:=by omega
   rw[List.take_length] at hno;have e:HF nm ps = -1:=by
    unfold HF;have:=GT nm [] (FP ps) 0 (fun s hs=>by
     obtain⟨x,hx,rfl⟩:=List.mem_map.1 hs;exact hno x hx)
    rw[List.append_nil] at this;rw[this];rfl
   have e1:HG nm ps=0:=by unfold HG;rw[e];rfl
   have e2:HE nm ps=false:=by unfold HE;rw[e];rfl
   rw[e1,e2];refine Hs.e0 ?_;refine Hs.cP ((ps.length:Int)<(ps.length:Int)) (fun h=>by omega) (fun _=>?_);refine Hs.e0 ?_;exact Hs.rt (v:=.tuple #[.int .i64 0,.bool false]) Tryz.func36 fun w' H=>⟨rfl,H.only⟩
  |succ d ih=>
   intro i hd hi hno u;have hil:i<ps.length:=by omega
   obtain⟨x,hx⟩: ∃x,ps[i]? = some x:=⟨_,List.getElem?_eq_getElem hil⟩;obtain⟨ab,aoff,hA,_,_⟩:=hr (by omega);have hih:=fun h u=>ih (i+1) (by omega) (by omega) h u;clear ih;rw[hA] at hih hr⊢;refine Hs.e0 ?_;refine Hs.cP ((i:Int)<(ps.length:Int)) (fun _=>?_) (fun h=>by omega);refine Hs.e0 ?_;refine Hs.idx (b:=ab) (off:=aoff) (len:=ps.length) (c:=c) (i:=i) elemRp hil (by kernel_rfl) ?_;refine Hs.ldx (cf:=cPr) (size:=2) (E:=106) (b:=ab) (off:=aoff) (i:=i) (l:=ps) (x:=x) cPr_len (.g x.sc) (by kernel_rfl) (fun w' H=>hr.only H.only) hx (by kernel_rfl) (by kernel_rfl) rfl (by kernel_rfl) ?_;refine Hs.e1 fun b1=>?_;refine Hs.cn (x.n.toList==nm.toList) (fun h1=>?_) (fun h1=>?_)
   ·have e:HF nm ps=i:=by
     unfold HF;have e2:FP ps=FP (ps.take i)++(x.n::FP (ps.drop (i+1))):=by
      have e3:ps=ps.take i++x::ps.drop (i+1):=by
       have h3:=List.drop_eq_getElem_cons hil;rw[List.getElem?_eq_getElem hil] at hx;injection hx with hx;rw[hx] at h3;rw[←h3,List.take_append_drop]
      unfold FP;rw[←List.map_cons,←List.map_append,←e3]
     rw[e2,GT nm _ _ 0 (fun s hs=>by
      obtain⟨y,hy,rfl⟩:=List.mem_map.1 hs;exact hno y hy),BG (by rw[←h1];exact Bool.beq_comm)]
     unfold FP;rw[List.length_map,List.length_take];omega
    have e1:HG nm ps=i:=by unfold HG;rw[e,if_neg (by omega)]
    have e2:HE nm ps=true:=by unfold HE;rw[e];simp
    rw[e1,e2];refine Hs.e0 ?_;exact Hs.rt (v:=.tuple #[.int .i64 i,.bool true]) Tryz.func36 fun w' H=>⟨rfl,H.only⟩
   ·refine Hs.e0 ?_;refine Hs.slot 10 (.c (.v (.int .i64 (i+1:Nat)))) rfl ((by kernel_rfl:_=Value.int .i64 (IntKind.i64.wrap ((i:Int)+1))).trans (BW hl)) ?_;refine Hs.lP ?_;exact Hs.goto (AE Tryz.f36 0) [] [] [(1,.c (.v (.string nm))),(8,.c (.v (.slice (some ⟨ab,aoff,none⟩) ps.length c))),(9,.c (.v (.int .i64 ps.length))),(10,.c (.v (.int .i64 (i+1:Nat))))] (by kernel_rfl) (by decide) (by kernel_rfl) (by kernel_rfl) (fun _=>(by kernel_rfl)) (fun u=>hih (by
     rw[List.take_add_one,hx];intro y hy;rcases List.mem_append.1 hy with hy|hy;·exact hno y hy
     ·rw[Option.mem_toList] at hy;injection hy with hy;subst hy;exact h1) u)
 refine Hs.en Tryz.func36 [] [] [] [.c (.v (.slice A ps.length c)),.c (.v (.string nm))] (Mem.start0 w) ?_;refine Hs.e0 ?_;refine Hs.lP ?_;exact Hs.goto (AE Tryz.f36 0) [] [] [(1,.c (.v (.string nm))),(8,.c (.v (.slice A ps.length c))),(9,.c (.v (.int .i64 ps.length))),(10,.c (.v (.int .i64 (0:Nat))))] (by kernel_rfl) (by decide) (by kernel_rfl) (by kernel_rfl) (fun _=>(by kernel_rfl)) (fun u=>J ps.length 0 (by omega) (by omega) (by simp) u)
theorem bO (s:SS) (A:Option Addr) (cap:Nat) (w:World) (hr:RdX AI w A s.env) (hle:s.env.length≤1000000):Calls Tryz.prog 30 #[s.val A cap] w (MK 76 s w):=by
 refine Hs.en Tryz.func30 [] [] [] [.g (s.sc A cap)] (Mem.start0 w) ?_;refine Hs.run3 300 (fun _=>by kernel_rfl) fun b0 b1 b2=>?_;refine Hs.litX (cf:=AI) (ty:=29) (c:=cap) 2 IC s.env s.env.length rfl KH DD (by kernel_rfl) (by kernel_rfl) (by kernel_rfl) (fun w' H=>hr.only H.only) (by unfold maxLen;omega) (by rw[SO];omega) fun A5 c5 h5 h5'=>?_;refine Hs.e0 ?_;exact Hs.rt (v:=s.val A5 c5) Tryz.func30 fun w' H=>⟨A5,c5,rfl,H.only,H.fresh (l:=s.env) (cf:=AI) 2 rfl (by kernel_rfl)⟩
theorem HK (s:SS) (A:Option Addr) (cap:Nat) (w:World) (hr:RdX AI w A s.env) (hle:s.env.length≤1000000):Calls Tryz.prog 14 #[s.val A cap] w (MK 76 s w):=by
 refine Hs.en Tryz.func14 [] [] [] [.g (s.sc A cap)] (Mem.start0 w) ?_;refine Hs.e2 fun b0 b1=>?_;refine Hs.callS (cf:=AI) (E:=59) (size:=2) (fun A cap=>s.val A cap) s.env s.env.length rfl (fun w' H=>HS s A cap w' (hr.only H.only) hle) (by kernel_rfl) (by kernel_rfl) fun A2 c2 _ _=>?_;refine Hs.e0 ?_;refine Hs.callS (cf:=AI) (E:=76) (size:=2) (fun A cap=>s.val A cap) s.env s.env.length rfl (fun w' H=>LE s A2 c2 w' (H.rdX 2 rfl (by kernel_rfl:_=some (HB.s A2 c2 s.env.length 59 2 (s.env.flatMap AI)))) hle) (by kernel_rfl) (by kernel_rfl) fun A4 c4 _ _=>?_;refine Hs.e0 ?_;exact Hs.rt (v:=s.val A4 c4) Tryz.func14 fun w' H=>⟨A4,c4,rfl,H.only,H.fresh (l:=s.env) (cf:=AI) 3 rfl (by kernel_rfl)⟩
theorem aX (nm:ByteArray): ∀(l:List ByteArray) (k:Int),(∃i:Nat,l[i]? = some nm∧MT nm l k=k+i)∨MT nm l k = -1
 |[],k=>.inr rfl
 |s::l,k=>by
  cases h:(nm.toList==s.toList) with
  |true=>
   left;refine⟨0,?_,?_⟩;·rw[AR.1 h];rfl
   ·rw[BG h];simp
  |false=>
   rcases aX nm l (k+1) with⟨i,h1,h2⟩|h2
   ·left;refine⟨i+1,h1,?_⟩;rw[CG h,h2];push_cast
    omega
   ·right;rw[CG h,h2]
def sigNs:List Int:=[1,2,3,4,5,6,7,8,9,10,11,12,13,14,15,17,18,19,20,21,22,28]
theorem num_in {nm:ByteArray} (h:FF nm=true): ∃i∈sigNs,nm=AD i:=by
 unfold FF at h;have h0:numI nm>0:=by simpa using h
 rcases aX nm sigL 0 with⟨i,h1,h2⟩|h2
 ·have hi:i<29:=(List.getElem?_eq_some_iff.1 h1).1;have key: ∀i:Nat,i<29→0<i→((i:Int)∈sigNs)∨sigL[i]? = some ⟨#[]⟩:=by decide
  have hp:numI nm=i:=by unfold numI;rw[h2];omega
  rcases key i hi (by omega) with h3|h3
  ·refine⟨i,h3,?_⟩;unfold AD;rw[Int.toNat_natCast,h1];rfl
  ·rw[h1] at h3;injection h3 with h3;subst h3;exact absurd h0 (by decide)
 ·exact absurd h0 (by unfold numI;rw[h2];decide)
theorem rnJ22 (nm:ByteArray) (w:World) (h1:((AD 1).toList==nm.toList)=false) (h2:((AD 2).toList==nm.toList)=false) (h3:((AD 3).toList==nm.toList)=false) (h4:((AD 4).toList==nm.toList)=false) (h5:((AD 5).toList==nm.toList)=false) (h6:((AD 6).toList==nm.toList)=false) (h7:((AD 7).toList==nm.toList)=false) (h8:((AD 8).toList==nm.toList)=false) (h9:((AD 9).toList==nm.toList)=false) (h10:((AD 10).toList==nm.toList)=false) (h11:((AD 11).toList==nm.toList)=false) (h12:((AD 12).toList==nm.toList)=false) (h13:((AD 13).toList==nm.toList)=false) (h14:((AD 14).toList==nm.toList)=false) (h15:((AD 15).toList==nm.toList)=false) (h17:((AD 17).toList==nm.toList)=false) (h18:((AD 18).toList==nm.toList)=false) (h19:((AD 19).toList==nm.toList)=false) (h20:((AD 20).toList==nm.toList)=false) (h21:((AD 21).toList==nm.toList)=false) (h22:((AD 22).toList==nm.toList)=false) (h28:((AD 28).toList==nm.toList)=false) (b0:Nat) (u:Nat→Value):Hs Tryz.prog 37 (fun e w'=>e = .returned (.tuple #[.int .i64 (FE nm),.bool (FF nm)])∧Only [] w w') (Tryz.f37).ntmps w [] [b0] ⟨.no,AE Tryz.f37 0,BI [(0,.c (.v (.string nm))),(6,.c (.s 0 0 22 22)),(7,.c (.v (.int .i64 22))),(8,.c (.v (.int .i64 22)))] (.vals u),[.b true 149 AM]⟩:=by
 have h:FF nm=false:=by
  cases hb:FF nm with
  |false=>rfl
  |true=>
   obtain⟨i,hi,rfl⟩:=num_in hb;simp only[sigNs,List.mem_cons,List.not_mem_nil,or_false] at hi;rcases hi with rfl|rfl|rfl|rfl|rfl|rfl|rfl|rfl|rfl|rfl|rfl|rfl|rfl|rfl|rfl|rfl|rfl|rfl|rfl|rfl|rfl|rfl;·rw[AR.2 rfl] at h1;cases h1
   ·rw[AR.2 rfl] at h2;cases h2
   ·rw[AR.2 rfl] at h3;cases h3
   ·rw[AR.2 rfl] at h4;cases h4
   ·rw[AR.2 rfl] at h5;cases h5
   ·rw[AR.2 rfl] at h6;cases h6
   ·rw[AR.2 rfl] at h7;cases h7
   ·rw[AR.2 rfl] at h8;cases h8
   ·rw[AR.2 rfl] at h9;cases h9
   ·rw[AR.2 rfl] at h10;cases h10
   ·rw[AR.2 rfl] at h11;cases h11
   ·rw[AR.2 rfl] at h12;cases h12
   ·rw[AR.2 rfl] at h13;cases h13
   ·rw[AR.2 rfl] at h14;cases h14
   ·rw[AR.2 rfl] at h15;cases h15
   ·rw[AR.2 rfl] at h17;cases h17
   ·rw[AR.2 rfl] at h18;cases h18
   ·rw[AR.2 rfl] at h19;cases h19
   ·rw[AR.2 rfl] at h20;cases h20
   ·rw[AR.2 rfl] at h21;cases h21
   ·rw[AR.2 rfl] at h22;cases h22
   ·rw[AR.2 rfl] at h28;cases h28
 have h2:FE nm=0:=by
  unfold FF at h;unfold FE;rw[if_neg (by simpa using h)]
 refine Hs.e0 ?_;refine Hs.cF ?_;refine Hs.e0 ?_;exact Hs.rt (v:=.tuple #[.int .i64 0,.bool false]) Tryz.func37 fun w' H=>⟨by rw[h,h2],H.only⟩
theorem rnJ21 (nm:ByteArray) (w:World) (h1:((AD 1).toList==nm.toList)=false) (h2:((AD 2).toList==nm.toList)=false) (h3:((AD 3).toList==nm.toList)=false) (h4:((AD 4).toList==nm.toList)=false) (h5:((AD 5).toList==nm.toList)=false) (h6:((AD 6).toList==nm.toList)=false) (h7:((AD 7).toList==nm.toList)=false) (h8:((AD 8).toList==nm.toList)=false) (h9:((AD 9).toList==nm.toList)=false) (h10:((AD 10).toList==nm.toList)=false) (h11:((AD 11).toList==nm.toList)=false) (h12:((AD 12).toList==nm.toList)=false) (h13:((AD 13).toList==nm.toList)=false) (h14:((AD 14).toList==nm.toList)=false) (h15:((AD 15).toList==nm.toList)=false) (h17:((AD 17).toList==nm.toList)=false) (h18:((AD 18).toList==nm.toList)=false) (h19:((AD 19).toList==nm.toList)=false) (h20:((AD 20).toList==nm.toList)=false) (h21:((AD 21).toList==nm.toList)=false) (h22:((AD 22).toList==nm.toList)=false) (b0:Nat) (u:Nat→Value):Hs Tryz.prog 37 (fun e w'=>e = .returned (.tuple #[.int .i64 (FE nm),.bool (FF nm)])∧Only [] w w') (Tryz.f37).ntmps w [] [b0] ⟨.no,AE Tryz.f37 0,BI [(0,.c (.v (.string nm))),(6,.c (.s 0 0 22 22)),(7,.c (.v (.int .i64 22))),(8,.c (.v (.int .i64 21)))] (.vals u),[.b true 149 AM]⟩:=by
 refine Hs.e0 ?_;refine Hs.cT ?_;refine Hs.e1 fun b2=>?_;refine Hs.cn ((AD 28).toList==nm.toList) (fun h=>?_) (fun h28=>?_)
 ·obtain rfl:AD 28=nm:=AR.1 h;refine Hs.e0 ?_;exact Hs.rt (v:=.tuple #[.int .i64 28,.bool true]) Tryz.func37 fun w' H=>⟨by kernel_rfl,H.only⟩
 refine Hs.e0 ?_;refine Hs.lP ?_;exact Hs.goto (AE Tryz.f37 0) [0] [.b true 149 AM] [(0,.c (.v (.string nm))),(6,.c (.s 0 0 22 22)),(7,.c (.v (.int .i64 22))),(8,.c (.v (.int .i64 22)))] (by kernel_rfl) (by decide) (by kernel_rfl) (by kernel_rfl) (fun _=>(by kernel_rfl)) (fun u=>rnJ22 nm w h1 h2 h3 h4 h5 h6 h7 h8 h9 h10 h11 h12 h13 h14 h15 h17 h18 h19 h20 h21 h22 h28 b0 u)
theorem rnJ20 (nm:ByteArray) (w:World) (h1:((AD 1).toList==nm.toList)=false) (h2:((AD 2).toList==nm.toList)=false) (h3:((AD 3).toList==nm.toList)=false) (h4:((AD 4).toList==nm.toList)=false) (h5:((AD 5).toList==nm.toList)=false) (h6:((AD 6).toList==nm.toList)=false) (h7:((AD 7).toList==nm.toList)=false) (h8:((AD 8).toList==nm.toList)=false) (h9:((AD 9).toList==nm.toList)=false) (h10:((AD 10).toList==nm.toList)=false) (h11:((AD 11).toList==nm.toList)=false) (h12:((AD 12).toList==nm.toList)=false) (h13:((AD 13).toList==nm.toList)=false) (h14:((AD 14).toList==nm.toList)=false) (h15:((AD 15).toList==nm.toList)=false) (h17:((AD 17).toList==nm.toList)=false) (h18:((AD 18).toList==nm.toList)=false) (h19:((AD 19).toList==nm.toList)=false) (h20:((AD 20).toList==nm.toList)=false) (h21:((AD 21).toList==nm.toList)=false) (b0:Nat) (u:Nat→Value):Hs Tryz.prog 37 (fun e w'=>e = .returned (.tuple #[.int .i64 (FE nm),.bool (FF nm)])∧Only [] w w') (Tryz.f37).ntmps w [] [b0] ⟨.no,AE Tryz.f37 0,BI [(0,.c (.v (.string nm))),(6,.c (.s 0 0 22 22)),(7,.c (.v (.int .i64 22))),(8,.c (.v (.int .i64 20)))] (.vals u),[.b true 149 AM]⟩:=by
 refine Hs.e0 ?_;refine Hs.cT ?_;refine Hs.e1 fun b2=>?_;refine Hs.cn ((AD 22).toList==nm.toList) (fun h=>?_) (fun h22=>?_)
 ·obtain rfl:AD 22=nm:=AR.1 h;refine Hs.e0 ?_;exact Hs.rt (v:=.tuple #[.int .i64 22,.bool true]) Tryz.func37 fun w' H=>⟨by kernel_rfl,H.only⟩
 refine Hs.e0 ?_;refine Hs.lP ?_;exact Hs.goto (AE Tryz.f37 0) [0] [.b true 149 AM] [(0,.c (.v (.string nm))),(6,.c (.s 0 0 22 22)),(7,.c (.v (.int .i64 22))),(8,.c (.v (.int .i64 21)))] (by kernel_rfl) (by decide) (by kernel_rfl) (by kernel_rfl) (fun _=>(by kernel_rfl)) (fun u=>rnJ21 nm w h1 h2 h3 h4 h5 h6 h7 h8 h9 h10 h11 h12 h13 h14 h15 h17 h18 h19 h20 h21 h22 b0 u)
theorem rnJ19 (nm:ByteArray) (w:World) (h1:((AD 1).toList==nm.toList)=false) (h2:((AD 2).toList==nm.toList)=false) (h3:((AD 3).toList==nm.toList)=false) (h4:((AD 4).toList==nm.toList)=false) (h5:((AD 5).toList==nm.toList)=false) (h6:((AD 6).toList==nm.toList)=false) (h7:((AD 7).toList==nm.toList)=false) (h8:((AD 8).toList==nm.toList)=false) (h9:((AD 9).toList==nm.toList)=false) (h10:((AD 10).toList==nm.toList)=false) (h11:((AD 11).toList==nm.toList)=false) (h12:((AD 12).toList==nm.toList)=false) (h13:((AD 13).toList==nm.toList)=false) (h14:((AD 14).toList==nm.toList)=false) (h15:((AD 15).toList==nm.toList)=false) (h17:((AD 17).toList==nm.toList)=false) (h18:((AD 18).toList==nm.toList)=false) (h19:((AD 19).toList==nm.toList)=false) (h20:((AD 20).toList==nm.toList)=false) (b0:Nat) (u:Nat→Value):Hs Tryz.prog 37 (fun e w'=>e = .returned (.tuple #[.int .i64 (FE nm),.bool (FF nm)])∧Only [] w w') (Tryz.f37).ntmps w [] [b0] ⟨.no,AE Tryz.f37 0,BI [(0,.c (.v (.string nm))),(6,.c (.s 0 0 22 22)),(7,.c (.v (.int .i64 22))),(8,.c (.v (.int .i64 19)))] (.vals u),[.b true 149 AM]⟩:=by
 refine Hs.e0 ?_;refine Hs.cT ?_;refine Hs.e1 fun b2=>?_;refine Hs.cn ((AD 21).toList==nm.toList) (fun h=>?_) (fun h21=>?_)
 ·obtain rfl:AD 21=nm:=AR.1 h;refine Hs.e0 ?_;exact Hs.rt (v:=.tuple #[.int .i64 21,.bool true]) Tryz.func37 fun w' H=>⟨by kernel_rfl,H.only⟩
 refine Hs.e0 ?_;refine Hs.lP ?_;exact Hs.goto (AE Tryz.f37 0) [0] [.b true 149 AM] [(0,.c (.v (.string nm))),(6,.c (.s 0 0 22 22)),(7,.c (.v (.int .i64 22))),(8,.c (.v (.int .i64 20)))] (by kernel_rfl) (by decide) (by kernel_rfl) (by kernel_rfl) (fun _=>(by kernel_rfl)) (fun u=>rnJ20 nm w h1 h2 h3 h4 h5 h6 h7 h8 h9 h10 h11 h12 h13 h14 h15 h17 h18 h19 h20 h21 b0 u)
theorem rnJ18 (nm:ByteArray) (w:World) (h1:((AD 1).toList==nm.toList)=false) (h2:((AD 2).toList==nm.toList)=false) (h3:((AD 3).toList==nm.toList)=false) (h4:((AD 4).toList==nm.toList)=false) (h5:((AD 5).toList==nm.toList)=false) (h6:((AD 6).toList==nm.toList)=false) (h7:((AD 7).toList==nm.toList)=false) (h8:((AD 8).toList==nm.toList)=false) (h9:((AD 9).toList==nm.toList)=false) (h10:((AD 10).toList==nm.toList)=false) (h11:((AD 11).toList==nm.toList)=false) (h12:((AD 12).toList==nm.toList)=false) (h13:((AD 13).toList==nm.toList)=false) (h14:((AD 14).toList==nm.toList)=false) (h15:((AD 15).toList==nm.toList)=false) (h17:((AD 17).toList==nm.toList)=false) (h18:((AD 18).toList==nm.toList)=false) (h19:((AD 19).toList==nm.toList)=false) (b0:Nat) (u:Nat→Value):Hs Tryz.prog 37 (fun e w'=>e = .returned (.tuple #[.int .i64 (FE nm),.bool (FF nm)])∧Only [] w w') (Tryz.f37).ntmps w [] [b0] ⟨.no,AE Tryz.f37 0,BI [(0,.c (.v (.string nm))),(6,.c (.s 0 0 22 22)),(7,.c (.v (.int .i64 22))),(8,.c (.v (.int .i64 18)))] (.vals u),[.b true 149 AM]⟩:=by
 refine Hs.e0 ?_;refine Hs.cT ?_;refine Hs.e1 fun b2=>?_;refine Hs.cn ((AD 20).toList==nm.toList) (fun h=>?_) (fun h20=>?_)
 ·obtain rfl:AD 20=nm:=AR.1 h;refine Hs.e0 ?_;exact Hs.rt (v:=.tuple #[.int .i64 20,.bool true]) Tryz.func37 fun w' H=>⟨by kernel_rfl,H.only⟩
 refine Hs.e0 ?_;refine Hs.lP ?_;exact Hs.goto (AE Tryz.f37 0) [0] [.b true 149 AM] [(0,.c (.v (.string nm))),(6,.c (.s 0 0 22 22)),(7,.c (.v (.int .i64 22))),(8,.c (.v (.int .i64 19)))] (by kernel_rfl) (by decide) (by kernel_rfl) (by kernel_rfl) (fun _=>(by kernel_rfl)) (fun u=>rnJ19 nm w h1 h2 h3 h4 h5 h6 h7 h8 h9 h10 h11 h12 h13 h14 h15 h17 h18 h19 h20 b0 u)
theorem rnJ17 (nm:ByteArray) (w:World) (h1:((AD 1).toList==nm.toList)=false) (h2:((AD 2).toList==nm.toList)=false) (h3:((AD 3).toList==nm.toList)=false) (h4:((AD 4).toList==nm.toList)=false) (h5:((AD 5).toList==nm.toList)=false) (h6:((AD 6).toList==nm.toList)=false) (h7:((AD 7).toList==nm.toList)=false) (h8:((AD 8).toList==nm.toList)=false) (h9:((AD 9).toList==nm.toList)=false) (h10:((AD 10).toList==nm.toList)=false) (h11:((AD 11).toList==nm.toList)=false) (h12:((AD 12).toList==nm.toList)=false) (h13:((AD 13).toList==nm.toList)=false) (h14:((AD 14).toList==nm.toList)=false) (h15:((AD 15).toList==nm.toList)=false) (h17:((AD 17).toList==nm.toList)=false) (h18:((AD 18).toList==nm.toList)=false) (b0:Nat) (u:Nat→Value):Hs Tryz.prog 37 (fun e w'=>e = .returned (.tuple #[.int .i64 (FE nm),.bool (FF nm)])∧Only [] w w') (Tryz.f37).ntmps w [] [b0] ⟨.no,AE Tryz.f37 0,BI [(0,.c (.v (.string nm))),(6,.c (.s 0 0 22 22)),(7,.c (.v (.int .i64 22))),(8,.c (.v (.int .i64 17)))] (.vals u),[.b true 149 AM]⟩:=by
 refine Hs.e0 ?_;refine Hs.cT ?_;refine Hs.e1 fun b2=>?_;refine Hs.cn ((AD 19).toList==nm.toList) (fun h=>?_) (fun h19=>?_)
 ·obtain rfl:AD 19=nm:=AR.1 h;refine Hs.e0 ?_;exact Hs.rt (v:=.tuple #[.int .i64 19,.bool true]) Tryz.func37 fun w' H=>⟨by kernel_rfl,H.only⟩
 refine Hs.e0 ?_;refine Hs.lP ?_;exact Hs.goto (AE Tryz.f37 0) [0] [.b true 149 AM] [(0,.c (.v (.string nm))),(6,.c (.s 0 0 22 22)),(7,.c (.v (.int .i64 22))),(8,.c (.v (.int .i64 18)))] (by kernel_rfl) (by decide) (by kernel_rfl) (by kernel_rfl) (fun _=>(by kernel_rfl)) (fun u=>rnJ18 nm w h1 h2 h3 h4 h5 h6 h7 h8 h9 h10 h11 h12 h13 h14 h15 h17 h18 h19 b0 u)
theorem rnJ16 (nm:ByteArray) (w:World) (h1:((AD 1).toList==nm.toList)=false) (h2:((AD 2).toList==nm.toList)=false) (h3:((AD 3).toList==nm.toList)=false) (h4:((AD 4).toList==nm.toList)=false) (h5:((AD 5).toList==nm.toList)=false) (h6:((AD 6).toList==nm.toList)=false) (h7:((AD 7).toList==nm.toList)=false) (h8:((AD 8).toList==nm.toList)=false) (h9:((AD 9).toList==nm.toList)=false) (h10:((AD 10).toList==nm.toList)=false) (h11:((AD 11).toList==nm.toList)=false) (h12:((AD 12).toList==nm.toList)=false) (h13:((AD 13).toList==nm.toList)=false) (h14:((AD 14).toList==nm.toList)=false) (h15:((AD 15).toList==nm.toList)=false) (h17:((AD 17).toList==nm.toList)=false) (b0:Nat) (u:Nat→Value):Hs Tryz.prog 37 (fun e w'=>e = .returned (.tuple #[.int .i64 (FE nm),.bool (FF nm)])∧Only [] w w') (Tryz.f37).ntmps w [] [b0] ⟨.no,AE Tryz.f37 0,BI [(0,.c (.v (.string nm))),(6,.c (.s 0 0 22 22)),(7,.c (.v (.int .i64 22))),(8,.c (.v (.int .i64 16)))] (.vals u),[.b true 149 AM]⟩:=by
 refine Hs.e0 ?_;refine Hs.cT ?_;refine Hs.e1 fun b2=>?_;refine Hs.cn ((AD 18).toList==nm.toList) (fun h=>?_) (fun h18=>?_)
 ·obtain rfl:AD 18=nm:=AR.1 h;refine Hs.e0 ?_;exact Hs.rt (v:=.tuple #[.int .i64 18,.bool true]) Tryz.func37 fun w' H=>⟨by kernel_rfl,H.only⟩
 refine Hs.e0 ?_;refine Hs.lP ?_;exact Hs.goto (AE Tryz.f37 0) [0] [.b true 149 AM] [(0,.c (.v (.string nm))),(6,.c (.s 0 0 22 22)),(7,.c (.v (.int .i64 22))),(8,.c (.v (.int .i64 17)))] (by kernel_rfl) (by decide) (by kernel_rfl) (by kernel_rfl) (fun _=>(by kernel_rfl)) (fun u=>rnJ17 nm w h1 h2 h3 h4 h5 h6 h7 h8 h9 h10 h11 h12 h13 h14 h15 h17 h18 b0 u)
theorem rnJ15 (nm:ByteArray) (w:World) (h1:((AD 1).toList==nm.toList)=false) (h2:((AD 2).toList==nm.toList)=false) (h3:((AD 3).toList==nm.toList)=false) (h4:((AD 4).toList==nm.toList)=false) (h5:((AD 5).toList==nm.toList)=false) (h6:((AD 6).toList==nm.toList)=false) (h7:((AD 7).toList==nm.toList)=false) (h8:((AD 8).toList==nm.toList)=false) (h9:((AD 9).toList==nm.toList)=false) (h10:((AD 10).toList==nm.toList)=false) (h11:((AD 11).toList==nm.toList)=false) (h12:((AD 12).toList==nm.toList)=false) (h13:((AD 13).toList==nm.toList)=false) (h14:((AD 14).toList==nm.toList)=false) (h15:((AD 15).toList==nm.toList)=false) (b0:Nat) (u:Nat→Value):Hs Tryz.prog 37 (fun e w'=>e = .returned (.tuple #[.int .i64 (FE nm),.bool (FF nm)])∧Only [] w w') (Tryz.f37).ntmps w [] [b0] ⟨.no,AE Tryz.f37 0,BI [(0,.c (.v (.string nm))),(6,.c (.s 0 0 22 22)),(7,.c (.v (.int .i64 22))),(8,.c (.v (.int .i64 15)))] (.vals u),[.b true 149 AM]⟩:=by
 refine Hs.e0 ?_;refine Hs.cT ?_;refine Hs.e1 fun b2=>?_;refine Hs.cn ((AD 17).toList==nm.toList) (fun h=>?_) (fun h17=>?_)
 ·obtain rfl:AD 17=nm:=AR.1 h;refine Hs.e0 ?_;exact Hs.rt (v:=.tuple #[.int .i64 17,.bool true]) Tryz.func37 fun w' H=>⟨by kernel_rfl,H.only⟩
 refine Hs.e0 ?_;refine Hs.lP ?_;exact Hs.goto (AE Tryz.f37 0) [0] [.b true 149 AM] [(0,.c (.v (.string nm))),(6,.c (.s 0 0 22 22)),(7,.c (.v (.int .i64 22))),(8,.c (.v (.int .i64 16)))] (by kernel_rfl) (by decide) (by kernel_rfl) (by kernel_rfl) (fun _=>(by kernel_rfl)) (fun u=>rnJ16 nm w h1 h2 h3 h4 h5 h6 h7 h8 h9 h10 h11 h12 h13 h14 h15 h17 b0 u)
theorem rnJ14 (nm:ByteArray) (w:World) (h1:((AD 1).toList==nm.toList)=false) (h2:((AD 2).toList==nm.toList)=false) (h3:((AD 3).toList==nm.toList)=false) (h4:((AD 4).toList==nm.toList)=false) (h5:((AD 5).toList==nm.toList)=false) (h6:((AD 6).toList==nm.toList)=false) (h7:((AD 7).toList==nm.toList)=false) (h8:((AD 8).toList==nm.toList)=false) (h9:((AD 9).toList==nm.toList)=false) (h10:((AD 10).toList==nm.toList)=false) (h11:((AD 11).toList==nm.toList)=false) (h12:((AD 12).toList==nm.toList)=false) (h13:((AD 13).toList==nm.toList)=false) (h14:((AD 14).toList==nm.toList)=false) (b0:Nat) (u:Nat→Value):Hs Tryz.prog 37 (fun e w'=>e = .returned (.tuple #[.int .i64 (FE nm),.bool (FF nm)])∧Only [] w w') (Tryz.f37).ntmps w [] [b0] ⟨.no,AE Tryz.f37 0,BI [(0,.c (.v (.string nm))),(6,.c (.s 0 0 22 22)),(7,.c (.v (.int .i64 22))),(8,.c (.v (.int .i64 14)))] (.vals u),[.b true 149 AM]⟩:=by
 refine Hs.e0 ?_;refine Hs.cT ?_;refine Hs.e1 fun b2=>?_;refine Hs.cn ((AD 15).toList==nm.toList) (fun h=>?_) (fun h15=>?_)
 ·obtain rfl:AD 15=nm:=AR.1 h;refine Hs.e0 ?_;exact Hs.rt (v:=.tuple #[.int .i64 15,.bool true]) Tryz.func37 fun w' H=>⟨by kernel_rfl,H.only⟩
 refine Hs.e0 ?_;refine Hs.lP ?_;exact Hs.goto (AE Tryz.f37 0) [0] [.b true 149 AM] [(0,.c (.v (.string nm))),(6,.c (.s 0 0 22 22)),(7,.c (.v (.int .i64 22))),(8,.c (.v (.int .i64 15)))] (by kernel_rfl) (by decide) (by kernel_rfl) (by kernel_rfl) (fun _=>(by kernel_rfl)) (fun u=>rnJ15 nm w h1 h2 h3 h4 h5 h6 h7 h8 h9 h10 h11 h12 h13 h14 h15 b0 u)
theorem rnJ13 (nm:ByteArray) (w:World) (h1:((AD 1).toList==nm.toList)=false) (h2:((AD 2).toList==nm.toList)=false) (h3:((AD 3).toList==nm.toList)=false) (h4:((AD 4).toList==nm.toList)=false) (h5:((AD 5).toList==nm.toList)=false) (h6:((AD 6).toList==nm.toList)=false) (h7:((AD 7).toList==nm.toList)=false) (h8:((AD 8).toList==nm.toList)=false) (h9:((AD 9).toList==nm.toList)=false) (h10:((AD 10).toList==nm.toList)=false) (h11:((AD 11).toList==nm.toList)=false) (h12:((AD 12).toList==nm.toList)=false) (h13:((AD 13).toList==nm.toList)=false) (b0:Nat) (u:Nat→Value):Hs Tryz.prog 37 (fun e w'=>e = .returned (.tuple #[.int .i64 (FE nm),.bool (FF nm)])∧Only [] w w') (Tryz.f37).ntmps w [] [b0] ⟨.no,AE Tryz.f37 0,BI [(0,.c (.v (.string nm))),(6,.c (.s 0 0 22 22)),(7,.c (.v (.int .i64 22))),(8,.c (.v (.int .i64 13)))] (.vals u),[.b true 149 AM]⟩:=by
 refine Hs.e0 ?_;refine Hs.cT ?_;refine Hs.e1 fun b2=>?_;refine Hs.cn ((AD 14).toList==nm.toList) (fun h=>?_) (fun h14=>?_)
 ·obtain rfl:AD 14=nm:=AR.1 h;refine Hs.e0 ?_;exact Hs.rt (v:=.tuple #[.int .i64 14,.bool true]) Tryz.func37 fun w' H=>⟨by kernel_rfl,H.only⟩
 refine Hs.e0 ?_;refine Hs.lP ?_;exact Hs.goto (AE Tryz.f37 0) [0] [.b true 149 AM] [(0,.c (.v (.string nm))),(6,.c (.s 0 0 22 22)),(7,.c (.v (.int .i64 22))),(8,.c (.v (.int .i64 14)))] (by kernel_rfl) (by decide) (by kernel_rfl) (by kernel_rfl) (fun _=>(by kernel_rfl)) (fun u=>rnJ14 nm w h1 h2 h3 h4 h5 h6 h7 h8 h9 h10 h11 h12 h13 h14 b0 u)
theorem rnJ12 (nm:ByteArray) (w:World) (h1:((AD 1).toList==nm.toList)=false) (h2:((AD 2).toList==nm.toList)=false) (h3:((AD 3).toList==nm.toList)=false) (h4:((AD 4).toList==nm.toList)=false) (h5:((AD 5).toList==nm.toList)=false) (h6:((AD 6).toList==nm.toList)=false) (h7:((AD 7).toList==nm.toList)=false) (h8:((AD 8).toList==nm.toList)=false) (h9:((AD 9).toList==nm.toList)=false) (h10:((AD 10).toList==nm.toList)=false) (h11:((AD 11).toList==nm.toList)=false) (h12:((AD 12).toList==nm.toList)=false) (b0:Nat) (u:Nat→Value):Hs Tryz.prog 37 (fun e w'=>e = .returned (.tuple #[.int .i64 (FE nm),.bool (FF nm)])∧Only [] w w') (Tryz.f37).ntmps w [] [b0] ⟨.no,AE Tryz.f37 0,BI [(0,.c (.v (.string nm))),(6,.c (.s 0 0 22 22)),(7,.c (.v (.int .i64 22))),(8,.c (.v (.int .i64 12)))] (.vals u),[.b true 149 AM]⟩:=by
 refine Hs.e0 ?_;refine Hs.cT ?_;refine Hs.e1 fun b2=>?_;refine Hs.cn ((AD 13).toList==nm.toList) (fun h=>?_) (fun h13=>?_)
 ·obtain rfl:AD 13=nm:=AR.1 h;refine Hs.e0 ?_;exact Hs.rt (v:=.tuple #[.int .i64 13,.bool true]) Tryz.func37 fun w' H=>⟨by kernel_rfl,H.only⟩
 refine Hs.e0 ?_;refine Hs.lP ?_;exact Hs.goto (AE Tryz.f37 0) [0] [.b true 149 AM] [(0,.c (.v (.string nm))),(6,.c (.s 0 0 22 22)),(7,.c (.v (.int .i64 22))),(8,.c (.v (.int .i64 13)))] (by kernel_rfl) (by decide) (by kernel_rfl) (by kernel_rfl) (fun _=>(by kernel_rfl)) (fun u=>rnJ13 nm w h1 h2 h3 h4 h5 h6 h7 h8 h9 h10 h11 h12 h13 b0 u)
theorem rnJ11 (nm:ByteArray) (w:World) (h1:((AD 1).toList==nm.toList)=false) (h2:((AD 2).toList==nm.toList)=false) (h3:((AD 3).toList==nm.toList)=false) (h4:((AD 4).toList==nm.toList)=false) (h5:((AD 5).toList==nm.toList)=false) (h6:((AD 6).toList==nm.toList)=false) (h7:((AD 7).toList==nm.toList)=false) (h8:((AD 8).toList==nm.toList)=false) (h9:((AD 9).toList==nm.toList)=false) (h10:((AD 10).toList==nm.toList)=false) (h11:((AD 11).toList==nm.toList)=false) (b0:Nat) (u:Nat→Value):Hs Tryz.prog 37 (fun e w'=>e = .returned (.tuple #[.int .i64 (FE nm),.bool (FF nm)])∧Only [] w w') (Tryz.f37).ntmps w [] [b0] ⟨.no,AE Tryz.f37 0,BI [(0,.c (.v (.string nm))),(6,.c (.s 0 0 22 22)),(7,.c (.v (.int .i64 22))),(8,.c (.v (.int .i64 11)))] (.vals u),[.b true 149 AM]⟩:=by
 refine Hs.e0 ?_;refine Hs.cT ?_;refine Hs.e1 fun b2=>?_;refine Hs.cn ((AD 12).toList==nm.toList) (fun h=>?_) (fun h12=>?_)
 ·obtain rfl:AD 12=nm:=AR.1 h;refine Hs.e0 ?_;exact Hs.rt (v:=.tuple #[.int .i64 12,.bool true]) Tryz.func37 fun w' H=>⟨by kernel_rfl,H.only⟩
 refine Hs.e0 ?_;refine Hs.lP ?_;exact Hs.goto (AE Tryz.f37 0) [0] [.b true 149 AM] [(0,.c (.v (.string nm))),(6,.c (.s 0 0 22 22)),(7,.c (.v (.int .i64 22))),(8,.c (.v (.int .i64 12)))] (by kernel_rfl) (by decide) (by kernel_rfl) (by kernel_rfl) (fun _=>(by kernel_rfl)) (fun u=>rnJ12 nm w h1 h2 h3 h4 h5 h6 h7 h8 h9 h10 h11 h12 b0 u)
theorem rnJ10 (nm:ByteArray) (w:World) (h1:((AD 1).toList==nm.toList)=false) (h2:((AD 2).toList==nm.toList)=false) (h3:((AD 3).toList==nm.toList)=false) (h4:((AD 4).toList==nm.toList)=false) (h5:((AD 5).toList==nm.toList)=false) (h6:((AD 6).toList==nm.toList)=false) (h7:((AD 7).toList==nm.toList)=false) (h8:((AD 8).toList==nm.toList)=false) (h9:((AD 9).toList==nm.toList)=false) (h10:((AD 10).toList==nm.toList)=false) (b0:Nat) (u:Nat→Value):Hs Tryz.prog 37 (fun e w'=>e = .returned (.tuple #[.int .i64 (FE nm),.bool (FF nm)])∧Only [] w w') (Tryz.f37).ntmps w [] [b0] ⟨.no,AE Tryz.f37 0,BI [(0,.c (.v (.string nm))),(6,.c (.s 0 0 22 22)),(7,.c (.v (.int .i64 22))),(8,.c (.v (.int .i64 10)))] (.vals u),[.b true 149 AM]⟩:=by
 refine Hs.e0 ?_;refine Hs.cT ?_;refine Hs.e1 fun b2=>?_;refine Hs.cn ((AD 11).toList==nm.toList) (fun h=>?_) (fun h11=>?_)
 ·obtain rfl:AD 11=nm:=AR.1 h;refine Hs.e0 ?_;exact Hs.rt (v:=.tuple #[.int .i64 11,.bool true]) Tryz.func37 fun w' H=>⟨by kernel_rfl,H.only⟩
 refine Hs.e0 ?_;refine Hs.lP ?_;exact Hs.goto (AE Tryz.f37 0) [0] [.b true 149 AM] [(0,.c (.v (.string nm))),(6,.c (.s 0 0 22 22)),(7,.c (.v (.int .i64 22))),(8,.c (.v (.int .i64 11)))] (by kernel_rfl) (by decide) (by kernel_rfl) (by kernel_rfl) (fun _=>(by kernel_rfl)) (fun u=>rnJ11 nm w h1 h2 h3 h4 h5 h6 h7 h8 h9 h10 h11 b0 u)
theorem rnJ9 (nm:ByteArray) (w:World) (h1:((AD 1).toList==nm.toList)=false) (h2:((AD 2).toList==nm.toList)=false) (h3:((AD 3).toList==nm.toList)=false) (h4:((AD 4).toList==nm.toList)=false) (h5:((AD 5).toList==nm.toList)=false) (h6:((AD 6).toList==nm.toList)=false) (h7:((AD 7).toList==nm.toList)=false) (h8:((AD 8).toList==nm.toList)=false) (h9:((AD 9).toList==nm.toList)=false) (b0:Nat) (u:Nat→Value):Hs Tryz.prog 37 (fun e w'=>e = .returned (.tuple #[.int .i64 (FE nm),.bool (FF nm)])∧Only [] w w') (Tryz.f37).ntmps w [] [b0] ⟨.no,AE Tryz.f37 0,BI [(0,.c (.v (.string nm))),(6,.c (.s 0 0 22 22)),(7,.c (.v (.int .i64 22))),(8,.c (.v (.int .i64 9)))] (.vals u),[.b true 149 AM]⟩:=by
 refine Hs.e0 ?_;refine Hs.cT ?_;refine Hs.e1 fun b2=>?_;refine Hs.cn ((AD 10).toList==nm.toList) (fun h=>?_) (fun h10=>?_)
 ·obtain rfl:AD 10=nm:=AR.1 h;refine Hs.e0 ?_;exact Hs.rt (v:=.tuple #[.int .i64 10,.bool true]) Tryz.func37 fun w' H=>⟨by kernel_rfl,H.only⟩
 refine Hs.e0 ?_;refine Hs.lP ?_;exact Hs.goto (AE Tryz.f37 0) [0] [.b true 149 AM] [(0,.c (.v (.string nm))),(6,.c (.s 0 0 22 22)),(7,.c (.v (.int .i64 22))),(8,.c (.v (.int .i64 10)))] (by kernel_rfl) (by decide) (by kernel_rfl) (by kernel_rfl) (fun _=>(by kernel_rfl)) (fun u=>rnJ10 nm w h1 h2 h3 h4 h5 h6 h7 h8 h9 h10 b0 u)
theorem rnJ8 (nm:ByteArray) (w:World) (h1:((AD 1).toList==nm.toList)=false) (h2:((AD 2).toList==nm.toList)=false) (h3:((AD 3).toList==nm.toList)=false) (h4:((AD 4).toList==nm.toList)=false) (h5:((AD 5).toList==nm.toList)=false) (h6:((AD 6).toList==nm.toList)=false) (h7:((AD 7).toList==nm.toList)=false) (h8:((AD 8).toList==nm.toList)=false) (b0:Nat) (u:Nat→Value):Hs Tryz.prog 37 (fun e w'=>e = .returned (.tuple #[.int .i64 (FE nm),.bool (FF nm)])∧Only [] w w') (Tryz.f37).ntmps w [] [b0] ⟨.no,AE Tryz.f37 0,BI [(0,.c (.v (.string nm))),(6,.c (.s 0 0 22 22)),(7,.c (.v (.int .i64 22))),(8,.c (.v (.int .i64 8)))] (.vals u),[.b true 149 AM]⟩:=by
 refine Hs.e0 ?_;refine Hs.cT ?_;refine Hs.e1 fun b2=>?_;refine Hs.cn ((AD 9).toList==nm.toList) (fun h=>?_) (fun h9=>?_)
 ·obtain rfl:AD 9=nm:=AR.1 h;refine Hs.e0 ?_;exact Hs.rt (v:=.tuple #[.int .i64 9,.bool true]) Tryz.func37 fun w' H=>⟨by kernel_rfl,H.only⟩
 refine Hs.e0 ?_;refine Hs.lP ?_;exact Hs.goto (AE Tryz.f37 0) [0] [.b true 149 AM] [(0,.c (.v (.string nm))),(6,.c (.s 0 0 22 22)),(7,.c (.v (.int .i64 22))),(8,.c (.v (.int .i64 9)))] (by kernel_rfl) (by decide) (by kernel_rfl) (by kernel_rfl) (fun _=>(by kernel_rfl)) (fun u=>rnJ9 nm w h1 h2 h3 h4 h5 h6 h7 h8 h9 b0 u)
theorem rnJ7 (nm:ByteArray) (w:World) (h1:((AD 1).toList==nm.toList)=false) (h2:((AD 2).toList==nm.toList)=false) (h3:((AD 3).toList==nm.toList)=false) (h4:((AD 4).toList==nm.toList)=false) (h5:((AD 5).toList==nm.toList)=false) (h6:((AD 6).toList==nm.toList)=false) (h7:((AD 7).toList==nm.toList)=false) (b0:Nat) (u:Nat→Value):Hs Tryz.prog 37 (fun e w'=>e = .returned (.tuple #[.int .i64 (FE nm),.bool (FF nm)])∧Only [] w w') (Tryz.f37).ntmps w [] [b0] ⟨.no,AE Tryz.f37 0,BI [(0,.c (.v (.string nm))),(6,.c (.s 0 0 22 22)),(7,.c (.v (.int .i64 22))),(8,.c (.v (.int .i64 7)))] (.vals u),[.b true 149 AM]⟩:=by
 refine Hs.e0 ?_;refine Hs.cT ?_;refine Hs.e1 fun b2=>?_;refine Hs.cn ((AD 8).toList==nm.toList) (fun h=>?_) (fun h8=>?_)
 ·obtain rfl:AD 8=nm:=AR.1 h;refine Hs.e0 ?_;exact Hs.rt (v:=.tuple #[.int .i64 8,.bool true]) Tryz.func37 fun w' H=>⟨by kernel_rfl,H.only⟩
 refine Hs.e0 ?_;refine Hs.lP ?_;exact Hs.goto (AE Tryz.f37 0) [0] [.b true 149 AM] [(0,.c (.v (.string nm))),(6,.c (.s 0 0 22 22)),(7,.c (.v (.int .i64 22))),(8,.c (.v (.int .i64 8)))] (by kernel_rfl) (by decide) (by kernel_rfl) (by kernel_rfl) (fun _=>(by kernel_rfl)) (fun u=>rnJ8 nm w h1 h2 h3 h4 h5 h6 h7 h8 b0 u)
theorem rnJ6 (nm:ByteArray) (w:World) (h1:((AD 1).toList==nm.toList)=false) (h2:((AD 2).toList==nm.toList)=false) (h3:((AD 3).toList==nm.toList)=false) (h4:((AD 4).toList==nm.toList)=false) (h5:((AD 5).toList==nm.toList)=false) (h6:((AD 6).toList==nm.toList)=false) (b0:Nat) (u:Nat→Value):Hs Tryz.prog 37 (fun e w'=>e = .returned (.tuple #[.int .i64 (FE nm),.bool (FF nm)])∧Only [] w w') (Tryz.f37).ntmps w [] [b0] ⟨.no,AE Tryz.f37 0,BI [(0,.c (.v (.string nm))),(6,.c (.s 0 0 22 22)),(7,.c (.v (.int .i64 22))),(8,.c (.v (.int .i64 6)))] (.vals u),[.b true 149 AM]⟩:=by
 refine Hs.e0 ?_;refine Hs.cT ?_;refine Hs.e1 fun b2=>?_;refine Hs.cn ((AD 7).toList==nm.toList) (fun h=>?_) (fun h7=>?_)
 ·obtain rfl:AD 7=nm:=AR.1 h;refine Hs.e0 ?_;exact Hs.rt (v:=.tuple #[.int .i64 7,.bool true]) Tryz.func37 fun w' H=>⟨by kernel_rfl,H.only⟩
 refine Hs.e0 ?_;refine Hs.lP ?_;exact Hs.goto (AE Tryz.f37 0) [0] [.b true 149 AM] [(0,.c (.v (.string nm))),(6,.c (.s 0 0 22 22)),(7,.c (.v (.int .i64 22))),(8,.c (.v (.int .i64 7)))] (by kernel_rfl) (by decide) (by kernel_rfl) (by kernel_rfl) (fun _=>(by kernel_rfl)) (fun u=>rnJ7 nm w h1 h2 h3 h4 h5 h6 h7 b0 u)
theorem rnJ5 (nm:ByteArray) (w:World) (h1:((AD 1).toList==nm.toList)=false) (h2:((AD 2).toList==nm.toList)=false) (h3:((AD 3).toList==nm.toList)=false) (h4:((AD 4).toList==nm.toList)=false) (h5:((AD 5).toList==nm.toList)=false) (b0:Nat) (u:Nat→Value):Hs Tryz.prog 37 (fun e w'=>e = .returned (.tuple #[.int .i64 (FE nm),.bool (FF nm)])∧Only [] w w') (Tryz.f37).ntmps w [] [b0] ⟨.no,AE Tryz.f37 0,BI [(0,.c (.v (.string nm))),(6,.c (.s 0 0 22 22)),(7,.c (.v (.int .i64 22))),(8,.c (.v (.int .i64 5)))] (.vals u),[.b true 149 AM]⟩:=by
 refine Hs.e0 ?_;refine Hs.cT ?_;refine Hs.e1 fun b2=>?_;refine Hs.cn ((AD 6).toList==nm.toList) (fun h=>?_) (fun h6=>?_)
 ·obtain rfl:AD 6=nm:=AR.1 h;refine Hs.e0 ?_;exact Hs.rt (v:=.tuple #[.int .i64 6,.bool true]) Tryz.func37 fun w' H=>⟨by kernel_rfl,H.only⟩
 refine Hs.e0 ?_;refine Hs.lP ?_;exact Hs.goto (AE Tryz.f37 0) [0] [.b true 149 AM] [(0,.c (.v (.string nm))),(6,.c (.s 0 0 22 22)),(7,.c (.v (.int .i64 22))),(8,.c (.v (.int .i64 6)))] (by kernel_rfl) (by decide) (by kernel_rfl) (by kernel_rfl) (fun _=>(by kernel_rfl)) (fun u=>rnJ6 nm w h1 h2 h3 h4 h5 h6 b0 u)
theorem rnJ4 (nm:ByteArray) (w:World) (h1:((AD 1).toList==nm.toList)=false) (h2:((AD 2).toList==nm.toList)=false) (h3:((AD 3).toList==nm.toList)=false) (h4:((AD 4).toList==nm.toList)=false) (b0:Nat) (u:Nat→Value):Hs Tryz.prog 37 (fun e w'=>e = .returned (.tuple #[.int .i64 (FE nm),.bool (FF nm)])∧Only [] w w') (Tryz.f37).ntmps w [] [b0] ⟨.no,AE Tryz.f37 0,BI [(0,.c (.v (.string nm))),(6,.c (.s 0 0 22 22)),(7,.c (.v (.int .i64 22))),(8,.c (.v (.int .i64 4)))] (.vals u),[.b true 149 AM]⟩:=by
 refine Hs.e0 ?_;refine Hs.cT ?_;refine Hs.e1 fun b2=>?_;refine Hs.cn ((AD 5).toList==nm.toList) (fun h=>?_) (fun h5=>?_)
 ·obtain rfl:AD 5=nm:=AR.1 h;refine Hs.e0 ?_;exact Hs.rt (v:=.tuple #[.int .i64 5,.bool true]) Tryz.func37 fun w' H=>⟨by kernel_rfl,H.only⟩
 refine Hs.e0 ?_;refine Hs.lP ?_;exact Hs.goto (AE Tryz.f37 0) [0] [.b true 149 AM] [(0,.c (.v (.string nm))),(6,.c (.s 0 0 22 22)),(7,.c (.v (.int .i64 22))),(8,.c (.v (.int .i64 5)))] (by kernel_rfl) (by decide) (by kernel_rfl) (by kernel_rfl) (fun _=>(by kernel_rfl)) (fun u=>rnJ5 nm w h1 h2 h3 h4 h5 b0 u)
theorem rnJ3 (nm:ByteArray) (w:World) (h1:((AD 1).toList==nm.toList)=false) (h2:((AD 2).toList==nm.toList)=false) (h3:((AD 3).toList==nm.toList)=false) (b0:Nat) (u:Nat→Value):Hs Tryz.prog 37 (fun e w'=>e = .returned (.tuple #[.int .i64 (FE nm),.bool (FF nm)])∧Only [] w w') (Tryz.f37).ntmps w [] [b0] ⟨.no,AE Tryz.f37 0,BI [(0,.c (.v (.string nm))),(6,.c (.s 0 0 22 22)),(7,.c (.v (.int .i64 22))),(8,.c (.v (.int .i64 3)))] (.vals u),[.b true 149 AM]⟩:=by
 refine Hs.e0 ?_;refine Hs.cT ?_;refine Hs.e1 fun b2=>?_;refine Hs.cn ((AD 4).toList==nm.toList) (fun h=>?_) (fun h4=>?_)
 ·obtain rfl:AD 4=nm:=AR.1 h;refine Hs.e0 ?_;exact Hs.rt (v:=.tuple #[.int .i64 4,.bool true]) Tryz.func37 fun w' H=>⟨by kernel_rfl,H.only⟩
 refine Hs.e0 ?_;refine Hs.lP ?_;exact Hs.goto (AE Tryz.f37 0) [0] [.b true 149 AM] [(0,.c (.v (.string nm))),(6,.c (.s 0 0 22 22)),(7,.c (.v (.int .i64 22))),(8,.c (.v (.int .i64 4)))] (by kernel_rfl) (by decide) (by kernel_rfl) (by kernel_rfl) (fun _=>(by kernel_rfl)) (fun u=>rnJ4 nm w h1 h2 h3 h4 b0 u)
theorem rnJ2 (nm:ByteArray) (w:World) (h1:((AD 1).toList==nm.toList)=false) (h2:((AD 2).toList==nm.toList)=false) (b0:Nat) (u:Nat→Value):Hs Tryz.prog 37 (fun e w'=>e = .returned (.tuple #[.int .i64 (FE nm),.bool (FF nm)])∧Only [] w w') (Tryz.f37).ntmps w [] [b0] ⟨.no,AE Tryz.f37 0,BI [(0,.c (.v (.string nm))),(6,.c (.s 0 0 22 22)),(7,.c (.v (.int .i64 22))),(8,.c (.v (.int .i64 2)))] (.vals u),[.b true 149 AM]⟩:=by
 refine Hs.e0 ?_;refine Hs.cT ?_;refine Hs.e1 fun b2=>?_;refine Hs.cn ((AD 3).toList==nm.toList) (fun h=>?_) (fun h3=>?_)
 ·obtain rfl:AD 3=nm:=AR.1 h;refine Hs.e0 ?_;exact Hs.rt (v:=.tuple #[.int .i64 3,.bool true]) Tryz.func37 fun w' H=>⟨by kernel_rfl,H.only⟩
 refine Hs.e0 ?_;refine Hs.lP ?_;exact Hs.goto (AE Tryz.f37 0) [0] [.b true 149 AM] [(0,.c (.v (.string nm))),(6,.c (.s 0 0 22 22)),(7,.c (.v (.int .i64 22))),(8,.c (.v (.int .i64 3)))] (by kernel_rfl) (by decide) (by kernel_rfl) (by kernel_rfl) (fun _=>(by kernel_rfl)) (fun u=>rnJ3 nm w h1 h2 h3 b0 u)
theorem rnJ1 (nm:ByteArray) (w:World) (h1:((AD 1).toList==nm.toList)=false) (b0:Nat) (u:Nat→Value):Hs Tryz.prog 37 (fun e w'=>e = .returned (.tuple #[.int .i64 (FE nm),.bool (FF nm)])∧Only [] w w') (Tryz.f37).ntmps w [] [b0] ⟨.no,AE Tryz.f37 0,BI [(0,.c (.v (.string nm))),(6,.c (.s 0 0 22 22)),(7,.c (.v (.int .i64 22))),(8,.c (.v (.int .i64 1)))] (.vals u),[.b true 149 AM]⟩:=by
 refine Hs.e0 ?_;refine Hs.cT ?_;refine Hs.e1 fun b2=>?_;refine Hs.cn ((AD 2).toList==nm.toList) (fun h=>?_) (fun h2=>?_)
 ·obtain rfl:AD 2=nm:=AR.1 h;refine Hs.e0 ?_;exact Hs.rt (v:=.tuple #[.int .i64 2,.bool true]) Tryz.func37 fun w' H=>⟨by kernel_rfl,H.only⟩
 refine Hs.e0 ?_;refine Hs.lP ?_;exact Hs.goto (AE Tryz.f37 0) [0] [.b true 149 AM] [(0,.c (.v (.string nm))),(6,.c (.s 0 0 22 22)),(7,.c (.v (.int .i64 22))),(8,.c (.v (.int .i64 2)))] (by kernel_rfl) (by decide) (by kernel_rfl) (by kernel_rfl) (fun _=>(by kernel_rfl)) (fun u=>rnJ2 nm w h1 h2 b0 u)
theorem rnJ0 (nm:ByteArray) (w:World) (b0:Nat) (u:Nat→Value):Hs Tryz.prog 37 (fun e w'=>e = .returned (.tuple #[.int .i64 (FE nm),.bool (FF nm)])∧Only [] w w') (Tryz.f37).ntmps w [] [b0] ⟨.no,AE Tryz.f37 0,BI [(0,.c (.v (.string nm))),(6,.c (.s 0 0 22 22)),(7,.c (.v (.int .i64 22))),(8,.c (.v (.int .i64 0)))] (.vals u),[.b true 149 AM]⟩:=by
 refine Hs.e0 ?_;refine Hs.cT ?_;refine Hs.e1 fun b2=>?_;refine Hs.cn ((AD 1).toList==nm.toList) (fun h=>?_) (fun h1=>?_)
 ·obtain rfl:AD 1=nm:=AR.1 h;refine Hs.e0 ?_;exact Hs.rt (v:=.tuple #[.int .i64 1,.bool true]) Tryz.func37 fun w' H=>⟨by kernel_rfl,H.only⟩
 refine Hs.e0 ?_;refine Hs.lP ?_;exact Hs.goto (AE Tryz.f37 0) [0] [.b true 149 AM] [(0,.c (.v (.string nm))),(6,.c (.s 0 0 22 22)),(7,.c (.v (.int .i64 22))),(8,.c (.v (.int .i64 1)))] (by kernel_rfl) (by decide) (by kernel_rfl) (by kernel_rfl) (fun _=>(by kernel_rfl)) (fun u=>rnJ1 nm w h1 b0 u)
theorem WB (nm:ByteArray) (w:World):Calls Tryz.prog 37 #[.string nm] w fun e w'=>e = .returned (.tuple #[.int .i64 (FE nm),.bool (FF nm)])∧Only [] w w':=by
 refine Hs.en Tryz.func37 [] [] [] [.c (.v (.string nm))] (Mem.start0 w) ?_;refine Hs.e0 ?_;refine Hs.inl Tryz.func65 [] (by kernel_rfl) (by kernel_rfl) ?_;refine Hs.e1 fun b1=>?_;refine Hs.retI Tryz.func65 (by kernel_rfl) (by kernel_rfl) (by kernel_rfl) ?_;refine Hs.e0 ?_;refine Hs.lP ?_;exact Hs.goto (AE Tryz.f37 0) [0] [.b true 149 AM] [(0,.c (.v (.string nm))),(6,.c (.s 0 0 22 22)),(7,.c (.v (.int .i64 22))),(8,.c (.v (.int .i64 0)))] (by kernel_rfl) (by decide) (by kernel_rfl) (by kernel_rfl) (fun _=>(by kernel_rfl)) (fun u=>rnJ0 nm w b1 u)
end Go.Proofs.YtdplnedpbkpgpaaGreatDoor
