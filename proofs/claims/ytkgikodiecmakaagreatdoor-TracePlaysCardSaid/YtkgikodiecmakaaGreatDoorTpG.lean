/- TracePlays: lemmas, from 'The machine: its blocks at the beginning and at the end, as ' on; what each asks for stands in it. -/
import Derived.Test.YtkgikodiecmakaaGreatDoorTpF
import Derived.Test.YtkgikodiecmakaaGreatDoorTpA
import Derived.WalkSpells
import Derived.Test.YtkgikodiecmakaaGreatDoorTpB
import Derived.IntWalk
import Derived.Test.YtkgikodiecmakaaGreatDoorTpD
import Derived.Test.YtkgikodiecmakaaGreatDoorShelf
import Derived.Lib.ConvBytes
import Derived.Lib.SliceRun
import Derived.Lib.EndianBits
import Derived.Laws.BitsAllLaws
import Derived.Laws.BytesArg
import Derived.Lib.SplitLaws
import Derived.Lib.ReplaceLaws
set_option linter.all false
set_option maxRecDepth 100000
set_option maxHeartbeats 64000000
namespace Go.Proofs.YtkgikodiecmakaaGreatDoor
open Go.RowKit Go.MapKept
def bks:List Nat→List HB→List Nat
 |b::β,h::hp=>(h.blk b).toList++bks β hp
 |_,_=>[]
def liesL (w:World) (β0:List Nat):List Nat→List HB→Prop
 |b::β,h::hp=>h.lies w β0 b∧liesL w β0 β hp
 |_,_=>True
section
variable {w w0 : World} {L β β0 : List Nat} {hp : List HB}
theorem RB: ∀{β:List Nat} {hp:List HB} {i b:Nat} {h:HB} {x:Nat},hp[i]? = some h→β[i]? = some b→h.blk b=some x→x∈bks β hp
 |[],hp,i,b,h,x,_,hb,_=>by simp at hb
 |c::β,[],i,b,h,x,hh,_,_=>by simp at hh
 |c::β,a::hp,0,b,h,x,hh,hb,hx=>by
  simp at hh hb;subst hh;subst hb;simp[bks,hx]
 |c::β,a::hp,i+1,b,h,x,hh,hb,hx=>by
  simp at hh hb;simp only[bks,List.mem_append];exact .inr (RB hh hb hx)
theorem bks_of: ∀{β:List Nat} {hp:List HB} {x:Nat},x∈bks β hp→∃(i b:Nat) (h:HB),hp[i]? = some h∧β[i]? = some b∧h.blk b=some x
 |[],hp,x,h=>by simp[bks] at h
 |c::β,[],x,h=>by simp[bks] at h
 |c::β,a::hp,x,h=>by
  simp only[bks,List.mem_append,Option.mem_toList] at h;rcases h with h|h;·exact⟨0,c,a,rfl,rfl,h⟩
  ·obtain⟨i,b,h',h1,h2,h3⟩:=bks_of h;exact⟨i+1,b,h',by simpa using h1,by simpa using h2,h3⟩
theorem PI: ∀{β:List Nat} {hp:List HB} {i:Nat} {h:HB} {b:Nat},liesL w β0 β hp→hp[i]? = some h→β[i]? = some b→h.lies w β0 b
 |[],hp,i,h,b,_,_,hb=>by simp at hb
 |c::β,[],i,h,b,_,hh,_=>by simp at hh
 |c::β,a::hp,0,h,b,hl,hh,hb=>by simp at hh hb;subst hh;subst hb;exact hl.1
 |c::β,a::hp,i+1,h,b,hl,hh,hb=>PI hl.2 (by simpa using hh) (by simpa using hb)
theorem XF: ∀{β:List Nat} {hp:List HB} {i j a b:Nat} {hi hj:HB} {x:Nat},(bks β hp).Nodup→hp[i]? = some hi→hp[j]? = some hj→β[i]? = some a→β[j]? = some b→hi.blk a=some x→hj.blk b=some x→i=j
 |[],hp,i,j,a,b,hi,hj,x,_,_,_,ha,_,_,_=>by simp at ha
 |c::β,[],i,j,a,b,hi,hj,x,_,hh,_,_,_,_,_=>by simp at hh
 |c::β,d::hp,0,0,a,b,hi,hj,x,_,_,_,_,_,_,_=>rfl
 |c::β,d::hp,0,j+1,a,b,hi,hj,x,nd,h1,h2,h3,h4,h5,h6=>by
  simp only[bks,List.nodup_append] at nd;simp at h1 h2 h3 h4;subst h1;subst h3;exact absurd rfl (nd.2.2 x (by simp[h5]) x (RB h2 h4 h6))
 |c::β,d::hp,i+1,0,a,b,hi,hj,x,nd,h1,h2,h3,h4,h5,h6=>by
  simp only[bks,List.nodup_append] at nd;simp at h1 h2 h3 h4;subst h2;subst h4;exact absurd rfl (nd.2.2 x (by simp[h6]) x (RB h1 h3 h5))
 |c::β,d::hp,i+1,j+1,a,b,hi,hj,x,nd,h1,h2,h3,h4,h5,h6=>by
  simp only[bks,List.nodup_append] at nd;simp at h1 h2 h3 h4;rw[XF nd.2.1 h1 h2 h3 h4 h5 h6]
theorem Mem.startN (len:β.length=hp.length) (nd:(bks β hp).Nodup) (lies:liesL w β β hp):Mem w (bks β hp) β hp w:=by
 have get: ∀k h,hp[k]? = some h→β[k]? = some (nm β k):=fun k h hk=>by
  have hl:=(List.getElem?_eq_some_iff.1 hk).1;rw[←len] at hl;rw[nm,List.getD,List.getElem?_eq_getElem hl];rfl
 exact Mem.start _ _ _ _ len (fun k h hk=>PI lies hk (get k h hk)) (fun k h x hk _ hx=>RB hk (get k h hk) hx) (fun i j hi hj x ei ej xi xj=>XF nd ei ej (get i hi ei) (get j hj ej) xi xj)
theorem Mem.startW (L:List Nat) (len:β.length=hp.length) (nd:(bks β hp).Nodup) (lies:liesL w β β hp) (own: ∀x∈wrN β hp,x∈L):Mem w L β hp w:=by
 have get: ∀k h,hp[k]? = some h→β[k]? = some (nm β k):=fun k h hk=>by
  have hl:=(List.getElem?_eq_some_iff.1 hk).1;rw[←len] at hl;rw[nm,List.getD,List.getElem?_eq_getElem hl];rfl
 exact Mem.start _ _ _ _ len (fun k h hk=>PI lies hk (get k h hk)) (fun k h x hk hw hx=>own x (KU.2 ⟨k,h,nm β k,hk,get k h hk,hw,hx⟩)) (fun i j hi hj x ei ej xi xj=>XF nd ei ej (get i hi ei) (get j hj ej) xi xj)
theorem WG: ∀{β:List Nat} {hp:List HB},(∀(i j a b:Nat) (hi hj:HB) (x:Nat),hp[i]? = some hi→hp[j]? = some hj→β[i]? = some a→β[j]? = some b→hi.blk a=some x→hj.blk b=some x→i=j)→(bks β hp).Nodup
 |[],hp,_=>by simp[bks]
 |c::β,[],_=>by simp[bks]
 |c::β,d::hp,h=>by
  simp only[bks,List.nodup_append];refine⟨?_,WG fun i j a b hi hj x h1 h2 h3 h4 h5 h6=>Nat.succ.inj (h (i+1) (j+1) a b hi hj x (by simpa using h1) (by simpa using h2) (by simpa using h3) (by simpa using h4) h5 h6),fun x hx y hy e=>?_⟩;·cases d.blk c<;>simp
  ·subst e;obtain⟨i,b,h',h1,h2,h3⟩:=bks_of hy;rw[Option.mem_toList] at hx;have:=h 0 (i+1) c b d h' x rfl (by simpa using h1) rfl (by simpa using h2) hx h3;cases this
theorem Mem.bks (H:Mem w0 L β hp w) (hro:roOk hp=true):(bks β hp).Nodup∧∀x∈bks β hp,(x∈L∨w0.heap.size≤x)∧x<w.heap.size:=by
 refine⟨WG fun i j a b hi hj x h1 h2 h3 h4 h5 h6=>H.inj i j hi hj x h1 h2 (by rw[PJ h3];exact h5) (by rw[PJ h4];exact h6),fun x hx=>?_⟩;obtain⟨i,b,h,h1,h2,h3⟩:=bks_of hx;have h4:h.blk (nm β i)=some x:=by rw[PJ h2];exact h3
 have hw:h.wr=true:=by
  have h5:=List.all_eq_true.1 hro h (List.mem_of_getElem? h1);cases h with
  |no=>cases h3
  |_=>exact h5
 exact⟨H.own i h x h1 hw h4,HB.lies_lt (H.lies i h h1) h4⟩
end
theorem Mem.rdOne (w:World) (g:Nat) {T:Nat} {cs:List SC} (hg:Blk w g T (DJ [g] cs)):Mem w [] [g] [.b false T cs] w:=
 Mem.start _ _ _ _ rfl (fun k h hk=>by
  cases k with
  |zero=>simp at hk;subst hk;exact hg
  |succ k=>simp at hk) (fun k h x hk hw _=>by
  cases k with
  |zero=>simp at hk;subst hk;cases hw
  |succ k=>simp at hk) (fun i j hi hj x ei ej _ _=>by
  cases i with
  |succ i=>simp at ei
  |zero=>
   cases j with
   |succ j=>simp at ej
   |zero=>rfl)
section
variable {P : Program} {f : FuncId} {R : Ending → World → Prop} {n : Nat} {w0 : World} {L : List Nat} {β : List Nat} {m : SM}
variable {κ : Type} [DecidableEq κ] {T kt et : TypeId} {z : Value} {ke : κ → Value}
def HB.mpr (ke:κ→Value) (r:Nat) (es:List (κ×Value)):HB:=.q false (some ⟨r,0,none⟩) (fun w=>BM ke w r es) BM.st
theorem Mem.mapR {w:World} {hp:List HB} (H:Mem w0 L β hp w) (k:Nat) {r:Nat} {es:List (κ×Value)} (hk:hp[k]? = some (HB.mpr ke r es)):BM ke w r es:=
 H.atQ k (wr:=false) (A:=some ⟨r,0,none⟩) (Q:=fun w=>BM ke w r es) (st:=BM.st) hk
theorem Hs.takeGet (i k:Nat) (ht:KeyT P T kt et z ke) {r:Nat} {es:List (κ×Value)} (key:κ) (ok:Bool) (v:Value) (hv:(if ok then .tuple #[(BO key es).getD z,.bool (BO key es).isSome] else(BO key es).getD z)=v) {rd:List Nat} (hs:WU i n β m=some (IY (Instr.lookup T (.map (some r)) (ke key) ok),rd)) (hk:m.hp[k]? = some (HB.mp ke r es)) (hr:rd.contains k=true)
  (h:Hs P f R n w0 L β (UG i (.c (.v v)) m)):Hs P f R n w0 L β m:=
 Hs.takeV i (.c (.v v)) hs rfl (fun w hI=>by
  have hl:=hI k (by simpa using hr) _ hk;rw[WR ht (r:=r) (es:=es) hl.1 key ok,hv];rfl) h
end
end Go.Proofs.YtkgikodiecmakaaGreatDoor
namespace Go.Proofs.YtkgikodiecmakaaGreatDoor
open Go.RowKit
def LE (c:UInt8):Bool:=decide (33≤c.toNat)&&decide (c.toNat≤126)&&decide (c.toNat≠44)
def BV (s:ByteArray):Bool:=decide (1≤s.size)&&decide (s.size≤64)&&s.data.toList.all LE
theorem KS (s:ByteArray) (k:Nat) (h:k<s.size):s.data.toList.take (k+1)=s.data.toList.take k++[s[k]]:=by
 rw[List.take_succ_eq_append_getElem (by simpa using h)];rfl
theorem bL (s:ByteArray):s.toList.isEmpty=decide (s.size=0):=by
 rw[ByteArray.toList_eq];have e:s.size=s.data.toList.length:=by simp
 rw[e];cases s.data.toList<;>simp
def IC (k:Int):Bool:=decide (1≤k)&&decide (k≤6)
theorem WB (k:Int) (w:World):Calls Tryz.prog 107 #[.int .i64 k] w fun e w'=>e = .returned (.bool (IC k))∧w=w':=by
 by_cases h1:1≤k
 ·go_enter Tryz.func107,Tryz.ntmps107
  go_wp2
  go_ret
  exact⟨GM (by unfold IC;simp[h1]<;>omega),rfl⟩
 ·go_enter Tryz.func107,Tryz.ntmps107
  go_wp2
  go_ret
  exact⟨GM (by unfold IC;simp[h1]<;>omega),rfl⟩
def LG (a b c:Int):Int:=if b<a then c else 0
theorem aP {a b c:Int} (h:b<a):LG a b c=c:=if_pos h
theorem SZ {a b c:Int} (h: ¬b<a):LG a b c=0:=if_neg h
theorem room_any (a b:Int) (w:World):Calls Tryz.prog 129 #[.int .i64 a,.int .i64 b] w fun e w'=>e = .returned (.int .i64 (LG a b 6))∧w=w':=by
 by_cases h1:b<a
 ·rw[aP h1];go_enter Tryz.func129,Tryz.ntmps129
  go_wp2
  go_ret
  exact⟨rfl,rfl⟩
 ·rw[SZ h1];go_enter Tryz.func129,Tryz.ntmps129
  go_wp2
  go_ret
  exact⟨rfl,rfl⟩
theorem named_any (s:ByteArray) (w:World) (hs:s.size≤maxLen):Calls Tryz.prog 133 #[.string s] w fun e w'=>e = .returned (.bool (BV s))∧w=w':=by
 unfold maxLen at hs;by_cases h0:s.size=0
 ·have e:BV s=false:=by unfold BV;simp[h0]
  rw[e];clear e;have hl2:s.toList.isEmpty=true:=by rw[bL];simp[h0]
  go_enter Tryz.func133,Tryz.ntmps133
  go_wp2
  go_ret
  exact⟨rfl,rfl⟩
 ·have hl2:s.toList.isEmpty=false:=by rw[bL];simp[h0]
  by_cases h64:64<s.size
  ·have e:BV s=false:=by unfold BV;simp;omega
   rw[e];clear e;go_enter Tryz.func133,Tryz.ntmps133
   go_wp2
   go_ret
   exact⟨rfl,rfl⟩
  ·obtain⟨N,hN⟩: ∃N,N=BV s:=⟨_,rfl⟩;have hN2:N=s.data.toList.all LE:=by rw[hN];unfold BV;simp;omega
   rw[←hN];replace hN2:=AB hN2;clear hN h0;go_enter Tryz.func133,Tryz.ntmps133
   go_wp2
   go_loop [14] (fun i=>∃k:Nat,k≤s.size∧i = .int .i64 k∧Hid ((s.data.toList.take k).all LE=true)) (fun i=>s.size-(intOf i).toNat)
   case atStart=>exact⟨0,by omega,rfl,AB rfl⟩
   case round=>
    obtain⟨k,hk,rfl,hall⟩:=hrel;by_cases hlt:k<s.size
    ·have hts:=AB (KS s k hlt);by_cases hc:LE s[k]=true
     ·have hcc:=AB hc;unfold LE at hc;simp only[Bool.and_eq_true,decide_eq_true_eq] at hc;obtain⟨⟨q1,q2⟩,q3⟩:=hc;have q4:((s[k].toNat:Int)==44)=false:=beq_eq_false_iff_ne.2 (by omega);replace q3:=AB q3;go_wp2
      go_round
      case rel=>exact⟨k+1,by omega,by go_num,AB (by rw[hts.out,List.all_append,hall.out];simp[hcc.out])⟩
      case measure=>simp[intOf];omega
     ·have hf:N=false:=by
       rw[hN2.out,Bool.eq_false_iff];intro h;have:=List.all_eq_true.1 h s[k] (by
        have:s[k]=s.data.toList[k]'(by simpa using hlt):=rfl;rw[this];exact List.getElem_mem _)
       exact hc this
      subst hf;have hq:s[k].toNat<33∨126<s[k].toNat∨s[k].toNat=44:=by
       unfold LE at hc;simp at hc;omega
      clear hN2 hc;by_cases q1:s[k].toNat<33
      ·clear hq;go_wp2
       go_ret
       exact⟨rfl,rfl⟩
      ·by_cases q2:126<s[k].toNat
       ·clear hq;go_wp2
        go_ret
        exact⟨rfl,rfl⟩
       ·have q3:((s[k].toNat:Int)==44)=true:=beq_iff_eq.2 (by omega);clear hq;go_wp2
        go_ret
        exact⟨rfl,rfl⟩
    ·have hf:N=true:=by
      have h:=hall.out;rw[List.take_of_length_le (by simp;omega)] at h;rw[hN2.out,h]
     subst hf;clear hN2;go_wp2
     go_ret
     exact⟨rfl,rfl⟩
end Go.Proofs.YtkgikodiecmakaaGreatDoor
namespace Go.Proofs.YtkgikodiecmakaaGreatDoor
open Go.RowKit
theorem aX (s:ByteArray) (w:World) (hs:s.size≤maxLen):Calls Tryz.prog 94 #[.string s] w fun e w'=>e = .returned (.bool (BV s))∧w=w':=by
 unfold maxLen at hs;by_cases h0:s.size<1
 ·have e:BV s=false:=by unfold BV;simp;omega
  rw[e];clear e;go_enter Tryz.func94,Tryz.ntmps94
  go_wp2
  go_ret
  exact⟨rfl,rfl⟩
 ·by_cases h64:64<s.size
  ·have e:BV s=false:=by unfold BV;simp;omega
   rw[e];clear e;go_enter Tryz.func94,Tryz.ntmps94
   go_wp2
   go_ret
   exact⟨rfl,rfl⟩
  ·obtain⟨N,hN⟩: ∃N,N=BV s:=⟨_,rfl⟩;have hN2:N=s.data.toList.all LE:=by rw[hN];unfold BV;simp;omega
   rw[←hN];replace hN2:=AB hN2;clear hN;go_enter Tryz.func94,Tryz.ntmps94
   go_wp2
   go_loop [3] (fun i=>∃k:Nat,k≤s.size∧i = .int .i64 k∧Hid ((s.data.toList.take k).all LE=true)) (fun i=>s.size-(intOf i).toNat)
   case atStart=>exact⟨0,by omega,rfl,AB rfl⟩
   case round=>
    obtain⟨k,hk,rfl,hall⟩:=hrel;by_cases hlt:k<s.size
    ·have hts:=AB (KS s k hlt);by_cases hc:LE s[k]=true
     ·have hcc:=AB hc;unfold LE at hc;simp only[Bool.and_eq_true,decide_eq_true_eq] at hc;obtain⟨⟨q1,q2⟩,q3⟩:=hc;have q4:((s[k].toNat:Int)==44)=false:=beq_eq_false_iff_ne.2 (by omega);replace q3:=AB q3;go_wp2
      go_round
      case rel=>exact⟨k+1,by omega,by go_num,AB (by rw[hts.out,List.all_append,hall.out];simp[hcc.out])⟩
      case measure=>simp[intOf];omega
     ·have hf:N=false:=by
       rw[hN2.out,Bool.eq_false_iff];intro h;have:=List.all_eq_true.1 h s[k] (by
        have:s[k]=s.data.toList[k]'(by simpa using hlt):=rfl;rw[this];exact List.getElem_mem _)
       exact hc this
      subst hf;have hq:s[k].toNat<33∨126<s[k].toNat∨s[k].toNat=44:=by
       unfold LE at hc;simp at hc;omega
      clear hN2 hc;by_cases q1:s[k].toNat<33
      ·clear hq;go_wp2
       go_ret
       exact⟨rfl,rfl⟩
      ·by_cases q2:126<s[k].toNat
       ·clear hq;go_wp2
        go_ret
        exact⟨rfl,rfl⟩
       ·have q3:((s[k].toNat:Int)==44)=true:=beq_iff_eq.2 (by omega);clear hq;go_wp2
        go_ret
        exact⟨rfl,rfl⟩
    ·have hf:N=true:=by
      have h:=hall.out;rw[List.take_of_length_le (by simp;omega)] at h;rw[hN2.out,h]
     subst hf;clear hN2;go_wp2
     go_ret
     exact⟨rfl,rfl⟩
/-! Rows of kinds. -/
def GR (ks:List Int) (i:Nat):Bool:=IC (ks.getD i 0) && !(decide (ks.getD i 0=6)&&decide (i+1<ks.length))
def JE (ks:List Int):Bool:=(List.range ks.length).all (GR ks)
theorem LS {ks:List Int}:JE ks=true↔∀i,i<ks.length→GR ks i=true:=by
 unfold JE;rw[List.all_eq_true];simp
theorem WP {ks:List Int} {i:Nat} (hi:i<ks.length) (h:GR ks i=false):JE ks=false:=by
 rw[Bool.eq_false_iff];intro hr;rw[LS.1 hr i hi] at h;cases h
def Good (ks:List Int) (k:Nat):Prop:=∀i,i<k→GR ks i=true
theorem row_any (A:Option Addr) (ks:List Int) (cap:Nat) (w:World) (h:RdI w A ks) (hl:ks.length≤maxLen):Calls Tryz.prog 92 #[.slice A ks.length cap] w fun e w'=>e = .returned (.bool (JE ks))∧w=w':=by
 unfold maxLen at hl;obtain⟨n,hn⟩: ∃n,n=ks.length:=⟨_,rfl⟩;obtain⟨R,hR⟩: ∃R,R=JE ks:=⟨_,rfl⟩;rw[←hR];rw[←hn] at hl⊢;have HR:=AB hR;have HN:=AB hn;clear hR hn;go_enter Tryz.func92,Tryz.ntmps92
 go_wp2
 go_loop [7] (fun i=>∃k:Nat,k≤n∧i = .int .i64 k∧Good ks k) (fun i=>n-(intOf i).toNat)
 case atStart=>exact⟨0,by omega,rfl,fun i hi=>by omega⟩
 case round=>
  obtain⟨k,hk,rfl,hg⟩:=hrel;by_cases hlt:k<n
  ·obtain⟨b,off,x,rfl,hb,hx,hc⟩:=h.at k (by rw[←HN.out];exact hlt);have hga:GR ks k=(IC x && !(decide (x=6)&&decide (k+1<n))):=by
    unfold GR;rw[List.getD_eq_getElem?_getD,hx,HN.out];rfl
   have hg':GR ks k=true→Good ks (k+1):=fun h i hi=>by
    by_cases e:i=k
    ·rw[e];exact h
    ·exact hg i (by omega)
   have hnot:GR ks k=false→R=false:=fun h=>by rw[HR.out];exact WP (by rw[←HN.out];exact hlt) h
   rw[hga] at hg' hnot;replace hg':=AB hg';replace hnot:=AB hnot;clear hga hx;replace hg:=AB hg;by_cases h1:IC x=true
   ·have K:Calls Tryz.prog 107 #[.int .i64 x] w fun e w'=>e = .returned (.bool true)∧w=w':=by rw[←h1];exact WB x w
    by_cases h6:x=6
    ·subst h6;by_cases hl2:k+1<n
     ·obtain rfl:R=false:=hnot.out (by simp[h1,hl2]);have hl3:(k:Int)<(n:Int)-1:=by omega
      clear hg' hnot h1;go_wp2_with fail
      go_call K as e w' ⟨rfl,rfl⟩
      clear K;go_wp2
      go_ret
      exact⟨rfl,rfl⟩
     ·have hl3: ¬(k:Int)<(n:Int)-1:=by omega
      have hG:Good ks (k+1):=hg'.out (by simp[h1];omega);replace hG:=AB hG;clear hg' hnot h1;go_wp2_with fail
      go_call K as e w' ⟨rfl,rfl⟩
      clear K;go_wp2
      go_round
      case rel=>exact⟨k+1,by omega,by go_num,hG.out⟩
      case measure=>simp[intOf];omega
    ·have h6':(x==6)=false:=beq_eq_false_iff_ne.2 h6;have hG:Good ks (k+1):=hg'.out (by simp[h1,h6]);replace hG:=AB hG;clear hg' hnot h1;go_wp2_with fail
     go_call K as e w' ⟨rfl,rfl⟩
     clear K;go_wp2
     go_round
     case rel=>exact⟨k+1,by omega,by go_num,hG.out⟩
     case measure=>simp[intOf];omega
   ·have h1:IC x=false:=by simpa using h1
    obtain rfl:R=false:=hnot.out (by simp[h1]);have K:Calls Tryz.prog 107 #[.int .i64 x] w fun e w'=>e = .returned (.bool false)∧w=w':=by rw[←h1];exact WB x w
    clear hg' hnot h1;go_wp2_with fail
    go_call K as e w' ⟨rfl,rfl⟩
    clear K;go_wp2
    go_ret
    exact⟨rfl,rfl⟩
  ·obtain rfl:k=n:=by omega
   obtain rfl:R=true:=by rw[HR.out];exact LS.2 (fun i hi=>hg i (by rw[HN.out];exact hi))
   replace hg:=AB hg;go_wp2
   go_ret
   exact⟨rfl,rfl⟩
end Go.Proofs.YtkgikodiecmakaaGreatDoor
namespace Go.Proofs.YtkgikodiecmakaaGreatDoor
open Go.RowKit
structure FD where
  kind : Int
  n : Int
  tA : Option Addr
  tc : Nat
  text : List Int
  lA : Option Addr
  lc : Nat
  list : List ByteArray
def FD.cells (f:FD):List Value:=[.int .i64 f.kind,.int .u32 f.n,.slice f.tA f.text.length f.tc,.slice f.lA f.list.length f.lc]
def FD.val (f:FD):Value:=.agg #[.int .i64 f.kind,.int .u32 f.n,.slice f.tA f.text.length f.tc,.slice f.lA f.list.length f.lc]
structure FD.ok (w : World) (f : FD) : Prop where
  text : RdG (.int .u8) w f.tA f.text
  list : RdS w f.lA f.list
  tle : f.text.length ≤ f.tc
  tmax : f.tc ≤ maxLen
  lle : f.list.length ≤ f.lc
  lmax : f.lc ≤ maxLen
  strs : ∀ s ∈ f.list, s.size ≤ maxLen
theorem FD.ok.only {w w':World} {f:FD} (h:f.ok w) (hb:Only [] w w'):f.ok w':={ h with text:=h.text.only hb,list:=h.list.only hb }
def CI (l:List ByteArray):Int:=if 64<l.length then 6 else if l.all BV then 0 else 4
theorem bad1_any (s:ByteArray) (w:World) (hs:s.size≤maxLen):Calls Tryz.prog 132 #[.string s] w fun e w'=>e = .returned (.bool (!BV s))∧w=w':=by
 have h:=named_any s w hs;obtain⟨N,hN⟩: ∃N,N=BV s:=⟨_,rfl⟩;rw[←hN] at h⊢;clear hN;go_enter Tryz.func132,Tryz.ntmps132
 go_wp2_with fail
 go_call h as e w' ⟨rfl,rfl⟩
 clear h;go_wp2
 go_ret
 exact⟨rfl,rfl⟩
def FirstBad (l:List ByteArray) (e:Ending):Prop:=(l.all BV=true∧e = .returned (.int .i64 (-1)))∨(l.all BV=false∧∃k:Nat,k<l.length∧e = .returned (.int .i64 k))
theorem XR (A:Option Addr) (l:List ByteArray) (cap:Nat) (w:World) (h:RdS w A l) (hl:l.length≤maxLen) (hs: ∀s∈l,s.size≤maxLen) :
  Calls Tryz.prog 137 #[.slice A l.length cap,.func (.func 132) #[] #[]] w fun e w'=>FirstBad l e∧w=w':=by
 unfold maxLen at hl;obtain⟨n,hn⟩: ∃n,n=l.length:=⟨_,rfl⟩;rw[←hn] at hl⊢;have HN:=AB hn;replace hs:=AB hs;clear hn;go_enter Tryz.func137,Tryz.ntmps137
 go_wp2
 go_loop [8] (fun i=>∃k:Nat,k≤n∧i = .int .i64 k∧Hid ((l.take k).all BV=true)) (fun i=>n-(intOf i).toNat)
 case atStart=>exact⟨0,by omega,rfl,AB rfl⟩
 case round=>
  obtain⟨k,hk,rfl,hg⟩:=hrel;by_cases hlt:k<n
  ·obtain⟨b,off,s,rfl,hb,hx,hc⟩:=h.at k (by rw[←HN.out];exact hlt);have hts:=AB (CX hx);have hmem:s∈l:=List.mem_of_getElem? hx;have K:=bad1_any s w (hs.out s hmem);have hfin:BV s=false→l.all BV=false:=fun hb=>by
    rw[Bool.eq_false_iff];intro h;rw[List.all_eq_true.1 h s hmem] at hb;cases hb
   replace hfin:=AB hfin;clear hx hmem;by_cases ho:BV s=true
   ·rw[ho] at K;have ho:=AB ho;clear hfin;go_wp2_with fail
    go_call K as e w' ⟨rfl,rfl⟩
    clear K;go_wp2
    go_round
    case rel=>exact⟨k+1,by omega,by go_num,AB (by rw[hts.out,List.all_append,hg.out];simp[ho.out])⟩
    case measure=>simp[intOf];omega
   ·have ho:BV s=false:=by simpa using ho
    rw[ho] at K;have hf:=AB (hfin.out ho);clear hfin ho;go_wp2_with fail
    go_call K as e w' ⟨rfl,rfl⟩
    clear K;go_wp2
    go_ret
    exact⟨.inr ⟨hf.out,k,by rw[←HN.out];exact hlt,rfl⟩,rfl⟩
  ·obtain rfl:k=n:=by omega
   have hf:l.all BV=true:=by have:=hg.out;rw[List.take_of_length_le (by rw[←HN.out];exact Nat.le_refl _)] at this;exact this
   replace hf:=AB hf;clear hg;go_wp2
   go_ret
   exact⟨.inl ⟨hf.out,rfl⟩,rfl⟩
theorem QR (A:Option Addr) (l:List ByteArray) (cap:Nat) (w:World) (h:RdS w A l) (hl:l.length≤maxLen) (hs: ∀s∈l,s.size≤maxLen) :
  Calls Tryz.prog 131 #[.slice A l.length cap,.func (.func 132) #[] #[]] w fun e w'=>e = .returned (.bool (!l.all BV))∧w=w':=by
 have K:=XR A l cap w h hl hs;obtain⟨B,hB⟩: ∃B,B=l.all BV:=⟨_,rfl⟩;have K2:Calls Tryz.prog 137 #[.slice A l.length cap,.func (.func 132) #[] #[]] w fun e w'=>∃i:Int,e = .returned (.int .i64 i)∧(0≤i↔B=false)∧w=w':=by
  refine K.mono fun e w' ⟨hf,hw⟩=>?_;rcases hf with⟨h1,h2⟩|⟨h1,k,_,h2⟩;·exact⟨-1,h2,by rw[hB,h1];simp,hw⟩
  ·exact⟨k,h2,by rw[hB,h1];simp,hw⟩
 rw[←hB];clear K hB;go_enter Tryz.func131,Tryz.ntmps131
 go_wp2_with fail
 go_call K2 as e w' ⟨i,rfl,hi,rfl⟩
 clear K2;cases B with
 |true=>
  have h0: ¬(0≤i):=fun h=>by have:=hi.1 h;cases this
  clear hi;go_wp2
  go_ret
  exact⟨GM (by simp;omega),rfl⟩
 |false=>
  have h0:0≤i:=hi.2 rfl;clear hi;go_wp2
  go_ret
  exact⟨rfl,rfl⟩
theorem SR (f:FD) (w:World) (h:f.ok w):Calls Tryz.prog 119 #[f.val] w fun e w'=>e = .returned (.int .i64 (CI f.list))∧Only [] w w':=by
 obtain⟨kind,n,tA,tc,text,lA,lc,list⟩:=f;have hmax:list.length≤9223372036854775807:=by have:=h.lle;have:=h.lmax;unfold maxLen at *;dsimp at *;omega
 unfold FD.val;dsimp only;by_cases h64:64<list.length
 ·have e:CI list=6:=by unfold CI;rw[if_pos h64]
  rw[e];clear e;obtain⟨N,hN⟩: ∃N,N=list.length:=⟨_,rfl⟩;rw[←hN] at h64 hmax⊢;clear hN h;go_enter Tryz.func119,Tryz.ntmps119
  go_wp2
  go_ret
  exact⟨rfl,(Only.refl _ _).alloc _⟩
 ·have K:=QR lA list lc (w.alloc (.cells #[.int .i64 kind,.int .u32 n,.slice tA text.length tc,.slice lA list.length lc] 86)) (h.list.only ((Only.refl _ _).alloc _)) (by unfold maxLen;omega) h.strs;have e:CI list=if list.all BV then 0 else 4:=by unfold CI;rw[if_neg h64]
  rw[e];clear e;cases hB:list.all BV with
  |true=>
   rw[hB] at K;replace hB:=AB hB;go_enter Tryz.func119,Tryz.ntmps119
   go_wp2_with fail
   go_call K as e w' ⟨rfl,rfl⟩
   clear K;go_wp2
   go_ret
   exact⟨rfl,(Only.refl _ _).alloc _⟩
  |false=>
   rw[hB] at K;replace hB:=AB hB;go_enter Tryz.func119,Tryz.ntmps119
   go_wp2_with fail
   go_call K as e w' ⟨rfl,rfl⟩
   clear K;go_wp2
   go_ret
   exact⟨rfl,(Only.refl _ _).alloc _⟩
section
variable (f : FD) (w : World)
theorem VA (h:f.ok w):Calls Tryz.prog 122 #[f.val] w fun e w'=>e = .returned (.int .i64 (LG f.text.length 33792 6))∧Only [] w w':=by
 obtain⟨kind,n,tA,tc,text,lA,lc,list⟩:=f;have hmax:text.length≤9223372036854775807:=by have:=h.tle;have:=h.tmax;unfold maxLen at *;dsimp at *;omega
 unfold FD.val;dsimp only;obtain⟨N,hN⟩: ∃N,N=text.length:=⟨_,rfl⟩;rw[←hN] at hmax⊢;clear hN h;go_enter Tryz.func122,Tryz.ntmps122
 go_wp2_with fail
 go_call (room_any N 33792 _) as e w' ⟨rfl,rfl⟩
 go_wp2
 go_ret
 exact⟨rfl,(Only.refl _ _).alloc _⟩
end
end Go.Proofs.YtkgikodiecmakaaGreatDoor
namespace Go.Proofs.YtkgikodiecmakaaGreatDoor
open Go.RowKit
theorem AV {L:List Nat} {w w':World} (h:Only L w w') {b o:Nat} {v:Value} (hb:b<w.heap.size) (hn:b∉L) (hc:w.cell? ⟨b,o,none⟩=some v):w'.cell? ⟨b,o,none⟩=some v:=(World.cell?_of_block (w:=w) (h.block b hb hn)).trans hc
def four (n:Int):List Int:=[n/16777216 % 256,n/65536 % 256,n/256 % 256,n % 256]
end Go.Proofs.YtkgikodiecmakaaGreatDoor
namespace Go.Proofs.YtkgikodiecmakaaGreatDoor
open Go.RowKit
def FD.far (f:FD) (g:Nat) (v:Value):Prop:=(∀a,f.tA=some a→0<f.text.length→a.block≠g∧v.ownBlock≠some a.block)∧(∀a,f.lA=some a→0<f.list.length→a.block≠g∧v.ownBlock≠some a.block)
end Go.Proofs.YtkgikodiecmakaaGreatDoor
namespace Go.Proofs.YtkgikodiecmakaaGreatDoor
open Go.RowKit
def VW (l:List ByteArray):List UInt8:=Lib.join (l.map (·.data.toList)) [44]
def u8i (l:List UInt8):List Int:=l.map fun c=>(c.toNat:Int)
theorem bytesW (w:World) (e:TypeId) (S:List UInt8) :
  Only [] w (Lib.bytesWorld w e ⟨S.toArray⟩)∧RdG (.int .u8) (Lib.bytesWorld w e ⟨S.toArray⟩) (some ⟨w.heap.size,0,none⟩) (u8i S)∧(Lib.bytesWorld w e ⟨S.toArray⟩).heap.size=w.heap.size+1:=by
 refine⟨⟨rfl,rfl,rfl,?_,fun k hk _=>Lib.bytesWorld_at_old _ _ _ k hk⟩,fun _=>⟨w.heap.size,0,rfl,?_,fun i x hx=>?_⟩,Lib.bytesWorld_size _ _ _⟩;·rw[Lib.bytesWorld_size];omega
 ·rw[Lib.bytesWorld_size];omega
 ·have hi:i<S.length:=by
   have:=(List.getElem?_eq_some_iff.mp hx).1;simpa[u8i] using this
  have hx':(S[i].toNat:Int)=x:=by simpa[u8i,hi] using hx
  have h:=Lib.bytesWorld_cell w e ⟨S.toArray⟩ i (by simpa[ByteArray.size] using hi);rw[Nat.zero_add,h];simp[List.getD,hi,hx']
theorem TQ (w:World) (S:List UInt8): ∃c w',(Go.Sem.run Tryz.prog (convert 9 34 (.string ⟨S.toArray⟩)) w) = .ok (.slice (some ⟨w.heap.size,0,none⟩) S.length c) w'∧S.length≤c∧(S.length≤maxLen→c≤maxLen)∧Only [] w w'∧RdG (.int .u8) w' (some ⟨w.heap.size,0,none⟩) (u8i S)∧w'.heap.size=w.heap.size+1:=by
 have h:=Lib.run_convert_string_bytes (P:=Tryz.prog) w 9 34 5 ⟨S.toArray⟩ (u:=.string) (by kernel_rfl) (by kernel_rfl) (by kernel_rfl);obtain⟨a,b,c⟩:=bytesW w 5 S;refine⟨_,_,h,?_,?_,a,b,c⟩
 ·have:=grownCap_ge w S.length 0 5;simpa[ByteArray.size] using this
 ·intro hm;have:=grownCap_le_maxLen w S.length 0 5 hm;simpa[ByteArray.size] using this
end Go.Proofs.YtkgikodiecmakaaGreatDoor
namespace Go.Proofs.YtkgikodiecmakaaGreatDoor
open Go.RowKit
theorem ST (w:World) (n c:Nat):(binOp .eql 34 (.slice none n c) (.slice none 0 0)).run Tryz.prog w = .ok (.bool true) w:=Lib.run_eql_slice_nil (P:=Tryz.prog) w 34 5 none n c 0 0 (by kernel_rfl)
theorem SU (w:World) (a:Addr) (n c:Nat):(binOp .eql 34 (.slice (some a) n c) (.slice none 0 0)).run Tryz.prog w = .ok (.bool false) w:=Lib.run_eql_slice_nil (P:=Tryz.prog) w 34 5 (some a) n c 0 0 (by kernel_rfl)
structure Bs (w : World) (B : Nat) (A : Option Addr) (l : List Int) (c : Nat) : Prop where
  rd : Rd w A l
  le : l.length ≤ c
  max : c ≤ maxLen
  new : ∀ a, A = some a → B ≤ a.block
  soft : ∀ a, A = some a → ∀ i, i < l.length → w.frozen? (a.add i) = false
theorem JP.soft {w:World} {base:Nat} {A:Option Addr} {n cap:Nat} {l:List Int} (h:JP w base (.slice A n cap) l): ∀a,A=some a→∀i,i<l.length→w.frozen? (a.add i)=false:=by
 intro a ha i hi;rcases h.2 with⟨e,hn⟩|⟨g,cap',cur,e,hg,hh,r⟩;·omega
 ·injection e with e1;rw[ha] at e1;injection e1 with e1;subst e1;rw[Addr.add_lit];exact frozen_of_row w g _ _ _ hh
theorem OW (w:World) (A:Option Addr) (l:List Int) (c:Nat) (h:Rd w A l) (hl:l.length≤140737488355000) :
  Calls Tryz.prog 130 #[.slice A l.length c] w fun e w'=>Only [] w w'∧∃A' c',e = .returned (.slice A' l.length c')∧Bs w' w.heap.size A' l c':=by
 cases A with
 |none=>
  have h0:l.length=0:=by
   rcases Nat.eq_zero_or_pos l.length with h0|h0;·exact h0
   ·obtain⟨b,off,e,_⟩:=h h0;cases e
  obtain rfl:l=[]:=List.eq_nil_of_length_eq_zero h0;go_enter Tryz.func130,Tryz.ntmps130
  have kn:=ST;go_wp2
  go_ret
  exact⟨Only.refl _ _,none,0,rfl,⟨fun h=>absurd h (by simp),by simp,by simp,(fun a ha=>by cases ha),(fun a ha=>by cases ha)⟩⟩
 |some ad=>
  obtain⟨k,hgl⟩: ∃k,l.length=k:=⟨_,rfl⟩;rw[hgl] at hl⊢;have V0:JP (w.alloc (.cells #[] 5)) w.heap.size (.slice (some ⟨w.heap.size,0,none⟩) 0 0) []:=by
   have:=TA w w.heap.size [] (Nat.le_refl _) (by decide);simpa[u8s] using this
  have P1:Only [] w (w.alloc (.cells #[] 5)):=(Only.refl _ _).alloc _;have okr:=h.only P1;replace hgl:=AB hgl;have kn:=SU;go_enter Tryz.func130,Tryz.ntmps130
  go_wp2_with (at_builtin;go_must (refine LM rfl (.tmp 5) (.tmp 6) rfl w.heap.size (.slice (some ⟨w.heap.size,0,none⟩) 0 0) [] rfl V0 (some ad) c l k hgl.out rfl okr (by rw[hgl.out];simp;omega) (by simp) ?_);intro v9 w9 V9 P9 _;obtain⟨A9,k9,rfl,G9,q9,m9,a9⟩:=V9.out.rd)
  go_ret
  rw[List.nil_append] at G9 q9;have SF:JP w9 w.heap.size (.slice A9 ([]++l).length k9) ([]++l):=V9.out;rw[List.nil_append] at SF;have P9':Only [w.heap.size] _ w9:=P9;refine⟨P1.trans P9' (by simp),A9,k9,?_,⟨G9,q9,m9,a9,SF.soft⟩⟩;simp[hgl.out]
end Go.Proofs.YtkgikodiecmakaaGreatDoor
namespace Go.Proofs.YtkgikodiecmakaaGreatDoor
open Go.RowKit
structure RdrV (w : World) (g : Nat) (A : Option Addr) (cap : Nat) (l : List Int) (e : Int) : Prop where
  blk : Blk w g 146 [.slice A l.length cap, .int .i64 e]
  rd : Rd w A l
  le : l.length ≤ cap
  max : cap ≤ maxLen
  far : ∀ a, A = some a → 0 < l.length → a.block < g
theorem RdrV.only {w w':World} {g:Nat} {A:Option Addr} {cap:Nat} {l:List Int} {e:Int} (h:RdrV w g A cap l e) (hb:Only [] w w'):RdrV w' g A cap l e:=
 { h with blk:=h.blk.only hb (by simp),rd:=h.rd.only hb }
theorem Rd.onlyG {w w':World} {g:Nat} {A:Option Addr} {l:List Int} (h:Rd w A l) (hb:Only [g] w w') (hf: ∀a,A=some a→a.block≠g):Rd w' A l:=
 RdG.onlyL (mk:=.int .u8) h hb (fun a ha _=>by simpa using hf a ha)
theorem Rd.onlyP {w w':World} {g:Nat} {A:Option Addr} {l:List Int} (h:Rd w A l) (hb:Only [g] w w') (hf: ∀a,A=some a→0<l.length→a.block≠g):Rd w' A l:=
 RdG.onlyL (mk:=.int .u8) h hb (fun a ha h0=>by simpa using hf a ha h0)
theorem rd_drop {w:World} {A:Option Addr} {l:List Int} (h:Rd w A l) (k:Nat):Rd w (Option.map (fun x=>x.add k) A) (l.drop k):=RdG.drop (mk:=.int .u8) h k
theorem Rd.take {w:World} {A:Option Addr} {l:List Int} (h:Rd w A l) (k:Nat):Rd w A (l.take k):=RdG.take (mk:=.int .u8) h k
theorem MT (w:World) (g:Nat) (A:Option Addr) (cap:Nat) (l:List Int) (n:Nat) (h:RdrV w g A cap l 0) (hn:l.length<n) (hn2:n≤4294967296) :
  Calls Tryz.prog 128 #[.pointer (some ⟨g,0,none⟩),.int .i64 n] w fun e w'=>e = .returned (.slice none 0 0)∧RdrV w' g A cap l 3∧Only [g] w w':=by
 have c0:=h.blk.cell 0;have c1:=h.blk.cell 1;have f1:=h.blk.frozen 1;have hl:=h.le;have hm:=h.max;have fin: ∀w',w'=w.setCell ⟨g,1,none⟩ (.int .i64 3)→RdrV w' g A cap l 3∧Only [g] w w':=by
  rintro w' rfl;have P:Only [g] w (w.setCell ⟨g,1,none⟩ (.int .i64 3)):=(Only.refl [g] w).setCell (p:=⟨g,1,none⟩) (.inl (by simp)) _;exact⟨⟨h.blk.set_ 1 _,h.rd.onlyP P (fun a ha h0=>Nat.ne_of_lt (h.far a ha h0)),h.le,h.max,h.far⟩,P⟩
 replace fin:=AB fin;obtain⟨k,hk⟩: ∃k,l.length=k:=⟨_,rfl⟩;rw[hk] at c0 hn hl;clear h hk;go_enter Tryz.func128,Tryz.ntmps128
 go_wp2
 go_ret
 obtain⟨r1,r2⟩:=fin.out _ rfl;exact⟨rfl,r1,r2⟩
theorem ZJ (w:World) (g:Nat) (A:Option Addr) (cap:Nat) (l:List Int) (n:Nat) (h:RdrV w g A cap l 0) (hn:n≤l.length) :
  Calls Tryz.prog 128 #[.pointer (some ⟨g,0,none⟩),.int .i64 n] w fun e w'=>e = .returned (.slice A n cap)∧Only [g] w w'∧Rd w' A (l.take n)∧∃A' cap',RdrV w' g A' cap' (l.drop n) 0:=by
 have c0:=h.blk.cell 0;have c1:=h.blk.cell 1;have f0:=h.blk.frozen 0;have hl:=h.le;have hm:=h.max;have fin: ∀w' A',(A'=A∧cap=n∨A'=Option.map (fun x=>x.add n) A)→w'=w.setCell ⟨g,0,none⟩ (.slice A' (l.length-n) (cap-n))→Only [g] w w'∧Rd w' A (l.take n)∧∃A' cap',RdrV w' g A' cap' (l.drop n) 0:=by
  rintro w' A' hA' rfl;have P:Only [g] w (w.setCell ⟨g,0,none⟩ (.slice A' (l.length-n) (cap-n))):=(Only.refl [g] w).setCell (p:=⟨g,0,none⟩) (.inl (by simp)) _;have hfar: ∀a,A'=some a→0<(l.drop n).length→a.block<g:=by
   intro a ha h0;have h0:0<l.length:=by rw[List.length_drop] at h0;omega
   rcases hA' with⟨rfl,_⟩|rfl;·exact h.far a ha h0
   ·cases A with
    |none=>cases ha
    |some b=>simp at ha;subst ha;rw[show(b.add n).block=b.block by unfold Addr.add;split<;>rfl];exact h.far b rfl h0
  refine⟨P,(h.rd.onlyP P (fun a ha h0=>Nat.ne_of_lt (h.far a ha h0))).take n,A',cap-n,⟨?_,?_,by simp;omega,by omega,hfar⟩⟩
  ·have:=h.blk.set_ 0 (.slice A' (l.length-n) (cap-n));simpa using this
  ·rcases hA' with⟨rfl,hq⟩|rfl
   ·have:l.drop n=[]:=List.eq_nil_of_length_eq_zero (by simp;omega);rw[this];exact fun h0=>absurd h0 (by simp)
   ·exact(rd_drop h.rd n).onlyP P (fun a ha h0=>Nat.ne_of_lt (hfar a ha h0))
 replace fin:=AB fin;obtain⟨k,hk⟩: ∃k,l.length=k:=⟨_,rfl⟩;rw[hk] at c0 hl fin hn;have hn': ¬k<n:=by omega
 clear h hk;by_cases hq:cap=n
 ·go_enter Tryz.func128,Tryz.ntmps128
  go_wp2
  go_ret
  exact⟨by rw[hq];rfl,fin.out _ A (.inl ⟨rfl,hq⟩) (by rw[hq,Nat.sub_self])⟩
 ·go_enter Tryz.func128,Tryz.ntmps128
  go_wp2
  go_ret
  exact⟨rfl,fin.out _ _ (.inr rfl) rfl⟩
end Go.Proofs.YtkgikodiecmakaaGreatDoor
namespace Go.Proofs.YtkgikodiecmakaaGreatDoor
open Go.RowKit
structure R where
  e : Int
  n : Int
  text : List Int
  list : List ByteArray
  rest : List Int
def EU (l:List Int):R:=⟨3,0,[],[],l⟩
def DZ (l:List Int):R:=if l.length<1 then EU l else⟨0,l.getD 0 0,[],[],l.drop 1⟩
def FD.new (f:FD) (B:Nat):Prop:=(∀a,f.tA=some a→B≤a.block)∧(∀a,f.lA=some a→B≤a.block)
theorem FD.ok.onlyL {w w':World} {f:FD} {q:Nat} (h:f.ok w) (hb:Only [q] w w') {B:Nat} (hn:f.new B) (hq:q<B):f.ok w':=
 { h with
  text:=h.text.onlyL hb (fun a ha _=>by have:=hn.1 a ha;simp;omega)
  list:=h.list.onlyL hb (fun a ha _=>by have:=hn.2 a ha;simp;omega) }
theorem FD.new.mono {f:FD} {B B':Nat} (h:f.new B) (hb:B'≤B):f.new B':=⟨fun a ha=>Nat.le_trans hb (h.1 a ha),fun a ha=>Nat.le_trans hb (h.2 a ha)⟩
theorem FD.ok.with {w:World} {f:FD} (h:f.ok w) (k n:Int):FD.ok w { f with kind:=k,n:=n }:=⟨h.text,h.list,h.tle,h.tmax,h.lle,h.lmax,h.strs⟩
def FD.soft (f:FD) (w:World):Prop:=∀a,f.tA=some a→∀i,i<f.text.length→w.frozen? (a.add i)=false
structure FD.mine (w : World) (f : FD) (B : Nat) : Prop where
  ok : f.ok w
  new : f.new B
  soft : f.soft w
theorem IJ (a:Addr) (n:Nat):(a.add n).block=a.block:=by unfold Addr.add;split<;>rfl
theorem FD.soft.onlyL {w w':World} {f:FD} {L:List Nat} (h:f.soft w) (ho:f.ok w) (hb:Only L w w') (hL: ∀a,f.tA=some a→a.block∉L):f.soft w':=by
 intro a ha i hi;obtain⟨b,off,e,hlt,_⟩:=ho.text (by omega);rw[ha] at e;injection e with e;refine(World.frozen?_of_block (w:=w) ?_).trans (h a ha i hi);rw[IJ];exact hb.block _ (by rw[e];exact hlt) (hL a ha)
theorem FD.mine.only {w w':World} {f:FD} {B:Nat} (h:FD.mine w f B) (hb:Only [] w w'):FD.mine w' f B:=⟨h.ok.only hb,h.new,h.soft.onlyL h.ok hb (fun _ _=>by simp)⟩
theorem FD.mine.onlyL {w w':World} {f:FD} {B q:Nat} (h:FD.mine w f B) (hb:Only [q] w w') (hq:q<B):FD.mine w' f B:=⟨h.ok.onlyL hb h.new hq,h.new,h.soft.onlyL h.ok hb (fun a ha=>by have:=h.new.1 a ha;simp;omega)⟩
theorem FD.mine.mono {w:World} {f:FD} {B B':Nat} (h:FD.mine w f B) (hb:B'≤B):FD.mine w f B':=⟨h.ok,h.new.mono hb,h.soft⟩
theorem FD.mine.with {w:World} {f:FD} {B:Nat} (h:FD.mine w f B) (k n:Int):FD.mine w { f with kind:=k,n:=n } B:=⟨h.ok.with k n,h.new,h.soft⟩
def IL (w:World) (g:Nat) (r:R):Ending→World→Prop:=fun E w'=>
 Only [g] w w'∧∃tA tc lA lc,E = .returned (FD.val ⟨0,r.n,tA,tc,r.text,lA,lc,r.list⟩)∧FD.mine w' ⟨0,r.n,tA,tc,r.text,lA,lc,r.list⟩ w.heap.size∧∃A' cap',RdrV w' g A' cap' r.rest r.e
theorem FD.ok.plain (w:World) (k n:Int):FD.ok w ⟨k,n,none,0,[],none,0,[]⟩:=⟨RdG.nil,RdG.nil,by simp,by simp,by simp,by simp,by simp⟩
theorem FD.new.plain (k n:Int) (B:Nat):FD.new ⟨k,n,none,0,[],none,0,[]⟩ B:=⟨fun a ha=>by simp at ha,fun a ha=>by simp at ha⟩
theorem FD.mine.plain (w:World) (k n:Int) (B:Nat):FD.mine w ⟨k,n,none,0,[],none,0,[]⟩ B:=⟨FD.ok.plain _ _ _,FD.new.plain _ _ _,fun a ha=>by simp at ha⟩
theorem EL {w w':World} {g:Nat} {e n:Int} {rest:List Int} {A:Option Addr} {cap:Nat} (h:Only [g] w w') (hr:RdrV w' g A cap rest e):IL w g ⟨e,n,[],[],rest⟩ (.returned (.agg #[.int .i64 0,.int .u32 n,.slice none 0 0,.slice none 0 0])) w':=
 ⟨h,none,0,none,0,rfl,FD.mine.plain _ _ _ _,A,cap,hr⟩
def W4 (w:World) (q:Nat) (a b c d:Value):World:=(((w.setCell ⟨q,0,none⟩ a).setCell ⟨q,1,none⟩ b).setCell ⟨q,2,none⟩ c).setCell ⟨q,3,none⟩ d
theorem W4.blk {w:World} {q:Nat} {x0 x1 x2 x3:Value} (K:Blk w q 86 [x0,x1,x2,x3]) (a b c d:Value):Blk (W4 w q a b c d) q 86 [a,b,c,d]:=(((K.set_ 0 a).set_ 1 b).set_ 2 c).set_ 3 d
theorem W4.only (w:World) (q:Nat) (a b c d:Value):Only [q] w (W4 w q a b c d):=
 ((((Only.refl [q] w).setCell (p:=⟨q,0,none⟩) (.inl (by simp)) a).setCell (p:=⟨q,1,none⟩) (.inl (by simp)) b).setCell (p:=⟨q,2,none⟩) (.inl (by simp)) c).setCell (p:=⟨q,3,none⟩) (.inl (by simp)) d
theorem RdrV.far4 {w w':World} {g q:Nat} {A:Option Addr} {cap:Nat} {l:List Int} {e:Int} (h:RdrV w g A cap l e) (hb:Only [q] w w') (hq:g<q):RdrV w' g A cap l e:=
 { h with blk:=h.blk.only hb (by simp;omega),rd:=h.rd.onlyP hb (fun a ha h0=>by have:=h.far a ha h0;omega) }
theorem CF {fn:Func} {p:Tmp} {R:Ending→World→Prop} {a:Act} {w:World} {g:Nat} {v0 v1 v2 v3:Value} (h:fn.results=#[.cell p 86]) (hp:a.tmps.getD p undef = .pointer (some ⟨g,0,none⟩)) (hd:a.defers=[])
  (hg:Blk w g 86 [v0,v1,v2,v3]) (hR:R (.returned (.agg #[v0,v1,v2,v3])) w):bodyPost Tryz.prog fn R .ret a w:=
 bodyPost_ret (results_cell_row h _ w g 86 _ (0,0) _ hp hg Tryz.underlying86 rfl (by kernel_rfl)) hd hR
theorem WH (w:World) (g:Nat) (A:Option Addr) (cap:Nat) (l:List Int) (h:RdrV w g A cap l 0) (hl: ∀x∈l,0≤x∧x<256) :
  Calls Tryz.prog 110 #[.pointer (some ⟨g,0,none⟩)] w (IL w g (DZ l)):=by
 obtain⟨w1,hw1⟩: ∃w1,w1=w.alloc (.cells #[.int .i64 0,.int .u32 0,.slice none 0 0,.slice none 0 0] 86):=⟨_,rfl⟩;have P1:Only [] w w1:=by rw[hw1];exact(Only.refl _ _).alloc _
 have K:Blk w1 w.heap.size 86 [.int .i64 0,.int .u32 0,.slice none 0 0,.slice none 0 0]:=by rw[hw1];exact Blk.new w _ _
 have h1:=h.only P1;have hgl:=h.blk.lt;by_cases hs:l.length<1
 ·have hr:DZ l=EU l:=if_pos hs;rw[hr];have T:=MT w1 g A cap l 1 h1 hs (by omega);clear hr hs;go_enter Tryz.func110,Tryz.ntmps110
  go_wp2_with fail
  rw[←hw1];replace hw1:=AB hw1;go_wp2_with fail
  go_call T as e w2 ⟨rfl,R2,P2⟩
  have K2:=K.only P2 (by simp;omega);have kn:=ST;have f0:=K2.frozen 0;have f1:=K2.frozen 1;have f2:=K2.frozen 2;have f3:=K2.frozen 3;have c0:w2.cell? ⟨w.heap.size,0,none⟩=some (.int .i64 0):=K2.cell 0;have c1:w2.cell? ⟨w.heap.size,1,none⟩=some (.int .u32 0):=K2.cell 1;have c2:w2.cell? ⟨w.heap.size,2,none⟩=some (.slice none 0 0):=K2.cell 2;have c3:w2.cell? ⟨w.heap.size,3,none⟩=some (.slice none 0 0):=K2.cell 3;go_wp2_with fail
  (try simp only[Exit.inBlock,Exit.then])
  refine CF (v0:=.int .i64 0) (v1:=.int .u32 0) (v2:=.slice none 0 0) (v3:=.slice none 0 0) rfl (by rfl) (by rfl) (W4.blk K2 _ _ _ _) (EL (((P1.mono (by simp)).trans P2 (by simp)).trans (W4.only w2 _ _ _ _ _) (by simp)) (R2.far4 (W4.only _ _ _ _ _ _) hgl))
 ·have hr:DZ l=⟨0,l.getD 0 0,[],[],l.drop 1⟩:=if_neg hs;rw[hr];have T:=ZJ w1 g A cap l 1 h1 (by omega);have hx0: ∃x,l[0]? = some x∧l.getD 0 0=x∧0≤x∧x<256:=by
   refine⟨l[0]'(by omega),List.getElem?_eq_getElem (by omega),?_,hl _ (List.getElem_mem _)⟩;simp[List.getD,List.getElem?_eq_getElem (show 0<l.length by omega)]
  obtain⟨x,hx,hxd,hxa,hxb⟩:=hx0;rw[hxd];have hxt:(l.take 1)[0]? = some x:=by rw[List.getElem?_take];simpa using hx
  obtain⟨b,off,rfl,_⟩:=h.rd (by omega);replace hxt:=AB hxt;replace hx:=AB hx;replace hxd:=AB hxd;clear hr hs;go_enter Tryz.func110,Tryz.ntmps110
  go_wp2_with fail
  rw[←hw1];replace hw1:=AB hw1;go_wp2_with fail
  go_call T as e w2 ⟨rfl,P2,D2,A2,cap2,R2⟩
  have K2:=K.only P2 (by simp;omega);have kn:=SU;have f0:=K2.frozen 0;have f1:=K2.frozen 1;have f2:=K2.frozen 2;have f3:=K2.frozen 3;have c0:w2.cell? ⟨w.heap.size,0,none⟩=some (.int .i64 0):=K2.cell 0;have c1:w2.cell? ⟨w.heap.size,1,none⟩=some (.int .u32 0):=K2.cell 1;have c2:w2.cell? ⟨w.heap.size,2,none⟩=some (.slice none 0 0):=K2.cell 2;have c3:w2.cell? ⟨w.heap.size,3,none⟩=some (.slice none 0 0):=K2.cell 3;have cx:w2.cell? ⟨b,off,none⟩=some (.int .u8 x):=by
   obtain⟨b',off',e,_,hc⟩:=D2 (by simp;have:=hx.out;cases l<;>simp at this⊢);injection e with e;injection e with e1 e2;subst e1;subst e2;exact hc 0 x hxt.out
  go_wp2_with fail
  (try simp only[Exit.inBlock,Exit.then])
  refine CF (v0:=.int .i64 0) (v1:=.int .u32 x) (v2:=.slice none 0 0) (v3:=.slice none 0 0) rfl (by rfl) (by rfl) (W4.blk K2 _ _ _ _) (EL (((P1.mono (by simp)).trans P2 (by simp)).trans (W4.only w2 _ _ _ _ _) (by simp)) (by simpa[W4] using R2.far4 (W4.only _ _ _ _ _ _) hgl))
def TF (l:List Int):R:=let r:=DZ l;⟨r.e,min r.n 1,r.text,r.list,r.rest⟩
theorem flag_any (w:World) (g:Nat) (A:Option Addr) (cap:Nat) (l:List Int) (h:RdrV w g A cap l 0) (hl: ∀x∈l,0≤x∧x<256) :
  Calls Tryz.prog 112 #[.pointer (some ⟨g,0,none⟩)] w (IL w g (TF l)):=by
 obtain⟨w1,hw1⟩: ∃w1,w1=w.alloc (.cells #[.int .i64 0,.int .u32 0,.slice none 0 0,.slice none 0 0] 86):=⟨_,rfl⟩;have P1:Only [] w w1:=by rw[hw1];exact(Only.refl _ _).alloc _
 have K:Blk w1 w.heap.size 86 [.int .i64 0,.int .u32 0,.slice none 0 0,.slice none 0 0]:=by rw[hw1];exact Blk.new w _ _
 have h1:=h.only P1;have hgl:=h.blk.lt;have T:=WH w1 g A cap l h1 hl;have hz:w.heap.size<w1.heap.size:=K.lt;go_enter Tryz.func112,Tryz.ntmps112
 go_wp2_with fail
 rw[←hw1];replace hw1:=AB hw1;go_wp2_with fail
 go_call T as e w2 ⟨P2,tA,tc,lA,lc,rfl,my2,A2,cap2,R2⟩
 unfold FD.val;have z2:=P2.size;have K2:=K.only P2 (by simp;omega);have f0:=K2.frozen 0;have f1:=K2.frozen 1;have f2:=K2.frozen 2;have f3:=K2.frozen 3;have c0:w2.cell? ⟨w.heap.size,0,none⟩=some (.int .i64 0):=K2.cell 0;have c1:w2.cell? ⟨w.heap.size,1,none⟩=some (.int .u32 0):=K2.cell 1;have c2:w2.cell? ⟨w.heap.size,2,none⟩=some (.slice none 0 0):=K2.cell 2;have c3:w2.cell? ⟨w.heap.size,3,none⟩=some (.slice none 0 0):=K2.cell 3;have hlt:w.heap.size<w2.heap.size:=by omega
 have hn1: ¬w.heap.size=w2.heap.size:=by omega
 have hn2: ¬w2.heap.size=w.heap.size:=by omega
 go_wp2_with fail
 (try simp only[Exit.inBlock,Exit.then])
 have O4:Only [g] w w2:=(P1.mono (by simp)).trans P2 (by simp);refine CF (v0:=.int .i64 0) (v1:=.int .u32 (min (DZ l).n 1)) (v2:=.slice tA (DZ l).text.length tc) (v3:=.slice lA (DZ l).list.length lc) rfl (by rfl) (by rfl) ((W4.blk K2 _ _ _ _).alloc _) ?_;have Q4:=W4.only w2 w.heap.size (.int .i64 0) (.int .u32 (min (DZ l).n 1)) (.slice tA (DZ l).text.length tc) (.slice lA (DZ l).list.length lc);exact⟨(O4.trans Q4 (by simp)).alloc _,tA,tc,lA,lc,rfl,(((my2.with 0 _).onlyL Q4 hz).only ((Only.refl _ _).alloc _)).mono (by omega),A2,cap2,(R2.far4 Q4 hgl).only ((Only.refl _ _).alloc _)⟩
end Go.Proofs.YtkgikodiecmakaaGreatDoor
namespace Go.Proofs.YtkgikodiecmakaaGreatDoor
open Go.RowKit
def be4 (l:List Int):Int:=l.getD 0 0*16777216+l.getD 1 0*65536+l.getD 2 0*256+l.getD 3 0
def DN (l:List Int):R:=if l.length<4 then EU l else⟨0,be4 l,[],[],l.drop 4⟩
theorem YB (a b:Int) (h1:0≤a) (h2:a<4294967296) (h3:0≤b) (h4:b<4294967296):bits .or .u32 a b=bits .or .u32 b a:=by
 rw[u32_or a b h1 h2 h3 h4,u32_or b a h3 h4 h1 h2,Nat.or_comm]
theorem SX (w:World) (g:Nat) (A:Option Addr) (cap:Nat) (l:List Int) (h:RdrV w g A cap l 0) (hl: ∀x∈l,0≤x∧x<256) :
  Calls Tryz.prog 115 #[.pointer (some ⟨g,0,none⟩)] w (IL w g (DN l)):=by
 obtain⟨w1,hw1⟩: ∃w1,w1=w.alloc (.cells #[.int .i64 0,.int .u32 0,.slice none 0 0,.slice none 0 0] 86):=⟨_,rfl⟩;have P1:Only [] w w1:=by rw[hw1];exact(Only.refl _ _).alloc _
 have K:Blk w1 w.heap.size 86 [.int .i64 0,.int .u32 0,.slice none 0 0,.slice none 0 0]:=by rw[hw1];exact Blk.new w _ _
 have h1:=h.only P1;have hgl:=h.blk.lt;by_cases hs:l.length<4
 ·have hr:DN l=EU l:=if_pos hs;rw[hr];have T:=MT w1 g A cap l 4 h1 hs (by omega);clear hr hs;go_enter Tryz.func115,Tryz.ntmps115
  go_wp2_with fail
  rw[←hw1];replace hw1:=AB hw1;go_wp2_with fail
  go_call T as e w2 ⟨rfl,R2,P2⟩
  have K2:=K.only P2 (by simp;omega);have kn:=ST;have f0:=K2.frozen 0;have f1:=K2.frozen 1;have f2:=K2.frozen 2;have f3:=K2.frozen 3;have c0:w2.cell? ⟨w.heap.size,0,none⟩=some (.int .i64 0):=K2.cell 0;have c1:w2.cell? ⟨w.heap.size,1,none⟩=some (.int .u32 0):=K2.cell 1;have c2:w2.cell? ⟨w.heap.size,2,none⟩=some (.slice none 0 0):=K2.cell 2;have c3:w2.cell? ⟨w.heap.size,3,none⟩=some (.slice none 0 0):=K2.cell 3;go_wp2_with fail
  (try simp only[Exit.inBlock,Exit.then])
  refine CF (v0:=.int .i64 0) (v1:=.int .u32 0) (v2:=.slice none 0 0) (v3:=.slice none 0 0) rfl (by rfl) (by rfl) (W4.blk K2 _ _ _ _) (EL (((P1.mono (by simp)).trans P2 (by simp)).trans (W4.only w2 _ _ _ _ _) (by simp)) (R2.far4 (W4.only _ _ _ _ _ _) hgl))
 ·have hr:DN l=⟨0,be4 l,[],[],l.drop 4⟩:=if_neg hs;rw[hr];have T:=ZJ w1 g A cap l 4 h1 (by omega);have hx: ∀k,k<4→∃x,l[k]? = some x∧l.getD k 0=x∧0≤x∧x<256:=by
   intro k hk;refine⟨l[k]'(by omega),List.getElem?_eq_getElem (by omega),?_,hl _ (List.getElem_mem _)⟩;simp[List.getD,List.getElem?_eq_getElem (show k<l.length by omega)]
  obtain⟨x0,hx0,hd0,a0,b0⟩:=hx 0 (by omega);obtain⟨x1,hx1,hd1,a1,b1⟩:=hx 1 (by omega);obtain⟨x2,hx2,hd2,a2,b2⟩:=hx 2 (by omega);obtain⟨x3,hx3,hd3,a3,b3⟩:=hx 3 (by omega);obtain⟨y0,hy0⟩: ∃y,y=x0*16777216:=⟨_,rfl⟩;obtain⟨y1,hy1⟩: ∃y,y=x1*65536:=⟨_,rfl⟩;obtain⟨y2,hy2⟩: ∃y,y=x2*256:=⟨_,rfl⟩;obtain⟨z1,hz1⟩: ∃y,y=y0+y1:=⟨_,rfl⟩;obtain⟨z2,hz2⟩: ∃y,y=z1+y2:=⟨_,rfl⟩;obtain⟨N,hN⟩: ∃y,y=z2+x3:=⟨_,rfl⟩;have s0:IntKind.u32.wrap (x0*16777216)=y0:=by rw[hy0];exact u32_wrap_id _ (by omega) (by omega)
  have s1:IntKind.u32.wrap (x1*65536)=y1:=by rw[hy1];exact u32_wrap_id _ (by omega) (by omega)
  have s2:IntKind.u32.wrap (x2*256)=y2:=by rw[hy2];exact u32_wrap_id _ (by omega) (by omega)
  have e0:IntKind.u32.wrap x0=x0:=u32_wrap_id _ a0 (by omega);have e1:IntKind.u32.wrap x1=x1:=u32_wrap_id _ a1 (by omega);have e2:IntKind.u32.wrap x2=x2:=u32_wrap_id _ a2 (by omega);have e3:IntKind.u32.wrap x3=x3:=u32_wrap_id _ a3 (by omega);have o1:bits .or .u32 y0 y1=z1:=by rw[YB y0 y1 (by omega) (by omega) (by omega) (by omega),u32_or24 _ _ (by omega) (by omega) (by omega) (by omega) (by omega)];omega
  have o2:bits .or .u32 z1 y2=z2:=by rw[YB z1 y2 (by omega) (by omega) (by omega) (by omega),u32_or16 _ _ (by omega) (by omega) (by omega) (by omega) (by omega)];omega
  have o3:bits .or .u32 z2 x3=N:=by rw[YB z2 x3 (by omega) (by omega) (by omega) (by omega),u32_or8 _ _ (by omega) (by omega) (by omega) (by omega) (by omega)];omega
  have hbe:be4 l=N:=by unfold be4;rw[hd0,hd1,hd2,hd3];omega
  rw[hbe];have hh: ∀w2,Rd w2 A (l.take 4)→∀b off,A=some ⟨b,off,none⟩→w2.cell? ⟨b,off,none⟩=some (.int .u8 x0)∧w2.cell? ⟨b,off+1,none⟩=some (.int .u8 x1)∧w2.cell? ⟨b,off+2,none⟩=some (.int .u8 x2)∧w2.cell? ⟨b,off+3,none⟩=some (.int .u8 x3):=by
   intro w2 D b off hA;obtain⟨b',off',e,_,hc⟩:=D (by simp;omega);rw[hA] at e;injection e with e;injection e with e1 e2;subst e1;subst e2;refine⟨hc 0 x0 ?_,hc 1 x1 ?_,hc 2 x2 ?_,hc 3 x3 ?_⟩<;>rw[List.getElem?_take]<;>simpa
  replace hh:=AB hh;clear hy0 hy1 hy2 hz1 hz2 hN hbe hd0 hd1 hd2 hd3 hx hx0 hx1 hx2 hx3 hr;obtain⟨b,off,rfl,_⟩:=h.rd (by omega);clear hs;go_enter Tryz.func115,Tryz.ntmps115
  go_wp2_with fail
  rw[←hw1];replace hw1:=AB hw1;go_wp2_with fail
  go_call T as e w2 ⟨rfl,P2,D2,A2,cap2,R2⟩
  have K2:=K.only P2 (by simp;omega);have kn:=SU;have hI:(fun w':World=>w'.cell? ⟨b,off,none⟩=some (.int .u8 x0)∧w'.cell? ⟨b,off+1,none⟩=some (.int .u8 x1)∧w'.cell? ⟨b,off+2,none⟩=some (.int .u8 x2)∧w'.cell? ⟨b,off+3,none⟩=some (.int .u8 x3)) { w2 with drawn:=w2.drawn+1 }:=hh.out w2 D2 b off rfl;go_wp2_with fail
  refine BJ (fun w':World=>w'.cell? ⟨b,off,none⟩=some (.int .u8 x0)∧w'.cell? ⟨b,off+1,none⟩=some (.int .u8 x1)∧w'.cell? ⟨b,off+2,none⟩=some (.int .u8 x2)∧w'.cell? ⟨b,off+3,none⟩=some (.int .u8 x3)) [23] (by kernel_rfl) ?_;refine wpAnyE_tk 0 (v:=(.slice (some ⟨b,off,none⟩) 4 cap)) rfl hI (fun w' hw'=>by obtain⟨i0,i1,i2,i3⟩:=hw';go_simp) ?_;refine wpAnyE_tk 1 (v:=(.pointer (some ⟨b,off,none⟩))) rfl hI (fun w' hw'=>by obtain⟨i0,i1,i2,i3⟩:=hw';go_simp) ?_;refine wpAnyE_tk 2 (v:=(.int .u8 x0)) rfl hI (fun w' hw'=>by obtain⟨i0,i1,i2,i3⟩:=hw';go_simp) ?_;refine wpAnyE_tk 3 (v:=(.int .u32 x0)) rfl hI (fun w' hw'=>by obtain⟨i0,i1,i2,i3⟩:=hw';go_simp) ?_;refine wpAnyE_tk 4 (v:=(.int .u32 y0)) rfl hI (fun w' hw'=>by obtain⟨i0,i1,i2,i3⟩:=hw';go_simp) ?_;refine wpAnyE_tk 5 (v:=(.slice (some ⟨b,off,none⟩) 4 cap)) rfl hI (fun w' hw'=>by obtain⟨i0,i1,i2,i3⟩:=hw';go_simp) ?_;refine wpAnyE_tk 6 (v:=(.pointer (some ⟨b,off+1,none⟩))) rfl hI (fun w' hw'=>by obtain⟨i0,i1,i2,i3⟩:=hw';go_simp) ?_;refine wpAnyE_tk 7 (v:=(.int .u8 x1)) rfl hI (fun w' hw'=>by obtain⟨i0,i1,i2,i3⟩:=hw';go_simp) ?_;refine wpAnyE_tk 8 (v:=(.int .u32 x1)) rfl hI (fun w' hw'=>by obtain⟨i0,i1,i2,i3⟩:=hw';go_simp) ?_;refine wpAnyE_tk 9 (v:=(.int .u32 y1)) rfl hI (fun w' hw'=>by obtain⟨i0,i1,i2,i3⟩:=hw';go_simp) ?_;refine wpAnyE_tk 10 (v:=(.int .u32 z1)) rfl hI (fun w' hw'=>by obtain⟨i0,i1,i2,i3⟩:=hw';go_simp) ?_;refine wpAnyE_tk 11 (v:=(.slice (some ⟨b,off,none⟩) 4 cap)) rfl hI (fun w' hw'=>by obtain⟨i0,i1,i2,i3⟩:=hw';go_simp) ?_;refine wpAnyE_tk 12 (v:=(.pointer (some ⟨b,off+2,none⟩))) rfl hI (fun w' hw'=>by obtain⟨i0,i1,i2,i3⟩:=hw';go_simp) ?_;refine wpAnyE_tk 13 (v:=(.int .u8 x2)) rfl hI (fun w' hw'=>by obtain⟨i0,i1,i2,i3⟩:=hw';go_simp) ?_;refine wpAnyE_tk 14 (v:=(.int .u32 x2)) rfl hI (fun w' hw'=>by obtain⟨i0,i1,i2,i3⟩:=hw';go_simp) ?_;refine wpAnyE_tk 15 (v:=(.int .u32 y2)) rfl hI (fun w' hw'=>by obtain⟨i0,i1,i2,i3⟩:=hw';go_simp) ?_;refine wpAnyE_tk 16 (v:=(.int .u32 z2)) rfl hI (fun w' hw'=>by obtain⟨i0,i1,i2,i3⟩:=hw';go_simp) ?_;refine wpAnyE_tk 17 (v:=(.slice (some ⟨b,off,none⟩) 4 cap)) rfl hI (fun w' hw'=>by obtain⟨i0,i1,i2,i3⟩:=hw';go_simp) ?_;refine wpAnyE_tk 18 (v:=(.pointer (some ⟨b,off+3,none⟩))) rfl hI (fun w' hw'=>by obtain⟨i0,i1,i2,i3⟩:=hw';go_simp) ?_;refine wpAnyE_tk 19 (v:=(.int .u8 x3)) rfl hI (fun w' hw'=>by obtain⟨i0,i1,i2,i3⟩:=hw';go_simp) ?_;refine wpAnyE_tk 20 (v:=(.int .u32 x3)) rfl hI (fun w' hw'=>by obtain⟨i0,i1,i2,i3⟩:=hw';go_simp) ?_;refine wpAnyE_tk 21 (v:=(.int .u32 N)) rfl hI (fun w' hw'=>by obtain⟨i0,i1,i2,i3⟩:=hw';go_simp) ?_;refine wpAnyE_tk 22 (v:=(.agg #[.int .i64 0,.int .u32 N,.slice none 0 0,.slice none 0 0])) rfl hI (fun w' hw'=>by obtain⟨i0,i1,i2,i3⟩:=hw';go_simp) ?_;refine bZ 23 [] [23] rfl (by kernel_rfl) (by decide) hI ?_;simp only[List.drop_succ_cons,List.drop_zero];refine ZN ?_;have f0:=K2.frozen 0;have f1:=K2.frozen 1;have f2:=K2.frozen 2;have f3:=K2.frozen 3;have c0:w2.cell? ⟨w.heap.size,0,none⟩=some (.int .i64 0):=K2.cell 0;have c1:w2.cell? ⟨w.heap.size,1,none⟩=some (.int .u32 0):=K2.cell 1;have c2:w2.cell? ⟨w.heap.size,2,none⟩=some (.slice none 0 0):=K2.cell 2;have c3:w2.cell? ⟨w.heap.size,3,none⟩=some (.slice none 0 0):=K2.cell 3;go_wp2
  (try simp only[Exit.inBlock,Exit.then])
  refine CF (v0:=.int .i64 0) (v1:=.int .u32 N) (v2:=.slice none 0 0) (v3:=.slice none 0 0) rfl (by rfl) (by rfl) (W4.blk K2 _ _ _ _).drew (EL (((P1.mono (by simp)).trans P2 (by simp)).trans (W4.only w2 _ _ _ _ _) (by simp)).drew ((R2.far4 (W4.only _ _ _ _ _ _) hgl).only (Only.refl _ _).drew))
end Go.Proofs.YtkgikodiecmakaaGreatDoor
namespace Go.Proofs.YtkgikodiecmakaaGreatDoor
open Go.RowKit
def GL (l:List Int) (n:Nat):R:=if 32768<n then⟨6,0,[],[],l⟩ else if l.length<n then⟨3,0,[],[],l⟩ else⟨0,0,l.take n,[],l.drop n⟩
def CE (l:List Int):R:=if l.length<4 then EU l else GL (l.drop 4) (be4 l).toNat
theorem ME (l:List Int) (hl: ∀x∈l,0≤x∧x<256):0≤be4 l∧be4 l<4294967296:=by
 have h: ∀k,0≤l.getD k 0∧l.getD k 0<256:=by
  intro k;by_cases hk:k<l.length
  ·have:=hl _ (List.getElem_mem hk);simpa[List.getD,List.getElem?_eq_getElem hk] using this
  ·simp[List.getD,List.getElem?_eq_none (Nat.le_of_not_lt hk)]
 have h0:=h 0;have h1:=h 1;have h2:=h 2;have h3:=h 3;unfold be4;omega
theorem RdrV.fault {w:World} {g:Nat} {A:Option Addr} {cap:Nat} {l:List Int} {e:Int} (h:RdrV w g A cap l e) (e':Int):RdrV (w.setCell ⟨g,1,none⟩ (.int .i64 e')) g A cap l e'∧Only [g] w (w.setCell ⟨g,1,none⟩ (.int .i64 e')):=by
 have P:Only [g] w (w.setCell ⟨g,1,none⟩ (.int .i64 e')):=(Only.refl [g] w).setCell (p:=⟨g,1,none⟩) (.inl (by simp)) _;exact⟨⟨h.blk.set_ 1 _,h.rd.onlyP P (fun a ha h0=>Nat.ne_of_lt (h.far a ha h0)),h.le,h.max,h.far⟩,P⟩
theorem MQ {w w':World} {g B:Nat} {e:Int} {text rest:List Int} {A A':Option Addr} {cap c:Nat} (h:Only [g] w w') (hr:RdrV w' g A cap rest e) (hb:Bs w' B A' text c) (hB:w.heap.size≤B):IL w g ⟨e,0,text,[],rest⟩ (.returned (.agg #[.int .i64 0,.int .u32 0,.slice A' text.length c,.slice none 0 0])) w':=
 ⟨h,A',c,none,0,rfl,⟨⟨hb.rd,RdG.nil,hb.le,hb.max,by simp,by simp,by simp⟩,⟨fun a ha=>Nat.le_trans hB (hb.new a ha),fun a ha=>by simp at ha⟩,hb.soft⟩,A,cap,hr⟩
theorem Bs.onlyG {w w':World} {B q:Nat} {A:Option Addr} {l:List Int} {c:Nat} (h:Bs w B A l c) (hb:Only [q] w w') (hq:q<B):Bs w' B A l c:=
 { h with
  rd:=h.rd.onlyG hb (fun a ha=>by have:=h.new a ha;omega)
  soft:=fun a ha i hi=>by
   obtain⟨b,off,e,hlt,_⟩:=h.rd (by omega);have hn:=h.new a ha;rw[ha] at e;injection e with e;refine(World.frozen?_of_block (w:=w) ?_).trans (h.soft a ha i hi);rw[IJ];exact hb.block _ (by rw[e];exact hlt) (by simp;omega) }
theorem Bs.only {w w':World} {B:Nat} {A:Option Addr} {l:List Int} {c:Nat} (h:Bs w B A l c) (hb:Only [] w w'):Bs w' B A l c:=
 { h with
  rd:=h.rd.only hb
  soft:=fun a ha i hi=>by
   obtain⟨b,off,e,hlt,_⟩:=h.rd (by omega);rw[ha] at e;injection e with e;refine(World.frozen?_of_block (w:=w) ?_).trans (h.soft a ha i hi);rw[IJ];exact hb.block _ (by rw[e];exact hlt) (by simp) }
theorem RC (w:World) (k n:Int) (a b:Value):(Instr.field 86 (.agg #[.int .i64 k,.int .u32 n,a,b]) 1).run Tryz.prog w = .ok (.int .u32 n) w:=by kernel_rfl
theorem bS (w:World) (g:Nat) (A:Option Addr) (cap:Nat) (l:List Int) (h:RdrV w g A cap l 0) (hl: ∀x∈l,0≤x∧x<256) :
  Calls Tryz.prog 118 #[.pointer (some ⟨g,0,none⟩)] w (IL w g (CE l)):=by
 obtain⟨w1,hw1⟩: ∃w1,w1=w.alloc (.cells #[.int .i64 0,.int .u32 0,.slice none 0 0,.slice none 0 0] 86):=⟨_,rfl⟩;have P1:Only [] w w1:=by rw[hw1];exact(Only.refl _ _).alloc _
 have K:Blk w1 w.heap.size 86 [.int .i64 0,.int .u32 0,.slice none 0 0,.slice none 0 0]:=by rw[hw1];exact Blk.new w _ _
 have h1:=h.only P1;have hgl:=h.blk.lt;have hq1:=K.lt;have T:=SX w1 g A cap l h1 hl;by_cases hs:l.length<4
 ·rw[show DN l=EU l from if_pos hs] at T;rw[show CE l=EU l from if_pos hs];clear hs h h1;unfold EU at T⊢;unfold IL FD.val at T;dsimp only[List.length_nil] at T;go_enter Tryz.func118,Tryz.ntmps118
  go_wp2_with fail
  rw[←hw1];replace hw1:=AB hw1;go_wp2_with fail
  go_call T as e w2 ⟨P2,tA,tc,lA,lc,rfl,my2,A2,cap2,R2⟩
  clear my2;have K2:=K.only P2 (by simp;omega);have hfd:=RC;have O2:Only [g] w w2:=(P1.mono (by simp)).trans P2 (by simp);have g1:w2.cell? ⟨g,1,none⟩=some (.int .i64 3):=R2.blk.cell 1;have f0:=K2.frozen 0;have f1:=K2.frozen 1;have f2:=K2.frozen 2;have f3:=K2.frozen 3;have c0:w2.cell? ⟨w.heap.size,0,none⟩=some (.int .i64 0):=K2.cell 0;have c1:w2.cell? ⟨w.heap.size,1,none⟩=some (.int .u32 0):=K2.cell 1;have c2:w2.cell? ⟨w.heap.size,2,none⟩=some (.slice none 0 0):=K2.cell 2;have c3:w2.cell? ⟨w.heap.size,3,none⟩=some (.slice none 0 0):=K2.cell 3;go_wp2_with fail
  (try simp only[Exit.inBlock,Exit.then])
  refine CF (v0:=.int .i64 0) (v1:=.int .u32 0) (v2:=.slice none 0 0) (v3:=.slice none 0 0) rfl (by rfl) (by rfl) (W4.blk K2 _ _ _ _) (EL (O2.trans (W4.only w2 _ _ _ _ _) (by simp)) (R2.far4 (W4.only _ _ _ _ _ _) hgl))
 ·obtain⟨k,hk⟩:=Int.eq_ofNat_of_zero_le (ME l hl).1;have hk2:k<4294967296:=by have:=(ME l hl).2;omega
  rw[show DN l=⟨0,be4 l,[],[],l.drop 4⟩ from if_neg hs] at T;rw[show CE l=GL (l.drop 4) k from by unfold CE;rw[if_neg hs,hk];rfl];rw[hk] at T;clear hs h h1;obtain⟨m,hm⟩: ∃m,l.drop 4=m:=⟨_,rfl⟩;rw[hm] at T⊢;clear hm;unfold IL FD.val at T;dsimp only[List.length_nil] at T;by_cases hbig:32768<k
  ·rw[show GL m k=⟨6,0,[],[],m⟩ from if_pos hbig];have hb2:(32768:Int)<(k:Int):=by omega
   go_enter Tryz.func118,Tryz.ntmps118
   go_wp2_with fail
   rw[←hw1];replace hw1:=AB hw1;go_wp2_with fail
   go_call T as e w2 ⟨P2,tA,tc,lA,lc,rfl,my2,A2,cap2,R2⟩
   clear my2;have K2:=K.only P2 (by simp;omega);have hfd:=RC;have O2:Only [g] w w2:=(P1.mono (by simp)).trans P2 (by simp);have g1:w2.cell? ⟨g,1,none⟩=some (.int .i64 0):=R2.blk.cell 1;have gf:=R2.blk.frozen 1;have f0:=K2.frozen 0;have f1:=K2.frozen 1;have f2:=K2.frozen 2;have f3:=K2.frozen 3;have c0:w2.cell? ⟨w.heap.size,0,none⟩=some (.int .i64 0):=K2.cell 0;have c1:w2.cell? ⟨w.heap.size,1,none⟩=some (.int .u32 0):=K2.cell 1;have c2:w2.cell? ⟨w.heap.size,2,none⟩=some (.slice none 0 0):=K2.cell 2;have c3:w2.cell? ⟨w.heap.size,3,none⟩=some (.slice none 0 0):=K2.cell 3;go_wp2_with fail
   (try simp only[Exit.inBlock,Exit.then])
   obtain⟨R3,P3⟩:=R2.fault 6;exact CF (v0:=.int .i64 0) (v1:=.int .u32 0) (v2:=.slice none 0 0) (v3:=.slice none 0 0) rfl (by rfl) (by rfl) (W4.blk (K2.far (p:=⟨g,1,none⟩) (by simp only;omega) _) _ _ _ _) (EL ((O2.trans P3 (by simp)).trans (W4.only _ _ _ _ _ _) (by simp)) (R3.far4 (W4.only _ _ _ _ _ _) hgl))
  ·have hcv:IntKind.i64.wrap (k:Int)=k:=by apply IntWalk.i64_in<;>omega
   have hb2: ¬(32768:Int)<(k:Int):=by omega
   by_cases hsh:m.length<k
   ·rw[show GL m k=⟨3,0,[],[],m⟩ from by unfold GL;rw[if_neg hbig,if_pos hsh]];go_enter Tryz.func118,Tryz.ntmps118
    go_wp2_with fail
    rw[←hw1];replace hw1:=AB hw1;go_wp2_with fail
    go_call T as e w2 ⟨P2,tA,tc,lA,lc,rfl,my2,A2,cap2,R2⟩
    clear my2;have K2:=K.only P2 (by simp;omega);have hfd:=RC;have O2:Only [g] w w2:=(P1.mono (by simp)).trans P2 (by simp);have g1:w2.cell? ⟨g,1,none⟩=some (.int .i64 0):=R2.blk.cell 1;go_wp2_with fail
    go_call (MT w2 g A2 cap2 m k R2 hsh (by omega)) as e w3 ⟨rfl,R3,P3⟩
    go_wp2_with fail
    go_call (OW w3 none [] 0 (fun h=>absurd h (by simp)) (by simp)) as e w4 ⟨P4,A4,c4,rfl,B4⟩
    have K4:=(K2.only P3 (by simp;omega)).only P4 (by simp);have f0:=K4.frozen 0;have f1:=K4.frozen 1;have f2:=K4.frozen 2;have f3:=K4.frozen 3;have c0:w4.cell? ⟨w.heap.size,0,none⟩=some (.int .i64 0):=K4.cell 0;have c1:w4.cell? ⟨w.heap.size,1,none⟩=some (.int .u32 0):=K4.cell 1;have c2:w4.cell? ⟨w.heap.size,2,none⟩=some (.slice none 0 0):=K4.cell 2;have c3:w4.cell? ⟨w.heap.size,3,none⟩=some (.slice none 0 0):=K4.cell 3;go_wp2_with fail
    (try simp only[Exit.inBlock,Exit.then])
    have z3:=P2.size;have z4:=P3.size;have Q4:=W4.only w4 w.heap.size (.int .i64 0) (.int .u32 0) (.slice A4 0 c4) (.slice none 0 0);have O4:=((O2.trans P3 (by simp)).trans P4 (by simp)).trans Q4 (by simp);exact CF (v0:=.int .i64 0) (v1:=.int .u32 0) (v2:=.slice A4 0 c4) (v3:=.slice none 0 0) rfl (by rfl) (by rfl) (W4.blk K4 _ _ _ _) (MQ (text:=[]) O4 ((R3.only P4).far4 Q4 hgl) (B4.onlyG Q4 (by omega)) (by omega))
   ·rw[show GL m k=⟨0,0,m.take k,[],m.drop k⟩ from by unfold GL;rw[if_neg hbig,if_neg hsh]];have hkl:(m.take k).length=k:=by simp;omega
    go_enter Tryz.func118,Tryz.ntmps118
    go_wp2_with fail
    rw[←hw1];replace hw1:=AB hw1;go_wp2_with fail
    go_call T as e w2 ⟨P2,tA,tc,lA,lc,rfl,my2,A2,cap2,R2⟩
    clear my2;have K2:=K.only P2 (by simp;omega);have hfd:=RC;have O2:Only [g] w w2:=(P1.mono (by simp)).trans P2 (by simp);have g1:w2.cell? ⟨g,1,none⟩=some (.int .i64 0):=R2.blk.cell 1;go_wp2_with fail
    go_call (ZJ w2 g A2 cap2 m k R2 (by omega)) as e w3 ⟨rfl,P3,D3,A3,cap3,R3⟩
    have C4:=OW w3 A2 (m.take k) cap2 D3 (by omega);rw[hkl] at C4;go_wp2_with fail
    go_call C4 as e w4 ⟨P4,A4,c4,rfl,B4⟩
    have K4:=(K2.only P3 (by simp;omega)).only P4 (by simp);have f0:=K4.frozen 0;have f1:=K4.frozen 1;have f2:=K4.frozen 2;have f3:=K4.frozen 3;have c0:w4.cell? ⟨w.heap.size,0,none⟩=some (.int .i64 0):=K4.cell 0;have c1:w4.cell? ⟨w.heap.size,1,none⟩=some (.int .u32 0):=K4.cell 1;have c2:w4.cell? ⟨w.heap.size,2,none⟩=some (.slice none 0 0):=K4.cell 2;have c3:w4.cell? ⟨w.heap.size,3,none⟩=some (.slice none 0 0):=K4.cell 3;go_wp2_with fail
    (try simp only[Exit.inBlock,Exit.then])
    have z3:=P2.size;have z4:=P3.size;have Q4:=W4.only w4 w.heap.size (.int .i64 0) (.int .u32 0) (.slice A4 k c4) (.slice none 0 0);have O4:=((O2.trans P3 (by simp)).trans P4 (by simp)).trans Q4 (by simp);have RR:=MQ (text:=m.take k) O4 ((R3.only P4).far4 Q4 hgl) (B4.onlyG Q4 (by omega)) (by omega);rw[hkl] at RR;exact CF (v0:=.int .i64 0) (v1:=.int .u32 0) (v2:=.slice A4 k c4) (v3:=.slice none 0 0) rfl (by rfl) (by rfl) (W4.blk K4 _ _ _ _) RR
end Go.Proofs.YtkgikodiecmakaaGreatDoor
namespace Go.Proofs.YtkgikodiecmakaaGreatDoor
open Go.RowKit
def TI (l:List Int):R:=⟨LG l.length 33792 6,0,l,[],[]⟩
theorem rest_any (w:World) (g:Nat) (A:Option Addr) (cap:Nat) (l:List Int) (h:RdrV w g A cap l 0) (hlen:l.length≤140737488355000) :
  Calls Tryz.prog 124 #[.pointer (some ⟨g,0,none⟩)] w (IL w g (TI l)):=by
 obtain⟨w1,hw1⟩: ∃w1,w1=w.alloc (.cells #[.int .i64 0,.int .u32 0,.slice none 0 0,.slice none 0 0] 86):=⟨_,rfl⟩;have P1:Only [] w w1:=by rw[hw1];exact(Only.refl _ _).alloc _
 have K:Blk w1 w.heap.size 86 [.int .i64 0,.int .u32 0,.slice none 0 0,.slice none 0 0]:=by rw[hw1];exact Blk.new w _ _
 have h1:=h.only P1;have hgl:=h.blk.lt;have hq1:=K.lt;have C:=OW w1 A l cap h1.rd hlen;have z1:=P1.size;obtain⟨E,hE⟩: ∃E,LG l.length 33792 6=E:=⟨_,rfl⟩;unfold TI;rw[hE];replace hE:=AB hE;have g0:w.cell? ⟨g,0,none⟩=some (.slice A l.length cap):=h.blk.cell 0;go_enter Tryz.func124,Tryz.ntmps124
 go_wp2_with fail
 rw[←hw1];replace hw1:=AB hw1;go_call C as e w2 ⟨P2,A2,cc,rfl,B2⟩
 have K2:=K.only P2 (by simp);have R2:=h1.only P2;have O2:Only [] w w2:=P1.trans P2 (by simp);obtain⟨w3,hw3⟩: ∃w3,w3=w2.alloc (.cells #[.int .i64 0,.int .u32 0,.slice A2 l.length cc,.slice none 0 0] 86):=⟨_,rfl⟩;have P3:Only [] w2 w3:=by rw[hw3];exact(Only.refl _ _).alloc _
 have K3:=K2.only P3 (by simp);have F3:Blk w3 w2.heap.size 86 [.int .i64 0,.int .u32 0,.slice A2 l.length cc,.slice none 0 0]:=by rw[hw3];exact Blk.new w2 _ _
 have R3:=R2.only P3;have B3:Bs w3 w1.heap.size A2 l cc:=B2.only P3;have z2:=P2.size;have z3:=F3.lt;have Y:=VA (f:=⟨0,0,A2,cc,l,none,0,[]⟩) (w:=w3) ⟨B3.rd,RdG.nil,B3.le,B3.max,by simp,by simp,by simp⟩;unfold FD.val at Y;dsimp only[List.length_nil] at Y;rw[hE.out] at Y;clear hE C g0;go_wp2_with fail
 try rw[←hw3]
 replace hw3:=AB hw3;have d0:w3.cell? ⟨w2.heap.size,0,none⟩=some (.int .i64 0):=F3.cell 0;have d1:w3.cell? ⟨w2.heap.size,1,none⟩=some (.int .u32 0):=F3.cell 1;have d2:w3.cell? ⟨w2.heap.size,2,none⟩=some (.slice A2 l.length cc):=F3.cell 2;have d3:w3.cell? ⟨w2.heap.size,3,none⟩=some (.slice none 0 0):=F3.cell 3;go_wp2_with fail
 go_call Y as e w4 ⟨rfl,P4⟩
 have R4:=R3.only P4;have K4:=K3.only P4 (by simp);have F4:=F3.only P4 (by simp);have B4:Bs w4 w1.heap.size A2 l cc:=B3.only P4;clear d0 d1 d2 d3;have d0:w4.cell? ⟨w2.heap.size,0,none⟩=some (.int .i64 0):=F4.cell 0;have d1:w4.cell? ⟨w2.heap.size,1,none⟩=some (.int .u32 0):=F4.cell 1;have d2:w4.cell? ⟨w2.heap.size,2,none⟩=some (.slice A2 l.length cc):=F4.cell 2;have d3:w4.cell? ⟨w2.heap.size,3,none⟩=some (.slice none 0 0):=F4.cell 3;have g0:w4.cell? ⟨g,0,none⟩=some (.slice A l.length cap):=R4.blk.cell 0;have g1:w4.cell? ⟨g,1,none⟩=some (.int .i64 0):=R4.blk.cell 1;have h0:=R4.blk.frozen 0;have h2:=R4.blk.frozen 1;have hn1: ¬g=w2.heap.size:=by omega
 have hn2: ¬w2.heap.size=g:=by omega
 have hn3: ¬g=w.heap.size:=by omega
 have hn4: ¬w.heap.size=g:=by omega
 have f0:=K4.frozen 0;have f1:=K4.frozen 1;have f2:=K4.frozen 2;have f3:=K4.frozen 3;have c0:w4.cell? ⟨w.heap.size,0,none⟩=some (.int .i64 0):=K4.cell 0;have c1:w4.cell? ⟨w.heap.size,1,none⟩=some (.int .u32 0):=K4.cell 1;have c2:w4.cell? ⟨w.heap.size,2,none⟩=some (.slice none 0 0):=K4.cell 2;have c3:w4.cell? ⟨w.heap.size,3,none⟩=some (.slice none 0 0):=K4.cell 3;go_wp2_with fail
 (try simp only[Exit.inBlock,Exit.then])
 obtain⟨w5,hw5⟩: ∃w5,w5=(w4.setCell ⟨g,1,none⟩ (.int .i64 E)).setCell ⟨g,0,none⟩ (.slice none 0 0):=⟨_,rfl⟩;have P5:Only [g] w4 w5:=by rw[hw5];exact((Only.refl [g] w4).setCell (p:=⟨g,1,none⟩) (.inl (by simp)) _).setCell (p:=⟨g,0,none⟩) (.inl (by simp)) _
 have R5:RdrV w5 g none 0 [] E:=⟨by rw[hw5];exact(R4.blk.set_ 1 _).set_ 0 _,fun h=>absurd h (by simp),by simp,by simp,fun a ha=>by cases ha⟩;have K5:=K4.only P5 (by simp;omega);have Q5:=W4.only w5 w.heap.size (.int .i64 0) (.int .u32 0) (.slice A2 l.length cc) (.slice none 0 0);have O5:Only [g] w w5:=(((O2.trans P3 (by simp)).trans P4 (by simp)).mono (by simp)).trans P5 (by simp);rw[←hw5];exact CF (v0:=.int .i64 0) (v1:=.int .u32 0) (v2:=.slice A2 l.length cc) (v3:=.slice none 0 0) rfl (by rfl) (by rfl) (W4.blk K5 _ _ _ _) (MQ (text:=l) (O5.trans Q5 (by simp)) (R5.far4 Q5 hgl) ((B4.onlyG P5 (by omega)).onlyG Q5 (by omega)) (by omega))
end Go.Proofs.YtkgikodiecmakaaGreatDoor
namespace Go.Proofs.YtkgikodiecmakaaGreatDoor
open Go.RowKit
def CM (s:ByteArray):List ByteArray:=Lib.splitB ⟨#[44]⟩ 0 (Lib.countB s ⟨#[44]⟩) s
def HF (r:R):R:=if r.e≠0 then⟨r.e,0,[],[],r.rest⟩ else if r.text=[] then⟨0,0,[],[],r.rest⟩ else⟨CI (CM (strOfNums r.text)),0,[],CM (strOfNums r.text),r.rest⟩
def FC (l:List Int):R:=HF (CE l)
theorem TL (l:List Int):(CE l).text.length≤32768∧(CE l).list=[]∧(CE l).n=0:=by
 unfold CE GL EU;split;·simp
 ·split;·simp
  ·split;·simp
   ·refine⟨?_,rfl,rfl⟩;simp;omega
theorem QL (sep:ByteArray): ∀(k:Nat) (s:ByteArray),∀p∈Lib.splitB sep 0 k s,p.size≤s.size
 |0,s=>by intro p hp;simp[Lib.splitB] at hp;subst hp;exact Nat.le_refl _
 |k+1,s=>by
  intro p hp;unfold Lib.splitB at hp;split at hp;·simp at hp;subst hp;exact Nat.le_refl _
  ·simp only[List.mem_cons] at hp;rcases hp with rfl|hp;·simp;omega
   ·have:=QL sep k _ p hp;simp at this;omega
theorem WL (s:ByteArray):(CM s).length=Lib.countB s ⟨#[44]⟩+1∧(CM s).length≤s.size+1∧∀p∈CM s,p.size≤s.size:=by
 have h1:=Lib.splitB_all ⟨#[44]⟩ (by decide) 0 _ s rfl;have h2:=Lib.countB_mul_le ⟨#[44]⟩ (by decide) _ s (Nat.le_refl _);have h3:(⟨#[44]⟩:ByteArray).size=1:=rfl;rw[h3,Nat.mul_one] at h2;refine⟨h1,by unfold CM;omega,QL _ _ _⟩
theorem split_any (s:ByteArray) (m:Int) (w:World) (hs:s.size≤32768) (hm:w.cell? ⟨0,0,none⟩=some (.int .i64 m)) :
  Calls Tryz.prog 135 #[.string s,.string ⟨#[44]⟩] w fun e w'=>e = .returned (.slice (some ⟨w.heap.size,0,none⟩) (CM s).length (CM s).length)∧Only [] w w'∧RdS w' (some ⟨w.heap.size,0,none⟩) (CM s):=by
 refine(Tryz.strings_Split s ⟨#[44]⟩ m w (by omega) hm (by decide)).mono fun e w' ⟨he,hw⟩=>⟨?_,?_,?_⟩;·rw[he,(WL s).1]
 ·rw[hw];exact(Only.refl _ _).alloc _
 ·intro _;refine⟨w.heap.size,0,rfl,by rw[hw];simp,fun i x hx=>?_⟩;rw[hw];have:=(Blk.new w 9 ((CM s).map Value.string)).cell (0+i);rw[Nat.zero_add] at this⊢;refine Eq.trans this ?_;simp[hx]
theorem names_any (w:World) (g:Nat) (A:Option Addr) (cap:Nat) (l:List Int) (m:Int) (hm:w.cell? ⟨0,0,none⟩=some (.int .i64 m)) (h:RdrV w g A cap l 0) (hl: ∀x∈l,0≤x∧x<256) :
  Calls Tryz.prog 121 #[.pointer (some ⟨g,0,none⟩)] w (IL w g (FC l)):=by
 obtain⟨w1,hw1⟩: ∃w1,w1=w.alloc (.cells #[.int .i64 0,.int .u32 0,.slice none 0 0,.slice none 0 0] 86):=⟨_,rfl⟩;have P1:Only [] w w1:=by rw[hw1];exact(Only.refl _ _).alloc _
 have K:Blk w1 w.heap.size 86 [.int .i64 0,.int .u32 0,.slice none 0 0,.slice none 0 0]:=by rw[hw1];exact Blk.new w _ _
 have h1:=h.only P1;have hgl:=h.blk.lt;have hq1:=K.lt;have T:=bS w1 g A cap l h1 hl;obtain⟨htx,hli,hn⟩:=TL l;unfold FC;obtain⟨r,hr⟩: ∃r,CE l=r:=⟨_,rfl⟩;rw[hr] at T htx hli hn⊢;clear hr;obtain⟨E,n,tx,ls,rest⟩:=r;dsimp only at htx hli hn;subst hli;subst hn;by_cases hE:E=0
 ·by_cases htx0:tx=[]
  ·subst hE;subst htx0;rw[show HF ⟨0,0,[],[],rest⟩=⟨0,0,[],[],rest⟩ from rfl];have hE2:((0:Int)!=0)=false:=rfl;obtain⟨E,hEE⟩: ∃E:Int,E=0:=⟨_,rfl⟩;unfold IL FD.val at T;dsimp only[List.length_nil] at T;subst hEE;go_enter Tryz.func121,Tryz.ntmps121
   go_wp2_with fail
   rw[←hw1];replace hw1:=AB hw1;go_wp2_with fail
   go_call T as e w2 ⟨P2,tA,tc,lA,lc,rfl,my2,A2,cap2,R2⟩
   have K2:=K.only P2 (by simp;omega);have O2:Only [g] w w2:=(P1.mono (by simp)).trans P2 (by simp);obtain⟨w3,hw3⟩: ∃w3,w3=w2.alloc (.cells #[.int .i64 0,.int .u32 0,.slice tA 0 tc,.slice lA 0 lc] 86):=⟨_,rfl⟩;have P3:Only [] w2 w3:=by rw[hw3];exact(Only.refl _ _).alloc _
   have K3:=K2.only P3 (by simp);have F3:Blk w3 w2.heap.size 86 [.int .i64 0,.int .u32 0,.slice tA 0 tc,.slice lA 0 lc]:=by rw[hw3];exact Blk.new w2 _ _
   have R3:=R2.only P3;have z1:=P1.size;have z2:=P2.size;have z3:=F3.lt;have O3:Only [g] w w3:=O2.trans P3 (by simp);have g1:w2.cell? ⟨g,1,none⟩=some (.int .i64 0):=R2.blk.cell 1;have hg2:g<w2.heap.size:=by omega
   have hq2:w.heap.size<w2.heap.size:=by omega
   have hn1: ¬g=w2.heap.size:=by omega
   have hn2: ¬w2.heap.size=g:=by omega
   have hn3: ¬g=w.heap.size:=by omega
   have hn4: ¬w.heap.size=g:=by omega
   have hn5: ¬w2.heap.size=w.heap.size:=by omega
   have hn6: ¬w.heap.size=w2.heap.size:=by omega
   have f0:=K2.frozen 0;have f1:=K2.frozen 1;have f2:=K2.frozen 2;have f3:=K2.frozen 3;have c0:w2.cell? ⟨w.heap.size,0,none⟩=some (.int .i64 0):=K2.cell 0;have c1:w2.cell? ⟨w.heap.size,1,none⟩=some (.int .u32 0):=K2.cell 1;have c2:w2.cell? ⟨w.heap.size,2,none⟩=some (.slice none 0 0):=K2.cell 2;have c3:w2.cell? ⟨w.heap.size,3,none⟩=some (.slice none 0 0):=K2.cell 3;go_wp2_with fail
   (try simp only[Exit.inBlock,Exit.then])
   have Q4:=W4.only w2 w.heap.size (.int .i64 0) (.int .u32 0) (.slice none 0 0) (.slice none 0 0);exact CF (v0:=.int .i64 0) (v1:=.int .u32 0) (v2:=.slice none 0 0) (v3:=.slice none 0 0) rfl (by rfl) (by rfl) ((W4.blk K2 _ _ _ _).alloc _) (EL ((O2.trans Q4 (by simp)).alloc _) ((R2.far4 Q4 hgl).only ((Only.refl _ _).alloc _)))
  ·subst hE;rw[show HF ⟨0,0,tx,[],rest⟩=⟨CI (CM (strOfNums tx)),0,[],CM (strOfNums tx),rest⟩ from by unfold HF;rw[if_neg (by simp),if_neg htx0]];have hE2:((0:Int)!=0)=false:=rfl;obtain⟨k,hkk⟩: ∃k,tx.length=k:=⟨_,rfl⟩;have hk0: ¬k=0:=by rw[←hkk];simpa using htx0
   have hk1:((k:Int)==0)=false:=beq_eq_false_iff_ne.2 (by omega);obtain⟨s,hs⟩: ∃s,strOfNums tx=s:=⟨_,rfl⟩;have hsz:s.size≤32768:=by rw[←hs,strOfNums_size];exact htx
   obtain⟨q1,q2,q3⟩:=WL s;unfold IL FD.val at T;dsimp only[List.length_nil] at T;rw[hkk] at T;obtain⟨ps,hps⟩: ∃ps,CM s=ps:=⟨_,rfl⟩;obtain⟨N,hN⟩: ∃N,ps.length=N:=⟨_,rfl⟩;obtain⟨E,hEn⟩: ∃E,CI ps=E:=⟨_,rfl⟩;rw[hs,hps,hEn];rw[hps] at q1 q2 q3;have hg0:g≠0:=by
    rintro rfl;have:=h.blk.cell 0;rw[hm] at this;simp at this
   replace hs:=AB hs;replace hps:=AB hps;replace hN:=AB hN;replace hEn:=AB hEn;replace hkk:=AB hkk;go_enter Tryz.func121,Tryz.ntmps121
   go_wp2_with fail
   rw[←hw1];replace hw1:=AB hw1;go_wp2_with fail
   go_call T as e w2 ⟨P2,tA,tc,lA,lc,rfl,my2,A2,cap2,R2⟩
   have K2:=K.only P2 (by simp;omega);have O2:Only [g] w w2:=(P1.mono (by simp)).trans P2 (by simp);obtain⟨w3,hw3⟩: ∃w3,w3=w2.alloc (.cells #[.int .i64 0,.int .u32 0,.slice tA k tc,.slice lA 0 lc] 86):=⟨_,rfl⟩;have P3:Only [] w2 w3:=by rw[hw3];exact(Only.refl _ _).alloc _
   have K3:=K2.only P3 (by simp);have F3:Blk w3 w2.heap.size 86 [.int .i64 0,.int .u32 0,.slice tA k tc,.slice lA 0 lc]:=by rw[hw3];exact Blk.new w2 _ _
   have R3:=R2.only P3;have z1:=P1.size;have z2:=P2.size;have z3:=F3.lt;have O3:Only [g] w w3:=O2.trans P3 (by simp);have g1:w2.cell? ⟨g,1,none⟩=some (.int .i64 0):=R2.blk.cell 1;have hg2:g<w2.heap.size:=by omega
   have hq2:w.heap.size<w2.heap.size:=by omega
   have hn1: ¬g=w2.heap.size:=by omega
   have hn2: ¬w2.heap.size=g:=by omega
   have hn3: ¬g=w.heap.size:=by omega
   have hn4: ¬w.heap.size=g:=by omega
   have hn5: ¬w2.heap.size=w.heap.size:=by omega
   have hn6: ¬w.heap.size=w2.heap.size:=by omega
   have f0:=K2.frozen 0;have f1:=K2.frozen 1;have f2:=K2.frozen 2;have f3:=K2.frozen 3;have c0:w2.cell? ⟨w.heap.size,0,none⟩=some (.int .i64 0):=K2.cell 0;have c1:w2.cell? ⟨w.heap.size,1,none⟩=some (.int .u32 0):=K2.cell 1;have c2:w2.cell? ⟨w.heap.size,2,none⟩=some (.slice none 0 0):=K2.cell 2;have c3:w2.cell? ⟨w.heap.size,3,none⟩=some (.slice none 0 0):=K2.cell 3;have tk:0<tx.length:=by rw[hkk.out];omega
   obtain⟨b,off,rfl,hb,hcb⟩:=(my2.ok.only P3).text tk;have hm1:w3.cell? ⟨0,0,none⟩=some (.int .i64 m):=AV O3 (by omega) (by simpa using Ne.symm hg0) hm;have kc:(convert 34 9 (.slice (some ⟨b,off,none⟩) k tc)).run Tryz.prog w3 = .ok (.string s) w3:=by
    rw[←hs.out];exact run_convert_bytes_arg (P:=Tryz.prog) w3 34 5 (by kernel_rfl) (by kernel_rfl) b off k tc tx hkk.out (fun i hi=>by
     have hx:tx[i]? = some (tx[i]'(by rw[hkk.out];omega)):=List.getElem?_eq_getElem _;have:=hcb i _ hx;rw[this];simp[List.getD,hx]) 9 (by kernel_rfl)
   rw[hw3] at kc;go_wp2_with fail
   rw[←hw3];rw[←hw3] at kc;replace hw3:=AB hw3;have SP:=split_any s m w3 hsz hm1;rw[hps.out,hN.out] at SP;go_call SP as e w4 ⟨rfl,P4,S4⟩
   have F4:=F3.only P4 (by simp);have K4:=K3.only P4 (by simp);have R4:=R3.only P4;clear c0 c1 c2 c3 f0 f1 f2 f3 g1;have d0:w4.cell? ⟨w2.heap.size,0,none⟩=some (.int .i64 0):=F4.cell 0;have d1:w4.cell? ⟨w2.heap.size,1,none⟩=some (.int .u32 0):=F4.cell 1;have d2:w4.cell? ⟨w2.heap.size,2,none⟩=some (.slice (some ⟨b,off,none⟩) k tc):=F4.cell 2;have d3:w4.cell? ⟨w2.heap.size,3,none⟩=some (.slice lA 0 lc):=F4.cell 3;have e0:=F4.frozen 0;have e1:=F4.frozen 1;have e2:=F4.frozen 2;have e3:=F4.frozen 3;obtain⟨w5,hw5⟩: ∃w5,w5=W4 w4 w2.heap.size (.int .i64 0) (.int .u32 0) (.slice none 0 0) (.slice (some ⟨w3.heap.size,0,none⟩) N N):=⟨_,rfl⟩;have P5:Only [w2.heap.size] w4 w5:=by rw[hw5];exact W4.only _ _ _ _ _ _
   have F5:Blk w5 w2.heap.size 86 [.int .i64 0,.int .u32 0,.slice none 0 0,.slice (some ⟨w3.heap.size,0,none⟩) N N]:=by rw[hw5];exact W4.blk F4 _ _ _ _
   have K5:=K4.only P5 (by simp;omega);have R5:=R4.far4 P5 hg2;have S5:RdS w5 (some ⟨w3.heap.size,0,none⟩) ps:=S4.onlyL P5 (fun a ha _=>by injection ha with ha;subst ha;simp;omega);have ok5:FD.ok w5 ⟨0,0,none,0,[],some ⟨w3.heap.size,0,none⟩,N,ps⟩:=⟨RdG.nil,S5,by simp,by simp,by rw[hN.out];exact Nat.le_refl _,by have:=hN.out;simp only;unfold maxLen;omega,fun p hp=>by have:=q3 p hp;unfold maxLen;omega⟩;have new5:FD.new ⟨0,0,none,0,[],some ⟨w3.heap.size,0,none⟩,N,ps⟩ w3.heap.size:=⟨fun a ha=>by simp at ha,fun a ha=>by injection ha with ha;subst ha;exact Nat.le_refl _⟩;have my5:FD.mine w5 ⟨0,0,none,0,[],some ⟨w3.heap.size,0,none⟩,N,ps⟩ w3.heap.size:=⟨ok5,new5,fun a ha=>by simp at ha⟩;have Y:=SR ⟨0,0,none,0,[],some ⟨w3.heap.size,0,none⟩,N,ps⟩ w5 ok5;unfold FD.val at Y;dsimp only[List.length_nil] at Y;rw[hEn.out,hN.out] at Y;have z4:=P4.size;have z5:=P5.size;unfold W4 at hw5;go_wp2_with fail
   rw[←hw5];replace hw5:=AB hw5;go_call Y as e w6 ⟨rfl,P6⟩
   have F6:=F5.only P6 (by simp);have K6:=K5.only P6 (by simp);have R6:=R5.only P6;have O6:Only [g] w w6:=((O3.trans P4 (by simp)).trans P5 (by simp;omega)).trans P6 (by simp);clear d0 d1 d2 d3 e0 e1 e2 e3;have g1:w6.cell? ⟨g,1,none⟩=some (.int .i64 0):=R6.blk.cell 1;have gf1:=R6.blk.frozen 1;have d0:w6.cell? ⟨w2.heap.size,0,none⟩=some (.int .i64 0):=F6.cell 0;have d1:w6.cell? ⟨w2.heap.size,1,none⟩=some (.int .u32 0):=F6.cell 1;have d2:w6.cell? ⟨w2.heap.size,2,none⟩=some (.slice none 0 0):=F6.cell 2;have d3:w6.cell? ⟨w2.heap.size,3,none⟩=some (.slice (some ⟨w3.heap.size,0,none⟩) N N):=F6.cell 3;have f0:=K6.frozen 0;have f1:=K6.frozen 1;have f2:=K6.frozen 2;have f3:=K6.frozen 3;have c0:w6.cell? ⟨w.heap.size,0,none⟩=some (.int .i64 0):=K6.cell 0;have c1:w6.cell? ⟨w.heap.size,1,none⟩=some (.int .u32 0):=K6.cell 1;have c2:w6.cell? ⟨w.heap.size,2,none⟩=some (.slice none 0 0):=K6.cell 2;have c3:w6.cell? ⟨w.heap.size,3,none⟩=some (.slice none 0 0):=K6.cell 3;go_wp2_with fail
   (try simp only[Exit.inBlock,Exit.then])
   obtain⟨R7,P7⟩:=R6.fault E;have K7:=K6.far (p:=⟨g,1,none⟩) (by simp only;omega) (.int .i64 E);have Q8:=W4.only (w6.setCell ⟨g,1,none⟩ (.int .i64 E)) w.heap.size (.int .i64 0) (.int .u32 0) (.slice none 0 0) (.slice (some ⟨w3.heap.size,0,none⟩) N N);have RR:IL w g ⟨E,0,[],ps,rest⟩ (.returned (.agg #[.int .i64 0,.int .u32 0,.slice none 0 0,.slice (some ⟨w3.heap.size,0,none⟩) N N])) (W4 (w6.setCell ⟨g,1,none⟩ (.int .i64 E)) w.heap.size (.int .i64 0) (.int .u32 0) (.slice none 0 0) (.slice (some ⟨w3.heap.size,0,none⟩) N N)):=
    ⟨(O6.trans P7 (by simp)).trans Q8 (by simp),none,0,some ⟨w3.heap.size,0,none⟩,N,by unfold FD.val;rw[hN.out];rfl,(((my5.only P6).onlyL P7 (by omega)).onlyL Q8 (by omega)).mono (by omega),A2,cap2,R7.far4 Q8 hgl⟩
   exact CF (v0:=.int .i64 0) (v1:=.int .u32 0) (v2:=.slice none 0 0) (v3:=.slice (some ⟨w3.heap.size,0,none⟩) N N) rfl (by rfl) (by rfl) (W4.blk K7 _ _ _ _) RR
 ·rw[show HF ⟨E,0,tx,[],rest⟩=⟨E,0,[],[],rest⟩ from if_pos hE];have hE2:(E !=0)=true:=by simpa using hE
  obtain⟨k,hkk⟩: ∃k,tx.length=k:=⟨_,rfl⟩;unfold IL FD.val at T;dsimp only[List.length_nil] at T;rw[hkk] at T;clear hkk;go_enter Tryz.func121,Tryz.ntmps121
  go_wp2_with fail
  rw[←hw1];replace hw1:=AB hw1;go_wp2_with fail
  go_call T as e w2 ⟨P2,tA,tc,lA,lc,rfl,my2,A2,cap2,R2⟩
  have K2:=K.only P2 (by simp;omega);have O2:Only [g] w w2:=(P1.mono (by simp)).trans P2 (by simp);obtain⟨w3,hw3⟩: ∃w3,w3=w2.alloc (.cells #[.int .i64 0,.int .u32 0,.slice tA k tc,.slice lA 0 lc] 86):=⟨_,rfl⟩;have P3:Only [] w2 w3:=by rw[hw3];exact(Only.refl _ _).alloc _
  have K3:=K2.only P3 (by simp);have F3:Blk w3 w2.heap.size 86 [.int .i64 0,.int .u32 0,.slice tA k tc,.slice lA 0 lc]:=by rw[hw3];exact Blk.new w2 _ _
  have R3:=R2.only P3;have z1:=P1.size;have z2:=P2.size;have z3:=F3.lt;have O3:Only [g] w w3:=O2.trans P3 (by simp);have g1:w2.cell? ⟨g,1,none⟩=some (.int .i64 E):=R2.blk.cell 1;have hg2:g<w2.heap.size:=by omega
  have hq2:w.heap.size<w2.heap.size:=by omega
  have hn1: ¬g=w2.heap.size:=by omega
  have hn2: ¬w2.heap.size=g:=by omega
  have hn3: ¬g=w.heap.size:=by omega
  have hn4: ¬w.heap.size=g:=by omega
  have hn5: ¬w2.heap.size=w.heap.size:=by omega
  have hn6: ¬w.heap.size=w2.heap.size:=by omega
  have f0:=K2.frozen 0;have f1:=K2.frozen 1;have f2:=K2.frozen 2;have f3:=K2.frozen 3;have c0:w2.cell? ⟨w.heap.size,0,none⟩=some (.int .i64 0):=K2.cell 0;have c1:w2.cell? ⟨w.heap.size,1,none⟩=some (.int .u32 0):=K2.cell 1;have c2:w2.cell? ⟨w.heap.size,2,none⟩=some (.slice none 0 0):=K2.cell 2;have c3:w2.cell? ⟨w.heap.size,3,none⟩=some (.slice none 0 0):=K2.cell 3;go_wp2_with fail
  (try simp only[Exit.inBlock,Exit.then])
  have Q4:=W4.only w2 w.heap.size (.int .i64 0) (.int .u32 0) (.slice none 0 0) (.slice none 0 0);exact CF (v0:=.int .i64 0) (v1:=.int .u32 0) (v2:=.slice none 0 0) (v3:=.slice none 0 0) rfl (by rfl) (by rfl) ((W4.blk K2 _ _ _ _).alloc _) (EL ((O2.trans Q4 (by simp)).alloc _) ((R2.far4 Q4 hgl).only ((Only.refl _ _).alloc _)))
end Go.Proofs.YtkgikodiecmakaaGreatDoor
namespace Go.Proofs.YtkgikodiecmakaaGreatDoor
open Go.RowKit
def tab:Array Value:=#[.nilFunc,.nilFunc,.nilFunc,
 .func (Fn.func 108) #[] #[],.func (Fn.func 109) #[] #[],.func (Fn.func 110) #[] #[],
 .func (Fn.func 111) #[] #[],.func (Fn.func 109) #[] #[],.func (Fn.func 112) #[] #[],
 .func (Fn.func 113) #[] #[],.func (Fn.func 114) #[] #[],.func (Fn.func 115) #[] #[],
 .func (Fn.func 116) #[] #[],.func (Fn.func 117) #[] #[],.func (Fn.func 118) #[] #[],
 .func (Fn.func 119) #[] #[],.func (Fn.func 120) #[] #[],.func (Fn.func 121) #[] #[],
 .func (Fn.func 122) #[] #[],.func (Fn.func 123) #[] #[],.func (Fn.func 124) #[] #[]]
theorem sorts_any (w:World) :
  Calls Tryz.prog 93 #[] w (fun e w'=>e = .returned (.agg tab)∧Only [] w w'):=by
 have hz:=heap_alloc_new w (.cells (Array.replicate 21 Value.nilFunc) 142);go_enter Tryz.func93,Tryz.ntmps93
 go_wp2_with (refine wpList_store_row rfl 142 (.tmp 0) (.tmp 7) rfl w.heap.size tab rfl rfl 142 (Array.replicate 21 Value.nilFunc) hz (by kernel_rfl) (by kernel_rfl) (by kernel_rfl) ?_)
 (try simp only[Exit.inBlock,Exit.then])
 have hb:Blk ((w.alloc (.cells (Array.replicate 21 Value.nilFunc) 142)).setRow w.heap.size tab) w.heap.size 142 tab.toList:=by
  have:=MF (Blk.new w 142 (List.replicate 21 Value.nilFunc)) tab.toList;exact this
 refine bodyPost_ret (results_cell_row rfl _ _ w.heap.size 142 tab (0,0) _ (by rfl) hb Tryz.underlying142 rfl (by kernel_rfl)) (by rfl) ⟨rfl,?_⟩;exact((Only.refl [] w).alloc _).trans (JB _ _ _) (by simp)
end Go.Proofs.YtkgikodiecmakaaGreatDoor
