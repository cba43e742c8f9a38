/- SessionAsks: lemmas, from 'Layer 1: names and kinds' on; what each asks for stands in it. -/
import Derived.Test.YtdplnedpbkpgpaaGreatDoorSlA
import Derived.WalkSpells
import Derived.Test.YtdplnedpbkpgpaaGreatDoorSlC
import Derived.IntWalk
import Derived.Test.YtdplnedpbkpgpaaGreatDoorShelf
import Derived.Lib.ConvBytes
import Derived.Lib.SliceRun
import Derived.Lib.EndianBits
import Derived.Laws.BitsAllLaws
set_option linter.all false
set_option maxRecDepth 100000
set_option maxHeartbeats 64000000
namespace Go.Proofs.YtdplnedpbkpgpaaGreatDoor
open Go.RowKit
def LP (c:UInt8):Bool:=decide (33≤c.toNat)&&decide (c.toNat≤126)&&decide (c.toNat≠44)
def BN (s:ByteArray):Bool:=decide (1≤s.size)&&decide (s.size≤64)&&s.data.toList.all LP
theorem LM (s:ByteArray) (k:Nat) (h:k<s.size):s.data.toList.take (k+1)=s.data.toList.take k++[s[k]]:=by
 rw[List.take_succ_eq_append_getElem (by simpa using h)];rfl
theorem cD (s:ByteArray):s.toList.isEmpty=decide (s.size=0):=by
 rw[ByteArray.toList_eq];have e:s.size=s.data.toList.length:=by simp
 rw[e];cases s.data.toList<;>simp
def IJ (k:Int):Bool:=decide (1≤k)&&decide (k≤6)
theorem WW (k:Int) (w:World):Calls Tryz.prog 111 #[.int .i64 k] w fun e w'=>e = .returned (.bool (IJ k))∧w=w':=by
 by_cases h1:1≤k
 ·go_enter Tryz.func111,Tryz.ntmps111
  go_wp2
  go_ret
  exact⟨GW (by unfold IJ;simp[h1]<;>omega),rfl⟩
 ·go_enter Tryz.func111,Tryz.ntmps111
  go_wp2
  go_ret
  exact⟨GW (by unfold IJ;simp[h1]<;>omega),rfl⟩
def GM (a b c:Int):Int:=if b<a then c else 0
theorem UG {a b c:Int} (h:b<a):GM a b c=c:=if_pos h
theorem OV {a b c:Int} (h: ¬b<a):GM a b c=0:=if_neg h
theorem VL (a b:Int) (w:World):Calls Tryz.prog 140 #[.int .u32 a,.int .u32 b] w fun e w'=>e = .returned (.int .i64 (GM a b 5))∧w=w':=by
 by_cases h1:b<a
 ·rw[UG h1];go_enter Tryz.func140,Tryz.ntmps140
  go_wp2
  go_ret
  exact⟨rfl,rfl⟩
 ·rw[OV h1];go_enter Tryz.func140,Tryz.ntmps140
  go_wp2
  go_ret
  exact⟨rfl,rfl⟩
theorem bV (a b:Int) (w:World):Calls Tryz.prog 142 #[.int .i64 a,.int .i64 b] w fun e w'=>e = .returned (.int .i64 (GM a b 6))∧w=w':=by
 by_cases h1:b<a
 ·rw[UG h1];go_enter Tryz.func142,Tryz.ntmps142
  go_wp2
  go_ret
  exact⟨rfl,rfl⟩
 ·rw[OV h1];go_enter Tryz.func142,Tryz.ntmps142
  go_wp2
  go_ret
  exact⟨rfl,rfl⟩
theorem named_any (s:ByteArray) (w:World) (hs:s.size≤maxLen):Calls Tryz.prog 146 #[.string s] w fun e w'=>e = .returned (.bool (BN s))∧w=w':=by
 unfold maxLen at hs;by_cases h0:s.size=0
 ·have e:BN s=false:=by unfold BN;simp[h0]
  rw[e];clear e;have hl2:s.toList.isEmpty=true:=by rw[cD];simp[h0]
  go_enter Tryz.func146,Tryz.ntmps146
  go_wp2
  go_ret
  exact⟨rfl,rfl⟩
 ·have hl2:s.toList.isEmpty=false:=by rw[cD];simp[h0]
  by_cases h64:64<s.size
  ·have e:BN s=false:=by unfold BN;simp;omega
   rw[e];clear e;go_enter Tryz.func146,Tryz.ntmps146
   go_wp2
   go_ret
   exact⟨rfl,rfl⟩
  ·obtain⟨N,hN⟩: ∃N,N=BN s:=⟨_,rfl⟩;have hN2:N=s.data.toList.all LP:=by rw[hN];unfold BN;simp;omega
   rw[←hN];replace hN2:=AB hN2;clear hN h0;go_enter Tryz.func146,Tryz.ntmps146
   go_wp2
   go_loop [14] (fun i=>∃k:Nat,k≤s.size∧i = .int .i64 k∧Hid ((s.data.toList.take k).all LP=true)) (fun i=>s.size-(intOf i).toNat)
   case atStart=>exact⟨0,by omega,rfl,AB rfl⟩
   case round=>
    obtain⟨k,hk,rfl,hall⟩:=hrel;by_cases hlt:k<s.size
    ·have hts:=AB (LM s k hlt);by_cases hc:LP s[k]=true
     ·have hcc:=AB hc;unfold LP at hc;simp only[Bool.and_eq_true,decide_eq_true_eq] at hc;obtain⟨⟨q1,q2⟩,q3⟩:=hc;have q4:((s[k].toNat:Int)==44)=false:=beq_eq_false_iff_ne.2 (by omega);replace q3:=AB q3;go_wp2
      go_round
      case rel=>exact⟨k+1,by omega,by go_num,AB (by rw[hts.out,List.all_append,hall.out];simp[hcc.out])⟩
      case measure=>simp[intOf];omega
     ·have hf:N=false:=by
       rw[hN2.out,Bool.eq_false_iff];intro h;have:=List.all_eq_true.1 h s[k] (by
        have:s[k]=s.data.toList[k]'(by simpa using hlt):=rfl;rw[this];exact List.getElem_mem _)
       exact hc this
      subst hf;have hq:s[k].toNat<33∨126<s[k].toNat∨s[k].toNat=44:=by
       unfold LP at hc;simp at hc;omega
      clear hN2 hc;by_cases q1:s[k].toNat<33
      ·clear hq;go_wp2
       go_ret
       exact⟨rfl,rfl⟩
      ·by_cases q2:126<s[k].toNat
       ·clear hq;go_wp2
        go_ret
        exact⟨rfl,rfl⟩
       ·have q3:((s[k].toNat:Int)==44)=true:=beq_iff_eq.2 (by omega);clear hq;go_wp2
        go_ret
        exact⟨rfl,rfl⟩
    ·have hf:N=true:=by
      have h:=hall.out;rw[List.take_of_length_le (by simp;omega)] at h;rw[hN2.out,h]
     subst hf;clear hN2;go_wp2
     go_ret
     exact⟨rfl,rfl⟩
end Go.Proofs.YtdplnedpbkpgpaaGreatDoor
namespace Go.Proofs.YtdplnedpbkpgpaaGreatDoor
open Go.RowKit
theorem bR (s:ByteArray) (w:World) (hs:s.size≤maxLen):Calls Tryz.prog 154 #[.string s] w fun e w'=>e = .returned (.bool (BN s))∧w=w':=by
 unfold maxLen at hs;by_cases h0:s.size<1
 ·have e:BN s=false:=by unfold BN;simp;omega
  rw[e];clear e;go_enter Tryz.func154,Tryz.ntmps154
  go_wp2
  go_ret
  exact⟨rfl,rfl⟩
 ·by_cases h64:64<s.size
  ·have e:BN s=false:=by unfold BN;simp;omega
   rw[e];clear e;go_enter Tryz.func154,Tryz.ntmps154
   go_wp2
   go_ret
   exact⟨rfl,rfl⟩
  ·obtain⟨N,hN⟩: ∃N,N=BN s:=⟨_,rfl⟩;have hN2:N=s.data.toList.all LP:=by rw[hN];unfold BN;simp;omega
   rw[←hN];replace hN2:=AB hN2;clear hN;go_enter Tryz.func154,Tryz.ntmps154
   go_wp2
   go_loop [3] (fun i=>∃k:Nat,k≤s.size∧i = .int .i64 k∧Hid ((s.data.toList.take k).all LP=true)) (fun i=>s.size-(intOf i).toNat)
   case atStart=>exact⟨0,by omega,rfl,AB rfl⟩
   case round=>
    obtain⟨k,hk,rfl,hall⟩:=hrel;by_cases hlt:k<s.size
    ·have hts:=AB (LM s k hlt);by_cases hc:LP s[k]=true
     ·have hcc:=AB hc;unfold LP at hc;simp only[Bool.and_eq_true,decide_eq_true_eq] at hc;obtain⟨⟨q1,q2⟩,q3⟩:=hc;have q4:((s[k].toNat:Int)==44)=false:=beq_eq_false_iff_ne.2 (by omega);replace q3:=AB q3;go_wp2
      go_round
      case rel=>exact⟨k+1,by omega,by go_num,AB (by rw[hts.out,List.all_append,hall.out];simp[hcc.out])⟩
      case measure=>simp[intOf];omega
     ·have hf:N=false:=by
       rw[hN2.out,Bool.eq_false_iff];intro h;have:=List.all_eq_true.1 h s[k] (by
        have:s[k]=s.data.toList[k]'(by simpa using hlt):=rfl;rw[this];exact List.getElem_mem _)
       exact hc this
      subst hf;have hq:s[k].toNat<33∨126<s[k].toNat∨s[k].toNat=44:=by
       unfold LP at hc;simp at hc;omega
      clear hN2 hc;by_cases q1:s[k].toNat<33
      ·clear hq;go_wp2
       go_ret
       exact⟨rfl,rfl⟩
      ·by_cases q2:126<s[k].toNat
       ·clear hq;go_wp2
        go_ret
        exact⟨rfl,rfl⟩
       ·have q3:((s[k].toNat:Int)==44)=true:=beq_iff_eq.2 (by omega);clear hq;go_wp2
        go_ret
        exact⟨rfl,rfl⟩
    ·have hf:N=true:=by
      have h:=hall.out;rw[List.take_of_length_le (by simp;omega)] at h;rw[hN2.out,h]
     subst hf;clear hN2;go_wp2
     go_ret
     exact⟨rfl,rfl⟩
/-! Rows of kinds. -/
def GS (ks:List Int) (i:Nat):Bool:=IJ (ks.getD i 0) && !(decide (ks.getD i 0=6)&&decide (i+1<ks.length))
def GX (ks:List Int):Bool:=(List.range ks.length).all (GS ks)
theorem KP {ks:List Int}:GX ks=true↔∀i,i<ks.length→GS ks i=true:=by
 unfold GX;rw[List.all_eq_true];simp
theorem XJ {ks:List Int} {i:Nat} (hi:i<ks.length) (h:GS ks i=false):GX ks=false:=by
 rw[Bool.eq_false_iff];intro hr;rw[KP.1 hr i hi] at h;cases h
def Good (ks:List Int) (k:Nat):Prop:=∀i,i<k→GS ks i=true
theorem row_any (A:Option Addr) (ks:List Int) (cap:Nat) (w:World) (h:RdI w A ks) (hl:ks.length≤maxLen):Calls Tryz.prog 67 #[.slice A ks.length cap] w fun e w'=>e = .returned (.bool (GX ks))∧w=w':=by
 unfold maxLen at hl;obtain⟨n,hn⟩: ∃n,n=ks.length:=⟨_,rfl⟩;obtain⟨R,hR⟩: ∃R,R=GX ks:=⟨_,rfl⟩;rw[←hR];rw[←hn] at hl⊢;have HR:=AB hR;have HN:=AB hn;clear hR hn;go_enter Tryz.func67,Tryz.ntmps67
 go_wp2
 go_loop [7] (fun i=>∃k:Nat,k≤n∧i = .int .i64 k∧Good ks k) (fun i=>n-(intOf i).toNat)
 case atStart=>exact⟨0,by omega,rfl,fun i hi=>by omega⟩
 case round=>
  obtain⟨k,hk,rfl,hg⟩:=hrel;by_cases hlt:k<n
  ·obtain⟨b,off,x,rfl,hb,hx,hc⟩:=h.at k (by rw[←HN.out];exact hlt);have hga:GS ks k=(IJ x && !(decide (x=6)&&decide (k+1<n))):=by
    unfold GS;rw[List.getD_eq_getElem?_getD,hx,HN.out];rfl
   have hg':GS ks k=true→Good ks (k+1):=fun h i hi=>by
    by_cases e:i=k
    ·rw[e];exact h
    ·exact hg i (by omega)
   have hnot:GS ks k=false→R=false:=fun h=>by rw[HR.out];exact XJ (by rw[←HN.out];exact hlt) h
   rw[hga] at hg' hnot;replace hg':=AB hg';replace hnot:=AB hnot;clear hga hx;replace hg:=AB hg;by_cases h1:IJ x=true
   ·have K:Calls Tryz.prog 111 #[.int .i64 x] w fun e w'=>e = .returned (.bool true)∧w=w':=by rw[←h1];exact WW x w
    by_cases h6:x=6
    ·subst h6;by_cases hl2:k+1<n
     ·obtain rfl:R=false:=hnot.out (by simp[h1,hl2]);have hl3:(k:Int)<(n:Int)-1:=by omega
      clear hg' hnot h1;go_wp2_with fail
      go_call K as e w' ⟨rfl,rfl⟩
      clear K;go_wp2
      go_ret
      exact⟨rfl,rfl⟩
     ·have hl3: ¬(k:Int)<(n:Int)-1:=by omega
      have hG:Good ks (k+1):=hg'.out (by simp[h1];omega);replace hG:=AB hG;clear hg' hnot h1;go_wp2_with fail
      go_call K as e w' ⟨rfl,rfl⟩
      clear K;go_wp2
      go_round
      case rel=>exact⟨k+1,by omega,by go_num,hG.out⟩
      case measure=>simp[intOf];omega
    ·have h6':(x==6)=false:=beq_eq_false_iff_ne.2 h6;have hG:Good ks (k+1):=hg'.out (by simp[h1,h6]);replace hG:=AB hG;clear hg' hnot h1;go_wp2_with fail
     go_call K as e w' ⟨rfl,rfl⟩
     clear K;go_wp2
     go_round
     case rel=>exact⟨k+1,by omega,by go_num,hG.out⟩
     case measure=>simp[intOf];omega
   ·have h1:IJ x=false:=by simpa using h1
    obtain rfl:R=false:=hnot.out (by simp[h1]);have K:Calls Tryz.prog 111 #[.int .i64 x] w fun e w'=>e = .returned (.bool false)∧w=w':=by rw[←h1];exact WW x w
    clear hg' hnot h1;go_wp2_with fail
    go_call K as e w' ⟨rfl,rfl⟩
    clear K;go_wp2
    go_ret
    exact⟨rfl,rfl⟩
  ·obtain rfl:k=n:=by omega
   obtain rfl:R=true:=by rw[HR.out];exact KP.2 (fun i hi=>hg i (by rw[HN.out];exact hi))
   replace hg:=AB hg;go_wp2
   go_ret
   exact⟨rfl,rfl⟩
end Go.Proofs.YtdplnedpbkpgpaaGreatDoor
namespace Go.Proofs.YtdplnedpbkpgpaaGreatDoor
open Go.RowKit
structure FD where
  kind : Int
  n : Int
  tA : Option Addr
  tc : Nat
  text : List Int
  lA : Option Addr
  lc : Nat
  list : List ByteArray
def FD.cells (f:FD):List Value:=[.int .i64 f.kind,.int .u32 f.n,.slice f.tA f.text.length f.tc,.slice f.lA f.list.length f.lc]
def FD.val (f:FD):Value:=.agg #[.int .i64 f.kind,.int .u32 f.n,.slice f.tA f.text.length f.tc,.slice f.lA f.list.length f.lc]
structure FD.ok (w : World) (f : FD) : Prop where
  text : RdG (.int .u8) w f.tA f.text
  list : RdS w f.lA f.list
  tle : f.text.length ≤ f.tc
  tmax : f.tc ≤ maxLen
  lle : f.list.length ≤ f.lc
  lmax : f.lc ≤ maxLen
  strs : ∀ s ∈ f.list, s.size ≤ maxLen
theorem FD.ok.only {w w':World} {f:FD} (h:f.ok w) (hb:Only [] w w'):f.ok w':={ h with text:=h.text.only hb,list:=h.list.only hb }
def BT (l:List ByteArray):Int:=if 64<l.length then 6 else if l.all BN then 0 else 4
theorem bad1_any (s:ByteArray) (w:World) (hs:s.size≤maxLen):Calls Tryz.prog 145 #[.string s] w fun e w'=>e = .returned (.bool (!BN s))∧w=w':=by
 have h:=named_any s w hs;obtain⟨N,hN⟩: ∃N,N=BN s:=⟨_,rfl⟩;rw[←hN] at h⊢;clear hN;go_enter Tryz.func145,Tryz.ntmps145
 go_wp2_with fail
 go_call h as e w' ⟨rfl,rfl⟩
 clear h;go_wp2
 go_ret
 exact⟨rfl,rfl⟩
def FirstBad (l:List ByteArray) (e:Ending):Prop:=(l.all BN=true∧e = .returned (.int .i64 (-1)))∨(l.all BN=false∧∃k:Nat,k<l.length∧e = .returned (.int .i64 k))
theorem YH (A:Option Addr) (l:List ByteArray) (cap:Nat) (w:World) (h:RdS w A l) (hl:l.length≤maxLen) (hs: ∀s∈l,s.size≤maxLen) :
  Calls Tryz.prog 155 #[.slice A l.length cap,.func (.func 145) #[] #[]] w fun e w'=>FirstBad l e∧w=w':=by
 unfold maxLen at hl;obtain⟨n,hn⟩: ∃n,n=l.length:=⟨_,rfl⟩;rw[←hn] at hl⊢;have HN:=AB hn;replace hs:=AB hs;clear hn;go_enter Tryz.func155,Tryz.ntmps155
 go_wp2
 go_loop [8] (fun i=>∃k:Nat,k≤n∧i = .int .i64 k∧Hid ((l.take k).all BN=true)) (fun i=>n-(intOf i).toNat)
 case atStart=>exact⟨0,by omega,rfl,AB rfl⟩
 case round=>
  obtain⟨k,hk,rfl,hg⟩:=hrel;by_cases hlt:k<n
  ·obtain⟨b,off,s,rfl,hb,hx,hc⟩:=h.at k (by rw[←HN.out];exact hlt);have hts:=AB (DA hx);have hmem:s∈l:=List.mem_of_getElem? hx;have K:=bad1_any s w (hs.out s hmem);have hfin:BN s=false→l.all BN=false:=fun hb=>by
    rw[Bool.eq_false_iff];intro h;rw[List.all_eq_true.1 h s hmem] at hb;cases hb
   replace hfin:=AB hfin;clear hx hmem;by_cases ho:BN s=true
   ·rw[ho] at K;have ho:=AB ho;clear hfin;go_wp2_with fail
    go_call K as e w' ⟨rfl,rfl⟩
    clear K;go_wp2
    go_round
    case rel=>exact⟨k+1,by omega,by go_num,AB (by rw[hts.out,List.all_append,hg.out];simp[ho.out])⟩
    case measure=>simp[intOf];omega
   ·have ho:BN s=false:=by simpa using ho
    rw[ho] at K;have hf:=AB (hfin.out ho);clear hfin ho;go_wp2_with fail
    go_call K as e w' ⟨rfl,rfl⟩
    clear K;go_wp2
    go_ret
    exact⟨.inr ⟨hf.out,k,by rw[←HN.out];exact hlt,rfl⟩,rfl⟩
  ·obtain rfl:k=n:=by omega
   have hf:l.all BN=true:=by have:=hg.out;rw[List.take_of_length_le (by rw[←HN.out];exact Nat.le_refl _)] at this;exact this
   replace hf:=AB hf;clear hg;go_wp2
   go_ret
   exact⟨.inl ⟨hf.out,rfl⟩,rfl⟩
theorem SH (A:Option Addr) (l:List ByteArray) (cap:Nat) (w:World) (h:RdS w A l) (hl:l.length≤maxLen) (hs: ∀s∈l,s.size≤maxLen) :
  Calls Tryz.prog 144 #[.slice A l.length cap,.func (.func 145) #[] #[]] w fun e w'=>e = .returned (.bool (!l.all BN))∧w=w':=by
 have K:=YH A l cap w h hl hs;obtain⟨B,hB⟩: ∃B,B=l.all BN:=⟨_,rfl⟩;have K2:Calls Tryz.prog 155 #[.slice A l.length cap,.func (.func 145) #[] #[]] w fun e w'=>∃i:Int,e = .returned (.int .i64 i)∧(0≤i↔B=false)∧w=w':=by
  refine K.mono fun e w' ⟨hf,hw⟩=>?_;rcases hf with⟨h1,h2⟩|⟨h1,k,_,h2⟩;·exact⟨-1,h2,by rw[hB,h1];simp,hw⟩
  ·exact⟨k,h2,by rw[hB,h1];simp,hw⟩
 rw[←hB];clear K hB;go_enter Tryz.func144,Tryz.ntmps144
 go_wp2_with fail
 go_call K2 as e w' ⟨i,rfl,hi,rfl⟩
 clear K2;cases B with
 |true=>
  have h0: ¬(0≤i):=fun h=>by have:=hi.1 h;cases this
  clear hi;go_wp2
  go_ret
  exact⟨GW (by simp;omega),rfl⟩
 |false=>
  have h0:0≤i:=hi.2 rfl;clear hi;go_wp2
  go_ret
  exact⟨rfl,rfl⟩
theorem MA (f:FD) (w:World) (h:f.ok w):Calls Tryz.prog 123 #[f.val] w fun e w'=>e = .returned (.int .i64 (BT f.list))∧Only [] w w':=by
 obtain⟨kind,n,tA,tc,text,lA,lc,list⟩:=f;have hmax:list.length≤9223372036854775807:=by have:=h.lle;have:=h.lmax;unfold maxLen at *;dsimp at *;omega
 unfold FD.val;dsimp only;by_cases h64:64<list.length
 ·have e:BT list=6:=by unfold BT;rw[if_pos h64]
  rw[e];clear e;obtain⟨N,hN⟩: ∃N,N=list.length:=⟨_,rfl⟩;rw[←hN] at h64 hmax⊢;clear hN h;go_enter Tryz.func123,Tryz.ntmps123
  go_wp2
  go_ret
  exact⟨rfl,(Only.refl _ _).alloc _⟩
 ·have K:=SH lA list lc (w.alloc (.cells #[.int .i64 kind,.int .u32 n,.slice tA text.length tc,.slice lA list.length lc] 123)) (h.list.only ((Only.refl _ _).alloc _)) (by unfold maxLen;omega) h.strs;have e:BT list=if list.all BN then 0 else 4:=by unfold BT;rw[if_neg h64]
  rw[e];clear e;cases hB:list.all BN with
  |true=>
   rw[hB] at K;replace hB:=AB hB;go_enter Tryz.func123,Tryz.ntmps123
   go_wp2_with fail
   go_call K as e w' ⟨rfl,rfl⟩
   clear K;go_wp2
   go_ret
   exact⟨rfl,(Only.refl _ _).alloc _⟩
  |false=>
   rw[hB] at K;replace hB:=AB hB;go_enter Tryz.func123,Tryz.ntmps123
   go_wp2_with fail
   go_call K as e w' ⟨rfl,rfl⟩
   clear K;go_wp2
   go_ret
   exact⟨rfl,(Only.refl _ _).alloc _⟩
section
variable (f : FD) (w : World)
theorem UD:Calls Tryz.prog 112 #[f.val] w fun e w'=>e = .returned (.int .i64 (GM f.n 255 5))∧Only [] w w':=by
 obtain⟨kind,n,tA,tc,text,lA,lc,list⟩:=f;unfold FD.val;go_enter Tryz.func112,Tryz.ntmps112
 go_wp2_with fail
 go_call (VL n 255 _) as e w' ⟨rfl,rfl⟩
 go_wp2
 go_ret
 exact⟨rfl,(Only.refl _ _).alloc _⟩
theorem VS:Calls Tryz.prog 115 #[f.val] w fun e w'=>e = .returned (.int .i64 (GM f.n 1 5))∧Only [] w w':=by
 obtain⟨kind,n,tA,tc,text,lA,lc,list⟩:=f;unfold FD.val;go_enter Tryz.func115,Tryz.ntmps115
 go_wp2_with fail
 go_call (VL n 1 _) as e w' ⟨rfl,rfl⟩
 go_wp2
 go_ret
 exact⟨rfl,(Only.refl _ _).alloc _⟩
theorem bD:Calls Tryz.prog 117 #[f.val] w fun e w'=>e = .returned (.int .i64 0)∧Only [] w w':=by
 obtain⟨kind,n,tA,tc,text,lA,lc,list⟩:=f;unfold FD.val;go_enter Tryz.func117,Tryz.ntmps117
 go_wp2
 go_ret
 exact⟨rfl,(Only.refl _ _).alloc _⟩
theorem WE (h:f.ok w):Calls Tryz.prog 120 #[f.val] w fun e w'=>e = .returned (.int .i64 (GM f.text.length 32768 6))∧Only [] w w':=by
 obtain⟨kind,n,tA,tc,text,lA,lc,list⟩:=f;have hmax:text.length≤9223372036854775807:=by have:=h.tle;have:=h.tmax;unfold maxLen at *;dsimp at *;omega
 unfold FD.val;dsimp only;obtain⟨N,hN⟩: ∃N,N=text.length:=⟨_,rfl⟩;rw[←hN] at hmax⊢;clear hN h;go_enter Tryz.func120,Tryz.ntmps120
 go_wp2_with fail
 go_call (bV N 32768 _) as e w' ⟨rfl,rfl⟩
 go_wp2
 go_ret
 exact⟨rfl,(Only.refl _ _).alloc _⟩
theorem NH (h:f.ok w):Calls Tryz.prog 126 #[f.val] w fun e w'=>e = .returned (.int .i64 (GM f.text.length 33792 6))∧Only [] w w':=by
 obtain⟨kind,n,tA,tc,text,lA,lc,list⟩:=f;have hmax:text.length≤9223372036854775807:=by have:=h.tle;have:=h.tmax;unfold maxLen at *;dsimp at *;omega
 unfold FD.val;dsimp only;obtain⟨N,hN⟩: ∃N,N=text.length:=⟨_,rfl⟩;rw[←hN] at hmax⊢;clear hN h;go_enter Tryz.func126,Tryz.ntmps126
 go_wp2_with fail
 go_call (bV N 33792 _) as e w' ⟨rfl,rfl⟩
 go_wp2
 go_ret
 exact⟨rfl,(Only.refl _ _).alloc _⟩
end
end Go.Proofs.YtdplnedpbkpgpaaGreatDoor
namespace Go.Proofs.YtdplnedpbkpgpaaGreatDoor
open Go.RowKit
theorem AS {L:List Nat} {w w':World} (h:Only L w w') {b o:Nat} {v:Value} (hb:b<w.heap.size) (hn:b∉L) (hc:w.cell? ⟨b,o,none⟩=some v):w'.cell? ⟨b,o,none⟩=some v:=(World.cell?_of_block (w:=w) (h.block b hb hn)).trans hc
theorem MO {L:List Nat} {w w':World} (h:Only L w w') {b o:Nat} {v:Bool} (hb:b<w.heap.size) (hn:b∉L) (hc:w.frozen? ⟨b,o,none⟩=v):w'.frozen? ⟨b,o,none⟩=v:=(World.frozen?_of_block (w:=w) (h.block b hb hn)).trans hc
theorem DW.low {w:World} {base:Nat} {v:Value} {l:List Int} (h:DW w base v l): ∀x,x<base→x∉v.ownBlock.toList:=fun x hx hm=>by
 have:=h.block x (by simpa using hm);omega
theorem DW.high {w:World} {base:Nat} {v:Value} {l:List Int} (h:DW w base v l): ∀x,w.heap.size≤x→x∉v.ownBlock.toList:=fun x hx hm=>by
 have:=h.block x (by simpa using hm);omega
structure WrV (w : World) (g base : Nat) (v : Value) (l : List Int) : Prop where
  blk : Blk w g 162 [v]
  own : DW w base v l
  low : g < base
  top : base ≤ w.heap.size
theorem WrV.only {w w':World} {g base:Nat} {v:Value} {l:List Int} {L:List Nat} (h:WrV w g base v l) (hb:Only L w w') (h1:g∉L) (h2: ∀x∈L,some x≠v.ownBlock):WrV w' g base v l:=
 ⟨h.blk.only hb h1,h.own.far hb h2,h.low,Nat.le_trans h.top hb.size⟩
def JQ (w w':World) (g:Nat) (v v':Value):Prop:=Only (g::v.ownBlock.toList) w w'∧(v'.ownBlock=v.ownBlock∨∀x,v'.ownBlock=some x→w.heap.size≤x)
theorem JQ.trans {w w1 w2:World} {g:Nat} {v v1 v2:Value} (h:JQ w w1 g v v1) (k:JQ w1 w2 g v1 v2):JQ w w2 g v v2:=by
 refine⟨h.1.trans k.1 (fun x hx=>?_),?_⟩
 ·rcases List.mem_cons.1 hx with rfl|hx;·exact .inl (List.mem_cons_self)
  ·rcases h.2 with e|e;·rw[e] at hx;exact .inl (List.mem_cons_of_mem _ hx)
   ·exact .inr (e x (by simpa using hx))
 ·rcases k.2 with e|e
  ·rcases h.2 with e1|e1;·exact .inl (e.trans e1)
   ·exact .inr (fun x hx=>e1 x (by rw[←e];exact hx))
  ·exact .inr (fun x hx=>Nat.le_trans h.1.size (e x hx))
theorem JQ.from {w w0 w1:World} {g:Nat} {v v1:Value} (h:JQ w0 w1 g v v1) (k:Only [] w w0):JQ w w1 g v v1:=
 ⟨(k.mono (by simp)).trans h.1 (fun x hx=>.inl hx),h.2.imp id (fun hh x hx=>Nat.le_trans k.size (hh x hx))⟩
def HA (n:Int):List Int:=[n/16777216 % 256,n/65536 % 256,n/256 % 256,n % 256]
theorem rd_lit (w:World) (cs:Array Value) (l:List Int) (h:cs=(u8s l).toArray):Rd (w.alloc (.cells cs 5)) (some ⟨w.heap.size,0,none⟩) l:=fun _=>⟨w.heap.size,0,rfl,by simp,fun i v hi=>by
 rw[h,World.cell?_alloc_mark];simp[u8s,hi]⟩
def TB (w:World) (g base:Nat) (v:Value) (l:List Int) (e:Ending) (w':World):Prop:=e = .returned (.tuple #[])∧∃v',WrV w' g base v' l∧JQ w w' g v v'
theorem wr_put {w w2 w9:World} {g base n k9:Nat} {A9:Option Addr} {v:Value} {c c1:List Int} (R:WrV w g base v c) (Q:Only [] w w2) (P:Only v.ownBlock.toList w2 w9)
  (V9:DW w9 base (.slice A9 n k9) c1) (G:KX v (.slice A9 n k9) w2.heap.size) :
  WrV (w9.setCell ⟨g,0,none⟩ (.slice A9 n k9)) g base (.slice A9 n k9) c1∧JQ w (w9.setCell ⟨g,0,none⟩ (.slice A9 n k9)) g v (.slice A9 n k9):=by
 have hlow:=R.low;have K9:=(R.blk.only Q (by simp)).only P ((R.own.only Q (by simp)).low g hlow);refine⟨⟨?_,?_,hlow,?_⟩,?_,?_⟩
 ·have:=K9.set_ 0 (.slice A9 n k9);simpa using this
 ·refine V9.far ((Only.refl [g] w9).setCell (p:=⟨g,0,none⟩) (.inl (by simp)) _) (fun x hx hv=>?_);simp at hx;have:=V9.block x hv.symm;omega
 ·have:=R.top;have:=Q.size;have:=P.size;simp[World.setCell];omega
 ·have P':Only (g::v.ownBlock.toList) w w9:=(Q.mono (by simp)).trans P (fun x hx=>.inl (List.mem_cons_of_mem _ hx));exact P'.setCell (p:=⟨g,0,none⟩) (.inl (by simp)) _
 ·rcases G with G|G;·exact .inl G
  ·right;intro x hx;rw[G] at hx;injection hx with hx;have:=Q.size;omega
/-! The walks -/
theorem VJ (f:FD) (g base:Nat) (v:Value) (l:List Int) (w:World) (h:WrV w g base v l) (hn:0≤f.n∧f.n≤4294967295) (hl:l.length≤140737488355000) :
  Calls Tryz.prog 113 #[.pointer (some ⟨g,0,none⟩),f.val] w (TB w g base v (l++[f.n % 256])):=by
 obtain⟨kind,n,tA,tc,text,lA,lc,list⟩:=f;unfold FD.val;dsimp only at *;obtain⟨w1,hw1⟩: ∃w1,w1=w.alloc (.cells #[.int .i64 kind,.int .u32 n,.slice tA text.length tc,.slice lA list.length lc] 123):=⟨_,rfl⟩;have P1:Only [] w w1:=by rw[hw1];exact(Only.refl _ _).alloc _
 have R:=h.only P1 (by simp) (by simp);have K:Blk w1 w.heap.size 123 [.int .i64 kind,.int .u32 n,.slice tA text.length tc,.slice lA list.length lc]:=by rw[hw1];exact Blk.new w _ _
 have c1:w1.cell? ⟨w.heap.size,1,none⟩=some (.int .u32 n):=K.cell 1;have c2:w1.cell? ⟨w.heap.size,2,none⟩=some (.slice tA text.length tc):=K.cell 2;have c0:=R.blk.cell 0;have f0:=R.blk.frozen 0;have hgl:=R.blk.lt;have hpl:=K.lt;have hlow:=R.low;have htop:=R.top;obtain⟨A9,k9,rfl,_,q9,m9,_⟩:=h.own.rd;have c0:w1.cell? ⟨g,0,none⟩=some (.slice A9 l.length k9):=c0;go_enter Tryz.func113,Tryz.ntmps113
 go_wp2_with fail
 rw[←hw1];have NP:w.heap.size∉(Value.slice A9 l.length k9).ownBlock.toList:=h.own.high _ (Nat.le_refl _);have NG:g∉(Value.slice A9 l.length k9).ownBlock.toList:=h.own.low _ hlow;have hV: ∀w2,Only [] w1 w2→DW w2 base (.slice A9 l.length k9) l∧base≤w2.heap.size:=fun w2 P=>⟨R.own.only P (by simp),by have:=P.size;omega⟩;replace hV:=AB hV;replace hw1:=AB hw1;have cG: ∀w2 w9,Only [] w1 w2→Only (Value.slice A9 l.length k9).ownBlock.toList w2 w9→w9.cell? ⟨g,0,none⟩=some (.slice A9 l.length k9)∧w9.frozen? ⟨g,0,none⟩=false:=fun w2 w9 P Q=>
  ⟨AS Q (by have:=P.size;omega) NG (AS P hgl (by simp) c0),MO Q (by have:=P.size;omega) NG (MO P hgl (by simp) f0)⟩
 replace cG:=AB cG;have hI:(fun w':World=>w'.cell? ⟨g,0,none⟩=some (.slice A9 l.length k9)∧w'.cell? ⟨w.heap.size,1,none⟩=some (.int .u32 n)) { w1 with drawn:=w1.drawn+1 }:=⟨c0,c1⟩;refine AV (fun w':World=>w'.cell? ⟨g,0,none⟩=some (.slice A9 l.length k9)∧w'.cell? ⟨w.heap.size,1,none⟩=some (.int .u32 n)) [10,11,12] (by kernel_rfl) ?_;refine wpAnyE_tk 0 (v:=(.pointer (some ⟨g,0,none⟩))) rfl hI (fun w' hw'=>by obtain⟨i0,i1⟩:=hw';go_simp) ?_;refine wpAnyE_tk 1 (v:=(.pointer (some ⟨g,0,none⟩))) rfl hI (fun w' hw'=>by obtain⟨i0,i1⟩:=hw';go_simp) ?_;refine wpAnyE_tk 2 (v:=(.pointer (some ⟨g,0,none⟩))) rfl hI (fun w' hw'=>by obtain⟨i0,i1⟩:=hw';go_simp) ?_;refine wpAnyE_tk 3 (v:=(.pointer (some ⟨g,0,none⟩))) rfl hI (fun w' hw'=>by obtain⟨i0,i1⟩:=hw';go_simp) ?_;refine wpAnyE_tk 4 (v:=(.slice A9 l.length k9)) rfl hI (fun w' hw'=>by obtain⟨i0,i1⟩:=hw';go_simp) ?_;refine wpAnyE_tk 5 (v:=(.pointer (some ⟨w.heap.size,1,none⟩))) rfl hI (fun w' hw'=>by obtain⟨i0,i1⟩:=hw';go_simp) ?_;refine wpAnyE_tk 6 (v:=(.int .u32 n)) rfl hI (fun w' hw'=>by obtain⟨i0,i1⟩:=hw';go_simp) ?_;refine wpAnyE_tk 7 (v:=(.int .u8 (IntKind.u8.wrap n))) rfl hI (fun w' hw'=>by obtain⟨i0,i1⟩:=hw';go_simp) ?_;refine GL 8 [8,9] [10,11,12] rfl (by kernel_rfl) (by decide) hI ?_;simp only[List.drop_succ_cons,List.drop_zero];refine GZ (fun K hK=>?_);go_simp
 refine hK _ _ ⟨by go_simp,by go_simp⟩ ?_;clear hK K;refine GZ (fun K hK=>?_);refine QT (by rfl) _ _ (by rfl) base (.slice A9 l.length k9) l (by rfl) (hV.out _ (by repeat (first|exact Only.refl _ _|apply Only.alloc|apply Only.drew))).1 (some ⟨w1.heap.size,0,none⟩) 1 [n % 256] 1 rfl (by rfl) (rd_one _ _) (by simp;omega) (hV.out _ (by repeat (first|exact Only.refl _ _|apply Only.alloc|apply Only.drew))).2 ?_;intro g9 k9' w9 V9 P9 G9;obtain⟨cc,ff⟩:=cG.out _ w9 (by repeat (first|exact Only.refl _ _|apply Only.alloc|apply Only.drew)) P9;have cn:=AS P9 (b:=w.heap.size) (o:=1) (v:=(.int .u32 n)) (by simp;omega) NP (by go_simp);refine hK _ _ ⟨cc,cn⟩ ?_;clear hK K;refine FO ?_;go_wp2
 go_end0
 obtain⟨r1,r2⟩:=wr_put R (by repeat (first|exact Only.refl _ _|apply Only.alloc|apply Only.drew)) P9 V9.out G9.out;exact⟨rfl,_,r1,r2.from P1⟩
theorem RZ (f:FD) (g base:Nat) (v:Value) (l:List Int) (w:World) (h:WrV w g base v l) (hn:0≤f.n∧f.n≤4294967295) (hl:l.length≤140737488355000) :
  Calls Tryz.prog 118 #[.pointer (some ⟨g,0,none⟩),f.val] w (TB w g base v (l++HA f.n)):=by
 obtain⟨kind,n,tA,tc,text,lA,lc,list⟩:=f;unfold FD.val;dsimp only at *;obtain⟨w1,hw1⟩: ∃w1,w1=w.alloc (.cells #[.int .i64 kind,.int .u32 n,.slice tA text.length tc,.slice lA list.length lc] 123):=⟨_,rfl⟩;have P1:Only [] w w1:=by rw[hw1];exact(Only.refl _ _).alloc _
 have R:=h.only P1 (by simp) (by simp);have K:Blk w1 w.heap.size 123 [.int .i64 kind,.int .u32 n,.slice tA text.length tc,.slice lA list.length lc]:=by rw[hw1];exact Blk.new w _ _
 have c1:w1.cell? ⟨w.heap.size,1,none⟩=some (.int .u32 n):=K.cell 1;have c2:w1.cell? ⟨w.heap.size,2,none⟩=some (.slice tA text.length tc):=K.cell 2;have c0:=R.blk.cell 0;have f0:=R.blk.frozen 0;have hgl:=R.blk.lt;have hpl:=K.lt;have hlow:=R.low;have htop:=R.top;obtain⟨A9,k9,rfl,_,q9,m9,_⟩:=h.own.rd;have c0:w1.cell? ⟨g,0,none⟩=some (.slice A9 l.length k9):=c0;go_enter Tryz.func118,Tryz.ntmps118
 go_wp2_with fail
 rw[←hw1];have NP:w.heap.size∉(Value.slice A9 l.length k9).ownBlock.toList:=h.own.high _ (Nat.le_refl _);have NG:g∉(Value.slice A9 l.length k9).ownBlock.toList:=h.own.low _ hlow;have hV: ∀w2,Only [] w1 w2→DW w2 base (.slice A9 l.length k9) l∧base≤w2.heap.size:=fun w2 P=>⟨R.own.only P (by simp),by have:=P.size;omega⟩;replace hV:=AB hV;replace hw1:=AB hw1;have cG: ∀w2 w9,Only [] w1 w2→Only (Value.slice A9 l.length k9).ownBlock.toList w2 w9→w9.cell? ⟨g,0,none⟩=some (.slice A9 l.length k9)∧w9.frozen? ⟨g,0,none⟩=false:=fun w2 w9 P Q=>
  ⟨AS Q (by have:=P.size;omega) NG (AS P hgl (by simp) c0),MO Q (by have:=P.size;omega) NG (MO P hgl (by simp) f0)⟩
 replace cG:=AB cG;have hI:(fun w':World=>w'.cell? ⟨g,0,none⟩=some (.slice A9 l.length k9)∧w'.cell? ⟨w.heap.size,1,none⟩=some (.int .u32 n)) { w1 with drawn:=w1.drawn+1 }:=⟨c0,c1⟩;refine AV (fun w':World=>w'.cell? ⟨g,0,none⟩=some (.slice A9 l.length k9)∧w'.cell? ⟨w.heap.size,1,none⟩=some (.int .u32 n)) [22,23,24] (by kernel_rfl) ?_;refine wpAnyE_tk 0 (v:=(.pointer (some ⟨g,0,none⟩))) rfl hI (fun w' hw'=>by obtain⟨i0,i1⟩:=hw';go_simp) ?_;refine wpAnyE_tk 1 (v:=(.pointer (some ⟨g,0,none⟩))) rfl hI (fun w' hw'=>by obtain⟨i0,i1⟩:=hw';go_simp) ?_;refine wpAnyE_tk 2 (v:=(.pointer (some ⟨g,0,none⟩))) rfl hI (fun w' hw'=>by obtain⟨i0,i1⟩:=hw';go_simp) ?_;refine wpAnyE_tk 3 (v:=(.pointer (some ⟨g,0,none⟩))) rfl hI (fun w' hw'=>by obtain⟨i0,i1⟩:=hw';go_simp) ?_;refine wpAnyE_tk 4 (v:=(.slice A9 l.length k9)) rfl hI (fun w' hw'=>by obtain⟨i0,i1⟩:=hw';go_simp) ?_;refine wpAnyE_tk 5 (v:=(.pointer (some ⟨w.heap.size,1,none⟩))) rfl hI (fun w' hw'=>by obtain⟨i0,i1⟩:=hw';go_simp) ?_;refine wpAnyE_tk 6 (v:=(.int .u32 n)) rfl hI (fun w' hw'=>by obtain⟨i0,i1⟩:=hw';go_simp) ?_;refine wpAnyE_tk 7 (v:=(.int .u32 (n/16777216))) rfl hI (fun w' hw'=>by obtain⟨i0,i1⟩:=hw';go_simp) ?_;refine wpAnyE_tk 8 (v:=(.int .u8 (IntKind.u8.wrap (n/16777216)))) rfl hI (fun w' hw'=>by obtain⟨i0,i1⟩:=hw';go_simp) ?_;refine wpAnyE_tk 9 (v:=(.pointer (some ⟨w.heap.size,1,none⟩))) rfl hI (fun w' hw'=>by obtain⟨i0,i1⟩:=hw';go_simp) ?_;refine wpAnyE_tk 10 (v:=(.int .u32 n)) rfl hI (fun w' hw'=>by obtain⟨i0,i1⟩:=hw';go_simp) ?_;refine wpAnyE_tk 11 (v:=(.int .u32 (n/65536))) rfl hI (fun w' hw'=>by obtain⟨i0,i1⟩:=hw';go_simp) ?_;refine wpAnyE_tk 12 (v:=(.int .u8 (IntKind.u8.wrap (n/65536)))) rfl hI (fun w' hw'=>by obtain⟨i0,i1⟩:=hw';go_simp) ?_;refine wpAnyE_tk 13 (v:=(.pointer (some ⟨w.heap.size,1,none⟩))) rfl hI (fun w' hw'=>by obtain⟨i0,i1⟩:=hw';go_simp) ?_;refine wpAnyE_tk 14 (v:=(.int .u32 n)) rfl hI (fun w' hw'=>by obtain⟨i0,i1⟩:=hw';go_simp) ?_;refine wpAnyE_tk 15 (v:=(.int .u32 (n/256))) rfl hI (fun w' hw'=>by obtain⟨i0,i1⟩:=hw';go_simp) ?_;refine wpAnyE_tk 16 (v:=(.int .u8 (IntKind.u8.wrap (n/256)))) rfl hI (fun w' hw'=>by obtain⟨i0,i1⟩:=hw';go_simp) ?_;refine wpAnyE_tk 17 (v:=(.pointer (some ⟨w.heap.size,1,none⟩))) rfl hI (fun w' hw'=>by obtain⟨i0,i1⟩:=hw';go_simp) ?_;refine wpAnyE_tk 18 (v:=(.int .u32 n)) rfl hI (fun w' hw'=>by obtain⟨i0,i1⟩:=hw';go_simp) ?_;refine wpAnyE_tk 19 (v:=(.int .u8 (IntKind.u8.wrap n))) rfl hI (fun w' hw'=>by obtain⟨i0,i1⟩:=hw';go_simp) ?_;refine GL 20 [20,21] [22,23,24] rfl (by kernel_rfl) (by decide) hI ?_;simp only[List.drop_succ_cons,List.drop_zero];refine GZ (fun K hK=>?_);go_simp
 refine hK _ _ ⟨by go_simp,by go_simp⟩ ?_;clear hK K;refine GZ (fun K hK=>?_);refine QT (by rfl) _ _ (by rfl) base (.slice A9 l.length k9) l (by rfl) (hV.out _ (by repeat (first|exact Only.refl _ _|apply Only.alloc|apply Only.drew))).1 (some ⟨w1.heap.size,0,none⟩) 4 (HA n) 4 rfl (by rfl) (rd_lit _ _ _ (by simp[u8s,HA,IntKind.wrap_u8])) (by show l.length+4≤_;omega) (hV.out _ (by repeat (first|exact Only.refl _ _|apply Only.alloc|apply Only.drew))).2 ?_;intro g9 k9' w9 V9 P9 G9;obtain⟨cc,ff⟩:=cG.out _ w9 (by repeat (first|exact Only.refl _ _|apply Only.alloc|apply Only.drew)) P9;have cn:=AS P9 (b:=w.heap.size) (o:=1) (v:=(.int .u32 n)) (by simp;omega) NP (by go_simp);refine hK _ _ ⟨cc,cn⟩ ?_;clear hK K;refine FO ?_;go_wp2
 go_end0
 obtain⟨r1,r2⟩:=wr_put R (by repeat (first|exact Only.refl _ _|apply Only.alloc|apply Only.drew)) P9 V9.out G9.out;exact⟨rfl,_,r1,r2.from P1⟩
theorem XU (f:FD) (g base:Nat) (v:Value) (l:List Int) (w:World) (h:WrV w g base v l) (hf:f.ok w) (hl:l.length+f.text.length≤140737488355000) :
  Calls Tryz.prog 127 #[.pointer (some ⟨g,0,none⟩),f.val] w (TB w g base v (l++f.text)):=by
 obtain⟨kind,n,tA,tc,text,lA,lc,list⟩:=f;unfold FD.val;dsimp only at *;obtain⟨w1,hw1⟩: ∃w1,w1=w.alloc (.cells #[.int .i64 kind,.int .u32 n,.slice tA text.length tc,.slice lA list.length lc] 123):=⟨_,rfl⟩;have hT:=hf.text;dsimp only at hT;have P1:Only [] w w1:=by rw[hw1];exact(Only.refl _ _).alloc _
 have R:=h.only P1 (by simp) (by simp);have K:Blk w1 w.heap.size 123 [.int .i64 kind,.int .u32 n,.slice tA text.length tc,.slice lA list.length lc]:=by rw[hw1];exact Blk.new w _ _
 have c1:w1.cell? ⟨w.heap.size,1,none⟩=some (.int .u32 n):=K.cell 1;have c2:w1.cell? ⟨w.heap.size,2,none⟩=some (.slice tA text.length tc):=K.cell 2;have c0:=R.blk.cell 0;have f0:=R.blk.frozen 0;have hgl:=R.blk.lt;have hpl:=K.lt;have hlow:=R.low;have htop:=R.top;obtain⟨A9,k9,rfl,_,q9,m9,_⟩:=h.own.rd;have c0:w1.cell? ⟨g,0,none⟩=some (.slice A9 l.length k9):=c0;go_enter Tryz.func127,Tryz.ntmps127
 go_wp2_with fail
 rw[←hw1];have NP:w.heap.size∉(Value.slice A9 l.length k9).ownBlock.toList:=h.own.high _ (Nat.le_refl _);have NG:g∉(Value.slice A9 l.length k9).ownBlock.toList:=h.own.low _ hlow;have hV: ∀w2,Only [] w1 w2→DW w2 base (.slice A9 l.length k9) l∧base≤w2.heap.size:=fun w2 P=>⟨R.own.only P (by simp),by have:=P.size;omega⟩;replace hV:=AB hV;replace hw1:=AB hw1;have cG: ∀w2 w9,Only [] w1 w2→Only (Value.slice A9 l.length k9).ownBlock.toList w2 w9→w9.cell? ⟨g,0,none⟩=some (.slice A9 l.length k9)∧w9.frozen? ⟨g,0,none⟩=false:=fun w2 w9 P Q=>
  ⟨AS Q (by have:=P.size;omega) NG (AS P hgl (by simp) c0),MO Q (by have:=P.size;omega) NG (MO P hgl (by simp) f0)⟩
 replace cG:=AB cG;have hI:(fun w':World=>w'.cell? ⟨g,0,none⟩=some (.slice A9 l.length k9)∧w'.cell? ⟨w.heap.size,2,none⟩=some (.slice tA text.length tc)) { w1 with drawn:=w1.drawn+1 }:=⟨c0,c2⟩;refine AV (fun w':World=>w'.cell? ⟨g,0,none⟩=some (.slice A9 l.length k9)∧w'.cell? ⟨w.heap.size,2,none⟩=some (.slice tA text.length tc)) [8,9,10] (by kernel_rfl) ?_;refine wpAnyE_tk 0 (v:=(.pointer (some ⟨g,0,none⟩))) rfl hI (fun w' hw'=>by obtain⟨i0,i1⟩:=hw';go_simp) ?_;refine wpAnyE_tk 1 (v:=(.pointer (some ⟨g,0,none⟩))) rfl hI (fun w' hw'=>by obtain⟨i0,i1⟩:=hw';go_simp) ?_;refine wpAnyE_tk 2 (v:=(.pointer (some ⟨g,0,none⟩))) rfl hI (fun w' hw'=>by obtain⟨i0,i1⟩:=hw';go_simp) ?_;refine wpAnyE_tk 3 (v:=(.pointer (some ⟨g,0,none⟩))) rfl hI (fun w' hw'=>by obtain⟨i0,i1⟩:=hw';go_simp) ?_;refine wpAnyE_tk 4 (v:=(.slice A9 l.length k9)) rfl hI (fun w' hw'=>by obtain⟨i0,i1⟩:=hw';go_simp) ?_;refine wpAnyE_tk 5 (v:=(.pointer (some ⟨w.heap.size,2,none⟩))) rfl hI (fun w' hw'=>by obtain⟨i0,i1⟩:=hw';go_simp) ?_;refine wpAnyE_tk 6 (v:=(.slice tA text.length tc)) rfl hI (fun w' hw'=>by obtain⟨i0,i1⟩:=hw';go_simp) ?_;refine GL 7 [7] [8,9,10] rfl (by kernel_rfl) (by decide) hI ?_;simp only[List.drop_succ_cons,List.drop_zero];refine GZ (fun K hK=>?_);refine QT (by rfl) _ _ (by rfl) base (.slice A9 l.length k9) l (by rfl) (hV.out _ (by repeat (first|exact Only.refl _ _|apply Only.alloc|apply Only.drew))).1 tA tc text text.length rfl (by rfl) (hT.only (P1.trans (w2:=_) (by repeat (first|exact Only.refl [] _|apply Only.alloc|apply Only.drew)) (by simp))) (by omega) (hV.out _ (by repeat (first|exact Only.refl _ _|apply Only.alloc|apply Only.drew))).2 ?_;intro g9 k9' w9 V9 P9 G9;obtain⟨cc,ff⟩:=cG.out _ w9 (by repeat (first|exact Only.refl _ _|apply Only.alloc|apply Only.drew)) P9;have cn:=AS P9 (b:=w.heap.size) (o:=2) (v:=(.slice tA text.length tc)) (by simp;omega) NP (by go_simp);refine hK _ _ ⟨cc,cn⟩ ?_;clear hK K;refine FO ?_;go_wp2
 go_end0
 obtain⟨r1,r2⟩:=wr_put R (by repeat (first|exact Only.refl _ _|apply Only.alloc|apply Only.drew)) P9 V9.out G9.out;exact⟨rfl,_,r1,r2.from P1⟩
end Go.Proofs.YtdplnedpbkpgpaaGreatDoor
namespace Go.Proofs.YtdplnedpbkpgpaaGreatDoor
open Go.RowKit
def numF (n:Int):FD:=⟨0,n,none,0,[],none,0,[]⟩
theorem Blk.moved {w w':World} {g q:Nat} {v v':Value} {t:TypeId} {cs:List Value} (h:Blk w q t cs) (m:JQ w w' g v v') (h1:q≠g) (h2:v.ownBlock≠some q):Blk w' q t cs:=
 h.only m.1 (by simp[h1];exact h2)
theorem RdG.moved {α:Type} {mk:α→Value} {w w':World} {g base:Nat} {v v':Value} {A:Option Addr} {l:List α} (h:RdG mk w A l) (m:JQ w w' g v v') (h1: ∀a,A=some a→0<l.length→a.block≠g∧v.ownBlock≠some a.block):RdG mk w' A l:=
 h.onlyL m.1 (fun a ha h0 hm=>by
  have:=h1 a ha h0;simp at hm;rcases hm with hm|hm;·exact this.1 hm
  ·exact this.2 hm)
def FD.far (f:FD) (g:Nat) (v:Value):Prop:=(∀a,f.tA=some a→0<f.text.length→a.block≠g∧v.ownBlock≠some a.block)∧(∀a,f.lA=some a→0<f.list.length→a.block≠g∧v.ownBlock≠some a.block)
theorem FD.ok.moved {w w':World} {g:Nat} {v v':Value} {f:FD} (h:f.ok w) (m:JQ w w' g v v') (hf:f.far g v):f.ok w':=
 { h with text:=h.text.moved (base:=0) m hf.1,list:=h.list.moved (base:=0) m hf.2 }
theorem XV (f:FD) (g base:Nat) (v:Value) (l:List Int) (w:World) (h:WrV w g base v l) (hf:f.ok w) (hfar:f.far g v) (hl:l.length+f.text.length≤140737488354000) (h32:f.text.length≤4294967295) :
  Calls Tryz.prog 121 #[.pointer (some ⟨g,0,none⟩),f.val] w (TB w g base v (l++(HA f.text.length++f.text))):=by
 obtain⟨w1,hw1⟩: ∃w1,w1=w.alloc (.cells #[.int .i64 f.kind,.int .u32 f.n,.slice f.tA f.text.length f.tc,.slice f.lA f.list.length f.lc] 123):=⟨_,rfl⟩;have P1:Only [] w w1:=by rw[hw1];exact(Only.refl _ _).alloc _
 have R:=h.only P1 (by simp) (by simp);have K:Blk w1 w.heap.size 123 [.int .i64 f.kind,.int .u32 f.n,.slice f.tA f.text.length f.tc,.slice f.lA f.list.length f.lc]:=by rw[hw1];exact Blk.new w _ _
 have hf1:=hf.only P1;have hgl:=h.blk.lt;have hN:=RZ (numF f.text.length) g base v l w1 R ⟨by simp[numF],by simp only[numF];omega⟩ (by omega);have hR: ∀v2 w2,WrV w2 g base v2 (l++HA f.text.length)→JQ w1 w2 g v v2→Blk w2 w.heap.size 123 [.int .i64 f.kind,.int .u32 f.n,.slice f.tA f.text.length f.tc,.slice f.lA f.list.length f.lc]∧
   Calls Tryz.prog 127 #[.pointer (some ⟨g,0,none⟩),f.val] w2 (fun e w'=>e = .returned (.tuple #[])∧∃v',WrV w' g base v' (l++(HA f.text.length++f.text))∧JQ w w' g v v'):=by
  intro v2 w2 R2 M2;refine⟨K.moved M2 (by omega) (fun hv=>by have:=h.own.block _ hv;omega),?_⟩;have:=XU f g base v2 (l++HA f.text.length) w2 R2 (hf1.moved M2 hfar) (by simp[HA];omega);refine this.mono fun e w' ⟨he,v',R3,M3⟩=>⟨he,v',by rw[←List.append_assoc];exact R3,(M2.trans M3).from P1⟩
 replace hR:=AB hR;unfold FD.val numF at hN;dsimp only at hN;unfold FD.val;simp only[List.length_nil] at hN;have c2:w1.cell? ⟨w.heap.size,2,none⟩=some (.slice f.tA f.text.length f.tc):=K.cell 2;have hlen:(f.text.length:Int)≤4294967295:=by omega
 have hp:w.heap.size<w1.heap.size:=K.lt;clear hf hf1 hfar K;go_enter Tryz.func121,Tryz.ntmps121
 go_wp2_with fail
 rw[←hw1];replace hw1:=AB hw1;go_wp2_with fail
 go_call hN as e w2 ⟨rfl,v2,R2,M2⟩
 clear hN c2;obtain⟨K2,hR2⟩:=hR.out v2 w2 R2 M2;have c0:=K2.cell 0;have c1:=K2.cell 1;have c2:=K2.cell 2;have c3:=K2.cell 3;unfold FD.val at hR2;replace hR2:=AB hR2;go_wp2_with fail
 go_call hR2.out as e w3 ⟨rfl,v3,R3,M3⟩
 go_wp2_with fail
 go_end0
 exact⟨rfl,v3,R3,M3⟩
end Go.Proofs.YtdplnedpbkpgpaaGreatDoor
namespace Go.Proofs.YtdplnedpbkpgpaaGreatDoor
open Go.RowKit
def EU (l:List ByteArray):List UInt8:=Lib.join (l.map (·.data.toList)) [44]
def u8i (l:List UInt8):List Int:=l.map fun c=>(c.toNat:Int)
theorem TT (l:List ByteArray) (hs: ∀s∈l,s.size≤64):(EU l).length≤l.length*65:=by
 unfold EU Lib.join;induction l with
 |nil=>simp
 |cons a r ih=>
  have ha:a.data.toList.length≤64:=by simpa using hs a List.mem_cons_self
  have hr:=ih (fun s h=>hs s (List.mem_cons_of_mem _ h));cases r with
  |nil=>simp at ha⊢;omega
  |cons b r=>
   simp only[List.map_cons,List.intercalate,List.intersperse,List.flatten_cons,List.length_append,List.length_cons] at hr⊢;simp at ha hr⊢;omega
theorem join_any (A:Option Addr) (l:List ByteArray) (cap:Nat) (w:World) (h:RdS w A l) (hc:l.length≤cap) (h64:l.length≤64) (hs: ∀s∈l,s.size≤64) :
  Calls Tryz.prog 147 #[.slice A l.length cap,.string ⟨#[44]⟩] w fun e w'=>e = .returned (.string ⟨(EU l).toArray⟩)∧Only [] w w':=by
 have hj:=TT l hs;by_cases h0:0<l.length
 ·obtain⟨b,off,rfl,hb,hcell⟩:=h h0;refine(Tryz.strings_Join b off cap l ⟨#[44]⟩ w (fun j x hx=>hcell j x hx) hb (by omega) hc ?_).mono fun e w' ⟨h1,h2⟩=>⟨h1,NC h2⟩;show(EU l).length≤_;omega
 ·obtain rfl:l=[]:=List.eq_nil_of_length_eq_zero (by omega);refine(Tryz.strings_Join_none A cap ⟨#[44]⟩ w).mono fun e w' ⟨h1,h2⟩=>⟨h1,by rw[h2];exact Only.refl _ _⟩
theorem bytesW (w:World) (e:TypeId) (S:List UInt8) :
  Only [] w (Lib.bytesWorld w e ⟨S.toArray⟩)∧RdG (.int .u8) (Lib.bytesWorld w e ⟨S.toArray⟩) (some ⟨w.heap.size,0,none⟩) (u8i S)∧(Lib.bytesWorld w e ⟨S.toArray⟩).heap.size=w.heap.size+1:=by
 refine⟨⟨rfl,rfl,rfl,?_,fun k hk _=>Lib.bytesWorld_at_old _ _ _ k hk⟩,fun _=>⟨w.heap.size,0,rfl,?_,fun i x hx=>?_⟩,Lib.bytesWorld_size _ _ _⟩;·rw[Lib.bytesWorld_size];omega
 ·rw[Lib.bytesWorld_size];omega
 ·have hi:i<S.length:=by
   have:=(List.getElem?_eq_some_iff.mp hx).1;simpa[u8i] using this
  have hx':(S[i].toNat:Int)=x:=by simpa[u8i,hi] using hx
  have h:=Lib.bytesWorld_cell w e ⟨S.toArray⟩ i (by simpa[ByteArray.size] using hi);rw[Nat.zero_add,h];simp[List.getD,hi,hx']
theorem JE (w:World) (S:List UInt8): ∃c w',(Go.Sem.run Tryz.prog (convert 9 32 (.string ⟨S.toArray⟩)) w) = .ok (.slice (some ⟨w.heap.size,0,none⟩) S.length c) w'∧S.length≤c∧(S.length≤maxLen→c≤maxLen)∧Only [] w w'∧RdG (.int .u8) w' (some ⟨w.heap.size,0,none⟩) (u8i S)∧w'.heap.size=w.heap.size+1:=by
 have h:=Lib.run_convert_string_bytes (P:=Tryz.prog) w 9 32 5 ⟨S.toArray⟩ (u:=.string) (by kernel_rfl) (by kernel_rfl) (by kernel_rfl);obtain⟨a,b,c⟩:=bytesW w 5 S;refine⟨_,_,h,?_,?_,a,b,c⟩
 ·have:=grownCap_ge w S.length 0 5;simpa[ByteArray.size] using this
 ·intro hm;have:=grownCap_le_maxLen w S.length 0 5 hm;simpa[ByteArray.size] using this
theorem eB (f:FD) (g base:Nat) (v:Value) (l:List Int) (w:World) (h:WrV w g base v l) (hf:f.ok w) (h64:f.list.length≤64) (hs: ∀s∈f.list,s.size≤64) (hl:l.length≤140737488340000) :
  Calls Tryz.prog 124 #[.pointer (some ⟨g,0,none⟩),f.val] w (TB w g base v (l++(HA (EU f.list).length++u8i (EU f.list)))):=by
 have hj:=TT f.list hs;obtain⟨w1,hw1⟩: ∃w1,w1=w.alloc (.cells #[.int .i64 f.kind,.int .u32 f.n,.slice f.tA f.text.length f.tc,.slice f.lA f.list.length f.lc] 123):=⟨_,rfl⟩;have P1:Only [] w w1:=by rw[hw1];exact(Only.refl _ _).alloc _
 have K:Blk w1 w.heap.size 123 [.int .i64 f.kind,.int .u32 f.n,.slice f.tA f.text.length f.tc,.slice f.lA f.list.length f.lc]:=by rw[hw1];exact Blk.new w _ _
 have c3:w1.cell? ⟨w.heap.size,3,none⟩=some (.slice f.lA f.list.length f.lc):=K.cell 3;have J:=join_any f.lA f.list f.lc w1 (hf.list.only P1) hf.lle h64 hs;obtain⟨S,hS⟩: ∃S,S=EU f.list:=⟨_,rfl⟩;rw[←hS] at J hj⊢;have hSl:S.length≤4160:=by omega
 replace hS:=AB hS;unfold FD.val;go_enter Tryz.func124,Tryz.ntmps124
 go_wp2_with fail
 rw[←hw1];replace hw1:=AB hw1;go_wp2_with fail
 go_call J as e w2 ⟨rfl,P2⟩
 clear J c3 K;obtain⟨cc,w3,hcv,hcc,hcm,P3,RS,hs3⟩:=JE w2 S;have P13:Only [] w w3:=(P1.trans P2 (by simp)).trans P3 (by simp);have R3:=h.only P13 (by simp) (by simp);have hb2:w2.heap.size≥w1.heap.size:=P2.size;have hb1:w1.heap.size≥w.heap.size:=P1.size;have hgl:=h.blk.lt;have hSm:S.length≤maxLen:=by unfold maxLen;omega
 have hu:(u8i S).length=S.length:=by simp[u8i]
 have T:=XV ⟨0,0,some ⟨w2.heap.size,0,none⟩,cc,u8i S,none,0,[]⟩ g base v l w3 R3
  ⟨RS,RdG.nil,by simp only[hu];exact hcc,hcm hSm,by simp,by simp,by simp⟩
  ⟨fun a ha _=>by injection ha with ha;subst ha;exact⟨by simp only;omega,fun hv=>by have:=h.own.block _ hv;simp only at this;omega⟩,fun a ha=>by cases ha⟩
  (by simp only[hu];omega) (by simp only[hu];omega)
 unfold FD.val at T;simp only[hu,List.length_nil] at T;go_wp2_with fail
 go_call T as e w4 ⟨rfl,v4,R4,M4⟩
 go_wp2_with fail
 go_end0
 exact⟨rfl,v4,R4,M4.from P13⟩
end Go.Proofs.YtdplnedpbkpgpaaGreatDoor
namespace Go.Proofs.YtdplnedpbkpgpaaGreatDoor
open Go.RowKit
theorem UA (w:World) (n c:Nat):(binOp .eql 32 (.slice none n c) (.slice none 0 0)).run Tryz.prog w = .ok (.bool true) w:=Lib.run_eql_slice_nil (P:=Tryz.prog) w 32 5 none n c 0 0 (by kernel_rfl)
theorem UB (w:World) (a:Addr) (n c:Nat):(binOp .eql 32 (.slice (some a) n c) (.slice none 0 0)).run Tryz.prog w = .ok (.bool false) w:=Lib.run_eql_slice_nil (P:=Tryz.prog) w 32 5 (some a) n c 0 0 (by kernel_rfl)
structure Bs (w : World) (B : Nat) (A : Option Addr) (l : List Int) (c : Nat) : Prop where
  rd : Rd w A l
  le : l.length ≤ c
  max : c ≤ maxLen
  new : ∀ a, A = some a → B ≤ a.block
  soft : ∀ a, A = some a → ∀ i, i < l.length → w.frozen? (a.add i) = false
theorem DW.soft {w:World} {base:Nat} {A:Option Addr} {n cap:Nat} {l:List Int} (h:DW w base (.slice A n cap) l): ∀a,A=some a→∀i,i<l.length→w.frozen? (a.add i)=false:=by
 intro a ha i hi;rcases h.2 with⟨e,hn⟩|⟨g,cap',cur,e,hg,hh,r⟩;·omega
 ·injection e with e1;rw[ha] at e1;injection e1 with e1;subst e1;rw[Addr.add_lit];exact frozen_of_row w g _ _ _ hh
theorem PZ (w:World) (A:Option Addr) (l:List Int) (c:Nat) (h:Rd w A l) (hl:l.length≤140737488355000) :
  Calls Tryz.prog 143 #[.slice A l.length c] w fun e w'=>Only [] w w'∧∃A' c',e = .returned (.slice A' l.length c')∧Bs w' w.heap.size A' l c':=by
 cases A with
 |none=>
  have h0:l.length=0:=by
   rcases Nat.eq_zero_or_pos l.length with h0|h0;·exact h0
   ·obtain⟨b,off,e,_⟩:=h h0;cases e
  obtain rfl:l=[]:=List.eq_nil_of_length_eq_zero h0;go_enter Tryz.func143,Tryz.ntmps143
  have kn:=UA;go_wp2
  go_ret
  exact⟨Only.refl _ _,none,0,rfl,⟨fun h=>absurd h (by simp),by simp,by simp,(fun a ha=>by cases ha),(fun a ha=>by cases ha)⟩⟩
 |some ad=>
  obtain⟨k,hgl⟩: ∃k,l.length=k:=⟨_,rfl⟩;rw[hgl] at hl⊢;have V0:DW (w.alloc (.cells #[] 5)) w.heap.size (.slice (some ⟨w.heap.size,0,none⟩) 0 0) []:=by
   have:=UH w w.heap.size [] (Nat.le_refl _) (by decide);simpa[u8s] using this
  have P1:Only [] w (w.alloc (.cells #[] 5)):=(Only.refl _ _).alloc _;have okr:=h.only P1;replace hgl:=AB hgl;have kn:=UB;go_enter Tryz.func143,Tryz.ntmps143
  go_wp2_with (at_builtin;go_must (refine MJ rfl (.tmp 5) (.tmp 6) rfl w.heap.size (.slice (some ⟨w.heap.size,0,none⟩) 0 0) [] rfl V0 (some ad) c l k hgl.out rfl okr (by rw[hgl.out];simp;omega) (by simp) ?_);intro v9 w9 V9 P9 _;obtain⟨A9,k9,rfl,G9,q9,m9,a9⟩:=V9.out.rd)
  go_ret
  rw[List.nil_append] at G9 q9;have SF:DW w9 w.heap.size (.slice A9 ([]++l).length k9) ([]++l):=V9.out;rw[List.nil_append] at SF;have P9':Only [w.heap.size] _ w9:=P9;refine⟨P1.trans P9' (by simp),A9,k9,?_,⟨G9,q9,m9,a9,SF.soft⟩⟩;simp[hgl.out]
end Go.Proofs.YtdplnedpbkpgpaaGreatDoor
namespace Go.Proofs.YtdplnedpbkpgpaaGreatDoor
open Go.RowKit
structure RdrV (w : World) (g : Nat) (A : Option Addr) (cap : Nat) (l : List Int) (e : Int) : Prop where
  blk : Blk w g 171 [.slice A l.length cap, .int .i64 e]
  rd : Rd w A l
  le : l.length ≤ cap
  max : cap ≤ maxLen
  far : ∀ a, A = some a → 0 < l.length → a.block < g
theorem RdrV.only {w w':World} {g:Nat} {A:Option Addr} {cap:Nat} {l:List Int} {e:Int} (h:RdrV w g A cap l e) (hb:Only [] w w'):RdrV w' g A cap l e:=
 { h with blk:=h.blk.only hb (by simp),rd:=h.rd.only hb }
theorem Rd.onlyG {w w':World} {g:Nat} {A:Option Addr} {l:List Int} (h:Rd w A l) (hb:Only [g] w w') (hf: ∀a,A=some a→a.block≠g):Rd w' A l:=
 RdG.onlyL (mk:=.int .u8) h hb (fun a ha _=>by simpa using hf a ha)
theorem Rd.onlyP {w w':World} {g:Nat} {A:Option Addr} {l:List Int} (h:Rd w A l) (hb:Only [g] w w') (hf: ∀a,A=some a→0<l.length→a.block≠g):Rd w' A l:=
 RdG.onlyL (mk:=.int .u8) h hb (fun a ha h0=>by simpa using hf a ha h0)
theorem rd_drop {w:World} {A:Option Addr} {l:List Int} (h:Rd w A l) (k:Nat):Rd w (Option.map (fun x=>x.add k) A) (l.drop k):=RdG.drop (mk:=.int .u8) h k
theorem Rd.take {w:World} {A:Option Addr} {l:List Int} (h:Rd w A l) (k:Nat):Rd w A (l.take k):=RdG.take (mk:=.int .u8) h k
theorem NV (w:World) (g:Nat) (A:Option Addr) (cap:Nat) (l:List Int) (n:Nat) (h:RdrV w g A cap l 0) (hn:l.length<n) (hn2:n≤4294967296) :
  Calls Tryz.prog 141 #[.pointer (some ⟨g,0,none⟩),.int .i64 n] w fun e w'=>e = .returned (.slice none 0 0)∧RdrV w' g A cap l 3∧Only [g] w w':=by
 have c0:=h.blk.cell 0;have c1:=h.blk.cell 1;have f1:=h.blk.frozen 1;have hl:=h.le;have hm:=h.max;have fin: ∀w',w'=w.setCell ⟨g,1,none⟩ (.int .i64 3)→RdrV w' g A cap l 3∧Only [g] w w':=by
  rintro w' rfl;have P:Only [g] w (w.setCell ⟨g,1,none⟩ (.int .i64 3)):=(Only.refl [g] w).setCell (p:=⟨g,1,none⟩) (.inl (by simp)) _;exact⟨⟨h.blk.set_ 1 _,h.rd.onlyP P (fun a ha h0=>Nat.ne_of_lt (h.far a ha h0)),h.le,h.max,h.far⟩,P⟩
 replace fin:=AB fin;obtain⟨k,hk⟩: ∃k,l.length=k:=⟨_,rfl⟩;rw[hk] at c0 hn hl;clear h hk;go_enter Tryz.func141,Tryz.ntmps141
 go_wp2
 go_ret
 obtain⟨r1,r2⟩:=fin.out _ rfl;exact⟨rfl,r1,r2⟩
theorem ZP (w:World) (g:Nat) (A:Option Addr) (cap:Nat) (l:List Int) (n:Nat) (h:RdrV w g A cap l 0) (hn:n≤l.length) :
  Calls Tryz.prog 141 #[.pointer (some ⟨g,0,none⟩),.int .i64 n] w fun e w'=>e = .returned (.slice A n cap)∧Only [g] w w'∧Rd w' A (l.take n)∧∃A' cap',RdrV w' g A' cap' (l.drop n) 0:=by
 have c0:=h.blk.cell 0;have c1:=h.blk.cell 1;have f0:=h.blk.frozen 0;have hl:=h.le;have hm:=h.max;have fin: ∀w' A',(A'=A∧cap=n∨A'=Option.map (fun x=>x.add n) A)→w'=w.setCell ⟨g,0,none⟩ (.slice A' (l.length-n) (cap-n))→Only [g] w w'∧Rd w' A (l.take n)∧∃A' cap',RdrV w' g A' cap' (l.drop n) 0:=by
  rintro w' A' hA' rfl;have P:Only [g] w (w.setCell ⟨g,0,none⟩ (.slice A' (l.length-n) (cap-n))):=(Only.refl [g] w).setCell (p:=⟨g,0,none⟩) (.inl (by simp)) _;have hfar: ∀a,A'=some a→0<(l.drop n).length→a.block<g:=by
   intro a ha h0;have h0:0<l.length:=by rw[List.length_drop] at h0;omega
   rcases hA' with⟨rfl,_⟩|rfl;·exact h.far a ha h0
   ·cases A with
    |none=>cases ha
    |some b=>simp at ha;subst ha;rw[show(b.add n).block=b.block by unfold Addr.add;split<;>rfl];exact h.far b rfl h0
  refine⟨P,(h.rd.onlyP P (fun a ha h0=>Nat.ne_of_lt (h.far a ha h0))).take n,A',cap-n,⟨?_,?_,by simp;omega,by omega,hfar⟩⟩
  ·have:=h.blk.set_ 0 (.slice A' (l.length-n) (cap-n));simpa using this
  ·rcases hA' with⟨rfl,hq⟩|rfl
   ·have:l.drop n=[]:=List.eq_nil_of_length_eq_zero (by simp;omega);rw[this];exact fun h0=>absurd h0 (by simp)
   ·exact(rd_drop h.rd n).onlyP P (fun a ha h0=>Nat.ne_of_lt (hfar a ha h0))
 replace fin:=AB fin;obtain⟨k,hk⟩: ∃k,l.length=k:=⟨_,rfl⟩;rw[hk] at c0 hl fin hn;have hn': ¬k<n:=by omega
 clear h hk;by_cases hq:cap=n
 ·go_enter Tryz.func141,Tryz.ntmps141
  go_wp2
  go_ret
  exact⟨by rw[hq];rfl,fin.out _ A (.inl ⟨rfl,hq⟩) (by rw[hq,Nat.sub_self])⟩
 ·go_enter Tryz.func141,Tryz.ntmps141
  go_wp2
  go_ret
  exact⟨rfl,fin.out _ _ (.inr rfl) rfl⟩
end Go.Proofs.YtdplnedpbkpgpaaGreatDoor
namespace Go.Proofs.YtdplnedpbkpgpaaGreatDoor
open Go.RowKit
structure R where
  e : Int
  n : Int
  text : List Int
  list : List ByteArray
  rest : List Int
def EZ (l:List Int):R:=⟨3,0,[],[],l⟩
def DT (l:List Int):R:=if l.length<1 then EZ l else⟨0,l.getD 0 0,[],[],l.drop 1⟩
def FD.new (f:FD) (B:Nat):Prop:=(∀a,f.tA=some a→B≤a.block)∧(∀a,f.lA=some a→B≤a.block)
theorem FD.ok.onlyL {w w':World} {f:FD} {q:Nat} (h:f.ok w) (hb:Only [q] w w') {B:Nat} (hn:f.new B) (hq:q<B):f.ok w':=
 { h with
  text:=h.text.onlyL hb (fun a ha _=>by have:=hn.1 a ha;simp;omega)
  list:=h.list.onlyL hb (fun a ha _=>by have:=hn.2 a ha;simp;omega) }
theorem FD.new.mono {f:FD} {B B':Nat} (h:f.new B) (hb:B'≤B):f.new B':=⟨fun a ha=>Nat.le_trans hb (h.1 a ha),fun a ha=>Nat.le_trans hb (h.2 a ha)⟩
theorem FD.ok.with {w:World} {f:FD} (h:f.ok w) (k n:Int):FD.ok w { f with kind:=k,n:=n }:=⟨h.text,h.list,h.tle,h.tmax,h.lle,h.lmax,h.strs⟩
def FD.soft (f:FD) (w:World):Prop:=∀a,f.tA=some a→∀i,i<f.text.length→w.frozen? (a.add i)=false
structure FD.mine (w : World) (f : FD) (B : Nat) : Prop where
  ok : f.ok w
  new : f.new B
  soft : f.soft w
theorem IY (a:Addr) (n:Nat):(a.add n).block=a.block:=by unfold Addr.add;split<;>rfl
theorem FD.soft.onlyL {w w':World} {f:FD} {L:List Nat} (h:f.soft w) (ho:f.ok w) (hb:Only L w w') (hL: ∀a,f.tA=some a→a.block∉L):f.soft w':=by
 intro a ha i hi;obtain⟨b,off,e,hlt,_⟩:=ho.text (by omega);rw[ha] at e;injection e with e;refine(World.frozen?_of_block (w:=w) ?_).trans (h a ha i hi);rw[IY];exact hb.block _ (by rw[e];exact hlt) (hL a ha)
theorem FD.mine.only {w w':World} {f:FD} {B:Nat} (h:FD.mine w f B) (hb:Only [] w w'):FD.mine w' f B:=⟨h.ok.only hb,h.new,h.soft.onlyL h.ok hb (fun _ _=>by simp)⟩
theorem FD.mine.onlyL {w w':World} {f:FD} {B q:Nat} (h:FD.mine w f B) (hb:Only [q] w w') (hq:q<B):FD.mine w' f B:=⟨h.ok.onlyL hb h.new hq,h.new,h.soft.onlyL h.ok hb (fun a ha=>by have:=h.new.1 a ha;simp;omega)⟩
theorem FD.mine.mono {w:World} {f:FD} {B B':Nat} (h:FD.mine w f B) (hb:B'≤B):FD.mine w f B':=⟨h.ok,h.new.mono hb,h.soft⟩
theorem FD.mine.with {w:World} {f:FD} {B:Nat} (h:FD.mine w f B) (k n:Int):FD.mine w { f with kind:=k,n:=n } B:=⟨h.ok.with k n,h.new,h.soft⟩
def JA (w:World) (g:Nat) (r:R):Ending→World→Prop:=fun E w'=>
 Only [g] w w'∧∃tA tc lA lc,E = .returned (FD.val ⟨0,r.n,tA,tc,r.text,lA,lc,r.list⟩)∧FD.mine w' ⟨0,r.n,tA,tc,r.text,lA,lc,r.list⟩ w.heap.size∧∃A' cap',RdrV w' g A' cap' r.rest r.e
theorem FD.ok.plain (w:World) (k n:Int):FD.ok w ⟨k,n,none,0,[],none,0,[]⟩:=⟨RdG.nil,RdG.nil,by simp,by simp,by simp,by simp,by simp⟩
theorem FD.new.plain (k n:Int) (B:Nat):FD.new ⟨k,n,none,0,[],none,0,[]⟩ B:=⟨fun a ha=>by simp at ha,fun a ha=>by simp at ha⟩
theorem FD.mine.plain (w:World) (k n:Int) (B:Nat):FD.mine w ⟨k,n,none,0,[],none,0,[]⟩ B:=⟨FD.ok.plain _ _ _,FD.new.plain _ _ _,fun a ha=>by simp at ha⟩
theorem EP {w w':World} {g:Nat} {e n:Int} {rest:List Int} {A:Option Addr} {cap:Nat} (h:Only [g] w w') (hr:RdrV w' g A cap rest e):JA w g ⟨e,n,[],[],rest⟩ (.returned (.agg #[.int .i64 0,.int .u32 n,.slice none 0 0,.slice none 0 0])) w':=
 ⟨h,none,0,none,0,rfl,FD.mine.plain _ _ _ _,A,cap,hr⟩
def W4 (w:World) (q:Nat) (a b c d:Value):World:=(((w.setCell ⟨q,0,none⟩ a).setCell ⟨q,1,none⟩ b).setCell ⟨q,2,none⟩ c).setCell ⟨q,3,none⟩ d
theorem W4.blk {w:World} {q:Nat} {x0 x1 x2 x3:Value} (K:Blk w q 123 [x0,x1,x2,x3]) (a b c d:Value):Blk (W4 w q a b c d) q 123 [a,b,c,d]:=(((K.set_ 0 a).set_ 1 b).set_ 2 c).set_ 3 d
theorem W4.only (w:World) (q:Nat) (a b c d:Value):Only [q] w (W4 w q a b c d):=
 ((((Only.refl [q] w).setCell (p:=⟨q,0,none⟩) (.inl (by simp)) a).setCell (p:=⟨q,1,none⟩) (.inl (by simp)) b).setCell (p:=⟨q,2,none⟩) (.inl (by simp)) c).setCell (p:=⟨q,3,none⟩) (.inl (by simp)) d
theorem RdrV.far4 {w w':World} {g q:Nat} {A:Option Addr} {cap:Nat} {l:List Int} {e:Int} (h:RdrV w g A cap l e) (hb:Only [q] w w') (hq:g<q):RdrV w' g A cap l e:=
 { h with blk:=h.blk.only hb (by simp;omega),rd:=h.rd.onlyP hb (fun a ha h0=>by have:=h.far a ha h0;omega) }
theorem BX {fn:Func} {p:Tmp} {R:Ending→World→Prop} {a:Act} {w:World} {g:Nat} {v0 v1 v2 v3:Value} (h:fn.results=#[.cell p 123]) (hp:a.tmps.getD p undef = .pointer (some ⟨g,0,none⟩)) (hd:a.defers=[])
  (hg:Blk w g 123 [v0,v1,v2,v3]) (hR:R (.returned (.agg #[v0,v1,v2,v3])) w):bodyPost Tryz.prog fn R .ret a w:=
 bodyPost_ret (results_cell_row h _ w g 123 _ (0,0) _ hp hg Tryz.underlying123 rfl (by kernel_rfl)) hd hR
theorem XB (w:World) (g:Nat) (A:Option Addr) (cap:Nat) (l:List Int) (h:RdrV w g A cap l 0) (hl: ∀x∈l,0≤x∧x<256) :
  Calls Tryz.prog 114 #[.pointer (some ⟨g,0,none⟩)] w (JA w g (DT l)):=by
 obtain⟨w1,hw1⟩: ∃w1,w1=w.alloc (.cells #[.int .i64 0,.int .u32 0,.slice none 0 0,.slice none 0 0] 123):=⟨_,rfl⟩;have P1:Only [] w w1:=by rw[hw1];exact(Only.refl _ _).alloc _
 have K:Blk w1 w.heap.size 123 [.int .i64 0,.int .u32 0,.slice none 0 0,.slice none 0 0]:=by rw[hw1];exact Blk.new w _ _
 have h1:=h.only P1;have hgl:=h.blk.lt;by_cases hs:l.length<1
 ·have hr:DT l=EZ l:=if_pos hs;rw[hr];have T:=NV w1 g A cap l 1 h1 hs (by omega);clear hr hs;go_enter Tryz.func114,Tryz.ntmps114
  go_wp2_with fail
  rw[←hw1];replace hw1:=AB hw1;go_wp2_with fail
  go_call T as e w2 ⟨rfl,R2,P2⟩
  have K2:=K.only P2 (by simp;omega);have kn:=UA;have f0:=K2.frozen 0;have f1:=K2.frozen 1;have f2:=K2.frozen 2;have f3:=K2.frozen 3;have c0:w2.cell? ⟨w.heap.size,0,none⟩=some (.int .i64 0):=K2.cell 0;have c1:w2.cell? ⟨w.heap.size,1,none⟩=some (.int .u32 0):=K2.cell 1;have c2:w2.cell? ⟨w.heap.size,2,none⟩=some (.slice none 0 0):=K2.cell 2;have c3:w2.cell? ⟨w.heap.size,3,none⟩=some (.slice none 0 0):=K2.cell 3;go_wp2_with fail
  (try simp only[Exit.inBlock,Exit.then])
  refine BX (v0:=.int .i64 0) (v1:=.int .u32 0) (v2:=.slice none 0 0) (v3:=.slice none 0 0) rfl (by rfl) (by rfl) (W4.blk K2 _ _ _ _) (EP (((P1.mono (by simp)).trans P2 (by simp)).trans (W4.only w2 _ _ _ _ _) (by simp)) (R2.far4 (W4.only _ _ _ _ _ _) hgl))
 ·have hr:DT l=⟨0,l.getD 0 0,[],[],l.drop 1⟩:=if_neg hs;rw[hr];have T:=ZP w1 g A cap l 1 h1 (by omega);have hx0: ∃x,l[0]? = some x∧l.getD 0 0=x∧0≤x∧x<256:=by
   refine⟨l[0]'(by omega),List.getElem?_eq_getElem (by omega),?_,hl _ (List.getElem_mem _)⟩;simp[List.getD,List.getElem?_eq_getElem (show 0<l.length by omega)]
  obtain⟨x,hx,hxd,hxa,hxb⟩:=hx0;rw[hxd];have hxt:(l.take 1)[0]? = some x:=by rw[List.getElem?_take];simpa using hx
  obtain⟨b,off,rfl,_⟩:=h.rd (by omega);replace hxt:=AB hxt;replace hx:=AB hx;replace hxd:=AB hxd;clear hr hs;go_enter Tryz.func114,Tryz.ntmps114
  go_wp2_with fail
  rw[←hw1];replace hw1:=AB hw1;go_wp2_with fail
  go_call T as e w2 ⟨rfl,P2,D2,A2,cap2,R2⟩
  have K2:=K.only P2 (by simp;omega);have kn:=UB;have f0:=K2.frozen 0;have f1:=K2.frozen 1;have f2:=K2.frozen 2;have f3:=K2.frozen 3;have c0:w2.cell? ⟨w.heap.size,0,none⟩=some (.int .i64 0):=K2.cell 0;have c1:w2.cell? ⟨w.heap.size,1,none⟩=some (.int .u32 0):=K2.cell 1;have c2:w2.cell? ⟨w.heap.size,2,none⟩=some (.slice none 0 0):=K2.cell 2;have c3:w2.cell? ⟨w.heap.size,3,none⟩=some (.slice none 0 0):=K2.cell 3;have cx:w2.cell? ⟨b,off,none⟩=some (.int .u8 x):=by
   obtain⟨b',off',e,_,hc⟩:=D2 (by simp;have:=hx.out;cases l<;>simp at this⊢);injection e with e;injection e with e1 e2;subst e1;subst e2;exact hc 0 x hxt.out
  go_wp2_with fail
  (try simp only[Exit.inBlock,Exit.then])
  refine BX (v0:=.int .i64 0) (v1:=.int .u32 x) (v2:=.slice none 0 0) (v3:=.slice none 0 0) rfl (by rfl) (by rfl) (W4.blk K2 _ _ _ _) (EP (((P1.mono (by simp)).trans P2 (by simp)).trans (W4.only w2 _ _ _ _ _) (by simp)) (by simpa[W4] using R2.far4 (W4.only _ _ _ _ _ _) hgl))
def RH (l:List Int):R:=let r:=DT l;⟨r.e,min r.n 1,r.text,r.list,r.rest⟩
theorem flag_any (w:World) (g:Nat) (A:Option Addr) (cap:Nat) (l:List Int) (h:RdrV w g A cap l 0) (hl: ∀x∈l,0≤x∧x<256) :
  Calls Tryz.prog 116 #[.pointer (some ⟨g,0,none⟩)] w (JA w g (RH l)):=by
 obtain⟨w1,hw1⟩: ∃w1,w1=w.alloc (.cells #[.int .i64 0,.int .u32 0,.slice none 0 0,.slice none 0 0] 123):=⟨_,rfl⟩;have P1:Only [] w w1:=by rw[hw1];exact(Only.refl _ _).alloc _
 have K:Blk w1 w.heap.size 123 [.int .i64 0,.int .u32 0,.slice none 0 0,.slice none 0 0]:=by rw[hw1];exact Blk.new w _ _
 have h1:=h.only P1;have hgl:=h.blk.lt;have T:=XB w1 g A cap l h1 hl;have hz:w.heap.size<w1.heap.size:=K.lt;go_enter Tryz.func116,Tryz.ntmps116
 go_wp2_with fail
 rw[←hw1];replace hw1:=AB hw1;go_wp2_with fail
 go_call T as e w2 ⟨P2,tA,tc,lA,lc,rfl,my2,A2,cap2,R2⟩
 unfold FD.val;have z2:=P2.size;have K2:=K.only P2 (by simp;omega);have f0:=K2.frozen 0;have f1:=K2.frozen 1;have f2:=K2.frozen 2;have f3:=K2.frozen 3;have c0:w2.cell? ⟨w.heap.size,0,none⟩=some (.int .i64 0):=K2.cell 0;have c1:w2.cell? ⟨w.heap.size,1,none⟩=some (.int .u32 0):=K2.cell 1;have c2:w2.cell? ⟨w.heap.size,2,none⟩=some (.slice none 0 0):=K2.cell 2;have c3:w2.cell? ⟨w.heap.size,3,none⟩=some (.slice none 0 0):=K2.cell 3;have hlt:w.heap.size<w2.heap.size:=by omega
 have hn1: ¬w.heap.size=w2.heap.size:=by omega
 have hn2: ¬w2.heap.size=w.heap.size:=by omega
 go_wp2_with fail
 (try simp only[Exit.inBlock,Exit.then])
 have O4:Only [g] w w2:=(P1.mono (by simp)).trans P2 (by simp);refine BX (v0:=.int .i64 0) (v1:=.int .u32 (min (DT l).n 1)) (v2:=.slice tA (DT l).text.length tc) (v3:=.slice lA (DT l).list.length lc) rfl (by rfl) (by rfl) ((W4.blk K2 _ _ _ _).alloc _) ?_;have Q4:=W4.only w2 w.heap.size (.int .i64 0) (.int .u32 (min (DT l).n 1)) (.slice tA (DT l).text.length tc) (.slice lA (DT l).list.length lc);exact⟨(O4.trans Q4 (by simp)).alloc _,tA,tc,lA,lc,rfl,(((my2.with 0 _).onlyL Q4 hz).only ((Only.refl _ _).alloc _)).mono (by omega),A2,cap2,(R2.far4 Q4 hgl).only ((Only.refl _ _).alloc _)⟩
end Go.Proofs.YtdplnedpbkpgpaaGreatDoor
namespace Go.Proofs.YtdplnedpbkpgpaaGreatDoor
open Go.RowKit
def be4 (l:List Int):Int:=l.getD 0 0*16777216+l.getD 1 0*65536+l.getD 2 0*256+l.getD 3 0
def DO (l:List Int):R:=if l.length<4 then EZ l else⟨0,be4 l,[],[],l.drop 4⟩
theorem MQ (a b:Int) (h1:0≤a) (h2:a<4294967296) (h3:0≤b) (h4:b<4294967296):bits .or .u32 a b=bits .or .u32 b a:=by
 rw[u32_or a b h1 h2 h3 h4,u32_or b a h3 h4 h1 h2,Nat.or_comm]
theorem UC (w:World) (g:Nat) (A:Option Addr) (cap:Nat) (l:List Int) (h:RdrV w g A cap l 0) (hl: ∀x∈l,0≤x∧x<256) :
  Calls Tryz.prog 119 #[.pointer (some ⟨g,0,none⟩)] w (JA w g (DO l)):=by
 obtain⟨w1,hw1⟩: ∃w1,w1=w.alloc (.cells #[.int .i64 0,.int .u32 0,.slice none 0 0,.slice none 0 0] 123):=⟨_,rfl⟩;have P1:Only [] w w1:=by rw[hw1];exact(Only.refl _ _).alloc _
 have K:Blk w1 w.heap.size 123 [.int .i64 0,.int .u32 0,.slice none 0 0,.slice none 0 0]:=by rw[hw1];exact Blk.new w _ _
 have h1:=h.only P1;have hgl:=h.blk.lt;by_cases hs:l.length<4
 ·have hr:DO l=EZ l:=if_pos hs;rw[hr];have T:=NV w1 g A cap l 4 h1 hs (by omega);clear hr hs;go_enter Tryz.func119,Tryz.ntmps119
  go_wp2_with fail
  rw[←hw1];replace hw1:=AB hw1;go_wp2_with fail
  go_call T as e w2 ⟨rfl,R2,P2⟩
  have K2:=K.only P2 (by simp;omega);have kn:=UA;have f0:=K2.frozen 0;have f1:=K2.frozen 1;have f2:=K2.frozen 2;have f3:=K2.frozen 3;have c0:w2.cell? ⟨w.heap.size,0,none⟩=some (.int .i64 0):=K2.cell 0;have c1:w2.cell? ⟨w.heap.size,1,none⟩=some (.int .u32 0):=K2.cell 1;have c2:w2.cell? ⟨w.heap.size,2,none⟩=some (.slice none 0 0):=K2.cell 2;have c3:w2.cell? ⟨w.heap.size,3,none⟩=some (.slice none 0 0):=K2.cell 3;go_wp2_with fail
  (try simp only[Exit.inBlock,Exit.then])
  refine BX (v0:=.int .i64 0) (v1:=.int .u32 0) (v2:=.slice none 0 0) (v3:=.slice none 0 0) rfl (by rfl) (by rfl) (W4.blk K2 _ _ _ _) (EP (((P1.mono (by simp)).trans P2 (by simp)).trans (W4.only w2 _ _ _ _ _) (by simp)) (R2.far4 (W4.only _ _ _ _ _ _) hgl))
 ·have hr:DO l=⟨0,be4 l,[],[],l.drop 4⟩:=if_neg hs;rw[hr];have T:=ZP w1 g A cap l 4 h1 (by omega);have hx: ∀k,k<4→∃x,l[k]? = some x∧l.getD k 0=x∧0≤x∧x<256:=by
   intro k hk;refine⟨l[k]'(by omega),List.getElem?_eq_getElem (by omega),?_,hl _ (List.getElem_mem _)⟩;simp[List.getD,List.getElem?_eq_getElem (show k<l.length by omega)]
  obtain⟨x0,hx0,hd0,a0,b0⟩:=hx 0 (by omega);obtain⟨x1,hx1,hd1,a1,b1⟩:=hx 1 (by omega);obtain⟨x2,hx2,hd2,a2,b2⟩:=hx 2 (by omega);obtain⟨x3,hx3,hd3,a3,b3⟩:=hx 3 (by omega);obtain⟨y0,hy0⟩: ∃y,y=x0*16777216:=⟨_,rfl⟩;obtain⟨y1,hy1⟩: ∃y,y=x1*65536:=⟨_,rfl⟩;obtain⟨y2,hy2⟩: ∃y,y=x2*256:=⟨_,rfl⟩;obtain⟨z1,hz1⟩: ∃y,y=y0+y1:=⟨_,rfl⟩;obtain⟨z2,hz2⟩: ∃y,y=z1+y2:=⟨_,rfl⟩;obtain⟨N,hN⟩: ∃y,y=z2+x3:=⟨_,rfl⟩;have s0:IntKind.u32.wrap (x0*16777216)=y0:=by rw[hy0];exact u32_wrap_id _ (by omega) (by omega)
  have s1:IntKind.u32.wrap (x1*65536)=y1:=by rw[hy1];exact u32_wrap_id _ (by omega) (by omega)
  have s2:IntKind.u32.wrap (x2*256)=y2:=by rw[hy2];exact u32_wrap_id _ (by omega) (by omega)
  have e0:IntKind.u32.wrap x0=x0:=u32_wrap_id _ a0 (by omega);have e1:IntKind.u32.wrap x1=x1:=u32_wrap_id _ a1 (by omega);have e2:IntKind.u32.wrap x2=x2:=u32_wrap_id _ a2 (by omega);have e3:IntKind.u32.wrap x3=x3:=u32_wrap_id _ a3 (by omega);have o1:bits .or .u32 y0 y1=z1:=by rw[MQ y0 y1 (by omega) (by omega) (by omega) (by omega),u32_or24 _ _ (by omega) (by omega) (by omega) (by omega) (by omega)];omega
  have o2:bits .or .u32 z1 y2=z2:=by rw[MQ z1 y2 (by omega) (by omega) (by omega) (by omega),u32_or16 _ _ (by omega) (by omega) (by omega) (by omega) (by omega)];omega
  have o3:bits .or .u32 z2 x3=N:=by rw[MQ z2 x3 (by omega) (by omega) (by omega) (by omega),u32_or8 _ _ (by omega) (by omega) (by omega) (by omega) (by omega)];omega
  have hbe:be4 l=N:=by unfold be4;rw[hd0,hd1,hd2,hd3];omega
  rw[hbe];have hh: ∀w2,Rd w2 A (l.take 4)→∀b off,A=some ⟨b,off,none⟩→w2.cell? ⟨b,off,none⟩=some (.int .u8 x0)∧w2.cell? ⟨b,off+1,none⟩=some (.int .u8 x1)∧w2.cell? ⟨b,off+2,none⟩=some (.int .u8 x2)∧w2.cell? ⟨b,off+3,none⟩=some (.int .u8 x3):=by
   intro w2 D b off hA;obtain⟨b',off',e,_,hc⟩:=D (by simp;omega);rw[hA] at e;injection e with e;injection e with e1 e2;subst e1;subst e2;refine⟨hc 0 x0 ?_,hc 1 x1 ?_,hc 2 x2 ?_,hc 3 x3 ?_⟩<;>rw[List.getElem?_take]<;>simpa
  replace hh:=AB hh;clear hy0 hy1 hy2 hz1 hz2 hN hbe hd0 hd1 hd2 hd3 hx hx0 hx1 hx2 hx3 hr;obtain⟨b,off,rfl,_⟩:=h.rd (by omega);clear hs;go_enter Tryz.func119,Tryz.ntmps119
  go_wp2_with fail
  rw[←hw1];replace hw1:=AB hw1;go_wp2_with fail
  go_call T as e w2 ⟨rfl,P2,D2,A2,cap2,R2⟩
  have K2:=K.only P2 (by simp;omega);have kn:=UB;have hI:(fun w':World=>w'.cell? ⟨b,off,none⟩=some (.int .u8 x0)∧w'.cell? ⟨b,off+1,none⟩=some (.int .u8 x1)∧w'.cell? ⟨b,off+2,none⟩=some (.int .u8 x2)∧w'.cell? ⟨b,off+3,none⟩=some (.int .u8 x3)) { w2 with drawn:=w2.drawn+1 }:=hh.out w2 D2 b off rfl;go_wp2_with fail
  refine AV (fun w':World=>w'.cell? ⟨b,off,none⟩=some (.int .u8 x0)∧w'.cell? ⟨b,off+1,none⟩=some (.int .u8 x1)∧w'.cell? ⟨b,off+2,none⟩=some (.int .u8 x2)∧w'.cell? ⟨b,off+3,none⟩=some (.int .u8 x3)) [23] (by kernel_rfl) ?_;refine wpAnyE_tk 0 (v:=(.slice (some ⟨b,off,none⟩) 4 cap)) rfl hI (fun w' hw'=>by obtain⟨i0,i1,i2,i3⟩:=hw';go_simp) ?_;refine wpAnyE_tk 1 (v:=(.pointer (some ⟨b,off,none⟩))) rfl hI (fun w' hw'=>by obtain⟨i0,i1,i2,i3⟩:=hw';go_simp) ?_;refine wpAnyE_tk 2 (v:=(.int .u8 x0)) rfl hI (fun w' hw'=>by obtain⟨i0,i1,i2,i3⟩:=hw';go_simp) ?_;refine wpAnyE_tk 3 (v:=(.int .u32 x0)) rfl hI (fun w' hw'=>by obtain⟨i0,i1,i2,i3⟩:=hw';go_simp) ?_;refine wpAnyE_tk 4 (v:=(.int .u32 y0)) rfl hI (fun w' hw'=>by obtain⟨i0,i1,i2,i3⟩:=hw';go_simp) ?_;refine wpAnyE_tk 5 (v:=(.slice (some ⟨b,off,none⟩) 4 cap)) rfl hI (fun w' hw'=>by obtain⟨i0,i1,i2,i3⟩:=hw';go_simp) ?_;refine wpAnyE_tk 6 (v:=(.pointer (some ⟨b,off+1,none⟩))) rfl hI (fun w' hw'=>by obtain⟨i0,i1,i2,i3⟩:=hw';go_simp) ?_;refine wpAnyE_tk 7 (v:=(.int .u8 x1)) rfl hI (fun w' hw'=>by obtain⟨i0,i1,i2,i3⟩:=hw';go_simp) ?_;refine wpAnyE_tk 8 (v:=(.int .u32 x1)) rfl hI (fun w' hw'=>by obtain⟨i0,i1,i2,i3⟩:=hw';go_simp) ?_;refine wpAnyE_tk 9 (v:=(.int .u32 y1)) rfl hI (fun w' hw'=>by obtain⟨i0,i1,i2,i3⟩:=hw';go_simp) ?_;refine wpAnyE_tk 10 (v:=(.int .u32 z1)) rfl hI (fun w' hw'=>by obtain⟨i0,i1,i2,i3⟩:=hw';go_simp) ?_;refine wpAnyE_tk 11 (v:=(.slice (some ⟨b,off,none⟩) 4 cap)) rfl hI (fun w' hw'=>by obtain⟨i0,i1,i2,i3⟩:=hw';go_simp) ?_;refine wpAnyE_tk 12 (v:=(.pointer (some ⟨b,off+2,none⟩))) rfl hI (fun w' hw'=>by obtain⟨i0,i1,i2,i3⟩:=hw';go_simp) ?_;refine wpAnyE_tk 13 (v:=(.int .u8 x2)) rfl hI (fun w' hw'=>by obtain⟨i0,i1,i2,i3⟩:=hw';go_simp) ?_;refine wpAnyE_tk 14 (v:=(.int .u32 x2)) rfl hI (fun w' hw'=>by obtain⟨i0,i1,i2,i3⟩:=hw';go_simp) ?_;refine wpAnyE_tk 15 (v:=(.int .u32 y2)) rfl hI (fun w' hw'=>by obtain⟨i0,i1,i2,i3⟩:=hw';go_simp) ?_;refine wpAnyE_tk 16 (v:=(.int .u32 z2)) rfl hI (fun w' hw'=>by obtain⟨i0,i1,i2,i3⟩:=hw';go_simp) ?_;refine wpAnyE_tk 17 (v:=(.slice (some ⟨b,off,none⟩) 4 cap)) rfl hI (fun w' hw'=>by obtain⟨i0,i1,i2,i3⟩:=hw';go_simp) ?_;refine wpAnyE_tk 18 (v:=(.pointer (some ⟨b,off+3,none⟩))) rfl hI (fun w' hw'=>by obtain⟨i0,i1,i2,i3⟩:=hw';go_simp) ?_;refine wpAnyE_tk 19 (v:=(.int .u8 x3)) rfl hI (fun w' hw'=>by obtain⟨i0,i1,i2,i3⟩:=hw';go_simp) ?_;refine wpAnyE_tk 20 (v:=(.int .u32 x3)) rfl hI (fun w' hw'=>by obtain⟨i0,i1,i2,i3⟩:=hw';go_simp) ?_;refine wpAnyE_tk 21 (v:=(.int .u32 N)) rfl hI (fun w' hw'=>by obtain⟨i0,i1,i2,i3⟩:=hw';go_simp) ?_;refine wpAnyE_tk 22 (v:=(.agg #[.int .i64 0,.int .u32 N,.slice none 0 0,.slice none 0 0])) rfl hI (fun w' hw'=>by obtain⟨i0,i1,i2,i3⟩:=hw';go_simp) ?_;refine GL 23 [] [23] rfl (by kernel_rfl) (by decide) hI ?_;simp only[List.drop_succ_cons,List.drop_zero];refine FO ?_;have f0:=K2.frozen 0;have f1:=K2.frozen 1;have f2:=K2.frozen 2;have f3:=K2.frozen 3;have c0:w2.cell? ⟨w.heap.size,0,none⟩=some (.int .i64 0):=K2.cell 0;have c1:w2.cell? ⟨w.heap.size,1,none⟩=some (.int .u32 0):=K2.cell 1;have c2:w2.cell? ⟨w.heap.size,2,none⟩=some (.slice none 0 0):=K2.cell 2;have c3:w2.cell? ⟨w.heap.size,3,none⟩=some (.slice none 0 0):=K2.cell 3;go_wp2
  (try simp only[Exit.inBlock,Exit.then])
  refine BX (v0:=.int .i64 0) (v1:=.int .u32 N) (v2:=.slice none 0 0) (v3:=.slice none 0 0) rfl (by rfl) (by rfl) (W4.blk K2 _ _ _ _).drew (EP (((P1.mono (by simp)).trans P2 (by simp)).trans (W4.only w2 _ _ _ _ _) (by simp)).drew ((R2.far4 (W4.only _ _ _ _ _ _) hgl).only (Only.refl _ _).drew))
end Go.Proofs.YtdplnedpbkpgpaaGreatDoor
