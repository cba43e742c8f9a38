/- SessionAsks: lemmas, from 'Layer 27: a session, and what is asked of it' on; what each asks for stands in it. -/
import Derived.Test.YtdplnedpbkpgpaaGreatDoorSlG
import Derived.Test.YtdplnedpbkpgpaaGreatDoorSlI
import Derived.Test.YtdplnedpbkpgpaaGreatDoorSlH
import Derived.Test.YtdplnedpbkpgpaaGreatDoorSlC
import Derived.Test.YtdplnedpbkpgpaaGreatDoorShelf
set_option linter.all false
set_option maxRecDepth 100000
set_option maxHeartbeats 64000000
namespace Go.Proofs.YtdplnedpbkpgpaaGreatDoor
open Go.RowKit
def LT:TM:=⟨fun k=>[0,3,28,127,21,4,255,255,17,19,26,255,18,23,22,255,255,255,15].getD k 0,2305848510591797568,38400,38400,1,0⟩
structure SS where
  pty : Bool
  term : ByteArray
  c0 : Int
  c1 : Int
  c2 : Int
  c3 : Int
  t : TM
  env : List VR
  st : Bool
def SS.val (s:SS) (A:Option Addr) (cap:Nat):Value:=.agg (#[.bool s.pty,.string s.term,.int .u32 s.c0,.int .u32 s.c1,.int .u32 s.c2,.int .u32 s.c3,.int .u8 (s.t.ch 0),.int .u8 (s.t.ch 1),.int .u8 (s.t.ch 2),.int .u8 (s.t.ch 3),.int .u8 (s.t.ch 4),.int .u8 (s.t.ch 5),.int .u8 (s.t.ch 6),.int .u8 (s.t.ch 7),.int .u8 (s.t.ch 8),.int .u8 (s.t.ch 9),.int .u8 (s.t.ch 10),.int .u8 (s.t.ch 11),.int .u8 (s.t.ch 12),.int .u8 (s.t.ch 13),.int .u8 (s.t.ch 14),.int .u8 (s.t.ch 15),.int .u8 (s.t.ch 16),.int .u8 (s.t.ch 17),.int .u8 (s.t.ch 18),.int .u64 s.t.fl,.int .u32 s.t.inn,.int .u32 s.t.out,.int .i64 s.t.mn,.int .i64 s.t.tm,.slice A s.env.length cap,.bool s.st])
def SS.sc (s:SS) (A:Option Addr) (cap:Nat):List SC:=[.v (.bool s.pty),.v (.string s.term),.v (.int .u32 s.c0),.v (.int .u32 s.c1),.v (.int .u32 s.c2),.v (.int .u32 s.c3),.v (.int .u8 (s.t.ch 0)),.v (.int .u8 (s.t.ch 1)),.v (.int .u8 (s.t.ch 2)),.v (.int .u8 (s.t.ch 3)),.v (.int .u8 (s.t.ch 4)),.v (.int .u8 (s.t.ch 5)),.v (.int .u8 (s.t.ch 6)),.v (.int .u8 (s.t.ch 7)),.v (.int .u8 (s.t.ch 8)),.v (.int .u8 (s.t.ch 9)),.v (.int .u8 (s.t.ch 10)),.v (.int .u8 (s.t.ch 11)),.v (.int .u8 (s.t.ch 12)),.v (.int .u8 (s.t.ch 13)),.v (.int .u8 (s.t.ch 14)),.v (.int .u8 (s.t.ch 15)),.v (.int .u8 (s.t.ch 16)),.v (.int .u8 (s.t.ch 17)),.v (.int .u8 (s.t.ch 18)),.v (.int .u64 s.t.fl),.v (.int .u32 s.t.inn),.v (.int .u32 s.t.out),.v (.int .i64 s.t.mn),.v (.int .i64 s.t.tm),.v (.slice A s.env.length cap),.v (.bool s.st)]
structure AC where
  ok : Bool
  what : Int
  prog : Int
  sig : Int
  c0 : Int
  c1 : Int
  c2 : Int
  c3 : Int
def AC.val (a:AC):Value:=.agg #[.bool a.ok,.int .i64 a.what,.int .i64 a.prog,.int .i64 a.sig,.int .u32 a.c0,.int .u32 a.c1,.int .u32 a.c2,.int .u32 a.c3]
def noA:AC:=⟨false,0,0,0,0,0,0,0⟩
def okA:AC:=⟨true,0,0,0,0,0,0,0⟩
def IM:ByteArray:=⟨#[115,104,101,108,108]⟩
def JX (s:ByteArray):ByteArray:=⟨(Lib.cut s.data.toList [32]).1.toArray⟩
def CD (s:SS) (nm:ByteArray) (ps:List PR):SS×AC:=if s.st then(s,noA) else if HE nm ps then({ s with st:=true },⟨true,1,HG nm ps,0,0,0,0,0⟩) else(s,noA)
def LO (nm:ByteArray) (l:List VR):Int:=MT nm (l.map VR.n) 0
def ptyM (s:SS) (m:RQ):SS×AC:=if s.pty then(s,noA) else if s.st then(s,noA) else if(AO LT m.modes).2≠0 then(s,noA) else if FH (AO LT m.modes).1 then({ s with pty:=true,term:=m.text,c0:=m.cols,c1:=m.rows,c2:=m.width,c3:=m.height,t:=(AO LT m.modes).1 },okA) else(s,noA)
def envM (s:SS) (m:RQ):SS×AC:=if s.st then(s,noA) else if LO m.text s.env≥0 then({ s with env:=s.env.set (LO m.text s.env).toNat ⟨((s.env.map VR.n)[(LO m.text s.env).toNat]?).getD ⟨#[]⟩,m.value⟩ },okA) else if(s.env.length:Int)≥16 then(s,noA) else({ s with env:=s.env++[⟨m.text,m.value⟩] },okA)
def MG (s:SS) (m:RQ):SS×AC:=if s.pty then(if s.st then({ s with c0:=m.cols,c1:=m.rows,c2:=m.width,c3:=m.height },⟨true,2,0,0,m.cols,m.rows,m.width,m.height⟩) else({ s with c0:=m.cols,c1:=m.rows,c2:=m.width,c3:=m.height },okA)) else(s,noA)
def PQ (s:SS) (m:RQ):SS×AC:=if s.st then(if FF m.text then(if CL (FE m.text) then(s,⟨true,3,0,FE m.text,0,0,0,0⟩) else(s,noA)) else(s,noA)) else(s,noA)
def kindM (s:SS) (m:RQ) (ps:List PR):Nat→SS×AC
 |1=>ptyM s m
 |2=>envM s m
 |3=>CD s IM ps
 |4=>CD s (JX m.text) ps
 |5=>CD s m.text ps
 |6=>MG s m
 |8=>PQ s m
 |_=>(s,noA)
def BZ (s:SS) (m:RQ) (E:Int) (ps:List PR):SS×AC:=if E≠0 then(s,noA) else kindM s m ps m.kind.toNat
theorem QB {k:Nat} {l:List Int} {m:RQ} (h1:1≤k) (h2:k≤10) (h:DJ k l m 0):m.kind=(k:Int):=by
 unfold DJ at h;split at h
 ·rename_i hn;exact absurd h.1.symm hn
 ·obtain⟨fs,hf,h⟩:=h;split at h
  ·rw[h.2];have e: ∀(m0:RQ) (k:Nat) (fs:List FD),(DH m0 k fs).kind=m0.kind:=by
    intro m0 k fs;unfold DH;split<;>rfl
   rw[e];rfl
  ·rename_i hn;exact absurd h.1.symm hn
theorem LV {nm:ByteArray} {l:List Int} {m:RQ} (h:BA nm l m 0): ∃k:Nat,1≤k∧k≤10∧m.kind=(k:Int):=by
 unfold BA at h;split at h;·exact absurd h.1 (by decide)
 ·rename_i k hk;obtain⟨h1,h2,_⟩:=IE hk;exact⟨k,h1,h2,QB h1 h2 h⟩
def kindsV:Value:=.agg #[.func (.func 51) #[] #[],.func (.func 52) #[] #[],.func (.func 53) #[] #[],.func (.func 54) #[] #[],.func (.func 55) #[] #[],.func (.func 56) #[] #[],.func (.func 57) #[] #[],.func (.func 51) #[] #[],.func (.func 58) #[] #[],.func (.func 51) #[] #[],.func (.func 51) #[] #[]]
theorem bA (w:World):Calls Tryz.prog 29 #[] w fun e w'=>e = .returned kindsV∧Only [] w w':=by
 refine Hs.en Tryz.func29 [] [] [] [] (Mem.start0 w) ?_;refine Hs.e1 fun b0=>?_;exact Hs.rt (v:=kindsV) Tryz.func29 fun w' H=>⟨rfl,H.only⟩
theorem MV (w:World):Calls Tryz.prog 94 #[] w fun e w'=>e = .returned LT.val∧Only [] w w':=by
 refine Hs.en Tryz.func94 [] [] [] [] (Mem.start0 w) ?_;refine Hs.runK [45] 1200 2 Tryz.func94 rfl (by kernel_rfl) (fun ν=>by kernel_rfl) (fun ν=>by kernel_rfl) fun ν hν=>?_;exact Hs.rt (v:=LT.val) Tryz.func94 fun w' H=>⟨rfl,H.only⟩
theorem TN {op:Int} (h:AW op=true):30≤op∧op≤93:=by
 unfold AW at h;simp only[Bool.or_eq_true,Bool.and_eq_true,decide_eq_true_eq] at h;omega
theorem wrapU (x:Int):IntKind.u64.wrap x=((BitVec.ofInt 64 x).toNat:Int):=by
 show x % 18446744073709551616=_;rw[BitVec.toNat_ofInt];omega
theorem wrapB (x:BitVec 64):IntKind.u64.wrap ((x.toNat:Nat):Int)=(x.toNat:Int):=by
 show(x.toNat:Int) % 18446744073709551616=_;have:=x.isLt;omega
theorem SN {op:Int} (h:AW op=true):BitVec.ofInt 64 (FK op)=BitVec.twoPow 64 (op-30).toNat:=by
 apply BitVec.eq_of_toNat_eq;rw[BitVec.toNat_ofInt,BitVec.toNat_twoPow];unfold FK;omega
theorem QI {fl:Int} (h:0≤fl∧fl<18446744073709551616):((BitVec.ofInt 64 fl).toNat:Int)=fl:=by
 rw[BitVec.toNat_ofInt];omega
theorem SR (fl op:Int) (h:AW op=true):hasI fl op=(BitVec.ofInt 64 fl).getLsbD (op-30).toNat:=by
 have hr:=TN h;unfold hasI;rw[h,SN h,wrapB,BitVec.and_twoPow,Bool.true_and];split
 ·rename_i h1;rw[h1,BitVec.toNat_twoPow];have:0<2 ^ (op-30).toNat:=Nat.two_pow_pos _;have h2:2 ^ (op-30).toNat<2 ^ 64:=Nat.pow_lt_pow_right (by decide) (by omega);rw[Nat.mod_eq_of_lt h2];simp only[bne_iff_ne,ne_eq];omega
 ·rename_i h1;simp at h1;rw[h1];rfl
theorem has_div {fl op:Int} (hf:0≤fl∧fl<18446744073709551616) (h:AW op=true):decide ((fl.tdiv (FK op)).tmod 2=1)=hasI fl op:=by
 rw[SR fl op h];obtain⟨n,rfl⟩:=Int.eq_ofNat_of_zero_le hf.1;have e:(BitVec.ofInt 64 ((n:Nat):Int)).getLsbD (op-30).toNat=n.testBit (op-30).toNat:=by
  unfold BitVec.getLsbD;have:=QI hf;rw[show(BitVec.ofInt 64 ((n:Nat):Int)).toNat=n by omega]
 rw[e,Nat.testBit_eq_decide_div_mod_eq];unfold FK;rw[decide_eq_decide];have:((n:Int).tdiv ((2 ^ (op-30).toNat:Nat):Int)).tmod 2=((n/2 ^ (op-30).toNat % 2:Nat):Int):=rfl;rw[this];omega
theorem and_sub {X Y:BitVec 64} (h:X &&& Y=Y):X &&& ~~~Y=X-Y:=by
 have h1:(X &&& ~~~Y) &&& Y=0#64:=by
  rw[BitVec.and_assoc,BitVec.and_comm (~~~Y) Y];apply BitVec.eq_of_getLsbD_eq;intro i hi;simp
 have h2:(X &&& ~~~Y) ||| Y=X:=by
  apply BitVec.eq_of_getLsbD_eq;intro i hi;have h3:=congrArg (fun z=>z.getLsbD i) h;simp at h3;simp[hi];cases hx:X.getLsbD i<;>cases hy:Y.getLsbD i<;>simp_all
 have h3:=BitVec.add_eq_or_of_and_eq_zero (X &&& ~~~Y) Y h1;rw[h2] at h3;have h4:=BitVec.add_sub_cancel (X &&& ~~~Y) Y;rw[h3] at h4;exact h4.symm
theorem set_same {fl op:Int} {on:Bool} (hf:0≤fl∧fl<18446744073709551616) (h:AW op=true) (hh:hasI fl op=on):LS fl op on=fl:=by
 rw[SR fl op h] at hh;unfold LS;rw[if_pos h,SN h];cases on with
 |true=>
  rw[if_pos rfl,wrapB];have e:BitVec.ofInt 64 fl ||| BitVec.twoPow 64 (op-30).toNat=BitVec.ofInt 64 fl:=by
   apply BitVec.eq_of_getLsbD_eq;intro i hi;simp only[BitVec.getLsbD_or,BitVec.getLsbD_twoPow];by_cases hb:(op-30).toNat=i
   ·subst hb;rw[hh];rfl
   ·simp[hb]
  rw[e,QI hf]
 |false=>
  rw[if_neg (by decide),wrapB];have e:BitVec.ofInt 64 fl &&& ~~~(BitVec.twoPow 64 (op-30).toNat)=BitVec.ofInt 64 fl:=by
   apply BitVec.eq_of_getLsbD_eq;intro i hi;simp only[BitVec.getLsbD_and,BitVec.getLsbD_not,BitVec.getLsbD_twoPow];by_cases hb:(op-30).toNat=i
   ·subst hb;rw[hh];rfl
   ·simp[hb,hi]
  rw[e,QI hf]
theorem set_on {fl op:Int} (h:AW op=true) (hh:hasI fl op=false):LS fl op true=IntKind.u64.wrap (fl+FK op):=by
 rw[SR fl op h] at hh;unfold LS;rw[if_pos h,if_pos rfl,wrapB,wrapU,BitVec.ofInt_add,SN h,BitVec.add_eq_or_of_and_eq_zero];rw[BitVec.and_twoPow,hh];rfl
theorem set_off {fl op:Int} (h:AW op=true) (hh:hasI fl op=true):LS fl op false=IntKind.u64.wrap (fl-FK op):=by
 rw[SR fl op h] at hh;unfold LS;rw[if_pos h,if_neg (by decide),wrapB,wrapU,Int.sub_eq_add_neg,BitVec.ofInt_add,BitVec.ofInt_neg,←BitVec.sub_eq_add_neg,SN h,and_sub];rw[BitVec.and_twoPow,hh];rfl
theorem set_rng {fl op:Int} {on:Bool} (hf:0≤fl∧fl<18446744073709551616):0≤LS fl op on∧LS fl op on<18446744073709551616:=by
 have hw: ∀x,0≤IntKind.u64.wrap x∧IntKind.u64.wrap x<18446744073709551616:=fun x=>by
  show 0≤x % 18446744073709551616∧x % 18446744073709551616<18446744073709551616;omega
 unfold LS;split
 ·split;·exact hw _
  ·exact hw _
 ·exact hf
end Go.Proofs.YtdplnedpbkpgpaaGreatDoor
namespace Go.Proofs.YtdplnedpbkpgpaaGreatDoor
open Go.RowKit
theorem ZF (A:Option Addr) (ks:List Int) (cap:Nat) (w:World) (h:RdI w A ks) (hl:ks.length≤maxLen):Calls Tryz.prog 105 #[.slice A ks.length cap] w fun e w'=>e = .returned (.bool (GX ks))∧w=w':=by
 unfold maxLen at hl;obtain⟨n,hn⟩: ∃n,n=ks.length:=⟨_,rfl⟩;obtain⟨R,hR⟩: ∃R,R=GX ks:=⟨_,rfl⟩;rw[←hR];rw[←hn] at hl⊢;have HR:=AB hR;have HN:=AB hn;clear hR hn;go_enter Tryz.func105,Tryz.ntmps105
 go_wp2
 go_loop [7] (fun i=>∃k:Nat,k≤n∧i = .int .i64 k∧Good ks k) (fun i=>n-(intOf i).toNat)
 case atStart=>exact⟨0,by omega,rfl,fun i hi=>by omega⟩
 case round=>
  obtain⟨k,hk,rfl,hg⟩:=hrel;by_cases hlt:k<n
  ·obtain⟨b,off,x,rfl,hb,hx,hc⟩:=h.at k (by rw[←HN.out];exact hlt);have hga:GS ks k=(IJ x && !(decide (x=6)&&decide (k+1<n))):=by
    unfold GS;rw[List.getD_eq_getElem?_getD,hx,HN.out];rfl
   have hg':GS ks k=true→Good ks (k+1):=fun h i hi=>by
    by_cases e:i=k
    ·rw[e];exact h
    ·exact hg i (by omega)
   have hnot:GS ks k=false→R=false:=fun h=>by rw[HR.out];exact XJ (by rw[←HN.out];exact hlt) h
   rw[hga] at hg' hnot;replace hg':=AB hg';replace hnot:=AB hnot;clear hga hx;replace hg:=AB hg;have hk1:IJ x=(decide (1≤x)&&decide (x≤6)):=rfl;by_cases h1:1≤x
   ·by_cases h2:x≤6
    ·have hok:IJ x=true:=by rw[hk1];simp[h1,h2]
     have p1: ¬x<1:=by omega
     have p2: ¬(6:Int)<x:=by omega
     by_cases h6:x=6
     ·subst h6;by_cases hl2:k+1<n
      ·obtain rfl:R=false:=hnot.out (by simp[hok,hl2]);have hl3:((k:Int)!=(n:Int)-1)=true:=by simp;omega
       clear hg' hnot hok hk1;go_wp2
       go_ret
       exact⟨rfl,rfl⟩
      ·have hl3:((k:Int)!=(n:Int)-1)=false:=by simp;omega
       have hG:Good ks (k+1):=hg'.out (by simp[hok];omega);replace hG:=AB hG;clear hg' hnot hok hk1;go_wp2
       go_round
       case rel=>exact⟨k+1,by omega,by go_num,hG.out⟩
       case measure=>simp[intOf];omega
     ·have h6':(x==6)=false:=beq_eq_false_iff_ne.2 h6;have hG:Good ks (k+1):=hg'.out (by simp[hok,h6]);replace hG:=AB hG;clear hg' hnot hok hk1;go_wp2
      go_round
      case rel=>exact⟨k+1,by omega,by go_num,hG.out⟩
      case measure=>simp[intOf];omega
    ·have p1: ¬x<1:=by omega
     have p2:(6:Int)<x:=by omega
     obtain rfl:R=false:=hnot.out (by rw[hk1];simp[h2]);clear hg' hnot hk1;go_wp2
     go_ret
     exact⟨rfl,rfl⟩
   ·have p1:x<1:=by omega
    obtain rfl:R=false:=hnot.out (by rw[hk1];simp[h1]);clear hg' hnot hk1;go_wp2
    go_ret
    exact⟨rfl,rfl⟩
  ·obtain rfl:k=n:=by omega
   obtain rfl:R=true:=by rw[HR.out];exact KP.2 (fun i hi=>hg i (by rw[HN.out];exact hi))
   replace hg:=AB hg;go_wp2
   go_ret
   exact⟨rfl,rfl⟩
end Go.Proofs.YtdplnedpbkpgpaaGreatDoor
namespace Go.Proofs.YtdplnedpbkpgpaaGreatDoor
open Go.RowKit
theorem HZ (A:Option Addr) (l:List Int) (c:Nat) (w:World) (h:Rd w A l) (h4:4≤l.length) (hb: ∀x∈l,0≤x∧x<256):Calls Tryz.prog 63 #[.slice A l.length c] w fun e w'=>e = .returned (.int .u32 (be4 l))∧Only [] w w':=by
 have hx: ∀k,k<4→∃x,l[k]? = some x∧l.getD k 0=x∧0≤x∧x<256:=by
  intro k hk;refine⟨l[k]'(by omega),List.getElem?_eq_getElem (by omega),?_,hb _ (List.getElem_mem _)⟩;simp[List.getD,List.getElem?_eq_getElem (show k<l.length by omega)]
 obtain⟨x0,hx0,hd0,a0,b0⟩:=hx 0 (by omega);obtain⟨x1,hx1,hd1,a1,b1⟩:=hx 1 (by omega);obtain⟨x2,hx2,hd2,a2,b2⟩:=hx 2 (by omega);obtain⟨x3,hx3,hd3,a3,b3⟩:=hx 3 (by omega);obtain⟨b,off,rfl,hlt,hc⟩:=h (by omega);have c0:w.cell? ⟨b,off,none⟩=some (.int .u8 x0):=hc 0 x0 hx0;have c1:=hc 1 x1 hx1;have c2:=hc 2 x2 hx2;have c3:=hc 3 x3 hx3;have hbe:be4 l=x0*16777216+x1*65536+x2*256+x3:=by unfold be4;rw[hd0,hd1,hd2,hd3]
 rw[hbe];obtain⟨L,hL⟩: ∃L,l.length=L:=⟨_,rfl⟩;rw[hL] at h4⊢;clear hL hbe hd0 hd1 hd2 hd3 hx hx0 hx1 hx2 hx3 hc hb;have l0:(0:Int)<L:=by omega
 have l1:(1:Int)<L:=by omega
 have l2:(2:Int)<L:=by omega
 have l3:(3:Int)<L:=by omega
 have m0:0<L:=by omega
 have m1:1<L:=by omega
 have m2:2<L:=by omega
 have m3:3<L:=by omega
 go_enter Tryz.func63,Tryz.ntmps63
 go_wp2
 go_quiet (fail)
 go_wp2
 go_ret
 exact⟨rfl,(Only.refl _ _).drewN _⟩
end Go.Proofs.YtdplnedpbkpgpaaGreatDoor
namespace Go.Proofs.YtdplnedpbkpgpaaGreatDoor
open Go.RowKit
theorem GH {op:Int} (h:(30≤op∧op≤42)∨(50≤op∧op≤62)∨(70≤op∧op≤75)∨(90≤op∧op≤93)):AW op=true:=by
 simp only[AW,Bool.or_eq_true,Bool.and_eq_true,decide_eq_true_eq];omega
theorem FQ {op:Int} (h: ¬((30≤op∧op≤42)∨(50≤op∧op≤62)∨(70≤op∧op≤75)∨(90≤op∧op≤93))):AW op=false:=by
 cases hb:AW op with
 |false=>rfl
 |true=>
  simp only[AW,Bool.or_eq_true,Bool.and_eq_true,decide_eq_true_eq] at hb;omega
theorem UM (op:Int) (w:World):Calls Tryz.prog 108 #[.int .i64 op] w fun e w'=>e = .returned (.bool (AW op))∧Only [] w w':=by
 refine Hs.en Tryz.func108 [] [] [] [.c (.v (.int .i64 op))] (Mem.start0 w) ?_;refine Hs.e0 ?_;refine Hs.bool 5 (decide (op≥30)) (by kernel_rfl) (fun a0=>?_) (fun a0=>?_)
 ·replace a0:=of_decide_eq_true a0;refine Hs.eg [2] ?_;refine Hs.bool 9 (decide (op≤42)) (by kernel_rfl) (fun c0=>?_) (fun c0=>?_)
  ·replace c0:=of_decide_eq_true c0;refine Hs.eg [2,6,9,14,17,22,25] ?_;exact Hs.rt (v:=.bool true) Tryz.func108 fun w' H=>⟨by rw[GH (by omega)],H.only⟩
  ·replace c0:=of_decide_eq_false c0;refine Hs.eg [2,6] ?_;refine Hs.bool 12 (decide (op≥50)) (by kernel_rfl) (fun a1=>?_) (fun a1=>?_)
   ·replace a1:=of_decide_eq_true a1;refine Hs.eg [2,6,9] ?_;refine Hs.bool 17 (decide (op≤62)) (by kernel_rfl) (fun c1=>?_) (fun c1=>?_)
    ·replace c1:=of_decide_eq_true c1;refine Hs.eg [2,6,9,14,17,22,25] ?_;exact Hs.rt (v:=.bool true) Tryz.func108 fun w' H=>⟨by rw[GH (by omega)],H.only⟩
    ·replace c1:=of_decide_eq_false c1;refine Hs.eg [2,6,9,14] ?_;refine Hs.bool 20 (decide (op≥70)) (by kernel_rfl) (fun a2=>?_) (fun a2=>?_)
     ·replace a2:=of_decide_eq_true a2;refine Hs.eg [2,6,9,14,17] ?_;refine Hs.bool 25 (decide (op≤75)) (by kernel_rfl) (fun c2=>?_) (fun c2=>?_)
      ·replace c2:=of_decide_eq_true c2;refine Hs.eg [2,6,9,14,17,22,25] ?_;exact Hs.rt (v:=.bool true) Tryz.func108 fun w' H=>⟨by rw[GH (by omega)],H.only⟩
      ·replace c2:=of_decide_eq_false c2;refine Hs.eg [2,6,9,14,17,22] ?_;refine Hs.bool 28 (decide (op≥90)) (by kernel_rfl) (fun a3=>?_) (fun a3=>?_)
       ·replace a3:=of_decide_eq_true a3;refine Hs.eg [2,6,9,14,17,22,25] ?_;exact Hs.rt (v:=.bool (decide (op≤93))) Tryz.func108 fun w' H=>⟨by
         by_cases c:op≤93
         ·rw[GH (by omega)];simp[c]
         ·rw[FQ (by omega)];simp[c],H.only⟩
       ·replace a3:=of_decide_eq_false a3;refine Hs.eg [2,6,9,14,17,22,25] ?_;exact Hs.rt (v:=.bool false) Tryz.func108 fun w' H=>⟨by rw[FQ (by omega)],H.only⟩
     ·replace a2:=of_decide_eq_false a2;refine Hs.eg [2,6,9,14,17,22] ?_;refine Hs.bool 28 (decide (op≥90)) (by kernel_rfl) (fun a3=>?_) (fun a3=>?_)
      ·replace a3:=of_decide_eq_true a3;refine Hs.eg [2,6,9,14,17,22,25] ?_;exact Hs.rt (v:=.bool (decide (op≤93))) Tryz.func108 fun w' H=>⟨by
        by_cases c:op≤93
        ·rw[GH (by omega)];simp[c]
        ·rw[FQ (by omega)];simp[c],H.only⟩
      ·replace a3:=of_decide_eq_false a3;refine Hs.eg [2,6,9,14,17,22,25] ?_;exact Hs.rt (v:=.bool false) Tryz.func108 fun w' H=>⟨by rw[FQ (by omega)],H.only⟩
   ·replace a1:=of_decide_eq_false a1;refine Hs.eg [2,6,9,14] ?_;refine Hs.bool 20 (decide (op≥70)) (by kernel_rfl) (fun a2=>?_) (fun a2=>?_)
    ·replace a2:=of_decide_eq_true a2;refine Hs.eg [2,6,9,14,17] ?_;refine Hs.bool 25 (decide (op≤75)) (by kernel_rfl) (fun c2=>?_) (fun c2=>?_)
     ·replace c2:=of_decide_eq_true c2;refine Hs.eg [2,6,9,14,17,22,25] ?_;exact Hs.rt (v:=.bool true) Tryz.func108 fun w' H=>⟨by rw[GH (by omega)],H.only⟩
     ·replace c2:=of_decide_eq_false c2;refine Hs.eg [2,6,9,14,17,22] ?_;refine Hs.bool 28 (decide (op≥90)) (by kernel_rfl) (fun a3=>?_) (fun a3=>?_)
      ·replace a3:=of_decide_eq_true a3;refine Hs.eg [2,6,9,14,17,22,25] ?_;exact Hs.rt (v:=.bool (decide (op≤93))) Tryz.func108 fun w' H=>⟨by
        by_cases c:op≤93
        ·rw[GH (by omega)];simp[c]
        ·rw[FQ (by omega)];simp[c],H.only⟩
      ·replace a3:=of_decide_eq_false a3;refine Hs.eg [2,6,9,14,17,22,25] ?_;exact Hs.rt (v:=.bool false) Tryz.func108 fun w' H=>⟨by rw[FQ (by omega)],H.only⟩
    ·replace a2:=of_decide_eq_false a2;refine Hs.eg [2,6,9,14,17,22] ?_;refine Hs.bool 28 (decide (op≥90)) (by kernel_rfl) (fun a3=>?_) (fun a3=>?_)
     ·replace a3:=of_decide_eq_true a3;refine Hs.eg [2,6,9,14,17,22,25] ?_;exact Hs.rt (v:=.bool (decide (op≤93))) Tryz.func108 fun w' H=>⟨by
       by_cases c:op≤93
       ·rw[GH (by omega)];simp[c]
       ·rw[FQ (by omega)];simp[c],H.only⟩
     ·replace a3:=of_decide_eq_false a3;refine Hs.eg [2,6,9,14,17,22,25] ?_;exact Hs.rt (v:=.bool false) Tryz.func108 fun w' H=>⟨by rw[FQ (by omega)],H.only⟩
 ·replace a0:=of_decide_eq_false a0;refine Hs.eg [2,6] ?_;refine Hs.bool 12 (decide (op≥50)) (by kernel_rfl) (fun a1=>?_) (fun a1=>?_)
  ·replace a1:=of_decide_eq_true a1;refine Hs.eg [2,6,9] ?_;refine Hs.bool 17 (decide (op≤62)) (by kernel_rfl) (fun c1=>?_) (fun c1=>?_)
   ·replace c1:=of_decide_eq_true c1;refine Hs.eg [2,6,9,14,17,22,25] ?_;exact Hs.rt (v:=.bool true) Tryz.func108 fun w' H=>⟨by rw[GH (by omega)],H.only⟩
   ·replace c1:=of_decide_eq_false c1;refine Hs.eg [2,6,9,14] ?_;refine Hs.bool 20 (decide (op≥70)) (by kernel_rfl) (fun a2=>?_) (fun a2=>?_)
    ·replace a2:=of_decide_eq_true a2;refine Hs.eg [2,6,9,14,17] ?_;refine Hs.bool 25 (decide (op≤75)) (by kernel_rfl) (fun c2=>?_) (fun c2=>?_)
     ·replace c2:=of_decide_eq_true c2;refine Hs.eg [2,6,9,14,17,22,25] ?_;exact Hs.rt (v:=.bool true) Tryz.func108 fun w' H=>⟨by rw[GH (by omega)],H.only⟩
     ·replace c2:=of_decide_eq_false c2;refine Hs.eg [2,6,9,14,17,22] ?_;refine Hs.bool 28 (decide (op≥90)) (by kernel_rfl) (fun a3=>?_) (fun a3=>?_)
      ·replace a3:=of_decide_eq_true a3;refine Hs.eg [2,6,9,14,17,22,25] ?_;exact Hs.rt (v:=.bool (decide (op≤93))) Tryz.func108 fun w' H=>⟨by
        by_cases c:op≤93
        ·rw[GH (by omega)];simp[c]
        ·rw[FQ (by omega)];simp[c],H.only⟩
      ·replace a3:=of_decide_eq_false a3;refine Hs.eg [2,6,9,14,17,22,25] ?_;exact Hs.rt (v:=.bool false) Tryz.func108 fun w' H=>⟨by rw[FQ (by omega)],H.only⟩
    ·replace a2:=of_decide_eq_false a2;refine Hs.eg [2,6,9,14,17,22] ?_;refine Hs.bool 28 (decide (op≥90)) (by kernel_rfl) (fun a3=>?_) (fun a3=>?_)
     ·replace a3:=of_decide_eq_true a3;refine Hs.eg [2,6,9,14,17,22,25] ?_;exact Hs.rt (v:=.bool (decide (op≤93))) Tryz.func108 fun w' H=>⟨by
       by_cases c:op≤93
       ·rw[GH (by omega)];simp[c]
       ·rw[FQ (by omega)];simp[c],H.only⟩
     ·replace a3:=of_decide_eq_false a3;refine Hs.eg [2,6,9,14,17,22,25] ?_;exact Hs.rt (v:=.bool false) Tryz.func108 fun w' H=>⟨by rw[FQ (by omega)],H.only⟩
  ·replace a1:=of_decide_eq_false a1;refine Hs.eg [2,6,9,14] ?_;refine Hs.bool 20 (decide (op≥70)) (by kernel_rfl) (fun a2=>?_) (fun a2=>?_)
   ·replace a2:=of_decide_eq_true a2;refine Hs.eg [2,6,9,14,17] ?_;refine Hs.bool 25 (decide (op≤75)) (by kernel_rfl) (fun c2=>?_) (fun c2=>?_)
    ·replace c2:=of_decide_eq_true c2;refine Hs.eg [2,6,9,14,17,22,25] ?_;exact Hs.rt (v:=.bool true) Tryz.func108 fun w' H=>⟨by rw[GH (by omega)],H.only⟩
    ·replace c2:=of_decide_eq_false c2;refine Hs.eg [2,6,9,14,17,22] ?_;refine Hs.bool 28 (decide (op≥90)) (by kernel_rfl) (fun a3=>?_) (fun a3=>?_)
     ·replace a3:=of_decide_eq_true a3;refine Hs.eg [2,6,9,14,17,22,25] ?_;exact Hs.rt (v:=.bool (decide (op≤93))) Tryz.func108 fun w' H=>⟨by
       by_cases c:op≤93
       ·rw[GH (by omega)];simp[c]
       ·rw[FQ (by omega)];simp[c],H.only⟩
     ·replace a3:=of_decide_eq_false a3;refine Hs.eg [2,6,9,14,17,22,25] ?_;exact Hs.rt (v:=.bool false) Tryz.func108 fun w' H=>⟨by rw[FQ (by omega)],H.only⟩
   ·replace a2:=of_decide_eq_false a2;refine Hs.eg [2,6,9,14,17,22] ?_;refine Hs.bool 28 (decide (op≥90)) (by kernel_rfl) (fun a3=>?_) (fun a3=>?_)
    ·replace a3:=of_decide_eq_true a3;refine Hs.eg [2,6,9,14,17,22,25] ?_;exact Hs.rt (v:=.bool (decide (op≤93))) Tryz.func108 fun w' H=>⟨by
      by_cases c:op≤93
      ·rw[GH (by omega)];simp[c]
      ·rw[FQ (by omega)];simp[c],H.only⟩
    ·replace a3:=of_decide_eq_false a3;refine Hs.eg [2,6,9,14,17,22,25] ?_;exact Hs.rt (v:=.bool false) Tryz.func108 fun w' H=>⟨by rw[FQ (by omega)],H.only⟩
theorem QK (op:Int) (hop:30≤op∧op≤93) (w:World):Calls Tryz.prog 110 #[.int .i64 op] w fun e w'=>e = .returned (.int .u64 (FK op))∧Only [] w w':=by
 have J: ∀(d i:Nat),(op-30).toNat-i=d→i≤(op-30).toNat→∀(u:Nat→Value),Hs Tryz.prog 110 (fun e w'=>e = .returned (.int .u64 (FK op))∧Only [] w w') (Tryz.f110).ntmps w [] [] ⟨.no,AE Tryz.f110 0,BI [(0,.c (.v (.int .i64 op))),(3,.c (.v (.int .u64 ((2 ^ i:Nat):Int)))),(4,.c (.v (.int .i64 (30+(i:Int)))))] (.vals u),[]⟩:=by
  intro d;induction d with
  |zero=>
   intro i hd hi u;refine Hs.e0 ?_;refine Hs.cP (30+(i:Int)<op) (fun h=>by omega) (fun _=>?_);refine Hs.e0 ?_;exact Hs.rt (v:=.int .u64 ((2 ^ i:Nat):Int)) Tryz.func110 fun w' H=>⟨by
    unfold FK;rw[show i=(op-30).toNat by omega],H.only⟩
  |succ d ih=>
   intro i hd hi u;have hih:=fun u=>ih (i+1) (by omega) (by omega) u;clear ih;have hp:2 ^ (i+1)<2 ^ 64:=Nat.pow_lt_pow_right (by decide) (by omega);have e1:IntKind.u64.wrap (2*((2 ^ i:Nat):Int))=((2 ^ (i+1):Nat):Int):=by
    show(2*((2 ^ i:Nat):Int)) % 18446744073709551616=_;rw[Nat.pow_succ] at hp⊢;omega
   have e2:IntKind.i64.wrap (30+(i:Int)+1)=30+((i+1:Nat):Int):=by
    rw[IntWalk.i64_in _ (by omega)];push_cast
    omega
   refine Hs.e0 ?_;refine Hs.cP (30+(i:Int)<op) (fun _=>?_) (fun h=>by omega);refine Hs.e0 ?_;refine Hs.slot 3 (.c (.v (.int .u64 ((2 ^ (i+1):Nat):Int)))) rfl ((by kernel_rfl:_=Value.int .u64 (IntKind.u64.wrap (2*((2 ^ i:Nat):Int)))).trans (by rw[e1];rfl)) ?_;refine Hs.slot 4 (.c (.v (.int .i64 (30+((i+1:Nat):Int))))) rfl ((by kernel_rfl:_=Value.int .i64 (IntKind.i64.wrap (30+(i:Int)+1))).trans (by rw[e2];rfl)) ?_;refine Hs.lP ?_;exact Hs.goto (AE Tryz.f110 0) [] [] [(0,.c (.v (.int .i64 op))),(3,.c (.v (.int .u64 ((2 ^ (i+1):Nat):Int)))),(4,.c (.v (.int .i64 (30+((i+1:Nat):Int)))))] (by kernel_rfl) (by decide) (by kernel_rfl) (by kernel_rfl) (fun _=>(by kernel_rfl)) (fun u=>hih u)
 refine Hs.en Tryz.func110 [] [] [] [.c (.v (.int .i64 op))] (Mem.start0 w) ?_;refine Hs.e0 ?_;refine Hs.lP ?_;exact Hs.goto (AE Tryz.f110 0) [] [] [(0,.c (.v (.int .i64 op))),(3,.c (.v (.int .u64 ((2 ^ 0:Nat):Int)))),(4,.c (.v (.int .i64 (30+((0:Nat):Int)))))] (by kernel_rfl) (by decide) (by kernel_rfl) (by kernel_rfl) (fun _=>(by kernel_rfl)) (fun u=>J (op-30).toNat 0 (by omega) (by omega) u)
theorem run_quoU {P:Program} {T:TypeId} {a b:Int} (hb:b≠0) (w:World):(binOp .quo T (.int .u64 a) (.int .u64 b)).run P w = .ok (.int .u64 (IntKind.u64.wrap (a.tdiv b))) w:=by
 simp[binOp,Op.intDiv,hb]
theorem r8has_any (t:TM) (ht:0≤t.fl∧t.fl<18446744073709551616) (op:Int) (w:World):Calls Tryz.prog 109 #[t.val,.int .i64 op] w fun e w'=>e = .returned (.bool (t.has op))∧Only [] w w':=by
 refine Hs.en Tryz.func109 [] [] [] [.g t.sc,.c (.v (.int .i64 op))] (Mem.start0 w) ?_;refine Hs.e1 fun b0=>?_;refine Hs.any [0] (by kernel_rfl) ?_;refine Hs.e0 ?_;refine Hs.cV (fun w' H=>UM op w') ?_;refine Hs.e0 ?_;refine Hs.bool 7 (AW op) (by kernel_rfl) (fun h1=>?_) (fun h1=>?_)
 ·refine Hs.eg [2] ?_;refine Hs.cV (fun w' H=>QK op (TN h1) w') ?_;refine Hs.sel1 7 (by kernel_rfl) ?_;refine Hs.rung0 [2] 1 (fun _=>by kernel_rfl) ?_;have hb0:0<FK op:=by
   unfold FK;have:=Nat.two_pow_pos (op-30).toNat;omega
  refine Hs.bin (op:=.quo) (T:=26) (k:=.u64) (k':=.u64) (a:=t.fl) (b:=FK op) (.int .u64 (t.fl.tdiv (FK op))) (by kernel_rfl) (fun w=>by
   rw[run_quoU (by omega)];congr 2
   have h2:0≤t.fl.tdiv (FK op):=Int.tdiv_nonneg ht.1 (by omega);have h3:t.fl.tdiv (FK op)≤t.fl:=by
    rw[Int.tdiv_eq_ediv_of_nonneg ht.1];exact Int.ediv_le_self _ ht.1
   show t.fl.tdiv (FK op) % 18446744073709551616=_;omega) ?_
  refine Hs.eg [2] ?_;have e:t.has op=decide ((t.fl.tdiv (FK op)).tmod 2=1):=by
   unfold TM.has;rw[has_div ht h1]
  exact Hs.rt (v:=.bool ((t.fl.tdiv (FK op)).tmod 2==1)) Tryz.func109 fun w' H=>⟨by rw[e];rfl,H.only⟩
 ·refine Hs.eg [2] ?_;have e:t.has op=false:=by unfold TM.has hasI;rw[h1];rfl
  exact Hs.rt (v:=.bool false) Tryz.func109 fun w' H=>⟨by rw[e],H.only⟩
theorem CV (t:TM) (ht:0≤t.fl∧t.fl<18446744073709551616) (op:Int) (on:Bool) (w:World):Calls Tryz.prog 64 #[t.val,.int .i64 op,.bool on] w fun e w'=>e = .returned (t.set op on).val∧Only [] w w':=by
 refine Hs.en Tryz.func64 [] [] [] [.g t.sc,.c (.v (.int .i64 op)),.c (.v (.bool on))] (Mem.start0 w) ?_;have key: ∀x:TM,x=t→(∀(e:Ending) (w':World),e = .returned x.val∧Only [] w w'→e = .returned t.val∧Only [] w w'):=fun x hx e w' h=>by rw[←hx];exact h
 refine Hs.e2 fun b0 b1=>?_;refine Hs.cV (fun w' H=>UM op w') ?_;refine Hs.e0 ?_;refine Hs.bool 10 (!AW op) (by kernel_rfl) (fun h1=>?_) (fun h1=>?_)
 ·refine Hs.eg [3] ?_;refine Hs.cT ?_;refine Hs.e0 ?_;have e:t.set op on=t:=by
   unfold TM.set LS;rw[if_neg (by simpa using h1)]
  rw[e];exact Hs.rt (v:=t.val) Tryz.func64 fun w' H=>⟨rfl,H.only⟩
 replace h1:AW op=true:=by simpa using h1
 refine Hs.eg [3] ?_;refine Hs.cV (fun w' H=>r8has_any t ht op w') ?_;refine Hs.eg [3] ?_;refine Hs.cn (t.has op==on) (fun h2=>?_) (fun h2=>?_)
 ·refine Hs.e0 ?_;have e:t.set op on=t:=by
   unfold TM.set;have h3:t.has op=on:=by simpa using h2
   rw[set_same ht h1 h3]
  rw[e];exact Hs.rt (v:=t.val) Tryz.func64 fun w' H=>⟨rfl,H.only⟩
 have hb:=TN h1;cases on with
 |true=>
  have hh:hasI t.fl op=false:=by
   have:t.has op=false:=by simpa using h2
   exact this
  have e:t.set op true = { t with fl:=IntKind.u64.wrap (t.fl+FK op) }:=by unfold TM.set;rw[set_on h1 hh]
  rw[e];refine Hs.e0 ?_;refine Hs.cT ?_;refine Hs.e0 ?_;refine Hs.any [0,1006] (by kernel_rfl) ?_;refine Hs.e0 ?_;refine Hs.cV (fun w' H=>QK op hb w') ?_;refine Hs.e0 ?_;exact Hs.rt (v:=TM.val { t with fl:=IntKind.u64.wrap (t.fl+FK op) }) Tryz.func64 fun w' H=>⟨rfl,H.only⟩
 |false=>
  have hh:hasI t.fl op=true:=by
   have:t.has op=true:=by simpa using h2
   exact this
  have e:t.set op false = { t with fl:=IntKind.u64.wrap (t.fl-FK op) }:=by unfold TM.set;rw[set_off h1 hh]
  rw[e];refine Hs.e0 ?_;refine Hs.cF ?_;refine Hs.e0 ?_;refine Hs.any [0,1006] (by kernel_rfl) ?_;refine Hs.e0 ?_;refine Hs.cV (fun w' H=>QK op hb w') ?_;refine Hs.e0 ?_;exact Hs.rt (v:=TM.val { t with fl:=IntKind.u64.wrap (t.fl-FK op) }) Tryz.func64 fun w' H=>⟨rfl,H.only⟩
def t8 (fl:Int):TM:=⟨LT.ch,fl,38400,38400,1,0⟩
def NN:Value:=.agg #[.int .i64 36,.int .i64 38,.int .i64 41,.int .i64 50,.int .i64 51,.int .i64 53,.int .i64 54,.int .i64 55,.int .i64 60,.int .i64 61,.int .i64 59,.int .i64 70,.int .i64 72,.int .i64 91]
abbrev R8 (w:World):Ending→World→Prop:=fun e w'=>e = .returned LT.val∧Only [] w w'
abbrev S8 (w:World) (g0 g1:Nat) (k:Nat) (fl:Int) (u:Nat→Value):Prop:=Hs Tryz.prog 33 (R8 w) (Tryz.f33).ntmps w [] [g0,g1] ⟨.no,AE Tryz.f33 2,BI [(0,.c (.p 0 0)),(1,.c (.p 1 0)),(38,.c (.v NN)),(39,.c (.v (.int .i64 k)))] (.vals u),[.b true 28 AJ.sc,.b true 28 (t8 fl).sc]⟩
theorem r8D_14 (w:World) (g0 g1:Nat) (u:Nat→Value):S8 w g0 g1 14 2305848510591797568 u:=by
 refine Hs.e0 ?_;refine Hs.cF ?_;refine Hs.e0 ?_;exact Hs.rt (v:=LT.val) Tryz.func33 fun w' H=>⟨rfl,H.only⟩
theorem r8D_13 (w:World) (g0 g1:Nat) (u:Nat→Value):S8 w g0 g1 13 5501378103616 u:=by
 refine Hs.e0 ?_;refine Hs.cT ?_;refine Hs.e0 ?_;refine Hs.cV (v:=(t8 2305848510591797568).val) (fun w' H=>(CV (t8 5501378103616) (by decide) 91 true w').mono fun e w1 h=>⟨h.1.trans (by kernel_rfl),h.2⟩) ?_;refine Hs.e0 ?_;refine Hs.lP ?_;exact Hs.goto (AE Tryz.f33 2) [0,1] [.b true 28 AJ.sc,.b true 28 (t8 2305848510591797568).sc] [(0,.c (.p 0 0)),(1,.c (.p 1 0)),(38,.c (.v NN)),(39,.c (.v (.int .i64 (14:Nat))))] (by kernel_rfl) (by decide) (by kernel_rfl) (by kernel_rfl) (fun _=>(by kernel_rfl)) (fun u=>r8D_14 w g0 g1 u)
theorem r8D_12 (w:World) (g0 g1:Nat) (u:Nat→Value):S8 w g0 g1 12 1103331592512 u:=by
 refine Hs.e0 ?_;refine Hs.cT ?_;refine Hs.e0 ?_;refine Hs.cV (v:=(t8 5501378103616).val) (fun w' H=>(CV (t8 1103331592512) (by decide) 72 true w').mono fun e w1 h=>⟨h.1.trans (by kernel_rfl),h.2⟩) ?_;refine Hs.e0 ?_;refine Hs.lP ?_;exact Hs.goto (AE Tryz.f33 2) [0,1] [.b true 28 AJ.sc,.b true 28 (t8 5501378103616).sc] [(0,.c (.p 0 0)),(1,.c (.p 1 0)),(38,.c (.v NN)),(39,.c (.v (.int .i64 (13:Nat))))] (by kernel_rfl) (by decide) (by kernel_rfl) (by kernel_rfl) (fun _=>(by kernel_rfl)) (fun u=>r8D_13 w g0 g1 u)
theorem r8D_11 (w:World) (g0 g1:Nat) (u:Nat→Value):S8 w g0 g1 11 3819964736 u:=by
 refine Hs.e0 ?_;refine Hs.cT ?_;refine Hs.e0 ?_;refine Hs.cV (v:=(t8 1103331592512).val) (fun w' H=>(CV (t8 3819964736) (by decide) 70 true w').mono fun e w1 h=>⟨h.1.trans (by kernel_rfl),h.2⟩) ?_;refine Hs.e0 ?_;refine Hs.lP ?_;exact Hs.goto (AE Tryz.f33 2) [0,1] [.b true 28 AJ.sc,.b true 28 (t8 1103331592512).sc] [(0,.c (.p 0 0)),(1,.c (.p 1 0)),(38,.c (.v NN)),(39,.c (.v (.int .i64 (12:Nat))))] (by kernel_rfl) (by decide) (by kernel_rfl) (by kernel_rfl) (fun _=>(by kernel_rfl)) (fun u=>r8D_12 w g0 g1 u)
theorem r8D_10 (w:World) (g0 g1:Nat) (u:Nat→Value):S8 w g0 g1 10 3283093824 u:=by
 refine Hs.e0 ?_;refine Hs.cT ?_;refine Hs.e0 ?_;refine Hs.cV (v:=(t8 3819964736).val) (fun w' H=>(CV (t8 3283093824) (by decide) 59 true w').mono fun e w1 h=>⟨h.1.trans (by kernel_rfl),h.2⟩) ?_;refine Hs.e0 ?_;refine Hs.lP ?_;exact Hs.goto (AE Tryz.f33 2) [0,1] [.b true 28 AJ.sc,.b true 28 (t8 3819964736).sc] [(0,.c (.p 0 0)),(1,.c (.p 1 0)),(38,.c (.v NN)),(39,.c (.v (.int .i64 (11:Nat))))] (by kernel_rfl) (by decide) (by kernel_rfl) (by kernel_rfl) (fun _=>(by kernel_rfl)) (fun u=>r8D_11 w g0 g1 u)
theorem r8D_9 (w:World) (g0 g1:Nat) (u:Nat→Value):S8 w g0 g1 9 1135610176 u:=by
 refine Hs.e0 ?_;refine Hs.cT ?_;refine Hs.e0 ?_;refine Hs.cV (v:=(t8 3283093824).val) (fun w' H=>(CV (t8 1135610176) (by decide) 61 true w').mono fun e w1 h=>⟨h.1.trans (by kernel_rfl),h.2⟩) ?_;refine Hs.e0 ?_;refine Hs.lP ?_;exact Hs.goto (AE Tryz.f33 2) [0,1] [.b true 28 AJ.sc,.b true 28 (t8 3283093824).sc] [(0,.c (.p 0 0)),(1,.c (.p 1 0)),(38,.c (.v NN)),(39,.c (.v (.int .i64 (10:Nat))))] (by kernel_rfl) (by decide) (by kernel_rfl) (by kernel_rfl) (fun _=>(by kernel_rfl)) (fun u=>r8D_10 w g0 g1 u)
theorem r8D_8 (w:World) (g0 g1:Nat) (u:Nat→Value):S8 w g0 g1 8 61868352 u:=by
 refine Hs.e0 ?_;refine Hs.cT ?_;refine Hs.e0 ?_;refine Hs.cV (v:=(t8 1135610176).val) (fun w' H=>(CV (t8 61868352) (by decide) 60 true w').mono fun e w1 h=>⟨h.1.trans (by kernel_rfl),h.2⟩) ?_;refine Hs.e0 ?_;refine Hs.lP ?_;exact Hs.goto (AE Tryz.f33 2) [0,1] [.b true 28 AJ.sc,.b true 28 (t8 1135610176).sc] [(0,.c (.p 0 0)),(1,.c (.p 1 0)),(38,.c (.v NN)),(39,.c (.v (.int .i64 (9:Nat))))] (by kernel_rfl) (by decide) (by kernel_rfl) (by kernel_rfl) (fun _=>(by kernel_rfl)) (fun u=>r8D_9 w g0 g1 u)
theorem r8D_7 (w:World) (g0 g1:Nat) (u:Nat→Value):S8 w g0 g1 7 28313920 u:=by
 refine Hs.e0 ?_;refine Hs.cT ?_;refine Hs.e0 ?_;refine Hs.cV (v:=(t8 61868352).val) (fun w' H=>(CV (t8 28313920) (by decide) 55 true w').mono fun e w1 h=>⟨h.1.trans (by kernel_rfl),h.2⟩) ?_;refine Hs.e0 ?_;refine Hs.lP ?_;exact Hs.goto (AE Tryz.f33 2) [0,1] [.b true 28 AJ.sc,.b true 28 (t8 61868352).sc] [(0,.c (.p 0 0)),(1,.c (.p 1 0)),(38,.c (.v NN)),(39,.c (.v (.int .i64 (8:Nat))))] (by kernel_rfl) (by decide) (by kernel_rfl) (by kernel_rfl) (fun _=>(by kernel_rfl)) (fun u=>r8D_8 w g0 g1 u)
theorem r8D_6 (w:World) (g0 g1:Nat) (u:Nat→Value):S8 w g0 g1 6 11536704 u:=by
 refine Hs.e0 ?_;refine Hs.cT ?_;refine Hs.e0 ?_;refine Hs.cV (v:=(t8 28313920).val) (fun w' H=>(CV (t8 11536704) (by decide) 54 true w').mono fun e w1 h=>⟨h.1.trans (by kernel_rfl),h.2⟩) ?_;refine Hs.e0 ?_;refine Hs.lP ?_;exact Hs.goto (AE Tryz.f33 2) [0,1] [.b true 28 AJ.sc,.b true 28 (t8 28313920).sc] [(0,.c (.p 0 0)),(1,.c (.p 1 0)),(38,.c (.v NN)),(39,.c (.v (.int .i64 (7:Nat))))] (by kernel_rfl) (by decide) (by kernel_rfl) (by kernel_rfl) (fun _=>(by kernel_rfl)) (fun u=>r8D_7 w g0 g1 u)
theorem r8D_5 (w:World) (g0 g1:Nat) (u:Nat→Value):S8 w g0 g1 5 3148096 u:=by
 refine Hs.e0 ?_;refine Hs.cT ?_;refine Hs.e0 ?_;refine Hs.cV (v:=(t8 11536704).val) (fun w' H=>(CV (t8 3148096) (by decide) 53 true w').mono fun e w1 h=>⟨h.1.trans (by kernel_rfl),h.2⟩) ?_;refine Hs.e0 ?_;refine Hs.lP ?_;exact Hs.goto (AE Tryz.f33 2) [0,1] [.b true 28 AJ.sc,.b true 28 (t8 11536704).sc] [(0,.c (.p 0 0)),(1,.c (.p 1 0)),(38,.c (.v NN)),(39,.c (.v (.int .i64 (6:Nat))))] (by kernel_rfl) (by decide) (by kernel_rfl) (by kernel_rfl) (fun _=>(by kernel_rfl)) (fun u=>r8D_6 w g0 g1 u)
theorem r8D_4 (w:World) (g0 g1:Nat) (u:Nat→Value):S8 w g0 g1 4 1050944 u:=by
 refine Hs.e0 ?_;refine Hs.cT ?_;refine Hs.e0 ?_;refine Hs.cV (v:=(t8 3148096).val) (fun w' H=>(CV (t8 1050944) (by decide) 51 true w').mono fun e w1 h=>⟨h.1.trans (by kernel_rfl),h.2⟩) ?_;refine Hs.e0 ?_;refine Hs.lP ?_;exact Hs.goto (AE Tryz.f33 2) [0,1] [.b true 28 AJ.sc,.b true 28 (t8 3148096).sc] [(0,.c (.p 0 0)),(1,.c (.p 1 0)),(38,.c (.v NN)),(39,.c (.v (.int .i64 (5:Nat))))] (by kernel_rfl) (by decide) (by kernel_rfl) (by kernel_rfl) (fun _=>(by kernel_rfl)) (fun u=>r8D_5 w g0 g1 u)
theorem r8D_3 (w:World) (g0 g1:Nat) (u:Nat→Value):S8 w g0 g1 3 2368 u:=by
 refine Hs.e0 ?_;refine Hs.cT ?_;refine Hs.e0 ?_;refine Hs.cV (v:=(t8 1050944).val) (fun w' H=>(CV (t8 2368) (by decide) 50 true w').mono fun e w1 h=>⟨h.1.trans (by kernel_rfl),h.2⟩) ?_;refine Hs.e0 ?_;refine Hs.lP ?_;exact Hs.goto (AE Tryz.f33 2) [0,1] [.b true 28 AJ.sc,.b true 28 (t8 1050944).sc] [(0,.c (.p 0 0)),(1,.c (.p 1 0)),(38,.c (.v NN)),(39,.c (.v (.int .i64 (4:Nat))))] (by kernel_rfl) (by decide) (by kernel_rfl) (by kernel_rfl) (fun _=>(by kernel_rfl)) (fun u=>r8D_4 w g0 g1 u)
theorem r8D_2 (w:World) (g0 g1:Nat) (u:Nat→Value):S8 w g0 g1 2 320 u:=by
 refine Hs.e0 ?_;refine Hs.cT ?_;refine Hs.e0 ?_;refine Hs.cV (v:=(t8 2368).val) (fun w' H=>(CV (t8 320) (by decide) 41 true w').mono fun e w1 h=>⟨h.1.trans (by kernel_rfl),h.2⟩) ?_;refine Hs.e0 ?_;refine Hs.lP ?_;exact Hs.goto (AE Tryz.f33 2) [0,1] [.b true 28 AJ.sc,.b true 28 (t8 2368).sc] [(0,.c (.p 0 0)),(1,.c (.p 1 0)),(38,.c (.v NN)),(39,.c (.v (.int .i64 (3:Nat))))] (by kernel_rfl) (by decide) (by kernel_rfl) (by kernel_rfl) (fun _=>(by kernel_rfl)) (fun u=>r8D_3 w g0 g1 u)
theorem r8D_1 (w:World) (g0 g1:Nat) (u:Nat→Value):S8 w g0 g1 1 64 u:=by
 refine Hs.e0 ?_;refine Hs.cT ?_;refine Hs.e0 ?_;refine Hs.cV (v:=(t8 320).val) (fun w' H=>(CV (t8 64) (by decide) 38 true w').mono fun e w1 h=>⟨h.1.trans (by kernel_rfl),h.2⟩) ?_;refine Hs.e0 ?_;refine Hs.lP ?_;exact Hs.goto (AE Tryz.f33 2) [0,1] [.b true 28 AJ.sc,.b true 28 (t8 320).sc] [(0,.c (.p 0 0)),(1,.c (.p 1 0)),(38,.c (.v NN)),(39,.c (.v (.int .i64 (2:Nat))))] (by kernel_rfl) (by decide) (by kernel_rfl) (by kernel_rfl) (fun _=>(by kernel_rfl)) (fun u=>r8D_2 w g0 g1 u)
theorem ND (w:World):Calls Tryz.prog 33 #[] w fun e w'=>e = .returned LT.val∧Only [] w w':=by
 refine Hs.en Tryz.func33 [] [] [] [] (Mem.start0 w) ?_;refine Hs.runK [] 5000 14 Tryz.func33 rfl (by kernel_rfl) (fun ν=>by kernel_rfl) (fun ν=>by kernel_rfl) fun ν hν=>?_;obtain⟨g0,g1,a0,a1,a2,a3,a4,a5,a6,a7,a8,a9,a10,a11,rfl⟩: ∃g0 g1 a0 a1 a2 a3 a4 a5 a6 a7 a8 a9 a10 a11,ν=[g0,g1,a0,a1,a2,a3,a4,a5,a6,a7,a8,a9,a10,a11]:=by
  match ν,hν with
  |[g0,g1,a0,a1,a2,a3,a4,a5,a6,a7,a8,a9,a10,a11],_=>exact⟨g0,g1,a0,a1,a2,a3,a4,a5,a6,a7,a8,a9,a10,a11,rfl⟩
 refine Hs.cV (v:=(t8 64).val) (fun w' H=>(CV (t8 0) (by decide) 36 true w').mono fun e w1 h=>⟨h.1.trans (by kernel_rfl),h.2⟩) ?_;refine Hs.e0 ?_;refine Hs.lP ?_;exact Hs.goto (AE Tryz.f33 2) [0,1] [.b true 28 AJ.sc,.b true 28 (t8 64).sc] [(0,.c (.p 0 0)),(1,.c (.p 1 0)),(38,.c (.v NN)),(39,.c (.v (.int .i64 (1:Nat))))] (by kernel_rfl) (by decide) (by kernel_rfl) (by kernel_rfl) (fun _=>(by kernel_rfl)) (fun u=>r8D_1 w g0 g1 u)
def clA (fl:Int):Nat→Int
 |0=>fl
 |k+1=>LS (clA fl k) (30+(k:Int)) false
theorem aG (fl:Int) (k:Nat):clA fl (k+1)=LS (clA fl k) (30+(k:Int)) false:=rfl
theorem clA_rng {fl:Int} (h:0≤fl∧fl<18446744073709551616) (k:Nat):0≤clA fl k∧clA fl k<18446744073709551616:=by
 induction k with
 |zero=>exact h
 |succ k ih=>rw[aG];exact set_rng ih
theorem clA_rest (fl:Int):clA fl 64=UT fl flagL:=by kernel_rfl
theorem bK (t:TM) (ht:0≤t.fl∧t.fl<18446744073709551616) (w:World):Calls Tryz.prog 34 #[t.val] w fun e w'=>e = .returned (.bool (FH t))∧Only [] w w':=by
 have J: ∀(d k:Nat),64-k=d→k≤64→∀(b0 b1:Nat) (u:Nat→Value),Hs Tryz.prog 34 (fun e w'=>e = .returned (.bool (FH t))∧Only [] w w') (Tryz.f34).ntmps w [] [b0,b1] ⟨.no,AE Tryz.f34 0,BI [(1,.c (.p 0 0)),(3,.c (.p 1 0)),(4,.c (.v (.int .i64 (30+(k:Int)))))] (.vals u),[.b true 28 t.sc,.b true 28 (TM.sc { t with fl:=clA t.fl k })]⟩:=by
  intro d;induction d with
  |zero=>
   intro k hd hk b0 b1 u;obtain rfl:k=64:=by omega
   refine Hs.e0 ?_;refine Hs.cF ?_;rw[clA_rest];have e: ∀b,FH t=b→(.bool b:Value) = .bool (FH t):=fun b h=>by rw[h]
   refine Hs.e0 ?_;refine Hs.bool 16 (UT t.fl flagL==0) (by kernel_rfl) (fun h0=>?_) (fun h0=>?_)
   ·refine Hs.eg [3] ?_;refine Hs.bool 22 (t.ch 0==0) (by kernel_rfl) (fun h1=>?_) (fun h1=>?_)
    ·refine Hs.eg [3,9] ?_;refine Hs.bool 27 (decide (t.mn≥0)) (by kernel_rfl) (fun h2=>?_) (fun h2=>?_)
     ·refine Hs.eg [3,9,14] ?_;refine Hs.bool 32 (decide (t.mn≤255)) (by kernel_rfl) (fun h3=>?_) (fun h3=>?_)
      ·refine Hs.eg [3,9,14,19] ?_;refine Hs.bool 37 (decide (t.tm≥0)) (by kernel_rfl) (fun h4=>?_) (fun h4=>?_)
       ·refine Hs.eg [3,9,14,19,24] ?_;exact Hs.rt (v:=.bool (decide (t.tm≤255))) Tryz.func34 fun w' H=>⟨congrArg _ (e _ (by unfold FH;rw[h0,h1,h2,h3,h4];simp)),H.only⟩
       ·refine Hs.eg [3,9,14,19,24] ?_;exact Hs.rt (v:=.bool false) Tryz.func34 fun w' H=>⟨congrArg _ (e _ (by unfold FH;rw[h0,h1,h2,h3,h4];simp)),H.only⟩
      ·refine Hs.eg [3,9,14,19,24] ?_;exact Hs.rt (v:=.bool false) Tryz.func34 fun w' H=>⟨congrArg _ (e _ (by unfold FH;rw[h0,h1,h2,h3];simp)),H.only⟩
     ·refine Hs.eg [3,9,14,19,24] ?_;exact Hs.rt (v:=.bool false) Tryz.func34 fun w' H=>⟨congrArg _ (e _ (by unfold FH;rw[h0,h1,h2];simp)),H.only⟩
    ·refine Hs.eg [3,9,14,19,24] ?_;exact Hs.rt (v:=.bool false) Tryz.func34 fun w' H=>⟨congrArg _ (e _ (by unfold FH;rw[h0,h1];simp)),H.only⟩
   ·refine Hs.eg [3,9,14,19,24] ?_;exact Hs.rt (v:=.bool false) Tryz.func34 fun w' H=>⟨congrArg _ (e _ (by unfold FH;rw[h0];simp)),H.only⟩
  |succ d ih=>
   intro k hd hk b0 b1 u;have hih:=fun b0 b1 u=>ih (k+1) (by omega) (by omega) b0 b1 u;clear ih;have e2:IntKind.i64.wrap (30+(k:Int)+1)=30+((k+1:Nat):Int):=by
    rw[IntWalk.i64_in _ (by omega)];push_cast
    omega
   rw[aG] at hih;refine Hs.e0 ?_;refine Hs.cP (30+(k:Int)≤93) (fun _=>?_) (fun h=>by omega);refine Hs.e0 ?_;refine Hs.cV (v:=TM.val { t with fl:=LS (clA t.fl k) (30+(k:Int)) false }) (fun w' H=>CV { t with fl:=clA t.fl k } (clA_rng ht k) (30+(k:Int)) false w') ?_;refine Hs.e0 ?_;refine Hs.slot 4 (.c (.v (.int .i64 (30+((k+1:Nat):Int))))) rfl ((by kernel_rfl:_=Value.int .i64 (IntKind.i64.wrap (30+(k:Int)+1))).trans (by rw[e2];rfl)) ?_;refine Hs.lP ?_;exact Hs.goto (AE Tryz.f34 0) [0,1] [.b true 28 t.sc,.b true 28 (TM.sc { t with fl:=LS (clA t.fl k) (30+(k:Int)) false })] [(1,.c (.p 0 0)),(3,.c (.p 1 0)),(4,.c (.v (.int .i64 (30+((k+1:Nat):Int)))))] (by kernel_rfl) (by decide) (by kernel_rfl) (by kernel_rfl) (fun _=>(by kernel_rfl)) (fun u=>hih b0 b1 u)
 refine Hs.en Tryz.func34 [] [] [] [.g t.sc] (Mem.start0 w) ?_;refine Hs.e2 fun b0 b1=>?_;refine Hs.lP ?_;exact Hs.goto (AE Tryz.f34 0) [0,1] [.b true 28 t.sc,.b true 28 (TM.sc { t with fl:=clA t.fl 0 })] [(1,.c (.p 0 0)),(3,.c (.p 1 0)),(4,.c (.v (.int .i64 (30+((0:Nat):Int)))))] (by kernel_rfl) (by decide) (by kernel_rfl) (by kernel_rfl) (fun _=>(by kernel_rfl)) (fun u=>J 64 0 (by omega) (by omega) b0 b1 u)
def AC.sc (a:AC):List SC:=[.v (.bool a.ok),.v (.int .i64 a.what),.v (.int .i64 a.prog),.v (.int .i64 a.sig),.v (.int .u32 a.c0),.v (.int .u32 a.c1),.v (.int .u32 a.c2),.v (.int .u32 a.c3)]
def BS (s:SS) (A:Option Addr) (cap:Nat) (m:RQ) (pA:Option Addr) (pl pc:Nat) (a:AC):List SC:=s.sc A cap++(m.sc++(.v (.slice pA pl pc)::a.sc))
def askL (s:SS) (A:Option Addr) (cap:Nat) (m:RQ) (pA:Option Addr) (pl pc:Nat) (a:AC):List Value:=DE [] (BS s A cap m pA pl pc a)
theorem BF (β:List Nat) (s:SS) (A:Option Addr) (cap:Nat) (m:RQ) (pA:Option Addr) (pl pc:Nat) (a:AC):DE β (BS s A cap m pA pl pc a)=askL s A cap m pA pl pc a:=by kernel_rfl
abbrev JN (w:World) (g:Nat) (s:SS) (A:Option Addr) (cap:Nat) (m:RQ) (pA:Option Addr) (pl pc:Nat) (a:AC):Prop:=Blk w g 88 (askL s A cap m pA pl pc a)
def HT (w:World) (g:Nat) (A:Option Addr) (cap:Nat) (m:RQ) (pA:Option Addr) (pl pc:Nat) (r:SS×AC):Ending→World→Prop:=fun e w'=>e = .returned (.tuple #[])∧Only [g] w w'∧JN w' g r.1 A cap m pA pl pc r.2
theorem cell_far {w w':World} {g:Nat} {v:Value} (O:Only [g] w w') (h:w.cell? ⟨0,0,none⟩=some v) (hg:g≠0):w'.cell? ⟨0,0,none⟩=some v:=by
 have hb:=block_lt_of_cell h;rw[←h];exact World.cell?_of_block (w:=w) (w':=w') (O.block 0 hb (by simp[Ne.symm hg]))
section
variable {w w' : World} {g : Nat} {s s' : SS} {A : Option Addr} {cap : Nat} {m : RQ} {pA : Option Addr} {pl pc : Nat} {a a' : AC} {β : List Nat} {hp : List HB}
theorem Mem.ask (hB:JN w g s A cap m pA pl pc a):Mem w [g] [g] [.b true 88 (BS s A cap m pA pl pc a)] w:=Mem.one w g (by rw[BF];exact hB)
theorem Mem.askB (H:Mem w [g] β hp w') (hg:nm β 0=g) (hk:hp[0]? = some (.b true 88 (BS s' A cap m pA pl pc a'))):JN w' g s' A cap m pA pl pc a':=by
 have:=H.at 0 hk;rw[BF,hg] at this;exact this
theorem Mem.askE {r:SS×AC} (H:Mem w [g] β hp w') (hg:nm β 0=g) (hk:hp[0]? = some (.b true 88 (BS r.1 A cap m pA pl pc r.2))):HT w g A cap m pA pl pc r (.returned (.tuple #[])) w':=⟨rfl,H.only,H.askB hg hk⟩
end
section
variable (s : SS) (A : Option Addr) (cap : Nat) (m : RQ) (pA : Option Addr) (pc : Nat) (ps : List PR) (w : World) (g : Nat)
theorem MH (nm:ByteArray) (hB:JN w g s A cap m pA ps.length pc noA) (hr:RdX cPr w pA ps) (hl:ps.length≤maxLen) (hf: ∀a,pA=some a→0<ps.length→a.block≠g):Calls Tryz.prog 98 #[.pointer (some ⟨g,0,none⟩),.string nm] w (HT w g A cap m pA ps.length pc (CD s nm ps)):=by
 refine Hs.en Tryz.func98 [g] [g] [.b true 88 (BS s A cap m pA ps.length pc noA)] [.c (.p 0 0),.c (.v (.string nm))] (Mem.ask hB) ?_;unfold CD;refine Hs.e0 ?_;refine Hs.cV (fun w' H=>dB nm pA pc ps w' (hr.far H.only (fun a ha h0 hm=>hf a ha h0 (List.mem_singleton.1 hm))) hl) ?_;refine Hs.e0 ?_;refine Hs.bool 20 s.st (by kernel_rfl) (fun h1=>?_) (fun h1=>?_)
 ·refine Hs.eg [5] ?_;refine Hs.cT ?_;refine Hs.e0 ?_;rw[if_pos h1];exact Hs.rt (v:=.tuple #[]) Tryz.func98 fun w' H=>H.askE rfl (by kernel_rfl)
 ·refine Hs.eg [5] ?_;rw[if_neg (by rw[h1];decide)];refine Hs.cn (!HE nm ps) (fun h2=>?_) (fun h2=>?_)
  ·rw[if_neg (by simpa using h2)];refine Hs.e0 ?_;exact Hs.rt (v:=.tuple #[]) Tryz.func98 fun w' H=>H.askE rfl (by kernel_rfl)
  ·rw[if_pos (by simpa using h2)];refine Hs.runK [100,95] 1000 0 Tryz.func98 rfl (by kernel_rfl) (fun ν=>by kernel_rfl) (fun ν=>by kernel_rfl) fun ν hν=>?_;obtain rfl:=List.length_eq_zero_iff.1 hν;exact Hs.rt (v:=.tuple #[]) Tryz.func98 fun w' H=>H.askE rfl (by kernel_rfl)
theorem JZ (hB:JN w g s A cap m pA ps.length pc noA):Calls Tryz.prog 51 #[.pointer (some ⟨g,0,none⟩)] w (HT w g A cap m pA ps.length pc (s,noA)):=by
 refine Hs.en Tryz.func51 [g] [g] [.b true 88 (BS s A cap m pA ps.length pc noA)] [.c (.p 0 0)] (Mem.ask hB) ?_;refine Hs.e0 ?_;exact Hs.rt (v:=.tuple #[]) Tryz.func51 fun w' H=>H.askE rfl (by kernel_rfl)
theorem cB (hB:JN w g s A cap m pA ps.length pc noA) (hr:RdX cPr w pA ps) (hl:ps.length≤maxLen) (hf: ∀a,pA=some a→0<ps.length→a.block≠g):Calls Tryz.prog 54 #[.pointer (some ⟨g,0,none⟩)] w (HT w g A cap m pA ps.length pc (CD s IM ps)):=by
 refine Hs.en Tryz.func54 [g] [g] [.b true 88 (BS s A cap m pA ps.length pc noA)] [.c (.p 0 0)] (Mem.ask hB) ?_;generalize hz:CD s IM ps=z;refine Hs.e0 ?_;refine Hs.callP 0 88 (BS z.1 A cap m pA ps.length pc z.2) (v:=.tuple #[]) (fun w' H=>(MH s A cap m pA pc ps w' g IM (H.askB rfl (by kernel_rfl)) (hr.far H.only (fun a ha h0 hm=>hf a ha h0 (List.mem_singleton.1 hm))) hl hf).mono fun e w1 h=>by rw[hz] at h;rw[BF];exact h) (by kernel_rfl) (by kernel_rfl) ?_;refine Hs.e0 ?_;exact Hs.rt (v:=.tuple #[]) Tryz.func54 fun w' H=>H.askE rfl (by kernel_rfl)
theorem SK (hB:JN w g s A cap m pA ps.length pc noA) (hr:RdX cPr w pA ps) (hl:ps.length≤maxLen) (hf: ∀a,pA=some a→0<ps.length→a.block≠g):Calls Tryz.prog 56 #[.pointer (some ⟨g,0,none⟩)] w (HT w g A cap m pA ps.length pc (CD s m.text ps)):=by
 refine Hs.en Tryz.func56 [g] [g] [.b true 88 (BS s A cap m pA ps.length pc noA)] [.c (.p 0 0)] (Mem.ask hB) ?_;generalize hz:CD s m.text ps=z;refine Hs.e0 ?_;refine Hs.callP 0 88 (BS z.1 A cap m pA ps.length pc z.2) (v:=.tuple #[]) (fun w' H=>(MH s A cap m pA pc ps w' g m.text (H.askB rfl (by kernel_rfl)) (hr.far H.only (fun a ha h0 hm=>hf a ha h0 (List.mem_singleton.1 hm))) hl hf).mono fun e w1 h=>by rw[hz] at h;rw[BF];exact h) (by kernel_rfl) (by kernel_rfl) ?_;refine Hs.e0 ?_;exact Hs.rt (v:=.tuple #[]) Tryz.func56 fun w' H=>H.askE rfl (by kernel_rfl)
theorem dA (i0:Int) (h00:w.cell? ⟨0,0,none⟩=some (.int .i64 i0)) (hg0:g≠0) (hsz:m.text.size<4294967281) (hB:JN w g s A cap m pA ps.length pc noA) (hr:RdX cPr w pA ps) (hl:ps.length≤maxLen) (hf: ∀a,pA=some a→0<ps.length→a.block≠g):Calls Tryz.prog 55 #[.pointer (some ⟨g,0,none⟩)] w (HT w g A cap m pA ps.length pc (CD s (JX m.text) ps)):=by
 refine Hs.en Tryz.func55 [g] [g] [.b true 88 (BS s A cap m pA ps.length pc noA)] [.c (.p 0 0)] (Mem.ask hB) ?_;generalize hz:CD s (JX m.text) ps=z;refine Hs.e0 ?_;refine Hs.cV (v:=.tuple #[.string (JX m.text),.string ⟨(Lib.cut m.text.data.toList [32]).2.1.toArray⟩,.bool (Lib.cut m.text.data.toList [32]).2.2]) (fun w' H=>(Tryz.strings_Cut m.text ⟨#[32]⟩ i0 w' hsz (cell_far H.only h00 hg0)).mono fun e w1 ⟨h1,q,h2⟩=>⟨h1,by rw[h2];exact(Only.refl _ _).drewN q⟩) ?_;refine Hs.e0 ?_;refine Hs.callP 0 88 (BS z.1 A cap m pA ps.length pc z.2) (v:=.tuple #[]) (fun w' H=>(MH s A cap m pA pc ps w' g (JX m.text) (H.askB rfl (by kernel_rfl)) (hr.far H.only (fun a ha h0 hm=>hf a ha h0 (List.mem_singleton.1 hm))) hl hf).mono fun e w1 h=>by rw[hz] at h;rw[BF];exact h) (by kernel_rfl) (by kernel_rfl) ?_;refine Hs.e0 ?_;exact Hs.rt (v:=.tuple #[]) Tryz.func55 fun w' H=>H.askE rfl (by kernel_rfl)
theorem ZJ (hB:JN w g s A cap m pA ps.length pc noA):Calls Tryz.prog 57 #[.pointer (some ⟨g,0,none⟩)] w (HT w g A cap m pA ps.length pc (MG s m)):=by
 refine Hs.en Tryz.func57 [g] [g] [.b true 88 (BS s A cap m pA ps.length pc noA)] [.c (.p 0 0)] (Mem.ask hB) ?_;unfold MG;refine Hs.e0 ?_;refine Hs.cn (!s.pty) (fun h1=>?_) (fun h1=>?_)
 ·rw[if_neg (by simpa using h1)];refine Hs.e0 ?_;exact Hs.rt (v:=.tuple #[]) Tryz.func57 fun w' H=>H.askE rfl (by kernel_rfl)
 rw[if_pos (by simpa using h1)];refine Hs.e0 ?_;refine Hs.cn (!s.st) (fun h2=>?_) (fun h2=>?_)
 ·rw[if_neg (by simpa using h2)];refine Hs.runK [100,95] 1000 0 Tryz.func57 rfl (by kernel_rfl) (fun ν=>by kernel_rfl) (fun ν=>by kernel_rfl) fun ν hν=>?_;obtain rfl:=List.length_eq_zero_iff.1 hν;exact Hs.rt (v:=.tuple #[]) Tryz.func57 fun w' H=>H.askE rfl (by kernel_rfl)
 ·rw[if_pos (by simpa using h2)];refine Hs.runK [100,95] 1000 0 Tryz.func57 rfl (by kernel_rfl) (fun ν=>by kernel_rfl) (fun ν=>by kernel_rfl) fun ν hν=>?_;obtain rfl:=List.length_eq_zero_iff.1 hν;exact Hs.rt (v:=.tuple #[]) Tryz.func57 fun w' H=>H.askE rfl (by kernel_rfl)
theorem ZN (hB:JN w g s A cap m pA ps.length pc noA):Calls Tryz.prog 58 #[.pointer (some ⟨g,0,none⟩)] w (HT w g A cap m pA ps.length pc (PQ s m)):=by
 refine Hs.en Tryz.func58 [g] [g] [.b true 88 (BS s A cap m pA ps.length pc noA)] [.c (.p 0 0)] (Mem.ask hB) ?_;unfold PQ;refine Hs.e0 ?_;refine Hs.cV (fun w' H=>YM m.text w') ?_;refine Hs.e0 ?_;refine Hs.bool 19 (!s.st) (by kernel_rfl) (fun h1=>?_) (fun h1=>?_)
 ·refine Hs.eg [6,10] ?_;refine Hs.cT ?_;refine Hs.e0 ?_;rw[if_neg (by simpa using h1)];exact Hs.rt (v:=.tuple #[]) Tryz.func58 fun w' H=>H.askE rfl (by kernel_rfl)
 rw[if_pos (by simpa using h1)];refine Hs.eg [6] ?_;refine Hs.bool 23 (!FF m.text) (by kernel_rfl) (fun h2=>?_) (fun h2=>?_)
 ·refine Hs.eg [6,10] ?_;refine Hs.cT ?_;refine Hs.e0 ?_;rw[if_neg (by simpa using h2)];exact Hs.rt (v:=.tuple #[]) Tryz.func58 fun w' H=>H.askE rfl (by kernel_rfl)
 rw[if_pos (by simpa using h2)];refine Hs.eg [6,10] ?_;refine Hs.cV (fun w' H=>VK (FE m.text) w') ?_;refine Hs.eg [6,10] ?_;refine Hs.cn (!CL (FE m.text)) (fun h3=>?_) (fun h3=>?_)
 ·rw[if_neg (by simpa using h3)];refine Hs.e0 ?_;exact Hs.rt (v:=.tuple #[]) Tryz.func58 fun w' H=>H.askE rfl (by kernel_rfl)
 ·rw[if_pos (by simpa using h3)];refine Hs.runK [100,95] 1000 0 Tryz.func58 rfl (by kernel_rfl) (fun ν=>by kernel_rfl) (fun ν=>by kernel_rfl) fun ν hν=>?_;obtain rfl:=List.length_eq_zero_iff.1 hν;exact Hs.rt (v:=.tuple #[]) Tryz.func58 fun w' H=>H.askE rfl (by kernel_rfl)
end
section
variable {P : Program} {f : FuncId} {R : Ending → World → Prop} {n : Nat} {β : List Nat} {m : SM} {w0 : World} {L : List Nat}
theorem Hs.share1 {S:Nat→SM} {β':List Nat} (h1:(∀b,Hs P f R n w0 L (β'++[b]) (S b))→Hs P f R n w0 L β m) (h2: ∀b,Hs P f R n w0 L (β'++[b]) (S b)):Hs P f R n w0 L β m:=h1 h2
def keyM (n:Nat) (m:SM):RM×List Item×List HB×List SV×List Deferred:=⟨m.r,m.todo,m.hp,(List.range n).map m.sl.at,m.sl.ds⟩
theorem Hs.eqM {m':SM} (k:Hs P f R n w0 L β m') (h:keyM n m=keyM n m') (hw:m'.sl.wf m'.hp.length=true):Hs P f R n w0 L β m:=by
 obtain⟨r,td,sl,hp⟩:=m;obtain⟨r',td',sl',hp'⟩:=m';simp only[keyM,Prod.mk.injEq] at h;obtain⟨rfl,rfl,rfl,hs,hd⟩:=h;have e:fr n β sl=fr n β sl':=by
  unfold fr;rw[hd];congr 2
  refine List.map_congr_left fun i hi=>?_;have h1:=List.mem_range.1 hi;have h2:=congrArg (fun l=>l[i]?) hs;simp only[List.getElem?_map,List.getElem?_range h1,Option.map_some,Option.some.injEq] at h2;rw[h2]
 refine⟨fun w H W=>?_⟩;have W':SM.wf ⟨r,td,sl',hp⟩=true:=by
  unfold SM.wf at W⊢;simp only[Bool.and_eq_true] at W⊢;exact⟨hw,W.2⟩
 have g:=k.go w H W';unfold Gs at g⊢;dsimp only at g⊢;rw[e];exact g
end
section
variable (s : SS) (A : Option Addr) (cap : Nat) (m : RQ) (pA : Option Addr) (pc : Nat) (ps : List PR) (w : World) (g : Nat)
theorem UE (a:AC) (hB:JN w g s A cap m pA ps.length pc a):Calls Tryz.prog 95 #[.pointer (some ⟨g,0,none⟩)] w (HT w g A cap m pA ps.length pc (s,{ a with ok:=true })):=by
 refine Hs.en Tryz.func95 [g] [g] [.b true 88 (BS s A cap m pA ps.length pc a)] [.c (.p 0 0)] (Mem.ask hB) ?_;refine Hs.e0 ?_;exact Hs.rt (v:=.tuple #[]) Tryz.func95 fun w' H=>H.askE rfl (by kernel_rfl)
theorem pty_any27 (hB:JN w g s A cap m pA ps.length pc noA) (hm:RdU w m.mA m.mc m.modes) (hb: ∀x∈m.modes,0≤x∧x<256) (hf: ∀a,m.mA=some a→0<m.modes.length→a.block≠g):Calls Tryz.prog 52 #[.pointer (some ⟨g,0,none⟩)] w (HT w g A cap m pA ps.length pc (ptyM s m)):=by
 refine Hs.en Tryz.func52 [g] [g] [.b true 88 (BS s A cap m pA ps.length pc noA)] [.c (.p 0 0)] (Mem.ask hB) ?_;unfold ptyM;refine Hs.e0 ?_;refine Hs.bool 9 s.pty (by kernel_rfl) (fun h1=>?_) (fun h1=>?_)
 ·refine Hs.eg [5] ?_;refine Hs.cT ?_;refine Hs.e0 ?_;rw[if_pos h1];exact Hs.rt (v:=.tuple #[]) Tryz.func52 fun w' H=>H.askE rfl (by kernel_rfl)
 rw[if_neg (by rw[h1];decide)];refine Hs.eg [5] ?_;refine Hs.cn s.st (fun h2=>?_) (fun h2=>?_)
 ·rw[if_pos h2];refine Hs.e0 ?_;exact Hs.rt (v:=.tuple #[]) Tryz.func52 fun w' H=>H.askE rfl (by kernel_rfl)
 rw[if_neg (by rw[h2];decide)];refine Hs.e0 ?_;refine Hs.any [0] (by kernel_rfl) ?_;obtain⟨z,hz⟩: ∃z,z=AO LT m.modes:=⟨_,rfl⟩;rw[←hz];obtain⟨t2,e2⟩:=z;dsimp only;refine Hs.e0 ?_;apply Hs.share1 (β':=[g])
 ·intro K;refine Hs.branch2 5 10 (by kernel_rfl) ?_ ?_
  ·refine Hs.cV (fun w' H=>MV w') ?_;refine Hs.e0 ?_;refine Hs.branch2 6 10 (by kernel_rfl) ?_ ?_
   ·refine Hs.cV (v:=.tuple #[t2.val,.int .i64 e2]) (fun w' H=>by have:=LZ LT m.mA m.mc m.modes w' ⟨hm.1.far H.only (fun a ha h0 hm=>hf a ha h0 (List.mem_singleton.1 hm)),hm.2⟩ hb;rw[←hz] at this;exact this) ?_;refine Hs.e1 fun b1=>?_;exact K b1
   ·refine Hs.e1 fun b1=>?_;refine Hs.cV (v:=.tuple #[t2.val,.int .i64 e2]) (fun w' H=>by have:=LZ LT m.mA m.mc m.modes w' ⟨hm.1.far H.only (fun a ha h0 hm=>hf a ha h0 (List.mem_singleton.1 hm)),hm.2⟩ hb;rw[←hz] at this;exact this) ?_;refine Hs.e0 ?_;exact Hs.eqM (K b1) (by kernel_rfl) (by kernel_rfl)
  ·refine Hs.e1 fun b1=>?_;refine Hs.cV (fun w' H=>MV w') ?_;refine Hs.e0 ?_;refine Hs.cV (v:=.tuple #[t2.val,.int .i64 e2]) (fun w' H=>by have:=LZ LT m.mA m.mc m.modes w' ⟨hm.1.far H.only (fun a ha h0 hm=>hf a ha h0 (List.mem_singleton.1 hm)),hm.2⟩ hb;rw[←hz] at this;exact this) ?_;refine Hs.e0 ?_;exact Hs.eqM (K b1) (by kernel_rfl) (by kernel_rfl)
 intro b1;refine Hs.bool 28 (e2 !=0) (by kernel_rfl) (fun h3=>?_) (fun h3=>?_)
 ·rw[if_pos (by simpa using h3)];refine Hs.eg [2] ?_;refine Hs.cT ?_;refine Hs.e0 ?_;exact Hs.rt (v:=.tuple #[]) Tryz.func52 fun w' H=>H.askE rfl (by kernel_rfl)
 rw[if_neg (by simpa using h3)];refine Hs.eg [2] ?_;refine Hs.cV (v:=.bool (FH t2)) (fun w' H=>(right_any t2 w').mono fun e w1 ⟨h1,h2⟩=>⟨h1,NC h2⟩) ?_;refine Hs.eg [2] ?_;refine Hs.cn (!FH t2) (fun h4=>?_) (fun h4=>?_)
 ·rw[if_neg (by simpa using h4)];refine Hs.e0 ?_;exact Hs.rt (v:=.tuple #[]) Tryz.func52 fun w' H=>H.askE rfl (by kernel_rfl)
 rw[if_pos (by simpa using h4)];obtain⟨S2,hS⟩: ∃S2:SS,S2 = { s with pty:=true,term:=m.text,c0:=m.cols,c1:=m.rows,c2:=m.width,c3:=m.height,t:=t2 }:=⟨_,rfl⟩;rw[←hS];subst hS;refine Hs.e0 ?_;refine Hs.any [1] (by kernel_rfl) ?_;refine Hs.e0 ?_;refine Hs.branch2 8 13 (by kernel_rfl) ?_ ?_
 ·refine Hs.e0 ?_;refine Hs.callP 0 88 (BS ({ s with pty:=true,term:=m.text,c0:=m.cols,c1:=m.rows,c2:=m.width,c3:=m.height,t:=t2 }:SS) A cap m pA ps.length pc okA) (v:=.tuple #[]) (fun w' H=>(UE _ A cap m pA pc ps w' g noA (H.askB rfl (by kernel_rfl))).mono fun e w1 h=>by rw[BF];exact h) (by kernel_rfl) (by kernel_rfl) ?_;refine Hs.e0 ?_;exact Hs.rt (v:=.tuple #[]) Tryz.func52 fun w' H=>H.askE rfl (by kernel_rfl)
 ·refine Hs.e0 ?_;refine Hs.callP 0 88 (BS ({ s with pty:=true,term:=m.text,c0:=m.cols,c1:=m.rows,c2:=m.width,c3:=m.height,t:=t2 }:SS) A cap m pA ps.length pc okA) (v:=.tuple #[]) (fun w' H=>(UE _ A cap m pA pc ps w' g noA (H.askB rfl (by kernel_rfl))).mono fun e w1 h=>by rw[BF];exact h) (by kernel_rfl) (by kernel_rfl) ?_;refine Hs.e0 ?_;exact Hs.rt (v:=.tuple #[]) Tryz.func52 fun w' H=>H.askE rfl (by kernel_rfl)
end
def envFV (b:Nat):Value:=.func (.func 97) #[] #[.pointer (some ⟨b,0,none⟩)]
theorem Mem.env {w:World} {b g:Nat} {s:SS} {A:Option Addr} {cap:Nat} {m:RQ} {pA:Option Addr} {pl pc:Nat} {a:AC} (h:Blk w b 86 [.pointer (some ⟨g,0,none⟩)]) (hB:JN w g s A cap m pA pl pc a) (hbg:b≠g):Mem w [] [b,g] [.b false 86 [.p 1 0],.b false 88 (BS s A cap m pA pl pc a)] w:=by
 refine Mem.start _ _ _ _ rfl (fun k x hk=>?_) (fun k x y hk hw=>?_) (fun i j x y z hi hj ei ej=>?_)
 ·match k,hk with
  |0,hk=>injection hk with hk;subst hk;exact h
  |1,hk=>
   injection hk with hk;subst hk;show Blk w g 88 (DE [b,g] (BS s A cap m pA pl pc a));rw[BF];exact hB
 ·match k,hk with
  |0,hk=>injection hk with hk;subst hk;cases hw
  |1,hk=>injection hk with hk;subst hk;cases hw
 ·match i,j,hi,hj with
  |0,0,_,_=>rfl
  |1,1,_,_=>rfl
  |0,1,hi,hj=>
   injection hi with hi;injection hj with hj;subst hi;subst hj;injection ei with ei;injection ej with ej;exact absurd (ei.trans ej.symm) hbg
  |1,0,hi,hj=>
   injection hi with hi;injection hj with hj;subst hi;subst hj;injection ei with ei;injection ej with ej;exact absurd (ej.trans ei.symm) hbg
theorem dF (s:SS) (A1:Option Addr) (cap1:Nat) (m:RQ) (pA:Option Addr) (pl pc:Nat) (a:AC) (b g:Nat) (hbg:b≠g) (A:Option Addr) (c:Nat) (ps:List VR) (w:World) (h:Blk w b 86 [.pointer (some ⟨g,0,none⟩)]) (hB:JN w g s A1 cap1 m pA pl pc a) (hr:RdX AI w A ps) (hl:ps.length≤maxLen):Calls Tryz.prog 96 #[.slice A ps.length c,envFV b] w fun e w'=>e = .returned (.int .i64 (LO m.text ps))∧Only [] w w':=by
 have J: ∀(d i:Nat),ps.length-i=d→i≤ps.length→(∀x∈ps.take i,(x.n.toList==m.text.toList)=false)→∀(u:Nat→Value),Hs Tryz.prog 96 (fun e w'=>e = .returned (.int .i64 (LO m.text ps))∧Only [] w w') (Tryz.f96).ntmps w [] [b,g] ⟨.no,AE Tryz.f96 0,BI [(0,.c (.v (.slice A ps.length c))),(1,.c (.v (envFV b))),(7,.c (.v (.int .i64 ps.length))),(8,.c (.v (.int .i64 i)))] (.vals u),[.b false 86 [.p 1 0],.b false 88 (BS s A1 cap1 m pA pl pc a)]⟩:=by
  intro d;induction d with
  |zero=>
   intro i hd hi hno u;obtain rfl:i=ps.length:=by omega
   rw[List.take_length] at hno;have e:LO m.text ps = -1:=by
    unfold LO;have:=GT m.text [] ((ps.map VR.n)) 0 (fun s hs=>by
     obtain⟨x,hx,rfl⟩:=List.mem_map.1 hs;exact hno x hx)
    rw[List.append_nil] at this;rw[this];rfl
   rw[e];refine Hs.e0 ?_;refine Hs.cP ((ps.length:Int)<(ps.length:Int)) (fun h=>by omega) (fun _=>?_);refine Hs.e0 ?_;exact Hs.rt (v:=.int .i64 (-1)) Tryz.func96 fun w' H=>⟨rfl,H.only⟩
  |succ d ih=>
   intro i hd hi hno u;have hil:i<ps.length:=by omega
   obtain⟨x,hx⟩: ∃x,ps[i]? = some x:=⟨_,List.getElem?_eq_getElem hil⟩;obtain⟨ab,aoff,hA,_,_⟩:=hr (by omega);have hih:=fun h u=>ih (i+1) (by omega) (by omega) h u;clear ih;rw[hA] at hih hr⊢;refine Hs.e0 ?_;refine Hs.cP ((i:Int)<(ps.length:Int)) (fun _=>?_) (fun h=>by omega);refine Hs.e0 ?_;refine Hs.idx (b:=ab) (off:=aoff) (len:=ps.length) (c:=c) (i:=i) LW hil (by kernel_rfl) ?_;refine Hs.ldx (cf:=AI) (size:=2) (E:=59) (b:=ab) (off:=aoff) (i:=i) (l:=ps) (x:=x) DD (.g x.sc) (by kernel_rfl) (fun w' H=>hr.only H.only) hx (by kernel_rfl) (by kernel_rfl) rfl (by kernel_rfl) ?_;refine Hs.inl Tryz.func97 [.g x.sc,.c (.p 0 0)] (by kernel_rfl) (by kernel_rfl) ?_;refine Hs.e1 fun b2=>?_;refine Hs.any [0,1,2] (by kernel_rfl) ?_;refine Hs.e0 ?_;refine Hs.retI Tryz.func97 (by kernel_rfl) (by kernel_rfl) (by kernel_rfl) ?_;refine Hs.e0 ?_;refine Hs.cn (x.n.toList==m.text.toList) (fun h1=>?_) (fun h1=>?_)
   ·have e:LO m.text ps=i:=by
     unfold LO;have e2:(ps.map VR.n)=((ps.take i).map VR.n)++(x.n::((ps.drop (i+1)).map VR.n)):=by
      have e3:ps=ps.take i++x::ps.drop (i+1):=by
       have h3:=List.drop_eq_getElem_cons hil;rw[List.getElem?_eq_getElem hil] at hx;injection hx with hx;rw[hx] at h3;rw[←h3,List.take_append_drop]
      rw[←List.map_cons,←List.map_append,←e3]
     rw[e2,GT m.text _ _ 0 (fun s hs=>by
      obtain⟨y,hy,rfl⟩:=List.mem_map.1 hs;exact hno y hy),BG (by rw[←h1];exact Bool.beq_comm)]
     rw[List.length_map,List.length_take];omega
    rw[e];refine Hs.e0 ?_;exact Hs.rt (v:=.int .i64 i) Tryz.func96 fun w' H=>⟨rfl,H.only⟩
   ·refine Hs.e0 ?_;refine Hs.slot 8 (.c (.v (.int .i64 (i+1:Nat)))) rfl ((by kernel_rfl:_=Value.int .i64 (IntKind.i64.wrap ((i:Int)+1))).trans (BW hl)) ?_;refine Hs.lP ?_;exact Hs.goto (AE Tryz.f96 0) [0,1] [.b false 86 [.p 1 0],.b false 88 (BS s A1 cap1 m pA pl pc a)] [(0,.c (.v (.slice (some ⟨ab,aoff,none⟩) ps.length c))),(1,.c (.v (envFV b))),(7,.c (.v (.int .i64 ps.length))),(8,.c (.v (.int .i64 (i+1:Nat))))] (by kernel_rfl) (by decide) (by kernel_rfl) (by kernel_rfl) (fun _=>(by kernel_rfl)) (fun u=>hih (by
     rw[List.take_add_one,hx];intro y hy;rcases List.mem_append.1 hy with hy|hy;·exact hno y hy
     ·rw[Option.mem_toList] at hy;injection hy with hy;subst hy;exact h1) u)
 refine Hs.en Tryz.func96 [] [b,g] [.b false 86 [.p 1 0],.b false 88 (BS s A1 cap1 m pA pl pc a)] [.c (.v (.slice A ps.length c)),.c (.v (envFV b))] (Mem.env h hB hbg) ?_;refine Hs.e0 ?_;refine Hs.lP ?_;exact Hs.goto (AE Tryz.f96 0) [0,1] [.b false 86 [.p 1 0],.b false 88 (BS s A1 cap1 m pA pl pc a)] [(0,.c (.v (.slice A ps.length c))),(1,.c (.v (envFV b))),(7,.c (.v (.int .i64 ps.length))),(8,.c (.v (.int .i64 (0:Nat))))] (by kernel_rfl) (by decide) (by kernel_rfl) (by kernel_rfl) (fun _=>(by kernel_rfl)) (fun u=>J ps.length 0 (by omega) (by omega) (by simp) u)
end Go.Proofs.YtdplnedpbkpgpaaGreatDoor
