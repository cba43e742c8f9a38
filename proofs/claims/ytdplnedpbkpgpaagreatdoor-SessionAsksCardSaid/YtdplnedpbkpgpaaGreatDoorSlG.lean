/- SessionAsks: lemmas, from 'Layer 4: requests, their parts, what is asked of them' on; what each asks for stands in it. -/
import Derived.Test.YtdplnedpbkpgpaaGreatDoorSlF
import Derived.Test.YtdplnedpbkpgpaaGreatDoorSlD
import Derived.Laws.Concat
import Derived.Test.YtdplnedpbkpgpaaGreatDoorSlC
import Derived.Laws.EntriesVeiled
import Derived.Laws.Tables
set_option linter.all false
set_option maxRecDepth 100000
set_option maxHeartbeats 64000000
namespace Go.Proofs.YtdplnedpbkpgpaaGreatDoor
open Go.RowKit
structure RQ where
  kind : Int
  text : ByteArray
  value : ByteArray
  lang : ByteArray
  cols : Int
  rows : Int
  width : Int
  height : Int
  mA : Option Addr
  mc : Nat
  modes : List Int
  on : Bool
  code : Int
def RQ.cells (m:RQ):List Value:=[.int .i64 m.kind,.string m.text,.string m.value,.string m.lang,.int .u32 m.cols,.int .u32 m.rows,.int .u32 m.width,.int .u32 m.height,.slice m.mA m.modes.length m.mc,.bool m.on,.int .u32 m.code]
def RQ.val (m:RQ):Value:=.agg #[.int .i64 m.kind,.string m.text,.string m.value,.string m.lang,.int .u32 m.cols,.int .u32 m.rows,.int .u32 m.width,.int .u32 m.height,.slice m.mA m.modes.length m.mc,.bool m.on,.int .u32 m.code]
def OB (m:RQ):Prop:=U32 m.cols∧U32 m.rows∧U32 m.width∧U32 m.height∧U32 m.code
structure RQ.ok (w : World) (m : RQ) : Prop where
  modes : RdG (.int .u8) w m.mA m.modes
  mle : m.modes.length ≤ m.mc
  mmax : m.mc ≤ maxLen
  bytes : ∀ x ∈ m.modes, 0 ≤ x ∧ x < 256
  nums : OB m
  text : m.text.size ≤ maxLen
  value : m.value.size ≤ maxLen
  lang : m.lang.size ≤ maxLen
theorem RQ.ok.only {w w':World} {m:RQ} (h:m.ok w) (hb:Only [] w w'):m.ok w':={ h with modes:=h.modes.only hb }
def AK:RQ:=⟨0,⟨#[]⟩,⟨#[]⟩,⟨#[]⟩,0,0,0,0,none,0,[],false,0⟩
def AL (k:Nat):RQ:={ AK with kind:=(k:Int) }
theorem BQ (w:World):AK.ok w:=⟨RdG.nil,by simp[AK],by simp[AK],by simp[AK],by simp[AK,U32,OB],Nat.zero_le _,Nat.zero_le _,Nat.zero_le _⟩
theorem DY (w:World) (k:Nat):(AL k).ok w:={ BQ w with }
def FS:Nat→List UInt8
 |1=>[112,116,121,45,114,101,113]
 |2=>[101,110,118]
 |3=>[115,104,101,108,108]
 |4=>[101,120,101,99]
 |5=>[115,117,98,115,121,115,116,101,109]
 |6=>[119,105,110,100,111,119,45,99,104,97,110,103,101]
 |7=>[120,111,110,45,120,111,102,102]
 |8=>[115,105,103,110,97,108]
 |9=>[101,120,105,116,45,115,116,97,116,117,115]
 |10=>[101,120,105,116,45,115,105,103,110,97,108]
 |_=>[]
def AU (k:Nat):ByteArray:=⟨(FS k).toArray⟩
def AH:Nat→List Int
 |1=>[4,3,3,3,3,4]
 |2=>[4,4]
 |4=>[4]
 |5=>[4]
 |6=>[3,3,3,3]
 |7=>[2]
 |8=>[4]
 |9=>[3]
 |10=>[4,2,4,4]
 |_=>[]
def pT (s:ByteArray):PF:=⟨4,0,sOf s,[]⟩
def pN (n:Int):PF:=⟨3,n,[],[]⟩
def pB (b:Bool):PF:=⟨2,if b then 1 else 0,[],[]⟩
def AP (m:RQ):Nat→List PF
 |1=>[pT m.text,pN m.cols,pN m.rows,pN m.width,pN m.height,⟨4,0,m.modes,[]⟩]
 |2=>[pT m.text,pT m.value]
 |4=>[pT m.text]
 |5=>[pT m.text]
 |6=>[pN m.cols,pN m.rows,pN m.width,pN m.height]
 |7=>[pB m.on]
 |8=>[pT m.text]
 |9=>[pN m.code]
 |10=>[pT m.text,pB m.on,pT m.value,pT m.lang]
 |_=>[]
def KV (c:UInt8):Bool:=decide (33≤c.toNat)&&decide (c.toNat≤126)
def GJ (s:ByteArray) (least:Nat):Bool:=decide (least≤s.size)&&decide (s.size≤64)&&s.data.toList.all KV
def BV (s:ByteArray) (least:Nat):Int:=if GJ s least then 0 else 4
def CK (n:Nat):Int:=if 1024<n then 6 else 0
def DF:List Int→Int
 |[]=>0
 |e::l=>if e≠0 then e else DF l
def OS (s:ByteArray):Bool:=decide ((61:UInt8)∈s.data.toList)
def CO (m:RQ):Nat→Int
 |1=>DF [BV m.text 0,CK m.modes.length]
 |2=>if OS m.text then 4 else DF [BV m.text 1,CK m.value.size]
 |4=>CK m.text.size
 |5=>BV m.text 1
 |8=>BV m.text 1
 |10=>DF [BV m.text 1,BV m.lang 0,CK m.value.size]
 |_=>0
def DH (m:RQ):Nat→List FD→RQ
 |1,[a,b,c,d,e,f]=>{ m with text:=strOfNums a.text,cols:=b.n,rows:=c.n,width:=d.n,height:=e.n,mA:=f.tA,mc:=f.tc,modes:=f.text }
 |2,[a,b]=>{ m with text:=strOfNums a.text,value:=strOfNums b.text }
 |4,[a]=>{ m with text:=strOfNums a.text }
 |5,[a]=>{ m with text:=strOfNums a.text }
 |6,[b,c,d,e]=>{ m with cols:=b.n,rows:=c.n,width:=d.n,height:=e.n }
 |7,[a]=>{ m with on:=decide (a.n=1) }
 |8,[a]=>{ m with text:=strOfNums a.text }
 |9,[a]=>{ m with code:=a.n }
 |10,[a,b,c,d]=>{ m with text:=strOfNums a.text,on:=decide (b.n=1),value:=strOfNums c.text,lang:=strOfNums d.text }
 |_,_=>m
def ownK (m:RQ):Nat→RQ
 |1=>{ AL 1 with text:=m.text,cols:=m.cols,rows:=m.rows,width:=m.width,height:=m.height,mA:=m.mA,mc:=m.mc,modes:=m.modes }
 |2=>{ AL 2 with text:=m.text,value:=m.value }
 |4=>{ AL 4 with text:=m.text }
 |5=>{ AL 5 with text:=m.text }
 |6=>{ AL 6 with cols:=m.cols,rows:=m.rows,width:=m.width,height:=m.height }
 |7=>{ AL 7 with on:=m.on }
 |8=>{ AL 8 with text:=m.text }
 |9=>{ AL 9 with code:=m.code }
 |10=>{ AL 10 with text:=m.text,on:=m.on,value:=m.value,lang:=m.lang }
 |k=>AL k
structure SameR (a b : RQ) : Prop where
  kind : b.kind = a.kind
  text : b.text = a.text
  value : b.value = a.value
  lang : b.lang = a.lang
  cols : b.cols = a.cols
  rows : b.rows = a.rows
  width : b.width = a.width
  height : b.height = a.height
  on : b.on = a.on
  code : b.code = a.code
  modes : b.modes = a.modes
theorem SameR.refl (a:RQ):SameR a a:=⟨rfl,rfl,rfl,rfl,rfl,rfl,rfl,rfl,rfl,rfl,rfl⟩
theorem k10 {k:Nat} (h1:1≤k) (h2:k≤10):k=1∨k=2∨k=3∨k=4∨k=5∨k=6∨k=7∨k=8∨k=9∨k=10:=by omega
theorem WK {a b:RQ} (h:SameR a b) (k:Nat) (h1:1≤k) (h2:k≤10):CO b k=CO a k:=by
 rcases k10 h1 h2 with rfl|rfl|rfl|rfl|rfl|rfl|rfl|rfl|rfl|rfl<;>simp only[CO,h.text,h.value,h.lang,h.modes]
theorem ask_own (m:RQ) (k:Nat) (h1:1≤k) (h2:k≤10):CO (ownK m k) k=CO m k:=by
 rcases k10 h1 h2 with rfl|rfl|rfl|rfl|rfl|rfl|rfl|rfl|rfl|rfl<;>rfl
theorem CW (m:RQ) (k:Nat) (h1:1≤k) (h2:k≤10):(AP m k).map (·.kind)=AH k:=by
 rcases k10 h1 h2 with rfl|rfl|rfl|rfl|rfl|rfl|rfl|rfl|rfl|rfl<;>rfl
theorem parts_own (m:RQ) (k:Nat) (h1:1≤k) (h2:k≤10):(AP m k).map SI=AP m k:=by
 rcases k10 h1 h2 with rfl|rfl|rfl|rfl|rfl|rfl|rfl|rfl|rfl|rfl<;>rfl
theorem parts_n {m:RQ} (h:OB m) (k:Nat) (h1:1≤k) (h2:k≤10): ∀p∈AP m k,0≤p.n∧p.n≤4294967295:=by
 obtain⟨a,b,c,d,e⟩:=h;have z:(0:Int)≤0∧(0:Int)≤4294967295:=by decide
 have on:0≤(if m.on then(1:Int) else 0)∧(if m.on then(1:Int) else 0)≤4294967295:=by split<;>decide
 rcases k10 h1 h2 with rfl|rfl|rfl|rfl|rfl|rfl|rfl|rfl|rfl|rfl<;>intro p hp<;>simp only[AP,List.mem_cons,List.not_mem_nil,or_false] at hp
 ·rcases hp with rfl|rfl|rfl|rfl|rfl|rfl;·exact z
  ·exact a
  ·exact b
  ·exact c
  ·exact d
  ·exact z
 ·rcases hp with rfl|rfl;·exact z
  ·exact z
 ·subst hp;exact z
 ·subst hp;exact z
 ·rcases hp with rfl|rfl|rfl|rfl;·exact a
  ·exact b
  ·exact c
  ·exact d
 ·subst hp;exact on
 ·subst hp;exact z
 ·subst hp;exact e
 ·rcases hp with rfl|rfl|rfl|rfl;·exact z
  ·exact on
  ·exact z
  ·exact z
theorem fs1 {fs:List FD} {a:PF} (h:fs.map FD.pf=[a]): ∃x,fs=[x]∧x.pf=a:=by
 match fs,h with
 |[x],h=>simp at h;exact⟨x,rfl,h⟩
theorem fs2 {fs:List FD} {a b:PF} (h:fs.map FD.pf=[a,b]): ∃x y,fs=[x,y]∧x.pf=a∧y.pf=b:=by
 match fs,h with
 |[x,y],h=>simp at h;exact⟨x,y,rfl,h⟩
theorem fs4 {fs:List FD} {a b c d:PF} (h:fs.map FD.pf=[a,b,c,d]): ∃x y z u,fs=[x,y,z,u]∧x.pf=a∧y.pf=b∧z.pf=c∧u.pf=d:=by
 match fs,h with
 |[x,y,z,u],h=>simp at h;exact⟨x,y,z,u,rfl,h⟩
theorem fs6 {fs:List FD} {a b c d e f:PF} (h:fs.map FD.pf=[a,b,c,d,e,f]): ∃x y z u v s,fs=[x,y,z,u,v,s]∧x.pf=a∧y.pf=b∧z.pf=c∧u.pf=d∧v.pf=e∧s.pf=f:=by
 match fs,h with
 |[x,y,z,u,v,s],h=>simp at h;exact⟨x,y,z,u,v,s,rfl,h⟩
theorem pf_text {f:FD} {p:PF} (h:f.pf=p):f.text=p.text:=congrArg PF.text h
theorem pf_n {f:FD} {p:PF} (h:f.pf=p):f.n=p.n:=congrArg PF.n h
theorem LK {f:FD} {s:ByteArray} (h:f.pf=pT s):s=strOfNums f.text:=by rw[pf_text h];exact(str_sOf s).symm
theorem on_pB {f:FD} {b:Bool} (h:f.pf=pB b):b=decide (f.n=1):=by rw[pf_n h];cases b<;>rfl
theorem put_parts (m:RQ) (fs:List FD) (k:Nat) (h1:1≤k) (h2:k≤10) (h:fs.map FD.pf=AP m k):SameR (DH (AL k) k fs) (ownK m k):=by
 rcases k10 h1 h2 with rfl|rfl|rfl|rfl|rfl|rfl|rfl|rfl|rfl|rfl
 ·obtain⟨a,b,c,d,e,f,rfl,ha,hb,hc,hd,he,hf⟩:=fs6 h;exact⟨rfl,LK ha,rfl,rfl,(pf_n hb).symm,(pf_n hc).symm,(pf_n hd).symm,(pf_n he).symm,rfl,rfl,(pf_text hf).symm⟩
 ·obtain⟨a,b,rfl,ha,hb⟩:=fs2 h;exact⟨rfl,LK ha,LK hb,rfl,rfl,rfl,rfl,rfl,rfl,rfl,rfl⟩
 ·exact SameR.refl _
 ·obtain⟨a,rfl,ha⟩:=fs1 h;exact⟨rfl,LK ha,rfl,rfl,rfl,rfl,rfl,rfl,rfl,rfl,rfl⟩
 ·obtain⟨a,rfl,ha⟩:=fs1 h;exact⟨rfl,LK ha,rfl,rfl,rfl,rfl,rfl,rfl,rfl,rfl,rfl⟩
 ·obtain⟨b,c,d,e,rfl,hb,hc,hd,he⟩:=fs4 h;exact⟨rfl,rfl,rfl,rfl,(pf_n hb).symm,(pf_n hc).symm,(pf_n hd).symm,(pf_n he).symm,rfl,rfl,rfl⟩
 ·obtain⟨a,rfl,ha⟩:=fs1 h;exact⟨rfl,rfl,rfl,rfl,rfl,rfl,rfl,rfl,on_pB ha,rfl,rfl⟩
 ·obtain⟨a,rfl,ha⟩:=fs1 h;exact⟨rfl,LK ha,rfl,rfl,rfl,rfl,rfl,rfl,rfl,rfl,rfl⟩
 ·obtain⟨a,rfl,ha⟩:=fs1 h;exact⟨rfl,rfl,rfl,rfl,rfl,rfl,rfl,rfl,rfl,(pf_n ha).symm,rfl⟩
 ·obtain⟨a,b,c,d,rfl,ha,hb,hc,hd⟩:=fs4 h;exact⟨rfl,LK ha,LK hc,LK hd,rfl,rfl,rfl,rfl,on_pB hb,rfl,rfl⟩
theorem ks1 {fs:List FD} {a:Int} (h:fs.map (fun f=>f.pf.kind)=[a]): ∃x,fs=[x]∧x.pf.kind=a:=by
 match fs,h with
 |[x],h=>simp at h;exact⟨x,rfl,h⟩
theorem ks2 {fs:List FD} {a b:Int} (h:fs.map (fun f=>f.pf.kind)=[a,b]): ∃x y,fs=[x,y]∧x.pf.kind=a∧y.pf.kind=b:=by
 match fs,h with
 |[x,y],h=>simp at h;exact⟨x,y,rfl,h⟩
theorem ks4 {fs:List FD} {a b c d:Int} (h:fs.map (fun f=>f.pf.kind)=[a,b,c,d]): ∃x y z u,fs=[x,y,z,u]∧x.pf.kind=a∧y.pf.kind=b∧z.pf.kind=c∧u.pf.kind=d:=by
 match fs,h with
 |[x,y,z,u],h=>simp at h;exact⟨x,y,z,u,rfl,h⟩
theorem ks6 {fs:List FD} {a b c d e f:Int} (h:fs.map (fun f=>f.pf.kind)=[a,b,c,d,e,f]): ∃x y z u v s,fs=[x,y,z,u,v,s]∧x.pf.kind=a∧y.pf.kind=b∧z.pf.kind=c∧u.pf.kind=d∧v.pf.kind=e∧s.pf.kind=f:=by
 match fs,h with
 |[x,y,z,u,v,s],h=>simp at h;exact⟨x,y,z,u,v,s,rfl,h⟩
def GG (m:RQ):Int×List Int:=if 1≤m.kind∧m.kind≤10 then if CO m m.kind.toNat≠0 then(CO m m.kind.toNat,[]) else IP (AP m m.kind.toNat) else(8,[])
def FL (m:RQ):ByteArray:=if(GG m).1=0 then AU m.kind.toNat else⟨#[]⟩
def WV (l:List UInt8):Option Nat:=
 if l=FS 1 then some 1 else if l=FS 2 then some 2 else if l=FS 3 then some 3 else if l=FS 4 then some 4 else if l=FS 5 then some 5 else
 if l=FS 6 then some 6 else if l=FS 7 then some 7 else if l=FS 8 then some 8 else if l=FS 9 then some 9 else if l=FS 10 then some 10 else none
def DJ (k:Nat) (l:List Int) (m:RQ) (E:Int):Prop:=
 if(EI (AH k) l).1≠0 then E=(EI (AH k) l).1∧m=AK
 else∃fs:List FD,fs.map FD.pf=(EI (AH k) l).2∧if CO (DH (AL k) k fs) k=0 then E=0∧m=DH (AL k) k fs else E=CO (DH (AL k) k fs) k∧m=AK
def BA (name:ByteArray) (l:List Int) (m:RQ) (E:Int):Prop:=
 match WV name.data.toList with
 |none=>E=8∧m=AK
 |some k=>DJ k l m E
theorem LF (k:Nat) (h1:1≤k) (h2:k≤10):WV (FS k)=some k:=by
 rcases k10 h1 h2 with rfl|rfl|rfl|rfl|rfl|rfl|rfl|rfl|rfl|rfl<;>decide
theorem IE {l:List UInt8} {k:Nat} (h:WV l=some k):1≤k∧k≤10∧l=FS k:=by
 unfold WV at h;repeat' (split at h)
 all_goals first
  |(injection h with h;subst h;exact⟨by decide,by decide,by assumption⟩)
  |cases h
theorem EV {i j:Nat} (h1:1≤i) (h2:i≤10) (g1:1≤j) (g2:j≤10) (h:FS i=FS j):i=j:=by
 have:=LF i h1 h2;rw[h,LF j g1 g2] at this;injection this with this;exact this.symm
theorem encR_ok {m:RQ} (hz:(GG m).1=0): ∃k:Nat,1≤k∧k≤10∧m.kind=(k:Int)∧CO m k=0∧OkP (AP m k)∧(GG m).2=(AP m k).flatMap BK∧FL m=AU k:=by
 have hz0:=hz;unfold GG at hz;split at hz
 case isFalse=>exact absurd hz (by decide)
 rename_i hk;split at hz
 ·rename_i h0;exact absurd hz h0
 rename_i h0;obtain⟨k,hkk⟩:=Int.eq_ofNat_of_zero_le (show 0≤m.kind by omega);have hn:FL m=AU m.kind.toNat:=if_pos hz0;have he:GG m=IP (AP m m.kind.toNat):=by unfold GG;rw[if_pos hk,if_neg h0]
 rw[hkk,Int.toNat_natCast] at h0 hz hn he;have hok:OkP (AP m k):=by
  apply Classical.byContradiction;intro hb;obtain⟨e,he,hw⟩:=VO hb;rw[hw] at hz;exact he hz
 exact⟨k,by omega,by omega,hkk,by simpa using h0,hok,by rw[he,XW hok],hn⟩
theorem encR_bad {m:RQ} (hz:(GG m).1≠0):(GG m).2=[]:=by
 unfold GG at hz⊢;split
 ·rename_i hk;rw[if_pos hk] at hz;split;·rfl
  ·rename_i h0;rw[if_neg h0] at hz;by_cases ho:OkP (AP m m.kind.toNat)
   ·rw[XW ho] at hz;exact absurd rfl hz
   ·obtain⟨e,_,hw⟩:=VO ho;rw[hw]
 ·rfl
theorem BC (k:Nat):(AU k).data.toList=FS k:=rfl
theorem XG {m x:RQ} {E:Int} (hn:OB m) (hz:(GG m).1=0) (h:BA (FL m) (GG m).2 x E) :
  E=0∧SameR x (ownK m m.kind.toNat)∧(GG m).2.length≤33792:=by
 obtain⟨k,h1,h2,hk,ha,ho,he,hnm⟩:=encR_ok hz;rw[hnm,he] at h;unfold BA at h;rw[BC,LF k h1 h2] at h;dsimp only at h;have hb:=back_law _ ho (parts_n hn k h1 h2);rw[CW m k h1 h2,parts_own m k h1 h2] at hb;unfold DJ at h;rw[hb,if_neg (by simp)] at h;obtain⟨fs,e1,h⟩:=h;have hs:=put_parts m fs k h1 h2 e1;rw[if_pos (by rw[←WK hs k h1 h2,ask_own m k h1 h2];exact ha)] at h;refine⟨h.1,?_,by rw[he];exact ho.2.2⟩;rw[h.2,hk,Int.toNat_natCast];exact hs
structure TM where
  ch : Nat → Int
  fl : Int
  inn : Int
  out : Int
  mn : Int
  tm : Int
def TM.sc (t:TM):List SC:=[.v (.int .u8 (t.ch 0)),.v (.int .u8 (t.ch 1)),.v (.int .u8 (t.ch 2)),.v (.int .u8 (t.ch 3)),.v (.int .u8 (t.ch 4)),.v (.int .u8 (t.ch 5)),.v (.int .u8 (t.ch 6)),.v (.int .u8 (t.ch 7)),.v (.int .u8 (t.ch 8)),.v (.int .u8 (t.ch 9)),.v (.int .u8 (t.ch 10)),.v (.int .u8 (t.ch 11)),.v (.int .u8 (t.ch 12)),.v (.int .u8 (t.ch 13)),.v (.int .u8 (t.ch 14)),.v (.int .u8 (t.ch 15)),.v (.int .u8 (t.ch 16)),.v (.int .u8 (t.ch 17)),.v (.int .u8 (t.ch 18)),.v (.int .u64 t.fl),.v (.int .u32 t.inn),.v (.int .u32 t.out),.v (.int .i64 t.mn),.v (.int .i64 t.tm)]
def TM.cells (t:TM):List Value:=[.int .u8 (t.ch 0),.int .u8 (t.ch 1),.int .u8 (t.ch 2),.int .u8 (t.ch 3),.int .u8 (t.ch 4),.int .u8 (t.ch 5),.int .u8 (t.ch 6),.int .u8 (t.ch 7),.int .u8 (t.ch 8),.int .u8 (t.ch 9),.int .u8 (t.ch 10),.int .u8 (t.ch 11),.int .u8 (t.ch 12),.int .u8 (t.ch 13),.int .u8 (t.ch 14),.int .u8 (t.ch 15),.int .u8 (t.ch 16),.int .u8 (t.ch 17),.int .u8 (t.ch 18),.int .u64 t.fl,.int .u32 t.inn,.int .u32 t.out,.int .i64 t.mn,.int .i64 t.tm]
def TM.val (t:TM):Value:=.agg #[.int .u8 (t.ch 0),.int .u8 (t.ch 1),.int .u8 (t.ch 2),.int .u8 (t.ch 3),.int .u8 (t.ch 4),.int .u8 (t.ch 5),.int .u8 (t.ch 6),.int .u8 (t.ch 7),.int .u8 (t.ch 8),.int .u8 (t.ch 9),.int .u8 (t.ch 10),.int .u8 (t.ch 11),.int .u8 (t.ch 12),.int .u8 (t.ch 13),.int .u8 (t.ch 14),.int .u8 (t.ch 15),.int .u8 (t.ch 16),.int .u8 (t.ch 17),.int .u8 (t.ch 18),.int .u64 t.fl,.int .u32 t.inn,.int .u32 t.out,.int .i64 t.mn,.int .i64 t.tm]
def AW (op:Int):Bool:=(decide (30≤op)&&decide (op≤42))||((decide (50≤op)&&decide (op≤62))||((decide (70≤op)&&decide (op≤75))||(decide (90≤op)&&decide (op≤93))))
def FK (op:Int):Int:=((2 ^ (op-30).toNat:Nat):Int)
def hasI (fl op:Int):Bool:=AW op&&(IntKind.u64.wrap (((BitVec.ofInt 64 fl) &&& (BitVec.ofInt 64 (FK op))).toNat)!=0)
def TM.has (t:TM) (op:Int):Bool:=hasI t.fl op
def LS (fl op:Int) (on:Bool):Int:=if AW op then(if on then IntKind.u64.wrap (((BitVec.ofInt 64 fl) ||| (BitVec.ofInt 64 (FK op))).toNat) else IntKind.u64.wrap (((BitVec.ofInt 64 fl) &&& ~~~(BitVec.ofInt 64 (FK op))).toNat)) else fl
def TM.set (t:TM) (op:Int) (on:Bool):TM:={ t with fl:=LS t.fl op on }
theorem TP (w:World):Calls Tryz.prog 70 #[] w fun e w'=>e = .returned (.agg #[.int .i64 30,.int .i64 42,.int .i64 50,.int .i64 62,.int .i64 70,.int .i64 75,.int .i64 90,.int .i64 93])∧Only [] w w':=by
 refine Hs.en Tryz.func70 [] [] [] [] (Mem.start0 w) ?_;refine Hs.e1 fun b0=>?_;exact Hs.rt (v:=.agg #[.int .i64 30,.int .i64 42,.int .i64 50,.int .i64 62,.int .i64 70,.int .i64 75,.int .i64 90,.int .i64 93]) Tryz.func70 fun w' H=>⟨rfl,H.only⟩
theorem KI {x y op:Int} {r:Bool}:((decide (x≤op)&&decide (op≤y))||r)=if x≤op∧op≤y then true else r:=by
 by_cases h1:x≤op<;>by_cases h2:op≤y<;>simp[h1,h2]
theorem dG (op:Int) (w:World):Calls Tryz.prog 160 #[.int .i64 op] w fun e w'=>e = .returned (.bool (AW op))∧Only [] w w':=by
 have J4: ¬((30:Int)≤op∧op≤42)→¬((50:Int)≤op∧op≤62)→¬((70:Int)≤op∧op≤75)→¬((90:Int)≤op∧op≤93)→∀u:Nat→Value,Hs Tryz.prog 160 (fun e w'=>e = .returned (.bool (AW op))∧Only [] w w') (Tryz.f160).ntmps w [] [] ⟨.no,AE Tryz.f160 0,BI [(0,.c (.v (.int .i64 op))),(2,.c (.v (.bool false))),(5,.c (.v (.agg #[.int .i64 30,.int .i64 42,.int .i64 50,.int .i64 62,.int .i64 70,.int .i64 75,.int .i64 90,.int .i64 93]))),(6,.c (.v (.int .i64 4)))] (.vals u),[]⟩:=by
  intro g0 g1 g2 g3 u;refine Hs.e0 ?_;refine Hs.cF ?_;refine Hs.e0 ?_;have e:AW op=false:=by
   simp only[AW,KI,if_neg g0,if_neg g1,if_neg g2];simpa using g3
  exact Hs.rt (v:=.bool false) Tryz.func160 fun w' H=>⟨by rw[e],H.only⟩
 have J3: ¬((30:Int)≤op∧op≤42)→¬((50:Int)≤op∧op≤62)→¬((70:Int)≤op∧op≤75)→∀u:Nat→Value,Hs Tryz.prog 160 (fun e w'=>e = .returned (.bool (AW op))∧Only [] w w') (Tryz.f160).ntmps w [] [] ⟨.no,AE Tryz.f160 0,BI [(0,.c (.v (.int .i64 op))),(2,.c (.v (.bool false))),(5,.c (.v (.agg #[.int .i64 30,.int .i64 42,.int .i64 50,.int .i64 62,.int .i64 70,.int .i64 75,.int .i64 90,.int .i64 93]))),(6,.c (.v (.int .i64 3)))] (.vals u),[]⟩:=by
  intro g0 g1 g2 u;refine Hs.e0 ?_;refine Hs.cT ?_;refine Hs.e1 fun c0=>?_;refine Hs.bool 13 (decide ((90:Int)≤op)) (by kernel_rfl) (fun h=>?_) (fun h=>?_)
  ·have h1:=of_decide_eq_true h;refine Hs.eg [4] ?_;refine Hs.cP (op≤(93:Int)) (fun h2=>?_) (fun h2=>?_)
   ·have e:AW op=true:=by
     simp only[AW,KI,if_neg g0,if_neg g1,if_neg g2];simp[h1,h2]
    refine Hs.e0 ?_;exact Hs.rt (v:=.bool true) Tryz.func160 fun w' H=>⟨by rw[e],H.only⟩
   ·refine Hs.e0 ?_;refine Hs.lP ?_;exact Hs.goto (AE Tryz.f160 0) [] [] [(0,.c (.v (.int .i64 op))),(2,.c (.v (.bool false))),(5,.c (.v (.agg #[.int .i64 30,.int .i64 42,.int .i64 50,.int .i64 62,.int .i64 70,.int .i64 75,.int .i64 90,.int .i64 93]))),(6,.c (.v (.int .i64 4)))] (by kernel_rfl) (by decide) (by kernel_rfl) (by kernel_rfl) (fun _=>(by kernel_rfl)) (J4 g0 g1 g2 (fun h=>by omega))
  ·have h1:=of_decide_eq_false h;refine Hs.eg [4] ?_;refine Hs.cF ?_;refine Hs.e0 ?_;refine Hs.lP ?_;exact Hs.goto (AE Tryz.f160 0) [] [] [(0,.c (.v (.int .i64 op))),(2,.c (.v (.bool false))),(5,.c (.v (.agg #[.int .i64 30,.int .i64 42,.int .i64 50,.int .i64 62,.int .i64 70,.int .i64 75,.int .i64 90,.int .i64 93]))),(6,.c (.v (.int .i64 4)))] (by kernel_rfl) (by decide) (by kernel_rfl) (by kernel_rfl) (fun _=>(by kernel_rfl)) (J4 g0 g1 g2 (fun h=>by omega))
 have J2: ¬((30:Int)≤op∧op≤42)→¬((50:Int)≤op∧op≤62)→∀u:Nat→Value,Hs Tryz.prog 160 (fun e w'=>e = .returned (.bool (AW op))∧Only [] w w') (Tryz.f160).ntmps w [] [] ⟨.no,AE Tryz.f160 0,BI [(0,.c (.v (.int .i64 op))),(2,.c (.v (.bool false))),(5,.c (.v (.agg #[.int .i64 30,.int .i64 42,.int .i64 50,.int .i64 62,.int .i64 70,.int .i64 75,.int .i64 90,.int .i64 93]))),(6,.c (.v (.int .i64 2)))] (.vals u),[]⟩:=by
  intro g0 g1 u;refine Hs.e0 ?_;refine Hs.cT ?_;refine Hs.e1 fun c0=>?_;refine Hs.bool 13 (decide ((70:Int)≤op)) (by kernel_rfl) (fun h=>?_) (fun h=>?_)
  ·have h1:=of_decide_eq_true h;refine Hs.eg [4] ?_;refine Hs.cP (op≤(75:Int)) (fun h2=>?_) (fun h2=>?_)
   ·have e:AW op=true:=by
     simp only[AW,KI,if_neg g0,if_neg g1];simp[h1,h2]
    refine Hs.e0 ?_;exact Hs.rt (v:=.bool true) Tryz.func160 fun w' H=>⟨by rw[e],H.only⟩
   ·refine Hs.e0 ?_;refine Hs.lP ?_;exact Hs.goto (AE Tryz.f160 0) [] [] [(0,.c (.v (.int .i64 op))),(2,.c (.v (.bool false))),(5,.c (.v (.agg #[.int .i64 30,.int .i64 42,.int .i64 50,.int .i64 62,.int .i64 70,.int .i64 75,.int .i64 90,.int .i64 93]))),(6,.c (.v (.int .i64 3)))] (by kernel_rfl) (by decide) (by kernel_rfl) (by kernel_rfl) (fun _=>(by kernel_rfl)) (J3 g0 g1 (fun h=>by omega))
  ·have h1:=of_decide_eq_false h;refine Hs.eg [4] ?_;refine Hs.cF ?_;refine Hs.e0 ?_;refine Hs.lP ?_;exact Hs.goto (AE Tryz.f160 0) [] [] [(0,.c (.v (.int .i64 op))),(2,.c (.v (.bool false))),(5,.c (.v (.agg #[.int .i64 30,.int .i64 42,.int .i64 50,.int .i64 62,.int .i64 70,.int .i64 75,.int .i64 90,.int .i64 93]))),(6,.c (.v (.int .i64 3)))] (by kernel_rfl) (by decide) (by kernel_rfl) (by kernel_rfl) (fun _=>(by kernel_rfl)) (J3 g0 g1 (fun h=>by omega))
 have J1: ¬((30:Int)≤op∧op≤42)→∀u:Nat→Value,Hs Tryz.prog 160 (fun e w'=>e = .returned (.bool (AW op))∧Only [] w w') (Tryz.f160).ntmps w [] [] ⟨.no,AE Tryz.f160 0,BI [(0,.c (.v (.int .i64 op))),(2,.c (.v (.bool false))),(5,.c (.v (.agg #[.int .i64 30,.int .i64 42,.int .i64 50,.int .i64 62,.int .i64 70,.int .i64 75,.int .i64 90,.int .i64 93]))),(6,.c (.v (.int .i64 1)))] (.vals u),[]⟩:=by
  intro g0 u;refine Hs.e0 ?_;refine Hs.cT ?_;refine Hs.e1 fun c0=>?_;refine Hs.bool 13 (decide ((50:Int)≤op)) (by kernel_rfl) (fun h=>?_) (fun h=>?_)
  ·have h1:=of_decide_eq_true h;refine Hs.eg [4] ?_;refine Hs.cP (op≤(62:Int)) (fun h2=>?_) (fun h2=>?_)
   ·have e:AW op=true:=by
     simp only[AW,KI,if_neg g0];simp[h1,h2]
    refine Hs.e0 ?_;exact Hs.rt (v:=.bool true) Tryz.func160 fun w' H=>⟨by rw[e],H.only⟩
   ·refine Hs.e0 ?_;refine Hs.lP ?_;exact Hs.goto (AE Tryz.f160 0) [] [] [(0,.c (.v (.int .i64 op))),(2,.c (.v (.bool false))),(5,.c (.v (.agg #[.int .i64 30,.int .i64 42,.int .i64 50,.int .i64 62,.int .i64 70,.int .i64 75,.int .i64 90,.int .i64 93]))),(6,.c (.v (.int .i64 2)))] (by kernel_rfl) (by decide) (by kernel_rfl) (by kernel_rfl) (fun _=>(by kernel_rfl)) (J2 g0 (fun h=>by omega))
  ·have h1:=of_decide_eq_false h;refine Hs.eg [4] ?_;refine Hs.cF ?_;refine Hs.e0 ?_;refine Hs.lP ?_;exact Hs.goto (AE Tryz.f160 0) [] [] [(0,.c (.v (.int .i64 op))),(2,.c (.v (.bool false))),(5,.c (.v (.agg #[.int .i64 30,.int .i64 42,.int .i64 50,.int .i64 62,.int .i64 70,.int .i64 75,.int .i64 90,.int .i64 93]))),(6,.c (.v (.int .i64 2)))] (by kernel_rfl) (by decide) (by kernel_rfl) (by kernel_rfl) (fun _=>(by kernel_rfl)) (J2 g0 (fun h=>by omega))
 have J0: ∀u:Nat→Value,Hs Tryz.prog 160 (fun e w'=>e = .returned (.bool (AW op))∧Only [] w w') (Tryz.f160).ntmps w [] [] ⟨.no,AE Tryz.f160 0,BI [(0,.c (.v (.int .i64 op))),(2,.c (.v (.bool false))),(5,.c (.v (.agg #[.int .i64 30,.int .i64 42,.int .i64 50,.int .i64 62,.int .i64 70,.int .i64 75,.int .i64 90,.int .i64 93]))),(6,.c (.v (.int .i64 0)))] (.vals u),[]⟩:=by
  intro u;refine Hs.e0 ?_;refine Hs.cT ?_;refine Hs.e1 fun c0=>?_;refine Hs.bool 13 (decide ((30:Int)≤op)) (by kernel_rfl) (fun h=>?_) (fun h=>?_)
  ·have h1:=of_decide_eq_true h;refine Hs.eg [4] ?_;refine Hs.cP (op≤(42:Int)) (fun h2=>?_) (fun h2=>?_)
   ·have e:AW op=true:=by
     simp only[AW,KI];simp[h1,h2]
    refine Hs.e0 ?_;exact Hs.rt (v:=.bool true) Tryz.func160 fun w' H=>⟨by rw[e],H.only⟩
   ·refine Hs.e0 ?_;refine Hs.lP ?_;exact Hs.goto (AE Tryz.f160 0) [] [] [(0,.c (.v (.int .i64 op))),(2,.c (.v (.bool false))),(5,.c (.v (.agg #[.int .i64 30,.int .i64 42,.int .i64 50,.int .i64 62,.int .i64 70,.int .i64 75,.int .i64 90,.int .i64 93]))),(6,.c (.v (.int .i64 1)))] (by kernel_rfl) (by decide) (by kernel_rfl) (by kernel_rfl) (fun _=>(by kernel_rfl)) (J1 (fun h=>by omega))
  ·have h1:=of_decide_eq_false h;refine Hs.eg [4] ?_;refine Hs.cF ?_;refine Hs.e0 ?_;refine Hs.lP ?_;exact Hs.goto (AE Tryz.f160 0) [] [] [(0,.c (.v (.int .i64 op))),(2,.c (.v (.bool false))),(5,.c (.v (.agg #[.int .i64 30,.int .i64 42,.int .i64 50,.int .i64 62,.int .i64 70,.int .i64 75,.int .i64 90,.int .i64 93]))),(6,.c (.v (.int .i64 1)))] (by kernel_rfl) (by decide) (by kernel_rfl) (by kernel_rfl) (fun _=>(by kernel_rfl)) (J1 (fun h=>by omega))
 refine Hs.en Tryz.func160 [] [] [] [.c (.v (.int .i64 op))] (Mem.start0 w) ?_;refine Hs.e0 ?_;refine Hs.cV (fun w' H=>TP w') ?_;refine Hs.e0 ?_;refine Hs.lP ?_;exact Hs.goto (AE Tryz.f160 0) [] [] [(0,.c (.v (.int .i64 op))),(2,.c (.v (.bool false))),(5,.c (.v (.agg #[.int .i64 30,.int .i64 42,.int .i64 50,.int .i64 62,.int .i64 70,.int .i64 75,.int .i64 90,.int .i64 93]))),(6,.c (.v (.int .i64 0)))] (by kernel_rfl) (by decide) (by kernel_rfl) (by kernel_rfl) (fun _=>(by kernel_rfl)) J0
theorem flag_lo {op:Int} (h:AW op=true):30≤op∧op≤93:=by
 simp[AW] at h;omega
theorem bit_any (op:Int) (h1:30≤op) (h2:op≤93) (w:World):Calls Tryz.prog 45 #[.int .i64 op] w fun e w'=>e = .returned (.int .u64 (FK op))∧Only [] w w':=by
 refine Hs.en Tryz.func45 [] [] [] [.c (.v (.int .i64 op))] (Mem.start0 w) ?_;refine Hs.rung0 [] 8 (fun _=>(by kernel_rfl)) ?_;have e:IntKind.i64.wrap (op-30)=op-30:=IntWalk.i64_in _ (by omega);have e2:IntKind.u64.wrap ((1:Int)*2 ^ min (op-30).toNat 64)=FK op:=by
  rw[Nat.min_eq_left (by omega),Int.one_mul];unfold FK;have h3:(2:Int) ^ (op-30).toNat=((2 ^ (op-30).toNat:Nat):Int):=(Int.natCast_pow 2 _).symm;have h6:(op-30).toNat<64:=by omega
  have h4:2 ^ (op-30).toNat<2 ^ 64:=Nat.pow_lt_pow_right (by decide) h6;rw[h3];generalize 2 ^ (op-30).toNat=q at h4;have h7:q<18446744073709551616:=h4;have h5:(q:Int)<18446744073709551616:=by omega
  show((q:Int) % (18446744073709551616:Int))=_;exact Int.emod_eq_of_lt (Int.natCast_nonneg q) h5
 refine Hs.bin (op:=.shl) (T:=26) (k:=.u64) (k':=.i64) (a:=1) (b:=IntKind.i64.wrap (op-30)) (.int .u64 (IntKind.u64.wrap ((1:Int)*2 ^ min (IntKind.i64.wrap (op-30)).toNat 64))) (by kernel_rfl) (fun w=>run_shl (by rw[e];omega) w) ?_;refine Hs.e0 ?_;exact Hs.rt (v:=.int .u64 (IntKind.u64.wrap ((1:Int)*2 ^ min (IntKind.i64.wrap (op-30)).toNat 64))) Tryz.func45 fun w' H=>⟨by rw[e,e2],H.only⟩
theorem set_any (t:TM) (op:Int) (on:Bool) (w:World):Calls Tryz.prog 150 #[t.val,.int .i64 op,.bool on] w fun e w'=>e = .returned (t.set op on).val∧Only [] w w':=by
 obtain⟨ch,fl,inn,out,mn,tm⟩:=t;refine Hs.en Tryz.func150 [] [] [] [.g (TM.sc ⟨ch,fl,inn,out,mn,tm⟩),.c (.v (.int .i64 op)),.c (.v (.bool on))] (Mem.start0 w) ?_;refine Hs.e2 fun b0 b1=>?_;refine Hs.cV (fun w' H=>dG op w') ?_;refine Hs.e0 ?_;refine Hs.cn (!AW op) (fun h=>?_) (fun h=>?_)
 ·refine Hs.e0 ?_;exact Hs.rt (v:=TM.val ⟨ch,fl,inn,out,mn,tm⟩) Tryz.func150 fun w' H=>⟨by
   have h:AW op=false:=by simpa using h
   simp only[TM.set,LS,h,Bool.false_eq_true,if_false],H.only⟩
 have h:AW op=true:=by simpa using h
 obtain⟨h1,h2⟩:=flag_lo h;refine Hs.e0 ?_;refine Hs.cn on (fun ho=>?_) (fun ho=>?_)
 ·refine Hs.e0 ?_;refine Hs.any [0,1006] (by kernel_rfl) ?_;refine Hs.e0 ?_;refine Hs.cV (fun w' H=>bit_any op h1 h2 w') ?_;refine Hs.e0 ?_;exact Hs.rt (v:=TM.val ⟨ch,IntKind.u64.wrap (((BitVec.ofInt 64 fl) ||| (BitVec.ofInt 64 (FK op))).toNat),inn,out,mn,tm⟩) Tryz.func150 fun w' H=>⟨by subst ho;simp only[TM.set,LS,h,if_true],H.only⟩
 ·refine Hs.e0 ?_;refine Hs.any [0,1006] (by kernel_rfl) ?_;refine Hs.e0 ?_;refine Hs.cV (fun w' H=>bit_any op h1 h2 w') ?_;refine Hs.e0 ?_;exact Hs.rt (v:=TM.val ⟨ch,IntKind.u64.wrap (((BitVec.ofInt 64 fl) &&& ~~~(BitVec.ofInt 64 (FK op))).toNat),inn,out,mn,tm⟩) Tryz.func150 fun w' H=>⟨by subst ho;simp only[TM.set,LS,h,if_true,Bool.false_eq_true,if_false],H.only⟩
def byS (st fr:Int):Int:=if isS (IntKind.i64.wrap (st-fr)) then IntKind.i64.wrap (st-fr) else 0
theorem aE (st fr:Int) (w:World):Calls Tryz.prog 39 #[.int .i64 st,.int .i64 fr] w fun e w'=>e = .returned (.int .i64 (byS st fr))∧Only [] w w':=by
 unfold byS;refine Hs.en Tryz.func39 [] [] [] [.c (.v (.int .i64 st)),.c (.v (.int .i64 fr))] (Mem.start0 w) ?_;refine Hs.e0 ?_;refine Hs.cV (fun w' H=>TY (IntKind.i64.wrap (st-fr)) w') ?_;refine Hs.e0 ?_;refine Hs.cn (isS (IntKind.i64.wrap (st-fr))) (fun h=>?_) (fun h=>?_)
 ·rw[if_pos h];refine Hs.e0 ?_;exact Hs.rt (v:=.int .i64 (IntKind.i64.wrap (st-fr))) Tryz.func39 fun w' H=>⟨rfl,H.only⟩
 ·rw[if_neg (by rw[h];decide)];refine Hs.e0 ?_;exact Hs.rt (v:=.int .i64 0) Tryz.func39 fun w' H=>⟨rfl,H.only⟩
theorem isS_range {n:Int} (h:isS n=true):1≤n∧n≤28:=by
 unfold isS at h;simp only[Bool.or_eq_true,Bool.and_eq_true,decide_eq_true_eq] at h;omega
def oursS:ByteArray:=⟨#[64,112,97,114,108,111,117,114]⟩
def RQ.sc (m:RQ):List SC:=[.v (.int .i64 m.kind),.v (.string m.text),.v (.string m.value),.v (.string m.lang),.v (.int .u32 m.cols),.v (.int .u32 m.rows),.v (.int .u32 m.width),.v (.int .u32 m.height),.v (.slice m.mA m.modes.length m.mc),.v (.bool m.on),.v (.int .u32 m.code)]
def codeS (st:Int):Int:=IntKind.u32.wrap (IntKind.i64.wrap ((BitVec.ofInt 64 st &&& BitVec.ofInt 64 255).toNat))
def QU (st:Int):Int:=IntKind.i64.wrap (byS st 1000+byS st 2000)
def endR (st:Int):RQ:=if QU st==0 then { AK with kind:=9,code:=codeS st } else { AK with kind:=10,text:=(if CL (QU st) then(if isS (QU st) then AD (QU st) else⟨#[]⟩) else(if isS (QU st) then AD (QU st) else⟨#[]⟩)++oursS),on:=decide (byS st 2000>0) }
theorem dI {n:Int} (h:isS n=true):(AD n).size≤5:=by
 obtain⟨h1,h2⟩:=isS_range h;rcases c28 h1 h2 with rfl|rfl|rfl|rfl|rfl|rfl|rfl|rfl|rfl|rfl|rfl|rfl|rfl|rfl|rfl|rfl|rfl|rfl|rfl|rfl|rfl|rfl|rfl|rfl|rfl|rfl|rfl|rfl<;>decide
theorem dZ (n:Int):(if isS n then AD n else(⟨#[]⟩:ByteArray)).size≤5:=by
 split;·rename_i h;exact dI h
 ·decide
theorem run_cat (a b:ByteArray) (T:TypeId) (h:a.size+b.size≤1000000) (w:World):(Go.binOp .add T (.string a) (.string b)).run Tryz.prog w = .ok (.string (a++b)) w:=by
 show(Op.stringOp .add a b).run Tryz.prog w=_;unfold Op.stringOp;dsimp only;rw[if_neg (by
  show¬((a.size+b.size:Nat):Int)>9223372036854775807;omega)]
 rfl
theorem QC (st:Int) (w:World):Calls Tryz.prog 19 #[.int .i64 st] w fun e w'=>e = .returned (endR st).val∧Only [] w w':=by
 refine Hs.en Tryz.func19 [] [] [] [.c (.v (.int .i64 st))] (Mem.start0 w) ?_;have ht:=dZ (QU st);unfold endR;refine Hs.e1 fun b0=>?_;refine Hs.cV (fun w' H=>aE st 1000 w') ?_;refine Hs.e0 ?_;refine Hs.cV (fun w' H=>aE st 2000 w') ?_;refine Hs.e0 ?_;refine Hs.cn (QU st==0) (fun h=>?_) (fun h=>?_)
 ·rw[if_pos h];refine Hs.e0 ?_;exact Hs.rt (v:=RQ.val { AK with kind:=9,code:=codeS st }) Tryz.func19 fun w' H=>⟨rfl,H.only⟩
 rw[if_neg (by rw[h];decide)];refine Hs.e0 ?_;refine Hs.cV (fun w' H=>TY (QU st) w') ?_;refine Hs.e0 ?_;refine Hs.cV (fun w' H=>VK (QU st) w') ?_;refine Hs.e0 ?_;generalize (if isS (QU st) then AD (QU st) else(⟨#[]⟩:ByteArray))=tx at ht⊢;refine Hs.cn (!CL (QU st)) (fun h1=>?_) (fun h1=>?_)
 ·rw[if_neg (by simpa using h1)];refine Hs.run0 2 (fun _=>by kernel_rfl) ?_;refine Hs.opV (.c (.v (.string (tx++oursS)))) (by kernel_rfl) rfl (fun w H=>run_cat tx oursS 9 (by have:oursS.size=8:=rfl;omega) w) ?_;refine Hs.e0 ?_;exact Hs.rt (v:=RQ.val { AK with kind:=10,text:=tx++oursS,on:=decide (byS st 2000>0) }) Tryz.func19 fun w' H=>⟨rfl,H.only⟩
 ·rw[if_pos (by simpa using h1)];refine Hs.e0 ?_;exact Hs.rt (v:=RQ.val { AK with kind:=10,text:=tx,on:=decide (byS st 2000>0) }) Tryz.func19 fun w' H=>⟨rfl,H.only⟩
structure PR where
  n : ByteArray
  A : Option Addr
  c : Nat
  k : Nat
def cPr (x:PR):List Value:=[.string x.n,.slice x.A x.k x.c]
theorem cPr_len (x:PR):(cPr x).length=2:=rfl
def PR.sc (x:PR):List SC:=[.v (.string x.n),.v (.slice x.A x.k x.c)]
theorem elemPr:ElemT Tryz.prog 47 81 2 (Tryz.prog.bytesOf 81):=FV (z:=.agg #[.string ⟨#[]⟩,.slice none 0 0]) (by kernel_rfl) (by kernel_rfl) (by decide) (by decide)
theorem GT (nm:ByteArray) (r:List ByteArray): ∀(l:List ByteArray) (i:Int),(∀s∈l,(s.toList==nm.toList)=false)→MT nm (l++r) i=MT nm r (i+(l.length:Int))
 |[],i,_=>by simp
 |s::l,i,h=>by
  have h1:=h s List.mem_cons_self;rw[List.cons_append,CG (by rw[←h1];exact Bool.beq_comm),GT nm r l (i+1) fun x hx=>h x (List.mem_cons_of_mem _ hx),List.length_cons];congr 1
  omega
def FP (ps:List PR):List ByteArray:=ps.map PR.n
def HF (nm:ByteArray) (ps:List PR):Int:=MT nm (FP ps) 0
def TL (b:Nat):Value:=.func (.func 152) #[] #[.pointer (some ⟨b,0,none⟩)]
theorem dE (nm:ByteArray) (b:Nat) (A:Option Addr) (c:Nat) (ps:List PR) (w:World) (h:Blk w b 9 [.string nm]) (hr:RdX cPr w A ps) (hl:ps.length≤maxLen):Calls Tryz.prog 151 #[.slice A ps.length c,TL b] w fun e w'=>e = .returned (.int .i64 (HF nm ps))∧Only [] w w':=by
 have J: ∀(d i:Nat),ps.length-i=d→i≤ps.length→(∀x∈ps.take i,(x.n.toList==nm.toList)=false)→∀(u:Nat→Value),Hs Tryz.prog 151 (fun e w'=>e = .returned (.int .i64 (HF nm ps))∧Only [] w w') (Tryz.f151).ntmps w [] [b] ⟨.no,AE Tryz.f151 0,BI [(0,.c (.v (.slice A ps.length c))),(1,.c (.v (TL b))),(7,.c (.v (.int .i64 ps.length))),(8,.c (.v (.int .i64 i)))] (.vals u),[.b false 9 [.v (.string nm)]]⟩:=by
  intro d;induction d with
  |zero=>
   intro i hd hi hno u;obtain rfl:i=ps.length:=by omega
   rw[List.take_length] at hno;have e:HF nm ps = -1:=by
    unfold HF;have:=GT nm [] (FP ps) 0 (fun s hs=>by
     obtain⟨x,hx,rfl⟩:=List.mem_map.1 hs;exact hno x hx)
    rw[List.append_nil] at this;rw[this];rfl
   rw[e];refine Hs.e0 ?_;refine Hs.cP ((ps.length:Int)<(ps.length:Int)) (fun h=>by omega) (fun _=>?_);refine Hs.e0 ?_;exact Hs.rt (v:=.int .i64 (-1)) Tryz.func151 fun w' H=>⟨rfl,H.only⟩
  |succ d ih=>
   intro i hd hi hno u;have hil:i<ps.length:=by omega
   obtain⟨x,hx⟩: ∃x,ps[i]? = some x:=⟨_,List.getElem?_eq_getElem hil⟩;obtain⟨ab,aoff,hA,_,_⟩:=hr (by omega);have hih:=fun h u=>ih (i+1) (by omega) (by omega) h u;clear ih;rw[hA] at hih hr⊢;refine Hs.e0 ?_;refine Hs.cP ((i:Int)<(ps.length:Int)) (fun _=>?_) (fun h=>by omega);refine Hs.e0 ?_;refine Hs.idx (b:=ab) (off:=aoff) (len:=ps.length) (c:=c) (i:=i) elemPr hil (by kernel_rfl) ?_;refine Hs.ldx (cf:=cPr) (size:=2) (E:=81) (b:=ab) (off:=aoff) (i:=i) (l:=ps) (x:=x) cPr_len (.g x.sc) (by kernel_rfl) (fun w' H=>hr.only H.only) hx (by kernel_rfl) (by kernel_rfl) rfl (by kernel_rfl) ?_;refine Hs.inl Tryz.func152 [.g x.sc,.c (.p 0 0)] (by kernel_rfl) (by kernel_rfl) ?_;refine Hs.e1 fun b2=>?_;refine Hs.retI Tryz.func152 (by kernel_rfl) (by kernel_rfl) (by kernel_rfl) ?_;refine Hs.e0 ?_;refine Hs.cn (x.n.toList==nm.toList) (fun h1=>?_) (fun h1=>?_)
   ·have e:HF nm ps=i:=by
     unfold HF;have e2:FP ps=FP (ps.take i)++(x.n::FP (ps.drop (i+1))):=by
      have e3:ps=ps.take i++x::ps.drop (i+1):=by
       have h3:=List.drop_eq_getElem_cons hil;rw[List.getElem?_eq_getElem hil] at hx;injection hx with hx;rw[hx] at h3;rw[←h3,List.take_append_drop]
      unfold FP;rw[←List.map_cons,←List.map_append,←e3]
     rw[e2,GT nm _ _ 0 (fun s hs=>by
      obtain⟨y,hy,rfl⟩:=List.mem_map.1 hs;exact hno y hy),BG (by rw[←h1];exact Bool.beq_comm)]
     unfold FP;rw[List.length_map,List.length_take];omega
    rw[e];refine Hs.e0 ?_;exact Hs.rt (v:=.int .i64 i) Tryz.func151 fun w' H=>⟨rfl,H.only⟩
   ·refine Hs.e0 ?_;refine Hs.slot 8 (.c (.v (.int .i64 (i+1:Nat)))) rfl ((by kernel_rfl:_=Value.int .i64 (IntKind.i64.wrap ((i:Int)+1))).trans (BW hl)) ?_;refine Hs.lP ?_;exact Hs.goto (AE Tryz.f151 0) [0] [.b false 9 [.v (.string nm)]] [(0,.c (.v (.slice (some ⟨ab,aoff,none⟩) ps.length c))),(1,.c (.v (TL b))),(7,.c (.v (.int .i64 ps.length))),(8,.c (.v (.int .i64 (i+1:Nat))))] (by kernel_rfl) (by decide) (by kernel_rfl) (by kernel_rfl) (fun _=>(by kernel_rfl)) (fun u=>hih (by
     rw[List.take_add_one,hx];intro y hy;rcases List.mem_append.1 hy with hy|hy;·exact hno y hy
     ·rw[Option.mem_toList] at hy;injection hy with hy;subst hy;exact h1) u)
 refine Hs.en Tryz.func151 [] [b] [.b false 9 [.v (.string nm)]] [.c (.v (.slice A ps.length c)),.c (.v (TL b))] (Mem.rdB1 w b h) ?_;refine Hs.e0 ?_;refine Hs.lP ?_;exact Hs.goto (AE Tryz.f151 0) [0] [.b false 9 [.v (.string nm)]] [(0,.c (.v (.slice A ps.length c))),(1,.c (.v (TL b))),(7,.c (.v (.int .i64 ps.length))),(8,.c (.v (.int .i64 (0:Nat))))] (by kernel_rfl) (by decide) (by kernel_rfl) (by kernel_rfl) (fun _=>(by kernel_rfl)) (fun u=>J ps.length 0 (by omega) (by omega) (by simp) u)
def HG (nm:ByteArray) (ps:List PR):Int:=if 0>HF nm ps then 0 else HF nm ps
def HE (nm:ByteArray) (ps:List PR):Bool:=decide (HF nm ps≥0)
theorem dB (nm:ByteArray) (A:Option Addr) (c:Nat) (ps:List PR) (w:World) (hr:RdX cPr w A ps) (hl:ps.length≤maxLen):Calls Tryz.prog 137 #[.slice A ps.length c,.string nm] w fun e w'=>e = .returned (.tuple #[.int .i64 (HG nm ps),.bool (HE nm ps)])∧Only [] w w':=by
 refine Hs.en Tryz.func137 [] [] [] [.c (.v (.slice A ps.length c)),.c (.v (.string nm))] (Mem.start0 w) ?_;refine Hs.e1 fun b0=>?_;refine Hs.cV (fun w' H=>dE nm b0 A c ps w' (H.at (wr:=true) (T:=9) (cs:=[.v (.string nm)]) 0 (by kernel_rfl)) (hr.only H.only) hl) ?_;refine Hs.e0 ?_;exact Hs.rt (v:=.tuple #[.int .i64 (HG nm ps),.bool (HE nm ps)]) Tryz.func137 fun w' H=>⟨rfl,H.only⟩
structure VR where
  n : ByteArray
  v : ByteArray
def AI (x:VR):List Value:=[.string x.n,.string x.v]
theorem DD (x:VR):(AI x).length=2:=rfl
theorem KH (x:VR): ∀u∈AI x,u.oneCell'=true:=by
 intro u hu;simp only[AI,List.mem_cons,List.not_mem_nil,or_false] at hu;rcases hu with rfl|rfl<;>rfl
def VR.sc (x:VR):List SC:=[.v (.string x.n),.v (.string x.v)]
theorem LW:ElemT Tryz.prog 39 59 2 (Tryz.prog.bytesOf 59):=FV (z:=.agg #[.string ⟨#[]⟩,.string ⟨#[]⟩]) (by kernel_rfl) (by kernel_rfl) (by decide) (by decide)
theorem by_vr:Tryz.prog.bytesOf 59=32:=by kernel_rfl
def OwnV (l:List VR) (w:World) (v:Option Addr→Nat→Value):Ending→World→Prop:=fun e w'=>∃A cap,e = .returned (v A cap)∧Only [] w w'∧BM AI 59 2 w' w.heap.size (.slice A l.length cap) l
theorem cX (l:List VR) (A:Option Addr) (cap:Nat) (w:World) (hr:RdX AI w A l) (hf:l.length≤1000000000000):Calls Tryz.prog 27 #[.slice A l.length cap] w (OwnV l w fun A cap=>.slice A l.length cap):=by
 have hlen:l.length≤maxLen:=by unfold maxLen;omega
 cases A with
 |none=>
  have hl0:l=[]:=by
   cases l with
   |nil=>rfl
   |cons a r=>obtain⟨b,off,e,_⟩:=hr (by simp);cases e
  subst hl0;refine Hs.en Tryz.func27 [] [] [] [.c (.v (.slice none 0 cap))] (Mem.start0 w) ?_;refine Hs.e0 ?_;refine Hs.cT ?_;refine Hs.e0 ?_;exact Hs.rt (v:=.slice none 0 0) Tryz.func27 fun w' H=>⟨none,0,rfl,H.only,ownX_nil⟩
 |some a=>
  refine Hs.en Tryz.func27 [] [] [] [.c (.v (.slice (some a) l.length cap))] (Mem.start0 w) ?_;refine Hs.e0 ?_;refine Hs.cF ?_;refine Hs.e1 fun b0=>?_;refine Hs.litX (ty:=39) (c:=cap) 0 LW l l.length rfl KH DD (by kernel_rfl) (by kernel_rfl) (by kernel_rfl) (fun w' H=>hr.only H.only) hlen (by rw[by_vr];omega) fun A' cap' h1 h2=>?_;refine Hs.e0 ?_;exact Hs.rt (v:=.slice A' l.length cap') Tryz.func27 fun w' H=>⟨A',cap',rfl,H.only,H.fresh 0 rfl (by kernel_rfl)⟩
section
variable {P : Program} {f : FuncId} {R : Ending → World → Prop} {n : Nat} {w0 : World} {L : List Nat} {β : List Nat} {m : SM}
variable {tS E size bytes : Nat}
end
section
variable {α : Type} {cf : α → List Value}
theorem rdX_st {A:Option Addr} {l:List α} (w w':World) (h1: ∀a,A=some a→w'.heap[a.block]? = w.heap[a.block]?) (h2:w.heap.size≤w'.heap.size) (h:RdX cf w A l):RdX cf w' A l:=fun h0=>by
 obtain⟨b,off,rfl,hlt,hc⟩:=h h0;exact⟨b,off,rfl,by omega,fun j u hj=>(World.cell?_of_block (w:=w) (show w'.heap[b]? = w.heap[b]? from h1 _ rfl)).trans (hc j u hj)⟩
def outB (cf:α→List Value) (ab ao:Nat) (l:List α):HB:=.q false (some ⟨ab,ao,none⟩) (fun w=>RdX cf w (some ⟨ab,ao,none⟩) l) (fun w w' h1 h2 h=>rdX_st w w' h1 h2 h)
theorem Mem.out (w:World) (ab ao:Nat) (l:List α) (h:RdX cf w (some ⟨ab,ao,none⟩) l) (h0:0<l.length):Mem w [] [ab] [outB cf ab ao l] w:=
 Mem.start _ _ _ _ rfl (fun k h' hk=>by
  cases k with
  |zero=>
   simp at hk;subst hk;refine⟨h,fun a ha=>?_⟩;obtain⟨b,off,e,hb,_⟩:=h h0;injection e with e;injection ha with ha;subst ha;injection e with e1;subst e1;exact hb
  |succ k=>simp at hk) (fun k h' x hk hw _=>by
  cases k with
  |zero=>simp at hk;subst hk;cases hw
  |succ k=>simp at hk) (fun i j hi hj x ei ej _ _=>by
  cases i with
  |zero=>
   cases j with
   |zero=>rfl
   |succ j=>simp at ej
  |succ i=>simp at ei)
end
section
variable {P : Program} {f : FuncId} {R : Ending → World → Prop} {n : Nat} {w0 : World} {L : List Nat} {β : List Nat} {m : SM} {α : Type} {cf : α → List Value} {size : Nat}
theorem Hs.takeOut (j k:Nat) (hcl: ∀x,(cf x).length=size) {E':Nat} {rd:List Nat} {ab ao i c:Nat} {l:List α} {x:α} (v:Value) (hs:semAt j n β m=some (MU (Instr.loadAt E' (.pointer (some ⟨ab,ao+i*size+c,none⟩))),rd)) (hk:m.hp[k]? = some (outB cf ab ao l)) (hkr:rd.contains k=true) (hx:l[i]? = some x) (hv:(cf x)[c]? = some v) (ha:aggB P E'=some false)
  (h:Hs P f R n w0 L β (XS j (.c (.v v)) m)):Hs P f R n w0 L β m:=
 Hs.takeV j (.c (.v v)) hs rfl (fun w hI=>by
  have hQ:HB.lies w β (nm β k) (outB cf ab ao l):=hI k (by simpa using hkr) _ hk;exact run_ldc ha (bP hcl hQ.1 hx hv)) h
end
section
variable {P : Program} {f : FuncId} {R : Ending → World → Prop} {n : Nat} {w0 w00 : World} {L : List Nat} {β : List Nat} {m : SM} {D1 : World → Prop}
end
section
variable {P : Program} {f : FuncId} {R : Ending → World → Prop} {n : Nat} {w0 : World} {L : List Nat} {β : List Nat} {m : SM}
end
section
variable {P : Program} {f : FuncId} {R : Ending → World → Prop} {n : Nat} {w0 w00 : World} {L : List Nat} {β : List Nat} {m : SM} {D1 : World → Prop}
end
def orD (a b:Int):Int:=IntKind.u32.wrap (((BitVec.ofInt IntKind.u32.bits a ||| BitVec.ofInt IntKind.u32.bits b).toNat:Nat):Int)
def shD (a k:Int):Int:=IntKind.u32.wrap (IntKind.u32.wrap a*2 ^ min (Int.toNat k) IntKind.u32.bits)
def LR (a0 a1 a2 a3:Int):Int:=orD (orD (orD (shD a0 24) (shD a1 16)) (shD a2 8)) (IntKind.u32.wrap a3)
theorem XY (A:Option Addr) (c n:Nat) (a0 a1 a2 a3:Int) (r:List Int) (hn:(a0::a1::a2::a3::r).length=n) (w:World) (hr:RdX cu8 w A (a0::a1::a2::a3::r)):Calls Tryz.prog 136 #[.slice A n c] w fun e w'=>e = .returned (.int .u32 (LR a0 a1 a2 a3))∧Only [] w w':=by
 obtain⟨ab,ao,hA,hab,hc⟩:=hr (by simp);subst hA;have hl:4≤n:=by rw[←hn];simp
 refine Hs.en Tryz.func136 [] [ab] [outB cu8 ab ao (a0::a1::a2::a3::r)] [.c (.v (.slice (some ⟨ab,ao,none⟩) n c))] (Mem.out w ab ao _ hr (by simp)) ?_;refine Hs.e0 ?_;refine Hs.any [0] (by kernel_rfl) ?_;refine Hs.e0 ?_;refine Hs.takeIdx (rd:=[0]) 1 DS (b:=ab) (off:=ao) (c:=c) (len:=n) (i:=0) (by omega) (by kernel_rfl) ?_;refine Hs.takeOut (E':=5) (rd:=[0]) 2 0 DM (ab:=ab) (ao:=ao) (i:=0) (c:=0) (l:=a0::a1::a2::a3::r) (x:=a0) (.int .u8 a0) (by kernel_rfl) (by kernel_rfl) (by kernel_rfl) rfl rfl (by kernel_rfl) ?_;refine Hs.takeIdx (rd:=[0]) 6 DS (b:=ab) (off:=ao) (c:=c) (len:=n) (i:=1) (by omega) (by kernel_rfl) ?_;refine Hs.takeOut (E':=5) (rd:=[0]) 7 0 DM (ab:=ab) (ao:=ao) (i:=1) (c:=0) (l:=a0::a1::a2::a3::r) (x:=a1) (.int .u8 a1) (by kernel_rfl) (by kernel_rfl) (by kernel_rfl) rfl rfl (by kernel_rfl) ?_;refine Hs.takeIdx (rd:=[0]) 12 DS (b:=ab) (off:=ao) (c:=c) (len:=n) (i:=2) (by omega) (by kernel_rfl) ?_;refine Hs.takeOut (E':=5) (rd:=[0]) 13 0 DM (ab:=ab) (ao:=ao) (i:=2) (c:=0) (l:=a0::a1::a2::a3::r) (x:=a2) (.int .u8 a2) (by kernel_rfl) (by kernel_rfl) (by kernel_rfl) rfl rfl (by kernel_rfl) ?_;refine Hs.takeIdx (rd:=[0]) 18 DS (b:=ab) (off:=ao) (c:=c) (len:=n) (i:=3) (by omega) (by kernel_rfl) ?_;refine Hs.takeOut (E':=5) (rd:=[0]) 19 0 DM (ab:=ab) (ao:=ao) (i:=3) (c:=0) (l:=a0::a1::a2::a3::r) (x:=a3) (.int .u8 a3) (by kernel_rfl) (by kernel_rfl) (by kernel_rfl) rfl rfl (by kernel_rfl) ?_;refine Hs.e0 ?_;exact Hs.rt (v:=.int .u32 (LR a0 a1 a2 a3)) Tryz.func136 fun w' H=>⟨rfl,H.only⟩
def AJ:TM:=⟨fun _=>0,0,0,0,0,0⟩
def HH (t:TM) (op n:Int):TM×Int:=if op≤18 then(if n>255 then(AJ,5) else({ t with ch:=fun i=>if i=op.toNat then IntKind.u8.wrap n else t.ch i },0)) else if op==128 then({ t with inn:=n },0) else if op==129 then({ t with out:=n },0) else(t.set op (n !=0),0)
theorem c18 {n:Int} (h1:1≤n) (h2:n≤18):n=1∨n=2∨n=3∨n=4∨n=5∨n=6∨n=7∨n=8∨n=9∨n=10∨n=11∨n=12∨n=13∨n=14∨n=15∨n=16∨n=17∨n=18:=by omega
theorem mode_any (t:TM) (op n:Int) (h1:1≤op) (w:World):Calls Tryz.prog 135 #[t.val,.int .i64 op,.int .u32 n] w fun e w'=>e = .returned (.tuple #[(HH t op n).1.val,.int .i64 (HH t op n).2])∧Only [] w w':=by
 unfold HH;by_cases h2:op≤18
 ·rw[if_pos h2];rcases c18 h1 h2 with rfl|rfl|rfl|rfl|rfl|rfl|rfl|rfl|rfl|rfl|rfl|rfl|rfl|rfl|rfl|rfl|rfl|rfl
  ·refine Hs.en Tryz.func135 [] [] [] [.g t.sc,.c (.v (.int .i64 1)),.c (.v (.int .u32 n))] (Mem.start0 w) ?_;refine Hs.e2 fun b0 b1=>?_;refine Hs.cT ?_;refine Hs.e0 ?_;refine Hs.cP (n>255) (fun h3=>?_) (fun h3=>?_)
   ·rw[if_pos h3];refine Hs.e0 ?_;exact Hs.rt (v:=.tuple #[AJ.val,.int .i64 5]) Tryz.func135 fun w' H=>⟨rfl,H.only⟩
   ·rw[if_neg h3];refine Hs.e0 ?_;exact Hs.rt (v:=.tuple #[TM.val { t with ch:=fun i=>if i=1 then IntKind.u8.wrap n else t.ch i },.int .i64 0]) Tryz.func135 fun w' H=>⟨rfl,H.only⟩
  ·refine Hs.en Tryz.func135 [] [] [] [.g t.sc,.c (.v (.int .i64 2)),.c (.v (.int .u32 n))] (Mem.start0 w) ?_;refine Hs.e2 fun b0 b1=>?_;refine Hs.cT ?_;refine Hs.e0 ?_;refine Hs.cP (n>255) (fun h3=>?_) (fun h3=>?_)
   ·rw[if_pos h3];refine Hs.e0 ?_;exact Hs.rt (v:=.tuple #[AJ.val,.int .i64 5]) Tryz.func135 fun w' H=>⟨rfl,H.only⟩
   ·rw[if_neg h3];refine Hs.e0 ?_;exact Hs.rt (v:=.tuple #[TM.val { t with ch:=fun i=>if i=2 then IntKind.u8.wrap n else t.ch i },.int .i64 0]) Tryz.func135 fun w' H=>⟨rfl,H.only⟩
  ·refine Hs.en Tryz.func135 [] [] [] [.g t.sc,.c (.v (.int .i64 3)),.c (.v (.int .u32 n))] (Mem.start0 w) ?_;refine Hs.e2 fun b0 b1=>?_;refine Hs.cT ?_;refine Hs.e0 ?_;refine Hs.cP (n>255) (fun h3=>?_) (fun h3=>?_)
   ·rw[if_pos h3];refine Hs.e0 ?_;exact Hs.rt (v:=.tuple #[AJ.val,.int .i64 5]) Tryz.func135 fun w' H=>⟨rfl,H.only⟩
   ·rw[if_neg h3];refine Hs.e0 ?_;exact Hs.rt (v:=.tuple #[TM.val { t with ch:=fun i=>if i=3 then IntKind.u8.wrap n else t.ch i },.int .i64 0]) Tryz.func135 fun w' H=>⟨rfl,H.only⟩
  ·refine Hs.en Tryz.func135 [] [] [] [.g t.sc,.c (.v (.int .i64 4)),.c (.v (.int .u32 n))] (Mem.start0 w) ?_;refine Hs.e2 fun b0 b1=>?_;refine Hs.cT ?_;refine Hs.e0 ?_;refine Hs.cP (n>255) (fun h3=>?_) (fun h3=>?_)
   ·rw[if_pos h3];refine Hs.e0 ?_;exact Hs.rt (v:=.tuple #[AJ.val,.int .i64 5]) Tryz.func135 fun w' H=>⟨rfl,H.only⟩
   ·rw[if_neg h3];refine Hs.e0 ?_;exact Hs.rt (v:=.tuple #[TM.val { t with ch:=fun i=>if i=4 then IntKind.u8.wrap n else t.ch i },.int .i64 0]) Tryz.func135 fun w' H=>⟨rfl,H.only⟩
  ·refine Hs.en Tryz.func135 [] [] [] [.g t.sc,.c (.v (.int .i64 5)),.c (.v (.int .u32 n))] (Mem.start0 w) ?_;refine Hs.e2 fun b0 b1=>?_;refine Hs.cT ?_;refine Hs.e0 ?_;refine Hs.cP (n>255) (fun h3=>?_) (fun h3=>?_)
   ·rw[if_pos h3];refine Hs.e0 ?_;exact Hs.rt (v:=.tuple #[AJ.val,.int .i64 5]) Tryz.func135 fun w' H=>⟨rfl,H.only⟩
   ·rw[if_neg h3];refine Hs.e0 ?_;exact Hs.rt (v:=.tuple #[TM.val { t with ch:=fun i=>if i=5 then IntKind.u8.wrap n else t.ch i },.int .i64 0]) Tryz.func135 fun w' H=>⟨rfl,H.only⟩
  ·refine Hs.en Tryz.func135 [] [] [] [.g t.sc,.c (.v (.int .i64 6)),.c (.v (.int .u32 n))] (Mem.start0 w) ?_;refine Hs.e2 fun b0 b1=>?_;refine Hs.cT ?_;refine Hs.e0 ?_;refine Hs.cP (n>255) (fun h3=>?_) (fun h3=>?_)
   ·rw[if_pos h3];refine Hs.e0 ?_;exact Hs.rt (v:=.tuple #[AJ.val,.int .i64 5]) Tryz.func135 fun w' H=>⟨rfl,H.only⟩
   ·rw[if_neg h3];refine Hs.e0 ?_;exact Hs.rt (v:=.tuple #[TM.val { t with ch:=fun i=>if i=6 then IntKind.u8.wrap n else t.ch i },.int .i64 0]) Tryz.func135 fun w' H=>⟨rfl,H.only⟩
  ·refine Hs.en Tryz.func135 [] [] [] [.g t.sc,.c (.v (.int .i64 7)),.c (.v (.int .u32 n))] (Mem.start0 w) ?_;refine Hs.e2 fun b0 b1=>?_;refine Hs.cT ?_;refine Hs.e0 ?_;refine Hs.cP (n>255) (fun h3=>?_) (fun h3=>?_)
   ·rw[if_pos h3];refine Hs.e0 ?_;exact Hs.rt (v:=.tuple #[AJ.val,.int .i64 5]) Tryz.func135 fun w' H=>⟨rfl,H.only⟩
   ·rw[if_neg h3];refine Hs.e0 ?_;exact Hs.rt (v:=.tuple #[TM.val { t with ch:=fun i=>if i=7 then IntKind.u8.wrap n else t.ch i },.int .i64 0]) Tryz.func135 fun w' H=>⟨rfl,H.only⟩
  ·refine Hs.en Tryz.func135 [] [] [] [.g t.sc,.c (.v (.int .i64 8)),.c (.v (.int .u32 n))] (Mem.start0 w) ?_;refine Hs.e2 fun b0 b1=>?_;refine Hs.cT ?_;refine Hs.e0 ?_;refine Hs.cP (n>255) (fun h3=>?_) (fun h3=>?_)
   ·rw[if_pos h3];refine Hs.e0 ?_;exact Hs.rt (v:=.tuple #[AJ.val,.int .i64 5]) Tryz.func135 fun w' H=>⟨rfl,H.only⟩
   ·rw[if_neg h3];refine Hs.e0 ?_;exact Hs.rt (v:=.tuple #[TM.val { t with ch:=fun i=>if i=8 then IntKind.u8.wrap n else t.ch i },.int .i64 0]) Tryz.func135 fun w' H=>⟨rfl,H.only⟩
  ·refine Hs.en Tryz.func135 [] [] [] [.g t.sc,.c (.v (.int .i64 9)),.c (.v (.int .u32 n))] (Mem.start0 w) ?_;refine Hs.e2 fun b0 b1=>?_;refine Hs.cT ?_;refine Hs.e0 ?_;refine Hs.cP (n>255) (fun h3=>?_) (fun h3=>?_)
   ·rw[if_pos h3];refine Hs.e0 ?_;exact Hs.rt (v:=.tuple #[AJ.val,.int .i64 5]) Tryz.func135 fun w' H=>⟨rfl,H.only⟩
   ·rw[if_neg h3];refine Hs.e0 ?_;exact Hs.rt (v:=.tuple #[TM.val { t with ch:=fun i=>if i=9 then IntKind.u8.wrap n else t.ch i },.int .i64 0]) Tryz.func135 fun w' H=>⟨rfl,H.only⟩
  ·refine Hs.en Tryz.func135 [] [] [] [.g t.sc,.c (.v (.int .i64 10)),.c (.v (.int .u32 n))] (Mem.start0 w) ?_;refine Hs.e2 fun b0 b1=>?_;refine Hs.cT ?_;refine Hs.e0 ?_;refine Hs.cP (n>255) (fun h3=>?_) (fun h3=>?_)
   ·rw[if_pos h3];refine Hs.e0 ?_;exact Hs.rt (v:=.tuple #[AJ.val,.int .i64 5]) Tryz.func135 fun w' H=>⟨rfl,H.only⟩
   ·rw[if_neg h3];refine Hs.e0 ?_;exact Hs.rt (v:=.tuple #[TM.val { t with ch:=fun i=>if i=10 then IntKind.u8.wrap n else t.ch i },.int .i64 0]) Tryz.func135 fun w' H=>⟨rfl,H.only⟩
  ·refine Hs.en Tryz.func135 [] [] [] [.g t.sc,.c (.v (.int .i64 11)),.c (.v (.int .u32 n))] (Mem.start0 w) ?_;refine Hs.e2 fun b0 b1=>?_;refine Hs.cT ?_;refine Hs.e0 ?_;refine Hs.cP (n>255) (fun h3=>?_) (fun h3=>?_)
   ·rw[if_pos h3];refine Hs.e0 ?_;exact Hs.rt (v:=.tuple #[AJ.val,.int .i64 5]) Tryz.func135 fun w' H=>⟨rfl,H.only⟩
   ·rw[if_neg h3];refine Hs.e0 ?_;exact Hs.rt (v:=.tuple #[TM.val { t with ch:=fun i=>if i=11 then IntKind.u8.wrap n else t.ch i },.int .i64 0]) Tryz.func135 fun w' H=>⟨rfl,H.only⟩
  ·refine Hs.en Tryz.func135 [] [] [] [.g t.sc,.c (.v (.int .i64 12)),.c (.v (.int .u32 n))] (Mem.start0 w) ?_;refine Hs.e2 fun b0 b1=>?_;refine Hs.cT ?_;refine Hs.e0 ?_;refine Hs.cP (n>255) (fun h3=>?_) (fun h3=>?_)
   ·rw[if_pos h3];refine Hs.e0 ?_;exact Hs.rt (v:=.tuple #[AJ.val,.int .i64 5]) Tryz.func135 fun w' H=>⟨rfl,H.only⟩
   ·rw[if_neg h3];refine Hs.e0 ?_;exact Hs.rt (v:=.tuple #[TM.val { t with ch:=fun i=>if i=12 then IntKind.u8.wrap n else t.ch i },.int .i64 0]) Tryz.func135 fun w' H=>⟨rfl,H.only⟩
  ·refine Hs.en Tryz.func135 [] [] [] [.g t.sc,.c (.v (.int .i64 13)),.c (.v (.int .u32 n))] (Mem.start0 w) ?_;refine Hs.e2 fun b0 b1=>?_;refine Hs.cT ?_;refine Hs.e0 ?_;refine Hs.cP (n>255) (fun h3=>?_) (fun h3=>?_)
   ·rw[if_pos h3];refine Hs.e0 ?_;exact Hs.rt (v:=.tuple #[AJ.val,.int .i64 5]) Tryz.func135 fun w' H=>⟨rfl,H.only⟩
   ·rw[if_neg h3];refine Hs.e0 ?_;exact Hs.rt (v:=.tuple #[TM.val { t with ch:=fun i=>if i=13 then IntKind.u8.wrap n else t.ch i },.int .i64 0]) Tryz.func135 fun w' H=>⟨rfl,H.only⟩
  ·refine Hs.en Tryz.func135 [] [] [] [.g t.sc,.c (.v (.int .i64 14)),.c (.v (.int .u32 n))] (Mem.start0 w) ?_;refine Hs.e2 fun b0 b1=>?_;refine Hs.cT ?_;refine Hs.e0 ?_;refine Hs.cP (n>255) (fun h3=>?_) (fun h3=>?_)
   ·rw[if_pos h3];refine Hs.e0 ?_;exact Hs.rt (v:=.tuple #[AJ.val,.int .i64 5]) Tryz.func135 fun w' H=>⟨rfl,H.only⟩
   ·rw[if_neg h3];refine Hs.e0 ?_;exact Hs.rt (v:=.tuple #[TM.val { t with ch:=fun i=>if i=14 then IntKind.u8.wrap n else t.ch i },.int .i64 0]) Tryz.func135 fun w' H=>⟨rfl,H.only⟩
  ·refine Hs.en Tryz.func135 [] [] [] [.g t.sc,.c (.v (.int .i64 15)),.c (.v (.int .u32 n))] (Mem.start0 w) ?_;refine Hs.e2 fun b0 b1=>?_;refine Hs.cT ?_;refine Hs.e0 ?_;refine Hs.cP (n>255) (fun h3=>?_) (fun h3=>?_)
   ·rw[if_pos h3];refine Hs.e0 ?_;exact Hs.rt (v:=.tuple #[AJ.val,.int .i64 5]) Tryz.func135 fun w' H=>⟨rfl,H.only⟩
   ·rw[if_neg h3];refine Hs.e0 ?_;exact Hs.rt (v:=.tuple #[TM.val { t with ch:=fun i=>if i=15 then IntKind.u8.wrap n else t.ch i },.int .i64 0]) Tryz.func135 fun w' H=>⟨rfl,H.only⟩
  ·refine Hs.en Tryz.func135 [] [] [] [.g t.sc,.c (.v (.int .i64 16)),.c (.v (.int .u32 n))] (Mem.start0 w) ?_;refine Hs.e2 fun b0 b1=>?_;refine Hs.cT ?_;refine Hs.e0 ?_;refine Hs.cP (n>255) (fun h3=>?_) (fun h3=>?_)
   ·rw[if_pos h3];refine Hs.e0 ?_;exact Hs.rt (v:=.tuple #[AJ.val,.int .i64 5]) Tryz.func135 fun w' H=>⟨rfl,H.only⟩
   ·rw[if_neg h3];refine Hs.e0 ?_;exact Hs.rt (v:=.tuple #[TM.val { t with ch:=fun i=>if i=16 then IntKind.u8.wrap n else t.ch i },.int .i64 0]) Tryz.func135 fun w' H=>⟨rfl,H.only⟩
  ·refine Hs.en Tryz.func135 [] [] [] [.g t.sc,.c (.v (.int .i64 17)),.c (.v (.int .u32 n))] (Mem.start0 w) ?_;refine Hs.e2 fun b0 b1=>?_;refine Hs.cT ?_;refine Hs.e0 ?_;refine Hs.cP (n>255) (fun h3=>?_) (fun h3=>?_)
   ·rw[if_pos h3];refine Hs.e0 ?_;exact Hs.rt (v:=.tuple #[AJ.val,.int .i64 5]) Tryz.func135 fun w' H=>⟨rfl,H.only⟩
   ·rw[if_neg h3];refine Hs.e0 ?_;exact Hs.rt (v:=.tuple #[TM.val { t with ch:=fun i=>if i=17 then IntKind.u8.wrap n else t.ch i },.int .i64 0]) Tryz.func135 fun w' H=>⟨rfl,H.only⟩
  ·refine Hs.en Tryz.func135 [] [] [] [.g t.sc,.c (.v (.int .i64 18)),.c (.v (.int .u32 n))] (Mem.start0 w) ?_;refine Hs.e2 fun b0 b1=>?_;refine Hs.cT ?_;refine Hs.e0 ?_;refine Hs.cP (n>255) (fun h3=>?_) (fun h3=>?_)
   ·rw[if_pos h3];refine Hs.e0 ?_;exact Hs.rt (v:=.tuple #[AJ.val,.int .i64 5]) Tryz.func135 fun w' H=>⟨rfl,H.only⟩
   ·rw[if_neg h3];refine Hs.e0 ?_;exact Hs.rt (v:=.tuple #[TM.val { t with ch:=fun i=>if i=18 then IntKind.u8.wrap n else t.ch i },.int .i64 0]) Tryz.func135 fun w' H=>⟨rfl,H.only⟩
 rw[if_neg h2];refine Hs.en Tryz.func135 [] [] [] [.g t.sc,.c (.v (.int .i64 op)),.c (.v (.int .u32 n))] (Mem.start0 w) ?_;refine Hs.e2 fun b0 b1=>?_;refine Hs.cP (op≤18) (fun h=>absurd h h2) (fun _=>?_);refine Hs.e0 ?_;refine Hs.cn (op==128) (fun h3=>?_) (fun h3=>?_)
 ·rw[if_pos h3];refine Hs.e0 ?_;exact Hs.rt (v:=.tuple #[TM.val { t with inn:=n },.int .i64 0]) Tryz.func135 fun w' H=>⟨rfl,H.only⟩
 rw[if_neg (by rw[h3];decide)];refine Hs.e0 ?_;refine Hs.cn (op==129) (fun h4=>?_) (fun h4=>?_)
 ·rw[if_pos h4];refine Hs.e0 ?_;exact Hs.rt (v:=.tuple #[TM.val { t with out:=n },.int .i64 0]) Tryz.func135 fun w' H=>⟨rfl,H.only⟩
 rw[if_neg (by rw[h4];decide)];refine Hs.e0 ?_;refine Hs.cV (fun w' H=>set_any t op (n !=0) w') ?_;refine Hs.e0 ?_;exact Hs.rt (v:=.tuple #[(t.set op (n !=0)).val,.int .i64 0]) Tryz.func135 fun w' H=>⟨rfl,H.only⟩
def AO (t:TM):List Int→TM×Int
 |[]=>(t,0)
 |op::a::b::c::d::r=>if op=0∨160≤op then(t,0) else if(HH t op (LR a b c d)).2≠0 then(AJ,(HH t op (LR a b c d)).2) else AO (HH t op (LR a b c d)).1 r
 |op::_=>if op=0∨160≤op then(t,0) else(AJ,3)
theorem IU {t:TM} {op:Int} {r:List Int} (h:r.length<4):AO t (op::r)=if op=0∨160≤op then(t,0) else(AJ,3):=by
 match r,h with
 |[],_=>rfl
 |[_],_=>rfl
 |[_,_],_=>rfl
 |[_,_,_],_=>rfl
theorem LZ (t:TM) (A:Option Addr) (c:Nat) (l:List Int) (w:World) (hr:RdU w A c l) (hb: ∀x∈l,0≤x∧x<256):Calls Tryz.prog 93 #[.slice A l.length c,t.val] w fun e w'=>e = .returned (.tuple #[(AO t l).1.val,.int .i64 (AO t l).2])∧Only [] w w':=by
 obtain⟨T,hT⟩: ∃T,T=AO t l:=⟨_,rfl⟩;rw[←hT];have J: ∀(q:Nat) (r:List Int),r.length≤q→∀(t1:TM) (A1:Option Addr) (c1 n1:Nat),r.length=n1→RdU w A1 c1 r→(∀x∈r,0≤x∧x<256)→T=AO t1 r→∀(b0 b1:Nat) (u:Nat→Value),Hs Tryz.prog 93 (fun e w'=>e = .returned (.tuple #[T.1.val,.int .i64 T.2])∧Only [] w w') (Tryz.f93).ntmps w [] [b0,b1] ⟨.no,AE Tryz.f93 0,BI [(0,.c (.v (.slice A1 n1 c1))),(3,.c (.p 0 0)),(4,.c (.p 1 0)),(5,.c (.v (.int .i64 0)))] (.vals u),[.b true 28 t1.sc,.b true 28 AJ.sc]⟩:=by
  intro q;induction q with
  |zero=>
   intro r hq t1 A1 c1 n1 hn1 hr1 hb1 hT1 b0 b1 u;have h0:r=[]:=List.length_eq_zero_iff.1 (by omega);subst h0;subst hn1;rw[show AO t1 []=(t1,0) from rfl] at hT1;clear hT;subst hT1;refine Hs.e0 ?_;refine Hs.cF ?_;refine Hs.e0 ?_;exact Hs.rt (v:=.tuple #[t1.val,.int .i64 0]) Tryz.func93 fun w' H=>⟨rfl,H.only⟩
  |succ q ih=>
   intro r hq t1 A1 c1 n1 hn1 hr1 hb1 hT1 b0 b1 u;cases r with
   |nil=>
    subst hn1;rw[show AO t1 []=(t1,0) from rfl] at hT1;clear hT;subst hT1;refine Hs.e0 ?_;refine Hs.cF ?_;refine Hs.e0 ?_;exact Hs.rt (v:=.tuple #[t1.val,.int .i64 0]) Tryz.func93 fun w' H=>⟨rfl,H.only⟩
   |cons op r=>
    have hop:=hb1 op List.mem_cons_self;obtain⟨ab,ao,hA,_,_⟩:=hr1.1 (by simp);subst hA;have hn0:0<n1:=by rw[←hn1];simp
    have hw:IntKind.i64.wrap op=op:=IntWalk.i64_in _ (by omega);refine Hs.e0 ?_;refine Hs.cP ((n1:Int)>0) (fun _=>?_) (fun h=>by omega);refine Hs.e0 ?_;refine Hs.idx (b:=ab) (off:=ao) (len:=n1) (c:=c1) (i:=0) DS hn0 (by kernel_rfl) ?_;refine Hs.e0 ?_;refine Hs.ldc (E':=5) (b:=ab) (off:=ao+0*1) (.int .u8 op) (by kernel_rfl) (fun w' H=>LN (hr1.1.only H.only) rfl) (by kernel_rfl) ?_;refine Hs.run0 1 (fun _=>by kernel_rfl) ?_;refine Hs.slot 14 (.c (.v (.int .i64 op))) rfl ((by kernel_rfl:_=Value.int .i64 (IntKind.i64.wrap op)).trans (by rw[hw];rfl)) ?_;refine Hs.e0 ?_;have out:(op=0∨160≤op)→T=(t1,0):=fun h=>by
     rw[hT1];by_cases h4:r.length<4
     ·rw[IU h4,if_pos h]
     ·match r,h4 with
      |_::_::_::_::_,_=>unfold AO;rw[if_pos h]
      |[],h4=>exact absurd (by simp) h4
      |[_],h4=>exact absurd (by simp) h4
      |[_,_],h4=>exact absurd (by simp) h4
      |[_,_,_],h4=>exact absurd (by simp) h4
    refine Hs.bool 17 (op==0) (by kernel_rfl) (fun h1=>?_) (fun h1=>?_)
    ·have e:=out (.inl (by simpa using h1));clear hT hT1 out;subst e;refine Hs.eg [2] ?_;refine Hs.cT ?_;refine Hs.e0 ?_;exact Hs.rt (v:=.tuple #[t1.val,.int .i64 0]) Tryz.func93 fun w' H=>⟨rfl,H.only⟩
    replace h1: ¬op=0:=by simpa using h1
    refine Hs.eg [2] ?_;refine Hs.cP (op≥160) (fun h2=>?_) (fun h2=>?_)
    ·have e:=out (.inr h2);clear hT hT1 out;subst e;refine Hs.e0 ?_;exact Hs.rt (v:=.tuple #[t1.val,.int .i64 0]) Tryz.func93 fun w' H=>⟨rfl,H.only⟩
    have hno: ¬(op=0∨160≤op):=fun h=>h.elim h1 h2;clear out;refine Hs.e0 ?_;refine Hs.cP ((n1:Int)<5) (fun h3=>?_) (fun h3=>?_)
    ·have e:T=(AJ,3):=by
      rw[hT1,IU (by rw[List.length_cons] at hn1;omega),if_neg hno]
     clear hT hT1;subst e;refine Hs.e0 ?_;exact Hs.rt (v:=.tuple #[AJ.val,.int .i64 3]) Tryz.func93 fun w' H=>⟨rfl,H.only⟩
    match r,hn1,hr1,hb1,hq,hT1 with
    |[],hn1,_,_,_,_=>rw[List.length_cons,List.length_nil] at hn1;omega
    |[_],hn1,_,_,_,_=>simp at hn1;omega
    |[_,_],hn1,_,_,_,_=>simp at hn1;omega
    |[_,_,_],hn1,_,_,_,_=>simp at hn1;omega
    |a::b::c::d::r,hn1,hr1,hb1,hq,hT1=>
    rw[show AO t1 (op::a::b::c::d::r)=if op=0∨160≤op then(t1,0) else if(HH t1 op (LR a b c d)).2≠0 then(AJ,(HH t1 op (LR a b c d)).2) else AO (HH t1 op (LR a b c d)).1 r from rfl,if_neg hno] at hT1;refine Hs.e0 ?_;refine Hs.any [0,1009] (by kernel_rfl) ?_;refine Hs.e0 ?_;have hlen:5≤n1:=by omega
    have hcl:n1≤c1:=by rw[←hn1];exact hr1.2.1
    refine Hs.lo DS (A:=some ⟨ab,ao,none⟩) (len:=n1) (cap:=c1) (i:=1) (by omega) (by kernel_rfl) ?_;refine Hs.e0 ?_;refine Hs.cV (fun w' H=>XY (loA 1 (some ⟨ab,ao,none⟩) 1 c1) (c1-1) (n1-1) a b c d r (by rw[List.length_cons] at hn1;omega) w' ((US (i:=1) DM hr1.1 (by simp) (by rw[hn1];exact hcl)).only H.only)) ?_;refine Hs.e0 ?_;refine Hs.cV (fun w' H=>mode_any t1 op (LR a b c d) (by omega) w') ?_;generalize HH t1 op (LR a b c d)=z at hT1⊢;obtain⟨t2,e2⟩:=z;replace hT1:T=if e2≠0 then(AJ,e2) else AO t2 r:=hT1
    refine Hs.e0 ?_;refine Hs.branch2 8 9 (by kernel_rfl) ?_ ?_
    ·refine Hs.e0 ?_;refine Hs.cn (e2 !=0) (fun h4=>?_) (fun h4=>?_)
     ·rw[if_pos (by simpa using h4)] at hT1;clear hT;subst hT1;refine Hs.e0 ?_;exact Hs.rt (v:=.tuple #[AJ.val,.int .i64 e2]) Tryz.func93 fun w' H=>⟨rfl,H.only⟩
     rw[if_neg (by simpa using h4)] at hT1;refine Hs.e0 ?_;refine Hs.lo DS (A:=some ⟨ab,ao,none⟩) (len:=n1) (cap:=c1) (i:=5) (by omega) (by kernel_rfl) ?_;refine Hs.e0 ?_;refine Hs.lP ?_;have hr5:=US (i:=5) DM hr1.1 (by simp) (by rw[hn1];exact hcl);exact Hs.goto (AE Tryz.f93 0) [0,1] [.b true 28 t2.sc,.b true 28 AJ.sc] [(0,.c (.v (.slice (loA 1 (some ⟨ab,ao,none⟩) 5 c1) (n1-5) (c1-5)))),(3,.c (.p 0 0)),(4,.c (.p 1 0)),(5,.c (.v (.int .i64 0)))] (by kernel_rfl) (by decide) (by kernel_rfl) (by kernel_rfl) (fun _=>(by kernel_rfl)) (fun u=>ih r (by simp only[List.length_cons] at hq;omega) t2 _ _ _ (by simp only[List.length_cons] at hn1;omega) ⟨hr5,by simp only[List.length_cons] at hn1;omega,by have:=hr1.2.2;omega⟩ (fun x hx=>hb1 x (by simp[hx])) hT1 b0 b1 u)
    ·refine Hs.e0 ?_;refine Hs.cn (e2 !=0) (fun h4=>?_) (fun h4=>?_)
     ·rw[if_pos (by simpa using h4)] at hT1;clear hT;subst hT1;refine Hs.e0 ?_;exact Hs.rt (v:=.tuple #[AJ.val,.int .i64 e2]) Tryz.func93 fun w' H=>⟨rfl,H.only⟩
     rw[if_neg (by simpa using h4)] at hT1;refine Hs.e0 ?_;refine Hs.lo DS (A:=some ⟨ab,ao,none⟩) (len:=n1) (cap:=c1) (i:=5) (by omega) (by kernel_rfl) ?_;refine Hs.e0 ?_;refine Hs.lP ?_;have hr5:=US (i:=5) DM hr1.1 (by simp) (by rw[hn1];exact hcl);exact Hs.goto (AE Tryz.f93 0) [0,1] [.b true 28 t2.sc,.b true 28 AJ.sc] [(0,.c (.v (.slice (loA 1 (some ⟨ab,ao,none⟩) 5 c1) (n1-5) (c1-5)))),(3,.c (.p 0 0)),(4,.c (.p 1 0)),(5,.c (.v (.int .i64 0)))] (by kernel_rfl) (by decide) (by kernel_rfl) (by kernel_rfl) (fun _=>(by kernel_rfl)) (fun u=>ih r (by simp only[List.length_cons] at hq;omega) t2 _ _ _ (by simp only[List.length_cons] at hn1;omega) ⟨hr5,by simp only[List.length_cons] at hn1;omega,by have:=hr1.2.2;omega⟩ (fun x hx=>hb1 x (by simp[hx])) hT1 b0 b1 u)
 refine Hs.en Tryz.func93 [] [] [] [.c (.v (.slice A l.length c)),.g t.sc] (Mem.start0 w) ?_;refine Hs.e2 fun b0 b1=>?_;refine Hs.lP ?_;exact Hs.goto (AE Tryz.f93 0) [0,1] [.b true 28 t.sc,.b true 28 AJ.sc] [(0,.c (.v (.slice A l.length c))),(3,.c (.p 0 0)),(4,.c (.p 1 0)),(5,.c (.v (.int .i64 0)))] (by kernel_rfl) (by decide) (by kernel_rfl) (by kernel_rfl) (fun _=>(by kernel_rfl)) (fun u=>J l.length l (Nat.le_refl _) t A c l.length rfl hr hb hT b0 b1 u)
theorem CJ {P:Program} {ops:Array Oper} {rest:List Oper} {o:Oper} {a:Act} {w:World} {Q:Exit→Act→World→Prop} (d:Tmp) (hd:o.dst=some d) (hg:o.guard=none) (t:TypeId) (parts:Array (Nat×Operand)) (ho:o.op = .build t parts)
  (cells:Array Value) (hf:P.built t (parts.map fun(i,x)=>(i,a.eval x)).toList=some cells)
  (h:wpList P ops Q rest (a.put (some d) (.agg cells)) w):wpList P ops Q (o::rest) a w:=by
 refine wpList_build hg t parts ho (by rw[hf];rfl) ?_;rw[hf,hd];exact h
def kidx:Nat→Nat
 |1=>1
 |2=>2
 |4=>3
 |5=>4
 |6=>5
 |7=>6
 |8=>7
 |9=>8
 |10=>9
 |_=>0
def MY (q k:Nat):Option Addr:=match kidx k with
 |0=>none
 |i+1=>some ⟨q+(i+1),0,none⟩
def rget:Nat→FuncId
 |1=>71
 |2=>74
 |3=>77
 |4=>80
 |5=>80
 |6=>84
 |7=>86
 |8=>80
 |9=>88
 |_=>90
def rput:Nat→FuncId
 |1=>72
 |2=>75
 |3=>78
 |4=>81
 |5=>81
 |6=>85
 |7=>87
 |8=>81
 |9=>89
 |_=>91
def rask:Nat→FuncId
 |1=>73
 |2=>76
 |3=>79
 |4=>82
 |5=>83
 |6=>79
 |7=>79
 |8=>83
 |9=>79
 |_=>92
def rfn (f:FuncId):Value:=.func (Fn.func f) #[] #[]
def JD (q k:Nat):List Value:=[.string (AU k),.slice (MY q k) (AH k).length (AH k).length,rfn (rget k),rfn (rput k),rfn (rask k)]
def HY (q k:Nat):Array Value:=(JD q k).toArray
def IQ:List Value:=[.string ⟨#[]⟩,.slice none 0 0,.nilFunc,.nilFunc,.nilFunc]
def PN (q:Nat):Array Value:=(IQ++(JD q 1++(JD q 2++(JD q 3++(JD q 4++(JD q 5++(JD q 6++(JD q 7++(JD q 8++(JD q 9++JD q 10)))))))))).toArray
def JL:Array Value:=(IQ++(IQ++(IQ++(IQ++(IQ++(IQ++(IQ++(IQ++(IQ++(IQ++IQ)))))))))).toArray
def EL (w:World):World:=((((((((((w.alloc (.cells JL 133)).alloc (.cells #[.int .i64 4,.int .i64 3,.int .i64 3,.int .i64 3,.int .i64 3,.int .i64 4] 3)).alloc (.cells #[.int .i64 4,.int .i64 4] 3)).alloc (.cells #[.int .i64 4] 3)).alloc (.cells #[.int .i64 4] 3)).alloc (.cells #[.int .i64 3,.int .i64 3,.int .i64 3,.int .i64 3] 3)).alloc (.cells #[.int .i64 2] 3)).alloc (.cells #[.int .i64 4] 3)).alloc (.cells #[.int .i64 3] 3)).alloc (.cells #[.int .i64 4,.int .i64 2,.int .i64 4,.int .i64 4] 3))
theorem cA (w:World):(EL w).heap.size=w.heap.size+10:=by unfold EL;simp
theorem UY (w:World):Blk (EL w) w.heap.size 133 JL.toList:=(((((((((Blk.new w 133 JL.toList).alloc _).alloc _).alloc _).alloc _).alloc _).alloc _).alloc _).alloc _).alloc _
theorem bZ (w:World):Only [] w (EL w):=((((((((((Only.refl [] w).alloc _).alloc _).alloc _).alloc _).alloc _).alloc _).alloc _).alloc _).alloc _).alloc _
theorem rworld_1 (w:World):Blk (EL w) (w.heap.size+1) 3 [.int .i64 4,.int .i64 3,.int .i64 3,.int .i64 3,.int .i64 3,.int .i64 4]:=by
 have h:=Blk.new (w.alloc (.cells JL 133)) 3 [.int .i64 4,.int .i64 3,.int .i64 3,.int .i64 3,.int .i64 3,.int .i64 4];rw[show(w.alloc (.cells JL 133)).heap.size=w.heap.size+1 by simp] at h;exact((((((((h).alloc _).alloc _).alloc _).alloc _).alloc _).alloc _).alloc _).alloc _
theorem rworld_2 (w:World):Blk (EL w) (w.heap.size+2) 3 [.int .i64 4,.int .i64 4]:=by
 have h:=Blk.new ((w.alloc (.cells JL 133)).alloc (.cells #[.int .i64 4,.int .i64 3,.int .i64 3,.int .i64 3,.int .i64 3,.int .i64 4] 3)) 3 [.int .i64 4,.int .i64 4];rw[show((w.alloc (.cells JL 133)).alloc (.cells #[.int .i64 4,.int .i64 3,.int .i64 3,.int .i64 3,.int .i64 3,.int .i64 4] 3)).heap.size=w.heap.size+2 by simp] at h;exact(((((((h).alloc _).alloc _).alloc _).alloc _).alloc _).alloc _).alloc _
theorem rworld_4 (w:World):Blk (EL w) (w.heap.size+3) 3 [.int .i64 4]:=by
 have h:=Blk.new (((w.alloc (.cells JL 133)).alloc (.cells #[.int .i64 4,.int .i64 3,.int .i64 3,.int .i64 3,.int .i64 3,.int .i64 4] 3)).alloc (.cells #[.int .i64 4,.int .i64 4] 3)) 3 [.int .i64 4];rw[show(((w.alloc (.cells JL 133)).alloc (.cells #[.int .i64 4,.int .i64 3,.int .i64 3,.int .i64 3,.int .i64 3,.int .i64 4] 3)).alloc (.cells #[.int .i64 4,.int .i64 4] 3)).heap.size=w.heap.size+3 by simp] at h;exact((((((h).alloc _).alloc _).alloc _).alloc _).alloc _).alloc _
theorem rworld_5 (w:World):Blk (EL w) (w.heap.size+4) 3 [.int .i64 4]:=by
 have h:=Blk.new ((((w.alloc (.cells JL 133)).alloc (.cells #[.int .i64 4,.int .i64 3,.int .i64 3,.int .i64 3,.int .i64 3,.int .i64 4] 3)).alloc (.cells #[.int .i64 4,.int .i64 4] 3)).alloc (.cells #[.int .i64 4] 3)) 3 [.int .i64 4];rw[show((((w.alloc (.cells JL 133)).alloc (.cells #[.int .i64 4,.int .i64 3,.int .i64 3,.int .i64 3,.int .i64 3,.int .i64 4] 3)).alloc (.cells #[.int .i64 4,.int .i64 4] 3)).alloc (.cells #[.int .i64 4] 3)).heap.size=w.heap.size+4 by simp] at h;exact(((((h).alloc _).alloc _).alloc _).alloc _).alloc _
theorem rworld_6 (w:World):Blk (EL w) (w.heap.size+5) 3 [.int .i64 3,.int .i64 3,.int .i64 3,.int .i64 3]:=by
 have h:=Blk.new (((((w.alloc (.cells JL 133)).alloc (.cells #[.int .i64 4,.int .i64 3,.int .i64 3,.int .i64 3,.int .i64 3,.int .i64 4] 3)).alloc (.cells #[.int .i64 4,.int .i64 4] 3)).alloc (.cells #[.int .i64 4] 3)).alloc (.cells #[.int .i64 4] 3)) 3 [.int .i64 3,.int .i64 3,.int .i64 3,.int .i64 3];rw[show(((((w.alloc (.cells JL 133)).alloc (.cells #[.int .i64 4,.int .i64 3,.int .i64 3,.int .i64 3,.int .i64 3,.int .i64 4] 3)).alloc (.cells #[.int .i64 4,.int .i64 4] 3)).alloc (.cells #[.int .i64 4] 3)).alloc (.cells #[.int .i64 4] 3)).heap.size=w.heap.size+5 by simp] at h;exact((((h).alloc _).alloc _).alloc _).alloc _
theorem rworld_7 (w:World):Blk (EL w) (w.heap.size+6) 3 [.int .i64 2]:=by
 have h:=Blk.new ((((((w.alloc (.cells JL 133)).alloc (.cells #[.int .i64 4,.int .i64 3,.int .i64 3,.int .i64 3,.int .i64 3,.int .i64 4] 3)).alloc (.cells #[.int .i64 4,.int .i64 4] 3)).alloc (.cells #[.int .i64 4] 3)).alloc (.cells #[.int .i64 4] 3)).alloc (.cells #[.int .i64 3,.int .i64 3,.int .i64 3,.int .i64 3] 3)) 3 [.int .i64 2];rw[show((((((w.alloc (.cells JL 133)).alloc (.cells #[.int .i64 4,.int .i64 3,.int .i64 3,.int .i64 3,.int .i64 3,.int .i64 4] 3)).alloc (.cells #[.int .i64 4,.int .i64 4] 3)).alloc (.cells #[.int .i64 4] 3)).alloc (.cells #[.int .i64 4] 3)).alloc (.cells #[.int .i64 3,.int .i64 3,.int .i64 3,.int .i64 3] 3)).heap.size=w.heap.size+6 by simp] at h;exact(((h).alloc _).alloc _).alloc _
theorem rworld_8 (w:World):Blk (EL w) (w.heap.size+7) 3 [.int .i64 4]:=by
 have h:=Blk.new (((((((w.alloc (.cells JL 133)).alloc (.cells #[.int .i64 4,.int .i64 3,.int .i64 3,.int .i64 3,.int .i64 3,.int .i64 4] 3)).alloc (.cells #[.int .i64 4,.int .i64 4] 3)).alloc (.cells #[.int .i64 4] 3)).alloc (.cells #[.int .i64 4] 3)).alloc (.cells #[.int .i64 3,.int .i64 3,.int .i64 3,.int .i64 3] 3)).alloc (.cells #[.int .i64 2] 3)) 3 [.int .i64 4];rw[show(((((((w.alloc (.cells JL 133)).alloc (.cells #[.int .i64 4,.int .i64 3,.int .i64 3,.int .i64 3,.int .i64 3,.int .i64 4] 3)).alloc (.cells #[.int .i64 4,.int .i64 4] 3)).alloc (.cells #[.int .i64 4] 3)).alloc (.cells #[.int .i64 4] 3)).alloc (.cells #[.int .i64 3,.int .i64 3,.int .i64 3,.int .i64 3] 3)).alloc (.cells #[.int .i64 2] 3)).heap.size=w.heap.size+7 by simp] at h;exact((h).alloc _).alloc _
theorem rworld_9 (w:World):Blk (EL w) (w.heap.size+8) 3 [.int .i64 3]:=by
 have h:=Blk.new ((((((((w.alloc (.cells JL 133)).alloc (.cells #[.int .i64 4,.int .i64 3,.int .i64 3,.int .i64 3,.int .i64 3,.int .i64 4] 3)).alloc (.cells #[.int .i64 4,.int .i64 4] 3)).alloc (.cells #[.int .i64 4] 3)).alloc (.cells #[.int .i64 4] 3)).alloc (.cells #[.int .i64 3,.int .i64 3,.int .i64 3,.int .i64 3] 3)).alloc (.cells #[.int .i64 2] 3)).alloc (.cells #[.int .i64 4] 3)) 3 [.int .i64 3];rw[show((((((((w.alloc (.cells JL 133)).alloc (.cells #[.int .i64 4,.int .i64 3,.int .i64 3,.int .i64 3,.int .i64 3,.int .i64 4] 3)).alloc (.cells #[.int .i64 4,.int .i64 4] 3)).alloc (.cells #[.int .i64 4] 3)).alloc (.cells #[.int .i64 4] 3)).alloc (.cells #[.int .i64 3,.int .i64 3,.int .i64 3,.int .i64 3] 3)).alloc (.cells #[.int .i64 2] 3)).alloc (.cells #[.int .i64 4] 3)).heap.size=w.heap.size+8 by simp] at h;exact(h).alloc _
theorem rworld_10 (w:World):Blk (EL w) (w.heap.size+9) 3 [.int .i64 4,.int .i64 2,.int .i64 4,.int .i64 4]:=by
 have h:=Blk.new (((((((((w.alloc (.cells JL 133)).alloc (.cells #[.int .i64 4,.int .i64 3,.int .i64 3,.int .i64 3,.int .i64 3,.int .i64 4] 3)).alloc (.cells #[.int .i64 4,.int .i64 4] 3)).alloc (.cells #[.int .i64 4] 3)).alloc (.cells #[.int .i64 4] 3)).alloc (.cells #[.int .i64 3,.int .i64 3,.int .i64 3,.int .i64 3] 3)).alloc (.cells #[.int .i64 2] 3)).alloc (.cells #[.int .i64 4] 3)).alloc (.cells #[.int .i64 3] 3)) 3 [.int .i64 4,.int .i64 2,.int .i64 4,.int .i64 4];rw[show(((((((((w.alloc (.cells JL 133)).alloc (.cells #[.int .i64 4,.int .i64 3,.int .i64 3,.int .i64 3,.int .i64 3,.int .i64 4] 3)).alloc (.cells #[.int .i64 4,.int .i64 4] 3)).alloc (.cells #[.int .i64 4] 3)).alloc (.cells #[.int .i64 4] 3)).alloc (.cells #[.int .i64 3,.int .i64 3,.int .i64 3,.int .i64 3] 3)).alloc (.cells #[.int .i64 2] 3)).alloc (.cells #[.int .i64 4] 3)).alloc (.cells #[.int .i64 3] 3)).heap.size=w.heap.size+9 by simp] at h;exact h
theorem GE {w:World} {g:Nat} {t:TypeId} {ks:List Int} (h:Blk w g t (ks.map (.int .i64))):RdI w (some ⟨g,0,none⟩) ks:=fun _=>⟨g,0,rfl,h.lt,fun i v hi=>by
 have:w.cell? ⟨g,0+i,none⟩=(ks.map (Value.int .i64))[0+i]? :=h.cell _;rw[this,Nat.zero_add,List.getElem?_map,hi];rfl⟩
theorem ZM (w:World) (k:Nat) (h1:1≤k) (h2:k≤10):RdI (EL w) (MY w.heap.size k) (AH k):=by
 rcases k10 h1 h2 with rfl|rfl|rfl|rfl|rfl|rfl|rfl|rfl|rfl|rfl;·exact GE (rworld_1 w)
 ·exact GE (rworld_2 w)
 ·exact RdG.nil
 ·exact GE (rworld_4 w)
 ·exact GE (rworld_5 w)
 ·exact GE (rworld_6 w)
 ·exact GE (rworld_7 w)
 ·exact GE (rworld_8 w)
 ·exact GE (rworld_9 w)
 ·exact GE (rworld_10 w)
theorem XL (w:World):Calls Tryz.prog 49 #[] w fun e w'=>e = .returned (.agg (PN w.heap.size))∧Only [] w w'∧w'.heap.size=w.heap.size+10∧∀k,1≤k→k≤10→RdI w' (MY w.heap.size k) (AH k):=by
 have hz:(EL w).heap[w.heap.size]? = some (.cells JL 133 (0,0)):=UY w;have hfin:Only [] w ((EL w).setRow w.heap.size (PN w.heap.size))∧((EL w).setRow w.heap.size (PN w.heap.size)).heap.size=w.heap.size+10∧∀k,1≤k→k≤10→RdI ((EL w).setRow w.heap.size (PN w.heap.size)) (MY w.heap.size k) (AH k):=by
  refine⟨(bZ w).trans (IF _ _ _) (by simp),by rw[setRow_size,cA],fun k h1 h2=>?_⟩;refine RdG.onlyL (ZM w k h1 h2) (IF _ _ _) (fun a ha h0=>?_);unfold MY at ha;split at ha;·cases ha
  ·injection ha with ha;rw[←ha];simp
 have hbl:Blk ((EL w).setRow w.heap.size (PN w.heap.size)) w.heap.size 133 (PN w.heap.size).toList:=LA (UY w) (PN w.heap.size).toList;replace hfin:=AB hfin;replace hbl:=AB hbl;unfold EL at hz;replace hz:=AB hz;go_enter Tryz.func49,Tryz.ntmps49
 go_wp2_with (first|(refine CJ 2 rfl rfl 114 _ rfl (HY w.heap.size 1) (by kernel_rfl) ?_)|(refine CJ 4 rfl rfl 114 _ rfl (HY w.heap.size 2) (by kernel_rfl) ?_)|(refine CJ 5 rfl rfl 114 _ rfl (HY w.heap.size 3) (by kernel_rfl) ?_)|(refine CJ 7 rfl rfl 114 _ rfl (HY w.heap.size 4) (by kernel_rfl) ?_)|(refine CJ 9 rfl rfl 114 _ rfl (HY w.heap.size 5) (by kernel_rfl) ?_)|(refine CJ 11 rfl rfl 114 _ rfl (HY w.heap.size 6) (by kernel_rfl) ?_)|(refine CJ 13 rfl rfl 114 _ rfl (HY w.heap.size 7) (by kernel_rfl) ?_)|(refine CJ 15 rfl rfl 114 _ rfl (HY w.heap.size 8) (by kernel_rfl) ?_)|(refine CJ 17 rfl rfl 114 _ rfl (HY w.heap.size 9) (by kernel_rfl) ?_)|(refine CJ 19 rfl rfl 114 _ rfl (HY w.heap.size 10) (by kernel_rfl) ?_)|(refine CJ 20 rfl rfl 133 _ rfl (PN w.heap.size) (by kernel_rfl) ?_)|(refine wpList_store_row rfl 133 (.tmp 0) (.tmp 20) rfl w.heap.size (PN w.heap.size) rfl rfl 133 JL hz.out (by kernel_rfl) (by kernel_rfl) (by kernel_rfl) ?_))
 (try simp only[Exit.inBlock,Exit.then])
 refine bodyPost_ret (results_cell_row rfl _ _ w.heap.size 133 (PN w.heap.size) (0,0) _ (by rfl) hbl.out Tryz.underlying133 rfl (by kernel_rfl)) (by rfl) ⟨rfl,hfin.out⟩
end Go.Proofs.YtdplnedpbkpgpaaGreatDoor
