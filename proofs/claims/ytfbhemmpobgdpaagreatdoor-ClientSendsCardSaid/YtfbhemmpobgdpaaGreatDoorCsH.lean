/- ClientSends: lemmas, from 'Layer 1: the laws of what Write answers: of fields, and of f' on; what each asks for stands in it. -/
import Derived.Test.YtfbhemmpobgdpaaGreatDoorCsF
import Derived.Lib.SplitLaws
import Derived.Test.YtfbhemmpobgdpaaGreatDoorCsG
import Derived.Test.YtfbhemmpobgdpaaGreatDoorCsC
set_option linter.all false
set_option maxRecDepth 100000
set_option maxHeartbeats 64000000
namespace Go.Proofs.YtfbhemmpobgdpaaGreatDoor
open Go.RowKit
def OkP (ps:List PF):Prop:=GS (ps.map (·.kind))=true/\(∀p∈ps,AV p=0)/\(ps.flatMap AM).length<=33792
theorem ST: ∀(ps:List PF) (acc:List Int),(∀p∈ps,AV p=0)->(acc++ps.flatMap AM).length<=33792->DT ps acc=(0,acc++ps.flatMap AM)
 |[],acc,_,_=>by simp[DT]
 |p::ps,acc,h1,h2=>by
  have e:=h1 p (by simp);rw[qG,<-List.append_assoc] at h2⊢;have h3: ¬33792<(acc++AM p).length:=by
   rw[zE] at h2;omega
  unfold DT;rw[if_neg (by simp[e]),if_neg h3];exact ST ps _ (fun q hq=>h1 q (by simp[hq])) h2
theorem PX: ∀(ps:List PF) (acc:List Int),¬((∀p∈ps,AV p=0)/\(acc++ps.flatMap AM).length<=33792)->acc.length<=33792->∃e,e≠0/\DT ps acc=(e,[])
 |[],acc,h,ha=>by
  refine absurd ⟨fun p hp=>by simp at hp,?_⟩ h;simpa using ha
 |p::ps,acc,h,ha=>by
  unfold DT;by_cases e:AV p=0
  ·rw[if_neg (by simp[e])];by_cases h3:33792<(acc++AM p).length
   ·rw[if_pos h3];exact⟨6,by decide,rfl⟩
   ·rw[if_neg h3];refine PX ps _ (fun⟨h4,h5⟩=>h ⟨fun q hq=>?_,?_⟩) (by omega)
    ·rcases qC.1 hq with rfl|hq;·exact e
     ·exact h4 q hq
    ·rw[qG,<-List.append_assoc];exact h5
  ·rw[if_pos e];exact⟨_,e,rfl⟩
theorem KC {ps:List PF} (h:OkP ps):HA ps=(0,ps.flatMap AM):=by
 unfold HA;rw[if_pos h.1];have:=ST ps [] h.2.1 (by simpa using h.2.2);simpa using this
theorem KV {ps:List PF} (h: ¬OkP ps): ∃e,e≠0/\HA ps=(e,[]):=by
 unfold HA;by_cases hr:GS (ps.map (·.kind))=true
 ·rw[if_pos hr];exact PX ps [] (fun⟨h1,h2⟩=>h ⟨hr,h1,by simpa using h2⟩) (by simp)
 ·rw[if_neg hr];exact⟨2,by decide,rfl⟩
theorem lG {ps:List PF}:(HA ps).2.length<=33792:=by
 by_cases h:OkP ps
 ·rw[KC h];exact h.2.2
 ·obtain⟨e,_,h2⟩:=KV h;rw[h2];simp
end Go.Proofs.YtfbhemmpobgdpaaGreatDoor
namespace Go.Proofs.YtfbhemmpobgdpaaGreatDoor
open Go.RowKit
def EY:List UInt8->List (List UInt8)
 |[]=>[[]]
 |c::s=>if c=44 then[]::EY s else(c::(EY s).headD [])::(EY s).tail
theorem RG (s:List UInt8): ∃h t,EY s=h::t:=by
 cases s with
 |nil=>exact⟨[],[],rfl⟩
 |cons c s=>
  unfold EY;split;·exact⟨_,_,rfl⟩
  ·exact⟨_,_,rfl⟩
theorem idx_cons (c:UInt8) (l:List UInt8) (h:c≠44):Lib.index (c::l) [44]=if Lib.index l [44] == -1 then -1 else Lib.index l [44]+1:=by
 have hp:([44]:List UInt8).isPrefixOf (c::l)=false:=by simp[List.isPrefixOf,Ne.symm h]
 rw[Lib.index,hp];simp
theorem YO: ∀s:List UInt8,Lib.splitK [44] 0 (Lib.count s [44]) s=EY s
 |[]=>by
  rw[Lib.count_miss (by simp[Lib.index])];rfl
 |c::l=>by
  have ih:=YO l;by_cases h:c=44
  ·subst h;rw[Lib.count_cons_eq,Nat.add_comm];have hix:Lib.index (44::l) [44]=0:=by rw[Lib.index];simp[List.isPrefixOf]
   unfold Lib.splitK EY;rw[hix];simp[ih]
  ·rw[Lib.count_cons_ne c 44 l h];have hix:=idx_cons c l h;unfold EY;rw[if_neg h];by_cases hm:Lib.index l [44] = -1
   ·rw[Lib.count_miss hm] at ih⊢;rw[<-ih];rfl
   ·have hge:=Lib.index_ge l [44];obtain⟨j,hj⟩: ∃j:Nat,Lib.index l [44]=j:=⟨(Lib.index l [44]).toNat,by omega⟩;have hix':Lib.index (c::l) [44]=((j+1:Nat):Int):=by rw[hix,if_neg (fun e=>hm (beq_iff_eq.1 e)),hj];omega
    rw[Lib.count_hit (by simp) hj,Nat.add_comm 1] at ih⊢;rw[<-ih];unfold Lib.splitK;rw[hj,hix',if_neg (fun e=>by have:=beq_iff_eq.1 e;omega),if_neg (fun e=>by have:=beq_iff_eq.1 e;omega)];simp
theorem join_cut (s:List UInt8):Lib.join (EY s) [44]=s:=by
 induction s with
 |nil=>exact Lib.join_one _ _
 |cons c s ih=>
  obtain⟨h,t,e⟩:=RG s;unfold EY;rw[e] at ih⊢;rw[Lib.join_cons] at ih;split
  ·rename_i hc;subst hc;rw[Lib.join_cons];simp[Lib.joinTail] at ih⊢;exact ih
  ·rw[Lib.join_cons];simp at ih⊢;exact ih
theorem cutL_one {x:List UInt8} (h: ∀c∈x,c≠44):EY x=[x]:=by
 induction x with
 |nil=>rfl
 |cons c x ih=>
  unfold EY;rw[if_neg (h c (by simp)),ih (fun d hd=>h d (by simp[hd]))];rfl
theorem cutL_app {x:List UInt8} (h: ∀c∈x,c≠44) (s:List UInt8):EY (x++44::s)=x::EY s:=by
 induction x with
 |nil=>
  rw[List.nil_append];conv=>lhs;unfold EY
  rw[if_pos rfl]
 |cons c x ih=>
  rw[List.cons_append];conv=>lhs;unfold EY
  rw[if_neg (h c (by simp)),ih (fun d hd=>h d (by simp[hd]))];rfl
theorem cut_join (x:List UInt8) (r:List (List UInt8)) (h: ∀y∈x::r,∀c∈y,c≠44):EY (Lib.join (x::r) [44])=x::r:=by
 induction r generalizing x with
 |nil=>rw[Lib.join_one];exact cutL_one (h x (by simp))
 |cons y r ih=>
  have e:Lib.join (x::y::r) [44]=x++44::Lib.join (y::r) [44]:=by
   rw[Lib.join_cons,Lib.join_cons];simp[Lib.joinTail]
  rw[e,cutL_app (h x (by simp)),ih y (fun z hz=>h z (by simp at hz⊢;exact .inr hz))]
theorem LX {x y:ByteArray} (h:x.data.toList=y.data.toList):x=y:=ByteArray.ext (Array.ext' h)
theorem LJ (s:ByteArray):(CP s).map (·.data.toList)=EY s.data.toList:=by
 unfold CP;rw[Lib.splitB_data];exact YO _
theorem gB (s:ByteArray):ER (CP s)=s.data.toList:=by
 unfold ER;rw[LJ];exact join_cut _
theorem aU {s:ByteArray} (h:BK s=true):1<=s.size/\s.size<=64/\∀c∈s.data.toList,c≠44:=by
 unfold BK at h;simp only[Bool.and_eq_true,decide_eq_true_eq] at h;refine⟨h.1.1,h.1.2,fun c hc e=>?_⟩;have:=List.all_eq_true.1 h.2 c hc;unfold NJ at this;subst e;revert this;decide
theorem fR (l:List ByteArray) (h0:l≠[]) (h: ∀s∈l,BK s=true) (s:ByteArray) (hs:s.data.toList=ER l):CP s=l:=by
 have e:(CP s).map (·.data.toList)=l.map (·.data.toList):=by
  rw[LJ,hs];unfold ER;cases l with
  |nil=>exact absurd rfl h0
  |cons x r=>
   rw[List.map_cons];refine cut_join _ _ (fun y hy c hc=>?_);have hy:y∈(x::r).map (·.data.toList):=hy;obtain⟨z,hz,rfl⟩:=List.mem_map.1 hy;exact(aU (h z hz)).2.2 c hc
 exact(List.map_inj_right (fun x y hxy=>LX hxy)).1 e
theorem joinU_ne {l:List ByteArray} (h0:l≠[]) (h: ∀s∈l,BK s=true):ER l≠[]:=by
 cases l with
 |nil=>exact absurd rfl h0
 |cons x r=>
  unfold ER;rw[List.map_cons,Lib.join_cons];intro e;have h1:=(aU (h x (by simp))).1;have h2:x.data.toList=[]:=List.append_eq_nil_iff.1 e |>.1;have h3:x.size=x.data.toList.length:=by simp
  rw[h3,h2] at h1;simp at h1
theorem DD (xs:List Int):(strOfNums xs).data.toList=xs.map fun n=>UInt8.ofNat n.toNat:=rfl
theorem u8i_str {xs:List Int} (h: ∀x∈xs,0<=x/\x<256):u8i (strOfNums xs).data.toList=xs:=by
 rw[DD];unfold u8i;induction xs with
 |nil=>rfl
 |cons a r ih=>
  have ha:=h a (by simp);rw[List.map_cons,List.map_cons,ih (fun x hx=>h x (by simp[hx]))];congr 1
  rw[UInt8.toNat_ofNat'];omega
theorem str_u8i (l:List UInt8):(strOfNums (u8i l)).data.toList=l:=by
 rw[DD];unfold u8i;induction l with
 |nil=>rfl
 |cons c l ih=>
  rw[List.map_cons,List.map_cons,ih,Int.toNat_natCast,UInt8.ofNat_toNat]
theorem UD (l:List UInt8): ∀x∈u8i l,0<=x/\x<256:=by
 intro x hx;unfold u8i at hx;obtain⟨c,_,rfl⟩:=List.mem_map.1 hx;have:=c.toNat_lt;omega
theorem eH (n:Int) (t:List Int) (h0:0<=n) (h1:n<=4294967295):be4 (four n++t)=n:=by
 unfold be4 four;simp;omega
theorem fE (l:List Int) (h4:4<=l.length) (hl: ∀x∈l,0<=x/\x<256):four (be4 l)=l.take 4:=by
 match l,h4 with
 |a::b::c::d::t,_=>
  have ha:=hl a (by simp);have hb:=hl b (by simp);have hc:=hl c (by simp);have hd:=hl d (by simp);unfold be4 four;simp;omega
theorem UL (n:Int):(four n).length=4:=rfl
theorem QF (n:Int): ∀x∈four n,0<=x/\x<256:=by
 intro x hx;unfold four at hx;simp at hx;omega
end Go.Proofs.YtfbhemmpobgdpaaGreatDoor
namespace Go.Proofs.YtfbhemmpobgdpaaGreatDoor
open Go.RowKit
def InB (l:List Int):Prop:=∀x∈l,0<=x/\x<256
theorem InB.right {a b:List Int} (h:InB (a++b)):InB b:=fun x hx=>h x (by simp[hx])
theorem InB.drop {a:List Int} (h:InB a) (n:Nat):InB (a.drop n):=fun x hx=>h x (List.mem_of_mem_drop hx)
theorem InB.take {a:List Int} (h:InB a) (n:Nat):InB (a.take n):=fun x hx=>h x (List.mem_of_mem_take hx)
def UH (p:PF) (pre:List Int):Prop:=if p.kind=2 then∃b,pre=[b]/\AM p=[if b=0 then 0 else 1] else AM p=pre
theorem UH.len {p:PF} {pre:List Int} (h:UH p pre):(AM p).length=pre.length:=by
 unfold UH at h;split at h
 ·obtain⟨b,rfl,e⟩:=h;rw[e];rfl
 ·rw[h]
theorem gN {l:List Int} (hl:InB l) (h:(CE l).e=0):4<=l.length/\be4 l<=32768/\0<=be4 l/\4+(be4 l).toNat<=l.length/\(CE l).text=(l.drop 4).take (be4 l).toNat/\(CE l).rest=l.drop (4+(be4 l).toNat):=by
 have hb:=PY l hl;unfold CE DN at h⊢;split at h;·cases h
 ·rename_i h4;rw[if_neg h4];unfold GJ at h⊢;split at h;·cases h
  ·rename_i h5;split at h;·cases h
   ·rename_i h6;rw[if_neg h5,if_neg h6];rw[List.length_drop] at h6;exact⟨by omega,by omega,hb.1,by omega,rfl,by rw[List.drop_drop]⟩
theorem UC {l:List Int} (hl:InB l) (h4:4<=l.length) (h5:4+(be4 l).toNat<=l.length) (h0:0<=be4 l) :
  four ((l.drop 4).take (be4 l).toNat).length++(l.drop 4).take (be4 l).toNat=l.take (4+(be4 l).toNat):=by
 have e:((((l.drop 4).take (be4 l).toNat).length:Nat):Int)=be4 l:=by
  rw[List.length_take,List.length_drop];omega
 rw[e,fE l h4 hl,List.take_add]
theorem jX (k:Nat) (h1:1<=k) (h6:k<=6) (l:List Int) (hl:InB l) (h:(BC k l).e=0) :
  AV ⟨k,(BC k l).n,(BC k l).text,(BC k l).list⟩=0/\(0<=(BC k l).n/\(BC k l).n<=4294967295)/\
  ∃pre,l=pre++(BC k l).rest/\UH ⟨k,(BC k l).n,(BC k l).text,(BC k l).list⟩ pre:=by
 have hk:k=1\/k=2\/k=3\/k=4\/k=5\/k=6:=by omega
 rcases hk with rfl|rfl|rfl|rfl|rfl|rfl
 ·have e:BC 1 l=CM l:=rfl;rw[e] at h⊢;cases l with
  |nil=>cases h
  |cons a t=>
   have ha:=hl a (by simp);have e2:CM (a::t)=⟨0,a,[],[],t⟩:=by unfold CM;simp
   rw[e2];refine⟨by unfold AV GQ;simp;omega,⟨ha.1,by dsimp;omega⟩,[a],rfl,?_⟩;unfold UH AM;simp;omega
 ·have e:BC 2 l=OE l:=rfl;rw[e] at h⊢;cases l with
  |nil=>cases h
  |cons a t=>
   have ha:=hl a (by simp);have e2:OE (a::t)=⟨0,min a 1,[],[],t⟩:=by unfold OE CM;simp
   rw[e2];refine⟨by unfold AV GQ;simp;omega,⟨by dsimp;omega,by dsimp;omega⟩,[a],rfl,?_⟩;unfold UH AM;simp;split<;>omega
 ·have e:BC 3 l=CR l:=rfl;rw[e] at h⊢;by_cases h4:l.length<4
  ·unfold CR DN at h;rw[if_pos h4] at h;cases h
  ·have e2:CR l=⟨0,be4 l,[],[],l.drop 4⟩:=by unfold CR;rw[if_neg h4]
   rw[e2];have hb:=PY l hl;refine⟨rfl,⟨hb.1,by dsimp;omega⟩,l.take 4,(List.take_append_drop _ _).symm,?_⟩;exact fE l (by omega) hl
 ·have e:BC 4 l=CE l:=rfl;rw[e] at h⊢;obtain⟨a1,a2,a3,a4,a5,a6⟩:=gN hl h;obtain⟨b1,b2,b3⟩:=QK l;rw[b3,a5,a6];refine⟨?_,⟨Int.le_refl 0,show(0:Int)<=4294967295 by decide⟩,l.take (4+(be4 l).toNat),(List.take_append_drop _ _).symm,?_⟩
  ·rw[a5] at b1;show GQ _ 32768 6=0;exact RY (by dsimp only;omega)
  ·exact UC hl a1 a4 a3
 ·have e:BC 5 l=EC l:=rfl;rw[e] at h⊢;unfold EC GE at h⊢;split at h
  ·rename_i h7;exact absurd h h7
  ·rename_i h7;have h7:(CE l).e=0:=by simpa using h7
   obtain⟨a1,a2,a3,a4,a5,a6⟩:=gN hl h7;rw[if_neg (by simp[h7])];split at h
   ·rename_i h8;rw[if_pos h8];refine⟨rfl,⟨Int.le_refl 0,show(0:Int)<=4294967295 by decide⟩,l.take (4+(be4 l).toNat),?_,?_⟩
    ·dsimp only;rw[a6];exact(List.take_append_drop _ _).symm
    ·have:=UC hl a1 a4 a3;rw[<-a5,h8] at this;exact this
   ·rename_i h8;rw[if_neg h8];have hp:=gB (strOfNums (CE l).text);have hr:InB (CE l).text:=by rw[a5];exact(hl.drop 4).take _
    have hu:=u8i_str hr;refine⟨h,⟨Int.le_refl 0,show(0:Int)<=4294967295 by decide⟩,l.take (4+(be4 l).toNat),?_,?_⟩
    ·dsimp only;rw[a6];exact(List.take_append_drop _ _).symm
    ·show four (ER (CP (strOfNums (CE l).text))).length++u8i (ER (CP (strOfNums (CE l).text)))=_;rw[hp,hu];have e3:(strOfNums (CE l).text).data.toList.length=(CE l).text.length:=by rw[DD,List.length_map]
     rw[e3,a5];exact UC hl a1 a4 a3
 ·have e:BC 6 l=UY l:=rfl;rw[e] at h⊢;unfold UY at h⊢;exact⟨h,⟨Int.le_refl 0,show(0:Int)<=4294967295 by decide⟩,l,by simp,rfl⟩
def ZS:List PF->List Int->Prop
 |[],l=>l=[]
 |p::ps,l=>∃pre rest,l=pre++rest/\UH p pre/\ZS ps rest
theorem HP: ∀(ks l:List Int) (acc:List PF),(∀k∈ks,1<=k/\k<=6)->InB l->
  ((AY ks l acc).1≠0/\(AY ks l acc).2=[])\/
  ((AY ks l acc).1=0/\∃ps,(AY ks l acc).2=acc++ps/\ps.map (·.kind)=ks/\(∀p∈ps,AV p=0/\0<=p.n/\p.n<=4294967295)/\ZS ps l)
 |[],l,acc,_,_=>by
  unfold AY;split;·exact .inl ⟨by decide,rfl⟩
  ·rename_i h;refine .inr ⟨rfl,[],by simp,rfl,fun p hp=>by simp at hp,?_⟩;exact List.eq_nil_of_length_eq_zero (by omega)
 |k::ks,l,acc,hk,hl=>by
  have h16:=hk k (by simp);obtain⟨j,rfl⟩:=Int.eq_ofNat_of_zero_le (show 0<=k by omega);unfold AY;rw[Int.toNat_natCast];by_cases he:(BC j l).e=0
  ·rw[if_neg (by simp[he])];obtain⟨g1,g2,pre,g3,g4⟩:=jX j (by omega) (by omega) l hl he;have hr:InB (BC j l).rest:=by
    rw[g3] at hl;exact hl.right
   rcases HP ks (BC j l).rest (acc++[⟨j,(BC j l).n,(BC j l).text,(BC j l).list⟩]) (fun k hk2=>hk k (by simp[hk2])) hr with h|⟨h0,ps,h1,h2,h3,h4⟩;·exact .inl h
   ·refine .inr ⟨h0,⟨j,(BC j l).n,(BC j l).text,(BC j l).list⟩::ps,by rw[h1];simp,by rw[List.map_cons,h2],fun p hp=>?_,pre,_,g3,g4,h4⟩;rcases qC.1 hp with rfl|hp;·exact⟨g1,g2⟩
    ·exact h3 p hp
  ·rw[if_pos he];exact .inl ⟨he,rfl⟩
theorem ZS.len: ∀{ps:List PF} {l:List Int},ZS ps l->(ps.flatMap AM).length=l.length
 |[],l,h=>by rw[h];rfl
 |p::ps,l,⟨pre,rest,e,m,h⟩=>by
  rw[e,qG,zE,zE,m.len,ZS.len h]
theorem EJ {ks:List Int} (h:GS ks=true): ∀k∈ks,1<=k/\k<=6:=fun k hk=>by
 obtain⟨i,hi⟩:=List.getElem?_of_mem hk;exact SN h hi
theorem again_law (ks l:List Int) (hl:InB l) (hm:l.length<=33792) :
  ((AR ks l).1≠0/\(AR ks l).2=[])\/
  ((AR ks l).1=0/\(AR ks l).2.map (·.kind)=ks/\OkP (AR ks l).2/\(∀p∈(AR ks l).2,1<=p.kind/\p.kind<=6/\AV p=0/\0<=p.n/\p.n<=4294967295)/\ZS (AR ks l).2 l):=by
 unfold AR;by_cases hr:GS ks=true
 ·rw[if_pos hr];rcases HP ks l [] (EJ hr) hl with h|⟨h0,ps,h1,h2,h3,h4⟩;·exact .inl h
  ·rw[List.nil_append] at h1;rw[h1];refine .inr ⟨h0,h2,⟨by rw[h2];exact hr,fun p hp=>(h3 p hp).1,by rw[h4.len];exact hm⟩,fun p hp=>?_,h4⟩;have hk:=EJ hr p.kind (by rw[<-h2];exact List.mem_map_of_mem hp);exact⟨hk.1,hk.2,h3 p hp⟩
 ·rw[if_neg hr];exact .inl ⟨by decide,rfl⟩
def MF (p:PF):PF:=⟨p.kind,if p.kind=4\/p.kind=5\/p.kind=6 then 0 else p.n,if p.kind=4\/p.kind=6 then p.text else[],if p.kind=5 then p.list else[]⟩
theorem XX (t tl:List Int) (h:t.length<=32768):CE (four t.length++t++tl)=⟨0,0,t,[],tl⟩:=by
 have hb:be4 (four t.length++t++tl)=(t.length:Int):=by
  rw[List.append_assoc];exact eH _ _ (by omega) (by omega)
 have hd:(four t.length++t++tl).drop 4=t++tl:=by
  rw[List.append_assoc];exact List.drop_left' rfl
 unfold CE;rw[if_neg (by simp[UL]),hb,hd,Int.toNat_natCast];unfold GJ;rw[if_neg (by omega),if_neg (by simp)];simp
section
variable (n:Int) (t:List Int) (ls:List ByteArray) (l:List Int)
theorem VT:BC 1 l=CM l:=rfl
theorem VU:BC 2 l=OE l:=rfl
theorem VV:BC 3 l=CR l:=rfl
theorem VW:BC 4 l=CE l:=rfl
theorem VX:BC 5 l=EC l:=rfl
theorem VY:BC 6 l=UY l:=rfl
theorem KF:AM ⟨1,n,t,ls⟩=[n % 256]:=rfl
theorem bytesP_2:AM ⟨2,n,t,ls⟩=[n % 256]:=rfl
theorem bytesP_3:AM ⟨3,n,t,ls⟩=four n:=rfl
theorem bytesP_4:AM ⟨4,n,t,ls⟩=four t.length++t:=rfl
theorem bytesP_5:AM ⟨5,n,t,ls⟩=four (ER ls).length++u8i (ER ls):=rfl
theorem bytesP_6:AM ⟨6,n,t,ls⟩=t:=rfl
theorem faultP_1:AV ⟨1,n,t,ls⟩=GQ n 255 5:=rfl
theorem faultP_2:AV ⟨2,n,t,ls⟩=GQ n 1 5:=rfl
theorem faultP_4:AV ⟨4,n,t,ls⟩=GQ t.length 32768 6:=rfl
theorem faultP_5:AV ⟨5,n,t,ls⟩=BS ls:=rfl
theorem faultP_6:AV ⟨6,n,t,ls⟩=GQ t.length 33792 6:=rfl
end
def LA (k:Nat) (p:PF) (tl:List Int):Prop:=BC k (AM p++tl)=⟨0,(MF p).n,(MF p).text,(MF p).list,tl⟩
theorem back1 (n:Int) (t:List Int) (ls:List ByteArray) (tl:List Int) (hn:0<=n) (hf:AV ⟨1,n,t,ls⟩=0):LA 1 ⟨1,n,t,ls⟩ tl:=by
 rw[faultP_1] at hf;have:=MX hf (by decide);unfold LA;rw[VT,KF,show MF ⟨1,n,t,ls⟩=⟨1,n,[],[]⟩ from rfl,show n % 256=n by omega];unfold CM;simp
theorem back2 (n:Int) (t:List Int) (ls:List ByteArray) (tl:List Int) (hn:0<=n) (hf:AV ⟨2,n,t,ls⟩=0):LA 2 ⟨2,n,t,ls⟩ tl:=by
 rw[faultP_2] at hf;have:=MX hf (by decide);unfold LA;rw[VU,bytesP_2,show MF ⟨2,n,t,ls⟩=⟨2,n,[],[]⟩ from rfl,show n % 256=n by omega];unfold OE CM;simp;omega
theorem back3 (n:Int) (t:List Int) (ls:List ByteArray) (tl:List Int) (hn:0<=n/\n<=4294967295):LA 3 ⟨3,n,t,ls⟩ tl:=by
 unfold LA;rw[VV,bytesP_3,show MF ⟨3,n,t,ls⟩=⟨3,n,[],[]⟩ from rfl];unfold CR;rw[if_neg (by simp[UL]),eH n tl hn.1 hn.2];congr 1
theorem back4 (n:Int) (t:List Int) (ls:List ByteArray) (tl:List Int) (hf:AV ⟨4,n,t,ls⟩=0):LA 4 ⟨4,n,t,ls⟩ tl:=by
 rw[faultP_4] at hf;have:=MX hf (by decide);unfold LA;rw[VW,bytesP_4,show MF ⟨4,n,t,ls⟩=⟨4,0,t,[]⟩ from rfl];exact XX t tl (by omega)
theorem back5 (n:Int) (t:List Int) (ls:List ByteArray) (tl:List Int) (hf:AV ⟨5,n,t,ls⟩=0):LA 5 ⟨5,n,t,ls⟩ tl:=by
 rw[faultP_5] at hf;obtain⟨a1,a2⟩:=UQ hf;have hj:=XC ls a2;unfold LA;rw[VX,bytesP_5,show MF ⟨5,n,t,ls⟩=⟨5,0,[],ls⟩ from rfl];have hlen:(u8i (ER ls)).length=(ER ls).length:=by unfold u8i;rw[List.length_map]
 have hT:=XX (u8i (ER ls)) tl (by omega);rw[hlen] at hT;unfold EC;rw[hT];unfold GE;rw[if_neg (by simp)];dsimp only;by_cases h0:ls=[]
 ·subst h0;rw[if_pos (by rfl)]
 ·have hok: ∀s∈ls,BK s=true:=by
   unfold BS at hf;split at hf;·cases hf
   ·split at hf
    ·rename_i h8;exact List.all_eq_true.1 h8
    ·cases hf
  have hne:u8i (ER ls)≠[]:=fun e=>joinU_ne h0 hok (List.map_eq_nil_iff.1 e);rw[if_neg hne,fR ls h0 hok _ (str_u8i _),hf]
theorem back6 (n:Int) (t:List Int) (ls:List ByteArray) (hf:AV ⟨6,n,t,ls⟩=0):LA 6 ⟨6,n,t,ls⟩ []:=by
 rw[faultP_6] at hf;unfold LA;rw[VY,bytesP_6,show MF ⟨6,n,t,ls⟩=⟨6,0,t,[]⟩ from rfl,qN];unfold UY;rw[hf]
theorem kind_back (p:PF) (tl:List Int) (h1:1<=p.kind) (h6:p.kind<=6) (hn:0<=p.n/\p.n<=4294967295) (hf:AV p=0) (hlast:p.kind=6->tl=[]):LA p.kind.toNat p tl:=by
 obtain⟨k,n,t,ls⟩:=p;dsimp only at h1 h6 hn hlast⊢;have hk:k=1\/k=2\/k=3\/k=4\/k=5\/k=6:=by omega
 rcases hk with rfl|rfl|rfl|rfl|rfl|rfl;·exact back1 n t ls tl hn.1 hf
 ·exact back2 n t ls tl hn.1 hf
 ·exact back3 n t ls tl hn
 ·exact back4 n t ls tl hf
 ·exact back5 n t ls tl hf
 ·obtain rfl:=hlast rfl;exact back6 n t ls hf
theorem PU: ∀(ps:List PF) (acc:List PF),(∀p∈ps,(1<=p.kind/\p.kind<=6)/\AV p=0/\0<=p.n/\p.n<=4294967295)->(∀i p,ps[i]? = some p->p.kind=6->i+1=ps.length)->
  AY (ps.map (·.kind)) (ps.flatMap AM) acc=(0,acc++ps.map MF)
 |[],acc,_,_=>by simp[AY]
 |p::ps,acc,h,hl=>by
  obtain⟨hk,hf,hn⟩:=h p (by simp);have hlast:p.kind=6->ps.flatMap AM=[]:=fun h6=>by
   have:=hl 0 p rfl h6;simp at this;rw[this];rfl
  have hb:=kind_back p (ps.flatMap AM) hk.1 hk.2 hn hf hlast;unfold LA at hb;rw[List.map_cons,qG];unfold AY;rw[hb];rw[if_neg (by simp)];dsimp only;rw[PU ps _ (fun q hq=>h q (by simp[hq])) (fun i q hq h6=>by have:=hl (i+1) q (by simpa using hq) h6;simp at this;omega)];rw[List.map_cons,List.append_assoc];rfl
theorem back_law (ps:List PF) (h:OkP ps) (hn: ∀p∈ps,0<=p.n/\p.n<=4294967295):AR (ps.map (·.kind)) (ps.flatMap AM)=(0,ps.map MF):=by
 unfold AR;rw[if_pos h.1];refine PU ps [] (fun p hp=>⟨EJ h.1 p.kind (List.mem_map_of_mem hp),h.2.1 p hp,hn p hp⟩) (fun i p hp h6=>?_);have hi:i<ps.length:=(List.getElem?_eq_some_iff.1 hp).1;have:=MM.1 h.1 i (by rw[List.length_map];exact hi);unfold HK at this;rw[show(ps.map (·.kind)).getD i 0=6 by simp[List.getD,hp,h6]] at this;simp at this;have:=this.2;omega
theorem RB {p:PF} (h:InB p.text):InB (AM p):=by
 unfold AM;split;·intro x hx;simp at hx;omega
 split;·intro x hx;simp at hx;omega
 split;·exact QF _
 split
 ·intro x hx;rcases qK hx with hx|hx;·exact QF _ x hx
  ·exact h x hx
 split
 ·intro x hx;rcases qK hx with hx|hx;·exact QF _ x hx
  ·exact UD _ x hx
 ·exact h
end Go.Proofs.YtfbhemmpobgdpaaGreatDoor
namespace Go.Proofs.YtfbhemmpobgdpaaGreatDoor
open Go.RowKit
def sOf (s:ByteArray):List Int:=u8i s.data.toList
theorem sOf_len (s:ByteArray):(sOf s).length=s.size:=by unfold sOf u8i;simp
theorem rText_inb {l:List Int} (hl:InB l):InB (CE l).text:=by
 unfold CE GJ DN;split;·exact fun x hx=>by simp at hx
 ·split;·exact fun x hx=>by simp at hx
  ·split;·exact fun x hx=>by simp at hx
   ·exact(hl.drop 4).take _
theorem kind_inb (k:Nat) (h6:k<=6) (l:List Int) (hl:InB l):InB (BC k l).text:=by
 have z:InB []:=fun x hx=>by simp at hx
 have ho:(CM l).text=[]:=by unfold CM DN;split<;>rfl
 have hk:k=0\/k=1\/k=2\/k=3\/k=4\/k=5\/k=6:=by omega
 rcases hk with rfl|rfl|rfl|rfl|rfl|rfl|rfl;·exact hl
 ·rw[VT,ho];exact z
 ·rw[VU,show(OE l).text=(CM l).text from rfl,ho];exact z
 ·rw[VV];unfold CR DN;split<;>exact z
 ·rw[VW];exact rText_inb hl
 ·rw[VX];unfold EC GE;split;exact z;split<;>exact z
 ·rw[VY];exact hl
theorem SK: ∀(ks l:List Int) (acc:List PF),(∀k∈ks,1<=k/\k<=6)->InB l->(∀p∈acc,InB p.text)->∀p∈(AY ks l acc).2,InB p.text
 |[],l,acc,_,_,ha=>by
  unfold AY;split;·exact fun p hp=>by simp at hp
  ·exact ha
 |k::ks,l,acc,hk,hl,ha=>by
  have h16:=hk k (by simp);unfold AY;split;·exact fun p hp=>by simp at hp
  ·obtain⟨n,hn⟩:=QJ k.toNat l;refine SK ks _ _ (fun k hk2=>hk k (by simp[hk2])) (by rw[hn];exact hl.drop n) (fun p hp=>?_);rcases qK hp with hp|hp;·exact ha p hp
   ·simp at hp;subst hp;exact kind_inb _ (by omega) l hl
theorem XZ (ks l:List Int) (hl:InB l) (h:(AR ks l).1=0):(AR ks l).2.map (·.kind)=ks/\∀p∈(AR ks l).2,U32 p.n/\InB p.text:=by
 unfold AR at h⊢;split at h
 ·rename_i hr;rw[if_pos hr];have h2:=SK ks l [] (EJ hr) hl (fun p hp=>by simp at hp);rcases HP ks l [] (EJ hr) hl with e|⟨_,ps,e1,e2,e3,_⟩;·exact absurd h e.1
  ·rw[e1] at h2⊢;refine⟨by simpa using e2,fun p hp=>⟨(e3 p (by simpa using hp)).2,h2 p hp⟩⟩
 ·cases h
theorem str_size (l:List Int):(strOfNums l).size=l.length:=by
 show(strOfNums l).data.size=_;rw[<-Array.length_toList,DD,List.length_map]
structure RQ where
  kind : Int
  text : ByteArray
  value : ByteArray
  lang : ByteArray
  cols : Int
  rows : Int
  width : Int
  height : Int
  mA : Option Addr
  mc : Nat
  modes : List Int
  on : Bool
  code : Int
def RQ.cells (m:RQ):List Value:=[.int .i64 m.kind,.string m.text,.string m.value,.string m.lang,.int .u32 m.cols,.int .u32 m.rows,.int .u32 m.width,.int .u32 m.height,.slice m.mA m.modes.length m.mc,.bool m.on,.int .u32 m.code]
def RQ.val (m:RQ):Value:=.agg #[.int .i64 m.kind,.string m.text,.string m.value,.string m.lang,.int .u32 m.cols,.int .u32 m.rows,.int .u32 m.width,.int .u32 m.height,.slice m.mA m.modes.length m.mc,.bool m.on,.int .u32 m.code]
def RNums (m:RQ):Prop:=U32 m.cols/\U32 m.rows/\U32 m.width/\U32 m.height/\U32 m.code
structure RQ.ok (w : World) (m : RQ) : Prop where
  modes : RdG (.int .u8) w m.mA m.modes
  mle : m.modes.length <= m.mc
  mmax : m.mc <= maxLen
  bytes : ∀ x ∈ m.modes, 0 <= x /\ x < 256
  nums : RNums m
  text : m.text.size <= maxLen
  value : m.value.size <= maxLen
  lang : m.lang.size <= maxLen
theorem RQ.ok.only {w w':World} {m:RQ} (h:m.ok w) (hb:Only [] w w'):m.ok w':={ h with modes:=h.modes.only hb }
def BV:RQ:=⟨0,⟨#[]⟩,⟨#[]⟩,⟨#[]⟩,0,0,0,0,none,0,[],false,0⟩
def IE (k:Nat):RQ:={ BV with kind:=(k:Int) }
theorem SW (w:World):BV.ok w:=⟨RdG.nil,by simp[BV],by simp[BV],by simp[BV],by simp[BV,U32,RNums],qO _,qO _,qO _⟩
theorem firstR_ok (w:World) (k:Nat):(IE k).ok w:={ SW w with }
def FN:Nat->List UInt8
 |1=>[112,116,121,45,114,101,113]
 |2=>[101,110,118]
 |3=>[115,104,101,108,108]
 |4=>[101,120,101,99]
 |5=>[115,117,98,115,121,115,116,101,109]
 |6=>[119,105,110,100,111,119,45,99,104,97,110,103,101]
 |7=>[120,111,110,45,120,111,102,102]
 |8=>[115,105,103,110,97,108]
 |9=>[101,120,105,116,45,115,116,97,116,117,115]
 |10=>[101,120,105,116,45,115,105,103,110,97,108]
 |_=>[]
def JD (k:Nat):ByteArray:=⟨(FN k).toArray⟩
def CQ:Nat->List Int
 |1=>[4,3,3,3,3,4]
 |2=>[4,4]
 |4=>[4]
 |5=>[4]
 |6=>[3,3,3,3]
 |7=>[2]
 |8=>[4]
 |9=>[3]
 |10=>[4,2,4,4]
 |_=>[]
def pT (s:ByteArray):PF:=⟨4,0,sOf s,[]⟩
def pN (n:Int):PF:=⟨3,n,[],[]⟩
def pB (b:Bool):PF:=⟨2,if b then 1 else 0,[],[]⟩
def BG (m:RQ):Nat->List PF
 |1=>[pT m.text,pN m.cols,pN m.rows,pN m.width,pN m.height,⟨4,0,m.modes,[]⟩]
 |2=>[pT m.text,pT m.value]
 |4=>[pT m.text]
 |5=>[pT m.text]
 |6=>[pN m.cols,pN m.rows,pN m.width,pN m.height]
 |7=>[pB m.on]
 |8=>[pT m.text]
 |9=>[pN m.code]
 |10=>[pT m.text,pB m.on,pT m.value,pT m.lang]
 |_=>[]
def cC (c:UInt8):Bool:=decide (33<=c.toNat)&&decide (c.toNat<=126)
def eC (s:ByteArray) (least:Nat):Bool:=decide (least<=s.size)&&decide (s.size<=64)&&s.data.toList.all cC
def CJ (s:ByteArray) (least:Nat):Int:=if eC s least then 0 else 4
def DL (n:Nat):Int:=if 1024<n then 6 else 0
def GI:List Int->Int
 |[]=>0
 |e::l=>if e≠0 then e else GI l
def hasEq (s:ByteArray):Bool:=decide ((61:UInt8)∈s.data.toList)
def NO (m:RQ):Nat->Int
 |1=>GI [CJ m.text 0,DL m.modes.length]
 |2=>if hasEq m.text then 4 else GI [CJ m.text 1,DL m.value.size]
 |4=>DL m.text.size
 |5=>CJ m.text 1
 |8=>CJ m.text 1
 |10=>GI [CJ m.text 1,CJ m.lang 0,DL m.value.size]
 |_=>0
def putR (m:RQ):Nat->List FD->RQ
 |1,[a,b,c,d,e,f]=>{ m with text:=strOfNums a.text,cols:=b.n,rows:=c.n,width:=d.n,height:=e.n,mA:=f.tA,mc:=f.tc,modes:=f.text }
 |2,[a,b]=>{ m with text:=strOfNums a.text,value:=strOfNums b.text }
 |4,[a]=>{ m with text:=strOfNums a.text }
 |5,[a]=>{ m with text:=strOfNums a.text }
 |6,[b,c,d,e]=>{ m with cols:=b.n,rows:=c.n,width:=d.n,height:=e.n }
 |7,[a]=>{ m with on:=decide (a.n=1) }
 |8,[a]=>{ m with text:=strOfNums a.text }
 |9,[a]=>{ m with code:=a.n }
 |10,[a,b,c,d]=>{ m with text:=strOfNums a.text,on:=decide (b.n=1),value:=strOfNums c.text,lang:=strOfNums d.text }
 |_,_=>m
structure SameR (a b : RQ) : Prop where
  kind : b.kind = a.kind
  text : b.text = a.text
  value : b.value = a.value
  lang : b.lang = a.lang
  cols : b.cols = a.cols
  rows : b.rows = a.rows
  width : b.width = a.width
  height : b.height = a.height
  on : b.on = a.on
  code : b.code = a.code
  modes : b.modes = a.modes
theorem SameR.refl (a:RQ):SameR a a:=⟨rfl,rfl,rfl,rfl,rfl,rfl,rfl,rfl,rfl,rfl,rfl⟩
theorem k10 {k:Nat} (h1:1<=k) (h2:k<=10):k=1\/k=2\/k=3\/k=4\/k=5\/k=6\/k=7\/k=8\/k=9\/k=10:=by omega
theorem askR_same {a b:RQ} (h:SameR a b) (k:Nat) (h1:1<=k) (h2:k<=10):NO b k=NO a k:=by
 rcases k10 h1 h2 with rfl|rfl|rfl|rfl|rfl|rfl|rfl|rfl|rfl|rfl<;>simp only[NO,h.text,h.value,h.lang,h.modes]
theorem fZ (m:RQ) (k:Nat) (h1:1<=k) (h2:k<=10):(BG m k).map (·.kind)=CQ k:=by
 rcases k10 h1 h2 with rfl|rfl|rfl|rfl|rfl|rfl|rfl|rfl|rfl|rfl<;>rfl
theorem fs1 {fs:List FD} {a:PF} (h:fs.map FD.pf=[a]): ∃x,fs=[x]/\x.pf=a:=by
 match fs,h with
 |[x],h=>simp at h;exact⟨x,rfl,h⟩
theorem fs2 {fs:List FD} {a b:PF} (h:fs.map FD.pf=[a,b]): ∃x y,fs=[x,y]/\x.pf=a/\y.pf=b:=by
 match fs,h with
 |[x,y],h=>simp at h;exact⟨x,y,rfl,h⟩
theorem fs4 {fs:List FD} {a b c d:PF} (h:fs.map FD.pf=[a,b,c,d]): ∃x y z u,fs=[x,y,z,u]/\x.pf=a/\y.pf=b/\z.pf=c/\u.pf=d:=by
 match fs,h with
 |[x,y,z,u],h=>simp at h;exact⟨x,y,z,u,rfl,h⟩
theorem fs6 {fs:List FD} {a b c d e f:PF} (h:fs.map FD.pf=[a,b,c,d,e,f]): ∃x y z u v s,fs=[x,y,z,u,v,s]/\x.pf=a/\y.pf=b/\z.pf=c/\u.pf=d/\v.pf=e/\s.pf=f:=by
 match fs,h with
 |[x,y,z,u,v,s],h=>simp at h;exact⟨x,y,z,u,v,s,rfl,h⟩
theorem ks1 {fs:List FD} {a:Int} (h:fs.map (fun f=>f.pf.kind)=[a]): ∃x,fs=[x]/\x.pf.kind=a:=by
 match fs,h with
 |[x],h=>simp at h;exact⟨x,rfl,h⟩
theorem ks2 {fs:List FD} {a b:Int} (h:fs.map (fun f=>f.pf.kind)=[a,b]): ∃x y,fs=[x,y]/\x.pf.kind=a/\y.pf.kind=b:=by
 match fs,h with
 |[x,y],h=>simp at h;exact⟨x,y,rfl,h⟩
theorem ks4 {fs:List FD} {a b c d:Int} (h:fs.map (fun f=>f.pf.kind)=[a,b,c,d]): ∃x y z u,fs=[x,y,z,u]/\x.pf.kind=a/\y.pf.kind=b/\z.pf.kind=c/\u.pf.kind=d:=by
 match fs,h with
 |[x,y,z,u],h=>simp at h;exact⟨x,y,z,u,rfl,h⟩
theorem ks6 {fs:List FD} {a b c d e f:Int} (h:fs.map (fun f=>f.pf.kind)=[a,b,c,d,e,f]): ∃x y z u v s,fs=[x,y,z,u,v,s]/\x.pf.kind=a/\y.pf.kind=b/\z.pf.kind=c/\u.pf.kind=d/\v.pf.kind=e/\s.pf.kind=f:=by
 match fs,h with
 |[x,y,z,u,v,s],h=>simp at h;exact⟨x,y,z,u,v,s,rfl,h⟩
def BL (m:RQ):Int×List Int:=if 1<=m.kind/\m.kind<=10 then if NO m m.kind.toNat≠0 then(NO m m.kind.toNat,[]) else HA (BG m m.kind.toNat) else(8,[])
def BF (m:RQ):ByteArray:=if(BL m).1=0 then JD m.kind.toNat else⟨#[]⟩
def aN (l:List UInt8):Option Nat:=
 if l=FN 1 then some 1 else if l=FN 2 then some 2 else if l=FN 3 then some 3 else if l=FN 4 then some 4 else if l=FN 5 then some 5 else
 if l=FN 6 then some 6 else if l=FN 7 then some 7 else if l=FN 8 then some 8 else if l=FN 9 then some 9 else if l=FN 10 then some 10 else none
def DecK (k:Nat) (l:List Int) (m:RQ) (E:Int):Prop:=
 if(AR (CQ k) l).1≠0 then E=(AR (CQ k) l).1/\m=BV
 else∃fs:List FD,fs.map FD.pf=(AR (CQ k) l).2/\if NO (putR (IE k) k fs) k=0 then E=0/\m=putR (IE k) k fs else E=NO (putR (IE k) k fs) k/\m=BV
def LQ (name:ByteArray) (l:List Int) (m:RQ) (E:Int):Prop:=
 match aN name.data.toList with
 |none=>E=8/\m=BV
 |some k=>DecK k l m E
theorem jW (k:Nat) (h1:1<=k) (h2:k<=10):aN (FN k)=some k:=by
 rcases k10 h1 h2 with rfl|rfl|rfl|rfl|rfl|rfl|rfl|rfl|rfl|rfl<;>decide
theorem UN {l:List UInt8} {k:Nat} (h:aN l=some k):1<=k/\k<=10/\l=FN k:=by
 unfold aN at h;repeat' (split at h)
 all_goals first
  |(injection h with h;subst h;exact⟨by decide,by decide,by assumption⟩)
  |cases h
theorem encR_ok {m:RQ} (hz:(BL m).1=0): ∃k:Nat,1<=k/\k<=10/\m.kind=(k:Int)/\NO m k=0/\OkP (BG m k)/\(BL m).2=(BG m k).flatMap AM/\BF m=JD k:=by
 have hz0:=hz;unfold BL at hz;split at hz
 case isFalse=>exact absurd hz (by decide)
 rename_i hk;split at hz
 ·rename_i h0;exact absurd hz h0
 rename_i h0;obtain⟨k,hkk⟩:=Int.eq_ofNat_of_zero_le (show 0<=m.kind by omega);have hn:BF m=JD m.kind.toNat:=if_pos hz0;have he:BL m=HA (BG m m.kind.toNat):=by unfold BL;rw[if_pos hk,if_neg h0]
 rw[hkk,Int.toNat_natCast] at h0 hz hn he;have hok:OkP (BG m k):=by
  apply Classical.byContradiction;intro hb;obtain⟨e,he,hw⟩:=KV hb;rw[hw] at hz;exact he hz
 exact⟨k,by omega,by omega,hkk,by simpa using h0,hok,by rw[he,KC hok],hn⟩
theorem encR_bad {m:RQ} (hz:(BL m).1≠0):(BL m).2=[]:=by
 unfold BL at hz⊢;split
 ·rename_i hk;rw[if_pos hk] at hz;split;·rfl
  ·rename_i h0;rw[if_neg h0] at hz;by_cases ho:OkP (BG m m.kind.toNat)
   ·rw[KC ho] at hz;exact absurd rfl hz
   ·obtain⟨e,_,hw⟩:=KV ho;rw[hw]
 ·rfl
theorem YC (k:Nat):(JD k).data.toList=FN k:=rfl
end Go.Proofs.YtfbhemmpobgdpaaGreatDoor
namespace Go.Proofs.YtfbhemmpobgdpaaGreatDoor
open Go.RowKit Go.MapKept
/-! Lists by keys. -/
section
variable {κ α γ:Type} [DecidableEq κ]
def AH (k:κ):List (κ×α)->Option α
 |[]=>none
 |p::l=>if p.1=k then some p.2 else AH k l
def CG (k:κ) (v:α):List (κ×α)->List (κ×α)
 |[]=>[(k,v)]
 |p::l=>if p.1=k then(k,v)::l else p::CG k v l
def AX (f:α->γ) (l:List (κ×α)):List (κ×γ):=l.map fun p=>(p.1,f p.2)
theorem EV (f:α->γ) (k:κ): ∀l:List (κ×α),AH k (AX f l)=(AH k l).map f
 |[]=>rfl
 |p::l=>by
  have ih:=EV f k l;unfold AX at ih⊢;rw[List.map_cons];unfold AH;by_cases h:p.1=k
  ·simp[h]
  ·simp only[h,if_false];exact ih
theorem MO (f:α->γ) (k:κ) (v:α): ∀l:List (κ×α),CG k (f v) (AX f l)=AX f (CG k v l)
 |[]=>rfl
 |p::l=>by
  have ih:=MO f k v l;unfold AX at ih⊢;rw[List.map_cons];unfold CG;by_cases h:p.1=k
  ·simp[h]
  ·simp only[h,if_false];rw[ih];rfl
theorem GD (f:α->Value) (k:κ): ∀l:List (κ×α),BU k (AX f l)=(AH k l).map f
 |[]=>rfl
 |p::l=>by
  have ih:=GD f k l;unfold AX at ih⊢;rw[List.map_cons];unfold AH BU;by_cases h:p.1=k
  ·simp[h]
  ·simp only[h,if_false];exact ih
theorem TU (f:α->Value) (k:κ) (v:α): ∀l:List (κ×α),setE k (f v) (AX f l)=AX f (CG k v l)
 |[]=>rfl
 |p::l=>by
  have ih:=TU f k v l;unfold AX at ih⊢;rw[List.map_cons];unfold CG setE;by_cases h:p.1=k
  ·simp[h]
  ·simp only[h,if_false];rw[ih];rfl
theorem CD {k:κ} {v:α}: ∀{l:List (κ×α)},AH k l=some v->(k,v)∈l
 |[],h=>by cases h
 |p::l,h=>by
  unfold AH at h;split at h;·rename_i e;injection h with h;subst h;subst e;exact List.mem_cons_self
  ·exact List.mem_cons_of_mem _ (CD h)
theorem GO {k:κ} {v:α} {p:κ×α}: ∀{l:List (κ×α)},p∈CG k v l->p=(k,v)\/p∈l
 |[],h=>by simp[CG] at h;exact .inl h
 |q::l,h=>by
  unfold CG at h;split at h
  ·rcases qC.1 h with h|h;·exact .inl h
   ·exact .inr (List.mem_cons_of_mem _ h)
  ·rcases qC.1 h with h|h;·exact .inr (by rw[h];exact List.mem_cons_self)
   ·exact(GO h).imp id (List.mem_cons_of_mem _)
theorem aM {k:κ} {v:α}: ∀{l:List (κ×α)},(CG k v l).map (·.1)=if(AH k l).isSome then l.map (·.1) else l.map (·.1)++[k]
 |[]=>rfl
 |q::l=>by
  have ih:=aM (k:=k) (v:=v) (l:=l);unfold CG AH;by_cases h:q.1=k
  ·simp[h]
  ·simp only[h,if_false,List.map_cons,ih];split<;>rfl
def IV (l:List (κ×α)):Prop:=(l.map (·.1)).Nodup
theorem XD {k:κ}: ∀{l:List (κ×α)},AH k l=none->k∉l.map (·.1)
 |[],_=>by simp
 |q::l,h=>by
  unfold AH at h;split at h;·cases h
  ·rename_i e;have:=XD h;simp only[List.map_cons,qC,not_or];exact⟨fun x=>e x.symm,this⟩
theorem IV.set {k:κ} {v:α} {l:List (κ×α)} (h:IV l):IV (CG k v l):=by
 unfold IV at *;rw[aM];split;·exact h
 ·rename_i e;have:AH k l=none:=by simpa using e
  rw[qD];refine⟨h,by simp,fun a ha b hb=>?_⟩;simp only[qS] at hb;subst hb;intro e2;subst e2;exact XD this ha
theorem IV.other {k:κ} {v:α} {p:κ×α}: ∀{l:List (κ×α)},IV l->p∈CG k v l->p=(k,v)\/(p∈l/\p.1≠k)
 |[],_,h=>by simp[CG] at h;exact .inl h
 |q::l,hk,h=>by
  unfold IV at hk;rw[List.map_cons,List.nodup_cons] at hk;unfold CG at h;split at h
  ·rename_i e;rcases qC.1 h with h|h;·exact .inl h
   ·refine .inr ⟨List.mem_cons_of_mem _ h,fun e2=>hk.1 ?_⟩;rw[e,<-e2];exact List.mem_map_of_mem h
  ·rename_i e;rcases qC.1 h with h|h;·exact .inr ⟨by rw[h];exact List.mem_cons_self,by rw[h];exact e⟩
   ·exact(IV.other hk.2 h).imp id fun h=>⟨List.mem_cons_of_mem _ h.1,h.2⟩
def fpA (f:α->List Nat) (l:List (κ×α)):List Nat:=l.flatMap fun p=>f p.2
theorem BH {f:α->List Nat} {k:κ} {v:α} {y:Nat} {l:List (κ×α)} (h:AH k l=some v) (hy:y∈f v):y∈fpA f l:=List.mem_flatMap.2 ⟨_,CD h,hy⟩
theorem MV {f:α->List Nat} {k:κ} {v:α} {y:Nat} {l:List (κ×α)} (h:y∈fpA f (CG k v l)):y∈f v\/y∈fpA f l:=by
 obtain⟨p,hp,hy⟩:=List.mem_flatMap.1 h;rcases GO hp with e|e;·subst e;exact .inl hy
 ·exact .inr (List.mem_flatMap.2 ⟨p,e,hy⟩)
theorem TG {f:α->List Nat} {k:κ} {v:α}: ∀{l:List (κ×α)},(fpA f l).Nodup->(f v).Nodup->(∀y∈f v,y∉fpA f l\/∃o,AH k l=some o/\y∈f o)->(fpA f (CG k v l)).Nodup
 |[],_,h,_=>by simpa[fpA,CG] using h
 |p::l,hn,hf,hv=>by
  have e:fpA f (p::l)=f p.2++fpA f l:=by simp[fpA]
  rw[e,qD] at hn;unfold CG;by_cases hk:p.1=k
  ·rw[if_pos hk];have e2:fpA f ((k,v)::l)=f v++fpA f l:=by simp[fpA]
   rw[e2,qD];refine⟨hf,hn.2.1,fun a ha b hb e3=>?_⟩;subst e3;rcases hv a ha with h|⟨o,h1,h2⟩;·rw[e] at h;exact h (qJ (.inr hb))
   ·unfold AH at h1;rw[if_pos hk] at h1;injection h1 with h1;subst h1;exact hn.2.2 a h2 a hb rfl
  ·rw[if_neg hk];have e2:fpA f (p::CG k v l)=f p.2++fpA f (CG k v l):=by simp[fpA]
   rw[e2,qD];have hv': ∀y∈f v,y∉fpA f l\/∃o,AH k l=some o/\y∈f o:=fun y hy=>by
    rcases hv y hy with h|⟨o,h1,h2⟩;·rw[e] at h;exact .inl fun h3=>h (qJ (.inr h3))
    ·unfold AH at h1;rw[if_neg hk] at h1;exact .inr ⟨o,h1,h2⟩
   refine⟨hn.1,TG hn.2.1 hf hv',fun a ha b hb e3=>?_⟩;subst e3;rcases MV hb with h|h
   ·rcases hv a h with h4|⟨o,h1,h2⟩;·rw[e] at h4;exact h4 (qJ (.inl ha))
    ·unfold AH at h1;rw[if_neg hk] at h1;exact hn.2.2 a ha a (BH h1 h2) rfl
   ·exact hn.2.2 a ha a h rfl
end
/-! The watch. -/
structure EN where
  chan : Int
  granted : Int
  sent : Int
  packet : Int
  eof : Bool
  closed : Bool
  told : Bool
  wants : Int
def EN.sc (x:EN):List SC:=[.v (.int .u32 x.chan),.v (.int .u64 x.granted),.v (.int .u64 x.sent),.v (.int .u32 x.packet),.v (.bool x.eof),.v (.bool x.closed),.v (.bool x.told),.v (.int .i64 x.wants)]
def EN.cells (x:EN):List Value:=[.int .u32 x.chan,.int .u64 x.granted,.int .u64 x.sent,.int .u32 x.packet,.bool x.eof,.bool x.closed,.bool x.told,.int .i64 x.wants]
structure OS where
  A : Option Addr
  cap : Nat
  l : List (Int × Int)
def cOp (x:Int×Int):List Value:=[.int .i64 0,.int .u32 0,.int .u32 0,.int .u32 x.1,.int .u32 x.2,.int .u32 0,.string ⟨#[]⟩,.string ⟨#[]⟩,.bool false,.slice none 0 0]
def OS.val (o:OS):Value:=.slice o.A o.l.length o.cap
def OS.fp (o:OS):List Nat:=bkO o.A
def OS.at (w:World) (o:OS):Prop:=DA cOp 37 10 w o.A o.cap o.l
structure WM where
  ob : Nat
  eb : Nat
  nb : Nat
  opens : List (Int × OS)
  glob : Int
  ends : List (Int × (Nat × EN))
  nums : List (Int × Int)
  dead : Bool
def WM.cells (M:WM):List Value:=[.map (some M.ob),.int .i64 M.glob,.map (some M.eb),.map (some M.nb),.bool M.dead]
def eFp (x:Nat×EN):List Nat:=[x.1]
def AD (b:Nat):Value:=.pointer (some ⟨b,0,none⟩)
def PK (x:Int):Value:=.int .u32 x
def WM.fp (M:WM) (p:Nat):List Nat:=[p,M.ob,M.eb,M.nb]++(fpA OS.fp M.opens++fpA eFp M.ends)
structure WAt (w : World) (p : Nat) (M : WM) : Prop where
  blk : Blk w p 131 M.cells
  mo : BQ (kI .u32) w M.ob (AX OS.val M.opens)
  me : BQ (kI .u32) w M.eb (AX (fun x => AD x.1) M.ends)
  mn : BQ (kI .u32) w M.nb (AX PK M.nums)
  os : ∀ x ∈ M.opens, x.2.at w
  es : ∀ x ∈ M.ends, Blk w x.2.1 185 x.2.2.cells
  nd : (M.fp p).Nodup
  ko : IV M.opens
  ke : IV M.ends
  kn : IV M.nums
theorem OS.at_st {o:OS}:StX o.fp (fun w=>o.at w):=DA.st
theorem BQ.stb {κ:Type} {ke:κ->Value} {w w':World} {r:Nat} {es:List (κ×Value)} (he:w'.heap[r]? = w.heap[r]?) (h:BQ ke w r es):BQ ke w' r es:=by
 obtain⟨a,clock,hb,hl⟩:=h;exact⟨a,clock,he.trans hb,hl⟩
theorem WAt.st {p:Nat} {M:WM}:StX (M.fp p) (fun w=>WAt w p M):=fun w w' hs he h=>
 ⟨(he p (by simp[WM.fp])).trans h.blk,BQ.stb (he _ (by simp[WM.fp])) h.mo,BQ.stb (he _ (by simp[WM.fp])) h.me,BQ.stb (he _ (by simp[WM.fp])) h.mn,
  fun x hx=>OS.at_st w w' hs (fun y hy=>he y (by
   simp only[WM.fp,List.mem_append];exact .inr (.inl (List.mem_flatMap.2 ⟨x,hx,hy⟩)))) (h.os x hx),
  fun x hx=>(he x.2.1 (by
   simp only[WM.fp,List.mem_append];exact .inr (.inr (List.mem_flatMap.2 ⟨x,hx,by simp[eFp]⟩)))).trans (h.es x hx),h.nd,h.ko,h.ke,h.kn⟩
/-! What a watch is, wherever it lies. -/
structure WS where
  opens : List (Int × List (Int × Int))
  glob : Int
  ends : List (Int × EN)
  nums : List (Int × Int)
  dead : Bool
def WM.abs (M:WM):WS:=⟨AX OS.l M.opens,M.glob,AX Prod.snd M.ends,M.nums,M.dead⟩
def newW:WS:=⟨[],0,[],[],false⟩
def byS (S:WS) (n:Int):Option (Int×EN):=match AH n S.nums with
 |none=>none
 |some k=>(AH k S.ends).map fun x=>(k,x)
def b01 (b:Bool):Int:=if b then 1 else 0
def FS (S:WS) (m:MD):WS:=
 if m.kind=90 then { S with opens:=CG m.sender ((AH m.sender S.opens).getD []++[(m.window,m.packet)]) S.opens }
 else if m.kind=80 then { S with glob:=IntKind.i64.wrap (S.glob+b01 m.want) }
 else if m.kind=93 then match byS S m.chan with
  |none=>S
  |some (k,x)=>{ S with ends:=CG k { x with granted:=IntKind.u64.wrap (x.granted+m.window) } S.ends }
 else if m.kind=98 then match byS S m.chan with
  |none=>S
  |some (k,x)=>{ S with ends:=CG k { x with wants:=IntKind.i64.wrap (x.wants+b01 m.want) } S.ends }
 else S
def endS (x:EN) (m:MD) (ok:Bool):EN×Int:=
 if m.kind=94\/m.kind=95 then
  if x.eof then(x,9) else if(m.data.length:Int)>x.packet\/(m.data.length:Int)>IntKind.u64.wrap (x.granted-x.sent) then(x,5) else({ x with sent:=IntKind.u64.wrap (x.sent+m.data.length) },0)
 else if m.kind=93 then(x,0)
 else if m.kind=96 then if x.eof then(x,9) else({ x with eof:=true },0)
 else if m.kind=97 then({ x with closed:=true },0)
 else if m.kind=98 then if¬ok then(x,4) else if x.told then(x,9) else({ x with told:=true },0)
 else if x.wants=0 then(x,9) else({ x with wants:=IntKind.i64.wrap (x.wants-1) },0)
def LS (S:WS) (n:Int):Option ((Int×Int)×List (Int×Int)):=match AH n S.opens with
 |some (o::l)=>some (o,l)
 |_=>none
def newE (n:Int) (o:Int×Int):EN:=⟨n,o.1,0,o.2,false,false,false,0⟩
def AJ (S:WS) (m:MD) (ok:Bool):WS×Int:=
 if S.dead then(S,9)
 else if m.kind=1 then({ S with dead:=true },0)
 else if m.kind=81\/m.kind=82 then if S.glob=0 then(S,9) else({ S with glob:=IntKind.i64.wrap (S.glob-1) },0)
 else if m.kind=91 then match LS S m.chan with
  |none=>(S,8)
  |some (o,l)=>if(match AH m.chan S.ends with|some x=>!x.closed|none=>false)=true then(S,9)
   else({ S with opens:=CG m.chan l S.opens,ends:=CG m.chan (newE m.chan o) S.ends,nums:=CG m.sender m.chan S.nums },0)
 else if m.kind=92 then match LS S m.chan with
  |none=>(S,8)
  |some (o,l)=>({ S with opens:=CG m.chan l S.opens },0)
 else if m.kind<93\/m.kind>100 then(S,2)
 else match AH m.chan S.ends with
  |none=>(S,8)
  |some x=>if x.closed then(S,9) else({ S with ends:=CG m.chan (endS x m ok).1 S.ends },(endS x m ok).2)
noncomputable def okEx (m:MD):Bool:=@decide (m.want=false/\∃r,LQ m.name m.data r 0/\(r.kind=9\/r.kind=10)) (Classical.propDecidable _)
def openE (S:WS) (n:Int):Bool:=match AH n S.ends with
 |some x=>!x.closed
 |none=>false
theorem IG:KeyT Tryz.prog 191 3 139 (.nilFunc) (kI .i64):=⟨(by kernel_rfl),fun w=>by kernel_rfl,⟨.int .i64,by kernel_rfl,fun a=>rfl⟩,kI_inj⟩
def mV (f p:Nat):Value:=.func (.func f) #[AD p] #[]
def IF (p:Nat):List (Int×Value):=[(1,mV 132 p),(81,mV 133 p),(82,mV 133 p),(91,mV 134 p),(92,mV 135 p)]
theorem GN (p:Nat) (w:World):Calls Tryz.prog 89 #[AD p] w fun e w'=>∃r:Nat,e = .returned (.map (some r))/\Only [] w w'/\BQ (kI .i64) w' r (IF p)/\∀a,(some ⟨r,0,none⟩:Option Addr)=some a->w.heap.size<=a.block/\a.block<w'.heap.size:=by
 refine Hs.en Tryz.func89 [] [] [] [.c (.v (AD p))] (Mem.start0 w) ?_;refine Hs.e0 ?_;refine Hs.mkM (T:=191) (kI .i64) (by kernel_rfl) (by kernel_rfl) fun r=>?_;refine Hs.e0 ?_;refine Hs.putM (r:=r) (es:=[]) 0 IG 1 (mV 132 p) (by kernel_rfl) (by kernel_rfl) (by kernel_rfl) (by kernel_rfl) ?_;refine Hs.e0 ?_;refine Hs.putM (r:=r) (es:=[(1,mV 132 p)]) 0 IG 81 (mV 133 p) (by kernel_rfl) (by kernel_rfl) (by kernel_rfl) (by kernel_rfl) ?_;refine Hs.e0 ?_;refine Hs.putM (r:=r) (es:=[(1,mV 132 p),(81,mV 133 p)]) 0 IG 82 (mV 133 p) (by kernel_rfl) (by kernel_rfl) (by kernel_rfl) (by kernel_rfl) ?_;refine Hs.e0 ?_;refine Hs.putM (r:=r) (es:=[(1,mV 132 p),(81,mV 133 p),(82,mV 133 p)]) 0 IG 91 (mV 134 p) (by kernel_rfl) (by kernel_rfl) (by kernel_rfl) (by kernel_rfl) ?_;refine Hs.e0 ?_;refine Hs.putM (r:=r) (es:=[(1,mV 132 p),(81,mV 133 p),(82,mV 133 p),(91,mV 134 p)]) 0 IG 92 (mV 135 p) (by kernel_rfl) (by kernel_rfl) (by kernel_rfl) (by kernel_rfl) ?_;refine Hs.e0 ?_;exact Hs.rt (v:=.map (some r)) Tryz.func89 fun w' H=>⟨r,rfl,H.only,H.mapM 0 (es:=IF p) (by kernel_rfl),fun a ha=>by
  injection ha with ha;subst ha;exact⟨(H.own 0 (HB.mp (kI .i64) r (IF p)) r (by kernel_rfl) rfl rfl).resolve_left (by simp),(H.mapM 0 (ke:=kI .i64) (r:=r) (es:=IF p) (by kernel_rfl)).lt⟩⟩
def ofL (p:Nat):List (Int×Value):=[(94,mV 136 p),(95,mV 136 p),(93,mV 137 p),(96,mV 138 p),(97,mV 139 p),(98,mV 140 p),(99,mV 141 p),(100,mV 141 p)]
theorem ofL_any (p:Nat) (w:World):Calls Tryz.prog 90 #[AD p] w fun e w'=>∃r:Nat,e = .returned (.map (some r))/\Only [] w w'/\BQ (kI .i64) w' r (ofL p)/\∀a,(some ⟨r,0,none⟩:Option Addr)=some a->w.heap.size<=a.block/\a.block<w'.heap.size:=by
 refine Hs.en Tryz.func90 [] [] [] [.c (.v (AD p))] (Mem.start0 w) ?_;refine Hs.e0 ?_;refine Hs.mkM (T:=191) (kI .i64) (by kernel_rfl) (by kernel_rfl) fun r=>?_;refine Hs.e0 ?_;refine Hs.putM (r:=r) (es:=[]) 0 IG 94 (mV 136 p) (by kernel_rfl) (by kernel_rfl) (by kernel_rfl) (by kernel_rfl) ?_;refine Hs.e0 ?_;refine Hs.putM (r:=r) (es:=[(94,mV 136 p)]) 0 IG 95 (mV 136 p) (by kernel_rfl) (by kernel_rfl) (by kernel_rfl) (by kernel_rfl) ?_;refine Hs.e0 ?_;refine Hs.putM (r:=r) (es:=[(94,mV 136 p),(95,mV 136 p)]) 0 IG 93 (mV 137 p) (by kernel_rfl) (by kernel_rfl) (by kernel_rfl) (by kernel_rfl) ?_;refine Hs.e0 ?_;refine Hs.putM (r:=r) (es:=[(94,mV 136 p),(95,mV 136 p),(93,mV 137 p)]) 0 IG 96 (mV 138 p) (by kernel_rfl) (by kernel_rfl) (by kernel_rfl) (by kernel_rfl) ?_;refine Hs.e0 ?_;refine Hs.putM (r:=r) (es:=[(94,mV 136 p),(95,mV 136 p),(93,mV 137 p),(96,mV 138 p)]) 0 IG 97 (mV 139 p) (by kernel_rfl) (by kernel_rfl) (by kernel_rfl) (by kernel_rfl) ?_;refine Hs.e0 ?_;refine Hs.putM (r:=r) (es:=[(94,mV 136 p),(95,mV 136 p),(93,mV 137 p),(96,mV 138 p),(97,mV 139 p)]) 0 IG 98 (mV 140 p) (by kernel_rfl) (by kernel_rfl) (by kernel_rfl) (by kernel_rfl) ?_;refine Hs.e0 ?_;refine Hs.putM (r:=r) (es:=[(94,mV 136 p),(95,mV 136 p),(93,mV 137 p),(96,mV 138 p),(97,mV 139 p),(98,mV 140 p)]) 0 IG 99 (mV 141 p) (by kernel_rfl) (by kernel_rfl) (by kernel_rfl) (by kernel_rfl) ?_;refine Hs.e0 ?_;refine Hs.putM (r:=r) (es:=[(94,mV 136 p),(95,mV 136 p),(93,mV 137 p),(96,mV 138 p),(97,mV 139 p),(98,mV 140 p),(99,mV 141 p)]) 0 IG 100 (mV 141 p) (by kernel_rfl) (by kernel_rfl) (by kernel_rfl) (by kernel_rfl) ?_;refine Hs.e0 ?_;exact Hs.rt (v:=.map (some r)) Tryz.func90 fun w' H=>⟨r,rfl,H.only,H.mapM 0 (es:=ofL p) (by kernel_rfl),fun a ha=>by
  injection ha with ha;subst ha;exact⟨(H.own 0 (HB.mp (kI .i64) r (ofL p)) r (by kernel_rfl) rfl rfl).resolve_left (by simp),(H.mapM 0 (ke:=kI .i64) (r:=r) (es:=ofL p) (by kernel_rfl)).lt⟩⟩
theorem keyU {et:TypeId} {T:TypeId} {z:Value} (h1:Tryz.prog.underlying T=some (.map 29 et)) (h2: ∀w,(zeroValue et).run Tryz.prog w = .ok z w):KeyT Tryz.prog T 29 et z (kI .u32):=⟨h1,h2,⟨.int .u32,by kernel_rfl,fun a=>rfl⟩,kI_inj⟩
theorem MA:KeyT Tryz.prog 127 29 47 (.slice none 0 0) (kI .u32):=keyU (by kernel_rfl) (fun w=>by kernel_rfl)
theorem RT:KeyT Tryz.prog 128 29 182 (.pointer none) (kI .u32):=keyU (by kernel_rfl) (fun w=>by kernel_rfl)
theorem keyNu:KeyT Tryz.prog 129 29 29 (.int .u32 0) (kI .u32):=keyU (by kernel_rfl) (fun w=>by kernel_rfl)
theorem one_any (b:Bool) (w:World):Calls Tryz.prog 85 #[.bool b] w fun e w'=>e = .returned (.int .i64 (b01 b))/\Only [] w w':=by
 refine Hs.en Tryz.func85 [] [] [] [.c (.v (.bool b))] (Mem.start0 w) ?_;refine Hs.e0 ?_;refine Hs.cn b (fun h=>?_) (fun h=>?_)
 ·subst h;refine Hs.e0 ?_;exact Hs.rt (v:=.int .i64 1) Tryz.func85 fun w' H=>⟨rfl,H.only⟩
 ·subst h;refine Hs.e0 ?_;exact Hs.rt (v:=.int .i64 0) Tryz.func85 fun w' H=>⟨rfl,H.only⟩
def WM.by (M:WM) (n:Int):Option (Int×(Nat×EN)):=match AH n M.nums with
 |none=>none
 |some k=>(AH k M.ends).map fun x=>(k,x)
def optV (x:Option Nat):Value:=.pointer (x.map fun b=>⟨b,0,none⟩)
theorem by_any (M:WM) (p:Nat) (n:Int) (w:World) (hb:Blk w p 131 M.cells) (hn:BQ (kI .u32) w M.nb (AX PK M.nums)) (he:BQ (kI .u32) w M.eb (AX (fun x=>AD x.1) M.ends)):Calls Tryz.prog 86 #[AD p,.int .u32 n] w fun e w'=>e = .returned (optV ((M.by n).map fun x=>x.2.1))/\Only [] w w':=by
 obtain⟨ob,eb,nb,opens,glob,ends,nums,dead⟩:=M;refine Hs.en Tryz.func86 [] [p] [.b false 131 [.v (.map (some ob)),.v (.int .i64 glob),.v (.map (some eb)),.v (.map (some nb)),.v (.bool dead)]] [.c (.p 0 0),.c (.v (.int .u32 n))] (Mem.rdOne w p hb) ?_;refine Hs.e0 ?_;cases e1:AH n nums with
 |none=>
  have hl:BU n (AX PK nums)=none:=by rw[GD,e1];rfl
  refine Hs.getM keyNu n true (.tuple #[.int .u32 0,.bool false]) (by rw[hl];rfl) (by kernel_rfl) (fun w' H=>hn.only H.only (by simp)) ?_;refine Hs.e0 ?_;refine Hs.cT ?_;refine Hs.e0 ?_;have e:(WM.by ⟨ob,eb,nb,opens,glob,ends,nums,dead⟩ n).map (fun x=>x.2.1)=none:=by unfold WM.by;rw[e1];rfl
  exact Hs.rt (v:=.pointer none) Tryz.func86 fun w' H=>⟨by rw[e];rfl,H.only⟩
 |some k=>
  have hl:BU n (AX PK nums)=some (.int .u32 k):=by rw[GD,e1];rfl
  refine Hs.getM keyNu n true (.tuple #[.int .u32 k,.bool true]) (by rw[hl];rfl) (by kernel_rfl) (fun w' H=>hn.only H.only (by simp)) ?_;refine Hs.e0 ?_;refine Hs.cF ?_;refine Hs.e0 ?_;cases e2:AH k ends with
  |none=>
   have hl2:BU k (AX (fun x=>AD x.1) ends)=none:=by rw[GD,e2];rfl
   refine Hs.getM RT k false (.pointer none) (by rw[hl2];rfl) (by kernel_rfl) (fun w' H=>he.only H.only (by simp)) ?_;refine Hs.e0 ?_;have e:(WM.by ⟨ob,eb,nb,opens,glob,ends,nums,dead⟩ n).map (fun x=>x.2.1)=none:=by unfold WM.by;rw[e1];dsimp only;rw[e2];rfl
   exact Hs.rt (v:=.pointer none) Tryz.func86 fun w' H=>⟨by rw[e];rfl,H.only⟩
  |some x=>
   have hl2:BU k (AX (fun x=>AD x.1) ends)=some (AD x.1):=by rw[GD,e2];rfl
   refine Hs.getM RT k false (AD x.1) (by rw[hl2];rfl) (by kernel_rfl) (fun w' H=>he.only H.only (by simp)) ?_;refine Hs.e0 ?_;have e:(WM.by ⟨ob,eb,nb,opens,glob,ends,nums,dead⟩ n).map (fun x=>x.2.1)=some x.1:=by unfold WM.by;rw[e1];dsimp only;rw[e2];rfl
   exact Hs.rt (v:=AD x.1) Tryz.func86 fun w' H=>⟨by rw[e];rfl,H.only⟩
def mdS (m:MD):List SC:=[.v (.int .i64 m.kind),.v (.int .u32 m.chan),.v (.int .u32 m.sender),.v (.int .u32 m.window),.v (.int .u32 m.packet),.v (.int .u32 m.code),.v (.string m.name),.v (.string m.lang),.v (.bool m.want),.v (.slice m.dA m.data.length m.dc)]
theorem JH:ElemT Tryz.prog 47 37 10 (Tryz.prog.bytesOf 37):=IZ (z:=.agg #[.int .i64 0,.int .u32 0,.int .u32 0,.int .u32 0,.int .u32 0,.int .u32 0,.string ⟨#[]⟩,.string ⟨#[]⟩,.bool false,.slice none 0 0]) (by kernel_rfl) (by kernel_rfl) (by decide) (by decide)
theorem GA (x:Int×Int):(cOp x).length=10:=rfl
theorem cOp_one (x:Int×Int): ∀u∈cOp x,u.oneCell'=true:=by
 intro u hu;simp only[cOp,qC,List.not_mem_nil,or_false] at hu;rcases hu with h|h|h|h|h|h|h|h|h|h<;>subst h<;>rfl
section
variable {w w':World} {p:Nat} {M:WM} {L:List Nat} {s:Int}
theorem OS.lt {o:OS} (h:o.at w): ∀y∈o.fp,y<w.heap.size:=fun y hy=>by
 unfold OS.fp bkO at hy;rw[Option.mem_toList,Option.map_eq_some_iff] at hy;obtain⟨a,ha,rfl⟩:=hy;exact DA.lt h a ha
theorem WAt.lt (h:WAt w p M): ∀y∈M.fp p,y<w.heap.size:=fun y hy=>by
 simp only[WM.fp,List.mem_append,qC,List.not_mem_nil,or_false] at hy;rcases hy with(rfl|rfl|rfl|rfl)|hy|hy;·exact Blk.lt h.blk
 ·exact h.mo.lt
 ·exact h.me.lt
 ·exact h.mn.lt
 ·obtain⟨x,hx,hy⟩:=List.mem_flatMap.1 hy;exact OS.lt (h.os x hx) y hy
 ·obtain⟨x,hx,hy⟩:=List.mem_flatMap.1 hy;simp only[eFp,qS] at hy;subst hy;exact Blk.lt (h.es x hx)
structure ApartW (M : WM) (p : Nat) : Prop where
  four : [p, M.ob, M.eb, M.nb].Nodup
  o : (fpA OS.fp M.opens).Nodup
  e : (fpA eFp M.ends).Nodup
  fo : ∀ y ∈ fpA OS.fp M.opens, y ∉ [p, M.ob, M.eb, M.nb]
  fe : ∀ y ∈ fpA eFp M.ends, y ∉ [p, M.ob, M.eb, M.nb]
  oe : ∀ y ∈ fpA OS.fp M.opens, y ∉ fpA eFp M.ends
theorem HH (h:(M.fp p).Nodup):ApartW M p:=by
 unfold WM.fp at h;rw[qD] at h;obtain⟨h1,h2,h3⟩:=h;rw[qD] at h2;exact⟨h1,h2.1,h2.2.1,fun y hy hm=>h3 y hm y (qJ (.inl hy)) rfl,fun y hy hm=>h3 y hm y (qJ (.inr hy)) rfl,fun y hy hm=>h2.2.2 y hy y hm rfl⟩
theorem ApartW.nd (h:ApartW M p):(M.fp p).Nodup:=by
 unfold WM.fp;rw[qD];refine⟨h.four,?_,fun a ha b hb e=>?_⟩
 ·rw[qD];exact⟨h.o,h.e,fun a ha b hb e=>h.oe a ha (by rw[e];exact hb)⟩
 ·subst e;rcases qK hb with h1|h1;·exact h.fo a h1 ha
  ·exact h.fe a h1 ha
theorem FZ (A:Option Addr):(bkO A).Nodup:=by cases A<;>simp[bkO]
theorem TF {α:Type} {f:α->List Nat} {k:Int} {o:α} {y:Nat}: ∀{l:List (Int×α)},(fpA f l).Nodup->AH k l=some o->∀x∈l,x.1≠k->y∈f x.2->y∉f o
 |[],_,h,_,_,_,_=>by cases h
 |q::l,hn,h,x,hx,hk,hy=>by
  have e:fpA f (q::l)=f q.2++fpA f l:=by simp[fpA]
  rw[e,qD] at hn;unfold AH at h;split at h
  ·rename_i e1;injection h with h;subst h;rcases qC.1 hx with rfl|hx;·exact absurd e1 hk
   ·exact fun hm=>hn.2.2 y hm y (List.mem_flatMap.2 ⟨x,hx,hy⟩) rfl
  ·rcases qC.1 hx with rfl|hx;·exact fun hm=>hn.2.2 y hy y (BH h hm) rfl
   ·exact TF hn.2.1 h x hx hk hy
theorem ApartW.setO (h:ApartW M p) (s:Int) (o:OS) (hf: ∀y∈o.fp,(∃o',AH s M.opens=some o'/\y∈o'.fp)\/y∉M.fp p):ApartW { M with opens:=CG s o M.opens } p:=by
 have hin: ∀y∈fpA OS.fp (CG s o M.opens),y∈fpA OS.fp M.opens\/y∉M.fp p:=fun y hy=>by
  rcases MV hy with h1|h1
  ·rcases hf y h1 with⟨o',h2,h3⟩|h2;·exact .inl (BH h2 h3)
   ·exact .inr h2
  ·exact .inl h1
 refine⟨h.four,TG h.o (FZ _) fun y hy=>?_,h.e,fun y hy hm=>?_,h.fe,fun y hy hm=>?_⟩
 ·rcases hf y hy with h1|h1;·exact .inr h1
  ·exact .inl fun hm=>h1 (by simp only[WM.fp,List.mem_append];exact .inr (.inl hm))
 ·rcases hin y hy with h1|h1;·exact h.fo y h1 hm
  ·exact h1 (by simp only[WM.fp,List.mem_append];exact .inl hm)
 ·rcases hin y hy with h1|h1;·exact h.oe y h1 hm
  ·exact h1 (by simp only[WM.fp,List.mem_append];exact .inr (.inr hm))
theorem ApartW.setE (h:ApartW M p) (k:Int) (x:Nat×EN) (hf:(∃x',AH k M.ends=some x'/\x.1=x'.1)\/x.1∉M.fp p):ApartW { M with ends:=CG k x M.ends } p:=by
 have hin: ∀y∈fpA eFp (CG k x M.ends),y∈fpA eFp M.ends\/y∉M.fp p:=fun y hy=>by
  rcases MV hy with h1|h1
  ·simp only[eFp,qS] at h1;subst h1;rcases hf with⟨x',h2,h3⟩|h2;·exact .inl (BH h2 (by rw[h3];simp[eFp]))
   ·exact .inr h2
  ·exact .inl h1
 refine⟨h.four,h.o,TG h.e (by simp[eFp]) fun y hy=>?_,h.fo,fun y hy hm=>?_,fun y hy hm=>?_⟩
 ·simp only[eFp,qS] at hy;subst hy;rcases hf with⟨x',h2,h3⟩|h2;·exact .inr ⟨x',h2,by rw[h3];simp[eFp]⟩
  ·exact .inl fun hm=>h2 (by simp only[WM.fp,List.mem_append];exact .inr (.inr hm))
 ·rcases hin y hy with h1|h1;·exact h.fe y h1 hm
  ·exact h1 (by simp only[WM.fp,List.mem_append];exact .inl hm)
 ·rcases hin y hm with h1|h1;·exact h.oe y hy h1
  ·exact h1 (by simp only[WM.fp,List.mem_append];exact .inr (.inl hy))
theorem WAt.osOnly (h:WAt w p M) (O:Only L w w') (hL: ∀y∈L,y∈[p,M.ob,M.eb,M.nb]\/(∃o,AH s M.opens=some o/\y∈o.fp)\/y∈fpA eFp M.ends): ∀x∈M.opens,x.1≠s->x.2.at w':=fun x hx hk=>by
 have A:=HH h.nd;refine OS.at_st w w' O.size (fun y hy=>O.block y (OS.lt (h.os x hx) y hy) fun hm=>?_) (h.os x hx);have hy2:y∈fpA OS.fp M.opens:=List.mem_flatMap.2 ⟨x,hx,hy⟩;rcases hL y hm with h1|⟨o,h1,h2⟩|h1;·exact A.fo y hy2 h1
 ·exact TF A.o h1 x hx hk hy h2
 ·exact A.oe y hy2 h1
theorem WAt.esOnly (h:WAt w p M) (O:Only L w w') (hL: ∀y∈L,y∈[p,M.ob,M.eb,M.nb]\/y∈fpA OS.fp M.opens\/∃x,AH s M.ends=some x/\y=x.1): ∀x∈M.ends,x.1≠s->Blk w' x.2.1 185 x.2.2.cells:=fun x hx hk=>by
 have A:=HH h.nd;refine Blk.only (L:=L) (h.es x hx) O fun hm=>?_;have hy2:x.2.1∈fpA eFp M.ends:=List.mem_flatMap.2 ⟨x,hx,by simp[eFp]⟩;rcases hL _ hm with h1|h1|⟨o,h1,h2⟩;·exact A.fe _ hy2 h1
 ·exact A.oe _ h1 hy2
 ·exact TF (y:=x.2.1) A.e h1 x hx hk (by simp[eFp]) (by rw[h2];simp[eFp])
end
def DF (M:WM) (p:Nat) (S:WS) (v:Value) (w:World):Ending->World->Prop:=fun e w'=>∃M':WM,e = .returned v/\Only (M.fp p) w w'/\WAt w' p M'/\M'.abs=S/\∀y∈M'.fp p,y<w'.heap.size/\(y∈M.fp p\/w.heap.size<=y)
def FewW (M:WM):Prop:=∀x∈M.opens,x.2.l.length<=1000000
theorem FewW.at {M:WM} (h:FewW M) (s:Int):((AH s M.opens).getD ⟨none,0,[]⟩).l.length<=1000000:=by
 cases e:AH s M.opens with
 |none=>simp
 |some o=>exact h _ (CD e)
theorem by_ms {n:Nat} (h:n<=1000000):(n+1)*Tryz.prog.bytesOf 37<=140737488355328:=by
 have e:Tryz.prog.bytesOf 37=96:=by kernel_rfl
 rw[e];omega
theorem WAt.put {w w':World} {p:Nat} {M M':WM} {L:List Nat} (h:WAt w p M) (O:Only L w w') (s k:Int) (e1:M'.ob=M.ob) (e2:M'.eb=M.eb) (e3:M'.nb=M.nb)
  (blk:Blk w' p 131 M'.cells) (mo:BQ (kI .u32) w' M.ob (AX OS.val M'.opens)) (me:BQ (kI .u32) w' M.eb (AX (fun x=>AD x.1) M'.ends)) (mn:BQ (kI .u32) w' M.nb (AX PK M'.nums)) (kn:IV M'.nums)
  (ho:(M'.opens=M.opens/\∀o,AH s M.opens=some o->∀y∈o.fp,y∉L)\/∃o,M'.opens=CG s o M.opens/\o.at w'/\∀y∈o.fp,(∃o',AH s M.opens=some o'/\y∈o'.fp)\/w.heap.size<=y)
  (he:(M'.ends=M.ends/\∀x,AH k M.ends=some x->x.1∉L)\/(∃x,M'.ends=CG k x M.ends/\Blk w' x.1 185 x.2.cells/\∃x',AH k M.ends=some x'/\x.1=x'.1)\/∃x,M'.ends=CG k x M.ends/\Blk w' x.1 185 x.2.cells/\w.heap.size<=x.1/\∀y∈fpA OS.fp M'.opens,y≠x.1)
  (hL: ∀y∈L,y∈[p,M.ob,M.eb,M.nb]\/(∃o,AH s M.opens=some o/\y∈o.fp)\/∃x,AH k M.ends=some x/\y=x.1) (v:Value) (S:WS) (hS:M'.abs=S):DF M p S v w (.returned v) w':=by
 have A:=HH h.nd;have hlt:=h.lt;have hos:=h.osOnly O (s:=s) (fun y hy=>by
  rcases hL y hy with h1|h1|⟨x,h1,h2⟩;·exact .inl h1
  ·exact .inr (.inl h1)
  ·exact .inr (.inr (BH h1 (by rw[h2];simp[eFp]))))
 have hes:=h.esOnly O (s:=k) (fun y hy=>by
  rcases hL y hy with h1|⟨o,h1,h2⟩|h1;·exact .inl h1
  ·exact .inr (.inl (BH h1 h2))
  ·exact .inr (.inr h1))
 have hLf: ∀y∈L,y∈M.fp p:=fun y hy=>by
  simp only[WM.fp,List.mem_append];rcases hL y hy with h1|⟨o,h1,h2⟩|⟨x,h1,h2⟩;·exact .inl h1
  ·exact .inr (.inl (BH h1 h2))
  ·exact .inr (.inr (BH h1 (by rw[h2];simp[eFp])))
 obtain⟨ob,eb,nb,opens,glob,ends,nums,dead⟩:=M;obtain⟨ob',eb',nb',opens',glob',ends',nums',dead'⟩:=M';dsimp only at *;subst e1;subst e2;subst e3;-- the opens
 obtain⟨hos',ko',A1,hfo⟩:(∀x∈opens',x.2.at w')/\IV opens'/\ApartW ⟨ob',eb',nb',opens',glob',ends,nums',dead'⟩ p/\∀y∈fpA OS.fp opens',y<w'.heap.size/\(y∈fpA OS.fp opens\/w.heap.size<=y):=by
  rcases ho with⟨rfl,hno⟩|⟨o,rfl,hoa,hof⟩
  ·refine⟨fun x hx=>?_,h.ko,⟨A.four,A.o,A.e,A.fo,A.fe,A.oe⟩,fun y hy=>⟨zT (hlt y (by simp only[WM.fp,List.mem_append];exact .inr (.inl hy))) O.size,.inl hy⟩⟩;by_cases hk:x.1=s
   ·have hx2:=h.os x hx;refine OS.at_st w w' O.size (fun y hy=>O.block y (OS.lt hx2 y hy) fun hm=>?_) hx2;have hy2:y∈fpA OS.fp opens':=List.mem_flatMap.2 ⟨x,hx,hy⟩;rcases hL y hm with h1|⟨o,h1,h2⟩|⟨x',h1,h2⟩;·exact A.fo y hy2 h1
    ·exact hno o h1 y h2 hm
    ·exact A.oe y hy2 (BH h1 (by rw[h2];simp[eFp]))
   ·exact hos x hx hk
  ·have hin: ∀y∈fpA OS.fp (CG s o opens),y<w'.heap.size/\(y∈fpA OS.fp opens\/w.heap.size<=y):=fun y hy=>by
    rcases MV hy with h1|h1
    ·refine⟨OS.lt hoa y h1,?_⟩;rcases hof y h1 with⟨o',h2,h3⟩|h2;·exact .inl (BH h2 h3)
     ·exact .inr h2
    ·exact⟨zT (hlt y (by simp only[WM.fp,List.mem_append];exact .inr (.inl h1))) O.size,.inl h1⟩
   refine⟨fun x hx=>?_,h.ko.set,?_,hin⟩
   ·rcases h.ko.other hx with rfl|⟨h1,h2⟩;·exact hoa
    ·exact hos x h1 h2
   ·have:=A.setO s o (fun y hy=>by
     rcases hof y hy with h1|h1;·exact .inl h1
     ·exact .inr fun hm=>by have:=hlt y hm;omega)
    exact⟨this.four,this.o,this.e,this.fo,this.fe,this.oe⟩
 have hA2:ApartW ⟨ob',eb',nb',opens',glob',ends',nums',dead'⟩ p/\(∀x∈ends',Blk w' x.2.1 185 x.2.2.cells)/\IV ends'/\∀y∈fpA eFp ends',y<w'.heap.size/\(y∈fpA eFp ends\/w.heap.size<=y):=by
  rcases he with⟨rfl,hno⟩|⟨x,rfl,hxb,x',hx1,hx2⟩|⟨x,rfl,hxb,hxn,hxo⟩
  ·refine⟨A1,fun x hx=>?_,h.ke,fun y hy=>⟨zT (hlt y (by simp only[WM.fp,List.mem_append];exact .inr (.inr hy))) O.size,.inl hy⟩⟩;by_cases hk:x.1=k
   ·refine Blk.only (L:=L) (h.es x hx) O fun hm=>?_;have hy2:x.2.1∈fpA eFp ends':=List.mem_flatMap.2 ⟨x,hx,by simp[eFp]⟩;rcases hL _ hm with h1|⟨o,h1,h2⟩|⟨x',h1,h2⟩;·exact A.fe _ hy2 h1
    ·exact A.oe _ (BH h1 h2) hy2
    ·exact hno x' h1 (by rw[<-h2];exact hm)
   ·exact hes x hx hk
  ·refine⟨?_,fun z hz=>?_,h.ke.set,fun y hy=>?_⟩
   ·have:=A1.setE k x (.inl ⟨x',hx1,hx2⟩);exact⟨this.four,this.o,this.e,this.fo,this.fe,this.oe⟩
   ·rcases h.ke.other hz with rfl|⟨h1,h2⟩;·exact hxb
    ·exact hes z h1 h2
   ·rcases MV hy with h1|h1
    ·simp only[eFp,qS] at h1;subst h1;exact⟨Blk.lt hxb,.inl (BH hx1 (by rw[hx2];simp[eFp]))⟩
    ·exact⟨zT (hlt y (by simp only[WM.fp,List.mem_append];exact .inr (.inr h1))) O.size,.inl h1⟩
  ·refine⟨?_,fun z hz=>?_,h.ke.set,fun y hy=>?_⟩
   ·have:=A1.setE k x (.inr fun hm=>by
     simp only[WM.fp,List.mem_append] at hm;rcases hm with h1|h1|h1;·have:=hlt x.1 (by simp only[WM.fp,List.mem_append];exact .inl h1);omega
     ·exact hxo _ h1 rfl
     ·have:=hlt x.1 (by simp only[WM.fp,List.mem_append];exact .inr (.inr h1));omega)
    exact⟨this.four,this.o,this.e,this.fo,this.fe,this.oe⟩
   ·rcases h.ke.other hz with rfl|⟨h1,h2⟩;·exact hxb
    ·exact hes z h1 h2
   ·rcases MV hy with h1|h1
    ·simp only[eFp,qS] at h1;subst h1;exact⟨Blk.lt hxb,.inr hxn⟩
    ·exact⟨zT (hlt y (by simp only[WM.fp,List.mem_append];exact .inr (.inr h1))) O.size,.inl h1⟩
 obtain⟨A2,hes',ke',hfe⟩:=hA2;refine⟨⟨ob',eb',nb',opens',glob',ends',nums',dead'⟩,rfl,O.mono hLf,⟨blk,mo,me,mn,hos',hes',A2.nd,ko',ke',kn⟩,hS,fun y hy=>?_⟩;simp only[WM.fp,List.mem_append] at hy⊢;rcases hy with h1|h1|h1;·exact⟨zT (hlt y (by simp only[WM.fp,List.mem_append];exact .inl h1)) O.size,.inl (.inl h1)⟩
 ·exact⟨(hfo y h1).1,(hfo y h1).2.imp (fun h=>.inr (.inl h)) id⟩
 ·exact⟨(hfe y h1).1,(hfe y h1).2.imp (fun h=>.inr (.inr h)) id⟩
theorem says_open (M:WM) (p:Nat) (m:MD) (w:World) (h:WAt w p M) (hf:FewW M) (hk:m.kind=90):Calls Tryz.prog 54 #[AD p,m.val] w (DF M p (FS M.abs m) (.tuple #[]) w):=by
 obtain⟨o,ho⟩:=qX ((AH m.sender M.opens).getD ⟨none,0,[]⟩);have hfo:=hf.at m.sender;rw[ho] at hfo;have hoo:o.at w:=by
  cases e:AH m.sender M.opens with
  |none=>rw[e] at ho;subst ho;exact DA.none_
  |some o'=>rw[e] at ho;subst ho;exact h.os _ (CD e)
 have hofp: ∀y∈o.fp,∃o',AH m.sender M.opens=some o'/\y∈o'.fp:=fun y hy=>by
  cases e:AH m.sender M.opens with
  |none=>rw[e] at ho;subst ho;simp[OS.fp,bkO] at hy
  |some o'=>rw[e] at ho;subst ho;exact⟨_,rfl,hy⟩
 have hlook:(BU m.sender (AX OS.val M.opens)).getD (.slice none 0 0)=o.val:=by
  rw[GD];cases e:AH m.sender M.opens with
  |none=>rw[e] at ho;subst ho;rfl
  |some o'=>rw[e] at ho;subst ho;rfl
 have hA:=HH h.nd;have hmo:=h.mo;have hb:=h.blk;obtain⟨ob,eb,nb,opens,glob,ends,nums,dead⟩:=M;obtain⟨oA,oc,ol⟩:=o;obtain⟨k,chan,sender,window,packet,code,name,lang,want,dA,dc,data⟩:=m;dsimp only at *;subst hk;have key:sender=sender:=rfl;have hnd:(bks [p,ob,0] [.b true 131 [.v (.map (some ob)),.v (.int .i64 glob),.v (.map (some eb)),.v (.map (some nb)),.v (.bool dead)],HB.mp (kI .u32) ob (AX OS.val opens),HB.oo cOp 37 10 oA oc ol]).Nodup:=by
  have h4:=hA.four;show(p::ob::((bkO oA)++[])).Nodup;rw[qN];simp only[List.nodup_cons,qC,List.not_mem_nil,or_false,not_or] at h4⊢;refine⟨⟨h4.1.1,fun hm=>?_⟩,fun hm=>?_,FZ _⟩
  ·obtain⟨o',h1,h2⟩:=hofp p hm;exact hA.fo p (BH h1 h2) (by simp)
  ·obtain⟨o',h1,h2⟩:=hofp ob hm;exact hA.fo ob (BH h1 h2) (by simp)
 refine Hs.en Tryz.func54 _ [p,ob,0] [.b true 131 [.v (.map (some ob)),.v (.int .i64 glob),.v (.map (some eb)),.v (.map (some nb)),.v (.bool dead)],HB.mp (kI .u32) ob (AX OS.val opens),HB.oo cOp 37 10 oA oc ol] [.c (.p 0 0),.g (mdS ⟨90,chan,sender,window,packet,code,name,lang,want,dA,dc,data⟩)] (Mem.startN rfl hnd ⟨hb,⟨hmo,fun a ha=>by injection ha with ha;subst ha;exact hmo.lt⟩,⟨hoo,hoo.lt⟩,trivial⟩) ?_;refine Hs.e1 fun b0=>?_;refine Hs.cF ?_;refine Hs.e0 ?_;refine Hs.cT ?_;refine Hs.any [0,1,3,1020] (by kernel_rfl) ?_;refine Hs.e0 ?_;refine Hs.takeGet (rd:=[0,1,3]) 12 1 MA (r:=ob) (es:=AX OS.val opens) sender false (OS.val ⟨oA,oc,ol⟩) hlook (by kernel_rfl) (by kernel_rfl) (by kernel_rfl) ?_;refine Hs.e1 fun q1=>?_;refine Hs.appO (c:=1) (ty:=47) (b:=q1) (o:=0) (A:=oA) (cap:=oc) 2 JH ol [(window,packet)] ol.length 1 rfl rfl cOp_one GA (by kernel_rfl) (by kernel_rfl) (by kernel_rfl) (by decide) (fun w' H=>H.rdB (gs:=[(window,packet)]) 4 (wr:=true) (T:=37) (cs:=(cOp (window,packet)).map SC.v) (by kernel_rfl) rfl) (by unfold maxLen;omega) (by_ms hfo) fun A' c'=>?_;refine Hs.e0 ?_;refine Hs.setM 1 MA (r:=ob) (es:=AX OS.val opens) sender (OS.val ⟨A',c',ol++[(window,packet)]⟩) (by rw[show OS.val ⟨A',c',ol++[(window,packet)]⟩ = .slice A' (ol.length+1) c' by simp[OS.val]];kernel_rfl) (by kernel_rfl) (by kernel_rfl) ?_;refine Hs.e0 ?_;refine Hs.rt (v:=.tuple #[]) Tryz.func54 fun w' H=>?_;have hB:Blk w' p 131 _:=H.at 0 (wr:=true) (T:=131) (cs:=[.v (.map (some ob)),.v (.int .i64 glob),.v (.map (some eb)),.v (.map (some nb)),.v (.bool dead)]) (by kernel_rfl);have hM:=H.mapM 1 (r:=ob) (ke:=kI .u32) (es:=setE sender (OS.val ⟨A',c',ol++[(window,packet)]⟩) (AX OS.val opens)) (by kernel_rfl);have hO:DA cOp 37 10 w' A' c' (ol++[(window,packet)]):=H.atQ 2 (wr:=true) (A:=A') (Q:=fun w=>DA cOp 37 10 w A' c' (ol++[(window,packet)])) (st:=DA.stq) (by kernel_rfl);have hfr:=(H.sub [0,1,2] (by decide) (hp':=[.b true 131 [.v (.map (some ob)),.v (.int .i64 glob),.v (.map (some eb)),.v (.map (some nb)),.v (.bool dead)],HB.mp (kI .u32) ob (setE sender (OS.val ⟨A',c',ol++[(window,packet)]⟩) (AX OS.val opens)),HB.oo cOp 37 10 A' c' (ol++[(window,packet)])]) (by kernel_rfl)).bks rfl;obtain⟨hnd2,hfr⟩:=hfr;have hnew: ∀y∈bkO A',(∃o',AH sender opens=some o'/\y∈o'.fp)\/w.heap.size<=y:=fun y hy=>by
  have hnd3:(p::ob::(bkO A'++[])).Nodup:=hnd2;rw[qN] at hnd3;simp only[List.nodup_cons,qC,not_or] at hnd3;have h1:=(hfr y (show y∈p::ob::(bkO A'++[]) by simp[hy])).1;rcases h1 with h1|h1
  ·have h2:y∈p::ob::(bkO oA++[]):=h1;rw[qN] at h2;simp only[qC] at h2;rcases h2 with rfl|rfl|h2;·exact absurd hy hnd3.1.2
   ·exact absurd hy hnd3.2.1
   ·exact .inl (hofp y h2)
  ·exact .inr h1
 have hL: ∀y∈bks [p,ob,0] [.b true 131 [.v (.map (some ob)),.v (.int .i64 glob),.v (.map (some eb)),.v (.map (some nb)),.v (.bool dead)],HB.mp (kI .u32) ob (AX OS.val opens),HB.oo cOp 37 10 oA oc ol],y=p\/y=ob\/∃o',AH sender opens=some o'/\y∈o'.fp:=fun y hy=>by
  have h2:y∈p::ob::(bkO oA++[]):=hy;rw[qN] at h2;simp only[qC] at h2;exact h2.imp id (Or.imp id (hofp y))
 refine WAt.put (M':=⟨ob,eb,nb,CG sender ⟨A',c',ol++[(window,packet)]⟩ opens,glob,ends,nums,dead⟩) h H.only sender sender rfl rfl rfl hB (by rw[<-TU];exact hM) (h.me.only H.only fun hm=>?_) (h.mn.only H.only fun hm=>?_) h.kn (.inr ⟨_,rfl,hO,hnew⟩) (.inl ⟨rfl,fun x hx hm=>?_⟩) (fun y hy=>?_) _ _ ?_
 ·rcases hL _ hm with h1|h1|⟨o',h1,h2⟩;·exact absurd h1 (by have:=hA.four;simp at this;intro e;exact this.1.2.1 e.symm)
  ·exact absurd h1 (by have:=hA.four;simp at this;intro e;exact this.2.1.1 e.symm)
  ·exact hA.fo _ (BH h1 h2) (by simp)
 ·rcases hL _ hm with h1|h1|⟨o',h1,h2⟩;·exact absurd h1 (by have:=hA.four;simp at this;intro e;exact this.1.2.2 e.symm)
  ·exact absurd h1 (by have:=hA.four;simp at this;intro e;exact this.2.1.2 e.symm)
  ·exact hA.fo _ (BH h1 h2) (by simp)
 ·have hx2:x.1∈fpA eFp ends:=BH hx (by simp[eFp]);rcases hL _ hm with h1|h1|⟨o',h1,h2⟩;·exact hA.fe _ hx2 (by simp[h1])
  ·exact hA.fe _ hx2 (by simp[h1])
  ·exact hA.oe _ (BH h1 h2) hx2
 ·rcases hL _ hy with h1|h1|h1;·exact .inl (by simp[h1])
  ·exact .inl (by simp[h1])
  ·exact .inr (.inl h1)
 ·unfold FS WM.abs;rw[if_pos rfl];dsimp only;rw[EV,<-MO];have e:((AH sender opens).map OS.l).getD []=ol:=by
   have this:OS.l ((AH sender opens).getD ⟨none,0,[]⟩)=ol:=congrArg OS.l ho;rw[<-this];cases AH sender opens<;>rfl
  rw[e]
theorem TT {α γ:Type} (f:α->γ) {k:Int} {v v':α}: ∀{l:List (Int×α)},AH k l=some v->f v'=f v->AX f (CG k v' l)=AX f l
 |[],h,_=>by cases h
 |q::l,h,e=>by
  unfold AH at h;unfold CG;split at h
  ·rename_i hk;injection h with h;subst h;rw[if_pos hk];unfold AX;rw[List.map_cons,List.map_cons];simp[e,hk]
  ·rename_i hk;rw[if_neg hk];have ih:=TT f h e;unfold AX at ih⊢;rw[List.map_cons,List.map_cons,ih]
theorem WM.by_abs (M:WM) (n:Int):byS M.abs n=(M.by n).map fun x=>(x.1,x.2.2):=by
 unfold byS WM.by WM.abs;dsimp only;cases AH n M.nums with
 |none=>rfl
 |some k=>
  dsimp only;rw[EV];cases AH k M.ends<;>rfl
theorem WM.by_at {M:WM} {n k:Int} {x:Nat×EN} (h:M.by n=some (k,x)):AH k M.ends=some x:=by
 unfold WM.by at h;split at h;·cases h
 ·rename_i k' _;cases e:AH k' M.ends with
  |none=>rw[e] at h;cases h
  |some y=>
   rw[e] at h;injection h with h;injection h with h1 h2;subst h1;subst h2;exact e
theorem WAt.keep {w w':World} {p:Nat} {M:WM} (h:WAt w p M) (O:Only [] w w') (v:Value):DF M p M.abs v w (.returned v) w':=
 ⟨M,rfl,O.mono (by simp),WAt.st w w' O.size (fun x hx=>O.block x (h.lt x hx) (by simp)) h,rfl,fun y hy=>⟨zT (h.lt y hy) O.size,.inl hy⟩⟩
theorem WAt.putE {w w':World} {p b:Nat} {M:WM} {k:Int} {x x':EN} (h:WAt w p M) (O:Only [p,b] w w') (hk:AH k M.ends=some (b,x)) (hp:Blk w' p 131 M.cells) (hb:Blk w' b 185 x'.cells) (v:Value):DF M p { M.abs with ends:=CG k x' M.abs.ends } v w (.returned v) w':=by
 have A:=HH h.nd;have hbm:b∈fpA eFp M.ends:=BH hk (by simp[eFp]);have h4:=A.four;simp only[List.nodup_cons,qC,List.not_mem_nil,or_false,not_or] at h4;have hb4:=A.fe b hbm;simp only[qC,List.not_mem_nil,or_false,not_or] at hb4;refine WAt.put (M':={ M with ends:=CG k (b,x') M.ends }) h O 0 k rfl rfl rfl hp (h.mo.only O (by simp only[qC,List.not_mem_nil,or_false,not_or];exact⟨fun e=>h4.1.1 e.symm,fun e=>hb4.2.1 e.symm⟩)) ?_ (h.mn.only O (by simp only[qC,List.not_mem_nil,or_false,not_or];exact⟨fun e=>h4.1.2.2 e.symm,fun e=>hb4.2.2.2 e.symm⟩)) h.kn (.inl ⟨rfl,fun o ho y hy hm=>?_⟩) (.inr (.inl ⟨(b,x'),rfl,hb,_,hk,rfl⟩)) (fun y hy=>?_) v _ ?_
 ·have:=h.me.only O (by simp only[qC,List.not_mem_nil,or_false,not_or];exact⟨fun e=>h4.1.2.1 e.symm,fun e=>hb4.2.2.1 e.symm⟩);dsimp only;rw[TT (v':=(b,x')) (fun x=>AD x.1) hk rfl];exact this
 ·have hy2:=BH (f:=OS.fp) ho hy;simp only[qC,List.not_mem_nil,or_false] at hm;rcases hm with rfl|rfl;·exact A.fo _ hy2 (by simp)
  ·exact A.oe _ hy2 hbm
 ·simp only[qC,List.not_mem_nil,or_false] at hy;rcases hy with rfl|rfl;·exact .inl (by simp)
  ·exact .inr (.inr ⟨_,hk,rfl⟩)
 ·unfold WM.abs;dsimp only;rw[<-MO]
theorem WAt.putP {w w':World} {p:Nat} {M:WM} {g:Int} {d:Bool} (h:WAt w p M) (O:Only [p] w w') (hp:Blk w' p 131 (WM.cells { M with glob:=g,dead:=d })) (v:Value):DF M p { M.abs with glob:=g,dead:=d } v w (.returned v) w':=by
 have A:=HH h.nd;have h4:=A.four;simp only[List.nodup_cons,qC,List.not_mem_nil,or_false,not_or] at h4;refine WAt.put (M':={ M with glob:=g,dead:=d }) h O 0 0 rfl rfl rfl hp (h.mo.only O (by simp only[qS];exact fun e=>h4.1.1 e.symm)) (h.me.only O (by simp only[qS];exact fun e=>h4.1.2.1 e.symm)) (h.mn.only O (by simp only[qS];exact fun e=>h4.1.2.2 e.symm)) h.kn (.inl ⟨rfl,fun o ho y hy hm=>?_⟩) (.inl ⟨rfl,fun x hx hm=>?_⟩) (fun y hy=>?_) v _ rfl
 ·rw[qS] at hm;subst hm;exact A.fo _ (BH ho hy) (by simp)
 ·rw[qS] at hm;exact A.fe x.1 (BH hx (by simp[eFp])) (by simp[hm])
 ·rw[qS] at hy;subst hy;exact .inl (by simp)
def wS (M:WM):List SC:=[.v (.map (some M.ob)),.v (.int .i64 M.glob),.v (.map (some M.eb)),.v (.map (some M.nb)),.v (.bool M.dead)]
theorem iA (M:WM) (p:Nat) (m:MD) (w:World) (h:WAt w p M) (hk:m.kind=80):Calls Tryz.prog 54 #[AD p,m.val] w (DF M p (FS M.abs m) (.tuple #[]) w):=by
 have hb:=h.blk;have eS:FS M.abs m = { M.abs with glob:=IntKind.i64.wrap (M.glob+b01 m.want) }:=by unfold FS;rw[if_neg (by rw[hk];decide),if_pos hk];rfl
 rw[eS];obtain⟨ob,eb,nb,opens,glob,ends,nums,dead⟩:=M;obtain⟨k,chan,sender,window,packet,code,name,lang,want,dA,dc,data⟩:=m;dsimp only at *;subst hk;refine Hs.en Tryz.func54 [p] [p] [.b true 131 (wS ⟨ob,eb,nb,opens,glob,ends,nums,dead⟩)] [.c (.p 0 0),.g (mdS ⟨80,chan,sender,window,packet,code,name,lang,want,dA,dc,data⟩)] (Mem.one w p hb) ?_;refine Hs.e1 fun b0=>?_;refine Hs.cF ?_;refine Hs.e0 ?_;refine Hs.cF ?_;refine Hs.e0 ?_;refine Hs.cT ?_;refine Hs.any [0,1,1010] (by kernel_rfl) ?_;refine Hs.e0 ?_;refine Hs.cV (fun w' H=>one_any want w') ?_;refine Hs.e0 ?_;exact Hs.rt (v:=.tuple #[]) Tryz.func54 fun w' H=>h.putP (d:=dead) H.only (H.at 0 (wr:=true) (T:=131) (cs:=wS ⟨ob,eb,nb,opens,IntKind.i64.wrap (glob+b01 want),ends,nums,dead⟩) (by kernel_rfl)) _
theorem says_none (M:WM) (p:Nat) (m:MD) (w:World) (h:WAt w p M) (h1:m.kind≠90) (h2:m.kind≠80) (h3:m.kind≠93) (h4:m.kind≠98):Calls Tryz.prog 54 #[AD p,m.val] w (DF M p (FS M.abs m) (.tuple #[]) w):=by
 have eS:FS M.abs m=M.abs:=by unfold FS;rw[if_neg h1,if_neg h2,if_neg h3,if_neg h4]
 rw[eS];refine Hs.en Tryz.func54 [] [] [] [.c (.v (AD p)),.g (mdS m)] (Mem.start0 w) ?_;refine Hs.e1 fun b0=>?_;refine Hs.cF ?_;refine Hs.e0 ?_;refine Hs.cP (m.kind=90) (fun h=>absurd h h1) (fun _=>?_);refine Hs.e0 ?_;refine Hs.cP (m.kind=80) (fun h=>absurd h h2) (fun _=>?_);refine Hs.e0 ?_;refine Hs.cP (m.kind=93) (fun h=>absurd h h3) (fun _=>?_);refine Hs.e0 ?_;refine Hs.cP (m.kind=98) (fun h=>absurd h h4) (fun _=>?_);refine Hs.e0 ?_;exact Hs.rt (v:=.tuple #[]) Tryz.func54 fun w' H=>h.keep H.only _
theorem kR (M:WM) (p:Nat) (m:MD) (w:World) (h:WAt w p M) (h1:m.kind=93\/m.kind=98) (hn:M.by m.chan=none):Calls Tryz.prog 54 #[AD p,m.val] w (DF M p (FS M.abs m) (.tuple #[]) w):=by
 have eS:FS M.abs m=M.abs:=by
  have hS:byS M.abs m.chan=none:=by rw[WM.by_abs,hn];rfl
  unfold FS;rw[hS];rcases h1 with h1|h1;·rw[if_neg (by rw[h1];decide),if_neg (by rw[h1];decide),if_pos h1]
  ·rw[if_neg (by rw[h1];decide),if_neg (by rw[h1];decide),if_neg (by rw[h1];decide),if_pos h1]
 rw[eS];refine Hs.en Tryz.func54 [] [] [] [.c (.v (AD p)),.g (mdS m)] (Mem.start0 w) ?_;refine Hs.e1 fun b0=>?_;refine Hs.cF ?_;refine Hs.e0 ?_;refine Hs.cP (m.kind=90) (fun h=>by rcases h1 with h1|h1<;>rw[h1] at h<;>cases h) (fun _=>?_);refine Hs.e0 ?_;refine Hs.cP (m.kind=80) (fun h=>by rcases h1 with h1|h1<;>rw[h1] at h<;>cases h) (fun _=>?_);refine Hs.e0 ?_;refine Hs.cP (m.kind=93) (fun _=>?_) (fun _=>?_)
 ·refine Hs.e0 ?_;refine Hs.cV (v:=.pointer none) (fun w' H=>(by_any M p m.chan w' (Blk.only (L:=[]) h.blk H.only (by simp)) (h.mn.only H.only (by simp)) (h.me.only H.only (by simp))).mono fun e w2 h=>by rw[hn] at h;exact h) ?_;refine Hs.e0 ?_;refine Hs.cF ?_;refine Hs.e0 ?_;exact Hs.rt (v:=.tuple #[]) Tryz.func54 fun w' H=>h.keep H.only _
 ·refine Hs.e0 ?_;refine Hs.cP (m.kind=98) (fun _=>?_) (fun h=>by rcases h1 with h1|h1<;>contradiction);refine Hs.e0 ?_;refine Hs.cV (v:=.pointer none) (fun w' H=>(by_any M p m.chan w' (Blk.only (L:=[]) h.blk H.only (by simp)) (h.mn.only H.only (by simp)) (h.me.only H.only (by simp))).mono fun e w2 h=>by rw[hn] at h;exact h) ?_;refine Hs.e0 ?_;refine Hs.cF ?_;refine Hs.e0 ?_;exact Hs.rt (v:=.tuple #[]) Tryz.func54 fun w' H=>h.keep H.only _
theorem says_end (M:WM) (p:Nat) (m:MD) (w:World) (h:WAt w p M) (h1:m.kind=93\/m.kind=98) (hm:U32 m.window) {k:Int} {b:Nat} {x:EN} (hn:M.by m.chan=some (k,(b,x))):Calls Tryz.prog 54 #[AD p,m.val] w (DF M p (FS M.abs m) (.tuple #[]) w):=by
 have hl:=WM.by_at hn;have A:=HH h.nd;have hbm:b∈fpA eFp M.ends:=BH hl (by simp[eFp]);have hb4:=A.fe b hbm;simp only[qC,List.not_mem_nil,or_false,not_or] at hb4;have h4:=A.four;simp only[List.nodup_cons,qC,List.not_mem_nil,or_false,not_or] at h4;have hB:=h.blk;have hE:Blk w b 185 x.cells:=h.es _ (CD hl);have eS:FS M.abs m = { M.abs with ends:=CG k (if m.kind=93 then { x with granted:=IntKind.u64.wrap (x.granted+m.window) } else { x with wants:=IntKind.i64.wrap (x.wants+b01 m.want) }) M.abs.ends }:=by
  have hS:byS M.abs m.chan=some (k,x):=by rw[WM.by_abs,hn];rfl
  unfold FS;rw[hS];rcases h1 with h1|h1;·rw[if_neg (by rw[h1];decide),if_neg (by rw[h1];decide),if_pos h1,if_pos h1]
  ·rw[if_neg (by rw[h1];decide),if_neg (by rw[h1];decide),if_neg (by rw[h1];decide),if_pos h1,if_neg (by rw[h1];decide)]
 rw[eS];have hmn:=h.mn;have hme:=h.me;have hby: ∀w',Only [p,b] w w'->Blk w' p 131 M.cells->Calls Tryz.prog 86 #[AD p,.int .u32 m.chan] w' fun e w2=>e = .returned (AD b)/\Only [] w' w2:=fun w' O hb'=>
  (by_any M p m.chan w' hb' (hmn.only O (by simp only[qC,List.not_mem_nil,or_false,not_or];exact⟨fun e=>h4.1.2.2 e.symm,fun e=>hb4.2.2.2 e.symm⟩)) (hme.only O (by simp only[qC,List.not_mem_nil,or_false,not_or];exact⟨fun e=>h4.1.2.1 e.symm,fun e=>hb4.2.2.1 e.symm⟩))).mono fun e w2 h=>by rw[hn] at h;exact h
 have hput:=fun(w':World) (x':EN) (O:Only [p,b] w w') hp hb=>h.putE (x':=x') O hl hp hb (.tuple #[]);have hnd:[p,b].Nodup:=by simp only[List.nodup_cons,qC,List.not_mem_nil,or_false,not_or,List.nodup_nil,not_false_eq_true,and_true];exact fun e=>hb4.1 e.symm
 clear hl hbm A eS;obtain⟨ob,eb,nb,opens,glob,ends,nums,dead⟩:=M;obtain⟨mk,chan,sender,window,packet,code,name,lang,want,dA,dc,data⟩:=m;obtain⟨xc,xg,xs,xp,xe,xd,xt,xw⟩:=x;dsimp only at *;refine Hs.en Tryz.func54 [p,b] [p,b] [.b true 131 (wS ⟨ob,eb,nb,opens,glob,ends,nums,dead⟩),.b true 185 (EN.sc ⟨xc,xg,xs,xp,xe,xd,xt,xw⟩)] [.c (.p 0 0),.g (mdS ⟨mk,chan,sender,window,packet,code,name,lang,want,dA,dc,data⟩)] (Mem.startN (β:=[p,b]) (hp:=[.b true 131 (wS ⟨ob,eb,nb,opens,glob,ends,nums,dead⟩),.b true 185 (EN.sc ⟨xc,xg,xs,xp,xe,xd,xt,xw⟩)]) rfl hnd ⟨hB,hE,trivial⟩) ?_;refine Hs.e1 fun b0=>?_;refine Hs.cF ?_;refine Hs.e0 ?_;refine Hs.cP (mk=90) (fun h=>by rcases h1 with h1|h1<;>rw[h1] at h<;>cases h) (fun _=>?_);refine Hs.e0 ?_;refine Hs.cP (mk=80) (fun h=>by rcases h1 with h1|h1<;>rw[h1] at h<;>cases h) (fun _=>?_);refine Hs.e0 ?_;refine Hs.cP (mk=93) (fun hk=>?_) (fun hk=>?_)
 ·rw[if_pos hk];refine Hs.e0 ?_;refine Hs.cV (v:=AD b) (fun w' H=>hby w' H.only (H.at 0 (wr:=true) (T:=131) (cs:=wS ⟨ob,eb,nb,opens,glob,ends,nums,dead⟩) (by kernel_rfl))) ?_;refine Hs.slot 49 (.c (.p 1 0)) (by kernel_rfl) (by kernel_rfl) ?_;refine Hs.e0 ?_;refine Hs.cT ?_;refine Hs.any [1,2,1010] (by kernel_rfl) ?_;refine Hs.e0 ?_;have hw:IntKind.u64.wrap window=window:=by rw[IntKind.wrap_u64];unfold U32 at hm;omega
  refine Hs.rt (v:=.tuple #[]) Tryz.func54 fun w' H=>?_;refine hput w' _ H.only (H.at 0 (wr:=true) (T:=131) (cs:=wS ⟨ob,eb,nb,opens,glob,ends,nums,dead⟩) (by kernel_rfl)) ?_;have:=H.at 1 (wr:=true) (T:=185) (cs:=EN.sc ⟨xc,IntKind.u64.wrap (xg+IntKind.u64.wrap window),xs,xp,xe,xd,xt,xw⟩) (by kernel_rfl);rw[hw] at this;exact this
 ·have hk98:mk=98:=h1.resolve_left hk;rw[if_neg hk];refine Hs.e0 ?_;refine Hs.cP (mk=98) (fun _=>?_) (fun h=>absurd hk98 h);refine Hs.e0 ?_;refine Hs.cV (v:=AD b) (fun w' H=>hby w' H.only (H.at 0 (wr:=true) (T:=131) (cs:=wS ⟨ob,eb,nb,opens,glob,ends,nums,dead⟩) (by kernel_rfl))) ?_;refine Hs.slot 67 (.c (.p 1 0)) (by kernel_rfl) (by kernel_rfl) ?_;refine Hs.e0 ?_;refine Hs.cT ?_;refine Hs.any [1,2,1010] (by kernel_rfl) ?_;refine Hs.e0 ?_;refine Hs.cV (fun w' H=>one_any want w') ?_;refine Hs.e0 ?_;exact Hs.rt (v:=.tuple #[]) Tryz.func54 fun w' H=>hput w' _ H.only (H.at 0 (wr:=true) (T:=131) (cs:=wS ⟨ob,eb,nb,opens,glob,ends,nums,dead⟩) (by kernel_rfl)) (H.at 1 (wr:=true) (T:=185) (cs:=EN.sc ⟨xc,xg,xs,xp,xe,xd,xt,IntKind.i64.wrap (xw+b01 want)⟩) (by kernel_rfl))
theorem says_any (M:WM) (p:Nat) (m:MD) (w:World) (h:WAt w p M) (hf:FewW M) (hm:U32 m.window):Calls Tryz.prog 54 #[AD p,m.val] w (DF M p (FS M.abs m) (.tuple #[]) w):=by
 by_cases h90:m.kind=90
 ·exact says_open M p m w h hf h90
 by_cases h80:m.kind=80
 ·exact iA M p m w h h80
 by_cases hh:m.kind=93\/m.kind=98
 ·cases e:M.by m.chan with
  |none=>exact kR M p m w h hh e
  |some x=>exact says_end M p m w h hh hm e
 ·exact says_none M p m w h h90 h80 (fun e=>hh (.inl e)) (fun e=>hh (.inr e))
end Go.Proofs.YtfbhemmpobgdpaaGreatDoor
