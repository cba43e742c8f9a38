/- TracePlays: lemmas, from 'A machine of symbols: single operations by hand, guards, loo' on; what each asks for stands in it. -/
import Derived.Test.YtkgikodiecmakaaGreatDoorTpE
import Derived.Test.YtkgikodiecmakaaGreatDoorTpB
import Derived.Lib.Overlaps
import Derived.Lib.AppendZerosOnto
import Derived.MapKept
set_option linter.all false
set_option maxRecDepth 100000
set_option maxHeartbeats 64000000
namespace Go.Proofs.YtkgikodiecmakaaGreatDoor
section
variable {P : Program} {f : FuncId} {R : Ending → World → Prop} {n : Nat} {w0 : World} {L : List Nat} {β : List Nat} {m : SM}
def IY (s:Sem Value):Sem Next:=s >>= fun v=>pure (.value v)
def UH (s:Sem Unit):Sem Next:=s >>= fun _=>pure .skip
def FN (n:Nat) (β:List Nat) (m:SM):Option (Sem Next):=match EB m with
 |some o=>match gOk m o with
  |true=>some (execOp (fun x=>(evS n m.sl x).den β) o)
  |false=>none
 |none=>none
theorem KP {s:Sem Next} (h:FN n β m=some s): ∃o,EB m=some o∧gOk m o=true∧execOp (fun x=>(evS n m.sl x).den β) o=s∧BF m=o.dst:=by
 unfold FN at h;split at h
 ·rename_i o ho;split at h
  ·rename_i hg;injection h with h;exact⟨o,ho,hg,h,by unfold BF;rw[ho]⟩
  ·cases h
 ·cases h
theorem Hs.opV {s:Sem Value} (v:SV) (hs:FN n β m=some (IY s)) (hv:v.wf m.hp.length=true) (h: ∀w,Mem w0 L β m.hp w→s.run P w = .ok (v.den β) w) (k:Hs P f R n w0 L β (m.put (BF m) v m.hp)):Hs P f R n w0 L β m:=by
 obtain⟨o,ho,hg,he,hd⟩:=KP hs;refine⟨fun w H W=>?_⟩;rw[hd] at k;refine Gs.val ho hg ?_ (k.go w H ?_);·rw[he];simp only[IY,Sem.run_bind,h w H,Result.andThen_ok,Sem.run_pure]
 ·simp only[SM.wf,SM.put,Bool.and_eq_true];exact⟨EQ (SM.wf_sl W) hv,SM.wf_hp W⟩
theorem Hs.opW {s:Sem Value} (hs:FN n β m=some (IY s)) (h: ∀w,Mem w0 L β m.hp w→m.wf=true→∃(ν:List Nat) (res:SV) (hp':List HB) (w':World),s.run P w = .ok (res.den (β++ν)) w'∧Mem w0 L (β++ν) hp' w'∧(res.wf hp'.length&&(Nat.ble m.hp.length hp'.length&&hp'.all (HB.wf hp'.length)))=true∧(∀k∈FS m,∀h,m.hp[k]? = some h→hp'[k]? = some h)∧Hs P f R n w0 L (β++ν) (m.put (BF m) res hp')):Hs P f R n w0 L β m:=by
 obtain⟨o,ho,hg,he,hd⟩:=KP hs;refine⟨fun w H W=>?_⟩;rw[hd] at h;obtain⟨ν,res,hp',w',h1,H',hw,hrd,hG⟩:=h w H W;refine Gs.op ho hg ?_;unfold Oper.wp;rw[FO,he];simp only[IY,Sem.run_bind,h1,Result.andThen_ok,Sem.run_pure,Oper.upon_value];simp only[Bool.and_eq_true,Nat.ble_eq] at hw;refine⟨β++ν,QX o.dst res m.sl,hp',?_,fun w2 hI=>IR.app H.len (SM.wf_hp W) hrd hI,hG.go w' H' ?_⟩;·rw[←XO n ν (by rw[H.len];exact SM.wf_sl W),←FR]
 ·simp only[SM.wf,SM.put,Bool.and_eq_true];exact⟨EQ (Slots.wf_mono hw.2.1 (SM.wf_sl W)) hw.1,hw.2.2⟩
theorem Hs.opU {s:Sem Unit} (hs:FN n β m=some (UH s)) (h: ∀w,Mem w0 L β m.hp w→m.wf=true→∃(hp':List HB) (w':World),s.run P w = .ok () w'∧Mem w0 L β hp' w'∧(Nat.ble m.hp.length hp'.length&&hp'.all (HB.wf hp'.length))=true∧(∀k∈FS m,∀h,m.hp[k]? = some h→hp'[k]? = some h)∧Hs P f R n w0 L β (m.put (BF m) (.c (.v undef)) hp')):Hs P f R n w0 L β m:=by
 obtain⟨o,ho,hg,he,hd⟩:=KP hs;refine⟨fun w H W=>?_⟩;rw[hd] at h;obtain⟨hp',w',h1,H',hw,hrd,hG⟩:=h w H W;refine Gs.op ho hg ?_;unfold Oper.wp;rw[FO,he];simp only[UH,Sem.run_bind,h1,Result.andThen_ok,Sem.run_pure,Oper.upon_skip];simp only[Bool.and_eq_true,Nat.ble_eq] at hw;refine⟨β,_,hp',FR n β m.sl o.dst (.c (.v undef)),fun w2 hI=>?_,hG.go w' H' ?_⟩
 ·have:β=β++[]:=by simp
  rw[this] at hI;exact IR.app H.len (SM.wf_hp W) hrd hI
 ·simp only[SM.wf,SM.put,Bool.and_eq_true];exact⟨EQ (Slots.wf_mono hw.1 (SM.wf_sl W)) rfl,hw.2⟩
theorem Hs.slot (d:Nat) (v:SV) (hv:v.wf m.hp.length=true) (h:(m.sl.at d).den β=v.den β) (k:Hs P f R n w0 L β ⟨m.r,m.todo,.put d v m.sl,m.hp⟩):Hs P f R n w0 L β m:=by
 have e:fr n β (.put d v m.sl)=fr n β m.sl:=by
  unfold fr;rw[show(Slots.put d v m.sl).ds=m.sl.ds from rfl];congr 2
  refine List.map_congr_left fun i _=>?_;rw[Slots.at_put];split;·rename_i hi;subst hi;exact h.symm
  ·rfl
 refine⟨fun w H W=>?_⟩;have g:=k.go w H (by
  simp only[SM.wf,Bool.and_eq_true,Slots.wf];exact⟨⟨hv,SM.wf_sl W⟩,SM.wf_hp W⟩)
 obtain⟨r,todo,sl,hp⟩:=m;unfold Gs at g⊢;dsimp only at g⊢;rw[e] at g;exact g
theorem Hs.bool (d:Nat) (b:Bool) (h:(m.sl.at d).den β = .bool b) (ht:b=true→Hs P f R n w0 L β ⟨m.r,m.todo,.put d (.c (.v (.bool true))) m.sl,m.hp⟩) (hf:b=false→Hs P f R n w0 L β ⟨m.r,m.todo,.put d (.c (.v (.bool false))) m.sl,m.hp⟩):Hs P f R n w0 L β m:=by
 cases b;·exact Hs.slot d (.c (.v (.bool false))) rfl h (hf rfl)
 ·exact Hs.slot d (.c (.v (.bool true))) rfl h (ht rfl)
def UG (i:Nat) (v:SV) (m:SM):SM:=match m.r with
 | .any ops (fuel+1) lm rd=>⟨.any ops fuel (EY lm i) rd,m.todo,QX ((ops[i]?).bind (·.dst)) v m.sl,m.hp⟩
 |_=>m
def WU (i:Nat) (n:Nat) (β:List Nat) (m:SM):Option (Sem Next×List Nat):=match m.r with
 | .any ops (_+1) lm rd=>match ops[i]? with
  |some o=>match o.guard with
   |none=>match(QY lm ops.toList 0).contains i&&(VT ops lm i o ops.toList 0&&YJ ops lm rd i) with
    |true=>some (execOp (fun x=>(evS n m.sl x).den β) o,rdE ops lm rd)
    |false=>none
   |some _=>none
  |none=>none
 |_=>none
theorem Hs.takeV (i:Nat) {s:Sem Value} {rd:List Nat} (v:SV) (hs:WU i n β m=some (IY s,rd)) (hv:v.wf m.hp.length=true) (h: ∀w,IR β m.hp rd w→s.run P w = .ok (v.den β) w) (k:Hs P f R n w0 L β (UG i v m)):Hs P f R n w0 L β m:=by
 refine⟨fun w H W=>?_⟩;have hI: ∀rd,IR β m.hp rd w:=fun _ k _ h hh=>H.lies k h hh;obtain⟨r,todo,sl,hp⟩:=m;unfold WU at hs;dsimp only at hs;split at hs
 ·rename_i ops fuel lm rd';split at hs
  ·rename_i o ho;split at hs
   ·rename_i hg;split at hs
    ·rename_i hcond;injection hs with hs;injection hs with hs1 hs2;subst hs2;simp only[Bool.and_eq_true] at hcond;obtain⟨hmem,hfree,hrb⟩:=hcond;intro hcl hlm hns;have hil:i<ops.size:=(Array.getElem?_eq_some_iff.1 ho).1;have hready:i∈Region.ready .any ops (AP ops.size lm):=by rw[EX hlm];simpa using hmem
     have hcl':EW .any ops (AP ops.size (EY lm i)):=by rw[←DX hil];exact hcl.set hready
     have g:=k.go w H (by
      simp only[SM.wf,UG,Bool.and_eq_true];exact⟨EQ (SM.wf_sl W) hv,SM.wf_hp W⟩)
     have g2:=g hcl' (hlm.set hil) hns;simp only[UG,ho,Option.bind_some] at g2;have hap: ∀j oj,ops[j]? = some oj→j≠i→(AP ops.size lm).getD j true=false→(∀e∈oj.after,Region.binds .any e=true→e.on≠i)→o.apart ops oj=true:=fun j oj hj hne hun hno=>by
      refine MK ops.toList 0 hfree j oj (by simpa using hj) ?_ (by simpa using hne) hno;rw[Nat.zero_add];exact(GK.1 hun).2
     have g3:AY P .any ops (QQ P f R todo) (IR β hp (LJ rd')) (QS rd') fuel ((AP ops.size lm).setIfInBounds i true) ((fr n β sl).put o.dst (v.den β)) w:=by
      rw[DX hil,FR];exact g2
     have hyld: ∀w',IR β hp (rdE ops lm rd') w'→YieldsAt P ops w' o (v.den β) (fr n β sl):=fun w' hI'=>.inl ⟨by simp[Region.wanted,hg],.inl (by
      rw[FO,hs1];simp only[IY,Sem.run_bind,h w' hI',Result.andThen_ok,Sem.run_pure])⟩
     unfold rdE at hyld;cases hb:hitB ops lm rd' with
     |true=>
      rw[hb] at hyld;refine KT _ _ _ _ (YA hb) ?_;exact takeE (v:=v.den β) ho (Region.noSelect_spec hns) (fun c a w hp=>by cases hp.1) 0 (fun e he=>by cases he) fuel _ _ w hcl (fun e he=>by cases he) trivial hap hready (fun w' _=>hyld w' (fun k hk=>by cases hk)) (JF _ _ _ _ g3)
     |false=>
      rw[hb] at hyld;unfold YJ at hrb;rw[hb,Bool.false_or] at hrb;exact takeE (v:=v.den β) ho (Region.noSelect_spec hns) (fun c a w hp=>by cases hp.1) ops.size (fun e he=>List.all_eq_true.1 hrb e he) fuel _ _ w hcl (noE_of hb) (hI _) hap hready (fun w' hI'=>hyld w' hI') g3
    ·cases hs
   ·cases hs
  ·cases hs
 ·cases hs
/-! Where a piece of code begins again. -/
inductive HV where
  | no
  | r (wr : Bool) (T : TypeId) (vs : List Value)
  | s (A : Option Addr) (cap n E size : Nat) (vs : List Value)
  | q (wr : Bool) (A : Option Addr) (Q : World → Prop)
def HB.val (β:List Nat):HB→HV
 | .no=>.no
 | .b wr T cs=>.r wr T (DJ β cs)
 | .r wr T vs=>.r wr T vs
 | .s A cap n E size vs=>.s A cap n E size vs
 | .q wr A Q _=>.q wr A Q
def hpAt (β:List Nat) (hp:List HB) (k:Nat):HV:=match hp[k]? with
 |some h=>h.val β
 |none=>.no
def GV:List (Nat×SV)→Slots→Slots
 |[],l=>l
 |(d,v)::ps,l=>.put d v (GV ps l)
theorem HB.val_lies {w:World} {β β':List Nat} {b:Nat} {h h':HB} (e:h.val β=h'.val β'):h.lies w β b↔h'.lies w β' b:=by
 cases h<;>cases h'<;>simp only[HB.val,HV.r.injEq,HV.s.injEq,HV.q.injEq,reduceCtorEq] at e<;>simp only[HB.lies]<;>first
  |(obtain⟨rfl,rfl,rfl⟩:=e;exact Iff.rfl)
  |(obtain⟨_,rfl,e⟩:=e;rw[e])
  |(obtain⟨rfl,rfl,rfl,rfl,rfl,rfl⟩:=e;exact Iff.rfl)
theorem HB.val_wr {β β':List Nat} {h h':HB} (e:h.val β=h'.val β'):h.wr=h'.wr:=by
 cases h<;>cases h'<;>simp only[HB.val,HV.r.injEq,HV.s.injEq,HV.q.injEq,reduceCtorEq] at e<;>first|rfl|exact e.1
theorem HB.val_blk {β β':List Nat} {b:Nat} {h h':HB} (e:h.val β=h'.val β'):h.blk b=h'.blk b:=by
 cases h<;>cases h'<;>simp only[HB.val,HV.r.injEq,HV.s.injEq,HV.q.injEq,reduceCtorEq] at e<;>first|rfl|(obtain⟨rfl,_⟩:=e;rfl)|(obtain⟨_,rfl,_⟩:=e;rfl)
theorem Mem.sub {w:World} {hp hp':List HB} (H:Mem w0 L β hp w) (ks:List Nat) (hn:ks.Nodup) (he:hp'.map (HB.val (ks.map (nm β)))=ks.map (hpAt β hp)):Mem w0 L (ks.map (nm β)) hp' w:=by
 have hlen:hp'.length=ks.length:=by simpa using congrArg List.length he
 have key: ∀(k:Nat) (h':HB),hp'[k]? = some h'→h'.blk 0=h'.blk 0∧(h' = .no∨∃i h,ks[k]? = some i∧hp[i]? = some h∧h.val β=h'.val (ks.map (nm β))∧nm (ks.map (nm β)) k=nm β i):=fun k h' hk=>by
  refine⟨rfl,?_⟩;have hkl:k<ks.length:=by rw[←hlen];exact(List.getElem?_eq_some_iff.1 hk).1
  have h1:=congrArg (·[k]?) he;simp only[List.getElem?_map,hk,List.getElem?_eq_getElem hkl,Option.map_some,Option.some.injEq] at h1;cases hi:hp[ks[k]]? with
  |none=>
   simp only[hpAt,hi] at h1;cases h'<;>simp[HB.val] at h1
   exact .inl rfl
  |some h=>
   simp only[hpAt,hi] at h1;exact .inr ⟨ks[k],h,List.getElem?_eq_getElem hkl,hi,h1.symm,by simp[nm,List.getD,hkl]⟩
 refine⟨H.only,by simp[hlen],fun k h' hk=>?_,fun k h' x hk hw hx=>?_,fun i j hi hj x ei ej li lj=>?_⟩
 ·rcases(key k h' hk).2 with rfl|⟨i,h,_,h2,h3,h4⟩;·trivial
  ·rw[h4];exact(HB.val_lies h3).1 (H.lies i h h2)
 ·rcases(key k h' hk).2 with rfl|⟨i,h,_,h2,h3,h4⟩;·cases hw
  ·rw[h4,←HB.val_blk h3] at hx;exact H.own i h x h2 (by rw[HB.val_wr h3];exact hw) hx
 ·rcases(key i hi ei).2 with rfl|⟨a,h,h1,h2,h3,h4⟩;·cases li
  ·rcases(key j hj ej).2 with rfl|⟨a',h',h1',h2',h3',h4'⟩;·cases lj
   ·rw[h4,←HB.val_blk h3] at li;rw[h4',←HB.val_blk h3'] at lj;have e:=H.inj a a' h h' x h2 h2' li lj;subst e;exact(List.getElem?_inj (List.getElem?_eq_some_iff.1 h1).1 hn).1 (h1.trans h1'.symm)
theorem pins_at (ps:List (Nat×SV)) (l:Slots) (i:Nat):(GV ps l).at i=match ps.find? (fun p=>decide (i=p.1)) with|some p=>p.2|none=>l.at i:=by
 induction ps with
 |nil=>rfl
 |cons p ps ih=>
  obtain⟨d,v⟩:=p;show(Slots.put d v (GV ps l)).at i=_;rw[Slots.at_put];by_cases h:i=d
  ·simp[h]
  ·simp[h,ih]
theorem pins_ds: ∀(ps:List (Nat×SV)) (l:Slots),(GV ps l).ds=l.ds
 |[],_=>rfl
 |(_,_)::ps,l=>pins_ds ps l
theorem Hs.goto (T:List Item) (ks:List Nat) (hp':List HB) (ps:List (Nat×SV)) (hT:(match m.r with | .no=>(match m.sl.ds with|[]=>some m.todo|_=>none)|_=>none)=some T) (hn:ks.Nodup) (he:hp'.map (HB.val (ks.map (nm β)))=ks.map (hpAt β m.hp))
  (hs:ps.map (fun p=>p.2.den (ks.map (nm β)))=ps.map (fun p=>(m.sl.at p.1).den β)) (hw: ∀u,(SM.wf ⟨.no,T,GV ps (.vals u),hp'⟩)=true) (h: ∀u,Hs P f R n w0 L (ks.map (nm β)) ⟨.no,T,GV ps (.vals u),hp'⟩):Hs P f R n w0 L β m:=by
 refine⟨fun w H W=>?_⟩;have g:=(h fun i=>(m.sl.at i).den β).go w (H.sub ks hn he) (hw _);obtain⟨r,todo,sl,hp⟩:=m;dsimp only at hT;split at hT
 ·split at hT;rotate_left
  ·cases hT
  rename_i hds;injection hT with hT;subst hT;have e:fr n (ks.map (nm β)) (GV ps (.vals fun i=>(sl.at i).den β))=fr n β sl:=by
   unfold fr;rw[pins_ds,hds];show Act.mk _ _=Act.mk _ _;congr 2
   refine List.map_congr_left fun i _=>?_;rw[pins_at];split
   ·rename_i p hp;have h1:=List.mem_of_find?_eq_some hp;have h2:=List.find?_some hp;simp only[decide_eq_true_eq] at h2;have h3:=List.map_inj_left.1 hs p h1;rw[h2];exact h3
   ·rfl
  show FF P f R todo (fr n β sl) w;unfold Gs at g;dsimp only at g;rw[e] at g;exact g
 ·cases hT
def JA:Code→List Item→List (List Item)
 | .seq a b,k=>JA a (.code b::k)++JA b k
 | .cond _ x y,k=>JA x k++JA y k
 | .block id c,k=>JA c (.inBlock id::k)
 | .scope c,k=>JA c (.inScope c::k)
 | .loop c,k=>(.code c :: .inLoop c::k)::JA c (.inLoop c::k)
 |_,_=>[]
def BP (fn:Func) (j:Nat):List Item:=match(JA (MG fn) [])[j]? with
 |some l=>l
 |none=>[]
theorem Hs.callQ {X:Type} (Ao:X→Option Addr) (v:X→Value) (Q:X→World→Prop) (st: ∀x (w w':World),(∀a,Ao x=some a→w'.heap[a.block]? = w.heap[a.block]?)→w.heap.size≤w'.heap.size→Q x w→Q x w') {F:FuncId} {args:Array Value}
  (hC: ∀w,Mem w0 L β m.hp w→Calls P F args w fun e w'=>∃x,e = .returned (v x)∧Only [] w w'∧Q x w'∧∀a,Ao x=some a→w.heap.size≤a.block∧a.block<w'.heap.size) (hc:EO P n β m=some (F,args)) (hrd:(FS m).all (fun k=>Nat.blt k m.hp.length)=true)
  (h: ∀x,Hs P f R n w0 L (β++[0]) (m.put (BF m) (.c (.v (v x))) (m.hp++[.q true (Ao x) (Q x) (st x)]))):Hs P f R n w0 L β m:=by
 refine⟨fun w H W=>?_⟩;refine(Hs.call hc (fun w H=>?_)).go w H W;refine Calls.mono (hC w H) ?_;rintro e w' ⟨x,rfl,O,hQ,hA⟩;have hw:=SM.wf_hp W;refine⟨[0],.c (.v (v x)),m.hp++[.q true (Ao x) (Q x) (st x)],rfl,H.push (h:=.q true (Ao x) (Q x) (st x)) (by rw[H.len];exact hw) O (fun y hy=>?_) (show Q x w'∧_ from⟨hQ,fun a ha=>(hA a ha).2⟩),?_,fun k hk h hh=>?_,h x⟩
 ·simp only[HB.blk,Option.map_eq_some_iff] at hy;obtain⟨a,hx,rfl⟩:=hy;exact(hA a hx).1
 ·simp only[SV.wf,SC.wf,Bool.true_and,Bool.and_eq_true,Nat.ble_eq,List.length_append,List.length_cons,List.length_nil,List.all_append,List.all_cons,List.all_nil,Bool.and_true];refine⟨by omega,List.all_eq_true.2 fun y hy=>?_,rfl⟩;have h1:=List.all_eq_true.1 hw y hy;cases y with
  |no=>rfl
  |s=>rfl
  |q=>rfl
  |r _ _ _=>rfl
  |b _ _ cs=>exact List.all_eq_true.2 fun z hz=>SC.wf_mono (by omega) (List.all_eq_true.1 h1 z hz)
 ·rw[List.getElem?_append_left (List.getElem?_eq_some_iff.1 hh).1];exact hh
/-! Slices of our own. -/
theorem Hs.nilS (E size:Nat) (hr:(FS m).all (fun k=>Nat.blt k m.hp.length)=true) (h:Hs P f R n w0 L (β++[0]) ⟨m.r,m.todo,m.sl,m.hp++[.s none 0 0 E size []]⟩) (hno:(match m.r with | .no=>true | .lst .. =>true | .lstN .. =>true|_=>false)=true):Hs P f R n w0 L β m:=by
 refine⟨fun w H W=>?_⟩;have hw:=SM.wf_hp W;have H2:Mem w0 L (β++[0]) (m.hp++[.s none 0 0 E size []]) w:=H.push (by rw[H.len];exact hw) (Only.refl _ _) (fun x hx=>by cases hx) ⟨by simp,.inl ⟨rfl,rfl⟩⟩;have g:=h.go w H2 (by
  simp only[SM.wf,Bool.and_eq_true,List.length_append,List.length_cons,List.length_nil,List.all_append,List.all_cons,List.all_nil,Bool.and_true];refine⟨Slots.wf_mono (by omega) (SM.wf_sl W),List.all_eq_true.2 fun x hx=>?_,rfl⟩;have h1:=List.all_eq_true.1 hw x hx;cases x with
  |no=>rfl
  |s=>rfl
  |q=>rfl
  |r _ _ _=>rfl
  |b _ _ cs=>exact List.all_eq_true.2 fun y hy=>SC.wf_mono (by omega) (List.all_eq_true.1 h1 y hy))
 have e:fr n (β++[0]) m.sl=fr n β m.sl:=XO n [0] (by rw[H.len];exact SM.wf_sl W);obtain⟨r,todo,sl,hp⟩:=m;unfold Gs at g⊢;dsimp only at g⊢e hno;rw[e] at g;split at hno<;>first|exact g|cases hno
section
variable {α : Type} {cf : α → List Value} {tS E size bytes : Nat}
theorem FZ (hcl: ∀x,(cf x).length=size) (gs:List α):(gs.flatMap cf).length=gs.length*size:=by
 induction gs with
 |nil=>simp
 |cons a r ih=>rw[List.flatMap_cons,List.length_append,hcl,ih,List.length_cons,Nat.succ_mul];omega
theorem Hs.app (k:Nat) (ht:ElemT P tS E size bytes) (l gs:List α) (nl ng:Nat) (hl:l.length=nl) (hg:gs.length=ng) {A B:Option Addr} {cap c ty:Nat} (hone: ∀x,∀u∈cf x,u.oneCell'=true) (hcl: ∀x,(cf x).length=size)
  (hs:FN n β m=some (IY (Builtin.append_ #[tS,tS] ty #[.slice A nl cap,.slice B ng c]))) (hk:m.hp[k]? = some (.s A cap nl E size (l.flatMap cf))) (hrd:(FS m).contains k=false)
  (hr: ∀w,Mem w0 L β m.hp w→RdX cf w B gs) (hlen:nl+ng≤maxLen) (hby:(nl+ng)*bytes≤140737488355328)
  (h: ∀A' cap',cap'≤maxLen→Hs P f R n w0 L β (m.put (BF m) (.c (.v (.slice A' (nl+ng) cap'))) (m.hp.set k (.s A' cap' (nl+ng) E size ((l++gs).flatMap cf))))):Hs P f R n w0 L β m:=by
 obtain⟨o,ho,hgk,he,hd⟩:=KP hs;refine⟨fun w H W=>?_⟩;have hown:BK cf E size w 0 (.slice A nl cap) l:=by
  unfold BK;rw[hl];exact H.lies k _ hk
 subst hl;subst hg;obtain⟨v',w',h1,h2,h3,h4⟩:=OG (ty:=ty) ht hone hown B c gs (FZ hcl gs) (hr w H) hlen hby (Nat.zero_le _);obtain⟨A',cap',rfl,_,hmax,_,hblk⟩:=h2.form;rw[hd] at h;have h:=h A' cap' hmax;have hlen2:(l++gs).length=l.length+gs.length:=by simp
 rw[hlen2] at h1 h4;have hkl:=(List.getElem?_eq_some_iff.1 hk).1;have H':Mem w0 L β (m.hp.set k (.s A' cap' (l.length+gs.length) E size ((l++gs).flatMap cf))) w':=by
  refine H.swap k hk h3 (fun x hx=>?_) rfl ?_ (fun x hx=>?_)
  ·cases A with
   |none=>simp[Value.ownBlock] at hx
   |some a=>simp only[Value.ownBlock,Option.toList_some,List.mem_singleton] at hx;subst hx;rfl
  ·have h5:=h2;unfold BK at h5;rw[hlen2] at h5;exact h5
  ·have hb:Value.ownBlock (.slice A' (l.length+gs.length) cap')=some x:=by
    cases A' with
    |none=>cases hx
    |some a=>simp only[HB.blk,Option.map_some] at hx;exact hx
   rcases h4 with h4|h4
   ·left;rw[h4] at hb;cases A with
    |none=>cases hb
    |some a=>exact hb
   ·right;rw[h4] at hb;injection hb with hb;omega
 refine Gs.op ho hgk ?_;unfold Oper.wp;rw[FO,he];simp only[IY,Sem.run_bind,h1,Result.andThen_ok,Sem.run_pure,Oper.upon_value];refine⟨β,_,_,FR n β m.sl o.dst (.c (.v (.slice A' (l.length+gs.length) cap'))),fun w2 hI=>?_,h.go w' H' ?_⟩
 ·intro i hi hb hh;refine hI i hi hb ?_;rw[List.getElem?_set,if_neg (fun e=>by
   subst e;simp at hrd;exact hrd hi)]
  exact hh
 ·simp only[SM.wf,SM.put,Bool.and_eq_true,List.length_set];refine⟨EQ (SM.wf_sl W) rfl,List.all_eq_true.2 fun x hx=>?_⟩;rcases List.mem_or_eq_of_mem_set hx with hx|rfl;·exact List.all_eq_true.1 (SM.wf_hp W) x hx
  ·rfl
end
end
end Go.Proofs.YtkgikodiecmakaaGreatDoor
namespace Go.Proofs.YtkgikodiecmakaaGreatDoor
section
variable {P : Program} {f : FuncId} {R : Ending → World → Prop} {n : Nat} {w0 : World} {L : List Nat} {β : List Nat} {m : SM}
theorem run_idx {tS E size bytes:Nat} (ht:ElemT P tS E size bytes) {b off len c i:Nat} (hi:i<len) (w:World):(Instr.indexAt tS (.slice (some ⟨b,off,none⟩) len c) (.int .i64 i)).run P w = .ok (.pointer (some ⟨b,off+i*size,none⟩)) w:=by
 obtain⟨hu,⟨i0,z,hinfo,_,hsz,_⟩,_⟩:=ht;have h1:(0:Int)≤(i:Int)∧(i:Int)<(len:Int):=⟨by omega,by omega⟩;simp[Instr.indexAt,asIntOf,run_underlying hu,sizeOf,typeInfo,hinfo,hsz,h1,hi,Addr.add_mid]
theorem Hs.idx {tS E size bytes:Nat} (ht:ElemT P tS E size bytes) {b off len c i:Nat} (hi:i<len) (hs:FN n β m=some (IY (Instr.indexAt tS (.slice (some ⟨b,off,none⟩) len c) (.int .i64 i)))) (h:Hs P f R n w0 L β (m.put (BF m) (.c (.v (.pointer (some ⟨b,off+i*size,none⟩)))) m.hp)):Hs P f R n w0 L β m:=
 Hs.opV _ hs rfl (fun w _=>run_idx ht hi w) h
theorem WO {α:Type} {cf:α→List Value} {size:Nat} (hcl: ∀x,(cf x).length=size) {w:World} {b off:Nat} {l:List α} {i:Nat} {x:α} (hr:RdX cf w (some ⟨b,off,none⟩) l) (hx:l[i]? = some x):w.rangeAt b (off+i*size) (cf x):=fun j v hj=>by
 have hil:=(List.getElem?_eq_some_iff.1 hx).1;obtain⟨b',off',e,_,hc⟩:=hr (by omega);injection e with e;injection e with e1 e2;subst e1;subst e2;rw[Nat.add_assoc];refine hc _ v ?_;have key: ∀(l:List α) (i:Nat),l[i]? = some x→(l.flatMap cf)[i*size+j]? = some v:=by
  intro l;induction l with
  |nil=>intro i h;simp at h
  |cons a r ih=>
   intro i h;cases i with
   |zero=>
    simp at h;subst h;rw[List.flatMap_cons,List.getElem?_append_left (by have:=(List.getElem?_eq_some_iff.1 hj).1;omega),Nat.zero_mul,Nat.zero_add];exact hj
   |succ i=>
    simp at h;rw[List.flatMap_cons,List.getElem?_append_right (by rw[hcl,Nat.succ_mul];omega),hcl,show(i+1)*size+j-size=i*size+j by rw[Nat.succ_mul];omega];exact ih i h
 exact key l i hx
theorem Hs.ldx {α:Type} {cf:α→List Value} {size:Nat} (hcl: ∀x,(cf x).length=size) {E b off i:Nat} {l:List α} {x:α} (v:SV) (hs:FN n β m=some (IY (Instr.loadAt E (.pointer (some ⟨b,off+i*size,none⟩))))) (hr: ∀w,Mem w0 L β m.hp w→RdX cf w (some ⟨b,off,none⟩) l) (hx:l[i]? = some x) (ha:aggB P E=some true) (hz:szB P E=some size) (hv:v.den β = .agg (cf x).toArray) (hw:v.wf m.hp.length=true)
  (h:Hs P f R n w0 L β (m.put (BF m) v m.hp)):Hs P f R n w0 L β m:=
 Hs.opV v hs hw (fun w H=>by
  obtain⟨d,hu,hd⟩:=ZR ha;rw[hv];exact run_loadAt_mid w b _ E (cf x) d (WO hcl (hr w H) hx) hu hd (by rw[bP hz,hcl])) h
theorem Hs.callX {X:Type} (v:X→Value) (Q:X→Prop) {F:FuncId} {args:Array Value} (hC: ∀w,Mem w0 L β m.hp w→Calls P F args w fun e w'=>∃x,e = .returned (v x)∧Only [] w w'∧Q x) (hc:EO P n β m=some (F,args)) (h: ∀x,Q x→Hs P f R n w0 L β (m.put (BF m) (.c (.v (v x))) m.hp)):Hs P f R n w0 L β m:=by
 refine⟨fun w H W=>?_⟩;refine(Hs.call hc (fun w H=>?_)).go w H W;refine Calls.mono (hC w H) ?_;rintro e w' ⟨x,rfl,O,hQ⟩;refine⟨[],.c (.v (v x)),m.hp,rfl,by rw[List.append_nil];exact H.step O,?_,fun k _ h hh=>hh,by rw[List.append_nil];exact h x hQ⟩;simp only[SV.wf,SC.wf,Bool.true_and,Bool.and_eq_true,Nat.ble_eq];exact⟨Nat.le_refl _,SM.wf_hp W⟩
end
theorem Hs.gt {P:Program} {f:FuncId} {R:Ending→World→Prop} {n:Nat} {w0:World} {L β:List Nat} {m:SM} (T:List Item) (ks:List Nat) (hp':List HB) (ps:List (Nat×SV)) (h: ∀u,Hs P f R n w0 L (ks.map (nm β)) ⟨.no,T,GV ps (.vals u),hp'⟩) (hT:(match m.r with | .no=>(match m.sl.ds with|[]=>some m.todo|_=>none)|_=>none)=some T:=by kernel_rfl) (hn:ks.Nodup:=by decide) (he:hp'.map (HB.val (ks.map (nm β)))=ks.map (hpAt β m.hp):=by kernel_rfl) (hs:ps.map (fun p=>p.2.den (ks.map (nm β)))=ps.map (fun p=>(m.sl.at p.1).den β):=by kernel_rfl) (hw: ∀u,(SM.wf ⟨.no,T,GV ps (.vals u),hp'⟩)=true:=by intro _;kernel_rfl):Hs P f R n w0 L β m:=Hs.goto T ks hp' ps hT hn he hs hw h
end Go.Proofs.YtkgikodiecmakaaGreatDoor
namespace Go.Proofs.YtkgikodiecmakaaGreatDoor
open Go.RowKit
section
variable {P : Program} {f : FuncId} {R : Ending → World → Prop} {n : Nat} {w0 : World} {L : List Nat} {β : List Nat} {m : SM}
/-! Into a call. -/
theorem Hs.enterM {fn:Func} {args:Array Value} {w:World} (hf:P.funcs[f]? = some fn) (hp:List HB) (xs:List SV) (H:Mem w0 L β hp w) (hc:(Nat.ble xs.length fn.ntmps&&(fn.body.isSome&&(JN fn xs hp).wf))=true) (ha:args=(xs.map (SV.den β)).toArray) (h:Hs P f R fn.ntmps w0 L β (JN fn xs hp)):Calls P f args w R:=by
 simp only[Bool.and_eq_true,Nat.ble_eq] at hc;obtain⟨h2,h3,h4⟩:=hc;obtain⟨c,hb⟩:=Option.isSome_iff_exists.1 h3;have e:MG fn=c:=by unfold MG;rw[hb]
 have g:=h.go w H h4;unfold Gs JN at g;dsimp only at g;rw[e] at g;refine FF.enter hf hb _ ?_ g;subst ha;exact aD β xs fn.ntmps h2
def InR (P:Program) (f:FuncId) (R:Ending→World→Prop) (n:Nat) (w0:World) (L β:List Nat) (m:SM):Ending→World→Prop:=fun e w'=>
 ∃(ν:List Nat) (res:SV) (hp':List HB),e = .returned (res.den (β++ν))∧Mem w0 L (β++ν) hp' w'∧(res.wf hp'.length&&(Nat.ble m.hp.length hp'.length&&hp'.all (HB.wf hp'.length)))=true∧(∀k∈FS m,∀h,m.hp[k]? = some h→hp'[k]? = some h)∧Hs P f R n w0 L (β++ν) (m.put (BF m) res hp')
theorem Hs.inl {F:FuncId} {fn:Func} (hF:P.funcs[F]? = some fn) (xs:List SV) (hc:EO P n β m=some (F,(xs.map (SV.den β)).toArray)) (hs:(Nat.ble xs.length fn.ntmps&&(fn.body.isSome&&(JN fn xs m.hp).wf))=true)
  (h:Hs P F (InR P f R n w0 L β m) fn.ntmps w0 L β (JN fn xs m.hp)):Hs P f R n w0 L β m:=
 Hs.call hc fun w H=>Hs.enterM hF m.hp xs H hs rfl h
def retS (P:Program) (fn:Func) (n:Nat) (m:SM):Option SV:=match m.r with
 | .no=>match(match m.todo with|[]=>m.sl.ds.isEmpty | .code .ret::_=>m.sl.ds.isEmpty|_=>false) with
  |true=>match retL P n m fn.results.toList with
   |some [v]=>some v.sv
   |some vs=>some (.t vs)
   |none=>none
  |false=>none
 |_=>none
def resOf (P:Program) (fn:Func) (n:Nat) (m:SM):SV:=(retS P fn n m).getD (.t [])
theorem retS_of {fn:Func} {v:SV} (h:retS P fn n m=some v):retOf P fn n β m=some (v.den β):=by
 unfold retS at h;unfold retOf;split at h
 ·rename_i hr;rw[hr];dsimp only;split at h
  ·rename_i ht;split;rotate_left
   ·rename_i h2;exact absurd (ht.symm.trans h2:true=false) (by decide)
   split at h
   ·rename_i v1 hv;injection h with h;subst h;rw[hv];cases v1<;>rfl
   ·rename_i vs hne hv;injection h with h;subst h;rw[hv];split
    ·rename_i v1 h1;injection h1 with h1;exact absurd h1 (hne v1)
    ·rename_i h2 h3 h1;injection h1 with h1;subst h1;rfl
    ·rename_i h1;cases h1
   ·cases h
  ·cases h
 ·cases h
theorem Hs.retI {F:FuncId} {fn:Func} {n0:Nat} {β0:List Nat} {m0:SM} (hf:P.funcs[F]? = some fn) (hr:((retS P fn n m).isSome&&((resOf P fn n m).wf m.hp.length&&Nat.ble m0.hp.length m.hp.length))=true) (hβ:β=β0++β.drop β0.length)
  (hrd:(FS m0).map (fun k=>m.hp[k]?)=(FS m0).map (fun k=>m0.hp[k]?)) (h:Hs P f R n0 w0 L β (m0.put (BF m0) (resOf P fn n m) m.hp)):Hs P F (InR P f R n0 w0 L β0 m0) n w0 L β m:=by
 simp only[Bool.and_eq_true] at hr;obtain⟨h1,h2,h3⟩:=hr;obtain⟨v,hv⟩:=Option.isSome_iff_exists.1 h1;have e:resOf P fn n m=v:=by unfold resOf;rw[hv];rfl
 rw[e] at h h2;refine⟨fun w H W=>?_⟩;refine(Hs.ret hf (retS_of hv) (fun w' H'=>?_)).go w H W;refine⟨β.drop β0.length,v,m.hp,by rw[←hβ],by rw[←hβ];exact H',?_,fun k hk b hb=>?_,by rw[←hβ];exact h⟩;·rw[h2,h3,SM.wf_hp W];rfl
 ·have:=List.map_inj_left.1 hrd k hk;rw[this];exact hb
/-! Another world to count from. -/
def wrN:List Nat→List HB→List Nat
 |b::β,h::hp=>(if h.wr then(h.blk b).toList else[])++wrN β hp
 |_,_=>[]
theorem KU: ∀{β:List Nat} {hp:List HB} {x:Nat},x∈wrN β hp↔∃(k:Nat) (h:HB) (b:Nat),hp[k]? = some h∧β[k]? = some b∧h.wr=true∧h.blk b=some x
 |[],hp,x=>by cases hp<;>simp[wrN]
 |b::β,[],x=>by simp[wrN]
 |b::β,h::hp,x=>by
  have ih:=KU (β:=β) (hp:=hp) (x:=x);simp only[wrN,List.mem_append,ih];constructor
  ·rintro(h1|⟨k,h',b',h1,h2,h3,h4⟩)
   ·split at h1
    ·rename_i hw;rw[Option.mem_toList] at h1;exact⟨0,h,b,rfl,rfl,hw,h1⟩
    ·cases h1
   ·exact⟨k+1,h',b',by simpa using h1,by simpa using h2,h3,h4⟩
  ·rintro⟨k,h',b',h1,h2,h3,h4⟩;cases k with
   |zero=>
    simp at h1 h2;subst h1;subst h2;left;rw[if_pos h3,Option.mem_toList];exact h4
   |succ k=>exact .inr ⟨k,h',b',by simpa using h1,by simpa using h2,h3,h4⟩
theorem PJ {β:List Nat} {k b:Nat} (h:β[k]? = some b):nm β k=b:=by simp[nm,List.getD,h]
theorem Mem.wrN_lt {w1:World} {hp:List HB} (H:Mem w0 L β hp w1): ∀x∈wrN β hp,x<w1.heap.size:=fun x hx=>by
 obtain⟨k,h,b,h1,h2,h3,h4⟩:=KU.1 hx;have:=H.lies k h h1;rw[PJ h2] at this;exact HB.lies_lt this h4
theorem Mem.rebase {w1:World} {hp:List HB} (H:Mem w0 L β hp w1):Mem w1 (wrN β hp) β hp w1:=
 ⟨Only.refl _ _,H.len,H.lies,fun k h x hk hw hx=>.inl (KU.2 ⟨k,h,nm β k,hk,by
  have hk2:=(List.getElem?_eq_some_iff.1 hk).1;rw[←H.len] at hk2;rw[nm,List.getD,List.getElem?_eq_getElem hk2];rfl,hw,hx⟩),H.inj⟩
section
variable {α : Type} {cf : α → List Value} {tS E size bytes : Nat}
theorem Mem.ownX {w:World} {hp:List HB} (H:Mem w0 L β hp w) (k:Nat) {A:Option Addr} {cap n:Nat} {l:List α} (hl:l.length=n) (hk:hp[k]? = some (.s A cap n E size (l.flatMap cf))):BK cf E size w 0 (.slice A n cap) l:=by
 unfold BK;rw[hl];exact H.lies k _ hk
theorem Mem.rdX {w:World} {hp:List HB} (H:Mem w0 L β hp w) (k:Nat) {A:Option Addr} {cap n:Nat} {l:List α} (hl:l.length=n) (hk:hp[k]? = some (.s A cap n E size (l.flatMap cf))):RdX cf w A l:=by
 obtain⟨A',cap',e,_,_,hr,_⟩:=(H.ownX k hl hk).form;injection e with e1;subst e1;exact hr
theorem Hs.callS (v:Option Addr→Nat→Value) (l:List α) (nl:Nat) (hl:l.length=nl) {F:FuncId} {args:Array Value} (hC: ∀w,Mem w0 L β m.hp w→Calls P F args w fun e w'=>∃A cap,e = .returned (v A cap)∧Only [] w w'∧BK cf E size w' w.heap.size (.slice A nl cap) l)
  (hc:EO P n β m=some (F,args)) (hrd:(FS m).all (fun k=>Nat.blt k m.hp.length)=true)
  (h: ∀A cap,nl≤cap→cap≤maxLen→Hs P f R n w0 L (β++[0]) (m.put (BF m) (.c (.v (v A cap))) (m.hp++[.s A cap nl E size (l.flatMap cf)]))):Hs P f R n w0 L β m:=by
 subst hl;refine⟨fun w H W=>?_⟩;refine(Hs.call hc (fun w H=>?_)).go w H W;refine Calls.mono (hC w H) ?_;rintro e w' ⟨A,cap,rfl,O,hO⟩;have hw:=SM.wf_hp W;obtain⟨A1,cap1,e1,hc1,hc2,_,hA⟩:=hO.form;injection e1 with e1 e2 e3;subst e1;subst e3;refine⟨[0],.c (.v (v A cap)),m.hp++[.s A cap l.length E size (l.flatMap cf)],rfl,H.push (h:=.s A cap l.length E size (l.flatMap cf)) (by rw[H.len];exact hw) O (fun y hy=>?_) (BK.mono hO (Nat.zero_le _)),?_,fun k hk h hh=>?_,h A cap hc1 hc2⟩
 ·simp only[HB.blk,Option.map_eq_some_iff] at hy;obtain⟨a,hx,rfl⟩:=hy;exact(hA a hx).1
 ·simp only[SV.wf,SC.wf,Bool.true_and,Bool.and_eq_true,Nat.ble_eq,List.length_append,List.length_cons,List.length_nil,List.all_append,List.all_cons,List.all_nil,Bool.and_true];refine⟨by omega,List.all_eq_true.2 fun y hy=>?_,rfl⟩;have h1:=List.all_eq_true.1 hw y hy;cases y with
  |no=>rfl
  |s=>rfl
  |q=>rfl
  |r _ _ _=>rfl
  |b _ _ cs=>exact List.all_eq_true.2 fun z hz=>SC.wf_mono (by omega) (List.all_eq_true.1 h1 z hz)
 ·rw[List.getElem?_append_left (List.getElem?_eq_some_iff.1 hh).1];exact hh
def XC (v v':Value) (H:Nat):Prop:=∀x,v'.ownBlock=some x→v.ownBlock=some x∨H≤x
theorem XC.same {A:Option Addr} {a b c d H:Nat}:XC (.slice A a b) (.slice A c d) H:=fun x hx=>.inl (by cases A<;>exact hx)
theorem Mem.ownTurn {w w':World} {hp:List HB} (H:Mem w0 L β hp w) (k:Nat) {A A':Option Addr} {cap cap' nl nl':Nat} {vs:List Value} {l':List α} (hl':l'.length=nl') (hk:hp[k]? = some (.s A cap nl E size vs)) (O:Only (Value.ownBlock (.slice A nl cap)).toList w w') (hO:BK cf E size w' 0 (.slice A' nl' cap') l') (hw:XC (.slice A nl cap) (.slice A' nl' cap') w.heap.size):Mem w0 L β (hp.set k (.s A' cap' nl' E size (l'.flatMap cf))) w':=by
 refine H.swap k hk O (fun x hx=>?_) rfl ?_ (fun x hx=>?_)
 ·cases A with
  |none=>simp[Value.ownBlock] at hx
  |some a=>simp only[Value.ownBlock,Option.toList_some,List.mem_singleton] at hx;subst hx;rfl
 ·have h5:=hO;unfold BK at h5;rw[hl'] at h5;exact h5
 ·have hb:Value.ownBlock (.slice A' nl' cap')=some x:=by
   cases A' with
   |none=>cases hx
   |some a=>simp only[HB.blk,Option.map_some] at hx;exact hx
  rcases hw x hb with h4|h4
  ·left;cases A with
   |none=>cases h4
   |some a=>exact h4
  ·exact .inr h4
theorem PY (hcl: ∀x,(cf x).length=size) (x:α): ∀(l:List α) (i:Nat),i<l.length→(l.set i x).flatMap cf=BS (l.flatMap cf) (i*size) (cf x)
 |[],i,h=>by simp at h
 |a::l,0,h=>by
  simp only[List.set_cons_zero,List.flatMap_cons,Nat.zero_mul,BS,List.take_zero,List.nil_append,Nat.zero_add,hcl];rw[List.drop_append_of_le_length (by rw[hcl];exact Nat.le_refl _),List.drop_eq_nil_of_le (by rw[hcl];exact Nat.le_refl _),List.nil_append]
 |a::l,i+1,h=>by
  have ih:=PY hcl x l i (by simpa using h);have e:(i+1)*size=(cf a).length+i*size:=by rw[hcl,Nat.succ_mul,Nat.add_comm]
  simp only[List.set_cons_succ,List.flatMap_cons,ih,BS,e];have t1: ∀k (r:List Value),(cf a++r).take ((cf a).length+k)=cf a++r.take k:=fun k r=>List.take_length_add_append k;have t2: ∀k (r:List Value),(cf a++r).drop ((cf a).length+k)=r.drop k:=fun k r=>List.drop_length_add_append k;rw[t1,Nat.add_assoc,t2,List.append_assoc]
theorem ownX_set {w:World} {g cap base:Nat} {l:List α} (hcl: ∀x,(cf x).length=size) (h:BK cf E size w base (.slice (some ⟨g,0,none⟩) l.length cap) l) (i:Nat) (hi:i<l.length) (x:α):BK cf E size (w.setCells g (i*size) (cf x)) base (.slice (some ⟨g,0,none⟩) l.length cap) (l.set i x):=by
 obtain⟨h1,⟨h2,_⟩|⟨g',c',cur,e,hg,hh,hc,hm,hs,ht⟩⟩:=h;·injection h2 with h2;cases h2
 injection e with e1 e2 e3;injection e1 with e1;injection e1 with e1;subst e1;subst e3;have hB:Blk w g E cur.toList:=by
  show w.heap[g]? = _;rw[hh]
 have hle:i*size+(cf x).length≤cur.toList.length:=by
  rw[hcl,Array.length_toList,hs];calc i*size+size=(i+1)*size:=by rw[Nat.succ_mul]
   _≤cap*size:=Nat.mul_le_mul_right _ (by omega)
 have hB':=GF (cf x) (i*size) w cur.toList hB hle;have hlen:(cf x).length=size:=hcl x;have hcur:cur.toList.length=cap*size:=by rw[Array.length_toList,hs]
 refine⟨by rw[FZ hcl],.inr ⟨g,cap,(BS cur.toList (i*size) (cf x)).toArray,by simp,hg,hB',by simpa using hc,hm,?_,?_⟩⟩
 ·simp only[List.size_toArray,BS,List.length_append,List.length_take,List.length_drop];omega
 ·rw[PY hcl x l i hi,←ht];simp only[List.length_set,List.toList_toArray];have hlt:i*size+size≤l.length*size:=by
   calc i*size+size=(i+1)*size:=by rw[Nat.succ_mul]
    _≤l.length*size:=Nat.mul_le_mul_right _ (by omega)
  generalize hN:l.length*size=N at hlt;generalize hJ:i*size=J at hlt hle;generalize hC:cap*size=C at hcur;generalize cur.toList=cl at hcur hle;unfold BS;rw[List.take_take,Nat.min_eq_left (by omega),List.take_append,List.take_of_length_le (by rw[List.length_take];omega),List.length_take,Nat.min_eq_left (by omega)];congr 1
  rw[List.take_append,List.take_of_length_le (by omega)];congr 1
  rw[List.drop_take];congr 1
  omega
theorem Hs.stx (k:Nat) (hcl: ∀x,(cf x).length=size) (hone: ∀x,∀u∈cf x,u.oneCell'=true) (l:List α) (nl:Nat) (hl:l.length=nl) (i:Nat) (hi:i<nl) (x:α) {v:Value} (hv:v.cells=(cf x).toArray) {g cap:Nat} {E':TypeId} (hz:szB P E'=some size)
  (hs:FN n β m=some (UH (Instr.storeAt E' (.pointer (some ⟨g,0+i*size,none⟩)) v))) (hk:m.hp[k]? = some (.s (some ⟨g,0,none⟩) cap nl E size (l.flatMap cf))) (hrd:(FS m).contains k=false)
  (h:Hs P f R n w0 L β (m.put (BF m) (.c (.v undef)) (m.hp.set k (.s (some ⟨g,0,none⟩) cap nl E size ((l.set i x).flatMap cf))))):Hs P f R n w0 L β m:=by
 subst hl;rw[Nat.zero_add] at hs;refine Hs.opU hs fun w H W=>?_;have hO:=H.ownX k rfl hk;have hO':=ownX_set hcl hO i hi x;obtain⟨h1,⟨h2,_⟩|⟨g',c',cur,e,hg,hh,hc,hm,hsz,ht⟩⟩:=hO;·injection h2 with h2;cases h2
 injection e with e1 e2 e3;injection e1 with e1;injection e1 with e1;subst e1;subst e3;have hB:Blk w g E cur.toList:=by
  show w.heap[g]? = _;rw[hh]
 have hle:i*size+(cf x).length≤cur.toList.length:=by
  rw[hcl,Array.length_toList,hsz];calc i*size+size=(i+1)*size:=by rw[Nat.succ_mul]
   _≤cap*size:=Nat.mul_le_mul_right _ (by omega)
 have hst:(storeVar E' ⟨g,i*size,none⟩ v).run P w = .ok () (w.setCells g (i*size) (cf x)):=by
  have hc:=run_storeCells_cells (P:=P) g (i*size) (cf x) 0 w (fun j hj=>by
    simpa using(FW hB (i*size) (cf x).length hle j (by simpa using hj)).1) (fun j hj=>by
    simpa using(FW hB (i*size) (cf x).length hle j (by simpa using hj)).2) (hone x)
  simp only[Nat.add_zero] at hc;unfold storeVar;simp only[Sem.run_bind,GX hz w,Result.andThen_ok,hv];rw[if_neg (by simp[hcl])];simp[hc]
 refine⟨_,w.setCells g (i*size) (cf x),by simp only[Instr.storeAt,Instr.sureAddr,Sem.run_bind,Sem.run_pure,Result.andThen_ok,hst],H.ownTurn k (l':=l.set i x) (by simp) hk (FK _ _ _) (by simpa using hO') XC.same,?_,fun j hj b hb=>?_,h⟩
 ·simp only[Bool.and_eq_true,Nat.ble_eq,List.length_set];refine⟨Nat.le_refl _,List.all_eq_true.2 fun x hx=>?_⟩;rcases List.mem_or_eq_of_mem_set hx with hx|rfl;·exact List.all_eq_true.1 (SM.wf_hp W) x hx
  ·rfl
 ·rw[List.getElem?_set,if_neg (fun e=>by
   subst e;simp at hrd;exact hrd hj)]
  exact hb
end
end
def StX (fp:List Nat) (Q:World→Prop):Prop:=∀w w':World,w.heap.size≤w'.heap.size→(∀x∈fp,w'.heap[x]? = w.heap[x]?)→Q w→Q w'
structure Fx (w00 : World) (G : List Nat) (w1 : World) (L1 fp : List Nat) (Q : World → Prop) : Prop where
  only : Only G w00 w1
  mem : ∀ x ∈ L1, x ∈ G ∨ w00.heap.size ≤ x
  now : Q w1
  own : ∀ x ∈ fp, x < w1.heap.size ∧ x ∉ L1 ∧ (x ∈ G ∨ w00.heap.size ≤ x)
  st : StX fp Q
section
variable {w w00 w0 w1 w2 w' : World} {G L L1 L' β fp fp' : List Nat} {hp : List HB} {Q Q' : World → Prop}
theorem StX.true_:StX fp (fun _=>True):=fun _ _ _ _ _=>trivial
theorem Fx.start (hL: ∀x∈L,x∈G) (hQ:Q w) (hf: ∀x∈fp,x<w.heap.size∧x∉L∧x∈G) (st:StX fp Q):Fx w G w L fp Q:=
 ⟨Only.refl _ _,fun x hx=>.inl (hL x hx),hQ,fun x hx=>⟨(hf x hx).1,(hf x hx).2.1,.inl (hf x hx).2.2⟩,st⟩
theorem Fx.start0:Fx w L w L [] (fun _=>True):=Fx.start (fun _ h=>h) trivial (by simp) StX.true_
theorem Fx.goes (C:Fx w00 G w1 L1 fp Q) (O:Only L1 w1 w):Q w:=C.st w1 w O.size (fun x hx=>O.block x (C.own x hx).1 (C.own x hx).2.1) C.now
theorem Fx.at (C:Fx w00 G w1 L1 fp Q) (H:Mem w1 L1 β hp w):Q w:=C.goes H.only
theorem Fx.fin (C:Fx w00 G w1 L1 fp Q) (H:Mem w1 L1 β hp w):Only G w00 w:=C.only.trans H.only C.mem
theorem Fx.imp (C:Fx w00 G w1 L1 fp Q) (h:Q w1→Q' w1) (st:StX fp Q'):Fx w00 G w1 L1 fp Q':={ C with now:=h C.now,st:=st }
theorem Fx.key (C:Fx w00 G w1 L1 fp Q) (H:Mem w1 L1 β hp w2): ∀x∈wrN β hp,(x∈L1∨w1.heap.size≤x)∧(x∈G∨w00.heap.size≤x):=fun x hx=>by
 obtain⟨k,h,b,h1,h2,h3,h4⟩:=KU.1 hx;have:=H.own k h x h1 h3 (by rw[PJ h2];exact h4);refine⟨this,?_⟩;rcases this with h|h;·exact C.mem x h
 ·exact .inr (Nat.le_trans C.only.size h)
theorem Fx.step (C:Fx w00 G w1 L1 fp Q) (H:Mem w1 L1 β hp w2) (O:Only L' w2 w') (hne: ∀x∈fp,x∉L') (hL: ∀x∈L',x∈G∨w00.heap.size≤x):Fx w00 G w' (wrN β hp) fp Q:=by
 have h2:=C.fin H;have hs1:=H.only.size;have hs2:=O.size;refine⟨h2.trans O hL,fun x hx=>(C.key H x hx).2,C.st w2 w' O.size (fun x hx=>O.block x (by have:=(C.own x hx).1;omega) (hne x hx)) (C.at H),fun x hx=>⟨by have:=(C.own x hx).1;omega,fun hm=>?_,(C.own x hx).2.2⟩,C.st⟩;rcases(C.key H x hm).1 with h|h;·exact(C.own x hx).2.1 h
 ·have:=(C.own x hx).1;omega
theorem Fx.turn (C:Fx w00 G w1 L1 fp Q) (H:Mem w1 L1 β hp w2) (O:Only fp w2 w') (hQ:Q' w') (hf: ∀y∈fp',y<w'.heap.size∧(y∈fp∨w2.heap.size≤y)) (st:StX fp' Q'):Fx w00 G w' (wrN β hp) fp' Q':=by
 have h2:=C.fin H;have hs1:=H.only.size;have hs2:=O.size;refine⟨h2.trans O fun x hx=>(C.own x hx).2.2,fun x hx=>(C.key H x hx).2,hQ,fun x hx=>⟨(hf x hx).1,fun hm=>?_,?_⟩,st⟩
 ·rcases(hf x hx).2 with h|h
  ·rcases(C.key H x hm).1 with h'|h';·exact(C.own x h).2.1 h'
   ·have:=(C.own x h).1;omega
  ·have:=H.wrN_lt x hm;omega
 ·rcases(hf x hx).2 with h|h;·exact(C.own x h).2.2
  ·exact .inr (by have:=h2.size;omega)
def MB (w00:World) (G:List Nat) (w0:World) (L fp:List Nat) (w1:World) (L1:List Nat):Prop:=∀(fp2:List Nat) (Q2:World→Prop),Fx w00 G w0 L fp2 Q2→(∀x∈fp2,x∉fp)→Fx w00 G w1 L1 fp2 Q2
end
def roOk (hp:List HB):Bool:=hp.all fun h=>match h with
 | .no=>true
 |h=>h.wr
section
variable {w w00 w0 w1 w2 w' : World} {G L L1 L' β fp fp' : List Nat} {hp : List HB} {Q Q' : World → Prop}
theorem Fx.apart (C:Fx w00 G w0 L fp Q) (H:Mem w0 L β hp w) (hro:roOk hp=true): ∀(k:Nat) (h:HB) (x:Nat),hp[k]? = some h→h.blk (nm β k)=some x→x∉fp:=fun k h x hk hx hm=>by
 have h1:=List.all_eq_true.1 hro h (List.mem_of_getElem? hk);have hw:h.wr=true:=by
  cases h with
  |no=>cases hx
  |_=>exact h1
 rcases H.own k h x hk hw hx with h2|h2;·exact(C.own x hm).2.1 h2
 ·have:=(C.own x hm).1;omega
theorem Mem.rebaseF (H:Mem w0 L β hp w) (O:Only fp w w') (hne: ∀(k:Nat) (h:HB) (x:Nat),hp[k]? = some h→h.blk (nm β k)=some x→x∉fp):Mem w' (wrN β hp) β hp w':=
 ⟨Only.refl _ _,H.len,fun k h hk=>HB.lies_only (H.lies k h hk) O fun x hx=>hne k h x hk hx,fun k h x hk hw hx=>.inl (KU.2 ⟨k,h,nm β k,hk,by
  have hk2:=(List.getElem?_eq_some_iff.1 hk).1;rw[←H.len] at hk2;rw[nm,List.getD,List.getElem?_eq_getElem hk2];rfl,hw,hx⟩),H.inj⟩
end
section
variable {P : Program} {f : FuncId} {R : Ending → World → Prop} {n : Nat} {w0 w00 : World} {G L fp : List Nat} {β : List Nat} {m : SM} {Q : World → Prop}
theorem Hs.callFx {X:Type} (v:X→Value) (fp':X→List Nat) (Q':X→World→Prop) {F:FuncId} {args:Array Value} (C:Fx w00 G w0 L fp Q)
  (hC: ∀w,Mem w0 L β m.hp w→Q w→Calls P F args w fun e w'=>∃x,e = .returned (v x)∧Only fp w w'∧Q' x w'∧StX (fp' x) (Q' x)∧∀y∈fp' x,y<w'.heap.size∧(y∈fp∨w.heap.size≤y))
  (hc:EO P n β m=some (F,args)) (hrd:FS m=[]) (hro:roOk m.hp=true)
  (h: ∀x w1 L1,Fx w00 G w1 L1 (fp' x) (Q' x)→(∀y∈fp' x,y∈fp∨w0.heap.size≤y)→MB w00 G w0 L fp w1 L1→Hs P f R n w1 L1 β (m.put (BF m) (.c (.v (v x))) m.hp)):Hs P f R n w0 L β m:=by
 refine⟨fun w H W=>?_⟩;unfold EO at hc;split at hc
 ·rename_i o ho;split at hc
  ·rename_i hg;split at hc
   ·rename_i F' args' hp;injection hc with hc;injection hc with h1 h2;subst h1;subst h2;have hd:BF m=o.dst:=by unfold BF;rw[ho]
    rw[hd] at h;refine Gs.op ho hg ?_;unfold Oper.wp;rw[FO,JD P _ _ hp w];refine Calls.mono (hC w H (C.at H)) ?_;rintro e w' ⟨x,rfl,O,hQ,hst,hf⟩;refine⟨β,QX o.dst (.c (.v (v x))) m.sl,m.hp,FR n β m.sl o.dst (.c (.v (v x))),fun w2 hI=>?_,(h x w' _ (C.turn H O hQ hf hst) (fun y hy=>(hf y hy).2.imp id fun h=>Nat.le_trans H.only.size h) fun fp2 Q2 C2 hne=>C2.step H O hne fun x hx=>(C.own x hx).2.2).go w' (H.rebaseF O (C.apart H hro)) ?_⟩;·rw[hrd];intro i hi;cases hi
    ·simp only[SM.wf,SM.put,Bool.and_eq_true];exact⟨EQ (SM.wf_sl W) rfl,SM.wf_hp W⟩
   ·cases hc
  ·cases hc
 ·cases hc
def noAt:List Nat→List HB→List HB
 |[],hp=>hp
 |k::ks,hp=>noAt ks (hp.set k .no)
theorem NV: ∀(ks:List Nat) (hp:List HB) (j:Nat) (h:HB),(noAt ks hp)[j]? = some h→(h = .no∨(j∉ks∧hp[j]? = some h))
 |[],hp,j,h,hj=>.inr ⟨by simp,hj⟩
 |k::ks,hp,j,h,hj=>by
  rcases NV ks _ j h hj with h1|⟨h1,h2⟩;·exact .inl h1
  ·by_cases e:k=j
   ·subst e;rw[List.getElem?_set] at h2;simp only[if_true] at h2;split at h2;·injection h2 with h2;exact .inl h2.symm
    ·cases h2
   ·rw[List.getElem?_set_ne e] at h2;exact .inr ⟨by simp only[List.mem_cons,not_or];exact⟨fun h=>e h.symm,h1⟩,h2⟩
theorem SW: ∀(ks:List Nat) (hp:List HB),(noAt ks hp).length=hp.length
 |[],_=>rfl
 |k::ks,hp=>by rw[noAt,SW ks,List.length_set]
theorem Hs.shutFx (ks:List Nat) (fp:List Nat) (Q:World→Prop) {fp0:List Nat} {Q0:World→Prop} (C:Fx w00 G w0 L fp0 Q0) (st:StX fp Q)
  (hQ: ∀w,Mem w0 L β m.hp w→Q w) (hfp: ∀x∈fp,∃k∈ks,∃h,m.hp[k]? = some h∧h.wr=true∧h.blk (nm β k)=some x)
  (hr:(match m.r with | .no=>true | .lst .. =>true | .lstN .. =>true|_=>false)=true)
  (h: ∀w1 L1,Fx w00 G w1 L1 fp Q→MB w00 G w0 L [] w1 L1→Hs P f R n w1 L1 β ⟨m.r,m.todo,m.sl,noAt ks m.hp⟩):Hs P f R n w0 L β m:=by
 refine⟨fun w H W=>?_⟩;have H':Mem w0 L β (noAt ks m.hp) w:=H.turn (Only.refl [] w) (by simp) (SW _ _) fun j h' hj=>by
  rcases NV ks _ j h' hj with h1|⟨_,h1⟩;·exact .inl h1
  ·exact .inr (.inl ⟨h1,by simp⟩)
 have key:=Fx.key C H';have C1:Fx w00 G w (wrN β (noAt ks m.hp)) fp Q:=⟨C.fin H,fun x hx=>(key x hx).2,hQ w H,fun x hx=>by
  obtain⟨k,hk,hb,h1,h2,h3⟩:=hfp x hx;refine⟨HB.lies_lt (H.lies k hb h1) h3,fun hm=>?_,?_⟩
  ·obtain⟨j,b,y,g1,g2,g3,g4⟩:=KU.1 hm;rcases NV ks _ j b g1 with e|⟨e,g5⟩;·subst e;cases g3
   ·have:=H.inj k j hb b x h1 g5 h3 (by rw[PJ g2];exact g4);subst this;exact e hk
  ·rcases H.own k hb x h1 h2 h3 with h4|h4;·exact C.mem x h4
   ·exact .inr (Nat.le_trans C.only.size h4),st⟩
 have g2:=(h w _ C1 fun fp2 Q2 C2 _=>C2.step H' (Only.refl [] w) (by simp) (by simp)).go w H'.rebase (by
  simp only[SM.wf,Bool.and_eq_true] at W⊢;rw[SW];refine⟨W.1,List.all_eq_true.2 fun y hy=>?_⟩;obtain⟨j,hj⟩:=List.mem_iff_getElem?.1 hy;rcases NV ks _ j y hj with e|⟨_,e⟩;·subst e;rfl
  ·exact List.all_eq_true.1 W.2 y (List.mem_of_getElem? e))
 obtain⟨r,todo,sl,hp⟩:=m;cases r with
 |no=>exact g2
 |lst=>exact g2
 |lstN=>exact g2
 |_=>cases hr
end
theorem rd_st {A:Option Addr} {l:List Int} (w w':World) (h1: ∀a,A=some a→w'.heap[a.block]? = w.heap[a.block]?) (h2:w.heap.size≤w'.heap.size) (h:Rd w A l):Rd w' A l:=fun h0=>by
 obtain⟨b,off,rfl,hlt,hc⟩:=h h0;exact⟨b,off,rfl,by omega,fun i v hi=>(World.cell?_of_block (w:=w) (show w'.heap[b]? = w.heap[b]? from h1 _ rfl)).trans (hc i v hi)⟩
theorem run_mark {P:Program} {T E:TypeId} {w:World} {b n:Nat} {l:List Int} (hT:P.underlying T=some (.slice E)) (hE:P.underlying E=some (.int .u8)) (hB:Blk w b E (l.map (.int .u8))): ∃w',(convert T T (.slice (some ⟨b,0,none⟩) n n)).run P w = .ok (.slice (some ⟨b,0,none⟩) n n) w'∧Only [b] w w'∧Rd w' (some ⟨b,0,none⟩) l∧b<w'.heap.size:=by
 have hlt:=hB.lt;have hs:w.shape? b=some (E,(l.map (Value.int .u8)).length):=by
  unfold World.shape?;rw[show w.heap[b]? = _ from hB];simp
 refine⟨w.freeze ⟨b,(l.map (Value.int .u8)).length,none⟩ 1,?_,?_,?_,?_⟩;·simp[convert,run_underlying hT,run_underlying hE,markStringish,hs]
 ·refine⟨rfl,rfl,rfl,by simp[World.freeze],fun k hk hn=>?_⟩;simp only[List.mem_singleton] at hn;simp[World.freeze,Array.getElem?_modify,Ne.symm hn]
 ·intro _;refine⟨b,0,rfl,by simpa[World.freeze] using hlt,fun i v hi=>?_⟩;have h0:w.heap[b]? = some (.cells (l.map (Value.int .u8)).toArray E (0,0)):=hB;simp[World.freeze,World.cell?,Array.getElem?_modify,h0,hi]
 ·simpa[World.freeze] using hlt
section
variable {P : Program} {f : FuncId} {R : Ending → World → Prop} {n : Nat} {w0 : World} {L : List Nat} {β : List Nat} {m : SM}
theorem Hs.mark (k:Nat) (T E:TypeId) (l:List Int) (nl:Nat) (hT:P.underlying T=some (.slice E)) (hE:P.underlying E=some (.int .u8)) (hs:FN n β m=some (IY (convert T T (.slice (some ⟨nm β k,0,none⟩) nl nl)))) (hk:m.hp[k]? = some (.b true E (l.map fun x=>.v (.int .u8 x)))) (hrd:(FS m).contains k=false)
  (h:Hs P f R n w0 L β (m.put (BF m) (.c (.v (.slice (some ⟨nm β k,0,none⟩) nl nl))) (m.hp.set k (.q true (some ⟨nm β k,0,none⟩) (fun w=>Rd w (some ⟨nm β k,0,none⟩) l) rd_st)))):Hs P f R n w0 L β m:=by
 have hkl:=(List.getElem?_eq_some_iff.1 hk).1;refine Hs.opW hs fun w H W=>?_;have hB:Blk w (nm β k) E (l.map (.int .u8)):=by
  have:=H.at k hk;have e:DJ β (l.map fun x=>SC.v (.int .u8 x))=l.map (.int .u8):=by simp[DJ,SC.den,Function.comp_def]
  rw[e] at this;exact this
 obtain⟨w',h1,h2,h3,h4⟩:=run_mark (n:=nl) hT hE hB;refine⟨[],.c (.v (.slice (some ⟨nm β k,0,none⟩) nl nl)),_,w',h1,?_,?_,fun i hi b hb=>?_,by rw[List.append_nil];exact h⟩
 ·rw[List.append_nil];refine H.swap k hk h2 (fun x hx=>by simp only[List.mem_singleton] at hx;subst hx;rfl) rfl ?_ (fun x hx=>.inl hx);exact⟨h3,fun a ha=>(by injection ha with ha;subst ha;exact h4)⟩
 ·simp only[SV.wf,SC.wf,Bool.true_and,Bool.and_eq_true,Nat.ble_eq,List.length_set];refine⟨Nat.le_refl _,List.all_eq_true.2 fun x hx=>?_⟩;rcases List.mem_or_eq_of_mem_set hx with hx|rfl;·exact List.all_eq_true.1 (SM.wf_hp W) x hx
  ·rfl
 ·rw[List.getElem?_set,if_neg (fun e=>by
   subst e;simp at hrd;exact hrd hi)]
  exact hb
end
section
variable {P : Program} {f : FuncId} {R : Ending → World → Prop} {n : Nat} {w0 : World} {L : List Nat} {β : List Nat} {m : SM}
variable {α : Type} {cf : α → List Value} {tS E size bytes : Nat}
theorem ElemT.elem (ht:ElemT P tS E size bytes):P.elem tS=E:=by unfold Program.elem;rw[ht.ht]
theorem ElemT.sizeOf (ht:ElemT P tS E size bytes) (w:World):(Go.sizeOf E).run P w = .ok size w:=by
 obtain⟨_,⟨i,z,h1,_,h3,_⟩,_⟩:=ht;simp[Go.sizeOf,typeInfo,h1,h3]
theorem run_ldc {E' b off:Nat} {v:Value} (ha:aggB P E'=some false) {w:World} (hc:w.cell? ⟨b,off,none⟩=some v):(Instr.loadAt E' (.pointer (some ⟨b,off,none⟩))).run P w = .ok v w:=by
 simp[Instr.loadAt,Instr.sureAddr,loadVar,OE ha w,hc]
theorem Hs.ldc {E' b off:Nat} (v:Value) (hs:FN n β m=some (IY (Instr.loadAt E' (.pointer (some ⟨b,off,none⟩))))) (hc: ∀w,Mem w0 L β m.hp w→w.cell? ⟨b,off,none⟩=some v) (ha:aggB P E'=some false) (h:Hs P f R n w0 L β (m.put (BF m) (.c (.v v)) m.hp)):Hs P f R n w0 L β m:=
 Hs.opV (.c (.v v)) hs rfl (fun w H=>run_ldc ha (hc w H)) h
theorem BW (hcl: ∀x,(cf x).length=size) {w:World} {b off:Nat} {l:List α} {i:Nat} {x:α} (hr:RdX cf w (some ⟨b,off,none⟩) l) (hx:l[i]? = some x) {j:Nat} {v:Value} (hj:(cf x)[j]? = some v):w.cell? ⟨b,off+i*size+j,none⟩=some v:=
 WO hcl hr hx j v hj
theorem Mem.rdB {w:World} {hp:List HB} (H:Mem w0 L β hp w) (k:Nat) {wr:Bool} {T:TypeId} {cs:List SC} {gs:List α} (hk:hp[k]? = some (.b wr T cs)) (hg:DJ β cs=gs.flatMap cf):RdX cf w (some ⟨nm β k,0,none⟩) gs:=fun h0=>by
 have hB:=H.at k hk;refine⟨nm β k,0,rfl,hB.lt,fun j u hj=>?_⟩;rw[Nat.zero_add,hB.cell,hg];exact hj
theorem Mem.toS {w w':World} {hp:List HB} (H:Mem w0 L β hp w) (k:Nat) {h0:HB} {v:Value} {A':Option Addr} {cap' nl':Nat} {l':List α} (hl':l'.length=nl') (hk:hp[k]? = some h0) (hw0:h0.wr=true) (hb:h0.blk (nm β k)=v.ownBlock) (O:Only v.ownBlock.toList w w') (hO:BK cf E size w' 0 (.slice A' nl' cap') l') (hw:MC v (.slice A' nl' cap') w.heap.size):Mem w0 L β (hp.set k (.s A' cap' nl' E size (l'.flatMap cf))) w':=by
 refine H.swap k hk O (fun x hx=>?_) hw0 ?_ (fun x hx=>?_);·rw[hb];exact Option.mem_toList.1 hx
 ·have h5:=hO;unfold BK at h5;rw[hl'] at h5;exact h5
 ·have hb':Value.ownBlock (.slice A' nl' cap')=some x:=by
   cases A' with
   |none=>cases hx
   |some a=>simp only[HB.blk,Option.map_some] at hx;exact hx
  rcases hw with h4|h4;·left;rw[hb,←h4];exact hb'
  ·right;rw[h4] at hb';injection hb' with hb';omega
theorem ZG {hp:List HB} {k:Nat} {b:HB} {N:Nat} (h:hp.all (HB.wf N)=true) (hb:b.wf N=true):(hp.set k b).all (HB.wf N)=true:=
 List.all_eq_true.2 fun x hx=>by
  rcases List.mem_or_eq_of_mem_set hx with hx|rfl;·exact List.all_eq_true.1 h x hx
  ·exact hb
theorem Hs.litX (k:Nat) (ht:ElemT P tS E size bytes) (gs:List α) (ng:Nat) (hg:gs.length=ng) {B:Option Addr} {c ty:Nat} (hone: ∀x,∀u∈cf x,u.oneCell'=true) (hcl: ∀x,(cf x).length=size)
  (hs:FN n β m=some (IY (Builtin.append_ #[tS,tS] ty #[.slice (some ⟨nm β k,0,none⟩) 0 0,.slice B ng c]))) (hk:m.hp[k]? = some (.b true E [])) (hrd:(FS m).contains k=false)
  (hr: ∀w,Mem w0 L β m.hp w→RdX cf w B gs) (hlen:ng≤maxLen) (hby:ng*bytes≤140737488355328)
  (h: ∀A' cap',ng≤cap'→cap'≤maxLen→Hs P f R n w0 L β (m.put (BF m) (.c (.v (.slice A' ng cap'))) (m.hp.set k (.s A' cap' ng E size (gs.flatMap cf))))):Hs P f R n w0 L β m:=by
 subst hg;refine Hs.opW hs fun w H W=>?_;have hB:Blk w (nm β k) E []:=by
  have:=H.lies k _ hk;simpa[HB.lies,DJ] using this
 have hown:BK cf E size w 0 (.slice (some ⟨nm β k,0,none⟩) 0 0) []:=⟨by simp,.inr ⟨nm β k,0,#[],rfl,Nat.zero_le _,hB,Nat.le_refl _,by decide,by simp,by simp⟩⟩;obtain⟨v',w',h1,h2,h3,h4⟩:=OG (ty:=ty) ht hone hown B c gs (FZ hcl gs) (hr w H) (by simpa using hlen) (by simpa using hby) (Nat.zero_le _);rw[List.nil_append] at h2;obtain⟨A',cap',rfl,hc1,hmax,_,hblk⟩:=h2.form;refine⟨[],.c (.v (.slice A' gs.length cap')),m.hp.set k (.s A' cap' gs.length E size (gs.flatMap cf)),w',h1,?_,?_,fun i hi b hh=>?_,by rw[List.append_nil];exact h A' cap' hc1 hmax⟩
 ·rw[List.append_nil];exact H.toS k rfl hk rfl rfl h3 h2 h4
 ·simp only[SV.wf,SC.wf,Bool.true_and,Bool.and_eq_true,Nat.ble_eq,List.length_set];exact⟨Nat.le_refl _,ZG (SM.wf_hp W) rfl⟩
 ·rw[List.getElem?_set,if_neg (fun e=>by
   subst e;simp at hrd;exact hrd hi)]
  exact hh
theorem zero_len {z:Value} (n:Nat):(Builtin.zeroCells z.cells n).toList.length=n*z.cells.size:=by simp[Builtin.zeroCells]
theorem NN (hcl: ∀x,(cf x).length=size): ∀(l:List α) (i:Nat),i≤l.length→(l.flatMap cf).take (i*size)=(l.take i).flatMap cf
 |l,0,_=>by simp
 |[],i+1,h=>by simp at h
 |a::l,i+1,h=>by
  have ih:=NN hcl l i (by simpa using h);have e:(i+1)*size=(cf a).length+i*size:=by rw[hcl,Nat.succ_mul,Nat.add_comm]
  rw[List.flatMap_cons,e,List.take_length_add_append,ih,List.take_succ_cons,List.flatMap_cons]
theorem NM (hcl: ∀x,(cf x).length=size): ∀(l:List α) (i:Nat),i≤l.length→(l.flatMap cf).drop (i*size)=(l.drop i).flatMap cf
 |l,0,_=>by simp
 |[],i+1,h=>by simp at h
 |a::l,i+1,h=>by
  have ih:=NM hcl l i (by simpa using h);have e:(i+1)*size=(cf a).length+i*size:=by rw[hcl,Nat.succ_mul,Nat.add_comm]
  rw[List.flatMap_cons,e,List.drop_length_add_append,ih,List.drop_succ_cons]
theorem Hs.someS (k:Nat) {A:Option Addr} {cap nl:Nat} {vs:List Value} (hk:m.hp[k]? = some (.s A cap nl E size vs)) (hn:0<nl) (h: ∀g,A=some ⟨g,0,none⟩→Hs P f R n w0 L β m):Hs P f R n w0 L β m:=
 ⟨fun w H W=>by
  have hl:w.ownsRow 0 E size (.slice A nl cap) nl vs:=H.lies k _ hk;rcases hl.2 with⟨_,h0⟩|⟨g,c,cur,e,_⟩;·omega
  ·injection e with e1;exact(h g e1).go w H W⟩
theorem Mem.fresh {w:World} {hp:List HB} (H:Mem w0 [] β hp w) (k:Nat) {A:Option Addr} {cap nl:Nat} {l:List α} (hl:l.length=nl) (hk:hp[k]? = some (.s A cap nl E size (l.flatMap cf))):BK cf E size w w0.heap.size (.slice A nl cap) l:=by
 have hO:=H.ownX k hl hk;obtain⟨h1,h2|⟨g,c,cur,e,hg,rest⟩⟩:=hO;·exact⟨h1,.inl h2⟩
 ·refine⟨h1,.inr ⟨g,c,cur,e,?_,rest⟩⟩;injection e with e1;subst e1;exact(H.own k _ g hk rfl rfl).resolve_left (by simp)
end
section
variable {α : Type} {cf : α → List Value} {E size : Nat} {w w' : World} {A : Option Addr} {cap : Nat} {l : List α}
def CP (cf:α→List Value) (E size:Nat) (w:World) (A:Option Addr) (cap:Nat) (l:List α):Prop:=l.length≤cap∧cap≤maxLen∧((A=none∧cap=0)∨∃g off vs,A=some ⟨g,off,none⟩∧Blk w g E vs∧off+cap*size≤vs.length∧(vs.drop off).take (l.length*size)=l.flatMap cf)
def bkO (A:Option Addr):List Nat:=(A.map (·.block)).toList
theorem CP.st:StX (bkO A) (fun w=>CP cf E size w A cap l):=fun w w' _ he h=>by
 refine⟨h.1,h.2.1,?_⟩;rcases h.2.2 with h|⟨g,off,vs,hA,hB,hr⟩;·exact .inl h
 ·refine .inr ⟨g,off,vs,hA,(he g ?_).trans hB,hr⟩;unfold bkO;rw[hA];simp
theorem CP.stq (w w':World) (h1: ∀a,A=some a→w'.heap[a.block]? = w.heap[a.block]?) (h2:w.heap.size≤w'.heap.size) (h:CP cf E size w A cap l):CP cf E size w' A cap l:=CP.st w w' h2 (fun x hx=>by
 unfold bkO at hx;rw[Option.mem_toList,Option.map_eq_some_iff] at hx;obtain⟨a,ha,rfl⟩:=hx;exact h1 a ha) h
theorem CP.lt (h:CP cf E size w A cap l): ∀a,A=some a→a.block<w.heap.size:=fun a ha=>by
 rcases h.2.2 with⟨h,_⟩|⟨g,off,vs,hA,hB,hr⟩;·rw[h] at ha;cases ha
 ·rw[hA] at ha;injection ha with ha;subst ha;exact Blk.lt hB
theorem CP.rd (h:CP cf E size w A cap l) (hcl: ∀x,(cf x).length=size):RdX cf w A l:=fun h0=>by
 rcases h.2.2 with⟨_,h1⟩|⟨g,off,vs,hA,hB,h1,h2⟩;·have:=h.1;omega
 ·refine⟨g,off,hA,Blk.lt hB,fun j u hj=>?_⟩;rw[←h2,List.getElem?_take] at hj;split at hj
  ·rw[List.getElem?_drop] at hj;rw[hB.cell];exact hj
  ·cases hj
theorem CP.none_:CP cf E size w none 0 []:=⟨Nat.le_refl _,Nat.zero_le _,.inl ⟨rfl,rfl⟩⟩
theorem BK.toO (hcl: ∀x,(cf x).length=size) (h:BK cf E size w 0 (.slice A l.length cap) l):CP cf E size w A cap l:=by
 obtain⟨h1,⟨h2,h3⟩|⟨g,c,cur,e,_,hh,hc,hm,hs,ht⟩⟩:=h
 ·injection h2 with h4 h5 h6;subst h4;subst h6;exact⟨by omega,by unfold maxLen;omega,.inl ⟨rfl,rfl⟩⟩
 ·injection e with e1 e2 e3;subst e1;subst e3;refine⟨hc,hm,.inr ⟨g,0,cur.toList,rfl,hh,by simp[hs],?_⟩⟩;simpa using ht
theorem CP.cut (hcl: ∀x,(cf x).length=size) {x:α} {g off:Nat} (h:CP cf E size w (some ⟨g,off,none⟩) cap (x::l)):CP cf E size w (some ⟨g,off+1*size,none⟩) (cap-1) l:=by
 obtain⟨h1,h2,⟨h3,_⟩|⟨g',off',vs,e,hB,h3,h4⟩⟩:=h;·cases h3
 injection e with e;injection e with e1 e2;subst e1;subst e2;simp only[List.length_cons] at h1 h4;refine⟨by omega,by omega,.inr ⟨g,off+1*size,vs,rfl,hB,?_,?_⟩⟩
 ·have:1*size+(cap-1)*size=cap*size:=by rw[←Nat.add_mul];congr 1;omega
  omega
 ·have e2:((vs.drop off).take ((l.length+1)*size)).drop size=((x::l).flatMap cf).drop size:=by rw[h4]
  rw[List.flatMap_cons,List.drop_left' (hcl x),List.drop_take,List.drop_drop] at e2;rw[Nat.one_mul,←e2];congr 1
  rw[Nat.succ_mul];omega
def IA (g off cap size:Nat):Option Addr:=if cap=1 then some ⟨g,off,none⟩ else some ⟨g,off+1*size,none⟩
theorem CP.cutS (hcl: ∀x,(cf x).length=size) {x:α} {g off:Nat} (h:CP cf E size w (some ⟨g,off,none⟩) cap (x::l)):CP cf E size w (IA g off cap size) (cap-1) l:=by
 unfold IA;split
 ·rename_i hc;obtain⟨h1,h2,⟨h3,_⟩|⟨g',off',vs,e,hB,h3,h4⟩⟩:=h;·cases h3
  subst hc;simp only[List.length_cons] at h1;have hl:l=[]:=List.eq_nil_of_length_eq_zero (by omega);subst hl;exact⟨Nat.le_refl _,Nat.zero_le _,.inr ⟨g',off',vs,e,hB,by omega,by simp⟩⟩
 ·exact h.cut hcl
theorem XL (g off cap size:Nat):bkO (IA g off cap size)=[g]:=by
 unfold IA;split<;>rfl
variable {P : Program} {tS bytes : Nat}
theorem run_appO (ht:ElemT P tS E size bytes) (ty:TypeId) (hone: ∀x,∀u∈cf x,u.oneCell'=true) (hcl: ∀x,(cf x).length=size) (h:CP cf E size w A cap l) {b o:Nat} (c:Nat) (gs:List α) (h0:0<gs.length) (hr:RdX cf w (some ⟨b,o,none⟩) gs)
  (hlen:l.length+gs.length≤maxLen) (hby:(l.length+gs.length)*bytes≤140737488355328) :
  ∃A' cap' w',(Builtin.append_ #[tS,tS] ty #[.slice A l.length cap,.slice (some ⟨b,o,none⟩) gs.length c]).run P w = .ok (.slice A' (l.length+gs.length) cap') w'∧CP cf E size w' A' cap' (l++gs)∧Only (bkO A) w w'∧(A'=A∨∀a,A'=some a→w.heap.size≤a.block):=by
 have hgl:=FZ hcl gs;have hll:=FZ hcl l;have ht0:=ht;obtain⟨hu,⟨i0,z,hi,hz0,hz1,hz2,hzs⟩,hpos⟩:=ht;obtain⟨b',o',e,hb,hc⟩:=hr h0;injection e with e;injection e with e1 e2;subst e1;subst e2;have hn: ∀j u,(gs.flatMap cf)[j]? = some u→w.cell? ((⟨b,o,none⟩:Addr).add j)=some u:=fun j u hj=>by rw[Addr.add_lit];exact hc j u hj
 have h1c: ∀u∈gs.flatMap cf,u.oneCell'=true:=fun u hu=>by
  obtain⟨x,_,hx⟩:=List.mem_flatMap.1 hu;exact hone x u hx
 rcases h.2.2 with⟨rfl,rfl⟩|⟨g,off,vs,rfl,hB,hcap,hl⟩
 ·have hl0:l=[]:=List.eq_nil_of_length_eq_zero (by have:=h.1;omega);subst hl0;obtain⟨v',w',e,h2,h3,h4⟩:=OG (P:=P) (base:=0) ht0 ty hone (ownX_nil (w:=w)) (some ⟨b,o,none⟩) c gs hgl hr (by simpa using hlen) (by simpa using hby) (Nat.zero_le _);obtain⟨A',cap',rfl,hle,hmax,_,hbl⟩:=h2.form;simp only[List.nil_append,List.length_nil,Nat.zero_add] at h2 h4 e⊢;refine⟨A',cap',w',e,h2.toO hcl,h3,?_⟩;rcases h4 with h4|h4
  ·left;cases A' with
   |none=>rfl
   |some a=>cases h4
  ·right;intro a ha;subst ha;injection h4 with h4;omega
 ·by_cases hroom:l.length+gs.length≤cap
  ·have hst:=run_storeCells_cells (P:=P) g (off+l.length*size) (gs.flatMap cf) 0 w (fun j hj=>by
    have:=FW hB (off+l.length*size) (gs.length*size) (by
     have:(l.length+gs.length)*size≤cap*size:=Nat.mul_le_mul_right _ hroom;rw[Nat.add_mul] at this;omega) j (by rw[←hgl];exact hj)
    simpa using this.1) (fun j hj=>by
    have:=FW hB (off+l.length*size) (gs.length*size) (by
     have:(l.length+gs.length)*size≤cap*size:=Nat.mul_le_mul_right _ hroom;rw[Nat.add_mul] at this;omega) j (by rw[←hgl];exact hj)
    simpa using this.2) h1c
   simp only[Nat.add_zero] at hst;have hf:=run_firstCells_some (P:=P) w i0.size gs.length ⟨b,o,none⟩ gs.length c (gs.flatMap cf) (by rw[hz1];exact hgl) (by simpa using hn);refine⟨some ⟨g,off,none⟩,cap,w.setCells g (off+l.length*size) (gs.flatMap cf),?_,?_,?_,.inl rfl⟩
   ·rw[hz1] at hf;simp[Builtin.append_,run_underlying hu,sizeOf,typeInfo,hi,hz1,Builtin.lenOf,hf,hroom,Addr.add_mid,hst]
   ·have hle:off+l.length*size+(gs.flatMap cf).length≤vs.length:=by
     have:(l.length+gs.length)*size≤cap*size:=Nat.mul_le_mul_right _ hroom;rw[Nat.add_mul] at this;omega
    refine⟨by rw[List.length_append];exact hroom,h.2.1,.inr ⟨g,off,_,rfl,GF _ _ _ _ hB hle,?_,?_⟩⟩;·simp only[BS,List.length_append,List.length_take,List.length_drop];omega
    ·rw[List.flatMap_append,←hl];unfold BS;rw[List.drop_append_of_le_length (by rw[List.length_take];omega)];rw[List.drop_take,show off+l.length*size-off=l.length*size by omega];rw[List.length_append,Nat.add_mul,List.take_append,List.length_take,List.length_drop];rw[show min (l.length*size) (vs.length-off)=l.length*size by omega];rw[show l.length*size+gs.length*size-l.length*size=gs.length*size by omega];rw[List.take_append_of_le_length (by omega),List.take_take,show min (l.length*size+gs.length*size) (l.length*size)=l.length*size by omega];congr 1
     exact List.take_of_length_le (by omega)
   ·exact(FK _ _ _).mono (by simp[bkO])
  ·have holds: ∀j u,(l.flatMap cf)[j]? = some u→w.cell? ((⟨g,off,none⟩:Addr).add j)=some u:=fun j u hj=>by
    rw[Addr.add_lit];have h0:0<l.length:=by
     rcases Nat.eq_zero_or_pos l.length with h0|h0
     ·have:l=[]:=List.eq_nil_of_length_eq_zero h0;subst this;simp at hj
     ·exact h0
    obtain⟨b2,o2,e2,_,hc2⟩:=h.rd hcl h0;injection e2 with e2;injection e2 with e3 e4;subst e3;subst e4;exact hc2 j u hj
   have hrun:=run_append_grow (P:=P) w tS ty E i0 z hu hi hz0 ⟨g,off,none⟩ l.length cap (l.flatMap cf) (by rw[hz1];exact hll) holds ⟨b,o,none⟩ gs.length c (gs.flatMap cf) (by rw[hz1];exact hgl) hn (by omega) (by unfold maxLen at hlen;omega) (growslice_fits (by omega) (by rw[hz2];exact hby));obtain⟨Z,hZ⟩: ∃Z,Builtin.zeroCells z.cells (grownCap w (l.length+gs.length) cap E-(l.length+gs.length))=Z:=⟨_,rfl⟩;have hZl:Z.toList.length=(grownCap w (l.length+gs.length) cap E-(l.length+gs.length))*size:=by rw[←hZ,zero_len,hzs]
   rw[hZ] at hrun;have harr:(l.flatMap cf).toArray++(gs.flatMap cf).toArray++Z=((l.flatMap cf++gs.flatMap cf)++Z.toList).toArray:=by
    apply Array.ext';simp
   rw[harr] at hrun;refine⟨_,_,_,hrun,?_,(((Only.refl [] w).drew).alloc _).mono (by simp),.inr fun a ha=>by injection ha with ha;subst ha;exact Nat.le_refl _⟩;refine⟨by rw[List.length_append];exact grownCap_ge _ _ _ _,grownCap_le_maxLen _ _ _ _ hlen,.inr ⟨w.heap.size,0,_,rfl,heap_alloc_new w.drew _,?_,?_⟩⟩
   ·have hge:=grownCap_ge w (l.length+gs.length) cap E;rw[List.length_append,List.length_append,hll,hgl,hZl,Nat.zero_add,←Nat.add_mul,←Nat.add_mul];exact Nat.mul_le_mul_right _ (by omega)
   ·rw[List.drop_zero,List.flatMap_append,List.length_append,Nat.add_mul];have e3:l.length*size+gs.length*size=(l.flatMap cf++gs.flatMap cf).length:=by rw[List.length_append,hll,hgl]
    rw[e3];exact List.take_left
theorem run_cut (ht:ElemT P tS E size bytes) {g off n cap:Nat} (hn:1≤n) (w:World):(Instr.sliceAt tS (.slice (some ⟨g,off,none⟩) n cap) (some (.int .i64 1)) none none).run P w = .ok (.slice (IA g off cap size) (n-1) (cap-1)) w:=by
 have hu:P.underlying tS=some (.slice (P.elem tS)):=by rw[ht.elem];exact ht.ht
 rw[run_sliceAt_slice (h:=hu),run_slice_l (ht:=hu) (h0:=by omega) (h1:=by omega),ht.elem,ht.sizeOf];simp only[Result.andThen_ok,sliced,IA];congr 2
 split;·rename_i h;simp at h;simp[h]
 ·rename_i h;simp at h;simp[h,Addr.add_lit]
def HB.oo (cf:α→List Value) (E size:Nat) (A:Option Addr) (cap:Nat) (l:List α):HB:=.q true A (fun w=>CP cf E size w A cap l) CP.stq
end
section
variable {P : Program} {f : FuncId} {R : Ending → World → Prop} {n : Nat} {w0 : World} {L : List Nat} {β : List Nat} {m : SM}
variable {α : Type} {cf : α → List Value} {E size tS bytes : Nat} {A : Option Addr} {cap : Nat} {l : List α}
theorem Hs.appO (k:Nat) (ht:ElemT P tS E size bytes) (l gs:List α) (nl ng:Nat) (hl:l.length=nl) (hg:gs.length=ng) {b o c ty:Nat} (hone: ∀x,∀u∈cf x,u.oneCell'=true) (hcl: ∀x,(cf x).length=size)
  (hs:FN n β m=some (IY (Builtin.append_ #[tS,tS] ty #[.slice A nl cap,.slice (some ⟨b,o,none⟩) ng c]))) (hk:m.hp[k]? = some (HB.oo cf E size A cap l)) (hrd:(FS m).contains k=false) (h0:0<ng)
  (hr: ∀w,Mem w0 L β m.hp w→RdX cf w (some ⟨b,o,none⟩) gs) (hlen:nl+ng≤maxLen) (hby:(nl+ng)*bytes≤140737488355328)
  (h: ∀A' cap',Hs P f R n w0 L β (m.put (BF m) (.c (.v (.slice A' (nl+ng) cap'))) (m.hp.set k (HB.oo cf E size A' cap' (l++gs))))):Hs P f R n w0 L β m:=by
 subst hl;subst hg;refine Hs.opW hs fun w H W=>?_;have ho:CP cf E size w A cap l:=H.atQ k (wr:=true) (A:=A) (Q:=fun w=>CP cf E size w A cap l) (st:=CP.stq) hk;obtain⟨A',cap',w',h1,h2,h3,h4⟩:=run_appO (P:=P) ht ty hone hcl ho c gs h0 (hr w H) hlen hby;have hq:(HB.oo cf E size A' cap' (l++gs)).lies w' β (nm β k):=⟨h2,h2.lt⟩;refine⟨[],.c (.v (.slice A' (l.length+gs.length) cap')),m.hp.set k (HB.oo cf E size A' cap' (l++gs)),w',h1,?_,?_,fun i hi b hh=>?_,by rw[List.append_nil];exact h A' cap'⟩
 ·rw[List.append_nil];refine H.swap k hk h3 (fun x hx=>?_) rfl hq (fun x hx=>?_)
  ·unfold bkO at hx;rw[Option.mem_toList] at hx;exact hx
  ·rcases h4 with h4|h4;·left;subst h4;exact hx
   ·right;simp only[HB.oo,HB.blk,Option.map_eq_some_iff] at hx;obtain⟨a,ha,rfl⟩:=hx;exact h4 a ha
 ·simp only[SV.wf,SC.wf,Bool.true_and,Bool.and_eq_true,Nat.ble_eq,List.length_set];exact⟨Nat.le_refl _,ZG (SM.wf_hp W) rfl⟩
 ·rw[List.getElem?_set,if_neg (fun e=>by
   subst e;simp at hrd;exact hrd hi)]
  exact hh
theorem Hs.cutN (ht:ElemT P tS E size bytes) {g off len cap:Nat} (hn:1≤len) (hs:FN n β m=some (IY (Instr.sliceAt tS (.slice (some ⟨g,off,none⟩) len cap) (some (.int .i64 1)) none none))) (h:Hs P f R n w0 L β (m.put (BF m) (.c (.v (.slice (IA g off cap size) (len-1) (cap-1)))) m.hp)):Hs P f R n w0 L β m:=
 Hs.opV (.c (.v (.slice (IA g off cap size) (len-1) (cap-1)))) hs rfl (fun w _=>run_cut ht hn w) h
end
section
variable {P : Program} {f : FuncId} {R : Ending → World → Prop} {n : Nat} {w0 : World} {L : List Nat} {β : List Nat} {m : SM}
variable {tS E size bytes : Nat}
theorem run_sloA (ht:ElemT P tS E size bytes) {A:Option Addr} {n cap i:Nat} (hn:i≤n) (w:World):(Instr.sliceAt tS (.slice A n cap) (some (.int .i64 i)) none none).run P w = .ok (sliced A i n cap size) w:=by
 have hu:P.underlying tS=some (.slice (P.elem tS)):=by rw[ht.elem];exact ht.ht
 rw[run_sliceAt_slice (h:=hu),run_slice_l (ht:=hu) (h0:=by omega) (h1:=by omega),ht.elem,ht.sizeOf];simp only[Result.andThen_ok,Int.toNat_natCast]
theorem Mem.reS {w w':World} {hp:List HB} (H:Mem w0 L β hp w) (k:Nat) {g cap nl nl':Nat} {vs vs':List Value} (hk:hp[k]? = some (.s (some ⟨g,0,none⟩) cap nl E size vs)) (O:Only [g] w w') (hO:w'.ownsRow 0 E size (.slice (some ⟨g,0,none⟩) nl' cap) nl' vs'):Mem w0 L β (hp.set k (.s (some ⟨g,0,none⟩) cap nl' E size vs')) w':=
 H.swap k hk O (fun x hx=>by simp only[List.mem_singleton] at hx;subst hx;rfl) rfl hO (fun x hx=>.inl hx)
end
end Go.Proofs.YtkgikodiecmakaaGreatDoor
namespace Go.Proofs.YtkgikodiecmakaaGreatDoor
open Go.RowKit Go.MapKept
section
variable {P : Program} {f : FuncId} {R : Ending → World → Prop} {n : Nat} {w0 : World} {L : List Nat} {β : List Nat} {m : SM}
variable {κ : Type} [DecidableEq κ]
structure KeyT (P : Program) (T kt et : TypeId) (z : Value) (ke : κ → Value) : Prop where
  hm : P.underlying T = some (.map kt et)
  zero : ∀ w, (zeroValue et).run P w = .ok z w
  d : ∃ d, P.underlying kt = some d ∧ ∀ a, IsKey d (ke a)
  inj : ∀ a b, ke a = ke b → a = b
def BM (ke:κ→Value) (w:World) (r:Nat) (es:List (κ×Value)):Prop:=∃(a:Array MapEntry) (clock:Nat),w.heap[r]? = some (.map a clock)∧a.toList.map (fun e=>(e.key,e.val))=es.map (fun p=>(ke p.1,p.2))∧Stamped a clock
def BO (k:κ):List (κ×Value)→Option Value
 |[]=>none
 |p::es=>if p.1=k then some p.2 else BO k es
variable {T kt et : TypeId} {z : Value} {ke : κ → Value}
theorem OX {d:TypeDesc} (hk: ∀a,IsKey d (ke a)) (hi: ∀a b,ke a=ke b→a=b) (k:κ): ∀(l:List MapEntry) (es:List (κ×Value)) (i:Nat),l.map (fun e=>(e.key,e.val))=es.map (fun p=>(ke p.1,p.2))→∃o:Option (Nat×Value),Instr.findNow d (ke k) l i=some o∧o.map (·.2)=BO k es
 |[],[],i,_=>⟨none,rfl,rfl⟩
 |[],_::_,i,h=>by simp at h
 |_::_,[],i,h=>by simp at h
 |e::l,p::es,i,h=>by
  simp only[List.map_cons,List.cons.injEq,Prod.mk.injEq] at h;obtain⟨⟨h1,h2⟩,h3⟩:=h;obtain⟨r,hr,hiff⟩:=sameNow_of_keys (hk k) (show IsKey d e.key by rw[h1];exact hk _);cases r with
  |true=>
   have e1:p.1=k:=hi _ _ (by rw[←h1];exact(hiff.1 rfl).symm);exact⟨some (i,e.val),by simp[Instr.findNow,hr],by simp[BO,e1,h2]⟩
  |false=>
   have e1: ¬p.1=k:=fun he=>by
    have:=hiff.2 (by rw[h1,he]);cases this
   obtain⟨o,ho1,ho2⟩:=OX hk hi k l es (i+1) h3;exact⟨o,by simp[Instr.findNow,hr,ho1],by simp[BO,e1,ho2]⟩
theorem WR (ht:KeyT P T kt et z ke) {w:World} {r:Nat} {es:List (κ×Value)} (hM:BM ke w r es) (k:κ) (ok:Bool):(Instr.lookup T (.map (some r)) (ke k) ok).run P w = .ok (if ok then .tuple #[(BO k es).getD z,.bool (BO k es).isSome] else(BO k es).getD z) w:=by
 obtain⟨d,hd,hk⟩:=ht.d;obtain⟨a,clock,hb,he,hst⟩:=hM;obtain⟨o,ho1,ho2⟩:=OX hk ht.inj k a.toList es 0 he;have hck:=run_checkKey (w:=w) hd (hk k) a.isEmpty 9999;have hf:=run_findKey (w:=w) hd ho1;rw[←ho2];cases o with
 |none=>simp[Instr.lookup,run_underlying ht.hm,MapKept.run_getObj_map hb,hck,hf,ht.zero w,Result.andThen]
 |some p=>simp[Instr.lookup,run_underlying ht.hm,MapKept.run_getObj_map hb,hck,hf,Result.andThen]
theorem SK {k:κ} (hi: ∀a b,ke a=ke b→a=b): ∀{l:List MapEntry} {es:List (κ×Value)},l.map (fun e=>(e.key,e.val))=es.map (fun p=>(ke p.1,p.2))→BO k es=none→∀x∈l,x.key≠ke k
 |[],es,_,_,x,hx=>by cases hx
 |e::l,[],h,_,x,hx=>by simp at h
 |e::l,p::es,h,hn,x,hx=>by
  simp only[List.map_cons,List.cons.injEq,Prod.mk.injEq] at h;obtain⟨⟨h1,_⟩,h3⟩:=h;unfold BO at hn;split at hn;·cases hn
  ·rename_i hne;rcases List.mem_cons.1 hx with rfl|hx;·intro e2;exact hne (hi _ _ (h1.symm.trans e2))
   ·exact SK hi h3 hn x hx
theorem bD (ht:KeyT P T kt et z ke) {w:World} {r:Nat} {es:List (κ×Value)} (hM:BM ke w r es) (k:κ) (hn:BO k es=none) (v:Value): ∃w',(Instr.mapUpdate T (.map (some r)) (ke k) v).run P w = .ok () w'∧BM ke w' r (es++[(k,v)])∧Only [r] w w':=by
 obtain⟨d,hd,hk⟩:=ht.d;obtain⟨a,clock,hb,he,hst⟩:=hM;obtain⟨o,ho1,ho2⟩:=OX hk ht.inj k a.toList es 0 he;rw[hn] at ho2;have ho:o=none:=by cases o with
  |none=>rfl
  |some p=>cases ho2
 subst ho;have hck:=run_checkKey (w:=w) hd (hk k) false 9999;have hf:=run_findKey (w:=w) hd ho1;have hs:=heap_set (o':=.map (a.push { key:=ke k,val:=v,born:=clock }) (clock+1)) hb;refine⟨{ w with heap:=w.heap.setIfInBounds r (.map (a.push { key:=ke k,val:=v,born:=clock }) (clock+1)) },?_,⟨_,_,hs.1,by simp[he],stamped_push hst (SK ht.inj he hn)⟩,⟨rfl,rfl,rfl,by simp,fun b _ hb=>hs.2 b (by simpa using hb)⟩⟩;simp[Instr.mapUpdate,run_underlying ht.hm,MapKept.run_getObj_map hb,hck,hf,MapKept.run_setObj_map _ hb,Result.andThen]
theorem BM.st {r:Nat} {es:List (κ×Value)} (w w':World) (h1: ∀a,(some ⟨r,0,none⟩:Option Addr)=some a→w'.heap[a.block]? = w.heap[a.block]?) (h2:w.heap.size≤w'.heap.size) (h:BM ke w r es):BM ke w' r es:=by
 obtain⟨a,clock,hb,he,hst⟩:=h;exact⟨a,clock,(h1 _ rfl).trans hb,he,hst⟩
theorem BM.only {r:Nat} {es:List (κ×Value)} {w w':World} (h:BM ke w r es) (O:Only L w w') (hr:r∉L):BM ke w' r es:=by
 obtain⟨a,clock,hb,he,hst⟩:=h;exact⟨a,clock,(O.block r (Array.getElem?_eq_some_iff.1 hb).1 hr).trans hb,he,hst⟩
theorem BM.lt {r:Nat} {es:List (κ×Value)} {w:World} (h:BM ke w r es):r<w.heap.size:=by
 obtain⟨a,clock,hb,he,hst⟩:=h;exact(Array.getElem?_eq_some_iff.1 hb).1
def HB.mp (ke:κ→Value) (r:Nat) (es:List (κ×Value)):HB:=.q true (some ⟨r,0,none⟩) (fun w=>BM ke w r es) BM.st
theorem Hs.mkM (ke:κ→Value) (hs:FN n β m=some (IY (Instr.makeMap T none))) (hrd:(FS m).all (fun k=>Nat.blt k m.hp.length)=true) (h: ∀r,Hs P f R n w0 L (β++[r]) (m.put (BF m) (.c (.v (.map (some r)))) (m.hp++[HB.mp ke r []]))):Hs P f R n w0 L β m:=by
 refine Hs.opW hs fun w H W=>?_;have hw:=SM.wf_hp W;refine⟨[w.heap.size],.c (.v (.map (some w.heap.size))),m.hp++[HB.mp ke w.heap.size []],_,rfl,H.push (by rw[H.len];exact hw) ((Only.refl _ _).alloc _) (fun x hx=>?_) ⟨⟨#[],0,heap_alloc_new w _,rfl,stamped_empty 0⟩,fun a ha=>?_⟩,?_,fun k hk b hh=>?_,h _⟩;·simp only[HB.mp,HB.blk,Option.map_some,Option.some.injEq] at hx;omega
 ·injection ha with ha;subst ha;show w.heap.size<(w.heap.push _).size;rw[Array.size_push];exact Nat.lt_succ_self _
 ·simp only[SV.wf,SC.wf,Bool.true_and,Bool.and_eq_true,Nat.ble_eq,List.length_append,List.length_cons,List.length_nil,List.all_append,List.all_cons,List.all_nil,Bool.and_true];refine⟨by omega,List.all_eq_true.2 fun y hy=>?_,rfl⟩;have h1:=List.all_eq_true.1 hw y hy;cases y with
  |no=>rfl
  |s=>rfl
  |q=>rfl
  |r _ _ _=>rfl
  |b _ _ cs=>exact List.all_eq_true.2 fun z hz=>SC.wf_mono (by omega) (List.all_eq_true.1 h1 z hz)
 ·rw[List.getElem?_append_left (List.getElem?_eq_some_iff.1 hh).1];exact hh
theorem Hs.putM (k:Nat) (ht:KeyT P T kt et z ke) {r:Nat} {es:List (κ×Value)} (key:κ) (v:Value) (hn:BO key es=none) (hs:FN n β m=some (UH (Instr.mapUpdate T (.map (some r)) (ke key) v))) (hk:m.hp[k]? = some (HB.mp ke r es)) (hrd:(FS m).contains k=false)
  (h:Hs P f R n w0 L β (m.put (BF m) (.c (.v undef)) (m.hp.set k (HB.mp ke r (es++[(key,v)]))))):Hs P f R n w0 L β m:=by
 refine Hs.opU hs fun w H W=>?_;have hM:BM ke w r es:=H.atQ k (wr:=true) (A:=some ⟨r,0,none⟩) (Q:=fun w=>BM ke w r es) (st:=BM.st) hk;obtain⟨w',hr,hM',O⟩:=bD ht hM key hn v;have hl:(HB.mp ke r (es++[(key,v)])).lies w' β (nm β k):=⟨hM',fun a ha=>by injection ha with ha;subst ha;exact hM'.lt⟩;refine⟨m.hp.set k (HB.mp ke r (es++[(key,v)])),w',hr,H.swap k hk O (fun x hx=>by simp only[List.mem_singleton] at hx;subst hx;rfl) rfl hl (fun x hx=>.inl hx),?_,fun j hj b hb=>?_,h⟩
 ·simp only[Bool.and_eq_true,Nat.ble_eq,List.length_set];exact⟨Nat.le_refl _,ZG (SM.wf_hp W) rfl⟩
 ·rw[List.getElem?_set,if_neg (fun e=>by
   subst e;simp at hrd;exact hrd hj)]
  exact hb
theorem Mem.mapM {w:World} {hp:List HB} (H:Mem w0 L β hp w) (k:Nat) {r:Nat} {es:List (κ×Value)} (hk:hp[k]? = some (HB.mp ke r es)):BM ke w r es:=
 H.atQ k (wr:=true) (A:=some ⟨r,0,none⟩) (Q:=fun w=>BM ke w r es) (st:=BM.st) hk
theorem Hs.getM (ht:KeyT P T kt et z ke) {r:Nat} {es:List (κ×Value)} (key:κ) (ok:Bool) (v:Value) (hv:(if ok then .tuple #[(BO key es).getD z,.bool (BO key es).isSome] else(BO key es).getD z)=v) (hs:FN n β m=some (IY (Instr.lookup T (.map (some r)) (ke key) ok))) (hM: ∀w,Mem w0 L β m.hp w→BM ke w r es)
  (h:Hs P f R n w0 L β (m.put (BF m) (.c (.v v)) m.hp)):Hs P f R n w0 L β m:=
 Hs.opV (.c (.v v)) hs rfl (fun w H=>by rw[WR ht (hM w H) key ok,hv];rfl) h
def kI (q:IntKind) (k:Int):Value:=.int q k
theorem kI_inj {q:IntKind} (a b:Int) (h:kI q a=kI q b):a=b:=by injection h
end
end Go.Proofs.YtkgikodiecmakaaGreatDoor
namespace Go.Proofs.YtkgikodiecmakaaGreatDoor
open Go.RowKit Go.MapKept
section
variable {κ : Type} [DecidableEq κ]
def setE (k:κ) (v:Value):List (κ×Value)→List (κ×Value)
 |[]=>[(k,v)]
 |p::es=>if p.1=k then(k,v)::es else p::setE k v es
def delE (k:κ):List (κ×Value)→List (κ×Value)
 |[]=>[]
 |p::es=>if p.1=k then es else p::delE k es
theorem bJ {k:κ} (v:Value): ∀{es:List (κ×Value)},BO k es=none→setE k v es=es++[(k,v)]
 |[],_=>rfl
 |p::es,h=>by
  unfold BO at h;split at h;·cases h
  ·rename_i h1;unfold setE;rw[if_neg h1,bJ v h];rfl
theorem SO {α γ:Type} (g:α→γ) (f:α→α) (c:γ) (hc: ∀e,g (f e)=c): ∀(l:List α) (q:Nat),(l.modify q f).map g=(l.map g).set q c
 |[],q=>by cases q<;>rfl
 |a::l,0=>by simp[hc]
 |a::l,q+1=>by simp[SO g f c hc l q]
end
section
variable {P : Program} {f : FuncId} {R : Ending → World → Prop} {n : Nat} {w0 : World} {L : List Nat} {β : List Nat} {m : SM}
variable {κ : Type} [DecidableEq κ]
variable {T kt et : TypeId} {z : Value} {ke : κ → Value}
theorem VR {d:TypeDesc} (hk: ∀a,IsKey d (ke a)) (hi: ∀a b,ke a=ke b→a=b) (k:κ): ∀(l:List MapEntry) (es:List (κ×Value)) (i:Nat),l.map (fun e=>(e.key,e.val))=es.map (fun p=>(ke p.1,p.2))→∃o:Option (Nat×Value),Instr.findNow d (ke k) l i=some o∧(match o with
  |none=>BO k es=none
  |some (j,v)=>∃q,j=i+q∧(∃e,l[q]? = some e∧e.key=ke k)∧BO k es=some v∧(∀v',setE k v' es=es.set q (k,v'))∧delE k es=es.eraseIdx q)
 |[],[],i,_=>⟨none,rfl,rfl⟩
 |[],_::_,i,h=>by simp at h
 |_::_,[],i,h=>by simp at h
 |e::l,p::es,i,h=>by
  simp only[List.map_cons,List.cons.injEq,Prod.mk.injEq] at h;obtain⟨⟨h1,h2⟩,h3⟩:=h;obtain⟨r,hr,hiff⟩:=sameNow_of_keys (hk k) (show IsKey d e.key by rw[h1];exact hk _);cases r with
  |true=>
   have e1:p.1=k:=hi _ _ (by rw[←h1];exact(hiff.1 rfl).symm);exact⟨some (i,e.val),by simp[Instr.findNow,hr],0,rfl,⟨e,rfl,by rw[h1,e1]⟩,by simp[BO,e1,h2],fun v'=>by simp[setE,e1],by simp[delE,e1]⟩
  |false=>
   have e1: ¬p.1=k:=fun he=>by
    have:=hiff.2 (by rw[h1,he]);cases this
   obtain⟨o,ho1,ho2⟩:=VR hk hi k l es (i+1) h3;refine⟨o,by simp[Instr.findNow,hr,ho1],?_⟩;cases o with
   |none=>simpa[BO,e1] using ho2
   |some jv=>
    obtain⟨j,v⟩:=jv;obtain⟨q,h4,h5,h6,h7,h8⟩:=ho2;exact⟨q+1,by omega,by simpa using h5,by simpa[BO,e1] using h6,fun v'=>by simp[setE,e1,h7],by simp[delE,e1,h8]⟩
theorem ZD {d:TypeDesc} {v:Value} (h:IsKey d v):Instr.sameBits 10000 v v=true:=by
 unfold IsKey at h;split at h;·simp[Instr.sameBits]
 ·simp[Instr.sameBits]
 ·rename_i s;unfold Instr.sameBits;rw[show(s==s)=(s.data==s.data) from rfl];exact beq_self_eq_true _
 ·exact h.elim
theorem run_setM (ht:KeyT P T kt et z ke) {w:World} {r:Nat} {es:List (κ×Value)} (hM:BM ke w r es) (k:κ) (v:Value): ∃w',(Instr.mapUpdate T (.map (some r)) (ke k) v).run P w = .ok () w'∧BM ke w' r (setE k v es)∧Only [r] w w':=by
 cases hn:BO k es with
 |none=>
  rw[bJ v hn];exact bD ht hM k hn v
 |some v0=>
  obtain⟨d,hd,hk⟩:=ht.d;obtain⟨a,clock,hb,he,hst⟩:=hM;obtain⟨o,ho1,ho2⟩:=VR hk ht.inj k a.toList es 0 he;cases o with
  |none=>rw[hn] at ho2;cases ho2
  |some jv=>
   obtain⟨j,v1⟩:=jv;obtain⟨q,rfl,⟨e,he1,he2⟩,_,h7,_⟩:=ho2;rw[Nat.zero_add] at ho1;have hck:=run_checkKey (w:=w) hd (hk k) false 9999;have hf:=run_findKey (w:=w) hd ho1;have hs:=heap_set (o':=.map (a.modify q fun e=>{ e with key:=ke k,val:=v }) clock) hb;have hkey:((a[q]?).map (·.key)).getD (ke k)=ke k:=by
    rw[←Array.getElem?_toList,he1];exact he2
   have hkt:(Instr.keyThatStays (ke k) (ke k)).run P w = .ok (ke k) w:=by
    unfold Instr.keyThatStays;rw[if_pos (ZD (hk k))];rfl
   refine⟨{ w with heap:=w.heap.setIfInBounds r (.map (a.modify q fun e=>{ e with key:=ke k,val:=v }) clock) },?_,⟨_,_,hs.1,?_,stamped_modify hst q _ (fun _ _=>rfl) (fun e' _ h'=>by rw[←Array.getElem?_toList,he1] at h';injection h' with h';rw[←h',he2])⟩,⟨rfl,rfl,rfl,by simp,fun b _ hb=>hs.2 b (by simpa using hb)⟩⟩
   ·have hset:=MapKept.run_setObj_map (P:=P) (.map (a.modify q fun e=>{ e with key:=ke k,val:=v }) clock) hb;simp only[Instr.mapUpdate,Sem.run_bind,run_underlying ht.hm,Result.andThen_ok,MapKept.run_getObj_map hb,hck,hf,hkey,hkt];exact hset
   ·rw[Array.toList_modify,SO (fun e:MapEntry=>(e.key,e.val)) (fun e=>{ e with key:=ke k,val:=v }) (ke k,v) (fun _=>rfl),he,h7,List.map_set]
theorem Hs.setM (k:Nat) (ht:KeyT P T kt et z ke) {r:Nat} {es:List (κ×Value)} (key:κ) (v:Value) (hs:FN n β m=some (UH (Instr.mapUpdate T (.map (some r)) (ke key) v))) (hk:m.hp[k]? = some (HB.mp ke r es)) (hrd:(FS m).contains k=false)
  (h:Hs P f R n w0 L β (m.put (BF m) (.c (.v undef)) (m.hp.set k (HB.mp ke r (setE key v es))))):Hs P f R n w0 L β m:=by
 refine Hs.opU hs fun w H W=>?_;have hM:BM ke w r es:=H.atQ k (wr:=true) (A:=some ⟨r,0,none⟩) (Q:=fun w=>BM ke w r es) (st:=BM.st) hk;obtain⟨w',hr,hM',O⟩:=run_setM ht hM key v;have hl:(HB.mp ke r (setE key v es)).lies w' β (nm β k):=⟨hM',fun a ha=>by injection ha with ha;subst ha;exact hM'.lt⟩;refine⟨m.hp.set k (HB.mp ke r (setE key v es)),w',hr,H.swap k hk O (fun x hx=>by simp only[List.mem_singleton] at hx;subst hx;rfl) rfl hl (fun x hx=>.inl hx),?_,fun j hj b hb=>?_,h⟩
 ·simp only[Bool.and_eq_true,Nat.ble_eq,List.length_set];exact⟨Nat.le_refl _,ZG (SM.wf_hp W) rfl⟩
 ·rw[List.getElem?_set,if_neg (fun e=>by
   subst e;simp at hrd;exact hrd hj)]
  exact hb
end
end Go.Proofs.YtkgikodiecmakaaGreatDoor
