/- TracePlays: lemmas, from 'Layer 29: what a client says' on; what each asks for stands in it. -/
import Derived.Test.YtkgikodiecmakaaGreatDoorTpH
import Derived.Laws.EntriesVeiled
import Derived.Laws.Tables
import Derived.Deep.OwnRows
import Derived.Lib.SmallJoins
import Derived.Laws.IdiomStrings
import Derived.Test.YtkgikodiecmakaaGreatDoorTpD
import Derived.Test.YtkgikodiecmakaaGreatDoorTpB
set_option linter.all false
set_option maxRecDepth 100000
set_option maxHeartbeats 64000000
namespace Go.Proofs.YtkgikodiecmakaaGreatDoor
open Go.RowKit Go.MapKept
theorem PP {α γ:Type} (f:α→γ) {k:Int} {v v':α}: ∀{l:List (Int×α)},AK k l=some v→f v'=f v→AQ f (BH k v' l)=AQ f l
 |[],h,_=>by cases h
 |q::l,h,e=>by
  unfold AK at h;unfold BH;split at h
  ·rename_i hk;injection h with h;subst h;rw[if_pos hk];unfold AQ;rw[List.map_cons,List.map_cons];simp[e,hk]
  ·rename_i hk;rw[if_neg hk];have ih:=PP f h e;unfold AQ at ih⊢;rw[List.map_cons,List.map_cons,ih]
theorem WM.by_abs (M:WM) (n:Int):byS M.abs n=(M.by n).map fun x=>(x.1,x.2.2):=by
 unfold byS WM.by WM.abs;dsimp only;cases AK n M.nums with
 |none=>rfl
 |some k=>
  dsimp only;rw[EF];cases AK k M.ends<;>rfl
theorem WM.by_at {M:WM} {n k:Int} {x:Nat×EN} (h:M.by n=some (k,x)):AK k M.ends=some x:=by
 unfold WM.by at h;split at h;·cases h
 ·rename_i k' _;cases e:AK k' M.ends with
  |none=>rw[e] at h;cases h
  |some y=>
   rw[e] at h;injection h with h;injection h with h1 h2;subst h1;subst h2;exact e
theorem WAt.keep {w w':World} {p:Nat} {M:WM} (h:WAt w p M) (O:Only [] w w') (v:Value):CV M p M.abs v w (.returned v) w':=
 ⟨M,rfl,O.mono (by simp),WAt.st w w' O.size (fun x hx=>O.block x (h.lt x hx) (by simp)) h,rfl,fun y hy=>⟨Nat.lt_of_lt_of_le (h.lt y hy) O.size,.inl hy⟩⟩
theorem WAt.putE {w w':World} {p b:Nat} {M:WM} {k:Int} {x x':EN} (h:WAt w p M) (O:Only [p,b] w w') (hk:AK k M.ends=some (b,x)) (hp:Blk w' p 55 M.cells) (hb:Blk w' b 49 x'.cells) (v:Value):CV M p { M.abs with ends:=BH k x' M.abs.ends } v w (.returned v) w':=by
 have A:=GE h.nd;have hbm:b∈fpA eFp M.ends:=BC hk (by simp[eFp]);have h4:=A.four;simp only[List.nodup_cons,List.mem_cons,List.not_mem_nil,or_false,not_or] at h4;have hb4:=A.fe b hbm;simp only[List.mem_cons,List.not_mem_nil,or_false,not_or] at hb4;refine WAt.put (M':={ M with ends:=BH k (b,x') M.ends }) h O 0 k rfl rfl rfl hp (h.mo.only O (by simp only[List.mem_cons,List.not_mem_nil,or_false,not_or];exact⟨fun e=>h4.1.1 e.symm,fun e=>hb4.2.1 e.symm⟩)) ?_ (h.mn.only O (by simp only[List.mem_cons,List.not_mem_nil,or_false,not_or];exact⟨fun e=>h4.1.2.2 e.symm,fun e=>hb4.2.2.2 e.symm⟩)) h.kn (.inl ⟨rfl,fun o ho y hy hm=>?_⟩) (.inr (.inl ⟨(b,x'),rfl,hb,_,hk,rfl⟩)) (fun y hy=>?_) v _ ?_
 ·have:=h.me.only O (by simp only[List.mem_cons,List.not_mem_nil,or_false,not_or];exact⟨fun e=>h4.1.2.1 e.symm,fun e=>hb4.2.2.1 e.symm⟩);dsimp only;rw[PP (v':=(b,x')) (fun x=>AO x.1) hk rfl];exact this
 ·have hy2:=BC (f:=OS.fp) ho hy;simp only[List.mem_cons,List.not_mem_nil,or_false] at hm;rcases hm with rfl|rfl;·exact A.fo _ hy2 (by simp)
  ·exact A.oe _ hy2 hbm
 ·simp only[List.mem_cons,List.not_mem_nil,or_false] at hy;rcases hy with rfl|rfl;·exact .inl (by simp)
  ·exact .inr (.inr ⟨_,hk,rfl⟩)
 ·unfold WM.abs;dsimp only;rw[←JY]
theorem WAt.putP {w w':World} {p:Nat} {M:WM} {g:Int} {d:Bool} (h:WAt w p M) (O:Only [p] w w') (hp:Blk w' p 55 (WM.cells { M with glob:=g,dead:=d })) (v:Value):CV M p { M.abs with glob:=g,dead:=d } v w (.returned v) w':=by
 have A:=GE h.nd;have h4:=A.four;simp only[List.nodup_cons,List.mem_cons,List.not_mem_nil,or_false,not_or] at h4;refine WAt.put (M':={ M with glob:=g,dead:=d }) h O 0 0 rfl rfl rfl hp (h.mo.only O (by simp only[List.mem_singleton];exact fun e=>h4.1.1 e.symm)) (h.me.only O (by simp only[List.mem_singleton];exact fun e=>h4.1.2.1 e.symm)) (h.mn.only O (by simp only[List.mem_singleton];exact fun e=>h4.1.2.2 e.symm)) h.kn (.inl ⟨rfl,fun o ho y hy hm=>?_⟩) (.inl ⟨rfl,fun x hx hm=>?_⟩) (fun y hy=>?_) v _ rfl
 ·rw[List.mem_singleton] at hm;subst hm;exact A.fo _ (BC ho hy) (by simp)
 ·rw[List.mem_singleton] at hm;exact A.fe x.1 (BC hx (by simp[eFp])) (by simp[hm])
 ·rw[List.mem_singleton] at hy;subst hy;exact .inl (by simp)
def wS (M:WM):List SC:=[.v (.map (some M.ob)),.v (.int .i64 M.glob),.v (.map (some M.eb)),.v (.map (some M.nb)),.v (.bool M.dead)]
theorem bH (M:WM) (p:Nat) (m:MD) (w:World) (h:WAt w p M) (hk:m.kind=80):Calls Tryz.prog 8 #[AO p,m.val] w (CV M p (CT M.abs m) (.tuple #[]) w):=by
 have hb:=h.blk;have eS:CT M.abs m = { M.abs with glob:=IntKind.i64.wrap (M.glob+b01 m.want) }:=by unfold CT;rw[if_neg (by rw[hk];decide),if_pos hk];rfl
 rw[eS];obtain⟨ob,eb,nb,opens,glob,ends,nums,dead⟩:=M;obtain⟨k,chan,sender,window,packet,code,name,lang,want,dA,dc,data⟩:=m;dsimp only at *;subst hk;refine Hs.en Tryz.func8 [p] [p] [.b true 55 (wS ⟨ob,eb,nb,opens,glob,ends,nums,dead⟩)] [.c (.p 0 0),.g (mdS ⟨80,chan,sender,window,packet,code,name,lang,want,dA,dc,data⟩)] (Mem.one w p hb) ?_;refine Hs.e1 fun b0=>?_;refine Hs.cF ?_;refine Hs.e0 ?_;refine Hs.cF ?_;refine Hs.e0 ?_;refine Hs.cT ?_;refine Hs.any [0,1,1010] (by kernel_rfl) ?_;refine Hs.e0 ?_;refine Hs.cV (fun w' H=>one_any want w') ?_;refine Hs.e0 ?_;exact Hs.rt (v:=.tuple #[]) Tryz.func8 fun w' H=>h.putP (d:=dead) H.only (H.at 0 (wr:=true) (T:=55) (cs:=wS ⟨ob,eb,nb,opens,IntKind.i64.wrap (glob+b01 want),ends,nums,dead⟩) (by kernel_rfl)) _
theorem says_none (M:WM) (p:Nat) (m:MD) (w:World) (h:WAt w p M) (h1:m.kind≠90) (h2:m.kind≠80) (h3:m.kind≠93) (h4:m.kind≠98):Calls Tryz.prog 8 #[AO p,m.val] w (CV M p (CT M.abs m) (.tuple #[]) w):=by
 have eS:CT M.abs m=M.abs:=by unfold CT;rw[if_neg h1,if_neg h2,if_neg h3,if_neg h4]
 rw[eS];refine Hs.en Tryz.func8 [] [] [] [.c (.v (AO p)),.g (mdS m)] (Mem.start0 w) ?_;refine Hs.e1 fun b0=>?_;refine Hs.cF ?_;refine Hs.e0 ?_;refine Hs.cP (m.kind=90) (fun h=>absurd h h1) (fun _=>?_);refine Hs.e0 ?_;refine Hs.cP (m.kind=80) (fun h=>absurd h h2) (fun _=>?_);refine Hs.e0 ?_;refine Hs.cP (m.kind=93) (fun h=>absurd h h3) (fun _=>?_);refine Hs.e0 ?_;refine Hs.cP (m.kind=98) (fun h=>absurd h h4) (fun _=>?_);refine Hs.e0 ?_;exact Hs.rt (v:=.tuple #[]) Tryz.func8 fun w' H=>h.keep H.only _
theorem cY (M:WM) (p:Nat) (m:MD) (w:World) (h:WAt w p M) (h1:m.kind=93∨m.kind=98) (hn:M.by m.chan=none):Calls Tryz.prog 8 #[AO p,m.val] w (CV M p (CT M.abs m) (.tuple #[]) w):=by
 have eS:CT M.abs m=M.abs:=by
  have hS:byS M.abs m.chan=none:=by rw[WM.by_abs,hn];rfl
  unfold CT;rw[hS];rcases h1 with h1|h1;·rw[if_neg (by rw[h1];decide),if_neg (by rw[h1];decide),if_pos h1]
  ·rw[if_neg (by rw[h1];decide),if_neg (by rw[h1];decide),if_neg (by rw[h1];decide),if_pos h1]
 rw[eS];refine Hs.en Tryz.func8 [] [] [] [.c (.v (AO p)),.g (mdS m)] (Mem.start0 w) ?_;refine Hs.e1 fun b0=>?_;refine Hs.cF ?_;refine Hs.e0 ?_;refine Hs.cP (m.kind=90) (fun h=>by rcases h1 with h1|h1<;>rw[h1] at h<;>cases h) (fun _=>?_);refine Hs.e0 ?_;refine Hs.cP (m.kind=80) (fun h=>by rcases h1 with h1|h1<;>rw[h1] at h<;>cases h) (fun _=>?_);refine Hs.e0 ?_;refine Hs.cP (m.kind=93) (fun _=>?_) (fun _=>?_)
 ·refine Hs.e0 ?_;refine Hs.cV (v:=.pointer none) (fun w' H=>(by_any M p m.chan w' (Blk.only (L:=[]) h.blk H.only (by simp)) (h.mn.only H.only (by simp)) (h.me.only H.only (by simp))).mono fun e w2 h=>by rw[hn] at h;exact h) ?_;refine Hs.e0 ?_;refine Hs.cF ?_;refine Hs.e0 ?_;exact Hs.rt (v:=.tuple #[]) Tryz.func8 fun w' H=>h.keep H.only _
 ·refine Hs.e0 ?_;refine Hs.cP (m.kind=98) (fun _=>?_) (fun h=>by rcases h1 with h1|h1<;>contradiction);refine Hs.e0 ?_;refine Hs.cV (v:=.pointer none) (fun w' H=>(by_any M p m.chan w' (Blk.only (L:=[]) h.blk H.only (by simp)) (h.mn.only H.only (by simp)) (h.me.only H.only (by simp))).mono fun e w2 h=>by rw[hn] at h;exact h) ?_;refine Hs.e0 ?_;refine Hs.cF ?_;refine Hs.e0 ?_;exact Hs.rt (v:=.tuple #[]) Tryz.func8 fun w' H=>h.keep H.only _
theorem says_end (M:WM) (p:Nat) (m:MD) (w:World) (h:WAt w p M) (h1:m.kind=93∨m.kind=98) (hm:U32 m.window) {k:Int} {b:Nat} {x:EN} (hn:M.by m.chan=some (k,(b,x))):Calls Tryz.prog 8 #[AO p,m.val] w (CV M p (CT M.abs m) (.tuple #[]) w):=by
 have hl:=WM.by_at hn;have A:=GE h.nd;have hbm:b∈fpA eFp M.ends:=BC hl (by simp[eFp]);have hb4:=A.fe b hbm;simp only[List.mem_cons,List.not_mem_nil,or_false,not_or] at hb4;have h4:=A.four;simp only[List.nodup_cons,List.mem_cons,List.not_mem_nil,or_false,not_or] at h4;have hB:=h.blk;have hE:Blk w b 49 x.cells:=h.es _ (BN hl);have eS:CT M.abs m = { M.abs with ends:=BH k (if m.kind=93 then { x with granted:=IntKind.u64.wrap (x.granted+m.window) } else { x with wants:=IntKind.i64.wrap (x.wants+b01 m.want) }) M.abs.ends }:=by
  have hS:byS M.abs m.chan=some (k,x):=by rw[WM.by_abs,hn];rfl
  unfold CT;rw[hS];rcases h1 with h1|h1;·rw[if_neg (by rw[h1];decide),if_neg (by rw[h1];decide),if_pos h1,if_pos h1]
  ·rw[if_neg (by rw[h1];decide),if_neg (by rw[h1];decide),if_neg (by rw[h1];decide),if_pos h1,if_neg (by rw[h1];decide)]
 rw[eS];have hmn:=h.mn;have hme:=h.me;have hby: ∀w',Only [p,b] w w'→Blk w' p 55 M.cells→Calls Tryz.prog 18 #[AO p,.int .u32 m.chan] w' fun e w2=>e = .returned (AO b)∧Only [] w' w2:=fun w' O hb'=>
  (by_any M p m.chan w' hb' (hmn.only O (by simp only[List.mem_cons,List.not_mem_nil,or_false,not_or];exact⟨fun e=>h4.1.2.2 e.symm,fun e=>hb4.2.2.2 e.symm⟩)) (hme.only O (by simp only[List.mem_cons,List.not_mem_nil,or_false,not_or];exact⟨fun e=>h4.1.2.1 e.symm,fun e=>hb4.2.2.1 e.symm⟩))).mono fun e w2 h=>by rw[hn] at h;exact h
 have hput:=fun(w':World) (x':EN) (O:Only [p,b] w w') hp hb=>h.putE (x':=x') O hl hp hb (.tuple #[]);have hnd:[p,b].Nodup:=by simp only[List.nodup_cons,List.mem_cons,List.not_mem_nil,or_false,not_or,List.nodup_nil,not_false_eq_true,and_true];exact fun e=>hb4.1 e.symm
 clear hl hbm A eS;obtain⟨ob,eb,nb,opens,glob,ends,nums,dead⟩:=M;obtain⟨mk,chan,sender,window,packet,code,name,lang,want,dA,dc,data⟩:=m;obtain⟨xc,xg,xs,xp,xe,xd,xt,xw⟩:=x;dsimp only at *;refine Hs.en Tryz.func8 [p,b] [p,b] [.b true 55 (wS ⟨ob,eb,nb,opens,glob,ends,nums,dead⟩),.b true 49 (EN.sc ⟨xc,xg,xs,xp,xe,xd,xt,xw⟩)] [.c (.p 0 0),.g (mdS ⟨mk,chan,sender,window,packet,code,name,lang,want,dA,dc,data⟩)] (Mem.startN (β:=[p,b]) (hp:=[.b true 55 (wS ⟨ob,eb,nb,opens,glob,ends,nums,dead⟩),.b true 49 (EN.sc ⟨xc,xg,xs,xp,xe,xd,xt,xw⟩)]) rfl hnd ⟨hB,hE,trivial⟩) ?_;refine Hs.e1 fun b0=>?_;refine Hs.cF ?_;refine Hs.e0 ?_;refine Hs.cP (mk=90) (fun h=>by rcases h1 with h1|h1<;>rw[h1] at h<;>cases h) (fun _=>?_);refine Hs.e0 ?_;refine Hs.cP (mk=80) (fun h=>by rcases h1 with h1|h1<;>rw[h1] at h<;>cases h) (fun _=>?_);refine Hs.e0 ?_;refine Hs.cP (mk=93) (fun hk=>?_) (fun hk=>?_)
 ·rw[if_pos hk];refine Hs.e0 ?_;refine Hs.cV (v:=AO b) (fun w' H=>hby w' H.only (H.at 0 (wr:=true) (T:=55) (cs:=wS ⟨ob,eb,nb,opens,glob,ends,nums,dead⟩) (by kernel_rfl))) ?_;refine Hs.slot 49 (.c (.p 1 0)) (by kernel_rfl) (by kernel_rfl) ?_;refine Hs.e0 ?_;refine Hs.cT ?_;refine Hs.any [1,2,1010] (by kernel_rfl) ?_;refine Hs.e0 ?_;have hw:IntKind.u64.wrap window=window:=by rw[IntKind.wrap_u64];unfold U32 at hm;omega
  refine Hs.rt (v:=.tuple #[]) Tryz.func8 fun w' H=>?_;refine hput w' _ H.only (H.at 0 (wr:=true) (T:=55) (cs:=wS ⟨ob,eb,nb,opens,glob,ends,nums,dead⟩) (by kernel_rfl)) ?_;have:=H.at 1 (wr:=true) (T:=49) (cs:=EN.sc ⟨xc,IntKind.u64.wrap (xg+IntKind.u64.wrap window),xs,xp,xe,xd,xt,xw⟩) (by kernel_rfl);rw[hw] at this;exact this
 ·have hk98:mk=98:=h1.resolve_left hk;rw[if_neg hk];refine Hs.e0 ?_;refine Hs.cP (mk=98) (fun _=>?_) (fun h=>absurd hk98 h);refine Hs.e0 ?_;refine Hs.cV (v:=AO b) (fun w' H=>hby w' H.only (H.at 0 (wr:=true) (T:=55) (cs:=wS ⟨ob,eb,nb,opens,glob,ends,nums,dead⟩) (by kernel_rfl))) ?_;refine Hs.slot 67 (.c (.p 1 0)) (by kernel_rfl) (by kernel_rfl) ?_;refine Hs.e0 ?_;refine Hs.cT ?_;refine Hs.any [1,2,1010] (by kernel_rfl) ?_;refine Hs.e0 ?_;refine Hs.cV (fun w' H=>one_any want w') ?_;refine Hs.e0 ?_;exact Hs.rt (v:=.tuple #[]) Tryz.func8 fun w' H=>hput w' _ H.only (H.at 0 (wr:=true) (T:=55) (cs:=wS ⟨ob,eb,nb,opens,glob,ends,nums,dead⟩) (by kernel_rfl)) (H.at 1 (wr:=true) (T:=49) (cs:=EN.sc ⟨xc,xg,xs,xp,xe,xd,xt,IntKind.i64.wrap (xw+b01 want)⟩) (by kernel_rfl))
theorem says_any (M:WM) (p:Nat) (m:MD) (w:World) (h:WAt w p M) (hf:FewW M) (hm:U32 m.window):Calls Tryz.prog 8 #[AO p,m.val] w (CV M p (CT M.abs m) (.tuple #[]) w):=by
 by_cases h90:m.kind=90
 ·exact says_open M p m w h hf h90
 by_cases h80:m.kind=80
 ·exact bH M p m w h h80
 by_cases hh:m.kind=93∨m.kind=98
 ·cases e:M.by m.chan with
  |none=>exact cY M p m w h hh e
  |some x=>exact says_end M p m w h hh hm e
 ·exact says_none M p m w h h90 h80 (fun e=>hh (.inl e)) (fun e=>hh (.inr e))
end Go.Proofs.YtkgikodiecmakaaGreatDoor
namespace Go.Proofs.YtkgikodiecmakaaGreatDoor
open Go.RowKit
theorem putR_pf0 (k:Nat) (h1:1≤k) (h2:k≤10) {fs gs:List FD} (hk:fs.map (fun f=>f.pf.kind)=AC k) (h:fs.map FD.pf=gs.map FD.pf):SameR (DD (AL k) k fs) (DD (AL k) k gs):=by
 have T: ∀{x y:FD},y.pf=x.pf→strOfNums y.text=strOfNums x.text:=fun {x y} e=>by rw[show y.text=x.text from congrArg PF.text e]
 have N: ∀{x y:FD},y.pf=x.pf→y.n=x.n:=fun e=>congrArg PF.n e;have B: ∀{x y:FD},y.pf=x.pf→decide (y.n=1)=decide (x.n=1):=fun {x y} e=>by rw[show y.n=x.n from congrArg PF.n e]
 rcases k10 h1 h2 with rfl|rfl|rfl|rfl|rfl|rfl|rfl|rfl|rfl|rfl
 ·obtain⟨a,b,c,d,e,f,rfl,_⟩:=ks6 hk;obtain⟨a',b',c',d',e',f',rfl,ha,hb,hc,hd,he,hf⟩:=fs6 h.symm;exact⟨rfl,T ha,rfl,rfl,N hb,N hc,N hd,N he,rfl,rfl,congrArg PF.text hf⟩
 ·obtain⟨a,b,rfl,_⟩:=ks2 hk;obtain⟨a',b',rfl,ha,hb⟩:=fs2 h.symm;exact⟨rfl,T ha,T hb,rfl,rfl,rfl,rfl,rfl,rfl,rfl,rfl⟩
 ·exact SameR.refl _
 ·obtain⟨a,rfl,_⟩:=ks1 hk;obtain⟨a',rfl,ha⟩:=fs1 h.symm;exact⟨rfl,T ha,rfl,rfl,rfl,rfl,rfl,rfl,rfl,rfl,rfl⟩
 ·obtain⟨a,rfl,_⟩:=ks1 hk;obtain⟨a',rfl,ha⟩:=fs1 h.symm;exact⟨rfl,T ha,rfl,rfl,rfl,rfl,rfl,rfl,rfl,rfl,rfl⟩
 ·obtain⟨b,c,d,e,rfl,_⟩:=ks4 hk;obtain⟨b',c',d',e',rfl,hb,hc,hd,he⟩:=fs4 h.symm;exact⟨rfl,rfl,rfl,rfl,N hb,N hc,N hd,N he,rfl,rfl,rfl⟩
 ·obtain⟨a,rfl,_⟩:=ks1 hk;obtain⟨a',rfl,ha⟩:=fs1 h.symm;exact⟨rfl,rfl,rfl,rfl,rfl,rfl,rfl,rfl,B ha,rfl,rfl⟩
 ·obtain⟨a,rfl,_⟩:=ks1 hk;obtain⟨a',rfl,ha⟩:=fs1 h.symm;exact⟨rfl,T ha,rfl,rfl,rfl,rfl,rfl,rfl,rfl,rfl,rfl⟩
 ·obtain⟨a,rfl,_⟩:=ks1 hk;obtain⟨a',rfl,ha⟩:=fs1 h.symm;exact⟨rfl,rfl,rfl,rfl,rfl,rfl,rfl,rfl,rfl,N ha,rfl⟩
 ·obtain⟨a,b,c,d,rfl,_⟩:=ks4 hk;obtain⟨a',b',c',d',rfl,ha,hb,hc,hd⟩:=fs4 h.symm;exact⟨rfl,T ha,T hc,T hd,rfl,rfl,rfl,rfl,B hb,rfl,rfl⟩
theorem cH {s:ByteArray} {l:List Int} (hl:InB l) {a b:RQ} {E F:Int} (h:CL s l a E) (g:CL s l b F):F=E∧SameR a b:=by
 unfold CL at h g;cases hk:WA s.data.toList with
 |none=>
  rw[hk] at h g;exact⟨g.1.trans h.1.symm,by rw[h.2,g.2];exact SameR.refl _⟩
 |some k=>
  rw[hk] at h g;obtain⟨h1,h2,_⟩:=QB hk;dsimp only at h g;unfold DO at h g;by_cases h0:(EJ (AC k) l).1≠0
  ·rw[if_pos h0] at h g;exact⟨g.1.trans h.1.symm,by rw[h.2,g.2];exact SameR.refl _⟩
  ·rw[if_neg h0] at h g;obtain⟨fs,e1,h⟩:=h;obtain⟨gs,e2,g⟩:=g;have hkk:fs.map (fun f=>f.pf.kind)=AC k:=by
    have:=(CW (AC k) l hl (by simpa using h0)).1;rw[←e1,List.map_map] at this;exact this
   have hs:=putR_pf0 k h1 h2 hkk (e1.trans e2.symm);have ha:=askR_same hs k h1 h2;rw[ha] at g;split at h
   ·rename_i hf;rw[if_pos hf] at g;exact⟨g.1.trans h.1.symm,by rw[h.2,g.2];exact hs⟩
   ·rename_i hf;rw[if_neg hf] at g;exact⟨g.1.trans h.1.symm,by rw[h.2,g.2];exact SameR.refl _⟩
theorem CB {P:Program} {ops:Array Oper} {rest:List Oper} {o:Oper} {a:Act} {w:World} {Q:Exit→Act→World→Prop} (d:Tmp) (hd:o.dst=some d) (hg:o.guard=none) (t:TypeId) (parts:Array (Nat×Operand)) (ho:o.op = .build t parts)
  (cells:Array Value) (hf:P.built t (parts.map fun(i,x)=>(i,a.eval x)).toList=some cells)
  (h:wpList P ops Q rest (a.put (some d) (.agg cells)) w):wpList P ops Q (o::rest) a w:=by
 refine wpList_build hg t parts ho (by rw[hf];rfl) ?_;rw[hf,hd];exact h
def kidx:Nat→Nat
 |1=>1
 |2=>2
 |4=>3
 |5=>4
 |6=>5
 |7=>6
 |8=>7
 |9=>8
 |10=>9
 |_=>0
def QA (q k:Nat):Option Addr:=match kidx k with
 |0=>none
 |i+1=>some ⟨q+(i+1),0,none⟩
def rget:Nat→FuncId
 |1=>70
 |2=>73
 |3=>76
 |4=>79
 |5=>79
 |6=>83
 |7=>85
 |8=>79
 |9=>87
 |_=>89
def rput:Nat→FuncId
 |1=>71
 |2=>74
 |3=>77
 |4=>80
 |5=>80
 |6=>84
 |7=>86
 |8=>80
 |9=>88
 |_=>90
def rask:Nat→FuncId
 |1=>72
 |2=>75
 |3=>78
 |4=>81
 |5=>82
 |6=>78
 |7=>78
 |8=>82
 |9=>78
 |_=>91
def rfn (f:FuncId):Value:=.func (Fn.func f) #[] #[]
def IQ (q k:Nat):List Value:=[.string (AR k),.slice (QA q k) (AC k).length (AC k).length,rfn (rget k),rfn (rput k),rfn (rask k)]
def HL (q k:Nat):Array Value:=(IQ q k).toArray
def IF:List Value:=[.string ⟨#[]⟩,.slice none 0 0,.nilFunc,.nilFunc,.nilFunc]
def PK (q:Nat):Array Value:=(IF++(IQ q 1++(IQ q 2++(IQ q 3++(IQ q 4++(IQ q 5++(IQ q 6++(IQ q 7++(IQ q 8++(IQ q 9++IQ q 10)))))))))).toArray
def IV:Array Value:=(IF++(IF++(IF++(IF++(IF++(IF++(IF++(IF++(IF++(IF++IF)))))))))).toArray
def EG (w:World):World:=((((((((((w.alloc (.cells IV 114)).alloc (.cells #[.int .i64 4,.int .i64 3,.int .i64 3,.int .i64 3,.int .i64 3,.int .i64 4] 3)).alloc (.cells #[.int .i64 4,.int .i64 4] 3)).alloc (.cells #[.int .i64 4] 3)).alloc (.cells #[.int .i64 4] 3)).alloc (.cells #[.int .i64 3,.int .i64 3,.int .i64 3,.int .i64 3] 3)).alloc (.cells #[.int .i64 2] 3)).alloc (.cells #[.int .i64 4] 3)).alloc (.cells #[.int .i64 3] 3)).alloc (.cells #[.int .i64 4,.int .i64 2,.int .i64 4,.int .i64 4] 3))
theorem bG (w:World):(EG w).heap.size=w.heap.size+10:=by unfold EG;simp
theorem TT (w:World):Blk (EG w) w.heap.size 114 IV.toList:=(((((((((Blk.new w 114 IV.toList).alloc _).alloc _).alloc _).alloc _).alloc _).alloc _).alloc _).alloc _).alloc _
theorem bE (w:World):Only [] w (EG w):=((((((((((Only.refl [] w).alloc _).alloc _).alloc _).alloc _).alloc _).alloc _).alloc _).alloc _).alloc _).alloc _
theorem rworld_1 (w:World):Blk (EG w) (w.heap.size+1) 3 [.int .i64 4,.int .i64 3,.int .i64 3,.int .i64 3,.int .i64 3,.int .i64 4]:=by
 have h:=Blk.new (w.alloc (.cells IV 114)) 3 [.int .i64 4,.int .i64 3,.int .i64 3,.int .i64 3,.int .i64 3,.int .i64 4];rw[show(w.alloc (.cells IV 114)).heap.size=w.heap.size+1 by simp] at h;exact((((((((h).alloc _).alloc _).alloc _).alloc _).alloc _).alloc _).alloc _).alloc _
theorem rworld_2 (w:World):Blk (EG w) (w.heap.size+2) 3 [.int .i64 4,.int .i64 4]:=by
 have h:=Blk.new ((w.alloc (.cells IV 114)).alloc (.cells #[.int .i64 4,.int .i64 3,.int .i64 3,.int .i64 3,.int .i64 3,.int .i64 4] 3)) 3 [.int .i64 4,.int .i64 4];rw[show((w.alloc (.cells IV 114)).alloc (.cells #[.int .i64 4,.int .i64 3,.int .i64 3,.int .i64 3,.int .i64 3,.int .i64 4] 3)).heap.size=w.heap.size+2 by simp] at h;exact(((((((h).alloc _).alloc _).alloc _).alloc _).alloc _).alloc _).alloc _
theorem rworld_4 (w:World):Blk (EG w) (w.heap.size+3) 3 [.int .i64 4]:=by
 have h:=Blk.new (((w.alloc (.cells IV 114)).alloc (.cells #[.int .i64 4,.int .i64 3,.int .i64 3,.int .i64 3,.int .i64 3,.int .i64 4] 3)).alloc (.cells #[.int .i64 4,.int .i64 4] 3)) 3 [.int .i64 4];rw[show(((w.alloc (.cells IV 114)).alloc (.cells #[.int .i64 4,.int .i64 3,.int .i64 3,.int .i64 3,.int .i64 3,.int .i64 4] 3)).alloc (.cells #[.int .i64 4,.int .i64 4] 3)).heap.size=w.heap.size+3 by simp] at h;exact((((((h).alloc _).alloc _).alloc _).alloc _).alloc _).alloc _
theorem rworld_5 (w:World):Blk (EG w) (w.heap.size+4) 3 [.int .i64 4]:=by
 have h:=Blk.new ((((w.alloc (.cells IV 114)).alloc (.cells #[.int .i64 4,.int .i64 3,.int .i64 3,.int .i64 3,.int .i64 3,.int .i64 4] 3)).alloc (.cells #[.int .i64 4,.int .i64 4] 3)).alloc (.cells #[.int .i64 4] 3)) 3 [.int .i64 4];rw[show((((w.alloc (.cells IV 114)).alloc (.cells #[.int .i64 4,.int .i64 3,.int .i64 3,.int .i64 3,.int .i64 3,.int .i64 4] 3)).alloc (.cells #[.int .i64 4,.int .i64 4] 3)).alloc (.cells #[.int .i64 4] 3)).heap.size=w.heap.size+4 by simp] at h;exact(((((h).alloc _).alloc _).alloc _).alloc _).alloc _
theorem rworld_6 (w:World):Blk (EG w) (w.heap.size+5) 3 [.int .i64 3,.int .i64 3,.int .i64 3,.int .i64 3]:=by
 have h:=Blk.new (((((w.alloc (.cells IV 114)).alloc (.cells #[.int .i64 4,.int .i64 3,.int .i64 3,.int .i64 3,.int .i64 3,.int .i64 4] 3)).alloc (.cells #[.int .i64 4,.int .i64 4] 3)).alloc (.cells #[.int .i64 4] 3)).alloc (.cells #[.int .i64 4] 3)) 3 [.int .i64 3,.int .i64 3,.int .i64 3,.int .i64 3];rw[show(((((w.alloc (.cells IV 114)).alloc (.cells #[.int .i64 4,.int .i64 3,.int .i64 3,.int .i64 3,.int .i64 3,.int .i64 4] 3)).alloc (.cells #[.int .i64 4,.int .i64 4] 3)).alloc (.cells #[.int .i64 4] 3)).alloc (.cells #[.int .i64 4] 3)).heap.size=w.heap.size+5 by simp] at h;exact((((h).alloc _).alloc _).alloc _).alloc _
theorem rworld_7 (w:World):Blk (EG w) (w.heap.size+6) 3 [.int .i64 2]:=by
 have h:=Blk.new ((((((w.alloc (.cells IV 114)).alloc (.cells #[.int .i64 4,.int .i64 3,.int .i64 3,.int .i64 3,.int .i64 3,.int .i64 4] 3)).alloc (.cells #[.int .i64 4,.int .i64 4] 3)).alloc (.cells #[.int .i64 4] 3)).alloc (.cells #[.int .i64 4] 3)).alloc (.cells #[.int .i64 3,.int .i64 3,.int .i64 3,.int .i64 3] 3)) 3 [.int .i64 2];rw[show((((((w.alloc (.cells IV 114)).alloc (.cells #[.int .i64 4,.int .i64 3,.int .i64 3,.int .i64 3,.int .i64 3,.int .i64 4] 3)).alloc (.cells #[.int .i64 4,.int .i64 4] 3)).alloc (.cells #[.int .i64 4] 3)).alloc (.cells #[.int .i64 4] 3)).alloc (.cells #[.int .i64 3,.int .i64 3,.int .i64 3,.int .i64 3] 3)).heap.size=w.heap.size+6 by simp] at h;exact(((h).alloc _).alloc _).alloc _
theorem rworld_8 (w:World):Blk (EG w) (w.heap.size+7) 3 [.int .i64 4]:=by
 have h:=Blk.new (((((((w.alloc (.cells IV 114)).alloc (.cells #[.int .i64 4,.int .i64 3,.int .i64 3,.int .i64 3,.int .i64 3,.int .i64 4] 3)).alloc (.cells #[.int .i64 4,.int .i64 4] 3)).alloc (.cells #[.int .i64 4] 3)).alloc (.cells #[.int .i64 4] 3)).alloc (.cells #[.int .i64 3,.int .i64 3,.int .i64 3,.int .i64 3] 3)).alloc (.cells #[.int .i64 2] 3)) 3 [.int .i64 4];rw[show(((((((w.alloc (.cells IV 114)).alloc (.cells #[.int .i64 4,.int .i64 3,.int .i64 3,.int .i64 3,.int .i64 3,.int .i64 4] 3)).alloc (.cells #[.int .i64 4,.int .i64 4] 3)).alloc (.cells #[.int .i64 4] 3)).alloc (.cells #[.int .i64 4] 3)).alloc (.cells #[.int .i64 3,.int .i64 3,.int .i64 3,.int .i64 3] 3)).alloc (.cells #[.int .i64 2] 3)).heap.size=w.heap.size+7 by simp] at h;exact((h).alloc _).alloc _
theorem rworld_9 (w:World):Blk (EG w) (w.heap.size+8) 3 [.int .i64 3]:=by
 have h:=Blk.new ((((((((w.alloc (.cells IV 114)).alloc (.cells #[.int .i64 4,.int .i64 3,.int .i64 3,.int .i64 3,.int .i64 3,.int .i64 4] 3)).alloc (.cells #[.int .i64 4,.int .i64 4] 3)).alloc (.cells #[.int .i64 4] 3)).alloc (.cells #[.int .i64 4] 3)).alloc (.cells #[.int .i64 3,.int .i64 3,.int .i64 3,.int .i64 3] 3)).alloc (.cells #[.int .i64 2] 3)).alloc (.cells #[.int .i64 4] 3)) 3 [.int .i64 3];rw[show((((((((w.alloc (.cells IV 114)).alloc (.cells #[.int .i64 4,.int .i64 3,.int .i64 3,.int .i64 3,.int .i64 3,.int .i64 4] 3)).alloc (.cells #[.int .i64 4,.int .i64 4] 3)).alloc (.cells #[.int .i64 4] 3)).alloc (.cells #[.int .i64 4] 3)).alloc (.cells #[.int .i64 3,.int .i64 3,.int .i64 3,.int .i64 3] 3)).alloc (.cells #[.int .i64 2] 3)).alloc (.cells #[.int .i64 4] 3)).heap.size=w.heap.size+8 by simp] at h;exact(h).alloc _
theorem rworld_10 (w:World):Blk (EG w) (w.heap.size+9) 3 [.int .i64 4,.int .i64 2,.int .i64 4,.int .i64 4]:=by
 have h:=Blk.new (((((((((w.alloc (.cells IV 114)).alloc (.cells #[.int .i64 4,.int .i64 3,.int .i64 3,.int .i64 3,.int .i64 3,.int .i64 4] 3)).alloc (.cells #[.int .i64 4,.int .i64 4] 3)).alloc (.cells #[.int .i64 4] 3)).alloc (.cells #[.int .i64 4] 3)).alloc (.cells #[.int .i64 3,.int .i64 3,.int .i64 3,.int .i64 3] 3)).alloc (.cells #[.int .i64 2] 3)).alloc (.cells #[.int .i64 4] 3)).alloc (.cells #[.int .i64 3] 3)) 3 [.int .i64 4,.int .i64 2,.int .i64 4,.int .i64 4];rw[show(((((((((w.alloc (.cells IV 114)).alloc (.cells #[.int .i64 4,.int .i64 3,.int .i64 3,.int .i64 3,.int .i64 3,.int .i64 4] 3)).alloc (.cells #[.int .i64 4,.int .i64 4] 3)).alloc (.cells #[.int .i64 4] 3)).alloc (.cells #[.int .i64 4] 3)).alloc (.cells #[.int .i64 3,.int .i64 3,.int .i64 3,.int .i64 3] 3)).alloc (.cells #[.int .i64 2] 3)).alloc (.cells #[.int .i64 4] 3)).alloc (.cells #[.int .i64 3] 3)).heap.size=w.heap.size+9 by simp] at h;exact h
theorem FQ {w:World} {g:Nat} {t:TypeId} {ks:List Int} (h:Blk w g t (ks.map (.int .i64))):RdI w (some ⟨g,0,none⟩) ks:=fun _=>⟨g,0,rfl,h.lt,fun i v hi=>by
 have:w.cell? ⟨g,0+i,none⟩=(ks.map (Value.int .i64))[0+i]? :=h.cell _;rw[this,Nat.zero_add,List.getElem?_map,hi];rfl⟩
theorem ZC (w:World) (k:Nat) (h1:1≤k) (h2:k≤10):RdI (EG w) (QA w.heap.size k) (AC k):=by
 rcases k10 h1 h2 with rfl|rfl|rfl|rfl|rfl|rfl|rfl|rfl|rfl|rfl;·exact FQ (rworld_1 w)
 ·exact FQ (rworld_2 w)
 ·exact RdG.nil
 ·exact FQ (rworld_4 w)
 ·exact FQ (rworld_5 w)
 ·exact FQ (rworld_6 w)
 ·exact FQ (rworld_7 w)
 ·exact FQ (rworld_8 w)
 ·exact FQ (rworld_9 w)
 ·exact FQ (rworld_10 w)
theorem rules_any (w:World):Calls Tryz.prog 55 #[] w fun e w'=>e = .returned (.agg (PK w.heap.size))∧Only [] w w'∧w'.heap.size=w.heap.size+10∧∀k,1≤k→k≤10→RdI w' (QA w.heap.size k) (AC k):=by
 have hz:(EG w).heap[w.heap.size]? = some (.cells IV 114 (0,0)):=TT w;have hfin:Only [] w ((EG w).setRow w.heap.size (PK w.heap.size))∧((EG w).setRow w.heap.size (PK w.heap.size)).heap.size=w.heap.size+10∧∀k,1≤k→k≤10→RdI ((EG w).setRow w.heap.size (PK w.heap.size)) (QA w.heap.size k) (AC k):=by
  refine⟨(bE w).trans (JB _ _ _) (by simp),by rw[setRow_size,bG],fun k h1 h2=>?_⟩;refine RdG.onlyL (ZC w k h1 h2) (JB _ _ _) (fun a ha h0=>?_);unfold QA at ha;split at ha;·cases ha
  ·injection ha with ha;rw[←ha];simp
 have hbl:Blk ((EG w).setRow w.heap.size (PK w.heap.size)) w.heap.size 114 (PK w.heap.size).toList:=MF (TT w) (PK w.heap.size).toList;replace hfin:=AB hfin;replace hbl:=AB hbl;unfold EG at hz;replace hz:=AB hz;go_enter Tryz.func55,Tryz.ntmps55
 go_wp2_with (first|(refine CB 2 rfl rfl 113 _ rfl (HL w.heap.size 1) (by kernel_rfl) ?_)|(refine CB 4 rfl rfl 113 _ rfl (HL w.heap.size 2) (by kernel_rfl) ?_)|(refine CB 5 rfl rfl 113 _ rfl (HL w.heap.size 3) (by kernel_rfl) ?_)|(refine CB 7 rfl rfl 113 _ rfl (HL w.heap.size 4) (by kernel_rfl) ?_)|(refine CB 9 rfl rfl 113 _ rfl (HL w.heap.size 5) (by kernel_rfl) ?_)|(refine CB 11 rfl rfl 113 _ rfl (HL w.heap.size 6) (by kernel_rfl) ?_)|(refine CB 13 rfl rfl 113 _ rfl (HL w.heap.size 7) (by kernel_rfl) ?_)|(refine CB 15 rfl rfl 113 _ rfl (HL w.heap.size 8) (by kernel_rfl) ?_)|(refine CB 17 rfl rfl 113 _ rfl (HL w.heap.size 9) (by kernel_rfl) ?_)|(refine CB 19 rfl rfl 113 _ rfl (HL w.heap.size 10) (by kernel_rfl) ?_)|(refine CB 20 rfl rfl 114 _ rfl (PK w.heap.size) (by kernel_rfl) ?_)|(refine wpList_store_row rfl 114 (.tmp 0) (.tmp 20) rfl w.heap.size (PK w.heap.size) rfl rfl 114 IV hz.out (by kernel_rfl) (by kernel_rfl) (by kernel_rfl) ?_))
 (try simp only[Exit.inBlock,Exit.then])
 refine bodyPost_ret (results_cell_row rfl _ _ w.heap.size 114 (PK w.heap.size) (0,0) _ (by rfl) hbl.out Tryz.underlying114 rfl (by kernel_rfl)) (by rfl) ⟨rfl,hfin.out⟩
structure RdF (w : World) (A : Option Addr) (fs : List FD) : Prop where
  cells : 0 < fs.length → ∃ b off, A = some ⟨b, off, none⟩ ∧ b < w.heap.size ∧ ∀ i f, fs[i]? = some f →
    w.cell? ⟨b, off + i * 4, none⟩ = some (.int .i64 f.kind) ∧ w.cell? ⟨b, off + i * 4 + 1, none⟩ = some (.int .u32 f.n) ∧ w.cell? ⟨b, off + i * 4 + 2, none⟩ = some (.slice f.tA f.text.length f.tc) ∧ w.cell? ⟨b, off + i * 4 + 3, none⟩ = some (.slice f.lA f.list.length f.lc)
  ok : ∀ f ∈ fs, f.ok w ∧ 0 ≤ f.n ∧ f.n ≤ 4294967295
def QU (l:List Int):List Value:=l.map (.int .i64)
theorem take_set {cs:List Int} {k:Nat} (x:Int) (h:k<cs.length):(cs.set k x).take (k+1)=cs.take k++[x]:=by
 rw[List.take_add_one,List.getElem?_set_self h,List.take_set_of_le (Nat.le_refl _)];rfl
theorem VQ: ∀(fs:List FD) (i:Nat) (f:FD) (j:Nat),fs[i]? = some f→j<4→(CC fs)[i*4+j]? = f.cells[j]?
 |[],i,f,j,h,_=>by simp at h
 |g::fs,0,f,j,h,hj=>by
  simp at h;subst h;unfold CC;rw[List.flatMap_cons,Nat.zero_mul,Nat.zero_add,List.getElem?_append_left (by simpa[FD.cells] using hj)]
 |g::fs,i+1,f,j,h,hj=>by
  simp at h;have:=VQ fs i f j h hj;unfold CC at this⊢;rw[List.flatMap_cons,List.getElem?_append_right (by simp[FD.cells];omega),←this];congr 1
  simp[FD.cells];omega
theorem rdF_of {w:World} {b off:Nat} {fs:List FD} (hb:b<w.heap.size) (hc: ∀j u,(CC fs)[j]? = some u→w.cell? ⟨b,off+j,none⟩=some u) (ok: ∀f∈fs,f.ok w∧0≤f.n∧f.n≤4294967295):RdF w (some ⟨b,off,none⟩) fs:=by
 refine⟨fun _=>⟨b,off,rfl,hb,fun i f hi=>?_⟩,ok⟩;have h:=fun j hj=>VQ fs i f j hi hj;have h0:=h 0 (by decide);have h1:=h 1 (by decide);have h2:=h 2 (by decide);have h3:=h 3 (by decide);refine⟨hc _ _ h0,?_,?_,?_⟩;·rw[Nat.add_assoc];exact hc _ _ h1
 ·rw[Nat.add_assoc];exact hc _ _ h2
 ·rw[Nat.add_assoc];exact hc _ _ h3
theorem EZ.rdF {w:World} {base:Nat} {A:Option Addr} {n cap:Nat} {fs:List FD} (h:EZ w base (.slice A n cap) fs) (ok: ∀f∈fs,f.ok w∧0≤f.n∧f.n≤4294967295):RdF w A fs:=by
 obtain⟨A',cap',e,_,_,hc⟩:=h.form;injection e with e1 e2 e3;subst e1;by_cases h0:0<fs.length
 ·obtain⟨b,rfl,_,hb,hcell⟩:=hc h0;exact rdF_of hb (fun j u hj=>by rw[Nat.zero_add];exact hcell j u hj) ok
 ·exact⟨fun h=>absurd h h0,ok⟩
theorem II (w:World) (cs:Array Value) (l:List Int) (h:cs=(QU l).toArray):RdI (w.alloc (.cells cs 3)) (some ⟨w.heap.size,0,none⟩) l:=fun _=>⟨w.heap.size,0,rfl,by simp,fun i v hi=>by
 rw[h,World.cell?_alloc_mark];simp[QU,hi]⟩
theorem rdS_new (w:World) (cs:Array Value) (l:List ByteArray) (t:TypeId) (h:cs=(l.map Value.string).toArray):RdS (w.alloc (.cells cs t)) (some ⟨w.heap.size,0,none⟩) l:=fun _=>⟨w.heap.size,0,rfl,by simp,fun i v hi=>by
 rw[h,World.cell?_alloc_mark];simp[hi]⟩
end Go.Proofs.YtkgikodiecmakaaGreatDoor
namespace Go.Proofs.YtkgikodiecmakaaGreatDoor
open Go.RowKit
theorem strInfos:(Tryz.prog.info? 9).map (fun i=>(i.zero,i.size,i.bytes))=some (some (.string ByteArray.empty),1,16):=by kernel_rfl
def IU (l:List ByteArray):List Value:=l.map Value.string
def GP (w:World) (base:Nat) (v:Value) (l:List ByteArray):Prop:=w.ownsRow base 9 1 v l.length (IU l)
theorem TB (w:World) (base:Nat):GP w base (.slice none 0 0) []:=World.ownsRow_nil w base _ _
theorem GP.far {w w':World} {base:Nat} {v:Value} {l:List ByteArray} {L:List Nat} (h:GP w base v l) (hb:Only L w w') (hL: ∀x∈L,some x≠v.ownBlock):GP w' base v l:=by
 refine⟨h.1,?_⟩;rcases h.2 with h|⟨g,cap,cur,e,hg,hh,r⟩;·exact .inl h
 ·exact .inr ⟨g,cap,cur,e,hg,(hb.block g (Array.getElem?_eq_some_iff.1 hh).1 (fun hm=>hL g hm (by rw[e];rfl))).trans hh,r⟩
theorem GP.block {w:World} {base:Nat} {v:Value} {l:List ByteArray} (h:GP w base v l): ∀k,v.ownBlock=some k→base≤k∧k<w.heap.size:=World.ownsRow.lt h
theorem GP.rd {w:World} {base:Nat} {v:Value} {l:List ByteArray} (h:GP w base v l): ∃A cap,v = .slice A l.length cap∧RdS w A l∧l.length≤cap∧cap≤maxLen∧(∀a,A=some a→base≤a.block):=by
 rcases h.2 with⟨e,hn⟩|⟨g,cap,cur,e,hg,hh,hc,hm,hs,ht⟩
 ·refine⟨none,0,by rw[e,hn],?_,by omega,by simp[maxLen],by simp⟩;obtain rfl:=List.eq_nil_of_length_eq_zero hn;exact RdG.nil
 ·refine⟨some ⟨g,0,none⟩,cap,e,fun _=>⟨g,0,rfl,(Array.getElem?_eq_some_iff.1 hh).1,fun i v hi=>?_⟩,hc,hm,fun a ha=>by simp at ha;subst ha;exact hg⟩;subst e;have:=World.ownsRow.cells h (g:=g) rfl i (.string v) (by simp[IU,hi]);simpa[Addr.add_lit] using this
theorem run_appS {w:World} (ty:TypeId) (base:Nat) (v:Value) (l:List ByteArray) (hown:GP w base v l) (A:Option Addr) (c:Nat) (m:List ByteArray) (hr:RdS w A m)
  (hlen:l.length+m.length≤8796093022208) (hbase:base≤w.heap.size) :
  ∃v' w',(Builtin.append_ #[84,84] ty #[v,.slice A m.length c]).run Tryz.prog w = .ok v' w'∧GP w' base v' (l++m)∧Only v.ownBlock.toList w w':=by
 obtain⟨i0,hi,hz0,hz1,hz2⟩:=info_parts strInfos;have hu:=Tryz.underlying84;by_cases h0:0<m.length
 ·obtain⟨b,off,rfl,hb,hc⟩:=hr h0;have hn: ∀j u,(IU m)[j]? = some u→w.cell? ((⟨b,off,none⟩:Addr).add j)=some u:=by
   intro j u hj;unfold IU at hj;rw[List.getElem?_map] at hj;obtain⟨s,hs,rfl⟩:=Option.map_eq_some_iff.1 hj;rw[Addr.add_lit];exact hc j s hs
  have h1c: ∀u∈IU m,u.oneCell'=true:=by
   intro u hu;unfold IU at hu;obtain⟨s,_,rfl⟩:=List.mem_map.1 hu;rfl
  obtain⟨v',w',e,h1,h2,h3⟩:=run_append_own (P:=Tryz.prog) w base 84 ty 9 i0 _ 1 16 hu hi hz0 hz1 hz2 rfl (by decide) v l.length (IU l) hown ⟨b,off,none⟩ m.length c (IU m) (by simp[IU]) hn h1c (by simp only[maxLen];omega) (by omega) hbase;exact⟨v',w',e,by show World.ownsRow _ _ _ _ _ _ _;simpa[IU] using h1,FJ h2⟩
 ·have e0:m=[]:=List.eq_nil_of_length_eq_zero (by omega);subst e0;refine⟨v,w,?_,by rw[List.append_nil];exact hown,Only.refl _ _⟩;have hf: ∀w':World,(Builtin.firstCells 1 0 (.slice A 0 c)).run Tryz.prog w' = .ok #[] w':=by
   intro w';cases A<;>simp[Builtin.firstCells,loadCells,loadCellsFrom]
  rcases hown.2 with⟨rfl,hn⟩|⟨g,cap,cur,rfl,_,_,hnc,_⟩;·cases A<;>simp[Builtin.append_,run_underlying hu,sizeOf,typeInfo,hi,hz1,Builtin.lenOf,hf]
  ·cases A<;>simp[Builtin.append_,run_underlying hu,sizeOf,typeInfo,hi,hz1,Builtin.lenOf,hf,hnc,storeCells]
theorem cB {w:World} {ops:Array Oper} {rest:List Oper} {o:Oper} {a:Act} {Q:Exit→Act→World→Prop} (hgd:o.guard=none) (s x:Operand)
  (ho:o.op = .call { callee:=.builtin .append,args:=#[s,x],argTypes:=#[84,84] })
  (base:Nat) (v:Value) (l:List ByteArray) (hs:a.eval s=v) (hown:GP w base v l) (A:Option Addr) (c:Nat) (m:List ByteArray) (k:Nat) (hk:m.length=k) (hx:a.eval x = .slice A k c) (hr:RdS w A m)
  (hlen:l.length+m.length≤8796093022208) (hbase:base≤w.heap.size)
  (h: ∀v' w',Hid (GP w' base v' (l++m))→Only v.ownBlock.toList w w'→wpList Tryz.prog ops Q rest (a.put o.dst v') w'):wpList Tryz.prog ops Q (o::rest) a w:=by
 subst hk;refine wpList_plain hgd fun K hK=>?_;obtain⟨v',w',hrun,h1,h2⟩:=run_appS o.type base v l hown A c m hr hlen hbase;unfold Oper.wp execOp;simp only[ho,resolve,invoke,builtin,Sem.run_bind,Sem.run_pure,Result.andThen_ok,List.map_toArray,List.map_cons,List.map_nil,hs,hx,hrun];exact hK _ _ (h v' w' h1 h2)
end Go.Proofs.YtkgikodiecmakaaGreatDoor
namespace Go.Proofs.YtkgikodiecmakaaGreatDoor
open Go.RowKit
theorem intInfos2:(Tryz.prog.info? 3).map (fun i=>(i.zero,i.size,i.bytes))=some (some (.int .i64 0),1,8):=by kernel_rfl
def IW (w:World) (base:Nat) (v:Value) (l:List Int):Prop:=w.ownsRow base 3 1 v l.length (QU l)
theorem FL (w:World) (base:Nat):IW w base (.slice none 0 0) []:=World.ownsRow_nil w base _ _
theorem IW.far {w w':World} {base:Nat} {v:Value} {l:List Int} {L:List Nat} (h:IW w base v l) (hb:Only L w w') (hL: ∀x∈L,some x≠v.ownBlock):IW w' base v l:=by
 refine⟨h.1,?_⟩;rcases h.2 with h|⟨g,cap,cur,e,hg,hh,r⟩;·exact .inl h
 ·exact .inr ⟨g,cap,cur,e,hg,(hb.block g (Array.getElem?_eq_some_iff.1 hh).1 (fun hm=>hL g hm (by rw[e];rfl))).trans hh,r⟩
theorem IW.block {w:World} {base:Nat} {v:Value} {l:List Int} (h:IW w base v l): ∀k,v.ownBlock=some k→base≤k∧k<w.heap.size:=World.ownsRow.lt h
theorem IW.rd {w:World} {base:Nat} {v:Value} {l:List Int} (h:IW w base v l): ∃A cap,v = .slice A l.length cap∧RdI w A l∧l.length≤cap∧cap≤maxLen∧(∀a,A=some a→base≤a.block):=by
 rcases h.2 with⟨e,hn⟩|⟨g,cap,cur,e,hg,hh,hc,hm,hs,ht⟩
 ·refine⟨none,0,by rw[e,hn],?_,by omega,by simp[maxLen],by simp⟩;obtain rfl:=List.eq_nil_of_length_eq_zero hn;exact RdG.nil
 ·refine⟨some ⟨g,0,none⟩,cap,e,fun _=>⟨g,0,rfl,(Array.getElem?_eq_some_iff.1 hh).1,fun i v hi=>?_⟩,hc,hm,fun a ha=>by simp at ha;subst ha;exact hg⟩;subst e;have:=World.ownsRow.cells h (g:=g) rfl i (.int .i64 v) (by simp[QU,hi]);simpa[Addr.add_lit] using this
theorem run_appI {w:World} (ty:TypeId) (base:Nat) (v:Value) (l:List Int) (hown:IW w base v l) (A:Option Addr) (c:Nat) (m:List Int) (hr:RdI w A m)
  (hlen:l.length+m.length≤8796093022208) (hbase:base≤w.heap.size) :
  ∃v' w',(Builtin.append_ #[81,81] ty #[v,.slice A m.length c]).run Tryz.prog w = .ok v' w'∧IW w' base v' (l++m)∧Only v.ownBlock.toList w w':=by
 obtain⟨i0,hi,hz0,hz1,hz2⟩:=info_parts intInfos2;have hu:=Tryz.underlying81;by_cases h0:0<m.length
 ·obtain⟨b,off,rfl,hb,hc⟩:=hr h0;have hn: ∀j u,(QU m)[j]? = some u→w.cell? ((⟨b,off,none⟩:Addr).add j)=some u:=by
   intro j u hj;unfold QU at hj;rw[List.getElem?_map] at hj;obtain⟨s,hs,rfl⟩:=Option.map_eq_some_iff.1 hj;rw[Addr.add_lit];exact hc j s hs
  have h1c: ∀u∈QU m,u.oneCell'=true:=by
   intro u hu;unfold QU at hu;obtain⟨s,_,rfl⟩:=List.mem_map.1 hu;rfl
  obtain⟨v',w',e,h1,h2,h3⟩:=run_append_own (P:=Tryz.prog) w base 81 ty 3 i0 _ 1 8 hu hi hz0 hz1 hz2 rfl (by decide) v l.length (QU l) hown ⟨b,off,none⟩ m.length c (QU m) (by simp[QU]) hn h1c (by simp only[maxLen];omega) (by omega) hbase;exact⟨v',w',e,by show World.ownsRow _ _ _ _ _ _ _;simpa[QU] using h1,FJ h2⟩
 ·have e0:m=[]:=List.eq_nil_of_length_eq_zero (by omega);subst e0;refine⟨v,w,?_,by rw[List.append_nil];exact hown,Only.refl _ _⟩;have hf: ∀w':World,(Builtin.firstCells 1 0 (.slice A 0 c)).run Tryz.prog w' = .ok #[] w':=by
   intro w';cases A<;>simp[Builtin.firstCells,loadCells,loadCellsFrom]
  rcases hown.2 with⟨rfl,hn⟩|⟨g,cap,cur,rfl,_,_,hnc,_⟩;·cases A<;>simp[Builtin.append_,run_underlying hu,sizeOf,typeInfo,hi,hz1,Builtin.lenOf,hf]
  ·cases A<;>simp[Builtin.append_,run_underlying hu,sizeOf,typeInfo,hi,hz1,Builtin.lenOf,hf,hnc,storeCells]
theorem DU {w:World} {ops:Array Oper} {rest:List Oper} {o:Oper} {a:Act} {Q:Exit→Act→World→Prop} (hgd:o.guard=none) (s x:Operand)
  (ho:o.op = .call { callee:=.builtin .append,args:=#[s,x],argTypes:=#[81,81] })
  (base:Nat) (v:Value) (l:List Int) (hs:a.eval s=v) (hown:IW w base v l) (A:Option Addr) (c:Nat) (m:List Int) (k:Nat) (hk:m.length=k) (hx:a.eval x = .slice A k c) (hr:RdI w A m)
  (hlen:l.length+m.length≤8796093022208) (hbase:base≤w.heap.size)
  (h: ∀v' w',Hid (IW w' base v' (l++m))→Only v.ownBlock.toList w w'→wpList Tryz.prog ops Q rest (a.put o.dst v') w'):wpList Tryz.prog ops Q (o::rest) a w:=by
 subst hk;refine wpList_plain hgd fun K hK=>?_;obtain⟨v',w',hrun,h1,h2⟩:=run_appI o.type base v l hown A c m hr hlen hbase;unfold Oper.wp execOp;simp only[ho,resolve,invoke,builtin,Sem.run_bind,Sem.run_pure,Result.andThen_ok,List.map_toArray,List.map_cons,List.map_nil,hs,hx,hrun];exact hK _ _ (h v' w' h1 h2)
end Go.Proofs.YtkgikodiecmakaaGreatDoor
namespace Go.Proofs.YtkgikodiecmakaaGreatDoor
open Go.RowKit
def FD.off (f:FD) (v:Value):Prop:=(∀a,f.tA=some a→0<f.text.length→v.ownBlock≠some a.block)∧(∀a,f.lA=some a→0<f.list.length→v.ownBlock≠some a.block)
theorem mine_snoc {wo w13 w14:World} {base k':Nat} {A':Option Addr} {v:Value} {gs:List FD} {g:FD} (X:Only [] wo w13) (P:Only v.ownBlock.toList w13 w14) (G:MC v (.slice A' (gs.length+1) k') w13.heap.size)
  (hv: ∀x,v.ownBlock=some x→base≤x∧x<wo.heap.size) (hm: ∀f∈gs,FD.mine wo f base∧f.off v) (mg:FD.mine w13 g wo.heap.size) (hb:base≤wo.heap.size) :
  ∀f∈gs++[g],FD.mine w14 f base∧f.off (.slice A' (gs.length+1) k'):=by
 have z:=X.size;have hnw: ∀x,some x=(Value.slice A' (gs.length+1) k').ownBlock→some x=v.ownBlock∨w13.heap.size≤x:=by
  intro x hx;rcases G with e|e;·left;rw[e] at hx;exact hx
  ·right;rw[e] at hx;injection hx with hx;omega
 intro f hf;rw[List.mem_append] at hf;rcases hf with hf|hf
 ·obtain⟨m1,fr⟩:=hm f hf;have t1:=m1.ok.tlt;have t2:=m1.ok.llt;refine⟨(m1.only X).off P (fun a ha h0 hx=>fr.1 a ha h0 (by simpa using hx)) (fun a ha h0 hx=>fr.2 a ha h0 (by simpa using hx)),fun a ha h0 hx=>?_,fun a ha h0 hx=>?_⟩
  ·rcases hnw _ hx.symm with h|h;·exact fr.1 a ha h0 h.symm
   ·have:=t1 a ha h0;omega
  ·rcases hnw _ hx.symm with h|h;·exact fr.2 a ha h0 h.symm
   ·have:=t2 a ha h0;omega
 ·simp at hf;subst hf;have t1:=mg.ok.tlt;have t2:=mg.ok.llt;refine⟨(mg.off P (fun a ha h0 hx=>?_) (fun a ha h0 hx=>?_)).mono hb,fun a ha h0 hx=>?_,fun a ha h0 hx=>?_⟩
  ·have h1:=mg.new.1 a ha;have h2:=hv _ (by simpa using hx);omega
  ·have h1:=mg.new.2 a ha;have h2:=hv _ (by simpa using hx);omega
  ·have h1:=mg.new.1 a ha;rcases hnw _ hx.symm with h|h;·have h2:=hv _ h.symm;omega
   ·have:=t1 a ha h0;omega
  ·have h1:=mg.new.2 a ha;rcases hnw _ hx.symm with h|h;·have h2:=hv _ h.symm;omega
   ·have:=t2 a ha h0;omega
theorem JX (s:ByteArray) (least:Nat) (w:World) (hs:s.size≤maxLen):Calls Tryz.prog 102 #[.string s,.int .i64 (least:Int)] w fun e w'=>e = .returned (.int .i64 (BR s least))∧w=w':=by
 unfold maxLen at hs;obtain⟨R,hR⟩: ∃R,R=BR s least:=⟨_,rfl⟩;rw[←hR];unfold BR at hR;by_cases h1:s.size<least
 ·have hR0:R=4:=by rw[hR];unfold FU;rw[decide_eq_false (show¬least≤s.size by omega)];rfl
  have i1:(s.size:Int)<(least:Int):=by omega
  clear hR;replace hR0:=AB hR0;go_enter Tryz.func102,Tryz.ntmps102
  go_wp2
  go_ret
  exact⟨CR hR0.out.symm,rfl⟩
 have i1: ¬(s.size:Int)<(least:Int):=by omega
 by_cases h2:64<s.size
 ·have hR0:R=4:=by rw[hR];unfold FU;rw[decide_eq_false (show¬s.size≤64 by omega)];simp
  have i2:(64:Int)<(s.size:Int):=by omega
  clear hR;replace hR0:=AB hR0;go_enter Tryz.func102,Tryz.ntmps102
  go_wp2
  go_ret
  exact⟨CR hR0.out.symm,rfl⟩
 have i2: ¬(64:Int)<(s.size:Int):=by omega
 have hR1:R=if s.data.toList.all JZ then 0 else 4:=by rw[hR];unfold FU;rw[decide_eq_true (show least≤s.size by omega),decide_eq_true (show s.size≤64 by omega)];rfl
 clear hR;obtain⟨n,hn⟩: ∃n,s.size=n:=⟨_,rfl⟩;replace hR1:=AB hR1;replace hn:=AB hn;go_enter Tryz.func102,Tryz.ntmps102
 go_wp2
 go_loop [17] (fun i=>∃k:Nat,k≤s.size∧i = .int .i64 k∧Hid ((s.data.toList.take k).all JZ=true)) (fun i=>s.size-(intOf i).toNat)
 case atStart=>exact⟨0,by omega,rfl,AB rfl⟩
 case round=>
  obtain⟨k,hk,rfl,hg⟩:=hrel;by_cases hlt:k<s.size
  ·have hts:=AB (KS s k hlt);by_cases hc:JZ s[k]=true
   ·have hcc:=AB hc;unfold JZ at hc;simp only[Bool.and_eq_true,decide_eq_true_eq] at hc;obtain⟨q1,q2⟩:=hc;go_wp2
    go_round
    case rel=>exact⟨k+1,by omega,by go_num,AB (by rw[hts.out,List.all_append,hg.out];simp[hcc.out])⟩
    case measure=>simp[intOf];omega
   ·have hf:R=4:=by
     rw[hR1.out,if_neg];intro h;have:=List.all_eq_true.1 h s[k] (by
      have:s[k]=s.data.toList[k]'(by simpa using hlt):=rfl;rw[this];exact List.getElem_mem _)
     exact hc this
    have hq:s[k].toNat<33∨126<s[k].toNat:=by
     unfold JZ at hc;simp at hc;omega
    clear hR1 hc;replace hf:=AB hf;by_cases q1:s[k].toNat<33
    ·clear hq;go_wp2
     go_ret
     exact⟨CR hf.out.symm,rfl⟩
    ·have q2:126<s[k].toNat:=by omega
     clear hq;go_wp2
     go_ret
     exact⟨CR hf.out.symm,rfl⟩
  ·obtain rfl:k=s.size:=by omega
   have hf:R=0:=by
    rw[hR1.out,if_pos];have:=hg.out;rw[List.take_of_length_le (by simp)] at this;exact this
   replace hf:=AB hf;go_wp2
   go_ret
   exact⟨CR hf.out.symm,rfl⟩
theorem LR (n:Nat) (w:World):Calls Tryz.prog 103 #[.int .i64 (n:Int)] w fun e w'=>e = .returned (.int .i64 (CH n))∧w=w':=by
 by_cases h:1024<n
 ·have h1:CH n=6:=if_pos h;rw[h1];have i1:(1024:Int)<(n:Int):=by omega
  clear h1;go_enter Tryz.func103,Tryz.ntmps103
  go_wp2
  go_ret
  exact⟨rfl,rfl⟩
 ·have h1:CH n=0:=if_neg h;rw[h1];have i1: ¬(1024:Int)<(n:Int):=by omega
  clear h1;go_enter Tryz.func103,Tryz.ntmps103
  go_wp2
  go_ret
  exact⟨rfl,rfl⟩
theorem PX (l:List Int) (k:Nat) (h: ∀x∈l.take k,x=0):DC l=DC (l.drop k):=by
 induction k generalizing l with
 |zero=>rfl
 |succ k ih=>
  cases l with
  |nil=>rfl
  |cons a l=>
   have ha:a=0:=h a (by simp);show(if a≠0 then a else DC l)=DC (l.drop k);rw[if_neg (by simpa using ha)];exact ih l (fun x hx=>h x (by simp[hx]))
theorem MP (A:Option Addr) (l:List Int) (c:Nat) (w:World) (h:RdI w A l) (hl:l.length≤maxLen):Calls Tryz.prog 101 #[.slice A l.length c] w fun e w'=>e = .returned (.int .i64 (DC l))∧w=w':=by
 unfold maxLen at hl;obtain⟨R,hR⟩: ∃R,R=DC l:=⟨_,rfl⟩;rw[←hR];obtain⟨n,hn⟩: ∃n,l.length=n:=⟨_,rfl⟩;rw[hn] at hl⊢;replace hn:=AB hn;replace hR:=AB hR;go_enter Tryz.func101,Tryz.ntmps101
 go_wp2
 go_loop [7] (fun i=>∃k:Nat,k≤n∧i = .int .i64 k∧Hid (∀x∈l.take k,x=0)) (fun i=>n-(intOf i).toNat)
 case atStart=>exact⟨0,by omega,rfl,AB (fun x hx=>by simp at hx)⟩
 case round=>
  obtain⟨k,hk,rfl,hg⟩:=hrel;by_cases hlt:k<n
  ·obtain⟨b,off,x,rfl,hb,hx,cx⟩:=RdG.at h k (by have:=hn.out;omega);by_cases hz:x=0
   ·subst hz;have hg2: ∀y∈l.take (k+1),y=0:=by
     intro y hy;rw[List.take_succ,hx] at hy;rcases List.mem_append.1 hy with hy|hy;·exact hg.out y hy
     ·simpa using hy
    replace hg2:=AB hg2;replace hx:=AB hx;go_wp2
    go_round
    case rel=>exact⟨k+1,by omega,by go_num,hg2⟩
    case measure=>simp[intOf];omega
   ·have hzb:(x !=0)=true:=by simpa using hz
    have hf:R=x:=by
     rw[hR.out,PX l k hg.out];have hd:l.drop k=x::l.drop (k+1):=by
      rw[List.drop_eq_getElem_cons (by have:=hn.out;omega)];congr 1
      rw[List.getElem?_eq_getElem (by have:=hn.out;omega)] at hx;exact Option.some.inj hx
     rw[hd];exact if_pos hz
    replace hf:=AB hf;replace hx:=AB hx;clear hz;go_wp2
    go_ret
    exact⟨CR hf.out.symm,rfl⟩
  ·obtain rfl:k=n:=by omega
   have hf:R=0:=by
    rw[hR.out,PX l k hg.out,List.drop_of_length_le (by have:=hn.out;omega)];rfl
   replace hf:=AB hf;go_wp2
   go_ret
   exact⟨CR hf.out.symm,rfl⟩
def XB (w:World) (p:PF):Ending→World→Prop:=fun e w'=>Only [] w w'∧∃f:FD,e = .returned f.val∧f.pf=p∧f.new w.heap.size∧f.ok w'∧U32 f.n
theorem DL (w:World) (fs:List FD) (n:Nat) (hn:fs.length=n) (h1:n≤1000) (cs:Array Value) (h:cs=(CC fs).toArray):EZ (w.alloc (.cells cs 86)) w.heap.size (.slice (some ⟨w.heap.size,0,none⟩) n n) fs:=by
 subst h;subst hn;exact⟨by rw[HA],.inr ⟨w.heap.size,fs.length,(CC fs).toArray,rfl,Nat.le_refl _,heap_alloc_new w (.cells (CC fs).toArray 86),Nat.le_refl _,by unfold maxLen;omega,by simp[HA],by rw[←HA];simp⟩⟩
theorem CN {w:World} {f:FD} (h:f.ok w) (n c:Nat):f.off (.slice (some ⟨w.heap.size,0,none⟩) n c):=
 ⟨fun a ha h0 hx=>by have:=h.tlt a ha h0;have hx2:w.heap.size=a.block:=Option.some.inj hx;omega,fun a ha h0 hx=>by have:=h.llt a ha h0;have hx2:w.heap.size=a.block:=Option.some.inj hx;omega⟩
section
variable (m : RQ) (g : Nat) (w : World)
end
theorem FX:ElemT Tryz.prog 82 86 4 64:=IN Tryz.underlying82 RO rfl (by decide)
theorem JU: ∀f:FD,∀u∈f.cells,u.oneCell'=true:=by intro f u hu;simp[FD.cells] at hu;rcases hu with rfl|rfl|rfl|rfl<;>rfl
theorem JT: ∀f:FD,f.cells.length=4:=fun _=>rfl
theorem BT {w w':World} {v v':Value} {fs:List FD} (P:Only v.ownBlock.toList w w') (G:MC v v' w.heap.size) (h: ∀f∈fs,FD.ok w f∧f.off v): ∀f∈fs,FD.ok w' f∧f.off v':=by
 intro f hf;obtain⟨ok,off⟩:=h f hf;have t1:=ok.tlt;have t2:=ok.llt;refine⟨{ ok with text:=ok.text.onlyL P (fun a ha h0 hx=>off.1 a ha h0 (by simpa using hx)),list:=ok.list.onlyL P (fun a ha h0 hx=>off.2 a ha h0 (by simpa using hx)) },fun a ha h0 hx=>?_,fun a ha h0 hx=>?_⟩
 ·rcases G with e|e;·rw[e] at hx;exact off.1 a ha h0 hx
  ·rw[e] at hx;injection hx with hx;have:=t1 a ha h0;omega
 ·rcases G with e|e;·rw[e] at hx;exact off.2 a ha h0 hx
  ·rw[e] at hx;injection hx with hx;have:=t2 a ha h0;omega
theorem ER {f:FD} {v:Value} (h1:f.text=[]) (h2:f.list=[]):f.off v:=⟨fun a ha h0=>by rw[h1] at h0;simp at h0,fun a ha h0=>by rw[h2] at h0;simp at h0⟩
theorem HM {w:World} {q:Nat} {f:FD} (h:Blk w q 86 f.cells):RdX FD.cells w (some ⟨q,0,none⟩) [f]:=fun _=>⟨q,0,rfl,h.lt,fun j u hj=>by
 rw[Nat.zero_add,h.cell];simpa using hj⟩
section
variable (m : RQ) (g : Nat) (w : World)
end
theorem EP {w:World} {A:Option Addr} {l:List Int} {c:Nat} (h:RdG (.int .u8) w A l):(convert 34 9 (.slice A l.length c)).run Tryz.prog w = .ok (.string (strOfNums l)) w:=by
 by_cases h0:0<l.length
 ·obtain⟨b,off,rfl,_,hc⟩:=h h0;exact run_convert_bytes_arg (P:=Tryz.prog) (w:=w) 34 5 (by kernel_rfl) (by kernel_rfl) b off l.length c l rfl (fun i hi=>by
   have hx:l[i]? = some (l[i]'hi):=List.getElem?_eq_getElem hi;rw[hc i _ hx];simp[List.getD,hx]) 9 (by kernel_rfl)
 ·obtain rfl:l=[]:=List.eq_nil_of_length_eq_zero (by omega);cases A with
  |none=>
   have e:(convert 34 9 (.slice none 0 c)).run Tryz.prog w=(Conv.bytesToString (.slice none 0 c)).run Tryz.prog w:=by simp[convert,run_underlying Tryz.underlying34,run_underlying Tryz.underlying9,run_underlying Tryz.underlying5]
   rw[show([]:List Int).length=0 from rfl,e];first|rfl|(simp[Conv.bytesToString,loadCells,loadCellsFrom,strOfNums];try rfl)
  |some a=>
   have e:(convert 34 9 (.slice (some a) 0 c)).run Tryz.prog w=(Conv.bytesToString (.slice (some a) 0 c)).run Tryz.prog w:=by simp[convert,run_underlying Tryz.underlying34,run_underlying Tryz.underlying9,run_underlying Tryz.underlying5]
   rw[show([]:List Int).length=0 from rfl,e];first|rfl|(simp[Conv.bytesToString,loadCells,loadCellsFrom,strOfNums];try rfl)
theorem IH (m:RQ) (g:Nat) (w0 w:World) (A:Option Addr) (a:FD) (r:List FD) (c:Nat) (hF:RdF w0 A (a::r)) (hO:Only [] w0 w) (hlt:w0.heap.size≤g) (hg:Blk w g 120 m.cells):Calls Tryz.prog 80 #[.pointer (some ⟨g,0,none⟩),.slice A (r.length+1) c] w fun e w'=>e = .returned (.tuple #[])∧Only [g] w w'∧Blk w' g 120 (RQ.cells { m with text:=strOfNums a.text }):=by
 obtain⟨b,off,rfl,hb,hc⟩:=hF.cells (by simp);have hbg: ¬b=g:=by omega
 have hgl:=hg.lt;obtain⟨_,n0,t0,_⟩:=hc 0 a rfl;simp only[Nat.zero_mul,Nat.one_mul,Nat.reduceMul,Nat.add_zero] at n0 t0;have n0:=AV hO hb (by simp) n0;have t0:=AV hO hb (by simp) t0;have g1:w.cell? ⟨g,1,none⟩=some (.string m.text):=hg.cell 1;have z1:=hg.frozen 1;have kc0:(convert 34 9 (.slice a.tA a.text.length a.tc)).run Tryz.prog w = .ok (.string (strOfNums a.text)) w:=EP ((hF.ok a (by simp)).1.text.only hO);have hsl:(0:Int)≤(r.length:Int):=Int.natCast_nonneg _;clear hc;have hb2:=hg.set_ 1 (.string (strOfNums a.text));have hO2:Only [g] w (w.setCell ⟨g,1,none⟩ (.string (strOfNums a.text))):=(Only.refl [g] w).setCell (p:=⟨g,1,none⟩) (.inl (by simp)) _;go_enter Tryz.func80,Tryz.ntmps80
 go_wp2
 go_end0
 exact⟨rfl,hO2,hb2⟩
theorem YD (m:RQ) (g:Nat) (w0 w:World) (A:Option Addr) (a:FD) (r:List FD) (c:Nat) (hF:RdF w0 A (a::r)) (hO:Only [] w0 w) (hlt:w0.heap.size≤g) (hg:Blk w g 120 m.cells):Calls Tryz.prog 88 #[.pointer (some ⟨g,0,none⟩),.slice A (r.length+1) c] w fun e w'=>e = .returned (.tuple #[])∧Only [g] w w'∧Blk w' g 120 (RQ.cells { m with code:=a.n }):=by
 obtain⟨b,off,rfl,hb,hc⟩:=hF.cells (by simp);have hbg: ¬b=g:=by omega
 have hgl:=hg.lt;obtain⟨_,n0,t0,_⟩:=hc 0 a rfl;simp only[Nat.zero_mul,Nat.one_mul,Nat.reduceMul,Nat.add_zero] at n0 t0;have n0:=AV hO hb (by simp) n0;have t0:=AV hO hb (by simp) t0;have g10:w.cell? ⟨g,10,none⟩=some (.int .u32 m.code):=hg.cell 10;have z10:=hg.frozen 10;have hsl:(0:Int)≤(r.length:Int):=Int.natCast_nonneg _;clear hc;have hb2:=hg.set_ 10 (.int .u32 a.n);have hO2:Only [g] w (w.setCell ⟨g,10,none⟩ (.int .u32 a.n)):=(Only.refl [g] w).setCell (p:=⟨g,10,none⟩) (.inl (by simp)) _;go_enter Tryz.func88,Tryz.ntmps88
 go_wp2
 go_end0
 exact⟨rfl,hO2,hb2⟩
theorem cR (m:RQ) (g:Nat) (w0 w:World) (A:Option Addr) (a:FD) (r:List FD) (c:Nat) (hF:RdF w0 A (a::r)) (hO:Only [] w0 w) (hlt:w0.heap.size≤g) (hg:Blk w g 120 m.cells):Calls Tryz.prog 86 #[.pointer (some ⟨g,0,none⟩),.slice A (r.length+1) c] w fun e w'=>e = .returned (.tuple #[])∧Only [g] w w'∧Blk w' g 120 (RQ.cells { m with on:=decide (a.n=1) }):=by
 obtain⟨on,hon⟩: ∃on,decide (a.n=1)=on:=⟨_,rfl⟩;rw[hon];have hon2:(a.n==1)=on:=hon;clear hon;obtain⟨b,off,rfl,hb,hc⟩:=hF.cells (by simp);have hbg: ¬b=g:=by omega
 have hgl:=hg.lt;obtain⟨_,n0,t0,_⟩:=hc 0 a rfl;simp only[Nat.zero_mul,Nat.one_mul,Nat.reduceMul,Nat.add_zero] at n0 t0;have n0:=AV hO hb (by simp) n0;have t0:=AV hO hb (by simp) t0;have g9:w.cell? ⟨g,9,none⟩=some (.bool m.on):=hg.cell 9;have z9:=hg.frozen 9;have hsl:(0:Int)≤(r.length:Int):=Int.natCast_nonneg _;clear hc;have hb2:=hg.set_ 9 (.bool on);have hO2:Only [g] w (w.setCell ⟨g,9,none⟩ (.bool on)):=(Only.refl [g] w).setCell (p:=⟨g,9,none⟩) (.inl (by simp)) _;go_enter Tryz.func86,Tryz.ntmps86
 go_wp2
 go_end0
 exact⟨rfl,hO2,hb2⟩
theorem YE (m:RQ) (g:Nat) (w:World) (v:Value) (hg:Blk w g 120 m.cells):Calls Tryz.prog 77 #[.pointer (some ⟨g,0,none⟩),v] w fun e w'=>e = .returned (.tuple #[])∧Only [g] w w'∧Blk w' g 120 m.cells:=by
 go_enter Tryz.func77,Tryz.ntmps77
 go_wp2
 go_end0
 exact⟨rfl,Only.refl _ _,hg⟩
theorem aR (m:RQ) (g:Nat) (w0 w:World) (A:Option Addr) (a d:FD) (r:List FD) (c:Nat) (hF:RdF w0 A (a::d::r)) (hO:Only [] w0 w) (hlt:w0.heap.size≤g) (hg:Blk w g 120 m.cells):Calls Tryz.prog 74 #[.pointer (some ⟨g,0,none⟩),.slice A (r.length+2) c] w fun e w'=>e = .returned (.tuple #[])∧Only [g] w w'∧Blk w' g 120 (RQ.cells { m with text:=strOfNums a.text,value:=strOfNums d.text }):=by
 obtain⟨b,off,rfl,hb,hc⟩:=hF.cells (by simp);have hbg: ¬b=g:=by omega
 have hgl:=hg.lt;obtain⟨_,n0,t0,_⟩:=hc 0 a rfl;simp only[Nat.zero_mul,Nat.one_mul,Nat.reduceMul,Nat.add_zero] at n0 t0;obtain⟨_,n1,t1,_⟩:=hc 1 d rfl;simp only[Nat.zero_mul,Nat.one_mul,Nat.reduceMul,Nat.add_zero] at n1 t1;have hI0:Only [] w0 { w with drawn:=w.drawn+1 }:=hO.drew;have g1:w.cell? ⟨g,1,none⟩=some (.string m.text):=hg.cell 1;have z1:=hg.frozen 1;have g2:w.cell? ⟨g,2,none⟩=some (.string m.value):=hg.cell 2;have z2:=hg.frozen 2;have hsl:(0:Int)≤(r.length:Int):=Int.natCast_nonneg _;clear hc;go_enter Tryz.func74,Tryz.ntmps74
 go_wp2_with fail
 have hI:(fun w':World=>Only [] w0 w') { w with drawn:=w.drawn+1 }:=hI0;refine BJ (fun w':World=>Only [] w0 w') [] (by kernel_rfl) ?_;refine wpAnyE_tg 0 (v:=(.pointer (some ⟨g,0,none⟩))) rfl hI ?_;refine wpAnyE_tg 1 (v:=(.pointer (some ⟨g,0,none⟩))) rfl hI ?_;refine wpAnyE_tg 2 (v:=(.slice (some ⟨b,off,none⟩) (r.length+2) c)) rfl hI ?_;refine wpAnyE_tk 3 (v:=(.pointer (some ⟨b,off,none⟩))) rfl hI (fun w' hw'=>by go_simp;intro h7;exact absurd h7 (by omega)) ?_;refine wpAnyE_tg 4 (v:=(.pointer (some ⟨b,off+2,none⟩))) rfl hI ?_;refine wpAnyE_tk 5 (v:=(.slice a.tA a.text.length a.tc)) rfl hI (fun w' hw'=>by have y0:=AV hw' hb (by simp) t0;go_simp) ?_;refine wpAnyE_tk 6 (v:=(.string (strOfNums a.text))) rfl hI (fun w' hw'=>by have kc:=EP (c:=a.tc) ((hF.ok a (by simp)).1.text.only hw');go_simp) ?_;refine wpAnyE_tg 7 (v:=(.slice (some ⟨b,off,none⟩) (r.length+2) c)) rfl hI ?_;refine wpAnyE_tk 8 (v:=(.pointer (some ⟨b,off+4,none⟩))) rfl hI (fun w' hw'=>by go_simp;intro h7;exact absurd h7 (by omega)) ?_;refine wpAnyE_tg 9 (v:=(.pointer (some ⟨b,off+4+2,none⟩))) rfl hI ?_;refine wpAnyE_tk 10 (v:=(.slice d.tA d.text.length d.tc)) rfl hI (fun w' hw'=>by have y0:=AV hw' hb (by simp) t1;go_simp) ?_;refine wpAnyE_tk 11 (v:=(.string (strOfNums d.text))) rfl hI (fun w' hw'=>by have kc:=EP (c:=d.tc) ((hF.ok d (by simp)).1.text.only hw');go_simp) ?_;refine wpAnyE_tg 12 (v:=(.pointer (some ⟨g,0,none⟩))) rfl hI ?_;refine wpAnyE_tg 13 (v:=(.pointer (some ⟨g,0,none⟩))) rfl hI ?_;refine wpAnyE_tg 14 (v:=(.pointer (some ⟨g,1,none⟩))) rfl hI ?_;refine AD 15 rfl (by kernel_rfl) hI (fun K hK=>?_);rw[if_pos (by kernel_rfl)];go_simp
 refine hK _ _ ?_;clear hK K;have hI:=Only.setCell (p:=⟨g,1,none⟩) hI (.inr hlt) (.string (strOfNums a.text));refine wpAnyE_tg 16 (v:=(.pointer (some ⟨g,0,none⟩))) rfl hI ?_;refine wpAnyE_tg 17 (v:=(.pointer (some ⟨g,0,none⟩))) rfl hI ?_;refine wpAnyE_tg 18 (v:=(.pointer (some ⟨g,2,none⟩))) rfl hI ?_;refine AD 19 rfl (by kernel_rfl) hI (fun K hK=>?_);rw[if_pos (by kernel_rfl)];go_simp
 refine hK _ _ ?_;clear hK K;have hI:=Only.setCell (p:=⟨g,2,none⟩) hI (.inr hlt) (.string (strOfNums d.text));refine AX (by kernel_rfl) hI ?_;(try simp only[Exit.inBlock,Exit.then])
 (try go_wp2_with fail)
 go_end0
 exact⟨rfl,((((((Only.refl [g] w).drew)).setCell (p:=⟨g,1,none⟩) (.inl (by simp)) (.string (strOfNums a.text)))).setCell (p:=⟨g,2,none⟩) (.inl (by simp)) (.string (strOfNums d.text))),((hg.drew).set_ 1 (.string (strOfNums a.text))).set_ 2 (.string (strOfNums d.text))⟩
theorem OA (m:RQ) (g:Nat) (w0 w:World) (A:Option Addr) (a d u v:FD) (r:List FD) (c:Nat) (hF:RdF w0 A (a::d::u::v::r)) (hO:Only [] w0 w) (hlt:w0.heap.size≤g) (hg:Blk w g 120 m.cells):Calls Tryz.prog 84 #[.pointer (some ⟨g,0,none⟩),.slice A (r.length+4) c] w fun e w'=>e = .returned (.tuple #[])∧Only [g] w w'∧Blk w' g 120 (RQ.cells { m with cols:=a.n,rows:=d.n,width:=u.n,height:=v.n }):=by
 obtain⟨b,off,rfl,hb,hc⟩:=hF.cells (by simp);have hbg: ¬b=g:=by omega
 have hgl:=hg.lt;obtain⟨_,n0,t0,_⟩:=hc 0 a rfl;simp only[Nat.zero_mul,Nat.one_mul,Nat.reduceMul,Nat.add_zero] at n0 t0;obtain⟨_,n1,t1,_⟩:=hc 1 d rfl;simp only[Nat.zero_mul,Nat.one_mul,Nat.reduceMul,Nat.add_zero] at n1 t1;obtain⟨_,n2,t2,_⟩:=hc 2 u rfl;simp only[Nat.zero_mul,Nat.one_mul,Nat.reduceMul,Nat.add_zero] at n2 t2;obtain⟨_,n3,t3,_⟩:=hc 3 v rfl;simp only[Nat.zero_mul,Nat.one_mul,Nat.reduceMul,Nat.add_zero] at n3 t3;have hI0:Only [] w0 { w with drawn:=w.drawn+1 }:=hO.drew;have g4:w.cell? ⟨g,4,none⟩=some (.int .u32 m.cols):=hg.cell 4;have z4:=hg.frozen 4;have g5:w.cell? ⟨g,5,none⟩=some (.int .u32 m.rows):=hg.cell 5;have z5:=hg.frozen 5;have g6:w.cell? ⟨g,6,none⟩=some (.int .u32 m.width):=hg.cell 6;have z6:=hg.frozen 6;have g7:w.cell? ⟨g,7,none⟩=some (.int .u32 m.height):=hg.cell 7;have z7:=hg.frozen 7;have hsl:(0:Int)≤(r.length:Int):=Int.natCast_nonneg _;clear hc;go_enter Tryz.func84,Tryz.ntmps84
 go_wp2_with fail
 have hI:(fun w':World=>Only [] w0 w') { w with drawn:=w.drawn+1 }:=hI0;refine BJ (fun w':World=>Only [] w0 w') [] (by kernel_rfl) ?_;refine wpAnyE_tg 0 (v:=(.pointer (some ⟨g,0,none⟩))) rfl hI ?_;refine wpAnyE_tg 1 (v:=(.slice (some ⟨b,off,none⟩) (r.length+4) c)) rfl hI ?_;refine wpAnyE_tk 2 (v:=(.pointer (some ⟨b,off,none⟩))) rfl hI (fun w' hw'=>by go_simp;intro h7;exact absurd h7 (by omega)) ?_;refine wpAnyE_tg 3 (v:=(.pointer (some ⟨b,off+1,none⟩))) rfl hI ?_;refine wpAnyE_tk 4 (v:=(.int .u32 a.n)) rfl hI (fun w' hw'=>by have y0:=AV hw' hb (by simp) n0;go_simp) ?_;refine wpAnyE_tg 5 (v:=(.slice (some ⟨b,off,none⟩) (r.length+4) c)) rfl hI ?_;refine wpAnyE_tk 6 (v:=(.pointer (some ⟨b,off+4,none⟩))) rfl hI (fun w' hw'=>by go_simp;intro h7;exact absurd h7 (by omega)) ?_;refine wpAnyE_tg 7 (v:=(.pointer (some ⟨b,off+4+1,none⟩))) rfl hI ?_;refine wpAnyE_tk 8 (v:=(.int .u32 d.n)) rfl hI (fun w' hw'=>by have y0:=AV hw' hb (by simp) n1;go_simp) ?_;refine wpAnyE_tg 9 (v:=(.slice (some ⟨b,off,none⟩) (r.length+4) c)) rfl hI ?_;refine wpAnyE_tk 10 (v:=(.pointer (some ⟨b,off+8,none⟩))) rfl hI (fun w' hw'=>by go_simp;intro h7;exact absurd h7 (by omega)) ?_;refine wpAnyE_tg 11 (v:=(.pointer (some ⟨b,off+8+1,none⟩))) rfl hI ?_;refine wpAnyE_tk 12 (v:=(.int .u32 u.n)) rfl hI (fun w' hw'=>by have y0:=AV hw' hb (by simp) n2;go_simp) ?_;refine wpAnyE_tg 13 (v:=(.slice (some ⟨b,off,none⟩) (r.length+4) c)) rfl hI ?_;refine wpAnyE_tk 14 (v:=(.pointer (some ⟨b,off+12,none⟩))) rfl hI (fun w' hw'=>by go_simp;intro h7;exact absurd h7 (by omega)) ?_;refine wpAnyE_tg 15 (v:=(.pointer (some ⟨b,off+12+1,none⟩))) rfl hI ?_;refine wpAnyE_tk 16 (v:=(.int .u32 v.n)) rfl hI (fun w' hw'=>by have y0:=AV hw' hb (by simp) n3;go_simp) ?_;refine wpAnyE_tg 17 (v:=(.agg #[.int .u32 a.n,.int .u32 d.n,.int .u32 u.n,.int .u32 v.n])) rfl hI ?_;refine wpAnyE_tg 18 (v:=(.pointer (some ⟨g,0,none⟩))) rfl hI ?_;refine wpAnyE_tg 19 (v:=(.pointer (some ⟨g,0,none⟩))) rfl hI ?_;refine wpAnyE_tg 20 (v:=(.pointer (some ⟨g,4,none⟩))) rfl hI ?_;refine AD 21 rfl (by kernel_rfl) hI (fun K hK=>?_);rw[if_pos (by kernel_rfl)];go_simp
 refine hK _ _ ?_;clear hK K;have hI:=Only.setCell (p:=⟨g,4,none⟩) hI (.inr hlt) (.int .u32 a.n);have hI:=Only.setCell (p:=⟨g,5,none⟩) hI (.inr hlt) (.int .u32 d.n);have hI:=Only.setCell (p:=⟨g,6,none⟩) hI (.inr hlt) (.int .u32 u.n);have hI:=Only.setCell (p:=⟨g,7,none⟩) hI (.inr hlt) (.int .u32 v.n);refine AX (by kernel_rfl) hI ?_;(try simp only[Exit.inBlock,Exit.then])
 (try go_wp2_with fail)
 go_end0
 exact⟨rfl,((((((((((Only.refl [g] w).drew)).setCell (p:=⟨g,4,none⟩) (.inl (by simp)) (.int .u32 a.n))).setCell (p:=⟨g,5,none⟩) (.inl (by simp)) (.int .u32 d.n))).setCell (p:=⟨g,6,none⟩) (.inl (by simp)) (.int .u32 u.n))).setCell (p:=⟨g,7,none⟩) (.inl (by simp)) (.int .u32 v.n)),((((hg.drew).set_ 4 (.int .u32 a.n)).set_ 5 (.int .u32 d.n)).set_ 6 (.int .u32 u.n)).set_ 7 (.int .u32 v.n)⟩
theorem UV (m:RQ) (g:Nat) (w0 w:World) (A:Option Addr) (a d u v:FD) (r:List FD) (c:Nat) (hF:RdF w0 A (a::d::u::v::r)) (hO:Only [] w0 w) (hlt:w0.heap.size≤g) (hg:Blk w g 120 m.cells):Calls Tryz.prog 90 #[.pointer (some ⟨g,0,none⟩),.slice A (r.length+4) c] w fun e w'=>e = .returned (.tuple #[])∧Only [g] w w'∧Blk w' g 120 (RQ.cells { m with text:=strOfNums a.text,on:=decide (d.n=1),value:=strOfNums u.text,lang:=strOfNums v.text }):=by
 obtain⟨on,hon⟩: ∃on,decide (d.n=1)=on:=⟨_,rfl⟩;rw[hon];have hon2:(d.n==1)=on:=hon;clear hon;obtain⟨b,off,rfl,hb,hc⟩:=hF.cells (by simp);have hbg: ¬b=g:=by omega
 have hgl:=hg.lt;obtain⟨_,n0,t0,_⟩:=hc 0 a rfl;simp only[Nat.zero_mul,Nat.one_mul,Nat.reduceMul,Nat.add_zero] at n0 t0;obtain⟨_,n1,t1,_⟩:=hc 1 d rfl;simp only[Nat.zero_mul,Nat.one_mul,Nat.reduceMul,Nat.add_zero] at n1 t1;obtain⟨_,n2,t2,_⟩:=hc 2 u rfl;simp only[Nat.zero_mul,Nat.one_mul,Nat.reduceMul,Nat.add_zero] at n2 t2;obtain⟨_,n3,t3,_⟩:=hc 3 v rfl;simp only[Nat.zero_mul,Nat.one_mul,Nat.reduceMul,Nat.add_zero] at n3 t3;have hI0:Only [] w0 { w with drawn:=w.drawn+1 }:=hO.drew;have g1:w.cell? ⟨g,1,none⟩=some (.string m.text):=hg.cell 1;have z1:=hg.frozen 1;have g9:w.cell? ⟨g,9,none⟩=some (.bool m.on):=hg.cell 9;have z9:=hg.frozen 9;have g2:w.cell? ⟨g,2,none⟩=some (.string m.value):=hg.cell 2;have z2:=hg.frozen 2;have g3:w.cell? ⟨g,3,none⟩=some (.string m.lang):=hg.cell 3;have z3:=hg.frozen 3;have hsl:(0:Int)≤(r.length:Int):=Int.natCast_nonneg _;clear hc;go_enter Tryz.func90,Tryz.ntmps90
 go_wp2_with fail
 have hI:(fun w':World=>Only [] w0 w') { w with drawn:=w.drawn+1 }:=hI0;refine BJ (fun w':World=>Only [] w0 w') [] (by kernel_rfl) ?_;refine wpAnyE_tg 0 (v:=(.pointer (some ⟨g,0,none⟩))) rfl hI ?_;refine wpAnyE_tg 1 (v:=(.pointer (some ⟨g,0,none⟩))) rfl hI ?_;refine wpAnyE_tg 2 (v:=(.pointer (some ⟨g,0,none⟩))) rfl hI ?_;refine wpAnyE_tg 3 (v:=(.pointer (some ⟨g,0,none⟩))) rfl hI ?_;refine wpAnyE_tg 4 (v:=(.slice (some ⟨b,off,none⟩) (r.length+4) c)) rfl hI ?_;refine wpAnyE_tk 5 (v:=(.pointer (some ⟨b,off,none⟩))) rfl hI (fun w' hw'=>by go_simp;intro h7;exact absurd h7 (by omega)) ?_;refine wpAnyE_tg 6 (v:=(.pointer (some ⟨b,off+2,none⟩))) rfl hI ?_;refine wpAnyE_tk 7 (v:=(.slice a.tA a.text.length a.tc)) rfl hI (fun w' hw'=>by have y0:=AV hw' hb (by simp) t0;go_simp) ?_;refine wpAnyE_tk 8 (v:=(.string (strOfNums a.text))) rfl hI (fun w' hw'=>by have kc:=EP (c:=a.tc) ((hF.ok a (by simp)).1.text.only hw');go_simp) ?_;refine wpAnyE_tg 9 (v:=(.slice (some ⟨b,off,none⟩) (r.length+4) c)) rfl hI ?_;refine wpAnyE_tk 10 (v:=(.pointer (some ⟨b,off+4,none⟩))) rfl hI (fun w' hw'=>by go_simp;intro h7;exact absurd h7 (by omega)) ?_;refine wpAnyE_tg 11 (v:=(.pointer (some ⟨b,off+4+1,none⟩))) rfl hI ?_;refine wpAnyE_tk 12 (v:=(.int .u32 d.n)) rfl hI (fun w' hw'=>by have y0:=AV hw' hb (by simp) n1;go_simp) ?_;refine wpAnyE_tg 13 (v:=(.bool on)) rfl hI ?_;refine wpAnyE_tg 14 (v:=(.slice (some ⟨b,off,none⟩) (r.length+4) c)) rfl hI ?_;refine wpAnyE_tk 15 (v:=(.pointer (some ⟨b,off+8,none⟩))) rfl hI (fun w' hw'=>by go_simp;intro h7;exact absurd h7 (by omega)) ?_;refine wpAnyE_tg 16 (v:=(.pointer (some ⟨b,off+8+2,none⟩))) rfl hI ?_;refine wpAnyE_tk 17 (v:=(.slice u.tA u.text.length u.tc)) rfl hI (fun w' hw'=>by have y0:=AV hw' hb (by simp) t2;go_simp) ?_;refine wpAnyE_tk 18 (v:=(.string (strOfNums u.text))) rfl hI (fun w' hw'=>by have kc:=EP (c:=u.tc) ((hF.ok u (by simp)).1.text.only hw');go_simp) ?_;refine wpAnyE_tg 19 (v:=(.slice (some ⟨b,off,none⟩) (r.length+4) c)) rfl hI ?_;refine wpAnyE_tk 20 (v:=(.pointer (some ⟨b,off+12,none⟩))) rfl hI (fun w' hw'=>by go_simp;intro h7;exact absurd h7 (by omega)) ?_;refine wpAnyE_tg 21 (v:=(.pointer (some ⟨b,off+12+2,none⟩))) rfl hI ?_;refine wpAnyE_tk 22 (v:=(.slice v.tA v.text.length v.tc)) rfl hI (fun w' hw'=>by have y0:=AV hw' hb (by simp) t3;go_simp) ?_;refine wpAnyE_tk 23 (v:=(.string (strOfNums v.text))) rfl hI (fun w' hw'=>by have kc:=EP (c:=v.tc) ((hF.ok v (by simp)).1.text.only hw');go_simp) ?_;refine wpAnyE_tg 24 (v:=(.pointer (some ⟨g,0,none⟩))) rfl hI ?_;refine wpAnyE_tg 25 (v:=(.pointer (some ⟨g,0,none⟩))) rfl hI ?_;refine wpAnyE_tg 26 (v:=(.pointer (some ⟨g,1,none⟩))) rfl hI ?_;refine AD 27 rfl (by kernel_rfl) hI (fun K hK=>?_);rw[if_pos (by kernel_rfl)];go_simp
 refine hK _ _ ?_;clear hK K;have hI:=Only.setCell (p:=⟨g,1,none⟩) hI (.inr hlt) (.string (strOfNums a.text));refine wpAnyE_tg 28 (v:=(.pointer (some ⟨g,0,none⟩))) rfl hI ?_;refine wpAnyE_tg 29 (v:=(.pointer (some ⟨g,0,none⟩))) rfl hI ?_;refine wpAnyE_tg 30 (v:=(.pointer (some ⟨g,9,none⟩))) rfl hI ?_;refine AD 31 rfl (by kernel_rfl) hI (fun K hK=>?_);rw[if_pos (by kernel_rfl)];go_simp
 refine hK _ _ ?_;clear hK K;have hI:=Only.setCell (p:=⟨g,9,none⟩) hI (.inr hlt) (.bool on);refine wpAnyE_tg 32 (v:=(.pointer (some ⟨g,0,none⟩))) rfl hI ?_;refine wpAnyE_tg 33 (v:=(.pointer (some ⟨g,0,none⟩))) rfl hI ?_;refine wpAnyE_tg 34 (v:=(.pointer (some ⟨g,2,none⟩))) rfl hI ?_;refine AD 35 rfl (by kernel_rfl) hI (fun K hK=>?_);rw[if_pos (by kernel_rfl)];go_simp
 refine hK _ _ ?_;clear hK K;have hI:=Only.setCell (p:=⟨g,2,none⟩) hI (.inr hlt) (.string (strOfNums u.text));refine wpAnyE_tg 36 (v:=(.pointer (some ⟨g,0,none⟩))) rfl hI ?_;refine wpAnyE_tg 37 (v:=(.pointer (some ⟨g,0,none⟩))) rfl hI ?_;refine wpAnyE_tg 38 (v:=(.pointer (some ⟨g,3,none⟩))) rfl hI ?_;refine AD 39 rfl (by kernel_rfl) hI (fun K hK=>?_);rw[if_pos (by kernel_rfl)];go_simp
 refine hK _ _ ?_;clear hK K;have hI:=Only.setCell (p:=⟨g,3,none⟩) hI (.inr hlt) (.string (strOfNums v.text));refine AX (by kernel_rfl) hI ?_;(try simp only[Exit.inBlock,Exit.then])
 (try go_wp2_with fail)
 go_end0
 exact⟨rfl,((((((((((Only.refl [g] w).drew)).setCell (p:=⟨g,1,none⟩) (.inl (by simp)) (.string (strOfNums a.text)))).setCell (p:=⟨g,9,none⟩) (.inl (by simp)) (.bool on))).setCell (p:=⟨g,2,none⟩) (.inl (by simp)) (.string (strOfNums u.text)))).setCell (p:=⟨g,3,none⟩) (.inl (by simp)) (.string (strOfNums v.text))),((((hg.drew).set_ 1 (.string (strOfNums a.text))).set_ 9 (.bool on)).set_ 2 (.string (strOfNums u.text))).set_ 3 (.string (strOfNums v.text))⟩
theorem aS (m:RQ) (g:Nat) (w0 w:World) (A:Option Addr) (a b1 c1 d1 e1 f1:FD) (r:List FD) (c:Nat) (hF:RdF w0 A (a::b1::c1::d1::e1::f1::r)) (hO:Only [] w0 w) (hlt:w0.heap.size≤g) (hg:Blk w g 120 m.cells) (h6:r.length+6≤c) (hcm:c≤maxLen):Calls Tryz.prog 71 #[.pointer (some ⟨g,0,none⟩),.slice A (r.length+6) c] w fun e w'=>e = .returned (.tuple #[])∧Only [g] w w'∧Blk w' g 120 (RQ.cells { m with text:=strOfNums a.text,cols:=b1.n,rows:=c1.n,width:=d1.n,height:=e1.n,mA:=f1.tA,mc:=f1.tc,modes:=f1.text }):=by
 have TX:=IH m g w0 w A a (b1::c1::d1::e1::f1::r) c hF hO hlt hg;obtain⟨b,off,rfl,hb,hc⟩:=hF.cells (by simp);have hF2:RdF w0 (some ⟨b,off+4,none⟩) (b1::c1::d1::e1::f1::r):=⟨fun _=>⟨b,off+4,rfl,hb,fun i f hi=>by
  have:=hc (i+1) f (by simpa using hi);rw[show off+(i+1)*4=off+4+i*4 by omega] at this;exact this⟩,fun f hf=>hF.ok f (List.mem_cons_of_mem _ hf)⟩
 obtain⟨_,_,t5,_⟩:=hc 5 f1 rfl;simp only[Nat.reduceMul] at t5;rw[show(b1::c1::d1::e1::f1::r).length+1=r.length+6 by simp] at TX;have i1:(1:Int)≤(r.length:Int)+6:=by omega
 have i2:(1:Int)<(c:Int):=by omega
 have i3:((r.length:Int)+6)≤(c:Int):=by omega
 have i5:(5:Int)<(r.length:Int)+6:=by omega
 clear hc;go_enter Tryz.func71,Tryz.ntmps71
 go_wp2_with fail
 go_call TX as e w1 ⟨rfl,P1,K1⟩
 clear TX;have O1:Only [] w0 w1:=hO.trans P1 (fun x hx=>.inr (by simp at hx;omega));have TS:=OA _ g w0 w1 _ b1 c1 d1 e1 (f1::r) (c-1) hF2 O1 hlt K1;rw[show(f1::r).length+4=r.length+5 by simp] at TS;go_wp2_with fail
 go_call TS as e w2 ⟨rfl,P2,K2⟩
 clear TS;have O2:Only [] w0 w2:=O1.trans P2 (fun x hx=>.inr (by simp at hx;omega));have t5:=AV O2 hb (by simp) t5;have c8:=K2.cell 8;have z8:=K2.frozen 8;have hb2:=K2.set_ 8 (.slice f1.tA f1.text.length f1.tc);have hO2:Only [g] w (w2.setCell ⟨g,8,none⟩ (.slice f1.tA f1.text.length f1.tc)):=((P1.trans P2 (fun x hx=>.inl hx)).setCell (p:=⟨g,8,none⟩) (.inl (by simp)) _);go_wp2
 go_end0
 exact⟨rfl,hO2,hb2⟩
def PutsPost (g:Nat) (w:World) (m:RQ):Ending→World→Prop:=fun e w'=>e = .returned (.tuple #[])∧Only [g] w w'∧Blk w' g 120 m.cells
theorem DQ {fs:List FD} {k:Nat} (h:fs.map (fun f=>f.pf.kind)=AC k):fs.length=(AC k).length:=by rw[←h,List.length_map]
theorem rput_any (k:Nat) (h1:1≤k) (h2:k≤10): ∃F:FuncId,rput k=F∧(∀(args:Array Value) (w:World),(callFunc F args).run Tryz.prog w = .ok (.enter F args) w)∧
  ∀(m:RQ) (g:Nat) (w0 w:World) (A:Option Addr) (fs:List FD) (n c:Nat),fs.length=n→fs.map (fun f=>f.pf.kind)=AC k→n≤c→c≤maxLen→RdF w0 A fs→Only [] w0 w→w0.heap.size≤g→Blk w g 120 m.cells→Calls Tryz.prog F #[.pointer (some ⟨g,0,none⟩),.slice A n c] w (PutsPost g w (DD m k fs)):=by
 rcases k10 h1 h2 with rfl|rfl|rfl|rfl|rfl|rfl|rfl|rfl|rfl|rfl
 ·refine⟨_,rfl,fun args w=>by kernel_rfl,fun m g w0 w A fs n c hn hk hc hcm hF hO hlt hg=>?_⟩;obtain⟨x1,x2,x3,x4,x5,x6,rfl,_⟩:=ks6 hk;subst hn;exact aS m g w0 w A x1 x2 x3 x4 x5 x6 [] c hF hO hlt hg hc hcm
 ·refine⟨_,rfl,fun args w=>by kernel_rfl,fun m g w0 w A fs n c hn hk hc hcm hF hO hlt hg=>?_⟩;obtain⟨x1,x2,rfl,_⟩:=ks2 hk;subst hn;exact aR m g w0 w A x1 x2 [] c hF hO hlt hg
 ·refine⟨_,rfl,fun args w=>by kernel_rfl,fun m g w0 w A fs n c hn hk hc hcm hF hO hlt hg=>?_⟩;obtain rfl:fs=[]:=List.eq_nil_of_length_eq_zero (DQ hk);subst hn;exact YE m g w _ hg
 ·refine⟨_,rfl,fun args w=>by kernel_rfl,fun m g w0 w A fs n c hn hk hc hcm hF hO hlt hg=>?_⟩;obtain⟨x1,rfl,_⟩:=ks1 hk;subst hn;exact IH m g w0 w A x1 [] c hF hO hlt hg
 ·refine⟨_,rfl,fun args w=>by kernel_rfl,fun m g w0 w A fs n c hn hk hc hcm hF hO hlt hg=>?_⟩;obtain⟨x1,rfl,_⟩:=ks1 hk;subst hn;exact IH m g w0 w A x1 [] c hF hO hlt hg
 ·refine⟨_,rfl,fun args w=>by kernel_rfl,fun m g w0 w A fs n c hn hk hc hcm hF hO hlt hg=>?_⟩;obtain⟨x1,x2,x3,x4,rfl,_⟩:=ks4 hk;subst hn;exact OA m g w0 w A x1 x2 x3 x4 [] c hF hO hlt hg
 ·refine⟨_,rfl,fun args w=>by kernel_rfl,fun m g w0 w A fs n c hn hk hc hcm hF hO hlt hg=>?_⟩;obtain⟨x1,rfl,_⟩:=ks1 hk;subst hn;exact cR m g w0 w A x1 [] c hF hO hlt hg
 ·refine⟨_,rfl,fun args w=>by kernel_rfl,fun m g w0 w A fs n c hn hk hc hcm hF hO hlt hg=>?_⟩;obtain⟨x1,rfl,_⟩:=ks1 hk;subst hn;exact IH m g w0 w A x1 [] c hF hO hlt hg
 ·refine⟨_,rfl,fun args w=>by kernel_rfl,fun m g w0 w A fs n c hn hk hc hcm hF hO hlt hg=>?_⟩;obtain⟨x1,rfl,_⟩:=ks1 hk;subst hn;exact YD m g w0 w A x1 [] c hF hO hlt hg
 ·refine⟨_,rfl,fun args w=>by kernel_rfl,fun m g w0 w A fs n c hn hk hc hcm hF hO hlt hg=>?_⟩;obtain⟨x1,x2,x3,x4,rfl,_⟩:=ks4 hk;subst hn;exact UV m g w0 w A x1 x2 x3 x4 [] c hF hO hlt hg
theorem bA {P:Program} {fn:Func} {p t:Tmp} {T:TypeId} {R:Ending→World→Prop} {a:Act} {w:World} {g:Nat} {d:TypeDesc} (cs:Array Value) (h:fn.results=#[.cell p T,.tmp t]) (hp:a.tmps.getD p undef = .pointer (some ⟨g,0,none⟩)) (hd:a.defers=[])
  (hg:w.heap[g]? = some (.cells cs T (0,0))) (hu:P.underlying T=some d) (hk:(match d with | .struct _ | .array _ _=>true|_=>false)=true) (hs:(P.info? T).map (·.size)=some cs.size)
  (hR:R (.returned (.tuple #[.agg cs,a.tmps.getD t undef])) w):bodyPost P fn R .ret a w:=by
 refine bodyPost_ret (v:=.tuple #[.agg cs,a.tmps.getD t undef]) ?_ hd hR;have hp':a.tmps[p]?.getD undef = .pointer (some ⟨g,0,none⟩):=by simpa using hp
 simp[results,h,hp',asAddr,run_loadVar_row (P:=P) w g T T cs (0,0) d hg hu hk hs]
def ruleV (k:Nat) (KA:Option Addr):Value:=.agg #[.string (AR k),.slice KA (AC k).length (AC k).length,rfn (rget k),rfn (rput k),rfn (rask k)]
theorem cW (q k:Nat) (h1:1≤k) (h2:k≤10) (w:World):(Instr.index 114 (.agg (PK q)) (.int .i64 (k:Int))).run Tryz.prog w = .ok (ruleV k (QA q k)) w:=by
 rcases k10 h1 h2 with rfl|rfl|rfl|rfl|rfl|rfl|rfl|rfl|rfl|rfl<;>kernel_rfl
end Go.Proofs.YtkgikodiecmakaaGreatDoor
