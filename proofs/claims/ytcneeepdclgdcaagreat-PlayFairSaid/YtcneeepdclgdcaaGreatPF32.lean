import Derived.Test.YtcneeepdclgdcaaGreatPF31
import Derived.Test.YtcneeepdclgdcaaGreatPF24
import Derived.Test.YtcneeepdclgdcaaGreatPF18
set_option maxRecDepth 100000
set_option maxHeartbeats 4000000
namespace Go.Proofs.YtcneeepdclgdcaaGreat
open Go.Ending renaming returned->WK
open Go.IntKind renaming i64->WL,u64->XB
open Go.Value renaming int->WM,tuple->WW,iface->YD
open _root_.List renaming mem_of_getElem?->WN,perm_iff_count->WO,append_nil->WQ,count_append->WR,flatten_cons->WS,getD_eq_getElem?_getD->WT,flatten_nil->WU,flatten_append->WV,length_append->WX,getElem?_eq_some_iff->WY,length_map->WZ,take_succ_eq_append_getElem->XA,getElem?_map->XC,length_cons->XD,cons_append->XE,getElem?_eq_getElem->XF,nil_append->XH,append_assoc->XI,length_set->XJ,mem_cons_of_mem->XO,append_toArray->XP,set_cons_zero->XQ,set_cons_succ->XR,getElem?_append_right->XT,size_toArray->XU,push_toArray->XV,mem_of_find?_eq_some->XW,take_length->XX,length_nil->XY,map_append->XZ,count_cons->YA,count_nil->YF,getElem?_eq_none->YG,length->YK,length_take->YL,mem_append->YM,mem_cons->YP,mem_map->YQ,map_set->YR,map_map->YU
open Go.Oper renaming semAt_some->XG
open Go renaming FuncId->XK,bodyPost_ret->XN,callFunc->YH,Program->YO
open _root_.Array renaming replicate_succ->XL,replicate_zero->XM
open _root_.Int renaming le_refl->YB
open _root_.Nat renaming le_refl->YC,zero_add->YI
open _root_.List.Perm renaming refl->YE
open _root_.And renaming intro->YJ
open _root_.Option.some renaming inj->YN
open Go.World renaming alloc->YV
set_option linter.all false
open Go.Proofs.Tryz
section
open Go.RowKit Go.Shelf
theorem St.keep {M A Y α:Type} {runM:M->α->St M A Y × α} {bP:A->α->α} {R:α->α->Prop} (hr:∀ z,R z z) (ht:∀ x y z,R x y->R y z->R x z) (hm:∀ m z,R z (runM m z).2) (ha:∀ a z,R z (bP a z)) :
 ∀ (s:St M A Y) (z:α),R z (St.run runM bP s z).2
 | .nil,z=>hr z
 | .at _ m,z=>hm m z
 | .ai a,z=>ha a z
 | .aP a _,z=>ha a z
 | .thn s m,z=>by
   have h1:=St.keep (Y:=Y) hr ht hm ha s z
   show R z (Qd runM (s.run runM bP z).1 m (s.run runM bP z).2).2
   unfold Qd;split
   ·exact ht _ _ _ h1 (hm m _)
   ·exact h1
structure kL (z z':ZT):Prop where
 cfg:z'.x.f.cfg=z.x.f.cfg
 busy:z'.x.f.busy=z.x.f.busy
 closed:z'.x.f.closed=z.x.f.closed
 len:z'.x.au.length=z.x.au.length
 room:z'.p.room=z.p.room
 shut:z'.p.shut=z.p.shut
 th:z'.k.th=z.k.th
theorem kL.refl (z:ZT):kL z z:=⟨rfl,rfl,rfl,rfl,rfl,rfl,rfl⟩
theorem kL.trans {x y z:ZT} (a:kL x y) (b:kL y z):kL x z :=
 ⟨b.cfg.trans a.cfg,b.busy.trans a.busy,b.closed.trans a.closed,b.len.trans a.len,b.room.trans a.room,b.shut.trans a.shut,b.th.trans a.th⟩
theorem TL (p:Qz) (f:Xm):(p.put f).1.room=p.room/\(p.put f).1.shut=p.shut:=by
 unfold Qz.put;split
 ·exact ⟨rfl,rfl⟩
 ·split <;> exact ⟨rfl,rfl⟩
theorem Gq (z:ZT) (s:Qs):kL z (z.cZ s):=⟨rfl,rfl,rfl,XJ,rfl,rfl,rfl⟩
theorem Rf (i:Nat) (z:ZT):kL z (Q7 i z).2:=by
 unfold Q7;split <;> exact ⟨rfl,rfl,rfl,rfl,rfl,rfl,rfl⟩
theorem Rk (d i:Nat) (z:ZT):kL z (Qm d i z).2:=by
 unfold Qm;split <;> exact ⟨rfl,rfl,rfl,rfl,rfl,rfl,rfl⟩
theorem qv3 (a:AT) (z:ZT):kL z (Q3 a z):=by
 cases a with
 | unlock=>exact Gq z _
 | put f=>exact ⟨rfl,rfl,rfl,rfl,(TL z.p f).1,(TL z.p f).2,rfl⟩
 | _=>exact ⟨rfl,rfl,rfl,rfl,rfl,rfl,rfl⟩
theorem qt8 (m:MT) (z:ZT):kL z (runT m z).2:=by
 have hr:kL z z:=kL.refl z;cases m with
 | enter=>exact ⟨rfl,rfl,rfl,rfl,rfl,rfl,rfl⟩
 | gate =>
   show kL z (if z.x.f.closed=true then Yr 3 z else (.at none .tick,z)).2
   split
   ·exact ⟨rfl,rfl,rfl,rfl,rfl,rfl,rfl⟩
   ·exact hr
 | tick=>exact kL.trans (y:=({ z with x:={ z.x with f:={ z.x.f with now:=z.x.f.now+1 } },k:={ z.k with now:=z.x.f.now+1 } }:ZT).note { bO with kind:=11,tick:=z.x.f.now+1 }) ⟨rfl,rfl,rfl,rfl,rfl,rfl,rfl⟩ (Rf 0 _)
 | ae i=>exact Rf _ z
 | dI d=>exact Gq z _
 | bX d =>
   dsimp only [runT]
   split
   ·exact hr
   ·exact hr
 | af d=>exact hr
 | aM d =>
   dsimp only [runT]
   split
   ·exact hr
   ·exact Rk d 0 z
 | ay=>exact hr
 | bK n =>
   dsimp only [runT]
   split
   ·exact kL.trans (Gq z _) ⟨rfl,rfl,rfl,rfl,rfl,rfl,rfl⟩
   ·exact kL.trans (Gq z _) ⟨rfl,rfl,rfl,rfl,rfl,rfl,rfl⟩
 | ax n=>exact hr
 | bz =>
   dsimp only [runT]
   split <;> exact ⟨rfl,rfl,rfl,rfl,rfl,rfl,rfl⟩
 | aH =>
   dsimp only [runT]
   split <;> exact ⟨rfl,rfl,rfl,rfl,rfl,rfl,rfl⟩
 | aD d i=>exact Rk d _ z
 | looks =>
   dsimp only [runT]
   split <;> exact ⟨rfl,rfl,rfl,rfl,rfl,rfl,rfl⟩
 | bE =>
   dsimp only [runT]
   split <;> exact ⟨rfl,rfl,rfl,rfl,rfl,rfl,rfl⟩
 | bB=>exact hr
 | behind =>
   dsimp only [runT]
   split
   ·exact ⟨rfl,rfl,rfl,rfl,rfl,rfl,rfl⟩
   ·split <;> exact ⟨rfl,rfl,rfl,rfl,rfl,rfl,rfl⟩
 | aV next =>
   dsimp only [runT]
   split <;> exact ⟨rfl,rfl,rfl,rfl,rfl,rfl,rfl⟩
 | aS =>
   dsimp only [runT]
   split
   ·split <;> exact ⟨rfl,rfl,rfl,rfl,rfl,rfl,rfl⟩
   ·exact ⟨rfl,rfl,rfl,rfl,rfl,rfl,rfl⟩
theorem U6 (s:ST) (z:ZT):kL z (Qw s z).2:=St.keep kL.refl (fun _ _ _=>kL.trans) qt8 qv3 s z
structure Am (z z':ZS):Prop where
 cfg:z'.x.f.cfg=z.x.f.cfg
 busy:z'.x.f.busy=z.x.f.busy
 now:z'.x.f.now=z.x.f.now
 au:z'.x.au=z.x.au
 p:{ z'.p with shut:=z.p.shut }=z.p
theorem Am.trans {x y z:ZS} (a:Am x y) (b:Am y z):Am x z :=
 ⟨b.cfg.trans a.cfg,b.busy.trans a.busy,b.now.trans a.now,b.au.trans a.au,by
   have h1:=a.p;have h2:=b.p
   rw [<- h1,<- h2]⟩
theorem Hr (s:SS) (z:ZS):Am z (stepS s z).2:=by
 refine St.keep (R:=Am) (runM:=Xu) (bP:=Ya) (fun z=>⟨rfl,rfl,rfl,rfl,rfl⟩) (fun _ _ _=>Am.trans) (fun m z=>?_) (fun a z=>?_) s z
 ·cases m with
  | shuts=>dsimp only [Xu];split <;> exact ⟨rfl,rfl,rfl,rfl,rfl⟩
  | bQ=>exact ⟨rfl,rfl,rfl,rfl,rfl⟩
  | az i=>exact ⟨rfl,rfl,rfl,rfl,rfl⟩
  | waits=>exact ⟨rfl,rfl,rfl,rfl,rfl⟩
  | bJ i=>dsimp only [Xu];split <;> exact ⟨rfl,rfl,rfl,rfl,rfl⟩
  | aB i=>dsimp only [Xu];split <;> exact ⟨rfl,rfl,rfl,rfl,rfl⟩
  | cK=>exact ⟨rfl,rfl,rfl,rfl,rfl⟩
 ·cases a <;> exact ⟨rfl,rfl,rfl,rfl,rfl⟩
inductive Wk where
 | call (s:SC) (k:Qt)
 | turn (s:ST) (k:Xd)
 | dL (s:SS) (k:Yv)
def Wk.done:Wk->Bool
 | .call s _=>s.isNil
 | .turn s _=>s.isNil
 | .dL s _=>s.isNil
def Wk.may:Wk->ZF->Bool
 | .call s _,_=>!s.isNil
 | .turn s k,z=>mO s ⟨k,z.x,z.ws,z.p⟩
 | .dL s k,z=>uG s ⟨k,z.x,z.p⟩
def Wk.step:Wk->ZF->Wk × ZF
 | .call s k,z=>(.call (J5 s (k,z.x)).1 (J5 s (k,z.x)).2.1,{ z with x:=(J5 s (k,z.x)).2.2 })
 | .turn s k,z=>(.turn (Qw s ⟨k,z.x,z.ws,z.p⟩).1 (Qw s ⟨k,z.x,z.ws,z.p⟩).2.k,{ z with x:=(Qw s ⟨k,z.x,z.ws,z.p⟩).2.x,ws:=(Qw s ⟨k,z.x,z.ws,z.p⟩).2.ws,p:=(Qw s ⟨k,z.x,z.ws,z.p⟩).2.p })
 | .dL s k,z=>(.dL (stepS s ⟨k,z.x,z.p⟩).1 (stepS s ⟨k,z.x,z.p⟩).2.k,{ z with x:=(stepS s ⟨k,z.x,z.p⟩).2.x,p:=(stepS s ⟨k,z.x,z.p⟩).2.p })
structure mh (N:Nat) (z:ZF):Prop where
 zn:ZN N z
 ws:K9 z.ws
 iG:z.x.au.length<=4
 room:z.p.room<=1000
theorem mh.mono {N M:Nat} {z:ZF} (h:mh N z) (hm:N<=M):mh M z:=⟨h.zn.mono hm,h.ws,h.iG,h.room⟩
structure Ii (N:Nat) (s:SS) (k:Yv):Prop where
 aA:0<=k.aA/\k.aA<18446744073709551616/\okW k.aA=true
 left:k.left.length<=N
 fit:xY s k
structure za0 (N:Nat) (s:SC) (k:Qt) (x:Qi):Prop where
 wk:Zm N k x
 fit:uL s k
 gen:iU k
structure IY (N:Nat) (s:ST) (k:Xd) (x:Qi):Prop where
 wk:Ap N k x
 fit:rM s k x
 th:k.th<=1000000
def oV (N:Nat):Wk->Qi->Prop
 | .call s k,x=>za0 N s k x
 | .turn s k,x=>IY N s k x
 | .dL s k,_=>Ii N s k
theorem oV.mono {N M:Nat} {w:Wk} {x:Qi} (h:oV N w x) (hm:N<=M):oV M w x:=by
 cases w with
 | call s k=>exact ⟨Zm.mono h.wk hm,h.fit,h.gen⟩
 | turn s k=>exact ⟨Ap.mono h.wk hm,h.fit,h.th⟩
 | dL s k=>exact ⟨h.aA,by have:=h.left;omega,h.fit⟩
structure Gf (x x':Qi):Prop where
 recs:x'.aa.recs.length=x.aa.recs.length
 len:x'.au.length=x.au.length
def xk (x x':Qi):Prop:=∀ j,(x'.au.getD j (Qp 1)).who=(x.au.getD j (Qp 1)).who
theorem qtk {x x':Qi} (hw:xk x x') (s:ST) (k:Xd) (i:Nat):ky s k x' i=ky s k x i:=by
 have ho:Own k x'=Own k x:=by unfold Own;rw [hw]
 unfold ky;rw [ho]
theorem qtj {x x':Qi} {s:ST} {k:Xd} (h:rM s k x) (hth:k.th<=1000000) (hl:x'.au.length=x.au.length) (hw:xk x x'):rM s k x':=by
 match s,h with
 | .nil,_=>trivial
 | .at none .enter,h=>exact .inr hth
 | .at none .gate,h=>exact .inr hth
 | .at none .tick,h=>exact h
 | .aP .leave1 .answer,_=>trivial
 | .ai .answer,_=>trivial
 | .thn X (.ae i),h =>
   obtain ⟨a,b,c,d⟩:=h;exact ⟨a,by rw [hl];exact b,c,by rw [qtk hw];exact d⟩
def Wk.isTurn:Wk->Bool
 | .turn _ _=>true
 | _=>false
theorem oV.frame {N:Nat} {w:Wk} {x x':Qi} (h:oV N w x) (hk:Gf x x') (hw:w.isTurn=true->xk x x'\/w.done=true):oV N w x':=by
 cases w with
 | call s k =>
   have hwk:=h.wk;exact ⟨⟨hwk.c0,hwk.c1,hwk.id,hwk.slot,hwk.aA,fun q hq=>by rw [hk.recs];exact hwk.rq q hq,fun i t ht=>by rw [hk.len];exact hwk.tk i t ht⟩,h.fit,h.gen⟩
 | turn s k =>
   have hwk:=h.wk;refine ⟨⟨hwk.th,hwk.aA,hwk.t,hwk.dl,hwk.due,fun i hi=>by rw [hk.len];exact hwk.sh i hi⟩,?_,h.th⟩
   rcases hw rfl with hw | hd
   ·exact qtj h.fit h.th hk.len hw
   ·have:s.isNil=true:=hd
    cases s with
    | nil=>trivial
    | _=>cases this
 | dL s k=>exact h
theorem LX {N:Nat} {w:Wk} {z:ZF} (hg:mh N z) (hj:oV N w z.x) (hm:w.may z=true) (hN:N<999999) :
 mh (N+1) (w.step z).2/\oV (N+1) (w.step z).1 (w.step z).2.x/\Gf z.x (w.step z).2.x/\(w.isTurn=false->xk z.x (w.step z).2.x)/\(w.step z).2.lg=z.lg:=by
 cases w with
 | call s k =>
   have hjc:JC N s (k,z.x):=⟨hg.zn.core,hj.wk,hj.fit⟩;obtain ⟨h1,h2,h3⟩:=hjc.step;obtain ⟨h4,h5⟩:=Tt hjc hj.gen;exact ⟨⟨⟨h1,h4.rest (hg.zn.rest.mono (by omega)),by have:=hg.zn.lg;show z.lg.length<=_;omega⟩,hg.ws,by show (J5 s (k,z.x)).2.2.au.length<=4;rw [h4.len];exact hg.iG,hg.room⟩,⟨h2,h3,h5⟩,⟨h4.recs,h4.len⟩,fun _=>h4.who,rfl⟩
 | turn s k =>
   have hjt:JT N s ⟨k,z.x,z.ws,z.p⟩:=⟨⟨hg.zn.core,hg.zn.rest,hj.wk,hg.ws,hg.iG⟩,hj.fit⟩;obtain ⟨h1,h2⟩:=hjt.step hN hm;have h4:=U6 s ⟨k,z.x,z.ws,z.p⟩;refine ⟨⟨⟨h1.core,h1.rest,by have:=hg.zn.lg;show z.lg.length<=_;omega⟩,h1.ws,h1.iG,by show (Qw s ⟨k,z.x,z.ws,z.p⟩).2.p.room<=1000;rw [h4.room];exact hg.room⟩,⟨h1.k,h2,by show (Qw s ⟨k,z.x,z.ws,z.p⟩).2.k.th<=_;rw [h4.th];exact hj.th⟩,⟨?_,h4.len⟩,(fun h=>by cases h),rfl⟩
   have a:=h1.rest.cap;have b:=hg.zn.rest.cap;rw [h4.cfg] at a
   show (Qw s ⟨k,z.x,z.ws,z.p⟩).2.x.aa.recs.length=_
   have:(z.x.f.cfg.cap:Int)=(Qw s ⟨k,z.x,z.ws,z.p⟩).2.x.aa.recs.length:=a;omega
 | dL s k =>
   have hjs:JS N s ⟨k,z.x,z.p⟩:=⟨⟨hg.zn.core,hg.zn.rest.cap,hg.zn.rest.busy,hj.aA,hj.left⟩,hj.fit⟩;obtain ⟨h1,h2⟩:=hjs.step;have h4:=Hr s ⟨k,z.x,z.p⟩;have hr:=hg.zn.rest
   have hp:(stepS s ⟨k,z.x,z.p⟩).2.p.ch=z.p.ch/\(stepS s ⟨k,z.x,z.p⟩).2.p.sp=z.p.sp/\(stepS s ⟨k,z.x,z.p⟩).2.p.room=z.p.room:=by
    have e1:=congrArg Qz.ch h4.p;have e2:=congrArg Qz.sp h4.p;have e3:=congrArg Qz.room h4.p;exact ⟨e1,e2,e3⟩
   have hsh:(stepS s ⟨k,z.x,z.p⟩).2.x.au=z.x.au:=h4.au;have wQ:(stepS s ⟨k,z.x,z.p⟩).2.x.f.now=z.x.f.now:=h4.now;have hcap:(stepS s ⟨k,z.x,z.p⟩).2.x.f.cfg=z.x.f.cfg:=h4.cfg;refine ⟨⟨⟨h1.core,⟨?_,h1.busy,h1.cap,?_,fun w hw=>(hr.kE w hw).mono (by omega),?_,?_,?_,?_⟩,by have:=hg.zn.lg;show z.lg.length<=_;omega⟩,hg.ws,?_,?_⟩,⟨h1.aA,h1.left,h2⟩,⟨?_,?_⟩,fun _=>?_,rfl⟩
   ·show 0<=(stepS s ⟨k,z.x,z.p⟩).2.x.f.now/\(stepS s ⟨k,z.x,z.p⟩).2.x.f.now<=_
    have:=hr.now;rw [wQ];omega
   ·show z.ws.length=(stepS s ⟨k,z.x,z.p⟩).2.x.au.length
    rw [hsh];exact hr.wl
   ·show ∀ a∈(stepS s ⟨k,z.x,z.p⟩).2.x.au,_
    rw [hsh];exact hr.task
   ·show ∀ a∈(stepS s ⟨k,z.x,z.p⟩).2.x.au,_
    rw [hsh];intro a ha;have:=hr.turns a ha;omega
   ·show (stepS s ⟨k,z.x,z.p⟩).2.p.ch.length<=(stepS s ⟨k,z.x,z.p⟩).2.p.room
    rw [hp.1,hp.2.2];exact hr.ch
   ·show (stepS s ⟨k,z.x,z.p⟩).2.p.sp.length<=_
    have:=hr.sp;rw [hp.2.1];omega
   ·show (stepS s ⟨k,z.x,z.p⟩).2.x.au.length<=4
    rw [hsh];exact hg.iG
   ·show (stepS s ⟨k,z.x,z.p⟩).2.p.room<=1000
    rw [hp.2.2];exact hg.room
   ·have a:=h1.cap
    have b:=hr.cap
    show (stepS s ⟨k,z.x,z.p⟩).2.x.aa.recs.length=_
    have a':(stepS s ⟨k,z.x,z.p⟩).2.x.f.cfg.cap=(stepS s ⟨k,z.x,z.p⟩).2.x.aa.recs.length:=a;rw [hcap] at a';omega
   ·show (stepS s ⟨k,z.x,z.p⟩).2.x.au.length=_
    rw [hsh]
   ·intro j
    show ((stepS s ⟨k,z.x,z.p⟩).2.x.au.getD j _).who=_
    rw [hsh]
def oL (L:Lay) (kb:Nat) (n:Int) (w:Wk) (g:List ak):Prop:=match w with
 | .call s k=>zm L kb s n k g
 | .turn s k=>isTurn L kb s n k g
 | .dL s k=>oK L kb s n k g
def Wk.ty:Wk->TypeId
 | .call _ _=>33
 | .turn _ _=>88
 | .dL _ _=>94
def Wk.fI:Wk->XK
 | .call _ _=>16
 | .turn _ _=>44
 | .dL _ _=>48
def Wk.jJ:Wk->XK
 | .call _ _=>362
 | .turn _ _=>365
 | .dL _ _=>366
def Wk.jI:Wk->XK
 | .call _ _=>89
 | .turn _ _=>93
 | .dL _ _=>112
def Wk.ib:Wk->XK
 | .call _ _=>21
 | .turn _ _=>151
 | .dL _ _=>49
theorem J7 {P:YO} {f:XK} {args:Array Value} {g gA gB gZ:List ak} {R:Ending->List ak->List ak->Prop} (hd:Qa P f args [g,gA] fun e gs=>∃ g' fw,R e g' fw/\gs=[g',fw]) (hp:gZ.Perm (gA++gB)) :
 Qa P f args [g,gZ] fun e gs=>∃ g' fw,R e g' fw/\gs=[g',fw++gB]:=by
 intro w hw
 have h2:Yc ([g,gA]++[gB]) w:=hw.re (by
  classical
  refine WO.2 fun b=>?_
  have:=(WO.1 hp) b;simp only [WV,WS,WU,WQ,WR] at this |-
  omega)
 refine (hd w h2.left).mono ?_
 rintro e w' ⟨gs,⟨g',fw,hR,rfl⟩,T⟩;refine ⟨_,⟨g',fw,hR,rfl⟩,((T.frame h2).re (H':=[g',fw++gB]) ?_).dG ?_⟩
 ·classical
  refine WO.2 fun b=>?_
  simp only [WV,WS,WU,WQ,WR];omega
 ·classical
  refine WO.2 fun b=>?_
  have:=(WO.1 hp) b;simp only [WV,WS,WU,WQ,WR] at this |-;omega
theorem Z1 {L:Lay} {z:ZF} {g:List ak} (h:fu L z g):∃ gC gW gP gL,Qf L z.x gC/\Js L z.ws gW/\Z3 L.p.pb z.p gP/\vQ L.p.lb z.lg gL/\g=(gC++(gW++gP))++gL:=by
 obtain ⟨gT,gL,⟨gC,gW,gP,h1,h2,h3,rfl⟩,h4,rfl⟩:=h;exact ⟨gC,gW,gP,gL,h1,h2,h3,h4,rfl⟩
theorem qD {L:Lay} {z:ZF} {gC gW gP gL:List ak} (h1:Qf L z.x gC) (h2:Js L z.ws gW) (h3:Z3 L.p.pb z.p gP) (h4:vQ L.p.lb z.lg gL):fu L z ((gC++(gW++gP))++gL):=⟨_,gL,⟨gC,gW,gP,h1,h2,h3,rfl⟩,h4,rfl⟩
section
variable {L:Lay} {z:ZF} {w:Wk} {kb:Nat} {n:Int} {g gZ:List ak} {N:Nat}
theorem q56 (hj:oL L kb n w g):Qe prog w.jI #[Qb kb] [g] (.bool w.done):=by
 cases w with
 | call s k=>exact Mq hj
 | turn s k=>exact M0 hj
 | dL s k=>exact MN hj
theorem permA (a b c:List ak):(a++b++c).Perm (a++(b++c)):=by rw [XI]
theorem KM (a b c d:List ak):((a++(b++c))++d).Perm ((a++c)++(b++d)):=by
 classical
 refine WO.2 fun x=>?_
 simp only [WR];omega
theorem KL (x a b c d:List ak):([x,(a++c)++(b++d)]:GH).flatten.Perm ([x,(a++(b++c))++d]:GH).flatten:=by
 classical
 refine WO.2 fun x=>?_
 simp only [WS,WU,WQ,WR];omega
theorem q83 (hj:oL L kb n w g) (hz:fu L z gZ) (hg:mh N z) (hw:oV N w z.x) (hN:N<999999) :
 Qa prog w.jJ #[Qb kb] [g,gZ] fun e gs=>∃ g' cu,e=WK (.bool (w.may z))/\oL L kb n w g'/\fu L z cu/\gs=[g',cu]:=by
 cases w with
 | call s k =>
   obtain ⟨gC,gW,gP,gL,h1,h2,h3,h4,rfl⟩:=Z1 hz;refine (J7 (gB:=(gW++gP)++gL) (R:=fun e g' fw=>e=WK (.bool (!s.isNil))/\zm L kb s n k g'/\Qf L z.x fw) ((q5h hj h1).mono ?_) (permA _ _ _)).mono ?_
   ·rintro e gs ⟨rfl,g',aI,a,b,rfl⟩
    exact ⟨g',aI,⟨rfl,a,b⟩,rfl⟩
   ·rintro e gs ⟨g',fw,⟨rfl,a,b⟩,rfl⟩
    exact ⟨g',_,rfl,a,by rw [<- XI];exact qD b h2 h3 h4,rfl⟩
 | turn s k =>
   obtain ⟨gT,gL,h1,h2,rfl⟩:=hz;have hjt:JT N s ⟨k,z.x,z.ws,z.p⟩:=⟨⟨hg.zn.core,hg.zn.rest,hw.wk,hg.ws,hg.iG⟩,hw.fit⟩;refine (J7 (gB:=gL) (R:=fun e g' fw=>e=WK (.bool (mO s ⟨k,z.x,z.ws,z.p⟩))/\isTurn L kb s n k g'/\qP L z.x z.ws z.p fw) ((q7q hj h1 (hjt.dw (by omega))).mono ?_) (YE _)).mono ?_
   ·rintro e gs ⟨rfl,g',aI,a,b,rfl⟩
    exact ⟨g',aI,⟨rfl,a,b⟩,rfl⟩
   ·rintro e gs ⟨g',fw,⟨rfl,a,b⟩,rfl⟩
    exact ⟨g',_,rfl,a,⟨_,gL,b,h2,rfl⟩,rfl⟩
 | dL s k =>
   obtain ⟨gC,gW,gP,gL,h1,h2,h3,h4,rfl⟩:=Z1 hz;have hjs:JS N s ⟨k,z.x,z.p⟩:=⟨⟨hg.zn.core,hg.zn.rest.cap,hg.zn.rest.busy,hw.aA,hw.left⟩,hw.fit⟩;refine (J7 (gB:=gW++gL) (R:=fun e g' fw=>e=WK (.bool (uG s ⟨k,z.x,z.p⟩))/\oK L kb s n k g'/\rT L z.x z.p fw) ((q8t hj ⟨gC,gP,h1,h3,rfl⟩ (hjs.b.ok (by omega))).mono ?_) (KM _ _ _ _)).post ?_
   ·rintro e gs ⟨rfl,g',aI,a,b,rfl⟩
    exact ⟨g',aI,⟨rfl,a,b⟩,rfl⟩
   ·rintro e gs ⟨g',fw,⟨rfl,a,⟨iZ,AX,b1,b2,rfl⟩⟩,rfl⟩
    exact ⟨_,⟨g',_,rfl,a,qD b1 h2 b2 h4,rfl⟩,KL _ _ _ _ _⟩
theorem q57 (hj:oL L kb n w g) (hz:fu L z gZ) (hg:mh N z) (hw:oV N w z.x) (hN:N<999999) (hm:w.may z=true) (hn:0<=n/\n<=1000000000) :
 Qa prog w.fI #[Qb kb] [g,gZ] fun e gs=>∃ g' cu,e=WK (.bool true)/\oL L kb (n+1) (w.step z).1 g'/\fu L (w.step z).2 cu/\gs=[g',cu]:=by
 cases w with
 | call s k =>
   obtain ⟨gC,gW,gP,gL,h1,h2,h3,h4,rfl⟩:=Z1 hz;have hjc:JC N s (k,z.x):=⟨hg.zn.core,hw.wk,hw.fit⟩
   have hs:s.isNil=false:=by
    have:(!s.isNil)=true:=hm;cases h:s.isNil
    ·rfl
    ·rw [h] at this;cases this
   refine (J7 (gB:=(gW++gP)++gL) (R:=fun e g' fw=>e=WK (.bool true)/\zm L kb (J5 s (k,z.x)).1 (n+1) (J5 s (k,z.x)).2.1 g'/\Qf L (J5 s (k,z.x)).2.2 fw) ((q02 hj h1 (hjc.pre (by omega)) hs hn).mono ?_) (permA _ _ _)).mono ?_
   ·rintro e gs ⟨g',aI,rfl,a,b,rfl⟩
    exact ⟨g',aI,⟨rfl,a,b⟩,rfl⟩
   ·rintro e gs ⟨g',fw,⟨rfl,a,b⟩,rfl⟩
    exact ⟨g',_,rfl,a,by rw [<- XI];exact qD (z:={ z with x:=(J5 s (k,z.x)).2.2 }) b h2 h3 h4,rfl⟩
 | turn s k =>
   obtain ⟨gT,gL,h1,h2,rfl⟩:=hz;have hjt:JT N s ⟨k,z.x,z.ws,z.p⟩:=⟨⟨hg.zn.core,hg.zn.rest,hw.wk,hg.ws,hg.iG⟩,hw.fit⟩;refine (J7 (gB:=gL) (R:=fun e g' fw=>e=WK (.bool true)/\isTurn L kb (Qw s ⟨k,z.x,z.ws,z.p⟩).1 (n+1) (Qw s ⟨k,z.x,z.ws,z.p⟩).2.k g'/\qP L (Qw s ⟨k,z.x,z.ws,z.p⟩).2.x (Qw s ⟨k,z.x,z.ws,z.p⟩).2.ws (Qw s ⟨k,z.x,z.ws,z.p⟩).2.p fw) ((q3n hj h1 (hjt.dw (by omega)) hm (hjt.pre (by omega) hm) hn).mono ?_) (YE _)).mono ?_
   ·rintro e gs ⟨g',aI,rfl,a,b,rfl⟩
    exact ⟨g',aI,⟨rfl,a,b⟩,rfl⟩
   ·rintro e gs ⟨g',fw,⟨rfl,a,b⟩,rfl⟩
    exact ⟨g',_,rfl,a,⟨_,gL,b,h2,rfl⟩,rfl⟩
 | dL s k =>
   obtain ⟨gC,gW,gP,gL,h1,h2,h3,h4,rfl⟩:=Z1 hz;have hjs:JS N s ⟨k,z.x,z.p⟩:=⟨⟨hg.zn.core,hg.zn.rest.cap,hg.zn.rest.busy,hw.aA,hw.left⟩,hw.fit⟩;refine (J7 (gB:=gW++gL) (R:=fun e g' fw=>e=WK (.bool true)/\oK L kb (stepS s ⟨k,z.x,z.p⟩).1 (n+1) (stepS s ⟨k,z.x,z.p⟩).2.k g'/\rT L (stepS s ⟨k,z.x,z.p⟩).2.x (stepS s ⟨k,z.x,z.p⟩).2.p fw) ((q5r hj ⟨gC,gP,h1,h3,rfl⟩ (hjs.b.ok (by omega)) hm (hjs.pre (by omega)) hn).mono ?_) (KM _ _ _ _)).post ?_
   ·rintro e gs ⟨g',aI,rfl,a,b,rfl⟩
    exact ⟨g',aI,⟨rfl,a,b⟩,rfl⟩
   ·rintro e gs ⟨g',fw,⟨rfl,a,⟨iZ,AX,b1,b2,rfl⟩⟩,rfl⟩
    exact ⟨_,⟨g',_,rfl,a,qD (z:={ z with x:=(stepS s ⟨k,z.x,z.p⟩).2.x,p:=(stepS s ⟨k,z.x,z.p⟩).2.p }) b1 h2 b2 h4,rfl⟩,KL _ _ _ _ _⟩
theorem zbo (hj:oL L kb n w g) (hz:fu L z gZ) (hg:mh N z) (hw:oV N w z.x) (hN:N<999999) (hm:w.may z=false) :
 Qa prog w.fI #[Qb kb] [g,gZ] fun e gs=>∃ g' cu,e=WK (.bool false)/\oL L kb n w g'/\fu L z cu/\gs=[g',cu]:=by
 cases w with
 | call s k =>
   obtain ⟨gC,gW,gP,gL,h1,h2,h3,h4,rfl⟩:=Z1 hz
   obtain rfl:s=.nil:=by
    have:(!s.isNil)=false:=hm;cases s with
    | nil=>rfl
    | _=>cases this
   refine (J7 (gB:=(gW++gP)++gL) (R:=fun e g' fw=>e=WK (.bool false)/\zm L kb .nil n k g'/\Qf L z.x fw) ((qmh hj h1).mono ?_) (permA _ _ _)).mono ?_
   ·rintro e gs ⟨rfl,g',aI,a,b,rfl⟩
    exact ⟨g',aI,⟨rfl,a,b⟩,rfl⟩
   ·rintro e gs ⟨g',fw,⟨rfl,a,b⟩,rfl⟩
    exact ⟨g',_,rfl,a,by rw [<- XI];exact qD b h2 h3 h4,rfl⟩
 | turn s k =>
   obtain ⟨gT,gL,h1,h2,rfl⟩:=hz;have hjt:JT N s ⟨k,z.x,z.ws,z.p⟩:=⟨⟨hg.zn.core,hg.zn.rest,hw.wk,hg.ws,hg.iG⟩,hw.fit⟩;refine (J7 (gB:=gL) (R:=fun e g' fw=>e=WK (.bool false)/\isTurn L kb s n k g'/\qP L z.x z.ws z.p fw) ((zaq hj h1 (hjt.dw (by omega)) hm).mono ?_) (YE _)).mono ?_
   ·rintro e gs ⟨rfl,g',aI,a,b,rfl⟩
    exact ⟨g',aI,⟨rfl,a,b⟩,rfl⟩
   ·rintro e gs ⟨g',fw,⟨rfl,a,b⟩,rfl⟩
    exact ⟨g',_,rfl,a,⟨_,gL,b,h2,rfl⟩,rfl⟩
 | dL s k =>
   obtain ⟨gC,gW,gP,gL,h1,h2,h3,h4,rfl⟩:=Z1 hz;have hjs:JS N s ⟨k,z.x,z.p⟩:=⟨⟨hg.zn.core,hg.zn.rest.cap,hg.zn.rest.busy,hw.aA,hw.left⟩,hw.fit⟩;refine (J7 (gB:=gW++gL) (R:=fun e g' fw=>e=WK (.bool false)/\oK L kb s n k g'/\rT L z.x z.p fw) ((zbd hj ⟨gC,gP,h1,h3,rfl⟩ (hjs.b.ok (by omega)) hm).mono ?_) (KM _ _ _ _)).post ?_
   ·rintro e gs ⟨rfl,g',aI,a,b,rfl⟩
    exact ⟨g',aI,⟨rfl,a,b⟩,rfl⟩
   ·rintro e gs ⟨g',fw,⟨rfl,a,⟨iZ,AX,b1,b2,rfl⟩⟩,rfl⟩
    exact ⟨_,⟨g',_,rfl,a,qD b1 h2 b2 h4,rfl⟩,KL _ _ _ _ _⟩
end
structure uK where
 err:Int
 ok:Bool
 id:Int
 gen:Int
 left:List Int
 code:Int
def uK.cells (a:uK) (v:Value):Array Value:=#[WM WL a.err,.bool a.ok,WM XB a.id,WM XB a.gen,v]
def Wk.ans:Wk->uK
 | .call s k=>if s.isNil then ⟨k.err,k.ok,k.qX,k.jq,[],0⟩ else ⟨0,false,0,0,[],10⟩
 | .turn s k=>if s.isNil then ⟨k.err,k.ok,0,0,[],0⟩ else ⟨0,false,0,0,[],10⟩
 | .dL s k=>if s.isNil then ⟨k.err,k.ok,0,0,k.told,0⟩ else ⟨0,false,0,0,[],10⟩
section
variable {L:Lay} {z:ZF} {w:Wk} {kb:Nat} {n:Int} {g gZ:List ak} {N:Nat}
theorem E8 {f:XK} {a:Array Value} {c:Int} (hd:Qa prog f #[Qb kb] [g] fun e gs=>e=WK (WW #[.agg a,WM WL c])/\gs=[g]) (A:uK) (h1:A.cells (.slice none 0 0)=a) (h2:A.left=[]) (h3:A.code=c) :
 Qa prog f #[Qb kb] [g] fun e gs=>∃ v gv,e=WK (WW #[.agg (A.cells v),WM WL A.code])/\Q1 36 1 v A.left.length (kv A.left) gv/\gs=[g,gv]:=by
 subst h1 h3;refine hd.post ?_
 rintro e gs ⟨rfl,rfl⟩;exact ⟨[g,[]],⟨.slice none 0 0,[],rfl,by rw [h2];exact X5 _ _,rfl⟩,by simp⟩
theorem qxe (hj:oL L kb n w g) (hw:oV N w z.x) (hN:N<999999):Qa prog w.ib #[Qb kb] [g] fun e gs =>
 ∃ v gv,e=WK (WW #[.agg (w.ans.cells v),WM WL w.ans.code])/\Q1 36 1 v w.ans.left.length (kv w.ans.left) gv/\gs=[g,gv]:=by
 cases w with
 | call s k =>
   cases hs:s.isNil with
   | true =>
     rw [show (Wk.call s k).ans=⟨k.err,k.ok,k.qX,k.jq,[],0⟩ from if_pos hs];exact E8 (qs4 hj hs) _ rfl rfl rfl
   | false =>
     rw [show (Wk.call s k).ans=⟨0,false,0,0,[],10⟩ from if_neg (by rw [hs];decide)];exact E8 (q0y hj hs) _ rfl rfl rfl
 | turn s k =>
   cases hs:s.isNil with
   | true =>
     rw [show (Wk.turn s k).ans=⟨k.err,k.ok,0,0,[],0⟩ from if_pos hs];exact E8 (qvg hj hs) _ rfl rfl rfl
   | false =>
     rw [show (Wk.turn s k).ans=⟨0,false,0,0,[],10⟩ from if_neg (by rw [hs];decide)];exact E8 (q3l hj hs) _ rfl rfl rfl
 | dL s k =>
   cases hs:s.isNil with
   | true =>
     have hl:k.left.length<=N:=hw.left;rw [show (Wk.dL s k).ans=⟨k.err,k.ok,0,0,k.told,0⟩ from if_pos hs];exact qwq hj hs (by omega)
   | false =>
     rw [show (Wk.dL s k).ans=⟨0,false,0,0,[],10⟩ from if_neg (by rw [hs];decide)];exact E8 (q5n hj hs) _ rfl rfl rfl
structure mP (N:Nat) (c:dz):Prop where
 fit:(c.s=Jy/\c.k.holds=[])\/(c.s=.thn (.ai .jy) .takes/\c.k.holds.length=1)
 worked:0<=c.k.worked/\c.k.worked<=N
 n:0<=c.n/\c.n<=N
theorem mP.mono {N M:Nat} {c:dz} (h:mP N c) (hm:N<=M):mP M c:=⟨h.fit,by have:=h.worked;omega,by have:=h.n;omega⟩
theorem mP.new {c:dz} (h:BU c):mP 0 c:=by
 obtain ⟨a,b,d⟩:=h;exact ⟨.inl ⟨a,by rw [d];rfl⟩,by rw [d];exact ⟨YB _,YB _⟩,by rw [b];exact ⟨YB _,YB _⟩⟩
def dz.zw (c:dz) (z:ZF):ZW:=⟨c.k,z.x,z.p,z.lg⟩
def dz.may (c:dz) (z:ZF):Bool:=BZ c.s (c.zw z)
def dz.step (c:dz) (z:ZF):dz × ZF :=
 (⟨c.wb,(vN c.s (c.zw z)).1,c.n+1,(vN c.s (c.zw z)).2.k⟩,⟨(vN c.s (c.zw z)).2.x,z.ws,(vN c.s (c.zw z)).2.p,(vN c.s (c.zw z)).2.lg⟩)
theorem mP.ok {c:dz} (h:mP N c) (hg:mh N z) (hN:N<999999):Aq (c.zw z):=by
 have hr:=hg.zn.rest;have hl:=hg.zn.lg;have hw:=h.worked
 have hh:c.k.holds.length<=1:=by
  rcases h.fit with ⟨_,h⟩ | ⟨_,h⟩
  ·rw [h];exact Nat.zero_le _
  ·omega
 exact ⟨by have:=hr.busy;show 0<=z.x.f.busy/\z.x.f.busy<=_;omega,⟨hr.ch,by have:=hr.sp;show z.p.sp.length<=_;omega⟩,by have:=hg.room;show z.p.room<=_;omega,by show c.k.holds.length<=_;omega,by show z.lg.length<=_;omega,by show 0<=c.k.worked/\c.k.worked<=_;omega⟩
theorem mP.dw {c:dz} (h:mP N c) (hg:mh N z) (hN:N<999999):H5 c.s (c.zw z):=by
 have ho:=h.ok hg hN;rcases h.fit with ⟨h1,_⟩ | ⟨h1,_⟩
 ·rw [h1];exact ho
 ·rw [h1];trivial
theorem Vp {p:Qz} (h:p.ch.length<=p.room):p.take.1.ch.length<=p.take.1.room/\p.take.1.room=p.room/\p.take.1.sp.length<=p.sp.length/\p.take.1.shut=p.shut:=by
 unfold Qz.take;split
 ·next h1=>exact ⟨h,rfl,YC _,rfl⟩
 ·next f l h1 h2 =>
  rw [h1] at h;simp only [XD] at h;refine ⟨?_,rfl,by rw [h2];simp,rfl⟩
  show l.length<=p.room
  omega
 ·next f l x sp h1 h2 =>
  rw [h1] at h;simp only [XD] at h;refine ⟨?_,rfl,by rw [h2];simp,rfl⟩
  show (l++[x]).length<=p.room
  rw [WX];simpa using h
theorem RH {c:dz} (h:mP N c) (hg:mh N z) (hN:N<999998) :
 QQ c.s (c.zw z)/\mP (N+1) (c.step z).1/\mh (N+1) (c.step z).2/\Gf z.x (c.step z).2.x/\xk z.x (c.step z).2.x:=by
 have ho:=h.ok hg (by omega);have hr:=hg.zn.rest;have hl:=hg.zn.lg;obtain ⟨wb,s,n,k⟩:=c;have hw:=h.worked;have hn:=h.n;simp only at hw hn;rcases h.fit with ⟨h1,h2⟩ | ⟨h1,h2⟩
 ·obtain rfl:s=Jy:=h1
  have h2:k.holds=[]:=h2;obtain ⟨t1,t2,t3,t4⟩:=Vp hr.ch;refine ⟨ho,⟨.inr ⟨rfl,?_⟩,?_,?_⟩,⟨⟨⟨hg.zn.core.aa,hg.zn.core.i0,by have:=hg.zn.core.i1;show z.x.f.inside<=_;omega,by have:=hg.zn.core.tr;show z.x.tr.length<=_;omega,hg.zn.core.sh,(hg.zn.core.mono (M:=N+1) (by omega)).ring⟩,⟨by have:=hr.now;show 0<=z.x.f.now/\z.x.f.now<=_;omega,?_,hr.cap,hr.wl,fun w hw=>(hr.kE w hw).mono (by omega),hr.task,fun s hs=>by have:=hr.turns s hs;omega,t1,?_⟩,?_⟩,hg.ws,hg.iG,?_⟩,⟨rfl,rfl⟩,fun _=>rfl⟩
  ·show (k.holds++[_]).length=1
   rw [h2];rfl
  ·show 0<=k.worked/\k.worked<=_;omega
  ·show 0<=n+1/\n+1<=_;omega
  ·have:=hr.busy
   show 0<=z.x.f.busy+1/\z.x.f.busy+1<=_;omega
  ·have:=hr.sp
   show z.p.take.1.sp.length<=_;omega
  ·show z.lg.length<=_;omega
  ·show z.p.take.1.room<=_
   rw [t2];exact hg.room
 ·obtain rfl:s=.thn (.ai .jy) .takes:=h1
  have h2:k.holds.length=1:=h2;have hb:0<=Z2 z.x.f.busy/\Z2 z.x.f.busy<=N:=by have:=hr.busy;unfold Z2;split <;> omega
  refine ⟨⟨⟨ho,by show 0<k.holds.length;omega⟩,fun _=>?_⟩,⟨.inl ⟨rfl,rfl⟩,?_,?_⟩,⟨⟨⟨hg.zn.core.aa,hg.zn.core.i0,by have:=hg.zn.core.i1;show z.x.f.inside<=_;omega,by have:=hg.zn.core.tr;show z.x.tr.length<=_;omega,hg.zn.core.sh,(hg.zn.core.mono (M:=N+1) (by omega)).ring⟩,⟨by have:=hr.now;show 0<=z.x.f.now/\z.x.f.now<=_;omega,?_,hr.cap,hr.wl,fun w hw=>(hr.kE w hw).mono (by omega),hr.task,fun s hs=>by have:=hr.turns s hs;omega,hr.ch,?_⟩,?_⟩,hg.ws,hg.iG,hg.room⟩,⟨rfl,rfl⟩,fun _=>rfl⟩
  ·exact ⟨by show 0<=Z2 z.x.f.busy/\Z2 z.x.f.busy<=_;omega,ho.pipe,ho.room,by show ([]:List Xm).length<=_;simp,by show (z.lg++k.holds).length<=_;rw [WX];omega,by show 0<=k.worked+1/\k.worked+1<=_;omega⟩
  ·show 0<=k.worked+1/\k.worked+1<=_;omega
  ·show 0<=n+1/\n+1<=_;omega
  ·show 0<=Z2 z.x.f.busy/\Z2 z.x.f.busy<=_;omega
  ·have:=hr.sp
   show z.p.sp.length<=_;omega
  ·show (z.lg++k.holds).length<=_
   rw [WX];omega
def xg (L:Lay) (c:dz) (g:List ak):Prop:=uF L c.wb c.s c.n c.k g
theorem KO (a b c d:List ak):((a++(b++c))++d).Perm ((a++(c++d))++b):=by
 classical
 refine WO.2 fun x=>?_
 simp only [WR];omega
theorem KN (x a b c d:List ak):([x,(a++(c++d))++b]:GH).flatten.Perm ([x,(a++(b++c))++d]:GH).flatten:=by
 classical
 refine WO.2 fun x=>?_
 simp only [WS,WU,WQ,WR];omega
theorem q5y {c:dz} (hc:xg L c g) (hz:fu L z gZ) (hg:mh N z) (hw:mP N c) (hN:N<999998) :
 Qa prog 377 #[Qb c.wb] [g,gZ] fun e gs=>∃ g' cu,e=WK (.bool (c.may z))/\xg L c g'/\fu L z cu/\gs=[g',cu]:=by
 obtain ⟨gC,gW,gP,gL,h1,h2,h3,h4,rfl⟩:=Z1 hz;refine (J7 (gB:=gW) (R:=fun e g' fw=>e=WK (.bool (c.may z))/\xg L c g'/\vH L z.x z.p z.lg fw) ((zat hc ⟨gC,gP,gL,h1,h3,h4,rfl⟩ (hw.dw hg (by omega))).mono ?_) (KO _ _ _ _)).post ?_
 ·rintro e gs ⟨rfl,g',aI,a,b,rfl⟩
  exact ⟨g',aI,⟨rfl,a,b⟩,rfl⟩
 ·rintro e gs ⟨g',fw,⟨rfl,a,⟨iZ,AX,O9,b1,b2,b3,rfl⟩⟩,rfl⟩
  exact ⟨_,⟨g',_,rfl,a,qD b1 h2 b2 b3,rfl⟩,KN _ _ _ _ _⟩
theorem q1p {c:dz} (hc:xg L c g) (hz:fu L z gZ) (hg:mh N z) (hw:mP N c) (hN:N<999998) (hm:c.may z=true) :
 Qa prog 378 #[Qb c.wb] [g,gZ] fun e gs=>∃ g' cu,e=WK (.bool true)/\xg L (c.step z).1 g'/\fu L (c.step z).2 cu/\gs=[g',cu]:=by
 obtain ⟨gC,gW,gP,gL,h1,h2,h3,h4,rfl⟩:=Z1 hz;have hn:=hw.n;refine (J7 (gB:=gW) (R:=fun e g' fw=>e=WK (.bool true)/\xg L (c.step z).1 g'/\vH L (c.step z).2.x (c.step z).2.p (c.step z).2.lg fw) ((q7u hc ⟨gC,gP,gL,h1,h3,h4,rfl⟩ (hw.dw hg (by omega)) hm (RH hw hg hN).1 (by omega)).mono ?_) (KO _ _ _ _)).post ?_
 ·rintro e gs ⟨g',aI,rfl,a,b,rfl⟩
  exact ⟨g',aI,⟨rfl,a,b⟩,rfl⟩
 ·rintro e gs ⟨g',fw,⟨rfl,a,⟨iZ,AX,O9,b1,b2,b3,rfl⟩⟩,rfl⟩
  exact ⟨_,⟨g',_,rfl,a,qD (z:=(c.step z).2) b1 h2 b2 b3,rfl⟩,KN _ _ _ _ _⟩
theorem q8u {c:dz} (hc:xg L c g) (hz:fu L z gZ) (hg:mh N z) (hw:mP N c) (hN:N<999998) (hm:c.may z=false) :
 Qa prog 378 #[Qb c.wb] [g,gZ] fun e gs=>∃ g' cu,e=WK (.bool false)/\xg L c g'/\fu L z cu/\gs=[g',cu]:=by
 obtain ⟨gC,gW,gP,gL,h1,h2,h3,h4,rfl⟩:=Z1 hz;refine (J7 (gB:=gW) (R:=fun e g' fw=>e=WK (.bool false)/\xg L c g'/\vH L z.x z.p z.lg fw) ((zcb hc ⟨gC,gP,gL,h1,h3,h4,rfl⟩ (hw.dw hg (by omega)) hm).mono ?_) (KO _ _ _ _)).post ?_
 ·rintro e gs ⟨rfl,g',aI,a,b,rfl⟩
  exact ⟨g',aI,⟨rfl,a,b⟩,rfl⟩
 ·rintro e gs ⟨g',fw,⟨rfl,a,⟨iZ,AX,O9,b1,b2,b3,rfl⟩⟩,rfl⟩
  exact ⟨_,⟨g',_,rfl,a,qD b1 h2 b2 b3,rfl⟩,KN _ _ _ _ _⟩
end
end
section
open Go.RowKit Go.Shelf
attribute [local go_sem] XG
def lW:Option (Wk × Nat)->Value
 | none=>.nilIface
 | some (w,b)=>.iface w.ty (Qb b)
def Zy:Nat->List (Option (Wk × Nat))->List (Array Value)
 | _,[]=>[]
 | a,none::l=>Zy (a+1) l
 | a,some o::l=>#[WM WL a,lW (some o)]::Zy (a+1) l
def xx:Nat->List Nat->List (Array Value)
 | _,[]=>[]
 | a,p::l=>#[WM WL a,.iface 269 (Qb p)]::xx (a+1) l
theorem Es:∀ (l l':List (Option (Wk × Nat))) (a:Nat),Zy a (l++l')=Zy a l++Zy (a+l.length) l'
 | [],l',a=>rfl
 | none::l,l',a=>by
   show Zy (a+1) (l++l')=Zy (a+1) l++_
   rw [Es l l' (a+1),XD,show a+1+l.length=a+(l.length+1) by omega]
 | some o::l,l',a=>by
   show _::Zy (a+1) (l++l')=_::Zy (a+1) l++_
   rw [Es l l' (a+1),XD,show a+1+l.length=a+(l.length+1) by omega];rfl
theorem RO:∀ (l:List Nat) (a:Nat),(xx a l).length=l.length
 | [],_=>rfl
 | p::l,a=>by
   show (xx (a+1) l).length+1=_
   rw [RO l];rfl
theorem Si:∀ (l:List Nat) (a i p:Nat),l[i]?=some p->(xx a l)[i]?=some #[WM WL (a+i:Nat),.iface 269 (Qb p)]
 | [],_,_,_,h=>by cases h
 | q::l,a,0,p,h=>by cases h;rfl
 | q::l,a,i+1,p,h=>by
   have:=Si l (a+1) i p h;rw [show a+1+i=a+(i+1) by omega] at this;exact this
def qT (os:List (Option (Wk × Nat))) (i:Nat):Nat:=(Zy 0 (os.take i)).length
theorem qyg {os:List (Option (Wk × Nat))} {i:Nat} (h:os[i]?=some none):qT os (i+1)=qT os i:=by
 obtain ⟨h1,h2⟩:=WY.1 h;unfold qT;rw [XA h1,h2,Es]
 show (Zy 0 (os.take i)++[]).length=_
 rw [WQ]
theorem qyh {os:List (Option (Wk × Nat))} {i:Nat} {o:Wk × Nat} (h:os[i]?=some (some o)):qT os (i+1)=qT os i+1/\∀ l,(Zy 0 os++l)[qT os i]?=some #[WM WL i,lW (some o)]:=by
 obtain ⟨h1,h2⟩:=WY.1 h;have hl:(os.take i).length=i:=by rw [YL];omega
 refine ⟨?_,fun l=>?_⟩
 ·unfold qT
  rw [XA h1,h2,Es,WX];rfl
 ·have e:os=os.take i++some o::os.drop (i+1):=by
   rw [<- h2,<- List.drop_eq_getElem_cons h1,List.take_append_drop]
  have e2:Zy 0 os=Zy 0 (os.take i)++(#[WM WL i,lW (some o)]::Zy (i+1) (os.drop (i+1))):=by
   have h3:Zy 0 os=Zy 0 (os.take i++some o::os.drop (i+1)):=congrArg _ e;rw [Es,hl,YI] at h3;exact h3
  rw [e2,XI];unfold qT;rw [XT (YC _),Nat.sub_self];rfl
theorem q2t (os:List (Option (Wk × Nat))):qT os os.length=(Zy 0 os).length:=by unfold qT;rw [XX]
def DT (xs:List (Array Value)) (R:GH->Prop) (O:GH):A8 where
 σ:=Nat
 O _ O':=O'=O
 T _ H:=R H
 step k x G k':=xs[k]?=some x/\G=[]/\k'=k+1
 fin k:=k=xs.length
theorem M9 (W:World):(binOp .neq 205 .nilIface .nilIface).run prog W=.ok (.bool false) W:=by kernel_rfl
theorem Ni (w:Wk) (b:Nat) (W:World):(binOp .neq 205 (.iface w.ty (Qb b)) .nilIface).run prog W=.ok (.bool true) W:=by cases w <;> kernel_rfl
def Nv (sb:Nat) (hd go gc:List ak) (H:GH):Prop:=∃ i j k,H.getD i []=hd/\H.getD j []=go/\H.getD k []=gc/\i<H.length/\j<H.length/\k<H.length
def X0 (sb fb:Nat) (vo va vc:Value):List ak:=[cl sb 208 #[Qb fb,vo,va,vc]]
theorem Ua {α:Type} {H K:List α} {i:Nat} {d:α} (hi:i<H.length):(H++K).getD i d=H.getD i d:=by
 rw [WT,List.getElem?_append_left hi,<- WT]
theorem xu {v:Value} {gr:List ak} {n:Nat} {t:TypeId} {xs:List Value} (hr:Q1 t 1 v n xs gr) {h H:GH} {w w':World} (T:TG h w H w') (i:Nat) (hg:H.getD i []=gr) (hi:i<H.length) {k:Nat} {x:Value} (hk:xs[k]?=some x) :
 ∃ b cap,v=.slice (some ⟨b,0,none⟩) n cap/\w'.cell? ⟨b,k,none⟩=some x:=by
 have hlen:xs.length=n:=by
  have:=hr.1;omega
 have hkl:=(WY.1 hk).1;obtain ⟨b,cap,cur,hv,hgr,_,_,_,dN⟩:=hr.open (by omega);refine ⟨b,cap,hv,?_⟩
 have:=T.cell i 0 (b:=b) (T:=t) (C:=cur) (by rw [hg,hgr];rfl) k;rw [this,dN k (by omega),hk]
theorem qn9 (bx sb fb:Nat) {os:List (Option (Wk × Nat))} {ps:List Nat} {vo va vc:Value} {go gc:List ak} (hro:Q1 205 1 vo os.length (os.map lW) go) (hrc:Q1 269 1 vc ps.length (ps.map Qb) gc) (hn:os.length<=1000) (hm:ps.length<=1000) :
 uy prog 168 #[Qb bx] (DT (Zy 0 os++xx os.length ps) (Nv sb (X0 sb fb vo va vc) go gc) [[cl bx 102 #[Qb sb]]]) (0:Nat):=by
 intro ly J Jx hT hY H0 O0 W hJ0 hO hH;have l8:O0=[[cl bx 102 #[Qb sb]]]:=hO;subst l8;have T0:=TG.refl hH;have c0:=(TG.refl hH.right).c 0 0 0;simp only [bR] at c0;obtain ⟨a0,a1,a2,b0,b1,b2,l0,l1,l2⟩:=hT (0:Nat) H0 hJ0;obtain ⟨j4,dW,rfl⟩:=Q1.val hro;obtain ⟨qY,jr,rfl⟩:=Q1.val hrc
 have HEAD:∀ (H:GH) (w':World),Nv sb (X0 sb fb (.slice j4 os.length dW) va (.slice qY ps.length jr)) go gc H->Yc H w'->w'.cell? ⟨sb,1,none⟩=some (.slice j4 os.length dW)/\w'.cell? ⟨sb,3,none⟩=some (.slice qY ps.length jr):=by
  rintro H w' ⟨i,j,k,h1,_,_,h4,_,_⟩ hh;exact ⟨(TG.refl hh).cell i 0 (b:=sb) (by rw [h1];rfl) 1,(TG.refl hh).cell i 0 (b:=sb) (by rw [h1];rfl) 3⟩
 obtain ⟨hd1,hd3⟩:=HEAD H0 W (hT (0:Nat) H0 hJ0) hH.left;have Oo:=Vh HEAD;have wu:=Vh hro;have wm:=Vh hrc;have HJ:=Vh hJ0;have HT0:=Vh T0;have uY:=Vh hT;have HY:=Vh hY;clear hO hH hY hT hJ0 T0 b0 b1 b2 l0 l1 l2 hro hrc HEAD;refine (callsIn_wide (n:=9)).1 (callsIn_of_wp func168 rfl trivial ?_ rfl)
 simp only [ntmps168,XU,XD,XY,Nat.reduceAdd,Nat.reduceSub,XL,XM,XV,XP,XH,XE];gi_wp2
 clear hd1 hd3
 gi_loopw [14] (fun i wr=>∃ (k:Nat) (H:GH),k<=os.length/\i=WM WL k/\J (qT os k) H/\TG (H0++[[cl bx 102 #[Qb sb]]]) W (H++[[cl bx 102 #[Qb sb]]]) wr) (fun i _=>os.length+1 - (intOf i).toNat)
 case atStart=>exact ⟨0,H0,by omega,rfl,HJ,HT0⟩
 case round =>
  obtain ⟨k,H,hk,rfl,hj,T⟩:=hrel;clear HJ HT0 c0;by_cases hlt:k<os.length
  ·obtain ⟨o,ho⟩:∃ o,os[k]?=some o:=⟨_,XF hlt⟩
   obtain ⟨i,j,q,e1,e2,e3,l1,l2,l3⟩:=uY.out _ _ hj;obtain ⟨rb,cp,hv,hb⟩:=xu wu T j (by rw [Ua l2];exact e2) (by rw [WX];omega) (k:=k) (x:=lW o) (by rw [XC,ho];rfl);obtain ⟨rfl,rfl⟩:j4=some ⟨rb,0,none⟩/\dW=cp:=by cases hv;exact ⟨rfl,rfl⟩
   clear hv e1 e2 e3 l1 l2 l3;cases o with
   | none =>
     have hp:=qyg ho;have hnq:=M9;change _=some Value.nilIface at hb
     rw [<- hp] at hj;have HJ:=Vh hj;have HT:=Vh T;clear hj T hp ho;gi_wp2
     refine ⟨fun f hf=>(by cases hf),?_⟩
     gi_wp2
     go_roundw
     case rel=>exact ⟨k+1,H,by omega,by go_num,HJ,HT⟩
     case measure=>simp [intOf];omega
   | some ov =>
     obtain ⟨wk,b⟩:=ov;obtain ⟨hp,hp2⟩:=qyh ho;have hnq:=Ni wk b;change _=some (YD wk.ty (Qb b)) at hb
     have hy0:=HY.out (qT os k) #[WM WL k,.iface wk.ty (Qb b)] [] (qT os k+1) H wr hj ⟨hp2 _,rfl,rfl⟩ (by rw [WQ];exact T.has.left);have HP:=Vh hp;obtain ⟨fn,tmps,assign,body,hy,hR⟩:=Zw (n:=8) hy0;have HRR:=Vh hR;have HT:=Vh T;clear hy0 hR hj T hp hp2 ho;gi_wp2
     refine HRR.mono ?_
     rintro e W' ⟨H',hT',hj'⟩;have T7:=HT.trans ((hT'.app (a':=H) (by simp)).frame HT.has);have dY:=Vh T7;rcases hj' with ⟨rfl,hj'⟩ | ⟨rfl,hj'⟩
     ·have HJ:=Vh hj'
      clear hT' T7 hj' hy;gi_wp2
      go_roundw
      case rel=>exact ⟨k+1,H',by omega,by go_num,by rw [HP.out];exact HJ,dY⟩
      case measure=>simp [intOf];omega
     ·have HJ:=Vh hj'
      clear hT' T7 hj' hy;gi_wp2
      refine XN (results_none rfl _ _ _) rfl ?_
      exact ⟨⟨_,rfl⟩,_,H',_,dY,.inr HJ⟩
  ·obtain rfl:k=os.length:=by omega
   rw [q2t] at hj;obtain ⟨hd1,hd3⟩:=Oo.out H _ (uY _ _ hj) T.has.left;have c1:=(TG.refl T.has.right).c 0 0 0;simp only [bR] at c1;have HJ:=Vh hj;have HT0:=Vh T;clear hj T;gi_wp2
   clear hd1 hd3 c1
   gi_loopw [34] (fun i wr=>∃ (k:Nat) (H:GH),k<=ps.length/\i=WM WL k/\J ((Zy 0 os).length+k) H/\TG (H0++[[cl bx 102 #[Qb sb]]]) W (H++[[cl bx 102 #[Qb sb]]]) wr) (fun i _=>ps.length+1 - (intOf i).toNat)
   case atStart=>exact ⟨0,H,by omega,rfl,HJ,HT0⟩
   case round =>
    obtain ⟨k,H,hk,rfl,hj,T⟩:=hrel;clear HJ HT0;by_cases hlt:k<ps.length
    ·obtain ⟨p,ho⟩:∃ p,ps[k]?=some p:=⟨_,XF hlt⟩
     obtain ⟨hd1,hd3⟩:=Oo.out H _ (uY _ _ hj) T.has.left;have c1:=(TG.refl T.has.right).c 0 0 0;simp only [bR] at c1;obtain ⟨i,j,q,e1,e2,e3,l1,l2,l3⟩:=uY.out _ _ hj;obtain ⟨rb,cp,hv,hb⟩:=xu wm T q (by rw [Ua l3];exact e3) (by rw [WX];omega) (k:=k) (x:=Qb p) (by rw [XC,ho];rfl);obtain ⟨rfl,rfl⟩:qY=some ⟨rb,0,none⟩/\jr=cp:=by cases hv;exact ⟨rfl,rfl⟩
     clear hv e1 e2 e3 l1 l2 l3;have hit:=Si ps os.length k p ho
     have hy0:=HY.out ((Zy 0 os).length+k) #[WM WL ((os.length:Int)+k),.iface 269 (Qb p)] [] ((Zy 0 os).length+(k+1)) H wr hj ⟨by
      rw [XT (by omega),Nat.add_sub_cancel_left,hit]
      rfl,rfl,by omega⟩ (by rw [WQ];exact T.has.left)
     obtain ⟨fn,tmps,assign,body,hy,hR⟩:=Zw (n:=8) hy0;have HRR:=Vh hR;have HT:=Vh T;clear hy0 hR hj T hit ho;gi_wp2
     refine HRR.mono ?_
     rintro e W' ⟨H',hT',hj'⟩;have T7:=HT.trans ((hT'.app (a':=H) (by simp)).frame HT.has);have dY:=Vh T7;rcases hj' with ⟨rfl,hj'⟩ | ⟨rfl,hj'⟩
     ·have HJ:=Vh hj'
      clear hT' T7 hj' hy hd1 hd3 c1;gi_wp2
      go_roundw
      case rel=>exact ⟨k+1,H',by omega,by go_num,HJ,dY⟩
      case measure=>simp [intOf];omega
     ·have HJ:=Vh hj'
      clear hT' T7 hj' hy hd1 hd3 c1;gi_wp2
      refine XN (results_none rfl _ _ _) rfl ?_
      exact ⟨⟨_,rfl⟩,_,H',_,dY,.inr HJ⟩
    ·obtain rfl:k=ps.length:=by omega
     have HJ:=Vh hj;have HT:=Vh T;clear hj T;gi_wp2
     go_end0
     exact ⟨⟨_,rfl⟩,_,H,_,HT,.inl ⟨by show _=(Zy 0 os++xx os.length ps).length;rw [WX,RO],HJ,rfl⟩⟩
end
section
open Go.RowKit Go.Shelf
attribute [local go_sem] XG
structure J2 where
 kb:Nat
 n:Int
 w:Wk
structure SvS where
 z:ZF
 own:List (Option Nat)
 all:List J2
 aL:List dz
inductive Th where
 | eH (a:Nat)
 | fQ (i:Nat)
def yc:J2:=⟨0,0,.call .nil (ku 0 0 ⟨0,0,0,0⟩)⟩
def NY:dz:=⟨0,Jy,0,rY⟩
def SvS.ah (S:SvS) (a:Nat):J2:=S.all.getD a yc
def SvS.aO (S:SvS) (i:Nat):dz:=S.aL.getD i NY
def Th.b (S:SvS):Th->Nat
 | .eH a=>(S.ah a).kb
 | .fQ i=>(S.aO i).wb
def Th.ty (S:SvS):Th->TypeId
 | .eH a=>(S.ah a).w.ty
 | .fQ i=>269
def Th.jJ (S:SvS):Th->XK
 | .eH a=>(S.ah a).w.jJ
 | .fQ i=>377
def Th.fI (S:SvS):Th->XK
 | .eH a=>(S.ah a).w.fI
 | .fQ i=>378
def Th.may (S:SvS):Th->Bool
 | .eH a=>(S.ah a).w.may S.z
 | .fQ i=>(S.aO i).may S.z
def Th.step (S:SvS):Th->SvS
 | .eH a=>{ S with all:=S.all.set a ⟨(S.ah a).kb,(S.ah a).n+1,((S.ah a).w.step S.z).1⟩,z:=((S.ah a).w.step S.z).2 }
 | .fQ i=>{ S with aL:=S.aL.set i ((S.aO i).step S.z).1,z:=((S.aO i).step S.z).2 }
def Th.here (S:SvS):Th->Prop
 | .eH a=>a<S.all.length
 | .fQ i=>i<S.aL.length
def rX:Nat->List (Option Nat)->List (Nat × Th)
 | _,[]=>[]
 | a,none::l=>rX (a+1) l
 | a,some k::l=>(a,.eH k)::rX (a+1) l
def pq:Nat->Nat->List dz->List (Nat × Th)
 | _,_,[]=>[]
 | a,i,_::l=>(a,.fQ i)::pq (a+1) (i+1) l
def SvS.iH (S:SvS):List (Nat × Th):=rX 0 S.own++pq S.own.length 0 S.aL
def SvS.os (S:SvS):List (Option (Wk × Nat)):=S.own.map fun o=>o.map fun a=>((S.ah a).w,(S.ah a).kb)
def SvS.ps (S:SvS):List Nat:=S.aL.map dz.wb
def uS (S:SvS) (t:Nat × Th):Array Value:=#[WM WL t.1,.iface (t.2.ty S) (Qb (t.2.b S))]
theorem Lg (S:SvS):∀ (l:List (Option Nat)) (a:Nat),Zy a (l.map fun o=>o.map fun a=>((S.ah a).w,(S.ah a).kb))=(rX a l).map (uS S)
 | [],_=>rfl
 | none::l,a=>Lg S l (a+1)
 | some k::l,a=>by
   show _::Zy (a+1) _=_::(rX (a+1) l).map _
   rw [Lg S l (a+1)];rfl
theorem RP (S:SvS):∀ (l:List dz) (a i:Nat),(∀ j c,l[j]?=some c->S.aL[i+j]?=some c)->xx a (l.map dz.wb)=(pq a i l).map (uS S)
 | [],_,_,_=>rfl
 | c::l,a,i,h=>by
   show _::xx (a+1) _=uS S (a,.fQ i)::(pq (a+1) (i+1) l).map _
   rw [RP S l (a+1) (i+1) (fun j d hd=>by
    have:=h (j+1) d hd
    rwa [show i+(j+1)=i+1+j by omega] at this)]
   have h0:=h 0 c rfl
   have:S.aO i=c:=by
    unfold SvS.aO;rw [WT,show i=i+0 from rfl,h0];rfl
   show _=(#[Value.int WL a,YD 269 (Qb (S.aO i).wb)]:Array Value)::_
   rw [this]
theorem qxd (S:SvS):Zy 0 S.os++xx S.os.length S.ps=S.iH.map (uS S):=by
 unfold SvS.iH SvS.os SvS.ps;rw [XZ,Lg,WZ,RP S S.aL S.own.length 0 (fun j c h=>by rwa [YI])]
theorem E5:∀ (l:List (Option Nat)) (a:Nat) (t:Nat × Th),t∈rX a l->∃ k,t.2=.eH k/\some k∈l/\a<=t.1/\l[t.1 - a]?=some (some k)
 | none::l,a,t,h=>by
   obtain ⟨k,h1,h2,h3,h4⟩:=E5 l (a+1) t h;refine ⟨k,h1,XO _ h2,by omega,?_⟩
   rw [show t.1 - a=(t.1 - (a+1))+1 by omega];exact h4
 | some k::l,a,t,h=>by
   rcases YP.1 h with rfl | h
   ·exact ⟨k,rfl,List.mem_cons_self,YC _,by simp⟩
   ·obtain ⟨k',h1,h2,h3,h4⟩:=E5 l (a+1) t h
    refine ⟨k',h1,XO _ h2,by omega,?_⟩
    rw [show t.1 - a=(t.1 - (a+1))+1 by omega];exact h4
theorem Bu:∀ (l:List dz) (a i:Nat) (t:Nat × Th),t∈pq a i l->∃ j,t.2=.fQ (i+j)/\t.1=a+j/\j<l.length
 | c::l,a,i,t,h=>by
   rcases YP.1 h with rfl | h
   ·exact ⟨0,rfl,rfl,Nat.zero_lt_succ _⟩
   ·obtain ⟨j,h1,h2,h3⟩:=Bu l (a+1) (i+1) t h
    exact ⟨j+1,by rw [h1,show i+1+j=i+(j+1) by omega],by omega,by simp;omega⟩
structure dV (N:Nat) (S:SvS):Prop where
 eY:mh N S.z
 fe:∀ j∈S.all,oV N j.w S.z.x/\0<=j.n/\j.n<=N
 aL:∀ c∈S.aL,mP N c
 own:∀ k,some k∈S.own->k<S.all.length
 ol:1<=S.own.length/\S.own.length<=1000
 cl:S.aL.length<=1000
 al:S.all.length<=N
 turn:∀ (a:Nat) (j:J2),S.all[a]?=some j->j.w.isTurn=true->j.w.done=false->S.own[S.own.length - 1]?=some (some a)
theorem dV.mono {N M:Nat} {S:SvS} (h:dV N S) (hm:N<=M):dV M S :=
 ⟨h.eY.mono hm,fun j hj=>⟨(h.fe j hj).1.mono hm,(h.fe j hj).2.1,by have:=(h.fe j hj).2.2;omega⟩,fun c hc=>(h.aL c hc).mono hm,h.own,h.ol,h.cl,by have:=h.al;omega,h.turn⟩
theorem Ab {N:Nat} {S:SvS} (h:dV N S) {t:Nat × Th} (ht:t∈S.iH):t.2.here S:=by
 rcases YM.1 ht with ht | ht
 ·obtain ⟨k,h1,h2,_⟩:=E5 _ _ _ ht
  rw [h1];exact h.own k h2
 ·obtain ⟨j,h1,_,h3⟩:=Bu _ _ _ _ ht
  rw [h1,YI];exact h3
theorem Xj {S:SvS} {a:Nat} (h:a<S.all.length):S.all[a]?=some (S.ah a):=by
 unfold SvS.ah;rw [WT,XF h];rfl
theorem Jp {S:SvS} {a:Nat} (h:a<S.aL.length):S.aL[a]?=some (S.aO a):=by
 unfold SvS.aO;rw [WT,XF h];rfl
def Jb (L:Lay) (l:List J2) (g:List ak):Prop:=Yx (fun (j:J2) g=>oL L j.kb j.n j.w g) l g
theorem Mk {P:YO} {f:XK} {args:Array Value} {a b c:List ak} {R:Ending->List ak->List ak->Prop} (hd:Qa P f args [a,c] fun e gs=>∃ a' c',R e a' c'/\gs=[a',c']) :
 Qa P f args [a,b,c] fun e gs=>∃ a' c',R e a' c'/\gs=[a',b,c']:=by
 intro w hw
 have h2:Yc ([a,c]++[b]) w:=hw.re (by
  classical
  refine WO.2 fun x=>?_
  simp only [WV,WS,WU,WQ,WR]
  omega)
 refine (hd w h2.left).mono ?_
 rintro e w' ⟨gs,⟨a',c',hR,rfl⟩,T⟩;refine ⟨_,⟨a',c',hR,rfl⟩,((T.frame h2).re (H':=[a',b,c']) ?_).dG ?_⟩
 ·classical
  refine WO.2 fun x=>?_
  simp only [WV,WS,WU,WQ,WR];omega
 ·classical
  refine WO.2 fun x=>?_
  simp only [WV,WS,WU,WQ,WR];omega
theorem Mj {P:YO} {f:XK} {args:Array Value} {a b c:List ak} {R:Ending->List ak->List ak->Prop} (hd:Qa P f args [a,c] fun e gs=>∃ a' c',R e a' c'/\gs=[a',c']) :
 Qa P f args [b,a,c] fun e gs=>∃ a' c',R e a' c'/\gs=[b,a',c']:=by
 intro w hw;have h2:Yc ([b]++[a,c]) w:=hw;refine (hd w h2.right).mono ?_
 rintro e w' ⟨gs,⟨a',c',hR,rfl⟩,T⟩;exact ⟨_,⟨a',c',hR,rfl⟩,T.sO h2⟩
section
variable {L:Lay} {S:SvS} {gJ gW gZ:List ak} {N:Nat} {t:Th}
theorem zca (hn:dV N S) (ht:t.here S) (hj:Jb L S.all gJ) (hw:kX L S.aL gW) (hz:fu L S.z gZ) (hN:N<999998) :
 Qa prog (t.jJ S) #[Qb (t.b S)] [gJ,gW,gZ] fun e gs=>∃ eu gy cu,e=WK (.bool (t.may S))/\Jb L S.all eu/\kX L S.aL gy/\fu L S.z cu/\gs=[eu,gy,cu]:=by
 cases t with
 | eH a =>
   have hk:=Xj ht;have hjn:=(hn.fe _ (WN hk)).1;refine (Mk (R:=fun e a' c'=>e=WK (.bool (Th.may S (.eH a)))/\Jb L S.all a'/\fu L S.z c') ((xm (R:=fun e a' bT=>e=WK (.bool (Th.may S (.eH a)))/\a'=S.ah a/\∃ gz,fu L S.z gz/\bT=[gz]) hj hk (fun ga hga=>(q83 hga hz hn.eY hjn (by omega)).mono ?_)).mono ?_)).mono ?_
   ·rintro e gs ⟨g',cu,rfl,h1,h2,rfl⟩
    exact ⟨_,g',[cu],⟨rfl,rfl,cu,h2,rfl⟩,h1,rfl⟩
   ·rintro e gs ⟨a',g',bT,⟨rfl,rfl,gz,h1,rfl⟩,h2,rfl⟩
    rw [q9 hk] at h2;exact ⟨g',gz,⟨rfl,h2,h1⟩,rfl⟩
   ·rintro e gs ⟨a',c',⟨rfl,h1,h2⟩,rfl⟩
    exact ⟨a',gW,c',rfl,h1,hw,h2,rfl⟩
 | fQ i =>
   have hk:=Jp ht;have hcn:=hn.aL _ (WN hk);refine (Mj (R:=fun e a' c'=>e=WK (.bool (Th.may S (.fQ i)))/\kX L S.aL a'/\fu L S.z c') ((xm (R:=fun e a' bT=>e=WK (.bool (Th.may S (.fQ i)))/\a'=S.aO i/\∃ gz,fu L S.z gz/\bT=[gz]) hw hk (fun ga hga=>(q5y (c:=S.aO i) hga hz hn.eY hcn hN).mono ?_)).mono ?_)).mono ?_
   ·rintro e gs ⟨g',cu,rfl,h1,h2,rfl⟩
    exact ⟨_,g',[cu],⟨rfl,rfl,cu,h2,rfl⟩,h1,rfl⟩
   ·rintro e gs ⟨a',g',bT,⟨rfl,rfl,gz,h1,rfl⟩,h2,rfl⟩
    rw [q9 hk] at h2;exact ⟨g',gz,⟨rfl,h2,h1⟩,rfl⟩
   ·rintro e gs ⟨a',c',⟨rfl,h1,h2⟩,rfl⟩
    exact ⟨gJ,a',c',rfl,hj,h1,h2,rfl⟩
theorem zan (hn:dV N S) (ht:t.here S) (hj:Jb L S.all gJ) (hw:kX L S.aL gW) (hz:fu L S.z gZ) (hN:N<999998) (hm:t.may S=true) :
 Qa prog (t.fI S) #[Qb (t.b S)] [gJ,gW,gZ] fun e gs=>∃ eu gy cu,e=WK (.bool true)/\Jb L (t.step S).all eu/\kX L (t.step S).aL gy/\fu L (t.step S).z cu/\gs=[eu,gy,cu]:=by
 cases t with
 | eH a =>
   have hk:=Xj ht;obtain ⟨hjn,hn0,hn1⟩:=hn.fe _ (WN hk);refine (Mk (R:=fun e a' c'=>e=WK (.bool true)/\Jb L (Th.step S (.eH a)).all a'/\fu L (Th.step S (.eH a)).z c') ((xm (R:=fun e a' bT=>e=WK (.bool true)/\a'=⟨(S.ah a).kb,(S.ah a).n+1,((S.ah a).w.step S.z).1⟩/\∃ gz,fu L ((S.ah a).w.step S.z).2 gz/\bT=[gz]) hj hk (fun ga hga=>(q57 hga hz hn.eY hjn (by omega) hm (by omega)).mono ?_)).mono ?_)).mono ?_
   ·rintro e gs ⟨g',cu,rfl,h1,h2,rfl⟩
    exact ⟨_,g',[cu],⟨rfl,rfl,cu,h2,rfl⟩,h1,rfl⟩
   ·rintro e gs ⟨a',g',bT,⟨rfl,rfl,gz,h1,rfl⟩,h2,rfl⟩
    exact ⟨g',gz,⟨rfl,h2,h1⟩,rfl⟩
   ·rintro e gs ⟨a',c',⟨rfl,h1,h2⟩,rfl⟩
    exact ⟨a',gW,c',rfl,h1,hw,h2,rfl⟩
 | fQ i =>
   have hk:=Jp ht;have hcn:=hn.aL _ (WN hk);refine (Mj (R:=fun e a' c'=>e=WK (.bool true)/\kX L (Th.step S (.fQ i)).aL a'/\fu L (Th.step S (.fQ i)).z c') ((xm (R:=fun e a' bT=>e=WK (.bool true)/\a'=((S.aO i).step S.z).1/\∃ gz,fu L ((S.aO i).step S.z).2 gz/\bT=[gz]) hw hk (fun ga hga=>(q1p (c:=S.aO i) hga hz hn.eY hcn hN hm).mono ?_)).mono ?_)).mono ?_
   ·rintro e gs ⟨g',cu,rfl,h1,h2,rfl⟩
    exact ⟨_,g',[cu],⟨rfl,rfl,cu,h2,rfl⟩,h1,rfl⟩
   ·rintro e gs ⟨a',g',bT,⟨rfl,rfl,gz,h1,rfl⟩,h2,rfl⟩
    exact ⟨g',gz,⟨rfl,h2,h1⟩,rfl⟩
   ·rintro e gs ⟨a',c',⟨rfl,h1,h2⟩,rfl⟩
    exact ⟨gJ,a',c',rfl,hj,h1,h2,rfl⟩
theorem NI (hn:dV N S) (ht:t.here S) (hj:Jb L S.all gJ) (hw:kX L S.aL gW) (hz:fu L S.z gZ) (hN:N<999998) (hm:t.may S=false) :
 Qa prog (t.fI S) #[Qb (t.b S)] [gJ,gW,gZ] fun e gs=>∃ eu gy cu,e=WK (.bool false)/\Jb L S.all eu/\kX L S.aL gy/\fu L S.z cu/\gs=[eu,gy,cu]:=by
 cases t with
 | eH a =>
   have hk:=Xj ht;have hjn:=(hn.fe _ (WN hk)).1;refine (Mk (R:=fun e a' c'=>e=WK (.bool false)/\Jb L S.all a'/\fu L S.z c') ((xm (R:=fun e a' bT=>e=WK (.bool false)/\a'=S.ah a/\∃ gz,fu L S.z gz/\bT=[gz]) hj hk (fun ga hga=>(zbo hga hz hn.eY hjn (by omega) hm).mono ?_)).mono ?_)).mono ?_
   ·rintro e gs ⟨g',cu,rfl,h1,h2,rfl⟩
    exact ⟨_,g',[cu],⟨rfl,rfl,cu,h2,rfl⟩,h1,rfl⟩
   ·rintro e gs ⟨a',g',bT,⟨rfl,rfl,gz,h1,rfl⟩,h2,rfl⟩
    rw [q9 hk] at h2;exact ⟨g',gz,⟨rfl,h2,h1⟩,rfl⟩
   ·rintro e gs ⟨a',c',⟨rfl,h1,h2⟩,rfl⟩
    exact ⟨a',gW,c',rfl,h1,hw,h2,rfl⟩
 | fQ i =>
   have hk:=Jp ht;have hcn:=hn.aL _ (WN hk);refine (Mj (R:=fun e a' c'=>e=WK (.bool false)/\kX L S.aL a'/\fu L S.z c') ((xm (R:=fun e a' bT=>e=WK (.bool false)/\a'=S.aO i/\∃ gz,fu L S.z gz/\bT=[gz]) hw hk (fun ga hga=>(q8u (c:=S.aO i) hga hz hn.eY hcn hN hm).mono ?_)).mono ?_)).mono ?_
   ·rintro e gs ⟨g',cu,rfl,h1,h2,rfl⟩
    exact ⟨_,g',[cu],⟨rfl,rfl,cu,h2,rfl⟩,h1,rfl⟩
   ·rintro e gs ⟨a',g',bT,⟨rfl,rfl,gz,h1,rfl⟩,h2,rfl⟩
    rw [q9 hk] at h2;exact ⟨g',gz,⟨rfl,h2,h1⟩,rfl⟩
   ·rintro e gs ⟨a',c',⟨rfl,h1,h2⟩,rfl⟩
    exact ⟨gJ,a',c',rfl,hj,h1,h2,rfl⟩
end
end
section
open Go.RowKit Go.Shelf
attribute [local go_sem] XG
def oW (j:J2):Value:=.iface j.w.ty (Qb j.kb)
structure zi (L:Lay) (sb:Nat) (S:SvS) (vo va vc:Value) (go ga gc:List ak):Prop where
 o:Q1 205 1 vo S.own.length (S.os.map lW) go
 a:Q1 205 1 va S.all.length (S.all.map oW) ga
 c:Q1 269 1 vc S.aL.length (S.ps.map Qb) gc
structure mr (L:Lay) (S:SvS) (gJ gW gZ:List ak):Prop where
 j:Jb L S.all gJ
 w:kX L S.aL gW
 z:fu L S.z gZ
def kW (L:Lay) (sb:Nat) (S:SvS) (g:List ak):Prop :=
 ∃ vo va vc go ga gc gJ gW gZ,zi L sb S vo va vc go ga gc/\mr L S gJ gW gZ/\g=X0 sb L.fb vo va vc++(go++(ga++(gc++(gJ++(gW++gZ)))))
def SvS.bM (S:SvS):List Nat:=(S.iH.filter fun t=>t.2.may S).map Prod.fst
def SvS.dC (S:SvS) (k:Nat):List Nat:=((S.iH.take k).filter fun t=>t.2.may S).map Prod.fst
def vP (l:List Nat):List Value:=l.map fun n=>WM WL (n:Nat)
theorem qt6 (S:SvS):S.dC S.iH.length=S.bM:=by unfold SvS.dC SvS.bM;rw [XX]
theorem qps {S:SvS} {k:Nat} {t:Nat × Th} (h:S.iH[k]?=some t):S.dC (k+1)=S.dC k++(if t.2.may S then [t.1] else []):=by
 obtain ⟨h1,h2⟩:=WY.1 h;unfold SvS.dC;rw [XA h1,h2,List.filter_append,XZ];cases hm:t.2.may S <;> simp [hm]
theorem qxt (S:SvS) (k:Nat):(S.dC k).length<=S.iH.length:=by
 unfold SvS.dC;rw [WZ];exact Nat.le_trans (List.length_filter_le _ _) (by rw [YL];omega)
theorem He:∀ (l:List (Option Nat)) (a:Nat),(rX a l).length<=l.length
 | [],_=>YC _
 | none::l,a=>Nat.le_succ_of_le (He l (a+1))
 | some k::l,a=>Nat.succ_le_succ (He l (a+1))
theorem MK:∀ (l:List dz) (a i:Nat),(pq a i l).length=l.length
 | [],_,_=>rfl
 | c::l,a,i=>congrArg Nat.succ (MK l (a+1) (i+1))
theorem Vs {N:Nat} {S:SvS} (h:dV N S):S.iH.length<=2000:=by
 have h1:=h.ol;have h2:=h.cl;have h3:=He S.own 0;have h4:=MK S.aL S.own.length 0;unfold SvS.iH;rw [WX];omega
theorem SN (sb:Nat):Qa prog 121 #[Qb sb] [] fun e gs=>∃ bx,e=WK (.func (.func 168) #[] #[Qb bx])/\gs=[[cl bx 102 #[Qb sb]]]:=by
 refine GO fun w HT=>?_
 go_enter func121,ntmps121
 go_wp2
 go_ret
 exact ⟨_,⟨_,rfl,rfl⟩,(HT.alloc rfl _ _)⟩
theorem q7k (S:SvS) (t:Th) (b:Nat) (W:World):(method 523 (t.ty S) (Qb b) "May").run prog W=.ok (t.jJ S,Qb b) W:=by
 cases t with
 | eH a=>show (method _ ((S.ah a).w.ty) _ _).run _ _=.ok ((S.ah a).w.jJ,_) _;cases (S.ah a).w <;> kernel_rfl
 | fQ i=>kernel_rfl
theorem q3h (S:SvS) (t:Th) (b:Nat) (W:World):(method 523 (t.ty S) (Qb b) "Step").run prog W=.ok (t.fI S,Qb b) W:=by
 cases t with
 | eH a=>show (method _ ((S.ah a).w.ty) _ _).run _ _=.ok ((S.ah a).w.fI,_) _;cases (S.ah a).w <;> kernel_rfl
 | fQ i=>kernel_rfl
theorem q7j (S:SvS) (t:Th) (args:Array Value) (W:World):(YH (t.jJ S) args).run prog W=.ok (.enter (t.jJ S) args) W:=by
 cases t with
 | eH a=>show (YH (S.ah a).w.jJ _).run _ _=.ok (.enter (S.ah a).w.jJ _) _;cases (S.ah a).w <;> kernel_rfl
 | fQ i=>kernel_rfl
theorem q3g (S:SvS) (t:Th) (args:Array Value) (W:World):(YH (t.fI S) args).run prog W=.ok (.enter (t.fI S) args) W:=by
 cases t with
 | eH a=>show (YH (S.ah a).w.fI _).run _ _=.ok (.enter (S.ah a).w.fI _) _;cases (S.ah a).w <;> kernel_rfl
 | fQ i=>kernel_rfl
theorem q16:(prog.info? 3).map (fun i=>(i.zero,i.size,i.bytes))=some (some (WM WL 0),1,8):=by kernel_rfl
theorem Vk {L:Lay} {sb:Nat} {S:SvS} {vo va vc:Value} {go ga gc:List ak} {N:Nat} (hn:dV N S) (hr:zi L sb S vo va vc go ga gc) (bx:Nat) :
 uy prog 168 #[Qb bx] (DT (S.iH.map (uS S)) (Nv sb (X0 sb L.fb vo va vc) go gc) [[cl bx 102 #[Qb sb]]]) (0:Nat):=by
 rw [<- qxd];refine qn9 bx sb L.fb ?_ ?_ ?_ ?_
 ·show Q1 _ 1 vo (S.own.map _).length _ go
  rw [WZ];exact hr.o
 ·show Q1 _ 1 vc (S.aL.map _).length _ gc
  rw [WZ];exact hr.c
 ·show (S.own.map _).length<=_
  rw [WZ];exact hn.ol.2
 ·show (S.aL.map _).length<=_
  rw [WZ];exact hn.cl
section
variable {L:Lay} {sb:Nat} {S:SvS} {N:Nat}
theorem zaf (hn:dV N S) (hN:N<999998) {vo va vc:Value} {go ga gc gJ gW gZ:List ak} (hr:zi L sb S vo va vc go ga gc) (hi:mr L S gJ gW gZ):Qa prog 59 #[Qb sb] [X0 sb L.fb vo va vc,go,ga,gc,gJ,gW,gZ] fun e gs =>
 ∃ v gl eu gy cu,e=WK v/\Q1 3 1 v S.bM.length (vP S.bM) gl/\mr L S eu gy cu/\gs=[X0 sb L.fb vo va vc,go,ga,gc,eu,gy,cu,gl]:=by
 have HI:=Vh (show ∀ bx,_ from fun bx=>Vk hn hr bx);have eg:=enters_of func168 (P:=prog) (by kernel_rfl) rfl;have vZ:=Vh hn;have jf:=Vh hi;have htl:=Vs hn;refine GO fun w HT=>?_
 clear hr hi hn;refine Xf func59 rfl ?_
 simp only [ntmps59,XU,XD,XY,Nat.reduceAdd,Nat.reduceSub,XL,XM,XV,XP,XH,XE];go_wp2_with fail
 obtain ⟨lb,hlb⟩:∃ lb,w.heap.size=lb:=⟨_,rfl⟩;have HT:=Vh (HT.out.alloc (k:=lb) hlb.symm 64 #[.slice none 0 0]);rw [hlb];clear hlb;go_wp2_with fail
 refine Qa.run (SN sb) (HT) [] ?_
 rintro e w1 gs ⟨bx,rfl,rfl⟩ HT;simp only [PU] at HT;have T0:=HT.re (H':=[X0 sb L.fb vo va vc,go,ga,gc,gJ,gW,gZ,[cl lb 64 #[.slice none 0 0]],[]]++[[cl bx 102 #[Qb sb]]]) (by simp);go_wp2_with fail
 refine Bt (H0:=[X0 sb L.fb vo va vc,go,ga,gc,gJ,gW,gZ,[cl lb 64 #[.slice none 0 0]],[]]) (O0:=[[cl bx 102 #[Qb sb]]]) rfl eg (HI bx) ?hps T0 ?hO (fun (k:Nat) H=>∃ v gl iE iN jK,H=[X0 sb L.fb vo va vc,go,ga,gc,iE,iN,jK,[cl lb 64 #[v]],gl]/\mr L S iE iN jK/\Q1 3 1 v (S.dC k).length (vP (S.dC k)) gl) (fun _ _ _=>False) ?h0 ?hT ?hbody ?hdone ?hstop
 case hps =>
  rintro s x G s' ⟨hx,_⟩;obtain ⟨t,_,rfl⟩:=YQ.1 (WN hx);rfl
 case hO=>exact rfl
 case h0=>exact ⟨_,[],gJ,gW,gZ,rfl,jf,(show Q1 3 1 (.slice none 0 0) 0 [] [] from X5 _ _)⟩
 case hT=>rintro s H K ⟨v,gl,iE,iN,jK,rfl,_⟩;exact ⟨0,1,3,rfl,rfl,rfl,by simp,by simp,by simp⟩
 case hbody =>
  rintro (k:Nat) x G (k':Nat) H W ly ⟨v,gl,iE,iN,jK,rfl,hi1,hr1⟩ ⟨hx,rfl,rfl⟩ hH;rw [XC] at hx
  obtain ⟨t,ht,rfl⟩:∃ t,S.iH[k]?=some t/\uS S t=x:=by
   cases h:S.iH[k]? with
   | none=>rw [h] at hx;cases hx
   | some t=>rw [h] at hx;exact ⟨t,rfl,by cases hx;rfl⟩
  obtain ⟨nt,t⟩:=t;have wO:=qxt S k;have hms:=qps ht;have nQ:=zca vZ (Ab vZ (WN ht)) hi1.j hi1.w hi1.z hN;have hinv:=q7k S t;have nO:=q7j S t;obtain ⟨H9,hty⟩:∃ y,t.ty S=y:=⟨_,rfl⟩;obtain ⟨fV,jA⟩:∃ y,t.jJ S=y:=⟨_,rfl⟩;obtain ⟨bV,hbv⟩:∃ y,t.b S=y:=⟨_,rfl⟩;unfold uS;simp only at hms nQ |-;rw [hty,jA] at hinv;rw [jA] at nO;rw [hty,hbv];rw [jA,hbv] at nQ;have HM:=Vh nQ;have vY:=Vh hms;have HH:=Vh hH;have HR:=Vh hr1;obtain ⟨av,cap,hv⟩:=Q1.val hr1;subst hv;clear hH hr1 hi1 ht hx nQ hms hty jA hbv;refine Xq (n:=9) ?_
  gi_wp2
  refine ⟨_,TG.refl HH,fun Wb hb=>?_⟩
  have HT:=Vh (TG.refl hb);clear hb HH;refine Xq (n:=9) ?_
  gi_wp2
  refine ⟨trivial,(Yl (Qa.use HM HT [4,5,6] rfl rfl)).mono ?_⟩
  rintro e W1 ⟨gs,⟨ko,l5,sU,rfl,hj2,hw2,hz2,rfl⟩,Ta⟩;simp only [je,XQ,XR,WQ] at Ta;have HI2:=Vh (show mr L S ko l5 sU from ⟨hj2,hw2,hz2⟩);cases hm:t.may S with
  | false =>
    rw [hm] at vY;have vY:=Vh (show S.dC (k+1)=S.dC k by rw [vY.out];exact WQ _);have HT:=Vh Ta;clear Ta hj2 hw2 hz2 hinv nO;gi_wp2
    exact ⟨_,⟨_,gl,ko,l5,sU,rfl,HI2,by rw [vY.out];exact HR⟩,HT⟩
  | true =>
    rw [hm] at vY;have vY:=Vh (show S.dC (k+1)=S.dC k++[nt] from vY.out);have HT:=Vh Ta;have c0:=Ta.c 7 0 0;have f0:=Ta.f 7 0 0;simp only [bR] at c0;clear Ta hj2 hw2 hz2 hinv nO;obtain ⟨M,hM⟩:∃ M,(S.dC k).length=M:=⟨_,rfl⟩;rw [hM] at HT HR c0 wO;have ho2:M+1<=maxLen:=by unfold maxLen;omega
    have ho3:(M+1)*8<=140737488355328:=by omega
    have ho4:M<=2000:=by omega
    gi_wp2_with (
     gi_at_builtin
     with_reducible refine Jv rfl (.tmp 12) (.tmp 14) 64 rfl 3 1 8 _ underlying64 q16 rfl (by decide) (HT.out.aN _) 8 rfl rfl HR.out rfl ⟨W1.heap.size,0,none⟩ 1 1 [WM WL (nt:Nat)] rfl rfl (Za _ _ _) (by simp [Value.oneCell']) ho2 ho3 ?_;skip)
    ·intro v1 w2 g1 r1 T1
     have T1:=T1.eq (H':=[X0 sb L.fb vo va vc,go,ga,gc,ko,l5,sU,[cl lb 64 #[.slice av M cap]],g1]) rfl;have c1:=T1.c 7 0 0;have f1:=T1.f 7 0 0;obtain ⟨a1,di,hv1⟩:=Q1.val r1;subst hv1;have T1:=Vh T1;have r1:=Vh r1;simp only [bR] at c1;gi_wp2
     have e1:(S.dC (k+1)).length=M+1:=by rw [vY.out,WX,hM];rfl
     have e2:vP (S.dC (k+1))=vP (S.dC k)++[WM WL (nt:Nat)]:=by rw [vY.out];exact XZ ..
     exact ⟨[X0 sb L.fb vo va vc,go,ga,gc,ko,l5,sU,[cl lb 64 #[.slice a1 (M+1) di]],g1],⟨_,g1,ko,l5,sU,rfl,HI2,by rw [e1,e2];exact r1.out⟩,by rw [hM];exact (T1.set 7 0 rfl 0 (.slice a1 (M+1) di)).eq (by rfl)⟩
 case hdone =>
  rintro (k:Nat) H O' W D hf' ⟨v,gl,iE,iN,jK,rfl,hi1,hr1⟩ hO hT
  have hf2:k=S.iH.length:=by
   have:k=(S.iH.map (uS S)).length:=hf';rwa [WZ] at this
  subst hf2;rw [qt6] at hr1;have l8:O'=[[cl bx 102 #[Qb sb]]]:=hO;subst l8;have c0:=hT.c 7 0 0;simp only [bR] at c0;have HX:=Vh (YJ hi1 (YJ hr1 hT));obtain ⟨av,cap,hv⟩:=Q1.val hr1;subst hv;clear hi1 hr1 hT hf' hO;go_wp2
  obtain ⟨hi1,hr1,hT⟩:=HX.out;have T3:=hT.bY (.deferred none)
  have T4:TG [X0 sb L.fb vo va vc,go,ga,gc,gJ,gW,gZ] w ([X0 sb L.fb vo va vc,go,ga,gc,iE,iN,jK,gl]++[[cl lb 64 #[.slice av S.bM.length cap],cl bx 102 #[Qb sb],(D,.deferred none)]]) (W.putObj D (.deferred none)):=T3.re (by
   classical
   simp only [WV,WS,WU,WQ,XE,XH];refine WO.2 fun a=>?_
   simp only [WR,YA,YF]
   omega)
  exact Z5 (v:=.slice av S.bM.length cap) hT.has.last (by simp [results,results59,go_sem]) ⟨_,⟨_,gl,iE,iN,jK,rfl,hr1,hi1,rfl⟩,T4.dropLast⟩
 case hstop=>intro s cd H O W D h;exact h.elim
end
end
section
open Go.RowKit Go.Shelf
attribute [local go_sem] XG
theorem Zi {w:Wk} {z:ZF} (h:w.may z=true):w.done=false:=by
 cases w with
 | call s k =>
   have:(!s.isNil)=true:=h
   show s.isNil=false
   cases hs:s.isNil
   ·rfl
   ·rw [hs] at this;cases this
 | turn s k =>
   cases s with
   | nil=>cases h
   | _=>rfl
 | dL s k =>
   cases s with
   | nil=>cases h
   | _=>rfl
theorem qqf (w:Wk) (z:ZF):(w.step z).1.isTurn=w.isTurn:=by cases w <;> rfl
theorem q66 (w:Wk) (z:ZF):(w.step z).1.ty=w.ty:=by cases w <;> rfl
section
variable {S:SvS} {N:Nat} {t:Th}
theorem B5 {α:Type} {l:List α} {a b:Nat} {x y:α} (h:(l.set a x)[b]?=some y):(b=a/\y=x)\/(b≠a/\l[b]?=some y):=by
 rw [List.getElem?_set] at h;split at h
 ·next hab =>
  split at h
  ·exact .inl ⟨hab.symm,(YN h).symm⟩
  ·cases h
 ·next hab=>exact .inr ⟨fun e=>hab e.symm,h⟩
theorem QK (hn:dV N S) (ht:t.here S) (hN:N<999998) (hm:t.may S=true):dV (N+1) (t.step S):=by
 cases t with
 | eH a =>
   have hk:=Xj ht;obtain ⟨hjn,hn0,hn1⟩:=hn.fe _ (WN hk);have hm':(S.ah a).w.may S.z=true:=hm;have hnd:=Zi hm';obtain ⟨h1,h2,h3,h4,h5⟩:=LX hn.eY hjn hm' (by omega)
   refine ⟨h1,?_,fun c hc=>(hn.aL c hc).mono (by omega),fun k hk'=>by
    show k<(S.all.set a _).length
    rw [XJ];exact hn.own k hk',hn.ol,hn.cl,by
    show (S.all.set a _).length<=_
    have:=hn.al
    rw [XJ];omega,?_⟩
   ·intro j hj
    obtain ⟨b,hb⟩:=List.mem_iff_getElem?.1 hj;rcases B5 hb with ⟨_,rfl⟩ | ⟨hne,hb⟩
    ·exact ⟨h2,by show 0<=(S.ah a).n+1;omega,by show (S.ah a).n+1<=_;omega⟩
    ·obtain ⟨g1,g2,g3⟩:=hn.fe j (WN hb)
     refine ⟨(g1.mono (M:=N+1) (by omega)).frame h3 (fun hjt=>?_),g2,by omega⟩
     cases hst:(S.ah a).w.isTurn with
     | false=>exact .inl (h4 hst)
     | true =>
       right
       cases hd:j.w.done with
       | true=>rfl
       | false =>
         have e1:=hn.turn a _ hk hst hnd;have e2:=hn.turn b j hb hjt hd;rw [e1] at e2;cases e2
         exact absurd rfl hne
   ·intro b j hb hjt hd
    rcases B5 hb with ⟨rfl,rfl⟩ | ⟨hne,hb⟩
    ·exact hn.turn b _ hk (by rw [<- qqf (S.ah b).w S.z];exact hjt) hnd
    ·exact hn.turn b j hb hjt hd
 | fQ i =>
   have hk:=Jp ht;have hcn:=hn.aL _ (WN hk);obtain ⟨_,h1,h2,h3,h4⟩:=RH hcn hn.eY hN
   refine ⟨h2,fun j hj=>?_,fun c hc=>?_,hn.own,hn.ol,by
    show (S.aL.set i _).length<=_
    rw [XJ];exact hn.cl,by have:=hn.al;show S.all.length<=_;omega,hn.turn⟩
   ·obtain ⟨g1,g2,g3⟩:=hn.fe j hj
    exact ⟨(g1.mono (M:=N+1) (by omega)).frame h3 (fun _=>.inl h4),g2,by omega⟩
   ·rcases List.mem_or_eq_of_mem_set hc with hc | rfl
    ·exact (hn.aL c hc).mono (by omega)
    ·exact h1
theorem Rh {α β:Type} {f:α->β} {l:List α} {a:Nat} {x y:α} (h:l[a]?=some x) (hf:f y=f x):(l.set a y).map f=l.map f:=by
 rw [YR,hf,<- YR];obtain ⟨h1,h2⟩:=WY.1 h;rw [<- h2,List.set_getElem_self]
theorem GG (ht:t.here S):(t.step S).all.map oW=S.all.map oW:=by
 cases t with
 | eH a =>
   refine Rh (Xj ht) ?_
   unfold oW;simp only [q66]
 | fQ i=>rfl
theorem q65 (ht:t.here S):(t.step S).os.map lW=S.os.map lW:=by
 unfold SvS.os;have ho:(t.step S).own=S.own:=by cases t <;> rfl
 rw [ho,YU,YU];refine List.map_congr_left fun o ho=>?_
 cases o with
 | none=>rfl
 | some b =>
   have h1:((t.step S).all.map oW)[b]?=(S.all.map oW)[b]?:=by rw [GG ht]
   have hl:(t.step S).all.length=S.all.length:=by
    have:=congrArg YK (GG ht);simpa using this
   show YD ((t.step S).ah b).w.ty (Qb ((t.step S).ah b).kb)=YD (S.ah b).w.ty (Qb (S.ah b).kb)
   by_cases hb:b<S.all.length
   ·rw [XC,XC,Xj hb,Xj (S:=t.step S) (by omega)] at h1
    exact YN h1
   ·have e1:S.ah b=yc:=by unfold SvS.ah;rw [WT,YG (by omega)];rfl
    have e2:(t.step S).ah b=yc:=by unfold SvS.ah;rw [WT,YG (by omega)];rfl
    rw [e1,e2]
theorem Vj (ht:t.here S):(t.step S).ps=S.ps:=by
 cases t with
 | eH a=>rfl
 | fQ i=>exact Rh (Jp ht) rfl
theorem qze {L:Lay} {sb:Nat} {vo va vc:Value} {go ga gc:List ak} (ht:t.here S) (h:zi L sb S vo va vc go ga gc):zi L sb (t.step S) vo va vc go ga gc:=by
 have h1:=congrArg YK (GG ht);have h2:=congrArg YK (Vj ht);simp only [WZ,SvS.ps] at h1 h2;have ho:(t.step S).own=S.own:=by cases t <;> rfl
 exact ⟨by rw [q65 ht,ho];exact h.o,by rw [GG ht,h1];exact h.a,by rw [Vj ht,h2];exact h.c⟩
end
def SvS.fD (S:SvS) (at_:Int):Option (Nat × Th):=S.iH.find? fun t=>decide ((t.1:Int)=at_) && t.2.may S
def SvS.stepS (S:SvS) (at_:Int):SvS × Int :=
 if at_<0\/(S.own.length:Int)+S.aL.length<=at_ then (S,4)
 else match S.fD at_ with
  | some t=>(t.2.step S,0)
  | none=>(S,7)
theorem UE {α:Type} {p:α->Bool}:∀ {l:List α} {k:Nat} {x:α},l[k]?=some x->(∀ y∈l.take k,p y=false)->p x=true->l.find? p=some x
 | [],_,_,h,_,_=>by cases h
 | a::l,0,x,h,_,hx=>by cases h;exact List.find?_cons_of_pos hx
 | a::l,k+1,x,h,hy,hx=>by
   rw [List.find?_cons_of_neg (by rw [hy a (by simp)];decide)];exact UE (l:=l) (k:=k) h (fun y hy'=>hy y (by rw [List.take_succ_cons];exact XO _ hy')) hx
theorem q62 {N:Nat} {S:SvS} (hn:dV N S) (hN:N<999998) (i:Int):dV (N+1) (S.stepS i).1:=by
 unfold SvS.stepS;split
 ·exact hn.mono (by omega)
 ·split
  ·next t ht =>
   have hp:=List.find?_some ht;have hm:=XW ht;simp only [Bool.and_eq_true] at hp;exact QK hn (Ab hn hm) hN hp.2
  ·exact hn.mono (by omega)
end
section
open Go.RowKit Go.Shelf
attribute [local go_sem] XG
theorem GA {P:YO} {fn:Func} {R:Ending->World->Prop} {tmps:Array Value} {W:World} {v:Value} (hres:(results fn tmps).run P W=.ok v W) (hR:R (WK v) W) :
 bodyPostM Fence.wide 0 P fn R .ret { tmps,defers:=[] } W:=⟨_,hres,hR⟩
theorem QI {a b:Value}:(#[a]:Array Value).setIfInBounds 0 b=#[b]:=rfl
section
variable {L:Lay} {sb:Nat} {S:SvS} {N:Nat}
theorem q7a (hn:dV N S) (hN:N<999998) {vo va vc:Value} {go ga gc gJ gW gZ:List ak} (hr:zi L sb S vo va vc go ga gc) (hi:mr L S gJ gW gZ) (i:Int):Qa prog 117 #[Qb sb,WM WL i] [X0 sb L.fb vo va vc,go,ga,gc,gJ,gW,gZ] fun e gs =>
 ∃ eu gy cu,e=WK (WM WL (S.stepS i).2)/\mr L (S.stepS i).1 eu gy cu/\gs=[X0 sb L.fb vo va vc,go,ga,gc,eu,gy,cu]:=by
 have HI:=Vh (show ∀ bx,_ from fun bx=>Vk hn hr bx);have eg:=enters_of func168 (P:=prog) (by kernel_rfl) rfl;have vZ:=Vh hn;have jf:=Vh hi;obtain ⟨j4,dW,rfl⟩:=Q1.val hr.o;obtain ⟨qY,jr,rfl⟩:=Q1.val hr.c;have hol:=hn.ol;have hcl:=hn.cl;refine GO fun w HT=>?_
 clear hr hi hn;refine Xf func117 rfl ?_
 simp only [ntmps117,XU,XD,XY,Nat.reduceAdd,Nat.reduceSub,XL,XM,XV,XP,XH,XE];go_wp2_with fail
 obtain ⟨ab,hab⟩:∃ ab,w.heap.size=ab:=⟨_,rfl⟩;have HT:=Vh ((HT.alloc (k:=ab) hab.symm 3 #[WM WL i]).alloc (k:=ab+1) (by simp [hab]) 26 #[WM WL 0]);rw [hab];clear hab;generalize YV (YV w _) _=wb at HT |-;obtain ⟨rb,hrb⟩:∃ rb,ab+1=rb:=⟨_,rfl⟩;rw [hrb] at HT |-;clear hrb;obtain ⟨h1,h3⟩:=HT.c2 0 0 1 3;simp only [X0,aC] at h1 h3;have a0:=HT.c 7 0 0;simp only [aT] at a0;have r0:=HT.c 8 0 0;have df:=HT.f 8 0 0;simp only [aT] at r0;have jh:=HT.l 0 0;have nW:=HT.l 8 0;simp only [] at jh nW;have IB:=Vh (show S.stepS i=if i<0\/(S.own.length:Int)+S.aL.length<=i then (S,(4:Int)) else match S.fD i with | some t=>(t.2.step S,0) | none=>(S,7) from rfl);by_cases hi0:i<0
 ·have HS:=Vh (show S.stepS i=(S,4) from IB.out.trans (if_pos (.inl hi0)))
  go_quiet ((fail))
  have HT:=Vh (HT.out.drewN nq);go_wp2
  have T9:=HT.set 8 0 rfl 0 (WM WL 4);have z0:=T9.c 8 0 0;simp only [bR,QI] at z0;refine GA (v:=WM WL 4) (by simp [results,results117,go_sem,z0]) ?_
  have HS2:=HS.out;rw [HS2]
  first | exact ⟨_,⟨gJ,gW,gZ,rfl,jf,rfl⟩,T9.p [0,1,2,3,4,5,6]⟩ | exact ⟨_,⟨rfl,gJ,gW,gZ,jf,rfl⟩,T9.p [0,1,2,3,4,5,6]⟩
 ·by_cases hi1:(S.own.length:Int)+S.aL.length<=i
  ·have HS:=Vh (show S.stepS i=(S,4) from IB.out.trans (if_pos (.inr hi1)))
   go_quiet ((fail))
   have HT:=Vh (HT.out.drewN nq);go_wp2
   have T9:=HT.set 8 0 rfl 0 (WM WL 4);have z0:=T9.c 8 0 0;simp only [bR,QI] at z0;refine GA (v:=WM WL 4) (by simp [results,results117,go_sem,z0]) ?_
   have HS2:=HS.out;rw [HS2]
   first | exact ⟨_,⟨gJ,gW,gZ,rfl,jf,rfl⟩,T9.p [0,1,2,3,4,5,6]⟩ | exact ⟨_,⟨rfl,gJ,gW,gZ,jf,rfl⟩,T9.p [0,1,2,3,4,5,6]⟩
  ·have HS:=Vh (show S.stepS i=match S.fD i with | some t=>(t.2.step S,0) | none=>(S,7) from IB.out.trans (if_neg (by omega)))
   go_quiet ((fail))
   have HT:=Vh (HT.out.drewN nq);clear h1 h3 a0 r0 df hi0 hi1;go_wp2_with fail
   refine Qa.run (SN sb) (HT) [] ?_
   rintro e w1 gs ⟨bx,rfl,rfl⟩ HT;simp only [PU] at HT;obtain ⟨hd,hhd⟩:∃ hd,X0 sb L.fb (.slice j4 S.own.length dW) va (.slice qY S.aL.length jr)=hd:=⟨_,rfl⟩;obtain ⟨vo,hvo⟩:∃ vo,Value.slice j4 S.own.length dW=vo:=⟨_,rfl⟩;have T0:=HT.re (H':=[X0 sb L.fb (.slice j4 S.own.length dW) va (.slice qY S.aL.length jr),go,ga,gc,gJ,gW,gZ,[cl ab 3 #[WM WL i]],[cl rb 26 #[WM WL 0]]]++[[cl bx 102 #[Qb sb]]]) (by simp);rw [hhd] at HI T0;clear hvo;go_wp2_with fail
   refine Bt (H0:=[hd,go,ga,gc,gJ,gW,gZ,[cl ab 3 #[WM WL i]],[cl rb 26 #[WM WL 0]]]) (O0:=[[cl bx 102 #[Qb sb]]]) rfl eg (HI bx) ?hps T0 ?hO
    (fun (k:Nat) H=>∃ iE iN jK,H=[hd,go,ga,gc,iE,iN,jK,[cl ab 3 #[WM WL i]],[cl rb 26 #[WM WL 0]]]/\mr L S iE iN jK/\∀ t∈S.iH.take k,(decide ((t.1:Int)=i) && t.2.may S)=false)
    (fun _ cd H=>cd=.ret/\∃ t iE iN jK,S.fD i=some t/\H=[hd,go,ga,gc,iE,iN,jK,[cl ab 3 #[WM WL i]],[cl rb 26 #[WM WL 0]]]/\mr L (t.2.step S) iE iN jK) ?h0 ?hT ?hbody ?hdone ?hstop
   case hps =>
    rintro s x G s' ⟨hx,_⟩;obtain ⟨t,_,rfl⟩:=YQ.1 (WN hx);rfl
   case hO=>exact rfl
   case h0=>exact ⟨gJ,gW,gZ,rfl,jf,fun t ht=>by cases ht⟩
   case hT=>rintro s H K ⟨iE,iN,jK,rfl,_⟩;exact ⟨0,1,3,rfl,rfl,rfl,by simp,by simp,by simp⟩
   case hbody =>
    rintro (k:Nat) x G (k':Nat) H W ly ⟨iE,iN,jK,rfl,hi1,hno⟩ ⟨hx,rfl,rfl⟩ hH;rw [XC] at hx
    obtain ⟨t,ht,rfl⟩:∃ t,S.iH[k]?=some t/\uS S t=x:=by
     cases h:S.iH[k]? with
     | none=>rw [h] at hx;cases hx
     | some t=>rw [h] at hx;exact ⟨t,rfl,by cases hx;rfl⟩
    have wS:=fun hm=>zan vZ (Ab vZ (WN ht)) hi1.j hi1.w hi1.z hN hm
    have wR:=fun hm=>NI vZ (Ab vZ (WN ht)) hi1.j hi1.w hi1.z hN hm
    have Oq:=Vh ht;have o5:=Vh hno;have HI1:=Vh hi1;obtain ⟨nt,t⟩:=t;simp only at wS wR;have hinv:=q3h S t;have nO:=q3g S t;obtain ⟨H9,hty⟩:∃ y,t.ty S=y:=⟨_,rfl⟩;obtain ⟨fV,jA⟩:∃ y,t.fI S=y:=⟨_,rfl⟩;obtain ⟨bV,hbv⟩:∃ y,t.b S=y:=⟨_,rfl⟩;unfold uS;simp only;rw [hty,jA] at hinv;rw [jA] at nO;rw [hty,hbv];rw [jA,hbv] at wS wR;have ID:=Vh wS;have IC:=Vh wR;have HH:=Vh hH
    have dZ:=Vh (show ∀ b,(decide ((nt:Int)=i) && t.may S)=b->b=false->∀ u∈S.iH.take (k+1),(decide ((u.1:Int)=i) && u.2.may S)=false from fun b h1 h2 u hu=>by
     obtain ⟨h3,h4⟩:=WY.1 Oq;rw [XA h3,h4] at hu;rcases YM.1 hu with hu | hu
     ·exact o5 u hu
     ·obtain rfl:u=(nt,t):=by simpa using hu
      exact h1.trans h2)
    clear hH hi1 ht hx wS wR hno hty jA hbv;refine Xq (n:=9) ?_
    gi_wp2
    refine ⟨_,TG.refl HH,fun Wb hb=>?_⟩
    have HT:=Vh (TG.refl hb);have a0:=HT.c 7 0 0;have r0:=HT.c 8 0 0;have df:=HT.f 8 0 0;have nW:=HT.l 8 0;simp only [bR] at a0 r0 nW;clear hb HH;refine Xq (n:=9) ?_
    by_cases hit:(nt:Int)=i
    ·have hb1:((nt:Int) == i)=true:=by simpa using hit
     cases hm:t.may S with
     | true =>
       have HST:=Vh (ID.out hm);have Ow:=Vh (show S.fD i=some (nt,t) from UE Oq o5 (by simp [hit,hm]));clear hm;gi_wp2
       refine ⟨trivial,(Yl (Qa.use HST HT [4,5,6] rfl rfl)).mono ?_⟩
       rintro e W1 ⟨gs,⟨ko,l5,sU,rfl,hj2,hw2,hz2,rfl⟩,Ta⟩;simp only [je,XQ,XR,WQ] at Ta;have HI2:=Vh (show mr L (t.step S) ko l5 sU from ⟨hj2,hw2,hz2⟩);have dm:=Ta.f 8 0 0;have nU:=Ta.l 8 0;have r1:=Ta.c 8 0 0;simp only [bR] at r1 nU;have HT:=Vh Ta;clear Ta hj2 hw2 hz2 hinv nO a0 r0 df nW;gi_wp2
       exact ⟨_,⟨rfl,(nt,t),ko,l5,sU,Ow,rfl,HI2⟩,(HT.set 8 0 rfl 0 (WM WL 0)).eq (by rfl)⟩
     | false =>
       have HST:=Vh (IC.out hm);have hb2:(decide ((nt:Int)=i) && t.may S)=false:=by rw [hm,Bool.and_false]
       have yK:=Vh (dZ.out _ hb2 rfl);clear hb2 hm;gi_wp2
       refine ⟨trivial,(Yl (Qa.use HST HT [4,5,6] rfl rfl)).mono ?_⟩
       rintro e W1 ⟨gs,⟨ko,l5,sU,rfl,hj2,hw2,hz2,rfl⟩,Ta⟩;simp only [je,XQ,XR,WQ] at Ta;have HI2:=Vh (show mr L S ko l5 sU from ⟨hj2,hw2,hz2⟩);have HT:=Vh Ta;clear Ta hj2 hw2 hz2 hinv nO a0 r0 df nW;gi_wp2
       exact ⟨_,⟨ko,l5,sU,rfl,HI2,yK⟩,HT⟩
    ·have hb1:((nt:Int) == i)=false:=by simpa using hit
     have hb2:(decide ((nt:Int)=i) && t.may S)=false:=by rw [decide_eq_false hit];rfl
     have yK:=Vh (dZ.out _ hb2 rfl);clear hb2;gi_wp2
     all_goals (refine ⟨fun _ _=>trivial,?_⟩)
     all_goals
      gi_wp2
      exact ⟨_,⟨iE,iN,jK,rfl,HI1,yK⟩,HT⟩
   case hdone =>
    rintro (k:Nat) H O' W D hf' ⟨iE,iN,jK,rfl,hi1,hno⟩ hO hT
    have hf2:k=S.iH.length:=by
     have:k=(S.iH.map (uS S)).length:=hf';rwa [WZ] at this
    subst hf2;rw [XX] at hno
    have HS2:=Vh (show S.stepS i=(S,7) from HS.out.trans (by
     have:S.fD i=none:=List.find?_eq_none.2 fun t ht=>by rw [hno t ht];decide
     rw [this]))
    have l8:O'=[[cl bx 102 #[Qb sb]]]:=hO;subst l8;have dm:=hT.f 8 0 0;have nU:=hT.l 8 0;have r1:=hT.c 8 0 0;simp only [bR] at r1 nU;have HX:=Vh (YJ hi1 hT);clear hf' hi1 hno hT hO;go_wp2
    obtain ⟨hi1,hT⟩:=HX.out;have T2:=(hT.set 8 0 rfl 0 (WM WL 7)).eq (H':=[hd,go,ga,gc,iE,iN,jK,[cl ab 3 #[WM WL i]],[cl rb 26 #[WM WL 7]]]++[[cl bx 102 #[Qb sb]]]++[[(D,.deferred (some []))]]) rfl;have T3:=T2.bY (.deferred none);have z0:=T3.c 8 0 0;simp only [bR] at z0;subst hhd
    have T4:TG [X0 sb L.fb (.slice j4 S.own.length dW) va (.slice qY S.aL.length jr),go,ga,gc,gJ,gW,gZ] w ([X0 sb L.fb (.slice j4 S.own.length dW) va (.slice qY S.aL.length jr),go,ga,gc,iE,iN,jK]++[[cl ab 3 #[WM WL i],cl rb 26 #[WM WL 7],cl bx 102 #[Qb sb],(D,.deferred none)]]) _:=T3.re (by
     classical
     simp only [WV,WS,WU,WQ,XE,XH];refine WO.2 fun a=>?_
     simp only [WR,YA,YF]
     try omega)
    exact Z5 (v:=WM WL 7) T2.has.last (by simp [results,results117,go_sem,z0]) ⟨_,⟨iE,iN,jK,by rw [HS2.out],by rw [HS2.out];exact hi1,rfl⟩,T4.dropLast⟩
   case hstop =>
    rintro (s:Nat) cd H O W D ⟨rfl,t,iE,iN,jK,hpk,rfl,hi1⟩ hT;have HS2:=Vh (show S.stepS i=(t.2.step S,0) from HS.out.trans (by rw [hpk]));have HX:=Vh (YJ hi1 hT);clear hpk hi1 hT;go_wp2
    obtain ⟨hi1,hT⟩:=HX.out;have T3:=hT.bY (.deferred none);have z0:=T3.c 8 0 0;simp only [bR] at z0;subst hhd
    have T4:TG [X0 sb L.fb (.slice j4 S.own.length dW) va (.slice qY S.aL.length jr),go,ga,gc,gJ,gW,gZ] w ([X0 sb L.fb (.slice j4 S.own.length dW) va (.slice qY S.aL.length jr),go,ga,gc,iE,iN,jK]++[O.flatten++[cl ab 3 #[WM WL i],cl rb 26 #[WM WL 0],(D,.deferred none)]]) _:=T3.re (by
     classical
     simp only [WV,WS,WU,WQ,XE,XH];refine WO.2 fun a=>?_
     simp only [WR,YA,YF]
     omega)
    exact Z5 (v:=WM WL 0) hT.has.last (by simp [results,results117,go_sem,z0]) ⟨_,⟨iE,iN,jK,by rw [HS2.out],by rw [HS2.out];exact hi1,rfl⟩,T4.dropLast⟩
end
end
section
open Go.RowKit Go.Shelf
theorem PX (a b c d e f g:List ak):([a,b,c,d,e,f,g]:GH).flatten=([a++(b++(c++(d++(e++(f++g)))))]:GH).flatten:=by simp
section
variable {L:Lay} {sb:Nat} {S:SvS} {N:Nat} {g:List ak}
theorem zb3 (h:kW L sb S g) (hn:dV N S) (hN:N<999998):Qa prog 59 #[Qb sb] [g] fun e gs =>
 ∃ v gl g',e=WK v/\Q1 3 1 v S.bM.length (vP S.bM) gl/\kW L sb S g'/\gs=[g',gl]:=by
 obtain ⟨vo,va,vc,go,ga,gc,gJ,gW,gZ,hr,hi,rfl⟩:=h;refine ((zaf hn hN hr hi).pre (PX _ _ _ _ _ _ _)).post ?_
 rintro e gs ⟨v,gl,eu,gy,cu,rfl,h1,h2,rfl⟩;exact ⟨_,⟨v,gl,_,rfl,h1,⟨vo,va,vc,go,ga,gc,eu,gy,cu,hr,h2,rfl⟩,rfl⟩,by simp⟩
theorem qu4 {vo va vc:Value} {go ga gc:List ak} (hn:dV N S) (hr:zi L sb S vo va vc go ga gc) (i:Int):zi L sb (S.stepS i).1 vo va vc go ga gc:=by
 unfold SvS.stepS;split
 ·exact hr
 ·split
  ·next t ht=>exact qze (Ab hn (XW ht)) hr
  ·exact hr
theorem zag (h:kW L sb S g) (hn:dV N S) (hN:N<999998) (i:Int):Qa prog 117 #[Qb sb,WM WL i] [g] fun e gs =>
 ∃ g',e=WK (WM WL (S.stepS i).2)/\kW L sb (S.stepS i).1 g'/\gs=[g']:=by
 obtain ⟨vo,va,vc,go,ga,gc,gJ,gW,gZ,hr,hi,rfl⟩:=h;refine ((q7a hn hN hr hi i).pre (PX _ _ _ _ _ _ _)).post ?_
 rintro e gs ⟨eu,gy,cu,rfl,h2,rfl⟩;exact ⟨_,⟨_,rfl,⟨vo,va,vc,go,ga,gc,eu,gy,cu,qu4 hn hr i,h2,rfl⟩,rfl⟩,by simp⟩
end
end
section
open Go.RowKit Go.Shelf
attribute [local go_sem] XG
end
section
open Go.RowKit Go.Shelf
section
variable {L:Lay} {sb:Nat} {S:SvS} {N:Nat} {g gJ:List ak}
theorem qtr (hn:dV N S) (hN:N<999998) (hj:Jb L S.all gJ) {a:Nat} {j:J2} (hk:S.all[a]?=some j):Qa prog j.w.ib #[Qb j.kb] [gJ] fun e gs =>
 ∃ v gv eu,e=WK (WW #[.agg (j.w.ans.cells v),WM WL j.w.ans.code])/\Q1 36 1 v j.w.ans.left.length (kv j.w.ans.left) gv/\Jb L S.all eu/\gs=[eu,gv]:=by
 refine (xm (rest:=[]) (R:=fun e a' bT=>a'=j/\∃ v gv,e=WK (WW #[.agg (j.w.ans.cells v),WM WL j.w.ans.code])/\Q1 36 1 v j.w.ans.left.length (kv j.w.ans.left) gv/\bT=[gv]) hj hk (fun ga hga=>(qxe (z:=S.z) hga (hn.fe _ (WN hk)).1 (by omega)).mono ?_)).mono ?_
 ·rintro e gs ⟨v,gv,h1,h2,rfl⟩
  exact ⟨j,ga,[gv],⟨rfl,v,gv,h1,h2,rfl⟩,hga,rfl⟩
 ·rintro e gs ⟨a',g',bT,⟨rfl,v,gv,h1,h2,rfl⟩,h3,rfl⟩
  rw [q9 hk] at h3;exact ⟨v,gv,g',h1,h2,h3,rfl⟩
theorem qz9 (w:Wk) (b:Nat) (W:World):(method 523 w.ty (Qb b) "Answer").run prog W=.ok (w.ib,Qb b) W:=by cases w <;> kernel_rfl
theorem qz7 (w:Wk) (args:Array Value) (W:World):(YH w.ib args).run prog W=.ok (.enter w.ib args) W:=by cases w <;> kernel_rfl
def xc:uK:=⟨0,false,0,0,[],6⟩
def SvS.dh (S:SvS) (no:Int):uK:=if no<1\/(S.all.length:Int)<no then xc else (S.ah (no - 1).toNat).w.ans
theorem q68 (h:kW L sb S g):Qa prog 60 #[Qb sb] [g] fun e gs=>e=WK (Qb L.fb)/\gs=[g]:=by
 obtain ⟨vo,va,vc,go,ga,gc,gJ,gW,gZ,hr,hi,rfl⟩:=h;obtain ⟨sJ,jG,rfl⟩:=Q1.val hr.a;refine GO fun w HT=>?_
 have HT:=Vh (HT.out.m [X0 sb L.fb vo (.slice sJ S.all.length jG) vc,go,ga,gc,gJ,gW,gZ]);obtain ⟨sv0,jS,mX,mY⟩:=HT.c4 0 0 0 1 2 3;simp only [X0,aC] at sv0 jS mX mY;have jh:=HT.l 0 0;simp only [] at jh;have HR:=Vh hr;have jf:=Vh hi;clear hr hi;go_enter func60,ntmps60
 go_wp2
 go_ret
 exact ⟨_,⟨rfl,rfl⟩,HT.sum⟩
theorem zb2 (h:kW L sb S g) (hn:dV N S) (hN:N<999998):Qa prog 116 #[Qb sb] [g] fun e gs=>∃ v gv g',e=WK v/\Q1 63 4 v S.z.lg.length (fires S.z.lg) gv/\kW L sb S g'/\gs=[g',gv]:=by
 have HF:=Vh (q68 h);have Kn:=hn.eY.zn.lg;obtain ⟨vo,va,vc,go,ga,gc,gJ,gW,gZ,hr,hi,rfl⟩:=h;obtain ⟨gC,JZ,gP,gL,h1,h2,h3,h4,rfl⟩:=Z1 hi.z;have HR:=Vh hr;have jf:=Vh hi;have HX:=Vh h1;have HLA:=Vh (q2e h4 (by omega));refine GO fun w HT=>?_
 clear hr hi h1 h2 h3 h4 hn Kn;go_enter func116,ntmps116
 go_wp2_with fail
 refine Qa.run HF HT [0] ?_
 rintro e w1 gs ⟨rfl,rfl⟩ HT;simp only [PU] at HT;have HT:=Vh (HT.out.sum (H':=[X0 sb L.fb vo va vc++(go++(ga++(gc++(gJ++gW)))),gC,JZ++gP,gL]));go_wp2_with fail
 refine Qe.run (Sy HX) HT [1] ?_
 rintro e wq rfl HT;go_wp2_with fail
 refine Qa.run HLA HT [3] ?_
 rintro e w1 gs ⟨v,gv,rfl,hv,rfl⟩ HT;simp only [PU] at HT;obtain ⟨av,cap,rfl⟩:=Q1.val hv;have HV:=Vh hv;clear hv;go_wp2
 go_ret
 exact ⟨_,⟨_,gv,_,rfl,HV,⟨vo,va,vc,go,ga,gc,gJ,gW,_,HR,jf,rfl⟩,rfl⟩,HT.sum⟩
theorem UD {no:Int} {g':List ak} {w w':World} (hA:S.dh no=xc) (h:kW L sb S g') (T:TG [g] w [g',[]] w') :
 ∃ gs',(∃ v gv g',WK (WW #[.agg (xc.cells (.slice none 0 0)),WM WL 6])=WK (WW #[.agg ((S.dh no).cells v),WM WL (S.dh no).code])/\Q1 36 1 v (S.dh no).left.length (kv (S.dh no).left) gv/\kW L sb S g'/\gs'=[g',gv])/\TG [g] w gs' w':=by
 rw [hA];exact ⟨_,⟨_,[],g',rfl,X5 _ _,h,rfl⟩,T⟩
theorem q28 (h:kW L sb S g) (hn:dV N S) (hN:N<999998) (no:Int):Qa prog 58 #[Qb sb,WM WL no] [g] fun e gs =>
 ∃ v gv g',e=WK (WW #[.agg ((S.dh no).cells v),WM WL (S.dh no).code])/\Q1 36 1 v (S.dh no).left.length (kv (S.dh no).left) gv/\kW L sb S g'/\gs=[g',gv]:=by
 obtain ⟨vo,va,vc,go,ga,gc,gJ,gW,gZ,hr,hi,rfl⟩:=h;obtain ⟨sJ,jG,rfl⟩:=Q1.val hr.a;refine GO fun w HT=>?_
 have HT:=Vh (HT.out.m [X0 sb L.fb vo (.slice sJ S.all.length jG) vc,go,ga,gc,gJ,gW,gZ]);obtain ⟨sv0,jS,mX,mY⟩:=HT.c4 0 0 0 1 2 3;simp only [X0,aC] at sv0 jS mX mY;have jh:=HT.l 0 0;simp only [] at jh;have HR:=Vh hr;have jf:=Vh hi;have hal:=hn.al;by_cases h0:no<1
 ·have HA:=Vh (show S.dh no=xc from if_pos (.inl h0))
  clear hr hi;go_enter func58,ntmps58
  go_wp2_with fail
  have HT2:=Vh (HT.out.a 51 #[WM WL 0,.bool false,WM XB 0,WM XB 0,.slice none 0 0]);obtain ⟨r0,r1,r2,r3,r4⟩:=HT2.c5 7 0 0 1 2 3 4;simp only [aT] at r0 r1 r2 r3 r4
  exact XN (v:=WW #[.agg (xc.cells (.slice none 0 0)),WM WL 6]) (by simp [results,results58,go_sem,r0,r1,r2,r3,r4,uK.cells,xc]) rfl (by
   have hp:=UD (S:=S) HA (⟨vo,_,vc,go,ga,gc,gJ,gW,gZ,HR,jf,rfl⟩:kW L sb S _) ((HT2.p [0,1,2,3,4,5,6]).sum)
   first | exact hp | (simp only [exists_and_left,exists_and_right,and_assoc] at hp |-;exact hp))
 ·by_cases h1:(S.all.length:Int)<no
  ·have HA:=Vh (show S.dh no=xc from if_pos (.inr h1))
   clear hr hi;go_enter func58,ntmps58
   go_wp2_with fail
   have HT2:=Vh (HT.out.a 51 #[WM WL 0,.bool false,WM XB 0,WM XB 0,.slice none 0 0]);obtain ⟨r0,r1,r2,r3,r4⟩:=HT2.c5 7 0 0 1 2 3 4;simp only [aT] at r0 r1 r2 r3 r4
   exact XN (v:=WW #[.agg (xc.cells (.slice none 0 0)),WM WL 6]) (by simp [results,results58,go_sem,r0,r1,r2,r3,r4,uK.cells,xc]) rfl (by
    have hp:=UD (S:=S) HA (⟨vo,_,vc,go,ga,gc,gJ,gW,gZ,HR,jf,rfl⟩:kW L sb S _) ((HT2.p [0,1,2,3,4,5,6]).sum)
    first | exact hp | (simp only [exists_and_left,exists_and_right,and_assoc] at hp |-;exact hp))
  ·have HA:=Vh (show S.dh no=(S.ah (no - 1).toNat).w.ans from if_neg (by omega))
   have hk:=Xj (S:=S) (a:=(no - 1).toNat) (by omega);obtain ⟨k,hkn⟩:∃ k:Nat,no=(k:Int)+1:=⟨(no - 1).toNat,by omega⟩;subst hkn;have e1:((k:Int)+1 - 1).toNat=k:=by omega
   rw [e1] at hk HA;have FF:=Vh (qtr hn hN hi.j hk);obtain ⟨rb,cp,hv,hcell⟩:=xu hr.a HT 2 rfl (by simp) (k:=k) (x:=oW (S.ah k)) (by rw [XC,hk];rfl);obtain ⟨rfl,rfl⟩:sJ=some ⟨rb,0,none⟩/\jG=cp:=by cases hv;exact ⟨rfl,rfl⟩
   have hkl:k<S.all.length:=by omega
   have bI:rb<w.heap.size:=by
    obtain ⟨b',c',cur,hv',hg',_⟩:=hr.a.open (by omega);cases hv'
    have:=HT.lt 2 0 (p:=(rb,.cells cur 205)) (by show ga[0]?=_;rw [hg'];rfl);exact this
   have q1:((k:Int)+1<1)=False:=eq_false (by omega);have q2:((S.all.length:Int)<(k:Int)+1)=False:=eq_false (by omega);have hmt:=qz9 (S.ah k).w;have hcl:=qz7 (S.ah k).w;unfold oW at hcell;obtain ⟨A,hA⟩:∃ A,(S.ah k).w.ans=A:=⟨_,rfl⟩;obtain ⟨H9,hty⟩:∃ y,(S.ah k).w.ty=y:=⟨_,rfl⟩;obtain ⟨fV,jA⟩:∃ y,(S.ah k).w.ib=y:=⟨_,rfl⟩;obtain ⟨bV,hbv⟩:∃ y,(S.ah k).kb=y:=⟨_,rfl⟩;rw [hA] at HA FF;rw [hty,jA] at hmt;rw [jA] at hcl;rw [hty,hbv] at hcell;rw [jA,hbv] at FF;clear hr hi hv hk hA hty jA hbv hn h0 h1;go_enter func58,ntmps58
   simp only [uK.cells] at FF;go_wp2_with fail
   have HT2:=Vh (HT.out.a 51 #[WM WL 0,.bool false,WM XB 0,WM XB 0,.slice none 0 0]);obtain ⟨ab,hab⟩:∃ ab,w.heap.size=ab:=⟨_,rfl⟩;rw [hab] at HT2;rw [hab];clear HT;have HT:=HT2;go_wp2_with fail
   refine Qa.run FF HT [4] ?_
   rintro e w1 gs ⟨v,gv,ko,rfl,hv2,hj2,rfl⟩ HT;simp only [PU] at HT;obtain ⟨CW,cap2,rfl⟩:=Q1.val hv2;have HV:=Vh hv2;have HI2:=Vh (show mr L S ko gW gZ from ⟨hj2,jf.w,jf.z⟩);clear hv2 hj2 bI hcell;obtain ⟨r0,r1,r2,r3,r4⟩:=HT.c5 7 0 0 1 2 3 4;obtain ⟨df,dm,yR,yS,FP⟩:=HT.f5 7 0 0 1 2 3 4;simp only [aT] at r0 r1 r2 r3 r4;have nW:=HT.l 7 0;simp only [] at nW;go_wp2
   exact XN (v:=WW #[.agg (A.cells (.slice CW A.left.length cap2)),WM WL A.code]) (by simp [results,results58,go_sem,r0,r1,r2,r3,r4,uK.cells]) rfl ⟨_,⟨_,gv,_,by rw [HA.out],by rw [HA.out];exact HV,⟨vo,_,vc,go,ga,gc,ko,gW,gZ,HR,HI2,rfl⟩,rfl⟩,((((((HT.set 7 0 rfl 0 _).set 7 0 rfl 1 _).set 7 0 rfl 2 _).set 7 0 rfl 3 _).set 7 0 rfl 4 _).p [0,1,2,3,4,5,6,8]).sum⟩
end
end
end Go.Proofs.YtcneeepdclgdcaaGreat
