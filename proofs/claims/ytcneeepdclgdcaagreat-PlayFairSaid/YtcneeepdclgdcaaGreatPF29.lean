import Derived.Test.YtcneeepdclgdcaaGreatPF23
import Derived.Test.YtcneeepdclgdcaaGreatPF27
import Derived.Test.YtcneeepdclgdcaaGreatPF28
import Derived.Test.YtcneeepdclgdcaaGreatPF24
import Derived.Test.YtcneeepdclgdcaaGreatPF17
set_option maxRecDepth 100000
set_option maxHeartbeats 4000000
namespace Go.Proofs.YtcneeepdclgdcaaGreat
open Go.Value renaming nilFunc->WK,int->WL,func->WM,tuple->WW,pointer->XC
open Go.IntKind renaming i64->WN,u64->WQ
open Go.Fn renaming func->WO
open Go renaming bodyPost_ret->WR,wpQuiet_nil->WX,FuncId->WZ,Ending->XI
open Go.Ending renaming returned->WS
open _root_.List renaming mem_append_left->WT,mem_append_right->WU,mem_of_getElem?->WY,getElem?_append_right->XA,getD_eq_getElem?_getD->XB,getElem?_append_left->XD,getElem?_eq_some_iff->XE,getElem?_eq_getElem->XG,length_set->XJ
open Go.World renaming alloc->WV,drew->XF,setCell->XK
open _root_.And renaming intro->XH
set_option linter.all false
open Go.Proofs.Tryz
section
open Go.RowKit Go.Shelf
structure Xd where
 th:Int
 no:Int
 err:Int
 ok:Bool
 now:Int
 s:Option Nat
 t:Qn
 aA:Int
 nd:Nat
 due:List Qn
inductive MT where
 | enter | gate | tick | ae (i:Nat) | dI (d:Nat) | bX (d:Nat) | af (d:Nat) | aM (d:Nat) | ay | bK (n:Int) | ax (n:Int)
 | bz | aH | aD (d:Nat) (i:Nat) | looks | bE | bB | behind | aV (next:Int) | aS
inductive AT where
 | leave1 | answer | bH (d:Nat) | unlock | put (f:Xm) | rel | drop
inductive YT where
 | lock | ready (i:Nat)
abbrev ST:Type:=St MT AT YT
structure ZT where
 k:Xd
 x:Qi
 ws:List Qg
 p:Qz
def lq (k:Xd) (E:EvS):EvS:={ E with thread:=k.th,call:=k.no,what:=7 }
def ZT.note (E:EvS) (z:ZT):ZT:={ z with x:={ z.x with tr:=z.x.tr++[lq z.k E] } }
def BI:ST:=.aP .leave1 .answer
def Yr (e:Int) (z:ZT):ST × ZT:=(BI,{ (z.note { bO with kind:=9,err:=e }) with k:={ z.k with err:=e,ok:=false } })
def Q7 (i:Nat) (z:ZT):ST × ZT :=
 if i<z.x.au.length then (.thn (.at (some .lock) (.dI z.k.nd)) (.ae i),{ z with k:={ z.k with s:=some i,nd:=z.k.nd+1,due:=[] } })
 else (BI,{ z with k:={ z.k with err:=0,ok:=true } })
def ZT.sh (z:ZT):Nat:=z.k.s.getD 0
def ZT.aU (z:ZT):Qs:=z.x.au.getD z.sh (Qp 1)
def ZT.wh (z:ZT):Qg:=z.ws.getD z.sh ⟨0,[],[]⟩
def ZT.cZ (z:ZT) (s:Qs):ZT:={ z with x:={ z.x with au:=z.x.au.set z.sh s } }
def Q2 (n:Int) (z:ZT):ST:=if n<=0 then .nil else .at (some (.ready z.sh)) (.bK n)
def Qv (z:ZT):ST:=if z.k.t.slot<0 then .nil else .at none .bz
def Qm (d i:Nat) (z:ZT):ST × ZT :=
 match z.k.due[i]? with
 | none=>(.nil,z)
 | some t=>(.thn (.at none .looks) (.aD d i),{ z with k:={ z.k with t:=t } })
def Qr (st:Int) (z:ZT):ZT × Bool :=
 ({ z with k:={ z.k with aA:=z.x.aa.word z.k.t.slot } },bA (z.x.aa.word z.k.t.slot) == st && X7 (z.x.aa.word z.k.t.slot) == z.k.t.gen && z.x.aa.mine z.k.t.id)
def Qk (ev:Int) (z:ZT):ZT × Bool :=
 ({ z with x:={ z.x with aa:=(z.x.aa.try z.k.t.slot z.k.aA ev).1 } },(z.x.aa.try z.k.t.slot z.k.aA ev).2.2 == 0)
def jk (z:ZT):ZT :=
 ({ z with ws:=z.ws.set z.sh (z.wh.place (mQ z.wh z.k.t)) }:ZT).note { bO with kind:=4,id:=z.k.t.id,gen:=z.k.t.gen,dl:=j3 z.wh z.k.t }
def J1 (d:Nat) (z:ZT):ST × ZT:=(.thn (.ai (.bH d)) (.aM d),z)
def runT:MT->ZT->ST × ZT
 | .enter,z=>(.at none .gate,{ z with x:={ z.x with f:={ z.x.f with inside:=z.x.f.inside+1 } } })
 | .gate,z=>if z.x.f.closed=true then Yr 3 z else (.at none .tick,z)
 | .tick,z=>Q7 0 (({ z with x:={ z.x with f:={ z.x.f with now:=z.x.f.now+1 } },k:={ z.k with now:=z.x.f.now+1 } }:ZT).note { bO with kind:=11,tick:=z.x.f.now+1 })
 | .ae i,z=>Q7 (i+1) z
 | .dI d,z=>(.at none (.bX d),z.cZ { z.aU with who:=ow z.aU.who z.k.th,turns:=nC z.aU.who z.aU.turns })
 | .bX d,z=>if z.aU.ring.tail - z.aU.ring.head<=0 then J1 d z else (.thn (Q2 (z.aU.ring.tail - z.aU.ring.head) z) (.af d),z)
 | .af d,z=>J1 d z
 | .aM d,z=>match z.k.due[0]? with
   | none=>(.ai .unlock,z)
   | some _=>(.thn (Qm d 0 z).1 .ay,(Qm d 0 z).2)
 | .ay,z=>(.ai .unlock,z)
 | .bK n,z =>
   let z':ZT:={ (z.cZ { z.aU with ring:=(J4 z.aU.ring).1 }) with k:={ z.k with t:=(J4 z.aU.ring).2.1 } }
   if z'.k.t.slot<0 then (Q2 (n - 1) z',z') else (.thn (.at none .bz) (.ax n),z')
 | .ax n,z=>(Q2 (n - 1) z,z)
 | .bz,z=>if (Qr 2 z).2=true then (.at none .aH,(Qr 2 z).1) else (.nil,(Qr 2 z).1)
 | .aH,z=>if (Qk 3 z).2=true then (.nil,jk (Qk 3 z).1) else (Qv (Qk 3 z).1,(Qk 3 z).1)
 | .aD d i,z=>Qm d (i+1) z
 | .looks,z=>if (Qr 3 z).2=true then (.at none .bE,(Qr 3 z).1) else (.nil,(Qr 3 z).1)
 | .bE,z =>
   if (Qk 4 z).2=true then (.thn (.ai (.put ⟨z.k.t.id,z.k.t.gen,z.k.t.dl,z.k.now⟩)) .bB,(Qk 4 z).1.note { bO with kind:=5,id:=z.k.t.id,gen:=z.k.t.gen,dl:=z.k.t.dl,tick:=z.k.now })
   else (.at none .looks,(Qk 4 z).1)
 | .bB,z=>(.at none .behind,z)
 | .behind,z =>
   let w:=z.x.aa.word z.k.t.slot
   let z':ZT:={ z with k:={ z.k with aA:=w } }
   if bA w≠4\/X7 w≠z.k.t.gen then (.nil,z')
   else if 0<z.k.t.per/\Xk w=false/\z.k.t.dl+z.k.t.per<18446744073709551616 then (.at none (.aV (z.k.t.dl+z.k.t.per)),z')
   else (.at none .aS,z')
 | .aV next,z =>
   if (Qk 5 z).2=true then (.nil,jk { (Qk 5 z).1 with k:={ z.k with t:={ z.k.t with gen:=z.k.t.gen+1,dl:=next } } }) else (.at none .behind,(Qk 5 z).1)
 | .aS,z =>
   if (Qk 9 z).2=true then (.aP .rel .drop,if 0<z.k.t.per/\Xk z.k.aA=false then (Qk 9 z).1.note { bO with kind:=14,id:=z.k.t.id,gen:=z.k.t.gen } else (Qk 9 z).1)
   else (.at none .behind,(Qk 9 z).1)
def Q3:AT->ZT->ZT
 | .leave1,z=>{ z with x:={ z.x with f:={ z.x.f with inside:=Z2 z.x.f.inside } } }
 | .answer,z=>z.note { bO with kind:=2,err:=z.k.err }
 | .bH d,z=>{ z with ws:=z.ws.set z.sh z.wh.fO.1,k:={ z.k with due:=z.wh.fO.2.map gI.v } }
 | .unlock,z=>z.cZ { z.aU with who:=0 }
 | .put f,z=>{ z with p:=(z.p.put f).1 }
 | .rel,z=>{ z with x:={ z.x with aa:=(z.x.aa.try z.k.t.slot (z.x.aa.word z.k.t.slot) 10).1 } }
 | .drop,z=>{ z with x:={ z.x with aa:=z.x.aa.drop.1 } }
def rU:YT->ZT->Bool
 | .lock,z=>decide (0<=z.k.th) && (z.aU.who == 0)
 | .ready i,z=>(z.x.au.getD i (Qp 1)).ring.ready
structure Jf (t:Qn):Prop where
 id:0<=t.id/\t.id<18446744073709551616
 gen:0<=t.gen/\t.gen<=4294967296
 dl:0<=t.dl/\t.dl<18446744073709551616
 per:0<=t.per/\t.per<18446744073709551616
structure xy (z:ZT):Prop where
 core:qB z.x
 th:0<=z.k.th
 now:0<=z.x.f.now/\z.x.f.now<=15000000
 aA:0<=z.k.aA/\z.k.aA<18446744073709551616/\okW z.k.aA=true
 t:Jf z.k.t
 due:z.k.due.length<=1000000
 ws:z.ws.length=z.x.au.length
 kE:∀ w∈z.ws,yl w
 sh:∀ i,z.k.s=some i->i<z.x.au.length
 turns:∀ s∈z.x.au,0<=s.turns/\s.turns<=1000000
 pipe:Hu z.p
def lF (z:ZT):Prop:=∃ i,z.k.s=some i
def Bj (d:Nat) (z:ZT):Prop:=z.k.nd=d+1
def MT.fit:MT->ZT->Prop
 | .ae i,z=>i<=64
 | .dI d,z=>lF z/\Bj d z/\z.k.th<=1000000
 | .bX d,z=>lF z/\Bj d z
 | .af d,z=>lF z/\Bj d z
 | .aM d,z=>lF z/\Bj d z
 | .ay,z=>lF z
 | .bK n,z=>lF z/\0<=n/\n<=1000000/\xy (runT (.bK n) z).2
 | .ax n,z=>lF z/\0<=n/\n<=1000000
 | .aH,z=>lF z/\0<=z.k.t.slot
 | .aD d i,z=>lF z/\Bj d z/\i<=1000000
 | .aV next,z=>lF z/\0<=z.k.t.slot/\0<=next/\next<18446744073709551616
 | _,_=>True
def jR (f:MT) (z:ZT):Prop:=xy z/\f.fit z
def vR (a:AT) (z:ZT):Prop:=xy z/\match a with
 | .bH d=>lF z/\Bj d z
 | .unlock=>lF z/\z.aU.who=z.k.th+1/\z.k.th<=1000000
 | _=>True
def Gm (y:YT) (z:ZT):Prop:=xy z/\match y with
 | .lock=>lF z
 | .ready i=>i<z.x.au.length
def Q9 (L:Lay) (k:Xd):Value:=match k.s with
 | none=>XC none
 | some i=>match L.qs[i]? with
   | none=>XC none
   | some q=>Qb q.b
def Xh (fb:Nat) (pv sv:Value) (k:Xd):Array Value:=#[Qb fb,WL WN k.th,WL WN k.no,WL WN k.err,.bool k.ok,WL WQ 0,WL WQ 0,.slice none 0 0,pv,WL WQ k.now,sv,
 WL WQ k.t.id,WL WN k.t.slot,WL WQ k.t.gen,WL WQ k.t.dl,WL WQ k.t.per,WL WQ k.aA]
abbrev Ql (kb fb:Nat) (pv sv:Value) (k:Xd):List ak:=[cl kb 181 (Xh fb pv sv k)]
def xz (ds:List Nat) (k:Xd) (g:List ak):Prop:=ds.length=k.nd/\((k.nd=0/\g=[]) \/
 ∃ m bd v gr,k.nd=m+1/\ds[m]?=some bd/\Q1 40 5 v k.due.length (Ai k.due) gr/\g=[cl bd 354 #[v]]++gr)
def Js (L:Lay) (ws:List Qg) (g:List ak):Prop:=ws.length=L.qs.length/\Yx (fun (z:gY × Qg)=>qg z.1.wb z.2) (L.qs.zip ws) g
abbrev ET:Type:=List ak × List Nat
structure dH (e e':ET):Prop where
 b:∀ x∈e.1,x∈e'.1
 d:∀ (i:Nat) (n:Nat),e.2[i]?=some n->e'.2[i]?=some n
theorem dH.refl (e:ET):dH e e:=⟨fun _ h=>h,fun _ _ h=>h⟩
theorem dH.trans {a b c:ET} (h:dH a b) (k:dH b c):dH a c:=⟨fun x hx=>k.b x (h.b x hx),fun i n hn=>k.d i n (h.d i n hn)⟩
theorem dH.app (e:ET) (l:List ak):dH e (e.1++l,e.2):=⟨fun x h=>WT _ h,fun _ _ h=>h⟩
theorem dH.JD (e:ET) (l:List ak) (d:Nat):dH e (e.1++l,e.2++[d]):=⟨fun x h=>WT _ h,fun i n h=>by rw [XD (XE.1 h).1];exact h⟩
def zf (L:Lay) (kb:Nat) (pv:Value) (e:ET) (z:ZT) (gK gF:List ak):Prop :=
 ∃ gd gC gW gP,xz e.2 z.k gd/\Qf L z.x gC/\Js L z.ws gW/\Z3 L.p.pb z.p gP/\gK=Ql kb L.fb pv (Q9 L z.k) z.k++(gd++e.1)/\gF=gC++(gW++gP)
def gu (kb bk:Nat) (e:ET):Prop:=cl bk 88 #[Qb kb]∈e.1
def kU (kb:Nat) (e:ET) (fn:WZ) (v:Value):Prop:=∃ bk,v=WM (WO fn) #[] #[Qb bk]/\gu kb bk e
def rD (kb:Nat) (e:ET) (fn:WZ) (i:Int) (v:Value):Prop:=∃ bk bi,v=WM (WO fn) #[] #[Qb bk,Qb bi]/\gu kb bk e/\cl bi 3 #[WL WN i]∈e.1
def oN (kb:Nat) (e:ET) (fn:WZ) (d:Nat) (v:Value):Prop:=∃ bk bd,v=WM (WO fn) #[] #[Qb bk,Qb bd]/\gu kb bk e/\e.2[d]?=some bd
def CS (kb:Nat) (e:ET) (f:MT) (v:Value) (g:List ak):Prop:=g=[]/\match f with
 | .enter=>v=WM (WO 104) #[Qb kb] #[]
 | .gate=>v=WM (WO 154) #[Qb kb] #[]
 | .tick=>v=WM (WO 191) #[Qb kb] #[]
 | .ae i=>rD kb e 265 i v
 | .dI d=>oN kb e 274 d v
 | .bX d=>oN kb e 276 d v
 | .af d=>oN kb e 278 d v
 | .aM d=>oN kb e 281 d v
 | .ay=>kU kb e 283 v
 | .bK n=>rD kb e 292 n v
 | .ax n=>rD kb e 294 n v
 | .bz=>kU kb e 302 v
 | .aH=>kU kb e 304 v
 | .aD d i=>∃ bk bp bi bd,v=WM (WO 299) #[] #[Qb bk,Qb bp,Qb bi]/\gu kb bk e/\e.2[d]?=some bd/\cl bp 358 #[Qb bd]∈e.1/\cl bi 3 #[WL WN i]∈e.1
 | .looks=>v=WM (WO 298) #[Qb kb] #[]
 | .bE=>v=WM (WO 315) #[Qb kb] #[]
 | .bB=>kU kb e 328 v
 | .behind=>v=WM (WO 329) #[Qb kb] #[]
 | .aV next=>∃ bk bn,v=WM (WO 340) #[] #[Qb bk,Qb bn]/\gu kb bk e/\cl bn 36 #[WL WQ next]∈e.1
 | .aS=>v=WM (WO 342) #[Qb kb] #[]
def CQ (kb:Nat) (e:ET) (f:AT) (v:Value) (g:List ak):Prop:=g=[]/\match f with
 | .leave1=>kU kb e 261 v
 | .answer=>kU kb e 262 v
 | .bH d=>oN kb e 279 d v
 | .unlock=>kU kb e 284 v
 | .put f=>∃ bk bf,v=WM (WO 326) #[] #[Qb bk,Qb bf]/\gu kb bk e/\cl bf 63 f.vals.toArray∈e.1
 | .rel=>kU kb e 345 v
 | .drop=>kU kb e 346 v
def VYT (L:Lay) (kb:Nat) (e:ET) (f:YT) (v:Value) (g:List ak):Prop:=g=[]/\match f with
 | .lock=>kU kb e 272 v
 | .ready i=>∃ q,L.qs[i]?=some q/\v=WM (WO 291) #[Qb q.b] #[]
def mE (L:Lay) (kb:Nat) (pv:Value):kT :=
 ⟨MT,AT,YT,ZT,ET,dH,zf L kb pv,CS kb,CQ kb,VYT L kb,runT,Q3,rU,jR,vR,Gm⟩
theorem gu.le {kb bk:Nat} {e e':ET} (h:gu kb bk e) (hl:dH e e'):gu kb bk e':=hl.b _ h
theorem kU.le {kb:Nat} {e e':ET} {fn:WZ} {v:Value} (h:kU kb e fn v) (hl:dH e e'):kU kb e' fn v:=by
 obtain ⟨bk,h1,h2⟩:=h;exact ⟨bk,h1,h2.le hl⟩
theorem rD.le {kb:Nat} {e e':ET} {fn:WZ} {i:Int} {v:Value} (h:rD kb e fn i v) (hl:dH e e'):rD kb e' fn i v:=by
 obtain ⟨bk,bi,h1,h2,h3⟩:=h;exact ⟨bk,bi,h1,h2.le hl,hl.b _ h3⟩
theorem oN.le {kb:Nat} {e e':ET} {fn:WZ} {d:Nat} {v:Value} (h:oN kb e fn d v) (hl:dH e e'):oN kb e' fn d v:=by
 obtain ⟨bk,bi,h1,h2,h3⟩:=h;exact ⟨bk,bi,h1,h2.le hl,hl.d _ _ h3⟩
theorem kU.is {kb:Nat} {e:ET} {fn:WZ} {v:Value} (h:kU kb e fn v):∃ fn first aK,v=WM (WO fn) first aK:=by
 obtain ⟨bk,h1,h2⟩:=h;exact ⟨_,_,_,h1⟩
theorem rD.is {kb:Nat} {e:ET} {fn:WZ} {i:Int} {v:Value} (h:rD kb e fn i v):∃ fn first aK,v=WM (WO fn) first aK:=by
 obtain ⟨bk,bi,h1,h2,h3⟩:=h;exact ⟨_,_,_,h1⟩
theorem oN.is {kb:Nat} {e:ET} {fn:WZ} {d:Nat} {v:Value} (h:oN kb e fn d v):∃ fn first aK,v=WM (WO fn) first aK:=by
 obtain ⟨bk,bi,h1,h2,h3⟩:=h;exact ⟨_,_,_,h1⟩
theorem CS.le {kb:Nat} {e e':ET} {f:MT} {v:Value} {g:List ak} (hl:dH e e') (h:CS kb e f v g):CS kb e' f v g:=by
 refine ⟨h.1,?_⟩
 have:=h.2;cases f
 case aD d i=>obtain ⟨bk,bp,bi,bd,h1,h2,h3,h4,h5⟩:=this;exact ⟨bk,bp,bi,bd,h1,h2.le hl,hl.d _ _ h3,hl.b _ h4,hl.b _ h5⟩
 case aV next=>obtain ⟨bk,bn,h1,h2,h3⟩:=this;exact ⟨bk,bn,h1,h2.le hl,hl.b _ h3⟩
 all_goals first | exact this | exact kU.le this hl | exact rD.le this hl | exact oN.le this hl
theorem CQ.le {kb:Nat} {e e':ET} {f:AT} {v:Value} {g:List ak} (hl:dH e e') (h:CQ kb e f v g):CQ kb e' f v g:=by
 refine ⟨h.1,?_⟩
 have:=h.2;cases f
 case put f=>obtain ⟨bk,bn,h1,h2,h3⟩:=this;exact ⟨bk,bn,h1,h2.le hl,hl.b _ h3⟩
 all_goals first | exact this | exact kU.le this hl | exact rD.le this hl | exact oN.le this hl
theorem Q6 (L:Lay) (kb:Nat) (pv:Value) (e:ET):((mE L kb pv).on e).iA where
 vm {f v g} h:=by
  have:=h.2;cases f
  case aD d i=>obtain ⟨bk,bp,bi,bd,h1,h2⟩:=this;exact ⟨_,_,_,h1⟩
  case aV next=>obtain ⟨bk,bn,h1,h2⟩:=this;exact ⟨_,_,_,h1⟩
  all_goals first | exact ⟨_,_,_,this⟩ | exact kU.is this | exact rD.is this | exact oN.is this
 va {f v g} h:=by
  have:=h.2;cases f
  case put f=>obtain ⟨bk,bn,h1,h2⟩:=this;exact ⟨_,_,_,h1⟩
  all_goals first | exact kU.is this | exact rD.is this | exact oN.is this
 vy {f v g} h:=by
  have:=h.2;cases f
  ·exact kU.is this
  ·obtain ⟨q,_,h1⟩:=this;exact ⟨_,_,_,h1⟩
def dM (L:Lay) (kb:Nat) (pv:Value) (e:ET) (s:ST) (z:ZT) (en:XI) (gs:GH):Prop :=
 ∃ e',dH e e'/\∃ m d g' aY aI,en=WS (.agg #[m,d])/\(mE L kb pv).SV e' s m d g'/\zf L kb pv e' z aY aI/\gs=[g',aY,aI]
def mZ (L:Lay) (kb:Nat) (pv:Value) (e:ET) (z:ZT) (en:XI) (gs:GH):Prop :=
 ∃ e',dH e e'/\∃ aY aI,en=WS (WW #[])/\zf L kb pv e' z aY aI/\gs=[[],aY,aI]
def CK (L:Lay) (kb:Nat) (pv:Value) (s:ST) (en:XI) (g' l:List ak):Prop :=
 ∃ m d,en=WS (.agg #[m,d])/\∀ e:ET,(∀ b∈l,b∈e.1)->(mE L kb pv).SV e s m d g'
theorem nz (fn:WZ) (a c:Array Value):Qa prog 103 #[WM (WO fn) a c] [] fun en gs=>en=WS (.agg #[WK,WM (WO fn) a c])/\gs=[]:=by
 refine GO fun w HT=>?_
 go_enter func103,ntmps103
 go_wp2
 exact WR (v:=.agg #[_,_]) (by simp [results,results103,go_sem]) rfl ⟨_,⟨rfl,rfl⟩,HT.aN _⟩
theorem PM (n:Int) (h0:0<=n) (h1:n<18446744073709551616):Qe prog 39 #[WL WQ n] [] (WL WN (bA n)):=fun w hw=>(Ld n w h0 h1).mono (by rintro e w' ⟨rfl,rfl⟩;exact ⟨rfl,0,rfl⟩)
theorem PY (n:Int) (h0:0<=n) (h1:n<18446744073709551616):Qe prog 258 #[WL WQ n] [] (.bool (Xk n)):=fun w hw=>(RQ n w h0 h1).mono (by rintro e w' ⟨rfl,rfl⟩;exact ⟨rfl,0,rfl⟩)
section
variable {L:Lay} {x:Qi} {gC:List ak} {kb:Nat} {pv sv:Value} {k:Xd}
theorem Ac (hx:Qf L x gC) (E:EvS) (hn:x.tr.length<=1000000):Qa prog 105 #[Qb kb,.agg E.cells] [Ql kb L.fb pv sv k,gC] fun e gs =>
 e=WS (WW #[])/\∃ g',Qf L { x with tr:=x.tr++[lq k E] } g'/\gs=[Ql kb L.fb pv sv k,g']:=by
 refine GO fun w HT=>?_
 have HN:=Vh (Mv hx (lq k E) hn);have lt:=HT.l 0 0;simp only [] at lt;obtain ⟨k0,k1,k2⟩:=HT.c3 0 0 0 1 2;simp only [Xh,aC] at k0 k1 k2;clear hx hn;simp only [EvS.cells];go_enter func105,ntmps105
 go_wp2
 go_region
 go_wp2
 have HT:=Vh (HT.out.a 73 (lq k E).cells).drew;simp only [List.cons_append,List.nil_append] at HT;simp only [EvS.cells,lq] at HT;clear lt k1 k2 k0;generalize XF _=w1 at HT |-;have k0:=HT.c 0 0 0;simp only [Xh,aC] at k0;obtain ⟨b0,b1,b2,b3,b4,b5,b6,b7⟩:=HT.c8 2 0 0 1 2 3 4 5 6 7;obtain ⟨b8,b9⟩:=HT.c2 2 0 8 9;simp only [aT] at b0 b1 b2 b3 b4 b5 b6 b7 b8 b9;refine Mx 5 ?_
 simp only [dx]
 repeat (go_big_quiet_step ((fail)))
 refine WX (QT HT fun nq HT=>?_)
 go_wp2_with fail
 refine Qa.run HN HT [1] ?_
 rintro e w1 gs ⟨rfl,g',hx',rfl⟩ HT;simp only [PU] at HT;have HX:=Vh hx';clear hx';go_wp2_with fail
 refine ⟨rfl,?_⟩
 go_wp2
 exact bodyPost_end (results_none rfl _ _ _) rfl ⟨_,⟨rfl,g',HX,rfl⟩,HT.p [0,1]⟩
theorem Hg (hx:Qf L x gC) (ho:qB x) (ht:Jf k.t) (st:Int):Qa prog 303 #[Qb kb,WL WN st] [Ql kb L.fb pv sv k,gC] fun e gs =>
 e=WS (.bool (bA (x.aa.word k.t.slot) == st && X7 (x.aa.word k.t.slot) == k.t.gen && x.aa.mine k.t.id))/\∃ g',Qf L x g'/\gs=[Ql kb L.fb pv sv { k with aA:=x.aa.word k.t.slot },g']:=by
 have jo:=Vh (Y3 ho.aa k.t.slot);have lU:=Vh (show ∀ g',Qf L x g'->_ from fun g' hx'=>zY (g:=g') hx' ho.aa.n1 k.t.slot);have xG:=Vh (show ∀ g',Qf L x g'->_ from fun g' hx'=>Tx (g:=g') hx' ho.aa.n1 k.t.id ht.id.1 ht.id.2);have HX:=Vh hx;generalize x.aa.mine k.t.id=mi at *;obtain ⟨wd,hwd⟩:∃ wd,wd=x.aa.word k.t.slot:=⟨_,rfl⟩;rw [<- hwd] at jo lU |-;have iD:=Vh (PM wd jo.1 jo.2.1);have uV:=Vh (Oe wd jo.1 jo.2.1);generalize bA wd=sw at *;generalize X7 wd=gw at *;clear ho ht hx hwd jo;refine GO fun w HT=>?_
 go_enter func303,ntmps303
 go_wp2_with fail
 obtain ⟨ι,W,hW0,hend,hin⟩:∃ (ι:Type) (W:ι->World),(∃ i,XF w=W i)/\(∀ i,∃ gx,Qf L x gx/\TG [Ql kb L.fb pv sv k,gC] w [Ql kb L.fb pv sv k,gx] (W i))/\(∀ w',(∃ gx,Qf L x gx/\TG [Ql kb L.fb pv sv k,gC] w [Ql kb L.fb pv sv k,gx] w')->∃ i,w'=W i):=⟨{w' // ∃ gx,Qf L x gx/\TG [Ql kb L.fb pv sv k,gC] w [Ql kb L.fb pv sv k,gx] w'},Subtype.val,⟨⟨_,gC,HX,HT.drew⟩,rfl⟩,fun i=>i.2,fun w' h=>⟨⟨w',h⟩,rfl⟩⟩;have hne:Nonempty ι:=hW0.elim fun i _=>⟨i⟩
 have k0:∀ i,(W i).cell? ⟨kb,0,none⟩=some (Qb L.fb):=fun i=>by obtain ⟨_,_,T⟩:=hend i;exact T.c 0 0 0
 have k12:∀ i,(W i).cell? ⟨kb,12,none⟩=some (WL WN k.t.slot):=fun i=>by obtain ⟨_,_,T⟩:=hend i;exact T.c 0 0 12
 have m1:∀ i,Calls prog 19 #[Qb L.fb] (W i) fun e w2=>e=WS (Qb L.p.sb)/\∃ j,w2=W j:=fun i=>by
  obtain ⟨_,hg,T⟩:=hend i;refine (Qa.use ((Qq hg).does) T [1] rfl rfl).mono ?_
  rintro e w2 ⟨gs,⟨rfl,rfl⟩,T2⟩;exact ⟨rfl,hin _ ⟨_,hg,T2⟩⟩
 have m2:∀ i,Calls prog 38 #[Qb L.p.sb,WL WN k.t.slot] (W i) fun e w2=>e=WS (WW #[WL WQ wd,WL WN (x.aa.kD k.t.slot)])/\∃ j,w2=W j:=fun i=>by
  obtain ⟨_,hg,T⟩:=hend i;refine (Qa.use (lU _ hg) T [1] rfl rfl).mono ?_
  rintro e w2 ⟨gs,⟨rfl,g3,hg3,rfl⟩,T2⟩;exact ⟨rfl,hin _ ⟨g3,hg3,T2⟩⟩
 refine Yu (fun w'=>∃ i,w'=W i) 17 (by kernel_rfl) (by kernel_rfl) hW0 ?_
 simp only [dx]
 repeat (go_big_quiet_step ((first | (go_at_call 19;with_reducible exact m1 _) | (go_at_call 38;with_reducible exact m2 _))))
 refine WX ?_
 intro _ hw';obtain ⟨iq,hw''⟩:=hw';subst hw'';obtain ⟨g1,hx1,T⟩:=hend iq;have HT:=Vh T;generalize W iq=w1 at HT |-;clear T hend hin hW0 hne;have jZ:=Vh hx1;clear hx1 k0 k12 m1 m2;have k16:=HT.c 0 0 16;have lz:=HT.f 0 0 16;simp only [Xh,aC] at k16;go_wp2_with fail
 refine ⟨rfl,?_⟩
 have HT:=Vh ((HT.set 0 0 rfl 16 (WL WQ wd)).eq (H':=[Ql kb L.fb pv sv { k with aA:=wd },g1]) rfl);clear k16 lz;generalize XK _ _ _=w5 at HT |-;obtain ⟨k0,k11,k13,k16⟩:=HT.c4 0 0 0 11 13 16;simp only [Xh,aC] at k0 k11 k13 k16;cases hb1:(sw == st) with
 | false =>
   go_wp2_with fail
   refine Mx 31 ?_
   simp only [dx]
   repeat (go_big_quiet_step ((first | (go_at_call 39;with_reducible exact Qe.quiet (iD.out) HT.out _ [] rfl rfl) | (go_at_call 229;with_reducible exact Qe.quiet (uV.out) HT.out _ [] rfl rfl) | (go_at_call 19;with_reducible exact Qe.quiet (Qq jZ.out) HT.out _ [1] rfl rfl))))
   refine WX (QT HT fun nq HT=>?_)
   go_wp2_with fail
   refine ⟨rfl,?_⟩
   clear iD uV xG lU;go_wp2
   go_ret
   exact ⟨_,⟨by rw [hb1];rfl,g1,jZ,rfl⟩,HT⟩
 | true =>
   cases hb2:(gw == k.t.gen) with
   | false =>
     go_wp2_with fail
     refine Mx 31 ?_
     simp only [dx]
     repeat (go_big_quiet_step ((first | (go_at_call 39;with_reducible exact Qe.quiet (iD.out) HT.out _ [] rfl rfl) | (go_at_call 229;with_reducible exact Qe.quiet (uV.out) HT.out _ [] rfl rfl) | (go_at_call 19;with_reducible exact Qe.quiet (Qq jZ.out) HT.out _ [1] rfl rfl))))
     refine WX (QT HT fun nq HT=>?_)
     go_wp2_with fail
     refine ⟨rfl,?_⟩
     clear iD uV xG lU;go_wp2
     go_ret
     exact ⟨_,⟨by rw [hb1,hb2];rfl,g1,jZ,rfl⟩,HT⟩
   | true =>
     go_wp2_with fail
     refine Mx 31 ?_
     simp only [dx]
     repeat (go_big_quiet_step ((first | (go_at_call 39;with_reducible exact Qe.quiet (iD.out) HT.out _ [] rfl rfl) | (go_at_call 229;with_reducible exact Qe.quiet (uV.out) HT.out _ [] rfl rfl) | (go_at_call 19;with_reducible exact Qe.quiet (Qq jZ.out) HT.out _ [1] rfl rfl))))
     refine WX (QT HT fun nq HT=>?_)
     go_wp2_with fail
     refine Qa.run (xG _ jZ) (HT) [1] ?_
     rintro e w1 gs ⟨rfl,g2,hx2,rfl⟩ HT;simp only [PU] at HT;have kH:=Vh hx2;clear hx2 k0 k11 k13 k16;go_wp2_with fail
     refine ⟨rfl,?_⟩
     go_wp2
     go_ret
     exact ⟨_,⟨by rw [hb1,hb2];rfl,g2,kH,rfl⟩,HT⟩
theorem Ag (hx:Qf L x gC) (ho:qB x) (hs:0<=k.aA/\k.aA<18446744073709551616) (ev:Int):Qa prog 305 #[Qb kb,WL WN ev] [Ql kb L.fb pv sv k,gC] fun e gs =>
 e=WS (.bool ((x.aa.try k.t.slot k.aA ev).2.2 == 0))/\∃ g',Qf L { x with aa:=(x.aa.try k.t.slot k.aA ev).1 } g'/\gs=[Ql kb L.fb pv sv k,g']:=by
 have HY:=Vh (BL hx ho.aa.n1 k.t.slot k.aA ev hs.1 hs.2);have nk:=Vh (Qq hx);generalize x.aa.try k.t.slot k.aA ev=r at *;clear ho hs hx;refine GO fun w HT=>?_
 obtain ⟨k0,k12,k16⟩:=HT.c3 0 0 0 12 16;simp only [Xh,aC] at k0 k12 k16;go_enter func305,ntmps305
 go_wp2_with fail
 refine Mx 15 ?_
 simp only [dx]
 repeat (go_big_quiet_step ((first | (go_at_call 19;with_reducible exact Qe.quiet (nk.out) HT.out _ [1] rfl rfl))))
 refine WX (QT HT fun nq HT=>?_)
 go_wp2_with fail
 refine Qa.run HY HT [1] ?_
 rintro e w1 gs ⟨rfl,g1,hx1,rfl⟩ HT;simp only [PU] at HT;have HX:=Vh hx1;clear hx1 k0 k12 k16;go_wp2_with fail
 refine ⟨rfl,?_⟩
 go_wp2
 go_ret
 exact ⟨_,⟨rfl,g1,HX,rfl⟩,HT⟩
end
section
variable {L:Lay} {x:Qi} {ws:List Qg} {gC gW:List ak}
theorem q5u (hx:Qf L x gC) (hw:Js L ws gW) {i:Nat} {q:gY} {s:Qs} {S:Qg} (hq:L.qs[i]?=some q) (hs:x.au[i]?=some s) (hS:ws[i]?=some S) (ho:yl S) (t:Qn) (h0:0<=t.slot) (hd:0<=t.dl/\t.dl<18446744073709551616) :
 Qa prog 316 #[Qb q.b,.agg t.cells] [gC,gW] fun e gs=>e=WS (WW #[WL WQ (j3 S t),WL WN 0])/\∃ iZ gy,Qf L x iZ/\Js L (ws.set i (S.place (mQ S t))) gy/\gs=[iZ,gy]:=by
 obtain ⟨tr,gF,gS,gR,gH,gT,h1,h2,h3,h4,h5,h6,rfl⟩:=hx;obtain ⟨hwl,hwf⟩:=hw;obtain ⟨u,y,⟨gr,gl,hr,hl,rfl⟩,hp,hback⟩:=h5.out (uk hq hs);obtain ⟨u2,y2,hu2,hp2,ja⟩:=hwf.out (uk hq hS);intro w hh;have T:=((((TG.refl hh).sum (H':=[gF++(gS++(gR++gT)),gH,gW])).bF 1 rfl hp).bF 2 rfl hp2).sum (H':=[gF++(gS++(gR++gT)),Xl q.b q.rb q.lb q.wb,gr,gl,y,u2,y2]);refine (Qa.use (quw q.b q.rb q.lb hu2 ho t h0 hd) T [1,5] rfl rfl).mono ?_
 rintro e w' ⟨gs,⟨he,g1,hn1,rfl⟩,T'⟩;obtain ⟨ny,hf,hp'⟩:=hback (q,s) (Xl q.b q.rb q.lb q.wb++(gr++gl)) ⟨gr,gl,hr,hl,rfl⟩;rw [ze i hq] at hf;obtain ⟨gy,hf2,zJ⟩:=ja (q,S.place (mQ S t)) g1 hn1;rw [ze i hq] at hf2;have hsame:x.au.set i s=x.au:=Yg hs;rw [hsame] at hf;refine ⟨_,⟨he,_,gy,⟨tr,gF,gS,gR,ny,gT,h1,h2,h3,h4,hf,h6,rfl⟩,⟨by rw [XJ];exact hwl,hf2⟩,rfl⟩,?_⟩
 exact (((TG.sum (H:=[gF++(gS++(gR++gT)),Xl q.b q.rb q.lb q.wb,gr,gl,y,g1,y2]) (H':=[gF++(gS++(gR++gT)),Xl q.b q.rb q.lb q.wb++(gr++gl)++y,g1++y2]) T').bF 1 rfl hp').bF 2 rfl zJ).sum
theorem qwt (hx:Qf L x gC) (hw:Js L ws gW) {i:Nat} {q:gY} {s:Qs} {S:Qg} (hq:L.qs[i]?=some q) (hs:x.au[i]?=some s) (hS:ws[i]?=some S) (ho:yl S) :
 Qa prog 280 #[Qb q.b] [gC,gW] fun e gs=>∃ v gr,e=WS (WW #[v,WL WN 0])/\Q1 40 5 v S.fO.2.length (Ai (S.fO.2.map gI.v)) gr/\∃ iZ gy,Qf L x iZ/\Js L (ws.set i S.fO.1) gy/\gs=[iZ,gy,gr]:=by
 obtain ⟨tr,gF,gS,gR,gH,gT,h1,h2,h3,h4,h5,h6,rfl⟩:=hx;obtain ⟨hwl,hwf⟩:=hw;obtain ⟨u,y,⟨gr,gl,hr,hl,rfl⟩,hp,hback⟩:=h5.out (uk hq hs);obtain ⟨u2,y2,hu2,hp2,ja⟩:=hwf.out (uk hq hS);intro w hh;have T:=((((TG.refl hh).sum (H':=[gF++(gS++(gR++gT)),gH,gW])).bF 1 rfl hp).bF 2 rfl hp2).sum (H':=[gF++(gS++(gR++gT)),Xl q.b q.rb q.lb q.wb,gr,gl,y,u2,y2]);refine (Qa.use (qqd q.b q.rb q.lb hu2 ho) T [1,5] rfl rfl).mono ?_
 rintro e w' ⟨gs,⟨v,g1,nM,he,hn1,hrow,rfl⟩,T'⟩;obtain ⟨ny,hf,hp'⟩:=hback (q,s) (Xl q.b q.rb q.lb q.wb++(gr++gl)) ⟨gr,gl,hr,hl,rfl⟩;rw [ze i hq] at hf;obtain ⟨gy,hf2,zJ⟩:=ja (q,S.fO.1) g1 hn1;rw [ze i hq] at hf2;have hsame:x.au.set i s=x.au:=Yg hs;rw [hsame] at hf;refine ⟨_,⟨v,nM,he,hrow,_,gy,⟨tr,gF,gS,gR,ny,gT,h1,h2,h3,h4,hf,h6,rfl⟩,⟨by rw [XJ];exact hwl,hf2⟩,rfl⟩,?_⟩
 exact (((TG.sum (H:=[gF++(gS++(gR++gT)),Xl q.b q.rb q.lb q.wb,gr,gl,y,g1,y2,nM]) (H':=[gF++(gS++(gR++gT)),Xl q.b q.rb q.lb q.wb++(gr++gl)++y,g1++y2,nM]) T').bF 1 rfl hp').bF 2 rfl zJ).sum
theorem KT (hx:Qf L x gC) {i:Nat} {q:gY} {s:Qs} (hq:L.qs[i]?=some q) (hs:x.au[i]?=some s) :
 Qa prog 33 #[Qb q.b] [gC] fun e gs=>e=WS (Qb q.lb)/\∃ g',Qf L x g'/\gs=[g']:=by
 have:=Ev (v:=Qb q.lb) hx hq hs (fun g hg=>by
  obtain ⟨gr,gl,hr,hl,rfl⟩:=hg;intro w hw;have T:=(TG.refl hw).m [Xl q.b q.rb q.lb q.wb,gr,gl];refine (Qa.use (qqb q.b q.rb q.lb q.wb) T [0] rfl rfl).mono ?_
  rintro e w' ⟨gs,⟨he,rfl⟩,T'⟩
  exact ⟨_,⟨he,_,⟨gr,gl,hr,hl,rfl⟩,rfl⟩,TG.sum (H:=[Xl q.b q.rb q.lb q.wb,gr,gl]) T'⟩)
 rwa [qm hs] at this
theorem Ls {F:Nat} {args:Array Value} {v:Value} {who' n':Int} (hx:Qf L x gC) {i:Nat} {q:gY} {s:Qs} (hq:L.qs[i]?=some q) (hs:x.au[i]?=some s)
 (hd:∀ g,qk q.lb s.who s.turns g->Qa prog F args [g] fun e gs=>e=WS v/\∃ g',qk q.lb who' n' g'/\gs=[g']) :
 Qa prog F args [gC] fun e gs=>e=WS v/\∃ g',Qf L { x with au:=x.au.set i { s with who:=who',turns:=n' } } g'/\gs=[g'] :=
 Ev hx hq hs (fun g hg=>by
  obtain ⟨gr,gl,hr,hl,rfl⟩:=hg;intro w hw;have T:=(TG.refl hw).m [Xl q.b q.rb q.lb q.wb,gr,gl];refine (Qa.use (hd gl hl) T [2] rfl rfl).mono ?_
  rintro e w' ⟨gs,⟨he,g1,hn1,rfl⟩,T'⟩
  exact ⟨_,⟨he,_,⟨gr,g1,hr,hn1,rfl⟩,rfl⟩,TG.sum (H:=[Xl q.b q.rb q.lb q.wb,gr,g1]) T'⟩)
end
section
variable {L:Lay} {x:Qi} {ws:List Qg} {gC gW:List ak} {kb:Nat} {pv:Value} {k:Xd}
theorem Vv (hx:Qf L x gC) (hw:Js L ws gW) {i:Nat} {q:gY} {s:Qs} {S:Qg} (hq:L.qs[i]?=some q) (hs:x.au[i]?=some s) (hS:ws[i]?=some S) (ho:yl S) (h0:0<=k.t.slot) (hd:0<=k.t.dl/\k.t.dl<18446744073709551616) (hn:x.tr.length<=1000000) :
 Qa prog 306 #[Qb kb] [Ql kb L.fb pv (Qb q.b) k,gC,gW] fun e gs=>e=WS (WW #[])/\∃ iZ gy,Qf L { x with tr:=x.tr++[lq k { bO with kind:=4,id:=k.t.id,gen:=k.t.gen,dl:=j3 S k.t }] } iZ /\
  Js L (ws.set i (S.place (mQ S k.t))) gy/\gs=[Ql kb L.fb pv (Qb q.b) k,iZ,gy]:=by
 have HA:=Vh (q5u hx hw hq hs hS ho k.t h0 hd);have HN:=Vh (show ∀ g E,Qf L x g->_ from fun g E hg=>Ac (kb:=kb) (pv:=pv) (sv:=Qb q.b) (k:=k) (gC:=g) hg E hn);generalize S.place (mQ S k.t)=S1 at *;generalize j3 S k.t=dd at *;simp only [Qn.cells] at HA;clear hx hw hs hS ho hn h0 hd;refine GO fun w HT=>?_
 obtain ⟨k10,k11,k12,k13,k14,k15⟩:=HT.c6 0 0 10 11 12 13 14 15;simp only [Xh,aC] at k10 k11 k12 k13 k14 k15;go_enter func306,ntmps306
 go_wp2_with fail
 refine Mx 8 ?_
 simp only [dx]
 repeat (go_big_quiet_step ((fail)))
 refine WX (QT HT fun nq HT=>?_)
 go_wp2_with fail
 refine Qa.run HA HT [1,2] ?_
 rintro e w1 gs ⟨rfl,g1,g2,hx1,hw1,rfl⟩ HT;simp only [PU] at HT;have HX:=Vh hx1;have HW:=Vh hw1;clear hx1 hw1 k10 k11 k12 k13 k14 k15;go_wp2_with fail
 refine ⟨rfl,?_⟩
 obtain ⟨k11,k13⟩:=HT.c2 0 0 11 13;simp only [Xh,aC] at k11 k13;go_wp2_with fail
 refine Mx 13 ?_
 simp only [dx]
 repeat (go_big_quiet_step ((fail)))
 refine WX (QT HT fun nq HT=>?_)
 go_wp2_with fail
 refine Qa.run (HN _ { bO with kind:=4,id:=k.t.id,gen:=k.t.gen,dl:=dd } HX) (HT) [0,1] ?_
 rintro e w1 gs ⟨rfl,g3,hx3,rfl⟩ HT;simp only [PU] at HT;have HX3:=Vh hx3;clear hx3 k11 k13;go_wp2_with fail
 refine ⟨rfl,?_⟩
 go_wp2
 exact bodyPost_end (results_none rfl _ _ _) rfl ⟨_,⟨rfl,g3,g2,HX3,HW,rfl⟩,HT.p [0,1,2]⟩
end
section
variable {L:Lay} {x:Qi} {ws:List Qg} {p:Qz} {e:ET} {g gC gK gF:List ak} {kb:Nat} {pv sv:Value} {k:Xd}
theorem Vl (L:Lay) (kb:Nat) (pv:Value):Qa prog 234 #[Qb kb] [] fun en gs=>∃ g' l,CK L kb pv BI en g' l/\gs=[g',l]:=by
 refine GO fun w HT=>?_
 go_enter func234,ntmps234
 go_wp2_with fail
 refine Qa.run (aZ.eO (b:=w.heap.size+1+1) (o:=0) (D:=#[WM (WO 261) #[] #[Qb w.heap.size],WM (WO 262) #[] #[Qb w.heap.size]]) rfl 2 (.inr rfl)) (((HT.a _ _).alloc (k:=w.heap.size+1) (by simp) _ _).alloc (k:=w.heap.size+1+1) (by simp) _ _) [2] ?_
 rintro e w1 gs ⟨bf,bl,bi,rfl,rfl⟩ HT;simp only [PU] at HT;obtain ⟨e0,e1⟩:=HT.c2 1 0 0 1;obtain ⟨eX,eD⟩:=HT.f2 1 0 0 1;simp only [aT] at e0 e1;go_wp2
 exact WR (v:=.agg #[WK,_]) (by simp [results,results234,go_sem,e0,e1]) rfl ⟨_,⟨_,[cl w.heap.size 88 #[Qb kb]],⟨_,_,rfl,fun e he=>⟨rfl,bf,bl,bi,w.heap.size+1+1,WM (WO 261) #[] #[Qb w.heap.size],WM (WO 262) #[] #[Qb w.heap.size],[],[],rfl,⟨rfl,w.heap.size,rfl,he _ (by simp)⟩,⟨rfl,w.heap.size,rfl,he _ (by simp)⟩,rfl⟩⟩,rfl⟩,(((HT.set 1 0 rfl 0 _).set 1 0 rfl 1 _).p [2,3,4,5,0]).sum⟩
theorem q7f (hx:Qf L x gC) (er:Int) (hn:x.tr.length<=1000000):Qa prog 190 #[Qb kb,WL WN er] [Ql kb L.fb pv sv k,gC] fun en gs =>
 ∃ g' l iZ,CK L kb pv BI en g' l/\Qf L { x with tr:=x.tr++[lq k { bO with kind:=9,err:=er }] } iZ/\gs=[g',l,Ql kb L.fb pv sv { k with err:=er,ok:=false },iZ]:=by
 have HN:=Vh (Ac (kb:=kb) (pv:=pv) (sv:=sv) (k:=k) hx { bO with kind:=9,err:=er } hn);clear hx hn;refine GO fun w HT=>?_
 have lt:=HT.l 0 0;simp only [] at lt;go_enter func190,ntmps190
 go_wp2_with fail
 refine Qa.run HN (HT.a 153 #[WK,WK]) [0,1] ?_
 rintro e w1 gs ⟨rfl,g1,hx1,rfl⟩ HT;simp only [PU] at HT;have HX:=Vh hx1;clear hx1;obtain ⟨k3,k4,k5,k6,k7⟩:=HT.c5 0 0 3 4 5 6 7;obtain ⟨AO,Dh,Di,Dj,wI⟩:=HT.f5 0 0 3 4 5 6 7;simp only [Xh,aC] at k3 k4 k5 k6 k7;go_wp2_with fail
 refine Qa.run (Vl L kb pv) (((((((HT.set 0 0 rfl 3 (WL WN er)).set 0 0 rfl 4 (.bool false)).set 0 0 rfl 5 (WL WQ 0)).set 0 0 rfl 6 (WL WQ 0)).set 0 0 rfl 7 (.slice none 0 0)).eq (H':=[Ql kb L.fb pv sv { k with err:=er,ok:=false },g1,[cl w.heap.size 153 #[WK,WK]]]) rfl)) [] ?_
 rintro e w1 gs ⟨g2,l2,⟨m2,d2,rfl,hs2⟩,rfl⟩ HT;simp only [PU] at HT;obtain ⟨r0,r1⟩:=HT.c2 2 0 0 1;obtain ⟨df,dm⟩:=HT.f2 2 0 0 1;simp only [aT] at r0 r1;have hv2:=(Q6 L kb pv (l2,[])).vals (hs2 (l2,[]) (fun _ h=>h));obtain ⟨st1,st2⟩:=aZ.aG (P:=prog) hv2.1 hv2.2 r0 df r1 dm;have HS:=Vh hs2;clear hv2 hs2;go_wp2
 exact WR (v:=.agg #[_,_]) (by simp [results,results190,go_sem,r0,r1]) rfl ⟨_,⟨g2,l2,g1,⟨m2,d2,rfl,HS⟩,HX,rfl⟩,((HT.set 2 0 rfl 0 _).set 2 0 rfl 1 _).p [3,4,0,1]⟩
theorem zah (hz:zf L kb pv e ⟨k,x,ws,p⟩ gK gF) (hp:jR .enter ⟨k,x,ws,p⟩):Qa prog 104 #[Qb kb] [gK,gF] (dM L kb pv e (runT .enter ⟨k,x,ws,p⟩).1 (runT .enter ⟨k,x,ws,p⟩).2):=by
 have hi0:=hp.1.core.i0;have hi1:=hp.1.core.i1;simp only at hi0 hi1;clear hp;unfold dM;dsimp only [runT]
 obtain ⟨gd,gC,gW,gP,hd,hx,hw,aW,rfl,rfl⟩:=hz;refine GO fun w HT=>?_
 have HT:=Vh (HT.out.m [Ql kb L.fb pv (Q9 L k) k,gd,e.1,gC,gW,gP]);have HX:=Vh hx;have HD:=Vh hd;have HW:=Vh hw;have bD:=Vh aW;clear hx hd hw aW;have k0:=HT.c 0 0 0;simp only [Xh,aC] at k0;have lt:=HT.l 0 0;simp only [] at lt;have HE:=Vh (Sv HX ⟨hi0,hi1⟩);clear hi0 hi1;go_enter func104,ntmps104
 go_wp2_with fail
 refine Qa.run HE (HT.a _ _) [3] ?_
 rintro e w1 gs ⟨rfl,g1,hx1,rfl⟩ HT;simp only [PU] at HT;have HX:=Vh hx1;clear hx1 k0 lt;go_wp2_with fail
 refine Qa.run (nz _ _ _) (HT) [] ?_
 rintro e w1 gs ⟨rfl,rfl⟩ HT;simp only [PU] at HT;obtain ⟨r0,r1⟩:=HT.c2 6 0 0 1;obtain ⟨df,dm⟩:=HT.f2 6 0 0 1;simp only [aT] at r0 r1;go_wp2
 exact WR (v:=.agg #[_,_]) (by simp [results,results104,go_sem,r0,r1]) rfl ⟨_,⟨e,dH.refl e,_,_,[],_,_,rfl,⟨rfl,rfl,rfl⟩,⟨gd,_,gW,gP,HD,HX,HW,bD,rfl,rfl⟩,rfl⟩,(((HT.set 6 0 rfl 0 _).set 6 0 rfl 1 _).p [0,1,2,3,4,5]).sum⟩
theorem zb5 (hz:zf L kb pv e ⟨k,x,ws,p⟩ gK gF) (hp:jR .gate ⟨k,x,ws,p⟩):Qa prog 154 #[Qb kb] [gK,gF] (dM L kb pv e (runT .gate ⟨k,x,ws,p⟩).1 (runT .gate ⟨k,x,ws,p⟩).2):=by
 have dR:=Vh hp.1.core.tr;simp only at dR;clear hp;cases hc:x.f.closed with
 | false =>
   have he:runT .gate ⟨k,x,ws,p⟩=(.at none .tick,⟨k,x,ws,p⟩):=by simp [runT,hc]
   rw [he];clear he;unfold dM;obtain ⟨gd,gC,gW,gP,hd,hx,hw,aW,rfl,rfl⟩:=hz;refine GO fun w HT=>?_
   have HT:=Vh (HT.out.m [Ql kb L.fb pv (Q9 L k) k,gd,e.1,gC,gW,gP]);have HX:=Vh hx;have HD:=Vh hd;have HW:=Vh hw;have bD:=Vh aW;clear hx hd hw aW;have k0:=HT.c 0 0 0;simp only [Xh,aC] at k0;have lt:=HT.l 0 0;simp only [] at lt;have hcl:=Lr HX;rw [hc] at hcl;have jU:=Vh hcl;clear hcl hc;go_enter func154,ntmps154
   go_wp2_with fail
   refine Qa.run jU (HT.a _ _) [3] ?_
   rintro e w1 gs ⟨rfl,g1,hx1,rfl⟩ HT;simp only [PU] at HT;have HX:=Vh hx1;clear hx1 k0 lt;go_wp2_with fail
   refine Qa.run (nz _ _ _) (HT) [] ?_
   rintro e w1 gs ⟨rfl,rfl⟩ HT;simp only [PU] at HT;obtain ⟨r0,r1⟩:=HT.c2 6 0 0 1;obtain ⟨df,dm⟩:=HT.f2 6 0 0 1;simp only [aT] at r0 r1;go_wp2
   exact WR (v:=.agg #[_,_]) (by simp [results,results154,go_sem,r0,r1]) rfl ⟨_,⟨e,dH.refl e,_,_,[],_,_,rfl,⟨rfl,rfl,rfl⟩,⟨gd,_,gW,gP,HD,HX,HW,bD,rfl,rfl⟩,rfl⟩,(((HT.set 6 0 rfl 0 _).set 6 0 rfl 1 _).p [0,1,2,3,4,5]).sum⟩
 | true =>
   have he:runT .gate ⟨k,x,ws,p⟩=(BI,⟨{ k with err:=3,ok:=false },{ x with tr:=x.tr++[lq k { bO with kind:=9,err:=3 }] },ws,p⟩):=by
    simp [runT,hc,Yr,ZT.note]
   rw [he];clear he;unfold dM;obtain ⟨gd,gC,gW,gP,hd,hx,hw,aW,rfl,rfl⟩:=hz;refine GO fun w HT=>?_
   have HT:=Vh (HT.out.m [Ql kb L.fb pv (Q9 L k) k,gd,e.1,gC,gW,gP]);have HX:=Vh hx;have HD:=Vh hd;have HW:=Vh hw;have bD:=Vh aW;clear hx hd hw aW;have k0:=HT.c 0 0 0;simp only [Xh,aC] at k0;have lt:=HT.l 0 0;simp only [] at lt;have hcl:=Lr HX;rw [hc] at hcl;have jU:=Vh hcl;clear hcl hc;go_enter func154,ntmps154
   go_wp2_with fail
   refine Qa.run jU (HT.a _ _) [3] ?_
   rintro e w1 gs ⟨rfl,g1,hx1,rfl⟩ HT;simp only [PU] at HT;have HX:=Vh hx1;clear hx1 k0 lt;go_wp2_with fail
   refine Qa.run (q7f HX 3 dR) (HT) [0,3] ?_
   rintro e w1 gs ⟨g2,l2,g3,⟨m2,d2,rfl,hs2⟩,hx3,rfl⟩ HT;simp only [PU] at HT;have HX:=Vh hx3;clear hx3;obtain ⟨r0,r1⟩:=HT.c2 6 0 0 1;obtain ⟨df,dm⟩:=HT.f2 6 0 0 1;simp only [aT] at r0 r1;have hv2:=(Q6 L kb pv (l2,[])).vals (hs2 (l2,[]) (fun _ h=>h));obtain ⟨st1,st2⟩:=aZ.aG (P:=prog) hv2.1 hv2.2 r0 df r1 dm;have HS:=Vh hs2;clear hv2 hs2;go_wp2
   exact WR (v:=.agg #[_,_]) (by simp [results,results154,go_sem,r0,r1]) rfl ⟨_,⟨(e.1++l2,e.2),dH.app e l2,m2,d2,g2,_,_,rfl,HS _ (fun b hb=>WU _ hb),⟨gd,g3,gW,gP,HD,HX,HW,bD,rfl,rfl⟩,rfl⟩,(((HT.set 6 0 rfl 0 _).set 6 0 rfl 1 _).p [0,7,1,2,3,8,4,5]).sum (H':=[g2,Ql kb L.fb pv (Q9 L k) { k with err:=3,ok:=false }++(gd++(e.1++l2)),g3++(gW++gP)])⟩
theorem NH (kb:Nat):Qa prog 264 #[Qb kb] [] fun en gs=>∃ bk bd,en=WS (.agg #[WM (WO 272) #[] #[Qb bk],WM (WO 274) #[] #[Qb bk,Qb bd]]) /\
 gs=[[cl bk 88 #[Qb kb]],[cl bd 354 #[.slice none 0 0]]]:=by
 refine GO fun w HT=>?_
 go_enter func264,ntmps264
 go_wp2_with fail
 refine Qa.run (EL _ _ _ _ _ _) (((HT.a _ _).alloc (k:=w.heap.size+1) (by simp) _ _).alloc (k:=w.heap.size+1+1) (by simp) _ _) [] ?_
 rintro e w1 gs ⟨rfl,rfl⟩ HT;simp only [PU] at HT;obtain ⟨r0,r1⟩:=HT.c2 1 0 0 1;obtain ⟨df,dm⟩:=HT.f2 1 0 0 1;simp only [aT] at r0 r1;go_wp2
 exact WR (v:=.agg #[_,_]) (by simp [results,results264,go_sem,r0,r1]) rfl ⟨_,⟨w.heap.size,w.heap.size+1+1,rfl,rfl⟩,((HT.set 1 0 rfl 0 _).set 1 0 rfl 1 _).p [0,2]⟩
theorem quy {i:Nat} (hx:Qf L x gC) (hi:¬ i<x.au.length):uh (L.qs.map gY.b) i=XC none:=by
 obtain ⟨tr,gF,gS,gR,gH,gT,h1,h2,h3,h4,h5,h6,rfl⟩:=hx;unfold uh;rw [if_neg (by simp;omega)]
def ShR (L:Lay) (kb:Nat) (pv:Value) (e:ET) (s:ST) (z:ZT) (en:XI) (gs:GH):Prop :=
 ∃ (l:List ak) (ds:List Nat) (m d:Value) (g' OC iZ:List ak),en=WS (.agg #[m,d])/\(∀ e1:ET,(∀ b∈l,b∈e1.1)->e1.2=ds->(mE L kb pv).SV e1 s m d g')/\xz ds z.k OC/\dH e (e.1++l,ds)/\Qf L z.x iZ /\
   gs=[g',l,Ql kb L.fb pv (Q9 L z.k) z.k,OC,iZ]
theorem Vo {gd:List ak} (hx:Qf L x gC) (hd:xz e.2 k gd) (i:Nat) (hi:i<=65):Qa prog 236 #[Qb kb,WL WN i] [Ql kb L.fb pv (Q9 L k) k,gd,gC]
 (ShR L kb pv e (Q7 i ⟨k,x,ws,p⟩).1 (Q7 i ⟨k,x,ws,p⟩).2):=by
 have HX:=Vh hx;have HD:=Vh hd;have hsh:=qkx hx i;unfold ShR;by_cases hlt:i<x.au.length
 ·obtain ⟨q,hq,hv⟩:=Pq hx hlt
  rw [hv] at hsh;have jV:=Vh hsh;have he:Q7 i ⟨k,x,ws,p⟩=(.thn (.at (some .lock) (.dI k.nd)) (.ae i),⟨{ k with s:=some i,nd:=k.nd+1,due:=[] },x,ws,p⟩):=if_pos hlt;rw [he];dsimp only
  have hsv:Q9 L ({ k with s:=some i,nd:=k.nd+1,due:=[] }:Xd)=Qb q.b:=by simp [Q9,hq]
  rw [hsv];clear he hsh hv hlt hx hd hq hsv;refine GO fun w HT=>?_
  go_enter func236,ntmps236
  go_wp2_with fail
  have HT:=Vh (((HT.a 88 #[Qb kb]).alloc (k:=w.heap.size+1) (by simp) 3 #[WL WN i]).alloc (k:=w.heap.size+1+1) (by simp) 153 #[WK,WK]);obtain ⟨b1,hb1⟩:∃ b1,b1=w.heap.size:=⟨_,rfl⟩;obtain ⟨b2,hb2⟩:∃ b2,b2=w.heap.size+1:=⟨_,rfl⟩;obtain ⟨b3,hb3⟩:∃ b3,b3=w.heap.size+1+1:=⟨_,rfl⟩;rw [<- hb3,<- hb2,<- hb1] at HT |-;clear hb1 hb2 hb3;generalize WV (WV (WV w _) _) _=w1 at HT |-;have k0:=HT.c 0 0 0;simp only [Xh,aC] at k0;have a0:=HT.c 3 0 0;simp only [aT] at a0;have b0:=HT.c 4 0 0;simp only [aT] at b0;go_quiet ((first | (go_at_call 17;with_reducible exact Qe.quiet (jV.out) HT.out _ [2] rfl rfl)))
  have HT:=Vh (HT.out.drewN nq);clear k0 a0 b0;have k10:=HT.c 0 0 10;have nJ:=HT.f 0 0 10;simp only [Xh,aC] at k10;have a0:=HT.c 3 0 0;simp only [aT] at a0;go_wp2_with fail
  refine Qa.run (NH kb) (((HT.set 0 0 rfl 10 (Qb q.b)).eq (H':=[Ql kb L.fb pv (Qb q.b) k,gd,gC,[cl b1 88 #[Qb kb]],[cl b2 3 #[WL WN i]],[cl b3 153 #[WK,WK]]]) rfl)) [] ?_
  rintro e w1 gs ⟨bk2,bd,rfl,rfl⟩ HT;simp only [PU] at HT;clear k10 nJ a0
  have Iw:=Vh (show (e.2++[bd])[k.nd]?=some bd from by
   have:=HD.1;rw [XA (by omega)]
   simp [this])
  go_wp2_with fail
  refine Qa.run (aZ.bS (c:=(mE L kb pv).on ([cl bk2 88 #[Qb kb],cl b1 88 #[Qb kb],cl b2 3 #[WL WN i]],e.2++[bd])) (s:=.at (some .lock) (.dI k.nd)) (f:=MT.ae i) (v:=WM (WO 265) #[] #[Qb b1,Qb b2]) (g:=[]) (gm:=[]) (Q6 L kb pv _) rfl ⟨[],[],⟨rfl,bk2,rfl,by simp [gu]⟩,⟨rfl,bk2,bd,rfl,by simp [gu],Iw⟩,rfl⟩ ⟨rfl,b1,b2,rfl,by simp [gu],by simp⟩) (HT.sum (H':=[Ql kb L.fb pv (Qb q.b) k,gd,gC,[cl b1 88 #[Qb kb]],[cl b2 3 #[WL WN i]],[cl b3 153 #[WK,WK]],[cl bk2 88 #[Qb kb]],[cl bd 354 #[.slice none 0 0]],[],[]])) [8,9] ?_
  rintro e w1 gs ⟨bs,br,rfl,rfl⟩ HT;simp only [PU] at HT;obtain ⟨r0,r1⟩:=HT.c2 5 0 0 1;obtain ⟨df,dm⟩:=HT.f2 5 0 0 1;simp only [aT] at r0 r1;go_wp2
  exact WR (v:=.agg #[_,_]) (by simp [results,results236,go_sem,r0,r1]) rfl ⟨_,⟨[cl bk2 88 #[Qb kb],cl b1 88 #[Qb kb],cl b2 3 #[WL WN i]],e.2++[bd],_,_,_,[cl bd 354 #[.slice none 0 0]],gC,rfl,fun e1 he hd2=>⟨bs,br,_,_,[],[],rfl,rfl,⟨[],[],⟨rfl,bk2,rfl,he _ (by simp)⟩,⟨rfl,bk2,bd,rfl,he _ (by simp),by rw [hd2];exact Iw⟩,rfl⟩,⟨rfl,b1,b2,rfl,he _ (by simp),he _ (by simp)⟩,rfl⟩,
   ⟨by simp [HD.out.1],.inr ⟨k.nd,bd,.slice none 0 0,[],rfl,Iw,X5 _ _,rfl⟩⟩,dH.JD e _ bd,HX,rfl⟩,(((HT.set 5 0 rfl 0 _).set 5 0 rfl 1 _).p [8,6,3,4,0,7,2]).sum (H':=[[cl bs 153 #[WM (WO 272) #[] #[Qb bk2],WM (WO 274) #[] #[Qb bk2,Qb bd]],cl br 151 #[WM (WO 265) #[] #[Qb b1,Qb b2]]]++[]++[],[cl bk2 88 #[Qb kb],cl b1 88 #[Qb kb],cl b2 3 #[WL WN i]],Ql kb L.fb pv (Qb q.b) k,[cl bd 354 #[.slice none 0 0]],gC])⟩
 ·rw [quy hx hlt] at hsh
  have jV:=Vh hsh;have he:Q7 i ⟨k,x,ws,p⟩=(BI,⟨{ k with err:=0,ok:=true },x,ws,p⟩):=if_neg hlt;rw [he];dsimp only
  clear he hsh hlt hx hd;refine GO fun w HT=>?_
  go_enter func236,ntmps236
  go_wp2_with fail
  have HT:=Vh (((HT.a 88 #[Qb kb]).alloc (k:=w.heap.size+1) (by simp) 3 #[WL WN i]).alloc (k:=w.heap.size+1+1) (by simp) 153 #[WK,WK]);obtain ⟨b1,hb1⟩:∃ b1,b1=w.heap.size:=⟨_,rfl⟩;obtain ⟨b2,hb2⟩:∃ b2,b2=w.heap.size+1:=⟨_,rfl⟩;obtain ⟨b3,hb3⟩:∃ b3,b3=w.heap.size+1+1:=⟨_,rfl⟩;rw [<- hb3,<- hb2,<- hb1] at HT |-;clear hb1 hb2 hb3;generalize WV (WV (WV w _) _) _=w1 at HT |-;have k0:=HT.c 0 0 0;simp only [Xh,aC] at k0;have a0:=HT.c 3 0 0;simp only [aT] at a0;have b0:=HT.c 4 0 0;simp only [aT] at b0;go_quiet ((first | (go_at_call 17;with_reducible exact Qe.quiet (jV.out) HT.out _ [2] rfl rfl)))
  have HT:=Vh (HT.out.drewN nq);clear k0 a0 b0;obtain ⟨k3,k4,k5,k6,k7⟩:=HT.c5 0 0 3 4 5 6 7;obtain ⟨AO,Dh,Di,Dj,wI⟩:=HT.f5 0 0 3 4 5 6 7;simp only [Xh,aC] at k3 k4 k5 k6 k7;have a0:=HT.c 3 0 0;simp only [aT] at a0;have ne1:=HT.ne 0 0 3 0 (by decide) rfl rfl;simp only [] at ne1;have oI:=Ne.symm ne1;go_wp2_with fail
  refine Qa.run (Vl L kb pv) (((((((HT.set 0 0 rfl 3 (WL WN 0)).set 0 0 rfl 4 (.bool true)).set 0 0 rfl 5 (WL WQ 0)).set 0 0 rfl 6 (WL WQ 0)).set 0 0 rfl 7 (.slice none 0 0)).eq (H':=[Ql kb L.fb pv (Q9 L k) { k with err:=0,ok:=true },gd,gC,[cl b1 88 #[Qb kb]],[cl b2 3 #[WL WN i]],[cl b3 153 #[WK,WK]]]) rfl)) [] ?_
  rintro e w1 gs ⟨g2,l2,⟨m2,d2,rfl,hs2⟩,rfl⟩ HT;simp only [PU] at HT;clear k3 k4 k5 k6 k7 AO Dh Di Dj wI a0 ne1 oI;obtain ⟨r0,r1⟩:=HT.c2 5 0 0 1;obtain ⟨df,dm⟩:=HT.f2 5 0 0 1;simp only [aT] at r0 r1;have hv2:=(Q6 L kb pv (l2,[])).vals (hs2 (l2,[]) (fun _ h=>h));obtain ⟨st1,st2⟩:=aZ.aG (P:=prog) hv2.1 hv2.2 r0 df r1 dm;have HS:=Vh hs2;clear hv2 hs2;go_wp2
  exact WR (v:=.agg #[_,_]) (by simp [results,results236,go_sem,r0,r1]) rfl ⟨_,⟨l2,e.2,m2,d2,g2,gd,gC,rfl,fun e1 he _=>HS e1 he,HD,dH.app e l2,HX,rfl⟩,(((HT.set 5 0 rfl 0 _).set 5 0 rfl 1 _).p [6,7,0,1,2]).eq rfl⟩
theorem q3c (i:Nat) (hz:zf L kb pv e ⟨k,x,ws,p⟩ gK gF) (hp:jR (.ae i) ⟨k,x,ws,p⟩) (bk bi:Nat) (hb:gu kb bk e) (hbi:cl bi 3 #[WL WN (i:Nat)]∈e.1) :
 Qa prog 265 #[Qb bk,Qb bi] [gK,gF] (dM L kb pv e (runT (.ae i) ⟨k,x,ws,p⟩).1 (runT (.ae i) ⟨k,x,ws,p⟩).2):=by
 have hi:i<=64:=hp.2;clear hp;unfold dM
 have hws:(runT (.ae i) ⟨k,x,ws,p⟩).2.ws=ws/\(runT (.ae i) ⟨k,x,ws,p⟩).2.p=p:=by
  dsimp only [runT,Q7]
  split <;> exact ⟨rfl,rfl⟩
 obtain ⟨gd,gC,gW,gP,hd,hx,hw,aW,rfl,rfl⟩:=hz;have hsh:=Vo (kb:=kb) (pv:=pv) (ws:=ws) (p:=p) hx hd (i+1) (by omega);unfold ShR at hsh;have hcast:((i+1:Nat):Int)=(i:Int)+1:=by omega
 rw [hcast] at hsh;rw [show Q7 (i+1) ⟨k,x,ws,p⟩=runT (.ae i) ⟨k,x,ws,p⟩ from rfl] at hsh;generalize runT (.ae i) ⟨k,x,ws,p⟩=R at *;obtain ⟨s',⟨k',x',rZ,p'⟩⟩:=R;simp only at hws hsh |-;obtain ⟨rfl,rfl⟩:=hws;refine GO fun w HT=>?_
 have HT:=Vh (HT.out.m [Ql kb L.fb pv (Q9 L k) k,gd,e.1,gC,gW,gP]);have jV:=Vh hsh;have HW:=Vh hw;have bD:=Vh aW;have b0:=HT.aj 2 hb 0;have i0:=HT.aj 2 hbi 0;have bI:=HT.bg 2 hb;have nV:=HT.bg 2 hbi;simp only [bR] at b0 i0 bI nV;clear hx hd hw aW hsh hb hbi;go_enter func265,ntmps265
 go_wp2_with fail
 refine Qa.run jV (HT.a _ _) [0,1,3] ?_
 rintro e w1 gs ⟨l2,ds2,m2,d2,g2,Ka,Dl,rfl,hs2,hd2,hl2,hx2,rfl⟩ HT;simp only [PU] at HT;clear b0 i0 bI nV;have hv2:=(Q6 L kb pv (l2,ds2)).vals (hs2 (l2,ds2) (fun _ h=>h) rfl);obtain ⟨r0,r1⟩:=HT.c2 6 0 0 1;obtain ⟨df,dm⟩:=HT.f2 6 0 0 1;simp only [aT] at r0 r1;obtain ⟨st1,st2⟩:=aZ.aG (P:=prog) hv2.1 hv2.2 r0 df r1 dm;have HS:=Vh hs2;have HD2:=Vh hd2;have HL2:=Vh hl2;have kH:=Vh hx2;clear hv2 hs2 hd2 hl2 hx2;go_wp2
 exact WR (v:=.agg #[_,_]) (by simp [results,results265,go_sem,r0,r1]) rfl ⟨_,⟨(e.1++l2,ds2),HL2,m2,d2,g2,_,_,rfl,HS _ (fun b hb=>WU _ hb) rfl,⟨Ka,Dl,gW,gP,HD2,kH,HW,bD,rfl,rfl⟩,rfl⟩,(((HT.set 6 0 rfl 0 _).set 6 0 rfl 1 _).p [0,3,7,2,1,8,4,5]).sum⟩
theorem zb8 (hz:zf L kb pv e ⟨k,x,ws,p⟩ gK gF) (hp:jR .tick ⟨k,x,ws,p⟩):Qa prog 191 #[Qb kb] [gK,gF] (dM L kb pv e (runT .tick ⟨k,x,ws,p⟩).1 (runT .tick ⟨k,x,ws,p⟩).2):=by
 have hn:0<=x.f.now/\x.f.now<9223372036854775807:=by have:=hp.1.now;simp only at this;omega
 have hnn:=hp.1.now.1;have htr:=hp.1.core.tr;simp only at htr hnn;clear hp;unfold dM
 have hws:(runT .tick ⟨k,x,ws,p⟩).2.ws=ws/\(runT .tick ⟨k,x,ws,p⟩).2.p=p:=by
  dsimp only [runT,Q7]
  split <;> exact ⟨rfl,rfl⟩
 obtain ⟨gd,gC,gW,gP,hd,hx,hw,aW,rfl,rfl⟩:=hz;have HTN:=Vh (q1h hx hn);have o5:=Vh (show ∀ g,Qf L { x with f:={ x.f with now:=x.f.now+1 } } g->_ from fun g hg=>Ac (kb:=kb) (pv:=pv) (sv:=Q9 L k) (k:={ k with now:=x.f.now+1 }) (gC:=g) hg { bO with kind:=11,tick:=x.f.now+1 } htr);have hsh:∀ g,Qf L { x with f:={ x.f with now:=x.f.now+1 },tr:=x.tr++[lq k { bO with kind:=11,tick:=x.f.now+1 }] } g->_:=fun g hg=>Vo (kb:=kb) (pv:=pv) (ws:=ws) (p:=p) (e:=e) (k:={ k with now:=x.f.now+1 }) (gd:=gd) hg hd 0 (by decide)
 unfold ShR at hsh;rw [show Q7 0 ⟨{ k with now:=x.f.now+1 },{ x with f:={ x.f with now:=x.f.now+1 },tr:=x.tr++[lq k { bO with kind:=11,tick:=x.f.now+1 }] },ws,p⟩=runT .tick ⟨k,x,ws,p⟩ from rfl] at hsh;generalize runT .tick ⟨k,x,ws,p⟩=R at *;obtain ⟨s',⟨k',x',rZ,p'⟩⟩:=R;simp only at hws hsh |-;obtain ⟨rfl,rfl⟩:=hws;refine GO fun w HT=>?_
 have HT:=Vh (HT.out.m [Ql kb L.fb pv (Q9 L k) k,gd,e.1,gC,gW,gP]);have jV:=Vh hsh;have HW:=Vh hw;have bD:=Vh aW;have k0:=HT.c 0 0 0;simp only [Xh,aC] at k0;have lt:=HT.l 0 0;simp only [] at lt;clear hx hd hw aW hsh htr;go_enter func191,ntmps191
 go_wp2_with fail
 refine Qa.run HTN (HT.a _ _) [3] ?_
 rintro e w1 gs ⟨rfl,g1,hx1,rfl⟩ HT;simp only [PU] at HT;have HX:=Vh hx1;clear hx1 k0 lt;have k9:=HT.c 0 0 9;have yQ:=HT.f 0 0 9;simp only [Xh,aC] at k9;go_wp2_with fail
 refine Qa.run (o5 _ HX) ((HT.set 0 0 rfl 9 (WL WQ (x.f.now+1))).eq (H':=[Ql kb L.fb pv (Q9 L k) { k with now:=x.f.now+1 },gd,e.1,g1,gW,gP,[cl w.heap.size 153 #[WK,WK]]]) rfl) [0,3] ?_
 rintro e w1 gs ⟨rfl,g2,hx2,rfl⟩ HT;simp only [PU] at HT;have kH:=Vh hx2;clear hx2 k9 yQ;go_wp2_with fail
 refine Qa.run (jV _ kH) (HT) [0,1,3] ?_
 rintro e w1 gs ⟨l2,ds2,m2,d2,g2,Ka,Dl,rfl,hs2,hd2,hl2,hx2,rfl⟩ HT;simp only [PU] at HT;have hv2:=(Q6 L kb pv (l2,ds2)).vals (hs2 (l2,ds2) (fun _ h=>h) rfl);obtain ⟨r0,r1⟩:=HT.c2 6 0 0 1;obtain ⟨df,dm⟩:=HT.f2 6 0 0 1;simp only [aT] at r0 r1;obtain ⟨st1,st2⟩:=aZ.aG (P:=prog) hv2.1 hv2.2 r0 df r1 dm;have HS:=Vh hs2;have HD2:=Vh hd2;have HL2:=Vh hl2;have kH:=Vh hx2;clear hv2 hs2 hd2 hl2 hx2;go_wp2
 exact WR (v:=.agg #[_,_]) (by simp [results,results191,go_sem,r0,r1]) rfl ⟨_,⟨(e.1++l2,ds2),HL2,m2,d2,g2,_,_,rfl,HS _ (fun b hb=>WU _ hb) rfl,⟨Ka,Dl,gW,gP,HD2,kH,HW,bD,rfl,rfl⟩,rfl⟩,(((HT.set 6 0 rfl 0 _).set 6 0 rfl 1 _).p [0,3,7,2,1,8,4,5]).sum⟩
end
theorem SL:∀ {l:List Qn} {i:Nat} {t:Qn},l[i]?=some t->∀ j,j<5->(Ai l)[i*5+j]?=t.cells[j]?
 | [],i,t,h,j,hj=>by simp at h
 | a::l,0,t,h,j,hj=>by
   simp only [List.getElem?_cons_zero,Option.some.injEq] at h;subst h
   show (a.cells.toList++oh (l.map Qn.cells))[0*5+j]?=_
   rw [XD (by show 0*5+j<5;omega)];simp
 | a::l,i+1,t,h,j,hj=>by
   simp only [List.getElem?_cons_succ] at h;have:=SL h j hj
   show (a.cells.toList++oh (l.map Qn.cells))[(i+1)*5+j]?=_
   rw [XA (by show 5<=(i+1)*5+j;omega),show (i+1)*5+j - a.cells.toList.length=i*5+j from by show (i+1)*5+j - 5=_;omega];exact this
section
variable {L:Lay} {x:Qi} {ws:List Qg} {p:Qz} {e:ET} {g gC gK gF:List ak} {kb:Nat} {pv sv:Value} {k:Xd}
theorem QH {i:Nat} {q:gY} (hq:L.qs[i]?=some q) (n:Int):Qa prog 277 #[Qb kb,WL WN n] [Ql kb L.fb pv (Qb q.b) k] fun en gs =>
 ∃ g' l,CK L kb pv (if n<=0 then .nil else .at (some (.ready i)) (.bK n)) en g' l/\gs=[g',l,Ql kb L.fb pv (Qb q.b) k]:=by
 have HQ:=Vh hq;clear hq;by_cases hn:n<=0
 ·rw [if_pos hn]
  refine GO fun w HT=>?_
  go_enter func277,ntmps277
  go_wp2
  exact WR (v:=.agg #[WK,WK]) (by simp [results,results277,go_sem]) rfl ⟨_,⟨[],[],⟨_,_,rfl,fun e he=>⟨rfl,rfl,rfl⟩⟩,rfl⟩,(((HT.aN _).aN _).aN _).sum⟩
 ·rw [if_neg hn]
  refine GO fun w HT=>?_
  have k10:=HT.c 0 0 10;simp only [Xh,aC] at k10;have lt:=HT.l 0 0;simp only [] at lt;have nU:kb<w.heap.size+1:=by omega
  have lt2:kb<w.heap.size+1+1:=by omega
  go_enter func277,ntmps277
  go_wp2_with fail
  refine Qa.run (EL _ _ _ _ _ _) (((HT.a _ _).alloc (k:=w.heap.size+1) (by simp) _ _).alloc (k:=w.heap.size+1+1) (by simp) _ _) [] ?_
  rintro e w1 gs ⟨rfl,rfl⟩ HT;simp only [PU] at HT;clear k10 lt nU lt2;obtain ⟨r0,r1⟩:=HT.c2 3 0 0 1;obtain ⟨df,dm⟩:=HT.f2 3 0 0 1;simp only [aT] at r0 r1;go_wp2
  exact WR (v:=.agg #[_,_]) (by simp [results,results277,go_sem,r0,r1]) rfl ⟨_,⟨[],[cl w.heap.size 88 #[Qb kb],cl (w.heap.size+1) 3 #[WL WN n]],⟨_,_,rfl,fun e he=>⟨[],[],⟨rfl,q,HQ,rfl⟩,⟨rfl,w.heap.size,w.heap.size+1,rfl,he _ (by simp),he _ (by simp)⟩,rfl⟩⟩,rfl⟩,(((HT.set 3 0 rfl 0 _).set 3 0 rfl 1 _).p [1,2,0]).sum⟩
theorem Ti:Qa prog 293 #[Qb kb] [Ql kb L.fb pv sv k] fun en gs =>
 ∃ g' l,CK L kb pv (if k.t.slot<0 then .nil else .at none .bz) en g' l/\gs=[g',l,Ql kb L.fb pv sv k]:=by
 by_cases hn:k.t.slot<0
 ·rw [if_pos hn]
  refine GO fun w HT=>?_
  have k12:=HT.c 0 0 12;simp only [Xh,aC] at k12;have lt:=HT.l 0 0;simp only [] at lt;go_enter func293,ntmps293
  go_wp2
  exact WR (v:=.agg #[WK,WK]) (by simp [results,results293,go_sem]) rfl ⟨_,⟨[],[],⟨_,_,rfl,fun e he=>⟨rfl,rfl,rfl⟩⟩,rfl⟩,((HT.aN _).aN _).sum⟩
 ·rw [if_neg hn]
  refine GO fun w HT=>?_
  have k12:=HT.c 0 0 12;simp only [Xh,aC] at k12;have lt:=HT.l 0 0;simp only [] at lt;go_enter func293,ntmps293
  go_wp2_with fail
  refine Qa.run (nz _ _ _) ((HT.a _ _).alloc (k:=w.heap.size+1) (by simp) _ _) [] ?_
  rintro e w1 gs ⟨rfl,rfl⟩ HT;simp only [PU] at HT;clear k12 lt;obtain ⟨r0,r1⟩:=HT.c2 2 0 0 1;obtain ⟨df,dm⟩:=HT.f2 2 0 0 1;simp only [aT] at r0 r1;go_wp2
  exact WR (v:=.agg #[_,_]) (by simp [results,results293,go_sem,r0,r1]) rfl ⟨_,⟨[],[cl w.heap.size 88 #[Qb kb]],⟨_,_,rfl,fun e he=>⟨rfl,rfl,w.heap.size,rfl,he _ (by simp)⟩⟩,rfl⟩,(((HT.set 2 0 rfl 0 _).set 2 0 rfl 1 _).p [1,0]).sum⟩
def F9 (L:Lay) (kb:Nat) (pv sv:Value) (bd d:Nat) (s:ST) (k:Xd) (D R:List ak) (en:XI) (gs:GH):Prop :=
 ∃ (g' l:List ak) (m dd:Value),en=WS (.agg #[m,dd])/\(∀ e1:ET,(∀ b∈l,b∈e1.1)->e1.2[d]?=some bd->(mE L kb pv).SV e1 s m dd g')/\gs=[g',l,Ql kb L.fb pv sv k,D,R]
theorem PI (d bd i:Nat) (v:Value) (gr:List ak) (hr:Q1 40 5 v k.due.length (Ai k.due) gr) (hi:i<=1000001):Qa prog 282 #[Qb kb,Qb bd,WL WN i] [Ql kb L.fb pv sv k,[cl bd 354 #[v]],gr]
 (F9 L kb pv sv bd d (Qm d i ⟨k,x,ws,p⟩).1 (Qm d i ⟨k,x,ws,p⟩).2.k [cl bd 354 #[v]] gr):=by
 unfold F9;obtain ⟨av,cap,rfl⟩:=Q1.val hr;have HR:=Vh hr
 have hcap:k.due.length<=maxLen:=by
  rcases Nat.eq_zero_or_pos k.due.length with h0 | h0
  ·rw [h0];unfold maxLen;omega
  ·obtain ⟨_,_,_,_,_,h1,h2,_⟩:=hr.open h0;exact Nat.le_trans h1 h2
 unfold maxLen at hcap;cases hdi:k.due[i]? with
 | none =>
   have hlt:¬ i<k.due.length:=by rw [List.getElem?_eq_none_iff] at hdi;omega
   have he:Qm d i ⟨k,x,ws,p⟩=(.nil,⟨k,x,ws,p⟩):=by unfold Qm;simp only [hdi]
   rw [he];dsimp only
   have hge:k.due.length<=i:=by omega
   clear he hdi hr;refine GO fun w HT=>?_
   go_enter func282,ntmps282
   go_wp2_with fail
   have HT:=Vh ((((HT.a 88 #[Qb kb]).alloc (k:=w.heap.size+1) (by simp) 358 #[Qb bd]).alloc (k:=w.heap.size+1+1) (by simp) 3 #[WL WN i]).alloc (k:=w.heap.size+1+1+1) (by simp) 153 #[WK,WK]);generalize WV (WV (WV (WV w _) _) _) _=w1 at HT |-;have b0:=HT.c 4 0 0;simp only [aT] at b0;have c0:=HT.c 5 0 0;simp only [aT] at c0;have xL:=HT.c 1 0 0;simp only [aT] at xL;go_region
   have HT:=Vh HT.out.drew;clear b0 c0 xL;generalize XF _=w2 at HT |-;obtain ⟨r0,r1⟩:=HT.c2 6 0 0 1;obtain ⟨df,dm⟩:=HT.f2 6 0 0 1;simp only [aT] at r0 r1;go_wp2
   exact WR (v:=.agg #[WK,WK]) (by simp [results,results282,go_sem,r0,r1]) rfl ⟨_,⟨[],[],_,_,rfl,fun e he _=>⟨rfl,rfl,rfl⟩,rfl⟩,(((HT.set 6 0 rfl 0 _).set 6 0 rfl 1 _).p [0,1,2]).sum⟩
 | some t =>
   have hlt:i<k.due.length:=(XE.1 hdi).1;have he:Qm d i ⟨k,x,ws,p⟩=(.thn (.at none .looks) (.aD d i),⟨{ k with t:=t },x,ws,p⟩):=by unfold Qm;simp only [hdi]
   rw [he];dsimp only
   obtain ⟨rb,cap',cur,hv,rfl,_,_,_,dN⟩:=hr.open (by omega);cases hv
   have DF:=SL hdi;have hc:∀ j,j<5->cur[i*5+j]?=t.cells[j]?:=fun j hj=>(dN _ (by omega)).trans (DF j hj)
   have hc0:=hc 0 (by decide);have hc1:=hc 1 (by decide);have hc2:=hc 2 (by decide);have hc3:=hc 3 (by decide);have hc4:=hc 4 (by decide);simp only [Qn.cells,aC,Nat.add_zero] at hc0 hc1 hc2 hc3 hc4;have p9:=Vh (XH hc0 (XH hc1 (XH hc2 (XH hc3 hc4))));clear he hdi hr DF hc dN hc0 hc1 hc2 hc3 hc4;refine GO fun w HT=>?_
   go_enter func282,ntmps282
   go_wp2_with fail
   obtain ⟨b1,hb1⟩:∃ b1,b1=w.heap.size:=⟨_,rfl⟩;obtain ⟨b2,hb2⟩:∃ b2,b2=w.heap.size+1:=⟨_,rfl⟩;obtain ⟨b3,hb3⟩:∃ b3,b3=w.heap.size+1+1:=⟨_,rfl⟩;obtain ⟨b4,hb4⟩:∃ b4,b4=w.heap.size+1+1+1:=⟨_,rfl⟩;have HT:=Vh ((((HT.alloc (k:=b1) hb1 88 #[Qb kb]).alloc (k:=b2) (by rw [hb2];simp) 358 #[Qb bd]).alloc (k:=b3) (by rw [hb3];simp) 3 #[WL WN i]).alloc (k:=b4) (by rw [hb4];simp) 153 #[WK,WK]);rw [<- hb4,<- hb3,<- hb2,<- hb1];clear hb1 hb2 hb3 hb4;generalize WV (WV (WV (WV w _) _) _) _=w1 at HT |-;have a0:=HT.c 3 0 0;simp only [aT] at a0;have b0:=HT.c 4 0 0;simp only [aT] at b0;have c0:=HT.c 5 0 0;simp only [aT] at c0;have xL:=HT.c 1 0 0;simp only [aT] at xL;go_region
   have HT:=Vh HT.out.drew;clear b0 c0 xL a0;generalize XF _=w2 at HT |-;have a0:=HT.c 3 0 0;simp only [aT] at a0;have b0:=HT.c 4 0 0;simp only [aT] at b0;have c0:=HT.c 5 0 0;simp only [aT] at c0;have xL:=HT.c 1 0 0;simp only [aT] at xL;have e0:=(HT.cell 2 0 rfl (i*5)).trans p9.1;have e1:=(HT.cell 2 0 rfl (i*5+1)).trans p9.2.1;have e2:=(HT.cell 2 0 rfl (i*5+2)).trans p9.2.2.1;have e3:=(HT.cell 2 0 rfl (i*5+3)).trans p9.2.2.2.1;have e4:=(HT.cell 2 0 rfl (i*5+4)).trans p9.2.2.2.2;obtain ⟨k11,k12,k13,k14,k15⟩:=HT.c5 0 0 11 12 13 14 15;obtain ⟨sN,yM,nK,nL,yN⟩:=HT.f5 0 0 11 12 13 14 15;simp only [Xh,aC] at k11 k12 k13 k14 k15;go_wp2_with fail
   go_region
   have HT:=Vh (((((((HT.set 0 0 rfl 11 (WL WQ t.id)).set 0 0 rfl 12 (WL WN t.slot)).set 0 0 rfl 13 (WL WQ t.gen)).set 0 0 rfl 14 (WL WQ t.dl)).set 0 0 rfl 15 (WL WQ t.per)).drew).eq (H':=[Ql kb L.fb pv sv { k with t:=t },[cl bd 354 #[.slice (some ⟨rb,0,none⟩) k.due.length cap]],[cl rb 40 cur],[cl b1 88 #[Qb kb]],[cl b2 358 #[Qb bd]],[cl b3 3 #[WL WN i]],[cl b4 153 #[WK,WK]]]) rfl);clear a0 b0 c0 xL e0 e1 e2 e3 e4 k11 k12 k13 k14 k15 sN yM nK nL yN;generalize XF _=w3 at HT |-;have a0:=HT.c 3 0 0;simp only [aT] at a0;go_wp2_with fail
   refine Qa.run (nz _ _ _) (HT) [] ?_
   rintro e w1 gs ⟨rfl,rfl⟩ HT;simp only [PU] at HT;clear a0;go_wp2_with fail
   refine Qa.run (aZ.bS (c:=(mE L kb pv).on ([cl b1 88 #[Qb kb],cl b2 358 #[Qb bd],cl b3 3 #[WL WN i]],List.replicate (d+1) bd)) (s:=.at none .looks) (f:=MT.aD d i) (v:=WM (WO 299) #[] #[Qb b1,Qb b2,Qb b3]) (g:=[]) (gm:=[]) (Q6 L kb pv _) rfl ⟨rfl,rfl,rfl⟩ ⟨rfl,b1,b2,b3,bd,rfl,by simp [gu],by simp,by simp,by simp⟩) (HT.sum (H':=[Ql kb L.fb pv sv { k with t:=t },[cl bd 354 #[.slice (some ⟨rb,0,none⟩) k.due.length cap]],[cl rb 40 cur],[cl b1 88 #[Qb kb]],[cl b2 358 #[Qb bd]],[cl b3 3 #[WL WN i]],[cl b4 153 #[WK,WK]],[],[]])) [7,8] ?_
   rintro e w1 gs ⟨bs,br,rfl,rfl⟩ HT;simp only [PU] at HT;obtain ⟨r0,r1⟩:=HT.c2 6 0 0 1;obtain ⟨df,dm⟩:=HT.f2 6 0 0 1;simp only [aT] at r0 r1;go_wp2
   exact WR (v:=.agg #[_,_]) (by simp [results,results282,go_sem,r0,r1]) rfl ⟨_,⟨_,[cl b1 88 #[Qb kb],cl b2 358 #[Qb bd],cl b3 3 #[WL WN i]],_,_,rfl,fun e1 he hd2=>⟨bs,br,_,_,[],[],rfl,rfl,⟨rfl,rfl,rfl⟩,⟨rfl,b1,b2,b3,bd,rfl,he _ (by simp),hd2,he _ (by simp),he _ (by simp)⟩,rfl⟩,rfl⟩,(((HT.set 6 0 rfl 0 _).set 6 0 rfl 1 _).p [7,3,4,5,0,1,2]).sum⟩
end
theorem MJ {fn:WZ} {first aK:Array Value} {gs:GH} {R:XI->GH->Prop} (eg:∀ args w,(callFunc fn args).run prog w=.ok (.enter fn args) w) (hd:Qa prog fn (first++aK) gs R)
 (hR:∀ en gs',R en gs'->∃ m d,en=WS (.agg #[m,d])/\aZ.eQ m/\aZ.eQ d):Qa prog 196 #[.agg #[WK,WK],WM (WO fn) first aK] gs R:=by
 refine GO fun w HT=>?_
 have HD:=Vh hd;have HR:=Vh hR;have q1:=fun w=>Ew w
 clear hd hR;go_enter func196,ntmps196
 go_wp2_with fail
 have T1:=(((HT.a 153 #[WK,WK]).alloc (k:=w.heap.size+1) (by simp) 151 #[WM (WO fn) first aK]).alloc (k:=w.heap.size+1+1) (by simp) 153 #[WK,WK]).eq (H':=gs++([[cl w.heap.size 153 #[WK,WK]],[cl (w.heap.size+1) 151 #[WM (WO fn) first aK]]]++[[cl (w.heap.size+1+1) 153 #[WK,WK]]])) (by simp);refine (HD _ T1.has.left).mono ?_
 rintro en w1 ⟨gs',hr,T2⟩;have T3:=(T1.trans (T2.frame T1.has)).eq (H':=(gs'++[[cl w.heap.size 153 #[WK,WK]],[cl (w.heap.size+1) 151 #[WM (WO fn) first aK]]])++[[cl (w.heap.size+1+1) 153 #[WK,WK]]]) (by simp);obtain ⟨m',d',rfl,v1,v2⟩:=HR.out _ _ hr;have c0:=T3.iK 0;have c1:=T3.iK 1;have f0:=T3.iM 0;have f1:=T3.iM 1;simp only [aC] at c0 c1;have HT:=Vh T3;have HRR:=Vh hr;clear T1 T2 T3 hr HR;rcases v1 with rfl | ⟨pO,eF,fZ,rfl⟩ <;> rcases v2 with rfl | ⟨Dk,lu,o9,rfl⟩
 all_goals
  go_wp2
  exact WR (v:=.agg #[_,_]) (by simp [results,results196,go_sem,c0,c1]) rfl ⟨gs',HRR,(((((HT.setLast 0 _).setLast 1 _).dropLast).eq (H':=(gs'++[[cl w.heap.size 153 #[WK,WK]]])++[[cl (w.heap.size+1) 151 #[WM (WO fn) first aK]]]) (by simp)).dropLast.dropLast)⟩
theorem dM.fv {L:Lay} {kb:Nat} {pv:Value} {e:ET} {s:ST} {z:ZT} {en:XI} {gs:GH} (h:dM L kb pv e s z en gs):∃ m d,en=WS (.agg #[m,d])/\aZ.eQ m/\aZ.eQ d:=by
 obtain ⟨e',_,m,d,g',gK,gF,he,hs,_⟩:=h;obtain ⟨h1,h2⟩:=(Q6 L kb pv e').vals hs;exact ⟨m,d,he,h1,h2⟩
theorem xw {L:Lay} {x:Qi} {ws:List Qg} {p:Qz} {k:Xd} {gC gW:List ak} (hx:Qf L x gC) (hw:Js L ws gW) (ho:xy ⟨k,x,ws,p⟩) (h:lF ⟨k,x,ws,p⟩) :
 ∃ i q s S,k.s=some i/\L.qs[i]?=some q/\x.au[i]?=some s/\ws[i]?=some S/\Q9 L k=Qb q.b/\ZT.sh ⟨k,x,ws,p⟩=i/\ZT.aU ⟨k,x,ws,p⟩=s/\ZT.wh ⟨k,x,ws,p⟩=S/\yl S/\zx s.ring/\0<=s.turns/\s.turns<=1000000:=by
 obtain ⟨i,hi⟩:=h;simp only at hi;have hlt:=ho.sh i hi;simp only at hlt
 have hq:∃ q,L.qs[i]?=some q:=by
  obtain ⟨q,hq,_⟩:=Pq hx hlt;exact ⟨q,hq⟩
 obtain ⟨q,hq⟩:=hq;obtain ⟨s,hs⟩:∃ s,x.au[i]?=some s:=⟨_,XG hlt⟩;have hwl:i<ws.length:=by have:=ho.ws;simp only at this;omega
 obtain ⟨S,hS⟩:∃ S,ws[i]?=some S:=⟨_,XG hwl⟩;have e1:ZT.sh ⟨k,x,ws,p⟩=i:=by simp [ZT.sh,hi]
 refine ⟨i,q,s,S,hi,hq,hs,hS,by simp [Q9,hi,hq],e1,?_,?_,ho.kE S (WY hS),ho.core.ring s (WY hs),(ho.turns s (WY hs)).1,(ho.turns s (WY hs)).2⟩
 ·unfold ZT.aU;rw [e1];simp [XB,hs]
 ·unfold ZT.wh;rw [e1];simp [XB,hS]
section
variable {L:Lay} {x:Qi} {ws:List Qg} {p:Qz} {e:ET} {g gC gK gF:List ak} {kb:Nat} {pv sv:Value} {k:Xd}
theorem Vm (d:Nat) (hz:zf L kb pv e ⟨k,x,ws,p⟩ gK gF) (bk bd:Nat) (hb:gu kb bk e) (hbd:e.2[d]?=some bd) :
 Qa prog 278 #[Qb bk,Qb bd] [gK,gF] (dM L kb pv e (J1 d ⟨k,x,ws,p⟩).1 (J1 d ⟨k,x,ws,p⟩).2):=by
 unfold dM J1;dsimp only
 have HB:=Vh hb;have ng:=Vh hbd;obtain ⟨gd,gC,gW,gP,hd,hx,hw,aW,rfl,rfl⟩:=hz;refine GO fun w HT=>?_
 have HT:=Vh (HT.out.m [Ql kb L.fb pv (Q9 L k) k,gd,e.1,gC,gW,gP]);have HX:=Vh hx;have HD:=Vh hd;have HW:=Vh hw;have bD:=Vh aW;clear hx hd hw aW;clear hb hbd;go_enter func278,ntmps278
 go_wp2_with fail
 refine Qa.run (aZ.eO (b:=w.heap.size+1) (o:=0) (D:=#[WM (WO 279) #[] #[Qb bk,Qb bd]]) rfl 1 (.inl rfl)) ((HT.a 153 #[WK,WK]).alloc (k:=w.heap.size+1) (by simp) _ _) [7] ?_
 rintro e w1 gs ⟨bf,bl,bi,rfl,rfl⟩ HT;simp only [PU] at HT
 have hsv:(mE L kb pv).SV e (.ai (.bH d)) WK (WM (WO 209) #[] #[Qb bf,Qb bl,Qb bi]) ([cl bf 1 #[WM (WO 279) #[] #[Qb bk,Qb bd]],cl bl 322 #[.slice (some ⟨w.heap.size+1,0,none⟩) 1 1],cl bi 3 #[WL WN 0],cl (w.heap.size+1) 1 #[WM (WO 279) #[] #[Qb bk,Qb bd]]]++[]) :=
  ⟨rfl,bf,bl,bi,w.heap.size+1,0,_,_,_,rfl,⟨rfl,bk,bd,rfl,HB,ng⟩,rfl,rfl⟩
 have fM:=Vh hsv;clear hsv;go_wp2_with fail
 refine Qa.run (aZ.bS (c:=(mE L kb pv).on e) (f:=MT.aM d) (v:=WM (WO 281) #[] #[Qb bk,Qb bd]) (gm:=[]) (Q6 L kb pv _) rfl fM ⟨rfl,bk,bd,rfl,HB,ng⟩) (HT.sum (H':=[Ql kb L.fb pv (Q9 L k) k,gd,e.1,gC,gW,gP,[cl w.heap.size 153 #[WK,WK]],[cl bf 1 #[WM (WO 279) #[] #[Qb bk,Qb bd]],cl bl 322 #[.slice (some ⟨w.heap.size+1,0,none⟩) 1 1],cl bi 3 #[WL WN 0],cl (w.heap.size+1) 1 #[WM (WO 279) #[] #[Qb bk,Qb bd]]]++[],[]])) [7,8] ?_
 rintro e w1 gs ⟨bs,br,rfl,rfl⟩ HT;simp only [PU] at HT;obtain ⟨r0,r1⟩:=HT.c2 6 0 0 1;obtain ⟨df,dm⟩:=HT.f2 6 0 0 1;simp only [aT] at r0 r1;go_wp2
 exact WR (v:=.agg #[_,_]) (by simp [results,results278,go_sem,r0,r1]) rfl ⟨_,⟨e,dH.refl e,_,_,_,_,_,rfl,⟨bs,br,_,_,_,[],rfl,rfl,fM,⟨rfl,bk,bd,rfl,HB,ng⟩,rfl⟩,⟨gd,gC,gW,gP,HD,HX,HW,bD,rfl,rfl⟩,rfl⟩,(((HT.set 6 0 rfl 0 _).set 6 0 rfl 1 _).p [7,0,1,2,3,4,5]).sum⟩
theorem SI (hz:zf L kb pv e ⟨k,x,ws,p⟩ gK gF) (bk:Nat) (hb:gu kb bk e) :
 Qa prog 283 #[Qb bk] [gK,gF] (dM L kb pv e (.ai .unlock) ⟨k,x,ws,p⟩):=by
 unfold dM;have HB:=Vh hb;obtain ⟨gd,gC,gW,gP,hd,hx,hw,aW,rfl,rfl⟩:=hz;refine GO fun w HT=>?_
 have HT:=Vh (HT.out.m [Ql kb L.fb pv (Q9 L k) k,gd,e.1,gC,gW,gP]);have HX:=Vh hx;have HD:=Vh hd;have HW:=Vh hw;have bD:=Vh aW;clear hx hd hw aW;clear hb;go_enter func283,ntmps283
 go_wp2_with fail
 refine Qa.run (aZ.eO (b:=w.heap.size+1) (o:=0) (D:=#[WM (WO 284) #[] #[Qb bk]]) rfl 1 (.inl rfl)) ((HT.a 153 #[WK,WK]).alloc (k:=w.heap.size+1) (by simp) _ _) [7] ?_
 rintro e w1 gs ⟨bf,bl,bi,rfl,rfl⟩ HT;simp only [PU] at HT;obtain ⟨r0,r1⟩:=HT.c2 6 0 0 1;obtain ⟨df,dm⟩:=HT.f2 6 0 0 1;simp only [aT] at r0 r1;go_wp2
 exact WR (v:=.agg #[_,_]) (by simp [results,results283,go_sem,r0,r1]) rfl ⟨_,⟨e,dH.refl e,_,_,_,_,_,rfl,⟨rfl,bf,bl,bi,w.heap.size+1,0,#[WM (WO 284) #[] #[Qb bk]],_,[],rfl,⟨rfl,bk,rfl,HB⟩,rfl,rfl⟩,⟨gd,gC,gW,gP,HD,HX,HW,bD,rfl,rfl⟩,rfl⟩,(((HT.set 6 0 rfl 0 _).set 6 0 rfl 1 _).p [8,9,10,7,0,1,2,3,4,5]).sum⟩
end
theorem U7 {G:Prop} {α:Type} {P A:α->World->Prop} (main:(∀ a w2,A a w2->P a w2)->G) (key:∀ a w2,A a w2->P a w2):G:=main key
section
variable {L:Lay} {x:Qi} {ws:List Qg} {p:Qz} {e:ET} {g gC gK gF:List ak} {kb:Nat} {pv sv:Value} {k:Xd}
theorem Vn (n:Int) (hz:zf L kb pv e ⟨k,x,ws,p⟩ gK gF) (ho:xy ⟨k,x,ws,p⟩) (hh:lF ⟨k,x,ws,p⟩) (hn:0<=n/\n<=1000000) (bk bi:Nat) (hb:gu kb bk e) (hbi:cl bi 3 #[WL WN n]∈e.1) :
 Qa prog 294 #[Qb bk,Qb bi] [gK,gF] (dM L kb pv e (Q2 (n - 1) ⟨k,x,ws,p⟩) ⟨k,x,ws,p⟩):=by
 unfold dM;obtain ⟨gd,gC,gW,gP,hd,hx,hw,aW,rfl,rfl⟩:=hz;obtain ⟨i,q,s,S,hki,hq,hs,hS,hsv,hsh,hss,jv,hwo,hrb,ht0,ht1⟩:=xw hx hw ho hh;have hpo:=QH (kb:=kb) (pv:=pv) (k:=k) hq (n - 1);rw [<- hsv,<- hsh] at hpo;have hpo:Qa prog 277 #[Qb kb,WL WN (n - 1)] [Ql kb L.fb pv (Q9 L k) k] fun en gs=>∃ g' l,CK L kb pv (Q2 (n - 1) ⟨k,x,ws,p⟩) en g' l/\gs=[g',l,Ql kb L.fb pv (Q9 L k) k]:=hpo
 generalize Q2 (n - 1) ⟨k,x,ws,p⟩=st at *;refine GO fun w HT=>?_
 have C5:=Vh hpo;have HT:=Vh (HT.out.m [Ql kb L.fb pv (Q9 L k) k,gd,e.1,gC,gW,gP]);have HX:=Vh hx;have HD:=Vh hd;have HW:=Vh hw;have bD:=Vh aW;obtain ⟨hn0,hn1⟩:=hn;clear hx hd hw aW hpo hq hs hS hki hsv hsh hss jv hwo hrb ht0 ht1 ho hh;have HB:=Vh (show cl bk 88 #[Qb kb]∈e.1 from hb);clear hb;have b0:=HT.aj 2 HB 0;have bI:=HT.bg 2 HB;simp only [bR] at b0 bI;have lN:=Vh (show cl bi 3 #[WL WN n]∈e.1 from hbi);clear hbi;have i0:=HT.aj 2 lN 0;have nV:=HT.bg 2 lN;simp only [bR] at i0 nV;go_enter func294,ntmps294
 go_wp2_with fail
 refine Qa.run C5 (HT.a _ _) [0] ?_
 rintro e w1 gs ⟨g2,l2,⟨m2,d2,rfl,hs2⟩,rfl⟩ HT;simp only [PU] at HT;clear b0 i0 bI nV;obtain ⟨r0,r1⟩:=HT.c2 6 0 0 1;obtain ⟨df,dm⟩:=HT.f2 6 0 0 1;simp only [aT] at r0 r1;have hv2:=(Q6 L kb pv (l2,[])).vals (hs2 (l2,[]) (fun _ h=>h));obtain ⟨st1,st2⟩:=aZ.aG (P:=prog) hv2.1 hv2.2 r0 df r1 dm;have HS:=Vh hs2;clear hv2 hs2;go_wp2
 exact WR (v:=.agg #[_,_]) (by simp [results,results294,go_sem,r0,r1]) rfl ⟨_,⟨(e.1++l2,e.2),dH.app e l2,m2,d2,g2,_,_,rfl,HS _ (fun b hb=>WU _ hb),⟨gd,gC,gW,gP,HD,HX,HW,bD,rfl,rfl⟩,rfl⟩,(((HT.set 6 0 rfl 0 _).set 6 0 rfl 1 _).p [0,8,1,2,7,3,4,5]).sum⟩
theorem zak (n:Int) (hz:zf L kb pv e ⟨k,x,ws,p⟩ gK gF) (hp:jR (.bK n) ⟨k,x,ws,p⟩) (bk bi:Nat) (hb:gu kb bk e) (hbi:cl bi 3 #[WL WN n]∈e.1) :
 Qa prog 292 #[Qb bk,Qb bi] [gK,gF] (dM L kb pv e (runT (.bK n) ⟨k,x,ws,p⟩).1 (runT (.bK n) ⟨k,x,ws,p⟩).2):=by
 obtain ⟨ho,hh,hn0,hn1,hok2⟩:=hp;have hn:=XH hn0 hn1;clear hn0 hn1;obtain ⟨gd,gC,gW,gP,hd,hx,hw,aW,rfl,rfl⟩:=hz;obtain ⟨i,q,s,S,hki,hq,hs,hS,hsv,hsh,hss,jv,hwo,hrb,ht0,ht1⟩:=xw hx hw ho hh;have zK:=q5v hx hq hs hrb
 have hz2:runT (.bK n) ⟨k,x,ws,p⟩=(if (J4 s.ring).2.1.slot<0 then Q2 (n - 1) ⟨{ k with t:=(J4 s.ring).2.1 },{ x with au:=x.au.set i { s with ring:=(J4 s.ring).1 } },ws,p⟩ else .thn (.at none .bz) (.ax n),⟨{ k with t:=(J4 s.ring).2.1 },{ x with au:=x.au.set i { s with ring:=(J4 s.ring).1 } },ws,p⟩):=by
  simp only [runT,ZT.cZ,hss,hsh];split <;> rfl
 rw [hz2] at hok2 |-;dsimp only at hok2 |-
 generalize J4 s.ring=pr at *;obtain ⟨r1,t1,pe⟩:=pr;simp only at zK hok2 |-;have hrc:=Ti (L:=L) (kb:=kb) (pv:=pv) (sv:=Q9 L k) (k:={ k with t:=t1 });have OT:lF ⟨{ k with t:=t1 },{ x with au:=x.au.set i { s with ring:=r1 } },ws,p⟩:=⟨i,hki⟩;obtain ⟨st,hst⟩:∃ st:ST,st=((if t1.slot<0 then Q2 (n - 1) ⟨{ k with t:=t1 },{ x with au:=x.au.set i { s with ring:=r1 } },ws,p⟩ else .thn (.at none .bz) (.ax n)):ST):=⟨_,rfl⟩;rw [<- hst];have HST:=Vh hst;clear hst;have D9:∀ (e':ET) gK gF,zf L kb pv e' ⟨{ k with t:=t1 },{ x with au:=x.au.set i { s with ring:=r1 } },ws,p⟩ gK gF->gu kb bk e'->cl bi 3 #[WL WN n]∈e'.1->_:=fun e' gK gF hz h1 h2=>Vn n hz hok2 OT hn bk bi h1 h2
 refine GO fun w HT=>?_
 have I7:=Vh zK;have wm:=Vh hrc;have Cy:=Vh D9;have fM:=Vh hsv;have HT:=Vh (HT.out.m [Ql kb L.fb pv (Q9 L k) k,gd,e.1,gC,gW,gP]);have HX:=Vh hx;have HD:=Vh hd;have HW:=Vh hw;have bD:=Vh aW;have k10:=HT.c 0 0 10;simp only [Xh,aC,hsv] at k10;clear hx hd hw aW zK hrc D9 hq hs hS hki hsv hsh hss jv hwo hrb ht0 ht1 ho hh hok2 OT hz2 hn;have HB:=Vh (show cl bk 88 #[Qb kb]∈e.1 from hb);clear hb;have b0:=HT.aj 2 HB 0;have bI:=HT.bg 2 HB;simp only [bR] at b0 bI;have lN:=Vh (show cl bi 3 #[WL WN n]∈e.1 from hbi);clear hbi;have i0:=HT.aj 2 lN 0;have nV:=HT.bg 2 lN;simp only [bR] at i0 nV;go_enter func292,ntmps292
 go_wp2_with fail
 have HT:=Vh (HT.out.a 153 #[WK,WK]);clear b0 i0 bI nV k10;generalize WV w _=w1 at HT |-;have b0:=HT.aj 2 HB 0;have k10:=HT.c 0 0 10;simp only [Xh,aC,fM.out] at b0 k10;apply U7 (A:=fun (g1:List ak) w5=>Qf L { x with au:=x.au.set i { s with ring:=r1 } } g1/\TG [Ql kb L.fb pv (Q9 L k) k++(gd++e.1),gC++(gW++gP)] w [Ql kb L.fb pv (Q9 L k) { k with t:=t1 },gd,e.1,g1,gW,gP,[cl w.heap.size 153 #[WK,WK]]] w5)
 case main =>
  intro key
  go_region_with (
   go_at_call 18
   refine (Qa.use I7 HT.drew [3] rfl rfl).mono ?_
   rintro en w2 ⟨gs,⟨rfl,g1,hx1,rfl⟩,Ta⟩;simp only [PU] at Ta;have b1:=Ta.aj 2 HB 0;simp only [bR] at b1;obtain ⟨c11,c12,c13,c14,c15⟩:=Ta.c5 0 0 11 12 13 14 15;simp only [Xh,aC] at c11 c12 c13 c14 c15;obtain ⟨f11,f12,f13,f14,f15⟩:=Ta.f5 0 0 11 12 13 14 15;simp only [Qn.cells];have jZ:=Vh hx1;have HT1:=Vh Ta
   clear Ta hx1)
  all_goals
   have T5:=(((((HT1.set 0 0 rfl 11 (WL WQ t1.id)).set 0 0 rfl 12 (WL WN t1.slot)).set 0 0 rfl 13 (WL WQ t1.gen)).set 0 0 rfl 14 (WL WQ t1.dl)).set 0 0 rfl 15 (WL WQ t1.per)).eq (H':=[Ql kb L.fb pv (Q9 L k) { k with t:=t1 },gd,e.1,g1,gW,gP,[cl w.heap.size 153 #[WK,WK]]]) rfl;generalize XK _ _ _=w5 at T5 |-;exact key g1 w5 ⟨jZ,T5⟩
 case key =>
  rintro g1 w5 ⟨hx5,T5⟩;have O5:=Vh hx5;have HT:=Vh T5;clear hx5 T5 b0 k10 HX;have b0:=HT.aj 2 HB 0;have i0:=HT.aj 2 lN 0;simp only [bR] at b0 i0;have hrc:=wm.out;by_cases hsl:t1.slot<0
  ·rw [if_pos hsl] at hrc
   have hst:=HST.out;clear HST;rw [if_pos hsl] at hst;subst hst;have wm:=Vh hrc;clear hrc hsl;go_wp2_with fail
   refine Qa.run wm HT [0] ?_
   rintro e w1 gs ⟨g2,l2,⟨m2,d2,rfl,hs2⟩,rfl⟩ HT;simp only [PU] at HT;clear b0;obtain ⟨rfl,rfl,rfl⟩:=hs2 (l2,[]) (fun _ h=>h);clear hs2;have hth:=MJ (first:=#[]) (aK:=#[Qb bk,Qb bi]) (enters_of func294 (by kernel_rfl) rfl) (Cy (e.1++l2,e.2) (Ql kb L.fb pv (Q9 L k) { k with t:=t1 }++(gd++(e.1++l2))) (g1++(gW++gP)) ⟨gd,g1,gW,gP,HD,O5,HW,bD,rfl,rfl⟩ (WT _ HB) (WT _ lN)) (fun _ _ h=>dM.fv h);obtain ⟨gT,pQ⟩:∃ gT,gT=Ql kb L.fb pv (Q9 L k) { k with t:=t1 }:=⟨_,rfl⟩;have iJ:=HT.out;rw [<- pQ] at hth iJ;have kG:=Vh hth;have HT:=Vh iJ;clear hth iJ pQ;go_wp2_with fail
   refine Qa.run kG (HT.sum (H':=[gT++(gd++(e.1++l2)),g1++(gW++gP),[cl w.heap.size 153 #[WK,WK]]])) [0,1] ?_
   rintro e w1 gs ⟨e2,hl2,m3,d3,g3,AV,AU,rfl,hs3,hz3,rfl⟩ HT;simp only [PU] at HT;have HL2:=Vh hl2;have HZ3:=Vh hz3;clear hl2 hz3 i0;obtain ⟨r0,r1⟩:=HT.c2 2 0 0 1;obtain ⟨df,dm⟩:=HT.f2 2 0 0 1;simp only [aT] at r0 r1;have hv2:=(Q6 L kb pv e2).vals hs3;obtain ⟨st1,st2⟩:=aZ.aG (P:=prog) hv2.1 hv2.2 r0 df r1 dm;have HS:=Vh hs3;clear hv2 hs3;go_wp2
   exact WR (v:=.agg #[_,_]) (by simp [results,results292,go_sem,r0,r1]) rfl ⟨_,⟨e2,(dH.app e l2).trans HL2,m3,d3,g3,AV,AU,rfl,HS,HZ3,rfl⟩,((HT.set 2 0 rfl 0 _).set 2 0 rfl 1 _).p [0,1,3]⟩
  ·rw [if_neg hsl] at hrc
   have hst:=HST.out;clear HST;rw [if_neg hsl] at hst;subst hst;have wm:=Vh hrc;clear hrc hsl Cy;obtain ⟨gT,pQ⟩:∃ gT,gT=Ql kb L.fb pv (Q9 L k) { k with t:=t1 }:=⟨_,rfl⟩;go_wp2_with fail
   refine Qa.run wm HT [0] ?_
   rintro e w1 gs ⟨g2,l2,⟨m2,d2,rfl,hs2⟩,rfl⟩ HT;simp only [PU] at HT;clear b0;have iJ:=HT.out;rw [<- pQ] at iJ;have HT:=Vh iJ;have Iz:=Vh pQ;have HS:=Vh hs2;clear iJ pQ hs2;go_wp2_with fail
   refine Qa.run (aZ.bS (c:=(mE L kb pv).on (e.1++l2,e.2)) (s:=.at none .bz) (f:=MT.ax n) (v:=WM (WO 294) #[] #[Qb bk,Qb bi]) (gm:=[]) (Q6 L kb pv _) rfl (HS (e.1++l2,e.2) (fun b hb=>WU _ hb)) ⟨rfl,bk,bi,rfl,WT _ HB,WT _ lN⟩) (HT.sum (H':=[gT,gd,e.1,g1,gW,gP,[cl w.heap.size 153 #[WK,WK]],l2,g2,[]])) [8,9] ?_
   rintro e w1 gs ⟨bs,br,rfl,rfl⟩ HT;simp only [PU] at HT;clear i0;obtain ⟨r0,r1⟩:=HT.c2 6 0 0 1;obtain ⟨df,dm⟩:=HT.f2 6 0 0 1;simp only [aT] at r0 r1;have hv2:=(Q6 L kb pv _).vals (HS (e.1++l2,e.2) (fun b hb=>WU _ hb));obtain ⟨st1,st2⟩:=aZ.aG (P:=prog) (v':=WM (WO 237) #[] #[Qb bs,Qb br]) hv2.1 (Or.inr ⟨_,_,_,rfl⟩) r0 df r1 dm;clear hv2;go_wp2
   have HF:=(((HT.set 6 0 rfl 0 m2).set 6 0 rfl 1 (WM (WO 237) #[] #[Qb bs,Qb br])).p [8,0,1,2,7,3,4,5]).sum (H':=[[cl bs 153 #[m2,d2],cl br 151 #[WM (WO 294) #[] #[Qb bk,Qb bi]]]++g2++[],gT++(gd++(e.1++l2)),g1++(gW++gP)]);rw [Iz.out] at HF;exact WR (v:=.agg #[_,_]) (by simp [results,results292,go_sem,r0,r1]) rfl ⟨_,⟨(e.1++l2,e.2),dH.app e l2,_,_,_,_,_,rfl,⟨bs,br,_,_,g2,[],rfl,rfl,HS (e.1++l2,e.2) (fun b hb=>WU _ hb),⟨rfl,bk,bi,rfl,WT _ HB,WT _ lN⟩,rfl⟩,⟨gd,g1,gW,gP,HD,O5,HW,bD,rfl,rfl⟩,rfl⟩,HF⟩
end
def Ky (n:List ak->Nat) (a:ak):Nat:=n [a]
theorem TG.bG {h H H':GH} {w w':World} (T:TG h w H w')
 (hs:∀ n:List ak->Nat,(∀ x y,n (x++y)=n x+n y)->n []=0->(∀ a l,n (a::l)=Ky n a+n l)->n []=0->n H.flatten=n H'.flatten:=by intro n ha h0 h1 h2;simp only [SU,ha,h0,h1,h2] <;> omega):TG h w H' w' :=
 T.sum fun n ha h0 _ _=>hs n ha h0 (fun a l=>by show n ([a]++l)=_;rw [ha];rfl) h0
theorem MO {ds:List Nat} {k:Xd} {gd:List ak} {d bd:Nat} (h:xz ds k gd) (hc:k.nd=d+1) (hb:ds[d]?=some bd) :
 ∃ v gr,Q1 40 5 v k.due.length (Ai k.due) gr/\gd=[cl bd 354 #[v]]++gr:=by
 obtain ⟨h0,⟨h1,_⟩ | ⟨m,bd',v,gr,h1,h2,h3,h4⟩⟩:=h
 ·omega
 ·have:m=d:=by omega
  subst this;rw [hb] at h2;cases h2
  exact ⟨v,gr,h3,h4⟩
section
variable {L:Lay} {x:Qi} {ws:List Qg} {p:Qz} {e:ET} {g gC gK gF:List ak} {kb:Nat} {pv sv:Value} {k:Xd}
theorem q3b (d:Nat) (hz:zf L kb pv e ⟨k,x,ws,p⟩ gK gF) (hp:jR (.aM d) ⟨k,x,ws,p⟩) (bk bd:Nat) (hb:gu kb bk e) (hbd:e.2[d]?=some bd) :
 Qa prog 281 #[Qb bk,Qb bd] [gK,gF] (dM L kb pv e (runT (.aM d) ⟨k,x,ws,p⟩).1 (runT (.aM d) ⟨k,x,ws,p⟩).2):=by
 have hc:k.nd=d+1:=hp.2.2;clear hp;obtain ⟨gd,gC,gW,gP,hd,hx,hw,aW,rfl,rfl⟩:=hz;obtain ⟨v,gr,hr,rfl⟩:=MO hd hc hbd;have hfi:=PI (L:=L) (x:=x) (ws:=ws) (p:=p) (kb:=kb) (pv:=pv) (sv:=Q9 L k) (k:=k) d bd 0 v gr hr (by decide);unfold F9 at hfi;cases hq:k.due[0]? with
 | none =>
   rw [show runT (.aM d) ⟨k,x,ws,p⟩=(.ai .unlock,⟨k,x,ws,p⟩) by simp only [runT,hq]];rw [show Qm d 0 ⟨k,x,ws,p⟩=(.nil,⟨k,x,ws,p⟩) by simp only [Qm,hq]] at hfi;dsimp only at hfi |-
   have hcl:∀ (e':ET) gK gF,zf L kb pv e' ⟨k,x,ws,p⟩ gK gF->gu kb bk e'->_:=fun e' gK gF hz h1=>SI hz bk h1
   unfold dM at *;refine GO fun w HT=>?_
   have sF:=Vh hfi;have jU:=Vh hcl;have HT:=Vh (HT.out.bG (H':=[Ql kb L.fb pv (Q9 L k) k,[cl bd 354 #[v]],gr,e.1,gC,gW,gP]));have HX:=Vh hx;have HD:=Vh hd;have HW:=Vh hw;have bD:=Vh aW;have ng:=Vh hbd;clear hx hd hw aW hfi hcl hq hbd hr hc;have HB:=Vh (show cl bk 88 #[Qb kb]∈e.1 from hb);clear hb;have b0:=HT.aj 3 HB 0;have bI:=HT.bg 3 HB;simp only [bR] at b0 bI;go_enter func281,ntmps281
   go_wp2_with fail
   refine Qa.run sF (HT.a _ _) [0,1,2] ?_
   rintro e w1 gs ⟨g2,l2,m2,d2,rfl,hs2,rfl⟩ HT;simp only [PU] at HT;clear b0 bI;obtain ⟨rfl,rfl,rfl⟩:=hs2 (l2,e.2) (fun _ h=>h) ng;clear hs2;have hth:=MJ (first:=#[]) (aK:=#[Qb bk]) (enters_of func283 (by kernel_rfl) rfl) (jU (e.1++l2,e.2) (Ql kb L.fb pv (Q9 L k) k++(([cl bd 354 #[v]]++gr)++(e.1++l2))) (gC++(gW++gP)) ⟨[cl bd 354 #[v]]++gr,gC,gW,gP,HD,HX,HW,bD,rfl,rfl⟩ (WT _ HB)) (fun _ _ h=>dM.fv h);obtain ⟨gT,pQ⟩:∃ gT,gT=Ql kb L.fb pv (Q9 L k) k:=⟨_,rfl⟩;obtain ⟨gD,AY⟩:∃ gD,gD=[cl bd 354 #[v]]++gr:=⟨_,rfl⟩;have iJ:=HT.out;rw [<- pQ] at hth iJ;have iJ:=iJ.bG (H':=[gT,[cl bd 354 #[v]]++gr,e.1,gC,gW,gP,[cl w.heap.size 153 #[WK,WK]],l2]);rw [<- AY] at hth iJ;have kG:=Vh hth;have HT:=Vh iJ;clear hth iJ pQ AY;go_wp2_with fail
   refine Qa.run kG (HT.bG (H':=[gT++(gD++(e.1++l2)),gC++(gW++gP),[cl w.heap.size 153 #[WK,WK]]])) [0,1] ?_
   rintro e w1 gs ⟨e2,hl2,m3,d3,g3,AV,AU,rfl,hs3,hz3,rfl⟩ HT;simp only [PU] at HT;have HL2:=Vh hl2;have HZ3:=Vh hz3;clear hl2 hz3;obtain ⟨r0,r1⟩:=HT.c2 2 0 0 1;obtain ⟨df,dm⟩:=HT.f2 2 0 0 1;simp only [aT] at r0 r1;have hv2:=(Q6 L kb pv e2).vals hs3;obtain ⟨st1,st2⟩:=aZ.aG (P:=prog) hv2.1 hv2.2 r0 df r1 dm;have HS:=Vh hs3;clear hv2 hs3;go_wp2
   exact WR (v:=.agg #[_,_]) (by simp [results,results281,go_sem,r0,r1]) rfl ⟨_,⟨e2,(dH.app e l2).trans HL2,m3,d3,g3,AV,AU,rfl,HS,HZ3,rfl⟩,((HT.set 2 0 rfl 0 _).set 2 0 rfl 1 _).p [0,1,3]⟩
 | some t =>
   rw [show runT (.aM d) ⟨k,x,ws,p⟩=(.thn (Qm d 0 ⟨k,x,ws,p⟩).1 .ay,(Qm d 0 ⟨k,x,ws,p⟩).2) by simp only [runT,hq]];rw [show Qm d 0 ⟨k,x,ws,p⟩=(.thn (.at none .looks) (.aD d 0),⟨{ k with t:=t },x,ws,p⟩) by simp only [Qm,hq]] at hfi |-;dsimp only at hfi |-
   unfold dM;refine GO fun w HT=>?_
   have sF:=Vh hfi;have HT:=Vh (HT.out.bG (H':=[Ql kb L.fb pv (Q9 L k) k,[cl bd 354 #[v]],gr,e.1,gC,gW,gP]));have HX:=Vh hx;have HD:=Vh hd;have HW:=Vh hw;have bD:=Vh aW;have ng:=Vh hbd;clear hx hd hw aW hfi hq hbd hr hc;have HB:=Vh (show cl bk 88 #[Qb kb]∈e.1 from hb);clear hb;have b0:=HT.aj 3 HB 0;have bI:=HT.bg 3 HB;simp only [bR] at b0 bI;go_enter func281,ntmps281
   obtain ⟨gT,pQ⟩:∃ gT,gT=Ql kb L.fb pv (Q9 L k) { k with t:=t }:=⟨_,rfl⟩;go_wp2_with fail
   refine Qa.run sF (HT.a _ _) [0,1,2] ?_
   rintro e w1 gs ⟨g2,l2,m2,d2,rfl,hs2,rfl⟩ HT;simp only [PU] at HT;clear b0 bI;have iJ:=HT.out;rw [<- pQ] at iJ;obtain ⟨gD,AY⟩:∃ gD,gD=[cl bd 354 #[v]]++gr:=⟨_,rfl⟩;have iJ:=iJ.bG (H':=[gT,[cl bd 354 #[v]]++gr,e.1,gC,gW,gP,[cl w.heap.size 153 #[WK,WK]],l2,g2,[]]);rw [<- AY] at iJ;have HT:=Vh iJ;have Iz:=Vh pQ;have HGD:=Vh AY;clear AY;have HS:=Vh (hs2 (e.1++l2,e.2) (fun b hb=>WU _ hb) ng);clear iJ pQ hs2;go_wp2_with fail
   refine Qa.run (aZ.bS (c:=(mE L kb pv).on (e.1++l2,e.2)) (s:=.thn (.at none .looks) (.aD d 0)) (f:=MT.ay) (v:=WM (WO 283) #[] #[Qb bk]) (gm:=[]) (Q6 L kb pv _) rfl HS ⟨rfl,bk,rfl,WT _ HB⟩) (HT) [8,9] ?_
   rintro e w1 gs ⟨bs,br,rfl,rfl⟩ HT;simp only [PU] at HT;obtain ⟨r0,r1⟩:=HT.c2 6 0 0 1;obtain ⟨df,dm⟩:=HT.f2 6 0 0 1;simp only [aT] at r0 r1;have hv2:=(Q6 L kb pv _).vals HS;obtain ⟨st1,st2⟩:=aZ.aG (P:=prog) (v':=WM (WO 237) #[] #[Qb bs,Qb br]) hv2.1 (Or.inr ⟨_,_,_,rfl⟩) r0 df r1 dm;clear hv2;go_wp2
   have HF:=(((HT.set 6 0 rfl 0 m2).set 6 0 rfl 1 (WM (WO 237) #[] #[Qb bs,Qb br])).p [8,0,1,2,7,3,4,5]).bG (H':=[[cl bs 153 #[m2,d2],cl br 151 #[WM (WO 283) #[] #[Qb bk]]]++g2++[],gT++(gD++(e.1++l2)),gC++(gW++gP)]);rw [Iz.out,HGD.out] at HF;exact WR (v:=.agg #[_,_]) (by simp [results,results281,go_sem,r0,r1]) rfl ⟨_,⟨(e.1++l2,e.2),dH.app e l2,_,_,_,_,_,rfl,⟨bs,br,_,_,g2,[],rfl,rfl,HS,⟨rfl,bk,rfl,WT _ HB⟩,rfl⟩,⟨_,gC,gW,gP,HD,HX,HW,bD,rfl,rfl⟩,rfl⟩,HF⟩
end
section
variable {L:Lay} {x:Qi} {ws:List Qg} {p:Qz} {e:ET} {g gC gK gF:List ak} {kb:Nat} {pv sv:Value} {k:Xd}
theorem zb7 (hz:zf L kb pv e ⟨k,x,ws,p⟩ gK gF) (hp:jR .bz ⟨k,x,ws,p⟩) (bk:Nat) (hb:gu kb bk e) :
 Qa prog 302 #[Qb bk] [gK,gF] (dM L kb pv e (runT .bz ⟨k,x,ws,p⟩).1 (runT .bz ⟨k,x,ws,p⟩).2):=by
 have HO:=Vh hp.1.core;have mH:=Vh hp.1.t;have HB:=Vh (show cl bk 88 #[Qb kb]∈e.1 from hb);clear hp hb;cases hc:(bA (x.aa.word k.t.slot) == 2 && X7 (x.aa.word k.t.slot) == k.t.gen && x.aa.mine k.t.id) with
 | false =>
   rw [show runT .bz ⟨k,x,ws,p⟩=(.nil,⟨{ k with aA:=x.aa.word k.t.slot },x,ws,p⟩) by simp [runT,Qr,hc]];unfold dM;obtain ⟨gd,gC,gW,gP,hd,hx,hw,aW,rfl,rfl⟩:=hz;refine GO fun w HT=>?_
   have HT:=Vh (HT.out.m [Ql kb L.fb pv (Q9 L k) k,gd,e.1,gC,gW,gP]);have HX:=Vh hx;have HD:=Vh hd;have HW:=Vh hw;have bD:=Vh aW;clear hx hd hw aW;have hlk:=Hg (kb:=kb) (pv:=pv) (sv:=Q9 L k) HX HO mH 2;rw [hc] at hlk;have iI:=Vh hlk;clear hlk hc;have b0:=HT.aj 2 HB 0;have bI:=HT.bg 2 HB;simp only [bR] at b0 bI;go_enter func302,ntmps302
   go_wp2_with fail
   refine Qa.run iI (HT.a _ _) [0,3] ?_
   rintro e w1 gs ⟨rfl,g1,hx1,rfl⟩ HT;simp only [PU] at HT;have HX:=Vh hx1;clear hx1 b0 bI;obtain ⟨r0,r1⟩:=HT.c2 6 0 0 1;obtain ⟨df,dm⟩:=HT.f2 6 0 0 1;simp only [aT] at r0 r1;go_wp2
   exact WR (v:=.agg #[_,_]) (by simp [results,results302,go_sem,r0,r1]) rfl ⟨_,⟨e,dH.refl e,_,_,[],_,_,rfl,⟨rfl,rfl,rfl⟩,⟨gd,_,_,gP,HD,HX,HW,bD,(rfl:Ql kb L.fb pv (Q9 L k) { k with aA:=x.aa.word k.t.slot }++(gd++e.1)=_),rfl⟩,rfl⟩,(((HT.set 6 0 rfl 0 _).set 6 0 rfl 1 _).p [0,1,2,3,4,5]).bG⟩
 | true =>
   rw [show runT .bz ⟨k,x,ws,p⟩=(.at none .aH,⟨{ k with aA:=x.aa.word k.t.slot },x,ws,p⟩) by simp [runT,Qr,hc]];unfold dM;obtain ⟨gd,gC,gW,gP,hd,hx,hw,aW,rfl,rfl⟩:=hz;refine GO fun w HT=>?_
   have HT:=Vh (HT.out.m [Ql kb L.fb pv (Q9 L k) k,gd,e.1,gC,gW,gP]);have HX:=Vh hx;have HD:=Vh hd;have HW:=Vh hw;have bD:=Vh aW;clear hx hd hw aW;have hlk:=Hg (kb:=kb) (pv:=pv) (sv:=Q9 L k) HX HO mH 2;rw [hc] at hlk;have iI:=Vh hlk;clear hlk hc;have b0:=HT.aj 2 HB 0;have bI:=HT.bg 2 HB;simp only [bR] at b0 bI;go_enter func302,ntmps302
   go_wp2_with fail
   refine Qa.run iI (HT.a _ _) [0,3] ?_
   rintro e w1 gs ⟨rfl,g1,hx1,rfl⟩ HT;simp only [PU] at HT;have HX:=Vh hx1;clear hx1 b0 bI;go_wp2_with fail
   refine Qa.run (nz _ _ _) (HT) [] ?_
   rintro e w1 gs ⟨rfl,rfl⟩ HT;simp only [PU] at HT;obtain ⟨r0,r1⟩:=HT.c2 6 0 0 1;obtain ⟨df,dm⟩:=HT.f2 6 0 0 1;simp only [aT] at r0 r1;go_wp2
   exact WR (v:=.agg #[_,_]) (by simp [results,results302,go_sem,r0,r1]) rfl ⟨_,⟨e,dH.refl e,_,_,[],_,_,rfl,⟨rfl,rfl,⟨bk,rfl,HB⟩⟩,⟨gd,_,_,gP,HD,HX,HW,bD,(rfl:Ql kb L.fb pv (Q9 L k) { k with aA:=x.aa.word k.t.slot }++(gd++e.1)=_),rfl⟩,rfl⟩,(((HT.set 6 0 rfl 0 _).set 6 0 rfl 1 _).p [0,1,2,3,4,5]).bG⟩
theorem zai (hz:zf L kb pv e ⟨k,x,ws,p⟩ gK gF) (hp:jR .looks ⟨k,x,ws,p⟩) :
 Qa prog 298 #[Qb kb] [gK,gF] (dM L kb pv e (runT .looks ⟨k,x,ws,p⟩).1 (runT .looks ⟨k,x,ws,p⟩).2):=by
 have HO:=Vh hp.1.core;have mH:=Vh hp.1.t;clear hp;cases hc:(bA (x.aa.word k.t.slot) == 3 && X7 (x.aa.word k.t.slot) == k.t.gen && x.aa.mine k.t.id) with
 | false =>
   rw [show runT .looks ⟨k,x,ws,p⟩=(.nil,⟨{ k with aA:=x.aa.word k.t.slot },x,ws,p⟩) by simp [runT,Qr,hc]];unfold dM;obtain ⟨gd,gC,gW,gP,hd,hx,hw,aW,rfl,rfl⟩:=hz;refine GO fun w HT=>?_
   have HT:=Vh (HT.out.m [Ql kb L.fb pv (Q9 L k) k,gd,e.1,gC,gW,gP]);have HX:=Vh hx;have HD:=Vh hd;have HW:=Vh hw;have bD:=Vh aW;clear hx hd hw aW;have hlk:=Hg (kb:=kb) (pv:=pv) (sv:=Q9 L k) HX HO mH 3;rw [hc] at hlk;have iI:=Vh hlk;clear hlk hc;go_enter func298,ntmps298
   go_wp2_with fail
   refine Qa.run iI (HT.a _ _) [0,3] ?_
   rintro e w1 gs ⟨rfl,g1,hx1,rfl⟩ HT;simp only [PU] at HT;have HX:=Vh hx1;clear hx1;obtain ⟨r0,r1⟩:=HT.c2 6 0 0 1;obtain ⟨df,dm⟩:=HT.f2 6 0 0 1;simp only [aT] at r0 r1;go_wp2
   exact WR (v:=.agg #[_,_]) (by simp [results,results298,go_sem,r0,r1]) rfl ⟨_,⟨e,dH.refl e,_,_,[],_,_,rfl,⟨rfl,rfl,rfl⟩,⟨gd,_,_,gP,HD,HX,HW,bD,(rfl:Ql kb L.fb pv (Q9 L k) { k with aA:=x.aa.word k.t.slot }++(gd++e.1)=_),rfl⟩,rfl⟩,(((HT.set 6 0 rfl 0 _).set 6 0 rfl 1 _).p [0,1,2,3,4,5]).bG⟩
 | true =>
   rw [show runT .looks ⟨k,x,ws,p⟩=(.at none .bE,⟨{ k with aA:=x.aa.word k.t.slot },x,ws,p⟩) by simp [runT,Qr,hc]];unfold dM;obtain ⟨gd,gC,gW,gP,hd,hx,hw,aW,rfl,rfl⟩:=hz;refine GO fun w HT=>?_
   have HT:=Vh (HT.out.m [Ql kb L.fb pv (Q9 L k) k,gd,e.1,gC,gW,gP]);have HX:=Vh hx;have HD:=Vh hd;have HW:=Vh hw;have bD:=Vh aW;clear hx hd hw aW;have hlk:=Hg (kb:=kb) (pv:=pv) (sv:=Q9 L k) HX HO mH 3;rw [hc] at hlk;have iI:=Vh hlk;clear hlk hc;go_enter func298,ntmps298
   go_wp2_with fail
   refine Qa.run iI (HT.a _ _) [0,3] ?_
   rintro e w1 gs ⟨rfl,g1,hx1,rfl⟩ HT;simp only [PU] at HT;have HX:=Vh hx1;clear hx1;go_wp2_with fail
   refine Qa.run (nz _ _ _) (HT) [] ?_
   rintro e w1 gs ⟨rfl,rfl⟩ HT;simp only [PU] at HT;obtain ⟨r0,r1⟩:=HT.c2 6 0 0 1;obtain ⟨df,dm⟩:=HT.f2 6 0 0 1;simp only [aT] at r0 r1;go_wp2
   exact WR (v:=.agg #[_,_]) (by simp [results,results298,go_sem,r0,r1]) rfl ⟨_,⟨e,dH.refl e,_,_,[],_,_,rfl,⟨rfl,rfl,rfl⟩,⟨gd,_,_,gP,HD,HX,HW,bD,(rfl:Ql kb L.fb pv (Q9 L k) { k with aA:=x.aa.word k.t.slot }++(gd++e.1)=_),rfl⟩,rfl⟩,(((HT.set 6 0 rfl 0 _).set 6 0 rfl 1 _).p [0,1,2,3,4,5]).bG⟩
theorem q3a (hz:zf L kb pv e ⟨k,x,ws,p⟩ gK gF) (bk:Nat) (hb:gu kb bk e) :
 Qa prog 328 #[Qb bk] [gK,gF] (dM L kb pv e (runT .bB ⟨k,x,ws,p⟩).1 (runT .bB ⟨k,x,ws,p⟩).2):=by
 have HB:=Vh (show cl bk 88 #[Qb kb]∈e.1 from hb);clear hb;rw [show runT .bB ⟨k,x,ws,p⟩=(.at none .behind,⟨k,x,ws,p⟩) from rfl];unfold dM;obtain ⟨gd,gC,gW,gP,hd,hx,hw,aW,rfl,rfl⟩:=hz;refine GO fun w HT=>?_
 have HT:=Vh (HT.out.m [Ql kb L.fb pv (Q9 L k) k,gd,e.1,gC,gW,gP]);have HX:=Vh hx;have HD:=Vh hd;have HW:=Vh hw;have bD:=Vh aW;clear hx hd hw aW;have b0:=HT.aj 2 HB 0;have bI:=HT.bg 2 HB;simp only [bR] at b0 bI;go_enter func328,ntmps328
 go_wp2_with fail
 refine Qa.run (nz _ _ _) (HT.a _ _) [] ?_
 rintro e w1 gs ⟨rfl,rfl⟩ HT;simp only [PU] at HT;obtain ⟨r0,r1⟩:=HT.c2 6 0 0 1;obtain ⟨df,dm⟩:=HT.f2 6 0 0 1;simp only [aT] at r0 r1;go_wp2
 exact WR (v:=.agg #[_,_]) (by simp [results,results328,go_sem,r0,r1]) rfl ⟨_,⟨e,dH.refl e,_,_,[],_,_,rfl,⟨rfl,rfl,rfl⟩,⟨gd,_,_,gP,HD,HX,HW,bD,rfl,rfl⟩,rfl⟩,(((HT.set 6 0 rfl 0 _).set 6 0 rfl 1 _).p [0,1,2,3,4,5]).bG⟩
theorem zal (hz:zf L kb pv e ⟨k,x,ws,p⟩ gK gF) (hp:jR .aH ⟨k,x,ws,p⟩) (bk:Nat) (hb:gu kb bk e) :
 Qa prog 304 #[Qb bk] [gK,gF] (dM L kb pv e (runT .aH ⟨k,x,ws,p⟩).1 (runT .aH ⟨k,x,ws,p⟩).2):=by
 obtain ⟨ho,hh,hs0⟩:=hp;have HO:=Vh ho.core;have iD:=Vh (show 0<=k.aA/\k.aA<18446744073709551616 from ⟨ho.aA.1,ho.aA.2.1⟩);have pI:=Vh (show x.tr.length<=1000000 from ho.core.tr);have HDL:=Vh (show 0<=k.t.dl/\k.t.dl<18446744073709551616 from ho.t.dl);have FI:=Vh (show 0<=k.t.slot from hs0);have HB:=Vh (show cl bk 88 #[Qb kb]∈e.1 from hb);cases hc:((x.aa.try k.t.slot k.aA 3).2.2 == 0) with
 | false =>
   rw [show runT .aH ⟨k,x,ws,p⟩=(Qv ⟨k,x,ws,p⟩,⟨k,{ x with aa:=(x.aa.try k.t.slot k.aA 3).1 },ws,p⟩) by simp [runT,Qk,hc,Qv]];unfold dM;clear ho hh hs0 hb;have hrc:=Ti (L:=L) (kb:=kb) (pv:=pv) (sv:=Q9 L k) (k:=k);rw [show (if k.t.slot<0 then St.nil else St.at none MT.bz)=Qv ⟨k,x,ws,p⟩ from rfl] at hrc;generalize Qv ⟨k,x,ws,p⟩=st at *;obtain ⟨gd,gC,gW,gP,hd,hx,hw,aW,rfl,rfl⟩:=hz;refine GO fun w HT=>?_
   have HT:=Vh (HT.out.m [Ql kb L.fb pv (Q9 L k) k,gd,e.1,gC,gW,gP]);have HX:=Vh hx;have HD:=Vh hd;have HW:=Vh hw;have bD:=Vh aW;clear hx hd hw aW;have wm:=Vh hrc;have hlk:=Ag (kb:=kb) (pv:=pv) (sv:=Q9 L k) HX HO iD 3;rw [hc] at hlk;have iI:=Vh hlk;clear hlk hc hrc;have b0:=HT.aj 2 HB 0;have bI:=HT.bg 2 HB;simp only [bR] at b0 bI;go_enter func304,ntmps304
   go_wp2_with fail
   refine Qa.run iI (HT.a _ _) [0,3] ?_
   rintro e w1 gs ⟨rfl,g1,hx1,rfl⟩ HT;simp only [PU] at HT;have HX:=Vh hx1;clear hx1 b0 bI;have b0:=HT.aj 2 HB 0;simp only [bR] at b0;go_wp2_with fail
   refine Qa.run wm HT [0] ?_
   rintro e w1 gs ⟨g2,l2,⟨m2,d2,rfl,hs2⟩,rfl⟩ HT;simp only [PU] at HT;clear b0;obtain ⟨r0,r1⟩:=HT.c2 6 0 0 1;obtain ⟨df,dm⟩:=HT.f2 6 0 0 1;simp only [aT] at r0 r1;have hv2:=(Q6 L kb pv (l2,[])).vals (hs2 (l2,[]) (fun _ h=>h));obtain ⟨st1,st2⟩:=aZ.aG (P:=prog) hv2.1 hv2.2 r0 df r1 dm;have HS:=Vh hs2;clear hv2 hs2;go_wp2
   exact WR (v:=.agg #[_,_]) (by simp [results,results304,go_sem,r0,r1]) rfl ⟨_,⟨(e.1++l2,e.2),dH.app e l2,m2,d2,g2,_,_,rfl,HS _ (fun b hb=>WU _ hb),⟨gd,_,gW,gP,HD,HX,HW,bD,rfl,rfl⟩,rfl⟩,(((HT.set 6 0 rfl 0 _).set 6 0 rfl 1 _).p [0,8,1,2,7,3,4,5]).bG⟩
 | true =>
   obtain ⟨gd,gC,gW,gP,hd,hx,hw,aW,Dw,Dv⟩:=hz;obtain ⟨i,q,s,S,hki,hq,hs,hS,hsv,hsh,hss,jv,hwo,hrb,ht0,ht1⟩:=xw hx hw ho hh
   have hz2:runT .aH ⟨k,x,ws,p⟩=(.nil,⟨k,{ x with aa:=(x.aa.try k.t.slot k.aA 3).1,tr:=x.tr++[lq k { bO with kind:=4,id:=k.t.id,gen:=k.t.gen,dl:=j3 S k.t }] },ws.set i (S.place (mQ S k.t)),p⟩):=by
    have h1:(Qk 3 ⟨k,x,ws,p⟩).2=true:=hc;simp only [runT,h1,if_pos,jk,Qk,ZT.note];rw [show ZT.sh ⟨k,{ x with aa:=(x.aa.try k.t.slot k.aA 3).1 },ws,p⟩=i from hsh,show ZT.wh ⟨k,{ x with aa:=(x.aa.try k.t.slot k.aA 3).1 },ws,p⟩=S from jv];exact if_pos h1
   rw [hz2];have hz:zf L kb pv e ⟨k,x,ws,p⟩ gK gF:=⟨gd,gC,gW,gP,hd,hx,hw,aW,Dw,Dv⟩;clear hx hw hd aW Dw Dv;have har:∀ gC gW,Qf L { x with aa:=(x.aa.try k.t.slot k.aA 3).1 } gC->Js L ws gW->_:=fun gC gW hx hw=>Vv (kb:=kb) (pv:=pv) (k:=k) hx hw hq hs hS hwo FI HDL pI
   have fM:=Vh hsv;clear ho hh hs0 hb hz2 hki hq hs hS hsv hsh hss jv hwo hrb ht0 ht1;unfold dM;obtain ⟨gd,gC,gW,gP,hd,hx,hw,aW,rfl,rfl⟩:=hz;refine GO fun w HT=>?_
   have HT:=Vh (HT.out.m [Ql kb L.fb pv (Q9 L k) k,gd,e.1,gC,gW,gP]);have HX:=Vh hx;have HD:=Vh hd;have HW:=Vh hw;have bD:=Vh aW;clear hx hd hw aW;have Im:=Vh har;have hlk:=Ag (kb:=kb) (pv:=pv) (sv:=Q9 L k) HX HO iD 3;rw [hc] at hlk;rw [fM.out] at hlk;have iJ:=HT.out;rw [fM.out] at iJ;have HT:=Vh iJ;have iI:=Vh hlk;clear hlk hc har iJ;generalize (x.aa.try k.t.slot k.aA 3).1=sl at *;generalize S.place (mQ S k.t)=S1 at *;generalize j3 S k.t=dl1 at *;have b0:=HT.aj 2 HB 0;have bI:=HT.bg 2 HB;simp only [bR] at b0 bI;go_enter func304,ntmps304
   go_wp2_with fail
   refine Qa.run iI (HT.a _ _) [0,3] ?_
   rintro e w1 gs ⟨rfl,g1,hx1,rfl⟩ HT;simp only [PU] at HT;have HX:=Vh hx1;clear hx1 b0 bI;have b0:=HT.aj 2 HB 0;simp only [bR] at b0;go_wp2_with fail
   refine Qa.run (Im _ _ HX HW) (HT) [0,3,4] ?_
   rintro e w1 gs ⟨rfl,g2,l5,hx2,hw2,rfl⟩ HT;simp only [PU] at HT;have HX:=Vh hx2;have HW:=Vh hw2;clear hx2 hw2 b0;obtain ⟨r0,r1⟩:=HT.c2 6 0 0 1;obtain ⟨df,dm⟩:=HT.f2 6 0 0 1;simp only [aT] at r0 r1;go_wp2
   have HF:=(((HT.set 6 0 rfl 0 WK).set 6 0 rfl 1 WK).p [0,1,2,3,4,5]);rw [<- fM.out] at HF;exact WR (v:=.agg #[_,_]) (by simp [results,results304,go_sem,r0,r1]) rfl ⟨_,⟨e,dH.refl e,_,_,[],_,_,rfl,⟨rfl,rfl,rfl⟩,⟨gd,_,_,gP,HD,HX,HW,bD,rfl,rfl⟩,rfl⟩,HF.bG⟩
end
end
end Go.Proofs.YtcneeepdclgdcaaGreat
