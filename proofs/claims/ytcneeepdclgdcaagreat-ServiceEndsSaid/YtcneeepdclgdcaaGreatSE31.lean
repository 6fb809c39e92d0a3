import Derived.Test.YtcneeepdclgdcaaGreatSE24
import Derived.Test.YtcneeepdclgdcaaGreatSE29
import Derived.Test.YtcneeepdclgdcaaGreatSE30
import Derived.Test.YtcneeepdclgdcaaGreatSE16
set_option maxRecDepth 100000
set_option maxHeartbeats 4000000
namespace Go.Proofs.YtcneeepdclgdcaaGreat
open Go.Value renaming nilFunc->U1,int->U2,func->U3,tuple->UC,pointer->UI
open Go.IntKind renaming i64->U4,u64->U6
open Go.Fn renaming func->U5
open Go renaming bodyPost_ret->U7,wpQuiet_nil->UD,FuncId->UF,Ending->UO
open Go.Ending renaming returned->U8
open _root_.List renaming mem_append_left->U9,mem_append_right->UA,mem_of_getElem?->UE,getElem?_append_right->UG,getD_eq_getElem?_getD->UH,getElem?_append_left->UJ,getElem?_eq_some_iff->UK,getElem?_eq_getElem->UM,length_set->UQ
open Go.World renaming alloc->UB,drew->UL,setCell->UR
open _root_.And renaming intro->UN
set_option linter.all false
open Go.Proofs.Tryz
section
open Go.RowKit Go.Shelf
structure Xi where
 th:Int
 no:Int
 err:Int
 ok:Bool
 now:Int
 s:Option Nat
 t:Qp
 aB:Int
 nd:Nat
 due:List Qp
inductive MT where
 | enter | gate | tick | ae (i:Nat) | dH (d:Nat) | bX (d:Nat) | ai (d:Nat) | aL (d:Nat) | ay | bI (n:Int) | ax (n:Int)
 | bA | aI | aF (d:Nat) (i:Nat) | looks | bE | bD | behind | aY (next:Int) | aQ
inductive AT where
 | leave1 | answer | bG (d:Nat) | unlock | put (f:Xj) | rel | drop
inductive YT where
 | lock | ready (i:Nat)
abbrev ST:Type:=St MT AT YT
structure ZT where
 k:Xi
 x:Qi
 ws:List Qg
 p:Q2
def ll (k:Xi) (E:EvS):EvS:={ E with thread:=k.th,call:=k.no,what:=7 }
def ZT.note (E:EvS) (z:ZT):ZT:={ z with x:={ z.x with tr:=z.x.tr++[ll z.k E] } }
def AQ:ST:=.aO .leave1 .answer
def Ys (e:Int) (z:ZT):ST × ZT:=(AQ,{ (z.note { bL with kind:=9,err:=e }) with k:={ z.k with err:=e,ok:=false } })
def Xa (i:Nat) (z:ZT):ST × ZT :=
 if i<z.x.au.length then (.thn (.at (some .lock) (.dH z.k.nd)) (.ae i),{ z with k:={ z.k with s:=some i,nd:=z.k.nd+1,due:=[] } })
 else (AQ,{ z with k:={ z.k with err:=0,ok:=true } })
def ZT.sh (z:ZT):Nat:=z.k.s.getD 0
def ZT.aW (z:ZT):Qu:=z.x.au.getD z.sh (Qr 1)
def ZT.wh (z:ZT):Qg:=z.ws.getD z.sh ⟨0,[],[]⟩
def ZT.dh (z:ZT) (s:Qu):ZT:={ z with x:={ z.x with au:=z.x.au.set z.sh s } }
def Q5 (n:Int) (z:ZT):ST:=if n<=0 then .nil else .at (some (.ready z.sh)) (.bI n)
def Qx (z:ZT):ST:=if z.k.t.slot<0 then .nil else .at none .bA
def Qo (d i:Nat) (z:ZT):ST × ZT :=
 match z.k.due[i]? with
 | none=>(.nil,z)
 | some t=>(.thn (.at none .looks) (.aF d i),{ z with k:={ z.k with t:=t } })
def Qs (st:Int) (z:ZT):ZT × Bool :=
 ({ z with k:={ z.k with aB:=z.x.aa.word z.k.t.slot } },bB (z.x.aa.word z.k.t.slot) == st && Xv (z.x.aa.word z.k.t.slot) == z.k.t.gen && z.x.aa.mine z.k.t.id)
def Qk (ev:Int) (z:ZT):ZT × Bool :=
 ({ z with x:={ z.x with aa:=(z.x.aa.try z.k.t.slot z.k.aB ev).1 } },(z.x.aa.try z.k.t.slot z.k.aB ev).2.2 == 0)
def jy (z:ZT):ZT :=
 ({ z with ws:=z.ws.set z.sh (z.wh.place (mO z.wh z.k.t)) }:ZT).note { bL with kind:=4,id:=z.k.t.id,gen:=z.k.t.gen,dl:=jE z.wh z.k.t }
def J0 (d:Nat) (z:ZT):ST × ZT:=(.thn (.aj (.bG d)) (.aL d),z)
def runT:MT->ZT->ST × ZT
 | .enter,z=>(.at none .gate,{ z with x:={ z.x with f:={ z.x.f with inside:=z.x.f.inside+1 } } })
 | .gate,z=>if z.x.f.closed=true then Ys 3 z else (.at none .tick,z)
 | .tick,z=>Xa 0 (({ z with x:={ z.x with f:={ z.x.f with now:=z.x.f.now+1 } },k:={ z.k with now:=z.x.f.now+1 } }:ZT).note { bL with kind:=11,tick:=z.x.f.now+1 })
 | .ae i,z=>Xa (i+1) z
 | .dH d,z=>(.at none (.bX d),z.dh { z.aW with who:=og z.aW.who z.k.th,turns:=nz z.aW.who z.aW.turns })
 | .bX d,z=>if z.aW.ring.tail - z.aW.ring.head<=0 then J0 d z else (.thn (Q5 (z.aW.ring.tail - z.aW.ring.head) z) (.ai d),z)
 | .ai d,z=>J0 d z
 | .aL d,z=>match z.k.due[0]? with
   | none=>(.aj .unlock,z)
   | some _=>(.thn (Qo d 0 z).1 .ay,(Qo d 0 z).2)
 | .ay,z=>(.aj .unlock,z)
 | .bI n,z =>
   let z':ZT:={ (z.dh { z.aW with ring:=(J3 z.aW.ring).1 }) with k:={ z.k with t:=(J3 z.aW.ring).2.1 } }
   if z'.k.t.slot<0 then (Q5 (n - 1) z',z') else (.thn (.at none .bA) (.ax n),z')
 | .ax n,z=>(Q5 (n - 1) z,z)
 | .bA,z=>if (Qs 2 z).2=true then (.at none .aI,(Qs 2 z).1) else (.nil,(Qs 2 z).1)
 | .aI,z=>if (Qk 3 z).2=true then (.nil,jy (Qk 3 z).1) else (Qx (Qk 3 z).1,(Qk 3 z).1)
 | .aF d i,z=>Qo d (i+1) z
 | .looks,z=>if (Qs 3 z).2=true then (.at none .bE,(Qs 3 z).1) else (.nil,(Qs 3 z).1)
 | .bE,z =>
   if (Qk 4 z).2=true then (.thn (.aj (.put ⟨z.k.t.id,z.k.t.gen,z.k.t.dl,z.k.now⟩)) .bD,(Qk 4 z).1.note { bL with kind:=5,id:=z.k.t.id,gen:=z.k.t.gen,dl:=z.k.t.dl,tick:=z.k.now })
   else (.at none .looks,(Qk 4 z).1)
 | .bD,z=>(.at none .behind,z)
 | .behind,z =>
   let w:=z.x.aa.word z.k.t.slot
   let z':ZT:={ z with k:={ z.k with aB:=w } }
   if bB w≠4\/Xv w≠z.k.t.gen then (.nil,z')
   else if 0<z.k.t.per/\Xr w=false/\z.k.t.dl+z.k.t.per<18446744073709551616 then (.at none (.aY (z.k.t.dl+z.k.t.per)),z')
   else (.at none .aQ,z')
 | .aY next,z =>
   if (Qk 5 z).2=true then (.nil,jy { (Qk 5 z).1 with k:={ z.k with t:={ z.k.t with gen:=z.k.t.gen+1,dl:=next } } }) else (.at none .behind,(Qk 5 z).1)
 | .aQ,z =>
   if (Qk 9 z).2=true then (.aO .rel .drop,if 0<z.k.t.per/\Xr z.k.aB=false then (Qk 9 z).1.note { bL with kind:=14,id:=z.k.t.id,gen:=z.k.t.gen } else (Qk 9 z).1)
   else (.at none .behind,(Qk 9 z).1)
def Q6:AT->ZT->ZT
 | .leave1,z=>{ z with x:={ z.x with f:={ z.x.f with inside:=Z5 z.x.f.inside } } }
 | .answer,z=>z.note { bL with kind:=2,err:=z.k.err }
 | .bG d,z=>{ z with ws:=z.ws.set z.sh z.wh.fH.1,k:={ z.k with due:=z.wh.fH.2.map gU.v } }
 | .unlock,z=>z.dh { z.aW with who:=0 }
 | .put f,z=>{ z with p:=(z.p.put f).1 }
 | .rel,z=>{ z with x:={ z.x with aa:=(z.x.aa.try z.k.t.slot (z.x.aa.word z.k.t.slot) 10).1 } }
 | .drop,z=>{ z with x:={ z.x with aa:=z.x.aa.drop.1 } }
def qY:YT->ZT->Bool
 | .lock,z=>decide (0<=z.k.th) && (z.aW.who == 0)
 | .ready i,z=>(z.x.au.getD i (Qr 1)).ring.ready
structure Je (t:Qp):Prop where
 id:0<=t.id/\t.id<18446744073709551616
 gen:0<=t.gen/\t.gen<=4294967296
 dl:0<=t.dl/\t.dl<18446744073709551616
 per:0<=t.per/\t.per<18446744073709551616
structure wu (z:ZT):Prop where
 core:pR z.x
 th:0<=z.k.th
 now:0<=z.x.f.now/\z.x.f.now<=15000000
 aB:0<=z.k.aB/\z.k.aB<18446744073709551616/\okW z.k.aB=true
 t:Je z.k.t
 due:z.k.due.length<=1000000
 ws:z.ws.length=z.x.au.length
 kK:∀ w∈z.ws,x8 w
 sh:∀ i,z.k.s=some i->i<z.x.au.length
 turns:∀ s∈z.x.au,0<=s.turns/\s.turns<=1000000
 pipe:Gb z.p
def lD (z:ZT):Prop:=∃ i,z.k.s=some i
def Ad (d:Nat) (z:ZT):Prop:=z.k.nd=d+1
def MT.fit:MT->ZT->Prop
 | .ae i,z=>i<=64
 | .dH d,z=>lD z/\Ad d z/\z.k.th<=1000000
 | .bX d,z=>lD z/\Ad d z
 | .ai d,z=>lD z/\Ad d z
 | .aL d,z=>lD z/\Ad d z
 | .ay,z=>lD z
 | .bI n,z=>lD z/\0<=n/\n<=1000000/\wu (runT (.bI n) z).2
 | .ax n,z=>lD z/\0<=n/\n<=1000000
 | .aI,z=>lD z/\0<=z.k.t.slot
 | .aF d i,z=>lD z/\Ad d z/\i<=1000000
 | .aY next,z=>lD z/\0<=z.k.t.slot/\0<=next/\next<18446744073709551616
 | _,_=>True
def jZ (f:MT) (z:ZT):Prop:=wu z/\f.fit z
def uN (a:AT) (z:ZT):Prop:=wu z/\match a with
 | .bG d=>lD z/\Ad d z
 | .unlock=>lD z/\z.aW.who=z.k.th+1/\z.k.th<=1000000
 | _=>True
def Fg (y:YT) (z:ZT):Prop:=wu z/\match y with
 | .lock=>lD z
 | .ready i=>i<z.x.au.length
def Q7 (L:Lay) (k:Xi):Value:=match k.s with
 | none=>UI none
 | some i=>match L.qs[i]? with
   | none=>UI none
   | some q=>Qb q.b
def Xm (fb:Nat) (pv sv:Value) (k:Xi):Array Value:=#[Qb fb,U2 U4 k.th,U2 U4 k.no,U2 U4 k.err,.bool k.ok,U2 U6 0,U2 U6 0,.slice none 0 0,pv,U2 U6 k.now,sv,
 U2 U6 k.t.id,U2 U4 k.t.slot,U2 U6 k.t.gen,U2 U6 k.t.dl,U2 U6 k.t.per,U2 U6 k.aB]
abbrev Qm (kb fb:Nat) (pv sv:Value) (k:Xi):List ak:=[cl kb 181 (Xm fb pv sv k)]
def wH (ds:List Nat) (k:Xi) (g:List ak):Prop:=ds.length=k.nd/\((k.nd=0/\g=[]) \/
 ∃ m bd v gr,k.nd=m+1/\ds[m]?=some bd/\Q3 40 5 v k.due.length (yV k.due) gr/\g=[cl bd 354 #[v]]++gr)
def Jr (L:Lay) (ws:List Qg) (g:List ak):Prop:=ws.length=L.qs.length/\Yy (fun (z:ik × Qg)=>qj z.1.wb z.2) (L.qs.zip ws) g
abbrev ET:Type:=List ak × List Nat
structure dF (e e':ET):Prop where
 b:∀ x∈e.1,x∈e'.1
 d:∀ (i:Nat) (n:Nat),e.2[i]?=some n->e'.2[i]?=some n
theorem dF.refl (e:ET):dF e e:=⟨fun _ h=>h,fun _ _ h=>h⟩
theorem dF.trans {a b c:ET} (h:dF a b) (k:dF b c):dF a c:=⟨fun x hx=>k.b x (h.b x hx),fun i n hn=>k.d i n (h.d i n hn)⟩
theorem dF.app (e:ET) (l:List ak):dF e (e.1++l,e.2):=⟨fun x h=>U9 _ h,fun _ _ h=>h⟩
theorem dF.Hg (e:ET) (l:List ak) (d:Nat):dF e (e.1++l,e.2++[d]):=⟨fun x h=>U9 _ h,fun i n h=>by rw [UJ (UK.1 h).1];exact h⟩
def ze (L:Lay) (kb:Nat) (pv:Value) (e:ET) (z:ZT) (gK gF:List ak):Prop :=
 ∃ gd gC gW gP,wH e.2 z.k gd/\Qf L z.x gC/\Jr L z.ws gW/\Zd L.p.pb z.p gP/\gK=Qm kb L.fb pv (Q7 L z.k) z.k++(gd++e.1)/\gF=gC++(gW++gP)
def gG (kb bk:Nat) (e:ET):Prop:=cl bk 88 #[Qb kb]∈e.1
def kW (kb:Nat) (e:ET) (fn:UF) (v:Value):Prop:=∃ bk,v=U3 (U5 fn) #[] #[Qb bk]/\gG kb bk e
def qN (kb:Nat) (e:ET) (fn:UF) (i:Int) (v:Value):Prop:=∃ bk bi,v=U3 (U5 fn) #[] #[Qb bk,Qb bi]/\gG kb bk e/\cl bi 3 #[U2 U4 i]∈e.1
def oD (kb:Nat) (e:ET) (fn:UF) (d:Nat) (v:Value):Prop:=∃ bk bd,v=U3 (U5 fn) #[] #[Qb bk,Qb bd]/\gG kb bk e/\e.2[d]?=some bd
def BP (kb:Nat) (e:ET) (f:MT) (v:Value) (g:List ak):Prop:=g=[]/\match f with
 | .enter=>v=U3 (U5 104) #[Qb kb] #[]
 | .gate=>v=U3 (U5 154) #[Qb kb] #[]
 | .tick=>v=U3 (U5 191) #[Qb kb] #[]
 | .ae i=>qN kb e 265 i v
 | .dH d=>oD kb e 274 d v
 | .bX d=>oD kb e 276 d v
 | .ai d=>oD kb e 278 d v
 | .aL d=>oD kb e 281 d v
 | .ay=>kW kb e 283 v
 | .bI n=>qN kb e 292 n v
 | .ax n=>qN kb e 294 n v
 | .bA=>kW kb e 302 v
 | .aI=>kW kb e 304 v
 | .aF d i=>∃ bk bp bi bd,v=U3 (U5 299) #[] #[Qb bk,Qb bp,Qb bi]/\gG kb bk e/\e.2[d]?=some bd/\cl bp 358 #[Qb bd]∈e.1/\cl bi 3 #[U2 U4 i]∈e.1
 | .looks=>v=U3 (U5 298) #[Qb kb] #[]
 | .bE=>v=U3 (U5 315) #[Qb kb] #[]
 | .bD=>kW kb e 328 v
 | .behind=>v=U3 (U5 329) #[Qb kb] #[]
 | .aY next=>∃ bk bn,v=U3 (U5 340) #[] #[Qb bk,Qb bn]/\gG kb bk e/\cl bn 36 #[U2 U6 next]∈e.1
 | .aQ=>v=U3 (U5 342) #[Qb kb] #[]
def BN (kb:Nat) (e:ET) (f:AT) (v:Value) (g:List ak):Prop:=g=[]/\match f with
 | .leave1=>kW kb e 261 v
 | .answer=>kW kb e 262 v
 | .bG d=>oD kb e 279 d v
 | .unlock=>kW kb e 284 v
 | .put f=>∃ bk bf,v=U3 (U5 326) #[] #[Qb bk,Qb bf]/\gG kb bk e/\cl bf 63 f.vals.toArray∈e.1
 | .rel=>kW kb e 345 v
 | .drop=>kW kb e 346 v
def VYT (L:Lay) (kb:Nat) (e:ET) (f:YT) (v:Value) (g:List ak):Prop:=g=[]/\match f with
 | .lock=>kW kb e 272 v
 | .ready i=>∃ q,L.qs[i]?=some q/\v=U3 (U5 291) #[Qb q.b] #[]
def lZ (L:Lay) (kb:Nat) (pv:Value):kV :=
 ⟨MT,AT,YT,ZT,ET,dF,ze L kb pv,BP kb,BN kb,VYT L kb,runT,Q6,qY,jZ,uN,Fg⟩
theorem gG.le {kb bk:Nat} {e e':ET} (h:gG kb bk e) (hl:dF e e'):gG kb bk e':=hl.b _ h
theorem kW.le {kb:Nat} {e e':ET} {fn:UF} {v:Value} (h:kW kb e fn v) (hl:dF e e'):kW kb e' fn v:=by
 obtain ⟨bk,h1,h2⟩:=h;exact ⟨bk,h1,h2.le hl⟩
theorem qN.le {kb:Nat} {e e':ET} {fn:UF} {i:Int} {v:Value} (h:qN kb e fn i v) (hl:dF e e'):qN kb e' fn i v:=by
 obtain ⟨bk,bi,h1,h2,h3⟩:=h;exact ⟨bk,bi,h1,h2.le hl,hl.b _ h3⟩
theorem oD.le {kb:Nat} {e e':ET} {fn:UF} {d:Nat} {v:Value} (h:oD kb e fn d v) (hl:dF e e'):oD kb e' fn d v:=by
 obtain ⟨bk,bi,h1,h2,h3⟩:=h;exact ⟨bk,bi,h1,h2.le hl,hl.d _ _ h3⟩
theorem kW.is {kb:Nat} {e:ET} {fn:UF} {v:Value} (h:kW kb e fn v):∃ fn first aK,v=U3 (U5 fn) first aK:=by
 obtain ⟨bk,h1,h2⟩:=h;exact ⟨_,_,_,h1⟩
theorem qN.is {kb:Nat} {e:ET} {fn:UF} {i:Int} {v:Value} (h:qN kb e fn i v):∃ fn first aK,v=U3 (U5 fn) first aK:=by
 obtain ⟨bk,bi,h1,h2,h3⟩:=h;exact ⟨_,_,_,h1⟩
theorem oD.is {kb:Nat} {e:ET} {fn:UF} {d:Nat} {v:Value} (h:oD kb e fn d v):∃ fn first aK,v=U3 (U5 fn) first aK:=by
 obtain ⟨bk,bi,h1,h2,h3⟩:=h;exact ⟨_,_,_,h1⟩
theorem BP.le {kb:Nat} {e e':ET} {f:MT} {v:Value} {g:List ak} (hl:dF e e') (h:BP kb e f v g):BP kb e' f v g:=by
 refine ⟨h.1,?_⟩
 have:=h.2;cases f
 case aF d i=>obtain ⟨bk,bp,bi,bd,h1,h2,h3,h4,h5⟩:=this;exact ⟨bk,bp,bi,bd,h1,h2.le hl,hl.d _ _ h3,hl.b _ h4,hl.b _ h5⟩
 case aY next=>obtain ⟨bk,bn,h1,h2,h3⟩:=this;exact ⟨bk,bn,h1,h2.le hl,hl.b _ h3⟩
 all_goals first | exact this | exact kW.le this hl | exact qN.le this hl | exact oD.le this hl
theorem BN.le {kb:Nat} {e e':ET} {f:AT} {v:Value} {g:List ak} (hl:dF e e') (h:BN kb e f v g):BN kb e' f v g:=by
 refine ⟨h.1,?_⟩
 have:=h.2;cases f
 case put f=>obtain ⟨bk,bn,h1,h2,h3⟩:=this;exact ⟨bk,bn,h1,h2.le hl,hl.b _ h3⟩
 all_goals first | exact this | exact kW.le this hl | exact qN.le this hl | exact oD.le this hl
theorem Q9 (L:Lay) (kb:Nat) (pv:Value) (e:ET):((lZ L kb pv).on e).iI where
 vm {f v g} h:=by
  have:=h.2;cases f
  case aF d i=>obtain ⟨bk,bp,bi,bd,h1,h2⟩:=this;exact ⟨_,_,_,h1⟩
  case aY next=>obtain ⟨bk,bn,h1,h2⟩:=this;exact ⟨_,_,_,h1⟩
  all_goals first | exact ⟨_,_,_,this⟩ | exact kW.is this | exact qN.is this | exact oD.is this
 va {f v g} h:=by
  have:=h.2;cases f
  case put f=>obtain ⟨bk,bn,h1,h2⟩:=this;exact ⟨_,_,_,h1⟩
  all_goals first | exact kW.is this | exact qN.is this | exact oD.is this
 vy {f v g} h:=by
  have:=h.2;cases f
  ·exact kW.is this
  ·obtain ⟨q,_,h1⟩:=this;exact ⟨_,_,_,h1⟩
def dI (L:Lay) (kb:Nat) (pv:Value) (e:ET) (s:ST) (z:ZT) (en:UO) (gs:GH):Prop :=
 ∃ e',dF e e'/\∃ m d g' bg aJ,en=U8 (.agg #[m,d])/\(lZ L kb pv).SV e' s m d g'/\ze L kb pv e' z bg aJ/\gs=[g',bg,aJ]
def mU (L:Lay) (kb:Nat) (pv:Value) (e:ET) (z:ZT) (en:UO) (gs:GH):Prop :=
 ∃ e',dF e e'/\∃ bg aJ,en=U8 (UC #[])/\ze L kb pv e' z bg aJ/\gs=[[],bg,aJ]
def BL (L:Lay) (kb:Nat) (pv:Value) (s:ST) (en:UO) (g' l:List ak):Prop :=
 ∃ m d,en=U8 (.agg #[m,d])/\∀ e:ET,(∀ b∈l,b∈e.1)->(lZ L kb pv).SV e s m d g'
theorem ni (fn:UF) (a c:Array Value):Qa prog 103 #[U3 (U5 fn) a c] [] fun en gs=>en=U8 (.agg #[U1,U3 (U5 fn) a c])/\gs=[]:=by
 refine GO fun w HT=>?_
 go_enter func103,ntmps103
 go_wp2
 exact U7 (v:=.agg #[_,_]) (by simp [results,results103,go_sem]) rfl ⟨_,⟨rfl,rfl⟩,HT.aT _⟩
theorem NV (n:Int) (h0:0<=n) (h1:n<18446744073709551616):Qd prog 39 #[U2 U6 n] [] (U2 U4 (bB n)):=fun w hw=>(zc n w h0 h1).mono (by rintro e w' ⟨rfl,rfl⟩;exact ⟨rfl,0,rfl⟩)
theorem Oo (n:Int) (h0:0<=n) (h1:n<18446744073709551616):Qd prog 258 #[U2 U6 n] [] (.bool (Xr n)):=fun w hw=>(Pv n w h0 h1).mono (by rintro e w' ⟨rfl,rfl⟩;exact ⟨rfl,0,rfl⟩)
section
variable {L:Lay} {x:Qi} {gC:List ak} {kb:Nat} {pv sv:Value} {k:Xi}
theorem yS (hx:Qf L x gC) (E:EvS) (hn:x.tr.length<=1000000):Qa prog 105 #[Qb kb,.agg E.cells] [Qm kb L.fb pv sv k,gC] fun e gs =>
 e=U8 (UC #[])/\∃ g',Qf L { x with tr:=x.tr++[ll k E] } g'/\gs=[Qm kb L.fb pv sv k,g']:=by
 refine GO fun w HT=>?_
 have HN:=Vh (KG hx (ll k E) hn);have lt:=HT.l 0 0;simp only [] at lt;obtain ⟨k0,k1,k2⟩:=HT.c3 0 0 0 1 2;simp only [Xm,az] at k0 k1 k2;clear hx hn;simp only [EvS.cells];go_enter func105,ntmps105
 go_wp2
 go_region
 go_wp2
 have HT:=Vh (HT.out.a 73 (ll k E).cells).drew;simp only [List.cons_append,List.nil_append] at HT;simp only [EvS.cells,ll] at HT;clear lt k1 k2 k0;generalize UL _=w1 at HT |-;have k0:=HT.c 0 0 0;simp only [Xm,az] at k0;obtain ⟨b0,b1,b2,b3,b4,b5,b6,b7⟩:=HT.c8 2 0 0 1 2 3 4 5 6 7;obtain ⟨b8,b9⟩:=HT.c2 2 0 8 9;simp only [aN] at b0 b1 b2 b3 b4 b5 b6 b7 b8 b9;refine Mx 5 ?_
 simp only [bY]
 repeat (go_big_quiet_step ((fail)))
 refine UD (QT HT fun nq HT=>?_)
 go_wp2_with fail
 refine Qa.run HN HT [1] ?_
 rintro e w1 gs ⟨rfl,g',hx',rfl⟩ HT;simp only [PU] at HT;have HX:=Vh hx';clear hx';go_wp2_with fail
 refine ⟨rfl,?_⟩
 go_wp2
 exact bodyPost_end (results_none rfl _ _ _) rfl ⟨_,⟨rfl,g',HX,rfl⟩,HT.p [0,1]⟩
theorem FN (hx:Qf L x gC) (ho:pR x) (ht:Je k.t) (st:Int):Qa prog 303 #[Qb kb,U2 U4 st] [Qm kb L.fb pv sv k,gC] fun e gs =>
 e=U8 (.bool (bB (x.aa.word k.t.slot) == st && Xv (x.aa.word k.t.slot) == k.t.gen && x.aa.mine k.t.id))/\∃ g',Qf L x g'/\gs=[Qm kb L.fb pv sv { k with aB:=x.aa.word k.t.slot },g']:=by
 have gp:=Vh (Y4 ho.aa k.t.slot);have kL:=Vh (show ∀ g',Qf L x g'->_ from fun g' hx'=>yO (g:=g') hx' ho.aa.n1 k.t.slot);have wR:=Vh (show ∀ g',Qf L x g'->_ from fun g' hx'=>Rx (g:=g') hx' ho.aa.n1 k.t.id ht.id.1 ht.id.2);have HX:=Vh hx;generalize x.aa.mine k.t.id=mi at *;obtain ⟨wd,hwd⟩:∃ wd,wd=x.aa.word k.t.slot:=⟨_,rfl⟩;rw [<- hwd] at gp kL |-;have iy:=Vh (NV wd gp.1 gp.2.1);have ui:=Vh (JE wd gp.1 gp.2.1);generalize bB wd=sw at *;generalize Xv wd=gw at *;clear ho ht hx hwd gp;refine GO fun w HT=>?_
 go_enter func303,ntmps303
 go_wp2_with fail
 obtain ⟨ι,W,hW0,hend,hin⟩:∃ (ι:Type) (W:ι->World),(∃ i,UL w=W i)/\(∀ i,∃ gx,Qf L x gx/\TG [Qm kb L.fb pv sv k,gC] w [Qm kb L.fb pv sv k,gx] (W i))/\(∀ w',(∃ gx,Qf L x gx/\TG [Qm kb L.fb pv sv k,gC] w [Qm kb L.fb pv sv k,gx] w')->∃ i,w'=W i):=⟨{w' // ∃ gx,Qf L x gx/\TG [Qm kb L.fb pv sv k,gC] w [Qm kb L.fb pv sv k,gx] w'},Subtype.val,⟨⟨_,gC,HX,HT.drew⟩,rfl⟩,fun i=>i.2,fun w' h=>⟨⟨w',h⟩,rfl⟩⟩;have hne:Nonempty ι:=hW0.elim fun i _=>⟨i⟩
 have k0:∀ i,(W i).cell? ⟨kb,0,none⟩=some (Qb L.fb):=fun i=>by obtain ⟨_,_,T⟩:=hend i;exact T.c 0 0 0
 have k12:∀ i,(W i).cell? ⟨kb,12,none⟩=some (U2 U4 k.t.slot):=fun i=>by obtain ⟨_,_,T⟩:=hend i;exact T.c 0 0 12
 have m1:∀ i,Calls prog 19 #[Qb L.fb] (W i) fun e w2=>e=U8 (Qb L.p.sb)/\∃ j,w2=W j:=fun i=>by
  obtain ⟨_,hg,T⟩:=hend i;refine (Qa.use ((Qn hg).does) T [1] rfl rfl).mono ?_
  rintro e w2 ⟨gs,⟨rfl,rfl⟩,T2⟩;exact ⟨rfl,hin _ ⟨_,hg,T2⟩⟩
 have m2:∀ i,Calls prog 38 #[Qb L.p.sb,U2 U4 k.t.slot] (W i) fun e w2=>e=U8 (UC #[U2 U6 wd,U2 U4 (x.aa.jG k.t.slot)])/\∃ j,w2=W j:=fun i=>by
  obtain ⟨_,hg,T⟩:=hend i;refine (Qa.use (kL _ hg) T [1] rfl rfl).mono ?_
  rintro e w2 ⟨gs,⟨rfl,g3,hg3,rfl⟩,T2⟩;exact ⟨rfl,hin _ ⟨g3,hg3,T2⟩⟩
 refine Z6 (fun w'=>∃ i,w'=W i) 17 (by kernel_rfl) (by kernel_rfl) hW0 ?_
 simp only [bY]
 repeat (go_big_quiet_step ((first | (go_at_call 19;with_reducible exact m1 _) | (go_at_call 38;with_reducible exact m2 _))))
 refine UD ?_
 intro _ hw';obtain ⟨iq,hw''⟩:=hw';subst hw'';obtain ⟨g1,hx1,T⟩:=hend iq;have HT:=Vh T;generalize W iq=w1 at HT |-;clear T hend hin hW0 hne;have jI:=Vh hx1;clear hx1 k0 k12 m1 m2;have k16:=HT.c 0 0 16;have lz:=HT.f 0 0 16;simp only [Xm,az] at k16;go_wp2_with fail
 refine ⟨rfl,?_⟩
 have HT:=Vh ((HT.set 0 0 rfl 16 (U2 U6 wd)).eq (H':=[Qm kb L.fb pv sv { k with aB:=wd },g1]) rfl);clear k16 lz;generalize UR _ _ _=w5 at HT |-;obtain ⟨k0,k11,k13,k16⟩:=HT.c4 0 0 0 11 13 16;simp only [Xm,az] at k0 k11 k13 k16;cases hb1:(sw == st) with
 | false =>
   go_wp2_with fail
   refine Mx 31 ?_
   simp only [bY]
   repeat (go_big_quiet_step ((first | (go_at_call 39;with_reducible exact Qd.quiet (iy.out) HT.out _ [] rfl rfl) | (go_at_call 229;with_reducible exact Qd.quiet (ui.out) HT.out _ [] rfl rfl) | (go_at_call 19;with_reducible exact Qd.quiet (Qn jI.out) HT.out _ [1] rfl rfl))))
   refine UD (QT HT fun nq HT=>?_)
   go_wp2_with fail
   refine ⟨rfl,?_⟩
   clear iy ui wR kL;go_wp2
   go_ret
   exact ⟨_,⟨by rw [hb1];rfl,g1,jI,rfl⟩,HT⟩
 | true =>
   cases hb2:(gw == k.t.gen) with
   | false =>
     go_wp2_with fail
     refine Mx 31 ?_
     simp only [bY]
     repeat (go_big_quiet_step ((first | (go_at_call 39;with_reducible exact Qd.quiet (iy.out) HT.out _ [] rfl rfl) | (go_at_call 229;with_reducible exact Qd.quiet (ui.out) HT.out _ [] rfl rfl) | (go_at_call 19;with_reducible exact Qd.quiet (Qn jI.out) HT.out _ [1] rfl rfl))))
     refine UD (QT HT fun nq HT=>?_)
     go_wp2_with fail
     refine ⟨rfl,?_⟩
     clear iy ui wR kL;go_wp2
     go_ret
     exact ⟨_,⟨by rw [hb1,hb2];rfl,g1,jI,rfl⟩,HT⟩
   | true =>
     go_wp2_with fail
     refine Mx 31 ?_
     simp only [bY]
     repeat (go_big_quiet_step ((first | (go_at_call 39;with_reducible exact Qd.quiet (iy.out) HT.out _ [] rfl rfl) | (go_at_call 229;with_reducible exact Qd.quiet (ui.out) HT.out _ [] rfl rfl) | (go_at_call 19;with_reducible exact Qd.quiet (Qn jI.out) HT.out _ [1] rfl rfl))))
     refine UD (QT HT fun nq HT=>?_)
     go_wp2_with fail
     refine Qa.run (wR _ jI) (HT) [1] ?_
     rintro e w1 gs ⟨rfl,g2,hx2,rfl⟩ HT;simp only [PU] at HT;have kM:=Vh hx2;clear hx2 k0 k11 k13 k16;go_wp2_with fail
     refine ⟨rfl,?_⟩
     go_wp2
     go_ret
     exact ⟨_,⟨by rw [hb1,hb2];rfl,g2,kM,rfl⟩,HT⟩
theorem uD (hx:Qf L x gC) (ho:pR x) (hs:0<=k.aB/\k.aB<18446744073709551616) (ev:Int):Qa prog 305 #[Qb kb,U2 U4 ev] [Qm kb L.fb pv sv k,gC] fun e gs =>
 e=U8 (.bool ((x.aa.try k.t.slot k.aB ev).2.2 == 0))/\∃ g',Qf L { x with aa:=(x.aa.try k.t.slot k.aB ev).1 } g'/\gs=[Qm kb L.fb pv sv k,g']:=by
 have HY:=Vh (AO hx ho.aa.n1 k.t.slot k.aB ev hs.1 hs.2);have ku:=Vh (Qn hx);generalize x.aa.try k.t.slot k.aB ev=r at *;clear ho hs hx;refine GO fun w HT=>?_
 obtain ⟨k0,k12,k16⟩:=HT.c3 0 0 0 12 16;simp only [Xm,az] at k0 k12 k16;go_enter func305,ntmps305
 go_wp2_with fail
 refine Mx 15 ?_
 simp only [bY]
 repeat (go_big_quiet_step ((first | (go_at_call 19;with_reducible exact Qd.quiet (ku.out) HT.out _ [1] rfl rfl))))
 refine UD (QT HT fun nq HT=>?_)
 go_wp2_with fail
 refine Qa.run HY HT [1] ?_
 rintro e w1 gs ⟨rfl,g1,hx1,rfl⟩ HT;simp only [PU] at HT;have HX:=Vh hx1;clear hx1 k0 k12 k16;go_wp2_with fail
 refine ⟨rfl,?_⟩
 go_wp2
 go_ret
 exact ⟨_,⟨rfl,g1,HX,rfl⟩,HT⟩
end
section
variable {L:Lay} {x:Qi} {ws:List Qg} {gC gW:List ak}
theorem q33 (hx:Qf L x gC) (hw:Jr L ws gW) {i:Nat} {q:ik} {s:Qu} {S:Qg} (hq:L.qs[i]?=some q) (hs:x.au[i]?=some s) (hS:ws[i]?=some S) (ho:x8 S) (t:Qp) (h0:0<=t.slot) (hd:0<=t.dl/\t.dl<18446744073709551616) :
 Qa prog 316 #[Qb q.b,.agg t.cells] [gC,gW] fun e gs=>e=U8 (UC #[U2 U6 (jE S t),U2 U4 0])/\∃ jm gM,Qf L x jm/\Jr L (ws.set i (S.place (mO S t))) gM/\gs=[jm,gM]:=by
 obtain ⟨tr,gF,gS,gR,gH,gT,h1,h2,h3,h4,h5,h6,rfl⟩:=hx;obtain ⟨hwl,hwf⟩:=hw;obtain ⟨u,y,⟨gr,gl,hr,hl,rfl⟩,hp,hback⟩:=h5.out (sN hq hs);obtain ⟨u2,y2,hu2,hp2,jo⟩:=hwf.out (sN hq hS);intro w hh;have T:=((((TG.refl hh).sum (H':=[gF++(gS++(gR++gT)),gH,gW])).bz 1 rfl hp).bz 2 rfl hp2).sum (H':=[gF++(gS++(gR++gT)),Xq q.b q.rb q.lb q.wb,gr,gl,y,u2,y2]);refine (Qa.use (qty q.b q.rb q.lb hu2 ho t h0 hd) T [1,5] rfl rfl).mono ?_
 rintro e w' ⟨gs,⟨he,g1,hn1,rfl⟩,T'⟩;obtain ⟨mX,hf,hp'⟩:=hback (q,s) (Xq q.b q.rb q.lb q.wb++(gr++gl)) ⟨gr,gl,hr,hl,rfl⟩;rw [Yv i hq] at hf;obtain ⟨gM,hf2,yA⟩:=jo (q,S.place (mO S t)) g1 hn1;rw [Yv i hq] at hf2;have hsame:x.au.set i s=x.au:=Yh hs;rw [hsame] at hf;refine ⟨_,⟨he,_,gM,⟨tr,gF,gS,gR,mX,gT,h1,h2,h3,h4,hf,h6,rfl⟩,⟨by rw [UQ];exact hwl,hf2⟩,rfl⟩,?_⟩
 exact (((TG.sum (H:=[gF++(gS++(gR++gT)),Xq q.b q.rb q.lb q.wb,gr,gl,y,g1,y2]) (H':=[gF++(gS++(gR++gT)),Xq q.b q.rb q.lb q.wb++(gr++gl)++y,g1++y2]) T').bz 1 rfl hp').bz 2 rfl yA).sum
theorem qvs (hx:Qf L x gC) (hw:Jr L ws gW) {i:Nat} {q:ik} {s:Qu} {S:Qg} (hq:L.qs[i]?=some q) (hs:x.au[i]?=some s) (hS:ws[i]?=some S) (ho:x8 S) :
 Qa prog 280 #[Qb q.b] [gC,gW] fun e gs=>∃ v gr,e=U8 (UC #[v,U2 U4 0])/\Q3 40 5 v S.fH.2.length (yV (S.fH.2.map gU.v)) gr/\∃ jm gM,Qf L x jm/\Jr L (ws.set i S.fH.1) gM/\gs=[jm,gM,gr]:=by
 obtain ⟨tr,gF,gS,gR,gH,gT,h1,h2,h3,h4,h5,h6,rfl⟩:=hx;obtain ⟨hwl,hwf⟩:=hw;obtain ⟨u,y,⟨gr,gl,hr,hl,rfl⟩,hp,hback⟩:=h5.out (sN hq hs);obtain ⟨u2,y2,hu2,hp2,jo⟩:=hwf.out (sN hq hS);intro w hh;have T:=((((TG.refl hh).sum (H':=[gF++(gS++(gR++gT)),gH,gW])).bz 1 rfl hp).bz 2 rfl hp2).sum (H':=[gF++(gS++(gR++gT)),Xq q.b q.rb q.lb q.wb,gr,gl,y,u2,y2]);refine (Qa.use (qpm q.b q.rb q.lb hu2 ho) T [1,5] rfl rfl).mono ?_
 rintro e w' ⟨gs,⟨v,g1,rO,he,hn1,hrow,rfl⟩,T'⟩;obtain ⟨mX,hf,hp'⟩:=hback (q,s) (Xq q.b q.rb q.lb q.wb++(gr++gl)) ⟨gr,gl,hr,hl,rfl⟩;rw [Yv i hq] at hf;obtain ⟨gM,hf2,yA⟩:=jo (q,S.fH.1) g1 hn1;rw [Yv i hq] at hf2;have hsame:x.au.set i s=x.au:=Yh hs;rw [hsame] at hf;refine ⟨_,⟨v,rO,he,hrow,_,gM,⟨tr,gF,gS,gR,mX,gT,h1,h2,h3,h4,hf,h6,rfl⟩,⟨by rw [UQ];exact hwl,hf2⟩,rfl⟩,?_⟩
 exact (((TG.sum (H:=[gF++(gS++(gR++gT)),Xq q.b q.rb q.lb q.wb,gr,gl,y,g1,y2,rO]) (H':=[gF++(gS++(gR++gT)),Xq q.b q.rb q.lb q.wb++(gr++gl)++y,g1++y2,rO]) T').bz 1 rfl hp').bz 2 rfl yA).sum
theorem JN (hx:Qf L x gC) {i:Nat} {q:ik} {s:Qu} (hq:L.qs[i]?=some q) (hs:x.au[i]?=some s) :
 Qa prog 33 #[Qb q.b] [gC] fun e gs=>e=U8 (Qb q.lb)/\∃ g',Qf L x g'/\gs=[g']:=by
 have:=Dp (v:=Qb q.lb) hx hq hs (fun g hg=>by
  obtain ⟨gr,gl,hr,hl,rfl⟩:=hg;intro w hw;have T:=(TG.refl hw).m [Xq q.b q.rb q.lb q.wb,gr,gl];refine (Qa.use (qpk q.b q.rb q.lb q.wb) T [0] rfl rfl).mono ?_
  rintro e w' ⟨gs,⟨he,rfl⟩,T'⟩
  exact ⟨_,⟨he,_,⟨gr,gl,hr,hl,rfl⟩,rfl⟩,TG.sum (H:=[Xq q.b q.rb q.lb q.wb,gr,gl]) T'⟩)
 rwa [qm hs] at this
theorem Ka {F:Nat} {args:Array Value} {v:Value} {who' n':Int} (hx:Qf L x gC) {i:Nat} {q:ik} {s:Qu} (hq:L.qs[i]?=some q) (hs:x.au[i]?=some s)
 (hd:∀ g,ql q.lb s.who s.turns g->Qa prog F args [g] fun e gs=>e=U8 v/\∃ g',ql q.lb who' n' g'/\gs=[g']) :
 Qa prog F args [gC] fun e gs=>e=U8 v/\∃ g',Qf L { x with au:=x.au.set i { s with who:=who',turns:=n' } } g'/\gs=[g'] :=
 Dp hx hq hs (fun g hg=>by
  obtain ⟨gr,gl,hr,hl,rfl⟩:=hg;intro w hw;have T:=(TG.refl hw).m [Xq q.b q.rb q.lb q.wb,gr,gl];refine (Qa.use (hd gl hl) T [2] rfl rfl).mono ?_
  rintro e w' ⟨gs,⟨he,g1,hn1,rfl⟩,T'⟩
  exact ⟨_,⟨he,_,⟨gr,g1,hr,hn1,rfl⟩,rfl⟩,TG.sum (H:=[Xq q.b q.rb q.lb q.wb,gr,g1]) T'⟩)
end
section
variable {L:Lay} {x:Qi} {ws:List Qg} {gC gW:List ak} {kb:Nat} {pv:Value} {k:Xi}
theorem Tn (hx:Qf L x gC) (hw:Jr L ws gW) {i:Nat} {q:ik} {s:Qu} {S:Qg} (hq:L.qs[i]?=some q) (hs:x.au[i]?=some s) (hS:ws[i]?=some S) (ho:x8 S) (h0:0<=k.t.slot) (hd:0<=k.t.dl/\k.t.dl<18446744073709551616) (hn:x.tr.length<=1000000) :
 Qa prog 306 #[Qb kb] [Qm kb L.fb pv (Qb q.b) k,gC,gW] fun e gs=>e=U8 (UC #[])/\∃ jm gM,Qf L { x with tr:=x.tr++[ll k { bL with kind:=4,id:=k.t.id,gen:=k.t.gen,dl:=jE S k.t }] } jm /\
  Jr L (ws.set i (S.place (mO S k.t))) gM/\gs=[Qm kb L.fb pv (Qb q.b) k,jm,gM]:=by
 have HA:=Vh (q33 hx hw hq hs hS ho k.t h0 hd);have HN:=Vh (show ∀ g E,Qf L x g->_ from fun g E hg=>yS (kb:=kb) (pv:=pv) (sv:=Qb q.b) (k:=k) (gC:=g) hg E hn);generalize S.place (mO S k.t)=S1 at *;generalize jE S k.t=dd at *;simp only [Qp.cells] at HA;clear hx hw hs hS ho hn h0 hd;refine GO fun w HT=>?_
 obtain ⟨k10,k11,k12,k13,k14,k15⟩:=HT.c6 0 0 10 11 12 13 14 15;simp only [Xm,az] at k10 k11 k12 k13 k14 k15;go_enter func306,ntmps306
 go_wp2_with fail
 refine Mx 8 ?_
 simp only [bY]
 repeat (go_big_quiet_step ((fail)))
 refine UD (QT HT fun nq HT=>?_)
 go_wp2_with fail
 refine Qa.run HA HT [1,2] ?_
 rintro e w1 gs ⟨rfl,g1,g2,hx1,hw1,rfl⟩ HT;simp only [PU] at HT;have HX:=Vh hx1;have HW:=Vh hw1;clear hx1 hw1 k10 k11 k12 k13 k14 k15;go_wp2_with fail
 refine ⟨rfl,?_⟩
 obtain ⟨k11,k13⟩:=HT.c2 0 0 11 13;simp only [Xm,az] at k11 k13;go_wp2_with fail
 refine Mx 13 ?_
 simp only [bY]
 repeat (go_big_quiet_step ((fail)))
 refine UD (QT HT fun nq HT=>?_)
 go_wp2_with fail
 refine Qa.run (HN _ { bL with kind:=4,id:=k.t.id,gen:=k.t.gen,dl:=dd } HX) (HT) [0,1] ?_
 rintro e w1 gs ⟨rfl,g3,hx3,rfl⟩ HT;simp only [PU] at HT;have HX3:=Vh hx3;clear hx3 k11 k13;go_wp2_with fail
 refine ⟨rfl,?_⟩
 go_wp2
 exact bodyPost_end (results_none rfl _ _ _) rfl ⟨_,⟨rfl,g3,g2,HX3,HW,rfl⟩,HT.p [0,1,2]⟩
end
section
variable {L:Lay} {x:Qi} {ws:List Qg} {p:Q2} {e:ET} {g gC gK gF:List ak} {kb:Nat} {pv sv:Value} {k:Xi}
theorem SI (L:Lay) (kb:Nat) (pv:Value):Qa prog 234 #[Qb kb] [] fun en gs=>∃ g' l,BL L kb pv AQ en g' l/\gs=[g',l]:=by
 refine GO fun w HT=>?_
 go_enter func234,ntmps234
 go_wp2_with fail
 refine Qa.run (aV.dY (b:=w.heap.size+1+1) (o:=0) (D:=#[U3 (U5 261) #[] #[Qb w.heap.size],U3 (U5 262) #[] #[Qb w.heap.size]]) rfl 2 (.inr rfl)) (((HT.a _ _).alloc (k:=w.heap.size+1) (by simp) _ _).alloc (k:=w.heap.size+1+1) (by simp) _ _) [2] ?_
 rintro e w1 gs ⟨bf,bl,bi,rfl,rfl⟩ HT;simp only [PU] at HT;obtain ⟨e0,e1⟩:=HT.c2 1 0 0 1;obtain ⟨ek,dZ⟩:=HT.f2 1 0 0 1;simp only [aN] at e0 e1;go_wp2
 exact U7 (v:=.agg #[U1,_]) (by simp [results,results234,go_sem,e0,e1]) rfl ⟨_,⟨_,[cl w.heap.size 88 #[Qb kb]],⟨_,_,rfl,fun e he=>⟨rfl,bf,bl,bi,w.heap.size+1+1,U3 (U5 261) #[] #[Qb w.heap.size],U3 (U5 262) #[] #[Qb w.heap.size],[],[],rfl,⟨rfl,w.heap.size,rfl,he _ (by simp)⟩,⟨rfl,w.heap.size,rfl,he _ (by simp)⟩,rfl⟩⟩,rfl⟩,(((HT.set 1 0 rfl 0 _).set 1 0 rfl 1 _).p [2,3,4,5,0]).sum⟩
theorem q5i (hx:Qf L x gC) (er:Int) (hn:x.tr.length<=1000000):Qa prog 190 #[Qb kb,U2 U4 er] [Qm kb L.fb pv sv k,gC] fun en gs =>
 ∃ g' l jm,BL L kb pv AQ en g' l/\Qf L { x with tr:=x.tr++[ll k { bL with kind:=9,err:=er }] } jm/\gs=[g',l,Qm kb L.fb pv sv { k with err:=er,ok:=false },jm]:=by
 have HN:=Vh (yS (kb:=kb) (pv:=pv) (sv:=sv) (k:=k) hx { bL with kind:=9,err:=er } hn);clear hx hn;refine GO fun w HT=>?_
 have lt:=HT.l 0 0;simp only [] at lt;go_enter func190,ntmps190
 go_wp2_with fail
 refine Qa.run HN (HT.a 153 #[U1,U1]) [0,1] ?_
 rintro e w1 gs ⟨rfl,g1,hx1,rfl⟩ HT;simp only [PU] at HT;have HX:=Vh hx1;clear hx1;obtain ⟨k3,k4,k5,k6,k7⟩:=HT.c5 0 0 3 4 5 6 7;obtain ⟨zU,Cf,Cg,Ch,p8⟩:=HT.f5 0 0 3 4 5 6 7;simp only [Xm,az] at k3 k4 k5 k6 k7;go_wp2_with fail
 refine Qa.run (SI L kb pv) (((((((HT.set 0 0 rfl 3 (U2 U4 er)).set 0 0 rfl 4 (.bool false)).set 0 0 rfl 5 (U2 U6 0)).set 0 0 rfl 6 (U2 U6 0)).set 0 0 rfl 7 (.slice none 0 0)).eq (H':=[Qm kb L.fb pv sv { k with err:=er,ok:=false },g1,[cl w.heap.size 153 #[U1,U1]]]) rfl)) [] ?_
 rintro e w1 gs ⟨g2,l2,⟨m2,d2,rfl,hs2⟩,rfl⟩ HT;simp only [PU] at HT;obtain ⟨r0,r1⟩:=HT.c2 2 0 0 1;obtain ⟨cr,df⟩:=HT.f2 2 0 0 1;simp only [aN] at r0 r1;have hv2:=(Q9 L kb pv (l2,[])).vals (hs2 (l2,[]) (fun _ h=>h));obtain ⟨st1,st2⟩:=aV.aD (P:=prog) hv2.1 hv2.2 r0 cr r1 df;have HS:=Vh hs2;clear hv2 hs2;go_wp2
 exact U7 (v:=.agg #[_,_]) (by simp [results,results190,go_sem,r0,r1]) rfl ⟨_,⟨g2,l2,g1,⟨m2,d2,rfl,HS⟩,HX,rfl⟩,((HT.set 2 0 rfl 0 _).set 2 0 rfl 1 _).p [3,4,0,1]⟩
theorem q8i (hz:ze L kb pv e ⟨k,x,ws,p⟩ gK gF) (hp:jZ .enter ⟨k,x,ws,p⟩):Qa prog 104 #[Qb kb] [gK,gF] (dI L kb pv e (runT .enter ⟨k,x,ws,p⟩).1 (runT .enter ⟨k,x,ws,p⟩).2):=by
 have hi0:=hp.1.core.i0;have hi1:=hp.1.core.i1;simp only at hi0 hi1;clear hp;unfold dI;dsimp only [runT]
 obtain ⟨gd,gC,gW,gP,hd,hx,hw,aU,rfl,rfl⟩:=hz;refine GO fun w HT=>?_
 have HT:=Vh (HT.out.m [Qm kb L.fb pv (Q7 L k) k,gd,e.1,gC,gW,gP]);have HX:=Vh hx;have HD:=Vh hd;have HW:=Vh hw;have bF:=Vh aU;clear hx hd hw aU;have k0:=HT.c 0 0 0;simp only [Xm,az] at k0;have lt:=HT.l 0 0;simp only [] at lt;have HE:=Vh (PX HX ⟨hi0,hi1⟩);clear hi0 hi1;go_enter func104,ntmps104
 go_wp2_with fail
 refine Qa.run HE (HT.a _ _) [3] ?_
 rintro e w1 gs ⟨rfl,g1,hx1,rfl⟩ HT;simp only [PU] at HT;have HX:=Vh hx1;clear hx1 k0 lt;go_wp2_with fail
 refine Qa.run (ni _ _ _) (HT) [] ?_
 rintro e w1 gs ⟨rfl,rfl⟩ HT;simp only [PU] at HT;obtain ⟨r0,r1⟩:=HT.c2 6 0 0 1;obtain ⟨cr,df⟩:=HT.f2 6 0 0 1;simp only [aN] at r0 r1;go_wp2
 exact U7 (v:=.agg #[_,_]) (by simp [results,results104,go_sem,r0,r1]) rfl ⟨_,⟨e,dF.refl e,_,_,[],_,_,rfl,⟨rfl,rfl,rfl⟩,⟨gd,_,gW,gP,HD,HX,HW,bF,rfl,rfl⟩,rfl⟩,(((HT.set 6 0 rfl 0 _).set 6 0 rfl 1 _).p [0,1,2,3,4,5]).sum⟩
theorem q9u (hz:ze L kb pv e ⟨k,x,ws,p⟩ gK gF) (hp:jZ .gate ⟨k,x,ws,p⟩):Qa prog 154 #[Qb kb] [gK,gF] (dI L kb pv e (runT .gate ⟨k,x,ws,p⟩).1 (runT .gate ⟨k,x,ws,p⟩).2):=by
 have dJ:=Vh hp.1.core.tr;simp only at dJ;clear hp;cases hc:x.f.closed with
 | false =>
   have he:runT .gate ⟨k,x,ws,p⟩=(.at none .tick,⟨k,x,ws,p⟩):=by simp [runT,hc]
   rw [he];clear he;unfold dI;obtain ⟨gd,gC,gW,gP,hd,hx,hw,aU,rfl,rfl⟩:=hz;refine GO fun w HT=>?_
   have HT:=Vh (HT.out.m [Qm kb L.fb pv (Q7 L k) k,gd,e.1,gC,gW,gP]);have HX:=Vh hx;have HD:=Vh hd;have HW:=Vh hw;have bF:=Vh aU;clear hx hd hw aU;have k0:=HT.c 0 0 0;simp only [Xm,az] at k0;have lt:=HT.l 0 0;simp only [] at lt;have hcl:=qu HX;rw [hc] at hcl;have iB:=Vh hcl;clear hcl hc;go_enter func154,ntmps154
   go_wp2_with fail
   refine Qa.run iB (HT.a _ _) [3] ?_
   rintro e w1 gs ⟨rfl,g1,hx1,rfl⟩ HT;simp only [PU] at HT;have HX:=Vh hx1;clear hx1 k0 lt;go_wp2_with fail
   refine Qa.run (ni _ _ _) (HT) [] ?_
   rintro e w1 gs ⟨rfl,rfl⟩ HT;simp only [PU] at HT;obtain ⟨r0,r1⟩:=HT.c2 6 0 0 1;obtain ⟨cr,df⟩:=HT.f2 6 0 0 1;simp only [aN] at r0 r1;go_wp2
   exact U7 (v:=.agg #[_,_]) (by simp [results,results154,go_sem,r0,r1]) rfl ⟨_,⟨e,dF.refl e,_,_,[],_,_,rfl,⟨rfl,rfl,rfl⟩,⟨gd,_,gW,gP,HD,HX,HW,bF,rfl,rfl⟩,rfl⟩,(((HT.set 6 0 rfl 0 _).set 6 0 rfl 1 _).p [0,1,2,3,4,5]).sum⟩
 | true =>
   have he:runT .gate ⟨k,x,ws,p⟩=(AQ,⟨{ k with err:=3,ok:=false },{ x with tr:=x.tr++[ll k { bL with kind:=9,err:=3 }] },ws,p⟩):=by
    simp [runT,hc,Ys,ZT.note]
   rw [he];clear he;unfold dI;obtain ⟨gd,gC,gW,gP,hd,hx,hw,aU,rfl,rfl⟩:=hz;refine GO fun w HT=>?_
   have HT:=Vh (HT.out.m [Qm kb L.fb pv (Q7 L k) k,gd,e.1,gC,gW,gP]);have HX:=Vh hx;have HD:=Vh hd;have HW:=Vh hw;have bF:=Vh aU;clear hx hd hw aU;have k0:=HT.c 0 0 0;simp only [Xm,az] at k0;have lt:=HT.l 0 0;simp only [] at lt;have hcl:=qu HX;rw [hc] at hcl;have iB:=Vh hcl;clear hcl hc;go_enter func154,ntmps154
   go_wp2_with fail
   refine Qa.run iB (HT.a _ _) [3] ?_
   rintro e w1 gs ⟨rfl,g1,hx1,rfl⟩ HT;simp only [PU] at HT;have HX:=Vh hx1;clear hx1 k0 lt;go_wp2_with fail
   refine Qa.run (q5i HX 3 dJ) (HT) [0,3] ?_
   rintro e w1 gs ⟨g2,l2,g3,⟨m2,d2,rfl,hs2⟩,hx3,rfl⟩ HT;simp only [PU] at HT;have HX:=Vh hx3;clear hx3;obtain ⟨r0,r1⟩:=HT.c2 6 0 0 1;obtain ⟨cr,df⟩:=HT.f2 6 0 0 1;simp only [aN] at r0 r1;have hv2:=(Q9 L kb pv (l2,[])).vals (hs2 (l2,[]) (fun _ h=>h));obtain ⟨st1,st2⟩:=aV.aD (P:=prog) hv2.1 hv2.2 r0 cr r1 df;have HS:=Vh hs2;clear hv2 hs2;go_wp2
   exact U7 (v:=.agg #[_,_]) (by simp [results,results154,go_sem,r0,r1]) rfl ⟨_,⟨(e.1++l2,e.2),dF.app e l2,m2,d2,g2,_,_,rfl,HS _ (fun b hb=>UA _ hb),⟨gd,g3,gW,gP,HD,HX,HW,bF,rfl,rfl⟩,rfl⟩,(((HT.set 6 0 rfl 0 _).set 6 0 rfl 1 _).p [0,7,1,2,3,8,4,5]).sum (H':=[g2,Qm kb L.fb pv (Q7 L k) { k with err:=3,ok:=false }++(gd++(e.1++l2)),g3++(gW++gP)])⟩
theorem Me (kb:Nat):Qa prog 264 #[Qb kb] [] fun en gs=>∃ bk bd,en=U8 (.agg #[U3 (U5 272) #[] #[Qb bk],U3 (U5 274) #[] #[Qb bk,Qb bd]]) /\
 gs=[[cl bk 88 #[Qb kb]],[cl bd 354 #[.slice none 0 0]]]:=by
 refine GO fun w HT=>?_
 go_enter func264,ntmps264
 go_wp2_with fail
 refine Qa.run (DK _ _ _ _ _ _) (((HT.a _ _).alloc (k:=w.heap.size+1) (by simp) _ _).alloc (k:=w.heap.size+1+1) (by simp) _ _) [] ?_
 rintro e w1 gs ⟨rfl,rfl⟩ HT;simp only [PU] at HT;obtain ⟨r0,r1⟩:=HT.c2 1 0 0 1;obtain ⟨cr,df⟩:=HT.f2 1 0 0 1;simp only [aN] at r0 r1;go_wp2
 exact U7 (v:=.agg #[_,_]) (by simp [results,results264,go_sem,r0,r1]) rfl ⟨_,⟨w.heap.size,w.heap.size+1+1,rfl,rfl⟩,((HT.set 1 0 rfl 0 _).set 1 0 rfl 1 _).p [0,2]⟩
theorem qt0 {i:Nat} (hx:Qf L x gC) (hi:¬ i<x.au.length):sJ (L.qs.map ik.b) i=UI none:=by
 obtain ⟨tr,gF,gS,gR,gH,gT,h1,h2,h3,h4,h5,h6,rfl⟩:=hx;unfold sJ;rw [if_neg (by simp;omega)]
def ShR (L:Lay) (kb:Nat) (pv:Value) (e:ET) (s:ST) (z:ZT) (en:UO) (gs:GH):Prop :=
 ∃ (l:List ak) (ds:List Nat) (m d:Value) (g' MX jm:List ak),en=U8 (.agg #[m,d])/\(∀ e1:ET,(∀ b∈l,b∈e1.1)->e1.2=ds->(lZ L kb pv).SV e1 s m d g')/\wH ds z.k MX/\dF e (e.1++l,ds)/\Qf L z.x jm /\
   gs=[g',l,Qm kb L.fb pv (Q7 L z.k) z.k,MX,jm]
theorem SN {gd:List ak} (hx:Qf L x gC) (hd:wH e.2 k gd) (i:Nat) (hi:i<=65):Qa prog 236 #[Qb kb,U2 U4 i] [Qm kb L.fb pv (Q7 L k) k,gd,gC]
 (ShR L kb pv e (Xa i ⟨k,x,ws,p⟩).1 (Xa i ⟨k,x,ws,p⟩).2):=by
 have HX:=Vh hx;have HD:=Vh hd;have hsh:=qj6 hx i;unfold ShR;by_cases hlt:i<x.au.length
 ·obtain ⟨q,hq,hv⟩:=NI hx hlt
  rw [hv] at hsh;have kr:=Vh hsh;have he:Xa i ⟨k,x,ws,p⟩=(.thn (.at (some .lock) (.dH k.nd)) (.ae i),⟨{ k with s:=some i,nd:=k.nd+1,due:=[] },x,ws,p⟩):=if_pos hlt;rw [he];dsimp only
  have hsv:Q7 L ({ k with s:=some i,nd:=k.nd+1,due:=[] }:Xi)=Qb q.b:=by simp [Q7,hq]
  rw [hsv];clear he hsh hv hlt hx hd hq hsv;refine GO fun w HT=>?_
  go_enter func236,ntmps236
  go_wp2_with fail
  have HT:=Vh (((HT.a 88 #[Qb kb]).alloc (k:=w.heap.size+1) (by simp) 3 #[U2 U4 i]).alloc (k:=w.heap.size+1+1) (by simp) 153 #[U1,U1]);obtain ⟨b1,hb1⟩:∃ b1,b1=w.heap.size:=⟨_,rfl⟩;obtain ⟨b2,hb2⟩:∃ b2,b2=w.heap.size+1:=⟨_,rfl⟩;obtain ⟨b3,hb3⟩:∃ b3,b3=w.heap.size+1+1:=⟨_,rfl⟩;rw [<- hb3,<- hb2,<- hb1] at HT |-;clear hb1 hb2 hb3;generalize UB (UB (UB w _) _) _=w1 at HT |-;have k0:=HT.c 0 0 0;simp only [Xm,az] at k0;have a0:=HT.c 3 0 0;simp only [aN] at a0;have b0:=HT.c 4 0 0;simp only [aN] at b0;go_quiet ((first | (go_at_call 17;with_reducible exact Qd.quiet (kr.out) HT.out _ [2] rfl rfl)))
  have HT:=Vh (HT.out.drewN nq);clear k0 a0 b0;have k10:=HT.c 0 0 10;have iK:=HT.f 0 0 10;simp only [Xm,az] at k10;have a0:=HT.c 3 0 0;simp only [aN] at a0;go_wp2_with fail
  refine Qa.run (Me kb) (((HT.set 0 0 rfl 10 (Qb q.b)).eq (H':=[Qm kb L.fb pv (Qb q.b) k,gd,gC,[cl b1 88 #[Qb kb]],[cl b2 3 #[U2 U4 i]],[cl b3 153 #[U1,U1]]]) rfl)) [] ?_
  rintro e w1 gs ⟨bk2,bd,rfl,rfl⟩ HT;simp only [PU] at HT;clear k10 iK a0
  have Gz:=Vh (show (e.2++[bd])[k.nd]?=some bd from by
   have:=HD.1;rw [UG (by omega)]
   simp [this])
  go_wp2_with fail
  refine Qa.run (aV.bR (c:=(lZ L kb pv).on ([cl bk2 88 #[Qb kb],cl b1 88 #[Qb kb],cl b2 3 #[U2 U4 i]],e.2++[bd])) (s:=.at (some .lock) (.dH k.nd)) (f:=MT.ae i) (v:=U3 (U5 265) #[] #[Qb b1,Qb b2]) (g:=[]) (gm:=[]) (Q9 L kb pv _) rfl ⟨[],[],⟨rfl,bk2,rfl,by simp [gG]⟩,⟨rfl,bk2,bd,rfl,by simp [gG],Gz⟩,rfl⟩ ⟨rfl,b1,b2,rfl,by simp [gG],by simp⟩) (HT.sum (H':=[Qm kb L.fb pv (Qb q.b) k,gd,gC,[cl b1 88 #[Qb kb]],[cl b2 3 #[U2 U4 i]],[cl b3 153 #[U1,U1]],[cl bk2 88 #[Qb kb]],[cl bd 354 #[.slice none 0 0]],[],[]])) [8,9] ?_
  rintro e w1 gs ⟨bs,br,rfl,rfl⟩ HT;simp only [PU] at HT;obtain ⟨r0,r1⟩:=HT.c2 5 0 0 1;obtain ⟨cr,df⟩:=HT.f2 5 0 0 1;simp only [aN] at r0 r1;go_wp2
  exact U7 (v:=.agg #[_,_]) (by simp [results,results236,go_sem,r0,r1]) rfl ⟨_,⟨[cl bk2 88 #[Qb kb],cl b1 88 #[Qb kb],cl b2 3 #[U2 U4 i]],e.2++[bd],_,_,_,[cl bd 354 #[.slice none 0 0]],gC,rfl,fun e1 he hd2=>⟨bs,br,_,_,[],[],rfl,rfl,⟨[],[],⟨rfl,bk2,rfl,he _ (by simp)⟩,⟨rfl,bk2,bd,rfl,he _ (by simp),by rw [hd2];exact Gz⟩,rfl⟩,⟨rfl,b1,b2,rfl,he _ (by simp),he _ (by simp)⟩,rfl⟩,
   ⟨by simp [HD.out.1],.inr ⟨k.nd,bd,.slice none 0 0,[],rfl,Gz,X7 _ _,rfl⟩⟩,dF.Hg e _ bd,HX,rfl⟩,(((HT.set 5 0 rfl 0 _).set 5 0 rfl 1 _).p [8,6,3,4,0,7,2]).sum (H':=[[cl bs 153 #[U3 (U5 272) #[] #[Qb bk2],U3 (U5 274) #[] #[Qb bk2,Qb bd]],cl br 151 #[U3 (U5 265) #[] #[Qb b1,Qb b2]]]++[]++[],[cl bk2 88 #[Qb kb],cl b1 88 #[Qb kb],cl b2 3 #[U2 U4 i]],Qm kb L.fb pv (Qb q.b) k,[cl bd 354 #[.slice none 0 0]],gC])⟩
 ·rw [qt0 hx hlt] at hsh
  have kr:=Vh hsh;have he:Xa i ⟨k,x,ws,p⟩=(AQ,⟨{ k with err:=0,ok:=true },x,ws,p⟩):=if_neg hlt;rw [he];dsimp only
  clear he hsh hlt hx hd;refine GO fun w HT=>?_
  go_enter func236,ntmps236
  go_wp2_with fail
  have HT:=Vh (((HT.a 88 #[Qb kb]).alloc (k:=w.heap.size+1) (by simp) 3 #[U2 U4 i]).alloc (k:=w.heap.size+1+1) (by simp) 153 #[U1,U1]);obtain ⟨b1,hb1⟩:∃ b1,b1=w.heap.size:=⟨_,rfl⟩;obtain ⟨b2,hb2⟩:∃ b2,b2=w.heap.size+1:=⟨_,rfl⟩;obtain ⟨b3,hb3⟩:∃ b3,b3=w.heap.size+1+1:=⟨_,rfl⟩;rw [<- hb3,<- hb2,<- hb1] at HT |-;clear hb1 hb2 hb3;generalize UB (UB (UB w _) _) _=w1 at HT |-;have k0:=HT.c 0 0 0;simp only [Xm,az] at k0;have a0:=HT.c 3 0 0;simp only [aN] at a0;have b0:=HT.c 4 0 0;simp only [aN] at b0;go_quiet ((first | (go_at_call 17;with_reducible exact Qd.quiet (kr.out) HT.out _ [2] rfl rfl)))
  have HT:=Vh (HT.out.drewN nq);clear k0 a0 b0;obtain ⟨k3,k4,k5,k6,k7⟩:=HT.c5 0 0 3 4 5 6 7;obtain ⟨zU,Cf,Cg,Ch,p8⟩:=HT.f5 0 0 3 4 5 6 7;simp only [Xm,az] at k3 k4 k5 k6 k7;have a0:=HT.c 3 0 0;simp only [aN] at a0;have ne1:=HT.ne 0 0 3 0 (by decide) rfl rfl;simp only [] at ne1;have o7:=Ne.symm ne1;go_wp2_with fail
  refine Qa.run (SI L kb pv) (((((((HT.set 0 0 rfl 3 (U2 U4 0)).set 0 0 rfl 4 (.bool true)).set 0 0 rfl 5 (U2 U6 0)).set 0 0 rfl 6 (U2 U6 0)).set 0 0 rfl 7 (.slice none 0 0)).eq (H':=[Qm kb L.fb pv (Q7 L k) { k with err:=0,ok:=true },gd,gC,[cl b1 88 #[Qb kb]],[cl b2 3 #[U2 U4 i]],[cl b3 153 #[U1,U1]]]) rfl)) [] ?_
  rintro e w1 gs ⟨g2,l2,⟨m2,d2,rfl,hs2⟩,rfl⟩ HT;simp only [PU] at HT;clear k3 k4 k5 k6 k7 zU Cf Cg Ch p8 a0 ne1 o7;obtain ⟨r0,r1⟩:=HT.c2 5 0 0 1;obtain ⟨cr,df⟩:=HT.f2 5 0 0 1;simp only [aN] at r0 r1;have hv2:=(Q9 L kb pv (l2,[])).vals (hs2 (l2,[]) (fun _ h=>h));obtain ⟨st1,st2⟩:=aV.aD (P:=prog) hv2.1 hv2.2 r0 cr r1 df;have HS:=Vh hs2;clear hv2 hs2;go_wp2
  exact U7 (v:=.agg #[_,_]) (by simp [results,results236,go_sem,r0,r1]) rfl ⟨_,⟨l2,e.2,m2,d2,g2,gd,gC,rfl,fun e1 he _=>HS e1 he,HD,dF.app e l2,HX,rfl⟩,(((HT.set 5 0 rfl 0 _).set 5 0 rfl 1 _).p [6,7,0,1,2]).eq rfl⟩
theorem q1q (i:Nat) (hz:ze L kb pv e ⟨k,x,ws,p⟩ gK gF) (hp:jZ (.ae i) ⟨k,x,ws,p⟩) (bk bi:Nat) (hb:gG kb bk e) (hbi:cl bi 3 #[U2 U4 (i:Nat)]∈e.1) :
 Qa prog 265 #[Qb bk,Qb bi] [gK,gF] (dI L kb pv e (runT (.ae i) ⟨k,x,ws,p⟩).1 (runT (.ae i) ⟨k,x,ws,p⟩).2):=by
 have hi:i<=64:=hp.2;clear hp;unfold dI
 have hws:(runT (.ae i) ⟨k,x,ws,p⟩).2.ws=ws/\(runT (.ae i) ⟨k,x,ws,p⟩).2.p=p:=by
  dsimp only [runT,Xa]
  split <;> exact ⟨rfl,rfl⟩
 obtain ⟨gd,gC,gW,gP,hd,hx,hw,aU,rfl,rfl⟩:=hz;have hsh:=SN (kb:=kb) (pv:=pv) (ws:=ws) (p:=p) hx hd (i+1) (by omega);unfold ShR at hsh;have hcast:((i+1:Nat):Int)=(i:Int)+1:=by omega
 rw [hcast] at hsh;rw [show Xa (i+1) ⟨k,x,ws,p⟩=runT (.ae i) ⟨k,x,ws,p⟩ from rfl] at hsh;generalize runT (.ae i) ⟨k,x,ws,p⟩=R at *;obtain ⟨s',⟨k',x',rz,p'⟩⟩:=R;simp only at hws hsh |-;obtain ⟨rfl,rfl⟩:=hws;refine GO fun w HT=>?_
 have HT:=Vh (HT.out.m [Qm kb L.fb pv (Q7 L k) k,gd,e.1,gC,gW,gP]);have kr:=Vh hsh;have HW:=Vh hw;have bF:=Vh aU;have b0:=HT.ah 2 hb 0;have i0:=HT.ah 2 hbi 0;have bM:=HT.bu 2 hb;have nT:=HT.bu 2 hbi;simp only [bP] at b0 i0 bM nT;clear hx hd hw aU hsh hb hbi;go_enter func265,ntmps265
 go_wp2_with fail
 refine Qa.run kr (HT.a _ _) [0,1,3] ?_
 rintro e w1 gs ⟨l2,ds2,m2,d2,g2,Ic,Ck,rfl,hs2,hd2,hl2,hx2,rfl⟩ HT;simp only [PU] at HT;clear b0 i0 bM nT;have hv2:=(Q9 L kb pv (l2,ds2)).vals (hs2 (l2,ds2) (fun _ h=>h) rfl);obtain ⟨r0,r1⟩:=HT.c2 6 0 0 1;obtain ⟨cr,df⟩:=HT.f2 6 0 0 1;simp only [aN] at r0 r1;obtain ⟨st1,st2⟩:=aV.aD (P:=prog) hv2.1 hv2.2 r0 cr r1 df;have HS:=Vh hs2;have HD2:=Vh hd2;have HL2:=Vh hl2;have kM:=Vh hx2;clear hv2 hs2 hd2 hl2 hx2;go_wp2
 exact U7 (v:=.agg #[_,_]) (by simp [results,results265,go_sem,r0,r1]) rfl ⟨_,⟨(e.1++l2,ds2),HL2,m2,d2,g2,_,_,rfl,HS _ (fun b hb=>UA _ hb) rfl,⟨Ic,Ck,gW,gP,HD2,kM,HW,bF,rfl,rfl⟩,rfl⟩,(((HT.set 6 0 rfl 0 _).set 6 0 rfl 1 _).p [0,3,7,2,1,8,4,5]).sum⟩
theorem q9x (hz:ze L kb pv e ⟨k,x,ws,p⟩ gK gF) (hp:jZ .tick ⟨k,x,ws,p⟩):Qa prog 191 #[Qb kb] [gK,gF] (dI L kb pv e (runT .tick ⟨k,x,ws,p⟩).1 (runT .tick ⟨k,x,ws,p⟩).2):=by
 have hn:0<=x.f.now/\x.f.now<9223372036854775807:=by have:=hp.1.now;simp only at this;omega
 have hnn:=hp.1.now.1;have htr:=hp.1.core.tr;simp only at htr hnn;clear hp;unfold dI
 have hws:(runT .tick ⟨k,x,ws,p⟩).2.ws=ws/\(runT .tick ⟨k,x,ws,p⟩).2.p=p:=by
  dsimp only [runT,Xa]
  split <;> exact ⟨rfl,rfl⟩
 obtain ⟨gd,gC,gW,gP,hd,hx,hw,aU,rfl,rfl⟩:=hz;have HTN:=Vh (qzw hx hn);have oh:=Vh (show ∀ g,Qf L { x with f:={ x.f with now:=x.f.now+1 } } g->_ from fun g hg=>yS (kb:=kb) (pv:=pv) (sv:=Q7 L k) (k:={ k with now:=x.f.now+1 }) (gC:=g) hg { bL with kind:=11,tick:=x.f.now+1 } htr);have hsh:∀ g,Qf L { x with f:={ x.f with now:=x.f.now+1 },tr:=x.tr++[ll k { bL with kind:=11,tick:=x.f.now+1 }] } g->_:=fun g hg=>SN (kb:=kb) (pv:=pv) (ws:=ws) (p:=p) (e:=e) (k:={ k with now:=x.f.now+1 }) (gd:=gd) hg hd 0 (by decide)
 unfold ShR at hsh;rw [show Xa 0 ⟨{ k with now:=x.f.now+1 },{ x with f:={ x.f with now:=x.f.now+1 },tr:=x.tr++[ll k { bL with kind:=11,tick:=x.f.now+1 }] },ws,p⟩=runT .tick ⟨k,x,ws,p⟩ from rfl] at hsh;generalize runT .tick ⟨k,x,ws,p⟩=R at *;obtain ⟨s',⟨k',x',rz,p'⟩⟩:=R;simp only at hws hsh |-;obtain ⟨rfl,rfl⟩:=hws;refine GO fun w HT=>?_
 have HT:=Vh (HT.out.m [Qm kb L.fb pv (Q7 L k) k,gd,e.1,gC,gW,gP]);have kr:=Vh hsh;have HW:=Vh hw;have bF:=Vh aU;have k0:=HT.c 0 0 0;simp only [Xm,az] at k0;have lt:=HT.l 0 0;simp only [] at lt;clear hx hd hw aU hsh htr;go_enter func191,ntmps191
 go_wp2_with fail
 refine Qa.run HTN (HT.a _ _) [3] ?_
 rintro e w1 gs ⟨rfl,g1,hx1,rfl⟩ HT;simp only [PU] at HT;have HX:=Vh hx1;clear hx1 k0 lt;have k9:=HT.c 0 0 9;have rJ:=HT.f 0 0 9;simp only [Xm,az] at k9;go_wp2_with fail
 refine Qa.run (oh _ HX) ((HT.set 0 0 rfl 9 (U2 U6 (x.f.now+1))).eq (H':=[Qm kb L.fb pv (Q7 L k) { k with now:=x.f.now+1 },gd,e.1,g1,gW,gP,[cl w.heap.size 153 #[U1,U1]]]) rfl) [0,3] ?_
 rintro e w1 gs ⟨rfl,g2,hx2,rfl⟩ HT;simp only [PU] at HT;have kM:=Vh hx2;clear hx2 k9 rJ;go_wp2_with fail
 refine Qa.run (kr _ kM) (HT) [0,1,3] ?_
 rintro e w1 gs ⟨l2,ds2,m2,d2,g2,Ic,Ck,rfl,hs2,hd2,hl2,hx2,rfl⟩ HT;simp only [PU] at HT;have hv2:=(Q9 L kb pv (l2,ds2)).vals (hs2 (l2,ds2) (fun _ h=>h) rfl);obtain ⟨r0,r1⟩:=HT.c2 6 0 0 1;obtain ⟨cr,df⟩:=HT.f2 6 0 0 1;simp only [aN] at r0 r1;obtain ⟨st1,st2⟩:=aV.aD (P:=prog) hv2.1 hv2.2 r0 cr r1 df;have HS:=Vh hs2;have HD2:=Vh hd2;have HL2:=Vh hl2;have kM:=Vh hx2;clear hv2 hs2 hd2 hl2 hx2;go_wp2
 exact U7 (v:=.agg #[_,_]) (by simp [results,results191,go_sem,r0,r1]) rfl ⟨_,⟨(e.1++l2,ds2),HL2,m2,d2,g2,_,_,rfl,HS _ (fun b hb=>UA _ hb) rfl,⟨Ic,Ck,gW,gP,HD2,kM,HW,bF,rfl,rfl⟩,rfl⟩,(((HT.set 6 0 rfl 0 _).set 6 0 rfl 1 _).p [0,3,7,2,1,8,4,5]).sum⟩
end
theorem Ra:∀ {l:List Qp} {i:Nat} {t:Qp},l[i]?=some t->∀ j,j<5->(yV l)[i*5+j]?=t.cells[j]?
 | [],i,t,h,j,hj=>by simp at h
 | a::l,0,t,h,j,hj=>by
   simp only [List.getElem?_cons_zero,Option.some.injEq] at h;subst h
   show (a.cells.toList++qc2 (l.map Qp.cells))[0*5+j]?=_
   rw [UJ (by show 0*5+j<5;omega)];simp
 | a::l,i+1,t,h,j,hj=>by
   simp only [List.getElem?_cons_succ] at h;have:=Ra h j hj
   show (a.cells.toList++qc2 (l.map Qp.cells))[(i+1)*5+j]?=_
   rw [UG (by show 5<=(i+1)*5+j;omega),show (i+1)*5+j - a.cells.toList.length=i*5+j from by show (i+1)*5+j - 5=_;omega];exact this
section
variable {L:Lay} {x:Qi} {ws:List Qg} {p:Q2} {e:ET} {g gC gK gF:List ak} {kb:Nat} {pv sv:Value} {k:Xi}
theorem Oj {i:Nat} {q:ik} (hq:L.qs[i]?=some q) (n:Int):Qa prog 277 #[Qb kb,U2 U4 n] [Qm kb L.fb pv (Qb q.b) k] fun en gs =>
 ∃ g' l,BL L kb pv (if n<=0 then .nil else .at (some (.ready i)) (.bI n)) en g' l/\gs=[g',l,Qm kb L.fb pv (Qb q.b) k]:=by
 have HQ:=Vh hq;clear hq;by_cases hn:n<=0
 ·rw [if_pos hn]
  refine GO fun w HT=>?_
  go_enter func277,ntmps277
  go_wp2
  exact U7 (v:=.agg #[U1,U1]) (by simp [results,results277,go_sem]) rfl ⟨_,⟨[],[],⟨_,_,rfl,fun e he=>⟨rfl,rfl,rfl⟩⟩,rfl⟩,(((HT.aT _).aT _).aT _).sum⟩
 ·rw [if_neg hn]
  refine GO fun w HT=>?_
  have k10:=HT.c 0 0 10;simp only [Xm,az] at k10;have lt:=HT.l 0 0;simp only [] at lt;have nS:kb<w.heap.size+1:=by omega
  have lt2:kb<w.heap.size+1+1:=by omega
  go_enter func277,ntmps277
  go_wp2_with fail
  refine Qa.run (DK _ _ _ _ _ _) (((HT.a _ _).alloc (k:=w.heap.size+1) (by simp) _ _).alloc (k:=w.heap.size+1+1) (by simp) _ _) [] ?_
  rintro e w1 gs ⟨rfl,rfl⟩ HT;simp only [PU] at HT;clear k10 lt nS lt2;obtain ⟨r0,r1⟩:=HT.c2 3 0 0 1;obtain ⟨cr,df⟩:=HT.f2 3 0 0 1;simp only [aN] at r0 r1;go_wp2
  exact U7 (v:=.agg #[_,_]) (by simp [results,results277,go_sem,r0,r1]) rfl ⟨_,⟨[],[cl w.heap.size 88 #[Qb kb],cl (w.heap.size+1) 3 #[U2 U4 n]],⟨_,_,rfl,fun e he=>⟨[],[],⟨rfl,q,HQ,rfl⟩,⟨rfl,w.heap.size,w.heap.size+1,rfl,he _ (by simp),he _ (by simp)⟩,rfl⟩⟩,rfl⟩,(((HT.set 3 0 rfl 0 _).set 3 0 rfl 1 _).p [1,2,0]).sum⟩
theorem QX:Qa prog 293 #[Qb kb] [Qm kb L.fb pv sv k] fun en gs =>
 ∃ g' l,BL L kb pv (if k.t.slot<0 then .nil else .at none .bA) en g' l/\gs=[g',l,Qm kb L.fb pv sv k]:=by
 by_cases hn:k.t.slot<0
 ·rw [if_pos hn]
  refine GO fun w HT=>?_
  have k12:=HT.c 0 0 12;simp only [Xm,az] at k12;have lt:=HT.l 0 0;simp only [] at lt;go_enter func293,ntmps293
  go_wp2
  exact U7 (v:=.agg #[U1,U1]) (by simp [results,results293,go_sem]) rfl ⟨_,⟨[],[],⟨_,_,rfl,fun e he=>⟨rfl,rfl,rfl⟩⟩,rfl⟩,((HT.aT _).aT _).sum⟩
 ·rw [if_neg hn]
  refine GO fun w HT=>?_
  have k12:=HT.c 0 0 12;simp only [Xm,az] at k12;have lt:=HT.l 0 0;simp only [] at lt;go_enter func293,ntmps293
  go_wp2_with fail
  refine Qa.run (ni _ _ _) ((HT.a _ _).alloc (k:=w.heap.size+1) (by simp) _ _) [] ?_
  rintro e w1 gs ⟨rfl,rfl⟩ HT;simp only [PU] at HT;clear k12 lt;obtain ⟨r0,r1⟩:=HT.c2 2 0 0 1;obtain ⟨cr,df⟩:=HT.f2 2 0 0 1;simp only [aN] at r0 r1;go_wp2
  exact U7 (v:=.agg #[_,_]) (by simp [results,results293,go_sem,r0,r1]) rfl ⟨_,⟨[],[cl w.heap.size 88 #[Qb kb]],⟨_,_,rfl,fun e he=>⟨rfl,rfl,w.heap.size,rfl,he _ (by simp)⟩⟩,rfl⟩,(((HT.set 2 0 rfl 0 _).set 2 0 rfl 1 _).p [1,0]).sum⟩
def E4 (L:Lay) (kb:Nat) (pv sv:Value) (bd d:Nat) (s:ST) (k:Xi) (D R:List ak) (en:UO) (gs:GH):Prop :=
 ∃ (g' l:List ak) (m dd:Value),en=U8 (.agg #[m,dd])/\(∀ e1:ET,(∀ b∈l,b∈e1.1)->e1.2[d]?=some bd->(lZ L kb pv).SV e1 s m dd g')/\gs=[g',l,Qm kb L.fb pv sv k,D,R]
theorem NS (d bd i:Nat) (v:Value) (gr:List ak) (hr:Q3 40 5 v k.due.length (yV k.due) gr) (hi:i<=1000001):Qa prog 282 #[Qb kb,Qb bd,U2 U4 i] [Qm kb L.fb pv sv k,[cl bd 354 #[v]],gr]
 (E4 L kb pv sv bd d (Qo d i ⟨k,x,ws,p⟩).1 (Qo d i ⟨k,x,ws,p⟩).2.k [cl bd 354 #[v]] gr):=by
 unfold E4;obtain ⟨av,cap,rfl⟩:=Q3.val hr;have HR:=Vh hr
 have hcap:k.due.length<=maxLen:=by
  rcases Nat.eq_zero_or_pos k.due.length with h0 | h0
  ·rw [h0];unfold maxLen;omega
  ·obtain ⟨_,_,_,_,_,h1,h2,_⟩:=hr.open h0;exact Nat.le_trans h1 h2
 unfold maxLen at hcap;cases hdi:k.due[i]? with
 | none =>
   have hlt:¬ i<k.due.length:=by rw [List.getElem?_eq_none_iff] at hdi;omega
   have he:Qo d i ⟨k,x,ws,p⟩=(.nil,⟨k,x,ws,p⟩):=by unfold Qo;simp only [hdi]
   rw [he];dsimp only
   have hge:k.due.length<=i:=by omega
   clear he hdi hr;refine GO fun w HT=>?_
   go_enter func282,ntmps282
   go_wp2_with fail
   have HT:=Vh ((((HT.a 88 #[Qb kb]).alloc (k:=w.heap.size+1) (by simp) 358 #[Qb bd]).alloc (k:=w.heap.size+1+1) (by simp) 3 #[U2 U4 i]).alloc (k:=w.heap.size+1+1+1) (by simp) 153 #[U1,U1]);generalize UB (UB (UB (UB w _) _) _) _=w1 at HT |-;have b0:=HT.c 4 0 0;simp only [aN] at b0;have c0:=HT.c 5 0 0;simp only [aN] at c0;have wV:=HT.c 1 0 0;simp only [aN] at wV;go_region
   have HT:=Vh HT.out.drew;clear b0 c0 wV;generalize UL _=w2 at HT |-;obtain ⟨r0,r1⟩:=HT.c2 6 0 0 1;obtain ⟨cr,df⟩:=HT.f2 6 0 0 1;simp only [aN] at r0 r1;go_wp2
   exact U7 (v:=.agg #[U1,U1]) (by simp [results,results282,go_sem,r0,r1]) rfl ⟨_,⟨[],[],_,_,rfl,fun e he _=>⟨rfl,rfl,rfl⟩,rfl⟩,(((HT.set 6 0 rfl 0 _).set 6 0 rfl 1 _).p [0,1,2]).sum⟩
 | some t =>
   have hlt:i<k.due.length:=(UK.1 hdi).1;have he:Qo d i ⟨k,x,ws,p⟩=(.thn (.at none .looks) (.aF d i),⟨{ k with t:=t },x,ws,p⟩):=by unfold Qo;simp only [hdi]
   rw [he];dsimp only
   obtain ⟨rb,cap',cur,hv,rfl,_,_,_,dQ⟩:=hr.open (by omega);cases hv
   have CJ:=Ra hdi;have hc:∀ j,j<5->cur[i*5+j]?=t.cells[j]?:=fun j hj=>(dQ _ (by omega)).trans (CJ j hj)
   have hc0:=hc 0 (by decide);have hc1:=hc 1 (by decide);have hc2:=hc 2 (by decide);have hc3:=hc 3 (by decide);have hc4:=hc 4 (by decide);simp only [Qp.cells,az,Nat.add_zero] at hc0 hc1 hc2 hc3 hc4;have oQ:=Vh (UN hc0 (UN hc1 (UN hc2 (UN hc3 hc4))));clear he hdi hr CJ hc dQ hc0 hc1 hc2 hc3 hc4;refine GO fun w HT=>?_
   go_enter func282,ntmps282
   go_wp2_with fail
   obtain ⟨b1,hb1⟩:∃ b1,b1=w.heap.size:=⟨_,rfl⟩;obtain ⟨b2,hb2⟩:∃ b2,b2=w.heap.size+1:=⟨_,rfl⟩;obtain ⟨b3,hb3⟩:∃ b3,b3=w.heap.size+1+1:=⟨_,rfl⟩;obtain ⟨b4,hb4⟩:∃ b4,b4=w.heap.size+1+1+1:=⟨_,rfl⟩;have HT:=Vh ((((HT.alloc (k:=b1) hb1 88 #[Qb kb]).alloc (k:=b2) (by rw [hb2];simp) 358 #[Qb bd]).alloc (k:=b3) (by rw [hb3];simp) 3 #[U2 U4 i]).alloc (k:=b4) (by rw [hb4];simp) 153 #[U1,U1]);rw [<- hb4,<- hb3,<- hb2,<- hb1];clear hb1 hb2 hb3 hb4;generalize UB (UB (UB (UB w _) _) _) _=w1 at HT |-;have a0:=HT.c 3 0 0;simp only [aN] at a0;have b0:=HT.c 4 0 0;simp only [aN] at b0;have c0:=HT.c 5 0 0;simp only [aN] at c0;have wV:=HT.c 1 0 0;simp only [aN] at wV;go_region
   have HT:=Vh HT.out.drew;clear b0 c0 wV a0;generalize UL _=w2 at HT |-;have a0:=HT.c 3 0 0;simp only [aN] at a0;have b0:=HT.c 4 0 0;simp only [aN] at b0;have c0:=HT.c 5 0 0;simp only [aN] at c0;have wV:=HT.c 1 0 0;simp only [aN] at wV;have e0:=(HT.cell 2 0 rfl (i*5)).trans oQ.1;have e1:=(HT.cell 2 0 rfl (i*5+1)).trans oQ.2.1;have e2:=(HT.cell 2 0 rfl (i*5+2)).trans oQ.2.2.1;have e3:=(HT.cell 2 0 rfl (i*5+3)).trans oQ.2.2.2.1;have e4:=(HT.cell 2 0 rfl (i*5+4)).trans oQ.2.2.2.2;obtain ⟨k11,k12,k13,k14,k15⟩:=HT.c5 0 0 11 12 13 14 15;obtain ⟨lu,jS,nJ,nK,yf⟩:=HT.f5 0 0 11 12 13 14 15;simp only [Xm,az] at k11 k12 k13 k14 k15;go_wp2_with fail
   go_region
   have HT:=Vh (((((((HT.set 0 0 rfl 11 (U2 U6 t.id)).set 0 0 rfl 12 (U2 U4 t.slot)).set 0 0 rfl 13 (U2 U6 t.gen)).set 0 0 rfl 14 (U2 U6 t.dl)).set 0 0 rfl 15 (U2 U6 t.per)).drew).eq (H':=[Qm kb L.fb pv sv { k with t:=t },[cl bd 354 #[.slice (some ⟨rb,0,none⟩) k.due.length cap]],[cl rb 40 cur],[cl b1 88 #[Qb kb]],[cl b2 358 #[Qb bd]],[cl b3 3 #[U2 U4 i]],[cl b4 153 #[U1,U1]]]) rfl);clear a0 b0 c0 wV e0 e1 e2 e3 e4 k11 k12 k13 k14 k15 lu jS nJ nK yf;generalize UL _=w3 at HT |-;have a0:=HT.c 3 0 0;simp only [aN] at a0;go_wp2_with fail
   refine Qa.run (ni _ _ _) (HT) [] ?_
   rintro e w1 gs ⟨rfl,rfl⟩ HT;simp only [PU] at HT;clear a0;go_wp2_with fail
   refine Qa.run (aV.bR (c:=(lZ L kb pv).on ([cl b1 88 #[Qb kb],cl b2 358 #[Qb bd],cl b3 3 #[U2 U4 i]],List.replicate (d+1) bd)) (s:=.at none .looks) (f:=MT.aF d i) (v:=U3 (U5 299) #[] #[Qb b1,Qb b2,Qb b3]) (g:=[]) (gm:=[]) (Q9 L kb pv _) rfl ⟨rfl,rfl,rfl⟩ ⟨rfl,b1,b2,b3,bd,rfl,by simp [gG],by simp,by simp,by simp⟩) (HT.sum (H':=[Qm kb L.fb pv sv { k with t:=t },[cl bd 354 #[.slice (some ⟨rb,0,none⟩) k.due.length cap]],[cl rb 40 cur],[cl b1 88 #[Qb kb]],[cl b2 358 #[Qb bd]],[cl b3 3 #[U2 U4 i]],[cl b4 153 #[U1,U1]],[],[]])) [7,8] ?_
   rintro e w1 gs ⟨bs,br,rfl,rfl⟩ HT;simp only [PU] at HT;obtain ⟨r0,r1⟩:=HT.c2 6 0 0 1;obtain ⟨cr,df⟩:=HT.f2 6 0 0 1;simp only [aN] at r0 r1;go_wp2
   exact U7 (v:=.agg #[_,_]) (by simp [results,results282,go_sem,r0,r1]) rfl ⟨_,⟨_,[cl b1 88 #[Qb kb],cl b2 358 #[Qb bd],cl b3 3 #[U2 U4 i]],_,_,rfl,fun e1 he hd2=>⟨bs,br,_,_,[],[],rfl,rfl,⟨rfl,rfl,rfl⟩,⟨rfl,b1,b2,b3,bd,rfl,he _ (by simp),hd2,he _ (by simp),he _ (by simp)⟩,rfl⟩,rfl⟩,(((HT.set 6 0 rfl 0 _).set 6 0 rfl 1 _).p [7,3,4,5,0,1,2]).sum⟩
end
theorem KP {fn:UF} {first aK:Array Value} {gs:GH} {R:UO->GH->Prop} (eg:∀ args w,(callFunc fn args).run prog w=.ok (.enter fn args) w) (hd:Qa prog fn (first++aK) gs R)
 (hR:∀ en gs',R en gs'->∃ m d,en=U8 (.agg #[m,d])/\aV.eH m/\aV.eH d):Qa prog 196 #[.agg #[U1,U1],U3 (U5 fn) first aK] gs R:=by
 refine GO fun w HT=>?_
 have HD:=Vh hd;have HR:=Vh hR;have q1:=fun w=>Dr w
 clear hd hR;go_enter func196,ntmps196
 go_wp2_with fail
 have T1:=(((HT.a 153 #[U1,U1]).alloc (k:=w.heap.size+1) (by simp) 151 #[U3 (U5 fn) first aK]).alloc (k:=w.heap.size+1+1) (by simp) 153 #[U1,U1]).eq (H':=gs++([[cl w.heap.size 153 #[U1,U1]],[cl (w.heap.size+1) 151 #[U3 (U5 fn) first aK]]]++[[cl (w.heap.size+1+1) 153 #[U1,U1]]])) (by simp);refine (HD _ T1.has.left).mono ?_
 rintro en w1 ⟨gs',hr,T2⟩;have T3:=(T1.trans (T2.frame T1.has)).eq (H':=(gs'++[[cl w.heap.size 153 #[U1,U1]],[cl (w.heap.size+1) 151 #[U3 (U5 fn) first aK]]])++[[cl (w.heap.size+1+1) 153 #[U1,U1]]]) (by simp);obtain ⟨m',d',rfl,v1,v2⟩:=HR.out _ _ hr;have c0:=T3.iW 0;have c1:=T3.iW 1;have f0:=T3.iY 0;have f1:=T3.iY 1;simp only [az] at c0 c1;have HT:=Vh T3;have HRR:=Vh hr;clear T1 T2 T3 hr HR;rcases v1 with rfl | ⟨p9,eu,fU,rfl⟩ <;> rcases v2 with rfl | ⟨Ci,lq,oq,rfl⟩
 all_goals
  go_wp2
  exact U7 (v:=.agg #[_,_]) (by simp [results,results196,go_sem,c0,c1]) rfl ⟨gs',HRR,(((((HT.setLast 0 _).setLast 1 _).dropLast).eq (H':=(gs'++[[cl w.heap.size 153 #[U1,U1]]])++[[cl (w.heap.size+1) 151 #[U3 (U5 fn) first aK]]]) (by simp)).dropLast.dropLast)⟩
theorem dI.fv {L:Lay} {kb:Nat} {pv:Value} {e:ET} {s:ST} {z:ZT} {en:UO} {gs:GH} (h:dI L kb pv e s z en gs):∃ m d,en=U8 (.agg #[m,d])/\aV.eH m/\aV.eH d:=by
 obtain ⟨e',_,m,d,g',gK,gF,he,hs,_⟩:=h;obtain ⟨h1,h2⟩:=(Q9 L kb pv e').vals hs;exact ⟨m,d,he,h1,h2⟩
theorem wm {L:Lay} {x:Qi} {ws:List Qg} {p:Q2} {k:Xi} {gC gW:List ak} (hx:Qf L x gC) (hw:Jr L ws gW) (ho:wu ⟨k,x,ws,p⟩) (h:lD ⟨k,x,ws,p⟩) :
 ∃ i q s S,k.s=some i/\L.qs[i]?=some q/\x.au[i]?=some s/\ws[i]?=some S/\Q7 L k=Qb q.b/\ZT.sh ⟨k,x,ws,p⟩=i/\ZT.aW ⟨k,x,ws,p⟩=s/\ZT.wh ⟨k,x,ws,p⟩=S/\x8 S/\zu s.ring/\0<=s.turns/\s.turns<=1000000:=by
 obtain ⟨i,hi⟩:=h;simp only at hi;have hlt:=ho.sh i hi;simp only at hlt
 have hq:∃ q,L.qs[i]?=some q:=by
  obtain ⟨q,hq,_⟩:=NI hx hlt;exact ⟨q,hq⟩
 obtain ⟨q,hq⟩:=hq;obtain ⟨s,hs⟩:∃ s,x.au[i]?=some s:=⟨_,UM hlt⟩;have hwl:i<ws.length:=by have:=ho.ws;simp only at this;omega
 obtain ⟨S,hS⟩:∃ S,ws[i]?=some S:=⟨_,UM hwl⟩;have e1:ZT.sh ⟨k,x,ws,p⟩=i:=by simp [ZT.sh,hi]
 refine ⟨i,q,s,S,hi,hq,hs,hS,by simp [Q7,hi,hq],e1,?_,?_,ho.kK S (UE hS),ho.core.ring s (UE hs),(ho.turns s (UE hs)).1,(ho.turns s (UE hs)).2⟩
 ·unfold ZT.aW;rw [e1];simp [UH,hs]
 ·unfold ZT.wh;rw [e1];simp [UH,hS]
section
variable {L:Lay} {x:Qi} {ws:List Qg} {p:Q2} {e:ET} {g gC gK gF:List ak} {kb:Nat} {pv sv:Value} {k:Xi}
theorem SK (d:Nat) (hz:ze L kb pv e ⟨k,x,ws,p⟩ gK gF) (bk bd:Nat) (hb:gG kb bk e) (hbd:e.2[d]?=some bd) :
 Qa prog 278 #[Qb bk,Qb bd] [gK,gF] (dI L kb pv e (J0 d ⟨k,x,ws,p⟩).1 (J0 d ⟨k,x,ws,p⟩).2):=by
 unfold dI J0;dsimp only
 have HB:=Vh hb;have mV:=Vh hbd;obtain ⟨gd,gC,gW,gP,hd,hx,hw,aU,rfl,rfl⟩:=hz;refine GO fun w HT=>?_
 have HT:=Vh (HT.out.m [Qm kb L.fb pv (Q7 L k) k,gd,e.1,gC,gW,gP]);have HX:=Vh hx;have HD:=Vh hd;have HW:=Vh hw;have bF:=Vh aU;clear hx hd hw aU;clear hb hbd;go_enter func278,ntmps278
 go_wp2_with fail
 refine Qa.run (aV.dY (b:=w.heap.size+1) (o:=0) (D:=#[U3 (U5 279) #[] #[Qb bk,Qb bd]]) rfl 1 (.inl rfl)) ((HT.a 153 #[U1,U1]).alloc (k:=w.heap.size+1) (by simp) _ _) [7] ?_
 rintro e w1 gs ⟨bf,bl,bi,rfl,rfl⟩ HT;simp only [PU] at HT
 have hsv:(lZ L kb pv).SV e (.aj (.bG d)) U1 (U3 (U5 209) #[] #[Qb bf,Qb bl,Qb bi]) ([cl bf 1 #[U3 (U5 279) #[] #[Qb bk,Qb bd]],cl bl 322 #[.slice (some ⟨w.heap.size+1,0,none⟩) 1 1],cl bi 3 #[U2 U4 0],cl (w.heap.size+1) 1 #[U3 (U5 279) #[] #[Qb bk,Qb bd]]]++[]) :=
  ⟨rfl,bf,bl,bi,w.heap.size+1,0,_,_,_,rfl,⟨rfl,bk,bd,rfl,HB,mV⟩,rfl,rfl⟩
 have gI:=Vh hsv;clear hsv;go_wp2_with fail
 refine Qa.run (aV.bR (c:=(lZ L kb pv).on e) (f:=MT.aL d) (v:=U3 (U5 281) #[] #[Qb bk,Qb bd]) (gm:=[]) (Q9 L kb pv _) rfl gI ⟨rfl,bk,bd,rfl,HB,mV⟩) (HT.sum (H':=[Qm kb L.fb pv (Q7 L k) k,gd,e.1,gC,gW,gP,[cl w.heap.size 153 #[U1,U1]],[cl bf 1 #[U3 (U5 279) #[] #[Qb bk,Qb bd]],cl bl 322 #[.slice (some ⟨w.heap.size+1,0,none⟩) 1 1],cl bi 3 #[U2 U4 0],cl (w.heap.size+1) 1 #[U3 (U5 279) #[] #[Qb bk,Qb bd]]]++[],[]])) [7,8] ?_
 rintro e w1 gs ⟨bs,br,rfl,rfl⟩ HT;simp only [PU] at HT;obtain ⟨r0,r1⟩:=HT.c2 6 0 0 1;obtain ⟨cr,df⟩:=HT.f2 6 0 0 1;simp only [aN] at r0 r1;go_wp2
 exact U7 (v:=.agg #[_,_]) (by simp [results,results278,go_sem,r0,r1]) rfl ⟨_,⟨e,dF.refl e,_,_,_,_,_,rfl,⟨bs,br,_,_,_,[],rfl,rfl,gI,⟨rfl,bk,bd,rfl,HB,mV⟩,rfl⟩,⟨gd,gC,gW,gP,HD,HX,HW,bF,rfl,rfl⟩,rfl⟩,(((HT.set 6 0 rfl 0 _).set 6 0 rfl 1 _).p [7,0,1,2,3,4,5]).sum⟩
theorem QI (hz:ze L kb pv e ⟨k,x,ws,p⟩ gK gF) (bk:Nat) (hb:gG kb bk e) :
 Qa prog 283 #[Qb bk] [gK,gF] (dI L kb pv e (.aj .unlock) ⟨k,x,ws,p⟩):=by
 unfold dI;have HB:=Vh hb;obtain ⟨gd,gC,gW,gP,hd,hx,hw,aU,rfl,rfl⟩:=hz;refine GO fun w HT=>?_
 have HT:=Vh (HT.out.m [Qm kb L.fb pv (Q7 L k) k,gd,e.1,gC,gW,gP]);have HX:=Vh hx;have HD:=Vh hd;have HW:=Vh hw;have bF:=Vh aU;clear hx hd hw aU;clear hb;go_enter func283,ntmps283
 go_wp2_with fail
 refine Qa.run (aV.dY (b:=w.heap.size+1) (o:=0) (D:=#[U3 (U5 284) #[] #[Qb bk]]) rfl 1 (.inl rfl)) ((HT.a 153 #[U1,U1]).alloc (k:=w.heap.size+1) (by simp) _ _) [7] ?_
 rintro e w1 gs ⟨bf,bl,bi,rfl,rfl⟩ HT;simp only [PU] at HT;obtain ⟨r0,r1⟩:=HT.c2 6 0 0 1;obtain ⟨cr,df⟩:=HT.f2 6 0 0 1;simp only [aN] at r0 r1;go_wp2
 exact U7 (v:=.agg #[_,_]) (by simp [results,results283,go_sem,r0,r1]) rfl ⟨_,⟨e,dF.refl e,_,_,_,_,_,rfl,⟨rfl,bf,bl,bi,w.heap.size+1,0,#[U3 (U5 284) #[] #[Qb bk]],_,[],rfl,⟨rfl,bk,rfl,HB⟩,rfl,rfl⟩,⟨gd,gC,gW,gP,HD,HX,HW,bF,rfl,rfl⟩,rfl⟩,(((HT.set 6 0 rfl 0 _).set 6 0 rfl 1 _).p [8,9,10,7,0,1,2,3,4,5]).sum⟩
end
theorem Sg {G:Prop} {α:Type} {P A:α->World->Prop} (main:(∀ a w2,A a w2->P a w2)->G) (key:∀ a w2,A a w2->P a w2):G:=main key
section
variable {L:Lay} {x:Qi} {ws:List Qg} {p:Q2} {e:ET} {g gC gK gF:List ak} {kb:Nat} {pv sv:Value} {k:Xi}
theorem SL (n:Int) (hz:ze L kb pv e ⟨k,x,ws,p⟩ gK gF) (ho:wu ⟨k,x,ws,p⟩) (hh:lD ⟨k,x,ws,p⟩) (hn:0<=n/\n<=1000000) (bk bi:Nat) (hb:gG kb bk e) (hbi:cl bi 3 #[U2 U4 n]∈e.1) :
 Qa prog 294 #[Qb bk,Qb bi] [gK,gF] (dI L kb pv e (Q5 (n - 1) ⟨k,x,ws,p⟩) ⟨k,x,ws,p⟩):=by
 unfold dI;obtain ⟨gd,gC,gW,gP,hd,hx,hw,aU,rfl,rfl⟩:=hz;obtain ⟨i,q,s,S,hki,hq,hs,hS,hsv,hsh,hss,jC,hwo,hrb,ht0,ht1⟩:=wm hx hw ho hh;have hpo:=Oj (kb:=kb) (pv:=pv) (k:=k) hq (n - 1);rw [<- hsv,<- hsh] at hpo;have hpo:Qa prog 277 #[Qb kb,U2 U4 (n - 1)] [Qm kb L.fb pv (Q7 L k) k] fun en gs=>∃ g' l,BL L kb pv (Q5 (n - 1) ⟨k,x,ws,p⟩) en g' l/\gs=[g',l,Qm kb L.fb pv (Q7 L k) k]:=hpo
 generalize Q5 (n - 1) ⟨k,x,ws,p⟩=st at *;refine GO fun w HT=>?_
 have BD:=Vh hpo;have HT:=Vh (HT.out.m [Qm kb L.fb pv (Q7 L k) k,gd,e.1,gC,gW,gP]);have HX:=Vh hx;have HD:=Vh hd;have HW:=Vh hw;have bF:=Vh aU;obtain ⟨hn0,hn1⟩:=hn;clear hx hd hw aU hpo hq hs hS hki hsv hsh hss jC hwo hrb ht0 ht1 ho hh;have HB:=Vh (show cl bk 88 #[Qb kb]∈e.1 from hb);clear hb;have b0:=HT.ah 2 HB 0;have bM:=HT.bu 2 HB;simp only [bP] at b0 bM;have iU:=Vh (show cl bi 3 #[U2 U4 n]∈e.1 from hbi);clear hbi;have i0:=HT.ah 2 iU 0;have nT:=HT.bu 2 iU;simp only [bP] at i0 nT;go_enter func294,ntmps294
 go_wp2_with fail
 refine Qa.run BD (HT.a _ _) [0] ?_
 rintro e w1 gs ⟨g2,l2,⟨m2,d2,rfl,hs2⟩,rfl⟩ HT;simp only [PU] at HT;clear b0 i0 bM nT;obtain ⟨r0,r1⟩:=HT.c2 6 0 0 1;obtain ⟨cr,df⟩:=HT.f2 6 0 0 1;simp only [aN] at r0 r1;have hv2:=(Q9 L kb pv (l2,[])).vals (hs2 (l2,[]) (fun _ h=>h));obtain ⟨st1,st2⟩:=aV.aD (P:=prog) hv2.1 hv2.2 r0 cr r1 df;have HS:=Vh hs2;clear hv2 hs2;go_wp2
 exact U7 (v:=.agg #[_,_]) (by simp [results,results294,go_sem,r0,r1]) rfl ⟨_,⟨(e.1++l2,e.2),dF.app e l2,m2,d2,g2,_,_,rfl,HS _ (fun b hb=>UA _ hb),⟨gd,gC,gW,gP,HD,HX,HW,bF,rfl,rfl⟩,rfl⟩,(((HT.set 6 0 rfl 0 _).set 6 0 rfl 1 _).p [0,8,1,2,7,3,4,5]).sum⟩
theorem q8l (n:Int) (hz:ze L kb pv e ⟨k,x,ws,p⟩ gK gF) (hp:jZ (.bI n) ⟨k,x,ws,p⟩) (bk bi:Nat) (hb:gG kb bk e) (hbi:cl bi 3 #[U2 U4 n]∈e.1) :
 Qa prog 292 #[Qb bk,Qb bi] [gK,gF] (dI L kb pv e (runT (.bI n) ⟨k,x,ws,p⟩).1 (runT (.bI n) ⟨k,x,ws,p⟩).2):=by
 obtain ⟨ho,hh,hn0,hn1,hok2⟩:=hp;have hn:=UN hn0 hn1;clear hn0 hn1;obtain ⟨gd,gC,gW,gP,hd,hx,hw,aU,rfl,rfl⟩:=hz;obtain ⟨i,q,s,S,hki,hq,hs,hS,hsv,hsh,hss,jC,hwo,hrb,ht0,ht1⟩:=wm hx hw ho hh;have yB:=q34 hx hq hs hrb
 have hz2:runT (.bI n) ⟨k,x,ws,p⟩=(if (J3 s.ring).2.1.slot<0 then Q5 (n - 1) ⟨{ k with t:=(J3 s.ring).2.1 },{ x with au:=x.au.set i { s with ring:=(J3 s.ring).1 } },ws,p⟩ else .thn (.at none .bA) (.ax n),⟨{ k with t:=(J3 s.ring).2.1 },{ x with au:=x.au.set i { s with ring:=(J3 s.ring).1 } },ws,p⟩):=by
  simp only [runT,ZT.dh,hss,hsh];split <;> rfl
 rw [hz2] at hok2 |-;dsimp only at hok2 |-
 generalize J3 s.ring=pr at *;obtain ⟨r1,t1,pe⟩:=pr;simp only at yB hok2 |-;have hrc:=QX (L:=L) (kb:=kb) (pv:=pv) (sv:=Q7 L k) (k:={ k with t:=t1 });have Np:lD ⟨{ k with t:=t1 },{ x with au:=x.au.set i { s with ring:=r1 } },ws,p⟩:=⟨i,hki⟩;obtain ⟨st,hst⟩:∃ st:ST,st=((if t1.slot<0 then Q5 (n - 1) ⟨{ k with t:=t1 },{ x with au:=x.au.set i { s with ring:=r1 } },ws,p⟩ else .thn (.at none .bA) (.ax n)):ST):=⟨_,rfl⟩;rw [<- hst];have HST:=Vh hst;clear hst;have CB:∀ (e':ET) gK gF,ze L kb pv e' ⟨{ k with t:=t1 },{ x with au:=x.au.set i { s with ring:=r1 } },ws,p⟩ gK gF->gG kb bk e'->cl bi 3 #[U2 U4 n]∈e'.1->_:=fun e' gK gF hz h1 h2=>SL n hz hok2 Np hn bk bi h1 h2
 refine GO fun w HT=>?_
 have G9:=Vh yB;have uZ:=Vh hrc;have BC:=Vh CB;have gI:=Vh hsv;have HT:=Vh (HT.out.m [Qm kb L.fb pv (Q7 L k) k,gd,e.1,gC,gW,gP]);have HX:=Vh hx;have HD:=Vh hd;have HW:=Vh hw;have bF:=Vh aU;have k10:=HT.c 0 0 10;simp only [Xm,az,hsv] at k10;clear hx hd hw aU yB hrc CB hq hs hS hki hsv hsh hss jC hwo hrb ht0 ht1 ho hh hok2 Np hz2 hn;have HB:=Vh (show cl bk 88 #[Qb kb]∈e.1 from hb);clear hb;have b0:=HT.ah 2 HB 0;have bM:=HT.bu 2 HB;simp only [bP] at b0 bM;have iU:=Vh (show cl bi 3 #[U2 U4 n]∈e.1 from hbi);clear hbi;have i0:=HT.ah 2 iU 0;have nT:=HT.bu 2 iU;simp only [bP] at i0 nT;go_enter func292,ntmps292
 go_wp2_with fail
 have HT:=Vh (HT.out.a 153 #[U1,U1]);clear b0 i0 bM nT k10;generalize UB w _=w1 at HT |-;have b0:=HT.ah 2 HB 0;have k10:=HT.c 0 0 10;simp only [Xm,az,gI.out] at b0 k10;apply Sg (A:=fun (g1:List ak) w5=>Qf L { x with au:=x.au.set i { s with ring:=r1 } } g1/\TG [Qm kb L.fb pv (Q7 L k) k++(gd++e.1),gC++(gW++gP)] w [Qm kb L.fb pv (Q7 L k) { k with t:=t1 },gd,e.1,g1,gW,gP,[cl w.heap.size 153 #[U1,U1]]] w5)
 case main =>
  intro key
  go_region_with (
   go_at_call 18
   refine (Qa.use G9 HT.drew [3] rfl rfl).mono ?_
   rintro en w2 ⟨gs,⟨rfl,g1,hx1,rfl⟩,Ta⟩;simp only [PU] at Ta;have b1:=Ta.ah 2 HB 0;simp only [bP] at b1;obtain ⟨c11,c12,c13,c14,c15⟩:=Ta.c5 0 0 11 12 13 14 15;simp only [Xm,az] at c11 c12 c13 c14 c15;obtain ⟨f11,f12,f13,f14,f15⟩:=Ta.f5 0 0 11 12 13 14 15;simp only [Qp.cells];have jI:=Vh hx1;have HT1:=Vh Ta
   clear Ta hx1)
  all_goals
   have T5:=(((((HT1.set 0 0 rfl 11 (U2 U6 t1.id)).set 0 0 rfl 12 (U2 U4 t1.slot)).set 0 0 rfl 13 (U2 U6 t1.gen)).set 0 0 rfl 14 (U2 U6 t1.dl)).set 0 0 rfl 15 (U2 U6 t1.per)).eq (H':=[Qm kb L.fb pv (Q7 L k) { k with t:=t1 },gd,e.1,g1,gW,gP,[cl w.heap.size 153 #[U1,U1]]]) rfl;generalize UR _ _ _=w5 at T5 |-;exact key g1 w5 ⟨jI,T5⟩
 case key =>
  rintro g1 w5 ⟨hx5,T5⟩;have MI:=Vh hx5;have HT:=Vh T5;clear hx5 T5 b0 k10 HX;have b0:=HT.ah 2 HB 0;have i0:=HT.ah 2 iU 0;simp only [bP] at b0 i0;have hrc:=uZ.out;by_cases hsl:t1.slot<0
  ·rw [if_pos hsl] at hrc
   have hst:=HST.out;clear HST;rw [if_pos hsl] at hst;subst hst;have uZ:=Vh hrc;clear hrc hsl;go_wp2_with fail
   refine Qa.run uZ HT [0] ?_
   rintro e w1 gs ⟨g2,l2,⟨m2,d2,rfl,hs2⟩,rfl⟩ HT;simp only [PU] at HT;clear b0;obtain ⟨rfl,rfl,rfl⟩:=hs2 (l2,[]) (fun _ h=>h);clear hs2;have hth:=KP (first:=#[]) (aK:=#[Qb bk,Qb bi]) (enters_of func294 (by kernel_rfl) rfl) (BC (e.1++l2,e.2) (Qm kb L.fb pv (Q7 L k) { k with t:=t1 }++(gd++(e.1++l2))) (g1++(gW++gP)) ⟨gd,g1,gW,gP,HD,MI,HW,bF,rfl,rfl⟩ (U9 _ HB) (U9 _ iU)) (fun _ _ h=>dI.fv h);obtain ⟨gT,pG⟩:∃ gT,gT=Qm kb L.fb pv (Q7 L k) { k with t:=t1 }:=⟨_,rfl⟩;have iV:=HT.out;rw [<- pG] at hth iV;have nD:=Vh hth;have HT:=Vh iV;clear hth iV pG;go_wp2_with fail
   refine Qa.run nD (HT.sum (H':=[gT++(gd++(e.1++l2)),g1++(gW++gP),[cl w.heap.size 153 #[U1,U1]]])) [0,1] ?_
   rintro e w1 gs ⟨e2,hl2,m3,d3,g3,zY,zX,rfl,hs3,hz3,rfl⟩ HT;simp only [PU] at HT;have HL2:=Vh hl2;have HZ3:=Vh hz3;clear hl2 hz3 i0;obtain ⟨r0,r1⟩:=HT.c2 2 0 0 1;obtain ⟨cr,df⟩:=HT.f2 2 0 0 1;simp only [aN] at r0 r1;have hv2:=(Q9 L kb pv e2).vals hs3;obtain ⟨st1,st2⟩:=aV.aD (P:=prog) hv2.1 hv2.2 r0 cr r1 df;have HS:=Vh hs3;clear hv2 hs3;go_wp2
   exact U7 (v:=.agg #[_,_]) (by simp [results,results292,go_sem,r0,r1]) rfl ⟨_,⟨e2,(dF.app e l2).trans HL2,m3,d3,g3,zY,zX,rfl,HS,HZ3,rfl⟩,((HT.set 2 0 rfl 0 _).set 2 0 rfl 1 _).p [0,1,3]⟩
  ·rw [if_neg hsl] at hrc
   have hst:=HST.out;clear HST;rw [if_neg hsl] at hst;subst hst;have uZ:=Vh hrc;clear hrc hsl BC;obtain ⟨gT,pG⟩:∃ gT,gT=Qm kb L.fb pv (Q7 L k) { k with t:=t1 }:=⟨_,rfl⟩;go_wp2_with fail
   refine Qa.run uZ HT [0] ?_
   rintro e w1 gs ⟨g2,l2,⟨m2,d2,rfl,hs2⟩,rfl⟩ HT;simp only [PU] at HT;clear b0;have iV:=HT.out;rw [<- pG] at iV;have HT:=Vh iV;have G4:=Vh pG;have HS:=Vh hs2;clear iV pG hs2;go_wp2_with fail
   refine Qa.run (aV.bR (c:=(lZ L kb pv).on (e.1++l2,e.2)) (s:=.at none .bA) (f:=MT.ax n) (v:=U3 (U5 294) #[] #[Qb bk,Qb bi]) (gm:=[]) (Q9 L kb pv _) rfl (HS (e.1++l2,e.2) (fun b hb=>UA _ hb)) ⟨rfl,bk,bi,rfl,U9 _ HB,U9 _ iU⟩) (HT.sum (H':=[gT,gd,e.1,g1,gW,gP,[cl w.heap.size 153 #[U1,U1]],l2,g2,[]])) [8,9] ?_
   rintro e w1 gs ⟨bs,br,rfl,rfl⟩ HT;simp only [PU] at HT;clear i0;obtain ⟨r0,r1⟩:=HT.c2 6 0 0 1;obtain ⟨cr,df⟩:=HT.f2 6 0 0 1;simp only [aN] at r0 r1;have hv2:=(Q9 L kb pv _).vals (HS (e.1++l2,e.2) (fun b hb=>UA _ hb));obtain ⟨st1,st2⟩:=aV.aD (P:=prog) (v':=U3 (U5 237) #[] #[Qb bs,Qb br]) hv2.1 (Or.inr ⟨_,_,_,rfl⟩) r0 cr r1 df;clear hv2;go_wp2
   have HF:=(((HT.set 6 0 rfl 0 m2).set 6 0 rfl 1 (U3 (U5 237) #[] #[Qb bs,Qb br])).p [8,0,1,2,7,3,4,5]).sum (H':=[[cl bs 153 #[m2,d2],cl br 151 #[U3 (U5 294) #[] #[Qb bk,Qb bi]]]++g2++[],gT++(gd++(e.1++l2)),g1++(gW++gP)]);rw [G4.out] at HF;exact U7 (v:=.agg #[_,_]) (by simp [results,results292,go_sem,r0,r1]) rfl ⟨_,⟨(e.1++l2,e.2),dF.app e l2,_,_,_,_,_,rfl,⟨bs,br,_,_,g2,[],rfl,rfl,HS (e.1++l2,e.2) (fun b hb=>UA _ hb),⟨rfl,bk,bi,rfl,U9 _ HB,U9 _ iU⟩,rfl⟩,⟨gd,g1,gW,gP,HD,MI,HW,bF,rfl,rfl⟩,rfl⟩,HF⟩
end
def Iy (n:List ak->Nat) (a:ak):Nat:=n [a]
theorem TG.bW {h H H':GH} {w w':World} (T:TG h w H w')
 (hs:∀ n:List ak->Nat,(∀ x y,n (x++y)=n x+n y)->n []=0->(∀ a l,n (a::l)=Iy n a+n l)->n []=0->n H.flatten=n H'.flatten:=by intro n ha h0 h1 h2;simp only [SU,ha,h0,h1,h2] <;> omega):TG h w H' w' :=
 T.sum fun n ha h0 _ _=>hs n ha h0 (fun a l=>by show n ([a]++l)=_;rw [ha];rfl) h0
theorem Lv {ds:List Nat} {k:Xi} {gd:List ak} {d bd:Nat} (h:wH ds k gd) (hc:k.nd=d+1) (hb:ds[d]?=some bd) :
 ∃ v gr,Q3 40 5 v k.due.length (yV k.due) gr/\gd=[cl bd 354 #[v]]++gr:=by
 obtain ⟨h0,⟨h1,_⟩ | ⟨m,bd',v,gr,h1,h2,h3,h4⟩⟩:=h
 ·omega
 ·have:m=d:=by omega
  subst this;rw [hb] at h2;cases h2
  exact ⟨v,gr,h3,h4⟩
section
variable {L:Lay} {x:Qi} {ws:List Qg} {p:Q2} {e:ET} {g gC gK gF:List ak} {kb:Nat} {pv sv:Value} {k:Xi}
theorem q1p (d:Nat) (hz:ze L kb pv e ⟨k,x,ws,p⟩ gK gF) (hp:jZ (.aL d) ⟨k,x,ws,p⟩) (bk bd:Nat) (hb:gG kb bk e) (hbd:e.2[d]?=some bd) :
 Qa prog 281 #[Qb bk,Qb bd] [gK,gF] (dI L kb pv e (runT (.aL d) ⟨k,x,ws,p⟩).1 (runT (.aL d) ⟨k,x,ws,p⟩).2):=by
 have hc:k.nd=d+1:=hp.2.2;clear hp;obtain ⟨gd,gC,gW,gP,hd,hx,hw,aU,rfl,rfl⟩:=hz;obtain ⟨v,gr,hr,rfl⟩:=Lv hd hc hbd;have hfi:=NS (L:=L) (x:=x) (ws:=ws) (p:=p) (kb:=kb) (pv:=pv) (sv:=Q7 L k) (k:=k) d bd 0 v gr hr (by decide);unfold E4 at hfi;cases hq:k.due[0]? with
 | none =>
   rw [show runT (.aL d) ⟨k,x,ws,p⟩=(.aj .unlock,⟨k,x,ws,p⟩) by simp only [runT,hq]];rw [show Qo d 0 ⟨k,x,ws,p⟩=(.nil,⟨k,x,ws,p⟩) by simp only [Qo,hq]] at hfi;dsimp only at hfi |-
   have hcl:∀ (e':ET) gK gF,ze L kb pv e' ⟨k,x,ws,p⟩ gK gF->gG kb bk e'->_:=fun e' gK gF hz h1=>QI hz bk h1
   unfold dI at *;refine GO fun w HT=>?_
   have rD:=Vh hfi;have iB:=Vh hcl;have HT:=Vh (HT.out.bW (H':=[Qm kb L.fb pv (Q7 L k) k,[cl bd 354 #[v]],gr,e.1,gC,gW,gP]));have HX:=Vh hx;have HD:=Vh hd;have HW:=Vh hw;have bF:=Vh aU;have mV:=Vh hbd;clear hx hd hw aU hfi hcl hq hbd hr hc;have HB:=Vh (show cl bk 88 #[Qb kb]∈e.1 from hb);clear hb;have b0:=HT.ah 3 HB 0;have bM:=HT.bu 3 HB;simp only [bP] at b0 bM;go_enter func281,ntmps281
   go_wp2_with fail
   refine Qa.run rD (HT.a _ _) [0,1,2] ?_
   rintro e w1 gs ⟨g2,l2,m2,d2,rfl,hs2,rfl⟩ HT;simp only [PU] at HT;clear b0 bM;obtain ⟨rfl,rfl,rfl⟩:=hs2 (l2,e.2) (fun _ h=>h) mV;clear hs2;have hth:=KP (first:=#[]) (aK:=#[Qb bk]) (enters_of func283 (by kernel_rfl) rfl) (iB (e.1++l2,e.2) (Qm kb L.fb pv (Q7 L k) k++(([cl bd 354 #[v]]++gr)++(e.1++l2))) (gC++(gW++gP)) ⟨[cl bd 354 #[v]]++gr,gC,gW,gP,HD,HX,HW,bF,rfl,rfl⟩ (U9 _ HB)) (fun _ _ h=>dI.fv h);obtain ⟨gT,pG⟩:∃ gT,gT=Qm kb L.fb pv (Q7 L k) k:=⟨_,rfl⟩;obtain ⟨gD,Ab⟩:∃ gD,gD=[cl bd 354 #[v]]++gr:=⟨_,rfl⟩;have iV:=HT.out;rw [<- pG] at hth iV;have iV:=iV.bW (H':=[gT,[cl bd 354 #[v]]++gr,e.1,gC,gW,gP,[cl w.heap.size 153 #[U1,U1]],l2]);rw [<- Ab] at hth iV;have nD:=Vh hth;have HT:=Vh iV;clear hth iV pG Ab;go_wp2_with fail
   refine Qa.run nD (HT.bW (H':=[gT++(gD++(e.1++l2)),gC++(gW++gP),[cl w.heap.size 153 #[U1,U1]]])) [0,1] ?_
   rintro e w1 gs ⟨e2,hl2,m3,d3,g3,zY,zX,rfl,hs3,hz3,rfl⟩ HT;simp only [PU] at HT;have HL2:=Vh hl2;have HZ3:=Vh hz3;clear hl2 hz3;obtain ⟨r0,r1⟩:=HT.c2 2 0 0 1;obtain ⟨cr,df⟩:=HT.f2 2 0 0 1;simp only [aN] at r0 r1;have hv2:=(Q9 L kb pv e2).vals hs3;obtain ⟨st1,st2⟩:=aV.aD (P:=prog) hv2.1 hv2.2 r0 cr r1 df;have HS:=Vh hs3;clear hv2 hs3;go_wp2
   exact U7 (v:=.agg #[_,_]) (by simp [results,results281,go_sem,r0,r1]) rfl ⟨_,⟨e2,(dF.app e l2).trans HL2,m3,d3,g3,zY,zX,rfl,HS,HZ3,rfl⟩,((HT.set 2 0 rfl 0 _).set 2 0 rfl 1 _).p [0,1,3]⟩
 | some t =>
   rw [show runT (.aL d) ⟨k,x,ws,p⟩=(.thn (Qo d 0 ⟨k,x,ws,p⟩).1 .ay,(Qo d 0 ⟨k,x,ws,p⟩).2) by simp only [runT,hq]];rw [show Qo d 0 ⟨k,x,ws,p⟩=(.thn (.at none .looks) (.aF d 0),⟨{ k with t:=t },x,ws,p⟩) by simp only [Qo,hq]] at hfi |-;dsimp only at hfi |-
   unfold dI;refine GO fun w HT=>?_
   have rD:=Vh hfi;have HT:=Vh (HT.out.bW (H':=[Qm kb L.fb pv (Q7 L k) k,[cl bd 354 #[v]],gr,e.1,gC,gW,gP]));have HX:=Vh hx;have HD:=Vh hd;have HW:=Vh hw;have bF:=Vh aU;have mV:=Vh hbd;clear hx hd hw aU hfi hq hbd hr hc;have HB:=Vh (show cl bk 88 #[Qb kb]∈e.1 from hb);clear hb;have b0:=HT.ah 3 HB 0;have bM:=HT.bu 3 HB;simp only [bP] at b0 bM;go_enter func281,ntmps281
   obtain ⟨gT,pG⟩:∃ gT,gT=Qm kb L.fb pv (Q7 L k) { k with t:=t }:=⟨_,rfl⟩;go_wp2_with fail
   refine Qa.run rD (HT.a _ _) [0,1,2] ?_
   rintro e w1 gs ⟨g2,l2,m2,d2,rfl,hs2,rfl⟩ HT;simp only [PU] at HT;clear b0 bM;have iV:=HT.out;rw [<- pG] at iV;obtain ⟨gD,Ab⟩:∃ gD,gD=[cl bd 354 #[v]]++gr:=⟨_,rfl⟩;have iV:=iV.bW (H':=[gT,[cl bd 354 #[v]]++gr,e.1,gC,gW,gP,[cl w.heap.size 153 #[U1,U1]],l2,g2,[]]);rw [<- Ab] at iV;have HT:=Vh iV;have G4:=Vh pG;have HGD:=Vh Ab;clear Ab;have HS:=Vh (hs2 (e.1++l2,e.2) (fun b hb=>UA _ hb) mV);clear iV pG hs2;go_wp2_with fail
   refine Qa.run (aV.bR (c:=(lZ L kb pv).on (e.1++l2,e.2)) (s:=.thn (.at none .looks) (.aF d 0)) (f:=MT.ay) (v:=U3 (U5 283) #[] #[Qb bk]) (gm:=[]) (Q9 L kb pv _) rfl HS ⟨rfl,bk,rfl,U9 _ HB⟩) (HT) [8,9] ?_
   rintro e w1 gs ⟨bs,br,rfl,rfl⟩ HT;simp only [PU] at HT;obtain ⟨r0,r1⟩:=HT.c2 6 0 0 1;obtain ⟨cr,df⟩:=HT.f2 6 0 0 1;simp only [aN] at r0 r1;have hv2:=(Q9 L kb pv _).vals HS;obtain ⟨st1,st2⟩:=aV.aD (P:=prog) (v':=U3 (U5 237) #[] #[Qb bs,Qb br]) hv2.1 (Or.inr ⟨_,_,_,rfl⟩) r0 cr r1 df;clear hv2;go_wp2
   have HF:=(((HT.set 6 0 rfl 0 m2).set 6 0 rfl 1 (U3 (U5 237) #[] #[Qb bs,Qb br])).p [8,0,1,2,7,3,4,5]).bW (H':=[[cl bs 153 #[m2,d2],cl br 151 #[U3 (U5 283) #[] #[Qb bk]]]++g2++[],gT++(gD++(e.1++l2)),gC++(gW++gP)]);rw [G4.out,HGD.out] at HF;exact U7 (v:=.agg #[_,_]) (by simp [results,results281,go_sem,r0,r1]) rfl ⟨_,⟨(e.1++l2,e.2),dF.app e l2,_,_,_,_,_,rfl,⟨bs,br,_,_,g2,[],rfl,rfl,HS,⟨rfl,bk,rfl,U9 _ HB⟩,rfl⟩,⟨_,gC,gW,gP,HD,HX,HW,bF,rfl,rfl⟩,rfl⟩,HF⟩
end
section
variable {L:Lay} {x:Qi} {ws:List Qg} {p:Q2} {e:ET} {g gC gK gF:List ak} {kb:Nat} {pv sv:Value} {k:Xi}
theorem q9w (hz:ze L kb pv e ⟨k,x,ws,p⟩ gK gF) (hp:jZ .bA ⟨k,x,ws,p⟩) (bk:Nat) (hb:gG kb bk e) :
 Qa prog 302 #[Qb bk] [gK,gF] (dI L kb pv e (runT .bA ⟨k,x,ws,p⟩).1 (runT .bA ⟨k,x,ws,p⟩).2):=by
 have HO:=Vh hp.1.core;have mr:=Vh hp.1.t;have HB:=Vh (show cl bk 88 #[Qb kb]∈e.1 from hb);clear hp hb;cases hc:(bB (x.aa.word k.t.slot) == 2 && Xv (x.aa.word k.t.slot) == k.t.gen && x.aa.mine k.t.id) with
 | false =>
   rw [show runT .bA ⟨k,x,ws,p⟩=(.nil,⟨{ k with aB:=x.aa.word k.t.slot },x,ws,p⟩) by simp [runT,Qs,hc]];unfold dI;obtain ⟨gd,gC,gW,gP,hd,hx,hw,aU,rfl,rfl⟩:=hz;refine GO fun w HT=>?_
   have HT:=Vh (HT.out.m [Qm kb L.fb pv (Q7 L k) k,gd,e.1,gC,gW,gP]);have HX:=Vh hx;have HD:=Vh hd;have HW:=Vh hw;have bF:=Vh aU;clear hx hd hw aU;have hlk:=FN (kb:=kb) (pv:=pv) (sv:=Q7 L k) HX HO mr 2;rw [hc] at hlk;have fT:=Vh hlk;clear hlk hc;have b0:=HT.ah 2 HB 0;have bM:=HT.bu 2 HB;simp only [bP] at b0 bM;go_enter func302,ntmps302
   go_wp2_with fail
   refine Qa.run fT (HT.a _ _) [0,3] ?_
   rintro e w1 gs ⟨rfl,g1,hx1,rfl⟩ HT;simp only [PU] at HT;have HX:=Vh hx1;clear hx1 b0 bM;obtain ⟨r0,r1⟩:=HT.c2 6 0 0 1;obtain ⟨cr,df⟩:=HT.f2 6 0 0 1;simp only [aN] at r0 r1;go_wp2
   exact U7 (v:=.agg #[_,_]) (by simp [results,results302,go_sem,r0,r1]) rfl ⟨_,⟨e,dF.refl e,_,_,[],_,_,rfl,⟨rfl,rfl,rfl⟩,⟨gd,_,_,gP,HD,HX,HW,bF,(rfl:Qm kb L.fb pv (Q7 L k) { k with aB:=x.aa.word k.t.slot }++(gd++e.1)=_),rfl⟩,rfl⟩,(((HT.set 6 0 rfl 0 _).set 6 0 rfl 1 _).p [0,1,2,3,4,5]).bW⟩
 | true =>
   rw [show runT .bA ⟨k,x,ws,p⟩=(.at none .aI,⟨{ k with aB:=x.aa.word k.t.slot },x,ws,p⟩) by simp [runT,Qs,hc]];unfold dI;obtain ⟨gd,gC,gW,gP,hd,hx,hw,aU,rfl,rfl⟩:=hz;refine GO fun w HT=>?_
   have HT:=Vh (HT.out.m [Qm kb L.fb pv (Q7 L k) k,gd,e.1,gC,gW,gP]);have HX:=Vh hx;have HD:=Vh hd;have HW:=Vh hw;have bF:=Vh aU;clear hx hd hw aU;have hlk:=FN (kb:=kb) (pv:=pv) (sv:=Q7 L k) HX HO mr 2;rw [hc] at hlk;have fT:=Vh hlk;clear hlk hc;have b0:=HT.ah 2 HB 0;have bM:=HT.bu 2 HB;simp only [bP] at b0 bM;go_enter func302,ntmps302
   go_wp2_with fail
   refine Qa.run fT (HT.a _ _) [0,3] ?_
   rintro e w1 gs ⟨rfl,g1,hx1,rfl⟩ HT;simp only [PU] at HT;have HX:=Vh hx1;clear hx1 b0 bM;go_wp2_with fail
   refine Qa.run (ni _ _ _) (HT) [] ?_
   rintro e w1 gs ⟨rfl,rfl⟩ HT;simp only [PU] at HT;obtain ⟨r0,r1⟩:=HT.c2 6 0 0 1;obtain ⟨cr,df⟩:=HT.f2 6 0 0 1;simp only [aN] at r0 r1;go_wp2
   exact U7 (v:=.agg #[_,_]) (by simp [results,results302,go_sem,r0,r1]) rfl ⟨_,⟨e,dF.refl e,_,_,[],_,_,rfl,⟨rfl,rfl,⟨bk,rfl,HB⟩⟩,⟨gd,_,_,gP,HD,HX,HW,bF,(rfl:Qm kb L.fb pv (Q7 L k) { k with aB:=x.aa.word k.t.slot }++(gd++e.1)=_),rfl⟩,rfl⟩,(((HT.set 6 0 rfl 0 _).set 6 0 rfl 1 _).p [0,1,2,3,4,5]).bW⟩
theorem q8j (hz:ze L kb pv e ⟨k,x,ws,p⟩ gK gF) (hp:jZ .looks ⟨k,x,ws,p⟩) :
 Qa prog 298 #[Qb kb] [gK,gF] (dI L kb pv e (runT .looks ⟨k,x,ws,p⟩).1 (runT .looks ⟨k,x,ws,p⟩).2):=by
 have HO:=Vh hp.1.core;have mr:=Vh hp.1.t;clear hp;cases hc:(bB (x.aa.word k.t.slot) == 3 && Xv (x.aa.word k.t.slot) == k.t.gen && x.aa.mine k.t.id) with
 | false =>
   rw [show runT .looks ⟨k,x,ws,p⟩=(.nil,⟨{ k with aB:=x.aa.word k.t.slot },x,ws,p⟩) by simp [runT,Qs,hc]];unfold dI;obtain ⟨gd,gC,gW,gP,hd,hx,hw,aU,rfl,rfl⟩:=hz;refine GO fun w HT=>?_
   have HT:=Vh (HT.out.m [Qm kb L.fb pv (Q7 L k) k,gd,e.1,gC,gW,gP]);have HX:=Vh hx;have HD:=Vh hd;have HW:=Vh hw;have bF:=Vh aU;clear hx hd hw aU;have hlk:=FN (kb:=kb) (pv:=pv) (sv:=Q7 L k) HX HO mr 3;rw [hc] at hlk;have fT:=Vh hlk;clear hlk hc;go_enter func298,ntmps298
   go_wp2_with fail
   refine Qa.run fT (HT.a _ _) [0,3] ?_
   rintro e w1 gs ⟨rfl,g1,hx1,rfl⟩ HT;simp only [PU] at HT;have HX:=Vh hx1;clear hx1;obtain ⟨r0,r1⟩:=HT.c2 6 0 0 1;obtain ⟨cr,df⟩:=HT.f2 6 0 0 1;simp only [aN] at r0 r1;go_wp2
   exact U7 (v:=.agg #[_,_]) (by simp [results,results298,go_sem,r0,r1]) rfl ⟨_,⟨e,dF.refl e,_,_,[],_,_,rfl,⟨rfl,rfl,rfl⟩,⟨gd,_,_,gP,HD,HX,HW,bF,(rfl:Qm kb L.fb pv (Q7 L k) { k with aB:=x.aa.word k.t.slot }++(gd++e.1)=_),rfl⟩,rfl⟩,(((HT.set 6 0 rfl 0 _).set 6 0 rfl 1 _).p [0,1,2,3,4,5]).bW⟩
 | true =>
   rw [show runT .looks ⟨k,x,ws,p⟩=(.at none .bE,⟨{ k with aB:=x.aa.word k.t.slot },x,ws,p⟩) by simp [runT,Qs,hc]];unfold dI;obtain ⟨gd,gC,gW,gP,hd,hx,hw,aU,rfl,rfl⟩:=hz;refine GO fun w HT=>?_
   have HT:=Vh (HT.out.m [Qm kb L.fb pv (Q7 L k) k,gd,e.1,gC,gW,gP]);have HX:=Vh hx;have HD:=Vh hd;have HW:=Vh hw;have bF:=Vh aU;clear hx hd hw aU;have hlk:=FN (kb:=kb) (pv:=pv) (sv:=Q7 L k) HX HO mr 3;rw [hc] at hlk;have fT:=Vh hlk;clear hlk hc;go_enter func298,ntmps298
   go_wp2_with fail
   refine Qa.run fT (HT.a _ _) [0,3] ?_
   rintro e w1 gs ⟨rfl,g1,hx1,rfl⟩ HT;simp only [PU] at HT;have HX:=Vh hx1;clear hx1;go_wp2_with fail
   refine Qa.run (ni _ _ _) (HT) [] ?_
   rintro e w1 gs ⟨rfl,rfl⟩ HT;simp only [PU] at HT;obtain ⟨r0,r1⟩:=HT.c2 6 0 0 1;obtain ⟨cr,df⟩:=HT.f2 6 0 0 1;simp only [aN] at r0 r1;go_wp2
   exact U7 (v:=.agg #[_,_]) (by simp [results,results298,go_sem,r0,r1]) rfl ⟨_,⟨e,dF.refl e,_,_,[],_,_,rfl,⟨rfl,rfl,rfl⟩,⟨gd,_,_,gP,HD,HX,HW,bF,(rfl:Qm kb L.fb pv (Q7 L k) { k with aB:=x.aa.word k.t.slot }++(gd++e.1)=_),rfl⟩,rfl⟩,(((HT.set 6 0 rfl 0 _).set 6 0 rfl 1 _).p [0,1,2,3,4,5]).bW⟩
theorem q1o (hz:ze L kb pv e ⟨k,x,ws,p⟩ gK gF) (bk:Nat) (hb:gG kb bk e) :
 Qa prog 328 #[Qb bk] [gK,gF] (dI L kb pv e (runT .bD ⟨k,x,ws,p⟩).1 (runT .bD ⟨k,x,ws,p⟩).2):=by
 have HB:=Vh (show cl bk 88 #[Qb kb]∈e.1 from hb);clear hb;rw [show runT .bD ⟨k,x,ws,p⟩=(.at none .behind,⟨k,x,ws,p⟩) from rfl];unfold dI;obtain ⟨gd,gC,gW,gP,hd,hx,hw,aU,rfl,rfl⟩:=hz;refine GO fun w HT=>?_
 have HT:=Vh (HT.out.m [Qm kb L.fb pv (Q7 L k) k,gd,e.1,gC,gW,gP]);have HX:=Vh hx;have HD:=Vh hd;have HW:=Vh hw;have bF:=Vh aU;clear hx hd hw aU;have b0:=HT.ah 2 HB 0;have bM:=HT.bu 2 HB;simp only [bP] at b0 bM;go_enter func328,ntmps328
 go_wp2_with fail
 refine Qa.run (ni _ _ _) (HT.a _ _) [] ?_
 rintro e w1 gs ⟨rfl,rfl⟩ HT;simp only [PU] at HT;obtain ⟨r0,r1⟩:=HT.c2 6 0 0 1;obtain ⟨cr,df⟩:=HT.f2 6 0 0 1;simp only [aN] at r0 r1;go_wp2
 exact U7 (v:=.agg #[_,_]) (by simp [results,results328,go_sem,r0,r1]) rfl ⟨_,⟨e,dF.refl e,_,_,[],_,_,rfl,⟨rfl,rfl,rfl⟩,⟨gd,_,_,gP,HD,HX,HW,bF,rfl,rfl⟩,rfl⟩,(((HT.set 6 0 rfl 0 _).set 6 0 rfl 1 _).p [0,1,2,3,4,5]).bW⟩
theorem q8m (hz:ze L kb pv e ⟨k,x,ws,p⟩ gK gF) (hp:jZ .aI ⟨k,x,ws,p⟩) (bk:Nat) (hb:gG kb bk e) :
 Qa prog 304 #[Qb bk] [gK,gF] (dI L kb pv e (runT .aI ⟨k,x,ws,p⟩).1 (runT .aI ⟨k,x,ws,p⟩).2):=by
 obtain ⟨ho,hh,hs0⟩:=hp;have HO:=Vh ho.core;have iy:=Vh (show 0<=k.aB/\k.aB<18446744073709551616 from ⟨ho.aB.1,ho.aB.2.1⟩);have oV:=Vh (show x.tr.length<=1000000 from ho.core.tr);have HDL:=Vh (show 0<=k.t.dl/\k.t.dl<18446744073709551616 from ho.t.dl);have ED:=Vh (show 0<=k.t.slot from hs0);have HB:=Vh (show cl bk 88 #[Qb kb]∈e.1 from hb);cases hc:((x.aa.try k.t.slot k.aB 3).2.2 == 0) with
 | false =>
   rw [show runT .aI ⟨k,x,ws,p⟩=(Qx ⟨k,x,ws,p⟩,⟨k,{ x with aa:=(x.aa.try k.t.slot k.aB 3).1 },ws,p⟩) by simp [runT,Qk,hc,Qx]];unfold dI;clear ho hh hs0 hb;have hrc:=QX (L:=L) (kb:=kb) (pv:=pv) (sv:=Q7 L k) (k:=k);rw [show (if k.t.slot<0 then St.nil else St.at none MT.bA)=Qx ⟨k,x,ws,p⟩ from rfl] at hrc;generalize Qx ⟨k,x,ws,p⟩=st at *;obtain ⟨gd,gC,gW,gP,hd,hx,hw,aU,rfl,rfl⟩:=hz;refine GO fun w HT=>?_
   have HT:=Vh (HT.out.m [Qm kb L.fb pv (Q7 L k) k,gd,e.1,gC,gW,gP]);have HX:=Vh hx;have HD:=Vh hd;have HW:=Vh hw;have bF:=Vh aU;clear hx hd hw aU;have uZ:=Vh hrc;have hlk:=uD (kb:=kb) (pv:=pv) (sv:=Q7 L k) HX HO iy 3;rw [hc] at hlk;have fT:=Vh hlk;clear hlk hc hrc;have b0:=HT.ah 2 HB 0;have bM:=HT.bu 2 HB;simp only [bP] at b0 bM;go_enter func304,ntmps304
   go_wp2_with fail
   refine Qa.run fT (HT.a _ _) [0,3] ?_
   rintro e w1 gs ⟨rfl,g1,hx1,rfl⟩ HT;simp only [PU] at HT;have HX:=Vh hx1;clear hx1 b0 bM;have b0:=HT.ah 2 HB 0;simp only [bP] at b0;go_wp2_with fail
   refine Qa.run uZ HT [0] ?_
   rintro e w1 gs ⟨g2,l2,⟨m2,d2,rfl,hs2⟩,rfl⟩ HT;simp only [PU] at HT;clear b0;obtain ⟨r0,r1⟩:=HT.c2 6 0 0 1;obtain ⟨cr,df⟩:=HT.f2 6 0 0 1;simp only [aN] at r0 r1;have hv2:=(Q9 L kb pv (l2,[])).vals (hs2 (l2,[]) (fun _ h=>h));obtain ⟨st1,st2⟩:=aV.aD (P:=prog) hv2.1 hv2.2 r0 cr r1 df;have HS:=Vh hs2;clear hv2 hs2;go_wp2
   exact U7 (v:=.agg #[_,_]) (by simp [results,results304,go_sem,r0,r1]) rfl ⟨_,⟨(e.1++l2,e.2),dF.app e l2,m2,d2,g2,_,_,rfl,HS _ (fun b hb=>UA _ hb),⟨gd,_,gW,gP,HD,HX,HW,bF,rfl,rfl⟩,rfl⟩,(((HT.set 6 0 rfl 0 _).set 6 0 rfl 1 _).p [0,8,1,2,7,3,4,5]).bW⟩
 | true =>
   obtain ⟨gd,gC,gW,gP,hd,hx,hw,aU,Cw,Cv⟩:=hz;obtain ⟨i,q,s,S,hki,hq,hs,hS,hsv,hsh,hss,jC,hwo,hrb,ht0,ht1⟩:=wm hx hw ho hh
   have hz2:runT .aI ⟨k,x,ws,p⟩=(.nil,⟨k,{ x with aa:=(x.aa.try k.t.slot k.aB 3).1,tr:=x.tr++[ll k { bL with kind:=4,id:=k.t.id,gen:=k.t.gen,dl:=jE S k.t }] },ws.set i (S.place (mO S k.t)),p⟩):=by
    have h1:(Qk 3 ⟨k,x,ws,p⟩).2=true:=hc;simp only [runT,h1,if_pos,jy,Qk,ZT.note];rw [show ZT.sh ⟨k,{ x with aa:=(x.aa.try k.t.slot k.aB 3).1 },ws,p⟩=i from hsh,show ZT.wh ⟨k,{ x with aa:=(x.aa.try k.t.slot k.aB 3).1 },ws,p⟩=S from jC];exact if_pos h1
   rw [hz2];have hz:ze L kb pv e ⟨k,x,ws,p⟩ gK gF:=⟨gd,gC,gW,gP,hd,hx,hw,aU,Cw,Cv⟩;clear hx hw hd aU Cw Cv;have har:∀ gC gW,Qf L { x with aa:=(x.aa.try k.t.slot k.aB 3).1 } gC->Jr L ws gW->_:=fun gC gW hx hw=>Tn (kb:=kb) (pv:=pv) (k:=k) hx hw hq hs hS hwo ED HDL oV
   have gI:=Vh hsv;clear ho hh hs0 hb hz2 hki hq hs hS hsv hsh hss jC hwo hrb ht0 ht1;unfold dI;obtain ⟨gd,gC,gW,gP,hd,hx,hw,aU,rfl,rfl⟩:=hz;refine GO fun w HT=>?_
   have HT:=Vh (HT.out.m [Qm kb L.fb pv (Q7 L k) k,gd,e.1,gC,gW,gP]);have HX:=Vh hx;have HD:=Vh hd;have HW:=Vh hw;have bF:=Vh aU;clear hx hd hw aU;have Gr:=Vh har;have hlk:=uD (kb:=kb) (pv:=pv) (sv:=Q7 L k) HX HO iy 3;rw [hc] at hlk;rw [gI.out] at hlk;have iV:=HT.out;rw [gI.out] at iV;have HT:=Vh iV;have fT:=Vh hlk;clear hlk hc har iV;generalize (x.aa.try k.t.slot k.aB 3).1=sl at *;generalize S.place (mO S k.t)=S1 at *;generalize jE S k.t=dl1 at *;have b0:=HT.ah 2 HB 0;have bM:=HT.bu 2 HB;simp only [bP] at b0 bM;go_enter func304,ntmps304
   go_wp2_with fail
   refine Qa.run fT (HT.a _ _) [0,3] ?_
   rintro e w1 gs ⟨rfl,g1,hx1,rfl⟩ HT;simp only [PU] at HT;have HX:=Vh hx1;clear hx1 b0 bM;have b0:=HT.ah 2 HB 0;simp only [bP] at b0;go_wp2_with fail
   refine Qa.run (Gr _ _ HX HW) (HT) [0,3,4] ?_
   rintro e w1 gs ⟨rfl,g2,l5,hx2,hw2,rfl⟩ HT;simp only [PU] at HT;have HX:=Vh hx2;have HW:=Vh hw2;clear hx2 hw2 b0;obtain ⟨r0,r1⟩:=HT.c2 6 0 0 1;obtain ⟨cr,df⟩:=HT.f2 6 0 0 1;simp only [aN] at r0 r1;go_wp2
   have HF:=(((HT.set 6 0 rfl 0 U1).set 6 0 rfl 1 U1).p [0,1,2,3,4,5]);rw [<- gI.out] at HF;exact U7 (v:=.agg #[_,_]) (by simp [results,results304,go_sem,r0,r1]) rfl ⟨_,⟨e,dF.refl e,_,_,[],_,_,rfl,⟨rfl,rfl,rfl⟩,⟨gd,_,_,gP,HD,HX,HW,bF,rfl,rfl⟩,rfl⟩,HF.bW⟩
end
end
end Go.Proofs.YtcneeepdclgdcaaGreat
