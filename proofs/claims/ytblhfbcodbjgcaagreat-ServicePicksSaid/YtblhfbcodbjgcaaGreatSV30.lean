import Derived.Test.YtblhfbcodbjgcaaGreatSV23
import Derived.Test.YtblhfbcodbjgcaaGreatSV28
import Derived.Test.YtblhfbcodbjgcaaGreatSV29
import Derived.Test.YtblhfbcodbjgcaaGreatSV24
import Derived.Test.YtblhfbcodbjgcaaGreatSV15
namespace Go.Proofs.YtblhfbcodbjgcaaGreat
set_option linter.unusedVariables false
set_option linter.unusedSimpArgs false
section
open Go.RowKit Go.Shelf
structure TurnS where
 th:Int
 no:Int
 err:Int
 ok:Bool
 now:Int
 s:Option Nat
 t:TaskS
 saw:Int
 nd:Nat
 due:List TaskS
inductive MT where
 | enter | gate | tick | shards1 (i:Nat) | one2 (d:Nat) | one21 (d:Nat) | one211 (d:Nat) | one2112 (d:Nat) | one21121 | pops1 (n:Int) | pops11 (n:Int)
 | rec1 | rec11 | fires1 (d:Nat) (i:Nat) | looks | claims | claims2 | behind | rearm1 (next:Int) | finishes
inductive AT where
 | leave1 | answer | turnA (d:Nat) | unlock | put (f:FireS) | rel | drop
inductive YT where
 | lock | ready (i:Nat)
abbrev ST:Type:=St MT AT YT
structure ZT where
 k:TurnS
 x:CoreS
 ws:List WheelS
 p:PipeS
def evT (k:TurnS) (E:EvS):EvS:={ E with thread:=k.th,call:=k.no,what:=7 }
def ZT.note (E:EvS) (z:ZT):ZT:={ z with x:={ z.x with tr:=z.x.tr++[evT z.k E] } }
def leavesT:ST:=.row2 .leave1 .answer
def refuseT (e:Int) (z:ZT):ST × ZT:=(leavesT,{ (z.note { ev0 with kind:=9,err:=e }) with k:={ z.k with err:=e,ok:=false } })
def shardsT (i:Nat) (z:ZT):ST × ZT :=
 if i<z.x.shs.length then (.thn (.at (some .lock) (.one2 z.k.nd)) (.shards1 i),{ z with k:={ z.k with s:=some i,nd:=z.k.nd+1,due:=[] } })
 else (leavesT,{ z with k:={ z.k with err:=0,ok:=true } })
def ZT.sh (z:ZT):Nat:=z.k.s.getD 0
def ZT.shS (z:ZT):ShardS:=z.x.shs.getD z.sh (newShard 1)
def ZT.wh (z:ZT):WheelS:=z.ws.getD z.sh ⟨0,[],[]⟩
def ZT.onSh (z:ZT) (s:ShardS):ZT:={ z with x:={ z.x with shs:=z.x.shs.set z.sh s } }
def popsT (n:Int) (z:ZT):ST:=if n≤0 then .nil else .at (some (.ready z.sh)) (.pops1 n)
def receivesT (z:ZT):ST:=if z.k.t.slot<0 then .nil else .at none .rec1
def firesT (d i:Nat) (z:ZT):ST × ZT :=
 match z.k.due[i]? with
 | none=>(.nil,z)
 | some t=>(.thn (.at none .looks) (.fires1 d i),{ z with k:={ z.k with t:=t } })
def lookTu (st:Int) (z:ZT):ZT × Bool :=
 ({ z with k:={ z.k with saw:=z.x.slab.word z.k.t.slot } },stW (z.x.slab.word z.k.t.slot) == st && genW (z.x.slab.word z.k.t.slot) == z.k.t.gen && z.x.slab.mine z.k.t.id)
def tryTu (ev:Int) (z:ZT):ZT × Bool :=
 ({ z with x:={ z.x with slab:=(z.x.slab.try z.k.t.slot z.k.saw ev).1 } },(z.x.slab.try z.k.t.slot z.k.saw ev).2.2 == 0)
def armT (z:ZT):ZT :=
 ({ z with ws:=z.ws.set z.sh (z.wh.place (armE z.wh z.k.t)) }:ZT).note { ev0 with kind:=4,id:=z.k.t.id,gen:=z.k.t.gen,dl:=armD z.wh z.k.t }
def one211T (d:Nat) (z:ZT):ST × ZT:=(.thn (.row1 (.turnA d)) (.one2112 d),z)
def runT:MT→ZT→ST × ZT
 | .enter,z=>(.at none .gate,{ z with x:={ z.x with f:={ z.x.f with inside:=z.x.f.inside+1 } } })
 | .gate,z=>if z.x.f.closed=true then refuseT 3 z else (.at none .tick,z)
 | .tick,z=>shardsT 0 (({ z with x:={ z.x with f:={ z.x.f with now:=z.x.f.now+1 } },k:={ z.k with now:=z.x.f.now+1 } }:ZT).note { ev0 with kind:=11,tick:=z.x.f.now+1 })
 | .shards1 i,z=>shardsT (i+1) z
 | .one2 d,z=>(.at none (.one21 d),z.onSh { z.shS with who:=tryW z.shS.who z.k.th,turns:=tryN z.shS.who z.shS.turns })
 | .one21 d,z=>if z.shS.ring.tail - z.shS.ring.head≤0 then one211T d z else (.thn (popsT (z.shS.ring.tail - z.shS.ring.head) z) (.one211 d),z)
 | .one211 d,z=>one211T d z
 | .one2112 d,z=>match z.k.due[0]? with
   | none=>(.row1 .unlock,z)
   | some _=>(.thn (firesT d 0 z).1 .one21121,(firesT d 0 z).2)
 | .one21121,z=>(.row1 .unlock,z)
 | .pops1 n,z =>
   let z':ZT:={ (z.onSh { z.shS with ring:=(popR z.shS.ring).1 }) with k:={ z.k with t:=(popR z.shS.ring).2.1 } }
   if z'.k.t.slot<0 then (popsT (n - 1) z',z') else (.thn (.at none .rec1) (.pops11 n),z')
 | .pops11 n,z=>(popsT (n - 1) z,z)
 | .rec1,z=>if (lookTu 2 z).2=true then (.at none .rec11,(lookTu 2 z).1) else (.nil,(lookTu 2 z).1)
 | .rec11,z=>if (tryTu 3 z).2=true then (.nil,armT (tryTu 3 z).1) else (receivesT (tryTu 3 z).1,(tryTu 3 z).1)
 | .fires1 d i,z=>firesT d (i+1) z
 | .looks,z=>if (lookTu 3 z).2=true then (.at none .claims,(lookTu 3 z).1) else (.nil,(lookTu 3 z).1)
 | .claims,z =>
   if (tryTu 4 z).2=true then (.thn (.row1 (.put ⟨z.k.t.id,z.k.t.gen,z.k.t.dl,z.k.now⟩)) .claims2,(tryTu 4 z).1.note { ev0 with kind:=5,id:=z.k.t.id,gen:=z.k.t.gen,dl:=z.k.t.dl,tick:=z.k.now })
   else (.at none .looks,(tryTu 4 z).1)
 | .claims2,z=>(.at none .behind,z)
 | .behind,z =>
   let w:=z.x.slab.word z.k.t.slot
   let z':ZT:={ z with k:={ z.k with saw:=w } }
   if stW w≠4∨genW w≠z.k.t.gen then (.nil,z')
   else if 0<z.k.t.per∧lastW w=false∧z.k.t.dl+z.k.t.per<18446744073709551616 then (.at none (.rearm1 (z.k.t.dl+z.k.t.per)),z')
   else (.at none .finishes,z')
 | .rearm1 next,z =>
   if (tryTu 5 z).2=true then (.nil,armT { (tryTu 5 z).1 with k:={ z.k with t:={ z.k.t with gen:=z.k.t.gen+1,dl:=next } } }) else (.at none .behind,(tryTu 5 z).1)
 | .finishes,z =>
   if (tryTu 9 z).2=true then (.row2 .rel .drop,if 0<z.k.t.per∧lastW z.k.saw=false then (tryTu 9 z).1.note { ev0 with kind:=14,id:=z.k.t.id,gen:=z.k.t.gen } else (tryTu 9 z).1)
   else (.at none .behind,(tryTu 9 z).1)
def runAT:AT→ZT→ZT
 | .leave1,z=>{ z with x:={ z.x with f:={ z.x.f with inside:=lessN z.x.f.inside } } }
 | .answer,z=>z.note { ev0 with kind:=2,err:=z.k.err }
 | .turnA d,z=>{ z with ws:=z.ws.set z.sh z.wh.adv.1,k:={ z.k with due:=z.wh.adv.2.map EntS.v } }
 | .unlock,z=>z.onSh { z.shS with who:=0 }
 | .put f,z=>{ z with p:=(z.p.put f).1 }
 | .rel,z=>{ z with x:={ z.x with slab:=(z.x.slab.try z.k.t.slot (z.x.slab.word z.k.t.slot) 10).1 } }
 | .drop,z=>{ z with x:={ z.x with slab:=z.x.slab.drop.1 } }
def mayT:YT→ZT→Bool
 | .lock,z=>decide (0≤z.k.th) && (z.shS.who == 0)
 | .ready i,z=>(z.x.shs.getD i (newShard 1)).ring.ready
structure TaskOk (t:TaskS):Prop where
 id:0≤t.id∧t.id<18446744073709551616
 gen:0≤t.gen∧t.gen≤4294967296
 dl:0≤t.dl∧t.dl<18446744073709551616
 per:0≤t.per∧t.per<18446744073709551616
structure TurnOk (z:ZT):Prop where
 core:CoreOk z.x
 th:0≤z.k.th
 now:0≤z.x.f.now∧z.x.f.now≤15000000
 saw:0≤z.k.saw∧z.k.saw<18446744073709551616∧okW z.k.saw=true
 t:TaskOk z.k.t
 due:z.k.due.length≤1000000
 ws:z.ws.length=z.x.shs.length
 wok:∀ w∈z.ws,WheelOk w
 sh:∀ i,z.k.s=some i→i<z.x.shs.length
 turns:∀ s∈z.x.shs,0≤s.turns∧s.turns≤1000000
 pipe:PipeOk z.p
def HasSh (z:ZT):Prop:=∃ i,z.k.s=some i
def CurD (d:Nat) (z:ZT):Prop:=z.k.nd=d+1
def MT.fit:MT→ZT→Prop
 | .shards1 i,z=>i≤64
 | .one2 d,z=>HasSh z∧CurD d z∧z.k.th≤1000000
 | .one21 d,z=>HasSh z∧CurD d z
 | .one211 d,z=>HasSh z∧CurD d z
 | .one2112 d,z=>HasSh z∧CurD d z
 | .one21121,z=>HasSh z
 | .pops1 n,z=>HasSh z∧0≤n∧n≤1000000∧TurnOk (runT (.pops1 n) z).2
 | .pops11 n,z=>HasSh z∧0≤n∧n≤1000000
 | .rec11,z=>HasSh z∧0≤z.k.t.slot
 | .fires1 d i,z=>HasSh z∧CurD d z∧i≤1000000
 | .rearm1 next,z=>HasSh z∧0≤z.k.t.slot∧0≤next∧next<18446744073709551616
 | _,_=>True
def preT (f:MT) (z:ZT):Prop:=TurnOk z∧f.fit z
def preAT (a:AT) (z:ZT):Prop:=TurnOk z∧match a with
 | .turnA d=>HasSh z∧CurD d z
 | .unlock=>HasSh z∧z.shS.who=z.k.th+1∧z.k.th≤1000000
 | _=>True
def preYT (y:YT) (z:ZT):Prop:=TurnOk z∧match y with
 | .lock=>HasSh z
 | .ready i=>i<z.x.shs.length
def sVal (L:Lay) (k:TurnS):Value:=match k.s with
 | none=>.pointer none
 | some i=>match L.qs[i]? with
   | none=>.pointer none
   | some q=>ptr' q.b
def turnC (fb:Nat) (pv sv:Value) (k:TurnS):Array Value:=#[ptr' fb,.int .i64 k.th,.int .i64 k.no,.int .i64 k.err,.bool k.ok,.int .u64 0,.int .u64 0,.slice none 0 0,pv,.int .u64 k.now,sv,
 .int .u64 k.t.id,.int .i64 k.t.slot,.int .u64 k.t.gen,.int .u64 k.t.dl,.int .u64 k.t.per,.int .u64 k.saw]
abbrev turnB (kb fb:Nat) (pv sv:Value) (k:TurnS):List Blk:=[cl kb 164 (turnC fb pv sv k)]
def isDue (ds:List Nat) (k:TurnS) (g:List Blk):Prop:=ds.length=k.nd∧((k.nd=0∧g=[]) ∨
 ∃ m bd v gr,k.nd=m+1∧ds[m]?=some bd∧rowG 40 5 v k.due.length (tasksV k.due) gr∧g=[cl bd 343 #[v]]++gr)
def isWheels (L:Lay) (ws:List WheelS) (g:List Blk):Prop:=ws.length=L.qs.length∧FamP (fun (z:ShP × WheelS)=>isWheel z.1.wb z.2) (L.qs.zip ws) g
abbrev ET:Type:=List Blk × List Nat
structure leT (e e':ET):Prop where
 b:∀ x∈e.1,x∈e'.1
 d:∀ (i:Nat) (n:Nat),e.2[i]?=some n→e'.2[i]?=some n
theorem leT.refl (e:ET):leT e e:=⟨fun _ h=>h,fun _ _ h=>h⟩
theorem leT.trans {a b c:ET} (h:leT a b) (k:leT b c):leT a c:=⟨fun x hx=>k.b x (h.b x hx),fun i n hn=>k.d i n (h.d i n hn)⟩
theorem leT.app (e:ET) (l:List Blk):leT e (e.1++l,e.2):=⟨fun x h=>List.mem_append_left _ h,fun _ _ h=>h⟩
theorem leT.app2 (e:ET) (l:List Blk) (d:Nat):leT e (e.1++l,e.2++[d]):=⟨fun x h=>List.mem_append_left _ h,fun i n h=>by rw [List.getElem?_append_left (List.getElem?_eq_some_iff.1 h).1];exact h⟩
def repT (L:Lay) (kb:Nat) (pv:Value) (e:ET) (z:ZT) (gK gF:List Blk):Prop :=
 ∃ gd gC gW gP,isDue e.2 z.k gd∧isCore L z.x gC∧isWheels L z.ws gW∧isPipe L.p.pb z.p gP∧gK=turnB kb L.fb pv (sVal L z.k) z.k++(gd++e.1)∧gF=gC++(gW++gP)
def kBox (kb bk:Nat) (e:ET):Prop:=cl bk 56 #[ptr' kb]∈e.1
def cloT (kb:Nat) (e:ET) (fn:FuncId) (v:Value):Prop:=∃ bk,v=.func (.func fn) #[] #[ptr' bk]∧kBox kb bk e
def cloTi (kb:Nat) (e:ET) (fn:FuncId) (i:Int) (v:Value):Prop:=∃ bk bi,v=.func (.func fn) #[] #[ptr' bk,ptr' bi]∧kBox kb bk e∧cl bi 3 #[.int .i64 i]∈e.1
def cloTd (kb:Nat) (e:ET) (fn:FuncId) (d:Nat) (v:Value):Prop:=∃ bk bd,v=.func (.func fn) #[] #[ptr' bk,ptr' bd]∧kBox kb bk e∧e.2[d]?=some bd
def VMT (kb:Nat) (e:ET) (f:MT) (v:Value) (g:List Blk):Prop:=g=[]∧match f with
 | .enter=>v=.func (.func 99) #[ptr' kb] #[]
 | .gate=>v=.func (.func 147) #[ptr' kb] #[]
 | .tick=>v=.func (.func 179) #[ptr' kb] #[]
 | .shards1 i=>cloTi kb e 244 i v
 | .one2 d=>cloTd kb e 256 d v
 | .one21 d=>cloTd kb e 258 d v
 | .one211 d=>cloTd kb e 260 d v
 | .one2112 d=>cloTd kb e 263 d v
 | .one21121=>cloT kb e 265 v
 | .pops1 n=>cloTi kb e 281 n v
 | .pops11 n=>cloTi kb e 283 n v
 | .rec1=>cloT kb e 297 v
 | .rec11=>cloT kb e 299 v
 | .fires1 d i=>∃ bk bp bi bd,v=.func (.func 288) #[] #[ptr' bk,ptr' bp,ptr' bi]∧kBox kb bk e∧e.2[d]?=some bd∧cl bp 347 #[ptr' bd]∈e.1∧cl bi 3 #[.int .i64 i]∈e.1
 | .looks=>v=.func (.func 287) #[ptr' kb] #[]
 | .claims=>v=.func (.func 310) #[ptr' kb] #[]
 | .claims2=>cloT kb e 324 v
 | .behind=>v=.func (.func 325) #[ptr' kb] #[]
 | .rearm1 next=>∃ bk bn,v=.func (.func 337) #[] #[ptr' bk,ptr' bn]∧kBox kb bk e∧cl bn 36 #[.int .u64 next]∈e.1
 | .finishes=>v=.func (.func 339) #[ptr' kb] #[]
def VAT (kb:Nat) (e:ET) (f:AT) (v:Value) (g:List Blk):Prop:=g=[]∧match f with
 | .leave1=>cloT kb e 240 v
 | .answer=>cloT kb e 241 v
 | .turnA d=>cloTd kb e 261 d v
 | .unlock=>cloT kb e 266 v
 | .put f=>∃ bk bf,v=.func (.func 322) #[] #[ptr' bk,ptr' bf]∧kBox kb bk e∧cl bf 69 f.vals.toArray∈e.1
 | .rel=>cloT kb e 342 v
 | .drop=>cloT kb e 343 v
def VYT (L:Lay) (kb:Nat) (e:ET) (f:YT) (v:Value) (g:List Blk):Prop:=g=[]∧match f with
 | .lock=>cloT kb e 254 v
 | .ready i=>∃ q,L.qs[i]?=some q∧v=.func (.func 280) #[ptr' q.b] #[]
def cliT (L:Lay) (kb:Nat) (pv:Value):CliE :=
 ⟨MT,AT,YT,ZT,ET,leT,repT L kb pv,VMT kb,VAT kb,VYT L kb,runT,runAT,mayT,preT,preAT,preYT⟩
theorem kBox.le {kb bk:Nat} {e e':ET} (h:kBox kb bk e) (hl:leT e e'):kBox kb bk e':=hl.b _ h
theorem cloT.le {kb:Nat} {e e':ET} {fn:FuncId} {v:Value} (h:cloT kb e fn v) (hl:leT e e'):cloT kb e' fn v:=by
 obtain ⟨bk,h1,h2⟩:=h;exact ⟨bk,h1,h2.le hl⟩
theorem cloTi.le {kb:Nat} {e e':ET} {fn:FuncId} {i:Int} {v:Value} (h:cloTi kb e fn i v) (hl:leT e e'):cloTi kb e' fn i v:=by
 obtain ⟨bk,bi,h1,h2,h3⟩:=h;exact ⟨bk,bi,h1,h2.le hl,hl.b _ h3⟩
theorem cloTd.le {kb:Nat} {e e':ET} {fn:FuncId} {d:Nat} {v:Value} (h:cloTd kb e fn d v) (hl:leT e e'):cloTd kb e' fn d v:=by
 obtain ⟨bk,bi,h1,h2,h3⟩:=h;exact ⟨bk,bi,h1,h2.le hl,hl.d _ _ h3⟩
theorem cloT.is {kb:Nat} {e:ET} {fn:FuncId} {v:Value} (h:cloT kb e fn v):∃ fn first caps,v=.func (.func fn) first caps:=by
 obtain ⟨bk,h1,h2⟩:=h;exact ⟨_,_,_,h1⟩
theorem cloTi.is {kb:Nat} {e:ET} {fn:FuncId} {i:Int} {v:Value} (h:cloTi kb e fn i v):∃ fn first caps,v=.func (.func fn) first caps:=by
 obtain ⟨bk,bi,h1,h2,h3⟩:=h;exact ⟨_,_,_,h1⟩
theorem cloTd.is {kb:Nat} {e:ET} {fn:FuncId} {d:Nat} {v:Value} (h:cloTd kb e fn d v):∃ fn first caps,v=.func (.func fn) first caps:=by
 obtain ⟨bk,bi,h1,h2,h3⟩:=h;exact ⟨_,_,_,h1⟩
theorem VMT.le {kb:Nat} {e e':ET} {f:MT} {v:Value} {g:List Blk} (hl:leT e e') (h:VMT kb e f v g):VMT kb e' f v g:=by
 refine ⟨h.1,?_⟩
 have:=h.2
 cases f
 case fires1 d i=>obtain ⟨bk,bp,bi,bd,h1,h2,h3,h4,h5⟩:=this;exact ⟨bk,bp,bi,bd,h1,h2.le hl,hl.d _ _ h3,hl.b _ h4,hl.b _ h5⟩
 case rearm1 next=>obtain ⟨bk,bn,h1,h2,h3⟩:=this;exact ⟨bk,bn,h1,h2.le hl,hl.b _ h3⟩
 all_goals first | exact this | exact cloT.le this hl | exact cloTi.le this hl | exact cloTd.le this hl
theorem VAT.le {kb:Nat} {e e':ET} {f:AT} {v:Value} {g:List Blk} (hl:leT e e') (h:VAT kb e f v g):VAT kb e' f v g:=by
 refine ⟨h.1,?_⟩
 have:=h.2
 cases f
 case put f=>obtain ⟨bk,bn,h1,h2,h3⟩:=this;exact ⟨bk,bn,h1,h2.le hl,hl.b _ h3⟩
 all_goals first | exact this | exact cloT.le this hl | exact cloTi.le this hl | exact cloTd.le this hl
theorem cliT_vals (L:Lay) (kb:Nat) (pv:Value) (e:ET):((cliT L kb pv).on e).Vals where
 vm {f v g} h:=by
  have:=h.2
  cases f
  case fires1 d i=>obtain ⟨bk,bp,bi,bd,h1,h2⟩:=this;exact ⟨_,_,_,h1⟩
  case rearm1 next=>obtain ⟨bk,bn,h1,h2⟩:=this;exact ⟨_,_,_,h1⟩
  all_goals first | exact ⟨_,_,_,this⟩ | exact cloT.is this | exact cloTi.is this | exact cloTd.is this
 va {f v g} h:=by
  have:=h.2
  cases f
  case put f=>obtain ⟨bk,bn,h1,h2⟩:=this;exact ⟨_,_,_,h1⟩
  all_goals first | exact cloT.is this | exact cloTi.is this | exact cloTd.is this
 vy {f v g} h:=by
  have:=h.2
  cases f
  ·exact cloT.is this
  ·obtain ⟨q,_,h1⟩:=this;exact ⟨_,_,_,h1⟩
def MRT (L:Lay) (kb:Nat) (pv:Value) (e:ET) (s:ST) (z:ZT) (en:Ending) (gs:GH):Prop :=
 ∃ e',leT e e'∧∃ m d g' gK' gF',en=.returned (.agg #[m,d])∧(cliT L kb pv).SV e' s m d g'∧repT L kb pv e' z gK' gF'∧gs=[g',gK',gF']
def ART (L:Lay) (kb:Nat) (pv:Value) (e:ET) (z:ZT) (en:Ending) (gs:GH):Prop :=
 ∃ e',leT e e'∧∃ gK' gF',en=.returned (.tuple #[])∧repT L kb pv e' z gK' gF'∧gs=[[],gK',gF']
def SRT (L:Lay) (kb:Nat) (pv:Value) (s:ST) (en:Ending) (g' l:List Blk):Prop :=
 ∃ m d,en=.returned (.agg #[m,d])∧∀ e:ET,(∀ b∈l,b∈e.1)→(cliT L kb pv).SV e s m d g'
theorem at_g (fn:FuncId) (a c:Array Value):DoesG Tryz.prog 98 #[.func (.func fn) a c] [] fun en gs=>en=.returned (.agg #[.nilFunc,.func (.func fn) a c])∧gs=[]:=by
 intro w hw
 have T0:=TG.refl hw
 have HT:=Lib.hid T0
 clear hw T0
 go_enter Tryz.func98,Tryz.ntmps98
 go_wp2
 exact bodyPost_ret (v:=.agg #[_,_]) (by simp [results,Tryz.results98,go_sem]) rfl ⟨_,⟨rfl,rfl⟩,HT.out.alloc0 _⟩
end
section
open Go.RowKit Go.Shelf
theorem stateR (n:Int) (h0:0≤n) (h1:n<18446744073709551616):ReadsG Tryz.prog 47 #[.int .u64 n] [] (.int .i64 (stW n)):=fun w hw=>(state_calls n w h0 h1).mono (by rintro e w' ⟨rfl,rfl⟩;exact ⟨rfl,0,rfl⟩)
theorem lastR (n:Int) (h0:0≤n) (h1:n<18446744073709551616):ReadsG Tryz.prog 236 #[.int .u64 n] [] (.bool (lastW n)):=fun w hw=>(last_calls n w h0 h1).mono (by rintro e w' ⟨rfl,rfl⟩;exact ⟨rfl,0,rfl⟩)
section
variable {L:Lay} {x:CoreS} {gC:List Blk} {kb:Nat} {pv sv:Value} {k:TurnS}
set_option maxRecDepth 100000 in
theorem turnNote (hx:isCore L x gC) (E:EvS) (hn:x.tr.length≤1000000):DoesG Tryz.prog 100 #[ptr' kb,.agg E.cells] [turnB kb L.fb pv sv k,gC] fun e gs =>
 e=.returned (.tuple #[])∧∃ g',isCore L { x with tr:=x.tr++[evT k E] } g'∧gs=[turnB kb L.fb pv sv k,g']:=by
 intro w hw
 have T0:=TG.refl hw
 have HT:=Lib.hid T0
 clear hw T0
 have HN:=Lib.hid (coreNote hx (evT k E) hn)
 have lt:=HT.out.lt 0 0 rfl
 simp only [] at lt
 have k0:=HT.out.cell 0 0 rfl 0
 have k1:=HT.out.cell 0 0 rfl 1
 have k2:=HT.out.cell 0 0 rfl 2
 simp only [turnC,GE3] at k0 k1 k2
 clear hx hn
 simp only [EvS.cells]
 go_enter Tryz.func100,Tryz.ntmps100
 go_wp2
 go_region
 go_wp2
 have HT:=Lib.hid (HT.out.alloc (k:=w.heap.size) rfl 152 (evT k E).cells).drew
 simp only [List.cons_append,List.nil_append] at HT
 simp only [EvS.cells,evT] at HT
 clear lt k1 k2 k0
 generalize World.drew _=w1 at HT ⊢
 have k0:=HT.out.cell 0 0 rfl 0
 simp only [turnC,GE3] at k0
 have b0:=HT.out.cell 2 0 rfl 0
 have b1:=HT.out.cell 2 0 rfl 1
 have b2:=HT.out.cell 2 0 rfl 2
 have b3:=HT.out.cell 2 0 rfl 3
 have b4:=HT.out.cell 2 0 rfl 4
 have b5:=HT.out.cell 2 0 rfl 5
 have b6:=HT.out.cell 2 0 rfl 6
 have b7:=HT.out.cell 2 0 rfl 7
 have b8:=HT.out.cell 2 0 rfl 8
 have b9:=HT.out.cell 2 0 rfl 9
 simp only [GE4] at b0 b1 b2 b3 b4 b5 b6 b7 b8 b9
 refine wp_region_mix1 5 (by kernel_rfl) (by kernel_rfl) ?_
 simp only [TD4]
 repeat (go_big_quiet_step ((fail)))
 refine wpQuiet_nil ?_
 intro _ hw'
 obtain ⟨nq,hw''⟩:=hw'
 subst hw''
 have HT:=Lib.hid (HT.out.drewN nq)
 go_wp2_with fail
 refine (DoesG.use (HN.out) (HT.out) [1] rfl rfl).mono ?_
 rintro e w1 ⟨gs,⟨rfl,g',hx',rfl⟩,Ta⟩
 simp only [PU] at Ta
 have HX:=Lib.hid hx'
 clear hx'
 have HT:=Lib.hid Ta
 clear Ta
 go_wp2_with fail
 refine ⟨rfl,?_⟩
 go_wp2
 exact bodyPost_end (results_none rfl _ _ _) rfl ⟨_,⟨rfl,g',HX.out,rfl⟩,HT.out.pick [0,1] rfl⟩
set_option maxRecDepth 100000 in
set_option maxHeartbeats 4000000 in
theorem turnLook (hx:isCore L x gC) (ho:CoreOk x) (ht:TaskOk k.t) (st:Int):DoesG Tryz.prog 298 #[ptr' kb,.int .i64 st] [turnB kb L.fb pv sv k,gC] fun e gs =>
 e=.returned (.bool (stW (x.slab.word k.t.slot) == st && genW (x.slab.word k.t.slot) == k.t.gen && x.slab.mine k.t.id))∧∃ g',isCore L x g'∧gs=[turnB kb L.fb pv sv { k with saw:=x.slab.word k.t.slot },g']:=by
 have HWB:=Lib.hid (word_bd ho.slab k.t.slot)
 have HWD:=Lib.hid (show ∀ g',isCore L x g'→_ from fun g' hx'=>coreWord (g:=g') hx' ho.slab.n1 k.t.slot)
 have HMI:=Lib.hid (show ∀ g',isCore L x g'→_ from fun g' hx'=>coreMine (g:=g') hx' ho.slab.n1 k.t.id ht.id.1 ht.id.2)
 have HX:=Lib.hid hx
 generalize x.slab.mine k.t.id=mi at *
 obtain ⟨wd,hwd⟩:∃ wd,wd=x.slab.word k.t.slot:=⟨_,rfl⟩
 rw [← hwd] at HWB HWD ⊢
 have HSW:=Lib.hid (stateR wd HWB.out.1 HWB.out.2.1)
 have HGW:=Lib.hid (genR wd HWB.out.1 HWB.out.2.1)
 generalize stW wd=sw at *
 generalize genW wd=gw at *
 clear ho ht hx hwd HWB
 intro w hw
 have T0:=TG.refl hw
 have HT:=Lib.hid T0
 clear hw T0
 go_enter Tryz.func298,Tryz.ntmps298
 go_wp2_with fail
 obtain ⟨ι,W,hW0,hend,hin⟩:∃ (ι:Type) (W:ι→World),(∃ i,World.drew w=W i)∧(∀ i,∃ gx,isCore L x gx∧TG [turnB kb L.fb pv sv k,gC] w [turnB kb L.fb pv sv k,gx] (W i))∧(∀ w',(∃ gx,isCore L x gx∧TG [turnB kb L.fb pv sv k,gC] w [turnB kb L.fb pv sv k,gx] w')→∃ i,w'=W i):=⟨{w' // ∃ gx,isCore L x gx∧TG [turnB kb L.fb pv sv k,gC] w [turnB kb L.fb pv sv k,gx] w'},Subtype.val,⟨⟨_,gC,HX.out,HT.out.drew⟩,rfl⟩,fun i=>i.2,fun w' h=>⟨⟨w',h⟩,rfl⟩⟩
 have hne:Nonempty ι:=hW0.elim fun i _=>⟨i⟩
 have k0:∀ i,(W i).cell? ⟨kb,0,none⟩=some (ptr' L.fb):=fun i=>by obtain ⟨_,_,T⟩:=hend i;exact T.cell 0 0 rfl 0
 have k12:∀ i,(W i).cell? ⟨kb,12,none⟩=some (.int .i64 k.t.slot):=fun i=>by obtain ⟨_,_,T⟩:=hend i;exact T.cell 0 0 rfl 12
 have m1:∀ i,Calls Tryz.prog 22 #[ptr' L.fb] (W i) fun e w2=>e=.returned (ptr' L.p.sb)∧∃ j,w2=W j:=fun i=>by
  obtain ⟨_,hg,T⟩:=hend i
  refine (DoesG.use ((coreSlab_r hg).does) T [1] rfl rfl).mono ?_
  rintro e w2 ⟨gs,⟨rfl,rfl⟩,T2⟩
  exact ⟨rfl,hin _ ⟨_,hg,T2⟩⟩
 have m2:∀ i,Calls Tryz.prog 46 #[ptr' L.p.sb,.int .i64 k.t.slot] (W i) fun e w2=>e=.returned (.tuple #[.int .u64 wd,.int .i64 (x.slab.werr k.t.slot)])∧∃ j,w2=W j:=fun i=>by
  obtain ⟨_,hg,T⟩:=hend i
  refine (DoesG.use (HWD.out _ hg) T [1] rfl rfl).mono ?_
  rintro e w2 ⟨gs,⟨rfl,g3,hg3,rfl⟩,T2⟩
  exact ⟨rfl,hin _ ⟨g3,hg3,T2⟩⟩
 refine wp_region_mix (fun w'=>∃ i,w'=W i) 17 (by kernel_rfl) (by kernel_rfl) hW0 ?_
 simp only [TD4]
 repeat (go_big_quiet_step ((first | (go_at_call 22;with_reducible exact m1 _) | (go_at_call 46;with_reducible exact m2 _))))
 refine wpQuiet_nil ?_
 intro _ hw'
 obtain ⟨iq,hw''⟩:=hw'
 subst hw''
 obtain ⟨g1,hx1,T⟩:=hend iq
 have HT:=Lib.hid T
 generalize W iq=w1 at HT ⊢
 clear T hend hin hW0 hne
 have HX1:=Lib.hid hx1
 clear hx1 k0 k12 m1 m2
 have k16:=HT.out.cell 0 0 rfl 16
 have fk16:=HT.out.free 0 0 rfl 16
 simp only [turnC,GE3] at k16
 go_wp2_with fail
 refine ⟨rfl,?_⟩
 have HT:=Lib.hid ((HT.out.set 0 0 rfl 16 (.int .u64 wd)).eq (H':=[turnB kb L.fb pv sv { k with saw:=wd },g1]) rfl)
 clear k16 fk16
 generalize World.setCell _ _ _=w5 at HT ⊢
 have k0:=HT.out.cell 0 0 rfl 0
 have k11:=HT.out.cell 0 0 rfl 11
 have k13:=HT.out.cell 0 0 rfl 13
 have k16:=HT.out.cell 0 0 rfl 16
 simp only [turnC,GE3] at k0 k11 k13 k16
 cases hb1:(sw == st) with
 | false =>
   go_wp2_with fail
   refine wp_region_mix1 31 (by kernel_rfl) (by kernel_rfl) ?_
   simp only [TD4]
   repeat (go_big_quiet_step ((first | (go_at_call 47;with_reducible exact ReadsG.quiet (HSW.out) HT.out _ [] rfl rfl) | (go_at_call 209;with_reducible exact ReadsG.quiet (HGW.out) HT.out _ [] rfl rfl) | (go_at_call 22;with_reducible exact ReadsG.quiet (coreSlab_r HX1.out) HT.out _ [1] rfl rfl))))
   refine wpQuiet_nil ?_
   intro _ hw'
   obtain ⟨nq,hw''⟩:=hw'
   subst hw''
   have HT:=Lib.hid (HT.out.drewN nq)
   go_wp2_with fail
   refine ⟨rfl,?_⟩
   clear HSW HGW HMI HWD
   go_wp2
   go_ret
   exact ⟨_,⟨by rw [hb1];rfl,g1,HX1.out,rfl⟩,HT.out⟩
 | true =>
   cases hb2:(gw == k.t.gen) with
   | false =>
     go_wp2_with fail
     refine wp_region_mix1 31 (by kernel_rfl) (by kernel_rfl) ?_
     simp only [TD4]
     repeat (go_big_quiet_step ((first | (go_at_call 47;with_reducible exact ReadsG.quiet (HSW.out) HT.out _ [] rfl rfl) | (go_at_call 209;with_reducible exact ReadsG.quiet (HGW.out) HT.out _ [] rfl rfl) | (go_at_call 22;with_reducible exact ReadsG.quiet (coreSlab_r HX1.out) HT.out _ [1] rfl rfl))))
     refine wpQuiet_nil ?_
     intro _ hw'
     obtain ⟨nq,hw''⟩:=hw'
     subst hw''
     have HT:=Lib.hid (HT.out.drewN nq)
     go_wp2_with fail
     refine ⟨rfl,?_⟩
     clear HSW HGW HMI HWD
     go_wp2
     go_ret
     exact ⟨_,⟨by rw [hb1,hb2];rfl,g1,HX1.out,rfl⟩,HT.out⟩
   | true =>
     go_wp2_with fail
     refine wp_region_mix1 31 (by kernel_rfl) (by kernel_rfl) ?_
     simp only [TD4]
     repeat (go_big_quiet_step ((first | (go_at_call 47;with_reducible exact ReadsG.quiet (HSW.out) HT.out _ [] rfl rfl) | (go_at_call 209;with_reducible exact ReadsG.quiet (HGW.out) HT.out _ [] rfl rfl) | (go_at_call 22;with_reducible exact ReadsG.quiet (coreSlab_r HX1.out) HT.out _ [1] rfl rfl))))
     refine wpQuiet_nil ?_
     intro _ hw'
     obtain ⟨nq,hw''⟩:=hw'
     subst hw''
     have HT:=Lib.hid (HT.out.drewN nq)
     go_wp2_with fail
     refine (DoesG.use (HMI.out _ HX1.out) (HT.out) [1] rfl rfl).mono ?_
     rintro e w1 ⟨gs,⟨rfl,g2,hx2,rfl⟩,Ta⟩
     simp only [PU] at Ta
     have HX2:=Lib.hid hx2
     clear hx2 k0 k11 k13 k16
     have HT:=Lib.hid Ta
     clear Ta
     go_wp2_with fail
     refine ⟨rfl,?_⟩
     go_wp2
     go_ret
     exact ⟨_,⟨by rw [hb1,hb2];rfl,g2,HX2.out,rfl⟩,HT.out⟩
set_option maxRecDepth 100000 in
set_option maxHeartbeats 4000000 in
theorem turnTry (hx:isCore L x gC) (ho:CoreOk x) (hs:0≤k.saw∧k.saw<18446744073709551616) (ev:Int):DoesG Tryz.prog 300 #[ptr' kb,.int .i64 ev] [turnB kb L.fb pv sv k,gC] fun e gs =>
 e=.returned (.bool ((x.slab.try k.t.slot k.saw ev).2.2 == 0))∧∃ g',isCore L { x with slab:=(x.slab.try k.t.slot k.saw ev).1 } g'∧gs=[turnB kb L.fb pv sv k,g']:=by
 have HY:=Lib.hid (coreTry hx ho.slab.n1 k.t.slot k.saw ev hs.1 hs.2)
 have HSL:=Lib.hid (coreSlab_r hx)
 generalize x.slab.try k.t.slot k.saw ev=r at *
 clear ho hs hx
 intro w hw
 have T0:=TG.refl hw
 have HT:=Lib.hid T0
 clear hw T0
 have k0:=HT.out.cell 0 0 rfl 0
 have k12:=HT.out.cell 0 0 rfl 12
 have k16:=HT.out.cell 0 0 rfl 16
 simp only [turnC,GE3] at k0 k12 k16
 go_enter Tryz.func300,Tryz.ntmps300
 go_wp2_with fail
 refine wp_region_mix1 15 (by kernel_rfl) (by kernel_rfl) ?_
 simp only [TD4]
 repeat (go_big_quiet_step ((first | (go_at_call 22;with_reducible exact ReadsG.quiet (HSL.out) HT.out _ [1] rfl rfl))))
 refine wpQuiet_nil ?_
 intro _ hw'
 obtain ⟨nq,hw''⟩:=hw'
 subst hw''
 have HT:=Lib.hid (HT.out.drewN nq)
 go_wp2_with fail
 refine (DoesG.use (HY.out) (HT.out) [1] rfl rfl).mono ?_
 rintro e w1 ⟨gs,⟨rfl,g1,hx1,rfl⟩,Ta⟩
 simp only [PU] at Ta
 have HX:=Lib.hid hx1
 clear hx1 k0 k12 k16
 have HT:=Lib.hid Ta
 clear Ta
 go_wp2_with fail
 refine ⟨rfl,?_⟩
 go_wp2
 go_ret
 exact ⟨_,⟨rfl,g1,HX.out,rfl⟩,HT.out⟩
end
end
section
open Go.RowKit Go.Shelf
section
variable {L:Lay} {x:CoreS} {ws:List WheelS} {gC gW:List Blk}
theorem coreArm (hx:isCore L x gC) (hw:isWheels L ws gW) {i:Nat} {q:ShP} {s:ShardS} {S:WheelS} (hq:L.qs[i]?=some q) (hs:x.shs[i]?=some s) (hS:ws[i]?=some S) (ho:WheelOk S) (t:TaskS) (h0:0≤t.slot) (hd:0≤t.dl∧t.dl<18446744073709551616) :
 DoesG Tryz.prog 312 #[ptr' q.b,.agg t.cells] [gC,gW] fun e gs=>e=.returned (.tuple #[.int .u64 (armD S t),.int .i64 0])∧∃ gC' gW',isCore L x gC'∧isWheels L (ws.set i (S.place (armE S t))) gW'∧gs=[gC',gW']:=by
 obtain ⟨tr,gF,gS,gR,gH,gT,h1,h2,h3,h4,h5,h6,rfl⟩:=hx
 obtain ⟨hwl,hwf⟩:=hw
 obtain ⟨u,y,⟨gr,gl,hr,hl,rfl⟩,hp,hback⟩:=h5.out (zip_at hq hs)
 obtain ⟨u2,y2,hu2,hp2,hback2⟩:=hwf.out (zip_at hq hS)
 intro w hh
 have T:=((((TG.refl hh).sum (H':=[gF++(gS++(gR++gT)),gH,gW])).permAt 1 rfl hp).permAt 2 rfl hp2).sum (H':=[gF++(gS++(gR++gT)),shardB q.b q.rb q.lb q.wb,gr,gl,y,u2,y2])
 refine (DoesG.use (shardArm_g q.b q.rb q.lb hu2 ho t h0 hd) T [1,5] rfl rfl).mono ?_
 rintro e w' ⟨gs,⟨he,g1,hn1,rfl⟩,T'⟩
 obtain ⟨gH',hf,hp'⟩:=hback (q,s) (shardB q.b q.rb q.lb q.wb++(gr++gl)) ⟨gr,gl,hr,hl,rfl⟩
 rw [zip_set i hq] at hf
 obtain ⟨gW',hf2,hp2'⟩:=hback2 (q,S.place (armE S t)) g1 hn1
 rw [zip_set i hq] at hf2
 have hsame:x.shs.set i s=x.shs:=fam_set_same hs
 rw [hsame] at hf
 refine ⟨_,⟨he,_,gW',⟨tr,gF,gS,gR,gH',gT,h1,h2,h3,h4,hf,h6,rfl⟩,⟨by rw [List.length_set];exact hwl,hf2⟩,rfl⟩,?_⟩
 exact (((TG.sum (H:=[gF++(gS++(gR++gT)),shardB q.b q.rb q.lb q.wb,gr,gl,y,g1,y2]) (H':=[gF++(gS++(gR++gT)),shardB q.b q.rb q.lb q.wb++(gr++gl)++y,g1++y2]) T').permAt 1 rfl hp').permAt 2 rfl hp2').sum
theorem coreTurnS (hx:isCore L x gC) (hw:isWheels L ws gW) {i:Nat} {q:ShP} {s:ShardS} {S:WheelS} (hq:L.qs[i]?=some q) (hs:x.shs[i]?=some s) (hS:ws[i]?=some S) (ho:WheelOk S) :
 DoesG Tryz.prog 262 #[ptr' q.b] [gC,gW] fun e gs=>∃ v gr,e=.returned (.tuple #[v,.int .i64 0])∧rowG 40 5 v S.adv.2.length (tasksV (S.adv.2.map EntS.v)) gr∧∃ gC' gW',isCore L x gC'∧isWheels L (ws.set i S.adv.1) gW'∧gs=[gC',gW',gr]:=by
 obtain ⟨tr,gF,gS,gR,gH,gT,h1,h2,h3,h4,h5,h6,rfl⟩:=hx
 obtain ⟨hwl,hwf⟩:=hw
 obtain ⟨u,y,⟨gr,gl,hr,hl,rfl⟩,hp,hback⟩:=h5.out (zip_at hq hs)
 obtain ⟨u2,y2,hu2,hp2,hback2⟩:=hwf.out (zip_at hq hS)
 intro w hh
 have T:=((((TG.refl hh).sum (H':=[gF++(gS++(gR++gT)),gH,gW])).permAt 1 rfl hp).permAt 2 rfl hp2).sum (H':=[gF++(gS++(gR++gT)),shardB q.b q.rb q.lb q.wb,gr,gl,y,u2,y2])
 refine (DoesG.use (shardTurn_g q.b q.rb q.lb hu2 ho) T [1,5] rfl rfl).mono ?_
 rintro e w' ⟨gs,⟨v,g1,gr1,he,hn1,hrow,rfl⟩,T'⟩
 obtain ⟨gH',hf,hp'⟩:=hback (q,s) (shardB q.b q.rb q.lb q.wb++(gr++gl)) ⟨gr,gl,hr,hl,rfl⟩
 rw [zip_set i hq] at hf
 obtain ⟨gW',hf2,hp2'⟩:=hback2 (q,S.adv.1) g1 hn1
 rw [zip_set i hq] at hf2
 have hsame:x.shs.set i s=x.shs:=fam_set_same hs
 rw [hsame] at hf
 refine ⟨_,⟨v,gr1,he,hrow,_,gW',⟨tr,gF,gS,gR,gH',gT,h1,h2,h3,h4,hf,h6,rfl⟩,⟨by rw [List.length_set];exact hwl,hf2⟩,rfl⟩,?_⟩
 exact (((TG.sum (H:=[gF++(gS++(gR++gT)),shardB q.b q.rb q.lb q.wb,gr,gl,y,g1,y2,gr1]) (H':=[gF++(gS++(gR++gT)),shardB q.b q.rb q.lb q.wb++(gr++gl)++y,g1++y2,gr1]) T').permAt 1 rfl hp').permAt 2 rfl hp2').sum
theorem coreLockOf_r (hx:isCore L x gC) {i:Nat} {q:ShP} {s:ShardS} (hq:L.qs[i]?=some q) (hs:x.shs[i]?=some s) :
 DoesG Tryz.prog 38 #[ptr' q.b] [gC] fun e gs=>e=.returned (ptr' q.lb)∧∃ g',isCore L x g'∧gs=[g']:=by
 have:=coreShard (v:=ptr' q.lb) hx hq hs (fun g hg=>by
  obtain ⟨gr,gl,hr,hl,rfl⟩:=hg
  intro w hw
  have T:=(TG.refl hw).sum (H':=[shardB q.b q.rb q.lb q.wb,gr,gl])
  refine (DoesG.use (shardLock_g q.b q.rb q.lb q.wb) T [0] rfl rfl).mono ?_
  rintro e w' ⟨gs,⟨he,rfl⟩,T'⟩
  exact ⟨_,⟨he,_,⟨gr,gl,hr,hl,rfl⟩,rfl⟩,TG.sum (H:=[shardB q.b q.rb q.lb q.wb,gr,gl]) T'⟩)
 rwa [core_shs_same hs] at this
theorem coreLockDo {F:Nat} {args:Array Value} {v:Value} {who' n':Int} (hx:isCore L x gC) {i:Nat} {q:ShP} {s:ShardS} (hq:L.qs[i]?=some q) (hs:x.shs[i]?=some s)
 (hd:∀ g,isLock q.lb s.who s.turns g→DoesG Tryz.prog F args [g] fun e gs=>e=.returned v∧∃ g',isLock q.lb who' n' g'∧gs=[g']) :
 DoesG Tryz.prog F args [gC] fun e gs=>e=.returned v∧∃ g',isCore L { x with shs:=x.shs.set i { s with who:=who',turns:=n' } } g'∧gs=[g'] :=
 coreShard hx hq hs (fun g hg=>by
  obtain ⟨gr,gl,hr,hl,rfl⟩:=hg
  intro w hw
  have T:=(TG.refl hw).sum (H':=[shardB q.b q.rb q.lb q.wb,gr,gl])
  refine (DoesG.use (hd gl hl) T [2] rfl rfl).mono ?_
  rintro e w' ⟨gs,⟨he,g1,hn1,rfl⟩,T'⟩
  exact ⟨_,⟨he,_,⟨gr,g1,hr,hn1,rfl⟩,rfl⟩,TG.sum (H:=[shardB q.b q.rb q.lb q.wb,gr,g1]) T'⟩)
end
section
variable {L:Lay} {x:CoreS} {ws:List WheelS} {gC gW:List Blk} {kb:Nat} {pv:Value} {k:TurnS}
set_option maxRecDepth 100000 in
set_option maxHeartbeats 4000000 in
theorem turnArm (hx:isCore L x gC) (hw:isWheels L ws gW) {i:Nat} {q:ShP} {s:ShardS} {S:WheelS} (hq:L.qs[i]?=some q) (hs:x.shs[i]?=some s) (hS:ws[i]?=some S) (ho:WheelOk S) (h0:0≤k.t.slot) (hd:0≤k.t.dl∧k.t.dl<18446744073709551616) (hn:x.tr.length≤1000000) :
 DoesG Tryz.prog 301 #[ptr' kb] [turnB kb L.fb pv (ptr' q.b) k,gC,gW] fun e gs=>e=.returned (.tuple #[])∧∃ gC' gW',isCore L { x with tr:=x.tr++[evT k { ev0 with kind:=4,id:=k.t.id,gen:=k.t.gen,dl:=armD S k.t }] } gC' ∧
  isWheels L (ws.set i (S.place (armE S k.t))) gW'∧gs=[turnB kb L.fb pv (ptr' q.b) k,gC',gW']:=by
 have HA:=Lib.hid (coreArm hx hw hq hs hS ho k.t h0 hd)
 have HN:=Lib.hid (show ∀ g E,isCore L x g→_ from fun g E hg=>turnNote (kb:=kb) (pv:=pv) (sv:=ptr' q.b) (k:=k) (gC:=g) hg E hn)
 generalize S.place (armE S k.t)=S1 at *
 generalize armD S k.t=dd at *
 simp only [TaskS.cells] at HA
 clear hx hw hs hS ho hn h0 hd
 intro w hw
 have T0:=TG.refl hw
 have HT:=Lib.hid T0
 clear hw T0
 have k10:=HT.out.cell 0 0 rfl 10
 have k11:=HT.out.cell 0 0 rfl 11
 have k12:=HT.out.cell 0 0 rfl 12
 have k13:=HT.out.cell 0 0 rfl 13
 have k14:=HT.out.cell 0 0 rfl 14
 have k15:=HT.out.cell 0 0 rfl 15
 simp only [turnC,GE3] at k10 k11 k12 k13 k14 k15
 go_enter Tryz.func301,Tryz.ntmps301
 go_wp2_with fail
 refine wp_region_mix1 8 (by kernel_rfl) (by kernel_rfl) ?_
 simp only [TD4]
 repeat (go_big_quiet_step ((fail)))
 refine wpQuiet_nil ?_
 intro _ hw'
 obtain ⟨nq,hw''⟩:=hw'
 subst hw''
 have HT:=Lib.hid (HT.out.drewN nq)
 go_wp2_with fail
 refine (DoesG.use (HA.out) (HT.out) [1,2] rfl rfl).mono ?_
 rintro e w1 ⟨gs,⟨rfl,g1,g2,hx1,hw1,rfl⟩,Ta⟩
 simp only [PU] at Ta
 have HX:=Lib.hid hx1
 have HW:=Lib.hid hw1
 clear hx1 hw1 k10 k11 k12 k13 k14 k15
 have HT:=Lib.hid Ta
 clear Ta
 go_wp2_with fail
 refine ⟨rfl,?_⟩
 have k11:=HT.out.cell 0 0 rfl 11
 have k13:=HT.out.cell 0 0 rfl 13
 simp only [turnC,GE3] at k11 k13
 go_wp2_with fail
 refine wp_region_mix1 13 (by kernel_rfl) (by kernel_rfl) ?_
 simp only [TD4]
 repeat (go_big_quiet_step ((fail)))
 refine wpQuiet_nil ?_
 intro _ hw'
 obtain ⟨nq,hw''⟩:=hw'
 subst hw''
 have HT:=Lib.hid (HT.out.drewN nq)
 go_wp2_with fail
 refine (DoesG.use (HN.out _ { ev0 with kind:=4,id:=k.t.id,gen:=k.t.gen,dl:=dd } HX.out) (HT.out) [0,1] rfl rfl).mono ?_
 rintro e w1 ⟨gs,⟨rfl,g3,hx3,rfl⟩,Ta⟩
 simp only [PU] at Ta
 have HX3:=Lib.hid hx3
 clear hx3 k11 k13
 have HT:=Lib.hid Ta
 clear Ta
 go_wp2_with fail
 refine ⟨rfl,?_⟩
 go_wp2
 exact bodyPost_end (results_none rfl _ _ _) rfl ⟨_,⟨rfl,g3,g2,HX3.out,HW.out,rfl⟩,HT.out.pick [0,1,2] rfl⟩
end
end
section
open Go.RowKit Go.Shelf
section
variable {L:Lay} {x:CoreS} {ws:List WheelS} {p:PipeS} {e:ET} {g gC gK gF:List Blk} {kb:Nat} {pv sv:Value} {k:TurnS}
set_option maxRecDepth 100000 in
theorem tLeaves (L:Lay) (kb:Nat) (pv:Value):DoesG Tryz.prog 214 #[ptr' kb] [] fun en gs=>∃ g' l,SRT L kb pv leavesT en g' l∧gs=[g',l]:=by
 intro w hw
 have T0:=TG.refl hw
 have HT:=Lib.hid T0
 clear hw T0
 go_enter Tryz.func214,Tryz.ntmps214
 go_wp2_with fail
 refine (DoesG.use (Cli.row_1 (b:=w.heap.size+1+1) (o:=0) (D:=#[.func (.func 240) #[] #[ptr' w.heap.size],.func (.func 241) #[] #[ptr' w.heap.size]]) rfl 2 (.inr rfl)) (((HT.out.alloc (k:=w.heap.size) rfl _ _).alloc (k:=w.heap.size+1) (by simp) _ _).alloc (k:=w.heap.size+1+1) (by simp) _ _) [2] rfl rfl).mono ?_
 rintro e w1 ⟨gs,⟨bf,bl,bi,rfl,rfl⟩,Ta⟩
 simp only [PU] at Ta
 have HT:=Lib.hid Ta
 clear Ta
 have e0:=HT.out.cell 1 0 rfl 0
 have fe0:=HT.out.free 1 0 rfl 0
 have e1:=HT.out.cell 1 0 rfl 1
 have fe1:=HT.out.free 1 0 rfl 1
 simp only [GE4] at e0 e1
 go_wp2
 exact bodyPost_ret (v:=.agg #[.nilFunc,_]) (by simp [results,Tryz.results214,go_sem,e0,e1]) rfl ⟨_,⟨_,[cl w.heap.size 56 #[ptr' kb]],⟨_,_,rfl,fun e he=>⟨rfl,bf,bl,bi,w.heap.size+1+1,.func (.func 240) #[] #[ptr' w.heap.size],.func (.func 241) #[] #[ptr' w.heap.size],[],[],rfl,⟨rfl,w.heap.size,rfl,he _ (by simp)⟩,⟨rfl,w.heap.size,rfl,he _ (by simp)⟩,rfl⟩⟩,rfl⟩,(((HT.out.set 1 0 rfl 0 _).set 1 0 rfl 1 _).pick [2,3,4,5,0] rfl).sum⟩
set_option maxRecDepth 100000 in
theorem tRefuse (hx:isCore L x gC) (er:Int) (hn:x.tr.length≤1000000):DoesG Tryz.prog 178 #[ptr' kb,.int .i64 er] [turnB kb L.fb pv sv k,gC] fun en gs =>
 ∃ g' l gC',SRT L kb pv leavesT en g' l∧isCore L { x with tr:=x.tr++[evT k { ev0 with kind:=9,err:=er }] } gC'∧gs=[g',l,turnB kb L.fb pv sv { k with err:=er,ok:=false },gC']:=by
 have HN:=Lib.hid (turnNote (kb:=kb) (pv:=pv) (sv:=sv) (k:=k) hx { ev0 with kind:=9,err:=er } hn)
 clear hx hn
 intro w hw
 have T0:=TG.refl hw
 have HT:=Lib.hid T0
 clear hw T0
 have lt:=HT.out.lt 0 0 rfl
 simp only [] at lt
 go_enter Tryz.func178,Tryz.ntmps178
 go_wp2_with fail
 refine (DoesG.use (HN.out) (HT.out.alloc (k:=w.heap.size) rfl 148 #[.nilFunc,.nilFunc]) [0,1] rfl rfl).mono ?_
 rintro e w1 ⟨gs,⟨rfl,g1,hx1,rfl⟩,Ta⟩
 simp only [PU] at Ta
 have HX:=Lib.hid hx1
 clear hx1
 have HT:=Lib.hid Ta
 clear Ta
 have k3:=HT.out.cell 0 0 rfl 3
 have fk3:=HT.out.free 0 0 rfl 3
 have k4:=HT.out.cell 0 0 rfl 4
 have fk4:=HT.out.free 0 0 rfl 4
 have k5:=HT.out.cell 0 0 rfl 5
 have fk5:=HT.out.free 0 0 rfl 5
 have k6:=HT.out.cell 0 0 rfl 6
 have fk6:=HT.out.free 0 0 rfl 6
 have k7:=HT.out.cell 0 0 rfl 7
 have fk7:=HT.out.free 0 0 rfl 7
 simp only [turnC,GE3] at k3 k4 k5 k6 k7
 go_wp2_with fail
 refine (DoesG.use (tLeaves L kb pv) (((((((HT.out.set 0 0 rfl 3 (.int .i64 er)).set 0 0 rfl 4 (.bool false)).set 0 0 rfl 5 (.int .u64 0)).set 0 0 rfl 6 (.int .u64 0)).set 0 0 rfl 7 (.slice none 0 0)).eq (H':=[turnB kb L.fb pv sv { k with err:=er,ok:=false },g1,[cl w.heap.size 148 #[.nilFunc,.nilFunc]]]) rfl)) [] rfl rfl).mono ?_
 rintro e w1 ⟨gs,⟨g2,l2,⟨m2,d2,rfl,hs2⟩,rfl⟩,Ta⟩
 simp only [PU] at Ta
 have HT:=Lib.hid Ta
 clear Ta
 have r0:=HT.out.cell 2 0 rfl 0
 have fr0:=HT.out.free 2 0 rfl 0
 have r1:=HT.out.cell 2 0 rfl 1
 have fr1:=HT.out.free 2 0 rfl 1
 simp only [GE4] at r0 r1
 have hv2:=(cliT_vals L kb pv (l2,[])).vals (hs2 (l2,[]) (fun _ h=>h))
 obtain ⟨st1,st2⟩:=Cli.store_fv2 (P:=Tryz.prog) hv2.1 hv2.2 r0 fr0 r1 fr1
 have HS:=Lib.hid hs2
 clear hv2 hs2
 go_wp2
 exact bodyPost_ret (v:=.agg #[_,_]) (by simp [results,Tryz.results178,go_sem,r0,r1]) rfl ⟨_,⟨g2,l2,g1,⟨m2,d2,rfl,HS.out⟩,HX.out,rfl⟩,((HT.out.set 2 0 rfl 0 _).set 2 0 rfl 1 _).pick [3,4,0,1] rfl⟩
set_option maxRecDepth 100000 in
theorem tEnter (hz:repT L kb pv e ⟨k,x,ws,p⟩ gK gF) (hp:preT .enter ⟨k,x,ws,p⟩):DoesG Tryz.prog 99 #[ptr' kb] [gK,gF] (MRT L kb pv e (runT .enter ⟨k,x,ws,p⟩).1 (runT .enter ⟨k,x,ws,p⟩).2):=by
 have hi0:=hp.1.core.i0
 have hi1:=hp.1.core.i1
 simp only at hi0 hi1
 clear hp
 unfold MRT
 dsimp only [runT]
 obtain ⟨gd,gC,gW,gP,hd,hx,hw,hpp,rfl,rfl⟩:=hz
 intro w hw
 have T0:=TG.refl hw
 have HT:=Lib.hid T0
 clear hw T0
 have HT:=Lib.hid (HT.out.sum (H':=[turnB kb L.fb pv (sVal L k) k,gd,e.1,gC,gW,gP]))
 have HX:=Lib.hid hx
 have HD:=Lib.hid hd
 have HW:=Lib.hid hw
 have HPP:=Lib.hid hpp
 clear hx hd hw hpp
 have k0:=HT.out.cell 0 0 rfl 0
 simp only [turnC,GE3] at k0
 have lt:=HT.out.lt 0 0 rfl
 simp only [] at lt
 have HE:=Lib.hid (coreEnter HX.out ⟨hi0,hi1⟩)
 clear hi0 hi1
 go_enter Tryz.func99,Tryz.ntmps99
 go_wp2_with fail
 refine (DoesG.use (HE.out) (HT.out.alloc (k:=w.heap.size) rfl _ _) [3] rfl rfl).mono ?_
 rintro e w1 ⟨gs,⟨rfl,g1,hx1,rfl⟩,Ta⟩
 simp only [PU] at Ta
 have HX:=Lib.hid hx1
 clear hx1 k0 lt
 have HT:=Lib.hid Ta
 clear Ta
 go_wp2_with fail
 refine (DoesG.use (at_g _ _ _) (HT.out) [] rfl rfl).mono ?_
 rintro e w1 ⟨gs,⟨rfl,rfl⟩,Ta⟩
 simp only [PU] at Ta
 have HT:=Lib.hid Ta
 clear Ta
 have r0:=HT.out.cell 6 0 rfl 0
 have fr0:=HT.out.free 6 0 rfl 0
 have r1:=HT.out.cell 6 0 rfl 1
 have fr1:=HT.out.free 6 0 rfl 1
 simp only [GE4] at r0 r1
 go_wp2
 exact bodyPost_ret (v:=.agg #[_,_]) (by simp [results,Tryz.results99,go_sem,r0,r1]) rfl ⟨_,⟨e,leT.refl e,_,_,[],_,_,rfl,⟨rfl,rfl,rfl⟩,⟨gd,_,gW,gP,HD.out,HX.out,HW.out,HPP.out,rfl,rfl⟩,rfl⟩,(((HT.out.set 6 0 rfl 0 _).set 6 0 rfl 1 _).pick [0,1,2,3,4,5] rfl).sum⟩
set_option maxRecDepth 100000 in
theorem tGate (hz:repT L kb pv e ⟨k,x,ws,p⟩ gK gF) (hp:preT .gate ⟨k,x,ws,p⟩):DoesG Tryz.prog 147 #[ptr' kb] [gK,gF] (MRT L kb pv e (runT .gate ⟨k,x,ws,p⟩).1 (runT .gate ⟨k,x,ws,p⟩).2):=by
 have HLN:=Lib.hid hp.1.core.tr
 simp only at HLN
 clear hp
 cases hc:x.f.closed with
 | false =>
   have he:runT .gate ⟨k,x,ws,p⟩=(.at none .tick,⟨k,x,ws,p⟩):=by simp [runT,hc]
   rw [he]
   clear he
   unfold MRT
   obtain ⟨gd,gC,gW,gP,hd,hx,hw,hpp,rfl,rfl⟩:=hz
   intro w hw
   have T0:=TG.refl hw
   have HT:=Lib.hid T0
   clear hw T0
   have HT:=Lib.hid (HT.out.sum (H':=[turnB kb L.fb pv (sVal L k) k,gd,e.1,gC,gW,gP]))
   have HX:=Lib.hid hx
   have HD:=Lib.hid hd
   have HW:=Lib.hid hw
   have HPP:=Lib.hid hpp
   clear hx hd hw hpp
   have k0:=HT.out.cell 0 0 rfl 0
   simp only [turnC,GE3] at k0
   have lt:=HT.out.lt 0 0 rfl
   simp only [] at lt
   have hcl:=coreClosed HX.out
   rw [hc] at hcl
   have HCL:=Lib.hid hcl
   clear hcl hc
   go_enter Tryz.func147,Tryz.ntmps147
   go_wp2_with fail
   refine (DoesG.use (HCL.out) (HT.out.alloc (k:=w.heap.size) rfl _ _) [3] rfl rfl).mono ?_
   rintro e w1 ⟨gs,⟨rfl,g1,hx1,rfl⟩,Ta⟩
   simp only [PU] at Ta
   have HX:=Lib.hid hx1
   clear hx1 k0 lt
   have HT:=Lib.hid Ta
   clear Ta
   go_wp2_with fail
   refine (DoesG.use (at_g _ _ _) (HT.out) [] rfl rfl).mono ?_
   rintro e w1 ⟨gs,⟨rfl,rfl⟩,Ta⟩
   simp only [PU] at Ta
   have HT:=Lib.hid Ta
   clear Ta
   have r0:=HT.out.cell 6 0 rfl 0
   have fr0:=HT.out.free 6 0 rfl 0
   have r1:=HT.out.cell 6 0 rfl 1
   have fr1:=HT.out.free 6 0 rfl 1
   simp only [GE4] at r0 r1
   go_wp2
   exact bodyPost_ret (v:=.agg #[_,_]) (by simp [results,Tryz.results147,go_sem,r0,r1]) rfl ⟨_,⟨e,leT.refl e,_,_,[],_,_,rfl,⟨rfl,rfl,rfl⟩,⟨gd,_,gW,gP,HD.out,HX.out,HW.out,HPP.out,rfl,rfl⟩,rfl⟩,(((HT.out.set 6 0 rfl 0 _).set 6 0 rfl 1 _).pick [0,1,2,3,4,5] rfl).sum⟩
 | true =>
   have he:runT .gate ⟨k,x,ws,p⟩=(leavesT,⟨{ k with err:=3,ok:=false },{ x with tr:=x.tr++[evT k { ev0 with kind:=9,err:=3 }] },ws,p⟩):=by
    simp [runT,hc,refuseT,ZT.note]
   rw [he]
   clear he
   unfold MRT
   obtain ⟨gd,gC,gW,gP,hd,hx,hw,hpp,rfl,rfl⟩:=hz
   intro w hw
   have T0:=TG.refl hw
   have HT:=Lib.hid T0
   clear hw T0
   have HT:=Lib.hid (HT.out.sum (H':=[turnB kb L.fb pv (sVal L k) k,gd,e.1,gC,gW,gP]))
   have HX:=Lib.hid hx
   have HD:=Lib.hid hd
   have HW:=Lib.hid hw
   have HPP:=Lib.hid hpp
   clear hx hd hw hpp
   have k0:=HT.out.cell 0 0 rfl 0
   simp only [turnC,GE3] at k0
   have lt:=HT.out.lt 0 0 rfl
   simp only [] at lt
   have hcl:=coreClosed HX.out
   rw [hc] at hcl
   have HCL:=Lib.hid hcl
   clear hcl hc
   go_enter Tryz.func147,Tryz.ntmps147
   go_wp2_with fail
   refine (DoesG.use (HCL.out) (HT.out.alloc (k:=w.heap.size) rfl _ _) [3] rfl rfl).mono ?_
   rintro e w1 ⟨gs,⟨rfl,g1,hx1,rfl⟩,Ta⟩
   simp only [PU] at Ta
   have HX:=Lib.hid hx1
   clear hx1 k0 lt
   have HT:=Lib.hid Ta
   clear Ta
   go_wp2_with fail
   refine (DoesG.use (tRefuse HX.out 3 HLN.out) (HT.out) [0,3] rfl rfl).mono ?_
   rintro e w1 ⟨gs,⟨g2,l2,g3,⟨m2,d2,rfl,hs2⟩,hx3,rfl⟩,Ta⟩
   simp only [PU] at Ta
   have HX:=Lib.hid hx3
   clear hx3
   have HT:=Lib.hid Ta
   clear Ta
   have r0:=HT.out.cell 6 0 rfl 0
   have fr0:=HT.out.free 6 0 rfl 0
   have r1:=HT.out.cell 6 0 rfl 1
   have fr1:=HT.out.free 6 0 rfl 1
   simp only [GE4] at r0 r1
   have hv2:=(cliT_vals L kb pv (l2,[])).vals (hs2 (l2,[]) (fun _ h=>h))
   obtain ⟨st1,st2⟩:=Cli.store_fv2 (P:=Tryz.prog) hv2.1 hv2.2 r0 fr0 r1 fr1
   have HS:=Lib.hid hs2
   clear hv2 hs2
   go_wp2
   exact bodyPost_ret (v:=.agg #[_,_]) (by simp [results,Tryz.results147,go_sem,r0,r1]) rfl ⟨_,⟨(e.1++l2,e.2),leT.app e l2,m2,d2,g2,_,_,rfl,HS.out _ (fun b hb=>List.mem_append_right _ hb),⟨gd,g3,gW,gP,HD.out,HX.out,HW.out,HPP.out,rfl,rfl⟩,rfl⟩,(((HT.out.set 6 0 rfl 0 _).set 6 0 rfl 1 _).pick [0,7,1,2,3,8,4,5] rfl).sum (H':=[g2,turnB kb L.fb pv (sVal L k) { k with err:=3,ok:=false }++(gd++(e.1++l2)),g3++(gW++gP)])⟩
set_option maxRecDepth 100000 in
theorem tOne (kb:Nat):DoesG Tryz.prog 243 #[ptr' kb] [] fun en gs=>∃ bk bd,en=.returned (.agg #[.func (.func 254) #[] #[ptr' bk],.func (.func 256) #[] #[ptr' bk,ptr' bd]]) ∧
 gs=[[cl bk 56 #[ptr' kb]],[cl bd 343 #[.slice none 0 0]]]:=by
 intro w hw
 have T0:=TG.refl hw
 have HT:=Lib.hid T0
 clear hw T0
 go_enter Tryz.func243,Tryz.ntmps243
 go_wp2_with fail
 refine (DoesG.use (until_g _ _ _ _ _ _) (((HT.out.alloc (k:=w.heap.size) rfl _ _).alloc (k:=w.heap.size+1) (by simp) _ _).alloc (k:=w.heap.size+1+1) (by simp) _ _) [] rfl rfl).mono ?_
 rintro e w1 ⟨gs,⟨rfl,rfl⟩,Ta⟩
 simp only [PU] at Ta
 have HT:=Lib.hid Ta
 clear Ta
 have r0:=HT.out.cell 1 0 rfl 0
 have fr0:=HT.out.free 1 0 rfl 0
 have r1:=HT.out.cell 1 0 rfl 1
 have fr1:=HT.out.free 1 0 rfl 1
 simp only [GE4] at r0 r1
 go_wp2
 exact bodyPost_ret (v:=.agg #[_,_]) (by simp [results,Tryz.results243,go_sem,r0,r1]) rfl ⟨_,⟨w.heap.size,w.heap.size+1+1,rfl,rfl⟩,((HT.out.set 1 0 rfl 0 _).set 1 0 rfl 1 _).pick [0,2] rfl⟩
theorem shard_none {i:Nat} (hx:isCore L x gC) (hi:¬ i<x.shs.length):shardV (L.qs.map ShP.b) i=.pointer none:=by
 obtain ⟨tr,gF,gS,gR,gH,gT,h1,h2,h3,h4,h5,h6,rfl⟩:=hx
 unfold shardV
 rw [if_neg (by simp;omega)]
def ShR (L:Lay) (kb:Nat) (pv:Value) (e:ET) (s:ST) (z:ZT) (en:Ending) (gs:GH):Prop :=
 ∃ (l:List Blk) (ds:List Nat) (m d:Value) (g' gd' gC':List Blk),en=.returned (.agg #[m,d])∧(∀ e1:ET,(∀ b∈l,b∈e1.1)→e1.2=ds→(cliT L kb pv).SV e1 s m d g')∧isDue ds z.k gd'∧leT e (e.1++l,ds)∧isCore L z.x gC' ∧
   gs=[g',l,turnB kb L.fb pv (sVal L z.k) z.k,gd',gC']
set_option maxRecDepth 100000 in
set_option maxHeartbeats 4000000 in
theorem tShards {gd:List Blk} (hx:isCore L x gC) (hd:isDue e.2 k gd) (i:Nat) (hi:i≤65):DoesG Tryz.prog 216 #[ptr' kb,.int .i64 i] [turnB kb L.fb pv (sVal L k) k,gd,gC]
 (ShR L kb pv e (shardsT i ⟨k,x,ws,p⟩).1 (shardsT i ⟨k,x,ws,p⟩).2):=by
 have HX:=Lib.hid hx
 have HD:=Lib.hid hd
 have hsh:=coreShardAt_r hx i
 unfold ShR
 by_cases hlt:i<x.shs.length
 ·obtain ⟨q,hq,hv⟩:=core_q hx hlt
  rw [hv] at hsh
  have HSH:=Lib.hid hsh
  have he:shardsT i ⟨k,x,ws,p⟩=(.thn (.at (some .lock) (.one2 k.nd)) (.shards1 i),⟨{ k with s:=some i,nd:=k.nd+1,due:=[] },x,ws,p⟩):=if_pos hlt
  rw [he]
  dsimp only
  have hsv:sVal L ({ k with s:=some i,nd:=k.nd+1,due:=[] }:TurnS)=ptr' q.b:=by simp [sVal,hq]
  rw [hsv]
  clear he hsh hv hlt hx hd hq hsv
  intro w hw
  have T0:=TG.refl hw
  have HT:=Lib.hid T0
  clear hw T0
  go_enter Tryz.func216,Tryz.ntmps216
  go_wp2_with fail
  have HT:=Lib.hid (((HT.out.alloc (k:=w.heap.size) rfl 56 #[ptr' kb]).alloc (k:=w.heap.size+1) (by simp) 3 #[.int .i64 i]).alloc (k:=w.heap.size+1+1) (by simp) 148 #[.nilFunc,.nilFunc])
  obtain ⟨b1,hb1⟩:∃ b1,b1=w.heap.size:=⟨_,rfl⟩
  obtain ⟨b2,hb2⟩:∃ b2,b2=w.heap.size+1:=⟨_,rfl⟩
  obtain ⟨b3,hb3⟩:∃ b3,b3=w.heap.size+1+1:=⟨_,rfl⟩
  rw [← hb3,← hb2,← hb1] at HT ⊢
  clear hb1 hb2 hb3
  generalize World.alloc (World.alloc (World.alloc w _) _) _=w1 at HT ⊢
  have k0:=HT.out.cell 0 0 rfl 0
  simp only [turnC,GE3] at k0
  have a0:=HT.out.cell 3 0 rfl 0
  simp only [GE4] at a0
  have b0:=HT.out.cell 4 0 rfl 0
  simp only [GE4] at b0
  go_quiet ((first | (go_at_call 20;with_reducible exact ReadsG.quiet (HSH.out) HT.out _ [2] rfl rfl)))
  have HT:=Lib.hid (HT.out.drewN nq)
  clear k0 a0 b0
  have k10:=HT.out.cell 0 0 rfl 10
  have fk10:=HT.out.free 0 0 rfl 10
  simp only [turnC,GE3] at k10
  have a0:=HT.out.cell 3 0 rfl 0
  simp only [GE4] at a0
  go_wp2_with fail
  refine (DoesG.use (tOne kb) (((HT.out.set 0 0 rfl 10 (ptr' q.b)).eq (H':=[turnB kb L.fb pv (ptr' q.b) k,gd,gC,[cl b1 56 #[ptr' kb]],[cl b2 3 #[.int .i64 i]],[cl b3 148 #[.nilFunc,.nilFunc]]]) rfl)) [] rfl rfl).mono ?_
  rintro e w1 ⟨gs,⟨bk2,bd,rfl,rfl⟩,Ta⟩
  simp only [PU] at Ta
  clear k10 fk10 a0
  have HT:=Lib.hid Ta
  clear Ta
  have HDS:=Lib.hid (show (e.2++[bd])[k.nd]?=some bd from by
   have:=HD.out.1
   rw [List.getElem?_append_right (by omega)]
   simp [this])
  go_wp2_with fail
  refine (DoesG.use (Cli.prog_then_x (c:=(cliT L kb pv).on ([cl bk2 56 #[ptr' kb],cl b1 56 #[ptr' kb],cl b2 3 #[.int .i64 i]],e.2++[bd])) (s:=.at (some .lock) (.one2 k.nd)) (f:=MT.shards1 i) (v:=.func (.func 244) #[] #[ptr' b1,ptr' b2]) (g:=[]) (gm:=[]) (cliT_vals L kb pv _) rfl ⟨[],[],⟨rfl,bk2,rfl,by simp [kBox]⟩,⟨rfl,bk2,bd,rfl,by simp [kBox],HDS.out⟩,rfl⟩ ⟨rfl,b1,b2,rfl,by simp [kBox],by simp⟩) (HT.out.sum (H':=[turnB kb L.fb pv (ptr' q.b) k,gd,gC,[cl b1 56 #[ptr' kb]],[cl b2 3 #[.int .i64 i]],[cl b3 148 #[.nilFunc,.nilFunc]],[cl bk2 56 #[ptr' kb]],[cl bd 343 #[.slice none 0 0]],[],[]])) [8,9] rfl rfl).mono ?_
  rintro e w1 ⟨gs,⟨bs,br,rfl,rfl⟩,Ta⟩
  simp only [PU] at Ta
  have HT:=Lib.hid Ta
  clear Ta
  have r0:=HT.out.cell 5 0 rfl 0
  have fr0:=HT.out.free 5 0 rfl 0
  have r1:=HT.out.cell 5 0 rfl 1
  have fr1:=HT.out.free 5 0 rfl 1
  simp only [GE4] at r0 r1
  go_wp2
  exact bodyPost_ret (v:=.agg #[_,_]) (by simp [results,Tryz.results216,go_sem,r0,r1]) rfl ⟨_,⟨[cl bk2 56 #[ptr' kb],cl b1 56 #[ptr' kb],cl b2 3 #[.int .i64 i]],e.2++[bd],_,_,_,[cl bd 343 #[.slice none 0 0]],gC,rfl,fun e1 he hd2=>⟨bs,br,_,_,[],[],rfl,rfl,⟨[],[],⟨rfl,bk2,rfl,he _ (by simp)⟩,⟨rfl,bk2,bd,rfl,he _ (by simp),by rw [hd2];exact HDS.out⟩,rfl⟩,⟨rfl,b1,b2,rfl,he _ (by simp),he _ (by simp)⟩,rfl⟩,
   ⟨by simp [HD.out.1],.inr ⟨k.nd,bd,.slice none 0 0,[],rfl,HDS.out,rowG_nil _ _,rfl⟩⟩,leT.app2 e _ bd,HX.out,rfl⟩,(((HT.out.set 5 0 rfl 0 _).set 5 0 rfl 1 _).pick [8,6,3,4,0,7,2] rfl).sum (H':=[[cl bs 148 #[.func (.func 254) #[] #[ptr' bk2],.func (.func 256) #[] #[ptr' bk2,ptr' bd]],cl br 146 #[.func (.func 244) #[] #[ptr' b1,ptr' b2]]]++[]++[],[cl bk2 56 #[ptr' kb],cl b1 56 #[ptr' kb],cl b2 3 #[.int .i64 i]],turnB kb L.fb pv (ptr' q.b) k,[cl bd 343 #[.slice none 0 0]],gC])⟩
 ·rw [shard_none hx hlt] at hsh
  have HSH:=Lib.hid hsh
  have he:shardsT i ⟨k,x,ws,p⟩=(leavesT,⟨{ k with err:=0,ok:=true },x,ws,p⟩):=if_neg hlt
  rw [he]
  dsimp only
  clear he hsh hlt hx hd
  intro w hw
  have T0:=TG.refl hw
  have HT:=Lib.hid T0
  clear hw T0
  go_enter Tryz.func216,Tryz.ntmps216
  go_wp2_with fail
  have HT:=Lib.hid (((HT.out.alloc (k:=w.heap.size) rfl 56 #[ptr' kb]).alloc (k:=w.heap.size+1) (by simp) 3 #[.int .i64 i]).alloc (k:=w.heap.size+1+1) (by simp) 148 #[.nilFunc,.nilFunc])
  obtain ⟨b1,hb1⟩:∃ b1,b1=w.heap.size:=⟨_,rfl⟩
  obtain ⟨b2,hb2⟩:∃ b2,b2=w.heap.size+1:=⟨_,rfl⟩
  obtain ⟨b3,hb3⟩:∃ b3,b3=w.heap.size+1+1:=⟨_,rfl⟩
  rw [← hb3,← hb2,← hb1] at HT ⊢
  clear hb1 hb2 hb3
  generalize World.alloc (World.alloc (World.alloc w _) _) _=w1 at HT ⊢
  have k0:=HT.out.cell 0 0 rfl 0
  simp only [turnC,GE3] at k0
  have a0:=HT.out.cell 3 0 rfl 0
  simp only [GE4] at a0
  have b0:=HT.out.cell 4 0 rfl 0
  simp only [GE4] at b0
  go_quiet ((first | (go_at_call 20;with_reducible exact ReadsG.quiet (HSH.out) HT.out _ [2] rfl rfl)))
  have HT:=Lib.hid (HT.out.drewN nq)
  clear k0 a0 b0
  have k3:=HT.out.cell 0 0 rfl 3
  have fk3:=HT.out.free 0 0 rfl 3
  have k4:=HT.out.cell 0 0 rfl 4
  have fk4:=HT.out.free 0 0 rfl 4
  have k5:=HT.out.cell 0 0 rfl 5
  have fk5:=HT.out.free 0 0 rfl 5
  have k6:=HT.out.cell 0 0 rfl 6
  have fk6:=HT.out.free 0 0 rfl 6
  have k7:=HT.out.cell 0 0 rfl 7
  have fk7:=HT.out.free 0 0 rfl 7
  simp only [turnC,GE3] at k3 k4 k5 k6 k7
  have a0:=HT.out.cell 3 0 rfl 0
  simp only [GE4] at a0
  have ne1:=HT.out.ne 0 0 3 0 (by decide) rfl rfl
  simp only [] at ne1
  have ne2:=Ne.symm ne1
  go_wp2_with fail
  refine (DoesG.use (tLeaves L kb pv) (((((((HT.out.set 0 0 rfl 3 (.int .i64 0)).set 0 0 rfl 4 (.bool true)).set 0 0 rfl 5 (.int .u64 0)).set 0 0 rfl 6 (.int .u64 0)).set 0 0 rfl 7 (.slice none 0 0)).eq (H':=[turnB kb L.fb pv (sVal L k) { k with err:=0,ok:=true },gd,gC,[cl b1 56 #[ptr' kb]],[cl b2 3 #[.int .i64 i]],[cl b3 148 #[.nilFunc,.nilFunc]]]) rfl)) [] rfl rfl).mono ?_
  rintro e w1 ⟨gs,⟨g2,l2,⟨m2,d2,rfl,hs2⟩,rfl⟩,Ta⟩
  simp only [PU] at Ta
  clear k3 k4 k5 k6 k7 fk3 fk4 fk5 fk6 fk7 a0 ne1 ne2
  have HT:=Lib.hid Ta
  clear Ta
  have r0:=HT.out.cell 5 0 rfl 0
  have fr0:=HT.out.free 5 0 rfl 0
  have r1:=HT.out.cell 5 0 rfl 1
  have fr1:=HT.out.free 5 0 rfl 1
  simp only [GE4] at r0 r1
  have hv2:=(cliT_vals L kb pv (l2,[])).vals (hs2 (l2,[]) (fun _ h=>h))
  obtain ⟨st1,st2⟩:=Cli.store_fv2 (P:=Tryz.prog) hv2.1 hv2.2 r0 fr0 r1 fr1
  have HS:=Lib.hid hs2
  clear hv2 hs2
  go_wp2
  exact bodyPost_ret (v:=.agg #[_,_]) (by simp [results,Tryz.results216,go_sem,r0,r1]) rfl ⟨_,⟨l2,e.2,m2,d2,g2,gd,gC,rfl,fun e1 he _=>HS.out e1 he,HD.out,leT.app e l2,HX.out,rfl⟩,(((HT.out.set 5 0 rfl 0 _).set 5 0 rfl 1 _).pick [6,7,0,1,2] rfl).eq rfl⟩
set_option maxRecDepth 100000 in
theorem tShards1 (i:Nat) (hz:repT L kb pv e ⟨k,x,ws,p⟩ gK gF) (hp:preT (.shards1 i) ⟨k,x,ws,p⟩) (bk bi:Nat) (hb:kBox kb bk e) (hbi:cl bi 3 #[.int .i64 (i:Nat)]∈e.1) :
 DoesG Tryz.prog 244 #[ptr' bk,ptr' bi] [gK,gF] (MRT L kb pv e (runT (.shards1 i) ⟨k,x,ws,p⟩).1 (runT (.shards1 i) ⟨k,x,ws,p⟩).2):=by
 have hi:i≤64:=hp.2
 clear hp
 unfold MRT
 have hws:(runT (.shards1 i) ⟨k,x,ws,p⟩).2.ws=ws∧(runT (.shards1 i) ⟨k,x,ws,p⟩).2.p=p:=by
  dsimp only [runT,shardsT]
  split <;> exact ⟨rfl,rfl⟩
 obtain ⟨gd,gC,gW,gP,hd,hx,hw,hpp,rfl,rfl⟩:=hz
 have hsh:=tShards (kb:=kb) (pv:=pv) (ws:=ws) (p:=p) hx hd (i+1) (by omega)
 unfold ShR at hsh
 have hcast:((i+1:Nat):Int)=(i:Int)+1:=by omega
 rw [hcast] at hsh
 rw [show shardsT (i+1) ⟨k,x,ws,p⟩=runT (.shards1 i) ⟨k,x,ws,p⟩ from rfl] at hsh
 generalize runT (.shards1 i) ⟨k,x,ws,p⟩=R at *
 obtain ⟨s',⟨k',x',ws',p'⟩⟩:=R
 simp only at hws hsh ⊢
 obtain ⟨rfl,rfl⟩:=hws
 intro w hw
 have T0:=TG.refl hw
 have HT:=Lib.hid T0
 clear hw T0
 have HT:=Lib.hid (HT.out.sum (H':=[turnB kb L.fb pv (sVal L k) k,gd,e.1,gC,gW,gP]))
 have HSH:=Lib.hid hsh
 have HW:=Lib.hid hw
 have HPP:=Lib.hid hpp
 have b0:=HT.out.mem_cell 2 hb 0
 have i0:=HT.out.mem_cell 2 hbi 0
 have ltb:=HT.out.mem_lt 2 hb
 have lti:=HT.out.mem_lt 2 hbi
 simp only [GE2] at b0 i0 ltb lti
 clear hx hd hw hpp hsh hb hbi
 go_enter Tryz.func244,Tryz.ntmps244
 go_wp2_with fail
 refine (DoesG.use (HSH.out) (HT.out.alloc (k:=w.heap.size) rfl _ _) [0,1,3] rfl rfl).mono ?_
 rintro e w1 ⟨gs,⟨l2,ds2,m2,d2,g2,gd2,gC2,rfl,hs2,hd2,hl2,hx2,rfl⟩,Ta⟩
 simp only [PU] at Ta
 clear b0 i0 ltb lti
 have HT:=Lib.hid Ta
 clear Ta
 have hv2:=(cliT_vals L kb pv (l2,ds2)).vals (hs2 (l2,ds2) (fun _ h=>h) rfl)
 have r0:=HT.out.cell 6 0 rfl 0
 have fr0:=HT.out.free 6 0 rfl 0
 have r1:=HT.out.cell 6 0 rfl 1
 have fr1:=HT.out.free 6 0 rfl 1
 simp only [GE4] at r0 r1
 obtain ⟨st1,st2⟩:=Cli.store_fv2 (P:=Tryz.prog) hv2.1 hv2.2 r0 fr0 r1 fr1
 have HS:=Lib.hid hs2
 have HD2:=Lib.hid hd2
 have HL2:=Lib.hid hl2
 have HX2:=Lib.hid hx2
 clear hv2 hs2 hd2 hl2 hx2
 go_wp2
 exact bodyPost_ret (v:=.agg #[_,_]) (by simp [results,Tryz.results244,go_sem,r0,r1]) rfl ⟨_,⟨(e.1++l2,ds2),HL2.out,m2,d2,g2,_,_,rfl,HS.out _ (fun b hb=>List.mem_append_right _ hb) rfl,⟨gd2,gC2,gW,gP,HD2.out,HX2.out,HW.out,HPP.out,rfl,rfl⟩,rfl⟩,(((HT.out.set 6 0 rfl 0 _).set 6 0 rfl 1 _).pick [0,3,7,2,1,8,4,5] rfl).sum⟩
set_option maxRecDepth 100000 in
set_option maxHeartbeats 4000000 in
theorem tTick (hz:repT L kb pv e ⟨k,x,ws,p⟩ gK gF) (hp:preT .tick ⟨k,x,ws,p⟩):DoesG Tryz.prog 179 #[ptr' kb] [gK,gF] (MRT L kb pv e (runT .tick ⟨k,x,ws,p⟩).1 (runT .tick ⟨k,x,ws,p⟩).2):=by
 have hn:0≤x.f.now∧x.f.now<9223372036854775807:=by have:=hp.1.now;simp only at this;omega
 have hnn:=hp.1.now.1
 have htr:=hp.1.core.tr
 simp only at htr hnn
 clear hp
 unfold MRT
 have hws:(runT .tick ⟨k,x,ws,p⟩).2.ws=ws∧(runT .tick ⟨k,x,ws,p⟩).2.p=p:=by
  dsimp only [runT,shardsT]
  split <;> exact ⟨rfl,rfl⟩
 obtain ⟨gd,gC,gW,gP,hd,hx,hw,hpp,rfl,rfl⟩:=hz
 have HTN:=Lib.hid (coreTurn hx hn)
 have HNT:=Lib.hid (show ∀ g,isCore L { x with f:={ x.f with now:=x.f.now+1 } } g→_ from fun g hg=>turnNote (kb:=kb) (pv:=pv) (sv:=sVal L k) (k:={ k with now:=x.f.now+1 }) (gC:=g) hg { ev0 with kind:=11,tick:=x.f.now+1 } htr)
 have hsh:∀ g,isCore L { x with f:={ x.f with now:=x.f.now+1 },tr:=x.tr++[evT k { ev0 with kind:=11,tick:=x.f.now+1 }] } g→_:=fun g hg=>tShards (kb:=kb) (pv:=pv) (ws:=ws) (p:=p) (e:=e) (k:={ k with now:=x.f.now+1 }) (gd:=gd) hg hd 0 (by decide)
 unfold ShR at hsh
 rw [show shardsT 0 ⟨{ k with now:=x.f.now+1 },{ x with f:={ x.f with now:=x.f.now+1 },tr:=x.tr++[evT k { ev0 with kind:=11,tick:=x.f.now+1 }] },ws,p⟩=runT .tick ⟨k,x,ws,p⟩ from rfl] at hsh
 generalize runT .tick ⟨k,x,ws,p⟩=R at *
 obtain ⟨s',⟨k',x',ws',p'⟩⟩:=R
 simp only at hws hsh ⊢
 obtain ⟨rfl,rfl⟩:=hws
 intro w hw
 have T0:=TG.refl hw
 have HT:=Lib.hid T0
 clear hw T0
 have HT:=Lib.hid (HT.out.sum (H':=[turnB kb L.fb pv (sVal L k) k,gd,e.1,gC,gW,gP]))
 have HSH:=Lib.hid hsh
 have HW:=Lib.hid hw
 have HPP:=Lib.hid hpp
 have k0:=HT.out.cell 0 0 rfl 0
 simp only [turnC,GE3] at k0
 have lt:=HT.out.lt 0 0 rfl
 simp only [] at lt
 clear hx hd hw hpp hsh htr
 go_enter Tryz.func179,Tryz.ntmps179
 go_wp2_with fail
 refine (DoesG.use (HTN.out) (HT.out.alloc (k:=w.heap.size) rfl _ _) [3] rfl rfl).mono ?_
 rintro e w1 ⟨gs,⟨rfl,g1,hx1,rfl⟩,Ta⟩
 simp only [PU] at Ta
 have HX:=Lib.hid hx1
 clear hx1 k0 lt
 have HT:=Lib.hid Ta
 clear Ta
 have k9:=HT.out.cell 0 0 rfl 9
 have fk9:=HT.out.free 0 0 rfl 9
 simp only [turnC,GE3] at k9
 go_wp2_with fail
 refine (DoesG.use (HNT.out _ HX.out) ((HT.out.set 0 0 rfl 9 (.int .u64 (x.f.now+1))).eq (H':=[turnB kb L.fb pv (sVal L k) { k with now:=x.f.now+1 },gd,e.1,g1,gW,gP,[cl w.heap.size 148 #[.nilFunc,.nilFunc]]]) rfl) [0,3] rfl rfl).mono ?_
 rintro e w1 ⟨gs,⟨rfl,g2,hx2,rfl⟩,Ta⟩
 simp only [PU] at Ta
 have HX2:=Lib.hid hx2
 clear hx2 k9 fk9
 have HT:=Lib.hid Ta
 clear Ta
 go_wp2_with fail
 refine (DoesG.use (HSH.out _ HX2.out) (HT.out) [0,1,3] rfl rfl).mono ?_
 rintro e w1 ⟨gs,⟨l2,ds2,m2,d2,g2,gd2,gC2,rfl,hs2,hd2,hl2,hx2,rfl⟩,Ta⟩
 simp only [PU] at Ta
 have HT:=Lib.hid Ta
 clear Ta
 have hv2:=(cliT_vals L kb pv (l2,ds2)).vals (hs2 (l2,ds2) (fun _ h=>h) rfl)
 have r0:=HT.out.cell 6 0 rfl 0
 have fr0:=HT.out.free 6 0 rfl 0
 have r1:=HT.out.cell 6 0 rfl 1
 have fr1:=HT.out.free 6 0 rfl 1
 simp only [GE4] at r0 r1
 obtain ⟨st1,st2⟩:=Cli.store_fv2 (P:=Tryz.prog) hv2.1 hv2.2 r0 fr0 r1 fr1
 have HS:=Lib.hid hs2
 have HD2:=Lib.hid hd2
 have HL2:=Lib.hid hl2
 have HX2:=Lib.hid hx2
 clear hv2 hs2 hd2 hl2 hx2
 go_wp2
 exact bodyPost_ret (v:=.agg #[_,_]) (by simp [results,Tryz.results179,go_sem,r0,r1]) rfl ⟨_,⟨(e.1++l2,ds2),HL2.out,m2,d2,g2,_,_,rfl,HS.out _ (fun b hb=>List.mem_append_right _ hb) rfl,⟨gd2,gC2,gW,gP,HD2.out,HX2.out,HW.out,HPP.out,rfl,rfl⟩,rfl⟩,(((HT.out.set 6 0 rfl 0 _).set 6 0 rfl 1 _).pick [0,3,7,2,1,8,4,5] rfl).sum⟩
end
end
section
open Go.RowKit Go.Shelf
theorem tasksV_at:∀ {l:List TaskS} {i:Nat} {t:TaskS},l[i]?=some t→∀ j,j<5→(tasksV l)[i*5+j]?=t.cells[j]?
 | [],i,t,h,j,hj=>by simp at h
 | a::l,0,t,h,j,hj=>by
   simp only [List.getElem?_cons_zero,Option.some.injEq] at h
   subst h
   show (a.cells.toList++flatV (l.map TaskS.cells))[0*5+j]?=_
   rw [List.getElem?_append_left (by show 0*5+j<5;omega)]
   simp
 | a::l,i+1,t,h,j,hj=>by
   simp only [List.getElem?_cons_succ] at h
   have:=tasksV_at h j hj
   show (a.cells.toList++flatV (l.map TaskS.cells))[(i+1)*5+j]?=_
   rw [List.getElem?_append_right (by show 5≤(i+1)*5+j;omega),show (i+1)*5+j - a.cells.toList.length=i*5+j from by show (i+1)*5+j - 5=_;omega]
   exact this
section
variable {L:Lay} {x:CoreS} {ws:List WheelS} {p:PipeS} {e:ET} {g gC gK gF:List Blk} {kb:Nat} {pv sv:Value} {k:TurnS}
set_option maxRecDepth 100000 in
theorem sPops {i:Nat} {q:ShP} (hq:L.qs[i]?=some q) (n:Int):DoesG Tryz.prog 259 #[ptr' kb,.int .i64 n] [turnB kb L.fb pv (ptr' q.b) k] fun en gs =>
 ∃ g' l,SRT L kb pv (if n≤0 then .nil else .at (some (.ready i)) (.pops1 n)) en g' l∧gs=[g',l,turnB kb L.fb pv (ptr' q.b) k]:=by
 have HQ:=Lib.hid hq
 clear hq
 by_cases hn:n≤0
 ·rw [if_pos hn]
  intro w hw
  have T0:=TG.refl hw
  have HT:=Lib.hid T0
  clear hw T0
  go_enter Tryz.func259,Tryz.ntmps259
  go_wp2
  exact bodyPost_ret (v:=.agg #[.nilFunc,.nilFunc]) (by simp [results,Tryz.results259,go_sem]) rfl ⟨_,⟨[],[],⟨_,_,rfl,fun e he=>⟨rfl,rfl,rfl⟩⟩,rfl⟩,(((HT.out.alloc0 _).alloc0 _).alloc0 _).sum⟩
 ·rw [if_neg hn]
  intro w hw
  have T0:=TG.refl hw
  have HT:=Lib.hid T0
  clear hw T0
  have k10:=HT.out.cell 0 0 rfl 10
  simp only [turnC,GE3] at k10
  have lt:=HT.out.lt 0 0 rfl
  simp only [] at lt
  have lt1:kb<w.heap.size+1:=by omega
  have lt2:kb<w.heap.size+1+1:=by omega
  go_enter Tryz.func259,Tryz.ntmps259
  go_wp2_with fail
  refine (DoesG.use (until_g _ _ _ _ _ _) (((HT.out.alloc (k:=w.heap.size) rfl _ _).alloc (k:=w.heap.size+1) (by simp) _ _).alloc (k:=w.heap.size+1+1) (by simp) _ _) [] rfl rfl).mono ?_
  rintro e w1 ⟨gs,⟨rfl,rfl⟩,Ta⟩
  simp only [PU] at Ta
  clear k10 lt lt1 lt2
  have HT:=Lib.hid Ta
  clear Ta
  have r0:=HT.out.cell 3 0 rfl 0
  have fr0:=HT.out.free 3 0 rfl 0
  have r1:=HT.out.cell 3 0 rfl 1
  have fr1:=HT.out.free 3 0 rfl 1
  simp only [GE4] at r0 r1
  go_wp2
  exact bodyPost_ret (v:=.agg #[_,_]) (by simp [results,Tryz.results259,go_sem,r0,r1]) rfl ⟨_,⟨[],[cl w.heap.size 56 #[ptr' kb],cl (w.heap.size+1) 3 #[.int .i64 n]],⟨_,_,rfl,fun e he=>⟨[],[],⟨rfl,q,HQ.out,rfl⟩,⟨rfl,w.heap.size,w.heap.size+1,rfl,he _ (by simp),he _ (by simp)⟩,rfl⟩⟩,rfl⟩,(((HT.out.set 3 0 rfl 0 _).set 3 0 rfl 1 _).pick [1,2,0] rfl).sum⟩
set_option maxRecDepth 100000 in
theorem sReceives:DoesG Tryz.prog 282 #[ptr' kb] [turnB kb L.fb pv sv k] fun en gs =>
 ∃ g' l,SRT L kb pv (if k.t.slot<0 then .nil else .at none .rec1) en g' l∧gs=[g',l,turnB kb L.fb pv sv k]:=by
 by_cases hn:k.t.slot<0
 ·rw [if_pos hn]
  intro w hw
  have T0:=TG.refl hw
  have HT:=Lib.hid T0
  clear hw T0
  have k12:=HT.out.cell 0 0 rfl 12
  simp only [turnC,GE3] at k12
  have lt:=HT.out.lt 0 0 rfl
  simp only [] at lt
  go_enter Tryz.func282,Tryz.ntmps282
  go_wp2
  exact bodyPost_ret (v:=.agg #[.nilFunc,.nilFunc]) (by simp [results,Tryz.results282,go_sem]) rfl ⟨_,⟨[],[],⟨_,_,rfl,fun e he=>⟨rfl,rfl,rfl⟩⟩,rfl⟩,((HT.out.alloc0 _).alloc0 _).sum⟩
 ·rw [if_neg hn]
  intro w hw
  have T0:=TG.refl hw
  have HT:=Lib.hid T0
  clear hw T0
  have k12:=HT.out.cell 0 0 rfl 12
  simp only [turnC,GE3] at k12
  have lt:=HT.out.lt 0 0 rfl
  simp only [] at lt
  go_enter Tryz.func282,Tryz.ntmps282
  go_wp2_with fail
  refine (DoesG.use (at_g _ _ _) ((HT.out.alloc (k:=w.heap.size) rfl _ _).alloc (k:=w.heap.size+1) (by simp) _ _) [] rfl rfl).mono ?_
  rintro e w1 ⟨gs,⟨rfl,rfl⟩,Ta⟩
  simp only [PU] at Ta
  clear k12 lt
  have HT:=Lib.hid Ta
  clear Ta
  have r0:=HT.out.cell 2 0 rfl 0
  have fr0:=HT.out.free 2 0 rfl 0
  have r1:=HT.out.cell 2 0 rfl 1
  have fr1:=HT.out.free 2 0 rfl 1
  simp only [GE4] at r0 r1
  go_wp2
  exact bodyPost_ret (v:=.agg #[_,_]) (by simp [results,Tryz.results282,go_sem,r0,r1]) rfl ⟨_,⟨[],[cl w.heap.size 56 #[ptr' kb]],⟨_,_,rfl,fun e he=>⟨rfl,rfl,w.heap.size,rfl,he _ (by simp)⟩⟩,rfl⟩,(((HT.out.set 2 0 rfl 0 _).set 2 0 rfl 1 _).pick [1,0] rfl).sum⟩
def FiR (L:Lay) (kb:Nat) (pv sv:Value) (bd d:Nat) (s:ST) (k:TurnS) (D R:List Blk) (en:Ending) (gs:GH):Prop :=
 ∃ (g' l:List Blk) (m dd:Value),en=.returned (.agg #[m,dd])∧(∀ e1:ET,(∀ b∈l,b∈e1.1)→e1.2[d]?=some bd→(cliT L kb pv).SV e1 s m dd g')∧gs=[g',l,turnB kb L.fb pv sv k,D,R]
set_option maxRecDepth 100000 in
set_option maxHeartbeats 4000000 in
theorem sFires (d bd i:Nat) (v:Value) (gr:List Blk) (hr:rowG 40 5 v k.due.length (tasksV k.due) gr) (hi:i≤1000001):DoesG Tryz.prog 264 #[ptr' kb,ptr' bd,.int .i64 i] [turnB kb L.fb pv sv k,[cl bd 343 #[v]],gr]
 (FiR L kb pv sv bd d (firesT d i ⟨k,x,ws,p⟩).1 (firesT d i ⟨k,x,ws,p⟩).2.k [cl bd 343 #[v]] gr):=by
 unfold FiR
 obtain ⟨av,cap,rfl⟩:=rowG.val hr
 have HR:=Lib.hid hr
 have hcap:k.due.length≤maxLen:=by
  rcases Nat.eq_zero_or_pos k.due.length with h0 | h0
  ·rw [h0];unfold maxLen;omega
  ·obtain ⟨_,_,_,_,_,h1,h2,_⟩:=hr.open h0;exact Nat.le_trans h1 h2
 unfold maxLen at hcap
 cases hdi:k.due[i]? with
 | none =>
   have hlt:¬ i<k.due.length:=by rw [List.getElem?_eq_none_iff] at hdi;omega
   have he:firesT d i ⟨k,x,ws,p⟩=(.nil,⟨k,x,ws,p⟩):=by unfold firesT;simp only [hdi]
   rw [he]
   dsimp only
   have hge:k.due.length≤i:=by omega
   clear he hdi hr
   intro w hw
   have T0:=TG.refl hw
   have HT:=Lib.hid T0
   clear hw T0
   go_enter Tryz.func264,Tryz.ntmps264
   go_wp2_with fail
   have HT:=Lib.hid ((((HT.out.alloc (k:=w.heap.size) rfl 56 #[ptr' kb]).alloc (k:=w.heap.size+1) (by simp) 347 #[ptr' bd]).alloc (k:=w.heap.size+1+1) (by simp) 3 #[.int .i64 i]).alloc (k:=w.heap.size+1+1+1) (by simp) 148 #[.nilFunc,.nilFunc])
   generalize World.alloc (World.alloc (World.alloc (World.alloc w _) _) _) _=w1 at HT ⊢
   have b0:=HT.out.cell 4 0 rfl 0
   simp only [GE4] at b0
   have c0:=HT.out.cell 5 0 rfl 0
   simp only [GE4] at c0
   have dd0:=HT.out.cell 1 0 rfl 0
   simp only [GE4] at dd0
   go_region
   have HT:=Lib.hid HT.out.drew
   clear b0 c0 dd0
   generalize World.drew _=w2 at HT ⊢
   have r0:=HT.out.cell 6 0 rfl 0
   have fr0:=HT.out.free 6 0 rfl 0
   have r1:=HT.out.cell 6 0 rfl 1
   have fr1:=HT.out.free 6 0 rfl 1
   simp only [GE4] at r0 r1
   go_wp2
   exact bodyPost_ret (v:=.agg #[.nilFunc,.nilFunc]) (by simp [results,Tryz.results264,go_sem,r0,r1]) rfl ⟨_,⟨[],[],_,_,rfl,fun e he _=>⟨rfl,rfl,rfl⟩,rfl⟩,(((HT.out.set 6 0 rfl 0 _).set 6 0 rfl 1 _).pick [0,1,2] rfl).sum⟩
 | some t =>
   have hlt:i<k.due.length:=(List.getElem?_eq_some_iff.1 hdi).1
   have he:firesT d i ⟨k,x,ws,p⟩=(.thn (.at none .looks) (.fires1 d i),⟨{ k with t:=t },x,ws,p⟩):=by unfold firesT;simp only [hdi]
   rw [he]
   dsimp only
   obtain ⟨rb,cap',cur,hv,rfl,_,_,_,hcur⟩:=hr.open (by omega)
   cases hv
   have htv:=tasksV_at hdi
   have hc:∀ j,j<5→cur[i*5+j]?=t.cells[j]?:=fun j hj=>(hcur _ (by omega)).trans (htv j hj)
   have hc0:=hc 0 (by decide)
   have hc1:=hc 1 (by decide)
   have hc2:=hc 2 (by decide)
   have hc3:=hc 3 (by decide)
   have hc4:=hc 4 (by decide)
   simp only [TaskS.cells,GE3,Nat.add_zero] at hc0 hc1 hc2 hc3 hc4
   have HCC:=Lib.hid (And.intro hc0 (And.intro hc1 (And.intro hc2 (And.intro hc3 hc4))))
   clear he hdi hr htv hc hcur hc0 hc1 hc2 hc3 hc4
   intro w hw
   have T0:=TG.refl hw
   have HT:=Lib.hid T0
   clear hw T0
   go_enter Tryz.func264,Tryz.ntmps264
   go_wp2_with fail
   obtain ⟨b1,hb1⟩:∃ b1,b1=w.heap.size:=⟨_,rfl⟩
   obtain ⟨b2,hb2⟩:∃ b2,b2=w.heap.size+1:=⟨_,rfl⟩
   obtain ⟨b3,hb3⟩:∃ b3,b3=w.heap.size+1+1:=⟨_,rfl⟩
   obtain ⟨b4,hb4⟩:∃ b4,b4=w.heap.size+1+1+1:=⟨_,rfl⟩
   have HT:=Lib.hid ((((HT.out.alloc (k:=b1) hb1 56 #[ptr' kb]).alloc (k:=b2) (by rw [hb2];simp) 347 #[ptr' bd]).alloc (k:=b3) (by rw [hb3];simp) 3 #[.int .i64 i]).alloc (k:=b4) (by rw [hb4];simp) 148 #[.nilFunc,.nilFunc])
   rw [← hb4,← hb3,← hb2,← hb1]
   clear hb1 hb2 hb3 hb4
   generalize World.alloc (World.alloc (World.alloc (World.alloc w _) _) _) _=w1 at HT ⊢
   have a0:=HT.out.cell 3 0 rfl 0
   simp only [GE4] at a0
   have b0:=HT.out.cell 4 0 rfl 0
   simp only [GE4] at b0
   have c0:=HT.out.cell 5 0 rfl 0
   simp only [GE4] at c0
   have dd0:=HT.out.cell 1 0 rfl 0
   simp only [GE4] at dd0
   go_region
   have HT:=Lib.hid HT.out.drew
   clear b0 c0 dd0 a0
   generalize World.drew _=w2 at HT ⊢
   have a0:=HT.out.cell 3 0 rfl 0
   simp only [GE4] at a0
   have b0:=HT.out.cell 4 0 rfl 0
   simp only [GE4] at b0
   have c0:=HT.out.cell 5 0 rfl 0
   simp only [GE4] at c0
   have dd0:=HT.out.cell 1 0 rfl 0
   simp only [GE4] at dd0
   have e0:=(HT.out.cell 2 0 rfl (i*5)).trans HCC.out.1
   have e1:=(HT.out.cell 2 0 rfl (i*5+1)).trans HCC.out.2.1
   have e2:=(HT.out.cell 2 0 rfl (i*5+2)).trans HCC.out.2.2.1
   have e3:=(HT.out.cell 2 0 rfl (i*5+3)).trans HCC.out.2.2.2.1
   have e4:=(HT.out.cell 2 0 rfl (i*5+4)).trans HCC.out.2.2.2.2
   have k11:=HT.out.cell 0 0 rfl 11
   have fk11:=HT.out.free 0 0 rfl 11
   have k12:=HT.out.cell 0 0 rfl 12
   have fk12:=HT.out.free 0 0 rfl 12
   have k13:=HT.out.cell 0 0 rfl 13
   have fk13:=HT.out.free 0 0 rfl 13
   have k14:=HT.out.cell 0 0 rfl 14
   have fk14:=HT.out.free 0 0 rfl 14
   have k15:=HT.out.cell 0 0 rfl 15
   have fk15:=HT.out.free 0 0 rfl 15
   simp only [turnC,GE3] at k11 k12 k13 k14 k15
   go_wp2_with fail
   go_region
   have HT:=Lib.hid (((((((HT.out.set 0 0 rfl 11 (.int .u64 t.id)).set 0 0 rfl 12 (.int .i64 t.slot)).set 0 0 rfl 13 (.int .u64 t.gen)).set 0 0 rfl 14 (.int .u64 t.dl)).set 0 0 rfl 15 (.int .u64 t.per)).drew).eq (H':=[turnB kb L.fb pv sv { k with t:=t },[cl bd 343 #[.slice (some ⟨rb,0,none⟩) k.due.length cap]],[cl rb 40 cur],[cl b1 56 #[ptr' kb]],[cl b2 347 #[ptr' bd]],[cl b3 3 #[.int .i64 i]],[cl b4 148 #[.nilFunc,.nilFunc]]]) rfl)
   clear a0 b0 c0 dd0 e0 e1 e2 e3 e4 k11 k12 k13 k14 k15 fk11 fk12 fk13 fk14 fk15
   generalize World.drew _=w3 at HT ⊢
   have a0:=HT.out.cell 3 0 rfl 0
   simp only [GE4] at a0
   go_wp2_with fail
   refine (DoesG.use (at_g _ _ _) (HT.out) [] rfl rfl).mono ?_
   rintro e w1 ⟨gs,⟨rfl,rfl⟩,Ta⟩
   simp only [PU] at Ta
   clear a0
   have HT:=Lib.hid Ta
   clear Ta
   go_wp2_with fail
   refine (DoesG.use (Cli.prog_then_x (c:=(cliT L kb pv).on ([cl b1 56 #[ptr' kb],cl b2 347 #[ptr' bd],cl b3 3 #[.int .i64 i]],List.replicate (d+1) bd)) (s:=.at none .looks) (f:=MT.fires1 d i) (v:=.func (.func 288) #[] #[ptr' b1,ptr' b2,ptr' b3]) (g:=[]) (gm:=[]) (cliT_vals L kb pv _) rfl ⟨rfl,rfl,rfl⟩ ⟨rfl,b1,b2,b3,bd,rfl,by simp [kBox],by simp,by simp,by simp⟩) (HT.out.sum (H':=[turnB kb L.fb pv sv { k with t:=t },[cl bd 343 #[.slice (some ⟨rb,0,none⟩) k.due.length cap]],[cl rb 40 cur],[cl b1 56 #[ptr' kb]],[cl b2 347 #[ptr' bd]],[cl b3 3 #[.int .i64 i]],[cl b4 148 #[.nilFunc,.nilFunc]],[],[]])) [7,8] rfl rfl).mono ?_
   rintro e w1 ⟨gs,⟨bs,br,rfl,rfl⟩,Ta⟩
   simp only [PU] at Ta
   have HT:=Lib.hid Ta
   clear Ta
   have r0:=HT.out.cell 6 0 rfl 0
   have fr0:=HT.out.free 6 0 rfl 0
   have r1:=HT.out.cell 6 0 rfl 1
   have fr1:=HT.out.free 6 0 rfl 1
   simp only [GE4] at r0 r1
   go_wp2
   exact bodyPost_ret (v:=.agg #[_,_]) (by simp [results,Tryz.results264,go_sem,r0,r1]) rfl ⟨_,⟨_,[cl b1 56 #[ptr' kb],cl b2 347 #[ptr' bd],cl b3 3 #[.int .i64 i]],_,_,rfl,fun e1 he hd2=>⟨bs,br,_,_,[],[],rfl,rfl,⟨rfl,rfl,rfl⟩,⟨rfl,b1,b2,b3,bd,rfl,he _ (by simp),hd2,he _ (by simp),he _ (by simp)⟩,rfl⟩,rfl⟩,(((HT.out.set 6 0 rfl 0 _).set 6 0 rfl 1 _).pick [7,3,4,5,0,1,2] rfl).sum⟩
end
end
section
open Go.RowKit Go.Shelf
set_option maxRecDepth 100000 in
theorem then_nil {fn:FuncId} {first caps:Array Value} {gs:GH} {R:Ending→GH→Prop} (eg:∀ args w,(callFunc fn args).run Tryz.prog w=.ok (.enter fn args) w) (hd:DoesG Tryz.prog fn (first++caps) gs R)
 (hR:∀ en gs',R en gs'→∃ m d,en=.returned (.agg #[m,d])∧Cli.isFv m∧Cli.isFv d):DoesG Tryz.prog 191 #[.agg #[.nilFunc,.nilFunc],.func (.func fn) first caps] gs R:=by
 intro w hw
 have T0:=TG.refl hw
 have HT:=Lib.hid T0
 clear hw T0
 have HD:=Lib.hid hd
 have HR:=Lib.hid hR
 have q1:=fun w=>fun_nil_M w
 clear hd hR
 go_enter Tryz.func191,Tryz.ntmps191
 go_wp2_with fail
 have T1:=(((HT.out.alloc (k:=w.heap.size) rfl 148 #[.nilFunc,.nilFunc]).alloc (k:=w.heap.size+1) (by simp) 146 #[.func (.func fn) first caps]).alloc (k:=w.heap.size+1+1) (by simp) 148 #[.nilFunc,.nilFunc]).eq (H':=gs++([[cl w.heap.size 148 #[.nilFunc,.nilFunc]],[cl (w.heap.size+1) 146 #[.func (.func fn) first caps]]]++[[cl (w.heap.size+1+1) 148 #[.nilFunc,.nilFunc]]])) (by simp)
 refine (HD.out _ T1.has.left).mono ?_
 rintro en w1 ⟨gs',hr,T2⟩
 have T3:=(T1.trans (T2.frame T1.has)).eq (H':=(gs'++[[cl w.heap.size 148 #[.nilFunc,.nilFunc]],[cl (w.heap.size+1) 146 #[.func (.func fn) first caps]]])++[[cl (w.heap.size+1+1) 148 #[.nilFunc,.nilFunc]]]) (by simp)
 obtain ⟨m',d',rfl,v1,v2⟩:=HR.out _ _ hr
 have c0:=T3.cellLast 0
 have c1:=T3.cellLast 1
 have f0:=T3.freeLast 0
 have f1:=T3.freeLast 1
 simp only [GE3] at c0 c1
 have HT:=Lib.hid T3
 have HRR:=Lib.hid hr
 clear T1 T2 T3 hr HR
 rcases v1 with rfl | ⟨fn1,first1,caps1,rfl⟩ <;> rcases v2 with rfl | ⟨fn2,first2,caps2,rfl⟩
 all_goals
  go_wp2
  exact bodyPost_ret (v:=.agg #[_,_]) (by simp [results,Tryz.results191,go_sem,c0,c1]) rfl ⟨gs',HRR.out,(((((HT.out.setLast 0 _).setLast 1 _).dropLast).eq (H':=(gs'++[[cl w.heap.size 148 #[.nilFunc,.nilFunc]]])++[[cl (w.heap.size+1) 146 #[.func (.func fn) first caps]]]) (by simp)).dropLast.dropLast)⟩
theorem MRT.fv {L:Lay} {kb:Nat} {pv:Value} {e:ET} {s:ST} {z:ZT} {en:Ending} {gs:GH} (h:MRT L kb pv e s z en gs):∃ m d,en=.returned (.agg #[m,d])∧Cli.isFv m∧Cli.isFv d:=by
 obtain ⟨e',_,m,d,g',gK,gF,he,hs,_⟩:=h
 obtain ⟨h1,h2⟩:=(cliT_vals L kb pv e').vals hs
 exact ⟨m,d,he,h1,h2⟩
theorem MRT.le {L:Lay} {kb:Nat} {pv:Value} {e e':ET} {s:ST} {z:ZT} {en:Ending} {gs:GH} (h:MRT L kb pv e' s z en gs) (hl:leT e e'):MRT L kb pv e s z en gs:=by
 obtain ⟨e2,h2,r⟩:=h;exact ⟨e2,hl.trans h2,r⟩
theorem turn_sh {L:Lay} {x:CoreS} {ws:List WheelS} {p:PipeS} {k:TurnS} {gC gW:List Blk} (hx:isCore L x gC) (hw:isWheels L ws gW) (ho:TurnOk ⟨k,x,ws,p⟩) (h:HasSh ⟨k,x,ws,p⟩) :
 ∃ i q s S,k.s=some i∧L.qs[i]?=some q∧x.shs[i]?=some s∧ws[i]?=some S∧sVal L k=ptr' q.b∧ZT.sh ⟨k,x,ws,p⟩=i∧ZT.shS ⟨k,x,ws,p⟩=s∧ZT.wh ⟨k,x,ws,p⟩=S∧WheelOk S∧RingB s.ring∧0≤s.turns∧s.turns≤1000000:=by
 obtain ⟨i,hi⟩:=h
 simp only at hi
 have hlt:=ho.sh i hi
 simp only at hlt
 have hq:∃ q,L.qs[i]?=some q:=by
  obtain ⟨q,hq,_⟩:=core_q hx hlt
  exact ⟨q,hq⟩
 obtain ⟨q,hq⟩:=hq
 obtain ⟨s,hs⟩:∃ s,x.shs[i]?=some s:=⟨_,List.getElem?_eq_getElem hlt⟩
 have hwl:i<ws.length:=by have:=ho.ws;simp only at this;omega
 obtain ⟨S,hS⟩:∃ S,ws[i]?=some S:=⟨_,List.getElem?_eq_getElem hwl⟩
 have e1:ZT.sh ⟨k,x,ws,p⟩=i:=by simp [ZT.sh,hi]
 refine ⟨i,q,s,S,hi,hq,hs,hS,by simp [sVal,hi,hq],e1,?_,?_,ho.wok S (List.mem_of_getElem? hS),ho.core.ring s (List.mem_of_getElem? hs),(ho.turns s (List.mem_of_getElem? hs)).1,(ho.turns s (List.mem_of_getElem? hs)).2⟩
 ·unfold ZT.shS;rw [e1];simp [List.getD_eq_getElem?_getD,hs]
 ·unfold ZT.wh;rw [e1];simp [List.getD_eq_getElem?_getD,hS]
section
variable {L:Lay} {x:CoreS} {ws:List WheelS} {p:PipeS} {e:ET} {g gC gK gF:List Blk} {kb:Nat} {pv sv:Value} {k:TurnS}
set_option maxRecDepth 100000 in
set_option maxHeartbeats 4000000 in
theorem tOne211 (d:Nat) (hz:repT L kb pv e ⟨k,x,ws,p⟩ gK gF) (bk bd:Nat) (hb:kBox kb bk e) (hbd:e.2[d]?=some bd) :
 DoesG Tryz.prog 260 #[ptr' bk,ptr' bd] [gK,gF] (MRT L kb pv e (one211T d ⟨k,x,ws,p⟩).1 (one211T d ⟨k,x,ws,p⟩).2):=by
 unfold MRT one211T
 dsimp only
 have HB:=Lib.hid hb
 have HBD:=Lib.hid hbd
 obtain ⟨gd,gC,gW,gP,hd,hx,hw,hpp,rfl,rfl⟩:=hz
 intro w hw
 have T0:=TG.refl hw
 have HT:=Lib.hid T0
 clear hw T0
 have HT:=Lib.hid (HT.out.sum (H':=[turnB kb L.fb pv (sVal L k) k,gd,e.1,gC,gW,gP]))
 have HX:=Lib.hid hx
 have HD:=Lib.hid hd
 have HW:=Lib.hid hw
 have HPP:=Lib.hid hpp
 clear hx hd hw hpp
 clear hb hbd
 go_enter Tryz.func260,Tryz.ntmps260
 go_wp2_with fail
 refine (DoesG.use (Cli.row_1 (b:=w.heap.size+1) (o:=0) (D:=#[.func (.func 261) #[] #[ptr' bk,ptr' bd]]) rfl 1 (.inl rfl)) ((HT.out.alloc (k:=w.heap.size) rfl 148 #[.nilFunc,.nilFunc]).alloc (k:=w.heap.size+1) (by simp) _ _) [7] rfl rfl).mono ?_
 rintro e w1 ⟨gs,⟨bf,bl,bi,rfl,rfl⟩,Ta⟩
 simp only [PU] at Ta
 have HT:=Lib.hid Ta
 clear Ta
 have hsv:(cliT L kb pv).SV e (.row1 (.turnA d)) .nilFunc (.func (.func 188) #[] #[ptr' bf,ptr' bl,ptr' bi]) ([cl bf 1 #[.func (.func 261) #[] #[ptr' bk,ptr' bd]],cl bl 303 #[.slice (some ⟨w.heap.size+1,0,none⟩) 1 1],cl bi 3 #[.int .i64 0],cl (w.heap.size+1) 1 #[.func (.func 261) #[] #[ptr' bk,ptr' bd]]]++[]) :=
  ⟨rfl,bf,bl,bi,w.heap.size+1,0,_,_,_,rfl,⟨rfl,bk,bd,rfl,HB.out,HBD.out⟩,rfl,rfl⟩
 have HSV:=Lib.hid hsv
 clear hsv
 go_wp2_with fail
 refine (DoesG.use (Cli.prog_then_x (c:=(cliT L kb pv).on e) (f:=MT.one2112 d) (v:=.func (.func 263) #[] #[ptr' bk,ptr' bd]) (gm:=[]) (cliT_vals L kb pv _) rfl HSV.out ⟨rfl,bk,bd,rfl,HB.out,HBD.out⟩) (HT.out.sum (H':=[turnB kb L.fb pv (sVal L k) k,gd,e.1,gC,gW,gP,[cl w.heap.size 148 #[.nilFunc,.nilFunc]],[cl bf 1 #[.func (.func 261) #[] #[ptr' bk,ptr' bd]],cl bl 303 #[.slice (some ⟨w.heap.size+1,0,none⟩) 1 1],cl bi 3 #[.int .i64 0],cl (w.heap.size+1) 1 #[.func (.func 261) #[] #[ptr' bk,ptr' bd]]]++[],[]])) [7,8] rfl rfl).mono ?_
 rintro e w1 ⟨gs,⟨bs,br,rfl,rfl⟩,Ta⟩
 simp only [PU] at Ta
 have HT:=Lib.hid Ta
 clear Ta
 have r0:=HT.out.cell 6 0 rfl 0
 have fr0:=HT.out.free 6 0 rfl 0
 have r1:=HT.out.cell 6 0 rfl 1
 have fr1:=HT.out.free 6 0 rfl 1
 simp only [GE4] at r0 r1
 go_wp2
 exact bodyPost_ret (v:=.agg #[_,_]) (by simp [results,Tryz.results260,go_sem,r0,r1]) rfl ⟨_,⟨e,leT.refl e,_,_,_,_,_,rfl,⟨bs,br,_,_,_,[],rfl,rfl,HSV.out,⟨rfl,bk,bd,rfl,HB.out,HBD.out⟩,rfl⟩,⟨gd,gC,gW,gP,HD.out,HX.out,HW.out,HPP.out,rfl,rfl⟩,rfl⟩,(((HT.out.set 6 0 rfl 0 _).set 6 0 rfl 1 _).pick [7,0,1,2,3,4,5] rfl).sum⟩
set_option maxRecDepth 100000 in
theorem tOne21121 (hz:repT L kb pv e ⟨k,x,ws,p⟩ gK gF) (bk:Nat) (hb:kBox kb bk e) :
 DoesG Tryz.prog 265 #[ptr' bk] [gK,gF] (MRT L kb pv e (.row1 .unlock) ⟨k,x,ws,p⟩):=by
 unfold MRT
 have HB:=Lib.hid hb
 obtain ⟨gd,gC,gW,gP,hd,hx,hw,hpp,rfl,rfl⟩:=hz
 intro w hw
 have T0:=TG.refl hw
 have HT:=Lib.hid T0
 clear hw T0
 have HT:=Lib.hid (HT.out.sum (H':=[turnB kb L.fb pv (sVal L k) k,gd,e.1,gC,gW,gP]))
 have HX:=Lib.hid hx
 have HD:=Lib.hid hd
 have HW:=Lib.hid hw
 have HPP:=Lib.hid hpp
 clear hx hd hw hpp
 clear hb
 go_enter Tryz.func265,Tryz.ntmps265
 go_wp2_with fail
 refine (DoesG.use (Cli.row_1 (b:=w.heap.size+1) (o:=0) (D:=#[.func (.func 266) #[] #[ptr' bk]]) rfl 1 (.inl rfl)) ((HT.out.alloc (k:=w.heap.size) rfl 148 #[.nilFunc,.nilFunc]).alloc (k:=w.heap.size+1) (by simp) _ _) [7] rfl rfl).mono ?_
 rintro e w1 ⟨gs,⟨bf,bl,bi,rfl,rfl⟩,Ta⟩
 simp only [PU] at Ta
 have HT:=Lib.hid Ta
 clear Ta
 have r0:=HT.out.cell 6 0 rfl 0
 have fr0:=HT.out.free 6 0 rfl 0
 have r1:=HT.out.cell 6 0 rfl 1
 have fr1:=HT.out.free 6 0 rfl 1
 simp only [GE4] at r0 r1
 go_wp2
 exact bodyPost_ret (v:=.agg #[_,_]) (by simp [results,Tryz.results265,go_sem,r0,r1]) rfl ⟨_,⟨e,leT.refl e,_,_,_,_,_,rfl,⟨rfl,bf,bl,bi,w.heap.size+1,0,#[.func (.func 266) #[] #[ptr' bk]],_,[],rfl,⟨rfl,bk,rfl,HB.out⟩,rfl,rfl⟩,⟨gd,gC,gW,gP,HD.out,HX.out,HW.out,HPP.out,rfl,rfl⟩,rfl⟩,(((HT.out.set 6 0 rfl 0 _).set 6 0 rfl 1 _).pick [8,9,10,7,0,1,2,3,4,5] rfl).sum⟩
end
end
section
open Go.RowKit Go.Shelf
theorem use_key2 {G:Prop} {α:Type} {P A:α→World→Prop} (main:(∀ a w2,A a w2→P a w2)→G) (key:∀ a w2,A a w2→P a w2):G:=main key
section
variable {L:Lay} {x:CoreS} {ws:List WheelS} {p:PipeS} {e:ET} {g gC gK gF:List Blk} {kb:Nat} {pv sv:Value} {k:TurnS}
set_option maxRecDepth 100000 in
set_option maxHeartbeats 4000000 in
theorem tPops11 (n:Int) (hz:repT L kb pv e ⟨k,x,ws,p⟩ gK gF) (ho:TurnOk ⟨k,x,ws,p⟩) (hh:HasSh ⟨k,x,ws,p⟩) (hn:0≤n∧n≤1000000) (bk bi:Nat) (hb:kBox kb bk e) (hbi:cl bi 3 #[.int .i64 n]∈e.1) :
 DoesG Tryz.prog 283 #[ptr' bk,ptr' bi] [gK,gF] (MRT L kb pv e (popsT (n - 1) ⟨k,x,ws,p⟩) ⟨k,x,ws,p⟩):=by
 unfold MRT
 obtain ⟨gd,gC,gW,gP,hd,hx,hw,hpp,rfl,rfl⟩:=hz
 obtain ⟨i,q,s,S,hki,hq,hs,hS,hsv,hsh,hss,hwh,hwo,hrb,ht0,ht1⟩:=turn_sh hx hw ho hh
 have hpo:=sPops (kb:=kb) (pv:=pv) (k:=k) hq (n - 1)
 rw [← hsv,← hsh] at hpo
 have hpo:DoesG Tryz.prog 259 #[ptr' kb,.int .i64 (n - 1)] [turnB kb L.fb pv (sVal L k) k] fun en gs=>∃ g' l,SRT L kb pv (popsT (n - 1) ⟨k,x,ws,p⟩) en g' l∧gs=[g',l,turnB kb L.fb pv (sVal L k) k]:=hpo
 generalize popsT (n - 1) ⟨k,x,ws,p⟩=st at *
 intro w hw
 have T0:=TG.refl hw
 have HT:=Lib.hid T0
 clear hw T0
 have HPO:=Lib.hid hpo
 have HT:=Lib.hid (HT.out.sum (H':=[turnB kb L.fb pv (sVal L k) k,gd,e.1,gC,gW,gP]))
 have HX:=Lib.hid hx
 have HD:=Lib.hid hd
 have HW:=Lib.hid hw
 have HPP:=Lib.hid hpp
 obtain ⟨hn0,hn1⟩:=hn
 clear hx hd hw hpp hpo hq hs hS hki hsv hsh hss hwh hwo hrb ht0 ht1 ho hh
 have HB:=Lib.hid (show cl bk 56 #[ptr' kb]∈e.1 from hb)
 clear hb
 have b0:=HT.out.mem_cell 2 HB.out 0
 have ltb:=HT.out.mem_lt 2 HB.out
 simp only [GE2] at b0 ltb
 have HBI:=Lib.hid (show cl bi 3 #[.int .i64 n]∈e.1 from hbi)
 clear hbi
 have i0:=HT.out.mem_cell 2 HBI.out 0
 have lti:=HT.out.mem_lt 2 HBI.out
 simp only [GE2] at i0 lti
 go_enter Tryz.func283,Tryz.ntmps283
 go_wp2_with fail
 refine (DoesG.use (HPO.out) (HT.out.alloc (k:=w.heap.size) rfl _ _) [0] rfl rfl).mono ?_
 rintro e w1 ⟨gs,⟨g2,l2,⟨m2,d2,rfl,hs2⟩,rfl⟩,Ta⟩
 simp only [PU] at Ta
 clear b0 i0 ltb lti
 have HT:=Lib.hid Ta
 clear Ta
 have r0:=HT.out.cell 6 0 rfl 0
 have fr0:=HT.out.free 6 0 rfl 0
 have r1:=HT.out.cell 6 0 rfl 1
 have fr1:=HT.out.free 6 0 rfl 1
 simp only [GE4] at r0 r1
 have hv2:=(cliT_vals L kb pv (l2,[])).vals (hs2 (l2,[]) (fun _ h=>h))
 obtain ⟨st1,st2⟩:=Cli.store_fv2 (P:=Tryz.prog) hv2.1 hv2.2 r0 fr0 r1 fr1
 have HS:=Lib.hid hs2
 clear hv2 hs2
 go_wp2
 exact bodyPost_ret (v:=.agg #[_,_]) (by simp [results,Tryz.results283,go_sem,r0,r1]) rfl ⟨_,⟨(e.1++l2,e.2),leT.app e l2,m2,d2,g2,_,_,rfl,HS.out _ (fun b hb=>List.mem_append_right _ hb),⟨gd,gC,gW,gP,HD.out,HX.out,HW.out,HPP.out,rfl,rfl⟩,rfl⟩,(((HT.out.set 6 0 rfl 0 _).set 6 0 rfl 1 _).pick [0,8,1,2,7,3,4,5] rfl).sum⟩
set_option maxRecDepth 100000 in
set_option maxHeartbeats 4000000 in
theorem tPops1 (n:Int) (hz:repT L kb pv e ⟨k,x,ws,p⟩ gK gF) (hp:preT (.pops1 n) ⟨k,x,ws,p⟩) (bk bi:Nat) (hb:kBox kb bk e) (hbi:cl bi 3 #[.int .i64 n]∈e.1) :
 DoesG Tryz.prog 281 #[ptr' bk,ptr' bi] [gK,gF] (MRT L kb pv e (runT (.pops1 n) ⟨k,x,ws,p⟩).1 (runT (.pops1 n) ⟨k,x,ws,p⟩).2):=by
 obtain ⟨ho,hh,hn0,hn1,hok2⟩:=hp
 have hn:=And.intro hn0 hn1
 clear hn0 hn1
 obtain ⟨gd,gC,gW,gP,hd,hx,hw,hpp,rfl,rfl⟩:=hz
 obtain ⟨i,q,s,S,hki,hq,hs,hS,hsv,hsh,hss,hwh,hwo,hrb,ht0,ht1⟩:=turn_sh hx hw ho hh
 have hpop:=corePop hx hq hs hrb
 have hz2:runT (.pops1 n) ⟨k,x,ws,p⟩=(if (popR s.ring).2.1.slot<0 then popsT (n - 1) ⟨{ k with t:=(popR s.ring).2.1 },{ x with shs:=x.shs.set i { s with ring:=(popR s.ring).1 } },ws,p⟩ else .thn (.at none .rec1) (.pops11 n),⟨{ k with t:=(popR s.ring).2.1 },{ x with shs:=x.shs.set i { s with ring:=(popR s.ring).1 } },ws,p⟩):=by
  simp only [runT,ZT.onSh,hss,hsh]
  split <;> rfl
 rw [hz2] at hok2 ⊢
 dsimp only at hok2 ⊢
 generalize popR s.ring=pr at *
 obtain ⟨r1,t1,pe⟩:=pr
 simp only at hpop hok2 ⊢
 have hrc:=sReceives (L:=L) (kb:=kb) (pv:=pv) (sv:=sVal L k) (k:={ k with t:=t1 })
 have hh2:HasSh ⟨{ k with t:=t1 },{ x with shs:=x.shs.set i { s with ring:=r1 } },ws,p⟩:=⟨i,hki⟩
 obtain ⟨st,hst⟩:∃ st:ST,st=((if t1.slot<0 then popsT (n - 1) ⟨{ k with t:=t1 },{ x with shs:=x.shs.set i { s with ring:=r1 } },ws,p⟩ else .thn (.at none .rec1) (.pops11 n)):ST):=⟨_,rfl⟩
 rw [← hst]
 have HST:=Lib.hid hst
 clear hst
 have hp11:∀ (e':ET) gK gF,repT L kb pv e' ⟨{ k with t:=t1 },{ x with shs:=x.shs.set i { s with ring:=r1 } },ws,p⟩ gK gF→kBox kb bk e'→cl bi 3 #[.int .i64 n]∈e'.1→_:=fun e' gK gF hz h1 h2=>tPops11 n hz hok2 hh2 hn bk bi h1 h2
 intro w hw
 have T0:=TG.refl hw
 have HT:=Lib.hid T0
 clear hw T0
 have HPOP:=Lib.hid hpop
 have HRC:=Lib.hid hrc
 have HP11:=Lib.hid hp11
 have HSV:=Lib.hid hsv
 have HT:=Lib.hid (HT.out.sum (H':=[turnB kb L.fb pv (sVal L k) k,gd,e.1,gC,gW,gP]))
 have HX:=Lib.hid hx
 have HD:=Lib.hid hd
 have HW:=Lib.hid hw
 have HPP:=Lib.hid hpp
 have k10:=HT.out.cell 0 0 rfl 10
 simp only [turnC,GE3,hsv] at k10
 clear hx hd hw hpp hpop hrc hp11 hq hs hS hki hsv hsh hss hwh hwo hrb ht0 ht1 ho hh hok2 hh2 hz2 hn
 have HB:=Lib.hid (show cl bk 56 #[ptr' kb]∈e.1 from hb)
 clear hb
 have b0:=HT.out.mem_cell 2 HB.out 0
 have ltb:=HT.out.mem_lt 2 HB.out
 simp only [GE2] at b0 ltb
 have HBI:=Lib.hid (show cl bi 3 #[.int .i64 n]∈e.1 from hbi)
 clear hbi
 have i0:=HT.out.mem_cell 2 HBI.out 0
 have lti:=HT.out.mem_lt 2 HBI.out
 simp only [GE2] at i0 lti
 go_enter Tryz.func281,Tryz.ntmps281
 go_wp2_with fail
 have HT:=Lib.hid (HT.out.alloc (k:=w.heap.size) rfl 148 #[.nilFunc,.nilFunc])
 clear b0 i0 ltb lti k10
 generalize World.alloc w _=w1 at HT ⊢
 have b0:=HT.out.mem_cell 2 HB.out 0
 have k10:=HT.out.cell 0 0 rfl 10
 simp only [turnC,GE3,HSV.out] at b0 k10
 apply use_key2 (A:=fun (g1:List Blk) w5=>isCore L { x with shs:=x.shs.set i { s with ring:=r1 } } g1∧TG [turnB kb L.fb pv (sVal L k) k++(gd++e.1),gC++(gW++gP)] w [turnB kb L.fb pv (sVal L k) { k with t:=t1 },gd,e.1,g1,gW,gP,[cl w.heap.size 148 #[.nilFunc,.nilFunc]]] w5)
 case main =>
  intro key
  go_region_with (
   go_at_call 21
   refine (DoesG.use HPOP.out HT.out.drew [3] rfl rfl).mono ?_
   rintro en w2 ⟨gs,⟨rfl,g1,hx1,rfl⟩,Ta⟩
   simp only [PU] at Ta
   have b1:=Ta.mem_cell 2 HB.out 0
   simp only [GE2] at b1
   have c11:=Ta.cell 0 0 rfl 11
   have c12:=Ta.cell 0 0 rfl 12
   have c13:=Ta.cell 0 0 rfl 13
   have c14:=Ta.cell 0 0 rfl 14
   have c15:=Ta.cell 0 0 rfl 15
   simp only [turnC,GE3] at c11 c12 c13 c14 c15
   have f11:=Ta.free 0 0 rfl 11
   have f12:=Ta.free 0 0 rfl 12
   have f13:=Ta.free 0 0 rfl 13
   have f14:=Ta.free 0 0 rfl 14
   have f15:=Ta.free 0 0 rfl 15
   simp only [TaskS.cells]
   have HX1:=Lib.hid hx1
   have HT1:=Lib.hid Ta
   clear Ta hx1)
  all_goals
   have T5:=(((((HT1.out.set 0 0 rfl 11 (.int .u64 t1.id)).set 0 0 rfl 12 (.int .i64 t1.slot)).set 0 0 rfl 13 (.int .u64 t1.gen)).set 0 0 rfl 14 (.int .u64 t1.dl)).set 0 0 rfl 15 (.int .u64 t1.per)).eq (H':=[turnB kb L.fb pv (sVal L k) { k with t:=t1 },gd,e.1,g1,gW,gP,[cl w.heap.size 148 #[.nilFunc,.nilFunc]]]) rfl
   generalize World.setCell _ _ _=w5 at T5 ⊢
   exact key g1 w5 ⟨HX1.out,T5⟩
 case key =>
  rintro g1 w5 ⟨hx5,T5⟩
  have HX5:=Lib.hid hx5
  have HT:=Lib.hid T5
  clear hx5 T5 b0 k10 HX
  have b0:=HT.out.mem_cell 2 HB.out 0
  have i0:=HT.out.mem_cell 2 HBI.out 0
  simp only [GE2] at b0 i0
  have hrc:=HRC.out
  by_cases hsl:t1.slot<0
  ·rw [if_pos hsl] at hrc
   have hst:=HST.out
   clear HST
   rw [if_pos hsl] at hst
   subst hst
   have HRC:=Lib.hid hrc
   clear hrc hsl
   go_wp2_with fail
   refine (DoesG.use (HRC.out) (HT.out) [0] rfl rfl).mono ?_
   rintro e w1 ⟨gs,⟨g2,l2,⟨m2,d2,rfl,hs2⟩,rfl⟩,Ta⟩
   simp only [PU] at Ta
   clear b0
   have HT:=Lib.hid Ta
   clear Ta
   obtain ⟨rfl,rfl,rfl⟩:=hs2 (l2,[]) (fun _ h=>h)
   clear hs2
   have hth:=then_nil (first:=#[]) (caps:=#[ptr' bk,ptr' bi]) (enters_of Tryz.func283 (by kernel_rfl) rfl) (HP11.out (e.1++l2,e.2) (turnB kb L.fb pv (sVal L k) { k with t:=t1 }++(gd++(e.1++l2))) (g1++(gW++gP)) ⟨gd,g1,gW,gP,HD.out,HX5.out,HW.out,HPP.out,rfl,rfl⟩ (List.mem_append_left _ HB.out) (List.mem_append_left _ HBI.out)) (fun _ _ h=>MRT.fv h)
   obtain ⟨gT,hgT⟩:∃ gT,gT=turnB kb L.fb pv (sVal L k) { k with t:=t1 }:=⟨_,rfl⟩
   have HTo:=HT.out
   rw [← hgT] at hth HTo
   have HTH:=Lib.hid hth
   have HT:=Lib.hid HTo
   clear hth HTo hgT
   go_wp2_with fail
   refine (DoesG.use (HTH.out) (HT.out.sum (H':=[gT++(gd++(e.1++l2)),g1++(gW++gP),[cl w.heap.size 148 #[.nilFunc,.nilFunc]]])) [0,1] rfl rfl).mono ?_
   rintro e w1 ⟨gs,⟨e2,hl2,m3,d3,g3,gK3,gF3,rfl,hs3,hz3,rfl⟩,Ta⟩
   simp only [PU] at Ta
   have HL2:=Lib.hid hl2
   have HZ3:=Lib.hid hz3
   clear hl2 hz3 i0
   have HT:=Lib.hid Ta
   clear Ta
   have r0:=HT.out.cell 2 0 rfl 0
   have fr0:=HT.out.free 2 0 rfl 0
   have r1:=HT.out.cell 2 0 rfl 1
   have fr1:=HT.out.free 2 0 rfl 1
   simp only [GE4] at r0 r1
   have hv2:=(cliT_vals L kb pv e2).vals hs3
   obtain ⟨st1,st2⟩:=Cli.store_fv2 (P:=Tryz.prog) hv2.1 hv2.2 r0 fr0 r1 fr1
   have HS:=Lib.hid hs3
   clear hv2 hs3
   go_wp2
   exact bodyPost_ret (v:=.agg #[_,_]) (by simp [results,Tryz.results281,go_sem,r0,r1]) rfl ⟨_,⟨e2,(leT.app e l2).trans HL2.out,m3,d3,g3,gK3,gF3,rfl,HS.out,HZ3.out,rfl⟩,((HT.out.set 2 0 rfl 0 _).set 2 0 rfl 1 _).pick [0,1,3] rfl⟩
  ·rw [if_neg hsl] at hrc
   have hst:=HST.out
   clear HST
   rw [if_neg hsl] at hst
   subst hst
   have HRC:=Lib.hid hrc
   clear hrc hsl HP11
   obtain ⟨gT,hgT⟩:∃ gT,gT=turnB kb L.fb pv (sVal L k) { k with t:=t1 }:=⟨_,rfl⟩
   go_wp2_with fail
   refine (DoesG.use (HRC.out) (HT.out) [0] rfl rfl).mono ?_
   rintro e w1 ⟨gs,⟨g2,l2,⟨m2,d2,rfl,hs2⟩,rfl⟩,Ta⟩
   simp only [PU] at Ta
   clear b0
   have HT:=Lib.hid Ta
   clear Ta
   have HTo:=HT.out
   rw [← hgT] at HTo
   have HT:=Lib.hid HTo
   have HGT:=Lib.hid hgT
   have HS:=Lib.hid hs2
   clear HTo hgT hs2
   go_wp2_with fail
   refine (DoesG.use (Cli.prog_then_x (c:=(cliT L kb pv).on (e.1++l2,e.2)) (s:=.at none .rec1) (f:=MT.pops11 n) (v:=.func (.func 283) #[] #[ptr' bk,ptr' bi]) (gm:=[]) (cliT_vals L kb pv _) rfl (HS.out (e.1++l2,e.2) (fun b hb=>List.mem_append_right _ hb)) ⟨rfl,bk,bi,rfl,List.mem_append_left _ HB.out,List.mem_append_left _ HBI.out⟩) (HT.out.sum (H':=[gT,gd,e.1,g1,gW,gP,[cl w.heap.size 148 #[.nilFunc,.nilFunc]],l2,g2,[]])) [8,9] rfl rfl).mono ?_
   rintro e w1 ⟨gs,⟨bs,br,rfl,rfl⟩,Ta⟩
   simp only [PU] at Ta
   clear i0
   have HT:=Lib.hid Ta
   clear Ta
   have r0:=HT.out.cell 6 0 rfl 0
   have fr0:=HT.out.free 6 0 rfl 0
   have r1:=HT.out.cell 6 0 rfl 1
   have fr1:=HT.out.free 6 0 rfl 1
   simp only [GE4] at r0 r1
   have hv2:=(cliT_vals L kb pv _).vals (HS.out (e.1++l2,e.2) (fun b hb=>List.mem_append_right _ hb))
   obtain ⟨st1,st2⟩:=Cli.store_fv2 (P:=Tryz.prog) (v':=.func (.func 226) #[] #[ptr' bs,ptr' br]) hv2.1 (Or.inr ⟨_,_,_,rfl⟩) r0 fr0 r1 fr1
   clear hv2
   go_wp2
   have HF:=(((HT.out.set 6 0 rfl 0 m2).set 6 0 rfl 1 (.func (.func 226) #[] #[ptr' bs,ptr' br])).pick [8,0,1,2,7,3,4,5] rfl).sum (H':=[[cl bs 148 #[m2,d2],cl br 146 #[.func (.func 283) #[] #[ptr' bk,ptr' bi]]]++g2++[],gT++(gd++(e.1++l2)),g1++(gW++gP)])
   rw [HGT.out] at HF
   exact bodyPost_ret (v:=.agg #[_,_]) (by simp [results,Tryz.results281,go_sem,r0,r1]) rfl ⟨_,⟨(e.1++l2,e.2),leT.app e l2,_,_,_,_,_,rfl,⟨bs,br,_,_,g2,[],rfl,rfl,HS.out (e.1++l2,e.2) (fun b hb=>List.mem_append_right _ hb),⟨rfl,bk,bi,rfl,List.mem_append_left _ HB.out,List.mem_append_left _ HBI.out⟩,rfl⟩,⟨gd,g1,gW,gP,HD.out,HX5.out,HW.out,HPP.out,rfl,rfl⟩,rfl⟩,HF⟩
end
end
end Go.Proofs.YtblhfbcodbjgcaaGreat
