import Derived.Test.YtikpbibeagbccaaGreatGV24
import Derived.Test.YtikpbibeagbccaaGreatGV29
import Derived.Test.YtikpbibeagbccaaGreatGV30
import Derived.Test.YtikpbibeagbccaaGreatGV25
import Derived.Test.YtikpbibeagbccaaGreatGV16
set_option maxRecDepth 100000
set_option maxHeartbeats 4000000
namespace Go.Proofs.YtikpbibeagbccaaGreat
set_option linter.unusedVariables false
set_option linter.unusedSimpArgs false
open Go.Proofs.Tryz
section
open Go.RowKit Go.Shelf
structure Xf where
 th:Int
 no:Int
 err:Int
 ok:Bool
 now:Int
 s:Option Nat
 t:Qm
 saw:Int
 nd:Nat
 due:List Qm
inductive MT where
 | enter | gate | tick | shards1 (i:Nat) | one2 (d:Nat) | one21 (d:Nat) | one211 (d:Nat) | one2112 (d:Nat) | one21121 | pops1 (n:Int) | pops11 (n:Int)
 | rec1 | rec11 | fires1 (d:Nat) (i:Nat) | looks | claims | claims2 | behind | rearm1 (next:Int) | finishes
inductive AT where
 | leave1 | answer | turnA (d:Nat) | unlock | put (f:Q7) | rel | drop
inductive YT where
 | lock | ready (i:Nat)
abbrev ST:Type:=St MT AT YT
structure ZT where
 k:Xf
 x:Qj
 ws:List Qg
 p:Qy
def evT (k:Xf) (E:EvS):EvS:={ E with thread:=k.th,call:=k.no,what:=7 }
def ZT.note (E:EvS) (z:ZT):ZT:={ z with x:={ z.x with tr:=z.x.tr++[evT z.k E] } }
def qcx:ST:=.row2 .leave1 .answer
def qz (e:Int) (z:ZT):ST × ZT:=(qcx,{ (z.note { ev0 with kind:=9,err:=e }) with k:={ z.k with err:=e,ok:=false } })
def Zj (i:Nat) (z:ZT):ST × ZT :=
 if i<z.x.shs.length then (.thn (.at (some .lock) (.one2 z.k.nd)) (.shards1 i),{ z with k:={ z.k with s:=some i,nd:=z.k.nd+1,due:=[] } })
 else (qcx,{ z with k:={ z.k with err:=0,ok:=true } })
def ZT.sh (z:ZT):Nat:=z.k.s.getD 0
def ZT.shS (z:ZT):Q0:=z.x.shs.getD z.sh (Qp 1)
def ZT.wh (z:ZT):Qg:=z.ws.getD z.sh ⟨0,[],[]⟩
def ZT.onSh (z:ZT) (s:Q0):ZT:={ z with x:={ z.x with shs:=z.x.shs.set z.sh s } }
def Yx (n:Int) (z:ZT):ST:=if n≤0 then .nil else .at (some (.ready z.sh)) (.pops1 n)
def Xo (z:ZT):ST:=if z.k.t.slot<0 then .nil else .at none .rec1
def Xc (d i:Nat) (z:ZT):ST × ZT :=
 match z.k.due[i]? with
 | none=>(.nil,z)
 | some t=>(.thn (.at none .looks) (.fires1 d i),{ z with k:={ z.k with t:=t } })
def Xd (st:Int) (z:ZT):ZT × Bool :=
 ({ z with k:={ z.k with saw:=z.x.slab.word z.k.t.slot } },stW (z.x.slab.word z.k.t.slot) == st && Zp (z.x.slab.word z.k.t.slot) == z.k.t.gen && z.x.slab.mine z.k.t.id)
def Q3 (ev:Int) (z:ZT):ZT × Bool :=
 ({ z with x:={ z.x with slab:=(z.x.slab.try z.k.t.slot z.k.saw ev).1 } },(z.x.slab.try z.k.t.slot z.k.saw ev).2.2 == 0)
def qky (z:ZT):ZT :=
 ({ z with ws:=z.ws.set z.sh (z.wh.place (qmd z.wh z.k.t)) }:ZT).note { ev0 with kind:=4,id:=z.k.t.id,gen:=z.k.t.gen,dl:=qdn z.wh z.k.t }
def zi (d:Nat) (z:ZT):ST × ZT:=(.thn (.row1 (.turnA d)) (.one2112 d),z)
def runT:MT→ZT→ST × ZT
 | .enter,z=>(.at none .gate,{ z with x:={ z.x with f:={ z.x.f with inside:=z.x.f.inside+1 } } })
 | .gate,z=>if z.x.f.closed=true then qz 3 z else (.at none .tick,z)
 | .tick,z=>Zj 0 (({ z with x:={ z.x with f:={ z.x.f with now:=z.x.f.now+1 } },k:={ z.k with now:=z.x.f.now+1 } }:ZT).note { ev0 with kind:=11,tick:=z.x.f.now+1 })
 | .shards1 i,z=>Zj (i+1) z
 | .one2 d,z=>(.at none (.one21 d),z.onSh { z.shS with who:=qt5 z.shS.who z.k.th,turns:=qtq z.shS.who z.shS.turns })
 | .one21 d,z=>if z.shS.ring.tail - z.shS.ring.head≤0 then zi d z else (.thn (Yx (z.shS.ring.tail - z.shS.ring.head) z) (.one211 d),z)
 | .one211 d,z=>zi d z
 | .one2112 d,z=>match z.k.due[0]? with
   | none=>(.row1 .unlock,z)
   | some _=>(.thn (Xc d 0 z).1 .one21121,(Xc d 0 z).2)
 | .one21121,z=>(.row1 .unlock,z)
 | .pops1 n,z =>
   let z':ZT:={ (z.onSh { z.shS with ring:=(Y5 z.shS.ring).1 }) with k:={ z.k with t:=(Y5 z.shS.ring).2.1 } }
   if z'.k.t.slot<0 then (Yx (n - 1) z',z') else (.thn (.at none .rec1) (.pops11 n),z')
 | .pops11 n,z=>(Yx (n - 1) z,z)
 | .rec1,z=>if (Xd 2 z).2=true then (.at none .rec11,(Xd 2 z).1) else (.nil,(Xd 2 z).1)
 | .rec11,z=>if (Q3 3 z).2=true then (.nil,qky (Q3 3 z).1) else (Xo (Q3 3 z).1,(Q3 3 z).1)
 | .fires1 d i,z=>Xc d (i+1) z
 | .looks,z=>if (Xd 3 z).2=true then (.at none .claims,(Xd 3 z).1) else (.nil,(Xd 3 z).1)
 | .claims,z =>
   if (Q3 4 z).2=true then (.thn (.row1 (.put ⟨z.k.t.id,z.k.t.gen,z.k.t.dl,z.k.now⟩)) .claims2,(Q3 4 z).1.note { ev0 with kind:=5,id:=z.k.t.id,gen:=z.k.t.gen,dl:=z.k.t.dl,tick:=z.k.now })
   else (.at none .looks,(Q3 4 z).1)
 | .claims2,z=>(.at none .behind,z)
 | .behind,z =>
   let w:=z.x.slab.word z.k.t.slot
   let z':ZT:={ z with k:={ z.k with saw:=w } }
   if stW w≠4∨Zp w≠z.k.t.gen then (.nil,z')
   else if 0<z.k.t.per∧Jd w=false∧z.k.t.dl+z.k.t.per<18446744073709551616 then (.at none (.rearm1 (z.k.t.dl+z.k.t.per)),z')
   else (.at none .finishes,z')
 | .rearm1 next,z =>
   if (Q3 5 z).2=true then (.nil,qky { (Q3 5 z).1 with k:={ z.k with t:={ z.k.t with gen:=z.k.t.gen+1,dl:=next } } }) else (.at none .behind,(Q3 5 z).1)
 | .finishes,z =>
   if (Q3 9 z).2=true then (.row2 .rel .drop,if 0<z.k.t.per∧Jd z.k.saw=false then (Q3 9 z).1.note { ev0 with kind:=14,id:=z.k.t.id,gen:=z.k.t.gen } else (Q3 9 z).1)
   else (.at none .behind,(Q3 9 z).1)
def Xv:AT→ZT→ZT
 | .leave1,z=>{ z with x:={ z.x with f:={ z.x.f with inside:=Zf z.x.f.inside } } }
 | .answer,z=>z.note { ev0 with kind:=2,err:=z.k.err }
 | .turnA d,z=>{ z with ws:=z.ws.set z.sh z.wh.adv.1,k:={ z.k with due:=z.wh.adv.2.map qa5.v } }
 | .unlock,z=>z.onSh { z.shS with who:=0 }
 | .put f,z=>{ z with p:=(z.p.put f).1 }
 | .rel,z=>{ z with x:={ z.x with slab:=(z.x.slab.try z.k.t.slot (z.x.slab.word z.k.t.slot) 10).1 } }
 | .drop,z=>{ z with x:={ z.x with slab:=z.x.slab.drop.1 } }
def qqj:YT→ZT→Bool
 | .lock,z=>decide (0≤z.k.th) && (z.shS.who == 0)
 | .ready i,z=>(z.x.shs.getD i (Qp 1)).ring.ready
structure Z3 (t:Qm):Prop where
 id:0≤t.id∧t.id<18446744073709551616
 gen:0≤t.gen∧t.gen≤4294967296
 dl:0≤t.dl∧t.dl<18446744073709551616
 per:0≤t.per∧t.per<18446744073709551616
structure qb1 (z:ZT):Prop where
 core:qo z.x
 th:0≤z.k.th
 now:0≤z.x.f.now∧z.x.f.now≤15000000
 saw:0≤z.k.saw∧z.k.saw<18446744073709551616∧okW z.k.saw=true
 t:Z3 z.k.t
 due:z.k.due.length≤1000000
 ws:z.ws.length=z.x.shs.length
 wok:∀ w∈z.ws,qak w
 sh:∀ i,z.k.s=some i→i<z.x.shs.length
 turns:∀ s∈z.x.shs,0≤s.turns∧s.turns≤1000000
 pipe:qm9 z.p
def zc (z:ZT):Prop:=∃ i,z.k.s=some i
def qz5 (d:Nat) (z:ZT):Prop:=z.k.nd=d+1
def MT.fit:MT→ZT→Prop
 | .shards1 i,z=>i≤64
 | .one2 d,z=>zc z∧qz5 d z∧z.k.th≤1000000
 | .one21 d,z=>zc z∧qz5 d z
 | .one211 d,z=>zc z∧qz5 d z
 | .one2112 d,z=>zc z∧qz5 d z
 | .one21121,z=>zc z
 | .pops1 n,z=>zc z∧0≤n∧n≤1000000∧qb1 (runT (.pops1 n) z).2
 | .pops11 n,z=>zc z∧0≤n∧n≤1000000
 | .rec11,z=>zc z∧0≤z.k.t.slot
 | .fires1 d i,z=>zc z∧qz5 d z∧i≤1000000
 | .rearm1 next,z=>zc z∧0≤z.k.t.slot∧0≤next∧next<18446744073709551616
 | _,_=>True
def qe0 (f:MT) (z:ZT):Prop:=qb1 z∧f.fit z
def qfp (a:AT) (z:ZT):Prop:=qb1 z∧match a with
 | .turnA d=>zc z∧qz5 d z
 | .unlock=>zc z∧z.shS.who=z.k.th+1∧z.k.th≤1000000
 | _=>True
def qvf (y:YT) (z:ZT):Prop:=qb1 z∧match y with
 | .lock=>zc z
 | .ready i=>i<z.x.shs.length
def Qw (L:Lay) (k:Xf):Value:=match k.s with
 | none=>.pointer none
 | some i=>match L.qs[i]? with
   | none=>.pointer none
   | some q=>Qb q.b
def Q9 (fb:Nat) (pv sv:Value) (k:Xf):Array Value:=#[Qb fb,.int .i64 k.th,.int .i64 k.no,.int .i64 k.err,.bool k.ok,.int .u64 0,.int .u64 0,.slice none 0 0,pv,.int .u64 k.now,sv,
 .int .u64 k.t.id,.int .i64 k.t.slot,.int .u64 k.t.gen,.int .u64 k.t.dl,.int .u64 k.t.per,.int .u64 k.saw]
abbrev Qi (kb fb:Nat) (pv sv:Value) (k:Xf):List Blk:=[cl kb 176 (Q9 fb pv sv k)]
def qhe (ds:List Nat) (k:Xf) (g:List Blk):Prop:=ds.length=k.nd∧((k.nd=0∧g=[]) ∨
 ∃ m bd v gr,k.nd=m+1∧ds[m]?=some bd∧Qu 173 5 v k.due.length (qd3 k.due) gr∧g=[cl bd 326 #[v]]++gr)
def Z8 (L:Lay) (ws:List Qg) (g:List Blk):Prop:=ws.length=L.qs.length∧J4 (fun (z:ShP × Qg)=>Yf z.1.wb z.2) (L.qs.zip ws) g
abbrev ET:Type:=List Blk × List Nat
structure leT (e e':ET):Prop where
 b:∀ x∈e.1,x∈e'.1
 d:∀ (i:Nat) (n:Nat),e.2[i]?=some n→e'.2[i]?=some n
theorem leT.refl (e:ET):leT e e:=⟨fun _ h=>h,fun _ _ h=>h⟩
theorem leT.trans {a b c:ET} (h:leT a b) (k:leT b c):leT a c:=⟨fun x hx=>k.b x (h.b x hx),fun i n hn=>k.d i n (h.d i n hn)⟩
theorem leT.app (e:ET) (l:List Blk):leT e (e.1++l,e.2):=⟨fun x h=>List.mem_append_left _ h,fun _ _ h=>h⟩
theorem leT.app2 (e:ET) (l:List Blk) (d:Nat):leT e (e.1++l,e.2++[d]):=⟨fun x h=>List.mem_append_left _ h,fun i n h=>by rw [List.getElem?_append_left (List.getElem?_eq_some_iff.1 h).1];exact h⟩
def Y0 (L:Lay) (kb:Nat) (pv:Value) (e:ET) (z:ZT) (gK gF:List Blk):Prop :=
 ∃ gd gC gW gP,qhe e.2 z.k gd∧Qf L z.x gC∧Z8 L z.ws gW∧Xs L.p.pb z.p gP∧gK=Qi kb L.fb pv (Qw L z.k) z.k++(gd++e.1)∧gF=gC++(gW++gP)
def zx (kb bk:Nat) (e:ET):Prop:=cl bk 129 #[Qb kb]∈e.1
def qgi (kb:Nat) (e:ET) (fn:FuncId) (v:Value):Prop:=∃ bk,v=.func (.func fn) #[] #[Qb bk]∧zx kb bk e
def qdl (kb:Nat) (e:ET) (fn:FuncId) (i:Int) (v:Value):Prop:=∃ bk bi,v=.func (.func fn) #[] #[Qb bk,Qb bi]∧zx kb bk e∧cl bi 3 #[.int .i64 i]∈e.1
def qbz (kb:Nat) (e:ET) (fn:FuncId) (d:Nat) (v:Value):Prop:=∃ bk bd,v=.func (.func fn) #[] #[Qb bk,Qb bd]∧zx kb bk e∧e.2[d]?=some bd
def VMT (kb:Nat) (e:ET) (f:MT) (v:Value) (g:List Blk):Prop:=g=[]∧match f with
 | .enter=>v=.func (.func 88) #[Qb kb] #[]
 | .gate=>v=.func (.func 112) #[Qb kb] #[]
 | .tick=>v=.func (.func 136) #[Qb kb] #[]
 | .shards1 i=>qdl kb e 208 i v
 | .one2 d=>qbz kb e 231 d v
 | .one21 d=>qbz kb e 233 d v
 | .one211 d=>qbz kb e 236 d v
 | .one2112 d=>qbz kb e 239 d v
 | .one21121=>qgi kb e 241 v
 | .pops1 n=>qdl kb e 250 n v
 | .pops11 n=>qdl kb e 253 n v
 | .rec1=>qgi kb e 263 v
 | .rec11=>qgi kb e 265 v
 | .fires1 d i=>∃ bk bp bi bd,v=.func (.func 259) #[] #[Qb bk,Qb bp,Qb bi]∧zx kb bk e∧e.2[d]?=some bd∧cl bp 330 #[Qb bd]∈e.1∧cl bi 3 #[.int .i64 i]∈e.1
 | .looks=>v=.func (.func 258) #[Qb kb] #[]
 | .claims=>v=.func (.func 276) #[Qb kb] #[]
 | .claims2=>qgi kb e 289 v
 | .behind=>v=.func (.func 290) #[Qb kb] #[]
 | .rearm1 next=>∃ bk bn,v=.func (.func 302) #[] #[Qb bk,Qb bn]∧zx kb bk e∧cl bn 30 #[.int .u64 next]∈e.1
 | .finishes=>v=.func (.func 304) #[Qb kb] #[]
def VAT (kb:Nat) (e:ET) (f:AT) (v:Value) (g:List Blk):Prop:=g=[]∧match f with
 | .leave1=>qgi kb e 204 v
 | .answer=>qgi kb e 205 v
 | .turnA d=>qbz kb e 237 d v
 | .unlock=>qgi kb e 242 v
 | .put f=>∃ bk bf,v=.func (.func 287) #[] #[Qb bk,Qb bf]∧zx kb bk e∧cl bf 82 f.vals.toArray∈e.1
 | .rel=>qgi kb e 307 v
 | .drop=>qgi kb e 308 v
def VYT (L:Lay) (kb:Nat) (e:ET) (f:YT) (v:Value) (g:List Blk):Prop:=g=[]∧match f with
 | .lock=>qgi kb e 228 v
 | .ready i=>∃ q,L.qs[i]?=some q∧v=.func (.func 249) #[Qb q.b] #[]
def qh8 (L:Lay) (kb:Nat) (pv:Value):qgl :=
 ⟨MT,AT,YT,ZT,ET,leT,Y0 L kb pv,VMT kb,VAT kb,VYT L kb,runT,Xv,qqj,qe0,qfp,qvf⟩
theorem zx.le {kb bk:Nat} {e e':ET} (h:zx kb bk e) (hl:leT e e'):zx kb bk e':=hl.b _ h
theorem qgi.le {kb:Nat} {e e':ET} {fn:FuncId} {v:Value} (h:qgi kb e fn v) (hl:leT e e'):qgi kb e' fn v:=by
 obtain ⟨bk,h1,h2⟩:=h;exact ⟨bk,h1,h2.le hl⟩
theorem qdl.le {kb:Nat} {e e':ET} {fn:FuncId} {i:Int} {v:Value} (h:qdl kb e fn i v) (hl:leT e e'):qdl kb e' fn i v:=by
 obtain ⟨bk,bi,h1,h2,h3⟩:=h;exact ⟨bk,bi,h1,h2.le hl,hl.b _ h3⟩
theorem qbz.le {kb:Nat} {e e':ET} {fn:FuncId} {d:Nat} {v:Value} (h:qbz kb e fn d v) (hl:leT e e'):qbz kb e' fn d v:=by
 obtain ⟨bk,bi,h1,h2,h3⟩:=h;exact ⟨bk,bi,h1,h2.le hl,hl.d _ _ h3⟩
theorem qgi.is {kb:Nat} {e:ET} {fn:FuncId} {v:Value} (h:qgi kb e fn v):∃ fn first caps,v=.func (.func fn) first caps:=by
 obtain ⟨bk,h1,h2⟩:=h;exact ⟨_,_,_,h1⟩
theorem qdl.is {kb:Nat} {e:ET} {fn:FuncId} {i:Int} {v:Value} (h:qdl kb e fn i v):∃ fn first caps,v=.func (.func fn) first caps:=by
 obtain ⟨bk,bi,h1,h2,h3⟩:=h;exact ⟨_,_,_,h1⟩
theorem qbz.is {kb:Nat} {e:ET} {fn:FuncId} {d:Nat} {v:Value} (h:qbz kb e fn d v):∃ fn first caps,v=.func (.func fn) first caps:=by
 obtain ⟨bk,bi,h1,h2,h3⟩:=h;exact ⟨_,_,_,h1⟩
theorem VMT.le {kb:Nat} {e e':ET} {f:MT} {v:Value} {g:List Blk} (hl:leT e e') (h:VMT kb e f v g):VMT kb e' f v g:=by
 refine ⟨h.1,?_⟩
 have:=h.2;cases f
 case fires1 d i=>obtain ⟨bk,bp,bi,bd,h1,h2,h3,h4,h5⟩:=this;exact ⟨bk,bp,bi,bd,h1,h2.le hl,hl.d _ _ h3,hl.b _ h4,hl.b _ h5⟩
 case rearm1 next=>obtain ⟨bk,bn,h1,h2,h3⟩:=this;exact ⟨bk,bn,h1,h2.le hl,hl.b _ h3⟩
 all_goals first | exact this | exact qgi.le this hl | exact qdl.le this hl | exact qbz.le this hl
theorem VAT.le {kb:Nat} {e e':ET} {f:AT} {v:Value} {g:List Blk} (hl:leT e e') (h:VAT kb e f v g):VAT kb e' f v g:=by
 refine ⟨h.1,?_⟩
 have:=h.2;cases f
 case put f=>obtain ⟨bk,bn,h1,h2,h3⟩:=this;exact ⟨bk,bn,h1,h2.le hl,hl.b _ h3⟩
 all_goals first | exact this | exact qgi.le this hl | exact qdl.le this hl | exact qbz.le this hl
theorem Qx (L:Lay) (kb:Nat) (pv:Value) (e:ET):((qh8 L kb pv).on e).Vals where
 vm {f v g} h:=by
  have:=h.2;cases f
  case fires1 d i=>obtain ⟨bk,bp,bi,bd,h1,h2⟩:=this;exact ⟨_,_,_,h1⟩
  case rearm1 next=>obtain ⟨bk,bn,h1,h2⟩:=this;exact ⟨_,_,_,h1⟩
  all_goals first | exact ⟨_,_,_,this⟩ | exact qgi.is this | exact qdl.is this | exact qbz.is this
 va {f v g} h:=by
  have:=h.2;cases f
  case put f=>obtain ⟨bk,bn,h1,h2⟩:=this;exact ⟨_,_,_,h1⟩
  all_goals first | exact qgi.is this | exact qdl.is this | exact qbz.is this
 vy {f v g} h:=by
  have:=h.2;cases f
  ·exact qgi.is this
  ·obtain ⟨q,_,h1⟩:=this;exact ⟨_,_,_,h1⟩
def MRT (L:Lay) (kb:Nat) (pv:Value) (e:ET) (s:ST) (z:ZT) (en:Ending) (gs:GH):Prop :=
 ∃ e',leT e e'∧∃ m d g' gK' gF',en=.returned (.agg #[m,d])∧(qh8 L kb pv).SV e' s m d g'∧Y0 L kb pv e' z gK' gF'∧gs=[g',gK',gF']
def ART (L:Lay) (kb:Nat) (pv:Value) (e:ET) (z:ZT) (en:Ending) (gs:GH):Prop :=
 ∃ e',leT e e'∧∃ gK' gF',en=.returned (.tuple #[])∧Y0 L kb pv e' z gK' gF'∧gs=[[],gK',gF']
def SRT (L:Lay) (kb:Nat) (pv:Value) (s:ST) (en:Ending) (g' l:List Blk):Prop :=
 ∃ m d,en=.returned (.agg #[m,d])∧∀ e:ET,(∀ b∈l,b∈e.1)→(qh8 L kb pv).SV e s m d g'
theorem qkg (fn:FuncId) (a c:Array Value):Qa prog 87 #[.func (.func fn) a c] [] fun en gs=>en=.returned (.agg #[.nilFunc,.func (.func fn) a c])∧gs=[]:=by
 refine GO fun w HT=>?_
 go_enter func87,ntmps87
 go_wp2
 exact bodyPost_ret (v:=.agg #[_,_]) (by simp [results,results87,go_sem]) rfl ⟨_,⟨rfl,rfl⟩,HT.out.alloc0 _⟩
theorem qw8 (n:Int) (h0:0≤n) (h1:n<18446744073709551616):Qe prog 173 #[.int .u64 n] [] (.int .i64 (stW n)):=fun w hw=>(Yv n w h0 h1).mono (by rintro e w' ⟨rfl,rfl⟩;exact ⟨rfl,0,rfl⟩)
theorem q1o (n:Int) (h0:0≤n) (h1:n<18446744073709551616):Qe prog 224 #[.int .u64 n] [] (.bool (Jd n)):=fun w hw=>(qgs n w h0 h1).mono (by rintro e w' ⟨rfl,rfl⟩;exact ⟨rfl,0,rfl⟩)
section
variable {L:Lay} {x:Qj} {gC:List Blk} {kb:Nat} {pv sv:Value} {k:Xf}
theorem za (hx:Qf L x gC) (E:EvS) (hn:x.tr.length≤1000000):Qa prog 89 #[Qb kb,.agg E.cells] [Qi kb L.fb pv sv k,gC] fun e gs =>
 e=.returned (.tuple #[])∧∃ g',Qf L { x with tr:=x.tr++[evT k E] } g'∧gs=[Qi kb L.fb pv sv k,g']:=by
 refine GO fun w HT=>?_
 have HN:=Vh (qhr hx (evT k E) hn);have lt:=HT.out.lt 0 0 rfl;simp only [] at lt;obtain ⟨k0,k1,k2⟩:=Ce3 (HT.out.cell 0 0 rfl) 0 1 2;simp only [Q9,GE3] at k0 k1 k2;clear hx hn;simp only [EvS.cells];go_enter func89,ntmps89
 go_wp2
 go_region
 go_wp2
 have HT:=Vh (HT.out.alloc (k:=w.heap.size) rfl 123 (evT k E).cells).drew;simp only [List.cons_append,List.nil_append] at HT;simp only [EvS.cells,evT] at HT;clear lt k1 k2 k0;generalize World.drew _=w1 at HT ⊢;have k0:=HT.out.cell 0 0 rfl 0;simp only [Q9,GE3] at k0;obtain ⟨b0,b1,b2,b3,b4,b5,b6,b7⟩:=Ce8 (HT.out.cell 2 0 rfl) 0 1 2 3 4 5 6 7;obtain ⟨b8,b9⟩:=Ce2 (HT.out.cell 2 0 rfl) 8 9;simp only [GE4] at b0 b1 b2 b3 b4 b5 b6 b7 b8 b9;refine Qc 5 (by kernel_rfl) (by kernel_rfl) ?_
 simp only [TD4]
 repeat (go_big_quiet_step ((fail)))
 refine wpQuiet_nil (QE fun nq=>?_)
 have HT:=Vh (HT.out.drewN nq);go_wp2_with fail
 refine (Qa.use (HN.out) (HT.out) [1] rfl rfl).mono ?_
 rintro e w1 ⟨gs,⟨rfl,g',hx',rfl⟩,Ta⟩;simp only [PU] at Ta;have HX:=Vh hx';clear hx';have HT:=Vh Ta;clear Ta;go_wp2_with fail
 refine ⟨rfl,?_⟩
 go_wp2
 exact bodyPost_end (results_none rfl _ _ _) rfl ⟨_,⟨rfl,g',HX.out,rfl⟩,HT.out.pick [0,1] rfl⟩
theorem qdy (hx:Qf L x gC) (ho:qo x) (ht:Z3 k.t) (st:Int):Qa prog 264 #[Qb kb,.int .i64 st] [Qi kb L.fb pv sv k,gC] fun e gs =>
 e=.returned (.bool (stW (x.slab.word k.t.slot) == st && Zp (x.slab.word k.t.slot) == k.t.gen && x.slab.mine k.t.id))∧∃ g',Qf L x g'∧gs=[Qi kb L.fb pv sv { k with saw:=x.slab.word k.t.slot },g']:=by
 have HWB:=Vh (J5 ho.slab k.t.slot);have HWD:=Vh (show ∀ g',Qf L x g'→_ from fun g' hx'=>q8 (g:=g') hx' ho.slab.n1 k.t.slot);have HMI:=Vh (show ∀ g',Qf L x g'→_ from fun g' hx'=>qnf (g:=g') hx' ho.slab.n1 k.t.id ht.id.1 ht.id.2);have HX:=Vh hx;generalize x.slab.mine k.t.id=mi at *;obtain ⟨wd,hwd⟩:∃ wd,wd=x.slab.word k.t.slot:=⟨_,rfl⟩;rw [← hwd] at HWB HWD ⊢;have HSW:=Vh (qw8 wd HWB.out.1 HWB.out.2.1);have HGW:=Vh (q3a wd HWB.out.1 HWB.out.2.1);generalize stW wd=sw at *;generalize Zp wd=gw at *;clear ho ht hx hwd HWB;refine GO fun w HT=>?_
 go_enter func264,ntmps264
 go_wp2_with fail
 obtain ⟨ι,W,hW0,hend,hin⟩:∃ (ι:Type) (W:ι→World),(∃ i,World.drew w=W i)∧(∀ i,∃ gx,Qf L x gx∧TG [Qi kb L.fb pv sv k,gC] w [Qi kb L.fb pv sv k,gx] (W i))∧(∀ w',(∃ gx,Qf L x gx∧TG [Qi kb L.fb pv sv k,gC] w [Qi kb L.fb pv sv k,gx] w')→∃ i,w'=W i):=⟨{w' // ∃ gx,Qf L x gx∧TG [Qi kb L.fb pv sv k,gC] w [Qi kb L.fb pv sv k,gx] w'},Subtype.val,⟨⟨_,gC,HX.out,HT.out.drew⟩,rfl⟩,fun i=>i.2,fun w' h=>⟨⟨w',h⟩,rfl⟩⟩;have hne:Nonempty ι:=hW0.elim fun i _=>⟨i⟩
 have k0:∀ i,(W i).cell? ⟨kb,0,none⟩=some (Qb L.fb):=fun i=>by obtain ⟨_,_,T⟩:=hend i;exact T.cell 0 0 rfl 0
 have k12:∀ i,(W i).cell? ⟨kb,12,none⟩=some (.int .i64 k.t.slot):=fun i=>by obtain ⟨_,_,T⟩:=hend i;exact T.cell 0 0 rfl 12
 have m1:∀ i,Calls prog 124 #[Qb L.fb] (W i) fun e w2=>e=.returned (Qb L.p.sb)∧∃ j,w2=W j:=fun i=>by
  obtain ⟨_,hg,T⟩:=hend i;refine (Qa.use ((Qk hg).does) T [1] rfl rfl).mono ?_
  rintro e w2 ⟨gs,⟨rfl,rfl⟩,T2⟩;exact ⟨rfl,hin _ ⟨_,hg,T2⟩⟩
 have m2:∀ i,Calls prog 172 #[Qb L.p.sb,.int .i64 k.t.slot] (W i) fun e w2=>e=.returned (.tuple #[.int .u64 wd,.int .i64 (x.slab.werr k.t.slot)])∧∃ j,w2=W j:=fun i=>by
  obtain ⟨_,hg,T⟩:=hend i;refine (Qa.use (HWD.out _ hg) T [1] rfl rfl).mono ?_
  rintro e w2 ⟨gs,⟨rfl,g3,hg3,rfl⟩,T2⟩;exact ⟨rfl,hin _ ⟨g3,hg3,T2⟩⟩
 refine Zk (fun w'=>∃ i,w'=W i) 17 (by kernel_rfl) (by kernel_rfl) hW0 ?_
 simp only [TD4]
 repeat (go_big_quiet_step ((first | (go_at_call 124;with_reducible exact m1 _) | (go_at_call 172;with_reducible exact m2 _))))
 refine wpQuiet_nil ?_
 intro _ hw';obtain ⟨iq,hw''⟩:=hw';subst hw'';obtain ⟨g1,hx1,T⟩:=hend iq;have HT:=Vh T;generalize W iq=w1 at HT ⊢;clear T hend hin hW0 hne;have HX1:=Vh hx1;clear hx1 k0 k12 m1 m2;have k16:=HT.out.cell 0 0 rfl 16;have fk16:=HT.out.free 0 0 rfl 16;simp only [Q9,GE3] at k16;go_wp2_with fail
 refine ⟨rfl,?_⟩
 have HT:=Vh ((HT.out.set 0 0 rfl 16 (.int .u64 wd)).eq (H':=[Qi kb L.fb pv sv { k with saw:=wd },g1]) rfl);clear k16 fk16;generalize World.setCell _ _ _=w5 at HT ⊢;obtain ⟨k0,k11,k13,k16⟩:=Ce4 (HT.out.cell 0 0 rfl) 0 11 13 16;simp only [Q9,GE3] at k0 k11 k13 k16;cases hb1:(sw == st) with
 | false =>
   go_wp2_with fail
   refine Qc 31 (by kernel_rfl) (by kernel_rfl) ?_
   simp only [TD4]
   repeat (go_big_quiet_step ((first | (go_at_call 173;with_reducible exact Qe.quiet (HSW.out) HT.out _ [] rfl rfl) | (go_at_call 195;with_reducible exact Qe.quiet (HGW.out) HT.out _ [] rfl rfl) | (go_at_call 124;with_reducible exact Qe.quiet (Qk HX1.out) HT.out _ [1] rfl rfl))))
   refine wpQuiet_nil (QE fun nq=>?_)
   have HT:=Vh (HT.out.drewN nq);go_wp2_with fail
   refine ⟨rfl,?_⟩
   clear HSW HGW HMI HWD;go_wp2
   go_ret
   exact ⟨_,⟨by rw [hb1];rfl,g1,HX1.out,rfl⟩,HT.out⟩
 | true =>
   cases hb2:(gw == k.t.gen) with
   | false =>
     go_wp2_with fail
     refine Qc 31 (by kernel_rfl) (by kernel_rfl) ?_
     simp only [TD4]
     repeat (go_big_quiet_step ((first | (go_at_call 173;with_reducible exact Qe.quiet (HSW.out) HT.out _ [] rfl rfl) | (go_at_call 195;with_reducible exact Qe.quiet (HGW.out) HT.out _ [] rfl rfl) | (go_at_call 124;with_reducible exact Qe.quiet (Qk HX1.out) HT.out _ [1] rfl rfl))))
     refine wpQuiet_nil (QE fun nq=>?_)
     have HT:=Vh (HT.out.drewN nq);go_wp2_with fail
     refine ⟨rfl,?_⟩
     clear HSW HGW HMI HWD;go_wp2
     go_ret
     exact ⟨_,⟨by rw [hb1,hb2];rfl,g1,HX1.out,rfl⟩,HT.out⟩
   | true =>
     go_wp2_with fail
     refine Qc 31 (by kernel_rfl) (by kernel_rfl) ?_
     simp only [TD4]
     repeat (go_big_quiet_step ((first | (go_at_call 173;with_reducible exact Qe.quiet (HSW.out) HT.out _ [] rfl rfl) | (go_at_call 195;with_reducible exact Qe.quiet (HGW.out) HT.out _ [] rfl rfl) | (go_at_call 124;with_reducible exact Qe.quiet (Qk HX1.out) HT.out _ [1] rfl rfl))))
     refine wpQuiet_nil (QE fun nq=>?_)
     have HT:=Vh (HT.out.drewN nq);go_wp2_with fail
     refine (Qa.use (HMI.out _ HX1.out) (HT.out) [1] rfl rfl).mono ?_
     rintro e w1 ⟨gs,⟨rfl,g2,hx2,rfl⟩,Ta⟩;simp only [PU] at Ta;have HX2:=Vh hx2;clear hx2 k0 k11 k13 k16;have HT:=Vh Ta;clear Ta;go_wp2_with fail
     refine ⟨rfl,?_⟩
     go_wp2
     go_ret
     exact ⟨_,⟨by rw [hb1,hb2];rfl,g2,HX2.out,rfl⟩,HT.out⟩
theorem qi (hx:Qf L x gC) (ho:qo x) (hs:0≤k.saw∧k.saw<18446744073709551616) (ev:Int):Qa prog 266 #[Qb kb,.int .i64 ev] [Qi kb L.fb pv sv k,gC] fun e gs =>
 e=.returned (.bool ((x.slab.try k.t.slot k.saw ev).2.2 == 0))∧∃ g',Qf L { x with slab:=(x.slab.try k.t.slot k.saw ev).1 } g'∧gs=[Qi kb L.fb pv sv k,g']:=by
 have HY:=Vh (qch hx ho.slab.n1 k.t.slot k.saw ev hs.1 hs.2);have HSL:=Vh (Qk hx);generalize x.slab.try k.t.slot k.saw ev=r at *;clear ho hs hx;refine GO fun w HT=>?_
 obtain ⟨k0,k12,k16⟩:=Ce3 (HT.out.cell 0 0 rfl) 0 12 16;simp only [Q9,GE3] at k0 k12 k16;go_enter func266,ntmps266
 go_wp2_with fail
 refine Qc 15 (by kernel_rfl) (by kernel_rfl) ?_
 simp only [TD4]
 repeat (go_big_quiet_step ((first | (go_at_call 124;with_reducible exact Qe.quiet (HSL.out) HT.out _ [1] rfl rfl))))
 refine wpQuiet_nil (QE fun nq=>?_)
 have HT:=Vh (HT.out.drewN nq);go_wp2_with fail
 refine (Qa.use (HY.out) (HT.out) [1] rfl rfl).mono ?_
 rintro e w1 ⟨gs,⟨rfl,g1,hx1,rfl⟩,Ta⟩;simp only [PU] at Ta;have HX:=Vh hx1;clear hx1 k0 k12 k16;have HT:=Vh Ta;clear Ta;go_wp2_with fail
 refine ⟨rfl,?_⟩
 go_wp2
 go_ret
 exact ⟨_,⟨rfl,g1,HX.out,rfl⟩,HT.out⟩
end
section
variable {L:Lay} {x:Qj} {ws:List Qg} {gC gW:List Blk}
theorem qy1 (hx:Qf L x gC) (hw:Z8 L ws gW) {i:Nat} {q:ShP} {s:Q0} {S:Qg} (hq:L.qs[i]?=some q) (hs:x.shs[i]?=some s) (hS:ws[i]?=some S) (ho:qak S) (t:Qm) (h0:0≤t.slot) (hd:0≤t.dl∧t.dl<18446744073709551616) :
 Qa prog 277 #[Qb q.b,.agg t.cells] [gC,gW] fun e gs=>e=.returned (.tuple #[.int .u64 (qdn S t),.int .i64 0])∧∃ gC' gW',Qf L x gC'∧Z8 L (ws.set i (S.place (qmd S t))) gW'∧gs=[gC',gW']:=by
 obtain ⟨tr,gF,gS,gR,gH,gT,h1,h2,h3,h4,h5,h6,rfl⟩:=hx;obtain ⟨hwl,hwf⟩:=hw;obtain ⟨u,y,⟨gr,gl,hr,hl,rfl⟩,hp,hback⟩:=h5.out (qam hq hs);obtain ⟨u2,y2,hu2,hp2,hback2⟩:=hwf.out (qam hq hS);intro w hh;have T:=((((TG.refl hh).sum (H':=[gF++(gS++(gR++gT)),gH,gW])).permAt 1 rfl hp).permAt 2 rfl hp2).sum (H':=[gF++(gS++(gR++gT)),Xb q.b q.rb q.lb q.wb,gr,gl,y,u2,y2]);refine (Qa.use (qo6 q.b q.rb q.lb hu2 ho t h0 hd) T [1,5] rfl rfl).mono ?_
 rintro e w' ⟨gs,⟨he,g1,hn1,rfl⟩,T'⟩;obtain ⟨gH',hf,hp'⟩:=hback (q,s) (Xb q.b q.rb q.lb q.wb++(gr++gl)) ⟨gr,gl,hr,hl,rfl⟩;rw [Ju i hq] at hf;obtain ⟨gW',hf2,hp2'⟩:=hback2 (q,S.place (qmd S t)) g1 hn1;rw [Ju i hq] at hf2;have hsame:x.shs.set i s=x.shs:=Jq hs;rw [hsame] at hf;refine ⟨_,⟨he,_,gW',⟨tr,gF,gS,gR,gH',gT,h1,h2,h3,h4,hf,h6,rfl⟩,⟨by rw [List.length_set];exact hwl,hf2⟩,rfl⟩,?_⟩
 exact (((TG.sum (H:=[gF++(gS++(gR++gT)),Xb q.b q.rb q.lb q.wb,gr,gl,y,g1,y2]) (H':=[gF++(gS++(gR++gT)),Xb q.b q.rb q.lb q.wb++(gr++gl)++y,g1++y2]) T').permAt 1 rfl hp').permAt 2 rfl hp2').sum
theorem qro (hx:Qf L x gC) (hw:Z8 L ws gW) {i:Nat} {q:ShP} {s:Q0} {S:Qg} (hq:L.qs[i]?=some q) (hs:x.shs[i]?=some s) (hS:ws[i]?=some S) (ho:qak S) :
 Qa prog 238 #[Qb q.b] [gC,gW] fun e gs=>∃ v gr,e=.returned (.tuple #[v,.int .i64 0])∧Qu 173 5 v S.adv.2.length (qd3 (S.adv.2.map qa5.v)) gr∧∃ gC' gW',Qf L x gC'∧Z8 L (ws.set i S.adv.1) gW'∧gs=[gC',gW',gr]:=by
 obtain ⟨tr,gF,gS,gR,gH,gT,h1,h2,h3,h4,h5,h6,rfl⟩:=hx;obtain ⟨hwl,hwf⟩:=hw;obtain ⟨u,y,⟨gr,gl,hr,hl,rfl⟩,hp,hback⟩:=h5.out (qam hq hs);obtain ⟨u2,y2,hu2,hp2,hback2⟩:=hwf.out (qam hq hS);intro w hh;have T:=((((TG.refl hh).sum (H':=[gF++(gS++(gR++gT)),gH,gW])).permAt 1 rfl hp).permAt 2 rfl hp2).sum (H':=[gF++(gS++(gR++gT)),Xb q.b q.rb q.lb q.wb,gr,gl,y,u2,y2]);refine (Qa.use (qmb q.b q.rb q.lb hu2 ho) T [1,5] rfl rfl).mono ?_
 rintro e w' ⟨gs,⟨v,g1,gr1,he,hn1,hrow,rfl⟩,T'⟩;obtain ⟨gH',hf,hp'⟩:=hback (q,s) (Xb q.b q.rb q.lb q.wb++(gr++gl)) ⟨gr,gl,hr,hl,rfl⟩;rw [Ju i hq] at hf;obtain ⟨gW',hf2,hp2'⟩:=hback2 (q,S.adv.1) g1 hn1;rw [Ju i hq] at hf2;have hsame:x.shs.set i s=x.shs:=Jq hs;rw [hsame] at hf;refine ⟨_,⟨v,gr1,he,hrow,_,gW',⟨tr,gF,gS,gR,gH',gT,h1,h2,h3,h4,hf,h6,rfl⟩,⟨by rw [List.length_set];exact hwl,hf2⟩,rfl⟩,?_⟩
 exact (((TG.sum (H:=[gF++(gS++(gR++gT)),Xb q.b q.rb q.lb q.wb,gr,gl,y,g1,y2,gr1]) (H':=[gF++(gS++(gR++gT)),Xb q.b q.rb q.lb q.wb++(gr++gl)++y,g1++y2,gr1]) T').permAt 1 rfl hp').permAt 2 rfl hp2').sum
theorem qae (hx:Qf L x gC) {i:Nat} {q:ShP} {s:Q0} (hq:L.qs[i]?=some q) (hs:x.shs[i]?=some s) :
 Qa prog 229 #[Qb q.b] [gC] fun e gs=>e=.returned (Qb q.lb)∧∃ g',Qf L x g'∧gs=[g']:=by
 have:=z6 (v:=Qb q.lb) hx hq hs (fun g hg=>by
  obtain ⟨gr,gl,hr,hl,rfl⟩:=hg;intro w hw;have T:=(TG.refl hw).sum (H':=[Xb q.b q.rb q.lb q.wb,gr,gl]);refine (Qa.use (qkm q.b q.rb q.lb q.wb) T [0] rfl rfl).mono ?_
  rintro e w' ⟨gs,⟨he,rfl⟩,T'⟩
  exact ⟨_,⟨he,_,⟨gr,gl,hr,hl,rfl⟩,rfl⟩,TG.sum (H:=[Xb q.b q.rb q.lb q.wb,gr,gl]) T'⟩)
 rwa [Yp hs] at this
theorem qc2 {F:Nat} {args:Array Value} {v:Value} {who' n':Int} (hx:Qf L x gC) {i:Nat} {q:ShP} {s:Q0} (hq:L.qs[i]?=some q) (hs:x.shs[i]?=some s)
 (hd:∀ g,Yk q.lb s.who s.turns g→Qa prog F args [g] fun e gs=>e=.returned v∧∃ g',Yk q.lb who' n' g'∧gs=[g']) :
 Qa prog F args [gC] fun e gs=>e=.returned v∧∃ g',Qf L { x with shs:=x.shs.set i { s with who:=who',turns:=n' } } g'∧gs=[g'] :=
 z6 hx hq hs (fun g hg=>by
  obtain ⟨gr,gl,hr,hl,rfl⟩:=hg;intro w hw;have T:=(TG.refl hw).sum (H':=[Xb q.b q.rb q.lb q.wb,gr,gl]);refine (Qa.use (hd gl hl) T [2] rfl rfl).mono ?_
  rintro e w' ⟨gs,⟨he,g1,hn1,rfl⟩,T'⟩
  exact ⟨_,⟨he,_,⟨gr,g1,hr,hn1,rfl⟩,rfl⟩,TG.sum (H:=[Xb q.b q.rb q.lb q.wb,gr,g1]) T'⟩)
end
section
variable {L:Lay} {x:Qj} {ws:List Qg} {gC gW:List Blk} {kb:Nat} {pv:Value} {k:Xf}
theorem qrr (hx:Qf L x gC) (hw:Z8 L ws gW) {i:Nat} {q:ShP} {s:Q0} {S:Qg} (hq:L.qs[i]?=some q) (hs:x.shs[i]?=some s) (hS:ws[i]?=some S) (ho:qak S) (h0:0≤k.t.slot) (hd:0≤k.t.dl∧k.t.dl<18446744073709551616) (hn:x.tr.length≤1000000) :
 Qa prog 267 #[Qb kb] [Qi kb L.fb pv (Qb q.b) k,gC,gW] fun e gs=>e=.returned (.tuple #[])∧∃ gC' gW',Qf L { x with tr:=x.tr++[evT k { ev0 with kind:=4,id:=k.t.id,gen:=k.t.gen,dl:=qdn S k.t }] } gC' ∧
  Z8 L (ws.set i (S.place (qmd S k.t))) gW'∧gs=[Qi kb L.fb pv (Qb q.b) k,gC',gW']:=by
 have HA:=Vh (qy1 hx hw hq hs hS ho k.t h0 hd);have HN:=Vh (show ∀ g E,Qf L x g→_ from fun g E hg=>za (kb:=kb) (pv:=pv) (sv:=Qb q.b) (k:=k) (gC:=g) hg E hn);generalize S.place (qmd S k.t)=S1 at *;generalize qdn S k.t=dd at *;simp only [Qm.cells] at HA;clear hx hw hs hS ho hn h0 hd;refine GO fun w HT=>?_
 obtain ⟨k10,k11,k12,k13,k14,k15⟩:=Ce6 (HT.out.cell 0 0 rfl) 10 11 12 13 14 15;simp only [Q9,GE3] at k10 k11 k12 k13 k14 k15;go_enter func267,ntmps267
 go_wp2_with fail
 refine Qc 8 (by kernel_rfl) (by kernel_rfl) ?_
 simp only [TD4]
 repeat (go_big_quiet_step ((fail)))
 refine wpQuiet_nil (QE fun nq=>?_)
 have HT:=Vh (HT.out.drewN nq);go_wp2_with fail
 refine (Qa.use (HA.out) (HT.out) [1,2] rfl rfl).mono ?_
 rintro e w1 ⟨gs,⟨rfl,g1,g2,hx1,hw1,rfl⟩,Ta⟩;simp only [PU] at Ta;have HX:=Vh hx1;have HW:=Vh hw1;clear hx1 hw1 k10 k11 k12 k13 k14 k15;have HT:=Vh Ta;clear Ta;go_wp2_with fail
 refine ⟨rfl,?_⟩
 obtain ⟨k11,k13⟩:=Ce2 (HT.out.cell 0 0 rfl) 11 13;simp only [Q9,GE3] at k11 k13;go_wp2_with fail
 refine Qc 13 (by kernel_rfl) (by kernel_rfl) ?_
 simp only [TD4]
 repeat (go_big_quiet_step ((fail)))
 refine wpQuiet_nil (QE fun nq=>?_)
 have HT:=Vh (HT.out.drewN nq);go_wp2_with fail
 refine (Qa.use (HN.out _ { ev0 with kind:=4,id:=k.t.id,gen:=k.t.gen,dl:=dd } HX.out) (HT.out) [0,1] rfl rfl).mono ?_
 rintro e w1 ⟨gs,⟨rfl,g3,hx3,rfl⟩,Ta⟩;simp only [PU] at Ta;have HX3:=Vh hx3;clear hx3 k11 k13;have HT:=Vh Ta;clear Ta;go_wp2_with fail
 refine ⟨rfl,?_⟩
 go_wp2
 exact bodyPost_end (results_none rfl _ _ _) rfl ⟨_,⟨rfl,g3,g2,HX3.out,HW.out,rfl⟩,HT.out.pick [0,1,2] rfl⟩
end
section
variable {L:Lay} {x:Qj} {ws:List Qg} {p:Qy} {e:ET} {g gC gK gF:List Blk} {kb:Nat} {pv sv:Value} {k:Xf}
theorem qte (L:Lay) (kb:Nat) (pv:Value):Qa prog 163 #[Qb kb] [] fun en gs=>∃ g' l,SRT L kb pv qcx en g' l∧gs=[g',l]:=by
 refine GO fun w HT=>?_
 go_enter func163,ntmps163
 go_wp2_with fail
 refine Qa.run (Cli.row_1 (b:=w.heap.size+1+1) (o:=0) (D:=#[.func (.func 204) #[] #[Qb w.heap.size],.func (.func 205) #[] #[Qb w.heap.size]]) rfl 2 (.inr rfl)) (((HT.out.alloc (k:=w.heap.size) rfl _ _).alloc (k:=w.heap.size+1) (by simp) _ _).alloc (k:=w.heap.size+1+1) (by simp) _ _) [2] ?_
 rintro e w1 gs ⟨bf,bl,bi,rfl,rfl⟩ HT;simp only [PU] at HT;obtain ⟨e0,e1⟩:=Ce2 (HT.out.cell 1 0 rfl) 0 1;obtain ⟨fe0,fe1⟩:=Ce2 (HT.out.free 1 0 rfl) 0 1;simp only [GE4] at e0 e1;go_wp2
 exact bodyPost_ret (v:=.agg #[.nilFunc,_]) (by simp [results,results163,go_sem,e0,e1]) rfl ⟨_,⟨_,[cl w.heap.size 129 #[Qb kb]],⟨_,_,rfl,fun e he=>⟨rfl,bf,bl,bi,w.heap.size+1+1,.func (.func 204) #[] #[Qb w.heap.size],.func (.func 205) #[] #[Qb w.heap.size],[],[],rfl,⟨rfl,w.heap.size,rfl,he _ (by simp)⟩,⟨rfl,w.heap.size,rfl,he _ (by simp)⟩,rfl⟩⟩,rfl⟩,(((HT.out.set 1 0 rfl 0 _).set 1 0 rfl 1 _).pick [2,3,4,5,0] rfl).sum⟩
theorem qzg (hx:Qf L x gC) (er:Int) (hn:x.tr.length≤1000000):Qa prog 135 #[Qb kb,.int .i64 er] [Qi kb L.fb pv sv k,gC] fun en gs =>
 ∃ g' l gC',SRT L kb pv qcx en g' l∧Qf L { x with tr:=x.tr++[evT k { ev0 with kind:=9,err:=er }] } gC'∧gs=[g',l,Qi kb L.fb pv sv { k with err:=er,ok:=false },gC']:=by
 have HN:=Vh (za (kb:=kb) (pv:=pv) (sv:=sv) (k:=k) hx { ev0 with kind:=9,err:=er } hn);clear hx hn;refine GO fun w HT=>?_
 have lt:=HT.out.lt 0 0 rfl;simp only [] at lt;go_enter func135,ntmps135
 go_wp2_with fail
 refine (Qa.use (HN.out) (HT.out.alloc (k:=w.heap.size) rfl 180 #[.nilFunc,.nilFunc]) [0,1] rfl rfl).mono ?_
 rintro e w1 ⟨gs,⟨rfl,g1,hx1,rfl⟩,Ta⟩;simp only [PU] at Ta;have HX:=Vh hx1;clear hx1;have HT:=Vh Ta;clear Ta;obtain ⟨k3,k4,k5,k6,k7⟩:=Ce5 (HT.out.cell 0 0 rfl) 3 4 5 6 7;obtain ⟨fk3,fk4,fk5,fk6,fk7⟩:=Ce5 (HT.out.free 0 0 rfl) 3 4 5 6 7;simp only [Q9,GE3] at k3 k4 k5 k6 k7;go_wp2_with fail
 refine Qa.run (qte L kb pv) (((((((HT.out.set 0 0 rfl 3 (.int .i64 er)).set 0 0 rfl 4 (.bool false)).set 0 0 rfl 5 (.int .u64 0)).set 0 0 rfl 6 (.int .u64 0)).set 0 0 rfl 7 (.slice none 0 0)).eq (H':=[Qi kb L.fb pv sv { k with err:=er,ok:=false },g1,[cl w.heap.size 180 #[.nilFunc,.nilFunc]]]) rfl)) [] ?_
 rintro e w1 gs ⟨g2,l2,⟨m2,d2,rfl,hs2⟩,rfl⟩ HT;simp only [PU] at HT;obtain ⟨r0,r1⟩:=Ce2 (HT.out.cell 2 0 rfl) 0 1;obtain ⟨fr0,fr1⟩:=Ce2 (HT.out.free 2 0 rfl) 0 1;simp only [GE4] at r0 r1;have hv2:=(Qx L kb pv (l2,[])).vals (hs2 (l2,[]) (fun _ h=>h));obtain ⟨st1,st2⟩:=Cli.store_fv2 (P:=prog) hv2.1 hv2.2 r0 fr0 r1 fr1;have HS:=Vh hs2;clear hv2 hs2;go_wp2
 exact bodyPost_ret (v:=.agg #[_,_]) (by simp [results,results135,go_sem,r0,r1]) rfl ⟨_,⟨g2,l2,g1,⟨m2,d2,rfl,HS.out⟩,HX.out,rfl⟩,((HT.out.set 2 0 rfl 0 _).set 2 0 rfl 1 _).pick [3,4,0,1] rfl⟩
theorem q0r (hz:Y0 L kb pv e ⟨k,x,ws,p⟩ gK gF) (hp:qe0 .enter ⟨k,x,ws,p⟩):Qa prog 88 #[Qb kb] [gK,gF] (MRT L kb pv e (runT .enter ⟨k,x,ws,p⟩).1 (runT .enter ⟨k,x,ws,p⟩).2):=by
 have hi0:=hp.1.core.i0;have hi1:=hp.1.core.i1;simp only at hi0 hi1;clear hp;unfold MRT;dsimp only [runT]
 obtain ⟨gd,gC,gW,gP,hd,hx,hw,hpp,rfl,rfl⟩:=hz;refine GO fun w HT=>?_
 have HT:=Vh (HT.out.sum (H':=[Qi kb L.fb pv (Qw L k) k,gd,e.1,gC,gW,gP]));have HX:=Vh hx;have HD:=Vh hd;have HW:=Vh hw;have HPP:=Vh hpp;clear hx hd hw hpp;have k0:=HT.out.cell 0 0 rfl 0;simp only [Q9,GE3] at k0;have lt:=HT.out.lt 0 0 rfl;simp only [] at lt;have HE:=Vh (qjt HX.out ⟨hi0,hi1⟩);clear hi0 hi1;go_enter func88,ntmps88
 go_wp2_with fail
 refine (Qa.use (HE.out) (HT.out.alloc (k:=w.heap.size) rfl _ _) [3] rfl rfl).mono ?_
 rintro e w1 ⟨gs,⟨rfl,g1,hx1,rfl⟩,Ta⟩;simp only [PU] at Ta;have HX:=Vh hx1;clear hx1 k0 lt;have HT:=Vh Ta;clear Ta;go_wp2_with fail
 refine Qa.run (qkg _ _ _) (HT.out) [] ?_
 rintro e w1 gs ⟨rfl,rfl⟩ HT;simp only [PU] at HT;obtain ⟨r0,r1⟩:=Ce2 (HT.out.cell 6 0 rfl) 0 1;obtain ⟨fr0,fr1⟩:=Ce2 (HT.out.free 6 0 rfl) 0 1;simp only [GE4] at r0 r1;go_wp2
 exact bodyPost_ret (v:=.agg #[_,_]) (by simp [results,results88,go_sem,r0,r1]) rfl ⟨_,⟨e,leT.refl e,_,_,[],_,_,rfl,⟨rfl,rfl,rfl⟩,⟨gd,_,gW,gP,HD.out,HX.out,HW.out,HPP.out,rfl,rfl⟩,rfl⟩,(((HT.out.set 6 0 rfl 0 _).set 6 0 rfl 1 _).pick [0,1,2,3,4,5] rfl).sum⟩
theorem q3d (hz:Y0 L kb pv e ⟨k,x,ws,p⟩ gK gF) (hp:qe0 .gate ⟨k,x,ws,p⟩):Qa prog 112 #[Qb kb] [gK,gF] (MRT L kb pv e (runT .gate ⟨k,x,ws,p⟩).1 (runT .gate ⟨k,x,ws,p⟩).2):=by
 have HLN:=Vh hp.1.core.tr;simp only at HLN;clear hp;cases hc:x.f.closed with
 | false =>
   have he:runT .gate ⟨k,x,ws,p⟩=(.at none .tick,⟨k,x,ws,p⟩):=by simp [runT,hc]
   rw [he];clear he;unfold MRT;obtain ⟨gd,gC,gW,gP,hd,hx,hw,hpp,rfl,rfl⟩:=hz;refine GO fun w HT=>?_
   have HT:=Vh (HT.out.sum (H':=[Qi kb L.fb pv (Qw L k) k,gd,e.1,gC,gW,gP]));have HX:=Vh hx;have HD:=Vh hd;have HW:=Vh hw;have HPP:=Vh hpp;clear hx hd hw hpp;have k0:=HT.out.cell 0 0 rfl 0;simp only [Q9,GE3] at k0;have lt:=HT.out.lt 0 0 rfl;simp only [] at lt;have hcl:=Yt HX.out;rw [hc] at hcl;have HCL:=Vh hcl;clear hcl hc;go_enter func112,ntmps112
   go_wp2_with fail
   refine (Qa.use (HCL.out) (HT.out.alloc (k:=w.heap.size) rfl _ _) [3] rfl rfl).mono ?_
   rintro e w1 ⟨gs,⟨rfl,g1,hx1,rfl⟩,Ta⟩;simp only [PU] at Ta;have HX:=Vh hx1;clear hx1 k0 lt;have HT:=Vh Ta;clear Ta;go_wp2_with fail
   refine Qa.run (qkg _ _ _) (HT.out) [] ?_
   rintro e w1 gs ⟨rfl,rfl⟩ HT;simp only [PU] at HT;obtain ⟨r0,r1⟩:=Ce2 (HT.out.cell 6 0 rfl) 0 1;obtain ⟨fr0,fr1⟩:=Ce2 (HT.out.free 6 0 rfl) 0 1;simp only [GE4] at r0 r1;go_wp2
   exact bodyPost_ret (v:=.agg #[_,_]) (by simp [results,results112,go_sem,r0,r1]) rfl ⟨_,⟨e,leT.refl e,_,_,[],_,_,rfl,⟨rfl,rfl,rfl⟩,⟨gd,_,gW,gP,HD.out,HX.out,HW.out,HPP.out,rfl,rfl⟩,rfl⟩,(((HT.out.set 6 0 rfl 0 _).set 6 0 rfl 1 _).pick [0,1,2,3,4,5] rfl).sum⟩
 | true =>
   have he:runT .gate ⟨k,x,ws,p⟩=(qcx,⟨{ k with err:=3,ok:=false },{ x with tr:=x.tr++[evT k { ev0 with kind:=9,err:=3 }] },ws,p⟩):=by
    simp [runT,hc,qz,ZT.note]
   rw [he];clear he;unfold MRT;obtain ⟨gd,gC,gW,gP,hd,hx,hw,hpp,rfl,rfl⟩:=hz;refine GO fun w HT=>?_
   have HT:=Vh (HT.out.sum (H':=[Qi kb L.fb pv (Qw L k) k,gd,e.1,gC,gW,gP]));have HX:=Vh hx;have HD:=Vh hd;have HW:=Vh hw;have HPP:=Vh hpp;clear hx hd hw hpp;have k0:=HT.out.cell 0 0 rfl 0;simp only [Q9,GE3] at k0;have lt:=HT.out.lt 0 0 rfl;simp only [] at lt;have hcl:=Yt HX.out;rw [hc] at hcl;have HCL:=Vh hcl;clear hcl hc;go_enter func112,ntmps112
   go_wp2_with fail
   refine (Qa.use (HCL.out) (HT.out.alloc (k:=w.heap.size) rfl _ _) [3] rfl rfl).mono ?_
   rintro e w1 ⟨gs,⟨rfl,g1,hx1,rfl⟩,Ta⟩;simp only [PU] at Ta;have HX:=Vh hx1;clear hx1 k0 lt;have HT:=Vh Ta;clear Ta;go_wp2_with fail
   refine (Qa.use (qzg HX.out 3 HLN.out) (HT.out) [0,3] rfl rfl).mono ?_
   rintro e w1 ⟨gs,⟨g2,l2,g3,⟨m2,d2,rfl,hs2⟩,hx3,rfl⟩,Ta⟩;simp only [PU] at Ta;have HX:=Vh hx3;clear hx3;have HT:=Vh Ta;clear Ta;obtain ⟨r0,r1⟩:=Ce2 (HT.out.cell 6 0 rfl) 0 1;obtain ⟨fr0,fr1⟩:=Ce2 (HT.out.free 6 0 rfl) 0 1;simp only [GE4] at r0 r1;have hv2:=(Qx L kb pv (l2,[])).vals (hs2 (l2,[]) (fun _ h=>h));obtain ⟨st1,st2⟩:=Cli.store_fv2 (P:=prog) hv2.1 hv2.2 r0 fr0 r1 fr1;have HS:=Vh hs2;clear hv2 hs2;go_wp2
   exact bodyPost_ret (v:=.agg #[_,_]) (by simp [results,results112,go_sem,r0,r1]) rfl ⟨_,⟨(e.1++l2,e.2),leT.app e l2,m2,d2,g2,_,_,rfl,HS.out _ (fun b hb=>List.mem_append_right _ hb),⟨gd,g3,gW,gP,HD.out,HX.out,HW.out,HPP.out,rfl,rfl⟩,rfl⟩,(((HT.out.set 6 0 rfl 0 _).set 6 0 rfl 1 _).pick [0,7,1,2,3,8,4,5] rfl).sum (H':=[g2,Qi kb L.fb pv (Qw L k) { k with err:=3,ok:=false }++(gd++(e.1++l2)),g3++(gW++gP)])⟩
theorem tOne (kb:Nat):Qa prog 207 #[Qb kb] [] fun en gs=>∃ bk bd,en=.returned (.agg #[.func (.func 228) #[] #[Qb bk],.func (.func 231) #[] #[Qb bk,Qb bd]]) ∧
 gs=[[cl bk 129 #[Qb kb]],[cl bd 326 #[.slice none 0 0]]]:=by
 refine GO fun w HT=>?_
 go_enter func207,ntmps207
 go_wp2_with fail
 refine Qa.run (qd5 _ _ _ _ _ _) (((HT.out.alloc (k:=w.heap.size) rfl _ _).alloc (k:=w.heap.size+1) (by simp) _ _).alloc (k:=w.heap.size+1+1) (by simp) _ _) [] ?_
 rintro e w1 gs ⟨rfl,rfl⟩ HT;simp only [PU] at HT;obtain ⟨r0,r1⟩:=Ce2 (HT.out.cell 1 0 rfl) 0 1;obtain ⟨fr0,fr1⟩:=Ce2 (HT.out.free 1 0 rfl) 0 1;simp only [GE4] at r0 r1;go_wp2
 exact bodyPost_ret (v:=.agg #[_,_]) (by simp [results,results207,go_sem,r0,r1]) rfl ⟨_,⟨w.heap.size,w.heap.size+1+1,rfl,rfl⟩,((HT.out.set 1 0 rfl 0 _).set 1 0 rfl 1 _).pick [0,2] rfl⟩
theorem qoq {i:Nat} (hx:Qf L x gC) (hi:¬ i<x.shs.length):qah (L.qs.map ShP.b) i=.pointer none:=by
 obtain ⟨tr,gF,gS,gR,gH,gT,h1,h2,h3,h4,h5,h6,rfl⟩:=hx;unfold qah;rw [if_neg (by simp;omega)]
def ShR (L:Lay) (kb:Nat) (pv:Value) (e:ET) (s:ST) (z:ZT) (en:Ending) (gs:GH):Prop :=
 ∃ (l:List Blk) (ds:List Nat) (m d:Value) (g' gd' gC':List Blk),en=.returned (.agg #[m,d])∧(∀ e1:ET,(∀ b∈l,b∈e1.1)→e1.2=ds→(qh8 L kb pv).SV e1 s m d g')∧qhe ds z.k gd'∧leT e (e.1++l,ds)∧Qf L z.x gC' ∧
   gs=[g',l,Qi kb L.fb pv (Qw L z.k) z.k,gd',gC']
theorem qse {gd:List Blk} (hx:Qf L x gC) (hd:qhe e.2 k gd) (i:Nat) (hi:i≤65):Qa prog 165 #[Qb kb,.int .i64 i] [Qi kb L.fb pv (Qw L k) k,gd,gC]
 (ShR L kb pv e (Zj i ⟨k,x,ws,p⟩).1 (Zj i ⟨k,x,ws,p⟩).2):=by
 have HX:=Vh hx;have HD:=Vh hd;have hsh:=qh1 hx i;unfold ShR;by_cases hlt:i<x.shs.length
 ·obtain ⟨q,hq,hv⟩:=qwr hx hlt
  rw [hv] at hsh;have HSH:=Vh hsh;have he:Zj i ⟨k,x,ws,p⟩=(.thn (.at (some .lock) (.one2 k.nd)) (.shards1 i),⟨{ k with s:=some i,nd:=k.nd+1,due:=[] },x,ws,p⟩):=if_pos hlt;rw [he];dsimp only
  have hsv:Qw L ({ k with s:=some i,nd:=k.nd+1,due:=[] }:Xf)=Qb q.b:=by simp [Qw,hq]
  rw [hsv];clear he hsh hv hlt hx hd hq hsv;refine GO fun w HT=>?_
  go_enter func165,ntmps165
  go_wp2_with fail
  have HT:=Vh (((HT.out.alloc (k:=w.heap.size) rfl 129 #[Qb kb]).alloc (k:=w.heap.size+1) (by simp) 3 #[.int .i64 i]).alloc (k:=w.heap.size+1+1) (by simp) 180 #[.nilFunc,.nilFunc]);obtain ⟨b1,hb1⟩:∃ b1,b1=w.heap.size:=⟨_,rfl⟩;obtain ⟨b2,hb2⟩:∃ b2,b2=w.heap.size+1:=⟨_,rfl⟩;obtain ⟨b3,hb3⟩:∃ b3,b3=w.heap.size+1+1:=⟨_,rfl⟩;rw [← hb3,← hb2,← hb1] at HT ⊢;clear hb1 hb2 hb3;generalize World.alloc (World.alloc (World.alloc w _) _) _=w1 at HT ⊢;have k0:=HT.out.cell 0 0 rfl 0;simp only [Q9,GE3] at k0;have a0:=HT.out.cell 3 0 rfl 0;simp only [GE4] at a0;have b0:=HT.out.cell 4 0 rfl 0;simp only [GE4] at b0;go_quiet ((first | (go_at_call 181;with_reducible exact Qe.quiet (HSH.out) HT.out _ [2] rfl rfl)))
  have HT:=Vh (HT.out.drewN nq);clear k0 a0 b0;have k10:=HT.out.cell 0 0 rfl 10;have fk10:=HT.out.free 0 0 rfl 10;simp only [Q9,GE3] at k10;have a0:=HT.out.cell 3 0 rfl 0;simp only [GE4] at a0;go_wp2_with fail
  refine (Qa.use (tOne kb) (((HT.out.set 0 0 rfl 10 (Qb q.b)).eq (H':=[Qi kb L.fb pv (Qb q.b) k,gd,gC,[cl b1 129 #[Qb kb]],[cl b2 3 #[.int .i64 i]],[cl b3 180 #[.nilFunc,.nilFunc]]]) rfl)) [] rfl rfl).mono ?_
  rintro e w1 ⟨gs,⟨bk2,bd,rfl,rfl⟩,Ta⟩;simp only [PU] at Ta;clear k10 fk10 a0;have HT:=Vh Ta;clear Ta
  have HDS:=Vh (show (e.2++[bd])[k.nd]?=some bd from by
   have:=HD.out.1;rw [List.getElem?_append_right (by omega)]
   simp [this])
  go_wp2_with fail
  refine Qa.run (Cli.prog_then_x (c:=(qh8 L kb pv).on ([cl bk2 129 #[Qb kb],cl b1 129 #[Qb kb],cl b2 3 #[.int .i64 i]],e.2++[bd])) (s:=.at (some .lock) (.one2 k.nd)) (f:=MT.shards1 i) (v:=.func (.func 208) #[] #[Qb b1,Qb b2]) (g:=[]) (gm:=[]) (Qx L kb pv _) rfl ⟨[],[],⟨rfl,bk2,rfl,by simp [zx]⟩,⟨rfl,bk2,bd,rfl,by simp [zx],HDS.out⟩,rfl⟩ ⟨rfl,b1,b2,rfl,by simp [zx],by simp⟩) (HT.out.sum (H':=[Qi kb L.fb pv (Qb q.b) k,gd,gC,[cl b1 129 #[Qb kb]],[cl b2 3 #[.int .i64 i]],[cl b3 180 #[.nilFunc,.nilFunc]],[cl bk2 129 #[Qb kb]],[cl bd 326 #[.slice none 0 0]],[],[]])) [8,9] ?_
  rintro e w1 gs ⟨bs,br,rfl,rfl⟩ HT;simp only [PU] at HT;obtain ⟨r0,r1⟩:=Ce2 (HT.out.cell 5 0 rfl) 0 1;obtain ⟨fr0,fr1⟩:=Ce2 (HT.out.free 5 0 rfl) 0 1;simp only [GE4] at r0 r1;go_wp2
  exact bodyPost_ret (v:=.agg #[_,_]) (by simp [results,results165,go_sem,r0,r1]) rfl ⟨_,⟨[cl bk2 129 #[Qb kb],cl b1 129 #[Qb kb],cl b2 3 #[.int .i64 i]],e.2++[bd],_,_,_,[cl bd 326 #[.slice none 0 0]],gC,rfl,fun e1 he hd2=>⟨bs,br,_,_,[],[],rfl,rfl,⟨[],[],⟨rfl,bk2,rfl,he _ (by simp)⟩,⟨rfl,bk2,bd,rfl,he _ (by simp),by rw [hd2];exact HDS.out⟩,rfl⟩,⟨rfl,b1,b2,rfl,he _ (by simp),he _ (by simp)⟩,rfl⟩,
   ⟨by simp [HD.out.1],.inr ⟨k.nd,bd,.slice none 0 0,[],rfl,HDS.out,Zi _ _,rfl⟩⟩,leT.app2 e _ bd,HX.out,rfl⟩,(((HT.out.set 5 0 rfl 0 _).set 5 0 rfl 1 _).pick [8,6,3,4,0,7,2] rfl).sum (H':=[[cl bs 180 #[.func (.func 228) #[] #[Qb bk2],.func (.func 231) #[] #[Qb bk2,Qb bd]],cl br 178 #[.func (.func 208) #[] #[Qb b1,Qb b2]]]++[]++[],[cl bk2 129 #[Qb kb],cl b1 129 #[Qb kb],cl b2 3 #[.int .i64 i]],Qi kb L.fb pv (Qb q.b) k,[cl bd 326 #[.slice none 0 0]],gC])⟩
 ·rw [qoq hx hlt] at hsh
  have HSH:=Vh hsh;have he:Zj i ⟨k,x,ws,p⟩=(qcx,⟨{ k with err:=0,ok:=true },x,ws,p⟩):=if_neg hlt;rw [he];dsimp only
  clear he hsh hlt hx hd;refine GO fun w HT=>?_
  go_enter func165,ntmps165
  go_wp2_with fail
  have HT:=Vh (((HT.out.alloc (k:=w.heap.size) rfl 129 #[Qb kb]).alloc (k:=w.heap.size+1) (by simp) 3 #[.int .i64 i]).alloc (k:=w.heap.size+1+1) (by simp) 180 #[.nilFunc,.nilFunc]);obtain ⟨b1,hb1⟩:∃ b1,b1=w.heap.size:=⟨_,rfl⟩;obtain ⟨b2,hb2⟩:∃ b2,b2=w.heap.size+1:=⟨_,rfl⟩;obtain ⟨b3,hb3⟩:∃ b3,b3=w.heap.size+1+1:=⟨_,rfl⟩;rw [← hb3,← hb2,← hb1] at HT ⊢;clear hb1 hb2 hb3;generalize World.alloc (World.alloc (World.alloc w _) _) _=w1 at HT ⊢;have k0:=HT.out.cell 0 0 rfl 0;simp only [Q9,GE3] at k0;have a0:=HT.out.cell 3 0 rfl 0;simp only [GE4] at a0;have b0:=HT.out.cell 4 0 rfl 0;simp only [GE4] at b0;go_quiet ((first | (go_at_call 181;with_reducible exact Qe.quiet (HSH.out) HT.out _ [2] rfl rfl)))
  have HT:=Vh (HT.out.drewN nq);clear k0 a0 b0;obtain ⟨k3,k4,k5,k6,k7⟩:=Ce5 (HT.out.cell 0 0 rfl) 3 4 5 6 7;obtain ⟨fk3,fk4,fk5,fk6,fk7⟩:=Ce5 (HT.out.free 0 0 rfl) 3 4 5 6 7;simp only [Q9,GE3] at k3 k4 k5 k6 k7;have a0:=HT.out.cell 3 0 rfl 0;simp only [GE4] at a0;have ne1:=HT.out.ne 0 0 3 0 (by decide) rfl rfl;simp only [] at ne1;have ne2:=Ne.symm ne1;go_wp2_with fail
  refine (Qa.use (qte L kb pv) (((((((HT.out.set 0 0 rfl 3 (.int .i64 0)).set 0 0 rfl 4 (.bool true)).set 0 0 rfl 5 (.int .u64 0)).set 0 0 rfl 6 (.int .u64 0)).set 0 0 rfl 7 (.slice none 0 0)).eq (H':=[Qi kb L.fb pv (Qw L k) { k with err:=0,ok:=true },gd,gC,[cl b1 129 #[Qb kb]],[cl b2 3 #[.int .i64 i]],[cl b3 180 #[.nilFunc,.nilFunc]]]) rfl)) [] rfl rfl).mono ?_
  rintro e w1 ⟨gs,⟨g2,l2,⟨m2,d2,rfl,hs2⟩,rfl⟩,Ta⟩;simp only [PU] at Ta;clear k3 k4 k5 k6 k7 fk3 fk4 fk5 fk6 fk7 a0 ne1 ne2;have HT:=Vh Ta;clear Ta;obtain ⟨r0,r1⟩:=Ce2 (HT.out.cell 5 0 rfl) 0 1;obtain ⟨fr0,fr1⟩:=Ce2 (HT.out.free 5 0 rfl) 0 1;simp only [GE4] at r0 r1;have hv2:=(Qx L kb pv (l2,[])).vals (hs2 (l2,[]) (fun _ h=>h));obtain ⟨st1,st2⟩:=Cli.store_fv2 (P:=prog) hv2.1 hv2.2 r0 fr0 r1 fr1;have HS:=Vh hs2;clear hv2 hs2;go_wp2
  exact bodyPost_ret (v:=.agg #[_,_]) (by simp [results,results165,go_sem,r0,r1]) rfl ⟨_,⟨l2,e.2,m2,d2,g2,gd,gC,rfl,fun e1 he _=>HS.out e1 he,HD.out,leT.app e l2,HX.out,rfl⟩,(((HT.out.set 5 0 rfl 0 _).set 5 0 rfl 1 _).pick [6,7,0,1,2] rfl).eq rfl⟩
theorem qu9 (i:Nat) (hz:Y0 L kb pv e ⟨k,x,ws,p⟩ gK gF) (hp:qe0 (.shards1 i) ⟨k,x,ws,p⟩) (bk bi:Nat) (hb:zx kb bk e) (hbi:cl bi 3 #[.int .i64 (i:Nat)]∈e.1) :
 Qa prog 208 #[Qb bk,Qb bi] [gK,gF] (MRT L kb pv e (runT (.shards1 i) ⟨k,x,ws,p⟩).1 (runT (.shards1 i) ⟨k,x,ws,p⟩).2):=by
 have hi:i≤64:=hp.2;clear hp;unfold MRT
 have hws:(runT (.shards1 i) ⟨k,x,ws,p⟩).2.ws=ws∧(runT (.shards1 i) ⟨k,x,ws,p⟩).2.p=p:=by
  dsimp only [runT,Zj]
  split <;> exact ⟨rfl,rfl⟩
 obtain ⟨gd,gC,gW,gP,hd,hx,hw,hpp,rfl,rfl⟩:=hz;have hsh:=qse (kb:=kb) (pv:=pv) (ws:=ws) (p:=p) hx hd (i+1) (by omega);unfold ShR at hsh;have hcast:((i+1:Nat):Int)=(i:Int)+1:=by omega
 rw [hcast] at hsh;rw [show Zj (i+1) ⟨k,x,ws,p⟩=runT (.shards1 i) ⟨k,x,ws,p⟩ from rfl] at hsh;generalize runT (.shards1 i) ⟨k,x,ws,p⟩=R at *;obtain ⟨s',⟨k',x',ws',p'⟩⟩:=R;simp only at hws hsh ⊢;obtain ⟨rfl,rfl⟩:=hws;refine GO fun w HT=>?_
 have HT:=Vh (HT.out.sum (H':=[Qi kb L.fb pv (Qw L k) k,gd,e.1,gC,gW,gP]));have HSH:=Vh hsh;have HW:=Vh hw;have HPP:=Vh hpp;have b0:=HT.out.mem_cell 2 hb 0;have i0:=HT.out.mem_cell 2 hbi 0;have ltb:=HT.out.mem_lt 2 hb;have lti:=HT.out.mem_lt 2 hbi;simp only [GE2] at b0 i0 ltb lti;clear hx hd hw hpp hsh hb hbi;go_enter func208,ntmps208
 go_wp2_with fail
 refine (Qa.use (HSH.out) (HT.out.alloc (k:=w.heap.size) rfl _ _) [0,1,3] rfl rfl).mono ?_
 rintro e w1 ⟨gs,⟨l2,ds2,m2,d2,g2,gd2,gC2,rfl,hs2,hd2,hl2,hx2,rfl⟩,Ta⟩;simp only [PU] at Ta;clear b0 i0 ltb lti;have HT:=Vh Ta;clear Ta;have hv2:=(Qx L kb pv (l2,ds2)).vals (hs2 (l2,ds2) (fun _ h=>h) rfl);obtain ⟨r0,r1⟩:=Ce2 (HT.out.cell 6 0 rfl) 0 1;obtain ⟨fr0,fr1⟩:=Ce2 (HT.out.free 6 0 rfl) 0 1;simp only [GE4] at r0 r1;obtain ⟨st1,st2⟩:=Cli.store_fv2 (P:=prog) hv2.1 hv2.2 r0 fr0 r1 fr1;have HS:=Vh hs2;have HD2:=Vh hd2;have HL2:=Vh hl2;have HX2:=Vh hx2;clear hv2 hs2 hd2 hl2 hx2;go_wp2
 exact bodyPost_ret (v:=.agg #[_,_]) (by simp [results,results208,go_sem,r0,r1]) rfl ⟨_,⟨(e.1++l2,ds2),HL2.out,m2,d2,g2,_,_,rfl,HS.out _ (fun b hb=>List.mem_append_right _ hb) rfl,⟨gd2,gC2,gW,gP,HD2.out,HX2.out,HW.out,HPP.out,rfl,rfl⟩,rfl⟩,(((HT.out.set 6 0 rfl 0 _).set 6 0 rfl 1 _).pick [0,3,7,2,1,8,4,5] rfl).sum⟩
theorem q29 (hz:Y0 L kb pv e ⟨k,x,ws,p⟩ gK gF) (hp:qe0 .tick ⟨k,x,ws,p⟩):Qa prog 136 #[Qb kb] [gK,gF] (MRT L kb pv e (runT .tick ⟨k,x,ws,p⟩).1 (runT .tick ⟨k,x,ws,p⟩).2):=by
 have hn:0≤x.f.now∧x.f.now<9223372036854775807:=by have:=hp.1.now;simp only at this;omega
 have hnn:=hp.1.now.1;have htr:=hp.1.core.tr;simp only at htr hnn;clear hp;unfold MRT
 have hws:(runT .tick ⟨k,x,ws,p⟩).2.ws=ws∧(runT .tick ⟨k,x,ws,p⟩).2.p=p:=by
  dsimp only [runT,Zj]
  split <;> exact ⟨rfl,rfl⟩
 obtain ⟨gd,gC,gW,gP,hd,hx,hw,hpp,rfl,rfl⟩:=hz;have HTN:=Vh (qvz hx hn);have HNT:=Vh (show ∀ g,Qf L { x with f:={ x.f with now:=x.f.now+1 } } g→_ from fun g hg=>za (kb:=kb) (pv:=pv) (sv:=Qw L k) (k:={ k with now:=x.f.now+1 }) (gC:=g) hg { ev0 with kind:=11,tick:=x.f.now+1 } htr);have hsh:∀ g,Qf L { x with f:={ x.f with now:=x.f.now+1 },tr:=x.tr++[evT k { ev0 with kind:=11,tick:=x.f.now+1 }] } g→_:=fun g hg=>qse (kb:=kb) (pv:=pv) (ws:=ws) (p:=p) (e:=e) (k:={ k with now:=x.f.now+1 }) (gd:=gd) hg hd 0 (by decide)
 unfold ShR at hsh;rw [show Zj 0 ⟨{ k with now:=x.f.now+1 },{ x with f:={ x.f with now:=x.f.now+1 },tr:=x.tr++[evT k { ev0 with kind:=11,tick:=x.f.now+1 }] },ws,p⟩=runT .tick ⟨k,x,ws,p⟩ from rfl] at hsh;generalize runT .tick ⟨k,x,ws,p⟩=R at *;obtain ⟨s',⟨k',x',ws',p'⟩⟩:=R;simp only at hws hsh ⊢;obtain ⟨rfl,rfl⟩:=hws;refine GO fun w HT=>?_
 have HT:=Vh (HT.out.sum (H':=[Qi kb L.fb pv (Qw L k) k,gd,e.1,gC,gW,gP]));have HSH:=Vh hsh;have HW:=Vh hw;have HPP:=Vh hpp;have k0:=HT.out.cell 0 0 rfl 0;simp only [Q9,GE3] at k0;have lt:=HT.out.lt 0 0 rfl;simp only [] at lt;clear hx hd hw hpp hsh htr;go_enter func136,ntmps136
 go_wp2_with fail
 refine (Qa.use (HTN.out) (HT.out.alloc (k:=w.heap.size) rfl _ _) [3] rfl rfl).mono ?_
 rintro e w1 ⟨gs,⟨rfl,g1,hx1,rfl⟩,Ta⟩;simp only [PU] at Ta;have HX:=Vh hx1;clear hx1 k0 lt;have HT:=Vh Ta;clear Ta;have k9:=HT.out.cell 0 0 rfl 9;have fk9:=HT.out.free 0 0 rfl 9;simp only [Q9,GE3] at k9;go_wp2_with fail
 refine (Qa.use (HNT.out _ HX.out) ((HT.out.set 0 0 rfl 9 (.int .u64 (x.f.now+1))).eq (H':=[Qi kb L.fb pv (Qw L k) { k with now:=x.f.now+1 },gd,e.1,g1,gW,gP,[cl w.heap.size 180 #[.nilFunc,.nilFunc]]]) rfl) [0,3] rfl rfl).mono ?_
 rintro e w1 ⟨gs,⟨rfl,g2,hx2,rfl⟩,Ta⟩;simp only [PU] at Ta;have HX2:=Vh hx2;clear hx2 k9 fk9;have HT:=Vh Ta;clear Ta;go_wp2_with fail
 refine Qa.run (HSH.out _ HX2.out) (HT.out) [0,1,3] ?_
 rintro e w1 gs ⟨l2,ds2,m2,d2,g2,gd2,gC2,rfl,hs2,hd2,hl2,hx2,rfl⟩ HT;simp only [PU] at HT;have hv2:=(Qx L kb pv (l2,ds2)).vals (hs2 (l2,ds2) (fun _ h=>h) rfl);obtain ⟨r0,r1⟩:=Ce2 (HT.out.cell 6 0 rfl) 0 1;obtain ⟨fr0,fr1⟩:=Ce2 (HT.out.free 6 0 rfl) 0 1;simp only [GE4] at r0 r1;obtain ⟨st1,st2⟩:=Cli.store_fv2 (P:=prog) hv2.1 hv2.2 r0 fr0 r1 fr1;have HS:=Vh hs2;have HD2:=Vh hd2;have HL2:=Vh hl2;have HX2:=Vh hx2;clear hv2 hs2 hd2 hl2 hx2;go_wp2
 exact bodyPost_ret (v:=.agg #[_,_]) (by simp [results,results136,go_sem,r0,r1]) rfl ⟨_,⟨(e.1++l2,ds2),HL2.out,m2,d2,g2,_,_,rfl,HS.out _ (fun b hb=>List.mem_append_right _ hb) rfl,⟨gd2,gC2,gW,gP,HD2.out,HX2.out,HW.out,HPP.out,rfl,rfl⟩,rfl⟩,(((HT.out.set 6 0 rfl 0 _).set 6 0 rfl 1 _).pick [0,3,7,2,1,8,4,5] rfl).sum⟩
end
theorem qjw:∀ {l:List Qm} {i:Nat} {t:Qm},l[i]?=some t→∀ j,j<5→(qd3 l)[i*5+j]?=t.cells[j]?
 | [],i,t,h,j,hj=>by simp at h
 | a::l,0,t,h,j,hj=>by
   simp only [List.getElem?_cons_zero,Option.some.injEq] at h;subst h
   show (a.cells.toList++qbi (l.map Qm.cells))[0*5+j]?=_
   rw [List.getElem?_append_left (by show 0*5+j<5;omega)];simp
 | a::l,i+1,t,h,j,hj=>by
   simp only [List.getElem?_cons_succ] at h;have:=qjw h j hj
   show (a.cells.toList++qbi (l.map Qm.cells))[(i+1)*5+j]?=_
   rw [List.getElem?_append_right (by show 5≤(i+1)*5+j;omega),show (i+1)*5+j - a.cells.toList.length=i*5+j from by show (i+1)*5+j - 5=_;omega];exact this
section
variable {L:Lay} {x:Qj} {ws:List Qg} {p:Qy} {e:ET} {g gC gK gF:List Blk} {kb:Nat} {pv sv:Value} {k:Xf}
theorem q2d {i:Nat} {q:ShP} (hq:L.qs[i]?=some q) (n:Int):Qa prog 234 #[Qb kb,.int .i64 n] [Qi kb L.fb pv (Qb q.b) k] fun en gs =>
 ∃ g' l,SRT L kb pv (if n≤0 then .nil else .at (some (.ready i)) (.pops1 n)) en g' l∧gs=[g',l,Qi kb L.fb pv (Qb q.b) k]:=by
 have HQ:=Vh hq;clear hq;by_cases hn:n≤0
 ·rw [if_pos hn]
  refine GO fun w HT=>?_
  go_enter func234,ntmps234
  go_wp2
  exact bodyPost_ret (v:=.agg #[.nilFunc,.nilFunc]) (by simp [results,results234,go_sem]) rfl ⟨_,⟨[],[],⟨_,_,rfl,fun e he=>⟨rfl,rfl,rfl⟩⟩,rfl⟩,(((HT.out.alloc0 _).alloc0 _).alloc0 _).sum⟩
 ·rw [if_neg hn]
  refine GO fun w HT=>?_
  have k10:=HT.out.cell 0 0 rfl 10;simp only [Q9,GE3] at k10;have lt:=HT.out.lt 0 0 rfl;simp only [] at lt;have lt1:kb<w.heap.size+1:=by omega
  have lt2:kb<w.heap.size+1+1:=by omega
  go_enter func234,ntmps234
  go_wp2_with fail
  refine (Qa.use (qd5 _ _ _ _ _ _) (((HT.out.alloc (k:=w.heap.size) rfl _ _).alloc (k:=w.heap.size+1) (by simp) _ _).alloc (k:=w.heap.size+1+1) (by simp) _ _) [] rfl rfl).mono ?_
  rintro e w1 ⟨gs,⟨rfl,rfl⟩,Ta⟩;simp only [PU] at Ta;clear k10 lt lt1 lt2;have HT:=Vh Ta;clear Ta;obtain ⟨r0,r1⟩:=Ce2 (HT.out.cell 3 0 rfl) 0 1;obtain ⟨fr0,fr1⟩:=Ce2 (HT.out.free 3 0 rfl) 0 1;simp only [GE4] at r0 r1;go_wp2
  exact bodyPost_ret (v:=.agg #[_,_]) (by simp [results,results234,go_sem,r0,r1]) rfl ⟨_,⟨[],[cl w.heap.size 129 #[Qb kb],cl (w.heap.size+1) 3 #[.int .i64 n]],⟨_,_,rfl,fun e he=>⟨[],[],⟨rfl,q,HQ.out,rfl⟩,⟨rfl,w.heap.size,w.heap.size+1,rfl,he _ (by simp),he _ (by simp)⟩,rfl⟩⟩,rfl⟩,(((HT.out.set 3 0 rfl 0 _).set 3 0 rfl 1 _).pick [1,2,0] rfl).sum⟩
theorem qiv:Qa prog 252 #[Qb kb] [Qi kb L.fb pv sv k] fun en gs =>
 ∃ g' l,SRT L kb pv (if k.t.slot<0 then .nil else .at none .rec1) en g' l∧gs=[g',l,Qi kb L.fb pv sv k]:=by
 by_cases hn:k.t.slot<0
 ·rw [if_pos hn]
  refine GO fun w HT=>?_
  have k12:=HT.out.cell 0 0 rfl 12;simp only [Q9,GE3] at k12;have lt:=HT.out.lt 0 0 rfl;simp only [] at lt;go_enter func252,ntmps252
  go_wp2
  exact bodyPost_ret (v:=.agg #[.nilFunc,.nilFunc]) (by simp [results,results252,go_sem]) rfl ⟨_,⟨[],[],⟨_,_,rfl,fun e he=>⟨rfl,rfl,rfl⟩⟩,rfl⟩,((HT.out.alloc0 _).alloc0 _).sum⟩
 ·rw [if_neg hn]
  refine GO fun w HT=>?_
  have k12:=HT.out.cell 0 0 rfl 12;simp only [Q9,GE3] at k12;have lt:=HT.out.lt 0 0 rfl;simp only [] at lt;go_enter func252,ntmps252
  go_wp2_with fail
  refine (Qa.use (qkg _ _ _) ((HT.out.alloc (k:=w.heap.size) rfl _ _).alloc (k:=w.heap.size+1) (by simp) _ _) [] rfl rfl).mono ?_
  rintro e w1 ⟨gs,⟨rfl,rfl⟩,Ta⟩;simp only [PU] at Ta;clear k12 lt;have HT:=Vh Ta;clear Ta;obtain ⟨r0,r1⟩:=Ce2 (HT.out.cell 2 0 rfl) 0 1;obtain ⟨fr0,fr1⟩:=Ce2 (HT.out.free 2 0 rfl) 0 1;simp only [GE4] at r0 r1;go_wp2
  exact bodyPost_ret (v:=.agg #[_,_]) (by simp [results,results252,go_sem,r0,r1]) rfl ⟨_,⟨[],[cl w.heap.size 129 #[Qb kb]],⟨_,_,rfl,fun e he=>⟨rfl,rfl,w.heap.size,rfl,he _ (by simp)⟩⟩,rfl⟩,(((HT.out.set 2 0 rfl 0 _).set 2 0 rfl 1 _).pick [1,0] rfl).sum⟩
def FiR (L:Lay) (kb:Nat) (pv sv:Value) (bd d:Nat) (s:ST) (k:Xf) (D R:List Blk) (en:Ending) (gs:GH):Prop :=
 ∃ (g' l:List Blk) (m dd:Value),en=.returned (.agg #[m,dd])∧(∀ e1:ET,(∀ b∈l,b∈e1.1)→e1.2[d]?=some bd→(qh8 L kb pv).SV e1 s m dd g')∧gs=[g',l,Qi kb L.fb pv sv k,D,R]
theorem qw0 (d bd i:Nat) (v:Value) (gr:List Blk) (hr:Qu 173 5 v k.due.length (qd3 k.due) gr) (hi:i≤1000001):Qa prog 240 #[Qb kb,Qb bd,.int .i64 i] [Qi kb L.fb pv sv k,[cl bd 326 #[v]],gr]
 (FiR L kb pv sv bd d (Xc d i ⟨k,x,ws,p⟩).1 (Xc d i ⟨k,x,ws,p⟩).2.k [cl bd 326 #[v]] gr):=by
 unfold FiR;obtain ⟨av,cap,rfl⟩:=Qu.val hr;have HR:=Vh hr
 have hcap:k.due.length≤maxLen:=by
  rcases Nat.eq_zero_or_pos k.due.length with h0 | h0
  ·rw [h0];unfold maxLen;omega
  ·obtain ⟨_,_,_,_,_,h1,h2,_⟩:=hr.open h0;exact Nat.le_trans h1 h2
 unfold maxLen at hcap;cases hdi:k.due[i]? with
 | none =>
   have hlt:¬ i<k.due.length:=by rw [List.getElem?_eq_none_iff] at hdi;omega
   have he:Xc d i ⟨k,x,ws,p⟩=(.nil,⟨k,x,ws,p⟩):=by unfold Xc;simp only [hdi]
   rw [he];dsimp only
   have hge:k.due.length≤i:=by omega
   clear he hdi hr;refine GO fun w HT=>?_
   go_enter func240,ntmps240
   go_wp2_with fail
   have HT:=Vh ((((HT.out.alloc (k:=w.heap.size) rfl 129 #[Qb kb]).alloc (k:=w.heap.size+1) (by simp) 330 #[Qb bd]).alloc (k:=w.heap.size+1+1) (by simp) 3 #[.int .i64 i]).alloc (k:=w.heap.size+1+1+1) (by simp) 180 #[.nilFunc,.nilFunc]);generalize World.alloc (World.alloc (World.alloc (World.alloc w _) _) _) _=w1 at HT ⊢;have b0:=HT.out.cell 4 0 rfl 0;simp only [GE4] at b0;have c0:=HT.out.cell 5 0 rfl 0;simp only [GE4] at c0;have dd0:=HT.out.cell 1 0 rfl 0;simp only [GE4] at dd0;go_region
   have HT:=Vh HT.out.drew;clear b0 c0 dd0;generalize World.drew _=w2 at HT ⊢;obtain ⟨r0,r1⟩:=Ce2 (HT.out.cell 6 0 rfl) 0 1;obtain ⟨fr0,fr1⟩:=Ce2 (HT.out.free 6 0 rfl) 0 1;simp only [GE4] at r0 r1;go_wp2
   exact bodyPost_ret (v:=.agg #[.nilFunc,.nilFunc]) (by simp [results,results240,go_sem,r0,r1]) rfl ⟨_,⟨[],[],_,_,rfl,fun e he _=>⟨rfl,rfl,rfl⟩,rfl⟩,(((HT.out.set 6 0 rfl 0 _).set 6 0 rfl 1 _).pick [0,1,2] rfl).sum⟩
 | some t =>
   have hlt:i<k.due.length:=(List.getElem?_eq_some_iff.1 hdi).1;have he:Xc d i ⟨k,x,ws,p⟩=(.thn (.at none .looks) (.fires1 d i),⟨{ k with t:=t },x,ws,p⟩):=by unfold Xc;simp only [hdi]
   rw [he];dsimp only
   obtain ⟨rb,cap',cur,hv,rfl,_,_,_,hcur⟩:=hr.open (by omega);cases hv
   have htv:=qjw hdi;have hc:∀ j,j<5→cur[i*5+j]?=t.cells[j]?:=fun j hj=>(hcur _ (by omega)).trans (htv j hj)
   have hc0:=hc 0 (by decide);have hc1:=hc 1 (by decide);have hc2:=hc 2 (by decide);have hc3:=hc 3 (by decide);have hc4:=hc 4 (by decide);simp only [Qm.cells,GE3,Nat.add_zero] at hc0 hc1 hc2 hc3 hc4;have HCC:=Vh (And.intro hc0 (And.intro hc1 (And.intro hc2 (And.intro hc3 hc4))));clear he hdi hr htv hc hcur hc0 hc1 hc2 hc3 hc4;refine GO fun w HT=>?_
   go_enter func240,ntmps240
   go_wp2_with fail
   obtain ⟨b1,hb1⟩:∃ b1,b1=w.heap.size:=⟨_,rfl⟩;obtain ⟨b2,hb2⟩:∃ b2,b2=w.heap.size+1:=⟨_,rfl⟩;obtain ⟨b3,hb3⟩:∃ b3,b3=w.heap.size+1+1:=⟨_,rfl⟩;obtain ⟨b4,hb4⟩:∃ b4,b4=w.heap.size+1+1+1:=⟨_,rfl⟩;have HT:=Vh ((((HT.out.alloc (k:=b1) hb1 129 #[Qb kb]).alloc (k:=b2) (by rw [hb2];simp) 330 #[Qb bd]).alloc (k:=b3) (by rw [hb3];simp) 3 #[.int .i64 i]).alloc (k:=b4) (by rw [hb4];simp) 180 #[.nilFunc,.nilFunc]);rw [← hb4,← hb3,← hb2,← hb1];clear hb1 hb2 hb3 hb4;generalize World.alloc (World.alloc (World.alloc (World.alloc w _) _) _) _=w1 at HT ⊢;have a0:=HT.out.cell 3 0 rfl 0;simp only [GE4] at a0;have b0:=HT.out.cell 4 0 rfl 0;simp only [GE4] at b0;have c0:=HT.out.cell 5 0 rfl 0;simp only [GE4] at c0;have dd0:=HT.out.cell 1 0 rfl 0;simp only [GE4] at dd0;go_region
   have HT:=Vh HT.out.drew;clear b0 c0 dd0 a0;generalize World.drew _=w2 at HT ⊢;have a0:=HT.out.cell 3 0 rfl 0;simp only [GE4] at a0;have b0:=HT.out.cell 4 0 rfl 0;simp only [GE4] at b0;have c0:=HT.out.cell 5 0 rfl 0;simp only [GE4] at c0;have dd0:=HT.out.cell 1 0 rfl 0;simp only [GE4] at dd0;have e0:=(HT.out.cell 2 0 rfl (i*5)).trans HCC.out.1;have e1:=(HT.out.cell 2 0 rfl (i*5+1)).trans HCC.out.2.1;have e2:=(HT.out.cell 2 0 rfl (i*5+2)).trans HCC.out.2.2.1;have e3:=(HT.out.cell 2 0 rfl (i*5+3)).trans HCC.out.2.2.2.1;have e4:=(HT.out.cell 2 0 rfl (i*5+4)).trans HCC.out.2.2.2.2;obtain ⟨k11,k12,k13,k14,k15⟩:=Ce5 (HT.out.cell 0 0 rfl) 11 12 13 14 15;obtain ⟨fk11,fk12,fk13,fk14,fk15⟩:=Ce5 (HT.out.free 0 0 rfl) 11 12 13 14 15;simp only [Q9,GE3] at k11 k12 k13 k14 k15;go_wp2_with fail
   go_region
   have HT:=Vh (((((((HT.out.set 0 0 rfl 11 (.int .u64 t.id)).set 0 0 rfl 12 (.int .i64 t.slot)).set 0 0 rfl 13 (.int .u64 t.gen)).set 0 0 rfl 14 (.int .u64 t.dl)).set 0 0 rfl 15 (.int .u64 t.per)).drew).eq (H':=[Qi kb L.fb pv sv { k with t:=t },[cl bd 326 #[.slice (some ⟨rb,0,none⟩) k.due.length cap]],[cl rb 173 cur],[cl b1 129 #[Qb kb]],[cl b2 330 #[Qb bd]],[cl b3 3 #[.int .i64 i]],[cl b4 180 #[.nilFunc,.nilFunc]]]) rfl);clear a0 b0 c0 dd0 e0 e1 e2 e3 e4 k11 k12 k13 k14 k15 fk11 fk12 fk13 fk14 fk15;generalize World.drew _=w3 at HT ⊢;have a0:=HT.out.cell 3 0 rfl 0;simp only [GE4] at a0;go_wp2_with fail
   refine (Qa.use (qkg _ _ _) (HT.out) [] rfl rfl).mono ?_
   rintro e w1 ⟨gs,⟨rfl,rfl⟩,Ta⟩;simp only [PU] at Ta;clear a0;have HT:=Vh Ta;clear Ta;go_wp2_with fail
   refine Qa.run (Cli.prog_then_x (c:=(qh8 L kb pv).on ([cl b1 129 #[Qb kb],cl b2 330 #[Qb bd],cl b3 3 #[.int .i64 i]],List.replicate (d+1) bd)) (s:=.at none .looks) (f:=MT.fires1 d i) (v:=.func (.func 259) #[] #[Qb b1,Qb b2,Qb b3]) (g:=[]) (gm:=[]) (Qx L kb pv _) rfl ⟨rfl,rfl,rfl⟩ ⟨rfl,b1,b2,b3,bd,rfl,by simp [zx],by simp,by simp,by simp⟩) (HT.out.sum (H':=[Qi kb L.fb pv sv { k with t:=t },[cl bd 326 #[.slice (some ⟨rb,0,none⟩) k.due.length cap]],[cl rb 173 cur],[cl b1 129 #[Qb kb]],[cl b2 330 #[Qb bd]],[cl b3 3 #[.int .i64 i]],[cl b4 180 #[.nilFunc,.nilFunc]],[],[]])) [7,8] ?_
   rintro e w1 gs ⟨bs,br,rfl,rfl⟩ HT;simp only [PU] at HT;obtain ⟨r0,r1⟩:=Ce2 (HT.out.cell 6 0 rfl) 0 1;obtain ⟨fr0,fr1⟩:=Ce2 (HT.out.free 6 0 rfl) 0 1;simp only [GE4] at r0 r1;go_wp2
   exact bodyPost_ret (v:=.agg #[_,_]) (by simp [results,results240,go_sem,r0,r1]) rfl ⟨_,⟨_,[cl b1 129 #[Qb kb],cl b2 330 #[Qb bd],cl b3 3 #[.int .i64 i]],_,_,rfl,fun e1 he hd2=>⟨bs,br,_,_,[],[],rfl,rfl,⟨rfl,rfl,rfl⟩,⟨rfl,b1,b2,b3,bd,rfl,he _ (by simp),hd2,he _ (by simp),he _ (by simp)⟩,rfl⟩,rfl⟩,(((HT.out.set 6 0 rfl 0 _).set 6 0 rfl 1 _).pick [7,3,4,5,0,1,2] rfl).sum⟩
end
theorem qhv {fn:FuncId} {first caps:Array Value} {gs:GH} {R:Ending→GH→Prop} (eg:∀ args w,(callFunc fn args).run prog w=.ok (.enter fn args) w) (hd:Qa prog fn (first++caps) gs R)
 (hR:∀ en gs',R en gs'→∃ m d,en=.returned (.agg #[m,d])∧Cli.isFv m∧Cli.isFv d):Qa prog 140 #[.agg #[.nilFunc,.nilFunc],.func (.func fn) first caps] gs R:=by
 refine GO fun w HT=>?_
 have HD:=Vh hd;have HR:=Vh hR;have q1:=fun w=>qaa w
 clear hd hR;go_enter func140,ntmps140
 go_wp2_with fail
 have T1:=(((HT.out.alloc (k:=w.heap.size) rfl 180 #[.nilFunc,.nilFunc]).alloc (k:=w.heap.size+1) (by simp) 178 #[.func (.func fn) first caps]).alloc (k:=w.heap.size+1+1) (by simp) 180 #[.nilFunc,.nilFunc]).eq (H':=gs++([[cl w.heap.size 180 #[.nilFunc,.nilFunc]],[cl (w.heap.size+1) 178 #[.func (.func fn) first caps]]]++[[cl (w.heap.size+1+1) 180 #[.nilFunc,.nilFunc]]])) (by simp);refine (HD.out _ T1.has.left).mono ?_
 rintro en w1 ⟨gs',hr,T2⟩;have T3:=(T1.trans (T2.frame T1.has)).eq (H':=(gs'++[[cl w.heap.size 180 #[.nilFunc,.nilFunc]],[cl (w.heap.size+1) 178 #[.func (.func fn) first caps]]])++[[cl (w.heap.size+1+1) 180 #[.nilFunc,.nilFunc]]]) (by simp);obtain ⟨m',d',rfl,v1,v2⟩:=HR.out _ _ hr;have c0:=T3.cellLast 0;have c1:=T3.cellLast 1;have f0:=T3.freeLast 0;have f1:=T3.freeLast 1;simp only [GE3] at c0 c1;have HT:=Vh T3;have HRR:=Vh hr;clear T1 T2 T3 hr HR;rcases v1 with rfl | ⟨fn1,first1,caps1,rfl⟩ <;> rcases v2 with rfl | ⟨fn2,first2,caps2,rfl⟩
 all_goals
  go_wp2
  exact bodyPost_ret (v:=.agg #[_,_]) (by simp [results,results140,go_sem,c0,c1]) rfl ⟨gs',HRR.out,(((((HT.out.setLast 0 _).setLast 1 _).dropLast).eq (H':=(gs'++[[cl w.heap.size 180 #[.nilFunc,.nilFunc]]])++[[cl (w.heap.size+1) 178 #[.func (.func fn) first caps]]]) (by simp)).dropLast.dropLast)⟩
theorem MRT.fv {L:Lay} {kb:Nat} {pv:Value} {e:ET} {s:ST} {z:ZT} {en:Ending} {gs:GH} (h:MRT L kb pv e s z en gs):∃ m d,en=.returned (.agg #[m,d])∧Cli.isFv m∧Cli.isFv d:=by
 obtain ⟨e',_,m,d,g',gK,gF,he,hs,_⟩:=h;obtain ⟨h1,h2⟩:=(Qx L kb pv e').vals hs;exact ⟨m,d,he,h1,h2⟩
theorem zm {L:Lay} {x:Qj} {ws:List Qg} {p:Qy} {k:Xf} {gC gW:List Blk} (hx:Qf L x gC) (hw:Z8 L ws gW) (ho:qb1 ⟨k,x,ws,p⟩) (h:zc ⟨k,x,ws,p⟩) :
 ∃ i q s S,k.s=some i∧L.qs[i]?=some q∧x.shs[i]?=some s∧ws[i]?=some S∧Qw L k=Qb q.b∧ZT.sh ⟨k,x,ws,p⟩=i∧ZT.shS ⟨k,x,ws,p⟩=s∧ZT.wh ⟨k,x,ws,p⟩=S∧qak S∧qd s.ring∧0≤s.turns∧s.turns≤1000000:=by
 obtain ⟨i,hi⟩:=h;simp only at hi;have hlt:=ho.sh i hi;simp only at hlt
 have hq:∃ q,L.qs[i]?=some q:=by
  obtain ⟨q,hq,_⟩:=qwr hx hlt;exact ⟨q,hq⟩
 obtain ⟨q,hq⟩:=hq;obtain ⟨s,hs⟩:∃ s,x.shs[i]?=some s:=⟨_,List.getElem?_eq_getElem hlt⟩;have hwl:i<ws.length:=by have:=ho.ws;simp only at this;omega
 obtain ⟨S,hS⟩:∃ S,ws[i]?=some S:=⟨_,List.getElem?_eq_getElem hwl⟩;have e1:ZT.sh ⟨k,x,ws,p⟩=i:=by simp [ZT.sh,hi]
 refine ⟨i,q,s,S,hi,hq,hs,hS,by simp [Qw,hi,hq],e1,?_,?_,ho.wok S (List.mem_of_getElem? hS),ho.core.ring s (List.mem_of_getElem? hs),(ho.turns s (List.mem_of_getElem? hs)).1,(ho.turns s (List.mem_of_getElem? hs)).2⟩
 ·unfold ZT.shS;rw [e1];simp [List.getD_eq_getElem?_getD,hs]
 ·unfold ZT.wh;rw [e1];simp [List.getD_eq_getElem?_getD,hS]
section
variable {L:Lay} {x:Qj} {ws:List Qg} {p:Qy} {e:ET} {g gC gK gF:List Blk} {kb:Nat} {pv sv:Value} {k:Xf}
theorem qq0 (d:Nat) (hz:Y0 L kb pv e ⟨k,x,ws,p⟩ gK gF) (bk bd:Nat) (hb:zx kb bk e) (hbd:e.2[d]?=some bd) :
 Qa prog 236 #[Qb bk,Qb bd] [gK,gF] (MRT L kb pv e (zi d ⟨k,x,ws,p⟩).1 (zi d ⟨k,x,ws,p⟩).2):=by
 unfold MRT zi;dsimp only
 have HB:=Vh hb;have HBD:=Vh hbd;obtain ⟨gd,gC,gW,gP,hd,hx,hw,hpp,rfl,rfl⟩:=hz;refine GO fun w HT=>?_
 have HT:=Vh (HT.out.sum (H':=[Qi kb L.fb pv (Qw L k) k,gd,e.1,gC,gW,gP]));have HX:=Vh hx;have HD:=Vh hd;have HW:=Vh hw;have HPP:=Vh hpp;clear hx hd hw hpp;clear hb hbd;go_enter func236,ntmps236
 go_wp2_with fail
 refine Qa.run (Cli.row_1 (b:=w.heap.size+1) (o:=0) (D:=#[.func (.func 237) #[] #[Qb bk,Qb bd]]) rfl 1 (.inl rfl)) ((HT.out.alloc (k:=w.heap.size) rfl 180 #[.nilFunc,.nilFunc]).alloc (k:=w.heap.size+1) (by simp) _ _) [7] ?_
 rintro e w1 gs ⟨bf,bl,bi,rfl,rfl⟩ HT;simp only [PU] at HT
 have hsv:(qh8 L kb pv).SV e (.row1 (.turnA d)) .nilFunc (.func (.func 166) #[] #[Qb bf,Qb bl,Qb bi]) ([cl bf 1 #[.func (.func 237) #[] #[Qb bk,Qb bd]],cl bl 282 #[.slice (some ⟨w.heap.size+1,0,none⟩) 1 1],cl bi 3 #[.int .i64 0],cl (w.heap.size+1) 1 #[.func (.func 237) #[] #[Qb bk,Qb bd]]]++[]) :=
  ⟨rfl,bf,bl,bi,w.heap.size+1,0,_,_,_,rfl,⟨rfl,bk,bd,rfl,HB.out,HBD.out⟩,rfl,rfl⟩
 have HSV:=Vh hsv;clear hsv;go_wp2_with fail
 refine Qa.run (Cli.prog_then_x (c:=(qh8 L kb pv).on e) (f:=MT.one2112 d) (v:=.func (.func 239) #[] #[Qb bk,Qb bd]) (gm:=[]) (Qx L kb pv _) rfl HSV.out ⟨rfl,bk,bd,rfl,HB.out,HBD.out⟩) (HT.out.sum (H':=[Qi kb L.fb pv (Qw L k) k,gd,e.1,gC,gW,gP,[cl w.heap.size 180 #[.nilFunc,.nilFunc]],[cl bf 1 #[.func (.func 237) #[] #[Qb bk,Qb bd]],cl bl 282 #[.slice (some ⟨w.heap.size+1,0,none⟩) 1 1],cl bi 3 #[.int .i64 0],cl (w.heap.size+1) 1 #[.func (.func 237) #[] #[Qb bk,Qb bd]]]++[],[]])) [7,8] ?_
 rintro e w1 gs ⟨bs,br,rfl,rfl⟩ HT;simp only [PU] at HT;obtain ⟨r0,r1⟩:=Ce2 (HT.out.cell 6 0 rfl) 0 1;obtain ⟨fr0,fr1⟩:=Ce2 (HT.out.free 6 0 rfl) 0 1;simp only [GE4] at r0 r1;go_wp2
 exact bodyPost_ret (v:=.agg #[_,_]) (by simp [results,results236,go_sem,r0,r1]) rfl ⟨_,⟨e,leT.refl e,_,_,_,_,_,rfl,⟨bs,br,_,_,_,[],rfl,rfl,HSV.out,⟨rfl,bk,bd,rfl,HB.out,HBD.out⟩,rfl⟩,⟨gd,gC,gW,gP,HD.out,HX.out,HW.out,HPP.out,rfl,rfl⟩,rfl⟩,(((HT.out.set 6 0 rfl 0 _).set 6 0 rfl 1 _).pick [7,0,1,2,3,4,5] rfl).sum⟩
theorem qjc (hz:Y0 L kb pv e ⟨k,x,ws,p⟩ gK gF) (bk:Nat) (hb:zx kb bk e) :
 Qa prog 241 #[Qb bk] [gK,gF] (MRT L kb pv e (.row1 .unlock) ⟨k,x,ws,p⟩):=by
 unfold MRT;have HB:=Vh hb;obtain ⟨gd,gC,gW,gP,hd,hx,hw,hpp,rfl,rfl⟩:=hz;refine GO fun w HT=>?_
 have HT:=Vh (HT.out.sum (H':=[Qi kb L.fb pv (Qw L k) k,gd,e.1,gC,gW,gP]));have HX:=Vh hx;have HD:=Vh hd;have HW:=Vh hw;have HPP:=Vh hpp;clear hx hd hw hpp;clear hb;go_enter func241,ntmps241
 go_wp2_with fail
 refine Qa.run (Cli.row_1 (b:=w.heap.size+1) (o:=0) (D:=#[.func (.func 242) #[] #[Qb bk]]) rfl 1 (.inl rfl)) ((HT.out.alloc (k:=w.heap.size) rfl 180 #[.nilFunc,.nilFunc]).alloc (k:=w.heap.size+1) (by simp) _ _) [7] ?_
 rintro e w1 gs ⟨bf,bl,bi,rfl,rfl⟩ HT;simp only [PU] at HT;obtain ⟨r0,r1⟩:=Ce2 (HT.out.cell 6 0 rfl) 0 1;obtain ⟨fr0,fr1⟩:=Ce2 (HT.out.free 6 0 rfl) 0 1;simp only [GE4] at r0 r1;go_wp2
 exact bodyPost_ret (v:=.agg #[_,_]) (by simp [results,results241,go_sem,r0,r1]) rfl ⟨_,⟨e,leT.refl e,_,_,_,_,_,rfl,⟨rfl,bf,bl,bi,w.heap.size+1,0,#[.func (.func 242) #[] #[Qb bk]],_,[],rfl,⟨rfl,bk,rfl,HB.out⟩,rfl,rfl⟩,⟨gd,gC,gW,gP,HD.out,HX.out,HW.out,HPP.out,rfl,rfl⟩,rfl⟩,(((HT.out.set 6 0 rfl 0 _).set 6 0 rfl 1 _).pick [8,9,10,7,0,1,2,3,4,5] rfl).sum⟩
end
theorem qnn {G:Prop} {α:Type} {P A:α→World→Prop} (main:(∀ a w2,A a w2→P a w2)→G) (key:∀ a w2,A a w2→P a w2):G:=main key
section
variable {L:Lay} {x:Qj} {ws:List Qg} {p:Qy} {e:ET} {g gC gK gF:List Blk} {kb:Nat} {pv sv:Value} {k:Xf}
theorem qtn (n:Int) (hz:Y0 L kb pv e ⟨k,x,ws,p⟩ gK gF) (ho:qb1 ⟨k,x,ws,p⟩) (hh:zc ⟨k,x,ws,p⟩) (hn:0≤n∧n≤1000000) (bk bi:Nat) (hb:zx kb bk e) (hbi:cl bi 3 #[.int .i64 n]∈e.1) :
 Qa prog 253 #[Qb bk,Qb bi] [gK,gF] (MRT L kb pv e (Yx (n - 1) ⟨k,x,ws,p⟩) ⟨k,x,ws,p⟩):=by
 unfold MRT;obtain ⟨gd,gC,gW,gP,hd,hx,hw,hpp,rfl,rfl⟩:=hz;obtain ⟨i,q,s,S,hki,hq,hs,hS,hsv,hsh,hss,hwh,hwo,hrb,ht0,ht1⟩:=zm hx hw ho hh;have hpo:=q2d (kb:=kb) (pv:=pv) (k:=k) hq (n - 1);rw [← hsv,← hsh] at hpo;have hpo:Qa prog 234 #[Qb kb,.int .i64 (n - 1)] [Qi kb L.fb pv (Qw L k) k] fun en gs=>∃ g' l,SRT L kb pv (Yx (n - 1) ⟨k,x,ws,p⟩) en g' l∧gs=[g',l,Qi kb L.fb pv (Qw L k) k]:=hpo
 generalize Yx (n - 1) ⟨k,x,ws,p⟩=st at *;refine GO fun w HT=>?_
 have HPO:=Vh hpo;have HT:=Vh (HT.out.sum (H':=[Qi kb L.fb pv (Qw L k) k,gd,e.1,gC,gW,gP]));have HX:=Vh hx;have HD:=Vh hd;have HW:=Vh hw;have HPP:=Vh hpp;obtain ⟨hn0,hn1⟩:=hn;clear hx hd hw hpp hpo hq hs hS hki hsv hsh hss hwh hwo hrb ht0 ht1 ho hh;have HB:=Vh (show cl bk 129 #[Qb kb]∈e.1 from hb);clear hb;have b0:=HT.out.mem_cell 2 HB.out 0;have ltb:=HT.out.mem_lt 2 HB.out;simp only [GE2] at b0 ltb;have HBI:=Vh (show cl bi 3 #[.int .i64 n]∈e.1 from hbi);clear hbi;have i0:=HT.out.mem_cell 2 HBI.out 0;have lti:=HT.out.mem_lt 2 HBI.out;simp only [GE2] at i0 lti;go_enter func253,ntmps253
 go_wp2_with fail
 refine (Qa.use (HPO.out) (HT.out.alloc (k:=w.heap.size) rfl _ _) [0] rfl rfl).mono ?_
 rintro e w1 ⟨gs,⟨g2,l2,⟨m2,d2,rfl,hs2⟩,rfl⟩,Ta⟩;simp only [PU] at Ta;clear b0 i0 ltb lti;have HT:=Vh Ta;clear Ta;obtain ⟨r0,r1⟩:=Ce2 (HT.out.cell 6 0 rfl) 0 1;obtain ⟨fr0,fr1⟩:=Ce2 (HT.out.free 6 0 rfl) 0 1;simp only [GE4] at r0 r1;have hv2:=(Qx L kb pv (l2,[])).vals (hs2 (l2,[]) (fun _ h=>h));obtain ⟨st1,st2⟩:=Cli.store_fv2 (P:=prog) hv2.1 hv2.2 r0 fr0 r1 fr1;have HS:=Vh hs2;clear hv2 hs2;go_wp2
 exact bodyPost_ret (v:=.agg #[_,_]) (by simp [results,results253,go_sem,r0,r1]) rfl ⟨_,⟨(e.1++l2,e.2),leT.app e l2,m2,d2,g2,_,_,rfl,HS.out _ (fun b hb=>List.mem_append_right _ hb),⟨gd,gC,gW,gP,HD.out,HX.out,HW.out,HPP.out,rfl,rfl⟩,rfl⟩,(((HT.out.set 6 0 rfl 0 _).set 6 0 rfl 1 _).pick [0,8,1,2,7,3,4,5] rfl).sum⟩
theorem q1m (n:Int) (hz:Y0 L kb pv e ⟨k,x,ws,p⟩ gK gF) (hp:qe0 (.pops1 n) ⟨k,x,ws,p⟩) (bk bi:Nat) (hb:zx kb bk e) (hbi:cl bi 3 #[.int .i64 n]∈e.1) :
 Qa prog 250 #[Qb bk,Qb bi] [gK,gF] (MRT L kb pv e (runT (.pops1 n) ⟨k,x,ws,p⟩).1 (runT (.pops1 n) ⟨k,x,ws,p⟩).2):=by
 obtain ⟨ho,hh,hn0,hn1,hok2⟩:=hp;have hn:=And.intro hn0 hn1;clear hn0 hn1;obtain ⟨gd,gC,gW,gP,hd,hx,hw,hpp,rfl,rfl⟩:=hz;obtain ⟨i,q,s,S,hki,hq,hs,hS,hsv,hsh,hss,hwh,hwo,hrb,ht0,ht1⟩:=zm hx hw ho hh;have hpop:=qxv hx hq hs hrb
 have hz2:runT (.pops1 n) ⟨k,x,ws,p⟩=(if (Y5 s.ring).2.1.slot<0 then Yx (n - 1) ⟨{ k with t:=(Y5 s.ring).2.1 },{ x with shs:=x.shs.set i { s with ring:=(Y5 s.ring).1 } },ws,p⟩ else .thn (.at none .rec1) (.pops11 n),⟨{ k with t:=(Y5 s.ring).2.1 },{ x with shs:=x.shs.set i { s with ring:=(Y5 s.ring).1 } },ws,p⟩):=by
  simp only [runT,ZT.onSh,hss,hsh];split <;> rfl
 rw [hz2] at hok2 ⊢;dsimp only at hok2 ⊢
 generalize Y5 s.ring=pr at *;obtain ⟨r1,t1,pe⟩:=pr;simp only at hpop hok2 ⊢;have hrc:=qiv (L:=L) (kb:=kb) (pv:=pv) (sv:=Qw L k) (k:={ k with t:=t1 });have hh2:zc ⟨{ k with t:=t1 },{ x with shs:=x.shs.set i { s with ring:=r1 } },ws,p⟩:=⟨i,hki⟩;obtain ⟨st,hst⟩:∃ st:ST,st=((if t1.slot<0 then Yx (n - 1) ⟨{ k with t:=t1 },{ x with shs:=x.shs.set i { s with ring:=r1 } },ws,p⟩ else .thn (.at none .rec1) (.pops11 n)):ST):=⟨_,rfl⟩;rw [← hst];have HST:=Vh hst;clear hst;have hp11:∀ (e':ET) gK gF,Y0 L kb pv e' ⟨{ k with t:=t1 },{ x with shs:=x.shs.set i { s with ring:=r1 } },ws,p⟩ gK gF→zx kb bk e'→cl bi 3 #[.int .i64 n]∈e'.1→_:=fun e' gK gF hz h1 h2=>qtn n hz hok2 hh2 hn bk bi h1 h2
 refine GO fun w HT=>?_
 have HPOP:=Vh hpop;have HRC:=Vh hrc;have HP11:=Vh hp11;have HSV:=Vh hsv;have HT:=Vh (HT.out.sum (H':=[Qi kb L.fb pv (Qw L k) k,gd,e.1,gC,gW,gP]));have HX:=Vh hx;have HD:=Vh hd;have HW:=Vh hw;have HPP:=Vh hpp;have k10:=HT.out.cell 0 0 rfl 10;simp only [Q9,GE3,hsv] at k10;clear hx hd hw hpp hpop hrc hp11 hq hs hS hki hsv hsh hss hwh hwo hrb ht0 ht1 ho hh hok2 hh2 hz2 hn;have HB:=Vh (show cl bk 129 #[Qb kb]∈e.1 from hb);clear hb;have b0:=HT.out.mem_cell 2 HB.out 0;have ltb:=HT.out.mem_lt 2 HB.out;simp only [GE2] at b0 ltb;have HBI:=Vh (show cl bi 3 #[.int .i64 n]∈e.1 from hbi);clear hbi;have i0:=HT.out.mem_cell 2 HBI.out 0;have lti:=HT.out.mem_lt 2 HBI.out;simp only [GE2] at i0 lti;go_enter func250,ntmps250
 go_wp2_with fail
 have HT:=Vh (HT.out.alloc (k:=w.heap.size) rfl 180 #[.nilFunc,.nilFunc]);clear b0 i0 ltb lti k10;generalize World.alloc w _=w1 at HT ⊢;have b0:=HT.out.mem_cell 2 HB.out 0;have k10:=HT.out.cell 0 0 rfl 10;simp only [Q9,GE3,HSV.out] at b0 k10;apply qnn (A:=fun (g1:List Blk) w5=>Qf L { x with shs:=x.shs.set i { s with ring:=r1 } } g1∧TG [Qi kb L.fb pv (Qw L k) k++(gd++e.1),gC++(gW++gP)] w [Qi kb L.fb pv (Qw L k) { k with t:=t1 },gd,e.1,g1,gW,gP,[cl w.heap.size 180 #[.nilFunc,.nilFunc]]] w5)
 case main =>
  intro key
  go_region_with (
   go_at_call 251
   refine (Qa.use HPOP.out HT.out.drew [3] rfl rfl).mono ?_
   rintro en w2 ⟨gs,⟨rfl,g1,hx1,rfl⟩,Ta⟩;simp only [PU] at Ta;have b1:=Ta.mem_cell 2 HB.out 0;simp only [GE2] at b1;obtain ⟨c11,c12,c13,c14,c15⟩:=Ce5 (Ta.cell 0 0 rfl) 11 12 13 14 15;simp only [Q9,GE3] at c11 c12 c13 c14 c15;obtain ⟨f11,f12,f13,f14,f15⟩:=Ce5 (Ta.free 0 0 rfl) 11 12 13 14 15;simp only [Qm.cells];have HX1:=Vh hx1;have HT1:=Vh Ta
   clear Ta hx1)
  all_goals
   have T5:=(((((HT1.out.set 0 0 rfl 11 (.int .u64 t1.id)).set 0 0 rfl 12 (.int .i64 t1.slot)).set 0 0 rfl 13 (.int .u64 t1.gen)).set 0 0 rfl 14 (.int .u64 t1.dl)).set 0 0 rfl 15 (.int .u64 t1.per)).eq (H':=[Qi kb L.fb pv (Qw L k) { k with t:=t1 },gd,e.1,g1,gW,gP,[cl w.heap.size 180 #[.nilFunc,.nilFunc]]]) rfl;generalize World.setCell _ _ _=w5 at T5 ⊢;exact key g1 w5 ⟨HX1.out,T5⟩
 case key =>
  rintro g1 w5 ⟨hx5,T5⟩;have HX5:=Vh hx5;have HT:=Vh T5;clear hx5 T5 b0 k10 HX;have b0:=HT.out.mem_cell 2 HB.out 0;have i0:=HT.out.mem_cell 2 HBI.out 0;simp only [GE2] at b0 i0;have hrc:=HRC.out;by_cases hsl:t1.slot<0
  ·rw [if_pos hsl] at hrc
   have hst:=HST.out;clear HST;rw [if_pos hsl] at hst;subst hst;have HRC:=Vh hrc;clear hrc hsl;go_wp2_with fail
   refine (Qa.use (HRC.out) (HT.out) [0] rfl rfl).mono ?_
   rintro e w1 ⟨gs,⟨g2,l2,⟨m2,d2,rfl,hs2⟩,rfl⟩,Ta⟩;simp only [PU] at Ta;clear b0;have HT:=Vh Ta;clear Ta;obtain ⟨rfl,rfl,rfl⟩:=hs2 (l2,[]) (fun _ h=>h);clear hs2;have hth:=qhv (first:=#[]) (caps:=#[Qb bk,Qb bi]) (enters_of func253 (by kernel_rfl) rfl) (HP11.out (e.1++l2,e.2) (Qi kb L.fb pv (Qw L k) { k with t:=t1 }++(gd++(e.1++l2))) (g1++(gW++gP)) ⟨gd,g1,gW,gP,HD.out,HX5.out,HW.out,HPP.out,rfl,rfl⟩ (List.mem_append_left _ HB.out) (List.mem_append_left _ HBI.out)) (fun _ _ h=>MRT.fv h);obtain ⟨gT,hgT⟩:∃ gT,gT=Qi kb L.fb pv (Qw L k) { k with t:=t1 }:=⟨_,rfl⟩;have HTo:=HT.out;rw [← hgT] at hth HTo;have HTH:=Vh hth;have HT:=Vh HTo;clear hth HTo hgT;go_wp2_with fail
   refine (Qa.use (HTH.out) (HT.out.sum (H':=[gT++(gd++(e.1++l2)),g1++(gW++gP),[cl w.heap.size 180 #[.nilFunc,.nilFunc]]])) [0,1] rfl rfl).mono ?_
   rintro e w1 ⟨gs,⟨e2,hl2,m3,d3,g3,gK3,gF3,rfl,hs3,hz3,rfl⟩,Ta⟩;simp only [PU] at Ta;have HL2:=Vh hl2;have HZ3:=Vh hz3;clear hl2 hz3 i0;have HT:=Vh Ta;clear Ta;obtain ⟨r0,r1⟩:=Ce2 (HT.out.cell 2 0 rfl) 0 1;obtain ⟨fr0,fr1⟩:=Ce2 (HT.out.free 2 0 rfl) 0 1;simp only [GE4] at r0 r1;have hv2:=(Qx L kb pv e2).vals hs3;obtain ⟨st1,st2⟩:=Cli.store_fv2 (P:=prog) hv2.1 hv2.2 r0 fr0 r1 fr1;have HS:=Vh hs3;clear hv2 hs3;go_wp2
   exact bodyPost_ret (v:=.agg #[_,_]) (by simp [results,results250,go_sem,r0,r1]) rfl ⟨_,⟨e2,(leT.app e l2).trans HL2.out,m3,d3,g3,gK3,gF3,rfl,HS.out,HZ3.out,rfl⟩,((HT.out.set 2 0 rfl 0 _).set 2 0 rfl 1 _).pick [0,1,3] rfl⟩
  ·rw [if_neg hsl] at hrc
   have hst:=HST.out;clear HST;rw [if_neg hsl] at hst;subst hst;have HRC:=Vh hrc;clear hrc hsl HP11;obtain ⟨gT,hgT⟩:∃ gT,gT=Qi kb L.fb pv (Qw L k) { k with t:=t1 }:=⟨_,rfl⟩;go_wp2_with fail
   refine (Qa.use (HRC.out) (HT.out) [0] rfl rfl).mono ?_
   rintro e w1 ⟨gs,⟨g2,l2,⟨m2,d2,rfl,hs2⟩,rfl⟩,Ta⟩;simp only [PU] at Ta;clear b0;have HT:=Vh Ta;clear Ta;have HTo:=HT.out;rw [← hgT] at HTo;have HT:=Vh HTo;have HGT:=Vh hgT;have HS:=Vh hs2;clear HTo hgT hs2;go_wp2_with fail
   refine (Qa.use (Cli.prog_then_x (c:=(qh8 L kb pv).on (e.1++l2,e.2)) (s:=.at none .rec1) (f:=MT.pops11 n) (v:=.func (.func 253) #[] #[Qb bk,Qb bi]) (gm:=[]) (Qx L kb pv _) rfl (HS.out (e.1++l2,e.2) (fun b hb=>List.mem_append_right _ hb)) ⟨rfl,bk,bi,rfl,List.mem_append_left _ HB.out,List.mem_append_left _ HBI.out⟩) (HT.out.sum (H':=[gT,gd,e.1,g1,gW,gP,[cl w.heap.size 180 #[.nilFunc,.nilFunc]],l2,g2,[]])) [8,9] rfl rfl).mono ?_
   rintro e w1 ⟨gs,⟨bs,br,rfl,rfl⟩,Ta⟩;simp only [PU] at Ta;clear i0;have HT:=Vh Ta;clear Ta;obtain ⟨r0,r1⟩:=Ce2 (HT.out.cell 6 0 rfl) 0 1;obtain ⟨fr0,fr1⟩:=Ce2 (HT.out.free 6 0 rfl) 0 1;simp only [GE4] at r0 r1;have hv2:=(Qx L kb pv _).vals (HS.out (e.1++l2,e.2) (fun b hb=>List.mem_append_right _ hb));obtain ⟨st1,st2⟩:=Cli.store_fv2 (P:=prog) (v':=.func (.func 167) #[] #[Qb bs,Qb br]) hv2.1 (Or.inr ⟨_,_,_,rfl⟩) r0 fr0 r1 fr1;clear hv2;go_wp2
   have HF:=(((HT.out.set 6 0 rfl 0 m2).set 6 0 rfl 1 (.func (.func 167) #[] #[Qb bs,Qb br])).pick [8,0,1,2,7,3,4,5] rfl).sum (H':=[[cl bs 180 #[m2,d2],cl br 178 #[.func (.func 253) #[] #[Qb bk,Qb bi]]]++g2++[],gT++(gd++(e.1++l2)),g1++(gW++gP)]);rw [HGT.out] at HF;exact bodyPost_ret (v:=.agg #[_,_]) (by simp [results,results250,go_sem,r0,r1]) rfl ⟨_,⟨(e.1++l2,e.2),leT.app e l2,_,_,_,_,_,rfl,⟨bs,br,_,_,g2,[],rfl,rfl,HS.out (e.1++l2,e.2) (fun b hb=>List.mem_append_right _ hb),⟨rfl,bk,bi,rfl,List.mem_append_left _ HB.out,List.mem_append_left _ HBI.out⟩,rfl⟩,⟨gd,g1,gW,gP,HD.out,HX5.out,HW.out,HPP.out,rfl,rfl⟩,rfl⟩,HF⟩
end
def one1 (n:List Blk→Nat) (a:Blk):Nat:=n [a]
theorem TG.sum2 {h H H':GH} {w w':World} (T:TG h w H w')
 (hs:∀ n:List Blk→Nat,(∀ x y,n (x++y)=n x+n y)→n []=0→(∀ a l,n (a::l)=one1 n a+n l)→n []=0→n H.flatten=n H'.flatten:=by intro n ha h0 h1 h2;simp only [SU,ha,h0,h1,h2] <;> omega):TG h w H' w' :=
 T.sum fun n ha h0 _ _=>hs n ha h0 (fun a l=>by show n ([a]++l)=_;rw [ha];rfl) h0
theorem qmc {ds:List Nat} {k:Xf} {gd:List Blk} {d bd:Nat} (h:qhe ds k gd) (hc:k.nd=d+1) (hb:ds[d]?=some bd) :
 ∃ v gr,Qu 173 5 v k.due.length (qd3 k.due) gr∧gd=[cl bd 326 #[v]]++gr:=by
 obtain ⟨h0,⟨h1,_⟩ | ⟨m,bd',v,gr,h1,h2,h3,h4⟩⟩:=h
 ·omega
 ·have:m=d:=by omega
  subst this;rw [hb] at h2;cases h2
  exact ⟨v,gr,h3,h4⟩
section
variable {L:Lay} {x:Qj} {ws:List Qg} {p:Qy} {e:ET} {g gC gK gF:List Blk} {kb:Nat} {pv sv:Value} {k:Xf}
theorem qup (d:Nat) (hz:Y0 L kb pv e ⟨k,x,ws,p⟩ gK gF) (hp:qe0 (.one2112 d) ⟨k,x,ws,p⟩) (bk bd:Nat) (hb:zx kb bk e) (hbd:e.2[d]?=some bd) :
 Qa prog 239 #[Qb bk,Qb bd] [gK,gF] (MRT L kb pv e (runT (.one2112 d) ⟨k,x,ws,p⟩).1 (runT (.one2112 d) ⟨k,x,ws,p⟩).2):=by
 have hc:k.nd=d+1:=hp.2.2;clear hp;obtain ⟨gd,gC,gW,gP,hd,hx,hw,hpp,rfl,rfl⟩:=hz;obtain ⟨v,gr,hr,rfl⟩:=qmc hd hc hbd;have hfi:=qw0 (L:=L) (x:=x) (ws:=ws) (p:=p) (kb:=kb) (pv:=pv) (sv:=Qw L k) (k:=k) d bd 0 v gr hr (by decide);unfold FiR at hfi;cases hq:k.due[0]? with
 | none =>
   rw [show runT (.one2112 d) ⟨k,x,ws,p⟩=(.row1 .unlock,⟨k,x,ws,p⟩) by simp only [runT,hq]];rw [show Xc d 0 ⟨k,x,ws,p⟩=(.nil,⟨k,x,ws,p⟩) by simp only [Xc,hq]] at hfi;dsimp only at hfi ⊢
   have hcl:∀ (e':ET) gK gF,Y0 L kb pv e' ⟨k,x,ws,p⟩ gK gF→zx kb bk e'→_:=fun e' gK gF hz h1=>qjc hz bk h1
   unfold MRT at *;refine GO fun w HT=>?_
   have HFI:=Vh hfi;have HCL:=Vh hcl;have HT:=Vh (HT.out.sum2 (H':=[Qi kb L.fb pv (Qw L k) k,[cl bd 326 #[v]],gr,e.1,gC,gW,gP]));have HX:=Vh hx;have HD:=Vh hd;have HW:=Vh hw;have HPP:=Vh hpp;have HBD:=Vh hbd;clear hx hd hw hpp hfi hcl hq hbd hr hc;have HB:=Vh (show cl bk 129 #[Qb kb]∈e.1 from hb);clear hb;have b0:=HT.out.mem_cell 3 HB.out 0;have ltb:=HT.out.mem_lt 3 HB.out;simp only [GE2] at b0 ltb;go_enter func239,ntmps239
   go_wp2_with fail
   refine (Qa.use (HFI.out) (HT.out.alloc (k:=w.heap.size) rfl _ _) [0,1,2] rfl rfl).mono ?_
   rintro e w1 ⟨gs,⟨g2,l2,m2,d2,rfl,hs2,rfl⟩,Ta⟩;simp only [PU] at Ta;clear b0 ltb;have HT:=Vh Ta;clear Ta;obtain ⟨rfl,rfl,rfl⟩:=hs2 (l2,e.2) (fun _ h=>h) HBD.out;clear hs2;have hth:=qhv (first:=#[]) (caps:=#[Qb bk]) (enters_of func241 (by kernel_rfl) rfl) (HCL.out (e.1++l2,e.2) (Qi kb L.fb pv (Qw L k) k++(([cl bd 326 #[v]]++gr)++(e.1++l2))) (gC++(gW++gP)) ⟨[cl bd 326 #[v]]++gr,gC,gW,gP,HD.out,HX.out,HW.out,HPP.out,rfl,rfl⟩ (List.mem_append_left _ HB.out)) (fun _ _ h=>MRT.fv h);obtain ⟨gT,hgT⟩:∃ gT,gT=Qi kb L.fb pv (Qw L k) k:=⟨_,rfl⟩;obtain ⟨gD,hgD⟩:∃ gD,gD=[cl bd 326 #[v]]++gr:=⟨_,rfl⟩;have HTo:=HT.out;rw [← hgT] at hth HTo;have HTo:=HTo.sum2 (H':=[gT,[cl bd 326 #[v]]++gr,e.1,gC,gW,gP,[cl w.heap.size 180 #[.nilFunc,.nilFunc]],l2]);rw [← hgD] at hth HTo;have HTH:=Vh hth;have HT:=Vh HTo;clear hth HTo hgT hgD;go_wp2_with fail
   refine (Qa.use (HTH.out) (HT.out.sum2 (H':=[gT++(gD++(e.1++l2)),gC++(gW++gP),[cl w.heap.size 180 #[.nilFunc,.nilFunc]]])) [0,1] rfl rfl).mono ?_
   rintro e w1 ⟨gs,⟨e2,hl2,m3,d3,g3,gK3,gF3,rfl,hs3,hz3,rfl⟩,Ta⟩;simp only [PU] at Ta;have HL2:=Vh hl2;have HZ3:=Vh hz3;clear hl2 hz3;have HT:=Vh Ta;clear Ta;obtain ⟨r0,r1⟩:=Ce2 (HT.out.cell 2 0 rfl) 0 1;obtain ⟨fr0,fr1⟩:=Ce2 (HT.out.free 2 0 rfl) 0 1;simp only [GE4] at r0 r1;have hv2:=(Qx L kb pv e2).vals hs3;obtain ⟨st1,st2⟩:=Cli.store_fv2 (P:=prog) hv2.1 hv2.2 r0 fr0 r1 fr1;have HS:=Vh hs3;clear hv2 hs3;go_wp2
   exact bodyPost_ret (v:=.agg #[_,_]) (by simp [results,results239,go_sem,r0,r1]) rfl ⟨_,⟨e2,(leT.app e l2).trans HL2.out,m3,d3,g3,gK3,gF3,rfl,HS.out,HZ3.out,rfl⟩,((HT.out.set 2 0 rfl 0 _).set 2 0 rfl 1 _).pick [0,1,3] rfl⟩
 | some t =>
   rw [show runT (.one2112 d) ⟨k,x,ws,p⟩=(.thn (Xc d 0 ⟨k,x,ws,p⟩).1 .one21121,(Xc d 0 ⟨k,x,ws,p⟩).2) by simp only [runT,hq]];rw [show Xc d 0 ⟨k,x,ws,p⟩=(.thn (.at none .looks) (.fires1 d 0),⟨{ k with t:=t },x,ws,p⟩) by simp only [Xc,hq]] at hfi ⊢;dsimp only at hfi ⊢
   unfold MRT;refine GO fun w HT=>?_
   have HFI:=Vh hfi;have HT:=Vh (HT.out.sum2 (H':=[Qi kb L.fb pv (Qw L k) k,[cl bd 326 #[v]],gr,e.1,gC,gW,gP]));have HX:=Vh hx;have HD:=Vh hd;have HW:=Vh hw;have HPP:=Vh hpp;have HBD:=Vh hbd;clear hx hd hw hpp hfi hq hbd hr hc;have HB:=Vh (show cl bk 129 #[Qb kb]∈e.1 from hb);clear hb;have b0:=HT.out.mem_cell 3 HB.out 0;have ltb:=HT.out.mem_lt 3 HB.out;simp only [GE2] at b0 ltb;go_enter func239,ntmps239
   obtain ⟨gT,hgT⟩:∃ gT,gT=Qi kb L.fb pv (Qw L k) { k with t:=t }:=⟨_,rfl⟩;go_wp2_with fail
   refine (Qa.use (HFI.out) (HT.out.alloc (k:=w.heap.size) rfl _ _) [0,1,2] rfl rfl).mono ?_
   rintro e w1 ⟨gs,⟨g2,l2,m2,d2,rfl,hs2,rfl⟩,Ta⟩;simp only [PU] at Ta;clear b0 ltb;have HT:=Vh Ta;clear Ta;have HTo:=HT.out;rw [← hgT] at HTo;obtain ⟨gD,hgD⟩:∃ gD,gD=[cl bd 326 #[v]]++gr:=⟨_,rfl⟩;have HTo:=HTo.sum2 (H':=[gT,[cl bd 326 #[v]]++gr,e.1,gC,gW,gP,[cl w.heap.size 180 #[.nilFunc,.nilFunc]],l2,g2,[]]);rw [← hgD] at HTo;have HT:=Vh HTo;have HGT:=Vh hgT;have HGD:=Vh hgD;clear hgD;have HS:=Vh (hs2 (e.1++l2,e.2) (fun b hb=>List.mem_append_right _ hb) HBD.out);clear HTo hgT hs2;go_wp2_with fail
   refine Qa.run (Cli.prog_then_x (c:=(qh8 L kb pv).on (e.1++l2,e.2)) (s:=.thn (.at none .looks) (.fires1 d 0)) (f:=MT.one21121) (v:=.func (.func 241) #[] #[Qb bk]) (gm:=[]) (Qx L kb pv _) rfl HS.out ⟨rfl,bk,rfl,List.mem_append_left _ HB.out⟩) (HT.out) [8,9] ?_
   rintro e w1 gs ⟨bs,br,rfl,rfl⟩ HT;simp only [PU] at HT;obtain ⟨r0,r1⟩:=Ce2 (HT.out.cell 6 0 rfl) 0 1;obtain ⟨fr0,fr1⟩:=Ce2 (HT.out.free 6 0 rfl) 0 1;simp only [GE4] at r0 r1;have hv2:=(Qx L kb pv _).vals HS.out;obtain ⟨st1,st2⟩:=Cli.store_fv2 (P:=prog) (v':=.func (.func 167) #[] #[Qb bs,Qb br]) hv2.1 (Or.inr ⟨_,_,_,rfl⟩) r0 fr0 r1 fr1;clear hv2;go_wp2
   have HF:=(((HT.out.set 6 0 rfl 0 m2).set 6 0 rfl 1 (.func (.func 167) #[] #[Qb bs,Qb br])).pick [8,0,1,2,7,3,4,5] rfl).sum2 (H':=[[cl bs 180 #[m2,d2],cl br 178 #[.func (.func 241) #[] #[Qb bk]]]++g2++[],gT++(gD++(e.1++l2)),gC++(gW++gP)]);rw [HGT.out,HGD.out] at HF;exact bodyPost_ret (v:=.agg #[_,_]) (by simp [results,results239,go_sem,r0,r1]) rfl ⟨_,⟨(e.1++l2,e.2),leT.app e l2,_,_,_,_,_,rfl,⟨bs,br,_,_,g2,[],rfl,rfl,HS.out,⟨rfl,bk,rfl,List.mem_append_left _ HB.out⟩,rfl⟩,⟨_,gC,gW,gP,HD.out,HX.out,HW.out,HPP.out,rfl,rfl⟩,rfl⟩,HF⟩
end
end
end Go.Proofs.YtikpbibeagbccaaGreat
