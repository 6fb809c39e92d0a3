import Derived.Test.YtcneeepdclgdcaaGreatCO10
import Derived.Test.YtcneeepdclgdcaaGreatCO4
set_option maxRecDepth 100000
set_option maxHeartbeats 4000000
namespace Go.Proofs.YtcneeepdclgdcaaGreat
set_option linter.unusedVariables false
set_option linter.unusedSimpArgs false
open Go.Proofs.Tryz
section
open Go.RowKit
def cellAt (C:Array Value) (o:Nat) (v:Value):Prop :=
 C[o]?=some v∧∃ l t u:Int,C[o+1]?=some (.int .i64 l)∧C[o+2]?=some (.int .i64 t)∧C[o+3]?=some (.int .i64 u)
structure Q5 (C:Array Value) (o:Nat) (v:Value) (C':Array Value):Prop where
 size:C'.size=C.size
 other:∀ i,(i<o∨o+4≤i)→C'[i]?=C[i]?
 cell:cellAt C' o v
def Jz (b:Nat) (T:TypeId) (C:Array Value) (o:Nat) (v r:Value) (e:Ending) (h':PH):Prop :=
 e=.returned r∧∃ C',h'=[pt b T C']∧Q5 C o v C'
theorem Q5.trans {A B C:Array Value} {o:Nat} {u v:Value} (h:Q5 A o u B) (k:Q5 B o v C):Q5 A o v C :=
 ⟨k.size.trans h.size,fun i hi=>(k.other i hi).trans (h.other i hi),k.cell⟩
theorem qhv {C:Array Value} {i j:Nat} {v:Value}:(C.setIfInBounds i v)[j]?=if i=j then (if i<C.size then some v else none) else C[j]?:=by
 rw [Array.getElem?_setIfInBounds]
theorem lt_of_some {C:Array Value} {i:Nat} {v:Value} (h:C[i]?=some v):i<C.size:=(Array.getElem?_eq_some_iff.1 h).1
theorem Qb {C:Array Value} {i j:Nat} {v:Value} (h:i≠j):(C.setIfInBounds i v)[j]?=C[j]?:=by rw [qhv,if_neg h]
theorem Q1 {C:Array Value} {i:Nat} {u v:Value} (h:C[i]?=some u):(C.setIfInBounds i v)[i]?=some v:=by rw [qhv,if_pos rfl,if_pos (lt_of_some h)]
section
variable {C:Array Value} {o:Nat} {v v':Value} {l t u:Int}
theorem Je (h0:C[o]?=some v) (h1:C[o+1]?=some (.int .i64 l)) (h2:C[o+2]?=some (.int .i64 t)) (h3:C[o+3]?=some (.int .i64 u)) {x:Int} :
 Q5 C o v (C.setIfInBounds (o+1) (.int .i64 x)) :=
 ⟨by simp,fun i hi=>Qb (by omega),(Qb (by omega)).trans h0,x,t,u,Q1 h1,(Qb (by omega)).trans h2,(Qb (by omega)).trans h3⟩
theorem Zt (h0:C[o]?=some v) (h1:C[o+1]?=some (.int .i64 l)) (h2:C[o+2]?=some (.int .i64 t)) (h3:C[o+3]?=some (.int .i64 u)) {x:Int} :
 Q5 C o v (C.setIfInBounds (o+2) (.int .i64 x)) :=
 ⟨by simp,fun i hi=>Qb (by omega),(Qb (by omega)).trans h0,l,x,u,(Qb (by omega)).trans h1,Q1 h2,(Qb (by omega)).trans h3⟩
theorem qbg (h0:C[o]?=some v) (h1:C[o+1]?=some (.int .i64 l)) (h2:C[o+2]?=some (.int .i64 t)) (h3:C[o+3]?=some (.int .i64 u)) {x:Int} :
 Q5 C o v (C.setIfInBounds (o+3) (.int .i64 x)) :=
 ⟨by simp,fun i hi=>Qb (by omega),(Qb (by omega)).trans h0,l,t,x,(Qb (by omega)).trans h1,(Qb (by omega)).trans h2,Q1 h3⟩
theorem qdb (hc:cellAt C o v):Q5 C o v' (C.setIfInBounds o v'):=by
 obtain ⟨h0,l,t,u,h1,h2,h3⟩:=hc;exact ⟨by simp,fun i hi=>Qb (by omega),Q1 h0,l,t,u,(Qb (by omega)).trans h1,(Qb (by omega)).trans h2,(Qb (by omega)).trans h3⟩
theorem Q5.turned {A:Array Value} (h:Q5 A o v C) {x:Int}:Q5 A o v (C.setIfInBounds (o+3) (.int .i64 x)):=by
 obtain ⟨h0,l,t,u,h1,h2,h3⟩:=h.cell;exact h.trans (qbg h0 h1 h2 h3)
theorem zy (h0:C[o]?=some v) (h1:C[o+1]?=some (.int .i64 l)) (h2:C[o+2]?=some (.int .i64 t)) (h3:C[o+3]?=some (.int .i64 u)) {x y:Int} :
 Q5 C o v' (((C.setIfInBounds (o+2) (.int .i64 x)).setIfInBounds o v').setIfInBounds (o+3) (.int .i64 y)) :=
 ((Zt h0 h1 h2 h3).trans (qdb (Zt h0 h1 h2 h3).cell)).turned
theorem Q5.cellOther {C':Array Value} (h:Q5 C o v C') {o':Nat} {x:Value} (hc:cellAt C o' x) (hd:o'+4≤o∨o+4≤o'):cellAt C' o' x:=by
 obtain ⟨h0,l,t,u,h1,h2,h3⟩:=hc;exact ⟨(h.other _ (by omega)).trans h0,l,t,u,(h.other _ (by omega)).trans h1,(h.other _ (by omega)).trans h2,(h.other _ (by omega)).trans h3⟩
end
theorem Xf (b o:Nat) (T:TypeId) (C:Array Value) (n:Int) (hc:cellAt C o (.int .i64 n)) :
 Does prog 88 #[.pointer (some ⟨b,o,none⟩)] [pt b T C] (Jz b T C o (.int .i64 n) (.int .i64 n)):=by
 intro w hw;obtain ⟨h0,l,t,u,h1,h2,h3⟩:=hc;have T0:=Qe.refl hw;have hb:=T0.blk 0 rfl;have c0:w.cell? ⟨b,o,none⟩=some (.int .i64 n):=(Qw hb o).trans h0;have c1:w.cell? ⟨b,o+1,none⟩=some (.int .i64 l):=(Qw hb (o+1)).trans h1;have f1:=Xe hb (o+1);have T1:=Vh T0;have H:=Vh (And.intro h0 (And.intro h1 (And.intro h2 h3)));clear T0 hb hw h0 h1 h2 h3;go_enter func88,ntmps88
 go_wp2
 go_ret
 obtain ⟨h0,h1,h2,h3⟩:=H.out;exact ⟨_,⟨rfl,_,rfl,Je h0 h1 h2 h3⟩,T1.out.set (o+1) _⟩
theorem Z0 (b o:Nat) (T:TypeId) (C:Array Value) (n old new:Int) (hc:cellAt C o (.int .i64 n)) :
 Does prog 248 #[.pointer (some ⟨b,o,none⟩),.int .i64 old,.int .i64 new] [pt b T C] (Jz b T C o (.int .i64 (if n=old then new else n)) (.bool (decide (n=old)))):=by
 intro w hw;obtain ⟨h0,l,t,u,h1,h2,h3⟩:=hc;have T0:=Qe.refl hw;have hb:=T0.blk 0 rfl;have c0:w.cell? ⟨b,o,none⟩=some (.int .i64 n):=(Qw hb o).trans h0;have c2:w.cell? ⟨b,o+2,none⟩=some (.int .i64 t):=(Qw hb (o+2)).trans h2;have c3:w.cell? ⟨b,o+3,none⟩=some (.int .i64 u):=(Qw hb (o+3)).trans h3;have f0:=Xe hb o;have f2:=Xe hb (o+2);have f3:=Xe hb (o+3);have T1:=Vh T0;have H:=Vh (And.intro h0 (And.intro h1 (And.intro h2 h3)));clear T0 hb hw h0 h1 h2 h3;by_cases he:n=old
 ·subst he
  skip
  all_goals
   go_enter func248,ntmps248
   go_wp2
   go_ret
   obtain ⟨h0,h1,h2,h3⟩:=H.out;exact ⟨_,⟨by simp,_,rfl,zy h0 h1 h2 h3⟩,((T1.out.set (o+2) _).set o _).set (o+3) _⟩
 ·skip
  all_goals
   go_enter func248,ntmps248
   go_wp2
   go_ret
   obtain ⟨h0,h1,h2,h3⟩:=H.out;exact ⟨_,⟨by simp [he],_,rfl,Zt h0 h1 h2 h3⟩,T1.out.set (o+2) _⟩
theorem qau (b o:Nat) (T:TypeId) (C:Array Value) (n v:Int) (ok:Bool) (g:Nat) (caps:Array Value) (F:PH) (hc:cellAt C o (.int .i64 n))
 (eg:∀ args w,(callFunc g args).run prog w=.ok (.enter g args) w)
 (hg:Does prog g (#[.int .i64 n]++caps) F fun e h'=>e=.returned (.tuple #[.int .i64 v,.bool ok])∧h'=F) :
 Does prog 210 #[.pointer (some ⟨b,o,none⟩),.func (.func g) #[] caps] (pt b T C::F) fun e h' =>
  e=.returned (.tuple #[.int .i64 n,.bool ok])∧∃ C',h'=pt b T C'::F∧Q5 C o (.int .i64 (if ok=true then v else n)) C':=by
 intro w hw;have T0:=Vh (Qe.refl hw);have HC:=Vh hc;have HG:=Vh hg;clear hw hc hg;cases ok
 ·go_enter func210,ntmps210
  go_wp2_with (first
   | (go_at_call 88;refine ((Xf b o T C n HC.out).use T0.out (List.Perm.refl _)).mono ?_
      rintro e w1 ⟨h',⟨rfl,C1,rfl,hr1⟩,T1⟩;have T1:=Vh T1;have HR1:=Vh hr1;clear hr1)
   | (refine (HG.out.use T1.out (List.perm_append_comm (l₁:=[pt b T C1]) (l₂:=F))).mono ?_
      rintro e w2 ⟨h',⟨rfl,rfl⟩,T2⟩;have T2:=Vh T2))
  go_ret2
  exact ⟨_,⟨rfl,C1,rfl,HR1.out⟩,T2.out.perm (List.perm_append_comm)⟩
 ·go_enter func210,ntmps210
  go_wp2_with (first
   | (go_at_call 88;refine ((Xf b o T C n HC.out).use T0.out (List.Perm.refl _)).mono ?_
      rintro e w1 ⟨h',⟨rfl,C1,rfl,hr1⟩,T1⟩;have T1:=Vh T1;have HR1:=Vh hr1;clear hr1)
   | (go_at_call 248;refine ((Z0 b o T C1 n n v HR1.out.cell).use T2.out (List.perm_append_comm)).mono ?_
      rintro e w3 ⟨h',⟨rfl,C3,rfl,hr3⟩,T3⟩;rw [if_pos rfl] at hr3;have T3:=Vh T3;have HR3:=Vh hr3;clear hr3)
   | (refine (HG.out.use T1.out (List.perm_append_comm (l₁:=[pt b T C1]) (l₂:=F))).mono ?_
      rintro e w2 ⟨h',⟨rfl,rfl⟩,T2⟩;have T2:=Vh T2))
  all_goals go_ret2
  all_goals exact ⟨_,⟨by simp,C3,rfl,HR1.out.trans HR3.out⟩,T3.out⟩
theorem Y9 (b o:Nat) (T:TypeId) (C:Array Value) (n:Int) (hc:cellAt C o (.int .u64 n)) :
 Does prog 100 #[.pointer (some ⟨b,o,none⟩)] [pt b T C] (Jz b T C o (.int .u64 n) (.int .u64 n)):=by
 intro w hw;obtain ⟨h0,l,t,u,h1,h2,h3⟩:=hc;have T0:=Qe.refl hw;have hb:=T0.blk 0 rfl;have c0:w.cell? ⟨b,o,none⟩=some (.int .u64 n):=(Qw hb o).trans h0;have c1:w.cell? ⟨b,o+1,none⟩=some (.int .i64 l):=(Qw hb (o+1)).trans h1;have f1:=Xe hb (o+1);have T1:=Vh T0;have H:=Vh (And.intro h0 (And.intro h1 (And.intro h2 h3)));clear T0 hb hw h0 h1 h2 h3;go_enter func100,ntmps100
 go_wp2
 go_ret
 obtain ⟨h0,h1,h2,h3⟩:=H.out;exact ⟨_,⟨rfl,_,rfl,Je h0 h1 h2 h3⟩,T1.out.set (o+1) _⟩
theorem Y7 (b o:Nat) (T:TypeId) (C:Array Value) (n old new:Int) (hc:cellAt C o (.int .u64 n)) :
 Does prog 260 #[.pointer (some ⟨b,o,none⟩),.int .u64 old,.int .u64 new] [pt b T C] (Jz b T C o (.int .u64 (if n=old then new else n)) (.bool (decide (n=old)))):=by
 intro w hw;obtain ⟨h0,l,t,u,h1,h2,h3⟩:=hc;have T0:=Qe.refl hw;have hb:=T0.blk 0 rfl;have c0:w.cell? ⟨b,o,none⟩=some (.int .u64 n):=(Qw hb o).trans h0;have c2:w.cell? ⟨b,o+2,none⟩=some (.int .i64 t):=(Qw hb (o+2)).trans h2;have c3:w.cell? ⟨b,o+3,none⟩=some (.int .i64 u):=(Qw hb (o+3)).trans h3;have f0:=Xe hb o;have f2:=Xe hb (o+2);have f3:=Xe hb (o+3);have T1:=Vh T0;have H:=Vh (And.intro h0 (And.intro h1 (And.intro h2 h3)));clear T0 hb hw h0 h1 h2 h3;by_cases he:n=old
 ·subst he
  skip
  all_goals
   go_enter func260,ntmps260
   go_wp2
   go_ret
   obtain ⟨h0,h1,h2,h3⟩:=H.out;exact ⟨_,⟨by simp,_,rfl,zy h0 h1 h2 h3⟩,((T1.out.set (o+2) _).set o _).set (o+3) _⟩
 ·skip
  all_goals
   go_enter func260,ntmps260
   go_wp2
   go_ret
   obtain ⟨h0,h1,h2,h3⟩:=H.out;exact ⟨_,⟨by simp [he],_,rfl,Zt h0 h1 h2 h3⟩,T1.out.set (o+2) _⟩
theorem qa2 (b o:Nat) (T:TypeId) (C:Array Value) (n v:Int) (ok:Bool) (g:Nat) (caps:Array Value) (F:PH) (hc:cellAt C o (.int .u64 n))
 (eg:∀ args w,(callFunc g args).run prog w=.ok (.enter g args) w)
 (hg:Does prog g (#[.int .u64 n]++caps) F fun e h'=>e=.returned (.tuple #[.int .u64 v,.bool ok])∧h'=F) :
 Does prog 249 #[.pointer (some ⟨b,o,none⟩),.func (.func g) #[] caps] (pt b T C::F) fun e h' =>
  e=.returned (.tuple #[.int .u64 n,.bool ok])∧∃ C',h'=pt b T C'::F∧Q5 C o (.int .u64 (if ok=true then v else n)) C':=by
 intro w hw;have T0:=Vh (Qe.refl hw);have HC:=Vh hc;have HG:=Vh hg;clear hw hc hg;cases ok
 ·go_enter func249,ntmps249
  go_wp2_with (first
   | (go_at_call 100;refine ((Y9 b o T C n HC.out).use T0.out (List.Perm.refl _)).mono ?_
      rintro e w1 ⟨h',⟨rfl,C1,rfl,hr1⟩,T1⟩;have T1:=Vh T1;have HR1:=Vh hr1;clear hr1)
   | (refine (HG.out.use T1.out (List.perm_append_comm (l₁:=[pt b T C1]) (l₂:=F))).mono ?_
      rintro e w2 ⟨h',⟨rfl,rfl⟩,T2⟩;have T2:=Vh T2))
  go_ret2
  exact ⟨_,⟨rfl,C1,rfl,HR1.out⟩,T2.out.perm (List.perm_append_comm)⟩
 ·go_enter func249,ntmps249
  go_wp2_with (first
   | (go_at_call 100;refine ((Y9 b o T C n HC.out).use T0.out (List.Perm.refl _)).mono ?_
      rintro e w1 ⟨h',⟨rfl,C1,rfl,hr1⟩,T1⟩;have T1:=Vh T1;have HR1:=Vh hr1;clear hr1)
   | (go_at_call 260;refine ((Y7 b o T C1 n n v HR1.out.cell).use T2.out (List.perm_append_comm)).mono ?_
      rintro e w3 ⟨h',⟨rfl,C3,rfl,hr3⟩,T3⟩;rw [if_pos rfl] at hr3;have T3:=Vh T3;have HR3:=Vh hr3;clear hr3)
   | (refine (HG.out.use T1.out (List.perm_append_comm (l₁:=[pt b T C1]) (l₂:=F))).mono ?_
      rintro e w2 ⟨h',⟨rfl,rfl⟩,T2⟩;have T2:=Vh T2))
  all_goals go_ret2
  all_goals exact ⟨_,⟨by simp,C3,rfl,HR1.out.trans HR3.out⟩,T3.out⟩
structure Rec where
 w:Int
 g:Int
 p:Int
structure Qg where
 recs:List Rec
 count:Int
structure Req where
 p:Int
 next:Int
 saw:Int
 slot:Int
 id:Int
 st:Int
structure Zy (r:Rec):Prop where
 w0:0≤r.w
 w1:r.w<18446744073709551616
 ok:okW r.w=true
 g0:0≤r.g
 g1:r.g≤X0 r.w
 p0:0≤r.p
 p1:r.p<18446744073709551616
structure Xm (s:Qg):Prop where
 n0:1≤s.recs.length
 n1:s.recs.length≤64
 c0:0≤s.count
 c1:s.count≤s.recs.length
 recs:∀ r∈s.recs,Zy r
structure qbi (n:Nat) (q:Req):Prop where
 p0:0≤q.p
 p1:q.p<18446744073709551616
 slot0:0≤q.slot
 slot1:q.slot<n
 next:q.next=0∨(q.next=1∧0≤q.saw∧q.saw<n)∨q.next=2
def Yu (s:Qg) (q:Req):Req:=if (s.recs.length:Int)≤s.count then { q with saw:=s.count,st:=1 } else { q with saw:=s.count,next:=1 }
def Jn (s:Qg) (q:Req):Qg × Req:=if s.count=q.saw then ({ s with count:=s.count+1 },{ q with next:=2 }) else (s,{ q with next:=0 })
def Rec.zero:Rec:=⟨0,0,0⟩
def Jd (s:Qg) (q:Req):Qg × Req :=
 let r:=s.recs.getD q.slot.toNat Rec.zero
 let t:=Qs r.w 1 (decide (0<q.p))
 if t.2=0 then ({ s with recs:=s.recs.set q.slot.toNat ⟨t.1,r.g+1,q.p⟩ },{ q with id:=(r.g+1)*64+q.slot,st:=2 })
 else (s,{ q with slot:=(q.slot+1) % s.recs.length })
def Q3 (s:Qg) (q:Req):Qg × Req :=
 if q.st≠0 then (s,q) else if q.next=0 then (s,Yu s q) else if q.next=1 then Jn s q else Jd s q
def Xa (n:Nat):Qg:=⟨List.replicate n Rec.zero,0⟩
def Qg.has (s:Qg) (k:Int):Prop:=0≤k∧k<s.recs.length
instance (s:Qg) (k:Int):Decidable (s.has k):=by unfold Qg.has;infer_instance
def Qg.period (s:Qg) (k:Int):Int:=if s.has k then (s.recs.getD k.toNat Rec.zero).p else 0
def Qg.word (s:Qg) (k:Int):Int:=if s.has k then (s.recs.getD k.toNat Rec.zero).w else 0
def Qg.werr (s:Qg) (k:Int):Int:=if s.has k then 0 else 4
def Qg.known (s:Qg) (id:Int):Prop:=id % 64<s.recs.length∧1≤id / 64∧id / 64≤(s.recs.getD (id % 64).toNat Rec.zero).g
instance (s:Qg) (k:Int):Decidable (s.known k):=by unfold Qg.known;infer_instance
def Qg.slot (s:Qg) (id:Int):Int:=if s.known id then id % 64 else 0
def Qg.serr (s:Qg) (id:Int):Int:=if s.known id then 0 else 1
def Qg.mine (s:Qg) (id:Int):Bool:=decide (s.known id) && decide ((s.recs.getD (id % 64).toNat Rec.zero).g=id / 64)
def Qg.try (s:Qg) (k old ev:Int):Qg × Int × Int :=
 if s.has k then
  let r:=s.recs.getD k.toNat Rec.zero
  let t:=Qs old ev (decide (0<r.p))
  if t.2≠0 then (s,r.w,t.2) else if r.w=old then ({ s with recs:=s.recs.set k.toNat { r with w:=t.1 } },t.1,0) else (s,r.w,10)
 else (s,0,4)
def Qg.drop (s:Qg):Qg × Int:=if 0<s.count then ({ s with count:=s.count - 1 },0) else (s,6)
theorem Qg.has_at {s:Qg} {j:Nat} (h:s.has j):∃ r,s.recs[j]?=some r∧s.recs.getD (j:Int).toNat Rec.zero=r:=by
 have hj:j<s.recs.length:=by unfold Qg.has at h;omega
 exact ⟨s.recs[j],List.getElem?_eq_getElem hj,by simp [hj]⟩
theorem Qg.has_nat {s:Qg} {k:Int} (h:s.has k):∃ j:Nat,k=j:=Int.eq_ofNat_of_zero_le h.1
def recAt (C:Array Value) (i:Nat) (r:Rec):Prop:=cellAt C (i*6) (.int .u64 r.w)∧C[i*6+4]?=some (.int .u64 r.g)∧C[i*6+5]?=some (.int .u64 r.p)
def Y8 (rs:List Rec):Obj→Prop:=fun o=>∃ C,qba 176 C o∧C.size=rs.length*6∧∀ i r,rs[i]?=some r→recAt C i r
def qp (rb n:Nat) (c:Int):Obj→Prop:=fun o=>∃ C,qba 163 C o∧C.size=5∧C[0]?=some (.slice (some ⟨rb,0,none⟩) n n)∧cellAt C 1 (.int .i64 c)
def Zo (sb rb:Nat) (s:Qg):PH:=[(sb,qp rb s.recs.length s.count),(rb,Y8 s.recs)]
def qdl (sb:Nat) (q:Req):Array Value:=#[.pointer (some ⟨sb,0,none⟩),.int .u64 q.p,.int .i64 q.next,.int .i64 q.saw,.int .i64 q.slot,.int .u64 q.id,.int .i64 q.st]
def qcd (qb sb:Nat) (q:Req):Piece:=pt qb 292 (qdl sb q)
theorem Jj {C C':Array Value} {i j:Nat} {r:Rec} {n:Int} (h:recAt C j r) (hc:Q5 C (i*6) (.int .u64 n) C'):recAt C' j (if j=i then { r with w:=n } else r):=by
 obtain ⟨h0,h1,h2⟩:=h;by_cases e:j=i
 ·subst e
  rw [if_pos rfl];exact ⟨hc.cell,(hc.other _ (by omega)).trans h1,(hc.other _ (by omega)).trans h2⟩
 ·rw [if_neg e]
  exact ⟨hc.cellOther h0 (by omega),(hc.other _ (by omega)).trans h1,(hc.other _ (by omega)).trans h2⟩
theorem Yf {rs:List Rec} {C C':Array Value} {i:Nat} {r:Rec} {n:Int} (hs:C.size=rs.length*6) (h:∀ i r,rs[i]?=some r→recAt C i r) (hr:rs[i]?=some r) (hc:Q5 C (i*6) (.int .u64 n) C') :
 C'.size=(rs.set i { r with w:=n }).length*6∧∀ j x,(rs.set i { r with w:=n })[j]?=some x→recAt C' j x:=by
 refine ⟨by rw [hc.size,hs,List.length_set],fun j x hx=>?_⟩
 rw [List.getElem?_set] at hx;by_cases e:i=j
 ·subst e
  rw [if_pos rfl] at hx;split at hx
  ·cases hx;have:=Jj (h i r hr) hc;rwa [if_pos rfl] at this
  ·cases hx
 ·rw [if_neg e] at hx
  have:=Jj (h j x hx) hc;rwa [if_neg (fun x=>e x.symm)] at this
theorem q7 {rs:List Rec} {C C':Array Value} {i:Nat} {r:Rec} (hs:C.size=rs.length*6) (h:∀ i r,rs[i]?=some r→recAt C i r) (hr:rs[i]?=some r) (hc:Q5 C (i*6) (.int .u64 r.w) C') :
 C'.size=rs.length*6∧∀ j x,rs[j]?=some x→recAt C' j x:=by
 have:=Yf hs h hr hc
 have e:rs.set i { r with w:=r.w }=rs:=by
  apply List.ext_getElem? ;intro k;rw [List.getElem?_set];split
  ·next e=>subst e;split
           ·rw [hr]
           ·rename_i hn;exact absurd (List.getElem?_eq_some_iff.1 hr).1 hn
  ·rfl
 rwa [e] at this
theorem qf5 {C:Array Value} {i:Nat} {r:Rec} (h:recAt C i r) (n:Int):recAt (C.setIfInBounds (i*6+4) (.int .u64 n)) i { r with g:=n }:=by
 obtain ⟨⟨h0,l,t,u,a,b,c⟩,h1,h2⟩:=h;exact ⟨⟨(Qb (by omega)).trans h0,l,t,u,(Qb (by omega)).trans a,(Qb (by omega)).trans b,(Qb (by omega)).trans c⟩,Q1 h1,(Qb (by omega)).trans h2⟩
theorem qf7 {C:Array Value} {i:Nat} {r:Rec} (h:recAt C i r) (n:Int):recAt (C.setIfInBounds (i*6+5) (.int .u64 n)) i { r with p:=n }:=by
 obtain ⟨⟨h0,l,t,u,a,b,c⟩,h1,h2⟩:=h;exact ⟨⟨(Qb (by omega)).trans h0,l,t,u,(Qb (by omega)).trans a,(Qb (by omega)).trans b,(Qb (by omega)).trans c⟩,(Qb (by omega)).trans h1,Q1 h2⟩
theorem qar {C:Array Value} {i j k:Nat} {r:Rec} {v:Value} (h:recAt C i r) (hk:j*6≤k∧k<j*6+6) (hij:i≠j):recAt (C.setIfInBounds k v) i r:=by
 obtain ⟨⟨h0,l,t,u,a,b,c⟩,h1,h2⟩:=h;exact ⟨⟨(Qb (by omega)).trans h0,l,t,u,(Qb (by omega)).trans a,(Qb (by omega)).trans b,(Qb (by omega)).trans c⟩,(Qb (by omega)).trans h1,(Qb (by omega)).trans h2⟩
theorem qfm {rs:List Rec} {C C':Array Value} {i:Nat} {r:Rec} {n g p:Int} (hs:C.size=rs.length*6) (h:∀ i r,rs[i]?=some r→recAt C i r) (hr:rs[i]?=some r) (hc:Q5 C (i*6) (.int .u64 n) C') :
 ((C'.setIfInBounds (i*6+4) (.int .u64 g)).setIfInBounds (i*6+5) (.int .u64 p)).size=(rs.set i ⟨n,g,p⟩).length*6 ∧
   ∀ j x,(rs.set i ⟨n,g,p⟩)[j]?=some x→recAt ((C'.setIfInBounds (i*6+4) (.int .u64 g)).setIfInBounds (i*6+5) (.int .u64 p)) j x:=by
 obtain ⟨k1,k2⟩:=Yf hs h hr hc;refine ⟨by rw [Array.size_setIfInBounds,Array.size_setIfInBounds,k1,List.length_set,List.length_set],fun j x hx=>?_⟩
 have hi:=(List.getElem?_eq_some_iff.1 hr).1;rw [List.getElem?_set] at hx;by_cases e:i=j
 ·subst e
  rw [if_pos rfl,if_pos hi] at hx;cases hx
  have:=k2 i _ (by rw [List.getElem?_set,if_pos rfl,if_pos hi]);exact qf7 (qf5 this g) p
 ·rw [if_neg e] at hx
  have:=k2 j x (by rw [List.getElem?_set,if_neg e];exact hx);exact qar (j:=i) (qar (j:=i) this ⟨by omega,by omega⟩ (fun x=>e x.symm)) ⟨by omega,by omega⟩ (fun x=>e x.symm)
theorem Xt {C C':Array Value} {rb n:Nat} {c:Int} (hs:C.size=5) (h0:C[0]?=some (.slice (some ⟨rb,0,none⟩) n n)) (hc:Q5 C 1 (.int .i64 c) C'):qp rb n c (.cells C' 163 (0,0)) :=
 ⟨C',rfl,hc.size.trans hs,(hc.other 0 (by omega)).trans h0,hc.cell⟩
theorem qal (sb rb:Nat) (s:Qg) :
 Does prog 20 #[.pointer (some ⟨sb,0,none⟩)] (Zo sb rb s) fun e h'=>e=.returned (.int .i64 s.count)∧h'=Zo sb rb s:=by
 intro w hw;obtain ⟨o,⟨C,rfl,hs,h0,hc⟩,T0⟩:=(Qe.refl hw).openAt 0 rfl;have T0:=Vh T0;have HC:=Vh (And.intro hs (And.intro h0 hc));clear hw hs h0 hc;go_enter func20,ntmps20
 go_wp2_with (go_at_call 88;refine ((Xf sb 1 _ C s.count HC.out.2.2).at T0.out 0 rfl).mono ?_
              rintro e w1 ⟨h',⟨rfl,C1,rfl,hr1⟩,T1⟩;have HR1:=Vh hr1;clear hr1;have T1:=Vh (T1 _ rfl))
 go_ret
 exact ⟨_,⟨rfl,rfl⟩,T1.out.sayAt 0 rfl _ (fun o ho=>by cases ho;exact Xt HC.out.1 HC.out.2.1 HR1.out)⟩
theorem qhx (qb sb rb:Nat) (s:Qg) (q:Req) :
 Does prog 214 #[.pointer (some ⟨qb,0,none⟩)] (qcd qb sb q::Zo sb rb s) fun e h'=>e=.returned (.tuple #[])∧h'=qcd qb sb (Yu s q)::Zo sb rb s:=by
 intro w hw;obtain ⟨o,⟨C,rfl,hs,h0,hc⟩,T0⟩:=(Qe.refl hw).openAt 1 rfl;have q0:=Qw (T0.blk 0 rfl);have hne:qb≠sb:=T0.ne 0 1 rfl rfl (by decide);simp only [qdl] at q0;have HT:=Vh T0;have HC:=Vh (And.intro hs (And.intro h0 hc));clear hw hs h0 hc T0;by_cases hk:(s.recs.length:Int)≤s.count
 ·skip
  have HK:=Vh (show Yu s q=_ from if_pos hk);go_enter func214,ntmps214
  go_wp2_with (
   go_at_call 88
   refine ((Xf sb 1 _ C s.count HC.out.2.2).at HT.out 1 rfl).mono ?_
   rintro e w1 ⟨h',⟨rfl,C1,rfl,hr1⟩,Ta⟩;have T1:=Ta _ rfl;clear Ta;have q1:=Qw (T1.blk 0 rfl);have qf:=Xe (T1.blk 0 rfl);simp only [qdl] at q1;have s1:=(Qw (T1.blk 1 rfl) 0).trans ((hr1.other 0 (by omega)).trans HC.out.2.1);have HR1:=Vh hr1;have HT1:=Vh T1
   clear hr1 T1 q0)
  go_region
  go_wp2
  refine bodyPost_ret (results_none rfl _ _ _) rfl ⟨_,⟨rfl,?_⟩,(((HT1.out.setAt 0 rfl 3 _).drew).setAt 0 rfl 6 _).sayAt 1 rfl _ (fun o ho=>by cases ho;exact Xt HC.out.1 HC.out.2.1 HR1.out)⟩
  rw [HK.out];rfl
 ·skip
  have HK:=Vh (show Yu s q=_ from if_neg hk);go_enter func214,ntmps214
  go_wp2_with (
   go_at_call 88
   refine ((Xf sb 1 _ C s.count HC.out.2.2).at HT.out 1 rfl).mono ?_
   rintro e w1 ⟨h',⟨rfl,C1,rfl,hr1⟩,Ta⟩;have T1:=Ta _ rfl;clear Ta;have q1:=Qw (T1.blk 0 rfl);have qf:=Xe (T1.blk 0 rfl);simp only [qdl] at q1;have s1:=(Qw (T1.blk 1 rfl) 0).trans ((hr1.other 0 (by omega)).trans HC.out.2.1);have HR1:=Vh hr1;have HT1:=Vh T1
   clear hr1 T1 q0)
  go_region
  go_wp2
  refine bodyPost_end (results_none rfl _ _ _) rfl ⟨_,⟨rfl,?_⟩,(((HT1.out.setAt 0 rfl 3 _).drew).setAt 0 rfl 2 _).sayAt 1 rfl _ (fun o ho=>by cases ho;exact Xt HC.out.1 HC.out.2.1 HR1.out)⟩
  rw [HK.out];rfl
theorem qg5 (qb sb rb:Nat) (s:Qg) (q:Req) (b0:0≤q.saw) (b1:q.saw<64) :
 Does prog 215 #[.pointer (some ⟨qb,0,none⟩)] (qcd qb sb q::Zo sb rb s) fun e h'=>e=.returned (.tuple #[])∧h'=qcd qb sb (Jn s q).2::Zo sb rb (Jn s q).1:=by
 intro w hw;obtain ⟨o,⟨C,rfl,hs,h0,hc⟩,T0⟩:=(Qe.refl hw).openAt 1 rfl;have q0:=Qw (T0.blk 0 rfl);have qf0:=Xe (T0.blk 0 rfl);have hne:qb≠sb:=T0.ne 0 1 rfl rfl (by decide);simp only [qdl] at q0;have HT:=Vh T0;have HC:=Vh (And.intro hs (And.intro h0 hc));clear hw hs h0 hc T0;have hwr:wrap64 (q.saw+1)=q.saw+1:=by unfold wrap64;omega
 by_cases hk:s.count=q.saw
 ·have HK:=Vh (show Jn s q=_ from if_pos hk)
  go_enter func215,ntmps215
  go_wp2
  go_region_held3 (fun w'=>w'.cell? ⟨qb,0,none⟩=some (.pointer (some ⟨sb,0,none⟩))∧w'.cell? ⟨qb,3,none⟩=some (.int .i64 q.saw)) (first | exact ⟨(HT.out.setAt 0 rfl 2 _).drew.cell 0 rfl 0,(HT.out.setAt 0 rfl 2 _).drew.cell 0 rfl 3⟩ | exact ⟨q1 0,q1 3⟩) ((
   go_at_call 248
   rw [qlg (q.saw+1) (by omega) (by omega)];refine ((Z0 sb 1 _ C s.count q.saw (q.saw+1) HC.out.2.2).at (HT.out.setAt 0 rfl 2 _).drew 1 rfl).mono ?_
   rintro e w1 ⟨h',⟨rfl,C1,rfl,hr1⟩,Ta⟩;have T1:=Ta _ rfl;clear Ta;have q1:=Qw (T1.blk 0 rfl);have qf:=Xe (T1.blk 0 rfl);rw [if_pos hk] at hr1;have HR1:=Vh hr1;have HT1:=Vh T1
   clear hr1 T1 q0))
  go_wp2
  refine bodyPost_end (results_none rfl _ _ _) rfl ⟨_,⟨rfl,?_⟩,(HT1.out.setAt 0 rfl 2 _).sayAt 1 rfl _ (fun o ho=>by cases ho;exact Xt HC.out.1 HC.out.2.1 HR1.out)⟩
  rw [HK.out,hk];rfl
 ·have HK:=Vh (show Jn s q=_ from if_neg hk)
  go_enter func215,ntmps215
  go_wp2
  go_region_held3 (fun w'=>w'.cell? ⟨qb,0,none⟩=some (.pointer (some ⟨sb,0,none⟩))∧w'.cell? ⟨qb,3,none⟩=some (.int .i64 q.saw)) (first | exact ⟨(HT.out.setAt 0 rfl 2 _).drew.cell 0 rfl 0,(HT.out.setAt 0 rfl 2 _).drew.cell 0 rfl 3⟩ | exact ⟨q1 0,q1 3⟩) ((
   go_at_call 248
   rw [qlg (q.saw+1) (by omega) (by omega)];refine ((Z0 sb 1 _ C s.count q.saw (q.saw+1) HC.out.2.2).at (HT.out.setAt 0 rfl 2 _).drew 1 rfl).mono ?_
   rintro e w1 ⟨h',⟨rfl,C1,rfl,hr1⟩,Ta⟩;have T1:=Ta _ rfl;clear Ta;have q1:=Qw (T1.blk 0 rfl);have qf:=Xe (T1.blk 0 rfl);rw [if_neg hk] at hr1;have HR1:=Vh hr1;have HT1:=Vh T1
   clear hr1 T1 q0))
  go_wp2
  refine bodyPost_end (results_none rfl _ _ _) rfl ⟨_,⟨rfl,?_⟩,HT1.out.sayAt 1 rfl _ (fun o ho=>by cases ho;exact Xt HC.out.1 HC.out.2.1 HR1.out)⟩
  rw [HK.out];rfl
theorem qa6 (xb qb sb:Nat) (q:Req) (n:Int) (h0:0≤n) (h1:n<18446744073709551616) :
 Does prog 250 #[.int .u64 n,.pointer (some ⟨xb,0,none⟩)] [pt xb 146 #[.pointer (some ⟨qb,0,none⟩)],qcd qb sb q] fun e h' =>
  e=.returned (.tuple #[.int .u64 (Qs n 1 (decide (0<q.p))).1,.bool ((Qs n 1 (decide (0<q.p))).2 == 0)])∧h'=[pt xb 146 #[.pointer (some ⟨qb,0,none⟩)],qcd qb sb q]:=by
 intro w hw;have T0:=Qe.refl hw;have x0:=T0.cell 0 rfl 0;have q0:=T0.cell 1 (show _=some (pt qb _ _) from rfl) 1;simp [qdl] at x0 q0
 have HT:=Vh T0;clear hw T0;go_enter func250,ntmps250
 go_wp2_with (
  go_at_call 225
  refine (Js _ _ _ _ h0 h1).mono ?_
  rintro e w1 ⟨rfl,rfl⟩)
 all_goals go_ret2
 all_goals exact ⟨_,⟨by simp_all,rfl⟩,HT.out⟩
theorem qhe (qb sb rb:Nat) (s:Qg) (q:Req) (k:Nat) (r:Rec) (hk:q.slot=k) (hr:s.recs[k]?=some r) (ho:Zy r) (hn:s.recs.length≤64) :
 Does prog 216 #[.pointer (some ⟨qb,0,none⟩)] (qcd qb sb q::Zo sb rb s) fun e h'=>e=.returned (.tuple #[])∧h'=qcd qb sb (Jd s q).2::Zo sb rb (Jd s q).1:=by
 intro w hw;obtain ⟨o,⟨C,rfl,hs,h0,hc⟩,T0⟩:=(Qe.refl hw).openAt 1 rfl;obtain ⟨o,⟨D,rfl,hd,hD⟩,T0⟩:=T0.openAt 2 rfl;have q0:=T0.cell 0 (show _=some (pt qb _ _) from rfl);have s0:w.cell? ⟨sb,0,none⟩=_:=(T0.cell 1 (show _=some (pt sb _ _) from rfl) 0).trans h0;have hqs:qb≠sb:=T0.ne 0 1 rfl rfl (by decide);have hqr:qb≠rb:=T0.ne 0 2 rfl rfl (by decide);have hkl:=(List.getElem?_eq_some_iff.1 hr).1;simp only [qdl] at q0;have HT:=Vh T0;have HC:=Vh (And.intro hs (And.intro h0 hc));have HD:=Vh (And.intro hd hD);have HR:=Vh hr;have HO:=Vh ho;have hlq:=T0.lt 0 (show _=some (pt qb _ _) from rfl);have hls:=T0.lt 1 (show _=some (pt sb _ _) from rfl);simp only [] at hlq hls;clear hw hs h0 hc T0 hd hD hr ho;obtain ⟨v,hv⟩:∃ v,Qs r.w 1 (decide (0<q.p))=v:=⟨_,rfl⟩;obtain ⟨n1,e1⟩:=v;have HV:=Vh hv;clear hv;rw [hk] at q0
 have hperm:∀ (b x:Piece) (D':Array Value),[b,x,(sb,fun o=>o=Obj.cells C 163 (0,0)),pt rb 176 D'].Perm ((pt rb 176 D'::[b,x])++[(sb,fun o=>o=Obj.cells C 163 (0,0))]) :=
  fun b x D'=>(ql0 3 rfl rfl)
 obtain ⟨hg0,hg1⟩:0≤r.g∧r.g≤4294967295:=⟨HO.out.g0,Int.le_trans HO.out.g1 (qap _ HO.out.w0 HO.out.ok).2.2.2⟩;by_cases he:e1=0
 ·subst he
  have HK:=Vh (show Jd s q=({ s with recs:=s.recs.set k ⟨n1,r.g+1,q.p⟩ },{ q with id:=(r.g+1)*64+q.slot,st:=2 }) from by
   unfold Jd;simp only [hk,Int.toNat_natCast,List.getD_eq_getElem?_getD,HR.out,Option.getD_some,HV.out];rfl)
  go_enter func216,ntmps216
  go_wp2
  go_region
  go_wp2_with (
   go_at_call 249
   refine ((qa2 rb (k*6) 176 D r.w n1 true 250 #[.pointer (some ⟨w.heap.size,0,none⟩)] [pt w.heap.size 146 #[.pointer (some ⟨qb,0,none⟩)],qcd qb sb q]
    (HD.out.2 k r HR.out).1 (enters_of func250 (by kernel_rfl) rfl)
    ((qa6 w.heap.size qb sb q r.w HO.out.w0 HO.out.w1).mono (fun e h' hh=>by rw [HV.out] at hh;exact hh))).use (HT.out.alloc rfl _ _).drew (hperm _ _ _)).mono ?_
   rintro e w1 ⟨h',⟨rfl,D1,rfl,hr1⟩,T1⟩;have q1:=T1.cell 2 (show _=some (pt qb _ _) from rfl);have x1:=T1.cell 1 (show _=some (pt w.heap.size _ _) from rfl);have s1:w1.cell? ⟨sb,0,none⟩=_:=(T1.cell 3 (show _=some (pt sb _ _) from rfl) 0).trans HC.out.2.1;have g1:=(T1.cell 0 (show _=some (pt rb _ _) from rfl) (k*6+4)).trans ((hr1.other (k*6+4) (by omega)).trans (HD.out.2 k r HR.out).2.1);have p1:=(T1.cell 0 (show _=some (pt rb _ _) from rfl) (k*6+5)).trans ((hr1.other (k*6+5) (by omega)).trans (HD.out.2 k r HR.out).2.2);have f1:=T1.free 0 (show _=some (pt rb _ _) from rfl);have f2:=T1.free 2 (show _=some (pt qb _ _) from rfl);simp only [qdl,hk] at q1;have HR1:=Vh hr1;have HT1:=Vh T1
   clear hr1 T1)
  go_region
  go_wp2
  refine bodyPost_end (results_none rfl _ _ _) rfl ⟨_,⟨rfl,?_⟩,Qe.drop1 (((((((HT1.out.setAt 0 rfl (k*6+4) _).setAt 0 rfl (k*6+5) _).setAt 2 rfl 5 _).setAt 2 rfl 6 _).drew.sayAt 0 rfl
   (Y8 (s.recs.set k ⟨n1,r.g+1,q.p⟩)) ?_).sayAt 3 rfl (qp rb (s.recs.set k ⟨n1,r.g+1,q.p⟩).length s.count) ?_).perm (List.perm_append_comm (l₁:=[_]) (l₂:=[_,_,_])))⟩
  ·rw [HK.out,← hk];rfl
  ·intro o ho;cases ho
   exact ⟨_,rfl,qfm HD.out.1 HD.out.2 HR.out HR1.out⟩
  ·intro o ho;cases ho;rw [List.length_set];exact ⟨C,rfl,HC.out⟩
 ·have HK:=Vh (show Jd s q=(s,{ q with slot:=(q.slot+1) % s.recs.length }) from by
   unfold Jd;simp only [hk,Int.toNat_natCast,List.getD_eq_getElem?_getD,HR.out,Option.getD_some,HV.out];exact if_neg he)
  go_enter func216,ntmps216
  go_wp2
  go_region
  go_wp2_with (
   go_at_call 249
   refine ((qa2 rb (k*6) 176 D r.w n1 false 250 #[.pointer (some ⟨w.heap.size,0,none⟩)] [pt w.heap.size 146 #[.pointer (some ⟨qb,0,none⟩)],qcd qb sb q]
    (HD.out.2 k r HR.out).1 (enters_of func250 (by kernel_rfl) rfl)
    ((qa6 w.heap.size qb sb q r.w HO.out.w0 HO.out.w1).mono (fun e h' hh=>by rw [HV.out,show ((e1 == 0)=false) from by simpa using he] at hh;exact hh))).use (HT.out.alloc rfl _ _).drew (hperm _ _ _)).mono ?_
   rintro e w1 ⟨h',⟨rfl,D1,rfl,hr1⟩,T1⟩;have q1:=T1.cell 2 (show _=some (pt qb _ _) from rfl);have x1:=T1.cell 1 (show _=some (pt w.heap.size _ _) from rfl);have s1:w1.cell? ⟨sb,0,none⟩=_:=(T1.cell 3 (show _=some (pt sb _ _) from rfl) 0).trans HC.out.2.1;have g1:=(T1.cell 0 (show _=some (pt rb _ _) from rfl) (k*6+4)).trans ((hr1.other (k*6+4) (by omega)).trans (HD.out.2 k r HR.out).2.1);have p1:=(T1.cell 0 (show _=some (pt rb _ _) from rfl) (k*6+5)).trans ((hr1.other (k*6+5) (by omega)).trans (HD.out.2 k r HR.out).2.2);have f1:=T1.free 0 (show _=some (pt rb _ _) from rfl);have f2:=T1.free 2 (show _=some (pt qb _ _) from rfl);simp only [qdl,hk] at q1;have HR1:=Vh hr1;have HT1:=Vh T1
   clear hr1 T1)
  go_region
  go_wp2
  refine bodyPost_ret (results_none rfl _ _ _) rfl ⟨_,⟨rfl,?_⟩,Qe.drop1 (((((HT1.out.setAt 2 rfl 4 _).drew.sayAt 0 rfl
   (Y8 s.recs) ?_).sayAt 3 rfl (qp rb s.recs.length s.count) ?_).perm (List.perm_append_comm (l₁:=[_]) (l₂:=[_,_,_]))))⟩
  ·rw [HK.out,hk];rfl
  ·intro o ho;cases ho
   exact ⟨_,rfl,q7 HD.out.1 HD.out.2 HR.out HR1.out⟩
  ·intro o ho;cases ho;exact ⟨C,rfl,HC.out⟩
def atV (rb n:Nat) (k:Int):Value:=if 0≤k∧k<n then .pointer (some ⟨rb,k.toNat*6,none⟩) else .pointer none
theorem qeb (rb:Nat) {s:Qg} {j:Nat} (h:s.has j):atV rb s.recs.length j=.pointer (some ⟨rb,j*6,none⟩):=(if_pos h).trans (by simp)
theorem qgt (rb:Nat) {s:Qg} {k:Int} (h:¬ s.has k):atV rb s.recs.length k=.pointer none:=if_neg h
theorem Xr (sb rb n:Nat) (c:Int) (k:Int) (hn:n≤64) :
 Does prog 99 #[.pointer (some ⟨sb,0,none⟩),.int .i64 k] [(sb,qp rb n c)] fun e h'=>e=.returned (atV rb n k)∧h'=[(sb,qp rb n c)]:=by
 intro w hw;obtain ⟨o,⟨C,rfl,hs,h0,hc⟩,T0⟩:=(Qe.refl hw).openAt 0 rfl;have s0:w.cell? ⟨sb,0,none⟩=_:=(T0.cell 0 (show _=some (pt sb _ _) from rfl) 0).trans h0;have HT:=Vh (T0.sayAt 0 rfl (qp rb n c) (fun o ho=>by cases ho;exact ⟨C,rfl,hs,h0,hc⟩));clear hw hs h0 hc T0;by_cases h1:0≤k
 ·obtain ⟨j,rfl⟩:=Int.eq_ofNat_of_zero_le h1
  by_cases h2:j<n
  ·have HV:=Vh (show atV rb n (j:Int)=.pointer (some ⟨rb,j*6,none⟩) from by unfold atV;rw [if_pos ⟨h1,by omega⟩];simp)
   go_enter func99,ntmps99
   go_wp2
   all_goals go_ret
   all_goals exact ⟨_,⟨by rw [HV.out];rfl,rfl⟩,HT.out⟩
  ·have HV:=Vh (show atV rb n (j:Int)=.pointer none from by unfold atV;rw [if_neg (by omega)])
   go_enter func99,ntmps99
   go_wp2
   all_goals go_ret
   all_goals exact ⟨_,⟨by rw [HV.out];rfl,rfl⟩,HT.out⟩
 ·have HV:=Vh (show atV rb n k=.pointer none from by unfold atV;rw [if_neg (by omega)])
  go_enter func99,ntmps99
  go_wp2
  all_goals go_ret
  all_goals exact ⟨_,⟨by rw [HV.out];rfl,rfl⟩,HT.out⟩
theorem qfx (qb sb:Nat) (q:Req) :
 Does prog 183 #[.pointer (some ⟨qb,0,none⟩)] [qcd qb sb q] fun e h' =>
  e=.returned (.tuple #[.int .u64 (if q.st=2 then q.id else 0),.int .i64 (if q.st=2 then 0 else 7)])∧h'=[qcd qb sb q]:=by
 intro w hw;have T0:=Qe.refl hw;have q0:=T0.cell 0 (show _=some (pt qb _ _) from rfl);simp only [qdl] at q0;have HT:=Vh T0;clear hw T0;by_cases h2:q.st=2
 all_goals
  go_enter func183,ntmps183
  go_wp2
  all_goals go_ret2
  all_goals exact ⟨_,⟨by simp [h2],rfl⟩,HT.out⟩
theorem qai (sb:Nat) (p:Int) :
 Does prog 141 #[.pointer (some ⟨sb,0,none⟩),.int .u64 p] [] fun e h' =>
  ∃ qb,e=.returned (.pointer (some ⟨qb,0,none⟩))∧h'=[qcd qb sb ⟨p,0,0,0,0,0⟩]:=by
 intro w hw;have HT:=Vh (Qe.refl hw);clear hw;go_enter func141,ntmps141
 go_wp2
 go_ret
 exact ⟨_,⟨_,rfl,rfl⟩,HT.out.alloc rfl _ _⟩
theorem Zm (sb rb:Nat) (s:Qg) (k:Int) (hn:s.recs.length≤64) :
 Does prog 38 #[.pointer (some ⟨sb,0,none⟩),.int .i64 k] (Zo sb rb s) fun e h' =>
  e=.returned (.tuple #[.int .u64 (s.word k),.int .i64 (s.werr k)])∧h'=Zo sb rb s:=by
 intro w hw;have HT:=Vh (Qe.refl hw);clear hw;by_cases h:s.has k
 ·obtain ⟨j,rfl⟩:=Qg.has_nat h
  obtain ⟨r,hr,hrd⟩:=Qg.has_at h;have HV:=Vh (qeb rb h);have HP:=Vh (show s.word j=r.w∧s.werr j=0 from ⟨by unfold Qg.word;rw [if_pos h,hrd],if_pos h⟩);clear hrd h;have HR:=Vh hr;clear hr;go_enter func38,ntmps38
  go_wp2_with (first
   | (go_at_call 99
      refine ((Xr sb rb s.recs.length s.count j hn).at HT.out 0 rfl).mono ?_
      rintro e w1 ⟨h',⟨he,rfl⟩,Ta⟩;rw [HV.out] at he;subst he;obtain ⟨o,⟨D,rfl,hd,hD⟩,T1⟩:=(Ta _ rfl).openAt 1 rfl;have HD:=Vh (And.intro hd hD);have HT1:=Vh T1
      clear T1 hd hD Ta)
   | (go_at_call 100
      refine ((Y9 rb (j*6) _ D r.w (HD.out.2 j r HR.out).1).at HT1.out 1 rfl).mono ?_
      rintro e w2 ⟨h',⟨rfl,C1,rfl,hr1⟩,Ta⟩;have HR1:=Vh hr1;have HT2:=Vh ((Ta _ rfl).sayAt 1 rfl (Y8 s.recs) (fun o ho=>by cases ho;exact ⟨C1,rfl,q7 HD.out.1 HD.out.2 HR.out HR1.out⟩))
      clear Ta hr1))
  go_ret2
  exact ⟨_,⟨by rw [HP.out.1,HP.out.2];rfl,rfl⟩,HT2.out⟩
 ·have HV:=Vh (qgt rb h)
  have HP:=Vh (show s.word k=0∧s.werr k=4 from ⟨if_neg h,if_neg h⟩);clear h;go_enter func38,ntmps38
  go_wp2_with (
   go_at_call 99
   refine ((Xr sb rb s.recs.length s.count k hn).at HT.out 0 rfl).mono ?_
   rintro e w1 ⟨h',⟨he,rfl⟩,Ta⟩;rw [HV.out] at he;subst he;have HT1:=Vh (Ta _ rfl)
   clear Ta)
  go_ret2
  exact ⟨_,⟨by rw [HP.out.1,HP.out.2];rfl,rfl⟩,HT1.out⟩
theorem Qg.known_at {s:Qg} {id:Int} (h0:0≤id) (h:s.known id):∃ (j:Nat) (r:Rec),id % 64=j∧s.recs[j]?=some r∧1≤id / 64∧id / 64≤r.g∧s.has j∧s.recs.getD (id % 64).toNat Rec.zero=r:=by
 have h1:0≤id % 64:=by omega
 have hh:s.has (id % 64):=⟨h1,h.1⟩;obtain ⟨j,hj⟩:=Qg.has_nat hh;rw [hj] at hh;obtain ⟨r,hr,hg⟩:=Qg.has_at hh;rw [← hj] at hg;have h3:=h.2.2;rw [hg] at h3;exact ⟨j,r,hj,hr,h.2.1,h3,hh,hg⟩
theorem Z8 (sb rb:Nat) (s:Qg) (id:Int) (hn:s.recs.length≤64) (h0:0≤id) (h1:id<18446744073709551616) :
 Does prog 223 #[.pointer (some ⟨sb,0,none⟩),.int .u64 id] (Zo sb rb s) fun e h' =>
  e=.returned (.tuple #[.int .i64 (s.slot id),.int .i64 (s.serr id)])∧h'=Zo sb rb s:=by
 intro w hw;have HT:=Vh (Qe.refl hw);clear hw;have hm0:0≤id % 64:=by omega
 obtain ⟨j,hj⟩:=Int.eq_ofNat_of_zero_le hm0;by_cases hh:s.has (j:Int)
 ·obtain ⟨r,hr,hg⟩:=Qg.has_at hh
  have HV:=Vh (qeb rb hh);have HR:=Vh hr
  have hkn:s.known id↔1≤id / 64∧id / 64≤r.g:=by
   unfold Qg.known;rw [hj,hg];exact ⟨fun x=>x.2,fun x=>⟨hh.2,x⟩⟩
  by_cases hk:1≤id / 64∧id / 64≤r.g
  ·have HP:=Vh (show s.slot id=j∧s.serr id=0 from ⟨(if_pos (hkn.2 hk)).trans hj,if_pos (hkn.2 hk)⟩)
   obtain ⟨k1,k2⟩:=hk;clear hh hr hg hkn;go_enter func223,ntmps223
   go_wp2_with (
    go_at_call 99
    refine ((Xr sb rb s.recs.length s.count _ hn).at HT.out 0 rfl).mono ?_
    rintro e w1 ⟨h',⟨he,rfl⟩,Ta⟩;rw [HV.out] at he;subst he;obtain ⟨o,⟨D,rfl,hd,hD⟩,T1⟩:=(Ta _ rfl).openAt 1 rfl;have d1:w1.cell? ⟨rb,j*6+4,none⟩=_:=(T1.cell 1 (show _=some (pt rb _ _) from rfl) _).trans (hD j r HR.out).2.1;have HT1:=Vh (T1.sayAt 1 rfl (Y8 s.recs) (fun o ho=>by cases ho;exact ⟨D,rfl,hd,hD⟩))
    clear T1 hd hD Ta)
   all_goals go_ret2
   all_goals exact ⟨_,⟨by rw [HP.out.1,HP.out.2,← hj];rfl,rfl⟩,HT1.out⟩
  ·have HP:=Vh (show s.slot id=0∧s.serr id=1 from ⟨if_neg (fun x=>hk (hkn.1 x)),if_neg (fun x=>hk (hkn.1 x))⟩)
   clear hh hr hg hkn;by_cases k1:1≤id / 64
   ·have k2:¬ id / 64≤r.g:=fun x=>hk ⟨k1,x⟩
    clear hk;go_enter func223,ntmps223
    go_wp2_with (
     go_at_call 99
     refine ((Xr sb rb s.recs.length s.count _ hn).at HT.out 0 rfl).mono ?_
     rintro e w1 ⟨h',⟨he,rfl⟩,Ta⟩;rw [HV.out] at he;subst he;obtain ⟨o,⟨D,rfl,hd,hD⟩,T1⟩:=(Ta _ rfl).openAt 1 rfl;have d1:w1.cell? ⟨rb,j*6+4,none⟩=_:=(T1.cell 1 (show _=some (pt rb _ _) from rfl) _).trans (hD j r HR.out).2.1;have HT1:=Vh (T1.sayAt 1 rfl (Y8 s.recs) (fun o ho=>by cases ho;exact ⟨D,rfl,hd,hD⟩))
     clear T1 hd hD Ta)
    all_goals go_ret2
    all_goals exact ⟨_,⟨by rw [HP.out.1,HP.out.2];rfl,rfl⟩,HT1.out⟩
   ·clear hk
    go_enter func223,ntmps223
    go_wp2_with (
     go_at_call 99
     refine ((Xr sb rb s.recs.length s.count _ hn).at HT.out 0 rfl).mono ?_
     rintro e w1 ⟨h',⟨he,rfl⟩,Ta⟩;rw [HV.out] at he;subst he;obtain ⟨o,⟨D,rfl,hd,hD⟩,T1⟩:=(Ta _ rfl).openAt 1 rfl;have d1:w1.cell? ⟨rb,j*6+4,none⟩=_:=(T1.cell 1 (show _=some (pt rb _ _) from rfl) _).trans (hD j r HR.out).2.1;have HT1:=Vh (T1.sayAt 1 rfl (Y8 s.recs) (fun o ho=>by cases ho;exact ⟨D,rfl,hd,hD⟩))
     clear T1 hd hD Ta)
    all_goals go_ret2
    all_goals exact ⟨_,⟨by rw [HP.out.1,HP.out.2];rfl,rfl⟩,HT1.out⟩
 ·have HV:=Vh (qgt rb hh)
  have HP:=Vh (show s.slot id=0∧s.serr id=1 from ⟨if_neg (fun x=>hh (by rw [← hj];exact ⟨hm0,x.1⟩)),if_neg (fun x=>hh (by rw [← hj];exact ⟨hm0,x.1⟩))⟩);clear hh;go_enter func223,ntmps223
  go_wp2_with (
   go_at_call 99
   refine ((Xr sb rb s.recs.length s.count _ hn).at HT.out 0 rfl).mono ?_
   rintro e w1 ⟨h',⟨he,rfl⟩,Ta⟩;rw [HV.out] at he;subst he;have HT1:=Vh (Ta _ rfl)
   clear Ta)
  all_goals go_ret2
  all_goals exact ⟨_,⟨by rw [HP.out.1,HP.out.2];rfl,rfl⟩,HT1.out⟩
theorem qbu (sb rb:Nat) (s:Qg) (id:Int) (hn:s.recs.length≤64) (h0:0≤id) (h1:id<18446744073709551616) :
 Does prog 224 #[.pointer (some ⟨sb,0,none⟩),.int .u64 id] (Zo sb rb s) fun e h' =>
  e=.returned (.bool (s.mine id))∧h'=Zo sb rb s:=by
 intro w hw;have HT:=Vh (Qe.refl hw);clear hw;by_cases hk:s.known id
 ·obtain ⟨j,r,hj,hr,k1,k2,hh,hg⟩:=Qg.known_at h0 hk
  have HP:=Vh (show s.slot id=j∧s.serr id=0∧s.mine id=decide (r.g=id / 64) from ⟨(if_pos hk).trans hj,if_pos hk,by unfold Qg.mine;rw [hg,decide_eq_true hk];rfl⟩);have HR:=Vh hr;have hjl:j<s.recs.length:=by have:=hh.2;omega
  clear hk hj hr hh hg;go_enter func224,ntmps224
  go_wp2_with (
   go_at_call 223
   refine ((Z8 sb rb s id hn h0 h1).use HT.out (List.Perm.refl _)).mono ?_
   rw [HP.out.1,HP.out.2.1];rintro e w1 ⟨h',⟨rfl,rfl⟩,Ta⟩;obtain ⟨o,⟨C,rfl,hs,hc0,hc⟩,T1⟩:=Ta.openAt 0 rfl;have s1:w1.cell? ⟨sb,0,none⟩=_:=(T1.cell 0 (show _=some (pt sb _ _) from rfl) 0).trans hc0;have T1:=T1.sayAt 0 rfl (qp rb s.recs.length s.count) (fun o ho=>by cases ho;exact ⟨C,rfl,hs,hc0,hc⟩);obtain ⟨o,⟨D,rfl,hd,hD⟩,T1⟩:=T1.openAt 1 rfl;have d1:w1.cell? ⟨rb,j*6+4,none⟩=_:=(T1.cell 1 (show _=some (pt rb _ _) from rfl) _).trans (hD j r HR.out).2.1;have HT1:=Vh (T1.sayAt 1 rfl (Y8 s.recs) (fun o ho=>by cases ho;exact ⟨D,rfl,hd,hD⟩))
   clear T1 hd hD Ta hs hc0 hc)
  go_ret
  exact ⟨_,⟨by rw [HP.out.2.2];rfl,rfl⟩,HT1.out⟩
 ·have HP:=Vh (show s.slot id=0∧s.serr id=1∧s.mine id=false from ⟨if_neg hk,if_neg hk,by unfold Qg.mine;rw [decide_eq_false hk];rfl⟩)
  clear hk;go_enter func224,ntmps224
  go_wp2_with (
   go_at_call 223
   refine ((Z8 sb rb s id hn h0 h1).use HT.out (List.Perm.refl _)).mono ?_
   rw [HP.out.1,HP.out.2.1];rintro e w1 ⟨h',⟨rfl,rfl⟩,Ta⟩;have HT1:=Vh Ta
   clear Ta)
  go_ret
  exact ⟨_,⟨by rw [HP.out.2.2];rfl,rfl⟩,HT1.out⟩
theorem qao (n:Int) (h0:0≤n) (h1:n≤64) :
 Does prog 270 #[.int .i64 n] [] fun e h'=>e=.returned (.tuple #[.int .i64 (n - 1),.bool (decide (0<n))])∧h'=[]:=by
 intro w hw;have HT:=Vh (Qe.refl hw);clear hw;go_enter func270,ntmps270
 go_wp2
 all_goals go_ret2
 all_goals exact ⟨_,⟨rfl,rfl⟩,HT.out⟩
theorem qbm (sb rb:Nat) (s:Qg) (h0:0≤s.count) (h1:s.count≤64) :
 Does prog 254 #[.pointer (some ⟨sb,0,none⟩)] (Zo sb rb s) fun e h'=>e=.returned (.int .i64 s.drop.2)∧h'=Zo sb rb s.drop.1:=by
 intro w hw;obtain ⟨o,⟨C,rfl,hs,hc0,hc⟩,T0⟩:=(Qe.refl hw).openAt 0 rfl;have HT:=Vh T0;have HC:=Vh (And.intro hs (And.intro hc0 hc));have HD:=Vh (qao s.count h0 h1);clear hw hs hc0 hc T0;by_cases hk:0<s.count
 all_goals
  go_enter func254,ntmps254
  go_wp2_with (
   go_at_call 210
   refine ((qau sb 1 163 C s.count (s.count - 1) (decide (0<s.count)) 270 #[] [] HC.out.2.2 (enters_of func270 (by kernel_rfl) rfl) HD.out).at HT.out 0 rfl).mono ?_
   rintro e w1 ⟨h',⟨rfl,C1,rfl,hr1⟩,Ta⟩;simp only [hk] at hr1 ⊢;have HR1:=Vh hr1;have HT1:=Vh (Ta _ rfl)
   clear Ta hr1)
  all_goals go_ret
 ·have HP:=show s.drop=_ from if_pos hk
  exact ⟨_,⟨by rw [HP];rfl,by rw [HP];rfl⟩,HT1.out.sayAt 0 rfl (qp rb s.recs.length (s.count - 1)) (fun o ho=>by cases ho;exact Xt HC.out.1 HC.out.2.1 (by simpa using HR1.out))⟩
 ·have HP:=show s.drop=_ from if_neg (by omega)
  exact ⟨_,⟨by rw [HP];rfl,by rw [HP];rfl⟩,HT1.out.sayAt 0 rfl (qp rb s.recs.length s.count) (fun o ho=>by cases ho;exact Xt HC.out.1 HC.out.2.1 (by simpa using HR1.out))⟩
theorem qel {s:Qg} {C C':Array Value} {j:Nat} {r:Rec} {old n:Int} (hs:C.size=s.recs.length*6) (h:∀ i r,s.recs[i]?=some r→recAt C i r) (hr:s.recs[j]?=some r)
 (hc:Q5 C (j*6) (.int .u64 (if r.w=old then n else r.w)) C'):Y8 (if r.w=old then s.recs.set j { r with w:=n } else s.recs) (.cells C' 176 (0,0)):=by
 by_cases e:r.w=old
 ·rw [if_pos e] at hc ⊢;exact ⟨C',rfl,Yf hs h hr hc⟩
 ·rw [if_neg e] at hc ⊢;exact ⟨C',rfl,q7 hs h hr hc⟩
theorem qcx (sb rb:Nat) (s:Qg) (k old ev:Int) (hn:s.recs.length≤64) (h0:0≤old) (h1:old<18446744073709551616) :
 Does prog 228 #[.pointer (some ⟨sb,0,none⟩),.int .i64 k,.int .u64 old,.int .i64 ev] (Zo sb rb s) fun e h' =>
  e=.returned (.tuple #[.int .u64 (s.try k old ev).2.1,.int .i64 (s.try k old ev).2.2])∧h'=Zo sb rb (s.try k old ev).1:=by
 intro w hw;have HT:=Vh (Qe.refl hw);clear hw;by_cases hh:s.has k
 ·obtain ⟨j,rfl⟩:=Qg.has_nat hh
  obtain ⟨r,hr,hg⟩:=Qg.has_at hh;have HV:=Vh (qeb rb hh);have HR:=Vh hr;have HW:=Vh (show s.word j=r.w∧s.werr j=0 from ⟨by unfold Qg.word;rw [if_pos hh,hg],if_pos hh⟩);obtain ⟨t,ht⟩:∃ t,Qs old ev (decide (0<r.p))=t:=⟨_,rfl⟩;obtain ⟨n1,e1⟩:=t;have HN:=Vh ht
  have HP:=Vh (show s.try j old ev=if e1≠0 then (s,r.w,e1) else if r.w=old then ({ s with recs:=s.recs.set j { r with w:=n1 } },n1,0) else (s,r.w,10) from by
   unfold Qg.try;rw [if_pos hh];dsimp only;rw [hg,ht];rfl)
  clear hh hr hg ht;by_cases he:e1=0
  ·subst he
   by_cases ho:r.w=old
   all_goals
    go_enter func228,ntmps228
    go_wp2_with (first
     | (go_at_call 38
        refine ((Zm sb rb s j hn).use HT.out (List.Perm.refl _)).mono ?_
        rw [HW.out.1,HW.out.2];rintro e w1 ⟨h',⟨rfl,rfl⟩,Ta⟩;have HT1:=Vh Ta
        clear Ta)
     | (go_at_call 99
        refine ((Xr sb rb s.recs.length s.count j hn).at HT1.out 0 rfl).mono ?_
        rintro e w2 ⟨h',⟨he,rfl⟩,Ta⟩;rw [HV.out] at he;subst he;obtain ⟨o,⟨D,rfl,hd,hD⟩,T1⟩:=(Ta _ rfl).openAt 1 rfl;have d1:w2.cell? ⟨rb,j*6+5,none⟩=_:=(T1.cell 1 (show _=some (pt rb _ _) from rfl) _).trans (hD j r HR.out).2.2;have HD:=Vh (And.intro hd hD);have HT2:=Vh T1
        clear T1 hd hD Ta)
     | (go_at_call 225;refine (Js _ _ _ _ h0 h1).mono ?_;rw [HN.out];rintro e w3 ⟨rfl,rfl⟩)
     | (go_at_call 260
        refine ((Y7 rb (j*6) _ D r.w old n1 (HD.out.2 j r HR.out).1).at HT2.out 1 rfl).mono ?_
        rintro e w4 ⟨h',⟨rfl,C1,rfl,hr1⟩,Ta⟩;have HR1:=Vh (qel HD.out.1 HD.out.2 HR.out hr1);have HT3:=Vh (Ta _ rfl)
        clear Ta hr1))
    go_ret2
   ·rw [if_pos ho] at HR1
    exact ⟨_,⟨by rw [HP.out,if_neg (by simp),if_pos ho];rfl,by rw [HP.out,if_neg (by simp),if_pos ho];rfl⟩,(HT3.out.sayAt 1 rfl (Y8 (s.recs.set j { r with w:=n1 })) (fun o hx=>by cases hx;exact HR1.out)).sayAt 0 rfl
     (qp rb (s.recs.set j { r with w:=n1 }).length s.count) (fun o hx=>by rw [List.length_set];exact hx)⟩
   ·rw [if_neg ho] at HR1
    exact ⟨_,⟨by rw [HP.out,if_neg (by simp),if_neg ho];rfl,by rw [HP.out,if_neg (by simp),if_neg ho];rfl⟩,HT3.out.sayAt 1 rfl (Y8 s.recs) (fun o hx=>by cases hx;exact HR1.out)⟩
  ·skip
   go_enter func228,ntmps228
   go_wp2_with (first
    | (go_at_call 38
       refine ((Zm sb rb s j hn).use HT.out (List.Perm.refl _)).mono ?_
       rw [HW.out.1,HW.out.2];rintro e w1 ⟨h',⟨rfl,rfl⟩,Ta⟩;have HT1:=Vh Ta
       clear Ta)
    | (go_at_call 99
       refine ((Xr sb rb s.recs.length s.count j hn).at HT1.out 0 rfl).mono ?_
       rintro e w2 ⟨h',⟨he,rfl⟩,Ta⟩;rw [HV.out] at he;subst he;obtain ⟨o,⟨D,rfl,hd,hD⟩,T1⟩:=(Ta _ rfl).openAt 1 rfl;have d1:w2.cell? ⟨rb,j*6+5,none⟩=_:=(T1.cell 1 (show _=some (pt rb _ _) from rfl) _).trans (hD j r HR.out).2.2;have HD:=Vh (And.intro hd hD);have HT2:=Vh T1
       clear T1 hd hD Ta)
    | (go_at_call 225;refine (Js _ _ _ _ h0 h1).mono ?_;rw [HN.out];rintro e w3 ⟨rfl,rfl⟩)
    | (go_at_call 260
       refine ((Y7 rb (j*6) _ D r.w old n1 (HD.out.2 j r HR.out).1).at HT2.out 1 rfl).mono ?_
       rintro e w4 ⟨h',⟨rfl,C1,rfl,hr1⟩,Ta⟩;have HR1:=Vh (qel HD.out.1 HD.out.2 HR.out hr1);have HT3:=Vh (Ta _ rfl)
       clear Ta hr1))
   go_ret2
   exact ⟨_,⟨by rw [HP.out,if_pos he];rfl,by rw [HP.out,if_pos he];rfl⟩,HT2.out.sayAt 1 rfl (Y8 s.recs) (fun o hx=>by cases hx;exact ⟨D,rfl,HD.out⟩)⟩
 ·have HW:=Vh (show s.word k=0∧s.werr k=4 from ⟨if_neg hh,if_neg hh⟩)
  have HP:=Vh (show s.try k old ev=(s,0,4) from if_neg hh);clear hh;go_enter func228,ntmps228
  go_wp2_with (
   go_at_call 38
   refine ((Zm sb rb s k hn).use HT.out (List.Perm.refl _)).mono ?_
   rw [HW.out.1,HW.out.2];rintro e w1 ⟨h',⟨rfl,rfl⟩,Ta⟩;have HT1:=Vh Ta
   clear Ta)
  go_ret2
  exact ⟨_,⟨by rw [HP.out];rfl,by rw [HP.out];rfl⟩,HT1.out⟩
theorem qcr (qb sb rb:Nat) (s:Qg) (q:Req) (hs:Xm s) (hq:qbi s.recs.length q) :
 Does prog 182 #[.pointer (some ⟨qb,0,none⟩)] (qcd qb sb q::Zo sb rb s) fun e h'=>e=.returned (.int .i64 (Q3 s q).2.st)∧h'=qcd qb sb (Q3 s q).2::Zo sb rb (Q3 s q).1:=by
 intro w hw;have T0:=Qe.refl hw;have q0:=T0.cell 0 (show _=some (pt qb _ _) from rfl);simp only [qdl] at q0;have hlq:=T0.lt 0 (show _=some (pt qb _ _) from rfl);simp only [] at hlq;have HT:=Vh T0;clear hw T0;have hn1:=hs.n1;by_cases hst:q.st=0
 ·rcases hq.next with hn | ⟨hn,b0,b1⟩ | hn
  ·have HK:=Vh (show Q3 s q=(s,Yu s q) from by unfold Q3;rw [if_neg (by simp [hst]),if_pos hn])
   rw [hn,hst] at q0;go_enter func182,ntmps182
   go_wp2_with (
    go_at_call 214
    refine ((qhx qb sb rb s q).use (HT.out.alloc0 _) (List.Perm.refl _)).mono ?_
    rintro e w1 ⟨h',⟨rfl,rfl⟩,Ta⟩;have q1:=Ta.cell 0 (show _=some (pt qb _ _) from rfl) 6;simp [qdl] at q1
    have HT1:=Vh Ta
    clear Ta)
   go_ret
   exact ⟨_,⟨by rw [HK.out];rfl,by rw [HK.out];rfl⟩,HT1.out⟩
  ·have b2:q.saw<64:=by omega
   have HK:=Vh (show Q3 s q=Jn s q from by unfold Q3;rw [if_neg (by simp [hst]),if_neg (by omega),if_pos hn]);rw [hn,hst] at q0;go_enter func182,ntmps182
   go_wp2_with (
    go_at_call 215
    refine ((qg5 qb sb rb s q b0 b2).use (HT.out.alloc0 _) (List.Perm.refl _)).mono ?_
    rintro e w1 ⟨h',⟨rfl,rfl⟩,Ta⟩;have q1:=Ta.cell 0 (show _=some (pt qb _ _) from rfl) 6;simp [qdl] at q1
    have HT1:=Vh Ta
    clear Ta)
   go_ret
   exact ⟨_,⟨by rw [HK.out];rfl,by rw [HK.out];rfl⟩,HT1.out⟩
  ·obtain ⟨k,hk⟩:=Int.eq_ofNat_of_zero_le hq.slot0
   have hkl:k<s.recs.length:=by have:=hq.slot1;omega
   have hr:s.recs[k]?=some (s.recs[k]):=List.getElem?_eq_getElem hkl;have HX:=Vh (qhe qb sb rb s q k _ hk hr (hs.recs _ (List.getElem_mem _)) hn1);have HK:=Vh (show Q3 s q=Jd s q from by unfold Q3;rw [if_neg (by simp [hst]),if_neg (by omega),if_neg (by omega)]);rw [hn,hst] at q0;clear hr;go_enter func182,ntmps182
   go_wp2_with (
    go_at_call 216
    refine (HX.out.use (HT.out.alloc0 _) (List.Perm.refl _)).mono ?_
    rintro e w1 ⟨h',⟨rfl,rfl⟩,Ta⟩;have q1:=Ta.cell 0 (show _=some (pt qb _ _) from rfl) 6;simp [qdl] at q1
    have HT1:=Vh Ta
    clear Ta)
   go_ret
   exact ⟨_,⟨by rw [HK.out];rfl,by rw [HK.out];rfl⟩,HT1.out⟩
 ·have HK:=Vh (show Q3 s q=(s,q) from if_pos hst)
  go_enter func182,ntmps182
  go_wp2
  go_ret
  exact ⟨_,⟨by rw [HK.out];rfl,by rw [HK.out]⟩,HT.out.alloc0 _⟩
def qk9:Array Value:=#[.int .u64 0,.int .i64 0,.int .i64 0,.int .i64 0,.int .u64 0,.int .u64 0]
theorem qiz:(prog.info? 176).map (fun i=>(i.zero,i.size,i.bytes))=some (some (.agg qk9),6,48):=by kernel_rfl
theorem qjk (k:Nat):(madeCells qk9 (k*6)).size=(Xa k).recs.length*6∧∀ i r,(Xa k).recs[i]?=some r→recAt (madeCells qk9 (k*6)) i r:=by
 refine ⟨by simp [size_madeCells,Xa],fun i r hr=>?_⟩
 have hi:i<k:=by have:=(List.getElem?_eq_some_iff.1 hr).1;simpa [Xa] using this
 have hz:qk9.size=6:=rfl;have hr':r=Rec.zero:=by simp [Xa,hi] at hr;exact hr.symm
 subst hr';exact ⟨⟨Z4 _ k 6 i 0 hz hi (by omega),0,0,0,Z4 _ k 6 i 1 hz hi (by omega),Z4 _ k 6 i 2 hz hi (by omega),Z4 _ k 6 i 3 hz hi (by omega)⟩,Z4 _ k 6 i 4 hz hi (by omega),Z4 _ k 6 i 5 hz hi (by omega)⟩
theorem qc9 (n:Int) :
 Does prog 76 #[.int .i64 n] [] fun e h' =>
  if 1≤n∧n≤64 then ∃ sb rb,e=.returned (.tuple #[.pointer (some ⟨sb,0,none⟩),.int .i64 0])∧h'=Zo sb rb (Xa n.toNat) else e=.returned (.tuple #[.pointer none,.int .i64 4])∧h'=[]:=by
 intro w hw;have HT:=Vh (Qe.refl hw);clear hw;by_cases h:1≤n∧n≤64
 ·simp only [if_pos h]
  obtain ⟨h1,h2⟩:=h;obtain ⟨k,rfl⟩:=Int.eq_ofNat_of_zero_le (show 0≤n by omega);have hk1:k≤64:=by omega
  have hmk:∀ w,(Instr.makeSlice 161 (.int .i64 (k:Int)) (.int .i64 (k:Int))).run prog w=.ok (.slice (some ⟨w.heap.size,0,none⟩) k k) (w.alloc (.cells (madeCells qk9 (k*6)) 176)):=qaq (P:=prog) 161 176 (.agg qk9) 6 48 underlying161 qiz k (by omega) (by omega);have hd1:decide ((k:Int)<1)=false:=by simp;omega
  have hd2:decide (64<(k:Int))=false:=by simp;omega
  go_enter func76,ntmps76
  go_wp2
  go_ret2
  exact ⟨_,⟨w.heap.size+1,w.heap.size,rfl,by simp [Xa,Zo]⟩,(((HT.out.alloc rfl _ _).sayAt 0 rfl (Y8 (Xa k).recs) (fun o ho=>by cases ho;exact ⟨_,rfl,qjk k⟩)).alloc rfl _ _).sayAt 0 rfl (qp w.heap.size (Xa k).recs.length 0) (fun o ho=>by
   cases ho;exact ⟨_,rfl,rfl,by simp [Xa],rfl,0,0,0,rfl,rfl,rfl⟩)⟩
 ·simp only [if_neg h]
  by_cases h1:n<1
  ·clear h
   go_enter func76,ntmps76
   go_wp2
   go_ret2
   exact ⟨_,⟨rfl,rfl⟩,HT.out⟩
  ·have h2:64<n:=by omega
   clear h;go_enter func76,ntmps76
   go_wp2
   go_ret2
   exact ⟨_,⟨rfl,rfl⟩,HT.out⟩
abbrev ptr (b:Nat):Value:=.pointer (some ⟨b,0,none⟩)
def Xx (sb:Nat) (s:Qg) (g:List Blk):Prop:=∃ rb,Xg (Zo sb rb s) g
def qm (qb sb:Nat) (q:Req):List Blk:=[cl qb 292 (qdl sb q)]
theorem reqM (qb sb:Nat) (q:Req):Xg [qcd qb sb q] (qm qb sb q):=Xg.of_pt _ _ _
section
variable {sb:Nat} {s:Qg} {g:List Blk}
theorem qej (hg:Xx sb s g):Qa prog 20 #[ptr sb] [g] fun e gs=>e=.returned (.int .i64 s.count)∧∃ g',Xx sb s g'∧gs=[g']:=by
 obtain ⟨rb,m⟩:=hg;exact (Does.G1 (qal sb rb s) m).mono fun e gs ⟨he,x,mx,hx⟩=>⟨he,x,⟨rb,mx⟩,hx⟩
theorem qgk (hg:Xx sb s g) (hn:s.recs.length≤64) (k:Int):Qa prog 38 #[ptr sb,.int .i64 k] [g] fun e gs=>e=.returned (.tuple #[.int .u64 (s.word k),.int .i64 (s.werr k)])∧∃ g',Xx sb s g'∧gs=[g']:=by
 obtain ⟨rb,m⟩:=hg;exact (Does.G1 (Zm sb rb s k hn) m).mono fun e gs ⟨he,x,mx,hx⟩=>⟨he,x,⟨rb,mx⟩,hx⟩
theorem qft (hg:Xx sb s g) (hn:s.recs.length≤64) (id:Int) (h0:0≤id) (h1:id<18446744073709551616):Qa prog 223 #[ptr sb,.int .u64 id] [g] fun e gs=>e=.returned (.tuple #[.int .i64 (s.slot id),.int .i64 (s.serr id)])∧∃ g',Xx sb s g'∧gs=[g']:=by
 obtain ⟨rb,m⟩:=hg;exact (Does.G1 (Z8 sb rb s id hn h0 h1) m).mono fun e gs ⟨he,x,mx,hx⟩=>⟨he,x,⟨rb,mx⟩,hx⟩
theorem qgg (hg:Xx sb s g) (hn:s.recs.length≤64) (id:Int) (h0:0≤id) (h1:id<18446744073709551616):Qa prog 224 #[ptr sb,.int .u64 id] [g] fun e gs=>e=.returned (.bool (s.mine id))∧∃ g',Xx sb s g'∧gs=[g']:=by
 obtain ⟨rb,m⟩:=hg;exact (Does.G1 (qbu sb rb s id hn h0 h1) m).mono fun e gs ⟨he,x,mx,hx⟩=>⟨he,x,⟨rb,mx⟩,hx⟩
theorem qgl (hg:Xx sb s g) (h0:0≤s.count) (h1:s.count≤64):Qa prog 254 #[ptr sb] [g] fun e gs=>e=.returned (.int .i64 s.drop.2)∧∃ g',Xx sb s.drop.1 g'∧gs=[g']:=by
 obtain ⟨rb,m⟩:=hg;exact (Does.G1 (qbm sb rb s h0 h1) m).mono fun e gs ⟨he,x,mx,hx⟩=>⟨he,x,⟨rb,mx⟩,hx⟩
theorem qhg (hg:Xx sb s g) (hn:s.recs.length≤64) (k old ev:Int) (h0:0≤old) (h1:old<18446744073709551616) :
 Qa prog 228 #[ptr sb,.int .i64 k,.int .u64 old,.int .i64 ev] [g] fun e gs=>e=.returned (.tuple #[.int .u64 (s.try k old ev).2.1,.int .i64 (s.try k old ev).2.2])∧∃ g',Xx sb (s.try k old ev).1 g'∧gs=[g']:=by
 obtain ⟨rb,m⟩:=hg;exact (Does.G1 (qcx sb rb s k old ev hn h0 h1) m).mono fun e gs ⟨he,x,mx,hx⟩=>⟨he,x,⟨rb,mx⟩,hx⟩
theorem qg9 (qb:Nat) (q:Req) (hg:Xx sb s g) (hs:Xm s) (hq:qbi s.recs.length q) :
 Qa prog 182 #[ptr qb] [qm qb sb q,g] fun e gs=>e=.returned (.int .i64 (Q3 s q).2.st)∧∃ g',Xx sb (Q3 s q).1 g'∧gs=[qm qb sb (Q3 s q).2,g']:=by
 obtain ⟨rb,m⟩:=hg;refine (Does.G2 (a:=[qcd qb sb q]) (a':=[qcd qb sb (Q3 s q).2]) (qcr qb sb rb s q hs hq) (reqM _ _ _) m).mono ?_
 rintro e gs ⟨he,x,y,mx,my,rfl⟩;exact ⟨he,y,⟨rb,my⟩,by rw [mx.isPt];rfl⟩
end
theorem qin (qb sb:Nat) (q:Req):Qa prog 183 #[ptr qb] [qm qb sb q] fun e gs=>e=.returned (.tuple #[.int .u64 (if q.st=2 then q.id else 0),.int .i64 (if q.st=2 then 0 else 7)])∧gs=[qm qb sb q] :=
 (Does.G1 (qfx qb sb q) (reqM _ _ _)).mono fun e gs ⟨he,x,mx,hx⟩=>⟨he,by rw [hx,mx.isPt];rfl⟩
theorem qac (sb:Nat) (p:Int):Qa prog 141 #[ptr sb,.int .u64 p] [] fun e gs=>∃ qb,e=.returned (ptr qb)∧gs=[qm qb sb ⟨p,0,0,0,0,0⟩]:=by
 refine ((qai sb p).G (gs:=[]) .nil).mono ?_
 rintro e gs ⟨h',g,⟨qb,he,rfl⟩,m,rfl⟩;exact ⟨qb,he,by rw [m.isPt];rfl⟩
theorem qhy (n:Int):Qa prog 76 #[.int .i64 n] [] fun e gs =>
 (1≤n∧n≤64∧∃ sb g,e=.returned (.tuple #[ptr sb,.int .i64 0])∧Xx sb (Xa n.toNat) g∧gs=[g])∨(¬ (1≤n∧n≤64)∧e=.returned (.tuple #[.pointer none,.int .i64 4])∧gs=[]):=by
 refine ((qc9 n).G (gs:=[]) .nil).post ?_
 rintro e gs ⟨h',g,hr,m,rfl⟩;by_cases hn:1≤n∧n≤64
 ·rw [if_pos hn] at hr
  obtain ⟨sb,rb,he,rfl⟩:=hr;exact ⟨[g],.inl ⟨hn.1,hn.2,sb,g,he,⟨rb,m⟩,rfl⟩,List.Perm.refl _⟩
 ·rw [if_neg hn] at hr
  obtain ⟨he,rfl⟩:=hr;cases m
  exact ⟨[],.inr ⟨hn,he,rfl⟩,by simp⟩
theorem qfn (n:Nat) (h1:1≤n) (h2:n≤64):Qa prog 76 #[.int .i64 n] [] fun e gs=>∃ sb g,e=.returned (.tuple #[ptr sb,.int .i64 0])∧Xx sb (Xa n) g∧gs=[g]:=by
 refine (qhy n).mono ?_
 rintro e gs (⟨_,_,sb,g,he,hs,hg⟩ | ⟨hn,_⟩)
 ·exact ⟨sb,g,he,by simpa using hs,hg⟩
 ·exact absurd ⟨by omega,by omega⟩ hn
theorem qfw (b o:Nat) (T:TypeId) (C:Array Value) (n:Bool) (hc:cellAt C o (.bool n)) :
 Does prog 130 #[.pointer (some ⟨b,o,none⟩)] [pt b T C] (Jz b T C o (.bool n) (.bool n)):=by
 intro w hw;obtain ⟨h0,l,t,u,h1,h2,h3⟩:=hc;have T0:=Qe.refl hw;have hb:=T0.blk 0 rfl;have c0:w.cell? ⟨b,o,none⟩=some (.bool n):=(Qw hb o).trans h0;have c1:w.cell? ⟨b,o+1,none⟩=some (.int .i64 l):=(Qw hb (o+1)).trans h1;have f1:=Xe hb (o+1);have T1:=Vh T0;have H:=Vh (And.intro h0 (And.intro h1 (And.intro h2 h3)));clear T0 hb hw h0 h1 h2 h3;go_enter func130,ntmps130
 go_wp2
 go_ret
 obtain ⟨h0,h1,h2,h3⟩:=H.out;exact ⟨_,⟨rfl,_,rfl,Je h0 h1 h2 h3⟩,T1.out.set (o+1) _⟩
end
section
theorem qb9 {n e:Int} {p:Bool} (h0:0≤n) (h1:n<18446744073709551616) (hk:okW n=true) (hx:(Qs n e p).2=0) :
 1≤e∧e≤10∧(toW (stW n) e (p && !Xl n)).2.2=true∧okW (Qs n e p).1=true ∧
  stW (Qs n e p).1=(toW (stW n) e (p && !Xl n)).1∧X0 (Qs n e p).1=X0 n+(toW (stW n) e (p && !Xl n)).2.1 ∧
  Xl (Qs n e p).1=(if e=7 then true else if e=1∨e=10 then false else Xl n)∧0≤(Qs n e p).1∧(Qs n e p).1<18446744073709551616∧X0 n≤X0 (Qs n e p).1:=by
 rcases Zf n e p h0 h1 hk with ⟨_,h | h | h⟩ | ⟨_,a,b,c,d,f,g,i,j,k⟩
 ·omega
 ·omega
 ·omega
 ·have hb:=qap n h0 hk
  have hf:=Yh (stW n) e (p && !Xl n) hb.1 hb.2.1;exact ⟨a,b,c,d,f,g,i,j,k,by rw [g];have:=hf.2.2.1;omega⟩
theorem qk3 (s:Int) (again:Bool):toW s 1 again=(1,1,(s == 0)):=rfl
theorem Zy.zero:Zy Rec.zero:=⟨by decide,by decide,by decide,by decide,by decide,by decide,by decide⟩
theorem qfp {n:Nat} (h1:1≤n) (h2:n≤64):Xm (Xa n) :=
 ⟨by simp [Xa];omega,by simp [Xa];omega,by simp [Xa],by simp [Xa],fun r hr=>by simp [Xa] at hr;rw [hr.2];exact Zy.zero⟩
theorem Xm.set {s:Qg} (hs:Xm s) {k:Nat} {r:Rec} (hr:Zy r):Xm { s with recs:=s.recs.set k r } :=
 ⟨by simpa using hs.n0,by simpa using hs.n1,hs.c0,by simpa using hs.c1,fun x hx=>by
   rcases List.mem_or_eq_of_mem_set hx with h | rfl
   ·exact hs.recs x h
   ·exact hr⟩
theorem Xm.getD {s:Qg} (hs:Xm s) (k:Nat):Zy (s.recs.getD k Rec.zero):=by
 rw [List.getD_eq_getElem?_getD];cases h:s.recs[k]? with
 | none=>exact Zy.zero
 | some r=>exact hs.recs r (List.mem_of_getElem? h)
theorem qjs {s:Qg} {q:Req} (hs:Xm s) (hq:qbi s.recs.length q):Xm (Q3 s q).1∧qbi s.recs.length (Q3 s q).2∧(Q3 s q).1.recs.length=s.recs.length:=by
 unfold Q3;by_cases h0:q.st≠0
 ·rw [if_pos h0];exact ⟨hs,hq,rfl⟩
 rw [if_neg h0];by_cases h1:q.next=0
 ·rw [if_pos h1]
  refine ⟨hs,?_,rfl⟩
  unfold Yu;by_cases h:(s.recs.length:Int)≤s.count
  ·rw [if_pos h];exact ⟨hq.p0,hq.p1,hq.slot0,hq.slot1,.inl h1⟩
  ·rw [if_neg h];exact ⟨hq.p0,hq.p1,hq.slot0,hq.slot1,.inr (.inl ⟨rfl,hs.c0,show s.count < _ by omega⟩)⟩
 rw [if_neg h1];by_cases h2:q.next=1
 ·rw [if_pos h2]
  have hsaw:0≤q.saw∧q.saw<s.recs.length:=by
   rcases hq.next with h | h | h
   ·exact absurd h h1
   ·exact h.2
   ·omega
  unfold Jn;by_cases h:s.count=q.saw
  ·rw [if_pos h];exact ⟨⟨hs.n0,hs.n1,by show 0≤s.count+1;omega,show s.count+1≤(s.recs.length:Int) by omega,hs.recs⟩,⟨hq.p0,hq.p1,hq.slot0,hq.slot1,.inr (.inr rfl)⟩,rfl⟩
  ·rw [if_neg h];exact ⟨hs,⟨hq.p0,hq.p1,hq.slot0,hq.slot1,.inl rfl⟩,rfl⟩
 rw [if_neg h2];have hr:=hs.getD q.slot.toNat;have h3:q.next=2:=by rcases hq.next with h | h | h <;> omega
 unfold Jd;by_cases h:(Qs (s.recs.getD q.slot.toNat Rec.zero).w 1 (decide (0<q.p))).2=0
 ·simp only [h,if_true]
  obtain ⟨_,_,a,b,c,d,_,e,f,g⟩:=qb9 hr.w0 hr.w1 hr.ok h;refine ⟨hs.set ⟨e,f,b,by have:=hr.g0;show 0≤_+1;omega,?_,hq.p0,hq.p1⟩,⟨hq.p0,hq.p1,hq.slot0,hq.slot1,.inr (.inr h3)⟩,by simp⟩
  show _+1≤_
  rw [d];have:=hr.g1;simp only [qk3];omega
 ·simp only [h,if_false]
  have hn:=hs.n0;exact ⟨hs,⟨hq.p0,hq.p1,Int.emod_nonneg _ (by omega),Int.emod_lt_of_pos _ (by omega),.inr (.inr h3)⟩,trivial⟩
theorem qj6 {s:Qg} (hs:Xm s) (k old ev:Int):Xm (s.try k old ev).1∧(s.try k old ev).1.recs.length=s.recs.length:=by
 unfold Qg.try;by_cases h:s.has k
 ·rw [if_pos h]
  have hr:=hs.getD k.toNat;simp only [];by_cases h1:(Qs old ev (decide (0<(s.recs.getD k.toNat Rec.zero).p))).2≠0
  ·rw [if_pos h1];exact ⟨hs,rfl⟩
  rw [if_neg h1];by_cases h2:(s.recs.getD k.toNat Rec.zero).w=old
  ·rw [if_pos h2]
   have h3:(Qs (s.recs.getD k.toNat Rec.zero).w ev (decide (0<(s.recs.getD k.toNat Rec.zero).p))).2=0:=by rw [h2];exact Decidable.not_not.1 h1
   obtain ⟨_,_,a,b,c,d,_,e,f,g⟩:=qb9 hr.w0 hr.w1 hr.ok h3;rw [h2] at b e f g;exact ⟨hs.set ⟨e,f,b,hr.g0,by have h9:=hr.g1;rw [h2] at h9;exact Int.le_trans h9 g,hr.p0,hr.p1⟩,by simp⟩
  ·rw [if_neg h2];exact ⟨hs,rfl⟩
 ·rw [if_neg h];exact ⟨hs,rfl⟩
theorem qks {s:Qg} (hs:Xm s):Xm s.drop.1∧s.drop.1.recs.length=s.recs.length:=by
 unfold Qg.drop;by_cases h:0<s.count
 ·rw [if_pos h];exact ⟨⟨hs.n0,hs.n1,by show 0≤s.count - 1;omega,by have:=hs.c1;show s.count - 1≤(s.recs.length:Int);omega,hs.recs⟩,rfl⟩
 ·rw [if_neg h];exact ⟨hs,rfl⟩
def Xz (r:Rec):Bool:=!decide (stW r.w=0)
def X8 (l:List Rec):Nat:=l.countP Xz
theorem qby {l:List Rec} {k:Nat} {x:Rec} (r:Rec) (h:l[k]?=some x):X8 (l.set k r)+(if Xz x then 1 else 0)=X8 l+(if Xz r then 1 else 0):=by
 unfold X8;induction l generalizing k with
 | nil=>simp at h
 | cons a l ih =>
   cases k with
   | zero =>
     simp only [List.getElem?_cons_zero,Option.some.injEq] at h;subst h;simp only [List.set_cons_zero,List.countP_cons];omega
   | succ k =>
     simp only [List.getElem?_cons_succ] at h;simp only [List.set_cons_succ,List.countP_cons];have:=ih h;omega
theorem Yk {r:Rec} (h:stW r.w≠0):Xz r=true:=by simp [Xz,h]
theorem qa7 {r:Rec} (h:stW r.w=0):Xz r=false:=by simp [Xz,h]
theorem qa {l:List Rec} {k:Nat} {r:Rec} (h:l[k]?=some r):l.getD k Rec.zero=r:=by rw [List.getD_eq_getElem?_getD,h];rfl
end
section
open Go.RowKit
theorem qen {s:Qg} (hs:Xm s) (k old ev:Int) (h0:0≤old) (h1:old<18446744073709551616) (hk:okW old=true):0≤(s.try k old ev).2.1∧(s.try k old ev).2.1<18446744073709551616:=by
 unfold Qg.try;have hr:=hs.getD k.toNat;split
 ·simp only []
  split
  ·exact ⟨hr.w0,hr.w1⟩
  ·next h =>
   split
   ·have:=qb9 h0 h1 hk (Decidable.not_not.1 h);exact ⟨this.2.2.2.2.2.2.2.1,this.2.2.2.2.2.2.2.2.1⟩
   ·exact ⟨hr.w0,hr.w1⟩
 ·exact ⟨Int.le_refl _,by show (0:Int) < _;decide⟩
end
end Go.Proofs.YtcneeepdclgdcaaGreat
