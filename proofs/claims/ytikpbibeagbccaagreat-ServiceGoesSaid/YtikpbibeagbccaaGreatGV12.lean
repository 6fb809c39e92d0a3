import Derived.Test.YtikpbibeagbccaaGreatGV10
import Derived.Test.YtikpbibeagbccaaGreatGV4
set_option maxRecDepth 100000
set_option maxHeartbeats 4000000
namespace Go.Proofs.YtikpbibeagbccaaGreat
set_option linter.unusedVariables false
set_option linter.unusedSimpArgs false
open Go.Proofs.Tryz
section
open Go.RowKit
def cellAt (C:Array Value) (o:Nat) (v:Value):Prop :=
 C[o]?=some v∧∃ l t u:Int,C[o+1]?=some (.int .i64 l)∧C[o+2]?=some (.int .i64 t)∧C[o+3]?=some (.int .i64 u)
structure Q8 (C:Array Value) (o:Nat) (v:Value) (C':Array Value):Prop where
 size:C'.size=C.size
 other:∀ i,(i<o∨o+4≤i)→C'[i]?=C[i]?
 cell:cellAt C' o v
def Y6 (b:Nat) (T:TypeId) (C:Array Value) (o:Nat) (v r:Value) (e:Ending) (h':PH):Prop :=
 e=.returned r∧∃ C',h'=[pt b T C']∧Q8 C o v C'
theorem Q8.trans {A B C:Array Value} {o:Nat} {u v:Value} (h:Q8 A o u B) (k:Q8 B o v C):Q8 A o v C :=
 ⟨k.size.trans h.size,fun i hi=>(k.other i hi).trans (h.other i hi),k.cell⟩
theorem qs4 {C:Array Value} {i j:Nat} {v:Value}:(C.setIfInBounds i v)[j]?=if i=j then (if i<C.size then some v else none) else C[j]?:=by
 rw [Array.getElem?_setIfInBounds]
theorem lt_of_some {C:Array Value} {i:Nat} {v:Value} (h:C[i]?=some v):i<C.size:=(Array.getElem?_eq_some_iff.1 h).1
theorem Qd {C:Array Value} {i j:Nat} {v:Value} (h:i≠j):(C.setIfInBounds i v)[j]?=C[j]?:=by rw [qs4,if_neg h]
theorem Q2 {C:Array Value} {i:Nat} {u v:Value} (h:C[i]?=some u):(C.setIfInBounds i v)[i]?=some v:=by rw [qs4,if_pos rfl,if_pos (lt_of_some h)]
section
variable {C:Array Value} {o:Nat} {v v':Value} {l t u:Int}
theorem Y9 (h0:C[o]?=some v) (h1:C[o+1]?=some (.int .i64 l)) (h2:C[o+2]?=some (.int .i64 t)) (h3:C[o+3]?=some (.int .i64 u)) {x:Int} :
 Q8 C o v (C.setIfInBounds (o+1) (.int .i64 x)) :=
 ⟨by simp,fun i hi=>Qd (by omega),(Qd (by omega)).trans h0,x,t,u,Q2 h1,(Qd (by omega)).trans h2,(Qd (by omega)).trans h3⟩
theorem Yc (h0:C[o]?=some v) (h1:C[o+1]?=some (.int .i64 l)) (h2:C[o+2]?=some (.int .i64 t)) (h3:C[o+3]?=some (.int .i64 u)) {x:Int} :
 Q8 C o v (C.setIfInBounds (o+2) (.int .i64 x)) :=
 ⟨by simp,fun i hi=>Qd (by omega),(Qd (by omega)).trans h0,l,x,u,(Qd (by omega)).trans h1,Q2 h2,(Qd (by omega)).trans h3⟩
theorem qhh (h0:C[o]?=some v) (h1:C[o+1]?=some (.int .i64 l)) (h2:C[o+2]?=some (.int .i64 t)) (h3:C[o+3]?=some (.int .i64 u)) {x:Int} :
 Q8 C o v (C.setIfInBounds (o+3) (.int .i64 x)) :=
 ⟨by simp,fun i hi=>Qd (by omega),(Qd (by omega)).trans h0,l,t,x,(Qd (by omega)).trans h1,(Qd (by omega)).trans h2,Q2 h3⟩
theorem qde (hc:cellAt C o v):Q8 C o v' (C.setIfInBounds o v'):=by
 obtain ⟨h0,l,t,u,h1,h2,h3⟩:=hc;exact ⟨by simp,fun i hi=>Qd (by omega),Q2 h0,l,t,u,(Qd (by omega)).trans h1,(Qd (by omega)).trans h2,(Qd (by omega)).trans h3⟩
theorem Q8.turned {A:Array Value} (h:Q8 A o v C) {x:Int}:Q8 A o v (C.setIfInBounds (o+3) (.int .i64 x)):=by
 obtain ⟨h0,l,t,u,h1,h2,h3⟩:=h.cell;exact h.trans (qhh h0 h1 h2 h3)
theorem qbb (h0:C[o]?=some v) (h1:C[o+1]?=some (.int .i64 l)) (h2:C[o+2]?=some (.int .i64 t)) (h3:C[o+3]?=some (.int .i64 u)) {x y:Int} :
 Q8 C o v' (((C.setIfInBounds (o+2) (.int .i64 x)).setIfInBounds o v').setIfInBounds (o+3) (.int .i64 y)) :=
 ((Yc h0 h1 h2 h3).trans (qde (Yc h0 h1 h2 h3).cell)).turned
theorem Q8.cellOther {C':Array Value} (h:Q8 C o v C') {o':Nat} {x:Value} (hc:cellAt C o' x) (hd:o'+4≤o∨o+4≤o'):cellAt C' o' x:=by
 obtain ⟨h0,l,t,u,h1,h2,h3⟩:=hc;exact ⟨(h.other _ (by omega)).trans h0,l,t,u,(h.other _ (by omega)).trans h1,(h.other _ (by omega)).trans h2,(h.other _ (by omega)).trans h3⟩
end
theorem Xq (b o:Nat) (T:TypeId) (C:Array Value) (n:Int) (hc:cellAt C o (.int .i64 n)) :
 Does prog 49 #[.pointer (some ⟨b,o,none⟩)] [pt b T C] (Y6 b T C o (.int .i64 n) (.int .i64 n)):=by
 intro w hw;obtain ⟨h0,l,t,u,h1,h2,h3⟩:=hc;have T0:=Qh.refl hw;have hb:=T0.blk 0 rfl;have c0:w.cell? ⟨b,o,none⟩=some (.int .i64 n):=(Qv hb o).trans h0;have c1:w.cell? ⟨b,o+1,none⟩=some (.int .i64 l):=(Qv hb (o+1)).trans h1;have f1:=Xh hb (o+1);have T1:=Vh T0;have H:=Vh (And.intro h0 (And.intro h1 (And.intro h2 h3)));clear T0 hb hw h0 h1 h2 h3;go_enter func49,ntmps49
 go_wp2
 go_ret
 obtain ⟨h0,h1,h2,h3⟩:=H.out;exact ⟨_,⟨rfl,_,rfl,Y9 h0 h1 h2 h3⟩,T1.out.set (o+1) _⟩
theorem qu (b o:Nat) (T:TypeId) (C:Array Value) (n old new:Int) (hc:cellAt C o (.int .i64 n)) :
 Does prog 203 #[.pointer (some ⟨b,o,none⟩),.int .i64 old,.int .i64 new] [pt b T C] (Y6 b T C o (.int .i64 (if n=old then new else n)) (.bool (decide (n=old)))):=by
 intro w hw;obtain ⟨h0,l,t,u,h1,h2,h3⟩:=hc;have T0:=Qh.refl hw;have hb:=T0.blk 0 rfl;have c0:w.cell? ⟨b,o,none⟩=some (.int .i64 n):=(Qv hb o).trans h0;have c2:w.cell? ⟨b,o+2,none⟩=some (.int .i64 t):=(Qv hb (o+2)).trans h2;have c3:w.cell? ⟨b,o+3,none⟩=some (.int .i64 u):=(Qv hb (o+3)).trans h3;have f0:=Xh hb o;have f2:=Xh hb (o+2);have f3:=Xh hb (o+3);have T1:=Vh T0;have H:=Vh (And.intro h0 (And.intro h1 (And.intro h2 h3)));clear T0 hb hw h0 h1 h2 h3;by_cases he:n=old
 ·subst he
  skip
  all_goals
   go_enter func203,ntmps203
   go_wp2
   go_ret
   obtain ⟨h0,h1,h2,h3⟩:=H.out;exact ⟨_,⟨by simp,_,rfl,qbb h0 h1 h2 h3⟩,((T1.out.set (o+2) _).set o _).set (o+3) _⟩
 ·skip
  all_goals
   go_enter func203,ntmps203
   go_wp2
   go_ret
   obtain ⟨h0,h1,h2,h3⟩:=H.out;exact ⟨_,⟨by simp [he],_,rfl,Yc h0 h1 h2 h3⟩,T1.out.set (o+2) _⟩
theorem qfu (b o:Nat) (T:TypeId) (C:Array Value) (n v:Int) (ok:Bool) (g:Nat) (caps:Array Value) (F:PH) (hc:cellAt C o (.int .i64 n))
 (eg:∀ args w,(callFunc g args).run prog w=.ok (.enter g args) w)
 (hg:Does prog g (#[.int .i64 n]++caps) F fun e h'=>e=.returned (.tuple #[.int .i64 v,.bool ok])∧h'=F) :
 Does prog 161 #[.pointer (some ⟨b,o,none⟩),.func (.func g) #[] caps] (pt b T C::F) fun e h' =>
  e=.returned (.tuple #[.int .i64 n,.bool ok])∧∃ C',h'=pt b T C'::F∧Q8 C o (.int .i64 (if ok=true then v else n)) C':=by
 intro w hw;have T0:=Vh (Qh.refl hw);have HC:=Vh hc;have HG:=Vh hg;clear hw hc hg;cases ok
 ·go_enter func161,ntmps161
  go_wp2_with (first
   | (go_at_call 49;refine ((Xq b o T C n HC.out).use T0.out (List.Perm.refl _)).mono ?_
      rintro e w1 ⟨h',⟨rfl,C1,rfl,hr1⟩,T1⟩;have T1:=Vh T1;have HR1:=Vh hr1;clear hr1)
   | (refine (HG.out.use T1.out (List.perm_append_comm (l₁:=[pt b T C1]) (l₂:=F))).mono ?_
      rintro e w2 ⟨h',⟨rfl,rfl⟩,T2⟩;have T2:=Vh T2))
  go_ret2
  exact ⟨_,⟨rfl,C1,rfl,HR1.out⟩,T2.out.perm (List.perm_append_comm)⟩
 ·go_enter func161,ntmps161
  go_wp2_with (first
   | (go_at_call 49;refine ((Xq b o T C n HC.out).use T0.out (List.Perm.refl _)).mono ?_
      rintro e w1 ⟨h',⟨rfl,C1,rfl,hr1⟩,T1⟩;have T1:=Vh T1;have HR1:=Vh hr1;clear hr1)
   | (go_at_call 203;refine ((qu b o T C1 n n v HR1.out.cell).use T2.out (List.perm_append_comm)).mono ?_
      rintro e w3 ⟨h',⟨rfl,C3,rfl,hr3⟩,T3⟩;rw [if_pos rfl] at hr3;have T3:=Vh T3;have HR3:=Vh hr3;clear hr3)
   | (refine (HG.out.use T1.out (List.perm_append_comm (l₁:=[pt b T C1]) (l₂:=F))).mono ?_
      rintro e w2 ⟨h',⟨rfl,rfl⟩,T2⟩;have T2:=Vh T2))
  all_goals go_ret2
  all_goals exact ⟨_,⟨by simp,C3,rfl,HR1.out.trans HR3.out⟩,T3.out⟩
theorem qci (b o:Nat) (T:TypeId) (C:Array Value) (n:Int) (hc:cellAt C o (.int .u64 n)) :
 Does prog 210 #[.pointer (some ⟨b,o,none⟩)] [pt b T C] (Y6 b T C o (.int .u64 n) (.int .u64 n)):=by
 intro w hw;obtain ⟨h0,l,t,u,h1,h2,h3⟩:=hc;have T0:=Qh.refl hw;have hb:=T0.blk 0 rfl;have c0:w.cell? ⟨b,o,none⟩=some (.int .u64 n):=(Qv hb o).trans h0;have c1:w.cell? ⟨b,o+1,none⟩=some (.int .i64 l):=(Qv hb (o+1)).trans h1;have f1:=Xh hb (o+1);have T1:=Vh T0;have H:=Vh (And.intro h0 (And.intro h1 (And.intro h2 h3)));clear T0 hb hw h0 h1 h2 h3;go_enter func210,ntmps210
 go_wp2
 go_ret
 obtain ⟨h0,h1,h2,h3⟩:=H.out;exact ⟨_,⟨rfl,_,rfl,Y9 h0 h1 h2 h3⟩,T1.out.set (o+1) _⟩
theorem qca (b o:Nat) (T:TypeId) (C:Array Value) (n old new:Int) (hc:cellAt C o (.int .u64 n)) :
 Does prog 226 #[.pointer (some ⟨b,o,none⟩),.int .u64 old,.int .u64 new] [pt b T C] (Y6 b T C o (.int .u64 (if n=old then new else n)) (.bool (decide (n=old)))):=by
 intro w hw;obtain ⟨h0,l,t,u,h1,h2,h3⟩:=hc;have T0:=Qh.refl hw;have hb:=T0.blk 0 rfl;have c0:w.cell? ⟨b,o,none⟩=some (.int .u64 n):=(Qv hb o).trans h0;have c2:w.cell? ⟨b,o+2,none⟩=some (.int .i64 t):=(Qv hb (o+2)).trans h2;have c3:w.cell? ⟨b,o+3,none⟩=some (.int .i64 u):=(Qv hb (o+3)).trans h3;have f0:=Xh hb o;have f2:=Xh hb (o+2);have f3:=Xh hb (o+3);have T1:=Vh T0;have H:=Vh (And.intro h0 (And.intro h1 (And.intro h2 h3)));clear T0 hb hw h0 h1 h2 h3;by_cases he:n=old
 ·subst he
  skip
  all_goals
   go_enter func226,ntmps226
   go_wp2
   go_ret
   obtain ⟨h0,h1,h2,h3⟩:=H.out;exact ⟨_,⟨by simp,_,rfl,qbb h0 h1 h2 h3⟩,((T1.out.set (o+2) _).set o _).set (o+3) _⟩
 ·skip
  all_goals
   go_enter func226,ntmps226
   go_wp2
   go_ret
   obtain ⟨h0,h1,h2,h3⟩:=H.out;exact ⟨_,⟨by simp [he],_,rfl,Yc h0 h1 h2 h3⟩,T1.out.set (o+2) _⟩
theorem qgh (b o:Nat) (T:TypeId) (C:Array Value) (n v:Int) (ok:Bool) (g:Nat) (caps:Array Value) (F:PH) (hc:cellAt C o (.int .u64 n))
 (eg:∀ args w,(callFunc g args).run prog w=.ok (.enter g args) w)
 (hg:Does prog g (#[.int .u64 n]++caps) F fun e h'=>e=.returned (.tuple #[.int .u64 v,.bool ok])∧h'=F) :
 Does prog 216 #[.pointer (some ⟨b,o,none⟩),.func (.func g) #[] caps] (pt b T C::F) fun e h' =>
  e=.returned (.tuple #[.int .u64 n,.bool ok])∧∃ C',h'=pt b T C'::F∧Q8 C o (.int .u64 (if ok=true then v else n)) C':=by
 intro w hw;have T0:=Vh (Qh.refl hw);have HC:=Vh hc;have HG:=Vh hg;clear hw hc hg;cases ok
 ·go_enter func216,ntmps216
  go_wp2_with (first
   | (go_at_call 210;refine ((qci b o T C n HC.out).use T0.out (List.Perm.refl _)).mono ?_
      rintro e w1 ⟨h',⟨rfl,C1,rfl,hr1⟩,T1⟩;have T1:=Vh T1;have HR1:=Vh hr1;clear hr1)
   | (refine (HG.out.use T1.out (List.perm_append_comm (l₁:=[pt b T C1]) (l₂:=F))).mono ?_
      rintro e w2 ⟨h',⟨rfl,rfl⟩,T2⟩;have T2:=Vh T2))
  go_ret2
  exact ⟨_,⟨rfl,C1,rfl,HR1.out⟩,T2.out.perm (List.perm_append_comm)⟩
 ·go_enter func216,ntmps216
  go_wp2_with (first
   | (go_at_call 210;refine ((qci b o T C n HC.out).use T0.out (List.Perm.refl _)).mono ?_
      rintro e w1 ⟨h',⟨rfl,C1,rfl,hr1⟩,T1⟩;have T1:=Vh T1;have HR1:=Vh hr1;clear hr1)
   | (go_at_call 226;refine ((qca b o T C1 n n v HR1.out.cell).use T2.out (List.perm_append_comm)).mono ?_
      rintro e w3 ⟨h',⟨rfl,C3,rfl,hr3⟩,T3⟩;rw [if_pos rfl] at hr3;have T3:=Vh T3;have HR3:=Vh hr3;clear hr3)
   | (refine (HG.out.use T1.out (List.perm_append_comm (l₁:=[pt b T C1]) (l₂:=F))).mono ?_
      rintro e w2 ⟨h',⟨rfl,rfl⟩,T2⟩;have T2:=Vh T2))
  all_goals go_ret2
  all_goals exact ⟨_,⟨by simp,C3,rfl,HR1.out.trans HR3.out⟩,T3.out⟩
structure Rec where
 w:Int
 g:Int
 p:Int
structure Qn where
 recs:List Rec
 count:Int
structure Req where
 p:Int
 next:Int
 saw:Int
 slot:Int
 id:Int
 st:Int
structure qim (r:Rec):Prop where
 w0:0≤r.w
 w1:r.w<18446744073709551616
 ok:okW r.w=true
 g0:0≤r.g
 g1:r.g≤Zp r.w
 p0:0≤r.p
 p1:r.p<18446744073709551616
structure Zm (s:Qn):Prop where
 n0:1≤s.recs.length
 n1:s.recs.length≤64
 c0:0≤s.count
 c1:s.count≤s.recs.length
 recs:∀ r∈s.recs,qim r
structure qhc (n:Nat) (q:Req):Prop where
 p0:0≤q.p
 p1:q.p<18446744073709551616
 slot0:0≤q.slot
 slot1:q.slot<n
 next:q.next=0∨(q.next=1∧0≤q.saw∧q.saw<n)∨q.next=2
def qjq (s:Qn) (q:Req):Req:=if (s.recs.length:Int)≤s.count then { q with saw:=s.count,st:=1 } else { q with saw:=s.count,next:=1 }
def qh3 (s:Qn) (q:Req):Qn × Req:=if s.count=q.saw then ({ s with count:=s.count+1 },{ q with next:=2 }) else (s,{ q with next:=0 })
def Rec.zero:Rec:=⟨0,0,0⟩
def qef (s:Qn) (q:Req):Qn × Req :=
 let r:=s.recs.getD q.slot.toNat Rec.zero
 let t:=Za r.w 1 (decide (0<q.p))
 if t.2=0 then ({ s with recs:=s.recs.set q.slot.toNat ⟨t.1,r.g+1,q.p⟩ },{ q with id:=(r.g+1)*64+q.slot,st:=2 })
 else (s,{ q with slot:=(q.slot+1) % s.recs.length })
def Zu (s:Qn) (q:Req):Qn × Req :=
 if q.st≠0 then (s,q) else if q.next=0 then (s,qjq s q) else if q.next=1 then qh3 s q else qef s q
def X6 (n:Nat):Qn:=⟨List.replicate n Rec.zero,0⟩
def Qn.has (s:Qn) (k:Int):Prop:=0≤k∧k<s.recs.length
instance (s:Qn) (k:Int):Decidable (s.has k):=by unfold Qn.has;infer_instance
def Qn.period (s:Qn) (k:Int):Int:=if s.has k then (s.recs.getD k.toNat Rec.zero).p else 0
def Qn.word (s:Qn) (k:Int):Int:=if s.has k then (s.recs.getD k.toNat Rec.zero).w else 0
def Qn.werr (s:Qn) (k:Int):Int:=if s.has k then 0 else 4
def Qn.known (s:Qn) (id:Int):Prop:=id % 64<s.recs.length∧1≤id / 64∧id / 64≤(s.recs.getD (id % 64).toNat Rec.zero).g
instance (s:Qn) (k:Int):Decidable (s.known k):=by unfold Qn.known;infer_instance
def Qn.slot (s:Qn) (id:Int):Int:=if s.known id then id % 64 else 0
def Qn.serr (s:Qn) (id:Int):Int:=if s.known id then 0 else 1
def Qn.mine (s:Qn) (id:Int):Bool:=decide (s.known id) && decide ((s.recs.getD (id % 64).toNat Rec.zero).g=id / 64)
def Qn.try (s:Qn) (k old ev:Int):Qn × Int × Int :=
 if s.has k then
  let r:=s.recs.getD k.toNat Rec.zero
  let t:=Za old ev (decide (0<r.p))
  if t.2≠0 then (s,r.w,t.2) else if r.w=old then ({ s with recs:=s.recs.set k.toNat { r with w:=t.1 } },t.1,0) else (s,r.w,10)
 else (s,0,4)
def Qn.drop (s:Qn):Qn × Int:=if 0<s.count then ({ s with count:=s.count - 1 },0) else (s,6)
theorem Qn.has_at {s:Qn} {j:Nat} (h:s.has j):∃ r,s.recs[j]?=some r∧s.recs.getD (j:Int).toNat Rec.zero=r:=by
 have hj:j<s.recs.length:=by unfold Qn.has at h;omega
 exact ⟨s.recs[j],List.getElem?_eq_getElem hj,by simp [hj]⟩
theorem Qn.has_nat {s:Qn} {k:Int} (h:s.has k):∃ j:Nat,k=j:=Int.eq_ofNat_of_zero_le h.1
def recAt (C:Array Value) (i:Nat) (r:Rec):Prop:=cellAt C (i*6) (.int .u64 r.w)∧C[i*6+4]?=some (.int .u64 r.g)∧C[i*6+5]?=some (.int .u64 r.p)
def qck (rs:List Rec):Obj→Prop:=fun o=>∃ C,qhn 308 C o∧C.size=rs.length*6∧∀ i r,rs[i]?=some r→recAt C i r
def qdj (rb n:Nat) (c:Int):Obj→Prop:=fun o=>∃ C,qhn 206 C o∧C.size=5∧C[0]?=some (.slice (some ⟨rb,0,none⟩) n n)∧cellAt C 1 (.int .i64 c)
def Y1 (sb rb:Nat) (s:Qn):PH:=[(sb,qdj rb s.recs.length s.count),(rb,qck s.recs)]
def ql5 (sb:Nat) (q:Req):Array Value:=#[.pointer (some ⟨sb,0,none⟩),.int .u64 q.p,.int .i64 q.next,.int .i64 q.saw,.int .i64 q.slot,.int .u64 q.id,.int .i64 q.st]
def qh7 (qb sb:Nat) (q:Req):Piece:=pt qb 265 (ql5 sb q)
theorem qag {C C':Array Value} {i j:Nat} {r:Rec} {n:Int} (h:recAt C j r) (hc:Q8 C (i*6) (.int .u64 n) C'):recAt C' j (if j=i then { r with w:=n } else r):=by
 obtain ⟨h0,h1,h2⟩:=h;by_cases e:j=i
 ·subst e
  rw [if_pos rfl];exact ⟨hc.cell,(hc.other _ (by omega)).trans h1,(hc.other _ (by omega)).trans h2⟩
 ·rw [if_neg e]
  exact ⟨hc.cellOther h0 (by omega),(hc.other _ (by omega)).trans h1,(hc.other _ (by omega)).trans h2⟩
theorem qbg {rs:List Rec} {C C':Array Value} {i:Nat} {r:Rec} {n:Int} (hs:C.size=rs.length*6) (h:∀ i r,rs[i]?=some r→recAt C i r) (hr:rs[i]?=some r) (hc:Q8 C (i*6) (.int .u64 n) C') :
 C'.size=(rs.set i { r with w:=n }).length*6∧∀ j x,(rs.set i { r with w:=n })[j]?=some x→recAt C' j x:=by
 refine ⟨by rw [hc.size,hs,List.length_set],fun j x hx=>?_⟩
 rw [List.getElem?_set] at hx;by_cases e:i=j
 ·subst e
  rw [if_pos rfl] at hx;split at hx
  ·cases hx;have:=qag (h i r hr) hc;rwa [if_pos rfl] at this
  ·cases hx
 ·rw [if_neg e] at hx
  have:=qag (h j x hx) hc;rwa [if_neg (fun x=>e x.symm)] at this
theorem qev {rs:List Rec} {C C':Array Value} {i:Nat} {r:Rec} (hs:C.size=rs.length*6) (h:∀ i r,rs[i]?=some r→recAt C i r) (hr:rs[i]?=some r) (hc:Q8 C (i*6) (.int .u64 r.w) C') :
 C'.size=rs.length*6∧∀ j x,rs[j]?=some x→recAt C' j x:=by
 have:=qbg hs h hr hc
 have e:rs.set i { r with w:=r.w }=rs:=by
  apply List.ext_getElem? ;intro k;rw [List.getElem?_set];split
  ·next e=>subst e;split
           ·rw [hr]
           ·rename_i hn;exact absurd (List.getElem?_eq_some_iff.1 hr).1 hn
  ·rfl
 rwa [e] at this
theorem qo2 {C:Array Value} {i:Nat} {r:Rec} (h:recAt C i r) (n:Int):recAt (C.setIfInBounds (i*6+4) (.int .u64 n)) i { r with g:=n }:=by
 obtain ⟨⟨h0,l,t,u,a,b,c⟩,h1,h2⟩:=h;exact ⟨⟨(Qd (by omega)).trans h0,l,t,u,(Qd (by omega)).trans a,(Qd (by omega)).trans b,(Qd (by omega)).trans c⟩,Q2 h1,(Qd (by omega)).trans h2⟩
theorem qp4 {C:Array Value} {i:Nat} {r:Rec} (h:recAt C i r) (n:Int):recAt (C.setIfInBounds (i*6+5) (.int .u64 n)) i { r with p:=n }:=by
 obtain ⟨⟨h0,l,t,u,a,b,c⟩,h1,h2⟩:=h;exact ⟨⟨(Qd (by omega)).trans h0,l,t,u,(Qd (by omega)).trans a,(Qd (by omega)).trans b,(Qd (by omega)).trans c⟩,(Qd (by omega)).trans h1,Q2 h2⟩
theorem qga {C:Array Value} {i j k:Nat} {r:Rec} {v:Value} (h:recAt C i r) (hk:j*6≤k∧k<j*6+6) (hij:i≠j):recAt (C.setIfInBounds k v) i r:=by
 obtain ⟨⟨h0,l,t,u,a,b,c⟩,h1,h2⟩:=h;exact ⟨⟨(Qd (by omega)).trans h0,l,t,u,(Qd (by omega)).trans a,(Qd (by omega)).trans b,(Qd (by omega)).trans c⟩,(Qd (by omega)).trans h1,(Qd (by omega)).trans h2⟩
theorem qos {rs:List Rec} {C C':Array Value} {i:Nat} {r:Rec} {n g p:Int} (hs:C.size=rs.length*6) (h:∀ i r,rs[i]?=some r→recAt C i r) (hr:rs[i]?=some r) (hc:Q8 C (i*6) (.int .u64 n) C') :
 ((C'.setIfInBounds (i*6+4) (.int .u64 g)).setIfInBounds (i*6+5) (.int .u64 p)).size=(rs.set i ⟨n,g,p⟩).length*6 ∧
   ∀ j x,(rs.set i ⟨n,g,p⟩)[j]?=some x→recAt ((C'.setIfInBounds (i*6+4) (.int .u64 g)).setIfInBounds (i*6+5) (.int .u64 p)) j x:=by
 obtain ⟨k1,k2⟩:=qbg hs h hr hc;refine ⟨by rw [Array.size_setIfInBounds,Array.size_setIfInBounds,k1,List.length_set,List.length_set],fun j x hx=>?_⟩
 have hi:=(List.getElem?_eq_some_iff.1 hr).1;rw [List.getElem?_set] at hx;by_cases e:i=j
 ·subst e
  rw [if_pos rfl,if_pos hi] at hx;cases hx
  have:=k2 i _ (by rw [List.getElem?_set,if_pos rfl,if_pos hi]);exact qp4 (qo2 this g) p
 ·rw [if_neg e] at hx
  have:=k2 j x (by rw [List.getElem?_set,if_neg e];exact hx);exact qga (j:=i) (qga (j:=i) this ⟨by omega,by omega⟩ (fun x=>e x.symm)) ⟨by omega,by omega⟩ (fun x=>e x.symm)
theorem Jo {C C':Array Value} {rb n:Nat} {c:Int} (hs:C.size=5) (h0:C[0]?=some (.slice (some ⟨rb,0,none⟩) n n)) (hc:Q8 C 1 (.int .i64 c) C'):qdj rb n c (.cells C' 206 (0,0)) :=
 ⟨C',rfl,hc.size.trans hs,(hc.other 0 (by omega)).trans h0,hc.cell⟩
theorem qsr (qb sb rb:Nat) (s:Qn) (q:Req) :
 Does prog 178 #[.pointer (some ⟨qb,0,none⟩)] (qh7 qb sb q::Y1 sb rb s) fun e h'=>e=.returned (.tuple #[])∧h'=qh7 qb sb (qjq s q)::Y1 sb rb s:=by
 intro w hw;obtain ⟨o,⟨C,rfl,hs,h0,hc⟩,T0⟩:=(Qh.refl hw).openAt 1 rfl;have q0:=Qv (T0.blk 0 rfl);have hne:qb≠sb:=T0.ne 0 1 rfl rfl (by decide);simp only [ql5] at q0;have HT:=Vh T0;have HC:=Vh (And.intro hs (And.intro h0 hc));clear hw hs h0 hc T0;by_cases hk:(s.recs.length:Int)≤s.count
 ·skip
  have HK:=Vh (show qjq s q=_ from if_pos hk);go_enter func178,ntmps178
  go_wp2_with (
   go_at_call 49
   refine ((Xq sb 1 _ C s.count HC.out.2.2).at HT.out 1 rfl).mono ?_
   rintro e w1 ⟨h',⟨rfl,C1,rfl,hr1⟩,Ta⟩;have T1:=Ta _ rfl;clear Ta;have q1:=Qv (T1.blk 0 rfl);have qf:=Xh (T1.blk 0 rfl);simp only [ql5] at q1;have s1:=(Qv (T1.blk 1 rfl) 0).trans ((hr1.other 0 (by omega)).trans HC.out.2.1);have HR1:=Vh hr1;have HT1:=Vh T1
   clear hr1 T1 q0)
  go_region
  go_wp2
  refine bodyPost_ret (results_none rfl _ _ _) rfl ⟨_,⟨rfl,?_⟩,(((HT1.out.setAt 0 rfl 3 _).drew).setAt 0 rfl 6 _).sayAt 1 rfl _ (fun o ho=>by cases ho;exact Jo HC.out.1 HC.out.2.1 HR1.out)⟩
  rw [HK.out];rfl
 ·skip
  have HK:=Vh (show qjq s q=_ from if_neg hk);go_enter func178,ntmps178
  go_wp2_with (
   go_at_call 49
   refine ((Xq sb 1 _ C s.count HC.out.2.2).at HT.out 1 rfl).mono ?_
   rintro e w1 ⟨h',⟨rfl,C1,rfl,hr1⟩,Ta⟩;have T1:=Ta _ rfl;clear Ta;have q1:=Qv (T1.blk 0 rfl);have qf:=Xh (T1.blk 0 rfl);simp only [ql5] at q1;have s1:=(Qv (T1.blk 1 rfl) 0).trans ((hr1.other 0 (by omega)).trans HC.out.2.1);have HR1:=Vh hr1;have HT1:=Vh T1
   clear hr1 T1 q0)
  go_region
  go_wp2
  refine bodyPost_end (results_none rfl _ _ _) rfl ⟨_,⟨rfl,?_⟩,(((HT1.out.setAt 0 rfl 3 _).drew).setAt 0 rfl 2 _).sayAt 1 rfl _ (fun o ho=>by cases ho;exact Jo HC.out.1 HC.out.2.1 HR1.out)⟩
  rw [HK.out];rfl
theorem qr6 (qb sb rb:Nat) (s:Qn) (q:Req) (b0:0≤q.saw) (b1:q.saw<64) :
 Does prog 179 #[.pointer (some ⟨qb,0,none⟩)] (qh7 qb sb q::Y1 sb rb s) fun e h'=>e=.returned (.tuple #[])∧h'=qh7 qb sb (qh3 s q).2::Y1 sb rb (qh3 s q).1:=by
 intro w hw;obtain ⟨o,⟨C,rfl,hs,h0,hc⟩,T0⟩:=(Qh.refl hw).openAt 1 rfl;have q0:=Qv (T0.blk 0 rfl);have qf0:=Xh (T0.blk 0 rfl);have hne:qb≠sb:=T0.ne 0 1 rfl rfl (by decide);simp only [ql5] at q0;have HT:=Vh T0;have HC:=Vh (And.intro hs (And.intro h0 hc));clear hw hs h0 hc T0;have hwr:wrap64 (q.saw+1)=q.saw+1:=by unfold wrap64;omega
 by_cases hk:s.count=q.saw
 ·have HK:=Vh (show qh3 s q=_ from if_pos hk)
  go_enter func179,ntmps179
  go_wp2
  go_region_held3 (fun w'=>w'.cell? ⟨qb,0,none⟩=some (.pointer (some ⟨sb,0,none⟩))∧w'.cell? ⟨qb,3,none⟩=some (.int .i64 q.saw)) (first | exact ⟨(HT.out.setAt 0 rfl 2 _).drew.cell 0 rfl 0,(HT.out.setAt 0 rfl 2 _).drew.cell 0 rfl 3⟩ | exact ⟨q1 0,q1 3⟩) ((
   go_at_call 203
   rw [qyd (q.saw+1) (by omega) (by omega)];refine ((qu sb 1 _ C s.count q.saw (q.saw+1) HC.out.2.2).at (HT.out.setAt 0 rfl 2 _).drew 1 rfl).mono ?_
   rintro e w1 ⟨h',⟨rfl,C1,rfl,hr1⟩,Ta⟩;have T1:=Ta _ rfl;clear Ta;have q1:=Qv (T1.blk 0 rfl);have qf:=Xh (T1.blk 0 rfl);rw [if_pos hk] at hr1;have HR1:=Vh hr1;have HT1:=Vh T1
   clear hr1 T1 q0))
  go_wp2
  refine bodyPost_end (results_none rfl _ _ _) rfl ⟨_,⟨rfl,?_⟩,(HT1.out.setAt 0 rfl 2 _).sayAt 1 rfl _ (fun o ho=>by cases ho;exact Jo HC.out.1 HC.out.2.1 HR1.out)⟩
  rw [HK.out,hk];rfl
 ·have HK:=Vh (show qh3 s q=_ from if_neg hk)
  go_enter func179,ntmps179
  go_wp2
  go_region_held3 (fun w'=>w'.cell? ⟨qb,0,none⟩=some (.pointer (some ⟨sb,0,none⟩))∧w'.cell? ⟨qb,3,none⟩=some (.int .i64 q.saw)) (first | exact ⟨(HT.out.setAt 0 rfl 2 _).drew.cell 0 rfl 0,(HT.out.setAt 0 rfl 2 _).drew.cell 0 rfl 3⟩ | exact ⟨q1 0,q1 3⟩) ((
   go_at_call 203
   rw [qyd (q.saw+1) (by omega) (by omega)];refine ((qu sb 1 _ C s.count q.saw (q.saw+1) HC.out.2.2).at (HT.out.setAt 0 rfl 2 _).drew 1 rfl).mono ?_
   rintro e w1 ⟨h',⟨rfl,C1,rfl,hr1⟩,Ta⟩;have T1:=Ta _ rfl;clear Ta;have q1:=Qv (T1.blk 0 rfl);have qf:=Xh (T1.blk 0 rfl);rw [if_neg hk] at hr1;have HR1:=Vh hr1;have HT1:=Vh T1
   clear hr1 T1 q0))
  go_wp2
  refine bodyPost_end (results_none rfl _ _ _) rfl ⟨_,⟨rfl,?_⟩,HT1.out.sayAt 1 rfl _ (fun o ho=>by cases ho;exact Jo HC.out.1 HC.out.2.1 HR1.out)⟩
  rw [HK.out];rfl
theorem qgo (xb qb sb:Nat) (q:Req) (n:Int) (h0:0≤n) (h1:n<18446744073709551616) :
 Does prog 217 #[.int .u64 n,.pointer (some ⟨xb,0,none⟩)] [pt xb 185 #[.pointer (some ⟨qb,0,none⟩)],qh7 qb sb q] fun e h' =>
  e=.returned (.tuple #[.int .u64 (Za n 1 (decide (0<q.p))).1,.bool ((Za n 1 (decide (0<q.p))).2 == 0)])∧h'=[pt xb 185 #[.pointer (some ⟨qb,0,none⟩)],qh7 qb sb q]:=by
 intro w hw;have T0:=Qh.refl hw;have x0:=T0.cell 0 rfl 0;have q0:=T0.cell 1 (show _=some (pt qb _ _) from rfl) 1;simp [ql5] at x0 q0
 have HT:=Vh T0;clear hw T0;go_enter func217,ntmps217
 go_wp2_with (
  go_at_call 191
  refine (qaw _ _ _ _ h0 h1).mono ?_
  rintro e w1 ⟨rfl,rfl⟩)
 all_goals go_ret2
 all_goals exact ⟨_,⟨by simp_all,rfl⟩,HT.out⟩
theorem qs9 (qb sb rb:Nat) (s:Qn) (q:Req) (k:Nat) (r:Rec) (hk:q.slot=k) (hr:s.recs[k]?=some r) (ho:qim r) (hn:s.recs.length≤64) :
 Does prog 180 #[.pointer (some ⟨qb,0,none⟩)] (qh7 qb sb q::Y1 sb rb s) fun e h'=>e=.returned (.tuple #[])∧h'=qh7 qb sb (qef s q).2::Y1 sb rb (qef s q).1:=by
 intro w hw;obtain ⟨o,⟨C,rfl,hs,h0,hc⟩,T0⟩:=(Qh.refl hw).openAt 1 rfl;obtain ⟨o,⟨D,rfl,hd,hD⟩,T0⟩:=T0.openAt 2 rfl;have q0:=T0.cell 0 (show _=some (pt qb _ _) from rfl);have s0:w.cell? ⟨sb,0,none⟩=_:=(T0.cell 1 (show _=some (pt sb _ _) from rfl) 0).trans h0;have hqs:qb≠sb:=T0.ne 0 1 rfl rfl (by decide);have hqr:qb≠rb:=T0.ne 0 2 rfl rfl (by decide);have hkl:=(List.getElem?_eq_some_iff.1 hr).1;simp only [ql5] at q0;have HT:=Vh T0;have HC:=Vh (And.intro hs (And.intro h0 hc));have HD:=Vh (And.intro hd hD);have HR:=Vh hr;have HO:=Vh ho;have hlq:=T0.lt 0 (show _=some (pt qb _ _) from rfl);have hls:=T0.lt 1 (show _=some (pt sb _ _) from rfl);simp only [] at hlq hls;clear hw hs h0 hc T0 hd hD hr ho;obtain ⟨v,hv⟩:∃ v,Za r.w 1 (decide (0<q.p))=v:=⟨_,rfl⟩;obtain ⟨n1,e1⟩:=v;have HV:=Vh hv;clear hv;rw [hk] at q0
 have hperm:∀ (b x:Piece) (D':Array Value),[b,x,(sb,fun o=>o=Obj.cells C 206 (0,0)),pt rb 308 D'].Perm ((pt rb 308 D'::[b,x])++[(sb,fun o=>o=Obj.cells C 206 (0,0))]) :=
  fun b x D'=>(q0c 3 rfl rfl)
 obtain ⟨hg0,hg1⟩:0≤r.g∧r.g≤4294967295:=⟨HO.out.g0,Int.le_trans HO.out.g1 (qsk _ HO.out.w0 HO.out.ok).2.2.2⟩;by_cases he:e1=0
 ·subst he
  have HK:=Vh (show qef s q=({ s with recs:=s.recs.set k ⟨n1,r.g+1,q.p⟩ },{ q with id:=(r.g+1)*64+q.slot,st:=2 }) from by
   unfold qef;simp only [hk,Int.toNat_natCast,List.getD_eq_getElem?_getD,HR.out,Option.getD_some,HV.out];rfl)
  go_enter func180,ntmps180
  go_wp2
  go_region
  go_wp2_with (
   go_at_call 216
   refine ((qgh rb (k*6) 308 D r.w n1 true 217 #[.pointer (some ⟨w.heap.size,0,none⟩)] [pt w.heap.size 185 #[.pointer (some ⟨qb,0,none⟩)],qh7 qb sb q]
    (HD.out.2 k r HR.out).1 (enters_of func217 (by kernel_rfl) rfl)
    ((qgo w.heap.size qb sb q r.w HO.out.w0 HO.out.w1).mono (fun e h' hh=>by rw [HV.out] at hh;exact hh))).use (HT.out.alloc rfl _ _).drew (hperm _ _ _)).mono ?_
   rintro e w1 ⟨h',⟨rfl,D1,rfl,hr1⟩,T1⟩;have q1:=T1.cell 2 (show _=some (pt qb _ _) from rfl);have x1:=T1.cell 1 (show _=some (pt w.heap.size _ _) from rfl);have s1:w1.cell? ⟨sb,0,none⟩=_:=(T1.cell 3 (show _=some (pt sb _ _) from rfl) 0).trans HC.out.2.1;have g1:=(T1.cell 0 (show _=some (pt rb _ _) from rfl) (k*6+4)).trans ((hr1.other (k*6+4) (by omega)).trans (HD.out.2 k r HR.out).2.1);have p1:=(T1.cell 0 (show _=some (pt rb _ _) from rfl) (k*6+5)).trans ((hr1.other (k*6+5) (by omega)).trans (HD.out.2 k r HR.out).2.2);have f1:=T1.free 0 (show _=some (pt rb _ _) from rfl);have f2:=T1.free 2 (show _=some (pt qb _ _) from rfl);simp only [ql5,hk] at q1;have HR1:=Vh hr1;have HT1:=Vh T1
   clear hr1 T1)
  go_region
  go_wp2
  refine bodyPost_end (results_none rfl _ _ _) rfl ⟨_,⟨rfl,?_⟩,Qh.drop1 (((((((HT1.out.setAt 0 rfl (k*6+4) _).setAt 0 rfl (k*6+5) _).setAt 2 rfl 5 _).setAt 2 rfl 6 _).drew.sayAt 0 rfl
   (qck (s.recs.set k ⟨n1,r.g+1,q.p⟩)) ?_).sayAt 3 rfl (qdj rb (s.recs.set k ⟨n1,r.g+1,q.p⟩).length s.count) ?_).perm (List.perm_append_comm (l₁:=[_]) (l₂:=[_,_,_])))⟩
  ·rw [HK.out,← hk];rfl
  ·intro o ho;cases ho
   exact ⟨_,rfl,qos HD.out.1 HD.out.2 HR.out HR1.out⟩
  ·intro o ho;cases ho;rw [List.length_set];exact ⟨C,rfl,HC.out⟩
 ·have HK:=Vh (show qef s q=(s,{ q with slot:=(q.slot+1) % s.recs.length }) from by
   unfold qef;simp only [hk,Int.toNat_natCast,List.getD_eq_getElem?_getD,HR.out,Option.getD_some,HV.out];exact if_neg he)
  go_enter func180,ntmps180
  go_wp2
  go_region
  go_wp2_with (
   go_at_call 216
   refine ((qgh rb (k*6) 308 D r.w n1 false 217 #[.pointer (some ⟨w.heap.size,0,none⟩)] [pt w.heap.size 185 #[.pointer (some ⟨qb,0,none⟩)],qh7 qb sb q]
    (HD.out.2 k r HR.out).1 (enters_of func217 (by kernel_rfl) rfl)
    ((qgo w.heap.size qb sb q r.w HO.out.w0 HO.out.w1).mono (fun e h' hh=>by rw [HV.out,show ((e1 == 0)=false) from by simpa using he] at hh;exact hh))).use (HT.out.alloc rfl _ _).drew (hperm _ _ _)).mono ?_
   rintro e w1 ⟨h',⟨rfl,D1,rfl,hr1⟩,T1⟩;have q1:=T1.cell 2 (show _=some (pt qb _ _) from rfl);have x1:=T1.cell 1 (show _=some (pt w.heap.size _ _) from rfl);have s1:w1.cell? ⟨sb,0,none⟩=_:=(T1.cell 3 (show _=some (pt sb _ _) from rfl) 0).trans HC.out.2.1;have g1:=(T1.cell 0 (show _=some (pt rb _ _) from rfl) (k*6+4)).trans ((hr1.other (k*6+4) (by omega)).trans (HD.out.2 k r HR.out).2.1);have p1:=(T1.cell 0 (show _=some (pt rb _ _) from rfl) (k*6+5)).trans ((hr1.other (k*6+5) (by omega)).trans (HD.out.2 k r HR.out).2.2);have f1:=T1.free 0 (show _=some (pt rb _ _) from rfl);have f2:=T1.free 2 (show _=some (pt qb _ _) from rfl);simp only [ql5,hk] at q1;have HR1:=Vh hr1;have HT1:=Vh T1
   clear hr1 T1)
  go_region
  go_wp2
  refine bodyPost_ret (results_none rfl _ _ _) rfl ⟨_,⟨rfl,?_⟩,Qh.drop1 (((((HT1.out.setAt 2 rfl 4 _).drew.sayAt 0 rfl
   (qck s.recs) ?_).sayAt 3 rfl (qdj rb s.recs.length s.count) ?_).perm (List.perm_append_comm (l₁:=[_]) (l₂:=[_,_,_]))))⟩
  ·rw [HK.out,hk];rfl
  ·intro o ho;cases ho
   exact ⟨_,rfl,qev HD.out.1 HD.out.2 HR.out HR1.out⟩
  ·intro o ho;cases ho;exact ⟨C,rfl,HC.out⟩
def atV (rb n:Nat) (k:Int):Value:=if 0≤k∧k<n then .pointer (some ⟨rb,k.toNat*6,none⟩) else .pointer none
theorem qle (rb:Nat) {s:Qn} {j:Nat} (h:s.has j):atV rb s.recs.length j=.pointer (some ⟨rb,j*6,none⟩):=(if_pos h).trans (by simp)
theorem qtc (rb:Nat) {s:Qn} {k:Int} (h:¬ s.has k):atV rb s.recs.length k=.pointer none:=if_neg h
theorem Zw (sb rb n:Nat) (c:Int) (k:Int) (hn:n≤64) :
 Does prog 209 #[.pointer (some ⟨sb,0,none⟩),.int .i64 k] [(sb,qdj rb n c)] fun e h'=>e=.returned (atV rb n k)∧h'=[(sb,qdj rb n c)]:=by
 intro w hw;obtain ⟨o,⟨C,rfl,hs,h0,hc⟩,T0⟩:=(Qh.refl hw).openAt 0 rfl;have s0:w.cell? ⟨sb,0,none⟩=_:=(T0.cell 0 (show _=some (pt sb _ _) from rfl) 0).trans h0;have HT:=Vh (T0.sayAt 0 rfl (qdj rb n c) (fun o ho=>by cases ho;exact ⟨C,rfl,hs,h0,hc⟩));clear hw hs h0 hc T0;by_cases h1:0≤k
 ·obtain ⟨j,rfl⟩:=Int.eq_ofNat_of_zero_le h1
  by_cases h2:j<n
  ·have HV:=Vh (show atV rb n (j:Int)=.pointer (some ⟨rb,j*6,none⟩) from by unfold atV;rw [if_pos ⟨h1,by omega⟩];simp)
   go_enter func209,ntmps209
   go_wp2
   all_goals go_ret
   all_goals exact ⟨_,⟨by rw [HV.out];rfl,rfl⟩,HT.out⟩
  ·have HV:=Vh (show atV rb n (j:Int)=.pointer none from by unfold atV;rw [if_neg (by omega)])
   go_enter func209,ntmps209
   go_wp2
   all_goals go_ret
   all_goals exact ⟨_,⟨by rw [HV.out];rfl,rfl⟩,HT.out⟩
 ·have HV:=Vh (show atV rb n k=.pointer none from by unfold atV;rw [if_neg (by omega)])
  go_enter func209,ntmps209
  go_wp2
  all_goals go_ret
  all_goals exact ⟨_,⟨by rw [HV.out];rfl,rfl⟩,HT.out⟩
theorem qqb (qb sb:Nat) (q:Req) :
 Does prog 150 #[.pointer (some ⟨qb,0,none⟩)] [qh7 qb sb q] fun e h' =>
  e=.returned (.tuple #[.int .u64 (if q.st=2 then q.id else 0),.int .i64 (if q.st=2 then 0 else 7)])∧h'=[qh7 qb sb q]:=by
 intro w hw;have T0:=Qh.refl hw;have q0:=T0.cell 0 (show _=some (pt qb _ _) from rfl);simp only [ql5] at q0;have HT:=Vh T0;clear hw T0;by_cases h2:q.st=2
 all_goals
  go_enter func150,ntmps150
  go_wp2
  all_goals go_ret2
  all_goals exact ⟨_,⟨by simp [h2],rfl⟩,HT.out⟩
theorem qfn (sb:Nat) (p:Int) :
 Does prog 125 #[.pointer (some ⟨sb,0,none⟩),.int .u64 p] [] fun e h' =>
  ∃ qb,e=.returned (.pointer (some ⟨qb,0,none⟩))∧h'=[qh7 qb sb ⟨p,0,0,0,0,0⟩]:=by
 intro w hw;have HT:=Vh (Qh.refl hw);clear hw;go_enter func125,ntmps125
 go_wp2
 go_ret
 exact ⟨_,⟨_,rfl,rfl⟩,HT.out.alloc rfl _ _⟩
theorem Yn (sb rb:Nat) (s:Qn) (k:Int) (hn:s.recs.length≤64) :
 Does prog 172 #[.pointer (some ⟨sb,0,none⟩),.int .i64 k] (Y1 sb rb s) fun e h' =>
  e=.returned (.tuple #[.int .u64 (s.word k),.int .i64 (s.werr k)])∧h'=Y1 sb rb s:=by
 intro w hw;have HT:=Vh (Qh.refl hw);clear hw;by_cases h:s.has k
 ·obtain ⟨j,rfl⟩:=Qn.has_nat h
  obtain ⟨r,hr,hrd⟩:=Qn.has_at h;have HV:=Vh (qle rb h);have HP:=Vh (show s.word j=r.w∧s.werr j=0 from ⟨by unfold Qn.word;rw [if_pos h,hrd],if_pos h⟩);clear hrd h;have HR:=Vh hr;clear hr;go_enter func172,ntmps172
  go_wp2_with (first
   | (go_at_call 209
      refine ((Zw sb rb s.recs.length s.count j hn).at HT.out 0 rfl).mono ?_
      rintro e w1 ⟨h',⟨he,rfl⟩,Ta⟩;rw [HV.out] at he;subst he;obtain ⟨o,⟨D,rfl,hd,hD⟩,T1⟩:=(Ta _ rfl).openAt 1 rfl;have HD:=Vh (And.intro hd hD);have HT1:=Vh T1
      clear T1 hd hD Ta)
   | (go_at_call 210
      refine ((qci rb (j*6) _ D r.w (HD.out.2 j r HR.out).1).at HT1.out 1 rfl).mono ?_
      rintro e w2 ⟨h',⟨rfl,C1,rfl,hr1⟩,Ta⟩;have HR1:=Vh hr1;have HT2:=Vh ((Ta _ rfl).sayAt 1 rfl (qck s.recs) (fun o ho=>by cases ho;exact ⟨C1,rfl,qev HD.out.1 HD.out.2 HR.out HR1.out⟩))
      clear Ta hr1))
  go_ret2
  exact ⟨_,⟨by rw [HP.out.1,HP.out.2];rfl,rfl⟩,HT2.out⟩
 ·have HV:=Vh (qtc rb h)
  have HP:=Vh (show s.word k=0∧s.werr k=4 from ⟨if_neg h,if_neg h⟩);clear h;go_enter func172,ntmps172
  go_wp2_with (
   go_at_call 209
   refine ((Zw sb rb s.recs.length s.count k hn).at HT.out 0 rfl).mono ?_
   rintro e w1 ⟨h',⟨he,rfl⟩,Ta⟩;rw [HV.out] at he;subst he;have HT1:=Vh (Ta _ rfl)
   clear Ta)
  go_ret2
  exact ⟨_,⟨by rw [HP.out.1,HP.out.2];rfl,rfl⟩,HT1.out⟩
theorem Qn.known_at {s:Qn} {id:Int} (h0:0≤id) (h:s.known id):∃ (j:Nat) (r:Rec),id % 64=j∧s.recs[j]?=some r∧1≤id / 64∧id / 64≤r.g∧s.has j∧s.recs.getD (id % 64).toNat Rec.zero=r:=by
 have h1:0≤id % 64:=by omega
 have hh:s.has (id % 64):=⟨h1,h.1⟩;obtain ⟨j,hj⟩:=Qn.has_nat hh;rw [hj] at hh;obtain ⟨r,hr,hg⟩:=Qn.has_at hh;rw [← hj] at hg;have h3:=h.2.2;rw [hg] at h3;exact ⟨j,r,hj,hr,h.2.1,h3,hh,hg⟩
theorem zf (sb rb:Nat) (s:Qn) (id:Int) (hn:s.recs.length≤64) (h0:0≤id) (h1:id<18446744073709551616) :
 Does prog 189 #[.pointer (some ⟨sb,0,none⟩),.int .u64 id] (Y1 sb rb s) fun e h' =>
  e=.returned (.tuple #[.int .i64 (s.slot id),.int .i64 (s.serr id)])∧h'=Y1 sb rb s:=by
 intro w hw;have HT:=Vh (Qh.refl hw);clear hw;have hm0:0≤id % 64:=by omega
 obtain ⟨j,hj⟩:=Int.eq_ofNat_of_zero_le hm0;by_cases hh:s.has (j:Int)
 ·obtain ⟨r,hr,hg⟩:=Qn.has_at hh
  have HV:=Vh (qle rb hh);have HR:=Vh hr
  have hkn:s.known id↔1≤id / 64∧id / 64≤r.g:=by
   unfold Qn.known;rw [hj,hg];exact ⟨fun x=>x.2,fun x=>⟨hh.2,x⟩⟩
  by_cases hk:1≤id / 64∧id / 64≤r.g
  ·have HP:=Vh (show s.slot id=j∧s.serr id=0 from ⟨(if_pos (hkn.2 hk)).trans hj,if_pos (hkn.2 hk)⟩)
   obtain ⟨k1,k2⟩:=hk;clear hh hr hg hkn;go_enter func189,ntmps189
   go_wp2_with (
    go_at_call 209
    refine ((Zw sb rb s.recs.length s.count _ hn).at HT.out 0 rfl).mono ?_
    rintro e w1 ⟨h',⟨he,rfl⟩,Ta⟩;rw [HV.out] at he;subst he;obtain ⟨o,⟨D,rfl,hd,hD⟩,T1⟩:=(Ta _ rfl).openAt 1 rfl;have d1:w1.cell? ⟨rb,j*6+4,none⟩=_:=(T1.cell 1 (show _=some (pt rb _ _) from rfl) _).trans (hD j r HR.out).2.1;have HT1:=Vh (T1.sayAt 1 rfl (qck s.recs) (fun o ho=>by cases ho;exact ⟨D,rfl,hd,hD⟩))
    clear T1 hd hD Ta)
   all_goals go_ret2
   all_goals exact ⟨_,⟨by rw [HP.out.1,HP.out.2,← hj];rfl,rfl⟩,HT1.out⟩
  ·have HP:=Vh (show s.slot id=0∧s.serr id=1 from ⟨if_neg (fun x=>hk (hkn.1 x)),if_neg (fun x=>hk (hkn.1 x))⟩)
   clear hh hr hg hkn;by_cases k1:1≤id / 64
   ·have k2:¬ id / 64≤r.g:=fun x=>hk ⟨k1,x⟩
    clear hk;go_enter func189,ntmps189
    go_wp2_with (
     go_at_call 209
     refine ((Zw sb rb s.recs.length s.count _ hn).at HT.out 0 rfl).mono ?_
     rintro e w1 ⟨h',⟨he,rfl⟩,Ta⟩;rw [HV.out] at he;subst he;obtain ⟨o,⟨D,rfl,hd,hD⟩,T1⟩:=(Ta _ rfl).openAt 1 rfl;have d1:w1.cell? ⟨rb,j*6+4,none⟩=_:=(T1.cell 1 (show _=some (pt rb _ _) from rfl) _).trans (hD j r HR.out).2.1;have HT1:=Vh (T1.sayAt 1 rfl (qck s.recs) (fun o ho=>by cases ho;exact ⟨D,rfl,hd,hD⟩))
     clear T1 hd hD Ta)
    all_goals go_ret2
    all_goals exact ⟨_,⟨by rw [HP.out.1,HP.out.2];rfl,rfl⟩,HT1.out⟩
   ·clear hk
    go_enter func189,ntmps189
    go_wp2_with (
     go_at_call 209
     refine ((Zw sb rb s.recs.length s.count _ hn).at HT.out 0 rfl).mono ?_
     rintro e w1 ⟨h',⟨he,rfl⟩,Ta⟩;rw [HV.out] at he;subst he;obtain ⟨o,⟨D,rfl,hd,hD⟩,T1⟩:=(Ta _ rfl).openAt 1 rfl;have d1:w1.cell? ⟨rb,j*6+4,none⟩=_:=(T1.cell 1 (show _=some (pt rb _ _) from rfl) _).trans (hD j r HR.out).2.1;have HT1:=Vh (T1.sayAt 1 rfl (qck s.recs) (fun o ho=>by cases ho;exact ⟨D,rfl,hd,hD⟩))
     clear T1 hd hD Ta)
    all_goals go_ret2
    all_goals exact ⟨_,⟨by rw [HP.out.1,HP.out.2];rfl,rfl⟩,HT1.out⟩
 ·have HV:=Vh (qtc rb hh)
  have HP:=Vh (show s.slot id=0∧s.serr id=1 from ⟨if_neg (fun x=>hh (by rw [← hj];exact ⟨hm0,x.1⟩)),if_neg (fun x=>hh (by rw [← hj];exact ⟨hm0,x.1⟩))⟩);clear hh;go_enter func189,ntmps189
  go_wp2_with (
   go_at_call 209
   refine ((Zw sb rb s.recs.length s.count _ hn).at HT.out 0 rfl).mono ?_
   rintro e w1 ⟨h',⟨he,rfl⟩,Ta⟩;rw [HV.out] at he;subst he;have HT1:=Vh (Ta _ rfl)
   clear Ta)
  all_goals go_ret2
  all_goals exact ⟨_,⟨by rw [HP.out.1,HP.out.2];rfl,rfl⟩,HT1.out⟩
theorem qhq (sb rb:Nat) (s:Qn) (id:Int) (hn:s.recs.length≤64) (h0:0≤id) (h1:id<18446744073709551616) :
 Does prog 190 #[.pointer (some ⟨sb,0,none⟩),.int .u64 id] (Y1 sb rb s) fun e h' =>
  e=.returned (.bool (s.mine id))∧h'=Y1 sb rb s:=by
 intro w hw;have HT:=Vh (Qh.refl hw);clear hw;by_cases hk:s.known id
 ·obtain ⟨j,r,hj,hr,k1,k2,hh,hg⟩:=Qn.known_at h0 hk
  have HP:=Vh (show s.slot id=j∧s.serr id=0∧s.mine id=decide (r.g=id / 64) from ⟨(if_pos hk).trans hj,if_pos hk,by unfold Qn.mine;rw [hg,decide_eq_true hk];rfl⟩);have HR:=Vh hr;have hjl:j<s.recs.length:=by have:=hh.2;omega
  clear hk hj hr hh hg;go_enter func190,ntmps190
  go_wp2_with (
   go_at_call 189
   refine ((zf sb rb s id hn h0 h1).use HT.out (List.Perm.refl _)).mono ?_
   rw [HP.out.1,HP.out.2.1];rintro e w1 ⟨h',⟨rfl,rfl⟩,Ta⟩;obtain ⟨o,⟨C,rfl,hs,hc0,hc⟩,T1⟩:=Ta.openAt 0 rfl;have s1:w1.cell? ⟨sb,0,none⟩=_:=(T1.cell 0 (show _=some (pt sb _ _) from rfl) 0).trans hc0;have T1:=T1.sayAt 0 rfl (qdj rb s.recs.length s.count) (fun o ho=>by cases ho;exact ⟨C,rfl,hs,hc0,hc⟩);obtain ⟨o,⟨D,rfl,hd,hD⟩,T1⟩:=T1.openAt 1 rfl;have d1:w1.cell? ⟨rb,j*6+4,none⟩=_:=(T1.cell 1 (show _=some (pt rb _ _) from rfl) _).trans (hD j r HR.out).2.1;have HT1:=Vh (T1.sayAt 1 rfl (qck s.recs) (fun o ho=>by cases ho;exact ⟨D,rfl,hd,hD⟩))
   clear T1 hd hD Ta hs hc0 hc)
  go_ret
  exact ⟨_,⟨by rw [HP.out.2.2];rfl,rfl⟩,HT1.out⟩
 ·have HP:=Vh (show s.slot id=0∧s.serr id=1∧s.mine id=false from ⟨if_neg hk,if_neg hk,by unfold Qn.mine;rw [decide_eq_false hk];rfl⟩)
  clear hk;go_enter func190,ntmps190
  go_wp2_with (
   go_at_call 189
   refine ((zf sb rb s id hn h0 h1).use HT.out (List.Perm.refl _)).mono ?_
   rw [HP.out.1,HP.out.2.1];rintro e w1 ⟨h',⟨rfl,rfl⟩,Ta⟩;have HT1:=Vh Ta
   clear Ta)
  go_ret
  exact ⟨_,⟨by rw [HP.out.2.2];rfl,rfl⟩,HT1.out⟩
theorem qfk (n:Int) (h0:0≤n) (h1:n≤64) :
 Does prog 244 #[.int .i64 n] [] fun e h'=>e=.returned (.tuple #[.int .i64 (n - 1),.bool (decide (0<n))])∧h'=[]:=by
 intro w hw;have HT:=Vh (Qh.refl hw);clear hw;go_enter func244,ntmps244
 go_wp2
 all_goals go_ret2
 all_goals exact ⟨_,⟨rfl,rfl⟩,HT.out⟩
theorem qhm (sb rb:Nat) (s:Qn) (h0:0≤s.count) (h1:s.count≤64) :
 Does prog 215 #[.pointer (some ⟨sb,0,none⟩)] (Y1 sb rb s) fun e h'=>e=.returned (.int .i64 s.drop.2)∧h'=Y1 sb rb s.drop.1:=by
 intro w hw;obtain ⟨o,⟨C,rfl,hs,hc0,hc⟩,T0⟩:=(Qh.refl hw).openAt 0 rfl;have HT:=Vh T0;have HC:=Vh (And.intro hs (And.intro hc0 hc));have HD:=Vh (qfk s.count h0 h1);clear hw hs hc0 hc T0;by_cases hk:0<s.count
 all_goals
  go_enter func215,ntmps215
  go_wp2_with (
   go_at_call 161
   refine ((qfu sb 1 206 C s.count (s.count - 1) (decide (0<s.count)) 244 #[] [] HC.out.2.2 (enters_of func244 (by kernel_rfl) rfl) HD.out).at HT.out 0 rfl).mono ?_
   rintro e w1 ⟨h',⟨rfl,C1,rfl,hr1⟩,Ta⟩;simp only [hk] at hr1 ⊢;have HR1:=Vh hr1;have HT1:=Vh (Ta _ rfl)
   clear Ta hr1)
  all_goals go_ret
 ·have HP:=show s.drop=_ from if_pos hk
  exact ⟨_,⟨by rw [HP];rfl,by rw [HP];rfl⟩,HT1.out.sayAt 0 rfl (qdj rb s.recs.length (s.count - 1)) (fun o ho=>by cases ho;exact Jo HC.out.1 HC.out.2.1 (by simpa using HR1.out))⟩
 ·have HP:=show s.drop=_ from if_neg (by omega)
  exact ⟨_,⟨by rw [HP];rfl,by rw [HP];rfl⟩,HT1.out.sayAt 0 rfl (qdj rb s.recs.length s.count) (fun o ho=>by cases ho;exact Jo HC.out.1 HC.out.2.1 (by simpa using HR1.out))⟩
theorem qmw {s:Qn} {C C':Array Value} {j:Nat} {r:Rec} {old n:Int} (hs:C.size=s.recs.length*6) (h:∀ i r,s.recs[i]?=some r→recAt C i r) (hr:s.recs[j]?=some r)
 (hc:Q8 C (j*6) (.int .u64 (if r.w=old then n else r.w)) C'):qck (if r.w=old then s.recs.set j { r with w:=n } else s.recs) (.cells C' 308 (0,0)):=by
 by_cases e:r.w=old
 ·rw [if_pos e] at hc ⊢;exact ⟨C',rfl,qbg hs h hr hc⟩
 ·rw [if_neg e] at hc ⊢;exact ⟨C',rfl,qev hs h hr hc⟩
theorem qji (sb rb:Nat) (s:Qn) (k old ev:Int) (hn:s.recs.length≤64) (h0:0≤old) (h1:old<18446744073709551616) :
 Does prog 194 #[.pointer (some ⟨sb,0,none⟩),.int .i64 k,.int .u64 old,.int .i64 ev] (Y1 sb rb s) fun e h' =>
  e=.returned (.tuple #[.int .u64 (s.try k old ev).2.1,.int .i64 (s.try k old ev).2.2])∧h'=Y1 sb rb (s.try k old ev).1:=by
 intro w hw;have HT:=Vh (Qh.refl hw);clear hw;by_cases hh:s.has k
 ·obtain ⟨j,rfl⟩:=Qn.has_nat hh
  obtain ⟨r,hr,hg⟩:=Qn.has_at hh;have HV:=Vh (qle rb hh);have HR:=Vh hr;have HW:=Vh (show s.word j=r.w∧s.werr j=0 from ⟨by unfold Qn.word;rw [if_pos hh,hg],if_pos hh⟩);obtain ⟨t,ht⟩:∃ t,Za old ev (decide (0<r.p))=t:=⟨_,rfl⟩;obtain ⟨n1,e1⟩:=t;have HN:=Vh ht
  have HP:=Vh (show s.try j old ev=if e1≠0 then (s,r.w,e1) else if r.w=old then ({ s with recs:=s.recs.set j { r with w:=n1 } },n1,0) else (s,r.w,10) from by
   unfold Qn.try;rw [if_pos hh];dsimp only;rw [hg,ht];rfl)
  clear hh hr hg ht;by_cases he:e1=0
  ·subst he
   by_cases ho:r.w=old
   all_goals
    go_enter func194,ntmps194
    go_wp2_with (first
     | (go_at_call 172
        refine ((Yn sb rb s j hn).use HT.out (List.Perm.refl _)).mono ?_
        rw [HW.out.1,HW.out.2];rintro e w1 ⟨h',⟨rfl,rfl⟩,Ta⟩;have HT1:=Vh Ta
        clear Ta)
     | (go_at_call 209
        refine ((Zw sb rb s.recs.length s.count j hn).at HT1.out 0 rfl).mono ?_
        rintro e w2 ⟨h',⟨he,rfl⟩,Ta⟩;rw [HV.out] at he;subst he;obtain ⟨o,⟨D,rfl,hd,hD⟩,T1⟩:=(Ta _ rfl).openAt 1 rfl;have d1:w2.cell? ⟨rb,j*6+5,none⟩=_:=(T1.cell 1 (show _=some (pt rb _ _) from rfl) _).trans (hD j r HR.out).2.2;have HD:=Vh (And.intro hd hD);have HT2:=Vh T1
        clear T1 hd hD Ta)
     | (go_at_call 191;refine (qaw _ _ _ _ h0 h1).mono ?_;rw [HN.out];rintro e w3 ⟨rfl,rfl⟩)
     | (go_at_call 226
        refine ((qca rb (j*6) _ D r.w old n1 (HD.out.2 j r HR.out).1).at HT2.out 1 rfl).mono ?_
        rintro e w4 ⟨h',⟨rfl,C1,rfl,hr1⟩,Ta⟩;have HR1:=Vh (qmw HD.out.1 HD.out.2 HR.out hr1);have HT3:=Vh (Ta _ rfl)
        clear Ta hr1))
    go_ret2
   ·rw [if_pos ho] at HR1
    exact ⟨_,⟨by rw [HP.out,if_neg (by simp),if_pos ho];rfl,by rw [HP.out,if_neg (by simp),if_pos ho];rfl⟩,(HT3.out.sayAt 1 rfl (qck (s.recs.set j { r with w:=n1 })) (fun o hx=>by cases hx;exact HR1.out)).sayAt 0 rfl
     (qdj rb (s.recs.set j { r with w:=n1 }).length s.count) (fun o hx=>by rw [List.length_set];exact hx)⟩
   ·rw [if_neg ho] at HR1
    exact ⟨_,⟨by rw [HP.out,if_neg (by simp),if_neg ho];rfl,by rw [HP.out,if_neg (by simp),if_neg ho];rfl⟩,HT3.out.sayAt 1 rfl (qck s.recs) (fun o hx=>by cases hx;exact HR1.out)⟩
  ·skip
   go_enter func194,ntmps194
   go_wp2_with (first
    | (go_at_call 172
       refine ((Yn sb rb s j hn).use HT.out (List.Perm.refl _)).mono ?_
       rw [HW.out.1,HW.out.2];rintro e w1 ⟨h',⟨rfl,rfl⟩,Ta⟩;have HT1:=Vh Ta
       clear Ta)
    | (go_at_call 209
       refine ((Zw sb rb s.recs.length s.count j hn).at HT1.out 0 rfl).mono ?_
       rintro e w2 ⟨h',⟨he,rfl⟩,Ta⟩;rw [HV.out] at he;subst he;obtain ⟨o,⟨D,rfl,hd,hD⟩,T1⟩:=(Ta _ rfl).openAt 1 rfl;have d1:w2.cell? ⟨rb,j*6+5,none⟩=_:=(T1.cell 1 (show _=some (pt rb _ _) from rfl) _).trans (hD j r HR.out).2.2;have HD:=Vh (And.intro hd hD);have HT2:=Vh T1
       clear T1 hd hD Ta)
    | (go_at_call 191;refine (qaw _ _ _ _ h0 h1).mono ?_;rw [HN.out];rintro e w3 ⟨rfl,rfl⟩)
    | (go_at_call 226
       refine ((qca rb (j*6) _ D r.w old n1 (HD.out.2 j r HR.out).1).at HT2.out 1 rfl).mono ?_
       rintro e w4 ⟨h',⟨rfl,C1,rfl,hr1⟩,Ta⟩;have HR1:=Vh (qmw HD.out.1 HD.out.2 HR.out hr1);have HT3:=Vh (Ta _ rfl)
       clear Ta hr1))
   go_ret2
   exact ⟨_,⟨by rw [HP.out,if_pos he];rfl,by rw [HP.out,if_pos he];rfl⟩,HT2.out.sayAt 1 rfl (qck s.recs) (fun o hx=>by cases hx;exact ⟨D,rfl,HD.out⟩)⟩
 ·have HW:=Vh (show s.word k=0∧s.werr k=4 from ⟨if_neg hh,if_neg hh⟩)
  have HP:=Vh (show s.try k old ev=(s,0,4) from if_neg hh);clear hh;go_enter func194,ntmps194
  go_wp2_with (
   go_at_call 172
   refine ((Yn sb rb s k hn).use HT.out (List.Perm.refl _)).mono ?_
   rw [HW.out.1,HW.out.2];rintro e w1 ⟨h',⟨rfl,rfl⟩,Ta⟩;have HT1:=Vh Ta
   clear Ta)
  go_ret2
  exact ⟨_,⟨by rw [HP.out];rfl,by rw [HP.out];rfl⟩,HT1.out⟩
theorem qif (qb sb rb:Nat) (s:Qn) (q:Req) (hs:Zm s) (hq:qhc s.recs.length q) :
 Does prog 149 #[.pointer (some ⟨qb,0,none⟩)] (qh7 qb sb q::Y1 sb rb s) fun e h'=>e=.returned (.int .i64 (Zu s q).2.st)∧h'=qh7 qb sb (Zu s q).2::Y1 sb rb (Zu s q).1:=by
 intro w hw;have T0:=Qh.refl hw;have q0:=T0.cell 0 (show _=some (pt qb _ _) from rfl);simp only [ql5] at q0;have hlq:=T0.lt 0 (show _=some (pt qb _ _) from rfl);simp only [] at hlq;have HT:=Vh T0;clear hw T0;have hn1:=hs.n1;by_cases hst:q.st=0
 ·rcases hq.next with hn | ⟨hn,b0,b1⟩ | hn
  ·have HK:=Vh (show Zu s q=(s,qjq s q) from by unfold Zu;rw [if_neg (by simp [hst]),if_pos hn])
   rw [hn,hst] at q0;go_enter func149,ntmps149
   go_wp2_with (
    go_at_call 178
    refine ((qsr qb sb rb s q).use (HT.out.alloc0 _) (List.Perm.refl _)).mono ?_
    rintro e w1 ⟨h',⟨rfl,rfl⟩,Ta⟩;have q1:=Ta.cell 0 (show _=some (pt qb _ _) from rfl) 6;simp [ql5] at q1
    have HT1:=Vh Ta
    clear Ta)
   go_ret
   exact ⟨_,⟨by rw [HK.out];rfl,by rw [HK.out];rfl⟩,HT1.out⟩
  ·have b2:q.saw<64:=by omega
   have HK:=Vh (show Zu s q=qh3 s q from by unfold Zu;rw [if_neg (by simp [hst]),if_neg (by omega),if_pos hn]);rw [hn,hst] at q0;go_enter func149,ntmps149
   go_wp2_with (
    go_at_call 179
    refine ((qr6 qb sb rb s q b0 b2).use (HT.out.alloc0 _) (List.Perm.refl _)).mono ?_
    rintro e w1 ⟨h',⟨rfl,rfl⟩,Ta⟩;have q1:=Ta.cell 0 (show _=some (pt qb _ _) from rfl) 6;simp [ql5] at q1
    have HT1:=Vh Ta
    clear Ta)
   go_ret
   exact ⟨_,⟨by rw [HK.out];rfl,by rw [HK.out];rfl⟩,HT1.out⟩
  ·obtain ⟨k,hk⟩:=Int.eq_ofNat_of_zero_le hq.slot0
   have hkl:k<s.recs.length:=by have:=hq.slot1;omega
   have hr:s.recs[k]?=some (s.recs[k]):=List.getElem?_eq_getElem hkl;have HX:=Vh (qs9 qb sb rb s q k _ hk hr (hs.recs _ (List.getElem_mem _)) hn1);have HK:=Vh (show Zu s q=qef s q from by unfold Zu;rw [if_neg (by simp [hst]),if_neg (by omega),if_neg (by omega)]);rw [hn,hst] at q0;clear hr;go_enter func149,ntmps149
   go_wp2_with (
    go_at_call 180
    refine (HX.out.use (HT.out.alloc0 _) (List.Perm.refl _)).mono ?_
    rintro e w1 ⟨h',⟨rfl,rfl⟩,Ta⟩;have q1:=Ta.cell 0 (show _=some (pt qb _ _) from rfl) 6;simp [ql5] at q1
    have HT1:=Vh Ta
    clear Ta)
   go_ret
   exact ⟨_,⟨by rw [HK.out];rfl,by rw [HK.out];rfl⟩,HT1.out⟩
 ·have HK:=Vh (show Zu s q=(s,q) from if_pos hst)
  go_enter func149,ntmps149
  go_wp2
  go_ret
  exact ⟨_,⟨by rw [HK.out];rfl,by rw [HK.out]⟩,HT.out.alloc0 _⟩
def qz6:Array Value:=#[.int .u64 0,.int .i64 0,.int .i64 0,.int .i64 0,.int .u64 0,.int .u64 0]
theorem qui:(prog.info? 308).map (fun i=>(i.zero,i.size,i.bytes))=some (some (.agg qz6),6,48):=by kernel_rfl
theorem qu5 (k:Nat):(madeCells qz6 (k*6)).size=(X6 k).recs.length*6∧∀ i r,(X6 k).recs[i]?=some r→recAt (madeCells qz6 (k*6)) i r:=by
 refine ⟨by simp [size_madeCells,X6],fun i r hr=>?_⟩
 have hi:i<k:=by have:=(List.getElem?_eq_some_iff.1 hr).1;simpa [X6] using this
 have hz:qz6.size=6:=rfl;have hr':r=Rec.zero:=by simp [X6,hi] at hr;exact hr.symm
 subst hr';exact ⟨⟨qa _ k 6 i 0 hz hi (by omega),0,0,0,qa _ k 6 i 1 hz hi (by omega),qa _ k 6 i 2 hz hi (by omega),qa _ k 6 i 3 hz hi (by omega)⟩,qa _ k 6 i 4 hz hi (by omega),qa _ k 6 i 5 hz hi (by omega)⟩
theorem qj1 (n:Int) :
 Does prog 82 #[.int .i64 n] [] fun e h' =>
  if 1≤n∧n≤64 then ∃ sb rb,e=.returned (.tuple #[.pointer (some ⟨sb,0,none⟩),.int .i64 0])∧h'=Y1 sb rb (X6 n.toNat) else e=.returned (.tuple #[.pointer none,.int .i64 4])∧h'=[]:=by
 intro w hw;have HT:=Vh (Qh.refl hw);clear hw;by_cases h:1≤n∧n≤64
 ·simp only [if_pos h]
  obtain ⟨h1,h2⟩:=h;obtain ⟨k,rfl⟩:=Int.eq_ofNat_of_zero_le (show 0≤n by omega);have hk1:k≤64:=by omega
  have hmk:∀ w,(Instr.makeSlice 204 (.int .i64 (k:Int)) (.int .i64 (k:Int))).run prog w=.ok (.slice (some ⟨w.heap.size,0,none⟩) k k) (w.alloc (.cells (madeCells qz6 (k*6)) 308)):=qcs (P:=prog) 204 308 (.agg qz6) 6 48 underlying204 qui k (by omega) (by omega);have hd1:decide ((k:Int)<1)=false:=by simp;omega
  have hd2:decide (64<(k:Int))=false:=by simp;omega
  go_enter func82,ntmps82
  go_wp2
  go_ret2
  exact ⟨_,⟨w.heap.size+1,w.heap.size,rfl,by simp [X6,Y1]⟩,(((HT.out.alloc rfl _ _).sayAt 0 rfl (qck (X6 k).recs) (fun o ho=>by cases ho;exact ⟨_,rfl,qu5 k⟩)).alloc rfl _ _).sayAt 0 rfl (qdj w.heap.size (X6 k).recs.length 0) (fun o ho=>by
   cases ho;exact ⟨_,rfl,rfl,by simp [X6],rfl,0,0,0,rfl,rfl,rfl⟩)⟩
 ·simp only [if_neg h]
  by_cases h1:n<1
  ·clear h
   go_enter func82,ntmps82
   go_wp2
   go_ret2
   exact ⟨_,⟨rfl,rfl⟩,HT.out⟩
  ·have h2:64<n:=by omega
   clear h;go_enter func82,ntmps82
   go_wp2
   go_ret2
   exact ⟨_,⟨rfl,rfl⟩,HT.out⟩
abbrev ptr (b:Nat):Value:=.pointer (some ⟨b,0,none⟩)
def Zt (sb:Nat) (s:Qn) (g:List Blk):Prop:=∃ rb,Zd (Y1 sb rb s) g
def qc7 (qb sb:Nat) (q:Req):List Blk:=[cl qb 265 (ql5 sb q)]
theorem reqM (qb sb:Nat) (q:Req):Zd [qh7 qb sb q] (qc7 qb sb q):=Zd.of_pt _ _ _
section
variable {sb:Nat} {s:Qn} {g:List Blk}
theorem qo1 (hg:Zt sb s g) (hn:s.recs.length≤64) (k:Int):Qa prog 172 #[ptr sb,.int .i64 k] [g] fun e gs=>e=.returned (.tuple #[.int .u64 (s.word k),.int .i64 (s.werr k)])∧∃ g',Zt sb s g'∧gs=[g']:=by
 obtain ⟨rb,m⟩:=hg;exact (Does.G1 (Yn sb rb s k hn) m).mono fun e gs ⟨he,x,mx,hx⟩=>⟨he,x,⟨rb,mx⟩,hx⟩
theorem qgc (hg:Zt sb s g) (hn:s.recs.length≤64) (id:Int) (h0:0≤id) (h1:id<18446744073709551616):Qa prog 189 #[ptr sb,.int .u64 id] [g] fun e gs=>e=.returned (.tuple #[.int .i64 (s.slot id),.int .i64 (s.serr id)])∧∃ g',Zt sb s g'∧gs=[g']:=by
 obtain ⟨rb,m⟩:=hg;exact (Does.G1 (zf sb rb s id hn h0 h1) m).mono fun e gs ⟨he,x,mx,hx⟩=>⟨he,x,⟨rb,mx⟩,hx⟩
theorem qn3 (hg:Zt sb s g) (hn:s.recs.length≤64) (id:Int) (h0:0≤id) (h1:id<18446744073709551616):Qa prog 190 #[ptr sb,.int .u64 id] [g] fun e gs=>e=.returned (.bool (s.mine id))∧∃ g',Zt sb s g'∧gs=[g']:=by
 obtain ⟨rb,m⟩:=hg;exact (Does.G1 (qhq sb rb s id hn h0 h1) m).mono fun e gs ⟨he,x,mx,hx⟩=>⟨he,x,⟨rb,mx⟩,hx⟩
theorem qpy (hg:Zt sb s g) (h0:0≤s.count) (h1:s.count≤64):Qa prog 215 #[ptr sb] [g] fun e gs=>e=.returned (.int .i64 s.drop.2)∧∃ g',Zt sb s.drop.1 g'∧gs=[g']:=by
 obtain ⟨rb,m⟩:=hg;exact (Does.G1 (qhm sb rb s h0 h1) m).mono fun e gs ⟨he,x,mx,hx⟩=>⟨he,x,⟨rb,mx⟩,hx⟩
theorem qqy (hg:Zt sb s g) (hn:s.recs.length≤64) (k old ev:Int) (h0:0≤old) (h1:old<18446744073709551616) :
 Qa prog 194 #[ptr sb,.int .i64 k,.int .u64 old,.int .i64 ev] [g] fun e gs=>e=.returned (.tuple #[.int .u64 (s.try k old ev).2.1,.int .i64 (s.try k old ev).2.2])∧∃ g',Zt sb (s.try k old ev).1 g'∧gs=[g']:=by
 obtain ⟨rb,m⟩:=hg;exact (Does.G1 (qji sb rb s k old ev hn h0 h1) m).mono fun e gs ⟨he,x,mx,hx⟩=>⟨he,x,⟨rb,mx⟩,hx⟩
theorem qsv (qb:Nat) (q:Req) (hg:Zt sb s g) (hs:Zm s) (hq:qhc s.recs.length q) :
 Qa prog 149 #[ptr qb] [qc7 qb sb q,g] fun e gs=>e=.returned (.int .i64 (Zu s q).2.st)∧∃ g',Zt sb (Zu s q).1 g'∧gs=[qc7 qb sb (Zu s q).2,g']:=by
 obtain ⟨rb,m⟩:=hg;refine (Does.G2 (a:=[qh7 qb sb q]) (a':=[qh7 qb sb (Zu s q).2]) (qif qb sb rb s q hs hq) (reqM _ _ _) m).mono ?_
 rintro e gs ⟨he,x,y,mx,my,rfl⟩;exact ⟨he,y,⟨rb,my⟩,by rw [mx.isPt];rfl⟩
end
theorem qrf (qb sb:Nat) (q:Req):Qa prog 150 #[ptr qb] [qc7 qb sb q] fun e gs=>e=.returned (.tuple #[.int .u64 (if q.st=2 then q.id else 0),.int .i64 (if q.st=2 then 0 else 7)])∧gs=[qc7 qb sb q] :=
 (Does.G1 (qqb qb sb q) (reqM _ _ _)).mono fun e gs ⟨he,x,mx,hx⟩=>⟨he,by rw [hx,mx.isPt];rfl⟩
theorem qeb (sb:Nat) (p:Int):Qa prog 125 #[ptr sb,.int .u64 p] [] fun e gs=>∃ qb,e=.returned (ptr qb)∧gs=[qc7 qb sb ⟨p,0,0,0,0,0⟩]:=by
 refine ((qfn sb p).G (gs:=[]) .nil).mono ?_
 rintro e gs ⟨h',g,⟨qb,he,rfl⟩,m,rfl⟩;exact ⟨qb,he,by rw [m.isPt];rfl⟩
theorem qrh (n:Int):Qa prog 82 #[.int .i64 n] [] fun e gs =>
 (1≤n∧n≤64∧∃ sb g,e=.returned (.tuple #[ptr sb,.int .i64 0])∧Zt sb (X6 n.toNat) g∧gs=[g])∨(¬ (1≤n∧n≤64)∧e=.returned (.tuple #[.pointer none,.int .i64 4])∧gs=[]):=by
 refine ((qj1 n).G (gs:=[]) .nil).post ?_
 rintro e gs ⟨h',g,hr,m,rfl⟩;by_cases hn:1≤n∧n≤64
 ·rw [if_pos hn] at hr
  obtain ⟨sb,rb,he,rfl⟩:=hr;exact ⟨[g],.inl ⟨hn.1,hn.2,sb,g,he,⟨rb,m⟩,rfl⟩,List.Perm.refl _⟩
 ·rw [if_neg hn] at hr
  obtain ⟨he,rfl⟩:=hr;cases m
  exact ⟨[],.inr ⟨hn,he,rfl⟩,by simp⟩
theorem qp3 (n:Nat) (h1:1≤n) (h2:n≤64):Qa prog 82 #[.int .i64 n] [] fun e gs=>∃ sb g,e=.returned (.tuple #[ptr sb,.int .i64 0])∧Zt sb (X6 n) g∧gs=[g]:=by
 refine (qrh n).mono ?_
 rintro e gs (⟨_,_,sb,g,he,hs,hg⟩ | ⟨hn,_⟩)
 ·exact ⟨sb,g,he,by simpa using hs,hg⟩
 ·exact absurd ⟨by omega,by omega⟩ hn
theorem qpa (b o:Nat) (T:TypeId) (C:Array Value) (n:Bool) (hc:cellAt C o (.bool n)) :
 Does prog 61 #[.pointer (some ⟨b,o,none⟩)] [pt b T C] (Y6 b T C o (.bool n) (.bool n)):=by
 intro w hw;obtain ⟨h0,l,t,u,h1,h2,h3⟩:=hc;have T0:=Qh.refl hw;have hb:=T0.blk 0 rfl;have c0:w.cell? ⟨b,o,none⟩=some (.bool n):=(Qv hb o).trans h0;have c1:w.cell? ⟨b,o+1,none⟩=some (.int .i64 l):=(Qv hb (o+1)).trans h1;have f1:=Xh hb (o+1);have T1:=Vh T0;have H:=Vh (And.intro h0 (And.intro h1 (And.intro h2 h3)));clear T0 hb hw h0 h1 h2 h3;go_enter func61,ntmps61
 go_wp2
 go_ret
 obtain ⟨h0,h1,h2,h3⟩:=H.out;exact ⟨_,⟨rfl,_,rfl,Y9 h0 h1 h2 h3⟩,T1.out.set (o+1) _⟩
theorem qqa (b o:Nat) (T:TypeId) (C:Array Value) (n old new:Bool) (hc:cellAt C o (.bool n)) :
 Does prog 137 #[.pointer (some ⟨b,o,none⟩),.bool old,.bool new] [pt b T C] (Y6 b T C o (.bool (if n=old then new else n)) (.bool (decide (n=old)))):=by
 intro w hw;obtain ⟨h0,l,t,u,h1,h2,h3⟩:=hc;have T0:=Qh.refl hw;have hb:=T0.blk 0 rfl;have c0:w.cell? ⟨b,o,none⟩=some (.bool n):=(Qv hb o).trans h0;have c2:w.cell? ⟨b,o+2,none⟩=some (.int .i64 t):=(Qv hb (o+2)).trans h2;have c3:w.cell? ⟨b,o+3,none⟩=some (.int .i64 u):=(Qv hb (o+3)).trans h3;have f0:=Xh hb o;have f2:=Xh hb (o+2);have f3:=Xh hb (o+3);have T1:=Vh T0;have H:=Vh (And.intro h0 (And.intro h1 (And.intro h2 h3)));clear T0 hb hw h0 h1 h2 h3;by_cases he:n=old
 ·subst he
  cases n
  all_goals
   go_enter func137,ntmps137
   go_wp2
   go_ret
   obtain ⟨h0,h1,h2,h3⟩:=H.out;exact ⟨_,⟨by simp,_,rfl,qbb h0 h1 h2 h3⟩,((T1.out.set (o+2) _).set o _).set (o+3) _⟩
 ·cases n <;> cases old <;> first | exact absurd rfl he | skip
  all_goals
   go_enter func137,ntmps137
   go_wp2
   go_ret
   obtain ⟨h0,h1,h2,h3⟩:=H.out;exact ⟨_,⟨by simp [he],_,rfl,Yc h0 h1 h2 h3⟩,T1.out.set (o+2) _⟩
theorem qp9 (b o:Nat) (T:TypeId) (C:Array Value) (n:Int) (hc:cellAt C o (.int .u64 n)) :
 Does prog 60 #[.pointer (some ⟨b,o,none⟩)] [pt b T C] (Y6 b T C o (.int .u64 n) (.int .u64 n)):=by
 intro w hw;obtain ⟨h0,l,t,u,h1,h2,h3⟩:=hc;have T0:=Qh.refl hw;have hb:=T0.blk 0 rfl;have c0:w.cell? ⟨b,o,none⟩=some (.int .u64 n):=(Qv hb o).trans h0;have c1:w.cell? ⟨b,o+1,none⟩=some (.int .i64 l):=(Qv hb (o+1)).trans h1;have f1:=Xh hb (o+1);have T1:=Vh T0;have H:=Vh (And.intro h0 (And.intro h1 (And.intro h2 h3)));clear T0 hb hw h0 h1 h2 h3;go_enter func60,ntmps60
 go_wp2
 go_ret
 obtain ⟨h0,h1,h2,h3⟩:=H.out;exact ⟨_,⟨rfl,_,rfl,Y9 h0 h1 h2 h3⟩,T1.out.set (o+1) _⟩
section
variable {sb:Nat} {s s':Qn} {g:List Blk}
theorem qcf {v x:Int} {id:Int} (e1:s.slot id=v) (e2:s.serr id=x) (hg:Zt sb s g) (hn:s.recs.length≤64) (h0:0≤id) (h1:id<18446744073709551616):Qa prog 189 #[ptr sb,.int .u64 id] [g] fun e gs=>e=.returned (.tuple #[.int .i64 v,.int .i64 x])∧∃ g',Zt sb s g'∧gs=[g']:=by
 have:=qgc hg hn id h0 h1;rwa [e1,e2] at this
end
end
section
theorem qdt {n e:Int} {p:Bool} (h0:0≤n) (h1:n<18446744073709551616) (hk:okW n=true) (hx:(Za n e p).2=0) :
 1≤e∧e≤10∧(toW (stW n) e (p && !Jd n)).2.2=true∧okW (Za n e p).1=true ∧
  stW (Za n e p).1=(toW (stW n) e (p && !Jd n)).1∧Zp (Za n e p).1=Zp n+(toW (stW n) e (p && !Jd n)).2.1 ∧
  Jd (Za n e p).1=(if e=7 then true else if e=1∨e=10 then false else Jd n)∧0≤(Za n e p).1∧(Za n e p).1<18446744073709551616∧Zp n≤Zp (Za n e p).1:=by
 rcases qku n e p h0 h1 hk with ⟨_,h | h | h⟩ | ⟨_,a,b,c,d,f,g,i,j,k⟩
 ·omega
 ·omega
 ·omega
 ·have hb:=qsk n h0 hk
  have hf:=qhj (stW n) e (p && !Jd n) hb.1 hb.2.1;exact ⟨a,b,c,d,f,g,i,j,k,by rw [g];have:=hf.2.2.1;omega⟩
theorem qyj (s:Int) (again:Bool):toW s 1 again=(1,1,(s == 0)):=rfl
theorem qim.zero:qim Rec.zero:=⟨by decide,by decide,by decide,by decide,by decide,by decide,by decide⟩
theorem qpp {n:Nat} (h1:1≤n) (h2:n≤64):Zm (X6 n) :=
 ⟨by simp [X6];omega,by simp [X6];omega,by simp [X6],by simp [X6],fun r hr=>by simp [X6] at hr;rw [hr.2];exact qim.zero⟩
theorem Zm.set {s:Qn} (hs:Zm s) {k:Nat} {r:Rec} (hr:qim r):Zm { s with recs:=s.recs.set k r } :=
 ⟨by simpa using hs.n0,by simpa using hs.n1,hs.c0,by simpa using hs.c1,fun x hx=>by
   rcases List.mem_or_eq_of_mem_set hx with h | rfl
   ·exact hs.recs x h
   ·exact hr⟩
theorem Zm.getD {s:Qn} (hs:Zm s) (k:Nat):qim (s.recs.getD k Rec.zero):=by
 rw [List.getD_eq_getElem?_getD];cases h:s.recs[k]? with
 | none=>exact qim.zero
 | some r=>exact hs.recs r (List.mem_of_getElem? h)
theorem qno {s:Qn} {q:Req} (hs:Zm s) (hq:qhc s.recs.length q):Zm (Zu s q).1∧qhc s.recs.length (Zu s q).2∧(Zu s q).1.recs.length=s.recs.length:=by
 unfold Zu;by_cases h0:q.st≠0
 ·rw [if_pos h0];exact ⟨hs,hq,rfl⟩
 rw [if_neg h0];by_cases h1:q.next=0
 ·rw [if_pos h1]
  refine ⟨hs,?_,rfl⟩
  unfold qjq;by_cases h:(s.recs.length:Int)≤s.count
  ·rw [if_pos h];exact ⟨hq.p0,hq.p1,hq.slot0,hq.slot1,.inl h1⟩
  ·rw [if_neg h];exact ⟨hq.p0,hq.p1,hq.slot0,hq.slot1,.inr (.inl ⟨rfl,hs.c0,show s.count < _ by omega⟩)⟩
 rw [if_neg h1];by_cases h2:q.next=1
 ·rw [if_pos h2]
  have hsaw:0≤q.saw∧q.saw<s.recs.length:=by
   rcases hq.next with h | h | h
   ·exact absurd h h1
   ·exact h.2
   ·omega
  unfold qh3;by_cases h:s.count=q.saw
  ·rw [if_pos h];exact ⟨⟨hs.n0,hs.n1,by show 0≤s.count+1;omega,show s.count+1≤(s.recs.length:Int) by omega,hs.recs⟩,⟨hq.p0,hq.p1,hq.slot0,hq.slot1,.inr (.inr rfl)⟩,rfl⟩
  ·rw [if_neg h];exact ⟨hs,⟨hq.p0,hq.p1,hq.slot0,hq.slot1,.inl rfl⟩,rfl⟩
 rw [if_neg h2];have hr:=hs.getD q.slot.toNat;have h3:q.next=2:=by rcases hq.next with h | h | h <;> omega
 unfold qef;by_cases h:(Za (s.recs.getD q.slot.toNat Rec.zero).w 1 (decide (0<q.p))).2=0
 ·simp only [h,if_true]
  obtain ⟨_,_,a,b,c,d,_,e,f,g⟩:=qdt hr.w0 hr.w1 hr.ok h;refine ⟨hs.set ⟨e,f,b,by have:=hr.g0;show 0≤_+1;omega,?_,hq.p0,hq.p1⟩,⟨hq.p0,hq.p1,hq.slot0,hq.slot1,.inr (.inr h3)⟩,by simp⟩
  show _+1≤_
  rw [d];have:=hr.g1;simp only [qyj];omega
 ·simp only [h,if_false]
  have hn:=hs.n0;exact ⟨hs,⟨hq.p0,hq.p1,Int.emod_nonneg _ (by omega),Int.emod_lt_of_pos _ (by omega),.inr (.inr h3)⟩,trivial⟩
theorem qbp {s:Qn} (hs:Zm s) (k old ev:Int):Zm (s.try k old ev).1∧(s.try k old ev).1.recs.length=s.recs.length:=by
 unfold Qn.try;by_cases h:s.has k
 ·rw [if_pos h]
  have hr:=hs.getD k.toNat;simp only [];by_cases h1:(Za old ev (decide (0<(s.recs.getD k.toNat Rec.zero).p))).2≠0
  ·rw [if_pos h1];exact ⟨hs,rfl⟩
  rw [if_neg h1];by_cases h2:(s.recs.getD k.toNat Rec.zero).w=old
  ·rw [if_pos h2]
   have h3:(Za (s.recs.getD k.toNat Rec.zero).w ev (decide (0<(s.recs.getD k.toNat Rec.zero).p))).2=0:=by rw [h2];exact Decidable.not_not.1 h1
   obtain ⟨_,_,a,b,c,d,_,e,f,g⟩:=qdt hr.w0 hr.w1 hr.ok h3;rw [h2] at b e f g;exact ⟨hs.set ⟨e,f,b,hr.g0,by have h9:=hr.g1;rw [h2] at h9;exact Int.le_trans h9 g,hr.p0,hr.p1⟩,by simp⟩
  ·rw [if_neg h2];exact ⟨hs,rfl⟩
 ·rw [if_neg h];exact ⟨hs,rfl⟩
theorem qhs {s:Qn} (hs:Zm s):Zm s.drop.1∧s.drop.1.recs.length=s.recs.length:=by
 unfold Qn.drop;by_cases h:0<s.count
 ·rw [if_pos h];exact ⟨⟨hs.n0,hs.n1,by show 0≤s.count - 1;omega,by have:=hs.c1;show s.count - 1≤(s.recs.length:Int);omega,hs.recs⟩,rfl⟩
 ·rw [if_neg h];exact ⟨hs,rfl⟩
def busyB (r:Rec):Bool:=!decide (stW r.w=0)
end
section
open Go.RowKit
theorem qh5 {s:Qn} (hs:Zm s) (k old ev:Int) (h0:0≤old) (h1:old<18446744073709551616) (hk:okW old=true):0≤(s.try k old ev).2.1∧(s.try k old ev).2.1<18446744073709551616:=by
 unfold Qn.try;have hr:=hs.getD k.toNat;split
 ·simp only []
  split
  ·exact ⟨hr.w0,hr.w1⟩
  ·next h =>
   split
   ·have:=qdt h0 h1 hk (Decidable.not_not.1 h);exact ⟨this.2.2.2.2.2.2.2.1,this.2.2.2.2.2.2.2.2.1⟩
   ·exact ⟨hr.w0,hr.w1⟩
 ·exact ⟨Int.le_refl _,by show (0:Int) < _;decide⟩
end
end Go.Proofs.YtikpbibeagbccaaGreat
