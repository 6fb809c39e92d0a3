import Derived.Test.YtcneeepdclgdcaaGreatSE10
import Derived.Test.YtcneeepdclgdcaaGreatSE4
set_option maxRecDepth 100000
set_option maxHeartbeats 4000000
namespace Go.Proofs.YtcneeepdclgdcaaGreat
open Go.Value renaming int->U1,tuple->U5,pointer->UB
open Go.IntKind renaming i64->U2,u64->U3
open Go.Ending renaming returned->U4
open _root_.And renaming intro->U6
open _root_.List renaming perm_append_comm->U7,getD_eq_getElem?_getD->UA,getElem?_eq_some_iff->UC,getElem?_set->UD,length_set->UE,getElem?_eq_getElem->UH
open _root_.List.Perm renaming refl->U8
open _root_.Int renaming eq_ofNat_of_zero_le->U9,toNat_natCast->UK,le_trans->UN
open Go renaming results_none->UF,TypeId->UG,bodyPost_end->UJ,madeCells->UM
open _root_.Array renaming size_setIfInBounds->UI
open _root_.Option renaming getD_some->UL
set_option linter.all false
open Go.Proofs.Tryz
section
open Go.RowKit
def cellAt (C:Array Value) (o:Nat) (v:Value):Prop :=
 C[o]?=some v/\∃ l t u:Int,C[o+1]?=some (U1 U2 l)/\C[o+2]?=some (U1 U2 t)/\C[o+3]?=some (U1 U2 u)
structure Xn (C:Array Value) (o:Nat) (v:Value) (C':Array Value):Prop where
 size:C'.size=C.size
 other:∀ i,(i<o\/o+4<=i)->C'[i]?=C[i]?
 cell:cellAt C' o v
def zg (b:Nat) (T:UG) (C:Array Value) (o:Nat) (v r:Value) (e:Ending) (h':PH):Prop :=
 e=U4 r/\∃ C',h'=[pt b T C']/\Xn C o v C'
theorem Xn.trans {A B C:Array Value} {o:Nat} {u v:Value} (h:Xn A o u B) (k:Xn B o v C):Xn A o v C :=
 ⟨k.size.trans h.size,fun i hi=>(k.other i hi).trans (h.other i hi),k.cell⟩
theorem Td {C:Array Value} {i j:Nat} {v:Value}:(C.setIfInBounds i v)[j]?=if i=j then (if i<C.size then some v else none) else C[j]?:=by
 rw [Array.getElem?_setIfInBounds]
theorem lt_of_some {C:Array Value} {i:Nat} {v:Value} (h:C[i]?=some v):i<C.size:=(Array.getElem?_eq_some_iff.1 h).1
theorem Qc {C:Array Value} {i j:Nat} {v:Value} (h:i≠j):(C.setIfInBounds i v)[j]?=C[j]?:=by rw [Td,if_neg h]
theorem Xe {C:Array Value} {i:Nat} {u v:Value} (h:C[i]?=some u):(C.setIfInBounds i v)[i]?=some v:=by rw [Td,if_pos rfl,if_pos (lt_of_some h)]
section
variable {C:Array Value} {o:Nat} {v v':Value} {l t u:Int}
theorem zp (h0:C[o]?=some v) (h1:C[o+1]?=some (U1 U2 l)) (h2:C[o+2]?=some (U1 U2 t)) (h3:C[o+3]?=some (U1 U2 u)) {x:Int} :
 Xn C o v (C.setIfInBounds (o+1) (U1 U2 x)) :=
 ⟨by simp,fun i hi=>Qc (by omega),(Qc (by omega)).trans h0,x,t,u,Xe h1,(Qc (by omega)).trans h2,(Qc (by omega)).trans h3⟩
theorem qd (h0:C[o]?=some v) (h1:C[o+1]?=some (U1 U2 l)) (h2:C[o+2]?=some (U1 U2 t)) (h3:C[o+3]?=some (U1 U2 u)) {x:Int} :
 Xn C o v (C.setIfInBounds (o+2) (U1 U2 x)) :=
 ⟨by simp,fun i hi=>Qc (by omega),(Qc (by omega)).trans h0,l,x,u,(Qc (by omega)).trans h1,Xe h2,(Qc (by omega)).trans h3⟩
theorem qku (h0:C[o]?=some v) (h1:C[o+1]?=some (U1 U2 l)) (h2:C[o+2]?=some (U1 U2 t)) (h3:C[o+3]?=some (U1 U2 u)) {x:Int} :
 Xn C o v (C.setIfInBounds (o+3) (U1 U2 x)) :=
 ⟨by simp,fun i hi=>Qc (by omega),(Qc (by omega)).trans h0,l,t,x,(Qc (by omega)).trans h1,(Qc (by omega)).trans h2,Xe h3⟩
theorem OD (hc:cellAt C o v):Xn C o v' (C.setIfInBounds o v'):=by
 obtain ⟨h0,l,t,u,h1,h2,h3⟩:=hc;exact ⟨by simp,fun i hi=>Qc (by omega),Xe h0,l,t,u,(Qc (by omega)).trans h1,(Qc (by omega)).trans h2,(Qc (by omega)).trans h3⟩
theorem Xn.turned {A:Array Value} (h:Xn A o v C) {x:Int}:Xn A o v (C.setIfInBounds (o+3) (U1 U2 x)):=by
 obtain ⟨h0,l,t,u,h1,h2,h3⟩:=h.cell;exact h.trans (qku h0 h1 h2 h3)
theorem qc4 (h0:C[o]?=some v) (h1:C[o+1]?=some (U1 U2 l)) (h2:C[o+2]?=some (U1 U2 t)) (h3:C[o+3]?=some (U1 U2 u)) {x y:Int} :
 Xn C o v' (((C.setIfInBounds (o+2) (U1 U2 x)).setIfInBounds o v').setIfInBounds (o+3) (U1 U2 y)) :=
 ((qd h0 h1 h2 h3).trans (OD (qd h0 h1 h2 h3).cell)).turned
theorem Xn.bT {C':Array Value} (h:Xn C o v C') {o':Nat} {x:Value} (hc:cellAt C o' x) (hd:o'+4<=o\/o+4<=o'):cellAt C' o' x:=by
 obtain ⟨h0,l,t,u,h1,h2,h3⟩:=hc;exact ⟨(h.other _ (by omega)).trans h0,l,t,u,(h.other _ (by omega)).trans h1,(h.other _ (by omega)).trans h2,(h.other _ (by omega)).trans h3⟩
end
theorem X8 (b o:Nat) (T:UG) (C:Array Value) (n:Int) (hc:cellAt C o (U1 U2 n)) :
 Does prog 88 #[.pointer (some ⟨b,o,none⟩)] [pt b T C] (zg b T C o (U1 U2 n) (U1 U2 n)):=by
 intro w hw;obtain ⟨h0,l,t,u,h1,h2,h3⟩:=hc;have T0:=Qh.refl hw;have hb:=T0.blk 0 rfl;have c0:w.cell? ⟨b,o,none⟩=some (U1 U2 n):=(Q8 hb o).trans h0;have c1:w.cell? ⟨b,o+1,none⟩=some (U1 U2 l):=(Q8 hb (o+1)).trans h1;have f1:=X0 hb (o+1);have T1:=Vh T0;have H:=Vh (U6 h0 (U6 h1 (U6 h2 h3)));clear T0 hb hw h0 h1 h2 h3;go_enter func88,ntmps88
 go_wp2
 go_ret
 obtain ⟨h0,h1,h2,h3⟩:=H.out;exact ⟨_,⟨rfl,_,rfl,zp h0 h1 h2 h3⟩,T1.out.set (o+1) _⟩
theorem Dl (b o:Nat) (T:UG) (C:Array Value) (n old new:Int) (hc:cellAt C o (U1 U2 n)) :
 Does prog 248 #[.pointer (some ⟨b,o,none⟩),U1 U2 old,U1 U2 new] [pt b T C] (zg b T C o (U1 U2 (if n=old then new else n)) (.bool (decide (n=old)))):=by
 intro w hw;obtain ⟨h0,l,t,u,h1,h2,h3⟩:=hc;have T0:=Qh.refl hw;have hb:=T0.blk 0 rfl;have c0:w.cell? ⟨b,o,none⟩=some (U1 U2 n):=(Q8 hb o).trans h0;have c2:w.cell? ⟨b,o+2,none⟩=some (U1 U2 t):=(Q8 hb (o+2)).trans h2;have c3:w.cell? ⟨b,o+3,none⟩=some (U1 U2 u):=(Q8 hb (o+3)).trans h3;have f0:=X0 hb o;have f2:=X0 hb (o+2);have f3:=X0 hb (o+3);have T1:=Vh T0;have H:=Vh (U6 h0 (U6 h1 (U6 h2 h3)));clear T0 hb hw h0 h1 h2 h3;by_cases he:n=old
 ·subst he
  skip
  all_goals
   go_enter func248,ntmps248
   go_wp2
   go_ret
   obtain ⟨h0,h1,h2,h3⟩:=H.out;exact ⟨_,⟨by simp,_,rfl,qc4 h0 h1 h2 h3⟩,((T1.out.set (o+2) _).set o _).set (o+3) _⟩
 ·skip
  all_goals
   go_enter func248,ntmps248
   go_wp2
   go_ret
   obtain ⟨h0,h1,h2,h3⟩:=H.out;exact ⟨_,⟨by simp [he],_,rfl,qd h0 h1 h2 h3⟩,T1.out.set (o+2) _⟩
theorem PD (b o:Nat) (T:UG) (C:Array Value) (n v:Int) (ok:Bool) (g:Nat) (aK:Array Value) (F:PH) (hc:cellAt C o (U1 U2 n))
 (eg:∀ args w,(callFunc g args).run prog w=.ok (.enter g args) w)
 (hg:Does prog g (#[U1 U2 n]++aK) F fun e h'=>e=U4 (U5 #[U1 U2 v,.bool ok])/\h'=F) :
 Does prog 210 #[.pointer (some ⟨b,o,none⟩),.func (.func g) #[] aK] (pt b T C::F) fun e h' =>
  e=U4 (U5 #[U1 U2 n,.bool ok])/\∃ C',h'=pt b T C'::F/\Xn C o (U1 U2 (if ok=true then v else n)) C':=by
 intro w hw;have T0:=Vh (Qh.refl hw);have HC:=Vh hc;have HG:=Vh hg;clear hw hc hg;cases ok
 ·go_enter func210,ntmps210
  go_wp2_with (first
   | (go_at_call 88;refine ((X8 b o T C n HC.out).use T0.out (U8 _)).mono ?_
      rintro e w1 ⟨h',⟨rfl,C1,rfl,hr1⟩,T1⟩;have T1:=Vh T1;have HR1:=Vh hr1;clear hr1)
   | (refine (HG.out.use T1.out (U7 (l₁:=[pt b T C1]) (l₂:=F))).mono ?_
      rintro e w2 ⟨h',⟨rfl,rfl⟩,T2⟩;have T2:=Vh T2))
  go_ret2
  exact ⟨_,⟨rfl,C1,rfl,HR1.out⟩,T2.out.perm (U7)⟩
 ·go_enter func210,ntmps210
  go_wp2_with (first
   | (go_at_call 88;refine ((X8 b o T C n HC.out).use T0.out (U8 _)).mono ?_
      rintro e w1 ⟨h',⟨rfl,C1,rfl,hr1⟩,T1⟩;have T1:=Vh T1;have HR1:=Vh hr1;clear hr1)
   | (go_at_call 248;refine ((Dl b o T C1 n n v HR1.out.cell).use T2.out (U7)).mono ?_
      rintro e w3 ⟨h',⟨rfl,C3,rfl,hr3⟩,T3⟩;rw [if_pos rfl] at hr3;have T3:=Vh T3;have HR3:=Vh hr3;clear hr3)
   | (refine (HG.out.use T1.out (U7 (l₁:=[pt b T C1]) (l₂:=F))).mono ?_
      rintro e w2 ⟨h',⟨rfl,rfl⟩,T2⟩;have T2:=Vh T2))
  all_goals go_ret2
  all_goals exact ⟨_,⟨by simp,C3,rfl,HR1.out.trans HR3.out⟩,T3.out⟩
theorem Kh (b o:Nat) (T:UG) (C:Array Value) (n:Int) (hc:cellAt C o (U1 U3 n)) :
 Does prog 100 #[.pointer (some ⟨b,o,none⟩)] [pt b T C] (zg b T C o (U1 U3 n) (U1 U3 n)):=by
 intro w hw;obtain ⟨h0,l,t,u,h1,h2,h3⟩:=hc;have T0:=Qh.refl hw;have hb:=T0.blk 0 rfl;have c0:w.cell? ⟨b,o,none⟩=some (U1 U3 n):=(Q8 hb o).trans h0;have c1:w.cell? ⟨b,o+1,none⟩=some (U1 U2 l):=(Q8 hb (o+1)).trans h1;have f1:=X0 hb (o+1);have T1:=Vh T0;have H:=Vh (U6 h0 (U6 h1 (U6 h2 h3)));clear T0 hb hw h0 h1 h2 h3;go_enter func100,ntmps100
 go_wp2
 go_ret
 obtain ⟨h0,h1,h2,h3⟩:=H.out;exact ⟨_,⟨rfl,_,rfl,zp h0 h1 h2 h3⟩,T1.out.set (o+1) _⟩
theorem JR (b o:Nat) (T:UG) (C:Array Value) (n old new:Int) (hc:cellAt C o (U1 U3 n)) :
 Does prog 260 #[.pointer (some ⟨b,o,none⟩),U1 U3 old,U1 U3 new] [pt b T C] (zg b T C o (U1 U3 (if n=old then new else n)) (.bool (decide (n=old)))):=by
 intro w hw;obtain ⟨h0,l,t,u,h1,h2,h3⟩:=hc;have T0:=Qh.refl hw;have hb:=T0.blk 0 rfl;have c0:w.cell? ⟨b,o,none⟩=some (U1 U3 n):=(Q8 hb o).trans h0;have c2:w.cell? ⟨b,o+2,none⟩=some (U1 U2 t):=(Q8 hb (o+2)).trans h2;have c3:w.cell? ⟨b,o+3,none⟩=some (U1 U2 u):=(Q8 hb (o+3)).trans h3;have f0:=X0 hb o;have f2:=X0 hb (o+2);have f3:=X0 hb (o+3);have T1:=Vh T0;have H:=Vh (U6 h0 (U6 h1 (U6 h2 h3)));clear T0 hb hw h0 h1 h2 h3;by_cases he:n=old
 ·subst he
  skip
  all_goals
   go_enter func260,ntmps260
   go_wp2
   go_ret
   obtain ⟨h0,h1,h2,h3⟩:=H.out;exact ⟨_,⟨by simp,_,rfl,qc4 h0 h1 h2 h3⟩,((T1.out.set (o+2) _).set o _).set (o+3) _⟩
 ·skip
  all_goals
   go_enter func260,ntmps260
   go_wp2
   go_ret
   obtain ⟨h0,h1,h2,h3⟩:=H.out;exact ⟨_,⟨by simp [he],_,rfl,qd h0 h1 h2 h3⟩,T1.out.set (o+2) _⟩
theorem PE (b o:Nat) (T:UG) (C:Array Value) (n v:Int) (ok:Bool) (g:Nat) (aK:Array Value) (F:PH) (hc:cellAt C o (U1 U3 n))
 (eg:∀ args w,(callFunc g args).run prog w=.ok (.enter g args) w)
 (hg:Does prog g (#[U1 U3 n]++aK) F fun e h'=>e=U4 (U5 #[U1 U3 v,.bool ok])/\h'=F) :
 Does prog 249 #[.pointer (some ⟨b,o,none⟩),.func (.func g) #[] aK] (pt b T C::F) fun e h' =>
  e=U4 (U5 #[U1 U3 n,.bool ok])/\∃ C',h'=pt b T C'::F/\Xn C o (U1 U3 (if ok=true then v else n)) C':=by
 intro w hw;have T0:=Vh (Qh.refl hw);have HC:=Vh hc;have HG:=Vh hg;clear hw hc hg;cases ok
 ·go_enter func249,ntmps249
  go_wp2_with (first
   | (go_at_call 100;refine ((Kh b o T C n HC.out).use T0.out (U8 _)).mono ?_
      rintro e w1 ⟨h',⟨rfl,C1,rfl,hr1⟩,T1⟩;have T1:=Vh T1;have HR1:=Vh hr1;clear hr1)
   | (refine (HG.out.use T1.out (U7 (l₁:=[pt b T C1]) (l₂:=F))).mono ?_
      rintro e w2 ⟨h',⟨rfl,rfl⟩,T2⟩;have T2:=Vh T2))
  go_ret2
  exact ⟨_,⟨rfl,C1,rfl,HR1.out⟩,T2.out.perm (U7)⟩
 ·go_enter func249,ntmps249
  go_wp2_with (first
   | (go_at_call 100;refine ((Kh b o T C n HC.out).use T0.out (U8 _)).mono ?_
      rintro e w1 ⟨h',⟨rfl,C1,rfl,hr1⟩,T1⟩;have T1:=Vh T1;have HR1:=Vh hr1;clear hr1)
   | (go_at_call 260;refine ((JR b o T C1 n n v HR1.out.cell).use T2.out (U7)).mono ?_
      rintro e w3 ⟨h',⟨rfl,C3,rfl,hr3⟩,T3⟩;rw [if_pos rfl] at hr3;have T3:=Vh T3;have HR3:=Vh hr3;clear hr3)
   | (refine (HG.out.use T1.out (U7 (l₁:=[pt b T C1]) (l₂:=F))).mono ?_
      rintro e w2 ⟨h',⟨rfl,rfl⟩,T2⟩;have T2:=Vh T2))
  all_goals go_ret2
  all_goals exact ⟨_,⟨by simp,C3,rfl,HR1.out.trans HR3.out⟩,T3.out⟩
structure Rec where
 w:Int
 g:Int
 p:Int
structure Qj where
 recs:List Rec
 count:Int
structure iC where
 p:Int
 next:Int
 aB:Int
 slot:Int
 id:Int
 st:Int
structure nV (r:Rec):Prop where
 w0:0<=r.w
 w1:r.w<18446744073709551616
 ok:okW r.w=true
 g0:0<=r.g
 g1:r.g<=Xv r.w
 p0:0<=r.p
 p1:r.p<18446744073709551616
structure Xh (s:Qj):Prop where
 n0:1<=s.recs.length
 n1:s.recs.length<=64
 c0:0<=s.count
 c1:s.count<=s.recs.length
 recs:∀ r∈s.recs,nV r
structure wE (n:Nat) (q:iC):Prop where
 p0:0<=q.p
 p1:q.p<18446744073709551616
 ig:0<=q.slot
 iG:q.slot<n
 next:q.next=0\/(q.next=1/\0<=q.aB/\q.aB<n)\/q.next=2
def qO (s:Qj) (q:iC):iC:=if (s.recs.length:Int)<=s.count then { q with aB:=s.count,st:=1 } else { q with aB:=s.count,next:=1 }
def pY (s:Qj) (q:iC):Qj × iC:=if s.count=q.aB then ({ s with count:=s.count+1 },{ q with next:=2 }) else (s,{ q with next:=0 })
def Rec.zero:Rec:=⟨0,0,0⟩
def qc6 (s:Qj) (q:iC):Qj × iC :=
 let r:=s.recs.getD q.slot.toNat Rec.zero
 let t:=Xs r.w 1 (decide (0<q.p))
 if t.2=0 then ({ s with recs:=s.recs.set q.slot.toNat ⟨t.1,r.g+1,q.p⟩ },{ q with id:=(r.g+1)*64+q.slot,st:=2 })
 else (s,{ q with slot:=(q.slot+1) % s.recs.length })
def Za (s:Qj) (q:iC):Qj × iC :=
 if q.st≠0 then (s,q) else if q.next=0 then (s,qO s q) else if q.next=1 then pY s q else qc6 s q
def Zx (n:Nat):Qj:=⟨List.replicate n Rec.zero,0⟩
def Qj.has (s:Qj) (k:Int):Prop:=0<=k/\k<s.recs.length
instance (s:Qj) (k:Int):Decidable (s.has k):=by unfold Qj.has;infer_instance
def Qj.period (s:Qj) (k:Int):Int:=if s.has k then (s.recs.getD k.toNat Rec.zero).p else 0
def Qj.word (s:Qj) (k:Int):Int:=if s.has k then (s.recs.getD k.toNat Rec.zero).w else 0
def Qj.jG (s:Qj) (k:Int):Int:=if s.has k then 0 else 4
def Qj.known (s:Qj) (id:Int):Prop:=id % 64<s.recs.length/\1<=id / 64/\id / 64<=(s.recs.getD (id % 64).toNat Rec.zero).g
instance (s:Qj) (k:Int):Decidable (s.known k):=by unfold Qj.known;infer_instance
def Qj.slot (s:Qj) (id:Int):Int:=if s.known id then id % 64 else 0
def Qj.fE (s:Qj) (id:Int):Int:=if s.known id then 0 else 1
def Qj.mine (s:Qj) (id:Int):Bool:=decide (s.known id) && decide ((s.recs.getD (id % 64).toNat Rec.zero).g=id / 64)
def Qj.try (s:Qj) (k old ev:Int):Qj × Int × Int :=
 if s.has k then
  let r:=s.recs.getD k.toNat Rec.zero
  let t:=Xs old ev (decide (0<r.p))
  if t.2≠0 then (s,r.w,t.2) else if r.w=old then ({ s with recs:=s.recs.set k.toNat { r with w:=t.1 } },t.1,0) else (s,r.w,10)
 else (s,0,4)
def Qj.drop (s:Qj):Qj × Int:=if 0<s.count then ({ s with count:=s.count - 1 },0) else (s,6)
theorem Qj.fu {s:Qj} {j:Nat} (h:s.has j):∃ r,s.recs[j]?=some r/\s.recs.getD (j:Int).toNat Rec.zero=r:=by
 have hj:j<s.recs.length:=by unfold Qj.has at h;omega
 exact ⟨s.recs[j],UH hj,by simp [hj]⟩
theorem Qj.eG {s:Qj} {k:Int} (h:s.has k):∃ j:Nat,k=j:=U9 h.1
def recAt (C:Array Value) (i:Nat) (r:Rec):Prop:=cellAt C (i*6) (U1 U3 r.w)/\C[i*6+4]?=some (U1 U3 r.g)/\C[i*6+5]?=some (U1 U3 r.p)
def qA (rs:List Rec):Obj->Prop:=fun o=>∃ C,KE 176 C o/\C.size=rs.length*6/\∀ i r,rs[i]?=some r->recAt C i r
def qR (rb n:Nat) (c:Int):Obj->Prop:=fun o=>∃ C,KE 163 C o/\C.size=5/\C[0]?=some (.slice (some ⟨rb,0,none⟩) n n)/\cellAt C 1 (U1 U2 c)
def zf (sb rb:Nat) (s:Qj):PH:=[(sb,qR rb s.recs.length s.count),(rb,qA s.recs)]
def nZ (sb:Nat) (q:iC):Array Value:=#[.pointer (some ⟨sb,0,none⟩),U1 U3 q.p,U1 U2 q.next,U1 U2 q.aB,U1 U2 q.slot,U1 U3 q.id,U1 U2 q.st]
def mf (qb sb:Nat) (q:iC):Piece:=pt qb 292 (nZ sb q)
theorem O3 {C C':Array Value} {i j:Nat} {r:Rec} {n:Int} (h:recAt C j r) (hc:Xn C (i*6) (U1 U3 n) C'):recAt C' j (if j=i then { r with w:=n } else r):=by
 obtain ⟨h0,h1,h2⟩:=h;by_cases e:j=i
 ·subst e
  rw [if_pos rfl];exact ⟨hc.cell,(hc.other _ (by omega)).trans h1,(hc.other _ (by omega)).trans h2⟩
 ·rw [if_neg e]
  exact ⟨hc.bT h0 (by omega),(hc.other _ (by omega)).trans h1,(hc.other _ (by omega)).trans h2⟩
theorem qc5 {rs:List Rec} {C C':Array Value} {i:Nat} {r:Rec} {n:Int} (hs:C.size=rs.length*6) (h:∀ i r,rs[i]?=some r->recAt C i r) (hr:rs[i]?=some r) (hc:Xn C (i*6) (U1 U3 n) C') :
 C'.size=(rs.set i { r with w:=n }).length*6/\∀ j x,(rs.set i { r with w:=n })[j]?=some x->recAt C' j x:=by
 refine ⟨by rw [hc.size,hs,UE],fun j x hx=>?_⟩
 rw [UD] at hx;by_cases e:i=j
 ·subst e
  rw [if_pos rfl] at hx;split at hx
  ·cases hx;have:=O3 (h i r hr) hc;rwa [if_pos rfl] at this
  ·cases hx
 ·rw [if_neg e] at hx
  have:=O3 (h j x hx) hc;rwa [if_neg (fun x=>e x.symm)] at this
theorem KB {rs:List Rec} {C C':Array Value} {i:Nat} {r:Rec} (hs:C.size=rs.length*6) (h:∀ i r,rs[i]?=some r->recAt C i r) (hr:rs[i]?=some r) (hc:Xn C (i*6) (U1 U3 r.w) C') :
 C'.size=rs.length*6/\∀ j x,rs[j]?=some x->recAt C' j x:=by
 have:=qc5 hs h hr hc
 have e:rs.set i { r with w:=r.w }=rs:=by
  apply List.ext_getElem? ;intro k;rw [UD];split
  ·next e=>subst e;split
           ·rw [hr]
           ·rename_i hn;exact absurd (UC.1 hr).1 hn
  ·rfl
 rwa [e] at this
theorem qtp {C:Array Value} {i:Nat} {r:Rec} (h:recAt C i r) (n:Int):recAt (C.setIfInBounds (i*6+4) (U1 U3 n)) i { r with g:=n }:=by
 obtain ⟨⟨h0,l,t,u,a,b,c⟩,h1,h2⟩:=h;exact ⟨⟨(Qc (by omega)).trans h0,l,t,u,(Qc (by omega)).trans a,(Qc (by omega)).trans b,(Qc (by omega)).trans c⟩,Xe h1,(Qc (by omega)).trans h2⟩
theorem qtq {C:Array Value} {i:Nat} {r:Rec} (h:recAt C i r) (n:Int):recAt (C.setIfInBounds (i*6+5) (U1 U3 n)) i { r with p:=n }:=by
 obtain ⟨⟨h0,l,t,u,a,b,c⟩,h1,h2⟩:=h;exact ⟨⟨(Qc (by omega)).trans h0,l,t,u,(Qc (by omega)).trans a,(Qc (by omega)).trans b,(Qc (by omega)).trans c⟩,(Qc (by omega)).trans h1,Xe h2⟩
theorem P6 {C:Array Value} {i j k:Nat} {r:Rec} {v:Value} (h:recAt C i r) (hk:j*6<=k/\k<j*6+6) (hij:i≠j):recAt (C.setIfInBounds k v) i r:=by
 obtain ⟨⟨h0,l,t,u,a,b,c⟩,h1,h2⟩:=h;exact ⟨⟨(Qc (by omega)).trans h0,l,t,u,(Qc (by omega)).trans a,(Qc (by omega)).trans b,(Qc (by omega)).trans c⟩,(Qc (by omega)).trans h1,(Qc (by omega)).trans h2⟩
theorem qtr {rs:List Rec} {C C':Array Value} {i:Nat} {r:Rec} {n g p:Int} (hs:C.size=rs.length*6) (h:∀ i r,rs[i]?=some r->recAt C i r) (hr:rs[i]?=some r) (hc:Xn C (i*6) (U1 U3 n) C') :
 ((C'.setIfInBounds (i*6+4) (U1 U3 g)).setIfInBounds (i*6+5) (U1 U3 p)).size=(rs.set i ⟨n,g,p⟩).length*6 /\
   ∀ j x,(rs.set i ⟨n,g,p⟩)[j]?=some x->recAt ((C'.setIfInBounds (i*6+4) (U1 U3 g)).setIfInBounds (i*6+5) (U1 U3 p)) j x:=by
 obtain ⟨k1,k2⟩:=qc5 hs h hr hc;refine ⟨by rw [UI,UI,k1,UE,UE],fun j x hx=>?_⟩
 have hi:=(UC.1 hr).1;rw [UD] at hx;by_cases e:i=j
 ·subst e
  rw [if_pos rfl,if_pos hi] at hx;cases hx
  have:=k2 i _ (by rw [UD,if_pos rfl,if_pos hi]);exact qtq (qtp this g) p
 ·rw [if_neg e] at hx
  have:=k2 j x (by rw [UD,if_neg e];exact hx);exact P6 (j:=i) (P6 (j:=i) this ⟨by omega,by omega⟩ (fun x=>e x.symm)) ⟨by omega,by omega⟩ (fun x=>e x.symm)
theorem Yj {C C':Array Value} {rb n:Nat} {c:Int} (hs:C.size=5) (h0:C[0]?=some (.slice (some ⟨rb,0,none⟩) n n)) (hc:Xn C 1 (U1 U2 c) C'):qR rb n c (.cells C' 163 (0,0)) :=
 ⟨C',rfl,hc.size.trans hs,(hc.other 0 (by omega)).trans h0,hc.cell⟩
theorem qwj (qb sb rb:Nat) (s:Qj) (q:iC) :
 Does prog 214 #[.pointer (some ⟨qb,0,none⟩)] (mf qb sb q::zf sb rb s) fun e h'=>e=U4 (U5 #[])/\h'=mf qb sb (qO s q)::zf sb rb s:=by
 intro w hw;obtain ⟨o,⟨C,rfl,hs,h0,hc⟩,T0⟩:=(Qh.refl hw).dR 1 rfl;have q0:=Q8 (T0.blk 0 rfl);have hne:qb≠sb:=T0.ne 0 1 rfl rfl (by decide);simp only [nZ] at q0;have HT:=Vh T0;have HC:=Vh (U6 hs (U6 h0 hc));clear hw hs h0 hc T0;by_cases hk:(s.recs.length:Int)<=s.count
 ·skip
  have HK:=Vh (show qO s q=_ from if_pos hk);go_enter func214,ntmps214
  go_wp2_with (
   go_at_call 88
   refine ((X8 sb 1 _ C s.count HC.out.2.2).at HT.out 1 rfl).mono ?_
   rintro e w1 ⟨h',⟨rfl,C1,rfl,hr1⟩,Ta⟩;have T1:=Ta _ rfl;clear Ta;have q1:=Q8 (T1.blk 0 rfl);have qf:=X0 (T1.blk 0 rfl);simp only [nZ] at q1;have s1:=(Q8 (T1.blk 1 rfl) 0).trans ((hr1.other 0 (by omega)).trans HC.out.2.1);have HR1:=Vh hr1;have HT1:=Vh T1
   clear hr1 T1 q0)
  go_region
  go_wp2
  refine bodyPost_ret (UF rfl _ _ _) rfl ⟨_,⟨rfl,?_⟩,(((HT1.out.setAt 0 rfl 3 _).drew).setAt 0 rfl 6 _).dD 1 rfl _ (fun o ho=>by cases ho;exact Yj HC.out.1 HC.out.2.1 HR1.out)⟩
  rw [HK.out];rfl
 ·skip
  have HK:=Vh (show qO s q=_ from if_neg hk);go_enter func214,ntmps214
  go_wp2_with (
   go_at_call 88
   refine ((X8 sb 1 _ C s.count HC.out.2.2).at HT.out 1 rfl).mono ?_
   rintro e w1 ⟨h',⟨rfl,C1,rfl,hr1⟩,Ta⟩;have T1:=Ta _ rfl;clear Ta;have q1:=Q8 (T1.blk 0 rfl);have qf:=X0 (T1.blk 0 rfl);simp only [nZ] at q1;have s1:=(Q8 (T1.blk 1 rfl) 0).trans ((hr1.other 0 (by omega)).trans HC.out.2.1);have HR1:=Vh hr1;have HT1:=Vh T1
   clear hr1 T1 q0)
  go_region
  go_wp2
  refine UJ (UF rfl _ _ _) rfl ⟨_,⟨rfl,?_⟩,(((HT1.out.setAt 0 rfl 3 _).drew).setAt 0 rfl 2 _).dD 1 rfl _ (fun o ho=>by cases ho;exact Yj HC.out.1 HC.out.2.1 HR1.out)⟩
  rw [HK.out];rfl
theorem qwn (qb sb rb:Nat) (s:Qj) (q:iC) (b0:0<=q.aB) (b1:q.aB<64) :
 Does prog 215 #[.pointer (some ⟨qb,0,none⟩)] (mf qb sb q::zf sb rb s) fun e h'=>e=U4 (U5 #[])/\h'=mf qb sb (pY s q).2::zf sb rb (pY s q).1:=by
 intro w hw;obtain ⟨o,⟨C,rfl,hs,h0,hc⟩,T0⟩:=(Qh.refl hw).dR 1 rfl;have q0:=Q8 (T0.blk 0 rfl);have qf0:=X0 (T0.blk 0 rfl);have hne:qb≠sb:=T0.ne 0 1 rfl rfl (by decide);simp only [nZ] at q0;have HT:=Vh T0;have HC:=Vh (U6 hs (U6 h0 hc));clear hw hs h0 hc T0;have hwr:wrap64 (q.aB+1)=q.aB+1:=by unfold wrap64;omega
 by_cases hk:s.count=q.aB
 ·have HK:=Vh (show pY s q=_ from if_pos hk)
  go_enter func215,ntmps215
  go_wp2
  go_region_held3 (fun w'=>w'.cell? ⟨qb,0,none⟩=some (.pointer (some ⟨sb,0,none⟩))/\w'.cell? ⟨qb,3,none⟩=some (U1 U2 q.aB)) (first | exact ⟨(HT.out.setAt 0 rfl 2 _).drew.cell 0 rfl 0,(HT.out.setAt 0 rfl 2 _).drew.cell 0 rfl 3⟩ | exact ⟨q1 0,q1 3⟩) ((
   go_at_call 248
   rw [q5z (q.aB+1) (by omega) (by omega)];refine ((Dl sb 1 _ C s.count q.aB (q.aB+1) HC.out.2.2).at (HT.out.setAt 0 rfl 2 _).drew 1 rfl).mono ?_
   rintro e w1 ⟨h',⟨rfl,C1,rfl,hr1⟩,Ta⟩;have T1:=Ta _ rfl;clear Ta;have q1:=Q8 (T1.blk 0 rfl);have qf:=X0 (T1.blk 0 rfl);rw [if_pos hk] at hr1;have HR1:=Vh hr1;have HT1:=Vh T1
   clear hr1 T1 q0))
  go_wp2
  refine UJ (UF rfl _ _ _) rfl ⟨_,⟨rfl,?_⟩,(HT1.out.setAt 0 rfl 2 _).dD 1 rfl _ (fun o ho=>by cases ho;exact Yj HC.out.1 HC.out.2.1 HR1.out)⟩
  rw [HK.out,hk];rfl
 ·have HK:=Vh (show pY s q=_ from if_neg hk)
  go_enter func215,ntmps215
  go_wp2
  go_region_held3 (fun w'=>w'.cell? ⟨qb,0,none⟩=some (.pointer (some ⟨sb,0,none⟩))/\w'.cell? ⟨qb,3,none⟩=some (U1 U2 q.aB)) (first | exact ⟨(HT.out.setAt 0 rfl 2 _).drew.cell 0 rfl 0,(HT.out.setAt 0 rfl 2 _).drew.cell 0 rfl 3⟩ | exact ⟨q1 0,q1 3⟩) ((
   go_at_call 248
   rw [q5z (q.aB+1) (by omega) (by omega)];refine ((Dl sb 1 _ C s.count q.aB (q.aB+1) HC.out.2.2).at (HT.out.setAt 0 rfl 2 _).drew 1 rfl).mono ?_
   rintro e w1 ⟨h',⟨rfl,C1,rfl,hr1⟩,Ta⟩;have T1:=Ta _ rfl;clear Ta;have q1:=Q8 (T1.blk 0 rfl);have qf:=X0 (T1.blk 0 rfl);rw [if_neg hk] at hr1;have HR1:=Vh hr1;have HT1:=Vh T1
   clear hr1 T1 q0))
  go_wp2
  refine UJ (UF rfl _ _ _) rfl ⟨_,⟨rfl,?_⟩,HT1.out.dD 1 rfl _ (fun o ho=>by cases ho;exact Yj HC.out.1 HC.out.2.1 HR1.out)⟩
  rw [HK.out];rfl
theorem P7 (xb qb sb:Nat) (q:iC) (n:Int) (h0:0<=n) (h1:n<18446744073709551616) :
 Does prog 250 #[U1 U3 n,.pointer (some ⟨xb,0,none⟩)] [pt xb 146 #[.pointer (some ⟨qb,0,none⟩)],mf qb sb q] fun e h' =>
  e=U4 (U5 #[U1 U3 (Xs n 1 (decide (0<q.p))).1,.bool ((Xs n 1 (decide (0<q.p))).2 == 0)])/\h'=[pt xb 146 #[.pointer (some ⟨qb,0,none⟩)],mf qb sb q]:=by
 intro w hw;have T0:=Qh.refl hw;have x0:=T0.cell 0 rfl 0;have q0:=T0.cell 1 (show _=some (pt qb _ _) from rfl) 1;simp [nZ] at x0 q0
 have HT:=Vh T0;clear hw T0;go_enter func250,ntmps250
 go_wp2_with (
  go_at_call 225
  refine (Fx _ _ _ _ h0 h1).mono ?_
  rintro e w1 ⟨rfl,rfl⟩)
 all_goals go_ret2
 all_goals exact ⟨_,⟨by simp_all,rfl⟩,HT.out⟩
theorem qxk (qb sb rb:Nat) (s:Qj) (q:iC) (k:Nat) (r:Rec) (hk:q.slot=k) (hr:s.recs[k]?=some r) (ho:nV r) (hn:s.recs.length<=64) :
 Does prog 216 #[.pointer (some ⟨qb,0,none⟩)] (mf qb sb q::zf sb rb s) fun e h'=>e=U4 (U5 #[])/\h'=mf qb sb (qc6 s q).2::zf sb rb (qc6 s q).1:=by
 intro w hw;obtain ⟨o,⟨C,rfl,hs,h0,hc⟩,T0⟩:=(Qh.refl hw).dR 1 rfl;obtain ⟨o,⟨D,rfl,hd,hD⟩,T0⟩:=T0.dR 2 rfl;have q0:=T0.cell 0 (show _=some (pt qb _ _) from rfl);have s0:w.cell? ⟨sb,0,none⟩=_:=(T0.cell 1 (show _=some (pt sb _ _) from rfl) 0).trans h0;have iE:qb≠sb:=T0.ne 0 1 rfl rfl (by decide);have hqr:qb≠rb:=T0.ne 0 2 rfl rfl (by decide);have hkl:=(UC.1 hr).1;simp only [nZ] at q0;have HT:=Vh T0;have HC:=Vh (U6 hs (U6 h0 hc));have HD:=Vh (U6 hd hD);have HR:=Vh hr;have HO:=Vh ho;have hlq:=T0.lt 0 (show _=some (pt qb _ _) from rfl);have hls:=T0.lt 1 (show _=some (pt sb _ _) from rfl);simp only [] at hlq hls;clear hw hs h0 hc T0 hd hD hr ho;obtain ⟨v,hv⟩:∃ v,Xs r.w 1 (decide (0<q.p))=v:=⟨_,rfl⟩;obtain ⟨n1,e1⟩:=v;have HV:=Vh hv;clear hv;rw [hk] at q0
 have hperm:∀ (b x:Piece) (D':Array Value),[b,x,(sb,fun o=>o=Obj.cells C 163 (0,0)),pt rb 176 D'].Perm ((pt rb 176 D'::[b,x])++[(sb,fun o=>o=Obj.cells C 163 (0,0))]) :=
  fun b x D'=>(Dh 3 rfl rfl)
 obtain ⟨hg0,hg1⟩:0<=r.g/\r.g<=4294967295:=⟨HO.out.g0,UN HO.out.g1 (sS _ HO.out.w0 HO.out.ok).2.2.2⟩;by_cases he:e1=0
 ·subst he
  have HK:=Vh (show qc6 s q=({ s with recs:=s.recs.set k ⟨n1,r.g+1,q.p⟩ },{ q with id:=(r.g+1)*64+q.slot,st:=2 }) from by
   unfold qc6;simp only [hk,UK,UA,HR.out,UL,HV.out];rfl)
  go_enter func216,ntmps216
  go_wp2
  go_region
  go_wp2_with (
   go_at_call 249
   refine ((PE rb (k*6) 176 D r.w n1 true 250 #[.pointer (some ⟨w.heap.size,0,none⟩)] [pt w.heap.size 146 #[.pointer (some ⟨qb,0,none⟩)],mf qb sb q]
    (HD.out.2 k r HR.out).1 (enters_of func250 (by kernel_rfl) rfl)
    ((P7 w.heap.size qb sb q r.w HO.out.w0 HO.out.w1).mono (fun e h' hh=>by rw [HV.out] at hh;exact hh))).use (HT.out.alloc rfl _ _).drew (hperm _ _ _)).mono ?_
   rintro e w1 ⟨h',⟨rfl,D1,rfl,hr1⟩,T1⟩;have q1:=T1.cell 2 (show _=some (pt qb _ _) from rfl);have x1:=T1.cell 1 (show _=some (pt w.heap.size _ _) from rfl);have s1:w1.cell? ⟨sb,0,none⟩=_:=(T1.cell 3 (show _=some (pt sb _ _) from rfl) 0).trans HC.out.2.1;have g1:=(T1.cell 0 (show _=some (pt rb _ _) from rfl) (k*6+4)).trans ((hr1.other (k*6+4) (by omega)).trans (HD.out.2 k r HR.out).2.1);have p1:=(T1.cell 0 (show _=some (pt rb _ _) from rfl) (k*6+5)).trans ((hr1.other (k*6+5) (by omega)).trans (HD.out.2 k r HR.out).2.2);have f1:=T1.free 0 (show _=some (pt rb _ _) from rfl);have f2:=T1.free 2 (show _=some (pt qb _ _) from rfl);simp only [nZ,hk] at q1;have HR1:=Vh hr1;have HT1:=Vh T1
   clear hr1 T1)
  go_region
  go_wp2
  refine UJ (UF rfl _ _ _) rfl ⟨_,⟨rfl,?_⟩,Qh.drop1 (((((((HT1.out.setAt 0 rfl (k*6+4) _).setAt 0 rfl (k*6+5) _).setAt 2 rfl 5 _).setAt 2 rfl 6 _).drew.dD 0 rfl
   (qA (s.recs.set k ⟨n1,r.g+1,q.p⟩)) ?_).dD 3 rfl (qR rb (s.recs.set k ⟨n1,r.g+1,q.p⟩).length s.count) ?_).perm (U7 (l₁:=[_]) (l₂:=[_,_,_])))⟩
  ·rw [HK.out,<- hk];rfl
  ·intro o ho;cases ho
   exact ⟨_,rfl,qtr HD.out.1 HD.out.2 HR.out HR1.out⟩
  ·intro o ho;cases ho;rw [UE];exact ⟨C,rfl,HC.out⟩
 ·have HK:=Vh (show qc6 s q=(s,{ q with slot:=(q.slot+1) % s.recs.length }) from by
   unfold qc6;simp only [hk,UK,UA,HR.out,UL,HV.out];exact if_neg he)
  go_enter func216,ntmps216
  go_wp2
  go_region
  go_wp2_with (
   go_at_call 249
   refine ((PE rb (k*6) 176 D r.w n1 false 250 #[.pointer (some ⟨w.heap.size,0,none⟩)] [pt w.heap.size 146 #[.pointer (some ⟨qb,0,none⟩)],mf qb sb q]
    (HD.out.2 k r HR.out).1 (enters_of func250 (by kernel_rfl) rfl)
    ((P7 w.heap.size qb sb q r.w HO.out.w0 HO.out.w1).mono (fun e h' hh=>by rw [HV.out,show ((e1 == 0)=false) from by simpa using he] at hh;exact hh))).use (HT.out.alloc rfl _ _).drew (hperm _ _ _)).mono ?_
   rintro e w1 ⟨h',⟨rfl,D1,rfl,hr1⟩,T1⟩;have q1:=T1.cell 2 (show _=some (pt qb _ _) from rfl);have x1:=T1.cell 1 (show _=some (pt w.heap.size _ _) from rfl);have s1:w1.cell? ⟨sb,0,none⟩=_:=(T1.cell 3 (show _=some (pt sb _ _) from rfl) 0).trans HC.out.2.1;have g1:=(T1.cell 0 (show _=some (pt rb _ _) from rfl) (k*6+4)).trans ((hr1.other (k*6+4) (by omega)).trans (HD.out.2 k r HR.out).2.1);have p1:=(T1.cell 0 (show _=some (pt rb _ _) from rfl) (k*6+5)).trans ((hr1.other (k*6+5) (by omega)).trans (HD.out.2 k r HR.out).2.2);have f1:=T1.free 0 (show _=some (pt rb _ _) from rfl);have f2:=T1.free 2 (show _=some (pt qb _ _) from rfl);simp only [nZ,hk] at q1;have HR1:=Vh hr1;have HT1:=Vh T1
   clear hr1 T1)
  go_region
  go_wp2
  refine bodyPost_ret (UF rfl _ _ _) rfl ⟨_,⟨rfl,?_⟩,Qh.drop1 (((((HT1.out.setAt 2 rfl 4 _).drew.dD 0 rfl
   (qA s.recs) ?_).dD 3 rfl (qR rb s.recs.length s.count) ?_).perm (U7 (l₁:=[_]) (l₂:=[_,_,_]))))⟩
  ·rw [HK.out,hk];rfl
  ·intro o ho;cases ho
   exact ⟨_,rfl,KB HD.out.1 HD.out.2 HR.out HR1.out⟩
  ·intro o ho;cases ho;exact ⟨C,rfl,HC.out⟩
def vg (rb n:Nat) (k:Int):Value:=if 0<=k/\k<n then .pointer (some ⟨rb,k.toNat*6,none⟩) else UB none
theorem Lj (rb:Nat) {s:Qj} {j:Nat} (h:s.has j):vg rb s.recs.length j=.pointer (some ⟨rb,j*6,none⟩):=(if_pos h).trans (by simp)
theorem Sq (rb:Nat) {s:Qj} {k:Int} (h:¬ s.has k):vg rb s.recs.length k=UB none:=if_neg h
theorem Jm (sb rb n:Nat) (c:Int) (k:Int) (hn:n<=64) :
 Does prog 99 #[.pointer (some ⟨sb,0,none⟩),U1 U2 k] [(sb,qR rb n c)] fun e h'=>e=U4 (vg rb n k)/\h'=[(sb,qR rb n c)]:=by
 intro w hw;obtain ⟨o,⟨C,rfl,hs,h0,hc⟩,T0⟩:=(Qh.refl hw).dR 0 rfl;have s0:w.cell? ⟨sb,0,none⟩=_:=(T0.cell 0 (show _=some (pt sb _ _) from rfl) 0).trans h0;have HT:=Vh (T0.dD 0 rfl (qR rb n c) (fun o ho=>by cases ho;exact ⟨C,rfl,hs,h0,hc⟩));clear hw hs h0 hc T0;by_cases h1:0<=k
 ·obtain ⟨j,rfl⟩:=U9 h1
  by_cases h2:j<n
  ·have HV:=Vh (show vg rb n (j:Int)=.pointer (some ⟨rb,j*6,none⟩) from by unfold vg;rw [if_pos ⟨h1,by omega⟩];simp)
   go_enter func99,ntmps99
   go_wp2
   all_goals go_ret
   all_goals exact ⟨_,⟨by rw [HV.out];rfl,rfl⟩,HT.out⟩
  ·have HV:=Vh (show vg rb n (j:Int)=UB none from by unfold vg;rw [if_neg (by omega)])
   go_enter func99,ntmps99
   go_wp2
   all_goals go_ret
   all_goals exact ⟨_,⟨by rw [HV.out];rfl,rfl⟩,HT.out⟩
 ·have HV:=Vh (show vg rb n k=UB none from by unfold vg;rw [if_neg (by omega)])
  go_enter func99,ntmps99
  go_wp2
  all_goals go_ret
  all_goals exact ⟨_,⟨by rw [HV.out];rfl,rfl⟩,HT.out⟩
theorem qts (qb sb:Nat) (q:iC) :
 Does prog 183 #[.pointer (some ⟨qb,0,none⟩)] [mf qb sb q] fun e h' =>
  e=U4 (U5 #[U1 U3 (if q.st=2 then q.id else 0),U1 U2 (if q.st=2 then 0 else 7)])/\h'=[mf qb sb q]:=by
 intro w hw;have T0:=Qh.refl hw;have q0:=T0.cell 0 (show _=some (pt qb _ _) from rfl);simp only [nZ] at q0;have HT:=Vh T0;clear hw T0;by_cases h2:q.st=2
 all_goals
  go_enter func183,ntmps183
  go_wp2
  all_goals go_ret2
  all_goals exact ⟨_,⟨by simp [h2],rfl⟩,HT.out⟩
theorem qii (sb:Nat) (p:Int) :
 Does prog 141 #[.pointer (some ⟨sb,0,none⟩),U1 U3 p] [] fun e h' =>
  ∃ qb,e=U4 (.pointer (some ⟨qb,0,none⟩))/\h'=[mf qb sb ⟨p,0,0,0,0,0⟩]:=by
 intro w hw;have HT:=Vh (Qh.refl hw);clear hw;go_enter func141,ntmps141
 go_wp2
 go_ret
 exact ⟨_,⟨_,rfl,rfl⟩,HT.out.alloc rfl _ _⟩
theorem qq (sb rb:Nat) (s:Qj) (k:Int) (hn:s.recs.length<=64) :
 Does prog 38 #[.pointer (some ⟨sb,0,none⟩),U1 U2 k] (zf sb rb s) fun e h' =>
  e=U4 (U5 #[U1 U3 (s.word k),U1 U2 (s.jG k)])/\h'=zf sb rb s:=by
 intro w hw;have HT:=Vh (Qh.refl hw);clear hw;by_cases h:s.has k
 ·obtain ⟨j,rfl⟩:=Qj.eG h
  obtain ⟨r,hr,hrd⟩:=Qj.fu h;have HV:=Vh (Lj rb h);have HP:=Vh (show s.word j=r.w/\s.jG j=0 from ⟨by unfold Qj.word;rw [if_pos h,hrd],if_pos h⟩);clear hrd h;have HR:=Vh hr;clear hr;go_enter func38,ntmps38
  go_wp2_with (first
   | (go_at_call 99
      refine ((Jm sb rb s.recs.length s.count j hn).at HT.out 0 rfl).mono ?_
      rintro e w1 ⟨h',⟨he,rfl⟩,Ta⟩;rw [HV.out] at he;subst he;obtain ⟨o,⟨D,rfl,hd,hD⟩,T1⟩:=(Ta _ rfl).dR 1 rfl;have HD:=Vh (U6 hd hD);have HT1:=Vh T1
      clear T1 hd hD Ta)
   | (go_at_call 100
      refine ((Kh rb (j*6) _ D r.w (HD.out.2 j r HR.out).1).at HT1.out 1 rfl).mono ?_
      rintro e w2 ⟨h',⟨rfl,C1,rfl,hr1⟩,Ta⟩;have HR1:=Vh hr1;have HT2:=Vh ((Ta _ rfl).dD 1 rfl (qA s.recs) (fun o ho=>by cases ho;exact ⟨C1,rfl,KB HD.out.1 HD.out.2 HR.out HR1.out⟩))
      clear Ta hr1))
  go_ret2
  exact ⟨_,⟨by rw [HP.out.1,HP.out.2];rfl,rfl⟩,HT2.out⟩
 ·have HV:=Vh (Sq rb h)
  have HP:=Vh (show s.word k=0/\s.jG k=4 from ⟨if_neg h,if_neg h⟩);clear h;go_enter func38,ntmps38
  go_wp2_with (
   go_at_call 99
   refine ((Jm sb rb s.recs.length s.count k hn).at HT.out 0 rfl).mono ?_
   rintro e w1 ⟨h',⟨he,rfl⟩,Ta⟩;rw [HV.out] at he;subst he;have HT1:=Vh (Ta _ rfl)
   clear Ta)
  go_ret2
  exact ⟨_,⟨by rw [HP.out.1,HP.out.2];rfl,rfl⟩,HT1.out⟩
theorem Qj.sD {s:Qj} {id:Int} (h0:0<=id) (h:s.known id):∃ (j:Nat) (r:Rec),id % 64=j/\s.recs[j]?=some r/\1<=id / 64/\id / 64<=r.g/\s.has j/\s.recs.getD (id % 64).toNat Rec.zero=r:=by
 have h1:0<=id % 64:=by omega
 have hh:s.has (id % 64):=⟨h1,h.1⟩;obtain ⟨j,hj⟩:=Qj.eG hh;rw [hj] at hh;obtain ⟨r,hr,hg⟩:=Qj.fu hh;rw [<- hj] at hg;have h3:=h.2.2;rw [hg] at h3;exact ⟨j,r,hj,hr,h.2.1,h3,hh,hg⟩
theorem JL (sb rb:Nat) (s:Qj) (id:Int) (hn:s.recs.length<=64) (h0:0<=id) (h1:id<18446744073709551616) :
 Does prog 223 #[.pointer (some ⟨sb,0,none⟩),U1 U3 id] (zf sb rb s) fun e h' =>
  e=U4 (U5 #[U1 U2 (s.slot id),U1 U2 (s.fE id)])/\h'=zf sb rb s:=by
 intro w hw;have HT:=Vh (Qh.refl hw);clear hw;have hm0:0<=id % 64:=by omega
 obtain ⟨j,hj⟩:=U9 hm0;by_cases hh:s.has (j:Int)
 ·obtain ⟨r,hr,hg⟩:=Qj.fu hh
  have HV:=Vh (Lj rb hh);have HR:=Vh hr
  have hkn:s.known id↔1<=id / 64/\id / 64<=r.g:=by
   unfold Qj.known;rw [hj,hg];exact ⟨fun x=>x.2,fun x=>⟨hh.2,x⟩⟩
  by_cases hk:1<=id / 64/\id / 64<=r.g
  ·have HP:=Vh (show s.slot id=j/\s.fE id=0 from ⟨(if_pos (hkn.2 hk)).trans hj,if_pos (hkn.2 hk)⟩)
   obtain ⟨k1,k2⟩:=hk;clear hh hr hg hkn;go_enter func223,ntmps223
   go_wp2_with (
    go_at_call 99
    refine ((Jm sb rb s.recs.length s.count _ hn).at HT.out 0 rfl).mono ?_
    rintro e w1 ⟨h',⟨he,rfl⟩,Ta⟩;rw [HV.out] at he;subst he;obtain ⟨o,⟨D,rfl,hd,hD⟩,T1⟩:=(Ta _ rfl).dR 1 rfl;have d1:w1.cell? ⟨rb,j*6+4,none⟩=_:=(T1.cell 1 (show _=some (pt rb _ _) from rfl) _).trans (hD j r HR.out).2.1;have HT1:=Vh (T1.dD 1 rfl (qA s.recs) (fun o ho=>by cases ho;exact ⟨D,rfl,hd,hD⟩))
    clear T1 hd hD Ta)
   all_goals go_ret2
   all_goals exact ⟨_,⟨by rw [HP.out.1,HP.out.2,<- hj];rfl,rfl⟩,HT1.out⟩
  ·have HP:=Vh (show s.slot id=0/\s.fE id=1 from ⟨if_neg (fun x=>hk (hkn.1 x)),if_neg (fun x=>hk (hkn.1 x))⟩)
   clear hh hr hg hkn;by_cases k1:1<=id / 64
   ·have k2:¬ id / 64<=r.g:=fun x=>hk ⟨k1,x⟩
    clear hk;go_enter func223,ntmps223
    go_wp2_with (
     go_at_call 99
     refine ((Jm sb rb s.recs.length s.count _ hn).at HT.out 0 rfl).mono ?_
     rintro e w1 ⟨h',⟨he,rfl⟩,Ta⟩;rw [HV.out] at he;subst he;obtain ⟨o,⟨D,rfl,hd,hD⟩,T1⟩:=(Ta _ rfl).dR 1 rfl;have d1:w1.cell? ⟨rb,j*6+4,none⟩=_:=(T1.cell 1 (show _=some (pt rb _ _) from rfl) _).trans (hD j r HR.out).2.1;have HT1:=Vh (T1.dD 1 rfl (qA s.recs) (fun o ho=>by cases ho;exact ⟨D,rfl,hd,hD⟩))
     clear T1 hd hD Ta)
    all_goals go_ret2
    all_goals exact ⟨_,⟨by rw [HP.out.1,HP.out.2];rfl,rfl⟩,HT1.out⟩
   ·clear hk
    go_enter func223,ntmps223
    go_wp2_with (
     go_at_call 99
     refine ((Jm sb rb s.recs.length s.count _ hn).at HT.out 0 rfl).mono ?_
     rintro e w1 ⟨h',⟨he,rfl⟩,Ta⟩;rw [HV.out] at he;subst he;obtain ⟨o,⟨D,rfl,hd,hD⟩,T1⟩:=(Ta _ rfl).dR 1 rfl;have d1:w1.cell? ⟨rb,j*6+4,none⟩=_:=(T1.cell 1 (show _=some (pt rb _ _) from rfl) _).trans (hD j r HR.out).2.1;have HT1:=Vh (T1.dD 1 rfl (qA s.recs) (fun o ho=>by cases ho;exact ⟨D,rfl,hd,hD⟩))
     clear T1 hd hD Ta)
    all_goals go_ret2
    all_goals exact ⟨_,⟨by rw [HP.out.1,HP.out.2];rfl,rfl⟩,HT1.out⟩
 ·have HV:=Vh (Sq rb hh)
  have HP:=Vh (show s.slot id=0/\s.fE id=1 from ⟨if_neg (fun x=>hh (by rw [<- hj];exact ⟨hm0,x.1⟩)),if_neg (fun x=>hh (by rw [<- hj];exact ⟨hm0,x.1⟩))⟩);clear hh;go_enter func223,ntmps223
  go_wp2_with (
   go_at_call 99
   refine ((Jm sb rb s.recs.length s.count _ hn).at HT.out 0 rfl).mono ?_
   rintro e w1 ⟨h',⟨he,rfl⟩,Ta⟩;rw [HV.out] at he;subst he;have HT1:=Vh (Ta _ rfl)
   clear Ta)
  all_goals go_ret2
  all_goals exact ⟨_,⟨by rw [HP.out.1,HP.out.2];rfl,rfl⟩,HT1.out⟩
theorem qk2 (sb rb:Nat) (s:Qj) (id:Int) (hn:s.recs.length<=64) (h0:0<=id) (h1:id<18446744073709551616) :
 Does prog 224 #[.pointer (some ⟨sb,0,none⟩),U1 U3 id] (zf sb rb s) fun e h' =>
  e=U4 (.bool (s.mine id))/\h'=zf sb rb s:=by
 intro w hw;have HT:=Vh (Qh.refl hw);clear hw;by_cases hk:s.known id
 ·obtain ⟨j,r,hj,hr,k1,k2,hh,hg⟩:=Qj.sD h0 hk
  have HP:=Vh (show s.slot id=j/\s.fE id=0/\s.mine id=decide (r.g=id / 64) from ⟨(if_pos hk).trans hj,if_pos hk,by unfold Qj.mine;rw [hg,decide_eq_true hk];rfl⟩);have HR:=Vh hr;have hjl:j<s.recs.length:=by have:=hh.2;omega
  clear hk hj hr hh hg;go_enter func224,ntmps224
  go_wp2_with (
   go_at_call 223
   refine ((JL sb rb s id hn h0 h1).use HT.out (U8 _)).mono ?_
   rw [HP.out.1,HP.out.2.1];rintro e w1 ⟨h',⟨rfl,rfl⟩,Ta⟩;obtain ⟨o,⟨C,rfl,hs,hc0,hc⟩,T1⟩:=Ta.dR 0 rfl;have s1:w1.cell? ⟨sb,0,none⟩=_:=(T1.cell 0 (show _=some (pt sb _ _) from rfl) 0).trans hc0;have T1:=T1.dD 0 rfl (qR rb s.recs.length s.count) (fun o ho=>by cases ho;exact ⟨C,rfl,hs,hc0,hc⟩);obtain ⟨o,⟨D,rfl,hd,hD⟩,T1⟩:=T1.dR 1 rfl;have d1:w1.cell? ⟨rb,j*6+4,none⟩=_:=(T1.cell 1 (show _=some (pt rb _ _) from rfl) _).trans (hD j r HR.out).2.1;have HT1:=Vh (T1.dD 1 rfl (qA s.recs) (fun o ho=>by cases ho;exact ⟨D,rfl,hd,hD⟩))
   clear T1 hd hD Ta hs hc0 hc)
  go_ret
  exact ⟨_,⟨by rw [HP.out.2.2];rfl,rfl⟩,HT1.out⟩
 ·have HP:=Vh (show s.slot id=0/\s.fE id=1/\s.mine id=false from ⟨if_neg hk,if_neg hk,by unfold Qj.mine;rw [decide_eq_false hk];rfl⟩)
  clear hk;go_enter func224,ntmps224
  go_wp2_with (
   go_at_call 223
   refine ((JL sb rb s id hn h0 h1).use HT.out (U8 _)).mono ?_
   rw [HP.out.1,HP.out.2.1];rintro e w1 ⟨h',⟨rfl,rfl⟩,Ta⟩;have HT1:=Vh Ta
   clear Ta)
  go_ret
  exact ⟨_,⟨by rw [HP.out.2.2];rfl,rfl⟩,HT1.out⟩
theorem qij (n:Int) (h0:0<=n) (h1:n<=64) :
 Does prog 270 #[U1 U2 n] [] fun e h'=>e=U4 (U5 #[U1 U2 (n - 1),.bool (decide (0<n))])/\h'=[]:=by
 intro w hw;have HT:=Vh (Qh.refl hw);clear hw;go_enter func270,ntmps270
 go_wp2
 all_goals go_ret2
 all_goals exact ⟨_,⟨rfl,rfl⟩,HT.out⟩
theorem qk1 (sb rb:Nat) (s:Qj) (h0:0<=s.count) (h1:s.count<=64) :
 Does prog 254 #[.pointer (some ⟨sb,0,none⟩)] (zf sb rb s) fun e h'=>e=U4 (U1 U2 s.drop.2)/\h'=zf sb rb s.drop.1:=by
 intro w hw;obtain ⟨o,⟨C,rfl,hs,hc0,hc⟩,T0⟩:=(Qh.refl hw).dR 0 rfl;have HT:=Vh T0;have HC:=Vh (U6 hs (U6 hc0 hc));have HD:=Vh (qij s.count h0 h1);clear hw hs hc0 hc T0;by_cases hk:0<s.count
 all_goals
  go_enter func254,ntmps254
  go_wp2_with (
   go_at_call 210
   refine ((PD sb 1 163 C s.count (s.count - 1) (decide (0<s.count)) 270 #[] [] HC.out.2.2 (enters_of func270 (by kernel_rfl) rfl) HD.out).at HT.out 0 rfl).mono ?_
   rintro e w1 ⟨h',⟨rfl,C1,rfl,hr1⟩,Ta⟩;simp only [hk] at hr1 |-;have HR1:=Vh hr1;have HT1:=Vh (Ta _ rfl)
   clear Ta hr1)
  all_goals go_ret
 ·have HP:=show s.drop=_ from if_pos hk
  exact ⟨_,⟨by rw [HP];rfl,by rw [HP];rfl⟩,HT1.out.dD 0 rfl (qR rb s.recs.length (s.count - 1)) (fun o ho=>by cases ho;exact Yj HC.out.1 HC.out.2.1 (by simpa using HR1.out))⟩
 ·have HP:=show s.drop=_ from if_neg (by omega)
  exact ⟨_,⟨by rw [HP];rfl,by rw [HP];rfl⟩,HT1.out.dD 0 rfl (qR rb s.recs.length s.count) (fun o ho=>by cases ho;exact Yj HC.out.1 HC.out.2.1 (by simpa using HR1.out))⟩
theorem Sb {s:Qj} {C C':Array Value} {j:Nat} {r:Rec} {old n:Int} (hs:C.size=s.recs.length*6) (h:∀ i r,s.recs[i]?=some r->recAt C i r) (hr:s.recs[j]?=some r)
 (hc:Xn C (j*6) (U1 U3 (if r.w=old then n else r.w)) C'):qA (if r.w=old then s.recs.set j { r with w:=n } else s.recs) (.cells C' 176 (0,0)):=by
 by_cases e:r.w=old
 ·rw [if_pos e] at hc |-;exact ⟨C',rfl,qc5 hs h hr hc⟩
 ·rw [if_neg e] at hc |-;exact ⟨C',rfl,KB hs h hr hc⟩
theorem qm3 (sb rb:Nat) (s:Qj) (k old ev:Int) (hn:s.recs.length<=64) (h0:0<=old) (h1:old<18446744073709551616) :
 Does prog 228 #[.pointer (some ⟨sb,0,none⟩),U1 U2 k,U1 U3 old,U1 U2 ev] (zf sb rb s) fun e h' =>
  e=U4 (U5 #[U1 U3 (s.try k old ev).2.1,U1 U2 (s.try k old ev).2.2])/\h'=zf sb rb (s.try k old ev).1:=by
 intro w hw;have HT:=Vh (Qh.refl hw);clear hw;by_cases hh:s.has k
 ·obtain ⟨j,rfl⟩:=Qj.eG hh
  obtain ⟨r,hr,hg⟩:=Qj.fu hh;have HV:=Vh (Lj rb hh);have HR:=Vh hr;have HW:=Vh (show s.word j=r.w/\s.jG j=0 from ⟨by unfold Qj.word;rw [if_pos hh,hg],if_pos hh⟩);obtain ⟨t,ht⟩:∃ t,Xs old ev (decide (0<r.p))=t:=⟨_,rfl⟩;obtain ⟨n1,e1⟩:=t;have HN:=Vh ht
  have HP:=Vh (show s.try j old ev=if e1≠0 then (s,r.w,e1) else if r.w=old then ({ s with recs:=s.recs.set j { r with w:=n1 } },n1,0) else (s,r.w,10) from by
   unfold Qj.try;rw [if_pos hh];dsimp only;rw [hg,ht];rfl)
  clear hh hr hg ht;by_cases he:e1=0
  ·subst he
   by_cases ho:r.w=old
   all_goals
    go_enter func228,ntmps228
    go_wp2_with (first
     | (go_at_call 38
        refine ((qq sb rb s j hn).use HT.out (U8 _)).mono ?_
        rw [HW.out.1,HW.out.2];rintro e w1 ⟨h',⟨rfl,rfl⟩,Ta⟩;have HT1:=Vh Ta
        clear Ta)
     | (go_at_call 99
        refine ((Jm sb rb s.recs.length s.count j hn).at HT1.out 0 rfl).mono ?_
        rintro e w2 ⟨h',⟨he,rfl⟩,Ta⟩;rw [HV.out] at he;subst he;obtain ⟨o,⟨D,rfl,hd,hD⟩,T1⟩:=(Ta _ rfl).dR 1 rfl;have d1:w2.cell? ⟨rb,j*6+5,none⟩=_:=(T1.cell 1 (show _=some (pt rb _ _) from rfl) _).trans (hD j r HR.out).2.2;have HD:=Vh (U6 hd hD);have HT2:=Vh T1
        clear T1 hd hD Ta)
     | (go_at_call 225;refine (Fx _ _ _ _ h0 h1).mono ?_;rw [HN.out];rintro e w3 ⟨rfl,rfl⟩)
     | (go_at_call 260
        refine ((JR rb (j*6) _ D r.w old n1 (HD.out.2 j r HR.out).1).at HT2.out 1 rfl).mono ?_
        rintro e w4 ⟨h',⟨rfl,C1,rfl,hr1⟩,Ta⟩;have HR1:=Vh (Sb HD.out.1 HD.out.2 HR.out hr1);have HT3:=Vh (Ta _ rfl)
        clear Ta hr1))
    go_ret2
   ·rw [if_pos ho] at HR1
    exact ⟨_,⟨by rw [HP.out,if_neg (by simp),if_pos ho];rfl,by rw [HP.out,if_neg (by simp),if_pos ho];rfl⟩,(HT3.out.dD 1 rfl (qA (s.recs.set j { r with w:=n1 })) (fun o hx=>by cases hx;exact HR1.out)).dD 0 rfl
     (qR rb (s.recs.set j { r with w:=n1 }).length s.count) (fun o hx=>by rw [UE];exact hx)⟩
   ·rw [if_neg ho] at HR1
    exact ⟨_,⟨by rw [HP.out,if_neg (by simp),if_neg ho];rfl,by rw [HP.out,if_neg (by simp),if_neg ho];rfl⟩,HT3.out.dD 1 rfl (qA s.recs) (fun o hx=>by cases hx;exact HR1.out)⟩
  ·skip
   go_enter func228,ntmps228
   go_wp2_with (first
    | (go_at_call 38
       refine ((qq sb rb s j hn).use HT.out (U8 _)).mono ?_
       rw [HW.out.1,HW.out.2];rintro e w1 ⟨h',⟨rfl,rfl⟩,Ta⟩;have HT1:=Vh Ta
       clear Ta)
    | (go_at_call 99
       refine ((Jm sb rb s.recs.length s.count j hn).at HT1.out 0 rfl).mono ?_
       rintro e w2 ⟨h',⟨he,rfl⟩,Ta⟩;rw [HV.out] at he;subst he;obtain ⟨o,⟨D,rfl,hd,hD⟩,T1⟩:=(Ta _ rfl).dR 1 rfl;have d1:w2.cell? ⟨rb,j*6+5,none⟩=_:=(T1.cell 1 (show _=some (pt rb _ _) from rfl) _).trans (hD j r HR.out).2.2;have HD:=Vh (U6 hd hD);have HT2:=Vh T1
       clear T1 hd hD Ta)
    | (go_at_call 225;refine (Fx _ _ _ _ h0 h1).mono ?_;rw [HN.out];rintro e w3 ⟨rfl,rfl⟩)
    | (go_at_call 260
       refine ((JR rb (j*6) _ D r.w old n1 (HD.out.2 j r HR.out).1).at HT2.out 1 rfl).mono ?_
       rintro e w4 ⟨h',⟨rfl,C1,rfl,hr1⟩,Ta⟩;have HR1:=Vh (Sb HD.out.1 HD.out.2 HR.out hr1);have HT3:=Vh (Ta _ rfl)
       clear Ta hr1))
   go_ret2
   exact ⟨_,⟨by rw [HP.out,if_pos he];rfl,by rw [HP.out,if_pos he];rfl⟩,HT2.out.dD 1 rfl (qA s.recs) (fun o hx=>by cases hx;exact ⟨D,rfl,HD.out⟩)⟩
 ·have HW:=Vh (show s.word k=0/\s.jG k=4 from ⟨if_neg hh,if_neg hh⟩)
  have HP:=Vh (show s.try k old ev=(s,0,4) from if_neg hh);clear hh;go_enter func228,ntmps228
  go_wp2_with (
   go_at_call 38
   refine ((qq sb rb s k hn).use HT.out (U8 _)).mono ?_
   rw [HW.out.1,HW.out.2];rintro e w1 ⟨h',⟨rfl,rfl⟩,Ta⟩;have HT1:=Vh Ta
   clear Ta)
  go_ret2
  exact ⟨_,⟨by rw [HP.out];rfl,by rw [HP.out];rfl⟩,HT1.out⟩
theorem qmv (qb sb rb:Nat) (s:Qj) (q:iC) (hs:Xh s) (hq:wE s.recs.length q) :
 Does prog 182 #[.pointer (some ⟨qb,0,none⟩)] (mf qb sb q::zf sb rb s) fun e h'=>e=U4 (U1 U2 (Za s q).2.st)/\h'=mf qb sb (Za s q).2::zf sb rb (Za s q).1:=by
 intro w hw;have T0:=Qh.refl hw;have q0:=T0.cell 0 (show _=some (pt qb _ _) from rfl);simp only [nZ] at q0;have hlq:=T0.lt 0 (show _=some (pt qb _ _) from rfl);simp only [] at hlq;have HT:=Vh T0;clear hw T0;have hn1:=hs.n1;by_cases hst:q.st=0
 ·rcases hq.next with hn | ⟨hn,b0,b1⟩ | hn
  ·have HK:=Vh (show Za s q=(s,qO s q) from by unfold Za;rw [if_neg (by simp [hst]),if_pos hn])
   rw [hn,hst] at q0;go_enter func182,ntmps182
   go_wp2_with (
    go_at_call 214
    refine ((qwj qb sb rb s q).use (HT.out.aT _) (U8 _)).mono ?_
    rintro e w1 ⟨h',⟨rfl,rfl⟩,Ta⟩;have q1:=Ta.cell 0 (show _=some (pt qb _ _) from rfl) 6;simp [nZ] at q1
    have HT1:=Vh Ta
    clear Ta)
   go_ret
   exact ⟨_,⟨by rw [HK.out];rfl,by rw [HK.out];rfl⟩,HT1.out⟩
  ·have b2:q.aB<64:=by omega
   have HK:=Vh (show Za s q=pY s q from by unfold Za;rw [if_neg (by simp [hst]),if_neg (by omega),if_pos hn]);rw [hn,hst] at q0;go_enter func182,ntmps182
   go_wp2_with (
    go_at_call 215
    refine ((qwn qb sb rb s q b0 b2).use (HT.out.aT _) (U8 _)).mono ?_
    rintro e w1 ⟨h',⟨rfl,rfl⟩,Ta⟩;have q1:=Ta.cell 0 (show _=some (pt qb _ _) from rfl) 6;simp [nZ] at q1
    have HT1:=Vh Ta
    clear Ta)
   go_ret
   exact ⟨_,⟨by rw [HK.out];rfl,by rw [HK.out];rfl⟩,HT1.out⟩
  ·obtain ⟨k,hk⟩:=U9 hq.ig
   have hkl:k<s.recs.length:=by have:=hq.iG;omega
   have hr:s.recs[k]?=some (s.recs[k]):=UH hkl;have HX:=Vh (qxk qb sb rb s q k _ hk hr (hs.recs _ (List.getElem_mem _)) hn1);have HK:=Vh (show Za s q=qc6 s q from by unfold Za;rw [if_neg (by simp [hst]),if_neg (by omega),if_neg (by omega)]);rw [hn,hst] at q0;clear hr;go_enter func182,ntmps182
   go_wp2_with (
    go_at_call 216
    refine (HX.out.use (HT.out.aT _) (U8 _)).mono ?_
    rintro e w1 ⟨h',⟨rfl,rfl⟩,Ta⟩;have q1:=Ta.cell 0 (show _=some (pt qb _ _) from rfl) 6;simp [nZ] at q1
    have HT1:=Vh Ta
    clear Ta)
   go_ret
   exact ⟨_,⟨by rw [HK.out];rfl,by rw [HK.out];rfl⟩,HT1.out⟩
 ·have HK:=Vh (show Za s q=(s,q) from if_pos hst)
  go_enter func182,ntmps182
  go_wp2
  go_ret
  exact ⟨_,⟨by rw [HK.out];rfl,by rw [HK.out]⟩,HT.out.aT _⟩
def Aj:Array Value:=#[U1 U3 0,U1 U2 0,U1 U2 0,U1 U2 0,U1 U3 0,U1 U3 0]
theorem q1b:(prog.info? 176).map (fun i=>(i.zero,i.size,i.bytes))=some (some (.agg Aj),6,48):=by kernel_rfl
theorem q03 (k:Nat):(UM Aj (k*6)).size=(Zx k).recs.length*6/\∀ i r,(Zx k).recs[i]?=some r->recAt (UM Aj (k*6)) i r:=by
 refine ⟨by simp [size_madeCells,Zx],fun i r hr=>?_⟩
 have hi:i<k:=by have:=(UC.1 hr).1;simpa [Zx] using this
 have hz:Aj.size=6:=rfl;have hr':r=Rec.zero:=by simp [Zx,hi] at hr;exact hr.symm
 subst hr';exact ⟨⟨zo _ k 6 i 0 hz hi (by omega),0,0,0,zo _ k 6 i 1 hz hi (by omega),zo _ k 6 i 2 hz hi (by omega),zo _ k 6 i 3 hz hi (by omega)⟩,zo _ k 6 i 4 hz hi (by omega),zo _ k 6 i 5 hz hi (by omega)⟩
theorem qm1 (n:Int) :
 Does prog 76 #[U1 U2 n] [] fun e h' =>
  if 1<=n/\n<=64 then ∃ sb rb,e=U4 (U5 #[.pointer (some ⟨sb,0,none⟩),U1 U2 0])/\h'=zf sb rb (Zx n.toNat) else e=U4 (U5 #[UB none,U1 U2 4])/\h'=[]:=by
 intro w hw;have HT:=Vh (Qh.refl hw);clear hw;by_cases h:1<=n/\n<=64
 ·simp only [if_pos h]
  obtain ⟨h1,h2⟩:=h;obtain ⟨k,rfl⟩:=U9 (show 0<=n by omega);have hk1:k<=64:=by omega
  have hmk:∀ w,(Instr.makeSlice 161 (U1 U2 (k:Int)) (U1 U2 (k:Int))).run prog w=.ok (.slice (some ⟨w.heap.size,0,none⟩) k k) (w.alloc (.cells (UM Aj (k*6)) 176)):=Kl (P:=prog) 161 176 (.agg Aj) 6 48 underlying161 q1b k (by omega) (by omega);have hd1:decide ((k:Int)<1)=false:=by simp;omega
  have hd2:decide (64<(k:Int))=false:=by simp;omega
  go_enter func76,ntmps76
  go_wp2
  go_ret2
  exact ⟨_,⟨w.heap.size+1,w.heap.size,rfl,by simp [Zx,zf]⟩,(((HT.out.alloc rfl _ _).dD 0 rfl (qA (Zx k).recs) (fun o ho=>by cases ho;exact ⟨_,rfl,q03 k⟩)).alloc rfl _ _).dD 0 rfl (qR w.heap.size (Zx k).recs.length 0) (fun o ho=>by
   cases ho;exact ⟨_,rfl,rfl,by simp [Zx],rfl,0,0,0,rfl,rfl,rfl⟩)⟩
 ·simp only [if_neg h]
  by_cases h1:n<1
  ·clear h
   go_enter func76,ntmps76
   go_wp2
   go_ret2
   exact ⟨_,⟨rfl,rfl⟩,HT.out⟩
  ·have h2:64<n:=by omega
   clear h;go_enter func76,ntmps76
   go_wp2
   go_ret2
   exact ⟨_,⟨rfl,rfl⟩,HT.out⟩
abbrev ptr (b:Nat):Value:=.pointer (some ⟨b,0,none⟩)
def Jc (sb:Nat) (s:Qj) (g:List ak):Prop:=∃ rb,Z1 (zf sb rb s) g
def j4 (qb sb:Nat) (q:iC):List ak:=[cl qb 292 (nZ sb q)]
theorem Ea (qb sb:Nat) (q:iC):Z1 [mf qb sb q] (j4 qb sb q):=Z1.o8 _ _ _
section
variable {sb:Nat} {s:Qj} {g:List ak}
theorem qt4 (hg:Jc sb s g) (hn:s.recs.length<=64) (k:Int):Qa prog 38 #[ptr sb,U1 U2 k] [g] fun e gs=>e=U4 (U5 #[U1 U3 (s.word k),U1 U2 (s.jG k)])/\∃ g',Jc sb s g'/\gs=[g']:=by
 obtain ⟨rb,m⟩:=hg;exact (Does.G1 (qq sb rb s k hn) m).mono fun e gs ⟨he,x,mx,hx⟩=>⟨he,x,⟨rb,mx⟩,hx⟩
theorem P8 (hg:Jc sb s g) (hn:s.recs.length<=64) (id:Int) (h0:0<=id) (h1:id<18446744073709551616):Qa prog 223 #[ptr sb,U1 U3 id] [g] fun e gs=>e=U4 (U5 #[U1 U2 (s.slot id),U1 U2 (s.fE id)])/\∃ g',Jc sb s g'/\gs=[g']:=by
 obtain ⟨rb,m⟩:=hg;exact (Does.G1 (JL sb rb s id hn h0 h1) m).mono fun e gs ⟨he,x,mx,hx⟩=>⟨he,x,⟨rb,mx⟩,hx⟩
theorem qt2 (hg:Jc sb s g) (hn:s.recs.length<=64) (id:Int) (h0:0<=id) (h1:id<18446744073709551616):Qa prog 224 #[ptr sb,U1 U3 id] [g] fun e gs=>e=U4 (.bool (s.mine id))/\∃ g',Jc sb s g'/\gs=[g']:=by
 obtain ⟨rb,m⟩:=hg;exact (Does.G1 (qk2 sb rb s id hn h0 h1) m).mono fun e gs ⟨he,x,mx,hx⟩=>⟨he,x,⟨rb,mx⟩,hx⟩
theorem qt1 (hg:Jc sb s g) (h0:0<=s.count) (h1:s.count<=64):Qa prog 254 #[ptr sb] [g] fun e gs=>e=U4 (U1 U2 s.drop.2)/\∃ g',Jc sb s.drop.1 g'/\gs=[g']:=by
 obtain ⟨rb,m⟩:=hg;exact (Does.G1 (qk1 sb rb s h0 h1) m).mono fun e gs ⟨he,x,mx,hx⟩=>⟨he,x,⟨rb,mx⟩,hx⟩
theorem qxq (hg:Jc sb s g) (hn:s.recs.length<=64) (k old ev:Int) (h0:0<=old) (h1:old<18446744073709551616) :
 Qa prog 228 #[ptr sb,U1 U2 k,U1 U3 old,U1 U2 ev] [g] fun e gs=>e=U4 (U5 #[U1 U3 (s.try k old ev).2.1,U1 U2 (s.try k old ev).2.2])/\∃ g',Jc sb (s.try k old ev).1 g'/\gs=[g']:=by
 obtain ⟨rb,m⟩:=hg;exact (Does.G1 (qm3 sb rb s k old ev hn h0 h1) m).mono fun e gs ⟨he,x,mx,hx⟩=>⟨he,x,⟨rb,mx⟩,hx⟩
theorem qxa (qb:Nat) (q:iC) (hg:Jc sb s g) (hs:Xh s) (hq:wE s.recs.length q) :
 Qa prog 182 #[ptr qb] [j4 qb sb q,g] fun e gs=>e=U4 (U1 U2 (Za s q).2.st)/\∃ g',Jc sb (Za s q).1 g'/\gs=[j4 qb sb (Za s q).2,g']:=by
 obtain ⟨rb,m⟩:=hg;refine (Does.G2 (a:=[mf qb sb q]) (a':=[mf qb sb (Za s q).2]) (qmv qb sb rb s q hs hq) (Ea _ _ _) m).mono ?_
 rintro e gs ⟨he,x,y,mx,my,rfl⟩;exact ⟨he,y,⟨rb,my⟩,by rw [mx.pP];rfl⟩
end
theorem S9 (qb sb:Nat) (q:iC):Qa prog 183 #[ptr qb] [j4 qb sb q] fun e gs=>e=U4 (U5 #[U1 U3 (if q.st=2 then q.id else 0),U1 U2 (if q.st=2 then 0 else 7)])/\gs=[j4 qb sb q] :=
 (Does.G1 (qts qb sb q) (Ea _ _ _)).mono fun e gs ⟨he,x,mx,hx⟩=>⟨he,by rw [hx,mx.pP];rfl⟩
theorem OQ (sb:Nat) (p:Int):Qa prog 141 #[ptr sb,U1 U3 p] [] fun e gs=>∃ qb,e=U4 (ptr qb)/\gs=[j4 qb sb ⟨p,0,0,0,0,0⟩]:=by
 refine ((qii sb p).G (gs:=[]) .nil).mono ?_
 rintro e gs ⟨h',g,⟨qb,he,rfl⟩,m,rfl⟩;exact ⟨qb,he,by rw [m.pP];rfl⟩
theorem qxp (n:Int):Qa prog 76 #[U1 U2 n] [] fun e gs =>
 (1<=n/\n<=64/\∃ sb g,e=U4 (U5 #[ptr sb,U1 U2 0])/\Jc sb (Zx n.toNat) g/\gs=[g])\/(¬ (1<=n/\n<=64)/\e=U4 (U5 #[UB none,U1 U2 4])/\gs=[]):=by
 refine ((qm1 n).G (gs:=[]) .nil).post ?_
 rintro e gs ⟨h',g,hr,m,rfl⟩;by_cases hn:1<=n/\n<=64
 ·rw [if_pos hn] at hr
  obtain ⟨sb,rb,he,rfl⟩:=hr;exact ⟨[g],.inl ⟨hn.1,hn.2,sb,g,he,⟨rb,m⟩,rfl⟩,U8 _⟩
 ·rw [if_neg hn] at hr
  obtain ⟨he,rfl⟩:=hr;cases m
  exact ⟨[],.inr ⟨hn,he,rfl⟩,by simp⟩
theorem qt3 (n:Nat) (h1:1<=n) (h2:n<=64):Qa prog 76 #[U1 U2 n] [] fun e gs=>∃ sb g,e=U4 (U5 #[ptr sb,U1 U2 0])/\Jc sb (Zx n) g/\gs=[g]:=by
 refine (qxp n).mono ?_
 rintro e gs (⟨_,_,sb,g,he,hs,hg⟩ | ⟨hn,_⟩)
 ·exact ⟨sb,g,he,by simpa using hs,hg⟩
 ·exact absurd ⟨by omega,by omega⟩ hn
theorem qsz (b o:Nat) (T:UG) (C:Array Value) (n:Bool) (hc:cellAt C o (.bool n)) :
 Does prog 130 #[.pointer (some ⟨b,o,none⟩)] [pt b T C] (zg b T C o (.bool n) (.bool n)):=by
 intro w hw;obtain ⟨h0,l,t,u,h1,h2,h3⟩:=hc;have T0:=Qh.refl hw;have hb:=T0.blk 0 rfl;have c0:w.cell? ⟨b,o,none⟩=some (.bool n):=(Q8 hb o).trans h0;have c1:w.cell? ⟨b,o+1,none⟩=some (U1 U2 l):=(Q8 hb (o+1)).trans h1;have f1:=X0 hb (o+1);have T1:=Vh T0;have H:=Vh (U6 h0 (U6 h1 (U6 h2 h3)));clear T0 hb hw h0 h1 h2 h3;go_enter func130,ntmps130
 go_wp2
 go_ret
 obtain ⟨h0,h1,h2,h3⟩:=H.out;exact ⟨_,⟨rfl,_,rfl,zp h0 h1 h2 h3⟩,T1.out.set (o+1) _⟩
theorem qt8 (b o:Nat) (T:UG) (C:Array Value) (n old new:Bool) (hc:cellAt C o (.bool n)) :
 Does prog 193 #[.pointer (some ⟨b,o,none⟩),.bool old,.bool new] [pt b T C] (zg b T C o (.bool (if n=old then new else n)) (.bool (decide (n=old)))):=by
 intro w hw;obtain ⟨h0,l,t,u,h1,h2,h3⟩:=hc;have T0:=Qh.refl hw;have hb:=T0.blk 0 rfl;have c0:w.cell? ⟨b,o,none⟩=some (.bool n):=(Q8 hb o).trans h0;have c2:w.cell? ⟨b,o+2,none⟩=some (U1 U2 t):=(Q8 hb (o+2)).trans h2;have c3:w.cell? ⟨b,o+3,none⟩=some (U1 U2 u):=(Q8 hb (o+3)).trans h3;have f0:=X0 hb o;have f2:=X0 hb (o+2);have f3:=X0 hb (o+3);have T1:=Vh T0;have H:=Vh (U6 h0 (U6 h1 (U6 h2 h3)));clear T0 hb hw h0 h1 h2 h3;by_cases he:n=old
 ·subst he
  cases n
  all_goals
   go_enter func193,ntmps193
   go_wp2
   go_ret
   obtain ⟨h0,h1,h2,h3⟩:=H.out;exact ⟨_,⟨by simp,_,rfl,qc4 h0 h1 h2 h3⟩,((T1.out.set (o+2) _).set o _).set (o+3) _⟩
 ·cases n <;> cases old <;> first | exact absurd rfl he | skip
  all_goals
   go_enter func193,ntmps193
   go_wp2
   go_ret
   obtain ⟨h0,h1,h2,h3⟩:=H.out;exact ⟨_,⟨by simp [he],_,rfl,qd h0 h1 h2 h3⟩,T1.out.set (o+2) _⟩
theorem qs0 (b o:Nat) (T:UG) (C:Array Value) (n:Int) (hc:cellAt C o (U1 U3 n)) :
 Does prog 98 #[.pointer (some ⟨b,o,none⟩)] [pt b T C] (zg b T C o (U1 U3 n) (U1 U3 n)):=by
 intro w hw;obtain ⟨h0,l,t,u,h1,h2,h3⟩:=hc;have T0:=Qh.refl hw;have hb:=T0.blk 0 rfl;have c0:w.cell? ⟨b,o,none⟩=some (U1 U3 n):=(Q8 hb o).trans h0;have c1:w.cell? ⟨b,o+1,none⟩=some (U1 U2 l):=(Q8 hb (o+1)).trans h1;have f1:=X0 hb (o+1);have T1:=Vh T0;have H:=Vh (U6 h0 (U6 h1 (U6 h2 h3)));clear T0 hb hw h0 h1 h2 h3;go_enter func98,ntmps98
 go_wp2
 go_ret
 obtain ⟨h0,h1,h2,h3⟩:=H.out;exact ⟨_,⟨rfl,_,rfl,zp h0 h1 h2 h3⟩,T1.out.set (o+1) _⟩
section
variable {sb:Nat} {s s':Qj} {g:List ak}
theorem Km {v x:Int} {id:Int} (e1:s.slot id=v) (e2:s.fE id=x) (hg:Jc sb s g) (hn:s.recs.length<=64) (h0:0<=id) (h1:id<18446744073709551616):Qa prog 223 #[ptr sb,U1 U3 id] [g] fun e gs=>e=U4 (U5 #[U1 U2 v,U1 U2 x])/\∃ g',Jc sb s g'/\gs=[g']:=by
 have:=P8 hg hn id h0 h1;rwa [e1,e2] at this
end
end
section
theorem FF {n e:Int} {p:Bool} (h0:0<=n) (h1:n<18446744073709551616) (hk:okW n=true) (hx:(Xs n e p).2=0) :
 1<=e/\e<=10/\(toW (bB n) e (p && !Xr n)).2.2=true/\okW (Xs n e p).1=true /\
  bB (Xs n e p).1=(toW (bB n) e (p && !Xr n)).1/\Xv (Xs n e p).1=Xv n+(toW (bB n) e (p && !Xr n)).2.1 /\
  Xr (Xs n e p).1=(if e=7 then true else if e=1\/e=10 then false else Xr n)/\0<=(Xs n e p).1/\(Xs n e p).1<18446744073709551616/\Xv n<=Xv (Xs n e p).1:=by
 rcases Y1 n e p h0 h1 hk with ⟨_,h | h | h⟩ | ⟨_,a,b,c,d,f,g,i,j,k⟩
 ·omega
 ·omega
 ·omega
 ·have hb:=sS n h0 hk
  have hf:=Du (bB n) e (p && !Xr n) hb.1 hb.2.1;exact ⟨a,b,c,d,f,g,i,j,k,by rw [g];have:=hf.2.2.1;omega⟩
theorem q5p (s:Int) (again:Bool):toW s 1 again=(1,1,(s == 0)):=rfl
theorem nV.zero:nV Rec.zero:=⟨by decide,by decide,by decide,by decide,by decide,by decide,by decide⟩
theorem qs7 {n:Nat} (h1:1<=n) (h2:n<=64):Xh (Zx n) :=
 ⟨by simp [Zx];omega,by simp [Zx];omega,by simp [Zx],by simp [Zx],fun r hr=>by simp [Zx] at hr;rw [hr.2];exact nV.zero⟩
theorem Xh.set {s:Qj} (hs:Xh s) {k:Nat} {r:Rec} (hr:nV r):Xh { s with recs:=s.recs.set k r } :=
 ⟨by simpa using hs.n0,by simpa using hs.n1,hs.c0,by simpa using hs.c1,fun x hx=>by
   rcases List.mem_or_eq_of_mem_set hx with h | rfl
   ·exact hs.recs x h
   ·exact hr⟩
theorem Xh.getD {s:Qj} (hs:Xh s) (k:Nat):nV (s.recs.getD k Rec.zero):=by
 rw [UA];cases h:s.recs[k]? with
 | none=>exact nV.zero
 | some r=>exact hs.recs r (List.mem_of_getElem? h)
theorem RV {s:Qj} {q:iC} (hs:Xh s) (hq:wE s.recs.length q):Xh (Za s q).1/\wE s.recs.length (Za s q).2/\(Za s q).1.recs.length=s.recs.length:=by
 unfold Za;by_cases h0:q.st≠0
 ·rw [if_pos h0];exact ⟨hs,hq,rfl⟩
 rw [if_neg h0];by_cases h1:q.next=0
 ·rw [if_pos h1]
  refine ⟨hs,?_,rfl⟩
  unfold qO;by_cases h:(s.recs.length:Int)<=s.count
  ·rw [if_pos h];exact ⟨hq.p0,hq.p1,hq.ig,hq.iG,.inl h1⟩
  ·rw [if_neg h];exact ⟨hq.p0,hq.p1,hq.ig,hq.iG,.inr (.inl ⟨rfl,hs.c0,show s.count < _ by omega⟩)⟩
 rw [if_neg h1];by_cases h2:q.next=1
 ·rw [if_pos h2]
  have pJ:0<=q.aB/\q.aB<s.recs.length:=by
   rcases hq.next with h | h | h
   ·exact absurd h h1
   ·exact h.2
   ·omega
  unfold pY;by_cases h:s.count=q.aB
  ·rw [if_pos h];exact ⟨⟨hs.n0,hs.n1,by show 0<=s.count+1;omega,show s.count+1<=(s.recs.length:Int) by omega,hs.recs⟩,⟨hq.p0,hq.p1,hq.ig,hq.iG,.inr (.inr rfl)⟩,rfl⟩
  ·rw [if_neg h];exact ⟨hs,⟨hq.p0,hq.p1,hq.ig,hq.iG,.inl rfl⟩,rfl⟩
 rw [if_neg h2];have hr:=hs.getD q.slot.toNat;have h3:q.next=2:=by rcases hq.next with h | h | h <;> omega
 unfold qc6;by_cases h:(Xs (s.recs.getD q.slot.toNat Rec.zero).w 1 (decide (0<q.p))).2=0
 ·simp only [h,if_true]
  obtain ⟨_,_,a,b,c,d,_,e,f,g⟩:=FF hr.w0 hr.w1 hr.ok h;refine ⟨hs.set ⟨e,f,b,by have:=hr.g0;show 0<=_+1;omega,?_,hq.p0,hq.p1⟩,⟨hq.p0,hq.p1,hq.ig,hq.iG,.inr (.inr h3)⟩,by simp⟩
  show _+1<=_
  rw [d];have:=hr.g1;simp only [q5p];omega
 ·simp only [h,if_false]
  have hn:=hs.n0;exact ⟨hs,⟨hq.p0,hq.p1,Int.emod_nonneg _ (by omega),Int.emod_lt_of_pos _ (by omega),.inr (.inr h3)⟩,trivial⟩
theorem sK {s:Qj} (hs:Xh s) (k old ev:Int):Xh (s.try k old ev).1/\(s.try k old ev).1.recs.length=s.recs.length:=by
 unfold Qj.try;by_cases h:s.has k
 ·rw [if_pos h]
  have hr:=hs.getD k.toNat;simp only [];by_cases h1:(Xs old ev (decide (0<(s.recs.getD k.toNat Rec.zero).p))).2≠0
  ·rw [if_pos h1];exact ⟨hs,rfl⟩
  rw [if_neg h1];by_cases h2:(s.recs.getD k.toNat Rec.zero).w=old
  ·rw [if_pos h2]
   have h3:(Xs (s.recs.getD k.toNat Rec.zero).w ev (decide (0<(s.recs.getD k.toNat Rec.zero).p))).2=0:=by rw [h2];exact Decidable.not_not.1 h1
   obtain ⟨_,_,a,b,c,d,_,e,f,g⟩:=FF hr.w0 hr.w1 hr.ok h3;rw [h2] at b e f g;exact ⟨hs.set ⟨e,f,b,hr.g0,by have h9:=hr.g1;rw [h2] at h9;exact UN h9 g,hr.p0,hr.p1⟩,by simp⟩
  ·rw [if_neg h2];exact ⟨hs,rfl⟩
 ·rw [if_neg h];exact ⟨hs,rfl⟩
theorem D5 {s:Qj} (hs:Xh s):Xh s.drop.1/\s.drop.1.recs.length=s.recs.length:=by
 unfold Qj.drop;by_cases h:0<s.count
 ·rw [if_pos h];exact ⟨⟨hs.n0,hs.n1,by show 0<=s.count - 1;omega,by have:=hs.c1;show s.count - 1<=(s.recs.length:Int);omega,hs.recs⟩,rfl⟩
 ·rw [if_neg h];exact ⟨hs,rfl⟩
def aZ (r:Rec):Bool:=!decide (bB r.w=0)
def Ja (l:List Rec):Nat:=l.countP aZ
theorem Lh {l:List Rec} {k:Nat} {x:Rec} (r:Rec) (h:l[k]?=some x):Ja (l.set k r)+(if aZ x then 1 else 0)=Ja l+(if aZ r then 1 else 0):=by
 unfold Ja;induction l generalizing k with
 | nil=>simp at h
 | cons a l ih =>
   cases k with
   | zero =>
     simp only [List.getElem?_cons_zero,Option.some.injEq] at h;subst h;simp only [List.set_cons_zero,List.countP_cons];omega
   | succ k =>
     simp only [List.getElem?_cons_succ] at h;simp only [List.set_cons_succ,List.countP_cons];have:=ih h;omega
theorem F4 {r:Rec} (h:bB r.w≠0):aZ r=true:=by simp [aZ,h]
theorem Pm {r:Rec} (h:bB r.w=0):aZ r=false:=by simp [aZ,h]
theorem D8 {l:List Rec} {k:Nat} {r:Rec} (h:l[k]?=some r):l.getD k Rec.zero=r:=by rw [UA,h];rfl
end
section
open Go.RowKit
theorem KS {s:Qj} (hs:Xh s) (k old ev:Int) (h0:0<=old) (h1:old<18446744073709551616) (hk:okW old=true):0<=(s.try k old ev).2.1/\(s.try k old ev).2.1<18446744073709551616:=by
 unfold Qj.try;have hr:=hs.getD k.toNat;split
 ·simp only []
  split
  ·exact ⟨hr.w0,hr.w1⟩
  ·next h =>
   split
   ·have:=FF h0 h1 hk (Decidable.not_not.1 h);exact ⟨this.2.2.2.2.2.2.2.1,this.2.2.2.2.2.2.2.2.1⟩
   ·exact ⟨hr.w0,hr.w1⟩
 ·exact ⟨Int.le_refl _,by show (0:Int) < _;decide⟩
end
end Go.Proofs.YtcneeepdclgdcaaGreat
