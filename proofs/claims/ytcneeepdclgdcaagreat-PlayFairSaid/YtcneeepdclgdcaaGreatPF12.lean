import Derived.Test.YtcneeepdclgdcaaGreatPF9
import Derived.Test.YtcneeepdclgdcaaGreatPF4
set_option maxRecDepth 100000
set_option maxHeartbeats 4000000
namespace Go.Proofs.YtcneeepdclgdcaaGreat
open Go.Value renaming int->WK,tuple->WO,pointer->WV
open Go.IntKind renaming i64->WL,u64->WM
open Go.Ending renaming returned->WN
open _root_.And renaming intro->WQ
open _root_.List renaming perm_append_comm->WR,getD_eq_getElem?_getD->WU,getElem?_eq_some_iff->WW,getElem?_set->WX,length_set->WY,getElem?_eq_getElem->XB
open _root_.List.Perm renaming refl->WS
open _root_.Int renaming eq_ofNat_of_zero_le->WT,toNat_natCast->XE,le_trans->XH
open Go renaming results_none->WZ,TypeId->XA,bodyPost_end->XD,madeCells->XG
open _root_.Array renaming size_setIfInBounds->XC
open _root_.Option renaming getD_some->XF
set_option linter.all false
open Go.Proofs.Tryz
section
open Go.RowKit
def cellAt (C:Array Value) (o:Nat) (v:Value):Prop :=
 C[o]?=some v/\∃ l t u:Int,C[o+1]?=some (WK WL l)/\C[o+2]?=some (WK WL t)/\C[o+3]?=some (WK WL u)
structure Xi (C:Array Value) (o:Nat) (v:Value) (C':Array Value):Prop where
 size:C'.size=C.size
 other:∀ i,(i<o\/o+4<=i)->C'[i]?=C[i]?
 cell:cellAt C' o v
def zh (b:Nat) (T:XA) (C:Array Value) (o:Nat) (v r:Value) (e:Ending) (h':PH):Prop :=
 e=WN r/\∃ C',h'=[pt b T C']/\Xi C o v C'
theorem Xi.trans {A B C:Array Value} {o:Nat} {u v:Value} (h:Xi A o u B) (k:Xi B o v C):Xi A o v C :=
 ⟨k.size.trans h.size,fun i hi=>(k.other i hi).trans (h.other i hi),k.cell⟩
theorem UU {C:Array Value} {i j:Nat} {v:Value}:(C.setIfInBounds i v)[j]?=if i=j then (if i<C.size then some v else none) else C[j]?:=by
 rw [Array.getElem?_setIfInBounds]
theorem lt_of_some {C:Array Value} {i:Nat} {v:Value} (h:C[i]?=some v):i<C.size:=(Array.getElem?_eq_some_iff.1 h).1
theorem Qc {C:Array Value} {i j:Nat} {v:Value} (h:i≠j):(C.setIfInBounds i v)[j]?=C[j]?:=by rw [UU,if_neg h]
theorem Xa {C:Array Value} {i:Nat} {u v:Value} (h:C[i]?=some u):(C.setIfInBounds i v)[i]?=some v:=by rw [UU,if_pos rfl,if_pos (lt_of_some h)]
section
variable {C:Array Value} {o:Nat} {v v':Value} {l t u:Int}
theorem zr (h0:C[o]?=some v) (h1:C[o+1]?=some (WK WL l)) (h2:C[o+2]?=some (WK WL t)) (h3:C[o+3]?=some (WK WL u)) {x:Int} :
 Xi C o v (C.setIfInBounds (o+1) (WK WL x)) :=
 ⟨by simp,fun i hi=>Qc (by omega),(Qc (by omega)).trans h0,x,t,u,Xa h1,(Qc (by omega)).trans h2,(Qc (by omega)).trans h3⟩
theorem Y8 (h0:C[o]?=some v) (h1:C[o+1]?=some (WK WL l)) (h2:C[o+2]?=some (WK WL t)) (h3:C[o+3]?=some (WK WL u)) {x:Int} :
 Xi C o v (C.setIfInBounds (o+2) (WK WL x)) :=
 ⟨by simp,fun i hi=>Qc (by omega),(Qc (by omega)).trans h0,l,x,u,(Qc (by omega)).trans h1,Xa h2,(Qc (by omega)).trans h3⟩
theorem qln (h0:C[o]?=some v) (h1:C[o+1]?=some (WK WL l)) (h2:C[o+2]?=some (WK WL t)) (h3:C[o+3]?=some (WK WL u)) {x:Int} :
 Xi C o v (C.setIfInBounds (o+3) (WK WL x)) :=
 ⟨by simp,fun i hi=>Qc (by omega),(Qc (by omega)).trans h0,l,t,x,(Qc (by omega)).trans h1,(Qc (by omega)).trans h2,Xa h3⟩
theorem QY (hc:cellAt C o v):Xi C o v' (C.setIfInBounds o v'):=by
 obtain ⟨h0,l,t,u,h1,h2,h3⟩:=hc;exact ⟨by simp,fun i hi=>Qc (by omega),Xa h0,l,t,u,(Qc (by omega)).trans h1,(Qc (by omega)).trans h2,(Qc (by omega)).trans h3⟩
theorem Xi.turned {A:Array Value} (h:Xi A o v C) {x:Int}:Xi A o v (C.setIfInBounds (o+3) (WK WL x)):=by
 obtain ⟨h0,l,t,u,h1,h2,h3⟩:=h.cell;exact h.trans (qln h0 h1 h2 h3)
theorem Lb (h0:C[o]?=some v) (h1:C[o+1]?=some (WK WL l)) (h2:C[o+2]?=some (WK WL t)) (h3:C[o+3]?=some (WK WL u)) {x y:Int} :
 Xi C o v' (((C.setIfInBounds (o+2) (WK WL x)).setIfInBounds o v').setIfInBounds (o+3) (WK WL y)) :=
 ((Y8 h0 h1 h2 h3).trans (QY (Y8 h0 h1 h2 h3).cell)).turned
theorem Xi.bU {C':Array Value} (h:Xi C o v C') {o':Nat} {x:Value} (hc:cellAt C o' x) (hd:o'+4<=o\/o+4<=o'):cellAt C' o' x:=by
 obtain ⟨h0,l,t,u,h1,h2,h3⟩:=hc;exact ⟨(h.other _ (by omega)).trans h0,l,t,u,(h.other _ (by omega)).trans h1,(h.other _ (by omega)).trans h2,(h.other _ (by omega)).trans h3⟩
end
theorem X9 (b o:Nat) (T:XA) (C:Array Value) (n:Int) (hc:cellAt C o (WK WL n)) :
 Does prog 88 #[.pointer (some ⟨b,o,none⟩)] [pt b T C] (zh b T C o (WK WL n) (WK WL n)):=by
 intro w hw;obtain ⟨h0,l,t,u,h1,h2,h3⟩:=hc;have T0:=Qh.refl hw;have hb:=T0.blk 0 rfl;have c0:w.cell? ⟨b,o,none⟩=some (WK WL n):=(Q5 hb o).trans h0;have c1:w.cell? ⟨b,o+1,none⟩=some (WK WL l):=(Q5 hb (o+1)).trans h1;have f1:=Xw hb (o+1);have T1:=Vh T0;have H:=Vh (WQ h0 (WQ h1 (WQ h2 h3)));clear T0 hb hw h0 h1 h2 h3;go_enter func88,ntmps88
 go_wp2
 go_ret
 obtain ⟨h0,h1,h2,h3⟩:=H.out;exact ⟨_,⟨rfl,_,rfl,zr h0 h1 h2 h3⟩,T1.out.set (o+1) _⟩
theorem Et (b o:Nat) (T:XA) (C:Array Value) (n old new:Int) (hc:cellAt C o (WK WL n)) :
 Does prog 248 #[.pointer (some ⟨b,o,none⟩),WK WL old,WK WL new] [pt b T C] (zh b T C o (WK WL (if n=old then new else n)) (.bool (decide (n=old)))):=by
 intro w hw;obtain ⟨h0,l,t,u,h1,h2,h3⟩:=hc;have T0:=Qh.refl hw;have hb:=T0.blk 0 rfl;have c0:w.cell? ⟨b,o,none⟩=some (WK WL n):=(Q5 hb o).trans h0;have c2:w.cell? ⟨b,o+2,none⟩=some (WK WL t):=(Q5 hb (o+2)).trans h2;have c3:w.cell? ⟨b,o+3,none⟩=some (WK WL u):=(Q5 hb (o+3)).trans h3;have f0:=Xw hb o;have f2:=Xw hb (o+2);have f3:=Xw hb (o+3);have T1:=Vh T0;have H:=Vh (WQ h0 (WQ h1 (WQ h2 h3)));clear T0 hb hw h0 h1 h2 h3;by_cases he:n=old
 ·subst he
  skip
  all_goals
   go_enter func248,ntmps248
   go_wp2
   go_ret
   obtain ⟨h0,h1,h2,h3⟩:=H.out;exact ⟨_,⟨by simp,_,rfl,Lb h0 h1 h2 h3⟩,((T1.out.set (o+2) _).set o _).set (o+3) _⟩
 ·skip
  all_goals
   go_enter func248,ntmps248
   go_wp2
   go_ret
   obtain ⟨h0,h1,h2,h3⟩:=H.out;exact ⟨_,⟨by simp [he],_,rfl,Y8 h0 h1 h2 h3⟩,T1.out.set (o+2) _⟩
theorem RZ (b o:Nat) (T:XA) (C:Array Value) (n v:Int) (ok:Bool) (g:Nat) (aK:Array Value) (F:PH) (hc:cellAt C o (WK WL n))
 (eg:∀ args w,(callFunc g args).run prog w=.ok (.enter g args) w)
 (hg:Does prog g (#[WK WL n]++aK) F fun e h'=>e=WN (WO #[WK WL v,.bool ok])/\h'=F) :
 Does prog 210 #[.pointer (some ⟨b,o,none⟩),.func (.func g) #[] aK] (pt b T C::F) fun e h' =>
  e=WN (WO #[WK WL n,.bool ok])/\∃ C',h'=pt b T C'::F/\Xi C o (WK WL (if ok=true then v else n)) C':=by
 intro w hw;have T0:=Vh (Qh.refl hw);have HC:=Vh hc;have HG:=Vh hg;clear hw hc hg;cases ok
 ·go_enter func210,ntmps210
  go_wp2_with (first
   | (go_at_call 88;refine ((X9 b o T C n HC.out).use T0.out (WS _)).mono ?_
      rintro e w1 ⟨h',⟨rfl,C1,rfl,hr1⟩,T1⟩;have T1:=Vh T1;have HR1:=Vh hr1;clear hr1)
   | (refine (HG.out.use T1.out (WR (l₁:=[pt b T C1]) (l₂:=F))).mono ?_
      rintro e w2 ⟨h',⟨rfl,rfl⟩,T2⟩;have T2:=Vh T2))
  go_ret2
  exact ⟨_,⟨rfl,C1,rfl,HR1.out⟩,T2.out.perm (WR)⟩
 ·go_enter func210,ntmps210
  go_wp2_with (first
   | (go_at_call 88;refine ((X9 b o T C n HC.out).use T0.out (WS _)).mono ?_
      rintro e w1 ⟨h',⟨rfl,C1,rfl,hr1⟩,T1⟩;have T1:=Vh T1;have HR1:=Vh hr1;clear hr1)
   | (go_at_call 248;refine ((Et b o T C1 n n v HR1.out.cell).use T2.out (WR)).mono ?_
      rintro e w3 ⟨h',⟨rfl,C3,rfl,hr3⟩,T3⟩;rw [if_pos rfl] at hr3;have T3:=Vh T3;have HR3:=Vh hr3;clear hr3)
   | (refine (HG.out.use T1.out (WR (l₁:=[pt b T C1]) (l₂:=F))).mono ?_
      rintro e w2 ⟨h',⟨rfl,rfl⟩,T2⟩;have T2:=Vh T2))
  all_goals go_ret2
  all_goals exact ⟨_,⟨by simp,C3,rfl,HR1.out.trans HR3.out⟩,T3.out⟩
theorem Li (b o:Nat) (T:XA) (C:Array Value) (n:Int) (hc:cellAt C o (WK WM n)) :
 Does prog 100 #[.pointer (some ⟨b,o,none⟩)] [pt b T C] (zh b T C o (WK WM n) (WK WM n)):=by
 intro w hw;obtain ⟨h0,l,t,u,h1,h2,h3⟩:=hc;have T0:=Qh.refl hw;have hb:=T0.blk 0 rfl;have c0:w.cell? ⟨b,o,none⟩=some (WK WM n):=(Q5 hb o).trans h0;have c1:w.cell? ⟨b,o+1,none⟩=some (WK WL l):=(Q5 hb (o+1)).trans h1;have f1:=Xw hb (o+1);have T1:=Vh T0;have H:=Vh (WQ h0 (WQ h1 (WQ h2 h3)));clear T0 hb hw h0 h1 h2 h3;go_enter func100,ntmps100
 go_wp2
 go_ret
 obtain ⟨h0,h1,h2,h3⟩:=H.out;exact ⟨_,⟨rfl,_,rfl,zr h0 h1 h2 h3⟩,T1.out.set (o+1) _⟩
theorem L9 (b o:Nat) (T:XA) (C:Array Value) (n old new:Int) (hc:cellAt C o (WK WM n)) :
 Does prog 260 #[.pointer (some ⟨b,o,none⟩),WK WM old,WK WM new] [pt b T C] (zh b T C o (WK WM (if n=old then new else n)) (.bool (decide (n=old)))):=by
 intro w hw;obtain ⟨h0,l,t,u,h1,h2,h3⟩:=hc;have T0:=Qh.refl hw;have hb:=T0.blk 0 rfl;have c0:w.cell? ⟨b,o,none⟩=some (WK WM n):=(Q5 hb o).trans h0;have c2:w.cell? ⟨b,o+2,none⟩=some (WK WL t):=(Q5 hb (o+2)).trans h2;have c3:w.cell? ⟨b,o+3,none⟩=some (WK WL u):=(Q5 hb (o+3)).trans h3;have f0:=Xw hb o;have f2:=Xw hb (o+2);have f3:=Xw hb (o+3);have T1:=Vh T0;have H:=Vh (WQ h0 (WQ h1 (WQ h2 h3)));clear T0 hb hw h0 h1 h2 h3;by_cases he:n=old
 ·subst he
  skip
  all_goals
   go_enter func260,ntmps260
   go_wp2
   go_ret
   obtain ⟨h0,h1,h2,h3⟩:=H.out;exact ⟨_,⟨by simp,_,rfl,Lb h0 h1 h2 h3⟩,((T1.out.set (o+2) _).set o _).set (o+3) _⟩
 ·skip
  all_goals
   go_enter func260,ntmps260
   go_wp2
   go_ret
   obtain ⟨h0,h1,h2,h3⟩:=H.out;exact ⟨_,⟨by simp [he],_,rfl,Y8 h0 h1 h2 h3⟩,T1.out.set (o+2) _⟩
theorem Sa (b o:Nat) (T:XA) (C:Array Value) (n v:Int) (ok:Bool) (g:Nat) (aK:Array Value) (F:PH) (hc:cellAt C o (WK WM n))
 (eg:∀ args w,(callFunc g args).run prog w=.ok (.enter g args) w)
 (hg:Does prog g (#[WK WM n]++aK) F fun e h'=>e=WN (WO #[WK WM v,.bool ok])/\h'=F) :
 Does prog 249 #[.pointer (some ⟨b,o,none⟩),.func (.func g) #[] aK] (pt b T C::F) fun e h' =>
  e=WN (WO #[WK WM n,.bool ok])/\∃ C',h'=pt b T C'::F/\Xi C o (WK WM (if ok=true then v else n)) C':=by
 intro w hw;have T0:=Vh (Qh.refl hw);have HC:=Vh hc;have HG:=Vh hg;clear hw hc hg;cases ok
 ·go_enter func249,ntmps249
  go_wp2_with (first
   | (go_at_call 100;refine ((Li b o T C n HC.out).use T0.out (WS _)).mono ?_
      rintro e w1 ⟨h',⟨rfl,C1,rfl,hr1⟩,T1⟩;have T1:=Vh T1;have HR1:=Vh hr1;clear hr1)
   | (refine (HG.out.use T1.out (WR (l₁:=[pt b T C1]) (l₂:=F))).mono ?_
      rintro e w2 ⟨h',⟨rfl,rfl⟩,T2⟩;have T2:=Vh T2))
  go_ret2
  exact ⟨_,⟨rfl,C1,rfl,HR1.out⟩,T2.out.perm (WR)⟩
 ·go_enter func249,ntmps249
  go_wp2_with (first
   | (go_at_call 100;refine ((Li b o T C n HC.out).use T0.out (WS _)).mono ?_
      rintro e w1 ⟨h',⟨rfl,C1,rfl,hr1⟩,T1⟩;have T1:=Vh T1;have HR1:=Vh hr1;clear hr1)
   | (go_at_call 260;refine ((L9 b o T C1 n n v HR1.out.cell).use T2.out (WR)).mono ?_
      rintro e w3 ⟨h',⟨rfl,C3,rfl,hr3⟩,T3⟩;rw [if_pos rfl] at hr3;have T3:=Vh T3;have HR3:=Vh hr3;clear hr3)
   | (refine (HG.out.use T1.out (WR (l₁:=[pt b T C1]) (l₂:=F))).mono ?_
      rintro e w2 ⟨h',⟨rfl,rfl⟩,T2⟩;have T2:=Vh T2))
  all_goals go_ret2
  all_goals exact ⟨_,⟨by simp,C3,rfl,HR1.out.trans HR3.out⟩,T3.out⟩
structure Rec where
 w:Int
 g:Int
 p:Int
structure Qj where
 recs:List Rec
 count:Int
structure ik where
 p:Int
 next:Int
 aA:Int
 slot:Int
 id:Int
 st:Int
structure nY (r:Rec):Prop where
 w0:0<=r.w
 w1:r.w<18446744073709551616
 ok:okW r.w=true
 g0:0<=r.g
 g1:r.g<=X7 r.w
 p0:0<=r.p
 p1:r.p<18446744073709551616
structure Xc (s:Qj):Prop where
 n0:1<=s.recs.length
 n1:s.recs.length<=64
 c0:0<=s.count
 c1:s.count<=s.recs.length
 recs:∀ r∈s.recs,nY r
structure x8 (n:Nat) (q:ik):Prop where
 p0:0<=q.p
 p1:q.p<18446744073709551616
 gX:0<=q.slot
 iw:q.slot<n
 next:q.next=0\/(q.next=1/\0<=q.aA/\q.aA<n)\/q.next=2
def rF (s:Qj) (q:ik):ik:=if (s.recs.length:Int)<=s.count then { q with aA:=s.count,st:=1 } else { q with aA:=s.count,next:=1 }
def qH (s:Qj) (q:ik):Qj × ik:=if s.count=q.aA then ({ s with count:=s.count+1 },{ q with next:=2 }) else (s,{ q with next:=0 })
def Rec.zero:Rec:=⟨0,0,0⟩
def om (s:Qj) (q:ik):Qj × ik :=
 let r:=s.recs.getD q.slot.toNat Rec.zero
 let t:=Xo r.w 1 (decide (0<q.p))
 if t.2=0 then ({ s with recs:=s.recs.set q.slot.toNat ⟨t.1,r.g+1,q.p⟩ },{ q with id:=(r.g+1)*64+q.slot,st:=2 })
 else (s,{ q with slot:=(q.slot+1) % s.recs.length })
def Zf (s:Qj) (q:ik):Qj × ik :=
 if q.st≠0 then (s,q) else if q.next=0 then (s,rF s q) else if q.next=1 then qH s q else om s q
def Zu (n:Nat):Qj:=⟨List.replicate n Rec.zero,0⟩
def Qj.has (s:Qj) (k:Int):Prop:=0<=k/\k<s.recs.length
instance (s:Qj) (k:Int):Decidable (s.has k):=by unfold Qj.has;infer_instance
def Qj.period (s:Qj) (k:Int):Int:=if s.has k then (s.recs.getD k.toNat Rec.zero).p else 0
def Qj.word (s:Qj) (k:Int):Int:=if s.has k then (s.recs.getD k.toNat Rec.zero).w else 0
def Qj.kD (s:Qj) (k:Int):Int:=if s.has k then 0 else 4
def Qj.known (s:Qj) (id:Int):Prop:=id % 64<s.recs.length/\1<=id / 64/\id / 64<=(s.recs.getD (id % 64).toNat Rec.zero).g
instance (s:Qj) (k:Int):Decidable (s.known k):=by unfold Qj.known;infer_instance
def Qj.slot (s:Qj) (id:Int):Int:=if s.known id then id % 64 else 0
def Qj.fK (s:Qj) (id:Int):Int:=if s.known id then 0 else 1
def Qj.mine (s:Qj) (id:Int):Bool:=decide (s.known id) && decide ((s.recs.getD (id % 64).toNat Rec.zero).g=id / 64)
def Qj.try (s:Qj) (k old ev:Int):Qj × Int × Int :=
 if s.has k then
  let r:=s.recs.getD k.toNat Rec.zero
  let t:=Xo old ev (decide (0<r.p))
  if t.2≠0 then (s,r.w,t.2) else if r.w=old then ({ s with recs:=s.recs.set k.toNat { r with w:=t.1 } },t.1,0) else (s,r.w,10)
 else (s,0,4)
def Qj.drop (s:Qj):Qj × Int:=if 0<s.count then ({ s with count:=s.count - 1 },0) else (s,6)
theorem Qj.fC {s:Qj} {j:Nat} (h:s.has j):∃ r,s.recs[j]?=some r/\s.recs.getD (j:Int).toNat Rec.zero=r:=by
 have hj:j<s.recs.length:=by unfold Qj.has at h;omega
 exact ⟨s.recs[j],XB hj,by simp [hj]⟩
theorem Qj.eP {s:Qj} {k:Int} (h:s.has k):∃ j:Nat,k=j:=WT h.1
def recAt (C:Array Value) (i:Nat) (r:Rec):Prop:=cellAt C (i*6) (WK WM r.w)/\C[i*6+4]?=some (WK WM r.g)/\C[i*6+5]?=some (WK WM r.p)
def qK (rs:List Rec):Obj->Prop:=fun o=>∃ C,Ms 176 C o/\C.size=rs.length*6/\∀ i r,rs[i]?=some r->recAt C i r
def rJ (rb n:Nat) (c:Int):Obj->Prop:=fun o=>∃ C,Ms 163 C o/\C.size=5/\C[0]?=some (.slice (some ⟨rb,0,none⟩) n n)/\cellAt C 1 (WK WL c)
def zg (sb rb:Nat) (s:Qj):PH:=[(sb,rJ rb s.recs.length s.count),(rb,qK s.recs)]
def ou (sb:Nat) (q:ik):Array Value:=#[.pointer (some ⟨sb,0,none⟩),WK WM q.p,WK WL q.next,WK WL q.aA,WK WL q.slot,WK WM q.id,WK WL q.st]
def mG (qb sb:Nat) (q:ik):Piece:=pt qb 292 (ou sb q)
theorem QS {C C':Array Value} {i j:Nat} {r:Rec} {n:Int} (h:recAt C j r) (hc:Xi C (i*6) (WK WM n) C'):recAt C' j (if j=i then { r with w:=n } else r):=by
 obtain ⟨h0,h1,h2⟩:=h;by_cases e:j=i
 ·subst e
  rw [if_pos rfl];exact ⟨hc.cell,(hc.other _ (by omega)).trans h1,(hc.other _ (by omega)).trans h2⟩
 ·rw [if_neg e]
  exact ⟨hc.bU h0 (by omega),(hc.other _ (by omega)).trans h1,(hc.other _ (by omega)).trans h2⟩
theorem Lc {rs:List Rec} {C C':Array Value} {i:Nat} {r:Rec} {n:Int} (hs:C.size=rs.length*6) (h:∀ i r,rs[i]?=some r->recAt C i r) (hr:rs[i]?=some r) (hc:Xi C (i*6) (WK WM n) C') :
 C'.size=(rs.set i { r with w:=n }).length*6/\∀ j x,(rs.set i { r with w:=n })[j]?=some x->recAt C' j x:=by
 refine ⟨by rw [hc.size,hs,WY],fun j x hx=>?_⟩
 rw [WX] at hx;by_cases e:i=j
 ·subst e
  rw [if_pos rfl] at hx;split at hx
  ·cases hx;have:=QS (h i r hr) hc;rwa [if_pos rfl] at this
  ·cases hx
 ·rw [if_neg e] at hx
  have:=QS (h j x hx) hc;rwa [if_neg (fun x=>e x.symm)] at this
theorem LU {rs:List Rec} {C C':Array Value} {i:Nat} {r:Rec} (hs:C.size=rs.length*6) (h:∀ i r,rs[i]?=some r->recAt C i r) (hr:rs[i]?=some r) (hc:Xi C (i*6) (WK WM r.w) C') :
 C'.size=rs.length*6/\∀ j x,rs[j]?=some x->recAt C' j x:=by
 have:=Lc hs h hr hc
 have e:rs.set i { r with w:=r.w }=rs:=by
  apply List.ext_getElem? ;intro k;rw [WX];split
  ·next e=>subst e;split
           ·rw [hr]
           ·rename_i hn;exact absurd (WW.1 hr).1 hn
  ·rfl
 rwa [e] at this
theorem quo {C:Array Value} {i:Nat} {r:Rec} (h:recAt C i r) (n:Int):recAt (C.setIfInBounds (i*6+4) (WK WM n)) i { r with g:=n }:=by
 obtain ⟨⟨h0,l,t,u,a,b,c⟩,h1,h2⟩:=h;exact ⟨⟨(Qc (by omega)).trans h0,l,t,u,(Qc (by omega)).trans a,(Qc (by omega)).trans b,(Qc (by omega)).trans c⟩,Xa h1,(Qc (by omega)).trans h2⟩
theorem qup {C:Array Value} {i:Nat} {r:Rec} (h:recAt C i r) (n:Int):recAt (C.setIfInBounds (i*6+5) (WK WM n)) i { r with p:=n }:=by
 obtain ⟨⟨h0,l,t,u,a,b,c⟩,h1,h2⟩:=h;exact ⟨⟨(Qc (by omega)).trans h0,l,t,u,(Qc (by omega)).trans a,(Qc (by omega)).trans b,(Qc (by omega)).trans c⟩,(Qc (by omega)).trans h1,Xa h2⟩
theorem R6 {C:Array Value} {i j k:Nat} {r:Rec} {v:Value} (h:recAt C i r) (hk:j*6<=k/\k<j*6+6) (hij:i≠j):recAt (C.setIfInBounds k v) i r:=by
 obtain ⟨⟨h0,l,t,u,a,b,c⟩,h1,h2⟩:=h;exact ⟨⟨(Qc (by omega)).trans h0,l,t,u,(Qc (by omega)).trans a,(Qc (by omega)).trans b,(Qc (by omega)).trans c⟩,(Qc (by omega)).trans h1,(Qc (by omega)).trans h2⟩
theorem quq {rs:List Rec} {C C':Array Value} {i:Nat} {r:Rec} {n g p:Int} (hs:C.size=rs.length*6) (h:∀ i r,rs[i]?=some r->recAt C i r) (hr:rs[i]?=some r) (hc:Xi C (i*6) (WK WM n) C') :
 ((C'.setIfInBounds (i*6+4) (WK WM g)).setIfInBounds (i*6+5) (WK WM p)).size=(rs.set i ⟨n,g,p⟩).length*6 /\
   ∀ j x,(rs.set i ⟨n,g,p⟩)[j]?=some x->recAt ((C'.setIfInBounds (i*6+4) (WK WM g)).setIfInBounds (i*6+5) (WK WM p)) j x:=by
 obtain ⟨k1,k2⟩:=Lc hs h hr hc;refine ⟨by rw [XC,XC,k1,WY,WY],fun j x hx=>?_⟩
 have hi:=(WW.1 hr).1;rw [WX] at hx;by_cases e:i=j
 ·subst e
  rw [if_pos rfl,if_pos hi] at hx;cases hx
  have:=k2 i _ (by rw [WX,if_pos rfl,if_pos hi]);exact qup (quo this g) p
 ·rw [if_neg e] at hx
  have:=k2 j x (by rw [WX,if_neg e];exact hx);exact R6 (j:=i) (R6 (j:=i) this ⟨by omega,by omega⟩ (fun x=>e x.symm)) ⟨by omega,by omega⟩ (fun x=>e x.symm)
theorem Yi {C C':Array Value} {rb n:Nat} {c:Int} (hs:C.size=5) (h0:C[0]?=some (.slice (some ⟨rb,0,none⟩) n n)) (hc:Xi C 1 (WK WL c) C'):rJ rb n c (.cells C' 163 (0,0)) :=
 ⟨C',rfl,hc.size.trans hs,(hc.other 0 (by omega)).trans h0,hc.cell⟩
theorem qxn (qb sb rb:Nat) (s:Qj) (q:ik) :
 Does prog 214 #[.pointer (some ⟨qb,0,none⟩)] (mG qb sb q::zg sb rb s) fun e h'=>e=WN (WO #[])/\h'=mG qb sb (rF s q)::zg sb rb s:=by
 intro w hw;obtain ⟨o,⟨C,rfl,hs,h0,hc⟩,T0⟩:=(Qh.refl hw).dO 1 rfl;have q0:=Q5 (T0.blk 0 rfl);have hne:qb≠sb:=T0.ne 0 1 rfl rfl (by decide);simp only [ou] at q0;have HT:=Vh T0;have HC:=Vh (WQ hs (WQ h0 hc));clear hw hs h0 hc T0;by_cases hk:(s.recs.length:Int)<=s.count
 ·skip
  have HK:=Vh (show rF s q=_ from if_pos hk);go_enter func214,ntmps214
  go_wp2_with (
   go_at_call 88
   refine ((X9 sb 1 _ C s.count HC.out.2.2).at HT.out 1 rfl).mono ?_
   rintro e w1 ⟨h',⟨rfl,C1,rfl,hr1⟩,Ta⟩;have T1:=Ta _ rfl;clear Ta;have q1:=Q5 (T1.blk 0 rfl);have qf:=Xw (T1.blk 0 rfl);simp only [ou] at q1;have s1:=(Q5 (T1.blk 1 rfl) 0).trans ((hr1.other 0 (by omega)).trans HC.out.2.1);have HR1:=Vh hr1;have HT1:=Vh T1
   clear hr1 T1 q0)
  go_region
  go_wp2
  refine bodyPost_ret (WZ rfl _ _ _) rfl ⟨_,⟨rfl,?_⟩,(((HT1.out.setAt 0 rfl 3 _).drew).setAt 0 rfl 6 _).dF 1 rfl _ (fun o ho=>by cases ho;exact Yi HC.out.1 HC.out.2.1 HR1.out)⟩
  rw [HK.out];rfl
 ·skip
  have HK:=Vh (show rF s q=_ from if_neg hk);go_enter func214,ntmps214
  go_wp2_with (
   go_at_call 88
   refine ((X9 sb 1 _ C s.count HC.out.2.2).at HT.out 1 rfl).mono ?_
   rintro e w1 ⟨h',⟨rfl,C1,rfl,hr1⟩,Ta⟩;have T1:=Ta _ rfl;clear Ta;have q1:=Q5 (T1.blk 0 rfl);have qf:=Xw (T1.blk 0 rfl);simp only [ou] at q1;have s1:=(Q5 (T1.blk 1 rfl) 0).trans ((hr1.other 0 (by omega)).trans HC.out.2.1);have HR1:=Vh hr1;have HT1:=Vh T1
   clear hr1 T1 q0)
  go_region
  go_wp2
  refine XD (WZ rfl _ _ _) rfl ⟨_,⟨rfl,?_⟩,(((HT1.out.setAt 0 rfl 3 _).drew).setAt 0 rfl 2 _).dF 1 rfl _ (fun o ho=>by cases ho;exact Yi HC.out.1 HC.out.2.1 HR1.out)⟩
  rw [HK.out];rfl
theorem qxw (qb sb rb:Nat) (s:Qj) (q:ik) (b0:0<=q.aA) (b1:q.aA<64) :
 Does prog 215 #[.pointer (some ⟨qb,0,none⟩)] (mG qb sb q::zg sb rb s) fun e h'=>e=WN (WO #[])/\h'=mG qb sb (qH s q).2::zg sb rb (qH s q).1:=by
 intro w hw;obtain ⟨o,⟨C,rfl,hs,h0,hc⟩,T0⟩:=(Qh.refl hw).dO 1 rfl;have q0:=Q5 (T0.blk 0 rfl);have qf0:=Xw (T0.blk 0 rfl);have hne:qb≠sb:=T0.ne 0 1 rfl rfl (by decide);simp only [ou] at q0;have HT:=Vh T0;have HC:=Vh (WQ hs (WQ h0 hc));clear hw hs h0 hc T0;have hwr:wrap64 (q.aA+1)=q.aA+1:=by unfold wrap64;omega
 by_cases hk:s.count=q.aA
 ·have HK:=Vh (show qH s q=_ from if_pos hk)
  go_enter func215,ntmps215
  go_wp2
  go_region_held3 (fun w'=>w'.cell? ⟨qb,0,none⟩=some (.pointer (some ⟨sb,0,none⟩))/\w'.cell? ⟨qb,3,none⟩=some (WK WL q.aA)) (first | exact ⟨(HT.out.setAt 0 rfl 2 _).drew.cell 0 rfl 0,(HT.out.setAt 0 rfl 2 _).drew.cell 0 rfl 3⟩ | exact ⟨q1 0,q1 3⟩) ((
   go_at_call 248
   rw [KR (q.aA+1) (by omega) (by omega)];refine ((Et sb 1 _ C s.count q.aA (q.aA+1) HC.out.2.2).at (HT.out.setAt 0 rfl 2 _).drew 1 rfl).mono ?_
   rintro e w1 ⟨h',⟨rfl,C1,rfl,hr1⟩,Ta⟩;have T1:=Ta _ rfl;clear Ta;have q1:=Q5 (T1.blk 0 rfl);have qf:=Xw (T1.blk 0 rfl);rw [if_pos hk] at hr1;have HR1:=Vh hr1;have HT1:=Vh T1
   clear hr1 T1 q0))
  go_wp2
  refine XD (WZ rfl _ _ _) rfl ⟨_,⟨rfl,?_⟩,(HT1.out.setAt 0 rfl 2 _).dF 1 rfl _ (fun o ho=>by cases ho;exact Yi HC.out.1 HC.out.2.1 HR1.out)⟩
  rw [HK.out,hk];rfl
 ·have HK:=Vh (show qH s q=_ from if_neg hk)
  go_enter func215,ntmps215
  go_wp2
  go_region_held3 (fun w'=>w'.cell? ⟨qb,0,none⟩=some (.pointer (some ⟨sb,0,none⟩))/\w'.cell? ⟨qb,3,none⟩=some (WK WL q.aA)) (first | exact ⟨(HT.out.setAt 0 rfl 2 _).drew.cell 0 rfl 0,(HT.out.setAt 0 rfl 2 _).drew.cell 0 rfl 3⟩ | exact ⟨q1 0,q1 3⟩) ((
   go_at_call 248
   rw [KR (q.aA+1) (by omega) (by omega)];refine ((Et sb 1 _ C s.count q.aA (q.aA+1) HC.out.2.2).at (HT.out.setAt 0 rfl 2 _).drew 1 rfl).mono ?_
   rintro e w1 ⟨h',⟨rfl,C1,rfl,hr1⟩,Ta⟩;have T1:=Ta _ rfl;clear Ta;have q1:=Q5 (T1.blk 0 rfl);have qf:=Xw (T1.blk 0 rfl);rw [if_neg hk] at hr1;have HR1:=Vh hr1;have HT1:=Vh T1
   clear hr1 T1 q0))
  go_wp2
  refine XD (WZ rfl _ _ _) rfl ⟨_,⟨rfl,?_⟩,HT1.out.dF 1 rfl _ (fun o ho=>by cases ho;exact Yi HC.out.1 HC.out.2.1 HR1.out)⟩
  rw [HK.out];rfl
theorem R7 (xb qb sb:Nat) (q:ik) (n:Int) (h0:0<=n) (h1:n<18446744073709551616) :
 Does prog 250 #[WK WM n,.pointer (some ⟨xb,0,none⟩)] [pt xb 146 #[.pointer (some ⟨qb,0,none⟩)],mG qb sb q] fun e h' =>
  e=WN (WO #[WK WM (Xo n 1 (decide (0<q.p))).1,.bool ((Xo n 1 (decide (0<q.p))).2 == 0)])/\h'=[pt xb 146 #[.pointer (some ⟨qb,0,none⟩)],mG qb sb q]:=by
 intro w hw;have T0:=Qh.refl hw;have x0:=T0.cell 0 rfl 0;have q0:=T0.cell 1 (show _=some (pt qb _ _) from rfl) 1;simp [ou] at x0 q0
 have HT:=Vh T0;clear hw T0;go_enter func250,ntmps250
 go_wp2_with (
  go_at_call 225
  refine (Gs _ _ _ _ h0 h1).mono ?_
  rintro e w1 ⟨rfl,rfl⟩)
 all_goals go_ret2
 all_goals exact ⟨_,⟨by simp_all,rfl⟩,HT.out⟩
theorem qyz (qb sb rb:Nat) (s:Qj) (q:ik) (k:Nat) (r:Rec) (hk:q.slot=k) (hr:s.recs[k]?=some r) (ho:nY r) (hn:s.recs.length<=64) :
 Does prog 216 #[.pointer (some ⟨qb,0,none⟩)] (mG qb sb q::zg sb rb s) fun e h'=>e=WN (WO #[])/\h'=mG qb sb (om s q).2::zg sb rb (om s q).1:=by
 intro w hw;obtain ⟨o,⟨C,rfl,hs,h0,hc⟩,T0⟩:=(Qh.refl hw).dO 1 rfl;obtain ⟨o,⟨D,rfl,hd,hD⟩,T0⟩:=T0.dO 2 rfl;have q0:=T0.cell 0 (show _=some (pt qb _ _) from rfl);have s0:w.cell? ⟨sb,0,none⟩=_:=(T0.cell 1 (show _=some (pt sb _ _) from rfl) 0).trans h0;have kJ:qb≠sb:=T0.ne 0 1 rfl rfl (by decide);have hqr:qb≠rb:=T0.ne 0 2 rfl rfl (by decide);have hkl:=(WW.1 hr).1;simp only [ou] at q0;have HT:=Vh T0;have HC:=Vh (WQ hs (WQ h0 hc));have HD:=Vh (WQ hd hD);have HR:=Vh hr;have HO:=Vh ho;have hlq:=T0.lt 0 (show _=some (pt qb _ _) from rfl);have hls:=T0.lt 1 (show _=some (pt sb _ _) from rfl);simp only [] at hlq hls;clear hw hs h0 hc T0 hd hD hr ho;obtain ⟨v,hv⟩:∃ v,Xo r.w 1 (decide (0<q.p))=v:=⟨_,rfl⟩;obtain ⟨n1,e1⟩:=v;have HV:=Vh hv;clear hv;rw [hk] at q0
 have hperm:∀ (b x:Piece) (D':Array Value),[b,x,(sb,fun o=>o=Obj.cells C 163 (0,0)),pt rb 176 D'].Perm ((pt rb 176 D'::[b,x])++[(sb,fun o=>o=Obj.cells C 163 (0,0))]) :=
  fun b x D'=>(Eo 3 rfl rfl)
 obtain ⟨hg0,hg1⟩:0<=r.g/\r.g<=4294967295:=⟨HO.out.g0,XH HO.out.g1 (uH _ HO.out.w0 HO.out.ok).2.2.2⟩;by_cases he:e1=0
 ·subst he
  have HK:=Vh (show om s q=({ s with recs:=s.recs.set k ⟨n1,r.g+1,q.p⟩ },{ q with id:=(r.g+1)*64+q.slot,st:=2 }) from by
   unfold om;simp only [hk,XE,WU,HR.out,XF,HV.out];rfl)
  go_enter func216,ntmps216
  go_wp2
  go_region
  go_wp2_with (
   go_at_call 249
   refine ((Sa rb (k*6) 176 D r.w n1 true 250 #[.pointer (some ⟨w.heap.size,0,none⟩)] [pt w.heap.size 146 #[.pointer (some ⟨qb,0,none⟩)],mG qb sb q]
    (HD.out.2 k r HR.out).1 (enters_of func250 (by kernel_rfl) rfl)
    ((R7 w.heap.size qb sb q r.w HO.out.w0 HO.out.w1).mono (fun e h' hh=>by rw [HV.out] at hh;exact hh))).use (HT.out.alloc rfl _ _).drew (hperm _ _ _)).mono ?_
   rintro e w1 ⟨h',⟨rfl,D1,rfl,hr1⟩,T1⟩;have q1:=T1.cell 2 (show _=some (pt qb _ _) from rfl);have x1:=T1.cell 1 (show _=some (pt w.heap.size _ _) from rfl);have s1:w1.cell? ⟨sb,0,none⟩=_:=(T1.cell 3 (show _=some (pt sb _ _) from rfl) 0).trans HC.out.2.1;have g1:=(T1.cell 0 (show _=some (pt rb _ _) from rfl) (k*6+4)).trans ((hr1.other (k*6+4) (by omega)).trans (HD.out.2 k r HR.out).2.1);have p1:=(T1.cell 0 (show _=some (pt rb _ _) from rfl) (k*6+5)).trans ((hr1.other (k*6+5) (by omega)).trans (HD.out.2 k r HR.out).2.2);have f1:=T1.free 0 (show _=some (pt rb _ _) from rfl);have f2:=T1.free 2 (show _=some (pt qb _ _) from rfl);simp only [ou,hk] at q1;have HR1:=Vh hr1;have HT1:=Vh T1
   clear hr1 T1)
  go_region
  go_wp2
  refine XD (WZ rfl _ _ _) rfl ⟨_,⟨rfl,?_⟩,Qh.drop1 (((((((HT1.out.setAt 0 rfl (k*6+4) _).setAt 0 rfl (k*6+5) _).setAt 2 rfl 5 _).setAt 2 rfl 6 _).drew.dF 0 rfl
   (qK (s.recs.set k ⟨n1,r.g+1,q.p⟩)) ?_).dF 3 rfl (rJ rb (s.recs.set k ⟨n1,r.g+1,q.p⟩).length s.count) ?_).perm (WR (l₁:=[_]) (l₂:=[_,_,_])))⟩
  ·rw [HK.out,<- hk];rfl
  ·intro o ho;cases ho
   exact ⟨_,rfl,quq HD.out.1 HD.out.2 HR.out HR1.out⟩
  ·intro o ho;cases ho;rw [WY];exact ⟨C,rfl,HC.out⟩
 ·have HK:=Vh (show om s q=(s,{ q with slot:=(q.slot+1) % s.recs.length }) from by
   unfold om;simp only [hk,XE,WU,HR.out,XF,HV.out];exact if_neg he)
  go_enter func216,ntmps216
  go_wp2
  go_region
  go_wp2_with (
   go_at_call 249
   refine ((Sa rb (k*6) 176 D r.w n1 false 250 #[.pointer (some ⟨w.heap.size,0,none⟩)] [pt w.heap.size 146 #[.pointer (some ⟨qb,0,none⟩)],mG qb sb q]
    (HD.out.2 k r HR.out).1 (enters_of func250 (by kernel_rfl) rfl)
    ((R7 w.heap.size qb sb q r.w HO.out.w0 HO.out.w1).mono (fun e h' hh=>by rw [HV.out,show ((e1 == 0)=false) from by simpa using he] at hh;exact hh))).use (HT.out.alloc rfl _ _).drew (hperm _ _ _)).mono ?_
   rintro e w1 ⟨h',⟨rfl,D1,rfl,hr1⟩,T1⟩;have q1:=T1.cell 2 (show _=some (pt qb _ _) from rfl);have x1:=T1.cell 1 (show _=some (pt w.heap.size _ _) from rfl);have s1:w1.cell? ⟨sb,0,none⟩=_:=(T1.cell 3 (show _=some (pt sb _ _) from rfl) 0).trans HC.out.2.1;have g1:=(T1.cell 0 (show _=some (pt rb _ _) from rfl) (k*6+4)).trans ((hr1.other (k*6+4) (by omega)).trans (HD.out.2 k r HR.out).2.1);have p1:=(T1.cell 0 (show _=some (pt rb _ _) from rfl) (k*6+5)).trans ((hr1.other (k*6+5) (by omega)).trans (HD.out.2 k r HR.out).2.2);have f1:=T1.free 0 (show _=some (pt rb _ _) from rfl);have f2:=T1.free 2 (show _=some (pt qb _ _) from rfl);simp only [ou,hk] at q1;have HR1:=Vh hr1;have HT1:=Vh T1
   clear hr1 T1)
  go_region
  go_wp2
  refine bodyPost_ret (WZ rfl _ _ _) rfl ⟨_,⟨rfl,?_⟩,Qh.drop1 (((((HT1.out.setAt 2 rfl 4 _).drew.dF 0 rfl
   (qK s.recs) ?_).dF 3 rfl (rJ rb s.recs.length s.count) ?_).perm (WR (l₁:=[_]) (l₂:=[_,_,_]))))⟩
  ·rw [HK.out,hk];rfl
  ·intro o ho;cases ho
   exact ⟨_,rfl,LU HD.out.1 HD.out.2 HR.out HR1.out⟩
  ·intro o ho;cases ho;exact ⟨C,rfl,HC.out⟩
def wC (rb n:Nat) (k:Int):Value:=if 0<=k/\k<n then .pointer (some ⟨rb,k.toNat*6,none⟩) else WV none
theorem MU (rb:Nat) {s:Qj} {j:Nat} (h:s.has j):wC rb s.recs.length j=.pointer (some ⟨rb,j*6,none⟩):=(if_pos h).trans (by simp)
theorem UG (rb:Nat) {s:Qj} {k:Int} (h:¬ s.has k):wC rb s.recs.length k=WV none:=if_neg h
theorem Jn (sb rb n:Nat) (c:Int) (k:Int) (hn:n<=64) :
 Does prog 99 #[.pointer (some ⟨sb,0,none⟩),WK WL k] [(sb,rJ rb n c)] fun e h'=>e=WN (wC rb n k)/\h'=[(sb,rJ rb n c)]:=by
 intro w hw;obtain ⟨o,⟨C,rfl,hs,h0,hc⟩,T0⟩:=(Qh.refl hw).dO 0 rfl;have s0:w.cell? ⟨sb,0,none⟩=_:=(T0.cell 0 (show _=some (pt sb _ _) from rfl) 0).trans h0;have HT:=Vh (T0.dF 0 rfl (rJ rb n c) (fun o ho=>by cases ho;exact ⟨C,rfl,hs,h0,hc⟩));clear hw hs h0 hc T0;by_cases h1:0<=k
 ·obtain ⟨j,rfl⟩:=WT h1
  by_cases h2:j<n
  ·have HV:=Vh (show wC rb n (j:Int)=.pointer (some ⟨rb,j*6,none⟩) from by unfold wC;rw [if_pos ⟨h1,by omega⟩];simp)
   go_enter func99,ntmps99
   go_wp2
   all_goals go_ret
   all_goals exact ⟨_,⟨by rw [HV.out];rfl,rfl⟩,HT.out⟩
  ·have HV:=Vh (show wC rb n (j:Int)=WV none from by unfold wC;rw [if_neg (by omega)])
   go_enter func99,ntmps99
   go_wp2
   all_goals go_ret
   all_goals exact ⟨_,⟨by rw [HV.out];rfl,rfl⟩,HT.out⟩
 ·have HV:=Vh (show wC rb n k=WV none from by unfold wC;rw [if_neg (by omega)])
  go_enter func99,ntmps99
  go_wp2
  all_goals go_ret
  all_goals exact ⟨_,⟨by rw [HV.out];rfl,rfl⟩,HT.out⟩
theorem qur (qb sb:Nat) (q:ik) :
 Does prog 183 #[.pointer (some ⟨qb,0,none⟩)] [mG qb sb q] fun e h' =>
  e=WN (WO #[WK WM (if q.st=2 then q.id else 0),WK WL (if q.st=2 then 0 else 7)])/\h'=[mG qb sb q]:=by
 intro w hw;have T0:=Qh.refl hw;have q0:=T0.cell 0 (show _=some (pt qb _ _) from rfl);simp only [ou] at q0;have HT:=Vh T0;clear hw T0;by_cases h2:q.st=2
 all_goals
  go_enter func183,ntmps183
  go_wp2
  all_goals go_ret2
  all_goals exact ⟨_,⟨by simp [h2],rfl⟩,HT.out⟩
theorem qi7 (sb:Nat) (p:Int) :
 Does prog 141 #[.pointer (some ⟨sb,0,none⟩),WK WM p] [] fun e h' =>
  ∃ qb,e=WN (.pointer (some ⟨qb,0,none⟩))/\h'=[mG qb sb ⟨p,0,0,0,0,0⟩]:=by
 intro w hw;have HT:=Vh (Qh.refl hw);clear hw;go_enter func141,ntmps141
 go_wp2
 go_ret
 exact ⟨_,⟨_,rfl,rfl⟩,HT.out.alloc rfl _ _⟩
theorem qr (sb rb:Nat) (s:Qj) (k:Int) (hn:s.recs.length<=64) :
 Does prog 38 #[.pointer (some ⟨sb,0,none⟩),WK WL k] (zg sb rb s) fun e h' =>
  e=WN (WO #[WK WM (s.word k),WK WL (s.kD k)])/\h'=zg sb rb s:=by
 intro w hw;have HT:=Vh (Qh.refl hw);clear hw;by_cases h:s.has k
 ·obtain ⟨j,rfl⟩:=Qj.eP h
  obtain ⟨r,hr,hrd⟩:=Qj.fC h;have HV:=Vh (MU rb h);have HP:=Vh (show s.word j=r.w/\s.kD j=0 from ⟨by unfold Qj.word;rw [if_pos h,hrd],if_pos h⟩);clear hrd h;have HR:=Vh hr;clear hr;go_enter func38,ntmps38
  go_wp2_with (first
   | (go_at_call 99
      refine ((Jn sb rb s.recs.length s.count j hn).at HT.out 0 rfl).mono ?_
      rintro e w1 ⟨h',⟨he,rfl⟩,Ta⟩;rw [HV.out] at he;subst he;obtain ⟨o,⟨D,rfl,hd,hD⟩,T1⟩:=(Ta _ rfl).dO 1 rfl;have HD:=Vh (WQ hd hD);have HT1:=Vh T1
      clear T1 hd hD Ta)
   | (go_at_call 100
      refine ((Li rb (j*6) _ D r.w (HD.out.2 j r HR.out).1).at HT1.out 1 rfl).mono ?_
      rintro e w2 ⟨h',⟨rfl,C1,rfl,hr1⟩,Ta⟩;have HR1:=Vh hr1;have HT2:=Vh ((Ta _ rfl).dF 1 rfl (qK s.recs) (fun o ho=>by cases ho;exact ⟨C1,rfl,LU HD.out.1 HD.out.2 HR.out HR1.out⟩))
      clear Ta hr1))
  go_ret2
  exact ⟨_,⟨by rw [HP.out.1,HP.out.2];rfl,rfl⟩,HT2.out⟩
 ·have HV:=Vh (UG rb h)
  have HP:=Vh (show s.word k=0/\s.kD k=4 from ⟨if_neg h,if_neg h⟩);clear h;go_enter func38,ntmps38
  go_wp2_with (
   go_at_call 99
   refine ((Jn sb rb s.recs.length s.count k hn).at HT.out 0 rfl).mono ?_
   rintro e w1 ⟨h',⟨he,rfl⟩,Ta⟩;rw [HV.out] at he;subst he;have HT1:=Vh (Ta _ rfl)
   clear Ta)
  go_ret2
  exact ⟨_,⟨by rw [HP.out.1,HP.out.2];rfl,rfl⟩,HT1.out⟩
theorem Qj.tT {s:Qj} {id:Int} (h0:0<=id) (h:s.known id):∃ (j:Nat) (r:Rec),id % 64=j/\s.recs[j]?=some r/\1<=id / 64/\id / 64<=r.g/\s.has j/\s.recs.getD (id % 64).toNat Rec.zero=r:=by
 have h1:0<=id % 64:=by omega
 have hh:s.has (id % 64):=⟨h1,h.1⟩;obtain ⟨j,hj⟩:=Qj.eP hh;rw [hj] at hh;obtain ⟨r,hr,hg⟩:=Qj.fC hh;rw [<- hj] at hg;have h3:=h.2.2;rw [hg] at h3;exact ⟨j,r,hj,hr,h.2.1,h3,hh,hg⟩
theorem KU (sb rb:Nat) (s:Qj) (id:Int) (hn:s.recs.length<=64) (h0:0<=id) (h1:id<18446744073709551616) :
 Does prog 223 #[.pointer (some ⟨sb,0,none⟩),WK WM id] (zg sb rb s) fun e h' =>
  e=WN (WO #[WK WL (s.slot id),WK WL (s.fK id)])/\h'=zg sb rb s:=by
 intro w hw;have HT:=Vh (Qh.refl hw);clear hw;have hm0:0<=id % 64:=by omega
 obtain ⟨j,hj⟩:=WT hm0;by_cases hh:s.has (j:Int)
 ·obtain ⟨r,hr,hg⟩:=Qj.fC hh
  have HV:=Vh (MU rb hh);have HR:=Vh hr
  have hkn:s.known id↔1<=id / 64/\id / 64<=r.g:=by
   unfold Qj.known;rw [hj,hg];exact ⟨fun x=>x.2,fun x=>⟨hh.2,x⟩⟩
  by_cases hk:1<=id / 64/\id / 64<=r.g
  ·have HP:=Vh (show s.slot id=j/\s.fK id=0 from ⟨(if_pos (hkn.2 hk)).trans hj,if_pos (hkn.2 hk)⟩)
   obtain ⟨k1,k2⟩:=hk;clear hh hr hg hkn;go_enter func223,ntmps223
   go_wp2_with (
    go_at_call 99
    refine ((Jn sb rb s.recs.length s.count _ hn).at HT.out 0 rfl).mono ?_
    rintro e w1 ⟨h',⟨he,rfl⟩,Ta⟩;rw [HV.out] at he;subst he;obtain ⟨o,⟨D,rfl,hd,hD⟩,T1⟩:=(Ta _ rfl).dO 1 rfl;have d1:w1.cell? ⟨rb,j*6+4,none⟩=_:=(T1.cell 1 (show _=some (pt rb _ _) from rfl) _).trans (hD j r HR.out).2.1;have HT1:=Vh (T1.dF 1 rfl (qK s.recs) (fun o ho=>by cases ho;exact ⟨D,rfl,hd,hD⟩))
    clear T1 hd hD Ta)
   all_goals go_ret2
   all_goals exact ⟨_,⟨by rw [HP.out.1,HP.out.2,<- hj];rfl,rfl⟩,HT1.out⟩
  ·have HP:=Vh (show s.slot id=0/\s.fK id=1 from ⟨if_neg (fun x=>hk (hkn.1 x)),if_neg (fun x=>hk (hkn.1 x))⟩)
   clear hh hr hg hkn;by_cases k1:1<=id / 64
   ·have k2:¬ id / 64<=r.g:=fun x=>hk ⟨k1,x⟩
    clear hk;go_enter func223,ntmps223
    go_wp2_with (
     go_at_call 99
     refine ((Jn sb rb s.recs.length s.count _ hn).at HT.out 0 rfl).mono ?_
     rintro e w1 ⟨h',⟨he,rfl⟩,Ta⟩;rw [HV.out] at he;subst he;obtain ⟨o,⟨D,rfl,hd,hD⟩,T1⟩:=(Ta _ rfl).dO 1 rfl;have d1:w1.cell? ⟨rb,j*6+4,none⟩=_:=(T1.cell 1 (show _=some (pt rb _ _) from rfl) _).trans (hD j r HR.out).2.1;have HT1:=Vh (T1.dF 1 rfl (qK s.recs) (fun o ho=>by cases ho;exact ⟨D,rfl,hd,hD⟩))
     clear T1 hd hD Ta)
    all_goals go_ret2
    all_goals exact ⟨_,⟨by rw [HP.out.1,HP.out.2];rfl,rfl⟩,HT1.out⟩
   ·clear hk
    go_enter func223,ntmps223
    go_wp2_with (
     go_at_call 99
     refine ((Jn sb rb s.recs.length s.count _ hn).at HT.out 0 rfl).mono ?_
     rintro e w1 ⟨h',⟨he,rfl⟩,Ta⟩;rw [HV.out] at he;subst he;obtain ⟨o,⟨D,rfl,hd,hD⟩,T1⟩:=(Ta _ rfl).dO 1 rfl;have d1:w1.cell? ⟨rb,j*6+4,none⟩=_:=(T1.cell 1 (show _=some (pt rb _ _) from rfl) _).trans (hD j r HR.out).2.1;have HT1:=Vh (T1.dF 1 rfl (qK s.recs) (fun o ho=>by cases ho;exact ⟨D,rfl,hd,hD⟩))
     clear T1 hd hD Ta)
    all_goals go_ret2
    all_goals exact ⟨_,⟨by rw [HP.out.1,HP.out.2];rfl,rfl⟩,HT1.out⟩
 ·have HV:=Vh (UG rb hh)
  have HP:=Vh (show s.slot id=0/\s.fK id=1 from ⟨if_neg (fun x=>hh (by rw [<- hj];exact ⟨hm0,x.1⟩)),if_neg (fun x=>hh (by rw [<- hj];exact ⟨hm0,x.1⟩))⟩);clear hh;go_enter func223,ntmps223
  go_wp2_with (
   go_at_call 99
   refine ((Jn sb rb s.recs.length s.count _ hn).at HT.out 0 rfl).mono ?_
   rintro e w1 ⟨h',⟨he,rfl⟩,Ta⟩;rw [HV.out] at he;subst he;have HT1:=Vh (Ta _ rfl)
   clear Ta)
  all_goals go_ret2
  all_goals exact ⟨_,⟨by rw [HP.out.1,HP.out.2];rfl,rfl⟩,HT1.out⟩
theorem qlu (sb rb:Nat) (s:Qj) (id:Int) (hn:s.recs.length<=64) (h0:0<=id) (h1:id<18446744073709551616) :
 Does prog 224 #[.pointer (some ⟨sb,0,none⟩),WK WM id] (zg sb rb s) fun e h' =>
  e=WN (.bool (s.mine id))/\h'=zg sb rb s:=by
 intro w hw;have HT:=Vh (Qh.refl hw);clear hw;by_cases hk:s.known id
 ·obtain ⟨j,r,hj,hr,k1,k2,hh,hg⟩:=Qj.tT h0 hk
  have HP:=Vh (show s.slot id=j/\s.fK id=0/\s.mine id=decide (r.g=id / 64) from ⟨(if_pos hk).trans hj,if_pos hk,by unfold Qj.mine;rw [hg,decide_eq_true hk];rfl⟩);have HR:=Vh hr;have hjl:j<s.recs.length:=by have:=hh.2;omega
  clear hk hj hr hh hg;go_enter func224,ntmps224
  go_wp2_with (
   go_at_call 223
   refine ((KU sb rb s id hn h0 h1).use HT.out (WS _)).mono ?_
   rw [HP.out.1,HP.out.2.1];rintro e w1 ⟨h',⟨rfl,rfl⟩,Ta⟩;obtain ⟨o,⟨C,rfl,hs,hc0,hc⟩,T1⟩:=Ta.dO 0 rfl;have s1:w1.cell? ⟨sb,0,none⟩=_:=(T1.cell 0 (show _=some (pt sb _ _) from rfl) 0).trans hc0;have T1:=T1.dF 0 rfl (rJ rb s.recs.length s.count) (fun o ho=>by cases ho;exact ⟨C,rfl,hs,hc0,hc⟩);obtain ⟨o,⟨D,rfl,hd,hD⟩,T1⟩:=T1.dO 1 rfl;have d1:w1.cell? ⟨rb,j*6+4,none⟩=_:=(T1.cell 1 (show _=some (pt rb _ _) from rfl) _).trans (hD j r HR.out).2.1;have HT1:=Vh (T1.dF 1 rfl (qK s.recs) (fun o ho=>by cases ho;exact ⟨D,rfl,hd,hD⟩))
   clear T1 hd hD Ta hs hc0 hc)
  go_ret
  exact ⟨_,⟨by rw [HP.out.2.2];rfl,rfl⟩,HT1.out⟩
 ·have HP:=Vh (show s.slot id=0/\s.fK id=1/\s.mine id=false from ⟨if_neg hk,if_neg hk,by unfold Qj.mine;rw [decide_eq_false hk];rfl⟩)
  clear hk;go_enter func224,ntmps224
  go_wp2_with (
   go_at_call 223
   refine ((KU sb rb s id hn h0 h1).use HT.out (WS _)).mono ?_
   rw [HP.out.1,HP.out.2.1];rintro e w1 ⟨h',⟨rfl,rfl⟩,Ta⟩;have HT1:=Vh Ta
   clear Ta)
  go_ret
  exact ⟨_,⟨by rw [HP.out.2.2];rfl,rfl⟩,HT1.out⟩
theorem qi8 (n:Int) (h0:0<=n) (h1:n<=64) :
 Does prog 270 #[WK WL n] [] fun e h'=>e=WN (WO #[WK WL (n - 1),.bool (decide (0<n))])/\h'=[]:=by
 intro w hw;have HT:=Vh (Qh.refl hw);clear hw;go_enter func270,ntmps270
 go_wp2
 all_goals go_ret2
 all_goals exact ⟨_,⟨rfl,rfl⟩,HT.out⟩
theorem qlt (sb rb:Nat) (s:Qj) (h0:0<=s.count) (h1:s.count<=64) :
 Does prog 254 #[.pointer (some ⟨sb,0,none⟩)] (zg sb rb s) fun e h'=>e=WN (WK WL s.drop.2)/\h'=zg sb rb s.drop.1:=by
 intro w hw;obtain ⟨o,⟨C,rfl,hs,hc0,hc⟩,T0⟩:=(Qh.refl hw).dO 0 rfl;have HT:=Vh T0;have HC:=Vh (WQ hs (WQ hc0 hc));have HD:=Vh (qi8 s.count h0 h1);clear hw hs hc0 hc T0;by_cases hk:0<s.count
 all_goals
  go_enter func254,ntmps254
  go_wp2_with (
   go_at_call 210
   refine ((RZ sb 1 163 C s.count (s.count - 1) (decide (0<s.count)) 270 #[] [] HC.out.2.2 (enters_of func270 (by kernel_rfl) rfl) HD.out).at HT.out 0 rfl).mono ?_
   rintro e w1 ⟨h',⟨rfl,C1,rfl,hr1⟩,Ta⟩;simp only [hk] at hr1 |-;have HR1:=Vh hr1;have HT1:=Vh (Ta _ rfl)
   clear Ta hr1)
  all_goals go_ret
 ·have HP:=show s.drop=_ from if_pos hk
  exact ⟨_,⟨by rw [HP];rfl,by rw [HP];rfl⟩,HT1.out.dF 0 rfl (rJ rb s.recs.length (s.count - 1)) (fun o ho=>by cases ho;exact Yi HC.out.1 HC.out.2.1 (by simpa using HR1.out))⟩
 ·have HP:=show s.drop=_ from if_neg (by omega)
  exact ⟨_,⟨by rw [HP];rfl,by rw [HP];rfl⟩,HT1.out.dF 0 rfl (rJ rb s.recs.length s.count) (fun o ho=>by cases ho;exact Yi HC.out.1 HC.out.2.1 (by simpa using HR1.out))⟩
theorem U1 {s:Qj} {C C':Array Value} {j:Nat} {r:Rec} {old n:Int} (hs:C.size=s.recs.length*6) (h:∀ i r,s.recs[i]?=some r->recAt C i r) (hr:s.recs[j]?=some r)
 (hc:Xi C (j*6) (WK WM (if r.w=old then n else r.w)) C'):qK (if r.w=old then s.recs.set j { r with w:=n } else s.recs) (.cells C' 176 (0,0)):=by
 by_cases e:r.w=old
 ·rw [if_pos e] at hc |-;exact ⟨C',rfl,Lc hs h hr hc⟩
 ·rw [if_neg e] at hc |-;exact ⟨C',rfl,LU hs h hr hc⟩
theorem qny (sb rb:Nat) (s:Qj) (k old ev:Int) (hn:s.recs.length<=64) (h0:0<=old) (h1:old<18446744073709551616) :
 Does prog 228 #[.pointer (some ⟨sb,0,none⟩),WK WL k,WK WM old,WK WL ev] (zg sb rb s) fun e h' =>
  e=WN (WO #[WK WM (s.try k old ev).2.1,WK WL (s.try k old ev).2.2])/\h'=zg sb rb (s.try k old ev).1:=by
 intro w hw;have HT:=Vh (Qh.refl hw);clear hw;by_cases hh:s.has k
 ·obtain ⟨j,rfl⟩:=Qj.eP hh
  obtain ⟨r,hr,hg⟩:=Qj.fC hh;have HV:=Vh (MU rb hh);have HR:=Vh hr;have HW:=Vh (show s.word j=r.w/\s.kD j=0 from ⟨by unfold Qj.word;rw [if_pos hh,hg],if_pos hh⟩);obtain ⟨t,ht⟩:∃ t,Xo old ev (decide (0<r.p))=t:=⟨_,rfl⟩;obtain ⟨n1,e1⟩:=t;have HN:=Vh ht
  have HP:=Vh (show s.try j old ev=if e1≠0 then (s,r.w,e1) else if r.w=old then ({ s with recs:=s.recs.set j { r with w:=n1 } },n1,0) else (s,r.w,10) from by
   unfold Qj.try;rw [if_pos hh];dsimp only;rw [hg,ht];rfl)
  clear hh hr hg ht;by_cases he:e1=0
  ·subst he
   by_cases ho:r.w=old
   all_goals
    go_enter func228,ntmps228
    go_wp2_with (first
     | (go_at_call 38
        refine ((qr sb rb s j hn).use HT.out (WS _)).mono ?_
        rw [HW.out.1,HW.out.2];rintro e w1 ⟨h',⟨rfl,rfl⟩,Ta⟩;have HT1:=Vh Ta
        clear Ta)
     | (go_at_call 99
        refine ((Jn sb rb s.recs.length s.count j hn).at HT1.out 0 rfl).mono ?_
        rintro e w2 ⟨h',⟨he,rfl⟩,Ta⟩;rw [HV.out] at he;subst he;obtain ⟨o,⟨D,rfl,hd,hD⟩,T1⟩:=(Ta _ rfl).dO 1 rfl;have d1:w2.cell? ⟨rb,j*6+5,none⟩=_:=(T1.cell 1 (show _=some (pt rb _ _) from rfl) _).trans (hD j r HR.out).2.2;have HD:=Vh (WQ hd hD);have HT2:=Vh T1
        clear T1 hd hD Ta)
     | (go_at_call 225;refine (Gs _ _ _ _ h0 h1).mono ?_;rw [HN.out];rintro e w3 ⟨rfl,rfl⟩)
     | (go_at_call 260
        refine ((L9 rb (j*6) _ D r.w old n1 (HD.out.2 j r HR.out).1).at HT2.out 1 rfl).mono ?_
        rintro e w4 ⟨h',⟨rfl,C1,rfl,hr1⟩,Ta⟩;have HR1:=Vh (U1 HD.out.1 HD.out.2 HR.out hr1);have HT3:=Vh (Ta _ rfl)
        clear Ta hr1))
    go_ret2
   ·rw [if_pos ho] at HR1
    exact ⟨_,⟨by rw [HP.out,if_neg (by simp),if_pos ho];rfl,by rw [HP.out,if_neg (by simp),if_pos ho];rfl⟩,(HT3.out.dF 1 rfl (qK (s.recs.set j { r with w:=n1 })) (fun o hx=>by cases hx;exact HR1.out)).dF 0 rfl
     (rJ rb (s.recs.set j { r with w:=n1 }).length s.count) (fun o hx=>by rw [WY];exact hx)⟩
   ·rw [if_neg ho] at HR1
    exact ⟨_,⟨by rw [HP.out,if_neg (by simp),if_neg ho];rfl,by rw [HP.out,if_neg (by simp),if_neg ho];rfl⟩,HT3.out.dF 1 rfl (qK s.recs) (fun o hx=>by cases hx;exact HR1.out)⟩
  ·skip
   go_enter func228,ntmps228
   go_wp2_with (first
    | (go_at_call 38
       refine ((qr sb rb s j hn).use HT.out (WS _)).mono ?_
       rw [HW.out.1,HW.out.2];rintro e w1 ⟨h',⟨rfl,rfl⟩,Ta⟩;have HT1:=Vh Ta
       clear Ta)
    | (go_at_call 99
       refine ((Jn sb rb s.recs.length s.count j hn).at HT1.out 0 rfl).mono ?_
       rintro e w2 ⟨h',⟨he,rfl⟩,Ta⟩;rw [HV.out] at he;subst he;obtain ⟨o,⟨D,rfl,hd,hD⟩,T1⟩:=(Ta _ rfl).dO 1 rfl;have d1:w2.cell? ⟨rb,j*6+5,none⟩=_:=(T1.cell 1 (show _=some (pt rb _ _) from rfl) _).trans (hD j r HR.out).2.2;have HD:=Vh (WQ hd hD);have HT2:=Vh T1
       clear T1 hd hD Ta)
    | (go_at_call 225;refine (Gs _ _ _ _ h0 h1).mono ?_;rw [HN.out];rintro e w3 ⟨rfl,rfl⟩)
    | (go_at_call 260
       refine ((L9 rb (j*6) _ D r.w old n1 (HD.out.2 j r HR.out).1).at HT2.out 1 rfl).mono ?_
       rintro e w4 ⟨h',⟨rfl,C1,rfl,hr1⟩,Ta⟩;have HR1:=Vh (U1 HD.out.1 HD.out.2 HR.out hr1);have HT3:=Vh (Ta _ rfl)
       clear Ta hr1))
   go_ret2
   exact ⟨_,⟨by rw [HP.out,if_pos he];rfl,by rw [HP.out,if_pos he];rfl⟩,HT2.out.dF 1 rfl (qK s.recs) (fun o hx=>by cases hx;exact ⟨D,rfl,HD.out⟩)⟩
 ·have HW:=Vh (show s.word k=0/\s.kD k=4 from ⟨if_neg hh,if_neg hh⟩)
  have HP:=Vh (show s.try k old ev=(s,0,4) from if_neg hh);clear hh;go_enter func228,ntmps228
  go_wp2_with (
   go_at_call 38
   refine ((qr sb rb s k hn).use HT.out (WS _)).mono ?_
   rw [HW.out.1,HW.out.2];rintro e w1 ⟨h',⟨rfl,rfl⟩,Ta⟩;have HT1:=Vh Ta
   clear Ta)
  go_ret2
  exact ⟨_,⟨by rw [HP.out];rfl,by rw [HP.out];rfl⟩,HT1.out⟩
theorem qnp (qb sb rb:Nat) (s:Qj) (q:ik) (hs:Xc s) (hq:x8 s.recs.length q) :
 Does prog 182 #[.pointer (some ⟨qb,0,none⟩)] (mG qb sb q::zg sb rb s) fun e h'=>e=WN (WK WL (Zf s q).2.st)/\h'=mG qb sb (Zf s q).2::zg sb rb (Zf s q).1:=by
 intro w hw;have T0:=Qh.refl hw;have q0:=T0.cell 0 (show _=some (pt qb _ _) from rfl);simp only [ou] at q0;have hlq:=T0.lt 0 (show _=some (pt qb _ _) from rfl);simp only [] at hlq;have HT:=Vh T0;clear hw T0;have hn1:=hs.n1;by_cases hst:q.st=0
 ·rcases hq.next with hn | ⟨hn,b0,b1⟩ | hn
  ·have HK:=Vh (show Zf s q=(s,rF s q) from by unfold Zf;rw [if_neg (by simp [hst]),if_pos hn])
   rw [hn,hst] at q0;go_enter func182,ntmps182
   go_wp2_with (
    go_at_call 214
    refine ((qxn qb sb rb s q).use (HT.out.aN _) (WS _)).mono ?_
    rintro e w1 ⟨h',⟨rfl,rfl⟩,Ta⟩;have q1:=Ta.cell 0 (show _=some (pt qb _ _) from rfl) 6;simp [ou] at q1
    have HT1:=Vh Ta
    clear Ta)
   go_ret
   exact ⟨_,⟨by rw [HK.out];rfl,by rw [HK.out];rfl⟩,HT1.out⟩
  ·have b2:q.aA<64:=by omega
   have HK:=Vh (show Zf s q=qH s q from by unfold Zf;rw [if_neg (by simp [hst]),if_neg (by omega),if_pos hn]);rw [hn,hst] at q0;go_enter func182,ntmps182
   go_wp2_with (
    go_at_call 215
    refine ((qxw qb sb rb s q b0 b2).use (HT.out.aN _) (WS _)).mono ?_
    rintro e w1 ⟨h',⟨rfl,rfl⟩,Ta⟩;have q1:=Ta.cell 0 (show _=some (pt qb _ _) from rfl) 6;simp [ou] at q1
    have HT1:=Vh Ta
    clear Ta)
   go_ret
   exact ⟨_,⟨by rw [HK.out];rfl,by rw [HK.out];rfl⟩,HT1.out⟩
  ·obtain ⟨k,hk⟩:=WT hq.gX
   have hkl:k<s.recs.length:=by have:=hq.iw;omega
   have hr:s.recs[k]?=some (s.recs[k]):=XB hkl;have HX:=Vh (qyz qb sb rb s q k _ hk hr (hs.recs _ (List.getElem_mem _)) hn1);have HK:=Vh (show Zf s q=om s q from by unfold Zf;rw [if_neg (by simp [hst]),if_neg (by omega),if_neg (by omega)]);rw [hn,hst] at q0;clear hr;go_enter func182,ntmps182
   go_wp2_with (
    go_at_call 216
    refine (HX.out.use (HT.out.aN _) (WS _)).mono ?_
    rintro e w1 ⟨h',⟨rfl,rfl⟩,Ta⟩;have q1:=Ta.cell 0 (show _=some (pt qb _ _) from rfl) 6;simp [ou] at q1
    have HT1:=Vh Ta
    clear Ta)
   go_ret
   exact ⟨_,⟨by rw [HK.out];rfl,by rw [HK.out];rfl⟩,HT1.out⟩
 ·have HK:=Vh (show Zf s q=(s,q) from if_pos hst)
  go_enter func182,ntmps182
  go_wp2
  go_ret
  exact ⟨_,⟨by rw [HK.out];rfl,by rw [HK.out]⟩,HT.out.aN _⟩
def Bh:Array Value:=#[WK WM 0,WK WL 0,WK WL 0,WK WL 0,WK WM 0,WK WM 0]
theorem q2x:(prog.info? 176).map (fun i=>(i.zero,i.size,i.bytes))=some (some (.agg Bh),6,48):=by kernel_rfl
theorem q2o (k:Nat):(XG Bh (k*6)).size=(Zu k).recs.length*6/\∀ i r,(Zu k).recs[i]?=some r->recAt (XG Bh (k*6)) i r:=by
 refine ⟨by simp [size_madeCells,Zu],fun i r hr=>?_⟩
 have hi:i<k:=by have:=(WW.1 hr).1;simpa [Zu] using this
 have hz:Bh.size=6:=rfl;have hr':r=Rec.zero:=by simp [Zu,hi] at hr;exact hr.symm
 subst hr';exact ⟨⟨zq _ k 6 i 0 hz hi (by omega),0,0,0,zq _ k 6 i 1 hz hi (by omega),zq _ k 6 i 2 hz hi (by omega),zq _ k 6 i 3 hz hi (by omega)⟩,zq _ k 6 i 4 hz hi (by omega),zq _ k 6 i 5 hz hi (by omega)⟩
theorem qnw (n:Int) :
 Does prog 76 #[WK WL n] [] fun e h' =>
  if 1<=n/\n<=64 then ∃ sb rb,e=WN (WO #[.pointer (some ⟨sb,0,none⟩),WK WL 0])/\h'=zg sb rb (Zu n.toNat) else e=WN (WO #[WV none,WK WL 4])/\h'=[]:=by
 intro w hw;have HT:=Vh (Qh.refl hw);clear hw;by_cases h:1<=n/\n<=64
 ·simp only [if_pos h]
  obtain ⟨h1,h2⟩:=h;obtain ⟨k,rfl⟩:=WT (show 0<=n by omega);have hk1:k<=64:=by omega
  have hmk:∀ w,(Instr.makeSlice 161 (WK WL (k:Int)) (WK WL (k:Int))).run prog w=.ok (.slice (some ⟨w.heap.size,0,none⟩) k k) (w.alloc (.cells (XG Bh (k*6)) 176)):=Lx (P:=prog) 161 176 (.agg Bh) 6 48 underlying161 q2x k (by omega) (by omega);have hd1:decide ((k:Int)<1)=false:=by simp;omega
  have hd2:decide (64<(k:Int))=false:=by simp;omega
  go_enter func76,ntmps76
  go_wp2
  go_ret2
  exact ⟨_,⟨w.heap.size+1,w.heap.size,rfl,by simp [Zu,zg]⟩,(((HT.out.alloc rfl _ _).dF 0 rfl (qK (Zu k).recs) (fun o ho=>by cases ho;exact ⟨_,rfl,q2o k⟩)).alloc rfl _ _).dF 0 rfl (rJ w.heap.size (Zu k).recs.length 0) (fun o ho=>by
   cases ho;exact ⟨_,rfl,rfl,by simp [Zu],rfl,0,0,0,rfl,rfl,rfl⟩)⟩
 ·simp only [if_neg h]
  by_cases h1:n<1
  ·clear h
   go_enter func76,ntmps76
   go_wp2
   go_ret2
   exact ⟨_,⟨rfl,rfl⟩,HT.out⟩
  ·have h2:64<n:=by omega
   clear h;go_enter func76,ntmps76
   go_wp2
   go_ret2
   exact ⟨_,⟨rfl,rfl⟩,HT.out⟩
abbrev ptr (b:Nat):Value:=.pointer (some ⟨b,0,none⟩)
def Jc (sb:Nat) (s:Qj) (g:List ak):Prop:=∃ rb,Zx (zg sb rb s) g
def jX (qb sb:Nat) (q:ik):List ak:=[cl qb 292 (ou sb q)]
theorem EY (qb sb:Nat) (q:ik):Zx [mG qb sb q] (jX qb sb q):=Zx.oJ _ _ _
section
variable {sb:Nat} {s:Qj} {g:List ak}
theorem qu2 (hg:Jc sb s g) (hn:s.recs.length<=64) (k:Int):Qa prog 38 #[ptr sb,WK WL k] [g] fun e gs=>e=WN (WO #[WK WM (s.word k),WK WL (s.kD k)])/\∃ g',Jc sb s g'/\gs=[g']:=by
 obtain ⟨rb,m⟩:=hg;exact (Does.G1 (qr sb rb s k hn) m).mono fun e gs ⟨he,x,mx,hx⟩=>⟨he,x,⟨rb,mx⟩,hx⟩
theorem RU (hg:Jc sb s g) (hn:s.recs.length<=64) (id:Int) (h0:0<=id) (h1:id<18446744073709551616):Qa prog 223 #[ptr sb,WK WM id] [g] fun e gs=>e=WN (WO #[WK WL (s.slot id),WK WL (s.fK id)])/\∃ g',Jc sb s g'/\gs=[g']:=by
 obtain ⟨rb,m⟩:=hg;exact (Does.G1 (KU sb rb s id hn h0 h1) m).mono fun e gs ⟨he,x,mx,hx⟩=>⟨he,x,⟨rb,mx⟩,hx⟩
theorem qu0 (hg:Jc sb s g) (hn:s.recs.length<=64) (id:Int) (h0:0<=id) (h1:id<18446744073709551616):Qa prog 224 #[ptr sb,WK WM id] [g] fun e gs=>e=WN (.bool (s.mine id))/\∃ g',Jc sb s g'/\gs=[g']:=by
 obtain ⟨rb,m⟩:=hg;exact (Does.G1 (qlu sb rb s id hn h0 h1) m).mono fun e gs ⟨he,x,mx,hx⟩=>⟨he,x,⟨rb,mx⟩,hx⟩
theorem quz (hg:Jc sb s g) (h0:0<=s.count) (h1:s.count<=64):Qa prog 254 #[ptr sb] [g] fun e gs=>e=WN (WK WL s.drop.2)/\∃ g',Jc sb s.drop.1 g'/\gs=[g']:=by
 obtain ⟨rb,m⟩:=hg;exact (Does.G1 (qlt sb rb s h0 h1) m).mono fun e gs ⟨he,x,mx,hx⟩=>⟨he,x,⟨rb,mx⟩,hx⟩
theorem qy5 (hg:Jc sb s g) (hn:s.recs.length<=64) (k old ev:Int) (h0:0<=old) (h1:old<18446744073709551616) :
 Qa prog 228 #[ptr sb,WK WL k,WK WM old,WK WL ev] [g] fun e gs=>e=WN (WO #[WK WM (s.try k old ev).2.1,WK WL (s.try k old ev).2.2])/\∃ g',Jc sb (s.try k old ev).1 g'/\gs=[g']:=by
 obtain ⟨rb,m⟩:=hg;exact (Does.G1 (qny sb rb s k old ev hn h0 h1) m).mono fun e gs ⟨he,x,mx,hx⟩=>⟨he,x,⟨rb,mx⟩,hx⟩
theorem qyn (qb:Nat) (q:ik) (hg:Jc sb s g) (hs:Xc s) (hq:x8 s.recs.length q) :
 Qa prog 182 #[ptr qb] [jX qb sb q,g] fun e gs=>e=WN (WK WL (Zf s q).2.st)/\∃ g',Jc sb (Zf s q).1 g'/\gs=[jX qb sb (Zf s q).2,g']:=by
 obtain ⟨rb,m⟩:=hg;refine (Does.G2 (a:=[mG qb sb q]) (a':=[mG qb sb (Zf s q).2]) (qnp qb sb rb s q hs hq) (EY _ _ _) m).mono ?_
 rintro e gs ⟨he,x,y,mx,my,rfl⟩;exact ⟨he,y,⟨rb,my⟩,by rw [mx.pZ];rfl⟩
end
theorem Vd (qb sb:Nat) (q:ik):Qa prog 183 #[ptr qb] [jX qb sb q] fun e gs=>e=WN (WO #[WK WM (if q.st=2 then q.id else 0),WK WL (if q.st=2 then 0 else 7)])/\gs=[jX qb sb q] :=
 (Does.G1 (qur qb sb q) (EY _ _ _)).mono fun e gs ⟨he,x,mx,hx⟩=>⟨he,by rw [hx,mx.pZ];rfl⟩
theorem Rq (sb:Nat) (p:Int):Qa prog 141 #[ptr sb,WK WM p] [] fun e gs=>∃ qb,e=WN (ptr qb)/\gs=[jX qb sb ⟨p,0,0,0,0,0⟩]:=by
 refine ((qi7 sb p).G (gs:=[]) .nil).mono ?_
 rintro e gs ⟨h',g,⟨qb,he,rfl⟩,m,rfl⟩;exact ⟨qb,he,by rw [m.pZ];rfl⟩
theorem qy4 (n:Int):Qa prog 76 #[WK WL n] [] fun e gs =>
 (1<=n/\n<=64/\∃ sb g,e=WN (WO #[ptr sb,WK WL 0])/\Jc sb (Zu n.toNat) g/\gs=[g])\/(¬ (1<=n/\n<=64)/\e=WN (WO #[WV none,WK WL 4])/\gs=[]):=by
 refine ((qnw n).G (gs:=[]) .nil).post ?_
 rintro e gs ⟨h',g,hr,m,rfl⟩;by_cases hn:1<=n/\n<=64
 ·rw [if_pos hn] at hr
  obtain ⟨sb,rb,he,rfl⟩:=hr;exact ⟨[g],.inl ⟨hn.1,hn.2,sb,g,he,⟨rb,m⟩,rfl⟩,WS _⟩
 ·rw [if_neg hn] at hr
  obtain ⟨he,rfl⟩:=hr;cases m
  exact ⟨[],.inr ⟨hn,he,rfl⟩,by simp⟩
theorem qu1 (n:Nat) (h1:1<=n) (h2:n<=64):Qa prog 76 #[WK WL n] [] fun e gs=>∃ sb g,e=WN (WO #[ptr sb,WK WL 0])/\Jc sb (Zu n) g/\gs=[g]:=by
 refine (qy4 n).mono ?_
 rintro e gs (⟨_,_,sb,g,he,hs,hg⟩ | ⟨hn,_⟩)
 ·exact ⟨sb,g,he,by simpa using hs,hg⟩
 ·exact absurd ⟨by omega,by omega⟩ hn
theorem qt1 (b o:Nat) (T:XA) (C:Array Value) (n:Bool) (hc:cellAt C o (.bool n)) :
 Does prog 130 #[.pointer (some ⟨b,o,none⟩)] [pt b T C] (zh b T C o (.bool n) (.bool n)):=by
 intro w hw;obtain ⟨h0,l,t,u,h1,h2,h3⟩:=hc;have T0:=Qh.refl hw;have hb:=T0.blk 0 rfl;have c0:w.cell? ⟨b,o,none⟩=some (.bool n):=(Q5 hb o).trans h0;have c1:w.cell? ⟨b,o+1,none⟩=some (WK WL l):=(Q5 hb (o+1)).trans h1;have f1:=Xw hb (o+1);have T1:=Vh T0;have H:=Vh (WQ h0 (WQ h1 (WQ h2 h3)));clear T0 hb hw h0 h1 h2 h3;go_enter func130,ntmps130
 go_wp2
 go_ret
 obtain ⟨h0,h1,h2,h3⟩:=H.out;exact ⟨_,⟨rfl,_,rfl,zr h0 h1 h2 h3⟩,T1.out.set (o+1) _⟩
theorem qu6 (b o:Nat) (T:XA) (C:Array Value) (n old new:Bool) (hc:cellAt C o (.bool n)) :
 Does prog 193 #[.pointer (some ⟨b,o,none⟩),.bool old,.bool new] [pt b T C] (zh b T C o (.bool (if n=old then new else n)) (.bool (decide (n=old)))):=by
 intro w hw;obtain ⟨h0,l,t,u,h1,h2,h3⟩:=hc;have T0:=Qh.refl hw;have hb:=T0.blk 0 rfl;have c0:w.cell? ⟨b,o,none⟩=some (.bool n):=(Q5 hb o).trans h0;have c2:w.cell? ⟨b,o+2,none⟩=some (WK WL t):=(Q5 hb (o+2)).trans h2;have c3:w.cell? ⟨b,o+3,none⟩=some (WK WL u):=(Q5 hb (o+3)).trans h3;have f0:=Xw hb o;have f2:=Xw hb (o+2);have f3:=Xw hb (o+3);have T1:=Vh T0;have H:=Vh (WQ h0 (WQ h1 (WQ h2 h3)));clear T0 hb hw h0 h1 h2 h3;by_cases he:n=old
 ·subst he
  cases n
  all_goals
   go_enter func193,ntmps193
   go_wp2
   go_ret
   obtain ⟨h0,h1,h2,h3⟩:=H.out;exact ⟨_,⟨by simp,_,rfl,Lb h0 h1 h2 h3⟩,((T1.out.set (o+2) _).set o _).set (o+3) _⟩
 ·cases n <;> cases old <;> first | exact absurd rfl he | skip
  all_goals
   go_enter func193,ntmps193
   go_wp2
   go_ret
   obtain ⟨h0,h1,h2,h3⟩:=H.out;exact ⟨_,⟨by simp [he],_,rfl,Y8 h0 h1 h2 h3⟩,T1.out.set (o+2) _⟩
theorem qt2 (b o:Nat) (T:XA) (C:Array Value) (n:Int) (hc:cellAt C o (WK WM n)) :
 Does prog 98 #[.pointer (some ⟨b,o,none⟩)] [pt b T C] (zh b T C o (WK WM n) (WK WM n)):=by
 intro w hw;obtain ⟨h0,l,t,u,h1,h2,h3⟩:=hc;have T0:=Qh.refl hw;have hb:=T0.blk 0 rfl;have c0:w.cell? ⟨b,o,none⟩=some (WK WM n):=(Q5 hb o).trans h0;have c1:w.cell? ⟨b,o+1,none⟩=some (WK WL l):=(Q5 hb (o+1)).trans h1;have f1:=Xw hb (o+1);have T1:=Vh T0;have H:=Vh (WQ h0 (WQ h1 (WQ h2 h3)));clear T0 hb hw h0 h1 h2 h3;go_enter func98,ntmps98
 go_wp2
 go_ret
 obtain ⟨h0,h1,h2,h3⟩:=H.out;exact ⟨_,⟨rfl,_,rfl,zr h0 h1 h2 h3⟩,T1.out.set (o+1) _⟩
section
variable {sb:Nat} {s s':Qj} {g:List ak}
theorem L5 {v x:Int} {id:Int} (e1:s.slot id=v) (e2:s.fK id=x) (hg:Jc sb s g) (hn:s.recs.length<=64) (h0:0<=id) (h1:id<18446744073709551616):Qa prog 223 #[ptr sb,WK WM id] [g] fun e gs=>e=WN (WO #[WK WL v,WK WL x])/\∃ g',Jc sb s g'/\gs=[g']:=by
 have:=RU hg hn id h0 h1;rwa [e1,e2] at this
end
end
section
theorem GU {n e:Int} {p:Bool} (h0:0<=n) (h1:n<18446744073709551616) (hk:okW n=true) (hx:(Xo n e p).2=0) :
 1<=e/\e<=10/\(toW (bA n) e (p && !Xk n)).2.2=true/\okW (Xo n e p).1=true /\
  bA (Xo n e p).1=(toW (bA n) e (p && !Xk n)).1/\X7 (Xo n e p).1=X7 n+(toW (bA n) e (p && !Xk n)).2.1 /\
  Xk (Xo n e p).1=(if e=7 then true else if e=1\/e=10 then false else Xk n)/\0<=(Xo n e p).1/\(Xo n e p).1<18446744073709551616/\X7 n<=X7 (Xo n e p).1:=by
 rcases Yz n e p h0 h1 hk with ⟨_,h | h | h⟩ | ⟨_,a,b,c,d,f,g,i,j,k⟩
 ·omega
 ·omega
 ·omega
 ·have hb:=uH n h0 hk
  have hf:=E6 (bA n) e (p && !Xk n) hb.1 hb.2.1;exact ⟨a,b,c,d,f,g,i,j,k,by rw [g];have:=hf.2.2.1;omega⟩
theorem q7l (s:Int) (again:Bool):toW s 1 again=(1,1,(s == 0)):=rfl
theorem nY.zero:nY Rec.zero:=⟨by decide,by decide,by decide,by decide,by decide,by decide,by decide⟩
theorem qt9 {n:Nat} (h1:1<=n) (h2:n<=64):Xc (Zu n) :=
 ⟨by simp [Zu];omega,by simp [Zu];omega,by simp [Zu],by simp [Zu],fun r hr=>by simp [Zu] at hr;rw [hr.2];exact nY.zero⟩
theorem Xc.set {s:Qj} (hs:Xc s) {k:Nat} {r:Rec} (hr:nY r):Xc { s with recs:=s.recs.set k r } :=
 ⟨by simpa using hs.n0,by simpa using hs.n1,hs.c0,by simpa using hs.c1,fun x hx=>by
   rcases List.mem_or_eq_of_mem_set hx with h | rfl
   ·exact hs.recs x h
   ·exact hr⟩
theorem Xc.getD {s:Qj} (hs:Xc s) (k:Nat):nY (s.recs.getD k Rec.zero):=by
 rw [WU];cases h:s.recs[k]? with
 | none=>exact nY.zero
 | some r=>exact hs.recs r (List.mem_of_getElem? h)
theorem Uv {s:Qj} {q:ik} (hs:Xc s) (hq:x8 s.recs.length q):Xc (Zf s q).1/\x8 s.recs.length (Zf s q).2/\(Zf s q).1.recs.length=s.recs.length:=by
 unfold Zf;by_cases h0:q.st≠0
 ·rw [if_pos h0];exact ⟨hs,hq,rfl⟩
 rw [if_neg h0];by_cases h1:q.next=0
 ·rw [if_pos h1]
  refine ⟨hs,?_,rfl⟩
  unfold rF;by_cases h:(s.recs.length:Int)<=s.count
  ·rw [if_pos h];exact ⟨hq.p0,hq.p1,hq.gX,hq.iw,.inl h1⟩
  ·rw [if_neg h];exact ⟨hq.p0,hq.p1,hq.gX,hq.iw,.inr (.inl ⟨rfl,hs.c0,show s.count < _ by omega⟩)⟩
 rw [if_neg h1];by_cases h2:q.next=1
 ·rw [if_pos h2]
  have pU:0<=q.aA/\q.aA<s.recs.length:=by
   rcases hq.next with h | h | h
   ·exact absurd h h1
   ·exact h.2
   ·omega
  unfold qH;by_cases h:s.count=q.aA
  ·rw [if_pos h];exact ⟨⟨hs.n0,hs.n1,by show 0<=s.count+1;omega,show s.count+1<=(s.recs.length:Int) by omega,hs.recs⟩,⟨hq.p0,hq.p1,hq.gX,hq.iw,.inr (.inr rfl)⟩,rfl⟩
  ·rw [if_neg h];exact ⟨hs,⟨hq.p0,hq.p1,hq.gX,hq.iw,.inl rfl⟩,rfl⟩
 rw [if_neg h2];have hr:=hs.getD q.slot.toNat;have h3:q.next=2:=by rcases hq.next with h | h | h <;> omega
 unfold om;by_cases h:(Xo (s.recs.getD q.slot.toNat Rec.zero).w 1 (decide (0<q.p))).2=0
 ·simp only [h,if_true]
  obtain ⟨_,_,a,b,c,d,_,e,f,g⟩:=GU hr.w0 hr.w1 hr.ok h;refine ⟨hs.set ⟨e,f,b,by have:=hr.g0;show 0<=_+1;omega,?_,hq.p0,hq.p1⟩,⟨hq.p0,hq.p1,hq.gX,hq.iw,.inr (.inr h3)⟩,by simp⟩
  show _+1<=_
  rw [d];have:=hr.g1;simp only [q7l];omega
 ·simp only [h,if_false]
  have hn:=hs.n0;exact ⟨hs,⟨hq.p0,hq.p1,Int.emod_nonneg _ (by omega),Int.emod_lt_of_pos _ (by omega),.inr (.inr h3)⟩,trivial⟩
theorem ui {s:Qj} (hs:Xc s) (k old ev:Int):Xc (s.try k old ev).1/\(s.try k old ev).1.recs.length=s.recs.length:=by
 unfold Qj.try;by_cases h:s.has k
 ·rw [if_pos h]
  have hr:=hs.getD k.toNat;simp only [];by_cases h1:(Xo old ev (decide (0<(s.recs.getD k.toNat Rec.zero).p))).2≠0
  ·rw [if_pos h1];exact ⟨hs,rfl⟩
  rw [if_neg h1];by_cases h2:(s.recs.getD k.toNat Rec.zero).w=old
  ·rw [if_pos h2]
   have h3:(Xo (s.recs.getD k.toNat Rec.zero).w ev (decide (0<(s.recs.getD k.toNat Rec.zero).p))).2=0:=by rw [h2];exact Decidable.not_not.1 h1
   obtain ⟨_,_,a,b,c,d,_,e,f,g⟩:=GU hr.w0 hr.w1 hr.ok h3;rw [h2] at b e f g;exact ⟨hs.set ⟨e,f,b,hr.g0,by have h9:=hr.g1;rw [h2] at h9;exact XH h9 g,hr.p0,hr.p1⟩,by simp⟩
  ·rw [if_neg h2];exact ⟨hs,rfl⟩
 ·rw [if_neg h];exact ⟨hs,rfl⟩
theorem EA {s:Qj} (hs:Xc s):Xc s.drop.1/\s.drop.1.recs.length=s.recs.length:=by
 unfold Qj.drop;by_cases h:0<s.count
 ·rw [if_pos h];exact ⟨⟨hs.n0,hs.n1,by show 0<=s.count - 1;omega,by have:=hs.c1;show s.count - 1<=(s.recs.length:Int);omega,hs.recs⟩,rfl⟩
 ·rw [if_neg h];exact ⟨hs,rfl⟩
def aX (r:Rec):Bool:=!decide (bA r.w=0)
def Ja (l:List Rec):Nat:=l.countP aX
theorem M3 {l:List Rec} {k:Nat} {x:Rec} (r:Rec) (h:l[k]?=some x):Ja (l.set k r)+(if aX x then 1 else 0)=Ja l+(if aX r then 1 else 0):=by
 unfold Ja;induction l generalizing k with
 | nil=>simp at h
 | cons a l ih =>
   cases k with
   | zero =>
     simp only [List.getElem?_cons_zero,Option.some.injEq] at h;subst h;simp only [List.set_cons_zero,List.countP_cons];omega
   | succ k =>
     simp only [List.getElem?_cons_succ] at h;simp only [List.set_cons_succ,List.countP_cons];have:=ih h;omega
theorem Gz {r:Rec} (h:bA r.w≠0):aX r=true:=by simp [aX,h]
theorem RA {r:Rec} (h:bA r.w=0):aX r=false:=by simp [aX,h]
theorem EE {l:List Rec} {k:Nat} {r:Rec} (h:l[k]?=some r):l.getD k Rec.zero=r:=by rw [WU,h];rfl
end
section
open Go.RowKit
theorem My {s:Qj} (hs:Xc s) (k old ev:Int) (h0:0<=old) (h1:old<18446744073709551616) (hk:okW old=true):0<=(s.try k old ev).2.1/\(s.try k old ev).2.1<18446744073709551616:=by
 unfold Qj.try;have hr:=hs.getD k.toNat;split
 ·simp only []
  split
  ·exact ⟨hr.w0,hr.w1⟩
  ·next h =>
   split
   ·have:=GU h0 h1 hk (Decidable.not_not.1 h);exact ⟨this.2.2.2.2.2.2.2.1,this.2.2.2.2.2.2.2.2.1⟩
   ·exact ⟨hr.w0,hr.w1⟩
 ·exact ⟨Int.le_refl _,by show (0:Int) < _;decide⟩
end
end Go.Proofs.YtcneeepdclgdcaaGreat
