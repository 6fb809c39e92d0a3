import Derived.Test.YtikpbibeagbccaaGreatGV34
set_option maxRecDepth 100000
set_option maxHeartbeats 4000000
namespace Go.Proofs.YtikpbibeagbccaaGreat
set_option linter.unusedVariables false
set_option linter.unusedSimpArgs false
open Go.Proofs.Tryz
section
open Go.RowKit Go.Shelf
attribute [local go_sem] Oper.semAt_some
structure qg where
 kb:Nat
 n:Int
 w:Wk
structure SvS where
 z:ZF
 own:List (Option Nat)
 all:List qg
 crew:List WkN
inductive Th where
 | job (a:Nat)
 | wkr (i:Nat)
def q1p:qg:=⟨0,0,.call .nil (zu 0 0 ⟨0,0,0,0⟩)⟩
def wkn0:WkN:=⟨0,Yj,0,qt1⟩
def SvS.jobAt (S:SvS) (a:Nat):qg:=S.all.getD a q1p
def SvS.wkrAt (S:SvS) (i:Nat):WkN:=S.crew.getD i wkn0
def Th.b (S:SvS):Th→Nat
 | .job a=>(S.jobAt a).kb
 | .wkr i=>(S.wkrAt i).wb
def Th.ty (S:SvS):Th→TypeId
 | .job a=>(S.jobAt a).w.ty
 | .wkr i=>139
def Th.fMay (S:SvS):Th→FuncId
 | .job a=>(S.jobAt a).w.fMay
 | .wkr i=>342
def Th.fStep (S:SvS):Th→FuncId
 | .job a=>(S.jobAt a).w.fStep
 | .wkr i=>343
def Th.may (S:SvS):Th→Bool
 | .job a=>(S.jobAt a).w.may S.z
 | .wkr i=>(S.wkrAt i).may S.z
def Th.step (S:SvS):Th→SvS
 | .job a=>{ S with all:=S.all.set a ⟨(S.jobAt a).kb,(S.jobAt a).n+1,((S.jobAt a).w.step S.z).1⟩,z:=((S.jobAt a).w.step S.z).2 }
 | .wkr i=>{ S with crew:=S.crew.set i ((S.wkrAt i).step S.z).1,z:=((S.wkrAt i).step S.z).2 }
def Th.here (S:SvS):Th→Prop
 | .job a=>a<S.all.length
 | .wkr i=>i<S.crew.length
def qul:Nat→List (Option Nat)→List (Nat × Th)
 | _,[]=>[]
 | a,none::l=>qul (a+1) l
 | a,some k::l=>(a,.job k)::qul (a+1) l
def qqr:Nat→Nat→List WkN→List (Nat × Th)
 | _,_,[]=>[]
 | a,i,_::l=>(a,.wkr i)::qqr (a+1) (i+1) l
def SvS.ths (S:SvS):List (Nat × Th):=qul 0 S.own++qqr S.own.length 0 S.crew
def SvS.os (S:SvS):List (Option (Wk × Nat)):=S.own.map fun o=>o.map fun a=>((S.jobAt a).w,(S.jobAt a).kb)
def SvS.ps (S:SvS):List Nat:=S.crew.map WkN.wb
def thC (S:SvS) (t:Nat × Th):Array Value:=#[.int .i64 t.1,.iface (t.2.ty S) (Qb (t.2.b S))]
theorem qcv (S:SvS):∀ (l:List (Option Nat)) (a:Nat),Ze a (l.map fun o=>o.map fun a=>((S.jobAt a).w,(S.jobAt a).kb))=(qul a l).map (thC S)
 | [],_=>rfl
 | none::l,a=>qcv S l (a+1)
 | some k::l,a=>by
   show _::Ze (a+1) _=_::(qul (a+1) l).map _
   rw [qcv S l (a+1)];rfl
theorem qf6 (S:SvS):∀ (l:List WkN) (a i:Nat),(∀ j c,l[j]?=some c→S.crew[i+j]?=some c)→qbn a (l.map WkN.wb)=(qqr a i l).map (thC S)
 | [],_,_,_=>rfl
 | c::l,a,i,h=>by
   show _::qbn (a+1) _=thC S (a,.wkr i)::(qqr (a+1) (i+1) l).map _
   rw [qf6 S l (a+1) (i+1) (fun j d hd=>by
    have:=h (j+1) d hd
    rwa [show i+(j+1)=i+1+j by omega] at this)]
   have h0:=h 0 c rfl
   have:S.wkrAt i=c:=by
    unfold SvS.wkrAt;rw [List.getD_eq_getElem?_getD,show i=i+0 from rfl,h0];rfl
   show _=(#[Value.int .i64 a,Value.iface 139 (Qb (S.wkrAt i).wb)]:Array Value)::_
   rw [this]
theorem qsy (S:SvS):Ze 0 S.os++qbn S.os.length S.ps=S.ths.map (thC S):=by
 unfold SvS.ths SvS.os SvS.ps;rw [List.map_append,qcv,List.length_map,qf6 S S.crew S.own.length 0 (fun j c h=>by rwa [Nat.zero_add])]
theorem qdz:∀ (l:List (Option Nat)) (a:Nat) (t:Nat × Th),t∈qul a l→∃ k,t.2=.job k∧some k∈l∧a≤t.1∧l[t.1 - a]?=some (some k)
 | none::l,a,t,h=>by
   obtain ⟨k,h1,h2,h3,h4⟩:=qdz l (a+1) t h;refine ⟨k,h1,List.mem_cons_of_mem _ h2,by omega,?_⟩
   rw [show t.1 - a=(t.1 - (a+1))+1 by omega];exact h4
 | some k::l,a,t,h=>by
   rcases List.mem_cons.1 h with rfl | h
   ·exact ⟨k,rfl,List.mem_cons_self,Nat.le_refl _,by simp⟩
   ·obtain ⟨k',h1,h2,h3,h4⟩:=qdz l (a+1) t h
    refine ⟨k',h1,List.mem_cons_of_mem _ h2,by omega,?_⟩
    rw [show t.1 - a=(t.1 - (a+1))+1 by omega];exact h4
theorem qhf:∀ (l:List WkN) (a i:Nat) (t:Nat × Th),t∈qqr a i l→∃ j,t.2=.wkr (i+j)∧t.1=a+j∧j<l.length
 | c::l,a,i,t,h=>by
   rcases List.mem_cons.1 h with rfl | h
   ·exact ⟨0,rfl,rfl,Nat.zero_lt_succ _⟩
   ·obtain ⟨j,h1,h2,h3⟩:=qhf l (a+1) (i+1) t h
    exact ⟨j+1,by rw [h1,show i+1+j=i+(j+1) by omega],by omega,by simp;omega⟩
structure SvN (N:Nat) (S:SvS):Prop where
 glo:qh9 N S.z
 jobs:∀ j∈S.all,qpm N j.w S.z.x∧0≤j.n∧j.n≤N
 crew:∀ c∈S.crew,qa3 N c
 own:∀ k,some k∈S.own→k<S.all.length
 ol:1≤S.own.length∧S.own.length≤1000
 cl:S.crew.length≤1000
 al:S.all.length≤N
 turn:∀ (a:Nat) (j:qg),S.all[a]?=some j→j.w.isTurn=true→j.w.done=false→S.own[S.own.length - 1]?=some (some a)
theorem SvN.mono {N M:Nat} {S:SvS} (h:SvN N S) (hm:N≤M):SvN M S :=
 ⟨h.glo.mono hm,fun j hj=>⟨(h.jobs j hj).1.mono hm,(h.jobs j hj).2.1,by have:=(h.jobs j hj).2.2;omega⟩,fun c hc=>(h.crew c hc).mono hm,h.own,h.ol,h.cl,by have:=h.al;omega,h.turn⟩
theorem qa2 {N:Nat} {S:SvS} (h:SvN N S) {t:Nat × Th} (ht:t∈S.ths):t.2.here S:=by
 rcases List.mem_append.1 ht with ht | ht
 ·obtain ⟨k,h1,h2,_⟩:=qdz _ _ _ ht
  rw [h1];exact h.own k h2
 ·obtain ⟨j,h1,_,h3⟩:=qhf _ _ _ _ ht
  rw [h1,Nat.zero_add];exact h3
theorem Xu {S:SvS} {a:Nat} (h:a<S.all.length):S.all[a]?=some (S.jobAt a):=by
 unfold SvS.jobAt;rw [List.getD_eq_getElem?_getD,List.getElem?_eq_getElem h];rfl
theorem Yy {S:SvS} {a:Nat} (h:a<S.crew.length):S.crew[a]?=some (S.wkrAt a):=by
 unfold SvS.wkrAt;rw [List.getD_eq_getElem?_getD,List.getElem?_eq_getElem h];rfl
def Jb (L:Lay) (l:List qg) (g:List Blk):Prop:=J4 (fun (j:qg) g=>qcn L j.kb j.n j.w g) l g
theorem qg8 {P:Program} {f:FuncId} {args:Array Value} {a b c:List Blk} {R:Ending→List Blk→List Blk→Prop} (hd:Qa P f args [a,c] fun e gs=>∃ a' c',R e a' c'∧gs=[a',c']) :
 Qa P f args [a,b,c] fun e gs=>∃ a' c',R e a' c'∧gs=[a',b,c']:=by
 intro w hw
 have h2:J3 ([a,c]++[b]) w:=hw.re (by
  classical
  refine List.perm_iff_count.2 fun x=>?_
  simp only [List.flatten_append,List.flatten_cons,List.flatten_nil,List.append_nil,List.count_append]
  omega)
 refine (hd w h2.left).mono ?_
 rintro e w' ⟨gs,⟨a',c',hR,rfl⟩,T⟩;refine ⟨_,⟨a',c',hR,rfl⟩,((T.frame h2).re (H':=[a',b,c']) ?_).basePerm ?_⟩
 ·classical
  refine List.perm_iff_count.2 fun x=>?_
  simp only [List.flatten_append,List.flatten_cons,List.flatten_nil,List.append_nil,List.count_append];omega
 ·classical
  refine List.perm_iff_count.2 fun x=>?_
  simp only [List.flatten_append,List.flatten_cons,List.flatten_nil,List.append_nil,List.count_append];omega
theorem qhd {P:Program} {f:FuncId} {args:Array Value} {a b c:List Blk} {R:Ending→List Blk→List Blk→Prop} (hd:Qa P f args [a,c] fun e gs=>∃ a' c',R e a' c'∧gs=[a',c']) :
 Qa P f args [b,a,c] fun e gs=>∃ a' c',R e a' c'∧gs=[b,a',c']:=by
 intro w hw;have h2:J3 ([b]++[a,c]) w:=hw;refine (hd w h2.right).mono ?_
 rintro e w' ⟨gs,⟨a',c',hR,rfl⟩,T⟩;exact ⟨_,⟨a',c',hR,rfl⟩,T.frameL h2⟩
section
variable {L:Lay} {S:SvS} {gJ gW gZ:List Blk} {N:Nat} {t:Th}
theorem q3e (hn:SvN N S) (ht:t.here S) (hj:Jb L S.all gJ) (hw:qf7 L S.crew gW) (hz:isZ L S.z gZ) (hN:N<999998) :
 Qa prog (t.fMay S) #[Qb (t.b S)] [gJ,gW,gZ] fun e gs=>∃ gJ' gW' gZ',e=.returned (.bool (t.may S))∧Jb L S.all gJ'∧qf7 L S.crew gW'∧isZ L S.z gZ'∧gs=[gJ',gW',gZ']:=by
 cases t with
 | job a =>
   have hk:=Xu ht;have hjn:=(hn.jobs _ (List.mem_of_getElem? hk)).1;refine (qg8 (R:=fun e a' c'=>e=.returned (.bool (Th.may S (.job a)))∧Jb L S.all a'∧isZ L S.z c') ((z7 (R:=fun e a' rest'=>e=.returned (.bool (Th.may S (.job a)))∧a'=S.jobAt a∧∃ gz,isZ L S.z gz∧rest'=[gz]) hj hk (fun ga hga=>(q0a hga hz hn.glo hjn (by omega)).mono ?_)).mono ?_)).mono ?_
   ·rintro e gs ⟨g',gZ',rfl,h1,h2,rfl⟩
    exact ⟨_,g',[gZ'],⟨rfl,rfl,gZ',h2,rfl⟩,h1,rfl⟩
   ·rintro e gs ⟨a',g',rest',⟨rfl,rfl,gz,h1,rfl⟩,h2,rfl⟩
    rw [qp hk] at h2;exact ⟨g',gz,⟨rfl,h2,h1⟩,rfl⟩
   ·rintro e gs ⟨a',c',⟨rfl,h1,h2⟩,rfl⟩
    exact ⟨a',gW,c',rfl,h1,hw,h2,rfl⟩
 | wkr i =>
   have hk:=Yy ht;have hcn:=hn.crew _ (List.mem_of_getElem? hk);refine (qhd (R:=fun e a' c'=>e=.returned (.bool (Th.may S (.wkr i)))∧qf7 L S.crew a'∧isZ L S.z c') ((z7 (R:=fun e a' rest'=>e=.returned (.bool (Th.may S (.wkr i)))∧a'=S.wkrAt i∧∃ gz,isZ L S.z gz∧rest'=[gz]) hw hk (fun ga hga=>(qxq (c:=S.wkrAt i) hga hz hn.glo hcn hN).mono ?_)).mono ?_)).mono ?_
   ·rintro e gs ⟨g',gZ',rfl,h1,h2,rfl⟩
    exact ⟨_,g',[gZ'],⟨rfl,rfl,gZ',h2,rfl⟩,h1,rfl⟩
   ·rintro e gs ⟨a',g',rest',⟨rfl,rfl,gz,h1,rfl⟩,h2,rfl⟩
    rw [qp hk] at h2;exact ⟨g',gz,⟨rfl,h2,h1⟩,rfl⟩
   ·rintro e gs ⟨a',c',⟨rfl,h1,h2⟩,rfl⟩
    exact ⟨gJ,a',c',rfl,hj,h1,h2,rfl⟩
theorem q0w (hn:SvN N S) (ht:t.here S) (hj:Jb L S.all gJ) (hw:qf7 L S.crew gW) (hz:isZ L S.z gZ) (hN:N<999998) (hm:t.may S=true) :
 Qa prog (t.fStep S) #[Qb (t.b S)] [gJ,gW,gZ] fun e gs=>∃ gJ' gW' gZ',e=.returned (.bool true)∧Jb L (t.step S).all gJ'∧qf7 L (t.step S).crew gW'∧isZ L (t.step S).z gZ'∧gs=[gJ',gW',gZ']:=by
 cases t with
 | job a =>
   have hk:=Xu ht;obtain ⟨hjn,hn0,hn1⟩:=hn.jobs _ (List.mem_of_getElem? hk);refine (qg8 (R:=fun e a' c'=>e=.returned (.bool true)∧Jb L (Th.step S (.job a)).all a'∧isZ L (Th.step S (.job a)).z c') ((z7 (R:=fun e a' rest'=>e=.returned (.bool true)∧a'=⟨(S.jobAt a).kb,(S.jobAt a).n+1,((S.jobAt a).w.step S.z).1⟩∧∃ gz,isZ L ((S.jobAt a).w.step S.z).2 gz∧rest'=[gz]) hj hk (fun ga hga=>(qy2 hga hz hn.glo hjn (by omega) hm (by omega)).mono ?_)).mono ?_)).mono ?_
   ·rintro e gs ⟨g',gZ',rfl,h1,h2,rfl⟩
    exact ⟨_,g',[gZ'],⟨rfl,rfl,gZ',h2,rfl⟩,h1,rfl⟩
   ·rintro e gs ⟨a',g',rest',⟨rfl,rfl,gz,h1,rfl⟩,h2,rfl⟩
    exact ⟨g',gz,⟨rfl,h2,h1⟩,rfl⟩
   ·rintro e gs ⟨a',c',⟨rfl,h1,h2⟩,rfl⟩
    exact ⟨a',gW,c',rfl,h1,hw,h2,rfl⟩
 | wkr i =>
   have hk:=Yy ht;have hcn:=hn.crew _ (List.mem_of_getElem? hk);refine (qhd (R:=fun e a' c'=>e=.returned (.bool true)∧qf7 L (Th.step S (.wkr i)).crew a'∧isZ L (Th.step S (.wkr i)).z c') ((z7 (R:=fun e a' rest'=>e=.returned (.bool true)∧a'=((S.wkrAt i).step S.z).1∧∃ gz,isZ L ((S.wkrAt i).step S.z).2 gz∧rest'=[gz]) hw hk (fun ga hga=>(qwa (c:=S.wkrAt i) hga hz hn.glo hcn hN hm).mono ?_)).mono ?_)).mono ?_
   ·rintro e gs ⟨g',gZ',rfl,h1,h2,rfl⟩
    exact ⟨_,g',[gZ'],⟨rfl,rfl,gZ',h2,rfl⟩,h1,rfl⟩
   ·rintro e gs ⟨a',g',rest',⟨rfl,rfl,gz,h1,rfl⟩,h2,rfl⟩
    exact ⟨g',gz,⟨rfl,h2,h1⟩,rfl⟩
   ·rintro e gs ⟨a',c',⟨rfl,h1,h2⟩,rfl⟩
    exact ⟨gJ,a',c',rfl,hj,h1,h2,rfl⟩
theorem thNo (hn:SvN N S) (ht:t.here S) (hj:Jb L S.all gJ) (hw:qf7 L S.crew gW) (hz:isZ L S.z gZ) (hN:N<999998) (hm:t.may S=false) :
 Qa prog (t.fStep S) #[Qb (t.b S)] [gJ,gW,gZ] fun e gs=>∃ gJ' gW' gZ',e=.returned (.bool false)∧Jb L S.all gJ'∧qf7 L S.crew gW'∧isZ L S.z gZ'∧gs=[gJ',gW',gZ']:=by
 cases t with
 | job a =>
   have hk:=Xu ht;have hjn:=(hn.jobs _ (List.mem_of_getElem? hk)).1;refine (qg8 (R:=fun e a' c'=>e=.returned (.bool false)∧Jb L S.all a'∧isZ L S.z c') ((z7 (R:=fun e a' rest'=>e=.returned (.bool false)∧a'=S.jobAt a∧∃ gz,isZ L S.z gz∧rest'=[gz]) hj hk (fun ga hga=>(q2m hga hz hn.glo hjn (by omega) hm).mono ?_)).mono ?_)).mono ?_
   ·rintro e gs ⟨g',gZ',rfl,h1,h2,rfl⟩
    exact ⟨_,g',[gZ'],⟨rfl,rfl,gZ',h2,rfl⟩,h1,rfl⟩
   ·rintro e gs ⟨a',g',rest',⟨rfl,rfl,gz,h1,rfl⟩,h2,rfl⟩
    rw [qp hk] at h2;exact ⟨g',gz,⟨rfl,h2,h1⟩,rfl⟩
   ·rintro e gs ⟨a',c',⟨rfl,h1,h2⟩,rfl⟩
    exact ⟨a',gW,c',rfl,h1,hw,h2,rfl⟩
 | wkr i =>
   have hk:=Yy ht;have hcn:=hn.crew _ (List.mem_of_getElem? hk);refine (qhd (R:=fun e a' c'=>e=.returned (.bool false)∧qf7 L S.crew a'∧isZ L S.z c') ((z7 (R:=fun e a' rest'=>e=.returned (.bool false)∧a'=S.wkrAt i∧∃ gz,isZ L S.z gz∧rest'=[gz]) hw hk (fun ga hga=>(q05 (c:=S.wkrAt i) hga hz hn.glo hcn hN hm).mono ?_)).mono ?_)).mono ?_
   ·rintro e gs ⟨g',gZ',rfl,h1,h2,rfl⟩
    exact ⟨_,g',[gZ'],⟨rfl,rfl,gZ',h2,rfl⟩,h1,rfl⟩
   ·rintro e gs ⟨a',g',rest',⟨rfl,rfl,gz,h1,rfl⟩,h2,rfl⟩
    rw [qp hk] at h2;exact ⟨g',gz,⟨rfl,h2,h1⟩,rfl⟩
   ·rintro e gs ⟨a',c',⟨rfl,h1,h2⟩,rfl⟩
    exact ⟨gJ,a',c',rfl,hj,h1,h2,rfl⟩
end
end
section
open Go.RowKit Go.Shelf
structure qff (r:Qs):Prop where
 n1:1≤r.slots.length
 h0:0≤r.head
 ht:r.head≤r.tail
 tn:r.tail≤r.head+r.slots.length
 sq:∀ p,r.head≤p→p<r.head+r.slots.length→(r.slot p).seq=2*p∨(p<r.tail∧(r.slot p).seq=2*p+1)
theorem qq2 {n p q h:Int} (h1:h≤p) (h2:p<h+n) (h3:h≤q) (h4:q<h+n) (e:p % n=q % n):p=q:=by
 have hd:=Int.emod_emod_of_dvd (p - q) (Int.dvd_refl n);have h0:(p - q) % n=0:=Int.emod_eq_emod_iff_emod_sub_eq_zero.1 e;obtain ⟨c,hc⟩:=Int.dvd_of_emod_eq_zero h0;have hn:0<n:=by omega
 rcases Int.lt_trichotomy c 0 with h | h | h
 ·have:n*c≤n*(-1):=Int.mul_le_mul_of_nonneg_left (by omega) (by omega)
  omega
 ·subst h;rw [Int.mul_zero] at hc;omega
 ·have:n*1≤n*c:=Int.mul_le_mul_of_nonneg_left (by omega) (by omega)
  omega
theorem q0h {r:Qs} (h:1≤r.slots.length) (p:Int):r.at p<r.slots.length:=by
 unfold Qs.at;have h1:=Int.emod_nonneg p (b:=(r.slots.length:Int)) (by omega);have h2:=Int.emod_lt_of_pos p (b:=(r.slots.length:Int)) (by omega);omega
theorem qwt {r:Qs} (h:1≤r.slots.length) {p q:Int} (e:r.at p=r.at q):p % (r.slots.length:Int)=q % (r.slots.length:Int):=by
 unfold Qs.at at e;have h1:=Int.emod_nonneg p (b:=(r.slots.length:Int)) (by omega);have h2:=Int.emod_nonneg q (b:=(r.slots.length:Int)) (by omega);omega
theorem qi1 {r:Qs} {r':Qs} (hn:1≤r.slots.length) {p:Int} {v:zp} (hs:r'.slots=r.slots.set (r.at p) v) (q:Int):r'.slot q=if r.at q=r.at p then v else r.slot q:=by
 have hl:r'.slots.length=r.slots.length:=by rw [hs,List.length_set]
 have ha:r'.at q=r.at q:=by unfold Qs.at;rw [hl]
 unfold Qs.slot;rw [ha,hs,List.getD_eq_getElem?_getD,List.getElem?_set];split
 ·rename_i h
  rw [if_pos h.symm,if_pos (by rw [h];exact q0h hn q)];rfl
 ·rename_i h
  rw [if_neg (fun e=>h e.symm),List.getD_eq_getElem?_getD]
structure qhl (r:Qs) (t:Xt):Prop where
 w:t.status=0→t.next=2→2*t.pos≤(r.slot t.pos).seq
 c:t.status=2→t.filled=false→r.head≤t.pos∧t.pos<r.tail∧(r.slot t.pos).seq=2*t.pos
theorem qtx (r:Qs):qhl r Xm:=⟨fun _ h=>(by cases h),fun h=>(by cases h)⟩
section
variable {r:Qs} {t:Xt}
theorem q01 (hr:qff r) (ht:qhl r t) (hs:t.status=0) (hn:t.next=2) (he:r.tail=t.pos):qff { r with tail:=t.pos+1 }∧r.head≤t.pos∧(r.slot t.pos).seq=2*t.pos:=by
 have hw:=ht.w hs hn;have h1:=hr.ht
 have hlt:t.pos<r.head+r.slots.length:=by
  rcases Int.lt_or_le t.pos (r.head+r.slots.length) with h | h
  ·exact h
  ·exfalso
   have e:t.pos=r.head+r.slots.length:=by have:=hr.tn;omega
   have hsl:r.slot t.pos=r.slot r.head:=by
    unfold Qs.slot Qs.at;rw [e,Int.add_emod_right]
   rw [hsl] at hw;have:=hr.n1;rcases hr.sq r.head (Int.le_refl _) (by omega) with h | h <;> omega
 refine ⟨⟨hr.n1,hr.h0,by show r.head≤t.pos+1;omega,by show t.pos+1≤r.head+r.slots.length;omega,fun p h1 h2=>?_⟩,by omega,?_⟩
 ·rcases hr.sq p h1 h2 with h | ⟨h,h'⟩
  ·exact .inl h
  ·exact .inr ⟨by show p<t.pos+1;omega,h'⟩
 ·rcases hr.sq t.pos (by omega) hlt with h | h
  ·exact h
  ·omega
structure qty (r r':Qs):Prop where
 len:r'.slots.length=r.slots.length
 seq:∀ p,(r.slot p).seq≤(r'.slot p).seq
theorem qhl.w_le {r':Qs} (h:qhl r t) (hl:qty r r'):t.status=0→t.next=2→2*t.pos≤(r'.slot t.pos).seq :=
 fun a b=>Int.le_trans (h.w a b) (hl.seq _)
theorem q1a (hr:qff r) (h1:r.head≤t.pos) (h2:t.pos<r.tail) (h3:(r.slot t.pos).seq=2*t.pos) (v:Qm) {r':Qs} (e:r'={ r with slots:=r.slots.set (r.at t.pos) ⟨2*t.pos+1,v⟩ }) :
 qff r'∧qty r r'∧(∀ q,r.head≤q→q<r.tail→q≠t.pos→(r'.slot q).seq=(r.slot q).seq)∧(r'.slot t.pos).seq=2*t.pos+1:=by
 subst e;have hs:=fun q=>qi1 (r:=r) (r':={ r with slots:=r.slots.set (r.at t.pos) ⟨2*t.pos+1,v⟩ }) hr.n1 rfl q
 have htn:=hr.tn
 have hoth:∀ q,r.head≤q→q<r.head+r.slots.length→q≠t.pos→(Qs.slot { r with slots:=r.slots.set (r.at t.pos) ⟨2*t.pos+1,v⟩ } q)=r.slot q:=by
  intro q a b c;rw [hs,if_neg (fun e=>c (qq2 a b h1 (by omega) (qwt hr.n1 e)))]
 have hown:(Qs.slot { r with slots:=r.slots.set (r.at t.pos) ⟨2*t.pos+1,v⟩ } t.pos).seq=2*t.pos+1:=by rw [hs,if_pos rfl]
 have hlen:(r.slots.set (r.at t.pos) ⟨2*t.pos+1,v⟩).length=r.slots.length:=List.length_set;refine ⟨⟨by show 1≤(List.set _ _ _).length;rw [hlen];exact hr.n1,hr.h0,hr.ht,by show r.tail≤r.head+((List.set _ _ _).length:Int);rw [hlen];exact hr.tn,fun p a b=>?_⟩,⟨hlen,fun p=>?_⟩,fun q a b c=>?_,hown⟩
 ·change r.head≤p at a
  change p<r.head+((r.slots.set (r.at t.pos) ⟨2*t.pos+1,v⟩).length:Int) at b
  rw [hlen] at b;by_cases c:p=t.pos
  ·subst c;exact .inr ⟨h2,hown⟩
  ·rw [hoth p a b c];exact hr.sq p a b
 ·rw [hs]
  split
  ·rename_i e
   have:r.slot p=r.slot t.pos:=by unfold Qs.slot;rw [e]
   rw [this,h3]
   show 2*t.pos≤2*t.pos+1
   omega
  ·exact Int.le_refl _
 ·rw [hoth q a (by omega) c]
theorem q0g (hr:qff r) (hp:r.ready=true):qff (Y5 r).1∧qty r (Y5 r).1∧(Y5 r).1.head=r.head+1∧(Y5 r).1.tail=r.tail∧r.head<r.tail∧(∀ q,r.head+1≤q→q<r.tail→((Y5 r).1.slot q).seq=(r.slot q).seq):=by
 have e:(Y5 r).1={ r with slots:=r.slots.set (r.at r.head) ⟨2*(r.head+r.slots.length),Qm.zero⟩,head:=r.head+1 }:=by unfold Y5;rw [if_pos hp]
 have hq:(r.slot r.head).seq=2*r.head+1:=by simpa [Qs.ready] using hp
 have hn:=hr.n1;have htn:=hr.tn
 have hlt:r.head<r.tail:=by
  rcases hr.sq r.head (Int.le_refl _) (by omega) with h | h
  ·omega
  ·exact h.1
 rw [e];have hs:=fun q=>qi1 (r:=r) (r':={ r with slots:=r.slots.set (r.at r.head) ⟨2*(r.head+r.slots.length),Qm.zero⟩,head:=r.head+1 }) hr.n1 rfl q
 have hlen:(r.slots.set (r.at r.head) ⟨2*(r.head+r.slots.length),Qm.zero⟩).length=r.slots.length:=List.length_set
 have hoth:∀ q,r.head+1≤q→q<r.head+r.slots.length→(Qs.slot { r with slots:=r.slots.set (r.at r.head) ⟨2*(r.head+r.slots.length),Qm.zero⟩,head:=r.head+1 } q)=r.slot q:=by
  intro q a b;rw [hs,if_neg (fun e=>by have:=qq2 (h:=r.head) (by omega) b (Int.le_refl _) (by omega) (qwt hr.n1 e);omega)]
 refine ⟨⟨by show 1≤(List.set _ _ _).length;rw [hlen];exact hr.n1,by show 0≤r.head+1;have:=hr.h0;omega,hlt,by show r.tail≤r.head+1+((List.set _ _ _).length:Int);rw [hlen];omega,fun p a b=>?_⟩,⟨hlen,fun p=>?_⟩,rfl,rfl,hlt,fun q a b=>by rw [hoth q a (by omega)]⟩
 ·change r.head+1≤p at a
  change p<r.head+1+((r.slots.set (r.at r.head) ⟨2*(r.head+r.slots.length),Qm.zero⟩).length:Int) at b
  rw [hlen] at b;by_cases c:p<r.head+r.slots.length
  ·rw [hoth p a c];exact hr.sq p (by omega) c
  ·have e2:p=r.head+r.slots.length:=by omega
   refine .inl ?_
   have:r.at p=r.at r.head:=by unfold Qs.at;rw [e2,Int.add_emod_right]
   rw [hs,if_pos this,e2]
 ·rw [hs]
  split
  ·rename_i e
   have:r.slot p=r.slot r.head:=by unfold Qs.slot;rw [e]
   rw [this,hq]
   show 2*r.head+1≤2*(r.head+r.slots.length)
   omega
  ·exact Int.le_refl _
end
def qfo (t:Xt):Prop:=t.status=2∧t.filled=false
abbrev Tks:Type:=List (Option (Nat × Xt))
structure RgI (T:Tks) (R:Nat→Option Qs):Prop where
 ring:∀ i r,R i=some r→qff r
 tick:∀ (a i:Nat) (t:Xt) (r:Qs),T[a]?=some (some (i,t))→R i=some r→qhl r t
 uniq:∀ (a b i:Nat) (t u:Xt),T[a]?=some (some (i,t))→T[b]?=some (some (i,u))→qfo t→qfo u→t.pos=u.pos→a=b
 cov:∀ i r p,R i=some r→r.head≤p→p<r.tail→(r.slot p).seq=2*p+1∨∃ (a:Nat) (t:Xt),T[a]?=some (some (i,t))∧qfo t∧t.pos=p
def qj3 (R:Nat→Option Qs) (i:Nat) (r:Qs):Nat→Option Qs:=fun n=>if n=i then some r else R n
theorem qa6 {α:Type} {l:List α} {a b:Nat} {x y:α} (h:(l.set a x)[b]?=some y):(b=a∧y=x)∨(b≠a∧l[b]?=some y):=by
 rw [List.getElem?_set] at h;split at h
 ·rename_i e
  split at h
  ·exact .inl ⟨e.symm,by cases h;rfl⟩
  ·cases h
 ·rename_i e
  exact .inr ⟨fun e'=>e e'.symm,h⟩
theorem qbf {α:Type} {l:List α} {a b:Nat} {x y:α} (h:l[b]?=some y) (hb:b≠a):(l.set a x)[b]?=some y:=by
 rw [List.getElem?_set,if_neg (fun e=>hb e.symm)];exact h
theorem get_set_same {α:Type} {l:List α} {a:Nat} {x y:α} (h:l[a]?=some y):(l.set a x)[a]?=some x:=by
 rw [List.getElem?_set,if_pos rfl,if_pos (List.getElem?_eq_some_iff.1 h).1]
section
variable {T:Tks} {R:Nat→Option Qs} {a i:Nat} {o o':Option (Nat × Xt)} {t t':Xt} {r r':Qs}
theorem qr5:qj3 R i r i=some r:=if_pos rfl
theorem Yh {n:Nat} {q:Qs} (h:qj3 R i r n=some q):(n=i∧q=r)∨(n≠i∧R n=some q):=by
 unfold qj3 at h;split at h
 ·exact .inl ⟨by assumption,by cases h;rfl⟩
 ·exact .inr ⟨by assumption,h⟩
theorem RgI.calm (h:RgI T R) (hT:T[a]?=some o) (h0:∀ i t,o=some (i,t)→¬ qfo t) (h1:∀ i t,o'=some (i,t)→¬ qfo t∧∀ r,R i=some r→qhl r t):RgI (T.set a o') R where
 ring:=h.ring
 tick b i t r hb hr:=by
  rcases qa6 hb with ⟨_,e⟩ | ⟨_,hB⟩
  ·exact (h1 i t e.symm).2 r hr
  ·exact h.tick b i t r hB hr
 uniq b c i t u hb hc k1 k2 e:=by
  rcases qa6 hb with ⟨_,e1⟩ | ⟨_,hB⟩
  ·exact absurd k1 (h1 i t e1.symm).1
  ·rcases qa6 hc with ⟨_,e1⟩ | ⟨_,hC⟩
   ·exact absurd k2 (h1 i u e1.symm).1
   ·exact h.uniq b c i t u hB hC k1 k2 e
 cov i r p hr a1 a2:=by
  rcases h.cov i r p hr a1 a2 with h' | ⟨b,t,hb,hc,hp⟩
  ·exact .inl h'
  ·refine .inr ⟨b,t,qbf hb (fun e=>?_),hc,hp⟩
   subst e;rw [hT] at hb;exact h0 i t (Option.some.inj hb) hc
theorem RgI.take (h:RgI T R) (hT:T[a]?=some (some (i,t))) (hr:R i=some r) (hs:t.status=0) (hn:t.next=2) (he:r.tail=t.pos) (h1:t'.status=2) (h2:t'.filled=false) (h3:t'.pos=t.pos) (hr':r'={ r with tail:=t.pos+1 }) :
 RgI (T.set a (some (i,t'))) (qj3 R i r'):=by
 subst hr';have hk:=h.tick a i t r hT hr;obtain ⟨k1,k2,k3⟩:=q01 (h.ring i r hr) hk hs hn he;have hsl:∀ q,Qs.slot { r with tail:=t.pos+1 } q=r.slot q:=fun q=>rfl
 have hold:∀ u,qhl r u→qhl { r with tail:=t.pos+1 } u:=fun u hu=>⟨hu.w,fun x y=>⟨(hu.c x y).1,by have:=(hu.c x y).2.1;show u.pos<t.pos+1;omega,(hu.c x y).2.2⟩⟩
 refine ⟨fun n q hq=>?_,fun b n u q hb hq=>?_,fun b c n u v hb hc c1 c2 e=>?_,fun n q p hq a1 a2=>?_⟩
 ·rcases Yh hq with ⟨_,rfl⟩ | ⟨_,hq⟩
  ·exact k1
  ·exact h.ring n q hq
 ·rcases qa6 hb with ⟨_,e⟩ | ⟨_,hB⟩
  ·cases e
   rcases Yh hq with ⟨_,rfl⟩ | ⟨x,_⟩
   ·exact ⟨fun x=>by omega,fun _ _=>⟨by rw [h3];exact k2,by show t'.pos<t.pos+1;omega,by rw [h3,hsl];exact k3⟩⟩
   ·exact absurd rfl x
  ·rcases Yh hq with ⟨rfl,rfl⟩ | ⟨_,hq⟩
   ·exact hold u (h.tick b _ u r hB hr)
   ·exact h.tick b n u q hB hq
 ·have hlt:∀ d (w:Xt),T[d]?=some (some (i,w))→qfo w→w.pos<t.pos:=fun d w hd hw=>by
   have:=((h.tick d i w r hd hr).c hw.1 hw.2).2.1;omega
  rcases qa6 hb with ⟨rfl,e1⟩ | ⟨nb,hB⟩
  ·cases e1
   rcases qa6 hc with ⟨rfl,_⟩ | ⟨_,hC⟩
   ·rfl
   ·have:=hlt c v hC c2;omega
  ·rcases qa6 hc with ⟨rfl,e1⟩ | ⟨_,hC⟩
   ·cases e1
    have:=hlt b u hB c1;omega
   ·exact h.uniq b c n u v hB hC c1 c2 e
 ·have hnc:¬ qfo t:=fun x=>by have:=x.1;omega
  rcases Yh hq with ⟨rfl,rfl⟩ | ⟨hni,hq⟩
  ·change r.head≤p at a1
   change p<t.pos+1 at a2
   by_cases c:p=t.pos
   ·exact .inr ⟨a,t',get_set_same hT,⟨h1,h2⟩,by rw [h3,c]⟩
   ·rcases h.cov n r p hr a1 (by omega) with h' | ⟨b,u,hb,hc,hp⟩
    ·exact .inl h'
    ·refine .inr ⟨b,u,qbf hb (fun e=>?_),hc,hp⟩
     subst e;rw [hT] at hb;cases hb
     exact hnc hc
  ·rcases h.cov n q p hq a1 a2 with h' | ⟨b,u,hb,hc,hp⟩
   ·exact .inl h'
   ·refine .inr ⟨b,u,qbf hb (fun e=>?_),hc,hp⟩
    subst e;rw [hT] at hb;cases hb
    exact hnc hc
theorem RgI.fill (h:RgI T R) (hT:T[a]?=some (some (i,t))) (hr:R i=some r) (hs:t.status=2) (hf:t.filled=false) (h1:¬ qfo t') (h2:t'.status=2) (v:Qm) (hr':r'={ r with slots:=r.slots.set (r.at t.pos) ⟨2*t.pos+1,v⟩ }) :
 RgI (T.set a (some (i,t'))) (qj3 R i r'):=by
 obtain ⟨b1,b2,b3⟩:=(h.tick a i t r hT hr).c hs hf;obtain ⟨k1,k2,k3,k4⟩:=q1a (h.ring i r hr) b1 b2 b3 v hr';have hh:r'.head=r.head∧r'.tail=r.tail:=by rw [hr'];exact ⟨rfl,rfl⟩
 refine ⟨fun n q hq=>?_,fun b n u q hb hq=>?_,fun b c n u v hb hc c1 c2 e=>?_,fun n q p hq a1 a2=>?_⟩
 ·rcases Yh hq with ⟨_,rfl⟩ | ⟨_,hq⟩
  ·exact k1
  ·exact h.ring n q hq
 ·rcases qa6 hb with ⟨_,e⟩ | ⟨nb,hB⟩
  ·cases e
   exact ⟨fun x=>by omega,fun x y=>absurd ⟨x,y⟩ h1⟩
  ·rcases Yh hq with ⟨rfl,rfl⟩ | ⟨_,hq⟩
   ·have hu:=h.tick b n u r hB hr
    refine ⟨hu.w_le k2,fun x y=>?_⟩
    obtain ⟨d1,d2,d3⟩:=hu.c x y;have hne:u.pos≠t.pos:=fun e=>nb (h.uniq b a n u t hB hT ⟨x,y⟩ ⟨hs,hf⟩ e)
    exact ⟨by rw [hh.1];exact d1,by rw [hh.2];exact d2,by rw [k3 _ d1 d2 hne];exact d3⟩
   ·exact h.tick b n u q hB hq
 ·rcases qa6 hb with ⟨rfl,e1⟩ | ⟨nb,hB⟩
  ·cases e1;exact absurd c1 h1
  ·rcases qa6 hc with ⟨rfl,e1⟩ | ⟨_,hC⟩
   ·cases e1;exact absurd c2 h1
   ·exact h.uniq b c n u v hB hC c1 c2 e
 ·rcases Yh hq with ⟨rfl,rfl⟩ | ⟨hni,hq⟩
  ·rw [hh.1] at a1
   rw [hh.2] at a2;by_cases c:p=t.pos
   ·exact .inl (by rw [c];exact k4)
   ·rcases h.cov n r p hr a1 a2 with h' | ⟨b,u,hb,hc,hp⟩
    ·exact .inl (by rw [k3 p a1 a2 c];exact h')
    ·refine .inr ⟨b,u,qbf hb (fun e=>?_),hc,hp⟩
     subst e;rw [hT] at hb;cases hb
     exact c hp.symm
  ·rcases h.cov n q p hq a1 a2 with h' | ⟨b,u,hb,hc,hp⟩
   ·exact .inl h'
   ·refine .inr ⟨b,u,qbf hb (fun e=>?_),hc,hp⟩
    subst e;rw [hT] at hb;cases hb
    exact hni rfl
theorem RgI.pop (h:RgI T R) (hr:R i=some r) (hp:r.ready=true):RgI T (qj3 R i (Y5 r).1):=by
 obtain ⟨k1,k2,k3,k4,k5,k6⟩:=q0g (h.ring i r hr) hp;have hq:(r.slot r.head).seq=2*r.head+1:=by simpa [Qs.ready] using hp
 refine ⟨fun n q hq=>?_,fun b n u q hb hq=>?_,h.uniq,fun n q p hq a1 a2=>?_⟩
 ·rcases Yh hq with ⟨_,rfl⟩ | ⟨_,hq⟩
  ·exact k1
  ·exact h.ring n q hq
 ·rcases Yh hq with ⟨rfl,rfl⟩ | ⟨_,hq⟩
  ·have hu:=h.tick b n u r hb hr
   refine ⟨hu.w_le k2,fun x y=>?_⟩
   obtain ⟨d1,d2,d3⟩:=hu.c x y;have hne:u.pos≠r.head:=fun e=>by rw [e] at d3;omega
   exact ⟨by rw [k3];omega,by rw [k4];exact d2,by rw [k6 _ (by omega) d2];exact d3⟩
  ·exact h.tick b n u q hb hq
 ·rcases Yh hq with ⟨rfl,rfl⟩ | ⟨hni,hq⟩
  ·rw [k3] at a1
   rw [k4] at a2;rcases h.cov n r p hr (by omega) a2 with h' | h'
   ·exact .inl (by rw [k6 p a1 a2];exact h')
   ·exact .inr h'
  ·exact h.cov n q p hq a1 a2
theorem RgI.step (h:RgI T R) (hT:T[a]?=some (some (i,t))) (hr:R i=some r) (hs:t.status=0) (hf:t.filled=false) (hn:t.next=0∨t.next=1∨t.next=2):RgI (T.set a (some (i,(stepT r t).2))) (qj3 R i (stepT r t).1):=by
 have hnc:∀ j u,some (i,t)=some (j,u)→¬ qfo u:=fun j u e x=>by cases e;have:=x.1;omega
 have hsame:qj3 R i r=R:=by
  funext n
  unfold qj3;split
  ·rename_i e;rw [e,hr]
  ·rfl
 have hcalm:∀ t':Xt,¬ qfo t'→qhl r t'→RgI (T.set a (some (i,t'))) (qj3 R i r):=fun t' c1 c2=>by
  rw [hsame];refine h.calm hT hnc (fun j u e=>?_)
  cases e
  exact ⟨c1,fun q hq=>by rw [hr] at hq;cases hq;exact c2⟩
 unfold stepT;rw [if_neg (by omega)];split
 ·exact hcalm _ (fun x=>by have:=x.1;simp only [qes] at this;omega) ⟨fun _ x=>by simp only [qes] at x;omega,fun x=>by simp only [qes] at x;omega⟩
 ·split
  ·refine hcalm _ ?_ ?_
   ·unfold qal
    split
    ·exact fun x=>by have:=x.1;simp only at this;omega
    ·split
     ·exact fun x=>by have:=x.1;simp only at this;omega
     ·exact fun x=>by have:=x.1;simp only at this;omega
   ·unfold qal
    split
    ·exact ⟨fun _ x=>by simp only at x;omega,fun x=>by simp only at x;omega⟩
    ·split
     ·exact ⟨fun x=>by simp only at x;omega,fun x=>by simp only at x;omega⟩
     ·rename_i w1 w2
      exact ⟨fun _ _=>by simp only;omega,fun x=>by simp only at x;omega⟩
  ·unfold qdr
   split
   ·exact h.take hT hr hs (by omega) (by assumption) rfl hf rfl rfl
   ·exact hcalm _ (fun x=>by have:=x.1;simp only at this;omega) ⟨fun _ x=>by simp only at x;omega,fun x=>by simp only at x;omega⟩
theorem RgI.snoc (h:RgI T R) (h0:∀ i t,o=some (i,t)→False):RgI (T++[o]) R:=by
 have hg:∀ (b:Nat) i t,(T++[o])[b]?=some (some (i,t))→T[b]?=some (some (i,t)):=by
  intro b i t hb;rcases Nat.lt_or_ge b T.length with hl | hl
  ·rwa [List.getElem?_append_left hl] at hb
  ·rw [List.getElem?_append_right hl] at hb
   rcases Nat.eq_zero_or_pos (b - T.length) with e | e
   ·rw [e] at hb;simp only [List.getElem?_cons_zero,Option.some.injEq] at hb;exact (h0 _ _ hb).elim
   ·rw [List.getElem?_eq_none (by simp;omega)] at hb;cases hb
 exact ⟨h.ring,fun b i t r hb=>h.tick b i t r (hg b i t hb),fun b c i t u hb hc=>h.uniq b c i t u (hg _ _ _ hb) (hg _ _ _ hc),fun i r p hr a1 a2=>(h.cov i r p hr a1 a2).imp id fun ⟨b,t,hb,hc,hp⟩=>⟨b,t,by rw [List.getElem?_append_left (List.getElem?_eq_some_iff.1 hb).1];exact hb,hc,hp⟩⟩
end
def Wk.tk:Wk→Option (Nat × Xt)
 | .call _ k=>k.tk
 | _=>none
def Qj.rg (x:Qj) (i:Nat):Option Qs:=(x.shs[i]?).map Q0.ring
theorem qsu {α:Type} {l:List α} {a:Nat} {x:α} (h:l[a]?=some x):l.set a x=l:=by
 apply List.ext_getElem?
 intro b;rw [List.getElem?_set];split
 ·rename_i e
  subst e;rw [if_pos (List.getElem?_eq_some_iff.1 h).1,h]
 ·rfl
theorem qie {x x':Qj} {i:Nat} {s:Q0} {r:Qs} (hs:x.shs[i]?=some s) (h:x'.shs=x.shs.set i { s with ring:=r }):x'.rg=qj3 x.rg i r:=by
 funext n
 unfold Qj.rg qj3;rw [h,List.getElem?_set];split
 ·rename_i e
  subst e;rw [if_pos (List.getElem?_eq_some_iff.1 hs).1,if_pos rfl];rfl
 ·rename_i e
  rw [if_neg (fun e'=>e e'.symm)]
theorem qcc {x x':Qj} (h:x'.shs=x.shs):x'.rg=x.rg:=by funext n;unfold Qj.rg;rw [h]
theorem qts {N:Nat} {T:Tks} {a:Nat} {k k':Qt} {x x':Qj} (h:RgI T x.rg) (hT:T[a]?=some k.tk) (hk:Zo N k x) (e:qzt k k' x x'):RgI (T.set a k'.tk) x'.rg:=by
 have hrg:∀ {i:Nat} {s:Q0},x.shs[i]?=some s→x.rg i=some s.ring:=fun hs=>by unfold Qj.rg;rw [hs];rfl
 cases e with
 | none h1 h2=>rw [qcc h1,h2,qsu hT];exact h
 | new h1 h0 i hi h2 =>
   rw [qcc h1,h2];refine h.calm hT (fun j t e c=>h0 j t e c) (fun j t e=>?_)
   cases e
   exact ⟨fun c=>by have:=c.1;simp [Xm] at this,fun r _=>qtx r⟩
 | step i t s h0 ht hf hs h1 h2 =>
   rw [qie hs h1,h2];rw [h0] at hT;exact h.step hT (hrg hs) ht hf (hk.tk i t h0).1.nx
 | fill i t s v h0 ht hf hs h1 h2 =>
   rw [qie hs h1,h2];rw [h0] at hT;have e:Zs s.ring t v=({ s.ring with slots:=s.ring.slots.set (s.ring.at t.pos) ⟨2*t.pos+1,v⟩ },{ t with filled:=true },0):=by unfold Zs;rw [if_pos ⟨ht,hf⟩]
   rw [e];exact h.fill hT (hrg hs) ht hf (fun c=>by cases c.2) ht v rfl
def St.allM {M A Y:Type} (p:M→Prop) (q:A→Prop):St M A Y→Prop
 | .nil=>True
 | .at _ m=>p m
 | .row1 a=>q a
 | .row2 a _=>q a
 | .thn s m=>s.allM p q∧p m
theorem St.keepP {M A Y α:Type} {runM:M→α→St M A Y × α} {runA:A→α→α} {R:α→α→Prop} {p:M→Prop} {q:A→Prop} (hr:∀ z,R z z) (ht:∀ x y z,R x y→R y z→R x z) (hm:∀ m z,p m→R z (runM m z).2) (ha:∀ a z,q a→R z (runA a z)) :
 ∀ (s:St M A Y) (z:α),s.allM p q→R z (St.run runM runA s z).2
 | .nil,z,_=>hr z
 | .at _ m,z,h=>hm m z h
 | .row1 a,z,h=>ha a z h
 | .row2 a _,z,h=>ha a z h
 | .thn s m,z,h=>by
   have h1:=St.keepP (Y:=Y) hr ht hm ha s z h.1
   show R z (Xl runM (s.run runM runA z).1 m (s.run runM runA z).2).2
   unfold Xl;split
   ·exact ht _ _ _ h1 (hm m _ h.2)
   ·exact h1
structure Zg (z z':ZT):Prop where
 inside:z'.x.f.inside=z.x.f.inside
 rg:z'.x.rg=z.x.rg
 who:zl z.x z'.x
 s:z'.k.s=z.k.s
theorem Zg.refl (z:ZT):Zg z z:=⟨rfl,rfl,fun _=>rfl,rfl⟩
theorem Zg.trans {x y z:ZT} (a:Zg x y) (b:Zg y z):Zg x z:=⟨b.inside.trans a.inside,b.rg.trans a.rg,fun j=>(b.who j).trans (a.who j),b.s.trans a.s⟩
def qzy:MT→Prop
 | .enter=>False
 | .tick=>False
 | .shards1 _=>False
 | .one2 _=>False
 | .pops1 _=>False
 | _=>True
def qxk:AT→Prop
 | .leave1=>False
 | .unlock=>False
 | _=>True
theorem Jy {z z':ZT} (h1:z'.x.f.inside=z.x.f.inside) (h2:z'.x.shs=z.x.shs) (h3:z'.k.s=z.k.s):Zg z z':=⟨h1,qcc h2,fun j=>by rw [h2],h3⟩
theorem qfb (st:Int) (z:ZT):Zg z (Xd st z).1:=Jy rfl rfl rfl
theorem Jp (ev:Int) (z:ZT):Zg z (Q3 ev z).1:=Jy rfl rfl rfl
theorem qir (E:EvS) (z:ZT):Zg z (z.note E):=Jy rfl rfl rfl
theorem qr2 (z:ZT):Zg z (qky z):=Jy rfl rfl rfl
theorem qgg (d i:Nat) (z:ZT):Zg z (Xc d i z).2:=by
 unfold Xc;split
 ·exact Zg.refl z
 ·exact Jy rfl rfl rfl
theorem qhi (m:MT) (z:ZT) (h:qzy m):Zg z (runT m z).2:=by
 cases m with
 | enter=>exact h.elim
 | tick=>exact h.elim
 | shards1 i=>exact h.elim
 | one2 d=>exact h.elim
 | pops1 n=>exact h.elim
 | gate =>
   show Zg z ((if z.x.f.closed=true then qz 3 z else (.at none .tick,z)):ST × ZT).2
   split
   ·exact Jy rfl rfl rfl
   ·exact Zg.refl z
 | one21 d =>
   show Zg z ((if z.shS.ring.tail - z.shS.ring.head≤0 then zi d z else (.thn (Yx (z.shS.ring.tail - z.shS.ring.head) z) (.one211 d),z)):ST × ZT).2
   split <;> exact Zg.refl z
 | one211 d=>exact Zg.refl z
 | one2112 d =>
   show Zg z ((match z.k.due[0]? with | none=>(.row1 .unlock,z) | some _=>(.thn (Xc d 0 z).1 .one21121,(Xc d 0 z).2)):ST × ZT).2
   split
   ·exact Zg.refl z
   ·exact qgg d 0 z
 | one21121=>exact Zg.refl z
 | pops11 n=>exact Zg.refl z
 | rec1 =>
   show Zg z ((if (Xd 2 z).2=true then (.at none .rec11,(Xd 2 z).1) else (.nil,(Xd 2 z).1)):ST × ZT).2
   split <;> exact qfb 2 z
 | rec11 =>
   show Zg z ((if (Q3 3 z).2=true then (.nil,qky (Q3 3 z).1) else (Xo (Q3 3 z).1,(Q3 3 z).1)):ST × ZT).2
   split
   ·exact (Jp 3 z).trans (qr2 _)
   ·exact Jp 3 z
 | fires1 d i=>exact qgg d (i+1) z
 | looks =>
   show Zg z ((if (Xd 3 z).2=true then (.at none .claims,(Xd 3 z).1) else (.nil,(Xd 3 z).1)):ST × ZT).2
   split <;> exact qfb 3 z
 | claims =>
   show Zg z ((if (Q3 4 z).2=true then (.thn (.row1 (.put ⟨z.k.t.id,z.k.t.gen,z.k.t.dl,z.k.now⟩)) .claims2,(Q3 4 z).1.note { ev0 with kind:=5,id:=z.k.t.id,gen:=z.k.t.gen,dl:=z.k.t.dl,tick:=z.k.now }) else (.at none .looks,(Q3 4 z).1)):ST × ZT).2
   split
   ·exact (Jp 4 z).trans (qir _ _)
   ·exact Jp 4 z
 | claims2=>exact Zg.refl z
 | behind =>
   show Zg z ((if stW (z.x.slab.word z.k.t.slot)≠4∨Zp (z.x.slab.word z.k.t.slot)≠z.k.t.gen then (St.nil,({ z with k:={ z.k with saw:=z.x.slab.word z.k.t.slot } }:ZT))
    else if 0<z.k.t.per∧Jd (z.x.slab.word z.k.t.slot)=false∧z.k.t.dl+z.k.t.per<18446744073709551616 then (.at none (.rearm1 (z.k.t.dl+z.k.t.per)),{ z with k:={ z.k with saw:=z.x.slab.word z.k.t.slot } }) else (.at none .finishes,{ z with k:={ z.k with saw:=z.x.slab.word z.k.t.slot } })):ST × ZT).2
   split
   ·exact Jy rfl rfl rfl
   ·split <;> exact Jy rfl rfl rfl
 | rearm1 next =>
   show Zg z ((if (Q3 5 z).2=true then (.nil,qky { (Q3 5 z).1 with k:={ z.k with t:={ z.k.t with gen:=z.k.t.gen+1,dl:=next } } }) else (.at none .behind,(Q3 5 z).1)):ST × ZT).2
   split
   ·exact Jy rfl rfl rfl
   ·exact Jp 5 z
 | finishes =>
   show Zg z ((if (Q3 9 z).2=true then (.row2 .rel .drop,if 0<z.k.t.per∧Jd z.k.saw=false then (Q3 9 z).1.note { ev0 with kind:=14,id:=z.k.t.id,gen:=z.k.t.gen } else (Q3 9 z).1) else (.at none .behind,(Q3 9 z).1)):ST × ZT).2
   split
   ·show Zg z (if _ then _ else _)
    split
    ·exact (Jp 9 z).trans (qir _ _)
    ·exact Jp 9 z
   ·exact Jp 9 z
theorem quf (a:AT) (z:ZT) (h:qxk a):Zg z (Xv a z):=by
 cases a with
 | leave1=>exact h.elim
 | unlock=>exact h.elim
 | answer=>exact Jy rfl rfl rfl
 | turnA d=>exact Jy rfl rfl rfl
 | put f=>exact Jy rfl rfl rfl
 | rel=>exact Jy rfl rfl rfl
 | drop=>exact Jy rfl rfl rfl
theorem qgk (s:ST) (z:ZT) (h:s.allM qzy qxk):Zg z (St.run runT Xv s z).2 :=
 St.keepP (Y:=YT) Zg.refl (fun _ _ _=>Zg.trans) qhi quf s z h
def qz1:ST→Int
 | .nil=>0
 | .at none .enter=>0
 | .row1 .answer=>0
 | _=>1
def qtr:ST→Prop
 | .at none (.one21 _)=>True
 | .row1 .unlock=>True
 | .thn _ (.one2112 _)=>True
 | .thn _ (.one211 _)=>True
 | .thn _ .one21121=>True
 | _=>False
def qv2:ST→Prop
 | .thn X (.shards1 _)=>qtr X
 | _=>False
def qqp (n:Int) (i:Nat) (x:Qj):Prop:=∀ r,x.rg i=some r→n≤r.tail - r.head
def qn9:ST→Qj→Prop
 | .thn (.thn (.at (some (.ready _)) (.pops1 n)) (.one211 _)) (.shards1 i),x=>1≤n∧qqp n i x
 | .thn (.thn (.thn _ (.pops11 n)) (.one211 _)) (.shards1 i),x=>qqp (n - 1) i x
 | _,_=>True
theorem qi9 (Y:ST) (i:Nat) (x:Qj):qn9 (.thn (.thn Y .one21121) (.shards1 i)) x:=by
 unfold qn9;split
 ·rename_i h;cases h
 ·rename_i h;cases h
 ·trivial
def qyz (s:ST) (k:Xf) (x:Qj):Prop:=∀ j,(x.shs.getD j (Qp 1)).who≠0→qv2 s∧k.s=some j
structure GoT (s:ST) (z:ZT) (r:ST × ZT):Prop where
 ins:r.2.x.f.inside=z.x.f.inside+qz1 r.1 - qz1 s
 rings:r.2.x.rg=z.x.rg∨∃ i q,z.x.rg i=some q∧q.ready=true∧r.2.x.rg=qj3 z.x.rg i (Y5 q).1
 fit:qn9 r.1 r.2.x
 who:qyz r.1 r.2.k r.2.x
section
variable {s:ST} {z:ZT}
theorem qc0 {M A Y α:Type} {runM:M→α→St M A Y × α} {m:M} {z:α}:Xl runM (.nil:St M A Y) m z=runM m z:=rfl
theorem J0 {M A Y α:Type} {runM:M→α→St M A Y × α} {m:M} {z:α} {s:St M A Y} (h:s≠.nil):Xl runM s m z=(.thn s m,z):=by
 cases s <;> first | rfl | exact absurd rfl h
theorem qbr {X X':ST} {i:Nat} {z z':ZT} (hw:qyz (.thn X (.shards1 i)) z.k z.x) (hr:(St.run runT Xv X z)=(X',z')) (hn:X'≠.nil) (hl:qtr X') (hc:z'.x.f.inside=z.x.f.inside) (hwho:zl z.x z'.x) (hs:z'.k.s=z.k.s)
 (hrg:z'.x.rg=z.x.rg∨∃ i q,z.x.rg i=some q∧q.ready=true∧z'.x.rg=qj3 z.x.rg i (Y5 q).1) (hf:qn9 (.thn X' (.shards1 i)) z'.x):GoT (.thn X (.shards1 i)) z (Xp (.thn X (.shards1 i)) z):=by
 have e:Xp (.thn X (.shards1 i)) z=(.thn X' (.shards1 i),z'):=by
  show Xl runT (St.run runT Xv X z).1 (.shards1 i) (St.run runT Xv X z).2=_
  rw [hr];exact J0 hn
 rw [e];refine ⟨by rw [hc];show _=_+1 - 1;omega,hrg,hf,fun j hj=>⟨hl,?_⟩⟩
 have:=(hw j (by rw [← hwho j];exact hj)).2;rw [hs];exact this
theorem qcw {X X':ST} {i:Nat} {z z':ZT} (hw:qyz (.thn X (.shards1 i)) z.k z.x) (hr:(St.run runT Xv X z)=(X',z')) (hn:X'≠.nil) (hl:qtr X') (hc:Zg z z') (hf:qn9 (.thn X' (.shards1 i)) z'.x):GoT (.thn X (.shards1 i)) z (Xp (.thn X (.shards1 i)) z) :=
 qbr hw hr hn hl hc.inside hc.who hc.s (.inl hc.rg) hf
theorem qqu {z:ZT} {i:Nat} (hs:z.k.s=some i) (hi:i<z.x.shs.length):z.x.shs[i]?=some z.shS∧z.sh=i:=by
 have e:z.sh=i:=by unfold ZT.sh;rw [hs];rfl
 refine ⟨?_,e⟩
 unfold ZT.shS;rw [e,List.getD_eq_getElem?_getD,List.getElem?_eq_getElem hi];rfl
theorem qw5 {z:ZT} {i:Nat} (hs:z.k.s=some i) (hi:i<z.x.shs.length):z.x.rg i=some z.shS.ring:=by
 unfold Qj.rg;rw [(qqu hs hi).1];rfl
theorem qiu {n:Int} {z:ZT} (h:¬ n≤0):Yx n z=.at (some (.ready z.sh)) (.pops1 n):=if_neg h
theorem qsb {n:Int} {z:ZT} (h:n≤0):Yx n z=.nil:=if_pos h
theorem qkt {X:ST} {i:Nat} {d:Nat} {n:Int} {z z':ZT} (hw:qyz (.thn X (.shards1 i)) z.k z.x) (hr:(St.run runT Xv X z)=Xl runT (Yx n z') (.one211 d) z') (hc:z'.x.f.inside=z.x.f.inside) (hwho:zl z.x z'.x) (hs:z'.k.s=z.k.s)
 (hrg:z'.x.rg=z.x.rg∨∃ i q,z.x.rg i=some q∧q.ready=true∧z'.x.rg=qj3 z.x.rg i (Y5 q).1) (hp:qqp n i z'.x):GoT (.thn X (.shards1 i)) z (Xp (.thn X (.shards1 i)) z):=by
 by_cases h:n≤0
 ·rw [qsb h] at hr
  exact qbr hw hr (by intro e;cases e) trivial hc hwho hs hrg trivial
 ·rw [qiu h,J0 (by intro e;cases e)] at hr
  exact qbr hw hr (by intro e;cases e) trivial hc hwho hs hrg ⟨by omega,hp⟩
theorem qex {l:List Q0} {i j:Nat} {s d:Q0} (h:j≠i):(l.set i s).getD j d=l.getD j d:=by
 rw [List.getD_eq_getElem?_getD,List.getD_eq_getElem?_getD,List.getElem?_set,if_neg (fun e=>h e.symm)]
theorem qnt {l:List Q0} {i:Nat} {s d:Q0} (h:i<l.length):(l.set i s).getD i d=s:=by
 rw [List.getD_eq_getElem?_getD,List.getElem?_set,if_pos rfl,if_pos h];rfl
theorem qry {x x':Qj} {i:Nat} {s s':Q0} (hs:x.shs[i]?=some s) (e:s'.ring=s.ring) (h:x'.shs=x.shs.set i s'):x'.rg=x.rg:=by
 funext n
 unfold Qj.rg;rw [h,List.getElem?_set];split
 ·rename_i en
  subst en;rw [if_pos (List.getElem?_eq_some_iff.1 hs).1,hs];simp [e]
 ·rfl
theorem qzi {X:ST} {i:Nat} (hs:z.k.s=some i) (hil:i<z.x.shs.length) (hX:qjj X z.k z.x i) (hring:∀ i r,z.x.rg i=some r→qff r) :
 (qbc (.thn X (.shards1 i)) z=true)→qn9 (.thn X (.shards1 i)) z.x→qyz (.thn X (.shards1 i)) z.k z.x→GoT (.thn X (.shards1 i)) z (Xp (.thn X (.shards1 i)) z):=by
 obtain ⟨hget,hsh⟩:=qqu hs hil
 match X,hX with
 | .at (some .lock) (.one2 d),hX =>
   intro hm hf hw;have h0:∀ j,(z.x.shs.getD j (Qp 1)).who=0:=fun j=>Classical.byContradiction fun e=>(hw j e).1
   have hr:St.run runT Xv (.at (some .lock) (.one2 d)) z=(.at none (.one21 d),z.onSh { z.shS with who:=qt5 z.shS.who z.k.th,turns:=qtq z.shS.who z.shS.turns }):=rfl;have e:Xp (.thn (.at (some .lock) (.one2 d)) (.shards1 i)) z=(.thn (.at none (.one21 d)) (.shards1 i),z.onSh { z.shS with who:=qt5 z.shS.who z.k.th,turns:=qtq z.shS.who z.shS.turns }):=rfl;rw [e];refine ⟨by show z.x.f.inside=z.x.f.inside+1 - 1;omega,.inl ?_,trivial,fun j hj=>⟨trivial,?_⟩⟩
   ·exact qry (i:=z.sh) (s:=z.shS) (by rw [hsh];exact hget) (by rfl) rfl
   ·by_cases hji:j=i
    ·rw [hji];exact hs
    ·exfalso
     apply hj
     show ((z.x.shs.set z.sh _).getD j (Qp 1)).who=0
     rw [hsh,qex hji];exact h0 j
 | .at none (.one21 d),hX =>
   intro hm hf hw;by_cases ht:z.shS.ring.tail - z.shS.ring.head≤0
   ·have hr:St.run runT Xv (.at none (.one21 d)) z=(.thn (.row1 (.turnA d)) (.one2112 d),z):=if_pos ht
    exact qcw hw hr (by intro e;cases e) trivial (Zg.refl z) trivial
   ·have hr:St.run runT Xv (.at none (.one21 d)) z=(.thn (Yx (z.shS.ring.tail - z.shS.ring.head) z) (.one211 d),z):=if_neg ht
    rw [qiu ht] at hr;refine qcw hw hr (by intro e;cases e) trivial (Zg.refl z) ⟨by omega,fun r hrr=>?_⟩
    rw [qw5 hs hil] at hrr;cases hrr
    exact Int.le_refl _
 | .thn (.row1 (.turnA d)) (.one2112 e),hX =>
   intro hm hf hw;have hc:=qgk (.thn (.row1 (.turnA d)) (.one2112 e)) z ⟨trivial,trivial⟩;obtain ⟨r,hr⟩:∃ r,St.run runT Xv (.thn (.row1 (.turnA d)) (.one2112 e)) z=r:=⟨_,rfl⟩;have hr':=hr;rw [hr] at hc;have e2:r=runT (.one2112 e) (Xv (.turnA d) z):=hr.symm
   have hn:r.1≠.nil∧qtr r.1∧∀ x,qn9 (.thn r.1 (.shards1 i)) x:=by
    rw [e2];generalize Xv (.turnA d) z=w;have e3:runT (.one2112 e) w=(match w.k.due[0]? with | none=>((.row1 .unlock,w):ST × ZT) | some _=>(.thn (Xc e 0 w).1 .one21121,(Xc e 0 w).2)):=rfl;rw [e3];cases w.k.due[0]? with
    | none=>exact ⟨(by intro e;cases e),trivial,fun _=>trivial⟩
    | some t=>exact ⟨(by intro e;cases e),trivial,fun _=>qi9 _ _ _⟩
   exact qcw hw (X':=r.1) (z':=r.2) hr hn.1 hn.2.1 hc (hn.2.2 _)
 | .thn (.at (some (.ready j)) (.pops1 n)) (.one211 d),hX =>
   intro hm hf hw;obtain ⟨_,_,rfl,hn0,_⟩:=hX
   have hrd:z.shS.ring.ready=true:=by
    have hm:(z.x.shs.getD j (Qp 1)).ring.ready=true:=hm;unfold ZT.shS;rw [hsh];exact hm
   obtain ⟨hn1,hp⟩:=(show 1≤n∧qqp n j z.x from hf);have hrg:=qw5 hs hil;obtain ⟨_,_,k3,k4,_,_⟩:=q0g (hring j _ hrg) hrd;obtain ⟨z',hz'⟩:∃ z':ZT,{ (z.onSh { z.shS with ring:=(Y5 z.shS.ring).1 }) with k:={ z.k with t:=(Y5 z.shS.ring).2.1 } }=z':=⟨_,rfl⟩
   have hrr:z'.x.rg=qj3 z.x.rg j (Y5 z.shS.ring).1:=by
    rw [← hz'];exact qie (x:=z.x) (s:=z.shS) hget (by rw [← hsh];rfl)
   have hpn:qqp (n - 1) j z'.x:=fun r hr=>by
    rw [hrr,qr5] at hr;cases hr
    have:=hp _ hrg;rw [k3,k4];omega
   have hin:z'.x.f.inside=z.x.f.inside:=by rw [← hz'];rfl
   have hss:z'.k.s=z.k.s:=by rw [← hz']
   have hwho:zl z.x z'.x:=fun i'=>by
    rw [← hz']
    show ((z.x.shs.set z.sh _).getD i' (Qp 1)).who=_
    rw [hsh];by_cases e:i'=j
    ·rw [e,qnt hil]
     show z.shS.who=_
     unfold ZT.shS;rw [hsh]
    ·rw [qex e]
   have hrun:St.run runT Xv (.thn (.at (some (.ready j)) (.pops1 n)) (.one211 d)) z=Xl runT (if z'.k.t.slot<0 then (Yx (n - 1) z',z') else ((.thn (.at none .rec1) (.pops11 n),z'):ST × ZT)).1 (.one211 d) (if z'.k.t.slot<0 then (Yx (n - 1) z',z') else ((.thn (.at none .rec1) (.pops11 n),z'):ST × ZT)).2:=by rw [← hz'];rfl
   have hor:z'.x.rg=z.x.rg∨∃ i q,z.x.rg i=some q∧q.ready=true∧z'.x.rg=qj3 z.x.rg i (Y5 q).1:=.inr ⟨j,_,hrg,hrd,hrr⟩;by_cases hsl:z'.k.t.slot<0
   ·rw [if_pos hsl] at hrun
    exact qkt hw hrun hin hwho hss hor hpn
   ·rw [if_neg hsl] at hrun
    rw [J0 (by intro e;cases e)] at hrun;exact qbr hw hrun (by intro e;cases e) trivial hin hwho hss hor hpn
 | .thn (.thn (.at none .rec1) (.pops11 n)) (.one211 d),hX =>
   intro hm hf hw;have hf:qqp (n - 1) i z.x:=hf;have hc:=qhi .rec1 z trivial;have e1:runT .rec1 z=(if (Xd 2 z).2=true then (.at none .rec11,(Xd 2 z).1) else (.nil,(Xd 2 z).1)):=rfl;obtain ⟨z',hz'⟩:∃ z',(runT .rec1 z).2=z':=⟨_,rfl⟩;rw [hz'] at hc;have hp:qqp (n - 1) i z'.x:=fun r hr=>hf r (by rw [← hc.rg];exact hr)
   have hrun:St.run runT Xv (.thn (.thn (.at none .rec1) (.pops11 n)) (.one211 d)) z=Xl runT (Xl runT (runT .rec1 z).1 (.pops11 n) z').1 (.one211 d) (Xl runT (runT .rec1 z).1 (.pops11 n) z').2:=by rw [← hz'];rfl
   by_cases hl:(Xd 2 z).2=true
   ·rw [e1,if_pos hl,J0 (by intro e;cases e),J0 (by intro e;cases e)] at hrun
    exact qcw hw hrun (by intro e;cases e) trivial hc hp
   ·rw [e1,if_neg hl,qc0] at hrun
    exact qkt hw hrun hc.inside hc.who hc.s (.inl hc.rg) hp
 | .thn (.thn (.at none .rec11) (.pops11 n)) (.one211 d),hX =>
   intro hm hf hw;have hf:qqp (n - 1) i z.x:=hf;have hc:=qhi .rec11 z trivial;obtain ⟨z',hz'⟩:∃ z',(runT .rec11 z).2=z':=⟨_,rfl⟩;rw [hz'] at hc;have hp:qqp (n - 1) i z'.x:=fun r hr=>hf r (by rw [← hc.rg];exact hr)
   have hrun:St.run runT Xv (.thn (.thn (.at none .rec11) (.pops11 n)) (.one211 d)) z=Xl runT (Xl runT (runT .rec11 z).1 (.pops11 n) z').1 (.one211 d) (Xl runT (runT .rec11 z).1 (.pops11 n) z').2:=by rw [← hz'];rfl
   have hcase:(runT .rec11 z).1=.nil∨(runT .rec11 z).1=.at none .rec1:=by
    show ((if (Q3 3 z).2=true then (.nil,qky (Q3 3 z).1) else (Xo (Q3 3 z).1,(Q3 3 z).1)):ST × ZT).1=_∨((if (Q3 3 z).2=true then (.nil,qky (Q3 3 z).1) else (Xo (Q3 3 z).1,(Q3 3 z).1)):ST × ZT).1=_
    split
    ·exact .inl rfl
    ·show Xo _=_∨Xo _=_
     unfold Xo;split
     ·exact .inl rfl
     ·exact .inr rfl
   rcases hcase with hl | hl
   ·rw [hl,qc0] at hrun
    exact qkt hw hrun hc.inside hc.who hc.s (.inl hc.rg) hp
   ·rw [hl,J0 (by intro e;cases e),J0 (by intro e;cases e)] at hrun
    exact qcw hw hrun (by intro e;cases e) trivial hc hp
 | .thn (.thn G (.fires1 d n)) .one21121,hX =>
   intro hm hf hw;obtain ⟨_,_,_,_,hG⟩:=hX
   have hall:G.allM qzy qxk:=by
    match G,hG with
    | .at none .looks,_=>trivial
    | .at none .claims,_=>trivial
    | .thn (.row1 (.put _)) .claims2,_=>exact ⟨trivial,trivial⟩
    | .at none .behind,_=>trivial
    | .at none (.rearm1 next),_=>trivial
    | .at none .finishes,_=>trivial
    | .row2 .rel .drop,_=>trivial
    | .row1 .drop,_=>trivial
   have hc:=qgk (.thn (.thn G (.fires1 d n)) .one21121) z ⟨⟨hall,trivial⟩,trivial⟩;obtain ⟨r,hr⟩:∃ r,St.run runT Xv (.thn (.thn G (.fires1 d n)) .one21121) z=r:=⟨_,rfl⟩;rw [hr] at hc;have e2:r=Xl runT (St.run runT Xv (.thn G (.fires1 d n)) z).1 .one21121 (St.run runT Xv (.thn G (.fires1 d n)) z).2:=hr.symm
   have hn:r.1≠.nil∧qtr r.1∧∀ x,qn9 (.thn r.1 (.shards1 i)) x:=by
    rw [e2];by_cases e:(St.run runT Xv (.thn G (.fires1 d n)) z).1=.nil
    ·rw [e,qc0]
     exact ⟨(by intro e;cases e),trivial,fun _=>trivial⟩
    ·rw [J0 e]
     exact ⟨(by intro e;cases e),trivial,fun _=>qi9 _ _ _⟩
   exact qcw hw (X':=r.1) (z':=r.2) hr hn.1 hn.2.1 hc (hn.2.2 _)
 | .row1 .unlock,hX =>
   intro hm hf hw;have e:Xp (.thn (.row1 .unlock) (.shards1 i)) z=Zj (i+1) (z.onSh { z.shS with who:=0 }):=rfl;rw [e]
   have hz0:∀ j,((z.onSh { z.shS with who:=0 }).x.shs.getD j (Qp 1)).who=0:=fun j=>by
    show ((z.x.shs.set z.sh _).getD j (Qp 1)).who=0
    rw [hsh];by_cases hji:j=i
    ·rw [hji,qnt hil]
    ·rw [qex hji]
     refine Classical.byContradiction fun hne=>?_
     have:=(hw j hne).2;rw [hs] at this;cases this
     exact hji rfl
   have hrg:(z.onSh { z.shS with who:=0 }).x.rg=z.x.rg:=qry (i:=z.sh) (s:=z.shS) (by rw [hsh];exact hget) (by rfl) rfl;generalize hz':z.onSh { z.shS with who:=0 }=z' at hz0 hrg ⊢;have hin:z'.x.f.inside=z.x.f.inside:=by rw [← hz'];rfl
   unfold Zj;split
   ·exact ⟨by show z'.x.f.inside=z.x.f.inside+1 - 1;omega,.inl hrg,trivial,fun j hj=>absurd (hz0 j) hj⟩
   ·exact ⟨by show z'.x.f.inside=z.x.f.inside+1 - 1;omega,.inl hrg,trivial,fun j hj=>absurd (hz0 j) hj⟩
theorem q0s {N:Nat} (hb:TB N z) (h:qz3 s z.k z.x) (hm:qbc s z=true) (hf:qn9 s z.x) (hi:qz1 s≤z.x.f.inside) (hw:qyz s z.k z.x) (hring:∀ i r,z.x.rg i=some r→qff r):GoT s z (Xp s z):=by
 have h0:(¬ qv2 s)→∀ j,(z.x.shs.getD j (Qp 1)).who=0:=fun hl j=>Classical.byContradiction fun e=>hl (hw j e).1
 match s,h,hm,hf,hi,hw with
 | .nil,_,hm,_,_,_=>exact absurd hm (by simp [qbc,St.may])
 | .at none .enter,_,_,_,_,_ =>
   have h0:=h0 (fun e=>e);exact ⟨by show z.x.f.inside+1=z.x.f.inside+1 - 0;omega,.inl rfl,trivial,fun j hj=>absurd (h0 j) hj⟩
 | .at none .gate,_,_,_,_,_ =>
   have h0:=h0 (fun e=>e)
   show GoT _ z ((if z.x.f.closed=true then qz 3 z else (.at none .tick,z)):ST × ZT)
   split
   ·exact ⟨by show z.x.f.inside=z.x.f.inside+1 - 1;omega,.inl rfl,trivial,fun j hj=>absurd (h0 j) hj⟩
   ·exact ⟨by show z.x.f.inside=z.x.f.inside+1 - 1;omega,.inl rfl,trivial,fun j hj=>absurd (h0 j) hj⟩
 | .at none .tick,_,_,_,_,_ =>
   have h0:=h0 (fun e=>e)
   show GoT _ z (Zj 0 (({ z with x:={ z.x with f:={ z.x.f with now:=z.x.f.now+1 } },k:={ z.k with now:=z.x.f.now+1 } }:ZT).note { ev0 with kind:=11,tick:=z.x.f.now+1 }))
   unfold Zj;split
   ·exact ⟨by show z.x.f.inside=z.x.f.inside+1 - 1;omega,.inl rfl,trivial,fun j hj=>absurd (h0 j) hj⟩
   ·exact ⟨by show z.x.f.inside=z.x.f.inside+1 - 1;omega,.inl rfl,trivial,fun j hj=>absurd (h0 j) hj⟩
 | .row2 .leave1 .answer,_,_,_,hi,_ =>
   have h0:=h0 (fun e=>e);have hi:(1:Int)≤z.x.f.inside:=hi;refine ⟨?_,.inl rfl,trivial,fun j hj=>absurd (h0 j) hj⟩
   show Zf z.x.f.inside=z.x.f.inside+0 - 1
   unfold Zf;rw [if_neg (by omega)];omega
 | .row1 .answer,_,_,_,_,_ =>
   have h0:=h0 (fun e=>e);exact ⟨by show z.x.f.inside=z.x.f.inside+0 - 0;omega,.inl rfl,trivial,fun j hj=>absurd (h0 j) hj⟩
 | .thn X (.shards1 i),h,hm,hf,hi,hw =>
   obtain ⟨hs,hil,_,hX⟩:=h;exact qzi hs hil hX hring hm hf hw
end
end
section
open Go.RowKit Go.Shelf
attribute [local go_sem] Oper.semAt_some
def qqn (j:qg):Value:=.iface j.w.ty (Qb j.kb)
structure J7 (L:Lay) (sb:Nat) (S:SvS) (vo va vc:Value) (go ga gc:List Blk):Prop where
 o:Qu 88 1 vo S.own.length (S.os.map ifO) go
 a:Qu 88 1 va S.all.length (S.all.map qqn) ga
 c:Qu 139 1 vc S.crew.length (S.ps.map Qb) gc
structure qgq (L:Lay) (S:SvS) (gJ gW gZ:List Blk):Prop where
 j:Jb L S.all gJ
 w:qf7 L S.crew gW
 z:isZ L S.z gZ
def qio (L:Lay) (sb:Nat) (S:SvS) (g:List Blk):Prop :=
 ∃ vo va vc go ga gc gJ gW gZ,J7 L sb S vo va vc go ga gc∧qgq L S gJ gW gZ∧g=Q6 sb L.fb vo va vc++(go++(ga++(gc++(gJ++(gW++gZ)))))
def SvS.mays (S:SvS):List Nat:=(S.ths.filter fun t=>t.2.may S).map Prod.fst
def SvS.maysTo (S:SvS) (k:Nat):List Nat:=((S.ths.take k).filter fun t=>t.2.may S).map Prod.fst
def ql1 (l:List Nat):List Value:=l.map fun n=>.int .i64 (n:Nat)
theorem qom (S:SvS):S.maysTo S.ths.length=S.mays:=by unfold SvS.maysTo SvS.mays;rw [List.take_length]
theorem qlm {S:SvS} {k:Nat} {t:Nat × Th} (h:S.ths[k]?=some t):S.maysTo (k+1)=S.maysTo k++(if t.2.may S then [t.1] else []):=by
 obtain ⟨h1,h2⟩:=List.getElem?_eq_some_iff.1 h;unfold SvS.maysTo;rw [List.take_succ_eq_append_getElem h1,h2,List.filter_append,List.map_append];cases hm:t.2.may S <;> simp [hm]
theorem qrx (S:SvS) (k:Nat):(S.maysTo k).length≤S.ths.length:=by
 unfold SvS.maysTo;rw [List.length_map];exact Nat.le_trans (List.length_filter_le _ _) (by rw [List.length_take];omega)
theorem qhb:∀ (l:List (Option Nat)) (a:Nat),(qul a l).length≤l.length
 | [],_=>Nat.le_refl _
 | none::l,a=>Nat.le_succ_of_le (qhb l (a+1))
 | some k::l,a=>Nat.succ_le_succ (qhb l (a+1))
theorem qnx:∀ (l:List WkN) (a i:Nat),(qqr a i l).length=l.length
 | [],_,_=>rfl
 | c::l,a,i=>congrArg Nat.succ (qnx l (a+1) (i+1))
theorem ql9 {N:Nat} {S:SvS} (h:SvN N S):S.ths.length≤2000:=by
 have h1:=h.ol;have h2:=h.cl;have h3:=qhb S.own 0;have h4:=qnx S.crew S.own.length 0;unfold SvS.ths;rw [List.length_append];omega
theorem qig (sb:Nat):Qa prog 45 #[Qb sb] [] fun e gs=>∃ bx,e=.returned (.func (.func 67) #[] #[Qb bx])∧gs=[[cl bx 25 #[Qb sb]]]:=by
 refine GO fun w HT=>?_
 go_enter func45,ntmps45
 go_wp2
 go_ret
 exact ⟨_,⟨_,rfl,rfl⟩,(HT.out.alloc rfl _ _)⟩
theorem qyp (S:SvS) (t:Th) (b:Nat) (W:World):(method 503 (t.ty S) (Qb b) "May").run prog W=.ok (t.fMay S,Qb b) W:=by
 cases t with
 | job a=>show (method _ ((S.jobAt a).w.ty) _ _).run _ _=.ok ((S.jobAt a).w.fMay,_) _;cases (S.jobAt a).w <;> kernel_rfl
 | wkr i=>kernel_rfl
theorem qwm (S:SvS) (t:Th) (b:Nat) (W:World):(method 503 (t.ty S) (Qb b) "Step").run prog W=.ok (t.fStep S,Qb b) W:=by
 cases t with
 | job a=>show (method _ ((S.jobAt a).w.ty) _ _).run _ _=.ok ((S.jobAt a).w.fStep,_) _;cases (S.jobAt a).w <;> kernel_rfl
 | wkr i=>kernel_rfl
theorem qxr (S:SvS) (t:Th) (args:Array Value) (W:World):(callFunc (t.fMay S) args).run prog W=.ok (.enter (t.fMay S) args) W:=by
 cases t with
 | job a=>show (callFunc (S.jobAt a).w.fMay _).run _ _=.ok (.enter (S.jobAt a).w.fMay _) _;cases (S.jobAt a).w <;> kernel_rfl
 | wkr i=>kernel_rfl
theorem qvw (S:SvS) (t:Th) (args:Array Value) (W:World):(callFunc (t.fStep S) args).run prog W=.ok (.enter (t.fStep S) args) W:=by
 cases t with
 | job a=>show (callFunc (S.jobAt a).w.fStep _).run _ _=.ok (.enter (S.jobAt a).w.fStep _) _;cases (S.jobAt a).w <;> kernel_rfl
 | wkr i=>kernel_rfl
theorem quo:(prog.info? 3).map (fun i=>(i.zero,i.size,i.bytes))=some (some (.int .i64 0),1,8):=by kernel_rfl
theorem qri {L:Lay} {sb:Nat} {S:SvS} {vo va vc:Value} {go ga gc:List Blk} {N:Nat} (hn:SvN N S) (hr:J7 L sb S vo va vc go ga gc) (bx:Nat) :
 qeo prog 67 #[Qb bx] (itTh (S.ths.map (thC S)) (qrc sb (Q6 sb L.fb vo va vc) go gc) [[cl bx 25 #[Qb sb]]]) (0:Nat):=by
 rw [← qsy];refine qkc bx sb L.fb ?_ ?_ ?_ ?_
 ·show Qu _ 1 vo (S.own.map _).length _ go
  rw [List.length_map];exact hr.o
 ·show Qu _ 1 vc (S.crew.map _).length _ gc
  rw [List.length_map];exact hr.c
 ·show (S.own.map _).length≤_
  rw [List.length_map];exact hn.ol.2
 ·show (S.crew.map _).length≤_
  rw [List.length_map];exact hn.cl
section
variable {L:Lay} {sb:Nat} {S:SvS} {N:Nat}
theorem q1x (hn:SvN N S) (hN:N<999998) {vo va vc:Value} {go ga gc gJ gW gZ:List Blk} (hr:J7 L sb S vo va vc go ga gc) (hi:qgq L S gJ gW gZ):Qa prog 18 #[Qb sb] [Q6 sb L.fb vo va vc,go,ga,gc,gJ,gW,gZ] fun e gs =>
 ∃ v gl gJ' gW' gZ',e=.returned v∧Qu 3 1 v S.mays.length (ql1 S.mays) gl∧qgq L S gJ' gW' gZ'∧gs=[Q6 sb L.fb vo va vc,go,ga,gc,gJ',gW',gZ',gl]:=by
 have HI:=Vh (show ∀ bx,_ from fun bx=>qri hn hr bx);have eg:=enters_of func67 (P:=prog) (by kernel_rfl) rfl;have HNN:=Vh hn;have HSI:=Vh hi;have htl:=ql9 hn;refine GO fun w HT=>?_
 clear hr hi hn;refine X3 func18 rfl ?_
 simp only [ntmps18,List.size_toArray,List.length_cons,List.length_nil,Nat.reduceAdd,Nat.reduceSub,Array.replicate_succ,Array.replicate_zero,List.push_toArray,List.append_toArray,List.nil_append,List.cons_append];go_wp2_with fail
 obtain ⟨lb,hlb⟩:∃ lb,w.heap.size=lb:=⟨_,rfl⟩;have HT:=Vh (HT.out.alloc (k:=lb) hlb.symm 40 #[.slice none 0 0]);rw [hlb];clear hlb;go_wp2_with fail
 refine Qa.run (qig sb) (HT.out) [] ?_
 rintro e w1 gs ⟨bx,rfl,rfl⟩ HT;simp only [PU] at HT;have T0:=HT.out.re (H':=[Q6 sb L.fb vo va vc,go,ga,gc,gJ,gW,gZ,[cl lb 40 #[.slice none 0 0]],[]]++[[cl bx 25 #[Qb sb]]]) (by simp);go_wp2_with fail
 refine qn (H0:=[Q6 sb L.fb vo va vc,go,ga,gc,gJ,gW,gZ,[cl lb 40 #[.slice none 0 0]],[]]) (O0:=[[cl bx 25 #[Qb sb]]]) rfl eg (HI.out bx) ?hps T0 ?hO (fun (k:Nat) H=>∃ v gl gJ1 gW1 gZ1,H=[Q6 sb L.fb vo va vc,go,ga,gc,gJ1,gW1,gZ1,[cl lb 40 #[v]],gl]∧qgq L S gJ1 gW1 gZ1∧Qu 3 1 v (S.maysTo k).length (ql1 (S.maysTo k)) gl) (fun _ _ _=>False) ?h0 ?hT ?hbody ?hdone ?hstop
 case hps =>
  rintro s x G s' ⟨hx,_⟩;obtain ⟨t,_,rfl⟩:=List.mem_map.1 (List.mem_of_getElem? hx);rfl
 case hO=>exact rfl
 case h0=>exact ⟨_,[],gJ,gW,gZ,rfl,HSI.out,(show Qu 3 1 (.slice none 0 0) 0 [] [] from Zi _ _)⟩
 case hT=>rintro s H K ⟨v,gl,gJ1,gW1,gZ1,rfl,_⟩;exact ⟨0,1,3,rfl,rfl,rfl,by simp,by simp,by simp⟩
 case hbody =>
  rintro (k:Nat) x G (k':Nat) H W ly ⟨v,gl,gJ1,gW1,gZ1,rfl,hi1,hr1⟩ ⟨hx,rfl,rfl⟩ hH;rw [List.getElem?_map] at hx
  obtain ⟨t,ht,rfl⟩:∃ t,S.ths[k]?=some t∧thC S t=x:=by
   cases h:S.ths[k]? with
   | none=>rw [h] at hx;cases hx
   | some t=>rw [h] at hx;exact ⟨t,rfl,by cases hx;rfl⟩
  obtain ⟨nt,t⟩:=t;have hml:=qrx S k;have hms:=qlm ht;have hmay:=q3e HNN.out (qa2 HNN.out (List.mem_of_getElem? ht)) hi1.j hi1.w hi1.z hN;have hinv:=qyp S t;have hcal:=qxr S t;obtain ⟨tyV,hty⟩:∃ y,t.ty S=y:=⟨_,rfl⟩;obtain ⟨fV,hfv⟩:∃ y,t.fMay S=y:=⟨_,rfl⟩;obtain ⟨bV,hbv⟩:∃ y,t.b S=y:=⟨_,rfl⟩;unfold thC;simp only at hms hmay ⊢;rw [hty,hfv] at hinv;rw [hfv] at hcal;rw [hty,hbv];rw [hfv,hbv] at hmay;have HM:=Vh hmay;have HMS:=Vh hms;have HH:=Vh hH;have HR:=Vh hr1;obtain ⟨av,cap,hv⟩:=Qu.val hr1;subst hv;clear hH hr1 hi1 ht hx hmay hms hty hfv hbv;refine Xz (n:=9) ?_
  gi_wp2
  refine ⟨_,TG.refl HH.out,fun Wb hb=>?_⟩
  have HT:=Vh (TG.refl hb);clear hb HH;refine Xz (n:=9) ?_
  gi_wp2
  refine ⟨trivial,(ze (Qa.use HM.out HT.out [4,5,6] rfl rfl)).mono ?_⟩
  rintro e W1 ⟨gs,⟨gJ2,gW2,gZ2,rfl,hj2,hw2,hz2,rfl⟩,Ta⟩;simp only [qc8,List.set_cons_zero,List.set_cons_succ,List.append_nil] at Ta;have HI2:=Vh (show qgq L S gJ2 gW2 gZ2 from ⟨hj2,hw2,hz2⟩);cases hm:t.may S with
  | false =>
    rw [hm] at HMS;have HMS:=Vh (show S.maysTo (k+1)=S.maysTo k by rw [HMS.out];exact List.append_nil _);have HT:=Vh Ta;clear Ta hj2 hw2 hz2 hinv hcal;gi_wp2
    exact ⟨_,⟨_,gl,gJ2,gW2,gZ2,rfl,HI2.out,by rw [HMS.out];exact HR.out⟩,HT.out⟩
  | true =>
    rw [hm] at HMS;have HMS:=Vh (show S.maysTo (k+1)=S.maysTo k++[nt] from HMS.out);have HT:=Vh Ta;have c0:=Ta.cell 7 0 rfl 0;have f0:=Ta.free 7 0 rfl 0;simp only [GE2] at c0;clear Ta hj2 hw2 hz2 hinv hcal;obtain ⟨M,hM⟩:∃ M,(S.maysTo k).length=M:=⟨_,rfl⟩;rw [hM] at HT HR c0 hml;have ho2:M+1≤maxLen:=by unfold maxLen;omega
    have ho3:(M+1)*8≤140737488355328:=by omega
    have ho4:M≤2000:=by omega
    gi_wp2_with (
     gi_at_builtin
     with_reducible refine Z6 rfl (.tmp 12) (.tmp 14) 40 rfl 3 1 8 _ underlying40 quo rfl (by decide) (HT.out.alloc0 _) 8 rfl rfl HR.out rfl ⟨W1.heap.size,0,none⟩ 1 1 [.int .i64 (nt:Nat)] rfl rfl (X8 _ _ _) (by simp [Value.oneCell']) ho2 ho3 ?_;skip)
    ·intro v1 w2 g1 r1 T1
     have T1:=T1.eq (H':=[Q6 sb L.fb vo va vc,go,ga,gc,gJ2,gW2,gZ2,[cl lb 40 #[.slice av M cap]],g1]) rfl;have c1:=T1.cell 7 0 rfl 0;have f1:=T1.free 7 0 rfl 0;obtain ⟨a1,cap1,hv1⟩:=Qu.val r1;subst hv1;have T1:=Vh T1;have r1:=Vh r1;simp only [GE2] at c1;gi_wp2
     have e1:(S.maysTo (k+1)).length=M+1:=by rw [HMS.out,List.length_append,hM];rfl
     have e2:ql1 (S.maysTo (k+1))=ql1 (S.maysTo k)++[.int .i64 (nt:Nat)]:=by rw [HMS.out];exact List.map_append ..
     exact ⟨[Q6 sb L.fb vo va vc,go,ga,gc,gJ2,gW2,gZ2,[cl lb 40 #[.slice a1 (M+1) cap1]],g1],⟨_,g1,gJ2,gW2,gZ2,rfl,HI2.out,by rw [e1,e2];exact r1.out⟩,by rw [hM];exact (T1.out.set 7 0 rfl 0 (.slice a1 (M+1) cap1)).eq (by rfl)⟩
 case hdone =>
  rintro (k:Nat) H O' W D hf' ⟨v,gl,gJ1,gW1,gZ1,rfl,hi1,hr1⟩ hO hT
  have hf2:k=S.ths.length:=by
   have:k=(S.ths.map (thC S)).length:=hf';rwa [List.length_map] at this
  subst hf2;rw [qom] at hr1;have hO':O'=[[cl bx 25 #[Qb sb]]]:=hO;subst hO';have c0:=hT.cell 7 0 rfl 0;simp only [GE2] at c0;have HX:=Vh (And.intro hi1 (And.intro hr1 hT));obtain ⟨av,cap,hv⟩:=Qu.val hr1;subst hv;clear hi1 hr1 hT hf' hO;go_wp2
  obtain ⟨hi1,hr1,hT⟩:=HX.out;have T3:=hT.turnLast (.deferred none)
  have T4:TG [Q6 sb L.fb vo va vc,go,ga,gc,gJ,gW,gZ] w ([Q6 sb L.fb vo va vc,go,ga,gc,gJ1,gW1,gZ1,gl]++[[cl lb 40 #[.slice av S.mays.length cap],cl bx 25 #[Qb sb],(D,.deferred none)]]) (W.putObj D (.deferred none)):=T3.re (by
   classical
   simp only [List.flatten_append,List.flatten_cons,List.flatten_nil,List.append_nil,List.cons_append,List.nil_append];refine List.perm_iff_count.2 fun a=>?_
   simp only [List.count_append,List.count_cons,List.count_nil]
   omega)
  exact Je (v:=.slice av S.mays.length cap) hT.has.last (by simp [results,results18,go_sem]) ⟨_,⟨_,gl,gJ1,gW1,gZ1,rfl,hr1,hi1,rfl⟩,T4.dropLast⟩
 case hstop=>intro s cd H O W D h;exact h.elim
end
end
section
open Go.RowKit Go.Shelf
attribute [local go_sem] Oper.semAt_some
theorem Yd {w:Wk} {z:ZF} (h:w.may z=true):w.done=false:=by
 cases w with
 | call s k =>
   have:(!s.isNil)=true:=h
   show s.isNil=false
   cases hs:s.isNil
   ·rfl
   ·rw [hs] at this;cases this
 | turn s k =>
   cases s with
   | nil=>cases h
   | _=>rfl
 | clo s k =>
   cases s with
   | nil=>cases h
   | _=>rfl
theorem ql0 (w:Wk) (z:ZF):(w.step z).1.isTurn=w.isTurn:=by cases w <;> rfl
theorem qyq (w:Wk) (z:ZF):(w.step z).1.ty=w.ty:=by cases w <;> rfl
section
variable {S:SvS} {N:Nat} {t:Th}
theorem qds {α:Type} {l:List α} {a b:Nat} {x y:α} (h:(l.set a x)[b]?=some y):(b=a∧y=x)∨(b≠a∧l[b]?=some y):=by
 rw [List.getElem?_set] at h;split at h
 ·next hab =>
  split at h
  ·exact .inl ⟨hab.symm,(Option.some.inj h).symm⟩
  ·cases h
 ·next hab=>exact .inr ⟨fun e=>hab e.symm,h⟩
theorem q24 (hn:SvN N S) (ht:t.here S) (hN:N<999998) (hm:t.may S=true):SvN (N+1) (t.step S):=by
 cases t with
 | job a =>
   have hk:=Xu ht;obtain ⟨hjn,hn0,hn1⟩:=hn.jobs _ (List.mem_of_getElem? hk);have hm':(S.jobAt a).w.may S.z=true:=hm;have hnd:=Yd hm';obtain ⟨h1,h2,h3,h4,h5⟩:=qtd hn.glo hjn hm' (by omega)
   refine ⟨h1,?_,fun c hc=>(hn.crew c hc).mono (by omega),fun k hk'=>by
    show k<(S.all.set a _).length
    rw [List.length_set];exact hn.own k hk',hn.ol,hn.cl,by
    show (S.all.set a _).length≤_
    have:=hn.al
    rw [List.length_set];omega,?_⟩
   ·intro j hj
    obtain ⟨b,hb⟩:=List.mem_iff_getElem?.1 hj;rcases qds hb with ⟨_,rfl⟩ | ⟨hne,hb⟩
    ·exact ⟨h2,by show 0≤(S.jobAt a).n+1;omega,by show (S.jobAt a).n+1≤_;omega⟩
    ·obtain ⟨g1,g2,g3⟩:=hn.jobs j (List.mem_of_getElem? hb)
     refine ⟨(g1.mono (M:=N+1) (by omega)).frame h3 (fun hjt=>?_),g2,by omega⟩
     cases hst:(S.jobAt a).w.isTurn with
     | false=>exact .inl (h4 hst)
     | true =>
       right
       cases hd:j.w.done with
       | true=>rfl
       | false =>
         have e1:=hn.turn a _ hk hst hnd;have e2:=hn.turn b j hb hjt hd;rw [e1] at e2;cases e2
         exact absurd rfl hne
   ·intro b j hb hjt hd
    rcases qds hb with ⟨rfl,rfl⟩ | ⟨hne,hb⟩
    ·exact hn.turn b _ hk (by rw [← ql0 (S.jobAt b).w S.z];exact hjt) hnd
    ·exact hn.turn b j hb hjt hd
 | wkr i =>
   have hk:=Yy ht;have hcn:=hn.crew _ (List.mem_of_getElem? hk);obtain ⟨_,h1,h2,h3,h4⟩:=qf4 hcn hn.glo hN
   refine ⟨h2,fun j hj=>?_,fun c hc=>?_,hn.own,hn.ol,by
    show (S.crew.set i _).length≤_
    rw [List.length_set];exact hn.cl,by have:=hn.al;show S.all.length≤_;omega,hn.turn⟩
   ·obtain ⟨g1,g2,g3⟩:=hn.jobs j hj
    exact ⟨(g1.mono (M:=N+1) (by omega)).frame h3 (fun _=>.inl h4),g2,by omega⟩
   ·rcases List.mem_or_eq_of_mem_set hc with hc | rfl
    ·exact (hn.crew c hc).mono (by omega)
    ·exact h1
theorem qc4 {α β:Type} {f:α→β} {l:List α} {a:Nat} {x y:α} (h:l[a]?=some x) (hf:f y=f x):(l.set a y).map f=l.map f:=by
 rw [List.map_set,hf,← List.map_set];obtain ⟨h1,h2⟩:=List.getElem?_eq_some_iff.1 h;rw [← h2,List.set_getElem_self]
theorem qby (ht:t.here S):(t.step S).all.map qqn=S.all.map qqn:=by
 cases t with
 | job a =>
   refine qc4 (Xu ht) ?_
   unfold qqn;simp only [qyq]
 | wkr i=>rfl
theorem qx1 (ht:t.here S):(t.step S).os.map ifO=S.os.map ifO:=by
 unfold SvS.os;have ho:(t.step S).own=S.own:=by cases t <;> rfl
 rw [ho,List.map_map,List.map_map];refine List.map_congr_left fun o ho=>?_
 cases o with
 | none=>rfl
 | some b =>
   have h1:((t.step S).all.map qqn)[b]?=(S.all.map qqn)[b]?:=by rw [qby ht]
   have hl:(t.step S).all.length=S.all.length:=by
    have:=congrArg List.length (qby ht);simpa using this
   show Value.iface ((t.step S).jobAt b).w.ty (Qb ((t.step S).jobAt b).kb)=Value.iface (S.jobAt b).w.ty (Qb (S.jobAt b).kb)
   by_cases hb:b<S.all.length
   ·rw [List.getElem?_map,List.getElem?_map,Xu hb,Xu (S:=t.step S) (by omega)] at h1
    exact Option.some.inj h1
   ·have e1:S.jobAt b=q1p:=by unfold SvS.jobAt;rw [List.getD_eq_getElem?_getD,List.getElem?_eq_none (by omega)];rfl
    have e2:(t.step S).jobAt b=q1p:=by unfold SvS.jobAt;rw [List.getD_eq_getElem?_getD,List.getElem?_eq_none (by omega)];rfl
    rw [e1,e2]
theorem qrm (ht:t.here S):(t.step S).ps=S.ps:=by
 cases t with
 | job a=>rfl
 | wkr i=>exact qc4 (Yy ht) rfl
theorem qtv {L:Lay} {sb:Nat} {vo va vc:Value} {go ga gc:List Blk} (ht:t.here S) (h:J7 L sb S vo va vc go ga gc):J7 L sb (t.step S) vo va vc go ga gc:=by
 have h1:=congrArg List.length (qby ht);have h2:=congrArg List.length (qrm ht);simp only [List.length_map,SvS.ps] at h1 h2;have ho:(t.step S).own=S.own:=by cases t <;> rfl
 exact ⟨by rw [qx1 ht,ho];exact h.o,by rw [qby ht,h1];exact h.a,by rw [qrm ht,h2];exact h.c⟩
end
def SvS.pickTh (S:SvS) (at_:Int):Option (Nat × Th):=S.ths.find? fun t=>decide ((t.1:Int)=at_) && t.2.may S
def SvS.stepS (S:SvS) (at_:Int):SvS × Int :=
 if at_<0∨(S.own.length:Int)+S.crew.length≤at_ then (S,4)
 else match S.pickTh at_ with
  | some t=>(t.2.step S,0)
  | none=>(S,7)
theorem qsx {α:Type} {p:α→Bool}:∀ {l:List α} {k:Nat} {x:α},l[k]?=some x→(∀ y∈l.take k,p y=false)→p x=true→l.find? p=some x
 | [],_,_,h,_,_=>by cases h
 | a::l,0,x,h,_,hx=>by cases h;exact List.find?_cons_of_pos hx
 | a::l,k+1,x,h,hy,hx=>by
   rw [List.find?_cons_of_neg (by rw [hy a (by simp)];decide)];exact qsx (l:=l) (k:=k) h (fun y hy'=>hy y (by rw [List.take_succ_cons];exact List.mem_cons_of_mem _ hy')) hx
theorem qrg {N:Nat} {S:SvS} (hn:SvN N S) (hN:N<999998) (i:Int):SvN (N+1) (S.stepS i).1:=by
 unfold SvS.stepS;split
 ·exact hn.mono (by omega)
 ·split
  ·next t ht =>
   have hp:=List.find?_some ht;have hm:=List.mem_of_find?_eq_some ht;simp only [Bool.and_eq_true] at hp;exact q24 hn (qa2 hn hm) hN hp.2
  ·exact hn.mono (by omega)
end
section
open Go.RowKit Go.Shelf
def qic:Wk→Int
 | .call s k=>qt7 s k
 | .turn s _=>qz1 s
 | .clo _ _=>0
def Yz:SS→Qy→Prop
 | .at (some .idle) _,p=>p.shut=true
 | _,_=>True
def goW (z:ZF):Wk→Prop
 | .call s k=>q0l s k∧qs2 s k
 | .turn s k=>qn9 s z.x
 | .clo s k=>Yz s z.p
def qdi (l:List Int):Int:=l.foldr (·+·) 0
structure Yi (S:SvS):Prop where
 go:∀ (a:Nat) (j:qg),S.all[a]?=some j→goW S.z j.w
 ins:S.z.x.f.inside=qdi (S.all.map fun j=>qic j.w)
 rg:RgI (S.all.map fun j=>j.w.tk) S.z.x.rg
 who:∀ i,(S.z.x.shs.getD i (Qp 1)).who≠0→∃ (a:Nat) (j:qg) (s:ST) (k:Xf),S.all[a]?=some j∧j.w=.turn s k∧qv2 s∧k.s=some i
 busy:S.z.x.f.busy=qdi (S.crew.map fun c=>(c.k.holds.length:Int))
 own:∀ (a:Nat) (j:qg),S.all[a]?=some j→j.w.done=false→∃ i:Nat,S.own[i]?=some (some a)
 crew:1≤S.crew.length
theorem qgv {α:Type} {f:α→Int}:∀ {l:List α} {a:Nat} {x y:α},l[a]?=some x→qdi ((l.set a y).map f)=qdi (l.map f) - f x+f y
 | b::l,0,x,y,h=>by
   simp only [List.getElem?_cons_zero,Option.some.injEq] at h;subst h
   show f y+qdi (l.map f)=f b+qdi (l.map f) - f b+f y
   omega
 | b::l,a+1,x,y,h=>by
   have:=qgv (f:=f) (l:=l) (a:=a) (y:=y) h
   show f b+qdi ((l.set a y).map f)=f b+qdi (l.map f) - f x+f y
   rw [this];omega
theorem qhp {α:Type} {f:α→Int}:∀ {l:List α} {a:Nat} {x:α},(∀ x,0≤f x)→l[a]?=some x→f x≤qdi (l.map f)
 | b::l,0,x,hf,h=>by
   simp only [List.getElem?_cons_zero,Option.some.injEq] at h;subst h;have:0≤qdi (l.map f):=sum_nn l hf
   show f b≤f b+qdi (l.map f)
   omega
 | b::l,a+1,x,hf,h=>by
   have:=qhp (f:=f) (l:=l) (a:=a) hf h;have:=hf b
   show f x≤f b+qdi (l.map f)
   omega
where sum_nn {α:Type} {f:α→Int}:∀ l:List α,(∀ x,0≤f x)→0≤qdi (l.map f)
 | [],_=>Int.le_refl _
 | b::l,hf=>by
   have:=sum_nn l hf;have:=hf b
   show 0≤f b+qdi (l.map f)
   omega
theorem qbq {α:Type} {f:α→Int}:∀ {l:List α},(∀ x∈l,f x=0)→qdi (l.map f)=0
 | [],_=>rfl
 | b::l,h=>by
   have h1:=qbq (f:=f) (l:=l) (fun x hx=>h x (List.mem_cons_of_mem _ hx));have h2:=h b List.mem_cons_self
   show f b+qdi (l.map f)=0
   omega
theorem qv1 {α:Type} {f:α→Int} (l:List α) (x:α):qdi ((l++[x]).map f)=qdi (l.map f)+f x:=by
 induction l with
 | nil=>show f x+0=0+f x;omega
 | cons b l ih =>
   show f b+qdi ((l++[x]).map f)=f b+qdi (l.map f)+f x
   rw [ih];omega
theorem qs8 (w:Wk):0≤qic w:=by
 cases w with
 | call s k=>show 0≤qt7 s k;unfold qt7;split <;> first | exact Int.le_refl _ | (split <;> decide)
 | turn s k=>show 0≤qz1 s;unfold qz1;split <;> decide
 | clo s k=>exact Int.le_refl _
def qd7 (x x':Qj):Prop:=∀ i r',x'.rg i=some r'→∃ r,x.rg i=some r∧r.tail - r.head≤r'.tail - r'.head
theorem qd7.same {x x':Qj} (h:x'.rg=x.rg):qd7 x x':=fun i r' hr=>⟨r',by rw [← h];exact hr,Int.le_refl _⟩
theorem qqz {x x':Qj} (h:qd7 x x') {n:Int} {i:Nat} (hp:qqp n i x):qqp n i x':=fun r' hr=>by
 obtain ⟨r,h1,h2⟩:=h i r' hr;have:=hp r h1;omega
theorem qe4 {x x':Qj} (h:qd7 x x') {s:ST} (hf:qn9 s x):qn9 s x':=by
 revert hf
 unfold qn9;split
 ·exact fun hf=>⟨hf.1,qqz h hf.2⟩
 ·exact fun hf=>qqz h hf
 ·exact fun _=>trivial
theorem qtf (r:Qs) (t:Xt):(stepT r t).1.head=r.head∧r.tail≤(stepT r t).1.tail:=by
 unfold stepT qes qal qdr;split
 ·exact ⟨rfl,Int.le_refl _⟩
 ·split
  ·exact ⟨rfl,Int.le_refl _⟩
  ·split
   ·exact ⟨rfl,Int.le_refl _⟩
   ·split
    ·exact ⟨rfl,by show r.tail≤t.pos+1;omega⟩
    ·exact ⟨rfl,Int.le_refl _⟩
theorem qti (r:Qs) (t:Xt) (v:Qm):(Zs r t v).1.head=r.head∧(Zs r t v).1.tail=r.tail:=by
 unfold Zs;split <;> exact ⟨rfl,rfl⟩
theorem qut {k k':Qt} {x x':Qj} (e:qzt k k' x x'):qd7 x x':=by
 have hrg:∀ {i:Nat} {s:Q0},x.shs[i]?=some s→x.rg i=some s.ring:=fun hs=>by unfold Qj.rg;rw [hs];rfl
 cases e with
 | none h1 h2=>exact qd7.same (qcc h1)
 | new h1 h0 i hi h2=>exact qd7.same (qcc h1)
 | step i t s h0 ht hf hs h1 h2 =>
   intro n r' hr;rw [qie hs h1] at hr;rcases Yh hr with ⟨rfl,rfl⟩ | ⟨_,hr⟩
   ·have:=qtf s.ring t
    exact ⟨_,hrg hs,by omega⟩
   ·exact ⟨r',hr,Int.le_refl _⟩
 | fill i t s v h0 ht hf hs h1 h2 =>
   intro n r' hr;rw [qie hs h1] at hr;rcases Yh hr with ⟨rfl,rfl⟩ | ⟨_,hr⟩
   ·have:=qti s.ring t v
    exact ⟨_,hrg hs,by omega⟩
   ·exact ⟨r',hr,Int.le_refl _⟩
section
variable {N:Nat} {S:SvS}
theorem qvu {α β:Type} (f:α→β) (l:List α) (a:Nat) (x:α):(l.set a x).map f=(l.map f).set a (f x):=List.map_set ..
theorem qk4 {α β:Type} {f:α→β} {l:List α} {a:Nat} {x:α} (h:l[a]?=some x):(l.map f)[a]?=some (f x):=by rw [List.getElem?_map,h];rfl
theorem qny (hn:SvN N S) (h:Yi S) {a:Nat} {j:qg} {s:ST} {k:Xf} (ha:S.all[a]?=some j) (hj:j.w=.turn s k) (hd:s.isNil=false):qyz s k S.z.x:=by
 intro i hi;obtain ⟨b,jb,s2,k2,h1,h2,h3,h4⟩:=h.who i hi
 have hnil:s2.isNil=false:=by cases s2 with
  | nil=>exact h3.elim
  | _=>rfl
 have e1:=hn.turn a j ha (by rw [hj];rfl) (by rw [hj];exact hd);have e2:=hn.turn b jb h1 (by rw [h2];rfl) (by rw [h2];exact hnil);rw [e1] at e2;cases e2
 rw [ha] at h1;cases h1
 rw [hj] at h2;cases h2
 exact ⟨h3,h4⟩
theorem qgy (hn:SvN N S) (h:Yi S) {a:Nat} {j:qg} (ha:S.all[a]?=some j) (hd:j.w.done=false) (n':Int) {w':Wk} {z':ZF}
 (h1:goW z' w') (h2:z'.x.f.inside=S.z.x.f.inside+qic w' - qic j.w) (h3:RgI ((S.all.map fun j=>j.w.tk).set a w'.tk) z'.x.rg)
 (h4:∀ (b:Nat) (jb:qg),b≠a→S.all[b]?=some jb→goW z' jb.w)
 (h5:∀ i,(z'.x.shs.getD i (Qp 1)).who≠0→(∃ s k,w'=.turn s k∧qv2 s∧k.s=some i)∨((S.z.x.shs.getD i (Qp 1)).who≠0∧j.w.isTurn=false))
 (h6:z'.x.f.busy=S.z.x.f.busy):Yi { S with all:=S.all.set a ⟨j.kb,n',w'⟩,z:=z' }:=by
 refine ⟨fun b jb hb=>?_,?_,?_,fun i hi=>?_,by rw [show ({ S with all:=S.all.set a ⟨j.kb,n',w'⟩,z:=z' }:SvS).z.x.f.busy=z'.x.f.busy from rfl,h6];exact h.busy,fun b jb hb hdb=>?_,h.crew⟩
 ·rcases qds hb with ⟨_,rfl⟩ | ⟨hne,hb⟩
  ·exact h1
  ·exact h4 b jb hne hb
 ·show z'.x.f.inside=qdi ((S.all.set a ⟨j.kb,n',w'⟩).map fun j=>qic j.w)
  rw [qgv (f:=fun j:qg=>qic j.w) ha,h2,h.ins]
  show _+qic w' - qic j.w=_ - qic j.w+qic w'
  omega
 ·show RgI ((S.all.set a ⟨j.kb,n',w'⟩).map fun j=>j.w.tk) z'.x.rg
  rw [qvu];exact h3
 ·rcases h5 i hi with ⟨s,k,e1,e2,e3⟩ | ⟨hw,hit⟩
  ·exact ⟨a,_,s,k,get_set_same ha,e1,e2,e3⟩
  ·obtain ⟨b,jb,s2,k2,g1,g2,g3,g4⟩:=h.who i hw
   refine ⟨b,jb,s2,k2,qbf g1 (fun e=>?_),g2,g3,g4⟩
   subst e;rw [ha] at g1;cases g1
   rw [g2] at hit;cases hit
 ·rcases qds hb with ⟨rfl,_⟩ | ⟨hne,hb⟩
  ·exact h.own b j ha hd
  ·exact h.own b jb hb hdb
theorem qss (hn:SvN N S) (h:Yi S) {a:Nat} {j:qg} (ha:S.all[a]?=some j) {s:SC} {k:Qt} (hj:j.w=.call s k) (hd:s.isNil=false) (n':Int):Yi { S with all:=S.all.set a ⟨j.kb,n',(j.w.step S.z).1⟩,z:=(j.w.step S.z).2 }:=by
 obtain ⟨hjn,_,_⟩:=hn.jobs _ (List.mem_of_getElem? ha);have hgo:=h.go a j ha;have hinn:qic j.w≤S.z.x.f.inside:=by rw [h.ins];exact qhp (f:=fun j:qg=>qic j.w) (fun x=>qs8 x.w) ha
 rw [hj] at hjn hgo hinn;have hjc:JC N s (k,S.z.x):=⟨hn.glo.zn.core,hjn.wk,hjn.fit⟩;have g:=q11 hjc hgo.1 hgo.2 hinn;obtain ⟨q1,_⟩:=qmi hjc hjn.gen;have hT:(S.all.map fun j=>j.w.tk)[a]?=some k.tk:=by rw [qk4 ha,hj];rfl
 have hwin:=qut g.eff;refine qgy hn h ha (by rw [hj];exact hd) n' ?_ ?_ ?_ (fun b jb hne hb=>?_) (fun i hi=>?_) ?_
 ·rw [hj];exact ⟨g.fit,g.tk⟩
 ·rw [hj];exact g.ins
 ·rw [hj];exact qts h.rg hT hjn.wk g.eff
 ·have:=h.go b jb hb
  rw [hj];revert this
  cases jb.w with
  | call s2 k2=>exact fun e=>e
  | turn s2 k2=>exact fun e=>qe4 hwin e
  | clo s2 k2=>exact fun e=>e
 ·rw [hj] at hi ⊢
  exact .inr ⟨by rw [← q1.who i];exact hi,rfl⟩
 ·rw [hj];exact q1.busy
theorem qsn (hn:SvN N S) (h:Yi S) {a:Nat} {j:qg} (ha:S.all[a]?=some j) {s:ST} {k:Xf} (hj:j.w=.turn s k) (hm:j.w.may S.z=true) (n':Int):Yi { S with all:=S.all.set a ⟨j.kb,n',(j.w.step S.z).1⟩,z:=(j.w.step S.z).2 }:=by
 have hd:=Yd hm;obtain ⟨hjn,_,_⟩:=hn.jobs _ (List.mem_of_getElem? ha);have hgo:=h.go a j ha;have hinn:qic j.w≤S.z.x.f.inside:=by rw [h.ins];exact qhp (f:=fun j:qg=>qic j.w) (fun x=>qs8 x.w) ha
 rw [hj] at hjn hgo hinn hm;have hd':s.isNil=false:=by rw [hj] at hd;exact hd
 have hb:TB N ⟨k,S.z.x,S.z.ws,S.z.p⟩:=⟨hn.glo.zn.core,hn.glo.zn.rest,hjn.wk,hn.glo.ws,hn.glo.sh4⟩;have g:=q0s (s:=s) hb hjn.fit hm hgo hinn (qny hn h ha hj hd') h.rg.ring;have q:=qmk s ⟨k,S.z.x,S.z.ws,S.z.p⟩;have hT:(S.all.map fun j=>j.w.tk)[a]?=some none:=by rw [qk4 ha,hj];rfl
 have hrgi:RgI ((S.all.map fun j=>j.w.tk).set a none) (Xp s ⟨k,S.z.x,S.z.ws,S.z.p⟩).2.x.rg:=by
  rw [qsu hT];rcases g.rings with e | ⟨i,r,e1,e2,e3⟩
  ·rw [e];exact h.rg
  ·rw [e3];exact h.rg.pop e1 e2
 refine qgy hn h ha hd n' ?_ ?_ ?_ (fun b jb hne hb=>?_) (fun i hi=>?_) ?_
 ·rw [hj];exact g.fit
 ·rw [hj];exact g.ins
 ·rw [hj];exact hrgi
 ·have hg:=h.go b jb hb
  rw [hj];cases hw:jb.w with
  | call s2 k2=>rw [hw] at hg;exact hg
  | turn s2 k2 =>
    have hnil:s2=.nil:=by
     refine Classical.byContradiction fun hne2=>?_
     have hd2:s2.isNil=false:=by cases s2 with
      | nil=>exact absurd rfl hne2
      | _=>rfl
     have e1:=hn.turn a j ha (by rw [hj];rfl) hd;have e2:=hn.turn b jb hb (by rw [hw];rfl) (by rw [hw];exact hd2);rw [e1] at e2;cases e2
     exact hne rfl
    subst hnil;trivial
  | clo s2 k2 =>
    rw [hw] at hg
    show Yz s2 (Xp s ⟨k,S.z.x,S.z.ws,S.z.p⟩).2.p
    have hg:Yz s2 S.z.p:=hg;revert hg
    unfold Yz;split
    ·exact fun e=>by rw [q.shut];exact e
    ·exact fun _=>trivial
 ·rw [hj] at hi
  obtain ⟨e1,e2⟩:=g.who i hi;exact .inl ⟨_,_,by rw [hj];rfl,e1,e2⟩
 ·rw [hj];exact q.busy
structure q09 (z z':ZS):Prop where
 inside:z'.x.f.inside=z.x.f.inside
 shut:z.p.shut=true→z'.p.shut=true
theorem qy6 (s:SS) (z:ZS):q09 z (stepS s z).2:=by
 refine St.keep (R:=q09) (runM:=Zn) (runA:=Y3) (fun z=>⟨rfl,id⟩) (fun _ _ _ a b=>⟨b.inside.trans a.inside,fun e=>b.shut (a.shut e)⟩) (fun m z=>?_) (fun a z=>?_) s z
 ·cases m with
  | shuts=>dsimp only [Zn];split <;> exact ⟨rfl,id⟩
  | slots0=>exact ⟨rfl,id⟩
  | slots2 i=>exact ⟨rfl,id⟩
  | waits=>exact ⟨rfl,id⟩
  | looks1 i=>dsimp only [Zn];split <;> exact ⟨rfl,id⟩
  | leaves0 i=>dsimp only [Zn];split <;> exact ⟨rfl,id⟩
  | waits2=>exact ⟨rfl,id⟩
 ·cases a with
  | pshut=>exact ⟨rfl,fun _=>rfl⟩
  | _=>exact ⟨rfl,id⟩
theorem Yb (i:Int) (z:ZS) (p:Qy):Yz (qbw i z) p:=by
 unfold qbw qfw;split <;> trivial
theorem qvp {s:SS} {z:ZS} (hf:q2c s z.k) (hm:qeq s z=true):Yz (stepS s z).1 (stepS s z).2.p:=by
 have hthn:∀ (X:SS) (m:MS),(∀ z:ZS,Yz (Zn m z).1 (Zn m z).2.p)→Yz (Xl Zn (St.run Zn Y3 X z).1 m (St.run Zn Y3 X z).2).1 (Xl Zn (St.run Zn Y3 X z).1 m (St.run Zn Y3 X z).2).2.p:=by
  intro X m hmm;by_cases e:(St.run Zn Y3 X z).1=.nil
  ·rw [e];exact hmm _
  ·rw [J0 e];trivial
 match s,hf,hm with
 | .nil,_,hm=>exact absurd hm (by simp [qeq,St.may])
 | .at none .shuts,_,_ =>
   show Yz ((if z.x.f.closed=true then (.row1 .ends1,{ (z.note { ev0 with kind:=9,err:=3 }) with k:={ z.k with err:=3,ok:=false,aset:=false } }) else (.at (some .inside) .slots0,({ z with x:={ z.x with f:={ z.x.f with closed:=true } } }:ZS).note { ev0 with kind:=10 })):SS × ZS).1 _
   split <;> trivial
 | .at (some .inside) .slots0,_,_=>exact Yb 0 z _
 | .at (some .idle) .waits2,_,_=>trivial
 | .row1 .ends1,_,_=>trivial
 | .thn (.row1 .pshut) .waits,_,_=>exact rfl
 | .thn (.at none (.looks1 i)) (.slots2 j),_,_=>exact hthn _ _ fun z=>Yb _ z _
 | .thn (.at none (.leaves0 i)) (.slots2 j),_,_=>exact hthn _ _ fun z=>Yb _ z _
 | .thn (.row2 (.release _) .drop) (.slots2 j),_,_=>exact hthn _ _ fun z=>Yb _ z _
 | .thn (.row1 .drop) (.slots2 j),_,_=>exact hthn _ _ fun z=>Yb _ z _
theorem qud (hn:SvN N S) (h:Yi S) {a:Nat} {j:qg} (ha:S.all[a]?=some j) {s:SS} {k:Yl} (hj:j.w=.clo s k) (hm:j.w.may S.z=true) (n':Int):Yi { S with all:=S.all.set a ⟨j.kb,n',(j.w.step S.z).1⟩,z:=(j.w.step S.z).2 }:=by
 have hd:=Yd hm;obtain ⟨hjn,_,_⟩:=hn.jobs _ (List.mem_of_getElem? ha);rw [hj] at hjn hm;have q:=qtm s ⟨k,S.z.x,S.z.p⟩;have c:=qy6 s ⟨k,S.z.x,S.z.p⟩;have w:=qvp (s:=s) (z:=⟨k,S.z.x,S.z.p⟩) hjn.fit hm;have hT:(S.all.map fun j=>j.w.tk)[a]?=some none:=by rw [qk4 ha,hj];rfl
 have hrg:(stepS s ⟨k,S.z.x,S.z.p⟩).2.x.rg=S.z.x.rg:=qcc q.shs;refine qgy hn h ha hd n' ?_ ?_ ?_ (fun b jb hne hb=>?_) (fun i hi=>?_) ?_
 ·rw [hj];exact w
 ·rw [hj];show (stepS s ⟨k,S.z.x,S.z.p⟩).2.x.f.inside=S.z.x.f.inside+0 - 0;rw [c.inside];show S.z.x.f.inside=_;omega
 ·rw [hj]
  show RgI ((S.all.map fun j=>j.w.tk).set a none) (stepS s ⟨k,S.z.x,S.z.p⟩).2.x.rg
  rw [qsu hT,hrg];exact h.rg
 ·have hg:=h.go b jb hb
  rw [hj];revert hg
  cases jb.w with
  | call s2 k2=>exact fun e=>e
  | turn s2 k2=>exact fun e=>qe4 (qd7.same hrg) e
  | clo s2 k2 =>
    show Yz s2 S.z.p→Yz s2 (stepS s ⟨k,S.z.x,S.z.p⟩).2.p
    unfold Yz;split
    ·exact c.shut
    ·exact id
 ·rw [hj] at hi ⊢
  refine .inr ⟨?_,rfl⟩
  have e:(stepS s ⟨k,S.z.x,S.z.p⟩).2.x.shs=S.z.x.shs:=q.shs;rw [← e];exact hi
 ·rw [hj];exact q.busy
theorem quq (hn:SvN N S) (h:Yi S) (hN:N<999998) {i:Nat} {c:WkN} (hc:S.crew[i]?=some c):Yi { S with crew:=S.crew.set i (c.step S.z).1,z:=(c.step S.z).2 }:=by
 have hcn:=hn.crew _ (List.mem_of_getElem? hc);obtain ⟨wb,s,n,k⟩:=c;have hb:=h.busy;have hge:(k.holds.length:Int)≤S.z.x.f.busy:=by rw [hb];exact qhp (f:=fun c:WkN=>(c.k.holds.length:Int)) (fun x=>by omega) hc
 have hsum:=fun y=>qgv (f:=fun c:WkN=>(c.k.holds.length:Int)) (y:=y) hc
 obtain ⟨t1,t2,t3,t4⟩:=qtw hn.glo.zn.rest.ch;rcases hcn.fit with ⟨h1,h2⟩ | ⟨h1,h2⟩
 ·obtain rfl:s=Yj:=h1
  have h2:k.holds=[]:=h2;refine ⟨fun a j ha=>?_,h.ins,h.rg,h.who,?_,h.own,by show 1≤(S.crew.set i _).length;rw [List.length_set];exact h.crew⟩
  ·have:=h.go a j ha
   revert this
   cases j.w with
   | call s2 k2=>exact fun e=>e
   | turn s2 k2=>exact fun e=>qe4 (x:=S.z.x) (x':={ S.z.x with f:={ S.z.x.f with busy:=S.z.x.f.busy+1 } }) (qd7.same rfl) e
   | clo s2 k2 =>
     show Yz s2 S.z.p→Yz s2 S.z.p.take.1
     unfold Yz;split
     ·exact fun e=>by rw [t4];exact e
     ·exact id
  ·show S.z.x.f.busy+1=qdi ((S.crew.set i _).map _)
   rw [hsum,← hb]
   show _=_ - (k.holds.length:Int)+((k.holds++[_]).length:Int)
   rw [h2];simp
 ·obtain rfl:s=.thn (.row1 .puts) .takes:=h1
  have h2:k.holds.length=1:=h2;refine ⟨fun a j ha=>?_,h.ins,h.rg,h.who,?_,h.own,by show 1≤(S.crew.set i _).length;rw [List.length_set];exact h.crew⟩
  ·have:=h.go a j ha
   revert this
   cases j.w with
   | call s2 k2=>exact fun e=>e
   | turn s2 k2=>exact fun e=>qe4 (x:=S.z.x) (x':={ S.z.x with f:={ S.z.x.f with busy:=Zf S.z.x.f.busy } }) (qd7.same rfl) e
   | clo s2 k2=>exact fun e=>e
  show Zf S.z.x.f.busy=qdi ((S.crew.set i _).map _)
  rw [hsum,← hb]
  show _=_ - (k.holds.length:Int)+(([]:List Q7).length:Int)
  unfold Zf;rw [if_neg (by omega),h2];simp
theorem qwc (hn:SvN N S) (h:Yi S) {t:Th} (ht:t.here S) (hN:N<999998) (hm:t.may S=true):Yi (t.step S):=by
 cases t with
 | job a =>
   have ha:=Xu ht;have hm:(S.jobAt a).w.may S.z=true:=hm;have hd:=Yd hm;cases hw:(S.jobAt a).w with
   | call s k=>exact qss hn h ha hw (by rw [hw] at hd;exact hd) _
   | turn s k=>exact qsn hn h ha hw hm _
   | clo s k=>exact qud hn h ha hw hm _
 | wkr i=>exact quq hn h hN (Yy ht)
end
end
end Go.Proofs.YtikpbibeagbccaaGreat
