import Derived.Test.YtblhfbcodbjgcaaGreatSV33
import Derived.Test.YtblhfbcodbjgcaaGreatSV16
import Derived.Test.YtblhfbcodbjgcaaGreatSV32
import Derived.Test.YtblhfbcodbjgcaaGreatSV24
namespace Go.Proofs.YtblhfbcodbjgcaaGreat
set_option linter.unusedVariables false
set_option linter.unusedSimpArgs false
section
open Go.RowKit Go.Shelf
attribute [local go_sem] Oper.semAt_some
def ifO:Option (Wk × Nat)→Value
 | none=>.nilIface
 | some (w,b)=>.iface w.ty (ptr' b)
def items1:Nat→List (Option (Wk × Nat))→List (Array Value)
 | _,[]=>[]
 | a,none::l=>items1 (a+1) l
 | a,some o::l=>#[.int .i64 a,ifO (some o)]::items1 (a+1) l
def items2:Nat→List Nat→List (Array Value)
 | _,[]=>[]
 | a,p::l=>#[.int .i64 a,.iface 255 (ptr' p)]::items2 (a+1) l
theorem items1_app:∀ (l l':List (Option (Wk × Nat))) (a:Nat),items1 a (l++l')=items1 a l++items1 (a+l.length) l'
 | [],l',a=>rfl
 | none::l,l',a=>by
   show items1 (a+1) (l++l')=items1 (a+1) l++_
   rw [items1_app l l' (a+1),List.length_cons,show a+1+l.length=a+(l.length+1) by omega]
 | some o::l,l',a=>by
   show _::items1 (a+1) (l++l')=_::items1 (a+1) l++_
   rw [items1_app l l' (a+1),List.length_cons,show a+1+l.length=a+(l.length+1) by omega]
   rfl
theorem items2_len:∀ (l:List Nat) (a:Nat),(items2 a l).length=l.length
 | [],_=>rfl
 | p::l,a=>by
   show (items2 (a+1) l).length+1=_
   rw [items2_len l];rfl
theorem items2_at:∀ (l:List Nat) (a i p:Nat),l[i]?=some p→(items2 a l)[i]?=some #[.int .i64 (a+i:Nat),.iface 255 (ptr' p)]
 | [],_,_,_,h=>by cases h
 | q::l,a,0,p,h=>by cases h;rfl
 | q::l,a,i+1,p,h=>by
   have:=items2_at l (a+1) i p h
   rw [show a+1+i=a+(i+1) by omega] at this
   exact this
def posT (os:List (Option (Wk × Nat))) (i:Nat):Nat:=(items1 0 (os.take i)).length
theorem posT_none {os:List (Option (Wk × Nat))} {i:Nat} (h:os[i]?=some none):posT os (i+1)=posT os i:=by
 obtain ⟨h1,h2⟩:=List.getElem?_eq_some_iff.1 h
 unfold posT
 rw [List.take_succ_eq_append_getElem h1,h2,items1_app]
 show (items1 0 (os.take i)++[]).length=_
 rw [List.append_nil]
theorem posT_some {os:List (Option (Wk × Nat))} {i:Nat} {o:Wk × Nat} (h:os[i]?=some (some o)):posT os (i+1)=posT os i+1∧∀ l,(items1 0 os++l)[posT os i]?=some #[.int .i64 i,ifO (some o)]:=by
 obtain ⟨h1,h2⟩:=List.getElem?_eq_some_iff.1 h
 have hl:(os.take i).length=i:=by rw [List.length_take];omega
 refine ⟨?_,fun l=>?_⟩
 ·unfold posT
  rw [List.take_succ_eq_append_getElem h1,h2,items1_app,List.length_append]
  rfl
 ·have e:os=os.take i++some o::os.drop (i+1):=by
   rw [← h2,← List.drop_eq_getElem_cons h1,List.take_append_drop]
  have e2:items1 0 os=items1 0 (os.take i)++(#[.int .i64 i,ifO (some o)]::items1 (i+1) (os.drop (i+1))):=by
   have h3:items1 0 os=items1 0 (os.take i++some o::os.drop (i+1)):=congrArg _ e
   rw [items1_app,hl,Nat.zero_add] at h3
   exact h3
  rw [e2,List.append_assoc]
  unfold posT
  rw [List.getElem?_append_right (Nat.le_refl _),Nat.sub_self]
  rfl
theorem posT_all (os:List (Option (Wk × Nat))):posT os os.length=(items1 0 os).length:=by unfold posT;rw [List.take_length]
def itTh (xs:List (Array Value)) (R:GH→Prop) (O:GH):ItS where
 σ:=Nat
 O _ O':=O'=O
 T _ H:=R H
 step k x G k':=xs[k]?=some x∧G=[]∧k'=k+1
 fin k:=k=xs.length
theorem neq_nilI (W:World):(binOp .neq 188 .nilIface .nilIface).run Tryz.prog W=.ok (.bool false) W:=by kernel_rfl
theorem neq_ifI (w:Wk) (b:Nat) (W:World):(binOp .neq 188 (.iface w.ty (ptr' b)) .nilIface).run Tryz.prog W=.ok (.bool true) W:=by cases w <;> kernel_rfl
def headAt (sb:Nat) (hd go gc:List Blk) (H:GH):Prop:=∃ i j k,H.getD i []=hd∧H.getD j []=go∧H.getD k []=gc∧i<H.length∧j<H.length∧k<H.length
def headB (sb fb:Nat) (vo va vc:Value):List Blk:=[cl sb 186 #[ptr' fb,vo,va,vc]]
theorem getD_app {α:Type} {H K:List α} {i:Nat} {d:α} (hi:i<H.length):(H++K).getD i d=H.getD i d:=by
 rw [List.getD_eq_getElem?_getD,List.getElem?_append_left hi,← List.getD_eq_getElem?_getD]
theorem rowV_at {v:Value} {gr:List Blk} {n:Nat} {t:TypeId} {xs:List Value} (hr:rowG t 1 v n xs gr) {h H:GH} {w w':World} (T:TG h w H w') (i:Nat) (hg:H.getD i []=gr) (hi:i<H.length) {k:Nat} {x:Value} (hk:xs[k]?=some x) :
 ∃ b cap,v=.slice (some ⟨b,0,none⟩) n cap∧w'.cell? ⟨b,k,none⟩=some x:=by
 have hlen:xs.length=n:=by
  have:=hr.1
  omega
 have hkl:=(List.getElem?_eq_some_iff.1 hk).1
 obtain ⟨b,cap,cur,hv,hgr,_,_,_,hcur⟩:=hr.open (by omega)
 refine ⟨b,cap,hv,?_⟩
 have:=T.cell i 0 (b:=b) (T:=t) (C:=cur) (by rw [hg,hgr];rfl) k
 rw [this,hcur k (by omega),hk]
set_option maxRecDepth 100000 in
set_option maxHeartbeats 4000000 in
theorem threads_iter (bx sb fb:Nat) {os:List (Option (Wk × Nat))} {ps:List Nat} {vo va vc:Value} {go gc:List Blk} (hro:rowG 188 1 vo os.length (os.map ifO) go) (hrc:rowG 255 1 vc ps.length (ps.map ptr') gc) (hn:os.length≤1000) (hm:ps.length≤1000) :
 IterY Tryz.prog 150 #[ptr' bx] (itTh (items1 0 os++items2 os.length ps) (headAt sb (headB sb fb vo va vc) go gc) [[cl bx 81 #[ptr' sb]]]) (0:Nat):=by
 intro ly J Jx hT hY H0 O0 W hJ0 hO hH
 have hO':O0=[[cl bx 81 #[ptr' sb]]]:=hO
 subst hO'
 have T0:=TG.refl hH
 have c0:=(TG.refl hH.right).cell 0 0 rfl 0
 simp only [GE2] at c0
 obtain ⟨a0,a1,a2,b0,b1,b2,l0,l1,l2⟩:=hT (0:Nat) H0 hJ0
 obtain ⟨avo,capo,rfl⟩:=rowG.val hro
 obtain ⟨avc,capc,rfl⟩:=rowG.val hrc
 have HEAD:∀ (H:GH) (w':World),headAt sb (headB sb fb (.slice avo os.length capo) va (.slice avc ps.length capc)) go gc H→HasG H w'→w'.cell? ⟨sb,1,none⟩=some (.slice avo os.length capo)∧w'.cell? ⟨sb,3,none⟩=some (.slice avc ps.length capc):=by
  rintro H w' ⟨i,j,k,h1,_,_,h4,_,_⟩ hh
  exact ⟨(TG.refl hh).cell i 0 (b:=sb) (by rw [h1];rfl) 1,(TG.refl hh).cell i 0 (b:=sb) (by rw [h1];rfl) 3⟩
 obtain ⟨hd1,hd3⟩:=HEAD H0 W (hT (0:Nat) H0 hJ0) hH.left
 have HHD:=Lib.hid HEAD
 have HRO:=Lib.hid hro
 have HRC:=Lib.hid hrc
 have HJ:=Lib.hid hJ0
 have HT0:=Lib.hid T0
 have HTT:=Lib.hid hT
 have HY:=Lib.hid hY
 clear hO hH hY hT hJ0 T0 b0 b1 b2 l0 l1 l2 hro hrc HEAD
 refine (callsIn_wide (n:=9)).1 (callsIn_of_wp Tryz.func150 rfl trivial ?_ rfl)
 simp only [Tryz.ntmps150,List.size_toArray,List.length_cons,List.length_nil,Nat.reduceAdd,Nat.reduceSub,Array.replicate_succ,Array.replicate_zero,List.push_toArray,List.append_toArray,List.nil_append,List.cons_append]
 gi_wp2
 clear hd1 hd3
 gi_loopw [14] (fun i wr=>∃ (k:Nat) (H:GH),k≤os.length∧i=.int .i64 k∧J (posT os k) H∧TG (H0++[[cl bx 81 #[ptr' sb]]]) W (H++[[cl bx 81 #[ptr' sb]]]) wr) (fun i _=>os.length+1 - (intOf i).toNat)
 case atStart=>exact ⟨0,H0,by omega,rfl,HJ.out,HT0.out⟩
 case round =>
  obtain ⟨k,H,hk,rfl,hj,T⟩:=hrel
  clear HJ HT0 c0
  by_cases hlt:k<os.length
  ·obtain ⟨o,ho⟩:∃ o,os[k]?=some o:=⟨_,List.getElem?_eq_getElem hlt⟩
   obtain ⟨i,j,q,e1,e2,e3,l1,l2,l3⟩:=HTT.out _ _ hj
   obtain ⟨rb,cp,hv,hb⟩:=rowV_at HRO.out T j (by rw [getD_app l2];exact e2) (by rw [List.length_append];omega) (k:=k) (x:=ifO o) (by rw [List.getElem?_map,ho];rfl)
   obtain ⟨rfl,rfl⟩:avo=some ⟨rb,0,none⟩∧capo=cp:=by cases hv;exact ⟨rfl,rfl⟩
   clear hv e1 e2 e3 l1 l2 l3
   cases o with
   | none =>
     have hp:=posT_none ho
     have hnq:=neq_nilI
     change _=some Value.nilIface at hb
     rw [← hp] at hj
     have HJ:=Lib.hid hj
     have HT:=Lib.hid T
     clear hj T hp ho
     gi_wp2
     refine ⟨fun f hf=>(by cases hf),?_⟩
     gi_wp2
     go_roundw
     case rel=>exact ⟨k+1,H,by omega,by go_num,HJ.out,HT.out⟩
     case measure=>simp [intOf];omega
   | some ov =>
     obtain ⟨wk,b⟩:=ov
     obtain ⟨hp,hp2⟩:=posT_some ho
     have hnq:=neq_ifI wk b
     change _=some (Value.iface wk.ty (ptr' b)) at hb
     have hy0:=HY.out (posT os k) #[.int .i64 k,.iface wk.ty (ptr' b)] [] (posT os k+1) H wr hj ⟨hp2 _,rfl,rfl⟩ (by rw [List.append_nil];exact T.has.left)
     have HP:=Lib.hid hp
     obtain ⟨fn,tmps,assign,body,hy,hR⟩:=yield_any (n:=8) hy0
     have HRR:=Lib.hid hR
     have HT:=Lib.hid T
     clear hy0 hR hj T hp hp2 ho
     gi_wp2
     refine HRR.out.mono ?_
     rintro e W' ⟨H',hT',hj'⟩
     have T7:=HT.out.trans ((hT'.app (a':=H) (by simp)).frame HT.out.has)
     have HT7:=Lib.hid T7
     rcases hj' with ⟨rfl,hj'⟩ | ⟨rfl,hj'⟩
     ·have HJ:=Lib.hid hj'
      clear hT' T7 hj' hy
      gi_wp2
      go_roundw
      case rel=>exact ⟨k+1,H',by omega,by go_num,by rw [HP.out];exact HJ.out,HT7.out⟩
      case measure=>simp [intOf];omega
     ·have HJ:=Lib.hid hj'
      clear hT' T7 hj' hy
      gi_wp2
      refine bodyPost_ret (results_none rfl _ _ _) rfl ?_
      exact ⟨⟨_,rfl⟩,_,H',_,HT7.out,.inr HJ.out⟩
  ·obtain rfl:k=os.length:=by omega
   rw [posT_all] at hj
   obtain ⟨hd1,hd3⟩:=HHD.out H _ (HTT.out _ _ hj) T.has.left
   have c1:=(TG.refl T.has.right).cell 0 0 rfl 0
   simp only [GE2] at c1
   have HJ:=Lib.hid hj
   have HT0:=Lib.hid T
   clear hj T
   gi_wp2
   clear hd1 hd3 c1
   gi_loopw [34] (fun i wr=>∃ (k:Nat) (H:GH),k≤ps.length∧i=.int .i64 k∧J ((items1 0 os).length+k) H∧TG (H0++[[cl bx 81 #[ptr' sb]]]) W (H++[[cl bx 81 #[ptr' sb]]]) wr) (fun i _=>ps.length+1 - (intOf i).toNat)
   case atStart=>exact ⟨0,H,by omega,rfl,HJ.out,HT0.out⟩
   case round =>
    obtain ⟨k,H,hk,rfl,hj,T⟩:=hrel
    clear HJ HT0
    by_cases hlt:k<ps.length
    ·obtain ⟨p,ho⟩:∃ p,ps[k]?=some p:=⟨_,List.getElem?_eq_getElem hlt⟩
     obtain ⟨hd1,hd3⟩:=HHD.out H _ (HTT.out _ _ hj) T.has.left
     have c1:=(TG.refl T.has.right).cell 0 0 rfl 0
     simp only [GE2] at c1
     obtain ⟨i,j,q,e1,e2,e3,l1,l2,l3⟩:=HTT.out _ _ hj
     obtain ⟨rb,cp,hv,hb⟩:=rowV_at HRC.out T q (by rw [getD_app l3];exact e3) (by rw [List.length_append];omega) (k:=k) (x:=ptr' p) (by rw [List.getElem?_map,ho];rfl)
     obtain ⟨rfl,rfl⟩:avc=some ⟨rb,0,none⟩∧capc=cp:=by cases hv;exact ⟨rfl,rfl⟩
     clear hv e1 e2 e3 l1 l2 l3
     have hit:=items2_at ps os.length k p ho
     have hy0:=HY.out ((items1 0 os).length+k) #[.int .i64 ((os.length:Int)+k),.iface 255 (ptr' p)] [] ((items1 0 os).length+(k+1)) H wr hj ⟨by
      rw [List.getElem?_append_right (by omega),Nat.add_sub_cancel_left,hit]
      rfl,rfl,by omega⟩ (by rw [List.append_nil];exact T.has.left)
     obtain ⟨fn,tmps,assign,body,hy,hR⟩:=yield_any (n:=8) hy0
     have HRR:=Lib.hid hR
     have HT:=Lib.hid T
     clear hy0 hR hj T hit ho
     gi_wp2
     refine HRR.out.mono ?_
     rintro e W' ⟨H',hT',hj'⟩
     have T7:=HT.out.trans ((hT'.app (a':=H) (by simp)).frame HT.out.has)
     have HT7:=Lib.hid T7
     rcases hj' with ⟨rfl,hj'⟩ | ⟨rfl,hj'⟩
     ·have HJ:=Lib.hid hj'
      clear hT' T7 hj' hy hd1 hd3 c1
      gi_wp2
      go_roundw
      case rel=>exact ⟨k+1,H',by omega,by go_num,HJ.out,HT7.out⟩
      case measure=>simp [intOf];omega
     ·have HJ:=Lib.hid hj'
      clear hT' T7 hj' hy hd1 hd3 c1
      gi_wp2
      refine bodyPost_ret (results_none rfl _ _ _) rfl ?_
      exact ⟨⟨_,rfl⟩,_,H',_,HT7.out,.inr HJ.out⟩
    ·obtain rfl:k=ps.length:=by omega
     have HJ:=Lib.hid hj
     have HT:=Lib.hid T
     clear hj T
     gi_wp2
     go_end0
     exact ⟨⟨_,rfl⟩,_,H,_,HT.out,.inl ⟨by show _=(items1 0 os++items2 os.length ps).length;rw [List.length_append,items2_len],HJ.out,rfl⟩⟩
end
section
open Go.RowKit Go.Shelf
attribute [local go_sem] Oper.semAt_some
structure JobS where
 kb:Nat
 n:Int
 w:Wk
structure SvS where
 z:ZF
 own:List (Option Nat)
 all:List JobS
 crew:List WkN
inductive Th where
 | job (a:Nat)
 | wkr (i:Nat)
def job0:JobS:=⟨0,0,.call .nil (newW 0 0 ⟨0,0,0,0⟩)⟩
def wkn0:WkN:=⟨0,firstW,0,wkr0⟩
def SvS.jobAt (S:SvS) (a:Nat):JobS:=S.all.getD a job0
def SvS.wkrAt (S:SvS) (i:Nat):WkN:=S.crew.getD i wkn0
def Th.b (S:SvS):Th→Nat
 | .job a=>(S.jobAt a).kb
 | .wkr i=>(S.wkrAt i).wb
def Th.ty (S:SvS):Th→TypeId
 | .job a=>(S.jobAt a).w.ty
 | .wkr i=>255
def Th.fMay (S:SvS):Th→FuncId
 | .job a=>(S.jobAt a).w.fMay
 | .wkr i=>378
def Th.fStep (S:SvS):Th→FuncId
 | .job a=>(S.jobAt a).w.fStep
 | .wkr i=>379
def Th.may (S:SvS):Th→Bool
 | .job a=>(S.jobAt a).w.may S.z
 | .wkr i=>(S.wkrAt i).may S.z
def Th.step (S:SvS):Th→SvS
 | .job a=>{ S with all:=S.all.set a ⟨(S.jobAt a).kb,(S.jobAt a).n+1,((S.jobAt a).w.step S.z).1⟩,z:=((S.jobAt a).w.step S.z).2 }
 | .wkr i=>{ S with crew:=S.crew.set i ((S.wkrAt i).step S.z).1,z:=((S.wkrAt i).step S.z).2 }
def Th.here (S:SvS):Th→Prop
 | .job a=>a<S.all.length
 | .wkr i=>i<S.crew.length
def ths1:Nat→List (Option Nat)→List (Nat × Th)
 | _,[]=>[]
 | a,none::l=>ths1 (a+1) l
 | a,some k::l=>(a,.job k)::ths1 (a+1) l
def ths2:Nat→Nat→List WkN→List (Nat × Th)
 | _,_,[]=>[]
 | a,i,_::l=>(a,.wkr i)::ths2 (a+1) (i+1) l
def SvS.ths (S:SvS):List (Nat × Th):=ths1 0 S.own++ths2 S.own.length 0 S.crew
def SvS.os (S:SvS):List (Option (Wk × Nat)):=S.own.map fun o=>o.map fun a=>((S.jobAt a).w,(S.jobAt a).kb)
def SvS.ps (S:SvS):List Nat:=S.crew.map WkN.wb
def thC (S:SvS) (t:Nat × Th):Array Value:=#[.int .i64 t.1,.iface (t.2.ty S) (ptr' (t.2.b S))]
theorem items1_ths (S:SvS):∀ (l:List (Option Nat)) (a:Nat),items1 a (l.map fun o=>o.map fun a=>((S.jobAt a).w,(S.jobAt a).kb))=(ths1 a l).map (thC S)
 | [],_=>rfl
 | none::l,a=>items1_ths S l (a+1)
 | some k::l,a=>by
   show _::items1 (a+1) _=_::(ths1 (a+1) l).map _
   rw [items1_ths S l (a+1)]
   rfl
theorem items2_ths (S:SvS):∀ (l:List WkN) (a i:Nat),(∀ j c,l[j]?=some c→S.crew[i+j]?=some c)→items2 a (l.map WkN.wb)=(ths2 a i l).map (thC S)
 | [],_,_,_=>rfl
 | c::l,a,i,h=>by
   show _::items2 (a+1) _=thC S (a,.wkr i)::(ths2 (a+1) (i+1) l).map _
   rw [items2_ths S l (a+1) (i+1) (fun j d hd=>by
    have:=h (j+1) d hd
    rwa [show i+(j+1)=i+1+j by omega] at this)]
   have h0:=h 0 c rfl
   have:S.wkrAt i=c:=by
    unfold SvS.wkrAt
    rw [List.getD_eq_getElem?_getD,show i=i+0 from rfl,h0]
    rfl
   show _=(#[Value.int .i64 a,Value.iface 255 (ptr' (S.wkrAt i).wb)]:Array Value)::_
   rw [this]
theorem items_ths (S:SvS):items1 0 S.os++items2 S.os.length S.ps=S.ths.map (thC S):=by
 unfold SvS.ths SvS.os SvS.ps
 rw [List.map_append,items1_ths,List.length_map,items2_ths S S.crew S.own.length 0 (fun j c h=>by rwa [Nat.zero_add])]
theorem ths1_mem:∀ (l:List (Option Nat)) (a:Nat) (t:Nat × Th),t∈ths1 a l→∃ k,t.2=.job k∧some k∈l∧a≤t.1∧l[t.1 - a]?=some (some k)
 | none::l,a,t,h=>by
   obtain ⟨k,h1,h2,h3,h4⟩:=ths1_mem l (a+1) t h
   refine ⟨k,h1,List.mem_cons_of_mem _ h2,by omega,?_⟩
   rw [show t.1 - a=(t.1 - (a+1))+1 by omega]
   exact h4
 | some k::l,a,t,h=>by
   rcases List.mem_cons.1 h with rfl | h
   ·exact ⟨k,rfl,List.mem_cons_self,Nat.le_refl _,by simp⟩
   ·obtain ⟨k',h1,h2,h3,h4⟩:=ths1_mem l (a+1) t h
    refine ⟨k',h1,List.mem_cons_of_mem _ h2,by omega,?_⟩
    rw [show t.1 - a=(t.1 - (a+1))+1 by omega]
    exact h4
theorem ths2_mem:∀ (l:List WkN) (a i:Nat) (t:Nat × Th),t∈ths2 a i l→∃ j,t.2=.wkr (i+j)∧t.1=a+j∧j<l.length
 | c::l,a,i,t,h=>by
   rcases List.mem_cons.1 h with rfl | h
   ·exact ⟨0,rfl,rfl,Nat.zero_lt_succ _⟩
   ·obtain ⟨j,h1,h2,h3⟩:=ths2_mem l (a+1) (i+1) t h
    exact ⟨j+1,by rw [h1,show i+1+j=i+(j+1) by omega],by omega,by simp;omega⟩
structure SvN (N:Nat) (S:SvS):Prop where
 glo:GloN N S.z
 jobs:∀ j∈S.all,JobN N j.w S.z.x∧0≤j.n∧j.n≤N
 crew:∀ c∈S.crew,CrewN N c
 own:∀ k,some k∈S.own→k<S.all.length
 ol:1≤S.own.length∧S.own.length≤1000
 cl:S.crew.length≤1000
 al:S.all.length≤N
 turn:∀ (a:Nat) (j:JobS),S.all[a]?=some j→j.w.isTurn=true→j.w.done=false→S.own[S.own.length - 1]?=some (some a)
theorem SvN.mono {N M:Nat} {S:SvS} (h:SvN N S) (hm:N≤M):SvN M S :=
 ⟨h.glo.mono hm,fun j hj=>⟨(h.jobs j hj).1.mono hm,(h.jobs j hj).2.1,by have:=(h.jobs j hj).2.2;omega⟩,fun c hc=>(h.crew c hc).mono hm,h.own,h.ol,h.cl,by have:=h.al;omega,h.turn⟩
theorem ths_here {N:Nat} {S:SvS} (h:SvN N S) {t:Nat × Th} (ht:t∈S.ths):t.2.here S:=by
 rcases List.mem_append.1 ht with ht | ht
 ·obtain ⟨k,h1,h2,_⟩:=ths1_mem _ _ _ ht
  rw [h1];exact h.own k h2
 ·obtain ⟨j,h1,_,h3⟩:=ths2_mem _ _ _ _ ht
  rw [h1,Nat.zero_add];exact h3
theorem jobAt_get {S:SvS} {a:Nat} (h:a<S.all.length):S.all[a]?=some (S.jobAt a):=by
 unfold SvS.jobAt
 rw [List.getD_eq_getElem?_getD,List.getElem?_eq_getElem h]
 rfl
theorem wkrAt_get {S:SvS} {a:Nat} (h:a<S.crew.length):S.crew[a]?=some (S.wkrAt a):=by
 unfold SvS.wkrAt
 rw [List.getD_eq_getElem?_getD,List.getElem?_eq_getElem h]
 rfl
def isJobs (L:Lay) (l:List JobS) (g:List Blk):Prop:=FamP (fun (j:JobS) g=>isJob L j.kb j.n j.w g) l g
theorem frameMid {P:Program} {f:FuncId} {args:Array Value} {a b c:List Blk} {R:Ending→List Blk→List Blk→Prop} (hd:DoesG P f args [a,c] fun e gs=>∃ a' c',R e a' c'∧gs=[a',c']) :
 DoesG P f args [a,b,c] fun e gs=>∃ a' c',R e a' c'∧gs=[a',b,c']:=by
 intro w hw
 have h2:HasG ([a,c]++[b]) w:=hw.re (by
  classical
  refine List.perm_iff_count.2 fun x=>?_
  simp only [List.flatten_append,List.flatten_cons,List.flatten_nil,List.append_nil,List.count_append]
  omega)
 refine (hd w h2.left).mono ?_
 rintro e w' ⟨gs,⟨a',c',hR,rfl⟩,T⟩
 refine ⟨_,⟨a',c',hR,rfl⟩,((T.frame h2).re (H':=[a',b,c']) ?_).basePerm ?_⟩
 ·classical
  refine List.perm_iff_count.2 fun x=>?_
  simp only [List.flatten_append,List.flatten_cons,List.flatten_nil,List.append_nil,List.count_append]
  omega
 ·classical
  refine List.perm_iff_count.2 fun x=>?_
  simp only [List.flatten_append,List.flatten_cons,List.flatten_nil,List.append_nil,List.count_append]
  omega
theorem frameFst {P:Program} {f:FuncId} {args:Array Value} {a b c:List Blk} {R:Ending→List Blk→List Blk→Prop} (hd:DoesG P f args [a,c] fun e gs=>∃ a' c',R e a' c'∧gs=[a',c']) :
 DoesG P f args [b,a,c] fun e gs=>∃ a' c',R e a' c'∧gs=[b,a',c']:=by
 intro w hw
 have h2:HasG ([b]++[a,c]) w:=hw
 refine (hd w h2.right).mono ?_
 rintro e w' ⟨gs,⟨a',c',hR,rfl⟩,T⟩
 exact ⟨_,⟨a',c',hR,rfl⟩,T.frameL h2⟩
section
variable {L:Lay} {S:SvS} {gJ gW gZ:List Blk} {N:Nat} {t:Th}
theorem thMay (hn:SvN N S) (ht:t.here S) (hj:isJobs L S.all gJ) (hw:isWs L S.crew gW) (hz:isZ L S.z gZ) (hN:N<999998) :
 DoesG Tryz.prog (t.fMay S) #[ptr' (t.b S)] [gJ,gW,gZ] fun e gs=>∃ gJ' gW' gZ',e=.returned (.bool (t.may S))∧isJobs L S.all gJ'∧isWs L S.crew gW'∧isZ L S.z gZ'∧gs=[gJ',gW',gZ']:=by
 cases t with
 | job a =>
   have hk:=jobAt_get ht
   have hjn:=(hn.jobs _ (List.mem_of_getElem? hk)).1
   refine (frameMid (R:=fun e a' c'=>e=.returned (.bool (Th.may S (.job a)))∧isJobs L S.all a'∧isZ L S.z c') ((famStep (R:=fun e a' rest'=>e=.returned (.bool (Th.may S (.job a)))∧a'=S.jobAt a∧∃ gz,isZ L S.z gz∧rest'=[gz]) hj hk (fun ga hga=>(jobMay hga hz hn.glo hjn (by omega)).mono ?_)).mono ?_)).mono ?_
   ·rintro e gs ⟨g',gZ',rfl,h1,h2,rfl⟩
    exact ⟨_,g',[gZ'],⟨rfl,rfl,gZ',h2,rfl⟩,h1,rfl⟩
   ·rintro e gs ⟨a',g',rest',⟨rfl,rfl,gz,h1,rfl⟩,h2,rfl⟩
    rw [set_keeps hk] at h2
    exact ⟨g',gz,⟨rfl,h2,h1⟩,rfl⟩
   ·rintro e gs ⟨a',c',⟨rfl,h1,h2⟩,rfl⟩
    exact ⟨a',gW,c',rfl,h1,hw,h2,rfl⟩
 | wkr i =>
   have hk:=wkrAt_get ht
   have hcn:=hn.crew _ (List.mem_of_getElem? hk)
   refine (frameFst (R:=fun e a' c'=>e=.returned (.bool (Th.may S (.wkr i)))∧isWs L S.crew a'∧isZ L S.z c') ((famStep (R:=fun e a' rest'=>e=.returned (.bool (Th.may S (.wkr i)))∧a'=S.wkrAt i∧∃ gz,isZ L S.z gz∧rest'=[gz]) hw hk (fun ga hga=>(crewMay (c:=S.wkrAt i) hga hz hn.glo hcn hN).mono ?_)).mono ?_)).mono ?_
   ·rintro e gs ⟨g',gZ',rfl,h1,h2,rfl⟩
    exact ⟨_,g',[gZ'],⟨rfl,rfl,gZ',h2,rfl⟩,h1,rfl⟩
   ·rintro e gs ⟨a',g',rest',⟨rfl,rfl,gz,h1,rfl⟩,h2,rfl⟩
    rw [set_keeps hk] at h2
    exact ⟨g',gz,⟨rfl,h2,h1⟩,rfl⟩
   ·rintro e gs ⟨a',c',⟨rfl,h1,h2⟩,rfl⟩
    exact ⟨gJ,a',c',rfl,hj,h1,h2,rfl⟩
theorem thStep (hn:SvN N S) (ht:t.here S) (hj:isJobs L S.all gJ) (hw:isWs L S.crew gW) (hz:isZ L S.z gZ) (hN:N<999998) (hm:t.may S=true) :
 DoesG Tryz.prog (t.fStep S) #[ptr' (t.b S)] [gJ,gW,gZ] fun e gs=>∃ gJ' gW' gZ',e=.returned (.bool true)∧isJobs L (t.step S).all gJ'∧isWs L (t.step S).crew gW'∧isZ L (t.step S).z gZ'∧gs=[gJ',gW',gZ']:=by
 cases t with
 | job a =>
   have hk:=jobAt_get ht
   obtain ⟨hjn,hn0,hn1⟩:=hn.jobs _ (List.mem_of_getElem? hk)
   refine (frameMid (R:=fun e a' c'=>e=.returned (.bool true)∧isJobs L (Th.step S (.job a)).all a'∧isZ L (Th.step S (.job a)).z c') ((famStep (R:=fun e a' rest'=>e=.returned (.bool true)∧a'=⟨(S.jobAt a).kb,(S.jobAt a).n+1,((S.jobAt a).w.step S.z).1⟩∧∃ gz,isZ L ((S.jobAt a).w.step S.z).2 gz∧rest'=[gz]) hj hk (fun ga hga=>(jobStep hga hz hn.glo hjn (by omega) hm (by omega)).mono ?_)).mono ?_)).mono ?_
   ·rintro e gs ⟨g',gZ',rfl,h1,h2,rfl⟩
    exact ⟨_,g',[gZ'],⟨rfl,rfl,gZ',h2,rfl⟩,h1,rfl⟩
   ·rintro e gs ⟨a',g',rest',⟨rfl,rfl,gz,h1,rfl⟩,h2,rfl⟩
    exact ⟨g',gz,⟨rfl,h2,h1⟩,rfl⟩
   ·rintro e gs ⟨a',c',⟨rfl,h1,h2⟩,rfl⟩
    exact ⟨a',gW,c',rfl,h1,hw,h2,rfl⟩
 | wkr i =>
   have hk:=wkrAt_get ht
   have hcn:=hn.crew _ (List.mem_of_getElem? hk)
   refine (frameFst (R:=fun e a' c'=>e=.returned (.bool true)∧isWs L (Th.step S (.wkr i)).crew a'∧isZ L (Th.step S (.wkr i)).z c') ((famStep (R:=fun e a' rest'=>e=.returned (.bool true)∧a'=((S.wkrAt i).step S.z).1∧∃ gz,isZ L ((S.wkrAt i).step S.z).2 gz∧rest'=[gz]) hw hk (fun ga hga=>(crewStep (c:=S.wkrAt i) hga hz hn.glo hcn hN hm).mono ?_)).mono ?_)).mono ?_
   ·rintro e gs ⟨g',gZ',rfl,h1,h2,rfl⟩
    exact ⟨_,g',[gZ'],⟨rfl,rfl,gZ',h2,rfl⟩,h1,rfl⟩
   ·rintro e gs ⟨a',g',rest',⟨rfl,rfl,gz,h1,rfl⟩,h2,rfl⟩
    exact ⟨g',gz,⟨rfl,h2,h1⟩,rfl⟩
   ·rintro e gs ⟨a',c',⟨rfl,h1,h2⟩,rfl⟩
    exact ⟨gJ,a',c',rfl,hj,h1,h2,rfl⟩
theorem thNo (hn:SvN N S) (ht:t.here S) (hj:isJobs L S.all gJ) (hw:isWs L S.crew gW) (hz:isZ L S.z gZ) (hN:N<999998) (hm:t.may S=false) :
 DoesG Tryz.prog (t.fStep S) #[ptr' (t.b S)] [gJ,gW,gZ] fun e gs=>∃ gJ' gW' gZ',e=.returned (.bool false)∧isJobs L S.all gJ'∧isWs L S.crew gW'∧isZ L S.z gZ'∧gs=[gJ',gW',gZ']:=by
 cases t with
 | job a =>
   have hk:=jobAt_get ht
   have hjn:=(hn.jobs _ (List.mem_of_getElem? hk)).1
   refine (frameMid (R:=fun e a' c'=>e=.returned (.bool false)∧isJobs L S.all a'∧isZ L S.z c') ((famStep (R:=fun e a' rest'=>e=.returned (.bool false)∧a'=S.jobAt a∧∃ gz,isZ L S.z gz∧rest'=[gz]) hj hk (fun ga hga=>(jobNo hga hz hn.glo hjn (by omega) hm).mono ?_)).mono ?_)).mono ?_
   ·rintro e gs ⟨g',gZ',rfl,h1,h2,rfl⟩
    exact ⟨_,g',[gZ'],⟨rfl,rfl,gZ',h2,rfl⟩,h1,rfl⟩
   ·rintro e gs ⟨a',g',rest',⟨rfl,rfl,gz,h1,rfl⟩,h2,rfl⟩
    rw [set_keeps hk] at h2
    exact ⟨g',gz,⟨rfl,h2,h1⟩,rfl⟩
   ·rintro e gs ⟨a',c',⟨rfl,h1,h2⟩,rfl⟩
    exact ⟨a',gW,c',rfl,h1,hw,h2,rfl⟩
 | wkr i =>
   have hk:=wkrAt_get ht
   have hcn:=hn.crew _ (List.mem_of_getElem? hk)
   refine (frameFst (R:=fun e a' c'=>e=.returned (.bool false)∧isWs L S.crew a'∧isZ L S.z c') ((famStep (R:=fun e a' rest'=>e=.returned (.bool false)∧a'=S.wkrAt i∧∃ gz,isZ L S.z gz∧rest'=[gz]) hw hk (fun ga hga=>(crewNo (c:=S.wkrAt i) hga hz hn.glo hcn hN hm).mono ?_)).mono ?_)).mono ?_
   ·rintro e gs ⟨g',gZ',rfl,h1,h2,rfl⟩
    exact ⟨_,g',[gZ'],⟨rfl,rfl,gZ',h2,rfl⟩,h1,rfl⟩
   ·rintro e gs ⟨a',g',rest',⟨rfl,rfl,gz,h1,rfl⟩,h2,rfl⟩
    rw [set_keeps hk] at h2
    exact ⟨g',gz,⟨rfl,h2,h1⟩,rfl⟩
   ·rintro e gs ⟨a',c',⟨rfl,h1,h2⟩,rfl⟩
    exact ⟨gJ,a',c',rfl,hj,h1,h2,rfl⟩
end
end
section
open Go.RowKit Go.Shelf
attribute [local go_sem] Oper.semAt_some
def jobV (j:JobS):Value:=.iface j.w.ty (ptr' j.kb)
structure SvRows (L:Lay) (sb:Nat) (S:SvS) (vo va vc:Value) (go ga gc:List Blk):Prop where
 o:rowG 188 1 vo S.own.length (S.os.map ifO) go
 a:rowG 188 1 va S.all.length (S.all.map jobV) ga
 c:rowG 255 1 vc S.crew.length (S.ps.map ptr') gc
structure SvIn (L:Lay) (S:SvS) (gJ gW gZ:List Blk):Prop where
 j:isJobs L S.all gJ
 w:isWs L S.crew gW
 z:isZ L S.z gZ
def isSv (L:Lay) (sb:Nat) (S:SvS) (g:List Blk):Prop :=
 ∃ vo va vc go ga gc gJ gW gZ,SvRows L sb S vo va vc go ga gc∧SvIn L S gJ gW gZ∧g=headB sb L.fb vo va vc++(go++(ga++(gc++(gJ++(gW++gZ)))))
def SvS.mays (S:SvS):List Nat:=(S.ths.filter fun t=>t.2.may S).map Prod.fst
def SvS.maysTo (S:SvS) (k:Nat):List Nat:=((S.ths.take k).filter fun t=>t.2.may S).map Prod.fst
def intsV (l:List Nat):List Value:=l.map fun n=>.int .i64 (n:Nat)
theorem maysTo_all (S:SvS):S.maysTo S.ths.length=S.mays:=by unfold SvS.maysTo SvS.mays;rw [List.take_length]
theorem maysTo_succ {S:SvS} {k:Nat} {t:Nat × Th} (h:S.ths[k]?=some t):S.maysTo (k+1)=S.maysTo k++(if t.2.may S then [t.1] else []):=by
 obtain ⟨h1,h2⟩:=List.getElem?_eq_some_iff.1 h
 unfold SvS.maysTo
 rw [List.take_succ_eq_append_getElem h1,h2,List.filter_append,List.map_append]
 cases hm:t.2.may S <;> simp [hm]
theorem maysTo_le (S:SvS) (k:Nat):(S.maysTo k).length≤S.ths.length:=by
 unfold SvS.maysTo
 rw [List.length_map]
 exact Nat.le_trans (List.length_filter_le _ _) (by rw [List.length_take];omega)
theorem ths1_len:∀ (l:List (Option Nat)) (a:Nat),(ths1 a l).length≤l.length
 | [],_=>Nat.le_refl _
 | none::l,a=>Nat.le_succ_of_le (ths1_len l (a+1))
 | some k::l,a=>Nat.succ_le_succ (ths1_len l (a+1))
theorem ths2_len:∀ (l:List WkN) (a i:Nat),(ths2 a i l).length=l.length
 | [],_,_=>rfl
 | c::l,a,i=>congrArg Nat.succ (ths2_len l (a+1) (i+1))
theorem ths_len {N:Nat} {S:SvS} (h:SvN N S):S.ths.length≤2000:=by
 have h1:=h.ol
 have h2:=h.cl
 have h3:=ths1_len S.own 0
 have h4:=ths2_len S.crew S.own.length 0
 unfold SvS.ths
 rw [List.length_append]
 omega
theorem threads_g (sb:Nat):DoesG Tryz.prog 114 #[ptr' sb] [] fun e gs=>∃ bx,e=.returned (.func (.func 150) #[] #[ptr' bx])∧gs=[[cl bx 81 #[ptr' sb]]]:=by
 intro w hw
 have T0:=TG.refl hw
 have HT:=Lib.hid T0
 clear hw T0
 go_enter Tryz.func114,Tryz.ntmps114
 go_wp2
 go_ret
 exact ⟨_,⟨_,rfl,rfl⟩,(HT.out.alloc rfl _ _)⟩
theorem th_mMay (S:SvS) (t:Th) (b:Nat) (W:World):(method 519 (t.ty S) (ptr' b) "May").run Tryz.prog W=.ok (t.fMay S,ptr' b) W:=by
 cases t with
 | job a=>show (method _ ((S.jobAt a).w.ty) _ _).run _ _=.ok ((S.jobAt a).w.fMay,_) _;cases (S.jobAt a).w <;> kernel_rfl
 | wkr i=>kernel_rfl
theorem th_mStep (S:SvS) (t:Th) (b:Nat) (W:World):(method 519 (t.ty S) (ptr' b) "Step").run Tryz.prog W=.ok (t.fStep S,ptr' b) W:=by
 cases t with
 | job a=>show (method _ ((S.jobAt a).w.ty) _ _).run _ _=.ok ((S.jobAt a).w.fStep,_) _;cases (S.jobAt a).w <;> kernel_rfl
 | wkr i=>kernel_rfl
theorem th_cMay (S:SvS) (t:Th) (args:Array Value) (W:World):(callFunc (t.fMay S) args).run Tryz.prog W=.ok (.enter (t.fMay S) args) W:=by
 cases t with
 | job a=>show (callFunc (S.jobAt a).w.fMay _).run _ _=.ok (.enter (S.jobAt a).w.fMay _) _;cases (S.jobAt a).w <;> kernel_rfl
 | wkr i=>kernel_rfl
theorem th_cStep (S:SvS) (t:Th) (args:Array Value) (W:World):(callFunc (t.fStep S) args).run Tryz.prog W=.ok (.enter (t.fStep S) args) W:=by
 cases t with
 | job a=>show (callFunc (S.jobAt a).w.fStep _).run _ _=.ok (.enter (S.jobAt a).w.fStep _) _;cases (S.jobAt a).w <;> kernel_rfl
 | wkr i=>kernel_rfl
theorem int_info:(Tryz.prog.info? 3).map (fun i=>(i.zero,i.size,i.bytes))=some (some (.int .i64 0),1,8):=by kernel_rfl
theorem sv_iter {L:Lay} {sb:Nat} {S:SvS} {vo va vc:Value} {go ga gc:List Blk} {N:Nat} (hn:SvN N S) (hr:SvRows L sb S vo va vc go ga gc) (bx:Nat) :
 IterY Tryz.prog 150 #[ptr' bx] (itTh (S.ths.map (thC S)) (headAt sb (headB sb L.fb vo va vc) go gc) [[cl bx 81 #[ptr' sb]]]) (0:Nat):=by
 rw [← items_ths]
 refine threads_iter bx sb L.fb ?_ ?_ ?_ ?_
 ·show rowG _ 1 vo (S.own.map _).length _ go
  rw [List.length_map];exact hr.o
 ·show rowG _ 1 vc (S.crew.map _).length _ gc
  rw [List.length_map];exact hr.c
 ·show (S.own.map _).length≤_
  rw [List.length_map];exact hn.ol.2
 ·show (S.crew.map _).length≤_
  rw [List.length_map];exact hn.cl
section
variable {L:Lay} {sb:Nat} {S:SvS} {N:Nat}
set_option maxRecDepth 100000 in
set_option maxHeartbeats 4000000 in
theorem svMay' (hn:SvN N S) (hN:N<999998) {vo va vc:Value} {go ga gc gJ gW gZ:List Blk} (hr:SvRows L sb S vo va vc go ga gc) (hi:SvIn L S gJ gW gZ):DoesG Tryz.prog 53 #[ptr' sb] [headB sb L.fb vo va vc,go,ga,gc,gJ,gW,gZ] fun e gs =>
 ∃ v gl gJ' gW' gZ',e=.returned v∧rowG 3 1 v S.mays.length (intsV S.mays) gl∧SvIn L S gJ' gW' gZ'∧gs=[headB sb L.fb vo va vc,go,ga,gc,gJ',gW',gZ',gl]:=by
 have HI:=Lib.hid (show ∀ bx,_ from fun bx=>sv_iter hn hr bx)
 have eg:=enters_of Tryz.func150 (P:=Tryz.prog) (by kernel_rfl) rfl
 have HNN:=Lib.hid hn
 have HSI:=Lib.hid hi
 have htl:=ths_len hn
 intro w hw
 have T0:=TG.refl hw
 have HT:=Lib.hid T0
 clear hw T0
 clear hr hi hn
 refine calls_of_marks Tryz.func53 rfl ?_
 simp only [Tryz.ntmps53,List.size_toArray,List.length_cons,List.length_nil,Nat.reduceAdd,Nat.reduceSub,Array.replicate_succ,Array.replicate_zero,List.push_toArray,List.append_toArray,List.nil_append,List.cons_append]
 go_wp2_with fail
 obtain ⟨lb,hlb⟩:∃ lb,w.heap.size=lb:=⟨_,rfl⟩
 have HT:=Lib.hid (HT.out.alloc (k:=lb) hlb.symm 87 #[.slice none 0 0])
 rw [hlb]
 clear hlb
 go_wp2_with fail
 refine (DoesG.use (threads_g sb) (HT.out) [] rfl rfl).mono ?_
 rintro e w1 ⟨gs,⟨bx,rfl,rfl⟩,Ta⟩
 simp only [PU] at Ta
 have HT:=Lib.hid Ta
 clear Ta
 have T0:=HT.out.re (H':=[headB sb L.fb vo va vc,go,ga,gc,gJ,gW,gZ,[cl lb 87 #[.slice none 0 0]],[]]++[[cl bx 81 #[ptr' sb]]]) (by simp)
 go_wp2_with fail
 refine wp_rangeY (H0:=[headB sb L.fb vo va vc,go,ga,gc,gJ,gW,gZ,[cl lb 87 #[.slice none 0 0]],[]]) (O0:=[[cl bx 81 #[ptr' sb]]]) rfl eg (HI.out bx) ?hps T0 ?hO (fun (k:Nat) H=>∃ v gl gJ1 gW1 gZ1,H=[headB sb L.fb vo va vc,go,ga,gc,gJ1,gW1,gZ1,[cl lb 87 #[v]],gl]∧SvIn L S gJ1 gW1 gZ1∧rowG 3 1 v (S.maysTo k).length (intsV (S.maysTo k)) gl) (fun _ _ _=>False) ?h0 ?hT ?hbody ?hdone ?hstop
 case hps =>
  rintro s x G s' ⟨hx,_⟩
  obtain ⟨t,_,rfl⟩:=List.mem_map.1 (List.mem_of_getElem? hx)
  rfl
 case hO=>exact rfl
 case h0=>exact ⟨_,[],gJ,gW,gZ,rfl,HSI.out,(show rowG 3 1 (.slice none 0 0) 0 [] [] from rowG_nil _ _)⟩
 case hT=>rintro s H K ⟨v,gl,gJ1,gW1,gZ1,rfl,_⟩;exact ⟨0,1,3,rfl,rfl,rfl,by simp,by simp,by simp⟩
 case hbody =>
  rintro (k:Nat) x G (k':Nat) H W ly ⟨v,gl,gJ1,gW1,gZ1,rfl,hi1,hr1⟩ ⟨hx,rfl,rfl⟩ hH
  rw [List.getElem?_map] at hx
  obtain ⟨t,ht,rfl⟩:∃ t,S.ths[k]?=some t∧thC S t=x:=by
   cases h:S.ths[k]? with
   | none=>rw [h] at hx;cases hx
   | some t=>rw [h] at hx;exact ⟨t,rfl,by cases hx;rfl⟩
  obtain ⟨nt,t⟩:=t
  have hml:=maysTo_le S k
  have hms:=maysTo_succ ht
  have hmay:=thMay HNN.out (ths_here HNN.out (List.mem_of_getElem? ht)) hi1.j hi1.w hi1.z hN
  have hinv:=th_mMay S t
  have hcal:=th_cMay S t
  obtain ⟨tyV,hty⟩:∃ y,t.ty S=y:=⟨_,rfl⟩
  obtain ⟨fV,hfv⟩:∃ y,t.fMay S=y:=⟨_,rfl⟩
  obtain ⟨bV,hbv⟩:∃ y,t.b S=y:=⟨_,rfl⟩
  unfold thC
  simp only at hms hmay ⊢
  rw [hty,hfv] at hinv
  rw [hfv] at hcal
  rw [hty,hbv]
  rw [hfv,hbv] at hmay
  have HM:=Lib.hid hmay
  have HMS:=Lib.hid hms
  have HH:=Lib.hid hH
  have HR:=Lib.hid hr1
  obtain ⟨av,cap,hv⟩:=rowG.val hr1
  subst hv
  clear hH hr1 hi1 ht hx hmay hms hty hfv hbv
  refine wpIn_any (n:=9) ?_
  gi_wp2
  refine ⟨_,TG.refl HH.out,fun Wb hb=>?_⟩
  have HT:=Lib.hid (TG.refl hb)
  clear hb HH
  refine wpIn_any (n:=9) ?_
  gi_wp2
  refine ⟨trivial,(callsIn_round (DoesG.use HM.out HT.out [4,5,6] rfl rfl)).mono ?_⟩
  rintro e W1 ⟨gs,⟨gJ2,gW2,gZ2,rfl,hj2,hw2,hz2,rfl⟩,Ta⟩
  simp only [putG,List.set_cons_zero,List.set_cons_succ,List.append_nil] at Ta
  have HI2:=Lib.hid (show SvIn L S gJ2 gW2 gZ2 from ⟨hj2,hw2,hz2⟩)
  cases hm:t.may S with
  | false =>
    rw [hm] at HMS
    have HMS:=Lib.hid (show S.maysTo (k+1)=S.maysTo k by rw [HMS.out];exact List.append_nil _)
    have HT:=Lib.hid Ta
    clear Ta hj2 hw2 hz2 hinv hcal
    gi_wp2
    exact ⟨_,⟨_,gl,gJ2,gW2,gZ2,rfl,HI2.out,by rw [HMS.out];exact HR.out⟩,HT.out⟩
  | true =>
    rw [hm] at HMS
    have HMS:=Lib.hid (show S.maysTo (k+1)=S.maysTo k++[nt] from HMS.out)
    have HT:=Lib.hid Ta
    have c0:=Ta.cell 7 0 rfl 0
    have f0:=Ta.free 7 0 rfl 0
    simp only [GE2] at c0
    clear Ta hj2 hw2 hz2 hinv hcal
    obtain ⟨M,hM⟩:∃ M,(S.maysTo k).length=M:=⟨_,rfl⟩
    rw [hM] at HT HR c0 hml
    have ho2:M+1≤maxLen:=by unfold maxLen;omega
    have ho3:(M+1)*8≤140737488355328:=by omega
    have ho4:M≤2000:=by omega
    gi_wp2_with (
     gi_at_builtin
     with_reducible refine wpListIn_append_G rfl (.tmp 12) (.tmp 14) 87 rfl 3 1 8 _ Tryz.underlying87 int_info rfl (by decide) (HT.out.alloc0 _) 8 rfl rfl HR.out rfl ⟨W1.heap.size,0,none⟩ 1 1 [.int .i64 (nt:Nat)] rfl rfl (news_alloc _ _ _) (by simp [Value.oneCell']) ho2 ho3 ?_;skip)
    ·intro v1 w2 g1 r1 T1
     have T1:=T1.eq (H':=[headB sb L.fb vo va vc,go,ga,gc,gJ2,gW2,gZ2,[cl lb 87 #[.slice av M cap]],g1]) rfl
     have c1:=T1.cell 7 0 rfl 0
     have f1:=T1.free 7 0 rfl 0
     obtain ⟨a1,cap1,hv1⟩:=rowG.val r1
     subst hv1
     have T1:=Lib.hid T1
     have r1:=Lib.hid r1
     simp only [GE2] at c1
     gi_wp2
     have e1:(S.maysTo (k+1)).length=M+1:=by rw [HMS.out,List.length_append,hM];rfl
     have e2:intsV (S.maysTo (k+1))=intsV (S.maysTo k)++[.int .i64 (nt:Nat)]:=by rw [HMS.out];exact List.map_append ..
     exact ⟨[headB sb L.fb vo va vc,go,ga,gc,gJ2,gW2,gZ2,[cl lb 87 #[.slice a1 (M+1) cap1]],g1],⟨_,g1,gJ2,gW2,gZ2,rfl,HI2.out,by rw [e1,e2];exact r1.out⟩,by rw [hM];exact (T1.out.set 7 0 rfl 0 (.slice a1 (M+1) cap1)).eq (by rfl)⟩
 case hdone =>
  rintro (k:Nat) H O' W D hf' ⟨v,gl,gJ1,gW1,gZ1,rfl,hi1,hr1⟩ hO hT
  have hf2:k=S.ths.length:=by
   have:k=(S.ths.map (thC S)).length:=hf'
   rwa [List.length_map] at this
  subst hf2
  rw [maysTo_all] at hr1
  have hO':O'=[[cl bx 81 #[ptr' sb]]]:=hO
  subst hO'
  have c0:=hT.cell 7 0 rfl 0
  simp only [GE2] at c0
  have HX:=Lib.hid (And.intro hi1 (And.intro hr1 hT))
  obtain ⟨av,cap,hv⟩:=rowG.val hr1
  subst hv
  clear hi1 hr1 hT hf' hO
  go_wp2
  obtain ⟨hi1,hr1,hT⟩:=HX.out
  have T3:=hT.turnLast (.deferred none)
  have T4:TG [headB sb L.fb vo va vc,go,ga,gc,gJ,gW,gZ] w ([headB sb L.fb vo va vc,go,ga,gc,gJ1,gW1,gZ1,gl]++[[cl lb 87 #[.slice av S.mays.length cap],cl bx 81 #[ptr' sb],(D,.deferred none)]]) (W.putObj D (.deferred none)):=T3.re (by
   classical
   simp only [List.flatten_append,List.flatten_cons,List.flatten_nil,List.append_nil,List.cons_append,List.nil_append]
   refine List.perm_iff_count.2 fun a=>?_
   simp only [List.count_append,List.count_cons,List.count_nil]
   omega)
  exact post_mark (v:=.slice av S.mays.length cap) hT.has.last (by simp [results,Tryz.results53,go_sem]) ⟨_,⟨_,gl,gJ1,gW1,gZ1,rfl,hr1,hi1,rfl⟩,T4.dropLast⟩
 case hstop=>intro s cd H O W D h;exact h.elim
end
end
section
open Go.RowKit Go.Shelf
attribute [local go_sem] Oper.semAt_some
theorem may_not_done {w:Wk} {z:ZF} (h:w.may z=true):w.done=false:=by
 cases w with
 | call s k =>
   have:(!s.isNil)=true:=h
   show s.isNil=false
   cases hs:s.isNil
   ·rfl
   ·rw [hs] at this;cases this
 | turn s k =>
   cases s with
   | nil=>cases h
   | _=>rfl
 | clo s k =>
   cases s with
   | nil=>cases h
   | _=>rfl
theorem step_isTurn (w:Wk) (z:ZF):(w.step z).1.isTurn=w.isTurn:=by cases w <;> rfl
theorem step_ty (w:Wk) (z:ZF):(w.step z).1.ty=w.ty:=by cases w <;> rfl
section
variable {S:SvS} {N:Nat} {t:Th}
theorem lset_get {α:Type} {l:List α} {a b:Nat} {x y:α} (h:(l.set a x)[b]?=some y):(b=a∧y=x)∨(b≠a∧l[b]?=some y):=by
 rw [List.getElem?_set] at h
 split at h
 ·next hab =>
  split at h
  ·exact .inl ⟨hab.symm,(Option.some.inj h).symm⟩
  ·cases h
 ·next hab=>exact .inr ⟨fun e=>hab e.symm,h⟩
theorem stepN (hn:SvN N S) (ht:t.here S) (hN:N<999998) (hm:t.may S=true):SvN (N+1) (t.step S):=by
 cases t with
 | job a =>
   have hk:=jobAt_get ht
   obtain ⟨hjn,hn0,hn1⟩:=hn.jobs _ (List.mem_of_getElem? hk)
   have hm':(S.jobAt a).w.may S.z=true:=hm
   have hnd:=may_not_done hm'
   obtain ⟨h1,h2,h3,h4,h5⟩:=jobStep_n hn.glo hjn hm' (by omega)
   refine ⟨h1,?_,fun c hc=>(hn.crew c hc).mono (by omega),fun k hk'=>by
    show k<(S.all.set a _).length
    rw [List.length_set];exact hn.own k hk',hn.ol,hn.cl,by
    show (S.all.set a _).length≤_
    have:=hn.al
    rw [List.length_set];omega,?_⟩
   ·intro j hj
    obtain ⟨b,hb⟩:=List.mem_iff_getElem?.1 hj
    rcases lset_get hb with ⟨_,rfl⟩ | ⟨hne,hb⟩
    ·exact ⟨h2,by show 0≤(S.jobAt a).n+1;omega,by show (S.jobAt a).n+1≤_;omega⟩
    ·obtain ⟨g1,g2,g3⟩:=hn.jobs j (List.mem_of_getElem? hb)
     refine ⟨(g1.mono (M:=N+1) (by omega)).frame h3 (fun hjt=>?_),g2,by omega⟩
     cases hst:(S.jobAt a).w.isTurn with
     | false=>exact .inl (h4 hst)
     | true =>
       right
       cases hd:j.w.done with
       | true=>rfl
       | false =>
         have e1:=hn.turn a _ hk hst hnd
         have e2:=hn.turn b j hb hjt hd
         rw [e1] at e2
         cases e2
         exact absurd rfl hne
   ·intro b j hb hjt hd
    rcases lset_get hb with ⟨rfl,rfl⟩ | ⟨hne,hb⟩
    ·exact hn.turn b _ hk (by rw [← step_isTurn (S.jobAt b).w S.z];exact hjt) hnd
    ·exact hn.turn b j hb hjt hd
 | wkr i =>
   have hk:=wkrAt_get ht
   have hcn:=hn.crew _ (List.mem_of_getElem? hk)
   obtain ⟨_,h1,h2,h3,h4⟩:=crewStep_n hcn hn.glo hN
   refine ⟨h2,fun j hj=>?_,fun c hc=>?_,hn.own,hn.ol,by
    show (S.crew.set i _).length≤_
    rw [List.length_set];exact hn.cl,by have:=hn.al;show S.all.length≤_;omega,hn.turn⟩
   ·obtain ⟨g1,g2,g3⟩:=hn.jobs j hj
    exact ⟨(g1.mono (M:=N+1) (by omega)).frame h3 (fun _=>.inl h4),g2,by omega⟩
   ·rcases List.mem_or_eq_of_mem_set hc with hc | rfl
    ·exact (hn.crew c hc).mono (by omega)
    ·exact h1
theorem map_set_same {α β:Type} {f:α→β} {l:List α} {a:Nat} {x y:α} (h:l[a]?=some x) (hf:f y=f x):(l.set a y).map f=l.map f:=by
 rw [List.map_set,hf,← List.map_set]
 obtain ⟨h1,h2⟩:=List.getElem?_eq_some_iff.1 h
 rw [← h2,List.set_getElem_self]
theorem step_jobV (ht:t.here S):(t.step S).all.map jobV=S.all.map jobV:=by
 cases t with
 | job a =>
   refine map_set_same (jobAt_get ht) ?_
   unfold jobV
   simp only [step_ty]
 | wkr i=>rfl
theorem step_os (ht:t.here S):(t.step S).os.map ifO=S.os.map ifO:=by
 unfold SvS.os
 have ho:(t.step S).own=S.own:=by cases t <;> rfl
 rw [ho,List.map_map,List.map_map]
 refine List.map_congr_left fun o ho=>?_
 cases o with
 | none=>rfl
 | some b =>
   have h1:((t.step S).all.map jobV)[b]?=(S.all.map jobV)[b]?:=by rw [step_jobV ht]
   have hl:(t.step S).all.length=S.all.length:=by
    have:=congrArg List.length (step_jobV ht)
    simpa using this
   show Value.iface ((t.step S).jobAt b).w.ty (ptr' ((t.step S).jobAt b).kb)=Value.iface (S.jobAt b).w.ty (ptr' (S.jobAt b).kb)
   by_cases hb:b<S.all.length
   ·rw [List.getElem?_map,List.getElem?_map,jobAt_get hb,jobAt_get (S:=t.step S) (by omega)] at h1
    exact Option.some.inj h1
   ·have e1:S.jobAt b=job0:=by unfold SvS.jobAt;rw [List.getD_eq_getElem?_getD,List.getElem?_eq_none (by omega)];rfl
    have e2:(t.step S).jobAt b=job0:=by unfold SvS.jobAt;rw [List.getD_eq_getElem?_getD,List.getElem?_eq_none (by omega)];rfl
    rw [e1,e2]
theorem step_ps (ht:t.here S):(t.step S).ps=S.ps:=by
 cases t with
 | job a=>rfl
 | wkr i=>exact map_set_same (wkrAt_get ht) rfl
theorem step_rows {L:Lay} {sb:Nat} {vo va vc:Value} {go ga gc:List Blk} (ht:t.here S) (h:SvRows L sb S vo va vc go ga gc):SvRows L sb (t.step S) vo va vc go ga gc:=by
 have h1:=congrArg List.length (step_jobV ht)
 have h2:=congrArg List.length (step_ps ht)
 simp only [List.length_map,SvS.ps] at h1 h2
 have ho:(t.step S).own=S.own:=by cases t <;> rfl
 exact ⟨by rw [step_os ht,ho];exact h.o,by rw [step_jobV ht,h1];exact h.a,by rw [step_ps ht,h2];exact h.c⟩
end
def SvS.pickTh (S:SvS) (at_:Int):Option (Nat × Th):=S.ths.find? fun t=>decide ((t.1:Int)=at_) && t.2.may S
def SvS.stepS (S:SvS) (at_:Int):SvS × Int :=
 if at_<0∨(S.own.length:Int)+S.crew.length≤at_ then (S,4)
 else match S.pickTh at_ with
  | some t=>(t.2.step S,0)
  | none=>(S,7)
theorem find_at {α:Type} {p:α→Bool}:∀ {l:List α} {k:Nat} {x:α},l[k]?=some x→(∀ y∈l.take k,p y=false)→p x=true→l.find? p=some x
 | [],_,_,h,_,_=>by cases h
 | a::l,0,x,h,_,hx=>by cases h;exact List.find?_cons_of_pos hx
 | a::l,k+1,x,h,hy,hx=>by
   rw [List.find?_cons_of_neg (by rw [hy a (by simp)];decide)]
   exact find_at (l:=l) (k:=k) h (fun y hy'=>hy y (by rw [List.take_succ_cons];exact List.mem_cons_of_mem _ hy')) hx
theorem stepS_n {N:Nat} {S:SvS} (hn:SvN N S) (hN:N<999998) (i:Int):SvN (N+1) (S.stepS i).1:=by
 unfold SvS.stepS
 split
 ·exact hn.mono (by omega)
 ·split
  ·next t ht =>
   have hp:=List.find?_some ht
   have hm:=List.mem_of_find?_eq_some ht
   simp only [Bool.and_eq_true] at hp
   exact stepN hn (ths_here hn hm) hN hp.2
  ·exact hn.mono (by omega)
end
section
open Go.RowKit Go.Shelf
attribute [local go_sem] Oper.semAt_some
theorem post_none {P:Program} {fn:Func} {R:Ending→World→Prop} {tmps:Array Value} {W:World} {v:Value} (hres:(results fn tmps).run P W=.ok v W) (hR:R (.returned v) W) :
 bodyPostM Fence.wide 0 P fn R .ret { tmps,defers:=[] } W:=⟨_,hres,hR⟩
theorem setC1 {a b:Value}:(#[a]:Array Value).setIfInBounds 0 b=#[b]:=rfl
section
variable {L:Lay} {sb:Nat} {S:SvS} {N:Nat}
set_option maxRecDepth 100000 in
set_option maxHeartbeats 4000000 in
theorem svStep' (hn:SvN N S) (hN:N<999998) {vo va vc:Value} {go ga gc gJ gW gZ:List Blk} (hr:SvRows L sb S vo va vc go ga gc) (hi:SvIn L S gJ gW gZ) (i:Int):DoesG Tryz.prog 52 #[ptr' sb,.int .i64 i] [headB sb L.fb vo va vc,go,ga,gc,gJ,gW,gZ] fun e gs =>
 ∃ gJ' gW' gZ',e=.returned (.int .i64 (S.stepS i).2)∧SvIn L (S.stepS i).1 gJ' gW' gZ'∧gs=[headB sb L.fb vo va vc,go,ga,gc,gJ',gW',gZ']:=by
 have HI:=Lib.hid (show ∀ bx,_ from fun bx=>sv_iter hn hr bx)
 have eg:=enters_of Tryz.func150 (P:=Tryz.prog) (by kernel_rfl) rfl
 have HNN:=Lib.hid hn
 have HSI:=Lib.hid hi
 obtain ⟨avo,capo,rfl⟩:=rowG.val hr.o
 obtain ⟨avc,capc,rfl⟩:=rowG.val hr.c
 have hol:=hn.ol
 have hcl:=hn.cl
 intro w hw
 have T0:=TG.refl hw
 have HT:=Lib.hid T0
 clear hw T0
 clear hr hi hn
 refine calls_of_marks Tryz.func52 rfl ?_
 simp only [Tryz.ntmps52,List.size_toArray,List.length_cons,List.length_nil,Nat.reduceAdd,Nat.reduceSub,Array.replicate_succ,Array.replicate_zero,List.push_toArray,List.append_toArray,List.nil_append,List.cons_append]
 go_wp2_with fail
 obtain ⟨ab,hab⟩:∃ ab,w.heap.size=ab:=⟨_,rfl⟩
 have HT:=Lib.hid ((HT.out.alloc (k:=ab) hab.symm 3 #[.int .i64 i]).alloc (k:=ab+1) (by simp [hab]) 26 #[.int .i64 0])
 rw [hab]
 clear hab
 generalize World.alloc (World.alloc w _) _=wb at HT ⊢
 obtain ⟨rb,hrb⟩:∃ rb,ab+1=rb:=⟨_,rfl⟩
 rw [hrb] at HT ⊢
 clear hrb
 have h1:=HT.out.cell 0 0 rfl 1
 have h3:=HT.out.cell 0 0 rfl 3
 simp only [headB,GE3] at h1 h3
 have a0:=HT.out.cell 7 0 rfl 0
 simp only [GE4] at a0
 have r0:=HT.out.cell 8 0 rfl 0
 have fr0:=HT.out.free 8 0 rfl 0
 simp only [GE4] at r0
 have lth:=HT.out.lt 0 0 rfl
 have ltr:=HT.out.lt 8 0 rfl
 simp only [] at lth ltr
 have HSP:=Lib.hid (show S.stepS i=if i<0∨(S.own.length:Int)+S.crew.length≤i then (S,(4:Int)) else match S.pickTh i with | some t=>(t.2.step S,0) | none=>(S,7) from rfl)
 by_cases hi0:i<0
 ·have HS:=Lib.hid (show S.stepS i=(S,4) from HSP.out.trans (if_pos (.inl hi0)))
  go_quiet ((fail))
  have HT:=Lib.hid (HT.out.drewN nq)
  go_wp2
  have T9:=HT.out.set 8 0 rfl 0 (.int .i64 4)
  have z0:=T9.cell 8 0 rfl 0
  simp only [GE2,setC1] at z0
  refine post_none (v:=.int .i64 4) (by simp [results,Tryz.results52,go_sem,z0]) ?_
  have HS2:=HS.out
  rw [HS2]
  first | exact ⟨_,⟨gJ,gW,gZ,rfl,HSI.out,rfl⟩,T9.pick [0,1,2,3,4,5,6] rfl⟩ | exact ⟨_,⟨rfl,gJ,gW,gZ,HSI.out,rfl⟩,T9.pick [0,1,2,3,4,5,6] rfl⟩
 ·by_cases hi1:(S.own.length:Int)+S.crew.length≤i
  ·have HS:=Lib.hid (show S.stepS i=(S,4) from HSP.out.trans (if_pos (.inr hi1)))
   go_quiet ((fail))
   have HT:=Lib.hid (HT.out.drewN nq)
   go_wp2
   have T9:=HT.out.set 8 0 rfl 0 (.int .i64 4)
   have z0:=T9.cell 8 0 rfl 0
   simp only [GE2,setC1] at z0
   refine post_none (v:=.int .i64 4) (by simp [results,Tryz.results52,go_sem,z0]) ?_
   have HS2:=HS.out
   rw [HS2]
   first | exact ⟨_,⟨gJ,gW,gZ,rfl,HSI.out,rfl⟩,T9.pick [0,1,2,3,4,5,6] rfl⟩ | exact ⟨_,⟨rfl,gJ,gW,gZ,HSI.out,rfl⟩,T9.pick [0,1,2,3,4,5,6] rfl⟩
  ·have HS:=Lib.hid (show S.stepS i=match S.pickTh i with | some t=>(t.2.step S,0) | none=>(S,7) from HSP.out.trans (if_neg (by omega)))
   go_quiet ((fail))
   have HT:=Lib.hid (HT.out.drewN nq)
   clear h1 h3 a0 r0 fr0 hi0 hi1
   go_wp2_with fail
   refine (DoesG.use (threads_g sb) (HT.out) [] rfl rfl).mono ?_
   rintro e w1 ⟨gs,⟨bx,rfl,rfl⟩,Ta⟩
   simp only [PU] at Ta
   have HT:=Lib.hid Ta
   clear Ta
   obtain ⟨hd,hhd⟩:∃ hd,headB sb L.fb (.slice avo S.own.length capo) va (.slice avc S.crew.length capc)=hd:=⟨_,rfl⟩
   obtain ⟨vo,hvo⟩:∃ vo,Value.slice avo S.own.length capo=vo:=⟨_,rfl⟩
   have T0:=HT.out.re (H':=[headB sb L.fb (.slice avo S.own.length capo) va (.slice avc S.crew.length capc),go,ga,gc,gJ,gW,gZ,[cl ab 3 #[.int .i64 i]],[cl rb 26 #[.int .i64 0]]]++[[cl bx 81 #[ptr' sb]]]) (by simp)
   rw [hhd] at HI T0
   clear hvo
   go_wp2_with fail
   refine wp_rangeY (H0:=[hd,go,ga,gc,gJ,gW,gZ,[cl ab 3 #[.int .i64 i]],[cl rb 26 #[.int .i64 0]]]) (O0:=[[cl bx 81 #[ptr' sb]]]) rfl eg (HI.out bx) ?hps T0 ?hO
    (fun (k:Nat) H=>∃ gJ1 gW1 gZ1,H=[hd,go,ga,gc,gJ1,gW1,gZ1,[cl ab 3 #[.int .i64 i]],[cl rb 26 #[.int .i64 0]]]∧SvIn L S gJ1 gW1 gZ1∧∀ t∈S.ths.take k,(decide ((t.1:Int)=i) && t.2.may S)=false)
    (fun _ cd H=>cd=.ret∧∃ t gJ1 gW1 gZ1,S.pickTh i=some t∧H=[hd,go,ga,gc,gJ1,gW1,gZ1,[cl ab 3 #[.int .i64 i]],[cl rb 26 #[.int .i64 0]]]∧SvIn L (t.2.step S) gJ1 gW1 gZ1) ?h0 ?hT ?hbody ?hdone ?hstop
   case hps =>
    rintro s x G s' ⟨hx,_⟩
    obtain ⟨t,_,rfl⟩:=List.mem_map.1 (List.mem_of_getElem? hx)
    rfl
   case hO=>exact rfl
   case h0=>exact ⟨gJ,gW,gZ,rfl,HSI.out,fun t ht=>by cases ht⟩
   case hT=>rintro s H K ⟨gJ1,gW1,gZ1,rfl,_⟩;exact ⟨0,1,3,rfl,rfl,rfl,by simp,by simp,by simp⟩
   case hbody =>
    rintro (k:Nat) x G (k':Nat) H W ly ⟨gJ1,gW1,gZ1,rfl,hi1,hno⟩ ⟨hx,rfl,rfl⟩ hH
    rw [List.getElem?_map] at hx
    obtain ⟨t,ht,rfl⟩:∃ t,S.ths[k]?=some t∧thC S t=x:=by
     cases h:S.ths[k]? with
     | none=>rw [h] at hx;cases hx
     | some t=>rw [h] at hx;exact ⟨t,rfl,by cases hx;rfl⟩
    have hst1:=fun hm=>thStep HNN.out (ths_here HNN.out (List.mem_of_getElem? ht)) hi1.j hi1.w hi1.z hN hm
    have hst0:=fun hm=>thNo HNN.out (ths_here HNN.out (List.mem_of_getElem? ht)) hi1.j hi1.w hi1.z hN hm
    have HHE:=Lib.hid ht
    have HNT:=Lib.hid hno
    have HI1:=Lib.hid hi1
    obtain ⟨nt,t⟩:=t
    simp only at hst1 hst0
    have hinv:=th_mStep S t
    have hcal:=th_cStep S t
    obtain ⟨tyV,hty⟩:∃ y,t.ty S=y:=⟨_,rfl⟩
    obtain ⟨fV,hfv⟩:∃ y,t.fStep S=y:=⟨_,rfl⟩
    obtain ⟨bV,hbv⟩:∃ y,t.b S=y:=⟨_,rfl⟩
    unfold thC
    simp only
    rw [hty,hfv] at hinv
    rw [hfv] at hcal
    rw [hty,hbv]
    rw [hfv,hbv] at hst1 hst0
    have HST1:=Lib.hid hst1
    have HST0:=Lib.hid hst0
    have HH:=Lib.hid hH
    have HTK:=Lib.hid (show ∀ b,(decide ((nt:Int)=i) && t.may S)=b→b=false→∀ u∈S.ths.take (k+1),(decide ((u.1:Int)=i) && u.2.may S)=false from fun b h1 h2 u hu=>by
     obtain ⟨h3,h4⟩:=List.getElem?_eq_some_iff.1 HHE.out
     rw [List.take_succ_eq_append_getElem h3,h4] at hu
     rcases List.mem_append.1 hu with hu | hu
     ·exact HNT.out u hu
     ·obtain rfl:u=(nt,t):=by simpa using hu
      exact h1.trans h2)
    clear hH hi1 ht hx hst1 hst0 hno hty hfv hbv
    refine wpIn_any (n:=9) ?_
    gi_wp2
    refine ⟨_,TG.refl HH.out,fun Wb hb=>?_⟩
    have HT:=Lib.hid (TG.refl hb)
    have a0:=HT.out.cell 7 0 rfl 0
    have r0:=HT.out.cell 8 0 rfl 0
    have fr0:=HT.out.free 8 0 rfl 0
    have ltr:=HT.out.lt 8 0 rfl
    simp only [GE2] at a0 r0 ltr
    clear hb HH
    refine wpIn_any (n:=9) ?_
    by_cases hit:(nt:Int)=i
    ·have hb1:((nt:Int) == i)=true:=by simpa using hit
     cases hm:t.may S with
     | true =>
       have HST:=Lib.hid (HST1.out hm)
       have HPK:=Lib.hid (show S.pickTh i=some (nt,t) from find_at HHE.out HNT.out (by simp [hit,hm]))
       clear hm
       gi_wp2
       refine ⟨trivial,(callsIn_round (DoesG.use HST.out HT.out [4,5,6] rfl rfl)).mono ?_⟩
       rintro e W1 ⟨gs,⟨gJ2,gW2,gZ2,rfl,hj2,hw2,hz2,rfl⟩,Ta⟩
       simp only [putG,List.set_cons_zero,List.set_cons_succ,List.append_nil] at Ta
       have HI2:=Lib.hid (show SvIn L (t.step S) gJ2 gW2 gZ2 from ⟨hj2,hw2,hz2⟩)
       have fr1:=Ta.free 8 0 rfl 0
       have lt1:=Ta.lt 8 0 rfl
       have r1:=Ta.cell 8 0 rfl 0
       simp only [GE2] at r1 lt1
       have HT:=Lib.hid Ta
       clear Ta hj2 hw2 hz2 hinv hcal a0 r0 fr0 ltr
       gi_wp2
       exact ⟨_,⟨rfl,(nt,t),gJ2,gW2,gZ2,HPK.out,rfl,HI2.out⟩,(HT.out.set 8 0 rfl 0 (.int .i64 0)).eq (by rfl)⟩
     | false =>
       have HST:=Lib.hid (HST0.out hm)
       have hb2:(decide ((nt:Int)=i) && t.may S)=false:=by rw [hm,Bool.and_false]
       have HTK2:=Lib.hid (HTK.out _ hb2 rfl)
       clear hb2 hm
       gi_wp2
       refine ⟨trivial,(callsIn_round (DoesG.use HST.out HT.out [4,5,6] rfl rfl)).mono ?_⟩
       rintro e W1 ⟨gs,⟨gJ2,gW2,gZ2,rfl,hj2,hw2,hz2,rfl⟩,Ta⟩
       simp only [putG,List.set_cons_zero,List.set_cons_succ,List.append_nil] at Ta
       have HI2:=Lib.hid (show SvIn L S gJ2 gW2 gZ2 from ⟨hj2,hw2,hz2⟩)
       have HT:=Lib.hid Ta
       clear Ta hj2 hw2 hz2 hinv hcal a0 r0 fr0 ltr
       gi_wp2
       exact ⟨_,⟨gJ2,gW2,gZ2,rfl,HI2.out,HTK2.out⟩,HT.out⟩
    ·have hb1:((nt:Int) == i)=false:=by simpa using hit
     have hb2:(decide ((nt:Int)=i) && t.may S)=false:=by rw [decide_eq_false hit];rfl
     have HTK2:=Lib.hid (HTK.out _ hb2 rfl)
     clear hb2
     gi_wp2
     all_goals (refine ⟨fun _ _=>trivial,?_⟩)
     all_goals
      gi_wp2
      exact ⟨_,⟨gJ1,gW1,gZ1,rfl,HI1.out,HTK2.out⟩,HT.out⟩
   case hdone =>
    rintro (k:Nat) H O' W D hf' ⟨gJ1,gW1,gZ1,rfl,hi1,hno⟩ hO hT
    have hf2:k=S.ths.length:=by
     have:k=(S.ths.map (thC S)).length:=hf'
     rwa [List.length_map] at this
    subst hf2
    rw [List.take_length] at hno
    have HS2:=Lib.hid (show S.stepS i=(S,7) from HS.out.trans (by
     have:S.pickTh i=none:=List.find?_eq_none.2 fun t ht=>by rw [hno t ht];decide
     rw [this]))
    have hO':O'=[[cl bx 81 #[ptr' sb]]]:=hO
    subst hO'
    have fr1:=hT.free 8 0 rfl 0
    have lt1:=hT.lt 8 0 rfl
    have r1:=hT.cell 8 0 rfl 0
    simp only [GE2] at r1 lt1
    have HX:=Lib.hid (And.intro hi1 hT)
    clear hf' hi1 hno hT hO
    go_wp2
    obtain ⟨hi1,hT⟩:=HX.out
    have T2:=(hT.set 8 0 rfl 0 (.int .i64 7)).eq (H':=[hd,go,ga,gc,gJ1,gW1,gZ1,[cl ab 3 #[.int .i64 i]],[cl rb 26 #[.int .i64 7]]]++[[cl bx 81 #[ptr' sb]]]++[[(D,.deferred (some []))]]) rfl
    have T3:=T2.turnLast (.deferred none)
    have z0:=T3.cell 8 0 rfl 0
    simp only [GE2] at z0
    subst hhd
    have T4:TG [headB sb L.fb (.slice avo S.own.length capo) va (.slice avc S.crew.length capc),go,ga,gc,gJ,gW,gZ] w ([headB sb L.fb (.slice avo S.own.length capo) va (.slice avc S.crew.length capc),go,ga,gc,gJ1,gW1,gZ1]++[[cl ab 3 #[.int .i64 i],cl rb 26 #[.int .i64 7],cl bx 81 #[ptr' sb],(D,.deferred none)]]) _:=T3.re (by
     classical
     simp only [List.flatten_append,List.flatten_cons,List.flatten_nil,List.append_nil,List.cons_append,List.nil_append]
     refine List.perm_iff_count.2 fun a=>?_
     simp only [List.count_append,List.count_cons,List.count_nil]
     try omega)
    exact post_mark (v:=.int .i64 7) T2.has.last (by simp [results,Tryz.results52,go_sem,z0]) ⟨_,⟨gJ1,gW1,gZ1,by rw [HS2.out],by rw [HS2.out];exact hi1,rfl⟩,T4.dropLast⟩
   case hstop =>
    rintro (s:Nat) cd H O W D ⟨rfl,t,gJ1,gW1,gZ1,hpk,rfl,hi1⟩ hT
    have HS2:=Lib.hid (show S.stepS i=(t.2.step S,0) from HS.out.trans (by rw [hpk]))
    have HX:=Lib.hid (And.intro hi1 hT)
    clear hpk hi1 hT
    go_wp2
    obtain ⟨hi1,hT⟩:=HX.out
    have T3:=hT.turnLast (.deferred none)
    have z0:=T3.cell 8 0 rfl 0
    simp only [GE2] at z0
    subst hhd
    have T4:TG [headB sb L.fb (.slice avo S.own.length capo) va (.slice avc S.crew.length capc),go,ga,gc,gJ,gW,gZ] w ([headB sb L.fb (.slice avo S.own.length capo) va (.slice avc S.crew.length capc),go,ga,gc,gJ1,gW1,gZ1]++[O.flatten++[cl ab 3 #[.int .i64 i],cl rb 26 #[.int .i64 0],(D,.deferred none)]]) _:=T3.re (by
     classical
     simp only [List.flatten_append,List.flatten_cons,List.flatten_nil,List.append_nil,List.cons_append,List.nil_append]
     refine List.perm_iff_count.2 fun a=>?_
     simp only [List.count_append,List.count_cons,List.count_nil]
     omega)
    exact post_mark (v:=.int .i64 0) hT.has.last (by simp [results,Tryz.results52,go_sem,z0]) ⟨_,⟨gJ1,gW1,gZ1,by rw [HS2.out],by rw [HS2.out];exact hi1,rfl⟩,T4.dropLast⟩
end
end
section
open Go.RowKit Go.Shelf
theorem flat7 (a b c d e f g:List Blk):([a,b,c,d,e,f,g]:GH).flatten=([a++(b++(c++(d++(e++(f++g)))))]:GH).flatten:=by simp
section
variable {L:Lay} {sb:Nat} {S:SvS} {N:Nat} {g:List Blk}
theorem svMay (h:isSv L sb S g) (hn:SvN N S) (hN:N<999998):DoesG Tryz.prog 53 #[ptr' sb] [g] fun e gs =>
 ∃ v gl g',e=.returned v∧rowG 3 1 v S.mays.length (intsV S.mays) gl∧isSv L sb S g'∧gs=[g',gl]:=by
 obtain ⟨vo,va,vc,go,ga,gc,gJ,gW,gZ,hr,hi,rfl⟩:=h
 refine ((svMay' hn hN hr hi).pre (flat7 _ _ _ _ _ _ _)).post ?_
 rintro e gs ⟨v,gl,gJ',gW',gZ',rfl,h1,h2,rfl⟩
 exact ⟨_,⟨v,gl,_,rfl,h1,⟨vo,va,vc,go,ga,gc,gJ',gW',gZ',hr,h2,rfl⟩,rfl⟩,by simp⟩
theorem stepS_rows {vo va vc:Value} {go ga gc:List Blk} (hn:SvN N S) (hr:SvRows L sb S vo va vc go ga gc) (i:Int):SvRows L sb (S.stepS i).1 vo va vc go ga gc:=by
 unfold SvS.stepS
 split
 ·exact hr
 ·split
  ·next t ht=>exact step_rows (ths_here hn (List.mem_of_find?_eq_some ht)) hr
  ·exact hr
theorem svStep (h:isSv L sb S g) (hn:SvN N S) (hN:N<999998) (i:Int):DoesG Tryz.prog 52 #[ptr' sb,.int .i64 i] [g] fun e gs =>
 ∃ g',e=.returned (.int .i64 (S.stepS i).2)∧isSv L sb (S.stepS i).1 g'∧gs=[g']:=by
 obtain ⟨vo,va,vc,go,ga,gc,gJ,gW,gZ,hr,hi,rfl⟩:=h
 refine ((svStep' hn hN hr hi i).pre (flat7 _ _ _ _ _ _ _)).post ?_
 rintro e gs ⟨gJ',gW',gZ',rfl,h2,rfl⟩
 exact ⟨_,⟨_,rfl,⟨vo,va,vc,go,ga,gc,gJ',gW',gZ',stepS_rows hn hr i,h2,rfl⟩,rfl⟩,by simp⟩
def SvS.pickAt (S:SvS) (k:Int):Nat:=S.mays.getD ((max 0 k) % (S.mays.length:Int)).toNat 0
def SvS.pickS (S:SvS) (k:Int):SvS × Int × Int:=if S.mays.length=0 then (S,0,6) else ((S.stepS (S.pickAt k)).1,S.pickAt k,(S.stepS (S.pickAt k)).2)
theorem pickS_n (hn:SvN N S) (hN:N<999998) (k:Int):SvN (N+1) (S.pickS k).1:=by
 unfold SvS.pickS
 split
 ·exact hn.mono (by omega)
 ·exact stepS_n hn hN _
set_option maxRecDepth 100000 in
set_option maxHeartbeats 4000000 in
theorem svPick (h:isSv L sb S g) (hn:SvN N S) (hN:N<999998) (k:Int):DoesG Tryz.prog 50 #[ptr' sb,.int .i64 k] [g] fun e gs =>
 ∃ g',e=.returned (.tuple #[.int .i64 (S.pickS k).2.1,.int .i64 (S.pickS k).2.2])∧isSv L sb (S.pickS k).1 g'∧gs=[g']:=by
 have HM:=Lib.hid (svMay h hn hN)
 have HST:=Lib.hid (show ∀ i g',isSv L sb S g'→_ from fun i g' h'=>svStep h' hn hN i)
 have hlen:S.mays.length≤2000:=Nat.le_trans (by unfold SvS.mays;rw [List.length_map];exact List.length_filter_le _ _) (ths_len hn)
 intro w hw
 have T0:=TG.refl hw
 have HT:=Lib.hid T0
 clear hw T0
 clear h hn
 go_enter Tryz.func50,Tryz.ntmps50
 go_wp2_with fail
 refine (DoesG.use (HM.out) (HT.out) [0] rfl rfl).mono ?_
 rintro e w1 ⟨gs,⟨v,gl,g1,rfl,hl,hs,rfl⟩,Ta⟩
 simp only [PU] at Ta
 have HT:=Lib.hid Ta
 clear Ta
 obtain ⟨av,cap,rfl⟩:=rowG.val hl
 have HL:=Lib.hid hl
 have HS1:=Lib.hid hs
 clear hl hs
 by_cases h0:S.mays.length=0
 ·have HP:=Lib.hid (show S.pickS k=(S,0,6) from if_pos h0)
  have hb:((S.mays.length:Int) == 0)=true:=by rw [h0];rfl
  go_wp2
  go_ret2
  exact ⟨_,⟨g1,by rw [HP.out];rfl,by rw [HP.out];exact HS1.out,rfl⟩,HT.out.pick [0] rfl⟩
 ·have HP:=Lib.hid (show S.pickS k=((S.stepS (S.pickAt k)).1,((S.pickAt k:Nat):Int),(S.stepS (S.pickAt k)).2) from if_neg h0)
  have hb:((S.mays.length:Int) == 0)=false:=by simpa using h0
  have hn0:0<S.mays.length:=by omega
  obtain ⟨m,hm⟩:∃ m:Nat,max 0 k=(m:Int):=⟨(max 0 k).toNat,by omega⟩
  have hat:S.mays[m % S.mays.length]?=some (S.pickAt k):=by
   unfold SvS.pickAt
   rw [hm]
   have:(((m:Int) % (S.mays.length:Int))).toNat=m % S.mays.length:=by omega
   rw [this,List.getD_eq_getElem?_getD,List.getElem?_eq_getElem (Nat.mod_lt _ hn0)]
   rfl
  obtain ⟨rb,cp,hv,hcell⟩:=rowV_at HL.out HT.out 1 rfl (by simp) (k:=m % S.mays.length) (x:=.int .i64 (S.pickAt k)) (by unfold intsV;rw [List.getElem?_map,hat];rfl)
  obtain ⟨rfl,rfl⟩:av=some ⟨rb,0,none⟩∧cap=cp:=by cases hv;exact ⟨rfl,rfl⟩
  have hlt:m % S.mays.length<S.mays.length:=Nat.mod_lt _ hn0
  obtain ⟨P,hP⟩:∃ P,S.pickAt k=P:=⟨_,rfl⟩
  rw [hP] at hcell HP
  obtain ⟨M,hM⟩:∃ M,S.mays.length=M:=⟨_,rfl⟩
  rw [hM] at hcell hlt hlen hn0 hb
  have HSP:=Lib.hid (HST.out P g1 HS1.out)
  clear hv hat HL HM h0 hP HST HS1
  rw [hM]
  go_wp2_with fail
  go_wp2_with fail
  refine (DoesG.use (HSP.out) (HT.out) [0] rfl rfl).mono ?_
  rintro e w1 ⟨gs,⟨g2,rfl,hs2,rfl⟩,Ta⟩
  simp only [PU] at Ta
  have HT:=Lib.hid Ta
  clear Ta
  have HS2:=Lib.hid hs2
  clear hs2
  go_wp2
  go_ret2
  exact ⟨_,⟨g2,by rw [HP.out];rfl,by rw [HP.out];exact HS2.out,rfl⟩,HT.out.pick [0] rfl⟩
end
end
section
open Go.RowKit Go.Shelf
attribute [local go_sem] Oper.semAt_some
theorem svCalls_nil:DoesG Tryz.prog 54 #[.pointer none] [] fun e gs=>e=.returned (.int .i64 0)∧gs=[]:=by
 intro w hw
 have T0:=TG.refl hw
 have HT:=Lib.hid T0
 clear hw T0
 go_enter Tryz.func54,Tryz.ntmps54
 go_wp2
 go_ret
 exact ⟨_,⟨rfl,rfl⟩,HT.out⟩
theorem svFloor_nil:DoesG Tryz.prog 58 #[.pointer none] [] fun e gs=>e=.returned (.pointer none)∧gs=[]:=by
 intro w hw
 have T0:=TG.refl hw
 have HT:=Lib.hid T0
 clear hw T0
 go_enter Tryz.func58,Tryz.ntmps58
 go_wp2
 go_ret
 exact ⟨_,⟨rfl,rfl⟩,HT.out⟩
theorem svIdle_nil:DoesG Tryz.prog 57 #[.pointer none] [] fun e gs=>e=.returned (.bool true)∧gs=[]:=by
 intro w hw
 have T0:=TG.refl hw
 have HT:=Lib.hid T0
 clear hw T0
 go_enter Tryz.func57,Tryz.ntmps57
 go_wp2
 go_ret
 exact ⟨_,⟨rfl,rfl⟩,HT.out⟩
theorem svTrace_nil:DoesG Tryz.prog 55 #[.pointer none] [] fun e gs=>e=.returned (.slice none 0 0)∧gs=[]:=by
 intro w hw
 have T0:=TG.refl hw
 have HT:=Lib.hid T0
 clear hw T0
 go_enter Tryz.func55,Tryz.ntmps55
 go_wp2
 go_ret
 exact ⟨_,⟨rfl,rfl⟩,HT.out⟩
theorem svAnswer_nil (n:Int):DoesG Tryz.prog 51 #[.pointer none,.int .i64 n] [] fun e gs=>e=.returned (.tuple #[.agg #[.int .i64 0,.bool false,.int .u64 0,.int .u64 0,.slice none 0 0],.int .i64 6])∧gs=[]:=by
 intro w hw
 have T0:=TG.refl hw
 have HT:=Lib.hid T0
 clear hw T0
 go_enter Tryz.func51,Tryz.ntmps51
 go_wp2_with fail
 have HT2:=Lib.hid (HT.out.alloc (k:=w.heap.size) rfl 51 #[.int .i64 0,.bool false,.int .u64 0,.int .u64 0,.slice none 0 0])
 have r0:=HT2.out.cell 0 0 rfl 0
 have r1:=HT2.out.cell 0 0 rfl 1
 have r2:=HT2.out.cell 0 0 rfl 2
 have r3:=HT2.out.cell 0 0 rfl 3
 have r4:=HT2.out.cell 0 0 rfl 4
 simp only [GE4] at r0 r1 r2 r3 r4
 exact bodyPost_ret (v:=.tuple #[.agg #[.int .i64 0,.bool false,.int .u64 0,.int .u64 0,.slice none 0 0],.int .i64 6]) (by simp [results,Tryz.results51,go_sem,r0,r1,r2,r3,r4]) rfl ⟨_,⟨rfl,rfl⟩,HT2.out.pick [] rfl⟩
theorem svStep_nil (n:Int):DoesG Tryz.prog 52 #[.pointer none,.int .i64 n] [] fun e gs=>e=.returned (.int .i64 6)∧gs=[]:=by
 intro w hw
 have T0:=TG.refl hw
 have HT:=Lib.hid T0
 clear hw T0
 go_enter Tryz.func52,Tryz.ntmps52
 go_wp2_with fail
 have HT2:=Lib.hid ((HT.out.alloc (k:=w.heap.size) rfl 3 #[.int .i64 n]).alloc (k:=w.heap.size+1) (by simp) 26 #[.int .i64 6])
 have r0:=HT2.out.cell 1 0 rfl 0
 simp only [GE4] at r0
 exact bodyPost_ret (v:=.int .i64 6) (by simp [results,Tryz.results52,go_sem,r0]) rfl ⟨_,⟨rfl,rfl⟩,HT2.out.pick [] rfl⟩
theorem svCall_nil (n:Int) (c:Array Value):DoesG Tryz.prog 49 #[.pointer none,.int .i64 n,.agg c] [] fun e gs=>e=.returned (.tuple #[.int .i64 0,.int .i64 6])∧gs=[]:=by
 intro w hw
 have T0:=TG.refl hw
 have HT:=Lib.hid T0
 clear hw T0
 go_enter Tryz.func49,Tryz.ntmps49
 go_wp2_with fail
 go_ret2
 exact ⟨_,⟨rfl,rfl⟩,HT.out.alloc0 _⟩
set_option maxRecDepth 100000 in
set_option maxHeartbeats 4000000 in
theorem threads_none (bx:Nat):IterY Tryz.prog 150 #[ptr' bx] (itTh [] (fun _=>True) [[cl bx 81 #[.pointer none]]]) (0:Nat):=by
 intro ly J Jx hT hY H0 O0 W hJ0 hO hH
 have hO':O0=[[cl bx 81 #[.pointer none]]]:=hO
 subst hO'
 have c0:=(TG.refl hH.right).cell 0 0 rfl 0
 simp only [GE2] at c0
 have HJ:=Lib.hid (And.intro hJ0 (TG.refl hH))
 clear hO hH hY hT hJ0
 refine (callsIn_wide (n:=9)).1 (callsIn_of_wp Tryz.func150 rfl trivial ?_ rfl)
 simp only [Tryz.ntmps150,List.size_toArray,List.length_cons,List.length_nil,Nat.reduceAdd,Nat.reduceSub,Array.replicate_succ,Array.replicate_zero,List.push_toArray,List.append_toArray,List.nil_append,List.cons_append]
 gi_wp2
 refine bodyPost_ret (results_none rfl _ _ _) rfl ?_
 exact ⟨⟨_,rfl⟩,(0:Nat),H0,_,HJ.out.2,.inl ⟨rfl,HJ.out.1,rfl⟩⟩
theorem dropAll {h H:GH} {w w':World} (T:TG h w H w'):TG h w [] w':=((T.re (H':=[]++[H.flatten]) (by simp))).dropLast
set_option maxRecDepth 100000 in
set_option maxHeartbeats 4000000 in
theorem svMay_nil:DoesG Tryz.prog 53 #[.pointer none] [] fun e gs=>e=.returned (.slice none 0 0)∧gs=[]:=by
 have HTH:=Lib.hid (show DoesG Tryz.prog 114 #[.pointer none] [] fun e gs=>∃ bx,e=.returned (.func (.func 150) #[] #[ptr' bx])∧gs=[[cl bx 81 #[.pointer none]]] from by
  intro w hw
  have T0:=TG.refl hw
  have HT:=Lib.hid T0
  clear hw T0
  go_enter Tryz.func114,Tryz.ntmps114
  go_wp2
  go_ret
  exact ⟨_,⟨_,rfl,rfl⟩,(HT.out.alloc rfl _ _)⟩)
 have eg:=enters_of Tryz.func150 (P:=Tryz.prog) (by kernel_rfl) rfl
 intro w hw
 have T0:=TG.refl hw
 have HT:=Lib.hid T0
 clear hw T0
 refine calls_of_marks Tryz.func53 rfl ?_
 simp only [Tryz.ntmps53,List.size_toArray,List.length_cons,List.length_nil,Nat.reduceAdd,Nat.reduceSub,Array.replicate_succ,Array.replicate_zero,List.push_toArray,List.append_toArray,List.nil_append,List.cons_append]
 go_wp2_with fail
 obtain ⟨lb,hlb⟩:∃ lb,w.heap.size=lb:=⟨_,rfl⟩
 have HT:=Lib.hid (HT.out.alloc (k:=lb) hlb.symm 87 #[.slice none 0 0])
 rw [hlb]
 clear hlb
 go_wp2_with fail
 refine (DoesG.use (HTH.out) (HT.out) [] rfl rfl).mono ?_
 rintro e w1 ⟨gs,⟨bx,rfl,rfl⟩,Ta⟩
 simp only [PU] at Ta
 have HT:=Lib.hid Ta
 clear Ta
 have T0:=HT.out.re (H':=[[cl lb 87 #[.slice none 0 0]]]++[[cl bx 81 #[.pointer none]]]) (by simp)
 go_wp2_with fail
 refine wp_rangeY (H0:=[[cl lb 87 #[.slice none 0 0]]]) (O0:=[[cl bx 81 #[.pointer none]]]) rfl eg (threads_none bx) ?hps T0 ?hO (fun (k:Nat) H=>H=[[cl lb 87 #[.slice none 0 0]]]) (fun _ _ _=>False) ?h0 ?hT ?hbody ?hdone ?hstop
 case hps=>rintro s x G s' ⟨hx,_⟩;cases hx
 case hO=>exact rfl
 case h0=>exact rfl
 case hT=>intro s H K _;trivial
 case hbody=>rintro (k:Nat) x G (k':Nat) H W ly _ ⟨hx,_⟩;cases hx
 case hdone =>
  rintro (k:Nat) H O' W D _ rfl hO hT
  have c0:=hT.cell 0 0 rfl 0
  simp only [GE2] at c0
  have HX:=Lib.hid hT
  clear hT hO
  go_wp2
  have T3:=HX.out.turnLast (.deferred none)
  exact post_mark (v:=.slice none 0 0) HX.out.has.last (by simp [results,Tryz.results53,go_sem]) ⟨_,⟨rfl,rfl⟩,dropAll T3⟩
 case hstop=>intro s cd H O W D h;exact h.elim
theorem svPick_nil (n:Int):DoesG Tryz.prog 50 #[.pointer none,.int .i64 n] [] fun e gs=>e=.returned (.tuple #[.int .i64 0,.int .i64 6])∧gs=[]:=by
 intro w hw
 have T0:=TG.refl hw
 have HT:=Lib.hid T0
 clear hw T0
 go_enter Tryz.func50,Tryz.ntmps50
 go_wp2_with fail
 refine (DoesG.use (svMay_nil) (HT.out) [] rfl rfl).mono ?_
 rintro e w1 ⟨gs,⟨rfl,rfl⟩,Ta⟩
 simp only [PU] at Ta
 have HT:=Lib.hid Ta
 clear Ta
 go_wp2
 go_ret2
 exact ⟨_,⟨rfl,rfl⟩,HT.out⟩
set_option maxRecDepth 100000 in
set_option maxHeartbeats 4000000 in
theorem those_none (bl ba:Nat):IterY Tryz.prog 184 #[ptr' bl,ptr' ba] (itList [] [[cl bl 123 #[.pointer none]],[cl ba 258 #[.func (.func 153) #[] #[]]]]) (0:Nat):=by
 intro ly J Jx hT hY H0 O0 W hJ0 hO hH
 have hO':O0=[[cl bl 123 #[.pointer none]],[cl ba 258 #[.func (.func 153) #[] #[]]]]:=hO
 subst hO'
 have c0:=(TG.refl hH.right).cell 0 0 rfl 0
 simp only [GE2] at c0
 have HJ:=Lib.hid (And.intro hJ0 (TG.refl hH))
 clear hO hH hY hT hJ0
 refine (callsIn_wide (n:=9)).1 (callsIn_of_wp Tryz.func184 rfl trivial ?_ rfl)
 simp only [Tryz.ntmps184,List.size_toArray,List.length_cons,List.length_nil,Nat.reduceAdd,Nat.reduceSub,Array.replicate_succ,Array.replicate_zero,List.push_toArray,List.append_toArray,List.nil_append,List.cons_append]
 gi_wp2
 refine bodyPost_ret (results_none rfl _ _ _) rfl ?_
 exact ⟨⟨_,rfl⟩,(0:Nat),H0,_,HJ.out.2,.inl ⟨rfl,HJ.out.1,rfl⟩⟩
theorem logAll_nil:DoesG Tryz.prog 116 #[.pointer none] [] fun e gs=>∃ v gv,e=.returned v∧rowG 69 4 v 0 [] gv∧gs=[gv]:=by
 have HC:=Lib.hid (show ∀ bl ba,_ from fun bl ba=>collectF_g (enters_of Tryz.func184 (by kernel_rfl) rfl) (those_none bl ba) (fun c hc=>by cases hc) (by simp))
 simp only [List.length_nil] at HC
 have HTH:=Lib.hid (show DoesG Tryz.prog 152 #[.pointer none,.func (.func 153) #[] #[]] [] fun e gs=>∃ bl ba,e=.returned (.func (.func 184) #[] #[ptr' bl,ptr' ba]) ∧
  gs=[[cl bl 123 #[.pointer none]],[cl ba 258 #[.func (.func 153) #[] #[]]]] from by
  intro w hw
  have T0:=TG.refl hw
  have HT:=Lib.hid T0
  clear hw T0
  go_enter Tryz.func152,Tryz.ntmps152
  go_wp2
  go_ret
  exact ⟨_,⟨_,_,rfl,rfl⟩,(HT.out.alloc rfl _ _).alloc (k:=w.heap.size+1) (by simp) _ _⟩)
 intro w hw
 have T0:=TG.refl hw
 have HT:=Lib.hid T0
 clear hw T0
 go_enter Tryz.func116,Tryz.ntmps116
 go_wp2_with fail
 refine (DoesG.use (HTH.out) (HT.out) [] rfl rfl).mono ?_
 rintro e w1 ⟨gs,⟨bl,ba,rfl,rfl⟩,Ta⟩
 simp only [PU] at Ta
 have HT:=Lib.hid Ta
 clear Ta
 go_wp2_with fail
 refine (DoesG.use (HC.out bl ba) (HT.out) [0,1] rfl rfl).mono ?_
 rintro e w1 ⟨gs,⟨v,gv,rfl,hr,rfl⟩,Ta⟩
 simp only [PU] at Ta
 have HT:=Lib.hid Ta
 clear Ta
 obtain ⟨av,cap,hv⟩:=rowG.val hr
 subst hv
 have HR:=Lib.hid hr
 clear hr
 go_wp2
 go_ret
 exact ⟨_,⟨_,gv,rfl,HR.out,rfl⟩,HT.out.pick [2] rfl⟩
theorem svLog_nil:DoesG Tryz.prog 56 #[.pointer none] [] fun e gs=>∃ v gv,e=.returned v∧rowG 69 4 v 0 [] gv∧gs=[gv]:=by
 have HF:=Lib.hid (show DoesG Tryz.prog 115 #[.pointer none] [] fun e gs=>e=.returned (.pointer none)∧gs=[] from by
  intro w hw
  have T0:=TG.refl hw
  have HT:=Lib.hid T0
  clear hw T0
  go_enter Tryz.func115,Tryz.ntmps115
  go_wp2
  go_ret
  exact ⟨_,⟨rfl,rfl⟩,HT.out⟩)
 intro w hw
 have T0:=TG.refl hw
 have HT:=Lib.hid T0
 clear hw T0
 go_enter Tryz.func56,Tryz.ntmps56
 go_wp2_with fail
 refine (DoesG.use (svFloor_nil) (HT.out) [] rfl rfl).mono ?_
 rintro e w1 ⟨gs,⟨rfl,rfl⟩,Ta⟩
 simp only [PU] at Ta
 have HT:=Lib.hid Ta
 clear Ta
 go_wp2_with fail
 refine (DoesG.use (HF.out) (HT.out) [] rfl rfl).mono ?_
 rintro e w1 ⟨gs,⟨rfl,rfl⟩,Ta⟩
 simp only [PU] at Ta
 have HT:=Lib.hid Ta
 clear Ta
 go_wp2_with fail
 refine (DoesG.use (logAll_nil) (HT.out) [] rfl rfl).mono ?_
 rintro e w1 ⟨gs,⟨v,gv,rfl,hr,rfl⟩,Ta⟩
 simp only [PU] at Ta
 have HT:=Lib.hid Ta
 clear Ta
 obtain ⟨av,cap,hv⟩:=rowG.val hr
 subst hv
 have HR:=Lib.hid hr
 clear hr
 go_wp2
 go_ret
 exact ⟨_,⟨_,gv,rfl,HR.out,rfl⟩,HT.out⟩
end
section
open Go.RowKit Go.Shelf
section
variable {L:Lay} {sb:Nat} {S:SvS} {N:Nat} {g gJ:List Blk}
theorem svFloor (h:isSv L sb S g):DoesG Tryz.prog 58 #[ptr' sb] [g] fun e gs=>e=.returned (ptr' L.fb)∧gs=[g]:=by
 obtain ⟨vo,va,vc,go,ga,gc,gJ,gW,gZ,hr,hi,rfl⟩:=h
 obtain ⟨ava,capa,rfl⟩:=rowG.val hr.a
 intro w hw
 have T0:=TG.refl hw
 have HT:=Lib.hid T0
 clear hw T0
 have HT:=Lib.hid (HT.out.sum (H':=[headB sb L.fb vo (.slice ava S.all.length capa) vc,go,ga,gc,gJ,gW,gZ]))
 have sv0:=HT.out.cell 0 0 rfl 0
 have sv1:=HT.out.cell 0 0 rfl 1
 have sv2:=HT.out.cell 0 0 rfl 2
 have sv3:=HT.out.cell 0 0 rfl 3
 simp only [headB,GE3] at sv0 sv1 sv2 sv3
 have lth:=HT.out.lt 0 0 rfl
 simp only [] at lth
 have HR:=Lib.hid hr
 have HSI:=Lib.hid hi
 clear hr hi
 go_enter Tryz.func58,Tryz.ntmps58
 go_wp2
 go_ret
 exact ⟨_,⟨rfl,rfl⟩,HT.out.sum⟩
theorem svLog (h:isSv L sb S g) (hn:SvN N S) (hN:N<999998):DoesG Tryz.prog 56 #[ptr' sb] [g] fun e gs=>∃ v gv g',e=.returned v∧rowG 69 4 v S.z.lg.length (fires S.z.lg) gv∧isSv L sb S g'∧gs=[g',gv]:=by
 have HF:=Lib.hid (svFloor h)
 have hlg:=hn.glo.zn.lg
 obtain ⟨vo,va,vc,go,ga,gc,gJ,gW,gZ,hr,hi,rfl⟩:=h
 obtain ⟨gC,gWh,gP,gL,h1,h2,h3,h4,rfl⟩:=isZ_open hi.z
 have HR:=Lib.hid hr
 have HSI:=Lib.hid hi
 have HX:=Lib.hid h1
 have HLA:=Lib.hid (logAll_g h4 (by omega))
 intro w hw
 have T0:=TG.refl hw
 have HT:=Lib.hid T0
 clear hw T0
 clear hr hi h1 h2 h3 h4 hn hlg
 go_enter Tryz.func56,Tryz.ntmps56
 go_wp2_with fail
 refine (DoesG.use (HF.out) (HT.out) [0] rfl rfl).mono ?_
 rintro e w1 ⟨gs,⟨rfl,rfl⟩,Ta⟩
 simp only [PU] at Ta
 have HT:=Lib.hid Ta
 clear Ta
 have HT:=Lib.hid (HT.out.sum (H':=[headB sb L.fb vo va vc++(go++(ga++(gc++(gJ++gW)))),gC,gWh++gP,gL]))
 go_wp2_with fail
 refine (ReadsG.use (coreLog_r HX.out) (HT.out) [1] rfl rfl).mono ?_
 rintro e w1 ⟨rfl,mq,rfl⟩
 have HT:=Lib.hid (HT.out.drewN mq)
 generalize World.drewN _ _=wq at HT ⊢
 go_wp2_with fail
 refine (DoesG.use (HLA.out) (HT.out) [3] rfl rfl).mono ?_
 rintro e w1 ⟨gs,⟨v,gv,rfl,hv,rfl⟩,Ta⟩
 simp only [PU] at Ta
 have HT:=Lib.hid Ta
 clear Ta
 obtain ⟨av,cap,rfl⟩:=rowG.val hv
 have HV:=Lib.hid hv
 clear hv
 go_wp2
 go_ret
 exact ⟨_,⟨_,gv,_,rfl,HV.out,⟨vo,va,vc,go,ga,gc,gJ,gW,_,HR.out,HSI.out,rfl⟩,rfl⟩,HT.out.sum⟩
end
end
section
open Go.RowKit Go.Shelf
theorem w_mDone (w:Wk) (b:Nat) (W:World):(method 519 w.ty (ptr' b) "Done").run Tryz.prog W=.ok (w.fDone,ptr' b) W:=by cases w <;> kernel_rfl
theorem w_cDone (w:Wk) (args:Array Value) (W:World):(callFunc w.fDone args).run Tryz.prog W=.ok (.enter w.fDone args) W:=by cases w <;> kernel_rfl
section
variable {L:Lay} {sb:Nat} {S:SvS} {N:Nat} {g gJ:List Blk}
theorem jobsDone (hj:isJobs L S.all gJ) {a:Nat} {j:JobS} (hk:S.all[a]?=some j):DoesG Tryz.prog j.w.fDone #[ptr' j.kb] [gJ] fun e gs=>∃ gJ',e=.returned (.bool j.w.done)∧isJobs L S.all gJ'∧gs=[gJ']:=by
 refine (famStep (rest:=[]) (R:=fun e a' rest'=>a'=j∧e=.returned (.bool j.w.done)∧rest'=[]) hj hk (fun ga hga=>(jobDone hga).does.mono ?_)).mono ?_
 ·rintro e gs ⟨rfl,rfl⟩
  exact ⟨j,ga,[],⟨rfl,rfl,rfl⟩,hga,rfl⟩
 ·rintro e gs ⟨a',g',rest',⟨rfl,rfl,rfl⟩,h3,rfl⟩
  rw [set_keeps hk] at h3
  exact ⟨g',rfl,h3,rfl⟩
theorem idle1_none:DoesG Tryz.prog 118 #[.nilIface] [gJ] fun e gs=>e=.returned (.bool false)∧gs=[gJ]:=by
 have hnq:=neq_nilI
 intro w hw
 have T0:=TG.refl hw
 have HT:=Lib.hid T0
 clear hw T0
 go_enter Tryz.func118,Tryz.ntmps118
 go_wp2
 all_goals (first | (go_ret;exact ⟨_,⟨rfl,rfl⟩,HT.out⟩) | (refine ⟨fun _ _=>trivial,?_⟩;go_wp2;go_ret;exact ⟨_,⟨rfl,rfl⟩,HT.out⟩))
theorem idle1_some (hj:isJobs L S.all gJ) {a:Nat} {j:JobS} (hk:S.all[a]?=some j):DoesG Tryz.prog 118 #[.iface j.w.ty (ptr' j.kb)] [gJ] fun e gs=>∃ gJ',e=.returned (.bool (!j.w.done))∧isJobs L S.all gJ'∧gs=[gJ']:=by
 have HD:=Lib.hid (jobsDone hj hk)
 have hnq:=neq_ifI j.w
 have hmt:=w_mDone j.w
 have hcl:=w_cDone j.w
 obtain ⟨d,hd⟩:∃ d,j.w.done=d:=⟨_,rfl⟩
 obtain ⟨tyV,hty⟩:∃ y,j.w.ty=y:=⟨_,rfl⟩
 obtain ⟨fV,hfv⟩:∃ y,j.w.fDone=y:=⟨_,rfl⟩
 rw [hd,hfv] at HD
 rw [hty,hfv] at hmt
 rw [hty] at hnq
 rw [hfv] at hcl
 rw [hd,hty]
 intro w hw
 have T0:=TG.refl hw
 have HT:=Lib.hid T0
 clear hw T0
 clear hj hk hd hty hfv
 go_enter Tryz.func118,Tryz.ntmps118
 go_wp2_with fail
 go_wp2_with fail
 refine (DoesG.use (HD.out) (HT.out) [0] rfl rfl).mono ?_
 rintro e w1 ⟨gs,⟨gJ',rfl,hj',rfl⟩,Ta⟩
 simp only [PU] at Ta
 have HT:=Lib.hid Ta
 clear Ta
 have HJ':=Lib.hid hj'
 clear hj'
 go_wp2
 go_ret
 exact ⟨_,⟨gJ',rfl,HJ'.out,rfl⟩,HT.out⟩
def busyO (S:SvS):Option Nat→Bool
 | none=>false
 | some a=>!(S.jobAt a).w.done
def SvS.busyB (S:SvS):Bool:=S.own.any (busyO S)
theorem busy_take {S:SvS} {k:Nat} {o:Option Nat} (h:S.own[k]?=some o) (h1:(S.own.take k).any (busyO S)=false) (h2:busyO S o=false):(S.own.take (k+1)).any (busyO S)=false:=by
 obtain ⟨a,b⟩:=List.getElem?_eq_some_iff.1 h
 rw [List.take_succ_eq_append_getElem a,List.any_append,h1,b]
 simp [h2]
theorem busy_hit {S:SvS} {k:Nat} {o:Option Nat} (h:S.own[k]?=some o) (h2:busyO S o=true):S.busyB=true:=List.any_eq_true.2 ⟨o,List.mem_of_getElem? h,h2⟩
set_option maxRecDepth 100000 in
set_option maxHeartbeats 4000000 in
theorem svIndex (hn:SvN N S) (hj:isJobs L S.all gJ) {vo:Value} {go:List Blk} (hro:rowG 188 1 vo S.own.length (S.os.map ifO) go):DoesG Tryz.prog 154 #[vo,.func (.func 118) #[] #[]] [gJ,go] fun e gs =>
 ∃ r gJ',e=.returned (.int .i64 r)∧decide (0≤r)=S.busyB∧isJobs L S.all gJ'∧gs=[gJ',go]:=by
 obtain ⟨av,cap,rfl⟩:=rowG.val hro
 have HNN:=Lib.hid hn
 have HRO:=Lib.hid hro
 have HJ:=Lib.hid hj
 have hol:=hn.ol
 intro w hw
 have T0:=TG.refl hw
 have HT:=Lib.hid T0
 clear hw T0
 clear hn hj hro
 go_enter Tryz.func154,Tryz.ntmps154
 go_wp2_with fail
 go_loopw [8] (fun i wr=>∃ (k:Nat) (gJ1:List Blk),k≤S.own.length∧i=.int .i64 k∧isJobs L S.all gJ1∧(S.own.take k).any (busyO S)=false∧TG [gJ,go] w [gJ1,go] wr) (fun i _=>S.own.length+1 - (intOf i).toNat)
 case atStart=>exact ⟨0,gJ,by omega,rfl,HJ.out,rfl,HT.out⟩
 case round =>
  obtain ⟨k,gJ1,hk,rfl,hj1,hno,T⟩:=hrel
  clear HJ
  by_cases hkl:k<S.own.length
  ·obtain ⟨o,ho⟩:∃ o,S.own[k]?=some o:=⟨_,List.getElem?_eq_getElem hkl⟩
   obtain ⟨b,cp,hv,hb⟩:=rowV_at HRO.out T 1 rfl (by simp) (k:=k) (x:=ifO (o.map fun a=>((S.jobAt a).w,(S.jobAt a).kb))) (by unfold SvS.os;rw [List.getElem?_map,List.getElem?_map,ho];rfl)
   obtain ⟨rfl,rfl⟩:av=some ⟨b,0,none⟩∧cap=cp:=by cases hv;exact ⟨rfl,rfl⟩
   have HT:=Lib.hid T
   have HO:=Lib.hid ho
   have HNO:=Lib.hid hno
   cases o with
   | none =>
     change _=some Value.nilIface at hb
     have HC:=Lib.hid (idle1_none (gJ:=gJ1))
     have HJ1:=Lib.hid hj1
     clear hv T ho hno hj1
     go_wp2_with fail
     go_wp2_with fail
     refine (DoesG.use (HC.out) (HT.out) [0] rfl rfl).mono ?_
     rintro e w1 ⟨gs,⟨rfl,rfl⟩,Ta⟩
     simp only [PU] at Ta
     have HT:=Lib.hid Ta
     clear Ta
     have HN2:=Lib.hid (busy_take HO.out HNO.out rfl)
     clear hb
     go_wp2
     first
     | (go_roundw
        case rel=>exact ⟨k+1,gJ1,by omega,by go_num,HJ1.out,HN2.out,HT.out⟩
        case measure=>simp [intOf];omega)
     | exact ⟨⟨k+1,gJ1,by omega,by go_num,HJ1.out,HN2.out,HT.out⟩,by simp [intOf];omega⟩
     | ((repeat apply Exists.intro);exact ⟨⟨⟨k+1,gJ1,by omega,by go_num,HJ1.out,HN2.out,HT.out⟩,rfl⟩,by simp [intOf];omega⟩)
   | some a =>
     have hka:=jobAt_get (HNN.out.own a (List.mem_of_getElem? ho))
     change _=some (Value.iface (S.jobAt a).w.ty (ptr' (S.jobAt a).kb)) at hb
     have HC:=Lib.hid (idle1_some hj1 hka)
     cases hd:(S.jobAt a).w.done with
     | true =>
       rw [hd] at HC
       have HN2:=Lib.hid (busy_take HO.out HNO.out (show (!(S.jobAt a).w.done)=false by rw [hd];rfl))
       clear hv T ho hno hj1 hka hd
       go_wp2_with fail
       go_wp2_with fail
       refine (DoesG.use (HC.out) (HT.out) [0] rfl rfl).mono ?_
       rintro e w1 ⟨gs,⟨gJ2,rfl,hj2,rfl⟩,Ta⟩
       simp only [PU] at Ta
       have HT:=Lib.hid Ta
       clear Ta
       have HJ2:=Lib.hid hj2
       clear hb hj2
       go_wp2
       first
       | (go_roundw
          case rel=>exact ⟨k+1,gJ2,by omega,by go_num,HJ2.out,HN2.out,HT.out⟩
          case measure=>simp [intOf];omega)
       | exact ⟨⟨k+1,gJ2,by omega,by go_num,HJ2.out,HN2.out,HT.out⟩,by simp [intOf];omega⟩
       | ((repeat apply Exists.intro);exact ⟨⟨⟨k+1,gJ2,by omega,by go_num,HJ2.out,HN2.out,HT.out⟩,rfl⟩,by simp [intOf];omega⟩)
     | false =>
       rw [hd] at HC
       have HB:=Lib.hid (busy_hit HO.out (show (!(S.jobAt a).w.done)=true by rw [hd];rfl))
       clear hv T ho hno hj1 hka hd
       go_wp2_with fail
       go_wp2_with fail
       refine (DoesG.use (HC.out) (HT.out) [0] rfl rfl).mono ?_
       rintro e w1 ⟨gs,⟨gJ2,rfl,hj2,rfl⟩,Ta⟩
       simp only [PU] at Ta
       have HT:=Lib.hid Ta
       clear Ta
       have HJ2:=Lib.hid hj2
       clear hb hj2
       go_wp2
       go_ret
       exact ⟨_,⟨_,gJ2,rfl,by rw [HB.out];exact decide_eq_true (by omega),HJ2.out,rfl⟩,HT.out⟩
  ·obtain rfl:k=S.own.length:=by omega
   rw [List.take_length] at hno
   have HB:=Lib.hid (show S.busyB=false from hno)
   have HJ1:=Lib.hid hj1
   have HT:=Lib.hid T
   clear T hno hj1
   go_wp2
   go_ret
   exact ⟨_,⟨_,gJ1,rfl,by rw [HB.out];rfl,HJ1.out,rfl⟩,HT.out⟩
theorem svContains (hn:SvN N S) (hj:isJobs L S.all gJ) {vo:Value} {go:List Blk} (hro:rowG 188 1 vo S.own.length (S.os.map ifO) go):DoesG Tryz.prog 117 #[vo,.func (.func 118) #[] #[]] [gJ,go] fun e gs =>
 ∃ gJ',e=.returned (.bool S.busyB)∧isJobs L S.all gJ'∧gs=[gJ',go]:=by
 have HI:=Lib.hid (svIndex hn hj hro)
 obtain ⟨av,cap,rfl⟩:=rowG.val hro
 intro w hw
 have T0:=TG.refl hw
 have HT:=Lib.hid T0
 clear hw T0
 clear hn hj hro
 go_enter Tryz.func117,Tryz.ntmps117
 go_wp2_with fail
 refine (DoesG.use (HI.out) (HT.out) [0,1] rfl rfl).mono ?_
 rintro e w1 ⟨gs,⟨r,gJ',rfl,hb,hj',rfl⟩,Ta⟩
 simp only [PU] at Ta
 have HT:=Lib.hid Ta
 clear Ta
 have HJ':=Lib.hid hj'
 by_cases hr:0≤r
 ·have HB:=Lib.hid (show S.busyB=true from hb.symm.trans (decide_eq_true hr))
  clear hb hj'
  go_wp2
  go_ret
  exact ⟨_,⟨gJ',by rw [HB.out];rfl,HJ'.out,rfl⟩,HT.out⟩
 ·have HB:=Lib.hid (show S.busyB=false from hb.symm.trans (decide_eq_false hr))
  clear hb hj'
  go_wp2
  go_ret
  exact ⟨_,⟨gJ',by rw [HB.out];show Ending.returned (.bool (decide (0≤r)))=_;rw [decide_eq_false (show ¬ (0≤r) by omega)],HJ'.out,rfl⟩,HT.out⟩
def SvS.idle (S:SvS):Bool:=!S.busyB && crewIdleB S.crew S.z.p
set_option maxRecDepth 100000 in
set_option maxHeartbeats 4000000 in
theorem svIdle (h:isSv L sb S g) (hn:SvN N S) (hN:N<999998):DoesG Tryz.prog 57 #[ptr' sb] [g] fun e gs=>∃ g',e=.returned (.bool S.idle)∧isSv L sb S g'∧gs=[g']:=by
 obtain ⟨vo,va,vc,go,ga,gc,gJ,gW,gZ,hr,hi,rfl⟩:=h
 obtain ⟨gC,gWh,gP,gL,h1,h2,h3,h4,rfl⟩:=isZ_open hi.z
 have HC:=Lib.hid (svContains hn hi.j hr.o)
 have hcl:=hn.cl
 have hrest:=hn.glo.zn.rest
 have hroom:=hn.glo.room
 have HCI:=Lib.hid (crewIdle h1 h3 (by have:=hrest.ch;omega) (by have:=hrest.sp;omega) (v:=vc) (n:=S.crew.length) (gr:=gc) (l:=S.crew) (gW:=gW) (by have:=hr.c;unfold SvS.ps at this;rw [List.map_map] at this;exact this) hi.w hcl (fun z hz=>by
  rcases (hn.crew z hz).fit with ⟨_,h⟩ | ⟨_,h⟩
  ·rw [h];exact Nat.zero_le _
  ·omega))
 have HR:=Lib.hid hr
 have HX:=Lib.hid (And.intro h2 h4)
 have HSI:=Lib.hid hi
 obtain ⟨avo,capo,rfl⟩:=rowG.val hr.o
 obtain ⟨avc,capc,rfl⟩:=rowG.val hr.c
 intro w hw
 have T0:=TG.refl hw
 have HT:=Lib.hid T0
 clear hw T0
 have HT:=Lib.hid (HT.out.sum (H':=[headB sb L.fb (.slice avo S.own.length capo) va (.slice avc S.crew.length capc),go,ga,gc,gJ,gW,gC,gP,gWh,gL]))
 have sv0:=HT.out.cell 0 0 rfl 0
 have sv1:=HT.out.cell 0 0 rfl 1
 have sv2:=HT.out.cell 0 0 rfl 2
 have sv3:=HT.out.cell 0 0 rfl 3
 simp only [headB,GE3] at sv0 sv1 sv2 sv3
 have lth:=HT.out.lt 0 0 rfl
 simp only [] at lth
 clear hr hi h1 h2 h3 h4 hn hrest hroom
 go_enter Tryz.func57,Tryz.ntmps57
 go_wp2_with fail
 refine (DoesG.use (HC.out) (HT.out) [4,1] rfl rfl).mono ?_
 rintro e w1 ⟨gs,⟨gJ2,rfl,hj2,rfl⟩,Ta⟩
 simp only [PU] at Ta
 have HT:=Lib.hid Ta
 clear Ta
 have HJ2:=Lib.hid hj2
 clear hj2 sv0 sv1 sv2 sv3 lth
 have sv0:=HT.out.cell 0 0 rfl 0
 have sv1:=HT.out.cell 0 0 rfl 1
 have sv2:=HT.out.cell 0 0 rfl 2
 have sv3:=HT.out.cell 0 0 rfl 3
 simp only [headB,GE3] at sv0 sv1 sv2 sv3
 have lth:=HT.out.lt 0 0 rfl
 simp only [] at lth
 cases hb:S.busyB with
 | true =>
   have HB:=Lib.hid (show S.idle=false from by unfold SvS.idle;rw [hb];rfl)
   clear hb
   go_wp2_with fail
   go_quiet ((fail))
   have HT:=Lib.hid (HT.out.drewN nq)
   go_wp2
   go_ret
   exact ⟨_,⟨_,by rw [HB.out];rfl,⟨_,_,_,go,ga,gc,gJ2,gW,_,HR.out,⟨HJ2.out,HSI.out.w,HSI.out.z⟩,rfl⟩,rfl⟩,HT.out.sum⟩
 | false =>
   have HB:=Lib.hid (show S.idle=crewIdleB S.crew S.z.p from by unfold SvS.idle;rw [hb];rfl)
   clear hb
   go_wp2_with fail
   refine wp_region_mix1 11 (by kernel_rfl) (by kernel_rfl) ?_
   simp only [TD4]
   repeat (go_big_quiet_step ((fail)))
   refine wpQuiet_nil ?_
   intro _ hw'
   obtain ⟨nq,hw''⟩:=hw'
   subst hw''
   have HT:=Lib.hid (HT.out.drewN nq)
   go_wp2_with fail
   refine (DoesG.use (HCI.out) (HT.out) [5,3,6,7] rfl rfl).mono ?_
   rintro e w1 ⟨gs,⟨gW2,rfl,hw2,rfl⟩,Ta⟩
   simp only [PU] at Ta
   have HT:=Lib.hid Ta
   clear Ta
   have HW2:=Lib.hid hw2
   clear hw2
   go_wp2_with fail
   refine ⟨rfl,?_⟩
   go_wp2
   go_ret
   exact ⟨_,⟨_,by rw [HB.out];rfl,⟨_,_,_,go,ga,gc,gJ2,gW2,_,HR.out,⟨HJ2.out,HW2.out,HSI.out.z⟩,rfl⟩,rfl⟩,HT.out.sum⟩
end
end
section
open Go.RowKit Go.Shelf
section
variable {L:Lay} {x:CoreS} {gF:List Blk}
end
def itT:Nat→ST→ZT→ST × ZT
 | 0,s,z=>(s,z)
 | n+1,s,z=>itT n (stepTu s z).1 (stepTu s z).2
theorem itT_next:∀ (j:Nat) (s:ST) (z:ZT),itT (j+1) s z=stepTu (itT j s z).1 (itT j s z).2
 | 0,_,_=>rfl
 | j+1,s,z=>by rw [itT,itT_next j];rfl
theorem JT.it {s:ST} {z:ZT} {N:Nat}:∀ (j:Nat),JT N s z→N+j<999999→(∀ i,i<j→maySt (itT i s z).1 (itT i s z).2=true)→JT (N+j) (itT j s z).1 (itT j s z).2
 | 0,h,_,_=>h
 | j+1,h,hN,hm=>by
   rw [itT_next]
   have:=(JT.it j h (by omega) fun i hi=>hm i (by omega)).step (by omega) (hm j (by omega))
   rwa [show N+j+1=N+(j+1) by omega] at this
def begT (th no:Int) (x:CoreS) (ws:List WheelS) (p:PipeS):ZT:=⟨newT th no,{ x with tr:=x.tr++[evT (newT th no) { ev0 with kind:=1 }] },ws,p⟩
theorem JT.first {N:Nat} {x:CoreS} {ws:List WheelS} {p:PipeS} (hc:CoreN N x) (hr:RestN N x ws p) (hw:WSlot ws) (h4:x.shs.length≤4) {th:Int} (ht:0≤th) (ht2:x.f.closed=true∨th≤1000000) (no:Int):JT (N+1) firstT (begT th no x ws p):=by
 have h1:=hr.mono (M:=N+1) (by omega)
 exact ⟨⟨noteN hc _,⟨h1.now,h1.busy,h1.cap,h1.wl,h1.wok,h1.task,h1.turns,h1.ch,h1.sp⟩,⟨ht,⟨by show (0:Int)≤0;omega,by show (0:Int) < _;omega,by show okW 0=true;decide⟩,taskZ,Nat.zero_le _,(fun t ht=>by cases ht),fun i hi=>by cases hi⟩,hw,h4⟩,ht2⟩
theorem fires_cell {h H:GH} {w w':World} (T:TG h w H w') (i:Nat) {v:Value} {l:List FireS} {g:List Blk} (hi:H.getD i []=g) (r:rowG 69 4 v l.length (fires l) g) {k:Nat} {f:FireS} (hk:l[k]?=some f) :
 ∃ b cap,v=.slice (some ⟨b,0,none⟩) l.length cap∧l.length≤cap∧cap≤maxLen∧∀ j,j<4→w'.cell? ⟨b,k*4+j,none⟩=f.vals[j]?:=by
 have hlt:=(List.getElem?_eq_some_iff.1 hk).1
 obtain ⟨b,cap,cur,rfl,rfl,h1,h2,h3,h4⟩:=rowG.open r (by omega)
 exact ⟨b,cap,rfl,h1,h2,fun j hj=>(T.cell (b:=b) i 0 (by rw [hi];rfl) (k*4+j)).trans ((h4 (k*4+j) (by omega)).trans (fires_at l k f j hk hj))⟩
set_option maxRecDepth 100000 in
theorem sameF_r {a b:Value} {l:List FireS} {gA gB:List Blk} (ha:rowG 69 4 a l.length (fires l) gA) (hb:rowG 69 4 b l.length (fires l) gB) (hn:l.length≤1000000000):ReadsG Tryz.prog 63 #[a,b] [gA,gB] (.bool true):=by
 obtain ⟨xa,ca,rfl⟩:=rowG.val ha
 obtain ⟨xb,cb,rfl⟩:=rowG.val hb
 intro w hw
 have HT:=Lib.hid (TG.refl hw)
 have HA:=Lib.hid ha
 have HB:=Lib.hid hb
 generalize hll:l.length=n at *
 have HL:=Lib.hid hll
 clear hw ha hb hll
 go_enter Tryz.func63,Tryz.ntmps63
 go_wp2
 go_loopw [5] (fun i wr=>∃ k m:Nat,k≤n∧i=.int .i64 k∧wr=w.drewN m) (fun i _=>n - (intOf i).toNat)
 case atStart=>exact ⟨0,0,Nat.zero_le _,rfl,rfl⟩
 case round =>
  obtain ⟨k,m,hk,rfl,rfl⟩:=hrel
  by_cases hlt:k<n
  ·obtain ⟨f,hf⟩:∃ f,l[k]?=some f:=⟨_,List.getElem?_eq_getElem (by rw [HL.out];exact hlt)⟩
   obtain ⟨ba,da,ea,a1,a2,c⟩:=fires_cell HT.out 0 rfl (by rw [HL.out];exact HA.out) hf
   obtain ⟨bb,db,eb,b1,b2,d⟩:=fires_cell HT.out 1 rfl (by rw [HL.out];exact HB.out) hf
   rw [HL.out] at ea eb a1 b1
   cases ea
   cases eb
   have c0:=c 0 (by decide)
   have c1:=c 1 (by decide)
   have c2:=c 2 (by decide)
   have c3:=c 3 (by decide)
   have d0:=d 0 (by decide)
   have d1:=d 1 (by decide)
   have d2:=d 2 (by decide)
   have d3:=d 3 (by decide)
   simp only [FireS.vals,List.getElem?_cons_zero,List.getElem?_cons_succ] at c0 c1 c2 c3 d0 d1 d2 d3
   rw [Nat.add_zero] at c0 d0
   clear c d hf
   go_wp2
   go_quiet (fail)
   go_wp2
   go_roundw
   case rel=>exact ⟨k+1,_,by omega,by go_num,rfl⟩
   case measure=>simp [intOf];omega
  ·go_wp2
   go_ret
   exact ⟨rfl,m,rfl⟩
end
section
open Go.RowKit Go.Shelf
end
section
open Go.RowKit Go.Shelf
section
variable {L:Lay} {x:CoreS} {ws:List WheelS} {p:PipeS} {gF:List Blk}
end
end
section
open Go.RowKit Go.Shelf
theorem wheel0_lv:wheel0S.lv=List.replicate 4 (List.replicate 64 []):=by rfl
theorem wheel0_e (P:EntS→Prop):WEnt P wheel0S:=by
 refine ⟨fun l hl s hs e he=>?_,fun e he=>by cases he⟩
 rw [wheel0_lv] at hl
 rw [List.eq_of_mem_replicate hl] at hs
 rw [List.eq_of_mem_replicate hs] at he
 cases he
theorem wheel0_n:WheelN 0 wheel0S:=⟨⟨by decide,fun l hl=>by
 rw [wheel0_lv] at hl
 rw [List.eq_of_mem_replicate hl,List.length_replicate]⟩,by decide,by decide,wheel0_e _⟩
theorem zf0_n (c:Cfg) (hk:c.ok=true):ZN 0 (zf0 c)∧WSlot (zf0 c).ws∧(zf0 c).x.shs.length≤4:=by
 obtain ⟨h1,h2,h3,h4,h5,h6⟩:=Cfg.bd hk
 have hrep:∀ w∈(zf0 c).ws,w=wheel0S:=fun w hw=>List.eq_of_mem_replicate hw
 have hsh:∀ s∈(zf0 c).x.shs,s=newShard c.ring.toNat:=fun s hs=>List.eq_of_mem_replicate hs
 refine ⟨⟨core0_n hk,⟨⟨Int.le_refl 0,Int.le_refl 0⟩,⟨Int.le_refl 0,Int.le_refl 0⟩,?_,?_,fun w hw=>by rw [hrep w hw];exact wheel0_n,fun s hs e he=>?_,fun s hs=>by rw [hsh s hs];exact ⟨Int.le_refl 0,Int.le_refl 0⟩,Nat.zero_le _,Nat.zero_le _⟩,Nat.le_refl _⟩,fun w hw=>by rw [hrep w hw];exact wheel0_e _,?_⟩
 ·show c.cap=((List.replicate c.cap.toNat Rec.zero).length:Int)
  rw [List.length_replicate];omega
 ·show (List.replicate _ _).length=(List.replicate _ _).length
  rw [List.length_replicate,List.length_replicate]
 ·rw [hsh s hs] at he
  simp [newShard,newRing] at he
  obtain ⟨i,_,rfl⟩:=he
  exact taskZ
 ·show (List.replicate _ _).length≤4
  rw [List.length_replicate];omega
end
section
open Go.RowKit Go.Shelf
def sv0 (c:Cfg) (ws:List WkN):SvS:=⟨zf0 c,List.replicate (c.cli.toNat+1) none,[],ws⟩
theorem sv0_n (c:Cfg) (hk:c.ok=true) {ws:List WkN} (hl:ws.length=c.wk.toNat) (hw:∀ z∈ws,isNewW z):SvN 0 (sv0 c ws):=by
 obtain ⟨h1,h2,h3⟩:=zf0_n c hk
 obtain ⟨b1,b2,b3,b4,b5,b6⟩:=Cfg.bd hk
 refine ⟨⟨h1,h2,h3,?_⟩,(fun j hj=>by cases hj),fun z hz=>CrewN.new (hw z hz),fun k hk'=>?_,?_,?_,Nat.le_refl _,(fun a j h=>by cases h)⟩
 ·show c.room.toNat≤1000
  omega
 ·have:=List.eq_of_mem_replicate hk'
  cases this
 ·show 1≤(List.replicate _ _).length∧(List.replicate _ _).length≤1000
  rw [List.length_replicate]
  omega
 ·show ws.length≤1000
  omega
end
end Go.Proofs.YtblhfbcodbjgcaaGreat
