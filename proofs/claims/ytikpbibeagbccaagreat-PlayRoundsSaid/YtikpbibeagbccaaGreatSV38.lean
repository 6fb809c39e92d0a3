import Derived.Test.YtikpbibeagbccaaGreatSV37
import Derived.Test.YtikpbibeagbccaaGreatSV20
import Derived.Test.YtikpbibeagbccaaGreatSV36
import Derived.Test.YtikpbibeagbccaaGreatSV28
set_option maxRecDepth 100000
set_option maxHeartbeats 4000000
namespace Go.Proofs.YtikpbibeagbccaaGreat
set_option linter.unusedVariables false
set_option linter.unusedSimpArgs false
open Go.Proofs.Tryz
section
open Go.RowKit Go.Shelf
attribute [local go_sem] Oper.semAt_some
def qog (j:qen):Value:=.iface j.w.ty (Qb j.kb)
structure Yb (L:Lay) (sb:Nat) (S:SvS) (vo va vc:Value) (go ga gc:List Blk):Prop where
 o:Qr 88 1 vo S.own.length (S.os.map ifO) go
 a:Qr 88 1 va S.all.length (S.all.map qog) ga
 c:Qr 139 1 vc S.crew.length (S.ps.map Qb) gc
structure qgh (L:Lay) (S:SvS) (gJ gW gZ:List Blk):Prop where
 j:Zr L S.all gJ
 w:qgm L S.crew gW
 z:isZ L S.z gZ
def qe8 (L:Lay) (sb:Nat) (S:SvS) (g:List Blk):Prop :=
 ∃ vo va vc go ga gc gJ gW gZ,Yb L sb S vo va vc go ga gc∧qgh L S gJ gW gZ∧g=Q2 sb L.fb vo va vc++(go++(ga++(gc++(gJ++(gW++gZ)))))
def SvS.mays (S:SvS):List Nat:=(S.ths.filter fun t=>t.2.may S).map Prod.fst
def SvS.maysTo (S:SvS) (k:Nat):List Nat:=((S.ths.take k).filter fun t=>t.2.may S).map Prod.fst
def qd7 (l:List Nat):List Value:=l.map fun n=>.int .i64 (n:Nat)
theorem qql (S:SvS):S.maysTo S.ths.length=S.mays:=by unfold SvS.maysTo SvS.mays;rw [List.take_length]
theorem qlo {S:SvS} {k:Nat} {t:Nat × Th} (h:S.ths[k]?=some t):S.maysTo (k+1)=S.maysTo k++(if t.2.may S then [t.1] else []):=by
 obtain ⟨h1,h2⟩:=List.getElem?_eq_some_iff.1 h;unfold SvS.maysTo;rw [List.take_succ_eq_append_getElem h1,h2,List.filter_append,List.map_append];cases hm:t.2.may S <;> simp [hm]
theorem qsl (S:SvS) (k:Nat):(S.maysTo k).length≤S.ths.length:=by
 unfold SvS.maysTo;rw [List.length_map];exact Nat.le_trans (List.length_filter_le _ _) (by rw [List.length_take];omega)
theorem qeb:∀ (l:List (Option Nat)) (a:Nat),(qys a l).length≤l.length
 | [],_=>Nat.le_refl _
 | none::l,a=>Nat.le_succ_of_le (qeb l (a+1))
 | some k::l,a=>Nat.succ_le_succ (qeb l (a+1))
theorem qho:∀ (l:List WkN) (a i:Nat),(qug a i l).length=l.length
 | [],_,_=>rfl
 | c::l,a,i=>congrArg Nat.succ (qho l (a+1) (i+1))
theorem qmq {N:Nat} {S:SvS} (h:SvN N S):S.ths.length≤2000:=by
 have h1:=h.ol;have h2:=h.cl;have h3:=qeb S.own 0;have h4:=qho S.crew S.own.length 0;unfold SvS.ths;rw [List.length_append];omega
theorem qj2 (sb:Nat):Qa prog 45 #[Qb sb] [] fun e gs=>∃ bx,e=.returned (.func (.func 67) #[] #[Qb bx])∧gs=[[cl bx 25 #[Qb sb]]]:=by
 refine GO fun w HT=>?_
 go_enter func45,ntmps45
 go_wp2
 go_ret
 exact ⟨_,⟨_,rfl,rfl⟩,(HT.out.alloc rfl _ _)⟩
theorem qzc (S:SvS) (t:Th) (b:Nat) (W:World):(method 503 (t.ty S) (Qb b) "May").run prog W=.ok (t.fMay S,Qb b) W:=by
 cases t with
 | job a=>show (method _ ((S.jobAt a).w.ty) _ _).run _ _=.ok ((S.jobAt a).w.fMay,_) _;cases (S.jobAt a).w <;> kernel_rfl
 | wkr i=>kernel_rfl
theorem qxh (S:SvS) (t:Th) (b:Nat) (W:World):(method 503 (t.ty S) (Qb b) "Step").run prog W=.ok (t.fStep S,Qb b) W:=by
 cases t with
 | job a=>show (method _ ((S.jobAt a).w.ty) _ _).run _ _=.ok ((S.jobAt a).w.fStep,_) _;cases (S.jobAt a).w <;> kernel_rfl
 | wkr i=>kernel_rfl
theorem qzq (S:SvS) (t:Th) (args:Array Value) (W:World):(callFunc (t.fMay S) args).run prog W=.ok (.enter (t.fMay S) args) W:=by
 cases t with
 | job a=>show (callFunc (S.jobAt a).w.fMay _).run _ _=.ok (.enter (S.jobAt a).w.fMay _) _;cases (S.jobAt a).w <;> kernel_rfl
 | wkr i=>kernel_rfl
theorem qvq (S:SvS) (t:Th) (args:Array Value) (W:World):(callFunc (t.fStep S) args).run prog W=.ok (.enter (t.fStep S) args) W:=by
 cases t with
 | job a=>show (callFunc (S.jobAt a).w.fStep _).run _ _=.ok (.enter (S.jobAt a).w.fStep _) _;cases (S.jobAt a).w <;> kernel_rfl
 | wkr i=>kernel_rfl
theorem qx3:(prog.info? 3).map (fun i=>(i.zero,i.size,i.bytes))=some (some (.int .i64 0),1,8):=by kernel_rfl
theorem qtc {L:Lay} {sb:Nat} {S:SvS} {vo va vc:Value} {go ga gc:List Blk} {N:Nat} (hn:SvN N S) (hr:Yb L sb S vo va vc go ga gc) (bx:Nat) :
 qeu prog 67 #[Qb bx] (itTh (S.ths.map (thC S)) (qsu sb (Q2 sb L.fb vo va vc) go gc) [[cl bx 25 #[Qb sb]]]) (0:Nat):=by
 rw [← qtm];refine qk4 bx sb L.fb ?_ ?_ ?_ ?_
 ·show Qr _ 1 vo (S.own.map _).length _ go
  rw [List.length_map];exact hr.o
 ·show Qr _ 1 vc (S.crew.map _).length _ gc
  rw [List.length_map];exact hr.c
 ·show (S.own.map _).length≤_
  rw [List.length_map];exact hn.ol.2
 ·show (S.crew.map _).length≤_
  rw [List.length_map];exact hn.cl
section
variable {L:Lay} {sb:Nat} {S:SvS} {N:Nat}
theorem q2h (hn:SvN N S) (hN:N<999998) {vo va vc:Value} {go ga gc gJ gW gZ:List Blk} (hr:Yb L sb S vo va vc go ga gc) (hi:qgh L S gJ gW gZ):Qa prog 18 #[Qb sb] [Q2 sb L.fb vo va vc,go,ga,gc,gJ,gW,gZ] fun e gs =>
 ∃ v gl gJ' gW' gZ',e=.returned v∧Qr 3 1 v S.mays.length (qd7 S.mays) gl∧qgh L S gJ' gW' gZ'∧gs=[Q2 sb L.fb vo va vc,go,ga,gc,gJ',gW',gZ',gl]:=by
 have HI:=Vh (show ∀ bx,_ from fun bx=>qtc hn hr bx);have eg:=enters_of func67 (P:=prog) (by kernel_rfl) rfl;have HNN:=Vh hn;have HSI:=Vh hi;have htl:=qmq hn;refine GO fun w HT=>?_
 clear hr hi hn;refine Qu func18 rfl ?_
 simp only [ntmps18,List.size_toArray,List.length_cons,List.length_nil,Nat.reduceAdd,Nat.reduceSub,Array.replicate_succ,Array.replicate_zero,List.push_toArray,List.append_toArray,List.nil_append,List.cons_append];go_wp2_with fail
 obtain ⟨lb,hlb⟩:∃ lb,w.heap.size=lb:=⟨_,rfl⟩;have HT:=Vh (HT.out.alloc (k:=lb) hlb.symm 40 #[.slice none 0 0]);rw [hlb];clear hlb;go_wp2_with fail
 refine Qa.run (qj2 sb) (HT.out) [] ?_
 rintro e w1 gs ⟨bx,rfl,rfl⟩ HT;simp only [PU] at HT;have T0:=HT.out.re (H':=[Q2 sb L.fb vo va vc,go,ga,gc,gJ,gW,gZ,[cl lb 40 #[.slice none 0 0]],[]]++[[cl bx 25 #[Qb sb]]]) (by simp);go_wp2_with fail
 refine qy (H0:=[Q2 sb L.fb vo va vc,go,ga,gc,gJ,gW,gZ,[cl lb 40 #[.slice none 0 0]],[]]) (O0:=[[cl bx 25 #[Qb sb]]]) rfl eg (HI.out bx) ?hps T0 ?hO (fun (k:Nat) H=>∃ v gl gJ1 gW1 gZ1,H=[Q2 sb L.fb vo va vc,go,ga,gc,gJ1,gW1,gZ1,[cl lb 40 #[v]],gl]∧qgh L S gJ1 gW1 gZ1∧Qr 3 1 v (S.maysTo k).length (qd7 (S.maysTo k)) gl) (fun _ _ _=>False) ?h0 ?hT ?hbody ?hdone ?hstop
 case hps =>
  rintro s x G s' ⟨hx,_⟩;obtain ⟨t,_,rfl⟩:=List.mem_map.1 (List.mem_of_getElem? hx);rfl
 case hO=>exact rfl
 case h0=>exact ⟨_,[],gJ,gW,gZ,rfl,HSI.out,(show Qr 3 1 (.slice none 0 0) 0 [] [] from Xp _ _)⟩
 case hT=>rintro s H K ⟨v,gl,gJ1,gW1,gZ1,rfl,_⟩;exact ⟨0,1,3,rfl,rfl,rfl,by simp,by simp,by simp⟩
 case hbody =>
  rintro (k:Nat) x G (k':Nat) H W ly ⟨v,gl,gJ1,gW1,gZ1,rfl,hi1,hr1⟩ ⟨hx,rfl,rfl⟩ hH;rw [List.getElem?_map] at hx
  obtain ⟨t,ht,rfl⟩:∃ t,S.ths[k]?=some t∧thC S t=x:=by
   cases h:S.ths[k]? with
   | none=>rw [h] at hx;cases hx
   | some t=>rw [h] at hx;exact ⟨t,rfl,by cases hx;rfl⟩
  obtain ⟨nt,t⟩:=t;have hml:=qsl S k;have hms:=qlo ht;have hmay:=q37 HNN.out (qcs HNN.out (List.mem_of_getElem? ht)) hi1.j hi1.w hi1.z hN;have hinv:=qzc S t;have hcal:=qzq S t;obtain ⟨tyV,hty⟩:∃ y,t.ty S=y:=⟨_,rfl⟩;obtain ⟨fV,hfv⟩:∃ y,t.fMay S=y:=⟨_,rfl⟩;obtain ⟨bV,hbv⟩:∃ y,t.b S=y:=⟨_,rfl⟩;unfold thC;simp only at hms hmay ⊢;rw [hty,hfv] at hinv;rw [hfv] at hcal;rw [hty,hbv];rw [hfv,hbv] at hmay;have HM:=Vh hmay;have HMS:=Vh hms;have HH:=Vh hH;have HR:=Vh hr1;obtain ⟨av,cap,hv⟩:=Qr.val hr1;subst hv;clear hH hr1 hi1 ht hx hmay hms hty hfv hbv;refine Q1 (n:=9) ?_
  gi_wp2
  refine ⟨_,TG.refl HH.out,fun Wb hb=>?_⟩
  have HT:=Vh (TG.refl hb);clear hb HH;refine Q1 (n:=9) ?_
  gi_wp2
  refine ⟨trivial,(Zj (Qa.use HM.out HT.out [4,5,6] rfl rfl)).mono ?_⟩
  rintro e W1 ⟨gs,⟨gJ2,gW2,gZ2,rfl,hj2,hw2,hz2,rfl⟩,Ta⟩;simp only [qc9,List.set_cons_zero,List.set_cons_succ,List.append_nil] at Ta;have HI2:=Vh (show qgh L S gJ2 gW2 gZ2 from ⟨hj2,hw2,hz2⟩);cases hm:t.may S with
  | false =>
    rw [hm] at HMS;have HMS:=Vh (show S.maysTo (k+1)=S.maysTo k by rw [HMS.out];exact List.append_nil _);have HT:=Vh Ta;clear Ta hj2 hw2 hz2 hinv hcal;gi_wp2
    exact ⟨_,⟨_,gl,gJ2,gW2,gZ2,rfl,HI2.out,by rw [HMS.out];exact HR.out⟩,HT.out⟩
  | true =>
    rw [hm] at HMS;have HMS:=Vh (show S.maysTo (k+1)=S.maysTo k++[nt] from HMS.out);have HT:=Vh Ta;have c0:=Ta.cell 7 0 rfl 0;have f0:=Ta.free 7 0 rfl 0;simp only [GE2] at c0;clear Ta hj2 hw2 hz2 hinv hcal;obtain ⟨M,hM⟩:∃ M,(S.maysTo k).length=M:=⟨_,rfl⟩;rw [hM] at HT HR c0 hml;have ho2:M+1≤maxLen:=by unfold maxLen;omega
    have ho3:(M+1)*8≤140737488355328:=by omega
    have ho4:M≤2000:=by omega
    gi_wp2_with (
     gi_at_builtin
     with_reducible refine Z7 rfl (.tmp 12) (.tmp 14) 40 rfl 3 1 8 _ underlying40 qx3 rfl (by decide) (HT.out.alloc0 _) 8 rfl rfl HR.out rfl ⟨W1.heap.size,0,none⟩ 1 1 [.int .i64 (nt:Nat)] rfl rfl (X8 _ _ _) (by simp [Value.oneCell']) ho2 ho3 ?_;skip)
    ·intro v1 w2 g1 r1 T1
     have T1:=T1.eq (H':=[Q2 sb L.fb vo va vc,go,ga,gc,gJ2,gW2,gZ2,[cl lb 40 #[.slice av M cap]],g1]) rfl;have c1:=T1.cell 7 0 rfl 0;have f1:=T1.free 7 0 rfl 0;obtain ⟨a1,cap1,hv1⟩:=Qr.val r1;subst hv1;have T1:=Vh T1;have r1:=Vh r1;simp only [GE2] at c1;gi_wp2
     have e1:(S.maysTo (k+1)).length=M+1:=by rw [HMS.out,List.length_append,hM];rfl
     have e2:qd7 (S.maysTo (k+1))=qd7 (S.maysTo k)++[.int .i64 (nt:Nat)]:=by rw [HMS.out];exact List.map_append ..
     exact ⟨[Q2 sb L.fb vo va vc,go,ga,gc,gJ2,gW2,gZ2,[cl lb 40 #[.slice a1 (M+1) cap1]],g1],⟨_,g1,gJ2,gW2,gZ2,rfl,HI2.out,by rw [e1,e2];exact r1.out⟩,by rw [hM];exact (T1.out.set 7 0 rfl 0 (.slice a1 (M+1) cap1)).eq (by rfl)⟩
 case hdone =>
  rintro (k:Nat) H O' W D hf' ⟨v,gl,gJ1,gW1,gZ1,rfl,hi1,hr1⟩ hO hT
  have hf2:k=S.ths.length:=by
   have:k=(S.ths.map (thC S)).length:=hf';rwa [List.length_map] at this
  subst hf2;rw [qql] at hr1;have hO':O'=[[cl bx 25 #[Qb sb]]]:=hO;subst hO';have c0:=hT.cell 7 0 rfl 0;simp only [GE2] at c0;have HX:=Vh (And.intro hi1 (And.intro hr1 hT));obtain ⟨av,cap,hv⟩:=Qr.val hr1;subst hv;clear hi1 hr1 hT hf' hO;go_wp2
  obtain ⟨hi1,hr1,hT⟩:=HX.out;have T3:=hT.turnLast (.deferred none)
  have T4:TG [Q2 sb L.fb vo va vc,go,ga,gc,gJ,gW,gZ] w ([Q2 sb L.fb vo va vc,go,ga,gc,gJ1,gW1,gZ1,gl]++[[cl lb 40 #[.slice av S.mays.length cap],cl bx 25 #[Qb sb],(D,.deferred none)]]) (W.putObj D (.deferred none)):=T3.re (by
   classical
   simp only [List.flatten_append,List.flatten_cons,List.flatten_nil,List.append_nil,List.cons_append,List.nil_append];refine List.perm_iff_count.2 fun a=>?_
   simp only [List.count_append,List.count_cons,List.count_nil]
   omega)
  exact Xs (v:=.slice av S.mays.length cap) hT.has.last (by simp [results,results18,go_sem]) ⟨_,⟨_,gl,gJ1,gW1,gZ1,rfl,hr1,hi1,rfl⟩,T4.dropLast⟩
 case hstop=>intro s cd H O W D h;exact h.elim
end
end
section
open Go.RowKit Go.Shelf
attribute [local go_sem] Oper.semAt_some
theorem qk3 {w:Wk} {z:ZF} (h:w.may z=true):w.done=false:=by
 cases w with
 | call s k =>
   have:(!s.isNil)=true:=h
   show s.isNil=false
   cases hs:s.isNil
   ·rfl
   ·rw [hs] at this;cases this
 | turn s k =>
   cases s with
   | nil=>cases h
   | _=>rfl
 | clo s k =>
   cases s with
   | nil=>cases h
   | _=>rfl
theorem qm6 (w:Wk) (z:ZF):(w.step z).1.isTurn=w.isTurn:=by cases w <;> rfl
theorem q1k (w:Wk) (z:ZF):(w.step z).1.ty=w.ty:=by cases w <;> rfl
section
variable {S:SvS} {N:Nat} {t:Th}
theorem qoq {α:Type} {l:List α} {a b:Nat} {x y:α} (h:(l.set a x)[b]?=some y):(b=a∧y=x)∨(b≠a∧l[b]?=some y):=by
 rw [List.getElem?_set] at h;split at h
 ·next hab =>
  split at h
  ·exact .inl ⟨hab.symm,(Option.some.inj h).symm⟩
  ·cases h
 ·next hab=>exact .inr ⟨fun e=>hab e.symm,h⟩
theorem q4h (hn:SvN N S) (ht:t.here S) (hN:N<999998) (hm:t.may S=true):SvN (N+1) (t.step S):=by
 cases t with
 | job a =>
   have hk:=X1 ht;obtain ⟨hjn,hn0,hn1⟩:=hn.jobs _ (List.mem_of_getElem? hk);have hm':(S.jobAt a).w.may S.z=true:=hm;have hnd:=qk3 hm';obtain ⟨h1,h2,h3,h4,h5⟩:=qth hn.glo hjn hm' (by omega)
   refine ⟨h1,?_,fun c hc=>(hn.crew c hc).mono (by omega),fun k hk'=>by
    show k<(S.all.set a _).length
    rw [List.length_set];exact hn.own k hk',hn.ol,hn.cl,by
    show (S.all.set a _).length≤_
    have:=hn.al
    rw [List.length_set];omega,?_⟩
   ·intro j hj
    obtain ⟨b,hb⟩:=List.mem_iff_getElem?.1 hj;rcases qoq hb with ⟨_,rfl⟩ | ⟨hne,hb⟩
    ·exact ⟨h2,by show 0≤(S.jobAt a).n+1;omega,by show (S.jobAt a).n+1≤_;omega⟩
    ·obtain ⟨g1,g2,g3⟩:=hn.jobs j (List.mem_of_getElem? hb)
     refine ⟨(g1.mono (M:=N+1) (by omega)).frame h3 (fun hjt=>?_),g2,by omega⟩
     cases hst:(S.jobAt a).w.isTurn with
     | false=>exact .inl (h4 hst)
     | true =>
       right
       cases hd:j.w.done with
       | true=>rfl
       | false =>
         have e1:=hn.turn a _ hk hst hnd;have e2:=hn.turn b j hb hjt hd;rw [e1] at e2;cases e2
         exact absurd rfl hne
   ·intro b j hb hjt hd
    rcases qoq hb with ⟨rfl,rfl⟩ | ⟨hne,hb⟩
    ·exact hn.turn b _ hk (by rw [← qm6 (S.jobAt b).w S.z];exact hjt) hnd
    ·exact hn.turn b j hb hjt hd
 | wkr i =>
   have hk:=qal ht;have hcn:=hn.crew _ (List.mem_of_getElem? hk);obtain ⟨_,h1,h2,h3,h4⟩:=qgy hcn hn.glo hN
   refine ⟨h2,fun j hj=>?_,fun c hc=>?_,hn.own,hn.ol,by
    show (S.crew.set i _).length≤_
    rw [List.length_set];exact hn.cl,by have:=hn.al;show S.all.length≤_;omega,hn.turn⟩
   ·obtain ⟨g1,g2,g3⟩:=hn.jobs j hj
    exact ⟨(g1.mono (M:=N+1) (by omega)).frame h3 (fun _=>.inl h4),g2,by omega⟩
   ·rcases List.mem_or_eq_of_mem_set hc with hc | rfl
    ·exact (hn.crew c hc).mono (by omega)
    ·exact h1
theorem qd0 {α β:Type} {f:α→β} {l:List α} {a:Nat} {x y:α} (h:l[a]?=some x) (hf:f y=f x):(l.set a y).map f=l.map f:=by
 rw [List.map_set,hf,← List.map_set];obtain ⟨h1,h2⟩:=List.getElem?_eq_some_iff.1 h;rw [← h2,List.set_getElem_self]
theorem qca (ht:t.here S):(t.step S).all.map qog=S.all.map qog:=by
 cases t with
 | job a =>
   refine qd0 (X1 ht) ?_
   unfold qog;simp only [q1k]
 | wkr i=>rfl
theorem qzx (ht:t.here S):(t.step S).os.map ifO=S.os.map ifO:=by
 unfold SvS.os;have ho:(t.step S).own=S.own:=by cases t <;> rfl
 rw [ho,List.map_map,List.map_map];refine List.map_congr_left fun o ho=>?_
 cases o with
 | none=>rfl
 | some b =>
   have h1:((t.step S).all.map qog)[b]?=(S.all.map qog)[b]?:=by rw [qca ht]
   have hl:(t.step S).all.length=S.all.length:=by
    have:=congrArg List.length (qca ht);simpa using this
   show Value.iface ((t.step S).jobAt b).w.ty (Qb ((t.step S).jobAt b).kb)=Value.iface (S.jobAt b).w.ty (Qb (S.jobAt b).kb)
   by_cases hb:b<S.all.length
   ·rw [List.getElem?_map,List.getElem?_map,X1 hb,X1 (S:=t.step S) (by omega)] at h1
    exact Option.some.inj h1
   ·have e1:S.jobAt b=q20:=by unfold SvS.jobAt;rw [List.getD_eq_getElem?_getD,List.getElem?_eq_none (by omega)];rfl
    have e2:(t.step S).jobAt b=q20:=by unfold SvS.jobAt;rw [List.getD_eq_getElem?_getD,List.getElem?_eq_none (by omega)];rfl
    rw [e1,e2]
theorem qtn (ht:t.here S):(t.step S).ps=S.ps:=by
 cases t with
 | job a=>rfl
 | wkr i=>exact qd0 (qal ht) rfl
theorem qva {L:Lay} {sb:Nat} {vo va vc:Value} {go ga gc:List Blk} (ht:t.here S) (h:Yb L sb S vo va vc go ga gc):Yb L sb (t.step S) vo va vc go ga gc:=by
 have h1:=congrArg List.length (qca ht);have h2:=congrArg List.length (qtn ht);simp only [List.length_map,SvS.ps] at h1 h2;have ho:(t.step S).own=S.own:=by cases t <;> rfl
 exact ⟨by rw [qzx ht,ho];exact h.o,by rw [qca ht,h1];exact h.a,by rw [qtn ht,h2];exact h.c⟩
end
def SvS.pickTh (S:SvS) (at_:Int):Option (Nat × Th):=S.ths.find? fun t=>decide ((t.1:Int)=at_) && t.2.may S
def SvS.stepS (S:SvS) (at_:Int):SvS × Int :=
 if at_<0∨(S.own.length:Int)+S.crew.length≤at_ then (S,4)
 else match S.pickTh at_ with
  | some t=>(t.2.step S,0)
  | none=>(S,7)
theorem quw {α:Type} {p:α→Bool}:∀ {l:List α} {k:Nat} {x:α},l[k]?=some x→(∀ y∈l.take k,p y=false)→p x=true→l.find? p=some x
 | [],_,_,h,_,_=>by cases h
 | a::l,0,x,h,_,hx=>by cases h;exact List.find?_cons_of_pos hx
 | a::l,k+1,x,h,hy,hx=>by
   rw [List.find?_cons_of_neg (by rw [hy a (by simp)];decide)];exact quw (l:=l) (k:=k) h (fun y hy'=>hy y (by rw [List.take_succ_cons];exact List.mem_cons_of_mem _ hy')) hx
theorem qsi {N:Nat} {S:SvS} (hn:SvN N S) (hN:N<999998) (i:Int):SvN (N+1) (S.stepS i).1:=by
 unfold SvS.stepS;split
 ·exact hn.mono (by omega)
 ·split
  ·next t ht =>
   have hp:=List.find?_some ht;have hm:=List.mem_of_find?_eq_some ht;simp only [Bool.and_eq_true] at hp;exact q4h hn (qcs hn hm) hN hp.2
  ·exact hn.mono (by omega)
end
section
open Go.RowKit Go.Shelf
attribute [local go_sem] Oper.semAt_some
theorem qac {P:Program} {fn:Func} {R:Ending→World→Prop} {tmps:Array Value} {W:World} {v:Value} (hres:(results fn tmps).run P W=.ok v W) (hR:R (.returned v) W) :
 bodyPostM Fence.wide 0 P fn R .ret { tmps,defers:=[] } W:=⟨_,hres,hR⟩
theorem q3c {a b:Value}:(#[a]:Array Value).setIfInBounds 0 b=#[b]:=rfl
section
variable {L:Lay} {sb:Nat} {S:SvS} {N:Nat}
theorem q04 (hn:SvN N S) (hN:N<999998) {vo va vc:Value} {go ga gc gJ gW gZ:List Blk} (hr:Yb L sb S vo va vc go ga gc) (hi:qgh L S gJ gW gZ) (i:Int):Qa prog 15 #[Qb sb,.int .i64 i] [Q2 sb L.fb vo va vc,go,ga,gc,gJ,gW,gZ] fun e gs =>
 ∃ gJ' gW' gZ',e=.returned (.int .i64 (S.stepS i).2)∧qgh L (S.stepS i).1 gJ' gW' gZ'∧gs=[Q2 sb L.fb vo va vc,go,ga,gc,gJ',gW',gZ']:=by
 have HI:=Vh (show ∀ bx,_ from fun bx=>qtc hn hr bx);have eg:=enters_of func67 (P:=prog) (by kernel_rfl) rfl;have HNN:=Vh hn;have HSI:=Vh hi;obtain ⟨avo,capo,rfl⟩:=Qr.val hr.o;obtain ⟨avc,capc,rfl⟩:=Qr.val hr.c;have hol:=hn.ol;have hcl:=hn.cl;refine GO fun w HT=>?_
 clear hr hi hn;refine Qu func15 rfl ?_
 simp only [ntmps15,List.size_toArray,List.length_cons,List.length_nil,Nat.reduceAdd,Nat.reduceSub,Array.replicate_succ,Array.replicate_zero,List.push_toArray,List.append_toArray,List.nil_append,List.cons_append];go_wp2_with fail
 obtain ⟨ab,hab⟩:∃ ab,w.heap.size=ab:=⟨_,rfl⟩;have HT:=Vh ((HT.out.alloc (k:=ab) hab.symm 3 #[.int .i64 i]).alloc (k:=ab+1) (by simp [hab]) 35 #[.int .i64 0]);rw [hab];clear hab;generalize World.alloc (World.alloc w _) _=wb at HT ⊢;obtain ⟨rb,hrb⟩:∃ rb,ab+1=rb:=⟨_,rfl⟩;rw [hrb] at HT ⊢;clear hrb;obtain ⟨h1,h3⟩:=Ce2 (HT.out.cell 0 0 rfl) 1 3;simp only [Q2,GE3] at h1 h3;have a0:=HT.out.cell 7 0 rfl 0;simp only [GE4] at a0;have r0:=HT.out.cell 8 0 rfl 0;have fr0:=HT.out.free 8 0 rfl 0;simp only [GE4] at r0;have lth:=HT.out.lt 0 0 rfl;have ltr:=HT.out.lt 8 0 rfl;simp only [] at lth ltr;have HSP:=Vh (show S.stepS i=if i<0∨(S.own.length:Int)+S.crew.length≤i then (S,(4:Int)) else match S.pickTh i with | some t=>(t.2.step S,0) | none=>(S,7) from rfl);by_cases hi0:i<0
 ·have HS:=Vh (show S.stepS i=(S,4) from HSP.out.trans (if_pos (.inl hi0)))
  go_quiet ((fail))
  have HT:=Vh (HT.out.drewN nq);go_wp2
  have T9:=HT.out.set 8 0 rfl 0 (.int .i64 4);have z0:=T9.cell 8 0 rfl 0;simp only [GE2,q3c] at z0;refine qac (v:=.int .i64 4) (by simp [results,results15,go_sem,z0]) ?_
  have HS2:=HS.out;rw [HS2]
  first | exact ⟨_,⟨gJ,gW,gZ,rfl,HSI.out,rfl⟩,T9.pick [0,1,2,3,4,5,6] rfl⟩ | exact ⟨_,⟨rfl,gJ,gW,gZ,HSI.out,rfl⟩,T9.pick [0,1,2,3,4,5,6] rfl⟩
 ·by_cases hi1:(S.own.length:Int)+S.crew.length≤i
  ·have HS:=Vh (show S.stepS i=(S,4) from HSP.out.trans (if_pos (.inr hi1)))
   go_quiet ((fail))
   have HT:=Vh (HT.out.drewN nq);go_wp2
   have T9:=HT.out.set 8 0 rfl 0 (.int .i64 4);have z0:=T9.cell 8 0 rfl 0;simp only [GE2,q3c] at z0;refine qac (v:=.int .i64 4) (by simp [results,results15,go_sem,z0]) ?_
   have HS2:=HS.out;rw [HS2]
   first | exact ⟨_,⟨gJ,gW,gZ,rfl,HSI.out,rfl⟩,T9.pick [0,1,2,3,4,5,6] rfl⟩ | exact ⟨_,⟨rfl,gJ,gW,gZ,HSI.out,rfl⟩,T9.pick [0,1,2,3,4,5,6] rfl⟩
  ·have HS:=Vh (show S.stepS i=match S.pickTh i with | some t=>(t.2.step S,0) | none=>(S,7) from HSP.out.trans (if_neg (by omega)))
   go_quiet ((fail))
   have HT:=Vh (HT.out.drewN nq);clear h1 h3 a0 r0 fr0 hi0 hi1;go_wp2_with fail
   refine Qa.run (qj2 sb) (HT.out) [] ?_
   rintro e w1 gs ⟨bx,rfl,rfl⟩ HT;simp only [PU] at HT;obtain ⟨hd,hhd⟩:∃ hd,Q2 sb L.fb (.slice avo S.own.length capo) va (.slice avc S.crew.length capc)=hd:=⟨_,rfl⟩;obtain ⟨vo,hvo⟩:∃ vo,Value.slice avo S.own.length capo=vo:=⟨_,rfl⟩;have T0:=HT.out.re (H':=[Q2 sb L.fb (.slice avo S.own.length capo) va (.slice avc S.crew.length capc),go,ga,gc,gJ,gW,gZ,[cl ab 3 #[.int .i64 i]],[cl rb 35 #[.int .i64 0]]]++[[cl bx 25 #[Qb sb]]]) (by simp);rw [hhd] at HI T0;clear hvo;go_wp2_with fail
   refine qy (H0:=[hd,go,ga,gc,gJ,gW,gZ,[cl ab 3 #[.int .i64 i]],[cl rb 35 #[.int .i64 0]]]) (O0:=[[cl bx 25 #[Qb sb]]]) rfl eg (HI.out bx) ?hps T0 ?hO
    (fun (k:Nat) H=>∃ gJ1 gW1 gZ1,H=[hd,go,ga,gc,gJ1,gW1,gZ1,[cl ab 3 #[.int .i64 i]],[cl rb 35 #[.int .i64 0]]]∧qgh L S gJ1 gW1 gZ1∧∀ t∈S.ths.take k,(decide ((t.1:Int)=i) && t.2.may S)=false)
    (fun _ cd H=>cd=.ret∧∃ t gJ1 gW1 gZ1,S.pickTh i=some t∧H=[hd,go,ga,gc,gJ1,gW1,gZ1,[cl ab 3 #[.int .i64 i]],[cl rb 35 #[.int .i64 0]]]∧qgh L (t.2.step S) gJ1 gW1 gZ1) ?h0 ?hT ?hbody ?hdone ?hstop
   case hps =>
    rintro s x G s' ⟨hx,_⟩;obtain ⟨t,_,rfl⟩:=List.mem_map.1 (List.mem_of_getElem? hx);rfl
   case hO=>exact rfl
   case h0=>exact ⟨gJ,gW,gZ,rfl,HSI.out,fun t ht=>by cases ht⟩
   case hT=>rintro s H K ⟨gJ1,gW1,gZ1,rfl,_⟩;exact ⟨0,1,3,rfl,rfl,rfl,by simp,by simp,by simp⟩
   case hbody =>
    rintro (k:Nat) x G (k':Nat) H W ly ⟨gJ1,gW1,gZ1,rfl,hi1,hno⟩ ⟨hx,rfl,rfl⟩ hH;rw [List.getElem?_map] at hx
    obtain ⟨t,ht,rfl⟩:∃ t,S.ths[k]?=some t∧thC S t=x:=by
     cases h:S.ths[k]? with
     | none=>rw [h] at hx;cases hx
     | some t=>rw [h] at hx;exact ⟨t,rfl,by cases hx;rfl⟩
    have hst1:=fun hm=>q3v HNN.out (qcs HNN.out (List.mem_of_getElem? ht)) hi1.j hi1.w hi1.z hN hm
    have hst0:=fun hm=>thNo HNN.out (qcs HNN.out (List.mem_of_getElem? ht)) hi1.j hi1.w hi1.z hN hm
    have HHE:=Vh ht;have HNT:=Vh hno;have HI1:=Vh hi1;obtain ⟨nt,t⟩:=t;simp only at hst1 hst0;have hinv:=qxh S t;have hcal:=qvq S t;obtain ⟨tyV,hty⟩:∃ y,t.ty S=y:=⟨_,rfl⟩;obtain ⟨fV,hfv⟩:∃ y,t.fStep S=y:=⟨_,rfl⟩;obtain ⟨bV,hbv⟩:∃ y,t.b S=y:=⟨_,rfl⟩;unfold thC;simp only;rw [hty,hfv] at hinv;rw [hfv] at hcal;rw [hty,hbv];rw [hfv,hbv] at hst1 hst0;have HST1:=Vh hst1;have HST0:=Vh hst0;have HH:=Vh hH
    have HTK:=Vh (show ∀ b,(decide ((nt:Int)=i) && t.may S)=b→b=false→∀ u∈S.ths.take (k+1),(decide ((u.1:Int)=i) && u.2.may S)=false from fun b h1 h2 u hu=>by
     obtain ⟨h3,h4⟩:=List.getElem?_eq_some_iff.1 HHE.out;rw [List.take_succ_eq_append_getElem h3,h4] at hu;rcases List.mem_append.1 hu with hu | hu
     ·exact HNT.out u hu
     ·obtain rfl:u=(nt,t):=by simpa using hu
      exact h1.trans h2)
    clear hH hi1 ht hx hst1 hst0 hno hty hfv hbv;refine Q1 (n:=9) ?_
    gi_wp2
    refine ⟨_,TG.refl HH.out,fun Wb hb=>?_⟩
    have HT:=Vh (TG.refl hb);have a0:=HT.out.cell 7 0 rfl 0;have r0:=HT.out.cell 8 0 rfl 0;have fr0:=HT.out.free 8 0 rfl 0;have ltr:=HT.out.lt 8 0 rfl;simp only [GE2] at a0 r0 ltr;clear hb HH;refine Q1 (n:=9) ?_
    by_cases hit:(nt:Int)=i
    ·have hb1:((nt:Int) == i)=true:=by simpa using hit
     cases hm:t.may S with
     | true =>
       have HST:=Vh (HST1.out hm);have HPK:=Vh (show S.pickTh i=some (nt,t) from quw HHE.out HNT.out (by simp [hit,hm]));clear hm;gi_wp2
       refine ⟨trivial,(Zj (Qa.use HST.out HT.out [4,5,6] rfl rfl)).mono ?_⟩
       rintro e W1 ⟨gs,⟨gJ2,gW2,gZ2,rfl,hj2,hw2,hz2,rfl⟩,Ta⟩;simp only [qc9,List.set_cons_zero,List.set_cons_succ,List.append_nil] at Ta;have HI2:=Vh (show qgh L (t.step S) gJ2 gW2 gZ2 from ⟨hj2,hw2,hz2⟩);have fr1:=Ta.free 8 0 rfl 0;have lt1:=Ta.lt 8 0 rfl;have r1:=Ta.cell 8 0 rfl 0;simp only [GE2] at r1 lt1;have HT:=Vh Ta;clear Ta hj2 hw2 hz2 hinv hcal a0 r0 fr0 ltr;gi_wp2
       exact ⟨_,⟨rfl,(nt,t),gJ2,gW2,gZ2,HPK.out,rfl,HI2.out⟩,(HT.out.set 8 0 rfl 0 (.int .i64 0)).eq (by rfl)⟩
     | false =>
       have HST:=Vh (HST0.out hm);have hb2:(decide ((nt:Int)=i) && t.may S)=false:=by rw [hm,Bool.and_false]
       have HTK2:=Vh (HTK.out _ hb2 rfl);clear hb2 hm;gi_wp2
       refine ⟨trivial,(Zj (Qa.use HST.out HT.out [4,5,6] rfl rfl)).mono ?_⟩
       rintro e W1 ⟨gs,⟨gJ2,gW2,gZ2,rfl,hj2,hw2,hz2,rfl⟩,Ta⟩;simp only [qc9,List.set_cons_zero,List.set_cons_succ,List.append_nil] at Ta;have HI2:=Vh (show qgh L S gJ2 gW2 gZ2 from ⟨hj2,hw2,hz2⟩);have HT:=Vh Ta;clear Ta hj2 hw2 hz2 hinv hcal a0 r0 fr0 ltr;gi_wp2
       exact ⟨_,⟨gJ2,gW2,gZ2,rfl,HI2.out,HTK2.out⟩,HT.out⟩
    ·have hb1:((nt:Int) == i)=false:=by simpa using hit
     have hb2:(decide ((nt:Int)=i) && t.may S)=false:=by rw [decide_eq_false hit];rfl
     have HTK2:=Vh (HTK.out _ hb2 rfl);clear hb2;gi_wp2
     all_goals (refine ⟨fun _ _=>trivial,?_⟩)
     all_goals
      gi_wp2
      exact ⟨_,⟨gJ1,gW1,gZ1,rfl,HI1.out,HTK2.out⟩,HT.out⟩
   case hdone =>
    rintro (k:Nat) H O' W D hf' ⟨gJ1,gW1,gZ1,rfl,hi1,hno⟩ hO hT
    have hf2:k=S.ths.length:=by
     have:k=(S.ths.map (thC S)).length:=hf';rwa [List.length_map] at this
    subst hf2;rw [List.take_length] at hno
    have HS2:=Vh (show S.stepS i=(S,7) from HS.out.trans (by
     have:S.pickTh i=none:=List.find?_eq_none.2 fun t ht=>by rw [hno t ht];decide
     rw [this]))
    have hO':O'=[[cl bx 25 #[Qb sb]]]:=hO;subst hO';have fr1:=hT.free 8 0 rfl 0;have lt1:=hT.lt 8 0 rfl;have r1:=hT.cell 8 0 rfl 0;simp only [GE2] at r1 lt1;have HX:=Vh (And.intro hi1 hT);clear hf' hi1 hno hT hO;go_wp2
    obtain ⟨hi1,hT⟩:=HX.out;have T2:=(hT.set 8 0 rfl 0 (.int .i64 7)).eq (H':=[hd,go,ga,gc,gJ1,gW1,gZ1,[cl ab 3 #[.int .i64 i]],[cl rb 35 #[.int .i64 7]]]++[[cl bx 25 #[Qb sb]]]++[[(D,.deferred (some []))]]) rfl;have T3:=T2.turnLast (.deferred none);have z0:=T3.cell 8 0 rfl 0;simp only [GE2] at z0;subst hhd
    have T4:TG [Q2 sb L.fb (.slice avo S.own.length capo) va (.slice avc S.crew.length capc),go,ga,gc,gJ,gW,gZ] w ([Q2 sb L.fb (.slice avo S.own.length capo) va (.slice avc S.crew.length capc),go,ga,gc,gJ1,gW1,gZ1]++[[cl ab 3 #[.int .i64 i],cl rb 35 #[.int .i64 7],cl bx 25 #[Qb sb],(D,.deferred none)]]) _:=T3.re (by
     classical
     simp only [List.flatten_append,List.flatten_cons,List.flatten_nil,List.append_nil,List.cons_append,List.nil_append];refine List.perm_iff_count.2 fun a=>?_
     simp only [List.count_append,List.count_cons,List.count_nil]
     try omega)
    exact Xs (v:=.int .i64 7) T2.has.last (by simp [results,results15,go_sem,z0]) ⟨_,⟨gJ1,gW1,gZ1,by rw [HS2.out],by rw [HS2.out];exact hi1,rfl⟩,T4.dropLast⟩
   case hstop =>
    rintro (s:Nat) cd H O W D ⟨rfl,t,gJ1,gW1,gZ1,hpk,rfl,hi1⟩ hT;have HS2:=Vh (show S.stepS i=(t.2.step S,0) from HS.out.trans (by rw [hpk]));have HX:=Vh (And.intro hi1 hT);clear hpk hi1 hT;go_wp2
    obtain ⟨hi1,hT⟩:=HX.out;have T3:=hT.turnLast (.deferred none);have z0:=T3.cell 8 0 rfl 0;simp only [GE2] at z0;subst hhd
    have T4:TG [Q2 sb L.fb (.slice avo S.own.length capo) va (.slice avc S.crew.length capc),go,ga,gc,gJ,gW,gZ] w ([Q2 sb L.fb (.slice avo S.own.length capo) va (.slice avc S.crew.length capc),go,ga,gc,gJ1,gW1,gZ1]++[O.flatten++[cl ab 3 #[.int .i64 i],cl rb 35 #[.int .i64 0],(D,.deferred none)]]) _:=T3.re (by
     classical
     simp only [List.flatten_append,List.flatten_cons,List.flatten_nil,List.append_nil,List.cons_append,List.nil_append];refine List.perm_iff_count.2 fun a=>?_
     simp only [List.count_append,List.count_cons,List.count_nil]
     omega)
    exact Xs (v:=.int .i64 0) hT.has.last (by simp [results,results15,go_sem,z0]) ⟨_,⟨gJ1,gW1,gZ1,by rw [HS2.out],by rw [HS2.out];exact hi1,rfl⟩,T4.dropLast⟩
end
end
section
open Go.RowKit Go.Shelf
theorem q2e (a b c d e f g:List Blk):([a,b,c,d,e,f,g]:GH).flatten=([a++(b++(c++(d++(e++(f++g)))))]:GH).flatten:=by simp
section
variable {L:Lay} {sb:Nat} {S:SvS} {N:Nat} {g:List Blk}
theorem q3j (h:qe8 L sb S g) (hn:SvN N S) (hN:N<999998):Qa prog 18 #[Qb sb] [g] fun e gs =>
 ∃ v gl g',e=.returned v∧Qr 3 1 v S.mays.length (qd7 S.mays) gl∧qe8 L sb S g'∧gs=[g',gl]:=by
 obtain ⟨vo,va,vc,go,ga,gc,gJ,gW,gZ,hr,hi,rfl⟩:=h;refine ((q2h hn hN hr hi).pre (q2e _ _ _ _ _ _ _)).post ?_
 rintro e gs ⟨v,gl,gJ',gW',gZ',rfl,h1,h2,rfl⟩;exact ⟨_,⟨v,gl,_,rfl,h1,⟨vo,va,vc,go,ga,gc,gJ',gW',gZ',hr,h2,rfl⟩,rfl⟩,by simp⟩
theorem qq9 {vo va vc:Value} {go ga gc:List Blk} (hn:SvN N S) (hr:Yb L sb S vo va vc go ga gc) (i:Int):Yb L sb (S.stepS i).1 vo va vc go ga gc:=by
 unfold SvS.stepS;split
 ·exact hr
 ·split
  ·next t ht=>exact qva (qcs hn (List.mem_of_find?_eq_some ht)) hr
  ·exact hr
theorem qyx (h:qe8 L sb S g) (hn:SvN N S) (hN:N<999998) (i:Int):Qa prog 15 #[Qb sb,.int .i64 i] [g] fun e gs =>
 ∃ g',e=.returned (.int .i64 (S.stepS i).2)∧qe8 L sb (S.stepS i).1 g'∧gs=[g']:=by
 obtain ⟨vo,va,vc,go,ga,gc,gJ,gW,gZ,hr,hi,rfl⟩:=h;refine ((q04 hn hN hr hi i).pre (q2e _ _ _ _ _ _ _)).post ?_
 rintro e gs ⟨gJ',gW',gZ',rfl,h2,rfl⟩;exact ⟨_,⟨_,rfl,⟨vo,va,vc,go,ga,gc,gJ',gW',gZ',qq9 hn hr i,h2,rfl⟩,rfl⟩,by simp⟩
def SvS.pickAt (S:SvS) (k:Int):Nat:=S.mays.getD ((max 0 k) % (S.mays.length:Int)).toNat 0
def SvS.pickS (S:SvS) (k:Int):SvS × Int × Int:=if S.mays.length=0 then (S,0,6) else ((S.stepS (S.pickAt k)).1,S.pickAt k,(S.stepS (S.pickAt k)).2)
theorem q1f (hn:SvN N S) (hN:N<999998) (k:Int):SvN (N+1) (S.pickS k).1:=by
 unfold SvS.pickS;split
 ·exact hn.mono (by omega)
 ·exact qsi hn hN _
theorem q14 (h:qe8 L sb S g) (hn:SvN N S) (hN:N<999998) (k:Int):Qa prog 16 #[Qb sb,.int .i64 k] [g] fun e gs =>
 ∃ g',e=.returned (.tuple #[.int .i64 (S.pickS k).2.1,.int .i64 (S.pickS k).2.2])∧qe8 L sb (S.pickS k).1 g'∧gs=[g']:=by
 have HM:=Vh (q3j h hn hN);have HST:=Vh (show ∀ i g',qe8 L sb S g'→_ from fun i g' h'=>qyx h' hn hN i);have hlen:S.mays.length≤2000:=Nat.le_trans (by unfold SvS.mays;rw [List.length_map];exact List.length_filter_le _ _) (qmq hn);refine GO fun w HT=>?_
 clear h hn;go_enter func16,ntmps16
 go_wp2_with fail
 refine Qa.run (HM.out) (HT.out) [0] ?_
 rintro e w1 gs ⟨v,gl,g1,rfl,hl,hs,rfl⟩ HT;simp only [PU] at HT;obtain ⟨av,cap,rfl⟩:=Qr.val hl;have HL:=Vh hl;have HS1:=Vh hs;clear hl hs;by_cases h0:S.mays.length=0
 ·have HP:=Vh (show S.pickS k=(S,0,6) from if_pos h0)
  have hb:((S.mays.length:Int) == 0)=true:=by rw [h0];rfl
  go_wp2
  go_ret2
  exact ⟨_,⟨g1,by rw [HP.out];rfl,by rw [HP.out];exact HS1.out,rfl⟩,HT.out.pick [0] rfl⟩
 ·have HP:=Vh (show S.pickS k=((S.stepS (S.pickAt k)).1,((S.pickAt k:Nat):Int),(S.stepS (S.pickAt k)).2) from if_neg h0)
  have hb:((S.mays.length:Int) == 0)=false:=by simpa using h0
  have hn0:0<S.mays.length:=by omega
  obtain ⟨m,hm⟩:∃ m:Nat,max 0 k=(m:Int):=⟨(max 0 k).toNat,by omega⟩
  have hat:S.mays[m % S.mays.length]?=some (S.pickAt k):=by
   unfold SvS.pickAt;rw [hm];have:(((m:Int) % (S.mays.length:Int))).toNat=m % S.mays.length:=by omega
   rw [this,List.getD_eq_getElem?_getD,List.getElem?_eq_getElem (Nat.mod_lt _ hn0)];rfl
  obtain ⟨rb,cp,hv,hcell⟩:=Jv HL.out HT.out 1 rfl (by simp) (k:=m % S.mays.length) (x:=.int .i64 (S.pickAt k)) (by unfold qd7;rw [List.getElem?_map,hat];rfl);obtain ⟨rfl,rfl⟩:av=some ⟨rb,0,none⟩∧cap=cp:=by cases hv;exact ⟨rfl,rfl⟩
  have hlt:m % S.mays.length<S.mays.length:=Nat.mod_lt _ hn0;obtain ⟨P,hP⟩:∃ P,S.pickAt k=P:=⟨_,rfl⟩;rw [hP] at hcell HP;obtain ⟨M,hM⟩:∃ M,S.mays.length=M:=⟨_,rfl⟩;rw [hM] at hcell hlt hlen hn0 hb;have HSP:=Vh (HST.out P g1 HS1.out);clear hv hat HL HM h0 hP HST HS1;rw [hM];go_wp2_with fail
  go_wp2_with fail
  refine Qa.run (HSP.out) (HT.out) [0] ?_
  rintro e w1 gs ⟨g2,rfl,hs2,rfl⟩ HT;simp only [PU] at HT;have HS2:=Vh hs2;clear hs2;go_wp2
  go_ret2
  exact ⟨_,⟨g2,by rw [HP.out];rfl,by rw [HP.out];exact HS2.out,rfl⟩,HT.out.pick [0] rfl⟩
end
end
section
open Go.RowKit Go.Shelf
attribute [local go_sem] Oper.semAt_some
end
section
open Go.RowKit Go.Shelf
section
variable {L:Lay} {sb:Nat} {S:SvS} {N:Nat} {g gJ:List Blk}
theorem qp8 (hn:SvN N S) (hN:N<999998) (hj:Zr L S.all gJ) {a:Nat} {j:qen} (hk:S.all[a]?=some j):Qa prog j.w.fAnswer #[Qb j.kb] [gJ] fun e gs =>
 ∃ v gv gJ',e=.returned (.tuple #[.agg (j.w.ans.cells v),.int .i64 j.w.ans.code])∧Qr 30 1 v j.w.ans.left.length (qgf j.w.ans.left) gv∧Zr L S.all gJ'∧gs=[gJ',gv]:=by
 refine (zv (rest:=[]) (R:=fun e a' rest'=>a'=j∧∃ v gv,e=.returned (.tuple #[.agg (j.w.ans.cells v),.int .i64 j.w.ans.code])∧Qr 30 1 v j.w.ans.left.length (qgf j.w.ans.left) gv∧rest'=[gv]) hj hk (fun ga hga=>(qsy (z:=S.z) hga (hn.jobs _ (List.mem_of_getElem? hk)).1 (by omega)).mono ?_)).mono ?_
 ·rintro e gs ⟨v,gv,h1,h2,rfl⟩
  exact ⟨j,ga,[gv],⟨rfl,v,gv,h1,h2,rfl⟩,hga,rfl⟩
 ·rintro e gs ⟨a',g',rest',⟨rfl,v,gv,h1,h2,rfl⟩,h3,rfl⟩
  rw [Yz hk] at h3;exact ⟨v,gv,g',h1,h2,h3,rfl⟩
theorem qtl (w:Wk) (b:Nat) (W:World):(method 503 w.ty (Qb b) "Answer").run prog W=.ok (w.fAnswer,Qb b) W:=by cases w <;> kernel_rfl
theorem qtk (w:Wk) (args:Array Value) (W:World):(callFunc w.fAnswer args).run prog W=.ok (.enter w.fAnswer args) W:=by cases w <;> kernel_rfl
def qv1:qs4:=⟨0,false,0,0,[],6⟩
def SvS.ansS (S:SvS) (no:Int):qs4:=if no<1∨(S.all.length:Int)<no then qv1 else (S.jobAt (no - 1).toNat).w.ans
theorem quy (h:qe8 L sb S g):Qa prog 21 #[Qb sb] [g] fun e gs=>e=.returned (Qb L.fb)∧gs=[g]:=by
 obtain ⟨vo,va,vc,go,ga,gc,gJ,gW,gZ,hr,hi,rfl⟩:=h;obtain ⟨ava,capa,rfl⟩:=Qr.val hr.a;refine GO fun w HT=>?_
 have HT:=Vh (HT.out.sum (H':=[Q2 sb L.fb vo (.slice ava S.all.length capa) vc,go,ga,gc,gJ,gW,gZ]));obtain ⟨sv0,sv1,sv2,sv3⟩:=Ce4 (HT.out.cell 0 0 rfl) 0 1 2 3;simp only [Q2,GE3] at sv0 sv1 sv2 sv3;have lth:=HT.out.lt 0 0 rfl;simp only [] at lth;have HR:=Vh hr;have HSI:=Vh hi;clear hr hi;go_enter func21,ntmps21
 go_wp2
 go_ret
 exact ⟨_,⟨rfl,rfl⟩,HT.out.sum⟩
theorem q4i (h:qe8 L sb S g) (hn:SvN N S) (hN:N<999998):Qa prog 39 #[Qb sb] [g] fun e gs=>∃ v gv g',e=.returned v∧Qr 82 4 v S.z.lg.length (Jc S.z.lg) gv∧qe8 L sb S g'∧gs=[g',gv]:=by
 have HF:=Vh (quy h);have hlg:=hn.glo.zn.lg;obtain ⟨vo,va,vc,go,ga,gc,gJ,gW,gZ,hr,hi,rfl⟩:=h;obtain ⟨gC,gWh,gP,gL,h1,h2,h3,h4,rfl⟩:=X6 hi.z;have HR:=Vh hr;have HSI:=Vh hi;have HX:=Vh h1;have HLA:=Vh (qx1 h4 (by omega));refine GO fun w HT=>?_
 clear hr hi h1 h2 h3 h4 hn hlg;go_enter func39,ntmps39
 go_wp2_with fail
 refine Qa.run (HF.out) (HT.out) [0] ?_
 rintro e w1 gs ⟨rfl,rfl⟩ HT;simp only [PU] at HT;have HT:=Vh (HT.out.sum (H':=[Q2 sb L.fb vo va vc++(go++(ga++(gc++(gJ++gW)))),gC,gWh++gP,gL]));go_wp2_with fail
 refine (Qe.use (qj0 HX.out) (HT.out) [1] rfl rfl).mono ?_
 rintro e w1 ⟨rfl,mq,rfl⟩;have HT:=Vh (HT.out.drewN mq);generalize World.drewN _ _=wq at HT ⊢;go_wp2_with fail
 refine Qa.run (HLA.out) (HT.out) [3] ?_
 rintro e w1 gs ⟨v,gv,rfl,hv,rfl⟩ HT;simp only [PU] at HT;obtain ⟨av,cap,rfl⟩:=Qr.val hv;have HV:=Vh hv;clear hv;go_wp2
 go_ret
 exact ⟨_,⟨_,gv,_,rfl,HV.out,⟨vo,va,vc,go,ga,gc,gJ,gW,_,HR.out,HSI.out,rfl⟩,rfl⟩,HT.out.sum⟩
theorem qt0 {no:Int} {g':List Blk} {w w':World} (hA:S.ansS no=qv1) (h:qe8 L sb S g') (T:TG [g] w [g',[]] w') :
 ∃ gs',(∃ v gv g',Ending.returned (.tuple #[.agg (qv1.cells (.slice none 0 0)),.int .i64 6])=Ending.returned (.tuple #[.agg ((S.ansS no).cells v),.int .i64 (S.ansS no).code])∧Qr 30 1 v (S.ansS no).left.length (qgf (S.ansS no).left) gv∧qe8 L sb S g'∧gs'=[g',gv])∧TG [g] w gs' w':=by
 rw [hA];exact ⟨_,⟨_,[],g',rfl,Xp _ _,h,rfl⟩,T⟩
theorem qvx (h:qe8 L sb S g) (hn:SvN N S) (hN:N<999998) (no:Int):Qa prog 20 #[Qb sb,.int .i64 no] [g] fun e gs =>
 ∃ v gv g',e=.returned (.tuple #[.agg ((S.ansS no).cells v),.int .i64 (S.ansS no).code])∧Qr 30 1 v (S.ansS no).left.length (qgf (S.ansS no).left) gv∧qe8 L sb S g'∧gs=[g',gv]:=by
 obtain ⟨vo,va,vc,go,ga,gc,gJ,gW,gZ,hr,hi,rfl⟩:=h;obtain ⟨ava,capa,rfl⟩:=Qr.val hr.a;refine GO fun w HT=>?_
 have HT:=Vh (HT.out.sum (H':=[Q2 sb L.fb vo (.slice ava S.all.length capa) vc,go,ga,gc,gJ,gW,gZ]));obtain ⟨sv0,sv1,sv2,sv3⟩:=Ce4 (HT.out.cell 0 0 rfl) 0 1 2 3;simp only [Q2,GE3] at sv0 sv1 sv2 sv3;have lth:=HT.out.lt 0 0 rfl;simp only [] at lth;have HR:=Vh hr;have HSI:=Vh hi;have hal:=hn.al;by_cases h0:no<1
 ·have HA:=Vh (show S.ansS no=qv1 from if_pos (.inl h0))
  clear hr hi;go_enter func20,ntmps20
  go_wp2_with fail
  have HT2:=Vh (HT.out.alloc (k:=w.heap.size) rfl 46 #[.int .i64 0,.bool false,.int .u64 0,.int .u64 0,.slice none 0 0]);obtain ⟨r0,r1,r2,r3,r4⟩:=Ce5 (HT2.out.cell 7 0 rfl) 0 1 2 3 4;simp only [GE4] at r0 r1 r2 r3 r4
  exact bodyPost_ret (v:=.tuple #[.agg (qv1.cells (.slice none 0 0)),.int .i64 6]) (by simp [results,results20,go_sem,r0,r1,r2,r3,r4,qs4.cells,qv1]) rfl (by
   have hp:=qt0 (S:=S) HA.out (⟨vo,_,vc,go,ga,gc,gJ,gW,gZ,HR.out,HSI.out,rfl⟩:qe8 L sb S _) ((HT2.out.pick [0,1,2,3,4,5,6] rfl).sum)
   first | exact hp | (simp only [exists_and_left,exists_and_right,and_assoc] at hp ⊢;exact hp))
 ·by_cases h1:(S.all.length:Int)<no
  ·have HA:=Vh (show S.ansS no=qv1 from if_pos (.inr h1))
   clear hr hi;go_enter func20,ntmps20
   go_wp2_with fail
   have HT2:=Vh (HT.out.alloc (k:=w.heap.size) rfl 46 #[.int .i64 0,.bool false,.int .u64 0,.int .u64 0,.slice none 0 0]);obtain ⟨r0,r1,r2,r3,r4⟩:=Ce5 (HT2.out.cell 7 0 rfl) 0 1 2 3 4;simp only [GE4] at r0 r1 r2 r3 r4
   exact bodyPost_ret (v:=.tuple #[.agg (qv1.cells (.slice none 0 0)),.int .i64 6]) (by simp [results,results20,go_sem,r0,r1,r2,r3,r4,qs4.cells,qv1]) rfl (by
    have hp:=qt0 (S:=S) HA.out (⟨vo,_,vc,go,ga,gc,gJ,gW,gZ,HR.out,HSI.out,rfl⟩:qe8 L sb S _) ((HT2.out.pick [0,1,2,3,4,5,6] rfl).sum)
    first | exact hp | (simp only [exists_and_left,exists_and_right,and_assoc] at hp ⊢;exact hp))
  ·have HA:=Vh (show S.ansS no=(S.jobAt (no - 1).toNat).w.ans from if_neg (by omega))
   have hk:=X1 (S:=S) (a:=(no - 1).toNat) (by omega);obtain ⟨k,hkn⟩:∃ k:Nat,no=(k:Int)+1:=⟨(no - 1).toNat,by omega⟩;subst hkn;have e1:((k:Int)+1 - 1).toNat=k:=by omega
   rw [e1] at hk HA;have HJA:=Vh (qp8 hn hN hi.j hk);obtain ⟨rb,cp,hv,hcell⟩:=Jv hr.a HT.out 2 rfl (by simp) (k:=k) (x:=qog (S.jobAt k)) (by rw [List.getElem?_map,hk];rfl);obtain ⟨rfl,rfl⟩:ava=some ⟨rb,0,none⟩∧capa=cp:=by cases hv;exact ⟨rfl,rfl⟩
   have hkl:k<S.all.length:=by omega
   have ltb:rb<w.heap.size:=by
    obtain ⟨b',c',cur,hv',hg',_⟩:=hr.a.open (by omega);cases hv'
    have:=HT.out.lt 2 0 (p:=(rb,.cells cur 88)) (by show ga[0]?=_;rw [hg'];rfl);exact this
   have q1:((k:Int)+1<1)=False:=eq_false (by omega);have q2:((S.all.length:Int)<(k:Int)+1)=False:=eq_false (by omega);have hmt:=qtl (S.jobAt k).w;have hcl:=qtk (S.jobAt k).w;unfold qog at hcell;obtain ⟨A,hA⟩:∃ A,(S.jobAt k).w.ans=A:=⟨_,rfl⟩;obtain ⟨tyV,hty⟩:∃ y,(S.jobAt k).w.ty=y:=⟨_,rfl⟩;obtain ⟨fV,hfv⟩:∃ y,(S.jobAt k).w.fAnswer=y:=⟨_,rfl⟩;obtain ⟨bV,hbv⟩:∃ y,(S.jobAt k).kb=y:=⟨_,rfl⟩;rw [hA] at HA HJA;rw [hty,hfv] at hmt;rw [hfv] at hcl;rw [hty,hbv] at hcell;rw [hfv,hbv] at HJA;clear hr hi hv hk hA hty hfv hbv hn h0 h1;go_enter func20,ntmps20
   simp only [qs4.cells] at HJA;go_wp2_with fail
   have HT2:=Vh (HT.out.alloc (k:=w.heap.size) rfl 46 #[.int .i64 0,.bool false,.int .u64 0,.int .u64 0,.slice none 0 0]);obtain ⟨ab,hab⟩:∃ ab,w.heap.size=ab:=⟨_,rfl⟩;rw [hab] at HT2;rw [hab];clear HT;have HT:=HT2;go_wp2_with fail
   refine Qa.run (HJA.out) (HT.out) [4] ?_
   rintro e w1 gs ⟨v,gv,gJ2,rfl,hv2,hj2,rfl⟩ HT;simp only [PU] at HT;obtain ⟨av2,cap2,rfl⟩:=Qr.val hv2;have HV:=Vh hv2;have HI2:=Vh (show qgh L S gJ2 gW gZ from ⟨hj2,HSI.out.w,HSI.out.z⟩);clear hv2 hj2 ltb hcell;obtain ⟨r0,r1,r2,r3,r4⟩:=Ce5 (HT.out.cell 7 0 rfl) 0 1 2 3 4;obtain ⟨fr0,fr1,fr2,fr3,fr4⟩:=Ce5 (HT.out.free 7 0 rfl) 0 1 2 3 4;simp only [GE4] at r0 r1 r2 r3 r4;have ltr:=HT.out.lt 7 0 rfl;simp only [] at ltr;go_wp2
   exact bodyPost_ret (v:=.tuple #[.agg (A.cells (.slice av2 A.left.length cap2)),.int .i64 A.code]) (by simp [results,results20,go_sem,r0,r1,r2,r3,r4,qs4.cells]) rfl ⟨_,⟨_,gv,_,by rw [HA.out],by rw [HA.out];exact HV.out,⟨vo,_,vc,go,ga,gc,gJ2,gW,gZ,HR.out,HI2.out,rfl⟩,rfl⟩,((((((HT.out.set 7 0 rfl 0 _).set 7 0 rfl 1 _).set 7 0 rfl 2 _).set 7 0 rfl 3 _).set 7 0 rfl 4 _).pick [0,1,2,3,4,5,6,8] rfl).sum⟩
end
theorem qfq (w:Wk) (b:Nat) (W:World):(method 503 w.ty (Qb b) "Done").run prog W=.ok (w.fDone,Qb b) W:=by cases w <;> kernel_rfl
theorem qe5 (w:Wk) (args:Array Value) (W:World):(callFunc w.fDone args).run prog W=.ok (.enter w.fDone args) W:=by cases w <;> kernel_rfl
section
variable {L:Lay} {sb:Nat} {S:SvS} {N:Nat} {g gJ:List Blk}
theorem qcr (hj:Zr L S.all gJ) {a:Nat} {j:qen} (hk:S.all[a]?=some j):Qa prog j.w.fDone #[Qb j.kb] [gJ] fun e gs=>∃ gJ',e=.returned (.bool j.w.done)∧Zr L S.all gJ'∧gs=[gJ']:=by
 refine (zv (rest:=[]) (R:=fun e a' rest'=>a'=j∧e=.returned (.bool j.w.done)∧rest'=[]) hj hk (fun ga hga=>(q1m hga).does.mono ?_)).mono ?_
 ·rintro e gs ⟨rfl,rfl⟩
  exact ⟨j,ga,[],⟨rfl,rfl,rfl⟩,hga,rfl⟩
 ·rintro e gs ⟨a',g',rest',⟨rfl,rfl,rfl⟩,h3,rfl⟩
  rw [Yz hk] at h3;exact ⟨g',rfl,h3,rfl⟩
theorem qpa:Qa prog 47 #[.nilIface] [gJ] fun e gs=>e=.returned (.bool false)∧gs=[gJ]:=by
 have hnq:=qa5;refine GO fun w HT=>?_
 go_enter func47,ntmps47
 go_wp2
 all_goals (first | (go_ret;exact ⟨_,⟨rfl,rfl⟩,HT.out⟩) | (refine ⟨fun _ _=>trivial,?_⟩;go_wp2;go_ret;exact ⟨_,⟨rfl,rfl⟩,HT.out⟩))
theorem qp0 (hj:Zr L S.all gJ) {a:Nat} {j:qen} (hk:S.all[a]?=some j):Qa prog 47 #[.iface j.w.ty (Qb j.kb)] [gJ] fun e gs=>∃ gJ',e=.returned (.bool (!j.w.done))∧Zr L S.all gJ'∧gs=[gJ']:=by
 have HD:=Vh (qcr hj hk);have hnq:=qdm j.w;have hmt:=qfq j.w;have hcl:=qe5 j.w;obtain ⟨d,hd⟩:∃ d,j.w.done=d:=⟨_,rfl⟩;obtain ⟨tyV,hty⟩:∃ y,j.w.ty=y:=⟨_,rfl⟩;obtain ⟨fV,hfv⟩:∃ y,j.w.fDone=y:=⟨_,rfl⟩;rw [hd,hfv] at HD;rw [hty,hfv] at hmt;rw [hty] at hnq;rw [hfv] at hcl;rw [hd,hty];refine GO fun w HT=>?_
 clear hj hk hd hty hfv;go_enter func47,ntmps47
 go_wp2_with fail
 go_wp2_with fail
 refine Qa.run (HD.out) (HT.out) [0] ?_
 rintro e w1 gs ⟨gJ',rfl,hj',rfl⟩ HT;simp only [PU] at HT;have HJ':=Vh hj';clear hj';go_wp2
 go_ret
 exact ⟨_,⟨gJ',rfl,HJ'.out,rfl⟩,HT.out⟩
def qpr (S:SvS):Option Nat→Bool
 | none=>false
 | some a=>!(S.jobAt a).w.done
def SvS.busyB (S:SvS):Bool:=S.own.any (qpr S)
theorem qjn {S:SvS} {k:Nat} {o:Option Nat} (h:S.own[k]?=some o) (h1:(S.own.take k).any (qpr S)=false) (h2:qpr S o=false):(S.own.take (k+1)).any (qpr S)=false:=by
 obtain ⟨a,b⟩:=List.getElem?_eq_some_iff.1 h;rw [List.take_succ_eq_append_getElem a,List.any_append,h1,b];simp [h2]
theorem qv2 {S:SvS} {k:Nat} {o:Option Nat} (h:S.own[k]?=some o) (h2:qpr S o=true):S.busyB=true:=List.any_eq_true.2 ⟨o,List.mem_of_getElem? h,h2⟩
theorem q0u (hn:SvN N S) (hj:Zr L S.all gJ) {vo:Value} {go:List Blk} (hro:Qr 88 1 vo S.own.length (S.os.map ifO) go):Qa prog 68 #[vo,.func (.func 47) #[] #[]] [gJ,go] fun e gs =>
 ∃ r gJ',e=.returned (.int .i64 r)∧decide (0≤r)=S.busyB∧Zr L S.all gJ'∧gs=[gJ',go]:=by
 obtain ⟨av,cap,rfl⟩:=Qr.val hro;have HNN:=Vh hn;have HRO:=Vh hro;have HJ:=Vh hj;have hol:=hn.ol;refine GO fun w HT=>?_
 clear hn hj hro;go_enter func68,ntmps68
 go_wp2_with fail
 go_loopw [8] (fun i wr=>∃ (k:Nat) (gJ1:List Blk),k≤S.own.length∧i=.int .i64 k∧Zr L S.all gJ1∧(S.own.take k).any (qpr S)=false∧TG [gJ,go] w [gJ1,go] wr) (fun i _=>S.own.length+1 - (intOf i).toNat)
 case atStart=>exact ⟨0,gJ,by omega,rfl,HJ.out,rfl,HT.out⟩
 case round =>
  obtain ⟨k,gJ1,hk,rfl,hj1,hno,T⟩:=hrel;clear HJ;by_cases hkl:k<S.own.length
  ·obtain ⟨o,ho⟩:∃ o,S.own[k]?=some o:=⟨_,List.getElem?_eq_getElem hkl⟩
   obtain ⟨b,cp,hv,hb⟩:=Jv HRO.out T 1 rfl (by simp) (k:=k) (x:=ifO (o.map fun a=>((S.jobAt a).w,(S.jobAt a).kb))) (by unfold SvS.os;rw [List.getElem?_map,List.getElem?_map,ho];rfl);obtain ⟨rfl,rfl⟩:av=some ⟨b,0,none⟩∧cap=cp:=by cases hv;exact ⟨rfl,rfl⟩
   have HT:=Vh T;have HO:=Vh ho;have HNO:=Vh hno;cases o with
   | none =>
     change _=some Value.nilIface at hb
     have HC:=Vh (qpa (gJ:=gJ1));have HJ1:=Vh hj1;clear hv T ho hno hj1;go_wp2_with fail
     go_wp2_with fail
     refine Qa.run (HC.out) (HT.out) [0] ?_
     rintro e w1 gs ⟨rfl,rfl⟩ HT;simp only [PU] at HT;have HN2:=Vh (qjn HO.out HNO.out rfl);clear hb;go_wp2
     first
     | (go_roundw
        case rel=>exact ⟨k+1,gJ1,by omega,by go_num,HJ1.out,HN2.out,HT.out⟩
        case measure=>simp [intOf];omega)
     | exact ⟨⟨k+1,gJ1,by omega,by go_num,HJ1.out,HN2.out,HT.out⟩,by simp [intOf];omega⟩
     | ((repeat apply Exists.intro);exact ⟨⟨⟨k+1,gJ1,by omega,by go_num,HJ1.out,HN2.out,HT.out⟩,rfl⟩,by simp [intOf];omega⟩)
   | some a =>
     have hka:=X1 (HNN.out.own a (List.mem_of_getElem? ho));change _=some (Value.iface (S.jobAt a).w.ty (Qb (S.jobAt a).kb)) at hb
     have HC:=Vh (qp0 hj1 hka);cases hd:(S.jobAt a).w.done with
     | true =>
       rw [hd] at HC;have HN2:=Vh (qjn HO.out HNO.out (show (!(S.jobAt a).w.done)=false by rw [hd];rfl));clear hv T ho hno hj1 hka hd;go_wp2_with fail
       go_wp2_with fail
       refine Qa.run (HC.out) (HT.out) [0] ?_
       rintro e w1 gs ⟨gJ2,rfl,hj2,rfl⟩ HT;simp only [PU] at HT;have HJ2:=Vh hj2;clear hb hj2;go_wp2
       first
       | (go_roundw
          case rel=>exact ⟨k+1,gJ2,by omega,by go_num,HJ2.out,HN2.out,HT.out⟩
          case measure=>simp [intOf];omega)
       | exact ⟨⟨k+1,gJ2,by omega,by go_num,HJ2.out,HN2.out,HT.out⟩,by simp [intOf];omega⟩
       | ((repeat apply Exists.intro);exact ⟨⟨⟨k+1,gJ2,by omega,by go_num,HJ2.out,HN2.out,HT.out⟩,rfl⟩,by simp [intOf];omega⟩)
     | false =>
       rw [hd] at HC;have HB:=Vh (qv2 HO.out (show (!(S.jobAt a).w.done)=true by rw [hd];rfl));clear hv T ho hno hj1 hka hd;go_wp2_with fail
       go_wp2_with fail
       refine Qa.run (HC.out) (HT.out) [0] ?_
       rintro e w1 gs ⟨gJ2,rfl,hj2,rfl⟩ HT;simp only [PU] at HT;have HJ2:=Vh hj2;clear hb hj2;go_wp2
       go_ret
       exact ⟨_,⟨_,gJ2,rfl,by rw [HB.out];exact decide_eq_true (by omega),HJ2.out,rfl⟩,HT.out⟩
  ·obtain rfl:k=S.own.length:=by omega
   rw [List.take_length] at hno;have HB:=Vh (show S.busyB=false from hno);have HJ1:=Vh hj1;have HT:=Vh T;clear T hno hj1;go_wp2
   go_ret
   exact ⟨_,⟨_,gJ1,rfl,by rw [HB.out];rfl,HJ1.out,rfl⟩,HT.out⟩
theorem qpb (hn:SvN N S) (hj:Zr L S.all gJ) {vo:Value} {go:List Blk} (hro:Qr 88 1 vo S.own.length (S.os.map ifO) go):Qa prog 46 #[vo,.func (.func 47) #[] #[]] [gJ,go] fun e gs =>
 ∃ gJ',e=.returned (.bool S.busyB)∧Zr L S.all gJ'∧gs=[gJ',go]:=by
 have HI:=Vh (q0u hn hj hro);obtain ⟨av,cap,rfl⟩:=Qr.val hro;refine GO fun w HT=>?_
 clear hn hj hro;go_enter func46,ntmps46
 go_wp2_with fail
 refine Qa.run (HI.out) (HT.out) [0,1] ?_
 rintro e w1 gs ⟨r,gJ',rfl,hb,hj',rfl⟩ HT;simp only [PU] at HT;have HJ':=Vh hj';by_cases hr:0≤r
 ·have HB:=Vh (show S.busyB=true from hb.symm.trans (decide_eq_true hr))
  clear hb hj';go_wp2
  go_ret
  exact ⟨_,⟨gJ',by rw [HB.out];rfl,HJ'.out,rfl⟩,HT.out⟩
 ·have HB:=Vh (show S.busyB=false from hb.symm.trans (decide_eq_false hr))
  clear hb hj';go_wp2
  go_ret
  exact ⟨_,⟨gJ',by rw [HB.out];show Ending.returned (.bool (decide (0≤r)))=_;rw [decide_eq_false (show ¬ (0≤r) by omega)],HJ'.out,rfl⟩,HT.out⟩
def SvS.idle (S:SvS):Bool:=!S.busyB && qq S.crew S.z.p
theorem q2q (h:qe8 L sb S g) (hn:SvN N S) (hN:N<999998):Qa prog 17 #[Qb sb] [g] fun e gs=>∃ g',e=.returned (.bool S.idle)∧qe8 L sb S g'∧gs=[g']:=by
 obtain ⟨vo,va,vc,go,ga,gc,gJ,gW,gZ,hr,hi,rfl⟩:=h;obtain ⟨gC,gWh,gP,gL,h1,h2,h3,h4,rfl⟩:=X6 hi.z;have HC:=Vh (qpb hn hi.j hr.o);have hcl:=hn.cl;have hrest:=hn.glo.zn.rest;have hroom:=hn.glo.room
 have HCI:=Vh (qxg h1 h3 (by have:=hrest.ch;omega) (by have:=hrest.sp;omega) (v:=vc) (n:=S.crew.length) (gr:=gc) (l:=S.crew) (gW:=gW) (by have:=hr.c;unfold SvS.ps at this;rw [List.map_map] at this;exact this) hi.w hcl (fun z hz=>by
  rcases (hn.crew z hz).fit with ⟨_,h⟩ | ⟨_,h⟩
  ·rw [h];exact Nat.zero_le _
  ·omega))
 have HR:=Vh hr;have HX:=Vh (And.intro h2 h4);have HSI:=Vh hi;obtain ⟨avo,capo,rfl⟩:=Qr.val hr.o;obtain ⟨avc,capc,rfl⟩:=Qr.val hr.c;refine GO fun w HT=>?_
 have HT:=Vh (HT.out.sum (H':=[Q2 sb L.fb (.slice avo S.own.length capo) va (.slice avc S.crew.length capc),go,ga,gc,gJ,gW,gC,gP,gWh,gL]));obtain ⟨sv0,sv1,sv2,sv3⟩:=Ce4 (HT.out.cell 0 0 rfl) 0 1 2 3;simp only [Q2,GE3] at sv0 sv1 sv2 sv3;have lth:=HT.out.lt 0 0 rfl;simp only [] at lth;clear hr hi h1 h2 h3 h4 hn hrest hroom;go_enter func17,ntmps17
 go_wp2_with fail
 refine Qa.run (HC.out) (HT.out) [4,1] ?_
 rintro e w1 gs ⟨gJ2,rfl,hj2,rfl⟩ HT;simp only [PU] at HT;have HJ2:=Vh hj2;clear hj2 sv0 sv1 sv2 sv3 lth;obtain ⟨sv0,sv1,sv2,sv3⟩:=Ce4 (HT.out.cell 0 0 rfl) 0 1 2 3;simp only [Q2,GE3] at sv0 sv1 sv2 sv3;have lth:=HT.out.lt 0 0 rfl;simp only [] at lth;cases hb:S.busyB with
 | true =>
   have HB:=Vh (show S.idle=false from by unfold SvS.idle;rw [hb];rfl);clear hb;go_wp2_with fail
   go_quiet ((fail))
   have HT:=Vh (HT.out.drewN nq);go_wp2
   go_ret
   exact ⟨_,⟨_,by rw [HB.out];rfl,⟨_,_,_,go,ga,gc,gJ2,gW,_,HR.out,⟨HJ2.out,HSI.out.w,HSI.out.z⟩,rfl⟩,rfl⟩,HT.out.sum⟩
 | false =>
   have HB:=Vh (show S.idle=qq S.crew S.z.p from by unfold SvS.idle;rw [hb];rfl);clear hb;go_wp2_with fail
   refine Qc 11 (by kernel_rfl) (by kernel_rfl) ?_
   simp only [TD4]
   repeat (go_big_quiet_step ((fail)))
   refine wpQuiet_nil (QE fun nq=>?_)
   have HT:=Vh (HT.out.drewN nq);go_wp2_with fail
   refine Qa.run (HCI.out) (HT.out) [5,3,6,7] ?_
   rintro e w1 gs ⟨gW2,rfl,hw2,rfl⟩ HT;simp only [PU] at HT;have HW2:=Vh hw2;clear hw2;go_wp2_with fail
   refine ⟨rfl,?_⟩
   go_wp2
   go_ret
   exact ⟨_,⟨_,by rw [HB.out];rfl,⟨_,_,_,go,ga,gc,gJ2,gW2,_,HR.out,⟨HJ2.out,HW2.out,HSI.out.z⟩,rfl⟩,rfl⟩,HT.out.sum⟩
end
theorem qg8 {h H:GH} {w w':World} (T:TG h w H w') (i:Nat) {v:Value} {l:List Xa} {g:List Blk} (hi:H.getD i []=g) (r:Qr 82 4 v l.length (Jc l) g) {k:Nat} {f:Xa} (hk:l[k]?=some f) :
 ∃ b cap,v=.slice (some ⟨b,0,none⟩) l.length cap∧l.length≤cap∧cap≤maxLen∧∀ j,j<4→w'.cell? ⟨b,k*4+j,none⟩=f.vals[j]?:=by
 have hlt:=(List.getElem?_eq_some_iff.1 hk).1;obtain ⟨b,cap,cur,rfl,rfl,h1,h2,h3,h4⟩:=Qr.open r (by omega);exact ⟨b,cap,rfl,h1,h2,fun j hj=>(T.cell (b:=b) i 0 (by rw [hi];rfl) (k*4+j)).trans ((h4 (k*4+j) (by omega)).trans (qa9 l k f j hk hj))⟩
theorem q0q {a b:Value} {l:List Xa} {gA gB:List Blk} (ha:Qr 82 4 a l.length (Jc l) gA) (hb:Qr 82 4 b l.length (Jc l) gB) (hn:l.length≤1000000000):Qe prog 38 #[a,b] [gA,gB] (.bool true):=by
 obtain ⟨xa,ca,rfl⟩:=Qr.val ha;obtain ⟨xb,cb,rfl⟩:=Qr.val hb;intro w hw;have HT:=Vh (TG.refl hw);have HA:=Vh ha;have HB:=Vh hb;generalize hll:l.length=n at *;have HL:=Vh hll;clear hw ha hb hll;go_enter func38,ntmps38
 go_wp2
 go_loopw [5] (fun i wr=>∃ k m:Nat,k≤n∧i=.int .i64 k∧wr=w.drewN m) (fun i _=>n - (intOf i).toNat)
 case atStart=>exact ⟨0,0,Nat.zero_le _,rfl,rfl⟩
 case round =>
  obtain ⟨k,m,hk,rfl,rfl⟩:=hrel;by_cases hlt:k<n
  ·obtain ⟨f,hf⟩:∃ f,l[k]?=some f:=⟨_,List.getElem?_eq_getElem (by rw [HL.out];exact hlt)⟩
   obtain ⟨ba,da,ea,a1,a2,c⟩:=qg8 HT.out 0 rfl (by rw [HL.out];exact HA.out) hf;obtain ⟨bb,db,eb,b1,b2,d⟩:=qg8 HT.out 1 rfl (by rw [HL.out];exact HB.out) hf;rw [HL.out] at ea eb a1 b1;cases ea
   cases eb
   have c0:=c 0 (by decide);have c1:=c 1 (by decide);have c2:=c 2 (by decide);have c3:=c 3 (by decide);have d0:=d 0 (by decide);have d1:=d 1 (by decide);have d2:=d 2 (by decide);have d3:=d 3 (by decide);simp only [Xa.vals,List.getElem?_cons_zero,List.getElem?_cons_succ] at c0 c1 c2 c3 d0 d1 d2 d3;rw [Nat.add_zero] at c0 d0;clear c d hf;go_wp2
   go_quiet (fail)
   go_wp2
   go_roundw
   case rel=>exact ⟨k+1,_,by omega,by go_num,rfl⟩
   case measure=>simp [intOf];omega
  ·go_wp2
   go_ret
   exact ⟨rfl,m,rfl⟩
theorem qjp:zl.lv=List.replicate 4 (List.replicate 64 []):=by rfl
theorem qny (P:qbh→Prop):qb0 P zl:=by
 refine ⟨fun l hl s hs e he=>?_,fun e he=>by cases he⟩
 rw [qjp] at hl;rw [List.eq_of_mem_replicate hl] at hs;rw [List.eq_of_mem_replicate hs] at he;cases he
theorem qxb:qdq 0 zl:=⟨⟨by decide,fun l hl=>by
 rw [qjp] at hl
 rw [List.eq_of_mem_replicate hl,List.length_replicate]⟩,by decide,by decide,qny _⟩
theorem q49 (c:Cfg) (hk:c.ok=true):ZN 0 (zf0 c)∧q0a (zf0 c).ws∧(zf0 c).x.shs.length≤4:=by
 obtain ⟨h1,h2,h3,h4,h5,h6⟩:=Cfg.bd hk;have hrep:∀ w∈(zf0 c).ws,w=zl:=fun w hw=>List.eq_of_mem_replicate hw
 have hsh:∀ s∈(zf0 c).x.shs,s=Xe c.ring.toNat:=fun s hs=>List.eq_of_mem_replicate hs
 refine ⟨⟨q08 hk,⟨⟨Int.le_refl 0,Int.le_refl 0⟩,⟨Int.le_refl 0,Int.le_refl 0⟩,?_,?_,fun w hw=>by rw [hrep w hw];exact qxb,fun s hs e he=>?_,fun s hs=>by rw [hsh s hs];exact ⟨Int.le_refl 0,Int.le_refl 0⟩,Nat.zero_le _,Nat.zero_le _⟩,Nat.le_refl _⟩,fun w hw=>by rw [hrep w hw];exact qny _,?_⟩
 ·show c.cap=((List.replicate c.cap.toNat Rec.zero).length:Int)
  rw [List.length_replicate];omega
 ·show (List.replicate _ _).length=(List.replicate _ _).length
  rw [List.length_replicate,List.length_replicate]
 ·rw [hsh s hs] at he
  simp [Xe,zj] at he
  obtain ⟨i,_,rfl⟩:=he;exact qzl
 ·show (List.replicate _ _).length≤4
  rw [List.length_replicate];omega
def sv0 (c:Cfg) (ws:List WkN):SvS:=⟨zf0 c,List.replicate (c.cli.toNat+1) none,[],ws⟩
theorem q44 (c:Cfg) (hk:c.ok=true) {ws:List WkN} (hl:ws.length=c.wk.toNat) (hw:∀ z∈ws,qg0 z):SvN 0 (sv0 c ws):=by
 obtain ⟨h1,h2,h3⟩:=q49 c hk;obtain ⟨b1,b2,b3,b4,b5,b6⟩:=Cfg.bd hk;refine ⟨⟨h1,h2,h3,?_⟩,(fun j hj=>by cases hj),fun z hz=>qbg.new (hw z hz),fun k hk'=>?_,?_,?_,Nat.le_refl _,(fun a j h=>by cases h)⟩
 ·show c.room.toNat≤1000
  omega
 ·have:=List.eq_of_mem_replicate hk'
  cases this
 ·show 1≤(List.replicate _ _).length∧(List.replicate _ _).length≤1000
  rw [List.length_replicate];omega
 ·show ws.length≤1000
  omega
def Jb (th no:Int) (c:Qs):Wk:=if c.kind=7 then .turn firstT (qqq th no) else if c.kind=6 then .clo qoy (qoe th no) else .call (Yn c.kind) (z6 th no c)
def qz2 (th no:Int) (c:Qs):EvS:=if c.kind=7 then evT (qqq th no) { ev0 with kind:=1 } else if c.kind=6 then evS (qoe th no) { ev0 with kind:=1 } else (z6 th no c).ev { ev0 with kind:=1,id:=c.id,dl:=c.dl,per:=c.per }
def qvd (e:EvS) (x:Ql):Ql:={ x with tr:=x.tr++[e] }
def SvS.busyAt (S:SvS) (i:Nat):Bool:=match S.own.getD i none with
 | some a=>!(S.jobAt a).w.done
 | none=>false
def SvS.callE (S:SvS) (th:Int) (c:Qs):Int :=
 if th<0∨(S.own.length:Int)≤th then 4
 else if decide (th=(S.own.length:Int) - 1)≠decide (c.kind=7) then 1
 else if S.busyAt th.toNat=true∧1≤c.kind∧c.kind≤7 then 10
 else if c.kind<1∨7<c.kind then 1 else 0
def SvS.callT (S:SvS) (kb:Nat) (th:Int) (c:Qs):SvS :=
 { S with own:=S.own.set th.toNat (some S.all.length),all:=S.all++[⟨kb,0,Jb th (S.all.length+1) c⟩],z:={ S.z with x:=qvd (qz2 th (S.all.length+1) c) S.z.x } }
def SvS.callS (S:SvS) (kb:Nat) (th:Int) (c:Qs):SvS:=if S.callE th c=0 then S.callT kb th c else S
def SvS.callNo (S:SvS) (th:Int) (c:Qs):Int:=if S.callE th c=0 then S.all.length+1 else 0
structure qy2 (S:SvS) (th:Int) (c:Qs):Prop where
 th0:0≤th
 th1:th<S.own.length
 dr:(th=(S.own.length:Int) - 1)↔c.kind=7
 busy:S.busyAt th.toNat=false
 k1:1≤c.kind
 k7:c.kind≤7
theorem qxq {S:SvS} {th:Int} {c:Qs} (h:S.callE th c=0):qy2 S th c:=by
 unfold SvS.callE at h;split at h
 ·cases h
 ·next h1 =>
  split at h
  ·cases h
  ·next h2 =>
   split at h
   ·cases h
   ·next h3 =>
    split at h
    ·cases h
    ·next h4 =>
     refine ⟨by omega,by omega,?_,?_,by omega,by omega⟩
     ·have h2:=Decidable.not_not.1 h2
      exact decide_eq_decide.1 h2
     ·cases hb:S.busyAt th.toNat with
      | false=>rfl
      | true=>exact absurd ⟨hb,by omega,by omega⟩ h3
theorem qsc {S:SvS} {l:List qen} {a:Nat} (h:a<S.all.length):(S.all++l).getD a q20=S.jobAt a:=by
 unfold SvS.jobAt;rw [List.getD_eq_getElem?_getD,List.getElem?_append_left h,← List.getD_eq_getElem?_getD]
theorem qxw {N:Nat} {th no:Int} {c:Qs} (hc:c.wf) {x:Ql} (h0:0≤th) (h1:th≤1000000):qob N (Jb th no c) x:=by
 unfold Jb;split
 ·refine ⟨⟨h0,⟨by show (0:Int)≤0;omega,by show (0:Int) < _;omega,by show okW 0=true;decide⟩,qzl,Nat.zero_le _,(fun t ht=>by cases ht),fun i hi=>by cases hi⟩,.inr h1,h1⟩
 ·split
  ·exact ⟨⟨by show (0:Int)≤0;omega,by show (0:Int) < _;omega,by show okW 0=true;decide⟩,Nat.zero_le _,rfl⟩
  ·exact ⟨q3q hc th no _,quh _ _,⟨by show (0:Int)≤0;omega,by show (0:Int)≤_;omega⟩⟩
theorem q16 {N:Nat} {z:ZF} (h:qi5 N z) (e:EvS):qi5 (N+1) { z with x:=qvd e z.x }:=by
 have hr:=h.zn.rest.mono (M:=N+1) (by omega);exact ⟨⟨qxy h.zn.core _,⟨hr.now,hr.busy,hr.cap,hr.wl,hr.wok,hr.task,hr.turns,hr.ch,hr.sp⟩,by have:=h.zn.lg;show z.lg.length≤_;omega⟩,h.ws,h.sh4,h.room⟩
theorem qlm (th no:Int) (c:Qs):(Jb th no c).isTurn=decide (c.kind=7):=by
 unfold Jb;split
 ·next h=>simp [h,Wk.isTurn]
 ·next h =>
  split <;> simp [h,Wk.isTurn]
theorem qzs {N:Nat} {S:SvS} {th:Int} {c:Qs} (hn:SvN N S) (ho:qy2 S th c) (hc:c.wf) (kb:Nat):SvN (N+1) (S.callT kb th c):=by
 have hol:=hn.ol;have h0:=ho.th0;have h1:=ho.th1;obtain ⟨t,rfl⟩:∃ t:Nat,th=(t:Int):=⟨th.toNat,by omega⟩;have htn:((t:Int)).toNat=t:=by omega
 have hkg:qwk S.z.x (qvd (qz2 t (S.all.length+1) c) S.z.x):=⟨rfl,rfl⟩;refine ⟨q16 hn.glo _,fun j hj=>?_,fun c hc=>(hn.crew c hc).mono (by omega),fun k hk=>?_,?_,hn.cl,?_,fun a j ha hj hd=>?_⟩
 ·rcases List.mem_append.1 hj with hj | hj
  ·obtain ⟨a1,a2,a3⟩:=hn.jobs j hj
   exact ⟨(a1.mono (M:=N+1) (by omega)).frame hkg (fun _=>.inl fun _=>rfl),a2,by omega⟩
  ·rw [List.mem_singleton.1 hj]
   exact ⟨qxw hc h0 (by omega),Int.le_refl _,by show (0:Int)≤_;omega⟩
 ·show k<(S.all++[_]).length
  rw [List.length_append];simp only [List.length_cons,List.length_nil];rcases List.mem_or_eq_of_mem_set hk with hk | hk
  ·have:=hn.own k hk;omega
  ·cases hk;omega
 ·show 1≤(S.own.set _ _).length∧(S.own.set _ _).length≤1000
  rw [List.length_set];exact hol
 ·show (S.all++[_]).length≤_
  have:=hn.al;rw [List.length_append];simp only [List.length_cons,List.length_nil];omega
 ·have e1:(S.callT kb t c).own=S.own.set t (some S.all.length):=by
   show S.own.set ((t:Int)).toNat _=_
   rw [htn]
  rw [e1,List.length_set,List.getElem?_set];have ha':(S.all++[⟨kb,0,Jb t (S.all.length+1) c⟩])[a]?=some j:=ha;rcases Nat.lt_or_ge a S.all.length with hlt | hge
  ·rw [List.getElem?_append_left hlt] at ha'
   have hown:=hn.turn a j ha' hj hd;split
   ·next heq =>
    exfalso
    have hb:=ho.busy;rw [htn] at hb;unfold SvS.busyAt at hb;rw [List.getD_eq_getElem?_getD,heq,hown] at hb
    have hja:S.jobAt a=j:=by
     have:=X1 hlt;rw [ha'] at this;exact (Option.some.inj this).symm
    simp only [Option.getD_some,hja,hd] at hb;cases hb
   ·exact hown
  ·rw [List.getElem?_append_right hge] at ha'
   obtain ⟨hz,rfl⟩:a - S.all.length=0∧j=⟨kb,0,Jb t (S.all.length+1) c⟩:=by
    cases h9:a - S.all.length with
    | zero=>rw [h9] at ha';exact ⟨rfl,(Option.some.inj ha').symm⟩
    | succ m=>rw [h9] at ha';cases ha'
   have hk7:c.kind=7:=by
    have:(Jb (t:Int) (S.all.length+1) c).isTurn=true:=hj;rw [qlm] at this;exact of_decide_eq_true this
   have htl:=ho.dr.2 hk7;have e2:t=S.own.length - 1:=by omega
   have e3:a=S.all.length:=by omega
   rw [if_pos e2,if_pos (by omega),e3]
theorem q0l {N:Nat} {S:SvS} (hn:SvN N S) {c:Qs} (hc:c.wf) (kb:Nat) (th:Int):SvN (N+1) (S.callS kb th c):=by
 unfold SvS.callS;split
 ·next h=>exact qzs hn (qxq h) hc kb
 ·exact hn.mono (by omega)
theorem qv3 {N:Nat} {S:SvS} {th:Int} {c:Qs} (hn:SvN N S) (kb:Nat):(S.callT kb th c).os=S.os.set th.toNat (some (Jb th (S.all.length+1) c,kb)):=by
 show (S.own.set th.toNat (some S.all.length)).map _=(S.own.map _).set _ _
 rw [List.map_set]
 have e1:(Option.map (fun a=>(((S.callT kb th c).jobAt a).w,((S.callT kb th c).jobAt a).kb)) (some S.all.length))=some (Jb th (S.all.length+1) c,kb):=by
  have:(S.callT kb th c).jobAt S.all.length=⟨kb,0,Jb th (S.all.length+1) c⟩:=by
   show (S.all++[_]).getD S.all.length q20=_
   rw [List.getD_eq_getElem?_getD,List.getElem?_append_right (Nat.le_refl _),Nat.sub_self];rfl
  exact congrArg (fun j:qen=>some (j.w,j.kb)) this
 rw [e1];congr 1
 refine List.map_congr_left fun o ho=>?_
 cases o with
 | none=>rfl
 | some a =>
   have:(S.callT kb th c).jobAt a=S.jobAt a:=qsc (hn.own a ho);exact congrArg (fun j:qen=>some (j.w,j.kb)) this
section
variable {L:Lay} {sb:Nat} {S:SvS} {N:Nat} {vo va vc:Value} {go ga gc gJ gW gZ:List Blk}
def BgR (L:Lay) (sb:Nat) (S:SvS) (vo va vc:Value) (go:List Blk) (th:Int) (c:Qs) (e:Ending) (gs:GH):Prop :=
 (∃ kb gN gJ' gZ',S.callE th c=0∧e=.returned (.tuple #[.iface (Jb th (S.all.length+1) c).ty (Qb kb),.int .i64 0])∧qb5 L kb 0 (Jb th (S.all.length+1) c) gN∧Zr L S.all gJ'∧isZ L { S.z with x:=qvd (qz2 th (S.all.length+1) c) S.z.x } gZ'∧gs=[Q2 sb L.fb vo va vc,go,gJ',gZ',gN]) ∨
 (∃ v gJ' gZ',S.callE th c≠0∧e=.returned (.tuple #[v,.int .i64 (S.callE th c)])∧Zr L S.all gJ'∧isZ L S.z gZ'∧gs=[Q2 sb L.fb vo va vc,go,gJ',gZ'])
theorem qcz {t:Nat} {c:Qs} (h1:t<S.own.length) (hd:decide ((t:Int)=(S.own.length:Int) - 1)=decide (c.kind=7)) (hb:S.busyAt t=false) (hk:1≤c.kind∧c.kind≤7):S.callE t c=0:=by
 unfold SvS.callE;rw [if_neg (by omega),if_neg (by rw [hd];simp),if_neg (by rw [Int.toNat_natCast,hb];simp),if_neg (by omega)]
theorem qy5 {t:Nat} {c:Qs} (h1:t<S.own.length) (hd:decide ((t:Int)=(S.own.length:Int) - 1)≠decide (c.kind=7)):S.callE t c=1:=by
 unfold SvS.callE;rw [if_neg (by omega),if_pos hd]
theorem qh1 {t:Nat} {c:Qs} (h1:t<S.own.length) (hd:decide ((t:Int)=(S.own.length:Int) - 1)=decide (c.kind=7)) (hb:S.busyAt t=true) (hk:1≤c.kind∧c.kind≤7):S.callE t c=10:=by
 unfold SvS.callE;rw [if_neg (by omega),if_neg (by rw [hd];simp),if_pos ⟨by rw [Int.toNat_natCast];exact hb,hk⟩]
theorem qsv {t:Nat} {c:Qs} (h1:t<S.own.length) (hd:decide ((t:Int)=(S.own.length:Int) - 1)=decide (c.kind=7)) (hk:c.kind<1∨7<c.kind):S.callE t c=1:=by
 unfold SvS.callE;rw [if_neg (by omega),if_neg (by rw [hd];simp),if_neg (by omega),if_pos hk]
theorem qvv {th no:Int} {c:Qs} (h:c.kind=7):Jb th no c=.turn firstT (qqq th no)∧qz2 th no c=evT (qqq th no) { ev0 with kind:=1 }:=⟨if_pos h,if_pos h⟩
theorem qvz {th no:Int} {c:Qs} (h:c.kind=6):Jb th no c=.clo qoy (qoe th no)∧qz2 th no c=evS (qoe th no) { ev0 with kind:=1 }:=by
 have h7:¬ c.kind=7:=by omega
 exact ⟨(if_neg h7).trans (if_pos h),(if_neg h7).trans (if_pos h)⟩
theorem qxd {th no:Int} {c:Qs} (h:c.kind≤5):Jb th no c=.call (Yn c.kind) (z6 th no c)∧qz2 th no c=(z6 th no c).ev { ev0 with kind:=1,id:=c.id,dl:=c.dl,per:=c.per }:=by
 have h7:¬ c.kind=7:=by omega
 have h6:¬ c.kind=6:=by omega
 exact ⟨(if_neg h7).trans (if_neg h6),(if_neg h7).trans (if_neg h6)⟩
theorem q2g (hz:isZ L S.z gZ) (hn:S.z.x.tr.length≤1000000) (th no:Int) (hth:0≤th):Qa prog 64 #[Qb L.fb,.int .i64 th,.int .i64 no] [gZ] fun en gs =>
 ∃ kb g gZ',en=.returned (.tuple #[Qb kb,.int .i64 0])∧qb5 L kb 0 (.turn firstT (qqq th no)) g∧isZ L { S.z with x:=qvd (evT (qqq th no) { ev0 with kind:=1 }) S.z.x } gZ'∧gs=[g,gZ']:=by
 obtain ⟨gT,gL,h1,h2,rfl⟩:=hz;intro w hw;have h2':Jj ([gT]++[gL]) w:=hw.re (by simp);refine (qty h1 hn th no hth w h2'.left).mono ?_
 rintro e w' ⟨gs,⟨kb,g,gF',rfl,a,b,rfl⟩,T⟩;exact ⟨_,⟨kb,g,gF'++gL,rfl,a,⟨gF',gL,b,h2,rfl⟩,rfl⟩,((T.frame h2').eq (by simp)).base (by simp)⟩
theorem q2k (hz:isZ L S.z gZ) (hn:S.z.x.tr.length≤1000000) (th no:Int):Qa prog 65 #[Qb L.fb,.int .i64 th,.int .i64 no] [gZ] fun en gs =>
 ∃ kb g gZ',en=.returned (.tuple #[Qb kb,.int .i64 0])∧qb5 L kb 0 (.clo qoy (qoe th no)) g∧isZ L { S.z with x:=qvd (evS (qoe th no) { ev0 with kind:=1 }) S.z.x } gZ'∧gs=[g,gZ']:=by
 obtain ⟨gC,gW,gP,gL,h1,h2,h3,h4,rfl⟩:=X6 hz;intro w hw
 have h2':Jj ([gC++gP]++[gW++gL]) w:=hw.re (by
  classical
  refine List.perm_iff_count.2 fun x=>?_
  simp only [List.flatten_append,List.flatten_cons,List.flatten_nil,List.append_nil,List.count_append]
  omega)
 refine (qwa ⟨gC,gP,h1,h3,rfl⟩ hn th no w h2'.left).mono ?_
 rintro e w' ⟨gs,⟨kb,g,gF',rfl,a,⟨gC',gP',b1,b2,rfl⟩,rfl⟩,T⟩;refine ⟨_,⟨kb,g,_,rfl,a,Y8 (z:={ S.z with x:=qvd (evS (qoe th no) { ev0 with kind:=1 }) S.z.x }) b1 h2 b2 h4,rfl⟩,((T.frame h2').re ?_).basePerm ?_⟩
 ·classical
  refine List.perm_iff_count.2 fun x=>?_
  simp only [List.flatten_append,List.flatten_cons,List.flatten_nil,List.append_nil,List.count_append];omega
 ·classical
  refine List.perm_iff_count.2 fun x=>?_
  simp only [List.flatten_append,List.flatten_cons,List.flatten_nil,List.append_nil,List.count_append];omega
theorem q2c (hz:isZ L S.z gZ) (hn:S.z.x.tr.length≤1000000) (th no:Int) (c:Qs) (h1:1≤c.kind) (h5:c.kind≤5):Qa prog 66 #[Qb L.fb,.int .i64 th,.int .i64 no,.agg c.cells] [gZ] fun en gs =>
 ∃ kb g gZ',en=.returned (.tuple #[Qb kb,.int .i64 0])∧qb5 L kb 0 (.call (Yn c.kind) (z6 th no c)) g∧isZ L { S.z with x:=qvd ((z6 th no c).ev { ev0 with kind:=1,id:=c.id,dl:=c.dl,per:=c.per }) S.z.x } gZ'∧gs=[g,gZ']:=by
 obtain ⟨gC,gW,gP,gL,k1,k2,k3,k4,rfl⟩:=X6 hz;intro w hw;have h2':Jj ([gC]++[gW++(gP++gL)]) w:=hw.re (by simp);refine (qs2 k1 hn th no c h1 h5 w h2'.left).mono ?_
 rintro e w' ⟨gs,⟨kb,g,gC',rfl,a,b,rfl⟩,T⟩;exact ⟨_,⟨kb,g,_,rfl,a,Y8 (z:={ S.z with x:=qvd ((z6 th no c).ev { ev0 with kind:=1,id:=c.id,dl:=c.dl,per:=c.per }) S.z.x }) b k2 k3 k4,rfl⟩,((T.frame h2').eq (by simp)).base (by simp)⟩
theorem qwc (hz:isZ L S.z gZ) (th no:Int) (c:Qs) (h:c.kind<1∨5<c.kind):Qa prog 66 #[Qb L.fb,.int .i64 th,.int .i64 no,.agg c.cells] [gZ] fun en gs =>
 en=.returned (.tuple #[.pointer none,.int .i64 1])∧gs=[gZ]:=by
 obtain ⟨gC,gW,gP,gL,k1,k2,k3,k4,rfl⟩:=X6 hz;intro w hw;have h2':Jj ([gC]++[gW++(gP++gL)]) w:=hw.re (by simp);refine (qit k1 th no c h w h2'.left).mono ?_
 rintro e w' ⟨gs,⟨rfl,rfl⟩,T⟩;exact ⟨_,⟨rfl,rfl⟩,((T.frame h2').eq (by simp)).base (by simp)⟩
theorem qtx (hn:SvN N S) (hN:N<999998) (hr:Yb L sb S vo va vc go ga gc) (hi:qgh L S gJ gW gZ) {t:Nat} (ht:t<S.own.length) (c:Qs)
 (hd:decide ((t:Int)=(S.own.length:Int) - 1)≠decide (c.kind=7)):Qa prog 44 #[Qb sb,.int .i64 t,.int .i64 (S.all.length+1),.agg c.cells] [Q2 sb L.fb vo va vc,go,gJ,gZ] (BgR L sb S vo va vc go t c):=by
 have HE:=Vh (qy5 ht hd);obtain ⟨avo,capo,rfl⟩:=Qr.val hr.o;have HJ:=Vh hi.j;have HZ:=Vh hi.z;have htr:S.z.x.tr.length≤1000000:=by have:=hn.glo.zn.core.tr;omega
 have hol:=hn.ol;have hno:((S.all.length:Int)+1)=((S.all.length:Int)+1):=rfl;obtain ⟨NO,hNO⟩:∃ x,((S.all.length:Int)+1)=x:=⟨_,rfl⟩;have HRO:=Vh hr.o;refine GO fun w HT=>?_
 obtain ⟨sv0,sv1⟩:=Ce2 (HT.out.cell 0 0 rfl) 0 1;simp only [Q2,GE3] at sv0 sv1;have lth:=HT.out.lt 0 0 rfl;simp only [] at lth;obtain ⟨o,ho⟩:∃ o,S.own[t]?=some o:=⟨_,List.getElem?_eq_getElem ht⟩;obtain ⟨rb,cp,hv,hcell⟩:=Jv HRO.out HT.out 1 rfl (by simp) (k:=t) (x:=ifO (o.map fun a=>((S.jobAt a).w,(S.jobAt a).kb))) (by unfold SvS.os;rw [List.getElem?_map,List.getElem?_map,ho];rfl);obtain ⟨rfl,rfl⟩:avo=some ⟨rb,0,none⟩∧capo=cp:=by cases hv;exact ⟨rfl,rfl⟩
 have ltb:rb<w.heap.size:=by
  obtain ⟨b',c',cur,hv',hg',_⟩:=HRO.out.open (by omega);cases hv'
  have:=HT.out.lt 1 0 (p:=(rb,.cells cur 88)) (by show go[0]?=_;rw [hg'];rfl);exact this
 clear hv;obtain ⟨kd,id,dl,per⟩:=c;simp only at hd;have q1:((t:Int) == (S.own.length:Int) - 1)=decide ((t:Int)=(S.own.length:Int) - 1):=rfl;have q2:(kd == 7)=decide (kd=7):=rfl;cases b1:decide ((t:Int)=(S.own.length:Int) - 1) <;> cases b2:decide (kd=7) <;> rw [b1] at q1 hd <;> rw [b2] at q2 hd
 ·exact absurd rfl hd
 ·clear hr hi hn hd b1 b2
  simp only [Qs.cells];rw [hNO];go_enter func44,ntmps44
  go_wp2
  go_ret2
  exact ⟨_,.inr ⟨.nilIface,gJ,gZ,by rw [HE.out];decide,by rw [HE.out];rfl,HJ.out,HZ.out,rfl⟩,HT.out.alloc0 _⟩
 ·clear hr hi hn hd b1 b2
  simp only [Qs.cells];rw [hNO];go_enter func44,ntmps44
  go_wp2
  go_ret2
  exact ⟨_,.inr ⟨.nilIface,gJ,gZ,by rw [HE.out];decide,by rw [HE.out];rfl,HJ.out,HZ.out,rfl⟩,HT.out.alloc0 _⟩
 ·exact absurd rfl hd
end
end
end Go.Proofs.YtikpbibeagbccaaGreat
