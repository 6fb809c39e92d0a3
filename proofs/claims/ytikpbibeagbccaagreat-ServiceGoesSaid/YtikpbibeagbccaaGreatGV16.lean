import Derived.Test.YtikpbibeagbccaaGreatGV15
import Derived.Laws.BitsAllLaws
import Derived.Laws.Bits64b
import Derived.RangeFuncNested
import Derived.RangeFuncBound
import Derived.RangeFuncCalls
import Derived.RangeFuncLeaves
import Derived.Shelf.Abstract
import Derived.Shelf.RegionOpen
import Derived.OwnWalkIn
import Derived.TacticsInMore
import Derived.LoopNIn
import Derived.LoopIn
import Derived.Test.YtikpbibeagbccaaGreatGV13
set_option maxRecDepth 100000
set_option maxHeartbeats 4000000
namespace Go.Proofs.YtikpbibeagbccaaGreat
set_option linter.unusedVariables false
set_option linter.unusedSimpArgs false
open Go.Proofs.Tryz
section
open Go.RowKit Go.Shelf
attribute [local go_sem] Oper.semAt_some
theorem qis (H:GH) (g:List Blk):(H++[g]).getD H.length []=g:=by
 rw [List.getD_eq_getElem?_getD,List.getElem?_append_right (Nat.le_refl _)];simp
theorem TG.setLast {h H:GH} {w w':World} {b:Nat} {T:TypeId} {C:Array Value} (a:TG h w (H++[[cl b T C]]) w') (o:Nat) (v:Value):TG h w (H++[[cl b T (C.setIfInBounds o v)]]) (w'.setCell ⟨b,o,none⟩ v):=by
 have:=a.set H.length 0 (b:=b) (T:=T) (C:=C) (by rw [qis];rfl) o v;rwa [qis,List.set_append_right _ _ (Nat.le_refl _),Nat.sub_self,List.set_cons_zero,List.set_cons_zero] at this
theorem TG.cellLast {h H:GH} {w w':World} {b:Nat} {T:TypeId} {C:Array Value} (a:TG h w (H++[[cl b T C]]) w') (o:Nat):w'.cell? ⟨b,o,none⟩=C[o]?:=Qv a.has.last o
theorem TG.freeLast {h H:GH} {w w':World} {b:Nat} {T:TypeId} {C:Array Value} (a:TG h w (H++[[cl b T C]]) w') (o:Nat):w'.frozen? ⟨b,o,none⟩=false:=Xh a.has.last o
def Zq (t:Nat) (l:Nat):Nat:=t / 64 ^ l % 64
theorem qj (n:Int) (h0:0≤n) (h1:n<18446744073709551616):bits .and .u64 n 63=n % 64:=by
 obtain ⟨k,rfl⟩:=Int.eq_ofNat_of_zero_le h0;rw [show (63:Int)=((63:Nat):Int) from rfl,u64_and_nat k 63 (by omega) (by omega)];rw [show (63:Nat)=2 ^ 6 - 1 from rfl,Nat.and_two_pow_sub_one_eq_mod];omega
def qzz (tb:Nat) (t:Nat):ItS where
 σ:=Nat
 O k O:=O=[[cl tb 30 #[.int .u64 ((t / 64 ^ k:Nat):Int)]]]
 T _ _:=True
 step k x G k':=k<11∧x=#[.int .i64 k,.int .i64 (Zq t k)]∧G=[]∧k'=k+1
 fin k:=k=11
theorem qvk (t:Nat) (k:Nat):t / 64 ^ (k+1)=t / 64 ^ k / 64:=by
 rw [Nat.pow_succ,Nat.div_div_eq_div_mul]
theorem qhu (tb:Nat) (t:Nat) (h1:t<18446744073709551616):qeo prog 294 #[Qb tb] (qzz tb t) (0:Nat):=by
 intro l J Jx hT hY H0 O0 W hJ0 hO hH;have hO':O0=[[cl tb 30 #[.int .u64 ((t / 64 ^ 0:Nat):Int)]]]:=hO;subst hO';have T0:=TG.refl hH;refine (callsIn_wide (n:=9)).1 (callsIn_of_wp func294 rfl trivial ?_ rfl)
 simp only [ntmps294,List.size_toArray,List.length_cons,List.length_nil,Nat.reduceAdd,Nat.reduceSub,Array.replicate_succ,Array.replicate_zero,List.push_toArray,List.append_toArray,List.nil_append,List.cons_append];gi_wp2
 gi_loopw [4] (fun i wr=>∃ (k:Nat) (H:GH),k≤11∧i=.int .i64 k∧J k H∧TG (H0++[[cl tb 30 #[.int .u64 ((t / 64 ^ 0:Nat):Int)]]]) W (H++[[cl tb 30 #[.int .u64 ((t / 64 ^ k:Nat):Int)]]]) wr) (fun i _=>11 - (intOf i).toNat)
 case atStart=>exact ⟨0,H0,by omega,rfl,hJ0,T0⟩
 case round =>
  obtain ⟨k,H,hk,rfl,hj,T⟩:=hrel;have HY:=Vh hY;clear T0 hY;by_cases hlt:k<11
  ·have hy:=HY.out k #[.int .i64 k,.int .i64 (Zq t k)] [] (k+1) H wr hj ⟨hlt,rfl,rfl,rfl⟩ (by rw [List.append_nil];exact T.has.left)
   obtain ⟨fn,tmps,assign,body,hy,hR⟩:=Zl (n:=8) hy;have hdn:=qvk t k;have hdg:Zq t k=t / 64 ^ k % 64:=rfl;have hq1:t / 64 ^ k<18446744073709551616:=Nat.lt_of_le_of_lt (Nat.div_le_self _ _) h1;rw [hdg] at hy;generalize hq:t / 64 ^ k=q at *;have e63:=qj (q:Int) (by omega) (by omega);have hm0:((q:Int) % 64)=((q % 64:Nat):Int):=by omega
   have hm1:(q:Int)<18446744073709551616:=by omega
   rw [← hm0] at hy;have c0:=T.cellLast 0;have f0:=T.freeLast 0;simp only [GE2] at c0;have HTT:=Vh T;have HR:=Vh hR;have HDN:=Vh hdn;have hm2:0≤(q:Int):=by omega
   clear hR T hdn hdg hq hJ0 hH hO hq1 hm0;clear h1 hm1 hm2;gi_wp2
   refine HR.out.mono ?_
   rintro e W' ⟨H',hT',hj'⟩;have T2:=HTT.out.trans ((hT'.app (a':=H) (by simp)).frame HTT.out.has);have c1:=T2.cellLast 0;have f1:=T2.freeLast 0;simp only [GE2] at c1;have HT2:=Vh T2;have HJ:=Vh hj';clear hT' hj' T2 hy c0 f0;rcases HJ.out with ⟨rfl,hj'⟩ | ⟨rfl,hj'⟩
   ·have HJ2:=Vh hj'
    clear hj' HJ;gi_wp2
    have T3:=HT2.out.setLast 0 (.int .u64 (q / 64))
    have e3:(#[Value.int .u64 (q:Int)]:Array Value).setIfInBounds 0 (.int .u64 ((q:Int) / 64))=#[.int .u64 ((t / 64 ^ (k+1):Nat):Int)]:=by
     rw [HDN.out];rfl
    rw [e3] at T3;go_roundw
    case rel=>exact ⟨k+1,H',by omega,by go_num,HJ2.out,T3⟩
    case measure=>simp [intOf];omega
   ·have HJ2:=Vh hj'
    clear hj' HJ;gi_wp2
    refine bodyPost_ret (results_none rfl _ _ _) rfl ?_
    exact ⟨⟨_,rfl⟩,k+1,H',_,HT2.out,.inr HJ2.out⟩
  ·have:k=11:=by omega
   subst this;gi_wp2
   go_end0
   exact ⟨⟨_,rfl⟩,(11:Nat),H,_,T,.inl ⟨rfl,hj,rfl⟩⟩
theorem qoh (t:Int):Qa prog 278 #[.int .u64 t] [] fun e gs=>∃ tb,e=.returned (.func (.func 294) #[] #[Qb tb])∧gs=[[cl tb 30 #[.int .u64 t]]]:=by
 refine GO fun w HT=>?_
 go_enter func278,ntmps278
 go_wp2
 go_ret
 exact ⟨_,⟨_,rfl,rfl⟩,HT.out.alloc rfl _ _⟩
def Jc (t:Nat):Nat:=((List.range 11).find? fun k=>decide (Zq t k≠0)).getD 11
theorem qb7 {t k:Nat} (hk:k<11) (h:Zq t k≠0) (hu:∀ j,j<k→Zq t j=0):Jc t=k:=by
 have:(List.range 11).find? (fun k=>decide (Zq t k≠0))=some k:=by
  rw [List.find?_range_eq_some];refine ⟨by simpa using h,by simpa using hk,fun j hj=>by simpa using hu j hj⟩
 unfold Jc;rw [this];rfl
theorem qph {t:Nat} (hu:∀ j,j<11→Zq t j=0):Jc t=11:=by
 have:(List.range 11).find? (fun k=>decide (Zq t k≠0))=none:=by
  rw [List.find?_range_eq_none];intro j hj;simpa using hu j hj
 unfold Jc;rw [this];rfl
theorem qi4 (t:Nat) (h1:t<18446744073709551616):Qa prog 268 #[.int .u64 t] [] fun e gs=>e=.returned (.int .i64 (Jc t))∧gs=[]:=by
 refine GO fun w HT=>?_
 have HI:=Vh (fun tb=>qhu tb t h1);have HA:=Vh (qoh (t:Int));clear h1;refine X3 func268 rfl ?_
 simp only [ntmps268,List.size_toArray,List.length_cons,List.length_nil,Nat.reduceAdd,Nat.reduceSub,Array.replicate_succ,Array.replicate_zero,List.push_toArray,List.append_toArray,List.nil_append,List.cons_append];go_wp2_with fail
 refine (Qa.use HA.out (HT.out.alloc rfl _ _) [] rfl rfl).mono ?_
 rintro e w1 ⟨gs,⟨tb,rfl,rfl⟩,Ta⟩;simp only [qc8,List.nil_append,List.cons_append] at Ta;go_wp2
 obtain ⟨rb,hrb⟩:∃ rb,w.heap.size=rb:=⟨_,rfl⟩;rw [hrb] at Ta ⊢
 refine qn (H0:=[[cl rb 3 #[.int .i64 0]]]) (O0:=[[cl tb 30 #[.int .u64 t]]]) rfl (enters_of func294 (by kernel_rfl) rfl) (HI.out tb) ?hps Ta ?hO (fun (k:Nat) H=>H=[[cl rb 3 #[.int .i64 0]]]∧∀ j,j<k→Zq t j=0)
  (fun (k:Nat) cd H=>cd=.ret∧H=[[cl rb 3 #[.int .i64 (Jc t)]]]) ?h0 ?hT ?hbody ?hdone ?hstop
 case hps=>rintro s x G s' ⟨_,rfl,_⟩;rfl
 case hO=>show _=_;simp
 case h0=>exact ⟨rfl,fun j hj=>absurd hj (Nat.not_lt_zero _)⟩
 case hT=>intro s H K _;trivial
 case hbody =>
  rintro k x G k' H W l ⟨rfl,hu⟩ ⟨hk,rfl,rfl,rfl⟩ hH;have HU:=Vh hu;have HH:=Vh hH;have HK:=Vh hk;clear hu hH hk;refine Xz (n:=9) ?_
  gi_wp2
  refine ⟨_,TG.refl HH.out,fun Wb hb=>?_⟩
  have HT:=Vh (TG.refl hb);have c1:=HT.out.cell 0 0 rfl 0;have f1:=HT.out.free 0 0 rfl 0;clear hb;by_cases hd:Zq t k=0
  ·have hb:(((Zq t k:Nat):Int) != 0)=false:=by simp [hd]
   have HD:=Vh hd;clear hd;refine Xz (n:=9) ?_
   gi_wp2
   refine ⟨_,⟨rfl,fun j hj=>?_⟩,HT.out⟩
   by_cases hjk:j=k
   ·subst hjk;exact HD.out
   ·exact HU.out j (by omega)
  ·have hb:(((Zq t k:Nat):Int) != 0)=true:=by simp [hd]
   have HD:=Vh (qb7 HK.out hd HU.out);clear hd;refine Xz (n:=9) ?_
   gi_wp2
   refine ⟨_,⟨rfl,rfl⟩,?_⟩
   rw [HD.out];exact HT.out.set 0 0 rfl 0 _
 case hdone =>
  intro k H O W D hf ⟨hH,hu⟩ hO hT;have hf':k=(11:Nat):=hf;subst hf' hH;have HX:=Vh (And.intro (qph hu) hT);have HT:=Vh hT;have c1:=HT.out.cell 0 0 rfl 0;have f1:=HT.out.free 0 0 rfl 0;clear hu hT hO hf;go_wp2
  obtain ⟨hz,hT⟩:=HX.out;have T2:TG [] w ([[cl rb 3 #[.int .i64 11]]]++O++[[(D,.deferred (some []))]]) (W.setCell ⟨rb,0,none⟩ (.int .i64 11)):=hT.set 0 0 rfl 0 (.int .i64 11);have T3:=T2.turnLast (.deferred none);have c2:=T3.cell 0 0 rfl 0;refine Je (v:=.int .i64 11) T2.has.last (by simp [results,results268,go_sem,c2]) ⟨[],⟨by rw [hz];rfl,rfl⟩,T3.pick [] rfl⟩
 case hstop =>
  rintro k cd H O W D ⟨rfl,rfl⟩ hT;have T3:=hT.turnLast (.deferred none);have c2:=T3.cell 0 0 rfl 0;refine wp_ret (Je (v:=.int .i64 (Jc t)) hT.has.last (by simp [results,results268,go_sem,c2]) ⟨[],⟨rfl,rfl⟩,T3.pick [] rfl⟩)
end
section
open Go.RowKit Go.Shelf
attribute [local go_sem] Oper.semAt_some
section
variable {h H:GH} {w w':World} {e:TypeId} {size n:Nat} {v:Value} {xs:List Value} {g:List Blk}
theorem Z6 {F:Fence} {nn:Nat} {P:Program} {ops:Array Oper} {rest:List Oper} {o:Oper} {a:Act} {Q:Exit→Act→World→Prop} (hgd:o.guard=none) (s x:Operand) (t:TypeId)
 (ho:o.op=.call { callee:=.builtin .append,args:=#[s,x],argTypes:=#[t,t] })
 (e:TypeId) (size bytes:Nat) (z:Value) (ht:P.underlying t=some (.slice e)) (hinfo:(P.info? e).map (fun i=>(i.zero,i.size,i.bytes))=some (some z,size,bytes)) (hzs:z.cells.size=size) (hsz:0<size)
 (T:TG h w H w') (k:Nat) (hk:decide (k<H.length)=true) (hg:H.getD k []=g) (r:Qu e size v n xs g) (hs:a.eval s=v)
 (ad:Addr) (m c:Nat) (news:List Value) (hx:a.eval x=.slice (some ad) m c) (hl:news.length=m*size) (hnews:∀ j u,news[j]?=some u→w'.cell? (ad.add j)=some u) (h1:∀ u∈news,u.oneCell'=true)
 (h63:n+m≤maxLen) (hbytes:(n+m)*bytes≤140737488355328)
 (hK:∀ v' w'' g',Qu e size v' (n+m) (xs++news) g'→TG h w (H.set k g') w''→wpListIn F nn P ops Q rest (a.put o.dst v') w''):wpListIn F nn P ops Q (o::rest) a w':=by
 obtain ⟨i,hi,hz,hsize,hby⟩:=info_parts hinfo;refine wpListIn_plain hgd fun K hK'=>?_
 obtain ⟨v',w'',g',hr,h2,h3⟩:=qe (P:=P) t o.type e i z size bytes ht hi hz hsize hby hzs hsz T k (of_decide_eq_true hk) hg r ad m c news hl hnews h1 h63 hbytes;unfold Oper.wpIn;refine ⟨?_,?_⟩
 ·simp [Oper.about,ho,resolve,Target.leads,Sem.run_pure]
 ·rw [Oper.semAt_plain F _ _ (by rw [ho];intro c hc';cases hc')]
  simp [execOp,ho,resolve,invoke,builtin,hs,hx,hr,Result.andThen]
  exact hK' _ _ (hK v' w'' g' h2 h3)
end
def qgm (xs:List (Array Value)) (O:GH):ItS where
 σ:=Nat
 O _ O':=O'=O
 T _ _:=True
 step k x G k':=(∃ c,xs[k]?=some c∧x=#[.agg c])∧G=[]∧k'=k+1
 fin k:=k=xs.length
def qbi (xs:List (Array Value)):List Value:=xs.flatMap Array.toList
theorem qfx (xs:List (Array Value)) {k:Nat} {c:Array Value} (h:xs[k]?=some c):qbi (xs.take (k+1))=qbi (xs.take k)++c.toList:=by
 obtain ⟨h1,h2⟩:=List.getElem?_eq_some_iff.1 h;unfold qbi;rw [List.take_succ_eq_append_getElem h1,h2,List.flatMap_append];simp
theorem Tryz.infoTask:(prog.info? 173).map (fun i=>(i.zero,i.size,i.bytes))=some (some (.agg #[.int .u64 0,.int .i64 0,.int .u64 0,.int .u64 0,.int .u64 0]),5,40):=by kernel_rfl
theorem qib {gf:Nat} {lb:Array Value} {xs:List (Array Value)} {O:GH} (eg:∀ args w,(callFunc gf args).run prog w=.ok (.enter gf args) w) (hit:qeo prog gf lb (qgm xs O) (0:Nat)) (hx:∀ c∈xs,∃ z0 z1 z2 z3 z4,c=#[.int .u64 z0,.int .i64 z1,.int .u64 z2,.int .u64 z3,.int .u64 z4]) (hn:xs.length≤1000000) :
 Qa prog 274 #[.slice none 0 0,.func (.func gf) #[] lb] O fun e gs=>∃ v g,e=.returned v∧Qu 173 5 v xs.length (qbi xs) g∧gs=O++[g]:=by
 refine GO fun w HT=>?_
 have HI:=Vh hit;have HXX:=Vh hx;clear hit hx;refine X3 func274 rfl ?_
 simp only [ntmps274,List.size_toArray,List.length_cons,List.length_nil,Nat.reduceAdd,Nat.reduceSub,Array.replicate_succ,Array.replicate_zero,List.push_toArray,List.append_toArray,List.nil_append,List.cons_append];go_wp2
 obtain ⟨sb,hsb⟩:∃ sb,w.heap.size=sb:=⟨_,rfl⟩
 have T0:TG O w ([[cl sb 326 #[.slice none 0 0]],[]]++O) (w.alloc (.cells #[.slice none 0 0] 326)) :=
  (HT.out.alloc (k:=sb) hsb.symm 326 #[.slice none 0 0]).re (by simp)
 rw [hsb];clear hsb HT;refine qn (H0:=[[cl sb 326 #[.slice none 0 0]],[]]) (O0:=O) rfl eg HI.out ?hps T0 ?hO (fun (k:Nat) H=>∃ v g,H=[[cl sb 326 #[v]],g]∧Qu 173 5 v k (qbi (xs.take k)) g) (fun _ _ _=>False) ?h0 ?hT ?hbody ?hdone ?hstop
 case hps=>rintro s x G s' ⟨⟨c,_,rfl⟩,_⟩;rfl
 case hO=>exact rfl
 case h0=>exact ⟨_,_,rfl,Zi _ _⟩
 case hT=>intro s H K _;trivial
 case hbody =>
  rintro (k:Nat) x G (k':Nat) H W l ⟨v,g,rfl,hr⟩ ⟨⟨c,hc,rfl⟩,rfl,rfl⟩ hH;obtain ⟨z0,z1,z2,z3,z4,rfl⟩:=HXX.out c (List.mem_of_getElem? hc);have hk:=(List.getElem?_eq_some_iff.1 hc).1;have HH:=Vh hH;have HR:=Vh hr;have HC:=Vh (qfx xs hc);obtain ⟨av,cap,hv⟩:=Qu.val hr;subst hv;clear hH hr hc;refine Xz (n:=9) ?_
  gi_wp2
  refine ⟨_,((TG.refl HH.out).alloc (k:=W.heap.size) rfl 173 #[.int .u64 z0,.int .i64 z1,.int .u64 z2,.int .u64 z3,.int .u64 z4]).eq (H':=[[cl sb 326 #[.slice av k cap]],g,[cl W.heap.size 173 #[.int .u64 z0,.int .i64 z1,.int .u64 z2,.int .u64 z3,.int .u64 z4]]]) (by simp),fun Wb hb=>?_⟩
  generalize W.heap.size=vb at hb ⊢;have HT:=Vh (TG.refl hb);have c0:=HT.out.cell 0 0 rfl 0;have f0:=HT.out.free 0 0 rfl 0;obtain ⟨b0,b1,b2,b3,b4⟩:=Ce5 (HT.out.cell 2 0 rfl) 0 1 2 3 4;simp only [GE4] at b0 b1 b2 b3 b4;simp only [GE2] at c0;clear hb HH;refine Xz (n:=9) ?_
  gi_wp2_with (
   gi_at_builtin
   with_reducible refine Z6 rfl (.tmp 8) (.tmp 10) 326 rfl 173 5 40 _ underlying326 Tryz.infoTask rfl (by decide) (HT.out.alloc0 _) 1 rfl rfl HR.out rfl ⟨Wb.heap.size,0,none⟩ 1 1 [.int .u64 z0,.int .i64 z1,.int .u64 z2,.int .u64 z3,.int .u64 z4] rfl rfl (X8 _ _ _) (by simp [Value.oneCell']) (by unfold maxLen;omega) (by omega) ?_
   intro v1 w2 g1 r1 T1;simp only [List.set_cons_zero,List.set_cons_succ] at T1;have c1:=T1.cell 0 0 rfl 0;have f1:=T1.free 0 0 rfl 0;obtain ⟨a1,cap1,hv1⟩:=Qu.val r1;subst hv1;have T1:=Vh T1;have r1:=Vh r1
   simp only [GE2] at c1)
  exact ⟨[[cl sb 326 #[.slice a1 (k+1) cap1]],g1],⟨_,_,rfl,by rw [HC.out];exact r1.out⟩,((T1.out.set 0 0 rfl 0 (.slice a1 (k+1) cap1)).pick [0,1] rfl)⟩
 case hdone =>
  rintro (k:Nat) H O' W D hf ⟨v,g,rfl,hr⟩ hO hT;have hf':k=xs.length:=hf;subst hf';have hO':O'=O:=hO;subst hO';rw [List.take_length] at hr;have c0:=hT.cell 0 0 rfl 0;simp only [GE2] at c0;have HX:=Vh (And.intro hr hT);obtain ⟨av,cap,hv⟩:=Qu.val hr;subst hv;clear hf hO hr hT;go_wp2
  obtain ⟨hr,hT⟩:=HX.out;have T3:=hT.turnLast (.deferred none)
  have T4:TG O' w (O'++[g]++[[cl sb 326 #[.slice av xs.length cap],(D,.deferred none)]]) (W.putObj D (.deferred none)):=T3.re (by
   classical
   simp only [List.flatten_append,List.flatten_cons,List.flatten_nil,List.append_nil,List.cons_append,List.nil_append];refine List.perm_iff_count.2 fun a=>?_
   simp only [List.count_append,List.count_cons,List.count_nil]
   omega)
  exact Je (v:=.slice av xs.length cap) hT.has.last (by simp [results,results274,go_sem]) ⟨_,⟨_,g,rfl,hr,rfl⟩,T4.dropLast⟩
 case hstop=>intro s cd H O W D h;exact h.elim
theorem qpt {gf:Nat} {lb:Array Value} {xs:List (Array Value)} {O:GH} (eg:∀ args w,(callFunc gf args).run prog w=.ok (.enter gf args) w) (hit:qeo prog gf lb (qgm xs O) (0:Nat)) (hx:∀ c∈xs,∃ z0 z1 z2 z3 z4,c=#[.int .u64 z0,.int .i64 z1,.int .u64 z2,.int .u64 z3,.int .u64 z4]) (hn:xs.length≤1000000) :
 Qa prog 256 #[.func (.func gf) #[] lb] O fun e gs=>∃ v g,e=.returned v∧Qu 173 5 v xs.length (qbi xs) g∧gs=O++[g]:=by
 have ha:=qib eg hit hx hn;refine GO fun w HT=>?_
 have HA:=Vh ha;clear ha hit hx hn;go_enter func256,ntmps256
 go_wp2_with fail
 refine (HA.out _ HT.out.has).mono ?_
 rintro e w1 ⟨gs,⟨v,g,rfl,hr,rfl⟩,Ta⟩;have HR:=Vh hr;have HTA:=Vh (HT.out.trans Ta);obtain ⟨av,cap,hv⟩:=Qu.val hr;subst hv;clear hr Ta;go_wp2
 go_ret
 exact ⟨_,⟨_,g,rfl,HR.out,rfl⟩,HTA.out⟩
theorem qju {gf:Nat} {lb:Array Value} {xs:List (Array Value)} {O:GH} (eg:∀ args w,(callFunc gf args).run prog w=.ok (.enter gf args) w) (hit:qeo prog gf lb (qgm xs O) (0:Nat)) (hx:∀ c∈xs,∃ z0 z1 z2 z3,c=#[.int .u64 z0,.int .u64 z1,.int .u64 z2,.int .u64 z3]) (hn:xs.length≤1000000) :
 Qa prog 101 #[.slice none 0 0,.func (.func gf) #[] lb] O fun e gs=>∃ v g,e=.returned v∧Qu 82 4 v xs.length (qbi xs) g∧gs=O++[g]:=by
 refine GO fun w HT=>?_
 have HI:=Vh hit;have HXX:=Vh hx;clear hit hx;refine X3 func101 rfl ?_
 simp only [ntmps101,List.size_toArray,List.length_cons,List.length_nil,Nat.reduceAdd,Nat.reduceSub,Array.replicate_succ,Array.replicate_zero,List.push_toArray,List.append_toArray,List.nil_append,List.cons_append];go_wp2
 obtain ⟨sb,hsb⟩:∃ sb,w.heap.size=sb:=⟨_,rfl⟩
 have T0:TG O w ([[cl sb 70 #[.slice none 0 0]],[]]++O) (w.alloc (.cells #[.slice none 0 0] 70)) :=
  (HT.out.alloc (k:=sb) hsb.symm 70 #[.slice none 0 0]).re (by simp)
 rw [hsb];clear hsb HT;refine qn (H0:=[[cl sb 70 #[.slice none 0 0]],[]]) (O0:=O) rfl eg HI.out ?hps T0 ?hO (fun (k:Nat) H=>∃ v g,H=[[cl sb 70 #[v]],g]∧Qu 82 4 v k (qbi (xs.take k)) g) (fun _ _ _=>False) ?h0 ?hT ?hbody ?hdone ?hstop
 case hps=>rintro s x G s' ⟨⟨c,_,rfl⟩,_⟩;rfl
 case hO=>exact rfl
 case h0=>exact ⟨_,_,rfl,Zi _ _⟩
 case hT=>intro s H K _;trivial
 case hbody =>
  rintro (k:Nat) x G (k':Nat) H W l ⟨v,g,rfl,hr⟩ ⟨⟨c,hc,rfl⟩,rfl,rfl⟩ hH;obtain ⟨z0,z1,z2,z3,rfl⟩:=HXX.out c (List.mem_of_getElem? hc);have hk:=(List.getElem?_eq_some_iff.1 hc).1;have HH:=Vh hH;have HR:=Vh hr;have HC:=Vh (qfx xs hc);obtain ⟨av,cap,hv⟩:=Qu.val hr;subst hv;clear hH hr hc;refine Xz (n:=9) ?_
  gi_wp2
  refine ⟨_,((TG.refl HH.out).alloc (k:=W.heap.size) rfl 82 #[.int .u64 z0,.int .u64 z1,.int .u64 z2,.int .u64 z3]).eq (H':=[[cl sb 70 #[.slice av k cap]],g,[cl W.heap.size 82 #[.int .u64 z0,.int .u64 z1,.int .u64 z2,.int .u64 z3]]]) (by simp),fun Wb hb=>?_⟩
  generalize W.heap.size=vb at hb ⊢;have HT:=Vh (TG.refl hb);have c0:=HT.out.cell 0 0 rfl 0;have f0:=HT.out.free 0 0 rfl 0;obtain ⟨b0,b1,b2,b3⟩:=Ce4 (HT.out.cell 2 0 rfl) 0 1 2 3;simp only [GE4] at b0 b1 b2 b3;simp only [GE2] at c0;clear hb HH;refine Xz (n:=9) ?_
  gi_wp2_with (
   gi_at_builtin
   with_reducible refine Z6 rfl (.tmp 8) (.tmp 10) 70 rfl 82 4 32 _ underlying70 qb2 rfl (by decide) (HT.out.alloc0 _) 1 rfl rfl HR.out rfl ⟨Wb.heap.size,0,none⟩ 1 1 [.int .u64 z0,.int .u64 z1,.int .u64 z2,.int .u64 z3] rfl rfl (X8 _ _ _) (by simp [Value.oneCell']) (by unfold maxLen;omega) (by omega) ?_
   intro v1 w2 g1 r1 T1;simp only [List.set_cons_zero,List.set_cons_succ] at T1;have c1:=T1.cell 0 0 rfl 0;have f1:=T1.free 0 0 rfl 0;obtain ⟨a1,cap1,hv1⟩:=Qu.val r1;subst hv1;have T1:=Vh T1;have r1:=Vh r1
   simp only [GE2] at c1)
  exact ⟨[[cl sb 70 #[.slice a1 (k+1) cap1]],g1],⟨_,_,rfl,by rw [HC.out];exact r1.out⟩,((T1.out.set 0 0 rfl 0 (.slice a1 (k+1) cap1)).pick [0,1] rfl)⟩
 case hdone =>
  rintro (k:Nat) H O' W D hf ⟨v,g,rfl,hr⟩ hO hT;have hf':k=xs.length:=hf;subst hf';have hO':O'=O:=hO;subst hO';rw [List.take_length] at hr;have c0:=hT.cell 0 0 rfl 0;simp only [GE2] at c0;have HX:=Vh (And.intro hr hT);obtain ⟨av,cap,hv⟩:=Qu.val hr;subst hv;clear hf hO hr hT;go_wp2
  obtain ⟨hr,hT⟩:=HX.out;have T3:=hT.turnLast (.deferred none)
  have T4:TG O' w (O'++[g]++[[cl sb 70 #[.slice av xs.length cap],(D,.deferred none)]]) (W.putObj D (.deferred none)):=T3.re (by
   classical
   simp only [List.flatten_append,List.flatten_cons,List.flatten_nil,List.append_nil,List.cons_append,List.nil_append];refine List.perm_iff_count.2 fun a=>?_
   simp only [List.count_append,List.count_cons,List.count_nil]
   omega)
  exact Je (v:=.slice av xs.length cap) hT.has.last (by simp [results,results101,go_sem]) ⟨_,⟨_,g,rfl,hr,rfl⟩,T4.dropLast⟩
 case hstop=>intro s cd H O W D h;exact h.elim
theorem qpf {gf:Nat} {lb:Array Value} {xs:List (Array Value)} {O:GH} (eg:∀ args w,(callFunc gf args).run prog w=.ok (.enter gf args) w) (hit:qeo prog gf lb (qgm xs O) (0:Nat)) (hx:∀ c∈xs,∃ z0 z1 z2 z3,c=#[.int .u64 z0,.int .u64 z1,.int .u64 z2,.int .u64 z3]) (hn:xs.length≤1000000) :
 Qa prog 77 #[.func (.func gf) #[] lb] O fun e gs=>∃ v g,e=.returned v∧Qu 82 4 v xs.length (qbi xs) g∧gs=O++[g]:=by
 have ha:=qju eg hit hx hn;refine GO fun w HT=>?_
 have HA:=Vh ha;clear ha hit hx hn;go_enter func77,ntmps77
 go_wp2_with fail
 refine (HA.out _ HT.out.has).mono ?_
 rintro e w1 ⟨gs,⟨v,g,rfl,hr,rfl⟩,Ta⟩;have HR:=Vh hr;have HTA:=Vh (HT.out.trans Ta);obtain ⟨av,cap,hv⟩:=Qu.val hr;subst hv;clear hr Ta;go_wp2
 go_ret
 exact ⟨_,⟨_,g,rfl,HR.out,rfl⟩,HTA.out⟩
end
end Go.Proofs.YtikpbibeagbccaaGreat
