import Derived.Test.YtcneeepdclgdcaaGreatPF16
import Derived.Laws.BitsAllLaws
import Derived.Laws.Bits64b
import Derived.RangeFuncNested
import Derived.RangeFuncBound
import Derived.RangeFuncCalls
import Derived.RangeFuncLeaves
import Derived.Shelf.Abstract
import Derived.Shelf.RegionOpen
import Derived.OwnWalkIn
import Derived.TacticsInMore
import Derived.LoopNIn
import Derived.LoopIn
import Derived.Test.YtcneeepdclgdcaaGreatPF14
set_option maxRecDepth 100000
set_option maxHeartbeats 4000000
namespace Go.Proofs.YtcneeepdclgdcaaGreat
open Go.Value renaming int->WK,func->WW,oneCell'->XQ
open Go.IntKind renaming u64->WL,i64->WM
open Go.Ending renaming returned->WN
open _root_.List renaming cons_append->WO,nil_append->WQ,append_toArray->WT,getElem?_eq_some_iff->WU,set_cons_zero->WV,size_toArray->WX,push_toArray->WY,length_cons->WZ,length_nil->XA,append_nil->XC,mem_of_getElem?->XD,flatten_append->XE,perm_iff_count->XF,set_cons_succ->XH,flatten_cons->XI,count_append->XJ,take_length->XL,flatten_nil->XM,range->XO,count_cons->XP,count_nil->XR
open _root_.Array renaming replicate_succ->WR,replicate_zero->WS
open Go.Fn renaming func->XB
open Go renaming TypeId->XG,callFunc->XK
open Go.Oper renaming semAt_some->XN
open _root_.And renaming intro->XT
open _root_.Nat renaming le_refl->XU
set_option linter.all false
open Go.Proofs.Tryz
section
open Go.RowKit Go.Shelf
attribute [local go_sem] XN
theorem SQ (H:GH) (g:List ak):(H++[g]).getD H.length []=g:=by
 rw [List.getD_eq_getElem?_getD,List.getElem?_append_right (XU _)];simp
theorem TG.setLast {h H:GH} {w w':World} {b:Nat} {T:XG} {C:Array Value} (a:TG h w (H++[[cl b T C]]) w') (o:Nat) (v:Value):TG h w (H++[[cl b T (C.setIfInBounds o v)]]) (w'.setCell ⟨b,o,none⟩ v):=by
 have:=a.set H.length 0 (b:=b) (T:=T) (C:=C) (by rw [SQ];rfl) o v;rwa [SQ,List.set_append_right _ _ (XU _),Nat.sub_self,WV,WV] at this
theorem TG.iK {h H:GH} {w w':World} {b:Nat} {T:XG} {C:Array Value} (a:TG h w (H++[[cl b T C]]) w') (o:Nat):w'.cell? ⟨b,o,none⟩=C[o]?:=Q5 a.has.last o
theorem TG.iM {h H:GH} {w w':World} {b:Nat} {T:XG} {C:Array Value} (a:TG h w (H++[[cl b T C]]) w') (o:Nat):w'.frozen? ⟨b,o,none⟩=false:=Xw a.has.last o
def J3 (t:Nat) (l:Nat):Nat:=t / 64 ^ l % 64
theorem Eu (n:Int) (h0:0<=n) (h1:n<18446744073709551616):bits .and WL n 63=n % 64:=by
 obtain ⟨k,rfl⟩:=Int.eq_ofNat_of_zero_le h0;rw [show (63:Int)=((63:Nat):Int) from rfl,u64_and_nat k 63 (by omega) (by omega)];rw [show (63:Nat)=2 ^ 6 - 1 from rfl,Nat.and_two_pow_sub_one_eq_mod];omega
def q54 (tb:Nat) (t:Nat):A8 where
 σ:=Nat
 O k O:=O=[[cl tb 36 #[WK WL ((t / 64 ^ k:Nat):Int)]]]
 T _ _:=True
 step k x G k':=k<11/\x=#[WK WM k,WK WM (J3 t k)]/\G=[]/\k'=k+1
 fin k:=k=11
theorem q1q (t:Nat) (k:Nat):t / 64 ^ (k+1)=t / 64 ^ k / 64:=by
 rw [Nat.pow_succ,Nat.div_div_eq_div_mul]
theorem qlx (tb:Nat) (t:Nat) (h1:t<18446744073709551616):uy prog 332 #[Qb tb] (q54 tb t) (0:Nat):=by
 intro l J Jx hT hY H0 O0 W hJ0 hO hH;have l8:O0=[[cl tb 36 #[WK WL ((t / 64 ^ 0:Nat):Int)]]]:=hO;subst l8;have T0:=TG.refl hH;refine (callsIn_wide (n:=9)).1 (callsIn_of_wp func332 rfl trivial ?_ rfl)
 simp only [ntmps332,WX,WZ,XA,Nat.reduceAdd,Nat.reduceSub,WR,WS,WY,WT,WQ,WO];gi_wp2
 gi_loopw [4] (fun i wr=>∃ (k:Nat) (H:GH),k<=11/\i=WK WM k/\J k H/\TG (H0++[[cl tb 36 #[WK WL ((t / 64 ^ 0:Nat):Int)]]]) W (H++[[cl tb 36 #[WK WL ((t / 64 ^ k:Nat):Int)]]]) wr) (fun i _=>11 - (intOf i).toNat)
 case atStart=>exact ⟨0,H0,by omega,rfl,hJ0,T0⟩
 case round =>
  obtain ⟨k,H,hk,rfl,hj,T⟩:=hrel;have HY:=Vh hY;clear T0 hY;by_cases hlt:k<11
  ·have hy:=HY.out k #[WK WM k,WK WM (J3 t k)] [] (k+1) H wr hj ⟨hlt,rfl,rfl,rfl⟩ (by rw [XC];exact T.has.left)
   obtain ⟨fn,tmps,assign,body,hy,hR⟩:=Zw (n:=8) hy;have hdn:=q1q t k;have hdg:J3 t k=t / 64 ^ k % 64:=rfl;have hq1:t / 64 ^ k<18446744073709551616:=Nat.lt_of_le_of_lt (Nat.div_le_self _ _) h1;rw [hdg] at hy;generalize hq:t / 64 ^ k=q at *;have e63:=Eu (q:Int) (by omega) (by omega);have hm0:((q:Int) % 64)=((q % 64:Nat):Int):=by omega
   have hm1:(q:Int)<18446744073709551616:=by omega
   rw [<- hm0] at hy;have c0:=T.iK 0;have f0:=T.iM 0;simp only [bR] at c0;have uY:=Vh T;have HR:=Vh hR;have Cn:=Vh hdn;have hm2:0<=(q:Int):=by omega
   clear hR T hdn hdg hq hJ0 hH hO hq1 hm0;clear h1 hm1 hm2;gi_wp2
   refine HR.mono ?_
   rintro e W' ⟨H',hT',hj'⟩;have T2:=uY.trans ((hT'.app (a':=H) (by simp)).frame uY.has);have c1:=T2.iK 0;have f1:=T2.iM 0;simp only [bR] at c1;have HT2:=Vh T2;have HJ:=Vh hj';clear hT' hj' T2 hy c0 f0;rcases HJ.out with ⟨rfl,hj'⟩ | ⟨rfl,hj'⟩
   ·have HJ2:=Vh hj'
    clear hj' HJ;gi_wp2
    have T3:=HT2.setLast 0 (WK WL (q / 64))
    have e3:(#[Value.int WL (q:Int)]:Array Value).setIfInBounds 0 (WK WL ((q:Int) / 64))=#[WK WL ((t / 64 ^ (k+1):Nat):Int)]:=by
     rw [Cn.out];rfl
    rw [e3] at T3;go_roundw
    case rel=>exact ⟨k+1,H',by omega,by go_num,HJ2,T3⟩
    case measure=>simp [intOf];omega
   ·have HJ2:=Vh hj'
    clear hj' HJ;gi_wp2
    refine bodyPost_ret (results_none rfl _ _ _) rfl ?_
    exact ⟨⟨_,rfl⟩,k+1,H',_,HT2,.inr HJ2⟩
  ·have:k=11:=by omega
   subst this;gi_wp2
   go_end0
   exact ⟨⟨_,rfl⟩,(11:Nat),H,_,T,.inl ⟨rfl,hj,rfl⟩⟩
theorem qvd (t:Int):Qa prog 317 #[WK WL t] [] fun e gs=>∃ tb,e=WN (WW (XB 332) #[] #[Qb tb])/\gs=[[cl tb 36 #[WK WL t]]]:=by
 refine GO fun w HT=>?_
 go_enter func317,ntmps317
 go_wp2
 go_ret
 exact ⟨_,⟨_,rfl,rfl⟩,HT.alloc rfl _ _⟩
def J6 (t:Nat):Nat:=((XO 11).find? fun k=>decide (J3 t k≠0)).getD 11
theorem E7 {t k:Nat} (hk:k<11) (h:J3 t k≠0) (hu:∀ j,j<k->J3 t j=0):J6 t=k:=by
 have:(XO 11).find? (fun k=>decide (J3 t k≠0))=some k:=by
  rw [List.find?_range_eq_some];refine ⟨by simpa using h,by simpa using hk,fun j hj=>by simpa using hu j hj⟩
 unfold J6;rw [this];rfl
theorem qvk {t:Nat} (hu:∀ j,j<11->J3 t j=0):J6 t=11:=by
 have:(XO 11).find? (fun k=>decide (J3 t k≠0))=none:=by
  rw [List.find?_range_eq_none];intro j hj;simpa using hu j hj
 unfold J6;rw [this];rfl
theorem qod (t:Nat) (h1:t<18446744073709551616):Qa prog 307 #[WK WL t] [] fun e gs=>e=WN (WK WM (J6 t))/\gs=[]:=by
 refine GO fun w HT=>?_
 have HI:=Vh (fun tb=>qlx tb t h1);have HA:=Vh (qvd (t:Int));clear h1;refine Xf func307 rfl ?_
 simp only [ntmps307,WX,WZ,XA,Nat.reduceAdd,Nat.reduceSub,WR,WS,WY,WT,WQ,WO];go_wp2_with fail
 refine (Qa.use HA (HT.alloc rfl _ _) [] rfl rfl).mono ?_
 rintro e w1 ⟨gs,⟨tb,rfl,rfl⟩,Ta⟩;simp only [je,WQ,WO] at Ta;go_wp2
 obtain ⟨rb,hrb⟩:∃ rb,w.heap.size=rb:=⟨_,rfl⟩;rw [hrb] at Ta |-
 refine Bt (H0:=[[cl rb 3 #[WK WM 0]]]) (O0:=[[cl tb 36 #[WK WL t]]]) rfl (enters_of func332 (by kernel_rfl) rfl) (HI tb) ?hps Ta ?hO (fun (k:Nat) H=>H=[[cl rb 3 #[WK WM 0]]]/\∀ j,j<k->J3 t j=0)
  (fun (k:Nat) cd H=>cd=.ret/\H=[[cl rb 3 #[WK WM (J6 t)]]]) ?h0 ?hT ?hbody ?hdone ?hstop
 case hps=>rintro s x G s' ⟨_,rfl,_⟩;rfl
 case hO=>show _=_;simp
 case h0=>exact ⟨rfl,fun j hj=>absurd hj (Nat.not_lt_zero _)⟩
 case hT=>intro s H K _;trivial
 case hbody =>
  rintro k x G k' H W l ⟨rfl,hu⟩ ⟨hk,rfl,rfl,rfl⟩ hH;have HU:=Vh hu;have HH:=Vh hH;have HK:=Vh hk;clear hu hH hk;refine Xq (n:=9) ?_
  gi_wp2
  refine ⟨_,TG.refl HH,fun Wb hb=>?_⟩
  have HT:=Vh (TG.refl hb);have c1:=HT.c 0 0 0;have f1:=HT.f 0 0 0;clear hb;by_cases hd:J3 t k=0
  ·have hb:(((J3 t k:Nat):Int) != 0)=false:=by simp [hd]
   have HD:=Vh hd;clear hd;refine Xq (n:=9) ?_
   gi_wp2
   refine ⟨_,⟨rfl,fun j hj=>?_⟩,HT⟩
   by_cases hjk:j=k
   ·subst hjk;exact HD
   ·exact HU j (by omega)
  ·have hb:(((J3 t k:Nat):Int) != 0)=true:=by simp [hd]
   have HD:=Vh (E7 HK hd HU);clear hd;refine Xq (n:=9) ?_
   gi_wp2
   refine ⟨_,⟨rfl,rfl⟩,?_⟩
   rw [HD.out];exact HT.set 0 0 rfl 0 _
 case hdone =>
  intro k H O W D hf ⟨hH,hu⟩ hO hT;have hf':k=(11:Nat):=hf;subst hf' hH;have HX:=Vh (XT (qvk hu) hT);have HT:=Vh hT;have c1:=HT.c 0 0 0;have f1:=HT.f 0 0 0;clear hu hT hO hf;go_wp2
  obtain ⟨hz,hT⟩:=HX.out;have T2:TG [] w ([[cl rb 3 #[WK WM 11]]]++O++[[(D,.deferred (some []))]]) (W.setCell ⟨rb,0,none⟩ (WK WM 11)):=hT.set 0 0 rfl 0 (WK WM 11);have T3:=T2.bY (.deferred none);have c2:=T3.c 0 0 0;refine Z5 (v:=WK WM 11) T2.has.last (by simp [results,results307,go_sem,c2]) ⟨[],⟨by rw [hz];rfl,rfl⟩,T3.p []⟩
 case hstop =>
  rintro k cd H O W D ⟨rfl,rfl⟩ hT;have T3:=hT.bY (.deferred none);have c2:=T3.c 0 0 0;refine wp_ret (Z5 (v:=WK WM (J6 t)) hT.has.last (by simp [results,results307,go_sem,c2]) ⟨[],⟨rfl,rfl⟩,T3.p []⟩)
end
section
open Go.RowKit Go.Shelf
attribute [local go_sem] XN
section
variable {h H:GH} {w w':World} {e:XG} {size n:Nat} {v:Value} {xs:List Value} {g:List ak}
theorem Jv {F:Fence} {nn:Nat} {P:Program} {ops:Array Oper} {rest:List Oper} {o:Oper} {a:Act} {Q:Exit->Act->World->Prop} (hgd:o.guard=none) (s x:Operand) (t:XG)
 (ho:o.op=.call { callee:=.builtin .append,args:=#[s,x],argTypes:=#[t,t] })
 (e:XG) (size bytes:Nat) (z:Value) (ht:P.underlying t=some (.slice e)) (hinfo:(P.info? e).map (fun i=>(i.zero,i.size,i.bytes))=some (some z,size,bytes)) (hzs:z.cells.size=size) (hsz:0<size)
 (T:TG h w H w') (k:Nat) (hk:decide (k<H.length)=true) (hg:H.getD k []=g) (r:Q1 e size v n xs g) (hs:a.eval s=v)
 (ad:Addr) (m c:Nat) (news:List Value) (hx:a.eval x=.slice (some ad) m c) (hl:news.length=m*size) (hnews:∀ j u,news[j]?=some u->w'.cell? (ad.add j)=some u) (h1:∀ u∈news,u.oneCell'=true)
 (h63:n+m<=maxLen) (hbytes:(n+m)*bytes<=140737488355328)
 (hK:∀ v' w'' g',Q1 e size v' (n+m) (xs++news) g'->TG h w (H.set k g') w''->wpListIn F nn P ops Q rest (a.put o.dst v') w''):wpListIn F nn P ops Q (o::rest) a w':=by
 obtain ⟨i,hi,hz,hsize,hby⟩:=info_parts hinfo;refine wpListIn_plain hgd fun K hK'=>?_
 obtain ⟨v',w'',g',hr,h2,h3⟩:=KS (P:=P) t o.type e i z size bytes ht hi hz hsize hby hzs hsz T k (of_decide_eq_true hk) hg r ad m c news hl hnews h1 h63 hbytes;unfold Oper.wpIn;refine ⟨?_,?_⟩
 ·simp [Oper.about,ho,resolve,Target.leads,Sem.run_pure]
 ·rw [Oper.semAt_plain F _ _ (by rw [ho];intro c hc';cases hc')]
  simp [execOp,ho,resolve,invoke,builtin,hs,hx,hr,Result.andThen]
  exact hK' _ _ (hK v' w'' g' h2 h3)
end
def BV (xs:List (Array Value)) (O:GH):A8 where
 σ:=Nat
 O _ O':=O'=O
 T _ _:=True
 step k x G k':=(∃ c,xs[k]?=some c/\x=#[.agg c])/\G=[]/\k'=k+1
 fin k:=k=xs.length
def oh (xs:List (Array Value)):List Value:=xs.flatMap Array.toList
theorem RL (xs:List (Array Value)) {k:Nat} {c:Array Value} (h:xs[k]?=some c):oh (xs.take (k+1))=oh (xs.take k)++c.toList:=by
 obtain ⟨h1,h2⟩:=WU.1 h;unfold oh;rw [List.take_succ_eq_append_getElem h1,h2,List.flatMap_append];simp
theorem Tryz.tO:(prog.info? 40).map (fun i=>(i.zero,i.size,i.bytes))=some (some (.agg #[WK WL 0,WK WM 0,WK WL 0,WK WL 0,WK WL 0]),5,40):=by kernel_rfl
theorem qmb {gf:Nat} {lb:Array Value} {xs:List (Array Value)} {O:GH} (eg:∀ args w,(XK gf args).run prog w=.ok (.enter gf args) w) (hit:uy prog gf lb (BV xs O) (0:Nat)) (hx:∀ c∈xs,∃ z0 z1 z2 z3 z4,c=#[WK WL z0,WK WM z1,WK WL z2,WK WL z3,WK WL z4]) (hn:xs.length<=1000000) :
 Qa prog 313 #[.slice none 0 0,WW (XB gf) #[] lb] O fun e gs=>∃ v g,e=WN v/\Q1 40 5 v xs.length (oh xs) g/\gs=O++[g]:=by
 refine GO fun w HT=>?_
 have HI:=Vh hit;have IM:=Vh hx;clear hit hx;refine Xf func313 rfl ?_
 simp only [ntmps313,WX,WZ,XA,Nat.reduceAdd,Nat.reduceSub,WR,WS,WY,WT,WQ,WO];go_wp2
 obtain ⟨sb,hsb⟩:∃ sb,w.heap.size=sb:=⟨_,rfl⟩
 have T0:TG O w ([[cl sb 354 #[.slice none 0 0]],[]]++O) (w.alloc (.cells #[.slice none 0 0] 354)) :=
  (HT.alloc (k:=sb) hsb.symm 354 #[.slice none 0 0]).re (by simp)
 rw [hsb];clear hsb HT;refine Bt (H0:=[[cl sb 354 #[.slice none 0 0]],[]]) (O0:=O) rfl eg HI ?hps T0 ?hO (fun (k:Nat) H=>∃ v g,H=[[cl sb 354 #[v]],g]/\Q1 40 5 v k (oh (xs.take k)) g) (fun _ _ _=>False) ?h0 ?hT ?hbody ?hdone ?hstop
 case hps=>rintro s x G s' ⟨⟨c,_,rfl⟩,_⟩;rfl
 case hO=>exact rfl
 case h0=>exact ⟨_,_,rfl,X5 _ _⟩
 case hT=>intro s H K _;trivial
 case hbody =>
  rintro (k:Nat) x G (k':Nat) H W l ⟨v,g,rfl,hr⟩ ⟨⟨c,hc,rfl⟩,rfl,rfl⟩ hH;obtain ⟨z0,z1,z2,z3,z4,rfl⟩:=IM.out c (XD hc);have hk:=(WU.1 hc).1;have HH:=Vh hH;have HR:=Vh hr;have HC:=Vh (RL xs hc);obtain ⟨av,cap,hv⟩:=Q1.val hr;subst hv;clear hH hr hc;refine Xq (n:=9) ?_
  gi_wp2
  refine ⟨_,((TG.refl HH).alloc (k:=W.heap.size) rfl 40 #[WK WL z0,WK WM z1,WK WL z2,WK WL z3,WK WL z4]).eq (H':=[[cl sb 354 #[.slice av k cap]],g,[cl W.heap.size 40 #[WK WL z0,WK WM z1,WK WL z2,WK WL z3,WK WL z4]]]) (by simp),fun Wb hb=>?_⟩
  generalize W.heap.size=vb at hb |-;have HT:=Vh (TG.refl hb);have c0:=HT.c 0 0 0;have f0:=HT.f 0 0 0;obtain ⟨b0,b1,b2,b3,b4⟩:=HT.c5 2 0 0 1 2 3 4;simp only [aT] at b0 b1 b2 b3 b4;simp only [bR] at c0;clear hb HH;refine Xq (n:=9) ?_
  gi_wp2_with (
   gi_at_builtin
   with_reducible refine Jv rfl (.tmp 8) (.tmp 10) 354 rfl 40 5 40 _ underlying354 Tryz.tO rfl (by decide) (HT.out.aN _) 1 rfl rfl HR.out rfl ⟨Wb.heap.size,0,none⟩ 1 1 [WK WL z0,WK WM z1,WK WL z2,WK WL z3,WK WL z4] rfl rfl (Za _ _ _) (by simp [XQ]) (by unfold maxLen;omega) (by omega) ?_
   intro v1 w2 g1 r1 T1;simp only [WV,XH] at T1;have c1:=T1.c 0 0 0;have f1:=T1.f 0 0 0;obtain ⟨a1,di,hv1⟩:=Q1.val r1;subst hv1;have T1:=Vh T1;have r1:=Vh r1
   simp only [bR] at c1)
  exact ⟨[[cl sb 354 #[.slice a1 (k+1) di]],g1],⟨_,_,rfl,by rw [HC.out];exact r1.out⟩,((T1.set 0 0 rfl 0 (.slice a1 (k+1) di)).p [0,1])⟩
 case hdone =>
  rintro (k:Nat) H O' W D hf ⟨v,g,rfl,hr⟩ hO hT;have hf':k=xs.length:=hf;subst hf';have l8:O'=O:=hO;subst l8;rw [XL] at hr;have c0:=hT.c 0 0 0;simp only [bR] at c0;have HX:=Vh (XT hr hT);obtain ⟨av,cap,hv⟩:=Q1.val hr;subst hv;clear hf hO hr hT;go_wp2
  obtain ⟨hr,hT⟩:=HX.out;have T3:=hT.bY (.deferred none)
  have T4:TG O' w (O'++[g]++[[cl sb 354 #[.slice av xs.length cap],(D,.deferred none)]]) (W.putObj D (.deferred none)):=T3.re (by
   classical
   simp only [XE,XI,XM,XC,WO,WQ];refine XF.2 fun a=>?_
   simp only [XJ,XP,XR]
   omega)
  exact Z5 (v:=.slice av xs.length cap) hT.has.last (by simp [results,results313,go_sem]) ⟨_,⟨_,g,rfl,hr,rfl⟩,T4.dropLast⟩
 case hstop=>intro s cd H O W D h;exact h.elim
theorem qs9 {gf:Nat} {lb:Array Value} {xs:List (Array Value)} {O:GH} (eg:∀ args w,(XK gf args).run prog w=.ok (.enter gf args) w) (hit:uy prog gf lb (BV xs O) (0:Nat)) (hx:∀ c∈xs,∃ z0 z1 z2 z3 z4,c=#[WK WL z0,WK WM z1,WK WL z2,WK WL z3,WK WL z4]) (hn:xs.length<=1000000) :
 Qa prog 296 #[WW (XB gf) #[] lb] O fun e gs=>∃ v g,e=WN v/\Q1 40 5 v xs.length (oh xs) g/\gs=O++[g]:=by
 have ha:=qmb eg hit hx hn;refine GO fun w HT=>?_
 have HA:=Vh ha;clear ha hit hx hn;go_enter func296,ntmps296
 go_wp2_with fail
 refine (HA _ HT.has).mono ?_
 rintro e w1 ⟨gs,⟨v,g,rfl,hr,rfl⟩,Ta⟩;have HR:=Vh hr;have pG:=Vh (HT.out.trans Ta);obtain ⟨av,cap,hv⟩:=Q1.val hr;subst hv;clear hr Ta;go_wp2
 go_ret
 exact ⟨_,⟨_,g,rfl,HR,rfl⟩,pG⟩
theorem qma {gf:Nat} {lb:Array Value} {xs:List (Array Value)} {O:GH} (eg:∀ args w,(XK gf args).run prog w=.ok (.enter gf args) w) (hit:uy prog gf lb (BV xs O) (0:Nat)) (hx:∀ c∈xs,∃ z0 z1 z2 z3,c=#[WK WL z0,WK WL z1,WK WL z2,WK WL z3]) (hn:xs.length<=1000000) :
 Qa prog 246 #[.slice none 0 0,WW (XB gf) #[] lb] O fun e gs=>∃ v g,e=WN v/\Q1 63 4 v xs.length (oh xs) g/\gs=O++[g]:=by
 refine GO fun w HT=>?_
 have HI:=Vh hit;have IM:=Vh hx;clear hit hx;refine Xf func246 rfl ?_
 simp only [ntmps246,WX,WZ,XA,Nat.reduceAdd,Nat.reduceSub,WR,WS,WY,WT,WQ,WO];go_wp2
 obtain ⟨sb,hsb⟩:∃ sb,w.heap.size=sb:=⟨_,rfl⟩
 have T0:TG O w ([[cl sb 58 #[.slice none 0 0]],[]]++O) (w.alloc (.cells #[.slice none 0 0] 58)) :=
  (HT.alloc (k:=sb) hsb.symm 58 #[.slice none 0 0]).re (by simp)
 rw [hsb];clear hsb HT;refine Bt (H0:=[[cl sb 58 #[.slice none 0 0]],[]]) (O0:=O) rfl eg HI ?hps T0 ?hO (fun (k:Nat) H=>∃ v g,H=[[cl sb 58 #[v]],g]/\Q1 63 4 v k (oh (xs.take k)) g) (fun _ _ _=>False) ?h0 ?hT ?hbody ?hdone ?hstop
 case hps=>rintro s x G s' ⟨⟨c,_,rfl⟩,_⟩;rfl
 case hO=>exact rfl
 case h0=>exact ⟨_,_,rfl,X5 _ _⟩
 case hT=>intro s H K _;trivial
 case hbody =>
  rintro (k:Nat) x G (k':Nat) H W l ⟨v,g,rfl,hr⟩ ⟨⟨c,hc,rfl⟩,rfl,rfl⟩ hH;obtain ⟨z0,z1,z2,z3,rfl⟩:=IM.out c (XD hc);have hk:=(WU.1 hc).1;have HH:=Vh hH;have HR:=Vh hr;have HC:=Vh (RL xs hc);obtain ⟨av,cap,hv⟩:=Q1.val hr;subst hv;clear hH hr hc;refine Xq (n:=9) ?_
  gi_wp2
  refine ⟨_,((TG.refl HH).alloc (k:=W.heap.size) rfl 63 #[WK WL z0,WK WL z1,WK WL z2,WK WL z3]).eq (H':=[[cl sb 58 #[.slice av k cap]],g,[cl W.heap.size 63 #[WK WL z0,WK WL z1,WK WL z2,WK WL z3]]]) (by simp),fun Wb hb=>?_⟩
  generalize W.heap.size=vb at hb |-;have HT:=Vh (TG.refl hb);have c0:=HT.c 0 0 0;have f0:=HT.f 0 0 0;obtain ⟨b0,b1,b2,b3⟩:=HT.c4 2 0 0 1 2 3;simp only [aT] at b0 b1 b2 b3;simp only [bR] at c0;clear hb HH;refine Xq (n:=9) ?_
  gi_wp2_with (
   gi_at_builtin
   with_reducible refine Jv rfl (.tmp 8) (.tmp 10) 58 rfl 63 4 32 _ underlying58 Gv rfl (by decide) (HT.out.aN _) 1 rfl rfl HR.out rfl ⟨Wb.heap.size,0,none⟩ 1 1 [WK WL z0,WK WL z1,WK WL z2,WK WL z3] rfl rfl (Za _ _ _) (by simp [XQ]) (by unfold maxLen;omega) (by omega) ?_
   intro v1 w2 g1 r1 T1;simp only [WV,XH] at T1;have c1:=T1.c 0 0 0;have f1:=T1.f 0 0 0;obtain ⟨a1,di,hv1⟩:=Q1.val r1;subst hv1;have T1:=Vh T1;have r1:=Vh r1
   simp only [bR] at c1)
  exact ⟨[[cl sb 58 #[.slice a1 (k+1) di]],g1],⟨_,_,rfl,by rw [HC.out];exact r1.out⟩,((T1.set 0 0 rfl 0 (.slice a1 (k+1) di)).p [0,1])⟩
 case hdone =>
  rintro (k:Nat) H O' W D hf ⟨v,g,rfl,hr⟩ hO hT;have hf':k=xs.length:=hf;subst hf';have l8:O'=O:=hO;subst l8;rw [XL] at hr;have c0:=hT.c 0 0 0;simp only [bR] at c0;have HX:=Vh (XT hr hT);obtain ⟨av,cap,hv⟩:=Q1.val hr;subst hv;clear hf hO hr hT;go_wp2
  obtain ⟨hr,hT⟩:=HX.out;have T3:=hT.bY (.deferred none)
  have T4:TG O' w (O'++[g]++[[cl sb 58 #[.slice av xs.length cap],(D,.deferred none)]]) (W.putObj D (.deferred none)):=T3.re (by
   classical
   simp only [XE,XI,XM,XC,WO,WQ];refine XF.2 fun a=>?_
   simp only [XJ,XP,XR]
   omega)
  exact Z5 (v:=.slice av xs.length cap) hT.has.last (by simp [results,results246,go_sem]) ⟨_,⟨_,g,rfl,hr,rfl⟩,T4.dropLast⟩
 case hstop=>intro s cd H O W D h;exact h.elim
theorem qs8 {gf:Nat} {lb:Array Value} {xs:List (Array Value)} {O:GH} (eg:∀ args w,(XK gf args).run prog w=.ok (.enter gf args) w) (hit:uy prog gf lb (BV xs O) (0:Nat)) (hx:∀ c∈xs,∃ z0 z1 z2 z3,c=#[WK WL z0,WK WL z1,WK WL z2,WK WL z3]) (hn:xs.length<=1000000) :
 Qa prog 203 #[WW (XB gf) #[] lb] O fun e gs=>∃ v g,e=WN v/\Q1 63 4 v xs.length (oh xs) g/\gs=O++[g]:=by
 have ha:=qma eg hit hx hn;refine GO fun w HT=>?_
 have HA:=Vh ha;clear ha hit hx hn;go_enter func203,ntmps203
 go_wp2_with fail
 refine (HA _ HT.has).mono ?_
 rintro e w1 ⟨gs,⟨v,g,rfl,hr,rfl⟩,Ta⟩;have HR:=Vh hr;have pG:=Vh (HT.out.trans Ta);obtain ⟨av,cap,hv⟩:=Q1.val hr;subst hv;clear hr Ta;go_wp2
 go_ret
 exact ⟨_,⟨_,g,rfl,HR,rfl⟩,pG⟩
end
end Go.Proofs.YtcneeepdclgdcaaGreat
