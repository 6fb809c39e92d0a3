import Derived.Test.YtcneeepdclgdcaaGreatPF15
import Derived.Test.YtcneeepdclgdcaaGreatPF19
import Derived.Test.YtcneeepdclgdcaaGreatPF21
import Derived.Test.YtcneeepdclgdcaaGreatPF14
import Derived.Test.YtcneeepdclgdcaaGreatPF18
import Derived.Test.YtcneeepdclgdcaaGreatPF12
import Derived.Test.YtcneeepdclgdcaaGreatPF6
set_option maxRecDepth 100000
set_option maxHeartbeats 4000000
namespace Go.Proofs.YtcneeepdclgdcaaGreat
open Go.Value renaming int->WK,nilFunc->WL,func->WM,tuple->WT,pointer->WW
open Go.IntKind renaming i64->WN,u64->WO
open Go.Fn renaming func->WQ
open Go.Ending renaming returned->WR
open Go renaming bodyPost_ret->WS,wpQuiet_nil->WU,bodyPost_end->WY,results_none->WZ
open _root_.List renaming getElem?_eq_getElem->WV,cons_append->XA,nil_append->XB
open Go.World renaming setCell->WX
set_option linter.all false
open Go.Proofs.Tryz
section
open Go.RowKit Go.Shelf
structure gY where
 b:Nat
 rb:Nat
 lb:Nat
 wb:Nat
def uO (q:gY) (s:Qs) (g:List ak):Prop:=∃ gr gl,X2 q.rb s.ring gr/\qk q.lb s.who s.turns gl/\g=Xl q.b q.rb q.lb q.wb++(gr++gl)
structure Lay where
 fb:Nat
 p:jc
 qs:List gY
structure Qi where
 f:Zp
 aa:Qj
 tr:List EvS
 au:List Qs
def Qf (L:Lay) (x:Qi) (g:List ak):Prop:=∃ tr gF gS gR gH gT,X1 L.fb L.p x.f tr gF/\Jc L.p.sb x.aa gS/\Q1 42 1 L.p.sh (L.qs.map gY.b).length ((L.qs.map gY.b).map fun b=>Qb b) gR /\
 L.qs.length=x.au.length/\Yx (fun (z:gY × Qs)=>uO z.1 z.2) (L.qs.zip x.au) gH/\Cg tr x.tr gT/\g=gF++(gS++(gR++(gH++gT)))
section
variable {L:Lay} {x:Qi} {g:List ak}
theorem qpj {fb:Nat} {p:jc} {f:Zp} {tr:Value} {g:List ak} (hg:X1 fb p f tr g):Qe prog 19 #[Qb fb] [g] (Qb p.sb):=by
 obtain ⟨C,rfl,hc⟩:=hg;refine GO fun w HT=>?_
 have c0:=(HT.c 0 0 6).trans hc.aa;clear hc;go_enter func19,ntmps19
 go_wp2
 go_ret
 exact ⟨rfl,0,rfl⟩
theorem Qq (hx:Qf L x g):Qe prog 19 #[Qb L.fb] [g] (Qb L.p.sb):=by
 obtain ⟨tr,gF,gS,gR,gH,gT,h1,h2,h3,h4,h5,h6,rfl⟩:=hx;intro w hw;have T:=(TG.refl hw).m [gF,gS,gR,gH,gT];exact (qpj h1).use T [0] rfl rfl
theorem RF (hx:Qf L x g) (hn:1<=L.qs.length) (i:Int):Qe prog 184 #[Qb L.fb,WK WN i] [g] (Cb (L.qs.map gY.b) i):=by
 obtain ⟨tr,gF,gS,gR,gH,gT,h1,h2,h3,h4,h5,h6,rfl⟩:=hx;intro w hw;have T:=(TG.refl hw).m [gF,gS,gR,gH,gT];exact (qpf h1 h3 (by simpa using hn) i).use T [0,2] rfl rfl
theorem Sv (hx:Qf L x g) (h:0<=x.f.inside/\x.f.inside<=1000000):Qa prog 139 #[Qb L.fb] [g] fun e gs=>e=WR (WT #[])/\∃ g',Qf L { x with f:={ x.f with inside:=x.f.inside+1 } } g'/\gs=[g']:=by
 obtain ⟨tr,gF,gS,gR,gH,gT,h1,h2,h3,h4,h5,h6,rfl⟩:=hx;intro w hw;have T:=(TG.refl hw).m [gF,gS,gR,gH,gT];refine (Qa.use (qm1 h1 h) T [0] rfl rfl).mono ?_
 rintro e w' ⟨gs,⟨he,g1,hn1,rfl⟩,T'⟩;exact ⟨_,⟨he,_,⟨tr,g1,gS,gR,gH,gT,hn1,h2,h3,h4,h5,h6,rfl⟩,rfl⟩,TG.sum (H:=[g1,gS,gR,gH,gT]) T'⟩
theorem Sw (hx:Qf L x g) (h:0<=x.f.inside/\x.f.inside<=1000000):Qa prog 213 #[Qb L.fb] [g] fun e gs=>e=WR (WK WN (yx x.f.inside))/\∃ g',Qf L { x with f:={ x.f with inside:=Z2 x.f.inside } } g'/\gs=[g']:=by
 obtain ⟨tr,gF,gS,gR,gH,gT,h1,h2,h3,h4,h5,h6,rfl⟩:=hx;intro w hw;have T:=(TG.refl hw).m [gF,gS,gR,gH,gT];refine (Qa.use (qm2 h1 h) T [0] rfl rfl).mono ?_
 rintro e w' ⟨gs,⟨he,g1,hn1,rfl⟩,T'⟩;exact ⟨_,⟨he,_,⟨tr,g1,gS,gR,gH,gT,hn1,h2,h3,h4,h5,h6,rfl⟩,rfl⟩,TG.sum (H:=[g1,gS,gR,gH,gT]) T'⟩
theorem Lr (hx:Qf L x g):Qa prog 71 #[Qb L.fb] [g] fun e gs=>e=WR (.bool x.f.closed)/\∃ g',Qf L x g'/\gs=[g']:=by
 obtain ⟨tr,gF,gS,gR,gH,gT,h1,h2,h3,h4,h5,h6,rfl⟩:=hx;intro w hw;have T:=(TG.refl hw).m [gF,gS,gR,gH,gT];refine (Qa.use (qk0 h1) T [0] rfl rfl).mono ?_
 rintro e w' ⟨gs,⟨he,g1,hn1,rfl⟩,T'⟩;exact ⟨_,⟨he,_,⟨tr,g1,gS,gR,gH,gT,hn1,h2,h3,h4,h5,h6,rfl⟩,rfl⟩,TG.sum (H:=[g1,gS,gR,gH,gT]) T'⟩
theorem Ty (hx:Qf L x g):Qa prog 156 #[Qb L.fb] [g] fun e gs=>e=WR (.bool (!x.f.closed))/\∃ g',Qf L { x with f:={ x.f with closed:=true } } g'/\gs=[g']:=by
 obtain ⟨tr,gF,gS,gR,gH,gT,h1,h2,h3,h4,h5,h6,rfl⟩:=hx;intro w hw;have T:=(TG.refl hw).m [gF,gS,gR,gH,gT];refine (Qa.use (qpi h1) T [0] rfl rfl).mono ?_
 rintro e w' ⟨gs,⟨he,g1,hn1,rfl⟩,T'⟩;exact ⟨_,⟨he,_,⟨tr,g1,gS,gR,gH,gT,hn1,h2,h3,h4,h5,h6,rfl⟩,rfl⟩,TG.sum (H:=[g1,gS,gR,gH,gT]) T'⟩
theorem qta (hx:Qf L x g):Qa prog 23 #[Qb L.fb] [g] fun e gs=>e=WR (WK WN x.f.inside)/\∃ g',Qf L x g'/\gs=[g']:=by
 obtain ⟨tr,gF,gS,gR,gH,gT,h1,h2,h3,h4,h5,h6,rfl⟩:=hx;intro w hw;have T:=(TG.refl hw).m [gF,gS,gR,gH,gT];refine (Qa.use (qk1 h1) T [0] rfl rfl).mono ?_
 rintro e w' ⟨gs,⟨he,g1,hn1,rfl⟩,T'⟩;exact ⟨_,⟨he,_,⟨tr,g1,gS,gR,gH,gT,hn1,h2,h3,h4,h5,h6,rfl⟩,rfl⟩,TG.sum (H:=[g1,gS,gR,gH,gT]) T'⟩
theorem zY (hx:Qf L x g) (hn:x.aa.recs.length<=64) (k:Int):Qa prog 38 #[Qb L.p.sb,WK WN k] [g] fun e gs=>e=WR (WT #[WK WO (x.aa.word k),WK WN (x.aa.kD k)])/\∃ g',Qf L x g'/\gs=[g']:=by
 obtain ⟨tr,gF,gS,gR,gH,gT,h1,h2,h3,h4,h5,h6,rfl⟩:=hx;intro w hw;have T:=(TG.refl hw).m [gF,gS,gR,gH,gT];refine (Qa.use (qu2 h2 hn k) T [1] rfl rfl).mono ?_
 rintro e w' ⟨gs,⟨he,g1,hn1,rfl⟩,T'⟩;exact ⟨_,⟨he,_,⟨tr,gF,g1,gR,gH,gT,h1,hn1,h3,h4,h5,h6,rfl⟩,rfl⟩,TG.sum (H:=[gF,g1,gR,gH,gT]) T'⟩
theorem q1f (hx:Qf L x g) (hn:x.aa.recs.length<=64) (id:Int) (h0:0<=id) (h9:id<18446744073709551616):Qa prog 223 #[Qb L.p.sb,WK WO id] [g] fun e gs=>e=WR (WT #[WK WN (x.aa.slot id),WK WN (x.aa.fK id)])/\∃ g',Qf L x g'/\gs=[g']:=by
 obtain ⟨tr,gF,gS,gR,gH,gT,h1,h2,h3,h4,h5,h6,rfl⟩:=hx;intro w hw;have T:=(TG.refl hw).m [gF,gS,gR,gH,gT];refine (Qa.use (RU h2 hn id h0 h9) T [1] rfl rfl).mono ?_
 rintro e w' ⟨gs,⟨he,g1,hn1,rfl⟩,T'⟩;exact ⟨_,⟨he,_,⟨tr,gF,g1,gR,gH,gT,h1,hn1,h3,h4,h5,h6,rfl⟩,rfl⟩,TG.sum (H:=[gF,g1,gR,gH,gT]) T'⟩
theorem Tx (hx:Qf L x g) (hn:x.aa.recs.length<=64) (id:Int) (h0:0<=id) (h9:id<18446744073709551616):Qa prog 224 #[Qb L.p.sb,WK WO id] [g] fun e gs=>e=WR (.bool (x.aa.mine id))/\∃ g',Qf L x g'/\gs=[g']:=by
 obtain ⟨tr,gF,gS,gR,gH,gT,h1,h2,h3,h4,h5,h6,rfl⟩:=hx;intro w hw;have T:=(TG.refl hw).m [gF,gS,gR,gH,gT];refine (Qa.use (qu0 h2 hn id h0 h9) T [1] rfl rfl).mono ?_
 rintro e w' ⟨gs,⟨he,g1,hn1,rfl⟩,T'⟩;exact ⟨_,⟨he,_,⟨tr,gF,g1,gR,gH,gT,h1,hn1,h3,h4,h5,h6,rfl⟩,rfl⟩,TG.sum (H:=[gF,g1,gR,gH,gT]) T'⟩
theorem Mt (hx:Qf L x g) (h0:0<=x.aa.count) (h9:x.aa.count<=64):Qa prog 254 #[Qb L.p.sb] [g] fun e gs=>e=WR (WK WN x.aa.drop.2)/\∃ g',Qf L { x with aa:=x.aa.drop.1 } g'/\gs=[g']:=by
 obtain ⟨tr,gF,gS,gR,gH,gT,h1,h2,h3,h4,h5,h6,rfl⟩:=hx;intro w hw;have T:=(TG.refl hw).m [gF,gS,gR,gH,gT];refine (Qa.use (quz h2 h0 h9) T [1] rfl rfl).mono ?_
 rintro e w' ⟨gs,⟨he,g1,hn1,rfl⟩,T'⟩;exact ⟨_,⟨he,_,⟨tr,gF,g1,gR,gH,gT,h1,hn1,h3,h4,h5,h6,rfl⟩,rfl⟩,TG.sum (H:=[gF,g1,gR,gH,gT]) T'⟩
theorem BL (hx:Qf L x g) (hn:x.aa.recs.length<=64) (k old ev:Int) (h0:0<=old) (h9:old<18446744073709551616):Qa prog 228 #[Qb L.p.sb,WK WN k,WK WO old,WK WN ev] [g] fun e gs=>e=WR (WT #[WK WO (x.aa.try k old ev).2.1,WK WN (x.aa.try k old ev).2.2])/\∃ g',Qf L { x with aa:=(x.aa.try k old ev).1 } g'/\gs=[g']:=by
 obtain ⟨tr,gF,gS,gR,gH,gT,h1,h2,h3,h4,h5,h6,rfl⟩:=hx;intro w hw;have T:=(TG.refl hw).m [gF,gS,gR,gH,gT];refine (Qa.use (qy5 h2 hn k old ev h0 h9) T [1] rfl rfl).mono ?_
 rintro e w' ⟨gs,⟨he,g1,hn1,rfl⟩,T'⟩;exact ⟨_,⟨he,_,⟨tr,gF,g1,gR,gH,gT,h1,hn1,h3,h4,h5,h6,rfl⟩,rfl⟩,TG.sum (H:=[gF,g1,gR,gH,gT]) T'⟩
theorem q5w (hx:Qf L x g) (qb:Nat) (q:ik) (hs:Xc x.aa) (hq:x8 x.aa.recs.length q):Qa prog 182 #[Qb qb] [jX qb L.p.sb q,g] fun e gs=>e=WR (WK WN (Zf x.aa q).2.st)/\∃ g',Qf L { x with aa:=(Zf x.aa q).1 } g'/\gs=[jX qb L.p.sb (Zf x.aa q).2,g']:=by
 obtain ⟨tr,gF,gS,gR,gH,gT,h1,h2,h3,h4,h5,h6,rfl⟩:=hx;intro w hw;have T:=(TG.refl hw).m [jX qb L.p.sb q,gF,gS,gR,gH,gT];refine (Qa.use (qyn qb q h2 hs hq) T [0,2] rfl rfl).mono ?_
 rintro e w' ⟨gs,⟨he,g1,hn1,rfl⟩,T'⟩;exact ⟨_,⟨he,_,⟨tr,gF,g1,gR,gH,gT,h1,hn1,h3,h4,h5,h6,rfl⟩,rfl⟩,TG.sum (H:=[jX qb L.p.sb (Zf x.aa q).2,gF,g1,gR,gH,gT]) T'⟩
theorem Mv (hx:Qf L x g) (E:EvS) (hn:x.tr.length<=1000000):Qa prog 145 #[Qb L.fb,.agg E.cells] [g] fun e gs=>e=WR (WT #[])/\∃ g',Qf L { x with tr:=x.tr++[E] } g'/\gs=[g']:=by
 obtain ⟨tr,gF,gS,gR,gH,gT,h1,h2,h3,h4,h5,h6,rfl⟩:=hx;intro w hw;have T:=(TG.refl hw).m [gF,gS,gR,gH,gT];refine (Qa.use (qk2 E h1 h6 (by omega)) T [0,4] rfl rfl).mono ?_
 rintro e w' ⟨gs,⟨he,tr1,g1,JY,hn1,hn2,rfl⟩,T'⟩;exact ⟨_,⟨he,_,⟨tr1,g1,gS,gR,gH,JY,hn1,h2,h3,h4,h5,Cg.put hn2,rfl⟩,rfl⟩,TG.sum (H:=[g1,gS,gR,gH,JY]) T'⟩
theorem uk {α β:Type} {l:List α} {m:List β} {i:Nat} {a:α} {b:β} (ha:l[i]?=some a) (hb:m[i]?=some b):(l.zip m)[i]?=some (a,b):=by
 rw [List.getElem?_zip_eq_some];exact ⟨ha,hb⟩
theorem ze {α β:Type}:∀ {l:List α} {m:List β} (i:Nat) {a:α} {b:β},l[i]?=some a->(l.zip m).set i (a,b)=l.zip (m.set i b)
 | [],m,i,a,b,h=>by simp at h
 | c::l,[],i,a,b,h=>by simp
 | c::l,d::m,0,a,b,h=>by simp at h;simp [h]
 | c::l,d::m,i+1,a,b,h=>by simp at h;simp [ze i h]
theorem q1g (hx:Qf L x g) {i:Nat} {q:gY} {s:Qs} (hq:L.qs[i]?=some q) (hs:x.au[i]?=some s) (tb:Nat) (t:Xv) (hr0:zx s.ring) (ht:uA t):Qa prog 218 #[Qb tb] [Xy tb q.rb t,g] fun e gs=>e=WR (WK WN (stepT s.ring t).2.status)/\∃ g',Qf L { x with au:=x.au.set i { s with ring:=(stepT s.ring t).1 } } g'/\gs=[Xy tb q.rb (stepT s.ring t).2,g']:=by
 obtain ⟨tr,gF,gS,gR,gH,gT,h1,h2,h3,h4,h5,h6,rfl⟩:=hx;have hz:(L.qs.zip x.au)[i]?=some (q,s):=uk hq hs;obtain ⟨u,y,⟨gr,gl,hr,hl,rfl⟩,hp,hback⟩:=h5.out hz;intro w hw;have T:=(((TG.refl hw).sum (H':=[Xy tb q.rb t,gF++(gS++(gR++gT)),gH])).bF 2 rfl hp).sum (H':=[Xy tb q.rb t,gF++(gS++(gR++gT)),Xl q.b q.rb q.lb q.wb,gr,gl,y]);refine (Qa.use (qvb (tb:=tb) (t:=t) hr hr0 ht) T [0,3] rfl rfl).mono ?_
 rintro e w' ⟨gs,⟨he,g1,hn1,rfl⟩,T'⟩;obtain ⟨ny,hf,hp'⟩:=hback (q,{ s with ring:=(stepT s.ring t).1 }) (Xl q.b q.rb q.lb q.wb++(g1++gl)) ⟨g1,gl,hn1,hl,rfl⟩;rw [ze i hq] at hf;refine ⟨_,⟨he,_,⟨tr,gF,gS,gR,ny,gT,h1,h2,h3,by simpa using h4,hf,h6,rfl⟩,rfl⟩,?_⟩
 exact ((TG.sum (H:=[Xy tb q.rb (stepT s.ring t).2,gF++(gS++(gR++gT)),Xl q.b q.rb q.lb q.wb,g1,gl,y]) (H':=[Xy tb q.rb (stepT s.ring t).2,gF++(gS++(gR++gT)),Xl q.b q.rb q.lb q.wb++(g1++gl)++y]) T').bF 2 rfl hp').sum
theorem Tw (hx:Qf L x g) {i:Nat} {q:gY} {s:Qs} (hq:L.qs[i]?=some q) (hs:x.au[i]?=some s) (tb:Nat) (t:Xv) (hr0:zx s.ring) (ht:uA t) (v:Qn):Qa prog 256 #[Qb tb,.agg v.cells] [Xy tb q.rb t,g] fun e gs=>e=WR (WK WN (Zn s.ring t v).2.2)/\∃ g',Qf L { x with au:=x.au.set i { s with ring:=(Zn s.ring t v).1 } } g'/\gs=[Xy tb q.rb (Zn s.ring t v).2.1,g']:=by
 obtain ⟨tr,gF,gS,gR,gH,gT,h1,h2,h3,h4,h5,h6,rfl⟩:=hx;have hz:(L.qs.zip x.au)[i]?=some (q,s):=uk hq hs;obtain ⟨u,y,⟨gr,gl,hr,hl,rfl⟩,hp,hback⟩:=h5.out hz;intro w hw;have T:=(((TG.refl hw).sum (H':=[Xy tb q.rb t,gF++(gS++(gR++gT)),gH])).bF 2 rfl hp).sum (H':=[Xy tb q.rb t,gF++(gS++(gR++gT)),Xl q.b q.rb q.lb q.wb,gr,gl,y]);refine (Qa.use (qu9 (tb:=tb) (t:=t) v hr hr0 ht) T [0,3] rfl rfl).mono ?_
 rintro e w' ⟨gs,⟨he,g1,hn1,rfl⟩,T'⟩;obtain ⟨ny,hf,hp'⟩:=hback (q,{ s with ring:=(Zn s.ring t v).1 }) (Xl q.b q.rb q.lb q.wb++(g1++gl)) ⟨g1,gl,hn1,hl,rfl⟩;rw [ze i hq] at hf;refine ⟨_,⟨he,_,⟨tr,gF,gS,gR,ny,gT,h1,h2,h3,by simpa using h4,hf,h6,rfl⟩,rfl⟩,?_⟩
 exact ((TG.sum (H:=[Xy tb q.rb (Zn s.ring t v).2.1,gF++(gS++(gR++gT)),Xl q.b q.rb q.lb q.wb,g1,gl,y]) (H':=[Xy tb q.rb (Zn s.ring t v).2.1,gF++(gS++(gR++gT)),Xl q.b q.rb q.lb q.wb++(g1++gl)++y]) T').bF 2 rfl hp').sum
end
structure Qt where
 thread:Int
 no:Int
 kind:Int
 cid:Int
 j5:Int
 ig:Int
 err:Int
 ok:Bool
 qX:Int
 jq:Int
 id:Int
 slot:Int
 aA:Int
 gen:Int
 rq:Option ik
 tk:Option (Nat × Xv)
def Xg (fb:Nat) (pv rv tv:Value) (k:Qt):Array Value:=#[Qb fb,WK WN k.thread,WK WN k.no,WK WN k.kind,WK WO k.cid,WK WO k.j5,WK WO k.ig,WK WN k.err,.bool k.ok,WK WO k.qX,WK WO k.jq,.slice none 0 0,pv,rv,tv,WK WO k.id,WK WN k.slot,WK WO k.aA,WK WO k.gen]
abbrev Xe (kb fb:Nat) (pv rv tv:Value) (k:Qt):List ak:=[cl kb 149 (Xg fb pv rv tv k)]
def Qt.ev (k:Qt) (E:EvS):EvS:={ E with thread:=k.thread,call:=k.no,what:=k.kind }
def xC (k:Qt) (E:EvS) (x:Qi):Qi:={ x with tr:=x.tr++[k.ev E] }
def bO:EvS:=⟨0,0,0,0,0,0,0,0,0,0⟩
def Y1 (e:Int) (k:Qt):Qt:={ k with err:=e,ok:=false,qX:=0,jq:=0 }
section
variable {L:Lay} {x:Qi} {g:List ak} {kb:Nat} {pv rv tv:Value} {k:Qt}
theorem Ad (hx:Qf L x g) (E:EvS) (hn:x.tr.length<=1000000):Qa prog 84 #[Qb kb,.agg E.cells] [Xe kb L.fb pv rv tv k,g] fun e gs =>
 e=WR (WT #[])/\∃ g',Qf L (xC k E x) g'/\gs=[Xe kb L.fb pv rv tv k,g']:=by
 refine GO fun w HT=>?_
 have HN:=Vh (Mv hx (k.ev E) hn);have lt:=HT.l 0 0;simp only [] at lt;obtain ⟨k0,k1,k2,k3⟩:=HT.c4 0 0 0 1 2 3;simp only [Xg,aC] at k0 k1 k2 k3;clear hx hn;simp only [EvS.cells];go_enter func84,ntmps84
 go_wp2
 go_region
 go_wp2
 have HT:=Vh (HT.out.a 73 (k.ev E).cells).drew;simp only [XA,XB] at HT;simp only [EvS.cells,Qt.ev] at HT;clear lt k1 k2 k3 k0;generalize World.drew _=w1 at HT |-;have k0:=HT.c 0 0 0;obtain ⟨b0,b1,b2,b3,b4,b5,b6,b7⟩:=HT.c8 2 0 0 1 2 3 4 5 6 7;obtain ⟨b8,b9⟩:=HT.c2 2 0 8 9;simp only [Xg,aC] at k0 b0 b1 b2 b3 b4 b5 b6 b7 b8 b9;refine Mx 5 ?_
 simp only [dx]
 repeat (go_big_quiet_step ((fail)))
 refine WU (QT HT fun nq HT=>?_)
 go_wp2_with fail
 refine Qa.run HN HT [1] ?_
 rintro e w1 gs ⟨rfl,g',hx',rfl⟩ HT;simp only [PU] at HT;have HX:=Vh hx';clear hx';go_wp2_with fail
 refine ⟨rfl,?_⟩
 go_wp2
 exact WY (WZ rfl _ _ _) rfl ⟨_,⟨rfl,g',HX,rfl⟩,HT.p [0,1]⟩
theorem Ju (hx:Qf L x g) (e:Int) (hn:x.tr.length<=1000000):Qa prog 137 #[Qb kb,WK WN e] [Xe kb L.fb pv rv tv k,g] fun r gs =>
 r=WR (WT #[])/\∃ g',Qf L (xC k { bO with kind:=9,err:=e } x) g'/\gs=[Xe kb L.fb pv rv tv (Y1 e k),g']:=by
 refine GO fun w HT=>?_
 have HN:=Vh (Ad (kb:=kb) (pv:=pv) (rv:=rv) (tv:=tv) (k:=k) hx { bO with kind:=9,err:=e } hn);clear hx hn;go_enter func137,ntmps137
 go_wp2_with fail
 refine Qa.run HN HT [0,1] ?_
 rintro e w1 gs ⟨rfl,g',hx',rfl⟩ HT;simp only [PU] at HT;have HX:=Vh hx';clear hx';obtain ⟨c7,c8,c9,c10,c11⟩:=HT.c5 0 0 7 8 9 10 11;obtain ⟨f7,f8,f9,f10,f11⟩:=HT.f5 0 0 7 8 9 10 11;simp only [Xg,aC] at c7 c8 c9 c10 c11;go_wp2
 exact WY (WZ rfl _ _ _) rfl ⟨_,⟨rfl,g',HX,rfl⟩,(((((HT.set 0 0 rfl 7 _).set 0 0 rfl 8 _).set 0 0 rfl 9 _).set 0 0 rfl 10 _).set 0 0 rfl 11 _).eq rfl⟩
end
def Qt.period (k:Qt):Int:=if k.kind=2 then k.ig else 0
def Qt.event (k:Qt):Int:=if k.kind=4 then 6 else if k.kind=5 then 7 else 8
theorem Jc.open {sb:Nat} {s:Qj} {g:List ak} (h:Jc sb s g):∃ rb C D,g=[cl sb 163 C,cl rb 176 D]/\C.size=5/\C[0]?=some (.slice (some ⟨rb,0,none⟩) s.recs.length s.recs.length)/\cellAt C 1 (WK WN s.count)/\D.size=s.recs.length*6/\∀ i r,s.recs[i]?=some r->recAt D i r:=by
 obtain ⟨rb,m⟩:=h;unfold zg at m;cases m with
 | cons h1 m =>
   cases m with
   | cons h2 m =>
     cases m
     obtain ⟨C,rfl,a,b,c⟩:=h1;obtain ⟨D,rfl,d,e⟩:=h2;exact ⟨rb,C,D,rfl,a,b,c,d,e⟩
theorem qnx {sb:Nat} {s:Qj} {g:List ak} (h:Jc sb s g) (hn:s.recs.length<=64) (k:Int):Qe prog 227 #[Qb sb,WK WN k] [g] (WK WO (s.period k)):=by
 obtain ⟨rb,C,D,rfl,h1,h2,h3,h4,h5⟩:=h.open;refine GO fun w HT=>?_
 have c0:=(HT.c 0 0 0).trans h2;by_cases hk:s.has k
 ·obtain ⟨j,rfl⟩:=Qj.eP hk
  obtain ⟨r,hr,hr'⟩:=Qj.fC hk;have HP:=Vh (show s.period j=r.p from by unfold Qj.period;rw [if_pos hk,hr']);have c1:=(HT.cell 0 1 rfl (j*6+5)).trans (h5 j r hr).2.2;have hj:j<s.recs.length:=by unfold Qj.has at hk;omega
  clear h1 h2 h3 h4 h5 h hk hr hr';generalize s.recs.length=n at *
  have CV:∀ w',w'.cell? ⟨sb,0,none⟩=some (.slice (some ⟨rb,0,none⟩) n n)->Calls prog 99 #[Qb sb,WK WN (j:Int)] w' fun e w2=>e=WR (.pointer (some ⟨rb,j*6,none⟩))/\w'=w2:=by
   intro w' c0';clear c0 c1 HT;go_enter func99,ntmps99
   go_wp2
   go_ret
   exact ⟨rfl,rfl⟩
  have HAT:=Vh (CV w c0);clear CV;go_enter func227,ntmps227
  go_wp2_with fail
  refine (HAT).mono ?_
  rintro e w2 ⟨rfl,rfl⟩;go_wp2
  go_ret
  exact ⟨by rw [HP.out];rfl,0,rfl⟩
 ·have HP:=Vh (show s.period k=0 from if_neg hk)
  have hk':¬ (0<=k/\k<s.recs.length):=hk;clear h1 h2 h3 h4 h5 h hk;generalize s.recs.length=n at *
  have CV:∀ w',w'.cell? ⟨sb,0,none⟩=some (.slice (some ⟨rb,0,none⟩) n n)->Calls prog 99 #[Qb sb,WK WN k] w' fun e w2=>e=WR (WW none)/\w'=w2:=by
   intro w' c0';clear c0 HT;by_cases h0:0<=k
   ·have h9:(n:Int)<=k:=by omega
    clear hk';go_enter func99,ntmps99
    go_wp2
    go_ret
    exact ⟨rfl,rfl⟩
   ·have h9:k<0:=by omega
    clear hk' h0;go_enter func99,ntmps99
    go_wp2
    go_ret
    exact ⟨rfl,rfl⟩
  have HAT:=Vh (CV w c0);clear CV hk';go_enter func227,ntmps227
  go_wp2_with fail
  refine (HAT).mono ?_
  rintro e w2 ⟨rfl,rfl⟩;go_wp2
  go_ret
  exact ⟨by rw [HP.out];rfl,0,rfl⟩
section
variable {L:Lay} {x:Qi} {g:List ak} {kb:Nat} {pv rv tv:Value} {k:Qt}
theorem Rb (hx:Qf L x g) (hn:x.aa.recs.length<=64) (i:Int):Qe prog 227 #[Qb L.p.sb,WK WN i] [g] (WK WO (x.aa.period i)):=by
 obtain ⟨tr,gF,gS,gR,gH,gT,h1,h2,h3,h4,h5,h6,rfl⟩:=hx;intro w hw;have T:=(TG.refl hw).m [gF,gS,gR,gH,gT];exact (qnx h2 hn i).use T [1] rfl rfl
theorem KZ:Qe prog 142 #[Qb kb] [Xe kb L.fb pv rv tv k] (WK WO k.period):=by
 by_cases h:k.kind=2
 ·have HE:=Vh (show k.period=k.ig from if_pos h)
  refine GO fun w HT=>?_
  obtain ⟨k3,k6⟩:=HT.c2 0 0 3 6;simp only [Xg,aC] at k3 k6;rw [h] at k3;clear h;go_enter func142,ntmps142
  go_wp2
  go_ret
  exact ⟨by rw [HE.out];rfl,0,rfl⟩
 ·have HE:=Vh (show k.period=0 from if_neg h)
  have hb:(k.kind == 2)=false:=beq_eq_false_iff_ne.2 h;refine GO fun w HT=>?_
  obtain ⟨k3,k6⟩:=HT.c2 0 0 3 6;simp only [Xg,aC] at k3 k6;clear h;go_enter func142,ntmps142
  go_wp2
  go_ret
  exact ⟨by rw [HE.out];rfl,0,rfl⟩
theorem Sb:Qe prog 226 #[Qb kb] [Xe kb L.fb pv rv tv k] (WK WN k.event):=by
 by_cases h:k.kind=4
 ·have HE:=Vh (show k.event=6 from if_pos h)
  refine GO fun w HT=>?_
  have k3:=HT.c 0 0 3;simp only [Xg,aC] at k3;rw [h] at k3;clear h;go_enter func226,ntmps226
  go_wp2
  go_ret
  exact ⟨by rw [HE.out];rfl,0,rfl⟩
 ·have hb:(k.kind == 4)=false:=beq_eq_false_iff_ne.2 h
  by_cases h':k.kind=5
  ·have HE:=Vh (show k.event=7 from (if_neg h).trans (if_pos h'))
   refine GO fun w HT=>?_
   have k3:=HT.c 0 0 3;simp only [Xg,aC] at k3;rw [h'] at k3;clear h h' hb;go_enter func226,ntmps226
   go_wp2
   go_ret
   exact ⟨by rw [HE.out];rfl,0,rfl⟩
  ·have hb':(k.kind == 5)=false:=beq_eq_false_iff_ne.2 h'
   have HE:=Vh (show k.event=8 from (if_neg h).trans (if_neg h'));refine GO fun w HT=>?_
   have k3:=HT.c 0 0 3;simp only [Xg,aC] at k3;clear h h';go_enter func226,ntmps226
   go_wp2
   go_ret
   exact ⟨by rw [HE.out];rfl,0,rfl⟩
theorem Z0 {fn:FuncId} {first aK:Array Value}:Qa prog 80 #[WM (WQ fn) first aK] [] fun e gs=>e=WR (.agg #[WL,WM (WQ fn) first aK])/\gs=[]:=by
 refine GO fun w HT=>?_
 go_enter func80,ntmps80
 go_wp2
 exact WS (v:=.agg #[WL,WM (WQ fn) first aK]) (by simp [results,results80,go_sem]) rfl ⟨_,⟨rfl,rfl⟩,HT.aN _⟩
end
structure qB (x:Qi):Prop where
 aa:Xc x.aa
 i0:0<=x.f.inside
 i1:x.f.inside<=1000000
 tr:x.tr.length<=1000000
 sh:1<=x.au.length
 ring:∀ s∈x.au,zx s.ring
theorem Y3 {s:Qj} (h:Xc s) (k:Int):0<=s.word k/\s.word k<18446744073709551616/\okW (s.word k)=true:=by
 unfold Qj.word;split
 ·next hk =>
  obtain ⟨j,rfl⟩:=Qj.eP hk;obtain ⟨r,hr,hr'⟩:=Qj.fC hk;rw [hr'];have:=h.recs r (List.mem_of_getElem? hr);exact ⟨this.w0,this.w1,this.ok⟩
 ·exact ⟨by omega,by omega,by decide⟩
def r9 (k:Int) (ev:Int) (s:Qj):Qj × Int:=((s.try k (s.word k) ev).1,(s.try k (s.word k) ev).2.1)
def yn (ev:Int) (k:Qt) (s:Qj):Qt:={ k with gen:=X7 (r9 k.slot ev s).2 }
def lookW (k:Qt) (s:Qj):Qt × Int :=
 if s.fK k.id≠0 then (k,s.fK k.id) else
  if s.mine k.id=false then ({ k with slot:=s.slot k.id,aA:=s.word (s.slot k.id) },7)
  else ({ k with slot:=s.slot k.id,aA:=s.word (s.slot k.id) },(Xo (s.word (s.slot k.id)) k.event (decide (0<s.period (s.slot k.id)))).2)
theorem q9i (n e:Int) (p:Bool) (h0:0<=n) (h1:n<18446744073709551616):Qe prog 225 #[WK WO n,WK WN e,.bool p] [] (WT #[WK WO (Xo n e p).1,WK WN (Xo n e p).2]) :=
 fun w hw=>(Gs n e p w h0 h1).mono fun e w' ⟨he,hw'⟩=>⟨he,0,hw'.symm⟩
section
variable {L:Lay} {x:Qi} {g:List ak} {kb:Nat} {pv rv tv:Value} {k:Qt}
theorem Mi (hx:Qf L x g) (ho:qB x) (ev:Int):Qa prog 232 #[Qb kb,WK WN ev] [Xe kb L.fb pv rv tv k,g] fun r gs =>
 r=WR (WT #[])/\∃ g',Qf L { x with aa:=(r9 k.slot ev x.aa).1 } g'/\gs=[Xe kb L.fb pv rv tv (yn ev k x.aa),g']:=by
 obtain ⟨w0,w1,w2⟩:=Y3 ho.aa k.slot;have tb:=My ho.aa k.slot (x.aa.word k.slot) ev w0 w1 w2;have HW:=Vh (zY hx ho.aa.n1 k.slot);have HY:=Vh (show ∀ g',Qf L x g'->_ from fun g' hx'=>BL (g:=g') hx' ho.aa.n1 k.slot (x.aa.word k.slot) ev w0 w1);have HE:=Vh (show r9 k.slot ev x.aa=((x.aa.try k.slot (x.aa.word k.slot) ev).1,(x.aa.try k.slot (x.aa.word k.slot) ev).2.1)/\yn ev k x.aa={ k with gen:=X7 (x.aa.try k.slot (x.aa.word k.slot) ev).2.1 } from ⟨rfl,rfl⟩);have Oz:=Vh tb;refine GO fun w HT=>?_
 obtain ⟨k0,k16⟩:=HT.c2 0 0 0 16;simp only [Xg,aC] at k0 k16;have HX:=Vh hx;clear hx ho w0 w1 w2 tb;go_enter func232,ntmps232
 go_wp2
 refine Mx 9 ?_
 simp only [dx]
 repeat (go_big_quiet_step ((first | (go_at_call 19;with_reducible exact Qe.quiet (Qq HX.out) HT.out _ [1] rfl rfl))))
 refine WU (QT HT fun nq HT=>?_)
 go_wp2_with fail
 refine Qa.run HW HT [1] ?_
 rintro e w1 gs ⟨rfl,g1,hx1,rfl⟩ HT;simp only [PU] at HT;have HX:=Vh hx1;clear hx1 k0 k16;go_wp2_with fail
 refine ⟨rfl,?_⟩
 obtain ⟨k0,k16⟩:=HT.c2 0 0 0 16;simp only [Xg,aC] at k0 k16;go_wp2
 refine Mx 11 ?_
 simp only [dx]
 repeat (go_big_quiet_step ((first | (go_at_call 19;with_reducible exact Qe.quiet (Qq HX.out) HT.out _ [1] rfl rfl))))
 refine WU (QT HT fun nq HT=>?_)
 go_wp2_with fail
 refine Qa.run (HY _ HX) (HT) [1] ?_
 rintro e w1 gs ⟨rfl,g2,hx2,rfl⟩ HT;simp only [PU] at HT;have kH:=Vh hx2;clear hx2 k0 k16;go_wp2_with fail
 refine ⟨rfl,?_⟩
 have k18:=HT.c 0 0 18;have Dg:=HT.f 0 0 18;simp only [Xg,aC] at k18;go_wp2_with (go_at_call 229;refine (Gx _ _ Oz.1 Oz.2).mono ?_;rintro e w' ⟨rfl,rfl⟩)
 exact WY (WZ rfl _ _ _) rfl ⟨_,⟨rfl,g2,by rw [HE.out.1];exact kH,rfl⟩,(HT.set 0 0 rfl 18 _).eq (by rw [HE.out.2];rfl)⟩
theorem UB (hx:Qf L x g) (ho:qB x) (h0:0<=k.id) (h9:k.id<18446744073709551616):Qa prog 187 #[Qb kb] [Xe kb L.fb pv rv tv k,g] fun r gs =>
 r=WR (WK WN (lookW k x.aa).2)/\∃ g',Qf L x g'/\gs=[Xe kb L.fb pv rv tv (lookW k x.aa).1,g']:=by
 have nk:=Vh (show ∀ g',Qf L x g'->_ from fun g' hx'=>q1f (g:=g') hx' ho.aa.n1 k.id h0 h9);by_cases h1:x.aa.fK k.id≠0
 ·have HE:=Vh (show lookW k x.aa=(k,x.aa.fK k.id) from if_pos h1)
  have hb:(x.aa.fK k.id != 0)=true:=bne_iff_ne.2 h1;have HX:=Vh hx;refine GO fun w HT=>?_
  obtain ⟨k0,k15⟩:=HT.c2 0 0 0 15;simp only [Xg,aC] at k0 k15;clear hx ho h0 h9 h1;go_enter func187,ntmps187
  go_wp2
  refine Mx 9 ?_
  simp only [dx]
  repeat (go_big_quiet_step ((first | (go_at_call 19;with_reducible exact Qe.quiet (Qq HX.out) HT.out _ [1] rfl rfl))))
  refine WU (QT HT fun nq HT=>?_)
  go_wp2_with fail
  refine Qa.run (nk _ HX) (HT) [1] ?_
  rintro e w1 gs ⟨rfl,g1,hx1,rfl⟩ HT;simp only [PU] at HT;have HX:=Vh hx1;clear hx1 k0 k15;go_wp2_with fail
  refine ⟨rfl,?_⟩
  go_wp2
  go_ret
  exact ⟨_,⟨by rw [HE.out];rfl,g1,HX,rfl⟩,HT.eq (by rw [HE.out])⟩
 ·have h1:x.aa.fK k.id=0:=by omega
  have FI:=Vh h1;obtain ⟨sl,hsl⟩:∃ sl,x.aa.slot k.id=sl:=⟨_,rfl⟩;have HSL0:=Vh hsl;have lU:=Vh (show ∀ g',Qf L x g'->_ from fun g' hx'=>zY (g:=g') hx' ho.aa.n1 sl);have xG:=Vh (show ∀ g',Qf L x g'->_ from fun g' hx'=>Tx (g:=g') hx' ho.aa.n1 k.id h0 h9);have o6:=Vh (show ∀ g',Qf L x g'->_ from fun g' hx'=>Rb (g:=g') hx' ho.aa.n1 sl);have jo:=Vh (Y3 ho.aa sl);rw [h1,hsl] at nk;have HX:=Vh hx;cases hm:x.aa.mine k.id with
  | false =>
    have HE:=Vh (show lookW k x.aa=({ k with slot:=sl,aA:=x.aa.word sl },7) from by unfold lookW;rw [if_neg (by rw [h1];simp),if_pos hm,hsl]);rw [hm] at xG;refine GO fun w HT=>?_
    obtain ⟨k0,k15⟩:=HT.c2 0 0 0 15;simp only [Xg,aC] at k0 k15;clear hx ho h0 h9 h1 hsl hm;go_enter func187,ntmps187
    go_wp2
    refine Mx 9 ?_
    simp only [dx]
    repeat (go_big_quiet_step ((first | (go_at_call 19;with_reducible exact Qe.quiet (Qq HX.out) HT.out _ [1] rfl rfl))))
    refine WU (QT HT fun nq HT=>?_)
    go_wp2_with fail
    refine Qa.run (nk _ HX) (HT) [1] ?_
    rintro e w1 gs ⟨rfl,g1,hx1,rfl⟩ HT;simp only [PU] at HT;have HX:=Vh hx1;clear hx1 k0 k15;go_wp2_with fail
    refine ⟨rfl,?_⟩
    obtain ⟨k0,k16⟩:=HT.c2 0 0 0 16;have lz:=HT.f 0 0 16;simp only [Xg,aC] at k0 k16;go_wp2_with fail
    have HT:=Vh (HT.out.set 0 0 rfl 16 (WK WN sl));go_wp2_with fail
    refine (Qe.use (Qq HX) (HT) [1] rfl rfl).mono ?_
    rintro e w1 ⟨rfl,mq,rfl⟩;have HT:=Vh (HT.out.drewN mq);go_wp2_with fail
    refine Qa.run (lU _ HX) (HT) [1] ?_
    rintro e w1 gs ⟨rfl,g2,hx2,rfl⟩ HT;simp only [PU] at HT;have HX:=Vh hx2;clear hx2 k0 k16 lz;obtain ⟨k0,k15,k17⟩:=HT.c3 0 0 0 15 17;have yO:=HT.f 0 0 17;simp only [Xg,aC] at k0 k15 k17;go_wp2
    have HT:=Vh (HT.out.set 0 0 rfl 17 (WK WO (x.aa.word sl)));refine Mx 9 ?_
    simp only [dx]
    repeat (go_big_quiet_step ((first | (go_at_call 19;with_reducible exact Qe.quiet (Qq HX.out) HT.out _ [1] rfl rfl))))
    refine WU (QT HT fun nq HT=>?_)
    go_wp2_with fail
    refine Qa.run (xG _ HX) (HT) [1] ?_
    rintro e w1 gs ⟨rfl,g3,hx3,rfl⟩ HT;simp only [PU] at HT;have HX:=Vh hx3;clear hx3 k0 k15 k17 yO;go_wp2_with fail
    refine ⟨rfl,?_⟩
    go_wp2
    go_ret
    exact ⟨_,⟨by rw [HE.out];rfl,g3,HX,rfl⟩,HT.eq (by rw [HE.out];rfl)⟩
  | true =>
    have HE:=Vh (show lookW k x.aa=({ k with slot:=sl,aA:=x.aa.word sl },(Xo (x.aa.word sl) k.event (decide (0<x.aa.period sl))).2) from by unfold lookW;rw [if_neg (by rw [h1];simp),if_neg (by rw [hm];simp),hsl]);rw [hm] at xG;refine GO fun w HT=>?_
    obtain ⟨k0,k15⟩:=HT.c2 0 0 0 15;simp only [Xg,aC] at k0 k15;clear hx ho h0 h9 h1 hsl hm;go_enter func187,ntmps187
    go_wp2
    refine Mx 9 ?_
    simp only [dx]
    repeat (go_big_quiet_step ((first | (go_at_call 19;with_reducible exact Qe.quiet (Qq HX.out) HT.out _ [1] rfl rfl))))
    refine WU (QT HT fun nq HT=>?_)
    go_wp2_with fail
    refine Qa.run (nk _ HX) (HT) [1] ?_
    rintro e w1 gs ⟨rfl,g1,hx1,rfl⟩ HT;simp only [PU] at HT;have HX:=Vh hx1;clear hx1 k0 k15;go_wp2_with fail
    refine ⟨rfl,?_⟩
    obtain ⟨k0,k16⟩:=HT.c2 0 0 0 16;have lz:=HT.f 0 0 16;simp only [Xg,aC] at k0 k16;go_wp2_with fail
    have HT:=Vh (HT.out.set 0 0 rfl 16 (WK WN sl));go_wp2_with fail
    refine (Qe.use (Qq HX) (HT) [1] rfl rfl).mono ?_
    rintro e w1 ⟨rfl,mq,rfl⟩;have HT:=Vh (HT.out.drewN mq);go_wp2_with fail
    refine Qa.run (lU _ HX) (HT) [1] ?_
    rintro e w1 gs ⟨rfl,g2,hx2,rfl⟩ HT;simp only [PU] at HT;have HX:=Vh hx2;clear hx2 k0 k16 lz;obtain ⟨k0,k15,k17⟩:=HT.c3 0 0 0 15 17;have yO:=HT.f 0 0 17;simp only [Xg,aC] at k0 k15 k17;go_wp2
    have HT:=Vh (HT.out.set 0 0 rfl 17 (WK WO (x.aa.word sl)));refine Mx 9 ?_
    simp only [dx]
    repeat (go_big_quiet_step ((first | (go_at_call 19;with_reducible exact Qe.quiet (Qq HX.out) HT.out _ [1] rfl rfl))))
    refine WU (QT HT fun nq HT=>?_)
    go_wp2_with fail
    refine Qa.run (xG _ HX) (HT) [1] ?_
    rintro e w1 gs ⟨rfl,g3,hx3,rfl⟩ HT;simp only [PU] at HT;have HX:=Vh hx3;clear hx3 k0 k15 k17 yO;go_wp2_with fail
    refine ⟨rfl,?_⟩
    have HT:=Vh (HT.out.eq (H':=[Xe kb L.fb pv rv tv { k with slot:=sl,aA:=x.aa.word sl },g3]) rfl);obtain ⟨k0,k17⟩:=HT.c2 0 0 0 17;simp only [Xg,aC] at k0 k17;go_wp2
    go_quiet ((first | (go_at_call 19;with_reducible exact Qe.quiet (Qq HX.out) HT.out _ [1] rfl rfl) | (go_at_call 226;with_reducible exact Qe.quiet (Sb (L:=L)) HT.out _ [0] rfl rfl) | (go_at_call 227;with_reducible exact Qe.quiet (o6.out _ HX.out) HT.out _ [1] rfl rfl) | (go_at_call 225;with_reducible exact Qe.quiet (q9i _ _ _ jo.out.1 jo.out.2.1) HT.out _ [] rfl rfl)))
    have HT:=Vh (HT.out.drewN nq);go_wp2
    go_ret
    exact ⟨_,⟨by rw [HE.out];rfl,g3,HX,rfl⟩,HT.eq (by rw [HE.out])⟩
end
inductive MC where
 | right | enter | gate | asks | bu | bW | fills | looks | again | tries | ends | leaves
inductive AC where
 | aR | bL | eG | drop | bN | bC
abbrev SC:Type:=St MC AC Empty
abbrev ZC:Type:=Qt × Qi
def Ji:SC:=.thn (.ai .bL) .ends
def Zl (k:Qt):SC:=if k.kind=4\/k.kind=5 then .ai .aR else Ji
def Qo (e:Int) (z:ZC):ZC:=(Y1 e z.1,xC z.1 { bO with kind:=9,err:=e } z.2)
def iV (k:Qt):Qt:={ k with err:=0,ok:=true,qX:=k.id,jq:=k.gen }
def Yn (v:Qn) (z:ZC):ZC :=
 match z.1.tk with
 | none=>z
 | some (i,t)=>match z.2.au[i]? with
   | none=>z
   | some s=>({ z.1 with tk:=some (i,(Zn s.ring t v).2.1) },{ z.2 with au:=z.2.au.set i { s with ring:=(Zn s.ring t v).1 } })
def kQ (slot:Int) (x:Qi):Nat:=(slot % (x.au.length:Int)).toNat
def mR (k:Qt):Prop:=k.kind=2/\(k.ig=0\/18446744073709551616<=k.j5+k.ig)
instance (k:Qt):Decidable (mR k):=by unfold mR;infer_instance
def zk (ev:Int) (z:ZC):ZC:=(yn ev z.1 z.2.aa,{ z.2 with aa:=(r9 z.1.slot ev z.2.aa).1 })
def Zo (z:ZC):ZC × Int:=(({ z.1 with gen:=X7 (z.2.aa.try z.1.slot z.1.aA z.1.event).2.1 },{ z.2 with aa:=(z.2.aa.try z.1.slot z.1.aA z.1.event).1 }),(z.2.aa.try z.1.slot z.1.aA z.1.event).2.2)
def Q0 (z:ZC):ZC × Int:=(((lookW z.1 z.2.aa).1,z.2),(lookW z.1 z.2.aa).2)
def qt (z:ZC):Qn:=⟨z.1.id,z.1.slot,z.1.gen,z.1.j5,z.2.aa.period z.1.slot⟩
def qq (E:EvS) (z:ZC):ZC:=(z.1,xC z.1 E z.2)
def ql (z:ZC) (q:ik):SC × ZC :=
 let r:=Zf z.2.aa q
 let x':={ z.2 with aa:=r.1 }
 if r.2.st=1 then (Ji,Qo 2 ({ z.1 with rq:=some r.2 },x'))
 else if r.2.st=2 then (.at none .bu,({ z.1 with rq:=some r.2,id:=r.2.id,slot:=r.2.id % 64,tk:=some (kQ (r.2.id % 64) z.2,X6) },x'))
 else (.at none .asks,({ z.1 with rq:=some r.2 },x'))
def X8 (z:ZC) (i:Nat) (t:Xv) (s:Qs):SC × ZC :=
 let r:=stepT s.ring t
 let z':ZC:=({ z.1 with tk:=some (i,r.2) },{ z.2 with au:=z.2.au.set i { s with ring:=r.1 } })
 if r.2.status=0 then (.at none .bu,z')
 else if r.2.status=1/\z.1.kind=3 then (Ji,Qo 2 z')
 else if r.2.status=1 then (.thn (.aP .eG .drop) .leaves,z')
 else if z.1.kind=3 then (.at none .again,z')
 else (.at none .bW,z')
def Jk:MC->ZC->SC × ZC
 | .ends,z=>(.ai .aR,z)
 | .leaves,z=>(Ji,z)
 | .right,z=>if mR z.1 then (.ai .aR,Qo 1 z) else (.at none .enter,z)
 | .enter,z=>(.at none .gate,(z.1,{ z.2 with f:={ z.2.f with inside:=z.2.f.inside+1 } }))
 | .gate,z=>if z.2.f.closed=true then (Zl z.1,Qo 3 z)
    else if z.1.kind=1\/z.1.kind=2 then (.at none .asks,({ z.1 with rq:=some ⟨z.1.period,0,0,0,0,0⟩ },z.2))
    else (.at none .looks,z)
 | .asks,z=>match z.1.rq with
   | none=>(.nil,z)
   | some q=>ql z q
 | .bu,z=>match z.1.tk with
   | none=>(.nil,z)
   | some (i,t)=>match z.2.au[i]? with
     | none=>(.nil,z)
     | some s=>X8 z i t s
 | .bW,z=>(.at none .fills,qq { bO with kind:=3,id:=(zk 2 z).1.id,gen:=(zk 2 z).1.gen,dl:=(zk 2 z).1.j5,per:=(zk 2 z).1.period } (zk 2 z))
 | .fills,z=>(Ji,(iV (Yn (qt z) z).1,(Yn (qt z) z).2))
 | .looks,z =>
   if (Q0 z).2=0 then
    (if z.1.kind=3 then (.at none .bu,({ (Q0 z).1.1 with tk:=some (kQ (Q0 z).1.1.slot z.2,X6) },z.2)) else (.at none .tries,(Q0 z).1))
   else if (Q0 z).2=1 then (Zl z.1,Qo 1 (Q0 z).1)
   else (Zl z.1,Qo 0 (Q0 z).1)
 | .again,z=>if (Q0 z).2=0 then (.at none .tries,(Q0 z).1) else (.thn (.ai .bC) .leaves,Qo 0 (Q0 z).1)
 | .tries,z =>
   if (Zo z).2≠0 then (if z.1.kind=3 then (.at none .again,(Zo z).1) else (.at none .looks,(Zo z).1))
   else if z.1.kind=3 then (.at none .fills,qq { bO with kind:=6,id:=z.1.id,gen:=(Zo z).1.1.gen,dl:=z.1.j5 } (iV (Zo z).1.1,(Zo z).1.2))
   else if z.1.kind=5 then (.ai .aR,qq { bO with kind:=8,id:=z.1.id,gen:=(Zo z).1.1.gen } (iV (Zo z).1.1,(Zo z).1.2))
   else (.thn (.aP .bN .drop) .ends,qq { bO with kind:=7,id:=z.1.id,gen:=(Zo z).1.1.gen } (iV (Zo z).1.1,(Zo z).1.2))
def bP:AC->ZC->ZC
 | .aR,z=>qq { bO with kind:=2,id:=z.1.qX,gen:=z.1.jq,err:=z.1.err } z
 | .bL,z=>(z.1,{ z.2 with f:={ z.2.f with inside:=Z2 z.2.f.inside } })
 | .eG,z=>Qo 2 (zk 9 z)
 | .drop,z=>(z.1,{ z.2 with aa:=z.2.aa.drop.1 })
 | .bN,z=>zk 10 z
 | .bC,z=>Yn { Qn.zero with slot:=-1 } z
structure Hw (k:Qt) (x:Qi):Prop where
 c0:0<=k.j5/\k.j5<18446744073709551616
 c1:0<=k.ig/\k.ig<18446744073709551616
 id:0<=k.id/\k.id<18446744073709551616
 slot:0<=k.slot
 aA:0<=k.aA/\k.aA<18446744073709551616/\okW k.aA=true
 rq:∀ q,k.rq=some q->x8 x.aa.recs.length q
 tk:∀ i t,k.tk=some (i,t)->uA t/\i<x.au.length
def rH (f:MC) (z:ZC):Prop:=qB z.2/\Hw z.1 z.2/\(match f with
 | .asks=>z.1.rq.isSome=true/\∀ q,z.1.rq=some q->q.st=0
 | .bu | .fills=>z.1.tk.isSome=true
 | _=>True)
def y5 (f:AC) (z:ZC):Prop:=qB z.2/\Hw z.1 z.2/\(match f with
 | .bC=>z.1.tk.isSome=true
 | _=>True)
def Ie (sb:Nat):Option ik->Value->List ak->Prop
 | none,v,g=>v=WW none/\g=[]
 | some q,v,g=>∃ qb,v=Qb qb/\g=jX qb sb q
def Ig (L:Lay):Option (Nat × Xv)->Value->List ak->Prop
 | none,v,g=>v=WW none/\g=[]
 | some (i,t),v,g=>∃ tb q,L.qs[i]?=some q/\v=Qb tb/\g=Xy tb q.rb t
def jQ (L:Lay) (kb:Nat) (pv:Value) (k:Qt) (x:Qi) (gK gF:List ak):Prop :=
 ∃ rv tv gq gt,Ie L.p.sb k.rq rv gq/\Ig L k.tk tv gt/\gK=Xe kb L.fb pv rv tv k++(gq++gt)/\Qf L x gF
def NG (L:Lay) (kb:Nat) (pv:Value) (z:ZC) (gK gF:List ak):Prop:=jQ L kb pv z.1 z.2 gK gF
def JP:MC->FuncId
 | .right=>81
 | .enter=>82
 | .gate=>83
 | .asks=>143
 | .bu=>186
 | .bW=>222
 | .fills=>230
 | .looks=>144
 | .again=>221
 | .tries=>188
 | .ends=>138
 | .leaves=>181
def VMC (kb:Nat) (f:MC) (v:Value) (g:List ak):Prop:=v=WM (WQ (JP f)) #[Qb kb] #[]/\g=[]
def dL (kb:Nat) (fn:FuncId) (v:Value) (g:List ak):Prop:=∃ bk,v=WM (WQ fn) #[] #[Qb bk]/\g=[cl bk 33 #[Qb kb]]
def VAC (kb:Nat):AC->Value->List ak->Prop
 | .aR,v,g=>dL kb 179 v g
 | .bL,v,g=>dL kb 212 v g
 | .eG,v,g=>v=WM (WQ 219) #[Qb kb] #[]/\g=[]
 | .drop,v,g=>v=WM (WQ 220) #[Qb kb] #[]/\g=[]
 | .bN,v,g=>dL kb 231 v g
 | .bC,v,g=>dL kb 255 v g
def mD (L:Lay) (kb:Nat) (pv:Value):aZ :=
 ⟨MC,AC,Empty,ZC,NG L kb pv,VMC kb,VAC kb,fun _ _ _=>False,Jk,bP,(fun y _=>y.elim),rH,y5,fun _ _=>True⟩
def MR (L:Lay) (kb:Nat) (pv:Value) (s:SC) (k:Qt) (x:Qi) (e:Ending) (gs:GH):Prop :=
 ∃ m d g' aY aI,e=WR (.agg #[m,d])/\(mD L kb pv).SV s m d g'/\jQ L kb pv k x aY aI/\gs=[g',aY,aI]
section
variable {L:Lay} {x:Qi} {gK gF:List ak} {kb:Nat} {pv:Value} {k:Qt}
theorem q87 (hz:jQ L kb pv k x gK gF) (hp:rH .enter (k,x)):Qa prog 82 #[Qb kb] [gK,gF] (MR L kb pv (.at none .gate) k { x with f:={ x.f with inside:=x.f.inside+1 } }):=by
 have hi0:=hp.1.i0;have hi1:=hp.1.i1;obtain ⟨rv,tv,gq,gt,hr,ht,rfl,hx⟩:=hz;refine GO fun w HT=>?_
 have HT:=Vh (HT.out.m [Xe kb L.fb pv rv tv k,gq,gt,gF]);have HX:=Vh hx;have HR:=Vh hr;have dZ:=Vh ht;clear hx hr ht;have k0:=HT.c 0 0 0;simp only [Xg,aC] at k0;have lt:=HT.l 0 0;simp only [] at lt;have HE:=Vh (Sv HX ⟨hi0,hi1⟩);clear hp hi0 hi1;go_enter func82,ntmps82
 go_wp2_with fail
 refine Qa.run HE (HT.a _ _) [3] ?_
 rintro e w1 gs ⟨rfl,g1,hx1,rfl⟩ HT;simp only [PU] at HT;have HX:=Vh hx1;clear hx1 k0 lt;go_wp2_with fail
 refine Qa.run Z0 HT [] ?_
 rintro e w1 gs ⟨rfl,rfl⟩ HT;simp only [PU] at HT;obtain ⟨e0,e1⟩:=HT.c2 4 0 0 1;obtain ⟨eX,eD⟩:=HT.f2 4 0 0 1;simp only [aT] at e0 e1;go_wp2
 exact WS (v:=.agg #[WL,WM (WQ 83) #[Qb kb] #[]]) (by simp [results,results82,go_sem,e0,e1]) rfl ⟨_,⟨_,_,[],_,_,rfl,⟨rfl,rfl,rfl⟩,⟨_,_,gq,gt,HR,dZ,rfl,HX⟩,rfl⟩,(((HT.set 4 0 rfl 0 _).set 4 0 rfl 1 _).p [0,1,2,3]).sum⟩
theorem Xn (L:Lay) (kb:Nat) (pv:Value):(mD L kb pv).iA where
 vm h:=⟨_,_,_,h.1⟩
 va {f v g} h:=by
  cases f
  case eG=>exact ⟨_,_,_,h.1⟩
  case drop=>exact ⟨_,_,_,h.1⟩
  all_goals (obtain ⟨bk,h,_⟩:=h;exact ⟨_,_,_,h⟩)
 vy h:=h.elim
def SR (L:Lay) (kb:Nat) (pv:Value) (s:SC) (e:Ending) (gs:GH):Prop:=∃ m d g',e=WR (.agg #[m,d])/\(mD L kb pv).SV s m d g'/\gs=[g']
end
section
variable {L:Lay} {x:Qi} {gK gF:List ak} {kb:Nat} {pv:Value} {k:Qt}
theorem EW (L:Lay) (kb:Nat) (pv:Value):Qa prog 138 #[Qb kb] [] (SR L kb pv (.ai .aR)):=by
 refine GO fun w HT=>?_
 go_enter func138,ntmps138
 go_wp2_with fail
 refine Qa.run (aZ.eO (b:=w.heap.size+1+1) (o:=0) (D:=#[WM (WQ 179) #[] #[Qb w.heap.size]]) rfl 1 (.inl rfl)) (((HT.a _ _).alloc (k:=w.heap.size+1) (by simp) _ _).alloc (k:=w.heap.size+1+1) (by simp) _ _) [2] ?_
 rintro e w1 gs ⟨bf,bl,bi,rfl,rfl⟩ HT;simp only [PU] at HT;obtain ⟨e0,e1⟩:=HT.c2 1 0 0 1;obtain ⟨eX,eD⟩:=HT.f2 1 0 0 1;simp only [aT] at e0 e1;go_wp2
 exact WS (v:=.agg #[WL,_]) (by simp [results,results138,go_sem,e0,e1]) rfl ⟨_,⟨_,_,_,rfl,⟨rfl,bf,bl,bi,w.heap.size+1+1,0,#[WM (WQ 179) #[] #[Qb w.heap.size]],_,_,rfl,⟨w.heap.size,rfl,rfl⟩,rfl,rfl⟩,rfl⟩,(((HT.set 1 0 rfl 0 _).set 1 0 rfl 1 _).p [0,2,3,4,5]).sum⟩
theorem EJ (L:Lay) (kb:Nat) (pv:Value):Qa prog 181 #[Qb kb] [] (SR L kb pv Ji):=by
 have hrow:∀ (bk b bf bl bi:Nat),(mD L kb pv).SV (.ai .bL) WL (WM (WQ 209) #[] #[Qb bf,Qb bl,Qb bi])
  ([cl bf 1 #[WM (WQ 212) #[] #[Qb bk]],cl bl 322 #[.slice (some ⟨b,0,none⟩) 1 1],cl bi 3 #[WK WN 0],cl b 1 #[WM (WQ 212) #[] #[Qb bk]]]++[cl bk 33 #[Qb kb]]) :=
  fun bk b bf bl bi=>⟨rfl,bf,bl,bi,b,0,_,_,_,rfl,⟨bk,rfl,rfl⟩,rfl,rfl⟩
 have fA:∀ (bk b bf bl bi:Nat),_:=fun bk b bf bl bi=>aZ.dD (f:=MC.ends) (v:=WM (WQ 138) #[Qb kb] #[]) (gm:=[]) (Xn L kb pv) rfl (hrow bk b bf bl bi) ⟨rfl,rfl⟩
 refine GO fun w HT=>?_
 have kG:=Vh fA;clear hrow fA;go_enter func181,ntmps181
 go_wp2_with fail
 have HT:=Vh ((HT.a 33 #[Qb kb]).alloc (k:=w.heap.size+1) (by simp) 153 #[WL,WL])
 go_region_with (first
  | (go_at_call 178
     refine (Qa.use (aZ.eO (b:=w.heap.size+1+1) (o:=0) (D:=#[WM (WQ 212) #[] #[Qb w.heap.size]]) rfl 1 (.inl rfl)) (HT.drew.alloc (k:=w.heap.size+1+1) (by simp) _ _) [2] rfl rfl).mono ?_
     rintro e w1 ⟨gs,⟨bf,bl,bi,rfl,rfl⟩,Ta⟩;simp only [PU] at Ta;have b0:=Ta.c 0 0 0;simp only [bR] at b0;have HT1:=Vh (Ta.sum (H':=[[cl bf 1 #[WM (WQ 212) #[] #[Qb w.heap.size]],cl bl 322 #[.slice (some ⟨w.heap.size+1+1,0,none⟩) 1 1],cl bi 3 #[WK WN 0],cl (w.heap.size+1+1) 1 #[WM (WQ 212) #[] #[Qb w.heap.size]]]++[cl w.heap.size 33 #[Qb kb]],[cl (w.heap.size+1) 153 #[WL,WL]],[]]))
     clear Ta)
  | (go_at_call 196
     refine (Qa.use (kG _ _ _ _ _) HT1 [0,2] rfl rfl).mono ?_
     rintro e w2 ⟨gs,⟨m2,d2,g2,rfl,hs2,rfl⟩,Ta⟩;simp only [PU] at Ta;obtain ⟨e0,e1⟩:=Ta.c2 1 0 0 1;obtain ⟨f0,f1⟩:=Ta.f2 1 0 0 1;have hv2:=(Xn L kb pv).vals hs2;obtain ⟨st1,st2⟩:=aZ.aG (P:=prog) hv2.1 hv2.2 e0 f0 e1 f1;clear hv2;have HS2:=Vh hs2;have HT2:=Vh Ta
     clear Ta hs2))
 all_goals
  go_wp2
  exact WS (v:=.agg #[_,_]) (by simp [results,results181,go_sem,e0,e1]) rfl ⟨_,⟨m2,d2,g2,rfl,HS2,rfl⟩,((HT2.set 1 0 rfl 0 _).set 1 0 rfl 1 _).p [0]⟩
end
section
variable {L:Lay} {x:Qi} {gK gF:List ak} {kb:Nat} {pv:Value} {k:Qt}
theorem Le (x y:Int) (hx:0<=x) (hy:0<=y) (h:x+y<18446744073709551616):Qe prog 136 #[WK WO x,WK WO y] [] (WT #[WK WO (x+y),WK WN 0]):=by
 intro w hw
 have ha:∀ w,(callFunc 177 #[WK WO x,WK WO y,WK WO 0]).run prog w=.ok (.value (WT #[WK WO (x+y),WK WO 0])) w:=fun w=>by
  rw [LG x y hx hy w,show (x+y+0) % 18446744073709551616=x+y by omega,show (x+y+0) / 18446744073709551616=0 by omega]
 clear h hx hy hw;go_enter func136,ntmps136
 go_wp2_with (simp only [ha])
 go_ret2
 exact ⟨rfl,0,rfl⟩
theorem Ra (x y:Int) (hx:0<=x) (hy:0<=y) (hx1:x<18446744073709551616) (hy1:y<18446744073709551616) (h:18446744073709551616<=x+y):Qe prog 136 #[WK WO x,WK WO y] [] (WT #[WK WO 0,WK WN 9]):=by
 intro w hw;obtain ⟨z,hz⟩:∃ z,(x+y+0) % 18446744073709551616=z:=⟨_,rfl⟩
 have ha:∀ w,(callFunc 177 #[WK WO x,WK WO y,WK WO 0]).run prog w=.ok (.value (WT #[WK WO z,WK WO 1])) w:=fun w=>by
  rw [LG x y hx hy w,hz,show (x+y+0) / 18446744073709551616=1 by omega]
 clear h hx hy hw hx1 hy1 hz;go_enter func136,ntmps136
 go_wp2_with (simp only [ha])
 go_ret2
 exact ⟨rfl,0,rfl⟩
theorem q6z {rv tv:Value}:Qa prog 140 #[Qb kb] [Xe kb L.fb pv rv tv k] fun e gs=>∃ m d g',e=WR (.agg #[m,d])/\(mD L kb pv).SV (Zl k) m d g'/\gs=[Xe kb L.fb pv rv tv k,g']:=by
 have hk:(k.kind=4/\Zl k=.ai .aR)\/(k.kind=5/\Zl k=.ai .aR)\/(k.kind=k.kind/\Zl k=Ji/\(k.kind == 4)=false/\(k.kind == 5)=false):=by
  by_cases h4:k.kind=4
  ·exact .inl ⟨h4,if_pos (.inl h4)⟩
  ·by_cases h5:k.kind=5
   ·exact .inr (.inl ⟨h5,if_pos (.inr h5)⟩)
   ·exact .inr (.inr ⟨rfl,if_neg (by omega),beq_eq_false_iff_ne.2 h4,beq_eq_false_iff_ne.2 h5⟩)
 rcases hk with ⟨h,HO⟩ | ⟨h,HO⟩ | ⟨h,HO,hb4,hb5⟩
 all_goals
  rw [HO];clear HO;refine GO fun w HT=>?_
  have k3:=HT.c 0 0 3;simp only [Xg,aC] at k3;rw [h] at k3;have lt:=HT.l 0 0;simp only [] at lt;clear h;go_enter func140,ntmps140
  go_wp2_with fail
  first
  | refine (Qa.use (EW L kb pv) (HT.a _ _) [] rfl rfl).mono ?_
  | refine (Qa.use (EJ L kb pv) (HT.a _ _) [] rfl rfl).mono ?_
  rintro e w1 ⟨gs,⟨m2,d2,g2,rfl,hs2,rfl⟩,Ta⟩;simp only [PU] at Ta;have HT:=Vh Ta;clear Ta;obtain ⟨e0,e1⟩:=HT.c2 1 0 0 1;obtain ⟨eX,eD⟩:=HT.f2 1 0 0 1;simp only [aT] at e0 e1;have hv2:=(Xn L kb pv).vals hs2;obtain ⟨st1,st2⟩:=aZ.aG (P:=prog) hv2.1 hv2.2 e0 eX e1 eD;have HS:=Vh hs2;clear hv2 hs2;go_wp2
  exact WS (v:=.agg #[_,_]) (by simp [results,results140,go_sem,e0,e1]) rfl ⟨_,⟨m2,d2,g2,rfl,HS,rfl⟩,((HT.set 1 0 rfl 0 _).set 1 0 rfl 1 _).p [0,2]⟩
end
def jD (L:Lay) (kb:Nat) (pv:Value) (r:SC × ZC):Ending->GH->Prop:=MR L kb pv r.1 r.2.1 r.2.2
section
variable {L:Lay} {x:Qi} {gK gF:List ak} {kb:Nat} {pv:Value} {k:Qt}
theorem q9a (hz:jQ L kb pv k x gK gF) (hp:rH .right (k,x)):Qa prog 81 #[Qb kb] [gK,gF] (jD L kb pv (Jk .right (k,x))):=by
 have dR:=Vh hp.1.tr;obtain ⟨d0,d1⟩:=hp.2.1.c0;obtain ⟨q0,q1⟩:=hp.2.1.c1;simp only at d0 d1 q0 q1 dR;by_cases h2:k.kind=2
 ·by_cases h0:k.ig=0
  ·have HZ:Jk .right (k,x)=(.ai .aR,Qo 1 (k,x)):=if_pos ⟨h2,.inl h0⟩
   have HA:=Vh (Le k.j5 k.ig d0 q0 (by omega));have H0:=Vh h0;clear d0 d1 q0 q1 h0;rw [HZ];unfold jD;dsimp only [Qo]
   clear HZ hp;obtain ⟨rv,tv,gq,gt,hr,ht,rfl,hx⟩:=hz;refine GO fun w HT=>?_
   have HT:=Vh (HT.out.m [Xe kb L.fb pv rv tv k,gq,gt,gF]);have HX:=Vh hx;have HR:=Vh hr;have dZ:=Vh ht;clear hx hr ht;obtain ⟨k3,k5,k6⟩:=HT.c3 0 0 3 5 6;simp only [Xg,aC] at k3 k5 k6;rw [h2] at k3;have lt:=HT.l 0 0;simp only [] at lt;clear h2;go_enter func81,ntmps81
   go_wp2
   have HT:=Vh (HT.out.a 153 #[WL,WL]);go_quiet ((first | (go_at_call 136;with_reducible exact Qe.quiet (HA.out) HT.out _ [] rfl rfl)))
   have HT:=Vh (HT.out.drewN nq);clear k3 k5 k6 lt;have k6:=HT.c 0 0 6;simp only [Xg,aC] at k6;rw [H0.out] at k6;go_wp2_with fail
   refine Qa.run (Ju HX 1 dR) (HT) [0,3] ?_
   rintro e w1 gs ⟨rfl,g1,hx1,rfl⟩ HT;simp only [PU] at HT;have HX:=Vh hx1;clear hx1;go_wp2_with fail
   refine Qa.run (EW L kb pv) (HT) [] ?_
   rintro e w1 gs ⟨m2,d2,g2,rfl,hs2,rfl⟩ HT;simp only [PU] at HT;obtain ⟨e0,e1⟩:=HT.c2 4 0 0 1;obtain ⟨eX,eD⟩:=HT.f2 4 0 0 1;simp only [aT] at e0 e1;have hv2:=(Xn L kb pv).vals hs2;obtain ⟨st1,st2⟩:=aZ.aG (P:=prog) hv2.1 hv2.2 e0 eX e1 eD;have HS:=Vh hs2;clear hv2 hs2;go_wp2
   exact WS (v:=.agg #[_,_]) (by simp [results,results81,go_sem,e0,e1]) rfl ⟨_,⟨m2,d2,g2,_,_,rfl,HS,⟨_,_,gq,gt,HR,dZ,rfl,HX⟩,rfl⟩,(((HT.set 4 0 rfl 0 _).set 4 0 rfl 1 _).p [0,1,2,3,5]).sum⟩
  ·by_cases h9:18446744073709551616<=k.j5+k.ig
   ·have HZ:Jk .right (k,x)=(.ai .aR,Qo 1 (k,x)):=if_pos ⟨h2,.inr h9⟩
    have HA:=Vh (Ra k.j5 k.ig d0 q0 d1 q1 h9);have hb:(k.ig == 0)=false:=beq_eq_false_iff_ne.2 h0;clear d0 d1 q0 q1 h0 h9;rw [HZ];unfold jD;dsimp only [Qo]
    clear HZ hp;obtain ⟨rv,tv,gq,gt,hr,ht,rfl,hx⟩:=hz;refine GO fun w HT=>?_
    have HT:=Vh (HT.out.m [Xe kb L.fb pv rv tv k,gq,gt,gF]);have HX:=Vh hx;have HR:=Vh hr;have dZ:=Vh ht;clear hx hr ht;obtain ⟨k3,k5,k6⟩:=HT.c3 0 0 3 5 6;simp only [Xg,aC] at k3 k5 k6;rw [h2] at k3;have lt:=HT.l 0 0;simp only [] at lt;clear h2;go_enter func81,ntmps81
    go_wp2
    have HT:=Vh (HT.out.a 153 #[WL,WL]);go_quiet ((first | (go_at_call 136;with_reducible exact Qe.quiet (HA.out) HT.out _ [] rfl rfl)))
    have HT:=Vh (HT.out.drewN nq);clear k3 k5 k6 lt;have k6:=HT.c 0 0 6;simp only [Xg,aC] at k6;skip
    go_wp2_with fail
    refine Qa.run (Ju HX 1 dR) (HT) [0,3] ?_
    rintro e w1 gs ⟨rfl,g1,hx1,rfl⟩ HT;simp only [PU] at HT;have HX:=Vh hx1;clear hx1;go_wp2_with fail
    refine Qa.run (EW L kb pv) (HT) [] ?_
    rintro e w1 gs ⟨m2,d2,g2,rfl,hs2,rfl⟩ HT;simp only [PU] at HT;obtain ⟨e0,e1⟩:=HT.c2 4 0 0 1;obtain ⟨eX,eD⟩:=HT.f2 4 0 0 1;simp only [aT] at e0 e1;have hv2:=(Xn L kb pv).vals hs2;obtain ⟨st1,st2⟩:=aZ.aG (P:=prog) hv2.1 hv2.2 e0 eX e1 eD;have HS:=Vh hs2;clear hv2 hs2;go_wp2
    exact WS (v:=.agg #[_,_]) (by simp [results,results81,go_sem,e0,e1]) rfl ⟨_,⟨m2,d2,g2,_,_,rfl,HS,⟨_,_,gq,gt,HR,dZ,rfl,HX⟩,rfl⟩,(((HT.set 4 0 rfl 0 _).set 4 0 rfl 1 _).p [0,1,2,3,5]).sum⟩
   ·have HZ:Jk .right (k,x)=(.at none .enter,(k,x)):=if_neg (show ¬ mR k by unfold mR;omega)
    have HA:=Vh (Le k.j5 k.ig d0 q0 (by omega));have hb:(k.ig == 0)=false:=beq_eq_false_iff_ne.2 h0;clear d0 d1 q0 q1 h0 h9;rw [HZ];unfold jD;dsimp only [Qo]
    clear HZ hp;obtain ⟨rv,tv,gq,gt,hr,ht,rfl,hx⟩:=hz;refine GO fun w HT=>?_
    have HT:=Vh (HT.out.m [Xe kb L.fb pv rv tv k,gq,gt,gF]);have HX:=Vh hx;have HR:=Vh hr;have dZ:=Vh ht;clear hx hr ht;obtain ⟨k3,k5,k6⟩:=HT.c3 0 0 3 5 6;simp only [Xg,aC] at k3 k5 k6;rw [h2] at k3;have lt:=HT.l 0 0;simp only [] at lt;clear h2;go_enter func81,ntmps81
    go_wp2
    have HT:=Vh (HT.out.a 153 #[WL,WL]);go_quiet ((first | (go_at_call 136;with_reducible exact Qe.quiet (HA.out) HT.out _ [] rfl rfl)))
    have HT:=Vh (HT.out.drewN nq);clear k3 k5 k6 lt;have k6:=HT.c 0 0 6;simp only [Xg,aC] at k6;go_wp2_with fail
    refine Qa.run Z0 HT [] ?_
    rintro e w1 gs ⟨rfl,rfl⟩ HT;simp only [PU] at HT;obtain ⟨e0,e1⟩:=HT.c2 4 0 0 1;obtain ⟨eX,eD⟩:=HT.f2 4 0 0 1;simp only [aT] at e0 e1;go_wp2
    exact WS (v:=.agg #[WL,WM (WQ 82) #[Qb kb] #[]]) (by simp [results,results81,go_sem,e0,e1]) rfl ⟨_,⟨_,_,[],_,_,rfl,⟨rfl,rfl,rfl⟩,⟨_,_,gq,gt,HR,dZ,rfl,HX⟩,rfl⟩,(((HT.set 4 0 rfl 0 _).set 4 0 rfl 1 _).p [0,1,2,3]).sum⟩
 ·have HZ:Jk .right (k,x)=(.at none .enter,(k,x)):=if_neg (fun h=>h2 h.1)
  have hb:(k.kind == 2)=false:=beq_eq_false_iff_ne.2 h2;clear d0 d1 q0 q1;rw [HZ];unfold jD;dsimp only [Qo]
  clear HZ hp h2;obtain ⟨rv,tv,gq,gt,hr,ht,rfl,hx⟩:=hz;refine GO fun w HT=>?_
  have HT:=Vh (HT.out.m [Xe kb L.fb pv rv tv k,gq,gt,gF]);have HX:=Vh hx;have HR:=Vh hr;have dZ:=Vh ht;clear hx hr ht;have k3:=HT.c 0 0 3;simp only [Xg,aC] at k3;have lt:=HT.l 0 0;simp only [] at lt;go_enter func81,ntmps81
  go_wp2_with fail
  have HT:=Vh (HT.out.a 153 #[WL,WL]);clear k3 lt;go_wp2_with fail
  refine Qa.run Z0 HT [] ?_
  rintro e w1 gs ⟨rfl,rfl⟩ HT;simp only [PU] at HT;obtain ⟨e0,e1⟩:=HT.c2 4 0 0 1;obtain ⟨eX,eD⟩:=HT.f2 4 0 0 1;simp only [aT] at e0 e1;go_wp2
  exact WS (v:=.agg #[WL,WM (WQ 82) #[Qb kb] #[]]) (by simp [results,results81,go_sem,e0,e1]) rfl ⟨_,⟨_,_,[],_,_,rfl,⟨rfl,rfl,rfl⟩,⟨_,_,gq,gt,HR,dZ,rfl,HX⟩,rfl⟩,(((HT.set 4 0 rfl 0 _).set 4 0 rfl 1 _).p [0,1,2,3]).sum⟩
theorem zbr (hz:jQ L kb pv k x gK gF) (hp:rH .gate (k,x)):Qa prog 83 #[Qb kb] [gK,gF] (jD L kb pv (Jk .gate (k,x))):=by
 have dR:=Vh hp.1.tr;simp only at dR;obtain ⟨c,hc⟩:∃ c,x.f.closed=c:=⟨_,rfl⟩;obtain ⟨RS,il⟩:∃ RS,Jk .gate (k,x)=RS:=⟨_,rfl⟩;have HE:=Vh (And.intro il hc);rw [il];clear il;unfold jD;clear hp;obtain ⟨rv,tv,gq,gt,hr,ht,rfl,hx⟩:=hz;refine GO fun w HT=>?_
 have HT:=Vh (HT.out.m [Xe kb L.fb pv rv tv k,gq,gt,gF]);have HX:=Vh hx;have HR:=Vh hr;have dZ:=Vh ht;clear hx hr ht;have k0:=HT.c 0 0 0;simp only [Xg,aC] at k0;have lt:=HT.l 0 0;simp only [] at lt;have jU:=Vh (Lr HX);rw [hc] at jU;clear hc;go_enter func83,ntmps83
 go_wp2_with fail
 refine Qa.run jU (HT.a _ _) [3] ?_
 rintro e w1 gs ⟨rfl,g1,hx1,rfl⟩ HT;simp only [PU] at HT;have HX:=Vh hx1;clear hx1 k0 lt;obtain ⟨k0,k3⟩:=HT.c2 0 0 0 3;simp only [Xg,aC] at k0 k3;obtain ⟨he,hc⟩:=HE.out;clear HE;cases c with
 | true =>
   have HZ:Jk .gate (k,x)=(Zl k,Qo 3 (k,x)):=if_pos hc;rw [HZ] at he;dsimp only [Qo] at he
   subst he;clear k0 k3 HZ hc;go_wp2_with fail
   refine Qa.run (Ju HX 3 dR) (HT) [0,3] ?_
   rintro e w1 gs ⟨rfl,g1,hx1,rfl⟩ HT;simp only [PU] at HT;have HX:=Vh hx1;clear hx1;go_wp2_with fail
   refine Qa.run q6z HT [0] ?_
   rintro e w1 gs ⟨m2,d2,g2,rfl,hs2,rfl⟩ HT;simp only [PU] at HT;obtain ⟨e0,e1⟩:=HT.c2 4 0 0 1;obtain ⟨eX,eD⟩:=HT.f2 4 0 0 1;simp only [aT] at e0 e1;have hv2:=(Xn L kb pv).vals hs2;obtain ⟨st1,st2⟩:=aZ.aG (P:=prog) hv2.1 hv2.2 e0 eX e1 eD;have HS:=Vh hs2;clear hv2 hs2;go_wp2
   exact WS (v:=.agg #[_,_]) (by simp [results,results83,go_sem,e0,e1]) rfl ⟨_,⟨m2,d2,g2,_,_,rfl,HS,⟨_,_,gq,gt,HR,dZ,rfl,HX⟩,rfl⟩,(((HT.set 4 0 rfl 0 _).set 4 0 rfl 1 _).p [0,1,2,3,5]).sum⟩
 | false =>
   by_cases h2:k.kind=2
   ·have HZ:Jk .gate (k,x)=(.at none .asks,({ k with rq:=some ⟨k.period,0,0,0,0,0⟩ },x)):=(if_neg (by simp [hc])).trans (if_pos (.inr h2))
    rw [HZ] at he;subst he;clear HZ hc;rw [h2] at k3;go_wp2_with fail
    refine Qe.run (Qq HX) HT [3] ?_
    rintro e wq rfl HT;go_wp2_with fail
    refine Qe.run (KZ (L:=L)) HT [0] ?_
    rintro e wq rfl HT;go_wp2_with fail
    refine Qa.run (Rq _ _) (HT) [] ?_
    rintro e w1 gs ⟨qb,rfl,rfl⟩ HT;simp only [PU] at HT;have k13:=HT.c 0 0 13;have nK:=HT.f 0 0 13;simp only [Xg,aC] at k13;go_wp2_with fail
    have HT:=Vh ((HT.set 0 0 rfl 13 (Qb qb)).eq (H':=[Xe kb L.fb pv (Qb qb) tv { k with rq:=some ⟨k.period,0,0,0,0,0⟩ },gq,gt,g1,[cl w.heap.size 153 #[WL,WL]],jX qb L.p.sb ⟨k.period,0,0,0,0,0⟩]) rfl);clear k0 k3 k13 nK h2;go_wp2_with fail
    refine Qa.run Z0 HT [] ?_
    rintro e w1 gs ⟨rfl,rfl⟩ HT;simp only [PU] at HT;obtain ⟨e0,e1⟩:=HT.c2 4 0 0 1;obtain ⟨eX,eD⟩:=HT.f2 4 0 0 1;simp only [aT] at e0 e1;go_wp2
    exact WS (v:=.agg #[WL,WM (WQ 143) #[Qb kb] #[]]) (by simp [results,results83,go_sem,e0,e1]) rfl ⟨_,⟨_,_,[],_,_,rfl,⟨rfl,rfl,rfl⟩,⟨_,_,(jX qb L.p.sb ⟨k.period,0,0,0,0,0⟩),gt,⟨qb,rfl,rfl⟩,dZ,rfl,HX⟩,rfl⟩,(((HT.set 4 0 rfl 0 _).set 4 0 rfl 1 _).p [0,5,2,3]).sum⟩
   ·by_cases h1:k.kind=1
    ·have HZ:Jk .gate (k,x)=(.at none .asks,({ k with rq:=some ⟨k.period,0,0,0,0,0⟩ },x)):=(if_neg (by simp [hc])).trans (if_pos (.inl h1))
     rw [HZ] at he;subst he;clear HZ hc;have h2:=h1;clear h1;rw [h2] at k3;go_wp2_with fail
     refine Qe.run (Qq HX) HT [3] ?_
     rintro e wq rfl HT;go_wp2_with fail
     refine Qe.run (KZ (L:=L)) HT [0] ?_
     rintro e wq rfl HT;go_wp2_with fail
     refine Qa.run (Rq _ _) (HT) [] ?_
     rintro e w1 gs ⟨qb,rfl,rfl⟩ HT;simp only [PU] at HT;have k13:=HT.c 0 0 13;have nK:=HT.f 0 0 13;simp only [Xg,aC] at k13;go_wp2_with fail
     have HT:=Vh ((HT.set 0 0 rfl 13 (Qb qb)).eq (H':=[Xe kb L.fb pv (Qb qb) tv { k with rq:=some ⟨k.period,0,0,0,0,0⟩ },gq,gt,g1,[cl w.heap.size 153 #[WL,WL]],jX qb L.p.sb ⟨k.period,0,0,0,0,0⟩]) rfl);clear k0 k3 k13 nK h2;go_wp2_with fail
     refine Qa.run Z0 HT [] ?_
     rintro e w1 gs ⟨rfl,rfl⟩ HT;simp only [PU] at HT;obtain ⟨e0,e1⟩:=HT.c2 4 0 0 1;obtain ⟨eX,eD⟩:=HT.f2 4 0 0 1;simp only [aT] at e0 e1;go_wp2
     exact WS (v:=.agg #[WL,WM (WQ 143) #[Qb kb] #[]]) (by simp [results,results83,go_sem,e0,e1]) rfl ⟨_,⟨_,_,[],_,_,rfl,⟨rfl,rfl,rfl⟩,⟨_,_,(jX qb L.p.sb ⟨k.period,0,0,0,0,0⟩),gt,⟨qb,rfl,rfl⟩,dZ,rfl,HX⟩,rfl⟩,(((HT.set 4 0 rfl 0 _).set 4 0 rfl 1 _).p [0,5,2,3]).sum⟩
    ·have HZ:Jk .gate (k,x)=(.at none .looks,(k,x)):=(if_neg (by simp [hc])).trans (if_neg (by simp;omega))
     rw [HZ] at he;subst he;have hb1:(k.kind == 1)=false:=beq_eq_false_iff_ne.2 h1;have hb2:(k.kind == 2)=false:=beq_eq_false_iff_ne.2 h2;clear h1 h2 HZ hc;go_wp2_with fail
     refine Qa.run Z0 HT [] ?_
     rintro e w1 gs ⟨rfl,rfl⟩ HT;simp only [PU] at HT;obtain ⟨e0,e1⟩:=HT.c2 4 0 0 1;obtain ⟨eX,eD⟩:=HT.f2 4 0 0 1;simp only [aT] at e0 e1;go_wp2
     exact WS (v:=.agg #[WL,WM (WQ 144) #[Qb kb] #[]]) (by simp [results,results83,go_sem,e0,e1]) rfl ⟨_,⟨_,_,[],_,_,rfl,⟨rfl,rfl,rfl⟩,⟨_,_,gq,gt,HR,dZ,rfl,HX⟩,rfl⟩,(((HT.set 4 0 rfl 0 _).set 4 0 rfl 1 _).p [0,1,2,3]).sum⟩
end
theorem Uu {s:Qj} {q:ik} (hs:Xc s) (hq:x8 s.recs.length q) (h0:q.st=0) (h2:(Zf s q).2.st=2):0<=(Zf s q).2.id/\(Zf s q).2.id<18446744073709551616:=by
 unfold Zf at h2 |-;rw [if_neg (by omega)] at h2 |-;split at h2
 ·unfold rF at h2
  split at h2 <;> simp [h0] at h2
 ·split at h2
  ·unfold qH at h2
   split at h2 <;> simp [h0] at h2
  ·next h3 h4 =>
   rw [if_neg h3,if_neg h4];unfold om at h2 |-;simp only at h2 |-;split at h2
   ·next h5 =>
    rw [if_pos h5];have hsl:q.slot.toNat<s.recs.length:=by have:=hq.gX;have:=hq.iw;omega
    have hr:=hs.recs _ (List.getElem_mem hsl);have e:s.recs.getD q.slot.toNat Rec.zero=s.recs[q.slot.toNat]:=by simp [hsl]
    rw [e];have hg:=(uH _ hr.w0 hr.ok).2.2.2;have g0:=hr.g0;have g1:=hr.g1;have a:=hq.gX;have b:=hq.iw;have c:=hs.n1;generalize s.recs[q.slot.toNat]=r at *;simp only;omega
   ·simp [h0] at h2
theorem qy2 (b rb lb wb:Nat):Qa prog 185 #[Qb b] [Xl b rb lb wb] fun e gs=>∃ tb,e=WR (Qb tb)/\gs=[Xl b rb lb wb,Xy tb rb X6]:=by
 refine GO fun w HT=>?_
 go_enter func185,ntmps185
 go_wp2_with fail
 refine Qa.run (Jm b rb lb wb) (HT) [0] ?_
 rintro e w1 gs ⟨rfl,rfl⟩ HT;simp only [PU] at HT;have hf:=fun w=>(J8 (Qb rb) (Qb lb) (Qb wb) w).1
 go_wp2_with fail
 refine Qa.run (qp7 rb) (HT) [] ?_
 rintro e w1 gs ⟨tb,rfl,rfl⟩ HT;simp only [PU] at HT;go_wp2
 go_ret
 exact ⟨_,⟨_,rfl,rfl⟩,HT⟩
theorem Su {L:Lay} {x:Qi} {g:List ak} (hx:Qf L x g) {i:Nat} {q:gY} {s:Qs} (hq:L.qs[i]?=some q) (hs:x.au[i]?=some s):Qa prog 185 #[Qb q.b] [g] fun e gs=>∃ tb,e=WR (Qb tb)/\∃ g',Qf L x g'/\gs=[g',Xy tb q.rb X6]:=by
 obtain ⟨tr,gF,gS,gR,gH,gT,h1,h2,h3,h4,h5,h6,rfl⟩:=hx;have hz:(L.qs.zip x.au)[i]?=some (q,s):=uk hq hs;obtain ⟨u,y,⟨gr,gl,hr,hl,rfl⟩,hp,hback⟩:=h5.out hz;intro w hw;have T:=(((TG.refl hw).sum (H':=[gF++(gS++(gR++gT)),gH])).bF 1 rfl hp).sum (H':=[gF++(gS++(gR++gT)),Xl q.b q.rb q.lb q.wb,gr,gl,y]);refine (Qa.use (qy2 q.b q.rb q.lb q.wb) T [1] rfl rfl).mono ?_
 rintro e w' ⟨gs,⟨tb,he,rfl⟩,T'⟩;obtain ⟨ny,hf,hp'⟩:=hback (q,s) (Xl q.b q.rb q.lb q.wb++(gr++gl)) ⟨gr,gl,hr,hl,rfl⟩;rw [Yg hz] at hf;refine ⟨_,⟨tb,he,_,⟨tr,gF,gS,gR,ny,gT,h1,h2,h3,h4,hf,h6,rfl⟩,rfl⟩,?_⟩
 exact ((TG.sum (H:=[gF++(gS++(gR++gT)),Xl q.b q.rb q.lb q.wb,gr,gl,y,Xy tb q.rb X6]) (H':=[gF++(gS++(gR++gT)),Xl q.b q.rb q.lb q.wb++(gr++gl)++y,Xy tb q.rb X6]) T').bF 1 rfl hp').sum
theorem Uc {L:Lay} {x:Qi} {g:List ak} (hx:Qf L x g) (hn:1<=x.au.length) {slot:Int} (h0:0<=slot):∃ q s,L.qs[kQ slot x]?=some q/\x.au[kQ slot x]?=some s/\Cb (L.qs.map gY.b) slot=Qb q.b:=by
 obtain ⟨tr,gF,gS,gR,gH,gT,h1,h2,h3,h4,h5,h6,rfl⟩:=hx;have a:0<=slot % (x.au.length:Int):=Int.emod_nonneg _ (by omega);have b:slot % (x.au.length:Int)<x.au.length:=Int.emod_lt_of_pos _ (by omega);have hi:kQ slot x<x.au.length:=by unfold kQ;omega
 have hi':kQ slot x<L.qs.length:=by omega
 refine ⟨L.qs[kQ slot x],x.au[kQ slot x],WV hi',WV hi,?_⟩
 unfold Cb;rw [if_pos h0,List.length_map,h4]
 show Qb ((L.qs.map gY.b).getD (kQ slot x) 0)=_
 rw [List.getD_eq_getElem?_getD,List.getElem?_map,WV hi'];rfl
theorem Qf.len {L:Lay} {x:Qi} {g:List ak} (hx:Qf L x g):L.qs.length=x.au.length:=by
 obtain ⟨tr,gF,gS,gR,gH,gT,h1,h2,h3,h4,_⟩:=hx;exact h4
section
variable {L:Lay} {x:Qi} {gK gF:List ak} {kb:Nat} {pv:Value} {k:Qt}
theorem zbq (hz:jQ L kb pv k x gK gF) (hp:rH .asks (k,x)):Qa prog 143 #[Qb kb] [gK,gF] (jD L kb pv (Jk .asks (k,x))):=by
 obtain ⟨hok,hwk,hpr,hq0⟩:=hp;simp only at hok hwk hpr hq0;obtain ⟨q,tu⟩:=Option.isSome_iff_exists.1 hpr;have hrq:=hwk.rq q tu;have hq0:=hq0 q tu;have pR:=Uu hok.aa hrq hq0;have dR:=Vh hok.tr;have hsh:=hok.sh;have hE:Jk .asks (k,x)=ql (k,x) q:=by show (match k.rq with | none=>_ | some q=>_)=_;rw [tu]
 rw [hE];unfold jQ at hz;rw [tu] at hz;clear hE hwk hpr hq0 tu;obtain ⟨s2,q2,hr2⟩:∃ s2 q2,Zf x.aa q=(s2,q2):=⟨_,_,rfl⟩;rw [hr2] at pR;simp only at pR;obtain ⟨ts,hts⟩:∃ ts,q2.st=ts:=⟨_,rfl⟩;have HR2:=Vh (And.intro hr2 hts);obtain ⟨RS,il⟩:∃ RS,ql (k,x) q=RS:=⟨_,rfl⟩;have HE:=Vh il;rw [il];clear il;unfold jD;obtain ⟨rv,tv,gq,gt,⟨qb,rfl,rfl⟩,ht,rfl,hx⟩:=hz;refine GO fun w HT=>?_
 have HT:=Vh (HT.out.m [Xe kb L.fb pv (Qb qb) tv k,jX qb L.p.sb q,gt,gF]);have HX:=Vh hx;have dZ:=Vh ht;have I9:=Vh (q5w hx qb q hok.aa hrq);rw [hr2] at I9;simp only [hts] at I9;clear hx ht;have k13:=HT.c 0 0 13;simp only [Xg,aC] at k13;have lt:=HT.l 0 0;simp only [] at lt;clear hok hrq hr2 hts;go_enter func143,ntmps143
 go_wp2_with fail
 refine Qa.run I9 (HT.a _ _) [1,3] ?_
 rintro e w1 gs ⟨rfl,g1,hx1,rfl⟩ HT;simp only [PU] at HT;have HX:=Vh hx1;clear hx1 k13 lt;have HT:=Vh (HT.out.eq (H':=[Xe kb L.fb pv (Qb qb) tv { k with rq:=some q2 },jX qb L.p.sb q2,gt,g1,[cl w.heap.size 153 #[WL,WL]]]) rfl);have he:=HE.out;clear HE;by_cases h1:ts=1
 ·have HZ:ql (k,x) q=(Ji,Qo 2 ({ k with rq:=some q2 },{ x with aa:=s2 })):=by unfold ql;simp only [HR2.out.1,HR2.out.2];rw [if_pos h1]
  rw [HZ] at he;dsimp only [Qo] at he
  subst he;clear HZ;subst h1;clear pR hsh;go_wp2_with fail
  refine Qa.run (Ju HX 2 dR) (HT) [0,3] ?_
  rintro e w1 gs ⟨rfl,g1,hx1,rfl⟩ HT;simp only [PU] at HT;have HX:=Vh hx1;clear hx1;go_wp2_with fail
  refine Qa.run (EJ L kb pv) (HT) [] ?_
  rintro e w1 gs ⟨m2,d2,g2,rfl,hs2,rfl⟩ HT;simp only [PU] at HT;obtain ⟨e0,e1⟩:=HT.c2 4 0 0 1;obtain ⟨eX,eD⟩:=HT.f2 4 0 0 1;simp only [aT] at e0 e1;have hv2:=(Xn L kb pv).vals hs2;obtain ⟨st1,st2⟩:=aZ.aG (P:=prog) hv2.1 hv2.2 e0 eX e1 eD;have HS:=Vh hs2;clear hv2 hs2;go_wp2
  exact WS (v:=.agg #[_,_]) (by simp [results,results143,go_sem,e0,e1]) rfl ⟨_,⟨m2,d2,g2,_,_,rfl,HS,⟨_,_,(jX qb L.p.sb q2),gt,⟨qb,rfl,rfl⟩,dZ,rfl,HX⟩,rfl⟩,(((HT.set 4 0 rfl 0 _).set 4 0 rfl 1 _).p [0,1,2,3,5]).sum⟩
 ·by_cases h2:ts=2
  ·obtain ⟨id0,id1⟩:=pR (HR2.2.trans h2)
   have HZ:ql (k,x) q=(.at none .bu,({ k with rq:=some q2,id:=q2.id,slot:=q2.id % 64,tk:=some (kQ (q2.id % 64) x,X6) },{ x with aa:=s2 })):=by unfold ql;simp only [HR2.out.1,HR2.out.2];rw [if_neg h1,if_pos h2]
   rw [HZ] at he;subst he;clear HZ;have sG:=Vh (Vd (qb:=0) L.p.sb q2);have C6:=Vh (HR2.out.2.trans h2);have jV:=Vh hsh;subst h2;clear h1 pR hsh sG;have k13:=HT.c 0 0 13;simp only [Xg,aC] at k13;have sG:=Vh (Vd qb L.p.sb q2);rw [if_pos C6.out,if_pos C6.out] at sG;go_wp2_with fail
   refine Qa.run sG HT [1] ?_
   rintro e w1 gs ⟨rfl,rfl⟩ HT;simp only [PU] at HT;clear k13;obtain ⟨k15,k16⟩:=HT.c2 0 0 15 16;obtain ⟨yN,lz⟩:=HT.f2 0 0 15 16;simp only [Xg,aC] at k15 k16;have i0:0<=q2.id % 64:=by omega
   have i1:q2.id % 64<64:=by omega
   go_wp2
   have HT:=Vh (((HT.set 0 0 rfl 15 (WK WO q2.id)).set 0 0 rfl 16 (WK WN (q2.id % 64))).eq (H':=[Xe kb L.fb pv (Qb qb) tv { k with rq:=some q2,id:=q2.id,slot:=q2.id % 64 },jX qb L.p.sb q2,gt,g1,[cl w.heap.size 153 #[WL,WL]]]) rfl);clear k15 k16 yN lz;generalize WX _ _ _=w2 at HT |-;obtain ⟨qs,ss,kJ,hss,hv⟩:=Uc HX jV i0;have HH:=Vh (RF HX (by rw [HX.out.len];exact jV) (q2.id % 64));rw [hv] at HH;have pE:=Vh kJ;have Io:=Vh (Su HX kJ hss);clear kJ hss hv;obtain ⟨k0,k16⟩:=HT.c2 0 0 0 16;simp only [Xg,aC] at k0 k16;refine Mx 10 ?_
   simp only [dx]
   repeat (go_big_quiet_step ((first | (go_at_call 184;with_reducible exact Qe.quiet (HH.out) HT.out _ [3] rfl rfl))))
   refine WU (QT HT fun nq HT=>?_)
   go_wp2_with fail
   refine Qa.run Io HT [3] ?_
   rintro e w1 gs ⟨tb,rfl,g2,hx2,rfl⟩ HT;simp only [PU] at HT;have HX:=Vh hx2;clear hx2 k0 k16;have k14:=HT.c 0 0 14;have nL:=HT.f 0 0 14;simp only [Xg,aC] at k14;go_wp2_with fail
   refine ⟨rfl,?_⟩
   have HT:=Vh ((HT.set 0 0 rfl 14 (Qb tb)).eq (H':=[Xe kb L.fb pv (Qb qb) (Qb tb) { k with rq:=some q2,id:=q2.id,slot:=q2.id % 64,tk:=some (kQ (q2.id % 64) x,X6) },jX qb L.p.sb q2,gt,g2,[cl w.heap.size 153 #[WL,WL]],Xy tb qs.rb X6]) rfl);clear k14 nL;go_wp2_with fail
   refine Qa.run Z0 HT [] ?_
   rintro e w1 gs ⟨rfl,rfl⟩ HT;simp only [PU] at HT;obtain ⟨e0,e1⟩:=HT.c2 4 0 0 1;obtain ⟨eX,eD⟩:=HT.f2 4 0 0 1;simp only [aT] at e0 e1;go_wp2
   exact WS (v:=.agg #[WL,WM (WQ 186) #[Qb kb] #[]]) (by simp [results,results143,go_sem,e0,e1]) rfl ⟨_,⟨_,_,[],_,_,rfl,⟨rfl,rfl,rfl⟩,⟨_,_,(jX qb L.p.sb q2),(Xy tb qs.rb X6),⟨qb,rfl,rfl⟩,⟨tb,qs,pE,rfl,rfl⟩,rfl,HX⟩,rfl⟩,(((HT.set 4 0 rfl 0 _).set 4 0 rfl 1 _).p [0,1,5,3]).sum⟩
  ·have HZ:ql (k,x) q=(.at none .asks,({ k with rq:=some q2 },{ x with aa:=s2 })):=by unfold ql;simp only [HR2.out.1,HR2.out.2];rw [if_neg h1,if_neg h2]
   rw [HZ] at he;subst he;clear HZ;have hb1:(ts == 1)=false:=beq_eq_false_iff_ne.2 h1;have hb2:(ts == 2)=false:=beq_eq_false_iff_ne.2 h2;clear h1 h2 pR hsh;go_wp2_with fail
   refine Qa.run Z0 HT [] ?_
   rintro e w1 gs ⟨rfl,rfl⟩ HT;simp only [PU] at HT;obtain ⟨e0,e1⟩:=HT.c2 4 0 0 1;obtain ⟨eX,eD⟩:=HT.f2 4 0 0 1;simp only [aT] at e0 e1;go_wp2
   exact WS (v:=.agg #[WL,WM (WQ 143) #[Qb kb] #[]]) (by simp [results,results143,go_sem,e0,e1]) rfl ⟨_,⟨_,_,[],_,_,rfl,⟨rfl,rfl,rfl⟩,⟨_,_,(jX qb L.p.sb q2),gt,⟨qb,rfl,rfl⟩,dZ,rfl,HX⟩,rfl⟩,(((HT.set 4 0 rfl 0 _).set 4 0 rfl 1 _).p [0,1,2,3]).sum⟩
end
theorem Gr (k:Qt) (s:Qj) (h:0<=k.slot) (hi:0<=k.id):(lookW k s).1.kind=k.kind/\(lookW k s).1.rq=k.rq/\(lookW k s).1.tk=k.tk/\0<=(lookW k s).1.slot:=by
 have hs:0<=s.slot k.id:=by unfold Qj.slot;split <;> omega
 unfold lookW;split
 ·exact ⟨rfl,rfl,rfl,h⟩
 ·split
  ·exact ⟨rfl,rfl,rfl,hs⟩
  ·exact ⟨rfl,rfl,rfl,hs⟩
theorem Tc {k k2:Qt} (h:k2.kind=k.kind):Zl k=Zl k2:=by unfold Zl;rw [h]
section
variable {L:Lay} {x:Qi} {gK gF:List ak} {kb:Nat} {pv:Value} {k:Qt}
theorem q89 (hz:jQ L kb pv k x gK gF) (hp:rH .looks (k,x)):Qa prog 144 #[Qb kb] [gK,gF] (jD L kb pv (Jk .looks (k,x))):=by
 obtain ⟨hok,hwk,_⟩:=hp;simp only at hok hwk;have dR:=Vh hok.tr;have jV:=Vh hok.sh;have iI:=Vh (show ∀ g rv tv,Qf L x g->_ from fun g rv tv hx=>UB (kb:=kb) (pv:=pv) (rv:=rv) (tv:=tv) (k:=k) (g:=g) hx hok hwk.id.1 hwk.id.2);have hkeep:=Gr k x.aa hwk.slot hwk.id.1
 have hE:∀ k2 er,lookW k x.aa=(k2,er)->Jk .looks (k,x)=if er=0 then (if k.kind=3 then (.at none .bu,({ k2 with tk:=some (kQ k2.slot x,X6) },x)) else (.at none .tries,(k2,x))) else if er=1 then (Zl k,Qo 1 (k2,x)) else (Zl k,Qo 0 (k2,x)):=by
  intro k2 er h
  show (if (lookW k x.aa).2=0 then _ else _)=_
  simp only [Q0,h]
 obtain ⟨k2,er,hl⟩:∃ k2 er,lookW k x.aa=(k2,er):=⟨_,_,rfl⟩;obtain ⟨RS,il⟩:∃ RS,Jk .looks (k,x)=RS:=⟨_,rfl⟩;have HE:=Vh (il.symm.trans (hE k2 er hl));rw [il];rw [hl] at iI hkeep;simp only at hkeep;clear hE hl hok hwk il;unfold jD;obtain ⟨hkk,hkr,hkt,hks⟩:=hkeep;obtain ⟨rv,tv,gq,gt,hr,ht,rfl,hx⟩:=hz;refine GO fun w HT=>?_
 have HT:=Vh (HT.out.m [Xe kb L.fb pv rv tv k,gq,gt,gF]);have HX:=Vh hx;have HR:=Vh (show Ie L.p.sb k2.rq rv gq from hkr ▸ hr);have dZ:=Vh (show Ig L k2.tk tv gt from hkt ▸ ht);have HKK:=Vh hkk;clear hx hr ht hkr hkt hkk;have HT:=Vh (HT.out.a 153 #[WL,WL]);go_enter func144,ntmps144
 go_wp2_with fail
 refine Qa.run (iI _ _ _ HX) (HT) [0,3] ?_
 rintro e w1 gs ⟨rfl,g1,hx1,rfl⟩ HT;simp only [PU] at HT;have HX:=Vh hx1;clear hx1;have he:=HE.out;clear HE;by_cases h0:er=0
 ·rw [if_pos h0] at he
  subst h0;have k3:=HT.c 0 0 3;simp only [Xg,aC] at k3;rw [HKK.out] at k3;by_cases h3:k.kind=3
  ·rw [if_pos h3] at he
   subst he;have i0:=hks;rw [h3] at k3;clear h3;go_wp2
   clear k3;obtain ⟨qs,ss,kJ,hss,hv⟩:=Uc HX jV i0;have HH:=Vh (RF HX (by rw [HX.out.len];exact jV) k2.slot);rw [hv] at HH;have pE:=Vh kJ;have Io:=Vh (Su HX kJ hss);clear kJ hss hv;obtain ⟨k0,k16⟩:=HT.c2 0 0 0 16;simp only [Xg,aC] at k0 k16;refine Mx 10 ?_
   simp only [dx]
   repeat (go_big_quiet_step ((first | (go_at_call 184;with_reducible exact Qe.quiet (HH.out) HT.out _ [3] rfl rfl))))
   refine WU (QT HT fun nq HT=>?_)
   go_wp2_with fail
   refine Qa.run Io HT [3] ?_
   rintro e w1 gs ⟨tb,rfl,g2,hx2,rfl⟩ HT;simp only [PU] at HT;have HX:=Vh hx2;clear hx2 k0 k16;have k14:=HT.c 0 0 14;have nL:=HT.f 0 0 14;simp only [Xg,aC] at k14;go_wp2_with fail
   refine ⟨rfl,?_⟩
   have HT:=Vh ((HT.set 0 0 rfl 14 (Qb tb)).eq (H':=[Xe kb L.fb pv rv (Qb tb) { k2 with tk:=some (kQ k2.slot x,X6) },gq,gt,g2,[cl w.heap.size 153 #[WL,WL]],Xy tb qs.rb X6]) rfl);clear k14 nL;go_wp2_with fail
   refine Qa.run Z0 HT [] ?_
   rintro e w1 gs ⟨rfl,rfl⟩ HT;simp only [PU] at HT;obtain ⟨e0,e1⟩:=HT.c2 4 0 0 1;obtain ⟨eX,eD⟩:=HT.f2 4 0 0 1;simp only [aT] at e0 e1;go_wp2
   exact WS (v:=.agg #[WL,WM (WQ 186) #[Qb kb] #[]]) (by simp [results,results144,go_sem,e0,e1]) rfl ⟨_,⟨_,_,[],_,_,rfl,⟨rfl,rfl,rfl⟩,⟨_,_,gq,(Xy tb qs.rb X6),HR,⟨tb,qs,pE,rfl,rfl⟩,rfl,HX⟩,rfl⟩,(((HT.set 4 0 rfl 0 _).set 4 0 rfl 1 _).p [0,1,5,3]).sum⟩
  ·rw [if_neg h3] at he
   subst he;have hb3:(k.kind == 3)=false:=beq_eq_false_iff_ne.2 h3;clear h3;go_wp2_with fail
   refine Qa.run Z0 HT [] ?_
   rintro e w1 gs ⟨rfl,rfl⟩ HT;simp only [PU] at HT;obtain ⟨e0,e1⟩:=HT.c2 4 0 0 1;obtain ⟨eX,eD⟩:=HT.f2 4 0 0 1;simp only [aT] at e0 e1;go_wp2
   exact WS (v:=.agg #[WL,WM (WQ 188) #[Qb kb] #[]]) (by simp [results,results144,go_sem,e0,e1]) rfl ⟨_,⟨_,_,[],_,_,rfl,⟨rfl,rfl,rfl⟩,⟨_,_,gq,gt,HR,dZ,rfl,HX⟩,rfl⟩,(((HT.set 4 0 rfl 0 _).set 4 0 rfl 1 _).p [0,1,2,3]).sum⟩
 ·rw [if_neg h0] at he
  have hb0:(er == 0)=false:=beq_eq_false_iff_ne.2 h0;clear h0;by_cases h1:er=1
  ·rw [if_pos h1,Tc (k:=k) (k2:=Y1 1 k2) HKK.out] at he
   dsimp only [Qo] at he
   subst h1 he;go_wp2_with fail
   refine Qa.run (Ju HX 1 dR) (HT) [0,3] ?_
   rintro e w1 gs ⟨rfl,g1,hx1,rfl⟩ HT;simp only [PU] at HT;have HX:=Vh hx1;clear hx1;go_wp2_with fail
   refine Qa.run q6z HT [0] ?_
   rintro e w1 gs ⟨m2,d2,g2,rfl,hs2,rfl⟩ HT;simp only [PU] at HT;obtain ⟨e0,e1⟩:=HT.c2 4 0 0 1;obtain ⟨eX,eD⟩:=HT.f2 4 0 0 1;simp only [aT] at e0 e1;have hv2:=(Xn L kb pv).vals hs2;obtain ⟨st1,st2⟩:=aZ.aG (P:=prog) hv2.1 hv2.2 e0 eX e1 eD;have HS:=Vh hs2;clear hv2 hs2;go_wp2
   exact WS (v:=.agg #[_,_]) (by simp [results,results144,go_sem,e0,e1]) rfl ⟨_,⟨m2,d2,g2,_,_,rfl,HS,⟨_,_,gq,gt,HR,dZ,rfl,HX⟩,rfl⟩,(((HT.set 4 0 rfl 0 _).set 4 0 rfl 1 _).p [0,1,2,3,5]).sum⟩
  ·rw [if_neg h1,Tc (k:=k) (k2:=Y1 0 k2) HKK.out] at he
   dsimp only [Qo] at he
   subst he;have hb1:(er == 1)=false:=beq_eq_false_iff_ne.2 h1;clear h1;go_wp2_with fail
   refine Qa.run (Ju HX 0 dR) (HT) [0,3] ?_
   rintro e w1 gs ⟨rfl,g1,hx1,rfl⟩ HT;simp only [PU] at HT;have HX:=Vh hx1;clear hx1;go_wp2_with fail
   refine Qa.run q6z HT [0] ?_
   rintro e w1 gs ⟨m2,d2,g2,rfl,hs2,rfl⟩ HT;simp only [PU] at HT;obtain ⟨e0,e1⟩:=HT.c2 4 0 0 1;obtain ⟨eX,eD⟩:=HT.f2 4 0 0 1;simp only [aT] at e0 e1;have hv2:=(Xn L kb pv).vals hs2;obtain ⟨st1,st2⟩:=aZ.aG (P:=prog) hv2.1 hv2.2 e0 eX e1 eD;have HS:=Vh hs2;clear hv2 hs2;go_wp2
   exact WS (v:=.agg #[_,_]) (by simp [results,results144,go_sem,e0,e1]) rfl ⟨_,⟨m2,d2,g2,_,_,rfl,HS,⟨_,_,gq,gt,HR,dZ,rfl,HX⟩,rfl⟩,(((HT.set 4 0 rfl 0 _).set 4 0 rfl 1 _).p [0,1,2,3,5]).sum⟩
theorem q86 (hz:jQ L kb pv k x gK gF) (hp:rH .again (k,x)):Qa prog 221 #[Qb kb] [gK,gF] (jD L kb pv (Jk .again (k,x))):=by
 obtain ⟨hok,hwk,_⟩:=hp;simp only at hok hwk;have dR:=Vh hok.tr;have iI:=Vh (show ∀ g rv tv,Qf L x g->_ from fun g rv tv hx=>UB (kb:=kb) (pv:=pv) (rv:=rv) (tv:=tv) (k:=k) (g:=g) hx hok hwk.id.1 hwk.id.2);have hkeep:=Gr k x.aa hwk.slot hwk.id.1
 have hE:∀ k2 er,lookW k x.aa=(k2,er)->Jk .again (k,x)=if er=0 then (.at none .tries,(k2,x)) else (.thn (.ai .bC) .leaves,Qo 0 (k2,x)):=by
  intro k2 er h
  show (if (lookW k x.aa).2=0 then _ else _)=_
  simp only [Q0,h]
 obtain ⟨k2,er,hl⟩:∃ k2 er,lookW k x.aa=(k2,er):=⟨_,_,rfl⟩;obtain ⟨RS,il⟩:∃ RS,Jk .again (k,x)=RS:=⟨_,rfl⟩;have HE:=Vh (il.symm.trans (hE k2 er hl));rw [il];rw [hl] at iI hkeep;simp only at hkeep;clear hE hl hok hwk il;unfold jD;obtain ⟨hkk,hkr,hkt,hks⟩:=hkeep;obtain ⟨rv,tv,gq,gt,hr,ht,rfl,hx⟩:=hz;refine GO fun w HT=>?_
 have HT:=Vh (HT.out.m [Xe kb L.fb pv rv tv k,gq,gt,gF]);have HX:=Vh hx;have HR:=Vh (show Ie L.p.sb k2.rq rv gq from hkr ▸ hr);have dZ:=Vh (show Ig L k2.tk tv gt from hkt ▸ ht);clear hx hr ht hkr hkt hkk hks;have HT:=Vh ((HT.a 33 #[Qb kb]).alloc (k:=w.heap.size+1) (by simp) 153 #[WL,WL]);go_enter func221,ntmps221
 go_wp2_with fail
 refine Qa.run (iI _ _ _ HX) (HT) [0,3] ?_
 rintro e w1 gs ⟨rfl,g1,hx1,rfl⟩ HT;simp only [PU] at HT;have HX:=Vh hx1;clear hx1;have b0:=HT.c 4 0 0;simp only [aT] at b0;have he:=HE.out;clear HE;by_cases h0:er=0
 ·rw [if_pos h0] at he
  subst h0 he;go_wp2_with fail
  refine Qa.run Z0 HT [] ?_
  rintro e w1 gs ⟨rfl,rfl⟩ HT;simp only [PU] at HT;obtain ⟨e0,e1⟩:=HT.c2 5 0 0 1;obtain ⟨eX,eD⟩:=HT.f2 5 0 0 1;simp only [aT] at e0 e1;go_wp2
  exact WS (v:=.agg #[WL,WM (WQ 188) #[Qb kb] #[]]) (by simp [results,results221,go_sem,e0,e1]) rfl ⟨_,⟨_,_,[],_,_,rfl,⟨rfl,rfl,rfl⟩,⟨_,_,gq,gt,HR,dZ,rfl,HX⟩,rfl⟩,(((HT.set 5 0 rfl 0 _).set 5 0 rfl 1 _).p [0,1,2,3]).sum⟩
 ·rw [if_neg h0] at he
  dsimp only [Qo] at he
  subst he;have hb0:(er == 0)=false:=beq_eq_false_iff_ne.2 h0
  have hrow:∀ (bk b bf bl bi:Nat),(mD L kb pv).SV (.ai .bC) WL (WM (WQ 209) #[] #[Qb bf,Qb bl,Qb bi])
   ([cl bf 1 #[WM (WQ 255) #[] #[Qb bk]],cl bl 322 #[.slice (some ⟨b,0,none⟩) 1 1],cl bi 3 #[WK WN 0],cl b 1 #[WM (WQ 255) #[] #[Qb bk]]]++[cl bk 33 #[Qb kb]]) :=
   fun bk b bf bl bi=>⟨rfl,bf,bl,bi,b,0,_,_,_,rfl,⟨bk,rfl,rfl⟩,rfl,rfl⟩
  have fA:∀ (bk b bf bl bi:Nat),_:=fun bk b bf bl bi=>aZ.dD (f:=MC.leaves) (v:=WM (WQ 181) #[Qb kb] #[]) (gm:=[]) (Xn L kb pv) rfl (hrow bk b bf bl bi) ⟨rfl,rfl⟩
  have kG:=Vh fA;clear h0 hrow fA;go_wp2_with fail
  refine Qa.run (Ju HX 0 dR) (HT) [0,3] ?_
  rintro e w1 gs ⟨rfl,g1,hx1,rfl⟩ HT;simp only [PU] at HT;have HX:=Vh hx1;clear hx1;clear b0;have b0:=HT.c 4 0 0;simp only [aT] at b0;have bI:=HT.l 4 0;simp only [] at bI;go_wp2_with fail
  go_region_with (first
   | (go_at_call 178
      refine (Qa.use (aZ.eO (b:=w1.heap.size) (o:=0) (D:=#[WM (WQ 255) #[] #[Qb w.heap.size]]) rfl 1 (.inl rfl)) (HT.drew.alloc (k:=w1.heap.size) rfl _ _) [6] rfl rfl).mono ?_
      rintro e w2 ⟨gs,⟨bf,bl,bi,rfl,rfl⟩,Ta⟩;simp only [PU] at Ta;have b1:=Ta.c 4 0 0;simp only [bR] at b1;have HT1:=Vh (Ta.sum (H':=[Xe kb L.fb pv rv tv (Y1 0 k2),gq,gt,g1,[cl (w.heap.size+1) 153 #[WL,WL]],[cl bf 1 #[WM (WQ 255) #[] #[Qb w.heap.size]],cl bl 322 #[.slice (some ⟨w1.heap.size,0,none⟩) 1 1],cl bi 3 #[WK WN 0],cl w1.heap.size 1 #[WM (WQ 255) #[] #[Qb w.heap.size]]]++[cl w.heap.size 33 #[Qb kb]],[]]))
      clear Ta)
   | (go_at_call 196
      refine (Qa.use (kG _ _ _ _ _) HT1 [5,6] rfl rfl).mono ?_
      rintro e w3 ⟨gs,⟨m2,d2,g2,rfl,hs2,rfl⟩,Ta⟩;simp only [PU] at Ta;obtain ⟨e0,e1⟩:=Ta.c2 4 0 0 1;obtain ⟨f0,f1⟩:=Ta.f2 4 0 0 1;have hv2:=(Xn L kb pv).vals hs2;obtain ⟨st1,st2⟩:=aZ.aG (P:=prog) hv2.1 hv2.2 e0 f0 e1 f1;clear hv2;have HS2:=Vh hs2;have HT2:=Vh Ta
      clear Ta hs2))
  all_goals
   go_wp2
   exact WS (v:=.agg #[_,_]) (by simp [results,results221,go_sem,e0,e1]) rfl ⟨_,⟨m2,d2,g2,_,_,rfl,HS2,⟨_,_,gq,gt,HR,dZ,rfl,HX⟩,rfl⟩,(((HT2.set 4 0 rfl 0 _).set 4 0 rfl 1 _).p [0,1,2,3,5]).sum⟩
end
section
variable {L:Lay} {kb:Nat} {pv:Value}
theorem q7o {u0 u3 u4 u5 u6 u7 u8 u9 VD VE VF VG VH VI u16 VJ VK VL u20 u21 u22 u23 u24 u25 u26 u27 u28 u29 u30 u31 u32 u33 u34 u35 u36 u37 u38 VN u40 VO u42 VP u44 u45 u46 VQ u48 u49 VR u51 VS u53 VT u55 VU VV u58 u59 u60 VW VX u63 u64 VZ u66 Wd u68 u69 u70 We u72 u73 Wh u75 Wi Wj Wl Wm Wn Wo Wp Wq Ws Wt Wu Wv Ww Wx Wy Wz W9 u93 WA WB WC WE WG WH Fb Fe Ff Fg Fh u105 Fj Fp Fq Fs Fu Fv Fw NP NQ NR NS NU NV u119 NW:Value} {bb rb:Nat} {K:Act->World->Prop} {Q':Exit->Act->World->Prop} {g0 g1 g2 g3:List ak} {w0 w:World} {h:GH} (T:TG h w0 [g0,g1,g2,g3,[cl bb 33 #[Qb kb]],[cl rb 153 #[WL,WL]]] w)
 (hK:∀ w' m d g Fx Fy Fz F3 v117 F4 F5 F6,(mD L kb pv).SV (.thn (.aP .bN .drop) .ends) m d g->TG h w0 [g0,g1,g2,g3,g,[cl rb 153 #[m,d]]] w'->K { tmps:=#[u0,Qb bb,Qb rb,u3,u4,u5,u6,u7,u8,u9,VD,VE,VF,VG,VH,VI,u16,VJ,VK,VL,u20,u21,u22,u23,u24,u25,u26,u27,u28,u29,u30,u31,u32,u33,u34,u35,u36,u37,u38,VN,u40,VO,u42,VP,u44,u45,u46,VQ,u48,u49,VR,u51,VS,u53,VT,u55,VU,VV,u58,u59,u60,VW,VX,u63,u64,VZ,u66,Wd,u68,u69,u70,We,u72,u73,Wh,u75,Wi,Wj,Wl,Wm,Wn,Wo,Wp,Wq,Ws,Wt,Wu,Wv,Ww,Wx,Wy,Wz,W9,u93,WA,WB,WC,WE,WG,WH,Fb,Fe,Ff,Fg,Fh,u105,Fj,Fp,Fq,Fs,Fu,Fv,Fw,Fx,Fy,Fz,F3,v117,F4,F5,F6],defers:=[] } w') :
 (KP 16 Tryz.f188).wp prog (Exit.then K Q') { tmps:=#[u0,Qb bb,Qb rb,u3,u4,u5,u6,u7,u8,u9,VD,VE,VF,VG,VH,VI,u16,VJ,VK,VL,u20,u21,u22,u23,u24,u25,u26,u27,u28,u29,u30,u31,u32,u33,u34,u35,u36,u37,u38,VN,u40,VO,u42,VP,u44,u45,u46,VQ,u48,u49,VR,u51,VS,u53,VT,u55,VU,VV,u58,u59,u60,VW,VX,u63,u64,VZ,u66,Wd,u68,u69,u70,We,u72,u73,Wh,u75,Wi,Wj,Wl,Wm,Wn,Wo,Wp,Wq,Ws,Wt,Wu,Wv,Ww,Wx,Wy,Wz,W9,u93,WA,WB,WC,WE,WG,WH,Fb,Fe,Ff,Fg,Fh,u105,Fj,Fp,Fq,Fs,Fu,Fv,Fw,NP,NQ,NR,NS,NU,NV,u119,NW],defers:=[] } w:=by
 refine q3s (by rfl) ?_
 have hrow:∀ (bk b bf bl bi:Nat),(mD L kb pv).SV (.aP .bN .drop) WL (WM (WQ 209) #[] #[Qb bf,Qb bl,Qb bi])
  ([cl bf 1 #[WM (WQ 231) #[] #[Qb bk]],cl bl 322 #[.slice (some ⟨b,0,none⟩) 2 2],cl bi 3 #[WK WN 0],cl b 1 #[WM (WQ 231) #[] #[Qb bk],WM (WQ 220) #[Qb kb] #[]]]++[cl bk 33 #[Qb kb]]++[]) :=
  fun bk b bf bl bi=>⟨rfl,bf,bl,bi,b,_,_,_,[],rfl,⟨bk,rfl,rfl⟩,⟨rfl,rfl⟩,rfl⟩
 have fA:∀ (bk b bf bl bi:Nat),_:=fun bk b bf bl bi=>aZ.bS (f:=MC.ends) (v:=WM (WQ 138) #[Qb kb] #[]) (gm:=[]) (Xn L kb pv) rfl (hrow bk b bf bl bi) ⟨rfl,rfl⟩
 have hrow':=hrow;have kG:=Vh fA;have HT:=Vh T;have HK:=Vh hK;have b0:=T.c 4 0 0;have bI:=T.l 4 0;have nW:=T.l 5 0;simp only [bR] at b0 bI nW;clear T hK hrow fA;have HRW:=Vh hrow';clear hrow'
 go_region_held3 (fun w'=>w'.cell? ⟨bb,0,none⟩=some (Qb kb))
  (first
  | exact HT2.c 4 6 0
  | exact HT1.c 4 4 0
  | exact (HT.drew.alloc (k:=w.heap.size) rfl _ _).c 4 0 0
  | exact HT.drew.c 4 0 0
  | exact HT.c 4 0 0
  | exact ((HT2.set 5 0 rfl 0 _).set 5 0 rfl 1 _).c 4 6 0)
  (first
  | (go_at_call 178
     refine (Qa.use (aZ.eO (b:=w.heap.size) (o:=0) (D:=#[WM (WQ 231) #[] #[Qb bb],WM (WQ 220) #[Qb kb] #[]]) rfl 2 (.inr rfl)) (HT.drew.alloc (k:=w.heap.size) rfl _ _) [6] rfl rfl).mono ?_
     rintro e w7 ⟨gs,⟨bf,bl,bi,rfl,rfl⟩,Ta⟩;simp only [PU] at Ta;have HT1:=Vh (Ta.sum (H':=[g0,g1,g2,g3,[cl bf 1 #[WM (WQ 231) #[] #[Qb bb]],cl bl 322 #[.slice (some ⟨w.heap.size,0,none⟩) 2 2],cl bi 3 #[WK WN 0],cl w.heap.size 1 #[WM (WQ 231) #[] #[Qb bb],WM (WQ 220) #[Qb kb] #[]]]++[cl bb 33 #[Qb kb]]++[],[cl rb 153 #[WL,WL]],[]]))
     clear Ta)
  | (go_at_call 196
     refine (Qa.use (kG _ _ _ _ _) HT1 [4,6] rfl rfl).mono ?_
     rintro e w8 ⟨gs,⟨bs,br,rfl,rfl⟩,Ta⟩;simp only [je,List.set_cons_zero,List.set_cons_succ] at Ta;obtain ⟨e0,e1⟩:=Ta.c2 5 0 0 1;obtain ⟨f0,f1⟩:=Ta.f2 5 0 0 1;simp only [aC] at e0 e1;have HT2:=Vh Ta
     clear Ta))
 all_goals
  exact HK _ _ _ _ _ _ _ _ _ _ _ _ ⟨bs,br,_,_,_,_,rfl,rfl,HRW _ _ _ _ _,⟨rfl,rfl⟩,rfl⟩ ((((HT2.set 5 0 rfl 0 _).set 5 0 rfl 1 _).p [0,1,2,3,4,5]).eq rfl)
end
theorem zbm (n:Int) (h0:0<=n) (h1:n<18446744073709551616):Qe prog 229 #[WK WO n] [] (WK WO (X7 n)) :=
 fun w hw=>(Gx n w h0 h1).mono fun e w' ⟨he,hw'⟩=>⟨he,0,hw'.symm⟩
section
variable {L:Lay} {x:Qi} {gK gF:List ak} {kb:Nat} {pv:Value} {k:Qt}
theorem q9c (hz:jQ L kb pv k x gK gF) (hp:rH .tries (k,x)):Qa prog 188 #[Qb kb] [gK,gF] (jD L kb pv (Jk .tries (k,x))):=by
 obtain ⟨hok,hwk,_⟩:=hp;simp only at hok hwk;have hwb:=My hok.aa k.slot k.aA k.event hwk.aA.1 hwk.aA.2.1 hwk.aA.2.2;have CG:=Vh (show ∀ g,Qf L x g->_ from fun g hx=>BL (g:=g) hx hok.aa.n1 k.slot k.aA k.event hwk.aA.1 hwk.aA.2.1)
 have hE:∀ s2 w2 er,x.aa.try k.slot k.aA k.event=(s2,w2,er)->Jk .tries (k,x) =
  if er≠0 then (if k.kind=3 then (.at none .again,({ k with gen:=X7 w2 },{ x with aa:=s2 })) else (.at none .looks,({ k with gen:=X7 w2 },{ x with aa:=s2 })))
  else if k.kind=3 then (.at none .fills,qq { bO with kind:=6,id:=k.id,gen:=X7 w2,dl:=k.j5 } (iV { k with gen:=X7 w2 },{ x with aa:=s2 }))
  else if k.kind=5 then (.ai .aR,qq { bO with kind:=8,id:=k.id,gen:=X7 w2 } (iV { k with gen:=X7 w2 },{ x with aa:=s2 }))
  else (.thn (.aP .bN .drop) .ends,qq { bO with kind:=7,id:=k.id,gen:=X7 w2 } (iV { k with gen:=X7 w2 },{ x with aa:=s2 })):=by
  intro s2 w2 er h
  show (if (Zo (k,x)).2≠0 then _ else _)=_
  simp only [Zo,h]
 obtain ⟨s2,w2,er,hl⟩:∃ s2 w2 er,x.aa.try k.slot k.aA k.event=(s2,w2,er):=⟨_,_,_,rfl⟩;obtain ⟨RS,il⟩:∃ RS,Jk .tries (k,x)=RS:=⟨_,rfl⟩;have HE:=Vh (il.symm.trans (hE s2 w2 er hl));rw [il];rw [hl] at CG hwb;have jo:=Vh hwb;have dR:=Vh (show ({ x with aa:=s2 }:Qi).tr.length<=1000000 from hok.tr);clear hE hl hok hwk hwb il;unfold jD;obtain ⟨rv,tv,gq,gt,hr,ht,rfl,hx⟩:=hz;refine GO fun w HT=>?_
 have HT:=Vh (HT.out.m [Xe kb L.fb pv rv tv k,gq,gt,gF]);have HX:=Vh hx;have HR:=Vh hr;have dZ:=Vh ht;clear hx hr ht;go_enter func188,ntmps188
 go_wp2
 have HT:=Vh ((HT.a 33 #[Qb kb]).alloc (k:=w.heap.size+1) (by simp) 153 #[WL,WL]);generalize World.alloc _ _=wa at HT |-;simp only [XA,XB] at HT;have b0:=HT.c 4 0 0;simp only [aT] at b0;obtain ⟨k0,k16,k17⟩:=HT.c3 0 0 0 16 17;simp only [Xg,aC] at k0 k16 k17;refine Mx 15 ?_
 simp only [dx]
 repeat (go_big_quiet_step ((first | (go_at_call 19;with_reducible exact Qe.quiet (Qq HX.out) HT.out _ [3] rfl rfl) | (go_at_call 226;with_reducible exact Qe.quiet (Sb (L:=L)) HT.out _ [0] rfl rfl))))
 refine WU (QT HT fun nq HT=>?_)
 go_wp2_with fail
 refine Qa.run (CG _ HX) (HT) [3] ?_
 rintro e w1 gs ⟨rfl,g1,hx1,rfl⟩ HT;simp only [PU] at HT;have HX:=Vh hx1;clear hx1 k0 k16 k17 b0;go_wp2_with fail
 refine ⟨rfl,?_⟩
 have b0:=HT.c 4 0 0;simp only [aT] at b0;have k18:=HT.c 0 0 18;have Dg:=HT.f 0 0 18;simp only [Xg,aC] at k18;go_wp2
 refine Mx 3 ?_
 simp only [dx]
 repeat (go_big_quiet_step ((first | (go_at_call 229;with_reducible exact Qe.quiet (zbm _ jo.out.1 jo.out.2) HT.out _ [] rfl rfl))))
 refine WU (QT HT fun nq HT=>?_)
 go_wp2_with fail
 refine ⟨rfl,?_⟩
 have HT:=Vh ((HT.set 0 0 rfl 18 (WK WO (X7 w2))).eq (H':=[Xe kb L.fb pv rv tv { k with gen:=X7 w2 },gq,gt,g1,[cl w.heap.size 33 #[Qb kb]],[cl (w.heap.size+1) 153 #[WL,WL]]]) rfl);clear b0 k18 Dg;generalize WX _ _ _=w4 at HT |-;have b0:=HT.c 4 0 0;simp only [aT] at b0;have he:=HE.out;clear HE;by_cases h0:er=0
 ·rw [if_neg (by simpa using h0)] at he
  subst h0;obtain ⟨k3,k15,k18,k7,k8,k9,k10,k11⟩:=HT.c8 0 0 3 15 18 7 8 9 10 11;obtain ⟨wI,yP,yQ,nJ,sN⟩:=HT.f5 0 0 7 8 9 10 11;simp only [Xg,aC] at k3 k15 k18 k7 k8 k9 k10 k11;go_wp2
  refine Mx 10 ?_
  simp only [dx]
  repeat (go_big_quiet_step ((fail)))
  refine WU (QT HT fun nq HT=>?_)
  go_wp2_with fail
  refine ⟨rfl,?_⟩
  have HT:=Vh ((((((HT.set 0 0 rfl 7 (WK WN 0)).set 0 0 rfl 8 (.bool true)).set 0 0 rfl 9 (WK WO k.id)).set 0 0 rfl 10 (WK WO (X7 w2))).set 0 0 rfl 11 (.slice none 0 0)).eq (H':=[Xe kb L.fb pv rv tv { k with gen:=X7 w2,err:=0,ok:=true,qX:=k.id,jq:=X7 w2 },gq,gt,g1,[cl w.heap.size 33 #[Qb kb]],[cl (w.heap.size+1) 153 #[WL,WL]]]) rfl);clear b0 k3 k15 k18 k7 k8 k9 k10 k11 wI yP yQ nJ sN;generalize WX _ _ _=w5 at HT |-;have b0:=HT.c 4 0 0;simp only [aT] at b0;obtain ⟨k3,k5,k15,k18⟩:=HT.c4 0 0 3 5 15 18;simp only [Xg,aC] at k3 k5 k15 k18;by_cases h3:k.kind=3
  ·rw [if_pos h3] at he
   dsimp only [qq,iV] at he
   subst he;rw [h3] at k3;clear h3;go_wp2
   refine Mx 15 ?_
   simp only [dx]
   repeat (go_big_quiet_step ((fail)))
   refine WU (QT HT fun nq HT=>?_)
   go_wp2_with fail
   refine Qa.run (Ad HX { bO with kind:=6,id:=k.id,gen:=X7 w2,dl:=k.j5 } dR) (HT) [0,3] ?_
   rintro e w1 gs ⟨rfl,g2,hx2,rfl⟩ HT;simp only [PU] at HT;have HX:=Vh hx2;clear hx2 k3 k5 k15 k18 b0;go_wp2_with fail
   refine ⟨rfl,?_⟩
   have b0:=HT.c 4 0 0;simp only [aT] at b0;go_wp2_with fail
   refine Qa.run Z0 HT [] ?_
   rintro e w1 gs ⟨rfl,rfl⟩ HT;simp only [PU] at HT;obtain ⟨e0,e1⟩:=HT.c2 5 0 0 1;obtain ⟨eX,eD⟩:=HT.f2 5 0 0 1;simp only [aT] at e0 e1;go_wp2
   exact WS (v:=.agg #[WL,WM (WQ 230) #[Qb kb] #[]]) (by simp [results,results188,go_sem,e0,e1]) rfl ⟨_,⟨_,_,[],_,_,rfl,⟨rfl,rfl,rfl⟩,⟨_,_,gq,gt,HR,dZ,rfl,HX⟩,rfl⟩,(((HT.set 5 0 rfl 0 _).set 5 0 rfl 1 _).p [0,1,2,3]).sum⟩
  ·rw [if_neg h3] at he
   by_cases h5:k.kind=5
   ·rw [if_pos h5] at he
    dsimp only [qq,iV] at he
    subst he;clear h3;rw [h5] at k3;clear h5;go_wp2
    refine Mx 10 ?_
    simp only [dx]
    repeat (go_big_quiet_step ((fail)))
    refine WU (QT HT fun nq HT=>?_)
    go_wp2_with fail
    refine Qa.run (Ad HX { bO with kind:=8,id:=k.id,gen:=X7 w2 } dR) (HT) [0,3] ?_
    rintro e w1 gs ⟨rfl,g2,hx2,rfl⟩ HT;simp only [PU] at HT;have HX:=Vh hx2;clear hx2 k3 k5 k15 k18 b0;go_wp2_with fail
    refine ⟨rfl,?_⟩
    have b0:=HT.c 4 0 0;simp only [aT] at b0;go_wp2_with fail
    refine Qa.run (EW L kb pv) (HT) [] ?_
    rintro e w1 gs ⟨m2,d2,g2,rfl,hs2,rfl⟩ HT;simp only [PU] at HT;obtain ⟨e0,e1⟩:=HT.c2 5 0 0 1;obtain ⟨eX,eD⟩:=HT.f2 5 0 0 1;simp only [aT] at e0 e1;have hv2:=(Xn L kb pv).vals hs2;obtain ⟨st1,st2⟩:=aZ.aG (P:=prog) hv2.1 hv2.2 e0 eX e1 eD;have HS:=Vh hs2;clear hv2 hs2;go_wp2
    exact WS (v:=.agg #[_,_]) (by simp [results,results188,go_sem,e0,e1]) rfl ⟨_,⟨m2,d2,g2,_,_,rfl,HS,⟨_,_,gq,gt,HR,dZ,rfl,HX⟩,rfl⟩,(((HT.set 5 0 rfl 0 _).set 5 0 rfl 1 _).p [0,1,2,3,6]).sum⟩
   ·rw [if_neg h5] at he
    dsimp only [qq,iV] at he
    subst he;have hb3:(k.kind == 3)=false:=beq_eq_false_iff_ne.2 h3;have hb5:(k.kind == 5)=false:=beq_eq_false_iff_ne.2 h5;clear h3 h5;go_wp2
    refine Mx 10 ?_
    simp only [dx]
    repeat (go_big_quiet_step ((fail)))
    refine WU (QT HT fun nq HT=>?_)
    go_wp2_with fail
    refine Qa.run (Ad HX { bO with kind:=7,id:=k.id,gen:=X7 w2 } dR) (HT) [0,3] ?_
    rintro e w1 gs ⟨rfl,g2,hx2,rfl⟩ HT;simp only [PU] at HT;have HX:=Vh hx2;clear hx2 k3 k5 k15 k18 b0;go_wp2_with fail
    refine ⟨rfl,?_⟩
    have b0:=HT.c 4 0 0;simp only [aT] at b0;go_wp2_with fail
    refine q7o (L:=L) (pv:=pv) (g0:=Xe kb L.fb pv rv tv { k with gen:=X7 w2,err:=0,ok:=true,qX:=k.id,jq:=X7 w2 }) (g1:=gq) (g2:=gt) (g3:=g2) HT ?_
    intro w9 m2 d2 g9 Fx Fy Fz F3 v117 F4 F5 F6 hs2 T9;have hv2:=(Xn L kb pv).vals hs2;have HS2:=Vh hs2;have HT:=Vh T9;clear T9 hs2 b0;obtain ⟨e0,e1⟩:=HT.c2 5 0 0 1;simp only [aT] at e0 e1;go_wp2
    exact WS (v:=.agg #[m2,d2]) (by simp [results,results188,go_sem,e0,e1]) rfl ⟨_,⟨m2,d2,g9,_,_,rfl,HS2,⟨_,_,gq,gt,HR,dZ,rfl,HX⟩,rfl⟩,(HT.p [0,1,2,3,4]).sum⟩
 ·rw [if_pos h0] at he
  have hbe:(er != 0)=true:=bne_iff_ne.2 h0;clear h0;have k3:=HT.c 0 0 3;simp only [Xg,aC] at k3;by_cases h3:k.kind=3
  ·rw [if_pos h3] at he
   subst he;rw [h3] at k3;clear h3;go_wp2_with fail
   refine Qa.run Z0 HT [] ?_
   rintro e w1 gs ⟨rfl,rfl⟩ HT;simp only [PU] at HT;obtain ⟨e0,e1⟩:=HT.c2 5 0 0 1;obtain ⟨eX,eD⟩:=HT.f2 5 0 0 1;simp only [aT] at e0 e1;go_wp2
   exact WS (v:=.agg #[WL,WM (WQ 221) #[Qb kb] #[]]) (by simp [results,results188,go_sem,e0,e1]) rfl ⟨_,⟨_,_,[],_,_,rfl,⟨rfl,rfl,rfl⟩,⟨_,_,gq,gt,HR,dZ,rfl,HX⟩,rfl⟩,(((HT.set 5 0 rfl 0 _).set 5 0 rfl 1 _).p [0,1,2,3]).sum⟩
  ·rw [if_neg h3] at he
   subst he;have hb3:(k.kind == 3)=false:=beq_eq_false_iff_ne.2 h3;clear h3;go_wp2_with fail
   refine Qa.run Z0 HT [] ?_
   rintro e w1 gs ⟨rfl,rfl⟩ HT;simp only [PU] at HT;obtain ⟨e0,e1⟩:=HT.c2 5 0 0 1;obtain ⟨eX,eD⟩:=HT.f2 5 0 0 1;simp only [aT] at e0 e1;go_wp2
   exact WS (v:=.agg #[WL,WM (WQ 144) #[Qb kb] #[]]) (by simp [results,results188,go_sem,e0,e1]) rfl ⟨_,⟨_,_,[],_,_,rfl,⟨rfl,rfl,rfl⟩,⟨_,_,gq,gt,HR,dZ,rfl,HX⟩,rfl⟩,(((HT.set 5 0 rfl 0 _).set 5 0 rfl 1 _).p [0,1,2,3]).sum⟩
end
end
end Go.Proofs.YtcneeepdclgdcaaGreat
