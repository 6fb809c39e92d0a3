import Derived.Test.YtcneeepdclgdcaaGreatSE14
import Derived.Test.YtcneeepdclgdcaaGreatSE18
import Derived.Test.YtcneeepdclgdcaaGreatSE21
import Derived.Test.YtcneeepdclgdcaaGreatSE13
import Derived.Test.YtcneeepdclgdcaaGreatSE17
import Derived.Test.YtcneeepdclgdcaaGreatSE12
import Derived.Test.YtcneeepdclgdcaaGreatSE6
set_option maxRecDepth 100000
set_option maxHeartbeats 4000000
namespace Go.Proofs.YtcneeepdclgdcaaGreat
open Go.Value renaming nilFunc->U1,int->U2,func->U3,tuple->U9,pointer->UC
open Go.IntKind renaming i64->U4,u64->U5
open Go.Ending renaming returned->U6
open Go.Fn renaming func->U7
open Go renaming bodyPost_ret->U8,wpQuiet_nil->UA,bodyPost_end->UD,results_none->UE
open _root_.List renaming getElem?_eq_getElem->UB
set_option linter.all false
open Go.Proofs.Tryz
section
open Go.RowKit Go.Shelf
structure ik where
 b:Nat
 rb:Nat
 lb:Nat
 wb:Nat
def tO (q:ik) (s:Qu) (g:List ak):Prop:=∃ gr gl,X4 q.rb s.ring gr/\ql q.lb s.who s.turns gl/\g=Xq q.b q.rb q.lb q.wb++(gr++gl)
structure Lay where
 fb:Nat
 p:jq
 qs:List ik
structure Qi where
 f:Zt
 aa:Qj
 tr:List EvS
 au:List Qu
def Qf (L:Lay) (x:Qi) (g:List ak):Prop:=∃ tr gF gS gR gH gT,X3 L.fb L.p x.f tr gF/\Jc L.p.sb x.aa gS/\Q3 42 1 L.p.sh (L.qs.map ik.b).length ((L.qs.map ik.b).map fun b=>Qb b) gR /\
 L.qs.length=x.au.length/\Yy (fun (z:ik × Qu)=>tO z.1 z.2) (L.qs.zip x.au) gH/\Bq tr x.tr gT/\g=gF++(gS++(gR++(gH++gT)))
section
variable {L:Lay} {x:Qi} {g:List ak}
theorem qox {fb:Nat} {p:jq} {f:Zt} {tr:Value} {g:List ak} (hg:X3 fb p f tr g):Qd prog 19 #[Qb fb] [g] (Qb p.sb):=by
 obtain ⟨C,rfl,hc⟩:=hg;refine GO fun w HT=>?_
 have c0:=(HT.c 0 0 6).trans hc.aa;clear hc;go_enter func19,ntmps19
 go_wp2
 go_ret
 exact ⟨rfl,0,rfl⟩
theorem Qn (hx:Qf L x g):Qd prog 19 #[Qb L.fb] [g] (Qb L.p.sb):=by
 obtain ⟨tr,gF,gS,gR,gH,gT,h1,h2,h3,h4,h5,h6,rfl⟩:=hx;intro w hw;have T:=(TG.refl hw).m [gF,gS,gR,gH,gT];exact (qox h1).use T [0] rfl rfl
theorem Pq (hx:Qf L x g) (hn:1<=L.qs.length) (i:Int):Qd prog 184 #[Qb L.fb,U2 U4 i] [g] (Bj (L.qs.map ik.b) i):=by
 obtain ⟨tr,gF,gS,gR,gH,gT,h1,h2,h3,h4,h5,h6,rfl⟩:=hx;intro w hw;have T:=(TG.refl hw).m [gF,gS,gR,gH,gT];exact (qot h1 h3 (by simpa using hn) i).use T [0,2] rfl rfl
theorem PX (hx:Qf L x g) (h:0<=x.f.inside/\x.f.inside<=1000000):Qa prog 139 #[Qb L.fb] [g] fun e gs=>e=U6 (U9 #[])/\∃ g',Qf L { x with f:={ x.f with inside:=x.f.inside+1 } } g'/\gs=[g']:=by
 obtain ⟨tr,gF,gS,gR,gH,gT,h1,h2,h3,h4,h5,h6,rfl⟩:=hx;intro w hw;have T:=(TG.refl hw).m [gF,gS,gR,gH,gT];refine (Qa.use (ql7 h1 h) T [0] rfl rfl).mono ?_
 rintro e w' ⟨gs,⟨he,g1,hn1,rfl⟩,T'⟩;exact ⟨_,⟨he,_,⟨tr,g1,gS,gR,gH,gT,hn1,h2,h3,h4,h5,h6,rfl⟩,rfl⟩,TG.sum (H:=[g1,gS,gR,gH,gT]) T'⟩
theorem PY (hx:Qf L x g) (h:0<=x.f.inside/\x.f.inside<=1000000):Qa prog 213 #[Qb L.fb] [g] fun e gs=>e=U6 (U2 U4 (xE x.f.inside))/\∃ g',Qf L { x with f:={ x.f with inside:=Z5 x.f.inside } } g'/\gs=[g']:=by
 obtain ⟨tr,gF,gS,gR,gH,gT,h1,h2,h3,h4,h5,h6,rfl⟩:=hx;intro w hw;have T:=(TG.refl hw).m [gF,gS,gR,gH,gT];refine (Qa.use (ql8 h1 h) T [0] rfl rfl).mono ?_
 rintro e w' ⟨gs,⟨he,g1,hn1,rfl⟩,T'⟩;exact ⟨_,⟨he,_,⟨tr,g1,gS,gR,gH,gT,hn1,h2,h3,h4,h5,h6,rfl⟩,rfl⟩,TG.sum (H:=[g1,gS,gR,gH,gT]) T'⟩
theorem qu (hx:Qf L x g):Qa prog 71 #[Qb L.fb] [g] fun e gs=>e=U6 (.bool x.f.closed)/\∃ g',Qf L x g'/\gs=[g']:=by
 obtain ⟨tr,gF,gS,gR,gH,gT,h1,h2,h3,h4,h5,h6,rfl⟩:=hx;intro w hw;have T:=(TG.refl hw).m [gF,gS,gR,gH,gT];refine (Qa.use (qj9 h1) T [0] rfl rfl).mono ?_
 rintro e w' ⟨gs,⟨he,g1,hn1,rfl⟩,T'⟩;exact ⟨_,⟨he,_,⟨tr,g1,gS,gR,gH,gT,hn1,h2,h3,h4,h5,h6,rfl⟩,rfl⟩,TG.sum (H:=[g1,gS,gR,gH,gT]) T'⟩
theorem Ry (hx:Qf L x g):Qa prog 156 #[Qb L.fb] [g] fun e gs=>e=U6 (.bool (!x.f.closed))/\∃ g',Qf L { x with f:={ x.f with closed:=true } } g'/\gs=[g']:=by
 obtain ⟨tr,gF,gS,gR,gH,gT,h1,h2,h3,h4,h5,h6,rfl⟩:=hx;intro w hw;have T:=(TG.refl hw).m [gF,gS,gR,gH,gT];refine (Qa.use (qow h1) T [0] rfl rfl).mono ?_
 rintro e w' ⟨gs,⟨he,g1,hn1,rfl⟩,T'⟩;exact ⟨_,⟨he,_,⟨tr,g1,gS,gR,gH,gT,hn1,h2,h3,h4,h5,h6,rfl⟩,rfl⟩,TG.sum (H:=[g1,gS,gR,gH,gT]) T'⟩
theorem Ps (hx:Qf L x g):Qa prog 23 #[Qb L.fb] [g] fun e gs=>e=U6 (U2 U4 x.f.inside)/\∃ g',Qf L x g'/\gs=[g']:=by
 obtain ⟨tr,gF,gS,gR,gH,gT,h1,h2,h3,h4,h5,h6,rfl⟩:=hx;intro w hw;have T:=(TG.refl hw).m [gF,gS,gR,gH,gT];refine (Qa.use (qka h1) T [0] rfl rfl).mono ?_
 rintro e w' ⟨gs,⟨he,g1,hn1,rfl⟩,T'⟩;exact ⟨_,⟨he,_,⟨tr,g1,gS,gR,gH,gT,hn1,h2,h3,h4,h5,h6,rfl⟩,rfl⟩,TG.sum (H:=[g1,gS,gR,gH,gT]) T'⟩
theorem yO (hx:Qf L x g) (hn:x.aa.recs.length<=64) (k:Int):Qa prog 38 #[Qb L.p.sb,U2 U4 k] [g] fun e gs=>e=U6 (U9 #[U2 U5 (x.aa.word k),U2 U4 (x.aa.jG k)])/\∃ g',Qf L x g'/\gs=[g']:=by
 obtain ⟨tr,gF,gS,gR,gH,gT,h1,h2,h3,h4,h5,h6,rfl⟩:=hx;intro w hw;have T:=(TG.refl hw).m [gF,gS,gR,gH,gT];refine (Qa.use (qt4 h2 hn k) T [1] rfl rfl).mono ?_
 rintro e w' ⟨gs,⟨he,g1,hn1,rfl⟩,T'⟩;exact ⟨_,⟨he,_,⟨tr,gF,g1,gR,gH,gT,h1,hn1,h3,h4,h5,h6,rfl⟩,rfl⟩,TG.sum (H:=[gF,g1,gR,gH,gT]) T'⟩
theorem qzv (hx:Qf L x g) (hn:x.aa.recs.length<=64) (id:Int) (h0:0<=id) (h9:id<18446744073709551616):Qa prog 223 #[Qb L.p.sb,U2 U5 id] [g] fun e gs=>e=U6 (U9 #[U2 U4 (x.aa.slot id),U2 U4 (x.aa.fE id)])/\∃ g',Qf L x g'/\gs=[g']:=by
 obtain ⟨tr,gF,gS,gR,gH,gT,h1,h2,h3,h4,h5,h6,rfl⟩:=hx;intro w hw;have T:=(TG.refl hw).m [gF,gS,gR,gH,gT];refine (Qa.use (P8 h2 hn id h0 h9) T [1] rfl rfl).mono ?_
 rintro e w' ⟨gs,⟨he,g1,hn1,rfl⟩,T'⟩;exact ⟨_,⟨he,_,⟨tr,gF,g1,gR,gH,gT,h1,hn1,h3,h4,h5,h6,rfl⟩,rfl⟩,TG.sum (H:=[gF,g1,gR,gH,gT]) T'⟩
theorem Rx (hx:Qf L x g) (hn:x.aa.recs.length<=64) (id:Int) (h0:0<=id) (h9:id<18446744073709551616):Qa prog 224 #[Qb L.p.sb,U2 U5 id] [g] fun e gs=>e=U6 (.bool (x.aa.mine id))/\∃ g',Qf L x g'/\gs=[g']:=by
 obtain ⟨tr,gF,gS,gR,gH,gT,h1,h2,h3,h4,h5,h6,rfl⟩:=hx;intro w hw;have T:=(TG.refl hw).m [gF,gS,gR,gH,gT];refine (Qa.use (qt2 h2 hn id h0 h9) T [1] rfl rfl).mono ?_
 rintro e w' ⟨gs,⟨he,g1,hn1,rfl⟩,T'⟩;exact ⟨_,⟨he,_,⟨tr,gF,g1,gR,gH,gT,h1,hn1,h3,h4,h5,h6,rfl⟩,rfl⟩,TG.sum (H:=[gF,g1,gR,gH,gT]) T'⟩
theorem KF (hx:Qf L x g) (h0:0<=x.aa.count) (h9:x.aa.count<=64):Qa prog 254 #[Qb L.p.sb] [g] fun e gs=>e=U6 (U2 U4 x.aa.drop.2)/\∃ g',Qf L { x with aa:=x.aa.drop.1 } g'/\gs=[g']:=by
 obtain ⟨tr,gF,gS,gR,gH,gT,h1,h2,h3,h4,h5,h6,rfl⟩:=hx;intro w hw;have T:=(TG.refl hw).m [gF,gS,gR,gH,gT];refine (Qa.use (qt1 h2 h0 h9) T [1] rfl rfl).mono ?_
 rintro e w' ⟨gs,⟨he,g1,hn1,rfl⟩,T'⟩;exact ⟨_,⟨he,_,⟨tr,gF,g1,gR,gH,gT,h1,hn1,h3,h4,h5,h6,rfl⟩,rfl⟩,TG.sum (H:=[gF,g1,gR,gH,gT]) T'⟩
theorem AO (hx:Qf L x g) (hn:x.aa.recs.length<=64) (k old ev:Int) (h0:0<=old) (h9:old<18446744073709551616):Qa prog 228 #[Qb L.p.sb,U2 U4 k,U2 U5 old,U2 U4 ev] [g] fun e gs=>e=U6 (U9 #[U2 U5 (x.aa.try k old ev).2.1,U2 U4 (x.aa.try k old ev).2.2])/\∃ g',Qf L { x with aa:=(x.aa.try k old ev).1 } g'/\gs=[g']:=by
 obtain ⟨tr,gF,gS,gR,gH,gT,h1,h2,h3,h4,h5,h6,rfl⟩:=hx;intro w hw;have T:=(TG.refl hw).m [gF,gS,gR,gH,gT];refine (Qa.use (qxq h2 hn k old ev h0 h9) T [1] rfl rfl).mono ?_
 rintro e w' ⟨gs,⟨he,g1,hn1,rfl⟩,T'⟩;exact ⟨_,⟨he,_,⟨tr,gF,g1,gR,gH,gT,h1,hn1,h3,h4,h5,h6,rfl⟩,rfl⟩,TG.sum (H:=[gF,g1,gR,gH,gT]) T'⟩
theorem Lu (hx:Qf L x g) (qb:Nat) (q:iC) (hs:Xh x.aa) (hq:wE x.aa.recs.length q):Qa prog 182 #[Qb qb] [j4 qb L.p.sb q,g] fun e gs=>e=U6 (U2 U4 (Za x.aa q).2.st)/\∃ g',Qf L { x with aa:=(Za x.aa q).1 } g'/\gs=[j4 qb L.p.sb (Za x.aa q).2,g']:=by
 obtain ⟨tr,gF,gS,gR,gH,gT,h1,h2,h3,h4,h5,h6,rfl⟩:=hx;intro w hw;have T:=(TG.refl hw).m [j4 qb L.p.sb q,gF,gS,gR,gH,gT];refine (Qa.use (qxa qb q h2 hs hq) T [0,2] rfl rfl).mono ?_
 rintro e w' ⟨gs,⟨he,g1,hn1,rfl⟩,T'⟩;exact ⟨_,⟨he,_,⟨tr,gF,g1,gR,gH,gT,h1,hn1,h3,h4,h5,h6,rfl⟩,rfl⟩,TG.sum (H:=[j4 qb L.p.sb (Za x.aa q).2,gF,g1,gR,gH,gT]) T'⟩
theorem KG (hx:Qf L x g) (E:EvS) (hn:x.tr.length<=1000000):Qa prog 145 #[Qb L.fb,.agg E.cells] [g] fun e gs=>e=U6 (U9 #[])/\∃ g',Qf L { x with tr:=x.tr++[E] } g'/\gs=[g']:=by
 obtain ⟨tr,gF,gS,gR,gH,gT,h1,h2,h3,h4,h5,h6,rfl⟩:=hx;intro w hw;have T:=(TG.refl hw).m [gF,gS,gR,gH,gT];refine (Qa.use (qkb E h1 h6 (by omega)) T [0,4] rfl rfl).mono ?_
 rintro e w' ⟨gs,⟨he,tr1,g1,Ib,hn1,hn2,rfl⟩,T'⟩;exact ⟨_,⟨he,_,⟨tr1,g1,gS,gR,gH,Ib,hn1,h2,h3,h4,h5,Bq.put hn2,rfl⟩,rfl⟩,TG.sum (H:=[g1,gS,gR,gH,Ib]) T'⟩
theorem sN {α β:Type} {l:List α} {m:List β} {i:Nat} {a:α} {b:β} (ha:l[i]?=some a) (hb:m[i]?=some b):(l.zip m)[i]?=some (a,b):=by
 rw [List.getElem?_zip_eq_some];exact ⟨ha,hb⟩
theorem Yv {α β:Type}:∀ {l:List α} {m:List β} (i:Nat) {a:α} {b:β},l[i]?=some a->(l.zip m).set i (a,b)=l.zip (m.set i b)
 | [],m,i,a,b,h=>by simp at h
 | c::l,[],i,a,b,h=>by simp
 | c::l,d::m,0,a,b,h=>by simp at h;simp [h]
 | c::l,d::m,i+1,a,b,h=>by simp at h;simp [Yv i h]
theorem Dw (hx:Qf L x g) {i:Nat} {q:ik} {s:Qu} (hq:L.qs[i]?=some q) (hs:x.au[i]?=some s) (tb:Nat) (t:Xz) (hr0:zu s.ring) (ht:sW t):Qa prog 218 #[Qb tb] [Xo tb q.rb t,g] fun e gs=>e=U6 (U2 U4 (stepT s.ring t).2.status)/\∃ g',Qf L { x with au:=x.au.set i { s with ring:=(stepT s.ring t).1 } } g'/\gs=[Xo tb q.rb (stepT s.ring t).2,g']:=by
 obtain ⟨tr,gF,gS,gR,gH,gT,h1,h2,h3,h4,h5,h6,rfl⟩:=hx;have hz:(L.qs.zip x.au)[i]?=some (q,s):=sN hq hs;obtain ⟨u,y,⟨gr,gl,hr,hl,rfl⟩,hp,hback⟩:=h5.out hz;intro w hw;have T:=(((TG.refl hw).sum (H':=[Xo tb q.rb t,gF++(gS++(gR++gT)),gH])).bz 2 rfl hp).sum (H':=[Xo tb q.rb t,gF++(gS++(gR++gT)),Xq q.b q.rb q.lb q.wb,gr,gl,y]);refine (Qa.use (qud (tb:=tb) (t:=t) hr hr0 ht) T [0,3] rfl rfl).mono ?_
 rintro e w' ⟨gs,⟨he,g1,hn1,rfl⟩,T'⟩;obtain ⟨mX,hf,hp'⟩:=hback (q,{ s with ring:=(stepT s.ring t).1 }) (Xq q.b q.rb q.lb q.wb++(g1++gl)) ⟨g1,gl,hn1,hl,rfl⟩;rw [Yv i hq] at hf;refine ⟨_,⟨he,_,⟨tr,gF,gS,gR,mX,gT,h1,h2,h3,by simpa using h4,hf,h6,rfl⟩,rfl⟩,?_⟩
 exact ((TG.sum (H:=[Xo tb q.rb (stepT s.ring t).2,gF++(gS++(gR++gT)),Xq q.b q.rb q.lb q.wb,g1,gl,y]) (H':=[Xo tb q.rb (stepT s.ring t).2,gF++(gS++(gR++gT)),Xq q.b q.rb q.lb q.wb++(g1++gl)++y]) T').bz 2 rfl hp').sum
theorem Rw (hx:Qf L x g) {i:Nat} {q:ik} {s:Qu} (hq:L.qs[i]?=some q) (hs:x.au[i]?=some s) (tb:Nat) (t:Xz) (hr0:zu s.ring) (ht:sW t) (v:Qp):Qa prog 256 #[Qb tb,.agg v.cells] [Xo tb q.rb t,g] fun e gs=>e=U6 (U2 U4 (Zp s.ring t v).2.2)/\∃ g',Qf L { x with au:=x.au.set i { s with ring:=(Zp s.ring t v).1 } } g'/\gs=[Xo tb q.rb (Zp s.ring t v).2.1,g']:=by
 obtain ⟨tr,gF,gS,gR,gH,gT,h1,h2,h3,h4,h5,h6,rfl⟩:=hx;have hz:(L.qs.zip x.au)[i]?=some (q,s):=sN hq hs;obtain ⟨u,y,⟨gr,gl,hr,hl,rfl⟩,hp,hback⟩:=h5.out hz;intro w hw;have T:=(((TG.refl hw).sum (H':=[Xo tb q.rb t,gF++(gS++(gR++gT)),gH])).bz 2 rfl hp).sum (H':=[Xo tb q.rb t,gF++(gS++(gR++gT)),Xq q.b q.rb q.lb q.wb,gr,gl,y]);refine (Qa.use (qub (tb:=tb) (t:=t) v hr hr0 ht) T [0,3] rfl rfl).mono ?_
 rintro e w' ⟨gs,⟨he,g1,hn1,rfl⟩,T'⟩;obtain ⟨mX,hf,hp'⟩:=hback (q,{ s with ring:=(Zp s.ring t v).1 }) (Xq q.b q.rb q.lb q.wb++(g1++gl)) ⟨g1,gl,hn1,hl,rfl⟩;rw [Yv i hq] at hf;refine ⟨_,⟨he,_,⟨tr,gF,gS,gR,mX,gT,h1,h2,h3,by simpa using h4,hf,h6,rfl⟩,rfl⟩,?_⟩
 exact ((TG.sum (H:=[Xo tb q.rb (Zp s.ring t v).2.1,gF++(gS++(gR++gT)),Xq q.b q.rb q.lb q.wb,g1,gl,y]) (H':=[Xo tb q.rb (Zp s.ring t v).2.1,gF++(gS++(gR++gT)),Xq q.b q.rb q.lb q.wb++(g1++gl)++y]) T').bz 2 rfl hp').sum
end
structure Qv where
 thread:Int
 no:Int
 kind:Int
 cid:Int
 jJ:Int
 iA:Int
 err:Int
 ok:Bool
 nI:Int
 iJ:Int
 id:Int
 slot:Int
 aB:Int
 gen:Int
 rq:Option iC
 tk:Option (Nat × Xz)
def Qq (fb:Nat) (pv rv tv:Value) (k:Qv):Array Value:=#[Qb fb,U2 U4 k.thread,U2 U4 k.no,U2 U4 k.kind,U2 U5 k.cid,U2 U5 k.jJ,U2 U5 k.iA,U2 U4 k.err,.bool k.ok,U2 U5 k.nI,U2 U5 k.iJ,.slice none 0 0,pv,rv,tv,U2 U5 k.id,U2 U4 k.slot,U2 U5 k.aB,U2 U5 k.gen]
abbrev Qt (kb fb:Nat) (pv rv tv:Value) (k:Qv):List ak:=[cl kb 149 (Qq fb pv rv tv k)]
def Qv.ev (k:Qv) (E:EvS):EvS:={ E with thread:=k.thread,call:=k.no,what:=k.kind }
def xF (k:Qv) (E:EvS) (x:Qi):Qi:={ x with tr:=x.tr++[k.ev E] }
def bL:EvS:=⟨0,0,0,0,0,0,0,0,0,0⟩
def Yb (e:Int) (k:Qv):Qv:={ k with err:=e,ok:=false,nI:=0,iJ:=0 }
section
variable {L:Lay} {x:Qi} {g:List ak} {kb:Nat} {pv rv tv:Value} {k:Qv}
theorem Yu (hx:Qf L x g) (E:EvS) (hn:x.tr.length<=1000000):Qa prog 84 #[Qb kb,.agg E.cells] [Qt kb L.fb pv rv tv k,g] fun e gs =>
 e=U6 (U9 #[])/\∃ g',Qf L (xF k E x) g'/\gs=[Qt kb L.fb pv rv tv k,g']:=by
 refine GO fun w HT=>?_
 have HN:=Vh (KG hx (k.ev E) hn);have lt:=HT.l 0 0;simp only [] at lt;obtain ⟨k0,k1,k2,k3⟩:=HT.c4 0 0 0 1 2 3;simp only [Qq,az] at k0 k1 k2 k3;clear hx hn;simp only [EvS.cells];go_enter func84,ntmps84
 go_wp2
 go_region
 go_wp2
 have HT:=Vh (HT.out.a 73 (k.ev E).cells).drew;simp only [List.cons_append,List.nil_append] at HT;simp only [EvS.cells,Qv.ev] at HT;clear lt k1 k2 k3 k0;generalize World.drew _=w1 at HT |-;have k0:=HT.c 0 0 0;obtain ⟨b0,b1,b2,b3,b4,b5,b6,b7⟩:=HT.c8 2 0 0 1 2 3 4 5 6 7;obtain ⟨b8,b9⟩:=HT.c2 2 0 8 9;simp only [Qq,az] at k0 b0 b1 b2 b3 b4 b5 b6 b7 b8 b9;refine Mx 5 ?_
 simp only [bY]
 repeat (go_big_quiet_step ((fail)))
 refine UA (QT HT fun nq HT=>?_)
 go_wp2_with fail
 refine Qa.run HN HT [1] ?_
 rintro e w1 gs ⟨rfl,g',hx',rfl⟩ HT;simp only [PU] at HT;have HX:=Vh hx';clear hx';go_wp2_with fail
 refine ⟨rfl,?_⟩
 go_wp2
 exact UD (UE rfl _ _ _) rfl ⟨_,⟨rfl,g',HX,rfl⟩,HT.p [0,1]⟩
theorem Jt (hx:Qf L x g) (e:Int) (hn:x.tr.length<=1000000):Qa prog 137 #[Qb kb,U2 U4 e] [Qt kb L.fb pv rv tv k,g] fun r gs =>
 r=U6 (U9 #[])/\∃ g',Qf L (xF k { bL with kind:=9,err:=e } x) g'/\gs=[Qt kb L.fb pv rv tv (Yb e k),g']:=by
 refine GO fun w HT=>?_
 have HN:=Vh (Yu (kb:=kb) (pv:=pv) (rv:=rv) (tv:=tv) (k:=k) hx { bL with kind:=9,err:=e } hn);clear hx hn;go_enter func137,ntmps137
 go_wp2_with fail
 refine Qa.run HN HT [0,1] ?_
 rintro e w1 gs ⟨rfl,g',hx',rfl⟩ HT;simp only [PU] at HT;have HX:=Vh hx';clear hx';obtain ⟨c7,c8,c9,c10,c11⟩:=HT.c5 0 0 7 8 9 10 11;obtain ⟨f7,f8,f9,f10,f11⟩:=HT.f5 0 0 7 8 9 10 11;simp only [Qq,az] at c7 c8 c9 c10 c11;go_wp2
 exact UD (UE rfl _ _ _) rfl ⟨_,⟨rfl,g',HX,rfl⟩,(((((HT.set 0 0 rfl 7 _).set 0 0 rfl 8 _).set 0 0 rfl 9 _).set 0 0 rfl 10 _).set 0 0 rfl 11 _).eq rfl⟩
end
def Qv.period (k:Qv):Int:=if k.kind=2 then k.iA else 0
def Qv.event (k:Qv):Int:=if k.kind=4 then 6 else if k.kind=5 then 7 else 8
theorem Jc.open {sb:Nat} {s:Qj} {g:List ak} (h:Jc sb s g):∃ rb C D,g=[cl sb 163 C,cl rb 176 D]/\C.size=5/\C[0]?=some (.slice (some ⟨rb,0,none⟩) s.recs.length s.recs.length)/\cellAt C 1 (U2 U4 s.count)/\D.size=s.recs.length*6/\∀ i r,s.recs[i]?=some r->recAt D i r:=by
 obtain ⟨rb,m⟩:=h;unfold zf at m;cases m with
 | cons h1 m =>
   cases m with
   | cons h2 m =>
     cases m
     obtain ⟨C,rfl,a,b,c⟩:=h1;obtain ⟨D,rfl,d,e⟩:=h2;exact ⟨rb,C,D,rfl,a,b,c,d,e⟩
theorem qm2 {sb:Nat} {s:Qj} {g:List ak} (h:Jc sb s g) (hn:s.recs.length<=64) (k:Int):Qd prog 227 #[Qb sb,U2 U4 k] [g] (U2 U5 (s.period k)):=by
 obtain ⟨rb,C,D,rfl,h1,h2,h3,h4,h5⟩:=h.open;refine GO fun w HT=>?_
 have c0:=(HT.c 0 0 0).trans h2;by_cases hk:s.has k
 ·obtain ⟨j,rfl⟩:=Qj.eG hk
  obtain ⟨r,hr,hr'⟩:=Qj.fu hk;have HP:=Vh (show s.period j=r.p from by unfold Qj.period;rw [if_pos hk,hr']);have c1:=(HT.cell 0 1 rfl (j*6+5)).trans (h5 j r hr).2.2;have hj:j<s.recs.length:=by unfold Qj.has at hk;omega
  clear h1 h2 h3 h4 h5 h hk hr hr';generalize s.recs.length=n at *
  have BR:∀ w',w'.cell? ⟨sb,0,none⟩=some (.slice (some ⟨rb,0,none⟩) n n)->Calls prog 99 #[Qb sb,U2 U4 (j:Int)] w' fun e w2=>e=U6 (.pointer (some ⟨rb,j*6,none⟩))/\w'=w2:=by
   intro w' c0';clear c0 c1 HT;go_enter func99,ntmps99
   go_wp2
   go_ret
   exact ⟨rfl,rfl⟩
  have HAT:=Vh (BR w c0);clear BR;go_enter func227,ntmps227
  go_wp2_with fail
  refine (HAT).mono ?_
  rintro e w2 ⟨rfl,rfl⟩;go_wp2
  go_ret
  exact ⟨by rw [HP.out];rfl,0,rfl⟩
 ·have HP:=Vh (show s.period k=0 from if_neg hk)
  have hk':¬ (0<=k/\k<s.recs.length):=hk;clear h1 h2 h3 h4 h5 h hk;generalize s.recs.length=n at *
  have BR:∀ w',w'.cell? ⟨sb,0,none⟩=some (.slice (some ⟨rb,0,none⟩) n n)->Calls prog 99 #[Qb sb,U2 U4 k] w' fun e w2=>e=U6 (UC none)/\w'=w2:=by
   intro w' c0';clear c0 HT;by_cases h0:0<=k
   ·have h9:(n:Int)<=k:=by omega
    clear hk';go_enter func99,ntmps99
    go_wp2
    go_ret
    exact ⟨rfl,rfl⟩
   ·have h9:k<0:=by omega
    clear hk' h0;go_enter func99,ntmps99
    go_wp2
    go_ret
    exact ⟨rfl,rfl⟩
  have HAT:=Vh (BR w c0);clear BR hk';go_enter func227,ntmps227
  go_wp2_with fail
  refine (HAT).mono ?_
  rintro e w2 ⟨rfl,rfl⟩;go_wp2
  go_ret
  exact ⟨by rw [HP.out];rfl,0,rfl⟩
section
variable {L:Lay} {x:Qi} {g:List ak} {kb:Nat} {pv rv tv:Value} {k:Qv}
theorem O6 (hx:Qf L x g) (hn:x.aa.recs.length<=64) (i:Int):Qd prog 227 #[Qb L.p.sb,U2 U4 i] [g] (U2 U5 (x.aa.period i)):=by
 obtain ⟨tr,gF,gS,gR,gH,gT,h1,h2,h3,h4,h5,h6,rfl⟩:=hx;intro w hw;have T:=(TG.refl hw).m [gF,gS,gR,gH,gT];exact (qm2 h2 hn i).use T [1] rfl rfl
theorem JJ:Qd prog 142 #[Qb kb] [Qt kb L.fb pv rv tv k] (U2 U5 k.period):=by
 by_cases h:k.kind=2
 ·have HE:=Vh (show k.period=k.iA from if_pos h)
  refine GO fun w HT=>?_
  obtain ⟨k3,k6⟩:=HT.c2 0 0 3 6;simp only [Qq,az] at k3 k6;rw [h] at k3;clear h;go_enter func142,ntmps142
  go_wp2
  go_ret
  exact ⟨by rw [HE.out];rfl,0,rfl⟩
 ·have HE:=Vh (show k.period=0 from if_neg h)
  have hb:(k.kind == 2)=false:=beq_eq_false_iff_ne.2 h;refine GO fun w HT=>?_
  obtain ⟨k3,k6⟩:=HT.c2 0 0 3 6;simp only [Qq,az] at k3 k6;clear h;go_enter func142,ntmps142
  go_wp2
  go_ret
  exact ⟨by rw [HE.out];rfl,0,rfl⟩
theorem qx:Qd prog 226 #[Qb kb] [Qt kb L.fb pv rv tv k] (U2 U4 k.event):=by
 by_cases h:k.kind=4
 ·have HE:=Vh (show k.event=6 from if_pos h)
  refine GO fun w HT=>?_
  have k3:=HT.c 0 0 3;simp only [Qq,az] at k3;rw [h] at k3;clear h;go_enter func226,ntmps226
  go_wp2
  go_ret
  exact ⟨by rw [HE.out];rfl,0,rfl⟩
 ·have hb:(k.kind == 4)=false:=beq_eq_false_iff_ne.2 h
  by_cases h':k.kind=5
  ·have HE:=Vh (show k.event=7 from (if_neg h).trans (if_pos h'))
   refine GO fun w HT=>?_
   have k3:=HT.c 0 0 3;simp only [Qq,az] at k3;rw [h'] at k3;clear h h' hb;go_enter func226,ntmps226
   go_wp2
   go_ret
   exact ⟨by rw [HE.out];rfl,0,rfl⟩
  ·have hb':(k.kind == 5)=false:=beq_eq_false_iff_ne.2 h'
   have HE:=Vh (show k.event=8 from (if_neg h).trans (if_neg h'));refine GO fun w HT=>?_
   have k3:=HT.c 0 0 3;simp only [Qq,az] at k3;clear h h';go_enter func226,ntmps226
   go_wp2
   go_ret
   exact ⟨by rw [HE.out];rfl,0,rfl⟩
theorem Zb {fn:FuncId} {first aK:Array Value}:Qa prog 80 #[U3 (U7 fn) first aK] [] fun e gs=>e=U6 (.agg #[U1,U3 (U7 fn) first aK])/\gs=[]:=by
 refine GO fun w HT=>?_
 go_enter func80,ntmps80
 go_wp2
 exact U8 (v:=.agg #[U1,U3 (U7 fn) first aK]) (by simp [results,results80,go_sem]) rfl ⟨_,⟨rfl,rfl⟩,HT.aT _⟩
end
structure pR (x:Qi):Prop where
 aa:Xh x.aa
 i0:0<=x.f.inside
 i1:x.f.inside<=1000000
 tr:x.tr.length<=1000000
 sh:1<=x.au.length
 ring:∀ s∈x.au,zu s.ring
theorem Y4 {s:Qj} (h:Xh s) (k:Int):0<=s.word k/\s.word k<18446744073709551616/\okW (s.word k)=true:=by
 unfold Qj.word;split
 ·next hk =>
  obtain ⟨j,rfl⟩:=Qj.eG hk;obtain ⟨r,hr,hr'⟩:=Qj.fu hk;rw [hr'];have:=h.recs r (List.mem_of_getElem? hr);exact ⟨this.w0,this.w1,this.ok⟩
 ·exact ⟨by omega,by omega,by decide⟩
def qM (k:Int) (ev:Int) (s:Qj):Qj × Int:=((s.try k (s.word k) ev).1,(s.try k (s.word k) ev).2.1)
def xB (ev:Int) (k:Qv) (s:Qj):Qv:={ k with gen:=Xv (qM k.slot ev s).2 }
def lookW (k:Qv) (s:Qj):Qv × Int :=
 if s.fE k.id≠0 then (k,s.fE k.id) else
  if s.mine k.id=false then ({ k with slot:=s.slot k.id,aB:=s.word (s.slot k.id) },7)
  else ({ k with slot:=s.slot k.id,aB:=s.word (s.slot k.id) },(Xs (s.word (s.slot k.id)) k.event (decide (0<s.period (s.slot k.id)))).2)
theorem q7o (n e:Int) (p:Bool) (h0:0<=n) (h1:n<18446744073709551616):Qd prog 225 #[U2 U5 n,U2 U4 e,.bool p] [] (U9 #[U2 U5 (Xs n e p).1,U2 U4 (Xs n e p).2]) :=
 fun w hw=>(Fx n e p w h0 h1).mono fun e w' ⟨he,hw'⟩=>⟨he,0,hw'.symm⟩
section
variable {L:Lay} {x:Qi} {g:List ak} {kb:Nat} {pv rv tv:Value} {k:Qv}
theorem K6 (hx:Qf L x g) (ho:pR x) (ev:Int):Qa prog 232 #[Qb kb,U2 U4 ev] [Qt kb L.fb pv rv tv k,g] fun r gs =>
 r=U6 (U9 #[])/\∃ g',Qf L { x with aa:=(qM k.slot ev x.aa).1 } g'/\gs=[Qt kb L.fb pv rv tv (xB ev k x.aa),g']:=by
 obtain ⟨w0,w1,w2⟩:=Y4 ho.aa k.slot;have tb:=KS ho.aa k.slot (x.aa.word k.slot) ev w0 w1 w2;have HW:=Vh (yO hx ho.aa.n1 k.slot);have HY:=Vh (show ∀ g',Qf L x g'->_ from fun g' hx'=>AO (g:=g') hx' ho.aa.n1 k.slot (x.aa.word k.slot) ev w0 w1);have HE:=Vh (show qM k.slot ev x.aa=((x.aa.try k.slot (x.aa.word k.slot) ev).1,(x.aa.try k.slot (x.aa.word k.slot) ev).2.1)/\xB ev k x.aa={ k with gen:=Xv (x.aa.try k.slot (x.aa.word k.slot) ev).2.1 } from ⟨rfl,rfl⟩);have ME:=Vh tb;refine GO fun w HT=>?_
 obtain ⟨k0,k16⟩:=HT.c2 0 0 0 16;simp only [Qq,az] at k0 k16;have HX:=Vh hx;clear hx ho w0 w1 w2 tb;go_enter func232,ntmps232
 go_wp2
 refine Mx 9 ?_
 simp only [bY]
 repeat (go_big_quiet_step ((first | (go_at_call 19;with_reducible exact Qd.quiet (Qn HX.out) HT.out _ [1] rfl rfl))))
 refine UA (QT HT fun nq HT=>?_)
 go_wp2_with fail
 refine Qa.run HW HT [1] ?_
 rintro e w1 gs ⟨rfl,g1,hx1,rfl⟩ HT;simp only [PU] at HT;have HX:=Vh hx1;clear hx1 k0 k16;go_wp2_with fail
 refine ⟨rfl,?_⟩
 obtain ⟨k0,k16⟩:=HT.c2 0 0 0 16;simp only [Qq,az] at k0 k16;go_wp2
 refine Mx 11 ?_
 simp only [bY]
 repeat (go_big_quiet_step ((first | (go_at_call 19;with_reducible exact Qd.quiet (Qn HX.out) HT.out _ [1] rfl rfl))))
 refine UA (QT HT fun nq HT=>?_)
 go_wp2_with fail
 refine Qa.run (HY _ HX) (HT) [1] ?_
 rintro e w1 gs ⟨rfl,g2,hx2,rfl⟩ HT;simp only [PU] at HT;have kM:=Vh hx2;clear hx2 k0 k16;go_wp2_with fail
 refine ⟨rfl,?_⟩
 have k18:=HT.c 0 0 18;have kD:=HT.f 0 0 18;simp only [Qq,az] at k18;go_wp2_with (go_at_call 229;refine (F9 _ _ ME.1 ME.2).mono ?_;rintro e w' ⟨rfl,rfl⟩)
 exact UD (UE rfl _ _ _) rfl ⟨_,⟨rfl,g2,by rw [HE.out.1];exact kM,rfl⟩,(HT.set 0 0 rfl 18 _).eq (by rw [HE.out.2];rfl)⟩
theorem Sl (hx:Qf L x g) (ho:pR x) (h0:0<=k.id) (h9:k.id<18446744073709551616):Qa prog 187 #[Qb kb] [Qt kb L.fb pv rv tv k,g] fun r gs =>
 r=U6 (U2 U4 (lookW k x.aa).2)/\∃ g',Qf L x g'/\gs=[Qt kb L.fb pv rv tv (lookW k x.aa).1,g']:=by
 have ku:=Vh (show ∀ g',Qf L x g'->_ from fun g' hx'=>qzv (g:=g') hx' ho.aa.n1 k.id h0 h9);by_cases h1:x.aa.fE k.id≠0
 ·have HE:=Vh (show lookW k x.aa=(k,x.aa.fE k.id) from if_pos h1)
  have hb:(x.aa.fE k.id != 0)=true:=bne_iff_ne.2 h1;have HX:=Vh hx;refine GO fun w HT=>?_
  obtain ⟨k0,k15⟩:=HT.c2 0 0 0 15;simp only [Qq,az] at k0 k15;clear hx ho h0 h9 h1;go_enter func187,ntmps187
  go_wp2
  refine Mx 9 ?_
  simp only [bY]
  repeat (go_big_quiet_step ((first | (go_at_call 19;with_reducible exact Qd.quiet (Qn HX.out) HT.out _ [1] rfl rfl))))
  refine UA (QT HT fun nq HT=>?_)
  go_wp2_with fail
  refine Qa.run (ku _ HX) (HT) [1] ?_
  rintro e w1 gs ⟨rfl,g1,hx1,rfl⟩ HT;simp only [PU] at HT;have HX:=Vh hx1;clear hx1 k0 k15;go_wp2_with fail
  refine ⟨rfl,?_⟩
  go_wp2
  go_ret
  exact ⟨_,⟨by rw [HE.out];rfl,g1,HX,rfl⟩,HT.eq (by rw [HE.out])⟩
 ·have h1:x.aa.fE k.id=0:=by omega
  have ED:=Vh h1;obtain ⟨sl,hsl⟩:∃ sl,x.aa.slot k.id=sl:=⟨_,rfl⟩;have HSL0:=Vh hsl;have kL:=Vh (show ∀ g',Qf L x g'->_ from fun g' hx'=>yO (g:=g') hx' ho.aa.n1 sl);have wR:=Vh (show ∀ g',Qf L x g'->_ from fun g' hx'=>Rx (g:=g') hx' ho.aa.n1 k.id h0 h9);have uo:=Vh (show ∀ g',Qf L x g'->_ from fun g' hx'=>O6 (g:=g') hx' ho.aa.n1 sl);have gp:=Vh (Y4 ho.aa sl);rw [h1,hsl] at ku;have HX:=Vh hx;cases hm:x.aa.mine k.id with
  | false =>
    have HE:=Vh (show lookW k x.aa=({ k with slot:=sl,aB:=x.aa.word sl },7) from by unfold lookW;rw [if_neg (by rw [h1];simp),if_pos hm,hsl]);rw [hm] at wR;refine GO fun w HT=>?_
    obtain ⟨k0,k15⟩:=HT.c2 0 0 0 15;simp only [Qq,az] at k0 k15;clear hx ho h0 h9 h1 hsl hm;go_enter func187,ntmps187
    go_wp2
    refine Mx 9 ?_
    simp only [bY]
    repeat (go_big_quiet_step ((first | (go_at_call 19;with_reducible exact Qd.quiet (Qn HX.out) HT.out _ [1] rfl rfl))))
    refine UA (QT HT fun nq HT=>?_)
    go_wp2_with fail
    refine Qa.run (ku _ HX) (HT) [1] ?_
    rintro e w1 gs ⟨rfl,g1,hx1,rfl⟩ HT;simp only [PU] at HT;have HX:=Vh hx1;clear hx1 k0 k15;go_wp2_with fail
    refine ⟨rfl,?_⟩
    obtain ⟨k0,k16⟩:=HT.c2 0 0 0 16;have lz:=HT.f 0 0 16;simp only [Qq,az] at k0 k16;go_wp2_with fail
    have HT:=Vh (HT.out.set 0 0 rfl 16 (U2 U4 sl));go_wp2_with fail
    refine (Qd.use (Qn HX) (HT) [1] rfl rfl).mono ?_
    rintro e w1 ⟨rfl,mq,rfl⟩;have HT:=Vh (HT.out.drewN mq);go_wp2_with fail
    refine Qa.run (kL _ HX) (HT) [1] ?_
    rintro e w1 gs ⟨rfl,g2,hx2,rfl⟩ HT;simp only [PU] at HT;have HX:=Vh hx2;clear hx2 k0 k16 lz;obtain ⟨k0,k15,k17⟩:=HT.c3 0 0 0 15 17;have yg:=HT.f 0 0 17;simp only [Qq,az] at k0 k15 k17;go_wp2
    have HT:=Vh (HT.out.set 0 0 rfl 17 (U2 U5 (x.aa.word sl)));refine Mx 9 ?_
    simp only [bY]
    repeat (go_big_quiet_step ((first | (go_at_call 19;with_reducible exact Qd.quiet (Qn HX.out) HT.out _ [1] rfl rfl))))
    refine UA (QT HT fun nq HT=>?_)
    go_wp2_with fail
    refine Qa.run (wR _ HX) (HT) [1] ?_
    rintro e w1 gs ⟨rfl,g3,hx3,rfl⟩ HT;simp only [PU] at HT;have HX:=Vh hx3;clear hx3 k0 k15 k17 yg;go_wp2_with fail
    refine ⟨rfl,?_⟩
    go_wp2
    go_ret
    exact ⟨_,⟨by rw [HE.out];rfl,g3,HX,rfl⟩,HT.eq (by rw [HE.out];rfl)⟩
  | true =>
    have HE:=Vh (show lookW k x.aa=({ k with slot:=sl,aB:=x.aa.word sl },(Xs (x.aa.word sl) k.event (decide (0<x.aa.period sl))).2) from by unfold lookW;rw [if_neg (by rw [h1];simp),if_neg (by rw [hm];simp),hsl]);rw [hm] at wR;refine GO fun w HT=>?_
    obtain ⟨k0,k15⟩:=HT.c2 0 0 0 15;simp only [Qq,az] at k0 k15;clear hx ho h0 h9 h1 hsl hm;go_enter func187,ntmps187
    go_wp2
    refine Mx 9 ?_
    simp only [bY]
    repeat (go_big_quiet_step ((first | (go_at_call 19;with_reducible exact Qd.quiet (Qn HX.out) HT.out _ [1] rfl rfl))))
    refine UA (QT HT fun nq HT=>?_)
    go_wp2_with fail
    refine Qa.run (ku _ HX) (HT) [1] ?_
    rintro e w1 gs ⟨rfl,g1,hx1,rfl⟩ HT;simp only [PU] at HT;have HX:=Vh hx1;clear hx1 k0 k15;go_wp2_with fail
    refine ⟨rfl,?_⟩
    obtain ⟨k0,k16⟩:=HT.c2 0 0 0 16;have lz:=HT.f 0 0 16;simp only [Qq,az] at k0 k16;go_wp2_with fail
    have HT:=Vh (HT.out.set 0 0 rfl 16 (U2 U4 sl));go_wp2_with fail
    refine (Qd.use (Qn HX) (HT) [1] rfl rfl).mono ?_
    rintro e w1 ⟨rfl,mq,rfl⟩;have HT:=Vh (HT.out.drewN mq);go_wp2_with fail
    refine Qa.run (kL _ HX) (HT) [1] ?_
    rintro e w1 gs ⟨rfl,g2,hx2,rfl⟩ HT;simp only [PU] at HT;have HX:=Vh hx2;clear hx2 k0 k16 lz;obtain ⟨k0,k15,k17⟩:=HT.c3 0 0 0 15 17;have yg:=HT.f 0 0 17;simp only [Qq,az] at k0 k15 k17;go_wp2
    have HT:=Vh (HT.out.set 0 0 rfl 17 (U2 U5 (x.aa.word sl)));refine Mx 9 ?_
    simp only [bY]
    repeat (go_big_quiet_step ((first | (go_at_call 19;with_reducible exact Qd.quiet (Qn HX.out) HT.out _ [1] rfl rfl))))
    refine UA (QT HT fun nq HT=>?_)
    go_wp2_with fail
    refine Qa.run (wR _ HX) (HT) [1] ?_
    rintro e w1 gs ⟨rfl,g3,hx3,rfl⟩ HT;simp only [PU] at HT;have HX:=Vh hx3;clear hx3 k0 k15 k17 yg;go_wp2_with fail
    refine ⟨rfl,?_⟩
    have HT:=Vh (HT.out.eq (H':=[Qt kb L.fb pv rv tv { k with slot:=sl,aB:=x.aa.word sl },g3]) rfl);obtain ⟨k0,k17⟩:=HT.c2 0 0 0 17;simp only [Qq,az] at k0 k17;go_wp2
    go_quiet ((first | (go_at_call 19;with_reducible exact Qd.quiet (Qn HX.out) HT.out _ [1] rfl rfl) | (go_at_call 226;with_reducible exact Qd.quiet (qx (L:=L)) HT.out _ [0] rfl rfl) | (go_at_call 227;with_reducible exact Qd.quiet (uo.out _ HX.out) HT.out _ [1] rfl rfl) | (go_at_call 225;with_reducible exact Qd.quiet (q7o _ _ _ gp.out.1 gp.out.2.1) HT.out _ [] rfl rfl)))
    have HT:=Vh (HT.out.drewN nq);go_wp2
    go_ret
    exact ⟨_,⟨by rw [HE.out];rfl,g3,HX,rfl⟩,HT.eq (by rw [HE.out])⟩
end
inductive MC where
 | right | enter | gate | asks | aX | bU | fills | looks | again | tries | ends | leaves
inductive AC where
 | aS | bJ | eB | drop | bK | bC
abbrev SC:Type:=St MC AC Empty
abbrev ZC:Type:=Qv × Qi
def Ji:SC:=.thn (.aj .bJ) .ends
def X2 (k:Qv):SC:=if k.kind=4\/k.kind=5 then .aj .aS else Ji
def Ql (e:Int) (z:ZC):ZC:=(Yb e z.1,xF z.1 { bL with kind:=9,err:=e } z.2)
def iQ (k:Qv):Qv:={ k with err:=0,ok:=true,nI:=k.id,iJ:=k.gen }
def Yo (v:Qp) (z:ZC):ZC :=
 match z.1.tk with
 | none=>z
 | some (i,t)=>match z.2.au[i]? with
   | none=>z
   | some s=>({ z.1 with tk:=some (i,(Zp s.ring t v).2.1) },{ z.2 with au:=z.2.au.set i { s with ring:=(Zp s.ring t v).1 } })
def qi (slot:Int) (x:Qi):Nat:=(slot % (x.au.length:Int)).toNat
def mP (k:Qv):Prop:=k.kind=2/\(k.iA=0\/18446744073709551616<=k.jJ+k.iA)
instance (k:Qv):Decidable (mP k):=by unfold mP;infer_instance
def zj (ev:Int) (z:ZC):ZC:=(xB ev z.1 z.2.aa,{ z.2 with aa:=(qM z.1.slot ev z.2.aa).1 })
def Zr (z:ZC):ZC × Int:=(({ z.1 with gen:=Xv (z.2.aa.try z.1.slot z.1.aB z.1.event).2.1 },{ z.2 with aa:=(z.2.aa.try z.1.slot z.1.aB z.1.event).1 }),(z.2.aa.try z.1.slot z.1.aB z.1.event).2.2)
def Q4 (z:ZC):ZC × Int:=(((lookW z.1 z.2.aa).1,z.2),(lookW z.1 z.2.aa).2)
def qr (z:ZC):Qp:=⟨z.1.id,z.1.slot,z.1.gen,z.1.jJ,z.2.aa.period z.1.slot⟩
def qc (E:EvS) (z:ZC):ZC:=(z.1,xF z.1 E z.2)
def q7 (z:ZC) (q:iC):SC × ZC :=
 let r:=Za z.2.aa q
 let x':={ z.2 with aa:=r.1 }
 if r.2.st=1 then (Ji,Ql 2 ({ z.1 with rq:=some r.2 },x'))
 else if r.2.st=2 then (.at none .aX,({ z.1 with rq:=some r.2,id:=r.2.id,slot:=r.2.id % 64,tk:=some (qi (r.2.id % 64) z.2,Xp) },x'))
 else (.at none .asks,({ z.1 with rq:=some r.2 },x'))
def Ze (z:ZC) (i:Nat) (t:Xz) (s:Qu):SC × ZC :=
 let r:=stepT s.ring t
 let z':ZC:=({ z.1 with tk:=some (i,r.2) },{ z.2 with au:=z.2.au.set i { s with ring:=r.1 } })
 if r.2.status=0 then (.at none .aX,z')
 else if r.2.status=1/\z.1.kind=3 then (Ji,Ql 2 z')
 else if r.2.status=1 then (.thn (.aO .eB .drop) .leaves,z')
 else if z.1.kind=3 then (.at none .again,z')
 else (.at none .bU,z')
def J1:MC->ZC->SC × ZC
 | .ends,z=>(.aj .aS,z)
 | .leaves,z=>(Ji,z)
 | .right,z=>if mP z.1 then (.aj .aS,Ql 1 z) else (.at none .enter,z)
 | .enter,z=>(.at none .gate,(z.1,{ z.2 with f:={ z.2.f with inside:=z.2.f.inside+1 } }))
 | .gate,z=>if z.2.f.closed=true then (X2 z.1,Ql 3 z)
    else if z.1.kind=1\/z.1.kind=2 then (.at none .asks,({ z.1 with rq:=some ⟨z.1.period,0,0,0,0,0⟩ },z.2))
    else (.at none .looks,z)
 | .asks,z=>match z.1.rq with
   | none=>(.nil,z)
   | some q=>q7 z q
 | .aX,z=>match z.1.tk with
   | none=>(.nil,z)
   | some (i,t)=>match z.2.au[i]? with
     | none=>(.nil,z)
     | some s=>Ze z i t s
 | .bU,z=>(.at none .fills,qc { bL with kind:=3,id:=(zj 2 z).1.id,gen:=(zj 2 z).1.gen,dl:=(zj 2 z).1.jJ,per:=(zj 2 z).1.period } (zj 2 z))
 | .fills,z=>(Ji,(iQ (Yo (qr z) z).1,(Yo (qr z) z).2))
 | .looks,z =>
   if (Q4 z).2=0 then
    (if z.1.kind=3 then (.at none .aX,({ (Q4 z).1.1 with tk:=some (qi (Q4 z).1.1.slot z.2,Xp) },z.2)) else (.at none .tries,(Q4 z).1))
   else if (Q4 z).2=1 then (X2 z.1,Ql 1 (Q4 z).1)
   else (X2 z.1,Ql 0 (Q4 z).1)
 | .again,z=>if (Q4 z).2=0 then (.at none .tries,(Q4 z).1) else (.thn (.aj .bC) .leaves,Ql 0 (Q4 z).1)
 | .tries,z =>
   if (Zr z).2≠0 then (if z.1.kind=3 then (.at none .again,(Zr z).1) else (.at none .looks,(Zr z).1))
   else if z.1.kind=3 then (.at none .fills,qc { bL with kind:=6,id:=z.1.id,gen:=(Zr z).1.1.gen,dl:=z.1.jJ } (iQ (Zr z).1.1,(Zr z).1.2))
   else if z.1.kind=5 then (.aj .aS,qc { bL with kind:=8,id:=z.1.id,gen:=(Zr z).1.1.gen } (iQ (Zr z).1.1,(Zr z).1.2))
   else (.thn (.aO .bK .drop) .ends,qc { bL with kind:=7,id:=z.1.id,gen:=(Zr z).1.1.gen } (iQ (Zr z).1.1,(Zr z).1.2))
def bN:AC->ZC->ZC
 | .aS,z=>qc { bL with kind:=2,id:=z.1.nI,gen:=z.1.iJ,err:=z.1.err } z
 | .bJ,z=>(z.1,{ z.2 with f:={ z.2.f with inside:=Z5 z.2.f.inside } })
 | .eB,z=>Ql 2 (zj 9 z)
 | .drop,z=>(z.1,{ z.2 with aa:=z.2.aa.drop.1 })
 | .bK,z=>zj 10 z
 | .bC,z=>Yo { Qp.zero with slot:=-1 } z
structure Gc (k:Qv) (x:Qi):Prop where
 c0:0<=k.jJ/\k.jJ<18446744073709551616
 c1:0<=k.iA/\k.iA<18446744073709551616
 id:0<=k.id/\k.id<18446744073709551616
 slot:0<=k.slot
 aB:0<=k.aB/\k.aB<18446744073709551616/\okW k.aB=true
 rq:∀ q,k.rq=some q->wE x.aa.recs.length q
 tk:∀ i t,k.tk=some (i,t)->sW t/\i<x.au.length
def qQ (f:MC) (z:ZC):Prop:=pR z.2/\Gc z.1 z.2/\(match f with
 | .asks=>z.1.rq.isSome=true/\∀ q,z.1.rq=some q->q.st=0
 | .aX | .fills=>z.1.tk.isSome=true
 | _=>True)
def xH (f:AC) (z:ZC):Prop:=pR z.2/\Gc z.1 z.2/\(match f with
 | .bC=>z.1.tk.isSome=true
 | _=>True)
def xu (sb:Nat):Option iC->Value->List ak->Prop
 | none,v,g=>v=UC none/\g=[]
 | some q,v,g=>∃ qb,v=Qb qb/\g=j4 qb sb q
def xw (L:Lay):Option (Nat × Xz)->Value->List ak->Prop
 | none,v,g=>v=UC none/\g=[]
 | some (i,t),v,g=>∃ tb q,L.qs[i]?=some q/\v=Qb tb/\g=Xo tb q.rb t
def kg (L:Lay) (kb:Nat) (pv:Value) (k:Qv) (x:Qi) (gK gF:List ak):Prop :=
 ∃ rv tv gq gt,xu L.p.sb k.rq rv gq/\xw L k.tk tv gt/\gK=Qt kb L.fb pv rv tv k++(gq++gt)/\Qf L x gF
def Md (L:Lay) (kb:Nat) (pv:Value) (z:ZC) (gK gF:List ak):Prop:=kg L kb pv z.1 z.2 gK gF
def Hz:MC->FuncId
 | .right=>81
 | .enter=>82
 | .gate=>83
 | .asks=>143
 | .aX=>186
 | .bU=>222
 | .fills=>230
 | .looks=>144
 | .again=>221
 | .tries=>188
 | .ends=>138
 | .leaves=>181
def VMC (kb:Nat) (f:MC) (v:Value) (g:List ak):Prop:=v=U3 (U7 (Hz f)) #[Qb kb] #[]/\g=[]
def dM (kb:Nat) (fn:FuncId) (v:Value) (g:List ak):Prop:=∃ bk,v=U3 (U7 fn) #[] #[Qb bk]/\g=[cl bk 33 #[Qb kb]]
def VAC (kb:Nat):AC->Value->List ak->Prop
 | .aS,v,g=>dM kb 179 v g
 | .bJ,v,g=>dM kb 212 v g
 | .eB,v,g=>v=U3 (U7 219) #[Qb kb] #[]/\g=[]
 | .drop,v,g=>v=U3 (U7 220) #[Qb kb] #[]/\g=[]
 | .bK,v,g=>dM kb 231 v g
 | .bC,v,g=>dM kb 255 v g
def kv (L:Lay) (kb:Nat) (pv:Value):aV :=
 ⟨MC,AC,Empty,ZC,Md L kb pv,VMC kb,VAC kb,fun _ _ _=>False,J1,bN,(fun y _=>y.elim),qQ,xH,fun _ _=>True⟩
def MR (L:Lay) (kb:Nat) (pv:Value) (s:SC) (k:Qv) (x:Qi) (e:Ending) (gs:GH):Prop :=
 ∃ m d g' bg aJ,e=U6 (.agg #[m,d])/\(kv L kb pv).SV s m d g'/\kg L kb pv k x bg aJ/\gs=[g',bg,aJ]
section
variable {L:Lay} {x:Qi} {gK gF:List ak} {kb:Nat} {pv:Value} {k:Qv}
theorem q7d (hz:kg L kb pv k x gK gF) (hp:qQ .enter (k,x)):Qa prog 82 #[Qb kb] [gK,gF] (MR L kb pv (.at none .gate) k { x with f:={ x.f with inside:=x.f.inside+1 } }):=by
 have hi0:=hp.1.i0;have hi1:=hp.1.i1;obtain ⟨rv,tv,gq,gt,hr,ht,rfl,hx⟩:=hz;refine GO fun w HT=>?_
 have HT:=Vh (HT.out.m [Qt kb L.fb pv rv tv k,gq,gt,gF]);have HX:=Vh hx;have HR:=Vh hr;have dK:=Vh ht;clear hx hr ht;have k0:=HT.c 0 0 0;simp only [Qq,az] at k0;have lt:=HT.l 0 0;simp only [] at lt;have HE:=Vh (PX HX ⟨hi0,hi1⟩);clear hp hi0 hi1;go_enter func82,ntmps82
 go_wp2_with fail
 refine Qa.run HE (HT.a _ _) [3] ?_
 rintro e w1 gs ⟨rfl,g1,hx1,rfl⟩ HT;simp only [PU] at HT;have HX:=Vh hx1;clear hx1 k0 lt;go_wp2_with fail
 refine Qa.run Zb HT [] ?_
 rintro e w1 gs ⟨rfl,rfl⟩ HT;simp only [PU] at HT;obtain ⟨e0,e1⟩:=HT.c2 4 0 0 1;obtain ⟨ek,dZ⟩:=HT.f2 4 0 0 1;simp only [aN] at e0 e1;go_wp2
 exact U8 (v:=.agg #[U1,U3 (U7 83) #[Qb kb] #[]]) (by simp [results,results82,go_sem,e0,e1]) rfl ⟨_,⟨_,_,[],_,_,rfl,⟨rfl,rfl,rfl⟩,⟨_,_,gq,gt,HR,dK,rfl,HX⟩,rfl⟩,(((HT.set 4 0 rfl 0 _).set 4 0 rfl 1 _).p [0,1,2,3]).sum⟩
theorem Xk (L:Lay) (kb:Nat) (pv:Value):(kv L kb pv).iI where
 vm h:=⟨_,_,_,h.1⟩
 va {f v g} h:=by
  cases f
  case eB=>exact ⟨_,_,_,h.1⟩
  case drop=>exact ⟨_,_,_,h.1⟩
  all_goals (obtain ⟨bk,h,_⟩:=h;exact ⟨_,_,_,h⟩)
 vy h:=h.elim
def SR (L:Lay) (kb:Nat) (pv:Value) (s:SC) (e:Ending) (gs:GH):Prop:=∃ m d g',e=U6 (.agg #[m,d])/\(kv L kb pv).SV s m d g'/\gs=[g']
end
section
variable {L:Lay} {x:Qi} {gK gF:List ak} {kb:Nat} {pv:Value} {k:Qv}
theorem Bp (L:Lay) (kb:Nat) (pv:Value):Qa prog 138 #[Qb kb] [] (SR L kb pv (.aj .aS)):=by
 refine GO fun w HT=>?_
 go_enter func138,ntmps138
 go_wp2_with fail
 refine Qa.run (aV.dY (b:=w.heap.size+1+1) (o:=0) (D:=#[U3 (U7 179) #[] #[Qb w.heap.size]]) rfl 1 (.inl rfl)) (((HT.a _ _).alloc (k:=w.heap.size+1) (by simp) _ _).alloc (k:=w.heap.size+1+1) (by simp) _ _) [2] ?_
 rintro e w1 gs ⟨bf,bl,bi,rfl,rfl⟩ HT;simp only [PU] at HT;obtain ⟨e0,e1⟩:=HT.c2 1 0 0 1;obtain ⟨ek,dZ⟩:=HT.f2 1 0 0 1;simp only [aN] at e0 e1;go_wp2
 exact U8 (v:=.agg #[U1,_]) (by simp [results,results138,go_sem,e0,e1]) rfl ⟨_,⟨_,_,_,rfl,⟨rfl,bf,bl,bi,w.heap.size+1+1,0,#[U3 (U7 179) #[] #[Qb w.heap.size]],_,_,rfl,⟨w.heap.size,rfl,rfl⟩,rfl,rfl⟩,rfl⟩,(((HT.set 1 0 rfl 0 _).set 1 0 rfl 1 _).p [0,2,3,4,5]).sum⟩
theorem DI (L:Lay) (kb:Nat) (pv:Value):Qa prog 181 #[Qb kb] [] (SR L kb pv Ji):=by
 have hrow:∀ (bk b bf bl bi:Nat),(kv L kb pv).SV (.aj .bJ) U1 (U3 (U7 209) #[] #[Qb bf,Qb bl,Qb bi])
  ([cl bf 1 #[U3 (U7 212) #[] #[Qb bk]],cl bl 322 #[.slice (some ⟨b,0,none⟩) 1 1],cl bi 3 #[U2 U4 0],cl b 1 #[U3 (U7 212) #[] #[Qb bk]]]++[cl bk 33 #[Qb kb]]) :=
  fun bk b bf bl bi=>⟨rfl,bf,bl,bi,b,0,_,_,_,rfl,⟨bk,rfl,rfl⟩,rfl,rfl⟩
 have fo:∀ (bk b bf bl bi:Nat),_:=fun bk b bf bl bi=>aV.dB (f:=MC.ends) (v:=U3 (U7 138) #[Qb kb] #[]) (gm:=[]) (Xk L kb pv) rfl (hrow bk b bf bl bi) ⟨rfl,rfl⟩
 refine GO fun w HT=>?_
 have nD:=Vh fo;clear hrow fo;go_enter func181,ntmps181
 go_wp2_with fail
 have HT:=Vh ((HT.a 33 #[Qb kb]).alloc (k:=w.heap.size+1) (by simp) 153 #[U1,U1])
 go_region_with (first
  | (go_at_call 178
     refine (Qa.use (aV.dY (b:=w.heap.size+1+1) (o:=0) (D:=#[U3 (U7 212) #[] #[Qb w.heap.size]]) rfl 1 (.inl rfl)) (HT.drew.alloc (k:=w.heap.size+1+1) (by simp) _ _) [2] rfl rfl).mono ?_
     rintro e w1 ⟨gs,⟨bf,bl,bi,rfl,rfl⟩,Ta⟩;simp only [PU] at Ta;have b0:=Ta.c 0 0 0;simp only [bP] at b0;have HT1:=Vh (Ta.sum (H':=[[cl bf 1 #[U3 (U7 212) #[] #[Qb w.heap.size]],cl bl 322 #[.slice (some ⟨w.heap.size+1+1,0,none⟩) 1 1],cl bi 3 #[U2 U4 0],cl (w.heap.size+1+1) 1 #[U3 (U7 212) #[] #[Qb w.heap.size]]]++[cl w.heap.size 33 #[Qb kb]],[cl (w.heap.size+1) 153 #[U1,U1]],[]]))
     clear Ta)
  | (go_at_call 196
     refine (Qa.use (nD _ _ _ _ _) HT1 [0,2] rfl rfl).mono ?_
     rintro e w2 ⟨gs,⟨m2,d2,g2,rfl,hs2,rfl⟩,Ta⟩;simp only [PU] at Ta;obtain ⟨e0,e1⟩:=Ta.c2 1 0 0 1;obtain ⟨f0,f1⟩:=Ta.f2 1 0 0 1;have hv2:=(Xk L kb pv).vals hs2;obtain ⟨st1,st2⟩:=aV.aD (P:=prog) hv2.1 hv2.2 e0 f0 e1 f1;clear hv2;have HS2:=Vh hs2;have HT2:=Vh Ta
     clear Ta hs2))
 all_goals
  go_wp2
  exact U8 (v:=.agg #[_,_]) (by simp [results,results181,go_sem,e0,e1]) rfl ⟨_,⟨m2,d2,g2,rfl,HS2,rfl⟩,((HT2.set 1 0 rfl 0 _).set 1 0 rfl 1 _).p [0]⟩
end
section
variable {L:Lay} {x:Qi} {gK gF:List ak} {kb:Nat} {pv:Value} {k:Qv}
theorem JO (x y:Int) (hx:0<=x) (hy:0<=y) (h:x+y<18446744073709551616):Qd prog 136 #[U2 U5 x,U2 U5 y] [] (U9 #[U2 U5 (x+y),U2 U4 0]):=by
 intro w hw
 have ha:∀ w,(callFunc 177 #[U2 U5 x,U2 U5 y,U2 U5 0]).run prog w=.ok (.value (U9 #[U2 U5 (x+y),U2 U5 0])) w:=fun w=>by
  rw [Ks x y hx hy w,show (x+y+0) % 18446744073709551616=x+y by omega,show (x+y+0) / 18446744073709551616=0 by omega]
 clear h hx hy hw;go_enter func136,ntmps136
 go_wp2_with (simp only [ha])
 go_ret2
 exact ⟨rfl,0,rfl⟩
theorem OG (x y:Int) (hx:0<=x) (hy:0<=y) (hx1:x<18446744073709551616) (hy1:y<18446744073709551616) (h:18446744073709551616<=x+y):Qd prog 136 #[U2 U5 x,U2 U5 y] [] (U9 #[U2 U5 0,U2 U4 9]):=by
 intro w hw;obtain ⟨z,hz⟩:∃ z,(x+y+0) % 18446744073709551616=z:=⟨_,rfl⟩
 have ha:∀ w,(callFunc 177 #[U2 U5 x,U2 U5 y,U2 U5 0]).run prog w=.ok (.value (U9 #[U2 U5 z,U2 U5 1])) w:=fun w=>by
  rw [Ks x y hx hy w,hz,show (x+y+0) / 18446744073709551616=1 by omega]
 clear h hx hy hw hx1 hy1 hz;go_enter func136,ntmps136
 go_wp2_with (simp only [ha])
 go_ret2
 exact ⟨rfl,0,rfl⟩
theorem IK {rv tv:Value}:Qa prog 140 #[Qb kb] [Qt kb L.fb pv rv tv k] fun e gs=>∃ m d g',e=U6 (.agg #[m,d])/\(kv L kb pv).SV (X2 k) m d g'/\gs=[Qt kb L.fb pv rv tv k,g']:=by
 by_cases h4:k.kind=4
 ·have HO:X2 k=.aj .aS:=if_pos (.inl h4)
  rw [HO];refine GO fun w HT=>?_
  have k3:=HT.c 0 0 3;simp only [Qq,az] at k3;rw [h4] at k3;have lt:=HT.l 0 0;simp only [] at lt;clear h4 HO;go_enter func140,ntmps140
  go_wp2_with fail
  refine Qa.run (Bp L kb pv) (HT.a _ _) [] ?_
  rintro e w1 gs ⟨m2,d2,g2,rfl,hs2,rfl⟩ HT;simp only [PU] at HT;obtain ⟨e0,e1⟩:=HT.c2 1 0 0 1;obtain ⟨ek,dZ⟩:=HT.f2 1 0 0 1;simp only [aN] at e0 e1;have hv2:=(Xk L kb pv).vals hs2;obtain ⟨st1,st2⟩:=aV.aD (P:=prog) hv2.1 hv2.2 e0 ek e1 dZ;have HS:=Vh hs2;clear hv2 hs2;go_wp2
  exact U8 (v:=.agg #[_,_]) (by simp [results,results140,go_sem,e0,e1]) rfl ⟨_,⟨m2,d2,g2,rfl,HS,rfl⟩,((HT.set 1 0 rfl 0 _).set 1 0 rfl 1 _).p [0,2]⟩
 ·by_cases h5:k.kind=5
  ·have HO:X2 k=.aj .aS:=if_pos (.inr h5)
   rw [HO];refine GO fun w HT=>?_
   have k3:=HT.c 0 0 3;simp only [Qq,az] at k3;rw [h5] at k3;have lt:=HT.l 0 0;simp only [] at lt;clear h4 h5 HO;go_enter func140,ntmps140
   go_wp2_with fail
   refine Qa.run (Bp L kb pv) (HT.a _ _) [] ?_
   rintro e w1 gs ⟨m2,d2,g2,rfl,hs2,rfl⟩ HT;simp only [PU] at HT;obtain ⟨e0,e1⟩:=HT.c2 1 0 0 1;obtain ⟨ek,dZ⟩:=HT.f2 1 0 0 1;simp only [aN] at e0 e1;have hv2:=(Xk L kb pv).vals hs2;obtain ⟨st1,st2⟩:=aV.aD (P:=prog) hv2.1 hv2.2 e0 ek e1 dZ;have HS:=Vh hs2;clear hv2 hs2;go_wp2
   exact U8 (v:=.agg #[_,_]) (by simp [results,results140,go_sem,e0,e1]) rfl ⟨_,⟨m2,d2,g2,rfl,HS,rfl⟩,((HT.set 1 0 rfl 0 _).set 1 0 rfl 1 _).p [0,2]⟩
  ·have HO:X2 k=Ji:=if_neg (by omega)
   have hb4:(k.kind == 4)=false:=beq_eq_false_iff_ne.2 h4;have hb5:(k.kind == 5)=false:=beq_eq_false_iff_ne.2 h5;rw [HO];refine GO fun w HT=>?_
   have k3:=HT.c 0 0 3;simp only [Qq,az] at k3;rw [(show k.kind=k.kind from rfl)] at k3;have lt:=HT.l 0 0;simp only [] at lt;clear h4 h5 HO;go_enter func140,ntmps140
   go_wp2_with fail
   refine Qa.run (DI L kb pv) (HT.a _ _) [] ?_
   rintro e w1 gs ⟨m2,d2,g2,rfl,hs2,rfl⟩ HT;simp only [PU] at HT;obtain ⟨e0,e1⟩:=HT.c2 1 0 0 1;obtain ⟨ek,dZ⟩:=HT.f2 1 0 0 1;simp only [aN] at e0 e1;have hv2:=(Xk L kb pv).vals hs2;obtain ⟨st1,st2⟩:=aV.aD (P:=prog) hv2.1 hv2.2 e0 ek e1 dZ;have HS:=Vh hs2;clear hv2 hs2;go_wp2
   exact U8 (v:=.agg #[_,_]) (by simp [results,results140,go_sem,e0,e1]) rfl ⟨_,⟨m2,d2,g2,rfl,HS,rfl⟩,((HT.set 1 0 rfl 0 _).set 1 0 rfl 1 _).p [0,2]⟩
end
def fG (L:Lay) (kb:Nat) (pv:Value) (r:SC × ZC):Ending->GH->Prop:=MR L kb pv r.1 r.2.1 r.2.2
section
variable {L:Lay} {x:Qi} {gK gF:List ak} {kb:Nat} {pv:Value} {k:Qv}
theorem q7g (hz:kg L kb pv k x gK gF) (hp:qQ .right (k,x)):Qa prog 81 #[Qb kb] [gK,gF] (fG L kb pv (J1 .right (k,x))):=by
 have dJ:=Vh hp.1.tr;obtain ⟨d0,d1⟩:=hp.2.1.c0;obtain ⟨q0,q1⟩:=hp.2.1.c1;simp only at d0 d1 q0 q1 dJ;by_cases h2:k.kind=2
 ·by_cases h0:k.iA=0
  ·have HZ:J1 .right (k,x)=(.aj .aS,Ql 1 (k,x)):=if_pos ⟨h2,.inl h0⟩
   have HA:=Vh (JO k.jJ k.iA d0 q0 (by omega));have H0:=Vh h0;clear d0 d1 q0 q1 h0;rw [HZ];unfold fG;dsimp only [Ql]
   clear HZ hp;obtain ⟨rv,tv,gq,gt,hr,ht,rfl,hx⟩:=hz;refine GO fun w HT=>?_
   have HT:=Vh (HT.out.m [Qt kb L.fb pv rv tv k,gq,gt,gF]);have HX:=Vh hx;have HR:=Vh hr;have dK:=Vh ht;clear hx hr ht;obtain ⟨k3,k5,k6⟩:=HT.c3 0 0 3 5 6;simp only [Qq,az] at k3 k5 k6;rw [h2] at k3;have lt:=HT.l 0 0;simp only [] at lt;clear h2;go_enter func81,ntmps81
   go_wp2
   have HT:=Vh (HT.out.a 153 #[U1,U1]);go_quiet ((first | (go_at_call 136;with_reducible exact Qd.quiet (HA.out) HT.out _ [] rfl rfl)))
   have HT:=Vh (HT.out.drewN nq);clear k3 k5 k6 lt;have k6:=HT.c 0 0 6;simp only [Qq,az] at k6;rw [H0.out] at k6;go_wp2_with fail
   refine Qa.run (Jt HX 1 dJ) (HT) [0,3] ?_
   rintro e w1 gs ⟨rfl,g1,hx1,rfl⟩ HT;simp only [PU] at HT;have HX:=Vh hx1;clear hx1;go_wp2_with fail
   refine Qa.run (Bp L kb pv) (HT) [] ?_
   rintro e w1 gs ⟨m2,d2,g2,rfl,hs2,rfl⟩ HT;simp only [PU] at HT;obtain ⟨e0,e1⟩:=HT.c2 4 0 0 1;obtain ⟨ek,dZ⟩:=HT.f2 4 0 0 1;simp only [aN] at e0 e1;have hv2:=(Xk L kb pv).vals hs2;obtain ⟨st1,st2⟩:=aV.aD (P:=prog) hv2.1 hv2.2 e0 ek e1 dZ;have HS:=Vh hs2;clear hv2 hs2;go_wp2
   exact U8 (v:=.agg #[_,_]) (by simp [results,results81,go_sem,e0,e1]) rfl ⟨_,⟨m2,d2,g2,_,_,rfl,HS,⟨_,_,gq,gt,HR,dK,rfl,HX⟩,rfl⟩,(((HT.set 4 0 rfl 0 _).set 4 0 rfl 1 _).p [0,1,2,3,5]).sum⟩
  ·by_cases h9:18446744073709551616<=k.jJ+k.iA
   ·have HZ:J1 .right (k,x)=(.aj .aS,Ql 1 (k,x)):=if_pos ⟨h2,.inr h9⟩
    have HA:=Vh (OG k.jJ k.iA d0 q0 d1 q1 h9);have hb:(k.iA == 0)=false:=beq_eq_false_iff_ne.2 h0;clear d0 d1 q0 q1 h0 h9;rw [HZ];unfold fG;dsimp only [Ql]
    clear HZ hp;obtain ⟨rv,tv,gq,gt,hr,ht,rfl,hx⟩:=hz;refine GO fun w HT=>?_
    have HT:=Vh (HT.out.m [Qt kb L.fb pv rv tv k,gq,gt,gF]);have HX:=Vh hx;have HR:=Vh hr;have dK:=Vh ht;clear hx hr ht;obtain ⟨k3,k5,k6⟩:=HT.c3 0 0 3 5 6;simp only [Qq,az] at k3 k5 k6;rw [h2] at k3;have lt:=HT.l 0 0;simp only [] at lt;clear h2;go_enter func81,ntmps81
    go_wp2
    have HT:=Vh (HT.out.a 153 #[U1,U1]);go_quiet ((first | (go_at_call 136;with_reducible exact Qd.quiet (HA.out) HT.out _ [] rfl rfl)))
    have HT:=Vh (HT.out.drewN nq);clear k3 k5 k6 lt;have k6:=HT.c 0 0 6;simp only [Qq,az] at k6;skip
    go_wp2_with fail
    refine Qa.run (Jt HX 1 dJ) (HT) [0,3] ?_
    rintro e w1 gs ⟨rfl,g1,hx1,rfl⟩ HT;simp only [PU] at HT;have HX:=Vh hx1;clear hx1;go_wp2_with fail
    refine Qa.run (Bp L kb pv) (HT) [] ?_
    rintro e w1 gs ⟨m2,d2,g2,rfl,hs2,rfl⟩ HT;simp only [PU] at HT;obtain ⟨e0,e1⟩:=HT.c2 4 0 0 1;obtain ⟨ek,dZ⟩:=HT.f2 4 0 0 1;simp only [aN] at e0 e1;have hv2:=(Xk L kb pv).vals hs2;obtain ⟨st1,st2⟩:=aV.aD (P:=prog) hv2.1 hv2.2 e0 ek e1 dZ;have HS:=Vh hs2;clear hv2 hs2;go_wp2
    exact U8 (v:=.agg #[_,_]) (by simp [results,results81,go_sem,e0,e1]) rfl ⟨_,⟨m2,d2,g2,_,_,rfl,HS,⟨_,_,gq,gt,HR,dK,rfl,HX⟩,rfl⟩,(((HT.set 4 0 rfl 0 _).set 4 0 rfl 1 _).p [0,1,2,3,5]).sum⟩
   ·have HZ:J1 .right (k,x)=(.at none .enter,(k,x)):=if_neg (show ¬ mP k by unfold mP;omega)
    have HA:=Vh (JO k.jJ k.iA d0 q0 (by omega));have hb:(k.iA == 0)=false:=beq_eq_false_iff_ne.2 h0;clear d0 d1 q0 q1 h0 h9;rw [HZ];unfold fG;dsimp only [Ql]
    clear HZ hp;obtain ⟨rv,tv,gq,gt,hr,ht,rfl,hx⟩:=hz;refine GO fun w HT=>?_
    have HT:=Vh (HT.out.m [Qt kb L.fb pv rv tv k,gq,gt,gF]);have HX:=Vh hx;have HR:=Vh hr;have dK:=Vh ht;clear hx hr ht;obtain ⟨k3,k5,k6⟩:=HT.c3 0 0 3 5 6;simp only [Qq,az] at k3 k5 k6;rw [h2] at k3;have lt:=HT.l 0 0;simp only [] at lt;clear h2;go_enter func81,ntmps81
    go_wp2
    have HT:=Vh (HT.out.a 153 #[U1,U1]);go_quiet ((first | (go_at_call 136;with_reducible exact Qd.quiet (HA.out) HT.out _ [] rfl rfl)))
    have HT:=Vh (HT.out.drewN nq);clear k3 k5 k6 lt;have k6:=HT.c 0 0 6;simp only [Qq,az] at k6;go_wp2_with fail
    refine Qa.run Zb HT [] ?_
    rintro e w1 gs ⟨rfl,rfl⟩ HT;simp only [PU] at HT;obtain ⟨e0,e1⟩:=HT.c2 4 0 0 1;obtain ⟨ek,dZ⟩:=HT.f2 4 0 0 1;simp only [aN] at e0 e1;go_wp2
    exact U8 (v:=.agg #[U1,U3 (U7 82) #[Qb kb] #[]]) (by simp [results,results81,go_sem,e0,e1]) rfl ⟨_,⟨_,_,[],_,_,rfl,⟨rfl,rfl,rfl⟩,⟨_,_,gq,gt,HR,dK,rfl,HX⟩,rfl⟩,(((HT.set 4 0 rfl 0 _).set 4 0 rfl 1 _).p [0,1,2,3]).sum⟩
 ·have HZ:J1 .right (k,x)=(.at none .enter,(k,x)):=if_neg (fun h=>h2 h.1)
  have hb:(k.kind == 2)=false:=beq_eq_false_iff_ne.2 h2;clear d0 d1 q0 q1;rw [HZ];unfold fG;dsimp only [Ql]
  clear HZ hp h2;obtain ⟨rv,tv,gq,gt,hr,ht,rfl,hx⟩:=hz;refine GO fun w HT=>?_
  have HT:=Vh (HT.out.m [Qt kb L.fb pv rv tv k,gq,gt,gF]);have HX:=Vh hx;have HR:=Vh hr;have dK:=Vh ht;clear hx hr ht;have k3:=HT.c 0 0 3;simp only [Qq,az] at k3;have lt:=HT.l 0 0;simp only [] at lt;go_enter func81,ntmps81
  go_wp2_with fail
  have HT:=Vh (HT.out.a 153 #[U1,U1]);clear k3 lt;go_wp2_with fail
  refine Qa.run Zb HT [] ?_
  rintro e w1 gs ⟨rfl,rfl⟩ HT;simp only [PU] at HT;obtain ⟨e0,e1⟩:=HT.c2 4 0 0 1;obtain ⟨ek,dZ⟩:=HT.f2 4 0 0 1;simp only [aN] at e0 e1;go_wp2
  exact U8 (v:=.agg #[U1,U3 (U7 82) #[Qb kb] #[]]) (by simp [results,results81,go_sem,e0,e1]) rfl ⟨_,⟨_,_,[],_,_,rfl,⟨rfl,rfl,rfl⟩,⟨_,_,gq,gt,HR,dK,rfl,HX⟩,rfl⟩,(((HT.set 4 0 rfl 0 _).set 4 0 rfl 1 _).p [0,1,2,3]).sum⟩
theorem q9i (hz:kg L kb pv k x gK gF) (hp:qQ .gate (k,x)):Qa prog 83 #[Qb kb] [gK,gF] (fG L kb pv (J1 .gate (k,x))):=by
 have dJ:=Vh hp.1.tr;simp only at dJ;cases hc:x.f.closed with
 | true =>
   have HZ:J1 .gate (k,x)=(X2 k,Ql 3 (k,x)):=if_pos hc;rw [HZ];unfold fG;dsimp only [Ql]
   clear HZ hp;obtain ⟨rv,tv,gq,gt,hr,ht,rfl,hx⟩:=hz;refine GO fun w HT=>?_
   have HT:=Vh (HT.out.m [Qt kb L.fb pv rv tv k,gq,gt,gF]);have HX:=Vh hx;have HR:=Vh hr;have dK:=Vh ht;clear hx hr ht;have k0:=HT.c 0 0 0;simp only [Qq,az] at k0;have lt:=HT.l 0 0;simp only [] at lt;have iB:=Vh (qu HX);rw [hc] at iB;clear hc;go_enter func83,ntmps83
   go_wp2_with fail
   refine Qa.run iB (HT.a _ _) [3] ?_
   rintro e w1 gs ⟨rfl,g1,hx1,rfl⟩ HT;simp only [PU] at HT;have HX:=Vh hx1;clear hx1 k0 lt;obtain ⟨k0,k3⟩:=HT.c2 0 0 0 3;simp only [Qq,az] at k0 k3;clear k0 k3;go_wp2_with fail
   refine Qa.run (Jt HX 3 dJ) (HT) [0,3] ?_
   rintro e w1 gs ⟨rfl,g1,hx1,rfl⟩ HT;simp only [PU] at HT;have HX:=Vh hx1;clear hx1;go_wp2_with fail
   refine Qa.run IK HT [0] ?_
   rintro e w1 gs ⟨m2,d2,g2,rfl,hs2,rfl⟩ HT;simp only [PU] at HT;obtain ⟨e0,e1⟩:=HT.c2 4 0 0 1;obtain ⟨ek,dZ⟩:=HT.f2 4 0 0 1;simp only [aN] at e0 e1;have hv2:=(Xk L kb pv).vals hs2;obtain ⟨st1,st2⟩:=aV.aD (P:=prog) hv2.1 hv2.2 e0 ek e1 dZ;have HS:=Vh hs2;clear hv2 hs2;go_wp2
   exact U8 (v:=.agg #[_,_]) (by simp [results,results83,go_sem,e0,e1]) rfl ⟨_,⟨m2,d2,g2,_,_,rfl,HS,⟨_,_,gq,gt,HR,dK,rfl,HX⟩,rfl⟩,(((HT.set 4 0 rfl 0 _).set 4 0 rfl 1 _).p [0,1,2,3,5]).sum⟩
 | false =>
   by_cases h2:k.kind=2
   ·have HZ:J1 .gate (k,x)=(.at none .asks,({ k with rq:=some ⟨k.period,0,0,0,0,0⟩ },x)):=(if_neg (by simp [hc])).trans (if_pos (.inr h2))
    rw [HZ];unfold fG;dsimp only [Ql]
    clear HZ hp;obtain ⟨rv,tv,gq,gt,hr,ht,rfl,hx⟩:=hz;refine GO fun w HT=>?_
    have HT:=Vh (HT.out.m [Qt kb L.fb pv rv tv k,gq,gt,gF]);have HX:=Vh hx;have HR:=Vh hr;have dK:=Vh ht;clear hx hr ht;have k0:=HT.c 0 0 0;simp only [Qq,az] at k0;have lt:=HT.l 0 0;simp only [] at lt;have iB:=Vh (qu HX);rw [hc] at iB;clear hc;go_enter func83,ntmps83
    go_wp2_with fail
    refine Qa.run iB (HT.a _ _) [3] ?_
    rintro e w1 gs ⟨rfl,g1,hx1,rfl⟩ HT;simp only [PU] at HT;have HX:=Vh hx1;clear hx1 k0 lt;obtain ⟨k0,k3⟩:=HT.c2 0 0 0 3;simp only [Qq,az] at k0 k3;rw [h2] at k3;go_wp2_with fail
    refine Qd.run (Qn HX) HT [3] ?_
    rintro e wq rfl HT;go_wp2_with fail
    refine Qd.run (JJ (L:=L)) HT [0] ?_
    rintro e wq rfl HT;go_wp2_with fail
    refine Qa.run (OQ _ _) (HT) [] ?_
    rintro e w1 gs ⟨qb,rfl,rfl⟩ HT;simp only [PU] at HT;have k13:=HT.c 0 0 13;have nJ:=HT.f 0 0 13;simp only [Qq,az] at k13;go_wp2_with fail
    have HT:=Vh ((HT.set 0 0 rfl 13 (Qb qb)).eq (H':=[Qt kb L.fb pv (Qb qb) tv { k with rq:=some ⟨k.period,0,0,0,0,0⟩ },gq,gt,g1,[cl w.heap.size 153 #[U1,U1]],j4 qb L.p.sb ⟨k.period,0,0,0,0,0⟩]) rfl);clear k0 k3 k13 nJ h2;go_wp2_with fail
    refine Qa.run Zb HT [] ?_
    rintro e w1 gs ⟨rfl,rfl⟩ HT;simp only [PU] at HT;obtain ⟨e0,e1⟩:=HT.c2 4 0 0 1;obtain ⟨ek,dZ⟩:=HT.f2 4 0 0 1;simp only [aN] at e0 e1;go_wp2
    exact U8 (v:=.agg #[U1,U3 (U7 143) #[Qb kb] #[]]) (by simp [results,results83,go_sem,e0,e1]) rfl ⟨_,⟨_,_,[],_,_,rfl,⟨rfl,rfl,rfl⟩,⟨_,_,(j4 qb L.p.sb ⟨k.period,0,0,0,0,0⟩),gt,⟨qb,rfl,rfl⟩,dK,rfl,HX⟩,rfl⟩,(((HT.set 4 0 rfl 0 _).set 4 0 rfl 1 _).p [0,5,2,3]).sum⟩
   ·by_cases h1:k.kind=1
    ·have HZ:J1 .gate (k,x)=(.at none .asks,({ k with rq:=some ⟨k.period,0,0,0,0,0⟩ },x)):=(if_neg (by simp [hc])).trans (if_pos (.inl h1))
     rw [HZ];unfold fG;dsimp only [Ql]
     clear HZ hp;obtain ⟨rv,tv,gq,gt,hr,ht,rfl,hx⟩:=hz;refine GO fun w HT=>?_
     have HT:=Vh (HT.out.m [Qt kb L.fb pv rv tv k,gq,gt,gF]);have HX:=Vh hx;have HR:=Vh hr;have dK:=Vh ht;clear hx hr ht;have k0:=HT.c 0 0 0;simp only [Qq,az] at k0;have lt:=HT.l 0 0;simp only [] at lt;have iB:=Vh (qu HX);rw [hc] at iB;clear hc;go_enter func83,ntmps83
     go_wp2_with fail
     refine Qa.run iB (HT.a _ _) [3] ?_
     rintro e w1 gs ⟨rfl,g1,hx1,rfl⟩ HT;simp only [PU] at HT;have HX:=Vh hx1;clear hx1 k0 lt;obtain ⟨k0,k3⟩:=HT.c2 0 0 0 3;simp only [Qq,az] at k0 k3;have h2:=h1;clear h1;rw [h2] at k3;go_wp2_with fail
     refine Qd.run (Qn HX) HT [3] ?_
     rintro e wq rfl HT;go_wp2_with fail
     refine Qd.run (JJ (L:=L)) HT [0] ?_
     rintro e wq rfl HT;go_wp2_with fail
     refine Qa.run (OQ _ _) (HT) [] ?_
     rintro e w1 gs ⟨qb,rfl,rfl⟩ HT;simp only [PU] at HT;have k13:=HT.c 0 0 13;have nJ:=HT.f 0 0 13;simp only [Qq,az] at k13;go_wp2_with fail
     have HT:=Vh ((HT.set 0 0 rfl 13 (Qb qb)).eq (H':=[Qt kb L.fb pv (Qb qb) tv { k with rq:=some ⟨k.period,0,0,0,0,0⟩ },gq,gt,g1,[cl w.heap.size 153 #[U1,U1]],j4 qb L.p.sb ⟨k.period,0,0,0,0,0⟩]) rfl);clear k0 k3 k13 nJ h2;go_wp2_with fail
     refine Qa.run Zb HT [] ?_
     rintro e w1 gs ⟨rfl,rfl⟩ HT;simp only [PU] at HT;obtain ⟨e0,e1⟩:=HT.c2 4 0 0 1;obtain ⟨ek,dZ⟩:=HT.f2 4 0 0 1;simp only [aN] at e0 e1;go_wp2
     exact U8 (v:=.agg #[U1,U3 (U7 143) #[Qb kb] #[]]) (by simp [results,results83,go_sem,e0,e1]) rfl ⟨_,⟨_,_,[],_,_,rfl,⟨rfl,rfl,rfl⟩,⟨_,_,(j4 qb L.p.sb ⟨k.period,0,0,0,0,0⟩),gt,⟨qb,rfl,rfl⟩,dK,rfl,HX⟩,rfl⟩,(((HT.set 4 0 rfl 0 _).set 4 0 rfl 1 _).p [0,5,2,3]).sum⟩
    ·have HZ:J1 .gate (k,x)=(.at none .looks,(k,x)):=(if_neg (by simp [hc])).trans (if_neg (by simp;omega))
     have hb1:(k.kind == 1)=false:=beq_eq_false_iff_ne.2 h1;have hb2:(k.kind == 2)=false:=beq_eq_false_iff_ne.2 h2;clear h1 h2;rw [HZ];unfold fG;dsimp only [Ql]
     clear HZ hp;obtain ⟨rv,tv,gq,gt,hr,ht,rfl,hx⟩:=hz;refine GO fun w HT=>?_
     have HT:=Vh (HT.out.m [Qt kb L.fb pv rv tv k,gq,gt,gF]);have HX:=Vh hx;have HR:=Vh hr;have dK:=Vh ht;clear hx hr ht;have k0:=HT.c 0 0 0;simp only [Qq,az] at k0;have lt:=HT.l 0 0;simp only [] at lt;have iB:=Vh (qu HX);rw [hc] at iB;clear hc;go_enter func83,ntmps83
     go_wp2_with fail
     refine Qa.run iB (HT.a _ _) [3] ?_
     rintro e w1 gs ⟨rfl,g1,hx1,rfl⟩ HT;simp only [PU] at HT;have HX:=Vh hx1;clear hx1 k0 lt;obtain ⟨k0,k3⟩:=HT.c2 0 0 0 3;simp only [Qq,az] at k0 k3;go_wp2_with fail
     refine Qa.run Zb HT [] ?_
     rintro e w1 gs ⟨rfl,rfl⟩ HT;simp only [PU] at HT;obtain ⟨e0,e1⟩:=HT.c2 4 0 0 1;obtain ⟨ek,dZ⟩:=HT.f2 4 0 0 1;simp only [aN] at e0 e1;go_wp2
     exact U8 (v:=.agg #[U1,U3 (U7 144) #[Qb kb] #[]]) (by simp [results,results83,go_sem,e0,e1]) rfl ⟨_,⟨_,_,[],_,_,rfl,⟨rfl,rfl,rfl⟩,⟨_,_,gq,gt,HR,dK,rfl,HX⟩,rfl⟩,(((HT.set 4 0 rfl 0 _).set 4 0 rfl 1 _).p [0,1,2,3]).sum⟩
end
theorem RU {s:Qj} {q:iC} (hs:Xh s) (hq:wE s.recs.length q) (h0:q.st=0) (h2:(Za s q).2.st=2):0<=(Za s q).2.id/\(Za s q).2.id<18446744073709551616:=by
 unfold Za at h2 |-;rw [if_neg (by omega)] at h2 |-;split at h2
 ·unfold qO at h2
  split at h2 <;> simp [h0] at h2
 ·split at h2
  ·unfold pY at h2
   split at h2 <;> simp [h0] at h2
  ·next h3 h4 =>
   rw [if_neg h3,if_neg h4];unfold qc6 at h2 |-;simp only at h2 |-;split at h2
   ·next h5 =>
    rw [if_pos h5];have hsl:q.slot.toNat<s.recs.length:=by have:=hq.ig;have:=hq.iG;omega
    have hr:=hs.recs _ (List.getElem_mem hsl);have e:s.recs.getD q.slot.toNat Rec.zero=s.recs[q.slot.toNat]:=by simp [hsl]
    rw [e];have hg:=(sS _ hr.w0 hr.ok).2.2.2;have g0:=hr.g0;have g1:=hr.g1;have a:=hq.ig;have b:=hq.iG;have c:=hs.n1;generalize s.recs[q.slot.toNat]=r at *;simp only;omega
   ·simp [h0] at h2
theorem qxn (b rb lb wb:Nat):Qa prog 185 #[Qb b] [Xq b rb lb wb] fun e gs=>∃ tb,e=U6 (Qb tb)/\gs=[Xq b rb lb wb,Xo tb rb Xp]:=by
 refine GO fun w HT=>?_
 go_enter func185,ntmps185
 go_wp2_with fail
 refine Qa.run (Jl b rb lb wb) (HT) [0] ?_
 rintro e w1 gs ⟨rfl,rfl⟩ HT;simp only [PU] at HT;have hf:=fun w=>(J9 (Qb rb) (Qb lb) (Qb wb) w).1
 go_wp2_with fail
 refine Qa.run (qpi rb) (HT) [] ?_
 rintro e w1 gs ⟨tb,rfl,rfl⟩ HT;simp only [PU] at HT;go_wp2
 go_ret
 exact ⟨_,⟨_,rfl,rfl⟩,HT⟩
theorem PW {L:Lay} {x:Qi} {g:List ak} (hx:Qf L x g) {i:Nat} {q:ik} {s:Qu} (hq:L.qs[i]?=some q) (hs:x.au[i]?=some s):Qa prog 185 #[Qb q.b] [g] fun e gs=>∃ tb,e=U6 (Qb tb)/\∃ g',Qf L x g'/\gs=[g',Xo tb q.rb Xp]:=by
 obtain ⟨tr,gF,gS,gR,gH,gT,h1,h2,h3,h4,h5,h6,rfl⟩:=hx;have hz:(L.qs.zip x.au)[i]?=some (q,s):=sN hq hs;obtain ⟨u,y,⟨gr,gl,hr,hl,rfl⟩,hp,hback⟩:=h5.out hz;intro w hw;have T:=(((TG.refl hw).sum (H':=[gF++(gS++(gR++gT)),gH])).bz 1 rfl hp).sum (H':=[gF++(gS++(gR++gT)),Xq q.b q.rb q.lb q.wb,gr,gl,y]);refine (Qa.use (qxn q.b q.rb q.lb q.wb) T [1] rfl rfl).mono ?_
 rintro e w' ⟨gs,⟨tb,he,rfl⟩,T'⟩;obtain ⟨mX,hf,hp'⟩:=hback (q,s) (Xq q.b q.rb q.lb q.wb++(gr++gl)) ⟨gr,gl,hr,hl,rfl⟩;rw [Yh hz] at hf;refine ⟨_,⟨tb,he,_,⟨tr,gF,gS,gR,mX,gT,h1,h2,h3,h4,hf,h6,rfl⟩,rfl⟩,?_⟩
 exact ((TG.sum (H:=[gF++(gS++(gR++gT)),Xq q.b q.rb q.lb q.wb,gr,gl,y,Xo tb q.rb Xp]) (H':=[gF++(gS++(gR++gT)),Xq q.b q.rb q.lb q.wb++(gr++gl)++y,Xo tb q.rb Xp]) T').bz 1 rfl hp').sum
theorem RE {L:Lay} {x:Qi} {g:List ak} (hx:Qf L x g) (hn:1<=x.au.length) {slot:Int} (h0:0<=slot):∃ q s,L.qs[qi slot x]?=some q/\x.au[qi slot x]?=some s/\Bj (L.qs.map ik.b) slot=Qb q.b:=by
 obtain ⟨tr,gF,gS,gR,gH,gT,h1,h2,h3,h4,h5,h6,rfl⟩:=hx;have a:0<=slot % (x.au.length:Int):=Int.emod_nonneg _ (by omega);have b:slot % (x.au.length:Int)<x.au.length:=Int.emod_lt_of_pos _ (by omega);have hi:qi slot x<x.au.length:=by unfold qi;omega
 have hi':qi slot x<L.qs.length:=by omega
 refine ⟨L.qs[qi slot x],x.au[qi slot x],UB hi',UB hi,?_⟩
 unfold Bj;rw [if_pos h0,List.length_map,h4]
 show Qb ((L.qs.map ik.b).getD (qi slot x) 0)=_
 rw [List.getD_eq_getElem?_getD,List.getElem?_map,UB hi'];rfl
theorem Qf.len {L:Lay} {x:Qi} {g:List ak} (hx:Qf L x g):L.qs.length=x.au.length:=by
 obtain ⟨tr,gF,gS,gR,gH,gT,h1,h2,h3,h4,_⟩:=hx;exact h4
section
variable {L:Lay} {x:Qi} {gK gF:List ak} {kb:Nat} {pv:Value} {k:Qv}
theorem q9h (hz:kg L kb pv k x gK gF) (hp:qQ .asks (k,x)):Qa prog 143 #[Qb kb] [gK,gF] (fG L kb pv (J1 .asks (k,x))):=by
 obtain ⟨hok,hwk,hpr,hq0⟩:=hp;simp only at hok hwk hpr hq0;obtain ⟨q,rU⟩:=Option.isSome_iff_exists.1 hpr;have hrq:=hwk.rq q rU;have hq0:=hq0 q rU;have pI:=RU hok.aa hrq hq0;have dJ:=Vh hok.tr;have hsh:=hok.sh;have hE:J1 .asks (k,x)=q7 (k,x) q:=by show (match k.rq with | none=>_ | some q=>_)=_;rw [rU]
 rw [hE];unfold kg at hz;rw [rU] at hz;clear hE hwk hpr hq0 rU;obtain ⟨s2,q2,hr2⟩:∃ s2 q2,Za x.aa q=(s2,q2):=⟨_,_,rfl⟩;rw [hr2] at pI;simp only at pI;by_cases h1:q2.st=1
 ·have hst:(Za x.aa q).2.st=1:=by rw [hr2];exact h1
  have HZ:q7 (k,x) q=(Ji,Ql 2 ({ k with rq:=some q2 },{ x with aa:=s2 })):=by unfold q7;simp only [hr2];rw [if_pos h1]
  clear h1 pI hsh;rw [HZ];unfold fG;dsimp only [Ql]
  clear HZ;obtain ⟨rv,tv,gq,gt,⟨qb,rfl,rfl⟩,ht,rfl,hx⟩:=hz;refine GO fun w HT=>?_
  have HT:=Vh (HT.out.m [Qt kb L.fb pv (Qb qb) tv k,j4 qb L.p.sb q,gt,gF]);have HX:=Vh hx;have dK:=Vh ht;have wU:=Vh (Lu hx qb q hok.aa hrq);rw [hst,hr2] at wU;clear hx ht;have k13:=HT.c 0 0 13;simp only [Qq,az] at k13;have lt:=HT.l 0 0;simp only [] at lt;clear hst hok hrq hr2;go_enter func143,ntmps143
  go_wp2_with fail
  refine Qa.run wU (HT.a _ _) [1,3] ?_
  rintro e w1 gs ⟨rfl,g1,hx1,rfl⟩ HT;simp only [PU] at HT;have HX:=Vh hx1;clear hx1 k13 lt;have HT:=Vh (HT.out.eq (H':=[Qt kb L.fb pv (Qb qb) tv { k with rq:=some q2 },j4 qb L.p.sb q2,gt,g1,[cl w.heap.size 153 #[U1,U1]]]) rfl);go_wp2_with fail
  refine Qa.run (Jt HX 2 dJ) (HT) [0,3] ?_
  rintro e w1 gs ⟨rfl,g1,hx1,rfl⟩ HT;simp only [PU] at HT;have HX:=Vh hx1;clear hx1;go_wp2_with fail
  refine Qa.run (DI L kb pv) (HT) [] ?_
  rintro e w1 gs ⟨m2,d2,g2,rfl,hs2,rfl⟩ HT;simp only [PU] at HT;obtain ⟨e0,e1⟩:=HT.c2 4 0 0 1;obtain ⟨ek,dZ⟩:=HT.f2 4 0 0 1;simp only [aN] at e0 e1;have hv2:=(Xk L kb pv).vals hs2;obtain ⟨st1,st2⟩:=aV.aD (P:=prog) hv2.1 hv2.2 e0 ek e1 dZ;have HS:=Vh hs2;clear hv2 hs2;go_wp2
  exact U8 (v:=.agg #[_,_]) (by simp [results,results143,go_sem,e0,e1]) rfl ⟨_,⟨m2,d2,g2,_,_,rfl,HS,⟨_,_,(j4 qb L.p.sb q2),gt,⟨qb,rfl,rfl⟩,dK,rfl,HX⟩,rfl⟩,(((HT.set 4 0 rfl 0 _).set 4 0 rfl 1 _).p [0,1,2,3,5]).sum⟩
 ·by_cases h2:q2.st=2
  ·obtain ⟨id0,id1⟩:=pI h2
   have hst:(Za x.aa q).2.st=2:=by rw [hr2];exact h2
   have HZ:q7 (k,x) q=(.at none .aX,({ k with rq:=some q2,id:=q2.id,slot:=q2.id % 64,tk:=some (qi (q2.id % 64) x,Xp) },{ x with aa:=s2 })):=by unfold q7;simp only [hr2];rw [if_neg h1,if_pos h2]
   have E8:=Vh (S9 (qb:=0) L.p.sb q2);have BF:=Vh h2;have kr:=Vh hsh;clear h1 pI hsh h2 E8;rw [HZ];unfold fG;dsimp only [Ql]
   clear HZ;obtain ⟨rv,tv,gq,gt,⟨qb,rfl,rfl⟩,ht,rfl,hx⟩:=hz;refine GO fun w HT=>?_
   have HT:=Vh (HT.out.m [Qt kb L.fb pv (Qb qb) tv k,j4 qb L.p.sb q,gt,gF]);have HX:=Vh hx;have dK:=Vh ht;have wU:=Vh (Lu hx qb q hok.aa hrq);rw [hst,hr2] at wU;clear hx ht;have k13:=HT.c 0 0 13;simp only [Qq,az] at k13;have lt:=HT.l 0 0;simp only [] at lt;clear hst hok hrq hr2;go_enter func143,ntmps143
   go_wp2_with fail
   refine Qa.run wU (HT.a _ _) [1,3] ?_
   rintro e w1 gs ⟨rfl,g1,hx1,rfl⟩ HT;simp only [PU] at HT;have HX:=Vh hx1;clear hx1 k13 lt;have HT:=Vh (HT.out.eq (H':=[Qt kb L.fb pv (Qb qb) tv { k with rq:=some q2 },j4 qb L.p.sb q2,gt,g1,[cl w.heap.size 153 #[U1,U1]]]) rfl);have k13:=HT.c 0 0 13;simp only [Qq,az] at k13;have E8:=Vh (S9 qb L.p.sb q2);rw [if_pos BF.out,if_pos BF.out] at E8;go_wp2_with fail
   refine Qa.run E8 HT [1] ?_
   rintro e w1 gs ⟨rfl,rfl⟩ HT;simp only [PU] at HT;clear k13;obtain ⟨k15,k16⟩:=HT.c2 0 0 15 16;obtain ⟨yf,lz⟩:=HT.f2 0 0 15 16;simp only [Qq,az] at k15 k16;have i0:0<=q2.id % 64:=by omega
   have i1:q2.id % 64<64:=by omega
   go_wp2
   have HT:=Vh (((HT.set 0 0 rfl 15 (U2 U5 q2.id)).set 0 0 rfl 16 (U2 U4 (q2.id % 64))).eq (H':=[Qt kb L.fb pv (Qb qb) tv { k with rq:=some q2,id:=q2.id,slot:=q2.id % 64 },j4 qb L.p.sb q2,gt,g1,[cl w.heap.size 153 #[U1,U1]]]) rfl);clear k15 k16 yf lz;generalize World.setCell _ _ _=w2 at HT |-;obtain ⟨qs,ss,iE,hss,hv⟩:=RE HX kr i0;have HH:=Vh (Pq HX (by rw [HX.out.len];exact kr) (q2.id % 64));rw [hv] at HH;have mo:=Vh iE;have Gs:=Vh (PW HX iE hss);clear iE hss hv;obtain ⟨k0,k16⟩:=HT.c2 0 0 0 16;simp only [Qq,az] at k0 k16;refine Mx 10 ?_
   simp only [bY]
   repeat (go_big_quiet_step ((first | (go_at_call 184;with_reducible exact Qd.quiet (HH.out) HT.out _ [3] rfl rfl))))
   refine UA (QT HT fun nq HT=>?_)
   go_wp2_with fail
   refine Qa.run Gs HT [3] ?_
   rintro e w1 gs ⟨tb,rfl,g2,hx2,rfl⟩ HT;simp only [PU] at HT;have HX:=Vh hx2;clear hx2 k0 k16;have k14:=HT.c 0 0 14;have nK:=HT.f 0 0 14;simp only [Qq,az] at k14;go_wp2_with fail
   refine ⟨rfl,?_⟩
   have HT:=Vh ((HT.set 0 0 rfl 14 (Qb tb)).eq (H':=[Qt kb L.fb pv (Qb qb) (Qb tb) { k with rq:=some q2,id:=q2.id,slot:=q2.id % 64,tk:=some (qi (q2.id % 64) x,Xp) },j4 qb L.p.sb q2,gt,g2,[cl w.heap.size 153 #[U1,U1]],Xo tb qs.rb Xp]) rfl);clear k14 nK;go_wp2_with fail
   refine Qa.run Zb HT [] ?_
   rintro e w1 gs ⟨rfl,rfl⟩ HT;simp only [PU] at HT;obtain ⟨e0,e1⟩:=HT.c2 4 0 0 1;obtain ⟨ek,dZ⟩:=HT.f2 4 0 0 1;simp only [aN] at e0 e1;go_wp2
   exact U8 (v:=.agg #[U1,U3 (U7 186) #[Qb kb] #[]]) (by simp [results,results143,go_sem,e0,e1]) rfl ⟨_,⟨_,_,[],_,_,rfl,⟨rfl,rfl,rfl⟩,⟨_,_,(j4 qb L.p.sb q2),(Xo tb qs.rb Xp),⟨qb,rfl,rfl⟩,⟨tb,qs,mo,rfl,rfl⟩,rfl,HX⟩,rfl⟩,(((HT.set 4 0 rfl 0 _).set 4 0 rfl 1 _).p [0,1,5,3]).sum⟩
  ·have hst:(Za x.aa q).2.st=q2.st:=by rw [hr2]
   have HZ:q7 (k,x) q=(.at none .asks,({ k with rq:=some q2 },{ x with aa:=s2 })):=by unfold q7;simp only [hr2];rw [if_neg h1,if_neg h2]
   have hb1:(q2.st == 1)=false:=beq_eq_false_iff_ne.2 h1;have hb2:(q2.st == 2)=false:=beq_eq_false_iff_ne.2 h2;clear h1 h2 pI hsh;rw [HZ];unfold fG;dsimp only [Ql]
   clear HZ;obtain ⟨rv,tv,gq,gt,⟨qb,rfl,rfl⟩,ht,rfl,hx⟩:=hz;refine GO fun w HT=>?_
   have HT:=Vh (HT.out.m [Qt kb L.fb pv (Qb qb) tv k,j4 qb L.p.sb q,gt,gF]);have HX:=Vh hx;have dK:=Vh ht;have wU:=Vh (Lu hx qb q hok.aa hrq);rw [hst,hr2] at wU;clear hx ht;have k13:=HT.c 0 0 13;simp only [Qq,az] at k13;have lt:=HT.l 0 0;simp only [] at lt;clear hst hok hrq hr2;go_enter func143,ntmps143
   go_wp2_with fail
   refine Qa.run wU (HT.a _ _) [1,3] ?_
   rintro e w1 gs ⟨rfl,g1,hx1,rfl⟩ HT;simp only [PU] at HT;have HX:=Vh hx1;clear hx1 k13 lt;have HT:=Vh (HT.out.eq (H':=[Qt kb L.fb pv (Qb qb) tv { k with rq:=some q2 },j4 qb L.p.sb q2,gt,g1,[cl w.heap.size 153 #[U1,U1]]]) rfl);go_wp2_with fail
   refine Qa.run Zb HT [] ?_
   rintro e w1 gs ⟨rfl,rfl⟩ HT;simp only [PU] at HT;obtain ⟨e0,e1⟩:=HT.c2 4 0 0 1;obtain ⟨ek,dZ⟩:=HT.f2 4 0 0 1;simp only [aN] at e0 e1;go_wp2
   exact U8 (v:=.agg #[U1,U3 (U7 143) #[Qb kb] #[]]) (by simp [results,results143,go_sem,e0,e1]) rfl ⟨_,⟨_,_,[],_,_,rfl,⟨rfl,rfl,rfl⟩,⟨_,_,(j4 qb L.p.sb q2),gt,⟨qb,rfl,rfl⟩,dK,rfl,HX⟩,rfl⟩,(((HT.set 4 0 rfl 0 _).set 4 0 rfl 1 _).p [0,1,2,3]).sum⟩
end
theorem Fw (k:Qv) (s:Qj) (h:0<=k.slot) (hi:0<=k.id):(lookW k s).1.kind=k.kind/\(lookW k s).1.rq=k.rq/\(lookW k s).1.tk=k.tk/\0<=(lookW k s).1.slot:=by
 have hs:0<=s.slot k.id:=by unfold Qj.slot;split <;> omega
 unfold lookW;split
 ·exact ⟨rfl,rfl,rfl,h⟩
 ·split
  ·exact ⟨rfl,rfl,rfl,hs⟩
  ·exact ⟨rfl,rfl,rfl,hs⟩
theorem QR {k k2:Qv} (h:k2.kind=k.kind):X2 k=X2 k2:=by unfold X2;rw [h]
section
variable {L:Lay} {x:Qi} {gK gF:List ak} {kb:Nat} {pv:Value} {k:Qv}
theorem q7f (hz:kg L kb pv k x gK gF) (hp:qQ .looks (k,x)):Qa prog 144 #[Qb kb] [gK,gF] (fG L kb pv (J1 .looks (k,x))):=by
 obtain ⟨hok,hwk,_⟩:=hp;simp only at hok hwk;have dJ:=Vh hok.tr;have kr:=Vh hok.sh;have fT:=Vh (show ∀ g rv tv,Qf L x g->_ from fun g rv tv hx=>Sl (kb:=kb) (pv:=pv) (rv:=rv) (tv:=tv) (k:=k) (g:=g) hx hok hwk.id.1 hwk.id.2);have hkeep:=Fw k x.aa hwk.slot hwk.id.1
 have hE:∀ k2 er,lookW k x.aa=(k2,er)->J1 .looks (k,x)=if er=0 then (if k.kind=3 then (.at none .aX,({ k2 with tk:=some (qi k2.slot x,Xp) },x)) else (.at none .tries,(k2,x))) else if er=1 then (X2 k,Ql 1 (k2,x)) else (X2 k,Ql 0 (k2,x)):=by
  intro k2 er h
  show (if (lookW k x.aa).2=0 then _ else _)=_
  simp only [Q4,h]
 obtain ⟨k2,er,hl⟩:∃ k2 er,lookW k x.aa=(k2,er):=⟨_,_,rfl⟩;rw [hE k2 er hl];rw [hl] at fT hkeep;simp only at hkeep;clear hE hl hok hwk;by_cases h0:er=0
 ·subst h0
  by_cases h3:k.kind=3
  ·have HZ:(if (0:Int)=0 then (if k.kind=3 then (.at none .aX,({ k2 with tk:=some (qi k2.slot x,Xp) },x)) else (.at none .tries,(k2,x))) else if (0:Int)=1 then (X2 k,Ql 1 (k2,x)) else (X2 k,Ql 0 (k2,x)):SC × ZC)=(.at none .aX,({ k2 with tk:=some (qi k2.slot x,Xp) },x)):=(if_pos rfl).trans (if_pos h3)
   rw [HZ];unfold fG;dsimp only [Ql]
   clear HZ;obtain ⟨hkk,hkr,hkt,hks⟩:=hkeep;obtain ⟨rv,tv,gq,gt,hr,ht,rfl,hx⟩:=hz;refine GO fun w HT=>?_
   have HT:=Vh (HT.out.m [Qt kb L.fb pv rv tv k,gq,gt,gF]);have HX:=Vh hx;have HR:=Vh (show xu L.p.sb k2.rq rv gq from hkr ▸ hr);have dK:=Vh (show xw L k2.tk tv gt from hkt ▸ ht);have HKK:=Vh hkk;clear hx hr ht hkr hkt hkk;have HT:=Vh (HT.out.a 153 #[U1,U1]);go_enter func144,ntmps144
   go_wp2_with fail
   refine Qa.run (fT _ _ _ HX) (HT) [0,3] ?_
   rintro e w1 gs ⟨rfl,g1,hx1,rfl⟩ HT;simp only [PU] at HT;have HX:=Vh hx1;clear hx1;have i0:=hks;have k3:=HT.c 0 0 3;simp only [Qq,az] at k3;rw [HKK.out,h3] at k3;clear h3;go_wp2
   clear k3;obtain ⟨qs,ss,iE,hss,hv⟩:=RE HX kr i0;have HH:=Vh (Pq HX (by rw [HX.out.len];exact kr) k2.slot);rw [hv] at HH;have mo:=Vh iE;have Gs:=Vh (PW HX iE hss);clear iE hss hv;obtain ⟨k0,k16⟩:=HT.c2 0 0 0 16;simp only [Qq,az] at k0 k16;refine Mx 10 ?_
   simp only [bY]
   repeat (go_big_quiet_step ((first | (go_at_call 184;with_reducible exact Qd.quiet (HH.out) HT.out _ [3] rfl rfl))))
   refine UA (QT HT fun nq HT=>?_)
   go_wp2_with fail
   refine Qa.run Gs HT [3] ?_
   rintro e w1 gs ⟨tb,rfl,g2,hx2,rfl⟩ HT;simp only [PU] at HT;have HX:=Vh hx2;clear hx2 k0 k16;have k14:=HT.c 0 0 14;have nK:=HT.f 0 0 14;simp only [Qq,az] at k14;go_wp2_with fail
   refine ⟨rfl,?_⟩
   have HT:=Vh ((HT.set 0 0 rfl 14 (Qb tb)).eq (H':=[Qt kb L.fb pv rv (Qb tb) { k2 with tk:=some (qi k2.slot x,Xp) },gq,gt,g2,[cl w.heap.size 153 #[U1,U1]],Xo tb qs.rb Xp]) rfl);clear k14 nK;go_wp2_with fail
   refine Qa.run Zb HT [] ?_
   rintro e w1 gs ⟨rfl,rfl⟩ HT;simp only [PU] at HT;obtain ⟨e0,e1⟩:=HT.c2 4 0 0 1;obtain ⟨ek,dZ⟩:=HT.f2 4 0 0 1;simp only [aN] at e0 e1;go_wp2
   exact U8 (v:=.agg #[U1,U3 (U7 186) #[Qb kb] #[]]) (by simp [results,results144,go_sem,e0,e1]) rfl ⟨_,⟨_,_,[],_,_,rfl,⟨rfl,rfl,rfl⟩,⟨_,_,gq,(Xo tb qs.rb Xp),HR,⟨tb,qs,mo,rfl,rfl⟩,rfl,HX⟩,rfl⟩,(((HT.set 4 0 rfl 0 _).set 4 0 rfl 1 _).p [0,1,5,3]).sum⟩
  ·have HZ:(if (0:Int)=0 then (if k.kind=3 then (.at none .aX,({ k2 with tk:=some (qi k2.slot x,Xp) },x)) else (.at none .tries,(k2,x))) else if (0:Int)=1 then (X2 k,Ql 1 (k2,x)) else (X2 k,Ql 0 (k2,x)):SC × ZC)=(.at none .tries,(k2,x)):=(if_pos rfl).trans (if_neg h3)
   have hb3:(k.kind == 3)=false:=beq_eq_false_iff_ne.2 h3;clear h3;rw [HZ];unfold fG;dsimp only [Ql]
   clear HZ;obtain ⟨hkk,hkr,hkt,hks⟩:=hkeep;obtain ⟨rv,tv,gq,gt,hr,ht,rfl,hx⟩:=hz;refine GO fun w HT=>?_
   have HT:=Vh (HT.out.m [Qt kb L.fb pv rv tv k,gq,gt,gF]);have HX:=Vh hx;have HR:=Vh (show xu L.p.sb k2.rq rv gq from hkr ▸ hr);have dK:=Vh (show xw L k2.tk tv gt from hkt ▸ ht);have HKK:=Vh hkk;clear hx hr ht hkr hkt hkk;have HT:=Vh (HT.out.a 153 #[U1,U1]);go_enter func144,ntmps144
   go_wp2_with fail
   refine Qa.run (fT _ _ _ HX) (HT) [0,3] ?_
   rintro e w1 gs ⟨rfl,g1,hx1,rfl⟩ HT;simp only [PU] at HT;have HX:=Vh hx1;clear hx1;have k3:=HT.c 0 0 3;simp only [Qq,az] at k3;rw [HKK.out] at k3;go_wp2_with fail
   refine Qa.run Zb HT [] ?_
   rintro e w1 gs ⟨rfl,rfl⟩ HT;simp only [PU] at HT;obtain ⟨e0,e1⟩:=HT.c2 4 0 0 1;obtain ⟨ek,dZ⟩:=HT.f2 4 0 0 1;simp only [aN] at e0 e1;go_wp2
   exact U8 (v:=.agg #[U1,U3 (U7 188) #[Qb kb] #[]]) (by simp [results,results144,go_sem,e0,e1]) rfl ⟨_,⟨_,_,[],_,_,rfl,⟨rfl,rfl,rfl⟩,⟨_,_,gq,gt,HR,dK,rfl,HX⟩,rfl⟩,(((HT.set 4 0 rfl 0 _).set 4 0 rfl 1 _).p [0,1,2,3]).sum⟩
 ·by_cases h1:er=1
  ·subst h1
   have HZ:(if (1:Int)=0 then (if k.kind=3 then (.at none .aX,({ k2 with tk:=some (qi k2.slot x,Xp) },x)) else (.at none .tries,(k2,x))) else if (1:Int)=1 then (X2 k,Ql 1 (k2,x)) else (X2 k,Ql 0 (k2,x)):SC × ZC)=(X2 (Yb 1 k2),Ql 1 (k2,x)):=by rw [if_neg h0,if_pos rfl,QR (k:=k) (k2:=Yb 1 k2) hkeep.1]
   clear h0;rw [HZ];unfold fG;dsimp only [Ql]
   clear HZ;obtain ⟨hkk,hkr,hkt,hks⟩:=hkeep;obtain ⟨rv,tv,gq,gt,hr,ht,rfl,hx⟩:=hz;refine GO fun w HT=>?_
   have HT:=Vh (HT.out.m [Qt kb L.fb pv rv tv k,gq,gt,gF]);have HX:=Vh hx;have HR:=Vh (show xu L.p.sb k2.rq rv gq from hkr ▸ hr);have dK:=Vh (show xw L k2.tk tv gt from hkt ▸ ht);have HKK:=Vh hkk;clear hx hr ht hkr hkt hkk;have HT:=Vh (HT.out.a 153 #[U1,U1]);go_enter func144,ntmps144
   go_wp2_with fail
   refine Qa.run (fT _ _ _ HX) (HT) [0,3] ?_
   rintro e w1 gs ⟨rfl,g1,hx1,rfl⟩ HT;simp only [PU] at HT;have HX:=Vh hx1;clear hx1;go_wp2_with fail
   refine Qa.run (Jt HX 1 dJ) (HT) [0,3] ?_
   rintro e w1 gs ⟨rfl,g1,hx1,rfl⟩ HT;simp only [PU] at HT;have HX:=Vh hx1;clear hx1;go_wp2_with fail
   refine Qa.run IK HT [0] ?_
   rintro e w1 gs ⟨m2,d2,g2,rfl,hs2,rfl⟩ HT;simp only [PU] at HT;obtain ⟨e0,e1⟩:=HT.c2 4 0 0 1;obtain ⟨ek,dZ⟩:=HT.f2 4 0 0 1;simp only [aN] at e0 e1;have hv2:=(Xk L kb pv).vals hs2;obtain ⟨st1,st2⟩:=aV.aD (P:=prog) hv2.1 hv2.2 e0 ek e1 dZ;have HS:=Vh hs2;clear hv2 hs2;go_wp2
   exact U8 (v:=.agg #[_,_]) (by simp [results,results144,go_sem,e0,e1]) rfl ⟨_,⟨m2,d2,g2,_,_,rfl,HS,⟨_,_,gq,gt,HR,dK,rfl,HX⟩,rfl⟩,(((HT.set 4 0 rfl 0 _).set 4 0 rfl 1 _).p [0,1,2,3,5]).sum⟩
  ·have HZ:(if er=0 then (if k.kind=3 then (.at none .aX,({ k2 with tk:=some (qi k2.slot x,Xp) },x)) else (.at none .tries,(k2,x))) else if er=1 then (X2 k,Ql 1 (k2,x)) else (X2 k,Ql 0 (k2,x)):SC × ZC)=(X2 (Yb 0 k2),Ql 0 (k2,x)):=by rw [if_neg h0,if_neg h1,QR (k:=k) (k2:=Yb 0 k2) hkeep.1]
   have hb0:(er == 0)=false:=beq_eq_false_iff_ne.2 h0;have hb1:(er == 1)=false:=beq_eq_false_iff_ne.2 h1;clear h0 h1;rw [HZ];unfold fG;dsimp only [Ql]
   clear HZ;obtain ⟨hkk,hkr,hkt,hks⟩:=hkeep;obtain ⟨rv,tv,gq,gt,hr,ht,rfl,hx⟩:=hz;refine GO fun w HT=>?_
   have HT:=Vh (HT.out.m [Qt kb L.fb pv rv tv k,gq,gt,gF]);have HX:=Vh hx;have HR:=Vh (show xu L.p.sb k2.rq rv gq from hkr ▸ hr);have dK:=Vh (show xw L k2.tk tv gt from hkt ▸ ht);have HKK:=Vh hkk;clear hx hr ht hkr hkt hkk;have HT:=Vh (HT.out.a 153 #[U1,U1]);go_enter func144,ntmps144
   go_wp2_with fail
   refine Qa.run (fT _ _ _ HX) (HT) [0,3] ?_
   rintro e w1 gs ⟨rfl,g1,hx1,rfl⟩ HT;simp only [PU] at HT;have HX:=Vh hx1;clear hx1;go_wp2_with fail
   refine Qa.run (Jt HX 0 dJ) (HT) [0,3] ?_
   rintro e w1 gs ⟨rfl,g1,hx1,rfl⟩ HT;simp only [PU] at HT;have HX:=Vh hx1;clear hx1;go_wp2_with fail
   refine Qa.run IK HT [0] ?_
   rintro e w1 gs ⟨m2,d2,g2,rfl,hs2,rfl⟩ HT;simp only [PU] at HT;obtain ⟨e0,e1⟩:=HT.c2 4 0 0 1;obtain ⟨ek,dZ⟩:=HT.f2 4 0 0 1;simp only [aN] at e0 e1;have hv2:=(Xk L kb pv).vals hs2;obtain ⟨st1,st2⟩:=aV.aD (P:=prog) hv2.1 hv2.2 e0 ek e1 dZ;have HS:=Vh hs2;clear hv2 hs2;go_wp2
   exact U8 (v:=.agg #[_,_]) (by simp [results,results144,go_sem,e0,e1]) rfl ⟨_,⟨m2,d2,g2,_,_,rfl,HS,⟨_,_,gq,gt,HR,dK,rfl,HX⟩,rfl⟩,(((HT.set 4 0 rfl 0 _).set 4 0 rfl 1 _).p [0,1,2,3,5]).sum⟩
theorem q7c (hz:kg L kb pv k x gK gF) (hp:qQ .again (k,x)):Qa prog 221 #[Qb kb] [gK,gF] (fG L kb pv (J1 .again (k,x))):=by
 obtain ⟨hok,hwk,_⟩:=hp;simp only at hok hwk;have dJ:=Vh hok.tr;have fT:=Vh (show ∀ g rv tv,Qf L x g->_ from fun g rv tv hx=>Sl (kb:=kb) (pv:=pv) (rv:=rv) (tv:=tv) (k:=k) (g:=g) hx hok hwk.id.1 hwk.id.2);have hkeep:=Fw k x.aa hwk.slot hwk.id.1
 have hE:∀ k2 er,lookW k x.aa=(k2,er)->J1 .again (k,x)=if er=0 then (.at none .tries,(k2,x)) else (.thn (.aj .bC) .leaves,Ql 0 (k2,x)):=by
  intro k2 er h
  show (if (lookW k x.aa).2=0 then _ else _)=_
  simp only [Q4,h]
 obtain ⟨k2,er,hl⟩:∃ k2 er,lookW k x.aa=(k2,er):=⟨_,_,rfl⟩;rw [hE k2 er hl];rw [hl] at fT hkeep;simp only at hkeep;clear hE hl hok hwk;by_cases h0:er=0
 ·have HZ:(if er=0 then (.at none .tries,(k2,x)) else (.thn (.aj .bC) .leaves,Ql 0 (k2,x)):SC × ZC)=(.at none .tries,(k2,x)):=if_pos h0
  rw [h0] at fT;clear h0;rw [HZ];unfold fG;dsimp only [Ql]
  clear HZ;obtain ⟨hkk,hkr,hkt,hks⟩:=hkeep;obtain ⟨rv,tv,gq,gt,hr,ht,rfl,hx⟩:=hz;refine GO fun w HT=>?_
  have HT:=Vh (HT.out.m [Qt kb L.fb pv rv tv k,gq,gt,gF]);have HX:=Vh hx;have HR:=Vh (show xu L.p.sb k2.rq rv gq from hkr ▸ hr);have dK:=Vh (show xw L k2.tk tv gt from hkt ▸ ht);clear hx hr ht hkr hkt hkk hks;have HT:=Vh ((HT.a 33 #[Qb kb]).alloc (k:=w.heap.size+1) (by simp) 153 #[U1,U1]);go_enter func221,ntmps221
  go_wp2_with fail
  refine Qa.run (fT _ _ _ HX) (HT) [0,3] ?_
  rintro e w1 gs ⟨rfl,g1,hx1,rfl⟩ HT;simp only [PU] at HT;have HX:=Vh hx1;clear hx1;have b0:=HT.c 4 0 0;simp only [aN] at b0;go_wp2_with fail
  refine Qa.run Zb HT [] ?_
  rintro e w1 gs ⟨rfl,rfl⟩ HT;simp only [PU] at HT;obtain ⟨e0,e1⟩:=HT.c2 5 0 0 1;obtain ⟨ek,dZ⟩:=HT.f2 5 0 0 1;simp only [aN] at e0 e1;go_wp2
  exact U8 (v:=.agg #[U1,U3 (U7 188) #[Qb kb] #[]]) (by simp [results,results221,go_sem,e0,e1]) rfl ⟨_,⟨_,_,[],_,_,rfl,⟨rfl,rfl,rfl⟩,⟨_,_,gq,gt,HR,dK,rfl,HX⟩,rfl⟩,(((HT.set 5 0 rfl 0 _).set 5 0 rfl 1 _).p [0,1,2,3]).sum⟩
 ·have HZ:(if er=0 then (.at none .tries,(k2,x)) else (.thn (.aj .bC) .leaves,Ql 0 (k2,x)):SC × ZC)=(.thn (.aj .bC) .leaves,Ql 0 (k2,x)):=if_neg h0
  have hb0:(er == 0)=false:=beq_eq_false_iff_ne.2 h0
  have hrow:∀ (bk b bf bl bi:Nat),(kv L kb pv).SV (.aj .bC) U1 (U3 (U7 209) #[] #[Qb bf,Qb bl,Qb bi])
   ([cl bf 1 #[U3 (U7 255) #[] #[Qb bk]],cl bl 322 #[.slice (some ⟨b,0,none⟩) 1 1],cl bi 3 #[U2 U4 0],cl b 1 #[U3 (U7 255) #[] #[Qb bk]]]++[cl bk 33 #[Qb kb]]) :=
   fun bk b bf bl bi=>⟨rfl,bf,bl,bi,b,0,_,_,_,rfl,⟨bk,rfl,rfl⟩,rfl,rfl⟩
  have fo:∀ (bk b bf bl bi:Nat),_:=fun bk b bf bl bi=>aV.dB (f:=MC.leaves) (v:=U3 (U7 181) #[Qb kb] #[]) (gm:=[]) (Xk L kb pv) rfl (hrow bk b bf bl bi) ⟨rfl,rfl⟩
  have nD:=Vh fo;clear h0 hrow fo;rw [HZ];unfold fG;dsimp only [Ql]
  clear HZ;obtain ⟨hkk,hkr,hkt,hks⟩:=hkeep;obtain ⟨rv,tv,gq,gt,hr,ht,rfl,hx⟩:=hz;refine GO fun w HT=>?_
  have HT:=Vh (HT.out.m [Qt kb L.fb pv rv tv k,gq,gt,gF]);have HX:=Vh hx;have HR:=Vh (show xu L.p.sb k2.rq rv gq from hkr ▸ hr);have dK:=Vh (show xw L k2.tk tv gt from hkt ▸ ht);clear hx hr ht hkr hkt hkk hks;have HT:=Vh ((HT.a 33 #[Qb kb]).alloc (k:=w.heap.size+1) (by simp) 153 #[U1,U1]);go_enter func221,ntmps221
  go_wp2_with fail
  refine Qa.run (fT _ _ _ HX) (HT) [0,3] ?_
  rintro e w1 gs ⟨rfl,g1,hx1,rfl⟩ HT;simp only [PU] at HT;have HX:=Vh hx1;clear hx1;have b0:=HT.c 4 0 0;simp only [aN] at b0;go_wp2_with fail
  refine Qa.run (Jt HX 0 dJ) (HT) [0,3] ?_
  rintro e w1 gs ⟨rfl,g1,hx1,rfl⟩ HT;simp only [PU] at HT;have HX:=Vh hx1;clear hx1;clear b0;have b0:=HT.c 4 0 0;simp only [aN] at b0;have bM:=HT.l 4 0;simp only [] at bM;go_wp2_with fail
  go_region_with (first
   | (go_at_call 178
      refine (Qa.use (aV.dY (b:=w1.heap.size) (o:=0) (D:=#[U3 (U7 255) #[] #[Qb w.heap.size]]) rfl 1 (.inl rfl)) (HT.drew.alloc (k:=w1.heap.size) rfl _ _) [6] rfl rfl).mono ?_
      rintro e w2 ⟨gs,⟨bf,bl,bi,rfl,rfl⟩,Ta⟩;simp only [PU] at Ta;have b1:=Ta.c 4 0 0;simp only [bP] at b1;have HT1:=Vh (Ta.sum (H':=[Qt kb L.fb pv rv tv (Yb 0 k2),gq,gt,g1,[cl (w.heap.size+1) 153 #[U1,U1]],[cl bf 1 #[U3 (U7 255) #[] #[Qb w.heap.size]],cl bl 322 #[.slice (some ⟨w1.heap.size,0,none⟩) 1 1],cl bi 3 #[U2 U4 0],cl w1.heap.size 1 #[U3 (U7 255) #[] #[Qb w.heap.size]]]++[cl w.heap.size 33 #[Qb kb]],[]]))
      clear Ta)
   | (go_at_call 196
      refine (Qa.use (nD _ _ _ _ _) HT1 [5,6] rfl rfl).mono ?_
      rintro e w3 ⟨gs,⟨m2,d2,g2,rfl,hs2,rfl⟩,Ta⟩;simp only [PU] at Ta;obtain ⟨e0,e1⟩:=Ta.c2 4 0 0 1;obtain ⟨f0,f1⟩:=Ta.f2 4 0 0 1;have hv2:=(Xk L kb pv).vals hs2;obtain ⟨st1,st2⟩:=aV.aD (P:=prog) hv2.1 hv2.2 e0 f0 e1 f1;clear hv2;have HS2:=Vh hs2;have HT2:=Vh Ta
      clear Ta hs2))
  all_goals
   go_wp2
   exact U8 (v:=.agg #[_,_]) (by simp [results,results221,go_sem,e0,e1]) rfl ⟨_,⟨m2,d2,g2,_,_,rfl,HS2,⟨_,_,gq,gt,HR,dK,rfl,HX⟩,rfl⟩,(((HT2.set 4 0 rfl 0 _).set 4 0 rfl 1 _).p [0,1,2,3,5]).sum⟩
end
section
variable {L:Lay} {kb:Nat} {pv:Value}
theorem q5s {u0 u3 u4 u5 u6 u7 u8 u9 T8 TA TC TD TF TH u16 TJ TK TL u20 u21 u22 u23 u24 u25 u26 u27 u28 u29 u30 u31 u32 u33 u34 u35 u36 u37 u38 TM u40 TN u42 TP u44 u45 u46 TQ u48 u49 TS u51 TT u53 TU u55 TV TW u58 u59 u60 TX TY u63 u64 TZ u66 Ua u68 u69 u70 Ub u72 u73 Uc u75 Ud Ue Uf Ug Uh Ui Uj Uk Ul Um Un Uo Up Uq Ur Us Ut u93 Uu Uv Uw Ux Uy Uz Ed Ee Ef Eh Ei u105 Ej El Em En Eo Ep Er Ml Mm Mo Mq Mr Ms u119 Mt:Value} {bb rb:Nat} {K:Act->World->Prop} {Q':Exit->Act->World->Prop} {g0 g1 g2 g3:List ak} {w0 w:World} {h:GH} (T:TG h w0 [g0,g1,g2,g3,[cl bb 33 #[Qb kb]],[cl rb 153 #[U1,U1]]] w)
 (hK:∀ w' m d g Es Et Eu Ev v117 Ew Ex Ey,(kv L kb pv).SV (.thn (.aO .bK .drop) .ends) m d g->TG h w0 [g0,g1,g2,g3,g,[cl rb 153 #[m,d]]] w'->K { tmps:=#[u0,Qb bb,Qb rb,u3,u4,u5,u6,u7,u8,u9,T8,TA,TC,TD,TF,TH,u16,TJ,TK,TL,u20,u21,u22,u23,u24,u25,u26,u27,u28,u29,u30,u31,u32,u33,u34,u35,u36,u37,u38,TM,u40,TN,u42,TP,u44,u45,u46,TQ,u48,u49,TS,u51,TT,u53,TU,u55,TV,TW,u58,u59,u60,TX,TY,u63,u64,TZ,u66,Ua,u68,u69,u70,Ub,u72,u73,Uc,u75,Ud,Ue,Uf,Ug,Uh,Ui,Uj,Uk,Ul,Um,Un,Uo,Up,Uq,Ur,Us,Ut,u93,Uu,Uv,Uw,Ux,Uy,Uz,Ed,Ee,Ef,Eh,Ei,u105,Ej,El,Em,En,Eo,Ep,Er,Es,Et,Eu,Ev,v117,Ew,Ex,Ey],defers:=[] } w') :
 (IJ 16 Tryz.f188).wp prog (Exit.then K Q') { tmps:=#[u0,Qb bb,Qb rb,u3,u4,u5,u6,u7,u8,u9,T8,TA,TC,TD,TF,TH,u16,TJ,TK,TL,u20,u21,u22,u23,u24,u25,u26,u27,u28,u29,u30,u31,u32,u33,u34,u35,u36,u37,u38,TM,u40,TN,u42,TP,u44,u45,u46,TQ,u48,u49,TS,u51,TT,u53,TU,u55,TV,TW,u58,u59,u60,TX,TY,u63,u64,TZ,u66,Ua,u68,u69,u70,Ub,u72,u73,Uc,u75,Ud,Ue,Uf,Ug,Uh,Ui,Uj,Uk,Ul,Um,Un,Uo,Up,Uq,Ur,Us,Ut,u93,Uu,Uv,Uw,Ux,Uy,Uz,Ed,Ee,Ef,Eh,Ei,u105,Ej,El,Em,En,Eo,Ep,Er,Ml,Mm,Mo,Mq,Mr,Ms,u119,Mt],defers:=[] } w:=by
 refine q16 (by rfl) ?_
 have hrow:∀ (bk b bf bl bi:Nat),(kv L kb pv).SV (.aO .bK .drop) U1 (U3 (U7 209) #[] #[Qb bf,Qb bl,Qb bi])
  ([cl bf 1 #[U3 (U7 231) #[] #[Qb bk]],cl bl 322 #[.slice (some ⟨b,0,none⟩) 2 2],cl bi 3 #[U2 U4 0],cl b 1 #[U3 (U7 231) #[] #[Qb bk],U3 (U7 220) #[Qb kb] #[]]]++[cl bk 33 #[Qb kb]]++[]) :=
  fun bk b bf bl bi=>⟨rfl,bf,bl,bi,b,_,_,_,[],rfl,⟨bk,rfl,rfl⟩,⟨rfl,rfl⟩,rfl⟩
 have fo:∀ (bk b bf bl bi:Nat),_:=fun bk b bf bl bi=>aV.bR (f:=MC.ends) (v:=U3 (U7 138) #[Qb kb] #[]) (gm:=[]) (Xk L kb pv) rfl (hrow bk b bf bl bi) ⟨rfl,rfl⟩
 have hrow':=hrow;have nD:=Vh fo;have HT:=Vh T;have HK:=Vh hK;have b0:=T.c 4 0 0;have bM:=T.l 4 0;have nU:=T.l 5 0;simp only [bP] at b0 bM nU;clear T hK hrow fo;have HRW:=Vh hrow';clear hrow'
 go_region_held3 (fun w'=>w'.cell? ⟨bb,0,none⟩=some (Qb kb))
  (first
  | exact HT2.c 4 6 0
  | exact HT1.c 4 4 0
  | exact (HT.drew.alloc (k:=w.heap.size) rfl _ _).c 4 0 0
  | exact HT.drew.c 4 0 0
  | exact HT.c 4 0 0
  | exact ((HT2.set 5 0 rfl 0 _).set 5 0 rfl 1 _).c 4 6 0)
  (first
  | (go_at_call 178
     refine (Qa.use (aV.dY (b:=w.heap.size) (o:=0) (D:=#[U3 (U7 231) #[] #[Qb bb],U3 (U7 220) #[Qb kb] #[]]) rfl 2 (.inr rfl)) (HT.drew.alloc (k:=w.heap.size) rfl _ _) [6] rfl rfl).mono ?_
     rintro e w7 ⟨gs,⟨bf,bl,bi,rfl,rfl⟩,Ta⟩;simp only [PU] at Ta;have HT1:=Vh (Ta.sum (H':=[g0,g1,g2,g3,[cl bf 1 #[U3 (U7 231) #[] #[Qb bb]],cl bl 322 #[.slice (some ⟨w.heap.size,0,none⟩) 2 2],cl bi 3 #[U2 U4 0],cl w.heap.size 1 #[U3 (U7 231) #[] #[Qb bb],U3 (U7 220) #[Qb kb] #[]]]++[cl bb 33 #[Qb kb]]++[],[cl rb 153 #[U1,U1]],[]]))
     clear Ta)
  | (go_at_call 196
     refine (Qa.use (nD _ _ _ _ _) HT1 [4,6] rfl rfl).mono ?_
     rintro e w8 ⟨gs,⟨bs,br,rfl,rfl⟩,Ta⟩;simp only [j3,List.set_cons_zero,List.set_cons_succ] at Ta;obtain ⟨e0,e1⟩:=Ta.c2 5 0 0 1;obtain ⟨f0,f1⟩:=Ta.f2 5 0 0 1;simp only [az] at e0 e1;have HT2:=Vh Ta
     clear Ta))
 all_goals
  exact HK _ _ _ _ _ _ _ _ _ _ _ _ ⟨bs,br,_,_,_,_,rfl,rfl,HRW _ _ _ _ _,⟨rfl,rfl⟩,rfl⟩ ((((HT2.set 5 0 rfl 0 _).set 5 0 rfl 1 _).p [0,1,2,3,4,5]).eq rfl)
end
end
end Go.Proofs.YtcneeepdclgdcaaGreat
