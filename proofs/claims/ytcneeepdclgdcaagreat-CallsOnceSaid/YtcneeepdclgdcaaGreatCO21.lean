import Derived.Test.YtcneeepdclgdcaaGreatCO14
import Derived.Test.YtcneeepdclgdcaaGreatCO17
import Derived.Test.YtcneeepdclgdcaaGreatCO20
import Derived.Test.YtcneeepdclgdcaaGreatCO13
import Derived.Test.YtcneeepdclgdcaaGreatCO16
import Derived.Test.YtcneeepdclgdcaaGreatCO12
set_option maxRecDepth 100000
set_option maxHeartbeats 4000000
namespace Go.Proofs.YtcneeepdclgdcaaGreat
set_option linter.unusedVariables false
set_option linter.unusedSimpArgs false
open Go.Proofs.Tryz
section
open Go.RowKit Go.Shelf
structure ShP where
 b:Nat
 rb:Nat
 lb:Nat
 wb:Nat
def qkd (q:ShP) (s:Qy) (g:List Blk):Prop:=∃ gr gl,Q6 q.rb s.ring gr∧qih q.lb s.who s.turns gl∧g=X4 q.b q.rb q.lb q.wb++(gr++gl)
structure Lay where
 fb:Nat
 p:qat
 qs:List ShP
structure Qk where
 f:X3
 slab:Qg
 tr:List EvS
 shs:List Qy
def Qh (L:Lay) (x:Qk) (g:List Blk):Prop:=∃ tr gF gS gR gH gT,X2 L.fb L.p x.f tr gF∧Xx L.p.sb x.slab gS∧J5 42 1 L.p.sh (L.qs.map ShP.b).length ((L.qs.map ShP.b).map fun b=>Qd b) gR ∧
 L.qs.length=x.shs.length∧qcg (fun (z:ShP × Qy)=>qkd z.1 z.2) (L.qs.zip x.shs) gH∧trG tr x.tr gT∧g=gF++(gS++(gR++(gH++gT)))
section
variable {L:Lay} {x:Qk} {g:List Blk}
theorem qee {fb:Nat} {p:qat} {f:X3} {tr:Value} {g:List Blk} (hg:X2 fb p f tr g):Qi prog 19 #[Qd fb] [g] (Qd p.sb):=by
 obtain ⟨C,rfl,hc⟩:=hg;refine GO fun w HT=>?_
 have c0:=(HT.out.cell 0 0 rfl 6).trans hc.slab;clear hc;go_enter func19,ntmps19
 go_wp2
 go_ret
 exact ⟨rfl,0,rfl⟩
theorem Qq (hx:Qh L x g):Qi prog 19 #[Qd L.fb] [g] (Qd L.p.sb):=by
 obtain ⟨tr,gF,gS,gR,gH,gT,h1,h2,h3,h4,h5,h6,rfl⟩:=hx;intro w hw;have T:=(TG.refl hw).sum (H':=[gF,gS,gR,gH,gT]);exact (qee h1).use T [0] rfl rfl
theorem qa1 (hx:Qh L x g) (hn:1≤L.qs.length) (i:Int):Qi prog 184 #[Qd L.fb,.int .i64 i] [g] (qfl (L.qs.map ShP.b) i):=by
 obtain ⟨tr,gF,gS,gR,gH,gT,h1,h2,h3,h4,h5,h6,rfl⟩:=hx;intro w hw;have T:=(TG.refl hw).sum (H':=[gF,gS,gR,gH,gT]);exact (qea h1 h3 (by simpa using hn) i).use T [0,2] rfl rfl
theorem qhb (hx:Qh L x g) (h:0≤x.f.inside∧x.f.inside≤1000000):Qa prog 139 #[Qd L.fb] [g] fun e gs=>e=.returned (.tuple #[])∧∃ g',Qh L { x with f:={ x.f with inside:=x.f.inside+1 } } g'∧gs=[g']:=by
 obtain ⟨tr,gF,gS,gR,gH,gT,h1,h2,h3,h4,h5,h6,rfl⟩:=hx;intro w hw;have T:=(TG.refl hw).sum (H':=[gF,gS,gR,gH,gT]);refine (Qa.use (qc7 h1 h) T [0] rfl rfl).mono ?_
 rintro e w' ⟨gs,⟨he,g1,hn1,rfl⟩,T'⟩;exact ⟨_,⟨he,_,⟨tr,g1,gS,gR,gH,gT,hn1,h2,h3,h4,h5,h6,rfl⟩,rfl⟩,TG.sum (H:=[g1,gS,gR,gH,gT]) T'⟩
theorem qh0 (hx:Qh L x g) (h:0≤x.f.inside∧x.f.inside≤1000000):Qa prog 213 #[Qd L.fb] [g] fun e gs=>e=.returned (.int .i64 (qjg x.f.inside))∧∃ g',Qh L { x with f:={ x.f with inside:=Yr x.f.inside } } g'∧gs=[g']:=by
 obtain ⟨tr,gF,gS,gR,gH,gT,h1,h2,h3,h4,h5,h6,rfl⟩:=hx;intro w hw;have T:=(TG.refl hw).sum (H':=[gF,gS,gR,gH,gT]);refine (Qa.use (qck h1 h) T [0] rfl rfl).mono ?_
 rintro e w' ⟨gs,⟨he,g1,hn1,rfl⟩,T'⟩;exact ⟨_,⟨he,_,⟨tr,g1,gS,gR,gH,gT,hn1,h2,h3,h4,h5,h6,rfl⟩,rfl⟩,TG.sum (H:=[g1,gS,gR,gH,gT]) T'⟩
theorem J2 (hx:Qh L x g):Qa prog 71 #[Qd L.fb] [g] fun e gs=>e=.returned (.bool x.f.closed)∧∃ g',Qh L x g'∧gs=[g']:=by
 obtain ⟨tr,gF,gS,gR,gH,gT,h1,h2,h3,h4,h5,h6,rfl⟩:=hx;intro w hw;have T:=(TG.refl hw).sum (H':=[gF,gS,gR,gH,gT]);refine (Qa.use (qcb h1) T [0] rfl rfl).mono ?_
 rintro e w' ⟨gs,⟨he,g1,hn1,rfl⟩,T'⟩;exact ⟨_,⟨he,_,⟨tr,g1,gS,gR,gH,gT,hn1,h2,h3,h4,h5,h6,rfl⟩,rfl⟩,TG.sum (H:=[g1,gS,gR,gH,gT]) T'⟩
theorem qgm (hx:Qh L x g):Qa prog 23 #[Qd L.fb] [g] fun e gs=>e=.returned (.int .i64 x.f.inside)∧∃ g',Qh L x g'∧gs=[g']:=by
 obtain ⟨tr,gF,gS,gR,gH,gT,h1,h2,h3,h4,h5,h6,rfl⟩:=hx;intro w hw;have T:=(TG.refl hw).sum (H':=[gF,gS,gR,gH,gT]);refine (Qa.use (qb7 h1) T [0] rfl rfl).mono ?_
 rintro e w' ⟨gs,⟨he,g1,hn1,rfl⟩,T'⟩;exact ⟨_,⟨he,_,⟨tr,g1,gS,gR,gH,gT,hn1,h2,h3,h4,h5,h6,rfl⟩,rfl⟩,TG.sum (H:=[g1,gS,gR,gH,gT]) T'⟩
theorem zk (hx:Qh L x g):Qa prog 20 #[Qd L.p.sb] [g] fun e gs=>e=.returned (.int .i64 x.slab.count)∧∃ g',Qh L x g'∧gs=[g']:=by
 obtain ⟨tr,gF,gS,gR,gH,gT,h1,h2,h3,h4,h5,h6,rfl⟩:=hx;intro w hw;have T:=(TG.refl hw).sum (H':=[gF,gS,gR,gH,gT]);refine (Qa.use (qej h2) T [1] rfl rfl).mono ?_
 rintro e w' ⟨gs,⟨he,g1,hn1,rfl⟩,T'⟩;exact ⟨_,⟨he,_,⟨tr,gF,g1,gR,gH,gT,h1,hn1,h3,h4,h5,h6,rfl⟩,rfl⟩,TG.sum (H:=[gF,g1,gR,gH,gT]) T'⟩
theorem qfd (hx:Qh L x g) (hn:x.slab.recs.length≤64) (k:Int):Qa prog 38 #[Qd L.p.sb,.int .i64 k] [g] fun e gs=>e=.returned (.tuple #[.int .u64 (x.slab.word k),.int .i64 (x.slab.werr k)])∧∃ g',Qh L x g'∧gs=[g']:=by
 obtain ⟨tr,gF,gS,gR,gH,gT,h1,h2,h3,h4,h5,h6,rfl⟩:=hx;intro w hw;have T:=(TG.refl hw).sum (H':=[gF,gS,gR,gH,gT]);refine (Qa.use (qgk h2 hn k) T [1] rfl rfl).mono ?_
 rintro e w' ⟨gs,⟨he,g1,hn1,rfl⟩,T'⟩;exact ⟨_,⟨he,_,⟨tr,gF,g1,gR,gH,gT,h1,hn1,h3,h4,h5,h6,rfl⟩,rfl⟩,TG.sum (H:=[gF,g1,gR,gH,gT]) T'⟩
theorem qja (hx:Qh L x g) (hn:x.slab.recs.length≤64) (id:Int) (h0:0≤id) (h9:id<18446744073709551616):Qa prog 223 #[Qd L.p.sb,.int .u64 id] [g] fun e gs=>e=.returned (.tuple #[.int .i64 (x.slab.slot id),.int .i64 (x.slab.serr id)])∧∃ g',Qh L x g'∧gs=[g']:=by
 obtain ⟨tr,gF,gS,gR,gH,gT,h1,h2,h3,h4,h5,h6,rfl⟩:=hx;intro w hw;have T:=(TG.refl hw).sum (H':=[gF,gS,gR,gH,gT]);refine (Qa.use (qft h2 hn id h0 h9) T [1] rfl rfl).mono ?_
 rintro e w' ⟨gs,⟨he,g1,hn1,rfl⟩,T'⟩;exact ⟨_,⟨he,_,⟨tr,gF,g1,gR,gH,gT,h1,hn1,h3,h4,h5,h6,rfl⟩,rfl⟩,TG.sum (H:=[gF,g1,gR,gH,gT]) T'⟩
theorem qjb (hx:Qh L x g) (hn:x.slab.recs.length≤64) (id:Int) (h0:0≤id) (h9:id<18446744073709551616):Qa prog 224 #[Qd L.p.sb,.int .u64 id] [g] fun e gs=>e=.returned (.bool (x.slab.mine id))∧∃ g',Qh L x g'∧gs=[g']:=by
 obtain ⟨tr,gF,gS,gR,gH,gT,h1,h2,h3,h4,h5,h6,rfl⟩:=hx;intro w hw;have T:=(TG.refl hw).sum (H':=[gF,gS,gR,gH,gT]);refine (Qa.use (qgg h2 hn id h0 h9) T [1] rfl rfl).mono ?_
 rintro e w' ⟨gs,⟨he,g1,hn1,rfl⟩,T'⟩;exact ⟨_,⟨he,_,⟨tr,gF,g1,gR,gH,gT,h1,hn1,h3,h4,h5,h6,rfl⟩,rfl⟩,TG.sum (H:=[gF,g1,gR,gH,gT]) T'⟩
theorem qi3 (hx:Qh L x g) (h0:0≤x.slab.count) (h9:x.slab.count≤64):Qa prog 254 #[Qd L.p.sb] [g] fun e gs=>e=.returned (.int .i64 x.slab.drop.2)∧∃ g',Qh L { x with slab:=x.slab.drop.1 } g'∧gs=[g']:=by
 obtain ⟨tr,gF,gS,gR,gH,gT,h1,h2,h3,h4,h5,h6,rfl⟩:=hx;intro w hw;have T:=(TG.refl hw).sum (H':=[gF,gS,gR,gH,gT]);refine (Qa.use (qgl h2 h0 h9) T [1] rfl rfl).mono ?_
 rintro e w' ⟨gs,⟨he,g1,hn1,rfl⟩,T'⟩;exact ⟨_,⟨he,_,⟨tr,gF,g1,gR,gH,gT,h1,hn1,h3,h4,h5,h6,rfl⟩,rfl⟩,TG.sum (H:=[gF,g1,gR,gH,gT]) T'⟩
theorem qhh (hx:Qh L x g) (hn:x.slab.recs.length≤64) (k old ev:Int) (h0:0≤old) (h9:old<18446744073709551616):Qa prog 228 #[Qd L.p.sb,.int .i64 k,.int .u64 old,.int .i64 ev] [g] fun e gs=>e=.returned (.tuple #[.int .u64 (x.slab.try k old ev).2.1,.int .i64 (x.slab.try k old ev).2.2])∧∃ g',Qh L { x with slab:=(x.slab.try k old ev).1 } g'∧gs=[g']:=by
 obtain ⟨tr,gF,gS,gR,gH,gT,h1,h2,h3,h4,h5,h6,rfl⟩:=hx;intro w hw;have T:=(TG.refl hw).sum (H':=[gF,gS,gR,gH,gT]);refine (Qa.use (qhg h2 hn k old ev h0 h9) T [1] rfl rfl).mono ?_
 rintro e w' ⟨gs,⟨he,g1,hn1,rfl⟩,T'⟩;exact ⟨_,⟨he,_,⟨tr,gF,g1,gR,gH,gT,h1,hn1,h3,h4,h5,h6,rfl⟩,rfl⟩,TG.sum (H:=[gF,g1,gR,gH,gT]) T'⟩
theorem qec (hx:Qh L x g) (qb:Nat) (q:Req) (hs:Xm x.slab) (hq:qbi x.slab.recs.length q):Qa prog 182 #[Qd qb] [qm qb L.p.sb q,g] fun e gs=>e=.returned (.int .i64 (Q3 x.slab q).2.st)∧∃ g',Qh L { x with slab:=(Q3 x.slab q).1 } g'∧gs=[qm qb L.p.sb (Q3 x.slab q).2,g']:=by
 obtain ⟨tr,gF,gS,gR,gH,gT,h1,h2,h3,h4,h5,h6,rfl⟩:=hx;intro w hw;have T:=(TG.refl hw).sum (H':=[qm qb L.p.sb q,gF,gS,gR,gH,gT]);refine (Qa.use (qg9 qb q h2 hs hq) T [0,2] rfl rfl).mono ?_
 rintro e w' ⟨gs,⟨he,g1,hn1,rfl⟩,T'⟩;exact ⟨_,⟨he,_,⟨tr,gF,g1,gR,gH,gT,h1,hn1,h3,h4,h5,h6,rfl⟩,rfl⟩,TG.sum (H:=[qm qb L.p.sb (Q3 x.slab q).2,gF,g1,gR,gH,gT]) T'⟩
theorem qjt (hx:Qh L x g) (E:EvS) (hn:x.tr.length≤1000000):Qa prog 145 #[Qd L.fb,.agg E.cells] [g] fun e gs=>e=.returned (.tuple #[])∧∃ g',Qh L { x with tr:=x.tr++[E] } g'∧gs=[g']:=by
 obtain ⟨tr,gF,gS,gR,gH,gT,h1,h2,h3,h4,h5,h6,rfl⟩:=hx;intro w hw;have T:=(TG.refl hw).sum (H':=[gF,gS,gR,gH,gT]);refine (Qa.use (qa9 E h1 h6 (by omega)) T [0,4] rfl rfl).mono ?_
 rintro e w' ⟨gs,⟨he,tr1,g1,gT1,hn1,hn2,rfl⟩,T'⟩;exact ⟨_,⟨he,_,⟨tr1,g1,gS,gR,gH,gT1,hn1,h2,h3,h4,h5,trG.put hn2,rfl⟩,rfl⟩,TG.sum (H:=[g1,gS,gR,gH,gT1]) T'⟩
theorem qex {α β:Type} {l:List α} {m:List β} {i:Nat} {a:α} {b:β} (ha:l[i]?=some a) (hb:m[i]?=some b):(l.zip m)[i]?=some (a,b):=by
 rw [List.getElem?_zip_eq_some];exact ⟨ha,hb⟩
theorem qbh {α β:Type}:∀ {l:List α} {m:List β} (i:Nat) {a:α} {b:β},l[i]?=some a→(l.zip m).set i (a,b)=l.zip (m.set i b)
 | [],m,i,a,b,h=>by simp at h
 | c::l,[],i,a,b,h=>by simp
 | c::l,d::m,0,a,b,h=>by simp at h;simp [h]
 | c::l,d::m,i+1,a,b,h=>by simp at h;simp [qbh i h]
theorem Yy (hx:Qh L x g) {i:Nat} {q:ShP} {s:Qy} (hq:L.qs[i]?=some q) (hs:x.shs[i]?=some s) (tb:Nat) (t:Q4) (hr0:Yp s.ring) (ht:zg t):Qa prog 218 #[Qd tb] [Qv tb q.rb t,g] fun e gs=>e=.returned (.int .i64 (stepT s.ring t).2.status)∧∃ g',Qh L { x with shs:=x.shs.set i { s with ring:=(stepT s.ring t).1 } } g'∧gs=[Qv tb q.rb (stepT s.ring t).2,g']:=by
 obtain ⟨tr,gF,gS,gR,gH,gT,h1,h2,h3,h4,h5,h6,rfl⟩:=hx;have hz:(L.qs.zip x.shs)[i]?=some (q,s):=qex hq hs;obtain ⟨u,y,⟨gr,gl,hr,hl,rfl⟩,hp,hback⟩:=h5.out hz;intro w hw;have T:=(((TG.refl hw).sum (H':=[Qv tb q.rb t,gF++(gS++(gR++gT)),gH])).permAt 2 rfl hp).sum (H':=[Qv tb q.rb t,gF++(gS++(gR++gT)),X4 q.b q.rb q.lb q.wb,gr,gl,y]);refine (Qa.use (qfj (tb:=tb) (t:=t) hr hr0 ht) T [0,3] rfl rfl).mono ?_
 rintro e w' ⟨gs,⟨he,g1,hn1,rfl⟩,T'⟩;obtain ⟨gH',hf,hp'⟩:=hback (q,{ s with ring:=(stepT s.ring t).1 }) (X4 q.b q.rb q.lb q.wb++(g1++gl)) ⟨g1,gl,hn1,hl,rfl⟩;rw [qbh i hq] at hf;refine ⟨_,⟨he,_,⟨tr,gF,gS,gR,gH',gT,h1,h2,h3,by simpa using h4,hf,h6,rfl⟩,rfl⟩,?_⟩
 exact ((TG.sum (H:=[Qv tb q.rb (stepT s.ring t).2,gF++(gS++(gR++gT)),X4 q.b q.rb q.lb q.wb,g1,gl,y]) (H':=[Qv tb q.rb (stepT s.ring t).2,gF++(gS++(gR++gT)),X4 q.b q.rb q.lb q.wb++(g1++gl)++y]) T').permAt 2 rfl hp').sum
theorem qez (hx:Qh L x g) {i:Nat} {q:ShP} {s:Qy} (hq:L.qs[i]?=some q) (hs:x.shs[i]?=some s) (tb:Nat) (t:Q4) (hr0:Yp s.ring) (ht:zg t) (v:Qn):Qa prog 256 #[Qd tb,.agg v.cells] [Qv tb q.rb t,g] fun e gs=>e=.returned (.int .i64 (Xi s.ring t v).2.2)∧∃ g',Qh L { x with shs:=x.shs.set i { s with ring:=(Xi s.ring t v).1 } } g'∧gs=[Qv tb q.rb (Xi s.ring t v).2.1,g']:=by
 obtain ⟨tr,gF,gS,gR,gH,gT,h1,h2,h3,h4,h5,h6,rfl⟩:=hx;have hz:(L.qs.zip x.shs)[i]?=some (q,s):=qex hq hs;obtain ⟨u,y,⟨gr,gl,hr,hl,rfl⟩,hp,hback⟩:=h5.out hz;intro w hw;have T:=(((TG.refl hw).sum (H':=[Qv tb q.rb t,gF++(gS++(gR++gT)),gH])).permAt 2 rfl hp).sum (H':=[Qv tb q.rb t,gF++(gS++(gR++gT)),X4 q.b q.rb q.lb q.wb,gr,gl,y]);refine (Qa.use (qfs (tb:=tb) (t:=t) v hr hr0 ht) T [0,3] rfl rfl).mono ?_
 rintro e w' ⟨gs,⟨he,g1,hn1,rfl⟩,T'⟩;obtain ⟨gH',hf,hp'⟩:=hback (q,{ s with ring:=(Xi s.ring t v).1 }) (X4 q.b q.rb q.lb q.wb++(g1++gl)) ⟨g1,gl,hn1,hl,rfl⟩;rw [qbh i hq] at hf;refine ⟨_,⟨he,_,⟨tr,gF,gS,gR,gH',gT,h1,h2,h3,by simpa using h4,hf,h6,rfl⟩,rfl⟩,?_⟩
 exact ((TG.sum (H:=[Qv tb q.rb (Xi s.ring t v).2.1,gF++(gS++(gR++gT)),X4 q.b q.rb q.lb q.wb,g1,gl,y]) (H':=[Qv tb q.rb (Xi s.ring t v).2.1,gF++(gS++(gR++gT)),X4 q.b q.rb q.lb q.wb++(g1++gl)++y]) T').permAt 2 rfl hp').sum
end
structure Ql where
 thread:Int
 no:Int
 kind:Int
 cid:Int
 cdl:Int
 cper:Int
 err:Int
 ok:Bool
 aid:Int
 agen:Int
 id:Int
 slot:Int
 saw:Int
 gen:Int
 rq:Option Req
 tk:Option (Nat × Q4)
def Qj (fb:Nat) (pv rv tv:Value) (k:Ql):Array Value:=#[Qd fb,.int .i64 k.thread,.int .i64 k.no,.int .i64 k.kind,.int .u64 k.cid,.int .u64 k.cdl,.int .u64 k.cper,.int .i64 k.err,.bool k.ok,.int .u64 k.aid,.int .u64 k.agen,.slice none 0 0,pv,rv,tv,.int .u64 k.id,.int .i64 k.slot,.int .u64 k.saw,.int .u64 k.gen]
abbrev Qm (kb fb:Nat) (pv rv tv:Value) (k:Ql):List Blk:=[cl kb 149 (Qj fb pv rv tv k)]
def Ql.ev (k:Ql) (E:EvS):EvS:={ E with thread:=k.thread,call:=k.no,what:=k.kind }
def Yj (k:Ql) (E:EvS) (x:Qk):Qk:={ x with tr:=x.tr++[k.ev E] }
def ev0:EvS:=⟨0,0,0,0,0,0,0,0,0,0⟩
def X1 (e:Int) (k:Ql):Ql:={ k with err:=e,ok:=false,aid:=0,agen:=0 }
section
variable {L:Lay} {x:Qk} {g:List Blk} {kb:Nat} {pv rv tv:Value} {k:Ql}
theorem X7 (hx:Qh L x g) (E:EvS) (hn:x.tr.length≤1000000):Qa prog 84 #[Qd kb,.agg E.cells] [Qm kb L.fb pv rv tv k,g] fun e gs =>
 e=.returned (.tuple #[])∧∃ g',Qh L (Yj k E x) g'∧gs=[Qm kb L.fb pv rv tv k,g']:=by
 refine GO fun w HT=>?_
 have HN:=Vh (qjt hx (k.ev E) hn);have lt:=HT.out.lt 0 0 rfl;simp only [] at lt;obtain ⟨k0,k1,k2,k3⟩:=Ce4 (HT.out.cell 0 0 rfl) 0 1 2 3;simp only [Qj,GE3] at k0 k1 k2 k3;clear hx hn;simp only [EvS.cells];go_enter func84,ntmps84
 go_wp2
 go_region
 go_wp2
 have HT:=Vh (HT.out.alloc (k:=w.heap.size) rfl 73 (k.ev E).cells).drew;simp only [List.cons_append,List.nil_append] at HT;simp only [EvS.cells,Ql.ev] at HT;clear lt k1 k2 k3 k0;generalize World.drew _=w1 at HT ⊢;have k0:=HT.out.cell 0 0 rfl 0;obtain ⟨b0,b1,b2,b3,b4,b5,b6,b7⟩:=Ce8 (HT.out.cell 2 0 rfl) 0 1 2 3 4 5 6 7;obtain ⟨b8,b9⟩:=Ce2 (HT.out.cell 2 0 rfl) 8 9;simp only [Qj,GE3] at k0 b0 b1 b2 b3 b4 b5 b6 b7 b8 b9;refine Qc 5 (by kernel_rfl) (by kernel_rfl) ?_
 simp only [TD4]
 repeat (go_big_quiet_step ((fail)))
 refine wpQuiet_nil (QE fun nq=>?_)
 have HT:=Vh (HT.out.drewN nq);go_wp2_with fail
 refine (Qa.use (HN.out) (HT.out) [1] rfl rfl).mono ?_
 rintro e w1 ⟨gs,⟨rfl,g',hx',rfl⟩,Ta⟩;simp only [PU] at Ta;have HX:=Vh hx';clear hx';have HT:=Vh Ta;clear Ta;go_wp2_with fail
 refine ⟨rfl,?_⟩
 go_wp2
 exact bodyPost_end (results_none rfl _ _ _) rfl ⟨_,⟨rfl,g',HX.out,rfl⟩,HT.out.pick [0,1] rfl⟩
theorem Xu (hx:Qh L x g) (e:Int) (hn:x.tr.length≤1000000):Qa prog 137 #[Qd kb,.int .i64 e] [Qm kb L.fb pv rv tv k,g] fun r gs =>
 r=.returned (.tuple #[])∧∃ g',Qh L (Yj k { ev0 with kind:=9,err:=e } x) g'∧gs=[Qm kb L.fb pv rv tv (X1 e k),g']:=by
 refine GO fun w HT=>?_
 have HN:=Vh (X7 (kb:=kb) (pv:=pv) (rv:=rv) (tv:=tv) (k:=k) hx { ev0 with kind:=9,err:=e } hn);clear hx hn;go_enter func137,ntmps137
 go_wp2_with fail
 refine (Qa.use (HN.out) (HT.out) [0,1] rfl rfl).mono ?_
 rintro e w1 ⟨gs,⟨rfl,g',hx',rfl⟩,Ta⟩;simp only [PU] at Ta;have HX:=Vh hx';clear hx';have HT:=Vh Ta;clear Ta;obtain ⟨c7,c8,c9,c10,c11⟩:=Ce5 (HT.out.cell 0 0 rfl) 7 8 9 10 11;obtain ⟨f7,f8,f9,f10,f11⟩:=Ce5 (HT.out.free 0 0 rfl) 7 8 9 10 11;simp only [Qj,GE3] at c7 c8 c9 c10 c11;go_wp2
 exact bodyPost_end (results_none rfl _ _ _) rfl ⟨_,⟨rfl,g',HX.out,rfl⟩,(((((HT.out.set 0 0 rfl 7 _).set 0 0 rfl 8 _).set 0 0 rfl 9 _).set 0 0 rfl 10 _).set 0 0 rfl 11 _).eq rfl⟩
end
def Ql.period (k:Ql):Int:=if k.kind=2 then k.cper else 0
def Ql.event (k:Ql):Int:=if k.kind=4 then 6 else if k.kind=5 then 7 else 8
theorem Xx.open {sb:Nat} {s:Qg} {g:List Blk} (h:Xx sb s g):∃ rb C D,g=[cl sb 163 C,cl rb 176 D]∧C.size=5∧C[0]?=some (.slice (some ⟨rb,0,none⟩) s.recs.length s.recs.length)∧cellAt C 1 (.int .i64 s.count)∧D.size=s.recs.length*6∧∀ i r,s.recs[i]?=some r→recAt D i r:=by
 obtain ⟨rb,m⟩:=h;unfold Zo at m;cases m with
 | cons h1 m =>
   cases m with
   | cons h2 m =>
     cases m
     obtain ⟨C,rfl,a,b,c⟩:=h1;obtain ⟨D,rfl,d,e⟩:=h2;exact ⟨rb,C,D,rfl,a,b,c,d,e⟩
theorem qc4 {sb:Nat} {s:Qg} {g:List Blk} (h:Xx sb s g) (hn:s.recs.length≤64) (k:Int):Qi prog 227 #[Qd sb,.int .i64 k] [g] (.int .u64 (s.period k)):=by
 obtain ⟨rb,C,D,rfl,h1,h2,h3,h4,h5⟩:=h.open;refine GO fun w HT=>?_
 have c0:=(HT.out.cell 0 0 rfl 0).trans h2;by_cases hk:s.has k
 ·obtain ⟨j,rfl⟩:=Qg.has_nat hk
  obtain ⟨r,hr,hr'⟩:=Qg.has_at hk;have HP:=Vh (show s.period j=r.p from by unfold Qg.period;rw [if_pos hk,hr']);have c1:=(HT.out.cell 0 1 rfl (j*6+5)).trans (h5 j r hr).2.2;have hj:j<s.recs.length:=by unfold Qg.has at hk;omega
  clear h1 h2 h3 h4 h5 h hk hr hr';generalize s.recs.length=n at *
  have atc:∀ w',w'.cell? ⟨sb,0,none⟩=some (.slice (some ⟨rb,0,none⟩) n n)→Calls prog 99 #[Qd sb,.int .i64 (j:Int)] w' fun e w2=>e=.returned (.pointer (some ⟨rb,j*6,none⟩))∧w'=w2:=by
   intro w' c0';clear c0 c1 HT;go_enter func99,ntmps99
   go_wp2
   go_ret
   exact ⟨rfl,rfl⟩
  have HAT:=Vh (atc w c0);clear atc;go_enter func227,ntmps227
  go_wp2_with fail
  refine (HAT.out).mono ?_
  rintro e w2 ⟨rfl,rfl⟩;go_wp2
  go_ret
  exact ⟨by rw [HP.out];rfl,0,rfl⟩
 ·have HP:=Vh (show s.period k=0 from if_neg hk)
  have hk':¬ (0≤k∧k<s.recs.length):=hk;clear h1 h2 h3 h4 h5 h hk;generalize s.recs.length=n at *
  have atc:∀ w',w'.cell? ⟨sb,0,none⟩=some (.slice (some ⟨rb,0,none⟩) n n)→Calls prog 99 #[Qd sb,.int .i64 k] w' fun e w2=>e=.returned (.pointer none)∧w'=w2:=by
   intro w' c0';clear c0 HT;by_cases h0:0≤k
   ·have h9:(n:Int)≤k:=by omega
    clear hk';go_enter func99,ntmps99
    go_wp2
    go_ret
    exact ⟨rfl,rfl⟩
   ·have h9:k<0:=by omega
    clear hk' h0;go_enter func99,ntmps99
    go_wp2
    go_ret
    exact ⟨rfl,rfl⟩
  have HAT:=Vh (atc w c0);clear atc hk';go_enter func227,ntmps227
  go_wp2_with fail
  refine (HAT.out).mono ?_
  rintro e w2 ⟨rfl,rfl⟩;go_wp2
  go_ret
  exact ⟨by rw [HP.out];rfl,0,rfl⟩
section
variable {L:Lay} {x:Qk} {g:List Blk} {kb:Nat} {pv rv tv:Value} {k:Ql}
theorem qi (hx:Qh L x g) (hn:x.slab.recs.length≤64) (i:Int):Qi prog 227 #[Qd L.p.sb,.int .i64 i] [g] (.int .u64 (x.slab.period i)):=by
 obtain ⟨tr,gF,gS,gR,gH,gT,h1,h2,h3,h4,h5,h6,rfl⟩:=hx;intro w hw;have T:=(TG.refl hw).sum (H':=[gF,gS,gR,gH,gT]);exact (qc4 h2 hn i).use T [1] rfl rfl
theorem Jg:Qi prog 142 #[Qd kb] [Qm kb L.fb pv rv tv k] (.int .u64 k.period):=by
 by_cases h:k.kind=2
 ·have HE:=Vh (show k.period=k.cper from if_pos h)
  refine GO fun w HT=>?_
  obtain ⟨k3,k6⟩:=Ce2 (HT.out.cell 0 0 rfl) 3 6;simp only [Qj,GE3] at k3 k6;rw [h] at k3;clear h;go_enter func142,ntmps142
  go_wp2
  go_ret
  exact ⟨by rw [HE.out];rfl,0,rfl⟩
 ·have HE:=Vh (show k.period=0 from if_neg h)
  have hb:(k.kind == 2)=false:=beq_eq_false_iff_ne.2 h;refine GO fun w HT=>?_
  obtain ⟨k3,k6⟩:=Ce2 (HT.out.cell 0 0 rfl) 3 6;simp only [Qj,GE3] at k3 k6;clear h;go_enter func142,ntmps142
  go_wp2
  go_ret
  exact ⟨by rw [HE.out];rfl,0,rfl⟩
theorem Zq:Qi prog 226 #[Qd kb] [Qm kb L.fb pv rv tv k] (.int .i64 k.event):=by
 by_cases h:k.kind=4
 ·have HE:=Vh (show k.event=6 from if_pos h)
  refine GO fun w HT=>?_
  have k3:=HT.out.cell 0 0 rfl 3;simp only [Qj,GE3] at k3;rw [h] at k3;clear h;go_enter func226,ntmps226
  go_wp2
  go_ret
  exact ⟨by rw [HE.out];rfl,0,rfl⟩
 ·have hb:(k.kind == 4)=false:=beq_eq_false_iff_ne.2 h
  by_cases h':k.kind=5
  ·have HE:=Vh (show k.event=7 from (if_neg h).trans (if_pos h'))
   refine GO fun w HT=>?_
   have k3:=HT.out.cell 0 0 rfl 3;simp only [Qj,GE3] at k3;rw [h'] at k3;clear h h' hb;go_enter func226,ntmps226
   go_wp2
   go_ret
   exact ⟨by rw [HE.out];rfl,0,rfl⟩
  ·have hb':(k.kind == 5)=false:=beq_eq_false_iff_ne.2 h'
   have HE:=Vh (show k.event=8 from (if_neg h).trans (if_neg h'));refine GO fun w HT=>?_
   have k3:=HT.out.cell 0 0 rfl 3;simp only [Qj,GE3] at k3;clear h h';go_enter func226,ntmps226
   go_wp2
   go_ret
   exact ⟨by rw [HE.out];rfl,0,rfl⟩
theorem Q7 {fn:FuncId} {first caps:Array Value}:Qa prog 80 #[.func (.func fn) first caps] [] fun e gs=>e=.returned (.agg #[.nilFunc,.func (.func fn) first caps])∧gs=[]:=by
 refine GO fun w HT=>?_
 go_enter func80,ntmps80
 go_wp2
 exact bodyPost_ret (v:=.agg #[.nilFunc,.func (.func fn) first caps]) (by simp [results,results80,go_sem]) rfl ⟨_,⟨rfl,rfl⟩,HT.out.alloc0 _⟩
end
structure qas (x:Qk):Prop where
 slab:Xm x.slab
 i0:0≤x.f.inside
 i1:x.f.inside≤1000000
 tr:x.tr.length≤1000000
 sh:1≤x.shs.length
 ring:∀ s∈x.shs,Yp s.ring
theorem qds {s:Qg} (h:Xm s) (k:Int):0≤s.word k∧s.word k<18446744073709551616∧okW (s.word k)=true:=by
 unfold Qg.word;split
 ·next hk =>
  obtain ⟨j,rfl⟩:=Qg.has_nat hk;obtain ⟨r,hr,hr'⟩:=Qg.has_at hk;rw [hr'];have:=h.recs r (List.mem_of_getElem? hr);exact ⟨this.w0,this.w1,this.ok⟩
 ·exact ⟨by omega,by omega,by decide⟩
def Z9 (k:Int) (ev:Int) (s:Qg):Qg × Int:=((s.try k (s.word k) ev).1,(s.try k (s.word k) ev).2.1)
def qg (ev:Int) (k:Ql) (s:Qg):Ql:={ k with gen:=X0 (Z9 k.slot ev s).2 }
def lookW (k:Ql) (s:Qg):Ql × Int :=
 if s.serr k.id≠0 then (k,s.serr k.id) else
  if s.mine k.id=false then ({ k with slot:=s.slot k.id,saw:=s.word (s.slot k.id) },7)
  else ({ k with slot:=s.slot k.id,saw:=s.word (s.slot k.id) },(Qs (s.word (s.slot k.id)) k.event (decide (0<s.period (s.slot k.id)))).2)
theorem qlr (n e:Int) (p:Bool) (h0:0≤n) (h1:n<18446744073709551616):Qi prog 225 #[.int .u64 n,.int .i64 e,.bool p] [] (.tuple #[.int .u64 (Qs n e p).1,.int .i64 (Qs n e p).2]) :=
 fun w hw=>(Js n e p w h0 h1).mono fun e w' ⟨he,hw'⟩=>⟨he,0,hw'.symm⟩
section
variable {L:Lay} {x:Qk} {g:List Blk} {kb:Nat} {pv rv tv:Value} {k:Ql}
theorem zf (hx:Qh L x g) (ho:qas x) (ev:Int):Qa prog 232 #[Qd kb,.int .i64 ev] [Qm kb L.fb pv rv tv k,g] fun r gs =>
 r=.returned (.tuple #[])∧∃ g',Qh L { x with slab:=(Z9 k.slot ev x.slab).1 } g'∧gs=[Qm kb L.fb pv rv tv (qg ev k x.slab),g']:=by
 obtain ⟨w0,w1,w2⟩:=qds ho.slab k.slot;have tb:=qen ho.slab k.slot (x.slab.word k.slot) ev w0 w1 w2;have HW:=Vh (qfd hx ho.slab.n1 k.slot);have HY:=Vh (show ∀ g',Qh L x g'→_ from fun g' hx'=>qhh (g:=g') hx' ho.slab.n1 k.slot (x.slab.word k.slot) ev w0 w1);have HE:=Vh (show Z9 k.slot ev x.slab=((x.slab.try k.slot (x.slab.word k.slot) ev).1,(x.slab.try k.slot (x.slab.word k.slot) ev).2.1)∧qg ev k x.slab={ k with gen:=X0 (x.slab.try k.slot (x.slab.word k.slot) ev).2.1 } from ⟨rfl,rfl⟩);have HTB:=Vh tb;refine GO fun w HT=>?_
 obtain ⟨k0,k16⟩:=Ce2 (HT.out.cell 0 0 rfl) 0 16;simp only [Qj,GE3] at k0 k16;have HX:=Vh hx;clear hx ho w0 w1 w2 tb;go_enter func232,ntmps232
 go_wp2
 refine Qc 9 (by kernel_rfl) (by kernel_rfl) ?_
 simp only [TD4]
 repeat (go_big_quiet_step ((first | (go_at_call 19;with_reducible exact Qi.quiet (Qq HX.out) HT.out _ [1] rfl rfl))))
 refine wpQuiet_nil (QE fun nq=>?_)
 have HT:=Vh (HT.out.drewN nq);go_wp2_with fail
 refine (Qa.use (HW.out) (HT.out) [1] rfl rfl).mono ?_
 rintro e w1 ⟨gs,⟨rfl,g1,hx1,rfl⟩,Ta⟩;simp only [PU] at Ta;have HX:=Vh hx1;clear hx1 k0 k16;have HT:=Vh Ta;clear Ta;go_wp2_with fail
 refine ⟨rfl,?_⟩
 obtain ⟨k0,k16⟩:=Ce2 (HT.out.cell 0 0 rfl) 0 16;simp only [Qj,GE3] at k0 k16;go_wp2
 refine Qc 11 (by kernel_rfl) (by kernel_rfl) ?_
 simp only [TD4]
 repeat (go_big_quiet_step ((first | (go_at_call 19;with_reducible exact Qi.quiet (Qq HX.out) HT.out _ [1] rfl rfl))))
 refine wpQuiet_nil (QE fun nq=>?_)
 have HT:=Vh (HT.out.drewN nq);go_wp2_with fail
 refine (Qa.use (HY.out _ HX.out) (HT.out) [1] rfl rfl).mono ?_
 rintro e w1 ⟨gs,⟨rfl,g2,hx2,rfl⟩,Ta⟩;simp only [PU] at Ta;have HX2:=Vh hx2;clear hx2 k0 k16;have HT:=Vh Ta;clear Ta;go_wp2_with fail
 refine ⟨rfl,?_⟩
 have k18:=HT.out.cell 0 0 rfl 18;have fk18:=HT.out.free 0 0 rfl 18;simp only [Qj,GE3] at k18;go_wp2_with (go_at_call 229;refine (zq _ _ HTB.out.1 HTB.out.2).mono ?_;rintro e w' ⟨rfl,rfl⟩)
 exact bodyPost_end (results_none rfl _ _ _) rfl ⟨_,⟨rfl,g2,by rw [HE.out.1];exact HX2.out,rfl⟩,(HT.out.set 0 0 rfl 18 _).eq (by rw [HE.out.2];rfl)⟩
theorem qe7 (hx:Qh L x g) (ho:qas x) (h0:0≤k.id) (h9:k.id<18446744073709551616):Qa prog 187 #[Qd kb] [Qm kb L.fb pv rv tv k,g] fun r gs =>
 r=.returned (.int .i64 (lookW k x.slab).2)∧∃ g',Qh L x g'∧gs=[Qm kb L.fb pv rv tv (lookW k x.slab).1,g']:=by
 have HSL:=Vh (show ∀ g',Qh L x g'→_ from fun g' hx'=>qja (g:=g') hx' ho.slab.n1 k.id h0 h9);by_cases h1:x.slab.serr k.id≠0
 ·have HE:=Vh (show lookW k x.slab=(k,x.slab.serr k.id) from if_pos h1)
  have hb:(x.slab.serr k.id != 0)=true:=bne_iff_ne.2 h1;have HX:=Vh hx;refine GO fun w HT=>?_
  obtain ⟨k0,k15⟩:=Ce2 (HT.out.cell 0 0 rfl) 0 15;simp only [Qj,GE3] at k0 k15;clear hx ho h0 h9 h1;go_enter func187,ntmps187
  go_wp2
  refine Qc 9 (by kernel_rfl) (by kernel_rfl) ?_
  simp only [TD4]
  repeat (go_big_quiet_step ((first | (go_at_call 19;with_reducible exact Qi.quiet (Qq HX.out) HT.out _ [1] rfl rfl))))
  refine wpQuiet_nil (QE fun nq=>?_)
  have HT:=Vh (HT.out.drewN nq);go_wp2_with fail
  refine (Qa.use (HSL.out _ HX.out) (HT.out) [1] rfl rfl).mono ?_
  rintro e w1 ⟨gs,⟨rfl,g1,hx1,rfl⟩,Ta⟩;simp only [PU] at Ta;have HX:=Vh hx1;clear hx1 k0 k15;have HT:=Vh Ta;clear Ta;go_wp2_with fail
  refine ⟨rfl,?_⟩
  go_wp2
  go_ret
  exact ⟨_,⟨by rw [HE.out];rfl,g1,HX.out,rfl⟩,HT.out.eq (by rw [HE.out])⟩
 ·have h1:x.slab.serr k.id=0:=by omega
  have HS0:=Vh h1;obtain ⟨sl,hsl⟩:∃ sl,x.slab.slot k.id=sl:=⟨_,rfl⟩;have HSL0:=Vh hsl;have HWD:=Vh (show ∀ g',Qh L x g'→_ from fun g' hx'=>qfd (g:=g') hx' ho.slab.n1 sl);have HMI:=Vh (show ∀ g',Qh L x g'→_ from fun g' hx'=>qjb (g:=g') hx' ho.slab.n1 k.id h0 h9);have HPE:=Vh (show ∀ g',Qh L x g'→_ from fun g' hx'=>qi (g:=g') hx' ho.slab.n1 sl);have HWB:=Vh (qds ho.slab sl);rw [h1,hsl] at HSL;have HX:=Vh hx;cases hm:x.slab.mine k.id with
  | false =>
    have HE:=Vh (show lookW k x.slab=({ k with slot:=sl,saw:=x.slab.word sl },7) from by unfold lookW;rw [if_neg (by rw [h1];simp),if_pos hm,hsl]);rw [hm] at HMI;refine GO fun w HT=>?_
    obtain ⟨k0,k15⟩:=Ce2 (HT.out.cell 0 0 rfl) 0 15;simp only [Qj,GE3] at k0 k15;clear hx ho h0 h9 h1 hsl hm;go_enter func187,ntmps187
    go_wp2
    refine Qc 9 (by kernel_rfl) (by kernel_rfl) ?_
    simp only [TD4]
    repeat (go_big_quiet_step ((first | (go_at_call 19;with_reducible exact Qi.quiet (Qq HX.out) HT.out _ [1] rfl rfl))))
    refine wpQuiet_nil (QE fun nq=>?_)
    have HT:=Vh (HT.out.drewN nq);go_wp2_with fail
    refine (Qa.use (HSL.out _ HX.out) (HT.out) [1] rfl rfl).mono ?_
    rintro e w1 ⟨gs,⟨rfl,g1,hx1,rfl⟩,Ta⟩;simp only [PU] at Ta;have HX:=Vh hx1;clear hx1 k0 k15;have HT:=Vh Ta;clear Ta;go_wp2_with fail
    refine ⟨rfl,?_⟩
    obtain ⟨k0,k16⟩:=Ce2 (HT.out.cell 0 0 rfl) 0 16;have fk16:=HT.out.free 0 0 rfl 16;simp only [Qj,GE3] at k0 k16;go_wp2_with fail
    have HT:=Vh (HT.out.set 0 0 rfl 16 (.int .i64 sl));go_wp2_with fail
    refine (Qi.use (Qq HX.out) (HT.out) [1] rfl rfl).mono ?_
    rintro e w1 ⟨rfl,mq,rfl⟩;have HT:=Vh (HT.out.drewN mq);go_wp2_with fail
    refine (Qa.use (HWD.out _ HX.out) (HT.out) [1] rfl rfl).mono ?_
    rintro e w1 ⟨gs,⟨rfl,g2,hx2,rfl⟩,Ta⟩;simp only [PU] at Ta;have HX:=Vh hx2;clear hx2 k0 k16 fk16;have HT:=Vh Ta;clear Ta;obtain ⟨k0,k15,k17⟩:=Ce3 (HT.out.cell 0 0 rfl) 0 15 17;have fk17:=HT.out.free 0 0 rfl 17;simp only [Qj,GE3] at k0 k15 k17;go_wp2
    have HT:=Vh (HT.out.set 0 0 rfl 17 (.int .u64 (x.slab.word sl)));refine Qc 9 (by kernel_rfl) (by kernel_rfl) ?_
    simp only [TD4]
    repeat (go_big_quiet_step ((first | (go_at_call 19;with_reducible exact Qi.quiet (Qq HX.out) HT.out _ [1] rfl rfl))))
    refine wpQuiet_nil (QE fun nq=>?_)
    have HT:=Vh (HT.out.drewN nq);go_wp2_with fail
    refine (Qa.use (HMI.out _ HX.out) (HT.out) [1] rfl rfl).mono ?_
    rintro e w1 ⟨gs,⟨rfl,g3,hx3,rfl⟩,Ta⟩;simp only [PU] at Ta;have HX:=Vh hx3;clear hx3 k0 k15 k17 fk17;have HT:=Vh Ta;clear Ta;go_wp2_with fail
    refine ⟨rfl,?_⟩
    go_wp2
    go_ret
    exact ⟨_,⟨by rw [HE.out];rfl,g3,HX.out,rfl⟩,HT.out.eq (by rw [HE.out];rfl)⟩
  | true =>
    have HE:=Vh (show lookW k x.slab=({ k with slot:=sl,saw:=x.slab.word sl },(Qs (x.slab.word sl) k.event (decide (0<x.slab.period sl))).2) from by unfold lookW;rw [if_neg (by rw [h1];simp),if_neg (by rw [hm];simp),hsl]);rw [hm] at HMI;refine GO fun w HT=>?_
    obtain ⟨k0,k15⟩:=Ce2 (HT.out.cell 0 0 rfl) 0 15;simp only [Qj,GE3] at k0 k15;clear hx ho h0 h9 h1 hsl hm;go_enter func187,ntmps187
    go_wp2
    refine Qc 9 (by kernel_rfl) (by kernel_rfl) ?_
    simp only [TD4]
    repeat (go_big_quiet_step ((first | (go_at_call 19;with_reducible exact Qi.quiet (Qq HX.out) HT.out _ [1] rfl rfl))))
    refine wpQuiet_nil (QE fun nq=>?_)
    have HT:=Vh (HT.out.drewN nq);go_wp2_with fail
    refine (Qa.use (HSL.out _ HX.out) (HT.out) [1] rfl rfl).mono ?_
    rintro e w1 ⟨gs,⟨rfl,g1,hx1,rfl⟩,Ta⟩;simp only [PU] at Ta;have HX:=Vh hx1;clear hx1 k0 k15;have HT:=Vh Ta;clear Ta;go_wp2_with fail
    refine ⟨rfl,?_⟩
    obtain ⟨k0,k16⟩:=Ce2 (HT.out.cell 0 0 rfl) 0 16;have fk16:=HT.out.free 0 0 rfl 16;simp only [Qj,GE3] at k0 k16;go_wp2_with fail
    have HT:=Vh (HT.out.set 0 0 rfl 16 (.int .i64 sl));go_wp2_with fail
    refine (Qi.use (Qq HX.out) (HT.out) [1] rfl rfl).mono ?_
    rintro e w1 ⟨rfl,mq,rfl⟩;have HT:=Vh (HT.out.drewN mq);go_wp2_with fail
    refine (Qa.use (HWD.out _ HX.out) (HT.out) [1] rfl rfl).mono ?_
    rintro e w1 ⟨gs,⟨rfl,g2,hx2,rfl⟩,Ta⟩;simp only [PU] at Ta;have HX:=Vh hx2;clear hx2 k0 k16 fk16;have HT:=Vh Ta;clear Ta;obtain ⟨k0,k15,k17⟩:=Ce3 (HT.out.cell 0 0 rfl) 0 15 17;have fk17:=HT.out.free 0 0 rfl 17;simp only [Qj,GE3] at k0 k15 k17;go_wp2
    have HT:=Vh (HT.out.set 0 0 rfl 17 (.int .u64 (x.slab.word sl)));refine Qc 9 (by kernel_rfl) (by kernel_rfl) ?_
    simp only [TD4]
    repeat (go_big_quiet_step ((first | (go_at_call 19;with_reducible exact Qi.quiet (Qq HX.out) HT.out _ [1] rfl rfl))))
    refine wpQuiet_nil (QE fun nq=>?_)
    have HT:=Vh (HT.out.drewN nq);go_wp2_with fail
    refine (Qa.use (HMI.out _ HX.out) (HT.out) [1] rfl rfl).mono ?_
    rintro e w1 ⟨gs,⟨rfl,g3,hx3,rfl⟩,Ta⟩;simp only [PU] at Ta;have HX:=Vh hx3;clear hx3 k0 k15 k17 fk17;have HT:=Vh Ta;clear Ta;go_wp2_with fail
    refine ⟨rfl,?_⟩
    have HT:=Vh (HT.out.eq (H':=[Qm kb L.fb pv rv tv { k with slot:=sl,saw:=x.slab.word sl },g3]) rfl);obtain ⟨k0,k17⟩:=Ce2 (HT.out.cell 0 0 rfl) 0 17;simp only [Qj,GE3] at k0 k17;go_wp2
    go_quiet ((first | (go_at_call 19;with_reducible exact Qi.quiet (Qq HX.out) HT.out _ [1] rfl rfl) | (go_at_call 226;with_reducible exact Qi.quiet (Zq (L:=L)) HT.out _ [0] rfl rfl) | (go_at_call 227;with_reducible exact Qi.quiet (HPE.out _ HX.out) HT.out _ [1] rfl rfl) | (go_at_call 225;with_reducible exact Qi.quiet (qlr _ _ _ HWB.out.1 HWB.out.2.1) HT.out _ [] rfl rfl)))
    have HT:=Vh (HT.out.drewN nq);go_wp2
    go_ret
    exact ⟨_,⟨by rw [HE.out];rfl,g3,HX.out,rfl⟩,HT.out.eq (by rw [HE.out])⟩
end
inductive MC where
 | right | enter | gate | asks | queues | submits | fills | looks | again | tries | ends | leaves
inductive AC where
 | ends1 | leaves1 | undo | drop | tries1 | again1
abbrev SC:Type:=St MC AC Empty
abbrev ZC:Type:=Ql × Qk
def Xj:SC:=.thn (.row1 .leaves1) .ends
def Q2 (k:Ql):SC:=if k.kind=4∨k.kind=5 then .row1 .ends1 else Xj
def Qf (e:Int) (z:ZC):ZC:=(X1 e z.1,Yj z.1 { ev0 with kind:=9,err:=e } z.2)
def okC (k:Ql):Ql:={ k with err:=0,ok:=true,aid:=k.id,agen:=k.gen }
def Xh (v:Qn) (z:ZC):ZC :=
 match z.1.tk with
 | none=>z
 | some (i,t)=>match z.2.shs[i]? with
   | none=>z
   | some s=>({ z.1 with tk:=some (i,(Xi s.ring t v).2.1) },{ z.2 with shs:=z.2.shs.set i { s with ring:=(Xi s.ring t v).1 } })
def Zk (slot:Int) (x:Qk):Nat:=(slot % (x.shs.length:Int)).toNat
def qdm (k:Ql):Prop:=k.kind=2∧(k.cper=0∨18446744073709551616≤k.cdl+k.cper)
instance (k:Ql):Decidable (qdm k):=by unfold qdm;infer_instance
def Ja (ev:Int) (z:ZC):ZC:=(qg ev z.1 z.2.slab,{ z.2 with slab:=(Z9 z.1.slot ev z.2.slab).1 })
def Xc (z:ZC):ZC × Int:=(({ z.1 with gen:=X0 (z.2.slab.try z.1.slot z.1.saw z.1.event).2.1 },{ z.2 with slab:=(z.2.slab.try z.1.slot z.1.saw z.1.event).1 }),(z.2.slab.try z.1.slot z.1.saw z.1.event).2.2)
def Qp (z:ZC):ZC × Int:=(((lookW z.1 z.2.slab).1,z.2),(lookW z.1 z.2.slab).2)
def Ze (z:ZC):Qn:=⟨z.1.id,z.1.slot,z.1.gen,z.1.cdl,z.2.slab.period z.1.slot⟩
def Zi (E:EvS) (z:ZC):ZC:=(z.1,Yj z.1 E z.2)
def Zp (z:ZC) (q:Req):SC × ZC :=
 let r:=Q3 z.2.slab q
 let x':={ z.2 with slab:=r.1 }
 if r.2.st=1 then (Xj,Qf 2 ({ z.1 with rq:=some r.2 },x'))
 else if r.2.st=2 then (.at none .queues,({ z.1 with rq:=some r.2,id:=r.2.id,slot:=r.2.id % 64,tk:=some (Zk (r.2.id % 64) z.2,Qx) },x'))
 else (.at none .asks,({ z.1 with rq:=some r.2 },x'))
def Q8 (z:ZC) (i:Nat) (t:Q4) (s:Qy):SC × ZC :=
 let r:=stepT s.ring t
 let z':ZC:=({ z.1 with tk:=some (i,r.2) },{ z.2 with shs:=z.2.shs.set i { s with ring:=r.1 } })
 if r.2.status=0 then (.at none .queues,z')
 else if r.2.status=1∧z.1.kind=3 then (Xj,Qf 2 z')
 else if r.2.status=1 then (.thn (.row2 .undo .drop) .leaves,z')
 else if z.1.kind=3 then (.at none .again,z')
 else (.at none .submits,z')
def Xq:MC→ZC→SC × ZC
 | .ends,z=>(.row1 .ends1,z)
 | .leaves,z=>(Xj,z)
 | .right,z=>if qdm z.1 then (.row1 .ends1,Qf 1 z) else (.at none .enter,z)
 | .enter,z=>(.at none .gate,(z.1,{ z.2 with f:={ z.2.f with inside:=z.2.f.inside+1 } }))
 | .gate,z=>if z.2.f.closed=true then (Q2 z.1,Qf 3 z)
    else if z.1.kind=1∨z.1.kind=2 then (.at none .asks,({ z.1 with rq:=some ⟨z.1.period,0,0,0,0,0⟩ },z.2))
    else (.at none .looks,z)
 | .asks,z=>match z.1.rq with
   | none=>(.nil,z)
   | some q=>Zp z q
 | .queues,z=>match z.1.tk with
   | none=>(.nil,z)
   | some (i,t)=>match z.2.shs[i]? with
     | none=>(.nil,z)
     | some s=>Q8 z i t s
 | .submits,z=>(.at none .fills,Zi { ev0 with kind:=3,id:=(Ja 2 z).1.id,gen:=(Ja 2 z).1.gen,dl:=(Ja 2 z).1.cdl,per:=(Ja 2 z).1.period } (Ja 2 z))
 | .fills,z=>(Xj,(okC (Xh (Ze z) z).1,(Xh (Ze z) z).2))
 | .looks,z =>
   if (Qp z).2=0 then
    (if z.1.kind=3 then (.at none .queues,({ (Qp z).1.1 with tk:=some (Zk (Qp z).1.1.slot z.2,Qx) },z.2)) else (.at none .tries,(Qp z).1))
   else if (Qp z).2=1 then (Q2 z.1,Qf 1 (Qp z).1)
   else (Q2 z.1,Qf 0 (Qp z).1)
 | .again,z=>if (Qp z).2=0 then (.at none .tries,(Qp z).1) else (.thn (.row1 .again1) .leaves,Qf 0 (Qp z).1)
 | .tries,z =>
   if (Xc z).2≠0 then (if z.1.kind=3 then (.at none .again,(Xc z).1) else (.at none .looks,(Xc z).1))
   else if z.1.kind=3 then (.at none .fills,Zi { ev0 with kind:=6,id:=z.1.id,gen:=(Xc z).1.1.gen,dl:=z.1.cdl } (okC (Xc z).1.1,(Xc z).1.2))
   else if z.1.kind=5 then (.row1 .ends1,Zi { ev0 with kind:=8,id:=z.1.id,gen:=(Xc z).1.1.gen } (okC (Xc z).1.1,(Xc z).1.2))
   else (.thn (.row2 .tries1 .drop) .ends,Zi { ev0 with kind:=7,id:=z.1.id,gen:=(Xc z).1.1.gen } (okC (Xc z).1.1,(Xc z).1.2))
def runA:AC→ZC→ZC
 | .ends1,z=>Zi { ev0 with kind:=2,id:=z.1.aid,gen:=z.1.agen,err:=z.1.err } z
 | .leaves1,z=>(z.1,{ z.2 with f:={ z.2.f with inside:=Yr z.2.f.inside } })
 | .undo,z=>Qf 2 (Ja 9 z)
 | .drop,z=>(z.1,{ z.2 with slab:=z.2.slab.drop.1 })
 | .tries1,z=>Ja 10 z
 | .again1,z=>Xh { Qn.zero with slot:=-1 } z
structure qe0 (k:Ql) (x:Qk):Prop where
 c0:0≤k.cdl∧k.cdl<18446744073709551616
 c1:0≤k.cper∧k.cper<18446744073709551616
 id:0≤k.id∧k.id<18446744073709551616
 slot:0≤k.slot
 saw:0≤k.saw∧k.saw<18446744073709551616∧okW k.saw=true
 rq:∀ q,k.rq=some q→qbi x.slab.recs.length q
 tk:∀ i t,k.tk=some (i,t)→zg t∧i<x.shs.length
def qr (f:MC) (z:ZC):Prop:=qas z.2∧qe0 z.1 z.2∧(match f with
 | .asks=>z.1.rq.isSome=true∧∀ q,z.1.rq=some q→q.st=0
 | .queues | .fills=>z.1.tk.isSome=true
 | _=>True)
def qc2 (f:AC) (z:ZC):Prop:=qas z.2∧qe0 z.1 z.2∧(match f with
 | .again1=>z.1.tk.isSome=true
 | _=>True)
def qj0 (sb:Nat):Option Req→Value→List Blk→Prop
 | none,v,g=>v=.pointer none∧g=[]
 | some q,v,g=>∃ qb,v=Qd qb∧g=qm qb sb q
def qj5 (L:Lay):Option (Nat × Q4)→Value→List Blk→Prop
 | none,v,g=>v=.pointer none∧g=[]
 | some (i,t),v,g=>∃ tb q,L.qs[i]?=some q∧v=Qd tb∧g=Qv tb q.rb t
def q9 (L:Lay) (kb:Nat) (pv:Value) (k:Ql) (x:Qk) (gK gF:List Blk):Prop :=
 ∃ rv tv gq gt,qj0 L.p.sb k.rq rv gq∧qj5 L k.tk tv gt∧gK=Qm kb L.fb pv rv tv k++(gq++gt)∧Qh L x gF
def repC (L:Lay) (kb:Nat) (pv:Value) (z:ZC) (gK gF:List Blk):Prop:=q9 L kb pv z.1 z.2 gK gF
def fnMC:MC→FuncId
 | .right=>81
 | .enter=>82
 | .gate=>83
 | .asks=>143
 | .queues=>186
 | .submits=>222
 | .fills=>230
 | .looks=>144
 | .again=>221
 | .tries=>188
 | .ends=>138
 | .leaves=>181
def VMC (kb:Nat) (f:MC) (v:Value) (g:List Blk):Prop:=v=.func (.func (fnMC f)) #[Qd kb] #[]∧g=[]
def clo (kb:Nat) (fn:FuncId) (v:Value) (g:List Blk):Prop:=∃ bk,v=.func (.func fn) #[] #[Qd bk]∧g=[cl bk 33 #[Qd kb]]
def VAC (kb:Nat):AC→Value→List Blk→Prop
 | .ends1,v,g=>clo kb 179 v g
 | .leaves1,v,g=>clo kb 212 v g
 | .undo,v,g=>v=.func (.func 219) #[Qd kb] #[]∧g=[]
 | .drop,v,g=>v=.func (.func 220) #[Qd kb] #[]∧g=[]
 | .tries1,v,g=>clo kb 231 v g
 | .again1,v,g=>clo kb 255 v g
def qdc (L:Lay) (kb:Nat) (pv:Value):Cli :=
 ⟨MC,AC,Empty,ZC,repC L kb pv,VMC kb,VAC kb,fun _ _ _=>False,Xq,runA,(fun y _=>y.elim),qr,qc2,fun _ _=>True⟩
def MR (L:Lay) (kb:Nat) (pv:Value) (s:SC) (k:Ql) (x:Qk) (e:Ending) (gs:GH):Prop :=
 ∃ m d g' gK' gF',e=.returned (.agg #[m,d])∧(qdc L kb pv).SV s m d g'∧q9 L kb pv k x gK' gF'∧gs=[g',gK',gF']
section
variable {L:Lay} {x:Qk} {gK gF:List Blk} {kb:Nat} {pv:Value} {k:Ql}
theorem qln (hz:q9 L kb pv k x gK gF) (hp:qr .enter (k,x)):Qa prog 82 #[Qd kb] [gK,gF] (MR L kb pv (.at none .gate) k { x with f:={ x.f with inside:=x.f.inside+1 } }):=by
 have hi0:=hp.1.i0;have hi1:=hp.1.i1;obtain ⟨rv,tv,gq,gt,hr,ht,rfl,hx⟩:=hz;refine GO fun w HT=>?_
 have HT:=Vh (HT.out.sum (H':=[Qm kb L.fb pv rv tv k,gq,gt,gF]));have HX:=Vh hx;have HR:=Vh hr;have HTK:=Vh ht;clear hx hr ht;have k0:=HT.out.cell 0 0 rfl 0;simp only [Qj,GE3] at k0;have lt:=HT.out.lt 0 0 rfl;simp only [] at lt;have HE:=Vh (qhb HX.out ⟨hi0,hi1⟩);clear hp hi0 hi1;go_enter func82,ntmps82
 go_wp2_with fail
 refine (Qa.use (HE.out) (HT.out.alloc (k:=w.heap.size) rfl _ _) [3] rfl rfl).mono ?_
 rintro e w1 ⟨gs,⟨rfl,g1,hx1,rfl⟩,Ta⟩;simp only [PU] at Ta;have HX:=Vh hx1;clear hx1 k0 lt;have HT:=Vh Ta;clear Ta;go_wp2_with fail
 refine Qa.run (Q7) (HT.out) [] ?_
 rintro e w1 gs ⟨rfl,rfl⟩ HT;simp only [PU] at HT;obtain ⟨e0,e1⟩:=Ce2 (HT.out.cell 4 0 rfl) 0 1;obtain ⟨fe0,fe1⟩:=Ce2 (HT.out.free 4 0 rfl) 0 1;simp only [GE4] at e0 e1;go_wp2
 exact bodyPost_ret (v:=.agg #[.nilFunc,.func (.func 83) #[Qd kb] #[]]) (by simp [results,results82,go_sem,e0,e1]) rfl ⟨_,⟨_,_,[],_,_,rfl,⟨rfl,rfl,rfl⟩,⟨_,_,gq,gt,HR.out,HTK.out,rfl,HX.out⟩,rfl⟩,(((HT.out.set 4 0 rfl 0 _).set 4 0 rfl 1 _).pick [0,1,2,3] rfl).sum⟩
theorem Qt (L:Lay) (kb:Nat) (pv:Value):(qdc L kb pv).Vals where
 vm h:=⟨_,_,_,h.1⟩
 va {f v g} h:=by
  cases f
  case undo=>exact ⟨_,_,_,h.1⟩
  case drop=>exact ⟨_,_,_,h.1⟩
  all_goals (obtain ⟨bk,h,_⟩:=h;exact ⟨_,_,_,h⟩)
 vy h:=h.elim
def SR (L:Lay) (kb:Nat) (pv:Value) (s:SC) (e:Ending) (gs:GH):Prop:=∃ m d g',e=.returned (.agg #[m,d])∧(qdc L kb pv).SV s m d g'∧gs=[g']
end
section
variable {L:Lay} {x:Qk} {gK gF:List Blk} {kb:Nat} {pv:Value} {k:Ql}
theorem qgn (L:Lay) (kb:Nat) (pv:Value):Qa prog 138 #[Qd kb] [] (SR L kb pv (.row1 .ends1)):=by
 refine GO fun w HT=>?_
 go_enter func138,ntmps138
 go_wp2_with fail
 refine Qa.run (Cli.row_1 (b:=w.heap.size+1+1) (o:=0) (D:=#[.func (.func 179) #[] #[Qd w.heap.size]]) rfl 1 (.inl rfl)) (((HT.out.alloc (k:=w.heap.size) rfl _ _).alloc (k:=w.heap.size+1) (by simp) _ _).alloc (k:=w.heap.size+1+1) (by simp) _ _) [2] ?_
 rintro e w1 gs ⟨bf,bl,bi,rfl,rfl⟩ HT;simp only [PU] at HT;obtain ⟨e0,e1⟩:=Ce2 (HT.out.cell 1 0 rfl) 0 1;obtain ⟨fe0,fe1⟩:=Ce2 (HT.out.free 1 0 rfl) 0 1;simp only [GE4] at e0 e1;go_wp2
 exact bodyPost_ret (v:=.agg #[.nilFunc,_]) (by simp [results,results138,go_sem,e0,e1]) rfl ⟨_,⟨_,_,_,rfl,⟨rfl,bf,bl,bi,w.heap.size+1+1,0,#[.func (.func 179) #[] #[Qd w.heap.size]],_,_,rfl,⟨w.heap.size,rfl,rfl⟩,rfl,rfl⟩,rfl⟩,(((HT.out.set 1 0 rfl 0 _).set 1 0 rfl 1 _).pick [0,2,3,4,5] rfl).sum⟩
theorem zt (L:Lay) (kb:Nat) (pv:Value):Qa prog 181 #[Qd kb] [] (SR L kb pv Xj):=by
 have hrow:∀ (bk b bf bl bi:Nat),(qdc L kb pv).SV (.row1 .leaves1) .nilFunc (.func (.func 209) #[] #[Qd bf,Qd bl,Qd bi])
  ([cl bf 1 #[.func (.func 212) #[] #[Qd bk]],cl bl 322 #[.slice (some ⟨b,0,none⟩) 1 1],cl bi 3 #[.int .i64 0],cl b 1 #[.func (.func 212) #[] #[Qd bk]]]++[cl bk 33 #[Qd kb]]) :=
  fun bk b bf bl bi=>⟨rfl,bf,bl,bi,b,0,_,_,_,rfl,⟨bk,rfl,rfl⟩,rfl,rfl⟩
 have hthen:∀ (bk b bf bl bi:Nat),_:=fun bk b bf bl bi=>Cli.prog_then_cons (f:=MC.ends) (v:=.func (.func 138) #[Qd kb] #[]) (gm:=[]) (Qt L kb pv) rfl (hrow bk b bf bl bi) ⟨rfl,rfl⟩
 refine GO fun w HT=>?_
 have HTH:=Vh hthen;clear hrow hthen;go_enter func181,ntmps181
 go_wp2_with fail
 have HT:=Vh ((HT.out.alloc (k:=w.heap.size) rfl 33 #[Qd kb]).alloc (k:=w.heap.size+1) (by simp) 153 #[.nilFunc,.nilFunc])
 go_region_with (first
  | (go_at_call 178
     refine (Qa.use (Cli.row_1 (b:=w.heap.size+1+1) (o:=0) (D:=#[.func (.func 212) #[] #[Qd w.heap.size]]) rfl 1 (.inl rfl)) (HT.out.drew.alloc (k:=w.heap.size+1+1) (by simp) _ _) [2] rfl rfl).mono ?_
     rintro e w1 ⟨gs,⟨bf,bl,bi,rfl,rfl⟩,Ta⟩;simp only [PU] at Ta;have b0:=Ta.cell 0 0 rfl 0;simp only [GE2] at b0;have HT1:=Vh (Ta.sum (H':=[[cl bf 1 #[.func (.func 212) #[] #[Qd w.heap.size]],cl bl 322 #[.slice (some ⟨w.heap.size+1+1,0,none⟩) 1 1],cl bi 3 #[.int .i64 0],cl (w.heap.size+1+1) 1 #[.func (.func 212) #[] #[Qd w.heap.size]]]++[cl w.heap.size 33 #[Qd kb]],[cl (w.heap.size+1) 153 #[.nilFunc,.nilFunc]],[]]))
     clear Ta)
  | (go_at_call 196
     refine (Qa.use (HTH.out _ _ _ _ _) HT1.out [0,2] rfl rfl).mono ?_
     rintro e w2 ⟨gs,⟨m2,d2,g2,rfl,hs2,rfl⟩,Ta⟩;simp only [PU] at Ta;obtain ⟨e0,e1⟩:=Ce2 (Ta.cell 1 0 rfl) 0 1;obtain ⟨f0,f1⟩:=Ce2 (Ta.free 1 0 rfl) 0 1;have hv2:=(Qt L kb pv).vals hs2;obtain ⟨st1,st2⟩:=Cli.store_fv2 (P:=prog) hv2.1 hv2.2 e0 f0 e1 f1;clear hv2;have HS2:=Vh hs2;have HT2:=Vh Ta
     clear Ta hs2))
 all_goals
  go_wp2
  exact bodyPost_ret (v:=.agg #[_,_]) (by simp [results,results181,go_sem,e0,e1]) rfl ⟨_,⟨m2,d2,g2,rfl,HS2.out,rfl⟩,((HT2.out.set 1 0 rfl 0 _).set 1 0 rfl 1 _).pick [0] rfl⟩
end
section
variable {L:Lay} {x:Qk} {gK gF:List Blk} {kb:Nat} {pv:Value} {k:Ql}
theorem zb (x y:Int) (hx:0≤x) (hy:0≤y) (h:x+y<18446744073709551616):Qi prog 136 #[.int .u64 x,.int .u64 y] [] (.tuple #[.int .u64 (x+y),.int .i64 0]):=by
 intro w hw
 have ha:∀ w,(callFunc 177 #[.int .u64 x,.int .u64 y,.int .u64 0]).run prog w=.ok (.value (.tuple #[.int .u64 (x+y),.int .u64 0])) w:=fun w=>by
  rw [qc6 x y hx hy w,show (x+y+0) % 18446744073709551616=x+y by omega,show (x+y+0) / 18446744073709551616=0 by omega]
 clear h hx hy hw;go_enter func136,ntmps136
 go_wp2_with (simp only [ha])
 go_ret2
 exact ⟨rfl,0,rfl⟩
theorem qcq (x y:Int) (hx:0≤x) (hy:0≤y) (hx1:x<18446744073709551616) (hy1:y<18446744073709551616) (h:18446744073709551616≤x+y):Qi prog 136 #[.int .u64 x,.int .u64 y] [] (.tuple #[.int .u64 0,.int .i64 9]):=by
 intro w hw;obtain ⟨z,hz⟩:∃ z,(x+y+0) % 18446744073709551616=z:=⟨_,rfl⟩
 have ha:∀ w,(callFunc 177 #[.int .u64 x,.int .u64 y,.int .u64 0]).run prog w=.ok (.value (.tuple #[.int .u64 z,.int .u64 1])) w:=fun w=>by
  rw [qc6 x y hx hy w,hz,show (x+y+0) / 18446744073709551616=1 by omega]
 clear h hx hy hw hx1 hy1 hz;go_enter func136,ntmps136
 go_wp2_with (simp only [ha])
 go_ret2
 exact ⟨rfl,0,rfl⟩
theorem qk6 {rv tv:Value}:Qa prog 140 #[Qd kb] [Qm kb L.fb pv rv tv k] fun e gs=>∃ m d g',e=.returned (.agg #[m,d])∧(qdc L kb pv).SV (Q2 k) m d g'∧gs=[Qm kb L.fb pv rv tv k,g']:=by
 by_cases h4:k.kind=4
 ·have HO:Q2 k=.row1 .ends1:=if_pos (.inl h4)
  rw [HO];refine GO fun w HT=>?_
  have k3:=HT.out.cell 0 0 rfl 3;simp only [Qj,GE3] at k3;rw [h4] at k3;have lt:=HT.out.lt 0 0 rfl;simp only [] at lt;clear h4 HO;go_enter func140,ntmps140
  go_wp2_with fail
  refine (Qa.use (qgn L kb pv) (HT.out.alloc (k:=w.heap.size) rfl _ _) [] rfl rfl).mono ?_
  rintro e w1 ⟨gs,⟨m2,d2,g2,rfl,hs2,rfl⟩,Ta⟩;simp only [PU] at Ta;have HT:=Vh Ta;clear Ta;obtain ⟨e0,e1⟩:=Ce2 (HT.out.cell 1 0 rfl) 0 1;obtain ⟨fe0,fe1⟩:=Ce2 (HT.out.free 1 0 rfl) 0 1;simp only [GE4] at e0 e1;have hv2:=(Qt L kb pv).vals hs2;obtain ⟨st1,st2⟩:=Cli.store_fv2 (P:=prog) hv2.1 hv2.2 e0 fe0 e1 fe1;have HS:=Vh hs2;clear hv2 hs2;go_wp2
  exact bodyPost_ret (v:=.agg #[_,_]) (by simp [results,results140,go_sem,e0,e1]) rfl ⟨_,⟨m2,d2,g2,rfl,HS.out,rfl⟩,((HT.out.set 1 0 rfl 0 _).set 1 0 rfl 1 _).pick [0,2] rfl⟩
 ·by_cases h5:k.kind=5
  ·have HO:Q2 k=.row1 .ends1:=if_pos (.inr h5)
   rw [HO];refine GO fun w HT=>?_
   have k3:=HT.out.cell 0 0 rfl 3;simp only [Qj,GE3] at k3;rw [h5] at k3;have lt:=HT.out.lt 0 0 rfl;simp only [] at lt;clear h4 h5 HO;go_enter func140,ntmps140
   go_wp2_with fail
   refine (Qa.use (qgn L kb pv) (HT.out.alloc (k:=w.heap.size) rfl _ _) [] rfl rfl).mono ?_
   rintro e w1 ⟨gs,⟨m2,d2,g2,rfl,hs2,rfl⟩,Ta⟩;simp only [PU] at Ta;have HT:=Vh Ta;clear Ta;obtain ⟨e0,e1⟩:=Ce2 (HT.out.cell 1 0 rfl) 0 1;obtain ⟨fe0,fe1⟩:=Ce2 (HT.out.free 1 0 rfl) 0 1;simp only [GE4] at e0 e1;have hv2:=(Qt L kb pv).vals hs2;obtain ⟨st1,st2⟩:=Cli.store_fv2 (P:=prog) hv2.1 hv2.2 e0 fe0 e1 fe1;have HS:=Vh hs2;clear hv2 hs2;go_wp2
   exact bodyPost_ret (v:=.agg #[_,_]) (by simp [results,results140,go_sem,e0,e1]) rfl ⟨_,⟨m2,d2,g2,rfl,HS.out,rfl⟩,((HT.out.set 1 0 rfl 0 _).set 1 0 rfl 1 _).pick [0,2] rfl⟩
  ·have HO:Q2 k=Xj:=if_neg (by omega)
   have hb4:(k.kind == 4)=false:=beq_eq_false_iff_ne.2 h4;have hb5:(k.kind == 5)=false:=beq_eq_false_iff_ne.2 h5;rw [HO];refine GO fun w HT=>?_
   have k3:=HT.out.cell 0 0 rfl 3;simp only [Qj,GE3] at k3;rw [(show k.kind=k.kind from rfl)] at k3;have lt:=HT.out.lt 0 0 rfl;simp only [] at lt;clear h4 h5 HO;go_enter func140,ntmps140
   go_wp2_with fail
   refine (Qa.use (zt L kb pv) (HT.out.alloc (k:=w.heap.size) rfl _ _) [] rfl rfl).mono ?_
   rintro e w1 ⟨gs,⟨m2,d2,g2,rfl,hs2,rfl⟩,Ta⟩;simp only [PU] at Ta;have HT:=Vh Ta;clear Ta;obtain ⟨e0,e1⟩:=Ce2 (HT.out.cell 1 0 rfl) 0 1;obtain ⟨fe0,fe1⟩:=Ce2 (HT.out.free 1 0 rfl) 0 1;simp only [GE4] at e0 e1;have hv2:=(Qt L kb pv).vals hs2;obtain ⟨st1,st2⟩:=Cli.store_fv2 (P:=prog) hv2.1 hv2.2 e0 fe0 e1 fe1;have HS:=Vh hs2;clear hv2 hs2;go_wp2
   exact bodyPost_ret (v:=.agg #[_,_]) (by simp [results,results140,go_sem,e0,e1]) rfl ⟨_,⟨m2,d2,g2,rfl,HS.out,rfl⟩,((HT.out.set 1 0 rfl 0 _).set 1 0 rfl 1 _).pick [0,2] rfl⟩
end
def MRz (L:Lay) (kb:Nat) (pv:Value) (r:SC × ZC):Ending→GH→Prop:=MR L kb pv r.1 r.2.1 r.2.2
section
variable {L:Lay} {x:Qk} {gK gF:List Blk} {kb:Nat} {pv:Value} {k:Ql}
theorem ql1 (hz:q9 L kb pv k x gK gF) (hp:qr .right (k,x)):Qa prog 81 #[Qd kb] [gK,gF] (MRz L kb pv (Xq .right (k,x))):=by
 have HLN:=Vh hp.1.tr;obtain ⟨d0,d1⟩:=hp.2.1.c0;obtain ⟨q0,q1⟩:=hp.2.1.c1;simp only at d0 d1 q0 q1 HLN;by_cases h2:k.kind=2
 ·by_cases h0:k.cper=0
  ·have HZ:Xq .right (k,x)=(.row1 .ends1,Qf 1 (k,x)):=if_pos ⟨h2,.inl h0⟩
   have HA:=Vh (zb k.cdl k.cper d0 q0 (by omega));have H0:=Vh h0;clear d0 d1 q0 q1 h0;rw [HZ];unfold MRz;dsimp only [Qf]
   clear HZ hp;obtain ⟨rv,tv,gq,gt,hr,ht,rfl,hx⟩:=hz;refine GO fun w HT=>?_
   have HT:=Vh (HT.out.sum (H':=[Qm kb L.fb pv rv tv k,gq,gt,gF]));have HX:=Vh hx;have HR:=Vh hr;have HTK:=Vh ht;clear hx hr ht;obtain ⟨k3,k5,k6⟩:=Ce3 (HT.out.cell 0 0 rfl) 3 5 6;simp only [Qj,GE3] at k3 k5 k6;rw [h2] at k3;have lt:=HT.out.lt 0 0 rfl;simp only [] at lt;clear h2;go_enter func81,ntmps81
   go_wp2
   have HT:=Vh (HT.out.alloc (k:=w.heap.size) rfl 153 #[.nilFunc,.nilFunc]);go_quiet ((first | (go_at_call 136;with_reducible exact Qi.quiet (HA.out) HT.out _ [] rfl rfl)))
   have HT:=Vh (HT.out.drewN nq);clear k3 k5 k6 lt;have k6:=HT.out.cell 0 0 rfl 6;simp only [Qj,GE3] at k6;rw [H0.out] at k6;go_wp2_with fail
   refine (Qa.use (Xu HX.out 1 HLN.out) (HT.out) [0,3] rfl rfl).mono ?_
   rintro e w1 ⟨gs,⟨rfl,g1,hx1,rfl⟩,Ta⟩;simp only [PU] at Ta;have HX:=Vh hx1;clear hx1;have HT:=Vh Ta;clear Ta;go_wp2_with fail
   refine Qa.run (qgn L kb pv) (HT.out) [] ?_
   rintro e w1 gs ⟨m2,d2,g2,rfl,hs2,rfl⟩ HT;simp only [PU] at HT;obtain ⟨e0,e1⟩:=Ce2 (HT.out.cell 4 0 rfl) 0 1;obtain ⟨fe0,fe1⟩:=Ce2 (HT.out.free 4 0 rfl) 0 1;simp only [GE4] at e0 e1;have hv2:=(Qt L kb pv).vals hs2;obtain ⟨st1,st2⟩:=Cli.store_fv2 (P:=prog) hv2.1 hv2.2 e0 fe0 e1 fe1;have HS:=Vh hs2;clear hv2 hs2;go_wp2
   exact bodyPost_ret (v:=.agg #[_,_]) (by simp [results,results81,go_sem,e0,e1]) rfl ⟨_,⟨m2,d2,g2,_,_,rfl,HS.out,⟨_,_,gq,gt,HR.out,HTK.out,rfl,HX.out⟩,rfl⟩,(((HT.out.set 4 0 rfl 0 _).set 4 0 rfl 1 _).pick [0,1,2,3,5] rfl).sum⟩
  ·by_cases h9:18446744073709551616≤k.cdl+k.cper
   ·have HZ:Xq .right (k,x)=(.row1 .ends1,Qf 1 (k,x)):=if_pos ⟨h2,.inr h9⟩
    have HA:=Vh (qcq k.cdl k.cper d0 q0 d1 q1 h9);have hb:(k.cper == 0)=false:=beq_eq_false_iff_ne.2 h0;clear d0 d1 q0 q1 h0 h9;rw [HZ];unfold MRz;dsimp only [Qf]
    clear HZ hp;obtain ⟨rv,tv,gq,gt,hr,ht,rfl,hx⟩:=hz;refine GO fun w HT=>?_
    have HT:=Vh (HT.out.sum (H':=[Qm kb L.fb pv rv tv k,gq,gt,gF]));have HX:=Vh hx;have HR:=Vh hr;have HTK:=Vh ht;clear hx hr ht;obtain ⟨k3,k5,k6⟩:=Ce3 (HT.out.cell 0 0 rfl) 3 5 6;simp only [Qj,GE3] at k3 k5 k6;rw [h2] at k3;have lt:=HT.out.lt 0 0 rfl;simp only [] at lt;clear h2;go_enter func81,ntmps81
    go_wp2
    have HT:=Vh (HT.out.alloc (k:=w.heap.size) rfl 153 #[.nilFunc,.nilFunc]);go_quiet ((first | (go_at_call 136;with_reducible exact Qi.quiet (HA.out) HT.out _ [] rfl rfl)))
    have HT:=Vh (HT.out.drewN nq);clear k3 k5 k6 lt;have k6:=HT.out.cell 0 0 rfl 6;simp only [Qj,GE3] at k6;skip
    go_wp2_with fail
    refine (Qa.use (Xu HX.out 1 HLN.out) (HT.out) [0,3] rfl rfl).mono ?_
    rintro e w1 ⟨gs,⟨rfl,g1,hx1,rfl⟩,Ta⟩;simp only [PU] at Ta;have HX:=Vh hx1;clear hx1;have HT:=Vh Ta;clear Ta;go_wp2_with fail
    refine Qa.run (qgn L kb pv) (HT.out) [] ?_
    rintro e w1 gs ⟨m2,d2,g2,rfl,hs2,rfl⟩ HT;simp only [PU] at HT;obtain ⟨e0,e1⟩:=Ce2 (HT.out.cell 4 0 rfl) 0 1;obtain ⟨fe0,fe1⟩:=Ce2 (HT.out.free 4 0 rfl) 0 1;simp only [GE4] at e0 e1;have hv2:=(Qt L kb pv).vals hs2;obtain ⟨st1,st2⟩:=Cli.store_fv2 (P:=prog) hv2.1 hv2.2 e0 fe0 e1 fe1;have HS:=Vh hs2;clear hv2 hs2;go_wp2
    exact bodyPost_ret (v:=.agg #[_,_]) (by simp [results,results81,go_sem,e0,e1]) rfl ⟨_,⟨m2,d2,g2,_,_,rfl,HS.out,⟨_,_,gq,gt,HR.out,HTK.out,rfl,HX.out⟩,rfl⟩,(((HT.out.set 4 0 rfl 0 _).set 4 0 rfl 1 _).pick [0,1,2,3,5] rfl).sum⟩
   ·have HZ:Xq .right (k,x)=(.at none .enter,(k,x)):=if_neg (show ¬ qdm k by unfold qdm;omega)
    have HA:=Vh (zb k.cdl k.cper d0 q0 (by omega));have hb:(k.cper == 0)=false:=beq_eq_false_iff_ne.2 h0;clear d0 d1 q0 q1 h0 h9;rw [HZ];unfold MRz;dsimp only [Qf]
    clear HZ hp;obtain ⟨rv,tv,gq,gt,hr,ht,rfl,hx⟩:=hz;refine GO fun w HT=>?_
    have HT:=Vh (HT.out.sum (H':=[Qm kb L.fb pv rv tv k,gq,gt,gF]));have HX:=Vh hx;have HR:=Vh hr;have HTK:=Vh ht;clear hx hr ht;obtain ⟨k3,k5,k6⟩:=Ce3 (HT.out.cell 0 0 rfl) 3 5 6;simp only [Qj,GE3] at k3 k5 k6;rw [h2] at k3;have lt:=HT.out.lt 0 0 rfl;simp only [] at lt;clear h2;go_enter func81,ntmps81
    go_wp2
    have HT:=Vh (HT.out.alloc (k:=w.heap.size) rfl 153 #[.nilFunc,.nilFunc]);go_quiet ((first | (go_at_call 136;with_reducible exact Qi.quiet (HA.out) HT.out _ [] rfl rfl)))
    have HT:=Vh (HT.out.drewN nq);clear k3 k5 k6 lt;have k6:=HT.out.cell 0 0 rfl 6;simp only [Qj,GE3] at k6;go_wp2_with fail
    refine Qa.run (Q7) (HT.out) [] ?_
    rintro e w1 gs ⟨rfl,rfl⟩ HT;simp only [PU] at HT;obtain ⟨e0,e1⟩:=Ce2 (HT.out.cell 4 0 rfl) 0 1;obtain ⟨fe0,fe1⟩:=Ce2 (HT.out.free 4 0 rfl) 0 1;simp only [GE4] at e0 e1;go_wp2
    exact bodyPost_ret (v:=.agg #[.nilFunc,.func (.func 82) #[Qd kb] #[]]) (by simp [results,results81,go_sem,e0,e1]) rfl ⟨_,⟨_,_,[],_,_,rfl,⟨rfl,rfl,rfl⟩,⟨_,_,gq,gt,HR.out,HTK.out,rfl,HX.out⟩,rfl⟩,(((HT.out.set 4 0 rfl 0 _).set 4 0 rfl 1 _).pick [0,1,2,3] rfl).sum⟩
 ·have HZ:Xq .right (k,x)=(.at none .enter,(k,x)):=if_neg (fun h=>h2 h.1)
  have hb:(k.kind == 2)=false:=beq_eq_false_iff_ne.2 h2;clear d0 d1 q0 q1;rw [HZ];unfold MRz;dsimp only [Qf]
  clear HZ hp h2;obtain ⟨rv,tv,gq,gt,hr,ht,rfl,hx⟩:=hz;refine GO fun w HT=>?_
  have HT:=Vh (HT.out.sum (H':=[Qm kb L.fb pv rv tv k,gq,gt,gF]));have HX:=Vh hx;have HR:=Vh hr;have HTK:=Vh ht;clear hx hr ht;have k3:=HT.out.cell 0 0 rfl 3;simp only [Qj,GE3] at k3;have lt:=HT.out.lt 0 0 rfl;simp only [] at lt;go_enter func81,ntmps81
  go_wp2_with fail
  have HT:=Vh (HT.out.alloc (k:=w.heap.size) rfl 153 #[.nilFunc,.nilFunc]);clear k3 lt;go_wp2_with fail
  refine Qa.run (Q7) (HT.out) [] ?_
  rintro e w1 gs ⟨rfl,rfl⟩ HT;simp only [PU] at HT;obtain ⟨e0,e1⟩:=Ce2 (HT.out.cell 4 0 rfl) 0 1;obtain ⟨fe0,fe1⟩:=Ce2 (HT.out.free 4 0 rfl) 0 1;simp only [GE4] at e0 e1;go_wp2
  exact bodyPost_ret (v:=.agg #[.nilFunc,.func (.func 82) #[Qd kb] #[]]) (by simp [results,results81,go_sem,e0,e1]) rfl ⟨_,⟨_,_,[],_,_,rfl,⟨rfl,rfl,rfl⟩,⟨_,_,gq,gt,HR.out,HTK.out,rfl,HX.out⟩,rfl⟩,(((HT.out.set 4 0 rfl 0 _).set 4 0 rfl 1 _).pick [0,1,2,3] rfl).sum⟩
theorem qmh (hz:q9 L kb pv k x gK gF) (hp:qr .gate (k,x)):Qa prog 83 #[Qd kb] [gK,gF] (MRz L kb pv (Xq .gate (k,x))):=by
 have HLN:=Vh hp.1.tr;simp only at HLN;cases hc:x.f.closed with
 | true =>
   have HZ:Xq .gate (k,x)=(Q2 k,Qf 3 (k,x)):=if_pos hc;rw [HZ];unfold MRz;dsimp only [Qf]
   clear HZ hp;obtain ⟨rv,tv,gq,gt,hr,ht,rfl,hx⟩:=hz;refine GO fun w HT=>?_
   have HT:=Vh (HT.out.sum (H':=[Qm kb L.fb pv rv tv k,gq,gt,gF]));have HX:=Vh hx;have HR:=Vh hr;have HTK:=Vh ht;clear hx hr ht;have k0:=HT.out.cell 0 0 rfl 0;simp only [Qj,GE3] at k0;have lt:=HT.out.lt 0 0 rfl;simp only [] at lt;have HCL:=Vh (J2 HX.out);rw [hc] at HCL;clear hc;go_enter func83,ntmps83
   go_wp2_with fail
   refine (Qa.use (HCL.out) (HT.out.alloc (k:=w.heap.size) rfl _ _) [3] rfl rfl).mono ?_
   rintro e w1 ⟨gs,⟨rfl,g1,hx1,rfl⟩,Ta⟩;simp only [PU] at Ta;have HX:=Vh hx1;clear hx1 k0 lt;have HT:=Vh Ta;clear Ta;obtain ⟨k0,k3⟩:=Ce2 (HT.out.cell 0 0 rfl) 0 3;simp only [Qj,GE3] at k0 k3;clear k0 k3;go_wp2_with fail
   refine (Qa.use (Xu HX.out 3 HLN.out) (HT.out) [0,3] rfl rfl).mono ?_
   rintro e w1 ⟨gs,⟨rfl,g1,hx1,rfl⟩,Ta⟩;simp only [PU] at Ta;have HX:=Vh hx1;clear hx1;have HT:=Vh Ta;clear Ta;go_wp2_with fail
   refine Qa.run (qk6) (HT.out) [0] ?_
   rintro e w1 gs ⟨m2,d2,g2,rfl,hs2,rfl⟩ HT;simp only [PU] at HT;obtain ⟨e0,e1⟩:=Ce2 (HT.out.cell 4 0 rfl) 0 1;obtain ⟨fe0,fe1⟩:=Ce2 (HT.out.free 4 0 rfl) 0 1;simp only [GE4] at e0 e1;have hv2:=(Qt L kb pv).vals hs2;obtain ⟨st1,st2⟩:=Cli.store_fv2 (P:=prog) hv2.1 hv2.2 e0 fe0 e1 fe1;have HS:=Vh hs2;clear hv2 hs2;go_wp2
   exact bodyPost_ret (v:=.agg #[_,_]) (by simp [results,results83,go_sem,e0,e1]) rfl ⟨_,⟨m2,d2,g2,_,_,rfl,HS.out,⟨_,_,gq,gt,HR.out,HTK.out,rfl,HX.out⟩,rfl⟩,(((HT.out.set 4 0 rfl 0 _).set 4 0 rfl 1 _).pick [0,1,2,3,5] rfl).sum⟩
 | false =>
   by_cases h2:k.kind=2
   ·have HZ:Xq .gate (k,x)=(.at none .asks,({ k with rq:=some ⟨k.period,0,0,0,0,0⟩ },x)):=(if_neg (by simp [hc])).trans (if_pos (.inr h2))
    rw [HZ];unfold MRz;dsimp only [Qf]
    clear HZ hp;obtain ⟨rv,tv,gq,gt,hr,ht,rfl,hx⟩:=hz;refine GO fun w HT=>?_
    have HT:=Vh (HT.out.sum (H':=[Qm kb L.fb pv rv tv k,gq,gt,gF]));have HX:=Vh hx;have HR:=Vh hr;have HTK:=Vh ht;clear hx hr ht;have k0:=HT.out.cell 0 0 rfl 0;simp only [Qj,GE3] at k0;have lt:=HT.out.lt 0 0 rfl;simp only [] at lt;have HCL:=Vh (J2 HX.out);rw [hc] at HCL;clear hc;go_enter func83,ntmps83
    go_wp2_with fail
    refine (Qa.use (HCL.out) (HT.out.alloc (k:=w.heap.size) rfl _ _) [3] rfl rfl).mono ?_
    rintro e w1 ⟨gs,⟨rfl,g1,hx1,rfl⟩,Ta⟩;simp only [PU] at Ta;have HX:=Vh hx1;clear hx1 k0 lt;have HT:=Vh Ta;clear Ta;obtain ⟨k0,k3⟩:=Ce2 (HT.out.cell 0 0 rfl) 0 3;simp only [Qj,GE3] at k0 k3;rw [h2] at k3;go_wp2_with fail
    refine (Qi.use (Qq HX.out) (HT.out) [3] rfl rfl).mono ?_
    rintro e w1 ⟨rfl,mq,rfl⟩;have HT:=Vh (HT.out.drewN mq);generalize World.drewN _ _=wq at HT ⊢;go_wp2_with fail
    refine (Qi.use (Jg (L:=L)) (HT.out) [0] rfl rfl).mono ?_
    rintro e w1 ⟨rfl,mq,rfl⟩;have HT:=Vh (HT.out.drewN mq);generalize World.drewN _ _=wq at HT ⊢;go_wp2_with fail
    refine Qa.run (qac _ _) (HT.out) [] ?_
    rintro e w1 gs ⟨qb,rfl,rfl⟩ HT;simp only [PU] at HT;have k13:=HT.out.cell 0 0 rfl 13;have fk13:=HT.out.free 0 0 rfl 13;simp only [Qj,GE3] at k13;go_wp2_with fail
    have HT:=Vh ((HT.out.set 0 0 rfl 13 (Qd qb)).eq (H':=[Qm kb L.fb pv (Qd qb) tv { k with rq:=some ⟨k.period,0,0,0,0,0⟩ },gq,gt,g1,[cl w.heap.size 153 #[.nilFunc,.nilFunc]],qm qb L.p.sb ⟨k.period,0,0,0,0,0⟩]) rfl);clear k0 k3 k13 fk13 h2;go_wp2_with fail
    refine Qa.run (Q7) (HT.out) [] ?_
    rintro e w1 gs ⟨rfl,rfl⟩ HT;simp only [PU] at HT;obtain ⟨e0,e1⟩:=Ce2 (HT.out.cell 4 0 rfl) 0 1;obtain ⟨fe0,fe1⟩:=Ce2 (HT.out.free 4 0 rfl) 0 1;simp only [GE4] at e0 e1;go_wp2
    exact bodyPost_ret (v:=.agg #[.nilFunc,.func (.func 143) #[Qd kb] #[]]) (by simp [results,results83,go_sem,e0,e1]) rfl ⟨_,⟨_,_,[],_,_,rfl,⟨rfl,rfl,rfl⟩,⟨_,_,(qm qb L.p.sb ⟨k.period,0,0,0,0,0⟩),gt,⟨qb,rfl,rfl⟩,HTK.out,rfl,HX.out⟩,rfl⟩,(((HT.out.set 4 0 rfl 0 _).set 4 0 rfl 1 _).pick [0,5,2,3] rfl).sum⟩
   ·by_cases h1:k.kind=1
    ·have HZ:Xq .gate (k,x)=(.at none .asks,({ k with rq:=some ⟨k.period,0,0,0,0,0⟩ },x)):=(if_neg (by simp [hc])).trans (if_pos (.inl h1))
     rw [HZ];unfold MRz;dsimp only [Qf]
     clear HZ hp;obtain ⟨rv,tv,gq,gt,hr,ht,rfl,hx⟩:=hz;refine GO fun w HT=>?_
     have HT:=Vh (HT.out.sum (H':=[Qm kb L.fb pv rv tv k,gq,gt,gF]));have HX:=Vh hx;have HR:=Vh hr;have HTK:=Vh ht;clear hx hr ht;have k0:=HT.out.cell 0 0 rfl 0;simp only [Qj,GE3] at k0;have lt:=HT.out.lt 0 0 rfl;simp only [] at lt;have HCL:=Vh (J2 HX.out);rw [hc] at HCL;clear hc;go_enter func83,ntmps83
     go_wp2_with fail
     refine (Qa.use (HCL.out) (HT.out.alloc (k:=w.heap.size) rfl _ _) [3] rfl rfl).mono ?_
     rintro e w1 ⟨gs,⟨rfl,g1,hx1,rfl⟩,Ta⟩;simp only [PU] at Ta;have HX:=Vh hx1;clear hx1 k0 lt;have HT:=Vh Ta;clear Ta;obtain ⟨k0,k3⟩:=Ce2 (HT.out.cell 0 0 rfl) 0 3;simp only [Qj,GE3] at k0 k3;have h2:=h1;clear h1;rw [h2] at k3;go_wp2_with fail
     refine (Qi.use (Qq HX.out) (HT.out) [3] rfl rfl).mono ?_
     rintro e w1 ⟨rfl,mq,rfl⟩;have HT:=Vh (HT.out.drewN mq);generalize World.drewN _ _=wq at HT ⊢;go_wp2_with fail
     refine (Qi.use (Jg (L:=L)) (HT.out) [0] rfl rfl).mono ?_
     rintro e w1 ⟨rfl,mq,rfl⟩;have HT:=Vh (HT.out.drewN mq);generalize World.drewN _ _=wq at HT ⊢;go_wp2_with fail
     refine Qa.run (qac _ _) (HT.out) [] ?_
     rintro e w1 gs ⟨qb,rfl,rfl⟩ HT;simp only [PU] at HT;have k13:=HT.out.cell 0 0 rfl 13;have fk13:=HT.out.free 0 0 rfl 13;simp only [Qj,GE3] at k13;go_wp2_with fail
     have HT:=Vh ((HT.out.set 0 0 rfl 13 (Qd qb)).eq (H':=[Qm kb L.fb pv (Qd qb) tv { k with rq:=some ⟨k.period,0,0,0,0,0⟩ },gq,gt,g1,[cl w.heap.size 153 #[.nilFunc,.nilFunc]],qm qb L.p.sb ⟨k.period,0,0,0,0,0⟩]) rfl);clear k0 k3 k13 fk13 h2;go_wp2_with fail
     refine Qa.run (Q7) (HT.out) [] ?_
     rintro e w1 gs ⟨rfl,rfl⟩ HT;simp only [PU] at HT;obtain ⟨e0,e1⟩:=Ce2 (HT.out.cell 4 0 rfl) 0 1;obtain ⟨fe0,fe1⟩:=Ce2 (HT.out.free 4 0 rfl) 0 1;simp only [GE4] at e0 e1;go_wp2
     exact bodyPost_ret (v:=.agg #[.nilFunc,.func (.func 143) #[Qd kb] #[]]) (by simp [results,results83,go_sem,e0,e1]) rfl ⟨_,⟨_,_,[],_,_,rfl,⟨rfl,rfl,rfl⟩,⟨_,_,(qm qb L.p.sb ⟨k.period,0,0,0,0,0⟩),gt,⟨qb,rfl,rfl⟩,HTK.out,rfl,HX.out⟩,rfl⟩,(((HT.out.set 4 0 rfl 0 _).set 4 0 rfl 1 _).pick [0,5,2,3] rfl).sum⟩
    ·have HZ:Xq .gate (k,x)=(.at none .looks,(k,x)):=(if_neg (by simp [hc])).trans (if_neg (by simp;omega))
     have hb1:(k.kind == 1)=false:=beq_eq_false_iff_ne.2 h1;have hb2:(k.kind == 2)=false:=beq_eq_false_iff_ne.2 h2;clear h1 h2;rw [HZ];unfold MRz;dsimp only [Qf]
     clear HZ hp;obtain ⟨rv,tv,gq,gt,hr,ht,rfl,hx⟩:=hz;refine GO fun w HT=>?_
     have HT:=Vh (HT.out.sum (H':=[Qm kb L.fb pv rv tv k,gq,gt,gF]));have HX:=Vh hx;have HR:=Vh hr;have HTK:=Vh ht;clear hx hr ht;have k0:=HT.out.cell 0 0 rfl 0;simp only [Qj,GE3] at k0;have lt:=HT.out.lt 0 0 rfl;simp only [] at lt;have HCL:=Vh (J2 HX.out);rw [hc] at HCL;clear hc;go_enter func83,ntmps83
     go_wp2_with fail
     refine (Qa.use (HCL.out) (HT.out.alloc (k:=w.heap.size) rfl _ _) [3] rfl rfl).mono ?_
     rintro e w1 ⟨gs,⟨rfl,g1,hx1,rfl⟩,Ta⟩;simp only [PU] at Ta;have HX:=Vh hx1;clear hx1 k0 lt;have HT:=Vh Ta;clear Ta;obtain ⟨k0,k3⟩:=Ce2 (HT.out.cell 0 0 rfl) 0 3;simp only [Qj,GE3] at k0 k3;go_wp2_with fail
     refine Qa.run (Q7) (HT.out) [] ?_
     rintro e w1 gs ⟨rfl,rfl⟩ HT;simp only [PU] at HT;obtain ⟨e0,e1⟩:=Ce2 (HT.out.cell 4 0 rfl) 0 1;obtain ⟨fe0,fe1⟩:=Ce2 (HT.out.free 4 0 rfl) 0 1;simp only [GE4] at e0 e1;go_wp2
     exact bodyPost_ret (v:=.agg #[.nilFunc,.func (.func 144) #[Qd kb] #[]]) (by simp [results,results83,go_sem,e0,e1]) rfl ⟨_,⟨_,_,[],_,_,rfl,⟨rfl,rfl,rfl⟩,⟨_,_,gq,gt,HR.out,HTK.out,rfl,HX.out⟩,rfl⟩,(((HT.out.set 4 0 rfl 0 _).set 4 0 rfl 1 _).pick [0,1,2,3] rfl).sum⟩
end
theorem qeu {s:Qg} {q:Req} (hs:Xm s) (hq:qbi s.recs.length q) (h0:q.st=0) (h2:(Q3 s q).2.st=2):0≤(Q3 s q).2.id∧(Q3 s q).2.id<18446744073709551616:=by
 unfold Q3 at h2 ⊢;rw [if_neg (by omega)] at h2 ⊢;split at h2
 ·unfold Yu at h2
  split at h2 <;> simp [h0] at h2
 ·split at h2
  ·unfold Jn at h2
   split at h2 <;> simp [h0] at h2
  ·next h3 h4 =>
   rw [if_neg h3,if_neg h4];unfold Jd at h2 ⊢;simp only at h2 ⊢;split at h2
   ·next h5 =>
    rw [if_pos h5];have hsl:q.slot.toNat<s.recs.length:=by have:=hq.slot0;have:=hq.slot1;omega
    have hr:=hs.recs _ (List.getElem_mem hsl);have e:s.recs.getD q.slot.toNat Rec.zero=s.recs[q.slot.toNat]:=by simp [hsl]
    rw [e];have hg:=(qap _ hr.w0 hr.ok).2.2.2;have g0:=hr.g0;have g1:=hr.g1;have a:=hq.slot0;have b:=hq.slot1;have c:=hs.n1;generalize s.recs[q.slot.toNat]=r at *;simp only;omega
   ·simp [h0] at h2
theorem qg4 (b rb lb wb:Nat):Qa prog 185 #[Qd b] [X4 b rb lb wb] fun e gs=>∃ tb,e=.returned (Qd tb)∧gs=[X4 b rb lb wb,Qv tb rb Qx]:=by
 refine GO fun w HT=>?_
 go_enter func185,ntmps185
 go_wp2_with fail
 refine Qa.run (qj b rb lb wb) (HT.out) [0] ?_
 rintro e w1 gs ⟨rfl,rfl⟩ HT;simp only [PU] at HT;have hf:=fun w=>(zn (Qd rb) (Qd lb) (Qd wb) w).1
 go_wp2_with fail
 refine Qa.run (qd3 rb) (HT.out) [] ?_
 rintro e w1 gs ⟨tb,rfl,rfl⟩ HT;simp only [PU] at HT;go_wp2
 go_ret
 exact ⟨_,⟨_,rfl,rfl⟩,HT.out⟩
theorem qcu {L:Lay} {x:Qk} {g:List Blk} (hx:Qh L x g) {i:Nat} {q:ShP} {s:Qy} (hq:L.qs[i]?=some q) (hs:x.shs[i]?=some s):Qa prog 185 #[Qd q.b] [g] fun e gs=>∃ tb,e=.returned (Qd tb)∧∃ g',Qh L x g'∧gs=[g',Qv tb q.rb Qx]:=by
 obtain ⟨tr,gF,gS,gR,gH,gT,h1,h2,h3,h4,h5,h6,rfl⟩:=hx;have hz:(L.qs.zip x.shs)[i]?=some (q,s):=qex hq hs;obtain ⟨u,y,⟨gr,gl,hr,hl,rfl⟩,hp,hback⟩:=h5.out hz;intro w hw;have T:=(((TG.refl hw).sum (H':=[gF++(gS++(gR++gT)),gH])).permAt 1 rfl hp).sum (H':=[gF++(gS++(gR++gT)),X4 q.b q.rb q.lb q.wb,gr,gl,y]);refine (Qa.use (qg4 q.b q.rb q.lb q.wb) T [1] rfl rfl).mono ?_
 rintro e w' ⟨gs,⟨tb,he,rfl⟩,T'⟩;obtain ⟨gH',hf,hp'⟩:=hback (q,s) (X4 q.b q.rb q.lb q.wb++(gr++gl)) ⟨gr,gl,hr,hl,rfl⟩;rw [qe hz] at hf;refine ⟨_,⟨tb,he,_,⟨tr,gF,gS,gR,gH',gT,h1,h2,h3,h4,hf,h6,rfl⟩,rfl⟩,?_⟩
 exact ((TG.sum (H:=[gF++(gS++(gR++gT)),X4 q.b q.rb q.lb q.wb,gr,gl,y,Qv tb q.rb Qx]) (H':=[gF++(gS++(gR++gT)),X4 q.b q.rb q.lb q.wb++(gr++gl)++y,Qv tb q.rb Qx]) T').permAt 1 rfl hp').sum
theorem qe6 {L:Lay} {x:Qk} {g:List Blk} (hx:Qh L x g) (hn:1≤x.shs.length) {slot:Int} (h0:0≤slot):∃ q s,L.qs[Zk slot x]?=some q∧x.shs[Zk slot x]?=some s∧qfl (L.qs.map ShP.b) slot=Qd q.b:=by
 obtain ⟨tr,gF,gS,gR,gH,gT,h1,h2,h3,h4,h5,h6,rfl⟩:=hx;have a:0≤slot % (x.shs.length:Int):=Int.emod_nonneg _ (by omega);have b:slot % (x.shs.length:Int)<x.shs.length:=Int.emod_lt_of_pos _ (by omega);have hi:Zk slot x<x.shs.length:=by unfold Zk;omega
 have hi':Zk slot x<L.qs.length:=by omega
 refine ⟨L.qs[Zk slot x],x.shs[Zk slot x],List.getElem?_eq_getElem hi',List.getElem?_eq_getElem hi,?_⟩
 unfold qfl;rw [if_pos h0,List.length_map,h4]
 show Qd ((L.qs.map ShP.b).getD (Zk slot x) 0)=_
 rw [List.getD_eq_getElem?_getD,List.getElem?_map,List.getElem?_eq_getElem hi'];rfl
theorem Qh.len {L:Lay} {x:Qk} {g:List Blk} (hx:Qh L x g):L.qs.length=x.shs.length:=by
 obtain ⟨tr,gF,gS,gR,gH,gT,h1,h2,h3,h4,_⟩:=hx;exact h4
section
variable {L:Lay} {x:Qk} {gK gF:List Blk} {kb:Nat} {pv:Value} {k:Ql}
theorem qmq (hz:q9 L kb pv k x gK gF) (hp:qr .asks (k,x)):Qa prog 143 #[Qd kb] [gK,gF] (MRz L kb pv (Xq .asks (k,x))):=by
 obtain ⟨hok,hwk,hpr,hq0⟩:=hp;simp only at hok hwk hpr hq0;obtain ⟨q,hrqe⟩:=Option.isSome_iff_exists.1 hpr;have hrq:=hwk.rq q hrqe;have hq0:=hq0 q hrqe;have hidb:=qeu hok.slab hrq hq0;have HLN:=Vh hok.tr;have hsh:=hok.sh;have hE:Xq .asks (k,x)=Zp (k,x) q:=by show (match k.rq with | none=>_ | some q=>_)=_;rw [hrqe]
 rw [hE];unfold q9 at hz;rw [hrqe] at hz;clear hE hwk hpr hq0 hrqe;obtain ⟨s2,q2,hr2⟩:∃ s2 q2,Q3 x.slab q=(s2,q2):=⟨_,_,rfl⟩;rw [hr2] at hidb;simp only at hidb;by_cases h1:q2.st=1
 ·have hst:(Q3 x.slab q).2.st=1:=by rw [hr2];exact h1
  have HZ:Zp (k,x) q=(Xj,Qf 2 ({ k with rq:=some q2 },{ x with slab:=s2 })):=by unfold Zp;simp only [hr2];rw [if_pos h1]
  clear h1 hidb hsh;rw [HZ];unfold MRz;dsimp only [Qf]
  clear HZ;obtain ⟨rv,tv,gq,gt,⟨qb,rfl,rfl⟩,ht,rfl,hx⟩:=hz;refine GO fun w HT=>?_
  have HT:=Vh (HT.out.sum (H':=[Qm kb L.fb pv (Qd qb) tv k,qm qb L.p.sb q,gt,gF]));have HX:=Vh hx;have HTK:=Vh ht;have HRQ:=Vh (qec hx qb q hok.slab hrq);rw [hst,hr2] at HRQ;clear hx ht;have k13:=HT.out.cell 0 0 rfl 13;simp only [Qj,GE3] at k13;have lt:=HT.out.lt 0 0 rfl;simp only [] at lt;clear hst hok hrq hr2;go_enter func143,ntmps143
  go_wp2_with fail
  refine (Qa.use (HRQ.out) (HT.out.alloc (k:=w.heap.size) rfl _ _) [1,3] rfl rfl).mono ?_
  rintro e w1 ⟨gs,⟨rfl,g1,hx1,rfl⟩,Ta⟩;simp only [PU] at Ta;have HX:=Vh hx1;clear hx1 k13 lt;have HT:=Vh Ta;clear Ta;have HT:=Vh (HT.out.eq (H':=[Qm kb L.fb pv (Qd qb) tv { k with rq:=some q2 },qm qb L.p.sb q2,gt,g1,[cl w.heap.size 153 #[.nilFunc,.nilFunc]]]) rfl);go_wp2_with fail
  refine (Qa.use (Xu HX.out 2 HLN.out) (HT.out) [0,3] rfl rfl).mono ?_
  rintro e w1 ⟨gs,⟨rfl,g1,hx1,rfl⟩,Ta⟩;simp only [PU] at Ta;have HX:=Vh hx1;clear hx1;have HT:=Vh Ta;clear Ta;go_wp2_with fail
  refine Qa.run (zt L kb pv) (HT.out) [] ?_
  rintro e w1 gs ⟨m2,d2,g2,rfl,hs2,rfl⟩ HT;simp only [PU] at HT;obtain ⟨e0,e1⟩:=Ce2 (HT.out.cell 4 0 rfl) 0 1;obtain ⟨fe0,fe1⟩:=Ce2 (HT.out.free 4 0 rfl) 0 1;simp only [GE4] at e0 e1;have hv2:=(Qt L kb pv).vals hs2;obtain ⟨st1,st2⟩:=Cli.store_fv2 (P:=prog) hv2.1 hv2.2 e0 fe0 e1 fe1;have HS:=Vh hs2;clear hv2 hs2;go_wp2
  exact bodyPost_ret (v:=.agg #[_,_]) (by simp [results,results143,go_sem,e0,e1]) rfl ⟨_,⟨m2,d2,g2,_,_,rfl,HS.out,⟨_,_,(qm qb L.p.sb q2),gt,⟨qb,rfl,rfl⟩,HTK.out,rfl,HX.out⟩,rfl⟩,(((HT.out.set 4 0 rfl 0 _).set 4 0 rfl 1 _).pick [0,1,2,3,5] rfl).sum⟩
 ·by_cases h2:q2.st=2
  ·obtain ⟨id0,id1⟩:=hidb h2
   have hst:(Q3 x.slab q).2.st=2:=by rw [hr2];exact h2
   have HZ:Zp (k,x) q=(.at none .queues,({ k with rq:=some q2,id:=q2.id,slot:=q2.id % 64,tk:=some (Zk (q2.id % 64) x,Qx) },{ x with slab:=s2 })):=by unfold Zp;simp only [hr2];rw [if_neg h1,if_pos h2]
   have HID:=Vh (qin (qb:=0) L.p.sb q2);have HQ2:=Vh h2;have HSH:=Vh hsh;clear h1 hidb hsh h2 HID;rw [HZ];unfold MRz;dsimp only [Qf]
   clear HZ;obtain ⟨rv,tv,gq,gt,⟨qb,rfl,rfl⟩,ht,rfl,hx⟩:=hz;refine GO fun w HT=>?_
   have HT:=Vh (HT.out.sum (H':=[Qm kb L.fb pv (Qd qb) tv k,qm qb L.p.sb q,gt,gF]));have HX:=Vh hx;have HTK:=Vh ht;have HRQ:=Vh (qec hx qb q hok.slab hrq);rw [hst,hr2] at HRQ;clear hx ht;have k13:=HT.out.cell 0 0 rfl 13;simp only [Qj,GE3] at k13;have lt:=HT.out.lt 0 0 rfl;simp only [] at lt;clear hst hok hrq hr2;go_enter func143,ntmps143
   go_wp2_with fail
   refine (Qa.use (HRQ.out) (HT.out.alloc (k:=w.heap.size) rfl _ _) [1,3] rfl rfl).mono ?_
   rintro e w1 ⟨gs,⟨rfl,g1,hx1,rfl⟩,Ta⟩;simp only [PU] at Ta;have HX:=Vh hx1;clear hx1 k13 lt;have HT:=Vh Ta;clear Ta;have HT:=Vh (HT.out.eq (H':=[Qm kb L.fb pv (Qd qb) tv { k with rq:=some q2 },qm qb L.p.sb q2,gt,g1,[cl w.heap.size 153 #[.nilFunc,.nilFunc]]]) rfl);have k13:=HT.out.cell 0 0 rfl 13;simp only [Qj,GE3] at k13;have HID:=Vh (qin qb L.p.sb q2);rw [if_pos HQ2.out,if_pos HQ2.out] at HID;go_wp2_with fail
   refine Qa.run (HID.out) (HT.out) [1] ?_
   rintro e w1 gs ⟨rfl,rfl⟩ HT;simp only [PU] at HT;clear k13;obtain ⟨k15,k16⟩:=Ce2 (HT.out.cell 0 0 rfl) 15 16;obtain ⟨fk15,fk16⟩:=Ce2 (HT.out.free 0 0 rfl) 15 16;simp only [Qj,GE3] at k15 k16;have i0:0≤q2.id % 64:=by omega
   have i1:q2.id % 64<64:=by omega
   go_wp2
   have HT:=Vh (((HT.out.set 0 0 rfl 15 (.int .u64 q2.id)).set 0 0 rfl 16 (.int .i64 (q2.id % 64))).eq (H':=[Qm kb L.fb pv (Qd qb) tv { k with rq:=some q2,id:=q2.id,slot:=q2.id % 64 },qm qb L.p.sb q2,gt,g1,[cl w.heap.size 153 #[.nilFunc,.nilFunc]]]) rfl);clear k15 k16 fk15 fk16;generalize World.setCell _ _ _=w2 at HT ⊢;obtain ⟨qs,ss,hqs,hss,hv⟩:=qe6 HX.out HSH.out i0;have HH:=Vh (qa1 HX.out (by rw [HX.out.len];exact HSH.out) (q2.id % 64));rw [hv] at HH;have HQS:=Vh hqs;have HBG:=Vh (qcu HX.out hqs hss);clear hqs hss hv;obtain ⟨k0,k16⟩:=Ce2 (HT.out.cell 0 0 rfl) 0 16;simp only [Qj,GE3] at k0 k16;refine Qc 10 (by kernel_rfl) (by kernel_rfl) ?_
   simp only [TD4]
   repeat (go_big_quiet_step ((first | (go_at_call 184;with_reducible exact Qi.quiet (HH.out) HT.out _ [3] rfl rfl))))
   refine wpQuiet_nil (QE fun nq=>?_)
   have HT:=Vh (HT.out.drewN nq);go_wp2_with fail
   refine (Qa.use (HBG.out) (HT.out) [3] rfl rfl).mono ?_
   rintro e w1 ⟨gs,⟨tb,rfl,g2,hx2,rfl⟩,Ta⟩;simp only [PU] at Ta;have HX:=Vh hx2;clear hx2 k0 k16;have HT:=Vh Ta;clear Ta;have k14:=HT.out.cell 0 0 rfl 14;have fk14:=HT.out.free 0 0 rfl 14;simp only [Qj,GE3] at k14;go_wp2_with fail
   refine ⟨rfl,?_⟩
   have HT:=Vh ((HT.out.set 0 0 rfl 14 (Qd tb)).eq (H':=[Qm kb L.fb pv (Qd qb) (Qd tb) { k with rq:=some q2,id:=q2.id,slot:=q2.id % 64,tk:=some (Zk (q2.id % 64) x,Qx) },qm qb L.p.sb q2,gt,g2,[cl w.heap.size 153 #[.nilFunc,.nilFunc]],Qv tb qs.rb Qx]) rfl);clear k14 fk14;go_wp2_with fail
   refine Qa.run (Q7) (HT.out) [] ?_
   rintro e w1 gs ⟨rfl,rfl⟩ HT;simp only [PU] at HT;obtain ⟨e0,e1⟩:=Ce2 (HT.out.cell 4 0 rfl) 0 1;obtain ⟨fe0,fe1⟩:=Ce2 (HT.out.free 4 0 rfl) 0 1;simp only [GE4] at e0 e1;go_wp2
   exact bodyPost_ret (v:=.agg #[.nilFunc,.func (.func 186) #[Qd kb] #[]]) (by simp [results,results143,go_sem,e0,e1]) rfl ⟨_,⟨_,_,[],_,_,rfl,⟨rfl,rfl,rfl⟩,⟨_,_,(qm qb L.p.sb q2),(Qv tb qs.rb Qx),⟨qb,rfl,rfl⟩,⟨tb,qs,HQS.out,rfl,rfl⟩,rfl,HX.out⟩,rfl⟩,(((HT.out.set 4 0 rfl 0 _).set 4 0 rfl 1 _).pick [0,1,5,3] rfl).sum⟩
  ·have hst:(Q3 x.slab q).2.st=q2.st:=by rw [hr2]
   have HZ:Zp (k,x) q=(.at none .asks,({ k with rq:=some q2 },{ x with slab:=s2 })):=by unfold Zp;simp only [hr2];rw [if_neg h1,if_neg h2]
   have hb1:(q2.st == 1)=false:=beq_eq_false_iff_ne.2 h1;have hb2:(q2.st == 2)=false:=beq_eq_false_iff_ne.2 h2;clear h1 h2 hidb hsh;rw [HZ];unfold MRz;dsimp only [Qf]
   clear HZ;obtain ⟨rv,tv,gq,gt,⟨qb,rfl,rfl⟩,ht,rfl,hx⟩:=hz;refine GO fun w HT=>?_
   have HT:=Vh (HT.out.sum (H':=[Qm kb L.fb pv (Qd qb) tv k,qm qb L.p.sb q,gt,gF]));have HX:=Vh hx;have HTK:=Vh ht;have HRQ:=Vh (qec hx qb q hok.slab hrq);rw [hst,hr2] at HRQ;clear hx ht;have k13:=HT.out.cell 0 0 rfl 13;simp only [Qj,GE3] at k13;have lt:=HT.out.lt 0 0 rfl;simp only [] at lt;clear hst hok hrq hr2;go_enter func143,ntmps143
   go_wp2_with fail
   refine (Qa.use (HRQ.out) (HT.out.alloc (k:=w.heap.size) rfl _ _) [1,3] rfl rfl).mono ?_
   rintro e w1 ⟨gs,⟨rfl,g1,hx1,rfl⟩,Ta⟩;simp only [PU] at Ta;have HX:=Vh hx1;clear hx1 k13 lt;have HT:=Vh Ta;clear Ta;have HT:=Vh (HT.out.eq (H':=[Qm kb L.fb pv (Qd qb) tv { k with rq:=some q2 },qm qb L.p.sb q2,gt,g1,[cl w.heap.size 153 #[.nilFunc,.nilFunc]]]) rfl);go_wp2_with fail
   refine Qa.run (Q7) (HT.out) [] ?_
   rintro e w1 gs ⟨rfl,rfl⟩ HT;simp only [PU] at HT;obtain ⟨e0,e1⟩:=Ce2 (HT.out.cell 4 0 rfl) 0 1;obtain ⟨fe0,fe1⟩:=Ce2 (HT.out.free 4 0 rfl) 0 1;simp only [GE4] at e0 e1;go_wp2
   exact bodyPost_ret (v:=.agg #[.nilFunc,.func (.func 143) #[Qd kb] #[]]) (by simp [results,results143,go_sem,e0,e1]) rfl ⟨_,⟨_,_,[],_,_,rfl,⟨rfl,rfl,rfl⟩,⟨_,_,(qm qb L.p.sb q2),gt,⟨qb,rfl,rfl⟩,HTK.out,rfl,HX.out⟩,rfl⟩,(((HT.out.set 4 0 rfl 0 _).set 4 0 rfl 1 _).pick [0,1,2,3] rfl).sum⟩
end
theorem Ju (k:Ql) (s:Qg) (h:0≤k.slot) (hi:0≤k.id):(lookW k s).1.kind=k.kind∧(lookW k s).1.rq=k.rq∧(lookW k s).1.tk=k.tk∧0≤(lookW k s).1.slot:=by
 have hs:0≤s.slot k.id:=by unfold Qg.slot;split <;> omega
 unfold lookW;split
 ·exact ⟨rfl,rfl,rfl,h⟩
 ·split
  ·exact ⟨rfl,rfl,rfl,hs⟩
  ·exact ⟨rfl,rfl,rfl,hs⟩
theorem qdd {k k2:Ql} (h:k2.kind=k.kind):Q2 k=Q2 k2:=by unfold Q2;rw [h]
section
variable {L:Lay} {x:Qk} {gK gF:List Blk} {kb:Nat} {pv:Value} {k:Ql}
theorem qlv (hz:q9 L kb pv k x gK gF) (hp:qr .looks (k,x)):Qa prog 144 #[Qd kb] [gK,gF] (MRz L kb pv (Xq .looks (k,x))):=by
 obtain ⟨hok,hwk,_⟩:=hp;simp only at hok hwk;have HLN:=Vh hok.tr;have HSH:=Vh hok.sh;have HLK:=Vh (show ∀ g rv tv,Qh L x g→_ from fun g rv tv hx=>qe7 (kb:=kb) (pv:=pv) (rv:=rv) (tv:=tv) (k:=k) (g:=g) hx hok hwk.id.1 hwk.id.2);have hkeep:=Ju k x.slab hwk.slot hwk.id.1
 have hE:∀ k2 er,lookW k x.slab=(k2,er)→Xq .looks (k,x)=if er=0 then (if k.kind=3 then (.at none .queues,({ k2 with tk:=some (Zk k2.slot x,Qx) },x)) else (.at none .tries,(k2,x))) else if er=1 then (Q2 k,Qf 1 (k2,x)) else (Q2 k,Qf 0 (k2,x)):=by
  intro k2 er h
  show (if (lookW k x.slab).2=0 then _ else _)=_
  simp only [Qp,h]
 obtain ⟨k2,er,hl⟩:∃ k2 er,lookW k x.slab=(k2,er):=⟨_,_,rfl⟩;rw [hE k2 er hl];rw [hl] at HLK hkeep;simp only at hkeep;clear hE hl hok hwk;by_cases h0:er=0
 ·subst h0
  by_cases h3:k.kind=3
  ·have HZ:(if (0:Int)=0 then (if k.kind=3 then (.at none .queues,({ k2 with tk:=some (Zk k2.slot x,Qx) },x)) else (.at none .tries,(k2,x))) else if (0:Int)=1 then (Q2 k,Qf 1 (k2,x)) else (Q2 k,Qf 0 (k2,x)):SC × ZC)=(.at none .queues,({ k2 with tk:=some (Zk k2.slot x,Qx) },x)):=(if_pos rfl).trans (if_pos h3)
   rw [HZ];unfold MRz;dsimp only [Qf]
   clear HZ;obtain ⟨hkk,hkr,hkt,hks⟩:=hkeep;obtain ⟨rv,tv,gq,gt,hr,ht,rfl,hx⟩:=hz;refine GO fun w HT=>?_
   have HT:=Vh (HT.out.sum (H':=[Qm kb L.fb pv rv tv k,gq,gt,gF]));have HX:=Vh hx;have HR:=Vh (show qj0 L.p.sb k2.rq rv gq from hkr ▸ hr);have HTK:=Vh (show qj5 L k2.tk tv gt from hkt ▸ ht);have HKK:=Vh hkk;clear hx hr ht hkr hkt hkk;have HT:=Vh (HT.out.alloc (k:=w.heap.size) rfl 153 #[.nilFunc,.nilFunc]);go_enter func144,ntmps144
   go_wp2_with fail
   refine (Qa.use (HLK.out _ _ _ HX.out) (HT.out) [0,3] rfl rfl).mono ?_
   rintro e w1 ⟨gs,⟨rfl,g1,hx1,rfl⟩,Ta⟩;simp only [PU] at Ta;have HX:=Vh hx1;clear hx1;have HT:=Vh Ta;clear Ta;have i0:=hks;have k3:=HT.out.cell 0 0 rfl 3;simp only [Qj,GE3] at k3;rw [HKK.out,h3] at k3;clear h3;go_wp2
   clear k3;obtain ⟨qs,ss,hqs,hss,hv⟩:=qe6 HX.out HSH.out i0;have HH:=Vh (qa1 HX.out (by rw [HX.out.len];exact HSH.out) k2.slot);rw [hv] at HH;have HQS:=Vh hqs;have HBG:=Vh (qcu HX.out hqs hss);clear hqs hss hv;obtain ⟨k0,k16⟩:=Ce2 (HT.out.cell 0 0 rfl) 0 16;simp only [Qj,GE3] at k0 k16;refine Qc 10 (by kernel_rfl) (by kernel_rfl) ?_
   simp only [TD4]
   repeat (go_big_quiet_step ((first | (go_at_call 184;with_reducible exact Qi.quiet (HH.out) HT.out _ [3] rfl rfl))))
   refine wpQuiet_nil (QE fun nq=>?_)
   have HT:=Vh (HT.out.drewN nq);go_wp2_with fail
   refine (Qa.use (HBG.out) (HT.out) [3] rfl rfl).mono ?_
   rintro e w1 ⟨gs,⟨tb,rfl,g2,hx2,rfl⟩,Ta⟩;simp only [PU] at Ta;have HX:=Vh hx2;clear hx2 k0 k16;have HT:=Vh Ta;clear Ta;have k14:=HT.out.cell 0 0 rfl 14;have fk14:=HT.out.free 0 0 rfl 14;simp only [Qj,GE3] at k14;go_wp2_with fail
   refine ⟨rfl,?_⟩
   have HT:=Vh ((HT.out.set 0 0 rfl 14 (Qd tb)).eq (H':=[Qm kb L.fb pv rv (Qd tb) { k2 with tk:=some (Zk k2.slot x,Qx) },gq,gt,g2,[cl w.heap.size 153 #[.nilFunc,.nilFunc]],Qv tb qs.rb Qx]) rfl);clear k14 fk14;go_wp2_with fail
   refine Qa.run (Q7) (HT.out) [] ?_
   rintro e w1 gs ⟨rfl,rfl⟩ HT;simp only [PU] at HT;obtain ⟨e0,e1⟩:=Ce2 (HT.out.cell 4 0 rfl) 0 1;obtain ⟨fe0,fe1⟩:=Ce2 (HT.out.free 4 0 rfl) 0 1;simp only [GE4] at e0 e1;go_wp2
   exact bodyPost_ret (v:=.agg #[.nilFunc,.func (.func 186) #[Qd kb] #[]]) (by simp [results,results144,go_sem,e0,e1]) rfl ⟨_,⟨_,_,[],_,_,rfl,⟨rfl,rfl,rfl⟩,⟨_,_,gq,(Qv tb qs.rb Qx),HR.out,⟨tb,qs,HQS.out,rfl,rfl⟩,rfl,HX.out⟩,rfl⟩,(((HT.out.set 4 0 rfl 0 _).set 4 0 rfl 1 _).pick [0,1,5,3] rfl).sum⟩
  ·have HZ:(if (0:Int)=0 then (if k.kind=3 then (.at none .queues,({ k2 with tk:=some (Zk k2.slot x,Qx) },x)) else (.at none .tries,(k2,x))) else if (0:Int)=1 then (Q2 k,Qf 1 (k2,x)) else (Q2 k,Qf 0 (k2,x)):SC × ZC)=(.at none .tries,(k2,x)):=(if_pos rfl).trans (if_neg h3)
   have hb3:(k.kind == 3)=false:=beq_eq_false_iff_ne.2 h3;clear h3;rw [HZ];unfold MRz;dsimp only [Qf]
   clear HZ;obtain ⟨hkk,hkr,hkt,hks⟩:=hkeep;obtain ⟨rv,tv,gq,gt,hr,ht,rfl,hx⟩:=hz;refine GO fun w HT=>?_
   have HT:=Vh (HT.out.sum (H':=[Qm kb L.fb pv rv tv k,gq,gt,gF]));have HX:=Vh hx;have HR:=Vh (show qj0 L.p.sb k2.rq rv gq from hkr ▸ hr);have HTK:=Vh (show qj5 L k2.tk tv gt from hkt ▸ ht);have HKK:=Vh hkk;clear hx hr ht hkr hkt hkk;have HT:=Vh (HT.out.alloc (k:=w.heap.size) rfl 153 #[.nilFunc,.nilFunc]);go_enter func144,ntmps144
   go_wp2_with fail
   refine (Qa.use (HLK.out _ _ _ HX.out) (HT.out) [0,3] rfl rfl).mono ?_
   rintro e w1 ⟨gs,⟨rfl,g1,hx1,rfl⟩,Ta⟩;simp only [PU] at Ta;have HX:=Vh hx1;clear hx1;have HT:=Vh Ta;clear Ta;have k3:=HT.out.cell 0 0 rfl 3;simp only [Qj,GE3] at k3;rw [HKK.out] at k3;go_wp2_with fail
   refine Qa.run (Q7) (HT.out) [] ?_
   rintro e w1 gs ⟨rfl,rfl⟩ HT;simp only [PU] at HT;obtain ⟨e0,e1⟩:=Ce2 (HT.out.cell 4 0 rfl) 0 1;obtain ⟨fe0,fe1⟩:=Ce2 (HT.out.free 4 0 rfl) 0 1;simp only [GE4] at e0 e1;go_wp2
   exact bodyPost_ret (v:=.agg #[.nilFunc,.func (.func 188) #[Qd kb] #[]]) (by simp [results,results144,go_sem,e0,e1]) rfl ⟨_,⟨_,_,[],_,_,rfl,⟨rfl,rfl,rfl⟩,⟨_,_,gq,gt,HR.out,HTK.out,rfl,HX.out⟩,rfl⟩,(((HT.out.set 4 0 rfl 0 _).set 4 0 rfl 1 _).pick [0,1,2,3] rfl).sum⟩
 ·by_cases h1:er=1
  ·subst h1
   have HZ:(if (1:Int)=0 then (if k.kind=3 then (.at none .queues,({ k2 with tk:=some (Zk k2.slot x,Qx) },x)) else (.at none .tries,(k2,x))) else if (1:Int)=1 then (Q2 k,Qf 1 (k2,x)) else (Q2 k,Qf 0 (k2,x)):SC × ZC)=(Q2 (X1 1 k2),Qf 1 (k2,x)):=by rw [if_neg h0,if_pos rfl,qdd (k:=k) (k2:=X1 1 k2) hkeep.1]
   clear h0;rw [HZ];unfold MRz;dsimp only [Qf]
   clear HZ;obtain ⟨hkk,hkr,hkt,hks⟩:=hkeep;obtain ⟨rv,tv,gq,gt,hr,ht,rfl,hx⟩:=hz;refine GO fun w HT=>?_
   have HT:=Vh (HT.out.sum (H':=[Qm kb L.fb pv rv tv k,gq,gt,gF]));have HX:=Vh hx;have HR:=Vh (show qj0 L.p.sb k2.rq rv gq from hkr ▸ hr);have HTK:=Vh (show qj5 L k2.tk tv gt from hkt ▸ ht);have HKK:=Vh hkk;clear hx hr ht hkr hkt hkk;have HT:=Vh (HT.out.alloc (k:=w.heap.size) rfl 153 #[.nilFunc,.nilFunc]);go_enter func144,ntmps144
   go_wp2_with fail
   refine (Qa.use (HLK.out _ _ _ HX.out) (HT.out) [0,3] rfl rfl).mono ?_
   rintro e w1 ⟨gs,⟨rfl,g1,hx1,rfl⟩,Ta⟩;simp only [PU] at Ta;have HX:=Vh hx1;clear hx1;have HT:=Vh Ta;clear Ta;go_wp2_with fail
   refine (Qa.use (Xu HX.out 1 HLN.out) (HT.out) [0,3] rfl rfl).mono ?_
   rintro e w1 ⟨gs,⟨rfl,g1,hx1,rfl⟩,Ta⟩;simp only [PU] at Ta;have HX:=Vh hx1;clear hx1;have HT:=Vh Ta;clear Ta;go_wp2_with fail
   refine Qa.run (qk6) (HT.out) [0] ?_
   rintro e w1 gs ⟨m2,d2,g2,rfl,hs2,rfl⟩ HT;simp only [PU] at HT;obtain ⟨e0,e1⟩:=Ce2 (HT.out.cell 4 0 rfl) 0 1;obtain ⟨fe0,fe1⟩:=Ce2 (HT.out.free 4 0 rfl) 0 1;simp only [GE4] at e0 e1;have hv2:=(Qt L kb pv).vals hs2;obtain ⟨st1,st2⟩:=Cli.store_fv2 (P:=prog) hv2.1 hv2.2 e0 fe0 e1 fe1;have HS:=Vh hs2;clear hv2 hs2;go_wp2
   exact bodyPost_ret (v:=.agg #[_,_]) (by simp [results,results144,go_sem,e0,e1]) rfl ⟨_,⟨m2,d2,g2,_,_,rfl,HS.out,⟨_,_,gq,gt,HR.out,HTK.out,rfl,HX.out⟩,rfl⟩,(((HT.out.set 4 0 rfl 0 _).set 4 0 rfl 1 _).pick [0,1,2,3,5] rfl).sum⟩
  ·have HZ:(if er=0 then (if k.kind=3 then (.at none .queues,({ k2 with tk:=some (Zk k2.slot x,Qx) },x)) else (.at none .tries,(k2,x))) else if er=1 then (Q2 k,Qf 1 (k2,x)) else (Q2 k,Qf 0 (k2,x)):SC × ZC)=(Q2 (X1 0 k2),Qf 0 (k2,x)):=by rw [if_neg h0,if_neg h1,qdd (k:=k) (k2:=X1 0 k2) hkeep.1]
   have hb0:(er == 0)=false:=beq_eq_false_iff_ne.2 h0;have hb1:(er == 1)=false:=beq_eq_false_iff_ne.2 h1;clear h0 h1;rw [HZ];unfold MRz;dsimp only [Qf]
   clear HZ;obtain ⟨hkk,hkr,hkt,hks⟩:=hkeep;obtain ⟨rv,tv,gq,gt,hr,ht,rfl,hx⟩:=hz;refine GO fun w HT=>?_
   have HT:=Vh (HT.out.sum (H':=[Qm kb L.fb pv rv tv k,gq,gt,gF]));have HX:=Vh hx;have HR:=Vh (show qj0 L.p.sb k2.rq rv gq from hkr ▸ hr);have HTK:=Vh (show qj5 L k2.tk tv gt from hkt ▸ ht);have HKK:=Vh hkk;clear hx hr ht hkr hkt hkk;have HT:=Vh (HT.out.alloc (k:=w.heap.size) rfl 153 #[.nilFunc,.nilFunc]);go_enter func144,ntmps144
   go_wp2_with fail
   refine (Qa.use (HLK.out _ _ _ HX.out) (HT.out) [0,3] rfl rfl).mono ?_
   rintro e w1 ⟨gs,⟨rfl,g1,hx1,rfl⟩,Ta⟩;simp only [PU] at Ta;have HX:=Vh hx1;clear hx1;have HT:=Vh Ta;clear Ta;go_wp2_with fail
   refine (Qa.use (Xu HX.out 0 HLN.out) (HT.out) [0,3] rfl rfl).mono ?_
   rintro e w1 ⟨gs,⟨rfl,g1,hx1,rfl⟩,Ta⟩;simp only [PU] at Ta;have HX:=Vh hx1;clear hx1;have HT:=Vh Ta;clear Ta;go_wp2_with fail
   refine Qa.run (qk6) (HT.out) [0] ?_
   rintro e w1 gs ⟨m2,d2,g2,rfl,hs2,rfl⟩ HT;simp only [PU] at HT;obtain ⟨e0,e1⟩:=Ce2 (HT.out.cell 4 0 rfl) 0 1;obtain ⟨fe0,fe1⟩:=Ce2 (HT.out.free 4 0 rfl) 0 1;simp only [GE4] at e0 e1;have hv2:=(Qt L kb pv).vals hs2;obtain ⟨st1,st2⟩:=Cli.store_fv2 (P:=prog) hv2.1 hv2.2 e0 fe0 e1 fe1;have HS:=Vh hs2;clear hv2 hs2;go_wp2
   exact bodyPost_ret (v:=.agg #[_,_]) (by simp [results,results144,go_sem,e0,e1]) rfl ⟨_,⟨m2,d2,g2,_,_,rfl,HS.out,⟨_,_,gq,gt,HR.out,HTK.out,rfl,HX.out⟩,rfl⟩,(((HT.out.set 4 0 rfl 0 _).set 4 0 rfl 1 _).pick [0,1,2,3,5] rfl).sum⟩
theorem qma (hz:q9 L kb pv k x gK gF) (hp:qr .again (k,x)):Qa prog 221 #[Qd kb] [gK,gF] (MRz L kb pv (Xq .again (k,x))):=by
 obtain ⟨hok,hwk,_⟩:=hp;simp only at hok hwk;have HLN:=Vh hok.tr;have HLK:=Vh (show ∀ g rv tv,Qh L x g→_ from fun g rv tv hx=>qe7 (kb:=kb) (pv:=pv) (rv:=rv) (tv:=tv) (k:=k) (g:=g) hx hok hwk.id.1 hwk.id.2);have hkeep:=Ju k x.slab hwk.slot hwk.id.1
 have hE:∀ k2 er,lookW k x.slab=(k2,er)→Xq .again (k,x)=if er=0 then (.at none .tries,(k2,x)) else (.thn (.row1 .again1) .leaves,Qf 0 (k2,x)):=by
  intro k2 er h
  show (if (lookW k x.slab).2=0 then _ else _)=_
  simp only [Qp,h]
 obtain ⟨k2,er,hl⟩:∃ k2 er,lookW k x.slab=(k2,er):=⟨_,_,rfl⟩;rw [hE k2 er hl];rw [hl] at HLK hkeep;simp only at hkeep;clear hE hl hok hwk;by_cases h0:er=0
 ·have HZ:(if er=0 then (.at none .tries,(k2,x)) else (.thn (.row1 .again1) .leaves,Qf 0 (k2,x)):SC × ZC)=(.at none .tries,(k2,x)):=if_pos h0
  rw [h0] at HLK;clear h0;rw [HZ];unfold MRz;dsimp only [Qf]
  clear HZ;obtain ⟨hkk,hkr,hkt,hks⟩:=hkeep;obtain ⟨rv,tv,gq,gt,hr,ht,rfl,hx⟩:=hz;refine GO fun w HT=>?_
  have HT:=Vh (HT.out.sum (H':=[Qm kb L.fb pv rv tv k,gq,gt,gF]));have HX:=Vh hx;have HR:=Vh (show qj0 L.p.sb k2.rq rv gq from hkr ▸ hr);have HTK:=Vh (show qj5 L k2.tk tv gt from hkt ▸ ht);clear hx hr ht hkr hkt hkk hks;have HT:=Vh ((HT.out.alloc (k:=w.heap.size) rfl 33 #[Qd kb]).alloc (k:=w.heap.size+1) (by simp) 153 #[.nilFunc,.nilFunc]);go_enter func221,ntmps221
  go_wp2_with fail
  refine (Qa.use (HLK.out _ _ _ HX.out) (HT.out) [0,3] rfl rfl).mono ?_
  rintro e w1 ⟨gs,⟨rfl,g1,hx1,rfl⟩,Ta⟩;simp only [PU] at Ta;have HX:=Vh hx1;clear hx1;have HT:=Vh Ta;clear Ta;have b0:=HT.out.cell 4 0 rfl 0;simp only [GE4] at b0;go_wp2_with fail
  refine Qa.run (Q7) (HT.out) [] ?_
  rintro e w1 gs ⟨rfl,rfl⟩ HT;simp only [PU] at HT;obtain ⟨e0,e1⟩:=Ce2 (HT.out.cell 5 0 rfl) 0 1;obtain ⟨fe0,fe1⟩:=Ce2 (HT.out.free 5 0 rfl) 0 1;simp only [GE4] at e0 e1;go_wp2
  exact bodyPost_ret (v:=.agg #[.nilFunc,.func (.func 188) #[Qd kb] #[]]) (by simp [results,results221,go_sem,e0,e1]) rfl ⟨_,⟨_,_,[],_,_,rfl,⟨rfl,rfl,rfl⟩,⟨_,_,gq,gt,HR.out,HTK.out,rfl,HX.out⟩,rfl⟩,(((HT.out.set 5 0 rfl 0 _).set 5 0 rfl 1 _).pick [0,1,2,3] rfl).sum⟩
 ·have HZ:(if er=0 then (.at none .tries,(k2,x)) else (.thn (.row1 .again1) .leaves,Qf 0 (k2,x)):SC × ZC)=(.thn (.row1 .again1) .leaves,Qf 0 (k2,x)):=if_neg h0
  have hb0:(er == 0)=false:=beq_eq_false_iff_ne.2 h0
  have hrow:∀ (bk b bf bl bi:Nat),(qdc L kb pv).SV (.row1 .again1) .nilFunc (.func (.func 209) #[] #[Qd bf,Qd bl,Qd bi])
   ([cl bf 1 #[.func (.func 255) #[] #[Qd bk]],cl bl 322 #[.slice (some ⟨b,0,none⟩) 1 1],cl bi 3 #[.int .i64 0],cl b 1 #[.func (.func 255) #[] #[Qd bk]]]++[cl bk 33 #[Qd kb]]) :=
   fun bk b bf bl bi=>⟨rfl,bf,bl,bi,b,0,_,_,_,rfl,⟨bk,rfl,rfl⟩,rfl,rfl⟩
  have hthen:∀ (bk b bf bl bi:Nat),_:=fun bk b bf bl bi=>Cli.prog_then_cons (f:=MC.leaves) (v:=.func (.func 181) #[Qd kb] #[]) (gm:=[]) (Qt L kb pv) rfl (hrow bk b bf bl bi) ⟨rfl,rfl⟩
  have HTH:=Vh hthen;clear h0 hrow hthen;rw [HZ];unfold MRz;dsimp only [Qf]
  clear HZ;obtain ⟨hkk,hkr,hkt,hks⟩:=hkeep;obtain ⟨rv,tv,gq,gt,hr,ht,rfl,hx⟩:=hz;refine GO fun w HT=>?_
  have HT:=Vh (HT.out.sum (H':=[Qm kb L.fb pv rv tv k,gq,gt,gF]));have HX:=Vh hx;have HR:=Vh (show qj0 L.p.sb k2.rq rv gq from hkr ▸ hr);have HTK:=Vh (show qj5 L k2.tk tv gt from hkt ▸ ht);clear hx hr ht hkr hkt hkk hks;have HT:=Vh ((HT.out.alloc (k:=w.heap.size) rfl 33 #[Qd kb]).alloc (k:=w.heap.size+1) (by simp) 153 #[.nilFunc,.nilFunc]);go_enter func221,ntmps221
  go_wp2_with fail
  refine (Qa.use (HLK.out _ _ _ HX.out) (HT.out) [0,3] rfl rfl).mono ?_
  rintro e w1 ⟨gs,⟨rfl,g1,hx1,rfl⟩,Ta⟩;simp only [PU] at Ta;have HX:=Vh hx1;clear hx1;have HT:=Vh Ta;clear Ta;have b0:=HT.out.cell 4 0 rfl 0;simp only [GE4] at b0;go_wp2_with fail
  refine (Qa.use (Xu HX.out 0 HLN.out) (HT.out) [0,3] rfl rfl).mono ?_
  rintro e w1 ⟨gs,⟨rfl,g1,hx1,rfl⟩,Ta⟩;simp only [PU] at Ta;have HX:=Vh hx1;clear hx1;have HT:=Vh Ta;clear Ta;clear b0;have b0:=HT.out.cell 4 0 rfl 0;simp only [GE4] at b0;have ltb:=HT.out.lt 4 0 rfl;simp only [] at ltb;go_wp2_with fail
  go_region_with (first
   | (go_at_call 178
      refine (Qa.use (Cli.row_1 (b:=w1.heap.size) (o:=0) (D:=#[.func (.func 255) #[] #[Qd w.heap.size]]) rfl 1 (.inl rfl)) (HT.out.drew.alloc (k:=w1.heap.size) rfl _ _) [6] rfl rfl).mono ?_
      rintro e w2 ⟨gs,⟨bf,bl,bi,rfl,rfl⟩,Ta⟩;simp only [PU] at Ta;have b1:=Ta.cell 4 0 rfl 0;simp only [GE2] at b1;have HT1:=Vh (Ta.sum (H':=[Qm kb L.fb pv rv tv (X1 0 k2),gq,gt,g1,[cl (w.heap.size+1) 153 #[.nilFunc,.nilFunc]],[cl bf 1 #[.func (.func 255) #[] #[Qd w.heap.size]],cl bl 322 #[.slice (some ⟨w1.heap.size,0,none⟩) 1 1],cl bi 3 #[.int .i64 0],cl w1.heap.size 1 #[.func (.func 255) #[] #[Qd w.heap.size]]]++[cl w.heap.size 33 #[Qd kb]],[]]))
      clear Ta)
   | (go_at_call 196
      refine (Qa.use (HTH.out _ _ _ _ _) HT1.out [5,6] rfl rfl).mono ?_
      rintro e w3 ⟨gs,⟨m2,d2,g2,rfl,hs2,rfl⟩,Ta⟩;simp only [PU] at Ta;obtain ⟨e0,e1⟩:=Ce2 (Ta.cell 4 0 rfl) 0 1;obtain ⟨f0,f1⟩:=Ce2 (Ta.free 4 0 rfl) 0 1;have hv2:=(Qt L kb pv).vals hs2;obtain ⟨st1,st2⟩:=Cli.store_fv2 (P:=prog) hv2.1 hv2.2 e0 f0 e1 f1;clear hv2;have HS2:=Vh hs2;have HT2:=Vh Ta
      clear Ta hs2))
  all_goals
   go_wp2
   exact bodyPost_ret (v:=.agg #[_,_]) (by simp [results,results221,go_sem,e0,e1]) rfl ⟨_,⟨m2,d2,g2,_,_,rfl,HS2.out,⟨_,_,gq,gt,HR.out,HTK.out,rfl,HX.out⟩,rfl⟩,(((HT2.out.set 4 0 rfl 0 _).set 4 0 rfl 1 _).pick [0,1,2,3,5] rfl).sum⟩
end
end
end Go.Proofs.YtcneeepdclgdcaaGreat
