import Derived.Test.YtikpbibeagbccaaGreatGV14
import Derived.Test.YtikpbibeagbccaaGreatGV18
import Derived.Test.YtikpbibeagbccaaGreatGV21
import Derived.Test.YtikpbibeagbccaaGreatGV13
import Derived.Test.YtikpbibeagbccaaGreatGV17
import Derived.Test.YtikpbibeagbccaaGreatGV12
set_option maxRecDepth 100000
set_option maxHeartbeats 4000000
namespace Go.Proofs.YtikpbibeagbccaaGreat
set_option linter.unusedVariables false
set_option linter.unusedSimpArgs false
open Go.Proofs.Tryz
section
open Go.RowKit Go.Shelf
structure ShP where
 b:Nat
 rb:Nat
 lb:Nat
 wb:Nat
def qr1 (q:ShP) (s:Q0) (g:List Blk):Prop:=∃ gr gl,Xj q.rb s.ring gr∧Yk q.lb s.who s.turns gl∧g=Xb q.b q.rb q.lb q.wb++(gr++gl)
structure Lay where
 fb:Nat
 p:qcj
 qs:List ShP
structure Qj where
 f:Zb
 slab:Qn
 tr:List EvS
 shs:List Q0
def Qf (L:Lay) (x:Qj) (g:List Blk):Prop:=∃ tr gF gS gR gH gT,Xi L.fb L.p x.f tr gF∧Zt L.p.sb x.slab gS∧Qu 165 1 L.p.sh (L.qs.map ShP.b).length ((L.qs.map ShP.b).map fun b=>Qb b) gR ∧
 L.qs.length=x.shs.length∧J4 (fun (z:ShP × Q0)=>qr1 z.1 z.2) (L.qs.zip x.shs) gH∧trG tr x.tr gT∧g=gF++(gS++(gR++(gH++gT)))
section
variable {L:Lay} {x:Qj} {g:List Blk}
theorem ql2 {fb:Nat} {p:qcj} {f:Zb} {tr:Value} {g:List Blk} (hg:Xi fb p f tr g):Qe prog 124 #[Qb fb] [g] (Qb p.sb):=by
 obtain ⟨C,rfl,hc⟩:=hg;refine GO fun w HT=>?_
 have c0:=(HT.out.cell 0 0 rfl 6).trans hc.slab;clear hc;go_enter func124,ntmps124
 go_wp2
 go_ret
 exact ⟨rfl,0,rfl⟩
theorem Qk (hx:Qf L x g):Qe prog 124 #[Qb L.fb] [g] (Qb L.p.sb):=by
 obtain ⟨tr,gF,gS,gR,gH,gT,h1,h2,h3,h4,h5,h6,rfl⟩:=hx;intro w hw;have T:=(TG.refl hw).sum (H':=[gF,gS,gR,gH,gT]);exact (ql2 h1).use T [0] rfl rfl
theorem qge (hx:Qf L x g) (hn:1≤L.qs.length) (i:Int):Qe prog 151 #[Qb L.fb,.int .i64 i] [g] (qoo (L.qs.map ShP.b) i):=by
 obtain ⟨tr,gF,gS,gR,gH,gT,h1,h2,h3,h4,h5,h6,rfl⟩:=hx;intro w hw;have T:=(TG.refl hw).sum (H':=[gF,gS,gR,gH,gT]);exact (qkl h1 h3 (by simpa using hn) i).use T [0,2] rfl rfl
theorem qjt (hx:Qf L x g) (h:0≤x.f.inside∧x.f.inside≤1000000):Qa prog 111 #[Qb L.fb] [g] fun e gs=>e=.returned (.tuple #[])∧∃ g',Qf L { x with f:={ x.f with inside:=x.f.inside+1 } } g'∧gs=[g']:=by
 obtain ⟨tr,gF,gS,gR,gH,gT,h1,h2,h3,h4,h5,h6,rfl⟩:=hx;intro w hw;have T:=(TG.refl hw).sum (H':=[gF,gS,gR,gH,gT]);refine (Qa.use (qij h1 h) T [0] rfl rfl).mono ?_
 rintro e w' ⟨gs,⟨he,g1,hn1,rfl⟩,T'⟩;exact ⟨_,⟨he,_,⟨tr,g1,gS,gR,gH,gT,hn1,h2,h3,h4,h5,h6,rfl⟩,rfl⟩,TG.sum (H:=[g1,gS,gR,gH,gT]) T'⟩
theorem qi7 (hx:Qf L x g) (h:0≤x.f.inside∧x.f.inside≤1000000):Qa prog 177 #[Qb L.fb] [g] fun e gs=>e=.returned (.int .i64 (qjf x.f.inside))∧∃ g',Qf L { x with f:={ x.f with inside:=Zf x.f.inside } } g'∧gs=[g']:=by
 obtain ⟨tr,gF,gS,gR,gH,gT,h1,h2,h3,h4,h5,h6,rfl⟩:=hx;intro w hw;have T:=(TG.refl hw).sum (H':=[gF,gS,gR,gH,gT]);refine (Qa.use (qjv h1 h) T [0] rfl rfl).mono ?_
 rintro e w' ⟨gs,⟨he,g1,hn1,rfl⟩,T'⟩;exact ⟨_,⟨he,_,⟨tr,g1,gS,gR,gH,gT,hn1,h2,h3,h4,h5,h6,rfl⟩,rfl⟩,TG.sum (H:=[g1,gS,gR,gH,gT]) T'⟩
theorem Yt (hx:Qf L x g):Qa prog 42 #[Qb L.fb] [g] fun e gs=>e=.returned (.bool x.f.closed)∧∃ g',Qf L x g'∧gs=[g']:=by
 obtain ⟨tr,gF,gS,gR,gH,gT,h1,h2,h3,h4,h5,h6,rfl⟩:=hx;intro w hw;have T:=(TG.refl hw).sum (H':=[gF,gS,gR,gH,gT]);refine (Qa.use (qg6 h1) T [0] rfl rfl).mono ?_
 rintro e w' ⟨gs,⟨he,g1,hn1,rfl⟩,T'⟩;exact ⟨_,⟨he,_,⟨tr,g1,gS,gR,gH,gT,hn1,h2,h3,h4,h5,h6,rfl⟩,rfl⟩,TG.sum (H:=[g1,gS,gR,gH,gT]) T'⟩
theorem qm8 (hx:Qf L x g):Qa prog 114 #[Qb L.fb] [g] fun e gs=>e=.returned (.bool (!x.f.closed))∧∃ g',Qf L { x with f:={ x.f with closed:=true } } g'∧gs=[g']:=by
 obtain ⟨tr,gF,gS,gR,gH,gT,h1,h2,h3,h4,h5,h6,rfl⟩:=hx;intro w hw;have T:=(TG.refl hw).sum (H':=[gF,gS,gR,gH,gT]);refine (Qa.use (qkz h1) T [0] rfl rfl).mono ?_
 rintro e w' ⟨gs,⟨he,g1,hn1,rfl⟩,T'⟩;exact ⟨_,⟨he,_,⟨tr,g1,gS,gR,gH,gT,hn1,h2,h3,h4,h5,h6,rfl⟩,rfl⟩,TG.sum (H:=[g1,gS,gR,gH,gT]) T'⟩
theorem qpq (hx:Qf L x g):Qa prog 22 #[Qb L.fb] [g] fun e gs=>e=.returned (.int .i64 x.f.inside)∧∃ g',Qf L x g'∧gs=[g']:=by
 obtain ⟨tr,gF,gS,gR,gH,gT,h1,h2,h3,h4,h5,h6,rfl⟩:=hx;intro w hw;have T:=(TG.refl hw).sum (H':=[gF,gS,gR,gH,gT]);refine (Qa.use (qhz h1) T [0] rfl rfl).mono ?_
 rintro e w' ⟨gs,⟨he,g1,hn1,rfl⟩,T'⟩;exact ⟨_,⟨he,_,⟨tr,g1,gS,gR,gH,gT,hn1,h2,h3,h4,h5,h6,rfl⟩,rfl⟩,TG.sum (H:=[g1,gS,gR,gH,gT]) T'⟩
theorem q8 (hx:Qf L x g) (hn:x.slab.recs.length≤64) (k:Int):Qa prog 172 #[Qb L.p.sb,.int .i64 k] [g] fun e gs=>e=.returned (.tuple #[.int .u64 (x.slab.word k),.int .i64 (x.slab.werr k)])∧∃ g',Qf L x g'∧gs=[g']:=by
 obtain ⟨tr,gF,gS,gR,gH,gT,h1,h2,h3,h4,h5,h6,rfl⟩:=hx;intro w hw;have T:=(TG.refl hw).sum (H':=[gF,gS,gR,gH,gT]);refine (Qa.use (qo1 h2 hn k) T [1] rfl rfl).mono ?_
 rintro e w' ⟨gs,⟨he,g1,hn1,rfl⟩,T'⟩;exact ⟨_,⟨he,_,⟨tr,gF,g1,gR,gH,gT,h1,hn1,h3,h4,h5,h6,rfl⟩,rfl⟩,TG.sum (H:=[gF,g1,gR,gH,gT]) T'⟩
theorem qwk (hx:Qf L x g) (hn:x.slab.recs.length≤64) (id:Int) (h0:0≤id) (h9:id<18446744073709551616):Qa prog 189 #[Qb L.p.sb,.int .u64 id] [g] fun e gs=>e=.returned (.tuple #[.int .i64 (x.slab.slot id),.int .i64 (x.slab.serr id)])∧∃ g',Qf L x g'∧gs=[g']:=by
 obtain ⟨tr,gF,gS,gR,gH,gT,h1,h2,h3,h4,h5,h6,rfl⟩:=hx;intro w hw;have T:=(TG.refl hw).sum (H':=[gF,gS,gR,gH,gT]);refine (Qa.use (qgc h2 hn id h0 h9) T [1] rfl rfl).mono ?_
 rintro e w' ⟨gs,⟨he,g1,hn1,rfl⟩,T'⟩;exact ⟨_,⟨he,_,⟨tr,gF,g1,gR,gH,gT,h1,hn1,h3,h4,h5,h6,rfl⟩,rfl⟩,TG.sum (H:=[gF,g1,gR,gH,gT]) T'⟩
theorem qnf (hx:Qf L x g) (hn:x.slab.recs.length≤64) (id:Int) (h0:0≤id) (h9:id<18446744073709551616):Qa prog 190 #[Qb L.p.sb,.int .u64 id] [g] fun e gs=>e=.returned (.bool (x.slab.mine id))∧∃ g',Qf L x g'∧gs=[g']:=by
 obtain ⟨tr,gF,gS,gR,gH,gT,h1,h2,h3,h4,h5,h6,rfl⟩:=hx;intro w hw;have T:=(TG.refl hw).sum (H':=[gF,gS,gR,gH,gT]);refine (Qa.use (qn3 h2 hn id h0 h9) T [1] rfl rfl).mono ?_
 rintro e w' ⟨gs,⟨he,g1,hn1,rfl⟩,T'⟩;exact ⟨_,⟨he,_,⟨tr,gF,g1,gR,gH,gT,h1,hn1,h3,h4,h5,h6,rfl⟩,rfl⟩,TG.sum (H:=[gF,g1,gR,gH,gT]) T'⟩
theorem qh4 (hx:Qf L x g) (h0:0≤x.slab.count) (h9:x.slab.count≤64):Qa prog 215 #[Qb L.p.sb] [g] fun e gs=>e=.returned (.int .i64 x.slab.drop.2)∧∃ g',Qf L { x with slab:=x.slab.drop.1 } g'∧gs=[g']:=by
 obtain ⟨tr,gF,gS,gR,gH,gT,h1,h2,h3,h4,h5,h6,rfl⟩:=hx;intro w hw;have T:=(TG.refl hw).sum (H':=[gF,gS,gR,gH,gT]);refine (Qa.use (qpy h2 h0 h9) T [1] rfl rfl).mono ?_
 rintro e w' ⟨gs,⟨he,g1,hn1,rfl⟩,T'⟩;exact ⟨_,⟨he,_,⟨tr,gF,g1,gR,gH,gT,h1,hn1,h3,h4,h5,h6,rfl⟩,rfl⟩,TG.sum (H:=[gF,g1,gR,gH,gT]) T'⟩
theorem qch (hx:Qf L x g) (hn:x.slab.recs.length≤64) (k old ev:Int) (h0:0≤old) (h9:old<18446744073709551616):Qa prog 194 #[Qb L.p.sb,.int .i64 k,.int .u64 old,.int .i64 ev] [g] fun e gs=>e=.returned (.tuple #[.int .u64 (x.slab.try k old ev).2.1,.int .i64 (x.slab.try k old ev).2.2])∧∃ g',Qf L { x with slab:=(x.slab.try k old ev).1 } g'∧gs=[g']:=by
 obtain ⟨tr,gF,gS,gR,gH,gT,h1,h2,h3,h4,h5,h6,rfl⟩:=hx;intro w hw;have T:=(TG.refl hw).sum (H':=[gF,gS,gR,gH,gT]);refine (Qa.use (qqy h2 hn k old ev h0 h9) T [1] rfl rfl).mono ?_
 rintro e w' ⟨gs,⟨he,g1,hn1,rfl⟩,T'⟩;exact ⟨_,⟨he,_,⟨tr,gF,g1,gR,gH,gT,h1,hn1,h3,h4,h5,h6,rfl⟩,rfl⟩,TG.sum (H:=[gF,g1,gR,gH,gT]) T'⟩
theorem qlu (hx:Qf L x g) (qb:Nat) (q:Req) (hs:Zm x.slab) (hq:qhc x.slab.recs.length q):Qa prog 149 #[Qb qb] [qc7 qb L.p.sb q,g] fun e gs=>e=.returned (.int .i64 (Zu x.slab q).2.st)∧∃ g',Qf L { x with slab:=(Zu x.slab q).1 } g'∧gs=[qc7 qb L.p.sb (Zu x.slab q).2,g']:=by
 obtain ⟨tr,gF,gS,gR,gH,gT,h1,h2,h3,h4,h5,h6,rfl⟩:=hx;intro w hw;have T:=(TG.refl hw).sum (H':=[qc7 qb L.p.sb q,gF,gS,gR,gH,gT]);refine (Qa.use (qsv qb q h2 hs hq) T [0,2] rfl rfl).mono ?_
 rintro e w' ⟨gs,⟨he,g1,hn1,rfl⟩,T'⟩;exact ⟨_,⟨he,_,⟨tr,gF,g1,gR,gH,gT,h1,hn1,h3,h4,h5,h6,rfl⟩,rfl⟩,TG.sum (H:=[qc7 qb L.p.sb (Zu x.slab q).2,gF,g1,gR,gH,gT]) T'⟩
theorem qhr (hx:Qf L x g) (E:EvS) (hn:x.tr.length≤1000000):Qa prog 113 #[Qb L.fb,.agg E.cells] [g] fun e gs=>e=.returned (.tuple #[])∧∃ g',Qf L { x with tr:=x.tr++[E] } g'∧gs=[g']:=by
 obtain ⟨tr,gF,gS,gR,gH,gT,h1,h2,h3,h4,h5,h6,rfl⟩:=hx;intro w hw;have T:=(TG.refl hw).sum (H':=[gF,gS,gR,gH,gT]);refine (Qa.use (qgu E h1 h6 (by omega)) T [0,4] rfl rfl).mono ?_
 rintro e w' ⟨gs,⟨he,tr1,g1,gT1,hn1,hn2,rfl⟩,T'⟩;exact ⟨_,⟨he,_,⟨tr1,g1,gS,gR,gH,gT1,hn1,h2,h3,h4,h5,trG.put hn2,rfl⟩,rfl⟩,TG.sum (H:=[g1,gS,gR,gH,gT1]) T'⟩
theorem qam {α β:Type} {l:List α} {m:List β} {i:Nat} {a:α} {b:β} (ha:l[i]?=some a) (hb:m[i]?=some b):(l.zip m)[i]?=some (a,b):=by
 rw [List.getElem?_zip_eq_some];exact ⟨ha,hb⟩
theorem Ju {α β:Type}:∀ {l:List α} {m:List β} (i:Nat) {a:α} {b:β},l[i]?=some a→(l.zip m).set i (a,b)=l.zip (m.set i b)
 | [],m,i,a,b,h=>by simp at h
 | c::l,[],i,a,b,h=>by simp
 | c::l,d::m,0,a,b,h=>by simp at h;simp [h]
 | c::l,d::m,i+1,a,b,h=>by simp at h;simp [Ju i h]
theorem qb6 (hx:Qf L x g) {i:Nat} {q:ShP} {s:Q0} (hq:L.qs[i]?=some q) (hs:x.shs[i]?=some s) (tb:Nat) (t:Xt) (hr0:qd s.ring) (ht:qet t):Qa prog 184 #[Qb tb] [Xa tb q.rb t,g] fun e gs=>e=.returned (.int .i64 (stepT s.ring t).2.status)∧∃ g',Qf L { x with shs:=x.shs.set i { s with ring:=(stepT s.ring t).1 } } g'∧gs=[Xa tb q.rb (stepT s.ring t).2,g']:=by
 obtain ⟨tr,gF,gS,gR,gH,gT,h1,h2,h3,h4,h5,h6,rfl⟩:=hx;have hz:(L.qs.zip x.shs)[i]?=some (q,s):=qam hq hs;obtain ⟨u,y,⟨gr,gl,hr,hl,rfl⟩,hp,hback⟩:=h5.out hz;intro w hw;have T:=(((TG.refl hw).sum (H':=[Xa tb q.rb t,gF++(gS++(gR++gT)),gH])).permAt 2 rfl hp).sum (H':=[Xa tb q.rb t,gF++(gS++(gR++gT)),Xb q.b q.rb q.lb q.wb,gr,gl,y]);refine (Qa.use (qou (tb:=tb) (t:=t) hr hr0 ht) T [0,3] rfl rfl).mono ?_
 rintro e w' ⟨gs,⟨he,g1,hn1,rfl⟩,T'⟩;obtain ⟨gH',hf,hp'⟩:=hback (q,{ s with ring:=(stepT s.ring t).1 }) (Xb q.b q.rb q.lb q.wb++(g1++gl)) ⟨g1,gl,hn1,hl,rfl⟩;rw [Ju i hq] at hf;refine ⟨_,⟨he,_,⟨tr,gF,gS,gR,gH',gT,h1,h2,h3,by simpa using h4,hf,h6,rfl⟩,rfl⟩,?_⟩
 exact ((TG.sum (H:=[Xa tb q.rb (stepT s.ring t).2,gF++(gS++(gR++gT)),Xb q.b q.rb q.lb q.wb,g1,gl,y]) (H':=[Xa tb q.rb (stepT s.ring t).2,gF++(gS++(gR++gT)),Xb q.b q.rb q.lb q.wb++(g1++gl)++y]) T').permAt 2 rfl hp').sum
theorem qna (hx:Qf L x g) {i:Nat} {q:ShP} {s:Q0} (hq:L.qs[i]?=some q) (hs:x.shs[i]?=some s) (tb:Nat) (t:Xt) (hr0:qd s.ring) (ht:qet t) (v:Qm):Qa prog 222 #[Qb tb,.agg v.cells] [Xa tb q.rb t,g] fun e gs=>e=.returned (.int .i64 (Zs s.ring t v).2.2)∧∃ g',Qf L { x with shs:=x.shs.set i { s with ring:=(Zs s.ring t v).1 } } g'∧gs=[Xa tb q.rb (Zs s.ring t v).2.1,g']:=by
 obtain ⟨tr,gF,gS,gR,gH,gT,h1,h2,h3,h4,h5,h6,rfl⟩:=hx;have hz:(L.qs.zip x.shs)[i]?=some (q,s):=qam hq hs;obtain ⟨u,y,⟨gr,gl,hr,hl,rfl⟩,hp,hback⟩:=h5.out hz;intro w hw;have T:=(((TG.refl hw).sum (H':=[Xa tb q.rb t,gF++(gS++(gR++gT)),gH])).permAt 2 rfl hp).sum (H':=[Xa tb q.rb t,gF++(gS++(gR++gT)),Xb q.b q.rb q.lb q.wb,gr,gl,y]);refine (Qa.use (qop (tb:=tb) (t:=t) v hr hr0 ht) T [0,3] rfl rfl).mono ?_
 rintro e w' ⟨gs,⟨he,g1,hn1,rfl⟩,T'⟩;obtain ⟨gH',hf,hp'⟩:=hback (q,{ s with ring:=(Zs s.ring t v).1 }) (Xb q.b q.rb q.lb q.wb++(g1++gl)) ⟨g1,gl,hn1,hl,rfl⟩;rw [Ju i hq] at hf;refine ⟨_,⟨he,_,⟨tr,gF,gS,gR,gH',gT,h1,h2,h3,by simpa using h4,hf,h6,rfl⟩,rfl⟩,?_⟩
 exact ((TG.sum (H:=[Xa tb q.rb (Zs s.ring t v).2.1,gF++(gS++(gR++gT)),Xb q.b q.rb q.lb q.wb,g1,gl,y]) (H':=[Xa tb q.rb (Zs s.ring t v).2.1,gF++(gS++(gR++gT)),Xb q.b q.rb q.lb q.wb++(g1++gl)++y]) T').permAt 2 rfl hp').sum
end
structure Qt where
 thread:Int
 no:Int
 kind:Int
 cid:Int
 cdl:Int
 cper:Int
 err:Int
 ok:Bool
 aid:Int
 agen:Int
 id:Int
 slot:Int
 saw:Int
 gen:Int
 rq:Option Req
 tk:Option (Nat × Xt)
def Qo (fb:Nat) (pv rv tv:Value) (k:Qt):Array Value:=#[Qb fb,.int .i64 k.thread,.int .i64 k.no,.int .i64 k.kind,.int .u64 k.cid,.int .u64 k.cdl,.int .u64 k.cper,.int .i64 k.err,.bool k.ok,.int .u64 k.aid,.int .u64 k.agen,.slice none 0 0,pv,rv,tv,.int .u64 k.id,.int .i64 k.slot,.int .u64 k.saw,.int .u64 k.gen]
abbrev Qq (kb fb:Nat) (pv rv tv:Value) (k:Qt):List Blk:=[cl kb 188 (Qo fb pv rv tv k)]
def Qt.ev (k:Qt) (E:EvS):EvS:={ E with thread:=k.thread,call:=k.no,what:=k.kind }
def qi8 (k:Qt) (E:EvS) (x:Qj):Qj:={ x with tr:=x.tr++[k.ev E] }
def ev0:EvS:=⟨0,0,0,0,0,0,0,0,0,0⟩
def Jl (e:Int) (k:Qt):Qt:={ k with err:=e,ok:=false,aid:=0,agen:=0 }
section
variable {L:Lay} {x:Qj} {g:List Blk} {kb:Nat} {pv rv tv:Value} {k:Qt}
theorem Js (hx:Qf L x g) (E:EvS) (hn:x.tr.length≤1000000):Qa prog 96 #[Qb kb,.agg E.cells] [Qq kb L.fb pv rv tv k,g] fun e gs =>
 e=.returned (.tuple #[])∧∃ g',Qf L (qi8 k E x) g'∧gs=[Qq kb L.fb pv rv tv k,g']:=by
 refine GO fun w HT=>?_
 have HN:=Vh (qhr hx (k.ev E) hn);have lt:=HT.out.lt 0 0 rfl;simp only [] at lt;obtain ⟨k0,k1,k2,k3⟩:=Ce4 (HT.out.cell 0 0 rfl) 0 1 2 3;simp only [Qo,GE3] at k0 k1 k2 k3;clear hx hn;simp only [EvS.cells];go_enter func96,ntmps96
 go_wp2
 go_region
 go_wp2
 have HT:=Vh (HT.out.alloc (k:=w.heap.size) rfl 123 (k.ev E).cells).drew;simp only [List.cons_append,List.nil_append] at HT;simp only [EvS.cells,Qt.ev] at HT;clear lt k1 k2 k3 k0;generalize World.drew _=w1 at HT ⊢;have k0:=HT.out.cell 0 0 rfl 0;obtain ⟨b0,b1,b2,b3,b4,b5,b6,b7⟩:=Ce8 (HT.out.cell 2 0 rfl) 0 1 2 3 4 5 6 7;obtain ⟨b8,b9⟩:=Ce2 (HT.out.cell 2 0 rfl) 8 9;simp only [Qo,GE3] at k0 b0 b1 b2 b3 b4 b5 b6 b7 b8 b9;refine Qc 5 (by kernel_rfl) (by kernel_rfl) ?_
 simp only [TD4]
 repeat (go_big_quiet_step ((fail)))
 refine wpQuiet_nil (QE fun nq=>?_)
 have HT:=Vh (HT.out.drewN nq);go_wp2_with fail
 refine (Qa.use (HN.out) (HT.out) [1] rfl rfl).mono ?_
 rintro e w1 ⟨gs,⟨rfl,g',hx',rfl⟩,Ta⟩;simp only [PU] at Ta;have HX:=Vh hx';clear hx';have HT:=Vh Ta;clear Ta;go_wp2_with fail
 refine ⟨rfl,?_⟩
 go_wp2
 exact bodyPost_end (results_none rfl _ _ _) rfl ⟨_,⟨rfl,g',HX.out,rfl⟩,HT.out.pick [0,1] rfl⟩
theorem Z7 (hx:Qf L x g) (e:Int) (hn:x.tr.length≤1000000):Qa prog 121 #[Qb kb,.int .i64 e] [Qq kb L.fb pv rv tv k,g] fun r gs =>
 r=.returned (.tuple #[])∧∃ g',Qf L (qi8 k { ev0 with kind:=9,err:=e } x) g'∧gs=[Qq kb L.fb pv rv tv (Jl e k),g']:=by
 refine GO fun w HT=>?_
 have HN:=Vh (Js (kb:=kb) (pv:=pv) (rv:=rv) (tv:=tv) (k:=k) hx { ev0 with kind:=9,err:=e } hn);clear hx hn;go_enter func121,ntmps121
 go_wp2_with fail
 refine (Qa.use (HN.out) (HT.out) [0,1] rfl rfl).mono ?_
 rintro e w1 ⟨gs,⟨rfl,g',hx',rfl⟩,Ta⟩;simp only [PU] at Ta;have HX:=Vh hx';clear hx';have HT:=Vh Ta;clear Ta;obtain ⟨c7,c8,c9,c10,c11⟩:=Ce5 (HT.out.cell 0 0 rfl) 7 8 9 10 11;obtain ⟨f7,f8,f9,f10,f11⟩:=Ce5 (HT.out.free 0 0 rfl) 7 8 9 10 11;simp only [Qo,GE3] at c7 c8 c9 c10 c11;go_wp2
 exact bodyPost_end (results_none rfl _ _ _) rfl ⟨_,⟨rfl,g',HX.out,rfl⟩,(((((HT.out.set 0 0 rfl 7 _).set 0 0 rfl 8 _).set 0 0 rfl 9 _).set 0 0 rfl 10 _).set 0 0 rfl 11 _).eq rfl⟩
end
def Qt.period (k:Qt):Int:=if k.kind=2 then k.cper else 0
def Qt.event (k:Qt):Int:=if k.kind=4 then 6 else if k.kind=5 then 7 else 8
theorem Zt.open {sb:Nat} {s:Qn} {g:List Blk} (h:Zt sb s g):∃ rb C D,g=[cl sb 206 C,cl rb 308 D]∧C.size=5∧C[0]?=some (.slice (some ⟨rb,0,none⟩) s.recs.length s.recs.length)∧cellAt C 1 (.int .i64 s.count)∧D.size=s.recs.length*6∧∀ i r,s.recs[i]?=some r→recAt D i r:=by
 obtain ⟨rb,m⟩:=h;unfold Y1 at m;cases m with
 | cons h1 m =>
   cases m with
   | cons h2 m =>
     cases m
     obtain ⟨C,rfl,a,b,c⟩:=h1;obtain ⟨D,rfl,d,e⟩:=h2;exact ⟨rb,C,D,rfl,a,b,c,d,e⟩
theorem qil {sb:Nat} {s:Qn} {g:List Blk} (h:Zt sb s g) (hn:s.recs.length≤64) (k:Int):Qe prog 193 #[Qb sb,.int .i64 k] [g] (.int .u64 (s.period k)):=by
 obtain ⟨rb,C,D,rfl,h1,h2,h3,h4,h5⟩:=h.open;refine GO fun w HT=>?_
 have c0:=(HT.out.cell 0 0 rfl 0).trans h2;by_cases hk:s.has k
 ·obtain ⟨j,rfl⟩:=Qn.has_nat hk
  obtain ⟨r,hr,hr'⟩:=Qn.has_at hk;have HP:=Vh (show s.period j=r.p from by unfold Qn.period;rw [if_pos hk,hr']);have c1:=(HT.out.cell 0 1 rfl (j*6+5)).trans (h5 j r hr).2.2;have hj:j<s.recs.length:=by unfold Qn.has at hk;omega
  clear h1 h2 h3 h4 h5 h hk hr hr';generalize s.recs.length=n at *
  have atc:∀ w',w'.cell? ⟨sb,0,none⟩=some (.slice (some ⟨rb,0,none⟩) n n)→Calls prog 209 #[Qb sb,.int .i64 (j:Int)] w' fun e w2=>e=.returned (.pointer (some ⟨rb,j*6,none⟩))∧w'=w2:=by
   intro w' c0';clear c0 c1 HT;go_enter func209,ntmps209
   go_wp2
   go_ret
   exact ⟨rfl,rfl⟩
  have HAT:=Vh (atc w c0);clear atc;go_enter func193,ntmps193
  go_wp2_with fail
  refine (HAT.out).mono ?_
  rintro e w2 ⟨rfl,rfl⟩;go_wp2
  go_ret
  exact ⟨by rw [HP.out];rfl,0,rfl⟩
 ·have HP:=Vh (show s.period k=0 from if_neg hk)
  have hk':¬ (0≤k∧k<s.recs.length):=hk;clear h1 h2 h3 h4 h5 h hk;generalize s.recs.length=n at *
  have atc:∀ w',w'.cell? ⟨sb,0,none⟩=some (.slice (some ⟨rb,0,none⟩) n n)→Calls prog 209 #[Qb sb,.int .i64 k] w' fun e w2=>e=.returned (.pointer none)∧w'=w2:=by
   intro w' c0';clear c0 HT;by_cases h0:0≤k
   ·have h9:(n:Int)≤k:=by omega
    clear hk';go_enter func209,ntmps209
    go_wp2
    go_ret
    exact ⟨rfl,rfl⟩
   ·have h9:k<0:=by omega
    clear hk' h0;go_enter func209,ntmps209
    go_wp2
    go_ret
    exact ⟨rfl,rfl⟩
  have HAT:=Vh (atc w c0);clear atc hk';go_enter func193,ntmps193
  go_wp2_with fail
  refine (HAT.out).mono ?_
  rintro e w2 ⟨rfl,rfl⟩;go_wp2
  go_ret
  exact ⟨by rw [HP.out];rfl,0,rfl⟩
section
variable {L:Lay} {x:Qj} {g:List Blk} {kb:Nat} {pv rv tv:Value} {k:Qt}
theorem qdd (hx:Qf L x g) (hn:x.slab.recs.length≤64) (i:Int):Qe prog 193 #[Qb L.p.sb,.int .i64 i] [g] (.int .u64 (x.slab.period i)):=by
 obtain ⟨tr,gF,gS,gR,gH,gT,h1,h2,h3,h4,h5,h6,rfl⟩:=hx;intro w hw;have T:=(TG.refl hw).sum (H':=[gF,gS,gR,gH,gT]);exact (qil h2 hn i).use T [1] rfl rfl
theorem qad:Qe prog 126 #[Qb kb] [Qq kb L.fb pv rv tv k] (.int .u64 k.period):=by
 by_cases h:k.kind=2
 ·have HE:=Vh (show k.period=k.cper from if_pos h)
  refine GO fun w HT=>?_
  obtain ⟨k3,k6⟩:=Ce2 (HT.out.cell 0 0 rfl) 3 6;simp only [Qo,GE3] at k3 k6;rw [h] at k3;clear h;go_enter func126,ntmps126
  go_wp2
  go_ret
  exact ⟨by rw [HE.out];rfl,0,rfl⟩
 ·have HE:=Vh (show k.period=0 from if_neg h)
  have hb:(k.kind == 2)=false:=beq_eq_false_iff_ne.2 h;refine GO fun w HT=>?_
  obtain ⟨k3,k6⟩:=Ce2 (HT.out.cell 0 0 rfl) 3 6;simp only [Qo,GE3] at k3 k6;clear h;go_enter func126,ntmps126
  go_wp2
  go_ret
  exact ⟨by rw [HE.out];rfl,0,rfl⟩
theorem Yr:Qe prog 192 #[Qb kb] [Qq kb L.fb pv rv tv k] (.int .i64 k.event):=by
 by_cases h:k.kind=4
 ·have HE:=Vh (show k.event=6 from if_pos h)
  refine GO fun w HT=>?_
  have k3:=HT.out.cell 0 0 rfl 3;simp only [Qo,GE3] at k3;rw [h] at k3;clear h;go_enter func192,ntmps192
  go_wp2
  go_ret
  exact ⟨by rw [HE.out];rfl,0,rfl⟩
 ·have hb:(k.kind == 4)=false:=beq_eq_false_iff_ne.2 h
  by_cases h':k.kind=5
  ·have HE:=Vh (show k.event=7 from (if_neg h).trans (if_pos h'))
   refine GO fun w HT=>?_
   have k3:=HT.out.cell 0 0 rfl 3;simp only [Qo,GE3] at k3;rw [h'] at k3;clear h h' hb;go_enter func192,ntmps192
   go_wp2
   go_ret
   exact ⟨by rw [HE.out];rfl,0,rfl⟩
  ·have hb':(k.kind == 5)=false:=beq_eq_false_iff_ne.2 h'
   have HE:=Vh (show k.event=8 from (if_neg h).trans (if_neg h'));refine GO fun w HT=>?_
   have k3:=HT.out.cell 0 0 rfl 3;simp only [Qo,GE3] at k3;clear h h';go_enter func192,ntmps192
   go_wp2
   go_ret
   exact ⟨by rw [HE.out];rfl,0,rfl⟩
theorem Xr {fn:FuncId} {first caps:Array Value}:Qa prog 92 #[.func (.func fn) first caps] [] fun e gs=>e=.returned (.agg #[.nilFunc,.func (.func fn) first caps])∧gs=[]:=by
 refine GO fun w HT=>?_
 go_enter func92,ntmps92
 go_wp2
 exact bodyPost_ret (v:=.agg #[.nilFunc,.func (.func fn) first caps]) (by simp [results,results92,go_sem]) rfl ⟨_,⟨rfl,rfl⟩,HT.out.alloc0 _⟩
end
structure qo (x:Qj):Prop where
 slab:Zm x.slab
 i0:0≤x.f.inside
 i1:x.f.inside≤1000000
 tr:x.tr.length≤1000000
 sh:1≤x.shs.length
 ring:∀ s∈x.shs,qd s.ring
theorem J5 {s:Qn} (h:Zm s) (k:Int):0≤s.word k∧s.word k<18446744073709551616∧okW (s.word k)=true:=by
 unfold Qn.word;split
 ·next hk =>
  obtain ⟨j,rfl⟩:=Qn.has_nat hk;obtain ⟨r,hr,hr'⟩:=Qn.has_at hk;rw [hr'];have:=h.recs r (List.mem_of_getElem? hr);exact ⟨this.w0,this.w1,this.ok⟩
 ·exact ⟨by omega,by omega,by decide⟩
def qd8 (k:Int) (ev:Int) (s:Qn):Qn × Int:=((s.try k (s.word k) ev).1,(s.try k (s.word k) ev).2.1)
def qc5 (ev:Int) (k:Qt) (s:Qn):Qt:={ k with gen:=Zp (qd8 k.slot ev s).2 }
def lookW (k:Qt) (s:Qn):Qt × Int :=
 if s.serr k.id≠0 then (k,s.serr k.id) else
  if s.mine k.id=false then ({ k with slot:=s.slot k.id,saw:=s.word (s.slot k.id) },7)
  else ({ k with slot:=s.slot k.id,saw:=s.word (s.slot k.id) },(Za (s.word (s.slot k.id)) k.event (decide (0<s.period (s.slot k.id)))).2)
theorem q0t (n e:Int) (p:Bool) (h0:0≤n) (h1:n<18446744073709551616):Qe prog 191 #[.int .u64 n,.int .i64 e,.bool p] [] (.tuple #[.int .u64 (Za n e p).1,.int .i64 (Za n e p).2]) :=
 fun w hw=>(qaw n e p w h0 h1).mono fun e w' ⟨he,hw'⟩=>⟨he,0,hw'.symm⟩
section
variable {L:Lay} {x:Qj} {g:List Blk} {kb:Nat} {pv rv tv:Value} {k:Qt}
theorem qey (hx:Qf L x g) (ho:qo x) (ev:Int):Qa prog 198 #[Qb kb,.int .i64 ev] [Qq kb L.fb pv rv tv k,g] fun r gs =>
 r=.returned (.tuple #[])∧∃ g',Qf L { x with slab:=(qd8 k.slot ev x.slab).1 } g'∧gs=[Qq kb L.fb pv rv tv (qc5 ev k x.slab),g']:=by
 obtain ⟨w0,w1,w2⟩:=J5 ho.slab k.slot;have tb:=qh5 ho.slab k.slot (x.slab.word k.slot) ev w0 w1 w2;have HW:=Vh (q8 hx ho.slab.n1 k.slot);have HY:=Vh (show ∀ g',Qf L x g'→_ from fun g' hx'=>qch (g:=g') hx' ho.slab.n1 k.slot (x.slab.word k.slot) ev w0 w1);have HE:=Vh (show qd8 k.slot ev x.slab=((x.slab.try k.slot (x.slab.word k.slot) ev).1,(x.slab.try k.slot (x.slab.word k.slot) ev).2.1)∧qc5 ev k x.slab={ k with gen:=Zp (x.slab.try k.slot (x.slab.word k.slot) ev).2.1 } from ⟨rfl,rfl⟩);have HTB:=Vh tb;refine GO fun w HT=>?_
 obtain ⟨k0,k16⟩:=Ce2 (HT.out.cell 0 0 rfl) 0 16;simp only [Qo,GE3] at k0 k16;have HX:=Vh hx;clear hx ho w0 w1 w2 tb;go_enter func198,ntmps198
 go_wp2
 refine Qc 9 (by kernel_rfl) (by kernel_rfl) ?_
 simp only [TD4]
 repeat (go_big_quiet_step ((first | (go_at_call 124;with_reducible exact Qe.quiet (Qk HX.out) HT.out _ [1] rfl rfl))))
 refine wpQuiet_nil (QE fun nq=>?_)
 have HT:=Vh (HT.out.drewN nq);go_wp2_with fail
 refine (Qa.use (HW.out) (HT.out) [1] rfl rfl).mono ?_
 rintro e w1 ⟨gs,⟨rfl,g1,hx1,rfl⟩,Ta⟩;simp only [PU] at Ta;have HX:=Vh hx1;clear hx1 k0 k16;have HT:=Vh Ta;clear Ta;go_wp2_with fail
 refine ⟨rfl,?_⟩
 obtain ⟨k0,k16⟩:=Ce2 (HT.out.cell 0 0 rfl) 0 16;simp only [Qo,GE3] at k0 k16;go_wp2
 refine Qc 11 (by kernel_rfl) (by kernel_rfl) ?_
 simp only [TD4]
 repeat (go_big_quiet_step ((first | (go_at_call 124;with_reducible exact Qe.quiet (Qk HX.out) HT.out _ [1] rfl rfl))))
 refine wpQuiet_nil (QE fun nq=>?_)
 have HT:=Vh (HT.out.drewN nq);go_wp2_with fail
 refine (Qa.use (HY.out _ HX.out) (HT.out) [1] rfl rfl).mono ?_
 rintro e w1 ⟨gs,⟨rfl,g2,hx2,rfl⟩,Ta⟩;simp only [PU] at Ta;have HX2:=Vh hx2;clear hx2 k0 k16;have HT:=Vh Ta;clear Ta;go_wp2_with fail
 refine ⟨rfl,?_⟩
 have k18:=HT.out.cell 0 0 rfl 18;have fk18:=HT.out.free 0 0 rfl 18;simp only [Qo,GE3] at k18;go_wp2_with (go_at_call 195;refine (qbo _ _ HTB.out.1 HTB.out.2).mono ?_;rintro e w' ⟨rfl,rfl⟩)
 exact bodyPost_end (results_none rfl _ _ _) rfl ⟨_,⟨rfl,g2,by rw [HE.out.1];exact HX2.out,rfl⟩,(HT.out.set 0 0 rfl 18 _).eq (by rw [HE.out.2];rfl)⟩
theorem qmm (hx:Qf L x g) (ho:qo x) (h0:0≤k.id) (h9:k.id<18446744073709551616):Qa prog 154 #[Qb kb] [Qq kb L.fb pv rv tv k,g] fun r gs =>
 r=.returned (.int .i64 (lookW k x.slab).2)∧∃ g',Qf L x g'∧gs=[Qq kb L.fb pv rv tv (lookW k x.slab).1,g']:=by
 have HSL:=Vh (show ∀ g',Qf L x g'→_ from fun g' hx'=>qwk (g:=g') hx' ho.slab.n1 k.id h0 h9);by_cases h1:x.slab.serr k.id≠0
 ·have HE:=Vh (show lookW k x.slab=(k,x.slab.serr k.id) from if_pos h1)
  have hb:(x.slab.serr k.id != 0)=true:=bne_iff_ne.2 h1;have HX:=Vh hx;refine GO fun w HT=>?_
  obtain ⟨k0,k15⟩:=Ce2 (HT.out.cell 0 0 rfl) 0 15;simp only [Qo,GE3] at k0 k15;clear hx ho h0 h9 h1;go_enter func154,ntmps154
  go_wp2
  refine Qc 9 (by kernel_rfl) (by kernel_rfl) ?_
  simp only [TD4]
  repeat (go_big_quiet_step ((first | (go_at_call 124;with_reducible exact Qe.quiet (Qk HX.out) HT.out _ [1] rfl rfl))))
  refine wpQuiet_nil (QE fun nq=>?_)
  have HT:=Vh (HT.out.drewN nq);go_wp2_with fail
  refine (Qa.use (HSL.out _ HX.out) (HT.out) [1] rfl rfl).mono ?_
  rintro e w1 ⟨gs,⟨rfl,g1,hx1,rfl⟩,Ta⟩;simp only [PU] at Ta;have HX:=Vh hx1;clear hx1 k0 k15;have HT:=Vh Ta;clear Ta;go_wp2_with fail
  refine ⟨rfl,?_⟩
  go_wp2
  go_ret
  exact ⟨_,⟨by rw [HE.out];rfl,g1,HX.out,rfl⟩,HT.out.eq (by rw [HE.out])⟩
 ·have h1:x.slab.serr k.id=0:=by omega
  have HS0:=Vh h1;obtain ⟨sl,hsl⟩:∃ sl,x.slab.slot k.id=sl:=⟨_,rfl⟩;have HSL0:=Vh hsl;have HWD:=Vh (show ∀ g',Qf L x g'→_ from fun g' hx'=>q8 (g:=g') hx' ho.slab.n1 sl);have HMI:=Vh (show ∀ g',Qf L x g'→_ from fun g' hx'=>qnf (g:=g') hx' ho.slab.n1 k.id h0 h9);have HPE:=Vh (show ∀ g',Qf L x g'→_ from fun g' hx'=>qdd (g:=g') hx' ho.slab.n1 sl);have HWB:=Vh (J5 ho.slab sl);rw [h1,hsl] at HSL;have HX:=Vh hx;cases hm:x.slab.mine k.id with
  | false =>
    have HE:=Vh (show lookW k x.slab=({ k with slot:=sl,saw:=x.slab.word sl },7) from by unfold lookW;rw [if_neg (by rw [h1];simp),if_pos hm,hsl]);rw [hm] at HMI;refine GO fun w HT=>?_
    obtain ⟨k0,k15⟩:=Ce2 (HT.out.cell 0 0 rfl) 0 15;simp only [Qo,GE3] at k0 k15;clear hx ho h0 h9 h1 hsl hm;go_enter func154,ntmps154
    go_wp2
    refine Qc 9 (by kernel_rfl) (by kernel_rfl) ?_
    simp only [TD4]
    repeat (go_big_quiet_step ((first | (go_at_call 124;with_reducible exact Qe.quiet (Qk HX.out) HT.out _ [1] rfl rfl))))
    refine wpQuiet_nil (QE fun nq=>?_)
    have HT:=Vh (HT.out.drewN nq);go_wp2_with fail
    refine (Qa.use (HSL.out _ HX.out) (HT.out) [1] rfl rfl).mono ?_
    rintro e w1 ⟨gs,⟨rfl,g1,hx1,rfl⟩,Ta⟩;simp only [PU] at Ta;have HX:=Vh hx1;clear hx1 k0 k15;have HT:=Vh Ta;clear Ta;go_wp2_with fail
    refine ⟨rfl,?_⟩
    obtain ⟨k0,k16⟩:=Ce2 (HT.out.cell 0 0 rfl) 0 16;have fk16:=HT.out.free 0 0 rfl 16;simp only [Qo,GE3] at k0 k16;go_wp2_with fail
    have HT:=Vh (HT.out.set 0 0 rfl 16 (.int .i64 sl));go_wp2_with fail
    refine (Qe.use (Qk HX.out) (HT.out) [1] rfl rfl).mono ?_
    rintro e w1 ⟨rfl,mq,rfl⟩;have HT:=Vh (HT.out.drewN mq);go_wp2_with fail
    refine (Qa.use (HWD.out _ HX.out) (HT.out) [1] rfl rfl).mono ?_
    rintro e w1 ⟨gs,⟨rfl,g2,hx2,rfl⟩,Ta⟩;simp only [PU] at Ta;have HX:=Vh hx2;clear hx2 k0 k16 fk16;have HT:=Vh Ta;clear Ta;obtain ⟨k0,k15,k17⟩:=Ce3 (HT.out.cell 0 0 rfl) 0 15 17;have fk17:=HT.out.free 0 0 rfl 17;simp only [Qo,GE3] at k0 k15 k17;go_wp2
    have HT:=Vh (HT.out.set 0 0 rfl 17 (.int .u64 (x.slab.word sl)));refine Qc 9 (by kernel_rfl) (by kernel_rfl) ?_
    simp only [TD4]
    repeat (go_big_quiet_step ((first | (go_at_call 124;with_reducible exact Qe.quiet (Qk HX.out) HT.out _ [1] rfl rfl))))
    refine wpQuiet_nil (QE fun nq=>?_)
    have HT:=Vh (HT.out.drewN nq);go_wp2_with fail
    refine (Qa.use (HMI.out _ HX.out) (HT.out) [1] rfl rfl).mono ?_
    rintro e w1 ⟨gs,⟨rfl,g3,hx3,rfl⟩,Ta⟩;simp only [PU] at Ta;have HX:=Vh hx3;clear hx3 k0 k15 k17 fk17;have HT:=Vh Ta;clear Ta;go_wp2_with fail
    refine ⟨rfl,?_⟩
    go_wp2
    go_ret
    exact ⟨_,⟨by rw [HE.out];rfl,g3,HX.out,rfl⟩,HT.out.eq (by rw [HE.out];rfl)⟩
  | true =>
    have HE:=Vh (show lookW k x.slab=({ k with slot:=sl,saw:=x.slab.word sl },(Za (x.slab.word sl) k.event (decide (0<x.slab.period sl))).2) from by unfold lookW;rw [if_neg (by rw [h1];simp),if_neg (by rw [hm];simp),hsl]);rw [hm] at HMI;refine GO fun w HT=>?_
    obtain ⟨k0,k15⟩:=Ce2 (HT.out.cell 0 0 rfl) 0 15;simp only [Qo,GE3] at k0 k15;clear hx ho h0 h9 h1 hsl hm;go_enter func154,ntmps154
    go_wp2
    refine Qc 9 (by kernel_rfl) (by kernel_rfl) ?_
    simp only [TD4]
    repeat (go_big_quiet_step ((first | (go_at_call 124;with_reducible exact Qe.quiet (Qk HX.out) HT.out _ [1] rfl rfl))))
    refine wpQuiet_nil (QE fun nq=>?_)
    have HT:=Vh (HT.out.drewN nq);go_wp2_with fail
    refine (Qa.use (HSL.out _ HX.out) (HT.out) [1] rfl rfl).mono ?_
    rintro e w1 ⟨gs,⟨rfl,g1,hx1,rfl⟩,Ta⟩;simp only [PU] at Ta;have HX:=Vh hx1;clear hx1 k0 k15;have HT:=Vh Ta;clear Ta;go_wp2_with fail
    refine ⟨rfl,?_⟩
    obtain ⟨k0,k16⟩:=Ce2 (HT.out.cell 0 0 rfl) 0 16;have fk16:=HT.out.free 0 0 rfl 16;simp only [Qo,GE3] at k0 k16;go_wp2_with fail
    have HT:=Vh (HT.out.set 0 0 rfl 16 (.int .i64 sl));go_wp2_with fail
    refine (Qe.use (Qk HX.out) (HT.out) [1] rfl rfl).mono ?_
    rintro e w1 ⟨rfl,mq,rfl⟩;have HT:=Vh (HT.out.drewN mq);go_wp2_with fail
    refine (Qa.use (HWD.out _ HX.out) (HT.out) [1] rfl rfl).mono ?_
    rintro e w1 ⟨gs,⟨rfl,g2,hx2,rfl⟩,Ta⟩;simp only [PU] at Ta;have HX:=Vh hx2;clear hx2 k0 k16 fk16;have HT:=Vh Ta;clear Ta;obtain ⟨k0,k15,k17⟩:=Ce3 (HT.out.cell 0 0 rfl) 0 15 17;have fk17:=HT.out.free 0 0 rfl 17;simp only [Qo,GE3] at k0 k15 k17;go_wp2
    have HT:=Vh (HT.out.set 0 0 rfl 17 (.int .u64 (x.slab.word sl)));refine Qc 9 (by kernel_rfl) (by kernel_rfl) ?_
    simp only [TD4]
    repeat (go_big_quiet_step ((first | (go_at_call 124;with_reducible exact Qe.quiet (Qk HX.out) HT.out _ [1] rfl rfl))))
    refine wpQuiet_nil (QE fun nq=>?_)
    have HT:=Vh (HT.out.drewN nq);go_wp2_with fail
    refine (Qa.use (HMI.out _ HX.out) (HT.out) [1] rfl rfl).mono ?_
    rintro e w1 ⟨gs,⟨rfl,g3,hx3,rfl⟩,Ta⟩;simp only [PU] at Ta;have HX:=Vh hx3;clear hx3 k0 k15 k17 fk17;have HT:=Vh Ta;clear Ta;go_wp2_with fail
    refine ⟨rfl,?_⟩
    have HT:=Vh (HT.out.eq (H':=[Qq kb L.fb pv rv tv { k with slot:=sl,saw:=x.slab.word sl },g3]) rfl);obtain ⟨k0,k17⟩:=Ce2 (HT.out.cell 0 0 rfl) 0 17;simp only [Qo,GE3] at k0 k17;go_wp2
    go_quiet ((first | (go_at_call 124;with_reducible exact Qe.quiet (Qk HX.out) HT.out _ [1] rfl rfl) | (go_at_call 192;with_reducible exact Qe.quiet (Yr (L:=L)) HT.out _ [0] rfl rfl) | (go_at_call 193;with_reducible exact Qe.quiet (HPE.out _ HX.out) HT.out _ [1] rfl rfl) | (go_at_call 191;with_reducible exact Qe.quiet (q0t _ _ _ HWB.out.1 HWB.out.2.1) HT.out _ [] rfl rfl)))
    have HT:=Vh (HT.out.drewN nq);go_wp2
    go_ret
    exact ⟨_,⟨by rw [HE.out];rfl,g3,HX.out,rfl⟩,HT.out.eq (by rw [HE.out])⟩
end
inductive MC where
 | right | enter | gate | asks | queues | submits | fills | looks | again | tries | ends | leaves
inductive AC where
 | ends1 | leaves1 | undo | drop | tries1 | again1
abbrev SC:Type:=St MC AC Empty
abbrev ZC:Type:=Qt × Qj
def Ji:SC:=.thn (.row1 .leaves1) .ends
def Zx (k:Qt):SC:=if k.kind=4∨k.kind=5 then .row1 .ends1 else Ji
def Ql (e:Int) (z:ZC):ZC:=(Jl e z.1,qi8 z.1 { ev0 with kind:=9,err:=e } z.2)
def okC (k:Qt):Qt:={ k with err:=0,ok:=true,aid:=k.id,agen:=k.gen }
def Y2 (v:Qm) (z:ZC):ZC :=
 match z.1.tk with
 | none=>z
 | some (i,t)=>match z.2.shs[i]? with
   | none=>z
   | some s=>({ z.1 with tk:=some (i,(Zs s.ring t v).2.1) },{ z.2 with shs:=z.2.shs.set i { s with ring:=(Zs s.ring t v).1 } })
def Y4 (slot:Int) (x:Qj):Nat:=(slot % (x.shs.length:Int)).toNat
def qt6 (k:Qt):Prop:=k.kind=2∧(k.cper=0∨18446744073709551616≤k.cdl+k.cper)
instance (k:Qt):Decidable (qt6 k):=by unfold qt6;infer_instance
def Y8 (ev:Int) (z:ZC):ZC:=(qc5 ev z.1 z.2.slab,{ z.2 with slab:=(qd8 z.1.slot ev z.2.slab).1 })
def qx (z:ZC):ZC × Int:=(({ z.1 with gen:=Zp (z.2.slab.try z.1.slot z.1.saw z.1.event).2.1 },{ z.2 with slab:=(z.2.slab.try z.1.slot z.1.saw z.1.event).1 }),(z.2.slab.try z.1.slot z.1.saw z.1.event).2.2)
def X4 (z:ZC):ZC × Int:=(((lookW z.1 z.2.slab).1,z.2),(lookW z.1 z.2.slab).2)
def zv (z:ZC):Qm:=⟨z.1.id,z.1.slot,z.1.gen,z.1.cdl,z.2.slab.period z.1.slot⟩
def z8 (E:EvS) (z:ZC):ZC:=(z.1,qi8 z.1 E z.2)
def qcd (z:ZC) (q:Req):SC × ZC :=
 let r:=Zu z.2.slab q
 let x':={ z.2 with slab:=r.1 }
 if r.2.st=1 then (Ji,Ql 2 ({ z.1 with rq:=some r.2 },x'))
 else if r.2.st=2 then (.at none .queues,({ z.1 with rq:=some r.2,id:=r.2.id,slot:=r.2.id % 64,tk:=some (Y4 (r.2.id % 64) z.2,Xm) },x'))
 else (.at none .asks,({ z.1 with rq:=some r.2 },x'))
def Z1 (z:ZC) (i:Nat) (t:Xt) (s:Q0):SC × ZC :=
 let r:=stepT s.ring t
 let z':ZC:=({ z.1 with tk:=some (i,r.2) },{ z.2 with shs:=z.2.shs.set i { s with ring:=r.1 } })
 if r.2.status=0 then (.at none .queues,z')
 else if r.2.status=1∧z.1.kind=3 then (Ji,Ql 2 z')
 else if r.2.status=1 then (.thn (.row2 .undo .drop) .leaves,z')
 else if z.1.kind=3 then (.at none .again,z')
 else (.at none .submits,z')
def zr:MC→ZC→SC × ZC
 | .ends,z=>(.row1 .ends1,z)
 | .leaves,z=>(Ji,z)
 | .right,z=>if qt6 z.1 then (.row1 .ends1,Ql 1 z) else (.at none .enter,z)
 | .enter,z=>(.at none .gate,(z.1,{ z.2 with f:={ z.2.f with inside:=z.2.f.inside+1 } }))
 | .gate,z=>if z.2.f.closed=true then (Zx z.1,Ql 3 z)
    else if z.1.kind=1∨z.1.kind=2 then (.at none .asks,({ z.1 with rq:=some ⟨z.1.period,0,0,0,0,0⟩ },z.2))
    else (.at none .looks,z)
 | .asks,z=>match z.1.rq with
   | none=>(.nil,z)
   | some q=>qcd z q
 | .queues,z=>match z.1.tk with
   | none=>(.nil,z)
   | some (i,t)=>match z.2.shs[i]? with
     | none=>(.nil,z)
     | some s=>Z1 z i t s
 | .submits,z=>(.at none .fills,z8 { ev0 with kind:=3,id:=(Y8 2 z).1.id,gen:=(Y8 2 z).1.gen,dl:=(Y8 2 z).1.cdl,per:=(Y8 2 z).1.period } (Y8 2 z))
 | .fills,z=>(Ji,(okC (Y2 (zv z) z).1,(Y2 (zv z) z).2))
 | .looks,z =>
   if (X4 z).2=0 then
    (if z.1.kind=3 then (.at none .queues,({ (X4 z).1.1 with tk:=some (Y4 (X4 z).1.1.slot z.2,Xm) },z.2)) else (.at none .tries,(X4 z).1))
   else if (X4 z).2=1 then (Zx z.1,Ql 1 (X4 z).1)
   else (Zx z.1,Ql 0 (X4 z).1)
 | .again,z=>if (X4 z).2=0 then (.at none .tries,(X4 z).1) else (.thn (.row1 .again1) .leaves,Ql 0 (X4 z).1)
 | .tries,z =>
   if (qx z).2≠0 then (if z.1.kind=3 then (.at none .again,(qx z).1) else (.at none .looks,(qx z).1))
   else if z.1.kind=3 then (.at none .fills,z8 { ev0 with kind:=6,id:=z.1.id,gen:=(qx z).1.1.gen,dl:=z.1.cdl } (okC (qx z).1.1,(qx z).1.2))
   else if z.1.kind=5 then (.row1 .ends1,z8 { ev0 with kind:=8,id:=z.1.id,gen:=(qx z).1.1.gen } (okC (qx z).1.1,(qx z).1.2))
   else (.thn (.row2 .tries1 .drop) .ends,z8 { ev0 with kind:=7,id:=z.1.id,gen:=(qx z).1.1.gen } (okC (qx z).1.1,(qx z).1.2))
def runA:AC→ZC→ZC
 | .ends1,z=>z8 { ev0 with kind:=2,id:=z.1.aid,gen:=z.1.agen,err:=z.1.err } z
 | .leaves1,z=>(z.1,{ z.2 with f:={ z.2.f with inside:=Zf z.2.f.inside } })
 | .undo,z=>Ql 2 (Y8 9 z)
 | .drop,z=>(z.1,{ z.2 with slab:=z.2.slab.drop.1 })
 | .tries1,z=>Y8 10 z
 | .again1,z=>Y2 { Qm.zero with slot:=-1 } z
structure qmn (k:Qt) (x:Qj):Prop where
 c0:0≤k.cdl∧k.cdl<18446744073709551616
 c1:0≤k.cper∧k.cper<18446744073709551616
 id:0≤k.id∧k.id<18446744073709551616
 slot:0≤k.slot
 saw:0≤k.saw∧k.saw<18446744073709551616∧okW k.saw=true
 rq:∀ q,k.rq=some q→qhc x.slab.recs.length q
 tk:∀ i t,k.tk=some (i,t)→qet t∧i<x.shs.length
def qdq (f:MC) (z:ZC):Prop:=qo z.2∧qmn z.1 z.2∧(match f with
 | .asks=>z.1.rq.isSome=true∧∀ q,z.1.rq=some q→q.st=0
 | .queues | .fills=>z.1.tk.isSome=true
 | _=>True)
def qj9 (f:AC) (z:ZC):Prop:=qo z.2∧qmn z.1 z.2∧(match f with
 | .again1=>z.1.tk.isSome=true
 | _=>True)
def qw3 (sb:Nat):Option Req→Value→List Blk→Prop
 | none,v,g=>v=.pointer none∧g=[]
 | some q,v,g=>∃ qb,v=Qb qb∧g=qc7 qb sb q
def qwz (L:Lay):Option (Nat × Xt)→Value→List Blk→Prop
 | none,v,g=>v=.pointer none∧g=[]
 | some (i,t),v,g=>∃ tb q,L.qs[i]?=some q∧v=Qb tb∧g=Xa tb q.rb t
def qec (L:Lay) (kb:Nat) (pv:Value) (k:Qt) (x:Qj) (gK gF:List Blk):Prop :=
 ∃ rv tv gq gt,qw3 L.p.sb k.rq rv gq∧qwz L k.tk tv gt∧gK=Qq kb L.fb pv rv tv k++(gq++gt)∧Qf L x gF
def repC (L:Lay) (kb:Nat) (pv:Value) (z:ZC) (gK gF:List Blk):Prop:=qec L kb pv z.1 z.2 gK gF
def fnMC:MC→FuncId
 | .right=>93
 | .enter=>94
 | .gate=>95
 | .asks=>127
 | .queues=>153
 | .submits=>188
 | .fills=>196
 | .looks=>128
 | .again=>187
 | .tries=>155
 | .ends=>122
 | .leaves=>148
def VMC (kb:Nat) (f:MC) (v:Value) (g:List Blk):Prop:=v=.func (.func (fnMC f)) #[Qb kb] #[]∧g=[]
def clo (kb:Nat) (fn:FuncId) (v:Value) (g:List Blk):Prop:=∃ bk,v=.func (.func fn) #[] #[Qb bk]∧g=[cl bk 135 #[Qb kb]]
def VAC (kb:Nat):AC→Value→List Blk→Prop
 | .ends1,v,g=>clo kb 147 v g
 | .leaves1,v,g=>clo kb 176 v g
 | .undo,v,g=>v=.func (.func 185) #[Qb kb] #[]∧g=[]
 | .drop,v,g=>v=.func (.func 186) #[Qb kb] #[]∧g=[]
 | .tries1,v,g=>clo kb 197 v g
 | .again1,v,g=>clo kb 221 v g
def qfe (L:Lay) (kb:Nat) (pv:Value):Cli :=
 ⟨MC,AC,Empty,ZC,repC L kb pv,VMC kb,VAC kb,fun _ _ _=>False,zr,runA,(fun y _=>y.elim),qdq,qj9,fun _ _=>True⟩
def MR (L:Lay) (kb:Nat) (pv:Value) (s:SC) (k:Qt) (x:Qj) (e:Ending) (gs:GH):Prop :=
 ∃ m d g' gK' gF',e=.returned (.agg #[m,d])∧(qfe L kb pv).SV s m d g'∧qec L kb pv k x gK' gF'∧gs=[g',gK',gF']
section
variable {L:Lay} {x:Qj} {gK gF:List Blk} {kb:Nat} {pv:Value} {k:Qt}
theorem q0i (hz:qec L kb pv k x gK gF) (hp:qdq .enter (k,x)):Qa prog 94 #[Qb kb] [gK,gF] (MR L kb pv (.at none .gate) k { x with f:={ x.f with inside:=x.f.inside+1 } }):=by
 have hi0:=hp.1.i0;have hi1:=hp.1.i1;obtain ⟨rv,tv,gq,gt,hr,ht,rfl,hx⟩:=hz;refine GO fun w HT=>?_
 have HT:=Vh (HT.out.sum (H':=[Qq kb L.fb pv rv tv k,gq,gt,gF]));have HX:=Vh hx;have HR:=Vh hr;have HTK:=Vh ht;clear hx hr ht;have k0:=HT.out.cell 0 0 rfl 0;simp only [Qo,GE3] at k0;have lt:=HT.out.lt 0 0 rfl;simp only [] at lt;have HE:=Vh (qjt HX.out ⟨hi0,hi1⟩);clear hp hi0 hi1;go_enter func94,ntmps94
 go_wp2_with fail
 refine (Qa.use (HE.out) (HT.out.alloc (k:=w.heap.size) rfl _ _) [3] rfl rfl).mono ?_
 rintro e w1 ⟨gs,⟨rfl,g1,hx1,rfl⟩,Ta⟩;simp only [PU] at Ta;have HX:=Vh hx1;clear hx1 k0 lt;have HT:=Vh Ta;clear Ta;go_wp2_with fail
 refine Qa.run (Xr) (HT.out) [] ?_
 rintro e w1 gs ⟨rfl,rfl⟩ HT;simp only [PU] at HT;obtain ⟨e0,e1⟩:=Ce2 (HT.out.cell 4 0 rfl) 0 1;obtain ⟨fe0,fe1⟩:=Ce2 (HT.out.free 4 0 rfl) 0 1;simp only [GE4] at e0 e1;go_wp2
 exact bodyPost_ret (v:=.agg #[.nilFunc,.func (.func 95) #[Qb kb] #[]]) (by simp [results,results94,go_sem,e0,e1]) rfl ⟨_,⟨_,_,[],_,_,rfl,⟨rfl,rfl,rfl⟩,⟨_,_,gq,gt,HR.out,HTK.out,rfl,HX.out⟩,rfl⟩,(((HT.out.set 4 0 rfl 0 _).set 4 0 rfl 1 _).pick [0,1,2,3] rfl).sum⟩
theorem Q5 (L:Lay) (kb:Nat) (pv:Value):(qfe L kb pv).Vals where
 vm h:=⟨_,_,_,h.1⟩
 va {f v g} h:=by
  cases f
  case undo=>exact ⟨_,_,_,h.1⟩
  case drop=>exact ⟨_,_,_,h.1⟩
  all_goals (obtain ⟨bk,h,_⟩:=h;exact ⟨_,_,_,h⟩)
 vy h:=h.elim
def SR (L:Lay) (kb:Nat) (pv:Value) (s:SC) (e:Ending) (gs:GH):Prop:=∃ m d g',e=.returned (.agg #[m,d])∧(qfe L kb pv).SV s m d g'∧gs=[g']
end
section
variable {L:Lay} {x:Qj} {gK gF:List Blk} {kb:Nat} {pv:Value} {k:Qt}
theorem qoe (L:Lay) (kb:Nat) (pv:Value):Qa prog 122 #[Qb kb] [] (SR L kb pv (.row1 .ends1)):=by
 refine GO fun w HT=>?_
 go_enter func122,ntmps122
 go_wp2_with fail
 refine Qa.run (Cli.row_1 (b:=w.heap.size+1+1) (o:=0) (D:=#[.func (.func 147) #[] #[Qb w.heap.size]]) rfl 1 (.inl rfl)) (((HT.out.alloc (k:=w.heap.size) rfl _ _).alloc (k:=w.heap.size+1) (by simp) _ _).alloc (k:=w.heap.size+1+1) (by simp) _ _) [2] ?_
 rintro e w1 gs ⟨bf,bl,bi,rfl,rfl⟩ HT;simp only [PU] at HT;obtain ⟨e0,e1⟩:=Ce2 (HT.out.cell 1 0 rfl) 0 1;obtain ⟨fe0,fe1⟩:=Ce2 (HT.out.free 1 0 rfl) 0 1;simp only [GE4] at e0 e1;go_wp2
 exact bodyPost_ret (v:=.agg #[.nilFunc,_]) (by simp [results,results122,go_sem,e0,e1]) rfl ⟨_,⟨_,_,_,rfl,⟨rfl,bf,bl,bi,w.heap.size+1+1,0,#[.func (.func 147) #[] #[Qb w.heap.size]],_,_,rfl,⟨w.heap.size,rfl,rfl⟩,rfl,rfl⟩,rfl⟩,(((HT.out.set 1 0 rfl 0 _).set 1 0 rfl 1 _).pick [0,2,3,4,5] rfl).sum⟩
theorem qeh (L:Lay) (kb:Nat) (pv:Value):Qa prog 148 #[Qb kb] [] (SR L kb pv Ji):=by
 have hrow:∀ (bk b bf bl bi:Nat),(qfe L kb pv).SV (.row1 .leaves1) .nilFunc (.func (.func 166) #[] #[Qb bf,Qb bl,Qb bi])
  ([cl bf 1 #[.func (.func 176) #[] #[Qb bk]],cl bl 282 #[.slice (some ⟨b,0,none⟩) 1 1],cl bi 3 #[.int .i64 0],cl b 1 #[.func (.func 176) #[] #[Qb bk]]]++[cl bk 135 #[Qb kb]]) :=
  fun bk b bf bl bi=>⟨rfl,bf,bl,bi,b,0,_,_,_,rfl,⟨bk,rfl,rfl⟩,rfl,rfl⟩
 have hthen:∀ (bk b bf bl bi:Nat),_:=fun bk b bf bl bi=>Cli.prog_then_cons (f:=MC.ends) (v:=.func (.func 122) #[Qb kb] #[]) (gm:=[]) (Q5 L kb pv) rfl (hrow bk b bf bl bi) ⟨rfl,rfl⟩
 refine GO fun w HT=>?_
 have HTH:=Vh hthen;clear hrow hthen;go_enter func148,ntmps148
 go_wp2_with fail
 have HT:=Vh ((HT.out.alloc (k:=w.heap.size) rfl 135 #[Qb kb]).alloc (k:=w.heap.size+1) (by simp) 180 #[.nilFunc,.nilFunc])
 go_region_with (first
  | (go_at_call 138
     refine (Qa.use (Cli.row_1 (b:=w.heap.size+1+1) (o:=0) (D:=#[.func (.func 176) #[] #[Qb w.heap.size]]) rfl 1 (.inl rfl)) (HT.out.drew.alloc (k:=w.heap.size+1+1) (by simp) _ _) [2] rfl rfl).mono ?_
     rintro e w1 ⟨gs,⟨bf,bl,bi,rfl,rfl⟩,Ta⟩;simp only [PU] at Ta;have b0:=Ta.cell 0 0 rfl 0;simp only [GE2] at b0;have HT1:=Vh (Ta.sum (H':=[[cl bf 1 #[.func (.func 176) #[] #[Qb w.heap.size]],cl bl 282 #[.slice (some ⟨w.heap.size+1+1,0,none⟩) 1 1],cl bi 3 #[.int .i64 0],cl (w.heap.size+1+1) 1 #[.func (.func 176) #[] #[Qb w.heap.size]]]++[cl w.heap.size 135 #[Qb kb]],[cl (w.heap.size+1) 180 #[.nilFunc,.nilFunc]],[]]))
     clear Ta)
  | (go_at_call 140
     refine (Qa.use (HTH.out _ _ _ _ _) HT1.out [0,2] rfl rfl).mono ?_
     rintro e w2 ⟨gs,⟨m2,d2,g2,rfl,hs2,rfl⟩,Ta⟩;simp only [PU] at Ta;obtain ⟨e0,e1⟩:=Ce2 (Ta.cell 1 0 rfl) 0 1;obtain ⟨f0,f1⟩:=Ce2 (Ta.free 1 0 rfl) 0 1;have hv2:=(Q5 L kb pv).vals hs2;obtain ⟨st1,st2⟩:=Cli.store_fv2 (P:=prog) hv2.1 hv2.2 e0 f0 e1 f1;clear hv2;have HS2:=Vh hs2;have HT2:=Vh Ta
     clear Ta hs2))
 all_goals
  go_wp2
  exact bodyPost_ret (v:=.agg #[_,_]) (by simp [results,results148,go_sem,e0,e1]) rfl ⟨_,⟨m2,d2,g2,rfl,HS2.out,rfl⟩,((HT2.out.set 1 0 rfl 0 _).set 1 0 rfl 1 _).pick [0] rfl⟩
end
section
variable {L:Lay} {x:Qj} {gK gF:List Blk} {kb:Nat} {pv:Value} {k:Qt}
theorem qbd (x y:Int) (hx:0≤x) (hy:0≤y) (h:x+y<18446744073709551616):Qe prog 120 #[.int .u64 x,.int .u64 y] [] (.tuple #[.int .u64 (x+y),.int .i64 0]):=by
 intro w hw
 have ha:∀ w,(callFunc 146 #[.int .u64 x,.int .u64 y,.int .u64 0]).run prog w=.ok (.value (.tuple #[.int .u64 (x+y),.int .u64 0])) w:=fun w=>by
  rw [qel x y hx hy w,show (x+y+0) % 18446744073709551616=x+y by omega,show (x+y+0) / 18446744073709551616=0 by omega]
 clear h hx hy hw;go_enter func120,ntmps120
 go_wp2_with (simp only [ha])
 go_ret2
 exact ⟨rfl,0,rfl⟩
theorem qdb (x y:Int) (hx:0≤x) (hy:0≤y) (hx1:x<18446744073709551616) (hy1:y<18446744073709551616) (h:18446744073709551616≤x+y):Qe prog 120 #[.int .u64 x,.int .u64 y] [] (.tuple #[.int .u64 0,.int .i64 9]):=by
 intro w hw;obtain ⟨z,hz⟩:∃ z,(x+y+0) % 18446744073709551616=z:=⟨_,rfl⟩
 have ha:∀ w,(callFunc 146 #[.int .u64 x,.int .u64 y,.int .u64 0]).run prog w=.ok (.value (.tuple #[.int .u64 z,.int .u64 1])) w:=fun w=>by
  rw [qel x y hx hy w,hz,show (x+y+0) / 18446744073709551616=1 by omega]
 clear h hx hy hw hx1 hy1 hz;go_enter func120,ntmps120
 go_wp2_with (simp only [ha])
 go_ret2
 exact ⟨rfl,0,rfl⟩
theorem qzn {rv tv:Value}:Qa prog 123 #[Qb kb] [Qq kb L.fb pv rv tv k] fun e gs=>∃ m d g',e=.returned (.agg #[m,d])∧(qfe L kb pv).SV (Zx k) m d g'∧gs=[Qq kb L.fb pv rv tv k,g']:=by
 by_cases h4:k.kind=4
 ·have HO:Zx k=.row1 .ends1:=if_pos (.inl h4)
  rw [HO];refine GO fun w HT=>?_
  have k3:=HT.out.cell 0 0 rfl 3;simp only [Qo,GE3] at k3;rw [h4] at k3;have lt:=HT.out.lt 0 0 rfl;simp only [] at lt;clear h4 HO;go_enter func123,ntmps123
  go_wp2_with fail
  refine (Qa.use (qoe L kb pv) (HT.out.alloc (k:=w.heap.size) rfl _ _) [] rfl rfl).mono ?_
  rintro e w1 ⟨gs,⟨m2,d2,g2,rfl,hs2,rfl⟩,Ta⟩;simp only [PU] at Ta;have HT:=Vh Ta;clear Ta;obtain ⟨e0,e1⟩:=Ce2 (HT.out.cell 1 0 rfl) 0 1;obtain ⟨fe0,fe1⟩:=Ce2 (HT.out.free 1 0 rfl) 0 1;simp only [GE4] at e0 e1;have hv2:=(Q5 L kb pv).vals hs2;obtain ⟨st1,st2⟩:=Cli.store_fv2 (P:=prog) hv2.1 hv2.2 e0 fe0 e1 fe1;have HS:=Vh hs2;clear hv2 hs2;go_wp2
  exact bodyPost_ret (v:=.agg #[_,_]) (by simp [results,results123,go_sem,e0,e1]) rfl ⟨_,⟨m2,d2,g2,rfl,HS.out,rfl⟩,((HT.out.set 1 0 rfl 0 _).set 1 0 rfl 1 _).pick [0,2] rfl⟩
 ·by_cases h5:k.kind=5
  ·have HO:Zx k=.row1 .ends1:=if_pos (.inr h5)
   rw [HO];refine GO fun w HT=>?_
   have k3:=HT.out.cell 0 0 rfl 3;simp only [Qo,GE3] at k3;rw [h5] at k3;have lt:=HT.out.lt 0 0 rfl;simp only [] at lt;clear h4 h5 HO;go_enter func123,ntmps123
   go_wp2_with fail
   refine (Qa.use (qoe L kb pv) (HT.out.alloc (k:=w.heap.size) rfl _ _) [] rfl rfl).mono ?_
   rintro e w1 ⟨gs,⟨m2,d2,g2,rfl,hs2,rfl⟩,Ta⟩;simp only [PU] at Ta;have HT:=Vh Ta;clear Ta;obtain ⟨e0,e1⟩:=Ce2 (HT.out.cell 1 0 rfl) 0 1;obtain ⟨fe0,fe1⟩:=Ce2 (HT.out.free 1 0 rfl) 0 1;simp only [GE4] at e0 e1;have hv2:=(Q5 L kb pv).vals hs2;obtain ⟨st1,st2⟩:=Cli.store_fv2 (P:=prog) hv2.1 hv2.2 e0 fe0 e1 fe1;have HS:=Vh hs2;clear hv2 hs2;go_wp2
   exact bodyPost_ret (v:=.agg #[_,_]) (by simp [results,results123,go_sem,e0,e1]) rfl ⟨_,⟨m2,d2,g2,rfl,HS.out,rfl⟩,((HT.out.set 1 0 rfl 0 _).set 1 0 rfl 1 _).pick [0,2] rfl⟩
  ·have HO:Zx k=Ji:=if_neg (by omega)
   have hb4:(k.kind == 4)=false:=beq_eq_false_iff_ne.2 h4;have hb5:(k.kind == 5)=false:=beq_eq_false_iff_ne.2 h5;rw [HO];refine GO fun w HT=>?_
   have k3:=HT.out.cell 0 0 rfl 3;simp only [Qo,GE3] at k3;rw [(show k.kind=k.kind from rfl)] at k3;have lt:=HT.out.lt 0 0 rfl;simp only [] at lt;clear h4 h5 HO;go_enter func123,ntmps123
   go_wp2_with fail
   refine (Qa.use (qeh L kb pv) (HT.out.alloc (k:=w.heap.size) rfl _ _) [] rfl rfl).mono ?_
   rintro e w1 ⟨gs,⟨m2,d2,g2,rfl,hs2,rfl⟩,Ta⟩;simp only [PU] at Ta;have HT:=Vh Ta;clear Ta;obtain ⟨e0,e1⟩:=Ce2 (HT.out.cell 1 0 rfl) 0 1;obtain ⟨fe0,fe1⟩:=Ce2 (HT.out.free 1 0 rfl) 0 1;simp only [GE4] at e0 e1;have hv2:=(Q5 L kb pv).vals hs2;obtain ⟨st1,st2⟩:=Cli.store_fv2 (P:=prog) hv2.1 hv2.2 e0 fe0 e1 fe1;have HS:=Vh hs2;clear hv2 hs2;go_wp2
   exact bodyPost_ret (v:=.agg #[_,_]) (by simp [results,results123,go_sem,e0,e1]) rfl ⟨_,⟨m2,d2,g2,rfl,HS.out,rfl⟩,((HT.out.set 1 0 rfl 0 _).set 1 0 rfl 1 _).pick [0,2] rfl⟩
end
def MRz (L:Lay) (kb:Nat) (pv:Value) (r:SC × ZC):Ending→GH→Prop:=MR L kb pv r.1 r.2.1 r.2.2
section
variable {L:Lay} {x:Qj} {gK gF:List Blk} {kb:Nat} {pv:Value} {k:Qt}
theorem q1r (hz:qec L kb pv k x gK gF) (hp:qdq .right (k,x)):Qa prog 93 #[Qb kb] [gK,gF] (MRz L kb pv (zr .right (k,x))):=by
 have HLN:=Vh hp.1.tr;obtain ⟨d0,d1⟩:=hp.2.1.c0;obtain ⟨q0,q1⟩:=hp.2.1.c1;simp only at d0 d1 q0 q1 HLN;by_cases h2:k.kind=2
 ·by_cases h0:k.cper=0
  ·have HZ:zr .right (k,x)=(.row1 .ends1,Ql 1 (k,x)):=if_pos ⟨h2,.inl h0⟩
   have HA:=Vh (qbd k.cdl k.cper d0 q0 (by omega));have H0:=Vh h0;clear d0 d1 q0 q1 h0;rw [HZ];unfold MRz;dsimp only [Ql]
   clear HZ hp;obtain ⟨rv,tv,gq,gt,hr,ht,rfl,hx⟩:=hz;refine GO fun w HT=>?_
   have HT:=Vh (HT.out.sum (H':=[Qq kb L.fb pv rv tv k,gq,gt,gF]));have HX:=Vh hx;have HR:=Vh hr;have HTK:=Vh ht;clear hx hr ht;obtain ⟨k3,k5,k6⟩:=Ce3 (HT.out.cell 0 0 rfl) 3 5 6;simp only [Qo,GE3] at k3 k5 k6;rw [h2] at k3;have lt:=HT.out.lt 0 0 rfl;simp only [] at lt;clear h2;go_enter func93,ntmps93
   go_wp2
   have HT:=Vh (HT.out.alloc (k:=w.heap.size) rfl 180 #[.nilFunc,.nilFunc]);go_quiet ((first | (go_at_call 120;with_reducible exact Qe.quiet (HA.out) HT.out _ [] rfl rfl)))
   have HT:=Vh (HT.out.drewN nq);clear k3 k5 k6 lt;have k6:=HT.out.cell 0 0 rfl 6;simp only [Qo,GE3] at k6;rw [H0.out] at k6;go_wp2_with fail
   refine (Qa.use (Z7 HX.out 1 HLN.out) (HT.out) [0,3] rfl rfl).mono ?_
   rintro e w1 ⟨gs,⟨rfl,g1,hx1,rfl⟩,Ta⟩;simp only [PU] at Ta;have HX:=Vh hx1;clear hx1;have HT:=Vh Ta;clear Ta;go_wp2_with fail
   refine Qa.run (qoe L kb pv) (HT.out) [] ?_
   rintro e w1 gs ⟨m2,d2,g2,rfl,hs2,rfl⟩ HT;simp only [PU] at HT;obtain ⟨e0,e1⟩:=Ce2 (HT.out.cell 4 0 rfl) 0 1;obtain ⟨fe0,fe1⟩:=Ce2 (HT.out.free 4 0 rfl) 0 1;simp only [GE4] at e0 e1;have hv2:=(Q5 L kb pv).vals hs2;obtain ⟨st1,st2⟩:=Cli.store_fv2 (P:=prog) hv2.1 hv2.2 e0 fe0 e1 fe1;have HS:=Vh hs2;clear hv2 hs2;go_wp2
   exact bodyPost_ret (v:=.agg #[_,_]) (by simp [results,results93,go_sem,e0,e1]) rfl ⟨_,⟨m2,d2,g2,_,_,rfl,HS.out,⟨_,_,gq,gt,HR.out,HTK.out,rfl,HX.out⟩,rfl⟩,(((HT.out.set 4 0 rfl 0 _).set 4 0 rfl 1 _).pick [0,1,2,3,5] rfl).sum⟩
  ·by_cases h9:18446744073709551616≤k.cdl+k.cper
   ·have HZ:zr .right (k,x)=(.row1 .ends1,Ql 1 (k,x)):=if_pos ⟨h2,.inr h9⟩
    have HA:=Vh (qdb k.cdl k.cper d0 q0 d1 q1 h9);have hb:(k.cper == 0)=false:=beq_eq_false_iff_ne.2 h0;clear d0 d1 q0 q1 h0 h9;rw [HZ];unfold MRz;dsimp only [Ql]
    clear HZ hp;obtain ⟨rv,tv,gq,gt,hr,ht,rfl,hx⟩:=hz;refine GO fun w HT=>?_
    have HT:=Vh (HT.out.sum (H':=[Qq kb L.fb pv rv tv k,gq,gt,gF]));have HX:=Vh hx;have HR:=Vh hr;have HTK:=Vh ht;clear hx hr ht;obtain ⟨k3,k5,k6⟩:=Ce3 (HT.out.cell 0 0 rfl) 3 5 6;simp only [Qo,GE3] at k3 k5 k6;rw [h2] at k3;have lt:=HT.out.lt 0 0 rfl;simp only [] at lt;clear h2;go_enter func93,ntmps93
    go_wp2
    have HT:=Vh (HT.out.alloc (k:=w.heap.size) rfl 180 #[.nilFunc,.nilFunc]);go_quiet ((first | (go_at_call 120;with_reducible exact Qe.quiet (HA.out) HT.out _ [] rfl rfl)))
    have HT:=Vh (HT.out.drewN nq);clear k3 k5 k6 lt;have k6:=HT.out.cell 0 0 rfl 6;simp only [Qo,GE3] at k6;skip
    go_wp2_with fail
    refine (Qa.use (Z7 HX.out 1 HLN.out) (HT.out) [0,3] rfl rfl).mono ?_
    rintro e w1 ⟨gs,⟨rfl,g1,hx1,rfl⟩,Ta⟩;simp only [PU] at Ta;have HX:=Vh hx1;clear hx1;have HT:=Vh Ta;clear Ta;go_wp2_with fail
    refine Qa.run (qoe L kb pv) (HT.out) [] ?_
    rintro e w1 gs ⟨m2,d2,g2,rfl,hs2,rfl⟩ HT;simp only [PU] at HT;obtain ⟨e0,e1⟩:=Ce2 (HT.out.cell 4 0 rfl) 0 1;obtain ⟨fe0,fe1⟩:=Ce2 (HT.out.free 4 0 rfl) 0 1;simp only [GE4] at e0 e1;have hv2:=(Q5 L kb pv).vals hs2;obtain ⟨st1,st2⟩:=Cli.store_fv2 (P:=prog) hv2.1 hv2.2 e0 fe0 e1 fe1;have HS:=Vh hs2;clear hv2 hs2;go_wp2
    exact bodyPost_ret (v:=.agg #[_,_]) (by simp [results,results93,go_sem,e0,e1]) rfl ⟨_,⟨m2,d2,g2,_,_,rfl,HS.out,⟨_,_,gq,gt,HR.out,HTK.out,rfl,HX.out⟩,rfl⟩,(((HT.out.set 4 0 rfl 0 _).set 4 0 rfl 1 _).pick [0,1,2,3,5] rfl).sum⟩
   ·have HZ:zr .right (k,x)=(.at none .enter,(k,x)):=if_neg (show ¬ qt6 k by unfold qt6;omega)
    have HA:=Vh (qbd k.cdl k.cper d0 q0 (by omega));have hb:(k.cper == 0)=false:=beq_eq_false_iff_ne.2 h0;clear d0 d1 q0 q1 h0 h9;rw [HZ];unfold MRz;dsimp only [Ql]
    clear HZ hp;obtain ⟨rv,tv,gq,gt,hr,ht,rfl,hx⟩:=hz;refine GO fun w HT=>?_
    have HT:=Vh (HT.out.sum (H':=[Qq kb L.fb pv rv tv k,gq,gt,gF]));have HX:=Vh hx;have HR:=Vh hr;have HTK:=Vh ht;clear hx hr ht;obtain ⟨k3,k5,k6⟩:=Ce3 (HT.out.cell 0 0 rfl) 3 5 6;simp only [Qo,GE3] at k3 k5 k6;rw [h2] at k3;have lt:=HT.out.lt 0 0 rfl;simp only [] at lt;clear h2;go_enter func93,ntmps93
    go_wp2
    have HT:=Vh (HT.out.alloc (k:=w.heap.size) rfl 180 #[.nilFunc,.nilFunc]);go_quiet ((first | (go_at_call 120;with_reducible exact Qe.quiet (HA.out) HT.out _ [] rfl rfl)))
    have HT:=Vh (HT.out.drewN nq);clear k3 k5 k6 lt;have k6:=HT.out.cell 0 0 rfl 6;simp only [Qo,GE3] at k6;go_wp2_with fail
    refine Qa.run (Xr) (HT.out) [] ?_
    rintro e w1 gs ⟨rfl,rfl⟩ HT;simp only [PU] at HT;obtain ⟨e0,e1⟩:=Ce2 (HT.out.cell 4 0 rfl) 0 1;obtain ⟨fe0,fe1⟩:=Ce2 (HT.out.free 4 0 rfl) 0 1;simp only [GE4] at e0 e1;go_wp2
    exact bodyPost_ret (v:=.agg #[.nilFunc,.func (.func 94) #[Qb kb] #[]]) (by simp [results,results93,go_sem,e0,e1]) rfl ⟨_,⟨_,_,[],_,_,rfl,⟨rfl,rfl,rfl⟩,⟨_,_,gq,gt,HR.out,HTK.out,rfl,HX.out⟩,rfl⟩,(((HT.out.set 4 0 rfl 0 _).set 4 0 rfl 1 _).pick [0,1,2,3] rfl).sum⟩
 ·have HZ:zr .right (k,x)=(.at none .enter,(k,x)):=if_neg (fun h=>h2 h.1)
  have hb:(k.kind == 2)=false:=beq_eq_false_iff_ne.2 h2;clear d0 d1 q0 q1;rw [HZ];unfold MRz;dsimp only [Ql]
  clear HZ hp h2;obtain ⟨rv,tv,gq,gt,hr,ht,rfl,hx⟩:=hz;refine GO fun w HT=>?_
  have HT:=Vh (HT.out.sum (H':=[Qq kb L.fb pv rv tv k,gq,gt,gF]));have HX:=Vh hx;have HR:=Vh hr;have HTK:=Vh ht;clear hx hr ht;have k3:=HT.out.cell 0 0 rfl 3;simp only [Qo,GE3] at k3;have lt:=HT.out.lt 0 0 rfl;simp only [] at lt;go_enter func93,ntmps93
  go_wp2_with fail
  have HT:=Vh (HT.out.alloc (k:=w.heap.size) rfl 180 #[.nilFunc,.nilFunc]);clear k3 lt;go_wp2_with fail
  refine Qa.run (Xr) (HT.out) [] ?_
  rintro e w1 gs ⟨rfl,rfl⟩ HT;simp only [PU] at HT;obtain ⟨e0,e1⟩:=Ce2 (HT.out.cell 4 0 rfl) 0 1;obtain ⟨fe0,fe1⟩:=Ce2 (HT.out.free 4 0 rfl) 0 1;simp only [GE4] at e0 e1;go_wp2
  exact bodyPost_ret (v:=.agg #[.nilFunc,.func (.func 94) #[Qb kb] #[]]) (by simp [results,results93,go_sem,e0,e1]) rfl ⟨_,⟨_,_,[],_,_,rfl,⟨rfl,rfl,rfl⟩,⟨_,_,gq,gt,HR.out,HTK.out,rfl,HX.out⟩,rfl⟩,(((HT.out.set 4 0 rfl 0 _).set 4 0 rfl 1 _).pick [0,1,2,3] rfl).sum⟩
theorem q2u (hz:qec L kb pv k x gK gF) (hp:qdq .gate (k,x)):Qa prog 95 #[Qb kb] [gK,gF] (MRz L kb pv (zr .gate (k,x))):=by
 have HLN:=Vh hp.1.tr;simp only at HLN;cases hc:x.f.closed with
 | true =>
   have HZ:zr .gate (k,x)=(Zx k,Ql 3 (k,x)):=if_pos hc;rw [HZ];unfold MRz;dsimp only [Ql]
   clear HZ hp;obtain ⟨rv,tv,gq,gt,hr,ht,rfl,hx⟩:=hz;refine GO fun w HT=>?_
   have HT:=Vh (HT.out.sum (H':=[Qq kb L.fb pv rv tv k,gq,gt,gF]));have HX:=Vh hx;have HR:=Vh hr;have HTK:=Vh ht;clear hx hr ht;have k0:=HT.out.cell 0 0 rfl 0;simp only [Qo,GE3] at k0;have lt:=HT.out.lt 0 0 rfl;simp only [] at lt;have HCL:=Vh (Yt HX.out);rw [hc] at HCL;clear hc;go_enter func95,ntmps95
   go_wp2_with fail
   refine (Qa.use (HCL.out) (HT.out.alloc (k:=w.heap.size) rfl _ _) [3] rfl rfl).mono ?_
   rintro e w1 ⟨gs,⟨rfl,g1,hx1,rfl⟩,Ta⟩;simp only [PU] at Ta;have HX:=Vh hx1;clear hx1 k0 lt;have HT:=Vh Ta;clear Ta;obtain ⟨k0,k3⟩:=Ce2 (HT.out.cell 0 0 rfl) 0 3;simp only [Qo,GE3] at k0 k3;clear k0 k3;go_wp2_with fail
   refine (Qa.use (Z7 HX.out 3 HLN.out) (HT.out) [0,3] rfl rfl).mono ?_
   rintro e w1 ⟨gs,⟨rfl,g1,hx1,rfl⟩,Ta⟩;simp only [PU] at Ta;have HX:=Vh hx1;clear hx1;have HT:=Vh Ta;clear Ta;go_wp2_with fail
   refine Qa.run (qzn) (HT.out) [0] ?_
   rintro e w1 gs ⟨m2,d2,g2,rfl,hs2,rfl⟩ HT;simp only [PU] at HT;obtain ⟨e0,e1⟩:=Ce2 (HT.out.cell 4 0 rfl) 0 1;obtain ⟨fe0,fe1⟩:=Ce2 (HT.out.free 4 0 rfl) 0 1;simp only [GE4] at e0 e1;have hv2:=(Q5 L kb pv).vals hs2;obtain ⟨st1,st2⟩:=Cli.store_fv2 (P:=prog) hv2.1 hv2.2 e0 fe0 e1 fe1;have HS:=Vh hs2;clear hv2 hs2;go_wp2
   exact bodyPost_ret (v:=.agg #[_,_]) (by simp [results,results95,go_sem,e0,e1]) rfl ⟨_,⟨m2,d2,g2,_,_,rfl,HS.out,⟨_,_,gq,gt,HR.out,HTK.out,rfl,HX.out⟩,rfl⟩,(((HT.out.set 4 0 rfl 0 _).set 4 0 rfl 1 _).pick [0,1,2,3,5] rfl).sum⟩
 | false =>
   by_cases h2:k.kind=2
   ·have HZ:zr .gate (k,x)=(.at none .asks,({ k with rq:=some ⟨k.period,0,0,0,0,0⟩ },x)):=(if_neg (by simp [hc])).trans (if_pos (.inr h2))
    rw [HZ];unfold MRz;dsimp only [Ql]
    clear HZ hp;obtain ⟨rv,tv,gq,gt,hr,ht,rfl,hx⟩:=hz;refine GO fun w HT=>?_
    have HT:=Vh (HT.out.sum (H':=[Qq kb L.fb pv rv tv k,gq,gt,gF]));have HX:=Vh hx;have HR:=Vh hr;have HTK:=Vh ht;clear hx hr ht;have k0:=HT.out.cell 0 0 rfl 0;simp only [Qo,GE3] at k0;have lt:=HT.out.lt 0 0 rfl;simp only [] at lt;have HCL:=Vh (Yt HX.out);rw [hc] at HCL;clear hc;go_enter func95,ntmps95
    go_wp2_with fail
    refine (Qa.use (HCL.out) (HT.out.alloc (k:=w.heap.size) rfl _ _) [3] rfl rfl).mono ?_
    rintro e w1 ⟨gs,⟨rfl,g1,hx1,rfl⟩,Ta⟩;simp only [PU] at Ta;have HX:=Vh hx1;clear hx1 k0 lt;have HT:=Vh Ta;clear Ta;obtain ⟨k0,k3⟩:=Ce2 (HT.out.cell 0 0 rfl) 0 3;simp only [Qo,GE3] at k0 k3;rw [h2] at k3;go_wp2_with fail
    refine (Qe.use (Qk HX.out) (HT.out) [3] rfl rfl).mono ?_
    rintro e w1 ⟨rfl,mq,rfl⟩;have HT:=Vh (HT.out.drewN mq);generalize World.drewN _ _=wq at HT ⊢;go_wp2_with fail
    refine (Qe.use (qad (L:=L)) (HT.out) [0] rfl rfl).mono ?_
    rintro e w1 ⟨rfl,mq,rfl⟩;have HT:=Vh (HT.out.drewN mq);generalize World.drewN _ _=wq at HT ⊢;go_wp2_with fail
    refine Qa.run (qeb _ _) (HT.out) [] ?_
    rintro e w1 gs ⟨qb,rfl,rfl⟩ HT;simp only [PU] at HT;have k13:=HT.out.cell 0 0 rfl 13;have fk13:=HT.out.free 0 0 rfl 13;simp only [Qo,GE3] at k13;go_wp2_with fail
    have HT:=Vh ((HT.out.set 0 0 rfl 13 (Qb qb)).eq (H':=[Qq kb L.fb pv (Qb qb) tv { k with rq:=some ⟨k.period,0,0,0,0,0⟩ },gq,gt,g1,[cl w.heap.size 180 #[.nilFunc,.nilFunc]],qc7 qb L.p.sb ⟨k.period,0,0,0,0,0⟩]) rfl);clear k0 k3 k13 fk13 h2;go_wp2_with fail
    refine Qa.run (Xr) (HT.out) [] ?_
    rintro e w1 gs ⟨rfl,rfl⟩ HT;simp only [PU] at HT;obtain ⟨e0,e1⟩:=Ce2 (HT.out.cell 4 0 rfl) 0 1;obtain ⟨fe0,fe1⟩:=Ce2 (HT.out.free 4 0 rfl) 0 1;simp only [GE4] at e0 e1;go_wp2
    exact bodyPost_ret (v:=.agg #[.nilFunc,.func (.func 127) #[Qb kb] #[]]) (by simp [results,results95,go_sem,e0,e1]) rfl ⟨_,⟨_,_,[],_,_,rfl,⟨rfl,rfl,rfl⟩,⟨_,_,(qc7 qb L.p.sb ⟨k.period,0,0,0,0,0⟩),gt,⟨qb,rfl,rfl⟩,HTK.out,rfl,HX.out⟩,rfl⟩,(((HT.out.set 4 0 rfl 0 _).set 4 0 rfl 1 _).pick [0,5,2,3] rfl).sum⟩
   ·by_cases h1:k.kind=1
    ·have HZ:zr .gate (k,x)=(.at none .asks,({ k with rq:=some ⟨k.period,0,0,0,0,0⟩ },x)):=(if_neg (by simp [hc])).trans (if_pos (.inl h1))
     rw [HZ];unfold MRz;dsimp only [Ql]
     clear HZ hp;obtain ⟨rv,tv,gq,gt,hr,ht,rfl,hx⟩:=hz;refine GO fun w HT=>?_
     have HT:=Vh (HT.out.sum (H':=[Qq kb L.fb pv rv tv k,gq,gt,gF]));have HX:=Vh hx;have HR:=Vh hr;have HTK:=Vh ht;clear hx hr ht;have k0:=HT.out.cell 0 0 rfl 0;simp only [Qo,GE3] at k0;have lt:=HT.out.lt 0 0 rfl;simp only [] at lt;have HCL:=Vh (Yt HX.out);rw [hc] at HCL;clear hc;go_enter func95,ntmps95
     go_wp2_with fail
     refine (Qa.use (HCL.out) (HT.out.alloc (k:=w.heap.size) rfl _ _) [3] rfl rfl).mono ?_
     rintro e w1 ⟨gs,⟨rfl,g1,hx1,rfl⟩,Ta⟩;simp only [PU] at Ta;have HX:=Vh hx1;clear hx1 k0 lt;have HT:=Vh Ta;clear Ta;obtain ⟨k0,k3⟩:=Ce2 (HT.out.cell 0 0 rfl) 0 3;simp only [Qo,GE3] at k0 k3;have h2:=h1;clear h1;rw [h2] at k3;go_wp2_with fail
     refine (Qe.use (Qk HX.out) (HT.out) [3] rfl rfl).mono ?_
     rintro e w1 ⟨rfl,mq,rfl⟩;have HT:=Vh (HT.out.drewN mq);generalize World.drewN _ _=wq at HT ⊢;go_wp2_with fail
     refine (Qe.use (qad (L:=L)) (HT.out) [0] rfl rfl).mono ?_
     rintro e w1 ⟨rfl,mq,rfl⟩;have HT:=Vh (HT.out.drewN mq);generalize World.drewN _ _=wq at HT ⊢;go_wp2_with fail
     refine Qa.run (qeb _ _) (HT.out) [] ?_
     rintro e w1 gs ⟨qb,rfl,rfl⟩ HT;simp only [PU] at HT;have k13:=HT.out.cell 0 0 rfl 13;have fk13:=HT.out.free 0 0 rfl 13;simp only [Qo,GE3] at k13;go_wp2_with fail
     have HT:=Vh ((HT.out.set 0 0 rfl 13 (Qb qb)).eq (H':=[Qq kb L.fb pv (Qb qb) tv { k with rq:=some ⟨k.period,0,0,0,0,0⟩ },gq,gt,g1,[cl w.heap.size 180 #[.nilFunc,.nilFunc]],qc7 qb L.p.sb ⟨k.period,0,0,0,0,0⟩]) rfl);clear k0 k3 k13 fk13 h2;go_wp2_with fail
     refine Qa.run (Xr) (HT.out) [] ?_
     rintro e w1 gs ⟨rfl,rfl⟩ HT;simp only [PU] at HT;obtain ⟨e0,e1⟩:=Ce2 (HT.out.cell 4 0 rfl) 0 1;obtain ⟨fe0,fe1⟩:=Ce2 (HT.out.free 4 0 rfl) 0 1;simp only [GE4] at e0 e1;go_wp2
     exact bodyPost_ret (v:=.agg #[.nilFunc,.func (.func 127) #[Qb kb] #[]]) (by simp [results,results95,go_sem,e0,e1]) rfl ⟨_,⟨_,_,[],_,_,rfl,⟨rfl,rfl,rfl⟩,⟨_,_,(qc7 qb L.p.sb ⟨k.period,0,0,0,0,0⟩),gt,⟨qb,rfl,rfl⟩,HTK.out,rfl,HX.out⟩,rfl⟩,(((HT.out.set 4 0 rfl 0 _).set 4 0 rfl 1 _).pick [0,5,2,3] rfl).sum⟩
    ·have HZ:zr .gate (k,x)=(.at none .looks,(k,x)):=(if_neg (by simp [hc])).trans (if_neg (by simp;omega))
     have hb1:(k.kind == 1)=false:=beq_eq_false_iff_ne.2 h1;have hb2:(k.kind == 2)=false:=beq_eq_false_iff_ne.2 h2;clear h1 h2;rw [HZ];unfold MRz;dsimp only [Ql]
     clear HZ hp;obtain ⟨rv,tv,gq,gt,hr,ht,rfl,hx⟩:=hz;refine GO fun w HT=>?_
     have HT:=Vh (HT.out.sum (H':=[Qq kb L.fb pv rv tv k,gq,gt,gF]));have HX:=Vh hx;have HR:=Vh hr;have HTK:=Vh ht;clear hx hr ht;have k0:=HT.out.cell 0 0 rfl 0;simp only [Qo,GE3] at k0;have lt:=HT.out.lt 0 0 rfl;simp only [] at lt;have HCL:=Vh (Yt HX.out);rw [hc] at HCL;clear hc;go_enter func95,ntmps95
     go_wp2_with fail
     refine (Qa.use (HCL.out) (HT.out.alloc (k:=w.heap.size) rfl _ _) [3] rfl rfl).mono ?_
     rintro e w1 ⟨gs,⟨rfl,g1,hx1,rfl⟩,Ta⟩;simp only [PU] at Ta;have HX:=Vh hx1;clear hx1 k0 lt;have HT:=Vh Ta;clear Ta;obtain ⟨k0,k3⟩:=Ce2 (HT.out.cell 0 0 rfl) 0 3;simp only [Qo,GE3] at k0 k3;go_wp2_with fail
     refine Qa.run (Xr) (HT.out) [] ?_
     rintro e w1 gs ⟨rfl,rfl⟩ HT;simp only [PU] at HT;obtain ⟨e0,e1⟩:=Ce2 (HT.out.cell 4 0 rfl) 0 1;obtain ⟨fe0,fe1⟩:=Ce2 (HT.out.free 4 0 rfl) 0 1;simp only [GE4] at e0 e1;go_wp2
     exact bodyPost_ret (v:=.agg #[.nilFunc,.func (.func 128) #[Qb kb] #[]]) (by simp [results,results95,go_sem,e0,e1]) rfl ⟨_,⟨_,_,[],_,_,rfl,⟨rfl,rfl,rfl⟩,⟨_,_,gq,gt,HR.out,HTK.out,rfl,HX.out⟩,rfl⟩,(((HT.out.set 4 0 rfl 0 _).set 4 0 rfl 1 _).pick [0,1,2,3] rfl).sum⟩
end
theorem qnv {s:Qn} {q:Req} (hs:Zm s) (hq:qhc s.recs.length q) (h0:q.st=0) (h2:(Zu s q).2.st=2):0≤(Zu s q).2.id∧(Zu s q).2.id<18446744073709551616:=by
 unfold Zu at h2 ⊢;rw [if_neg (by omega)] at h2 ⊢;split at h2
 ·unfold qjq at h2
  split at h2 <;> simp [h0] at h2
 ·split at h2
  ·unfold qh3 at h2
   split at h2 <;> simp [h0] at h2
  ·next h3 h4 =>
   rw [if_neg h3,if_neg h4];unfold qef at h2 ⊢;simp only at h2 ⊢;split at h2
   ·next h5 =>
    rw [if_pos h5];have hsl:q.slot.toNat<s.recs.length:=by have:=hq.slot0;have:=hq.slot1;omega
    have hr:=hs.recs _ (List.getElem_mem hsl);have e:s.recs.getD q.slot.toNat Rec.zero=s.recs[q.slot.toNat]:=by simp [hsl]
    rw [e];have hg:=(qsk _ hr.w0 hr.ok).2.2.2;have g0:=hr.g0;have g1:=hr.g1;have a:=hq.slot0;have b:=hq.slot1;have c:=hs.n1;generalize s.recs[q.slot.toNat]=r at *;simp only;omega
   ·simp [h0] at h2
theorem qq7 (b rb lb wb:Nat):Qa prog 152 #[Qb b] [Xb b rb lb wb] fun e gs=>∃ tb,e=.returned (Qb tb)∧gs=[Xb b rb lb wb,Xa tb rb Xm]:=by
 refine GO fun w HT=>?_
 go_enter func152,ntmps152
 go_wp2_with fail
 refine Qa.run (Zy b rb lb wb) (HT.out) [0] ?_
 rintro e w1 gs ⟨rfl,rfl⟩ HT;simp only [PU] at HT;have hf:=fun w=>(Jj (Qb rb) (Qb lb) (Qb wb) w).1
 go_wp2_with fail
 refine Qa.run (qk0 rb) (HT.out) [] ?_
 rintro e w1 gs ⟨tb,rfl,rfl⟩ HT;simp only [PU] at HT;go_wp2
 go_ret
 exact ⟨_,⟨_,rfl,rfl⟩,HT.out⟩
theorem qid {L:Lay} {x:Qj} {g:List Blk} (hx:Qf L x g) {i:Nat} {q:ShP} {s:Q0} (hq:L.qs[i]?=some q) (hs:x.shs[i]?=some s):Qa prog 152 #[Qb q.b] [g] fun e gs=>∃ tb,e=.returned (Qb tb)∧∃ g',Qf L x g'∧gs=[g',Xa tb q.rb Xm]:=by
 obtain ⟨tr,gF,gS,gR,gH,gT,h1,h2,h3,h4,h5,h6,rfl⟩:=hx;have hz:(L.qs.zip x.shs)[i]?=some (q,s):=qam hq hs;obtain ⟨u,y,⟨gr,gl,hr,hl,rfl⟩,hp,hback⟩:=h5.out hz;intro w hw;have T:=(((TG.refl hw).sum (H':=[gF++(gS++(gR++gT)),gH])).permAt 1 rfl hp).sum (H':=[gF++(gS++(gR++gT)),Xb q.b q.rb q.lb q.wb,gr,gl,y]);refine (Qa.use (qq7 q.b q.rb q.lb q.wb) T [1] rfl rfl).mono ?_
 rintro e w' ⟨gs,⟨tb,he,rfl⟩,T'⟩;obtain ⟨gH',hf,hp'⟩:=hback (q,s) (Xb q.b q.rb q.lb q.wb++(gr++gl)) ⟨gr,gl,hr,hl,rfl⟩;rw [Jq hz] at hf;refine ⟨_,⟨tb,he,_,⟨tr,gF,gS,gR,gH',gT,h1,h2,h3,h4,hf,h6,rfl⟩,rfl⟩,?_⟩
 exact ((TG.sum (H:=[gF++(gS++(gR++gT)),Xb q.b q.rb q.lb q.wb,gr,gl,y,Xa tb q.rb Xm]) (H':=[gF++(gS++(gR++gT)),Xb q.b q.rb q.lb q.wb++(gr++gl)++y,Xa tb q.rb Xm]) T').permAt 1 rfl hp').sum
theorem qmo {L:Lay} {x:Qj} {g:List Blk} (hx:Qf L x g) (hn:1≤x.shs.length) {slot:Int} (h0:0≤slot):∃ q s,L.qs[Y4 slot x]?=some q∧x.shs[Y4 slot x]?=some s∧qoo (L.qs.map ShP.b) slot=Qb q.b:=by
 obtain ⟨tr,gF,gS,gR,gH,gT,h1,h2,h3,h4,h5,h6,rfl⟩:=hx;have a:0≤slot % (x.shs.length:Int):=Int.emod_nonneg _ (by omega);have b:slot % (x.shs.length:Int)<x.shs.length:=Int.emod_lt_of_pos _ (by omega);have hi:Y4 slot x<x.shs.length:=by unfold Y4;omega
 have hi':Y4 slot x<L.qs.length:=by omega
 refine ⟨L.qs[Y4 slot x],x.shs[Y4 slot x],List.getElem?_eq_getElem hi',List.getElem?_eq_getElem hi,?_⟩
 unfold qoo;rw [if_pos h0,List.length_map,h4]
 show Qb ((L.qs.map ShP.b).getD (Y4 slot x) 0)=_
 rw [List.getD_eq_getElem?_getD,List.getElem?_map,List.getElem?_eq_getElem hi'];rfl
theorem Qf.len {L:Lay} {x:Qj} {g:List Blk} (hx:Qf L x g):L.qs.length=x.shs.length:=by
 obtain ⟨tr,gF,gS,gR,gH,gT,h1,h2,h3,h4,_⟩:=hx;exact h4
section
variable {L:Lay} {x:Qj} {gK gF:List Blk} {kb:Nat} {pv:Value} {k:Qt}
theorem q2w (hz:qec L kb pv k x gK gF) (hp:qdq .asks (k,x)):Qa prog 127 #[Qb kb] [gK,gF] (MRz L kb pv (zr .asks (k,x))):=by
 obtain ⟨hok,hwk,hpr,hq0⟩:=hp;simp only at hok hwk hpr hq0;obtain ⟨q,hrqe⟩:=Option.isSome_iff_exists.1 hpr;have hrq:=hwk.rq q hrqe;have hq0:=hq0 q hrqe;have hidb:=qnv hok.slab hrq hq0;have HLN:=Vh hok.tr;have hsh:=hok.sh;have hE:zr .asks (k,x)=qcd (k,x) q:=by show (match k.rq with | none=>_ | some q=>_)=_;rw [hrqe]
 rw [hE];unfold qec at hz;rw [hrqe] at hz;clear hE hwk hpr hq0 hrqe;obtain ⟨s2,q2,hr2⟩:∃ s2 q2,Zu x.slab q=(s2,q2):=⟨_,_,rfl⟩;rw [hr2] at hidb;simp only at hidb;by_cases h1:q2.st=1
 ·have hst:(Zu x.slab q).2.st=1:=by rw [hr2];exact h1
  have HZ:qcd (k,x) q=(Ji,Ql 2 ({ k with rq:=some q2 },{ x with slab:=s2 })):=by unfold qcd;simp only [hr2];rw [if_pos h1]
  clear h1 hidb hsh;rw [HZ];unfold MRz;dsimp only [Ql]
  clear HZ;obtain ⟨rv,tv,gq,gt,⟨qb,rfl,rfl⟩,ht,rfl,hx⟩:=hz;refine GO fun w HT=>?_
  have HT:=Vh (HT.out.sum (H':=[Qq kb L.fb pv (Qb qb) tv k,qc7 qb L.p.sb q,gt,gF]));have HX:=Vh hx;have HTK:=Vh ht;have HRQ:=Vh (qlu hx qb q hok.slab hrq);rw [hst,hr2] at HRQ;clear hx ht;have k13:=HT.out.cell 0 0 rfl 13;simp only [Qo,GE3] at k13;have lt:=HT.out.lt 0 0 rfl;simp only [] at lt;clear hst hok hrq hr2;go_enter func127,ntmps127
  go_wp2_with fail
  refine (Qa.use (HRQ.out) (HT.out.alloc (k:=w.heap.size) rfl _ _) [1,3] rfl rfl).mono ?_
  rintro e w1 ⟨gs,⟨rfl,g1,hx1,rfl⟩,Ta⟩;simp only [PU] at Ta;have HX:=Vh hx1;clear hx1 k13 lt;have HT:=Vh Ta;clear Ta;have HT:=Vh (HT.out.eq (H':=[Qq kb L.fb pv (Qb qb) tv { k with rq:=some q2 },qc7 qb L.p.sb q2,gt,g1,[cl w.heap.size 180 #[.nilFunc,.nilFunc]]]) rfl);go_wp2_with fail
  refine (Qa.use (Z7 HX.out 2 HLN.out) (HT.out) [0,3] rfl rfl).mono ?_
  rintro e w1 ⟨gs,⟨rfl,g1,hx1,rfl⟩,Ta⟩;simp only [PU] at Ta;have HX:=Vh hx1;clear hx1;have HT:=Vh Ta;clear Ta;go_wp2_with fail
  refine Qa.run (qeh L kb pv) (HT.out) [] ?_
  rintro e w1 gs ⟨m2,d2,g2,rfl,hs2,rfl⟩ HT;simp only [PU] at HT;obtain ⟨e0,e1⟩:=Ce2 (HT.out.cell 4 0 rfl) 0 1;obtain ⟨fe0,fe1⟩:=Ce2 (HT.out.free 4 0 rfl) 0 1;simp only [GE4] at e0 e1;have hv2:=(Q5 L kb pv).vals hs2;obtain ⟨st1,st2⟩:=Cli.store_fv2 (P:=prog) hv2.1 hv2.2 e0 fe0 e1 fe1;have HS:=Vh hs2;clear hv2 hs2;go_wp2
  exact bodyPost_ret (v:=.agg #[_,_]) (by simp [results,results127,go_sem,e0,e1]) rfl ⟨_,⟨m2,d2,g2,_,_,rfl,HS.out,⟨_,_,(qc7 qb L.p.sb q2),gt,⟨qb,rfl,rfl⟩,HTK.out,rfl,HX.out⟩,rfl⟩,(((HT.out.set 4 0 rfl 0 _).set 4 0 rfl 1 _).pick [0,1,2,3,5] rfl).sum⟩
 ·by_cases h2:q2.st=2
  ·obtain ⟨id0,id1⟩:=hidb h2
   have hst:(Zu x.slab q).2.st=2:=by rw [hr2];exact h2
   have HZ:qcd (k,x) q=(.at none .queues,({ k with rq:=some q2,id:=q2.id,slot:=q2.id % 64,tk:=some (Y4 (q2.id % 64) x,Xm) },{ x with slab:=s2 })):=by unfold qcd;simp only [hr2];rw [if_neg h1,if_pos h2]
   have HID:=Vh (qrf (qb:=0) L.p.sb q2);have HQ2:=Vh h2;have HSH:=Vh hsh;clear h1 hidb hsh h2 HID;rw [HZ];unfold MRz;dsimp only [Ql]
   clear HZ;obtain ⟨rv,tv,gq,gt,⟨qb,rfl,rfl⟩,ht,rfl,hx⟩:=hz;refine GO fun w HT=>?_
   have HT:=Vh (HT.out.sum (H':=[Qq kb L.fb pv (Qb qb) tv k,qc7 qb L.p.sb q,gt,gF]));have HX:=Vh hx;have HTK:=Vh ht;have HRQ:=Vh (qlu hx qb q hok.slab hrq);rw [hst,hr2] at HRQ;clear hx ht;have k13:=HT.out.cell 0 0 rfl 13;simp only [Qo,GE3] at k13;have lt:=HT.out.lt 0 0 rfl;simp only [] at lt;clear hst hok hrq hr2;go_enter func127,ntmps127
   go_wp2_with fail
   refine (Qa.use (HRQ.out) (HT.out.alloc (k:=w.heap.size) rfl _ _) [1,3] rfl rfl).mono ?_
   rintro e w1 ⟨gs,⟨rfl,g1,hx1,rfl⟩,Ta⟩;simp only [PU] at Ta;have HX:=Vh hx1;clear hx1 k13 lt;have HT:=Vh Ta;clear Ta;have HT:=Vh (HT.out.eq (H':=[Qq kb L.fb pv (Qb qb) tv { k with rq:=some q2 },qc7 qb L.p.sb q2,gt,g1,[cl w.heap.size 180 #[.nilFunc,.nilFunc]]]) rfl);have k13:=HT.out.cell 0 0 rfl 13;simp only [Qo,GE3] at k13;have HID:=Vh (qrf qb L.p.sb q2);rw [if_pos HQ2.out,if_pos HQ2.out] at HID;go_wp2_with fail
   refine Qa.run (HID.out) (HT.out) [1] ?_
   rintro e w1 gs ⟨rfl,rfl⟩ HT;simp only [PU] at HT;clear k13;obtain ⟨k15,k16⟩:=Ce2 (HT.out.cell 0 0 rfl) 15 16;obtain ⟨fk15,fk16⟩:=Ce2 (HT.out.free 0 0 rfl) 15 16;simp only [Qo,GE3] at k15 k16;have i0:0≤q2.id % 64:=by omega
   have i1:q2.id % 64<64:=by omega
   go_wp2
   have HT:=Vh (((HT.out.set 0 0 rfl 15 (.int .u64 q2.id)).set 0 0 rfl 16 (.int .i64 (q2.id % 64))).eq (H':=[Qq kb L.fb pv (Qb qb) tv { k with rq:=some q2,id:=q2.id,slot:=q2.id % 64 },qc7 qb L.p.sb q2,gt,g1,[cl w.heap.size 180 #[.nilFunc,.nilFunc]]]) rfl);clear k15 k16 fk15 fk16;generalize World.setCell _ _ _=w2 at HT ⊢;obtain ⟨qs,ss,hqs,hss,hv⟩:=qmo HX.out HSH.out i0;have HH:=Vh (qge HX.out (by rw [HX.out.len];exact HSH.out) (q2.id % 64));rw [hv] at HH;have HQS:=Vh hqs;have HBG:=Vh (qid HX.out hqs hss);clear hqs hss hv;obtain ⟨k0,k16⟩:=Ce2 (HT.out.cell 0 0 rfl) 0 16;simp only [Qo,GE3] at k0 k16;refine Qc 10 (by kernel_rfl) (by kernel_rfl) ?_
   simp only [TD4]
   repeat (go_big_quiet_step ((first | (go_at_call 151;with_reducible exact Qe.quiet (HH.out) HT.out _ [3] rfl rfl))))
   refine wpQuiet_nil (QE fun nq=>?_)
   have HT:=Vh (HT.out.drewN nq);go_wp2_with fail
   refine (Qa.use (HBG.out) (HT.out) [3] rfl rfl).mono ?_
   rintro e w1 ⟨gs,⟨tb,rfl,g2,hx2,rfl⟩,Ta⟩;simp only [PU] at Ta;have HX:=Vh hx2;clear hx2 k0 k16;have HT:=Vh Ta;clear Ta;have k14:=HT.out.cell 0 0 rfl 14;have fk14:=HT.out.free 0 0 rfl 14;simp only [Qo,GE3] at k14;go_wp2_with fail
   refine ⟨rfl,?_⟩
   have HT:=Vh ((HT.out.set 0 0 rfl 14 (Qb tb)).eq (H':=[Qq kb L.fb pv (Qb qb) (Qb tb) { k with rq:=some q2,id:=q2.id,slot:=q2.id % 64,tk:=some (Y4 (q2.id % 64) x,Xm) },qc7 qb L.p.sb q2,gt,g2,[cl w.heap.size 180 #[.nilFunc,.nilFunc]],Xa tb qs.rb Xm]) rfl);clear k14 fk14;go_wp2_with fail
   refine Qa.run (Xr) (HT.out) [] ?_
   rintro e w1 gs ⟨rfl,rfl⟩ HT;simp only [PU] at HT;obtain ⟨e0,e1⟩:=Ce2 (HT.out.cell 4 0 rfl) 0 1;obtain ⟨fe0,fe1⟩:=Ce2 (HT.out.free 4 0 rfl) 0 1;simp only [GE4] at e0 e1;go_wp2
   exact bodyPost_ret (v:=.agg #[.nilFunc,.func (.func 153) #[Qb kb] #[]]) (by simp [results,results127,go_sem,e0,e1]) rfl ⟨_,⟨_,_,[],_,_,rfl,⟨rfl,rfl,rfl⟩,⟨_,_,(qc7 qb L.p.sb q2),(Xa tb qs.rb Xm),⟨qb,rfl,rfl⟩,⟨tb,qs,HQS.out,rfl,rfl⟩,rfl,HX.out⟩,rfl⟩,(((HT.out.set 4 0 rfl 0 _).set 4 0 rfl 1 _).pick [0,1,5,3] rfl).sum⟩
  ·have hst:(Zu x.slab q).2.st=q2.st:=by rw [hr2]
   have HZ:qcd (k,x) q=(.at none .asks,({ k with rq:=some q2 },{ x with slab:=s2 })):=by unfold qcd;simp only [hr2];rw [if_neg h1,if_neg h2]
   have hb1:(q2.st == 1)=false:=beq_eq_false_iff_ne.2 h1;have hb2:(q2.st == 2)=false:=beq_eq_false_iff_ne.2 h2;clear h1 h2 hidb hsh;rw [HZ];unfold MRz;dsimp only [Ql]
   clear HZ;obtain ⟨rv,tv,gq,gt,⟨qb,rfl,rfl⟩,ht,rfl,hx⟩:=hz;refine GO fun w HT=>?_
   have HT:=Vh (HT.out.sum (H':=[Qq kb L.fb pv (Qb qb) tv k,qc7 qb L.p.sb q,gt,gF]));have HX:=Vh hx;have HTK:=Vh ht;have HRQ:=Vh (qlu hx qb q hok.slab hrq);rw [hst,hr2] at HRQ;clear hx ht;have k13:=HT.out.cell 0 0 rfl 13;simp only [Qo,GE3] at k13;have lt:=HT.out.lt 0 0 rfl;simp only [] at lt;clear hst hok hrq hr2;go_enter func127,ntmps127
   go_wp2_with fail
   refine (Qa.use (HRQ.out) (HT.out.alloc (k:=w.heap.size) rfl _ _) [1,3] rfl rfl).mono ?_
   rintro e w1 ⟨gs,⟨rfl,g1,hx1,rfl⟩,Ta⟩;simp only [PU] at Ta;have HX:=Vh hx1;clear hx1 k13 lt;have HT:=Vh Ta;clear Ta;have HT:=Vh (HT.out.eq (H':=[Qq kb L.fb pv (Qb qb) tv { k with rq:=some q2 },qc7 qb L.p.sb q2,gt,g1,[cl w.heap.size 180 #[.nilFunc,.nilFunc]]]) rfl);go_wp2_with fail
   refine Qa.run (Xr) (HT.out) [] ?_
   rintro e w1 gs ⟨rfl,rfl⟩ HT;simp only [PU] at HT;obtain ⟨e0,e1⟩:=Ce2 (HT.out.cell 4 0 rfl) 0 1;obtain ⟨fe0,fe1⟩:=Ce2 (HT.out.free 4 0 rfl) 0 1;simp only [GE4] at e0 e1;go_wp2
   exact bodyPost_ret (v:=.agg #[.nilFunc,.func (.func 127) #[Qb kb] #[]]) (by simp [results,results127,go_sem,e0,e1]) rfl ⟨_,⟨_,_,[],_,_,rfl,⟨rfl,rfl,rfl⟩,⟨_,_,(qc7 qb L.p.sb q2),gt,⟨qb,rfl,rfl⟩,HTK.out,rfl,HX.out⟩,rfl⟩,(((HT.out.set 4 0 rfl 0 _).set 4 0 rfl 1 _).pick [0,1,2,3] rfl).sum⟩
end
theorem qas (k:Qt) (s:Qn) (h:0≤k.slot) (hi:0≤k.id):(lookW k s).1.kind=k.kind∧(lookW k s).1.rq=k.rq∧(lookW k s).1.tk=k.tk∧0≤(lookW k s).1.slot:=by
 have hs:0≤s.slot k.id:=by unfold Qn.slot;split <;> omega
 unfold lookW;split
 ·exact ⟨rfl,rfl,rfl,h⟩
 ·split
  ·exact ⟨rfl,rfl,rfl,hs⟩
  ·exact ⟨rfl,rfl,rfl,hs⟩
theorem qjm {k k2:Qt} (h:k2.kind=k.kind):Zx k=Zx k2:=by unfold Zx;rw [h]
section
variable {L:Lay} {x:Qj} {gK gF:List Blk} {kb:Nat} {pv:Value} {k:Qt}
theorem q0o (hz:qec L kb pv k x gK gF) (hp:qdq .looks (k,x)):Qa prog 128 #[Qb kb] [gK,gF] (MRz L kb pv (zr .looks (k,x))):=by
 obtain ⟨hok,hwk,_⟩:=hp;simp only at hok hwk;have HLN:=Vh hok.tr;have HSH:=Vh hok.sh;have HLK:=Vh (show ∀ g rv tv,Qf L x g→_ from fun g rv tv hx=>qmm (kb:=kb) (pv:=pv) (rv:=rv) (tv:=tv) (k:=k) (g:=g) hx hok hwk.id.1 hwk.id.2);have hkeep:=qas k x.slab hwk.slot hwk.id.1
 have hE:∀ k2 er,lookW k x.slab=(k2,er)→zr .looks (k,x)=if er=0 then (if k.kind=3 then (.at none .queues,({ k2 with tk:=some (Y4 k2.slot x,Xm) },x)) else (.at none .tries,(k2,x))) else if er=1 then (Zx k,Ql 1 (k2,x)) else (Zx k,Ql 0 (k2,x)):=by
  intro k2 er h
  show (if (lookW k x.slab).2=0 then _ else _)=_
  simp only [X4,h]
 obtain ⟨k2,er,hl⟩:∃ k2 er,lookW k x.slab=(k2,er):=⟨_,_,rfl⟩;rw [hE k2 er hl];rw [hl] at HLK hkeep;simp only at hkeep;clear hE hl hok hwk;by_cases h0:er=0
 ·subst h0
  by_cases h3:k.kind=3
  ·have HZ:(if (0:Int)=0 then (if k.kind=3 then (.at none .queues,({ k2 with tk:=some (Y4 k2.slot x,Xm) },x)) else (.at none .tries,(k2,x))) else if (0:Int)=1 then (Zx k,Ql 1 (k2,x)) else (Zx k,Ql 0 (k2,x)):SC × ZC)=(.at none .queues,({ k2 with tk:=some (Y4 k2.slot x,Xm) },x)):=(if_pos rfl).trans (if_pos h3)
   rw [HZ];unfold MRz;dsimp only [Ql]
   clear HZ;obtain ⟨hkk,hkr,hkt,hks⟩:=hkeep;obtain ⟨rv,tv,gq,gt,hr,ht,rfl,hx⟩:=hz;refine GO fun w HT=>?_
   have HT:=Vh (HT.out.sum (H':=[Qq kb L.fb pv rv tv k,gq,gt,gF]));have HX:=Vh hx;have HR:=Vh (show qw3 L.p.sb k2.rq rv gq from hkr ▸ hr);have HTK:=Vh (show qwz L k2.tk tv gt from hkt ▸ ht);have HKK:=Vh hkk;clear hx hr ht hkr hkt hkk;have HT:=Vh (HT.out.alloc (k:=w.heap.size) rfl 180 #[.nilFunc,.nilFunc]);go_enter func128,ntmps128
   go_wp2_with fail
   refine (Qa.use (HLK.out _ _ _ HX.out) (HT.out) [0,3] rfl rfl).mono ?_
   rintro e w1 ⟨gs,⟨rfl,g1,hx1,rfl⟩,Ta⟩;simp only [PU] at Ta;have HX:=Vh hx1;clear hx1;have HT:=Vh Ta;clear Ta;have i0:=hks;have k3:=HT.out.cell 0 0 rfl 3;simp only [Qo,GE3] at k3;rw [HKK.out,h3] at k3;clear h3;go_wp2
   clear k3;obtain ⟨qs,ss,hqs,hss,hv⟩:=qmo HX.out HSH.out i0;have HH:=Vh (qge HX.out (by rw [HX.out.len];exact HSH.out) k2.slot);rw [hv] at HH;have HQS:=Vh hqs;have HBG:=Vh (qid HX.out hqs hss);clear hqs hss hv;obtain ⟨k0,k16⟩:=Ce2 (HT.out.cell 0 0 rfl) 0 16;simp only [Qo,GE3] at k0 k16;refine Qc 10 (by kernel_rfl) (by kernel_rfl) ?_
   simp only [TD4]
   repeat (go_big_quiet_step ((first | (go_at_call 151;with_reducible exact Qe.quiet (HH.out) HT.out _ [3] rfl rfl))))
   refine wpQuiet_nil (QE fun nq=>?_)
   have HT:=Vh (HT.out.drewN nq);go_wp2_with fail
   refine (Qa.use (HBG.out) (HT.out) [3] rfl rfl).mono ?_
   rintro e w1 ⟨gs,⟨tb,rfl,g2,hx2,rfl⟩,Ta⟩;simp only [PU] at Ta;have HX:=Vh hx2;clear hx2 k0 k16;have HT:=Vh Ta;clear Ta;have k14:=HT.out.cell 0 0 rfl 14;have fk14:=HT.out.free 0 0 rfl 14;simp only [Qo,GE3] at k14;go_wp2_with fail
   refine ⟨rfl,?_⟩
   have HT:=Vh ((HT.out.set 0 0 rfl 14 (Qb tb)).eq (H':=[Qq kb L.fb pv rv (Qb tb) { k2 with tk:=some (Y4 k2.slot x,Xm) },gq,gt,g2,[cl w.heap.size 180 #[.nilFunc,.nilFunc]],Xa tb qs.rb Xm]) rfl);clear k14 fk14;go_wp2_with fail
   refine Qa.run (Xr) (HT.out) [] ?_
   rintro e w1 gs ⟨rfl,rfl⟩ HT;simp only [PU] at HT;obtain ⟨e0,e1⟩:=Ce2 (HT.out.cell 4 0 rfl) 0 1;obtain ⟨fe0,fe1⟩:=Ce2 (HT.out.free 4 0 rfl) 0 1;simp only [GE4] at e0 e1;go_wp2
   exact bodyPost_ret (v:=.agg #[.nilFunc,.func (.func 153) #[Qb kb] #[]]) (by simp [results,results128,go_sem,e0,e1]) rfl ⟨_,⟨_,_,[],_,_,rfl,⟨rfl,rfl,rfl⟩,⟨_,_,gq,(Xa tb qs.rb Xm),HR.out,⟨tb,qs,HQS.out,rfl,rfl⟩,rfl,HX.out⟩,rfl⟩,(((HT.out.set 4 0 rfl 0 _).set 4 0 rfl 1 _).pick [0,1,5,3] rfl).sum⟩
  ·have HZ:(if (0:Int)=0 then (if k.kind=3 then (.at none .queues,({ k2 with tk:=some (Y4 k2.slot x,Xm) },x)) else (.at none .tries,(k2,x))) else if (0:Int)=1 then (Zx k,Ql 1 (k2,x)) else (Zx k,Ql 0 (k2,x)):SC × ZC)=(.at none .tries,(k2,x)):=(if_pos rfl).trans (if_neg h3)
   have hb3:(k.kind == 3)=false:=beq_eq_false_iff_ne.2 h3;clear h3;rw [HZ];unfold MRz;dsimp only [Ql]
   clear HZ;obtain ⟨hkk,hkr,hkt,hks⟩:=hkeep;obtain ⟨rv,tv,gq,gt,hr,ht,rfl,hx⟩:=hz;refine GO fun w HT=>?_
   have HT:=Vh (HT.out.sum (H':=[Qq kb L.fb pv rv tv k,gq,gt,gF]));have HX:=Vh hx;have HR:=Vh (show qw3 L.p.sb k2.rq rv gq from hkr ▸ hr);have HTK:=Vh (show qwz L k2.tk tv gt from hkt ▸ ht);have HKK:=Vh hkk;clear hx hr ht hkr hkt hkk;have HT:=Vh (HT.out.alloc (k:=w.heap.size) rfl 180 #[.nilFunc,.nilFunc]);go_enter func128,ntmps128
   go_wp2_with fail
   refine (Qa.use (HLK.out _ _ _ HX.out) (HT.out) [0,3] rfl rfl).mono ?_
   rintro e w1 ⟨gs,⟨rfl,g1,hx1,rfl⟩,Ta⟩;simp only [PU] at Ta;have HX:=Vh hx1;clear hx1;have HT:=Vh Ta;clear Ta;have k3:=HT.out.cell 0 0 rfl 3;simp only [Qo,GE3] at k3;rw [HKK.out] at k3;go_wp2_with fail
   refine Qa.run (Xr) (HT.out) [] ?_
   rintro e w1 gs ⟨rfl,rfl⟩ HT;simp only [PU] at HT;obtain ⟨e0,e1⟩:=Ce2 (HT.out.cell 4 0 rfl) 0 1;obtain ⟨fe0,fe1⟩:=Ce2 (HT.out.free 4 0 rfl) 0 1;simp only [GE4] at e0 e1;go_wp2
   exact bodyPost_ret (v:=.agg #[.nilFunc,.func (.func 155) #[Qb kb] #[]]) (by simp [results,results128,go_sem,e0,e1]) rfl ⟨_,⟨_,_,[],_,_,rfl,⟨rfl,rfl,rfl⟩,⟨_,_,gq,gt,HR.out,HTK.out,rfl,HX.out⟩,rfl⟩,(((HT.out.set 4 0 rfl 0 _).set 4 0 rfl 1 _).pick [0,1,2,3] rfl).sum⟩
 ·by_cases h1:er=1
  ·subst h1
   have HZ:(if (1:Int)=0 then (if k.kind=3 then (.at none .queues,({ k2 with tk:=some (Y4 k2.slot x,Xm) },x)) else (.at none .tries,(k2,x))) else if (1:Int)=1 then (Zx k,Ql 1 (k2,x)) else (Zx k,Ql 0 (k2,x)):SC × ZC)=(Zx (Jl 1 k2),Ql 1 (k2,x)):=by rw [if_neg h0,if_pos rfl,qjm (k:=k) (k2:=Jl 1 k2) hkeep.1]
   clear h0;rw [HZ];unfold MRz;dsimp only [Ql]
   clear HZ;obtain ⟨hkk,hkr,hkt,hks⟩:=hkeep;obtain ⟨rv,tv,gq,gt,hr,ht,rfl,hx⟩:=hz;refine GO fun w HT=>?_
   have HT:=Vh (HT.out.sum (H':=[Qq kb L.fb pv rv tv k,gq,gt,gF]));have HX:=Vh hx;have HR:=Vh (show qw3 L.p.sb k2.rq rv gq from hkr ▸ hr);have HTK:=Vh (show qwz L k2.tk tv gt from hkt ▸ ht);have HKK:=Vh hkk;clear hx hr ht hkr hkt hkk;have HT:=Vh (HT.out.alloc (k:=w.heap.size) rfl 180 #[.nilFunc,.nilFunc]);go_enter func128,ntmps128
   go_wp2_with fail
   refine (Qa.use (HLK.out _ _ _ HX.out) (HT.out) [0,3] rfl rfl).mono ?_
   rintro e w1 ⟨gs,⟨rfl,g1,hx1,rfl⟩,Ta⟩;simp only [PU] at Ta;have HX:=Vh hx1;clear hx1;have HT:=Vh Ta;clear Ta;go_wp2_with fail
   refine (Qa.use (Z7 HX.out 1 HLN.out) (HT.out) [0,3] rfl rfl).mono ?_
   rintro e w1 ⟨gs,⟨rfl,g1,hx1,rfl⟩,Ta⟩;simp only [PU] at Ta;have HX:=Vh hx1;clear hx1;have HT:=Vh Ta;clear Ta;go_wp2_with fail
   refine Qa.run (qzn) (HT.out) [0] ?_
   rintro e w1 gs ⟨m2,d2,g2,rfl,hs2,rfl⟩ HT;simp only [PU] at HT;obtain ⟨e0,e1⟩:=Ce2 (HT.out.cell 4 0 rfl) 0 1;obtain ⟨fe0,fe1⟩:=Ce2 (HT.out.free 4 0 rfl) 0 1;simp only [GE4] at e0 e1;have hv2:=(Q5 L kb pv).vals hs2;obtain ⟨st1,st2⟩:=Cli.store_fv2 (P:=prog) hv2.1 hv2.2 e0 fe0 e1 fe1;have HS:=Vh hs2;clear hv2 hs2;go_wp2
   exact bodyPost_ret (v:=.agg #[_,_]) (by simp [results,results128,go_sem,e0,e1]) rfl ⟨_,⟨m2,d2,g2,_,_,rfl,HS.out,⟨_,_,gq,gt,HR.out,HTK.out,rfl,HX.out⟩,rfl⟩,(((HT.out.set 4 0 rfl 0 _).set 4 0 rfl 1 _).pick [0,1,2,3,5] rfl).sum⟩
  ·have HZ:(if er=0 then (if k.kind=3 then (.at none .queues,({ k2 with tk:=some (Y4 k2.slot x,Xm) },x)) else (.at none .tries,(k2,x))) else if er=1 then (Zx k,Ql 1 (k2,x)) else (Zx k,Ql 0 (k2,x)):SC × ZC)=(Zx (Jl 0 k2),Ql 0 (k2,x)):=by rw [if_neg h0,if_neg h1,qjm (k:=k) (k2:=Jl 0 k2) hkeep.1]
   have hb0:(er == 0)=false:=beq_eq_false_iff_ne.2 h0;have hb1:(er == 1)=false:=beq_eq_false_iff_ne.2 h1;clear h0 h1;rw [HZ];unfold MRz;dsimp only [Ql]
   clear HZ;obtain ⟨hkk,hkr,hkt,hks⟩:=hkeep;obtain ⟨rv,tv,gq,gt,hr,ht,rfl,hx⟩:=hz;refine GO fun w HT=>?_
   have HT:=Vh (HT.out.sum (H':=[Qq kb L.fb pv rv tv k,gq,gt,gF]));have HX:=Vh hx;have HR:=Vh (show qw3 L.p.sb k2.rq rv gq from hkr ▸ hr);have HTK:=Vh (show qwz L k2.tk tv gt from hkt ▸ ht);have HKK:=Vh hkk;clear hx hr ht hkr hkt hkk;have HT:=Vh (HT.out.alloc (k:=w.heap.size) rfl 180 #[.nilFunc,.nilFunc]);go_enter func128,ntmps128
   go_wp2_with fail
   refine (Qa.use (HLK.out _ _ _ HX.out) (HT.out) [0,3] rfl rfl).mono ?_
   rintro e w1 ⟨gs,⟨rfl,g1,hx1,rfl⟩,Ta⟩;simp only [PU] at Ta;have HX:=Vh hx1;clear hx1;have HT:=Vh Ta;clear Ta;go_wp2_with fail
   refine (Qa.use (Z7 HX.out 0 HLN.out) (HT.out) [0,3] rfl rfl).mono ?_
   rintro e w1 ⟨gs,⟨rfl,g1,hx1,rfl⟩,Ta⟩;simp only [PU] at Ta;have HX:=Vh hx1;clear hx1;have HT:=Vh Ta;clear Ta;go_wp2_with fail
   refine Qa.run (qzn) (HT.out) [0] ?_
   rintro e w1 gs ⟨m2,d2,g2,rfl,hs2,rfl⟩ HT;simp only [PU] at HT;obtain ⟨e0,e1⟩:=Ce2 (HT.out.cell 4 0 rfl) 0 1;obtain ⟨fe0,fe1⟩:=Ce2 (HT.out.free 4 0 rfl) 0 1;simp only [GE4] at e0 e1;have hv2:=(Q5 L kb pv).vals hs2;obtain ⟨st1,st2⟩:=Cli.store_fv2 (P:=prog) hv2.1 hv2.2 e0 fe0 e1 fe1;have HS:=Vh hs2;clear hv2 hs2;go_wp2
   exact bodyPost_ret (v:=.agg #[_,_]) (by simp [results,results128,go_sem,e0,e1]) rfl ⟨_,⟨m2,d2,g2,_,_,rfl,HS.out,⟨_,_,gq,gt,HR.out,HTK.out,rfl,HX.out⟩,rfl⟩,(((HT.out.set 4 0 rfl 0 _).set 4 0 rfl 1 _).pick [0,1,2,3,5] rfl).sum⟩
theorem q02 (hz:qec L kb pv k x gK gF) (hp:qdq .again (k,x)):Qa prog 187 #[Qb kb] [gK,gF] (MRz L kb pv (zr .again (k,x))):=by
 obtain ⟨hok,hwk,_⟩:=hp;simp only at hok hwk;have HLN:=Vh hok.tr;have HLK:=Vh (show ∀ g rv tv,Qf L x g→_ from fun g rv tv hx=>qmm (kb:=kb) (pv:=pv) (rv:=rv) (tv:=tv) (k:=k) (g:=g) hx hok hwk.id.1 hwk.id.2);have hkeep:=qas k x.slab hwk.slot hwk.id.1
 have hE:∀ k2 er,lookW k x.slab=(k2,er)→zr .again (k,x)=if er=0 then (.at none .tries,(k2,x)) else (.thn (.row1 .again1) .leaves,Ql 0 (k2,x)):=by
  intro k2 er h
  show (if (lookW k x.slab).2=0 then _ else _)=_
  simp only [X4,h]
 obtain ⟨k2,er,hl⟩:∃ k2 er,lookW k x.slab=(k2,er):=⟨_,_,rfl⟩;rw [hE k2 er hl];rw [hl] at HLK hkeep;simp only at hkeep;clear hE hl hok hwk;by_cases h0:er=0
 ·have HZ:(if er=0 then (.at none .tries,(k2,x)) else (.thn (.row1 .again1) .leaves,Ql 0 (k2,x)):SC × ZC)=(.at none .tries,(k2,x)):=if_pos h0
  rw [h0] at HLK;clear h0;rw [HZ];unfold MRz;dsimp only [Ql]
  clear HZ;obtain ⟨hkk,hkr,hkt,hks⟩:=hkeep;obtain ⟨rv,tv,gq,gt,hr,ht,rfl,hx⟩:=hz;refine GO fun w HT=>?_
  have HT:=Vh (HT.out.sum (H':=[Qq kb L.fb pv rv tv k,gq,gt,gF]));have HX:=Vh hx;have HR:=Vh (show qw3 L.p.sb k2.rq rv gq from hkr ▸ hr);have HTK:=Vh (show qwz L k2.tk tv gt from hkt ▸ ht);clear hx hr ht hkr hkt hkk hks;have HT:=Vh ((HT.out.alloc (k:=w.heap.size) rfl 135 #[Qb kb]).alloc (k:=w.heap.size+1) (by simp) 180 #[.nilFunc,.nilFunc]);go_enter func187,ntmps187
  go_wp2_with fail
  refine (Qa.use (HLK.out _ _ _ HX.out) (HT.out) [0,3] rfl rfl).mono ?_
  rintro e w1 ⟨gs,⟨rfl,g1,hx1,rfl⟩,Ta⟩;simp only [PU] at Ta;have HX:=Vh hx1;clear hx1;have HT:=Vh Ta;clear Ta;have b0:=HT.out.cell 4 0 rfl 0;simp only [GE4] at b0;go_wp2_with fail
  refine Qa.run (Xr) (HT.out) [] ?_
  rintro e w1 gs ⟨rfl,rfl⟩ HT;simp only [PU] at HT;obtain ⟨e0,e1⟩:=Ce2 (HT.out.cell 5 0 rfl) 0 1;obtain ⟨fe0,fe1⟩:=Ce2 (HT.out.free 5 0 rfl) 0 1;simp only [GE4] at e0 e1;go_wp2
  exact bodyPost_ret (v:=.agg #[.nilFunc,.func (.func 155) #[Qb kb] #[]]) (by simp [results,results187,go_sem,e0,e1]) rfl ⟨_,⟨_,_,[],_,_,rfl,⟨rfl,rfl,rfl⟩,⟨_,_,gq,gt,HR.out,HTK.out,rfl,HX.out⟩,rfl⟩,(((HT.out.set 5 0 rfl 0 _).set 5 0 rfl 1 _).pick [0,1,2,3] rfl).sum⟩
 ·have HZ:(if er=0 then (.at none .tries,(k2,x)) else (.thn (.row1 .again1) .leaves,Ql 0 (k2,x)):SC × ZC)=(.thn (.row1 .again1) .leaves,Ql 0 (k2,x)):=if_neg h0
  have hb0:(er == 0)=false:=beq_eq_false_iff_ne.2 h0
  have hrow:∀ (bk b bf bl bi:Nat),(qfe L kb pv).SV (.row1 .again1) .nilFunc (.func (.func 166) #[] #[Qb bf,Qb bl,Qb bi])
   ([cl bf 1 #[.func (.func 221) #[] #[Qb bk]],cl bl 282 #[.slice (some ⟨b,0,none⟩) 1 1],cl bi 3 #[.int .i64 0],cl b 1 #[.func (.func 221) #[] #[Qb bk]]]++[cl bk 135 #[Qb kb]]) :=
   fun bk b bf bl bi=>⟨rfl,bf,bl,bi,b,0,_,_,_,rfl,⟨bk,rfl,rfl⟩,rfl,rfl⟩
  have hthen:∀ (bk b bf bl bi:Nat),_:=fun bk b bf bl bi=>Cli.prog_then_cons (f:=MC.leaves) (v:=.func (.func 148) #[Qb kb] #[]) (gm:=[]) (Q5 L kb pv) rfl (hrow bk b bf bl bi) ⟨rfl,rfl⟩
  have HTH:=Vh hthen;clear h0 hrow hthen;rw [HZ];unfold MRz;dsimp only [Ql]
  clear HZ;obtain ⟨hkk,hkr,hkt,hks⟩:=hkeep;obtain ⟨rv,tv,gq,gt,hr,ht,rfl,hx⟩:=hz;refine GO fun w HT=>?_
  have HT:=Vh (HT.out.sum (H':=[Qq kb L.fb pv rv tv k,gq,gt,gF]));have HX:=Vh hx;have HR:=Vh (show qw3 L.p.sb k2.rq rv gq from hkr ▸ hr);have HTK:=Vh (show qwz L k2.tk tv gt from hkt ▸ ht);clear hx hr ht hkr hkt hkk hks;have HT:=Vh ((HT.out.alloc (k:=w.heap.size) rfl 135 #[Qb kb]).alloc (k:=w.heap.size+1) (by simp) 180 #[.nilFunc,.nilFunc]);go_enter func187,ntmps187
  go_wp2_with fail
  refine (Qa.use (HLK.out _ _ _ HX.out) (HT.out) [0,3] rfl rfl).mono ?_
  rintro e w1 ⟨gs,⟨rfl,g1,hx1,rfl⟩,Ta⟩;simp only [PU] at Ta;have HX:=Vh hx1;clear hx1;have HT:=Vh Ta;clear Ta;have b0:=HT.out.cell 4 0 rfl 0;simp only [GE4] at b0;go_wp2_with fail
  refine (Qa.use (Z7 HX.out 0 HLN.out) (HT.out) [0,3] rfl rfl).mono ?_
  rintro e w1 ⟨gs,⟨rfl,g1,hx1,rfl⟩,Ta⟩;simp only [PU] at Ta;have HX:=Vh hx1;clear hx1;have HT:=Vh Ta;clear Ta;clear b0;have b0:=HT.out.cell 4 0 rfl 0;simp only [GE4] at b0;have ltb:=HT.out.lt 4 0 rfl;simp only [] at ltb;go_wp2_with fail
  go_region_with (first
   | (go_at_call 138
      refine (Qa.use (Cli.row_1 (b:=w1.heap.size) (o:=0) (D:=#[.func (.func 221) #[] #[Qb w.heap.size]]) rfl 1 (.inl rfl)) (HT.out.drew.alloc (k:=w1.heap.size) rfl _ _) [6] rfl rfl).mono ?_
      rintro e w2 ⟨gs,⟨bf,bl,bi,rfl,rfl⟩,Ta⟩;simp only [PU] at Ta;have b1:=Ta.cell 4 0 rfl 0;simp only [GE2] at b1;have HT1:=Vh (Ta.sum (H':=[Qq kb L.fb pv rv tv (Jl 0 k2),gq,gt,g1,[cl (w.heap.size+1) 180 #[.nilFunc,.nilFunc]],[cl bf 1 #[.func (.func 221) #[] #[Qb w.heap.size]],cl bl 282 #[.slice (some ⟨w1.heap.size,0,none⟩) 1 1],cl bi 3 #[.int .i64 0],cl w1.heap.size 1 #[.func (.func 221) #[] #[Qb w.heap.size]]]++[cl w.heap.size 135 #[Qb kb]],[]]))
      clear Ta)
   | (go_at_call 140
      refine (Qa.use (HTH.out _ _ _ _ _) HT1.out [5,6] rfl rfl).mono ?_
      rintro e w3 ⟨gs,⟨m2,d2,g2,rfl,hs2,rfl⟩,Ta⟩;simp only [PU] at Ta;obtain ⟨e0,e1⟩:=Ce2 (Ta.cell 4 0 rfl) 0 1;obtain ⟨f0,f1⟩:=Ce2 (Ta.free 4 0 rfl) 0 1;have hv2:=(Q5 L kb pv).vals hs2;obtain ⟨st1,st2⟩:=Cli.store_fv2 (P:=prog) hv2.1 hv2.2 e0 f0 e1 f1;clear hv2;have HS2:=Vh hs2;have HT2:=Vh Ta
      clear Ta hs2))
  all_goals
   go_wp2
   exact bodyPost_ret (v:=.agg #[_,_]) (by simp [results,results187,go_sem,e0,e1]) rfl ⟨_,⟨m2,d2,g2,_,_,rfl,HS2.out,⟨_,_,gq,gt,HR.out,HTK.out,rfl,HX.out⟩,rfl⟩,(((HT2.out.set 4 0 rfl 0 _).set 4 0 rfl 1 _).pick [0,1,2,3,5] rfl).sum⟩
end
end
end Go.Proofs.YtikpbibeagbccaaGreat
