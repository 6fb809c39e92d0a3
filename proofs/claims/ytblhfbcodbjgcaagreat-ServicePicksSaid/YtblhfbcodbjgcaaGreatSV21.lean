import Derived.Test.YtblhfbcodbjgcaaGreatSV13
import Derived.Test.YtblhfbcodbjgcaaGreatSV17
import Derived.Test.YtblhfbcodbjgcaaGreatSV20
import Derived.Test.YtblhfbcodbjgcaaGreatSV12
import Derived.Test.YtblhfbcodbjgcaaGreatSV16
import Derived.Test.YtblhfbcodbjgcaaGreatSV11
namespace Go.Proofs.YtblhfbcodbjgcaaGreat
set_option linter.unusedVariables false
set_option linter.unusedSimpArgs false
section
open Go.RowKit Go.Shelf
structure ShP where
 b:Nat
 rb:Nat
 lb:Nat
 wb:Nat
def isSh (q:ShP) (s:ShardS) (g:List Blk):Prop:=∃ gr gl,isRing q.rb s.ring gr∧isLock q.lb s.who s.turns gl∧g=shardB q.b q.rb q.lb q.wb++(gr++gl)
structure Lay where
 fb:Nat
 p:FPtr
 qs:List ShP
structure CoreS where
 f:FloorS
 slab:SlabS
 tr:List EvS
 shs:List ShardS
def isCore (L:Lay) (x:CoreS) (g:List Blk):Prop:=∃ tr gF gS gR gH gT,isFloor L.fb L.p x.f tr gF∧isSlab L.p.sb x.slab gS∧rowG 42 1 L.p.sh (L.qs.map ShP.b).length ((L.qs.map ShP.b).map fun b=>ptr' b) gR ∧
 L.qs.length=x.shs.length∧FamP (fun (z:ShP × ShardS)=>isSh z.1 z.2) (L.qs.zip x.shs) gH∧trG tr x.tr gT∧g=gF++(gS++(gR++(gH++gT)))
theorem ReadsG.part {P:Program} {f:Nat} {args:Array Value} {gs:GH} {v:Value} (r:ReadsG P f args gs v) {g:List Blk} {H:GH} (is:List Nat) (hH:∀ {w},HasG [g] w→∃ w0 h,TG h w0 H w) (hp:pickG H is=gs) (hf:fineG H is=true):ReadsG P f args [g] v:=by
 intro w hw
 obtain ⟨w0,h,T⟩:=hH hw
 exact r.use T is hp hf
section
variable {L:Lay} {x:CoreS} {g:List Blk}
theorem floorSlab_r {fb:Nat} {p:FPtr} {f:FloorS} {tr:Value} {g:List Blk} (hg:isFloor fb p f tr g):ReadsG Tryz.prog 22 #[ptr' fb] [g] (ptr' p.sb):=by
 obtain ⟨C,rfl,hc⟩:=hg
 intro w hw
 have T0:=TG.refl hw
 have HT:=Lib.hid T0
 clear hw T0
 have c0:=(HT.out.cell 0 0 rfl 6).trans hc.slab
 clear hc
 go_enter Tryz.func22,Tryz.ntmps22
 go_wp2
 go_ret
 exact ⟨rfl,0,rfl⟩
theorem coreSlab_r (hx:isCore L x g):ReadsG Tryz.prog 22 #[ptr' L.fb] [g] (ptr' L.p.sb):=by
 obtain ⟨tr,gF,gS,gR,gH,gT,h1,h2,h3,h4,h5,h6,rfl⟩:=hx
 intro w hw
 have T:=(TG.refl hw).sum (H':=[gF,gS,gR,gH,gT])
 exact (floorSlab_r h1).use T [0] rfl rfl
theorem coreHome_r (hx:isCore L x g) (hn:1≤L.qs.length) (i:Int):ReadsG Tryz.prog 171 #[ptr' L.fb,.int .i64 i] [g] (homeV (L.qs.map ShP.b) i):=by
 obtain ⟨tr,gF,gS,gR,gH,gT,h1,h2,h3,h4,h5,h6,rfl⟩:=hx
 intro w hw
 have T:=(TG.refl hw).sum (H':=[gF,gS,gR,gH,gT])
 exact (floorHome_r h1 h3 (by simpa using hn) i).use T [0,2] rfl rfl
theorem coreEnter (hx:isCore L x g) (h:0≤x.f.inside∧x.f.inside≤1000000):DoesG Tryz.prog 135 #[ptr' L.fb] [g] fun e gs=>e=.returned (.tuple #[])∧∃ g',isCore L { x with f:={ x.f with inside:=x.f.inside+1 } } g'∧gs=[g']:=by
 obtain ⟨tr,gF,gS,gR,gH,gT,h1,h2,h3,h4,h5,h6,rfl⟩:=hx
 intro w hw
 have T:=(TG.refl hw).sum (H':=[gF,gS,gR,gH,gT])
 refine (DoesG.use (floorEnter_g h1 h) T [0] rfl rfl).mono ?_
 rintro e w' ⟨gs,⟨he,g1,hn1,rfl⟩,T'⟩
 exact ⟨_,⟨he,_,⟨tr,g1,gS,gR,gH,gT,hn1,h2,h3,h4,h5,h6,rfl⟩,rfl⟩,TG.sum (H:=[g1,gS,gR,gH,gT]) T'⟩
theorem coreLeave (hx:isCore L x g) (h:0≤x.f.inside∧x.f.inside≤1000000):DoesG Tryz.prog 193 #[ptr' L.fb] [g] fun e gs=>e=.returned (.int .i64 (lessE x.f.inside))∧∃ g',isCore L { x with f:={ x.f with inside:=lessN x.f.inside } } g'∧gs=[g']:=by
 obtain ⟨tr,gF,gS,gR,gH,gT,h1,h2,h3,h4,h5,h6,rfl⟩:=hx
 intro w hw
 have T:=(TG.refl hw).sum (H':=[gF,gS,gR,gH,gT])
 refine (DoesG.use (floorLeave_g h1 h) T [0] rfl rfl).mono ?_
 rintro e w' ⟨gs,⟨he,g1,hn1,rfl⟩,T'⟩
 exact ⟨_,⟨he,_,⟨tr,g1,gS,gR,gH,gT,hn1,h2,h3,h4,h5,h6,rfl⟩,rfl⟩,TG.sum (H:=[g1,gS,gR,gH,gT]) T'⟩
theorem coreClosed (hx:isCore L x g):DoesG Tryz.prog 136 #[ptr' L.fb] [g] fun e gs=>e=.returned (.bool x.f.closed)∧∃ g',isCore L x g'∧gs=[g']:=by
 obtain ⟨tr,gF,gS,gR,gH,gT,h1,h2,h3,h4,h5,h6,rfl⟩:=hx
 intro w hw
 have T:=(TG.refl hw).sum (H':=[gF,gS,gR,gH,gT])
 refine (DoesG.use (floorClosed_g h1) T [0] rfl rfl).mono ?_
 rintro e w' ⟨gs,⟨he,g1,hn1,rfl⟩,T'⟩
 exact ⟨_,⟨he,_,⟨tr,g1,gS,gR,gH,gT,hn1,h2,h3,h4,h5,h6,rfl⟩,rfl⟩,TG.sum (H:=[g1,gS,gR,gH,gT]) T'⟩
theorem coreShut (hx:isCore L x g):DoesG Tryz.prog 34 #[ptr' L.fb] [g] fun e gs=>e=.returned (.bool (!x.f.closed))∧∃ g',isCore L { x with f:={ x.f with closed:=true } } g'∧gs=[g']:=by
 obtain ⟨tr,gF,gS,gR,gH,gT,h1,h2,h3,h4,h5,h6,rfl⟩:=hx
 intro w hw
 have T:=(TG.refl hw).sum (H':=[gF,gS,gR,gH,gT])
 refine (DoesG.use (floorShut_g h1) T [0] rfl rfl).mono ?_
 rintro e w' ⟨gs,⟨he,g1,hn1,rfl⟩,T'⟩
 exact ⟨_,⟨he,_,⟨tr,g1,gS,gR,gH,gT,hn1,h2,h3,h4,h5,h6,rfl⟩,rfl⟩,TG.sum (H:=[g1,gS,gR,gH,gT]) T'⟩
theorem coreInside (hx:isCore L x g):DoesG Tryz.prog 26 #[ptr' L.fb] [g] fun e gs=>e=.returned (.int .i64 x.f.inside)∧∃ g',isCore L x g'∧gs=[g']:=by
 obtain ⟨tr,gF,gS,gR,gH,gT,h1,h2,h3,h4,h5,h6,rfl⟩:=hx
 intro w hw
 have T:=(TG.refl hw).sum (H':=[gF,gS,gR,gH,gT])
 refine (DoesG.use (floorInside_g h1) T [0] rfl rfl).mono ?_
 rintro e w' ⟨gs,⟨he,g1,hn1,rfl⟩,T'⟩
 exact ⟨_,⟨he,_,⟨tr,g1,gS,gR,gH,gT,hn1,h2,h3,h4,h5,h6,rfl⟩,rfl⟩,TG.sum (H:=[g1,gS,gR,gH,gT]) T'⟩
theorem coreWord (hx:isCore L x g) (hn:x.slab.recs.length≤64) (k:Int):DoesG Tryz.prog 46 #[ptr' L.p.sb,.int .i64 k] [g] fun e gs=>e=.returned (.tuple #[.int .u64 (x.slab.word k),.int .i64 (x.slab.werr k)])∧∃ g',isCore L x g'∧gs=[g']:=by
 obtain ⟨tr,gF,gS,gR,gH,gT,h1,h2,h3,h4,h5,h6,rfl⟩:=hx
 intro w hw
 have T:=(TG.refl hw).sum (H':=[gF,gS,gR,gH,gT])
 refine (DoesG.use (slabWord_g h2 hn k) T [1] rfl rfl).mono ?_
 rintro e w' ⟨gs,⟨he,g1,hn1,rfl⟩,T'⟩
 exact ⟨_,⟨he,_,⟨tr,gF,g1,gR,gH,gT,h1,hn1,h3,h4,h5,h6,rfl⟩,rfl⟩,TG.sum (H:=[gF,g1,gR,gH,gT]) T'⟩
theorem coreSlot (hx:isCore L x g) (hn:x.slab.recs.length≤64) (id:Int) (h0:0≤id) (h9:id<18446744073709551616):DoesG Tryz.prog 203 #[ptr' L.p.sb,.int .u64 id] [g] fun e gs=>e=.returned (.tuple #[.int .i64 (x.slab.slot id),.int .i64 (x.slab.serr id)])∧∃ g',isCore L x g'∧gs=[g']:=by
 obtain ⟨tr,gF,gS,gR,gH,gT,h1,h2,h3,h4,h5,h6,rfl⟩:=hx
 intro w hw
 have T:=(TG.refl hw).sum (H':=[gF,gS,gR,gH,gT])
 refine (DoesG.use (slabSlot_g h2 hn id h0 h9) T [1] rfl rfl).mono ?_
 rintro e w' ⟨gs,⟨he,g1,hn1,rfl⟩,T'⟩
 exact ⟨_,⟨he,_,⟨tr,gF,g1,gR,gH,gT,h1,hn1,h3,h4,h5,h6,rfl⟩,rfl⟩,TG.sum (H:=[gF,g1,gR,gH,gT]) T'⟩
theorem coreMine (hx:isCore L x g) (hn:x.slab.recs.length≤64) (id:Int) (h0:0≤id) (h9:id<18446744073709551616):DoesG Tryz.prog 204 #[ptr' L.p.sb,.int .u64 id] [g] fun e gs=>e=.returned (.bool (x.slab.mine id))∧∃ g',isCore L x g'∧gs=[g']:=by
 obtain ⟨tr,gF,gS,gR,gH,gT,h1,h2,h3,h4,h5,h6,rfl⟩:=hx
 intro w hw
 have T:=(TG.refl hw).sum (H':=[gF,gS,gR,gH,gT])
 refine (DoesG.use (slabMine_g h2 hn id h0 h9) T [1] rfl rfl).mono ?_
 rintro e w' ⟨gs,⟨he,g1,hn1,rfl⟩,T'⟩
 exact ⟨_,⟨he,_,⟨tr,gF,g1,gR,gH,gT,h1,hn1,h3,h4,h5,h6,rfl⟩,rfl⟩,TG.sum (H:=[gF,g1,gR,gH,gT]) T'⟩
theorem coreDrop (hx:isCore L x g) (h0:0≤x.slab.count) (h9:x.slab.count≤64):DoesG Tryz.prog 232 #[ptr' L.p.sb] [g] fun e gs=>e=.returned (.int .i64 x.slab.drop.2)∧∃ g',isCore L { x with slab:=x.slab.drop.1 } g'∧gs=[g']:=by
 obtain ⟨tr,gF,gS,gR,gH,gT,h1,h2,h3,h4,h5,h6,rfl⟩:=hx
 intro w hw
 have T:=(TG.refl hw).sum (H':=[gF,gS,gR,gH,gT])
 refine (DoesG.use (slabDrop_g h2 h0 h9) T [1] rfl rfl).mono ?_
 rintro e w' ⟨gs,⟨he,g1,hn1,rfl⟩,T'⟩
 exact ⟨_,⟨he,_,⟨tr,gF,g1,gR,gH,gT,h1,hn1,h3,h4,h5,h6,rfl⟩,rfl⟩,TG.sum (H:=[gF,g1,gR,gH,gT]) T'⟩
theorem coreTry (hx:isCore L x g) (hn:x.slab.recs.length≤64) (k old ev:Int) (h0:0≤old) (h9:old<18446744073709551616):DoesG Tryz.prog 208 #[ptr' L.p.sb,.int .i64 k,.int .u64 old,.int .i64 ev] [g] fun e gs=>e=.returned (.tuple #[.int .u64 (x.slab.try k old ev).2.1,.int .i64 (x.slab.try k old ev).2.2])∧∃ g',isCore L { x with slab:=(x.slab.try k old ev).1 } g'∧gs=[g']:=by
 obtain ⟨tr,gF,gS,gR,gH,gT,h1,h2,h3,h4,h5,h6,rfl⟩:=hx
 intro w hw
 have T:=(TG.refl hw).sum (H':=[gF,gS,gR,gH,gT])
 refine (DoesG.use (slabTry_g h2 hn k old ev h0 h9) T [1] rfl rfl).mono ?_
 rintro e w' ⟨gs,⟨he,g1,hn1,rfl⟩,T'⟩
 exact ⟨_,⟨he,_,⟨tr,gF,g1,gR,gH,gT,h1,hn1,h3,h4,h5,h6,rfl⟩,rfl⟩,TG.sum (H:=[gF,g1,gR,gH,gT]) T'⟩
theorem coreReq (hx:isCore L x g) (qb:Nat) (q:Req) (hs:SlabOk x.slab) (hq:ReqOk x.slab.recs.length q):DoesG Tryz.prog 169 #[ptr' qb] [reqG qb L.p.sb q,g] fun e gs=>e=.returned (.int .i64 (stepR x.slab q).2.st)∧∃ g',isCore L { x with slab:=(stepR x.slab q).1 } g'∧gs=[reqG qb L.p.sb (stepR x.slab q).2,g']:=by
 obtain ⟨tr,gF,gS,gR,gH,gT,h1,h2,h3,h4,h5,h6,rfl⟩:=hx
 intro w hw
 have T:=(TG.refl hw).sum (H':=[reqG qb L.p.sb q,gF,gS,gR,gH,gT])
 refine (DoesG.use (reqStep_g qb q h2 hs hq) T [0,2] rfl rfl).mono ?_
 rintro e w' ⟨gs,⟨he,g1,hn1,rfl⟩,T'⟩
 exact ⟨_,⟨he,_,⟨tr,gF,g1,gR,gH,gT,h1,hn1,h3,h4,h5,h6,rfl⟩,rfl⟩,TG.sum (H:=[reqG qb L.p.sb (stepR x.slab q).2,gF,g1,gR,gH,gT]) T'⟩
theorem coreNote (hx:isCore L x g) (E:EvS) (hn:x.tr.length≤1000000):DoesG Tryz.prog 142 #[ptr' L.fb,.agg E.cells] [g] fun e gs=>e=.returned (.tuple #[])∧∃ g',isCore L { x with tr:=x.tr++[E] } g'∧gs=[g']:=by
 obtain ⟨tr,gF,gS,gR,gH,gT,h1,h2,h3,h4,h5,h6,rfl⟩:=hx
 intro w hw
 have T:=(TG.refl hw).sum (H':=[gF,gS,gR,gH,gT])
 refine (DoesG.use (floorNote_big E h1 h6 (by omega)) T [0,4] rfl rfl).mono ?_
 rintro e w' ⟨gs,⟨he,tr1,g1,gT1,hn1,hn2,rfl⟩,T'⟩
 exact ⟨_,⟨he,_,⟨tr1,g1,gS,gR,gH,gT1,hn1,h2,h3,h4,h5,trG.put hn2,rfl⟩,rfl⟩,TG.sum (H:=[g1,gS,gR,gH,gT1]) T'⟩
theorem zip_at {α β:Type} {l:List α} {m:List β} {i:Nat} {a:α} {b:β} (ha:l[i]?=some a) (hb:m[i]?=some b):(l.zip m)[i]?=some (a,b):=by
 rw [List.getElem?_zip_eq_some];exact ⟨ha,hb⟩
theorem zip_set {α β:Type}:∀ {l:List α} {m:List β} (i:Nat) {a:α} {b:β},l[i]?=some a→(l.zip m).set i (a,b)=l.zip (m.set i b)
 | [],m,i,a,b,h=>by simp at h
 | c::l,[],i,a,b,h=>by simp
 | c::l,d::m,0,a,b,h=>by simp at h;simp [h]
 | c::l,d::m,i+1,a,b,h=>by simp at h;simp [zip_set i h]
theorem coreTick (hx:isCore L x g) {i:Nat} {q:ShP} {s:ShardS} (hq:L.qs[i]?=some q) (hs:x.shs[i]?=some s) (tb:Nat) (t:TickS) (hr0:RingB s.ring) (ht:TickB t):DoesG Tryz.prog 198 #[ptr' tb] [tickG tb q.rb t,g] fun e gs=>e=.returned (.int .i64 (stepT s.ring t).2.status)∧∃ g',isCore L { x with shs:=x.shs.set i { s with ring:=(stepT s.ring t).1 } } g'∧gs=[tickG tb q.rb (stepT s.ring t).2,g']:=by
 obtain ⟨tr,gF,gS,gR,gH,gT,h1,h2,h3,h4,h5,h6,rfl⟩:=hx
 have hz:(L.qs.zip x.shs)[i]?=some (q,s):=zip_at hq hs
 obtain ⟨u,y,⟨gr,gl,hr,hl,rfl⟩,hp,hback⟩:=h5.out hz
 intro w hw
 have T:=(((TG.refl hw).sum (H':=[tickG tb q.rb t,gF++(gS++(gR++gT)),gH])).permAt 2 rfl hp).sum (H':=[tickG tb q.rb t,gF++(gS++(gR++gT)),shardB q.b q.rb q.lb q.wb,gr,gl,y])
 refine (DoesG.use (tickStep_g (tb:=tb) (t:=t) hr hr0 ht) T [0,3] rfl rfl).mono ?_
 rintro e w' ⟨gs,⟨he,g1,hn1,rfl⟩,T'⟩
 obtain ⟨gH',hf,hp'⟩:=hback (q,{ s with ring:=(stepT s.ring t).1 }) (shardB q.b q.rb q.lb q.wb++(g1++gl)) ⟨g1,gl,hn1,hl,rfl⟩
 rw [zip_set i hq] at hf
 refine ⟨_,⟨he,_,⟨tr,gF,gS,gR,gH',gT,h1,h2,h3,by simpa using h4,hf,h6,rfl⟩,rfl⟩,?_⟩
 exact ((TG.sum (H:=[tickG tb q.rb (stepT s.ring t).2,gF++(gS++(gR++gT)),shardB q.b q.rb q.lb q.wb,g1,gl,y]) (H':=[tickG tb q.rb (stepT s.ring t).2,gF++(gS++(gR++gT)),shardB q.b q.rb q.lb q.wb++(g1++gl)++y]) T').permAt 2 rfl hp').sum
theorem coreFill (hx:isCore L x g) {i:Nat} {q:ShP} {s:ShardS} (hq:L.qs[i]?=some q) (hs:x.shs[i]?=some s) (tb:Nat) (t:TickS) (hr0:RingB s.ring) (ht:TickB t) (v:TaskS):DoesG Tryz.prog 234 #[ptr' tb,.agg v.cells] [tickG tb q.rb t,g] fun e gs=>e=.returned (.int .i64 (fillT s.ring t v).2.2)∧∃ g',isCore L { x with shs:=x.shs.set i { s with ring:=(fillT s.ring t v).1 } } g'∧gs=[tickG tb q.rb (fillT s.ring t v).2.1,g']:=by
 obtain ⟨tr,gF,gS,gR,gH,gT,h1,h2,h3,h4,h5,h6,rfl⟩:=hx
 have hz:(L.qs.zip x.shs)[i]?=some (q,s):=zip_at hq hs
 obtain ⟨u,y,⟨gr,gl,hr,hl,rfl⟩,hp,hback⟩:=h5.out hz
 intro w hw
 have T:=(((TG.refl hw).sum (H':=[tickG tb q.rb t,gF++(gS++(gR++gT)),gH])).permAt 2 rfl hp).sum (H':=[tickG tb q.rb t,gF++(gS++(gR++gT)),shardB q.b q.rb q.lb q.wb,gr,gl,y])
 refine (DoesG.use (tickFill_g (tb:=tb) (t:=t) v hr hr0 ht) T [0,3] rfl rfl).mono ?_
 rintro e w' ⟨gs,⟨he,g1,hn1,rfl⟩,T'⟩
 obtain ⟨gH',hf,hp'⟩:=hback (q,{ s with ring:=(fillT s.ring t v).1 }) (shardB q.b q.rb q.lb q.wb++(g1++gl)) ⟨g1,gl,hn1,hl,rfl⟩
 rw [zip_set i hq] at hf
 refine ⟨_,⟨he,_,⟨tr,gF,gS,gR,gH',gT,h1,h2,h3,by simpa using h4,hf,h6,rfl⟩,rfl⟩,?_⟩
 exact ((TG.sum (H:=[tickG tb q.rb (fillT s.ring t v).2.1,gF++(gS++(gR++gT)),shardB q.b q.rb q.lb q.wb,g1,gl,y]) (H':=[tickG tb q.rb (fillT s.ring t v).2.1,gF++(gS++(gR++gT)),shardB q.b q.rb q.lb q.wb++(g1++gl)++y]) T').permAt 2 rfl hp').sum
end
end
section
open Go.RowKit Go.Shelf
structure WorkS where
 thread:Int
 no:Int
 kind:Int
 cid:Int
 cdl:Int
 cper:Int
 err:Int
 ok:Bool
 aid:Int
 agen:Int
 id:Int
 slot:Int
 saw:Int
 gen:Int
 rq:Option Req
 tk:Option (Nat × TickS)
def workC (fb:Nat) (pv rv tv:Value) (k:WorkS):Array Value:=#[ptr' fb,.int .i64 k.thread,.int .i64 k.no,.int .i64 k.kind,.int .u64 k.cid,.int .u64 k.cdl,.int .u64 k.cper,.int .i64 k.err,.bool k.ok,.int .u64 k.aid,.int .u64 k.agen,.slice none 0 0,pv,rv,tv,.int .u64 k.id,.int .i64 k.slot,.int .u64 k.saw,.int .u64 k.gen]
abbrev workB (kb fb:Nat) (pv rv tv:Value) (k:WorkS):List Blk:=[cl kb 144 (workC fb pv rv tv k)]
def WorkS.ev (k:WorkS) (E:EvS):EvS:={ E with thread:=k.thread,call:=k.no,what:=k.kind }
def noteC (k:WorkS) (E:EvS) (x:CoreS):CoreS:={ x with tr:=x.tr++[k.ev E] }
def ev0:EvS:=⟨0,0,0,0,0,0,0,0,0,0⟩
def refuseW (e:Int) (k:WorkS):WorkS:={ k with err:=e,ok:=false,aid:=0,agen:=0 }
section
variable {L:Lay} {x:CoreS} {g:List Blk} {kb:Nat} {pv rv tv:Value} {k:WorkS}
set_option maxRecDepth 100000 in
theorem workNote (hx:isCore L x g) (E:EvS) (hn:x.tr.length≤1000000):DoesG Tryz.prog 89 #[ptr' kb,.agg E.cells] [workB kb L.fb pv rv tv k,g] fun e gs =>
 e=.returned (.tuple #[])∧∃ g',isCore L (noteC k E x) g'∧gs=[workB kb L.fb pv rv tv k,g']:=by
 intro w hw
 have T0:=TG.refl hw
 have HT:=Lib.hid T0
 clear hw T0
 have HN:=Lib.hid (coreNote hx (k.ev E) hn)
 have lt:=HT.out.lt 0 0 rfl
 simp only [] at lt
 have k0:=HT.out.cell 0 0 rfl 0
 have k1:=HT.out.cell 0 0 rfl 1
 have k2:=HT.out.cell 0 0 rfl 2
 have k3:=HT.out.cell 0 0 rfl 3
 simp only [workC,GE3] at k0 k1 k2 k3
 clear hx hn
 simp only [EvS.cells]
 go_enter Tryz.func89,Tryz.ntmps89
 go_wp2
 go_region
 go_wp2
 have HT:=Lib.hid (HT.out.alloc (k:=w.heap.size) rfl 152 (k.ev E).cells).drew
 simp only [List.cons_append,List.nil_append] at HT
 simp only [EvS.cells,WorkS.ev] at HT
 clear lt k1 k2 k3 k0
 generalize World.drew _=w1 at HT ⊢
 have k0:=HT.out.cell 0 0 rfl 0
 have b0:=HT.out.cell 2 0 rfl 0
 have b1:=HT.out.cell 2 0 rfl 1
 have b2:=HT.out.cell 2 0 rfl 2
 have b3:=HT.out.cell 2 0 rfl 3
 have b4:=HT.out.cell 2 0 rfl 4
 have b5:=HT.out.cell 2 0 rfl 5
 have b6:=HT.out.cell 2 0 rfl 6
 have b7:=HT.out.cell 2 0 rfl 7
 have b8:=HT.out.cell 2 0 rfl 8
 have b9:=HT.out.cell 2 0 rfl 9
 simp only [workC,GE3] at k0 b0 b1 b2 b3 b4 b5 b6 b7 b8 b9
 refine wp_region_mix1 5 (by kernel_rfl) (by kernel_rfl) ?_
 simp only [TD4]
 repeat (go_big_quiet_step ((fail)))
 refine wpQuiet_nil ?_
 intro _ hw'
 obtain ⟨nq,hw''⟩:=hw'
 subst hw''
 have HT:=Lib.hid (HT.out.drewN nq)
 go_wp2_with fail
 refine (DoesG.use (HN.out) (HT.out) [1] rfl rfl).mono ?_
 rintro e w1 ⟨gs,⟨rfl,g',hx',rfl⟩,Ta⟩
 simp only [PU] at Ta
 have HX:=Lib.hid hx'
 clear hx'
 have HT:=Lib.hid Ta
 clear Ta
 go_wp2_with fail
 refine ⟨rfl,?_⟩
 go_wp2
 exact bodyPost_end (results_none rfl _ _ _) rfl ⟨_,⟨rfl,g',HX.out,rfl⟩,HT.out.pick [0,1] rfl⟩
set_option maxRecDepth 100000 in
theorem workRefuse (hx:isCore L x g) (e:Int) (hn:x.tr.length≤1000000):DoesG Tryz.prog 133 #[ptr' kb,.int .i64 e] [workB kb L.fb pv rv tv k,g] fun r gs =>
 r=.returned (.tuple #[])∧∃ g',isCore L (noteC k { ev0 with kind:=9,err:=e } x) g'∧gs=[workB kb L.fb pv rv tv (refuseW e k),g']:=by
 intro w hw
 have T0:=TG.refl hw
 have HT:=Lib.hid T0
 clear hw T0
 have HN:=Lib.hid (workNote (kb:=kb) (pv:=pv) (rv:=rv) (tv:=tv) (k:=k) hx { ev0 with kind:=9,err:=e } hn)
 clear hx hn
 go_enter Tryz.func133,Tryz.ntmps133
 go_wp2_with fail
 refine (DoesG.use (HN.out) (HT.out) [0,1] rfl rfl).mono ?_
 rintro e w1 ⟨gs,⟨rfl,g',hx',rfl⟩,Ta⟩
 simp only [PU] at Ta
 have HX:=Lib.hid hx'
 clear hx'
 have HT:=Lib.hid Ta
 clear Ta
 have c7:=HT.out.cell 0 0 rfl 7
 have c8:=HT.out.cell 0 0 rfl 8
 have c9:=HT.out.cell 0 0 rfl 9
 have c10:=HT.out.cell 0 0 rfl 10
 have c11:=HT.out.cell 0 0 rfl 11
 have f7:=HT.out.free 0 0 rfl 7
 have f8:=HT.out.free 0 0 rfl 8
 have f9:=HT.out.free 0 0 rfl 9
 have f10:=HT.out.free 0 0 rfl 10
 have f11:=HT.out.free 0 0 rfl 11
 simp only [workC,GE3] at c7 c8 c9 c10 c11
 go_wp2
 exact bodyPost_end (results_none rfl _ _ _) rfl ⟨_,⟨rfl,g',HX.out,rfl⟩,(((((HT.out.set 0 0 rfl 7 _).set 0 0 rfl 8 _).set 0 0 rfl 9 _).set 0 0 rfl 10 _).set 0 0 rfl 11 _).eq rfl⟩
end
end
section
open Go.RowKit Go.Shelf
def WorkS.period (k:WorkS):Int:=if k.kind=2 then k.cper else 0
def WorkS.event (k:WorkS):Int:=if k.kind=4 then 6 else if k.kind=5 then 7 else 8
theorem isSlab.open {sb:Nat} {s:SlabS} {g:List Blk} (h:isSlab sb s g):∃ rb C D,g=[cl sb 160 C,cl rb 178 D]∧C.size=5∧C[0]?=some (.slice (some ⟨rb,0,none⟩) s.recs.length s.recs.length)∧cellAt C 1 (.int .i64 s.count)∧D.size=s.recs.length*6∧∀ i r,s.recs[i]?=some r→recAt D i r:=by
 obtain ⟨rb,m⟩:=h
 unfold slabH at m
 cases m with
 | cons h1 m =>
   cases m with
   | cons h2 m =>
     cases m
     obtain ⟨C,rfl,a,b,c⟩:=h1
     obtain ⟨D,rfl,d,e⟩:=h2
     exact ⟨rb,C,D,rfl,a,b,c,d,e⟩
theorem slabPeriod_r {sb:Nat} {s:SlabS} {g:List Blk} (h:isSlab sb s g) (hn:s.recs.length≤64) (k:Int):ReadsG Tryz.prog 207 #[ptr' sb,.int .i64 k] [g] (.int .u64 (s.period k)):=by
 obtain ⟨rb,C,D,rfl,h1,h2,h3,h4,h5⟩:=h.open
 intro w hw
 have T0:=TG.refl hw
 have HT:=Lib.hid T0
 clear hw T0
 have c0:=(HT.out.cell 0 0 rfl 0).trans h2
 by_cases hk:s.has k
 ·obtain ⟨j,rfl⟩:=SlabS.has_nat hk
  obtain ⟨r,hr,hr'⟩:=SlabS.has_at hk
  have HP:=Lib.hid (show s.period j=r.p from by unfold SlabS.period;rw [if_pos hk,hr'])
  have c1:=(HT.out.cell 0 1 rfl (j*6+5)).trans (h5 j r hr).2.2
  have hj:j<s.recs.length:=by unfold SlabS.has at hk;omega
  clear h1 h2 h3 h4 h5 h hk hr hr'
  generalize s.recs.length=n at *
  have atc:∀ w',w'.cell? ⟨sb,0,none⟩=some (.slice (some ⟨rb,0,none⟩) n n)→Calls Tryz.prog 109 #[ptr' sb,.int .i64 (j:Int)] w' fun e w2=>e=.returned (.pointer (some ⟨rb,j*6,none⟩))∧w'=w2:=by
   intro w' c0'
   clear c0 c1 HT
   go_enter Tryz.func109,Tryz.ntmps109
   go_wp2
   go_ret
   exact ⟨rfl,rfl⟩
  have HAT:=Lib.hid (atc w c0)
  clear atc
  go_enter Tryz.func207,Tryz.ntmps207
  go_wp2_with fail
  refine (HAT.out).mono ?_
  rintro e w2 ⟨rfl,rfl⟩
  go_wp2
  go_ret
  exact ⟨by rw [HP.out];rfl,0,rfl⟩
 ·have HP:=Lib.hid (show s.period k=0 from if_neg hk)
  have hk':¬ (0≤k∧k<s.recs.length):=hk
  clear h1 h2 h3 h4 h5 h hk
  generalize s.recs.length=n at *
  have atc:∀ w',w'.cell? ⟨sb,0,none⟩=some (.slice (some ⟨rb,0,none⟩) n n)→Calls Tryz.prog 109 #[ptr' sb,.int .i64 k] w' fun e w2=>e=.returned (.pointer none)∧w'=w2:=by
   intro w' c0'
   clear c0 HT
   by_cases h0:0≤k
   ·have h9:(n:Int)≤k:=by omega
    clear hk'
    go_enter Tryz.func109,Tryz.ntmps109
    go_wp2
    go_ret
    exact ⟨rfl,rfl⟩
   ·have h9:k<0:=by omega
    clear hk' h0
    go_enter Tryz.func109,Tryz.ntmps109
    go_wp2
    go_ret
    exact ⟨rfl,rfl⟩
  have HAT:=Lib.hid (atc w c0)
  clear atc hk'
  go_enter Tryz.func207,Tryz.ntmps207
  go_wp2_with fail
  refine (HAT.out).mono ?_
  rintro e w2 ⟨rfl,rfl⟩
  go_wp2
  go_ret
  exact ⟨by rw [HP.out];rfl,0,rfl⟩
section
variable {L:Lay} {x:CoreS} {g:List Blk} {kb:Nat} {pv rv tv:Value} {k:WorkS}
theorem corePeriod_r (hx:isCore L x g) (hn:x.slab.recs.length≤64) (i:Int):ReadsG Tryz.prog 207 #[ptr' L.p.sb,.int .i64 i] [g] (.int .u64 (x.slab.period i)):=by
 obtain ⟨tr,gF,gS,gR,gH,gT,h1,h2,h3,h4,h5,h6,rfl⟩:=hx
 intro w hw
 have T:=(TG.refl hw).sum (H':=[gF,gS,gR,gH,gT])
 exact (slabPeriod_r h2 hn i).use T [1] rfl rfl
theorem workPeriod_r:ReadsG Tryz.prog 139 #[ptr' kb] [workB kb L.fb pv rv tv k] (.int .u64 k.period):=by
 by_cases h:k.kind=2
 ·have HE:=Lib.hid (show k.period=k.cper from if_pos h)
  intro w hw
  have T0:=TG.refl hw
  have HT:=Lib.hid T0
  clear hw T0
  have k3:=HT.out.cell 0 0 rfl 3
  have k6:=HT.out.cell 0 0 rfl 6
  simp only [workC,GE3] at k3 k6
  rw [h] at k3
  clear h
  go_enter Tryz.func139,Tryz.ntmps139
  go_wp2
  go_ret
  exact ⟨by rw [HE.out];rfl,0,rfl⟩
 ·have HE:=Lib.hid (show k.period=0 from if_neg h)
  have hb:(k.kind == 2)=false:=beq_eq_false_iff_ne.2 h
  intro w hw
  have T0:=TG.refl hw
  have HT:=Lib.hid T0
  clear hw T0
  have k3:=HT.out.cell 0 0 rfl 3
  have k6:=HT.out.cell 0 0 rfl 6
  simp only [workC,GE3] at k3 k6
  clear h
  go_enter Tryz.func139,Tryz.ntmps139
  go_wp2
  go_ret
  exact ⟨by rw [HE.out];rfl,0,rfl⟩
theorem workKind_r:ReadsG Tryz.prog 206 #[ptr' kb] [workB kb L.fb pv rv tv k] (.int .i64 k.event):=by
 by_cases h:k.kind=4
 ·have HE:=Lib.hid (show k.event=6 from if_pos h)
  intro w hw
  have T0:=TG.refl hw
  have HT:=Lib.hid T0
  clear hw T0
  have k3:=HT.out.cell 0 0 rfl 3
  simp only [workC,GE3] at k3
  rw [h] at k3
  clear h
  go_enter Tryz.func206,Tryz.ntmps206
  go_wp2
  go_ret
  exact ⟨by rw [HE.out];rfl,0,rfl⟩
 ·have hb:(k.kind == 4)=false:=beq_eq_false_iff_ne.2 h
  by_cases h':k.kind=5
  ·have HE:=Lib.hid (show k.event=7 from (if_neg h).trans (if_pos h'))
   intro w hw
   have T0:=TG.refl hw
   have HT:=Lib.hid T0
   clear hw T0
   have k3:=HT.out.cell 0 0 rfl 3
   simp only [workC,GE3] at k3
   rw [h'] at k3
   clear h h' hb
   go_enter Tryz.func206,Tryz.ntmps206
   go_wp2
   go_ret
   exact ⟨by rw [HE.out];rfl,0,rfl⟩
  ·have hb':(k.kind == 5)=false:=beq_eq_false_iff_ne.2 h'
   have HE:=Lib.hid (show k.event=8 from (if_neg h).trans (if_neg h'))
   intro w hw
   have T0:=TG.refl hw
   have HT:=Lib.hid T0
   clear hw T0
   have k3:=HT.out.cell 0 0 rfl 3
   simp only [workC,GE3] at k3
   clear h h'
   go_enter Tryz.func206,Tryz.ntmps206
   go_wp2
   go_ret
   exact ⟨by rw [HE.out];rfl,0,rfl⟩
set_option maxRecDepth 100000 in
theorem callsAt {fn:FuncId} {first caps:Array Value}:DoesG Tryz.prog 85 #[.func (.func fn) first caps] [] fun e gs=>e=.returned (.agg #[.nilFunc,.func (.func fn) first caps])∧gs=[]:=by
 intro w hw
 have T0:=TG.refl hw
 have HT:=Lib.hid T0
 clear hw T0
 go_enter Tryz.func85,Tryz.ntmps85
 go_wp2
 exact bodyPost_ret (v:=.agg #[.nilFunc,.func (.func fn) first caps]) (by simp [results,Tryz.results85,go_sem]) rfl ⟨_,⟨rfl,rfl⟩,HT.out.alloc0 _⟩
end
end
section
open Go.RowKit Go.Shelf
structure CoreOk (x:CoreS):Prop where
 slab:SlabOk x.slab
 i0:0≤x.f.inside
 i1:x.f.inside≤1000000
 tr:x.tr.length≤1000000
 sh:1≤x.shs.length
 ring:∀ s∈x.shs,RingB s.ring
theorem word_bd {s:SlabS} (h:SlabOk s) (k:Int):0≤s.word k∧s.word k<18446744073709551616∧okW (s.word k)=true:=by
 unfold SlabS.word
 split
 ·next hk =>
  obtain ⟨j,rfl⟩:=SlabS.has_nat hk
  obtain ⟨r,hr,hr'⟩:=SlabS.has_at hk
  rw [hr']
  have:=h.recs r (List.mem_of_getElem? hr)
  exact ⟨this.w0,this.w1,this.ok⟩
 ·exact ⟨by omega,by omega,by decide⟩
def eventS (k:Int) (ev:Int) (s:SlabS):SlabS × Int:=((s.try k (s.word k) ev).1,(s.try k (s.word k) ev).2.1)
def eventW (ev:Int) (k:WorkS) (s:SlabS):WorkS:={ k with gen:=genW (eventS k.slot ev s).2 }
def lookW (k:WorkS) (s:SlabS):WorkS × Int :=
 if s.serr k.id≠0 then (k,s.serr k.id) else
  if s.mine k.id=false then ({ k with slot:=s.slot k.id,saw:=s.word (s.slot k.id) },7)
  else ({ k with slot:=s.slot k.id,saw:=s.word (s.slot k.id) },(nextW (s.word (s.slot k.id)) k.event (decide (0<s.period (s.slot k.id)))).2)
theorem next_r (n e:Int) (p:Bool) (h0:0≤n) (h1:n<18446744073709551616):ReadsG Tryz.prog 205 #[.int .u64 n,.int .i64 e,.bool p] [] (.tuple #[.int .u64 (nextW n e p).1,.int .i64 (nextW n e p).2]) :=
 fun w hw=>(next_calls n e p w h0 h1).mono fun e w' ⟨he,hw'⟩=>⟨he,0,hw'.symm⟩
section
variable {L:Lay} {x:CoreS} {g:List Blk} {kb:Nat} {pv rv tv:Value} {k:WorkS}
set_option maxRecDepth 100000 in
theorem workEvent (hx:isCore L x g) (ho:CoreOk x) (ev:Int):DoesG Tryz.prog 212 #[ptr' kb,.int .i64 ev] [workB kb L.fb pv rv tv k,g] fun r gs =>
 r=.returned (.tuple #[])∧∃ g',isCore L { x with slab:=(eventS k.slot ev x.slab).1 } g'∧gs=[workB kb L.fb pv rv tv (eventW ev k x.slab),g']:=by
 obtain ⟨w0,w1,w2⟩:=word_bd ho.slab k.slot
 have tb:=try_word ho.slab k.slot (x.slab.word k.slot) ev w0 w1 w2
 have HW:=Lib.hid (coreWord hx ho.slab.n1 k.slot)
 have HY:=Lib.hid (show ∀ g',isCore L x g'→_ from fun g' hx'=>coreTry (g:=g') hx' ho.slab.n1 k.slot (x.slab.word k.slot) ev w0 w1)
 have HE:=Lib.hid (show eventS k.slot ev x.slab=((x.slab.try k.slot (x.slab.word k.slot) ev).1,(x.slab.try k.slot (x.slab.word k.slot) ev).2.1)∧eventW ev k x.slab={ k with gen:=genW (x.slab.try k.slot (x.slab.word k.slot) ev).2.1 } from ⟨rfl,rfl⟩)
 have HTB:=Lib.hid tb
 intro w hw
 have T0:=TG.refl hw
 have HT:=Lib.hid T0
 clear hw T0
 have k0:=HT.out.cell 0 0 rfl 0
 have k16:=HT.out.cell 0 0 rfl 16
 simp only [workC,GE3] at k0 k16
 have HX:=Lib.hid hx
 clear hx ho w0 w1 w2 tb
 go_enter Tryz.func212,Tryz.ntmps212
 go_wp2
 refine wp_region_mix1 9 (by kernel_rfl) (by kernel_rfl) ?_
 simp only [TD4]
 repeat (go_big_quiet_step ((first | (go_at_call 22;with_reducible exact ReadsG.quiet (coreSlab_r HX.out) HT.out _ [1] rfl rfl))))
 refine wpQuiet_nil ?_
 intro _ hw'
 obtain ⟨nq,hw''⟩:=hw'
 subst hw''
 have HT:=Lib.hid (HT.out.drewN nq)
 go_wp2_with fail
 refine (DoesG.use (HW.out) (HT.out) [1] rfl rfl).mono ?_
 rintro e w1 ⟨gs,⟨rfl,g1,hx1,rfl⟩,Ta⟩
 simp only [PU] at Ta
 have HX:=Lib.hid hx1
 clear hx1 k0 k16
 have HT:=Lib.hid Ta
 clear Ta
 go_wp2_with fail
 refine ⟨rfl,?_⟩
 have k0:=HT.out.cell 0 0 rfl 0
 have k16:=HT.out.cell 0 0 rfl 16
 simp only [workC,GE3] at k0 k16
 go_wp2
 refine wp_region_mix1 11 (by kernel_rfl) (by kernel_rfl) ?_
 simp only [TD4]
 repeat (go_big_quiet_step ((first | (go_at_call 22;with_reducible exact ReadsG.quiet (coreSlab_r HX.out) HT.out _ [1] rfl rfl))))
 refine wpQuiet_nil ?_
 intro _ hw'
 obtain ⟨nq,hw''⟩:=hw'
 subst hw''
 have HT:=Lib.hid (HT.out.drewN nq)
 go_wp2_with fail
 refine (DoesG.use (HY.out _ HX.out) (HT.out) [1] rfl rfl).mono ?_
 rintro e w1 ⟨gs,⟨rfl,g2,hx2,rfl⟩,Ta⟩
 simp only [PU] at Ta
 have HX2:=Lib.hid hx2
 clear hx2 k0 k16
 have HT:=Lib.hid Ta
 clear Ta
 go_wp2_with fail
 refine ⟨rfl,?_⟩
 have k18:=HT.out.cell 0 0 rfl 18
 have fk18:=HT.out.free 0 0 rfl 18
 simp only [workC,GE3] at k18
 go_wp2_with (go_at_call 209;refine (gen_calls _ _ HTB.out.1 HTB.out.2).mono ?_;rintro e w' ⟨rfl,rfl⟩)
 exact bodyPost_end (results_none rfl _ _ _) rfl ⟨_,⟨rfl,g2,by rw [HE.out.1];exact HX2.out,rfl⟩,(HT.out.set 0 0 rfl 18 _).eq (by rw [HE.out.2];rfl)⟩
set_option maxRecDepth 100000 in
theorem workLook (hx:isCore L x g) (ho:CoreOk x) (h0:0≤k.id) (h9:k.id<18446744073709551616):DoesG Tryz.prog 174 #[ptr' kb] [workB kb L.fb pv rv tv k,g] fun r gs =>
 r=.returned (.int .i64 (lookW k x.slab).2)∧∃ g',isCore L x g'∧gs=[workB kb L.fb pv rv tv (lookW k x.slab).1,g']:=by
 have HSL:=Lib.hid (show ∀ g',isCore L x g'→_ from fun g' hx'=>coreSlot (g:=g') hx' ho.slab.n1 k.id h0 h9)
 by_cases h1:x.slab.serr k.id≠0
 ·have HE:=Lib.hid (show lookW k x.slab=(k,x.slab.serr k.id) from if_pos h1)
  have hb:(x.slab.serr k.id != 0)=true:=bne_iff_ne.2 h1
  have HX:=Lib.hid hx
  intro w hw
  have T0:=TG.refl hw
  have HT:=Lib.hid T0
  clear hw T0
  have k0:=HT.out.cell 0 0 rfl 0
  have k15:=HT.out.cell 0 0 rfl 15
  simp only [workC,GE3] at k0 k15
  clear hx ho h0 h9 h1
  go_enter Tryz.func174,Tryz.ntmps174
  go_wp2
  refine wp_region_mix1 9 (by kernel_rfl) (by kernel_rfl) ?_
  simp only [TD4]
  repeat (go_big_quiet_step ((first | (go_at_call 22;with_reducible exact ReadsG.quiet (coreSlab_r HX.out) HT.out _ [1] rfl rfl))))
  refine wpQuiet_nil ?_
  intro _ hw'
  obtain ⟨nq,hw''⟩:=hw'
  subst hw''
  have HT:=Lib.hid (HT.out.drewN nq)
  go_wp2_with fail
  refine (DoesG.use (HSL.out _ HX.out) (HT.out) [1] rfl rfl).mono ?_
  rintro e w1 ⟨gs,⟨rfl,g1,hx1,rfl⟩,Ta⟩
  simp only [PU] at Ta
  have HX:=Lib.hid hx1
  clear hx1 k0 k15
  have HT:=Lib.hid Ta
  clear Ta
  go_wp2_with fail
  refine ⟨rfl,?_⟩
  go_wp2
  go_ret
  exact ⟨_,⟨by rw [HE.out];rfl,g1,HX.out,rfl⟩,HT.out.eq (by rw [HE.out])⟩
 ·have h1:x.slab.serr k.id=0:=by omega
  have HS0:=Lib.hid h1
  obtain ⟨sl,hsl⟩:∃ sl,x.slab.slot k.id=sl:=⟨_,rfl⟩
  have HSL0:=Lib.hid hsl
  have HWD:=Lib.hid (show ∀ g',isCore L x g'→_ from fun g' hx'=>coreWord (g:=g') hx' ho.slab.n1 sl)
  have HMI:=Lib.hid (show ∀ g',isCore L x g'→_ from fun g' hx'=>coreMine (g:=g') hx' ho.slab.n1 k.id h0 h9)
  have HPE:=Lib.hid (show ∀ g',isCore L x g'→_ from fun g' hx'=>corePeriod_r (g:=g') hx' ho.slab.n1 sl)
  have HWB:=Lib.hid (word_bd ho.slab sl)
  rw [h1,hsl] at HSL
  have HX:=Lib.hid hx
  cases hm:x.slab.mine k.id with
  | false =>
    have HE:=Lib.hid (show lookW k x.slab=({ k with slot:=sl,saw:=x.slab.word sl },7) from by unfold lookW;rw [if_neg (by rw [h1];simp),if_pos hm,hsl])
    rw [hm] at HMI
    intro w hw
    have T0:=TG.refl hw
    have HT:=Lib.hid T0
    clear hw T0
    have k0:=HT.out.cell 0 0 rfl 0
    have k15:=HT.out.cell 0 0 rfl 15
    simp only [workC,GE3] at k0 k15
    clear hx ho h0 h9 h1 hsl hm
    go_enter Tryz.func174,Tryz.ntmps174
    go_wp2
    refine wp_region_mix1 9 (by kernel_rfl) (by kernel_rfl) ?_
    simp only [TD4]
    repeat (go_big_quiet_step ((first | (go_at_call 22;with_reducible exact ReadsG.quiet (coreSlab_r HX.out) HT.out _ [1] rfl rfl))))
    refine wpQuiet_nil ?_
    intro _ hw'
    obtain ⟨nq,hw''⟩:=hw'
    subst hw''
    have HT:=Lib.hid (HT.out.drewN nq)
    go_wp2_with fail
    refine (DoesG.use (HSL.out _ HX.out) (HT.out) [1] rfl rfl).mono ?_
    rintro e w1 ⟨gs,⟨rfl,g1,hx1,rfl⟩,Ta⟩
    simp only [PU] at Ta
    have HX:=Lib.hid hx1
    clear hx1 k0 k15
    have HT:=Lib.hid Ta
    clear Ta
    go_wp2_with fail
    refine ⟨rfl,?_⟩
    have k0:=HT.out.cell 0 0 rfl 0
    have k16:=HT.out.cell 0 0 rfl 16
    have fk16:=HT.out.free 0 0 rfl 16
    simp only [workC,GE3] at k0 k16
    go_wp2_with fail
    have HT:=Lib.hid (HT.out.set 0 0 rfl 16 (.int .i64 sl))
    go_wp2_with fail
    refine (ReadsG.use (coreSlab_r HX.out) (HT.out) [1] rfl rfl).mono ?_
    rintro e w1 ⟨rfl,mq,rfl⟩
    have HT:=Lib.hid (HT.out.drewN mq)
    go_wp2_with fail
    refine (DoesG.use (HWD.out _ HX.out) (HT.out) [1] rfl rfl).mono ?_
    rintro e w1 ⟨gs,⟨rfl,g2,hx2,rfl⟩,Ta⟩
    simp only [PU] at Ta
    have HX:=Lib.hid hx2
    clear hx2 k0 k16 fk16
    have HT:=Lib.hid Ta
    clear Ta
    have k0:=HT.out.cell 0 0 rfl 0
    have k15:=HT.out.cell 0 0 rfl 15
    have k17:=HT.out.cell 0 0 rfl 17
    have fk17:=HT.out.free 0 0 rfl 17
    simp only [workC,GE3] at k0 k15 k17
    go_wp2
    have HT:=Lib.hid (HT.out.set 0 0 rfl 17 (.int .u64 (x.slab.word sl)))
    refine wp_region_mix1 9 (by kernel_rfl) (by kernel_rfl) ?_
    simp only [TD4]
    repeat (go_big_quiet_step ((first | (go_at_call 22;with_reducible exact ReadsG.quiet (coreSlab_r HX.out) HT.out _ [1] rfl rfl))))
    refine wpQuiet_nil ?_
    intro _ hw'
    obtain ⟨nq,hw''⟩:=hw'
    subst hw''
    have HT:=Lib.hid (HT.out.drewN nq)
    go_wp2_with fail
    refine (DoesG.use (HMI.out _ HX.out) (HT.out) [1] rfl rfl).mono ?_
    rintro e w1 ⟨gs,⟨rfl,g3,hx3,rfl⟩,Ta⟩
    simp only [PU] at Ta
    have HX:=Lib.hid hx3
    clear hx3 k0 k15 k17 fk17
    have HT:=Lib.hid Ta
    clear Ta
    go_wp2_with fail
    refine ⟨rfl,?_⟩
    go_wp2
    go_ret
    exact ⟨_,⟨by rw [HE.out];rfl,g3,HX.out,rfl⟩,HT.out.eq (by rw [HE.out];rfl)⟩
  | true =>
    have HE:=Lib.hid (show lookW k x.slab=({ k with slot:=sl,saw:=x.slab.word sl },(nextW (x.slab.word sl) k.event (decide (0<x.slab.period sl))).2) from by unfold lookW;rw [if_neg (by rw [h1];simp),if_neg (by rw [hm];simp),hsl])
    rw [hm] at HMI
    intro w hw
    have T0:=TG.refl hw
    have HT:=Lib.hid T0
    clear hw T0
    have k0:=HT.out.cell 0 0 rfl 0
    have k15:=HT.out.cell 0 0 rfl 15
    simp only [workC,GE3] at k0 k15
    clear hx ho h0 h9 h1 hsl hm
    go_enter Tryz.func174,Tryz.ntmps174
    go_wp2
    refine wp_region_mix1 9 (by kernel_rfl) (by kernel_rfl) ?_
    simp only [TD4]
    repeat (go_big_quiet_step ((first | (go_at_call 22;with_reducible exact ReadsG.quiet (coreSlab_r HX.out) HT.out _ [1] rfl rfl))))
    refine wpQuiet_nil ?_
    intro _ hw'
    obtain ⟨nq,hw''⟩:=hw'
    subst hw''
    have HT:=Lib.hid (HT.out.drewN nq)
    go_wp2_with fail
    refine (DoesG.use (HSL.out _ HX.out) (HT.out) [1] rfl rfl).mono ?_
    rintro e w1 ⟨gs,⟨rfl,g1,hx1,rfl⟩,Ta⟩
    simp only [PU] at Ta
    have HX:=Lib.hid hx1
    clear hx1 k0 k15
    have HT:=Lib.hid Ta
    clear Ta
    go_wp2_with fail
    refine ⟨rfl,?_⟩
    have k0:=HT.out.cell 0 0 rfl 0
    have k16:=HT.out.cell 0 0 rfl 16
    have fk16:=HT.out.free 0 0 rfl 16
    simp only [workC,GE3] at k0 k16
    go_wp2_with fail
    have HT:=Lib.hid (HT.out.set 0 0 rfl 16 (.int .i64 sl))
    go_wp2_with fail
    refine (ReadsG.use (coreSlab_r HX.out) (HT.out) [1] rfl rfl).mono ?_
    rintro e w1 ⟨rfl,mq,rfl⟩
    have HT:=Lib.hid (HT.out.drewN mq)
    go_wp2_with fail
    refine (DoesG.use (HWD.out _ HX.out) (HT.out) [1] rfl rfl).mono ?_
    rintro e w1 ⟨gs,⟨rfl,g2,hx2,rfl⟩,Ta⟩
    simp only [PU] at Ta
    have HX:=Lib.hid hx2
    clear hx2 k0 k16 fk16
    have HT:=Lib.hid Ta
    clear Ta
    have k0:=HT.out.cell 0 0 rfl 0
    have k15:=HT.out.cell 0 0 rfl 15
    have k17:=HT.out.cell 0 0 rfl 17
    have fk17:=HT.out.free 0 0 rfl 17
    simp only [workC,GE3] at k0 k15 k17
    go_wp2
    have HT:=Lib.hid (HT.out.set 0 0 rfl 17 (.int .u64 (x.slab.word sl)))
    refine wp_region_mix1 9 (by kernel_rfl) (by kernel_rfl) ?_
    simp only [TD4]
    repeat (go_big_quiet_step ((first | (go_at_call 22;with_reducible exact ReadsG.quiet (coreSlab_r HX.out) HT.out _ [1] rfl rfl))))
    refine wpQuiet_nil ?_
    intro _ hw'
    obtain ⟨nq,hw''⟩:=hw'
    subst hw''
    have HT:=Lib.hid (HT.out.drewN nq)
    go_wp2_with fail
    refine (DoesG.use (HMI.out _ HX.out) (HT.out) [1] rfl rfl).mono ?_
    rintro e w1 ⟨gs,⟨rfl,g3,hx3,rfl⟩,Ta⟩
    simp only [PU] at Ta
    have HX:=Lib.hid hx3
    clear hx3 k0 k15 k17 fk17
    have HT:=Lib.hid Ta
    clear Ta
    go_wp2_with fail
    refine ⟨rfl,?_⟩
    have HT:=Lib.hid (HT.out.eq (H':=[workB kb L.fb pv rv tv { k with slot:=sl,saw:=x.slab.word sl },g3]) rfl)
    have k0:=HT.out.cell 0 0 rfl 0
    have k17:=HT.out.cell 0 0 rfl 17
    simp only [workC,GE3] at k0 k17
    go_wp2
    go_quiet ((first | (go_at_call 22;with_reducible exact ReadsG.quiet (coreSlab_r HX.out) HT.out _ [1] rfl rfl) | (go_at_call 206;with_reducible exact ReadsG.quiet (workKind_r (L:=L)) HT.out _ [0] rfl rfl) | (go_at_call 207;with_reducible exact ReadsG.quiet (HPE.out _ HX.out) HT.out _ [1] rfl rfl) | (go_at_call 205;with_reducible exact ReadsG.quiet (next_r _ _ _ HWB.out.1 HWB.out.2.1) HT.out _ [] rfl rfl)))
    have HT:=Lib.hid (HT.out.drewN nq)
    go_wp2
    go_ret
    exact ⟨_,⟨by rw [HE.out];rfl,g3,HX.out,rfl⟩,HT.out.eq (by rw [HE.out])⟩
end
end
section
open Go.RowKit Go.Shelf
inductive MC where
 | right | enter | gate | asks | queues | submits | fills | looks | again | tries | ends | leaves
inductive AC where
 | ends1 | leaves1 | undo | drop | tries1 | again1
abbrev SC:Type:=St MC AC Empty
abbrev ZC:Type:=WorkS × CoreS
def leavesC:SC:=.thn (.row1 .leaves1) .ends
def overC (k:WorkS):SC:=if k.kind=4∨k.kind=5 then .row1 .ends1 else leavesC
def refuseC (e:Int) (z:ZC):ZC:=(refuseW e z.1,noteC z.1 { ev0 with kind:=9,err:=e } z.2)
def okC (k:WorkS):WorkS:={ k with err:=0,ok:=true,aid:=k.id,agen:=k.gen }
def fillC (v:TaskS) (z:ZC):ZC :=
 match z.1.tk with
 | none=>z
 | some (i,t)=>match z.2.shs[i]? with
   | none=>z
   | some s=>({ z.1 with tk:=some (i,(fillT s.ring t v).2.1) },{ z.2 with shs:=z.2.shs.set i { s with ring:=(fillT s.ring t v).1 } })
def homeC (slot:Int) (x:CoreS):Nat:=(slot % (x.shs.length:Int)).toNat
def badC (k:WorkS):Prop:=k.kind=2∧(k.cper=0∨18446744073709551616≤k.cdl+k.cper)
instance (k:WorkS):Decidable (badC k):=by unfold badC;infer_instance
def eventC (ev:Int) (z:ZC):ZC:=(eventW ev z.1 z.2.slab,{ z.2 with slab:=(eventS z.1.slot ev z.2.slab).1 })
def tryC (z:ZC):ZC × Int:=(({ z.1 with gen:=genW (z.2.slab.try z.1.slot z.1.saw z.1.event).2.1 },{ z.2 with slab:=(z.2.slab.try z.1.slot z.1.saw z.1.event).1 }),(z.2.slab.try z.1.slot z.1.saw z.1.event).2.2)
def lookC (z:ZC):ZC × Int:=(((lookW z.1 z.2.slab).1,z.2),(lookW z.1 z.2.slab).2)
def taskC (z:ZC):TaskS:=⟨z.1.id,z.1.slot,z.1.gen,z.1.cdl,z.2.slab.period z.1.slot⟩
def noteZ (E:EvS) (z:ZC):ZC:=(z.1,noteC z.1 E z.2)
def asksC (z:ZC) (q:Req):SC × ZC :=
 let r:=stepR z.2.slab q
 let x':={ z.2 with slab:=r.1 }
 if r.2.st=1 then (leavesC,refuseC 2 ({ z.1 with rq:=some r.2 },x'))
 else if r.2.st=2 then (.at none .queues,({ z.1 with rq:=some r.2,id:=r.2.id,slot:=r.2.id % 64,tk:=some (homeC (r.2.id % 64) z.2,newTick) },x'))
 else (.at none .asks,({ z.1 with rq:=some r.2 },x'))
def queuesC (z:ZC) (i:Nat) (t:TickS) (s:ShardS):SC × ZC :=
 let r:=stepT s.ring t
 let z':ZC:=({ z.1 with tk:=some (i,r.2) },{ z.2 with shs:=z.2.shs.set i { s with ring:=r.1 } })
 if r.2.status=0 then (.at none .queues,z')
 else if r.2.status=1∧z.1.kind=3 then (leavesC,refuseC 2 z')
 else if r.2.status=1 then (.thn (.row2 .undo .drop) .leaves,z')
 else if z.1.kind=3 then (.at none .again,z')
 else (.at none .submits,z')
def runC:MC→ZC→SC × ZC
 | .ends,z=>(.row1 .ends1,z)
 | .leaves,z=>(leavesC,z)
 | .right,z=>if badC z.1 then (.row1 .ends1,refuseC 1 z) else (.at none .enter,z)
 | .enter,z=>(.at none .gate,(z.1,{ z.2 with f:={ z.2.f with inside:=z.2.f.inside+1 } }))
 | .gate,z=>if z.2.f.closed=true then (overC z.1,refuseC 3 z)
    else if z.1.kind=1∨z.1.kind=2 then (.at none .asks,({ z.1 with rq:=some ⟨z.1.period,0,0,0,0,0⟩ },z.2))
    else (.at none .looks,z)
 | .asks,z=>match z.1.rq with
   | none=>(.nil,z)
   | some q=>asksC z q
 | .queues,z=>match z.1.tk with
   | none=>(.nil,z)
   | some (i,t)=>match z.2.shs[i]? with
     | none=>(.nil,z)
     | some s=>queuesC z i t s
 | .submits,z=>(.at none .fills,noteZ { ev0 with kind:=3,id:=(eventC 2 z).1.id,gen:=(eventC 2 z).1.gen,dl:=(eventC 2 z).1.cdl,per:=(eventC 2 z).1.period } (eventC 2 z))
 | .fills,z=>(leavesC,(okC (fillC (taskC z) z).1,(fillC (taskC z) z).2))
 | .looks,z =>
   if (lookC z).2=0 then
    (if z.1.kind=3 then (.at none .queues,({ (lookC z).1.1 with tk:=some (homeC (lookC z).1.1.slot z.2,newTick) },z.2)) else (.at none .tries,(lookC z).1))
   else if (lookC z).2=1 then (overC z.1,refuseC 1 (lookC z).1)
   else (overC z.1,refuseC 0 (lookC z).1)
 | .again,z=>if (lookC z).2=0 then (.at none .tries,(lookC z).1) else (.thn (.row1 .again1) .leaves,refuseC 0 (lookC z).1)
 | .tries,z =>
   if (tryC z).2≠0 then (if z.1.kind=3 then (.at none .again,(tryC z).1) else (.at none .looks,(tryC z).1))
   else if z.1.kind=3 then (.at none .fills,noteZ { ev0 with kind:=6,id:=z.1.id,gen:=(tryC z).1.1.gen,dl:=z.1.cdl } (okC (tryC z).1.1,(tryC z).1.2))
   else if z.1.kind=5 then (.row1 .ends1,noteZ { ev0 with kind:=8,id:=z.1.id,gen:=(tryC z).1.1.gen } (okC (tryC z).1.1,(tryC z).1.2))
   else (.thn (.row2 .tries1 .drop) .ends,noteZ { ev0 with kind:=7,id:=z.1.id,gen:=(tryC z).1.1.gen } (okC (tryC z).1.1,(tryC z).1.2))
def runA:AC→ZC→ZC
 | .ends1,z=>noteZ { ev0 with kind:=2,id:=z.1.aid,gen:=z.1.agen,err:=z.1.err } z
 | .leaves1,z=>(z.1,{ z.2 with f:={ z.2.f with inside:=lessN z.2.f.inside } })
 | .undo,z=>refuseC 2 (eventC 9 z)
 | .drop,z=>(z.1,{ z.2 with slab:=z.2.slab.drop.1 })
 | .tries1,z=>eventC 10 z
 | .again1,z=>fillC { TaskS.zero with slot:=-1 } z
structure WorkOk (k:WorkS) (x:CoreS):Prop where
 c0:0≤k.cdl∧k.cdl<18446744073709551616
 c1:0≤k.cper∧k.cper<18446744073709551616
 id:0≤k.id∧k.id<18446744073709551616
 slot:0≤k.slot
 saw:0≤k.saw∧k.saw<18446744073709551616∧okW k.saw=true
 rq:∀ q,k.rq=some q→ReqOk x.slab.recs.length q
 tk:∀ i t,k.tk=some (i,t)→TickB t∧i<x.shs.length
def preMC (f:MC) (z:ZC):Prop:=CoreOk z.2∧WorkOk z.1 z.2∧(match f with
 | .asks=>z.1.rq.isSome=true∧∀ q,z.1.rq=some q→q.st=0
 | .queues | .fills=>z.1.tk.isSome=true
 | _=>True)
def preAC (f:AC) (z:ZC):Prop:=CoreOk z.2∧WorkOk z.1 z.2∧(match f with
 | .again1=>z.1.tk.isSome=true
 | _=>True)
def optR (sb:Nat):Option Req→Value→List Blk→Prop
 | none,v,g=>v=.pointer none∧g=[]
 | some q,v,g=>∃ qb,v=ptr' qb∧g=reqG qb sb q
def optT (L:Lay):Option (Nat × TickS)→Value→List Blk→Prop
 | none,v,g=>v=.pointer none∧g=[]
 | some (i,t),v,g=>∃ tb q,L.qs[i]?=some q∧v=ptr' tb∧g=tickG tb q.rb t
def rep2 (L:Lay) (kb:Nat) (pv:Value) (k:WorkS) (x:CoreS) (gK gF:List Blk):Prop :=
 ∃ rv tv gq gt,optR L.p.sb k.rq rv gq∧optT L k.tk tv gt∧gK=workB kb L.fb pv rv tv k++(gq++gt)∧isCore L x gF
def repC (L:Lay) (kb:Nat) (pv:Value) (z:ZC) (gK gF:List Blk):Prop:=rep2 L kb pv z.1 z.2 gK gF
def fnMC:MC→FuncId
 | .right=>86
 | .enter=>87
 | .gate=>88
 | .asks=>140
 | .queues=>173
 | .submits=>202
 | .fills=>210
 | .looks=>141
 | .again=>201
 | .tries=>175
 | .ends=>134
 | .leaves=>168
def VMC (kb:Nat) (f:MC) (v:Value) (g:List Blk):Prop:=v=.func (.func (fnMC f)) #[ptr' kb] #[]∧g=[]
def clo (kb:Nat) (fn:FuncId) (v:Value) (g:List Blk):Prop:=∃ bk,v=.func (.func fn) #[] #[ptr' bk]∧g=[cl bk 33 #[ptr' kb]]
def VAC (kb:Nat):AC→Value→List Blk→Prop
 | .ends1,v,g=>clo kb 165 v g
 | .leaves1,v,g=>clo kb 192 v g
 | .undo,v,g=>v=.func (.func 199) #[ptr' kb] #[]∧g=[]
 | .drop,v,g=>v=.func (.func 200) #[ptr' kb] #[]∧g=[]
 | .tries1,v,g=>clo kb 211 v g
 | .again1,v,g=>clo kb 233 v g
def cliC (L:Lay) (kb:Nat) (pv:Value):Cli :=
 ⟨MC,AC,Empty,ZC,repC L kb pv,VMC kb,VAC kb,fun _ _ _=>False,runC,runA,(fun y _=>y.elim),preMC,preAC,fun _ _=>True⟩
def MR (L:Lay) (kb:Nat) (pv:Value) (s:SC) (k:WorkS) (x:CoreS) (e:Ending) (gs:GH):Prop :=
 ∃ m d g' gK' gF',e=.returned (.agg #[m,d])∧(cliC L kb pv).SV s m d g'∧rep2 L kb pv k x gK' gF'∧gs=[g',gK',gF']
section
variable {L:Lay} {x:CoreS} {gK gF:List Blk} {kb:Nat} {pv:Value} {k:WorkS}
set_option maxRecDepth 100000 in
theorem mEnter (hz:rep2 L kb pv k x gK gF) (hp:preMC .enter (k,x)):DoesG Tryz.prog 87 #[ptr' kb] [gK,gF] (MR L kb pv (.at none .gate) k { x with f:={ x.f with inside:=x.f.inside+1 } }):=by
 have hi0:=hp.1.i0
 have hi1:=hp.1.i1
 obtain ⟨rv,tv,gq,gt,hr,ht,rfl,hx⟩:=hz
 intro w hw
 have T0:=TG.refl hw
 have HT:=Lib.hid T0
 clear hw T0
 have HT:=Lib.hid (HT.out.sum (H':=[workB kb L.fb pv rv tv k,gq,gt,gF]))
 have HX:=Lib.hid hx
 have HR:=Lib.hid hr
 have HTK:=Lib.hid ht
 clear hx hr ht
 have k0:=HT.out.cell 0 0 rfl 0
 simp only [workC,GE3] at k0
 have lt:=HT.out.lt 0 0 rfl
 simp only [] at lt
 have HE:=Lib.hid (coreEnter HX.out ⟨hi0,hi1⟩)
 clear hp hi0 hi1
 go_enter Tryz.func87,Tryz.ntmps87
 go_wp2_with fail
 refine (DoesG.use (HE.out) (HT.out.alloc (k:=w.heap.size) rfl _ _) [3] rfl rfl).mono ?_
 rintro e w1 ⟨gs,⟨rfl,g1,hx1,rfl⟩,Ta⟩
 simp only [PU] at Ta
 have HX:=Lib.hid hx1
 clear hx1 k0 lt
 have HT:=Lib.hid Ta
 clear Ta
 go_wp2_with fail
 refine (DoesG.use (callsAt) (HT.out) [] rfl rfl).mono ?_
 rintro e w1 ⟨gs,⟨rfl,rfl⟩,Ta⟩
 simp only [PU] at Ta
 have HT:=Lib.hid Ta
 clear Ta
 have e0:=HT.out.cell 4 0 rfl 0
 have fe0:=HT.out.free 4 0 rfl 0
 have e1:=HT.out.cell 4 0 rfl 1
 have fe1:=HT.out.free 4 0 rfl 1
 simp only [GE4] at e0 e1
 go_wp2
 exact bodyPost_ret (v:=.agg #[.nilFunc,.func (.func 88) #[ptr' kb] #[]]) (by simp [results,Tryz.results87,go_sem,e0,e1]) rfl ⟨_,⟨_,_,[],_,_,rfl,⟨rfl,rfl,rfl⟩,⟨_,_,gq,gt,HR.out,HTK.out,rfl,HX.out⟩,rfl⟩,(((HT.out.set 4 0 rfl 0 _).set 4 0 rfl 1 _).pick [0,1,2,3] rfl).sum⟩
theorem cliC_vals (L:Lay) (kb:Nat) (pv:Value):(cliC L kb pv).Vals where
 vm h:=⟨_,_,_,h.1⟩
 va {f v g} h:=by
  cases f
  case undo=>exact ⟨_,_,_,h.1⟩
  case drop=>exact ⟨_,_,_,h.1⟩
  all_goals (obtain ⟨bk,h,_⟩:=h;exact ⟨_,_,_,h⟩)
 vy h:=h.elim
def SR (L:Lay) (kb:Nat) (pv:Value) (s:SC) (e:Ending) (gs:GH):Prop:=∃ m d g',e=.returned (.agg #[m,d])∧(cliC L kb pv).SV s m d g'∧gs=[g']
end
end
section
open Go.RowKit Go.Shelf
section
variable {L:Lay} {x:CoreS} {gK gF:List Blk} {kb:Nat} {pv:Value} {k:WorkS}
set_option maxRecDepth 100000 in
theorem sEnds (L:Lay) (kb:Nat) (pv:Value):DoesG Tryz.prog 134 #[ptr' kb] [] (SR L kb pv (.row1 .ends1)):=by
 intro w hw
 have T0:=TG.refl hw
 have HT:=Lib.hid T0
 clear hw T0
 go_enter Tryz.func134,Tryz.ntmps134
 go_wp2_with fail
 refine (DoesG.use (Cli.row_1 (b:=w.heap.size+1+1) (o:=0) (D:=#[.func (.func 165) #[] #[ptr' w.heap.size]]) rfl 1 (.inl rfl)) (((HT.out.alloc (k:=w.heap.size) rfl _ _).alloc (k:=w.heap.size+1) (by simp) _ _).alloc (k:=w.heap.size+1+1) (by simp) _ _) [2] rfl rfl).mono ?_
 rintro e w1 ⟨gs,⟨bf,bl,bi,rfl,rfl⟩,Ta⟩
 simp only [PU] at Ta
 have HT:=Lib.hid Ta
 clear Ta
 have e0:=HT.out.cell 1 0 rfl 0
 have fe0:=HT.out.free 1 0 rfl 0
 have e1:=HT.out.cell 1 0 rfl 1
 have fe1:=HT.out.free 1 0 rfl 1
 simp only [GE4] at e0 e1
 go_wp2
 exact bodyPost_ret (v:=.agg #[.nilFunc,_]) (by simp [results,Tryz.results134,go_sem,e0,e1]) rfl ⟨_,⟨_,_,_,rfl,⟨rfl,bf,bl,bi,w.heap.size+1+1,0,#[.func (.func 165) #[] #[ptr' w.heap.size]],_,_,rfl,⟨w.heap.size,rfl,rfl⟩,rfl,rfl⟩,rfl⟩,(((HT.out.set 1 0 rfl 0 _).set 1 0 rfl 1 _).pick [0,2,3,4,5] rfl).sum⟩
set_option maxHeartbeats 4000000 in
set_option maxRecDepth 100000 in
theorem sLeaves (L:Lay) (kb:Nat) (pv:Value):DoesG Tryz.prog 168 #[ptr' kb] [] (SR L kb pv leavesC):=by
 have hrow:∀ (bk b bf bl bi:Nat),(cliC L kb pv).SV (.row1 .leaves1) .nilFunc (.func (.func 188) #[] #[ptr' bf,ptr' bl,ptr' bi])
  ([cl bf 1 #[.func (.func 192) #[] #[ptr' bk]],cl bl 303 #[.slice (some ⟨b,0,none⟩) 1 1],cl bi 3 #[.int .i64 0],cl b 1 #[.func (.func 192) #[] #[ptr' bk]]]++[cl bk 33 #[ptr' kb]]) :=
  fun bk b bf bl bi=>⟨rfl,bf,bl,bi,b,0,_,_,_,rfl,⟨bk,rfl,rfl⟩,rfl,rfl⟩
 have hthen:∀ (bk b bf bl bi:Nat),_:=fun bk b bf bl bi=>Cli.prog_then_cons (f:=MC.ends) (v:=.func (.func 134) #[ptr' kb] #[]) (gm:=[]) (cliC_vals L kb pv) rfl (hrow bk b bf bl bi) ⟨rfl,rfl⟩
 intro w hw
 have T0:=TG.refl hw
 have HT:=Lib.hid T0
 clear hw T0
 have HTH:=Lib.hid hthen
 clear hrow hthen
 go_enter Tryz.func168,Tryz.ntmps168
 go_wp2_with fail
 have HT:=Lib.hid ((HT.out.alloc (k:=w.heap.size) rfl 33 #[ptr' kb]).alloc (k:=w.heap.size+1) (by simp) 148 #[.nilFunc,.nilFunc])
 go_region_with (first
  | (go_at_call 164
     refine (DoesG.use (Cli.row_1 (b:=w.heap.size+1+1) (o:=0) (D:=#[.func (.func 192) #[] #[ptr' w.heap.size]]) rfl 1 (.inl rfl)) (HT.out.drew.alloc (k:=w.heap.size+1+1) (by simp) _ _) [2] rfl rfl).mono ?_
     rintro e w1 ⟨gs,⟨bf,bl,bi,rfl,rfl⟩,Ta⟩
     simp only [PU] at Ta
     have b0:=Ta.cell 0 0 rfl 0
     simp only [GE2] at b0
     have HT1:=Lib.hid (Ta.sum (H':=[[cl bf 1 #[.func (.func 192) #[] #[ptr' w.heap.size]],cl bl 303 #[.slice (some ⟨w.heap.size+1+1,0,none⟩) 1 1],cl bi 3 #[.int .i64 0],cl (w.heap.size+1+1) 1 #[.func (.func 192) #[] #[ptr' w.heap.size]]]++[cl w.heap.size 33 #[ptr' kb]],[cl (w.heap.size+1) 148 #[.nilFunc,.nilFunc]],[]]))
     clear Ta)
  | (go_at_call 191
     refine (DoesG.use (HTH.out _ _ _ _ _) HT1.out [0,2] rfl rfl).mono ?_
     rintro e w2 ⟨gs,⟨m2,d2,g2,rfl,hs2,rfl⟩,Ta⟩
     simp only [PU] at Ta
     have e0:=Ta.cell 1 0 rfl 0
     have e1:=Ta.cell 1 0 rfl 1
     have f0:=Ta.free 1 0 rfl 0
     have f1:=Ta.free 1 0 rfl 1
     have hv2:=(cliC_vals L kb pv).vals hs2
     obtain ⟨st1,st2⟩:=Cli.store_fv2 (P:=Tryz.prog) hv2.1 hv2.2 e0 f0 e1 f1
     clear hv2
     have HS2:=Lib.hid hs2
     have HT2:=Lib.hid Ta
     clear Ta hs2))
 all_goals
  go_wp2
  exact bodyPost_ret (v:=.agg #[_,_]) (by simp [results,Tryz.results168,go_sem,e0,e1]) rfl ⟨_,⟨m2,d2,g2,rfl,HS2.out,rfl⟩,((HT2.out.set 1 0 rfl 0 _).set 1 0 rfl 1 _).pick [0] rfl⟩
end
end
section
open Go.RowKit Go.Shelf
section
variable {L:Lay} {x:CoreS} {gK gF:List Blk} {kb:Nat} {pv:Value} {k:WorkS}
theorem times_add_r (x y:Int) (hx:0≤x) (hy:0≤y) (h:x+y<18446744073709551616):ReadsG Tryz.prog 132 #[.int .u64 x,.int .u64 y] [] (.tuple #[.int .u64 (x+y),.int .i64 0]):=by
 intro w hw
 have ha:∀ w,(callFunc 163 #[.int .u64 x,.int .u64 y,.int .u64 0]).run Tryz.prog w=.ok (.value (.tuple #[.int .u64 (x+y),.int .u64 0])) w:=fun w=>by
  rw [add64_run x y hx hy w,show (x+y+0) % 18446744073709551616=x+y by omega,show (x+y+0) / 18446744073709551616=0 by omega]
 clear h hx hy hw
 go_enter Tryz.func132,Tryz.ntmps132
 go_wp2_with (simp only [ha])
 go_ret2
 exact ⟨rfl,0,rfl⟩
theorem times_over_r (x y:Int) (hx:0≤x) (hy:0≤y) (hx1:x<18446744073709551616) (hy1:y<18446744073709551616) (h:18446744073709551616≤x+y):ReadsG Tryz.prog 132 #[.int .u64 x,.int .u64 y] [] (.tuple #[.int .u64 0,.int .i64 9]):=by
 intro w hw
 obtain ⟨z,hz⟩:∃ z,(x+y+0) % 18446744073709551616=z:=⟨_,rfl⟩
 have ha:∀ w,(callFunc 163 #[.int .u64 x,.int .u64 y,.int .u64 0]).run Tryz.prog w=.ok (.value (.tuple #[.int .u64 z,.int .u64 1])) w:=fun w=>by
  rw [add64_run x y hx hy w,hz,show (x+y+0) / 18446744073709551616=1 by omega]
 clear h hx hy hw hx1 hy1 hz
 go_enter Tryz.func132,Tryz.ntmps132
 go_wp2_with (simp only [ha])
 go_ret2
 exact ⟨rfl,0,rfl⟩
set_option maxRecDepth 100000 in
theorem sOver {rv tv:Value}:DoesG Tryz.prog 137 #[ptr' kb] [workB kb L.fb pv rv tv k] fun e gs=>∃ m d g',e=.returned (.agg #[m,d])∧(cliC L kb pv).SV (overC k) m d g'∧gs=[workB kb L.fb pv rv tv k,g']:=by
 by_cases h4:k.kind=4
 ·have HO:overC k=.row1 .ends1:=if_pos (.inl h4)
  rw [HO]
  intro w hw
  have T0:=TG.refl hw
  have HT:=Lib.hid T0
  clear hw T0
  have k3:=HT.out.cell 0 0 rfl 3
  simp only [workC,GE3] at k3
  rw [h4] at k3
  have lt:=HT.out.lt 0 0 rfl
  simp only [] at lt
  clear h4 HO
  go_enter Tryz.func137,Tryz.ntmps137
  go_wp2_with fail
  refine (DoesG.use (sEnds L kb pv) (HT.out.alloc (k:=w.heap.size) rfl _ _) [] rfl rfl).mono ?_
  rintro e w1 ⟨gs,⟨m2,d2,g2,rfl,hs2,rfl⟩,Ta⟩
  simp only [PU] at Ta
  have HT:=Lib.hid Ta
  clear Ta
  have e0:=HT.out.cell 1 0 rfl 0
  have fe0:=HT.out.free 1 0 rfl 0
  have e1:=HT.out.cell 1 0 rfl 1
  have fe1:=HT.out.free 1 0 rfl 1
  simp only [GE4] at e0 e1
  have hv2:=(cliC_vals L kb pv).vals hs2
  obtain ⟨st1,st2⟩:=Cli.store_fv2 (P:=Tryz.prog) hv2.1 hv2.2 e0 fe0 e1 fe1
  have HS:=Lib.hid hs2
  clear hv2 hs2
  go_wp2
  exact bodyPost_ret (v:=.agg #[_,_]) (by simp [results,Tryz.results137,go_sem,e0,e1]) rfl ⟨_,⟨m2,d2,g2,rfl,HS.out,rfl⟩,((HT.out.set 1 0 rfl 0 _).set 1 0 rfl 1 _).pick [0,2] rfl⟩
 ·by_cases h5:k.kind=5
  ·have HO:overC k=.row1 .ends1:=if_pos (.inr h5)
   rw [HO]
   intro w hw
   have T0:=TG.refl hw
   have HT:=Lib.hid T0
   clear hw T0
   have k3:=HT.out.cell 0 0 rfl 3
   simp only [workC,GE3] at k3
   rw [h5] at k3
   have lt:=HT.out.lt 0 0 rfl
   simp only [] at lt
   clear h4 h5 HO
   go_enter Tryz.func137,Tryz.ntmps137
   go_wp2_with fail
   refine (DoesG.use (sEnds L kb pv) (HT.out.alloc (k:=w.heap.size) rfl _ _) [] rfl rfl).mono ?_
   rintro e w1 ⟨gs,⟨m2,d2,g2,rfl,hs2,rfl⟩,Ta⟩
   simp only [PU] at Ta
   have HT:=Lib.hid Ta
   clear Ta
   have e0:=HT.out.cell 1 0 rfl 0
   have fe0:=HT.out.free 1 0 rfl 0
   have e1:=HT.out.cell 1 0 rfl 1
   have fe1:=HT.out.free 1 0 rfl 1
   simp only [GE4] at e0 e1
   have hv2:=(cliC_vals L kb pv).vals hs2
   obtain ⟨st1,st2⟩:=Cli.store_fv2 (P:=Tryz.prog) hv2.1 hv2.2 e0 fe0 e1 fe1
   have HS:=Lib.hid hs2
   clear hv2 hs2
   go_wp2
   exact bodyPost_ret (v:=.agg #[_,_]) (by simp [results,Tryz.results137,go_sem,e0,e1]) rfl ⟨_,⟨m2,d2,g2,rfl,HS.out,rfl⟩,((HT.out.set 1 0 rfl 0 _).set 1 0 rfl 1 _).pick [0,2] rfl⟩
  ·have HO:overC k=leavesC:=if_neg (by omega)
   have hb4:(k.kind == 4)=false:=beq_eq_false_iff_ne.2 h4
   have hb5:(k.kind == 5)=false:=beq_eq_false_iff_ne.2 h5
   rw [HO]
   intro w hw
   have T0:=TG.refl hw
   have HT:=Lib.hid T0
   clear hw T0
   have k3:=HT.out.cell 0 0 rfl 3
   simp only [workC,GE3] at k3
   rw [(show k.kind=k.kind from rfl)] at k3
   have lt:=HT.out.lt 0 0 rfl
   simp only [] at lt
   clear h4 h5 HO
   go_enter Tryz.func137,Tryz.ntmps137
   go_wp2_with fail
   refine (DoesG.use (sLeaves L kb pv) (HT.out.alloc (k:=w.heap.size) rfl _ _) [] rfl rfl).mono ?_
   rintro e w1 ⟨gs,⟨m2,d2,g2,rfl,hs2,rfl⟩,Ta⟩
   simp only [PU] at Ta
   have HT:=Lib.hid Ta
   clear Ta
   have e0:=HT.out.cell 1 0 rfl 0
   have fe0:=HT.out.free 1 0 rfl 0
   have e1:=HT.out.cell 1 0 rfl 1
   have fe1:=HT.out.free 1 0 rfl 1
   simp only [GE4] at e0 e1
   have hv2:=(cliC_vals L kb pv).vals hs2
   obtain ⟨st1,st2⟩:=Cli.store_fv2 (P:=Tryz.prog) hv2.1 hv2.2 e0 fe0 e1 fe1
   have HS:=Lib.hid hs2
   clear hv2 hs2
   go_wp2
   exact bodyPost_ret (v:=.agg #[_,_]) (by simp [results,Tryz.results137,go_sem,e0,e1]) rfl ⟨_,⟨m2,d2,g2,rfl,HS.out,rfl⟩,((HT.out.set 1 0 rfl 0 _).set 1 0 rfl 1 _).pick [0,2] rfl⟩
end
end
section
open Go.RowKit Go.Shelf
def MRz (L:Lay) (kb:Nat) (pv:Value) (r:SC × ZC):Ending→GH→Prop:=MR L kb pv r.1 r.2.1 r.2.2
section
variable {L:Lay} {x:CoreS} {gK gF:List Blk} {kb:Nat} {pv:Value} {k:WorkS}
set_option maxRecDepth 100000 in
theorem mRight (hz:rep2 L kb pv k x gK gF) (hp:preMC .right (k,x)):DoesG Tryz.prog 86 #[ptr' kb] [gK,gF] (MRz L kb pv (runC .right (k,x))):=by
 have HLN:=Lib.hid hp.1.tr
 obtain ⟨d0,d1⟩:=hp.2.1.c0
 obtain ⟨q0,q1⟩:=hp.2.1.c1
 simp only at d0 d1 q0 q1 HLN
 by_cases h2:k.kind=2
 ·by_cases h0:k.cper=0
  ·have HZ:runC .right (k,x)=(.row1 .ends1,refuseC 1 (k,x)):=if_pos ⟨h2,.inl h0⟩
   have HA:=Lib.hid (times_add_r k.cdl k.cper d0 q0 (by omega))
   have H0:=Lib.hid h0
   clear d0 d1 q0 q1 h0
   rw [HZ]
   unfold MRz
   dsimp only [refuseC]
   clear HZ hp
   obtain ⟨rv,tv,gq,gt,hr,ht,rfl,hx⟩:=hz
   intro w hw
   have T0:=TG.refl hw
   have HT:=Lib.hid T0
   clear hw T0
   have HT:=Lib.hid (HT.out.sum (H':=[workB kb L.fb pv rv tv k,gq,gt,gF]))
   have HX:=Lib.hid hx
   have HR:=Lib.hid hr
   have HTK:=Lib.hid ht
   clear hx hr ht
   have k3:=HT.out.cell 0 0 rfl 3
   have k5:=HT.out.cell 0 0 rfl 5
   have k6:=HT.out.cell 0 0 rfl 6
   simp only [workC,GE3] at k3 k5 k6
   rw [h2] at k3
   have lt:=HT.out.lt 0 0 rfl
   simp only [] at lt
   clear h2
   go_enter Tryz.func86,Tryz.ntmps86
   go_wp2
   have HT:=Lib.hid (HT.out.alloc (k:=w.heap.size) rfl 148 #[.nilFunc,.nilFunc])
   go_quiet ((first | (go_at_call 132;with_reducible exact ReadsG.quiet (HA.out) HT.out _ [] rfl rfl)))
   have HT:=Lib.hid (HT.out.drewN nq)
   clear k3 k5 k6 lt
   have k6:=HT.out.cell 0 0 rfl 6
   simp only [workC,GE3] at k6
   rw [H0.out] at k6
   go_wp2_with fail
   refine (DoesG.use (workRefuse HX.out 1 HLN.out) (HT.out) [0,3] rfl rfl).mono ?_
   rintro e w1 ⟨gs,⟨rfl,g1,hx1,rfl⟩,Ta⟩
   simp only [PU] at Ta
   have HX:=Lib.hid hx1
   clear hx1
   have HT:=Lib.hid Ta
   clear Ta
   go_wp2_with fail
   refine (DoesG.use (sEnds L kb pv) (HT.out) [] rfl rfl).mono ?_
   rintro e w1 ⟨gs,⟨m2,d2,g2,rfl,hs2,rfl⟩,Ta⟩
   simp only [PU] at Ta
   have HT:=Lib.hid Ta
   clear Ta
   have e0:=HT.out.cell 4 0 rfl 0
   have fe0:=HT.out.free 4 0 rfl 0
   have e1:=HT.out.cell 4 0 rfl 1
   have fe1:=HT.out.free 4 0 rfl 1
   simp only [GE4] at e0 e1
   have hv2:=(cliC_vals L kb pv).vals hs2
   obtain ⟨st1,st2⟩:=Cli.store_fv2 (P:=Tryz.prog) hv2.1 hv2.2 e0 fe0 e1 fe1
   have HS:=Lib.hid hs2
   clear hv2 hs2
   go_wp2
   exact bodyPost_ret (v:=.agg #[_,_]) (by simp [results,Tryz.results86,go_sem,e0,e1]) rfl ⟨_,⟨m2,d2,g2,_,_,rfl,HS.out,⟨_,_,gq,gt,HR.out,HTK.out,rfl,HX.out⟩,rfl⟩,(((HT.out.set 4 0 rfl 0 _).set 4 0 rfl 1 _).pick [0,1,2,3,5] rfl).sum⟩
  ·by_cases h9:18446744073709551616≤k.cdl+k.cper
   ·have HZ:runC .right (k,x)=(.row1 .ends1,refuseC 1 (k,x)):=if_pos ⟨h2,.inr h9⟩
    have HA:=Lib.hid (times_over_r k.cdl k.cper d0 q0 d1 q1 h9)
    have hb:(k.cper == 0)=false:=beq_eq_false_iff_ne.2 h0
    clear d0 d1 q0 q1 h0 h9
    rw [HZ]
    unfold MRz
    dsimp only [refuseC]
    clear HZ hp
    obtain ⟨rv,tv,gq,gt,hr,ht,rfl,hx⟩:=hz
    intro w hw
    have T0:=TG.refl hw
    have HT:=Lib.hid T0
    clear hw T0
    have HT:=Lib.hid (HT.out.sum (H':=[workB kb L.fb pv rv tv k,gq,gt,gF]))
    have HX:=Lib.hid hx
    have HR:=Lib.hid hr
    have HTK:=Lib.hid ht
    clear hx hr ht
    have k3:=HT.out.cell 0 0 rfl 3
    have k5:=HT.out.cell 0 0 rfl 5
    have k6:=HT.out.cell 0 0 rfl 6
    simp only [workC,GE3] at k3 k5 k6
    rw [h2] at k3
    have lt:=HT.out.lt 0 0 rfl
    simp only [] at lt
    clear h2
    go_enter Tryz.func86,Tryz.ntmps86
    go_wp2
    have HT:=Lib.hid (HT.out.alloc (k:=w.heap.size) rfl 148 #[.nilFunc,.nilFunc])
    go_quiet ((first | (go_at_call 132;with_reducible exact ReadsG.quiet (HA.out) HT.out _ [] rfl rfl)))
    have HT:=Lib.hid (HT.out.drewN nq)
    clear k3 k5 k6 lt
    have k6:=HT.out.cell 0 0 rfl 6
    simp only [workC,GE3] at k6
    skip
    go_wp2_with fail
    refine (DoesG.use (workRefuse HX.out 1 HLN.out) (HT.out) [0,3] rfl rfl).mono ?_
    rintro e w1 ⟨gs,⟨rfl,g1,hx1,rfl⟩,Ta⟩
    simp only [PU] at Ta
    have HX:=Lib.hid hx1
    clear hx1
    have HT:=Lib.hid Ta
    clear Ta
    go_wp2_with fail
    refine (DoesG.use (sEnds L kb pv) (HT.out) [] rfl rfl).mono ?_
    rintro e w1 ⟨gs,⟨m2,d2,g2,rfl,hs2,rfl⟩,Ta⟩
    simp only [PU] at Ta
    have HT:=Lib.hid Ta
    clear Ta
    have e0:=HT.out.cell 4 0 rfl 0
    have fe0:=HT.out.free 4 0 rfl 0
    have e1:=HT.out.cell 4 0 rfl 1
    have fe1:=HT.out.free 4 0 rfl 1
    simp only [GE4] at e0 e1
    have hv2:=(cliC_vals L kb pv).vals hs2
    obtain ⟨st1,st2⟩:=Cli.store_fv2 (P:=Tryz.prog) hv2.1 hv2.2 e0 fe0 e1 fe1
    have HS:=Lib.hid hs2
    clear hv2 hs2
    go_wp2
    exact bodyPost_ret (v:=.agg #[_,_]) (by simp [results,Tryz.results86,go_sem,e0,e1]) rfl ⟨_,⟨m2,d2,g2,_,_,rfl,HS.out,⟨_,_,gq,gt,HR.out,HTK.out,rfl,HX.out⟩,rfl⟩,(((HT.out.set 4 0 rfl 0 _).set 4 0 rfl 1 _).pick [0,1,2,3,5] rfl).sum⟩
   ·have HZ:runC .right (k,x)=(.at none .enter,(k,x)):=if_neg (show ¬ badC k by unfold badC;omega)
    have HA:=Lib.hid (times_add_r k.cdl k.cper d0 q0 (by omega))
    have hb:(k.cper == 0)=false:=beq_eq_false_iff_ne.2 h0
    clear d0 d1 q0 q1 h0 h9
    rw [HZ]
    unfold MRz
    dsimp only [refuseC]
    clear HZ hp
    obtain ⟨rv,tv,gq,gt,hr,ht,rfl,hx⟩:=hz
    intro w hw
    have T0:=TG.refl hw
    have HT:=Lib.hid T0
    clear hw T0
    have HT:=Lib.hid (HT.out.sum (H':=[workB kb L.fb pv rv tv k,gq,gt,gF]))
    have HX:=Lib.hid hx
    have HR:=Lib.hid hr
    have HTK:=Lib.hid ht
    clear hx hr ht
    have k3:=HT.out.cell 0 0 rfl 3
    have k5:=HT.out.cell 0 0 rfl 5
    have k6:=HT.out.cell 0 0 rfl 6
    simp only [workC,GE3] at k3 k5 k6
    rw [h2] at k3
    have lt:=HT.out.lt 0 0 rfl
    simp only [] at lt
    clear h2
    go_enter Tryz.func86,Tryz.ntmps86
    go_wp2
    have HT:=Lib.hid (HT.out.alloc (k:=w.heap.size) rfl 148 #[.nilFunc,.nilFunc])
    go_quiet ((first | (go_at_call 132;with_reducible exact ReadsG.quiet (HA.out) HT.out _ [] rfl rfl)))
    have HT:=Lib.hid (HT.out.drewN nq)
    clear k3 k5 k6 lt
    have k6:=HT.out.cell 0 0 rfl 6
    simp only [workC,GE3] at k6
    go_wp2_with fail
    refine (DoesG.use (callsAt) (HT.out) [] rfl rfl).mono ?_
    rintro e w1 ⟨gs,⟨rfl,rfl⟩,Ta⟩
    simp only [PU] at Ta
    have HT:=Lib.hid Ta
    clear Ta
    have e0:=HT.out.cell 4 0 rfl 0
    have fe0:=HT.out.free 4 0 rfl 0
    have e1:=HT.out.cell 4 0 rfl 1
    have fe1:=HT.out.free 4 0 rfl 1
    simp only [GE4] at e0 e1
    go_wp2
    exact bodyPost_ret (v:=.agg #[.nilFunc,.func (.func 87) #[ptr' kb] #[]]) (by simp [results,Tryz.results86,go_sem,e0,e1]) rfl ⟨_,⟨_,_,[],_,_,rfl,⟨rfl,rfl,rfl⟩,⟨_,_,gq,gt,HR.out,HTK.out,rfl,HX.out⟩,rfl⟩,(((HT.out.set 4 0 rfl 0 _).set 4 0 rfl 1 _).pick [0,1,2,3] rfl).sum⟩
 ·have HZ:runC .right (k,x)=(.at none .enter,(k,x)):=if_neg (fun h=>h2 h.1)
  have hb:(k.kind == 2)=false:=beq_eq_false_iff_ne.2 h2
  clear d0 d1 q0 q1
  rw [HZ]
  unfold MRz
  dsimp only [refuseC]
  clear HZ hp h2
  obtain ⟨rv,tv,gq,gt,hr,ht,rfl,hx⟩:=hz
  intro w hw
  have T0:=TG.refl hw
  have HT:=Lib.hid T0
  clear hw T0
  have HT:=Lib.hid (HT.out.sum (H':=[workB kb L.fb pv rv tv k,gq,gt,gF]))
  have HX:=Lib.hid hx
  have HR:=Lib.hid hr
  have HTK:=Lib.hid ht
  clear hx hr ht
  have k3:=HT.out.cell 0 0 rfl 3
  simp only [workC,GE3] at k3
  have lt:=HT.out.lt 0 0 rfl
  simp only [] at lt
  go_enter Tryz.func86,Tryz.ntmps86
  go_wp2_with fail
  have HT:=Lib.hid (HT.out.alloc (k:=w.heap.size) rfl 148 #[.nilFunc,.nilFunc])
  clear k3 lt
  go_wp2_with fail
  refine (DoesG.use (callsAt) (HT.out) [] rfl rfl).mono ?_
  rintro e w1 ⟨gs,⟨rfl,rfl⟩,Ta⟩
  simp only [PU] at Ta
  have HT:=Lib.hid Ta
  clear Ta
  have e0:=HT.out.cell 4 0 rfl 0
  have fe0:=HT.out.free 4 0 rfl 0
  have e1:=HT.out.cell 4 0 rfl 1
  have fe1:=HT.out.free 4 0 rfl 1
  simp only [GE4] at e0 e1
  go_wp2
  exact bodyPost_ret (v:=.agg #[.nilFunc,.func (.func 87) #[ptr' kb] #[]]) (by simp [results,Tryz.results86,go_sem,e0,e1]) rfl ⟨_,⟨_,_,[],_,_,rfl,⟨rfl,rfl,rfl⟩,⟨_,_,gq,gt,HR.out,HTK.out,rfl,HX.out⟩,rfl⟩,(((HT.out.set 4 0 rfl 0 _).set 4 0 rfl 1 _).pick [0,1,2,3] rfl).sum⟩
set_option maxRecDepth 100000 in
theorem mGate (hz:rep2 L kb pv k x gK gF) (hp:preMC .gate (k,x)):DoesG Tryz.prog 88 #[ptr' kb] [gK,gF] (MRz L kb pv (runC .gate (k,x))):=by
 have HLN:=Lib.hid hp.1.tr
 simp only at HLN
 cases hc:x.f.closed with
 | true =>
   have HZ:runC .gate (k,x)=(overC k,refuseC 3 (k,x)):=if_pos hc
   rw [HZ]
   unfold MRz
   dsimp only [refuseC]
   clear HZ hp
   obtain ⟨rv,tv,gq,gt,hr,ht,rfl,hx⟩:=hz
   intro w hw
   have T0:=TG.refl hw
   have HT:=Lib.hid T0
   clear hw T0
   have HT:=Lib.hid (HT.out.sum (H':=[workB kb L.fb pv rv tv k,gq,gt,gF]))
   have HX:=Lib.hid hx
   have HR:=Lib.hid hr
   have HTK:=Lib.hid ht
   clear hx hr ht
   have k0:=HT.out.cell 0 0 rfl 0
   simp only [workC,GE3] at k0
   have lt:=HT.out.lt 0 0 rfl
   simp only [] at lt
   have HCL:=Lib.hid (coreClosed HX.out)
   rw [hc] at HCL
   clear hc
   go_enter Tryz.func88,Tryz.ntmps88
   go_wp2_with fail
   refine (DoesG.use (HCL.out) (HT.out.alloc (k:=w.heap.size) rfl _ _) [3] rfl rfl).mono ?_
   rintro e w1 ⟨gs,⟨rfl,g1,hx1,rfl⟩,Ta⟩
   simp only [PU] at Ta
   have HX:=Lib.hid hx1
   clear hx1 k0 lt
   have HT:=Lib.hid Ta
   clear Ta
   have k0:=HT.out.cell 0 0 rfl 0
   have k3:=HT.out.cell 0 0 rfl 3
   simp only [workC,GE3] at k0 k3
   clear k0 k3
   go_wp2_with fail
   refine (DoesG.use (workRefuse HX.out 3 HLN.out) (HT.out) [0,3] rfl rfl).mono ?_
   rintro e w1 ⟨gs,⟨rfl,g1,hx1,rfl⟩,Ta⟩
   simp only [PU] at Ta
   have HX:=Lib.hid hx1
   clear hx1
   have HT:=Lib.hid Ta
   clear Ta
   go_wp2_with fail
   refine (DoesG.use (sOver) (HT.out) [0] rfl rfl).mono ?_
   rintro e w1 ⟨gs,⟨m2,d2,g2,rfl,hs2,rfl⟩,Ta⟩
   simp only [PU] at Ta
   have HT:=Lib.hid Ta
   clear Ta
   have e0:=HT.out.cell 4 0 rfl 0
   have fe0:=HT.out.free 4 0 rfl 0
   have e1:=HT.out.cell 4 0 rfl 1
   have fe1:=HT.out.free 4 0 rfl 1
   simp only [GE4] at e0 e1
   have hv2:=(cliC_vals L kb pv).vals hs2
   obtain ⟨st1,st2⟩:=Cli.store_fv2 (P:=Tryz.prog) hv2.1 hv2.2 e0 fe0 e1 fe1
   have HS:=Lib.hid hs2
   clear hv2 hs2
   go_wp2
   exact bodyPost_ret (v:=.agg #[_,_]) (by simp [results,Tryz.results88,go_sem,e0,e1]) rfl ⟨_,⟨m2,d2,g2,_,_,rfl,HS.out,⟨_,_,gq,gt,HR.out,HTK.out,rfl,HX.out⟩,rfl⟩,(((HT.out.set 4 0 rfl 0 _).set 4 0 rfl 1 _).pick [0,1,2,3,5] rfl).sum⟩
 | false =>
   by_cases h2:k.kind=2
   ·have HZ:runC .gate (k,x)=(.at none .asks,({ k with rq:=some ⟨k.period,0,0,0,0,0⟩ },x)):=(if_neg (by simp [hc])).trans (if_pos (.inr h2))
    rw [HZ]
    unfold MRz
    dsimp only [refuseC]
    clear HZ hp
    obtain ⟨rv,tv,gq,gt,hr,ht,rfl,hx⟩:=hz
    intro w hw
    have T0:=TG.refl hw
    have HT:=Lib.hid T0
    clear hw T0
    have HT:=Lib.hid (HT.out.sum (H':=[workB kb L.fb pv rv tv k,gq,gt,gF]))
    have HX:=Lib.hid hx
    have HR:=Lib.hid hr
    have HTK:=Lib.hid ht
    clear hx hr ht
    have k0:=HT.out.cell 0 0 rfl 0
    simp only [workC,GE3] at k0
    have lt:=HT.out.lt 0 0 rfl
    simp only [] at lt
    have HCL:=Lib.hid (coreClosed HX.out)
    rw [hc] at HCL
    clear hc
    go_enter Tryz.func88,Tryz.ntmps88
    go_wp2_with fail
    refine (DoesG.use (HCL.out) (HT.out.alloc (k:=w.heap.size) rfl _ _) [3] rfl rfl).mono ?_
    rintro e w1 ⟨gs,⟨rfl,g1,hx1,rfl⟩,Ta⟩
    simp only [PU] at Ta
    have HX:=Lib.hid hx1
    clear hx1 k0 lt
    have HT:=Lib.hid Ta
    clear Ta
    have k0:=HT.out.cell 0 0 rfl 0
    have k3:=HT.out.cell 0 0 rfl 3
    simp only [workC,GE3] at k0 k3
    rw [h2] at k3
    go_wp2_with fail
    refine (ReadsG.use (coreSlab_r HX.out) (HT.out) [3] rfl rfl).mono ?_
    rintro e w1 ⟨rfl,mq,rfl⟩
    have HT:=Lib.hid (HT.out.drewN mq)
    generalize World.drewN _ _=wq at HT ⊢
    go_wp2_with fail
    refine (ReadsG.use (workPeriod_r (L:=L)) (HT.out) [0] rfl rfl).mono ?_
    rintro e w1 ⟨rfl,mq,rfl⟩
    have HT:=Lib.hid (HT.out.drewN mq)
    generalize World.drewN _ _=wq at HT ⊢
    go_wp2_with fail
    refine (DoesG.use (slabBegin_g _ _) (HT.out) [] rfl rfl).mono ?_
    rintro e w1 ⟨gs,⟨qb,rfl,rfl⟩,Ta⟩
    simp only [PU] at Ta
    have HT:=Lib.hid Ta
    clear Ta
    have k13:=HT.out.cell 0 0 rfl 13
    have fk13:=HT.out.free 0 0 rfl 13
    simp only [workC,GE3] at k13
    go_wp2_with fail
    have HT:=Lib.hid ((HT.out.set 0 0 rfl 13 (ptr' qb)).eq (H':=[workB kb L.fb pv (ptr' qb) tv { k with rq:=some ⟨k.period,0,0,0,0,0⟩ },gq,gt,g1,[cl w.heap.size 148 #[.nilFunc,.nilFunc]],reqG qb L.p.sb ⟨k.period,0,0,0,0,0⟩]) rfl)
    clear k0 k3 k13 fk13 h2
    go_wp2_with fail
    refine (DoesG.use (callsAt) (HT.out) [] rfl rfl).mono ?_
    rintro e w1 ⟨gs,⟨rfl,rfl⟩,Ta⟩
    simp only [PU] at Ta
    have HT:=Lib.hid Ta
    clear Ta
    have e0:=HT.out.cell 4 0 rfl 0
    have fe0:=HT.out.free 4 0 rfl 0
    have e1:=HT.out.cell 4 0 rfl 1
    have fe1:=HT.out.free 4 0 rfl 1
    simp only [GE4] at e0 e1
    go_wp2
    exact bodyPost_ret (v:=.agg #[.nilFunc,.func (.func 140) #[ptr' kb] #[]]) (by simp [results,Tryz.results88,go_sem,e0,e1]) rfl ⟨_,⟨_,_,[],_,_,rfl,⟨rfl,rfl,rfl⟩,⟨_,_,(reqG qb L.p.sb ⟨k.period,0,0,0,0,0⟩),gt,⟨qb,rfl,rfl⟩,HTK.out,rfl,HX.out⟩,rfl⟩,(((HT.out.set 4 0 rfl 0 _).set 4 0 rfl 1 _).pick [0,5,2,3] rfl).sum⟩
   ·by_cases h1:k.kind=1
    ·have HZ:runC .gate (k,x)=(.at none .asks,({ k with rq:=some ⟨k.period,0,0,0,0,0⟩ },x)):=(if_neg (by simp [hc])).trans (if_pos (.inl h1))
     rw [HZ]
     unfold MRz
     dsimp only [refuseC]
     clear HZ hp
     obtain ⟨rv,tv,gq,gt,hr,ht,rfl,hx⟩:=hz
     intro w hw
     have T0:=TG.refl hw
     have HT:=Lib.hid T0
     clear hw T0
     have HT:=Lib.hid (HT.out.sum (H':=[workB kb L.fb pv rv tv k,gq,gt,gF]))
     have HX:=Lib.hid hx
     have HR:=Lib.hid hr
     have HTK:=Lib.hid ht
     clear hx hr ht
     have k0:=HT.out.cell 0 0 rfl 0
     simp only [workC,GE3] at k0
     have lt:=HT.out.lt 0 0 rfl
     simp only [] at lt
     have HCL:=Lib.hid (coreClosed HX.out)
     rw [hc] at HCL
     clear hc
     go_enter Tryz.func88,Tryz.ntmps88
     go_wp2_with fail
     refine (DoesG.use (HCL.out) (HT.out.alloc (k:=w.heap.size) rfl _ _) [3] rfl rfl).mono ?_
     rintro e w1 ⟨gs,⟨rfl,g1,hx1,rfl⟩,Ta⟩
     simp only [PU] at Ta
     have HX:=Lib.hid hx1
     clear hx1 k0 lt
     have HT:=Lib.hid Ta
     clear Ta
     have k0:=HT.out.cell 0 0 rfl 0
     have k3:=HT.out.cell 0 0 rfl 3
     simp only [workC,GE3] at k0 k3
     have h2:=h1
     clear h1
     rw [h2] at k3
     go_wp2_with fail
     refine (ReadsG.use (coreSlab_r HX.out) (HT.out) [3] rfl rfl).mono ?_
     rintro e w1 ⟨rfl,mq,rfl⟩
     have HT:=Lib.hid (HT.out.drewN mq)
     generalize World.drewN _ _=wq at HT ⊢
     go_wp2_with fail
     refine (ReadsG.use (workPeriod_r (L:=L)) (HT.out) [0] rfl rfl).mono ?_
     rintro e w1 ⟨rfl,mq,rfl⟩
     have HT:=Lib.hid (HT.out.drewN mq)
     generalize World.drewN _ _=wq at HT ⊢
     go_wp2_with fail
     refine (DoesG.use (slabBegin_g _ _) (HT.out) [] rfl rfl).mono ?_
     rintro e w1 ⟨gs,⟨qb,rfl,rfl⟩,Ta⟩
     simp only [PU] at Ta
     have HT:=Lib.hid Ta
     clear Ta
     have k13:=HT.out.cell 0 0 rfl 13
     have fk13:=HT.out.free 0 0 rfl 13
     simp only [workC,GE3] at k13
     go_wp2_with fail
     have HT:=Lib.hid ((HT.out.set 0 0 rfl 13 (ptr' qb)).eq (H':=[workB kb L.fb pv (ptr' qb) tv { k with rq:=some ⟨k.period,0,0,0,0,0⟩ },gq,gt,g1,[cl w.heap.size 148 #[.nilFunc,.nilFunc]],reqG qb L.p.sb ⟨k.period,0,0,0,0,0⟩]) rfl)
     clear k0 k3 k13 fk13 h2
     go_wp2_with fail
     refine (DoesG.use (callsAt) (HT.out) [] rfl rfl).mono ?_
     rintro e w1 ⟨gs,⟨rfl,rfl⟩,Ta⟩
     simp only [PU] at Ta
     have HT:=Lib.hid Ta
     clear Ta
     have e0:=HT.out.cell 4 0 rfl 0
     have fe0:=HT.out.free 4 0 rfl 0
     have e1:=HT.out.cell 4 0 rfl 1
     have fe1:=HT.out.free 4 0 rfl 1
     simp only [GE4] at e0 e1
     go_wp2
     exact bodyPost_ret (v:=.agg #[.nilFunc,.func (.func 140) #[ptr' kb] #[]]) (by simp [results,Tryz.results88,go_sem,e0,e1]) rfl ⟨_,⟨_,_,[],_,_,rfl,⟨rfl,rfl,rfl⟩,⟨_,_,(reqG qb L.p.sb ⟨k.period,0,0,0,0,0⟩),gt,⟨qb,rfl,rfl⟩,HTK.out,rfl,HX.out⟩,rfl⟩,(((HT.out.set 4 0 rfl 0 _).set 4 0 rfl 1 _).pick [0,5,2,3] rfl).sum⟩
    ·have HZ:runC .gate (k,x)=(.at none .looks,(k,x)):=(if_neg (by simp [hc])).trans (if_neg (by simp;omega))
     have hb1:(k.kind == 1)=false:=beq_eq_false_iff_ne.2 h1
     have hb2:(k.kind == 2)=false:=beq_eq_false_iff_ne.2 h2
     clear h1 h2
     rw [HZ]
     unfold MRz
     dsimp only [refuseC]
     clear HZ hp
     obtain ⟨rv,tv,gq,gt,hr,ht,rfl,hx⟩:=hz
     intro w hw
     have T0:=TG.refl hw
     have HT:=Lib.hid T0
     clear hw T0
     have HT:=Lib.hid (HT.out.sum (H':=[workB kb L.fb pv rv tv k,gq,gt,gF]))
     have HX:=Lib.hid hx
     have HR:=Lib.hid hr
     have HTK:=Lib.hid ht
     clear hx hr ht
     have k0:=HT.out.cell 0 0 rfl 0
     simp only [workC,GE3] at k0
     have lt:=HT.out.lt 0 0 rfl
     simp only [] at lt
     have HCL:=Lib.hid (coreClosed HX.out)
     rw [hc] at HCL
     clear hc
     go_enter Tryz.func88,Tryz.ntmps88
     go_wp2_with fail
     refine (DoesG.use (HCL.out) (HT.out.alloc (k:=w.heap.size) rfl _ _) [3] rfl rfl).mono ?_
     rintro e w1 ⟨gs,⟨rfl,g1,hx1,rfl⟩,Ta⟩
     simp only [PU] at Ta
     have HX:=Lib.hid hx1
     clear hx1 k0 lt
     have HT:=Lib.hid Ta
     clear Ta
     have k0:=HT.out.cell 0 0 rfl 0
     have k3:=HT.out.cell 0 0 rfl 3
     simp only [workC,GE3] at k0 k3
     go_wp2_with fail
     refine (DoesG.use (callsAt) (HT.out) [] rfl rfl).mono ?_
     rintro e w1 ⟨gs,⟨rfl,rfl⟩,Ta⟩
     simp only [PU] at Ta
     have HT:=Lib.hid Ta
     clear Ta
     have e0:=HT.out.cell 4 0 rfl 0
     have fe0:=HT.out.free 4 0 rfl 0
     have e1:=HT.out.cell 4 0 rfl 1
     have fe1:=HT.out.free 4 0 rfl 1
     simp only [GE4] at e0 e1
     go_wp2
     exact bodyPost_ret (v:=.agg #[.nilFunc,.func (.func 141) #[ptr' kb] #[]]) (by simp [results,Tryz.results88,go_sem,e0,e1]) rfl ⟨_,⟨_,_,[],_,_,rfl,⟨rfl,rfl,rfl⟩,⟨_,_,gq,gt,HR.out,HTK.out,rfl,HX.out⟩,rfl⟩,(((HT.out.set 4 0 rfl 0 _).set 4 0 rfl 1 _).pick [0,1,2,3] rfl).sum⟩
end
end
section
open Go.RowKit Go.Shelf
theorem stepR_id {s:SlabS} {q:Req} (hs:SlabOk s) (hq:ReqOk s.recs.length q) (h0:q.st=0) (h2:(stepR s q).2.st=2):0≤(stepR s q).2.id∧(stepR s q).2.id<18446744073709551616:=by
 unfold stepR at h2 ⊢
 rw [if_neg (by omega)] at h2 ⊢
 split at h2
 ·unfold lookR at h2
  split at h2 <;> simp [h0] at h2
 ·split at h2
  ·unfold moreR at h2
   split at h2 <;> simp [h0] at h2
  ·next h3 h4 =>
   rw [if_neg h3,if_neg h4]
   unfold seekR at h2 ⊢
   simp only at h2 ⊢
   split at h2
   ·next h5 =>
    rw [if_pos h5]
    have hsl:q.slot.toNat<s.recs.length:=by have:=hq.slot0;have:=hq.slot1;omega
    have hr:=hs.recs _ (List.getElem_mem hsl)
    have e:s.recs.getD q.slot.toNat Rec.zero=s.recs[q.slot.toNat]:=by simp [hsl]
    rw [e]
    have hg:=(ok_bd _ hr.w0 hr.ok).2.2.2
    have g0:=hr.g0
    have g1:=hr.g1
    have a:=hq.slot0
    have b:=hq.slot1
    have c:=hs.n1
    generalize s.recs[q.slot.toNat]=r at *
    simp only
    omega
   ·simp [h0] at h2
set_option maxRecDepth 100000 in
theorem shBegin_g (b rb lb wb:Nat):DoesG Tryz.prog 172 #[ptr' b] [shardB b rb lb wb] fun e gs=>∃ tb,e=.returned (ptr' tb)∧gs=[shardB b rb lb wb,tickG tb rb newTick]:=by
 intro w hw
 have T0:=TG.refl hw
 have HT:=Lib.hid T0
 clear hw T0
 go_enter Tryz.func172,Tryz.ntmps172
 go_wp2_with fail
 refine (DoesG.use (shardParts_g b rb lb wb) (HT.out) [0] rfl rfl).mono ?_
 rintro e w1 ⟨gs,⟨rfl,rfl⟩,Ta⟩
 simp only [PU] at Ta
 have HT:=Lib.hid Ta
 clear Ta
 have hf:=fun w=>(inner_field (ptr' rb) (ptr' lb) (ptr' wb) w).1
 go_wp2_with fail
 refine (DoesG.use (ringBegin_g rb) (HT.out) [] rfl rfl).mono ?_
 rintro e w1 ⟨gs,⟨tb,rfl,rfl⟩,Ta⟩
 simp only [PU] at Ta
 have HT:=Lib.hid Ta
 clear Ta
 go_wp2
 go_ret
 exact ⟨_,⟨_,rfl,rfl⟩,HT.out⟩
theorem coreBegin {L:Lay} {x:CoreS} {g:List Blk} (hx:isCore L x g) {i:Nat} {q:ShP} {s:ShardS} (hq:L.qs[i]?=some q) (hs:x.shs[i]?=some s):DoesG Tryz.prog 172 #[ptr' q.b] [g] fun e gs=>∃ tb,e=.returned (ptr' tb)∧∃ g',isCore L x g'∧gs=[g',tickG tb q.rb newTick]:=by
 obtain ⟨tr,gF,gS,gR,gH,gT,h1,h2,h3,h4,h5,h6,rfl⟩:=hx
 have hz:(L.qs.zip x.shs)[i]?=some (q,s):=zip_at hq hs
 obtain ⟨u,y,⟨gr,gl,hr,hl,rfl⟩,hp,hback⟩:=h5.out hz
 intro w hw
 have T:=(((TG.refl hw).sum (H':=[gF++(gS++(gR++gT)),gH])).permAt 1 rfl hp).sum (H':=[gF++(gS++(gR++gT)),shardB q.b q.rb q.lb q.wb,gr,gl,y])
 refine (DoesG.use (shBegin_g q.b q.rb q.lb q.wb) T [1] rfl rfl).mono ?_
 rintro e w' ⟨gs,⟨tb,he,rfl⟩,T'⟩
 obtain ⟨gH',hf,hp'⟩:=hback (q,s) (shardB q.b q.rb q.lb q.wb++(gr++gl)) ⟨gr,gl,hr,hl,rfl⟩
 rw [fam_set_same hz] at hf
 refine ⟨_,⟨tb,he,_,⟨tr,gF,gS,gR,gH',gT,h1,h2,h3,h4,hf,h6,rfl⟩,rfl⟩,?_⟩
 exact ((TG.sum (H:=[gF++(gS++(gR++gT)),shardB q.b q.rb q.lb q.wb,gr,gl,y,tickG tb q.rb newTick]) (H':=[gF++(gS++(gR++gT)),shardB q.b q.rb q.lb q.wb++(gr++gl)++y,tickG tb q.rb newTick]) T').permAt 1 rfl hp').sum
theorem home_val {L:Lay} {x:CoreS} {g:List Blk} (hx:isCore L x g) (hn:1≤x.shs.length) {slot:Int} (h0:0≤slot):∃ q s,L.qs[homeC slot x]?=some q∧x.shs[homeC slot x]?=some s∧homeV (L.qs.map ShP.b) slot=ptr' q.b:=by
 obtain ⟨tr,gF,gS,gR,gH,gT,h1,h2,h3,h4,h5,h6,rfl⟩:=hx
 have a:0≤slot % (x.shs.length:Int):=Int.emod_nonneg _ (by omega)
 have b:slot % (x.shs.length:Int)<x.shs.length:=Int.emod_lt_of_pos _ (by omega)
 have hi:homeC slot x<x.shs.length:=by unfold homeC;omega
 have hi':homeC slot x<L.qs.length:=by omega
 refine ⟨L.qs[homeC slot x],x.shs[homeC slot x],List.getElem?_eq_getElem hi',List.getElem?_eq_getElem hi,?_⟩
 unfold homeV
 rw [if_pos h0,List.length_map,h4]
 show ptr' ((L.qs.map ShP.b).getD (homeC slot x) 0)=_
 rw [List.getD_eq_getElem?_getD,List.getElem?_map,List.getElem?_eq_getElem hi']
 rfl
theorem isCore.len {L:Lay} {x:CoreS} {g:List Blk} (hx:isCore L x g):L.qs.length=x.shs.length:=by
 obtain ⟨tr,gF,gS,gR,gH,gT,h1,h2,h3,h4,_⟩:=hx
 exact h4
section
variable {L:Lay} {x:CoreS} {gK gF:List Blk} {kb:Nat} {pv:Value} {k:WorkS}
set_option maxRecDepth 100000 in
theorem mAsks (hz:rep2 L kb pv k x gK gF) (hp:preMC .asks (k,x)):DoesG Tryz.prog 140 #[ptr' kb] [gK,gF] (MRz L kb pv (runC .asks (k,x))):=by
 obtain ⟨hok,hwk,hpr,hq0⟩:=hp
 simp only at hok hwk hpr hq0
 obtain ⟨q,hrqe⟩:=Option.isSome_iff_exists.1 hpr
 have hrq:=hwk.rq q hrqe
 have hq0:=hq0 q hrqe
 have hidb:=stepR_id hok.slab hrq hq0
 have HLN:=Lib.hid hok.tr
 have hsh:=hok.sh
 have hE:runC .asks (k,x)=asksC (k,x) q:=by show (match k.rq with | none=>_ | some q=>_)=_;rw [hrqe]
 rw [hE]
 unfold rep2 at hz
 rw [hrqe] at hz
 clear hE hwk hpr hq0 hrqe
 obtain ⟨s2,q2,hr2⟩:∃ s2 q2,stepR x.slab q=(s2,q2):=⟨_,_,rfl⟩
 rw [hr2] at hidb
 simp only at hidb
 by_cases h1:q2.st=1
 ·have hst:(stepR x.slab q).2.st=1:=by rw [hr2];exact h1
  have HZ:asksC (k,x) q=(leavesC,refuseC 2 ({ k with rq:=some q2 },{ x with slab:=s2 })):=by unfold asksC;simp only [hr2];rw [if_pos h1]
  clear h1 hidb hsh
  rw [HZ]
  unfold MRz
  dsimp only [refuseC]
  clear HZ
  obtain ⟨rv,tv,gq,gt,⟨qb,rfl,rfl⟩,ht,rfl,hx⟩:=hz
  intro w hw
  have T0:=TG.refl hw
  have HT:=Lib.hid T0
  clear hw T0
  have HT:=Lib.hid (HT.out.sum (H':=[workB kb L.fb pv (ptr' qb) tv k,reqG qb L.p.sb q,gt,gF]))
  have HX:=Lib.hid hx
  have HTK:=Lib.hid ht
  have HRQ:=Lib.hid (coreReq hx qb q hok.slab hrq)
  rw [hst,hr2] at HRQ
  clear hx ht
  have k13:=HT.out.cell 0 0 rfl 13
  simp only [workC,GE3] at k13
  have lt:=HT.out.lt 0 0 rfl
  simp only [] at lt
  clear hst hok hrq hr2
  go_enter Tryz.func140,Tryz.ntmps140
  go_wp2_with fail
  refine (DoesG.use (HRQ.out) (HT.out.alloc (k:=w.heap.size) rfl _ _) [1,3] rfl rfl).mono ?_
  rintro e w1 ⟨gs,⟨rfl,g1,hx1,rfl⟩,Ta⟩
  simp only [PU] at Ta
  have HX:=Lib.hid hx1
  clear hx1 k13 lt
  have HT:=Lib.hid Ta
  clear Ta
  have HT:=Lib.hid (HT.out.eq (H':=[workB kb L.fb pv (ptr' qb) tv { k with rq:=some q2 },reqG qb L.p.sb q2,gt,g1,[cl w.heap.size 148 #[.nilFunc,.nilFunc]]]) rfl)
  go_wp2_with fail
  refine (DoesG.use (workRefuse HX.out 2 HLN.out) (HT.out) [0,3] rfl rfl).mono ?_
  rintro e w1 ⟨gs,⟨rfl,g1,hx1,rfl⟩,Ta⟩
  simp only [PU] at Ta
  have HX:=Lib.hid hx1
  clear hx1
  have HT:=Lib.hid Ta
  clear Ta
  go_wp2_with fail
  refine (DoesG.use (sLeaves L kb pv) (HT.out) [] rfl rfl).mono ?_
  rintro e w1 ⟨gs,⟨m2,d2,g2,rfl,hs2,rfl⟩,Ta⟩
  simp only [PU] at Ta
  have HT:=Lib.hid Ta
  clear Ta
  have e0:=HT.out.cell 4 0 rfl 0
  have fe0:=HT.out.free 4 0 rfl 0
  have e1:=HT.out.cell 4 0 rfl 1
  have fe1:=HT.out.free 4 0 rfl 1
  simp only [GE4] at e0 e1
  have hv2:=(cliC_vals L kb pv).vals hs2
  obtain ⟨st1,st2⟩:=Cli.store_fv2 (P:=Tryz.prog) hv2.1 hv2.2 e0 fe0 e1 fe1
  have HS:=Lib.hid hs2
  clear hv2 hs2
  go_wp2
  exact bodyPost_ret (v:=.agg #[_,_]) (by simp [results,Tryz.results140,go_sem,e0,e1]) rfl ⟨_,⟨m2,d2,g2,_,_,rfl,HS.out,⟨_,_,(reqG qb L.p.sb q2),gt,⟨qb,rfl,rfl⟩,HTK.out,rfl,HX.out⟩,rfl⟩,(((HT.out.set 4 0 rfl 0 _).set 4 0 rfl 1 _).pick [0,1,2,3,5] rfl).sum⟩
 ·by_cases h2:q2.st=2
  ·obtain ⟨id0,id1⟩:=hidb h2
   have hst:(stepR x.slab q).2.st=2:=by rw [hr2];exact h2
   have HZ:asksC (k,x) q=(.at none .queues,({ k with rq:=some q2,id:=q2.id,slot:=q2.id % 64,tk:=some (homeC (q2.id % 64) x,newTick) },{ x with slab:=s2 })):=by unfold asksC;simp only [hr2];rw [if_neg h1,if_pos h2]
   have HID:=Lib.hid (reqId_g (qb:=0) L.p.sb q2)
   have HQ2:=Lib.hid h2
   have HSH:=Lib.hid hsh
   clear h1 hidb hsh h2 HID
   rw [HZ]
   unfold MRz
   dsimp only [refuseC]
   clear HZ
   obtain ⟨rv,tv,gq,gt,⟨qb,rfl,rfl⟩,ht,rfl,hx⟩:=hz
   intro w hw
   have T0:=TG.refl hw
   have HT:=Lib.hid T0
   clear hw T0
   have HT:=Lib.hid (HT.out.sum (H':=[workB kb L.fb pv (ptr' qb) tv k,reqG qb L.p.sb q,gt,gF]))
   have HX:=Lib.hid hx
   have HTK:=Lib.hid ht
   have HRQ:=Lib.hid (coreReq hx qb q hok.slab hrq)
   rw [hst,hr2] at HRQ
   clear hx ht
   have k13:=HT.out.cell 0 0 rfl 13
   simp only [workC,GE3] at k13
   have lt:=HT.out.lt 0 0 rfl
   simp only [] at lt
   clear hst hok hrq hr2
   go_enter Tryz.func140,Tryz.ntmps140
   go_wp2_with fail
   refine (DoesG.use (HRQ.out) (HT.out.alloc (k:=w.heap.size) rfl _ _) [1,3] rfl rfl).mono ?_
   rintro e w1 ⟨gs,⟨rfl,g1,hx1,rfl⟩,Ta⟩
   simp only [PU] at Ta
   have HX:=Lib.hid hx1
   clear hx1 k13 lt
   have HT:=Lib.hid Ta
   clear Ta
   have HT:=Lib.hid (HT.out.eq (H':=[workB kb L.fb pv (ptr' qb) tv { k with rq:=some q2 },reqG qb L.p.sb q2,gt,g1,[cl w.heap.size 148 #[.nilFunc,.nilFunc]]]) rfl)
   have k13:=HT.out.cell 0 0 rfl 13
   simp only [workC,GE3] at k13
   have HID:=Lib.hid (reqId_g qb L.p.sb q2)
   rw [if_pos HQ2.out,if_pos HQ2.out] at HID
   go_wp2_with fail
   refine (DoesG.use (HID.out) (HT.out) [1] rfl rfl).mono ?_
   rintro e w1 ⟨gs,⟨rfl,rfl⟩,Ta⟩
   simp only [PU] at Ta
   have HT:=Lib.hid Ta
   clear Ta
   clear k13
   have k15:=HT.out.cell 0 0 rfl 15
   have fk15:=HT.out.free 0 0 rfl 15
   have k16:=HT.out.cell 0 0 rfl 16
   have fk16:=HT.out.free 0 0 rfl 16
   simp only [workC,GE3] at k15 k16
   have i0:0≤q2.id % 64:=by omega
   have i1:q2.id % 64<64:=by omega
   go_wp2
   have HT:=Lib.hid (((HT.out.set 0 0 rfl 15 (.int .u64 q2.id)).set 0 0 rfl 16 (.int .i64 (q2.id % 64))).eq (H':=[workB kb L.fb pv (ptr' qb) tv { k with rq:=some q2,id:=q2.id,slot:=q2.id % 64 },reqG qb L.p.sb q2,gt,g1,[cl w.heap.size 148 #[.nilFunc,.nilFunc]]]) rfl)
   clear k15 k16 fk15 fk16
   generalize World.setCell _ _ _=w2 at HT ⊢
   obtain ⟨qs,ss,hqs,hss,hv⟩:=home_val HX.out HSH.out i0
   have HH:=Lib.hid (coreHome_r HX.out (by rw [HX.out.len];exact HSH.out) (q2.id % 64))
   rw [hv] at HH
   have HQS:=Lib.hid hqs
   have HBG:=Lib.hid (coreBegin HX.out hqs hss)
   clear hqs hss hv
   have k0:=HT.out.cell 0 0 rfl 0
   have k16:=HT.out.cell 0 0 rfl 16
   simp only [workC,GE3] at k0 k16
   refine wp_region_mix1 10 (by kernel_rfl) (by kernel_rfl) ?_
   simp only [TD4]
   repeat (go_big_quiet_step ((first | (go_at_call 171;with_reducible exact ReadsG.quiet (HH.out) HT.out _ [3] rfl rfl))))
   refine wpQuiet_nil ?_
   intro _ hw'
   obtain ⟨nq,hw''⟩:=hw'
   subst hw''
   have HT:=Lib.hid (HT.out.drewN nq)
   go_wp2_with fail
   refine (DoesG.use (HBG.out) (HT.out) [3] rfl rfl).mono ?_
   rintro e w1 ⟨gs,⟨tb,rfl,g2,hx2,rfl⟩,Ta⟩
   simp only [PU] at Ta
   have HX:=Lib.hid hx2
   clear hx2 k0 k16
   have HT:=Lib.hid Ta
   clear Ta
   have k14:=HT.out.cell 0 0 rfl 14
   have fk14:=HT.out.free 0 0 rfl 14
   simp only [workC,GE3] at k14
   go_wp2_with fail
   refine ⟨rfl,?_⟩
   have HT:=Lib.hid ((HT.out.set 0 0 rfl 14 (ptr' tb)).eq (H':=[workB kb L.fb pv (ptr' qb) (ptr' tb) { k with rq:=some q2,id:=q2.id,slot:=q2.id % 64,tk:=some (homeC (q2.id % 64) x,newTick) },reqG qb L.p.sb q2,gt,g2,[cl w.heap.size 148 #[.nilFunc,.nilFunc]],tickG tb qs.rb newTick]) rfl)
   clear k14 fk14
   go_wp2_with fail
   refine (DoesG.use (callsAt) (HT.out) [] rfl rfl).mono ?_
   rintro e w1 ⟨gs,⟨rfl,rfl⟩,Ta⟩
   simp only [PU] at Ta
   have HT:=Lib.hid Ta
   clear Ta
   have e0:=HT.out.cell 4 0 rfl 0
   have fe0:=HT.out.free 4 0 rfl 0
   have e1:=HT.out.cell 4 0 rfl 1
   have fe1:=HT.out.free 4 0 rfl 1
   simp only [GE4] at e0 e1
   go_wp2
   exact bodyPost_ret (v:=.agg #[.nilFunc,.func (.func 173) #[ptr' kb] #[]]) (by simp [results,Tryz.results140,go_sem,e0,e1]) rfl ⟨_,⟨_,_,[],_,_,rfl,⟨rfl,rfl,rfl⟩,⟨_,_,(reqG qb L.p.sb q2),(tickG tb qs.rb newTick),⟨qb,rfl,rfl⟩,⟨tb,qs,HQS.out,rfl,rfl⟩,rfl,HX.out⟩,rfl⟩,(((HT.out.set 4 0 rfl 0 _).set 4 0 rfl 1 _).pick [0,1,5,3] rfl).sum⟩
  ·have hst:(stepR x.slab q).2.st=q2.st:=by rw [hr2]
   have HZ:asksC (k,x) q=(.at none .asks,({ k with rq:=some q2 },{ x with slab:=s2 })):=by unfold asksC;simp only [hr2];rw [if_neg h1,if_neg h2]
   have hb1:(q2.st == 1)=false:=beq_eq_false_iff_ne.2 h1
   have hb2:(q2.st == 2)=false:=beq_eq_false_iff_ne.2 h2
   clear h1 h2 hidb hsh
   rw [HZ]
   unfold MRz
   dsimp only [refuseC]
   clear HZ
   obtain ⟨rv,tv,gq,gt,⟨qb,rfl,rfl⟩,ht,rfl,hx⟩:=hz
   intro w hw
   have T0:=TG.refl hw
   have HT:=Lib.hid T0
   clear hw T0
   have HT:=Lib.hid (HT.out.sum (H':=[workB kb L.fb pv (ptr' qb) tv k,reqG qb L.p.sb q,gt,gF]))
   have HX:=Lib.hid hx
   have HTK:=Lib.hid ht
   have HRQ:=Lib.hid (coreReq hx qb q hok.slab hrq)
   rw [hst,hr2] at HRQ
   clear hx ht
   have k13:=HT.out.cell 0 0 rfl 13
   simp only [workC,GE3] at k13
   have lt:=HT.out.lt 0 0 rfl
   simp only [] at lt
   clear hst hok hrq hr2
   go_enter Tryz.func140,Tryz.ntmps140
   go_wp2_with fail
   refine (DoesG.use (HRQ.out) (HT.out.alloc (k:=w.heap.size) rfl _ _) [1,3] rfl rfl).mono ?_
   rintro e w1 ⟨gs,⟨rfl,g1,hx1,rfl⟩,Ta⟩
   simp only [PU] at Ta
   have HX:=Lib.hid hx1
   clear hx1 k13 lt
   have HT:=Lib.hid Ta
   clear Ta
   have HT:=Lib.hid (HT.out.eq (H':=[workB kb L.fb pv (ptr' qb) tv { k with rq:=some q2 },reqG qb L.p.sb q2,gt,g1,[cl w.heap.size 148 #[.nilFunc,.nilFunc]]]) rfl)
   go_wp2_with fail
   refine (DoesG.use (callsAt) (HT.out) [] rfl rfl).mono ?_
   rintro e w1 ⟨gs,⟨rfl,rfl⟩,Ta⟩
   simp only [PU] at Ta
   have HT:=Lib.hid Ta
   clear Ta
   have e0:=HT.out.cell 4 0 rfl 0
   have fe0:=HT.out.free 4 0 rfl 0
   have e1:=HT.out.cell 4 0 rfl 1
   have fe1:=HT.out.free 4 0 rfl 1
   simp only [GE4] at e0 e1
   go_wp2
   exact bodyPost_ret (v:=.agg #[.nilFunc,.func (.func 140) #[ptr' kb] #[]]) (by simp [results,Tryz.results140,go_sem,e0,e1]) rfl ⟨_,⟨_,_,[],_,_,rfl,⟨rfl,rfl,rfl⟩,⟨_,_,(reqG qb L.p.sb q2),gt,⟨qb,rfl,rfl⟩,HTK.out,rfl,HX.out⟩,rfl⟩,(((HT.out.set 4 0 rfl 0 _).set 4 0 rfl 1 _).pick [0,1,2,3] rfl).sum⟩
end
end
end Go.Proofs.YtblhfbcodbjgcaaGreat
