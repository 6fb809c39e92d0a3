import Derived.Test.YtcneeepdclgdcaaGreatCO5
import Derived.Test.YtcneeepdclgdcaaGreatCO13
import Derived.Test.YtcneeepdclgdcaaGreatCO4
set_option maxRecDepth 100000
set_option maxHeartbeats 4000000
namespace Go.Proofs.YtcneeepdclgdcaaGreat
set_option linter.unusedVariables false
set_option linter.unusedSimpArgs false
open Go.Proofs.Tryz
section
open Go.RowKit Go.Shelf
inductive St (M A Y:Type) where
 | nil
 | at (y:Option Y) (m:M)
 | row1 (a:A)
 | row2 (a b:A)
 | thn (s:St M A Y) (m:M)
section
variable {M A Y α:Type}
def St.isNil:St M A Y→Bool
 | .nil=>true
 | _=>false
def qgz (runM:M→α→St M A Y × α) (s:St M A Y) (m:M) (x:α):St M A Y × α :=
 match s with
 | .nil=>runM m x
 | s=>(.thn s m,x)
def St.run (runM:M→α→St M A Y × α) (runA:A→α→α):St M A Y→α→St M A Y × α
 | .nil,x=>(.nil,x)
 | .at _ m,x=>runM m x
 | .row1 a,x=>(.nil,runA a x)
 | .row2 a b,x=>(.row1 b,runA a x)
 | .thn s m,x=>qgz runM (s.run runM runA x).1 m (s.run runM runA x).2
def St.pre (runM:M→α→St M A Y × α) (runA:A→α→α) (preM:M→α→Prop) (preA:A→α→Prop):St M A Y→α→Prop
 | .nil,_=>True
 | .at _ m,x=>preM m x
 | .row1 a,x=>preA a x
 | .row2 a _,x=>preA a x
 | .thn s m,x=>s.pre runM runA preM preA x∧((s.run runM runA x).1.isNil=true→preM m (s.run runM runA x).2)
def St.may (mayY:Y→α→Bool):St M A Y→α→Bool
 | .nil,_=>false
 | .at none _,_=>true
 | .at (some y) _,x=>mayY y x
 | .row1 _,_=>true
 | .row2 _ _,_=>true
 | .thn s _,x=>s.may mayY x
def St.preY (preY:Y→α→Prop):St M A Y→α→Prop
 | .at (some y) _,x=>preY y x
 | .thn s _,x=>s.preY preY x
 | _,_=>True
end
theorem TG.sum {h H H':GH} {w w':World} (T:TG h w H w')
 (hs:∀ n:List Blk→Nat,(∀ x y,n (x++y)=n x+n y)→n []=0→(∀ a b l,n (a::b::l)=n [a]+n (b::l))→(∀ a x y,n (a::(x++y))=n [a]+(n x+n y))→n H.flatten=n H'.flatten:=by intro n ha h0 h1 h2;simp only [SU,ha,h0,h1,h2] <;> omega):TG h w H' w':=by
 classical
 refine T.re (List.perm_iff_count.2 fun a=>hs (fun l=>l.count a) (fun x y=>List.count_append) rfl (fun b d l=>?_) (fun b x y=>?_))
 ·show List.count a ([b]++(d::l))=_
  rw [List.count_append]
 ·show List.count a ([b]++(x++y))=_
  rw [List.count_append,List.count_append]
def FnG (P:Program) (v:Value) (gs:GH) (R:Ending→GH→Prop):Prop :=
 ∃ fn first caps,v=.func (.func fn) first caps∧(∀ args w,(callFunc fn args).run P w=.ok (.enter fn args) w)∧Qa P fn (first++caps) gs R
theorem Yl (w:World):(binOp .eql 151 .nilFunc .nilFunc).run prog w=.ok (.bool true) w:=by kernel_rfl
theorem q4 (f:Fn) (a b:Array Value) (w:World):(binOp .eql 151 (.func f a b) .nilFunc).run prog w=.ok (.bool false) w:=by kernel_rfl
theorem qc3 (w:World):(binOp .eql 24 .nilFunc .nilFunc).run prog w=.ok (.bool true) w:=by kernel_rfl
theorem qet (f:Fn) (a b:Array Value) (w:World):(binOp .eql 24 (.func f a b) .nilFunc).run prog w=.ok (.bool false) w:=by kernel_rfl
theorem qjc (f:Fn) (a b:Array Value) (w:World):(binOp .neq 1 (.func f a b) .nilFunc).run prog w=.ok (.bool true) w:=by kernel_rfl
structure Cli where
 M:Type
 A:Type
 Y:Type
 α:Type
 rep:α→List Blk→List Blk→Prop
 VM:M→Value→List Blk→Prop
 VA:A→Value→List Blk→Prop
 VY:Y→Value→List Blk→Prop
 runM:M→α→St M A Y × α
 runA:A→α→α
 mayY:Y→α→Bool
 preM:M→α→Prop
 preA:A→α→Prop
 preY:Y→α→Prop
namespace Cli
variable (c:Cli)
abbrev S:Type:=St c.M c.A c.Y
def run (s:c.S) (x:c.α):c.S × c.α:=St.run c.runM c.runA s x
def pre (s:c.S) (x:c.α):Prop:=St.pre c.runM c.runA c.preM c.preA s x
def thn (s:c.S) (m:c.M) (x:c.α):c.S × c.α:=qgz c.runM s m x
def SV:c.S→Value→Value→List Blk→Prop
 | .nil,m,d,g=>m=.nilFunc∧d=.nilFunc∧g=[]
 | .at none f,m,d,g=>m=.nilFunc∧c.VM f d g
 | .at (some y) f,m,d,g=>∃ g1 g2,c.VY y m g1∧c.VM f d g2∧g=g1++g2
 | .row1 a,m,d,g=>m=.nilFunc∧∃ bf bl bi b o D va ga,d=.func (.func 209) #[] #[Qd bf,Qd bl,Qd bi]∧c.VA a va ga∧D[o]?=some va ∧
    g=[cl bf 1 #[va],cl bl 322 #[.slice (some ⟨b,o,none⟩) 1 1],cl bi 3 #[.int .i64 0],cl b 1 D]++ga
 | .row2 a a',m,d,g=>m=.nilFunc∧∃ bf bl bi b va va' ga ga',d=.func (.func 209) #[] #[Qd bf,Qd bl,Qd bi]∧c.VA a va ga∧c.VA a' va' ga' ∧
    g=[cl bf 1 #[va],cl bl 322 #[.slice (some ⟨b,0,none⟩) 2 2],cl bi 3 #[.int .i64 0],cl b 1 #[va,va']]++ga++ga'
 | .thn s f,m,d,g=>∃ bs br ds vm gs gm,d=.func (.func 237) #[] #[Qd bs,Qd br]∧s.isNil=false∧SV s m ds gs∧c.VM f vm gm ∧
    g=[cl bs 153 #[m,ds],cl br 151 #[vm]]++gs++gm
structure Vals:Prop where
 vm:∀ {f:c.M} {v:Value} {g:List Blk},c.VM f v g→∃ fn first caps,v=.func (.func fn) first caps
 va:∀ {f:c.A} {v:Value} {g:List Blk},c.VA f v g→∃ fn first caps,v=.func (.func fn) first caps
 vy:∀ {f:c.Y} {v:Value} {g:List Blk},c.VY f v g→∃ fn first caps,v=.func (.func fn) first caps
structure Ok:Prop where
 m:∀ {f:c.M} {v:Value} {g gK gF:List Blk} {x:c.α},c.VM f v g→c.rep x gK gF→c.preM f x →
  FnG prog v [g,gK,gF] fun e gs=>∃ m d g' gK' gF',e=.returned (.agg #[m,d])∧c.SV (c.runM f x).1 m d g'∧c.rep (c.runM f x).2 gK' gF'∧gs=[g',gK',gF']
 a:∀ {f:c.A} {v:Value} {g gK gF:List Blk} {x:c.α},c.VA f v g→c.rep x gK gF→c.preA f x →
  FnG prog v [g,gK,gF] fun e gs=>∃ gK' gF',e=.returned (.tuple #[])∧c.rep (c.runA f x) gK' gF'∧gs=[[],gK',gF']
 y:∀ {f:c.Y} {v:Value} {g gK gF:List Blk} {x:c.α},c.VY f v g→c.rep x gK gF→c.preY f x →
  FnG prog v [g,gK,gF] fun e gs=>∃ gK' gF',e=.returned (.bool (c.mayY f x))∧c.rep x gK' gF'∧gs=[g,gK',gF']
 v:c.Vals
variable {c}
theorem SV.nil {m d:Value} {g:List Blk} (h:c.SV .nil m d g):m=.nilFunc∧d=.nilFunc∧g=[]:=h
theorem Ok.vm (h:c.Ok) {f:c.M} {v:Value} {g:List Blk} (hv:c.VM f v g):∃ fn first caps,v=.func (.func fn) first caps:=h.v.vm hv
theorem Ok.va (h:c.Ok) {f:c.A} {v:Value} {g:List Blk} (hv:c.VA f v g):∃ fn first caps,v=.func (.func fn) first caps:=h.v.va hv
theorem Ok.vy (h:c.Ok) {f:c.Y} {v:Value} {g:List Blk} (hv:c.VY f v g):∃ fn first caps,v=.func (.func fn) first caps:=h.v.vy hv
theorem Vals.do_ (h:c.Vals) {s:c.S} {m d:Value} {g:List Blk} (hs:s.isNil=false) (v:c.SV s m d g):∃ fn first caps,d=.func (.func fn) first caps:=by
 cases s with
 | nil=>cases hs
 | «at» y f =>
   cases y with
   | none=>exact h.vm v.2
   | some y=>obtain ⟨g1,g2,_,h2,_⟩:=v;exact h.vm h2
 | row1 a=>obtain ⟨_,bf,bl,bi,b,o,D,va,ga,rfl,_⟩:=v;exact ⟨_,_,_,rfl⟩
 | row2 a a'=>obtain ⟨_,bf,bl,bi,b,va,va',ga,ga',rfl,_⟩:=v;exact ⟨_,_,_,rfl⟩
 | thn s f=>obtain ⟨bs,br,ds,vm,gs,gm,rfl,_⟩:=v;exact ⟨_,_,_,rfl⟩
def isFv (v:Value):Prop:=v=.nilFunc∨∃ fn first caps,v=.func (.func fn) first caps
theorem qep {P:Program} {v u:Value} (hv:isFv v) {a:Addr} {w:World} (hc:w.cell? a=some u) (hf:w.frozen? a=false):(store a v).run P w=.ok () (w.setCell a v):=by
 rcases hv with rfl | ⟨fn,x,y,rfl⟩ <;> (rw [run_store P w a _ .plain rfl];simp [stored,hc,hf])
theorem store_fv2 {P:Program} {v v' u u':Value} (hv:isFv v) (hv':isFv v') {b:Nat} {w:World} (hc:w.cell? ⟨b,0,none⟩=some u) (hf:w.frozen? ⟨b,0,none⟩=false) (hc':w.cell? ⟨b,1,none⟩=some u') (hf':w.frozen? ⟨b,1,none⟩=false) :
 (store ⟨b,0,none⟩ v).run P w=.ok () (w.setCell ⟨b,0,none⟩ v)∧(store ⟨b,1,none⟩ v').run P (w.setCell ⟨b,0,none⟩ v)=.ok () ((w.setCell ⟨b,0,none⟩ v).setCell ⟨b,1,none⟩ v') :=
 have e1:(w.setCell ⟨b,0,none⟩ v).cell? ⟨b,1,none⟩=some u':=by simp [go_sem,hc']
 have e2:(w.setCell ⟨b,0,none⟩ v).frozen? ⟨b,1,none⟩=false:=by simp [go_sem,hf']
 ⟨qep hv hc hf,qep hv' e1 e2⟩
theorem Vals.vals (h:c.Vals):∀ {s:c.S} {m d:Value} {g:List Blk},c.SV s m d g→isFv m∧isFv d
 | .nil,_,_,_,v=>⟨.inl v.1,.inl v.2.1⟩
 | .at none f,_,_,_,v=>⟨.inl v.1,.inr (h.vm v.2)⟩
 | .at (some y) f,_,_,_,v=>by obtain ⟨g1,g2,h1,h2,_⟩:=v;exact ⟨.inr (h.vy h1),.inr (h.vm h2)⟩
 | .row1 a,_,_,_,v=>by obtain ⟨h0,bf,bl,bi,b,o,D,va,ga,rfl,_⟩:=v;exact ⟨.inl h0,.inr ⟨_,_,_,rfl⟩⟩
 | .row2 a a',_,_,_,v=>by obtain ⟨h0,bf,bl,bi,b,va,va',ga,ga',rfl,_⟩:=v;exact ⟨.inl h0,.inr ⟨_,_,_,rfl⟩⟩
 | .thn s f,_,_,_,v=>by
   obtain ⟨bs,br,ds,vm,gs,gm,rfl,_,hv,_⟩:=v;exact ⟨(Vals.vals h hv).1,.inr ⟨_,_,_,rfl⟩⟩
theorem Ok.do_ (h:c.Ok) {s:c.S} {m d:Value} {g:List Blk} (hs:s.isNil=false) (v:c.SV s m d g):∃ fn first caps,d=.func (.func fn) first caps:=h.v.do_ hs v
theorem Ok.vals (h:c.Ok) {s:c.S} {m d:Value} {g:List Blk} (v:c.SV s m d g):isFv m∧isFv d:=h.v.vals v
theorem prog_then_cons (h:c.Vals) {s:c.S} {f:c.M} {m d v:Value} {g gm:List Blk} (hn:s.isNil=false) (hs:c.SV s m d g) (hm:c.VM f v gm) :
 Qa prog 196 #[.agg #[m,d],v] [g,gm] fun e gs=>∃ m' d' g',e=.returned (.agg #[m',d'])∧c.SV (.thn s f) m' d' g'∧gs=[g']:=by
 obtain ⟨fn,first,caps,rfl⟩:=h.do_ hn hs;refine GO fun w HT=>?_
 have HS:=Vh hs;have HM:=Vh hm;have HN:=Vh hn;obtain ⟨v1,_⟩:=h.vals hs;obtain ⟨fn0,first0,caps0,rfl⟩:=h.vm hm;clear hm hs h hn;have q1:=fun w=>q4 (.func fn) first caps w
 rcases v1 with rfl | ⟨fn1,first1,caps1,rfl⟩
 all_goals
  go_enter func196,ntmps196
  go_wp2
  exact bodyPost_ret (v:=.agg #[_,_]) (by simp [results,results196,go_sem]) rfl ⟨_,⟨_,_,_,rfl,⟨w.heap.size,w.heap.size+1,_,_,g,gm,rfl,HN.out,HS.out,HM.out,rfl⟩,rfl⟩,(((HT.out.alloc (k:=w.heap.size) rfl _ _).alloc (k:=w.heap.size+1) (by simp) _ _).alloc0 _).sum⟩
theorem zu (h:c.Ok) {s:c.S} {f:c.M} {m d v:Value} {g gm gK gF:List Blk} {x:c.α} (hs:c.SV s m d g) (hm:c.VM f v gm) (hx:c.rep x gK gF) (hp:s.isNil=true→c.preM f x) :
 Qa prog 196 #[.agg #[m,d],v] [g,gm,gK,gF] fun e gs=>∃ m' d' g' gK' gF',e=.returned (.agg #[m',d'])∧c.SV (c.thn s f x).1 m' d' g'∧c.rep (c.thn s f x).2 gK' gF'∧gs=[g',gK',gF']:=by
 cases hn:s.isNil with
 | true =>
   have:s=.nil:=by cases s <;> first | rfl | cases hn
   subst this;obtain ⟨rfl,rfl,rfl⟩:=SV.nil hs;obtain ⟨fn,first,caps,rfl,eg,hd⟩:=h.m hm hx (hp rfl);refine GO fun w HT=>?_
   have HD:=Vh hd;clear hd hm hx hp hs;have q1:=fun w=>Yl w
   go_enter func196,ntmps196
   go_wp2_with fail
   refine (Qa.use (HD.out) (((HT.out.alloc (k:=w.heap.size) rfl _ _).alloc (k:=w.heap.size+1) (by simp) _ _).alloc (k:=w.heap.size+1+1) (by simp) _ _) [1,2,3] rfl rfl).mono ?_
   rintro e w1 ⟨gs,⟨m',d',g',gK',gF',rfl,hs',hx',rfl⟩,Ta⟩;simp only [PU] at Ta;obtain ⟨c0,c1⟩:=Ce2 (Ta.cell 6 0 rfl) 0 1;obtain ⟨f0,f1⟩:=Ce2 (Ta.free 6 0 rfl) 0 1;have HT:=Vh Ta;have HS:=Vh hs';have HX:=Vh hx';obtain ⟨v1,v2⟩:=h.vals hs';clear Ta hs' hx' h;rcases v1 with rfl | ⟨fn1,first1,caps1,rfl⟩ <;> rcases v2 with rfl | ⟨fn2,first2,caps2,rfl⟩
   all_goals
    go_wp2
    exact bodyPost_ret (v:=.agg #[_,_]) (by simp [results,results196,go_sem,c0,c1]) rfl ⟨_,⟨_,_,g',gK',gF',rfl,HS.out,HX.out,rfl⟩,((HT.out.set 6 0 rfl 0 _).set 6 0 rfl 1 _).pick [1,2,3] rfl⟩
 | false =>
   have e1:c.thn s f x=(.thn s f,x):=by cases s <;> first | rfl | cases hn
   rw [e1];intro w hw;refine (Qa.use (prog_then_cons h.v hn hs hm) (TG.refl hw) [0,1] rfl rfl).mono ?_
   rintro e w' ⟨gs,⟨m',d',g',he,hs',rfl⟩,T⟩;exact ⟨_,⟨m',d',g',gK,gF,he,hs',hx,rfl⟩,T.pick [0,2,3] rfl⟩
def DoR (c:Cli) (s:c.S) (x:c.α) (e:Ending) (gs:GH):Prop :=
 ∃ m d g gK gF,e=.returned (.agg #[m,d])∧c.SV (c.run s x).1 m d g∧c.rep (c.run s x).2 gK gF∧gs=[g,gK,gF]
theorem row_nil (a:Option Addr) (n:Nat):Qa prog 178 #[.slice a 0 n] [] fun e gs=>e=.returned (.agg #[.nilFunc,.nilFunc])∧gs=[]:=by
 refine GO fun w HT=>?_
 go_enter func178,ntmps178
 go_wp2
 have T1:=(HT.out.alloc (k:=w.heap.size) rfl 322 #[.slice a 0 n]).alloc (k:=w.heap.size+1) (by simp) 153 #[.nilFunc,.nilFunc]
 go_loopw [7] (fun i wr=>i=.int .i64 0∧TG [] w [[cl w.heap.size 322 #[.slice a 0 n]],[cl (w.heap.size+1) 153 #[.nilFunc,.nilFunc]]] wr) (fun _ _=>0)
 case atStart=>exact ⟨rfl,T1⟩
 case round =>
  obtain ⟨rfl,T⟩:=hrel;obtain ⟨c0,c1⟩:=Ce2 (T.cell 1 0 rfl) 0 1;obtain ⟨f0,f1⟩:=Ce2 (T.free 1 0 rfl) 0 1;have HT:=Vh T;clear T T1;go_wp2
  exact bodyPost_ret (v:=.agg #[.nilFunc,.nilFunc]) (by simp [results,results178,go_sem,c0,c1]) rfl ⟨_,⟨rfl,rfl⟩,((HT.out.set 1 0 rfl 0 _).set 1 0 rfl 1 _).pick [] rfl⟩
theorem row_1 {b o:Nat} {D:Array Value} {fn:FuncId} {first caps:Array Value} (hD:D[o]?=some (.func (.func fn) first caps)) (n:Nat) (h:n=1∨n=2) :
 Qa prog 178 #[.slice (some ⟨b,o,none⟩) n n] [[cl b 1 D]] fun e gs=>∃ bf bl bi,e=.returned (.agg #[.nilFunc,.func (.func 209) #[] #[Qd bf,Qd bl,Qd bi]]) ∧
  gs=[[cl b 1 D],[cl bf 1 #[.func (.func fn) first caps]],[cl bl 322 #[.slice (some ⟨b,o,none⟩) n n]],[cl bi 3 #[.int .i64 0]]]:=by
 refine GO fun w HT=>?_
 have hn:0<n:=by omega
 have q:=fun w=>qjc (.func fn) first caps w
 clear h;go_enter func178,ntmps178
 go_wp2
 have T1:=(HT.out.alloc (k:=w.heap.size) rfl 322 #[.slice (some ⟨b,o,none⟩) n n]).alloc (k:=w.heap.size+1) (by simp) 153 #[.nilFunc,.nilFunc]
 go_loopw [7] (fun i wr=>i=.int .i64 0∧TG [[cl b 1 D]] w [[cl b 1 D],[cl w.heap.size 322 #[.slice (some ⟨b,o,none⟩) n n]],[cl (w.heap.size+1) 153 #[.nilFunc,.nilFunc]]] wr) (fun _ _=>0)
 case atStart=>exact ⟨rfl,T1⟩
 case round =>
  obtain ⟨rfl,T⟩:=hrel;clear T1;obtain ⟨rb,hrb⟩:∃ rb,rb=w.heap.size+1:=⟨_,rfl⟩;obtain ⟨lb,hlb⟩:∃ lb,lb=w.heap.size:=⟨_,rfl⟩;rw [← hrb,← hlb] at T;rw [← hrb,← hlb];clear hrb hlb;have e0:=(T.cell 0 0 rfl o).trans hD;obtain ⟨c0,c1⟩:=Ce2 (T.cell 2 0 rfl) 0 1;obtain ⟨f0,f1⟩:=Ce2 (T.free 2 0 rfl) 0 1;have lt:=T.lt 2 0 rfl;simp only [] at lt;have HT:=Vh T;clear T hD;go_wp2
  exact bodyPost_ret (v:=.agg #[.nilFunc,.func (.func 209) #[] #[Qd (wr.heap.size+1),Qd lb,Qd wr.heap.size]]) (by simp [results,results178,go_sem,c0,c1,lt]) rfl ⟨_,⟨_,_,_,rfl,rfl⟩,((((HT.out.set 2 0 rfl 0 _).set 2 0 rfl 1 _).alloc (k:=wr.heap.size) (by simp) _ _).alloc (k:=wr.heap.size+1) (by simp) _ _).pick [0,4,1,3] rfl⟩
theorem qaf (h:c.Ok) {a:c.A} {m d:Value} {g gK gF:List Blk} {x:c.α} (hs:c.SV (.row1 a) m d g) (hx:c.rep x gK gF) (hp:c.preA a x):FnG prog d [g,gK,gF] (DoR c (.row1 a) x):=by
 obtain ⟨rfl,bf,bl,bi,b,o,D,va,ga,rfl,hva,hD,rfl⟩:=hs;obtain ⟨fn,first,caps,rfl,eg,hd⟩:=h.a hva hx hp;refine ⟨_,_,_,rfl,enters_of func209 (by kernel_rfl) rfl,?_⟩
 refine GO fun w HT=>?_
 have HT:=Vh (HT.out.sum (H':=[[cl bf 1 #[.func (.func fn) first caps]],[cl bl 322 #[.slice (some ⟨b,o,none⟩) 1 1]],[cl bi 3 #[.int .i64 0]],[cl b 1 D],ga,gK,gF]));have c0:=HT.out.cell 0 0 rfl 0;have lt0:=HT.out.lt 0 0 rfl;simp only [] at lt0;have HD:=Vh hd;clear hd hx hp hva h;simp only [GE2] at c0;go_enter func209,ntmps209
 go_wp2_with fail
 refine (Qa.use (HD.out) (HT.out.alloc (k:=w.heap.size) rfl _ _) [4,5,6] rfl rfl).mono ?_
 rintro e w1 ⟨gs,⟨gK',gF',rfl,hx',rfl⟩,Ta⟩;simp only [PU] at Ta;have c1:=Ta.cell 1 0 rfl 0;have c2:=Ta.cell 2 0 rfl 0;have HX:=Vh hx';clear hx' c0;simp only [GE2] at c1 c2;have HT:=Vh Ta;clear Ta;go_wp2_with fail
 refine (Qa.use (row_nil _ _) (HT.out) [] rfl rfl).mono ?_
 rintro e w1 ⟨gs,⟨rfl,rfl⟩,Ta⟩;simp only [PU] at Ta;obtain ⟨e0,e1⟩:=Ce2 (Ta.cell 7 0 rfl) 0 1;obtain ⟨f0,f1⟩:=Ce2 (Ta.free 7 0 rfl) 0 1;clear c1 c2;have HT:=Vh Ta;clear Ta;go_wp2
 exact bodyPost_ret (v:=.agg #[.nilFunc,.nilFunc]) (by simp [results,results209,go_sem,e0,e1]) rfl ⟨_,⟨_,_,[],gK',gF',rfl,⟨rfl,rfl,rfl⟩,HX.out,rfl⟩,((HT.out.set 7 0 rfl 0 _).set 7 0 rfl 1 _).pick [4,5,6] rfl⟩
theorem zj (h:c.Ok) {a a':c.A} {m d:Value} {g gK gF:List Blk} {x:c.α} (hs:c.SV (.row2 a a') m d g) (hx:c.rep x gK gF) (hp:c.preA a x):FnG prog d [g,gK,gF] (DoR c (.row2 a a') x):=by
 obtain ⟨rfl,bf,bl,bi,b,va,va',ga,ga',rfl,hva,hva',rfl⟩:=hs;obtain ⟨fn,first,caps,rfl,eg,hd⟩:=h.a hva hx hp;obtain ⟨fn',first',caps',rfl⟩:=h.va hva';refine ⟨_,_,_,rfl,enters_of func209 (by kernel_rfl) rfl,?_⟩
 refine GO fun w HT=>?_
 have HT:=Vh (HT.out.sum (H':=[[cl bf 1 #[.func (.func fn) first caps]],[cl bl 322 #[.slice (some ⟨b,0,none⟩) 2 2]],[cl bi 3 #[.int .i64 0]],[cl b 1 #[.func (.func fn) first caps,.func (.func fn') first' caps']],ga,gK,gF,ga']));have c0:=HT.out.cell 0 0 rfl 0;have lt0:=HT.out.lt 0 0 rfl;simp only [] at lt0;have HD:=Vh hd;have HA:=Vh hva';clear hd hx hp hva hva' h;simp only [GE2] at c0;go_enter func209,ntmps209
 go_wp2_with fail
 refine (Qa.use (HD.out) (HT.out.alloc (k:=w.heap.size) rfl _ _) [4,5,6] rfl rfl).mono ?_
 rintro e w1 ⟨gs,⟨gK',gF',rfl,hx',rfl⟩,Ta⟩;simp only [PU] at Ta;have c1:=Ta.cell 1 0 rfl 0;have c2:=Ta.cell 2 0 rfl 0;have HX:=Vh hx';clear hx' c0;simp only [GE2] at c1 c2;have HT:=Vh Ta;clear Ta;go_wp2_with fail
 refine (Qa.use (row_1 (D:=#[.func (.func fn) first caps,.func (.func fn') first' caps']) (o:=1) rfl 1 (.inl rfl)) (HT.out) [3] rfl rfl).mono ?_
 rintro e w1 ⟨gs,⟨bf',bl',bi',rfl,rfl⟩,Ta⟩;simp only [PU] at Ta;obtain ⟨e0,e1⟩:=Ce2 (Ta.cell 8 0 rfl) 0 1;obtain ⟨f0,f1⟩:=Ce2 (Ta.free 8 0 rfl) 0 1;clear c1 c2;have HT:=Vh Ta;clear Ta;go_wp2
 exact bodyPost_ret (v:=.agg #[.nilFunc,_]) (by simp [results,results209,go_sem,e0,e1]) rfl ⟨_,⟨_,_,_,gK',gF',rfl,⟨rfl,bf',bl',bi',b,1,#[.func (.func fn) first caps,.func (.func fn') first' caps'],_,ga',rfl,HA.out,rfl,rfl⟩,HX.out,rfl⟩,(((HT.out.set 8 0 rfl 0 _).set 8 0 rfl 1 _).pick [3,5,6,7,9,10,11] rfl).sum⟩
theorem qca (h:c.Ok) {s:c.S} {f:c.M} {m d:Value} {g gK gF:List Blk} {x:c.α} (hs:c.SV (.thn s f) m d g) (hx:c.rep x gK gF)
 (hi:∀ {m d:Value} {g:List Blk},c.SV s m d g→FnG prog d [g,gK,gF] (DoR c s x)) (hp:(c.run s x).1.isNil=true→c.preM f (c.run s x).2):FnG prog d [g,gK,gF] (DoR c (.thn s f) x):=by
 obtain ⟨bs,br,ds,vm,gs,gm,rfl,hn,hv,hm,rfl⟩:=hs;obtain ⟨fn,first,caps,rfl,eg,hd⟩:=hi hv;obtain ⟨fn',first',caps',rfl⟩:=h.vm hm
 have key:∀ m' d' g' gK' gF',c.SV (c.run s x).1 m' d' g'→c.rep (c.run s x).2 gK' gF'→Qa prog 196 #[.agg #[m',d'],.func (.func fn') first' caps'] [g',gm,gK',gF'] (DoR c (.thn s f) x) :=
  fun m' d' g' gK' gF' h1 h2=>zu h h1 hm h2 hp
 refine ⟨_,_,_,rfl,enters_of func237 (by kernel_rfl) rfl,?_⟩
 refine GO fun w HT=>?_
 have HT:=Vh (HT.out.sum (H':=[[cl bs 153 #[m,.func (.func fn) first caps]],[cl br 151 #[.func (.func fn') first' caps']],gs,gK,gF,gm]));have c0:=HT.out.cell 0 0 rfl 1;have c1:=HT.out.cell 1 0 rfl 0;have lt0:=HT.out.lt 0 0 rfl;have lt1:=HT.out.lt 1 0 rfl;simp only [] at lt0 lt1;have HD:=Vh hd;have HK:=Vh key;have HV:=Vh (show ∀ (s:c.S) m d g,c.SV s m d g→isFv m∧isFv d from fun _ _ _ _ hv=>h.vals hv);clear hd hx hp hv hm hn hi key;simp only [GE3] at c0 c1;go_enter func237,ntmps237
 go_wp2_with fail
 have HT:=Vh (HT.out.alloc (k:=w.heap.size) rfl 153 #[.nilFunc,.nilFunc])
 go_region_with (first
  | (go_at_call 196
     refine (Qa.use (HK.out _ _ _ _ _ HS1.out HX1.out) (HT1.out) [2,5,3,4] rfl rfl).mono ?_
     rintro e w2 ⟨gs,⟨m2,d2,g2,gK2,gF2,rfl,hs2,hx2,rfl⟩,Ta⟩;simp only [PU] at Ta;obtain ⟨e0,e1⟩:=Ce2 (Ta.cell 6 0 rfl) 0 1;obtain ⟨f0,f1⟩:=Ce2 (Ta.free 6 0 rfl) 0 1;have hv2:=HV.out _ _ _ _ hs2;obtain ⟨st1,st2⟩:=store_fv2 (P:=prog) hv2.1 hv2.2 e0 f0 e1 f1;clear hv2;have HS2:=Vh hs2;have HX2:=Vh hx2;have HT2:=Vh Ta
     clear Ta hs2 hx2)
  | (refine (Qa.use (HD.out) (HT.out.drew) [2,3,4] rfl rfl).mono ?_
     rintro e w1 ⟨gs,⟨m1,d1,g1,gK1,gF1,rfl,hs1,hx1,rfl⟩,Ta⟩;simp only [PU] at Ta;have c2:=Ta.cell 1 0 rfl 0;simp only [GE3] at c2;have HS1:=Vh hs1;have HX1:=Vh hx1;have HT1:=Vh Ta
     clear Ta hs1 hx1))
 all_goals
  go_wp2
  exact bodyPost_ret (v:=.agg #[_,_]) (by simp [results,results237,go_sem,e0,e1]) rfl ⟨_,⟨m2,d2,g2,gK2,gF2,rfl,HS2.out,HX2.out,rfl⟩,((HT2.out.set 6 0 rfl 0 _).set 6 0 rfl 1 _).pick [2,5,3] rfl⟩
theorem zi (h:c.Ok):∀ {s:c.S} {m d:Value} {g gK gF:List Blk} {x:c.α},s.isNil=false→c.SV s m d g→c.rep x gK gF→c.pre s x→FnG prog d [g,gK,gF] (DoR c s x)
 | .nil,_,_,_,_,_,_,hn,_,_,_=>by cases hn
 | .at none f,_,_,_,_,_,_,_,hs,hx,hp=>h.m hs.2 hx hp
 | .at (some y) f,_,_,_,gK,gF,_,_,hs,hx,hp=>by
   obtain ⟨g1,g2,h1,h2,rfl⟩:=hs;obtain ⟨fn,first,caps,hv,eg,hd⟩:=h.m h2 hx hp;refine ⟨fn,first,caps,hv,eg,fun w hw=>?_⟩
   have T:=(TG.refl hw).sum (H':=[g1,g2,gK,gF]);refine (Qa.use hd T [1,2,3] rfl rfl).mono ?_
   rintro e w' ⟨gs,⟨m',d',g',gK',gF',he,hs',hx',rfl⟩,T'⟩;exact ⟨_,⟨m',d',g',gK',gF',he,hs',hx',rfl⟩,T'.pick [1,2,3] rfl⟩
 | .row1 a,_,_,_,_,_,_,_,hs,hx,hp=>qaf h hs hx hp
 | .row2 a b,_,_,_,_,_,_,_,hs,hx,hp=>zj h hs hx hp
 | .thn s f,_,_,_,_,_,_,_,hs,hx,hp=>by
   have hs':=hs;obtain ⟨bs,br,ds,vm,gs,gm,_,hn,_⟩:=hs';exact qca h hs hx (fun hv=>zi h hn hv hx hp.1) hp.2
end Cli
namespace Cli
variable {c:Cli}
def progB (pb:Nat) (m d:Value) (n:Int):List Blk:=[cl pb 240 #[m,d,.int .i64 n]]
theorem prog_new (h:c.Ok) {s:c.S} {m d:Value} {g:List Blk} (hs:c.SV s m d g):Qa prog 79 #[.agg #[m,d]] [g] fun e gs=>∃ pb,e=.returned (Qd pb)∧gs=[g,progB pb m d 0]:=by
 obtain ⟨v1,v2⟩:=h.vals hs;refine GO fun w HT=>?_
 clear hs h;rcases v1 with rfl | ⟨fn1,first1,caps1,rfl⟩ <;> rcases v2 with rfl | ⟨fn2,first2,caps2,rfl⟩
 all_goals
  go_enter func79,ntmps79
  go_wp2
  go_ret
  exact ⟨_,⟨_,rfl,rfl⟩,(HT.out.alloc0 _).alloc (k:=w.heap.size+1) (by simp) _ _⟩
theorem prog_done (h:c.Ok) {s:c.S} {m d:Value} {g:List Blk} (hs:c.SV s m d g) (pb:Nat) (n:Int):Qi prog 150 #[Qd pb] [progB pb m d n] (.bool s.isNil):=by
 cases hn:s.isNil with
 | true =>
   have:s=.nil:=by cases s <;> first | rfl | cases hn
   subst this;obtain ⟨rfl,rfl,rfl⟩:=SV.nil hs;refine GO fun w HT=>?_
   have c1:=HT.out.cell 0 0 rfl 1;simp only [progB,GE3] at c1;have q1:=fun w=>Yl w
   clear hs h;go_enter func150,ntmps150
   go_wp2
   go_ret
   exact ⟨rfl,0,rfl⟩
 | false =>
   obtain ⟨fn,first,caps,rfl⟩:=h.do_ hn hs;refine GO fun w HT=>?_
   have c1:=HT.out.cell 0 0 rfl 1;simp only [progB,GE3] at c1;have q1:=fun w=>q4 (.func fn) first caps w
   clear hs h;go_enter func150,ntmps150
   go_wp2
   go_ret
   exact ⟨rfl,0,rfl⟩
def qlb (c:Cli) (s:c.S) (x:c.α) (g:List Blk) (e:Ending) (gs:GH):Prop:=∃ gK gF,e=.returned (.bool (s.may c.mayY x))∧c.rep x gK gF∧gs=[g,gK,gF]
theorem may_nil:∀ {s:c.S} {d:Value} {g:List Blk} {x:c.α},c.Ok→s.isNil=false→c.SV s .nilFunc d g→s.may c.mayY x=true
 | .nil,_,_,_,_,hn,_=>by cases hn
 | .at none _,_,_,_,_,_,_=>rfl
 | .at (some y) _,_,_,_,h,_,v=>by
   obtain ⟨g1,g2,h1,_⟩:=v;obtain ⟨_,_,_,he⟩:=h.vy h1;cases he
 | .row1 _,_,_,_,_,_,_=>rfl
 | .row2 _ _,_,_,_,_,_,_=>rfl
 | .thn s _,_,_,_,h,_,v=>by
   obtain ⟨bs,br,ds,vm,gs,gm,_,hn,hv,_⟩:=v;exact may_nil (s:=s) h hn hv
theorem z9 (h:c.Ok):∀ {s:c.S} {f:Fn} {a b:Array Value} {d:Value} {g gK gF:List Blk} {x:c.α},c.SV s (.func f a b) d g→c.rep x gK gF→s.preY c.preY x→FnG prog (.func f a b) [g,gK,gF] (qlb c s x g)
 | .nil,_,_,_,_,_,_,_,_,v,_,_=>by cases v.1
 | .at none _,_,_,_,_,_,_,_,_,v,_,_=>by cases v.1
 | .at (some y) _,_,_,_,_,_,gK,gF,_,v,hx,hp=>by
   obtain ⟨g1,g2,h1,h2,rfl⟩:=v;obtain ⟨fn,first,caps,hv,eg,hd⟩:=h.y h1 hx hp;refine ⟨fn,first,caps,hv,eg,fun w hw=>?_⟩
   have T:=(TG.refl hw).sum (H':=[g1,g2,gK,gF]);refine (Qa.use hd T [0,2,3] rfl rfl).mono ?_
   rintro e w' ⟨gs,⟨gK',gF',he,hx',rfl⟩,T'⟩;exact ⟨_,⟨gK',gF',he,hx',rfl⟩,TG.sum (H:=[g1,g2,gK',gF']) T'⟩
 | .row1 _,_,_,_,_,_,_,_,_,v,_,_=>by cases v.1
 | .row2 _ _,_,_,_,_,_,_,_,_,v,_,_=>by cases v.1
 | .thn s _,f,a,b,_,_,gK,gF,_,v,hx,hp=>by
   obtain ⟨bs,br,ds,vm,gs,gm,_,hn,hv,_,rfl⟩:=v;obtain ⟨fn,first,caps,hv',eg,hd⟩:=z9 h hv hx hp;refine ⟨fn,first,caps,hv',eg,fun w hw=>?_⟩
   have T:=(TG.refl hw).sum (H':=[[cl bs 153 #[.func f a b,ds],cl br 151 #[vm]],gs,gm,gK,gF]);refine (Qa.use hd T [1,3,4] rfl rfl).mono ?_
   rintro e w' ⟨gs',⟨gK',gF',he,hx',rfl⟩,T'⟩;exact ⟨_,⟨gK',gF',he,hx',rfl⟩,TG.sum (H:=[[cl bs 153 #[.func f a b,ds],cl br 151 #[vm]],gs,gm,gK',gF']) T'⟩
theorem Yx (h:c.Ok) {s:c.S} {m d:Value} {g gK gF:List Blk} {x:c.α} (hs:c.SV s m d g) (hx:c.rep x gK gF) (hp:s.preY c.preY x) (pb:Nat) (n:Int) :
 Qa prog 146 #[Qd pb] [progB pb m d n,g,gK,gF] fun e gs=>∃ gK' gF',e=.returned (.bool (s.may c.mayY x))∧c.rep x gK' gF'∧gs=[progB pb m d n,g,gK',gF']:=by
 have hd:=prog_done h hs pb n;cases hn:s.isNil with
 | true =>
   have:s=.nil:=by cases s <;> first | rfl | cases hn
   subst this;rw [hn] at hd;refine GO fun w HT=>?_
   have HD:=Vh hd;have HX:=Vh hx;clear hs h hd hn hp hx;go_enter func146,ntmps146
   go_wp2_with fail
   refine (Qi.use (HD.out) (HT.out) [0] rfl rfl).mono ?_
   rintro e w1 ⟨rfl,mq,rfl⟩;have HT:=Vh (HT.out.drewN mq);go_wp2
   go_ret
   exact ⟨_,⟨gK,gF,rfl,HX.out,rfl⟩,HT.out⟩
 | false =>
   rw [hn] at hd;obtain ⟨v1,_⟩:=h.vals hs;rcases v1 with rfl | ⟨fn1,first1,caps1,rfl⟩
   ·have hm:=may_nil (x:=x) h hn hs
    rw [hm];refine GO fun w HT=>?_
    have c0:=HT.out.cell 0 0 rfl 0;simp only [progB,GE3] at c0;have HD:=Vh hd;have HX:=Vh hx;have q1:=fun w=>qc3 w
    clear hs h hd hn hp hx hm;go_enter func146,ntmps146
    go_wp2_with fail
    refine (Qi.use (HD.out) (HT.out) [0] rfl rfl).mono ?_
    rintro e w1 ⟨rfl,mq,rfl⟩;have HT:=Vh (HT.out.drewN mq);go_wp2
    go_ret
    exact ⟨_,⟨gK,gF,rfl,HX.out,rfl⟩,HT.out⟩
   ·obtain ⟨fn,first,caps,hv,eg,hf⟩:=z9 h hs hx hp
    obtain ⟨rfl,rfl,rfl⟩:fn1=fn∧first1=first∧caps1=caps:=by
     cases hv
     exact ⟨rfl,rfl,rfl⟩
    obtain ⟨b,hb⟩:∃ b,s.may c.mayY x=b:=⟨_,rfl⟩;unfold qlb at hf;rw [hb] at hf ⊢;refine GO fun w HT=>?_
    have c0:=HT.out.cell 0 0 rfl 0;simp only [progB,GE3] at c0;have HD:=Vh hd;have HF:=Vh hf;have q1:=fun w=>qet (.func fn1) first1 caps1 w
    clear hs h hd hn hp hx hb hf hv;go_enter func146,ntmps146
    go_wp2_with fail
    refine (Qi.use (HD.out) (HT.out) [0] rfl rfl).mono ?_
    rintro e w1 ⟨rfl,mq,rfl⟩;have HT:=Vh (HT.out.drewN mq);go_wp2_with fail
    refine (Qa.use (HF.out) (HT.out) [1,2,3] rfl rfl).mono ?_
    rintro e w1 ⟨gs,⟨gK',gF',rfl,hx',rfl⟩,Ta⟩;simp only [PU] at Ta;have HX:=Vh hx';clear hx';have HT:=Vh Ta;clear Ta;go_wp2
    go_ret
    exact ⟨_,⟨gK',gF',rfl,HX.out,rfl⟩,HT.out⟩
def qk5 (c:Cli) (pb:Nat) (n:Int) (s:c.S) (x:c.α) (e:Ending) (gs:GH):Prop :=
 ∃ m d g gK gF,e=.returned (.bool true)∧c.SV (c.run s x).1 m d g∧c.rep (c.run s x).2 gK gF∧gs=[progB pb m d (n+1),g,gK,gF]
theorem prog_step_no (h:c.Ok) {s:c.S} {m d:Value} {g gK gF:List Blk} {x:c.α} (hs:c.SV s m d g) (hx:c.rep x gK gF) (hp:s.preY c.preY x) (pb:Nat) (n:Int) (hm:s.may c.mayY x=false) :
 Qa prog 85 #[Qd pb] [progB pb m d n,g,gK,gF] fun e gs=>∃ gK' gF',e=.returned (.bool false)∧c.rep x gK' gF'∧gs=[progB pb m d n,g,gK',gF']:=by
 have hd:=Yx h hs hx hp pb n;rw [hm] at hd;refine GO fun w HT=>?_
 have HD:=Vh hd;clear hs h hd hp hx hm;go_enter func85,ntmps85
 go_wp2_with fail
 refine (Qa.use (HD.out) (HT.out) [0,1,2,3] rfl rfl).mono ?_
 rintro e w1 ⟨gs,⟨gK',gF',rfl,hx',rfl⟩,Ta⟩;simp only [PU] at Ta;have HX:=Vh hx';clear hx';have HT:=Vh Ta;clear Ta;go_wp2
 go_ret
 exact ⟨_,⟨gK',gF',rfl,HX.out,rfl⟩,HT.out⟩
theorem prog_step (h:c.Ok) {s:c.S} {m d:Value} {g gK gF:List Blk} {x:c.α} (hs:c.SV s m d g) (hx:c.rep x gK gF) (hp:s.preY c.preY x) (hq:c.pre s x) (pb:Nat) (n:Int) (hn:0≤n∧n≤1000000000) (hm:s.may c.mayY x=true) :
 Qa prog 85 #[Qd pb] [progB pb m d n,g,gK,gF] (qk5 c pb n s x):=by
 have hd:=Yx h hs hx hp pb n;rw [hm] at hd;have hni:s.isNil=false:=by cases s <;> first | rfl | cases hm
 have hdo:∀ gK' gF',c.rep x gK' gF'→FnG prog d [g,gK',gF'] (DoR c s x):=fun _ _ hx'=>zi h hni hs hx' hq
 obtain ⟨fn,first,caps,rfl⟩:=h.do_ hni hs;have HV:=Vh (show ∀ (s:c.S) m d g,c.SV s m d g→isFv m∧isFv d from fun _ _ _ _ hv=>h.vals hv);refine GO fun w HT=>?_
 have HD:=Vh hd;have HO:=Vh hdo;obtain ⟨hn0,hn1⟩:=hn;clear hs h hd hp hx hm hq hni hdo;go_enter func85,ntmps85
 go_wp2_with fail
 refine (Qa.use (HD.out) (HT.out) [0,1,2,3] rfl rfl).mono ?_
 rintro e w1 ⟨gs,⟨gK1,gF1,rfl,hx',rfl⟩,Ta⟩;simp only [PU] at Ta;obtain ⟨c1,c2⟩:=Ce2 (Ta.cell 0 0 rfl) 1 2;have f2:=Ta.free 0 0 rfl 2;have hf:=HO.out _ _ hx';clear hx';simp only [GE3] at c1 c2;have HT:=Vh Ta;clear Ta;obtain ⟨fn',first',caps',hv,eg,hf⟩:=hf
 obtain ⟨rfl,rfl,rfl⟩:fn=fn'∧first=first'∧caps=caps':=by
  cases hv
  exact ⟨rfl,rfl,rfl⟩
 have HF:=Vh hf;clear hf hv;go_wp2_with fail
 refine (Qa.use (HF.out) (HT.out.set 0 0 rfl 2 (.int .i64 (n+1))) [1,2,3] rfl rfl).mono ?_
 rintro e w1 ⟨gs,⟨m',d',g',gK',gF',rfl,hs',hx',rfl⟩,Ta⟩;simp only [PU] at Ta;obtain ⟨e0,e1⟩:=Ce2 (Ta.cell 0 0 rfl) 0 1;obtain ⟨f0,f1⟩:=Ce2 (Ta.free 0 0 rfl) 0 1;have hv2:=HV.out _ _ _ _ hs';obtain ⟨st1,st2⟩:=store_fv2 (P:=prog) hv2.1 hv2.2 e0 f0 e1 f1;have HS:=Vh hs';have HX:=Vh hx';clear hs' hx' hv2;have HT:=Vh Ta;clear Ta;go_wp2
 go_ret
 exact ⟨_,⟨m',d',g',gK',gF',rfl,HS.out,HX.out,rfl⟩,(HT.out.set 0 0 rfl 0 _).set 0 0 rfl 1 _⟩
end Cli
namespace Cli
variable {c:Cli}
theorem prog_then_x (h:c.Vals) {s:c.S} {f:c.M} {m d v:Value} {g gm:List Blk} (hn:s.isNil=false) (hs:c.SV s m d g) (hm:c.VM f v gm) :
 Qa prog 196 #[.agg #[m,d],v] [g,gm] fun e gs=>∃ bs br,e=.returned (.agg #[m,.func (.func 237) #[] #[Qd bs,Qd br]])∧gs=[[cl bs 153 #[m,d],cl br 151 #[v]]++g++gm]:=by
 obtain ⟨fn,first,caps,rfl⟩:=h.do_ hn hs;refine GO fun w HT=>?_
 have HS:=Vh hs;have HM:=Vh hm;have HN:=Vh hn;obtain ⟨v1,_⟩:=h.vals hs;obtain ⟨fn0,first0,caps0,rfl⟩:=h.vm hm;clear hm hs h hn;have q1:=fun w=>q4 (.func fn) first caps w
 rcases v1 with rfl | ⟨fn1,first1,caps1,rfl⟩
 all_goals
  go_enter func196,ntmps196
  go_wp2
  exact bodyPost_ret (v:=.agg #[_,_]) (by simp [results,results196,go_sem]) rfl ⟨_,⟨w.heap.size,w.heap.size+1,rfl,rfl⟩,(((HT.out.alloc (k:=w.heap.size) rfl _ _).alloc (k:=w.heap.size+1) (by simp) _ _).alloc0 _).sum⟩
end Cli
structure Nd where
 b:Nat
 v:List Value
def nxV (q:Value):List Nd→Value
 | []=>q
 | a::_=>Qd a.b
@[simp] theorem nxV_nil (q:Value):nxV q []=q:=rfl
@[simp] theorem nxV_cons (q:Value) (a:Nd) (l:List Nd):nxV q (a::l)=Qd a.b:=rfl
theorem qla (q:Value) (l m:List Nd):nxV q (l++m)=nxV (nxV q m) l:=by cases l <;> rfl
theorem qd5 {c:Cli} (h:c.Vals) {s:c.S} {m d:Value} {g:List Blk} (hs:c.SV s m d g) (pb:Nat) (n:Int):Qi prog 150 #[Qd pb] [Cli.progB pb m d n] (.bool s.isNil):=by
 cases hn:s.isNil with
 | true =>
   have:s=.nil:=by cases s <;> first | rfl | cases hn
   subst this;obtain ⟨rfl,rfl,rfl⟩:=Cli.SV.nil hs;refine GO fun w HT=>?_
   have c1:=HT.out.cell 0 0 rfl 1;simp only [Cli.progB,GE3] at c1;have q1:=fun w=>Yl w
   clear hs h;go_enter func150,ntmps150
   go_wp2
   go_ret
   exact ⟨rfl,0,rfl⟩
 | false =>
   obtain ⟨fn,first,caps,rfl⟩:=h.do_ hn hs;refine GO fun w HT=>?_
   have c1:=HT.out.cell 0 0 rfl 1;simp only [Cli.progB,GE3] at c1;have q1:=fun w=>q4 (.func fn) first caps w
   clear hs h;go_enter func150,ntmps150
   go_wp2
   go_ret
   exact ⟨rfl,0,rfl⟩
structure qk7 where
 M:Type
 A:Type
 Y:Type
 α:Type
 E:Type
 le:E→E→Prop
 rep:E→α→List Blk→List Blk→Prop
 VM:E→M→Value→List Blk→Prop
 VA:E→A→Value→List Blk→Prop
 VY:E→Y→Value→List Blk→Prop
 runM:M→α→St M A Y × α
 runA:A→α→α
 mayY:Y→α→Bool
 preM:M→α→Prop
 preA:A→α→Prop
 preY:Y→α→Prop
namespace qk7
variable (c:qk7)
def on (e:c.E):Cli:=⟨c.M,c.A,c.Y,c.α,c.rep e,c.VM e,c.VA e,c.VY e,c.runM,c.runA,c.mayY,c.preM,c.preA,c.preY⟩
abbrev S:Type:=St c.M c.A c.Y
def run (s:c.S) (x:c.α):c.S × c.α:=St.run c.runM c.runA s x
def pre (s:c.S) (x:c.α):Prop:=St.pre c.runM c.runA c.preM c.preA s x
def thn (s:c.S) (m:c.M) (x:c.α):c.S × c.α:=qgz c.runM s m x
def SV (e:c.E) (s:c.S) (m d:Value) (g:List Blk):Prop:=(c.on e).SV s m d g
structure Ok:Prop where
 refl:∀ e,c.le e e
 trans:∀ {a b d},c.le a b→c.le b d→c.le a d
 mm:∀ {e e':c.E} {f:c.M} {v:Value} {g:List Blk},c.le e e'→c.VM e f v g→c.VM e' f v g
 ma:∀ {e e':c.E} {f:c.A} {v:Value} {g:List Blk},c.le e e'→c.VA e f v g→c.VA e' f v g
 m:∀ {e:c.E} {f:c.M} {v:Value} {g gK gF:List Blk} {x:c.α},c.VM e f v g→c.rep e x gK gF→c.preM f x →
  FnG prog v [g,gK,gF] fun en gs=>∃ e',c.le e e'∧∃ m d g' gK' gF',en=.returned (.agg #[m,d])∧c.SV e' (c.runM f x).1 m d g'∧c.rep e' (c.runM f x).2 gK' gF'∧gs=[g',gK',gF']
 a:∀ {e:c.E} {f:c.A} {v:Value} {g gK gF:List Blk} {x:c.α},c.VA e f v g→c.rep e x gK gF→c.preA f x →
  FnG prog v [g,gK,gF] fun en gs=>∃ e',c.le e e'∧∃ gK' gF',en=.returned (.tuple #[])∧c.rep e' (c.runA f x) gK' gF'∧gs=[[],gK',gF']
 y:∀ {e:c.E} {f:c.Y} {v:Value} {g gK gF:List Blk} {x:c.α},c.VY e f v g→c.rep e x gK gF→c.preY f x →
  FnG prog v [g,gK,gF] fun en gs=>∃ gK' gF',en=.returned (.bool (c.mayY f x))∧c.rep e x gK' gF'∧gs=[g,gK',gF']
 v:∀ e,(c.on e).Vals
variable {c}
theorem Ok.do_ (h:c.Ok) {e:c.E} {s:c.S} {m d:Value} {g:List Blk} (hs:s.isNil=false) (v:c.SV e s m d g):∃ fn first caps,d=.func (.func fn) first caps:=(h.v e).do_ hs v
theorem Ok.vals (h:c.Ok) {e:c.E} {s:c.S} {m d:Value} {g:List Blk} (v:c.SV e s m d g):Cli.isFv m∧Cli.isFv d:=(h.v e).vals v
theorem Ok.vm (h:c.Ok) {e:c.E} {f:c.M} {v:Value} {g:List Blk} (hv:c.VM e f v g):∃ fn first caps,v=.func (.func fn) first caps:=(h.v e).vm hv
theorem Ok.va (h:c.Ok) {e:c.E} {f:c.A} {v:Value} {g:List Blk} (hv:c.VA e f v g):∃ fn first caps,v=.func (.func fn) first caps:=(h.v e).va hv
theorem zu (h:c.Ok) {e:c.E} {s:c.S} {f:c.M} {m d v:Value} {g gm gK gF:List Blk} {x:c.α} (hs:c.SV e s m d g) (hm:c.VM e f v gm) (hx:c.rep e x gK gF) (hp:s.isNil=true→c.preM f x) :
 Qa prog 196 #[.agg #[m,d],v] [g,gm,gK,gF] fun en gs=>∃ e',c.le e e'∧∃ m' d' g' gK' gF',en=.returned (.agg #[m',d'])∧c.SV e' (c.thn s f x).1 m' d' g'∧c.rep e' (c.thn s f x).2 gK' gF'∧gs=[g',gK',gF']:=by
 cases hn:s.isNil with
 | true =>
   have:s=.nil:=by cases s <;> first | rfl | cases hn
   subst this;obtain ⟨rfl,rfl,rfl⟩:=Cli.SV.nil (c:=c.on e) hs;obtain ⟨fn,first,caps,rfl,eg,hd⟩:=h.m hm hx (hp rfl);refine GO fun w HT=>?_
   have HD:=Vh hd;have HV:=Vh (show ∀ e' (s:c.S) m d g,c.SV e' s m d g→Cli.isFv m∧Cli.isFv d from fun _ _ _ _ _ hv=>h.vals hv);clear hd hm hx hp hs h;have q1:=fun w=>Yl w
   go_enter func196,ntmps196
   go_wp2_with fail
   refine (Qa.use (HD.out) (((HT.out.alloc (k:=w.heap.size) rfl _ _).alloc (k:=w.heap.size+1) (by simp) _ _).alloc (k:=w.heap.size+1+1) (by simp) _ _) [1,2,3] rfl rfl).mono ?_
   rintro en w1 ⟨gs,⟨e',hle,m',d',g',gK',gF',rfl,hs',hx',rfl⟩,Ta⟩;simp only [PU] at Ta;obtain ⟨c0,c1⟩:=Ce2 (Ta.cell 6 0 rfl) 0 1;obtain ⟨f0,f1⟩:=Ce2 (Ta.free 6 0 rfl) 0 1;have HT:=Vh Ta;have HS:=Vh hs';have HX:=Vh hx';have HLE:=Vh hle;obtain ⟨v1,v2⟩:=HV.out _ _ _ _ _ hs';clear Ta hs' hx' hle;rcases v1 with rfl | ⟨fn1,first1,caps1,rfl⟩ <;> rcases v2 with rfl | ⟨fn2,first2,caps2,rfl⟩
   all_goals
    go_wp2
    exact bodyPost_ret (v:=.agg #[_,_]) (by simp [results,results196,go_sem,c0,c1]) rfl ⟨_,⟨e',HLE.out,_,_,g',gK',gF',rfl,HS.out,HX.out,rfl⟩,((HT.out.set 6 0 rfl 0 _).set 6 0 rfl 1 _).pick [1,2,3] rfl⟩
 | false =>
   have e1:c.thn s f x=(.thn s f,x):=by cases s <;> first | rfl | cases hn
   rw [e1];intro w hw;refine (Qa.use (Cli.prog_then_cons (c:=c.on e) (h.v e) hn hs hm) (TG.refl hw) [0,1] rfl rfl).mono ?_
   rintro en w' ⟨gs,⟨m',d',g',he,hs',rfl⟩,T⟩;exact ⟨_,⟨e,h.refl e,m',d',g',gK,gF,he,hs',hx,rfl⟩,T.pick [0,2,3] rfl⟩
def DoR (c:qk7) (e:c.E) (s:c.S) (x:c.α) (en:Ending) (gs:GH):Prop :=
 ∃ e',c.le e e'∧∃ m d g gK gF,en=.returned (.agg #[m,d])∧c.SV e' (c.run s x).1 m d g∧c.rep e' (c.run s x).2 gK gF∧gs=[g,gK,gF]
theorem qaf (h:c.Ok) {e:c.E} {a:c.A} {m d:Value} {g gK gF:List Blk} {x:c.α} (hs:c.SV e (.row1 a) m d g) (hx:c.rep e x gK gF) (hp:c.preA a x):FnG prog d [g,gK,gF] (DoR c e (.row1 a) x):=by
 obtain ⟨rfl,bf,bl,bi,b,o,D,va,ga,rfl,hva,hD,rfl⟩:=hs;obtain ⟨fn,first,caps,rfl,eg,hd⟩:=h.a hva hx hp;refine ⟨_,_,_,rfl,enters_of func209 (by kernel_rfl) rfl,?_⟩
 refine GO fun w HT=>?_
 have HT:=Vh (HT.out.sum (H':=[[cl bf 1 #[.func (.func fn) first caps]],[cl bl 322 #[.slice (some ⟨b,o,none⟩) 1 1]],[cl bi 3 #[.int .i64 0]],[cl b 1 D],ga,gK,gF]));have c0:=HT.out.cell 0 0 rfl 0;have lt0:=HT.out.lt 0 0 rfl;simp only [] at lt0;have HD:=Vh hd;clear hd hx hp hva h;simp only [GE2] at c0;go_enter func209,ntmps209
 go_wp2_with fail
 refine (Qa.use (HD.out) (HT.out.alloc (k:=w.heap.size) rfl _ _) [4,5,6] rfl rfl).mono ?_
 rintro e w1 ⟨gs,⟨e',hle,gK',gF',rfl,hx',rfl⟩,Ta⟩;simp only [PU] at Ta;have c1:=Ta.cell 1 0 rfl 0;have c2:=Ta.cell 2 0 rfl 0;have HX:=Vh (And.intro hle hx');clear hx' hle c0;simp only [GE2] at c1 c2;have HT:=Vh Ta;clear Ta;go_wp2_with fail
 refine (Qa.use (Cli.row_nil _ _) (HT.out) [] rfl rfl).mono ?_
 rintro e w1 ⟨gs,⟨rfl,rfl⟩,Ta⟩;simp only [PU] at Ta;obtain ⟨e0,e1⟩:=Ce2 (Ta.cell 7 0 rfl) 0 1;obtain ⟨f0,f1⟩:=Ce2 (Ta.free 7 0 rfl) 0 1;clear c1 c2;have HT:=Vh Ta;clear Ta;go_wp2
 exact bodyPost_ret (v:=.agg #[.nilFunc,.nilFunc]) (by simp [results,results209,go_sem,e0,e1]) rfl ⟨_,⟨e',HX.out.1,_,_,[],gK',gF',rfl,⟨rfl,rfl,rfl⟩,HX.out.2,rfl⟩,((HT.out.set 7 0 rfl 0 _).set 7 0 rfl 1 _).pick [4,5,6] rfl⟩
theorem zj (h:c.Ok) {e:c.E} {a a':c.A} {m d:Value} {g gK gF:List Blk} {x:c.α} (hs:c.SV e (.row2 a a') m d g) (hx:c.rep e x gK gF) (hp:c.preA a x):FnG prog d [g,gK,gF] (DoR c e (.row2 a a') x):=by
 obtain ⟨rfl,bf,bl,bi,b,va,va',ga,ga',rfl,hva,hva',rfl⟩:=hs;obtain ⟨fn,first,caps,rfl,eg,hd⟩:=h.a hva hx hp;obtain ⟨fn',first',caps',rfl⟩:=h.va hva';refine ⟨_,_,_,rfl,enters_of func209 (by kernel_rfl) rfl,?_⟩
 refine GO fun w HT=>?_
 have HT:=Vh (HT.out.sum (H':=[[cl bf 1 #[.func (.func fn) first caps]],[cl bl 322 #[.slice (some ⟨b,0,none⟩) 2 2]],[cl bi 3 #[.int .i64 0]],[cl b 1 #[.func (.func fn) first caps,.func (.func fn') first' caps']],ga,gK,gF,ga']));have c0:=HT.out.cell 0 0 rfl 0;have lt0:=HT.out.lt 0 0 rfl;simp only [] at lt0;have HD:=Vh hd;have HA:=Vh (show ∀ e',c.le e e'→c.VA e' a' (.func (.func fn') first' caps') ga' from fun e' hl=>h.ma hl hva');clear hd hx hp hva hva' h;simp only [GE2] at c0;go_enter func209,ntmps209
 go_wp2_with fail
 refine (Qa.use (HD.out) (HT.out.alloc (k:=w.heap.size) rfl _ _) [4,5,6] rfl rfl).mono ?_
 rintro e w1 ⟨gs,⟨e',hle,gK',gF',rfl,hx',rfl⟩,Ta⟩;simp only [PU] at Ta;have c1:=Ta.cell 1 0 rfl 0;have c2:=Ta.cell 2 0 rfl 0;have HX:=Vh (And.intro hle hx');clear hx' hle c0;simp only [GE2] at c1 c2;have HT:=Vh Ta;clear Ta;go_wp2_with fail
 refine (Qa.use (Cli.row_1 (D:=#[.func (.func fn) first caps,.func (.func fn') first' caps']) (o:=1) rfl 1 (.inl rfl)) (HT.out) [3] rfl rfl).mono ?_
 rintro e w1 ⟨gs,⟨bf',bl',bi',rfl,rfl⟩,Ta⟩;simp only [PU] at Ta;obtain ⟨e0,e1⟩:=Ce2 (Ta.cell 8 0 rfl) 0 1;obtain ⟨f0,f1⟩:=Ce2 (Ta.free 8 0 rfl) 0 1;clear c1 c2;have HT:=Vh Ta;clear Ta;go_wp2
 exact bodyPost_ret (v:=.agg #[.nilFunc,_]) (by simp [results,results209,go_sem,e0,e1]) rfl ⟨_,⟨e',HX.out.1,_,_,_,gK',gF',rfl,⟨rfl,bf',bl',bi',b,1,#[.func (.func fn) first caps,.func (.func fn') first' caps'],_,ga',rfl,HA.out e' HX.out.1,rfl,rfl⟩,HX.out.2,rfl⟩,(((HT.out.set 8 0 rfl 0 _).set 8 0 rfl 1 _).pick [3,5,6,7,9,10,11] rfl).sum⟩
theorem qca (h:c.Ok) {e:c.E} {s:c.S} {f:c.M} {m d:Value} {g gK gF:List Blk} {x:c.α} (hs:c.SV e (.thn s f) m d g) (hx:c.rep e x gK gF)
 (hi:∀ {m d:Value} {g:List Blk},c.SV e s m d g→FnG prog d [g,gK,gF] (DoR c e s x)) (hp:(c.run s x).1.isNil=true→c.preM f (c.run s x).2):FnG prog d [g,gK,gF] (DoR c e (.thn s f) x):=by
 obtain ⟨bs,br,ds,vm,gs,gm,rfl,hn,hv,hm,rfl⟩:=hs;obtain ⟨fn,first,caps,rfl,eg,hd⟩:=hi hv;obtain ⟨fn',first',caps',rfl⟩:=h.vm hm
 have key:∀ e1 m' d' g' gK' gF',c.le e e1→c.SV e1 (c.run s x).1 m' d' g'→c.rep e1 (c.run s x).2 gK' gF'→Qa prog 196 #[.agg #[m',d'],.func (.func fn') first' caps'] [g',gm,gK',gF'] (DoR c e (.thn s f) x) :=
  fun e1 m' d' g' gK' gF' hl h1 h2=>(zu h h1 (h.mm hl hm) h2 hp).mono fun en gs ⟨e',hl',hr⟩=>⟨e',h.trans hl hl',hr⟩
 refine ⟨_,_,_,rfl,enters_of func237 (by kernel_rfl) rfl,?_⟩
 refine GO fun w HT=>?_
 have HT:=Vh (HT.out.sum (H':=[[cl bs 153 #[m,.func (.func fn) first caps]],[cl br 151 #[.func (.func fn') first' caps']],gs,gK,gF,gm]));have c0:=HT.out.cell 0 0 rfl 1;have c1:=HT.out.cell 1 0 rfl 0;have lt0:=HT.out.lt 0 0 rfl;have lt1:=HT.out.lt 1 0 rfl;simp only [] at lt0 lt1;have HD:=Vh hd;have HK:=Vh key;have HV:=Vh (show ∀ e' (s:c.S) m d g,c.SV e' s m d g→Cli.isFv m∧Cli.isFv d from fun _ _ _ _ _ hv=>h.vals hv);clear hd hx hp hv hm hn hi key;simp only [GE3] at c0 c1;go_enter func237,ntmps237
 go_wp2_with fail
 have HT:=Vh (HT.out.alloc (k:=w.heap.size) rfl 153 #[.nilFunc,.nilFunc])
 go_region_with (first
  | (go_at_call 196
     refine (Qa.use (HK.out _ _ _ _ _ _ HL1.out HS1.out HX1.out) (HT1.out) [2,5,3,4] rfl rfl).mono ?_
     rintro en w2 ⟨gs,⟨e2,hl2,m2,d2,g2,gK2,gF2,rfl,hs2,hx2,rfl⟩,Ta⟩;simp only [PU] at Ta;obtain ⟨e0,e1⟩:=Ce2 (Ta.cell 6 0 rfl) 0 1;obtain ⟨f0,f1⟩:=Ce2 (Ta.free 6 0 rfl) 0 1;have hv2:=HV.out _ _ _ _ _ hs2;obtain ⟨st1,st2⟩:=Cli.store_fv2 (P:=prog) hv2.1 hv2.2 e0 f0 e1 f1;clear hv2;have HS2:=Vh hs2;have HX2:=Vh (And.intro hl2 hx2);have HT2:=Vh Ta
     clear Ta hs2 hx2 hl2)
  | (refine (Qa.use (HD.out) (HT.out.drew) [2,3,4] rfl rfl).mono ?_
     rintro en w1 ⟨gs,⟨en1,hl1,m1,d1,g1,gK1,gF1,rfl,hs1,hx1,rfl⟩,Ta⟩;simp only [PU] at Ta;have c2:=Ta.cell 1 0 rfl 0;simp only [GE3] at c2;have HS1:=Vh hs1;have HX1:=Vh hx1;have HL1:=Vh hl1;have HT1:=Vh Ta
     clear Ta hs1 hx1 hl1))
 all_goals
  go_wp2
  exact bodyPost_ret (v:=.agg #[_,_]) (by simp [results,results237,go_sem,e0,e1]) rfl ⟨_,⟨e2,HX2.out.1,m2,d2,g2,gK2,gF2,rfl,HS2.out,HX2.out.2,rfl⟩,((HT2.out.set 6 0 rfl 0 _).set 6 0 rfl 1 _).pick [2,5,3] rfl⟩
theorem zi (h:c.Ok):∀ {e:c.E} {s:c.S} {m d:Value} {g gK gF:List Blk} {x:c.α},s.isNil=false→c.SV e s m d g→c.rep e x gK gF→c.pre s x→FnG prog d [g,gK,gF] (DoR c e s x)
 | _,.nil,_,_,_,_,_,_,hn,_,_,_=>by cases hn
 | _,.at none f,_,_,_,_,_,_,_,hs,hx,hp=>h.m hs.2 hx hp
 | _,.at (some y) f,_,_,_,gK,gF,_,_,hs,hx,hp=>by
   obtain ⟨g1,g2,h1,h2,rfl⟩:=hs;obtain ⟨fn,first,caps,hv,eg,hd⟩:=h.m h2 hx hp;refine ⟨fn,first,caps,hv,eg,fun w hw=>?_⟩
   have T:=(TG.refl hw).sum (H':=[g1,g2,gK,gF]);refine (Qa.use hd T [1,2,3] rfl rfl).mono ?_
   rintro en w' ⟨gs,⟨e',hl,m',d',g',gK',gF',he,hs',hx',rfl⟩,T'⟩;exact ⟨_,⟨e',hl,m',d',g',gK',gF',he,hs',hx',rfl⟩,T'.pick [1,2,3] rfl⟩
 | _,.row1 a,_,_,_,_,_,_,_,hs,hx,hp=>qaf h hs hx hp
 | _,.row2 a b,_,_,_,_,_,_,_,hs,hx,hp=>zj h hs hx hp
 | _,.thn s f,_,_,_,_,_,_,_,hs,hx,hp=>by
   have hs':=hs;obtain ⟨bs,br,ds,vm,gs,gm,_,hn,_⟩:=hs';exact qca h hs hx (fun hv=>zi h hn hv hx hp.1) hp.2
def qlb (c:qk7) (e:c.E) (s:c.S) (x:c.α) (g:List Blk) (en:Ending) (gs:GH):Prop:=∃ gK gF,en=.returned (.bool (s.may c.mayY x))∧c.rep e x gK gF∧gs=[g,gK,gF]
theorem may_nil:∀ {e:c.E} {s:c.S} {d:Value} {g:List Blk} {x:c.α},c.Ok→s.isNil=false→c.SV e s .nilFunc d g→s.may c.mayY x=true
 | _,.nil,_,_,_,_,hn,_=>by cases hn
 | _,.at none _,_,_,_,_,_,_=>rfl
 | e,.at (some y) _,_,_,_,h,_,v=>by
   obtain ⟨g1,g2,h1,_⟩:=v;obtain ⟨_,_,_,he⟩:=(h.v e).vy h1;cases he
 | _,.row1 _,_,_,_,_,_,_=>rfl
 | _,.row2 _ _,_,_,_,_,_,_=>rfl
 | _,.thn s _,_,_,_,h,_,v=>by
   obtain ⟨bs,br,ds,vm,gs,gm,_,hn,hv,_⟩:=v;exact may_nil (s:=s) h hn hv
theorem z9 (h:c.Ok):∀ {e:c.E} {s:c.S} {f:Fn} {a b:Array Value} {d:Value} {g gK gF:List Blk} {x:c.α},c.SV e s (.func f a b) d g→c.rep e x gK gF→s.preY c.preY x→FnG prog (.func f a b) [g,gK,gF] (qlb c e s x g)
 | _,.nil,_,_,_,_,_,_,_,_,v,_,_=>by cases v.1
 | _,.at none _,_,_,_,_,_,_,_,_,v,_,_=>by cases v.1
 | _,.at (some y) _,_,_,_,_,_,gK,gF,_,v,hx,hp=>by
   obtain ⟨g1,g2,h1,h2,rfl⟩:=v;obtain ⟨fn,first,caps,hv,eg,hd⟩:=h.y h1 hx hp;refine ⟨fn,first,caps,hv,eg,fun w hw=>?_⟩
   have T:=(TG.refl hw).sum (H':=[g1,g2,gK,gF]);refine (Qa.use hd T [0,2,3] rfl rfl).mono ?_
   rintro en w' ⟨gs,⟨gK',gF',he,hx',rfl⟩,T'⟩;exact ⟨_,⟨gK',gF',he,hx',rfl⟩,TG.sum (H:=[g1,g2,gK',gF']) T'⟩
 | _,.row1 _,_,_,_,_,_,_,_,_,v,_,_=>by cases v.1
 | _,.row2 _ _,_,_,_,_,_,_,_,_,v,_,_=>by cases v.1
 | _,.thn s _,f,a,b,_,_,gK,gF,_,v,hx,hp=>by
   obtain ⟨bs,br,ds,vm,gs,gm,_,hn,hv,_,rfl⟩:=v;obtain ⟨fn,first,caps,hv',eg,hd⟩:=z9 h hv hx hp;refine ⟨fn,first,caps,hv',eg,fun w hw=>?_⟩
   have T:=(TG.refl hw).sum (H':=[[cl bs 153 #[.func f a b,ds],cl br 151 #[vm]],gs,gm,gK,gF]);refine (Qa.use hd T [1,3,4] rfl rfl).mono ?_
   rintro en w' ⟨gs',⟨gK',gF',he,hx',rfl⟩,T'⟩;exact ⟨_,⟨gK',gF',he,hx',rfl⟩,TG.sum (H:=[[cl bs 153 #[.func f a b,ds],cl br 151 #[vm]],gs,gm,gK',gF']) T'⟩
open Cli (progB)
theorem prog_done (h:c.Ok) {e:c.E} {s:c.S} {m d:Value} {g:List Blk} (hs:c.SV e s m d g) (pb:Nat) (n:Int):Qi prog 150 #[Qd pb] [progB pb m d n] (.bool s.isNil) :=
 qd5 (h.v e) hs pb n
theorem Yx (h:c.Ok) {e:c.E} {s:c.S} {m d:Value} {g gK gF:List Blk} {x:c.α} (hs:c.SV e s m d g) (hx:c.rep e x gK gF) (hp:s.preY c.preY x) (pb:Nat) (n:Int) :
 Qa prog 146 #[Qd pb] [progB pb m d n,g,gK,gF] fun en gs=>∃ gK' gF',en=.returned (.bool (s.may c.mayY x))∧c.rep e x gK' gF'∧gs=[progB pb m d n,g,gK',gF']:=by
 have hd:=prog_done h hs pb n;cases hn:s.isNil with
 | true =>
   have:s=.nil:=by cases s <;> first | rfl | cases hn
   subst this;rw [hn] at hd;refine GO fun w HT=>?_
   have HD:=Vh hd;have HX:=Vh hx;clear hs h hd hn hp hx;go_enter func146,ntmps146
   go_wp2_with fail
   refine (Qi.use (HD.out) (HT.out) [0] rfl rfl).mono ?_
   rintro e w1 ⟨rfl,mq,rfl⟩;have HT:=Vh (HT.out.drewN mq);go_wp2
   go_ret
   exact ⟨_,⟨gK,gF,rfl,HX.out,rfl⟩,HT.out⟩
 | false =>
   rw [hn] at hd;obtain ⟨v1,_⟩:=h.vals hs;rcases v1 with rfl | ⟨fn1,first1,caps1,rfl⟩
   ·have hm:=may_nil (x:=x) h hn hs
    rw [hm];refine GO fun w HT=>?_
    have c0:=HT.out.cell 0 0 rfl 0;simp only [progB,GE3] at c0;have HD:=Vh hd;have HX:=Vh hx;have q1:=fun w=>qc3 w
    clear hs h hd hn hp hx hm;go_enter func146,ntmps146
    go_wp2_with fail
    refine (Qi.use (HD.out) (HT.out) [0] rfl rfl).mono ?_
    rintro e w1 ⟨rfl,mq,rfl⟩;have HT:=Vh (HT.out.drewN mq);go_wp2
    go_ret
    exact ⟨_,⟨gK,gF,rfl,HX.out,rfl⟩,HT.out⟩
   ·obtain ⟨fn,first,caps,hv,eg,hf⟩:=z9 h hs hx hp
    obtain ⟨rfl,rfl,rfl⟩:fn1=fn∧first1=first∧caps1=caps:=by
     cases hv
     exact ⟨rfl,rfl,rfl⟩
    obtain ⟨b,hb⟩:∃ b,s.may c.mayY x=b:=⟨_,rfl⟩;unfold qlb at hf;rw [hb] at hf ⊢;refine GO fun w HT=>?_
    have c0:=HT.out.cell 0 0 rfl 0;simp only [progB,GE3] at c0;have HD:=Vh hd;have HF:=Vh hf;have q1:=fun w=>qet (.func fn1) first1 caps1 w
    clear hs h hd hn hp hx hb hf hv;go_enter func146,ntmps146
    go_wp2_with fail
    refine (Qi.use (HD.out) (HT.out) [0] rfl rfl).mono ?_
    rintro e w1 ⟨rfl,mq,rfl⟩;have HT:=Vh (HT.out.drewN mq);go_wp2_with fail
    refine (Qa.use (HF.out) (HT.out) [1,2,3] rfl rfl).mono ?_
    rintro e w1 ⟨gs,⟨gK',gF',rfl,hx',rfl⟩,Ta⟩;simp only [PU] at Ta;have HX:=Vh hx';clear hx';have HT:=Vh Ta;clear Ta;go_wp2
    go_ret
    exact ⟨_,⟨gK',gF',rfl,HX.out,rfl⟩,HT.out⟩
def qk5 (c:qk7) (e:c.E) (pb:Nat) (n:Int) (s:c.S) (x:c.α) (en:Ending) (gs:GH):Prop :=
 ∃ e',c.le e e'∧∃ m d g gK gF,en=.returned (.bool true)∧c.SV e' (c.run s x).1 m d g∧c.rep e' (c.run s x).2 gK gF∧gs=[progB pb m d (n+1),g,gK,gF]
theorem prog_step_no (h:c.Ok) {e:c.E} {s:c.S} {m d:Value} {g gK gF:List Blk} {x:c.α} (hs:c.SV e s m d g) (hx:c.rep e x gK gF) (hp:s.preY c.preY x) (pb:Nat) (n:Int) (hm:s.may c.mayY x=false) :
 Qa prog 85 #[Qd pb] [progB pb m d n,g,gK,gF] fun en gs=>∃ gK' gF',en=.returned (.bool false)∧c.rep e x gK' gF'∧gs=[progB pb m d n,g,gK',gF']:=by
 have hd:=Yx h hs hx hp pb n;rw [hm] at hd;refine GO fun w HT=>?_
 have HD:=Vh hd;clear hs h hd hp hx hm;go_enter func85,ntmps85
 go_wp2_with fail
 refine (Qa.use (HD.out) (HT.out) [0,1,2,3] rfl rfl).mono ?_
 rintro e w1 ⟨gs,⟨gK',gF',rfl,hx',rfl⟩,Ta⟩;simp only [PU] at Ta;have HX:=Vh hx';clear hx';have HT:=Vh Ta;clear Ta;go_wp2
 go_ret
 exact ⟨_,⟨gK',gF',rfl,HX.out,rfl⟩,HT.out⟩
theorem prog_step (h:c.Ok) {e:c.E} {s:c.S} {m d:Value} {g gK gF:List Blk} {x:c.α} (hs:c.SV e s m d g) (hx:c.rep e x gK gF) (hp:s.preY c.preY x) (hq:c.pre s x) (pb:Nat) (n:Int) (hn:0≤n∧n≤1000000000) (hm:s.may c.mayY x=true) :
 Qa prog 85 #[Qd pb] [progB pb m d n,g,gK,gF] (qk5 c e pb n s x):=by
 have hd:=Yx h hs hx hp pb n;rw [hm] at hd;have hni:s.isNil=false:=by cases s <;> first | rfl | cases hm
 have hdo:∀ gK' gF',c.rep e x gK' gF'→FnG prog d [g,gK',gF'] (DoR c e s x):=fun _ _ hx'=>zi h hni hs hx' hq
 obtain ⟨fn,first,caps,rfl⟩:=h.do_ hni hs;have HV:=Vh (show ∀ e' (s:c.S) m d g,c.SV e' s m d g→Cli.isFv m∧Cli.isFv d from fun _ _ _ _ _ hv=>h.vals hv);refine GO fun w HT=>?_
 have HD:=Vh hd;have HO:=Vh hdo;obtain ⟨hn0,hn1⟩:=hn;clear hs h hd hp hx hm hq hni hdo;go_enter func85,ntmps85
 go_wp2_with fail
 refine (Qa.use (HD.out) (HT.out) [0,1,2,3] rfl rfl).mono ?_
 rintro e w1 ⟨gs,⟨gK1,gF1,rfl,hx',rfl⟩,Ta⟩;simp only [PU] at Ta;obtain ⟨c1,c2⟩:=Ce2 (Ta.cell 0 0 rfl) 1 2;have f2:=Ta.free 0 0 rfl 2;have hf:=HO.out _ _ hx';clear hx';simp only [GE3] at c1 c2;have HT:=Vh Ta;clear Ta;obtain ⟨fn',first',caps',hv,eg,hf⟩:=hf
 obtain ⟨rfl,rfl,rfl⟩:fn=fn'∧first=first'∧caps=caps':=by
  cases hv
  exact ⟨rfl,rfl,rfl⟩
 have HF:=Vh hf;clear hf hv;go_wp2_with fail
 refine (Qa.use (HF.out) (HT.out.set 0 0 rfl 2 (.int .i64 (n+1))) [1,2,3] rfl rfl).mono ?_
 rintro e w1 ⟨gs,⟨e',hle,m',d',g',gK',gF',rfl,hs',hx',rfl⟩,Ta⟩;simp only [PU] at Ta;obtain ⟨e0,e1⟩:=Ce2 (Ta.cell 0 0 rfl) 0 1;obtain ⟨f0,f1⟩:=Ce2 (Ta.free 0 0 rfl) 0 1;have hv2:=HV.out _ _ _ _ _ hs';obtain ⟨st1,st2⟩:=Cli.store_fv2 (P:=prog) hv2.1 hv2.2 e0 f0 e1 f1;have HS:=Vh hs';have HX:=Vh (And.intro hle hx');clear hs' hx' hle hv2;have HT:=Vh Ta;clear Ta;go_wp2
 go_ret
 exact ⟨_,⟨e',HX.out.1,m',d',g',gK',gF',rfl,HS.out,HX.out.2,rfl⟩,(HT.out.set 0 0 rfl 0 _).set 0 0 rfl 1 _⟩
end qk7
theorem Qe.basePerm {h h2 h':PH} {w w':World} (a:Qe h w h' w') (p:h.Perm h2):Qe h2 w h' w':=by
 have hm:∀ k,k∈keys h↔k∈keys h2:=fun k=>(p.map Prod.fst).mem_iff
 exact ⟨a.has,a.only.mono (fun k _ hk=>(hm k).1 hk),fun k hk=>(a.news k hk).imp (hm k).1 id⟩
theorem TG.basePerm {h h2 H:GH} {w w':World} (a:TG h w H w') (p:h.flatten.Perm h2.flatten):TG h2 w H w':=Qe.basePerm a (Jq p)
theorem TG.frame {H H' K:GH} {w w':World} (T:TG H w H' w') (hK:Ye (H++K) w):TG (H++K) w (H'++K) w':=by
 have T':Qe _ _ _ _:=T
 have hh:Has (ex H.flatten++ex K.flatten) w:=by
  have:Has (ex (H++K).flatten) w:=hK;rwa [List.flatten_append,Za] at this
 have:=T'.frame hh;rw [← Za,← Za,← List.flatten_append,← List.flatten_append] at this;exact this
theorem Ye.re {H H':GH} {w:World} (h:Ye H w) (p:H.flatten.Perm H'.flatten):Ye H' w:=((TG.refl h).re p).has
theorem Ye.left {H K:GH} {w:World} (h:Ye (H++K) w):Ye H w:=by
 have hh:Has (ex H.flatten++ex K.flatten) w:=by
  have:Has (ex (H++K).flatten) w:=h;rwa [List.flatten_append,Za] at this
 exact hh.left
end
end Go.Proofs.YtcneeepdclgdcaaGreat
