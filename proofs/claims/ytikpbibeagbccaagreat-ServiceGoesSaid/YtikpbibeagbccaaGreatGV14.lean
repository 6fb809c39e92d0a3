import Derived.Test.YtikpbibeagbccaaGreatGV5
import Derived.Test.YtikpbibeagbccaaGreatGV13
set_option maxRecDepth 100000
set_option maxHeartbeats 4000000
namespace Go.Proofs.YtikpbibeagbccaaGreat
set_option linter.unusedVariables false
set_option linter.unusedSimpArgs false
open Go.Proofs.Tryz
section
open Go.RowKit Go.Shelf
inductive St (M A Y:Type) where
 | nil
 | at (y:Option Y) (m:M)
 | row1 (a:A)
 | row2 (a b:A)
 | thn (s:St M A Y) (m:M)
section
variable {M A Y α:Type}
def St.isNil:St M A Y→Bool
 | .nil=>true
 | _=>false
def Xl (runM:M→α→St M A Y × α) (s:St M A Y) (m:M) (x:α):St M A Y × α :=
 match s with
 | .nil=>runM m x
 | s=>(.thn s m,x)
def St.run (runM:M→α→St M A Y × α) (runA:A→α→α):St M A Y→α→St M A Y × α
 | .nil,x=>(.nil,x)
 | .at _ m,x=>runM m x
 | .row1 a,x=>(.nil,runA a x)
 | .row2 a b,x=>(.row1 b,runA a x)
 | .thn s m,x=>Xl runM (s.run runM runA x).1 m (s.run runM runA x).2
def St.pre (runM:M→α→St M A Y × α) (runA:A→α→α) (preM:M→α→Prop) (preA:A→α→Prop):St M A Y→α→Prop
 | .nil,_=>True
 | .at _ m,x=>preM m x
 | .row1 a,x=>preA a x
 | .row2 a _,x=>preA a x
 | .thn s m,x=>s.pre runM runA preM preA x∧((s.run runM runA x).1.isNil=true→preM m (s.run runM runA x).2)
def St.may (mayY:Y→α→Bool):St M A Y→α→Bool
 | .nil,_=>false
 | .at none _,_=>true
 | .at (some y) _,x=>mayY y x
 | .row1 _,_=>true
 | .row2 _ _,_=>true
 | .thn s _,x=>s.may mayY x
def St.preY (preY:Y→α→Prop):St M A Y→α→Prop
 | .at (some y) _,x=>preY y x
 | .thn s _,x=>s.preY preY x
 | _,_=>True
end
theorem TG.sum {h H H':GH} {w w':World} (T:TG h w H w')
 (hs:∀ n:List Blk→Nat,(∀ x y,n (x++y)=n x+n y)→n []=0→(∀ a b l,n (a::b::l)=n [a]+n (b::l))→(∀ a x y,n (a::(x++y))=n [a]+(n x+n y))→n H.flatten=n H'.flatten:=by intro n ha h0 h1 h2;simp only [SU,ha,h0,h1,h2] <;> omega):TG h w H' w':=by
 classical
 refine T.re (List.perm_iff_count.2 fun a=>hs (fun l=>l.count a) (fun x y=>List.count_append) rfl (fun b d l=>?_) (fun b x y=>?_))
 ·show List.count a ([b]++(d::l))=_
  rw [List.count_append]
 ·show List.count a ([b]++(x++y))=_
  rw [List.count_append,List.count_append]
def FnG (P:Program) (v:Value) (gs:GH) (R:Ending→GH→Prop):Prop :=
 ∃ fn first caps,v=.func (.func fn) first caps∧(∀ args w,(callFunc fn args).run P w=.ok (.enter fn args) w)∧Qa P fn (first++caps) gs R
theorem qaa (w:World):(binOp .eql 178 .nilFunc .nilFunc).run prog w=.ok (.bool true) w:=by kernel_rfl
theorem qdv (f:Fn) (a b:Array Value) (w:World):(binOp .eql 178 (.func f a b) .nilFunc).run prog w=.ok (.bool false) w:=by kernel_rfl
theorem qkd (w:World):(binOp .eql 23 .nilFunc .nilFunc).run prog w=.ok (.bool true) w:=by kernel_rfl
theorem qnd (f:Fn) (a b:Array Value) (w:World):(binOp .eql 23 (.func f a b) .nilFunc).run prog w=.ok (.bool false) w:=by kernel_rfl
theorem qv7 (f:Fn) (a b:Array Value) (w:World):(binOp .neq 1 (.func f a b) .nilFunc).run prog w=.ok (.bool true) w:=by kernel_rfl
structure Cli where
 M:Type
 A:Type
 Y:Type
 α:Type
 rep:α→List Blk→List Blk→Prop
 VM:M→Value→List Blk→Prop
 VA:A→Value→List Blk→Prop
 VY:Y→Value→List Blk→Prop
 runM:M→α→St M A Y × α
 runA:A→α→α
 mayY:Y→α→Bool
 preM:M→α→Prop
 preA:A→α→Prop
 preY:Y→α→Prop
namespace Cli
variable (c:Cli)
abbrev S:Type:=St c.M c.A c.Y
def run (s:c.S) (x:c.α):c.S × c.α:=St.run c.runM c.runA s x
def pre (s:c.S) (x:c.α):Prop:=St.pre c.runM c.runA c.preM c.preA s x
def thn (s:c.S) (m:c.M) (x:c.α):c.S × c.α:=Xl c.runM s m x
def SV:c.S→Value→Value→List Blk→Prop
 | .nil,m,d,g=>m=.nilFunc∧d=.nilFunc∧g=[]
 | .at none f,m,d,g=>m=.nilFunc∧c.VM f d g
 | .at (some y) f,m,d,g=>∃ g1 g2,c.VY y m g1∧c.VM f d g2∧g=g1++g2
 | .row1 a,m,d,g=>m=.nilFunc∧∃ bf bl bi b o D va ga,d=.func (.func 166) #[] #[Qb bf,Qb bl,Qb bi]∧c.VA a va ga∧D[o]?=some va ∧
    g=[cl bf 1 #[va],cl bl 282 #[.slice (some ⟨b,o,none⟩) 1 1],cl bi 3 #[.int .i64 0],cl b 1 D]++ga
 | .row2 a a',m,d,g=>m=.nilFunc∧∃ bf bl bi b va va' ga ga',d=.func (.func 166) #[] #[Qb bf,Qb bl,Qb bi]∧c.VA a va ga∧c.VA a' va' ga' ∧
    g=[cl bf 1 #[va],cl bl 282 #[.slice (some ⟨b,0,none⟩) 2 2],cl bi 3 #[.int .i64 0],cl b 1 #[va,va']]++ga++ga'
 | .thn s f,m,d,g=>∃ bs br ds vm gs gm,d=.func (.func 167) #[] #[Qb bs,Qb br]∧s.isNil=false∧SV s m ds gs∧c.VM f vm gm ∧
    g=[cl bs 180 #[m,ds],cl br 178 #[vm]]++gs++gm
structure Vals:Prop where
 vm:∀ {f:c.M} {v:Value} {g:List Blk},c.VM f v g→∃ fn first caps,v=.func (.func fn) first caps
 va:∀ {f:c.A} {v:Value} {g:List Blk},c.VA f v g→∃ fn first caps,v=.func (.func fn) first caps
 vy:∀ {f:c.Y} {v:Value} {g:List Blk},c.VY f v g→∃ fn first caps,v=.func (.func fn) first caps
structure Ok:Prop where
 m:∀ {f:c.M} {v:Value} {g gK gF:List Blk} {x:c.α},c.VM f v g→c.rep x gK gF→c.preM f x →
  FnG prog v [g,gK,gF] fun e gs=>∃ m d g' gK' gF',e=.returned (.agg #[m,d])∧c.SV (c.runM f x).1 m d g'∧c.rep (c.runM f x).2 gK' gF'∧gs=[g',gK',gF']
 a:∀ {f:c.A} {v:Value} {g gK gF:List Blk} {x:c.α},c.VA f v g→c.rep x gK gF→c.preA f x →
  FnG prog v [g,gK,gF] fun e gs=>∃ gK' gF',e=.returned (.tuple #[])∧c.rep (c.runA f x) gK' gF'∧gs=[[],gK',gF']
 y:∀ {f:c.Y} {v:Value} {g gK gF:List Blk} {x:c.α},c.VY f v g→c.rep x gK gF→c.preY f x →
  FnG prog v [g,gK,gF] fun e gs=>∃ gK' gF',e=.returned (.bool (c.mayY f x))∧c.rep x gK' gF'∧gs=[g,gK',gF']
 v:c.Vals
variable {c}
theorem SV.nil {m d:Value} {g:List Blk} (h:c.SV .nil m d g):m=.nilFunc∧d=.nilFunc∧g=[]:=h
theorem Ok.vm (h:c.Ok) {f:c.M} {v:Value} {g:List Blk} (hv:c.VM f v g):∃ fn first caps,v=.func (.func fn) first caps:=h.v.vm hv
theorem Ok.va (h:c.Ok) {f:c.A} {v:Value} {g:List Blk} (hv:c.VA f v g):∃ fn first caps,v=.func (.func fn) first caps:=h.v.va hv
theorem Ok.vy (h:c.Ok) {f:c.Y} {v:Value} {g:List Blk} (hv:c.VY f v g):∃ fn first caps,v=.func (.func fn) first caps:=h.v.vy hv
theorem Vals.do_ (h:c.Vals) {s:c.S} {m d:Value} {g:List Blk} (hs:s.isNil=false) (v:c.SV s m d g):∃ fn first caps,d=.func (.func fn) first caps:=by
 cases s with
 | nil=>cases hs
 | «at» y f =>
   cases y with
   | none=>exact h.vm v.2
   | some y=>obtain ⟨g1,g2,_,h2,_⟩:=v;exact h.vm h2
 | row1 a=>obtain ⟨_,bf,bl,bi,b,o,D,va,ga,rfl,_⟩:=v;exact ⟨_,_,_,rfl⟩
 | row2 a a'=>obtain ⟨_,bf,bl,bi,b,va,va',ga,ga',rfl,_⟩:=v;exact ⟨_,_,_,rfl⟩
 | thn s f=>obtain ⟨bs,br,ds,vm,gs,gm,rfl,_⟩:=v;exact ⟨_,_,_,rfl⟩
def isFv (v:Value):Prop:=v=.nilFunc∨∃ fn first caps,v=.func (.func fn) first caps
theorem qmx {P:Program} {v u:Value} (hv:isFv v) {a:Addr} {w:World} (hc:w.cell? a=some u) (hf:w.frozen? a=false):(store a v).run P w=.ok () (w.setCell a v):=by
 rcases hv with rfl | ⟨fn,x,y,rfl⟩ <;> (rw [run_store P w a _ .plain rfl];simp [stored,hc,hf])
theorem store_fv2 {P:Program} {v v' u u':Value} (hv:isFv v) (hv':isFv v') {b:Nat} {w:World} (hc:w.cell? ⟨b,0,none⟩=some u) (hf:w.frozen? ⟨b,0,none⟩=false) (hc':w.cell? ⟨b,1,none⟩=some u') (hf':w.frozen? ⟨b,1,none⟩=false) :
 (store ⟨b,0,none⟩ v).run P w=.ok () (w.setCell ⟨b,0,none⟩ v)∧(store ⟨b,1,none⟩ v').run P (w.setCell ⟨b,0,none⟩ v)=.ok () ((w.setCell ⟨b,0,none⟩ v).setCell ⟨b,1,none⟩ v') :=
 have e1:(w.setCell ⟨b,0,none⟩ v).cell? ⟨b,1,none⟩=some u':=by simp [go_sem,hc']
 have e2:(w.setCell ⟨b,0,none⟩ v).frozen? ⟨b,1,none⟩=false:=by simp [go_sem,hf']
 ⟨qmx hv hc hf,qmx hv' e1 e2⟩
theorem Vals.vals (h:c.Vals):∀ {s:c.S} {m d:Value} {g:List Blk},c.SV s m d g→isFv m∧isFv d
 | .nil,_,_,_,v=>⟨.inl v.1,.inl v.2.1⟩
 | .at none f,_,_,_,v=>⟨.inl v.1,.inr (h.vm v.2)⟩
 | .at (some y) f,_,_,_,v=>by obtain ⟨g1,g2,h1,h2,_⟩:=v;exact ⟨.inr (h.vy h1),.inr (h.vm h2)⟩
 | .row1 a,_,_,_,v=>by obtain ⟨h0,bf,bl,bi,b,o,D,va,ga,rfl,_⟩:=v;exact ⟨.inl h0,.inr ⟨_,_,_,rfl⟩⟩
 | .row2 a a',_,_,_,v=>by obtain ⟨h0,bf,bl,bi,b,va,va',ga,ga',rfl,_⟩:=v;exact ⟨.inl h0,.inr ⟨_,_,_,rfl⟩⟩
 | .thn s f,_,_,_,v=>by
   obtain ⟨bs,br,ds,vm,gs,gm,rfl,_,hv,_⟩:=v;exact ⟨(Vals.vals h hv).1,.inr ⟨_,_,_,rfl⟩⟩
theorem Ok.do_ (h:c.Ok) {s:c.S} {m d:Value} {g:List Blk} (hs:s.isNil=false) (v:c.SV s m d g):∃ fn first caps,d=.func (.func fn) first caps:=h.v.do_ hs v
theorem Ok.vals (h:c.Ok) {s:c.S} {m d:Value} {g:List Blk} (v:c.SV s m d g):isFv m∧isFv d:=h.v.vals v
theorem prog_then_cons (h:c.Vals) {s:c.S} {f:c.M} {m d v:Value} {g gm:List Blk} (hn:s.isNil=false) (hs:c.SV s m d g) (hm:c.VM f v gm) :
 Qa prog 140 #[.agg #[m,d],v] [g,gm] fun e gs=>∃ m' d' g',e=.returned (.agg #[m',d'])∧c.SV (.thn s f) m' d' g'∧gs=[g']:=by
 obtain ⟨fn,first,caps,rfl⟩:=h.do_ hn hs;refine GO fun w HT=>?_
 have HS:=Vh hs;have HM:=Vh hm;have HN:=Vh hn;obtain ⟨v1,_⟩:=h.vals hs;obtain ⟨fn0,first0,caps0,rfl⟩:=h.vm hm;clear hm hs h hn;have q1:=fun w=>qdv (.func fn) first caps w
 rcases v1 with rfl | ⟨fn1,first1,caps1,rfl⟩
 all_goals
  go_enter func140,ntmps140
  go_wp2
  exact bodyPost_ret (v:=.agg #[_,_]) (by simp [results,results140,go_sem]) rfl ⟨_,⟨_,_,_,rfl,⟨w.heap.size,w.heap.size+1,_,_,g,gm,rfl,HN.out,HS.out,HM.out,rfl⟩,rfl⟩,(((HT.out.alloc (k:=w.heap.size) rfl _ _).alloc (k:=w.heap.size+1) (by simp) _ _).alloc0 _).sum⟩
theorem qeg (h:c.Ok) {s:c.S} {f:c.M} {m d v:Value} {g gm gK gF:List Blk} {x:c.α} (hs:c.SV s m d g) (hm:c.VM f v gm) (hx:c.rep x gK gF) (hp:s.isNil=true→c.preM f x) :
 Qa prog 140 #[.agg #[m,d],v] [g,gm,gK,gF] fun e gs=>∃ m' d' g' gK' gF',e=.returned (.agg #[m',d'])∧c.SV (c.thn s f x).1 m' d' g'∧c.rep (c.thn s f x).2 gK' gF'∧gs=[g',gK',gF']:=by
 cases hn:s.isNil with
 | true =>
   have:s=.nil:=by cases s <;> first | rfl | cases hn
   subst this;obtain ⟨rfl,rfl,rfl⟩:=SV.nil hs;obtain ⟨fn,first,caps,rfl,eg,hd⟩:=h.m hm hx (hp rfl);refine GO fun w HT=>?_
   have HD:=Vh hd;clear hd hm hx hp hs;have q1:=fun w=>qaa w
   go_enter func140,ntmps140
   go_wp2_with fail
   refine (Qa.use (HD.out) (((HT.out.alloc (k:=w.heap.size) rfl _ _).alloc (k:=w.heap.size+1) (by simp) _ _).alloc (k:=w.heap.size+1+1) (by simp) _ _) [1,2,3] rfl rfl).mono ?_
   rintro e w1 ⟨gs,⟨m',d',g',gK',gF',rfl,hs',hx',rfl⟩,Ta⟩;simp only [PU] at Ta;obtain ⟨c0,c1⟩:=Ce2 (Ta.cell 6 0 rfl) 0 1;obtain ⟨f0,f1⟩:=Ce2 (Ta.free 6 0 rfl) 0 1;have HT:=Vh Ta;have HS:=Vh hs';have HX:=Vh hx';obtain ⟨v1,v2⟩:=h.vals hs';clear Ta hs' hx' h;rcases v1 with rfl | ⟨fn1,first1,caps1,rfl⟩ <;> rcases v2 with rfl | ⟨fn2,first2,caps2,rfl⟩
   all_goals
    go_wp2
    exact bodyPost_ret (v:=.agg #[_,_]) (by simp [results,results140,go_sem,c0,c1]) rfl ⟨_,⟨_,_,g',gK',gF',rfl,HS.out,HX.out,rfl⟩,((HT.out.set 6 0 rfl 0 _).set 6 0 rfl 1 _).pick [1,2,3] rfl⟩
 | false =>
   have e1:c.thn s f x=(.thn s f,x):=by cases s <;> first | rfl | cases hn
   rw [e1];intro w hw;refine (Qa.use (prog_then_cons h.v hn hs hm) (TG.refl hw) [0,1] rfl rfl).mono ?_
   rintro e w' ⟨gs,⟨m',d',g',he,hs',rfl⟩,T⟩;exact ⟨_,⟨m',d',g',gK,gF,he,hs',hx,rfl⟩,T.pick [0,2,3] rfl⟩
def DoR (c:Cli) (s:c.S) (x:c.α) (e:Ending) (gs:GH):Prop :=
 ∃ m d g gK gF,e=.returned (.agg #[m,d])∧c.SV (c.run s x).1 m d g∧c.rep (c.run s x).2 gK gF∧gs=[g,gK,gF]
theorem row_nil (a:Option Addr) (n:Nat):Qa prog 138 #[.slice a 0 n] [] fun e gs=>e=.returned (.agg #[.nilFunc,.nilFunc])∧gs=[]:=by
 refine GO fun w HT=>?_
 go_enter func138,ntmps138
 go_wp2
 have T1:=(HT.out.alloc (k:=w.heap.size) rfl 282 #[.slice a 0 n]).alloc (k:=w.heap.size+1) (by simp) 180 #[.nilFunc,.nilFunc]
 go_loopw [7] (fun i wr=>i=.int .i64 0∧TG [] w [[cl w.heap.size 282 #[.slice a 0 n]],[cl (w.heap.size+1) 180 #[.nilFunc,.nilFunc]]] wr) (fun _ _=>0)
 case atStart=>exact ⟨rfl,T1⟩
 case round =>
  obtain ⟨rfl,T⟩:=hrel;obtain ⟨c0,c1⟩:=Ce2 (T.cell 1 0 rfl) 0 1;obtain ⟨f0,f1⟩:=Ce2 (T.free 1 0 rfl) 0 1;have HT:=Vh T;clear T T1;go_wp2
  exact bodyPost_ret (v:=.agg #[.nilFunc,.nilFunc]) (by simp [results,results138,go_sem,c0,c1]) rfl ⟨_,⟨rfl,rfl⟩,((HT.out.set 1 0 rfl 0 _).set 1 0 rfl 1 _).pick [] rfl⟩
theorem row_1 {b o:Nat} {D:Array Value} {fn:FuncId} {first caps:Array Value} (hD:D[o]?=some (.func (.func fn) first caps)) (n:Nat) (h:n=1∨n=2) :
 Qa prog 138 #[.slice (some ⟨b,o,none⟩) n n] [[cl b 1 D]] fun e gs=>∃ bf bl bi,e=.returned (.agg #[.nilFunc,.func (.func 166) #[] #[Qb bf,Qb bl,Qb bi]]) ∧
  gs=[[cl b 1 D],[cl bf 1 #[.func (.func fn) first caps]],[cl bl 282 #[.slice (some ⟨b,o,none⟩) n n]],[cl bi 3 #[.int .i64 0]]]:=by
 refine GO fun w HT=>?_
 have hn:0<n:=by omega
 have q:=fun w=>qv7 (.func fn) first caps w
 clear h;go_enter func138,ntmps138
 go_wp2
 have T1:=(HT.out.alloc (k:=w.heap.size) rfl 282 #[.slice (some ⟨b,o,none⟩) n n]).alloc (k:=w.heap.size+1) (by simp) 180 #[.nilFunc,.nilFunc]
 go_loopw [7] (fun i wr=>i=.int .i64 0∧TG [[cl b 1 D]] w [[cl b 1 D],[cl w.heap.size 282 #[.slice (some ⟨b,o,none⟩) n n]],[cl (w.heap.size+1) 180 #[.nilFunc,.nilFunc]]] wr) (fun _ _=>0)
 case atStart=>exact ⟨rfl,T1⟩
 case round =>
  obtain ⟨rfl,T⟩:=hrel;clear T1;obtain ⟨rb,hrb⟩:∃ rb,rb=w.heap.size+1:=⟨_,rfl⟩;obtain ⟨lb,hlb⟩:∃ lb,lb=w.heap.size:=⟨_,rfl⟩;rw [← hrb,← hlb] at T;rw [← hrb,← hlb];clear hrb hlb;have e0:=(T.cell 0 0 rfl o).trans hD;obtain ⟨c0,c1⟩:=Ce2 (T.cell 2 0 rfl) 0 1;obtain ⟨f0,f1⟩:=Ce2 (T.free 2 0 rfl) 0 1;have lt:=T.lt 2 0 rfl;simp only [] at lt;have HT:=Vh T;clear T hD;go_wp2
  exact bodyPost_ret (v:=.agg #[.nilFunc,.func (.func 166) #[] #[Qb (wr.heap.size+1),Qb lb,Qb wr.heap.size]]) (by simp [results,results138,go_sem,c0,c1,lt]) rfl ⟨_,⟨_,_,_,rfl,rfl⟩,((((HT.out.set 2 0 rfl 0 _).set 2 0 rfl 1 _).alloc (k:=wr.heap.size) (by simp) _ _).alloc (k:=wr.heap.size+1) (by simp) _ _).pick [0,4,1,3] rfl⟩
theorem qd2 (h:c.Ok) {a:c.A} {m d:Value} {g gK gF:List Blk} {x:c.α} (hs:c.SV (.row1 a) m d g) (hx:c.rep x gK gF) (hp:c.preA a x):FnG prog d [g,gK,gF] (DoR c (.row1 a) x):=by
 obtain ⟨rfl,bf,bl,bi,b,o,D,va,ga,rfl,hva,hD,rfl⟩:=hs;obtain ⟨fn,first,caps,rfl,eg,hd⟩:=h.a hva hx hp;refine ⟨_,_,_,rfl,enters_of func166 (by kernel_rfl) rfl,?_⟩
 refine GO fun w HT=>?_
 have HT:=Vh (HT.out.sum (H':=[[cl bf 1 #[.func (.func fn) first caps]],[cl bl 282 #[.slice (some ⟨b,o,none⟩) 1 1]],[cl bi 3 #[.int .i64 0]],[cl b 1 D],ga,gK,gF]));have c0:=HT.out.cell 0 0 rfl 0;have lt0:=HT.out.lt 0 0 rfl;simp only [] at lt0;have HD:=Vh hd;clear hd hx hp hva h;simp only [GE2] at c0;go_enter func166,ntmps166
 go_wp2_with fail
 refine (Qa.use (HD.out) (HT.out.alloc (k:=w.heap.size) rfl _ _) [4,5,6] rfl rfl).mono ?_
 rintro e w1 ⟨gs,⟨gK',gF',rfl,hx',rfl⟩,Ta⟩;simp only [PU] at Ta;have c1:=Ta.cell 1 0 rfl 0;have c2:=Ta.cell 2 0 rfl 0;have HX:=Vh hx';clear hx' c0;simp only [GE2] at c1 c2;have HT:=Vh Ta;clear Ta;go_wp2_with fail
 refine (Qa.use (row_nil _ _) (HT.out) [] rfl rfl).mono ?_
 rintro e w1 ⟨gs,⟨rfl,rfl⟩,Ta⟩;simp only [PU] at Ta;obtain ⟨e0,e1⟩:=Ce2 (Ta.cell 7 0 rfl) 0 1;obtain ⟨f0,f1⟩:=Ce2 (Ta.free 7 0 rfl) 0 1;clear c1 c2;have HT:=Vh Ta;clear Ta;go_wp2
 exact bodyPost_ret (v:=.agg #[.nilFunc,.nilFunc]) (by simp [results,results166,go_sem,e0,e1]) rfl ⟨_,⟨_,_,[],gK',gF',rfl,⟨rfl,rfl,rfl⟩,HX.out,rfl⟩,((HT.out.set 7 0 rfl 0 _).set 7 0 rfl 1 _).pick [4,5,6] rfl⟩
theorem qe6 (h:c.Ok) {a a':c.A} {m d:Value} {g gK gF:List Blk} {x:c.α} (hs:c.SV (.row2 a a') m d g) (hx:c.rep x gK gF) (hp:c.preA a x):FnG prog d [g,gK,gF] (DoR c (.row2 a a') x):=by
 obtain ⟨rfl,bf,bl,bi,b,va,va',ga,ga',rfl,hva,hva',rfl⟩:=hs;obtain ⟨fn,first,caps,rfl,eg,hd⟩:=h.a hva hx hp;obtain ⟨fn',first',caps',rfl⟩:=h.va hva';refine ⟨_,_,_,rfl,enters_of func166 (by kernel_rfl) rfl,?_⟩
 refine GO fun w HT=>?_
 have HT:=Vh (HT.out.sum (H':=[[cl bf 1 #[.func (.func fn) first caps]],[cl bl 282 #[.slice (some ⟨b,0,none⟩) 2 2]],[cl bi 3 #[.int .i64 0]],[cl b 1 #[.func (.func fn) first caps,.func (.func fn') first' caps']],ga,gK,gF,ga']));have c0:=HT.out.cell 0 0 rfl 0;have lt0:=HT.out.lt 0 0 rfl;simp only [] at lt0;have HD:=Vh hd;have HA:=Vh hva';clear hd hx hp hva hva' h;simp only [GE2] at c0;go_enter func166,ntmps166
 go_wp2_with fail
 refine (Qa.use (HD.out) (HT.out.alloc (k:=w.heap.size) rfl _ _) [4,5,6] rfl rfl).mono ?_
 rintro e w1 ⟨gs,⟨gK',gF',rfl,hx',rfl⟩,Ta⟩;simp only [PU] at Ta;have c1:=Ta.cell 1 0 rfl 0;have c2:=Ta.cell 2 0 rfl 0;have HX:=Vh hx';clear hx' c0;simp only [GE2] at c1 c2;have HT:=Vh Ta;clear Ta;go_wp2_with fail
 refine (Qa.use (row_1 (D:=#[.func (.func fn) first caps,.func (.func fn') first' caps']) (o:=1) rfl 1 (.inl rfl)) (HT.out) [3] rfl rfl).mono ?_
 rintro e w1 ⟨gs,⟨bf',bl',bi',rfl,rfl⟩,Ta⟩;simp only [PU] at Ta;obtain ⟨e0,e1⟩:=Ce2 (Ta.cell 8 0 rfl) 0 1;obtain ⟨f0,f1⟩:=Ce2 (Ta.free 8 0 rfl) 0 1;clear c1 c2;have HT:=Vh Ta;clear Ta;go_wp2
 exact bodyPost_ret (v:=.agg #[.nilFunc,_]) (by simp [results,results166,go_sem,e0,e1]) rfl ⟨_,⟨_,_,_,gK',gF',rfl,⟨rfl,bf',bl',bi',b,1,#[.func (.func fn) first caps,.func (.func fn') first' caps'],_,ga',rfl,HA.out,rfl,rfl⟩,HX.out,rfl⟩,(((HT.out.set 8 0 rfl 0 _).set 8 0 rfl 1 _).pick [3,5,6,7,9,10,11] rfl).sum⟩
theorem qgw (h:c.Ok) {s:c.S} {f:c.M} {m d:Value} {g gK gF:List Blk} {x:c.α} (hs:c.SV (.thn s f) m d g) (hx:c.rep x gK gF)
 (hi:∀ {m d:Value} {g:List Blk},c.SV s m d g→FnG prog d [g,gK,gF] (DoR c s x)) (hp:(c.run s x).1.isNil=true→c.preM f (c.run s x).2):FnG prog d [g,gK,gF] (DoR c (.thn s f) x):=by
 obtain ⟨bs,br,ds,vm,gs,gm,rfl,hn,hv,hm,rfl⟩:=hs;obtain ⟨fn,first,caps,rfl,eg,hd⟩:=hi hv;obtain ⟨fn',first',caps',rfl⟩:=h.vm hm
 have key:∀ m' d' g' gK' gF',c.SV (c.run s x).1 m' d' g'→c.rep (c.run s x).2 gK' gF'→Qa prog 140 #[.agg #[m',d'],.func (.func fn') first' caps'] [g',gm,gK',gF'] (DoR c (.thn s f) x) :=
  fun m' d' g' gK' gF' h1 h2=>qeg h h1 hm h2 hp
 refine ⟨_,_,_,rfl,enters_of func167 (by kernel_rfl) rfl,?_⟩
 refine GO fun w HT=>?_
 have HT:=Vh (HT.out.sum (H':=[[cl bs 180 #[m,.func (.func fn) first caps]],[cl br 178 #[.func (.func fn') first' caps']],gs,gK,gF,gm]));have c0:=HT.out.cell 0 0 rfl 1;have c1:=HT.out.cell 1 0 rfl 0;have lt0:=HT.out.lt 0 0 rfl;have lt1:=HT.out.lt 1 0 rfl;simp only [] at lt0 lt1;have HD:=Vh hd;have HK:=Vh key;have HV:=Vh (show ∀ (s:c.S) m d g,c.SV s m d g→isFv m∧isFv d from fun _ _ _ _ hv=>h.vals hv);clear hd hx hp hv hm hn hi key;simp only [GE3] at c0 c1;go_enter func167,ntmps167
 go_wp2_with fail
 have HT:=Vh (HT.out.alloc (k:=w.heap.size) rfl 180 #[.nilFunc,.nilFunc])
 go_region_with (first
  | (go_at_call 140
     refine (Qa.use (HK.out _ _ _ _ _ HS1.out HX1.out) (HT1.out) [2,5,3,4] rfl rfl).mono ?_
     rintro e w2 ⟨gs,⟨m2,d2,g2,gK2,gF2,rfl,hs2,hx2,rfl⟩,Ta⟩;simp only [PU] at Ta;obtain ⟨e0,e1⟩:=Ce2 (Ta.cell 6 0 rfl) 0 1;obtain ⟨f0,f1⟩:=Ce2 (Ta.free 6 0 rfl) 0 1;have hv2:=HV.out _ _ _ _ hs2;obtain ⟨st1,st2⟩:=store_fv2 (P:=prog) hv2.1 hv2.2 e0 f0 e1 f1;clear hv2;have HS2:=Vh hs2;have HX2:=Vh hx2;have HT2:=Vh Ta
     clear Ta hs2 hx2)
  | (refine (Qa.use (HD.out) (HT.out.drew) [2,3,4] rfl rfl).mono ?_
     rintro e w1 ⟨gs,⟨m1,d1,g1,gK1,gF1,rfl,hs1,hx1,rfl⟩,Ta⟩;simp only [PU] at Ta;have c2:=Ta.cell 1 0 rfl 0;simp only [GE3] at c2;have HS1:=Vh hs1;have HX1:=Vh hx1;have HT1:=Vh Ta
     clear Ta hs1 hx1))
 all_goals
  go_wp2
  exact bodyPost_ret (v:=.agg #[_,_]) (by simp [results,results167,go_sem,e0,e1]) rfl ⟨_,⟨m2,d2,g2,gK2,gF2,rfl,HS2.out,HX2.out,rfl⟩,((HT2.out.set 6 0 rfl 0 _).set 6 0 rfl 1 _).pick [2,5,3] rfl⟩
theorem qei (h:c.Ok):∀ {s:c.S} {m d:Value} {g gK gF:List Blk} {x:c.α},s.isNil=false→c.SV s m d g→c.rep x gK gF→c.pre s x→FnG prog d [g,gK,gF] (DoR c s x)
 | .nil,_,_,_,_,_,_,hn,_,_,_=>by cases hn
 | .at none f,_,_,_,_,_,_,_,hs,hx,hp=>h.m hs.2 hx hp
 | .at (some y) f,_,_,_,gK,gF,_,_,hs,hx,hp=>by
   obtain ⟨g1,g2,h1,h2,rfl⟩:=hs;obtain ⟨fn,first,caps,hv,eg,hd⟩:=h.m h2 hx hp;refine ⟨fn,first,caps,hv,eg,fun w hw=>?_⟩
   have T:=(TG.refl hw).sum (H':=[g1,g2,gK,gF]);refine (Qa.use hd T [1,2,3] rfl rfl).mono ?_
   rintro e w' ⟨gs,⟨m',d',g',gK',gF',he,hs',hx',rfl⟩,T'⟩;exact ⟨_,⟨m',d',g',gK',gF',he,hs',hx',rfl⟩,T'.pick [1,2,3] rfl⟩
 | .row1 a,_,_,_,_,_,_,_,hs,hx,hp=>qd2 h hs hx hp
 | .row2 a b,_,_,_,_,_,_,_,hs,hx,hp=>qe6 h hs hx hp
 | .thn s f,_,_,_,_,_,_,_,hs,hx,hp=>by
   have hs':=hs;obtain ⟨bs,br,ds,vm,gs,gm,_,hn,_⟩:=hs';exact qgw h hs hx (fun hv=>qei h hn hv hx hp.1) hp.2
end Cli
namespace Cli
variable {c:Cli}
def progB (pb:Nat) (m d:Value) (n:Int):List Blk:=[cl pb 224 #[m,d,.int .i64 n]]
theorem prog_new (h:c.Ok) {s:c.S} {m d:Value} {g:List Blk} (hs:c.SV s m d g):Qa prog 86 #[.agg #[m,d]] [g] fun e gs=>∃ pb,e=.returned (Qb pb)∧gs=[g,progB pb m d 0]:=by
 obtain ⟨v1,v2⟩:=h.vals hs;refine GO fun w HT=>?_
 clear hs h;rcases v1 with rfl | ⟨fn1,first1,caps1,rfl⟩ <;> rcases v2 with rfl | ⟨fn2,first2,caps2,rfl⟩
 all_goals
  go_enter func86,ntmps86
  go_wp2
  go_ret
  exact ⟨_,⟨_,rfl,rfl⟩,(HT.out.alloc0 _).alloc (k:=w.heap.size+1) (by simp) _ _⟩
theorem prog_done (h:c.Ok) {s:c.S} {m d:Value} {g:List Blk} (hs:c.SV s m d g) (pb:Nat) (n:Int):Qe prog 330 #[Qb pb] [progB pb m d n] (.bool s.isNil):=by
 cases hn:s.isNil with
 | true =>
   have:s=.nil:=by cases s <;> first | rfl | cases hn
   subst this;obtain ⟨rfl,rfl,rfl⟩:=SV.nil hs;refine GO fun w HT=>?_
   have c1:=HT.out.cell 0 0 rfl 1;simp only [progB,GE3] at c1;have q1:=fun w=>qaa w
   clear hs h;go_enter func330,ntmps330
   go_wp2
   go_ret
   exact ⟨rfl,0,rfl⟩
 | false =>
   obtain ⟨fn,first,caps,rfl⟩:=h.do_ hn hs;refine GO fun w HT=>?_
   have c1:=HT.out.cell 0 0 rfl 1;simp only [progB,GE3] at c1;have q1:=fun w=>qdv (.func fn) first caps w
   clear hs h;go_enter func330,ntmps330
   go_wp2
   go_ret
   exact ⟨rfl,0,rfl⟩
def q1t (c:Cli) (s:c.S) (x:c.α) (g:List Blk) (e:Ending) (gs:GH):Prop:=∃ gK gF,e=.returned (.bool (s.may c.mayY x))∧c.rep x gK gF∧gs=[g,gK,gF]
theorem may_nil:∀ {s:c.S} {d:Value} {g:List Blk} {x:c.α},c.Ok→s.isNil=false→c.SV s .nilFunc d g→s.may c.mayY x=true
 | .nil,_,_,_,_,hn,_=>by cases hn
 | .at none _,_,_,_,_,_,_=>rfl
 | .at (some y) _,_,_,_,h,_,v=>by
   obtain ⟨g1,g2,h1,_⟩:=v;obtain ⟨_,_,_,he⟩:=h.vy h1;cases he
 | .row1 _,_,_,_,_,_,_=>rfl
 | .row2 _ _,_,_,_,_,_,_=>rfl
 | .thn s _,_,_,_,h,_,v=>by
   obtain ⟨bs,br,ds,vm,gs,gm,_,hn,hv,_⟩:=v;exact may_nil (s:=s) h hn hv
theorem qek (h:c.Ok):∀ {s:c.S} {f:Fn} {a b:Array Value} {d:Value} {g gK gF:List Blk} {x:c.α},c.SV s (.func f a b) d g→c.rep x gK gF→s.preY c.preY x→FnG prog (.func f a b) [g,gK,gF] (q1t c s x g)
 | .nil,_,_,_,_,_,_,_,_,v,_,_=>by cases v.1
 | .at none _,_,_,_,_,_,_,_,_,v,_,_=>by cases v.1
 | .at (some y) _,_,_,_,_,_,gK,gF,_,v,hx,hp=>by
   obtain ⟨g1,g2,h1,h2,rfl⟩:=v;obtain ⟨fn,first,caps,hv,eg,hd⟩:=h.y h1 hx hp;refine ⟨fn,first,caps,hv,eg,fun w hw=>?_⟩
   have T:=(TG.refl hw).sum (H':=[g1,g2,gK,gF]);refine (Qa.use hd T [0,2,3] rfl rfl).mono ?_
   rintro e w' ⟨gs,⟨gK',gF',he,hx',rfl⟩,T'⟩;exact ⟨_,⟨gK',gF',he,hx',rfl⟩,TG.sum (H:=[g1,g2,gK',gF']) T'⟩
 | .row1 _,_,_,_,_,_,_,_,_,v,_,_=>by cases v.1
 | .row2 _ _,_,_,_,_,_,_,_,_,v,_,_=>by cases v.1
 | .thn s _,f,a,b,_,_,gK,gF,_,v,hx,hp=>by
   obtain ⟨bs,br,ds,vm,gs,gm,_,hn,hv,_,rfl⟩:=v;obtain ⟨fn,first,caps,hv',eg,hd⟩:=qek h hv hx hp;refine ⟨fn,first,caps,hv',eg,fun w hw=>?_⟩
   have T:=(TG.refl hw).sum (H':=[[cl bs 180 #[.func f a b,ds],cl br 178 #[vm]],gs,gm,gK,gF]);refine (Qa.use hd T [1,3,4] rfl rfl).mono ?_
   rintro e w' ⟨gs',⟨gK',gF',he,hx',rfl⟩,T'⟩;exact ⟨_,⟨gK',gF',he,hx',rfl⟩,TG.sum (H:=[[cl bs 180 #[.func f a b,ds],cl br 178 #[vm]],gs,gm,gK',gF']) T'⟩
theorem prog_may (h:c.Ok) {s:c.S} {m d:Value} {g gK gF:List Blk} {x:c.α} (hs:c.SV s m d g) (hx:c.rep x gK gF) (hp:s.preY c.preY x) (pb:Nat) (n:Int) :
 Qa prog 331 #[Qb pb] [progB pb m d n,g,gK,gF] fun e gs=>∃ gK' gF',e=.returned (.bool (s.may c.mayY x))∧c.rep x gK' gF'∧gs=[progB pb m d n,g,gK',gF']:=by
 have hd:=prog_done h hs pb n;cases hn:s.isNil with
 | true =>
   have:s=.nil:=by cases s <;> first | rfl | cases hn
   subst this;rw [hn] at hd;refine GO fun w HT=>?_
   have HD:=Vh hd;have HX:=Vh hx;clear hs h hd hn hp hx;go_enter func331,ntmps331
   go_wp2_with fail
   refine (Qe.use (HD.out) (HT.out) [0] rfl rfl).mono ?_
   rintro e w1 ⟨rfl,mq,rfl⟩;have HT:=Vh (HT.out.drewN mq);go_wp2
   go_ret
   exact ⟨_,⟨gK,gF,rfl,HX.out,rfl⟩,HT.out⟩
 | false =>
   rw [hn] at hd;obtain ⟨v1,_⟩:=h.vals hs;rcases v1 with rfl | ⟨fn1,first1,caps1,rfl⟩
   ·have hm:=may_nil (x:=x) h hn hs
    rw [hm];refine GO fun w HT=>?_
    have c0:=HT.out.cell 0 0 rfl 0;simp only [progB,GE3] at c0;have HD:=Vh hd;have HX:=Vh hx;have q1:=fun w=>qkd w
    clear hs h hd hn hp hx hm;go_enter func331,ntmps331
    go_wp2_with fail
    refine (Qe.use (HD.out) (HT.out) [0] rfl rfl).mono ?_
    rintro e w1 ⟨rfl,mq,rfl⟩;have HT:=Vh (HT.out.drewN mq);go_wp2
    go_ret
    exact ⟨_,⟨gK,gF,rfl,HX.out,rfl⟩,HT.out⟩
   ·obtain ⟨fn,first,caps,hv,eg,hf⟩:=qek h hs hx hp
    obtain ⟨rfl,rfl,rfl⟩:fn1=fn∧first1=first∧caps1=caps:=by
     cases hv
     exact ⟨rfl,rfl,rfl⟩
    obtain ⟨b,hb⟩:∃ b,s.may c.mayY x=b:=⟨_,rfl⟩;unfold q1t at hf;rw [hb] at hf ⊢;refine GO fun w HT=>?_
    have c0:=HT.out.cell 0 0 rfl 0;simp only [progB,GE3] at c0;have HD:=Vh hd;have HF:=Vh hf;have q1:=fun w=>qnd (.func fn1) first1 caps1 w
    clear hs h hd hn hp hx hb hf hv;go_enter func331,ntmps331
    go_wp2_with fail
    refine (Qe.use (HD.out) (HT.out) [0] rfl rfl).mono ?_
    rintro e w1 ⟨rfl,mq,rfl⟩;have HT:=Vh (HT.out.drewN mq);go_wp2_with fail
    refine (Qa.use (HF.out) (HT.out) [1,2,3] rfl rfl).mono ?_
    rintro e w1 ⟨gs,⟨gK',gF',rfl,hx',rfl⟩,Ta⟩;simp only [PU] at Ta;have HX:=Vh hx';clear hx';have HT:=Vh Ta;clear Ta;go_wp2
    go_ret
    exact ⟨_,⟨gK',gF',rfl,HX.out,rfl⟩,HT.out⟩
def qy5 (c:Cli) (pb:Nat) (n:Int) (s:c.S) (x:c.α) (e:Ending) (gs:GH):Prop :=
 ∃ m d g gK gF,e=.returned (.bool true)∧c.SV (c.run s x).1 m d g∧c.rep (c.run s x).2 gK gF∧gs=[progB pb m d (n+1),g,gK,gF]
theorem prog_step_no (h:c.Ok) {s:c.S} {m d:Value} {g gK gF:List Blk} {x:c.α} (hs:c.SV s m d g) (hx:c.rep x gK gF) (hp:s.preY c.preY x) (pb:Nat) (n:Int) (hm:s.may c.mayY x=false) :
 Qa prog 332 #[Qb pb] [progB pb m d n,g,gK,gF] fun e gs=>∃ gK' gF',e=.returned (.bool false)∧c.rep x gK' gF'∧gs=[progB pb m d n,g,gK',gF']:=by
 have hd:=prog_may h hs hx hp pb n;rw [hm] at hd;refine GO fun w HT=>?_
 have HD:=Vh hd;clear hs h hd hp hx hm;go_enter func332,ntmps332
 go_wp2_with fail
 refine (Qa.use (HD.out) (HT.out) [0,1,2,3] rfl rfl).mono ?_
 rintro e w1 ⟨gs,⟨gK',gF',rfl,hx',rfl⟩,Ta⟩;simp only [PU] at Ta;have HX:=Vh hx';clear hx';have HT:=Vh Ta;clear Ta;go_wp2
 go_ret
 exact ⟨_,⟨gK',gF',rfl,HX.out,rfl⟩,HT.out⟩
theorem prog_step (h:c.Ok) {s:c.S} {m d:Value} {g gK gF:List Blk} {x:c.α} (hs:c.SV s m d g) (hx:c.rep x gK gF) (hp:s.preY c.preY x) (hq:c.pre s x) (pb:Nat) (n:Int) (hn:0≤n∧n≤1000000000) (hm:s.may c.mayY x=true) :
 Qa prog 332 #[Qb pb] [progB pb m d n,g,gK,gF] (qy5 c pb n s x):=by
 have hd:=prog_may h hs hx hp pb n;rw [hm] at hd;have hni:s.isNil=false:=by cases s <;> first | rfl | cases hm
 have hdo:∀ gK' gF',c.rep x gK' gF'→FnG prog d [g,gK',gF'] (DoR c s x):=fun _ _ hx'=>qei h hni hs hx' hq
 obtain ⟨fn,first,caps,rfl⟩:=h.do_ hni hs;have HV:=Vh (show ∀ (s:c.S) m d g,c.SV s m d g→isFv m∧isFv d from fun _ _ _ _ hv=>h.vals hv);refine GO fun w HT=>?_
 have HD:=Vh hd;have HO:=Vh hdo;obtain ⟨hn0,hn1⟩:=hn;clear hs h hd hp hx hm hq hni hdo;go_enter func332,ntmps332
 go_wp2_with fail
 refine (Qa.use (HD.out) (HT.out) [0,1,2,3] rfl rfl).mono ?_
 rintro e w1 ⟨gs,⟨gK1,gF1,rfl,hx',rfl⟩,Ta⟩;simp only [PU] at Ta;obtain ⟨c1,c2⟩:=Ce2 (Ta.cell 0 0 rfl) 1 2;have f2:=Ta.free 0 0 rfl 2;have hf:=HO.out _ _ hx';clear hx';simp only [GE3] at c1 c2;have HT:=Vh Ta;clear Ta;obtain ⟨fn',first',caps',hv,eg,hf⟩:=hf
 obtain ⟨rfl,rfl,rfl⟩:fn=fn'∧first=first'∧caps=caps':=by
  cases hv
  exact ⟨rfl,rfl,rfl⟩
 have HF:=Vh hf;clear hf hv;go_wp2_with fail
 refine (Qa.use (HF.out) (HT.out.set 0 0 rfl 2 (.int .i64 (n+1))) [1,2,3] rfl rfl).mono ?_
 rintro e w1 ⟨gs,⟨m',d',g',gK',gF',rfl,hs',hx',rfl⟩,Ta⟩;simp only [PU] at Ta;obtain ⟨e0,e1⟩:=Ce2 (Ta.cell 0 0 rfl) 0 1;obtain ⟨f0,f1⟩:=Ce2 (Ta.free 0 0 rfl) 0 1;have hv2:=HV.out _ _ _ _ hs';obtain ⟨st1,st2⟩:=store_fv2 (P:=prog) hv2.1 hv2.2 e0 f0 e1 f1;have HS:=Vh hs';have HX:=Vh hx';clear hs' hx' hv2;have HT:=Vh Ta;clear Ta;go_wp2
 go_ret
 exact ⟨_,⟨m',d',g',gK',gF',rfl,HS.out,HX.out,rfl⟩,(HT.out.set 0 0 rfl 0 _).set 0 0 rfl 1 _⟩
end Cli
namespace Cli
variable {c:Cli}
theorem prog_then_x (h:c.Vals) {s:c.S} {f:c.M} {m d v:Value} {g gm:List Blk} (hn:s.isNil=false) (hs:c.SV s m d g) (hm:c.VM f v gm) :
 Qa prog 140 #[.agg #[m,d],v] [g,gm] fun e gs=>∃ bs br,e=.returned (.agg #[m,.func (.func 167) #[] #[Qb bs,Qb br]])∧gs=[[cl bs 180 #[m,d],cl br 178 #[v]]++g++gm]:=by
 obtain ⟨fn,first,caps,rfl⟩:=h.do_ hn hs;refine GO fun w HT=>?_
 have HS:=Vh hs;have HM:=Vh hm;have HN:=Vh hn;obtain ⟨v1,_⟩:=h.vals hs;obtain ⟨fn0,first0,caps0,rfl⟩:=h.vm hm;clear hm hs h hn;have q1:=fun w=>qdv (.func fn) first caps w
 rcases v1 with rfl | ⟨fn1,first1,caps1,rfl⟩
 all_goals
  go_enter func140,ntmps140
  go_wp2
  exact bodyPost_ret (v:=.agg #[_,_]) (by simp [results,results140,go_sem]) rfl ⟨_,⟨w.heap.size,w.heap.size+1,rfl,rfl⟩,(((HT.out.alloc (k:=w.heap.size) rfl _ _).alloc (k:=w.heap.size+1) (by simp) _ _).alloc0 _).sum⟩
end Cli
structure Nd where
 b:Nat
 v:List Value
def nxV (q:Value):List Nd→Value
 | []=>q
 | a::_=>Qb a.b
def lsV (p:Value):List Nd→Value
 | []=>p
 | a::l=>lsV (Qb a.b) l
def Xk (T:TypeId) (hb:Nat):Value→Value→List Nd→List Blk
 | _,_,[]=>[]
 | p,q,a::l=>cl a.b T (a.v++[p,nxV q l,Qb hb]).toArray::Xk T hb (Qb a.b) q l
@[simp] theorem nxV_nil (q:Value):nxV q []=q:=rfl
@[simp] theorem nxV_cons (q:Value) (a:Nd) (l:List Nd):nxV q (a::l)=Qb a.b:=rfl
theorem qn7 (q:Value) (l m:List Nd):nxV q (l++m)=nxV (nxV q m) l:=by cases l <;> rfl
theorem qcb (p:Value) (l m:List Nd):lsV p (l++m)=lsV (lsV p l) m:=by
 induction l generalizing p with
 | nil=>rfl
 | cons a l ih=>exact ih _
theorem Ja (T:TypeId) (hb:Nat) (p q:Value) (l m:List Nd):Xk T hb p q (l++m)=Xk T hb p (nxV q m) l++Xk T hb (lsV p l) q m:=by
 induction l generalizing p with
 | nil=>rfl
 | cons a l ih =>
   simp only [List.cons_append,Xk,lsV];rw [ih,qn7]
theorem qdx (p:Value) (l:List Nd) (y:Nd):lsV p (l++[y])=Qb y.b:=by rw [qcb];rfl
theorem qsj (l:List Nd):l=[]∨∃ m y,l=m++[y]:=by
 rcases List.eq_nil_or_concat l with h | ⟨m,y,h⟩
 ·exact .inl h
 ·exact .inr ⟨m,y,by rw [h,List.concat_eq_append]⟩
def qsh (LT NT:TypeId) (K:Nat) (lb hb:Nat) (l:List Nd) (g:List Blk):Prop :=
 (∀ a∈l,a.v.length=K)∧g=cl lb LT #[nxV (.pointer none) l,lsV (.pointer none) l,.int .i64 l.length,Qb hb]::cl hb 239 #[.pointer none]::Xk NT hb (.pointer none) (.pointer none) l
theorem qnq (hb:Nat):Qe prog 247 #[Qb hb] [[cl hb 239 #[.pointer none]]] (Qb hb):=by
 refine GO fun w HT=>?_
 have c0:=HT.out.cell 0 0 rfl 0;simp only [GE2] at c0;go_enter func247,ntmps247
 go_wp2
 go_loopw [0] (fun v wr=>v=Qb hb∧wr=w) (fun _ _=>0)
 case atStart=>exact ⟨rfl,rfl⟩
 case round =>
  obtain ⟨rfl,rfl⟩:=hrel;go_wp2
  go_ret
  exact ⟨rfl,0,rfl⟩
def qh (lb hb:Nat) (l:List Nd) (g:List Blk):Prop:=qsh 272 354 1 lb hb l g
theorem qfy:Qa prog 131 #[] [] fun e gs=>∃ lb hb g,e=.returned (Qb lb)∧qh lb hb [] g∧gs=[g]:=by
 refine GO fun w HT=>?_
 go_enter func131,ntmps131
 go_wp2
 go_ret
 exact ⟨_,⟨_,_,_,rfl,⟨(by intro a h;cases h),rfl⟩,rfl⟩,((HT.out.alloc rfl _ _).alloc rfl _ _).re (by simp [Xk,nxV,lsV];exact List.Perm.swap _ _ _)⟩
section
variable {lb hb:Nat} {l:List Nd} {g:List Blk}
theorem qqf (hg:qh lb hb l g):Qe prog 299 #[Qb lb] [g] (.int .i64 l.length):=by
 obtain ⟨_,rfl⟩:=hg;refine GO fun w HT=>?_
 have c2:=HT.out.cell 0 0 rfl 2;simp only [GE3] at c2;go_enter func299,ntmps299
 go_wp2
 go_ret
 exact ⟨rfl,0,rfl⟩
theorem qj6 (hg:qh lb hb l g):Qe prog 285 #[Qb lb] [g] (nxV (.pointer none) l):=by
 obtain ⟨_,rfl⟩:=hg;obtain ⟨v,hv⟩:∃ v,nxV (.pointer none) l=v:=⟨_,rfl⟩;rw [hv];have hp:∃ o,v=.pointer o:=by subst hv;cases l <;> exact ⟨_,rfl⟩
 obtain ⟨o,rfl⟩:=hp;refine GO fun w HT=>?_
 have c0:=HT.out.cell 0 0 rfl 0;simp only [GE3] at c0;clear hv;go_enter func285,ntmps285
 go_wp2
 go_ret
 exact ⟨rfl,0,rfl⟩
theorem qf5 (hg:qh lb hb l g) (hn:l.length≤1000000000) (nb:Nat) (ve p0 q0:Value) :
 Qa prog 282 #[Qb lb,Qb nb] [g,[cl nb 354 #[ve,p0,q0,.pointer none]]] fun e gs=>e=.returned (.int .i64 0)∧∃ g',qh lb hb (l++[⟨nb,[ve]⟩]) g'∧gs=[g']:=by
 obtain ⟨hk,rfl⟩:=hg;rcases qsj l with rfl | ⟨m,y,rfl⟩
 ·refine GO fun w HT=>?_
  obtain ⟨c0,c1,c2,c3⟩:=Ce4 (HT.out.cell 0 0 rfl) 0 1 2 3;obtain ⟨fc0,fc1,fc2,fc3⟩:=Ce4 (HT.out.free 0 0 rfl) 0 1 2 3;simp only [nxV,lsV,List.length_nil,GE3] at c0 c1 c2 c3;obtain ⟨d1,d2,d3⟩:=Ce3 (HT.out.cell 1 0 rfl) 1 2 3;obtain ⟨fd1,fd2,fd3⟩:=Ce3 (HT.out.free 1 0 rfl) 1 2 3;simp only [nxV,GE3] at d1 d2 d3;go_enter func282,ntmps282
  go_wp2
  go_region
  have HT:=Vh ((((HT.out.set 1 0 rfl 3 (Qb hb)).set 1 0 rfl 1 (.pointer none)).set 1 0 rfl 2 (.pointer none)).drew);clear c0 c1 c2 c3 fc0 fc1 fc2 fc3 d1 d2 d3 fd1 fd2 fd3;generalize World.drew _=w1 at HT ⊢;obtain ⟨c0,c1,c2⟩:=Ce3 (HT.out.cell 0 0 rfl) 0 1 2;obtain ⟨fc0,fc1,fc2⟩:=Ce3 (HT.out.free 0 0 rfl) 0 1 2;simp only [nxV,lsV,List.length_nil,GE3] at c0 c1 c2;go_wp2
  go_ret
  exact ⟨_,⟨rfl,_,⟨(by intro a h;simp only [List.nil_append,List.mem_singleton] at h;subst h;rfl),rfl⟩,rfl⟩,(((HT.out.set 0 0 rfl 0 _).set 0 0 rfl 1 _).set 0 0 rfl 2 _).eq rfl⟩
 ·obtain ⟨b,v⟩:=y
  have hv:v.length=1:=hk ⟨b,v⟩ (by simp)
  obtain ⟨y0,rfl⟩:∃ y0,v=[y0]:=by
   match v,hv with
   | [y0],_=>exact ⟨y0,rfl⟩
  have hk2:∀ a∈(m++[(⟨b,[y0]⟩:Nd)])++[⟨nb,[ve]⟩],a.v.length=1:=by
   intro a h;rcases List.mem_append.1 h with h | h
   ·exact hk a h
   ·simp only [List.mem_singleton] at h;subst h;rfl
  have HK:=Vh hk2;clear hk2;refine GO fun w HT=>?_
  have HL:=Vh hn;have T1:=HT.out.sum (H':=[[cl lb 272 #[nxV (.pointer none) (m++[⟨b,[y0]⟩]),Qb b,(.int .i64 ((m.length+1:Nat):Int)),Qb hb]],[cl hb 239 #[.pointer none]],Xk 354 hb (.pointer none) (Qb b) m,[cl b 354 #[y0,lsV (.pointer none) m,.pointer none,Qb hb]],[cl nb 354 #[ve,p0,q0,.pointer none]]]) (fun n ha h0 h1 h2=>by rw [Ja];simp only [List.length_append,List.length_cons,List.length_nil,Nat.zero_add,qdx,Xk,nxV_nil,nxV_cons,List.cons_append,List.nil_append,List.flatten_cons,List.flatten_nil,List.append_nil,ha,h0,h1,h2] <;> omega);have HT:=Vh T1;clear hk hn hv T1;obtain ⟨c0,c1,c2,c3⟩:=Ce4 (HT.out.cell 0 0 rfl) 0 1 2 3;obtain ⟨fc1,fc2⟩:=Ce2 (HT.out.free 0 0 rfl) 1 2;simp only [nxV,GE3] at c0 c1 c2 c3;obtain ⟨d1,d2,d3⟩:=Ce3 (HT.out.cell 4 0 rfl) 1 2 3;obtain ⟨fd1,fd2,fd3⟩:=Ce3 (HT.out.free 4 0 rfl) 1 2 3;simp only [nxV,GE3] at d1 d2 d3;have e2:=HT.out.cell 3 0 rfl 2;have fe2:=HT.out.free 3 0 rfl 2;simp only [nxV,GE3] at e2;have hlb:m.length+1≤1000000000:=by have:=HL.out;simpa using this
  go_enter func282,ntmps282
  go_wp2
  go_region
  have HT:=Vh ((((HT.out.set 4 0 rfl 3 (Qb hb)).set 4 0 rfl 1 (Qb b)).set 4 0 rfl 2 (.pointer none)).drew);clear c0 c1 c2 c3 fc1 fc2 d1 d2 d3 fd1 fd2 fd3;generalize World.drew _=w1 at HT ⊢;obtain ⟨c1,c2⟩:=Ce2 (HT.out.cell 0 0 rfl) 1 2;obtain ⟨fc1,fc2⟩:=Ce2 (HT.out.free 0 0 rfl) 1 2;simp only [nxV,GE3] at c1 c2;have e2:=HT.out.cell 3 0 rfl 2;have fe2:=HT.out.free 3 0 rfl 2;simp only [nxV,GE3] at e2;have ne1:=HT.out.ne 0 0 3 0 (by decide) rfl rfl;simp only [] at ne1;have ne2:=Ne.symm ne1;go_wp2
  go_ret
  exact ⟨_,⟨rfl,_,⟨HK.out,rfl⟩,rfl⟩,((((HT.out.set 3 0 rfl 2 _).set 0 0 rfl 1 _).set 0 0 rfl 2 _).eq (H':=[[cl lb 272 #[nxV (.pointer none) (m++[⟨b,[y0]⟩]),Qb nb,(.int .i64 ((m.length+1+1:Nat):Int)),Qb hb]],[cl hb 239 #[.pointer none]],Xk 354 hb (.pointer none) (Qb b) m,[cl b 354 #[y0,lsV (.pointer none) m,Qb nb,Qb hb]],[cl nb 354 #[ve,Qb b,.pointer none,Qb hb]]]) rfl).sum (fun n ha h0 h1 h2=>by rw [Ja,Ja,show nxV (.pointer none) (m++[⟨b,[y0]⟩]++[⟨nb,[ve]⟩])=nxV (.pointer none) (m++[⟨b,[y0]⟩]) from by cases m <;> rfl];simp only [List.length_append,List.length_cons,List.length_nil,Nat.zero_add,qdx,qcb,lsV,Xk,nxV_nil,nxV_cons,List.cons_append,List.nil_append,List.flatten_cons,List.flatten_nil,List.append_nil,ha,h0,h1,h2] <;> omega)⟩
end
def Jw (lb hb:Nat) (l:List Nd) (g:List Blk):Prop:=qsh 235 300 4 lb hb l g
section
variable {lb hb:Nat} {l:List Nd} {g:List Blk}
theorem Yq (hg:Jw lb hb l g):Qe prog 97 #[Qb lb] [g] (.int .i64 l.length):=by
 obtain ⟨_,rfl⟩:=hg;refine GO fun w HT=>?_
 have c2:=HT.out.cell 0 0 rfl 2;simp only [GE3] at c2;go_enter func97,ntmps97
 go_wp2
 go_ret
 exact ⟨rfl,0,rfl⟩
theorem qc6 (hg:Jw lb hb l g):Qe prog 199 #[Qb lb] [g] (nxV (.pointer none) l):=by
 obtain ⟨_,rfl⟩:=hg;obtain ⟨v,hv⟩:∃ v,nxV (.pointer none) l=v:=⟨_,rfl⟩;rw [hv];have hp:∃ o,v=.pointer o:=by subst hv;cases l <;> exact ⟨_,rfl⟩
 obtain ⟨o,rfl⟩:=hp;refine GO fun w HT=>?_
 have c0:=HT.out.cell 0 0 rfl 0;simp only [GE3] at c0;clear hv;go_enter func199,ntmps199
 go_wp2
 go_ret
 exact ⟨rfl,0,rfl⟩
theorem qpx (hg:Jw lb hb l g) (hn:l.length≤1000000000) (nb:Nat) (va vb vc vd p0 q0:Value) :
 Qa prog 306 #[Qb lb,Qb nb] [g,[cl nb 300 #[va,vb,vc,vd,p0,q0,.pointer none]]] fun e gs=>e=.returned (.int .i64 0)∧∃ g',Jw lb hb (l++[⟨nb,[va,vb,vc,vd]⟩]) g'∧gs=[g']:=by
 obtain ⟨hk,rfl⟩:=hg;rcases qsj l with rfl | ⟨m,y,rfl⟩
 ·refine GO fun w HT=>?_
  obtain ⟨c0,c1,c2,c3⟩:=Ce4 (HT.out.cell 0 0 rfl) 0 1 2 3;obtain ⟨fc0,fc1,fc2,fc3⟩:=Ce4 (HT.out.free 0 0 rfl) 0 1 2 3;simp only [nxV,lsV,List.length_nil,GE3] at c0 c1 c2 c3;obtain ⟨d4,d5,d6⟩:=Ce3 (HT.out.cell 1 0 rfl) 4 5 6;obtain ⟨fd4,fd5,fd6⟩:=Ce3 (HT.out.free 1 0 rfl) 4 5 6;simp only [nxV,GE3] at d4 d5 d6;go_enter func306,ntmps306
  go_wp2
  go_region
  have HT:=Vh ((((HT.out.set 1 0 rfl 6 (Qb hb)).set 1 0 rfl 4 (.pointer none)).set 1 0 rfl 5 (.pointer none)).drew);clear c0 c1 c2 c3 fc0 fc1 fc2 fc3 d4 d5 d6 fd4 fd5 fd6;generalize World.drew _=w1 at HT ⊢;obtain ⟨c0,c1,c2⟩:=Ce3 (HT.out.cell 0 0 rfl) 0 1 2;obtain ⟨fc0,fc1,fc2⟩:=Ce3 (HT.out.free 0 0 rfl) 0 1 2;simp only [nxV,lsV,List.length_nil,GE3] at c0 c1 c2;go_wp2
  go_ret
  exact ⟨_,⟨rfl,_,⟨(by intro a h;simp only [List.nil_append,List.mem_singleton] at h;subst h;rfl),rfl⟩,rfl⟩,(((HT.out.set 0 0 rfl 0 _).set 0 0 rfl 1 _).set 0 0 rfl 2 _).eq rfl⟩
 ·obtain ⟨b,v⟩:=y
  have hv:v.length=4:=hk ⟨b,v⟩ (by simp)
  obtain ⟨y0,y1,y2,y3,rfl⟩:∃ y0 y1 y2 y3,v=[y0,y1,y2,y3]:=by
   match v,hv with
   | [y0,y1,y2,y3],_=>exact ⟨y0,y1,y2,y3,rfl⟩
  have hk2:∀ a∈(m++[(⟨b,[y0,y1,y2,y3]⟩:Nd)])++[⟨nb,[va,vb,vc,vd]⟩],a.v.length=4:=by
   intro a h;rcases List.mem_append.1 h with h | h
   ·exact hk a h
   ·simp only [List.mem_singleton] at h;subst h;rfl
  have HK:=Vh hk2;clear hk2;refine GO fun w HT=>?_
  have HL:=Vh hn;have T1:=HT.out.sum (H':=[[cl lb 235 #[nxV (.pointer none) (m++[⟨b,[y0,y1,y2,y3]⟩]),Qb b,(.int .i64 ((m.length+1:Nat):Int)),Qb hb]],[cl hb 239 #[.pointer none]],Xk 300 hb (.pointer none) (Qb b) m,[cl b 300 #[y0,y1,y2,y3,lsV (.pointer none) m,.pointer none,Qb hb]],[cl nb 300 #[va,vb,vc,vd,p0,q0,.pointer none]]]) (fun n ha h0 h1 h2=>by rw [Ja];simp only [List.length_append,List.length_cons,List.length_nil,Nat.zero_add,qdx,Xk,nxV_nil,nxV_cons,List.cons_append,List.nil_append,List.flatten_cons,List.flatten_nil,List.append_nil,ha,h0,h1,h2] <;> omega);have HT:=Vh T1;clear hk hn hv T1;obtain ⟨c0,c1,c2,c3⟩:=Ce4 (HT.out.cell 0 0 rfl) 0 1 2 3;obtain ⟨fc1,fc2⟩:=Ce2 (HT.out.free 0 0 rfl) 1 2;simp only [nxV,GE3] at c0 c1 c2 c3;obtain ⟨d4,d5,d6⟩:=Ce3 (HT.out.cell 4 0 rfl) 4 5 6;obtain ⟨fd4,fd5,fd6⟩:=Ce3 (HT.out.free 4 0 rfl) 4 5 6;simp only [nxV,GE3] at d4 d5 d6;have e5:=HT.out.cell 3 0 rfl 5;have fe5:=HT.out.free 3 0 rfl 5;simp only [nxV,GE3] at e5;have hlb:m.length+1≤1000000000:=by have:=HL.out;simpa using this
  go_enter func306,ntmps306
  go_wp2
  go_region
  have HT:=Vh ((((HT.out.set 4 0 rfl 6 (Qb hb)).set 4 0 rfl 4 (Qb b)).set 4 0 rfl 5 (.pointer none)).drew);clear c0 c1 c2 c3 fc1 fc2 d4 d5 d6 fd4 fd5 fd6;generalize World.drew _=w1 at HT ⊢;obtain ⟨c1,c2⟩:=Ce2 (HT.out.cell 0 0 rfl) 1 2;obtain ⟨fc1,fc2⟩:=Ce2 (HT.out.free 0 0 rfl) 1 2;simp only [nxV,GE3] at c1 c2;have e5:=HT.out.cell 3 0 rfl 5;have fe5:=HT.out.free 3 0 rfl 5;simp only [nxV,GE3] at e5;have ne1:=HT.out.ne 0 0 3 0 (by decide) rfl rfl;simp only [] at ne1;have ne2:=Ne.symm ne1;go_wp2
  go_ret
  exact ⟨_,⟨rfl,_,⟨HK.out,rfl⟩,rfl⟩,((((HT.out.set 3 0 rfl 5 _).set 0 0 rfl 1 _).set 0 0 rfl 2 _).eq (H':=[[cl lb 235 #[nxV (.pointer none) (m++[⟨b,[y0,y1,y2,y3]⟩]),Qb nb,(.int .i64 ((m.length+1+1:Nat):Int)),Qb hb]],[cl hb 239 #[.pointer none]],Xk 300 hb (.pointer none) (Qb b) m,[cl b 300 #[y0,y1,y2,y3,lsV (.pointer none) m,Qb nb,Qb hb]],[cl nb 300 #[va,vb,vc,vd,Qb b,.pointer none,Qb hb]]]) rfl).sum (fun n ha h0 h1 h2=>by rw [Ja,Ja,show nxV (.pointer none) (m++[⟨b,[y0,y1,y2,y3]⟩]++[⟨nb,[va,vb,vc,vd]⟩])=nxV (.pointer none) (m++[⟨b,[y0,y1,y2,y3]⟩]) from by cases m <;> rfl];simp only [List.length_append,List.length_cons,List.length_nil,Nat.zero_add,qdx,qcb,lsV,Xk,nxV_nil,nxV_cons,List.cons_append,List.nil_append,List.flatten_cons,List.flatten_nil,List.append_nil,ha,h0,h1,h2] <;> omega)⟩
end
theorem qkp {c:Cli} (h:c.Vals) {s:c.S} {m d:Value} {g:List Blk} (hs:c.SV s m d g) (pb:Nat) (n:Int):Qe prog 330 #[Qb pb] [Cli.progB pb m d n] (.bool s.isNil):=by
 cases hn:s.isNil with
 | true =>
   have:s=.nil:=by cases s <;> first | rfl | cases hn
   subst this;obtain ⟨rfl,rfl,rfl⟩:=Cli.SV.nil hs;refine GO fun w HT=>?_
   have c1:=HT.out.cell 0 0 rfl 1;simp only [Cli.progB,GE3] at c1;have q1:=fun w=>qaa w
   clear hs h;go_enter func330,ntmps330
   go_wp2
   go_ret
   exact ⟨rfl,0,rfl⟩
 | false =>
   obtain ⟨fn,first,caps,rfl⟩:=h.do_ hn hs;refine GO fun w HT=>?_
   have c1:=HT.out.cell 0 0 rfl 1;simp only [Cli.progB,GE3] at c1;have q1:=fun w=>qdv (.func fn) first caps w
   clear hs h;go_enter func330,ntmps330
   go_wp2
   go_ret
   exact ⟨rfl,0,rfl⟩
structure qgl where
 M:Type
 A:Type
 Y:Type
 α:Type
 E:Type
 le:E→E→Prop
 rep:E→α→List Blk→List Blk→Prop
 VM:E→M→Value→List Blk→Prop
 VA:E→A→Value→List Blk→Prop
 VY:E→Y→Value→List Blk→Prop
 runM:M→α→St M A Y × α
 runA:A→α→α
 mayY:Y→α→Bool
 preM:M→α→Prop
 preA:A→α→Prop
 preY:Y→α→Prop
namespace qgl
variable (c:qgl)
def on (e:c.E):Cli:=⟨c.M,c.A,c.Y,c.α,c.rep e,c.VM e,c.VA e,c.VY e,c.runM,c.runA,c.mayY,c.preM,c.preA,c.preY⟩
abbrev S:Type:=St c.M c.A c.Y
def run (s:c.S) (x:c.α):c.S × c.α:=St.run c.runM c.runA s x
def pre (s:c.S) (x:c.α):Prop:=St.pre c.runM c.runA c.preM c.preA s x
def thn (s:c.S) (m:c.M) (x:c.α):c.S × c.α:=Xl c.runM s m x
def SV (e:c.E) (s:c.S) (m d:Value) (g:List Blk):Prop:=(c.on e).SV s m d g
structure Ok:Prop where
 refl:∀ e,c.le e e
 trans:∀ {a b d},c.le a b→c.le b d→c.le a d
 mm:∀ {e e':c.E} {f:c.M} {v:Value} {g:List Blk},c.le e e'→c.VM e f v g→c.VM e' f v g
 ma:∀ {e e':c.E} {f:c.A} {v:Value} {g:List Blk},c.le e e'→c.VA e f v g→c.VA e' f v g
 m:∀ {e:c.E} {f:c.M} {v:Value} {g gK gF:List Blk} {x:c.α},c.VM e f v g→c.rep e x gK gF→c.preM f x →
  FnG prog v [g,gK,gF] fun en gs=>∃ e',c.le e e'∧∃ m d g' gK' gF',en=.returned (.agg #[m,d])∧c.SV e' (c.runM f x).1 m d g'∧c.rep e' (c.runM f x).2 gK' gF'∧gs=[g',gK',gF']
 a:∀ {e:c.E} {f:c.A} {v:Value} {g gK gF:List Blk} {x:c.α},c.VA e f v g→c.rep e x gK gF→c.preA f x →
  FnG prog v [g,gK,gF] fun en gs=>∃ e',c.le e e'∧∃ gK' gF',en=.returned (.tuple #[])∧c.rep e' (c.runA f x) gK' gF'∧gs=[[],gK',gF']
 y:∀ {e:c.E} {f:c.Y} {v:Value} {g gK gF:List Blk} {x:c.α},c.VY e f v g→c.rep e x gK gF→c.preY f x →
  FnG prog v [g,gK,gF] fun en gs=>∃ gK' gF',en=.returned (.bool (c.mayY f x))∧c.rep e x gK' gF'∧gs=[g,gK',gF']
 v:∀ e,(c.on e).Vals
variable {c}
theorem Ok.do_ (h:c.Ok) {e:c.E} {s:c.S} {m d:Value} {g:List Blk} (hs:s.isNil=false) (v:c.SV e s m d g):∃ fn first caps,d=.func (.func fn) first caps:=(h.v e).do_ hs v
theorem Ok.vals (h:c.Ok) {e:c.E} {s:c.S} {m d:Value} {g:List Blk} (v:c.SV e s m d g):Cli.isFv m∧Cli.isFv d:=(h.v e).vals v
theorem Ok.vm (h:c.Ok) {e:c.E} {f:c.M} {v:Value} {g:List Blk} (hv:c.VM e f v g):∃ fn first caps,v=.func (.func fn) first caps:=(h.v e).vm hv
theorem Ok.va (h:c.Ok) {e:c.E} {f:c.A} {v:Value} {g:List Blk} (hv:c.VA e f v g):∃ fn first caps,v=.func (.func fn) first caps:=(h.v e).va hv
theorem qeg (h:c.Ok) {e:c.E} {s:c.S} {f:c.M} {m d v:Value} {g gm gK gF:List Blk} {x:c.α} (hs:c.SV e s m d g) (hm:c.VM e f v gm) (hx:c.rep e x gK gF) (hp:s.isNil=true→c.preM f x) :
 Qa prog 140 #[.agg #[m,d],v] [g,gm,gK,gF] fun en gs=>∃ e',c.le e e'∧∃ m' d' g' gK' gF',en=.returned (.agg #[m',d'])∧c.SV e' (c.thn s f x).1 m' d' g'∧c.rep e' (c.thn s f x).2 gK' gF'∧gs=[g',gK',gF']:=by
 cases hn:s.isNil with
 | true =>
   have:s=.nil:=by cases s <;> first | rfl | cases hn
   subst this;obtain ⟨rfl,rfl,rfl⟩:=Cli.SV.nil (c:=c.on e) hs;obtain ⟨fn,first,caps,rfl,eg,hd⟩:=h.m hm hx (hp rfl);refine GO fun w HT=>?_
   have HD:=Vh hd;have HV:=Vh (show ∀ e' (s:c.S) m d g,c.SV e' s m d g→Cli.isFv m∧Cli.isFv d from fun _ _ _ _ _ hv=>h.vals hv);clear hd hm hx hp hs h;have q1:=fun w=>qaa w
   go_enter func140,ntmps140
   go_wp2_with fail
   refine (Qa.use (HD.out) (((HT.out.alloc (k:=w.heap.size) rfl _ _).alloc (k:=w.heap.size+1) (by simp) _ _).alloc (k:=w.heap.size+1+1) (by simp) _ _) [1,2,3] rfl rfl).mono ?_
   rintro en w1 ⟨gs,⟨e',hle,m',d',g',gK',gF',rfl,hs',hx',rfl⟩,Ta⟩;simp only [PU] at Ta;obtain ⟨c0,c1⟩:=Ce2 (Ta.cell 6 0 rfl) 0 1;obtain ⟨f0,f1⟩:=Ce2 (Ta.free 6 0 rfl) 0 1;have HT:=Vh Ta;have HS:=Vh hs';have HX:=Vh hx';have HLE:=Vh hle;obtain ⟨v1,v2⟩:=HV.out _ _ _ _ _ hs';clear Ta hs' hx' hle;rcases v1 with rfl | ⟨fn1,first1,caps1,rfl⟩ <;> rcases v2 with rfl | ⟨fn2,first2,caps2,rfl⟩
   all_goals
    go_wp2
    exact bodyPost_ret (v:=.agg #[_,_]) (by simp [results,results140,go_sem,c0,c1]) rfl ⟨_,⟨e',HLE.out,_,_,g',gK',gF',rfl,HS.out,HX.out,rfl⟩,((HT.out.set 6 0 rfl 0 _).set 6 0 rfl 1 _).pick [1,2,3] rfl⟩
 | false =>
   have e1:c.thn s f x=(.thn s f,x):=by cases s <;> first | rfl | cases hn
   rw [e1];intro w hw;refine (Qa.use (Cli.prog_then_cons (c:=c.on e) (h.v e) hn hs hm) (TG.refl hw) [0,1] rfl rfl).mono ?_
   rintro en w' ⟨gs,⟨m',d',g',he,hs',rfl⟩,T⟩;exact ⟨_,⟨e,h.refl e,m',d',g',gK,gF,he,hs',hx,rfl⟩,T.pick [0,2,3] rfl⟩
def DoR (c:qgl) (e:c.E) (s:c.S) (x:c.α) (en:Ending) (gs:GH):Prop :=
 ∃ e',c.le e e'∧∃ m d g gK gF,en=.returned (.agg #[m,d])∧c.SV e' (c.run s x).1 m d g∧c.rep e' (c.run s x).2 gK gF∧gs=[g,gK,gF]
theorem qd2 (h:c.Ok) {e:c.E} {a:c.A} {m d:Value} {g gK gF:List Blk} {x:c.α} (hs:c.SV e (.row1 a) m d g) (hx:c.rep e x gK gF) (hp:c.preA a x):FnG prog d [g,gK,gF] (DoR c e (.row1 a) x):=by
 obtain ⟨rfl,bf,bl,bi,b,o,D,va,ga,rfl,hva,hD,rfl⟩:=hs;obtain ⟨fn,first,caps,rfl,eg,hd⟩:=h.a hva hx hp;refine ⟨_,_,_,rfl,enters_of func166 (by kernel_rfl) rfl,?_⟩
 refine GO fun w HT=>?_
 have HT:=Vh (HT.out.sum (H':=[[cl bf 1 #[.func (.func fn) first caps]],[cl bl 282 #[.slice (some ⟨b,o,none⟩) 1 1]],[cl bi 3 #[.int .i64 0]],[cl b 1 D],ga,gK,gF]));have c0:=HT.out.cell 0 0 rfl 0;have lt0:=HT.out.lt 0 0 rfl;simp only [] at lt0;have HD:=Vh hd;clear hd hx hp hva h;simp only [GE2] at c0;go_enter func166,ntmps166
 go_wp2_with fail
 refine (Qa.use (HD.out) (HT.out.alloc (k:=w.heap.size) rfl _ _) [4,5,6] rfl rfl).mono ?_
 rintro e w1 ⟨gs,⟨e',hle,gK',gF',rfl,hx',rfl⟩,Ta⟩;simp only [PU] at Ta;have c1:=Ta.cell 1 0 rfl 0;have c2:=Ta.cell 2 0 rfl 0;have HX:=Vh (And.intro hle hx');clear hx' hle c0;simp only [GE2] at c1 c2;have HT:=Vh Ta;clear Ta;go_wp2_with fail
 refine (Qa.use (Cli.row_nil _ _) (HT.out) [] rfl rfl).mono ?_
 rintro e w1 ⟨gs,⟨rfl,rfl⟩,Ta⟩;simp only [PU] at Ta;obtain ⟨e0,e1⟩:=Ce2 (Ta.cell 7 0 rfl) 0 1;obtain ⟨f0,f1⟩:=Ce2 (Ta.free 7 0 rfl) 0 1;clear c1 c2;have HT:=Vh Ta;clear Ta;go_wp2
 exact bodyPost_ret (v:=.agg #[.nilFunc,.nilFunc]) (by simp [results,results166,go_sem,e0,e1]) rfl ⟨_,⟨e',HX.out.1,_,_,[],gK',gF',rfl,⟨rfl,rfl,rfl⟩,HX.out.2,rfl⟩,((HT.out.set 7 0 rfl 0 _).set 7 0 rfl 1 _).pick [4,5,6] rfl⟩
theorem qe6 (h:c.Ok) {e:c.E} {a a':c.A} {m d:Value} {g gK gF:List Blk} {x:c.α} (hs:c.SV e (.row2 a a') m d g) (hx:c.rep e x gK gF) (hp:c.preA a x):FnG prog d [g,gK,gF] (DoR c e (.row2 a a') x):=by
 obtain ⟨rfl,bf,bl,bi,b,va,va',ga,ga',rfl,hva,hva',rfl⟩:=hs;obtain ⟨fn,first,caps,rfl,eg,hd⟩:=h.a hva hx hp;obtain ⟨fn',first',caps',rfl⟩:=h.va hva';refine ⟨_,_,_,rfl,enters_of func166 (by kernel_rfl) rfl,?_⟩
 refine GO fun w HT=>?_
 have HT:=Vh (HT.out.sum (H':=[[cl bf 1 #[.func (.func fn) first caps]],[cl bl 282 #[.slice (some ⟨b,0,none⟩) 2 2]],[cl bi 3 #[.int .i64 0]],[cl b 1 #[.func (.func fn) first caps,.func (.func fn') first' caps']],ga,gK,gF,ga']));have c0:=HT.out.cell 0 0 rfl 0;have lt0:=HT.out.lt 0 0 rfl;simp only [] at lt0;have HD:=Vh hd;have HA:=Vh (show ∀ e',c.le e e'→c.VA e' a' (.func (.func fn') first' caps') ga' from fun e' hl=>h.ma hl hva');clear hd hx hp hva hva' h;simp only [GE2] at c0;go_enter func166,ntmps166
 go_wp2_with fail
 refine (Qa.use (HD.out) (HT.out.alloc (k:=w.heap.size) rfl _ _) [4,5,6] rfl rfl).mono ?_
 rintro e w1 ⟨gs,⟨e',hle,gK',gF',rfl,hx',rfl⟩,Ta⟩;simp only [PU] at Ta;have c1:=Ta.cell 1 0 rfl 0;have c2:=Ta.cell 2 0 rfl 0;have HX:=Vh (And.intro hle hx');clear hx' hle c0;simp only [GE2] at c1 c2;have HT:=Vh Ta;clear Ta;go_wp2_with fail
 refine (Qa.use (Cli.row_1 (D:=#[.func (.func fn) first caps,.func (.func fn') first' caps']) (o:=1) rfl 1 (.inl rfl)) (HT.out) [3] rfl rfl).mono ?_
 rintro e w1 ⟨gs,⟨bf',bl',bi',rfl,rfl⟩,Ta⟩;simp only [PU] at Ta;obtain ⟨e0,e1⟩:=Ce2 (Ta.cell 8 0 rfl) 0 1;obtain ⟨f0,f1⟩:=Ce2 (Ta.free 8 0 rfl) 0 1;clear c1 c2;have HT:=Vh Ta;clear Ta;go_wp2
 exact bodyPost_ret (v:=.agg #[.nilFunc,_]) (by simp [results,results166,go_sem,e0,e1]) rfl ⟨_,⟨e',HX.out.1,_,_,_,gK',gF',rfl,⟨rfl,bf',bl',bi',b,1,#[.func (.func fn) first caps,.func (.func fn') first' caps'],_,ga',rfl,HA.out e' HX.out.1,rfl,rfl⟩,HX.out.2,rfl⟩,(((HT.out.set 8 0 rfl 0 _).set 8 0 rfl 1 _).pick [3,5,6,7,9,10,11] rfl).sum⟩
theorem qgw (h:c.Ok) {e:c.E} {s:c.S} {f:c.M} {m d:Value} {g gK gF:List Blk} {x:c.α} (hs:c.SV e (.thn s f) m d g) (hx:c.rep e x gK gF)
 (hi:∀ {m d:Value} {g:List Blk},c.SV e s m d g→FnG prog d [g,gK,gF] (DoR c e s x)) (hp:(c.run s x).1.isNil=true→c.preM f (c.run s x).2):FnG prog d [g,gK,gF] (DoR c e (.thn s f) x):=by
 obtain ⟨bs,br,ds,vm,gs,gm,rfl,hn,hv,hm,rfl⟩:=hs;obtain ⟨fn,first,caps,rfl,eg,hd⟩:=hi hv;obtain ⟨fn',first',caps',rfl⟩:=h.vm hm
 have key:∀ e1 m' d' g' gK' gF',c.le e e1→c.SV e1 (c.run s x).1 m' d' g'→c.rep e1 (c.run s x).2 gK' gF'→Qa prog 140 #[.agg #[m',d'],.func (.func fn') first' caps'] [g',gm,gK',gF'] (DoR c e (.thn s f) x) :=
  fun e1 m' d' g' gK' gF' hl h1 h2=>(qeg h h1 (h.mm hl hm) h2 hp).mono fun en gs ⟨e',hl',hr⟩=>⟨e',h.trans hl hl',hr⟩
 refine ⟨_,_,_,rfl,enters_of func167 (by kernel_rfl) rfl,?_⟩
 refine GO fun w HT=>?_
 have HT:=Vh (HT.out.sum (H':=[[cl bs 180 #[m,.func (.func fn) first caps]],[cl br 178 #[.func (.func fn') first' caps']],gs,gK,gF,gm]));have c0:=HT.out.cell 0 0 rfl 1;have c1:=HT.out.cell 1 0 rfl 0;have lt0:=HT.out.lt 0 0 rfl;have lt1:=HT.out.lt 1 0 rfl;simp only [] at lt0 lt1;have HD:=Vh hd;have HK:=Vh key;have HV:=Vh (show ∀ e' (s:c.S) m d g,c.SV e' s m d g→Cli.isFv m∧Cli.isFv d from fun _ _ _ _ _ hv=>h.vals hv);clear hd hx hp hv hm hn hi key;simp only [GE3] at c0 c1;go_enter func167,ntmps167
 go_wp2_with fail
 have HT:=Vh (HT.out.alloc (k:=w.heap.size) rfl 180 #[.nilFunc,.nilFunc])
 go_region_with (first
  | (go_at_call 140
     refine (Qa.use (HK.out _ _ _ _ _ _ HL1.out HS1.out HX1.out) (HT1.out) [2,5,3,4] rfl rfl).mono ?_
     rintro en w2 ⟨gs,⟨e2,hl2,m2,d2,g2,gK2,gF2,rfl,hs2,hx2,rfl⟩,Ta⟩;simp only [PU] at Ta;obtain ⟨e0,e1⟩:=Ce2 (Ta.cell 6 0 rfl) 0 1;obtain ⟨f0,f1⟩:=Ce2 (Ta.free 6 0 rfl) 0 1;have hv2:=HV.out _ _ _ _ _ hs2;obtain ⟨st1,st2⟩:=Cli.store_fv2 (P:=prog) hv2.1 hv2.2 e0 f0 e1 f1;clear hv2;have HS2:=Vh hs2;have HX2:=Vh (And.intro hl2 hx2);have HT2:=Vh Ta
     clear Ta hs2 hx2 hl2)
  | (refine (Qa.use (HD.out) (HT.out.drew) [2,3,4] rfl rfl).mono ?_
     rintro en w1 ⟨gs,⟨en1,hl1,m1,d1,g1,gK1,gF1,rfl,hs1,hx1,rfl⟩,Ta⟩;simp only [PU] at Ta;have c2:=Ta.cell 1 0 rfl 0;simp only [GE3] at c2;have HS1:=Vh hs1;have HX1:=Vh hx1;have HL1:=Vh hl1;have HT1:=Vh Ta
     clear Ta hs1 hx1 hl1))
 all_goals
  go_wp2
  exact bodyPost_ret (v:=.agg #[_,_]) (by simp [results,results167,go_sem,e0,e1]) rfl ⟨_,⟨e2,HX2.out.1,m2,d2,g2,gK2,gF2,rfl,HS2.out,HX2.out.2,rfl⟩,((HT2.out.set 6 0 rfl 0 _).set 6 0 rfl 1 _).pick [2,5,3] rfl⟩
theorem qei (h:c.Ok):∀ {e:c.E} {s:c.S} {m d:Value} {g gK gF:List Blk} {x:c.α},s.isNil=false→c.SV e s m d g→c.rep e x gK gF→c.pre s x→FnG prog d [g,gK,gF] (DoR c e s x)
 | _,.nil,_,_,_,_,_,_,hn,_,_,_=>by cases hn
 | _,.at none f,_,_,_,_,_,_,_,hs,hx,hp=>h.m hs.2 hx hp
 | _,.at (some y) f,_,_,_,gK,gF,_,_,hs,hx,hp=>by
   obtain ⟨g1,g2,h1,h2,rfl⟩:=hs;obtain ⟨fn,first,caps,hv,eg,hd⟩:=h.m h2 hx hp;refine ⟨fn,first,caps,hv,eg,fun w hw=>?_⟩
   have T:=(TG.refl hw).sum (H':=[g1,g2,gK,gF]);refine (Qa.use hd T [1,2,3] rfl rfl).mono ?_
   rintro en w' ⟨gs,⟨e',hl,m',d',g',gK',gF',he,hs',hx',rfl⟩,T'⟩;exact ⟨_,⟨e',hl,m',d',g',gK',gF',he,hs',hx',rfl⟩,T'.pick [1,2,3] rfl⟩
 | _,.row1 a,_,_,_,_,_,_,_,hs,hx,hp=>qd2 h hs hx hp
 | _,.row2 a b,_,_,_,_,_,_,_,hs,hx,hp=>qe6 h hs hx hp
 | _,.thn s f,_,_,_,_,_,_,_,hs,hx,hp=>by
   have hs':=hs;obtain ⟨bs,br,ds,vm,gs,gm,_,hn,_⟩:=hs';exact qgw h hs hx (fun hv=>qei h hn hv hx hp.1) hp.2
def q1t (c:qgl) (e:c.E) (s:c.S) (x:c.α) (g:List Blk) (en:Ending) (gs:GH):Prop:=∃ gK gF,en=.returned (.bool (s.may c.mayY x))∧c.rep e x gK gF∧gs=[g,gK,gF]
theorem may_nil:∀ {e:c.E} {s:c.S} {d:Value} {g:List Blk} {x:c.α},c.Ok→s.isNil=false→c.SV e s .nilFunc d g→s.may c.mayY x=true
 | _,.nil,_,_,_,_,hn,_=>by cases hn
 | _,.at none _,_,_,_,_,_,_=>rfl
 | e,.at (some y) _,_,_,_,h,_,v=>by
   obtain ⟨g1,g2,h1,_⟩:=v;obtain ⟨_,_,_,he⟩:=(h.v e).vy h1;cases he
 | _,.row1 _,_,_,_,_,_,_=>rfl
 | _,.row2 _ _,_,_,_,_,_,_=>rfl
 | _,.thn s _,_,_,_,h,_,v=>by
   obtain ⟨bs,br,ds,vm,gs,gm,_,hn,hv,_⟩:=v;exact may_nil (s:=s) h hn hv
theorem qek (h:c.Ok):∀ {e:c.E} {s:c.S} {f:Fn} {a b:Array Value} {d:Value} {g gK gF:List Blk} {x:c.α},c.SV e s (.func f a b) d g→c.rep e x gK gF→s.preY c.preY x→FnG prog (.func f a b) [g,gK,gF] (q1t c e s x g)
 | _,.nil,_,_,_,_,_,_,_,_,v,_,_=>by cases v.1
 | _,.at none _,_,_,_,_,_,_,_,_,v,_,_=>by cases v.1
 | _,.at (some y) _,_,_,_,_,_,gK,gF,_,v,hx,hp=>by
   obtain ⟨g1,g2,h1,h2,rfl⟩:=v;obtain ⟨fn,first,caps,hv,eg,hd⟩:=h.y h1 hx hp;refine ⟨fn,first,caps,hv,eg,fun w hw=>?_⟩
   have T:=(TG.refl hw).sum (H':=[g1,g2,gK,gF]);refine (Qa.use hd T [0,2,3] rfl rfl).mono ?_
   rintro en w' ⟨gs,⟨gK',gF',he,hx',rfl⟩,T'⟩;exact ⟨_,⟨gK',gF',he,hx',rfl⟩,TG.sum (H:=[g1,g2,gK',gF']) T'⟩
 | _,.row1 _,_,_,_,_,_,_,_,_,v,_,_=>by cases v.1
 | _,.row2 _ _,_,_,_,_,_,_,_,_,v,_,_=>by cases v.1
 | _,.thn s _,f,a,b,_,_,gK,gF,_,v,hx,hp=>by
   obtain ⟨bs,br,ds,vm,gs,gm,_,hn,hv,_,rfl⟩:=v;obtain ⟨fn,first,caps,hv',eg,hd⟩:=qek h hv hx hp;refine ⟨fn,first,caps,hv',eg,fun w hw=>?_⟩
   have T:=(TG.refl hw).sum (H':=[[cl bs 180 #[.func f a b,ds],cl br 178 #[vm]],gs,gm,gK,gF]);refine (Qa.use hd T [1,3,4] rfl rfl).mono ?_
   rintro en w' ⟨gs',⟨gK',gF',he,hx',rfl⟩,T'⟩;exact ⟨_,⟨gK',gF',he,hx',rfl⟩,TG.sum (H:=[[cl bs 180 #[.func f a b,ds],cl br 178 #[vm]],gs,gm,gK',gF']) T'⟩
open Cli (progB)
theorem prog_done (h:c.Ok) {e:c.E} {s:c.S} {m d:Value} {g:List Blk} (hs:c.SV e s m d g) (pb:Nat) (n:Int):Qe prog 330 #[Qb pb] [progB pb m d n] (.bool s.isNil) :=
 qkp (h.v e) hs pb n
theorem prog_may (h:c.Ok) {e:c.E} {s:c.S} {m d:Value} {g gK gF:List Blk} {x:c.α} (hs:c.SV e s m d g) (hx:c.rep e x gK gF) (hp:s.preY c.preY x) (pb:Nat) (n:Int) :
 Qa prog 331 #[Qb pb] [progB pb m d n,g,gK,gF] fun en gs=>∃ gK' gF',en=.returned (.bool (s.may c.mayY x))∧c.rep e x gK' gF'∧gs=[progB pb m d n,g,gK',gF']:=by
 have hd:=prog_done h hs pb n;cases hn:s.isNil with
 | true =>
   have:s=.nil:=by cases s <;> first | rfl | cases hn
   subst this;rw [hn] at hd;refine GO fun w HT=>?_
   have HD:=Vh hd;have HX:=Vh hx;clear hs h hd hn hp hx;go_enter func331,ntmps331
   go_wp2_with fail
   refine (Qe.use (HD.out) (HT.out) [0] rfl rfl).mono ?_
   rintro e w1 ⟨rfl,mq,rfl⟩;have HT:=Vh (HT.out.drewN mq);go_wp2
   go_ret
   exact ⟨_,⟨gK,gF,rfl,HX.out,rfl⟩,HT.out⟩
 | false =>
   rw [hn] at hd;obtain ⟨v1,_⟩:=h.vals hs;rcases v1 with rfl | ⟨fn1,first1,caps1,rfl⟩
   ·have hm:=may_nil (x:=x) h hn hs
    rw [hm];refine GO fun w HT=>?_
    have c0:=HT.out.cell 0 0 rfl 0;simp only [progB,GE3] at c0;have HD:=Vh hd;have HX:=Vh hx;have q1:=fun w=>qkd w
    clear hs h hd hn hp hx hm;go_enter func331,ntmps331
    go_wp2_with fail
    refine (Qe.use (HD.out) (HT.out) [0] rfl rfl).mono ?_
    rintro e w1 ⟨rfl,mq,rfl⟩;have HT:=Vh (HT.out.drewN mq);go_wp2
    go_ret
    exact ⟨_,⟨gK,gF,rfl,HX.out,rfl⟩,HT.out⟩
   ·obtain ⟨fn,first,caps,hv,eg,hf⟩:=qek h hs hx hp
    obtain ⟨rfl,rfl,rfl⟩:fn1=fn∧first1=first∧caps1=caps:=by
     cases hv
     exact ⟨rfl,rfl,rfl⟩
    obtain ⟨b,hb⟩:∃ b,s.may c.mayY x=b:=⟨_,rfl⟩;unfold q1t at hf;rw [hb] at hf ⊢;refine GO fun w HT=>?_
    have c0:=HT.out.cell 0 0 rfl 0;simp only [progB,GE3] at c0;have HD:=Vh hd;have HF:=Vh hf;have q1:=fun w=>qnd (.func fn1) first1 caps1 w
    clear hs h hd hn hp hx hb hf hv;go_enter func331,ntmps331
    go_wp2_with fail
    refine (Qe.use (HD.out) (HT.out) [0] rfl rfl).mono ?_
    rintro e w1 ⟨rfl,mq,rfl⟩;have HT:=Vh (HT.out.drewN mq);go_wp2_with fail
    refine (Qa.use (HF.out) (HT.out) [1,2,3] rfl rfl).mono ?_
    rintro e w1 ⟨gs,⟨gK',gF',rfl,hx',rfl⟩,Ta⟩;simp only [PU] at Ta;have HX:=Vh hx';clear hx';have HT:=Vh Ta;clear Ta;go_wp2
    go_ret
    exact ⟨_,⟨gK',gF',rfl,HX.out,rfl⟩,HT.out⟩
def qy5 (c:qgl) (e:c.E) (pb:Nat) (n:Int) (s:c.S) (x:c.α) (en:Ending) (gs:GH):Prop :=
 ∃ e',c.le e e'∧∃ m d g gK gF,en=.returned (.bool true)∧c.SV e' (c.run s x).1 m d g∧c.rep e' (c.run s x).2 gK gF∧gs=[progB pb m d (n+1),g,gK,gF]
theorem prog_step_no (h:c.Ok) {e:c.E} {s:c.S} {m d:Value} {g gK gF:List Blk} {x:c.α} (hs:c.SV e s m d g) (hx:c.rep e x gK gF) (hp:s.preY c.preY x) (pb:Nat) (n:Int) (hm:s.may c.mayY x=false) :
 Qa prog 332 #[Qb pb] [progB pb m d n,g,gK,gF] fun en gs=>∃ gK' gF',en=.returned (.bool false)∧c.rep e x gK' gF'∧gs=[progB pb m d n,g,gK',gF']:=by
 have hd:=prog_may h hs hx hp pb n;rw [hm] at hd;refine GO fun w HT=>?_
 have HD:=Vh hd;clear hs h hd hp hx hm;go_enter func332,ntmps332
 go_wp2_with fail
 refine (Qa.use (HD.out) (HT.out) [0,1,2,3] rfl rfl).mono ?_
 rintro e w1 ⟨gs,⟨gK',gF',rfl,hx',rfl⟩,Ta⟩;simp only [PU] at Ta;have HX:=Vh hx';clear hx';have HT:=Vh Ta;clear Ta;go_wp2
 go_ret
 exact ⟨_,⟨gK',gF',rfl,HX.out,rfl⟩,HT.out⟩
theorem prog_step (h:c.Ok) {e:c.E} {s:c.S} {m d:Value} {g gK gF:List Blk} {x:c.α} (hs:c.SV e s m d g) (hx:c.rep e x gK gF) (hp:s.preY c.preY x) (hq:c.pre s x) (pb:Nat) (n:Int) (hn:0≤n∧n≤1000000000) (hm:s.may c.mayY x=true) :
 Qa prog 332 #[Qb pb] [progB pb m d n,g,gK,gF] (qy5 c e pb n s x):=by
 have hd:=prog_may h hs hx hp pb n;rw [hm] at hd;have hni:s.isNil=false:=by cases s <;> first | rfl | cases hm
 have hdo:∀ gK' gF',c.rep e x gK' gF'→FnG prog d [g,gK',gF'] (DoR c e s x):=fun _ _ hx'=>qei h hni hs hx' hq
 obtain ⟨fn,first,caps,rfl⟩:=h.do_ hni hs;have HV:=Vh (show ∀ e' (s:c.S) m d g,c.SV e' s m d g→Cli.isFv m∧Cli.isFv d from fun _ _ _ _ _ hv=>h.vals hv);refine GO fun w HT=>?_
 have HD:=Vh hd;have HO:=Vh hdo;obtain ⟨hn0,hn1⟩:=hn;clear hs h hd hp hx hm hq hni hdo;go_enter func332,ntmps332
 go_wp2_with fail
 refine (Qa.use (HD.out) (HT.out) [0,1,2,3] rfl rfl).mono ?_
 rintro e w1 ⟨gs,⟨gK1,gF1,rfl,hx',rfl⟩,Ta⟩;simp only [PU] at Ta;obtain ⟨c1,c2⟩:=Ce2 (Ta.cell 0 0 rfl) 1 2;have f2:=Ta.free 0 0 rfl 2;have hf:=HO.out _ _ hx';clear hx';simp only [GE3] at c1 c2;have HT:=Vh Ta;clear Ta;obtain ⟨fn',first',caps',hv,eg,hf⟩:=hf
 obtain ⟨rfl,rfl,rfl⟩:fn=fn'∧first=first'∧caps=caps':=by
  cases hv
  exact ⟨rfl,rfl,rfl⟩
 have HF:=Vh hf;clear hf hv;go_wp2_with fail
 refine (Qa.use (HF.out) (HT.out.set 0 0 rfl 2 (.int .i64 (n+1))) [1,2,3] rfl rfl).mono ?_
 rintro e w1 ⟨gs,⟨e',hle,m',d',g',gK',gF',rfl,hs',hx',rfl⟩,Ta⟩;simp only [PU] at Ta;obtain ⟨e0,e1⟩:=Ce2 (Ta.cell 0 0 rfl) 0 1;obtain ⟨f0,f1⟩:=Ce2 (Ta.free 0 0 rfl) 0 1;have hv2:=HV.out _ _ _ _ _ hs';obtain ⟨st1,st2⟩:=Cli.store_fv2 (P:=prog) hv2.1 hv2.2 e0 f0 e1 f1;have HS:=Vh hs';have HX:=Vh (And.intro hle hx');clear hs' hx' hle hv2;have HT:=Vh Ta;clear Ta;go_wp2
 go_ret
 exact ⟨_,⟨e',HX.out.1,m',d',g',gK',gF',rfl,HS.out,HX.out.2,rfl⟩,(HT.out.set 0 0 rfl 0 _).set 0 0 rfl 1 _⟩
end qgl
theorem Tryz.infoHome:(prog.info? 239).map (fun i=>(i.zero,i.size,i.bytes))=some (some (.agg #[.pointer none]),1,8):=by kernel_rfl
theorem qjs (b:Nat) (w:World):(binOp .eql 233 (Qb b) (Qb b)).run prog w=.ok (.bool true) w:=by
 obtain ⟨i,hi,_,_,_⟩:=info_parts Tryz.infoHome;exact run_eql_ptr_same w ⟨b,0,none⟩ underlying233 hi
theorem qq6 (l:List Nd):l=[]∨∃ y m,l=y::m:=by cases l <;> simp
section
variable {lb hb:Nat} {l:List Nd} {g:List Blk}
theorem qo9 (nb:Nat) {ve:Value} (hg:qh lb hb (⟨nb,[ve]⟩::l) g):Qe prog 296 #[Qb lb,Qb nb] [g] (.bool true):=by
 obtain ⟨_,rfl⟩:=hg;refine GO fun w HT=>?_
 have HT:=Vh (HT.out.sum (H':=[[cl lb 272 #[Qb nb,lsV (Qb nb) l,.int .i64 (⟨nb,[ve]⟩::l:List Nd).length,Qb hb]],[cl hb 239 #[.pointer none]],[cl nb 354 #[ve,.pointer none,nxV (.pointer none) l,Qb hb]],Xk 354 hb (Qb nb) (.pointer none) l]) (fun n ha h0 h1 h2=>by simp only [Xk,nxV_cons,lsV,List.cons_append,List.nil_append,List.flatten_cons,List.flatten_nil,List.append_nil,ha,h0,h1,h2] <;> omega));have q1:=fun w=>qjs hb w
 have c3:=HT.out.cell 0 0 rfl 3;simp only [nxV_cons,GE3] at c3;have d3:=HT.out.cell 2 0 rfl 3;simp only [nxV_cons,GE3] at d3;go_enter func296,ntmps296
 go_wp2
 go_quiet ((first | (go_at_call 247;with_reducible exact Qe.quiet (qnq hb) HT.out _ [1] rfl rfl)))
 have HT:=Vh (HT.out.drewN nq);go_wp2
 go_ret
 exact ⟨rfl,_,rfl⟩
theorem qht (nb:Nat) {ve:Value} (hg:qh lb hb (⟨nb,[ve]⟩::l) g) (hn:l.length≤1000000000) :
 Qa prog 280 #[Qb lb,Qb nb] [g] fun e gs=>e=.returned (.int .i64 0)∧∃ g',qh lb hb l g'∧gs=[g',[cl nb 354 #[ve,.pointer none,.pointer none,.pointer none]]]:=by
 have hh:=qo9 nb hg;obtain ⟨hk,rfl⟩:=hg;have hk2:∀ a∈l,a.v.length=1:=fun a h=>hk a (List.mem_cons_of_mem _ h)
 rcases qq6 l with rfl | ⟨⟨yb,yv⟩,m,rfl⟩
 ·refine GO fun w HT=>?_
  have HH:=Vh hh;have HK2:=Vh hk2;clear hh hk hk2;go_enter func280,ntmps280
  go_wp2_with fail
  refine (Qe.use (HH.out) (HT.out) [0] rfl rfl).mono ?_
  rintro e w1 ⟨rfl,mq,rfl⟩;have HT:=Vh (HT.out.drewN mq);generalize World.drewN _ _=wq at HT ⊢;have HT:=Vh (HT.out.eq (H':=[[cl lb 272 #[Qb nb,Qb nb,.int .i64 1,Qb hb]],[cl hb 239 #[.pointer none]],[cl nb 354 #[ve,.pointer none,.pointer none,Qb hb]]]) rfl);obtain ⟨c0,c1,c2⟩:=Ce3 (HT.out.cell 0 0 rfl) 0 1 2;obtain ⟨fc0,fc1,fc2⟩:=Ce3 (HT.out.free 0 0 rfl) 0 1 2;simp only [nxV_cons,GE3] at c0 c1 c2;obtain ⟨d1,d2,d3⟩:=Ce3 (HT.out.cell 2 0 rfl) 1 2 3;obtain ⟨fd1,fd2,fd3⟩:=Ce3 (HT.out.free 2 0 rfl) 1 2 3;simp only [nxV_cons,GE3] at d1 d2 d3;have ne1:=HT.out.ne 0 0 2 0 (by decide) rfl rfl;simp only [] at ne1;have ne2:=Ne.symm ne1;go_wp2
  go_ret
  exact ⟨_,⟨rfl,_,⟨HK2.out,rfl⟩,rfl⟩,((((((HT.out.set 0 0 rfl 0 _).set 0 0 rfl 1 _).set 2 0 rfl 1 _).set 2 0 rfl 2 _).set 2 0 rfl 3 _).set 0 0 rfl 2 _).eq rfl⟩
 ·have hyv:yv.length=1:=hk2 ⟨yb,yv⟩ List.mem_cons_self
  obtain ⟨y0,rfl⟩:∃ y0,yv=[y0]:=by
   match yv,hyv with
   | [y0],_=>exact ⟨y0,rfl⟩
  refine GO fun w HT=>?_
  have HH:=Vh hh;have HK2:=Vh hk2;have hml:m.length+1≤1000000000:=by simpa using hn
  clear hh hk hk2 hn hyv;go_enter func280,ntmps280
  go_wp2_with fail
  refine (Qe.use (HH.out) (HT.out) [0] rfl rfl).mono ?_
  rintro e w1 ⟨rfl,mq,rfl⟩;have HT:=Vh (HT.out.drewN mq);generalize World.drewN _ _=wq at HT ⊢;have HT:=Vh (HT.out.sum (H':=[[cl lb 272 #[Qb nb,lsV (Qb yb) m,(.int .i64 ((m.length+1+1:Nat):Int)),Qb hb]],[cl hb 239 #[.pointer none]],[cl nb 354 #[ve,.pointer none,Qb yb,Qb hb]],[cl yb 354 #[y0,Qb nb,nxV (.pointer none) m,Qb hb]],Xk 354 hb (Qb yb) (.pointer none) m]) (fun n ha h0 h1 h2=>by simp only [Xk,nxV_cons,lsV,List.length_cons,List.cons_append,List.nil_append,List.flatten_cons,List.flatten_nil,List.append_nil,ha,h0,h1,h2] <;> omega));obtain ⟨c0,c2⟩:=Ce2 (HT.out.cell 0 0 rfl) 0 2;obtain ⟨fc0,fc2⟩:=Ce2 (HT.out.free 0 0 rfl) 0 2;simp only [nxV_cons,GE3] at c0 c2;obtain ⟨d1,d2,d3⟩:=Ce3 (HT.out.cell 2 0 rfl) 1 2 3;obtain ⟨fd1,fd2,fd3⟩:=Ce3 (HT.out.free 2 0 rfl) 1 2 3;simp only [nxV_cons,GE3] at d1 d2 d3;have e1:=HT.out.cell 3 0 rfl 1;have fe1:=HT.out.free 3 0 rfl 1;simp only [nxV_cons,GE3] at e1;have ne1:=HT.out.ne 0 0 2 0 (by decide) rfl rfl;have ne3:=HT.out.ne 0 0 3 0 (by decide) rfl rfl;have ne5:=HT.out.ne 2 0 3 0 (by decide) rfl rfl;simp only [] at ne1 ne3 ne5;have ne2:=Ne.symm ne1;have ne4:=Ne.symm ne3;have ne6:=Ne.symm ne5;go_wp2
  have HT:=Vh ((HT.out.set 0 0 rfl 0 (Qb yb)).eq (H':=[[cl lb 272 #[Qb yb,lsV (Qb yb) m,(.int .i64 ((m.length+1+1:Nat):Int)),Qb hb]],[cl hb 239 #[.pointer none]],[cl nb 354 #[ve,.pointer none,Qb yb,Qb hb]],[cl yb 354 #[y0,Qb nb,nxV (.pointer none) m,Qb hb]],Xk 354 hb (Qb yb) (.pointer none) m]) rfl);clear c0 fc0 c2 fc2 d1 fd1 d2 fd2 d3 fd3 e1 fe1;generalize World.setCell _ _ _=w2 at HT ⊢;obtain ⟨d1,d2,d3⟩:=Ce3 (HT.out.cell 2 0 rfl) 1 2 3;obtain ⟨fd1,fd2,fd3⟩:=Ce3 (HT.out.free 2 0 rfl) 1 2 3;simp only [nxV_cons,GE3] at d1 d2 d3;have e1:=HT.out.cell 3 0 rfl 1;have fe1:=HT.out.free 3 0 rfl 1;simp only [nxV_cons,GE3] at e1;go_region
  have HT:=Vh (((HT.out.set 3 0 rfl 1 (.pointer none)).drew).eq (H':=[[cl lb 272 #[Qb yb,lsV (Qb yb) m,(.int .i64 ((m.length+1+1:Nat):Int)),Qb hb]],[cl hb 239 #[.pointer none]],[cl nb 354 #[ve,.pointer none,Qb yb,Qb hb]],[cl yb 354 #[y0,.pointer none,nxV (.pointer none) m,Qb hb]],Xk 354 hb (Qb yb) (.pointer none) m]) rfl);clear d1 fd1 d2 fd2 d3 fd3 e1 fe1;generalize World.drew _=w3 at HT ⊢;have c2:=HT.out.cell 0 0 rfl 2;have fc2:=HT.out.free 0 0 rfl 2;simp only [nxV_cons,GE3] at c2;obtain ⟨d1,d2,d3⟩:=Ce3 (HT.out.cell 2 0 rfl) 1 2 3;obtain ⟨fd1,fd2,fd3⟩:=Ce3 (HT.out.free 2 0 rfl) 1 2 3;simp only [nxV_cons,GE3] at d1 d2 d3;go_wp2
  go_ret
  exact ⟨_,⟨rfl,_,⟨HK2.out,rfl⟩,rfl⟩,(((((HT.out.set 2 0 rfl 1 _).set 2 0 rfl 2 _).set 2 0 rfl 3 _).set 0 0 rfl 2 _).eq (H':=[[cl lb 272 #[Qb yb,lsV (Qb yb) m,(.int .i64 ((m.length+1:Nat):Int)),Qb hb]],[cl hb 239 #[.pointer none]],[cl nb 354 #[ve,.pointer none,.pointer none,.pointer none]],[cl yb 354 #[y0,.pointer none,nxV (.pointer none) m,Qb hb]],Xk 354 hb (Qb yb) (.pointer none) m]) (by rfl)).sum (fun n ha h0 h1 h2=>by have hc:=ha [cl yb 354 #[y0,.pointer none,nxV (.pointer none) m,Qb hb]] (Xk 354 hb (Qb yb) (.pointer none) m);simp only [List.cons_append,List.nil_append] at hc;simp only [Xk,nxV_cons,lsV,List.length_cons,List.cons_append,List.nil_append,List.flatten_cons,List.flatten_nil,List.append_nil,ha,h0,h1,h2] <;> omega)⟩
end
section
variable {lb hb:Nat} {l:List Nd} {g:List Blk}
theorem qqh (nb:Nat) {va vb vc vd:Value} (hg:Jw lb hb (⟨nb,[va,vb,vc,vd]⟩::l) g):Qe prog 227 #[Qb lb,Qb nb] [g] (.bool true):=by
 obtain ⟨_,rfl⟩:=hg;refine GO fun w HT=>?_
 have HT:=Vh (HT.out.sum (H':=[[cl lb 235 #[Qb nb,lsV (Qb nb) l,.int .i64 (⟨nb,[va,vb,vc,vd]⟩::l:List Nd).length,Qb hb]],[cl hb 239 #[.pointer none]],[cl nb 300 #[va,vb,vc,vd,.pointer none,nxV (.pointer none) l,Qb hb]],Xk 300 hb (Qb nb) (.pointer none) l]) (fun n ha h0 h1 h2=>by simp only [Xk,nxV_cons,lsV,List.cons_append,List.nil_append,List.flatten_cons,List.flatten_nil,List.append_nil,ha,h0,h1,h2] <;> omega));have q1:=fun w=>qjs hb w
 have c3:=HT.out.cell 0 0 rfl 3;simp only [nxV_cons,GE3] at c3;have d6:=HT.out.cell 2 0 rfl 6;simp only [nxV_cons,GE3] at d6;go_enter func227,ntmps227
 go_wp2
 go_quiet ((first | (go_at_call 247;with_reducible exact Qe.quiet (qnq hb) HT.out _ [1] rfl rfl)))
 have HT:=Vh (HT.out.drewN nq);go_wp2
 go_ret
 exact ⟨rfl,_,rfl⟩
theorem qhk (nb:Nat) {va vb vc vd:Value} (hg:Jw lb hb (⟨nb,[va,vb,vc,vd]⟩::l) g) (hn:l.length≤1000000000) :
 Qa prog 200 #[Qb lb,Qb nb] [g] fun e gs=>e=.returned (.int .i64 0)∧∃ g',Jw lb hb l g'∧gs=[g',[cl nb 300 #[va,vb,vc,vd,.pointer none,.pointer none,.pointer none]]]:=by
 have hh:=qqh nb hg;obtain ⟨hk,rfl⟩:=hg;have hk2:∀ a∈l,a.v.length=4:=fun a h=>hk a (List.mem_cons_of_mem _ h)
 rcases qq6 l with rfl | ⟨⟨yb,yv⟩,m,rfl⟩
 ·refine GO fun w HT=>?_
  have HH:=Vh hh;have HK2:=Vh hk2;clear hh hk hk2;go_enter func200,ntmps200
  go_wp2_with fail
  refine (Qe.use (HH.out) (HT.out) [0] rfl rfl).mono ?_
  rintro e w1 ⟨rfl,mq,rfl⟩;have HT:=Vh (HT.out.drewN mq);generalize World.drewN _ _=wq at HT ⊢;have HT:=Vh (HT.out.eq (H':=[[cl lb 235 #[Qb nb,Qb nb,.int .i64 1,Qb hb]],[cl hb 239 #[.pointer none]],[cl nb 300 #[va,vb,vc,vd,.pointer none,.pointer none,Qb hb]]]) rfl);obtain ⟨c0,c1,c2⟩:=Ce3 (HT.out.cell 0 0 rfl) 0 1 2;obtain ⟨fc0,fc1,fc2⟩:=Ce3 (HT.out.free 0 0 rfl) 0 1 2;simp only [nxV_cons,GE3] at c0 c1 c2;obtain ⟨d4,d5,d6⟩:=Ce3 (HT.out.cell 2 0 rfl) 4 5 6;obtain ⟨fd4,fd5,fd6⟩:=Ce3 (HT.out.free 2 0 rfl) 4 5 6;simp only [nxV_cons,GE3] at d4 d5 d6;have ne1:=HT.out.ne 0 0 2 0 (by decide) rfl rfl;simp only [] at ne1;have ne2:=Ne.symm ne1;go_wp2
  go_ret
  exact ⟨_,⟨rfl,_,⟨HK2.out,rfl⟩,rfl⟩,((((((HT.out.set 0 0 rfl 0 _).set 0 0 rfl 1 _).set 2 0 rfl 4 _).set 2 0 rfl 5 _).set 2 0 rfl 6 _).set 0 0 rfl 2 _).eq rfl⟩
 ·have hyv:yv.length=4:=hk2 ⟨yb,yv⟩ List.mem_cons_self
  obtain ⟨y0,y1,y2,y3,rfl⟩:∃ y0 y1 y2 y3,yv=[y0,y1,y2,y3]:=by
   match yv,hyv with
   | [y0,y1,y2,y3],_=>exact ⟨y0,y1,y2,y3,rfl⟩
  refine GO fun w HT=>?_
  have HH:=Vh hh;have HK2:=Vh hk2;have hml:m.length+1≤1000000000:=by simpa using hn
  clear hh hk hk2 hn hyv;go_enter func200,ntmps200
  go_wp2_with fail
  refine (Qe.use (HH.out) (HT.out) [0] rfl rfl).mono ?_
  rintro e w1 ⟨rfl,mq,rfl⟩;have HT:=Vh (HT.out.drewN mq);generalize World.drewN _ _=wq at HT ⊢;have HT:=Vh (HT.out.sum (H':=[[cl lb 235 #[Qb nb,lsV (Qb yb) m,(.int .i64 ((m.length+1+1:Nat):Int)),Qb hb]],[cl hb 239 #[.pointer none]],[cl nb 300 #[va,vb,vc,vd,.pointer none,Qb yb,Qb hb]],[cl yb 300 #[y0,y1,y2,y3,Qb nb,nxV (.pointer none) m,Qb hb]],Xk 300 hb (Qb yb) (.pointer none) m]) (fun n ha h0 h1 h2=>by simp only [Xk,nxV_cons,lsV,List.length_cons,List.cons_append,List.nil_append,List.flatten_cons,List.flatten_nil,List.append_nil,ha,h0,h1,h2] <;> omega));obtain ⟨c0,c2⟩:=Ce2 (HT.out.cell 0 0 rfl) 0 2;obtain ⟨fc0,fc2⟩:=Ce2 (HT.out.free 0 0 rfl) 0 2;simp only [nxV_cons,GE3] at c0 c2;obtain ⟨d4,d5,d6⟩:=Ce3 (HT.out.cell 2 0 rfl) 4 5 6;obtain ⟨fd4,fd5,fd6⟩:=Ce3 (HT.out.free 2 0 rfl) 4 5 6;simp only [nxV_cons,GE3] at d4 d5 d6;have e4:=HT.out.cell 3 0 rfl 4;have fe4:=HT.out.free 3 0 rfl 4;simp only [nxV_cons,GE3] at e4;have ne1:=HT.out.ne 0 0 2 0 (by decide) rfl rfl;have ne3:=HT.out.ne 0 0 3 0 (by decide) rfl rfl;have ne5:=HT.out.ne 2 0 3 0 (by decide) rfl rfl;simp only [] at ne1 ne3 ne5;have ne2:=Ne.symm ne1;have ne4:=Ne.symm ne3;have ne6:=Ne.symm ne5;go_wp2
  have HT:=Vh ((HT.out.set 0 0 rfl 0 (Qb yb)).eq (H':=[[cl lb 235 #[Qb yb,lsV (Qb yb) m,(.int .i64 ((m.length+1+1:Nat):Int)),Qb hb]],[cl hb 239 #[.pointer none]],[cl nb 300 #[va,vb,vc,vd,.pointer none,Qb yb,Qb hb]],[cl yb 300 #[y0,y1,y2,y3,Qb nb,nxV (.pointer none) m,Qb hb]],Xk 300 hb (Qb yb) (.pointer none) m]) rfl);clear c0 fc0 c2 fc2 d4 fd4 d5 fd5 d6 fd6 e4 fe4;generalize World.setCell _ _ _=w2 at HT ⊢;obtain ⟨d4,d5,d6⟩:=Ce3 (HT.out.cell 2 0 rfl) 4 5 6;obtain ⟨fd4,fd5,fd6⟩:=Ce3 (HT.out.free 2 0 rfl) 4 5 6;simp only [nxV_cons,GE3] at d4 d5 d6;have e4:=HT.out.cell 3 0 rfl 4;have fe4:=HT.out.free 3 0 rfl 4;simp only [nxV_cons,GE3] at e4;go_region
  have HT:=Vh (((HT.out.set 3 0 rfl 4 (.pointer none)).drew).eq (H':=[[cl lb 235 #[Qb yb,lsV (Qb yb) m,(.int .i64 ((m.length+1+1:Nat):Int)),Qb hb]],[cl hb 239 #[.pointer none]],[cl nb 300 #[va,vb,vc,vd,.pointer none,Qb yb,Qb hb]],[cl yb 300 #[y0,y1,y2,y3,.pointer none,nxV (.pointer none) m,Qb hb]],Xk 300 hb (Qb yb) (.pointer none) m]) rfl);clear d4 fd4 d5 fd5 d6 fd6 e4 fe4;generalize World.drew _=w3 at HT ⊢;have c2:=HT.out.cell 0 0 rfl 2;have fc2:=HT.out.free 0 0 rfl 2;simp only [nxV_cons,GE3] at c2;obtain ⟨d4,d5,d6⟩:=Ce3 (HT.out.cell 2 0 rfl) 4 5 6;obtain ⟨fd4,fd5,fd6⟩:=Ce3 (HT.out.free 2 0 rfl) 4 5 6;simp only [nxV_cons,GE3] at d4 d5 d6;go_wp2
  go_ret
  exact ⟨_,⟨rfl,_,⟨HK2.out,rfl⟩,rfl⟩,(((((HT.out.set 2 0 rfl 4 _).set 2 0 rfl 5 _).set 2 0 rfl 6 _).set 0 0 rfl 2 _).eq (H':=[[cl lb 235 #[Qb yb,lsV (Qb yb) m,(.int .i64 ((m.length+1:Nat):Int)),Qb hb]],[cl hb 239 #[.pointer none]],[cl nb 300 #[va,vb,vc,vd,.pointer none,.pointer none,.pointer none]],[cl yb 300 #[y0,y1,y2,y3,.pointer none,nxV (.pointer none) m,Qb hb]],Xk 300 hb (Qb yb) (.pointer none) m]) (by rfl)).sum (fun n ha h0 h1 h2=>by have hc:=ha [cl yb 300 #[y0,y1,y2,y3,.pointer none,nxV (.pointer none) m,Qb hb]] (Xk 300 hb (Qb yb) (.pointer none) m);simp only [List.cons_append,List.nil_append] at hc;simp only [Xk,nxV_cons,lsV,List.length_cons,List.cons_append,List.nil_append,List.flatten_cons,List.flatten_nil,List.append_nil,ha,h0,h1,h2] <;> omega)⟩
end
end
end Go.Proofs.YtikpbibeagbccaaGreat
