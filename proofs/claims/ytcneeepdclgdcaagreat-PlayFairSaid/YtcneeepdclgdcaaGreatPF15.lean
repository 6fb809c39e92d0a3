import Derived.Test.YtcneeepdclgdcaaGreatPF5
import Derived.Test.YtcneeepdclgdcaaGreatPF14
set_option maxRecDepth 100000
set_option maxHeartbeats 4000000
namespace Go.Proofs.YtcneeepdclgdcaaGreat
open Go.Value renaming pointer->WK,int->WL,nilFunc->WN,func->WQ
open Go.IntKind renaming i64->WM,u64->WX
open Go.Ending renaming returned->WO
open Go.Fn renaming func->WR
open _root_.List renaming length_cons->WS,nil_append->WU,cons_append->WV,length_nil->WW,flatten_cons->WY,append_nil->WZ,flatten_nil->XA,length_append->XC,length_set->XD,getElem?_eq_some_iff->XF,mem_singleton->XG,count_append->XI,mem_cons_of_mem->XM,mem_cons_self->XP,set_cons_zero->XQ,set_cons_succ->XR,mem_append->XT,map_cons->XU
open _root_.Array renaming getElem?_setIfInBounds_ne->WT,getElem?_setIfInBounds_self_of_lt->XE
open Go renaming bodyPost_ret->XB,Ending->XL
open _root_.Ne renaming symm->XH
open Go.World renaming drew->XJ,setCell->XN
open _root_.Nat renaming zero_add->XK
open _root_.And renaming intro->XO
set_option linter.all false
open Go.Proofs.Tryz
section
open Go.RowKit Go.Shelf
inductive St (M A Y:Type) where
 | nil
 | at (y:Option Y) (m:M)
 | ai (a:A)
 | aP (a b:A)
 | thn (s:St M A Y) (m:M)
section
variable {M A Y α:Type}
def St.isNil:St M A Y->Bool
 | .nil=>true
 | _=>false
def Qd (runM:M->α->St M A Y × α) (s:St M A Y) (m:M) (x:α):St M A Y × α :=
 match s with
 | .nil=>runM m x
 | s=>(.thn s m,x)
def St.run (runM:M->α->St M A Y × α) (bP:A->α->α):St M A Y->α->St M A Y × α
 | .nil,x=>(.nil,x)
 | .at _ m,x=>runM m x
 | .ai a,x=>(.nil,bP a x)
 | .aP a b,x=>(.ai b,bP a x)
 | .thn s m,x=>Qd runM (s.run runM bP x).1 m (s.run runM bP x).2
def St.pre (runM:M->α->St M A Y × α) (bP:A->α->α) (iT:M->α->Prop) (iR:A->α->Prop):St M A Y->α->Prop
 | .nil,_=>True
 | .at _ m,x=>iT m x
 | .ai a,x=>iR a x
 | .aP a _,x=>iR a x
 | .thn s m,x=>s.pre runM bP iT iR x/\((s.run runM bP x).1.isNil=true->iT m (s.run runM bP x).2)
def St.may (dX:Y->α->Bool):St M A Y->α->Bool
 | .nil,_=>false
 | .at none _,_=>true
 | .at (some y) _,x=>dX y x
 | .ai _,_=>true
 | .aP _ _,_=>true
 | .thn s _,x=>s.may dX x
def St.dw (dw:Y->α->Prop):St M A Y->α->Prop
 | .at (some y) _,x=>dw y x
 | .thn s _,x=>s.dw dw x
 | _,_=>True
end
theorem TG.sum {h H H':GH} {w w':World} (T:TG h w H w')
 (hs:∀ n:List ak->Nat,(∀ x y,n (x++y)=n x+n y)->n []=0->(∀ a b l,n (a::b::l)=n [a]+n (b::l))->(∀ a x y,n (a::(x++y))=n [a]+(n x+n y))->n H.flatten=n H'.flatten:=by intro n ha h0 h1 h2;simp only [SU,ha,h0,h1,h2] <;> omega):TG h w H' w':=by
 classical
 refine T.re (List.perm_iff_count.2 fun a=>hs (fun l=>l.count a) (fun x y=>XI) rfl (fun b d l=>?_) (fun b x y=>?_))
 ·show List.count a ([b]++(d::l))=_
  rw [XI]
 ·show List.count a ([b]++(x++y))=_
  rw [XI,XI]
def jT (P:Program) (v:Value) (gs:GH) (R:XL->GH->Prop):Prop :=
 ∃ fn first aK,v=WQ (WR fn) first aK/\(∀ args w,(callFunc fn args).run P w=.ok (.enter fn args) w)/\Qa P fn (first++aK) gs R
theorem Ew (w:World):(binOp .eql 151 WN WN).run prog w=.ok (.bool true) w:=by kernel_rfl
theorem GN (f:Fn) (a b:Array Value) (w:World):(binOp .eql 151 (.func f a b) WN).run prog w=.ok (.bool false) w:=by kernel_rfl
theorem Se (w:World):(binOp .eql 24 WN WN).run prog w=.ok (.bool true) w:=by kernel_rfl
theorem TY (f:Fn) (a b:Array Value) (w:World):(binOp .eql 24 (.func f a b) WN).run prog w=.ok (.bool false) w:=by kernel_rfl
theorem q13 (f:Fn) (a b:Array Value) (w:World):(binOp .neq 1 (.func f a b) WN).run prog w=.ok (.bool true) w:=by kernel_rfl
structure aZ where
 M:Type
 A:Type
 Y:Type
 α:Type
 rep:α->List ak->List ak->Prop
 VM:M->Value->List ak->Prop
 VA:A->Value->List ak->Prop
 VY:Y->Value->List ak->Prop
 runM:M->α->St M A Y × α
 bP:A->α->α
 dX:Y->α->Bool
 iT:M->α->Prop
 iR:A->α->Prop
 dw:Y->α->Prop
namespace aZ
variable (c:aZ)
abbrev S:Type:=St c.M c.A c.Y
def run (s:c.S) (x:c.α):c.S × c.α:=St.run c.runM c.bP s x
def pre (s:c.S) (x:c.α):Prop:=St.pre c.runM c.bP c.iT c.iR s x
def thn (s:c.S) (m:c.M) (x:c.α):c.S × c.α:=Qd c.runM s m x
def SV:c.S->Value->Value->List ak->Prop
 | .nil,m,d,g=>m=WN/\d=WN/\g=[]
 | .at none f,m,d,g=>m=WN/\c.VM f d g
 | .at (some y) f,m,d,g=>∃ g1 g2,c.VY y m g1/\c.VM f d g2/\g=g1++g2
 | .ai a,m,d,g=>m=WN/\∃ bf bl bi b o D va ga,d=WQ (WR 209) #[] #[Qb bf,Qb bl,Qb bi]/\c.VA a va ga/\D[o]?=some va /\
    g=[cl bf 1 #[va],cl bl 322 #[.slice (some ⟨b,o,none⟩) 1 1],cl bi 3 #[WL WM 0],cl b 1 D]++ga
 | .aP a a',m,d,g=>m=WN/\∃ bf bl bi b va vU ga l6,d=WQ (WR 209) #[] #[Qb bf,Qb bl,Qb bi]/\c.VA a va ga/\c.VA a' vU l6 /\
    g=[cl bf 1 #[va],cl bl 322 #[.slice (some ⟨b,0,none⟩) 2 2],cl bi 3 #[WL WM 0],cl b 1 #[va,vU]]++ga++l6
 | .thn s f,m,d,g=>∃ bs br ds vm gs gm,d=WQ (WR 237) #[] #[Qb bs,Qb br]/\s.isNil=false/\SV s m ds gs/\c.VM f vm gm /\
    g=[cl bs 153 #[m,ds],cl br 151 #[vm]]++gs++gm
structure iA:Prop where
 vm:∀ {f:c.M} {v:Value} {g:List ak},c.VM f v g->∃ fn first aK,v=WQ (WR fn) first aK
 va:∀ {f:c.A} {v:Value} {g:List ak},c.VA f v g->∃ fn first aK,v=WQ (WR fn) first aK
 vy:∀ {f:c.Y} {v:Value} {g:List ak},c.VY f v g->∃ fn first aK,v=WQ (WR fn) first aK
structure Ok:Prop where
 m:∀ {f:c.M} {v:Value} {g gK gF:List ak} {x:c.α},c.VM f v g->c.rep x gK gF->c.iT f x ->
  jT prog v [g,gK,gF] fun e gs=>∃ m d g' aY aI,e=WO (.agg #[m,d])/\c.SV (c.runM f x).1 m d g'/\c.rep (c.runM f x).2 aY aI/\gs=[g',aY,aI]
 a:∀ {f:c.A} {v:Value} {g gK gF:List ak} {x:c.α},c.VA f v g->c.rep x gK gF->c.iR f x ->
  jT prog v [g,gK,gF] fun e gs=>∃ aY aI,e=WO (.tuple #[])/\c.rep (c.bP f x) aY aI/\gs=[[],aY,aI]
 y:∀ {f:c.Y} {v:Value} {g gK gF:List ak} {x:c.α},c.VY f v g->c.rep x gK gF->c.dw f x ->
  jT prog v [g,gK,gF] fun e gs=>∃ aY aI,e=WO (.bool (c.dX f x))/\c.rep x aY aI/\gs=[g,aY,aI]
 v:c.iA
variable {c}
theorem SV.nil {m d:Value} {g:List ak} (h:c.SV .nil m d g):m=WN/\d=WN/\g=[]:=h
theorem Ok.vm (h:c.Ok) {f:c.M} {v:Value} {g:List ak} (hv:c.VM f v g):∃ fn first aK,v=WQ (WR fn) first aK:=h.v.vm hv
theorem Ok.va (h:c.Ok) {f:c.A} {v:Value} {g:List ak} (hv:c.VA f v g):∃ fn first aK,v=WQ (WR fn) first aK:=h.v.va hv
theorem Ok.vy (h:c.Ok) {f:c.Y} {v:Value} {g:List ak} (hv:c.VY f v g):∃ fn first aK,v=WQ (WR fn) first aK:=h.v.vy hv
theorem iA.vg (h:c.iA) {s:c.S} {m d:Value} {g:List ak} (hs:s.isNil=false) (v:c.SV s m d g):∃ fn first aK,d=WQ (WR fn) first aK:=by
 cases s with
 | nil=>cases hs
 | «at» y f =>
   cases y with
   | none=>exact h.vm v.2
   | some y=>obtain ⟨g1,g2,_,h2,_⟩:=v;exact h.vm h2
 | ai a=>obtain ⟨_,bf,bl,bi,b,o,D,va,ga,rfl,_⟩:=v;exact ⟨_,_,_,rfl⟩
 | aP a a'=>obtain ⟨_,bf,bl,bi,b,va,vU,ga,l6,rfl,_⟩:=v;exact ⟨_,_,_,rfl⟩
 | thn s f=>obtain ⟨bs,br,ds,vm,gs,gm,rfl,_⟩:=v;exact ⟨_,_,_,rfl⟩
def eQ (v:Value):Prop:=v=WN\/∃ fn first aK,v=WQ (WR fn) first aK
theorem Uz {P:Program} {v u:Value} (hv:eQ v) {a:Addr} {w:World} (hc:w.cell? a=some u) (hf:w.frozen? a=false):(store a v).run P w=.ok () (w.setCell a v):=by
 rcases hv with rfl | ⟨fn,x,y,rfl⟩ <;> (rw [run_store P w a _ .plain rfl];simp [stored,hc,hf])
theorem aG {P:Program} {v v' u u':Value} (hv:eQ v) (hv':eQ v') {b:Nat} {w:World} (hc:w.cell? ⟨b,0,none⟩=some u) (hf:w.frozen? ⟨b,0,none⟩=false) (hc':w.cell? ⟨b,1,none⟩=some u') (hf':w.frozen? ⟨b,1,none⟩=false) :
 (store ⟨b,0,none⟩ v).run P w=.ok () (w.setCell ⟨b,0,none⟩ v)/\(store ⟨b,1,none⟩ v').run P (w.setCell ⟨b,0,none⟩ v)=.ok () ((w.setCell ⟨b,0,none⟩ v).setCell ⟨b,1,none⟩ v') :=
 have e1:(w.setCell ⟨b,0,none⟩ v).cell? ⟨b,1,none⟩=some u':=by simp [go_sem,hc']
 have e2:(w.setCell ⟨b,0,none⟩ v).frozen? ⟨b,1,none⟩=false:=by simp [go_sem,hf']
 ⟨Uz hv hc hf,Uz hv' e1 e2⟩
theorem iA.vals (h:c.iA):∀ {s:c.S} {m d:Value} {g:List ak},c.SV s m d g->eQ m/\eQ d
 | .nil,_,_,_,v=>⟨.inl v.1,.inl v.2.1⟩
 | .at none f,_,_,_,v=>⟨.inl v.1,.inr (h.vm v.2)⟩
 | .at (some y) f,_,_,_,v=>by obtain ⟨g1,g2,h1,h2,_⟩:=v;exact ⟨.inr (h.vy h1),.inr (h.vm h2)⟩
 | .ai a,_,_,_,v=>by obtain ⟨h0,bf,bl,bi,b,o,D,va,ga,rfl,_⟩:=v;exact ⟨.inl h0,.inr ⟨_,_,_,rfl⟩⟩
 | .aP a a',_,_,_,v=>by obtain ⟨h0,bf,bl,bi,b,va,vU,ga,l6,rfl,_⟩:=v;exact ⟨.inl h0,.inr ⟨_,_,_,rfl⟩⟩
 | .thn s f,_,_,_,v=>by
   obtain ⟨bs,br,ds,vm,gs,gm,rfl,_,hv,_⟩:=v;exact ⟨(iA.vals h hv).1,.inr ⟨_,_,_,rfl⟩⟩
theorem Ok.vg (h:c.Ok) {s:c.S} {m d:Value} {g:List ak} (hs:s.isNil=false) (v:c.SV s m d g):∃ fn first aK,d=WQ (WR fn) first aK:=h.v.vg hs v
theorem Ok.vals (h:c.Ok) {s:c.S} {m d:Value} {g:List ak} (v:c.SV s m d g):eQ m/\eQ d:=h.v.vals v
theorem dD (h:c.iA) {s:c.S} {f:c.M} {m d v:Value} {g gm:List ak} (hn:s.isNil=false) (hs:c.SV s m d g) (hm:c.VM f v gm) :
 Qa prog 196 #[.agg #[m,d],v] [g,gm] fun e gs=>∃ m' d' g',e=WO (.agg #[m',d'])/\c.SV (.thn s f) m' d' g'/\gs=[g']:=by
 obtain ⟨fn,first,aK,rfl⟩:=h.vg hn hs;refine GO fun w HT=>?_
 have HS:=Vh hs;have HM:=Vh hm;have HN:=Vh hn;obtain ⟨v1,_⟩:=h.vals hs;obtain ⟨fn0,yL,CY,rfl⟩:=h.vm hm;clear hm hs h hn;have q1:=fun w=>GN (.func fn) first aK w
 rcases v1 with rfl | ⟨pO,eF,fZ,rfl⟩
 all_goals
  go_enter func196,ntmps196
  go_wp2
  exact XB (v:=.agg #[_,_]) (by simp [results,results196,go_sem]) rfl ⟨_,⟨_,_,_,rfl,⟨w.heap.size,w.heap.size+1,_,_,g,gm,rfl,HN,HS,HM,rfl⟩,rfl⟩,(((HT.a _ _).alloc (k:=w.heap.size+1) (by simp) _ _).aN _).sum⟩
theorem LQ (h:c.Ok) {s:c.S} {f:c.M} {m d v:Value} {g gm gK gF:List ak} {x:c.α} (hs:c.SV s m d g) (hm:c.VM f v gm) (hx:c.rep x gK gF) (hp:s.isNil=true->c.iT f x) :
 Qa prog 196 #[.agg #[m,d],v] [g,gm,gK,gF] fun e gs=>∃ m' d' g' aY aI,e=WO (.agg #[m',d'])/\c.SV (c.thn s f x).1 m' d' g'/\c.rep (c.thn s f x).2 aY aI/\gs=[g',aY,aI]:=by
 cases hn:s.isNil with
 | true =>
   have:s=.nil:=by cases s <;> first | rfl | cases hn
   subst this;obtain ⟨rfl,rfl,rfl⟩:=SV.nil hs;obtain ⟨fn,first,aK,rfl,eg,hd⟩:=h.m hm hx (hp rfl);refine GO fun w HT=>?_
   have HD:=Vh hd;clear hd hm hx hp hs;have q1:=fun w=>Ew w
   go_enter func196,ntmps196
   go_wp2_with fail
   refine (Qa.use HD (((HT.a _ _).alloc (k:=w.heap.size+1) (by simp) _ _).alloc (k:=w.heap.size+1+1) (by simp) _ _) [1,2,3] rfl rfl).mono ?_
   rintro e w1 ⟨gs,⟨m',d',g',aY,aI,rfl,hs',hx',rfl⟩,Ta⟩;simp only [PU] at Ta;obtain ⟨c0,c1⟩:=Ta.c2 6 0 0 1;obtain ⟨f0,f1⟩:=Ta.f2 6 0 0 1;have HT:=Vh Ta;have HS:=Vh hs';have HX:=Vh hx';obtain ⟨v1,v2⟩:=h.vals hs';clear Ta hs' hx' h;rcases v1 with rfl | ⟨pO,eF,fZ,rfl⟩ <;> rcases v2 with rfl | ⟨Dk,lu,o9,rfl⟩
   all_goals
    go_wp2
    exact XB (v:=.agg #[_,_]) (by simp [results,results196,go_sem,c0,c1]) rfl ⟨_,⟨_,_,g',aY,aI,rfl,HS,HX,rfl⟩,((HT.set 6 0 rfl 0 _).set 6 0 rfl 1 _).p [1,2,3]⟩
 | false =>
   have e1:c.thn s f x=(.thn s f,x):=by cases s <;> first | rfl | cases hn
   rw [e1];intro w hw;refine (Qa.use (dD h.v hn hs hm) (TG.refl hw) [0,1] rfl rfl).mono ?_
   rintro e w' ⟨gs,⟨m',d',g',he,hs',rfl⟩,T⟩;exact ⟨_,⟨m',d',g',gK,gF,he,hs',hx,rfl⟩,T.p [0,2,3]⟩
def nD (c:aZ) (s:c.S) (x:c.α) (e:XL) (gs:GH):Prop :=
 ∃ m d g gK gF,e=WO (.agg #[m,d])/\c.SV (c.run s x).1 m d g/\c.rep (c.run s x).2 gK gF/\gs=[g,gK,gF]
theorem pz (a:Option Addr) (n:Nat):Qa prog 178 #[.slice a 0 n] [] fun e gs=>e=WO (.agg #[WN,WN])/\gs=[]:=by
 refine GO fun w HT=>?_
 go_enter func178,ntmps178
 go_wp2
 have T1:=(HT.a 322 #[.slice a 0 n]).alloc (k:=w.heap.size+1) (by simp) 153 #[WN,WN]
 go_loopw [7] (fun i wr=>i=WL WM 0/\TG [] w [[cl w.heap.size 322 #[.slice a 0 n]],[cl (w.heap.size+1) 153 #[WN,WN]]] wr) (fun _ _=>0)
 case atStart=>exact ⟨rfl,T1⟩
 case round =>
  obtain ⟨rfl,T⟩:=hrel;obtain ⟨c0,c1⟩:=T.c2 1 0 0 1;obtain ⟨f0,f1⟩:=T.f2 1 0 0 1;have HT:=Vh T;clear T T1;go_wp2
  exact XB (v:=.agg #[WN,WN]) (by simp [results,results178,go_sem,c0,c1]) rfl ⟨_,⟨rfl,rfl⟩,((HT.set 1 0 rfl 0 _).set 1 0 rfl 1 _).p []⟩
theorem eO {b o:Nat} {D:Array Value} {fn:FuncId} {first aK:Array Value} (hD:D[o]?=some (WQ (WR fn) first aK)) (n:Nat) (h:n=1\/n=2) :
 Qa prog 178 #[.slice (some ⟨b,o,none⟩) n n] [[cl b 1 D]] fun e gs=>∃ bf bl bi,e=WO (.agg #[WN,WQ (WR 209) #[] #[Qb bf,Qb bl,Qb bi]]) /\
  gs=[[cl b 1 D],[cl bf 1 #[WQ (WR fn) first aK]],[cl bl 322 #[.slice (some ⟨b,o,none⟩) n n]],[cl bi 3 #[WL WM 0]]]:=by
 refine GO fun w HT=>?_
 have hn:0<n:=by omega
 have q:=fun w=>q13 (.func fn) first aK w
 clear h;go_enter func178,ntmps178
 go_wp2
 have T1:=(HT.a 322 #[.slice (some ⟨b,o,none⟩) n n]).alloc (k:=w.heap.size+1) (by simp) 153 #[WN,WN]
 go_loopw [7] (fun i wr=>i=WL WM 0/\TG [[cl b 1 D]] w [[cl b 1 D],[cl w.heap.size 322 #[.slice (some ⟨b,o,none⟩) n n]],[cl (w.heap.size+1) 153 #[WN,WN]]] wr) (fun _ _=>0)
 case atStart=>exact ⟨rfl,T1⟩
 case round =>
  obtain ⟨rfl,T⟩:=hrel;clear T1;obtain ⟨rb,hrb⟩:∃ rb,rb=w.heap.size+1:=⟨_,rfl⟩;obtain ⟨lb,hlb⟩:∃ lb,lb=w.heap.size:=⟨_,rfl⟩;rw [<- hrb,<- hlb] at T;rw [<- hrb,<- hlb];clear hrb hlb;have e0:=(T.cell 0 0 rfl o).trans hD;obtain ⟨c0,c1⟩:=T.c2 2 0 0 1;obtain ⟨f0,f1⟩:=T.f2 2 0 0 1;have lt:=T.l 2 0;simp only [] at lt;have HT:=Vh T;clear T hD;go_wp2
  exact XB (v:=.agg #[WN,WQ (WR 209) #[] #[Qb (wr.heap.size+1),Qb lb,Qb wr.heap.size]]) (by simp [results,results178,go_sem,c0,c1,lt]) rfl ⟨_,⟨_,_,_,rfl,rfl⟩,((((HT.set 2 0 rfl 0 _).set 2 0 rfl 1 _).alloc (k:=wr.heap.size) (by simp) _ _).alloc (k:=wr.heap.size+1) (by simp) _ _).p [0,4,1,3]⟩
theorem LM (h:c.Ok) {a:c.A} {m d:Value} {g gK gF:List ak} {x:c.α} (hs:c.SV (.ai a) m d g) (hx:c.rep x gK gF) (hp:c.iR a x):jT prog d [g,gK,gF] (nD c (.ai a) x):=by
 obtain ⟨rfl,bf,bl,bi,b,o,D,va,ga,rfl,hva,hD,rfl⟩:=hs;obtain ⟨fn,first,aK,rfl,eg,hd⟩:=h.a hva hx hp;refine ⟨_,_,_,rfl,enters_of func209 (by kernel_rfl) rfl,?_⟩
 refine GO fun w HT=>?_
 have HT:=Vh (HT.out.sum (H':=[[cl bf 1 #[WQ (WR fn) first aK]],[cl bl 322 #[.slice (some ⟨b,o,none⟩) 1 1]],[cl bi 3 #[WL WM 0]],[cl b 1 D],ga,gK,gF]));have c0:=HT.c 0 0 0;have tV:=HT.l 0 0;simp only [] at tV;have HD:=Vh hd;clear hd hx hp hva h;simp only [bR] at c0;go_enter func209,ntmps209
 go_wp2_with fail
 refine Qa.run HD (HT.a _ _) [4,5,6] ?_
 rintro e w1 gs ⟨aY,aI,rfl,hx',rfl⟩ HT;simp only [PU] at HT;have c1:=HT.c 1 0 0;have c2:=HT.c 2 0 0;have HX:=Vh hx';clear hx' c0;simp only [bR] at c1 c2;go_wp2_with fail
 refine Qa.run (pz _ _) (HT) [] ?_
 rintro e w1 gs ⟨rfl,rfl⟩ HT;simp only [PU] at HT;obtain ⟨e0,e1⟩:=HT.c2 7 0 0 1;obtain ⟨f0,f1⟩:=HT.f2 7 0 0 1;clear c1 c2;go_wp2
 exact XB (v:=.agg #[WN,WN]) (by simp [results,results209,go_sem,e0,e1]) rfl ⟨_,⟨_,_,[],aY,aI,rfl,⟨rfl,rfl,rfl⟩,HX,rfl⟩,((HT.set 7 0 rfl 0 _).set 7 0 rfl 1 _).p [4,5,6]⟩
theorem LP (h:c.Ok) {a a':c.A} {m d:Value} {g gK gF:List ak} {x:c.α} (hs:c.SV (.aP a a') m d g) (hx:c.rep x gK gF) (hp:c.iR a x):jT prog d [g,gK,gF] (nD c (.aP a a') x):=by
 obtain ⟨rfl,bf,bl,bi,b,va,vU,ga,l6,rfl,hva,nS,rfl⟩:=hs;obtain ⟨fn,first,aK,rfl,eg,hd⟩:=h.a hva hx hp;obtain ⟨fn',first',dS,rfl⟩:=h.va nS;refine ⟨_,_,_,rfl,enters_of func209 (by kernel_rfl) rfl,?_⟩
 refine GO fun w HT=>?_
 have HT:=Vh (HT.out.sum (H':=[[cl bf 1 #[WQ (WR fn) first aK]],[cl bl 322 #[.slice (some ⟨b,0,none⟩) 2 2]],[cl bi 3 #[WL WM 0]],[cl b 1 #[WQ (WR fn) first aK,WQ (WR fn') first' dS]],ga,gK,gF,l6]));have c0:=HT.c 0 0 0;have tV:=HT.l 0 0;simp only [] at tV;have HD:=Vh hd;have HA:=Vh nS;clear hd hx hp hva nS h;simp only [bR] at c0;go_enter func209,ntmps209
 go_wp2_with fail
 refine Qa.run HD (HT.a _ _) [4,5,6] ?_
 rintro e w1 gs ⟨aY,aI,rfl,hx',rfl⟩ HT;simp only [PU] at HT;have c1:=HT.c 1 0 0;have c2:=HT.c 2 0 0;have HX:=Vh hx';clear hx' c0;simp only [bR] at c1 c2;go_wp2_with fail
 refine Qa.run (eO (D:=#[WQ (WR fn) first aK,WQ (WR fn') first' dS]) (o:=1) rfl 1 (.inl rfl)) (HT) [3] ?_
 rintro e w1 gs ⟨JG,JI,JH,rfl,rfl⟩ HT;simp only [PU] at HT;obtain ⟨e0,e1⟩:=HT.c2 8 0 0 1;obtain ⟨f0,f1⟩:=HT.f2 8 0 0 1;clear c1 c2;go_wp2
 exact XB (v:=.agg #[WN,_]) (by simp [results,results209,go_sem,e0,e1]) rfl ⟨_,⟨_,_,_,aY,aI,rfl,⟨rfl,JG,JI,JH,b,1,#[WQ (WR fn) first aK,WQ (WR fn') first' dS],_,l6,rfl,HA,rfl,rfl⟩,HX,rfl⟩,(((HT.set 8 0 rfl 0 _).set 8 0 rfl 1 _).p [3,5,6,7,9,10,11]).sum⟩
theorem ME (h:c.Ok) {s:c.S} {f:c.M} {m d:Value} {g gK gF:List ak} {x:c.α} (hs:c.SV (.thn s f) m d g) (hx:c.rep x gK gF)
 (hi:∀ {m d:Value} {g:List ak},c.SV s m d g->jT prog d [g,gK,gF] (nD c s x)) (hp:(c.run s x).1.isNil=true->c.iT f (c.run s x).2):jT prog d [g,gK,gF] (nD c (.thn s f) x):=by
 obtain ⟨bs,br,ds,vm,gs,gm,rfl,hn,hv,hm,rfl⟩:=hs;obtain ⟨fn,first,aK,rfl,eg,hd⟩:=hi hv;obtain ⟨fn',first',dS,rfl⟩:=h.vm hm
 have key:∀ m' d' g' aY aI,c.SV (c.run s x).1 m' d' g'->c.rep (c.run s x).2 aY aI->Qa prog 196 #[.agg #[m',d'],WQ (WR fn') first' dS] [g',gm,aY,aI] (nD c (.thn s f) x) :=
  fun m' d' g' aY aI h1 h2=>LQ h h1 hm h2 hp
 refine ⟨_,_,_,rfl,enters_of func237 (by kernel_rfl) rfl,?_⟩
 refine GO fun w HT=>?_
 have HT:=Vh (HT.out.sum (H':=[[cl bs 153 #[m,WQ (WR fn) first aK]],[cl br 151 #[WQ (WR fn') first' dS]],gs,gK,gF,gm]));have c0:=HT.c 0 0 1;have c1:=HT.c 1 0 0;have tV:=HT.l 0 0;have nU:=HT.l 1 0;simp only [] at tV nU;have HD:=Vh hd;have HK:=Vh key;have HV:=Vh (show ∀ (s:c.S) m d g,c.SV s m d g->eQ m/\eQ d from fun _ _ _ _ hv=>h.vals hv);clear hd hx hp hv hm hn hi key;simp only [aC] at c0 c1;go_enter func237,ntmps237
 go_wp2_with fail
 have HT:=Vh (HT.out.a 153 #[WN,WN])
 go_region_with (first
  | (go_at_call 196
     refine (Qa.use (HK _ _ _ _ _ wB jZ) (HT1) [2,5,3,4] rfl rfl).mono ?_
     rintro e w2 ⟨gs,⟨m2,d2,g2,JV,JR,rfl,hs2,hx2,rfl⟩,Ta⟩;simp only [PU] at Ta;obtain ⟨e0,e1⟩:=Ta.c2 6 0 0 1;obtain ⟨f0,f1⟩:=Ta.f2 6 0 0 1;have hv2:=HV.out _ _ _ _ hs2;obtain ⟨st1,st2⟩:=aG (P:=prog) hv2.1 hv2.2 e0 f0 e1 f1;clear hv2;have HS2:=Vh hs2;have kH:=Vh hx2;have HT2:=Vh Ta
     clear Ta hs2 hx2)
  | (refine (Qa.use HD (HT.drew) [2,3,4] rfl rfl).mono ?_
     rintro e w1 ⟨gs,⟨m1,d1,g1,JU,JQ,rfl,hs1,hx1,rfl⟩,Ta⟩;simp only [PU] at Ta;have c2:=Ta.c 1 0 0;simp only [aC] at c2;have wB:=Vh hs1;have jZ:=Vh hx1;have HT1:=Vh Ta
     clear Ta hs1 hx1))
 all_goals
  go_wp2
  exact XB (v:=.agg #[_,_]) (by simp [results,results237,go_sem,e0,e1]) rfl ⟨_,⟨m2,d2,g2,JV,JR,rfl,HS2,kH,rfl⟩,((HT2.set 6 0 rfl 0 _).set 6 0 rfl 1 _).p [2,5,3]⟩
theorem EH (h:c.Ok):∀ {s:c.S} {m d:Value} {g gK gF:List ak} {x:c.α},s.isNil=false->c.SV s m d g->c.rep x gK gF->c.pre s x->jT prog d [g,gK,gF] (nD c s x)
 | .nil,_,_,_,_,_,_,hn,_,_,_=>by cases hn
 | .at none f,_,_,_,_,_,_,_,hs,hx,hp=>h.m hs.2 hx hp
 | .at (some y) f,_,_,_,gK,gF,_,_,hs,hx,hp=>by
   obtain ⟨g1,g2,h1,h2,rfl⟩:=hs;obtain ⟨fn,first,aK,hv,eg,hd⟩:=h.m h2 hx hp;refine ⟨fn,first,aK,hv,eg,fun w hw=>?_⟩
   have T:=(TG.refl hw).sum (H':=[g1,g2,gK,gF]);refine (Qa.use hd T [1,2,3] rfl rfl).mono ?_
   rintro e w' ⟨gs,⟨m',d',g',aY,aI,he,hs',hx',rfl⟩,T'⟩;exact ⟨_,⟨m',d',g',aY,aI,he,hs',hx',rfl⟩,T'.p [1,2,3]⟩
 | .ai a,_,_,_,_,_,_,_,hs,hx,hp=>LM h hs hx hp
 | .aP a b,_,_,_,_,_,_,_,hs,hx,hp=>LP h hs hx hp
 | .thn s f,_,_,_,_,_,_,_,hs,hx,hp=>by
   have hs':=hs;obtain ⟨bs,br,ds,vm,gs,gm,_,hn,_⟩:=hs';exact ME h hs hx (fun hv=>EH h hn hv hx hp.1) hp.2
end aZ
theorem TG.m {h H:GH} {w w':World} (T:TG h w H w') (H':GH)
 (hs:∀ n:List ak->Nat,(∀ x y,n (x++y)=n x+n y)->n []=0->(∀ a b l,n (a::b::l)=n [a]+n (b::l))->(∀ a x y,n (a::(x++y))=n [a]+(n x+n y))->n H.flatten=n H'.flatten:=by intro n ha h0 h1 h2;simp only [SU,ha,h0,h1,h2] <;> omega):TG h w H' w':=T.sum hs
namespace aZ
variable {c:aZ}
def aJ (pb:Nat) (m d:Value) (n:Int):List ak:=[cl pb 240 #[m,d,WL WM n]]
theorem tY (h:c.Ok) {s:c.S} {m d:Value} {g:List ak} (hs:c.SV s m d g):Qa prog 79 #[.agg #[m,d]] [g] fun e gs=>∃ pb,e=WO (Qb pb)/\gs=[g,aJ pb m d 0]:=by
 obtain ⟨v1,v2⟩:=h.vals hs;refine GO fun w HT=>?_
 clear hs h;rcases v1 with rfl | ⟨pO,eF,fZ,rfl⟩ <;> rcases v2 with rfl | ⟨Dk,lu,o9,rfl⟩
 all_goals
  go_enter func79,ntmps79
  go_wp2
  go_ret
  exact ⟨_,⟨_,rfl,rfl⟩,(HT.aN _).alloc (k:=w.heap.size+1) (by simp) _ _⟩
theorem eU (h:c.Ok) {s:c.S} {m d:Value} {g:List ak} (hs:c.SV s m d g) (pb:Nat) (n:Int):Qe prog 150 #[Qb pb] [aJ pb m d n] (.bool s.isNil):=by
 cases hn:s.isNil with
 | true =>
   have:s=.nil:=by cases s <;> first | rfl | cases hn
   subst this;obtain ⟨rfl,rfl,rfl⟩:=SV.nil hs;refine GO fun w HT=>?_
   have c1:=HT.c 0 0 1;simp only [aJ,aC] at c1;have q1:=fun w=>Ew w
   clear hs h;go_enter func150,ntmps150
   go_wp2
   go_ret
   exact ⟨rfl,0,rfl⟩
 | false =>
   obtain ⟨fn,first,aK,rfl⟩:=h.vg hn hs;refine GO fun w HT=>?_
   have c1:=HT.c 0 0 1;simp only [aJ,aC] at c1;have q1:=fun w=>GN (.func fn) first aK w
   clear hs h;go_enter func150,ntmps150
   go_wp2
   go_ret
   exact ⟨rfl,0,rfl⟩
def Eh (c:aZ) (s:c.S) (x:c.α) (g:List ak) (e:XL) (gs:GH):Prop:=∃ gK gF,e=WO (.bool (s.may c.dX x))/\c.rep x gK gF/\gs=[g,gK,gF]
theorem fT:∀ {s:c.S} {d:Value} {g:List ak} {x:c.α},c.Ok->s.isNil=false->c.SV s WN d g->s.may c.dX x=true
 | .nil,_,_,_,_,hn,_=>by cases hn
 | .at none _,_,_,_,_,_,_=>rfl
 | .at (some y) _,_,_,_,h,_,v=>by
   obtain ⟨g1,g2,h1,_⟩:=v;obtain ⟨_,_,_,he⟩:=h.vy h1;cases he
 | .ai _,_,_,_,_,_,_=>rfl
 | .aP _ _,_,_,_,_,_,_=>rfl
 | .thn s _,_,_,_,h,_,v=>by
   obtain ⟨bs,br,ds,vm,gs,gm,_,hn,hv,_⟩:=v;exact fT (s:=s) h hn hv
theorem EG (h:c.Ok):∀ {s:c.S} {f:Fn} {a b:Array Value} {d:Value} {g gK gF:List ak} {x:c.α},c.SV s (.func f a b) d g->c.rep x gK gF->s.dw c.dw x->jT prog (.func f a b) [g,gK,gF] (Eh c s x g)
 | .nil,_,_,_,_,_,_,_,_,v,_,_=>by cases v.1
 | .at none _,_,_,_,_,_,_,_,_,v,_,_=>by cases v.1
 | .at (some y) _,_,_,_,_,_,gK,gF,_,v,hx,hp=>by
   obtain ⟨g1,g2,h1,h2,rfl⟩:=v;obtain ⟨fn,first,aK,hv,eg,hd⟩:=h.y h1 hx hp;refine ⟨fn,first,aK,hv,eg,fun w hw=>?_⟩
   have T:=(TG.refl hw).m [g1,g2,gK,gF];refine (Qa.use hd T [0,2,3] rfl rfl).mono ?_
   rintro e w' ⟨gs,⟨aY,aI,he,hx',rfl⟩,T'⟩;exact ⟨_,⟨aY,aI,he,hx',rfl⟩,TG.sum (H:=[g1,g2,aY,aI]) T'⟩
 | .ai _,_,_,_,_,_,_,_,_,v,_,_=>by cases v.1
 | .aP _ _,_,_,_,_,_,_,_,_,v,_,_=>by cases v.1
 | .thn s _,f,a,b,_,_,gK,gF,_,v,hx,hp=>by
   obtain ⟨bs,br,ds,vm,gs,gm,_,hn,hv,_,rfl⟩:=v;obtain ⟨fn,first,aK,hv',eg,hd⟩:=EG h hv hx hp;refine ⟨fn,first,aK,hv',eg,fun w hw=>?_⟩
   have T:=(TG.refl hw).sum (H':=[[cl bs 153 #[.func f a b,ds],cl br 151 #[vm]],gs,gm,gK,gF]);refine (Qa.use hd T [1,3,4] rfl rfl).mono ?_
   rintro e w' ⟨gs',⟨aY,aI,he,hx',rfl⟩,T'⟩;exact ⟨_,⟨aY,aI,he,hx',rfl⟩,TG.sum (H:=[[cl bs 153 #[.func f a b,ds],cl br 151 #[vm]],gs,gm,aY,aI]) T'⟩
theorem dP (h:c.Ok) {s:c.S} {m d:Value} {g gK gF:List ak} {x:c.α} (hs:c.SV s m d g) (hx:c.rep x gK gF) (hp:s.dw c.dw x) (pb:Nat) (n:Int) :
 Qa prog 146 #[Qb pb] [aJ pb m d n,g,gK,gF] fun e gs=>∃ aY aI,e=WO (.bool (s.may c.dX x))/\c.rep x aY aI/\gs=[aJ pb m d n,g,aY,aI]:=by
 have hd:=eU h hs pb n;cases hn:s.isNil with
 | true =>
   have:s=.nil:=by cases s <;> first | rfl | cases hn
   subst this;rw [hn] at hd;refine GO fun w HT=>?_
   have HD:=Vh hd;have HX:=Vh hx;clear hs h hd hn hp hx;go_enter func146,ntmps146
   go_wp2_with fail
   refine (Qe.use HD HT [0] rfl rfl).mono ?_
   rintro e w1 ⟨rfl,mq,rfl⟩;have HT:=Vh (HT.out.drewN mq);go_wp2
   go_ret
   exact ⟨_,⟨gK,gF,rfl,HX,rfl⟩,HT⟩
 | false =>
   rw [hn] at hd;obtain ⟨v1,_⟩:=h.vals hs;rcases v1 with rfl | ⟨pO,eF,fZ,rfl⟩
   ·have hm:=fT (x:=x) h hn hs
    rw [hm];refine GO fun w HT=>?_
    have c0:=HT.c 0 0 0;simp only [aJ,aC] at c0;have HD:=Vh hd;have HX:=Vh hx;have q1:=fun w=>Se w
    clear hs h hd hn hp hx hm;go_enter func146,ntmps146
    go_wp2_with fail
    refine (Qe.use HD HT [0] rfl rfl).mono ?_
    rintro e w1 ⟨rfl,mq,rfl⟩;have HT:=Vh (HT.out.drewN mq);go_wp2
    go_ret
    exact ⟨_,⟨gK,gF,rfl,HX,rfl⟩,HT⟩
   ·obtain ⟨fn,first,aK,hv,eg,hf⟩:=EG h hs hx hp
    obtain ⟨rfl,rfl,rfl⟩:pO=fn/\eF=first/\fZ=aK:=by
     cases hv
     exact ⟨rfl,rfl,rfl⟩
    obtain ⟨b,hb⟩:∃ b,s.may c.dX x=b:=⟨_,rfl⟩;unfold Eh at hf;rw [hb] at hf |-;refine GO fun w HT=>?_
    have c0:=HT.c 0 0 0;simp only [aJ,aC] at c0;have HD:=Vh hd;have HF:=Vh hf;have q1:=fun w=>TY (.func pO) eF fZ w
    clear hs h hd hn hp hx hb hf hv;go_enter func146,ntmps146
    go_wp2_with fail
    refine (Qe.use HD HT [0] rfl rfl).mono ?_
    rintro e w1 ⟨rfl,mq,rfl⟩;have HT:=Vh (HT.out.drewN mq);go_wp2_with fail
    refine Qa.run HF HT [1,2,3] ?_
    rintro e w1 gs ⟨aY,aI,rfl,hx',rfl⟩ HT;simp only [PU] at HT;have HX:=Vh hx';clear hx';go_wp2
    go_ret
    exact ⟨_,⟨aY,aI,rfl,HX,rfl⟩,HT⟩
def K8 (c:aZ) (pb:Nat) (n:Int) (s:c.S) (x:c.α) (e:XL) (gs:GH):Prop :=
 ∃ m d g gK gF,e=WO (.bool true)/\c.SV (c.run s x).1 m d g/\c.rep (c.run s x).2 gK gF/\gs=[aJ pb m d (n+1),g,gK,gF]
theorem dQ (h:c.Ok) {s:c.S} {m d:Value} {g gK gF:List ak} {x:c.α} (hs:c.SV s m d g) (hx:c.rep x gK gF) (hp:s.dw c.dw x) (pb:Nat) (n:Int) (hm:s.may c.dX x=false) :
 Qa prog 85 #[Qb pb] [aJ pb m d n,g,gK,gF] fun e gs=>∃ aY aI,e=WO (.bool false)/\c.rep x aY aI/\gs=[aJ pb m d n,g,aY,aI]:=by
 have hd:=dP h hs hx hp pb n;rw [hm] at hd;refine GO fun w HT=>?_
 have HD:=Vh hd;clear hs h hd hp hx hm;go_enter func85,ntmps85
 go_wp2_with fail
 refine Qa.run HD HT [0,1,2,3] ?_
 rintro e w1 gs ⟨aY,aI,rfl,hx',rfl⟩ HT;simp only [PU] at HT;have HX:=Vh hx';clear hx';go_wp2
 go_ret
 exact ⟨_,⟨aY,aI,rfl,HX,rfl⟩,HT⟩
theorem fJ (h:c.Ok) {s:c.S} {m d:Value} {g gK gF:List ak} {x:c.α} (hs:c.SV s m d g) (hx:c.rep x gK gF) (hp:s.dw c.dw x) (hq:c.pre s x) (pb:Nat) (n:Int) (hn:0<=n/\n<=1000000000) (hm:s.may c.dX x=true) :
 Qa prog 85 #[Qb pb] [aJ pb m d n,g,gK,gF] (K8 c pb n s x):=by
 have hd:=dP h hs hx hp pb n;rw [hm] at hd;have hni:s.isNil=false:=by cases s <;> first | rfl | cases hm
 have hdo:∀ aY aI,c.rep x aY aI->jT prog d [g,aY,aI] (nD c s x):=fun _ _ hx'=>EH h hni hs hx' hq
 obtain ⟨fn,first,aK,rfl⟩:=h.vg hni hs;have HV:=Vh (show ∀ (s:c.S) m d g,c.SV s m d g->eQ m/\eQ d from fun _ _ _ _ hv=>h.vals hv);refine GO fun w HT=>?_
 have HD:=Vh hd;have HO:=Vh hdo;obtain ⟨hn0,hn1⟩:=hn;clear hs h hd hp hx hm hq hni hdo;go_enter func85,ntmps85
 go_wp2_with fail
 refine Qa.run HD HT [0,1,2,3] ?_
 rintro e w1 gs ⟨JU,JQ,rfl,hx',rfl⟩ HT;simp only [PU] at HT;obtain ⟨c1,c2⟩:=HT.c2 0 0 1 2;have f2:=HT.f 0 0 2;have hf:=HO.out _ _ hx';clear hx';simp only [aC] at c1 c2;obtain ⟨fn',first',dS,hv,eg,hf⟩:=hf
 obtain ⟨rfl,rfl,rfl⟩:fn=fn'/\first=first'/\aK=dS:=by
  cases hv
  exact ⟨rfl,rfl,rfl⟩
 have HF:=Vh hf;clear hf hv;go_wp2_with fail
 refine Qa.run HF (HT.set 0 0 rfl 2 (WL WM (n+1))) [1,2,3] ?_
 rintro e w1 gs ⟨m',d',g',aY,aI,rfl,hs',hx',rfl⟩ HT;simp only [PU] at HT;obtain ⟨e0,e1⟩:=HT.c2 0 0 0 1;obtain ⟨f0,f1⟩:=HT.f2 0 0 0 1;have hv2:=HV.out _ _ _ _ hs';obtain ⟨st1,st2⟩:=aG (P:=prog) hv2.1 hv2.2 e0 f0 e1 f1;have HS:=Vh hs';have HX:=Vh hx';clear hs' hx' hv2;go_wp2
 go_ret
 exact ⟨_,⟨m',d',g',aY,aI,rfl,HS,HX,rfl⟩,(HT.set 0 0 rfl 0 _).set 0 0 rfl 1 _⟩
end aZ
namespace aZ
variable {c:aZ}
theorem bS (h:c.iA) {s:c.S} {f:c.M} {m d v:Value} {g gm:List ak} (hn:s.isNil=false) (hs:c.SV s m d g) (hm:c.VM f v gm) :
 Qa prog 196 #[.agg #[m,d],v] [g,gm] fun e gs=>∃ bs br,e=WO (.agg #[m,WQ (WR 237) #[] #[Qb bs,Qb br]])/\gs=[[cl bs 153 #[m,d],cl br 151 #[v]]++g++gm]:=by
 obtain ⟨fn,first,aK,rfl⟩:=h.vg hn hs;refine GO fun w HT=>?_
 have HS:=Vh hs;have HM:=Vh hm;have HN:=Vh hn;obtain ⟨v1,_⟩:=h.vals hs;obtain ⟨fn0,yL,CY,rfl⟩:=h.vm hm;clear hm hs h hn;have q1:=fun w=>GN (.func fn) first aK w
 rcases v1 with rfl | ⟨pO,eF,fZ,rfl⟩
 all_goals
  go_enter func196,ntmps196
  go_wp2
  exact XB (v:=.agg #[_,_]) (by simp [results,results196,go_sem]) rfl ⟨_,⟨w.heap.size,w.heap.size+1,rfl,rfl⟩,(((HT.a _ _).alloc (k:=w.heap.size+1) (by simp) _ _).aN _).sum⟩
end aZ
structure Nd where
 b:Nat
 v:List Value
def nxV (q:Value):List Nd->Value
 | []=>q
 | a::_=>Qb a.b
def gG (p:Value):List Nd->Value
 | []=>p
 | a::l=>gG (Qb a.b) l
def X4 (T:TypeId) (hb:Nat):Value->Value->List Nd->List ak
 | _,_,[]=>[]
 | p,q,a::l=>cl a.b T (a.v++[p,nxV q l,Qb hb]).toArray::X4 T hb (Qb a.b) q l
@[simp] theorem ic (q:Value):nxV q []=q:=rfl
@[simp] theorem aQ (q:Value) (a:Nd) (l:List Nd):nxV q (a::l)=Qb a.b:=rfl
theorem qud (q:Value) (l m:List Nd):nxV q (l++m)=nxV (nxV q m) l:=by cases l <;> rfl
theorem Lj (p:Value) (l m:List Nd):gG p (l++m)=gG (gG p l) m:=by
 induction l generalizing p with
 | nil=>rfl
 | cons a l ih=>exact ih _
theorem Jt (T:TypeId) (hb:Nat) (p q:Value) (l m:List Nd):X4 T hb p q (l++m)=X4 T hb p (nxV q m) l++X4 T hb (gG p l) q m:=by
 induction l generalizing p with
 | nil=>rfl
 | cons a l ih =>
   simp only [WV,X4,gG];rw [ih,qud]
theorem GR (p:Value) (l:List Nd) (y:Nd):gG p (l++[y])=Qb y.b:=by rw [Lj];rfl
theorem UT (l:List Nd):l=[]\/∃ m y,l=m++[y]:=by
 rcases List.eq_nil_or_concat l with h | ⟨m,y,h⟩
 ·exact .inl h
 ·exact .inr ⟨m,y,by rw [h,List.concat_eq_append]⟩
def UN (LT NT:TypeId) (K:Nat) (lb hb:Nat) (l:List Nd) (g:List ak):Prop :=
 (∀ a∈l,a.v.length=K)/\g=cl lb LT #[nxV (WK none) l,gG (WK none) l,WL WM l.length,Qb hb]::cl hb 282 #[WK none]::X4 NT hb (WK none) (WK none) l
theorem Ub (hb:Nat):Qe prog 192 #[Qb hb] [[cl hb 282 #[WK none]]] (Qb hb):=by
 refine GO fun w HT=>?_
 have c0:=HT.c 0 0 0;simp only [bR] at c0;go_enter func192,ntmps192
 go_wp2
 go_loopw [0] (fun v wr=>v=Qb hb/\wr=w) (fun _ _=>0)
 case atStart=>exact ⟨rfl,rfl⟩
 case round =>
  obtain ⟨rfl,rfl⟩:=hrel;go_wp2
  go_ret
  exact ⟨rfl,0,rfl⟩
def zz (lb hb:Nat) (l:List Nd) (g:List ak):Prop:=UN 317 378 1 lb hb l g
theorem Rx:Qa prog 175 #[] [] fun e gs=>∃ lb hb g,e=WO (Qb lb)/\zz lb hb [] g/\gs=[g]:=by
 refine GO fun w HT=>?_
 go_enter func175,ntmps175
 go_wp2
 go_ret
 exact ⟨_,⟨_,_,_,rfl,⟨(by intro a h;cases h),rfl⟩,rfl⟩,((HT.alloc rfl _ _).alloc rfl _ _).re (by simp [X4,nxV,gG];exact List.Perm.swap _ _ _)⟩
section
variable {lb hb:Nat} {l:List Nd} {g:List ak}
theorem qtw (hg:zz lb hb l g):Qe prog 337 #[Qb lb] [g] (WL WM l.length):=by
 obtain ⟨_,rfl⟩:=hg;refine GO fun w HT=>?_
 have c2:=HT.c 0 0 2;simp only [aC] at c2;go_enter func337,ntmps337
 go_wp2
 go_ret
 exact ⟨rfl,0,rfl⟩
theorem qnc (hg:zz lb hb l g):Qe prog 324 #[Qb lb] [g] (nxV (WK none) l):=by
 obtain ⟨_,rfl⟩:=hg;obtain ⟨v,hv⟩:∃ v,nxV (WK none) l=v:=⟨_,rfl⟩;rw [hv];have hp:∃ o,v=.pointer o:=by subst hv;cases l <;> exact ⟨_,rfl⟩
 obtain ⟨o,rfl⟩:=hp;refine GO fun w HT=>?_
 have c0:=HT.c 0 0 0;simp only [aC] at c0;clear hv;go_enter func324,ntmps324
 go_wp2
 go_ret
 exact ⟨rfl,0,rfl⟩
theorem Rz (hg:zz lb hb l g) (hn:l.length<=1000000000) (nb:Nat) (ve p0 q0:Value) :
 Qa prog 321 #[Qb lb,Qb nb] [g,[cl nb 378 #[ve,p0,q0,WK none]]] fun e gs=>e=WO (WL WM 0)/\∃ g',zz lb hb (l++[⟨nb,[ve]⟩]) g'/\gs=[g']:=by
 obtain ⟨hk,rfl⟩:=hg;rcases UT l with rfl | ⟨m,y,rfl⟩
 ·refine GO fun w HT=>?_
  obtain ⟨c0,c1,c2,c3⟩:=HT.c4 0 0 0 1 2 3;obtain ⟨sM,pN,kg,FN⟩:=HT.f4 0 0 0 1 2 3;simp only [nxV,gG,WW,aC] at c0 c1 c2 c3;obtain ⟨d1,d2,d3⟩:=HT.c3 1 0 1 2 3;obtain ⟨fd1,vw,wE⟩:=HT.f3 1 0 1 2 3;simp only [nxV,aC] at d1 d2 d3;go_enter func321,ntmps321
  go_wp2
  go_region
  have HT:=Vh ((((HT.set 1 0 rfl 3 (Qb hb)).set 1 0 rfl 1 (WK none)).set 1 0 rfl 2 (WK none)).drew);clear c0 c1 c2 c3 sM pN kg FN d1 d2 d3 fd1 vw wE;generalize XJ _=w1 at HT |-;obtain ⟨c0,c1,c2⟩:=HT.c3 0 0 0 1 2;obtain ⟨sM,pN,kg⟩:=HT.f3 0 0 0 1 2;simp only [nxV,gG,WW,aC] at c0 c1 c2;go_wp2
  go_ret
  exact ⟨_,⟨rfl,_,⟨(by intro a h;simp only [WU,XG] at h;subst h;rfl),rfl⟩,rfl⟩,(((HT.set 0 0 rfl 0 _).set 0 0 rfl 1 _).set 0 0 rfl 2 _).eq rfl⟩
 ·obtain ⟨b,v⟩:=y
  have hv:v.length=1:=hk ⟨b,v⟩ (by simp)
  obtain ⟨y0,rfl⟩:∃ y0,v=[y0]:=by
   match v,hv with
   | [y0],_=>exact ⟨y0,rfl⟩
  have hk2:∀ a∈(m++[(⟨b,[y0]⟩:Nd)])++[⟨nb,[ve]⟩],a.v.length=1:=by
   intro a h;rcases XT.1 h with h | h
   ·exact hk a h
   ·simp only [XG] at h;subst h;rfl
  have HK:=Vh hk2;clear hk2;refine GO fun w HT=>?_
  have HL:=Vh hn;have T1:=HT.sum (H':=[[cl lb 317 #[nxV (WK none) (m++[⟨b,[y0]⟩]),Qb b,(WL WM ((m.length+1:Nat):Int)),Qb hb]],[cl hb 282 #[WK none]],X4 378 hb (WK none) (Qb b) m,[cl b 378 #[y0,gG (WK none) m,WK none,Qb hb]],[cl nb 378 #[ve,p0,q0,WK none]]]) (fun n ha h0 h1 h2=>by rw [Jt];simp only [XC,WS,WW,XK,GR,X4,ic,aQ,WV,WU,WY,XA,WZ,ha,h0,h1,h2] <;> omega);have HT:=Vh T1;clear hk hn hv T1;obtain ⟨c0,c1,c2,c3⟩:=HT.c4 0 0 0 1 2 3;obtain ⟨pN,kg⟩:=HT.f2 0 0 1 2;simp only [nxV,aC] at c0 c1 c2 c3;obtain ⟨d1,d2,d3⟩:=HT.c3 4 0 1 2 3;obtain ⟨fd1,vw,wE⟩:=HT.f3 4 0 1 2 3;simp only [nxV,aC] at d1 d2 d3;have e2:=HT.c 3 0 2;have FO:=HT.f 3 0 2;simp only [nxV,aC] at e2;have hlb:m.length+1<=1000000000:=by have:=HL.out;simpa using this
  go_enter func321,ntmps321
  go_wp2
  go_region
  have HT:=Vh ((((HT.set 4 0 rfl 3 (Qb hb)).set 4 0 rfl 1 (Qb b)).set 4 0 rfl 2 (WK none)).drew);clear c0 c1 c2 c3 pN kg d1 d2 d3 fd1 vw wE;generalize XJ _=w1 at HT |-;obtain ⟨c1,c2⟩:=HT.c2 0 0 1 2;obtain ⟨pN,kg⟩:=HT.f2 0 0 1 2;simp only [nxV,aC] at c1 c2;have e2:=HT.c 3 0 2;have FO:=HT.f 3 0 2;simp only [nxV,aC] at e2;have ne1:=HT.ne 0 0 3 0 (by decide) rfl rfl;simp only [] at ne1;have oI:=XH ne1;go_wp2
  go_ret
  exact ⟨_,⟨rfl,_,⟨HK,rfl⟩,rfl⟩,((((HT.set 3 0 rfl 2 _).set 0 0 rfl 1 _).set 0 0 rfl 2 _).eq (H':=[[cl lb 317 #[nxV (WK none) (m++[⟨b,[y0]⟩]),Qb nb,(WL WM ((m.length+1+1:Nat):Int)),Qb hb]],[cl hb 282 #[WK none]],X4 378 hb (WK none) (Qb b) m,[cl b 378 #[y0,gG (WK none) m,Qb nb,Qb hb]],[cl nb 378 #[ve,Qb b,WK none,Qb hb]]]) rfl).sum (fun n ha h0 h1 h2=>by rw [Jt,Jt,show nxV (WK none) (m++[⟨b,[y0]⟩]++[⟨nb,[ve]⟩])=nxV (WK none) (m++[⟨b,[y0]⟩]) from by cases m <;> rfl];simp only [XC,WS,WW,XK,GR,Lj,gG,X4,ic,aQ,WV,WU,WY,XA,WZ,ha,h0,h1,h2] <;> omega)⟩
end
def Yp (lb hb:Nat) (l:List Nd) (g:List ak):Prop:=UN 261 192 4 lb hb l g
section
variable {lb hb:Nat} {l:List Nd} {g:List ak}
theorem qv (hg:Yp lb hb l g):Qe prog 106 #[Qb lb] [g] (WL WM l.length):=by
 obtain ⟨_,rfl⟩:=hg;refine GO fun w HT=>?_
 have c2:=HT.c 0 0 2;simp only [aC] at c2;go_enter func106,ntmps106
 go_wp2
 go_ret
 exact ⟨rfl,0,rfl⟩
theorem qnd (hg:Yp lb hb l g):Qe prog 107 #[Qb lb] [g] (nxV (WK none) l):=by
 obtain ⟨_,rfl⟩:=hg;obtain ⟨v,hv⟩:∃ v,nxV (WK none) l=v:=⟨_,rfl⟩;rw [hv];have hp:∃ o,v=.pointer o:=by subst hv;cases l <;> exact ⟨_,rfl⟩
 obtain ⟨o,rfl⟩:=hp;refine GO fun w HT=>?_
 have c0:=HT.c 0 0 0;simp only [aC] at c0;clear hv;go_enter func107,ntmps107
 go_wp2
 go_ret
 exact ⟨rfl,0,rfl⟩
theorem qtx (hg:Yp lb hb l g) (hn:l.length<=1000000000) (nb:Nat) (va vb vc vd p0 q0:Value) :
 Qa prog 344 #[Qb lb,Qb nb] [g,[cl nb 192 #[va,vb,vc,vd,p0,q0,WK none]]] fun e gs=>e=WO (WL WM 0)/\∃ g',Yp lb hb (l++[⟨nb,[va,vb,vc,vd]⟩]) g'/\gs=[g']:=by
 obtain ⟨hk,rfl⟩:=hg;rcases UT l with rfl | ⟨m,y,rfl⟩
 ·refine GO fun w HT=>?_
  obtain ⟨c0,c1,c2,c3⟩:=HT.c4 0 0 0 1 2 3;obtain ⟨sM,pN,kg,FN⟩:=HT.f4 0 0 0 1 2 3;simp only [nxV,gG,WW,aC] at c0 c1 c2 c3;obtain ⟨d4,d5,d6⟩:=HT.c3 1 0 4 5 6;obtain ⟨wF,wG,wH⟩:=HT.f3 1 0 4 5 6;simp only [nxV,aC] at d4 d5 d6;go_enter func344,ntmps344
  go_wp2
  go_region
  have HT:=Vh ((((HT.set 1 0 rfl 6 (Qb hb)).set 1 0 rfl 4 (WK none)).set 1 0 rfl 5 (WK none)).drew);clear c0 c1 c2 c3 sM pN kg FN d4 d5 d6 wF wG wH;generalize XJ _=w1 at HT |-;obtain ⟨c0,c1,c2⟩:=HT.c3 0 0 0 1 2;obtain ⟨sM,pN,kg⟩:=HT.f3 0 0 0 1 2;simp only [nxV,gG,WW,aC] at c0 c1 c2;go_wp2
  go_ret
  exact ⟨_,⟨rfl,_,⟨(by intro a h;simp only [WU,XG] at h;subst h;rfl),rfl⟩,rfl⟩,(((HT.set 0 0 rfl 0 _).set 0 0 rfl 1 _).set 0 0 rfl 2 _).eq rfl⟩
 ·obtain ⟨b,v⟩:=y
  have hv:v.length=4:=hk ⟨b,v⟩ (by simp)
  obtain ⟨y0,y1,y2,y3,rfl⟩:∃ y0 y1 y2 y3,v=[y0,y1,y2,y3]:=by
   match v,hv with
   | [y0,y1,y2,y3],_=>exact ⟨y0,y1,y2,y3,rfl⟩
  have hk2:∀ a∈(m++[(⟨b,[y0,y1,y2,y3]⟩:Nd)])++[⟨nb,[va,vb,vc,vd]⟩],a.v.length=4:=by
   intro a h;rcases XT.1 h with h | h
   ·exact hk a h
   ·simp only [XG] at h;subst h;rfl
  have HK:=Vh hk2;clear hk2;refine GO fun w HT=>?_
  have HL:=Vh hn;have T1:=HT.sum (H':=[[cl lb 261 #[nxV (WK none) (m++[⟨b,[y0,y1,y2,y3]⟩]),Qb b,(WL WM ((m.length+1:Nat):Int)),Qb hb]],[cl hb 282 #[WK none]],X4 192 hb (WK none) (Qb b) m,[cl b 192 #[y0,y1,y2,y3,gG (WK none) m,WK none,Qb hb]],[cl nb 192 #[va,vb,vc,vd,p0,q0,WK none]]]) (fun n ha h0 h1 h2=>by rw [Jt];simp only [XC,WS,WW,XK,GR,X4,ic,aQ,WV,WU,WY,XA,WZ,ha,h0,h1,h2] <;> omega);have HT:=Vh T1;clear hk hn hv T1;obtain ⟨c0,c1,c2,c3⟩:=HT.c4 0 0 0 1 2 3;obtain ⟨pN,kg⟩:=HT.f2 0 0 1 2;simp only [nxV,aC] at c0 c1 c2 c3;obtain ⟨d4,d5,d6⟩:=HT.c3 4 0 4 5 6;obtain ⟨wF,wG,wH⟩:=HT.f3 4 0 4 5 6;simp only [nxV,aC] at d4 d5 d6;have e5:=HT.c 3 0 5;have fe5:=HT.f 3 0 5;simp only [nxV,aC] at e5;have hlb:m.length+1<=1000000000:=by have:=HL.out;simpa using this
  go_enter func344,ntmps344
  go_wp2
  go_region
  have HT:=Vh ((((HT.set 4 0 rfl 6 (Qb hb)).set 4 0 rfl 4 (Qb b)).set 4 0 rfl 5 (WK none)).drew);clear c0 c1 c2 c3 pN kg d4 d5 d6 wF wG wH;generalize XJ _=w1 at HT |-;obtain ⟨c1,c2⟩:=HT.c2 0 0 1 2;obtain ⟨pN,kg⟩:=HT.f2 0 0 1 2;simp only [nxV,aC] at c1 c2;have e5:=HT.c 3 0 5;have fe5:=HT.f 3 0 5;simp only [nxV,aC] at e5;have ne1:=HT.ne 0 0 3 0 (by decide) rfl rfl;simp only [] at ne1;have oI:=XH ne1;go_wp2
  go_ret
  exact ⟨_,⟨rfl,_,⟨HK,rfl⟩,rfl⟩,((((HT.set 3 0 rfl 5 _).set 0 0 rfl 1 _).set 0 0 rfl 2 _).eq (H':=[[cl lb 261 #[nxV (WK none) (m++[⟨b,[y0,y1,y2,y3]⟩]),Qb nb,(WL WM ((m.length+1+1:Nat):Int)),Qb hb]],[cl hb 282 #[WK none]],X4 192 hb (WK none) (Qb b) m,[cl b 192 #[y0,y1,y2,y3,gG (WK none) m,Qb nb,Qb hb]],[cl nb 192 #[va,vb,vc,vd,Qb b,WK none,Qb hb]]]) rfl).sum (fun n ha h0 h1 h2=>by rw [Jt,Jt,show nxV (WK none) (m++[⟨b,[y0,y1,y2,y3]⟩]++[⟨nb,[va,vb,vc,vd]⟩])=nxV (WK none) (m++[⟨b,[y0,y1,y2,y3]⟩]) from by cases m <;> rfl];simp only [XC,WS,WW,XK,GR,Lj,gG,X4,ic,aQ,WV,WU,WY,XA,WZ,ha,h0,h1,h2] <;> omega)⟩
end
theorem qp3 {c:aZ} (h:c.iA) {s:c.S} {m d:Value} {g:List ak} (hs:c.SV s m d g) (pb:Nat) (n:Int):Qe prog 150 #[Qb pb] [aZ.aJ pb m d n] (.bool s.isNil):=by
 cases hn:s.isNil with
 | true =>
   have:s=.nil:=by cases s <;> first | rfl | cases hn
   subst this;obtain ⟨rfl,rfl,rfl⟩:=aZ.SV.nil hs;refine GO fun w HT=>?_
   have c1:=HT.c 0 0 1;simp only [aZ.aJ,aC] at c1;have q1:=fun w=>Ew w
   clear hs h;go_enter func150,ntmps150
   go_wp2
   go_ret
   exact ⟨rfl,0,rfl⟩
 | false =>
   obtain ⟨fn,first,aK,rfl⟩:=h.vg hn hs;refine GO fun w HT=>?_
   have c1:=HT.c 0 0 1;simp only [aZ.aJ,aC] at c1;have q1:=fun w=>GN (.func fn) first aK w
   clear hs h;go_enter func150,ntmps150
   go_wp2
   go_ret
   exact ⟨rfl,0,rfl⟩
structure kT where
 M:Type
 A:Type
 Y:Type
 α:Type
 E:Type
 le:E->E->Prop
 rep:E->α->List ak->List ak->Prop
 VM:E->M->Value->List ak->Prop
 VA:E->A->Value->List ak->Prop
 VY:E->Y->Value->List ak->Prop
 runM:M->α->St M A Y × α
 bP:A->α->α
 dX:Y->α->Bool
 iT:M->α->Prop
 iR:A->α->Prop
 dw:Y->α->Prop
namespace kT
variable (c:kT)
def on (e:c.E):aZ:=⟨c.M,c.A,c.Y,c.α,c.rep e,c.VM e,c.VA e,c.VY e,c.runM,c.bP,c.dX,c.iT,c.iR,c.dw⟩
abbrev S:Type:=St c.M c.A c.Y
def run (s:c.S) (x:c.α):c.S × c.α:=St.run c.runM c.bP s x
def pre (s:c.S) (x:c.α):Prop:=St.pre c.runM c.bP c.iT c.iR s x
def thn (s:c.S) (m:c.M) (x:c.α):c.S × c.α:=Qd c.runM s m x
def SV (e:c.E) (s:c.S) (m d:Value) (g:List ak):Prop:=(c.on e).SV s m d g
structure Ok:Prop where
 refl:∀ e,c.le e e
 trans:∀ {a b d},c.le a b->c.le b d->c.le a d
 mm:∀ {e e':c.E} {f:c.M} {v:Value} {g:List ak},c.le e e'->c.VM e f v g->c.VM e' f v g
 ma:∀ {e e':c.E} {f:c.A} {v:Value} {g:List ak},c.le e e'->c.VA e f v g->c.VA e' f v g
 m:∀ {e:c.E} {f:c.M} {v:Value} {g gK gF:List ak} {x:c.α},c.VM e f v g->c.rep e x gK gF->c.iT f x ->
  jT prog v [g,gK,gF] fun en gs=>∃ e',c.le e e'/\∃ m d g' aY aI,en=WO (.agg #[m,d])/\c.SV e' (c.runM f x).1 m d g'/\c.rep e' (c.runM f x).2 aY aI/\gs=[g',aY,aI]
 a:∀ {e:c.E} {f:c.A} {v:Value} {g gK gF:List ak} {x:c.α},c.VA e f v g->c.rep e x gK gF->c.iR f x ->
  jT prog v [g,gK,gF] fun en gs=>∃ e',c.le e e'/\∃ aY aI,en=WO (.tuple #[])/\c.rep e' (c.bP f x) aY aI/\gs=[[],aY,aI]
 y:∀ {e:c.E} {f:c.Y} {v:Value} {g gK gF:List ak} {x:c.α},c.VY e f v g->c.rep e x gK gF->c.dw f x ->
  jT prog v [g,gK,gF] fun en gs=>∃ aY aI,en=WO (.bool (c.dX f x))/\c.rep e x aY aI/\gs=[g,aY,aI]
 v:∀ e,(c.on e).iA
variable {c}
theorem Ok.vg (h:c.Ok) {e:c.E} {s:c.S} {m d:Value} {g:List ak} (hs:s.isNil=false) (v:c.SV e s m d g):∃ fn first aK,d=WQ (WR fn) first aK:=(h.v e).vg hs v
theorem Ok.vals (h:c.Ok) {e:c.E} {s:c.S} {m d:Value} {g:List ak} (v:c.SV e s m d g):aZ.eQ m/\aZ.eQ d:=(h.v e).vals v
theorem Ok.vm (h:c.Ok) {e:c.E} {f:c.M} {v:Value} {g:List ak} (hv:c.VM e f v g):∃ fn first aK,v=WQ (WR fn) first aK:=(h.v e).vm hv
theorem Ok.va (h:c.Ok) {e:c.E} {f:c.A} {v:Value} {g:List ak} (hv:c.VA e f v g):∃ fn first aK,v=WQ (WR fn) first aK:=(h.v e).va hv
theorem LQ (h:c.Ok) {e:c.E} {s:c.S} {f:c.M} {m d v:Value} {g gm gK gF:List ak} {x:c.α} (hs:c.SV e s m d g) (hm:c.VM e f v gm) (hx:c.rep e x gK gF) (hp:s.isNil=true->c.iT f x) :
 Qa prog 196 #[.agg #[m,d],v] [g,gm,gK,gF] fun en gs=>∃ e',c.le e e'/\∃ m' d' g' aY aI,en=WO (.agg #[m',d'])/\c.SV e' (c.thn s f x).1 m' d' g'/\c.rep e' (c.thn s f x).2 aY aI/\gs=[g',aY,aI]:=by
 cases hn:s.isNil with
 | true =>
   have:s=.nil:=by cases s <;> first | rfl | cases hn
   subst this;obtain ⟨rfl,rfl,rfl⟩:=aZ.SV.nil (c:=c.on e) hs;obtain ⟨fn,first,aK,rfl,eg,hd⟩:=h.m hm hx (hp rfl);refine GO fun w HT=>?_
   have HD:=Vh hd;have HV:=Vh (show ∀ e' (s:c.S) m d g,c.SV e' s m d g->aZ.eQ m/\aZ.eQ d from fun _ _ _ _ _ hv=>h.vals hv);clear hd hm hx hp hs h;have q1:=fun w=>Ew w
   go_enter func196,ntmps196
   go_wp2_with fail
   refine (Qa.use HD (((HT.a _ _).alloc (k:=w.heap.size+1) (by simp) _ _).alloc (k:=w.heap.size+1+1) (by simp) _ _) [1,2,3] rfl rfl).mono ?_
   rintro en w1 ⟨gs,⟨e',hle,m',d',g',aY,aI,rfl,hs',hx',rfl⟩,Ta⟩;simp only [PU] at Ta;obtain ⟨c0,c1⟩:=Ta.c2 6 0 0 1;obtain ⟨f0,f1⟩:=Ta.f2 6 0 0 1;have HT:=Vh Ta;have HS:=Vh hs';have HX:=Vh hx';have FH:=Vh hle;obtain ⟨v1,v2⟩:=HV.out _ _ _ _ _ hs';clear Ta hs' hx' hle;rcases v1 with rfl | ⟨pO,eF,fZ,rfl⟩ <;> rcases v2 with rfl | ⟨Dk,lu,o9,rfl⟩
   all_goals
    go_wp2
    exact XB (v:=.agg #[_,_]) (by simp [results,results196,go_sem,c0,c1]) rfl ⟨_,⟨e',FH,_,_,g',aY,aI,rfl,HS,HX,rfl⟩,((HT.set 6 0 rfl 0 _).set 6 0 rfl 1 _).p [1,2,3]⟩
 | false =>
   have e1:c.thn s f x=(.thn s f,x):=by cases s <;> first | rfl | cases hn
   rw [e1];intro w hw;refine (Qa.use (aZ.dD (c:=c.on e) (h.v e) hn hs hm) (TG.refl hw) [0,1] rfl rfl).mono ?_
   rintro en w' ⟨gs,⟨m',d',g',he,hs',rfl⟩,T⟩;exact ⟨_,⟨e,h.refl e,m',d',g',gK,gF,he,hs',hx,rfl⟩,T.p [0,2,3]⟩
def nD (c:kT) (e:c.E) (s:c.S) (x:c.α) (en:XL) (gs:GH):Prop :=
 ∃ e',c.le e e'/\∃ m d g gK gF,en=WO (.agg #[m,d])/\c.SV e' (c.run s x).1 m d g/\c.rep e' (c.run s x).2 gK gF/\gs=[g,gK,gF]
theorem LM (h:c.Ok) {e:c.E} {a:c.A} {m d:Value} {g gK gF:List ak} {x:c.α} (hs:c.SV e (.ai a) m d g) (hx:c.rep e x gK gF) (hp:c.iR a x):jT prog d [g,gK,gF] (nD c e (.ai a) x):=by
 obtain ⟨rfl,bf,bl,bi,b,o,D,va,ga,rfl,hva,hD,rfl⟩:=hs;obtain ⟨fn,first,aK,rfl,eg,hd⟩:=h.a hva hx hp;refine ⟨_,_,_,rfl,enters_of func209 (by kernel_rfl) rfl,?_⟩
 refine GO fun w HT=>?_
 have HT:=Vh (HT.out.sum (H':=[[cl bf 1 #[WQ (WR fn) first aK]],[cl bl 322 #[.slice (some ⟨b,o,none⟩) 1 1]],[cl bi 3 #[WL WM 0]],[cl b 1 D],ga,gK,gF]));have c0:=HT.c 0 0 0;have tV:=HT.l 0 0;simp only [] at tV;have HD:=Vh hd;clear hd hx hp hva h;simp only [bR] at c0;go_enter func209,ntmps209
 go_wp2_with fail
 refine Qa.run HD (HT.a _ _) [4,5,6] ?_
 rintro e w1 gs ⟨e',hle,aY,aI,rfl,hx',rfl⟩ HT;simp only [PU] at HT;have c1:=HT.c 1 0 0;have c2:=HT.c 2 0 0;have HX:=Vh (XO hle hx');clear hx' hle c0;simp only [bR] at c1 c2;go_wp2_with fail
 refine Qa.run (aZ.pz _ _) (HT) [] ?_
 rintro e w1 gs ⟨rfl,rfl⟩ HT;simp only [PU] at HT;obtain ⟨e0,e1⟩:=HT.c2 7 0 0 1;obtain ⟨f0,f1⟩:=HT.f2 7 0 0 1;clear c1 c2;go_wp2
 exact XB (v:=.agg #[WN,WN]) (by simp [results,results209,go_sem,e0,e1]) rfl ⟨_,⟨e',HX.1,_,_,[],aY,aI,rfl,⟨rfl,rfl,rfl⟩,HX.2,rfl⟩,((HT.set 7 0 rfl 0 _).set 7 0 rfl 1 _).p [4,5,6]⟩
theorem LP (h:c.Ok) {e:c.E} {a a':c.A} {m d:Value} {g gK gF:List ak} {x:c.α} (hs:c.SV e (.aP a a') m d g) (hx:c.rep e x gK gF) (hp:c.iR a x):jT prog d [g,gK,gF] (nD c e (.aP a a') x):=by
 obtain ⟨rfl,bf,bl,bi,b,va,vU,ga,l6,rfl,hva,nS,rfl⟩:=hs;obtain ⟨fn,first,aK,rfl,eg,hd⟩:=h.a hva hx hp;obtain ⟨fn',first',dS,rfl⟩:=h.va nS;refine ⟨_,_,_,rfl,enters_of func209 (by kernel_rfl) rfl,?_⟩
 refine GO fun w HT=>?_
 have HT:=Vh (HT.out.sum (H':=[[cl bf 1 #[WQ (WR fn) first aK]],[cl bl 322 #[.slice (some ⟨b,0,none⟩) 2 2]],[cl bi 3 #[WL WM 0]],[cl b 1 #[WQ (WR fn) first aK,WQ (WR fn') first' dS]],ga,gK,gF,l6]));have c0:=HT.c 0 0 0;have tV:=HT.l 0 0;simp only [] at tV;have HD:=Vh hd;have HA:=Vh (show ∀ e',c.le e e'->c.VA e' a' (WQ (WR fn') first' dS) l6 from fun e' hl=>h.ma hl nS);clear hd hx hp hva nS h;simp only [bR] at c0;go_enter func209,ntmps209
 go_wp2_with fail
 refine Qa.run HD (HT.a _ _) [4,5,6] ?_
 rintro e w1 gs ⟨e',hle,aY,aI,rfl,hx',rfl⟩ HT;simp only [PU] at HT;have c1:=HT.c 1 0 0;have c2:=HT.c 2 0 0;have HX:=Vh (XO hle hx');clear hx' hle c0;simp only [bR] at c1 c2;go_wp2_with fail
 refine Qa.run (aZ.eO (D:=#[WQ (WR fn) first aK,WQ (WR fn') first' dS]) (o:=1) rfl 1 (.inl rfl)) (HT) [3] ?_
 rintro e w1 gs ⟨JG,JI,JH,rfl,rfl⟩ HT;simp only [PU] at HT;obtain ⟨e0,e1⟩:=HT.c2 8 0 0 1;obtain ⟨f0,f1⟩:=HT.f2 8 0 0 1;clear c1 c2;go_wp2
 exact XB (v:=.agg #[WN,_]) (by simp [results,results209,go_sem,e0,e1]) rfl ⟨_,⟨e',HX.1,_,_,_,aY,aI,rfl,⟨rfl,JG,JI,JH,b,1,#[WQ (WR fn) first aK,WQ (WR fn') first' dS],_,l6,rfl,HA e' HX.1,rfl,rfl⟩,HX.2,rfl⟩,(((HT.set 8 0 rfl 0 _).set 8 0 rfl 1 _).p [3,5,6,7,9,10,11]).sum⟩
theorem ME (h:c.Ok) {e:c.E} {s:c.S} {f:c.M} {m d:Value} {g gK gF:List ak} {x:c.α} (hs:c.SV e (.thn s f) m d g) (hx:c.rep e x gK gF)
 (hi:∀ {m d:Value} {g:List ak},c.SV e s m d g->jT prog d [g,gK,gF] (nD c e s x)) (hp:(c.run s x).1.isNil=true->c.iT f (c.run s x).2):jT prog d [g,gK,gF] (nD c e (.thn s f) x):=by
 obtain ⟨bs,br,ds,vm,gs,gm,rfl,hn,hv,hm,rfl⟩:=hs;obtain ⟨fn,first,aK,rfl,eg,hd⟩:=hi hv;obtain ⟨fn',first',dS,rfl⟩:=h.vm hm
 have key:∀ e1 m' d' g' aY aI,c.le e e1->c.SV e1 (c.run s x).1 m' d' g'->c.rep e1 (c.run s x).2 aY aI->Qa prog 196 #[.agg #[m',d'],WQ (WR fn') first' dS] [g',gm,aY,aI] (nD c e (.thn s f) x) :=
  fun e1 m' d' g' aY aI hl h1 h2=>(LQ h h1 (h.mm hl hm) h2 hp).mono fun en gs ⟨e',hl',hr⟩=>⟨e',h.trans hl hl',hr⟩
 refine ⟨_,_,_,rfl,enters_of func237 (by kernel_rfl) rfl,?_⟩
 refine GO fun w HT=>?_
 have HT:=Vh (HT.out.sum (H':=[[cl bs 153 #[m,WQ (WR fn) first aK]],[cl br 151 #[WQ (WR fn') first' dS]],gs,gK,gF,gm]));have c0:=HT.c 0 0 1;have c1:=HT.c 1 0 0;have tV:=HT.l 0 0;have nU:=HT.l 1 0;simp only [] at tV nU;have HD:=Vh hd;have HK:=Vh key;have HV:=Vh (show ∀ e' (s:c.S) m d g,c.SV e' s m d g->aZ.eQ m/\aZ.eQ d from fun _ _ _ _ _ hv=>h.vals hv);clear hd hx hp hv hm hn hi key;simp only [aC] at c0 c1;go_enter func237,ntmps237
 go_wp2_with fail
 have HT:=Vh (HT.out.a 153 #[WN,WN])
 go_region_with (first
  | (go_at_call 196
     refine (Qa.use (HK _ _ _ _ _ _ yD wB jZ) (HT1) [2,5,3,4] rfl rfl).mono ?_
     rintro en w2 ⟨gs,⟨e2,hl2,m2,d2,g2,JV,JR,rfl,hs2,hx2,rfl⟩,Ta⟩;simp only [PU] at Ta;obtain ⟨e0,e1⟩:=Ta.c2 6 0 0 1;obtain ⟨f0,f1⟩:=Ta.f2 6 0 0 1;have hv2:=HV.out _ _ _ _ _ hs2;obtain ⟨st1,st2⟩:=aZ.aG (P:=prog) hv2.1 hv2.2 e0 f0 e1 f1;clear hv2;have HS2:=Vh hs2;have kH:=Vh (XO hl2 hx2);have HT2:=Vh Ta
     clear Ta hs2 hx2 hl2)
  | (refine (Qa.use HD (HT.drew) [2,3,4] rfl rfl).mono ?_
     rintro en w1 ⟨gs,⟨en1,hl1,m1,d1,g1,JU,JQ,rfl,hs1,hx1,rfl⟩,Ta⟩;simp only [PU] at Ta;have c2:=Ta.c 1 0 0;simp only [aC] at c2;have wB:=Vh hs1;have jZ:=Vh hx1;have yD:=Vh hl1;have HT1:=Vh Ta
     clear Ta hs1 hx1 hl1))
 all_goals
  go_wp2
  exact XB (v:=.agg #[_,_]) (by simp [results,results237,go_sem,e0,e1]) rfl ⟨_,⟨e2,kH.1,m2,d2,g2,JV,JR,rfl,HS2,kH.2,rfl⟩,((HT2.set 6 0 rfl 0 _).set 6 0 rfl 1 _).p [2,5,3]⟩
theorem EH (h:c.Ok):∀ {e:c.E} {s:c.S} {m d:Value} {g gK gF:List ak} {x:c.α},s.isNil=false->c.SV e s m d g->c.rep e x gK gF->c.pre s x->jT prog d [g,gK,gF] (nD c e s x)
 | _,.nil,_,_,_,_,_,_,hn,_,_,_=>by cases hn
 | _,.at none f,_,_,_,_,_,_,_,hs,hx,hp=>h.m hs.2 hx hp
 | _,.at (some y) f,_,_,_,gK,gF,_,_,hs,hx,hp=>by
   obtain ⟨g1,g2,h1,h2,rfl⟩:=hs;obtain ⟨fn,first,aK,hv,eg,hd⟩:=h.m h2 hx hp;refine ⟨fn,first,aK,hv,eg,fun w hw=>?_⟩
   have T:=(TG.refl hw).m [g1,g2,gK,gF];refine (Qa.use hd T [1,2,3] rfl rfl).mono ?_
   rintro en w' ⟨gs,⟨e',hl,m',d',g',aY,aI,he,hs',hx',rfl⟩,T'⟩;exact ⟨_,⟨e',hl,m',d',g',aY,aI,he,hs',hx',rfl⟩,T'.p [1,2,3]⟩
 | _,.ai a,_,_,_,_,_,_,_,hs,hx,hp=>LM h hs hx hp
 | _,.aP a b,_,_,_,_,_,_,_,hs,hx,hp=>LP h hs hx hp
 | _,.thn s f,_,_,_,_,_,_,_,hs,hx,hp=>by
   have hs':=hs;obtain ⟨bs,br,ds,vm,gs,gm,_,hn,_⟩:=hs';exact ME h hs hx (fun hv=>EH h hn hv hx hp.1) hp.2
def Eh (c:kT) (e:c.E) (s:c.S) (x:c.α) (g:List ak) (en:XL) (gs:GH):Prop:=∃ gK gF,en=WO (.bool (s.may c.dX x))/\c.rep e x gK gF/\gs=[g,gK,gF]
theorem fT:∀ {e:c.E} {s:c.S} {d:Value} {g:List ak} {x:c.α},c.Ok->s.isNil=false->c.SV e s WN d g->s.may c.dX x=true
 | _,.nil,_,_,_,_,hn,_=>by cases hn
 | _,.at none _,_,_,_,_,_,_=>rfl
 | e,.at (some y) _,_,_,_,h,_,v=>by
   obtain ⟨g1,g2,h1,_⟩:=v;obtain ⟨_,_,_,he⟩:=(h.v e).vy h1;cases he
 | _,.ai _,_,_,_,_,_,_=>rfl
 | _,.aP _ _,_,_,_,_,_,_=>rfl
 | _,.thn s _,_,_,_,h,_,v=>by
   obtain ⟨bs,br,ds,vm,gs,gm,_,hn,hv,_⟩:=v;exact fT (s:=s) h hn hv
theorem EG (h:c.Ok):∀ {e:c.E} {s:c.S} {f:Fn} {a b:Array Value} {d:Value} {g gK gF:List ak} {x:c.α},c.SV e s (.func f a b) d g->c.rep e x gK gF->s.dw c.dw x->jT prog (.func f a b) [g,gK,gF] (Eh c e s x g)
 | _,.nil,_,_,_,_,_,_,_,_,v,_,_=>by cases v.1
 | _,.at none _,_,_,_,_,_,_,_,_,v,_,_=>by cases v.1
 | _,.at (some y) _,_,_,_,_,_,gK,gF,_,v,hx,hp=>by
   obtain ⟨g1,g2,h1,h2,rfl⟩:=v;obtain ⟨fn,first,aK,hv,eg,hd⟩:=h.y h1 hx hp;refine ⟨fn,first,aK,hv,eg,fun w hw=>?_⟩
   have T:=(TG.refl hw).m [g1,g2,gK,gF];refine (Qa.use hd T [0,2,3] rfl rfl).mono ?_
   rintro en w' ⟨gs,⟨aY,aI,he,hx',rfl⟩,T'⟩;exact ⟨_,⟨aY,aI,he,hx',rfl⟩,TG.sum (H:=[g1,g2,aY,aI]) T'⟩
 | _,.ai _,_,_,_,_,_,_,_,_,v,_,_=>by cases v.1
 | _,.aP _ _,_,_,_,_,_,_,_,_,v,_,_=>by cases v.1
 | _,.thn s _,f,a,b,_,_,gK,gF,_,v,hx,hp=>by
   obtain ⟨bs,br,ds,vm,gs,gm,_,hn,hv,_,rfl⟩:=v;obtain ⟨fn,first,aK,hv',eg,hd⟩:=EG h hv hx hp;refine ⟨fn,first,aK,hv',eg,fun w hw=>?_⟩
   have T:=(TG.refl hw).sum (H':=[[cl bs 153 #[.func f a b,ds],cl br 151 #[vm]],gs,gm,gK,gF]);refine (Qa.use hd T [1,3,4] rfl rfl).mono ?_
   rintro en w' ⟨gs',⟨aY,aI,he,hx',rfl⟩,T'⟩;exact ⟨_,⟨aY,aI,he,hx',rfl⟩,TG.sum (H:=[[cl bs 153 #[.func f a b,ds],cl br 151 #[vm]],gs,gm,aY,aI]) T'⟩
open aZ (aJ)
theorem eU (h:c.Ok) {e:c.E} {s:c.S} {m d:Value} {g:List ak} (hs:c.SV e s m d g) (pb:Nat) (n:Int):Qe prog 150 #[Qb pb] [aJ pb m d n] (.bool s.isNil) :=
 qp3 (h.v e) hs pb n
theorem dP (h:c.Ok) {e:c.E} {s:c.S} {m d:Value} {g gK gF:List ak} {x:c.α} (hs:c.SV e s m d g) (hx:c.rep e x gK gF) (hp:s.dw c.dw x) (pb:Nat) (n:Int) :
 Qa prog 146 #[Qb pb] [aJ pb m d n,g,gK,gF] fun en gs=>∃ aY aI,en=WO (.bool (s.may c.dX x))/\c.rep e x aY aI/\gs=[aJ pb m d n,g,aY,aI]:=by
 have hd:=eU h hs pb n;cases hn:s.isNil with
 | true =>
   have:s=.nil:=by cases s <;> first | rfl | cases hn
   subst this;rw [hn] at hd;refine GO fun w HT=>?_
   have HD:=Vh hd;have HX:=Vh hx;clear hs h hd hn hp hx;go_enter func146,ntmps146
   go_wp2_with fail
   refine (Qe.use HD HT [0] rfl rfl).mono ?_
   rintro e w1 ⟨rfl,mq,rfl⟩;have HT:=Vh (HT.out.drewN mq);go_wp2
   go_ret
   exact ⟨_,⟨gK,gF,rfl,HX,rfl⟩,HT⟩
 | false =>
   rw [hn] at hd;obtain ⟨v1,_⟩:=h.vals hs;rcases v1 with rfl | ⟨pO,eF,fZ,rfl⟩
   ·have hm:=fT (x:=x) h hn hs
    rw [hm];refine GO fun w HT=>?_
    have c0:=HT.c 0 0 0;simp only [aJ,aC] at c0;have HD:=Vh hd;have HX:=Vh hx;have q1:=fun w=>Se w
    clear hs h hd hn hp hx hm;go_enter func146,ntmps146
    go_wp2_with fail
    refine (Qe.use HD HT [0] rfl rfl).mono ?_
    rintro e w1 ⟨rfl,mq,rfl⟩;have HT:=Vh (HT.out.drewN mq);go_wp2
    go_ret
    exact ⟨_,⟨gK,gF,rfl,HX,rfl⟩,HT⟩
   ·obtain ⟨fn,first,aK,hv,eg,hf⟩:=EG h hs hx hp
    obtain ⟨rfl,rfl,rfl⟩:pO=fn/\eF=first/\fZ=aK:=by
     cases hv
     exact ⟨rfl,rfl,rfl⟩
    obtain ⟨b,hb⟩:∃ b,s.may c.dX x=b:=⟨_,rfl⟩;unfold Eh at hf;rw [hb] at hf |-;refine GO fun w HT=>?_
    have c0:=HT.c 0 0 0;simp only [aJ,aC] at c0;have HD:=Vh hd;have HF:=Vh hf;have q1:=fun w=>TY (.func pO) eF fZ w
    clear hs h hd hn hp hx hb hf hv;go_enter func146,ntmps146
    go_wp2_with fail
    refine (Qe.use HD HT [0] rfl rfl).mono ?_
    rintro e w1 ⟨rfl,mq,rfl⟩;have HT:=Vh (HT.out.drewN mq);go_wp2_with fail
    refine Qa.run HF HT [1,2,3] ?_
    rintro e w1 gs ⟨aY,aI,rfl,hx',rfl⟩ HT;simp only [PU] at HT;have HX:=Vh hx';clear hx';go_wp2
    go_ret
    exact ⟨_,⟨aY,aI,rfl,HX,rfl⟩,HT⟩
def K8 (c:kT) (e:c.E) (pb:Nat) (n:Int) (s:c.S) (x:c.α) (en:XL) (gs:GH):Prop :=
 ∃ e',c.le e e'/\∃ m d g gK gF,en=WO (.bool true)/\c.SV e' (c.run s x).1 m d g/\c.rep e' (c.run s x).2 gK gF/\gs=[aJ pb m d (n+1),g,gK,gF]
theorem dQ (h:c.Ok) {e:c.E} {s:c.S} {m d:Value} {g gK gF:List ak} {x:c.α} (hs:c.SV e s m d g) (hx:c.rep e x gK gF) (hp:s.dw c.dw x) (pb:Nat) (n:Int) (hm:s.may c.dX x=false) :
 Qa prog 85 #[Qb pb] [aJ pb m d n,g,gK,gF] fun en gs=>∃ aY aI,en=WO (.bool false)/\c.rep e x aY aI/\gs=[aJ pb m d n,g,aY,aI]:=by
 have hd:=dP h hs hx hp pb n;rw [hm] at hd;refine GO fun w HT=>?_
 have HD:=Vh hd;clear hs h hd hp hx hm;go_enter func85,ntmps85
 go_wp2_with fail
 refine Qa.run HD HT [0,1,2,3] ?_
 rintro e w1 gs ⟨aY,aI,rfl,hx',rfl⟩ HT;simp only [PU] at HT;have HX:=Vh hx';clear hx';go_wp2
 go_ret
 exact ⟨_,⟨aY,aI,rfl,HX,rfl⟩,HT⟩
theorem fJ (h:c.Ok) {e:c.E} {s:c.S} {m d:Value} {g gK gF:List ak} {x:c.α} (hs:c.SV e s m d g) (hx:c.rep e x gK gF) (hp:s.dw c.dw x) (hq:c.pre s x) (pb:Nat) (n:Int) (hn:0<=n/\n<=1000000000) (hm:s.may c.dX x=true) :
 Qa prog 85 #[Qb pb] [aJ pb m d n,g,gK,gF] (K8 c e pb n s x):=by
 have hd:=dP h hs hx hp pb n;rw [hm] at hd;have hni:s.isNil=false:=by cases s <;> first | rfl | cases hm
 have hdo:∀ aY aI,c.rep e x aY aI->jT prog d [g,aY,aI] (nD c e s x):=fun _ _ hx'=>EH h hni hs hx' hq
 obtain ⟨fn,first,aK,rfl⟩:=h.vg hni hs;have HV:=Vh (show ∀ e' (s:c.S) m d g,c.SV e' s m d g->aZ.eQ m/\aZ.eQ d from fun _ _ _ _ _ hv=>h.vals hv);refine GO fun w HT=>?_
 have HD:=Vh hd;have HO:=Vh hdo;obtain ⟨hn0,hn1⟩:=hn;clear hs h hd hp hx hm hq hni hdo;go_enter func85,ntmps85
 go_wp2_with fail
 refine Qa.run HD HT [0,1,2,3] ?_
 rintro e w1 gs ⟨JU,JQ,rfl,hx',rfl⟩ HT;simp only [PU] at HT;obtain ⟨c1,c2⟩:=HT.c2 0 0 1 2;have f2:=HT.f 0 0 2;have hf:=HO.out _ _ hx';clear hx';simp only [aC] at c1 c2;obtain ⟨fn',first',dS,hv,eg,hf⟩:=hf
 obtain ⟨rfl,rfl,rfl⟩:fn=fn'/\first=first'/\aK=dS:=by
  cases hv
  exact ⟨rfl,rfl,rfl⟩
 have HF:=Vh hf;clear hf hv;go_wp2_with fail
 refine Qa.run HF (HT.set 0 0 rfl 2 (WL WM (n+1))) [1,2,3] ?_
 rintro e w1 gs ⟨e',hle,m',d',g',aY,aI,rfl,hs',hx',rfl⟩ HT;simp only [PU] at HT;obtain ⟨e0,e1⟩:=HT.c2 0 0 0 1;obtain ⟨f0,f1⟩:=HT.f2 0 0 0 1;have hv2:=HV.out _ _ _ _ _ hs';obtain ⟨st1,st2⟩:=aZ.aG (P:=prog) hv2.1 hv2.2 e0 f0 e1 f1;have HS:=Vh hs';have HX:=Vh (XO hle hx');clear hs' hx' hle hv2;go_wp2
 go_ret
 exact ⟨_,⟨e',HX.1,m',d',g',aY,aI,rfl,HS,HX.2,rfl⟩,(HT.set 0 0 rfl 0 _).set 0 0 rfl 1 _⟩
end kT
theorem Tryz.tN:(prog.info? 282).map (fun i=>(i.zero,i.size,i.bytes))=some (some (.agg #[WK none]),1,8):=by kernel_rfl
theorem Sf (b:Nat) (w:World):(binOp .eql 190 (Qb b) (Qb b)).run prog w=.ok (.bool true) w:=by
 obtain ⟨i,hi,_,_,_⟩:=info_parts Tryz.tN;exact run_eql_ptr_same w ⟨b,0,none⟩ underlying190 hi
theorem N5 (l:List Nd):l=[]\/∃ y m,l=y::m:=by cases l <;> simp
section
variable {lb hb:Nat} {l:List Nd} {g:List ak}
theorem qtu (nb:Nat) {ve:Value} (hg:zz lb hb (⟨nb,[ve]⟩::l) g):Qe prog 334 #[Qb lb,Qb nb] [g] (.bool true):=by
 obtain ⟨_,rfl⟩:=hg;refine GO fun w HT=>?_
 have HT:=Vh (HT.out.sum (H':=[[cl lb 317 #[Qb nb,gG (Qb nb) l,WL WM (⟨nb,[ve]⟩::l:List Nd).length,Qb hb]],[cl hb 282 #[WK none]],[cl nb 378 #[ve,WK none,nxV (WK none) l,Qb hb]],X4 378 hb (Qb nb) (WK none) l]) (fun n ha h0 h1 h2=>by simp only [X4,aQ,gG,WV,WU,WY,XA,WZ,ha,h0,h1,h2] <;> omega));have q1:=fun w=>Sf hb w
 have c3:=HT.c 0 0 3;simp only [aQ,aC] at c3;have d3:=HT.c 2 0 3;simp only [aQ,aC] at d3;go_enter func334,ntmps334
 go_wp2
 go_quiet ((first | (go_at_call 192;with_reducible exact Qe.quiet (Ub hb) HT.out _ [1] rfl rfl)))
 have HT:=Vh (HT.out.drewN nq);go_wp2
 go_ret
 exact ⟨rfl,_,rfl⟩
theorem qlc (nb:Nat) {ve:Value} (hg:zz lb hb (⟨nb,[ve]⟩::l) g) (hn:l.length<=1000000000) :
 Qa prog 319 #[Qb lb,Qb nb] [g] fun e gs=>e=WO (WL WM 0)/\∃ g',zz lb hb l g'/\gs=[g',[cl nb 378 #[ve,WK none,WK none,WK none]]]:=by
 have hh:=qtu nb hg;obtain ⟨hk,rfl⟩:=hg;have hk2:∀ a∈l,a.v.length=1:=fun a h=>hk a (XM _ h)
 rcases N5 l with rfl | ⟨⟨yb,yv⟩,m,rfl⟩
 ·refine GO fun w HT=>?_
  have HH:=Vh hh;have yC:=Vh hk2;clear hh hk hk2;go_enter func319,ntmps319
  go_wp2_with fail
  refine Qe.run HH HT [0] ?_
  rintro e wq rfl HT;have HT:=Vh (HT.out.eq (H':=[[cl lb 317 #[Qb nb,Qb nb,WL WM 1,Qb hb]],[cl hb 282 #[WK none]],[cl nb 378 #[ve,WK none,WK none,Qb hb]]]) rfl);obtain ⟨c0,c1,c2⟩:=HT.c3 0 0 0 1 2;obtain ⟨sM,pN,kg⟩:=HT.f3 0 0 0 1 2;simp only [aQ,aC] at c0 c1 c2;obtain ⟨d1,d2,d3⟩:=HT.c3 2 0 1 2 3;obtain ⟨fd1,vw,wE⟩:=HT.f3 2 0 1 2 3;simp only [aQ,aC] at d1 d2 d3;have ne1:=HT.ne 0 0 2 0 (by decide) rfl rfl;simp only [] at ne1;have oI:=XH ne1;go_wp2
  go_ret
  exact ⟨_,⟨rfl,_,⟨yC,rfl⟩,rfl⟩,((((((HT.set 0 0 rfl 0 _).set 0 0 rfl 1 _).set 2 0 rfl 1 _).set 2 0 rfl 2 _).set 2 0 rfl 3 _).set 0 0 rfl 2 _).eq rfl⟩
 ·have hyv:yv.length=1:=hk2 ⟨yb,yv⟩ XP
  obtain ⟨y0,rfl⟩:∃ y0,yv=[y0]:=by
   match yv,hyv with
   | [y0],_=>exact ⟨y0,rfl⟩
  refine GO fun w HT=>?_
  have HH:=Vh hh;have yC:=Vh hk2;have wO:m.length+1<=1000000000:=by simpa using hn
  clear hh hk hk2 hn hyv;go_enter func319,ntmps319
  go_wp2_with fail
  refine Qe.run HH HT [0] ?_
  rintro e wq rfl HT;have HT:=Vh (HT.out.sum (H':=[[cl lb 317 #[Qb nb,gG (Qb yb) m,(WL WM ((m.length+1+1:Nat):Int)),Qb hb]],[cl hb 282 #[WK none]],[cl nb 378 #[ve,WK none,Qb yb,Qb hb]],[cl yb 378 #[y0,Qb nb,nxV (WK none) m,Qb hb]],X4 378 hb (Qb yb) (WK none) m]) (fun n ha h0 h1 h2=>by simp only [X4,aQ,gG,WS,WV,WU,WY,XA,WZ,ha,h0,h1,h2] <;> omega));obtain ⟨c0,c2⟩:=HT.c2 0 0 0 2;obtain ⟨sM,kg⟩:=HT.f2 0 0 0 2;simp only [aQ,aC] at c0 c2;obtain ⟨d1,d2,d3⟩:=HT.c3 2 0 1 2 3;obtain ⟨fd1,vw,wE⟩:=HT.f3 2 0 1 2 3;simp only [aQ,aC] at d1 d2 d3;have e1:=HT.c 3 0 1;have eD:=HT.f 3 0 1;simp only [aQ,aC] at e1;have ne1:=HT.ne 0 0 2 0 (by decide) rfl rfl;have xS:=HT.ne 0 0 3 0 (by decide) rfl rfl;have xU:=HT.ne 2 0 3 0 (by decide) rfl rfl;simp only [] at ne1 xS xU;have oI:=XH ne1;have Ph:=XH xS;have Pj:=XH xU;go_wp2
  have HT:=Vh ((HT.set 0 0 rfl 0 (Qb yb)).eq (H':=[[cl lb 317 #[Qb yb,gG (Qb yb) m,(WL WM ((m.length+1+1:Nat):Int)),Qb hb]],[cl hb 282 #[WK none]],[cl nb 378 #[ve,WK none,Qb yb,Qb hb]],[cl yb 378 #[y0,Qb nb,nxV (WK none) m,Qb hb]],X4 378 hb (Qb yb) (WK none) m]) rfl);clear c0 sM c2 kg d1 fd1 d2 vw d3 wE e1 eD;generalize XN _ _ _=w2 at HT |-;obtain ⟨d1,d2,d3⟩:=HT.c3 2 0 1 2 3;obtain ⟨fd1,vw,wE⟩:=HT.f3 2 0 1 2 3;simp only [aQ,aC] at d1 d2 d3;have e1:=HT.c 3 0 1;have eD:=HT.f 3 0 1;simp only [aQ,aC] at e1;go_region
  have HT:=Vh (((HT.set 3 0 rfl 1 (WK none)).drew).eq (H':=[[cl lb 317 #[Qb yb,gG (Qb yb) m,(WL WM ((m.length+1+1:Nat):Int)),Qb hb]],[cl hb 282 #[WK none]],[cl nb 378 #[ve,WK none,Qb yb,Qb hb]],[cl yb 378 #[y0,WK none,nxV (WK none) m,Qb hb]],X4 378 hb (Qb yb) (WK none) m]) rfl);clear d1 fd1 d2 vw d3 wE e1 eD;generalize XJ _=w3 at HT |-;have c2:=HT.c 0 0 2;have kg:=HT.f 0 0 2;simp only [aQ,aC] at c2;obtain ⟨d1,d2,d3⟩:=HT.c3 2 0 1 2 3;obtain ⟨fd1,vw,wE⟩:=HT.f3 2 0 1 2 3;simp only [aQ,aC] at d1 d2 d3;go_wp2
  go_ret
  exact ⟨_,⟨rfl,_,⟨yC,rfl⟩,rfl⟩,(((((HT.set 2 0 rfl 1 _).set 2 0 rfl 2 _).set 2 0 rfl 3 _).set 0 0 rfl 2 _).eq (H':=[[cl lb 317 #[Qb yb,gG (Qb yb) m,(WL WM ((m.length+1:Nat):Int)),Qb hb]],[cl hb 282 #[WK none]],[cl nb 378 #[ve,WK none,WK none,WK none]],[cl yb 378 #[y0,WK none,nxV (WK none) m,Qb hb]],X4 378 hb (Qb yb) (WK none) m]) (by rfl)).sum (fun n ha h0 h1 h2=>by have hc:=ha [cl yb 378 #[y0,WK none,nxV (WK none) m,Qb hb]] (X4 378 hb (Qb yb) (WK none) m);simp only [WV,WU] at hc;simp only [X4,aQ,gG,WS,WV,WU,WY,XA,WZ,ha,h0,h1,h2] <;> omega)⟩
end
section
variable {lb hb:Nat} {l:List Nd} {g:List ak}
theorem qtv (nb:Nat) {va vb vc vd:Value} (hg:Yp lb hb (⟨nb,[va,vb,vc,vd]⟩::l) g):Qe prog 155 #[Qb lb,Qb nb] [g] (.bool true):=by
 obtain ⟨_,rfl⟩:=hg;refine GO fun w HT=>?_
 have HT:=Vh (HT.out.sum (H':=[[cl lb 261 #[Qb nb,gG (Qb nb) l,WL WM (⟨nb,[va,vb,vc,vd]⟩::l:List Nd).length,Qb hb]],[cl hb 282 #[WK none]],[cl nb 192 #[va,vb,vc,vd,WK none,nxV (WK none) l,Qb hb]],X4 192 hb (Qb nb) (WK none) l]) (fun n ha h0 h1 h2=>by simp only [X4,aQ,gG,WV,WU,WY,XA,WZ,ha,h0,h1,h2] <;> omega));have q1:=fun w=>Sf hb w
 have c3:=HT.c 0 0 3;simp only [aQ,aC] at c3;have d6:=HT.c 2 0 6;simp only [aQ,aC] at d6;go_enter func155,ntmps155
 go_wp2
 go_quiet ((first | (go_at_call 192;with_reducible exact Qe.quiet (Ub hb) HT.out _ [1] rfl rfl)))
 have HT:=Vh (HT.out.drewN nq);go_wp2
 go_ret
 exact ⟨rfl,_,rfl⟩
theorem qld (nb:Nat) {va vb vc vd:Value} (hg:Yp lb hb (⟨nb,[va,vb,vc,vd]⟩::l) g) (hn:l.length<=1000000000) :
 Qa prog 108 #[Qb lb,Qb nb] [g] fun e gs=>e=WO (WL WM 0)/\∃ g',Yp lb hb l g'/\gs=[g',[cl nb 192 #[va,vb,vc,vd,WK none,WK none,WK none]]]:=by
 have hh:=qtv nb hg;obtain ⟨hk,rfl⟩:=hg;have hk2:∀ a∈l,a.v.length=4:=fun a h=>hk a (XM _ h)
 rcases N5 l with rfl | ⟨⟨yb,yv⟩,m,rfl⟩
 ·refine GO fun w HT=>?_
  have HH:=Vh hh;have yC:=Vh hk2;clear hh hk hk2;go_enter func108,ntmps108
  go_wp2_with fail
  refine Qe.run HH HT [0] ?_
  rintro e wq rfl HT;have HT:=Vh (HT.out.eq (H':=[[cl lb 261 #[Qb nb,Qb nb,WL WM 1,Qb hb]],[cl hb 282 #[WK none]],[cl nb 192 #[va,vb,vc,vd,WK none,WK none,Qb hb]]]) rfl);obtain ⟨c0,c1,c2⟩:=HT.c3 0 0 0 1 2;obtain ⟨sM,pN,kg⟩:=HT.f3 0 0 0 1 2;simp only [aQ,aC] at c0 c1 c2;obtain ⟨d4,d5,d6⟩:=HT.c3 2 0 4 5 6;obtain ⟨wF,wG,wH⟩:=HT.f3 2 0 4 5 6;simp only [aQ,aC] at d4 d5 d6;have ne1:=HT.ne 0 0 2 0 (by decide) rfl rfl;simp only [] at ne1;have oI:=XH ne1;go_wp2
  go_ret
  exact ⟨_,⟨rfl,_,⟨yC,rfl⟩,rfl⟩,((((((HT.set 0 0 rfl 0 _).set 0 0 rfl 1 _).set 2 0 rfl 4 _).set 2 0 rfl 5 _).set 2 0 rfl 6 _).set 0 0 rfl 2 _).eq rfl⟩
 ·have hyv:yv.length=4:=hk2 ⟨yb,yv⟩ XP
  obtain ⟨y0,y1,y2,y3,rfl⟩:∃ y0 y1 y2 y3,yv=[y0,y1,y2,y3]:=by
   match yv,hyv with
   | [y0,y1,y2,y3],_=>exact ⟨y0,y1,y2,y3,rfl⟩
  refine GO fun w HT=>?_
  have HH:=Vh hh;have yC:=Vh hk2;have wO:m.length+1<=1000000000:=by simpa using hn
  clear hh hk hk2 hn hyv;go_enter func108,ntmps108
  go_wp2_with fail
  refine Qe.run HH HT [0] ?_
  rintro e wq rfl HT;have HT:=Vh (HT.out.sum (H':=[[cl lb 261 #[Qb nb,gG (Qb yb) m,(WL WM ((m.length+1+1:Nat):Int)),Qb hb]],[cl hb 282 #[WK none]],[cl nb 192 #[va,vb,vc,vd,WK none,Qb yb,Qb hb]],[cl yb 192 #[y0,y1,y2,y3,Qb nb,nxV (WK none) m,Qb hb]],X4 192 hb (Qb yb) (WK none) m]) (fun n ha h0 h1 h2=>by simp only [X4,aQ,gG,WS,WV,WU,WY,XA,WZ,ha,h0,h1,h2] <;> omega));obtain ⟨c0,c2⟩:=HT.c2 0 0 0 2;obtain ⟨sM,kg⟩:=HT.f2 0 0 0 2;simp only [aQ,aC] at c0 c2;obtain ⟨d4,d5,d6⟩:=HT.c3 2 0 4 5 6;obtain ⟨wF,wG,wH⟩:=HT.f3 2 0 4 5 6;simp only [aQ,aC] at d4 d5 d6;have e4:=HT.c 3 0 4;have AM:=HT.f 3 0 4;simp only [aQ,aC] at e4;have ne1:=HT.ne 0 0 2 0 (by decide) rfl rfl;have xS:=HT.ne 0 0 3 0 (by decide) rfl rfl;have xU:=HT.ne 2 0 3 0 (by decide) rfl rfl;simp only [] at ne1 xS xU;have oI:=XH ne1;have Ph:=XH xS;have Pj:=XH xU;go_wp2
  have HT:=Vh ((HT.set 0 0 rfl 0 (Qb yb)).eq (H':=[[cl lb 261 #[Qb yb,gG (Qb yb) m,(WL WM ((m.length+1+1:Nat):Int)),Qb hb]],[cl hb 282 #[WK none]],[cl nb 192 #[va,vb,vc,vd,WK none,Qb yb,Qb hb]],[cl yb 192 #[y0,y1,y2,y3,Qb nb,nxV (WK none) m,Qb hb]],X4 192 hb (Qb yb) (WK none) m]) rfl);clear c0 sM c2 kg d4 wF d5 wG d6 wH e4 AM;generalize XN _ _ _=w2 at HT |-;obtain ⟨d4,d5,d6⟩:=HT.c3 2 0 4 5 6;obtain ⟨wF,wG,wH⟩:=HT.f3 2 0 4 5 6;simp only [aQ,aC] at d4 d5 d6;have e4:=HT.c 3 0 4;have AM:=HT.f 3 0 4;simp only [aQ,aC] at e4;go_region
  have HT:=Vh (((HT.set 3 0 rfl 4 (WK none)).drew).eq (H':=[[cl lb 261 #[Qb yb,gG (Qb yb) m,(WL WM ((m.length+1+1:Nat):Int)),Qb hb]],[cl hb 282 #[WK none]],[cl nb 192 #[va,vb,vc,vd,WK none,Qb yb,Qb hb]],[cl yb 192 #[y0,y1,y2,y3,WK none,nxV (WK none) m,Qb hb]],X4 192 hb (Qb yb) (WK none) m]) rfl);clear d4 wF d5 wG d6 wH e4 AM;generalize XJ _=w3 at HT |-;have c2:=HT.c 0 0 2;have kg:=HT.f 0 0 2;simp only [aQ,aC] at c2;obtain ⟨d4,d5,d6⟩:=HT.c3 2 0 4 5 6;obtain ⟨wF,wG,wH⟩:=HT.f3 2 0 4 5 6;simp only [aQ,aC] at d4 d5 d6;go_wp2
  go_ret
  exact ⟨_,⟨rfl,_,⟨yC,rfl⟩,rfl⟩,(((((HT.set 2 0 rfl 4 _).set 2 0 rfl 5 _).set 2 0 rfl 6 _).set 0 0 rfl 2 _).eq (H':=[[cl lb 261 #[Qb yb,gG (Qb yb) m,(WL WM ((m.length+1:Nat):Int)),Qb hb]],[cl hb 282 #[WK none]],[cl nb 192 #[va,vb,vc,vd,WK none,WK none,WK none]],[cl yb 192 #[y0,y1,y2,y3,WK none,nxV (WK none) m,Qb hb]],X4 192 hb (Qb yb) (WK none) m]) (by rfl)).sum (fun n ha h0 h1 h2=>by have hc:=ha [cl yb 192 #[y0,y1,y2,y3,WK none,nxV (WK none) m,Qb hb]] (X4 192 hb (Qb yb) (WK none) m);simp only [WV,WU] at hc;simp only [X4,aQ,gG,WS,WV,WU,WY,XA,WZ,ha,h0,h1,h2] <;> omega)⟩
end
theorem Tryz.pX:(prog.info? 315).map (fun i=>(i.zero,i.size,i.bytes))=some (some (WK none),1,8):=by kernel_rfl
structure Je where
 lb:Nat
 hb:Nat
 l:List Nd
def q22 (s:Je) (g:List ak):Prop:=zz s.lb s.hb s.l g
def jY (ss:List Je):Nat:=(ss.map fun s=>s.l.length).sum
structure zW (ss:List Je) (C:Array Value):Prop where
 size:C.size=66
 at_:∀ (i:Nat) (s:Je),ss[i]?=some s->C[i]?=some (Qb s.lb)
 used:∃ u,C[64]?=some (WL WX u)
 n:C[65]?=some (WL WM (jY ss))
def Yo (vb:Nat) (ss:List Je) (g:List ak):Prop:=ss.length=64/\∃ C gH,zW ss C/\Yx q22 ss gH/\g=cl vb 321 C::gH
theorem Hf {ss:List Je} {k:Nat} {s:Je} (hs:ss[k]?=some s) (s':Je):jY (ss.set k s')+s.l.length=jY ss+s'.l.length:=by
 unfold jY;induction ss generalizing k with
 | nil=>simp at hs
 | cons a l ih =>
   cases k with
   | zero =>
     simp only [List.getElem?_cons_zero,Option.some.injEq] at hs;subst hs;simp only [XQ,XU,List.sum_cons];omega
   | succ k =>
     simp only [List.getElem?_cons_succ] at hs;have:=ih hs;simp only [XR,XU,List.sum_cons];omega
theorem Np {ss:List Je} {k:Nat} {s:Je} (hs:ss[k]?=some s):s.l.length<=jY ss:=by
 have:=Hf hs { s with l:=[] };simp only [WW] at this;omega
theorem zW.put {ss:List Je} {C:Array Value} (h:zW ss C) (hl:ss.length=64) {k:Nat} {s s':Je} (hs:ss[k]?=some s) (hb:s'.lb=s.lb) {n:Int} (hn:n=jY (ss.set k s')):zW (ss.set k s') (C.setIfInBounds 65 (WL WM n)):=by
 subst hn;have hs1:=h.size;refine ⟨by simpa using h.size,fun i s2 h2=>?_,?_,?_⟩
 ·have hi:i<64:=by have:=(XF.1 h2).1;rw [XD,hl] at this;exact this
  rw [WT (by omega)];rw [List.getElem?_set] at h2;split at h2
  ·next e =>
   subst e;split at h2
   ·cases h2;rw [hb];exact h.at_ k s hs
   ·cases h2
  ·exact h.at_ i s2 h2
 ·obtain ⟨u,hu⟩:=h.used
  exact ⟨u,by rw [WT (by omega)];exact hu⟩
 ·rw [XE (by omega)]
theorem zW.map {ss:List Je} {C:Array Value} (h:zW ss C) (hl:ss.length=64) (u:Int):zW ss (C.setIfInBounds 64 (WL WX u)):=by
 have hs1:=h.size;refine ⟨by simpa using h.size,fun i s2 h2=>?_,⟨u,?_⟩,?_⟩
 ·have hi:i<64:=by have:=(XF.1 h2).1;omega
  rw [WT (by omega)];exact h.at_ i s2 h2
 ·rw [XE (by omega)]
 ·rw [WT (by omega)];exact h.n
theorem QG (k:Nat) (hk:k<64):Qa prog 343 #[WL WM k] [] fun e gs=>∃ u,e=WO (WL WX u)/\gs=[]:=by
 refine GO fun w HT=>?_
 have h1:decide ((k:Int)<0)=false:=decide_eq_false (by omega);have h2:decide ((k:Int) ≥ 64)=false:=decide_eq_false (by omega);go_enter func343,ntmps343
 go_wp2
 go_ret
 exact ⟨_,⟨_,rfl,rfl⟩,HT⟩
theorem zas (m:Int) (k:Nat) (hk:k<64):Qa prog 336 #[WL WX m,WL WM k] [] fun e gs=>∃ u,e=WO (WL WX u)/\gs=[]:=by
 refine GO fun w HT=>?_
 go_enter func336,ntmps336
 go_wp2_with fail
 refine Qa.run (QG k hk) (HT) [] ?_
 rintro e w1 gs ⟨u,rfl,rfl⟩ HT;simp only [PU] at HT;go_wp2
 go_ret
 exact ⟨_,⟨_,rfl,rfl⟩,HT⟩
theorem q0c (m:Int) (k:Nat) (hk:k<64):Qa prog 338 #[WL WX m,WL WM k] [] fun e gs=>∃ u,e=WO (WL WX u)/\gs=[]:=by
 refine GO fun w HT=>?_
 go_enter func338,ntmps338
 go_wp2_with fail
 refine Qa.run (QG k hk) (HT) [] ?_
 rintro e w1 gs ⟨u,rfl,rfl⟩ HT;simp only [PU] at HT;go_wp2
 go_ret
 exact ⟨_,⟨_,rfl,rfl⟩,HT⟩
section
variable {vb:Nat} {ss:List Je} {g:List ak}
theorem LY (vb:Nat) (k:Nat) (hk:k<64):Qe prog 323 #[Qb vb,WL WM k] [] (WL WM 0):=by
 refine GO fun w HT=>?_
 have h1:decide ((k:Int)<0)=false:=decide_eq_false (by omega);have h2:decide ((k:Int) ≥ 64)=false:=decide_eq_false (by omega);go_enter func323,ntmps323
 go_wp2
 go_ret
 exact ⟨rfl,0,rfl⟩
theorem q2a (hg:Yo vb ss g) {k:Nat} {s:Je} (hs:ss[k]?=some s) (hk:k<64) (ht:jY ss<=1000000) (hn:s.l.length<=1000000) (nb:Nat) (ve p0 q0:Value) :
 Qa prog 322 #[Qb vb,WL WM k,Qb nb] [g,[cl nb 378 #[ve,p0,q0,WK none]]] fun e gs =>
  e=WO (WL WM 0)/\∃ g',Yo vb (ss.set k { s with l:=s.l++[⟨nb,[ve]⟩] }) g'/\gs=[g']:=by
 obtain ⟨hl,C,gH,hC,hF,rfl⟩:=hg;obtain ⟨u,y,hu,hp,hback⟩:=hF.out hs;refine GO fun w HT=>?_
 have HT:=Vh (((HT.sum (H':=[[cl vb 321 C],gH,[cl nb 378 #[ve,p0,q0,WK none]]])).bF 1 rfl hp).sum (H':=[[cl vb 321 C],u,y,[cl nb 378 #[ve,p0,q0,WK none]]]));have HC:=Vh hC;have HU:=Vh hu;have HB:=Vh hback;have HP:=Vh hp;have HS:=Vh hs;clear hC hF hu hp hback hs;have h64:=HC.n;obtain ⟨um,DI⟩:=HC.used;have CJ:=Vh DI;have hsz:=HC.size;have c0:=(HT.cell 0 0 rfl k).trans (HC.at_ k s HS);have c1:=(HT.c 0 0 65).trans h64;have f1:=HT.f 0 0 65;have hkb:(k:Int)<64:=by omega
 clear h64 DI;go_enter func322,ntmps322
 go_wp2_with fail
 refine Qe.run (LY vb k hk) HT [] ?_
 rintro e wq rfl HT;clear c0 c1 f1;have c0:=(HT.cell 0 0 rfl k).trans (HC.at_ k s HS);go_wp2_with fail
 refine Qa.run (Rz HU (by omega) nb ve p0 q0) (HT) [1,3] ?_
 rintro e w1 gs ⟨rfl,g1,hg1,rfl⟩ HT;simp only [PU] at HT;have kF:=Vh hg1;clear hg1 c0;have c1:=(HT.c 0 0 65).trans HC.n;have f1:=HT.f 0 0 65;have c2:=(HT.c 0 0 64).trans CJ;go_wp2_with fail
 refine Qa.run (zas um k hk) (HT.set 0 0 rfl 65 (WL WM ((jY ss:Int)+1))) [] ?_
 rintro e w1 gs ⟨u2,rfl,rfl⟩ HT;simp only [PU] at HT;clear c1 f1 c2;have f2:=HT.f 0 0 64;have c2:=(HT.c 0 0 64).trans (show (C.setIfInBounds 65 (WL WM ((jY ss:Int)+1)))[64]?=some (WL WX um) from by rw [WT (by omega)];exact CJ);go_wp2
 go_ret
 obtain ⟨ny,hF',hp'⟩:=HB.out { s with l:=s.l++[⟨nb,[ve]⟩] } g1 kF
 exact ⟨_,⟨rfl,_,⟨by rw [XD];exact hl,_,ny,(HC.put hl HS (s':={ s with l:=s.l++[⟨nb,[ve]⟩] }) (n:=(jY ss:Int)+1) rfl (by have:=Hf HS { s with l:=s.l++[⟨nb,[ve]⟩] };simp only [XC,WS,WW] at this;omega)).map (by rw [XD];exact hl) u2,hF',rfl⟩,rfl⟩,
  (((HT.set 0 0 rfl 64 _).m [[cl vb 321 ((C.setIfInBounds 65 (WL WM ((jY ss:Int)+1))).setIfInBounds 64 (WL WX u2))],g1++y]).bF 1 rfl hp').sum⟩
theorem Rw (hg:Yo vb ss g) {k:Nat} {s:Je} (hs:ss[k]?=some s):∀ {h:GH} {w w':World} (T:TG h w [g] w'),w'.cell? ⟨vb,k,none⟩=some (Qb s.lb):=by
 obtain ⟨hl,C,gH,hC,hF,rfl⟩:=hg;intro h w w' T;exact (T.cell 0 0 rfl k).trans (hC.at_ k s hs)
theorem qpn {k:Nat} {s:Je} {nb:Nat} {ve:Value} {l:List Nd} (hg:Yo vb ss g) (hs:ss[k]?=some s) (hsl:s.l=⟨nb,[ve]⟩::l) (hk:k<64) (ht:jY ss<=1000000) :
 Qa prog 325 #[Qb vb,WL WM k,Qb nb] [g] fun e gs =>
  e=WO (WL WM 0)/\∃ g',Yo vb (ss.set k { s with l:=l }) g'/\gs=[g',[cl nb 378 #[ve,WK none,WK none,WK none]]]:=by
 have hge:=Np hs;rw [hsl] at hge;simp only [WS] at hge;have hts:=Hf hs { s with l:=l };rw [hsl] at hts;simp only [WS] at hts;obtain ⟨hl,C,gH,hC,hF,rfl⟩:=hg;obtain ⟨u,y,hu,hp,hback⟩:=hF.out hs;refine GO fun w HT=>?_
 have HT:=Vh (((HT.m [[cl vb 321 C],gH]).bF 1 rfl hp).m [[cl vb 321 C],u,y]);have HC:=Vh hC;have HU:=Vh hu;have HB:=Vh hback;have HP:=Vh hp;have HS:=Vh hs;clear hC hF hu hp hback hs;obtain ⟨um,DI⟩:=HC.used;have CJ:=Vh DI;have hsz:=HC.size;have c0:=(HT.cell 0 0 rfl k).trans (HC.at_ k s HS);have hkb:(k:Int)<64:=by omega
 have Gb:=HU.out;unfold q22 at Gb;rw [hsl] at Gb;have IJ:=Vh Gb;clear DI Gb c0;go_enter func325,ntmps325
 go_wp2_with fail
 refine Qe.run (LY vb k hk) HT [] ?_
 rintro e wq rfl HT;have c0:=(HT.cell 0 0 rfl k).trans (HC.at_ k s HS);go_wp2_with fail
 refine Qa.run (qlc nb IJ (by omega)) (HT) [1] ?_
 rintro e w1 gs ⟨rfl,g1,hg1,rfl⟩ HT;simp only [PU] at HT;have kF:=Vh hg1;clear hg1 c0;have c1:=(HT.c 0 0 65).trans HC.n;have f1:=HT.f 0 0 65;have c0:=(HT.cell 0 0 rfl k).trans (HC.at_ k s HS);obtain ⟨n',hn'⟩:∃ n':Nat,jY ss=n'+1:=⟨jY ss - 1,by omega⟩;go_wp2_with fail
 have HT:=Vh (HT.out.set 0 0 rfl 65 (WL WM n'));clear c0 c1 f1;have hlen:=qtw kF;generalize XN _ _ _=w5 at HT |-;have Ay:=Vh (HC.out.put hl HS (s':={ s with l:=l }) (n:=(n':Int)) rfl (by omega));refine Qe.run hlen HT [1] ?_
 rintro e w7 rfl HT;obtain ⟨ny,hF',hp'⟩:=HB.out { s with l:=l } g1 kF;have Om:=Vh hF';have bD:=Vh hp';clear hlen hF' hp';rcases N5 l with rfl | ⟨yy,mm,rfl⟩
 ·simp only [WW]
  have c2:=(HT.c 0 0 64).trans (show (C.setIfInBounds 65 (WL WM n'))[64]?=some (WL WX um) from by rw [WT (by omega)];exact CJ);go_wp2_with fail
  refine Qa.run (q0c um k hk) (HT) [] ?_
  rintro e w1 gs ⟨u2,rfl,rfl⟩ HT;simp only [PU] at HT;clear c2;have f2:=HT.f 0 0 64;have c2:=(HT.c 0 0 64).trans (show (C.setIfInBounds 65 (WL WM n'))[64]?=some (WL WX um) from by rw [WT (by omega)];exact CJ);go_wp2
  go_ret
  exact ⟨_,⟨rfl,_,⟨by rw [XD];exact hl,_,ny,Ay.map (by rw [XD];exact hl) u2,Om,rfl⟩,rfl⟩,
   (((HT.set 0 0 rfl 64 _).sum (H':=[[cl vb 321 ((C.setIfInBounds 65 (WL WM n')).setIfInBounds 64 (WL WX u2))],g1++y,[cl nb 378 #[ve,WK none,WK none,WK none]]])).bF 1 rfl bD).sum⟩
 ·have hb:((((yy::mm).length:Nat):Int) == 0)=false:=beq_eq_false_iff_ne.2 (by simp only [WS];omega)
  generalize (((yy::mm).length:Nat):Int)=len at hb |-;go_wp2
  go_ret
  exact ⟨_,⟨rfl,_,⟨by rw [XD];exact hl,_,ny,Ay,Om,rfl⟩,rfl⟩,
   ((HT.sum (H':=[[cl vb 321 (C.setIfInBounds 65 (WL WM n'))],g1++y,[cl nb 378 #[ve,WK none,WK none,WK none]]])).bF 1 rfl bD).sum⟩
theorem Rm (hg:Yo vb ss g) {k:Nat} {s:Je} (hs:ss[k]?=some s):Qe prog 324 #[Qb s.lb] [g] (nxV (WK none) s.l):=by
 obtain ⟨hl,C,gH,hC,hF,rfl⟩:=hg;obtain ⟨u,y,hu,hp,hback⟩:=hF.out hs;intro w hw;have T:=(((TG.refl hw).m [[cl vb 321 C],gH]).bF 1 rfl hp).m [[cl vb 321 C],u,y];exact (qnc hu).use T [1] rfl rfl
theorem q6b (hg:Yo vb ss g) {k:Nat} {s:Je} (hs:ss[k]?=some s):∀ a∈s.l,a.v.length=1:=by
 obtain ⟨hl,C,gH,hC,hF,rfl⟩:=hg;obtain ⟨u,y,hu,_,_⟩:=hF.out hs;exact hu.1
def q8 (a:Nd) (g:List ak):Prop:=g=[cl a.b 378 (a.v++[Value.pointer none,Value.pointer none,Value.pointer none]).toArray]
def QJ:Value->Nat
 | .slice _ n _=>n
 | _=>0
theorem qxf (hg:Yo vb ss g) {k:Nat} {s:Je} (hs:ss[k]?=some s) (hk:k<64) (ht:jY ss<=1000000) :
 Qa prog 311 #[Qb vb,WL WM k] [g] fun e gs =>
  ∃ v gr gn g',e=WO v/\Q1 315 1 v s.l.length (s.l.map fun a=>Qb a.b) gr/\Yx q8 s.l gn/\Yo vb (ss.set k { s with l:=[] }) g'/\gs=[g',gr,gn]:=by
 have hkl:=(XF.1 hs).1;have hge:=Np hs;have hset:∀ l,(ss.set k { s with l:=l })[k]?=some { s with l:=l }:=fun l=>List.getElem?_set_self hkl
 have htot:∀ l,jY (ss.set k { s with l:=l })+s.l.length=jY ss+l.length:=fun l=>Hf hs { s with l:=l }
 have xQ:=q6b hg hs;have HF0:=Vh (Rm hg hs);have xF:=Vh (show ∀ (h:GH) (w w':World),TG h w [g] w'->w'.cell? ⟨vb,k,none⟩=some (Qb s.lb) from fun _ _ _ T=>Rw hg hs T);have hsame:ss.set k { s with l:=s.l }=ss:=Yg hs;have HG:=Vh (show Yo vb (ss.set k { s with l:=s.l }) g from by rw [hsame];exact hg);refine GO fun w HT=>?_
 have HV:=Vh xQ;have IA:=Vh hset;have mH:=Vh htot;have c0:=xF.out _ _ _ HT;have hkb:(k:Int)<64:=by omega
 clear hg hs xQ hset htot hsame hkl;go_enter func311,ntmps311
 go_wp2_with fail
 refine Qe.run (LY vb k hk) HT [] ?_
 rintro e wq rfl HT;clear c0;have c0:=xF.out _ _ _ HT;go_wp2_with fail
 refine Qe.run HF0 HT [0] ?_
 rintro e wq rfl HT;go_wp2
 clear c0;have HT:=Vh (HT.out.m [g,[],[]])
 go_loopw [5,6] (fun v p wr=>∃ l1 l2 g1 gr gn,s.l=l1++l2/\p=nxV (WK none) l2/\Q1 315 1 v l1.length (l1.map fun a=>Qb a.b) gr/\Yx q8 l1 gn/\Yo vb (ss.set k { s with l:=l2 }) g1/\TG [g] w [g1,gr,gn] wr) (fun v p _=>s.l.length - QJ v)
 case atStart=>exact ⟨[],s.l,g,[],[],rfl,rfl,X5 _ _,rfl,HG,HT⟩
 case round =>
  obtain ⟨l1,l2,g1,gr,gn,hl,rfl,hr,hn,hg1,T⟩:=hrel;have HL:=Vh hl;have HN:=Vh hn;have kF:=Vh hg1;have RR:=Vh hr;have HT:=Vh T;have hlen:s.l.length=l1.length+l2.length:=by rw [hl,XC]
  obtain ⟨av,cap,rfl⟩:=Q1.val hr;clear hl hn hg1 hr T HG;cases l2 with
  | nil =>
    simp only [ic];go_wp2
    go_ret
    have e:s.l=l1:=by rw [HL.out,WZ]
    exact ⟨_,⟨_,gr,gn,g1,rfl,by rw [e];exact RR,by rw [e];exact HN,kF,rfl⟩,HT⟩
  | cons a l3 =>
    obtain ⟨nb,vv⟩:=a;have hv1:vv.length=1:=HV.out ⟨nb,vv⟩ (by rw [HL.out];simp)
    obtain ⟨ve,rfl⟩:∃ ve,vv=[ve]:=by
     match vv,hv1 with
     | [ve],_=>exact ⟨ve,rfl⟩
    simp only [aQ];have ht2:jY (ss.set k { s with l:=⟨nb,[ve]⟩::l3 })<=1000000:=by have:=mH.out (⟨nb,[ve]⟩::l3);simp only [WS] at this hlen;omega
    have HRM:=Vh (qpn kF (IA _) rfl hk ht2);clear hv1 ht2;go_wp2_with fail
    refine Qa.run HRM HT [0] ?_
    rintro e w1 gs ⟨rfl,g2,hg2,rfl⟩ HT;simp only [PU] at HT;rw [List.set_set] at hg2;have qV:=Vh hg2;clear hg2;have Ip:=Vh (show ∀ (h:GH) (w w':World),TG h w [g2] w'->w'.cell? ⟨vb,k,none⟩=some (Qb s.lb) from fun _ _ _ T=>Rw qV (IA _) T);have sD:=Vh (Rm qV (IA _));go_wp2_with (at_builtin;(with_reducible refine X3 rfl (.tmp 31) (.tmp 33) 372 rfl 315 1 8 _ underlying372 Tryz.pX rfl (by decide) ((HT.out).aN _) 1 rfl rfl (RR.out) rfl ⟨w1.heap.size,0,none⟩ 1 1 [Qb nb] rfl rfl (Za _ _ _) (by simp [Value.oneCell']) (by unfold maxLen;omega) (by omega) ?_);intro v1 w2 nM r1 T1;simp only [XQ,XR] at T1;have T1:=Vh T1;have c0:=Ip.out _ _ _ (T1.out.p [0]);have r1:=Vh r1)
    refine Qe.run sD T1 [0] ?_
    rintro e w4 rfl HT;have HN1:=Vh (Yx.snoc (P:=q8) (a:=⟨nb,[ve]⟩) HN (x:=[cl nb 378 #[ve,WK none,WK none,WK none]]) (show q8 ⟨nb,[ve]⟩ _ from rfl));have O6:=Vh (show Q1 315 1 v1 (l1++[(⟨nb,[ve]⟩:Nd)]).length ((l1++[(⟨nb,[ve]⟩:Nd)]).map fun a=>Qb a.b) nM from by simpa using r1.out);obtain ⟨av1,di,hv1⟩:=Q1.val O6;simp only [XC,WS,WW,XK] at hv1;subst hv1;clear c0;go_wp2
    first | go_roundw | refine ⟨?rel,?measure⟩ | ((repeat apply Exists.intro);refine ⟨⟨?rel,rfl⟩,?measure⟩)
    case rel=>exact ⟨l1++[(⟨nb,[ve]⟩:Nd)],l3,g2,nM,_,by rw [HL.out];simp,rfl,O6,HN1,qV,HT.sum⟩
    case measure=>simp only [WS] at hlen;simp [QJ];omega
end
end
end Go.Proofs.YtcneeepdclgdcaaGreat
