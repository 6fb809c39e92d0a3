import Derived.Test.YtcneeepdclgdcaaGreatSE5
import Derived.Test.YtcneeepdclgdcaaGreatSE13
set_option maxRecDepth 100000
set_option maxHeartbeats 4000000
namespace Go.Proofs.YtcneeepdclgdcaaGreat
open Go.Value renaming pointer->U1,int->U2,nilFunc->U4,func->U6
open Go.IntKind renaming i64->U3,u64->UD
open Go.Ending renaming returned->U5
open Go.Fn renaming func->U7
open _root_.List renaming length_cons->U8,nil_append->UA,cons_append->UB,length_nil->UC,flatten_cons->UE,append_nil->UF,flatten_nil->UG,length_append->UI,length_set->UJ,getElem?_eq_some_iff->UL,mem_singleton->UM,count_append->UO,mem_cons_of_mem->UT,mem_cons_self->UX,set_cons_zero->UY,set_cons_succ->UZ,mem_append->V6,map_cons->V7
open _root_.Array renaming getElem?_setIfInBounds_ne->U9,getElem?_setIfInBounds_self_of_lt->UK
open Go renaming bodyPost_ret->UH,Ending->US
open _root_.Ne renaming symm->UN
open Go.World renaming drew->UQ,setCell->UU
open _root_.Nat renaming zero_add->UR
open _root_.And renaming intro->UW
set_option linter.all false
open Go.Proofs.Tryz
section
open Go.RowKit Go.Shelf
inductive St (M A Y:Type) where
 | nil
 | at (y:Option Y) (m:M)
 | aj (a:A)
 | aO (a b:A)
 | thn (s:St M A Y) (m:M)
section
variable {M A Y α:Type}
def St.isNil:St M A Y->Bool
 | .nil=>true
 | _=>false
def Qe (runM:M->α->St M A Y × α) (s:St M A Y) (m:M) (x:α):St M A Y × α :=
 match s with
 | .nil=>runM m x
 | s=>(.thn s m,x)
def St.run (runM:M->α->St M A Y × α) (bN:A->α->α):St M A Y->α->St M A Y × α
 | .nil,x=>(.nil,x)
 | .at _ m,x=>runM m x
 | .aj a,x=>(.nil,bN a x)
 | .aO a b,x=>(.aj b,bN a x)
 | .thn s m,x=>Qe runM (s.run runM bN x).1 m (s.run runM bN x).2
def St.pre (runM:M->α->St M A Y × α) (bN:A->α->α) (je:M->α->Prop) (jd:A->α->Prop):St M A Y->α->Prop
 | .nil,_=>True
 | .at _ m,x=>je m x
 | .aj a,x=>jd a x
 | .aO a _,x=>jd a x
 | .thn s m,x=>s.pre runM bN je jd x/\((s.run runM bN x).1.isNil=true->je m (s.run runM bN x).2)
def St.may (fC:Y->α->Bool):St M A Y->α->Bool
 | .nil,_=>false
 | .at none _,_=>true
 | .at (some y) _,x=>fC y x
 | .aj _,_=>true
 | .aO _ _,_=>true
 | .thn s _,x=>s.may fC x
def St.dx (dx:Y->α->Prop):St M A Y->α->Prop
 | .at (some y) _,x=>dx y x
 | .thn s _,x=>s.dx dx x
 | _,_=>True
end
theorem TG.sum {h H H':GH} {w w':World} (T:TG h w H w')
 (hs:∀ n:List ak->Nat,(∀ x y,n (x++y)=n x+n y)->n []=0->(∀ a b l,n (a::b::l)=n [a]+n (b::l))->(∀ a x y,n (a::(x++y))=n [a]+(n x+n y))->n H.flatten=n H'.flatten:=by intro n ha h0 h1 h2;simp only [SU,ha,h0,h1,h2] <;> omega):TG h w H' w':=by
 classical
 refine T.re (List.perm_iff_count.2 fun a=>hs (fun l=>l.count a) (fun x y=>UO) rfl (fun b d l=>?_) (fun b x y=>?_))
 ·show List.count a ([b]++(d::l))=_
  rw [UO]
 ·show List.count a ([b]++(x++y))=_
  rw [UO,UO]
def ko (P:Program) (v:Value) (gs:GH) (R:US->GH->Prop):Prop :=
 ∃ fn first aK,v=U6 (U7 fn) first aK/\(∀ args w,(callFunc fn args).run P w=.ok (.enter fn args) w)/\Qa P fn (first++aK) gs R
theorem Dr (w:World):(binOp .eql 151 U4 U4).run prog w=.ok (.bool true) w:=by kernel_rfl
theorem FR (f:Fn) (a b:Array Value) (w:World):(binOp .eql 151 (.func f a b) U4).run prog w=.ok (.bool false) w:=by kernel_rfl
theorem PO (w:World):(binOp .eql 24 U4 U4).run prog w=.ok (.bool true) w:=by kernel_rfl
theorem R9 (f:Fn) (a b:Array Value) (w:World):(binOp .eql 24 (.func f a b) U4).run prog w=.ok (.bool false) w:=by kernel_rfl
theorem q0i (f:Fn) (a b:Array Value) (w:World):(binOp .neq 1 (.func f a b) U4).run prog w=.ok (.bool true) w:=by kernel_rfl
structure aV where
 M:Type
 A:Type
 Y:Type
 α:Type
 rep:α->List ak->List ak->Prop
 VM:M->Value->List ak->Prop
 VA:A->Value->List ak->Prop
 VY:Y->Value->List ak->Prop
 runM:M->α->St M A Y × α
 bN:A->α->α
 fC:Y->α->Bool
 je:M->α->Prop
 jd:A->α->Prop
 dx:Y->α->Prop
namespace aV
variable (c:aV)
abbrev S:Type:=St c.M c.A c.Y
def run (s:c.S) (x:c.α):c.S × c.α:=St.run c.runM c.bN s x
def pre (s:c.S) (x:c.α):Prop:=St.pre c.runM c.bN c.je c.jd s x
def thn (s:c.S) (m:c.M) (x:c.α):c.S × c.α:=Qe c.runM s m x
def SV:c.S->Value->Value->List ak->Prop
 | .nil,m,d,g=>m=U4/\d=U4/\g=[]
 | .at none f,m,d,g=>m=U4/\c.VM f d g
 | .at (some y) f,m,d,g=>∃ g1 g2,c.VY y m g1/\c.VM f d g2/\g=g1++g2
 | .aj a,m,d,g=>m=U4/\∃ bf bl bi b o D va ga,d=U6 (U7 209) #[] #[Qb bf,Qb bl,Qb bi]/\c.VA a va ga/\D[o]?=some va /\
    g=[cl bf 1 #[va],cl bl 322 #[.slice (some ⟨b,o,none⟩) 1 1],cl bi 3 #[U2 U3 0],cl b 1 D]++ga
 | .aO a a',m,d,g=>m=U4/\∃ bf bl bi b va uV ga l6,d=U6 (U7 209) #[] #[Qb bf,Qb bl,Qb bi]/\c.VA a va ga/\c.VA a' uV l6 /\
    g=[cl bf 1 #[va],cl bl 322 #[.slice (some ⟨b,0,none⟩) 2 2],cl bi 3 #[U2 U3 0],cl b 1 #[va,uV]]++ga++l6
 | .thn s f,m,d,g=>∃ bs br ds vm gs gm,d=U6 (U7 237) #[] #[Qb bs,Qb br]/\s.isNil=false/\SV s m ds gs/\c.VM f vm gm /\
    g=[cl bs 153 #[m,ds],cl br 151 #[vm]]++gs++gm
structure iI:Prop where
 vm:∀ {f:c.M} {v:Value} {g:List ak},c.VM f v g->∃ fn first aK,v=U6 (U7 fn) first aK
 va:∀ {f:c.A} {v:Value} {g:List ak},c.VA f v g->∃ fn first aK,v=U6 (U7 fn) first aK
 vy:∀ {f:c.Y} {v:Value} {g:List ak},c.VY f v g->∃ fn first aK,v=U6 (U7 fn) first aK
structure Ok:Prop where
 m:∀ {f:c.M} {v:Value} {g gK gF:List ak} {x:c.α},c.VM f v g->c.rep x gK gF->c.je f x ->
  ko prog v [g,gK,gF] fun e gs=>∃ m d g' bg aJ,e=U5 (.agg #[m,d])/\c.SV (c.runM f x).1 m d g'/\c.rep (c.runM f x).2 bg aJ/\gs=[g',bg,aJ]
 a:∀ {f:c.A} {v:Value} {g gK gF:List ak} {x:c.α},c.VA f v g->c.rep x gK gF->c.jd f x ->
  ko prog v [g,gK,gF] fun e gs=>∃ bg aJ,e=U5 (.tuple #[])/\c.rep (c.bN f x) bg aJ/\gs=[[],bg,aJ]
 y:∀ {f:c.Y} {v:Value} {g gK gF:List ak} {x:c.α},c.VY f v g->c.rep x gK gF->c.dx f x ->
  ko prog v [g,gK,gF] fun e gs=>∃ bg aJ,e=U5 (.bool (c.fC f x))/\c.rep x bg aJ/\gs=[g,bg,aJ]
 v:c.iI
variable {c}
theorem SV.nil {m d:Value} {g:List ak} (h:c.SV .nil m d g):m=U4/\d=U4/\g=[]:=h
theorem Ok.vm (h:c.Ok) {f:c.M} {v:Value} {g:List ak} (hv:c.VM f v g):∃ fn first aK,v=U6 (U7 fn) first aK:=h.v.vm hv
theorem Ok.va (h:c.Ok) {f:c.A} {v:Value} {g:List ak} (hv:c.VA f v g):∃ fn first aK,v=U6 (U7 fn) first aK:=h.v.va hv
theorem Ok.vy (h:c.Ok) {f:c.Y} {v:Value} {g:List ak} (hv:c.VY f v g):∃ fn first aK,v=U6 (U7 fn) first aK:=h.v.vy hv
theorem iI.uz (h:c.iI) {s:c.S} {m d:Value} {g:List ak} (hs:s.isNil=false) (v:c.SV s m d g):∃ fn first aK,d=U6 (U7 fn) first aK:=by
 cases s with
 | nil=>cases hs
 | «at» y f =>
   cases y with
   | none=>exact h.vm v.2
   | some y=>obtain ⟨g1,g2,_,h2,_⟩:=v;exact h.vm h2
 | aj a=>obtain ⟨_,bf,bl,bi,b,o,D,va,ga,rfl,_⟩:=v;exact ⟨_,_,_,rfl⟩
 | aO a a'=>obtain ⟨_,bf,bl,bi,b,va,uV,ga,l6,rfl,_⟩:=v;exact ⟨_,_,_,rfl⟩
 | thn s f=>obtain ⟨bs,br,ds,vm,gs,gm,rfl,_⟩:=v;exact ⟨_,_,_,rfl⟩
def eH (v:Value):Prop:=v=U4\/∃ fn first aK,v=U6 (U7 fn) first aK
theorem RZ {P:Program} {v u:Value} (hv:eH v) {a:Addr} {w:World} (hc:w.cell? a=some u) (hf:w.frozen? a=false):(store a v).run P w=.ok () (w.setCell a v):=by
 rcases hv with rfl | ⟨fn,x,y,rfl⟩ <;> (rw [run_store P w a _ .plain rfl];simp [stored,hc,hf])
theorem aD {P:Program} {v v' u u':Value} (hv:eH v) (hv':eH v') {b:Nat} {w:World} (hc:w.cell? ⟨b,0,none⟩=some u) (hf:w.frozen? ⟨b,0,none⟩=false) (hc':w.cell? ⟨b,1,none⟩=some u') (hf':w.frozen? ⟨b,1,none⟩=false) :
 (store ⟨b,0,none⟩ v).run P w=.ok () (w.setCell ⟨b,0,none⟩ v)/\(store ⟨b,1,none⟩ v').run P (w.setCell ⟨b,0,none⟩ v)=.ok () ((w.setCell ⟨b,0,none⟩ v).setCell ⟨b,1,none⟩ v') :=
 have e1:(w.setCell ⟨b,0,none⟩ v).cell? ⟨b,1,none⟩=some u':=by simp [go_sem,hc']
 have e2:(w.setCell ⟨b,0,none⟩ v).frozen? ⟨b,1,none⟩=false:=by simp [go_sem,hf']
 ⟨RZ hv hc hf,RZ hv' e1 e2⟩
theorem iI.vals (h:c.iI):∀ {s:c.S} {m d:Value} {g:List ak},c.SV s m d g->eH m/\eH d
 | .nil,_,_,_,v=>⟨.inl v.1,.inl v.2.1⟩
 | .at none f,_,_,_,v=>⟨.inl v.1,.inr (h.vm v.2)⟩
 | .at (some y) f,_,_,_,v=>by obtain ⟨g1,g2,h1,h2,_⟩:=v;exact ⟨.inr (h.vy h1),.inr (h.vm h2)⟩
 | .aj a,_,_,_,v=>by obtain ⟨h0,bf,bl,bi,b,o,D,va,ga,rfl,_⟩:=v;exact ⟨.inl h0,.inr ⟨_,_,_,rfl⟩⟩
 | .aO a a',_,_,_,v=>by obtain ⟨h0,bf,bl,bi,b,va,uV,ga,l6,rfl,_⟩:=v;exact ⟨.inl h0,.inr ⟨_,_,_,rfl⟩⟩
 | .thn s f,_,_,_,v=>by
   obtain ⟨bs,br,ds,vm,gs,gm,rfl,_,hv,_⟩:=v;exact ⟨(iI.vals h hv).1,.inr ⟨_,_,_,rfl⟩⟩
theorem Ok.uz (h:c.Ok) {s:c.S} {m d:Value} {g:List ak} (hs:s.isNil=false) (v:c.SV s m d g):∃ fn first aK,d=U6 (U7 fn) first aK:=h.v.uz hs v
theorem Ok.vals (h:c.Ok) {s:c.S} {m d:Value} {g:List ak} (v:c.SV s m d g):eH m/\eH d:=h.v.vals v
theorem dB (h:c.iI) {s:c.S} {f:c.M} {m d v:Value} {g gm:List ak} (hn:s.isNil=false) (hs:c.SV s m d g) (hm:c.VM f v gm) :
 Qa prog 196 #[.agg #[m,d],v] [g,gm] fun e gs=>∃ m' d' g',e=U5 (.agg #[m',d'])/\c.SV (.thn s f) m' d' g'/\gs=[g']:=by
 obtain ⟨fn,first,aK,rfl⟩:=h.uz hn hs;refine GO fun w HT=>?_
 have HS:=Vh hs;have HM:=Vh hm;have HN:=Vh hn;obtain ⟨v1,_⟩:=h.vals hs;obtain ⟨fn0,yc,BX,rfl⟩:=h.vm hm;clear hm hs h hn;have q1:=fun w=>FR (.func fn) first aK w
 rcases v1 with rfl | ⟨p9,eu,fU,rfl⟩
 all_goals
  go_enter func196,ntmps196
  go_wp2
  exact UH (v:=.agg #[_,_]) (by simp [results,results196,go_sem]) rfl ⟨_,⟨_,_,_,rfl,⟨w.heap.size,w.heap.size+1,_,_,g,gm,rfl,HN,HS,HM,rfl⟩,rfl⟩,(((HT.a _ _).alloc (k:=w.heap.size+1) (by simp) _ _).aT _).sum⟩
theorem KA (h:c.Ok) {s:c.S} {f:c.M} {m d v:Value} {g gm gK gF:List ak} {x:c.α} (hs:c.SV s m d g) (hm:c.VM f v gm) (hx:c.rep x gK gF) (hp:s.isNil=true->c.je f x) :
 Qa prog 196 #[.agg #[m,d],v] [g,gm,gK,gF] fun e gs=>∃ m' d' g' bg aJ,e=U5 (.agg #[m',d'])/\c.SV (c.thn s f x).1 m' d' g'/\c.rep (c.thn s f x).2 bg aJ/\gs=[g',bg,aJ]:=by
 cases hn:s.isNil with
 | true =>
   have:s=.nil:=by cases s <;> first | rfl | cases hn
   subst this;obtain ⟨rfl,rfl,rfl⟩:=SV.nil hs;obtain ⟨fn,first,aK,rfl,eg,hd⟩:=h.m hm hx (hp rfl);refine GO fun w HT=>?_
   have HD:=Vh hd;clear hd hm hx hp hs;have q1:=fun w=>Dr w
   go_enter func196,ntmps196
   go_wp2_with fail
   refine (Qa.use HD (((HT.a _ _).alloc (k:=w.heap.size+1) (by simp) _ _).alloc (k:=w.heap.size+1+1) (by simp) _ _) [1,2,3] rfl rfl).mono ?_
   rintro e w1 ⟨gs,⟨m',d',g',bg,aJ,rfl,hs',hx',rfl⟩,Ta⟩;simp only [PU] at Ta;obtain ⟨c0,c1⟩:=Ta.c2 6 0 0 1;obtain ⟨f0,f1⟩:=Ta.f2 6 0 0 1;have HT:=Vh Ta;have HS:=Vh hs';have HX:=Vh hx';obtain ⟨v1,v2⟩:=h.vals hs';clear Ta hs' hx' h;rcases v1 with rfl | ⟨p9,eu,fU,rfl⟩ <;> rcases v2 with rfl | ⟨Ci,lq,oq,rfl⟩
   all_goals
    go_wp2
    exact UH (v:=.agg #[_,_]) (by simp [results,results196,go_sem,c0,c1]) rfl ⟨_,⟨_,_,g',bg,aJ,rfl,HS,HX,rfl⟩,((HT.set 6 0 rfl 0 _).set 6 0 rfl 1 _).p [1,2,3]⟩
 | false =>
   have e1:c.thn s f x=(.thn s f,x):=by cases s <;> first | rfl | cases hn
   rw [e1];intro w hw;refine (Qa.use (dB h.v hn hs hm) (TG.refl hw) [0,1] rfl rfl).mono ?_
   rintro e w' ⟨gs,⟨m',d',g',he,hs',rfl⟩,T⟩;exact ⟨_,⟨m',d',g',gK,gF,he,hs',hx,rfl⟩,T.p [0,2,3]⟩
def nA (c:aV) (s:c.S) (x:c.α) (e:US) (gs:GH):Prop :=
 ∃ m d g gK gF,e=U5 (.agg #[m,d])/\c.SV (c.run s x).1 m d g/\c.rep (c.run s x).2 gK gF/\gs=[g,gK,gF]
theorem oO (a:Option Addr) (n:Nat):Qa prog 178 #[.slice a 0 n] [] fun e gs=>e=U5 (.agg #[U4,U4])/\gs=[]:=by
 refine GO fun w HT=>?_
 go_enter func178,ntmps178
 go_wp2
 have T1:=(HT.a 322 #[.slice a 0 n]).alloc (k:=w.heap.size+1) (by simp) 153 #[U4,U4]
 go_loopw [7] (fun i wr=>i=U2 U3 0/\TG [] w [[cl w.heap.size 322 #[.slice a 0 n]],[cl (w.heap.size+1) 153 #[U4,U4]]] wr) (fun _ _=>0)
 case atStart=>exact ⟨rfl,T1⟩
 case round =>
  obtain ⟨rfl,T⟩:=hrel;obtain ⟨c0,c1⟩:=T.c2 1 0 0 1;obtain ⟨f0,f1⟩:=T.f2 1 0 0 1;have HT:=Vh T;clear T T1;go_wp2
  exact UH (v:=.agg #[U4,U4]) (by simp [results,results178,go_sem,c0,c1]) rfl ⟨_,⟨rfl,rfl⟩,((HT.set 1 0 rfl 0 _).set 1 0 rfl 1 _).p []⟩
theorem dY {b o:Nat} {D:Array Value} {fn:FuncId} {first aK:Array Value} (hD:D[o]?=some (U6 (U7 fn) first aK)) (n:Nat) (h:n=1\/n=2) :
 Qa prog 178 #[.slice (some ⟨b,o,none⟩) n n] [[cl b 1 D]] fun e gs=>∃ bf bl bi,e=U5 (.agg #[U4,U6 (U7 209) #[] #[Qb bf,Qb bl,Qb bi]]) /\
  gs=[[cl b 1 D],[cl bf 1 #[U6 (U7 fn) first aK]],[cl bl 322 #[.slice (some ⟨b,o,none⟩) n n]],[cl bi 3 #[U2 U3 0]]]:=by
 refine GO fun w HT=>?_
 have hn:0<n:=by omega
 have q:=fun w=>q0i (.func fn) first aK w
 clear h;go_enter func178,ntmps178
 go_wp2
 have T1:=(HT.a 322 #[.slice (some ⟨b,o,none⟩) n n]).alloc (k:=w.heap.size+1) (by simp) 153 #[U4,U4]
 go_loopw [7] (fun i wr=>i=U2 U3 0/\TG [[cl b 1 D]] w [[cl b 1 D],[cl w.heap.size 322 #[.slice (some ⟨b,o,none⟩) n n]],[cl (w.heap.size+1) 153 #[U4,U4]]] wr) (fun _ _=>0)
 case atStart=>exact ⟨rfl,T1⟩
 case round =>
  obtain ⟨rfl,T⟩:=hrel;clear T1;obtain ⟨rb,hrb⟩:∃ rb,rb=w.heap.size+1:=⟨_,rfl⟩;obtain ⟨lb,hlb⟩:∃ lb,lb=w.heap.size:=⟨_,rfl⟩;rw [<- hrb,<- hlb] at T;rw [<- hrb,<- hlb];clear hrb hlb;have e0:=(T.cell 0 0 rfl o).trans hD;obtain ⟨c0,c1⟩:=T.c2 2 0 0 1;obtain ⟨f0,f1⟩:=T.f2 2 0 0 1;have lt:=T.l 2 0;simp only [] at lt;have HT:=Vh T;clear T hD;go_wp2
  exact UH (v:=.agg #[U4,U6 (U7 209) #[] #[Qb (wr.heap.size+1),Qb lb,Qb wr.heap.size]]) (by simp [results,results178,go_sem,c0,c1,lt]) rfl ⟨_,⟨_,_,_,rfl,rfl⟩,((((HT.set 2 0 rfl 0 _).set 2 0 rfl 1 _).alloc (k:=wr.heap.size) (by simp) _ _).alloc (k:=wr.heap.size+1) (by simp) _ _).p [0,4,1,3]⟩
theorem K8 (h:c.Ok) {a:c.A} {m d:Value} {g gK gF:List ak} {x:c.α} (hs:c.SV (.aj a) m d g) (hx:c.rep x gK gF) (hp:c.jd a x):ko prog d [g,gK,gF] (nA c (.aj a) x):=by
 obtain ⟨rfl,bf,bl,bi,b,o,D,va,ga,rfl,hva,hD,rfl⟩:=hs;obtain ⟨fn,first,aK,rfl,eg,hd⟩:=h.a hva hx hp;refine ⟨_,_,_,rfl,enters_of func209 (by kernel_rfl) rfl,?_⟩
 refine GO fun w HT=>?_
 have HT:=Vh (HT.out.sum (H':=[[cl bf 1 #[U6 (U7 fn) first aK]],[cl bl 322 #[.slice (some ⟨b,o,none⟩) 1 1]],[cl bi 3 #[U2 U3 0]],[cl b 1 D],ga,gK,gF]));have c0:=HT.c 0 0 0;have sF:=HT.l 0 0;simp only [] at sF;have HD:=Vh hd;clear hd hx hp hva h;simp only [bP] at c0;go_enter func209,ntmps209
 go_wp2_with fail
 refine Qa.run HD (HT.a _ _) [4,5,6] ?_
 rintro e w1 gs ⟨bg,aJ,rfl,hx',rfl⟩ HT;simp only [PU] at HT;have c1:=HT.c 1 0 0;have c2:=HT.c 2 0 0;have HX:=Vh hx';clear hx' c0;simp only [bP] at c1 c2;go_wp2_with fail
 refine Qa.run (oO _ _) (HT) [] ?_
 rintro e w1 gs ⟨rfl,rfl⟩ HT;simp only [PU] at HT;obtain ⟨e0,e1⟩:=HT.c2 7 0 0 1;obtain ⟨f0,f1⟩:=HT.f2 7 0 0 1;clear c1 c2;go_wp2
 exact UH (v:=.agg #[U4,U4]) (by simp [results,results209,go_sem,e0,e1]) rfl ⟨_,⟨_,_,[],bg,aJ,rfl,⟨rfl,rfl,rfl⟩,HX,rfl⟩,((HT.set 7 0 rfl 0 _).set 7 0 rfl 1 _).p [4,5,6]⟩
theorem K9 (h:c.Ok) {a a':c.A} {m d:Value} {g gK gF:List ak} {x:c.α} (hs:c.SV (.aO a a') m d g) (hx:c.rep x gK gF) (hp:c.jd a x):ko prog d [g,gK,gF] (nA c (.aO a a') x):=by
 obtain ⟨rfl,bf,bl,bi,b,va,uV,ga,l6,rfl,hva,nQ,rfl⟩:=hs;obtain ⟨fn,first,aK,rfl,eg,hd⟩:=h.a hva hx hp;obtain ⟨fn',first',dW,rfl⟩:=h.va nQ;refine ⟨_,_,_,rfl,enters_of func209 (by kernel_rfl) rfl,?_⟩
 refine GO fun w HT=>?_
 have HT:=Vh (HT.out.sum (H':=[[cl bf 1 #[U6 (U7 fn) first aK]],[cl bl 322 #[.slice (some ⟨b,0,none⟩) 2 2]],[cl bi 3 #[U2 U3 0]],[cl b 1 #[U6 (U7 fn) first aK,U6 (U7 fn') first' dW]],ga,gK,gF,l6]));have c0:=HT.c 0 0 0;have sF:=HT.l 0 0;simp only [] at sF;have HD:=Vh hd;have HA:=Vh nQ;clear hd hx hp hva nQ h;simp only [bP] at c0;go_enter func209,ntmps209
 go_wp2_with fail
 refine Qa.run HD (HT.a _ _) [4,5,6] ?_
 rintro e w1 gs ⟨bg,aJ,rfl,hx',rfl⟩ HT;simp only [PU] at HT;have c1:=HT.c 1 0 0;have c2:=HT.c 2 0 0;have HX:=Vh hx';clear hx' c0;simp only [bP] at c1 c2;go_wp2_with fail
 refine Qa.run (dY (D:=#[U6 (U7 fn) first aK,U6 (U7 fn') first' dW]) (o:=1) rfl 1 (.inl rfl)) (HT) [3] ?_
 rintro e w1 gs ⟨Ho,Hr,Hq,rfl,rfl⟩ HT;simp only [PU] at HT;obtain ⟨e0,e1⟩:=HT.c2 8 0 0 1;obtain ⟨f0,f1⟩:=HT.f2 8 0 0 1;clear c1 c2;go_wp2
 exact UH (v:=.agg #[U4,_]) (by simp [results,results209,go_sem,e0,e1]) rfl ⟨_,⟨_,_,_,bg,aJ,rfl,⟨rfl,Ho,Hr,Hq,b,1,#[U6 (U7 fn) first aK,U6 (U7 fn') first' dW],_,l6,rfl,HA,rfl,rfl⟩,HX,rfl⟩,(((HT.set 8 0 rfl 0 _).set 8 0 rfl 1 _).p [3,5,6,7,9,10,11]).sum⟩
theorem Ld (h:c.Ok) {s:c.S} {f:c.M} {m d:Value} {g gK gF:List ak} {x:c.α} (hs:c.SV (.thn s f) m d g) (hx:c.rep x gK gF)
 (hi:∀ {m d:Value} {g:List ak},c.SV s m d g->ko prog d [g,gK,gF] (nA c s x)) (hp:(c.run s x).1.isNil=true->c.je f (c.run s x).2):ko prog d [g,gK,gF] (nA c (.thn s f) x):=by
 obtain ⟨bs,br,ds,vm,gs,gm,rfl,hn,hv,hm,rfl⟩:=hs;obtain ⟨fn,first,aK,rfl,eg,hd⟩:=hi hv;obtain ⟨fn',first',dW,rfl⟩:=h.vm hm
 have key:∀ m' d' g' bg aJ,c.SV (c.run s x).1 m' d' g'->c.rep (c.run s x).2 bg aJ->Qa prog 196 #[.agg #[m',d'],U6 (U7 fn') first' dW] [g',gm,bg,aJ] (nA c (.thn s f) x) :=
  fun m' d' g' bg aJ h1 h2=>KA h h1 hm h2 hp
 refine ⟨_,_,_,rfl,enters_of func237 (by kernel_rfl) rfl,?_⟩
 refine GO fun w HT=>?_
 have HT:=Vh (HT.out.sum (H':=[[cl bs 153 #[m,U6 (U7 fn) first aK]],[cl br 151 #[U6 (U7 fn') first' dW]],gs,gK,gF,gm]));have c0:=HT.c 0 0 1;have c1:=HT.c 1 0 0;have sF:=HT.l 0 0;have nS:=HT.l 1 0;simp only [] at sF nS;have HD:=Vh hd;have HK:=Vh key;have HV:=Vh (show ∀ (s:c.S) m d g,c.SV s m d g->eH m/\eH d from fun _ _ _ _ hv=>h.vals hv);clear hd hx hp hv hm hn hi key;simp only [az] at c0 c1;go_enter func237,ntmps237
 go_wp2_with fail
 have HT:=Vh (HT.out.a 153 #[U4,U4])
 go_region_with (first
  | (go_at_call 196
     refine (Qa.use (HK _ _ _ _ _ xX jI) (HT1) [2,5,3,4] rfl rfl).mono ?_
     rintro e w2 ⟨gs,⟨m2,d2,g2,H8,H6,rfl,hs2,hx2,rfl⟩,Ta⟩;simp only [PU] at Ta;obtain ⟨e0,e1⟩:=Ta.c2 6 0 0 1;obtain ⟨f0,f1⟩:=Ta.f2 6 0 0 1;have hv2:=HV.out _ _ _ _ hs2;obtain ⟨st1,st2⟩:=aD (P:=prog) hv2.1 hv2.2 e0 f0 e1 f1;clear hv2;have HS2:=Vh hs2;have kM:=Vh hx2;have HT2:=Vh Ta
     clear Ta hs2 hx2)
  | (refine (Qa.use HD (HT.drew) [2,3,4] rfl rfl).mono ?_
     rintro e w1 ⟨gs,⟨m1,d1,g1,H7,H5,rfl,hs1,hx1,rfl⟩,Ta⟩;simp only [PU] at Ta;have c2:=Ta.c 1 0 0;simp only [az] at c2;have xX:=Vh hs1;have jI:=Vh hx1;have HT1:=Vh Ta
     clear Ta hs1 hx1))
 all_goals
  go_wp2
  exact UH (v:=.agg #[_,_]) (by simp [results,results237,go_sem,e0,e1]) rfl ⟨_,⟨m2,d2,g2,H8,H6,rfl,HS2,kM,rfl⟩,((HT2.set 6 0 rfl 0 _).set 6 0 rfl 1 _).p [2,5,3]⟩
theorem DD (h:c.Ok):∀ {s:c.S} {m d:Value} {g gK gF:List ak} {x:c.α},s.isNil=false->c.SV s m d g->c.rep x gK gF->c.pre s x->ko prog d [g,gK,gF] (nA c s x)
 | .nil,_,_,_,_,_,_,hn,_,_,_=>by cases hn
 | .at none f,_,_,_,_,_,_,_,hs,hx,hp=>h.m hs.2 hx hp
 | .at (some y) f,_,_,_,gK,gF,_,_,hs,hx,hp=>by
   obtain ⟨g1,g2,h1,h2,rfl⟩:=hs;obtain ⟨fn,first,aK,hv,eg,hd⟩:=h.m h2 hx hp;refine ⟨fn,first,aK,hv,eg,fun w hw=>?_⟩
   have T:=(TG.refl hw).sum (H':=[g1,g2,gK,gF]);refine (Qa.use hd T [1,2,3] rfl rfl).mono ?_
   rintro e w' ⟨gs,⟨m',d',g',bg,aJ,he,hs',hx',rfl⟩,T'⟩;exact ⟨_,⟨m',d',g',bg,aJ,he,hs',hx',rfl⟩,T'.p [1,2,3]⟩
 | .aj a,_,_,_,_,_,_,_,hs,hx,hp=>K8 h hs hx hp
 | .aO a b,_,_,_,_,_,_,_,hs,hx,hp=>K9 h hs hx hp
 | .thn s f,_,_,_,_,_,_,_,hs,hx,hp=>by
   have hs':=hs;obtain ⟨bs,br,ds,vm,gs,gm,_,hn,_⟩:=hs';exact Ld h hs hx (fun hv=>DD h hn hv hx hp.1) hp.2
end aV
theorem TG.m {h H:GH} {w w':World} (T:TG h w H w') (H':GH)
 (hs:∀ n:List ak->Nat,(∀ x y,n (x++y)=n x+n y)->n []=0->(∀ a b l,n (a::b::l)=n [a]+n (b::l))->(∀ a x y,n (a::(x++y))=n [a]+(n x+n y))->n H.flatten=n H'.flatten:=by intro n ha h0 h1 h2;simp only [SU,ha,h0,h1,h2] <;> omega):TG h w H' w':=T.sum hs
namespace aV
variable {c:aV}
def aH (pb:Nat) (m d:Value) (n:Int):List ak:=[cl pb 240 #[m,d,U2 U3 n]]
theorem ic (h:c.Ok) {s:c.S} {m d:Value} {g:List ak} (hs:c.SV s m d g):Qa prog 79 #[.agg #[m,d]] [g] fun e gs=>∃ pb,e=U5 (Qb pb)/\gs=[g,aH pb m d 0]:=by
 obtain ⟨v1,v2⟩:=h.vals hs;refine GO fun w HT=>?_
 clear hs h;rcases v1 with rfl | ⟨p9,eu,fU,rfl⟩ <;> rcases v2 with rfl | ⟨Ci,lq,oq,rfl⟩
 all_goals
  go_enter func79,ntmps79
  go_wp2
  go_ret
  exact ⟨_,⟨_,rfl,rfl⟩,(HT.aT _).alloc (k:=w.heap.size+1) (by simp) _ _⟩
theorem eP (h:c.Ok) {s:c.S} {m d:Value} {g:List ak} (hs:c.SV s m d g) (pb:Nat) (n:Int):Qd prog 150 #[Qb pb] [aH pb m d n] (.bool s.isNil):=by
 cases hn:s.isNil with
 | true =>
   have:s=.nil:=by cases s <;> first | rfl | cases hn
   subst this;obtain ⟨rfl,rfl,rfl⟩:=SV.nil hs;refine GO fun w HT=>?_
   have c1:=HT.c 0 0 1;simp only [aH,az] at c1;have q1:=fun w=>Dr w
   clear hs h;go_enter func150,ntmps150
   go_wp2
   go_ret
   exact ⟨rfl,0,rfl⟩
 | false =>
   obtain ⟨fn,first,aK,rfl⟩:=h.uz hn hs;refine GO fun w HT=>?_
   have c1:=HT.c 0 0 1;simp only [aH,az] at c1;have q1:=fun w=>FR (.func fn) first aK w
   clear hs h;go_enter func150,ntmps150
   go_wp2
   go_ret
   exact ⟨rfl,0,rfl⟩
def De (c:aV) (s:c.S) (x:c.α) (g:List ak) (e:US) (gs:GH):Prop:=∃ gK gF,e=U5 (.bool (s.may c.fC x))/\c.rep x gK gF/\gs=[g,gK,gF]
theorem fO:∀ {s:c.S} {d:Value} {g:List ak} {x:c.α},c.Ok->s.isNil=false->c.SV s U4 d g->s.may c.fC x=true
 | .nil,_,_,_,_,hn,_=>by cases hn
 | .at none _,_,_,_,_,_,_=>rfl
 | .at (some y) _,_,_,_,h,_,v=>by
   obtain ⟨g1,g2,h1,_⟩:=v;obtain ⟨_,_,_,he⟩:=h.vy h1;cases he
 | .aj _,_,_,_,_,_,_=>rfl
 | .aO _ _,_,_,_,_,_,_=>rfl
 | .thn s _,_,_,_,h,_,v=>by
   obtain ⟨bs,br,ds,vm,gs,gm,_,hn,hv,_⟩:=v;exact fO (s:=s) h hn hv
theorem D3 (h:c.Ok):∀ {s:c.S} {f:Fn} {a b:Array Value} {d:Value} {g gK gF:List ak} {x:c.α},c.SV s (.func f a b) d g->c.rep x gK gF->s.dx c.dx x->ko prog (.func f a b) [g,gK,gF] (De c s x g)
 | .nil,_,_,_,_,_,_,_,_,v,_,_=>by cases v.1
 | .at none _,_,_,_,_,_,_,_,_,v,_,_=>by cases v.1
 | .at (some y) _,_,_,_,_,_,gK,gF,_,v,hx,hp=>by
   obtain ⟨g1,g2,h1,h2,rfl⟩:=v;obtain ⟨fn,first,aK,hv,eg,hd⟩:=h.y h1 hx hp;refine ⟨fn,first,aK,hv,eg,fun w hw=>?_⟩
   have T:=(TG.refl hw).m [g1,g2,gK,gF];refine (Qa.use hd T [0,2,3] rfl rfl).mono ?_
   rintro e w' ⟨gs,⟨bg,aJ,he,hx',rfl⟩,T'⟩;exact ⟨_,⟨bg,aJ,he,hx',rfl⟩,TG.sum (H:=[g1,g2,bg,aJ]) T'⟩
 | .aj _,_,_,_,_,_,_,_,_,v,_,_=>by cases v.1
 | .aO _ _,_,_,_,_,_,_,_,_,v,_,_=>by cases v.1
 | .thn s _,f,a,b,_,_,gK,gF,_,v,hx,hp=>by
   obtain ⟨bs,br,ds,vm,gs,gm,_,hn,hv,_,rfl⟩:=v;obtain ⟨fn,first,aK,hv',eg,hd⟩:=D3 h hv hx hp;refine ⟨fn,first,aK,hv',eg,fun w hw=>?_⟩
   have T:=(TG.refl hw).sum (H':=[[cl bs 153 #[.func f a b,ds],cl br 151 #[vm]],gs,gm,gK,gF]);refine (Qa.use hd T [1,3,4] rfl rfl).mono ?_
   rintro e w' ⟨gs',⟨bg,aJ,he,hx',rfl⟩,T'⟩;exact ⟨_,⟨bg,aJ,he,hx',rfl⟩,TG.sum (H:=[[cl bs 153 #[.func f a b,ds],cl br 151 #[vm]],gs,gm,bg,aJ]) T'⟩
theorem dS (h:c.Ok) {s:c.S} {m d:Value} {g gK gF:List ak} {x:c.α} (hs:c.SV s m d g) (hx:c.rep x gK gF) (hp:s.dx c.dx x) (pb:Nat) (n:Int) :
 Qa prog 146 #[Qb pb] [aH pb m d n,g,gK,gF] fun e gs=>∃ bg aJ,e=U5 (.bool (s.may c.fC x))/\c.rep x bg aJ/\gs=[aH pb m d n,g,bg,aJ]:=by
 have hd:=eP h hs pb n;cases hn:s.isNil with
 | true =>
   have:s=.nil:=by cases s <;> first | rfl | cases hn
   subst this;rw [hn] at hd;refine GO fun w HT=>?_
   have HD:=Vh hd;have HX:=Vh hx;clear hs h hd hn hp hx;go_enter func146,ntmps146
   go_wp2_with fail
   refine (Qd.use HD HT [0] rfl rfl).mono ?_
   rintro e w1 ⟨rfl,mq,rfl⟩;have HT:=Vh (HT.out.drewN mq);go_wp2
   go_ret
   exact ⟨_,⟨gK,gF,rfl,HX,rfl⟩,HT⟩
 | false =>
   rw [hn] at hd;obtain ⟨v1,_⟩:=h.vals hs;rcases v1 with rfl | ⟨p9,eu,fU,rfl⟩
   ·have hm:=fO (x:=x) h hn hs
    rw [hm];refine GO fun w HT=>?_
    have c0:=HT.c 0 0 0;simp only [aH,az] at c0;have HD:=Vh hd;have HX:=Vh hx;have q1:=fun w=>PO w
    clear hs h hd hn hp hx hm;go_enter func146,ntmps146
    go_wp2_with fail
    refine (Qd.use HD HT [0] rfl rfl).mono ?_
    rintro e w1 ⟨rfl,mq,rfl⟩;have HT:=Vh (HT.out.drewN mq);go_wp2
    go_ret
    exact ⟨_,⟨gK,gF,rfl,HX,rfl⟩,HT⟩
   ·obtain ⟨fn,first,aK,hv,eg,hf⟩:=D3 h hs hx hp
    obtain ⟨rfl,rfl,rfl⟩:p9=fn/\eu=first/\fU=aK:=by
     cases hv
     exact ⟨rfl,rfl,rfl⟩
    obtain ⟨b,hb⟩:∃ b,s.may c.fC x=b:=⟨_,rfl⟩;unfold De at hf;rw [hb] at hf |-;refine GO fun w HT=>?_
    have c0:=HT.c 0 0 0;simp only [aH,az] at c0;have HD:=Vh hd;have HF:=Vh hf;have q1:=fun w=>R9 (.func p9) eu fU w
    clear hs h hd hn hp hx hb hf hv;go_enter func146,ntmps146
    go_wp2_with fail
    refine (Qd.use HD HT [0] rfl rfl).mono ?_
    rintro e w1 ⟨rfl,mq,rfl⟩;have HT:=Vh (HT.out.drewN mq);go_wp2_with fail
    refine Qa.run HF HT [1,2,3] ?_
    rintro e w1 gs ⟨bg,aJ,rfl,hx',rfl⟩ HT;simp only [PU] at HT;have HX:=Vh hx';clear hx';go_wp2
    go_ret
    exact ⟨_,⟨bg,aJ,rfl,HX,rfl⟩,HT⟩
def I6 (c:aV) (pb:Nat) (n:Int) (s:c.S) (x:c.α) (e:US) (gs:GH):Prop :=
 ∃ m d g gK gF,e=U5 (.bool true)/\c.SV (c.run s x).1 m d g/\c.rep (c.run s x).2 gK gF/\gs=[aH pb m d (n+1),g,gK,gF]
theorem dU (h:c.Ok) {s:c.S} {m d:Value} {g gK gF:List ak} {x:c.α} (hs:c.SV s m d g) (hx:c.rep x gK gF) (hp:s.dx c.dx x) (pb:Nat) (n:Int) (hm:s.may c.fC x=false) :
 Qa prog 85 #[Qb pb] [aH pb m d n,g,gK,gF] fun e gs=>∃ bg aJ,e=U5 (.bool false)/\c.rep x bg aJ/\gs=[aH pb m d n,g,bg,aJ]:=by
 have hd:=dS h hs hx hp pb n;rw [hm] at hd;refine GO fun w HT=>?_
 have HD:=Vh hd;clear hs h hd hp hx hm;go_enter func85,ntmps85
 go_wp2_with fail
 refine Qa.run HD HT [0,1,2,3] ?_
 rintro e w1 gs ⟨bg,aJ,rfl,hx',rfl⟩ HT;simp only [PU] at HT;have HX:=Vh hx';clear hx';go_wp2
 go_ret
 exact ⟨_,⟨bg,aJ,rfl,HX,rfl⟩,HT⟩
theorem fD (h:c.Ok) {s:c.S} {m d:Value} {g gK gF:List ak} {x:c.α} (hs:c.SV s m d g) (hx:c.rep x gK gF) (hp:s.dx c.dx x) (hq:c.pre s x) (pb:Nat) (n:Int) (hn:0<=n/\n<=1000000000) (hm:s.may c.fC x=true) :
 Qa prog 85 #[Qb pb] [aH pb m d n,g,gK,gF] (I6 c pb n s x):=by
 have hd:=dS h hs hx hp pb n;rw [hm] at hd;have hni:s.isNil=false:=by cases s <;> first | rfl | cases hm
 have hdo:∀ bg aJ,c.rep x bg aJ->ko prog d [g,bg,aJ] (nA c s x):=fun _ _ hx'=>DD h hni hs hx' hq
 obtain ⟨fn,first,aK,rfl⟩:=h.uz hni hs;have HV:=Vh (show ∀ (s:c.S) m d g,c.SV s m d g->eH m/\eH d from fun _ _ _ _ hv=>h.vals hv);refine GO fun w HT=>?_
 have HD:=Vh hd;have HO:=Vh hdo;obtain ⟨hn0,hn1⟩:=hn;clear hs h hd hp hx hm hq hni hdo;go_enter func85,ntmps85
 go_wp2_with fail
 refine Qa.run HD HT [0,1,2,3] ?_
 rintro e w1 gs ⟨H7,H5,rfl,hx',rfl⟩ HT;simp only [PU] at HT;obtain ⟨c1,c2⟩:=HT.c2 0 0 1 2;have f2:=HT.f 0 0 2;have hf:=HO.out _ _ hx';clear hx';simp only [az] at c1 c2;obtain ⟨fn',first',dW,hv,eg,hf⟩:=hf
 obtain ⟨rfl,rfl,rfl⟩:fn=fn'/\first=first'/\aK=dW:=by
  cases hv
  exact ⟨rfl,rfl,rfl⟩
 have HF:=Vh hf;clear hf hv;go_wp2_with fail
 refine Qa.run HF (HT.set 0 0 rfl 2 (U2 U3 (n+1))) [1,2,3] ?_
 rintro e w1 gs ⟨m',d',g',bg,aJ,rfl,hs',hx',rfl⟩ HT;simp only [PU] at HT;obtain ⟨e0,e1⟩:=HT.c2 0 0 0 1;obtain ⟨f0,f1⟩:=HT.f2 0 0 0 1;have hv2:=HV.out _ _ _ _ hs';obtain ⟨st1,st2⟩:=aD (P:=prog) hv2.1 hv2.2 e0 f0 e1 f1;have HS:=Vh hs';have HX:=Vh hx';clear hs' hx' hv2;go_wp2
 go_ret
 exact ⟨_,⟨m',d',g',bg,aJ,rfl,HS,HX,rfl⟩,(HT.set 0 0 rfl 0 _).set 0 0 rfl 1 _⟩
end aV
namespace aV
variable {c:aV}
theorem bR (h:c.iI) {s:c.S} {f:c.M} {m d v:Value} {g gm:List ak} (hn:s.isNil=false) (hs:c.SV s m d g) (hm:c.VM f v gm) :
 Qa prog 196 #[.agg #[m,d],v] [g,gm] fun e gs=>∃ bs br,e=U5 (.agg #[m,U6 (U7 237) #[] #[Qb bs,Qb br]])/\gs=[[cl bs 153 #[m,d],cl br 151 #[v]]++g++gm]:=by
 obtain ⟨fn,first,aK,rfl⟩:=h.uz hn hs;refine GO fun w HT=>?_
 have HS:=Vh hs;have HM:=Vh hm;have HN:=Vh hn;obtain ⟨v1,_⟩:=h.vals hs;obtain ⟨fn0,yc,BX,rfl⟩:=h.vm hm;clear hm hs h hn;have q1:=fun w=>FR (.func fn) first aK w
 rcases v1 with rfl | ⟨p9,eu,fU,rfl⟩
 all_goals
  go_enter func196,ntmps196
  go_wp2
  exact UH (v:=.agg #[_,_]) (by simp [results,results196,go_sem]) rfl ⟨_,⟨w.heap.size,w.heap.size+1,rfl,rfl⟩,(((HT.a _ _).alloc (k:=w.heap.size+1) (by simp) _ _).aT _).sum⟩
end aV
structure Nd where
 b:Nat
 v:List Value
def nxV (q:Value):List Nd->Value
 | []=>q
 | a::_=>Qb a.b
def gQ (p:Value):List Nd->Value
 | []=>p
 | a::l=>gQ (Qb a.b) l
def X5 (T:TypeId) (hb:Nat):Value->Value->List Nd->List ak
 | _,_,[]=>[]
 | p,q,a::l=>cl a.b T (a.v++[p,nxV q l,Qb hb]).toArray::X5 T hb (Qb a.b) q l
@[simp] theorem iw (q:Value):nxV q []=q:=rfl
@[simp] theorem aR (q:Value) (a:Nd) (l:List Nd):nxV q (a::l)=Qb a.b:=rfl
theorem qtb (q:Value) (l m:List Nd):nxV q (l++m)=nxV (nxV q m) l:=by cases l <;> rfl
theorem Ki (p:Value) (l m:List Nd):gQ p (l++m)=gQ (gQ p l) m:=by
 induction l generalizing p with
 | nil=>rfl
 | cons a l ih=>exact ih _
theorem Js (T:TypeId) (hb:Nat) (p q:Value) (l m:List Nd):X5 T hb p q (l++m)=X5 T hb p (nxV q m) l++X5 T hb (gQ p l) q m:=by
 induction l generalizing p with
 | nil=>rfl
 | cons a l ih =>
   simp only [UB,X5,gQ];rw [ih,qtb]
theorem FU (p:Value) (l:List Nd) (y:Nd):gQ p (l++[y])=Qb y.b:=by rw [Ki];rfl
theorem SB (l:List Nd):l=[]\/∃ m y,l=m++[y]:=by
 rcases List.eq_nil_or_concat l with h | ⟨m,y,h⟩
 ·exact .inl h
 ·exact .inr ⟨m,y,by rw [h,List.concat_eq_append]⟩
def Ss (LT NT:TypeId) (K:Nat) (lb hb:Nat) (l:List Nd) (g:List ak):Prop :=
 (∀ a∈l,a.v.length=K)/\g=cl lb LT #[nxV (U1 none) l,gQ (U1 none) l,U2 U3 l.length,Qb hb]::cl hb 282 #[U1 none]::X5 NT hb (U1 none) (U1 none) l
theorem RD (hb:Nat):Qd prog 192 #[Qb hb] [[cl hb 282 #[U1 none]]] (Qb hb):=by
 refine GO fun w HT=>?_
 have c0:=HT.c 0 0 0;simp only [bP] at c0;go_enter func192,ntmps192
 go_wp2
 go_loopw [0] (fun v wr=>v=Qb hb/\wr=w) (fun _ _=>0)
 case atStart=>exact ⟨rfl,rfl⟩
 case round =>
  obtain ⟨rfl,rfl⟩:=hrel;go_wp2
  go_ret
  exact ⟨rfl,0,rfl⟩
def zx (lb hb:Nat) (l:List Nd) (g:List ak):Prop:=Ss 317 378 1 lb hb l g
theorem Px:Qa prog 175 #[] [] fun e gs=>∃ lb hb g,e=U5 (Qb lb)/\zx lb hb [] g/\gs=[g]:=by
 refine GO fun w HT=>?_
 go_enter func175,ntmps175
 go_wp2
 go_ret
 exact ⟨_,⟨_,_,_,rfl,⟨(by intro a h;cases h),rfl⟩,rfl⟩,((HT.alloc rfl _ _).alloc rfl _ _).re (by simp [X5,nxV,gQ];exact List.Perm.swap _ _ _)⟩
section
variable {lb hb:Nat} {l:List Nd} {g:List ak}
theorem qsu (hg:zx lb hb l g):Qd prog 337 #[Qb lb] [g] (U2 U3 l.length):=by
 obtain ⟨_,rfl⟩:=hg;refine GO fun w HT=>?_
 have c2:=HT.c 0 0 2;simp only [az] at c2;go_enter func337,ntmps337
 go_wp2
 go_ret
 exact ⟨rfl,0,rfl⟩
theorem qmh (hg:zx lb hb l g):Qd prog 324 #[Qb lb] [g] (nxV (U1 none) l):=by
 obtain ⟨_,rfl⟩:=hg;obtain ⟨v,hv⟩:∃ v,nxV (U1 none) l=v:=⟨_,rfl⟩;rw [hv];have hp:∃ o,v=.pointer o:=by subst hv;cases l <;> exact ⟨_,rfl⟩
 obtain ⟨o,rfl⟩:=hp;refine GO fun w HT=>?_
 have c0:=HT.c 0 0 0;simp only [az] at c0;clear hv;go_enter func324,ntmps324
 go_wp2
 go_ret
 exact ⟨rfl,0,rfl⟩
theorem Pz (hg:zx lb hb l g) (hn:l.length<=1000000000) (nb:Nat) (ve p0 q0:Value) :
 Qa prog 321 #[Qb lb,Qb nb] [g,[cl nb 378 #[ve,p0,q0,U1 none]]] fun e gs=>e=U5 (U2 U3 0)/\∃ g',zx lb hb (l++[⟨nb,[ve]⟩]) g'/\gs=[g']:=by
 obtain ⟨hk,rfl⟩:=hg;rcases SB l with rfl | ⟨m,y,rfl⟩
 ·refine GO fun w HT=>?_
  obtain ⟨c0,c1,c2,c3⟩:=HT.c4 0 0 0 1 2 3;obtain ⟨rG,pz,kC,EL⟩:=HT.f4 0 0 0 1 2 3;simp only [nxV,gQ,UC,az] at c0 c1 c2 c3;obtain ⟨d1,d2,d3⟩:=HT.c3 1 0 1 2 3;obtain ⟨fd1,uB,vw⟩:=HT.f3 1 0 1 2 3;simp only [nxV,az] at d1 d2 d3;go_enter func321,ntmps321
  go_wp2
  go_region
  have HT:=Vh ((((HT.set 1 0 rfl 3 (Qb hb)).set 1 0 rfl 1 (U1 none)).set 1 0 rfl 2 (U1 none)).drew);clear c0 c1 c2 c3 rG pz kC EL d1 d2 d3 fd1 uB vw;generalize UQ _=w1 at HT |-;obtain ⟨c0,c1,c2⟩:=HT.c3 0 0 0 1 2;obtain ⟨rG,pz,kC⟩:=HT.f3 0 0 0 1 2;simp only [nxV,gQ,UC,az] at c0 c1 c2;go_wp2
  go_ret
  exact ⟨_,⟨rfl,_,⟨(by intro a h;simp only [UA,UM] at h;subst h;rfl),rfl⟩,rfl⟩,(((HT.set 0 0 rfl 0 _).set 0 0 rfl 1 _).set 0 0 rfl 2 _).eq rfl⟩
 ·obtain ⟨b,v⟩:=y
  have hv:v.length=1:=hk ⟨b,v⟩ (by simp)
  obtain ⟨y0,rfl⟩:∃ y0,v=[y0]:=by
   match v,hv with
   | [y0],_=>exact ⟨y0,rfl⟩
  have hk2:∀ a∈(m++[(⟨b,[y0]⟩:Nd)])++[⟨nb,[ve]⟩],a.v.length=1:=by
   intro a h;rcases V6.1 h with h | h
   ·exact hk a h
   ·simp only [UM] at h;subst h;rfl
  have HK:=Vh hk2;clear hk2;refine GO fun w HT=>?_
  have HL:=Vh hn;have T1:=HT.sum (H':=[[cl lb 317 #[nxV (U1 none) (m++[⟨b,[y0]⟩]),Qb b,(U2 U3 ((m.length+1:Nat):Int)),Qb hb]],[cl hb 282 #[U1 none]],X5 378 hb (U1 none) (Qb b) m,[cl b 378 #[y0,gQ (U1 none) m,U1 none,Qb hb]],[cl nb 378 #[ve,p0,q0,U1 none]]]) (fun n ha h0 h1 h2=>by rw [Js];simp only [UI,U8,UC,UR,FU,X5,iw,aR,UB,UA,UE,UG,UF,ha,h0,h1,h2] <;> omega);have HT:=Vh T1;clear hk hn hv T1;obtain ⟨c0,c1,c2,c3⟩:=HT.c4 0 0 0 1 2 3;obtain ⟨pz,kC⟩:=HT.f2 0 0 1 2;simp only [nxV,az] at c0 c1 c2 c3;obtain ⟨d1,d2,d3⟩:=HT.c3 4 0 1 2 3;obtain ⟨fd1,uB,vw⟩:=HT.f3 4 0 1 2 3;simp only [nxV,az] at d1 d2 d3;have e2:=HT.c 3 0 2;have EM:=HT.f 3 0 2;simp only [nxV,az] at e2;have hlb:m.length+1<=1000000000:=by have:=HL.out;simpa using this
  go_enter func321,ntmps321
  go_wp2
  go_region
  have HT:=Vh ((((HT.set 4 0 rfl 3 (Qb hb)).set 4 0 rfl 1 (Qb b)).set 4 0 rfl 2 (U1 none)).drew);clear c0 c1 c2 c3 pz kC d1 d2 d3 fd1 uB vw;generalize UQ _=w1 at HT |-;obtain ⟨c1,c2⟩:=HT.c2 0 0 1 2;obtain ⟨pz,kC⟩:=HT.f2 0 0 1 2;simp only [nxV,az] at c1 c2;have e2:=HT.c 3 0 2;have EM:=HT.f 3 0 2;simp only [nxV,az] at e2;have ne1:=HT.ne 0 0 3 0 (by decide) rfl rfl;simp only [] at ne1;have o7:=UN ne1;go_wp2
  go_ret
  exact ⟨_,⟨rfl,_,⟨HK,rfl⟩,rfl⟩,((((HT.set 3 0 rfl 2 _).set 0 0 rfl 1 _).set 0 0 rfl 2 _).eq (H':=[[cl lb 317 #[nxV (U1 none) (m++[⟨b,[y0]⟩]),Qb nb,(U2 U3 ((m.length+1+1:Nat):Int)),Qb hb]],[cl hb 282 #[U1 none]],X5 378 hb (U1 none) (Qb b) m,[cl b 378 #[y0,gQ (U1 none) m,Qb nb,Qb hb]],[cl nb 378 #[ve,Qb b,U1 none,Qb hb]]]) rfl).sum (fun n ha h0 h1 h2=>by rw [Js,Js,show nxV (U1 none) (m++[⟨b,[y0]⟩]++[⟨nb,[ve]⟩])=nxV (U1 none) (m++[⟨b,[y0]⟩]) from by cases m <;> rfl];simp only [UI,U8,UC,UR,FU,Ki,gQ,X5,iw,aR,UB,UA,UE,UG,UF,ha,h0,h1,h2] <;> omega)⟩
end
def Yr (lb hb:Nat) (l:List Nd) (g:List ak):Prop:=Ss 261 192 4 lb hb l g
section
variable {lb hb:Nat} {l:List Nd} {g:List ak}
theorem qv (hg:Yr lb hb l g):Qd prog 106 #[Qb lb] [g] (U2 U3 l.length):=by
 obtain ⟨_,rfl⟩:=hg;refine GO fun w HT=>?_
 have c2:=HT.c 0 0 2;simp only [az] at c2;go_enter func106,ntmps106
 go_wp2
 go_ret
 exact ⟨rfl,0,rfl⟩
theorem OA (hg:Yr lb hb l g):Qd prog 107 #[Qb lb] [g] (nxV (U1 none) l):=by
 obtain ⟨_,rfl⟩:=hg;obtain ⟨v,hv⟩:∃ v,nxV (U1 none) l=v:=⟨_,rfl⟩;rw [hv];have hp:∃ o,v=.pointer o:=by subst hv;cases l <;> exact ⟨_,rfl⟩
 obtain ⟨o,rfl⟩:=hp;refine GO fun w HT=>?_
 have c0:=HT.c 0 0 0;simp only [az] at c0;clear hv;go_enter func107,ntmps107
 go_wp2
 go_ret
 exact ⟨rfl,0,rfl⟩
theorem qsv (hg:Yr lb hb l g) (hn:l.length<=1000000000) (nb:Nat) (va vb vc vd p0 q0:Value) :
 Qa prog 344 #[Qb lb,Qb nb] [g,[cl nb 192 #[va,vb,vc,vd,p0,q0,U1 none]]] fun e gs=>e=U5 (U2 U3 0)/\∃ g',Yr lb hb (l++[⟨nb,[va,vb,vc,vd]⟩]) g'/\gs=[g']:=by
 obtain ⟨hk,rfl⟩:=hg;rcases SB l with rfl | ⟨m,y,rfl⟩
 ·refine GO fun w HT=>?_
  obtain ⟨c0,c1,c2,c3⟩:=HT.c4 0 0 0 1 2 3;obtain ⟨rG,pz,kC,EL⟩:=HT.f4 0 0 0 1 2 3;simp only [nxV,gQ,UC,az] at c0 c1 c2 c3;obtain ⟨d4,d5,d6⟩:=HT.c3 1 0 4 5 6;obtain ⟨vz,vB,vC⟩:=HT.f3 1 0 4 5 6;simp only [nxV,az] at d4 d5 d6;go_enter func344,ntmps344
  go_wp2
  go_region
  have HT:=Vh ((((HT.set 1 0 rfl 6 (Qb hb)).set 1 0 rfl 4 (U1 none)).set 1 0 rfl 5 (U1 none)).drew);clear c0 c1 c2 c3 rG pz kC EL d4 d5 d6 vz vB vC;generalize UQ _=w1 at HT |-;obtain ⟨c0,c1,c2⟩:=HT.c3 0 0 0 1 2;obtain ⟨rG,pz,kC⟩:=HT.f3 0 0 0 1 2;simp only [nxV,gQ,UC,az] at c0 c1 c2;go_wp2
  go_ret
  exact ⟨_,⟨rfl,_,⟨(by intro a h;simp only [UA,UM] at h;subst h;rfl),rfl⟩,rfl⟩,(((HT.set 0 0 rfl 0 _).set 0 0 rfl 1 _).set 0 0 rfl 2 _).eq rfl⟩
 ·obtain ⟨b,v⟩:=y
  have hv:v.length=4:=hk ⟨b,v⟩ (by simp)
  obtain ⟨y0,y1,y2,y3,rfl⟩:∃ y0 y1 y2 y3,v=[y0,y1,y2,y3]:=by
   match v,hv with
   | [y0,y1,y2,y3],_=>exact ⟨y0,y1,y2,y3,rfl⟩
  have hk2:∀ a∈(m++[(⟨b,[y0,y1,y2,y3]⟩:Nd)])++[⟨nb,[va,vb,vc,vd]⟩],a.v.length=4:=by
   intro a h;rcases V6.1 h with h | h
   ·exact hk a h
   ·simp only [UM] at h;subst h;rfl
  have HK:=Vh hk2;clear hk2;refine GO fun w HT=>?_
  have HL:=Vh hn;have T1:=HT.sum (H':=[[cl lb 261 #[nxV (U1 none) (m++[⟨b,[y0,y1,y2,y3]⟩]),Qb b,(U2 U3 ((m.length+1:Nat):Int)),Qb hb]],[cl hb 282 #[U1 none]],X5 192 hb (U1 none) (Qb b) m,[cl b 192 #[y0,y1,y2,y3,gQ (U1 none) m,U1 none,Qb hb]],[cl nb 192 #[va,vb,vc,vd,p0,q0,U1 none]]]) (fun n ha h0 h1 h2=>by rw [Js];simp only [UI,U8,UC,UR,FU,X5,iw,aR,UB,UA,UE,UG,UF,ha,h0,h1,h2] <;> omega);have HT:=Vh T1;clear hk hn hv T1;obtain ⟨c0,c1,c2,c3⟩:=HT.c4 0 0 0 1 2 3;obtain ⟨pz,kC⟩:=HT.f2 0 0 1 2;simp only [nxV,az] at c0 c1 c2 c3;obtain ⟨d4,d5,d6⟩:=HT.c3 4 0 4 5 6;obtain ⟨vz,vB,vC⟩:=HT.f3 4 0 4 5 6;simp only [nxV,az] at d4 d5 d6;have e5:=HT.c 3 0 5;have fe5:=HT.f 3 0 5;simp only [nxV,az] at e5;have hlb:m.length+1<=1000000000:=by have:=HL.out;simpa using this
  go_enter func344,ntmps344
  go_wp2
  go_region
  have HT:=Vh ((((HT.set 4 0 rfl 6 (Qb hb)).set 4 0 rfl 4 (Qb b)).set 4 0 rfl 5 (U1 none)).drew);clear c0 c1 c2 c3 pz kC d4 d5 d6 vz vB vC;generalize UQ _=w1 at HT |-;obtain ⟨c1,c2⟩:=HT.c2 0 0 1 2;obtain ⟨pz,kC⟩:=HT.f2 0 0 1 2;simp only [nxV,az] at c1 c2;have e5:=HT.c 3 0 5;have fe5:=HT.f 3 0 5;simp only [nxV,az] at e5;have ne1:=HT.ne 0 0 3 0 (by decide) rfl rfl;simp only [] at ne1;have o7:=UN ne1;go_wp2
  go_ret
  exact ⟨_,⟨rfl,_,⟨HK,rfl⟩,rfl⟩,((((HT.set 3 0 rfl 5 _).set 0 0 rfl 1 _).set 0 0 rfl 2 _).eq (H':=[[cl lb 261 #[nxV (U1 none) (m++[⟨b,[y0,y1,y2,y3]⟩]),Qb nb,(U2 U3 ((m.length+1+1:Nat):Int)),Qb hb]],[cl hb 282 #[U1 none]],X5 192 hb (U1 none) (Qb b) m,[cl b 192 #[y0,y1,y2,y3,gQ (U1 none) m,Qb nb,Qb hb]],[cl nb 192 #[va,vb,vc,vd,Qb b,U1 none,Qb hb]]]) rfl).sum (fun n ha h0 h1 h2=>by rw [Js,Js,show nxV (U1 none) (m++[⟨b,[y0,y1,y2,y3]⟩]++[⟨nb,[va,vb,vc,vd]⟩])=nxV (U1 none) (m++[⟨b,[y0,y1,y2,y3]⟩]) from by cases m <;> rfl];simp only [UI,U8,UC,UR,FU,Ki,gQ,X5,iw,aR,UB,UA,UE,UG,UF,ha,h0,h1,h2] <;> omega)⟩
end
theorem qpe {c:aV} (h:c.iI) {s:c.S} {m d:Value} {g:List ak} (hs:c.SV s m d g) (pb:Nat) (n:Int):Qd prog 150 #[Qb pb] [aV.aH pb m d n] (.bool s.isNil):=by
 cases hn:s.isNil with
 | true =>
   have:s=.nil:=by cases s <;> first | rfl | cases hn
   subst this;obtain ⟨rfl,rfl,rfl⟩:=aV.SV.nil hs;refine GO fun w HT=>?_
   have c1:=HT.c 0 0 1;simp only [aV.aH,az] at c1;have q1:=fun w=>Dr w
   clear hs h;go_enter func150,ntmps150
   go_wp2
   go_ret
   exact ⟨rfl,0,rfl⟩
 | false =>
   obtain ⟨fn,first,aK,rfl⟩:=h.uz hn hs;refine GO fun w HT=>?_
   have c1:=HT.c 0 0 1;simp only [aV.aH,az] at c1;have q1:=fun w=>FR (.func fn) first aK w
   clear hs h;go_enter func150,ntmps150
   go_wp2
   go_ret
   exact ⟨rfl,0,rfl⟩
structure kV where
 M:Type
 A:Type
 Y:Type
 α:Type
 E:Type
 le:E->E->Prop
 rep:E->α->List ak->List ak->Prop
 VM:E->M->Value->List ak->Prop
 VA:E->A->Value->List ak->Prop
 VY:E->Y->Value->List ak->Prop
 runM:M->α->St M A Y × α
 bN:A->α->α
 fC:Y->α->Bool
 je:M->α->Prop
 jd:A->α->Prop
 dx:Y->α->Prop
namespace kV
variable (c:kV)
def on (e:c.E):aV:=⟨c.M,c.A,c.Y,c.α,c.rep e,c.VM e,c.VA e,c.VY e,c.runM,c.bN,c.fC,c.je,c.jd,c.dx⟩
abbrev S:Type:=St c.M c.A c.Y
def run (s:c.S) (x:c.α):c.S × c.α:=St.run c.runM c.bN s x
def pre (s:c.S) (x:c.α):Prop:=St.pre c.runM c.bN c.je c.jd s x
def thn (s:c.S) (m:c.M) (x:c.α):c.S × c.α:=Qe c.runM s m x
def SV (e:c.E) (s:c.S) (m d:Value) (g:List ak):Prop:=(c.on e).SV s m d g
structure Ok:Prop where
 refl:∀ e,c.le e e
 trans:∀ {a b d},c.le a b->c.le b d->c.le a d
 mm:∀ {e e':c.E} {f:c.M} {v:Value} {g:List ak},c.le e e'->c.VM e f v g->c.VM e' f v g
 ma:∀ {e e':c.E} {f:c.A} {v:Value} {g:List ak},c.le e e'->c.VA e f v g->c.VA e' f v g
 m:∀ {e:c.E} {f:c.M} {v:Value} {g gK gF:List ak} {x:c.α},c.VM e f v g->c.rep e x gK gF->c.je f x ->
  ko prog v [g,gK,gF] fun en gs=>∃ e',c.le e e'/\∃ m d g' bg aJ,en=U5 (.agg #[m,d])/\c.SV e' (c.runM f x).1 m d g'/\c.rep e' (c.runM f x).2 bg aJ/\gs=[g',bg,aJ]
 a:∀ {e:c.E} {f:c.A} {v:Value} {g gK gF:List ak} {x:c.α},c.VA e f v g->c.rep e x gK gF->c.jd f x ->
  ko prog v [g,gK,gF] fun en gs=>∃ e',c.le e e'/\∃ bg aJ,en=U5 (.tuple #[])/\c.rep e' (c.bN f x) bg aJ/\gs=[[],bg,aJ]
 y:∀ {e:c.E} {f:c.Y} {v:Value} {g gK gF:List ak} {x:c.α},c.VY e f v g->c.rep e x gK gF->c.dx f x ->
  ko prog v [g,gK,gF] fun en gs=>∃ bg aJ,en=U5 (.bool (c.fC f x))/\c.rep e x bg aJ/\gs=[g,bg,aJ]
 v:∀ e,(c.on e).iI
variable {c}
theorem Ok.uz (h:c.Ok) {e:c.E} {s:c.S} {m d:Value} {g:List ak} (hs:s.isNil=false) (v:c.SV e s m d g):∃ fn first aK,d=U6 (U7 fn) first aK:=(h.v e).uz hs v
theorem Ok.vals (h:c.Ok) {e:c.E} {s:c.S} {m d:Value} {g:List ak} (v:c.SV e s m d g):aV.eH m/\aV.eH d:=(h.v e).vals v
theorem Ok.vm (h:c.Ok) {e:c.E} {f:c.M} {v:Value} {g:List ak} (hv:c.VM e f v g):∃ fn first aK,v=U6 (U7 fn) first aK:=(h.v e).vm hv
theorem Ok.va (h:c.Ok) {e:c.E} {f:c.A} {v:Value} {g:List ak} (hv:c.VA e f v g):∃ fn first aK,v=U6 (U7 fn) first aK:=(h.v e).va hv
theorem KA (h:c.Ok) {e:c.E} {s:c.S} {f:c.M} {m d v:Value} {g gm gK gF:List ak} {x:c.α} (hs:c.SV e s m d g) (hm:c.VM e f v gm) (hx:c.rep e x gK gF) (hp:s.isNil=true->c.je f x) :
 Qa prog 196 #[.agg #[m,d],v] [g,gm,gK,gF] fun en gs=>∃ e',c.le e e'/\∃ m' d' g' bg aJ,en=U5 (.agg #[m',d'])/\c.SV e' (c.thn s f x).1 m' d' g'/\c.rep e' (c.thn s f x).2 bg aJ/\gs=[g',bg,aJ]:=by
 cases hn:s.isNil with
 | true =>
   have:s=.nil:=by cases s <;> first | rfl | cases hn
   subst this;obtain ⟨rfl,rfl,rfl⟩:=aV.SV.nil (c:=c.on e) hs;obtain ⟨fn,first,aK,rfl,eg,hd⟩:=h.m hm hx (hp rfl);refine GO fun w HT=>?_
   have HD:=Vh hd;have HV:=Vh (show ∀ e' (s:c.S) m d g,c.SV e' s m d g->aV.eH m/\aV.eH d from fun _ _ _ _ _ hv=>h.vals hv);clear hd hm hx hp hs h;have q1:=fun w=>Dr w
   go_enter func196,ntmps196
   go_wp2_with fail
   refine (Qa.use HD (((HT.a _ _).alloc (k:=w.heap.size+1) (by simp) _ _).alloc (k:=w.heap.size+1+1) (by simp) _ _) [1,2,3] rfl rfl).mono ?_
   rintro en w1 ⟨gs,⟨e',hle,m',d',g',bg,aJ,rfl,hs',hx',rfl⟩,Ta⟩;simp only [PU] at Ta;obtain ⟨c0,c1⟩:=Ta.c2 6 0 0 1;obtain ⟨f0,f1⟩:=Ta.f2 6 0 0 1;have HT:=Vh Ta;have HS:=Vh hs';have HX:=Vh hx';have EA:=Vh hle;obtain ⟨v1,v2⟩:=HV.out _ _ _ _ _ hs';clear Ta hs' hx' hle;rcases v1 with rfl | ⟨p9,eu,fU,rfl⟩ <;> rcases v2 with rfl | ⟨Ci,lq,oq,rfl⟩
   all_goals
    go_wp2
    exact UH (v:=.agg #[_,_]) (by simp [results,results196,go_sem,c0,c1]) rfl ⟨_,⟨e',EA,_,_,g',bg,aJ,rfl,HS,HX,rfl⟩,((HT.set 6 0 rfl 0 _).set 6 0 rfl 1 _).p [1,2,3]⟩
 | false =>
   have e1:c.thn s f x=(.thn s f,x):=by cases s <;> first | rfl | cases hn
   rw [e1];intro w hw;refine (Qa.use (aV.dB (c:=c.on e) (h.v e) hn hs hm) (TG.refl hw) [0,1] rfl rfl).mono ?_
   rintro en w' ⟨gs,⟨m',d',g',he,hs',rfl⟩,T⟩;exact ⟨_,⟨e,h.refl e,m',d',g',gK,gF,he,hs',hx,rfl⟩,T.p [0,2,3]⟩
def nA (c:kV) (e:c.E) (s:c.S) (x:c.α) (en:US) (gs:GH):Prop :=
 ∃ e',c.le e e'/\∃ m d g gK gF,en=U5 (.agg #[m,d])/\c.SV e' (c.run s x).1 m d g/\c.rep e' (c.run s x).2 gK gF/\gs=[g,gK,gF]
theorem K8 (h:c.Ok) {e:c.E} {a:c.A} {m d:Value} {g gK gF:List ak} {x:c.α} (hs:c.SV e (.aj a) m d g) (hx:c.rep e x gK gF) (hp:c.jd a x):ko prog d [g,gK,gF] (nA c e (.aj a) x):=by
 obtain ⟨rfl,bf,bl,bi,b,o,D,va,ga,rfl,hva,hD,rfl⟩:=hs;obtain ⟨fn,first,aK,rfl,eg,hd⟩:=h.a hva hx hp;refine ⟨_,_,_,rfl,enters_of func209 (by kernel_rfl) rfl,?_⟩
 refine GO fun w HT=>?_
 have HT:=Vh (HT.out.sum (H':=[[cl bf 1 #[U6 (U7 fn) first aK]],[cl bl 322 #[.slice (some ⟨b,o,none⟩) 1 1]],[cl bi 3 #[U2 U3 0]],[cl b 1 D],ga,gK,gF]));have c0:=HT.c 0 0 0;have sF:=HT.l 0 0;simp only [] at sF;have HD:=Vh hd;clear hd hx hp hva h;simp only [bP] at c0;go_enter func209,ntmps209
 go_wp2_with fail
 refine Qa.run HD (HT.a _ _) [4,5,6] ?_
 rintro e w1 gs ⟨e',hle,bg,aJ,rfl,hx',rfl⟩ HT;simp only [PU] at HT;have c1:=HT.c 1 0 0;have c2:=HT.c 2 0 0;have HX:=Vh (UW hle hx');clear hx' hle c0;simp only [bP] at c1 c2;go_wp2_with fail
 refine Qa.run (aV.oO _ _) (HT) [] ?_
 rintro e w1 gs ⟨rfl,rfl⟩ HT;simp only [PU] at HT;obtain ⟨e0,e1⟩:=HT.c2 7 0 0 1;obtain ⟨f0,f1⟩:=HT.f2 7 0 0 1;clear c1 c2;go_wp2
 exact UH (v:=.agg #[U4,U4]) (by simp [results,results209,go_sem,e0,e1]) rfl ⟨_,⟨e',HX.1,_,_,[],bg,aJ,rfl,⟨rfl,rfl,rfl⟩,HX.2,rfl⟩,((HT.set 7 0 rfl 0 _).set 7 0 rfl 1 _).p [4,5,6]⟩
theorem K9 (h:c.Ok) {e:c.E} {a a':c.A} {m d:Value} {g gK gF:List ak} {x:c.α} (hs:c.SV e (.aO a a') m d g) (hx:c.rep e x gK gF) (hp:c.jd a x):ko prog d [g,gK,gF] (nA c e (.aO a a') x):=by
 obtain ⟨rfl,bf,bl,bi,b,va,uV,ga,l6,rfl,hva,nQ,rfl⟩:=hs;obtain ⟨fn,first,aK,rfl,eg,hd⟩:=h.a hva hx hp;obtain ⟨fn',first',dW,rfl⟩:=h.va nQ;refine ⟨_,_,_,rfl,enters_of func209 (by kernel_rfl) rfl,?_⟩
 refine GO fun w HT=>?_
 have HT:=Vh (HT.out.sum (H':=[[cl bf 1 #[U6 (U7 fn) first aK]],[cl bl 322 #[.slice (some ⟨b,0,none⟩) 2 2]],[cl bi 3 #[U2 U3 0]],[cl b 1 #[U6 (U7 fn) first aK,U6 (U7 fn') first' dW]],ga,gK,gF,l6]));have c0:=HT.c 0 0 0;have sF:=HT.l 0 0;simp only [] at sF;have HD:=Vh hd;have HA:=Vh (show ∀ e',c.le e e'->c.VA e' a' (U6 (U7 fn') first' dW) l6 from fun e' hl=>h.ma hl nQ);clear hd hx hp hva nQ h;simp only [bP] at c0;go_enter func209,ntmps209
 go_wp2_with fail
 refine Qa.run HD (HT.a _ _) [4,5,6] ?_
 rintro e w1 gs ⟨e',hle,bg,aJ,rfl,hx',rfl⟩ HT;simp only [PU] at HT;have c1:=HT.c 1 0 0;have c2:=HT.c 2 0 0;have HX:=Vh (UW hle hx');clear hx' hle c0;simp only [bP] at c1 c2;go_wp2_with fail
 refine Qa.run (aV.dY (D:=#[U6 (U7 fn) first aK,U6 (U7 fn') first' dW]) (o:=1) rfl 1 (.inl rfl)) (HT) [3] ?_
 rintro e w1 gs ⟨Ho,Hr,Hq,rfl,rfl⟩ HT;simp only [PU] at HT;obtain ⟨e0,e1⟩:=HT.c2 8 0 0 1;obtain ⟨f0,f1⟩:=HT.f2 8 0 0 1;clear c1 c2;go_wp2
 exact UH (v:=.agg #[U4,_]) (by simp [results,results209,go_sem,e0,e1]) rfl ⟨_,⟨e',HX.1,_,_,_,bg,aJ,rfl,⟨rfl,Ho,Hr,Hq,b,1,#[U6 (U7 fn) first aK,U6 (U7 fn') first' dW],_,l6,rfl,HA e' HX.1,rfl,rfl⟩,HX.2,rfl⟩,(((HT.set 8 0 rfl 0 _).set 8 0 rfl 1 _).p [3,5,6,7,9,10,11]).sum⟩
theorem Ld (h:c.Ok) {e:c.E} {s:c.S} {f:c.M} {m d:Value} {g gK gF:List ak} {x:c.α} (hs:c.SV e (.thn s f) m d g) (hx:c.rep e x gK gF)
 (hi:∀ {m d:Value} {g:List ak},c.SV e s m d g->ko prog d [g,gK,gF] (nA c e s x)) (hp:(c.run s x).1.isNil=true->c.je f (c.run s x).2):ko prog d [g,gK,gF] (nA c e (.thn s f) x):=by
 obtain ⟨bs,br,ds,vm,gs,gm,rfl,hn,hv,hm,rfl⟩:=hs;obtain ⟨fn,first,aK,rfl,eg,hd⟩:=hi hv;obtain ⟨fn',first',dW,rfl⟩:=h.vm hm
 have key:∀ e1 m' d' g' bg aJ,c.le e e1->c.SV e1 (c.run s x).1 m' d' g'->c.rep e1 (c.run s x).2 bg aJ->Qa prog 196 #[.agg #[m',d'],U6 (U7 fn') first' dW] [g',gm,bg,aJ] (nA c e (.thn s f) x) :=
  fun e1 m' d' g' bg aJ hl h1 h2=>(KA h h1 (h.mm hl hm) h2 hp).mono fun en gs ⟨e',hl',hr⟩=>⟨e',h.trans hl hl',hr⟩
 refine ⟨_,_,_,rfl,enters_of func237 (by kernel_rfl) rfl,?_⟩
 refine GO fun w HT=>?_
 have HT:=Vh (HT.out.sum (H':=[[cl bs 153 #[m,U6 (U7 fn) first aK]],[cl br 151 #[U6 (U7 fn') first' dW]],gs,gK,gF,gm]));have c0:=HT.c 0 0 1;have c1:=HT.c 1 0 0;have sF:=HT.l 0 0;have nS:=HT.l 1 0;simp only [] at sF nS;have HD:=Vh hd;have HK:=Vh key;have HV:=Vh (show ∀ e' (s:c.S) m d g,c.SV e' s m d g->aV.eH m/\aV.eH d from fun _ _ _ _ _ hv=>h.vals hv);clear hd hx hp hv hm hn hi key;simp only [az] at c0 c1;go_enter func237,ntmps237
 go_wp2_with fail
 have HT:=Vh (HT.out.a 153 #[U4,U4])
 go_region_with (first
  | (go_at_call 196
     refine (Qa.use (HK _ _ _ _ _ _ nC xX jI) (HT1) [2,5,3,4] rfl rfl).mono ?_
     rintro en w2 ⟨gs,⟨e2,hl2,m2,d2,g2,H8,H6,rfl,hs2,hx2,rfl⟩,Ta⟩;simp only [PU] at Ta;obtain ⟨e0,e1⟩:=Ta.c2 6 0 0 1;obtain ⟨f0,f1⟩:=Ta.f2 6 0 0 1;have hv2:=HV.out _ _ _ _ _ hs2;obtain ⟨st1,st2⟩:=aV.aD (P:=prog) hv2.1 hv2.2 e0 f0 e1 f1;clear hv2;have HS2:=Vh hs2;have kM:=Vh (UW hl2 hx2);have HT2:=Vh Ta
     clear Ta hs2 hx2 hl2)
  | (refine (Qa.use HD (HT.drew) [2,3,4] rfl rfl).mono ?_
     rintro en w1 ⟨gs,⟨en1,hl1,m1,d1,g1,H7,H5,rfl,hs1,hx1,rfl⟩,Ta⟩;simp only [PU] at Ta;have c2:=Ta.c 1 0 0;simp only [az] at c2;have xX:=Vh hs1;have jI:=Vh hx1;have nC:=Vh hl1;have HT1:=Vh Ta
     clear Ta hs1 hx1 hl1))
 all_goals
  go_wp2
  exact UH (v:=.agg #[_,_]) (by simp [results,results237,go_sem,e0,e1]) rfl ⟨_,⟨e2,kM.1,m2,d2,g2,H8,H6,rfl,HS2,kM.2,rfl⟩,((HT2.set 6 0 rfl 0 _).set 6 0 rfl 1 _).p [2,5,3]⟩
theorem DD (h:c.Ok):∀ {e:c.E} {s:c.S} {m d:Value} {g gK gF:List ak} {x:c.α},s.isNil=false->c.SV e s m d g->c.rep e x gK gF->c.pre s x->ko prog d [g,gK,gF] (nA c e s x)
 | _,.nil,_,_,_,_,_,_,hn,_,_,_=>by cases hn
 | _,.at none f,_,_,_,_,_,_,_,hs,hx,hp=>h.m hs.2 hx hp
 | _,.at (some y) f,_,_,_,gK,gF,_,_,hs,hx,hp=>by
   obtain ⟨g1,g2,h1,h2,rfl⟩:=hs;obtain ⟨fn,first,aK,hv,eg,hd⟩:=h.m h2 hx hp;refine ⟨fn,first,aK,hv,eg,fun w hw=>?_⟩
   have T:=(TG.refl hw).m [g1,g2,gK,gF];refine (Qa.use hd T [1,2,3] rfl rfl).mono ?_
   rintro en w' ⟨gs,⟨e',hl,m',d',g',bg,aJ,he,hs',hx',rfl⟩,T'⟩;exact ⟨_,⟨e',hl,m',d',g',bg,aJ,he,hs',hx',rfl⟩,T'.p [1,2,3]⟩
 | _,.aj a,_,_,_,_,_,_,_,hs,hx,hp=>K8 h hs hx hp
 | _,.aO a b,_,_,_,_,_,_,_,hs,hx,hp=>K9 h hs hx hp
 | _,.thn s f,_,_,_,_,_,_,_,hs,hx,hp=>by
   have hs':=hs;obtain ⟨bs,br,ds,vm,gs,gm,_,hn,_⟩:=hs';exact Ld h hs hx (fun hv=>DD h hn hv hx hp.1) hp.2
def De (c:kV) (e:c.E) (s:c.S) (x:c.α) (g:List ak) (en:US) (gs:GH):Prop:=∃ gK gF,en=U5 (.bool (s.may c.fC x))/\c.rep e x gK gF/\gs=[g,gK,gF]
theorem fO:∀ {e:c.E} {s:c.S} {d:Value} {g:List ak} {x:c.α},c.Ok->s.isNil=false->c.SV e s U4 d g->s.may c.fC x=true
 | _,.nil,_,_,_,_,hn,_=>by cases hn
 | _,.at none _,_,_,_,_,_,_=>rfl
 | e,.at (some y) _,_,_,_,h,_,v=>by
   obtain ⟨g1,g2,h1,_⟩:=v;obtain ⟨_,_,_,he⟩:=(h.v e).vy h1;cases he
 | _,.aj _,_,_,_,_,_,_=>rfl
 | _,.aO _ _,_,_,_,_,_,_=>rfl
 | _,.thn s _,_,_,_,h,_,v=>by
   obtain ⟨bs,br,ds,vm,gs,gm,_,hn,hv,_⟩:=v;exact fO (s:=s) h hn hv
theorem D3 (h:c.Ok):∀ {e:c.E} {s:c.S} {f:Fn} {a b:Array Value} {d:Value} {g gK gF:List ak} {x:c.α},c.SV e s (.func f a b) d g->c.rep e x gK gF->s.dx c.dx x->ko prog (.func f a b) [g,gK,gF] (De c e s x g)
 | _,.nil,_,_,_,_,_,_,_,_,v,_,_=>by cases v.1
 | _,.at none _,_,_,_,_,_,_,_,_,v,_,_=>by cases v.1
 | _,.at (some y) _,_,_,_,_,_,gK,gF,_,v,hx,hp=>by
   obtain ⟨g1,g2,h1,h2,rfl⟩:=v;obtain ⟨fn,first,aK,hv,eg,hd⟩:=h.y h1 hx hp;refine ⟨fn,first,aK,hv,eg,fun w hw=>?_⟩
   have T:=(TG.refl hw).m [g1,g2,gK,gF];refine (Qa.use hd T [0,2,3] rfl rfl).mono ?_
   rintro en w' ⟨gs,⟨bg,aJ,he,hx',rfl⟩,T'⟩;exact ⟨_,⟨bg,aJ,he,hx',rfl⟩,TG.sum (H:=[g1,g2,bg,aJ]) T'⟩
 | _,.aj _,_,_,_,_,_,_,_,_,v,_,_=>by cases v.1
 | _,.aO _ _,_,_,_,_,_,_,_,_,v,_,_=>by cases v.1
 | _,.thn s _,f,a,b,_,_,gK,gF,_,v,hx,hp=>by
   obtain ⟨bs,br,ds,vm,gs,gm,_,hn,hv,_,rfl⟩:=v;obtain ⟨fn,first,aK,hv',eg,hd⟩:=D3 h hv hx hp;refine ⟨fn,first,aK,hv',eg,fun w hw=>?_⟩
   have T:=(TG.refl hw).sum (H':=[[cl bs 153 #[.func f a b,ds],cl br 151 #[vm]],gs,gm,gK,gF]);refine (Qa.use hd T [1,3,4] rfl rfl).mono ?_
   rintro en w' ⟨gs',⟨bg,aJ,he,hx',rfl⟩,T'⟩;exact ⟨_,⟨bg,aJ,he,hx',rfl⟩,TG.sum (H:=[[cl bs 153 #[.func f a b,ds],cl br 151 #[vm]],gs,gm,bg,aJ]) T'⟩
open aV (aH)
theorem eP (h:c.Ok) {e:c.E} {s:c.S} {m d:Value} {g:List ak} (hs:c.SV e s m d g) (pb:Nat) (n:Int):Qd prog 150 #[Qb pb] [aH pb m d n] (.bool s.isNil) :=
 qpe (h.v e) hs pb n
theorem dS (h:c.Ok) {e:c.E} {s:c.S} {m d:Value} {g gK gF:List ak} {x:c.α} (hs:c.SV e s m d g) (hx:c.rep e x gK gF) (hp:s.dx c.dx x) (pb:Nat) (n:Int) :
 Qa prog 146 #[Qb pb] [aH pb m d n,g,gK,gF] fun en gs=>∃ bg aJ,en=U5 (.bool (s.may c.fC x))/\c.rep e x bg aJ/\gs=[aH pb m d n,g,bg,aJ]:=by
 have hd:=eP h hs pb n;cases hn:s.isNil with
 | true =>
   have:s=.nil:=by cases s <;> first | rfl | cases hn
   subst this;rw [hn] at hd;refine GO fun w HT=>?_
   have HD:=Vh hd;have HX:=Vh hx;clear hs h hd hn hp hx;go_enter func146,ntmps146
   go_wp2_with fail
   refine (Qd.use HD HT [0] rfl rfl).mono ?_
   rintro e w1 ⟨rfl,mq,rfl⟩;have HT:=Vh (HT.out.drewN mq);go_wp2
   go_ret
   exact ⟨_,⟨gK,gF,rfl,HX,rfl⟩,HT⟩
 | false =>
   rw [hn] at hd;obtain ⟨v1,_⟩:=h.vals hs;rcases v1 with rfl | ⟨p9,eu,fU,rfl⟩
   ·have hm:=fO (x:=x) h hn hs
    rw [hm];refine GO fun w HT=>?_
    have c0:=HT.c 0 0 0;simp only [aH,az] at c0;have HD:=Vh hd;have HX:=Vh hx;have q1:=fun w=>PO w
    clear hs h hd hn hp hx hm;go_enter func146,ntmps146
    go_wp2_with fail
    refine (Qd.use HD HT [0] rfl rfl).mono ?_
    rintro e w1 ⟨rfl,mq,rfl⟩;have HT:=Vh (HT.out.drewN mq);go_wp2
    go_ret
    exact ⟨_,⟨gK,gF,rfl,HX,rfl⟩,HT⟩
   ·obtain ⟨fn,first,aK,hv,eg,hf⟩:=D3 h hs hx hp
    obtain ⟨rfl,rfl,rfl⟩:p9=fn/\eu=first/\fU=aK:=by
     cases hv
     exact ⟨rfl,rfl,rfl⟩
    obtain ⟨b,hb⟩:∃ b,s.may c.fC x=b:=⟨_,rfl⟩;unfold De at hf;rw [hb] at hf |-;refine GO fun w HT=>?_
    have c0:=HT.c 0 0 0;simp only [aH,az] at c0;have HD:=Vh hd;have HF:=Vh hf;have q1:=fun w=>R9 (.func p9) eu fU w
    clear hs h hd hn hp hx hb hf hv;go_enter func146,ntmps146
    go_wp2_with fail
    refine (Qd.use HD HT [0] rfl rfl).mono ?_
    rintro e w1 ⟨rfl,mq,rfl⟩;have HT:=Vh (HT.out.drewN mq);go_wp2_with fail
    refine Qa.run HF HT [1,2,3] ?_
    rintro e w1 gs ⟨bg,aJ,rfl,hx',rfl⟩ HT;simp only [PU] at HT;have HX:=Vh hx';clear hx';go_wp2
    go_ret
    exact ⟨_,⟨bg,aJ,rfl,HX,rfl⟩,HT⟩
def I6 (c:kV) (e:c.E) (pb:Nat) (n:Int) (s:c.S) (x:c.α) (en:US) (gs:GH):Prop :=
 ∃ e',c.le e e'/\∃ m d g gK gF,en=U5 (.bool true)/\c.SV e' (c.run s x).1 m d g/\c.rep e' (c.run s x).2 gK gF/\gs=[aH pb m d (n+1),g,gK,gF]
theorem dU (h:c.Ok) {e:c.E} {s:c.S} {m d:Value} {g gK gF:List ak} {x:c.α} (hs:c.SV e s m d g) (hx:c.rep e x gK gF) (hp:s.dx c.dx x) (pb:Nat) (n:Int) (hm:s.may c.fC x=false) :
 Qa prog 85 #[Qb pb] [aH pb m d n,g,gK,gF] fun en gs=>∃ bg aJ,en=U5 (.bool false)/\c.rep e x bg aJ/\gs=[aH pb m d n,g,bg,aJ]:=by
 have hd:=dS h hs hx hp pb n;rw [hm] at hd;refine GO fun w HT=>?_
 have HD:=Vh hd;clear hs h hd hp hx hm;go_enter func85,ntmps85
 go_wp2_with fail
 refine Qa.run HD HT [0,1,2,3] ?_
 rintro e w1 gs ⟨bg,aJ,rfl,hx',rfl⟩ HT;simp only [PU] at HT;have HX:=Vh hx';clear hx';go_wp2
 go_ret
 exact ⟨_,⟨bg,aJ,rfl,HX,rfl⟩,HT⟩
theorem fD (h:c.Ok) {e:c.E} {s:c.S} {m d:Value} {g gK gF:List ak} {x:c.α} (hs:c.SV e s m d g) (hx:c.rep e x gK gF) (hp:s.dx c.dx x) (hq:c.pre s x) (pb:Nat) (n:Int) (hn:0<=n/\n<=1000000000) (hm:s.may c.fC x=true) :
 Qa prog 85 #[Qb pb] [aH pb m d n,g,gK,gF] (I6 c e pb n s x):=by
 have hd:=dS h hs hx hp pb n;rw [hm] at hd;have hni:s.isNil=false:=by cases s <;> first | rfl | cases hm
 have hdo:∀ bg aJ,c.rep e x bg aJ->ko prog d [g,bg,aJ] (nA c e s x):=fun _ _ hx'=>DD h hni hs hx' hq
 obtain ⟨fn,first,aK,rfl⟩:=h.uz hni hs;have HV:=Vh (show ∀ e' (s:c.S) m d g,c.SV e' s m d g->aV.eH m/\aV.eH d from fun _ _ _ _ _ hv=>h.vals hv);refine GO fun w HT=>?_
 have HD:=Vh hd;have HO:=Vh hdo;obtain ⟨hn0,hn1⟩:=hn;clear hs h hd hp hx hm hq hni hdo;go_enter func85,ntmps85
 go_wp2_with fail
 refine Qa.run HD HT [0,1,2,3] ?_
 rintro e w1 gs ⟨H7,H5,rfl,hx',rfl⟩ HT;simp only [PU] at HT;obtain ⟨c1,c2⟩:=HT.c2 0 0 1 2;have f2:=HT.f 0 0 2;have hf:=HO.out _ _ hx';clear hx';simp only [az] at c1 c2;obtain ⟨fn',first',dW,hv,eg,hf⟩:=hf
 obtain ⟨rfl,rfl,rfl⟩:fn=fn'/\first=first'/\aK=dW:=by
  cases hv
  exact ⟨rfl,rfl,rfl⟩
 have HF:=Vh hf;clear hf hv;go_wp2_with fail
 refine Qa.run HF (HT.set 0 0 rfl 2 (U2 U3 (n+1))) [1,2,3] ?_
 rintro e w1 gs ⟨e',hle,m',d',g',bg,aJ,rfl,hs',hx',rfl⟩ HT;simp only [PU] at HT;obtain ⟨e0,e1⟩:=HT.c2 0 0 0 1;obtain ⟨f0,f1⟩:=HT.f2 0 0 0 1;have hv2:=HV.out _ _ _ _ _ hs';obtain ⟨st1,st2⟩:=aV.aD (P:=prog) hv2.1 hv2.2 e0 f0 e1 f1;have HS:=Vh hs';have HX:=Vh (UW hle hx');clear hs' hx' hle hv2;go_wp2
 go_ret
 exact ⟨_,⟨e',HX.1,m',d',g',bg,aJ,rfl,HS,HX.2,rfl⟩,(HT.set 0 0 rfl 0 _).set 0 0 rfl 1 _⟩
end kV
theorem Tryz.si:(prog.info? 282).map (fun i=>(i.zero,i.size,i.bytes))=some (some (.agg #[U1 none]),1,8):=by kernel_rfl
theorem QJ (b:Nat) (w:World):(binOp .eql 190 (Qb b) (Qb b)).run prog w=.ok (.bool true) w:=by
 obtain ⟨i,hi,_,_,_⟩:=info_parts Tryz.si;exact run_eql_ptr_same w ⟨b,0,none⟩ underlying190 hi
theorem LW (l:List Nd):l=[]\/∃ y m,l=y::m:=by cases l <;> simp
section
variable {lb hb:Nat} {l:List Nd} {g:List ak}
theorem qss (nb:Nat) {ve:Value} (hg:zx lb hb (⟨nb,[ve]⟩::l) g):Qd prog 334 #[Qb lb,Qb nb] [g] (.bool true):=by
 obtain ⟨_,rfl⟩:=hg;refine GO fun w HT=>?_
 have HT:=Vh (HT.out.sum (H':=[[cl lb 317 #[Qb nb,gQ (Qb nb) l,U2 U3 (⟨nb,[ve]⟩::l:List Nd).length,Qb hb]],[cl hb 282 #[U1 none]],[cl nb 378 #[ve,U1 none,nxV (U1 none) l,Qb hb]],X5 378 hb (Qb nb) (U1 none) l]) (fun n ha h0 h1 h2=>by simp only [X5,aR,gQ,UB,UA,UE,UG,UF,ha,h0,h1,h2] <;> omega));have q1:=fun w=>QJ hb w
 have c3:=HT.c 0 0 3;simp only [aR,az] at c3;have d3:=HT.c 2 0 3;simp only [aR,az] at d3;go_enter func334,ntmps334
 go_wp2
 go_quiet ((first | (go_at_call 192;with_reducible exact Qd.quiet (RD hb) HT.out _ [1] rfl rfl)))
 have HT:=Vh (HT.out.drewN nq);go_wp2
 go_ret
 exact ⟨rfl,_,rfl⟩
theorem qkn (nb:Nat) {ve:Value} (hg:zx lb hb (⟨nb,[ve]⟩::l) g) (hn:l.length<=1000000000) :
 Qa prog 319 #[Qb lb,Qb nb] [g] fun e gs=>e=U5 (U2 U3 0)/\∃ g',zx lb hb l g'/\gs=[g',[cl nb 378 #[ve,U1 none,U1 none,U1 none]]]:=by
 have hh:=qss nb hg;obtain ⟨hk,rfl⟩:=hg;have hk2:∀ a∈l,a.v.length=1:=fun a h=>hk a (UT _ h)
 rcases LW l with rfl | ⟨⟨yb,yv⟩,m,rfl⟩
 ·refine GO fun w HT=>?_
  have HH:=Vh hh;have xR:=Vh hk2;clear hh hk hk2;go_enter func319,ntmps319
  go_wp2_with fail
  refine Qd.run HH HT [0] ?_
  rintro e wq rfl HT;have HT:=Vh (HT.out.eq (H':=[[cl lb 317 #[Qb nb,Qb nb,U2 U3 1,Qb hb]],[cl hb 282 #[U1 none]],[cl nb 378 #[ve,U1 none,U1 none,Qb hb]]]) rfl);obtain ⟨c0,c1,c2⟩:=HT.c3 0 0 0 1 2;obtain ⟨rG,pz,kC⟩:=HT.f3 0 0 0 1 2;simp only [aR,az] at c0 c1 c2;obtain ⟨d1,d2,d3⟩:=HT.c3 2 0 1 2 3;obtain ⟨fd1,uB,vw⟩:=HT.f3 2 0 1 2 3;simp only [aR,az] at d1 d2 d3;have ne1:=HT.ne 0 0 2 0 (by decide) rfl rfl;simp only [] at ne1;have o7:=UN ne1;go_wp2
  go_ret
  exact ⟨_,⟨rfl,_,⟨xR,rfl⟩,rfl⟩,((((((HT.set 0 0 rfl 0 _).set 0 0 rfl 1 _).set 2 0 rfl 1 _).set 2 0 rfl 2 _).set 2 0 rfl 3 _).set 0 0 rfl 2 _).eq rfl⟩
 ·have hyv:yv.length=1:=hk2 ⟨yb,yv⟩ UX
  obtain ⟨y0,rfl⟩:∃ y0,yv=[y0]:=by
   match yv,hyv with
   | [y0],_=>exact ⟨y0,rfl⟩
  refine GO fun w HT=>?_
  have HH:=Vh hh;have xR:=Vh hk2;have Ip:m.length+1<=1000000000:=by simpa using hn
  clear hh hk hk2 hn hyv;go_enter func319,ntmps319
  go_wp2_with fail
  refine Qd.run HH HT [0] ?_
  rintro e wq rfl HT;have HT:=Vh (HT.out.sum (H':=[[cl lb 317 #[Qb nb,gQ (Qb yb) m,(U2 U3 ((m.length+1+1:Nat):Int)),Qb hb]],[cl hb 282 #[U1 none]],[cl nb 378 #[ve,U1 none,Qb yb,Qb hb]],[cl yb 378 #[y0,Qb nb,nxV (U1 none) m,Qb hb]],X5 378 hb (Qb yb) (U1 none) m]) (fun n ha h0 h1 h2=>by simp only [X5,aR,gQ,U8,UB,UA,UE,UG,UF,ha,h0,h1,h2] <;> omega));obtain ⟨c0,c2⟩:=HT.c2 0 0 0 2;obtain ⟨rG,kC⟩:=HT.f2 0 0 0 2;simp only [aR,az] at c0 c2;obtain ⟨d1,d2,d3⟩:=HT.c3 2 0 1 2 3;obtain ⟨fd1,uB,vw⟩:=HT.f3 2 0 1 2 3;simp only [aR,az] at d1 d2 d3;have e1:=HT.c 3 0 1;have dZ:=HT.f 3 0 1;simp only [aR,az] at e1;have ne1:=HT.ne 0 0 2 0 (by decide) rfl rfl;have xe:=HT.ne 0 0 3 0 (by decide) rfl rfl;have xg:=HT.ne 2 0 3 0 (by decide) rfl rfl;simp only [] at ne1 xe xg;have o7:=UN ne1;have N5:=UN xe;have N6:=UN xg;go_wp2
  have HT:=Vh ((HT.set 0 0 rfl 0 (Qb yb)).eq (H':=[[cl lb 317 #[Qb yb,gQ (Qb yb) m,(U2 U3 ((m.length+1+1:Nat):Int)),Qb hb]],[cl hb 282 #[U1 none]],[cl nb 378 #[ve,U1 none,Qb yb,Qb hb]],[cl yb 378 #[y0,Qb nb,nxV (U1 none) m,Qb hb]],X5 378 hb (Qb yb) (U1 none) m]) rfl);clear c0 rG c2 kC d1 fd1 d2 uB d3 vw e1 dZ;generalize UU _ _ _=w2 at HT |-;obtain ⟨d1,d2,d3⟩:=HT.c3 2 0 1 2 3;obtain ⟨fd1,uB,vw⟩:=HT.f3 2 0 1 2 3;simp only [aR,az] at d1 d2 d3;have e1:=HT.c 3 0 1;have dZ:=HT.f 3 0 1;simp only [aR,az] at e1;go_region
  have HT:=Vh (((HT.set 3 0 rfl 1 (U1 none)).drew).eq (H':=[[cl lb 317 #[Qb yb,gQ (Qb yb) m,(U2 U3 ((m.length+1+1:Nat):Int)),Qb hb]],[cl hb 282 #[U1 none]],[cl nb 378 #[ve,U1 none,Qb yb,Qb hb]],[cl yb 378 #[y0,U1 none,nxV (U1 none) m,Qb hb]],X5 378 hb (Qb yb) (U1 none) m]) rfl);clear d1 fd1 d2 uB d3 vw e1 dZ;generalize UQ _=w3 at HT |-;have c2:=HT.c 0 0 2;have kC:=HT.f 0 0 2;simp only [aR,az] at c2;obtain ⟨d1,d2,d3⟩:=HT.c3 2 0 1 2 3;obtain ⟨fd1,uB,vw⟩:=HT.f3 2 0 1 2 3;simp only [aR,az] at d1 d2 d3;go_wp2
  go_ret
  exact ⟨_,⟨rfl,_,⟨xR,rfl⟩,rfl⟩,(((((HT.set 2 0 rfl 1 _).set 2 0 rfl 2 _).set 2 0 rfl 3 _).set 0 0 rfl 2 _).eq (H':=[[cl lb 317 #[Qb yb,gQ (Qb yb) m,(U2 U3 ((m.length+1:Nat):Int)),Qb hb]],[cl hb 282 #[U1 none]],[cl nb 378 #[ve,U1 none,U1 none,U1 none]],[cl yb 378 #[y0,U1 none,nxV (U1 none) m,Qb hb]],X5 378 hb (Qb yb) (U1 none) m]) (by rfl)).sum (fun n ha h0 h1 h2=>by have hc:=ha [cl yb 378 #[y0,U1 none,nxV (U1 none) m,Qb hb]] (X5 378 hb (Qb yb) (U1 none) m);simp only [UB,UA] at hc;simp only [X5,aR,gQ,U8,UB,UA,UE,UG,UF,ha,h0,h1,h2] <;> omega)⟩
end
section
variable {lb hb:Nat} {l:List Nd} {g:List ak}
theorem qst (nb:Nat) {va vb vc vd:Value} (hg:Yr lb hb (⟨nb,[va,vb,vc,vd]⟩::l) g):Qd prog 155 #[Qb lb,Qb nb] [g] (.bool true):=by
 obtain ⟨_,rfl⟩:=hg;refine GO fun w HT=>?_
 have HT:=Vh (HT.out.sum (H':=[[cl lb 261 #[Qb nb,gQ (Qb nb) l,U2 U3 (⟨nb,[va,vb,vc,vd]⟩::l:List Nd).length,Qb hb]],[cl hb 282 #[U1 none]],[cl nb 192 #[va,vb,vc,vd,U1 none,nxV (U1 none) l,Qb hb]],X5 192 hb (Qb nb) (U1 none) l]) (fun n ha h0 h1 h2=>by simp only [X5,aR,gQ,UB,UA,UE,UG,UF,ha,h0,h1,h2] <;> omega));have q1:=fun w=>QJ hb w
 have c3:=HT.c 0 0 3;simp only [aR,az] at c3;have d6:=HT.c 2 0 6;simp only [aR,az] at d6;go_enter func155,ntmps155
 go_wp2
 go_quiet ((first | (go_at_call 192;with_reducible exact Qd.quiet (RD hb) HT.out _ [1] rfl rfl)))
 have HT:=Vh (HT.out.drewN nq);go_wp2
 go_ret
 exact ⟨rfl,_,rfl⟩
theorem qko (nb:Nat) {va vb vc vd:Value} (hg:Yr lb hb (⟨nb,[va,vb,vc,vd]⟩::l) g) (hn:l.length<=1000000000) :
 Qa prog 108 #[Qb lb,Qb nb] [g] fun e gs=>e=U5 (U2 U3 0)/\∃ g',Yr lb hb l g'/\gs=[g',[cl nb 192 #[va,vb,vc,vd,U1 none,U1 none,U1 none]]]:=by
 have hh:=qst nb hg;obtain ⟨hk,rfl⟩:=hg;have hk2:∀ a∈l,a.v.length=4:=fun a h=>hk a (UT _ h)
 rcases LW l with rfl | ⟨⟨yb,yv⟩,m,rfl⟩
 ·refine GO fun w HT=>?_
  have HH:=Vh hh;have xR:=Vh hk2;clear hh hk hk2;go_enter func108,ntmps108
  go_wp2_with fail
  refine Qd.run HH HT [0] ?_
  rintro e wq rfl HT;have HT:=Vh (HT.out.eq (H':=[[cl lb 261 #[Qb nb,Qb nb,U2 U3 1,Qb hb]],[cl hb 282 #[U1 none]],[cl nb 192 #[va,vb,vc,vd,U1 none,U1 none,Qb hb]]]) rfl);obtain ⟨c0,c1,c2⟩:=HT.c3 0 0 0 1 2;obtain ⟨rG,pz,kC⟩:=HT.f3 0 0 0 1 2;simp only [aR,az] at c0 c1 c2;obtain ⟨d4,d5,d6⟩:=HT.c3 2 0 4 5 6;obtain ⟨vz,vB,vC⟩:=HT.f3 2 0 4 5 6;simp only [aR,az] at d4 d5 d6;have ne1:=HT.ne 0 0 2 0 (by decide) rfl rfl;simp only [] at ne1;have o7:=UN ne1;go_wp2
  go_ret
  exact ⟨_,⟨rfl,_,⟨xR,rfl⟩,rfl⟩,((((((HT.set 0 0 rfl 0 _).set 0 0 rfl 1 _).set 2 0 rfl 4 _).set 2 0 rfl 5 _).set 2 0 rfl 6 _).set 0 0 rfl 2 _).eq rfl⟩
 ·have hyv:yv.length=4:=hk2 ⟨yb,yv⟩ UX
  obtain ⟨y0,y1,y2,y3,rfl⟩:∃ y0 y1 y2 y3,yv=[y0,y1,y2,y3]:=by
   match yv,hyv with
   | [y0,y1,y2,y3],_=>exact ⟨y0,y1,y2,y3,rfl⟩
  refine GO fun w HT=>?_
  have HH:=Vh hh;have xR:=Vh hk2;have Ip:m.length+1<=1000000000:=by simpa using hn
  clear hh hk hk2 hn hyv;go_enter func108,ntmps108
  go_wp2_with fail
  refine Qd.run HH HT [0] ?_
  rintro e wq rfl HT;have HT:=Vh (HT.out.sum (H':=[[cl lb 261 #[Qb nb,gQ (Qb yb) m,(U2 U3 ((m.length+1+1:Nat):Int)),Qb hb]],[cl hb 282 #[U1 none]],[cl nb 192 #[va,vb,vc,vd,U1 none,Qb yb,Qb hb]],[cl yb 192 #[y0,y1,y2,y3,Qb nb,nxV (U1 none) m,Qb hb]],X5 192 hb (Qb yb) (U1 none) m]) (fun n ha h0 h1 h2=>by simp only [X5,aR,gQ,U8,UB,UA,UE,UG,UF,ha,h0,h1,h2] <;> omega));obtain ⟨c0,c2⟩:=HT.c2 0 0 0 2;obtain ⟨rG,kC⟩:=HT.f2 0 0 0 2;simp only [aR,az] at c0 c2;obtain ⟨d4,d5,d6⟩:=HT.c3 2 0 4 5 6;obtain ⟨vz,vB,vC⟩:=HT.f3 2 0 4 5 6;simp only [aR,az] at d4 d5 d6;have e4:=HT.c 3 0 4;have zT:=HT.f 3 0 4;simp only [aR,az] at e4;have ne1:=HT.ne 0 0 2 0 (by decide) rfl rfl;have xe:=HT.ne 0 0 3 0 (by decide) rfl rfl;have xg:=HT.ne 2 0 3 0 (by decide) rfl rfl;simp only [] at ne1 xe xg;have o7:=UN ne1;have N5:=UN xe;have N6:=UN xg;go_wp2
  have HT:=Vh ((HT.set 0 0 rfl 0 (Qb yb)).eq (H':=[[cl lb 261 #[Qb yb,gQ (Qb yb) m,(U2 U3 ((m.length+1+1:Nat):Int)),Qb hb]],[cl hb 282 #[U1 none]],[cl nb 192 #[va,vb,vc,vd,U1 none,Qb yb,Qb hb]],[cl yb 192 #[y0,y1,y2,y3,Qb nb,nxV (U1 none) m,Qb hb]],X5 192 hb (Qb yb) (U1 none) m]) rfl);clear c0 rG c2 kC d4 vz d5 vB d6 vC e4 zT;generalize UU _ _ _=w2 at HT |-;obtain ⟨d4,d5,d6⟩:=HT.c3 2 0 4 5 6;obtain ⟨vz,vB,vC⟩:=HT.f3 2 0 4 5 6;simp only [aR,az] at d4 d5 d6;have e4:=HT.c 3 0 4;have zT:=HT.f 3 0 4;simp only [aR,az] at e4;go_region
  have HT:=Vh (((HT.set 3 0 rfl 4 (U1 none)).drew).eq (H':=[[cl lb 261 #[Qb yb,gQ (Qb yb) m,(U2 U3 ((m.length+1+1:Nat):Int)),Qb hb]],[cl hb 282 #[U1 none]],[cl nb 192 #[va,vb,vc,vd,U1 none,Qb yb,Qb hb]],[cl yb 192 #[y0,y1,y2,y3,U1 none,nxV (U1 none) m,Qb hb]],X5 192 hb (Qb yb) (U1 none) m]) rfl);clear d4 vz d5 vB d6 vC e4 zT;generalize UQ _=w3 at HT |-;have c2:=HT.c 0 0 2;have kC:=HT.f 0 0 2;simp only [aR,az] at c2;obtain ⟨d4,d5,d6⟩:=HT.c3 2 0 4 5 6;obtain ⟨vz,vB,vC⟩:=HT.f3 2 0 4 5 6;simp only [aR,az] at d4 d5 d6;go_wp2
  go_ret
  exact ⟨_,⟨rfl,_,⟨xR,rfl⟩,rfl⟩,(((((HT.set 2 0 rfl 4 _).set 2 0 rfl 5 _).set 2 0 rfl 6 _).set 0 0 rfl 2 _).eq (H':=[[cl lb 261 #[Qb yb,gQ (Qb yb) m,(U2 U3 ((m.length+1:Nat):Int)),Qb hb]],[cl hb 282 #[U1 none]],[cl nb 192 #[va,vb,vc,vd,U1 none,U1 none,U1 none]],[cl yb 192 #[y0,y1,y2,y3,U1 none,nxV (U1 none) m,Qb hb]],X5 192 hb (Qb yb) (U1 none) m]) (by rfl)).sum (fun n ha h0 h1 h2=>by have hc:=ha [cl yb 192 #[y0,y1,y2,y3,U1 none,nxV (U1 none) m,Qb hb]] (X5 192 hb (Qb yb) (U1 none) m);simp only [UB,UA] at hc;simp only [X5,aR,gQ,U8,UB,UA,UE,UG,UF,ha,h0,h1,h2] <;> omega)⟩
end
theorem Tryz.pN:(prog.info? 315).map (fun i=>(i.zero,i.size,i.bytes))=some (some (U1 none),1,8):=by kernel_rfl
structure Jd where
 lb:Nat
 hb:Nat
 l:List Nd
def Fs (s:Jd) (g:List ak):Prop:=zx s.lb s.hb s.l g
def ky (ss:List Jd):Nat:=(ss.map fun s=>s.l.length).sum
structure yM (ss:List Jd) (C:Array Value):Prop where
 size:C.size=66
 at_:∀ (i:Nat) (s:Jd),ss[i]?=some s->C[i]?=some (Qb s.lb)
 used:∃ u,C[64]?=some (U2 UD u)
 n:C[65]?=some (U2 U3 (ky ss))
def Yq (vb:Nat) (ss:List Jd) (g:List ak):Prop:=ss.length=64/\∃ C gH,yM ss C/\Yy Fs ss gH/\g=cl vb 321 C::gH
theorem FM {ss:List Jd} {k:Nat} {s:Jd} (hs:ss[k]?=some s) (s':Jd):ky (ss.set k s')+s.l.length=ky ss+s'.l.length:=by
 unfold ky;induction ss generalizing k with
 | nil=>simp at hs
 | cons a l ih =>
   cases k with
   | zero =>
     simp only [List.getElem?_cons_zero,Option.some.injEq] at hs;subst hs;simp only [UY,V7,List.sum_cons];omega
   | succ k =>
     simp only [List.getElem?_cons_succ] at hs;have:=ih hs;simp only [UZ,V7,List.sum_cons];omega
theorem LG {ss:List Jd} {k:Nat} {s:Jd} (hs:ss[k]?=some s):s.l.length<=ky ss:=by
 have:=FM hs { s with l:=[] };simp only [UC] at this;omega
theorem yM.put {ss:List Jd} {C:Array Value} (h:yM ss C) (hl:ss.length=64) {k:Nat} {s s':Jd} (hs:ss[k]?=some s) (hb:s'.lb=s.lb) {n:Int} (hn:n=ky (ss.set k s')):yM (ss.set k s') (C.setIfInBounds 65 (U2 U3 n)):=by
 subst hn;have hs1:=h.size;refine ⟨by simpa using h.size,fun i s2 h2=>?_,?_,?_⟩
 ·have hi:i<64:=by have:=(UL.1 h2).1;rw [UJ,hl] at this;exact this
  rw [U9 (by omega)];rw [List.getElem?_set] at h2;split at h2
  ·next e =>
   subst e;split at h2
   ·cases h2;rw [hb];exact h.at_ k s hs
   ·cases h2
  ·exact h.at_ i s2 h2
 ·obtain ⟨u,hu⟩:=h.used
  exact ⟨u,by rw [U9 (by omega)];exact hu⟩
 ·rw [UK (by omega)]
theorem yM.map {ss:List Jd} {C:Array Value} (h:yM ss C) (hl:ss.length=64) (u:Int):yM ss (C.setIfInBounds 64 (U2 UD u)):=by
 have hs1:=h.size;refine ⟨by simpa using h.size,fun i s2 h2=>?_,⟨u,?_⟩,?_⟩
 ·have hi:i<64:=by have:=(UL.1 h2).1;omega
  rw [U9 (by omega)];exact h.at_ i s2 h2
 ·rw [UK (by omega)]
 ·rw [U9 (by omega)];exact h.n
theorem Oi (k:Nat) (hk:k<64):Qa prog 343 #[U2 U3 k] [] fun e gs=>∃ u,e=U5 (U2 UD u)/\gs=[]:=by
 refine GO fun w HT=>?_
 have h1:decide ((k:Int)<0)=false:=decide_eq_false (by omega);have h2:decide ((k:Int) ≥ 64)=false:=decide_eq_false (by omega);go_enter func343,ntmps343
 go_wp2
 go_ret
 exact ⟨_,⟨_,rfl,rfl⟩,HT⟩
theorem q8t (m:Int) (k:Nat) (hk:k<64):Qa prog 336 #[U2 UD m,U2 U3 k] [] fun e gs=>∃ u,e=U5 (U2 UD u)/\gs=[]:=by
 refine GO fun w HT=>?_
 go_enter func336,ntmps336
 go_wp2_with fail
 refine Qa.run (Oi k hk) (HT) [] ?_
 rintro e w1 gs ⟨u,rfl,rfl⟩ HT;simp only [PU] at HT;go_wp2
 go_ret
 exact ⟨_,⟨_,rfl,rfl⟩,HT⟩
theorem qyq (m:Int) (k:Nat) (hk:k<64):Qa prog 338 #[U2 UD m,U2 U3 k] [] fun e gs=>∃ u,e=U5 (U2 UD u)/\gs=[]:=by
 refine GO fun w HT=>?_
 go_enter func338,ntmps338
 go_wp2_with fail
 refine Qa.run (Oi k hk) (HT) [] ?_
 rintro e w1 gs ⟨u,rfl,rfl⟩ HT;simp only [PU] at HT;go_wp2
 go_ret
 exact ⟨_,⟨_,rfl,rfl⟩,HT⟩
section
variable {vb:Nat} {ss:List Jd} {g:List ak}
theorem Ko (vb:Nat) (k:Nat) (hk:k<64):Qd prog 323 #[Qb vb,U2 U3 k] [] (U2 U3 0):=by
 refine GO fun w HT=>?_
 have h1:decide ((k:Int)<0)=false:=decide_eq_false (by omega);have h2:decide ((k:Int) ≥ 64)=false:=decide_eq_false (by omega);go_enter func323,ntmps323
 go_wp2
 go_ret
 exact ⟨rfl,0,rfl⟩
theorem q0q (hg:Yq vb ss g) {k:Nat} {s:Jd} (hs:ss[k]?=some s) (hk:k<64) (ht:ky ss<=1000000) (hn:s.l.length<=1000000) (nb:Nat) (ve p0 q0:Value) :
 Qa prog 322 #[Qb vb,U2 U3 k,Qb nb] [g,[cl nb 378 #[ve,p0,q0,U1 none]]] fun e gs =>
  e=U5 (U2 U3 0)/\∃ g',Yq vb (ss.set k { s with l:=s.l++[⟨nb,[ve]⟩] }) g'/\gs=[g']:=by
 obtain ⟨hl,C,gH,hC,hF,rfl⟩:=hg;obtain ⟨u,y,hu,hp,hback⟩:=hF.out hs;refine GO fun w HT=>?_
 have HT:=Vh (((HT.sum (H':=[[cl vb 321 C],gH,[cl nb 378 #[ve,p0,q0,U1 none]]])).bz 1 rfl hp).sum (H':=[[cl vb 321 C],u,y,[cl nb 378 #[ve,p0,q0,U1 none]]]));have HC:=Vh hC;have HU:=Vh hu;have HB:=Vh hback;have HP:=Vh hp;have HS:=Vh hs;clear hC hF hu hp hback hs;have h64:=HC.n;obtain ⟨um,CK⟩:=HC.used;have BK:=Vh CK;have hsz:=HC.size;have c0:=(HT.cell 0 0 rfl k).trans (HC.at_ k s HS);have c1:=(HT.c 0 0 65).trans h64;have f1:=HT.f 0 0 65;have hkb:(k:Int)<64:=by omega
 clear h64 CK;go_enter func322,ntmps322
 go_wp2_with fail
 refine Qd.run (Ko vb k hk) HT [] ?_
 rintro e wq rfl HT;clear c0 c1 f1;have c0:=(HT.cell 0 0 rfl k).trans (HC.at_ k s HS);go_wp2_with fail
 refine Qa.run (Pz HU (by omega) nb ve p0 q0) (HT) [1,3] ?_
 rintro e w1 gs ⟨rfl,g1,hg1,rfl⟩ HT;simp only [PU] at HT;have jM:=Vh hg1;clear hg1 c0;have c1:=(HT.c 0 0 65).trans HC.n;have f1:=HT.f 0 0 65;have c2:=(HT.c 0 0 64).trans BK;go_wp2_with fail
 refine Qa.run (q8t um k hk) (HT.set 0 0 rfl 65 (U2 U3 ((ky ss:Int)+1))) [] ?_
 rintro e w1 gs ⟨u2,rfl,rfl⟩ HT;simp only [PU] at HT;clear c1 f1 c2;have f2:=HT.f 0 0 64;have c2:=(HT.c 0 0 64).trans (show (C.setIfInBounds 65 (U2 U3 ((ky ss:Int)+1)))[64]?=some (U2 UD um) from by rw [U9 (by omega)];exact BK);go_wp2
 go_ret
 obtain ⟨mX,hF',hp'⟩:=HB.out { s with l:=s.l++[⟨nb,[ve]⟩] } g1 jM
 exact ⟨_,⟨rfl,_,⟨by rw [UJ];exact hl,_,mX,(HC.put hl HS (s':={ s with l:=s.l++[⟨nb,[ve]⟩] }) (n:=(ky ss:Int)+1) rfl (by have:=FM HS { s with l:=s.l++[⟨nb,[ve]⟩] };simp only [UI,U8,UC] at this;omega)).map (by rw [UJ];exact hl) u2,hF',rfl⟩,rfl⟩,
  (((HT.set 0 0 rfl 64 _).m [[cl vb 321 ((C.setIfInBounds 65 (U2 U3 ((ky ss:Int)+1))).setIfInBounds 64 (U2 UD u2))],g1++y]).bz 1 rfl hp').sum⟩
theorem Pw (hg:Yq vb ss g) {k:Nat} {s:Jd} (hs:ss[k]?=some s):∀ {h:GH} {w w':World} (T:TG h w [g] w'),w'.cell? ⟨vb,k,none⟩=some (Qb s.lb):=by
 obtain ⟨hl,C,gH,hC,hF,rfl⟩:=hg;intro h w w' T;exact (T.cell 0 0 rfl k).trans (hC.at_ k s hs)
theorem qo3 {k:Nat} {s:Jd} {nb:Nat} {ve:Value} {l:List Nd} (hg:Yq vb ss g) (hs:ss[k]?=some s) (hsl:s.l=⟨nb,[ve]⟩::l) (hk:k<64) (ht:ky ss<=1000000) :
 Qa prog 325 #[Qb vb,U2 U3 k,Qb nb] [g] fun e gs =>
  e=U5 (U2 U3 0)/\∃ g',Yq vb (ss.set k { s with l:=l }) g'/\gs=[g',[cl nb 378 #[ve,U1 none,U1 none,U1 none]]]:=by
 have hge:=LG hs;rw [hsl] at hge;simp only [U8] at hge;have hts:=FM hs { s with l:=l };rw [hsl] at hts;simp only [U8] at hts;obtain ⟨hl,C,gH,hC,hF,rfl⟩:=hg;obtain ⟨u,y,hu,hp,hback⟩:=hF.out hs;refine GO fun w HT=>?_
 have HT:=Vh (((HT.m [[cl vb 321 C],gH]).bz 1 rfl hp).m [[cl vb 321 C],u,y]);have HC:=Vh hC;have HU:=Vh hu;have HB:=Vh hback;have HP:=Vh hp;have HS:=Vh hs;clear hC hF hu hp hback hs;obtain ⟨um,CK⟩:=HC.used;have BK:=Vh CK;have hsz:=HC.size;have c0:=(HT.cell 0 0 rfl k).trans (HC.at_ k s HS);have hkb:(k:Int)<64:=by omega
 have Fa:=HU.out;unfold Fs at Fa;rw [hsl] at Fa;have GM:=Vh Fa;clear CK Fa c0;go_enter func325,ntmps325
 go_wp2_with fail
 refine Qd.run (Ko vb k hk) HT [] ?_
 rintro e wq rfl HT;have c0:=(HT.cell 0 0 rfl k).trans (HC.at_ k s HS);go_wp2_with fail
 refine Qa.run (qkn nb GM (by omega)) (HT) [1] ?_
 rintro e w1 gs ⟨rfl,g1,hg1,rfl⟩ HT;simp only [PU] at HT;have jM:=Vh hg1;clear hg1 c0;have c1:=(HT.c 0 0 65).trans HC.n;have f1:=HT.f 0 0 65;have c0:=(HT.cell 0 0 rfl k).trans (HC.at_ k s HS);obtain ⟨n',hn'⟩:∃ n':Nat,ky ss=n'+1:=⟨ky ss - 1,by omega⟩;go_wp2_with fail
 have HT:=Vh (HT.out.set 0 0 rfl 65 (U2 U3 n'));clear c0 c1 f1;have hlen:=qsu jM;generalize UU _ _ _=w5 at HT |-;have qH:=Vh (HC.out.put hl HS (s':={ s with l:=l }) (n:=(n':Int)) rfl (by omega));refine Qd.run hlen HT [1] ?_
 rintro e w7 rfl HT;obtain ⟨mX,hF',hp'⟩:=HB.out { s with l:=l } g1 jM;have M4:=Vh hF';have bF:=Vh hp';clear hlen hF' hp';rcases LW l with rfl | ⟨yy,mm,rfl⟩
 ·simp only [UC]
  have c2:=(HT.c 0 0 64).trans (show (C.setIfInBounds 65 (U2 U3 n'))[64]?=some (U2 UD um) from by rw [U9 (by omega)];exact BK);go_wp2_with fail
  refine Qa.run (qyq um k hk) (HT) [] ?_
  rintro e w1 gs ⟨u2,rfl,rfl⟩ HT;simp only [PU] at HT;clear c2;have f2:=HT.f 0 0 64;have c2:=(HT.c 0 0 64).trans (show (C.setIfInBounds 65 (U2 U3 n'))[64]?=some (U2 UD um) from by rw [U9 (by omega)];exact BK);go_wp2
  go_ret
  exact ⟨_,⟨rfl,_,⟨by rw [UJ];exact hl,_,mX,qH.map (by rw [UJ];exact hl) u2,M4,rfl⟩,rfl⟩,
   (((HT.set 0 0 rfl 64 _).sum (H':=[[cl vb 321 ((C.setIfInBounds 65 (U2 U3 n')).setIfInBounds 64 (U2 UD u2))],g1++y,[cl nb 378 #[ve,U1 none,U1 none,U1 none]]])).bz 1 rfl bF).sum⟩
 ·have hb:((((yy::mm).length:Nat):Int) == 0)=false:=beq_eq_false_iff_ne.2 (by simp only [U8];omega)
  generalize (((yy::mm).length:Nat):Int)=len at hb |-;go_wp2
  go_ret
  exact ⟨_,⟨rfl,_,⟨by rw [UJ];exact hl,_,mX,qH,M4,rfl⟩,rfl⟩,
   ((HT.sum (H':=[[cl vb 321 (C.setIfInBounds 65 (U2 U3 n'))],g1++y,[cl nb 378 #[ve,U1 none,U1 none,U1 none]]])).bz 1 rfl bF).sum⟩
theorem OI (hg:Yq vb ss g) {k:Nat} {s:Jd} (hs:ss[k]?=some s):Qd prog 324 #[Qb s.lb] [g] (nxV (U1 none) s.l):=by
 obtain ⟨hl,C,gH,hC,hF,rfl⟩:=hg;obtain ⟨u,y,hu,hp,hback⟩:=hF.out hs;intro w hw;have T:=(((TG.refl hw).m [[cl vb 321 C],gH]).bz 1 rfl hp).m [[cl vb 321 C],u,y];exact (qmh hu).use T [1] rfl rfl
theorem q4f (hg:Yq vb ss g) {k:Nat} {s:Jd} (hs:ss[k]?=some s):∀ a∈s.l,a.v.length=1:=by
 obtain ⟨hl,C,gH,hC,hF,rfl⟩:=hg;obtain ⟨u,y,hu,_,_⟩:=hF.out hs;exact hu.1
def q9 (a:Nd) (g:List ak):Prop:=g=[cl a.b 378 (a.v++[Value.pointer none,Value.pointer none,Value.pointer none]).toArray]
def Om:Value->Nat
 | .slice _ n _=>n
 | _=>0
theorem qwc (hg:Yq vb ss g) {k:Nat} {s:Jd} (hs:ss[k]?=some s) (hk:k<64) (ht:ky ss<=1000000) :
 Qa prog 311 #[Qb vb,U2 U3 k] [g] fun e gs =>
  ∃ v gr gn g',e=U5 v/\Q3 315 1 v s.l.length (s.l.map fun a=>Qb a.b) gr/\Yy q9 s.l gn/\Yq vb (ss.set k { s with l:=[] }) g'/\gs=[g',gr,gn]:=by
 have hkl:=(UL.1 hs).1;have hge:=LG hs;have hset:∀ l,(ss.set k { s with l:=l })[k]?=some { s with l:=l }:=fun l=>List.getElem?_set_self hkl
 have htot:∀ l,ky (ss.set k { s with l:=l })+s.l.length=ky ss+l.length:=fun l=>FM hs { s with l:=l }
 have wZ:=q4f hg hs;have HF0:=Vh (OI hg hs);have wO:=Vh (show ∀ (h:GH) (w w':World),TG h w [g] w'->w'.cell? ⟨vb,k,none⟩=some (Qb s.lb) from fun _ _ _ T=>Pw hg hs T);have hsame:ss.set k { s with l:=s.l }=ss:=Yh hs;have HG:=Vh (show Yq vb (ss.set k { s with l:=s.l }) g from by rw [hsame];exact hg);refine GO fun w HT=>?_
 have HV:=Vh wZ;have GD:=Vh hset;have mr:=Vh htot;have c0:=wO.out _ _ _ HT;have hkb:(k:Int)<64:=by omega
 clear hg hs wZ hset htot hsame hkl;go_enter func311,ntmps311
 go_wp2_with fail
 refine Qd.run (Ko vb k hk) HT [] ?_
 rintro e wq rfl HT;clear c0;have c0:=wO.out _ _ _ HT;go_wp2_with fail
 refine Qd.run HF0 HT [0] ?_
 rintro e wq rfl HT;go_wp2
 clear c0;have HT:=Vh (HT.out.m [g,[],[]])
 go_loopw [5,6] (fun v p wr=>∃ l1 l2 g1 gr gn,s.l=l1++l2/\p=nxV (U1 none) l2/\Q3 315 1 v l1.length (l1.map fun a=>Qb a.b) gr/\Yy q9 l1 gn/\Yq vb (ss.set k { s with l:=l2 }) g1/\TG [g] w [g1,gr,gn] wr) (fun v p _=>s.l.length - Om v)
 case atStart=>exact ⟨[],s.l,g,[],[],rfl,rfl,X7 _ _,rfl,HG,HT⟩
 case round =>
  obtain ⟨l1,l2,g1,gr,gn,hl,rfl,hr,hn,hg1,T⟩:=hrel;have HL:=Vh hl;have HN:=Vh hn;have jM:=Vh hg1;have RR:=Vh hr;have HT:=Vh T;have hlen:s.l.length=l1.length+l2.length:=by rw [hl,UI]
  obtain ⟨av,cap,rfl⟩:=Q3.val hr;clear hl hn hg1 hr T HG;cases l2 with
  | nil =>
    simp only [iw];go_wp2
    go_ret
    have e:s.l=l1:=by rw [HL.out,UF]
    exact ⟨_,⟨_,gr,gn,g1,rfl,by rw [e];exact RR,by rw [e];exact HN,jM,rfl⟩,HT⟩
  | cons a l3 =>
    obtain ⟨nb,vv⟩:=a;have hv1:vv.length=1:=HV.out ⟨nb,vv⟩ (by rw [HL.out];simp)
    obtain ⟨ve,rfl⟩:∃ ve,vv=[ve]:=by
     match vv,hv1 with
     | [ve],_=>exact ⟨ve,rfl⟩
    simp only [aR];have ht2:ky (ss.set k { s with l:=⟨nb,[ve]⟩::l3 })<=1000000:=by have:=mr.out (⟨nb,[ve]⟩::l3);simp only [U8] at this hlen;omega
    have HRM:=Vh (qo3 jM (GD _) rfl hk ht2);clear hv1 ht2;go_wp2_with fail
    refine Qa.run HRM HT [0] ?_
    rintro e w1 gs ⟨rfl,g2,hg2,rfl⟩ HT;simp only [PU] at HT;rw [List.set_set] at hg2;have xQ:=Vh hg2;clear hg2;have Gt:=Vh (show ∀ (h:GH) (w w':World),TG h w [g2] w'->w'.cell? ⟨vb,k,none⟩=some (Qb s.lb) from fun _ _ _ T=>Pw xQ (GD _) T);have wP:=Vh (OI xQ (GD _));go_wp2_with (at_builtin;(with_reducible refine Z0 rfl (.tmp 31) (.tmp 33) 372 rfl 315 1 8 _ underlying372 Tryz.pN rfl (by decide) ((HT.out).aT _) 1 rfl rfl (RR.out) rfl ⟨w1.heap.size,0,none⟩ 1 1 [Qb nb] rfl rfl (Zy _ _ _) (by simp [Value.oneCell']) (by unfold maxLen;omega) (by omega) ?_);intro v1 w2 rO r1 T1;simp only [UY,UZ] at T1;have T1:=Vh T1;have c0:=Gt.out _ _ _ (T1.out.p [0]);have r1:=Vh r1)
    refine Qd.run wP T1 [0] ?_
    rintro e w4 rfl HT;have HN1:=Vh (Yy.snoc (P:=q9) (a:=⟨nb,[ve]⟩) HN (x:=[cl nb 378 #[ve,U1 none,U1 none,U1 none]]) (show q9 ⟨nb,[ve]⟩ _ from rfl));have MJ:=Vh (show Q3 315 1 v1 (l1++[(⟨nb,[ve]⟩:Nd)]).length ((l1++[(⟨nb,[ve]⟩:Nd)]).map fun a=>Qb a.b) rO from by simpa using r1.out);obtain ⟨av1,di,hv1⟩:=Q3.val MJ;simp only [UI,U8,UC,UR] at hv1;subst hv1;clear c0;go_wp2
    first | go_roundw | refine ⟨?rel,?measure⟩ | ((repeat apply Exists.intro);refine ⟨⟨?rel,rfl⟩,?measure⟩)
    case rel=>exact ⟨l1++[(⟨nb,[ve]⟩:Nd)],l3,g2,rO,_,by rw [HL.out];simp,rfl,MJ,HN1,xQ,HT.sum⟩
    case measure=>simp only [U8] at hlen;simp [Om];omega
end
end
end Go.Proofs.YtcneeepdclgdcaaGreat
